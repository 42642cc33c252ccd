/-  -/
import Derived.Test.YtlnpgbnhcondjaaGreatDoorTf
import Derived.Test.YtlnpgbnhcondjaaGreatDoorYM
namespace Go.Proofs.YtlnpgbnhcondjaaGreatDoor.Fx
open Vg Tf
set_option linter.unusedSimpArgs false
set_option linter.unusedVariables false
set_option maxRecDepth 100000
set_option maxHeartbeats 4000000
theorem wrnE' {T:List Tk}(p:Ps):(wrnP T p).e≠0:=by
 unfold wrnP stopP
 cases h0:p.e==0 with
 |true=>simp only[cond_true];cases (hereP T p).k==4<;>decide
 |false=>simp only[cond_false];simpa using h0
abbrev cuD:CuL:=⟨⟨[],[],[]⟩,⟨none,0⟩,⟨none,0⟩⟩
theorem curve_ {H:Hp}(T:List Tk)(hT:T.length≤40000)(g:GTk T)(sT:STk T)(hN:hNum T)(p:Ps)(h:p.at_<T.length)(f:Tk)(d:DgL)(hd:d.cus.length≤1000000):
  CallX H Tryz.prog 152 [.c (.p 1 0),.c (.p 4 0),tkV f] (pC T p d) (fun _:CuL=>Bo (curP T f d.cus.length p).1.isSome)
   (fun x=>bPs T (curP T f d.cus.length p).2::(match (curP T f d.cus.length p).1 with|some _=>[bDg (dgCc 21 (d.cus.length+1) d),bRw 21 CuL.r 110 (d.cus++[x]),bDd 11 110]|none=>[])) (fun x H'=>∀c,(curP T f d.cus.length p).1=some c→x.c=c∧x.ok H'):=by
 have clF:∀q,ClM (bPs T q::pC T p d):=fun q=>ClM.of (by simp only[List.all_cons,inMV (rowsC_isV _)];rfl)
 have clS:∀q x,ClM ([bPs T q,bDg (dgCc 21 (d.cus.length+1) d),bRw 21 CuL.r 110 (d.cus++[x]),bDd 11 110]++pC T p d):=fun q x=>ClM.of (by simp only[List.cons_append,List.nil_append,List.all_cons,inMV (rowsC_isV _)];rfl)
 have cl30:∀q cs,cs.all Cv.isV=true→ClM [bPs T q,(30,⟨false,cs,110⟩),bTkT T]:=fun q cs h=>ClM.of (by simp only[List.all_cons,inMV (rowsC_isV _),inMV h];rfl)
 have cl31:∀q n,ClM [bPs T q,(31,⟨false,[iC n],3⟩),bTkT T]:=fun q n=>ClM.of (by simp only[List.all_cons,inMV (rowsC_isV _)];rfl)
 have cl32:∀q n,ClM [bPs T q,(32,⟨false,[iC n],3⟩),bTkT T]:=fun q n=>ClM.of (by simp only[List.all_cons,inMV (rowsC_isV _)];rfl)
 have v_tk:∀T:List Tk,(rowsC (T.map Tk.r)).all Cv.isV=true:=fun _=>rowsC_isV _
 have v_cu:∀l:List CuL,(rowsC (l.map CuL.r)).all Cv.isV=true:=fun _=>rowsC_isV _
 refine CallX.mkS Tryz.func152 rfl en152 (by simp[Tryz.ntmps152]) (ClA.of rfl) (fun _=>by cases (curP T f d.cus.length p).1<;>rfl) (fun _=>by cases (curP T f d.cus.length p).1<;>rfl) fun C hR hP hH hL=>?_
 refine Sm.go 29 ?_
 refine vv ?_
 generalize hX:curP T f d.cus.length p=X at*
 unfold curP at hX
 have hi:=nameN_ 30 rfl T (by omega) sT p h [sC [],.v (.slice none 0 0),.v (.slice none 0 0)] rfl 0 (by simp) 110
 have hon:=(nam_on g h).1
 generalize namP T p=r at hi hon hX
 obtain⟨o,q1⟩:=r
 have hq1:q1.at_<T.length:=hon.2
 cases o with
 |none=>
  simp only[bnd,bndB]at hX
  subst hX
  simp only[Option.isSome_none]at hi
  refine CallQ.mi 42 hi (cl30 _ _ rfl) ⟨oS,oS,oS,trivial⟩ ?_
  refine vv ?_
  refine CallQ.guard (v:=Bo false) (xs:=[]) 44 (fun h=>by cases h) (fun h=>by cases h) ?_
  refine vv ?_
  refine CallQ.guard (v:=Bo false) (xs:=[]) 46 (fun h=>by cases h) (fun h=>by cases h) ?_
  refine vv ?_
  exact RetQ.of (hR cuD C hL (fun c hc=>by cases hc)) rfl scc rvv (SubV.sub0 ⟨oR,oL,oR,oR,oR,oR,oR,oR,oR,oR,trivial⟩) (clF _) (ClV.of rfl)
 |some x42=>
  simp only[bnd,bndB]at hX
  simp only[Option.isSome_some,List.set_cons_zero,List.set_cons_succ,unL,List.cons_append,List.nil_append,List.append_nil]at hi
  refine CallQ.mi 42 hi (cl30 _ _ rfl) ⟨oS,oS,oS,trivial⟩ ?_
  refine vv ?_
  have hi:=take_ T (by omega) q1 hq1 [61]
  have hon:=tak_on g [61] hq1
  generalize takP T [61] q1=r at hi hon hX
  obtain⟨o,q2⟩:=r
  have hq2:q2.at_<T.length:=hon.2
  cases o with
  |false=>
   simp only[bnd,bndB]at hX
   subst hX
   refine CallQ.mi 48 hi (pM_cl T _) ⟨oS,oS,trivial⟩ ?_
   refine vv ?_
   refine CallQ.guard (v:=Bo false) (xs:=[]) 50 (fun h=>by cases h) (fun h=>by cases h) ?_
   refine vv ?_
   exact RetQ.of (hR cuD C hL (fun c hc=>by cases hc)) rfl scc rvv (SubV.sub0 ⟨oR,oL,oR,oR,oR,oR,oR,oR,oR,oR,trivial⟩) (clF _) (ClV.of rfl)
  |true=>
   simp only[bnd,bndB]at hX
   refine CallQ.mi 48 hi (pM_cl T _) ⟨oS,oS,trivial⟩ ?_
   refine vv ?_
   have hi:=take_ T (by omega) q2 hq2 [40]
   have hon:=tak_on g [40] hq2
   generalize takP T [40] q2=r at hi hon hX
   obtain⟨o,q3⟩:=r
   have hq3:q3.at_<T.length:=hon.2
   cases o with
   |false=>
    simp only[bnd,bndB]at hX
    subst hX
    refine CallQ.mi 52 hi (pM_cl T _) ⟨oS,oS,trivial⟩ ?_
    refine vv ?_
    exact RetQ.of (hR cuD C hL (fun c hc=>by cases hc)) rfl scc rvv (SubV.sub0 ⟨oR,oL,oR,oR,oR,oR,oR,oR,oR,oR,trivial⟩) (clF _) (ClV.of rfl)
   |true=>
    simp only[bnd,bndB]at hX
    refine CallQ.mi 52 hi (pM_cl T _) ⟨oS,oS,trivial⟩ ?_
    refine vv ?_
    refine Sm.nilCell 33 1 3 30 1 rfl rfl rfl ?_
    refine Sm.nilCell 34 1 3 30 2 rfl rfl rfl ?_
    refine Sm.loopM (M0:=pC T p d) (α:={x:List Int×List Int×Ps//x.2.2.at_<T.length∧x.1.length=x.2.1.length∧x.1.length≤x.2.2.at_∧∃f,T.length≤x.2.2.at_+f∧prsP T f x.1 x.2.1 x.2.2=prsP T 40000 [] [] q3}) hP
     (fun x=>[(0,true,.c (.p 1 0)),(1,true,.c (.p 4 0)),(5,true,.c (.p 29 0)),(7,true,.c (.p 30 0))])
     (fun x=>[bPs T x.val.2.2,bDg (dgC d),bTkT T,bRw 11 CuL.r 110 d.cus,bDd 10 93,bDd 12 115,bDd 13 118,bDd 14 82,bDd 15 9,(29,⟨false,[nC f.k,sC f.s,nC f.l,nC f.c],57⟩),(30,⟨false,[sC x42,.sl 33 0 x.val.1.length 1,.sl 34 0 x.val.1.length 1],110⟩),(33,⟨false,x.val.1.map iC,3⟩),(34,⟨false,x.val.2.1.map iC,3⟩)])
     (fun x=>T.length-x.val.2.2.at_) ⟨([],[],q3),hq3,rfl,Nat.zero_le _,40000,by simp only;omega,rfl⟩ (fun x=>ClM.of (by simp only[List.all_cons,inMV (rowsC_isV _),inMV (v_iC2 _)];rfl)) (fun _=>ClE.of rfl) [(1,1),(4,4),(2,2),(11,11),(10,10),(12,12),(13,13),(14,14),(15,15),(29,29),(30,30),(33,33),(34,34)] ?_ ?_
    ·exact⟨rfl,⟨⟨rfl,rfl⟩,⟨rfl,rfl⟩,⟨rfl,rfl⟩,⟨rfl,rfl⟩,⟨rfl,rfl⟩,⟨rfl,rfl⟩,⟨rfl,rfl⟩,⟨rfl,rfl⟩,⟨rfl,rfl⟩,trivial⟩,⟨rfl,rfl,rfl,rfl,trivial⟩,⟨oR,oR,oV (renV (v_tk _)),oV (renV (v_cu _)),oR,oR,oR,oR,oR,oR,oR,oR,oR,trivial⟩⟩
    rintro⟨⟨xs,ys,q⟩,hq,hxy,hle,f',hf1,hf2⟩ J hb
    simp only at hb hq hxy hle hf1 hf2⊢
    obtain⟨f',rfl⟩:∃k,f'=k+1:=⟨f'-1,by omega⟩
    rw[prsP]at hf2
    have hi:=integerN_ 31 rfl T (by omega) q hq (hN _) [iC 0] rfl 0 (by simp) 3
    have hon:=int_on g hq
    generalize intP T q=r at hi hon hf2
    obtain⟨o,qa⟩:=r
    have hqa:qa.at_<T.length:=hon.1.2
    refine Sm.go 31 ?_
    refine vv ?_
    cases o with
    |none=>
     simp only[bnd]at hf2
     rw[←hf2]at hX
     simp only[bnd]at hX
     subst hX
     simp only[Option.isSome_none]at hi
     refine CallQ.mi 40 hi (cl31 _ _) ⟨oS,oS,oS,trivial⟩ ?_
     refine vv ?_
     refine CallQ.guard (v:=Bo false) (xs:=[]) 50 (fun h=>by cases h) (fun h=>by cases h) ?_
     refine vv ?_
     exact RetQ.of (hR cuD C hL (fun c hc=>by cases hc)) rfl scc rvv (SubV.sub0 ⟨oR,oL,oR,oR,oR,oR,oR,oR,oR,oR,trivial⟩) (clF _) (ClV.of rfl)
    |some xa=>
     simp only[bnd]at hf2
     simp only[Option.isSome_some,List.set_cons_zero]at hi
     refine CallQ.mi 40 hi (cl31 _ _) ⟨oS,oS,oS,trivial⟩ ?_
     refine vv ?_
     have hga:q.at_<qa.at_:=hon.2 rfl
     have hi:=integerN_ 32 rfl T (by omega) qa hqa (hN _) [iC 0] rfl 0 (by simp) 3
     have hon:=int_on g hqa
     generalize intP T qa=r at hi hon hf2
     obtain⟨o,qb⟩:=r
     have hqb:qb.at_<T.length:=hon.1.2
     cases o with
     |none=>
      simp only[bnd]at hf2
      rw[←hf2]at hX
      simp only[bnd]at hX
      subst hX
      simp only[Option.isSome_none]at hi
      refine CallQ.mi 44 hi (cl32 _ _) ⟨oS,oS,oS,trivial⟩ ?_
      refine vv ?_
      exact RetQ.of (hR cuD C hL (fun c hc=>by cases hc)) rfl scc rvv (SubV.sub0 ⟨oR,oL,oR,oR,oR,oR,oR,oR,oR,oR,trivial⟩) (clF _) (ClV.of rfl)
     |some xb=>
      have hgb:qa.at_<qb.at_:=hon.2 rfl
      simp only[bnd]at hf2
      simp only[Option.isSome_some,List.set_cons_zero]at hi
      refine CallQ.mi 44 hi (cl32 _ _) ⟨oS,oS,oS,trivial⟩ ?_
      refine vv ?_
      refine Sm.dgW [33,34] 50 11 mix ?_
      simp(maxSteps:=2000000) only[go_sem,Mem.wo]
      have hlx:(xs.map iC).length=xs.length:=List.length_map _
      have hly:(ys.map iC).length=xs.length:=by rw[List.length_map];exact hxy.symm
      have hax:List.take xs.length (xs.map iC)++[iC xa]=(xs++[xa]).map iC:=by rw[List.take_of_length_le (by omega),List.map_append];rfl
      have hay:List.take xs.length (ys.map iC)++[iC xb]=(ys++[xb]).map iC:=by rw[List.take_of_length_le (by omega),List.map_append];rfl
      refine DOpQ.opy [(50,⟨false,[iC xa],3⟩),(33,⟨false,xs.map iC,3⟩)] 60 (by simp(maxSteps:=2000000) only[go_sem,hlx,hax]<;>rfl) ?_ rfl ⟨⟨rfl,rfl,rfl⟩,⟨rfl,rfl,rfl⟩,trivial⟩ rfl rfl ?_
      ·exact⟨by omega,by omega,by omega⟩
      simp(maxSteps:=2000000) only[go_sem,Mem.wo]
      simp(maxSteps:=2000000) only[go_sem,hlx,hly,hay]
      refine⟨⟨by omega,by omega,by omega⟩,?_⟩
      have hLx:(xs++[xa]).length=xs.length+1:=by rw[List.length_append];rfl
      have hLy:(ys++[xb]).length=xs.length+1:=by rw[List.length_append,←hxy];rfl
      have his:=is_ T (by omega) qb hqb [44]
      refine CallQ.mi 80 his (pM_cl T _) ⟨oS,oS,trivial⟩ ?_
      cases hi44:isP T [44] qb with
      |true=>
       rw[hi44]at hf2
       simp only[cond_true]at hf2
       have hadv:=is_on g hqb hi44
       simp(maxSteps:=2000000) only[go_sem,aP (show T.length≤100000 by omega) hqb]
       have haq:(advP qb).at_=qb.at_+1:=rfl
       refine hb _ _ ⟨(xs++[xa],ys++[xb],advP qb),hadv.2,by simp only[hLx,hLy],by simp only[hLx];omega,f',by simp only;omega,hf2⟩ [(1,1),(4,4),(2,2),(11,11),(10,10),(12,12),(13,13),(14,14),(15,15),(29,29),(30,30),(33,60),(34,62)] (by simp only;omega) ?_
       simp only[hLx]
       exact⟨rfl,⟨⟨rfl,rfl⟩,⟨rfl,rfl⟩,⟨rfl,rfl⟩,⟨rfl,rfl⟩,⟨rfl,rfl⟩,⟨rfl,rfl⟩,⟨rfl,rfl⟩,⟨rfl,rfl⟩,⟨rfl,rfl⟩,trivial⟩,⟨rfl,rfl,rfl,rfl,trivial⟩,⟨oR,oR,oV (renV (v_tk _)),oV (renV (v_cu _)),oR,oR,oR,oR,oR,oR,oR,oV (renV (v_iC2 _)),oV (renV (v_iC2 _)),trivial⟩⟩
      |false=>
       rw[hi44]at hf2
       simp only[cond_false]at hf2
       rw[←hf2]at hX
       simp only[bnd]at hX
       clear hb
       refine vv ?_
       have hi:=take_ T (by omega) qb hqb [41]
       have hon:=tak_on g [41] hqb
       unfold clsP at hX
       have htw:(takP T [41] qb).1=false→(takP T [41] qb).2.e≠0:=fun hh=>by unfold takP at hh⊢;cases hb:isP T [41] qb with|true=>rw[hb]at hh;cases hh|false=>exact wrnE' qb
       generalize takP T [41] qb=r at hi hon hX htw
       obtain⟨o,qc⟩:=r
       have hqc:qc.at_<T.length:=hon.2
       cases o with
       |false=>
        have he0:=htw rfl
        have he:(qc.e==0)=false:=beq_eq_false_iff_ne.2 he0
        have hno:nolP T qc=qc:=by unfold nolP;rw[he];rfl
        simp only[Bool.not_false,cond_true]at hX
        rw[hno]at hX
        subst hX
        refine CallQ.mi 92 hi (pM_cl T _) ⟨oS,oS,trivial⟩ ?_
        refine vv ?_
        refine CallQ.guard (v:=tkV tk0) (xs:=[]) 94 (fun h=>by cases h) (fun h=>by cases h) ?_
        refine vv ?_
        rw[he]
        refine CallQ.guard (v:=Bo false) (xs:=[]) 96 (fun h=>by cases h) (fun h=>by cases h) ?_
        refine vv ?_
        exact RetQ.of (hR cuD C hL (fun c hc=>by cases hc)) rfl scc rvv (SubV.sub0 ⟨oR,oL,oR,oR,oR,oR,oR,oR,oR,oR,trivial⟩) (clF _) (ClV.of rfl)
       |true=>
        simp only[Bool.not_true,cond_false]at hX
        refine CallQ.mi 98 hi (pM_cl T _) ⟨oS,oS,trivial⟩ ?_
        refine vv ?_
        have hh:=here_ T (by omega) qc hqc
        have hen:=end_ T (by omega) qc hqc
        have e4:((hereP T qc).k==4)=(((hereP T qc).k:Int)==4):=(kB _ 4).symm
        rw[e4]at hX
        refine CallQ.mi 100 hh (pM_cl T _) ⟨oS,oS,trivial⟩ ?_
        cases hk:((hereP T qc).k:Int)==4 with
        |false=>
         rw[hk]at hX
         simp only[Bool.not_false,cond_true]at hX
         have hen1:endP T qc=(false,stopP qc (hereP T qc).l (hereP T qc).c 3):=by unfold endP;rw[e4,hk];rfl
         rw[hen1]at hen
         simp(maxSteps:=2000000) only[go_sem,hk,bne]
         cases he:(qc.e==0)with
         |true=>
          have hno:nolP T qc=stopP qc (hereP T qc).l (hereP T qc).c 3:=by unfold nolP;rw[he,hen1];rfl
          rw[hno]at hX
          subst hX
          refine CallQ.mi 102 hen (pM_cl T _) ⟨oS,oS,trivial⟩ ?_
          refine vv ?_
          exact RetQ.of (hR cuD C hL (fun c hc=>by cases hc)) rfl scc rvv (SubV.sub0 ⟨oR,oL,oR,oR,oR,oR,oR,oR,oR,oR,trivial⟩) (clF _) (ClV.of rfl)
         |false=>
          have hno:nolP T qc=qc:=by unfold nolP;rw[he];rfl
          rw[hno]at hX
          subst hX
          refine CallQ.guard (v:=Bo false) (xs:=[]) 104 (fun h=>by cases h) (fun h=>by cases h) ?_
          refine vv ?_
          exact RetQ.of (hR cuD C hL (fun c hc=>by cases hc)) rfl scc rvv (SubV.sub0 ⟨oR,oL,oR,oR,oR,oR,oR,oR,oR,oR,trivial⟩) (clF _) (ClV.of rfl)
        |true=>
         rw[hk]at hX
         simp only[Bool.not_true,cond_false]at hX
         simp(maxSteps:=2000000) only[go_sem,hk,bne]
         refine CallQ.letgo (xs:=[_]) (M0:=pC T p d) [60,62] hL hP rfl (by unfold concOk;simp only[List.all_cons,cokV (v_iC2 _),cokV (rowsC_isV _)];rfl) rfl en109 rfl rfl (fun β C1 l1 k1 kn=>?_)
         obtain⟨sx,hvx,hkx⟩:=(kn 60 _ rfl rfl rfl).vslx (sz:=1) (rows:=intsR (xs++[xa])) (fun r hr=>by obtain⟨a,_,rfl⟩:=List.mem_map.1 hr;rfl) (intsC _).symm
         obtain⟨sy,hvy,hky⟩:=(kn 62 _ rfl rfl rfl).vslx (sz:=1) (rows:=intsR (ys++[xb])) (fun r hr=>by obtain⟨a,_,rfl⟩:=List.mem_map.1 hr;rfl) (intsC _).symm
         have eix:(intsR (xs++[xa])).length=xs.length+1:=by unfold intsR;rw[List.length_map];exact hLx
         have eiy:(intsR (ys++[xb])).length=xs.length+1:=by unfold intsR;rw[List.length_map];exact hLy
         rw[eix]at hvx hkx
         rw[eiy]at hvy hky
         simp only[Mem.conc,Env.conc,Bk.conc,Cv.conc,V.conc,List.map_cons,List.map_nil,List.contains_cons,List.contains_nil,Nat.reduceBEq,Bool.or_false,Bool.or_true,cond_true,cond_false,concV (rowsC_isV _),concV (v_iC2 _),hvx,hvy]
         have hcv:=cvalid (H:=C1.hp) sx sy (xs++[xa]) (ys++[xb]) (by rw[hLx];exact hkx) (by rw[hLy];exact hky) (by omega) (by omega)
         rw[hLx,hLy]at hcv
         refine CallW.h 106 l1 hcv (Hp.le.refl _) rfl (fun C2 l2 k2=>?_)
         cases hf:cuOk (xs++[xa]) (ys++[xb])with
         |false=>
          rw[hf]at hX
          simp only[Bool.not_false,cond_true]at hX
          subst hX
          simp(maxSteps:=2000000) only[go_sem,hf]
          refine CallQ.mi 108 (stop_ T qc f.l f.c 1) (pM_cl T _) ⟨oS,oS,trivial⟩ ?_
          refine vv ?_
          exact RetQ.of (hR cuD C2 l2 (fun c hc=>by cases hc)) rfl scc rvv (SubV.sub0 ⟨oR,oL,oR,oR,oR,oR,oR,oR,oR,oR,trivial⟩) (clF _) (ClV.of rfl)
         |true=>
          rw[hf]at hX
          simp only[Bool.not_true,cond_false]at hX
          simp(maxSteps:=2000000) only[go_sem,hf]
          refine Sm.dg 110 7 mix ?_
          refine vv ?_
          have hfu:=full_ T qc f d.cus.length 30
          generalize fulP f d.cus.length 30 qc=r at hfu hX
          obtain⟨o,qf⟩:=r
          cases o with
          |false=>
           simp only[bndB]at hX
           subst hX
           refine CallQ.mi 112 hfu (pM_cl T _) ⟨oS,oS,trivial⟩ ?_
           refine vv ?_
           exact RetQ.of (hR cuD C2 l2 (fun c hc=>by cases hc)) rfl scc rvv (SubV.sub0 ⟨oR,oL,oR,oR,oR,oR,oR,oR,oR,oR,trivial⟩) (clF _) (ClV.of rfl)
          |true=>
           simp only[bndB]at hX
           subst hX
           refine CallQ.mi 114 hfu (pM_cl T _) ⟨oS,oS,trivial⟩ ?_
           refine vv ?_
           refine Sm.dgW [11] 20 8 mix ?_
           simp(maxSteps:=2000000) only[go_sem,Mem.wo]
           have hlen:=rows_len (r:=CuL.r) (k:=3) (fun _=>rfl) d.cus
           have hap:List.take (d.cus.length*3) (rowsC (d.cus.map CuL.r))++[sC x42,.v (vsl sx (xs++[xa]).length),.v (vsl sy (ys++[xb]).length)]=rowsC ((d.cus++[(⟨⟨x42,xs++[xa],ys++[xb]⟩,sx,sy⟩:CuL)]).map CuL.r):=rows_app CuL.r (fun _=>rfl) d.cus (⟨⟨x42,xs++[xa],ys++[xb]⟩,sx,sy⟩:CuL)
           rw[hLx,hLy]at hap
           refine DOpQ.opy [(20,⟨false,[sC x42,.v (vsl sx (xs.length+1)),.v (vsl sy (xs.length+1))],110⟩),(11,⟨false,rowsC (d.cus.map CuL.r),110⟩)] 21 (by simp(maxSteps:=2000000) only[go_sem,hlen,hap]<;>rfl) ?_ rfl ⟨⟨rfl,rfl,rfl⟩,⟨rfl,rfl,rfl⟩,trivial⟩ rfl rfl ?_
           ·exact⟨by omega,by omega,by omega⟩
           simp(maxSteps:=2000000) only[go_sem,hlen]
           exact RetQ.of (hR (⟨⟨x42,xs++[xa],ys++[xb]⟩,sx,sy⟩:CuL) C2 l2 (fun c hc=>by cases hc;exact⟨rfl,by rw[hLx];exact hkx.mono k2,by rw[hLy];exact hky.mono k2⟩)) rfl scc rvv (SubV.sub0 ⟨oR,oR,oR,oR,oL,oL,oR,oL,oR,oR,oR,oR,oR,trivial⟩) (clS _ _) (ClV.of rfl)
end Go.Proofs.YtlnpgbnhcondjaaGreatDoor.Fx
