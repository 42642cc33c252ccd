/-  -/
import Derived.Test.YtlnpgbnhcondjaaGreatDoorTf
import Derived.Test.YtlnpgbnhcondjaaGreatDoorYP
namespace Go.Proofs.YtlnpgbnhcondjaaGreatDoor.Fx
open Vg Tf
set_option linter.unusedSimpArgs false
set_option linter.unusedVariables false
set_option maxRecDepth 100000
set_option maxHeartbeats 4000000
theorem _root_.Go.Proofs.YtlnpgbnhcondjaaGreatDoor.Vg.CallQ.xS {P:Program}{nt:Nat}{C Ck:Cx}{todo:List It}{e:Env}{M:Mem}{H:Hp}{f:FuncId}{vs:List (Option (Bool×V))}{g:Bool}{dst:Option Nat}{xs:List V}{M1:Mem}{α:Type}{v:α→V}{N:α→Mem}{Q:α→Hp→Prop}(hL:Lf C Ck)(hc:CallX H P f xs M1 v N Q)(hH:H.le Ck.hp)(hs:Sub M1 M)(hcl:ClM M1)(hfr:∀x,Fresh (N x) M1 M)(hg:g=true)(hvs:vs=xs.map fun x=>some (true,x))(hd:dstOk nt dst=true)
  (h:∀x Cn H',Lf C Cn→Ck.hp.le Cn.hp→H'.le Cn.hp→Q x H'→Sm P nt Cn todo (e.put dst g (v x)) (N x++M)):CallQ P nt Ck f vs g dst todo e M:=by
 subst hg
 refine .inr ⟨rfl,xs,hvs,hc.1,fun β a w h1 h2 h3 h4=>(hc.at hL hH hs hcl hfr h1).mono ?_⟩
 rintro en w' ⟨x,Cn,β2,u,H',rfl,l1,l2,l3,hQ,g1,g2,g3⟩
 refine⟨u,rfl,?_⟩
 rw[hL.q,←l1.q,hL.lp,←l1.lp]
 refine h x Cn H' l1 l2 l3 hQ β2 _ w' g2 ?_ ?_ ?_
 ·exact EnvOk.put h2 g1 h3 (dstOk_lt hd) (fun β'' hb=>by rw[g3 β'' hb];rfl)
 ·cases dst<;>simp[Act.put,h3]
 ·have h4:=h4.trans (hL.df.trans l1.df.symm)
  cases dst<;>simp[Act.put,h4]
theorem its_len {T:List Tk}(g:GTk T)(a b:Str):∀(f:Nat) (l:List Int) (p:Ps),p.at_<T.length→∀l',(itsP T a b f l p).1=some l'→l'.length+p.at_≤l.length+(itsP T a b f l p).2.at_
 |0,l,p,h,l',hl=>by cases hl
 |f+1,l,p,h,l',hl=>by
  rw[itsP]at hl⊢
  cases hc:(!l.isEmpty&&(isP T a p||isP T b p))with
  |true=>rw[hc]at hl;cases hl;exact Nat.le_refl _
  |false=>
   rw[hc]at hl
   have hon:=int_on g h
   generalize intP T p=r at hl hon⊢
   obtain⟨o,q⟩:=r
   cases o with
   |none=>cases hl
   |some n=>
    have hl:(itsP T a b f (l++[n]) q).1=some l':=hl
    have hq:p.at_<q.at_:=hon.2 rfl
    have:=its_len g a b f (l++[n]) q hon.1.2 l' hl
    rw[List.length_append,List.length_singleton]at this
    show _≤_+(itsP T a b f (l++[n]) q).2.at_
    omega
theorem its_pos {T:List Tk}(g:GTk T)(a b:Str)(p:Ps)(h:p.at_<T.length):(itsP T a b 40000 [] p).1.isSome=true→p.at_<(itsP T a b 40000 [] p).2.at_:=by
 intro hh
 rw[show itsP T a b 40000 [] p=bnd (intP T p) fun n q=>itsP T a b 39999 ([]++[n]) q from rfl]at hh⊢
 have hon:=int_on g h
 generalize intP T p=r at hh hon⊢
 obtain⟨o,q⟩:=r
 cases o with
 |none=>cases hh
 |some n=>
  have hq:p.at_<q.at_:=hon.2 rfl
  have:=(its_on g a b 39999 ([]++[n]) q hon.1.2).1
  exact Nat.lt_of_lt_of_le hq this
abbrev maD:MpL:=⟨[],[],[],[],⟨none,0⟩,⟨none,0⟩,⟨none,0⟩⟩
@[reducible] def zRw (v:Sv×List Int):List Value:=[vsl v.1 v.2.length]
theorem map_ {H:Hp}(T:List Tk)(hT:T.length≤40000)(g:GTk T)(sT:STk T)(hN:hNum T)(p:Ps)(h:p.at_<T.length)(f:Tk)(d:DgL)(hd:d.mas.length≤1000000):
  CallX H Tryz.prog 153 [.c (.p 1 0),.c (.p 4 0),tkV f] (pMm T p d) (fun _:MpL=>Bo (mapP T f d.mas.length p).1.isSome)
   (fun x=>bPs T (mapP T f d.mas.length p).2::(match (mapP T f d.mas.length p).1 with|some _=>[bDg (dgCm 22 (d.mas.length+1) d),bRw 22 MpL.r 115 (d.mas++[x]),bDd 12 115]|none=>[])) (fun x H'=>∀c,(mapP T f d.mas.length p).1=some c→x.c=c∧x.ok H'):=by
 have clF:∀q,ClM (bPs T q::pMm T p d):=fun q=>ClM.of (by simp only[List.all_cons,inMV (rowsC_isV _)];rfl)
 have clS:∀q x,ClM ([bPs T q,bDg (dgCm 22 (d.mas.length+1) d),bRw 22 MpL.r 115 (d.mas++[x]),bDd 12 115]++pMm T p d):=fun q x=>ClM.of (by simp only[List.cons_append,List.nil_append,List.all_cons,inMV (rowsC_isV _)];rfl)
 have cl30:∀q cs,cs.all Cv.isV=true→ClM [bPs T q,(30,⟨false,cs,115⟩),bTkT T]:=fun q cs h=>ClM.of (by simp only[List.all_cons,inMV (rowsC_isV _),inMV h];rfl)
 have cl31:∀q cs,cs.all Cv.isV=true→ClM [bPs T q,(31,⟨false,cs,73⟩),bTkT T]:=fun q cs h=>ClM.of (by simp only[List.all_cons,inMV (rowsC_isV _),inMV h];rfl)
 have v_tk:∀T:List Tk,(rowsC (T.map Tk.r)).all Cv.isV=true:=fun _=>rowsC_isV _
 have v_ma:∀l:List MpL,(rowsC (l.map MpL.r)).all Cv.isV=true:=fun _=>rowsC_isV _
 have v_zr:∀l:List (Sv×List Int),(rowsC (l.map zRw)).all Cv.isV=true:=fun _=>rowsC_isV _
 refine CallX.mkS Tryz.func153 rfl en153 (by simp[Tryz.ntmps153]) (ClA.of rfl) (fun _=>by cases (mapP T f d.mas.length p).1<;>rfl) (fun _=>by cases (mapP T f d.mas.length p).1<;>rfl) fun C hR hP hH hL=>?_
 refine Sm.go 29 ?_
 refine vv ?_
 generalize hX:mapP T f d.mas.length p=X at*
 unfold mapP at hX
 have hi:=nameN_ 30 rfl T (by omega) sT p h [sC [],.v (.slice none 0 0),.v (.slice none 0 0),.v (.slice none 0 0)] rfl 0 (by simp) 115
 have hon:=(nam_on g h).1
 generalize namP T p=r at hi hon hX
 obtain⟨o,q1⟩:=r
 have hq1:q1.at_<T.length:=hon.2
 cases o with
 |none=>
  simp only[bnd,bndB]at hX
  subst hX
  simp only[Option.isSome_none]at hi
  refine CallQ.mi 42 hi (cl30 _ _ rfl) ⟨oS,oS,oS,trivial⟩ ?_
  refine vv ?_
  refine CallQ.guard (v:=Bo false) (xs:=[]) 44 (fun h=>by cases h) (fun h=>by cases h) ?_
  refine vv ?_
  refine CallQ.guard (v:=Bo false) (xs:=[]) 46 (fun h=>by cases h) (fun h=>by cases h) ?_
  refine vv ?_
  refine CallQ.guard (v:=Bo false) (xs:=[]) 48 (fun h=>by cases h) (fun h=>by cases h) ?_
  refine vv ?_
  refine CallQ.guard (v:=Bo false) (xs:=[]) 50 (fun h=>by cases h) (fun h=>by cases h) ?_
  refine vv ?_
  refine CallQ.guard (v:=Bo false) (xs:=[]) 52 (fun h=>by cases h) (fun h=>by cases h) ?_
  refine vv ?_
  refine CallQ.guard (v:=Bo false) (xs:=[]) 54 (fun h=>by cases h) (fun h=>by cases h) ?_
  refine vv ?_
  exact RetQ.of (hR maD C hL (fun c hc=>by cases hc)) rfl scc rvv (SubV.sub0 ⟨oR,oL,oR,oR,oR,oR,oR,oR,oR,oR,trivial⟩) (clF _) (ClV.of rfl)
 |some x42=>
  simp only[bnd,bndB]at hX
  simp only[Option.isSome_some,List.set_cons_zero,List.set_cons_succ,unL,List.cons_append,List.nil_append,List.append_nil]at hi
  refine CallQ.mi 42 hi (cl30 _ _ rfl) ⟨oS,oS,oS,trivial⟩ ?_
  refine vv ?_
  have hi:=take_ T (by omega) q1 hq1 [61]
  have hon:=tak_on g [61] hq1
  generalize takP T [61] q1=r at hi hon hX
  obtain⟨o,q2⟩:=r
  have hq2:q2.at_<T.length:=hon.2
  cases o with
  |false=>
   simp only[bnd,bndB]at hX
   subst hX
   refine CallQ.mi 56 hi (pM_cl T _) ⟨oS,oS,trivial⟩ ?_
   refine vv ?_
   refine CallQ.guard (v:=Bo false) (xs:=[]) 58 (fun h=>by cases h) (fun h=>by cases h) ?_
   refine vv ?_
   refine CallQ.guard (v:=Bo false) (xs:=[]) 60 (fun h=>by cases h) (fun h=>by cases h) ?_
   refine vv ?_
   refine CallQ.guard (v:=Bo false) (xs:=[]) 62 (fun h=>by cases h) (fun h=>by cases h) ?_
   refine vv ?_
   refine CallQ.guard (v:=Bo false) (xs:=[]) 64 (fun h=>by cases h) (fun h=>by cases h) ?_
   refine vv ?_
   refine CallQ.guard (v:=Bo false) (xs:=[]) 66 (fun h=>by cases h) (fun h=>by cases h) ?_
   refine vv ?_
   exact RetQ.of (hR maD C hL (fun c hc=>by cases hc)) rfl scc rvv (SubV.sub0 ⟨oR,oL,oR,oR,oR,oR,oR,oR,oR,oR,trivial⟩) (clF _) (ClV.of rfl)
  |true=>
   simp only[bnd,bndB]at hX
   refine CallQ.mi 56 hi (pM_cl T _) ⟨oS,oS,trivial⟩ ?_
   refine vv ?_
   have hi:=take_ T (by omega) q2 hq2 [40]
   have hon:=tak_on g [40] hq2
   generalize takP T [40] q2=r at hi hon hX
   obtain⟨o,q3⟩:=r
   have hq3:q3.at_<T.length:=hon.2
   cases o with
   |false=>
    simp only[bnd,bndB]at hX
    subst hX
    refine CallQ.mi 68 hi (pM_cl T _) ⟨oS,oS,trivial⟩ ?_
    refine vv ?_
    refine CallQ.guard (v:=Bo false) (xs:=[]) 70 (fun h=>by cases h) (fun h=>by cases h) ?_
    refine vv ?_
    refine CallQ.guard (v:=Bo false) (xs:=[]) 72 (fun h=>by cases h) (fun h=>by cases h) ?_
    refine vv ?_
    refine CallQ.guard (v:=Bo false) (xs:=[]) 74 (fun h=>by cases h) (fun h=>by cases h) ?_
    refine vv ?_
    refine CallQ.guard (v:=Bo false) (xs:=[]) 76 (fun h=>by cases h) (fun h=>by cases h) ?_
    refine vv ?_
    exact RetQ.of (hR maD C hL (fun c hc=>by cases hc)) rfl scc rvv (SubV.sub0 ⟨oR,oL,oR,oR,oR,oR,oR,oR,oR,oR,trivial⟩) (clF _) (ClV.of rfl)
   |true=>
    simp only[bnd,bndB]at hX
    refine CallQ.mi 68 hi (pM_cl T _) ⟨oS,oS,trivial⟩ ?_
    refine vv ?_
    have hi:=integersN_ (H:=C.hp) 30 33 rfl T hT g q3 hq3 hN [59] [59] [sC x42] [.v (.slice none 0 0),.v (.slice none 0 0)] rfl rfl 115
    have hon:=its_on g [59] [59] 40000 [] q3 hq3
    have hln:=its_len g [59] [59] 40000 [] q3 hq3
    generalize itsP T [59] [59] 40000 [] q3=r at hi hon hln hX
    obtain⟨o,q4⟩:=r
    have hq4:q4.at_<T.length:=hon.2
    cases o with
    |none=>
     simp only[bnd]at hX
     subst hX
     simp only[Option.isSome_none]at hi
     refine CallQ.x 78 hL hi (Hp.le.refl _) (SubS.sub ⟨oS,oS,oS,trivial⟩) (cl30 _ _ rfl) (fun _=>Fresh.of rfl) rfl rfl rfl (fun z C1 H1 l1 k1 _ _=>?_)
     refine vv ?_
     refine CallQ.guard (v:=Bo false) (xs:=[]) 80 (fun h=>by cases h) (fun h=>by cases h) ?_
     refine vv ?_
     refine CallQ.guard (v:=Bo false) (xs:=[]) 82 (fun h=>by cases h) (fun h=>by cases h) ?_
     refine vv ?_
     refine CallQ.guard (v:=Bo false) (xs:=[]) 84 (fun h=>by cases h) (fun h=>by cases h) ?_
     refine vv ?_
     exact RetQ.of (hR maD C1 l1 (fun c hc=>by cases hc)) rfl scc rvv (SubV.sub0 ⟨oR,oL,oR,oR,oR,oR,oR,oR,oR,oR,trivial⟩) (clF _) (ClV.of rfl)
    |some lsx=>
     simp only[bnd]at hX
     simp only[Option.isSome_some,List.cons_append,List.nil_append]at hi
     refine CallQ.xS hL hi (Hp.le.refl _) (SubS.sub ⟨oS,oS,oS,trivial⟩) (cl30 _ _ rfl) (fun _=>Fresh.of rfl) rfl rfl rfl (fun z CXa H1 lXa kXa _ hz=>?_)
     have hz:=(hz lsx rfl).symm
     subst hz
     refine Sm.letgo (M0:=pMm T p d) [33] lXa hP rfl (by unfold concOk;simp only[List.cons_append,List.nil_append,List.all_cons,cokV (v_iC2 _),cokV (rowsC_isV _)];rfl) (fun β CXb lXb kXb kn=>?_)
     obtain⟨sx,hvsx,hksx⟩:=(kn 33 _ rfl rfl rfl).vslx (sz:=1) (rows:=intsR lsx) (fun r hr=>by obtain⟨a,_,rfl⟩:=List.mem_map.1 hr;rfl) (intsC _).symm
     have eisx:(intsR lsx).length=lsx.length:=by unfold intsR;rw[List.length_map]
     rw[eisx]at hvsx hksx
     simp only[Mem.conc,Env.conc,Bk.conc,Cv.conc,V.conc,List.cons_append,List.nil_append,List.map_cons,List.map_nil,List.contains_cons,List.contains_nil,Nat.reduceBEq,Bool.or_false,Bool.or_true,cond_true,cond_false,concV (rowsC_isV _),concV (v_iC2 _),hvsx]
     refine Sm.go 86 ?_
     refine vv ?_
     have hi:=take_ T (by omega) q4 hq4 [59]
     have hon:=tak_on g [59] hq4
     generalize takP T [59] q4=r at hi hon hX
     obtain⟨o,q5⟩:=r
     have hq5:q5.at_<T.length:=hon.2
     cases o with
     |false=>
      simp only[bnd,bndB]at hX
      subst hX
      refine CallQ.mi 88 hi (pM_cl T _) ⟨oS,oS,trivial⟩ ?_
      refine vv ?_
      refine CallQ.guard (v:=Bo false) (xs:=[]) 90 (fun h=>by cases h) (fun h=>by cases h) ?_
      refine vv ?_
      refine CallQ.guard (v:=Bo false) (xs:=[]) 92 (fun h=>by cases h) (fun h=>by cases h) ?_
      refine vv ?_
      exact RetQ.of (hR maD CXb lXb (fun c hc=>by cases hc)) rfl scc rvv (SubV.sub0 ⟨oR,oL,oR,oR,oR,oR,oR,oR,oR,oR,trivial⟩) (clF _) (ClV.of rfl)
     |true=>
      simp only[bnd,bndB]at hX
      refine CallQ.mi 88 hi (pM_cl T _) ⟨oS,oS,trivial⟩ ?_
      refine vv ?_
      have hi:=integersN_ (H:=CXb.hp) 30 33 rfl T hT g q5 hq5 hN [59] [59] [sC x42,.v (vsl sx lsx.length)] [.v (.slice none 0 0)] rfl rfl 115
      have hon:=its_on g [59] [59] 40000 [] q5 hq5
      have hln:=its_len g [59] [59] 40000 [] q5 hq5
      generalize itsP T [59] [59] 40000 [] q5=r at hi hon hln hX
      obtain⟨o,q6⟩:=r
      have hq6:q6.at_<T.length:=hon.2
      cases o with
      |none=>
       simp only[bnd]at hX
       subst hX
       simp only[Option.isSome_none]at hi
       refine CallQ.x 94 lXb hi (Hp.le.refl _) (SubS.sub ⟨oS,oS,oS,trivial⟩) (cl30 _ _ rfl) (fun _=>Fresh.of rfl) rfl rfl rfl (fun z C1 H1 l1 k1 _ _=>?_)
       refine vv ?_
       refine CallQ.guard (v:=Bo false) (xs:=[]) 96 (fun h=>by cases h) (fun h=>by cases h) ?_
       refine vv ?_
       exact RetQ.of (hR maD C1 l1 (fun c hc=>by cases hc)) rfl scc rvv (SubV.sub0 ⟨oR,oL,oR,oR,oR,oR,oR,oR,oR,oR,trivial⟩) (clF _) (ClV.of rfl)
      |some lsy=>
       simp only[bnd]at hX
       simp only[Option.isSome_some,List.cons_append,List.nil_append]at hi
       refine CallQ.xS lXb hi (Hp.le.refl _) (SubS.sub ⟨oS,oS,oS,trivial⟩) (cl30 _ _ rfl) (fun _=>Fresh.of rfl) rfl rfl rfl (fun z CYa H1 lYa kYa _ hz=>?_)
       have hz:=(hz lsy rfl).symm
       subst hz
       refine Sm.letgo (M0:=pMm T p d) [33] lYa hP rfl (by unfold concOk;simp only[List.cons_append,List.nil_append,List.all_cons,cokV (v_iC2 _),cokV (rowsC_isV _)];rfl) (fun β CYb lYb kYb kn=>?_)
       obtain⟨sy,hvsy,hksy⟩:=(kn 33 _ rfl rfl rfl).vslx (sz:=1) (rows:=intsR lsy) (fun r hr=>by obtain⟨a,_,rfl⟩:=List.mem_map.1 hr;rfl) (intsC _).symm
       have eisy:(intsR lsy).length=lsy.length:=by unfold intsR;rw[List.length_map]
       rw[eisy]at hvsy hksy
       simp only[Mem.conc,Env.conc,Bk.conc,Cv.conc,V.conc,List.cons_append,List.nil_append,List.map_cons,List.map_nil,List.contains_cons,List.contains_nil,Nat.reduceBEq,Bool.or_false,Bool.or_true,cond_true,cond_false,concV (rowsC_isV _),concV (v_iC2 _),hvsy]
       refine Sm.go 98 ?_
       refine vv ?_
       have hi:=take_ T (by omega) q6 hq6 [59]
       have hon:=tak_on g [59] hq6
       generalize takP T [59] q6=r at hi hon hX
       obtain⟨o,q7⟩:=r
       have hq7:q7.at_<T.length:=hon.2
       cases o with
       |false=>
        simp only[bnd,bndB]at hX
        subst hX
        refine CallQ.mi 100 hi (pM_cl T _) ⟨oS,oS,trivial⟩ ?_
        refine vv ?_
        exact RetQ.of (hR maD CYb lYb (fun c hc=>by cases hc)) rfl scc rvv (SubV.sub0 ⟨oR,oL,oR,oR,oR,oR,oR,oR,oR,oR,trivial⟩) (clF _) (ClV.of rfl)
       |true=>
        simp only[bnd,bndB]at hX
        refine CallQ.mi 100 hi (pM_cl T _) ⟨oS,oS,trivial⟩ ?_
        refine vv ?_
        refine Sm.nilCell 34 1 73 30 3 rfl rfl rfl ?_
        have hkx2:=hksx.mono (kYa.trans kYb)
        refine Sm.loopX (C:=C) (M0:=pMm T p d) (α:={x:List (Sv×List Int)×Ps//x.2.at_<T.length∧x.1.length≤x.2.at_∧(∀v∈x.1,v.2.length≤40000)∧∃f,T.length≤x.2.at_+f∧rwsP T f (x.1.map (·.2)) x.2=rwsP T 40000 [] q7}) lYb hP
         (fun x=>[(0,true,.c (.p 1 0)),(1,true,.c (.p 4 0)),(5,true,.c (.p 29 0)),(7,true,.c (.p 30 0))])
         (fun x=>[bPs T x.val.2,bDg (dgC d),bTkT T,bRw 12 MpL.r 115 d.mas,bDd 10 93,bDd 11 110,bDd 13 118,bDd 14 82,bDd 15 9,(29,⟨false,[nC f.k,sC f.s,nC f.l,nC f.c],57⟩),(30,⟨false,[sC x42,.v (vsl sx lsx.length),.v (vsl sy lsy.length),.sl 34 0 x.val.1.length 1],115⟩),(34,⟨false,rowsC (x.val.1.map zRw),73⟩)])
         (fun x hp=>SlH hp (vsl sx lsx.length) 1 (intsR lsx)∧SlH hp (vsl sy lsy.length) 1 (intsR lsy)∧∀v∈x.val.1,SlH hp (vsl v.1 v.2.length) 1 (intsR v.2)) (fun x=>T.length-x.val.2.at_) ⟨([],q7),hq7,Nat.zero_le _,(fun v hv=>by cases hv),40000,by simp only;omega,rfl⟩ ⟨hkx2,hksy,(fun v hv=>by cases hv)⟩ (fun x=>ClM.of (by simp only[List.all_cons,inMV (rowsC_isV _)];rfl)) (fun _=>ClE.of rfl) [(1,1),(4,4),(2,2),(12,12),(10,10),(11,11),(13,13),(14,14),(15,15),(29,29),(30,30),(34,34)] ?_ ?_
        ·exact⟨rfl,⟨⟨rfl,rfl⟩,⟨rfl,rfl⟩,⟨rfl,rfl⟩,⟨rfl,rfl⟩,⟨rfl,rfl⟩,⟨rfl,rfl⟩,⟨rfl,rfl⟩,⟨rfl,rfl⟩,⟨rfl,rfl⟩,trivial⟩,⟨rfl,rfl,rfl,rfl,trivial⟩,⟨oR,oR,oV (renV (v_tk _)),oV (renV (v_ma _)),oR,oR,oR,oR,oR,oR,oR,oV (renV (v_zr _)),trivial⟩⟩
        rintro⟨⟨zs,q⟩,hq,hle,hzl,f',hf1,hf2⟩ C3 J l3 ⟨iX,iY,iZ⟩ hb
        simp only at hb hq hle hzl iZ hf1 hf2⊢
        obtain⟨f',rfl⟩:∃k,f'=k+1:=⟨f'-1,by omega⟩
        rw[rwsP]at hf2
        refine Sm.go 31 ?_
        refine vv ?_
        have hi:=integersN_ (H:=C3.hp) 31 33 rfl T hT g q hq hN [44] [41] [] [] rfl rfl 73
        have hon:=its_on g [44] [41] 40000 [] q hq
        have hln:=its_len g [44] [41] 40000 [] q hq
        have hpr:(itsP T [44] [41] 40000 [] q).1.isSome=true→q.at_<(itsP T [44] [41] 40000 [] q).2.at_:=its_pos g [44] [41] q hq
        generalize itsP T [44] [41] 40000 [] q=r at hi hon hln hpr hf2
        obtain⟨o,qa⟩:=r
        have hqa:qa.at_<T.length:=hon.2
        cases o with
        |none=>
         simp only[bnd]at hf2
         rw[←hf2]at hX
         simp only[bnd]at hX
         subst hX
         simp only[Option.isSome_none,List.nil_append]at hi
         refine CallQ.x 40 l3 hi (Hp.le.refl _) (SubS.sub ⟨oS,oS,oS,trivial⟩) (cl31 _ _ rfl) (fun _=>Fresh.of rfl) rfl rfl rfl (fun z C1 H1 l1 k1 _ _=>?_)
         refine vv ?_
         exact RetQ.of (hR maD C1 l1 (fun c hc=>by cases hc)) rfl scc rvv (SubV.sub0 ⟨oR,oL,oR,oR,oR,oR,oR,oR,oR,oR,trivial⟩) (clF _) (ClV.of rfl)
        |some lr=>
         simp only[bnd]at hf2
         have hga:q.at_<qa.at_:=hpr rfl
         have hlr:lr.length+q.at_≤([]:List Int).length+qa.at_:=hln lr rfl
         rw[List.length_nil]at hlr
         simp only[Option.isSome_some,List.nil_append]at hi
         refine CallQ.xS l3 hi (Hp.le.refl _) (SubS.sub ⟨oS,oS,oS,trivial⟩) (cl31 _ _ rfl) (fun _=>Fresh.of rfl) rfl rfl rfl (fun z C4 H1 l4 k4 _ hz=>?_)
         have hz:=(hz lr rfl).symm
         subst hz
         refine Sm.letgo (M0:=pMm T p d) [33] l4 hP rfl (by unfold concOk;simp only[List.cons_append,List.nil_append,List.all_cons,cokV (v_iC2 _),cokV (rowsC_isV _)];rfl) (fun β C5 l5 k5 kn=>?_)
         obtain⟨sr,hvr,hkr⟩:=(kn 33 _ rfl rfl rfl).vslx (sz:=1) (rows:=intsR lr) (fun r hr=>by obtain⟨a,_,rfl⟩:=List.mem_map.1 hr;rfl) (intsC _).symm
         have eir:(intsR lr).length=lr.length:=by unfold intsR;rw[List.length_map]
         rw[eir]at hvr hkr
         have hlz:=rows_len (r:=zRw) (k:=1) (fun _=>rfl) zs
         rw[Nat.mul_one]at hlz
         have haz:List.take zs.length (rowsC (zs.map zRw))++[.v (vsl sr lr.length)]=rowsC ((zs++[(sr,lr)]).map zRw):=by have:=rows_app zRw (k:=1) (fun _=>rfl) zs (sr,lr);rw[Nat.mul_one]at this;exact this
         simp only[Mem.conc,Env.conc,Bk.conc,Cv.conc,V.conc,List.cons_append,List.nil_append,List.map_cons,List.map_nil,List.contains_cons,List.contains_nil,Nat.reduceBEq,Bool.or_false,Bool.or_true,cond_true,cond_false,concV (rowsC_isV _),concV (v_iC2 _),hvr]
         refine Sm.go 50 ?_
         simp(maxSteps:=2000000) only[go_sem,hlz,haz]
         refine⟨⟨by omega,by omega,by omega⟩,?_⟩
         have hLz:(zs++[(sr,lr)]).length=zs.length+1:=by rw[List.length_append];rfl
         have hmp:(zs++[(sr,lr)]).map (·.2)=zs.map (·.2)++[lr]:=by rw[List.map_append];rfl
         have iZ2:∀v∈zs++[(sr,lr)],SlH C5.hp (vsl v.1 v.2.length) 1 (intsR v.2):=fun v hv=>by
          rcases List.mem_append.1 hv with hv|hv
          ·exact(iZ v hv).mono (k4.trans k5)
          ·rw[List.mem_singleton]at hv;subst hv;exact hkr
         have hzl2:∀v∈zs++[(sr,lr)],v.2.length≤40000:=fun v hv=>by
          rcases List.mem_append.1 hv with hv|hv
          ·exact hzl v hv
          ·rw[List.mem_singleton]at hv;subst hv;show lr.length≤40000;omega
         have his:=is_ T (by omega) qa hqa [44]
         refine CallQ.mi 80 his (pM_cl T _) ⟨oS,oS,trivial⟩ ?_
         cases hi44:isP T [44] qa with
         |true=>
          rw[hi44]at hf2
          simp only[cond_true]at hf2
          have hadv:=is_on g hqa hi44
          simp(maxSteps:=2000000) only[go_sem,aP (show T.length≤100000 by omega) hqa]
          have haq:(advP qa).at_=qa.at_+1:=rfl
          refine hb _ _ C5 ⟨(zs++[(sr,lr)],advP qa),hadv.2,by simp only[hLz];omega,hzl2,f',by simp only;omega,by rw[hmp];exact hf2⟩ [(1,1),(4,4),(2,2),(12,12),(10,10),(11,11),(13,13),(14,14),(15,15),(29,29),(30,30),(34,51)] l5 ⟨iX.mono (k4.trans k5),iY.mono (k4.trans k5),iZ2⟩ (by simp only;omega) ?_
          simp only[hLz]
          exact⟨rfl,⟨⟨rfl,rfl⟩,⟨rfl,rfl⟩,⟨rfl,rfl⟩,⟨rfl,rfl⟩,⟨rfl,rfl⟩,⟨rfl,rfl⟩,⟨rfl,rfl⟩,⟨rfl,rfl⟩,⟨rfl,rfl⟩,trivial⟩,⟨rfl,rfl,rfl,rfl,trivial⟩,⟨oR,oR,oV (renV (v_tk _)),oV (renV (v_ma _)),oR,oR,oR,oR,oR,oR,oR,oV (renV (v_zr _)),trivial⟩⟩
         |false=>
          rw[hi44]at hf2
          simp only[cond_false]at hf2
          rw[←hf2]at hX
          simp only[bnd]at hX
          clear hb
          refine vv ?_
          have hi:=take_ T (by omega) qa hqa [41]
          have hon:=tak_on g [41] hqa
          unfold clsP at hX
          have htw:(takP T [41] qa).1=false→(takP T [41] qa).2.e≠0:=fun hh=>by unfold takP at hh⊢;cases hb:isP T [41] qa with|true=>rw[hb]at hh;cases hh|false=>exact wrnE' qa
          generalize takP T [41] qa=r at hi hon hX htw
          obtain⟨o,qc⟩:=r
          have hqc:qc.at_<T.length:=hon.2
          cases o with
          |false=>
           have he0:=htw rfl
           have he:(qc.e==0)=false:=beq_eq_false_iff_ne.2 he0
           have hno:nolP T qc=qc:=by unfold nolP;rw[he];rfl
           simp only[Bool.not_false,cond_true]at hX
           rw[hno]at hX
           subst hX
           refine CallQ.mi 92 hi (pM_cl T _) ⟨oS,oS,trivial⟩ ?_
           refine vv ?_
           refine CallQ.guard (v:=tkV tk0) (xs:=[]) 94 (fun h=>by cases h) (fun h=>by cases h) ?_
           refine vv ?_
           rw[he]
           refine CallQ.guard (v:=Bo false) (xs:=[]) 96 (fun h=>by cases h) (fun h=>by cases h) ?_
           refine vv ?_
           exact RetQ.of (hR maD C5 l5 (fun c hc=>by cases hc)) rfl scc rvv (SubV.sub0 ⟨oR,oL,oR,oR,oR,oR,oR,oR,oR,oR,trivial⟩) (clF _) (ClV.of rfl)
          |true=>
           simp only[Bool.not_true,cond_false]at hX
           refine CallQ.mi 98 hi (pM_cl T _) ⟨oS,oS,trivial⟩ ?_
           refine vv ?_
           have hh:=here_ T (by omega) qc hqc
           have hen:=end_ T (by omega) qc hqc
           have e4:((hereP T qc).k==4)=(((hereP T qc).k:Int)==4):=(kB _ 4).symm
           rw[e4]at hX
           refine CallQ.mi 100 hh (pM_cl T _) ⟨oS,oS,trivial⟩ ?_
           cases hk:((hereP T qc).k:Int)==4 with
           |false=>
            rw[hk]at hX
            simp only[Bool.not_false,cond_true]at hX
            have hen1:endP T qc=(false,stopP qc (hereP T qc).l (hereP T qc).c 3):=by unfold endP;rw[e4,hk];rfl
            rw[hen1]at hen
            simp(maxSteps:=2000000) only[go_sem,hk,bne]
            cases he:(qc.e==0)with
            |true=>
             have hno:nolP T qc=stopP qc (hereP T qc).l (hereP T qc).c 3:=by unfold nolP;rw[he,hen1];rfl
             rw[hno]at hX
             subst hX
             refine CallQ.mi 102 hen (pM_cl T _) ⟨oS,oS,trivial⟩ ?_
             refine vv ?_
             exact RetQ.of (hR maD C5 l5 (fun c hc=>by cases hc)) rfl scc rvv (SubV.sub0 ⟨oR,oL,oR,oR,oR,oR,oR,oR,oR,oR,trivial⟩) (clF _) (ClV.of rfl)
            |false=>
             have hno:nolP T qc=qc:=by unfold nolP;rw[he];rfl
             rw[hno]at hX
             subst hX
             refine CallQ.guard (v:=Bo false) (xs:=[]) 104 (fun h=>by cases h) (fun h=>by cases h) ?_
             refine vv ?_
             exact RetQ.of (hR maD C5 l5 (fun c hc=>by cases hc)) rfl scc rvv (SubV.sub0 ⟨oR,oL,oR,oR,oR,oR,oR,oR,oR,oR,trivial⟩) (clF _) (ClV.of rfl)
           |true=>
            rw[hk]at hX
            simp only[Bool.not_true,cond_false]at hX
            simp(maxSteps:=2000000) only[go_sem,hk,bne]
            refine CallQ.letgo (xs:=[_]) (M0:=pMm T p d) [51] l5 hP rfl (by unfold concOk;simp only[List.cons_append,List.nil_append,List.all_cons,cokV (v_iC2 _),cokV (rowsC_isV _)];rfl) rfl en112 rfl rfl (fun β C6 l6 k6 kn=>?_)
            obtain⟨sz,hvz,hkz⟩:=(kn 51 _ rfl rfl rfl).vslx (sz:=1) (rows:=(zs++[(sr,lr)]).map zRw) (fun r hr=>by obtain⟨a,_,rfl⟩:=List.mem_map.1 hr;rfl) rfl
            rw[List.length_map,hLz]at hvz hkz
            simp only[Mem.conc,Env.conc,Bk.conc,Cv.conc,V.conc,List.cons_append,List.nil_append,List.map_cons,List.map_nil,List.contains_cons,List.contains_nil,Nat.reduceBEq,Bool.or_false,Bool.or_true,cond_true,cond_false,concV (rowsC_isV _),concV (v_iC2 _),hvz]
            have hmo:(⟨x42,lsx,lsy,zs++[(sr,lr)],sx,sy,sz⟩:MpL).ok C6.hp:=⟨iX.mono ((k4.trans k5).trans k6),iY.mono ((k4.trans k5).trans k6),by rw[hLz];exact hkz,fun v hv=>(iZ2 v hv).mono k6⟩
            have hsv:CallH C6.hp Tryz.prog 112 [.agg [.v (vsl sx lsx.length),.v (vsl sy lsy.length),.v (vsl sz (zs++[(sr,lr)]).length)]] (Bo (maOk lsx lsy ((zs++[(sr,lr)]).map (·.2)))):=svalidM (⟨x42,lsx,lsy,zs++[(sr,lr)],sx,sy,sz⟩:MpL) hmo (fun v hv=>by have:=hzl2 v hv;omega)
            rw[hLz,hmp]at hsv
            refine CallW.h 106 l6 hsv (Hp.le.refl _) rfl (fun C7 l7 k7=>?_)
            cases hf:maOk lsx lsy (zs.map (·.2)++[lr])with
            |false=>
             rw[hf]at hX
             simp only[Bool.not_false,cond_true]at hX
             subst hX
             simp(maxSteps:=2000000) only[go_sem,hf]
             refine CallQ.mi 108 (stop_ T qc f.l f.c 1) (pM_cl T _) ⟨oS,oS,trivial⟩ ?_
             refine vv ?_
             exact RetQ.of (hR maD C7 l7 (fun c hc=>by cases hc)) rfl scc rvv (SubV.sub0 ⟨oR,oL,oR,oR,oR,oR,oR,oR,oR,oR,trivial⟩) (clF _) (ClV.of rfl)
            |true=>
             rw[hf]at hX
             simp only[Bool.not_true,cond_false]at hX
             simp(maxSteps:=2000000) only[go_sem,hf]
             refine Sm.dg 110 7 mix ?_
             refine vv ?_
             have hfu:=full_ T qc f d.mas.length 30
             generalize fulP f d.mas.length 30 qc=r at hfu hX
             obtain⟨o,qf⟩:=r
             cases o with
             |false=>
              simp only[bndB]at hX
              subst hX
              refine CallQ.mi 112 hfu (pM_cl T _) ⟨oS,oS,trivial⟩ ?_
              refine vv ?_
              exact RetQ.of (hR maD C7 l7 (fun c hc=>by cases hc)) rfl scc rvv (SubV.sub0 ⟨oR,oL,oR,oR,oR,oR,oR,oR,oR,oR,trivial⟩) (clF _) (ClV.of rfl)
             |true=>
              simp only[bndB]at hX
              subst hX
              refine CallQ.mi 114 hfu (pM_cl T _) ⟨oS,oS,trivial⟩ ?_
              refine vv ?_
              refine Sm.dgW [12] 21 8 mix ?_
              simp(maxSteps:=2000000) only[go_sem,Mem.wo]
              have hlen:=rows_len (r:=MpL.r) (k:=4) (fun _=>rfl) d.mas
              have hap:List.take (d.mas.length*4) (rowsC (d.mas.map MpL.r))++[sC x42,.v (vsl sx lsx.length),.v (vsl sy lsy.length),.v (vsl sz (zs++[(sr,lr)]).length)]=rowsC ((d.mas++[(⟨x42,lsx,lsy,zs++[(sr,lr)],sx,sy,sz⟩:MpL)]).map MpL.r):=rows_app MpL.r (fun _=>rfl) d.mas (⟨x42,lsx,lsy,zs++[(sr,lr)],sx,sy,sz⟩:MpL)
              rw[hLz]at hap
              refine DOpQ.opy [(21,⟨false,[sC x42,.v (vsl sx lsx.length),.v (vsl sy lsy.length),.v (vsl sz (zs.length+1))],115⟩),(12,⟨false,rowsC (d.mas.map MpL.r),115⟩)] 22 (by simp(maxSteps:=2000000) only[go_sem,hlen,hap]<;>rfl) ?_ rfl ⟨⟨rfl,rfl,rfl⟩,⟨rfl,rfl,rfl⟩,trivial⟩ rfl rfl ?_
              ·exact⟨by omega,by omega,by omega⟩
              simp(maxSteps:=2000000) only[go_sem,hlen]
              exact RetQ.of (hR (⟨x42,lsx,lsy,zs++[(sr,lr)],sx,sy,sz⟩:MpL) C7 l7 (fun c hc=>by cases hc;exact⟨by unfold MpL.c;rw[hmp],hmo.mono k7⟩)) rfl scc rvv (SubV.sub0 ⟨oR,oR,oR,oR,oL,oL,oR,oL,oR,oR,oR,oR,oR,trivial⟩) (clS _ _) (ClV.of rfl)
end Go.Proofs.YtlnpgbnhcondjaaGreatDoor.Fx
