/-  -/
import Derived.Test.YtlnpgbnhcondjaaGreatDoorTf
import Derived.Test.YtlnpgbnhcondjaaGreatDoorYJ
import Derived.Test.YtlnpgbnhcondjaaGreatDoorU1
namespace Go.Proofs.YtlnpgbnhcondjaaGreatDoor.Fx
open Vg Tf
set_option linter.unusedSimpArgs false
set_option linter.unusedVariables false
set_option maxRecDepth 100000
set_option maxHeartbeats 4000000
def hNum (T:List Tk):Prop:=∀q:Ps,(hereP T q).k=2→CallOk Tryz.prog 266 [S (hereP T q).s] [] (.tup [Wi (nmbQ (hereP T q).s).1,Wi (nmbQ (hereP T q).s).2]) []
@[reducible] def bPs (T:List Tk)(p:Ps):Nat×Bk:=(1,⟨false,psC T p,96⟩)
@[reducible] def bTkT (T:List Tk):Nat×Bk:=(2,⟨true,rowsC (T.map Tk.r),57⟩)
@[reducible] def bDg (cs:List Cv):Nat×Bk:=(4,⟨false,cs,30⟩)
@[reducible] def bRw {α:Type}(n:Nat)(r:α→List Value)(ty:TypeId)(l:List α):Nat×Bk:=(n,⟨false,rowsC (l.map r),ty⟩)
@[reducible] def bDd (n:Nat)(ty:TypeId):Nat×Bk:=(n,dead ty)
@[reducible,go_sem] def dgCt (n0 n1:Nat)(d:DgL):List Cv:=[.v (sv d.nm),.sl n0 0 n1 11,.sl 11 0 d.cus.length 3,.sl 12 0 d.mas.length 4,.sl 13 0 d.ins.length 4,.sl 14 0 d.bls.length 6,.sl 15 0 d.ous.length 1]
@[reducible,go_sem] def dgCc (n0 n1:Nat)(d:DgL):List Cv:=[.v (sv d.nm),.sl 10 0 d.tys.length 11,.sl n0 0 n1 3,.sl 12 0 d.mas.length 4,.sl 13 0 d.ins.length 4,.sl 14 0 d.bls.length 6,.sl 15 0 d.ous.length 1]
@[reducible,go_sem] def dgCm (n0 n1:Nat)(d:DgL):List Cv:=[.v (sv d.nm),.sl 10 0 d.tys.length 11,.sl 11 0 d.cus.length 3,.sl n0 0 n1 4,.sl 13 0 d.ins.length 4,.sl 14 0 d.bls.length 6,.sl 15 0 d.ous.length 1]
@[reducible,go_sem] def dgCi (n0 n1:Nat)(d:DgL):List Cv:=[.v (sv d.nm),.sl 10 0 d.tys.length 11,.sl 11 0 d.cus.length 3,.sl 12 0 d.mas.length 4,.sl n0 0 n1 4,.sl 14 0 d.bls.length 6,.sl 15 0 d.ous.length 1]
@[reducible,go_sem] def dgCb (n0 n1:Nat)(d:DgL):List Cv:=[.v (sv d.nm),.sl 10 0 d.tys.length 11,.sl 11 0 d.cus.length 3,.sl 12 0 d.mas.length 4,.sl 13 0 d.ins.length 4,.sl n0 0 n1 6,.sl 15 0 d.ous.length 1]
@[reducible,go_sem] def dgCo (n0 n1:Nat)(d:DgL):List Cv:=[.v (sv d.nm),.sl 10 0 d.tys.length 11,.sl 11 0 d.cus.length 3,.sl 12 0 d.mas.length 4,.sl 13 0 d.ins.length 4,.sl 14 0 d.bls.length 6,.sl n0 0 n1 1]
@[reducible] def pT (T:List Tk)(p:Ps)(d:DgL):Mem:=[bPs T p,bDg (dgC d),bTkT T,bRw 10 Td.r 93 d.tys,bDd 11 110,bDd 12 115,bDd 13 118,bDd 14 82,bDd 15 9]
@[reducible] def pC (T:List Tk)(p:Ps)(d:DgL):Mem:=[bPs T p,bDg (dgC d),bTkT T,bRw 11 CuL.r 110 d.cus,bDd 10 93,bDd 12 115,bDd 13 118,bDd 14 82,bDd 15 9]
@[reducible] def pMm (T:List Tk)(p:Ps)(d:DgL):Mem:=[bPs T p,bDg (dgC d),bTkT T,bRw 12 MpL.r 115 d.mas,bDd 10 93,bDd 11 110,bDd 13 118,bDd 14 82,bDd 15 9]
@[reducible] def pI (T:List Tk)(p:Ps)(d:DgL):Mem:=[bPs T p,bDg (dgC d),bTkT T,bRw 13 Po.r 118 d.ins,bDd 10 93,bDd 11 110,bDd 12 115,bDd 14 82,bDd 15 9]
@[reducible] def pB (T:List Tk)(p:Ps)(d:DgL):Mem:=[bPs T p,bDg (dgC d),bTkT T,bRw 14 BlL.r 82 d.bls,bDd 10 93,bDd 11 110,bDd 12 115,bDd 13 118,bDd 15 9]
@[reducible] def pO (T:List Tk)(p:Ps)(d:DgL):Mem:=[bPs T p,bDg (dgC d),bTkT T,(15,⟨false,d.ous.map sC,9⟩),bDd 10 93,bDd 11 110,bDd 12 115,bDd 13 118,bDd 14 82]
theorem rows_app {α:Type}(r:α→List Value){k:Nat}(hk:∀x,(r x).length=k)(l:List α)(x:α):(rowsC (l.map r)).take (l.length*k)++(r x).map Cv.v=rowsC ((l++[x]).map r):=by
 rw[List.take_of_length_le (Nat.le_of_eq (rows_len hk l))]
 simp[rowsC]
theorem type_ (T:List Tk)(hT:T.length≤40000)(g:GTk T)(sT:STk T)(hN:hNum T)(p:Ps)(h:p.at_<T.length)(f:Tk)(d:DgL)(hd:d.tys.length≤1000000):
  CallOk Tryz.prog 151 [.c (.p 1 0),.c (.p 4 0),tkV f] (pT T p d) (Bo (typP T f d.tys.length p).1.isSome)
   (bPs T (typP T f d.tys.length p).2::(match (typP T f d.tys.length p).1 with|some x=>[bDg (dgCt 20 (d.tys.length+1) d),bRw 20 Td.r 93 (d.tys++[x]),bDd 10 93]|none=>[])):=by
 have clF:∀q,ClM (bPs T q::pT T p d):=fun q=>ClM.of (by simp only[List.all_cons,inMV (rowsC_isV _)];rfl)
 have clS:∀q x,ClM ([bPs T q,bDg (dgCt 20 (d.tys.length+1) d),bRw 20 Td.r 93 (d.tys++[x]),bDd 10 93]++pT T p d):=fun q x=>ClM.of (by simp only[List.cons_append,List.nil_append,List.all_cons,inMV (rowsC_isV _)];rfl)
 have cl30:∀q cs,cs.all Cv.isV=true→ClM [bPs T q,(30,⟨false,cs,93⟩),bTkT T]:=fun q cs h=>ClM.of (by simp only[List.all_cons,inMV (rowsC_isV _),inMV h];rfl)
 refine CallOk.mkN 29 Tryz.func151 rfl en151 (by simp[Tryz.ntmps151]) (ClA.of rfl) (by cases (typP T f d.tys.length p).1<;>rfl) (by cases (typP T f d.tys.length p).1<;>rfl) fun C hR hP=>?_
 refine vv ?_
 generalize hX:typP T f d.tys.length p=X at*
 unfold typP at hX
 have hi:=nameN_ 30 rfl T (by omega) sT p h [sC [],iC 0,.v (.bool false),iC 0,iC 0,iC 0,iC 0,iC 0,iC 0,iC 0,iC 0] rfl 0 (by simp) 93
 have hon:=(nam_on g h).1
 generalize namP T p=r at hi hon hX
 obtain⟨o,q1⟩:=r
 have hq1:q1.at_<T.length:=hon.2
 cases o with
 |none=>
  simp only[bnd,bndB]at hX
  subst hX
  simp only[Option.isSome_none]at hi
  refine CallQ.mi 42 hi (cl30 _ _ rfl) ⟨oS,oS,oS,trivial⟩ ?_
  refine vv ?_
  refine CallQ.guard (v:=Bo false) (xs:=[]) 44 (fun h=>by cases h) (fun h=>by cases h) ?_
  refine vv ?_
  refine CallQ.guard (v:=Bo false) (xs:=[]) 46 (fun h=>by cases h) (fun h=>by cases h) ?_
  refine vv ?_
  exact RetQ.of hR rfl scc rvv (SubV.sub0 ⟨oR,oL,oR,oR,oR,oR,oR,oR,oR,oR,trivial⟩) (clF _) (ClV.of rfl)
 |some x42=>
  simp only[bnd,bndB]at hX
  simp only[Option.isSome_some,List.set_cons_zero,List.set_cons_succ,unL,List.cons_append,List.nil_append,List.append_nil]at hi
  refine CallQ.mi 42 hi (cl30 _ _ rfl) ⟨oS,oS,oS,trivial⟩ ?_
  refine vv ?_
  have hi:=take_ T (by omega) q1 hq1 [61]
  have hon:=tak_on g [61] hq1
  generalize takP T [61] q1=r at hi hon hX
  obtain⟨o,q2⟩:=r
  have hq2:q2.at_<T.length:=hon.2
  cases o with
  |false=>
   simp only[bnd,bndB]at hX
   subst hX
   refine CallQ.mi 48 hi (pM_cl T _) ⟨oS,oS,trivial⟩ ?_
   refine vv ?_
   refine CallQ.guard (v:=Bo false) (xs:=[]) 50 (fun h=>by cases h) (fun h=>by cases h) ?_
   refine vv ?_
   exact RetQ.of hR rfl scc rvv (SubV.sub0 ⟨oR,oL,oR,oR,oR,oR,oR,oR,oR,oR,trivial⟩) (clF _) (ClV.of rfl)
  |true=>
   simp only[bnd,bndB]at hX
   refine CallQ.mi 48 hi (pM_cl T _) ⟨oS,oS,trivial⟩ ?_
   refine vv ?_
   have hi:=integerN_ 30 rfl T (by omega) q2 hq2 (hN _) [sC x42,iC 0,.v (.bool false),iC 0,iC 0,iC 0,iC 0,iC 0,iC 0,iC 0,iC 0] rfl 1 (by simp) 93
   have hon:=(int_on g hq2).1
   generalize intP T q2=r at hi hon hX
   obtain⟨o,q3⟩:=r
   have hq3:q3.at_<T.length:=hon.2
   cases o with
   |none=>
    simp only[bnd,bndB]at hX
    subst hX
    simp only[Option.isSome_none]at hi
    refine CallQ.mi 52 hi (cl30 _ _ rfl) ⟨oS,oS,oS,trivial⟩ ?_
    refine vv ?_
    exact RetQ.of hR rfl scc rvv (SubV.sub0 ⟨oR,oL,oR,oR,oR,oR,oR,oR,oR,oR,trivial⟩) (clF _) (ClV.of rfl)
   |some x52=>
    simp only[bnd,bndB]at hX
    simp only[Option.isSome_some,List.set_cons_zero,List.set_cons_succ,unL,List.cons_append,List.nil_append,List.append_nil]at hi
    refine CallQ.mi 52 hi (cl30 _ _ rfl) ⟨oS,oS,oS,trivial⟩ ?_
    refine vv ?_
    have his:=is_ T (by omega) q3 hq3 sgnT
    have hiu:=is_ T (by omega) q3 hq3 usgT
    have hw:=wrong_ T (by omega) q3 hq3
    cases hs:isP T sgnT q3 with
    |true=>
     rw[hs]at hX his
     simp only[Bool.not_true,Bool.false_and,cond_false]at hX
     refine CallQ.mi 54 his (pM_cl T _) ⟨oS,oS,trivial⟩ ?_
     refine vv ?_
     refine CallQ.guard (v:=Bo false) (xs:=[]) 56 (fun h=>by cases h) (fun h=>by cases h) ?_
     refine vv ?_
     refine CallQ.mi 58 his (pM_cl T _) ⟨oS,oS,trivial⟩ ?_
     simp(maxSteps:=2000000) only[go_sem,aP (show T.length≤100000 by omega) hq3]
     have hon:=is_on g hq3 hs
     have hqa:(advP q3).at_<T.length:=hon.2
     have hi:=integerN_ 30 rfl T (by omega) (advP q3) hqa (hN _) [sC x42,iC x52,.v (.bool true),iC 0,iC 0,iC 0,iC 0,iC 0,iC 0,iC 0,iC 0] rfl 3 (by simp) 93
     have hon:=(int_on g hqa).1
     generalize intP T (advP q3)=r at hi hon hX
     obtain⟨o,q4⟩:=r
     have hq4:q4.at_<T.length:=hon.2
     cases o with
     |none=>
      simp only[bnd,bndB]at hX
      subst hX
      simp only[Option.isSome_none]at hi
      refine CallQ.mi 60 hi (cl30 _ _ rfl) ⟨oS,oS,oS,trivial⟩ ?_
      refine vv ?_
      refine CallQ.guard (v:=Bo false) (xs:=[]) 62 (fun h=>by cases h) (fun h=>by cases h) ?_
      refine vv ?_
      refine CallQ.guard (v:=Bo false) (xs:=[]) 64 (fun h=>by cases h) (fun h=>by cases h) ?_
      refine vv ?_
      refine CallQ.guard (v:=Bo false) (xs:=[]) 66 (fun h=>by cases h) (fun h=>by cases h) ?_
      refine vv ?_
      exact RetQ.of hR rfl scc rvv (SubV.sub0 ⟨oR,oL,oR,oR,oR,oR,oR,oR,oR,oR,trivial⟩) (clF _) (ClV.of rfl)
     |some x60=>
      simp only[bnd,bndB]at hX
      simp only[Option.isSome_some,List.set_cons_zero,List.set_cons_succ,unL,List.cons_append,List.nil_append,List.append_nil]at hi
      refine CallQ.mi 60 hi (cl30 _ _ rfl) ⟨oS,oS,oS,trivial⟩ ?_
      refine vv ?_
      have hi:=integerN_ 30 rfl T (by omega) q4 hq4 (hN _) [sC x42,iC x52,.v (.bool true),iC x60,iC 0,iC 0,iC 0,iC 0,iC 0,iC 0,iC 0] rfl 4 (by simp) 93
      have hon:=(int_on g hq4).1
      generalize intP T q4=r at hi hon hX
      obtain⟨o,q5⟩:=r
      have hq5:q5.at_<T.length:=hon.2
      cases o with
      |none=>
       simp only[bnd,bndB]at hX
       subst hX
       simp only[Option.isSome_none]at hi
       refine CallQ.mi 68 hi (cl30 _ _ rfl) ⟨oS,oS,oS,trivial⟩ ?_
       refine vv ?_
       refine CallQ.guard (v:=Bo false) (xs:=[]) 70 (fun h=>by cases h) (fun h=>by cases h) ?_
       refine vv ?_
       refine CallQ.guard (v:=Bo false) (xs:=[]) 72 (fun h=>by cases h) (fun h=>by cases h) ?_
       refine vv ?_
       exact RetQ.of hR rfl scc rvv (SubV.sub0 ⟨oR,oL,oR,oR,oR,oR,oR,oR,oR,oR,trivial⟩) (clF _) (ClV.of rfl)
      |some x68=>
       simp only[bnd,bndB]at hX
       simp only[Option.isSome_some,List.set_cons_zero,List.set_cons_succ,unL,List.cons_append,List.nil_append,List.append_nil]at hi
       refine CallQ.mi 68 hi (cl30 _ _ rfl) ⟨oS,oS,oS,trivial⟩ ?_
       refine vv ?_
       have hi:=integerN_ 30 rfl T (by omega) q5 hq5 (hN _) [sC x42,iC x52,.v (.bool true),iC x60,iC x68,iC 0,iC 0,iC 0,iC 0,iC 0,iC 0] rfl 5 (by simp) 93
       have hon:=(int_on g hq5).1
       generalize intP T q5=r at hi hon hX
       obtain⟨o,q6⟩:=r
       have hq6:q6.at_<T.length:=hon.2
       cases o with
       |none=>
        simp only[bnd,bndB]at hX
        subst hX
        simp only[Option.isSome_none]at hi
        refine CallQ.mi 74 hi (cl30 _ _ rfl) ⟨oS,oS,oS,trivial⟩ ?_
        refine vv ?_
        refine CallQ.guard (v:=Bo false) (xs:=[]) 76 (fun h=>by cases h) (fun h=>by cases h) ?_
        refine vv ?_
        exact RetQ.of hR rfl scc rvv (SubV.sub0 ⟨oR,oL,oR,oR,oR,oR,oR,oR,oR,oR,trivial⟩) (clF _) (ClV.of rfl)
       |some x74=>
        simp only[bnd,bndB]at hX
        simp only[Option.isSome_some,List.set_cons_zero,List.set_cons_succ,unL,List.cons_append,List.nil_append,List.append_nil]at hi
        refine CallQ.mi 74 hi (cl30 _ _ rfl) ⟨oS,oS,oS,trivial⟩ ?_
        refine vv ?_
        have hi:=unitN_ 30 rfl T hT g sT q6 hq6 [sC x42,iC x52,.v (.bool true),iC x60,iC x68,iC x74] [] rfl rfl 93 ⟨0,0,0,0,0⟩
        have hon:=unt_on g hq6
        generalize untP T q6=r at hi hon hX
        obtain⟨o,q7⟩:=r
        have hq7:q7.at_<T.length:=hon.2
        cases o with
        |none=>
         simp only[bnd,bndB]at hX
         subst hX
         simp only[Option.isSome_none]at hi
         refine CallQ.mi 78 hi (cl30 _ _ rfl) ⟨oS,oS,oS,trivial⟩ ?_
         refine vv ?_
         exact RetQ.of hR rfl scc rvv (SubV.sub0 ⟨oR,oL,oR,oR,oR,oR,oR,oR,oR,oR,trivial⟩) (clF _) (ClV.of rfl)
        |some x78=>
         simp only[bnd,bndB]at hX
         simp only[Option.isSome_some,List.set_cons_zero,List.set_cons_succ,unL,List.cons_append,List.nil_append,List.append_nil]at hi
         refine CallQ.mi 78 hi (cl30 _ _ rfl) ⟨oS,oS,oS,trivial⟩ ?_
         refine vv ?_
         have hfv:=fvalid (mkFt x52 true x60 x68 x74 x78)
         refine CallQ.pure 80 hfv rfl ?_
         cases hf:fok (mkFt x52 true x60 x68 x74 x78)with
         |false=>
          rw[hf]at hX
          simp only[Bool.not_false,cond_true]at hX
          subst hX
          simp(maxSteps:=2000000) only[go_sem,hf]
          refine CallQ.mi 82 (stop_ T q7 f.l f.c 1) (pM_cl T _) ⟨oS,oS,trivial⟩ ?_
          refine vv ?_
          exact RetQ.of hR rfl scc rvv (SubV.sub0 ⟨oR,oL,oR,oR,oR,oR,oR,oR,oR,oR,trivial⟩) (clF _) (ClV.of rfl)
         |true=>
          rw[hf]at hX
          simp only[Bool.not_true,cond_false]at hX
          simp(maxSteps:=2000000) only[go_sem,hf]
          refine Sm.dg 84 7 mix ?_
          refine vv ?_
          have hfu:=full_ T q7 f d.tys.length 30
          generalize fulP f d.tys.length 30 q7=r at hfu hX
          obtain⟨o,qf⟩:=r
          cases o with
          |false=>
           simp only[bndB]at hX
           subst hX
           refine CallQ.mi 86 hfu (pM_cl T _) ⟨oS,oS,trivial⟩ ?_
           refine vv ?_
           exact RetQ.of hR rfl scc rvv (SubV.sub0 ⟨oR,oL,oR,oR,oR,oR,oR,oR,oR,oR,trivial⟩) (clF _) (ClV.of rfl)
          |true=>
           simp only[bndB]at hX
           subst hX
           refine CallQ.mi 88 hfu (pM_cl T _) ⟨oS,oS,trivial⟩ ?_
           refine vv ?_
           refine Sm.dgW [10] 19 8 mix ?_
           simp(maxSteps:=2000000) only[go_sem,Mem.wo]
           have hlen:=rows_len (r:=Td.r) (k:=11) (fun _=>rfl) d.tys
           have hap:List.take (d.tys.length*11) (rowsC (d.tys.map Td.r))++[sC x42,iC x52,.v (.bool true),iC x60,iC x68,iC x74,iC x78.m,iC x78.kg,iC x78.s,iC x78.a,iC x78.k]=rowsC ((d.tys++[(⟨x42,(mkFt x52 true x60 x68 x74 x78)⟩:Td)]).map Td.r):=rows_app Td.r (fun _=>rfl) d.tys (⟨x42,(mkFt x52 true x60 x68 x74 x78)⟩:Td)
           refine DOpQ.opy [(19,⟨false,[sC x42,iC x52,.v (.bool true),iC x60,iC x68,iC x74,iC x78.m,iC x78.kg,iC x78.s,iC x78.a,iC x78.k],93⟩),(10,⟨false,rowsC (d.tys.map Td.r),93⟩)] 20 (by simp(maxSteps:=2000000) only[go_sem,hlen,hap]<;>rfl) ?_ rfl ⟨⟨rfl,rfl,rfl⟩,⟨rfl,rfl,rfl⟩,trivial⟩ rfl rfl ?_
           ·exact⟨by omega,by omega,by omega⟩
           simp(maxSteps:=2000000) only[go_sem,hlen]
           exact RetQ.of hR rfl scc rvv (SubV.sub0 ⟨oR,oR,oR,oR,oL,oL,oR,oL,oR,oR,oR,oR,oR,trivial⟩) (clS _ _) (ClV.of rfl)
    |false=>
     rw[hs]at hX his
     refine CallQ.mi 90 his (pM_cl T _) ⟨oS,oS,trivial⟩ ?_
     refine vv ?_
     cases hu:isP T usgT q3 with
     |false=>
      rw[hu]at hX hiu
      simp only[Bool.not_false,Bool.and_true,cond_true]at hX
      subst hX
      refine CallQ.mi 92 hiu (pM_cl T _) ⟨oS,oS,trivial⟩ ?_
      refine vv ?_
      refine CallQ.mi 94 hw (pM_cl T _) ⟨oS,oS,trivial⟩ ?_
      refine vv ?_
      exact RetQ.of hR rfl scc rvv (SubV.sub0 ⟨oR,oL,oR,oR,oR,oR,oR,oR,oR,oR,trivial⟩) (clF _) (ClV.of rfl)
     |true=>
      rw[hu]at hX hiu
      simp only[Bool.not_true,Bool.not_false,Bool.and_false,cond_false]at hX
      refine CallQ.mi 96 hiu (pM_cl T _) ⟨oS,oS,trivial⟩ ?_
      refine vv ?_
      refine CallQ.mi 98 his (pM_cl T _) ⟨oS,oS,trivial⟩ ?_
      simp(maxSteps:=2000000) only[go_sem,aP (show T.length≤100000 by omega) hq3]
      have hon:=is_on g hq3 hu
      have hqa:(advP q3).at_<T.length:=hon.2
      have hi:=integerN_ 30 rfl T (by omega) (advP q3) hqa (hN _) [sC x42,iC x52,.v (.bool false),iC 0,iC 0,iC 0,iC 0,iC 0,iC 0,iC 0,iC 0] rfl 3 (by simp) 93
      have hon:=(int_on g hqa).1
      generalize intP T (advP q3)=r at hi hon hX
      obtain⟨o,q8⟩:=r
      have hq8:q8.at_<T.length:=hon.2
      cases o with
      |none=>
       simp only[bnd,bndB]at hX
       subst hX
       simp only[Option.isSome_none]at hi
       refine CallQ.mi 100 hi (cl30 _ _ rfl) ⟨oS,oS,oS,trivial⟩ ?_
       refine vv ?_
       refine CallQ.guard (v:=Bo false) (xs:=[]) 102 (fun h=>by cases h) (fun h=>by cases h) ?_
       refine vv ?_
       refine CallQ.guard (v:=Bo false) (xs:=[]) 104 (fun h=>by cases h) (fun h=>by cases h) ?_
       refine vv ?_
       refine CallQ.guard (v:=Bo false) (xs:=[]) 106 (fun h=>by cases h) (fun h=>by cases h) ?_
       refine vv ?_
       exact RetQ.of hR rfl scc rvv (SubV.sub0 ⟨oR,oL,oR,oR,oR,oR,oR,oR,oR,oR,trivial⟩) (clF _) (ClV.of rfl)
      |some x100=>
       simp only[bnd,bndB]at hX
       simp only[Option.isSome_some,List.set_cons_zero,List.set_cons_succ,unL,List.cons_append,List.nil_append,List.append_nil]at hi
       refine CallQ.mi 100 hi (cl30 _ _ rfl) ⟨oS,oS,oS,trivial⟩ ?_
       refine vv ?_
       have hi:=integerN_ 30 rfl T (by omega) q8 hq8 (hN _) [sC x42,iC x52,.v (.bool false),iC x100,iC 0,iC 0,iC 0,iC 0,iC 0,iC 0,iC 0] rfl 4 (by simp) 93
       have hon:=(int_on g hq8).1
       generalize intP T q8=r at hi hon hX
       obtain⟨o,q9⟩:=r
       have hq9:q9.at_<T.length:=hon.2
       cases o with
       |none=>
        simp only[bnd,bndB]at hX
        subst hX
        simp only[Option.isSome_none]at hi
        refine CallQ.mi 108 hi (cl30 _ _ rfl) ⟨oS,oS,oS,trivial⟩ ?_
        refine vv ?_
        refine CallQ.guard (v:=Bo false) (xs:=[]) 110 (fun h=>by cases h) (fun h=>by cases h) ?_
        refine vv ?_
        refine CallQ.guard (v:=Bo false) (xs:=[]) 112 (fun h=>by cases h) (fun h=>by cases h) ?_
        refine vv ?_
        exact RetQ.of hR rfl scc rvv (SubV.sub0 ⟨oR,oL,oR,oR,oR,oR,oR,oR,oR,oR,trivial⟩) (clF _) (ClV.of rfl)
       |some x108=>
        simp only[bnd,bndB]at hX
        simp only[Option.isSome_some,List.set_cons_zero,List.set_cons_succ,unL,List.cons_append,List.nil_append,List.append_nil]at hi
        refine CallQ.mi 108 hi (cl30 _ _ rfl) ⟨oS,oS,oS,trivial⟩ ?_
        refine vv ?_
        have hi:=integerN_ 30 rfl T (by omega) q9 hq9 (hN _) [sC x42,iC x52,.v (.bool false),iC x100,iC x108,iC 0,iC 0,iC 0,iC 0,iC 0,iC 0] rfl 5 (by simp) 93
        have hon:=(int_on g hq9).1
        generalize intP T q9=r at hi hon hX
        obtain⟨o,q10⟩:=r
        have hq10:q10.at_<T.length:=hon.2
        cases o with
        |none=>
         simp only[bnd,bndB]at hX
         subst hX
         simp only[Option.isSome_none]at hi
         refine CallQ.mi 114 hi (cl30 _ _ rfl) ⟨oS,oS,oS,trivial⟩ ?_
         refine vv ?_
         refine CallQ.guard (v:=Bo false) (xs:=[]) 116 (fun h=>by cases h) (fun h=>by cases h) ?_
         refine vv ?_
         exact RetQ.of hR rfl scc rvv (SubV.sub0 ⟨oR,oL,oR,oR,oR,oR,oR,oR,oR,oR,trivial⟩) (clF _) (ClV.of rfl)
        |some x114=>
         simp only[bnd,bndB]at hX
         simp only[Option.isSome_some,List.set_cons_zero,List.set_cons_succ,unL,List.cons_append,List.nil_append,List.append_nil]at hi
         refine CallQ.mi 114 hi (cl30 _ _ rfl) ⟨oS,oS,oS,trivial⟩ ?_
         refine vv ?_
         have hi:=unitN_ 30 rfl T hT g sT q10 hq10 [sC x42,iC x52,.v (.bool false),iC x100,iC x108,iC x114] [] rfl rfl 93 ⟨0,0,0,0,0⟩
         have hon:=unt_on g hq10
         generalize untP T q10=r at hi hon hX
         obtain⟨o,q11⟩:=r
         have hq11:q11.at_<T.length:=hon.2
         cases o with
         |none=>
          simp only[bnd,bndB]at hX
          subst hX
          simp only[Option.isSome_none]at hi
          refine CallQ.mi 118 hi (cl30 _ _ rfl) ⟨oS,oS,oS,trivial⟩ ?_
          refine vv ?_
          exact RetQ.of hR rfl scc rvv (SubV.sub0 ⟨oR,oL,oR,oR,oR,oR,oR,oR,oR,oR,trivial⟩) (clF _) (ClV.of rfl)
         |some x118=>
          simp only[bnd,bndB]at hX
          simp only[Option.isSome_some,List.set_cons_zero,List.set_cons_succ,unL,List.cons_append,List.nil_append,List.append_nil]at hi
          refine CallQ.mi 118 hi (cl30 _ _ rfl) ⟨oS,oS,oS,trivial⟩ ?_
          refine vv ?_
          have hfv:=fvalid (mkFt x52 false x100 x108 x114 x118)
          refine CallQ.pure 120 hfv rfl ?_
          cases hf:fok (mkFt x52 false x100 x108 x114 x118)with
          |false=>
           rw[hf]at hX
           simp only[Bool.not_false,cond_true]at hX
           subst hX
           simp(maxSteps:=2000000) only[go_sem,hf]
           refine CallQ.mi 122 (stop_ T q11 f.l f.c 1) (pM_cl T _) ⟨oS,oS,trivial⟩ ?_
           refine vv ?_
           exact RetQ.of hR rfl scc rvv (SubV.sub0 ⟨oR,oL,oR,oR,oR,oR,oR,oR,oR,oR,trivial⟩) (clF _) (ClV.of rfl)
          |true=>
           rw[hf]at hX
           simp only[Bool.not_true,cond_false]at hX
           simp(maxSteps:=2000000) only[go_sem,hf]
           refine Sm.dg 124 7 mix ?_
           refine vv ?_
           have hfu:=full_ T q11 f d.tys.length 30
           generalize fulP f d.tys.length 30 q11=r at hfu hX
           obtain⟨o,qf⟩:=r
           cases o with
           |false=>
            simp only[bndB]at hX
            subst hX
            refine CallQ.mi 126 hfu (pM_cl T _) ⟨oS,oS,trivial⟩ ?_
            refine vv ?_
            exact RetQ.of hR rfl scc rvv (SubV.sub0 ⟨oR,oL,oR,oR,oR,oR,oR,oR,oR,oR,trivial⟩) (clF _) (ClV.of rfl)
           |true=>
            simp only[bndB]at hX
            subst hX
            refine CallQ.mi 128 hfu (pM_cl T _) ⟨oS,oS,trivial⟩ ?_
            refine vv ?_
            refine Sm.dgW [10] 19 8 mix ?_
            simp(maxSteps:=2000000) only[go_sem,Mem.wo]
            have hlen:=rows_len (r:=Td.r) (k:=11) (fun _=>rfl) d.tys
            have hap:List.take (d.tys.length*11) (rowsC (d.tys.map Td.r))++[sC x42,iC x52,.v (.bool false),iC x100,iC x108,iC x114,iC x118.m,iC x118.kg,iC x118.s,iC x118.a,iC x118.k]=rowsC ((d.tys++[(⟨x42,(mkFt x52 false x100 x108 x114 x118)⟩:Td)]).map Td.r):=rows_app Td.r (fun _=>rfl) d.tys (⟨x42,(mkFt x52 false x100 x108 x114 x118)⟩:Td)
            refine DOpQ.opy [(19,⟨false,[sC x42,iC x52,.v (.bool false),iC x100,iC x108,iC x114,iC x118.m,iC x118.kg,iC x118.s,iC x118.a,iC x118.k],93⟩),(10,⟨false,rowsC (d.tys.map Td.r),93⟩)] 20 (by simp(maxSteps:=2000000) only[go_sem,hlen,hap]<;>rfl) ?_ rfl ⟨⟨rfl,rfl,rfl⟩,⟨rfl,rfl,rfl⟩,trivial⟩ rfl rfl ?_
            ·exact⟨by omega,by omega,by omega⟩
            simp(maxSteps:=2000000) only[go_sem,hlen]
            exact RetQ.of hR rfl scc rvv (SubV.sub0 ⟨oR,oR,oR,oR,oL,oL,oR,oL,oR,oR,oR,oR,oR,trivial⟩) (clS _ _) (ClV.of rfl)
theorem in_ (T:List Tk)(hT:T.length≤40000)(g:GTk T)(sT:STk T)(hN:hNum T)(p:Ps)(h:p.at_<T.length)(f:Tk)(d:DgL)(hd:d.ins.length≤1000000):
  CallOk Tryz.prog 154 [.c (.p 1 0),.c (.p 4 0),tkV f] (pI T p d) (Bo (inpP T f d.ins.length p).1.isSome)
   (bPs T (inpP T f d.ins.length p).2::(match (inpP T f d.ins.length p).1 with|some x=>[bDg (dgCi 23 (d.ins.length+1) d),bRw 23 Po.r 118 (d.ins++[x]),bDd 13 118]|none=>[])):=by
 have clF:∀q,ClM (bPs T q::pI T p d):=fun q=>ClM.of (by simp only[List.all_cons,inMV (rowsC_isV _)];rfl)
 have clS:∀q x,ClM ([bPs T q,bDg (dgCi 23 (d.ins.length+1) d),bRw 23 Po.r 118 (d.ins++[x]),bDd 13 118]++pI T p d):=fun q x=>ClM.of (by simp only[List.cons_append,List.nil_append,List.all_cons,inMV (rowsC_isV _)];rfl)
 have cl30:∀q cs,cs.all Cv.isV=true→ClM [bPs T q,(30,⟨false,cs,118⟩),bTkT T]:=fun q cs h=>ClM.of (by simp only[List.all_cons,inMV (rowsC_isV _),inMV h];rfl)
 refine CallOk.mkN 29 Tryz.func154 rfl en154 (by simp[Tryz.ntmps154]) (ClA.of rfl) (by cases (inpP T f d.ins.length p).1<;>rfl) (by cases (inpP T f d.ins.length p).1<;>rfl) fun C hR hP=>?_
 refine vv ?_
 generalize hX:inpP T f d.ins.length p=X at*
 unfold inpP at hX
 have hi:=nameN_ 30 rfl T (by omega) sT p h [sC [],sC [],iC 0,iC 0] rfl 0 (by simp) 118
 have hon:=(nam_on g h).1
 generalize namP T p=r at hi hon hX
 obtain⟨o,q1⟩:=r
 have hq1:q1.at_<T.length:=hon.2
 cases o with
 |none=>
  simp only[bnd,bndB]at hX
  subst hX
  simp only[Option.isSome_none]at hi
  refine CallQ.mi 42 hi (cl30 _ _ rfl) ⟨oS,oS,oS,trivial⟩ ?_
  refine vv ?_
  refine CallQ.guard (v:=Bo false) (xs:=[]) 44 (fun h=>by cases h) (fun h=>by cases h) ?_
  refine vv ?_
  refine CallQ.guard (v:=Bo false) (xs:=[]) 46 (fun h=>by cases h) (fun h=>by cases h) ?_
  refine vv ?_
  refine CallQ.guard (v:=Bo false) (xs:=[]) 48 (fun h=>by cases h) (fun h=>by cases h) ?_
  refine vv ?_
  refine CallQ.guard (v:=Bo false) (xs:=[]) 50 (fun h=>by cases h) (fun h=>by cases h) ?_
  refine vv ?_
  exact RetQ.of hR rfl scc rvv (SubV.sub0 ⟨oR,oL,oR,oR,oR,oR,oR,oR,oR,oR,trivial⟩) (clF _) (ClV.of rfl)
 |some x42=>
  simp only[bnd,bndB]at hX
  simp only[Option.isSome_some,List.set_cons_zero,List.set_cons_succ,unL,List.cons_append,List.nil_append,List.append_nil]at hi
  refine CallQ.mi 42 hi (cl30 _ _ rfl) ⟨oS,oS,oS,trivial⟩ ?_
  refine vv ?_
  have hi:=take_ T (by omega) q1 hq1 [58]
  have hon:=tak_on g [58] hq1
  generalize takP T [58] q1=r at hi hon hX
  obtain⟨o,q2⟩:=r
  have hq2:q2.at_<T.length:=hon.2
  cases o with
  |false=>
   simp only[bnd,bndB]at hX
   subst hX
   refine CallQ.mi 52 hi (pM_cl T _) ⟨oS,oS,trivial⟩ ?_
   refine vv ?_
   refine CallQ.guard (v:=Bo false) (xs:=[]) 54 (fun h=>by cases h) (fun h=>by cases h) ?_
   refine vv ?_
   refine CallQ.guard (v:=Bo false) (xs:=[]) 56 (fun h=>by cases h) (fun h=>by cases h) ?_
   refine vv ?_
   refine CallQ.guard (v:=Bo false) (xs:=[]) 58 (fun h=>by cases h) (fun h=>by cases h) ?_
   refine vv ?_
   exact RetQ.of hR rfl scc rvv (SubV.sub0 ⟨oR,oL,oR,oR,oR,oR,oR,oR,oR,oR,trivial⟩) (clF _) (ClV.of rfl)
  |true=>
   simp only[bnd,bndB]at hX
   refine CallQ.mi 52 hi (pM_cl T _) ⟨oS,oS,trivial⟩ ?_
   refine vv ?_
   have hi:=nameN_ 30 rfl T (by omega) sT q2 hq2 [sC x42,sC [],iC 0,iC 0] rfl 1 (by simp) 118
   have hon:=(nam_on g hq2).1
   generalize namP T q2=r at hi hon hX
   obtain⟨o,q3⟩:=r
   have hq3:q3.at_<T.length:=hon.2
   cases o with
   |none=>
    simp only[bnd,bndB]at hX
    subst hX
    simp only[Option.isSome_none]at hi
    refine CallQ.mi 60 hi (cl30 _ _ rfl) ⟨oS,oS,oS,trivial⟩ ?_
    refine vv ?_
    refine CallQ.guard (v:=Bo false) (xs:=[]) 62 (fun h=>by cases h) (fun h=>by cases h) ?_
    refine vv ?_
    refine CallQ.guard (v:=Bo false) (xs:=[]) 64 (fun h=>by cases h) (fun h=>by cases h) ?_
    refine vv ?_
    exact RetQ.of hR rfl scc rvv (SubV.sub0 ⟨oR,oL,oR,oR,oR,oR,oR,oR,oR,oR,trivial⟩) (clF _) (ClV.of rfl)
   |some x60=>
    simp only[bnd,bndB]at hX
    simp only[Option.isSome_some,List.set_cons_zero,List.set_cons_succ,unL,List.cons_append,List.nil_append,List.append_nil]at hi
    refine CallQ.mi 60 hi (cl30 _ _ rfl) ⟨oS,oS,oS,trivial⟩ ?_
    refine vv ?_
    have hi:=integerN_ 30 rfl T (by omega) q3 hq3 (hN _) [sC x42,sC x60,iC 0,iC 0] rfl 2 (by simp) 118
    have hon:=(int_on g hq3).1
    generalize intP T q3=r at hi hon hX
    obtain⟨o,q4⟩:=r
    have hq4:q4.at_<T.length:=hon.2
    cases o with
    |none=>
     simp only[bnd,bndB]at hX
     subst hX
     simp only[Option.isSome_none]at hi
     refine CallQ.mi 66 hi (cl30 _ _ rfl) ⟨oS,oS,oS,trivial⟩ ?_
     refine vv ?_
     refine CallQ.guard (v:=Bo false) (xs:=[]) 68 (fun h=>by cases h) (fun h=>by cases h) ?_
     refine vv ?_
     exact RetQ.of hR rfl scc rvv (SubV.sub0 ⟨oR,oL,oR,oR,oR,oR,oR,oR,oR,oR,trivial⟩) (clF _) (ClV.of rfl)
    |some x66=>
     simp only[bnd,bndB]at hX
     simp only[Option.isSome_some,List.set_cons_zero,List.set_cons_succ,unL,List.cons_append,List.nil_append,List.append_nil]at hi
     refine CallQ.mi 66 hi (cl30 _ _ rfl) ⟨oS,oS,oS,trivial⟩ ?_
     refine vv ?_
     have hi:=integerN_ 30 rfl T (by omega) q4 hq4 (hN _) [sC x42,sC x60,iC x66,iC 0] rfl 3 (by simp) 118
     have hon:=(int_on g hq4).1
     generalize intP T q4=r at hi hon hX
     obtain⟨o,q5⟩:=r
     have hq5:q5.at_<T.length:=hon.2
     cases o with
     |none=>
      simp only[bnd,bndB]at hX
      subst hX
      simp only[Option.isSome_none]at hi
      refine CallQ.mi 70 hi (cl30 _ _ rfl) ⟨oS,oS,oS,trivial⟩ ?_
      refine vv ?_
      exact RetQ.of hR rfl scc rvv (SubV.sub0 ⟨oR,oL,oR,oR,oR,oR,oR,oR,oR,oR,trivial⟩) (clF _) (ClV.of rfl)
     |some x70=>
      simp only[bnd,bndB]at hX
      simp only[Option.isSome_some,List.set_cons_zero,List.set_cons_succ,unL,List.cons_append,List.nil_append,List.append_nil]at hi
      refine CallQ.mi 70 hi (cl30 _ _ rfl) ⟨oS,oS,oS,trivial⟩ ?_
      refine vv ?_
      have hh:=here_ T (by omega) q5 hq5
      have hen:=end_ T (by omega) q5 hq5
      have e4:((hereP T q5).k==4)=(((hereP T q5).k:Int)==4):=(kB _ 4).symm
      rw[e4]at hX
      refine CallQ.mi 72 hh (pM_cl T _) ⟨oS,oS,trivial⟩ ?_
      cases hk:((hereP T q5).k:Int)==4 with
      |false=>
       simp(maxSteps:=2000000) only[go_sem,hk,bne]
       have he:endP T q5=(false,stopP q5 (hereP T q5).l (hereP T q5).c 3):=by unfold endP;rw[e4,hk];rfl
       rw[hk,he]at hX
       rw[he]at hen
       simp only[Bool.not_false,cond_true]at hX
       subst hX
       refine CallQ.mi 74 hen (pM_cl T _) ⟨oS,oS,trivial⟩ ?_
       refine vv ?_
       exact RetQ.of hR rfl scc rvv (SubV.sub0 ⟨oR,oL,oR,oR,oR,oR,oR,oR,oR,oR,trivial⟩) (clF _) (ClV.of rfl)
      |true=>
       rw[hk]at hX
       simp only[Bool.not_true,cond_false]at hX
       simp(maxSteps:=2000000) only[go_sem,hk,bne]
       refine Sm.dg 76 7 mix ?_
       refine vv ?_
       have hfu:=full_ T q5 f d.ins.length 30
       generalize fulP f d.ins.length 30 q5=r at hfu hX
       obtain⟨o,qf⟩:=r
       cases o with
       |false=>
        simp only[bndB]at hX
        subst hX
        refine CallQ.mi 78 hfu (pM_cl T _) ⟨oS,oS,trivial⟩ ?_
        refine vv ?_
        exact RetQ.of hR rfl scc rvv (SubV.sub0 ⟨oR,oL,oR,oR,oR,oR,oR,oR,oR,oR,trivial⟩) (clF _) (ClV.of rfl)
       |true=>
        simp only[bndB]at hX
        subst hX
        refine CallQ.mi 80 hfu (pM_cl T _) ⟨oS,oS,trivial⟩ ?_
        refine vv ?_
        refine Sm.dgW [13] 22 8 mix ?_
        simp(maxSteps:=2000000) only[go_sem,Mem.wo]
        have hlen:=rows_len (r:=Po.r) (k:=4) (fun _=>rfl) d.ins
        have hap:List.take (d.ins.length*4) (rowsC (d.ins.map Po.r))++[sC x42,sC x60,iC x66,iC x70]=rowsC ((d.ins++[(⟨x42,x60,x66,x70⟩:Po)]).map Po.r):=rows_app Po.r (fun _=>rfl) d.ins (⟨x42,x60,x66,x70⟩:Po)
        refine DOpQ.opy [(22,⟨false,[sC x42,sC x60,iC x66,iC x70],118⟩),(13,⟨false,rowsC (d.ins.map Po.r),118⟩)] 23 (by simp(maxSteps:=2000000) only[go_sem,hlen,hap]<;>rfl) ?_ rfl ⟨⟨rfl,rfl,rfl⟩,⟨rfl,rfl,rfl⟩,trivial⟩ rfl rfl ?_
        ·exact⟨by omega,by omega,by omega⟩
        simp(maxSteps:=2000000) only[go_sem,hlen]
        exact RetQ.of hR rfl scc rvv (SubV.sub0 ⟨oR,oR,oR,oR,oL,oL,oR,oL,oR,oR,oR,oR,oR,trivial⟩) (clS _ _) (ClV.of rfl)
end Go.Proofs.YtlnpgbnhcondjaaGreatDoor.Fx
