/-  -/
import Derived.Test.YtkciabfilokfiaaGreatPS
import Derived.Test.YtkciabfilokfiaaGreatRM
namespace Go.Proofs.YtkciabfilokfiaaGreat.Fx
open Vg Tf
set_option linter.unusedSimpArgs false
set_option linter.unusedVariables false
set_option maxRecDepth 100000
set_option maxHeartbeats 4000000
def cuN (d:Dg)(s:Str):Cu:=(d.cus.find? (fun c=>c.nm==s)).getD ⟨[],[],[]⟩
def maN (d:Dg)(s:Str):Mp:=(d.mas.find? (fun c=>c.nm==s)).getD ⟨[],[],[],[]⟩
theorem cuN_c (d:DgL)(s:Str):cuN d.c s=((cuQ d.cus s).getD cu0).c:=by
 unfold cuN cuQ DgL.c
 simp only[List.find?_map]
 have:((fun c:Cu=>c.nm==s) ∘ CuL.c)=fun c=>c.c.nm==s:=rfl
 rw[this]
 cases d.cus.find? (fun c=>c.c.nm==s)<;>rfl
theorem maN_c (d:DgL)(s:Str):maN d.c s=((maQ d.mas s).getD ma0).c:=by
 unfold maN maQ DgL.c
 simp only[List.find?_map]
 have:((fun c:Mp=>c.nm==s) ∘ MpL.c)=fun c=>c.nm==s:=rfl
 rw[this]
 cases d.mas.find? (fun c=>c.nm==s)<;>rfl
def tblR (d:Dg)(b:Bl)(rs:List (Int×Int)):Int×Int:=bif b.kd==[99,117,114,118,101]then(ovrQ (cuN d b.tb) (rs.getD 0 (0,0))).1 else(sovQ (maN d b.tb) (rs.getD 0 (0,0)) (rs.getD 1 (0,0))).1
def tblQ (d:Dg)(b:Bl)(rs:List (Int×Int)):Int×Int:=limR (tblR d b rs) (bif fok (tyN d.tys b.ty)then flo (tyN d.tys b.ty)else 0) (bif fok (tyN d.tys b.ty)then fhi (tyN d.tys b.ty)else 0)
theorem table_ {H:Hp}(d:DgL):TabOk H d (tblQ d.c):=fun H' cp bT bC bM bS _ k b hb ht hok rs hrs=>by
 have hcu:((cuQ d.cus b.c.tb).getD cu0).ok H'∧((cuQ d.cus b.c.tb).getD cu0).c.xs.length≤1000000000000000∧((cuQ d.cus b.c.tb).getD cu0).c.ys.length≤1000000000000000:=by
  cases hq:cuQ d.cus b.c.tb with
  |none=>exact⟨⟨SlH.nil 1,SlH.nil 1⟩,by decide,by decide⟩
  |some c=>
   have hm:=List.mem_of_find?_eq_some hq
   exact⟨k.o.cus c hm,(k.s.cus.2 c hm).2.1,(k.s.cus.2 c hm).2.2⟩
 have hma:((maQ d.mas b.c.tb).getD ma0).ok H'∧∀v∈((maQ d.mas b.c.tb).getD ma0).zs,v.2.length≤1000000000000000:=by
  cases hq:maQ d.mas b.c.tb with
  |none=>exact⟨⟨SlH.nil 1,SlH.nil 1,SlH.nil 1,fun v hv=>by cases hv⟩,fun v hv=>by cases hv⟩
  |some c=>
   have hm:=List.mem_of_find?_eq_some hq
   exact⟨k.o.mas c hm,(k.s.mas.2 c hm).2⟩
 have hty:(tyN d.c.tys b.c.ty)=tyN d.tys b.c.ty:=rfl
 unfold tblQ tblR
 rw[cuN_c,maN_c,hty]
 have hlim:=lims (tyN d.tys b.c.ty)
 obtain⟨b0,o0,rfl,c0,el0,mk0,hc0,hcc⟩:=PtH.at k.c.p
 unfold tabK at ht
 cases hk:b.c.kd==[99,117,114,118,101]with
 |true=>
  have hkd:b.c.kd=[99,117,114,118,101]:=by simpa using hk
  obtain⟨g1,_⟩:=blOk_ks hok hk (show kindQ [99,117,114,118,101]=some (1,0,1) from rfl)
  rw[g1]at hrs
  obtain⟨r0,rfl⟩:=ln1 hrs
  have hM:ClM [(1,⟨true,rowsC ([r0].map rgR),45⟩)]:=ClM.of rfl
  have hov:=over_ ((cuQ d.cus b.c.tb).getD cu0) hcu.1 hcu.2.1 hcu.2.2 r0
  rw[cond_true,show([r0]:List (Int×Int)).getD 0 (0,0)=r0 from rfl]
  simp only[rowsC_cons,rowsC_nil,List.map_cons,List.map_nil,List.cons_append,List.nil_append,List.append_nil,rgR]at hM⊢
  refine CallX.mkS Tryz.func214 rfl en214 (by simp[Tryz.ntmps214]) (ClA.of rfl) (fun _=>rfl) (fun _=>rfl) fun C hR hP hH hL=>?_
  have hR:=hR () C hL trivial
  refine Sm.go 100 ?_
  simp(maxSteps:=2000000) only[go_sem,hk]
  refine Sm.dgW [102] 110 15 mix ?_
  refine vv ?_
  refine DOpQ.own 120 (Stp.nilV rfl rfl) ?_
  refine vv ?_
  refine DOpQ.own 120 (Stp.fldV rfl rfl rfl) ?_
  refine vv ?_
  refine DOpQ.ownC 120 (fun _=>StpC.ldH (hH _ _ hc0) (hcc 8 _ rfl) rfl rfl rfl) ?_
  refine vv ?_
  refine DOpQ.ownC 120 (fun _=>lkC1 (k.c.c.mono hH) rfl rfl rfl) ?_
  refine vv ?_
  refine DCallQ.h 130 (fun _=>hov) hH (fun _=>rfl) ?_
  generalize ovrQ ((cuQ d.cus b.c.tb).getD cu0).c r0=q at*
  refine vv ?_
  refine Sm.dg 130 12 mix ?_
  refine vv ?_
  refine DOpQ.own 140 (Stp.nilV rfl rfl) ?_
  refine vv ?_
  refine DOpQ.own 140 (Stp.fldV rfl rfl rfl) ?_
  refine vv ?_
  refine DOpQ.ownC 140 (fun _=>StpC.ldH (hH _ _ hc0) (hcc 7 _ rfl) rfl rfl rfl) ?_
  refine vv ?_
  refine DOpQ.ownC 140 (fun _=>lkT1 (k.c.t.mono hH) rfl rfl rfl) ?_
  refine vv ?_
  refine DCallQ.pure 150 hlim rfl ?_
  generalize (bif fok (tyN d.tys b.c.ty)then flo (tyN d.tys b.c.ty)else 0)=lo at*
  generalize (bif fok (tyN d.tys b.c.ty)then fhi (tyN d.tys b.c.ty)else 0)=hi at*
  refine vv ?_
  refine CallQ.pure 160 (limited_ q.1 lo hi) rfl ?_
  refine vv ?_
  exact RetQ.of hR rfl scv rvv (SubS.sub ⟨⟨_,rfl,.inl rfl⟩,trivial⟩) hM (ClV.of rfl)
 |false=>
  have hk2:(b.c.kd==[109,97,112])=true:=by rw[hk]at ht;simpa using ht
  have hkd:b.c.kd=[109,97,112]:=by simpa using hk2
  obtain⟨g1,_⟩:=blOk_ks hok hk2 (show kindQ [109,97,112]=some (2,0,2) from rfl)
  rw[g1]at hrs
  obtain⟨r0,r1,rfl⟩:=ln2 hrs
  have hM:ClM [(1,⟨true,rowsC ([r0,r1].map rgR),45⟩)]:=ClM.of rfl
  have hov:=sover_ ((maQ d.mas b.c.tb).getD ma0) hma.1 hma.2 r0 r1
  rw[cond_false,show([r0,r1]:List (Int×Int)).getD 0 (0,0)=r0 from rfl,show([r0,r1]:List (Int×Int)).getD 1 (0,0)=r1 from rfl]
  simp only[rowsC_cons,rowsC_nil,List.map_cons,List.map_nil,List.cons_append,List.nil_append,List.append_nil,rgR]at hM⊢
  refine CallX.mkS Tryz.func214 rfl en214 (by simp[Tryz.ntmps214]) (ClA.of rfl) (fun _=>rfl) (fun _=>rfl) fun C hR hP hH hL=>?_
  have hR:=hR () C hL trivial
  refine Sm.go 100 ?_
  simp(maxSteps:=2000000) only[go_sem,hk]
  refine Sm.dgW [102] 110 18 mix ?_
  refine vv ?_
  refine DOpQ.own 120 (Stp.nilV rfl rfl) ?_
  refine vv ?_
  refine DOpQ.own 120 (Stp.fldV rfl rfl rfl) ?_
  refine vv ?_
  refine DOpQ.ownC 120 (fun _=>StpC.ldH (hH _ _ hc0) (hcc 9 _ rfl) rfl rfl rfl) ?_
  refine vv ?_
  refine DOpQ.ownC 120 (fun _=>lkM1 (k.c.m.mono hH) rfl rfl rfl) ?_
  refine vv ?_
  refine DCallQ.h 130 (fun _=>hov) hH (fun _=>rfl) ?_
  generalize sovQ ((maQ d.mas b.c.tb).getD ma0).c r0 r1=q at*
  refine vv ?_
  refine Sm.dg 130 12 mix ?_
  refine vv ?_
  refine DOpQ.own 140 (Stp.nilV rfl rfl) ?_
  refine vv ?_
  refine DOpQ.own 140 (Stp.fldV rfl rfl rfl) ?_
  refine vv ?_
  refine DOpQ.ownC 140 (fun _=>StpC.ldH (hH _ _ hc0) (hcc 7 _ rfl) rfl rfl rfl) ?_
  refine vv ?_
  refine DOpQ.ownC 140 (fun _=>lkT1 (k.c.t.mono hH) rfl rfl rfl) ?_
  refine vv ?_
  refine DCallQ.pure 150 hlim rfl ?_
  generalize (bif fok (tyN d.tys b.c.ty)then flo (tyN d.tys b.c.ty)else 0)=lo at*
  generalize (bif fok (tyN d.tys b.c.ty)then fhi (tyN d.tys b.c.ty)else 0)=hi at*
  refine vv ?_
  refine CallQ.pure 160 (limited_ q.1 lo hi) rfl ?_
  refine vv ?_
  exact RetQ.of hR rfl scv rvv (SubS.sub ⟨⟨_,rfl,.inl rfl⟩,trivial⟩) hM (ClV.of rfl)
end Go.Proofs.YtkciabfilokfiaaGreat.Fx
namespace Go.Proofs.YtkciabfilokfiaaGreat.Fx
open Vg Tf
set_option linter.unusedSimpArgs false
set_option linter.unusedVariables false
set_option maxRecDepth 100000
set_option maxHeartbeats 4000000
theorem rtexts_ {H:Hp}(a b:Sv)(l:List Str)(ha:SlH H (vsl a l.length) 1 (strsR l))(hb:SlH H (vsl b l.length) 1 (strsR l))(hl:l.length≤1000000000000000):CallH H Tryz.prog 66 [.c (.v (vsl a l.length)),.c (.v (vsl b l.length))] (Bo true):=by
 refine CallH.mkS Tryz.func66 rfl en66 (by simp[Tryz.ntmps66]) (ClA.of rfl) fun C hR hP hH hL=>?_
 refine Sm.bringS 1 9 0 (ha.mono hH) rfl rfl ?_
 refine Sm.bringS 2 9 1 (hb.mono hH) rfl rfl (Sm.go 100 ?_)
 simp(maxSteps:=2000000) only[go_sem,bne_self_eq_false]
 refine Sm.loopM (M0:=[]) (α:={i:Nat//i≤l.length}) hP (fun i=>[(0,true,.c (.sl 1 0 l.length 1)),(1,true,.c (.sl 2 0 l.length 1)),(5,true,I i.val)])
  (fun _=>[(1,⟨true,l.map sC,9⟩),(2,⟨true,l.map sC,9⟩)]) (fun i=>l.length-i.val) ⟨0,by omega⟩ (fun _=>ClM.of (by simp only[List.all_cons,inMV (v_sC _)];rfl)) (fun _=>ClE.of rfl) [(1,1),(2,2)] ?_ ?_
 ·exact⟨rfl,trivial,⟨rfl,rfl,rfl,trivial⟩,⟨.inr ⟨_,rfl,.inl (renV (v_sC _))⟩,.inr ⟨_,rfl,.inl (renV (v_sC _))⟩,trivial⟩⟩
 rintro⟨i,hi⟩ J hj
 simp only at hj hi⊢
 refine Sm.go 110 ?_
 refine vv ?_
 refine mtch (fun hc=>?_) (fun hc=>?_)
 ·have hc:=lt_of_dec hc
  have gi:=get_sC hc
  refine Sm.dg 110 8 mix ?_
  simp(maxSteps:=2000000) only[go_sem,gi,bne_self_eq_false,wS (show i≤1000000000000000000 by omega)]
  exact⟨⟨by omega,by omega⟩,⟨by omega,by omega⟩,hj _ _ ⟨i+1,hc⟩ [(1,1),(2,2)] (by simp only;omega) ⟨rfl,trivial,⟨rfl,rfl,rfl,trivial⟩,⟨.inr ⟨_,rfl,.inl (renV (v_sC _))⟩,.inr ⟨_,rfl,.inl (renV (v_sC _))⟩,trivial⟩⟩⟩
 ·exact RetQ.bool (hR C hL) rfl scc rfl
theorem rsame6_ {H:Hp}(a b:Sv)(l:List Int)(ha:SlH H (vsl a l.length) 1 (intsR l))(hb:SlH H (vsl b l.length) 1 (intsR l))(hl:l.length≤1000000000000000):CallH H Tryz.prog 137 [.c (.v (vsl a l.length)),.c (.v (vsl b l.length))] (Bo true):=by
 refine CallH.mkS Tryz.func137 rfl en137 (by simp[Tryz.ntmps137]) (ClA.of rfl) fun C hR hP hH hL=>?_
 refine Sm.bringI 1 3 0 (ha.mono hH) rfl rfl ?_
 refine Sm.bringI 2 3 1 (hb.mono hH) rfl rfl (Sm.go 100 ?_)
 simp(maxSteps:=2000000) only[go_sem,bne_self_eq_false]
 refine Sm.loopM (M0:=[]) (α:={i:Nat//i≤l.length}) hP (fun i=>[(0,true,.c (.sl 1 0 l.length 1)),(1,true,.c (.sl 2 0 l.length 1)),(5,true,I i.val)])
  (fun _=>[(1,⟨true,l.map iC,3⟩),(2,⟨true,l.map iC,3⟩)]) (fun i=>l.length-i.val) ⟨0,by omega⟩ (fun _=>ClM.of (by simp only[List.all_cons,inMV (v_iC _)];rfl)) (fun _=>ClE.of rfl) [(1,1),(2,2)] ?_ ?_
 ·exact⟨rfl,trivial,⟨rfl,rfl,rfl,trivial⟩,⟨.inr ⟨_,rfl,.inl (renV (v_iC _))⟩,.inr ⟨_,rfl,.inl (renV (v_iC _))⟩,trivial⟩⟩
 rintro⟨i,hi⟩ J hj
 simp only at hj hi⊢
 refine Sm.go 110 ?_
 refine vv ?_
 refine mtch (fun hc=>?_) (fun hc=>?_)
 ·have hc:=lt_of_dec hc
  have gi:=get_iC hc
  refine Sm.dg 110 8 mix ?_
  simp(maxSteps:=2000000) only[go_sem,gi,bne_self_eq_false,wS (show i≤1000000000000000000 by omega)]
  exact⟨⟨by omega,by omega⟩,⟨by omega,by omega⟩,hj _ _ ⟨i+1,hc⟩ [(1,1),(2,2)] (by simp only;omega) ⟨rfl,trivial,⟨rfl,rfl,rfl,trivial⟩,⟨.inr ⟨_,rfl,.inl (renV (v_iC _))⟩,.inr ⟨_,rfl,.inl (renV (v_iC _))⟩,trivial⟩⟩⟩
 ·exact RetQ.bool (hR C hL) rfl scc rfl
theorem rnums_ {H:Hp}(a b:Sv)(l:List Int)(ha:SlH H (vsl a l.length) 1 (intsR l))(hb:SlH H (vsl b l.length) 1 (intsR l))(hl:l.length≤1000000000000000):CallH H Tryz.prog 138 [.c (.v (vsl a l.length)),.c (.v (vsl b l.length))] (Bo true):=by
 refine CallH.mkS Tryz.func138 rfl en138 (by simp[Tryz.ntmps138]) (ClA.of rfl) fun C hR hP hH hL=>?_
 refine Sm.bringI 1 3 0 (ha.mono hH) rfl rfl ?_
 refine Sm.bringI 2 3 1 (hb.mono hH) rfl rfl (Sm.go 100 ?_)
 simp(maxSteps:=2000000) only[go_sem,bne_self_eq_false]
 refine Sm.loopM (M0:=[]) (α:={i:Nat//i≤l.length}) hP (fun i=>[(0,true,.c (.sl 1 0 l.length 1)),(1,true,.c (.sl 2 0 l.length 1)),(5,true,I i.val)])
  (fun _=>[(1,⟨true,l.map iC,3⟩),(2,⟨true,l.map iC,3⟩)]) (fun i=>l.length-i.val) ⟨0,by omega⟩ (fun _=>ClM.of (by simp only[List.all_cons,inMV (v_iC _)];rfl)) (fun _=>ClE.of rfl) [(1,1),(2,2)] ?_ ?_
 ·exact⟨rfl,trivial,⟨rfl,rfl,rfl,trivial⟩,⟨.inr ⟨_,rfl,.inl (renV (v_iC _))⟩,.inr ⟨_,rfl,.inl (renV (v_iC _))⟩,trivial⟩⟩
 rintro⟨i,hi⟩ J hj
 simp only at hj hi⊢
 refine Sm.go 110 ?_
 refine vv ?_
 refine mtch (fun hc=>?_) (fun hc=>?_)
 ·have hc:=lt_of_dec hc
  have gi:=get_iC hc
  refine Sm.dg 110 8 mix ?_
  simp(maxSteps:=2000000) only[go_sem,gi,bne_self_eq_false,wS (show i≤1000000000000000000 by omega)]
  exact⟨⟨by omega,by omega⟩,⟨by omega,by omega⟩,hj _ _ ⟨i+1,hc⟩ [(1,1),(2,2)] (by simp only;omega) ⟨rfl,trivial,⟨rfl,rfl,rfl,trivial⟩,⟨.inr ⟨_,rfl,.inl (renV (v_iC _))⟩,.inr ⟨_,rfl,.inl (renV (v_iC _))⟩,trivial⟩⟩⟩
 ·exact RetQ.bool (hR C hL) rfl scc rfl
end Go.Proofs.YtkciabfilokfiaaGreat.Fx
