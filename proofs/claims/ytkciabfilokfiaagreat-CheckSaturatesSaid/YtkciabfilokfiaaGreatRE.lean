/-  -/
import Derived.Test.YtkciabfilokfiaaGreatPS
import Derived.Test.YtkciabfilokfiaaGreatRM
import Derived.Test.YtkciabfilokfiaaGreatRD
namespace Go.Proofs.YtkciabfilokfiaaGreat.Fx
open Vg Tf
set_option linter.unusedSimpArgs false
set_option linter.unusedVariables false
set_option maxRecDepth 100000
set_option maxHeartbeats 4000000
def cuN (d:Dg)(s:Str):Cu:=(d.cus.find? (fun c=>c.nm==s)).getD ⟨[],[],[]⟩
def maN (d:Dg)(s:Str):Mp:=(d.mas.find? (fun c=>c.nm==s)).getD ⟨[],[],[],[]⟩
theorem cuN_c (d:DgL)(s:Str):cuN d.c s=((cuQ d.cus s).getD cu0).c:=by
 unfold cuN cuQ DgL.c
 simp only[List.find?_map]
 have:((fun c:Cu=>c.nm==s) ∘ CuL.c)=fun c=>c.c.nm==s:=rfl
 rw[this]
 cases d.cus.find? (fun c=>c.c.nm==s)<;>rfl
theorem maN_c (d:DgL)(s:Str):maN d.c s=((maQ d.mas s).getD ma0).c:=by
 unfold maN maQ DgL.c
 simp only[List.find?_map]
 have:((fun c:Mp=>c.nm==s) ∘ MpL.c)=fun c=>c.nm==s:=rfl
 rw[this]
 cases d.mas.find? (fun c=>c.nm==s)<;>rfl
def tblR (d:Dg)(b:Bl)(rs:List (Int×Int)):Int×Int:=bif b.kd==[99,117,114,118,101]then(ovrQ (cuN d b.tb) (rs.getD 0 (0,0))).1 else(sovQ (maN d b.tb) (rs.getD 0 (0,0)) (rs.getD 1 (0,0))).1
def tblQ (d:Dg)(b:Bl)(rs:List (Int×Int)):Int×Int:=limR (tblR d b rs) (bif fok (tyN d.tys b.ty)then flo (tyN d.tys b.ty)else 0) (bif fok (tyN d.tys b.ty)then fhi (tyN d.tys b.ty)else 0)
theorem table_ {H:Hp}(d:DgL):TabOk H d (tblQ d.c):=fun H' cp bT bC bM bS _ k b hb ht hok rs hrs=>by
 have hcu:((cuQ d.cus b.c.tb).getD cu0).ok H'∧((cuQ d.cus b.c.tb).getD cu0).c.xs.length≤1000000000000000∧((cuQ d.cus b.c.tb).getD cu0).c.ys.length≤1000000000000000:=by
  cases hq:cuQ d.cus b.c.tb with
  |none=>exact⟨⟨SlH.nil 1,SlH.nil 1⟩,by decide,by decide⟩
  |some c=>
   have hm:=List.mem_of_find?_eq_some hq
   exact⟨k.o.cus c hm,(k.s.cus.2 c hm).2.1,(k.s.cus.2 c hm).2.2⟩
 have hma:((maQ d.mas b.c.tb).getD ma0).ok H'∧∀v∈((maQ d.mas b.c.tb).getD ma0).zs,v.2.length≤1000000000000000:=by
  cases hq:maQ d.mas b.c.tb with
  |none=>exact⟨⟨SlH.nil 1,SlH.nil 1,SlH.nil 1,fun v hv=>by cases hv⟩,fun v hv=>by cases hv⟩
  |some c=>
   have hm:=List.mem_of_find?_eq_some hq
   exact⟨k.o.mas c hm,(k.s.mas.2 c hm).2⟩
 have hty:(tyN d.c.tys b.c.ty)=tyN d.tys b.c.ty:=rfl
 unfold tblQ tblR
 rw[cuN_c,maN_c,hty]
 have hlim:=lims (tyN d.tys b.c.ty)
 obtain⟨b0,o0,rfl,c0,el0,mk0,hc0,hcc⟩:=PtH.at k.c.p
 unfold tabK at ht
 cases hk:b.c.kd==[99,117,114,118,101]with
 |true=>
  have hkd:b.c.kd=[99,117,114,118,101]:=by simpa using hk
  obtain⟨g1,_⟩:=blOk_ks hok hk (show kindQ [99,117,114,118,101]=some (1,0,1) from rfl)
  rw[g1]at hrs
  obtain⟨r0,rfl⟩:=ln1 hrs
  have hM:ClM [(1,⟨true,rowsC ([r0].map rgR),45⟩)]:=ClM.of rfl
  have hov:=over_ ((cuQ d.cus b.c.tb).getD cu0) hcu.1 hcu.2.1 hcu.2.2 r0
  rw[cond_true,show([r0]:List (Int×Int)).getD 0 (0,0)=r0 from rfl]
  simp only[rowsC_cons,rowsC_nil,List.map_cons,List.map_nil,List.cons_append,List.nil_append,List.append_nil,rgR]at hM⊢
  refine CallX.mkS Tryz.func214 rfl en214 (by simp[Tryz.ntmps214]) (ClA.of rfl) (fun _=>rfl) (fun _=>rfl) fun C hR hP hH hL=>?_
  have hR:=hR () C hL trivial
  refine Sm.go 100 ?_
  simp(maxSteps:=2000000) only[go_sem,hk]
  refine Sm.dgW [102] 110 15 mix ?_
  refine vv ?_
  refine DOpQ.own 120 (Stp.nilV rfl rfl) ?_
  refine vv ?_
  refine DOpQ.own 120 (Stp.fldV rfl rfl rfl) ?_
  refine vv ?_
  refine DOpQ.ownC 120 (fun _=>StpC.ldH (hH _ _ hc0) (hcc 8 _ rfl) rfl rfl rfl) ?_
  refine vv ?_
  refine DOpQ.ownC 120 (fun _=>lkC1 (k.c.c.mono hH) rfl rfl rfl) ?_
  refine vv ?_
  refine DCallQ.h 130 (fun _=>hov) hH (fun _=>rfl) ?_
  generalize ovrQ ((cuQ d.cus b.c.tb).getD cu0).c r0=q at*
  refine vv ?_
  refine Sm.dg 130 12 mix ?_
  refine vv ?_
  refine DOpQ.own 140 (Stp.nilV rfl rfl) ?_
  refine vv ?_
  refine DOpQ.own 140 (Stp.fldV rfl rfl rfl) ?_
  refine vv ?_
  refine DOpQ.ownC 140 (fun _=>StpC.ldH (hH _ _ hc0) (hcc 7 _ rfl) rfl rfl rfl) ?_
  refine vv ?_
  refine DOpQ.ownC 140 (fun _=>lkT1 (k.c.t.mono hH) rfl rfl rfl) ?_
  refine vv ?_
  refine DCallQ.pure 150 hlim rfl ?_
  generalize (bif fok (tyN d.tys b.c.ty)then flo (tyN d.tys b.c.ty)else 0)=lo at*
  generalize (bif fok (tyN d.tys b.c.ty)then fhi (tyN d.tys b.c.ty)else 0)=hi at*
  refine vv ?_
  refine CallQ.pure 160 (limited_ q.1 lo hi) rfl ?_
  refine vv ?_
  exact RetQ.of hR rfl scv rvv (SubS.sub ⟨⟨_,rfl,.inl rfl⟩,trivial⟩) hM (ClV.of rfl)
 |false=>
  have hk2:(b.c.kd==[109,97,112])=true:=by rw[hk]at ht;simpa using ht
  have hkd:b.c.kd=[109,97,112]:=by simpa using hk2
  obtain⟨g1,_⟩:=blOk_ks hok hk2 (show kindQ [109,97,112]=some (2,0,2) from rfl)
  rw[g1]at hrs
  obtain⟨r0,r1,rfl⟩:=ln2 hrs
  have hM:ClM [(1,⟨true,rowsC ([r0,r1].map rgR),45⟩)]:=ClM.of rfl
  have hov:=sover_ ((maQ d.mas b.c.tb).getD ma0) hma.1 hma.2 r0 r1
  rw[cond_false,show([r0,r1]:List (Int×Int)).getD 0 (0,0)=r0 from rfl,show([r0,r1]:List (Int×Int)).getD 1 (0,0)=r1 from rfl]
  simp only[rowsC_cons,rowsC_nil,List.map_cons,List.map_nil,List.cons_append,List.nil_append,List.append_nil,rgR]at hM⊢
  refine CallX.mkS Tryz.func214 rfl en214 (by simp[Tryz.ntmps214]) (ClA.of rfl) (fun _=>rfl) (fun _=>rfl) fun C hR hP hH hL=>?_
  have hR:=hR () C hL trivial
  refine Sm.go 100 ?_
  simp(maxSteps:=2000000) only[go_sem,hk]
  refine Sm.dgW [102] 110 18 mix ?_
  refine vv ?_
  refine DOpQ.own 120 (Stp.nilV rfl rfl) ?_
  refine vv ?_
  refine DOpQ.own 120 (Stp.fldV rfl rfl rfl) ?_
  refine vv ?_
  refine DOpQ.ownC 120 (fun _=>StpC.ldH (hH _ _ hc0) (hcc 9 _ rfl) rfl rfl rfl) ?_
  refine vv ?_
  refine DOpQ.ownC 120 (fun _=>lkM1 (k.c.m.mono hH) rfl rfl rfl) ?_
  refine vv ?_
  refine DCallQ.h 130 (fun _=>hov) hH (fun _=>rfl) ?_
  generalize sovQ ((maQ d.mas b.c.tb).getD ma0).c r0 r1=q at*
  refine vv ?_
  refine Sm.dg 130 12 mix ?_
  refine vv ?_
  refine DOpQ.own 140 (Stp.nilV rfl rfl) ?_
  refine vv ?_
  refine DOpQ.own 140 (Stp.fldV rfl rfl rfl) ?_
  refine vv ?_
  refine DOpQ.ownC 140 (fun _=>StpC.ldH (hH _ _ hc0) (hcc 7 _ rfl) rfl rfl rfl) ?_
  refine vv ?_
  refine DOpQ.ownC 140 (fun _=>lkT1 (k.c.t.mono hH) rfl rfl rfl) ?_
  refine vv ?_
  refine DCallQ.pure 150 hlim rfl ?_
  generalize (bif fok (tyN d.tys b.c.ty)then flo (tyN d.tys b.c.ty)else 0)=lo at*
  generalize (bif fok (tyN d.tys b.c.ty)then fhi (tyN d.tys b.c.ty)else 0)=hi at*
  refine vv ?_
  refine CallQ.pure 160 (limited_ q.1 lo hi) rfl ?_
  refine vv ?_
  exact RetQ.of hR rfl scv rvv (SubS.sub ⟨⟨_,rfl,.inl rfl⟩,trivial⟩) hM (ClV.of rfl)
end Go.Proofs.YtkciabfilokfiaaGreat.Fx
namespace Go.Proofs.YtkciabfilokfiaaGreat.Fx
open Vg Tf
set_option linter.unusedSimpArgs false
set_option linter.unusedVariables false
set_option maxRecDepth 100000
set_option maxHeartbeats 4000000
end Go.Proofs.YtkciabfilokfiaaGreat.Fx
namespace Go.Proofs.YtkciabfilokfiaaGreat.Fx
open Vg Tf
set_option linter.unusedSimpArgs false
set_option linter.unusedVariables false
set_option maxRecDepth 100000
set_option maxHeartbeats 4000000
end Go.Proofs.YtkciabfilokfiaaGreat.Fx
namespace Go.Proofs.YtkciabfilokfiaaGreat.Fx
open Vg Tf
set_option linter.unusedSimpArgs false
set_option linter.unusedVariables false
set_option maxRecDepth 100000
set_option maxHeartbeats 4000000
end Go.Proofs.YtkciabfilokfiaaGreat.Fx
namespace Go.Proofs.YtkciabfilokfiaaGreat.Fx
open Vg Tf
set_option linter.unusedSimpArgs false
set_option linter.unusedVariables false
set_option maxRecDepth 100000
set_option maxHeartbeats 4000000
def sg0:Sg:=⟨[],ft0,(0,0)⟩
def sgQ (l:List Sg)(s:Str):Option Sg:=l.find? (fun x=>x.nm==s)
attribute [go_sem] Sg.w
@[reducible] def z13:List Cv:=[.v (.string ⟨#[]⟩),.v (.int .i64 0),.v (.bool false),.v (.int .i64 0),.v (.int .i64 0),.v (.int .i64 0),.v (.int .i64 0),.v (.int .i64 0),.v (.int .i64 0),.v (.int .i64 0),.v (.int .i64 0),.v (.int .i64 0),.v (.int .i64 0)]
theorem sgQ_cons (g:Sg)(l:List Sg)(s:Str):sgQ (g::l) s=bif g.nm==s then some g else sgQ l s:=by
 unfold sgQ;rw[List.find?_cons];cases g.nm==s<;>rfl
theorem Signal_ {H:Hp}(c:CkL)(hc:c.ok H)(s:Str)(hl:c.sg.length≤1000000000000000):CallH H Tryz.prog 39 [rowV c.r,S s] (.tup [W.agg (((sgQ c.sg s).getD sg0).w.map Cv.v),Wb1 (sgQ c.sg s).isSome]):=by
 have hz:=rows_len (r:=Sg.w) (k:=13) (fun _=>rfl) c.sg
 have hlm:(c.sg.map Sg.w).length=c.sg.length:=List.length_map _
 have hcr:rowV c.r= .agg [.v (sv c.d.nm),.v (vsl c.d.ty c.d.tys.length),.v (vsl c.d.cu c.d.cus.length),.v (vsl c.d.ma c.d.mas.length),.v (vsl c.d.i c.d.ins.length),.v (vsl c.d.bl c.d.bls.length),.v (vsl c.d.ou c.d.ous.length),.v (vsl c.s c.sg.length),.v (vsl c.o c.od.length)]:=rfl
 rw[hcr]
 refine CallH.mkS Tryz.func39 rfl en39 (by simp[Tryz.ntmps39]) (ClA.of rfl) fun C hR hP hH hL=>?_
 refine Sm.go 100 ?_
 refine vv ?_
 refine Sm.bringR 5 47 9 (hc.s.mono hH) rfl rfl ?_
 rw[hlm]
 refine Sm.loopM (M0:=[]) (α:={i:Nat//i≤c.sg.length∧sgQ c.sg s=sgQ (c.sg.drop i) s}) hP (fun i=>[(1,true,S s),(4,true,.c (.p 4 0)),(9,true,.c (.sl 5 0 c.sg.length 13)),(10,true,I c.sg.length),(11,true,I i.val)])
  (fun _=>[(4,⟨false,z13,47⟩),(5,⟨true,rowsC (c.sg.map Sg.w),47⟩)]) (fun i=>c.sg.length-i.val) ⟨0,by omega,rfl⟩ (fun _=>ClM.of (by simp only[List.all_cons,inMV (rowsC_isV _)];rfl)) (fun _=>ClE.of rfl) [(4,101),(5,5)] ?_ ?_
 ·exact⟨rfl,trivial,⟨rfl,rfl,rfl,rfl,rfl,trivial⟩,⟨.inr ⟨_,rfl,.inl rfl⟩,.inr ⟨_,rfl,.inl (renV (rowsC_isV _))⟩,trivial⟩⟩
 rintro⟨i,hi,hx⟩ J hj
 simp only at hj hi hx⊢
 refine Sm.go 110 ?_
 refine vv ?_
 refine mtch (fun hc2=>?_) (fun hc2=>?_)
 ·have hc2:=lt_of_dec hc2
  have htk:=rows_take (r:=Sg.w) (k:=13) (fun _=>rfl) c.sg i hc2
  rw[List.drop_eq_getElem_cons hc2,sgQ_cons]at hx
  generalize c.sg[i]=g at*
  simp(maxSteps:=2000000) only[go_sem,htk,hz]
  refine⟨⟨by omega,by omega⟩,by omega,?_⟩
  refine mtch (fun hg=>?_) (fun hg=>?_)
  ·rw[hg,cond_true]at hx
   rw[hx]at hR
   exact RetQ.of (hR C hL) rfl (vv trivial) rfl (Sub.nil _) ClM.nil (ClV.of rfl)
  ·rw[hg,cond_false]at hx
   refine Sm.go 120 ?_
   simp(maxSteps:=2000000) only[go_sem,wS (show i≤1000000000000000000 by omega)]
   exact hj _ _ ⟨i+1,hc2,hx⟩ [(4,4),(5,5)] (by simp only;omega) ⟨rfl,trivial,⟨rfl,rfl,rfl,rfl,rfl,trivial⟩,⟨.inr ⟨_,rfl,.inl rfl⟩,.inr ⟨_,rfl,.inl (renV (rowsC_isV _))⟩,trivial⟩⟩
 ·have hc2:=eq_of_dec hi hc2
  rw[hc2,List.drop_length]at hx
  have hx:sgQ c.sg s=none:=hx
  rw[hx]at hR
  exact RetQ.of (hR C hL) rfl (vv trivial) rfl (Sub.nil _) ClM.nil (ClV.of rfl)
end Go.Proofs.YtkciabfilokfiaaGreat.Fx
