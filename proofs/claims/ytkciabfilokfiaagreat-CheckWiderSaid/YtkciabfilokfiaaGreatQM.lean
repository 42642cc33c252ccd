/-  -/
import Derived.Test.YtkciabfilokfiaaGreatPS
import Derived.Test.YtkciabfilokfiaaGreatQL
namespace Go.Proofs.YtkciabfilokfiaaGreat.Fx
open Vg Tf
set_option linter.unusedSimpArgs false
set_option linter.unusedVariables false
set_option maxRecDepth 100000
set_option maxHeartbeats 4000000
def blkR (t:Ft)(b:Bl)(rs:List (Int×Int))(ts:List Ft)(pr tb:Int×Int):(Int×Int)×Int:=
 let r:=fun i=>rs.getD i (0,0)
 let u:=fun i=>ts.getD i ft0
 let k:=fun i=>b.ks.getD i 0
 let cv:=cvR rs ts t
 bif b.kd==[99,111,110,115,116]then((k 0,k 0),0)
 else bif b.kd==[97,100,100]||(b.kd==[115,117,98]||(b.kd==[109,117,108]||b.kd==[100,105,118]))then(vR (arQ b.kd) (r 0) (r 1) (u 0) (u 1) t,vErr (arQ b.kd) (r 0).1 (r 0).2 (r 1).1 (r 1).2 (u 0) (u 1) t)
 else bif b.kd==[110,101,103]then((gR (-1) (u 0) (r 0).2 t,gR (-1) (u 0) (r 0).1 t),0)
 else bif b.kd==[99,111,110,118,101,114,116]then(cv 0,0)
 else bif b.kd==[109,105,110]then((min (cv 0).1 (cv 1).1,min (cv 0).2 (cv 1).2),0)
 else bif b.kd==[109,97,120]then((max (cv 0).1 (cv 1).1,max (cv 0).2 (cv 1).2),0)
 else bif b.kd==[108,105,109,105,116]then(limR (cv 0) (k 0) (k 1),0)
 else bif b.kd==[99,117,114,118,101]||b.kd==[109,97,112]then(tb,0)
 else bif b.kd==[115,119,105,116,99,104]then(bif !(mayQ (r 0)).2 then cv 1 else bif !(mayQ (r 0)).1 then cv 2 else hulR (cv 1) (cv 2),0)
 else bif b.kd==[108,101,115,115]||b.kd==[101,113,117,97,108]then(cmpR (b.kd==[108,101,115,115]) (r 0) (r 1) (u 0) (u 1),0)
 else bif b.kd==[110,111,116]then(logR 0 (r 0) (0,0),0)
 else bif b.kd==[97,110,100]then(logR 1 (r 0) (r 1),0)
 else bif b.kd==[111,114]then(logR 2 (r 0) (r 1),0)
 else bif b.kd==[104,121,115,116,101,114,101,115,105,115]then(truR (decide (k 1≤(r 0).2)) (decide ((r 0).1<k 1)),0)
 else bif b.kd==[100,101,108,97,121]then(pr,0)
 else(hulR pr (cv 0),0)
def tabK (s:Str):Bool:=s==[99,117,114,118,101]||s==[109,97,112]
def bkM (rs:List (Int×Int))(ts:List Ft):Mem:=[(1,⟨true,rowsC (rs.map rgR),45⟩),(2,⟨true,rowsC (ts.map ftR),43⟩)]
theorem rowsC_nil:rowsC []=[]:=rfl
theorem rowsC_cons (x:List Value)(l:List (List Value)):rowsC (x::l)=x.map Cv.v++rowsC l:=by simp[rowsC]
def BlkOk (H:Hp)(cp:Value)(d:DgL)(b:BlL)(rs:List (Int×Int))(ts:List Ft)(pr tb:Int×Int):Prop:=
 CallX H Tryz.prog 172 [.c (.v cp),rowV b.r,.c (.sl 1 0 rs.length 2),.c (.sl 2 0 ts.length 10),rA pr] (bkM rs ts) (fun _:Unit=>rE (blkR (tyN d.tys b.c.ty) b.c rs ts pr tb)) (fun _=>[]) (fun _ _=>True)
theorem blk_const {H:Hp}{cp:Value}{d:DgL}{bT bC' bM bS:Nat}(k:Ck H cp d bT bC' bM bS)(b:BlL)(hb:b.ok H)(hkd:b.c.kd=[99,111,110,115,116])(k0:Int)(hks:b.c.ks=[k0])(pr tb:Int×Int):BlkOk H cp d b [] [] pr tb:=by
 have hv:blkR (tyN d.tys b.c.ty) b.c [] [] pr tb=blkR (tyN d.tys b.c.ty) {b.c with kd:=[99,111,110,115,116],ks:=[k0]} [] [] pr tb:=by rw[←hkd,←hks]
 unfold BlkOk;rw[hv]
 have hM:ClM (bkM [] []):=ClM.of rfl
 unfold bkM at hM⊢
 obtain⟨e0,e1,e2,e3,e4,e5,e6,e7,e8,e9,e10,e11,e12,e13,e14,e15,e16,e17,e18,e19⟩:(b.c.kd==[99,111,110,115,116])=true∧(b.c.kd==[97,100,100])=false∧(b.c.kd==[115,117,98])=false∧(b.c.kd==[109,117,108])=false∧(b.c.kd==[100,105,118])=false∧(b.c.kd==[110,101,103])=false∧(b.c.kd==[99,111,110,118,101,114,116])=false∧(b.c.kd==[109,105,110])=false∧(b.c.kd==[109,97,120])=false∧(b.c.kd==[108,105,109,105,116])=false∧(b.c.kd==[99,117,114,118,101])=false∧(b.c.kd==[109,97,112])=false∧(b.c.kd==[115,119,105,116,99,104])=false∧(b.c.kd==[108,101,115,115])=false∧(b.c.kd==[101,113,117,97,108])=false∧(b.c.kd==[97,110,100])=false∧(b.c.kd==[111,114])=false∧(b.c.kd==[110,111,116])=false∧(b.c.kd==[104,121,115,116,101,114,101,115,105,115])=false∧(b.c.kd==[100,101,108,97,121])=false:=by rw[hkd];decide
 obtain⟨b0,o0,rfl,c0,el0,mk0,hc0,hcc⟩:=PtH.at k.c.p
 refine CallX.mkS Tryz.func172 rfl en172 (by simp[Tryz.ntmps172]) (ClA.of rfl) (fun _=>rfl) (fun _=>rfl) fun C hR hP hH hL=>?_
 have hR:=hR ()
 refine Sm.bringB (hb.mono hH) 1 ⟨rfl,rfl⟩ rfl ?_
 refine Sm.go 100 ?_
 simp(maxSteps:=2000000) only[go_sem,hks]
 refine Sm.dg 110 8 mix ?_
 refine vv ?_
 refine DOpQ.own 120 (Stp.nilV rfl rfl) ?_
 refine vv ?_
 refine DOpQ.own 120 (Stp.fldV rfl rfl rfl) ?_
 refine vv ?_
 refine DOpQ.ownC 120 (fun _=>StpC.ldH (hH _ _ hc0) (hcc 7 _ rfl) rfl rfl rfl) ?_
 refine vv ?_
 refine DOpQ.ownC 120 (fun _=>lkT1 (k.c.t.mono hH) rfl rfl rfl) ?_
 generalize tyN d.tys b.c.ty=t at*
 simp(maxSteps:=2000000) only[go_sem,e0,e1,e2,e3,e4,e5,e6,e7,e8,e9,e10,e11,e12,e13,e14,e15,e16,e17,e18,e19,hks]
 refine Sm.dg 130 8 mix ?_
 simp(maxSteps:=2000000) only[go_sem,hks]
 exact RetQ.of (hR C hL trivial) rfl scv rvv (SubS.sub ⟨⟨_,rfl,.inl rfl⟩,⟨_,rfl,.inl rfl⟩,trivial⟩) hM (ClV.of rfl)
theorem blk_add {H:Hp}{cp:Value}{d:DgL}{bT bC' bM bS:Nat}(k:Ck H cp d bT bC' bM bS)(b:BlL)(hb:b.ok H)(hkd:b.c.kd=[97,100,100])(r0 r1:Int×Int)(a0 a1:Ft)(hks:b.c.ks=[])(pr tb:Int×Int):BlkOk H cp d b [r0,r1] [a0,a1] pr tb:=by
 have hv:blkR (tyN d.tys b.c.ty) b.c [r0,r1] [a0,a1] pr tb=blkR (tyN d.tys b.c.ty) {b.c with kd:=[97,100,100],ks:=[]} [r0,r1] [a0,a1] pr tb:=by rw[←hkd,←hks]
 unfold BlkOk;rw[hv]
 have hM:ClM (bkM [r0,r1] [a0,a1]):=ClM.of rfl
 unfold bkM at hM⊢
 simp only[rowsC_cons,rowsC_nil,List.map_cons,List.map_nil,List.cons_append,List.nil_append,List.append_nil,rgR,ftR]at hM⊢
 obtain⟨e0,e1,e2,e3,e4,e5,e6,e7,e8,e9,e10,e11,e12,e13,e14,e15,e16,e17,e18,e19⟩:(b.c.kd==[99,111,110,115,116])=false∧(b.c.kd==[97,100,100])=true∧(b.c.kd==[115,117,98])=false∧(b.c.kd==[109,117,108])=false∧(b.c.kd==[100,105,118])=false∧(b.c.kd==[110,101,103])=false∧(b.c.kd==[99,111,110,118,101,114,116])=false∧(b.c.kd==[109,105,110])=false∧(b.c.kd==[109,97,120])=false∧(b.c.kd==[108,105,109,105,116])=false∧(b.c.kd==[99,117,114,118,101])=false∧(b.c.kd==[109,97,112])=false∧(b.c.kd==[115,119,105,116,99,104])=false∧(b.c.kd==[108,101,115,115])=false∧(b.c.kd==[101,113,117,97,108])=false∧(b.c.kd==[97,110,100])=false∧(b.c.kd==[111,114])=false∧(b.c.kd==[110,111,116])=false∧(b.c.kd==[104,121,115,116,101,114,101,115,105,115])=false∧(b.c.kd==[100,101,108,97,121])=false:=by rw[hkd];decide
 obtain⟨b0,o0,rfl,c0,el0,mk0,hc0,hcc⟩:=PtH.at k.c.p
 refine CallX.mkS Tryz.func172 rfl en172 (by simp[Tryz.ntmps172]) (ClA.of rfl) (fun _=>rfl) (fun _=>rfl) fun C hR hP hH hL=>?_
 have hR:=hR ()
 refine Sm.bringB (hb.mono hH) 1 ⟨rfl,rfl⟩ rfl ?_
 refine Sm.go 100 ?_
 simp(maxSteps:=2000000) only[go_sem,hks]
 refine Sm.dg 110 8 mix ?_
 refine vv ?_
 refine DOpQ.own 120 (Stp.nilV rfl rfl) ?_
 refine vv ?_
 refine DOpQ.own 120 (Stp.fldV rfl rfl rfl) ?_
 refine vv ?_
 refine DOpQ.ownC 120 (fun _=>StpC.ldH (hH _ _ hc0) (hcc 7 _ rfl) rfl rfl rfl) ?_
 refine vv ?_
 refine DOpQ.ownC 120 (fun _=>lkT1 (k.c.t.mono hH) rfl rfl rfl) ?_
 generalize tyN d.tys b.c.ty=t at*
 simp(maxSteps:=2000000) only[go_sem,e0,e1,e2,e3,e4,e5,e6,e7,e8,e9,e10,e11,e12,e13,e14,e15,e16,e17,e18,e19,hks]
 refine Sm.dg 130 18 mix ?_
 refine vv ?_
 refine DCallQ.h 140 (fun _=>arithmetic_ b.c.kd r0 r1 a0 a1 t) hH (fun _=>rfl) ?_
 simp(maxSteps:=2000000) only[go_sem,hkd]
 exact RetQ.of (hR C hL trivial) rfl scv rvv (SubS.sub ⟨⟨_,rfl,.inl rfl⟩,⟨_,rfl,.inl rfl⟩,trivial⟩) hM (ClV.of rfl)
theorem blk_sub {H:Hp}{cp:Value}{d:DgL}{bT bC' bM bS:Nat}(k:Ck H cp d bT bC' bM bS)(b:BlL)(hb:b.ok H)(hkd:b.c.kd=[115,117,98])(r0 r1:Int×Int)(a0 a1:Ft)(hks:b.c.ks=[])(pr tb:Int×Int):BlkOk H cp d b [r0,r1] [a0,a1] pr tb:=by
 have hv:blkR (tyN d.tys b.c.ty) b.c [r0,r1] [a0,a1] pr tb=blkR (tyN d.tys b.c.ty) {b.c with kd:=[115,117,98],ks:=[]} [r0,r1] [a0,a1] pr tb:=by rw[←hkd,←hks]
 unfold BlkOk;rw[hv]
 have hM:ClM (bkM [r0,r1] [a0,a1]):=ClM.of rfl
 unfold bkM at hM⊢
 simp only[rowsC_cons,rowsC_nil,List.map_cons,List.map_nil,List.cons_append,List.nil_append,List.append_nil,rgR,ftR]at hM⊢
 obtain⟨e0,e1,e2,e3,e4,e5,e6,e7,e8,e9,e10,e11,e12,e13,e14,e15,e16,e17,e18,e19⟩:(b.c.kd==[99,111,110,115,116])=false∧(b.c.kd==[97,100,100])=false∧(b.c.kd==[115,117,98])=true∧(b.c.kd==[109,117,108])=false∧(b.c.kd==[100,105,118])=false∧(b.c.kd==[110,101,103])=false∧(b.c.kd==[99,111,110,118,101,114,116])=false∧(b.c.kd==[109,105,110])=false∧(b.c.kd==[109,97,120])=false∧(b.c.kd==[108,105,109,105,116])=false∧(b.c.kd==[99,117,114,118,101])=false∧(b.c.kd==[109,97,112])=false∧(b.c.kd==[115,119,105,116,99,104])=false∧(b.c.kd==[108,101,115,115])=false∧(b.c.kd==[101,113,117,97,108])=false∧(b.c.kd==[97,110,100])=false∧(b.c.kd==[111,114])=false∧(b.c.kd==[110,111,116])=false∧(b.c.kd==[104,121,115,116,101,114,101,115,105,115])=false∧(b.c.kd==[100,101,108,97,121])=false:=by rw[hkd];decide
 obtain⟨b0,o0,rfl,c0,el0,mk0,hc0,hcc⟩:=PtH.at k.c.p
 refine CallX.mkS Tryz.func172 rfl en172 (by simp[Tryz.ntmps172]) (ClA.of rfl) (fun _=>rfl) (fun _=>rfl) fun C hR hP hH hL=>?_
 have hR:=hR ()
 refine Sm.bringB (hb.mono hH) 1 ⟨rfl,rfl⟩ rfl ?_
 refine Sm.go 100 ?_
 simp(maxSteps:=2000000) only[go_sem,hks]
 refine Sm.dg 110 8 mix ?_
 refine vv ?_
 refine DOpQ.own 120 (Stp.nilV rfl rfl) ?_
 refine vv ?_
 refine DOpQ.own 120 (Stp.fldV rfl rfl rfl) ?_
 refine vv ?_
 refine DOpQ.ownC 120 (fun _=>StpC.ldH (hH _ _ hc0) (hcc 7 _ rfl) rfl rfl rfl) ?_
 refine vv ?_
 refine DOpQ.ownC 120 (fun _=>lkT1 (k.c.t.mono hH) rfl rfl rfl) ?_
 generalize tyN d.tys b.c.ty=t at*
 simp(maxSteps:=2000000) only[go_sem,e0,e1,e2,e3,e4,e5,e6,e7,e8,e9,e10,e11,e12,e13,e14,e15,e16,e17,e18,e19,hks]
 refine Sm.dg 130 18 mix ?_
 refine vv ?_
 refine DCallQ.h 140 (fun _=>arithmetic_ b.c.kd r0 r1 a0 a1 t) hH (fun _=>rfl) ?_
 simp(maxSteps:=2000000) only[go_sem,hkd]
 exact RetQ.of (hR C hL trivial) rfl scv rvv (SubS.sub ⟨⟨_,rfl,.inl rfl⟩,⟨_,rfl,.inl rfl⟩,trivial⟩) hM (ClV.of rfl)
theorem blk_mul {H:Hp}{cp:Value}{d:DgL}{bT bC' bM bS:Nat}(k:Ck H cp d bT bC' bM bS)(b:BlL)(hb:b.ok H)(hkd:b.c.kd=[109,117,108])(r0 r1:Int×Int)(a0 a1:Ft)(hks:b.c.ks=[])(pr tb:Int×Int):BlkOk H cp d b [r0,r1] [a0,a1] pr tb:=by
 have hv:blkR (tyN d.tys b.c.ty) b.c [r0,r1] [a0,a1] pr tb=blkR (tyN d.tys b.c.ty) {b.c with kd:=[109,117,108],ks:=[]} [r0,r1] [a0,a1] pr tb:=by rw[←hkd,←hks]
 unfold BlkOk;rw[hv]
 have hM:ClM (bkM [r0,r1] [a0,a1]):=ClM.of rfl
 unfold bkM at hM⊢
 simp only[rowsC_cons,rowsC_nil,List.map_cons,List.map_nil,List.cons_append,List.nil_append,List.append_nil,rgR,ftR]at hM⊢
 obtain⟨e0,e1,e2,e3,e4,e5,e6,e7,e8,e9,e10,e11,e12,e13,e14,e15,e16,e17,e18,e19⟩:(b.c.kd==[99,111,110,115,116])=false∧(b.c.kd==[97,100,100])=false∧(b.c.kd==[115,117,98])=false∧(b.c.kd==[109,117,108])=true∧(b.c.kd==[100,105,118])=false∧(b.c.kd==[110,101,103])=false∧(b.c.kd==[99,111,110,118,101,114,116])=false∧(b.c.kd==[109,105,110])=false∧(b.c.kd==[109,97,120])=false∧(b.c.kd==[108,105,109,105,116])=false∧(b.c.kd==[99,117,114,118,101])=false∧(b.c.kd==[109,97,112])=false∧(b.c.kd==[115,119,105,116,99,104])=false∧(b.c.kd==[108,101,115,115])=false∧(b.c.kd==[101,113,117,97,108])=false∧(b.c.kd==[97,110,100])=false∧(b.c.kd==[111,114])=false∧(b.c.kd==[110,111,116])=false∧(b.c.kd==[104,121,115,116,101,114,101,115,105,115])=false∧(b.c.kd==[100,101,108,97,121])=false:=by rw[hkd];decide
 obtain⟨b0,o0,rfl,c0,el0,mk0,hc0,hcc⟩:=PtH.at k.c.p
 refine CallX.mkS Tryz.func172 rfl en172 (by simp[Tryz.ntmps172]) (ClA.of rfl) (fun _=>rfl) (fun _=>rfl) fun C hR hP hH hL=>?_
 have hR:=hR ()
 refine Sm.bringB (hb.mono hH) 1 ⟨rfl,rfl⟩ rfl ?_
 refine Sm.go 100 ?_
 simp(maxSteps:=2000000) only[go_sem,hks]
 refine Sm.dg 110 8 mix ?_
 refine vv ?_
 refine DOpQ.own 120 (Stp.nilV rfl rfl) ?_
 refine vv ?_
 refine DOpQ.own 120 (Stp.fldV rfl rfl rfl) ?_
 refine vv ?_
 refine DOpQ.ownC 120 (fun _=>StpC.ldH (hH _ _ hc0) (hcc 7 _ rfl) rfl rfl rfl) ?_
 refine vv ?_
 refine DOpQ.ownC 120 (fun _=>lkT1 (k.c.t.mono hH) rfl rfl rfl) ?_
 generalize tyN d.tys b.c.ty=t at*
 simp(maxSteps:=2000000) only[go_sem,e0,e1,e2,e3,e4,e5,e6,e7,e8,e9,e10,e11,e12,e13,e14,e15,e16,e17,e18,e19,hks]
 refine Sm.dg 130 18 mix ?_
 refine vv ?_
 refine DCallQ.h 140 (fun _=>arithmetic_ b.c.kd r0 r1 a0 a1 t) hH (fun _=>rfl) ?_
 simp(maxSteps:=2000000) only[go_sem,hkd]
 exact RetQ.of (hR C hL trivial) rfl scv rvv (SubS.sub ⟨⟨_,rfl,.inl rfl⟩,⟨_,rfl,.inl rfl⟩,trivial⟩) hM (ClV.of rfl)
theorem blk_div {H:Hp}{cp:Value}{d:DgL}{bT bC' bM bS:Nat}(k:Ck H cp d bT bC' bM bS)(b:BlL)(hb:b.ok H)(hkd:b.c.kd=[100,105,118])(r0 r1:Int×Int)(a0 a1:Ft)(hks:b.c.ks=[])(pr tb:Int×Int):BlkOk H cp d b [r0,r1] [a0,a1] pr tb:=by
 have hv:blkR (tyN d.tys b.c.ty) b.c [r0,r1] [a0,a1] pr tb=blkR (tyN d.tys b.c.ty) {b.c with kd:=[100,105,118],ks:=[]} [r0,r1] [a0,a1] pr tb:=by rw[←hkd,←hks]
 unfold BlkOk;rw[hv]
 have hM:ClM (bkM [r0,r1] [a0,a1]):=ClM.of rfl
 unfold bkM at hM⊢
 simp only[rowsC_cons,rowsC_nil,List.map_cons,List.map_nil,List.cons_append,List.nil_append,List.append_nil,rgR,ftR]at hM⊢
 obtain⟨e0,e1,e2,e3,e4,e5,e6,e7,e8,e9,e10,e11,e12,e13,e14,e15,e16,e17,e18,e19⟩:(b.c.kd==[99,111,110,115,116])=false∧(b.c.kd==[97,100,100])=false∧(b.c.kd==[115,117,98])=false∧(b.c.kd==[109,117,108])=false∧(b.c.kd==[100,105,118])=true∧(b.c.kd==[110,101,103])=false∧(b.c.kd==[99,111,110,118,101,114,116])=false∧(b.c.kd==[109,105,110])=false∧(b.c.kd==[109,97,120])=false∧(b.c.kd==[108,105,109,105,116])=false∧(b.c.kd==[99,117,114,118,101])=false∧(b.c.kd==[109,97,112])=false∧(b.c.kd==[115,119,105,116,99,104])=false∧(b.c.kd==[108,101,115,115])=false∧(b.c.kd==[101,113,117,97,108])=false∧(b.c.kd==[97,110,100])=false∧(b.c.kd==[111,114])=false∧(b.c.kd==[110,111,116])=false∧(b.c.kd==[104,121,115,116,101,114,101,115,105,115])=false∧(b.c.kd==[100,101,108,97,121])=false:=by rw[hkd];decide
 obtain⟨b0,o0,rfl,c0,el0,mk0,hc0,hcc⟩:=PtH.at k.c.p
 refine CallX.mkS Tryz.func172 rfl en172 (by simp[Tryz.ntmps172]) (ClA.of rfl) (fun _=>rfl) (fun _=>rfl) fun C hR hP hH hL=>?_
 have hR:=hR ()
 refine Sm.bringB (hb.mono hH) 1 ⟨rfl,rfl⟩ rfl ?_
 refine Sm.go 100 ?_
 simp(maxSteps:=2000000) only[go_sem,hks]
 refine Sm.dg 110 8 mix ?_
 refine vv ?_
 refine DOpQ.own 120 (Stp.nilV rfl rfl) ?_
 refine vv ?_
 refine DOpQ.own 120 (Stp.fldV rfl rfl rfl) ?_
 refine vv ?_
 refine DOpQ.ownC 120 (fun _=>StpC.ldH (hH _ _ hc0) (hcc 7 _ rfl) rfl rfl rfl) ?_
 refine vv ?_
 refine DOpQ.ownC 120 (fun _=>lkT1 (k.c.t.mono hH) rfl rfl rfl) ?_
 generalize tyN d.tys b.c.ty=t at*
 simp(maxSteps:=2000000) only[go_sem,e0,e1,e2,e3,e4,e5,e6,e7,e8,e9,e10,e11,e12,e13,e14,e15,e16,e17,e18,e19,hks]
 refine Sm.dg 130 18 mix ?_
 refine vv ?_
 refine DCallQ.h 140 (fun _=>arithmetic_ b.c.kd r0 r1 a0 a1 t) hH (fun _=>rfl) ?_
 simp(maxSteps:=2000000) only[go_sem,hkd]
 exact RetQ.of (hR C hL trivial) rfl scv rvv (SubS.sub ⟨⟨_,rfl,.inl rfl⟩,⟨_,rfl,.inl rfl⟩,trivial⟩) hM (ClV.of rfl)
theorem blk_neg {H:Hp}{cp:Value}{d:DgL}{bT bC' bM bS:Nat}(k:Ck H cp d bT bC' bM bS)(b:BlL)(hb:b.ok H)(hkd:b.c.kd=[110,101,103])(r0:Int×Int)(a0:Ft)(hks:b.c.ks=[])(pr tb:Int×Int):BlkOk H cp d b [r0] [a0] pr tb:=by
 have hv:blkR (tyN d.tys b.c.ty) b.c [r0] [a0] pr tb=blkR (tyN d.tys b.c.ty) {b.c with kd:=[110,101,103],ks:=[]} [r0] [a0] pr tb:=by rw[←hkd,←hks]
 unfold BlkOk;rw[hv]
 have hM:ClM (bkM [r0] [a0]):=ClM.of rfl
 unfold bkM at hM⊢
 simp only[rowsC_cons,rowsC_nil,List.map_cons,List.map_nil,List.cons_append,List.nil_append,List.append_nil,rgR,ftR]at hM⊢
 obtain⟨e0,e1,e2,e3,e4,e5,e6,e7,e8,e9,e10,e11,e12,e13,e14,e15,e16,e17,e18,e19⟩:(b.c.kd==[99,111,110,115,116])=false∧(b.c.kd==[97,100,100])=false∧(b.c.kd==[115,117,98])=false∧(b.c.kd==[109,117,108])=false∧(b.c.kd==[100,105,118])=false∧(b.c.kd==[110,101,103])=true∧(b.c.kd==[99,111,110,118,101,114,116])=false∧(b.c.kd==[109,105,110])=false∧(b.c.kd==[109,97,120])=false∧(b.c.kd==[108,105,109,105,116])=false∧(b.c.kd==[99,117,114,118,101])=false∧(b.c.kd==[109,97,112])=false∧(b.c.kd==[115,119,105,116,99,104])=false∧(b.c.kd==[108,101,115,115])=false∧(b.c.kd==[101,113,117,97,108])=false∧(b.c.kd==[97,110,100])=false∧(b.c.kd==[111,114])=false∧(b.c.kd==[110,111,116])=false∧(b.c.kd==[104,121,115,116,101,114,101,115,105,115])=false∧(b.c.kd==[100,101,108,97,121])=false:=by rw[hkd];decide
 obtain⟨b0,o0,rfl,c0,el0,mk0,hc0,hcc⟩:=PtH.at k.c.p
 refine CallX.mkS Tryz.func172 rfl en172 (by simp[Tryz.ntmps172]) (ClA.of rfl) (fun _=>rfl) (fun _=>rfl) fun C hR hP hH hL=>?_
 have hR:=hR ()
 refine Sm.bringB (hb.mono hH) 1 ⟨rfl,rfl⟩ rfl ?_
 refine Sm.go 100 ?_
 simp(maxSteps:=2000000) only[go_sem,hks]
 refine Sm.dg 110 8 mix ?_
 refine vv ?_
 refine DOpQ.own 120 (Stp.nilV rfl rfl) ?_
 refine vv ?_
 refine DOpQ.own 120 (Stp.fldV rfl rfl rfl) ?_
 refine vv ?_
 refine DOpQ.ownC 120 (fun _=>StpC.ldH (hH _ _ hc0) (hcc 7 _ rfl) rfl rfl rfl) ?_
 refine vv ?_
 refine DOpQ.ownC 120 (fun _=>lkT1 (k.c.t.mono hH) rfl rfl rfl) ?_
 generalize tyN d.tys b.c.ty=t at*
 simp(maxSteps:=2000000) only[go_sem,e0,e1,e2,e3,e4,e5,e6,e7,e8,e9,e10,e11,e12,e13,e14,e15,e16,e17,e18,e19,hks]
 refine Sm.dg 130 11 mix ?_
 refine vv ?_
 refine DCallQ.ren [(1,102),(2,120),(3,2)] 140 (block2_ [a0] t r0.2 (by simp) (by simp)) (ClM.of rfl) rfl rfl ?_ rfl (.inr rfl) rfl rfl ?_
 ·exact⟨⟨_,rfl,.inr ⟨rfl,[],rfl⟩⟩,⟨_,rfl,.inr ⟨rfl,[],rfl⟩⟩,⟨_,rfl,.inl rfl⟩,trivial⟩
 refine vv ?_
 refine CallQ.ren [(1,102),(2,120),(3,2)] 150 (block2_ [a0] t r0.1 (by simp) (by simp)) (ClM.of rfl) rfl rfl ?_ rfl (.inr rfl) ?_
 ·exact⟨⟨_,rfl,.inr ⟨rfl,[],rfl⟩⟩,⟨_,rfl,.inr ⟨rfl,[],rfl⟩⟩,⟨_,rfl,.inl rfl⟩,trivial⟩
 refine vv ?_
 exact RetQ.of (hR C hL trivial) rfl scv rvv (SubS.sub ⟨⟨_,rfl,.inl rfl⟩,⟨_,rfl,.inl rfl⟩,trivial⟩) hM (ClV.of rfl)
theorem blk_min {H:Hp}{cp:Value}{d:DgL}{bT bC' bM bS:Nat}(k:Ck H cp d bT bC' bM bS)(b:BlL)(hb:b.ok H)(hkd:b.c.kd=[109,105,110])(r0 r1:Int×Int)(a0 a1:Ft)(hks:b.c.ks=[])(pr tb:Int×Int):BlkOk H cp d b [r0,r1] [a0,a1] pr tb:=by
 have hv:blkR (tyN d.tys b.c.ty) b.c [r0,r1] [a0,a1] pr tb=blkR (tyN d.tys b.c.ty) {b.c with kd:=[109,105,110],ks:=[]} [r0,r1] [a0,a1] pr tb:=by rw[←hkd,←hks]
 unfold BlkOk;rw[hv]
 have hM:ClM (bkM [r0,r1] [a0,a1]):=ClM.of rfl
 unfold bkM at hM⊢
 simp only[rowsC_cons,rowsC_nil,List.map_cons,List.map_nil,List.cons_append,List.nil_append,List.append_nil,rgR,ftR]at hM⊢
 obtain⟨e0,e1,e2,e3,e4,e5,e6,e7,e8,e9,e10,e11,e12,e13,e14,e15,e16,e17,e18,e19⟩:(b.c.kd==[99,111,110,115,116])=false∧(b.c.kd==[97,100,100])=false∧(b.c.kd==[115,117,98])=false∧(b.c.kd==[109,117,108])=false∧(b.c.kd==[100,105,118])=false∧(b.c.kd==[110,101,103])=false∧(b.c.kd==[99,111,110,118,101,114,116])=false∧(b.c.kd==[109,105,110])=true∧(b.c.kd==[109,97,120])=false∧(b.c.kd==[108,105,109,105,116])=false∧(b.c.kd==[99,117,114,118,101])=false∧(b.c.kd==[109,97,112])=false∧(b.c.kd==[115,119,105,116,99,104])=false∧(b.c.kd==[108,101,115,115])=false∧(b.c.kd==[101,113,117,97,108])=false∧(b.c.kd==[97,110,100])=false∧(b.c.kd==[111,114])=false∧(b.c.kd==[110,111,116])=false∧(b.c.kd==[104,121,115,116,101,114,101,115,105,115])=false∧(b.c.kd==[100,101,108,97,121])=false:=by rw[hkd];decide
 obtain⟨b0,o0,rfl,c0,el0,mk0,hc0,hcc⟩:=PtH.at k.c.p
 refine CallX.mkS Tryz.func172 rfl en172 (by simp[Tryz.ntmps172]) (ClA.of rfl) (fun _=>rfl) (fun _=>rfl) fun C hR hP hH hL=>?_
 have hR:=hR ()
 refine Sm.bringB (hb.mono hH) 1 ⟨rfl,rfl⟩ rfl ?_
 refine Sm.go 100 ?_
 simp(maxSteps:=2000000) only[go_sem,hks]
 refine Sm.dg 110 8 mix ?_
 refine vv ?_
 refine DOpQ.own 120 (Stp.nilV rfl rfl) ?_
 refine vv ?_
 refine DOpQ.own 120 (Stp.fldV rfl rfl rfl) ?_
 refine vv ?_
 refine DOpQ.ownC 120 (fun _=>StpC.ldH (hH _ _ hc0) (hcc 7 _ rfl) rfl rfl rfl) ?_
 refine vv ?_
 refine DOpQ.ownC 120 (fun _=>lkT1 (k.c.t.mono hH) rfl rfl rfl) ?_
 generalize tyN d.tys b.c.ty=t at*
 simp(maxSteps:=2000000) only[go_sem,e0,e1,e2,e3,e4,e5,e6,e7,e8,e9,e10,e11,e12,e13,e14,e15,e16,e17,e18,e19,hks]
 refine CallQ.ren [(1,101),(2,102),(3,120),(4,1),(5,2)] 140 (block1_ [r0,r1] [a0,a1] t 0 (by simp) (by simp) (by simp) (by simp)) (ClM.of rfl) rfl rfl ?_ rfl (.inr rfl) ?_
 ·exact⟨⟨_,rfl,.inr ⟨rfl,[],rfl⟩⟩,⟨_,rfl,.inr ⟨rfl,[],rfl⟩⟩,⟨_,rfl,.inr ⟨rfl,[],rfl⟩⟩,⟨_,rfl,.inl rfl⟩,⟨_,rfl,.inl rfl⟩,trivial⟩
 refine vv ?_
 refine CallQ.ren [(1,101),(2,102),(3,120),(4,1),(5,2)] 150 (block1_ [r0,r1] [a0,a1] t 1 (by simp) (by simp) (by simp) (by simp)) (ClM.of rfl) rfl rfl ?_ rfl (.inr rfl) ?_
 ·exact⟨⟨_,rfl,.inr ⟨rfl,[],rfl⟩⟩,⟨_,rfl,.inr ⟨rfl,[],rfl⟩⟩,⟨_,rfl,.inr ⟨rfl,[],rfl⟩⟩,⟨_,rfl,.inl rfl⟩,⟨_,rfl,.inl rfl⟩,trivial⟩
 refine vv ?_
 exact RetQ.of (hR C hL trivial) rfl scv rvv (SubS.sub ⟨⟨_,rfl,.inl rfl⟩,⟨_,rfl,.inl rfl⟩,trivial⟩) hM (ClV.of rfl)
theorem blk_max {H:Hp}{cp:Value}{d:DgL}{bT bC' bM bS:Nat}(k:Ck H cp d bT bC' bM bS)(b:BlL)(hb:b.ok H)(hkd:b.c.kd=[109,97,120])(r0 r1:Int×Int)(a0 a1:Ft)(hks:b.c.ks=[])(pr tb:Int×Int):BlkOk H cp d b [r0,r1] [a0,a1] pr tb:=by
 have hv:blkR (tyN d.tys b.c.ty) b.c [r0,r1] [a0,a1] pr tb=blkR (tyN d.tys b.c.ty) {b.c with kd:=[109,97,120],ks:=[]} [r0,r1] [a0,a1] pr tb:=by rw[←hkd,←hks]
 unfold BlkOk;rw[hv]
 have hM:ClM (bkM [r0,r1] [a0,a1]):=ClM.of rfl
 unfold bkM at hM⊢
 simp only[rowsC_cons,rowsC_nil,List.map_cons,List.map_nil,List.cons_append,List.nil_append,List.append_nil,rgR,ftR]at hM⊢
 obtain⟨e0,e1,e2,e3,e4,e5,e6,e7,e8,e9,e10,e11,e12,e13,e14,e15,e16,e17,e18,e19⟩:(b.c.kd==[99,111,110,115,116])=false∧(b.c.kd==[97,100,100])=false∧(b.c.kd==[115,117,98])=false∧(b.c.kd==[109,117,108])=false∧(b.c.kd==[100,105,118])=false∧(b.c.kd==[110,101,103])=false∧(b.c.kd==[99,111,110,118,101,114,116])=false∧(b.c.kd==[109,105,110])=false∧(b.c.kd==[109,97,120])=true∧(b.c.kd==[108,105,109,105,116])=false∧(b.c.kd==[99,117,114,118,101])=false∧(b.c.kd==[109,97,112])=false∧(b.c.kd==[115,119,105,116,99,104])=false∧(b.c.kd==[108,101,115,115])=false∧(b.c.kd==[101,113,117,97,108])=false∧(b.c.kd==[97,110,100])=false∧(b.c.kd==[111,114])=false∧(b.c.kd==[110,111,116])=false∧(b.c.kd==[104,121,115,116,101,114,101,115,105,115])=false∧(b.c.kd==[100,101,108,97,121])=false:=by rw[hkd];decide
 obtain⟨b0,o0,rfl,c0,el0,mk0,hc0,hcc⟩:=PtH.at k.c.p
 refine CallX.mkS Tryz.func172 rfl en172 (by simp[Tryz.ntmps172]) (ClA.of rfl) (fun _=>rfl) (fun _=>rfl) fun C hR hP hH hL=>?_
 have hR:=hR ()
 refine Sm.bringB (hb.mono hH) 1 ⟨rfl,rfl⟩ rfl ?_
 refine Sm.go 100 ?_
 simp(maxSteps:=2000000) only[go_sem,hks]
 refine Sm.dg 110 8 mix ?_
 refine vv ?_
 refine DOpQ.own 120 (Stp.nilV rfl rfl) ?_
 refine vv ?_
 refine DOpQ.own 120 (Stp.fldV rfl rfl rfl) ?_
 refine vv ?_
 refine DOpQ.ownC 120 (fun _=>StpC.ldH (hH _ _ hc0) (hcc 7 _ rfl) rfl rfl rfl) ?_
 refine vv ?_
 refine DOpQ.ownC 120 (fun _=>lkT1 (k.c.t.mono hH) rfl rfl rfl) ?_
 generalize tyN d.tys b.c.ty=t at*
 simp(maxSteps:=2000000) only[go_sem,e0,e1,e2,e3,e4,e5,e6,e7,e8,e9,e10,e11,e12,e13,e14,e15,e16,e17,e18,e19,hks]
 refine CallQ.ren [(1,101),(2,102),(3,120),(4,1),(5,2)] 140 (block1_ [r0,r1] [a0,a1] t 0 (by simp) (by simp) (by simp) (by simp)) (ClM.of rfl) rfl rfl ?_ rfl (.inr rfl) ?_
 ·exact⟨⟨_,rfl,.inr ⟨rfl,[],rfl⟩⟩,⟨_,rfl,.inr ⟨rfl,[],rfl⟩⟩,⟨_,rfl,.inr ⟨rfl,[],rfl⟩⟩,⟨_,rfl,.inl rfl⟩,⟨_,rfl,.inl rfl⟩,trivial⟩
 refine vv ?_
 refine CallQ.ren [(1,101),(2,102),(3,120),(4,1),(5,2)] 150 (block1_ [r0,r1] [a0,a1] t 1 (by simp) (by simp) (by simp) (by simp)) (ClM.of rfl) rfl rfl ?_ rfl (.inr rfl) ?_
 ·exact⟨⟨_,rfl,.inr ⟨rfl,[],rfl⟩⟩,⟨_,rfl,.inr ⟨rfl,[],rfl⟩⟩,⟨_,rfl,.inr ⟨rfl,[],rfl⟩⟩,⟨_,rfl,.inl rfl⟩,⟨_,rfl,.inl rfl⟩,trivial⟩
 refine vv ?_
 exact RetQ.of (hR C hL trivial) rfl scv rvv (SubS.sub ⟨⟨_,rfl,.inl rfl⟩,⟨_,rfl,.inl rfl⟩,trivial⟩) hM (ClV.of rfl)
theorem blk_limit {H:Hp}{cp:Value}{d:DgL}{bT bC' bM bS:Nat}(k:Ck H cp d bT bC' bM bS)(b:BlL)(hb:b.ok H)(hkd:b.c.kd=[108,105,109,105,116])(r0:Int×Int)(a0:Ft)(k0 k1:Int)(hks:b.c.ks=[k0,k1])(pr tb:Int×Int):BlkOk H cp d b [r0] [a0] pr tb:=by
 have hv:blkR (tyN d.tys b.c.ty) b.c [r0] [a0] pr tb=blkR (tyN d.tys b.c.ty) {b.c with kd:=[108,105,109,105,116],ks:=[k0,k1]} [r0] [a0] pr tb:=by rw[←hkd,←hks]
 unfold BlkOk;rw[hv]
 have hM:ClM (bkM [r0] [a0]):=ClM.of rfl
 unfold bkM at hM⊢
 simp only[rowsC_cons,rowsC_nil,List.map_cons,List.map_nil,List.cons_append,List.nil_append,List.append_nil,rgR,ftR]at hM⊢
 obtain⟨e0,e1,e2,e3,e4,e5,e6,e7,e8,e9,e10,e11,e12,e13,e14,e15,e16,e17,e18,e19⟩:(b.c.kd==[99,111,110,115,116])=false∧(b.c.kd==[97,100,100])=false∧(b.c.kd==[115,117,98])=false∧(b.c.kd==[109,117,108])=false∧(b.c.kd==[100,105,118])=false∧(b.c.kd==[110,101,103])=false∧(b.c.kd==[99,111,110,118,101,114,116])=false∧(b.c.kd==[109,105,110])=false∧(b.c.kd==[109,97,120])=false∧(b.c.kd==[108,105,109,105,116])=true∧(b.c.kd==[99,117,114,118,101])=false∧(b.c.kd==[109,97,112])=false∧(b.c.kd==[115,119,105,116,99,104])=false∧(b.c.kd==[108,101,115,115])=false∧(b.c.kd==[101,113,117,97,108])=false∧(b.c.kd==[97,110,100])=false∧(b.c.kd==[111,114])=false∧(b.c.kd==[110,111,116])=false∧(b.c.kd==[104,121,115,116,101,114,101,115,105,115])=false∧(b.c.kd==[100,101,108,97,121])=false:=by rw[hkd];decide
 obtain⟨b0,o0,rfl,c0,el0,mk0,hc0,hcc⟩:=PtH.at k.c.p
 refine CallX.mkS Tryz.func172 rfl en172 (by simp[Tryz.ntmps172]) (ClA.of rfl) (fun _=>rfl) (fun _=>rfl) fun C hR hP hH hL=>?_
 have hR:=hR ()
 refine Sm.bringB (hb.mono hH) 1 ⟨rfl,rfl⟩ rfl ?_
 refine Sm.go 100 ?_
 simp(maxSteps:=2000000) only[go_sem,hks]
 refine Sm.dg 110 8 mix ?_
 refine vv ?_
 refine DOpQ.own 120 (Stp.nilV rfl rfl) ?_
 refine vv ?_
 refine DOpQ.own 120 (Stp.fldV rfl rfl rfl) ?_
 refine vv ?_
 refine DOpQ.ownC 120 (fun _=>StpC.ldH (hH _ _ hc0) (hcc 7 _ rfl) rfl rfl rfl) ?_
 refine vv ?_
 refine DOpQ.ownC 120 (fun _=>lkT1 (k.c.t.mono hH) rfl rfl rfl) ?_
 generalize tyN d.tys b.c.ty=t at*
 simp(maxSteps:=2000000) only[go_sem,e0,e1,e2,e3,e4,e5,e6,e7,e8,e9,e10,e11,e12,e13,e14,e15,e16,e17,e18,e19,hks]
 refine Sm.dg 130 10 mix ?_
 simp(maxSteps:=2000000) only[go_sem,hks]
 refine DCallQ.ren [(1,101),(2,102),(3,120),(4,1),(5,2)] 140 (block1_ [r0] [a0] t 0 (by simp) (by simp) (by simp) (by simp)) (ClM.of rfl) rfl rfl ?_ rfl (.inr rfl) rfl rfl ?_
 ·exact⟨⟨_,rfl,.inr ⟨rfl,[],rfl⟩⟩,⟨_,rfl,.inr ⟨rfl,[],rfl⟩⟩,⟨_,rfl,.inr ⟨rfl,[],rfl⟩⟩,⟨_,rfl,.inl rfl⟩,⟨_,rfl,.inl rfl⟩,trivial⟩
 simp(maxSteps:=2000000) only[go_sem,hks]
 refine CallQ.pure 150 (limited_ (cvR [r0] [a0] t 0) k0 k1) rfl ?_
 refine vv ?_
 exact RetQ.of (hR C hL trivial) rfl scv rvv (SubS.sub ⟨⟨_,rfl,.inl rfl⟩,⟨_,rfl,.inl rfl⟩,trivial⟩) hM (ClV.of rfl)
theorem blk_convert {H:Hp}{cp:Value}{d:DgL}{bT bC' bM bS:Nat}(k:Ck H cp d bT bC' bM bS)(b:BlL)(hb:b.ok H)(hkd:b.c.kd=[99,111,110,118,101,114,116])(r0:Int×Int)(a0:Ft)(hks:b.c.ks=[])(pr tb:Int×Int):BlkOk H cp d b [r0] [a0] pr tb:=by
 have hv:blkR (tyN d.tys b.c.ty) b.c [r0] [a0] pr tb=blkR (tyN d.tys b.c.ty) {b.c with kd:=[99,111,110,118,101,114,116],ks:=[]} [r0] [a0] pr tb:=by rw[←hkd,←hks]
 unfold BlkOk;rw[hv]
 have hM:ClM (bkM [r0] [a0]):=ClM.of rfl
 unfold bkM at hM⊢
 simp only[rowsC_cons,rowsC_nil,List.map_cons,List.map_nil,List.cons_append,List.nil_append,List.append_nil,rgR,ftR]at hM⊢
 obtain⟨e0,e1,e2,e3,e4,e5,e6,e7,e8,e9,e10,e11,e12,e13,e14,e15,e16,e17,e18,e19⟩:(b.c.kd==[99,111,110,115,116])=false∧(b.c.kd==[97,100,100])=false∧(b.c.kd==[115,117,98])=false∧(b.c.kd==[109,117,108])=false∧(b.c.kd==[100,105,118])=false∧(b.c.kd==[110,101,103])=false∧(b.c.kd==[99,111,110,118,101,114,116])=true∧(b.c.kd==[109,105,110])=false∧(b.c.kd==[109,97,120])=false∧(b.c.kd==[108,105,109,105,116])=false∧(b.c.kd==[99,117,114,118,101])=false∧(b.c.kd==[109,97,112])=false∧(b.c.kd==[115,119,105,116,99,104])=false∧(b.c.kd==[108,101,115,115])=false∧(b.c.kd==[101,113,117,97,108])=false∧(b.c.kd==[97,110,100])=false∧(b.c.kd==[111,114])=false∧(b.c.kd==[110,111,116])=false∧(b.c.kd==[104,121,115,116,101,114,101,115,105,115])=false∧(b.c.kd==[100,101,108,97,121])=false:=by rw[hkd];decide
 obtain⟨b0,o0,rfl,c0,el0,mk0,hc0,hcc⟩:=PtH.at k.c.p
 refine CallX.mkS Tryz.func172 rfl en172 (by simp[Tryz.ntmps172]) (ClA.of rfl) (fun _=>rfl) (fun _=>rfl) fun C hR hP hH hL=>?_
 have hR:=hR ()
 refine Sm.bringB (hb.mono hH) 1 ⟨rfl,rfl⟩ rfl ?_
 refine Sm.go 100 ?_
 simp(maxSteps:=2000000) only[go_sem,hks]
 refine Sm.dg 110 8 mix ?_
 refine vv ?_
 refine DOpQ.own 120 (Stp.nilV rfl rfl) ?_
 refine vv ?_
 refine DOpQ.own 120 (Stp.fldV rfl rfl rfl) ?_
 refine vv ?_
 refine DOpQ.ownC 120 (fun _=>StpC.ldH (hH _ _ hc0) (hcc 7 _ rfl) rfl rfl rfl) ?_
 refine vv ?_
 refine DOpQ.ownC 120 (fun _=>lkT1 (k.c.t.mono hH) rfl rfl rfl) ?_
 generalize tyN d.tys b.c.ty=t at*
 simp(maxSteps:=2000000) only[go_sem,e0,e1,e2,e3,e4,e5,e6,e7,e8,e9,e10,e11,e12,e13,e14,e15,e16,e17,e18,e19,hks]
 refine CallQ.ren [(1,101),(2,102),(3,120),(4,1),(5,2)] 140 (block1_ [r0] [a0] t 0 (by simp) (by simp) (by simp) (by simp)) (ClM.of rfl) rfl rfl ?_ rfl (.inr rfl) ?_
 ·exact⟨⟨_,rfl,.inr ⟨rfl,[],rfl⟩⟩,⟨_,rfl,.inr ⟨rfl,[],rfl⟩⟩,⟨_,rfl,.inr ⟨rfl,[],rfl⟩⟩,⟨_,rfl,.inl rfl⟩,⟨_,rfl,.inl rfl⟩,trivial⟩
 refine vv ?_
 exact RetQ.of (hR C hL trivial) rfl scv rvv (SubS.sub ⟨⟨_,rfl,.inl rfl⟩,⟨_,rfl,.inl rfl⟩,trivial⟩) hM (ClV.of rfl)
theorem blk_curve {H:Hp}{cp:Value}{d:DgL}{bT bC' bM bS:Nat}(k:Ck H cp d bT bC' bM bS)(b:BlL)(hb:b.ok H)(hkd:b.c.kd=[99,117,114,118,101])(r0:Int×Int)(a0:Ft)(hks:b.c.ks=[])(pr tb:Int×Int)(hT:CallX H Tryz.prog 214 [.c (.v cp),rowV b.r,.c (.sl 1 0 1 2)] [(1,⟨true,rowsC ([r0].map rgR),45⟩)] (fun _:Unit=>rA tb) (fun _=>[]) (fun _ _=>True)):BlkOk H cp d b [r0] [a0] pr tb:=by
 have hv:blkR (tyN d.tys b.c.ty) b.c [r0] [a0] pr tb=blkR (tyN d.tys b.c.ty) {b.c with kd:=[99,117,114,118,101],ks:=[]} [r0] [a0] pr tb:=by rw[←hkd,←hks]
 unfold BlkOk;rw[hv]
 have hM:ClM (bkM [r0] [a0]):=ClM.of rfl
 unfold bkM at hM⊢
 simp only[rowsC_cons,rowsC_nil,List.map_cons,List.map_nil,List.cons_append,List.nil_append,List.append_nil,rgR,ftR]at hM⊢
 obtain⟨e0,e1,e2,e3,e4,e5,e6,e7,e8,e9,e10,e11,e12,e13,e14,e15,e16,e17,e18,e19⟩:(b.c.kd==[99,111,110,115,116])=false∧(b.c.kd==[97,100,100])=false∧(b.c.kd==[115,117,98])=false∧(b.c.kd==[109,117,108])=false∧(b.c.kd==[100,105,118])=false∧(b.c.kd==[110,101,103])=false∧(b.c.kd==[99,111,110,118,101,114,116])=false∧(b.c.kd==[109,105,110])=false∧(b.c.kd==[109,97,120])=false∧(b.c.kd==[108,105,109,105,116])=false∧(b.c.kd==[99,117,114,118,101])=true∧(b.c.kd==[109,97,112])=false∧(b.c.kd==[115,119,105,116,99,104])=false∧(b.c.kd==[108,101,115,115])=false∧(b.c.kd==[101,113,117,97,108])=false∧(b.c.kd==[97,110,100])=false∧(b.c.kd==[111,114])=false∧(b.c.kd==[110,111,116])=false∧(b.c.kd==[104,121,115,116,101,114,101,115,105,115])=false∧(b.c.kd==[100,101,108,97,121])=false:=by rw[hkd];decide
 obtain⟨b0,o0,rfl,c0,el0,mk0,hc0,hcc⟩:=PtH.at k.c.p
 refine CallX.mkS Tryz.func172 rfl en172 (by simp[Tryz.ntmps172]) (ClA.of rfl) (fun _=>rfl) (fun _=>rfl) fun C hR hP hH hL=>?_
 have hR:=hR ()
 refine Sm.go 100 ?_
 refine vv ?_
 refine Sm.dg 110 8 mix ?_
 refine vv ?_
 refine DOpQ.own 120 (Stp.nilV rfl rfl) ?_
 refine vv ?_
 refine DOpQ.own 120 (Stp.fldV rfl rfl rfl) ?_
 refine vv ?_
 refine DOpQ.ownC 120 (fun _=>StpC.ldH (hH _ _ hc0) (hcc 7 _ rfl) rfl rfl rfl) ?_
 refine vv ?_
 refine DOpQ.ownC 120 (fun _=>lkT1 (k.c.t.mono hH) rfl rfl rfl) ?_
 generalize tyN d.tys b.c.ty=t at*
 simp(maxSteps:=2000000) only[go_sem,e0,e1,e2,e3,e4,e5,e6,e7,e8,e9,e10,e11,e12,e13,e14,e15,e16,e17,e18,e19]
 refine CallQ.hr [(1,1)] 140 hT hH (ClM.of rfl) rfl rfl ⟨⟨_,rfl,.inl rfl⟩,trivial⟩ rfl (.inl rfl) ?_
 refine vv ?_
 exact RetQ.of (hR C hL trivial) rfl scv rvv (SubS.sub ⟨⟨_,rfl,.inl rfl⟩,⟨_,rfl,.inl rfl⟩,trivial⟩) hM (ClV.of rfl)
theorem blk_map {H:Hp}{cp:Value}{d:DgL}{bT bC' bM bS:Nat}(k:Ck H cp d bT bC' bM bS)(b:BlL)(hb:b.ok H)(hkd:b.c.kd=[109,97,112])(r0 r1:Int×Int)(a0 a1:Ft)(hks:b.c.ks=[])(pr tb:Int×Int)(hT:CallX H Tryz.prog 214 [.c (.v cp),rowV b.r,.c (.sl 1 0 2 2)] [(1,⟨true,rowsC ([r0,r1].map rgR),45⟩)] (fun _:Unit=>rA tb) (fun _=>[]) (fun _ _=>True)):BlkOk H cp d b [r0,r1] [a0,a1] pr tb:=by
 have hv:blkR (tyN d.tys b.c.ty) b.c [r0,r1] [a0,a1] pr tb=blkR (tyN d.tys b.c.ty) {b.c with kd:=[109,97,112],ks:=[]} [r0,r1] [a0,a1] pr tb:=by rw[←hkd,←hks]
 unfold BlkOk;rw[hv]
 have hM:ClM (bkM [r0,r1] [a0,a1]):=ClM.of rfl
 unfold bkM at hM⊢
 simp only[rowsC_cons,rowsC_nil,List.map_cons,List.map_nil,List.cons_append,List.nil_append,List.append_nil,rgR,ftR]at hM⊢
 obtain⟨e0,e1,e2,e3,e4,e5,e6,e7,e8,e9,e10,e11,e12,e13,e14,e15,e16,e17,e18,e19⟩:(b.c.kd==[99,111,110,115,116])=false∧(b.c.kd==[97,100,100])=false∧(b.c.kd==[115,117,98])=false∧(b.c.kd==[109,117,108])=false∧(b.c.kd==[100,105,118])=false∧(b.c.kd==[110,101,103])=false∧(b.c.kd==[99,111,110,118,101,114,116])=false∧(b.c.kd==[109,105,110])=false∧(b.c.kd==[109,97,120])=false∧(b.c.kd==[108,105,109,105,116])=false∧(b.c.kd==[99,117,114,118,101])=false∧(b.c.kd==[109,97,112])=true∧(b.c.kd==[115,119,105,116,99,104])=false∧(b.c.kd==[108,101,115,115])=false∧(b.c.kd==[101,113,117,97,108])=false∧(b.c.kd==[97,110,100])=false∧(b.c.kd==[111,114])=false∧(b.c.kd==[110,111,116])=false∧(b.c.kd==[104,121,115,116,101,114,101,115,105,115])=false∧(b.c.kd==[100,101,108,97,121])=false:=by rw[hkd];decide
 obtain⟨b0,o0,rfl,c0,el0,mk0,hc0,hcc⟩:=PtH.at k.c.p
 refine CallX.mkS Tryz.func172 rfl en172 (by simp[Tryz.ntmps172]) (ClA.of rfl) (fun _=>rfl) (fun _=>rfl) fun C hR hP hH hL=>?_
 have hR:=hR ()
 refine Sm.go 100 ?_
 refine vv ?_
 refine Sm.dg 110 8 mix ?_
 refine vv ?_
 refine DOpQ.own 120 (Stp.nilV rfl rfl) ?_
 refine vv ?_
 refine DOpQ.own 120 (Stp.fldV rfl rfl rfl) ?_
 refine vv ?_
 refine DOpQ.ownC 120 (fun _=>StpC.ldH (hH _ _ hc0) (hcc 7 _ rfl) rfl rfl rfl) ?_
 refine vv ?_
 refine DOpQ.ownC 120 (fun _=>lkT1 (k.c.t.mono hH) rfl rfl rfl) ?_
 generalize tyN d.tys b.c.ty=t at*
 simp(maxSteps:=2000000) only[go_sem,e0,e1,e2,e3,e4,e5,e6,e7,e8,e9,e10,e11,e12,e13,e14,e15,e16,e17,e18,e19]
 refine CallQ.hr [(1,1)] 140 hT hH (ClM.of rfl) rfl rfl ⟨⟨_,rfl,.inl rfl⟩,trivial⟩ rfl (.inl rfl) ?_
 refine vv ?_
 exact RetQ.of (hR C hL trivial) rfl scv rvv (SubS.sub ⟨⟨_,rfl,.inl rfl⟩,⟨_,rfl,.inl rfl⟩,trivial⟩) hM (ClV.of rfl)
theorem blk_delay {H:Hp}{cp:Value}{d:DgL}{bT bC' bM bS:Nat}(k:Ck H cp d bT bC' bM bS)(b:BlL)(hb:b.ok H)(hkd:b.c.kd=[100,101,108,97,121])(r0:Int×Int)(a0:Ft)(k0:Int)(hks:b.c.ks=[k0])(pr tb:Int×Int):BlkOk H cp d b [r0] [a0] pr tb:=by
 have hv:blkR (tyN d.tys b.c.ty) b.c [r0] [a0] pr tb=blkR (tyN d.tys b.c.ty) {b.c with kd:=[100,101,108,97,121],ks:=[k0]} [r0] [a0] pr tb:=by rw[←hkd,←hks]
 unfold BlkOk;rw[hv]
 have hM:ClM (bkM [r0] [a0]):=ClM.of rfl
 unfold bkM at hM⊢
 simp only[rowsC_cons,rowsC_nil,List.map_cons,List.map_nil,List.cons_append,List.nil_append,List.append_nil,rgR,ftR]at hM⊢
 obtain⟨e0,e1,e2,e3,e4,e5,e6,e7,e8,e9,e10,e11,e12,e13,e14,e15,e16,e17,e18,e19⟩:(b.c.kd==[99,111,110,115,116])=false∧(b.c.kd==[97,100,100])=false∧(b.c.kd==[115,117,98])=false∧(b.c.kd==[109,117,108])=false∧(b.c.kd==[100,105,118])=false∧(b.c.kd==[110,101,103])=false∧(b.c.kd==[99,111,110,118,101,114,116])=false∧(b.c.kd==[109,105,110])=false∧(b.c.kd==[109,97,120])=false∧(b.c.kd==[108,105,109,105,116])=false∧(b.c.kd==[99,117,114,118,101])=false∧(b.c.kd==[109,97,112])=false∧(b.c.kd==[115,119,105,116,99,104])=false∧(b.c.kd==[108,101,115,115])=false∧(b.c.kd==[101,113,117,97,108])=false∧(b.c.kd==[97,110,100])=false∧(b.c.kd==[111,114])=false∧(b.c.kd==[110,111,116])=false∧(b.c.kd==[104,121,115,116,101,114,101,115,105,115])=false∧(b.c.kd==[100,101,108,97,121])=true:=by rw[hkd];decide
 obtain⟨b0,o0,rfl,c0,el0,mk0,hc0,hcc⟩:=PtH.at k.c.p
 refine CallX.mkS Tryz.func172 rfl en172 (by simp[Tryz.ntmps172]) (ClA.of rfl) (fun _=>rfl) (fun _=>rfl) fun C hR hP hH hL=>?_
 have hR:=hR ()
 refine Sm.bringB (hb.mono hH) 1 ⟨rfl,rfl⟩ rfl ?_
 refine Sm.go 100 ?_
 simp(maxSteps:=2000000) only[go_sem,hks]
 refine Sm.dg 110 8 mix ?_
 refine vv ?_
 refine DOpQ.own 120 (Stp.nilV rfl rfl) ?_
 refine vv ?_
 refine DOpQ.own 120 (Stp.fldV rfl rfl rfl) ?_
 refine vv ?_
 refine DOpQ.ownC 120 (fun _=>StpC.ldH (hH _ _ hc0) (hcc 7 _ rfl) rfl rfl rfl) ?_
 refine vv ?_
 refine DOpQ.ownC 120 (fun _=>lkT1 (k.c.t.mono hH) rfl rfl rfl) ?_
 generalize tyN d.tys b.c.ty=t at*
 simp(maxSteps:=2000000) only[go_sem,e0,e1,e2,e3,e4,e5,e6,e7,e8,e9,e10,e11,e12,e13,e14,e15,e16,e17,e18,e19,hks]
 exact RetQ.of (hR C hL trivial) rfl scv rvv (SubS.sub ⟨⟨_,rfl,.inl rfl⟩,⟨_,rfl,.inl rfl⟩,trivial⟩) hM (ClV.of rfl)
theorem blk_lag {H:Hp}{cp:Value}{d:DgL}{bT bC' bM bS:Nat}(k:Ck H cp d bT bC' bM bS)(b:BlL)(hb:b.ok H)(hkd:b.c.kd=[108,97,103])(r0:Int×Int)(a0:Ft)(k0:Int)(hks:b.c.ks=[k0])(pr tb:Int×Int):BlkOk H cp d b [r0] [a0] pr tb:=by
 have hv:blkR (tyN d.tys b.c.ty) b.c [r0] [a0] pr tb=blkR (tyN d.tys b.c.ty) {b.c with kd:=[108,97,103],ks:=[k0]} [r0] [a0] pr tb:=by rw[←hkd,←hks]
 unfold BlkOk;rw[hv]
 have hM:ClM (bkM [r0] [a0]):=ClM.of rfl
 unfold bkM at hM⊢
 simp only[rowsC_cons,rowsC_nil,List.map_cons,List.map_nil,List.cons_append,List.nil_append,List.append_nil,rgR,ftR]at hM⊢
 obtain⟨e0,e1,e2,e3,e4,e5,e6,e7,e8,e9,e10,e11,e12,e13,e14,e15,e16,e17,e18,e19⟩:(b.c.kd==[99,111,110,115,116])=false∧(b.c.kd==[97,100,100])=false∧(b.c.kd==[115,117,98])=false∧(b.c.kd==[109,117,108])=false∧(b.c.kd==[100,105,118])=false∧(b.c.kd==[110,101,103])=false∧(b.c.kd==[99,111,110,118,101,114,116])=false∧(b.c.kd==[109,105,110])=false∧(b.c.kd==[109,97,120])=false∧(b.c.kd==[108,105,109,105,116])=false∧(b.c.kd==[99,117,114,118,101])=false∧(b.c.kd==[109,97,112])=false∧(b.c.kd==[115,119,105,116,99,104])=false∧(b.c.kd==[108,101,115,115])=false∧(b.c.kd==[101,113,117,97,108])=false∧(b.c.kd==[97,110,100])=false∧(b.c.kd==[111,114])=false∧(b.c.kd==[110,111,116])=false∧(b.c.kd==[104,121,115,116,101,114,101,115,105,115])=false∧(b.c.kd==[100,101,108,97,121])=false:=by rw[hkd];decide
 obtain⟨b0,o0,rfl,c0,el0,mk0,hc0,hcc⟩:=PtH.at k.c.p
 refine CallX.mkS Tryz.func172 rfl en172 (by simp[Tryz.ntmps172]) (ClA.of rfl) (fun _=>rfl) (fun _=>rfl) fun C hR hP hH hL=>?_
 have hR:=hR ()
 refine Sm.bringB (hb.mono hH) 1 ⟨rfl,rfl⟩ rfl ?_
 refine Sm.go 100 ?_
 simp(maxSteps:=2000000) only[go_sem,hks]
 refine Sm.dg 110 8 mix ?_
 refine vv ?_
 refine DOpQ.own 120 (Stp.nilV rfl rfl) ?_
 refine vv ?_
 refine DOpQ.own 120 (Stp.fldV rfl rfl rfl) ?_
 refine vv ?_
 refine DOpQ.ownC 120 (fun _=>StpC.ldH (hH _ _ hc0) (hcc 7 _ rfl) rfl rfl rfl) ?_
 refine vv ?_
 refine DOpQ.ownC 120 (fun _=>lkT1 (k.c.t.mono hH) rfl rfl rfl) ?_
 generalize tyN d.tys b.c.ty=t at*
 simp(maxSteps:=2000000) only[go_sem,e0,e1,e2,e3,e4,e5,e6,e7,e8,e9,e10,e11,e12,e13,e14,e15,e16,e17,e18,e19,hks]
 refine Sm.dg 130 3 mix ?_
 refine vv ?_
 refine DCallQ.ren [(1,101),(2,102),(3,120),(4,1),(5,2)] 140 (block1_ [r0] [a0] t 0 (by simp) (by simp) (by simp) (by simp)) (ClM.of rfl) rfl rfl ?_ rfl (.inr rfl) rfl rfl ?_
 ·exact⟨⟨_,rfl,.inr ⟨rfl,[],rfl⟩⟩,⟨_,rfl,.inr ⟨rfl,[],rfl⟩⟩,⟨_,rfl,.inr ⟨rfl,[],rfl⟩⟩,⟨_,rfl,.inl rfl⟩,⟨_,rfl,.inl rfl⟩,trivial⟩
 refine vv ?_
 refine CallQ.pure 150 (hull_ pr (cvR [r0] [a0] t 0)) rfl ?_
 refine vv ?_
 exact RetQ.of (hR C hL trivial) rfl scv rvv (SubS.sub ⟨⟨_,rfl,.inl rfl⟩,⟨_,rfl,.inl rfl⟩,trivial⟩) hM (ClV.of rfl)
theorem blk_switch {H:Hp}{cp:Value}{d:DgL}{bT bC' bM bS:Nat}(k:Ck H cp d bT bC' bM bS)(b:BlL)(hb:b.ok H)(hkd:b.c.kd=[115,119,105,116,99,104])(r0 r1 r2:Int×Int)(a0 a1 a2:Ft)(hks:b.c.ks=[])(pr tb:Int×Int):BlkOk H cp d b [r0,r1,r2] [a0,a1,a2] pr tb:=by
 have hv:blkR (tyN d.tys b.c.ty) b.c [r0,r1,r2] [a0,a1,a2] pr tb=blkR (tyN d.tys b.c.ty) {b.c with kd:=[115,119,105,116,99,104],ks:=[]} [r0,r1,r2] [a0,a1,a2] pr tb:=by rw[←hkd,←hks]
 unfold BlkOk;rw[hv]
 have hM:ClM (bkM [r0,r1,r2] [a0,a1,a2]):=ClM.of rfl
 unfold bkM at hM⊢
 simp only[rowsC_cons,rowsC_nil,List.map_cons,List.map_nil,List.cons_append,List.nil_append,List.append_nil,rgR,ftR]at hM⊢
 obtain⟨e0,e1,e2,e3,e4,e5,e6,e7,e8,e9,e10,e11,e12,e13,e14,e15,e16,e17,e18,e19⟩:(b.c.kd==[99,111,110,115,116])=false∧(b.c.kd==[97,100,100])=false∧(b.c.kd==[115,117,98])=false∧(b.c.kd==[109,117,108])=false∧(b.c.kd==[100,105,118])=false∧(b.c.kd==[110,101,103])=false∧(b.c.kd==[99,111,110,118,101,114,116])=false∧(b.c.kd==[109,105,110])=false∧(b.c.kd==[109,97,120])=false∧(b.c.kd==[108,105,109,105,116])=false∧(b.c.kd==[99,117,114,118,101])=false∧(b.c.kd==[109,97,112])=false∧(b.c.kd==[115,119,105,116,99,104])=true∧(b.c.kd==[108,101,115,115])=false∧(b.c.kd==[101,113,117,97,108])=false∧(b.c.kd==[97,110,100])=false∧(b.c.kd==[111,114])=false∧(b.c.kd==[110,111,116])=false∧(b.c.kd==[104,121,115,116,101,114,101,115,105,115])=false∧(b.c.kd==[100,101,108,97,121])=false:=by rw[hkd];decide
 obtain⟨b0,o0,rfl,c0,el0,mk0,hc0,hcc⟩:=PtH.at k.c.p
 refine CallX.mkS Tryz.func172 rfl en172 (by simp[Tryz.ntmps172]) (ClA.of rfl) (fun _=>rfl) (fun _=>rfl) fun C hR hP hH hL=>?_
 have hR:=hR ()
 refine Sm.bringB (hb.mono hH) 1 ⟨rfl,rfl⟩ rfl ?_
 refine Sm.go 100 ?_
 simp(maxSteps:=2000000) only[go_sem,hks]
 refine Sm.dg 110 8 mix ?_
 refine vv ?_
 refine DOpQ.own 120 (Stp.nilV rfl rfl) ?_
 refine vv ?_
 refine DOpQ.own 120 (Stp.fldV rfl rfl rfl) ?_
 refine vv ?_
 refine DOpQ.ownC 120 (fun _=>StpC.ldH (hH _ _ hc0) (hcc 7 _ rfl) rfl rfl rfl) ?_
 refine vv ?_
 refine DOpQ.ownC 120 (fun _=>lkT1 (k.c.t.mono hH) rfl rfl rfl) ?_
 generalize tyN d.tys b.c.ty=t at*
 simp(maxSteps:=2000000) only[go_sem,e0,e1,e2,e3,e4,e5,e6,e7,e8,e9,e10,e11,e12,e13,e14,e15,e16,e17,e18,e19,hks]
 refine CallQ.pure 140 (may_ r0) rfl ?_
 refine vv ?_
 refine mtch (fun h1=>?_) (fun h1=>?_)
 ·have h1:(!(mayQ r0).2)=true:=h1
  have hv2:blkR t {b.c with kd:=[115,119,105,116,99,104],ks:=[]} [r0,r1,r2] [a0,a1,a2] pr tb=(cvR [r0,r1,r2] [a0,a1,a2] t 1,0):=by show(bif !(mayQ r0).2 then cvR [r0,r1,r2] [a0,a1,a2] t 1 else bif !(mayQ r0).1 then cvR [r0,r1,r2] [a0,a1,a2] t 2 else hulR (cvR [r0,r1,r2] [a0,a1,a2] t 1) (cvR [r0,r1,r2] [a0,a1,a2] t 2),(0:Int))=_;rw[h1];rfl
  rw[hv2]at hR
  refine CallQ.ren [(1,101),(2,102),(3,120),(4,1),(5,2)] 150 (block1_ [r0,r1,r2] [a0,a1,a2] t 1 (by simp) (by simp) (by simp) (by simp)) (ClM.of rfl) rfl rfl ?_ rfl (.inr rfl) ?_
  ·exact⟨⟨_,rfl,.inr ⟨rfl,[],rfl⟩⟩,⟨_,rfl,.inr ⟨rfl,[],rfl⟩⟩,⟨_,rfl,.inr ⟨rfl,[],rfl⟩⟩,⟨_,rfl,.inl rfl⟩,⟨_,rfl,.inl rfl⟩,trivial⟩
  refine vv ?_
  exact RetQ.of (hR C hL trivial) rfl scv rvv (SubS.sub ⟨⟨_,rfl,.inl rfl⟩,⟨_,rfl,.inl rfl⟩,trivial⟩) hM (ClV.of rfl)
 have h1:(!(mayQ r0).2)=false:=h1
 refine mtch (fun h2=>?_) (fun h2=>?_)
 ·have h2:(!(mayQ r0).1)=true:=h2
  have hv2:blkR t {b.c with kd:=[115,119,105,116,99,104],ks:=[]} [r0,r1,r2] [a0,a1,a2] pr tb=(cvR [r0,r1,r2] [a0,a1,a2] t 2,0):=by show(bif !(mayQ r0).2 then cvR [r0,r1,r2] [a0,a1,a2] t 1 else bif !(mayQ r0).1 then cvR [r0,r1,r2] [a0,a1,a2] t 2 else hulR (cvR [r0,r1,r2] [a0,a1,a2] t 1) (cvR [r0,r1,r2] [a0,a1,a2] t 2),(0:Int))=_;rw[h1,h2];rfl
  rw[hv2]at hR
  refine CallQ.ren [(1,101),(2,102),(3,120),(4,1),(5,2)] 150 (block1_ [r0,r1,r2] [a0,a1,a2] t 2 (by simp) (by simp) (by simp) (by simp)) (ClM.of rfl) rfl rfl ?_ rfl (.inr rfl) ?_
  ·exact⟨⟨_,rfl,.inr ⟨rfl,[],rfl⟩⟩,⟨_,rfl,.inr ⟨rfl,[],rfl⟩⟩,⟨_,rfl,.inr ⟨rfl,[],rfl⟩⟩,⟨_,rfl,.inl rfl⟩,⟨_,rfl,.inl rfl⟩,trivial⟩
  refine vv ?_
  exact RetQ.of (hR C hL trivial) rfl scv rvv (SubS.sub ⟨⟨_,rfl,.inl rfl⟩,⟨_,rfl,.inl rfl⟩,trivial⟩) hM (ClV.of rfl)
 have h2:(!(mayQ r0).1)=false:=h2
 have hv2:blkR t {b.c with kd:=[115,119,105,116,99,104],ks:=[]} [r0,r1,r2] [a0,a1,a2] pr tb=(hulR (cvR [r0,r1,r2] [a0,a1,a2] t 1) (cvR [r0,r1,r2] [a0,a1,a2] t 2),0):=by show(bif !(mayQ r0).2 then cvR [r0,r1,r2] [a0,a1,a2] t 1 else bif !(mayQ r0).1 then cvR [r0,r1,r2] [a0,a1,a2] t 2 else hulR (cvR [r0,r1,r2] [a0,a1,a2] t 1) (cvR [r0,r1,r2] [a0,a1,a2] t 2),(0:Int))=_;rw[h1,h2];rfl
 rw[hv2]at hR
 refine CallQ.ren [(1,101),(2,102),(3,120),(4,1),(5,2)] 150 (block1_ [r0,r1,r2] [a0,a1,a2] t 1 (by simp) (by simp) (by simp) (by simp)) (ClM.of rfl) rfl rfl ?_ rfl (.inr rfl) ?_
 ·exact⟨⟨_,rfl,.inr ⟨rfl,[],rfl⟩⟩,⟨_,rfl,.inr ⟨rfl,[],rfl⟩⟩,⟨_,rfl,.inr ⟨rfl,[],rfl⟩⟩,⟨_,rfl,.inl rfl⟩,⟨_,rfl,.inl rfl⟩,trivial⟩
 refine vv ?_
 refine CallQ.ren [(1,101),(2,102),(3,120),(4,1),(5,2)] 160 (block1_ [r0,r1,r2] [a0,a1,a2] t 2 (by simp) (by simp) (by simp) (by simp)) (ClM.of rfl) rfl rfl ?_ rfl (.inr rfl) ?_
 ·exact⟨⟨_,rfl,.inr ⟨rfl,[],rfl⟩⟩,⟨_,rfl,.inr ⟨rfl,[],rfl⟩⟩,⟨_,rfl,.inr ⟨rfl,[],rfl⟩⟩,⟨_,rfl,.inl rfl⟩,⟨_,rfl,.inl rfl⟩,trivial⟩
 refine vv ?_
 refine CallQ.pure 170 (hull_ (cvR [r0,r1,r2] [a0,a1,a2] t 1) (cvR [r0,r1,r2] [a0,a1,a2] t 2)) rfl ?_
 refine vv ?_
 exact RetQ.of (hR C hL trivial) rfl scv rvv (SubS.sub ⟨⟨_,rfl,.inl rfl⟩,⟨_,rfl,.inl rfl⟩,trivial⟩) hM (ClV.of rfl)
theorem blk_less {H:Hp}{cp:Value}{d:DgL}{bT bC' bM bS:Nat}(k:Ck H cp d bT bC' bM bS)(b:BlL)(hb:b.ok H)(hkd:b.c.kd=[108,101,115,115])(r0 r1:Int×Int)(a0 a1:Ft)(hks:b.c.ks=[])(pr tb:Int×Int):BlkOk H cp d b [r0,r1] [a0,a1] pr tb:=by
 have hv:blkR (tyN d.tys b.c.ty) b.c [r0,r1] [a0,a1] pr tb=blkR (tyN d.tys b.c.ty) {b.c with kd:=[108,101,115,115],ks:=[]} [r0,r1] [a0,a1] pr tb:=by rw[←hkd,←hks]
 unfold BlkOk;rw[hv]
 have hM:ClM (bkM [r0,r1] [a0,a1]):=ClM.of rfl
 unfold bkM at hM⊢
 simp only[rowsC_cons,rowsC_nil,List.map_cons,List.map_nil,List.cons_append,List.nil_append,List.append_nil,rgR,ftR]at hM⊢
 obtain⟨e0,e1,e2,e3,e4,e5,e6,e7,e8,e9,e10,e11,e12,e13,e14,e15,e16,e17,e18,e19⟩:(b.c.kd==[99,111,110,115,116])=false∧(b.c.kd==[97,100,100])=false∧(b.c.kd==[115,117,98])=false∧(b.c.kd==[109,117,108])=false∧(b.c.kd==[100,105,118])=false∧(b.c.kd==[110,101,103])=false∧(b.c.kd==[99,111,110,118,101,114,116])=false∧(b.c.kd==[109,105,110])=false∧(b.c.kd==[109,97,120])=false∧(b.c.kd==[108,105,109,105,116])=false∧(b.c.kd==[99,117,114,118,101])=false∧(b.c.kd==[109,97,112])=false∧(b.c.kd==[115,119,105,116,99,104])=false∧(b.c.kd==[108,101,115,115])=true∧(b.c.kd==[101,113,117,97,108])=false∧(b.c.kd==[97,110,100])=false∧(b.c.kd==[111,114])=false∧(b.c.kd==[110,111,116])=false∧(b.c.kd==[104,121,115,116,101,114,101,115,105,115])=false∧(b.c.kd==[100,101,108,97,121])=false:=by rw[hkd];decide
 obtain⟨b0,o0,rfl,c0,el0,mk0,hc0,hcc⟩:=PtH.at k.c.p
 refine CallX.mkS Tryz.func172 rfl en172 (by simp[Tryz.ntmps172]) (ClA.of rfl) (fun _=>rfl) (fun _=>rfl) fun C hR hP hH hL=>?_
 have hR:=hR ()
 refine Sm.bringB (hb.mono hH) 1 ⟨rfl,rfl⟩ rfl ?_
 refine Sm.go 100 ?_
 simp(maxSteps:=2000000) only[go_sem,hks]
 refine Sm.dg 110 8 mix ?_
 refine vv ?_
 refine DOpQ.own 120 (Stp.nilV rfl rfl) ?_
 refine vv ?_
 refine DOpQ.own 120 (Stp.fldV rfl rfl rfl) ?_
 refine vv ?_
 refine DOpQ.ownC 120 (fun _=>StpC.ldH (hH _ _ hc0) (hcc 7 _ rfl) rfl rfl rfl) ?_
 refine vv ?_
 refine DOpQ.ownC 120 (fun _=>lkT1 (k.c.t.mono hH) rfl rfl rfl) ?_
 generalize tyN d.tys b.c.ty=t at*
 simp(maxSteps:=2000000) only[go_sem,e0,e1,e2,e3,e4,e5,e6,e7,e8,e9,e10,e11,e12,e13,e14,e15,e16,e17,e18,e19,hks]
 refine Sm.dg 130 14 mix ?_
 refine vv ?_
 refine CallQ.pure 140 (compared_ b.c.kd r0 r1 a0 a1) rfl ?_
 simp(maxSteps:=2000000) only[go_sem,hkd]
 exact RetQ.of (hR C hL trivial) rfl scv rvv (SubS.sub ⟨⟨_,rfl,.inl rfl⟩,⟨_,rfl,.inl rfl⟩,trivial⟩) hM (ClV.of rfl)
theorem blk_equal {H:Hp}{cp:Value}{d:DgL}{bT bC' bM bS:Nat}(k:Ck H cp d bT bC' bM bS)(b:BlL)(hb:b.ok H)(hkd:b.c.kd=[101,113,117,97,108])(r0 r1:Int×Int)(a0 a1:Ft)(hks:b.c.ks=[])(pr tb:Int×Int):BlkOk H cp d b [r0,r1] [a0,a1] pr tb:=by
 have hv:blkR (tyN d.tys b.c.ty) b.c [r0,r1] [a0,a1] pr tb=blkR (tyN d.tys b.c.ty) {b.c with kd:=[101,113,117,97,108],ks:=[]} [r0,r1] [a0,a1] pr tb:=by rw[←hkd,←hks]
 unfold BlkOk;rw[hv]
 have hM:ClM (bkM [r0,r1] [a0,a1]):=ClM.of rfl
 unfold bkM at hM⊢
 simp only[rowsC_cons,rowsC_nil,List.map_cons,List.map_nil,List.cons_append,List.nil_append,List.append_nil,rgR,ftR]at hM⊢
 obtain⟨e0,e1,e2,e3,e4,e5,e6,e7,e8,e9,e10,e11,e12,e13,e14,e15,e16,e17,e18,e19⟩:(b.c.kd==[99,111,110,115,116])=false∧(b.c.kd==[97,100,100])=false∧(b.c.kd==[115,117,98])=false∧(b.c.kd==[109,117,108])=false∧(b.c.kd==[100,105,118])=false∧(b.c.kd==[110,101,103])=false∧(b.c.kd==[99,111,110,118,101,114,116])=false∧(b.c.kd==[109,105,110])=false∧(b.c.kd==[109,97,120])=false∧(b.c.kd==[108,105,109,105,116])=false∧(b.c.kd==[99,117,114,118,101])=false∧(b.c.kd==[109,97,112])=false∧(b.c.kd==[115,119,105,116,99,104])=false∧(b.c.kd==[108,101,115,115])=false∧(b.c.kd==[101,113,117,97,108])=true∧(b.c.kd==[97,110,100])=false∧(b.c.kd==[111,114])=false∧(b.c.kd==[110,111,116])=false∧(b.c.kd==[104,121,115,116,101,114,101,115,105,115])=false∧(b.c.kd==[100,101,108,97,121])=false:=by rw[hkd];decide
 obtain⟨b0,o0,rfl,c0,el0,mk0,hc0,hcc⟩:=PtH.at k.c.p
 refine CallX.mkS Tryz.func172 rfl en172 (by simp[Tryz.ntmps172]) (ClA.of rfl) (fun _=>rfl) (fun _=>rfl) fun C hR hP hH hL=>?_
 have hR:=hR ()
 refine Sm.bringB (hb.mono hH) 1 ⟨rfl,rfl⟩ rfl ?_
 refine Sm.go 100 ?_
 simp(maxSteps:=2000000) only[go_sem,hks]
 refine Sm.dg 110 8 mix ?_
 refine vv ?_
 refine DOpQ.own 120 (Stp.nilV rfl rfl) ?_
 refine vv ?_
 refine DOpQ.own 120 (Stp.fldV rfl rfl rfl) ?_
 refine vv ?_
 refine DOpQ.ownC 120 (fun _=>StpC.ldH (hH _ _ hc0) (hcc 7 _ rfl) rfl rfl rfl) ?_
 refine vv ?_
 refine DOpQ.ownC 120 (fun _=>lkT1 (k.c.t.mono hH) rfl rfl rfl) ?_
 generalize tyN d.tys b.c.ty=t at*
 simp(maxSteps:=2000000) only[go_sem,e0,e1,e2,e3,e4,e5,e6,e7,e8,e9,e10,e11,e12,e13,e14,e15,e16,e17,e18,e19,hks]
 refine Sm.dg 130 14 mix ?_
 refine vv ?_
 refine CallQ.pure 140 (compared_ b.c.kd r0 r1 a0 a1) rfl ?_
 simp(maxSteps:=2000000) only[go_sem,hkd]
 exact RetQ.of (hR C hL trivial) rfl scv rvv (SubS.sub ⟨⟨_,rfl,.inl rfl⟩,⟨_,rfl,.inl rfl⟩,trivial⟩) hM (ClV.of rfl)
theorem blk_and {H:Hp}{cp:Value}{d:DgL}{bT bC' bM bS:Nat}(k:Ck H cp d bT bC' bM bS)(b:BlL)(hb:b.ok H)(hkd:b.c.kd=[97,110,100])(r0 r1:Int×Int)(a0 a1:Ft)(hks:b.c.ks=[])(pr tb:Int×Int):BlkOk H cp d b [r0,r1] [a0,a1] pr tb:=by
 have hv:blkR (tyN d.tys b.c.ty) b.c [r0,r1] [a0,a1] pr tb=blkR (tyN d.tys b.c.ty) {b.c with kd:=[97,110,100],ks:=[]} [r0,r1] [a0,a1] pr tb:=by rw[←hkd,←hks]
 unfold BlkOk;rw[hv]
 have hM:ClM (bkM [r0,r1] [a0,a1]):=ClM.of rfl
 unfold bkM at hM⊢
 simp only[rowsC_cons,rowsC_nil,List.map_cons,List.map_nil,List.cons_append,List.nil_append,List.append_nil,rgR,ftR]at hM⊢
 obtain⟨e0,e1,e2,e3,e4,e5,e6,e7,e8,e9,e10,e11,e12,e13,e14,e15,e16,e17,e18,e19⟩:(b.c.kd==[99,111,110,115,116])=false∧(b.c.kd==[97,100,100])=false∧(b.c.kd==[115,117,98])=false∧(b.c.kd==[109,117,108])=false∧(b.c.kd==[100,105,118])=false∧(b.c.kd==[110,101,103])=false∧(b.c.kd==[99,111,110,118,101,114,116])=false∧(b.c.kd==[109,105,110])=false∧(b.c.kd==[109,97,120])=false∧(b.c.kd==[108,105,109,105,116])=false∧(b.c.kd==[99,117,114,118,101])=false∧(b.c.kd==[109,97,112])=false∧(b.c.kd==[115,119,105,116,99,104])=false∧(b.c.kd==[108,101,115,115])=false∧(b.c.kd==[101,113,117,97,108])=false∧(b.c.kd==[97,110,100])=true∧(b.c.kd==[111,114])=false∧(b.c.kd==[110,111,116])=false∧(b.c.kd==[104,121,115,116,101,114,101,115,105,115])=false∧(b.c.kd==[100,101,108,97,121])=false:=by rw[hkd];decide
 obtain⟨b0,o0,rfl,c0,el0,mk0,hc0,hcc⟩:=PtH.at k.c.p
 refine CallX.mkS Tryz.func172 rfl en172 (by simp[Tryz.ntmps172]) (ClA.of rfl) (fun _=>rfl) (fun _=>rfl) fun C hR hP hH hL=>?_
 have hR:=hR ()
 refine Sm.bringB (hb.mono hH) 1 ⟨rfl,rfl⟩ rfl ?_
 refine Sm.go 100 ?_
 simp(maxSteps:=2000000) only[go_sem,hks]
 refine Sm.dg 110 8 mix ?_
 refine vv ?_
 refine DOpQ.own 120 (Stp.nilV rfl rfl) ?_
 refine vv ?_
 refine DOpQ.own 120 (Stp.fldV rfl rfl rfl) ?_
 refine vv ?_
 refine DOpQ.ownC 120 (fun _=>StpC.ldH (hH _ _ hc0) (hcc 7 _ rfl) rfl rfl rfl) ?_
 refine vv ?_
 refine DOpQ.ownC 120 (fun _=>lkT1 (k.c.t.mono hH) rfl rfl rfl) ?_
 generalize tyN d.tys b.c.ty=t at*
 simp(maxSteps:=2000000) only[go_sem,e0,e1,e2,e3,e4,e5,e6,e7,e8,e9,e10,e11,e12,e13,e14,e15,e16,e17,e18,e19,hks]
 rw[hkd]
 refine CallQ.ren [(1,1)] 140 (logic1 r0 r1) (ClM.of rfl) rfl rfl ⟨⟨_,rfl,.inl rfl⟩,trivial⟩ rfl (.inr rfl) ?_
 refine vv ?_
 exact RetQ.of (hR C hL trivial) rfl scv rvv (SubS.sub ⟨⟨_,rfl,.inl rfl⟩,⟨_,rfl,.inl rfl⟩,trivial⟩) hM (ClV.of rfl)
theorem blk_or {H:Hp}{cp:Value}{d:DgL}{bT bC' bM bS:Nat}(k:Ck H cp d bT bC' bM bS)(b:BlL)(hb:b.ok H)(hkd:b.c.kd=[111,114])(r0 r1:Int×Int)(a0 a1:Ft)(hks:b.c.ks=[])(pr tb:Int×Int):BlkOk H cp d b [r0,r1] [a0,a1] pr tb:=by
 have hv:blkR (tyN d.tys b.c.ty) b.c [r0,r1] [a0,a1] pr tb=blkR (tyN d.tys b.c.ty) {b.c with kd:=[111,114],ks:=[]} [r0,r1] [a0,a1] pr tb:=by rw[←hkd,←hks]
 unfold BlkOk;rw[hv]
 have hM:ClM (bkM [r0,r1] [a0,a1]):=ClM.of rfl
 unfold bkM at hM⊢
 simp only[rowsC_cons,rowsC_nil,List.map_cons,List.map_nil,List.cons_append,List.nil_append,List.append_nil,rgR,ftR]at hM⊢
 obtain⟨e0,e1,e2,e3,e4,e5,e6,e7,e8,e9,e10,e11,e12,e13,e14,e15,e16,e17,e18,e19⟩:(b.c.kd==[99,111,110,115,116])=false∧(b.c.kd==[97,100,100])=false∧(b.c.kd==[115,117,98])=false∧(b.c.kd==[109,117,108])=false∧(b.c.kd==[100,105,118])=false∧(b.c.kd==[110,101,103])=false∧(b.c.kd==[99,111,110,118,101,114,116])=false∧(b.c.kd==[109,105,110])=false∧(b.c.kd==[109,97,120])=false∧(b.c.kd==[108,105,109,105,116])=false∧(b.c.kd==[99,117,114,118,101])=false∧(b.c.kd==[109,97,112])=false∧(b.c.kd==[115,119,105,116,99,104])=false∧(b.c.kd==[108,101,115,115])=false∧(b.c.kd==[101,113,117,97,108])=false∧(b.c.kd==[97,110,100])=false∧(b.c.kd==[111,114])=true∧(b.c.kd==[110,111,116])=false∧(b.c.kd==[104,121,115,116,101,114,101,115,105,115])=false∧(b.c.kd==[100,101,108,97,121])=false:=by rw[hkd];decide
 obtain⟨b0,o0,rfl,c0,el0,mk0,hc0,hcc⟩:=PtH.at k.c.p
 refine CallX.mkS Tryz.func172 rfl en172 (by simp[Tryz.ntmps172]) (ClA.of rfl) (fun _=>rfl) (fun _=>rfl) fun C hR hP hH hL=>?_
 have hR:=hR ()
 refine Sm.bringB (hb.mono hH) 1 ⟨rfl,rfl⟩ rfl ?_
 refine Sm.go 100 ?_
 simp(maxSteps:=2000000) only[go_sem,hks]
 refine Sm.dg 110 8 mix ?_
 refine vv ?_
 refine DOpQ.own 120 (Stp.nilV rfl rfl) ?_
 refine vv ?_
 refine DOpQ.own 120 (Stp.fldV rfl rfl rfl) ?_
 refine vv ?_
 refine DOpQ.ownC 120 (fun _=>StpC.ldH (hH _ _ hc0) (hcc 7 _ rfl) rfl rfl rfl) ?_
 refine vv ?_
 refine DOpQ.ownC 120 (fun _=>lkT1 (k.c.t.mono hH) rfl rfl rfl) ?_
 generalize tyN d.tys b.c.ty=t at*
 simp(maxSteps:=2000000) only[go_sem,e0,e1,e2,e3,e4,e5,e6,e7,e8,e9,e10,e11,e12,e13,e14,e15,e16,e17,e18,e19,hks]
 rw[hkd]
 refine CallQ.ren [(1,1)] 140 (logic2 r0 r1) (ClM.of rfl) rfl rfl ⟨⟨_,rfl,.inl rfl⟩,trivial⟩ rfl (.inr rfl) ?_
 refine vv ?_
 exact RetQ.of (hR C hL trivial) rfl scv rvv (SubS.sub ⟨⟨_,rfl,.inl rfl⟩,⟨_,rfl,.inl rfl⟩,trivial⟩) hM (ClV.of rfl)
theorem blk_not {H:Hp}{cp:Value}{d:DgL}{bT bC' bM bS:Nat}(k:Ck H cp d bT bC' bM bS)(b:BlL)(hb:b.ok H)(hkd:b.c.kd=[110,111,116])(r0:Int×Int)(a0:Ft)(hks:b.c.ks=[])(pr tb:Int×Int):BlkOk H cp d b [r0] [a0] pr tb:=by
 have hv:blkR (tyN d.tys b.c.ty) b.c [r0] [a0] pr tb=blkR (tyN d.tys b.c.ty) {b.c with kd:=[110,111,116],ks:=[]} [r0] [a0] pr tb:=by rw[←hkd,←hks]
 unfold BlkOk;rw[hv]
 have hM:ClM (bkM [r0] [a0]):=ClM.of rfl
 unfold bkM at hM⊢
 simp only[rowsC_cons,rowsC_nil,List.map_cons,List.map_nil,List.cons_append,List.nil_append,List.append_nil,rgR,ftR]at hM⊢
 obtain⟨e0,e1,e2,e3,e4,e5,e6,e7,e8,e9,e10,e11,e12,e13,e14,e15,e16,e17,e18,e19⟩:(b.c.kd==[99,111,110,115,116])=false∧(b.c.kd==[97,100,100])=false∧(b.c.kd==[115,117,98])=false∧(b.c.kd==[109,117,108])=false∧(b.c.kd==[100,105,118])=false∧(b.c.kd==[110,101,103])=false∧(b.c.kd==[99,111,110,118,101,114,116])=false∧(b.c.kd==[109,105,110])=false∧(b.c.kd==[109,97,120])=false∧(b.c.kd==[108,105,109,105,116])=false∧(b.c.kd==[99,117,114,118,101])=false∧(b.c.kd==[109,97,112])=false∧(b.c.kd==[115,119,105,116,99,104])=false∧(b.c.kd==[108,101,115,115])=false∧(b.c.kd==[101,113,117,97,108])=false∧(b.c.kd==[97,110,100])=false∧(b.c.kd==[111,114])=false∧(b.c.kd==[110,111,116])=true∧(b.c.kd==[104,121,115,116,101,114,101,115,105,115])=false∧(b.c.kd==[100,101,108,97,121])=false:=by rw[hkd];decide
 obtain⟨b0,o0,rfl,c0,el0,mk0,hc0,hcc⟩:=PtH.at k.c.p
 refine CallX.mkS Tryz.func172 rfl en172 (by simp[Tryz.ntmps172]) (ClA.of rfl) (fun _=>rfl) (fun _=>rfl) fun C hR hP hH hL=>?_
 have hR:=hR ()
 refine Sm.bringB (hb.mono hH) 1 ⟨rfl,rfl⟩ rfl ?_
 refine Sm.go 100 ?_
 simp(maxSteps:=2000000) only[go_sem,hks]
 refine Sm.dg 110 8 mix ?_
 refine vv ?_
 refine DOpQ.own 120 (Stp.nilV rfl rfl) ?_
 refine vv ?_
 refine DOpQ.own 120 (Stp.fldV rfl rfl rfl) ?_
 refine vv ?_
 refine DOpQ.ownC 120 (fun _=>StpC.ldH (hH _ _ hc0) (hcc 7 _ rfl) rfl rfl rfl) ?_
 refine vv ?_
 refine DOpQ.ownC 120 (fun _=>lkT1 (k.c.t.mono hH) rfl rfl rfl) ?_
 generalize tyN d.tys b.c.ty=t at*
 simp(maxSteps:=2000000) only[go_sem,e0,e1,e2,e3,e4,e5,e6,e7,e8,e9,e10,e11,e12,e13,e14,e15,e16,e17,e18,e19,hks]
 rw[hkd]
 refine CallQ.ren [(1,1)] 140 (logic0 r0) (ClM.of rfl) rfl rfl ⟨⟨_,rfl,.inl rfl⟩,trivial⟩ rfl (.inr rfl) ?_
 refine vv ?_
 exact RetQ.of (hR C hL trivial) rfl scv rvv (SubS.sub ⟨⟨_,rfl,.inl rfl⟩,⟨_,rfl,.inl rfl⟩,trivial⟩) hM (ClV.of rfl)
theorem blk_hysteresis {H:Hp}{cp:Value}{d:DgL}{bT bC' bM bS:Nat}(k:Ck H cp d bT bC' bM bS)(b:BlL)(hb:b.ok H)(hkd:b.c.kd=[104,121,115,116,101,114,101,115,105,115])(r0:Int×Int)(a0:Ft)(k0 k1:Int)(hks:b.c.ks=[k0,k1])(pr tb:Int×Int):BlkOk H cp d b [r0] [a0] pr tb:=by
 have hv:blkR (tyN d.tys b.c.ty) b.c [r0] [a0] pr tb=blkR (tyN d.tys b.c.ty) {b.c with kd:=[104,121,115,116,101,114,101,115,105,115],ks:=[k0,k1]} [r0] [a0] pr tb:=by rw[←hkd,←hks]
 unfold BlkOk;rw[hv]
 have hM:ClM (bkM [r0] [a0]):=ClM.of rfl
 unfold bkM at hM⊢
 simp only[rowsC_cons,rowsC_nil,List.map_cons,List.map_nil,List.cons_append,List.nil_append,List.append_nil,rgR,ftR]at hM⊢
 obtain⟨e0,e1,e2,e3,e4,e5,e6,e7,e8,e9,e10,e11,e12,e13,e14,e15,e16,e17,e18,e19⟩:(b.c.kd==[99,111,110,115,116])=false∧(b.c.kd==[97,100,100])=false∧(b.c.kd==[115,117,98])=false∧(b.c.kd==[109,117,108])=false∧(b.c.kd==[100,105,118])=false∧(b.c.kd==[110,101,103])=false∧(b.c.kd==[99,111,110,118,101,114,116])=false∧(b.c.kd==[109,105,110])=false∧(b.c.kd==[109,97,120])=false∧(b.c.kd==[108,105,109,105,116])=false∧(b.c.kd==[99,117,114,118,101])=false∧(b.c.kd==[109,97,112])=false∧(b.c.kd==[115,119,105,116,99,104])=false∧(b.c.kd==[108,101,115,115])=false∧(b.c.kd==[101,113,117,97,108])=false∧(b.c.kd==[97,110,100])=false∧(b.c.kd==[111,114])=false∧(b.c.kd==[110,111,116])=false∧(b.c.kd==[104,121,115,116,101,114,101,115,105,115])=true∧(b.c.kd==[100,101,108,97,121])=false:=by rw[hkd];decide
 obtain⟨b0,o0,rfl,c0,el0,mk0,hc0,hcc⟩:=PtH.at k.c.p
 refine CallX.mkS Tryz.func172 rfl en172 (by simp[Tryz.ntmps172]) (ClA.of rfl) (fun _=>rfl) (fun _=>rfl) fun C hR hP hH hL=>?_
 have hR:=hR ()
 refine Sm.bringB (hb.mono hH) 1 ⟨rfl,rfl⟩ rfl ?_
 refine Sm.go 100 ?_
 simp(maxSteps:=2000000) only[go_sem,hks]
 refine Sm.dg 110 8 mix ?_
 refine vv ?_
 refine DOpQ.own 120 (Stp.nilV rfl rfl) ?_
 refine vv ?_
 refine DOpQ.own 120 (Stp.fldV rfl rfl rfl) ?_
 refine vv ?_
 refine DOpQ.ownC 120 (fun _=>StpC.ldH (hH _ _ hc0) (hcc 7 _ rfl) rfl rfl rfl) ?_
 refine vv ?_
 refine DOpQ.ownC 120 (fun _=>lkT1 (k.c.t.mono hH) rfl rfl rfl) ?_
 generalize tyN d.tys b.c.ty=t at*
 simp(maxSteps:=2000000) only[go_sem,e0,e1,e2,e3,e4,e5,e6,e7,e8,e9,e10,e11,e12,e13,e14,e15,e16,e17,e18,e19,hks]
 refine Sm.dg 130 18 mix ?_
 simp(maxSteps:=2000000) only[go_sem,hks]
 refine CallQ.pure 140 (truth_ (decide (k1≤r0.2)) (decide (r0.1<k1))) rfl ?_
 refine vv ?_
 exact RetQ.of (hR C hL trivial) rfl scv rvv (SubS.sub ⟨⟨_,rfl,.inl rfl⟩,⟨_,rfl,.inl rfl⟩,trivial⟩) hM (ClV.of rfl)
theorem ln0 {α:Type}{l:List α}(h:l.length=0):l=[]:=List.length_eq_zero_iff.1 h
theorem ln1 {α:Type}{l:List α}(h:l.length=1):∃a,l=[a]:=by
 match l,h with
 |[a],_=>exact⟨a,rfl⟩
theorem ln2 {α:Type}{l:List α}(h:l.length=2):∃a b,l=[a,b]:=by
 match l,h with
 |[a,b],_=>exact⟨a,b,rfl⟩
theorem ln3 {α:Type}{l:List α}(h:l.length=3):∃a b c,l=[a,b,c]:=by
 match l,h with
 |[a,b,c],_=>exact⟨a,b,c,rfl⟩
theorem block_ {H:Hp}{cp:Value}{d:DgL}{bT bC' bM bS:Nat}(k:Ck H cp d bT bC' bM bS)(b:BlL)(hb:b.ok H)(hok:blOk b.c=true)(rs:List (Int×Int))(ts:List Ft)(h1:rs.length=b.c.ins.length)(h2:ts.length=b.c.ins.length)(pr tb:Int×Int)
  (hT:tabK b.c.kd=true→CallX H Tryz.prog 214 [.c (.v cp),rowV b.r,.c (.sl 1 0 rs.length 2)] [(1,⟨true,rowsC (rs.map rgR),45⟩)] (fun _:Unit=>rA tb) (fun _=>[]) (fun _ _=>True)):BlkOk H cp d b rs ts pr tb:=by
 have hq:∃q,kindQ b.c.kd=some q:=by
  have h1:=hok
  unfold blOk at h1
  cases hq:kindQ b.c.kd with
  |none=>rw[hq]at h1;cases h1
  |some q=>exact⟨q,rfl⟩
 obtain⟨q,hq⟩:=hq
 have hm:=kind_mem hq
 have hlen:=fun kd (hk:b.c.kd=kd) a n t (hq:kindQ kd=some (a,n,t))=>blOk_ks hok (show(b.c.kd==kd)=true by rw[hk];simp) hq
 simp only[kindT,List.mem_cons,List.not_mem_nil,or_false,Prod.mk.injEq]at hm
 rcases hm with⟨hkd,rfl⟩|⟨hkd,rfl⟩|⟨hkd,rfl⟩|⟨hkd,rfl⟩|⟨hkd,rfl⟩|⟨hkd,rfl⟩|⟨hkd,rfl⟩|⟨hkd,rfl⟩|⟨hkd,rfl⟩|⟨hkd,rfl⟩|⟨hkd,rfl⟩|⟨hkd,rfl⟩|⟨hkd,rfl⟩|⟨hkd,rfl⟩|⟨hkd,rfl⟩|⟨hkd,rfl⟩|⟨hkd,rfl⟩|⟨hkd,rfl⟩|⟨hkd,rfl⟩|⟨hkd,rfl⟩|⟨hkd,rfl⟩
 ·-- const
  obtain⟨g1,g2⟩:=hlen _ hkd 0 1 0 rfl
  rw[g1]at h1 h2
  obtain rfl:=ln0 h1
  obtain rfl:=ln0 h2
  obtain⟨k0,hks⟩:=ln1 g2
  exact blk_const k b hb hkd k0 hks pr tb
 ·-- add
  obtain⟨g1,g2⟩:=hlen _ hkd 2 0 0 rfl
  rw[g1]at h1 h2
  obtain⟨r0,r1,rfl⟩:=ln2 h1
  obtain⟨a0,a1,rfl⟩:=ln2 h2
  have hks:=ln0 g2
  exact blk_add k b hb hkd r0 r1 a0 a1 hks pr tb
 ·-- sub
  obtain⟨g1,g2⟩:=hlen _ hkd 2 0 0 rfl
  rw[g1]at h1 h2
  obtain⟨r0,r1,rfl⟩:=ln2 h1
  obtain⟨a0,a1,rfl⟩:=ln2 h2
  have hks:=ln0 g2
  exact blk_sub k b hb hkd r0 r1 a0 a1 hks pr tb
 ·-- mul
  obtain⟨g1,g2⟩:=hlen _ hkd 2 0 0 rfl
  rw[g1]at h1 h2
  obtain⟨r0,r1,rfl⟩:=ln2 h1
  obtain⟨a0,a1,rfl⟩:=ln2 h2
  have hks:=ln0 g2
  exact blk_mul k b hb hkd r0 r1 a0 a1 hks pr tb
 ·-- div
  obtain⟨g1,g2⟩:=hlen _ hkd 2 0 0 rfl
  rw[g1]at h1 h2
  obtain⟨r0,r1,rfl⟩:=ln2 h1
  obtain⟨a0,a1,rfl⟩:=ln2 h2
  have hks:=ln0 g2
  exact blk_div k b hb hkd r0 r1 a0 a1 hks pr tb
 ·-- neg
  obtain⟨g1,g2⟩:=hlen _ hkd 1 0 0 rfl
  rw[g1]at h1 h2
  obtain⟨r0,rfl⟩:=ln1 h1
  obtain⟨a0,rfl⟩:=ln1 h2
  have hks:=ln0 g2
  exact blk_neg k b hb hkd r0 a0 hks pr tb
 ·-- min
  obtain⟨g1,g2⟩:=hlen _ hkd 2 0 0 rfl
  rw[g1]at h1 h2
  obtain⟨r0,r1,rfl⟩:=ln2 h1
  obtain⟨a0,a1,rfl⟩:=ln2 h2
  have hks:=ln0 g2
  exact blk_min k b hb hkd r0 r1 a0 a1 hks pr tb
 ·-- max
  obtain⟨g1,g2⟩:=hlen _ hkd 2 0 0 rfl
  rw[g1]at h1 h2
  obtain⟨r0,r1,rfl⟩:=ln2 h1
  obtain⟨a0,a1,rfl⟩:=ln2 h2
  have hks:=ln0 g2
  exact blk_max k b hb hkd r0 r1 a0 a1 hks pr tb
 ·-- limit
  obtain⟨g1,g2⟩:=hlen _ hkd 1 2 0 rfl
  rw[g1]at h1 h2
  obtain⟨r0,rfl⟩:=ln1 h1
  obtain⟨a0,rfl⟩:=ln1 h2
  obtain⟨k0,k1,hks⟩:=ln2 g2
  exact blk_limit k b hb hkd r0 a0 k0 k1 hks pr tb
 ·-- convert
  obtain⟨g1,g2⟩:=hlen _ hkd 1 0 0 rfl
  rw[g1]at h1 h2
  obtain⟨r0,rfl⟩:=ln1 h1
  obtain⟨a0,rfl⟩:=ln1 h2
  have hks:=ln0 g2
  exact blk_convert k b hb hkd r0 a0 hks pr tb
 ·-- curve
  obtain⟨g1,g2⟩:=hlen _ hkd 1 0 1 rfl
  rw[g1]at h1 h2
  obtain⟨r0,rfl⟩:=ln1 h1
  obtain⟨a0,rfl⟩:=ln1 h2
  have hks:=ln0 g2
  exact blk_curve k b hb hkd r0 a0 hks pr tb (hT (by rw[hkd];rfl))
 ·-- map
  obtain⟨g1,g2⟩:=hlen _ hkd 2 0 2 rfl
  rw[g1]at h1 h2
  obtain⟨r0,r1,rfl⟩:=ln2 h1
  obtain⟨a0,a1,rfl⟩:=ln2 h2
  have hks:=ln0 g2
  exact blk_map k b hb hkd r0 r1 a0 a1 hks pr tb (hT (by rw[hkd];rfl))
 ·-- delay
  obtain⟨g1,g2⟩:=hlen _ hkd 1 1 0 rfl
  rw[g1]at h1 h2
  obtain⟨r0,rfl⟩:=ln1 h1
  obtain⟨a0,rfl⟩:=ln1 h2
  obtain⟨k0,hks⟩:=ln1 g2
  exact blk_delay k b hb hkd r0 a0 k0 hks pr tb
 ·-- lag
  obtain⟨g1,g2⟩:=hlen _ hkd 1 1 0 rfl
  rw[g1]at h1 h2
  obtain⟨r0,rfl⟩:=ln1 h1
  obtain⟨a0,rfl⟩:=ln1 h2
  obtain⟨k0,hks⟩:=ln1 g2
  exact blk_lag k b hb hkd r0 a0 k0 hks pr tb
 ·-- switch
  obtain⟨g1,g2⟩:=hlen _ hkd 3 0 0 rfl
  rw[g1]at h1 h2
  obtain⟨r0,r1,r2,rfl⟩:=ln3 h1
  obtain⟨a0,a1,a2,rfl⟩:=ln3 h2
  have hks:=ln0 g2
  exact blk_switch k b hb hkd r0 r1 r2 a0 a1 a2 hks pr tb
 ·-- less
  obtain⟨g1,g2⟩:=hlen _ hkd 2 0 0 rfl
  rw[g1]at h1 h2
  obtain⟨r0,r1,rfl⟩:=ln2 h1
  obtain⟨a0,a1,rfl⟩:=ln2 h2
  have hks:=ln0 g2
  exact blk_less k b hb hkd r0 r1 a0 a1 hks pr tb
 ·-- equal
  obtain⟨g1,g2⟩:=hlen _ hkd 2 0 0 rfl
  rw[g1]at h1 h2
  obtain⟨r0,r1,rfl⟩:=ln2 h1
  obtain⟨a0,a1,rfl⟩:=ln2 h2
  have hks:=ln0 g2
  exact blk_equal k b hb hkd r0 r1 a0 a1 hks pr tb
 ·-- and
  obtain⟨g1,g2⟩:=hlen _ hkd 2 0 0 rfl
  rw[g1]at h1 h2
  obtain⟨r0,r1,rfl⟩:=ln2 h1
  obtain⟨a0,a1,rfl⟩:=ln2 h2
  have hks:=ln0 g2
  exact blk_and k b hb hkd r0 r1 a0 a1 hks pr tb
 ·-- or
  obtain⟨g1,g2⟩:=hlen _ hkd 2 0 0 rfl
  rw[g1]at h1 h2
  obtain⟨r0,r1,rfl⟩:=ln2 h1
  obtain⟨a0,a1,rfl⟩:=ln2 h2
  have hks:=ln0 g2
  exact blk_or k b hb hkd r0 r1 a0 a1 hks pr tb
 ·-- not
  obtain⟨g1,g2⟩:=hlen _ hkd 1 0 0 rfl
  rw[g1]at h1 h2
  obtain⟨r0,rfl⟩:=ln1 h1
  obtain⟨a0,rfl⟩:=ln1 h2
  have hks:=ln0 g2
  exact blk_not k b hb hkd r0 a0 hks pr tb
 ·-- hysteresis
  obtain⟨g1,g2⟩:=hlen _ hkd 1 2 0 rfl
  rw[g1]at h1 h2
  obtain⟨r0,rfl⟩:=ln1 h1
  obtain⟨a0,rfl⟩:=ln1 h2
  obtain⟨k0,k1,hks⟩:=ln2 g2
  exact blk_hysteresis k b hb hkd r0 a0 k0 k1 hks pr tb
end Go.Proofs.YtkciabfilokfiaaGreat.Fx
