/-  -/
import Derived.Test.YtkciabfilokfiaaGreatQL
open Go.Proofs.Tryz
set_option linter.unusedSimpArgs false
set_option linter.unusedVariables false
set_option maxRecDepth 100000
set_option maxHeartbeats 4000000
namespace Go.Proofs.YtkciabfilokfiaaGreat.Fx
open Vg Tf
def zi (t:Ft)(b:Bl)(rs:List (Int×Int))(ts:List Ft)(pr tb:Int×Int):(Int×Int)×Int:=
 let r:=fun i=>rs.getD i (0,0)
 let u:=fun i=>ts.getD i dW
 let k:=fun i=>b.ks.getD i 0
 let cv:=po rs ts t
 bif b.kd==[99,111,110,115,116]then((k 0,k 0),0)
 else bif b.kd==[97,100,100]||(b.kd==[115,117,98]||(b.kd==[109,117,108]||b.kd==[100,105,118]))then(vR (Xr b.kd) (r 0) (r 1) (u 0) (u 1) t,wH (Xr b.kd) (r 0).1 (r 0).2 (r 1).1 (r 1).2 (u 0) (u 1) t)
 else bif b.kd==[110,101,103]then((gR (-1) (u 0) (r 0).2 t,gR (-1) (u 0) (r 0).1 t),0)
 else bif b.kd==[99,111,110,118,101,114,116]then(cv 0,0)
 else bif b.kd==[109,105,110]then((min (cv 0).1 (cv 1).1,min (cv 0).2 (cv 1).2),0)
 else bif b.kd==[109,97,120]then((max (cv 0).1 (cv 1).1,max (cv 0).2 (cv 1).2),0)
 else bif b.kd==[108,105,109,105,116]then(qp (cv 0) (k 0) (k 1),0)
 else bif b.kd==[99,117,114,118,101]||b.kd==[109,97,112]then(tb,0)
 else bif b.kd==[115,119,105,116,99,104]then(bif !(xB (r 0)).2 then cv 1 else bif !(xB (r 0)).1 then cv 2 else vp (cv 1) (cv 2),0)
 else bif b.kd==[108,101,115,115]||b.kd==[101,113,117,97,108]then(np (b.kd==[108,101,115,115]) (r 0) (r 1) (u 0) (u 1),0)
 else bif b.kd==[110,111,116]then(sK 0 (r 0) (0,0),0)
 else bif b.kd==[97,110,100]then(sK 1 (r 0) (r 1),0)
 else bif b.kd==[111,114]then(sK 2 (r 0) (r 1),0)
 else bif b.kd==[104,121,115,116,101,114,101,115,105,115]then(oG (decide (k 1<=(r 0).2)) (decide ((r 0).1<k 1)),0)
 else bif b.kd==[100,101,108,97,121]then(pr,0)
 else(vp pr (cv 0),0)
def jD (s:Str):Bool:=s==[99,117,114,118,101]||s==[109,97,112]
def y8 (rs:List (Int×Int))(ts:List Ft):Mem:=[(1,⟨true,zD (rs.map yN),45⟩),(2,⟨true,zD (ts.map yW),43⟩)]
theorem zT:zD []=[]:=rfl
theorem zN (x:List Value)(l:List (List Value)):zD (x::l)=x.map Cv.v++zD l:=by simp[zD]
def y6 (H:Hp)(cp:Value)(d:DgL)(b:BlL)(rs:List (Int×Int))(ts:List Ft)(pr tb:Int×Int):Prop:=
 CallX H Tryz.prog 172 [.c (.v cp),yD b.r,.c (.sl 1 0 rs.length 2),.c (.sl 2 0 ts.length 10),rA pr] (y8 rs ts) (fun _:Unit=>rE (zi (yB d.tys b.c.ty) b.c rs ts pr tb)) (fun _=>[]) (fun _ _=>True)
theorem d9 {H:Hp}{cp:Value}{d:DgL}{bT bC' bM bS:Nat}(k:Ck H cp d bT bC' bM bS)(b:BlL)(hb:b.ok H)(hkd:b.c.kd=[99,111,110,115,116])(k0:Int)(hks:b.c.ks=[k0])(pr tb:Int×Int):y6 H cp d b [] [] pr tb:=by
 have hv:zi (yB d.tys b.c.ty) b.c [] [] pr tb=zi (yB d.tys b.c.ty) {b.c with kd:=[99,111,110,115,116],ks:=[k0]} [] [] pr tb:=by rw[<-hkd,<-hks]
 unfold y6;rw[hv]
 have hM:ClM (y8 [] []):=zC rfl
 unfold y8 at hM⊢
 obtain⟨e0,e1,e2,e3,e4,e5,e6,e7,e8,e9,e10,e11,e12,e13,e14,e15,e16,e17,e18,e19⟩:(b.c.kd==[99,111,110,115,116])=true/\(b.c.kd==[97,100,100])=false/\(b.c.kd==[115,117,98])=false/\(b.c.kd==[109,117,108])=false/\(b.c.kd==[100,105,118])=false/\(b.c.kd==[110,101,103])=false/\(b.c.kd==[99,111,110,118,101,114,116])=false/\(b.c.kd==[109,105,110])=false/\(b.c.kd==[109,97,120])=false/\(b.c.kd==[108,105,109,105,116])=false/\(b.c.kd==[99,117,114,118,101])=false/\(b.c.kd==[109,97,112])=false/\(b.c.kd==[115,119,105,116,99,104])=false/\(b.c.kd==[108,101,115,115])=false/\(b.c.kd==[101,113,117,97,108])=false/\(b.c.kd==[97,110,100])=false/\(b.c.kd==[111,114])=false/\(b.c.kd==[110,111,116])=false/\(b.c.kd==[104,121,115,116,101,114,101,115,105,115])=false/\(b.c.kd==[100,101,108,97,121])=false:=by rw[hkd];decide
 obtain⟨b0,o0,rfl,c0,el0,mk0,hc0,hcc⟩:=PtH.at k.c.p
 refine kX func172 wT ntmps172 fun C hR hP hH hL=>?_
 have hR:=hR ()
 refine yQ (hb.mono hH) 1 ⟨rfl,rfl⟩ rfl ?_
 refine zB 100 ?_
 simp only[go_sem,hks]
 refine Sm.dg 110 8 ze (vv ?_)
 refine DOpQ.own 120 (zq rfl rfl) (vv ?_)
 refine DOpQ.own 120 (zY rfl rfl rfl) (vv ?_)
 refine zE 120 (fun _=>zW (hH _ _ hc0) (hcc 7 _ rfl) rfl rfl rfl) (vv ?_)
 refine zE 120 (fun _=>wg (k.c.t.mono hH) rfl rfl rfl) ?_
 generalize yB d.tys b.c.ty=t at*
 simp only[go_sem,e0,e1,e2,e3,e4,e5,e6,e7,e8,e9,e10,e11,e12,e13,e14,e15,e16,e17,e18,e19,hks]
 refine Sm.dg 130 8 ze ?_
 simp only[go_sem,hks]
 exact yI (hR C hL trivial) hM
theorem Yx {H:Hp}{cp:Value}{d:DgL}{bT bC' bM bS:Nat}(k:Ck H cp d bT bC' bM bS)(b:BlL)(hb:b.ok H)(hkd:b.c.kd=[97,100,100])(r0 r1:Int×Int)(a0 a1:Ft)(hks:b.c.ks=[])(pr tb:Int×Int):y6 H cp d b [r0,r1] [a0,a1] pr tb:=by
 have hv:zi (yB d.tys b.c.ty) b.c [r0,r1] [a0,a1] pr tb=zi (yB d.tys b.c.ty) {b.c with kd:=[97,100,100],ks:=[]} [r0,r1] [a0,a1] pr tb:=by rw[<-hkd,<-hks]
 unfold y6;rw[hv]
 have hM:ClM (y8 [r0,r1] [a0,a1]):=zC rfl
 unfold y8 at hM⊢
 simp only[zN,zT,Kv,Kx,JC,JD,JB,yN,yW]at hM⊢
 obtain⟨e0,e1,e2,e3,e4,e5,e6,e7,e8,e9,e10,e11,e12,e13,e14,e15,e16,e17,e18,e19⟩:(b.c.kd==[99,111,110,115,116])=false/\(b.c.kd==[97,100,100])=true/\(b.c.kd==[115,117,98])=false/\(b.c.kd==[109,117,108])=false/\(b.c.kd==[100,105,118])=false/\(b.c.kd==[110,101,103])=false/\(b.c.kd==[99,111,110,118,101,114,116])=false/\(b.c.kd==[109,105,110])=false/\(b.c.kd==[109,97,120])=false/\(b.c.kd==[108,105,109,105,116])=false/\(b.c.kd==[99,117,114,118,101])=false/\(b.c.kd==[109,97,112])=false/\(b.c.kd==[115,119,105,116,99,104])=false/\(b.c.kd==[108,101,115,115])=false/\(b.c.kd==[101,113,117,97,108])=false/\(b.c.kd==[97,110,100])=false/\(b.c.kd==[111,114])=false/\(b.c.kd==[110,111,116])=false/\(b.c.kd==[104,121,115,116,101,114,101,115,105,115])=false/\(b.c.kd==[100,101,108,97,121])=false:=by rw[hkd];decide
 obtain⟨b0,o0,rfl,c0,el0,mk0,hc0,hcc⟩:=PtH.at k.c.p
 refine kX func172 wT ntmps172 fun C hR hP hH hL=>?_
 have hR:=hR ()
 refine yQ (hb.mono hH) 1 ⟨rfl,rfl⟩ rfl ?_
 refine zB 100 ?_
 simp only[go_sem,hks]
 refine Sm.dg 110 8 ze (vv ?_)
 refine DOpQ.own 120 (zq rfl rfl) (vv ?_)
 refine DOpQ.own 120 (zY rfl rfl rfl) (vv ?_)
 refine zE 120 (fun _=>zW (hH _ _ hc0) (hcc 7 _ rfl) rfl rfl rfl) (vv ?_)
 refine zE 120 (fun _=>wg (k.c.t.mono hH) rfl rfl rfl) ?_
 generalize yB d.tys b.c.ty=t at*
 simp only[go_sem,e0,e1,e2,e3,e4,e5,e6,e7,e8,e9,e10,e11,e12,e13,e14,e15,e16,e17,e18,e19,hks]
 refine Sm.dg 130 18 ze (vv ?_)
 refine x7 140 (fun _=>ub b.c.kd r0 r1 a0 a1 t) hH (fun _=>rfl) ?_
 simp only[go_sem,hkd]
 exact yI (hR C hL trivial) hM
theorem Yn {H:Hp}{cp:Value}{d:DgL}{bT bC' bM bS:Nat}(k:Ck H cp d bT bC' bM bS)(b:BlL)(hb:b.ok H)(hkd:b.c.kd=[115,117,98])(r0 r1:Int×Int)(a0 a1:Ft)(hks:b.c.ks=[])(pr tb:Int×Int):y6 H cp d b [r0,r1] [a0,a1] pr tb:=by
 have hv:zi (yB d.tys b.c.ty) b.c [r0,r1] [a0,a1] pr tb=zi (yB d.tys b.c.ty) {b.c with kd:=[115,117,98],ks:=[]} [r0,r1] [a0,a1] pr tb:=by rw[<-hkd,<-hks]
 unfold y6;rw[hv]
 have hM:ClM (y8 [r0,r1] [a0,a1]):=zC rfl
 unfold y8 at hM⊢
 simp only[zN,zT,Kv,Kx,JC,JD,JB,yN,yW]at hM⊢
 obtain⟨e0,e1,e2,e3,e4,e5,e6,e7,e8,e9,e10,e11,e12,e13,e14,e15,e16,e17,e18,e19⟩:(b.c.kd==[99,111,110,115,116])=false/\(b.c.kd==[97,100,100])=false/\(b.c.kd==[115,117,98])=true/\(b.c.kd==[109,117,108])=false/\(b.c.kd==[100,105,118])=false/\(b.c.kd==[110,101,103])=false/\(b.c.kd==[99,111,110,118,101,114,116])=false/\(b.c.kd==[109,105,110])=false/\(b.c.kd==[109,97,120])=false/\(b.c.kd==[108,105,109,105,116])=false/\(b.c.kd==[99,117,114,118,101])=false/\(b.c.kd==[109,97,112])=false/\(b.c.kd==[115,119,105,116,99,104])=false/\(b.c.kd==[108,101,115,115])=false/\(b.c.kd==[101,113,117,97,108])=false/\(b.c.kd==[97,110,100])=false/\(b.c.kd==[111,114])=false/\(b.c.kd==[110,111,116])=false/\(b.c.kd==[104,121,115,116,101,114,101,115,105,115])=false/\(b.c.kd==[100,101,108,97,121])=false:=by rw[hkd];decide
 obtain⟨b0,o0,rfl,c0,el0,mk0,hc0,hcc⟩:=PtH.at k.c.p
 refine kX func172 wT ntmps172 fun C hR hP hH hL=>?_
 have hR:=hR ()
 refine yQ (hb.mono hH) 1 ⟨rfl,rfl⟩ rfl ?_
 refine zB 100 ?_
 simp only[go_sem,hks]
 refine Sm.dg 110 8 ze (vv ?_)
 refine DOpQ.own 120 (zq rfl rfl) (vv ?_)
 refine DOpQ.own 120 (zY rfl rfl rfl) (vv ?_)
 refine zE 120 (fun _=>zW (hH _ _ hc0) (hcc 7 _ rfl) rfl rfl rfl) (vv ?_)
 refine zE 120 (fun _=>wg (k.c.t.mono hH) rfl rfl rfl) ?_
 generalize yB d.tys b.c.ty=t at*
 simp only[go_sem,e0,e1,e2,e3,e4,e5,e6,e7,e8,e9,e10,e11,e12,e13,e14,e15,e16,e17,e18,e19,hks]
 refine Sm.dg 130 18 ze (vv ?_)
 refine x7 140 (fun _=>ub b.c.kd r0 r1 a0 a1 t) hH (fun _=>rfl) ?_
 simp only[go_sem,hkd]
 exact yI (hR C hL trivial) hM
theorem Yq {H:Hp}{cp:Value}{d:DgL}{bT bC' bM bS:Nat}(k:Ck H cp d bT bC' bM bS)(b:BlL)(hb:b.ok H)(hkd:b.c.kd=[109,117,108])(r0 r1:Int×Int)(a0 a1:Ft)(hks:b.c.ks=[])(pr tb:Int×Int):y6 H cp d b [r0,r1] [a0,a1] pr tb:=by
 have hv:zi (yB d.tys b.c.ty) b.c [r0,r1] [a0,a1] pr tb=zi (yB d.tys b.c.ty) {b.c with kd:=[109,117,108],ks:=[]} [r0,r1] [a0,a1] pr tb:=by rw[<-hkd,<-hks]
 unfold y6;rw[hv]
 have hM:ClM (y8 [r0,r1] [a0,a1]):=zC rfl
 unfold y8 at hM⊢
 simp only[zN,zT,Kv,Kx,JC,JD,JB,yN,yW]at hM⊢
 obtain⟨e0,e1,e2,e3,e4,e5,e6,e7,e8,e9,e10,e11,e12,e13,e14,e15,e16,e17,e18,e19⟩:(b.c.kd==[99,111,110,115,116])=false/\(b.c.kd==[97,100,100])=false/\(b.c.kd==[115,117,98])=false/\(b.c.kd==[109,117,108])=true/\(b.c.kd==[100,105,118])=false/\(b.c.kd==[110,101,103])=false/\(b.c.kd==[99,111,110,118,101,114,116])=false/\(b.c.kd==[109,105,110])=false/\(b.c.kd==[109,97,120])=false/\(b.c.kd==[108,105,109,105,116])=false/\(b.c.kd==[99,117,114,118,101])=false/\(b.c.kd==[109,97,112])=false/\(b.c.kd==[115,119,105,116,99,104])=false/\(b.c.kd==[108,101,115,115])=false/\(b.c.kd==[101,113,117,97,108])=false/\(b.c.kd==[97,110,100])=false/\(b.c.kd==[111,114])=false/\(b.c.kd==[110,111,116])=false/\(b.c.kd==[104,121,115,116,101,114,101,115,105,115])=false/\(b.c.kd==[100,101,108,97,121])=false:=by rw[hkd];decide
 obtain⟨b0,o0,rfl,c0,el0,mk0,hc0,hcc⟩:=PtH.at k.c.p
 refine kX func172 wT ntmps172 fun C hR hP hH hL=>?_
 have hR:=hR ()
 refine yQ (hb.mono hH) 1 ⟨rfl,rfl⟩ rfl ?_
 refine zB 100 ?_
 simp only[go_sem,hks]
 refine Sm.dg 110 8 ze (vv ?_)
 refine DOpQ.own 120 (zq rfl rfl) (vv ?_)
 refine DOpQ.own 120 (zY rfl rfl rfl) (vv ?_)
 refine zE 120 (fun _=>zW (hH _ _ hc0) (hcc 7 _ rfl) rfl rfl rfl) (vv ?_)
 refine zE 120 (fun _=>wg (k.c.t.mono hH) rfl rfl rfl) ?_
 generalize yB d.tys b.c.ty=t at*
 simp only[go_sem,e0,e1,e2,e3,e4,e5,e6,e7,e8,e9,e10,e11,e12,e13,e14,e15,e16,e17,e18,e19,hks]
 refine Sm.dg 130 18 ze (vv ?_)
 refine x7 140 (fun _=>ub b.c.kd r0 r1 a0 a1 t) hH (fun _=>rfl) ?_
 simp only[go_sem,hkd]
 exact yI (hR C hL trivial) hM
theorem Yv {H:Hp}{cp:Value}{d:DgL}{bT bC' bM bS:Nat}(k:Ck H cp d bT bC' bM bS)(b:BlL)(hb:b.ok H)(hkd:b.c.kd=[100,105,118])(r0 r1:Int×Int)(a0 a1:Ft)(hks:b.c.ks=[])(pr tb:Int×Int):y6 H cp d b [r0,r1] [a0,a1] pr tb:=by
 have hv:zi (yB d.tys b.c.ty) b.c [r0,r1] [a0,a1] pr tb=zi (yB d.tys b.c.ty) {b.c with kd:=[100,105,118],ks:=[]} [r0,r1] [a0,a1] pr tb:=by rw[<-hkd,<-hks]
 unfold y6;rw[hv]
 have hM:ClM (y8 [r0,r1] [a0,a1]):=zC rfl
 unfold y8 at hM⊢
 simp only[zN,zT,Kv,Kx,JC,JD,JB,yN,yW]at hM⊢
 obtain⟨e0,e1,e2,e3,e4,e5,e6,e7,e8,e9,e10,e11,e12,e13,e14,e15,e16,e17,e18,e19⟩:(b.c.kd==[99,111,110,115,116])=false/\(b.c.kd==[97,100,100])=false/\(b.c.kd==[115,117,98])=false/\(b.c.kd==[109,117,108])=false/\(b.c.kd==[100,105,118])=true/\(b.c.kd==[110,101,103])=false/\(b.c.kd==[99,111,110,118,101,114,116])=false/\(b.c.kd==[109,105,110])=false/\(b.c.kd==[109,97,120])=false/\(b.c.kd==[108,105,109,105,116])=false/\(b.c.kd==[99,117,114,118,101])=false/\(b.c.kd==[109,97,112])=false/\(b.c.kd==[115,119,105,116,99,104])=false/\(b.c.kd==[108,101,115,115])=false/\(b.c.kd==[101,113,117,97,108])=false/\(b.c.kd==[97,110,100])=false/\(b.c.kd==[111,114])=false/\(b.c.kd==[110,111,116])=false/\(b.c.kd==[104,121,115,116,101,114,101,115,105,115])=false/\(b.c.kd==[100,101,108,97,121])=false:=by rw[hkd];decide
 obtain⟨b0,o0,rfl,c0,el0,mk0,hc0,hcc⟩:=PtH.at k.c.p
 refine kX func172 wT ntmps172 fun C hR hP hH hL=>?_
 have hR:=hR ()
 refine yQ (hb.mono hH) 1 ⟨rfl,rfl⟩ rfl ?_
 refine zB 100 ?_
 simp only[go_sem,hks]
 refine Sm.dg 110 8 ze (vv ?_)
 refine DOpQ.own 120 (zq rfl rfl) (vv ?_)
 refine DOpQ.own 120 (zY rfl rfl rfl) (vv ?_)
 refine zE 120 (fun _=>zW (hH _ _ hc0) (hcc 7 _ rfl) rfl rfl rfl) (vv ?_)
 refine zE 120 (fun _=>wg (k.c.t.mono hH) rfl rfl rfl) ?_
 generalize yB d.tys b.c.ty=t at*
 simp only[go_sem,e0,e1,e2,e3,e4,e5,e6,e7,e8,e9,e10,e11,e12,e13,e14,e15,e16,e17,e18,e19,hks]
 refine Sm.dg 130 18 ze (vv ?_)
 refine x7 140 (fun _=>ub b.c.kd r0 r1 a0 a1 t) hH (fun _=>rfl) ?_
 simp only[go_sem,hkd]
 exact yI (hR C hL trivial) hM
theorem Yp {H:Hp}{cp:Value}{d:DgL}{bT bC' bM bS:Nat}(k:Ck H cp d bT bC' bM bS)(b:BlL)(hb:b.ok H)(hkd:b.c.kd=[110,101,103])(r0:Int×Int)(a0:Ft)(hks:b.c.ks=[])(pr tb:Int×Int):y6 H cp d b [r0] [a0] pr tb:=by
 have hv:zi (yB d.tys b.c.ty) b.c [r0] [a0] pr tb=zi (yB d.tys b.c.ty) {b.c with kd:=[110,101,103],ks:=[]} [r0] [a0] pr tb:=by rw[<-hkd,<-hks]
 unfold y6;rw[hv]
 have hM:ClM (y8 [r0] [a0]):=zC rfl
 unfold y8 at hM⊢
 simp only[zN,zT,Kv,Kx,JC,JD,JB,yN,yW]at hM⊢
 obtain⟨e0,e1,e2,e3,e4,e5,e6,e7,e8,e9,e10,e11,e12,e13,e14,e15,e16,e17,e18,e19⟩:(b.c.kd==[99,111,110,115,116])=false/\(b.c.kd==[97,100,100])=false/\(b.c.kd==[115,117,98])=false/\(b.c.kd==[109,117,108])=false/\(b.c.kd==[100,105,118])=false/\(b.c.kd==[110,101,103])=true/\(b.c.kd==[99,111,110,118,101,114,116])=false/\(b.c.kd==[109,105,110])=false/\(b.c.kd==[109,97,120])=false/\(b.c.kd==[108,105,109,105,116])=false/\(b.c.kd==[99,117,114,118,101])=false/\(b.c.kd==[109,97,112])=false/\(b.c.kd==[115,119,105,116,99,104])=false/\(b.c.kd==[108,101,115,115])=false/\(b.c.kd==[101,113,117,97,108])=false/\(b.c.kd==[97,110,100])=false/\(b.c.kd==[111,114])=false/\(b.c.kd==[110,111,116])=false/\(b.c.kd==[104,121,115,116,101,114,101,115,105,115])=false/\(b.c.kd==[100,101,108,97,121])=false:=by rw[hkd];decide
 obtain⟨b0,o0,rfl,c0,el0,mk0,hc0,hcc⟩:=PtH.at k.c.p
 refine kX func172 wT ntmps172 fun C hR hP hH hL=>?_
 have hR:=hR ()
 refine yQ (hb.mono hH) 1 ⟨rfl,rfl⟩ rfl ?_
 refine zB 100 ?_
 simp only[go_sem,hks]
 refine Sm.dg 110 8 ze (vv ?_)
 refine DOpQ.own 120 (zq rfl rfl) (vv ?_)
 refine DOpQ.own 120 (zY rfl rfl rfl) (vv ?_)
 refine zE 120 (fun _=>zW (hH _ _ hc0) (hcc 7 _ rfl) rfl rfl rfl) (vv ?_)
 refine zE 120 (fun _=>wg (k.c.t.mono hH) rfl rfl rfl) ?_
 generalize yB d.tys b.c.ty=t at*
 simp only[go_sem,e0,e1,e2,e3,e4,e5,e6,e7,e8,e9,e10,e11,e12,e13,e14,e15,e16,e17,e18,e19,hks]
 refine Sm.dg 130 11 ze (vv ?_)
 refine DCallQ.ren [(1,102),(2,120),(3,2)] 140 (eV [a0] t r0.2 zc zc) (zC rfl) rfl rfl ?_ rfl (.inr rfl) rfl rfl ?_
 ·exact⟨⟨_,rfl,.inr ⟨rfl,[],rfl⟩⟩,⟨_,rfl,.inr ⟨rfl,[],rfl⟩⟩,oS,trivial⟩
 refine vv ?_
 refine CallQ.ren [(1,102),(2,120),(3,2)] 150 (eV [a0] t r0.1 zc zc) (zC rfl) rfl rfl ?_ rfl (.inr rfl) ?_
 ·exact⟨⟨_,rfl,.inr ⟨rfl,[],rfl⟩⟩,⟨_,rfl,.inr ⟨rfl,[],rfl⟩⟩,oS,trivial⟩
 refine vv ?_
 exact yI (hR C hL trivial) hM
theorem Yr {H:Hp}{cp:Value}{d:DgL}{bT bC' bM bS:Nat}(k:Ck H cp d bT bC' bM bS)(b:BlL)(hb:b.ok H)(hkd:b.c.kd=[109,105,110])(r0 r1:Int×Int)(a0 a1:Ft)(hks:b.c.ks=[])(pr tb:Int×Int):y6 H cp d b [r0,r1] [a0,a1] pr tb:=by
 have hv:zi (yB d.tys b.c.ty) b.c [r0,r1] [a0,a1] pr tb=zi (yB d.tys b.c.ty) {b.c with kd:=[109,105,110],ks:=[]} [r0,r1] [a0,a1] pr tb:=by rw[<-hkd,<-hks]
 unfold y6;rw[hv]
 have hM:ClM (y8 [r0,r1] [a0,a1]):=zC rfl
 unfold y8 at hM⊢
 simp only[zN,zT,Kv,Kx,JC,JD,JB,yN,yW]at hM⊢
 obtain⟨e0,e1,e2,e3,e4,e5,e6,e7,e8,e9,e10,e11,e12,e13,e14,e15,e16,e17,e18,e19⟩:(b.c.kd==[99,111,110,115,116])=false/\(b.c.kd==[97,100,100])=false/\(b.c.kd==[115,117,98])=false/\(b.c.kd==[109,117,108])=false/\(b.c.kd==[100,105,118])=false/\(b.c.kd==[110,101,103])=false/\(b.c.kd==[99,111,110,118,101,114,116])=false/\(b.c.kd==[109,105,110])=true/\(b.c.kd==[109,97,120])=false/\(b.c.kd==[108,105,109,105,116])=false/\(b.c.kd==[99,117,114,118,101])=false/\(b.c.kd==[109,97,112])=false/\(b.c.kd==[115,119,105,116,99,104])=false/\(b.c.kd==[108,101,115,115])=false/\(b.c.kd==[101,113,117,97,108])=false/\(b.c.kd==[97,110,100])=false/\(b.c.kd==[111,114])=false/\(b.c.kd==[110,111,116])=false/\(b.c.kd==[104,121,115,116,101,114,101,115,105,115])=false/\(b.c.kd==[100,101,108,97,121])=false:=by rw[hkd];decide
 obtain⟨b0,o0,rfl,c0,el0,mk0,hc0,hcc⟩:=PtH.at k.c.p
 refine kX func172 wT ntmps172 fun C hR hP hH hL=>?_
 have hR:=hR ()
 refine yQ (hb.mono hH) 1 ⟨rfl,rfl⟩ rfl ?_
 refine zB 100 ?_
 simp only[go_sem,hks]
 refine Sm.dg 110 8 ze (vv ?_)
 refine DOpQ.own 120 (zq rfl rfl) (vv ?_)
 refine DOpQ.own 120 (zY rfl rfl rfl) (vv ?_)
 refine zE 120 (fun _=>zW (hH _ _ hc0) (hcc 7 _ rfl) rfl rfl rfl) (vv ?_)
 refine zE 120 (fun _=>wg (k.c.t.mono hH) rfl rfl rfl) ?_
 generalize yB d.tys b.c.ty=t at*
 simp only[go_sem,e0,e1,e2,e3,e4,e5,e6,e7,e8,e9,e10,e11,e12,e13,e14,e15,e16,e17,e18,e19,hks]
 refine CallQ.ren [(1,101),(2,102),(3,120),(4,1),(5,2)] 140 (vB [r0,r1] [a0,a1] t 0 zc zc zc zc) (zC rfl) rfl rfl ?_ rfl (.inr rfl) ?_
 ·exact⟨⟨_,rfl,.inr ⟨rfl,[],rfl⟩⟩,⟨_,rfl,.inr ⟨rfl,[],rfl⟩⟩,⟨_,rfl,.inr ⟨rfl,[],rfl⟩⟩,oS,oS,trivial⟩
 refine vv ?_
 refine CallQ.ren [(1,101),(2,102),(3,120),(4,1),(5,2)] 150 (vB [r0,r1] [a0,a1] t 1 zc zc zc zc) (zC rfl) rfl rfl ?_ rfl (.inr rfl) ?_
 ·exact⟨⟨_,rfl,.inr ⟨rfl,[],rfl⟩⟩,⟨_,rfl,.inr ⟨rfl,[],rfl⟩⟩,⟨_,rfl,.inr ⟨rfl,[],rfl⟩⟩,oS,oS,trivial⟩
 refine vv ?_
 exact yI (hR C hL trivial) hM
theorem Ys {H:Hp}{cp:Value}{d:DgL}{bT bC' bM bS:Nat}(k:Ck H cp d bT bC' bM bS)(b:BlL)(hb:b.ok H)(hkd:b.c.kd=[109,97,120])(r0 r1:Int×Int)(a0 a1:Ft)(hks:b.c.ks=[])(pr tb:Int×Int):y6 H cp d b [r0,r1] [a0,a1] pr tb:=by
 have hv:zi (yB d.tys b.c.ty) b.c [r0,r1] [a0,a1] pr tb=zi (yB d.tys b.c.ty) {b.c with kd:=[109,97,120],ks:=[]} [r0,r1] [a0,a1] pr tb:=by rw[<-hkd,<-hks]
 unfold y6;rw[hv]
 have hM:ClM (y8 [r0,r1] [a0,a1]):=zC rfl
 unfold y8 at hM⊢
 simp only[zN,zT,Kv,Kx,JC,JD,JB,yN,yW]at hM⊢
 obtain⟨e0,e1,e2,e3,e4,e5,e6,e7,e8,e9,e10,e11,e12,e13,e14,e15,e16,e17,e18,e19⟩:(b.c.kd==[99,111,110,115,116])=false/\(b.c.kd==[97,100,100])=false/\(b.c.kd==[115,117,98])=false/\(b.c.kd==[109,117,108])=false/\(b.c.kd==[100,105,118])=false/\(b.c.kd==[110,101,103])=false/\(b.c.kd==[99,111,110,118,101,114,116])=false/\(b.c.kd==[109,105,110])=false/\(b.c.kd==[109,97,120])=true/\(b.c.kd==[108,105,109,105,116])=false/\(b.c.kd==[99,117,114,118,101])=false/\(b.c.kd==[109,97,112])=false/\(b.c.kd==[115,119,105,116,99,104])=false/\(b.c.kd==[108,101,115,115])=false/\(b.c.kd==[101,113,117,97,108])=false/\(b.c.kd==[97,110,100])=false/\(b.c.kd==[111,114])=false/\(b.c.kd==[110,111,116])=false/\(b.c.kd==[104,121,115,116,101,114,101,115,105,115])=false/\(b.c.kd==[100,101,108,97,121])=false:=by rw[hkd];decide
 obtain⟨b0,o0,rfl,c0,el0,mk0,hc0,hcc⟩:=PtH.at k.c.p
 refine kX func172 wT ntmps172 fun C hR hP hH hL=>?_
 have hR:=hR ()
 refine yQ (hb.mono hH) 1 ⟨rfl,rfl⟩ rfl ?_
 refine zB 100 ?_
 simp only[go_sem,hks]
 refine Sm.dg 110 8 ze (vv ?_)
 refine DOpQ.own 120 (zq rfl rfl) (vv ?_)
 refine DOpQ.own 120 (zY rfl rfl rfl) (vv ?_)
 refine zE 120 (fun _=>zW (hH _ _ hc0) (hcc 7 _ rfl) rfl rfl rfl) (vv ?_)
 refine zE 120 (fun _=>wg (k.c.t.mono hH) rfl rfl rfl) ?_
 generalize yB d.tys b.c.ty=t at*
 simp only[go_sem,e0,e1,e2,e3,e4,e5,e6,e7,e8,e9,e10,e11,e12,e13,e14,e15,e16,e17,e18,e19,hks]
 refine CallQ.ren [(1,101),(2,102),(3,120),(4,1),(5,2)] 140 (vB [r0,r1] [a0,a1] t 0 zc zc zc zc) (zC rfl) rfl rfl ?_ rfl (.inr rfl) ?_
 ·exact⟨⟨_,rfl,.inr ⟨rfl,[],rfl⟩⟩,⟨_,rfl,.inr ⟨rfl,[],rfl⟩⟩,⟨_,rfl,.inr ⟨rfl,[],rfl⟩⟩,oS,oS,trivial⟩
 refine vv ?_
 refine CallQ.ren [(1,101),(2,102),(3,120),(4,1),(5,2)] 150 (vB [r0,r1] [a0,a1] t 1 zc zc zc zc) (zC rfl) rfl rfl ?_ rfl (.inr rfl) ?_
 ·exact⟨⟨_,rfl,.inr ⟨rfl,[],rfl⟩⟩,⟨_,rfl,.inr ⟨rfl,[],rfl⟩⟩,⟨_,rfl,.inr ⟨rfl,[],rfl⟩⟩,oS,oS,trivial⟩
 refine vv ?_
 exact yI (hR C hL trivial) hM
theorem d5 {H:Hp}{cp:Value}{d:DgL}{bT bC' bM bS:Nat}(k:Ck H cp d bT bC' bM bS)(b:BlL)(hb:b.ok H)(hkd:b.c.kd=[108,105,109,105,116])(r0:Int×Int)(a0:Ft)(k0 k1:Int)(hks:b.c.ks=[k0,k1])(pr tb:Int×Int):y6 H cp d b [r0] [a0] pr tb:=by
 have hv:zi (yB d.tys b.c.ty) b.c [r0] [a0] pr tb=zi (yB d.tys b.c.ty) {b.c with kd:=[108,105,109,105,116],ks:=[k0,k1]} [r0] [a0] pr tb:=by rw[<-hkd,<-hks]
 unfold y6;rw[hv]
 have hM:ClM (y8 [r0] [a0]):=zC rfl
 unfold y8 at hM⊢
 simp only[zN,zT,Kv,Kx,JC,JD,JB,yN,yW]at hM⊢
 obtain⟨e0,e1,e2,e3,e4,e5,e6,e7,e8,e9,e10,e11,e12,e13,e14,e15,e16,e17,e18,e19⟩:(b.c.kd==[99,111,110,115,116])=false/\(b.c.kd==[97,100,100])=false/\(b.c.kd==[115,117,98])=false/\(b.c.kd==[109,117,108])=false/\(b.c.kd==[100,105,118])=false/\(b.c.kd==[110,101,103])=false/\(b.c.kd==[99,111,110,118,101,114,116])=false/\(b.c.kd==[109,105,110])=false/\(b.c.kd==[109,97,120])=false/\(b.c.kd==[108,105,109,105,116])=true/\(b.c.kd==[99,117,114,118,101])=false/\(b.c.kd==[109,97,112])=false/\(b.c.kd==[115,119,105,116,99,104])=false/\(b.c.kd==[108,101,115,115])=false/\(b.c.kd==[101,113,117,97,108])=false/\(b.c.kd==[97,110,100])=false/\(b.c.kd==[111,114])=false/\(b.c.kd==[110,111,116])=false/\(b.c.kd==[104,121,115,116,101,114,101,115,105,115])=false/\(b.c.kd==[100,101,108,97,121])=false:=by rw[hkd];decide
 obtain⟨b0,o0,rfl,c0,el0,mk0,hc0,hcc⟩:=PtH.at k.c.p
 refine kX func172 wT ntmps172 fun C hR hP hH hL=>?_
 have hR:=hR ()
 refine yQ (hb.mono hH) 1 ⟨rfl,rfl⟩ rfl ?_
 refine zB 100 ?_
 simp only[go_sem,hks]
 refine Sm.dg 110 8 ze (vv ?_)
 refine DOpQ.own 120 (zq rfl rfl) (vv ?_)
 refine DOpQ.own 120 (zY rfl rfl rfl) (vv ?_)
 refine zE 120 (fun _=>zW (hH _ _ hc0) (hcc 7 _ rfl) rfl rfl rfl) (vv ?_)
 refine zE 120 (fun _=>wg (k.c.t.mono hH) rfl rfl rfl) ?_
 generalize yB d.tys b.c.ty=t at*
 simp only[go_sem,e0,e1,e2,e3,e4,e5,e6,e7,e8,e9,e10,e11,e12,e13,e14,e15,e16,e17,e18,e19,hks]
 refine Sm.dg 130 10 ze ?_
 simp only[go_sem,hks]
 refine DCallQ.ren [(1,101),(2,102),(3,120),(4,1),(5,2)] 140 (vB [r0] [a0] t 0 zc zc zc zc) (zC rfl) rfl rfl ?_ rfl (.inr rfl) rfl rfl ?_
 ·exact⟨⟨_,rfl,.inr ⟨rfl,[],rfl⟩⟩,⟨_,rfl,.inr ⟨rfl,[],rfl⟩⟩,⟨_,rfl,.inr ⟨rfl,[],rfl⟩⟩,oS,oS,trivial⟩
 simp only[go_sem,hks]
 refine CallQ.pure 150 (o7 (po [r0] [a0] t 0) k0 k1) rfl (vv ?_)
 exact yI (hR C hL trivial) hM
theorem iE {H:Hp}{cp:Value}{d:DgL}{bT bC' bM bS:Nat}(k:Ck H cp d bT bC' bM bS)(b:BlL)(hb:b.ok H)(hkd:b.c.kd=[99,111,110,118,101,114,116])(r0:Int×Int)(a0:Ft)(hks:b.c.ks=[])(pr tb:Int×Int):y6 H cp d b [r0] [a0] pr tb:=by
 have hv:zi (yB d.tys b.c.ty) b.c [r0] [a0] pr tb=zi (yB d.tys b.c.ty) {b.c with kd:=[99,111,110,118,101,114,116],ks:=[]} [r0] [a0] pr tb:=by rw[<-hkd,<-hks]
 unfold y6;rw[hv]
 have hM:ClM (y8 [r0] [a0]):=zC rfl
 unfold y8 at hM⊢
 simp only[zN,zT,Kv,Kx,JC,JD,JB,yN,yW]at hM⊢
 obtain⟨e0,e1,e2,e3,e4,e5,e6,e7,e8,e9,e10,e11,e12,e13,e14,e15,e16,e17,e18,e19⟩:(b.c.kd==[99,111,110,115,116])=false/\(b.c.kd==[97,100,100])=false/\(b.c.kd==[115,117,98])=false/\(b.c.kd==[109,117,108])=false/\(b.c.kd==[100,105,118])=false/\(b.c.kd==[110,101,103])=false/\(b.c.kd==[99,111,110,118,101,114,116])=true/\(b.c.kd==[109,105,110])=false/\(b.c.kd==[109,97,120])=false/\(b.c.kd==[108,105,109,105,116])=false/\(b.c.kd==[99,117,114,118,101])=false/\(b.c.kd==[109,97,112])=false/\(b.c.kd==[115,119,105,116,99,104])=false/\(b.c.kd==[108,101,115,115])=false/\(b.c.kd==[101,113,117,97,108])=false/\(b.c.kd==[97,110,100])=false/\(b.c.kd==[111,114])=false/\(b.c.kd==[110,111,116])=false/\(b.c.kd==[104,121,115,116,101,114,101,115,105,115])=false/\(b.c.kd==[100,101,108,97,121])=false:=by rw[hkd];decide
 obtain⟨b0,o0,rfl,c0,el0,mk0,hc0,hcc⟩:=PtH.at k.c.p
 refine kX func172 wT ntmps172 fun C hR hP hH hL=>?_
 have hR:=hR ()
 refine yQ (hb.mono hH) 1 ⟨rfl,rfl⟩ rfl ?_
 refine zB 100 ?_
 simp only[go_sem,hks]
 refine Sm.dg 110 8 ze (vv ?_)
 refine DOpQ.own 120 (zq rfl rfl) (vv ?_)
 refine DOpQ.own 120 (zY rfl rfl rfl) (vv ?_)
 refine zE 120 (fun _=>zW (hH _ _ hc0) (hcc 7 _ rfl) rfl rfl rfl) (vv ?_)
 refine zE 120 (fun _=>wg (k.c.t.mono hH) rfl rfl rfl) ?_
 generalize yB d.tys b.c.ty=t at*
 simp only[go_sem,e0,e1,e2,e3,e4,e5,e6,e7,e8,e9,e10,e11,e12,e13,e14,e15,e16,e17,e18,e19,hks]
 refine CallQ.ren [(1,101),(2,102),(3,120),(4,1),(5,2)] 140 (vB [r0] [a0] t 0 zc zc zc zc) (zC rfl) rfl rfl ?_ rfl (.inr rfl) ?_
 ·exact⟨⟨_,rfl,.inr ⟨rfl,[],rfl⟩⟩,⟨_,rfl,.inr ⟨rfl,[],rfl⟩⟩,⟨_,rfl,.inr ⟨rfl,[],rfl⟩⟩,oS,oS,trivial⟩
 refine vv ?_
 exact yI (hR C hL trivial) hM
theorem d8 {H:Hp}{cp:Value}{d:DgL}{bT bC' bM bS:Nat}(k:Ck H cp d bT bC' bM bS)(b:BlL)(hb:b.ok H)(hkd:b.c.kd=[99,117,114,118,101])(r0:Int×Int)(a0:Ft)(hks:b.c.ks=[])(pr tb:Int×Int)(hT:CallX H Tryz.prog 214 [.c (.v cp),yD b.r,.c (.sl 1 0 1 2)] [(1,⟨true,zD ([r0].map yN),45⟩)] (fun _:Unit=>rA tb) (fun _=>[]) (fun _ _=>True)):y6 H cp d b [r0] [a0] pr tb:=by
 have hv:zi (yB d.tys b.c.ty) b.c [r0] [a0] pr tb=zi (yB d.tys b.c.ty) {b.c with kd:=[99,117,114,118,101],ks:=[]} [r0] [a0] pr tb:=by rw[<-hkd,<-hks]
 unfold y6;rw[hv]
 have hM:ClM (y8 [r0] [a0]):=zC rfl
 unfold y8 at hM⊢
 simp only[zN,zT,Kv,Kx,JC,JD,JB,yN,yW]at hM⊢
 obtain⟨e0,e1,e2,e3,e4,e5,e6,e7,e8,e9,e10,e11,e12,e13,e14,e15,e16,e17,e18,e19⟩:(b.c.kd==[99,111,110,115,116])=false/\(b.c.kd==[97,100,100])=false/\(b.c.kd==[115,117,98])=false/\(b.c.kd==[109,117,108])=false/\(b.c.kd==[100,105,118])=false/\(b.c.kd==[110,101,103])=false/\(b.c.kd==[99,111,110,118,101,114,116])=false/\(b.c.kd==[109,105,110])=false/\(b.c.kd==[109,97,120])=false/\(b.c.kd==[108,105,109,105,116])=false/\(b.c.kd==[99,117,114,118,101])=true/\(b.c.kd==[109,97,112])=false/\(b.c.kd==[115,119,105,116,99,104])=false/\(b.c.kd==[108,101,115,115])=false/\(b.c.kd==[101,113,117,97,108])=false/\(b.c.kd==[97,110,100])=false/\(b.c.kd==[111,114])=false/\(b.c.kd==[110,111,116])=false/\(b.c.kd==[104,121,115,116,101,114,101,115,105,115])=false/\(b.c.kd==[100,101,108,97,121])=false:=by rw[hkd];decide
 obtain⟨b0,o0,rfl,c0,el0,mk0,hc0,hcc⟩:=PtH.at k.c.p
 refine kX func172 wT ntmps172 fun C hR hP hH hL=>?_
 have hR:=hR ()
 refine zB 100 (vv ?_)
 refine Sm.dg 110 8 ze (vv ?_)
 refine DOpQ.own 120 (zq rfl rfl) (vv ?_)
 refine DOpQ.own 120 (zY rfl rfl rfl) (vv ?_)
 refine zE 120 (fun _=>zW (hH _ _ hc0) (hcc 7 _ rfl) rfl rfl rfl) (vv ?_)
 refine zE 120 (fun _=>wg (k.c.t.mono hH) rfl rfl rfl) ?_
 generalize yB d.tys b.c.ty=t at*
 simp only[go_sem,e0,e1,e2,e3,e4,e5,e6,e7,e8,e9,e10,e11,e12,e13,e14,e15,e16,e17,e18,e19]
 refine CallQ.hr [(1,1)] 140 hT hH (zC rfl) rfl rfl ⟨oS,trivial⟩ rfl (.inl rfl) (vv ?_)
 exact yI (hR C hL trivial) hM
theorem Yt {H:Hp}{cp:Value}{d:DgL}{bT bC' bM bS:Nat}(k:Ck H cp d bT bC' bM bS)(b:BlL)(hb:b.ok H)(hkd:b.c.kd=[109,97,112])(r0 r1:Int×Int)(a0 a1:Ft)(hks:b.c.ks=[])(pr tb:Int×Int)(hT:CallX H Tryz.prog 214 [.c (.v cp),yD b.r,.c (.sl 1 0 2 2)] [(1,⟨true,zD ([r0,r1].map yN),45⟩)] (fun _:Unit=>rA tb) (fun _=>[]) (fun _ _=>True)):y6 H cp d b [r0,r1] [a0,a1] pr tb:=by
 have hv:zi (yB d.tys b.c.ty) b.c [r0,r1] [a0,a1] pr tb=zi (yB d.tys b.c.ty) {b.c with kd:=[109,97,112],ks:=[]} [r0,r1] [a0,a1] pr tb:=by rw[<-hkd,<-hks]
 unfold y6;rw[hv]
 have hM:ClM (y8 [r0,r1] [a0,a1]):=zC rfl
 unfold y8 at hM⊢
 simp only[zN,zT,Kv,Kx,JC,JD,JB,yN,yW]at hM⊢
 obtain⟨e0,e1,e2,e3,e4,e5,e6,e7,e8,e9,e10,e11,e12,e13,e14,e15,e16,e17,e18,e19⟩:(b.c.kd==[99,111,110,115,116])=false/\(b.c.kd==[97,100,100])=false/\(b.c.kd==[115,117,98])=false/\(b.c.kd==[109,117,108])=false/\(b.c.kd==[100,105,118])=false/\(b.c.kd==[110,101,103])=false/\(b.c.kd==[99,111,110,118,101,114,116])=false/\(b.c.kd==[109,105,110])=false/\(b.c.kd==[109,97,120])=false/\(b.c.kd==[108,105,109,105,116])=false/\(b.c.kd==[99,117,114,118,101])=false/\(b.c.kd==[109,97,112])=true/\(b.c.kd==[115,119,105,116,99,104])=false/\(b.c.kd==[108,101,115,115])=false/\(b.c.kd==[101,113,117,97,108])=false/\(b.c.kd==[97,110,100])=false/\(b.c.kd==[111,114])=false/\(b.c.kd==[110,111,116])=false/\(b.c.kd==[104,121,115,116,101,114,101,115,105,115])=false/\(b.c.kd==[100,101,108,97,121])=false:=by rw[hkd];decide
 obtain⟨b0,o0,rfl,c0,el0,mk0,hc0,hcc⟩:=PtH.at k.c.p
 refine kX func172 wT ntmps172 fun C hR hP hH hL=>?_
 have hR:=hR ()
 refine zB 100 (vv ?_)
 refine Sm.dg 110 8 ze (vv ?_)
 refine DOpQ.own 120 (zq rfl rfl) (vv ?_)
 refine DOpQ.own 120 (zY rfl rfl rfl) (vv ?_)
 refine zE 120 (fun _=>zW (hH _ _ hc0) (hcc 7 _ rfl) rfl rfl rfl) (vv ?_)
 refine zE 120 (fun _=>wg (k.c.t.mono hH) rfl rfl rfl) ?_
 generalize yB d.tys b.c.ty=t at*
 simp only[go_sem,e0,e1,e2,e3,e4,e5,e6,e7,e8,e9,e10,e11,e12,e13,e14,e15,e16,e17,e18,e19]
 refine CallQ.hr [(1,1)] 140 hT hH (zC rfl) rfl rfl ⟨oS,trivial⟩ rfl (.inl rfl) (vv ?_)
 exact yI (hR C hL trivial) hM
theorem d7 {H:Hp}{cp:Value}{d:DgL}{bT bC' bM bS:Nat}(k:Ck H cp d bT bC' bM bS)(b:BlL)(hb:b.ok H)(hkd:b.c.kd=[100,101,108,97,121])(r0:Int×Int)(a0:Ft)(k0:Int)(hks:b.c.ks=[k0])(pr tb:Int×Int):y6 H cp d b [r0] [a0] pr tb:=by
 have hv:zi (yB d.tys b.c.ty) b.c [r0] [a0] pr tb=zi (yB d.tys b.c.ty) {b.c with kd:=[100,101,108,97,121],ks:=[k0]} [r0] [a0] pr tb:=by rw[<-hkd,<-hks]
 unfold y6;rw[hv]
 have hM:ClM (y8 [r0] [a0]):=zC rfl
 unfold y8 at hM⊢
 simp only[zN,zT,Kv,Kx,JC,JD,JB,yN,yW]at hM⊢
 obtain⟨e0,e1,e2,e3,e4,e5,e6,e7,e8,e9,e10,e11,e12,e13,e14,e15,e16,e17,e18,e19⟩:(b.c.kd==[99,111,110,115,116])=false/\(b.c.kd==[97,100,100])=false/\(b.c.kd==[115,117,98])=false/\(b.c.kd==[109,117,108])=false/\(b.c.kd==[100,105,118])=false/\(b.c.kd==[110,101,103])=false/\(b.c.kd==[99,111,110,118,101,114,116])=false/\(b.c.kd==[109,105,110])=false/\(b.c.kd==[109,97,120])=false/\(b.c.kd==[108,105,109,105,116])=false/\(b.c.kd==[99,117,114,118,101])=false/\(b.c.kd==[109,97,112])=false/\(b.c.kd==[115,119,105,116,99,104])=false/\(b.c.kd==[108,101,115,115])=false/\(b.c.kd==[101,113,117,97,108])=false/\(b.c.kd==[97,110,100])=false/\(b.c.kd==[111,114])=false/\(b.c.kd==[110,111,116])=false/\(b.c.kd==[104,121,115,116,101,114,101,115,105,115])=false/\(b.c.kd==[100,101,108,97,121])=true:=by rw[hkd];decide
 obtain⟨b0,o0,rfl,c0,el0,mk0,hc0,hcc⟩:=PtH.at k.c.p
 refine kX func172 wT ntmps172 fun C hR hP hH hL=>?_
 have hR:=hR ()
 refine yQ (hb.mono hH) 1 ⟨rfl,rfl⟩ rfl ?_
 refine zB 100 ?_
 simp only[go_sem,hks]
 refine Sm.dg 110 8 ze (vv ?_)
 refine DOpQ.own 120 (zq rfl rfl) (vv ?_)
 refine DOpQ.own 120 (zY rfl rfl rfl) (vv ?_)
 refine zE 120 (fun _=>zW (hH _ _ hc0) (hcc 7 _ rfl) rfl rfl rfl) (vv ?_)
 refine zE 120 (fun _=>wg (k.c.t.mono hH) rfl rfl rfl) ?_
 generalize yB d.tys b.c.ty=t at*
 simp only[go_sem,e0,e1,e2,e3,e4,e5,e6,e7,e8,e9,e10,e11,e12,e13,e14,e15,e16,e17,e18,e19,hks]
 exact yI (hR C hL trivial) hM
theorem Yu {H:Hp}{cp:Value}{d:DgL}{bT bC' bM bS:Nat}(k:Ck H cp d bT bC' bM bS)(b:BlL)(hb:b.ok H)(hkd:b.c.kd=[108,97,103])(r0:Int×Int)(a0:Ft)(k0:Int)(hks:b.c.ks=[k0])(pr tb:Int×Int):y6 H cp d b [r0] [a0] pr tb:=by
 have hv:zi (yB d.tys b.c.ty) b.c [r0] [a0] pr tb=zi (yB d.tys b.c.ty) {b.c with kd:=[108,97,103],ks:=[k0]} [r0] [a0] pr tb:=by rw[<-hkd,<-hks]
 unfold y6;rw[hv]
 have hM:ClM (y8 [r0] [a0]):=zC rfl
 unfold y8 at hM⊢
 simp only[zN,zT,Kv,Kx,JC,JD,JB,yN,yW]at hM⊢
 obtain⟨e0,e1,e2,e3,e4,e5,e6,e7,e8,e9,e10,e11,e12,e13,e14,e15,e16,e17,e18,e19⟩:(b.c.kd==[99,111,110,115,116])=false/\(b.c.kd==[97,100,100])=false/\(b.c.kd==[115,117,98])=false/\(b.c.kd==[109,117,108])=false/\(b.c.kd==[100,105,118])=false/\(b.c.kd==[110,101,103])=false/\(b.c.kd==[99,111,110,118,101,114,116])=false/\(b.c.kd==[109,105,110])=false/\(b.c.kd==[109,97,120])=false/\(b.c.kd==[108,105,109,105,116])=false/\(b.c.kd==[99,117,114,118,101])=false/\(b.c.kd==[109,97,112])=false/\(b.c.kd==[115,119,105,116,99,104])=false/\(b.c.kd==[108,101,115,115])=false/\(b.c.kd==[101,113,117,97,108])=false/\(b.c.kd==[97,110,100])=false/\(b.c.kd==[111,114])=false/\(b.c.kd==[110,111,116])=false/\(b.c.kd==[104,121,115,116,101,114,101,115,105,115])=false/\(b.c.kd==[100,101,108,97,121])=false:=by rw[hkd];decide
 obtain⟨b0,o0,rfl,c0,el0,mk0,hc0,hcc⟩:=PtH.at k.c.p
 refine kX func172 wT ntmps172 fun C hR hP hH hL=>?_
 have hR:=hR ()
 refine yQ (hb.mono hH) 1 ⟨rfl,rfl⟩ rfl ?_
 refine zB 100 ?_
 simp only[go_sem,hks]
 refine Sm.dg 110 8 ze (vv ?_)
 refine DOpQ.own 120 (zq rfl rfl) (vv ?_)
 refine DOpQ.own 120 (zY rfl rfl rfl) (vv ?_)
 refine zE 120 (fun _=>zW (hH _ _ hc0) (hcc 7 _ rfl) rfl rfl rfl) (vv ?_)
 refine zE 120 (fun _=>wg (k.c.t.mono hH) rfl rfl rfl) ?_
 generalize yB d.tys b.c.ty=t at*
 simp only[go_sem,e0,e1,e2,e3,e4,e5,e6,e7,e8,e9,e10,e11,e12,e13,e14,e15,e16,e17,e18,e19,hks]
 refine Sm.dg 130 3 ze (vv ?_)
 refine DCallQ.ren [(1,101),(2,102),(3,120),(4,1),(5,2)] 140 (vB [r0] [a0] t 0 zc zc zc zc) (zC rfl) rfl rfl ?_ rfl (.inr rfl) rfl rfl ?_
 ·exact⟨⟨_,rfl,.inr ⟨rfl,[],rfl⟩⟩,⟨_,rfl,.inr ⟨rfl,[],rfl⟩⟩,⟨_,rfl,.inr ⟨rfl,[],rfl⟩⟩,oS,oS,trivial⟩
 refine vv ?_
 refine CallQ.pure 150 (aK pr (po [r0] [a0] t 0)) rfl (vv ?_)
 exact yI (hR C hL trivial) hM
theorem g9 {H:Hp}{cp:Value}{d:DgL}{bT bC' bM bS:Nat}(k:Ck H cp d bT bC' bM bS)(b:BlL)(hb:b.ok H)(hkd:b.c.kd=[115,119,105,116,99,104])(r0 r1 r2:Int×Int)(a0 a1 a2:Ft)(hks:b.c.ks=[])(pr tb:Int×Int):y6 H cp d b [r0,r1,r2] [a0,a1,a2] pr tb:=by
 have hv:zi (yB d.tys b.c.ty) b.c [r0,r1,r2] [a0,a1,a2] pr tb=zi (yB d.tys b.c.ty) {b.c with kd:=[115,119,105,116,99,104],ks:=[]} [r0,r1,r2] [a0,a1,a2] pr tb:=by rw[<-hkd,<-hks]
 unfold y6;rw[hv]
 have hM:ClM (y8 [r0,r1,r2] [a0,a1,a2]):=zC rfl
 unfold y8 at hM⊢
 simp only[zN,zT,Kv,Kx,JC,JD,JB,yN,yW]at hM⊢
 obtain⟨e0,e1,e2,e3,e4,e5,e6,e7,e8,e9,e10,e11,e12,e13,e14,e15,e16,e17,e18,e19⟩:(b.c.kd==[99,111,110,115,116])=false/\(b.c.kd==[97,100,100])=false/\(b.c.kd==[115,117,98])=false/\(b.c.kd==[109,117,108])=false/\(b.c.kd==[100,105,118])=false/\(b.c.kd==[110,101,103])=false/\(b.c.kd==[99,111,110,118,101,114,116])=false/\(b.c.kd==[109,105,110])=false/\(b.c.kd==[109,97,120])=false/\(b.c.kd==[108,105,109,105,116])=false/\(b.c.kd==[99,117,114,118,101])=false/\(b.c.kd==[109,97,112])=false/\(b.c.kd==[115,119,105,116,99,104])=true/\(b.c.kd==[108,101,115,115])=false/\(b.c.kd==[101,113,117,97,108])=false/\(b.c.kd==[97,110,100])=false/\(b.c.kd==[111,114])=false/\(b.c.kd==[110,111,116])=false/\(b.c.kd==[104,121,115,116,101,114,101,115,105,115])=false/\(b.c.kd==[100,101,108,97,121])=false:=by rw[hkd];decide
 obtain⟨b0,o0,rfl,c0,el0,mk0,hc0,hcc⟩:=PtH.at k.c.p
 refine kX func172 wT ntmps172 fun C hR hP hH hL=>?_
 have hR:=hR ()
 refine yQ (hb.mono hH) 1 ⟨rfl,rfl⟩ rfl ?_
 refine zB 100 ?_
 simp only[go_sem,hks]
 refine Sm.dg 110 8 ze (vv ?_)
 refine DOpQ.own 120 (zq rfl rfl) (vv ?_)
 refine DOpQ.own 120 (zY rfl rfl rfl) (vv ?_)
 refine zE 120 (fun _=>zW (hH _ _ hc0) (hcc 7 _ rfl) rfl rfl rfl) (vv ?_)
 refine zE 120 (fun _=>wg (k.c.t.mono hH) rfl rfl rfl) ?_
 generalize yB d.tys b.c.ty=t at*
 simp only[go_sem,e0,e1,e2,e3,e4,e5,e6,e7,e8,e9,e10,e11,e12,e13,e14,e15,e16,e17,e18,e19,hks]
 refine CallQ.pure 140 (dP r0) rfl (vv ?_)
 refine zU (fun h1=>?_) (fun h1=>?_)
 ·have h1:(!(xB r0).2)=true:=h1
  have hv2:zi t {b.c with kd:=[115,119,105,116,99,104],ks:=[]} [r0,r1,r2] [a0,a1,a2] pr tb=(po [r0,r1,r2] [a0,a1,a2] t 1,0):=by show(bif !(xB r0).2 then po [r0,r1,r2] [a0,a1,a2] t 1 else bif !(xB r0).1 then po [r0,r1,r2] [a0,a1,a2] t 2 else vp (po [r0,r1,r2] [a0,a1,a2] t 1) (po [r0,r1,r2] [a0,a1,a2] t 2),(0:Int))=_;rw[h1];rfl
  rw[hv2]at hR
  refine CallQ.ren [(1,101),(2,102),(3,120),(4,1),(5,2)] 150 (vB [r0,r1,r2] [a0,a1,a2] t 1 zc zc zc zc) (zC rfl) rfl rfl ?_ rfl (.inr rfl) ?_
  ·exact⟨⟨_,rfl,.inr ⟨rfl,[],rfl⟩⟩,⟨_,rfl,.inr ⟨rfl,[],rfl⟩⟩,⟨_,rfl,.inr ⟨rfl,[],rfl⟩⟩,oS,oS,trivial⟩
  refine vv ?_
  exact yI (hR C hL trivial) hM
 have h1:(!(xB r0).2)=false:=h1
 refine zU (fun h2=>?_) (fun h2=>?_)
 ·have h2:(!(xB r0).1)=true:=h2
  have hv2:zi t {b.c with kd:=[115,119,105,116,99,104],ks:=[]} [r0,r1,r2] [a0,a1,a2] pr tb=(po [r0,r1,r2] [a0,a1,a2] t 2,0):=by show(bif !(xB r0).2 then po [r0,r1,r2] [a0,a1,a2] t 1 else bif !(xB r0).1 then po [r0,r1,r2] [a0,a1,a2] t 2 else vp (po [r0,r1,r2] [a0,a1,a2] t 1) (po [r0,r1,r2] [a0,a1,a2] t 2),(0:Int))=_;rw[h1,h2];rfl
  rw[hv2]at hR
  refine CallQ.ren [(1,101),(2,102),(3,120),(4,1),(5,2)] 150 (vB [r0,r1,r2] [a0,a1,a2] t 2 zc zc zc zc) (zC rfl) rfl rfl ?_ rfl (.inr rfl) ?_
  ·exact⟨⟨_,rfl,.inr ⟨rfl,[],rfl⟩⟩,⟨_,rfl,.inr ⟨rfl,[],rfl⟩⟩,⟨_,rfl,.inr ⟨rfl,[],rfl⟩⟩,oS,oS,trivial⟩
  refine vv ?_
  exact yI (hR C hL trivial) hM
 have h2:(!(xB r0).1)=false:=h2
 have hv2:zi t {b.c with kd:=[115,119,105,116,99,104],ks:=[]} [r0,r1,r2] [a0,a1,a2] pr tb=(vp (po [r0,r1,r2] [a0,a1,a2] t 1) (po [r0,r1,r2] [a0,a1,a2] t 2),0):=by show(bif !(xB r0).2 then po [r0,r1,r2] [a0,a1,a2] t 1 else bif !(xB r0).1 then po [r0,r1,r2] [a0,a1,a2] t 2 else vp (po [r0,r1,r2] [a0,a1,a2] t 1) (po [r0,r1,r2] [a0,a1,a2] t 2),(0:Int))=_;rw[h1,h2];rfl
 rw[hv2]at hR
 refine CallQ.ren [(1,101),(2,102),(3,120),(4,1),(5,2)] 150 (vB [r0,r1,r2] [a0,a1,a2] t 1 zc zc zc zc) (zC rfl) rfl rfl ?_ rfl (.inr rfl) ?_
 ·exact⟨⟨_,rfl,.inr ⟨rfl,[],rfl⟩⟩,⟨_,rfl,.inr ⟨rfl,[],rfl⟩⟩,⟨_,rfl,.inr ⟨rfl,[],rfl⟩⟩,oS,oS,trivial⟩
 refine vv ?_
 refine CallQ.ren [(1,101),(2,102),(3,120),(4,1),(5,2)] 160 (vB [r0,r1,r2] [a0,a1,a2] t 2 zc zc zc zc) (zC rfl) rfl rfl ?_ rfl (.inr rfl) ?_
 ·exact⟨⟨_,rfl,.inr ⟨rfl,[],rfl⟩⟩,⟨_,rfl,.inr ⟨rfl,[],rfl⟩⟩,⟨_,rfl,.inr ⟨rfl,[],rfl⟩⟩,oS,oS,trivial⟩
 refine vv ?_
 refine CallQ.pure 170 (aK (po [r0,r1,r2] [a0,a1,a2] t 1) (po [r0,r1,r2] [a0,a1,a2] t 2)) rfl (vv ?_)
 exact yI (hR C hL trivial) hM
theorem aw {H:Hp}{cp:Value}{d:DgL}{bT bC' bM bS:Nat}(k:Ck H cp d bT bC' bM bS)(b:BlL)(hb:b.ok H)(hkd:b.c.kd=[108,101,115,115])(r0 r1:Int×Int)(a0 a1:Ft)(hks:b.c.ks=[])(pr tb:Int×Int):y6 H cp d b [r0,r1] [a0,a1] pr tb:=by
 have hv:zi (yB d.tys b.c.ty) b.c [r0,r1] [a0,a1] pr tb=zi (yB d.tys b.c.ty) {b.c with kd:=[108,101,115,115],ks:=[]} [r0,r1] [a0,a1] pr tb:=by rw[<-hkd,<-hks]
 unfold y6;rw[hv]
 have hM:ClM (y8 [r0,r1] [a0,a1]):=zC rfl
 unfold y8 at hM⊢
 simp only[zN,zT,Kv,Kx,JC,JD,JB,yN,yW]at hM⊢
 obtain⟨e0,e1,e2,e3,e4,e5,e6,e7,e8,e9,e10,e11,e12,e13,e14,e15,e16,e17,e18,e19⟩:(b.c.kd==[99,111,110,115,116])=false/\(b.c.kd==[97,100,100])=false/\(b.c.kd==[115,117,98])=false/\(b.c.kd==[109,117,108])=false/\(b.c.kd==[100,105,118])=false/\(b.c.kd==[110,101,103])=false/\(b.c.kd==[99,111,110,118,101,114,116])=false/\(b.c.kd==[109,105,110])=false/\(b.c.kd==[109,97,120])=false/\(b.c.kd==[108,105,109,105,116])=false/\(b.c.kd==[99,117,114,118,101])=false/\(b.c.kd==[109,97,112])=false/\(b.c.kd==[115,119,105,116,99,104])=false/\(b.c.kd==[108,101,115,115])=true/\(b.c.kd==[101,113,117,97,108])=false/\(b.c.kd==[97,110,100])=false/\(b.c.kd==[111,114])=false/\(b.c.kd==[110,111,116])=false/\(b.c.kd==[104,121,115,116,101,114,101,115,105,115])=false/\(b.c.kd==[100,101,108,97,121])=false:=by rw[hkd];decide
 obtain⟨b0,o0,rfl,c0,el0,mk0,hc0,hcc⟩:=PtH.at k.c.p
 refine kX func172 wT ntmps172 fun C hR hP hH hL=>?_
 have hR:=hR ()
 refine yQ (hb.mono hH) 1 ⟨rfl,rfl⟩ rfl ?_
 refine zB 100 ?_
 simp only[go_sem,hks]
 refine Sm.dg 110 8 ze (vv ?_)
 refine DOpQ.own 120 (zq rfl rfl) (vv ?_)
 refine DOpQ.own 120 (zY rfl rfl rfl) (vv ?_)
 refine zE 120 (fun _=>zW (hH _ _ hc0) (hcc 7 _ rfl) rfl rfl rfl) (vv ?_)
 refine zE 120 (fun _=>wg (k.c.t.mono hH) rfl rfl rfl) ?_
 generalize yB d.tys b.c.ty=t at*
 simp only[go_sem,e0,e1,e2,e3,e4,e5,e6,e7,e8,e9,e10,e11,e12,e13,e14,e15,e16,e17,e18,e19,hks]
 refine Sm.dg 130 14 ze (vv ?_)
 refine CallQ.pure 140 (mW b.c.kd r0 r1 a0 a1) rfl ?_
 simp only[go_sem,hkd]
 exact yI (hR C hL trivial) hM
theorem d6 {H:Hp}{cp:Value}{d:DgL}{bT bC' bM bS:Nat}(k:Ck H cp d bT bC' bM bS)(b:BlL)(hb:b.ok H)(hkd:b.c.kd=[101,113,117,97,108])(r0 r1:Int×Int)(a0 a1:Ft)(hks:b.c.ks=[])(pr tb:Int×Int):y6 H cp d b [r0,r1] [a0,a1] pr tb:=by
 have hv:zi (yB d.tys b.c.ty) b.c [r0,r1] [a0,a1] pr tb=zi (yB d.tys b.c.ty) {b.c with kd:=[101,113,117,97,108],ks:=[]} [r0,r1] [a0,a1] pr tb:=by rw[<-hkd,<-hks]
 unfold y6;rw[hv]
 have hM:ClM (y8 [r0,r1] [a0,a1]):=zC rfl
 unfold y8 at hM⊢
 simp only[zN,zT,Kv,Kx,JC,JD,JB,yN,yW]at hM⊢
 obtain⟨e0,e1,e2,e3,e4,e5,e6,e7,e8,e9,e10,e11,e12,e13,e14,e15,e16,e17,e18,e19⟩:(b.c.kd==[99,111,110,115,116])=false/\(b.c.kd==[97,100,100])=false/\(b.c.kd==[115,117,98])=false/\(b.c.kd==[109,117,108])=false/\(b.c.kd==[100,105,118])=false/\(b.c.kd==[110,101,103])=false/\(b.c.kd==[99,111,110,118,101,114,116])=false/\(b.c.kd==[109,105,110])=false/\(b.c.kd==[109,97,120])=false/\(b.c.kd==[108,105,109,105,116])=false/\(b.c.kd==[99,117,114,118,101])=false/\(b.c.kd==[109,97,112])=false/\(b.c.kd==[115,119,105,116,99,104])=false/\(b.c.kd==[108,101,115,115])=false/\(b.c.kd==[101,113,117,97,108])=true/\(b.c.kd==[97,110,100])=false/\(b.c.kd==[111,114])=false/\(b.c.kd==[110,111,116])=false/\(b.c.kd==[104,121,115,116,101,114,101,115,105,115])=false/\(b.c.kd==[100,101,108,97,121])=false:=by rw[hkd];decide
 obtain⟨b0,o0,rfl,c0,el0,mk0,hc0,hcc⟩:=PtH.at k.c.p
 refine kX func172 wT ntmps172 fun C hR hP hH hL=>?_
 have hR:=hR ()
 refine yQ (hb.mono hH) 1 ⟨rfl,rfl⟩ rfl ?_
 refine zB 100 ?_
 simp only[go_sem,hks]
 refine Sm.dg 110 8 ze (vv ?_)
 refine DOpQ.own 120 (zq rfl rfl) (vv ?_)
 refine DOpQ.own 120 (zY rfl rfl rfl) (vv ?_)
 refine zE 120 (fun _=>zW (hH _ _ hc0) (hcc 7 _ rfl) rfl rfl rfl) (vv ?_)
 refine zE 120 (fun _=>wg (k.c.t.mono hH) rfl rfl rfl) ?_
 generalize yB d.tys b.c.ty=t at*
 simp only[go_sem,e0,e1,e2,e3,e4,e5,e6,e7,e8,e9,e10,e11,e12,e13,e14,e15,e16,e17,e18,e19,hks]
 refine Sm.dg 130 14 ze (vv ?_)
 refine CallQ.pure 140 (mW b.c.kd r0 r1 a0 a1) rfl ?_
 simp only[go_sem,hkd]
 exact yI (hR C hL trivial) hM
theorem Yw {H:Hp}{cp:Value}{d:DgL}{bT bC' bM bS:Nat}(k:Ck H cp d bT bC' bM bS)(b:BlL)(hb:b.ok H)(hkd:b.c.kd=[97,110,100])(r0 r1:Int×Int)(a0 a1:Ft)(hks:b.c.ks=[])(pr tb:Int×Int):y6 H cp d b [r0,r1] [a0,a1] pr tb:=by
 have hv:zi (yB d.tys b.c.ty) b.c [r0,r1] [a0,a1] pr tb=zi (yB d.tys b.c.ty) {b.c with kd:=[97,110,100],ks:=[]} [r0,r1] [a0,a1] pr tb:=by rw[<-hkd,<-hks]
 unfold y6;rw[hv]
 have hM:ClM (y8 [r0,r1] [a0,a1]):=zC rfl
 unfold y8 at hM⊢
 simp only[zN,zT,Kv,Kx,JC,JD,JB,yN,yW]at hM⊢
 obtain⟨e0,e1,e2,e3,e4,e5,e6,e7,e8,e9,e10,e11,e12,e13,e14,e15,e16,e17,e18,e19⟩:(b.c.kd==[99,111,110,115,116])=false/\(b.c.kd==[97,100,100])=false/\(b.c.kd==[115,117,98])=false/\(b.c.kd==[109,117,108])=false/\(b.c.kd==[100,105,118])=false/\(b.c.kd==[110,101,103])=false/\(b.c.kd==[99,111,110,118,101,114,116])=false/\(b.c.kd==[109,105,110])=false/\(b.c.kd==[109,97,120])=false/\(b.c.kd==[108,105,109,105,116])=false/\(b.c.kd==[99,117,114,118,101])=false/\(b.c.kd==[109,97,112])=false/\(b.c.kd==[115,119,105,116,99,104])=false/\(b.c.kd==[108,101,115,115])=false/\(b.c.kd==[101,113,117,97,108])=false/\(b.c.kd==[97,110,100])=true/\(b.c.kd==[111,114])=false/\(b.c.kd==[110,111,116])=false/\(b.c.kd==[104,121,115,116,101,114,101,115,105,115])=false/\(b.c.kd==[100,101,108,97,121])=false:=by rw[hkd];decide
 obtain⟨b0,o0,rfl,c0,el0,mk0,hc0,hcc⟩:=PtH.at k.c.p
 refine kX func172 wT ntmps172 fun C hR hP hH hL=>?_
 have hR:=hR ()
 refine yQ (hb.mono hH) 1 ⟨rfl,rfl⟩ rfl ?_
 refine zB 100 ?_
 simp only[go_sem,hks]
 refine Sm.dg 110 8 ze (vv ?_)
 refine DOpQ.own 120 (zq rfl rfl) (vv ?_)
 refine DOpQ.own 120 (zY rfl rfl rfl) (vv ?_)
 refine zE 120 (fun _=>zW (hH _ _ hc0) (hcc 7 _ rfl) rfl rfl rfl) (vv ?_)
 refine zE 120 (fun _=>wg (k.c.t.mono hH) rfl rfl rfl) ?_
 generalize yB d.tys b.c.ty=t at*
 simp only[go_sem,e0,e1,e2,e3,e4,e5,e6,e7,e8,e9,e10,e11,e12,e13,e14,e15,e16,e17,e18,e19,hks]
 rw[hkd]
 refine CallQ.ren [(1,1)] 140 (Wr r0 r1) (zC rfl) rfl rfl ⟨oS,trivial⟩ rfl (.inr rfl) (vv ?_)
 exact yI (hR C hL trivial) hM
theorem VX {H:Hp}{cp:Value}{d:DgL}{bT bC' bM bS:Nat}(k:Ck H cp d bT bC' bM bS)(b:BlL)(hb:b.ok H)(hkd:b.c.kd=[111,114])(r0 r1:Int×Int)(a0 a1:Ft)(hks:b.c.ks=[])(pr tb:Int×Int):y6 H cp d b [r0,r1] [a0,a1] pr tb:=by
 have hv:zi (yB d.tys b.c.ty) b.c [r0,r1] [a0,a1] pr tb=zi (yB d.tys b.c.ty) {b.c with kd:=[111,114],ks:=[]} [r0,r1] [a0,a1] pr tb:=by rw[<-hkd,<-hks]
 unfold y6;rw[hv]
 have hM:ClM (y8 [r0,r1] [a0,a1]):=zC rfl
 unfold y8 at hM⊢
 simp only[zN,zT,Kv,Kx,JC,JD,JB,yN,yW]at hM⊢
 obtain⟨e0,e1,e2,e3,e4,e5,e6,e7,e8,e9,e10,e11,e12,e13,e14,e15,e16,e17,e18,e19⟩:(b.c.kd==[99,111,110,115,116])=false/\(b.c.kd==[97,100,100])=false/\(b.c.kd==[115,117,98])=false/\(b.c.kd==[109,117,108])=false/\(b.c.kd==[100,105,118])=false/\(b.c.kd==[110,101,103])=false/\(b.c.kd==[99,111,110,118,101,114,116])=false/\(b.c.kd==[109,105,110])=false/\(b.c.kd==[109,97,120])=false/\(b.c.kd==[108,105,109,105,116])=false/\(b.c.kd==[99,117,114,118,101])=false/\(b.c.kd==[109,97,112])=false/\(b.c.kd==[115,119,105,116,99,104])=false/\(b.c.kd==[108,101,115,115])=false/\(b.c.kd==[101,113,117,97,108])=false/\(b.c.kd==[97,110,100])=false/\(b.c.kd==[111,114])=true/\(b.c.kd==[110,111,116])=false/\(b.c.kd==[104,121,115,116,101,114,101,115,105,115])=false/\(b.c.kd==[100,101,108,97,121])=false:=by rw[hkd];decide
 obtain⟨b0,o0,rfl,c0,el0,mk0,hc0,hcc⟩:=PtH.at k.c.p
 refine kX func172 wT ntmps172 fun C hR hP hH hL=>?_
 have hR:=hR ()
 refine yQ (hb.mono hH) 1 ⟨rfl,rfl⟩ rfl ?_
 refine zB 100 ?_
 simp only[go_sem,hks]
 refine Sm.dg 110 8 ze (vv ?_)
 refine DOpQ.own 120 (zq rfl rfl) (vv ?_)
 refine DOpQ.own 120 (zY rfl rfl rfl) (vv ?_)
 refine zE 120 (fun _=>zW (hH _ _ hc0) (hcc 7 _ rfl) rfl rfl rfl) (vv ?_)
 refine zE 120 (fun _=>wg (k.c.t.mono hH) rfl rfl rfl) ?_
 generalize yB d.tys b.c.ty=t at*
 simp only[go_sem,e0,e1,e2,e3,e4,e5,e6,e7,e8,e9,e10,e11,e12,e13,e14,e15,e16,e17,e18,e19,hks]
 rw[hkd]
 refine CallQ.ren [(1,1)] 140 (Wq r0 r1) (zC rfl) rfl rfl ⟨oS,trivial⟩ rfl (.inr rfl) (vv ?_)
 exact yI (hR C hL trivial) hM
theorem Yo {H:Hp}{cp:Value}{d:DgL}{bT bC' bM bS:Nat}(k:Ck H cp d bT bC' bM bS)(b:BlL)(hb:b.ok H)(hkd:b.c.kd=[110,111,116])(r0:Int×Int)(a0:Ft)(hks:b.c.ks=[])(pr tb:Int×Int):y6 H cp d b [r0] [a0] pr tb:=by
 have hv:zi (yB d.tys b.c.ty) b.c [r0] [a0] pr tb=zi (yB d.tys b.c.ty) {b.c with kd:=[110,111,116],ks:=[]} [r0] [a0] pr tb:=by rw[<-hkd,<-hks]
 unfold y6;rw[hv]
 have hM:ClM (y8 [r0] [a0]):=zC rfl
 unfold y8 at hM⊢
 simp only[zN,zT,Kv,Kx,JC,JD,JB,yN,yW]at hM⊢
 obtain⟨e0,e1,e2,e3,e4,e5,e6,e7,e8,e9,e10,e11,e12,e13,e14,e15,e16,e17,e18,e19⟩:(b.c.kd==[99,111,110,115,116])=false/\(b.c.kd==[97,100,100])=false/\(b.c.kd==[115,117,98])=false/\(b.c.kd==[109,117,108])=false/\(b.c.kd==[100,105,118])=false/\(b.c.kd==[110,101,103])=false/\(b.c.kd==[99,111,110,118,101,114,116])=false/\(b.c.kd==[109,105,110])=false/\(b.c.kd==[109,97,120])=false/\(b.c.kd==[108,105,109,105,116])=false/\(b.c.kd==[99,117,114,118,101])=false/\(b.c.kd==[109,97,112])=false/\(b.c.kd==[115,119,105,116,99,104])=false/\(b.c.kd==[108,101,115,115])=false/\(b.c.kd==[101,113,117,97,108])=false/\(b.c.kd==[97,110,100])=false/\(b.c.kd==[111,114])=false/\(b.c.kd==[110,111,116])=true/\(b.c.kd==[104,121,115,116,101,114,101,115,105,115])=false/\(b.c.kd==[100,101,108,97,121])=false:=by rw[hkd];decide
 obtain⟨b0,o0,rfl,c0,el0,mk0,hc0,hcc⟩:=PtH.at k.c.p
 refine kX func172 wT ntmps172 fun C hR hP hH hL=>?_
 have hR:=hR ()
 refine yQ (hb.mono hH) 1 ⟨rfl,rfl⟩ rfl ?_
 refine zB 100 ?_
 simp only[go_sem,hks]
 refine Sm.dg 110 8 ze (vv ?_)
 refine DOpQ.own 120 (zq rfl rfl) (vv ?_)
 refine DOpQ.own 120 (zY rfl rfl rfl) (vv ?_)
 refine zE 120 (fun _=>zW (hH _ _ hc0) (hcc 7 _ rfl) rfl rfl rfl) (vv ?_)
 refine zE 120 (fun _=>wg (k.c.t.mono hH) rfl rfl rfl) ?_
 generalize yB d.tys b.c.ty=t at*
 simp only[go_sem,e0,e1,e2,e3,e4,e5,e6,e7,e8,e9,e10,e11,e12,e13,e14,e15,e16,e17,e18,e19,hks]
 rw[hkd]
 refine CallQ.ren [(1,1)] 140 (Wt r0) (zC rfl) rfl rfl ⟨oS,trivial⟩ rfl (.inr rfl) (vv ?_)
 exact yI (hR C hL trivial) hM
theorem nL {H:Hp}{cp:Value}{d:DgL}{bT bC' bM bS:Nat}(k:Ck H cp d bT bC' bM bS)(b:BlL)(hb:b.ok H)(hkd:b.c.kd=[104,121,115,116,101,114,101,115,105,115])(r0:Int×Int)(a0:Ft)(k0 k1:Int)(hks:b.c.ks=[k0,k1])(pr tb:Int×Int):y6 H cp d b [r0] [a0] pr tb:=by
 have hv:zi (yB d.tys b.c.ty) b.c [r0] [a0] pr tb=zi (yB d.tys b.c.ty) {b.c with kd:=[104,121,115,116,101,114,101,115,105,115],ks:=[k0,k1]} [r0] [a0] pr tb:=by rw[<-hkd,<-hks]
 unfold y6;rw[hv]
 have hM:ClM (y8 [r0] [a0]):=zC rfl
 unfold y8 at hM⊢
 simp only[zN,zT,Kv,Kx,JC,JD,JB,yN,yW]at hM⊢
 obtain⟨e0,e1,e2,e3,e4,e5,e6,e7,e8,e9,e10,e11,e12,e13,e14,e15,e16,e17,e18,e19⟩:(b.c.kd==[99,111,110,115,116])=false/\(b.c.kd==[97,100,100])=false/\(b.c.kd==[115,117,98])=false/\(b.c.kd==[109,117,108])=false/\(b.c.kd==[100,105,118])=false/\(b.c.kd==[110,101,103])=false/\(b.c.kd==[99,111,110,118,101,114,116])=false/\(b.c.kd==[109,105,110])=false/\(b.c.kd==[109,97,120])=false/\(b.c.kd==[108,105,109,105,116])=false/\(b.c.kd==[99,117,114,118,101])=false/\(b.c.kd==[109,97,112])=false/\(b.c.kd==[115,119,105,116,99,104])=false/\(b.c.kd==[108,101,115,115])=false/\(b.c.kd==[101,113,117,97,108])=false/\(b.c.kd==[97,110,100])=false/\(b.c.kd==[111,114])=false/\(b.c.kd==[110,111,116])=false/\(b.c.kd==[104,121,115,116,101,114,101,115,105,115])=true/\(b.c.kd==[100,101,108,97,121])=false:=by rw[hkd];decide
 obtain⟨b0,o0,rfl,c0,el0,mk0,hc0,hcc⟩:=PtH.at k.c.p
 refine kX func172 wT ntmps172 fun C hR hP hH hL=>?_
 have hR:=hR ()
 refine yQ (hb.mono hH) 1 ⟨rfl,rfl⟩ rfl ?_
 refine zB 100 ?_
 simp only[go_sem,hks]
 refine Sm.dg 110 8 ze (vv ?_)
 refine DOpQ.own 120 (zq rfl rfl) (vv ?_)
 refine DOpQ.own 120 (zY rfl rfl rfl) (vv ?_)
 refine zE 120 (fun _=>zW (hH _ _ hc0) (hcc 7 _ rfl) rfl rfl rfl) (vv ?_)
 refine zE 120 (fun _=>wg (k.c.t.mono hH) rfl rfl rfl) ?_
 generalize yB d.tys b.c.ty=t at*
 simp only[go_sem,e0,e1,e2,e3,e4,e5,e6,e7,e8,e9,e10,e11,e12,e13,e14,e15,e16,e17,e18,e19,hks]
 refine Sm.dg 130 18 ze ?_
 simp only[go_sem,hks]
 refine CallQ.pure 140 (qW (decide (k1<=r0.2)) (decide (r0.1<k1))) rfl (vv ?_)
 exact yI (hR C hL trivial) hM
theorem tv {α:Type}{l:List α}(h:l.length=0):l=[]:=Ji.1 h
theorem um {α:Type}{l:List α}(h:l.length=1):∃a,l=[a]:=by
 match l,h with
 |[a],_=>exact⟨a,rfl⟩
theorem vo {α:Type}{l:List α}(h:l.length=2):∃a b,l=[a,b]:=by
 match l,h with
 |[a,b],_=>exact⟨a,b,rfl⟩
theorem PE {α:Type}{l:List α}(h:l.length=3):∃a b c,l=[a,b,c]:=by
 match l,h with
 |[a,b,c],_=>exact⟨a,b,c,rfl⟩
theorem VW {H:Hp}{cp:Value}{d:DgL}{bT bC' bM bS:Nat}(k:Ck H cp d bT bC' bM bS)(b:BlL)(hb:b.ok H)(hok:xI b.c=true)(rs:List (Int×Int))(ts:List Ft)(h1:rs.length=b.c.ins.length)(h2:ts.length=b.c.ins.length)(pr tb:Int×Int)
  (hT:jD b.c.kd=true->CallX H Tryz.prog 214 [.c (.v cp),yD b.r,.c (.sl 1 0 rs.length 2)] [(1,⟨true,zD (rs.map yN),45⟩)] (fun _:Unit=>rA tb) (fun _=>[]) (fun _ _=>True)):y6 H cp d b rs ts pr tb:=by
 have hq:∃q,yY b.c.kd=some q:=by
  have h1:=hok
  unfold xI at h1
  cases hq:yY b.c.kd with
  |none=>rw[hq]at h1;cases h1
  |some q=>exact⟨q,rfl⟩
 obtain⟨q,hq⟩:=hq
 have hm:=vY hq
 have hlen:=fun kd (hk:b.c.kd=kd) a n t (hq:yY kd=some (a,n,t))=>xW hok (show(b.c.kd==kd)=true by rw[hk];simp) hq
 simp only[kindT,JZ,IN,or_false,Ie]at hm
 rcases hm with⟨hkd,rfl⟩|⟨hkd,rfl⟩|⟨hkd,rfl⟩|⟨hkd,rfl⟩|⟨hkd,rfl⟩|⟨hkd,rfl⟩|⟨hkd,rfl⟩|⟨hkd,rfl⟩|⟨hkd,rfl⟩|⟨hkd,rfl⟩|⟨hkd,rfl⟩|⟨hkd,rfl⟩|⟨hkd,rfl⟩|⟨hkd,rfl⟩|⟨hkd,rfl⟩|⟨hkd,rfl⟩|⟨hkd,rfl⟩|⟨hkd,rfl⟩|⟨hkd,rfl⟩|⟨hkd,rfl⟩|⟨hkd,rfl⟩
 ·-- const
  obtain⟨g1,g2⟩:=hlen _ hkd 0 1 0 rfl
  rw[g1]at h1 h2
  obtain rfl:=tv h1
  obtain rfl:=tv h2
  obtain⟨k0,hks⟩:=um g2
  exact d9 k b hb hkd k0 hks pr tb
 ·-- add
  obtain⟨g1,g2⟩:=hlen _ hkd 2 0 0 rfl
  rw[g1]at h1 h2
  obtain⟨r0,r1,rfl⟩:=vo h1
  obtain⟨a0,a1,rfl⟩:=vo h2
  have hks:=tv g2
  exact Yx k b hb hkd r0 r1 a0 a1 hks pr tb
 ·-- sub
  obtain⟨g1,g2⟩:=hlen _ hkd 2 0 0 rfl
  rw[g1]at h1 h2
  obtain⟨r0,r1,rfl⟩:=vo h1
  obtain⟨a0,a1,rfl⟩:=vo h2
  have hks:=tv g2
  exact Yn k b hb hkd r0 r1 a0 a1 hks pr tb
 ·-- mul
  obtain⟨g1,g2⟩:=hlen _ hkd 2 0 0 rfl
  rw[g1]at h1 h2
  obtain⟨r0,r1,rfl⟩:=vo h1
  obtain⟨a0,a1,rfl⟩:=vo h2
  have hks:=tv g2
  exact Yq k b hb hkd r0 r1 a0 a1 hks pr tb
 ·-- div
  obtain⟨g1,g2⟩:=hlen _ hkd 2 0 0 rfl
  rw[g1]at h1 h2
  obtain⟨r0,r1,rfl⟩:=vo h1
  obtain⟨a0,a1,rfl⟩:=vo h2
  have hks:=tv g2
  exact Yv k b hb hkd r0 r1 a0 a1 hks pr tb
 ·-- neg
  obtain⟨g1,g2⟩:=hlen _ hkd 1 0 0 rfl
  rw[g1]at h1 h2
  obtain⟨r0,rfl⟩:=um h1
  obtain⟨a0,rfl⟩:=um h2
  have hks:=tv g2
  exact Yp k b hb hkd r0 a0 hks pr tb
 ·-- min
  obtain⟨g1,g2⟩:=hlen _ hkd 2 0 0 rfl
  rw[g1]at h1 h2
  obtain⟨r0,r1,rfl⟩:=vo h1
  obtain⟨a0,a1,rfl⟩:=vo h2
  have hks:=tv g2
  exact Yr k b hb hkd r0 r1 a0 a1 hks pr tb
 ·-- max
  obtain⟨g1,g2⟩:=hlen _ hkd 2 0 0 rfl
  rw[g1]at h1 h2
  obtain⟨r0,r1,rfl⟩:=vo h1
  obtain⟨a0,a1,rfl⟩:=vo h2
  have hks:=tv g2
  exact Ys k b hb hkd r0 r1 a0 a1 hks pr tb
 ·-- limit
  obtain⟨g1,g2⟩:=hlen _ hkd 1 2 0 rfl
  rw[g1]at h1 h2
  obtain⟨r0,rfl⟩:=um h1
  obtain⟨a0,rfl⟩:=um h2
  obtain⟨k0,k1,hks⟩:=vo g2
  exact d5 k b hb hkd r0 a0 k0 k1 hks pr tb
 ·-- convert
  obtain⟨g1,g2⟩:=hlen _ hkd 1 0 0 rfl
  rw[g1]at h1 h2
  obtain⟨r0,rfl⟩:=um h1
  obtain⟨a0,rfl⟩:=um h2
  have hks:=tv g2
  exact iE k b hb hkd r0 a0 hks pr tb
 ·-- curve
  obtain⟨g1,g2⟩:=hlen _ hkd 1 0 1 rfl
  rw[g1]at h1 h2
  obtain⟨r0,rfl⟩:=um h1
  obtain⟨a0,rfl⟩:=um h2
  have hks:=tv g2
  exact d8 k b hb hkd r0 a0 hks pr tb (hT (by rw[hkd];rfl))
 ·-- map
  obtain⟨g1,g2⟩:=hlen _ hkd 2 0 2 rfl
  rw[g1]at h1 h2
  obtain⟨r0,r1,rfl⟩:=vo h1
  obtain⟨a0,a1,rfl⟩:=vo h2
  have hks:=tv g2
  exact Yt k b hb hkd r0 r1 a0 a1 hks pr tb (hT (by rw[hkd];rfl))
 ·-- delay
  obtain⟨g1,g2⟩:=hlen _ hkd 1 1 0 rfl
  rw[g1]at h1 h2
  obtain⟨r0,rfl⟩:=um h1
  obtain⟨a0,rfl⟩:=um h2
  obtain⟨k0,hks⟩:=um g2
  exact d7 k b hb hkd r0 a0 k0 hks pr tb
 ·-- lag
  obtain⟨g1,g2⟩:=hlen _ hkd 1 1 0 rfl
  rw[g1]at h1 h2
  obtain⟨r0,rfl⟩:=um h1
  obtain⟨a0,rfl⟩:=um h2
  obtain⟨k0,hks⟩:=um g2
  exact Yu k b hb hkd r0 a0 k0 hks pr tb
 ·-- switch
  obtain⟨g1,g2⟩:=hlen _ hkd 3 0 0 rfl
  rw[g1]at h1 h2
  obtain⟨r0,r1,r2,rfl⟩:=PE h1
  obtain⟨a0,a1,a2,rfl⟩:=PE h2
  have hks:=tv g2
  exact g9 k b hb hkd r0 r1 r2 a0 a1 a2 hks pr tb
 ·-- less
  obtain⟨g1,g2⟩:=hlen _ hkd 2 0 0 rfl
  rw[g1]at h1 h2
  obtain⟨r0,r1,rfl⟩:=vo h1
  obtain⟨a0,a1,rfl⟩:=vo h2
  have hks:=tv g2
  exact aw k b hb hkd r0 r1 a0 a1 hks pr tb
 ·-- equal
  obtain⟨g1,g2⟩:=hlen _ hkd 2 0 0 rfl
  rw[g1]at h1 h2
  obtain⟨r0,r1,rfl⟩:=vo h1
  obtain⟨a0,a1,rfl⟩:=vo h2
  have hks:=tv g2
  exact d6 k b hb hkd r0 r1 a0 a1 hks pr tb
 ·-- and
  obtain⟨g1,g2⟩:=hlen _ hkd 2 0 0 rfl
  rw[g1]at h1 h2
  obtain⟨r0,r1,rfl⟩:=vo h1
  obtain⟨a0,a1,rfl⟩:=vo h2
  have hks:=tv g2
  exact Yw k b hb hkd r0 r1 a0 a1 hks pr tb
 ·-- or
  obtain⟨g1,g2⟩:=hlen _ hkd 2 0 0 rfl
  rw[g1]at h1 h2
  obtain⟨r0,r1,rfl⟩:=vo h1
  obtain⟨a0,a1,rfl⟩:=vo h2
  have hks:=tv g2
  exact VX k b hb hkd r0 r1 a0 a1 hks pr tb
 ·-- not
  obtain⟨g1,g2⟩:=hlen _ hkd 1 0 0 rfl
  rw[g1]at h1 h2
  obtain⟨r0,rfl⟩:=um h1
  obtain⟨a0,rfl⟩:=um h2
  have hks:=tv g2
  exact Yo k b hb hkd r0 a0 hks pr tb
 ·-- hysteresis
  obtain⟨g1,g2⟩:=hlen _ hkd 1 2 0 rfl
  rw[g1]at h1 h2
  obtain⟨r0,rfl⟩:=um h1
  obtain⟨a0,rfl⟩:=um h2
  obtain⟨k0,k1,hks⟩:=vo g2
  exact nL k b hb hkd r0 a0 k0 k1 hks pr tb
end Go.Proofs.YtkciabfilokfiaaGreat.Fx
