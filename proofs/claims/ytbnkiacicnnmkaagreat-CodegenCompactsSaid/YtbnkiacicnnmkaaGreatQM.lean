/-  -/
import Derived.Test.YtbnkiacicnnmkaaGreatQL
open Go.Proofs.Tryz
set_option linter.unusedSimpArgs false
set_option linter.unusedVariables false
set_option maxRecDepth 100000
set_option maxHeartbeats 4000000
namespace Go.Proofs.YtbnkiacicnnmkaaGreat.Fx
open Vg Tf
def yT (t:Ft)(b:Bl)(rs:List (Int×Int))(ts:List Ft)(pr tb:Int×Int):(Int×Int)×Int:=
 let r:=fun i=>rs.getD i (0,0)
 let u:=fun i=>ts.getD i Xo
 let k:=fun i=>b.ks.getD i 0
 let cv:=pd rs ts t
 bif b.kd==[99,111,110,115,116]then((k 0,k 0),0)
 else bif b.kd==[97,100,100]||(b.kd==[115,117,98]||(b.kd==[109,117,108]||b.kd==[100,105,118]))then(vR (YZ b.kd) (r 0) (r 1) (u 0) (u 1) t,uE (YZ b.kd) (r 0).1 (r 0).2 (r 1).1 (r 1).2 (u 0) (u 1) t)
 else bif b.kd==[110,101,103]then((gR (-1) (u 0) (r 0).2 t,gR (-1) (u 0) (r 0).1 t),0)
 else bif b.kd==[99,111,110,118,101,114,116]then(cv 0,0)
 else bif b.kd==[109,105,110]then((min (cv 0).1 (cv 1).1,min (cv 0).2 (cv 1).2),0)
 else bif b.kd==[109,97,120]then((max (cv 0).1 (cv 1).1,max (cv 0).2 (cv 1).2),0)
 else bif b.kd==[108,105,109,105,116]then(X6 (cv 0) (k 0) (k 1),0)
 else bif b.kd==[99,117,114,118,101]||b.kd==[109,97,112]then(tb,0)
 else bif b.kd==[115,119,105,116,99,104]then(bif !(xL (r 0)).2 then cv 1 else bif !(xL (r 0)).1 then cv 2 else sQ (cv 1) (cv 2),0)
 else bif b.kd==[108,101,115,115]||b.kd==[101,113,117,97,108]then(Rn (b.kd==[108,101,115,115]) (r 0) (r 1) (u 0) (u 1),0)
 else bif b.kd==[110,111,116]then(gr 0 (r 0) (0,0),0)
 else bif b.kd==[97,110,100]then(gr 1 (r 0) (r 1),0)
 else bif b.kd==[111,114]then(gr 2 (r 0) (r 1),0)
 else bif b.kd==[104,121,115,116,101,114,101,115,105,115]then(kY (decide (k 1<=(r 0).2)) (decide ((r 0).1<k 1)),0)
 else bif b.kd==[100,101,108,97,121]then(pr,0)
 else(sQ pr (cv 0),0)
def gZ (s:Str):Bool:=s==[99,117,114,118,101]||s==[109,97,112]
def vJ (rs:List (Int×Int))(ts:List Ft):Mem:=[(1,⟨true,zC (rs.map ya),129⟩),(2,⟨true,zC (ts.map xN),55⟩)]
theorem zz:zC []=[]:=rfl
theorem zj (x:List Value)(l:List (List Value)):zC (x::l)=x.map Cv.v++zC l:=by simp[zC]
def yE (H:Hp)(cp:Value)(d:DgL)(b:BlL)(rs:List (Int×Int))(ts:List Ft)(pr tb:Int×Int):Prop:=
 CallX H Tryz.prog 209 [.c (.v cp),z3 b.r,.c (.sl 1 0 rs.length 2),.c (.sl 2 0 ts.length 10),rA pr] (vJ rs ts) (fun _:Unit=>rE (yT (yG d.tys b.c.ty) b.c rs ts pr tb)) (fun _=>[]) (fun _ _=>True)
theorem fL {H:Hp}{cp:Value}{d:DgL}{bT bC' bM bS:Nat}(k:Ck H cp d bT bC' bM bS)(b:BlL)(hb:b.ok H)(hkd:b.c.kd=[99,111,110,115,116])(k0:Int)(hks:b.c.ks=[k0])(pr tb:Int×Int):yE H cp d b [] [] pr tb:=by
 have hv:yT (yG d.tys b.c.ty) b.c [] [] pr tb=yT (yG d.tys b.c.ty) {b.c with kd:=[99,111,110,115,116],ks:=[k0]} [] [] pr tb:=by rw[<-hkd,<-hks]
 unfold yE;rw[hv]
 have hM:ClM (vJ [] []):=zD rfl
 unfold vJ at hM⊢
 obtain⟨e0,e1,e2,e3,e4,e5,e6,e7,e8,e9,e10,e11,e12,e13,e14,e15,e16,e17,e18,e19⟩:(b.c.kd==[99,111,110,115,116])=true/\(b.c.kd==[97,100,100])=false/\(b.c.kd==[115,117,98])=false/\(b.c.kd==[109,117,108])=false/\(b.c.kd==[100,105,118])=false/\(b.c.kd==[110,101,103])=false/\(b.c.kd==[99,111,110,118,101,114,116])=false/\(b.c.kd==[109,105,110])=false/\(b.c.kd==[109,97,120])=false/\(b.c.kd==[108,105,109,105,116])=false/\(b.c.kd==[99,117,114,118,101])=false/\(b.c.kd==[109,97,112])=false/\(b.c.kd==[115,119,105,116,99,104])=false/\(b.c.kd==[108,101,115,115])=false/\(b.c.kd==[101,113,117,97,108])=false/\(b.c.kd==[97,110,100])=false/\(b.c.kd==[111,114])=false/\(b.c.kd==[110,111,116])=false/\(b.c.kd==[104,121,115,116,101,114,101,115,105,115])=false/\(b.c.kd==[100,101,108,97,121])=false:=by rw[hkd];decide
 obtain⟨b0,o0,rfl,c0,el0,mk0,hc0,hcc⟩:=PtH.at k.c.p
 refine kX func209 x7 ntmps209 fun C hR hP hH hL=>?_
 have hR:=hR ()
 refine yB (hb.mono hH) 1 ⟨rfl,rfl⟩ rfl ?_
 refine zB 100 ?_
 simp only[go_sem,hks]
 refine Sm.dg 110 8 zi (vv ?_)
 refine DOpQ.own 120 (zg rfl rfl) (vv ?_)
 refine DOpQ.own 120 (zT rfl rfl rfl) (vv ?_)
 refine zF 120 (fun _=>zS (hH _ _ hc0) (hcc 7 _ rfl) rfl rfl rfl) (vv ?_)
 refine zF 120 (fun _=>xh (k.c.t.mono hH) rfl rfl rfl) ?_
 generalize yG d.tys b.c.ty=t at*
 simp only[go_sem,e0,e1,e2,e3,e4,e5,e6,e7,e8,e9,e10,e11,e12,e13,e14,e15,e16,e17,e18,e19,hks]
 refine Sm.dg 130 8 zi ?_
 simp only[go_sem,hks]
 exact yN (hR C hL trivial) hM
theorem ZP {H:Hp}{cp:Value}{d:DgL}{bT bC' bM bS:Nat}(k:Ck H cp d bT bC' bM bS)(b:BlL)(hb:b.ok H)(hkd:b.c.kd=[97,100,100])(r0 r1:Int×Int)(a0 a1:Ft)(hks:b.c.ks=[])(pr tb:Int×Int):yE H cp d b [r0,r1] [a0,a1] pr tb:=by
 have hv:yT (yG d.tys b.c.ty) b.c [r0,r1] [a0,a1] pr tb=yT (yG d.tys b.c.ty) {b.c with kd:=[97,100,100],ks:=[]} [r0,r1] [a0,a1] pr tb:=by rw[<-hkd,<-hks]
 unfold yE;rw[hv]
 have hM:ClM (vJ [r0,r1] [a0,a1]):=zD rfl
 unfold vJ at hM⊢
 simp only[zj,zz,Ky,Kz,JF,JG,JK,ya,xN]at hM⊢
 obtain⟨e0,e1,e2,e3,e4,e5,e6,e7,e8,e9,e10,e11,e12,e13,e14,e15,e16,e17,e18,e19⟩:(b.c.kd==[99,111,110,115,116])=false/\(b.c.kd==[97,100,100])=true/\(b.c.kd==[115,117,98])=false/\(b.c.kd==[109,117,108])=false/\(b.c.kd==[100,105,118])=false/\(b.c.kd==[110,101,103])=false/\(b.c.kd==[99,111,110,118,101,114,116])=false/\(b.c.kd==[109,105,110])=false/\(b.c.kd==[109,97,120])=false/\(b.c.kd==[108,105,109,105,116])=false/\(b.c.kd==[99,117,114,118,101])=false/\(b.c.kd==[109,97,112])=false/\(b.c.kd==[115,119,105,116,99,104])=false/\(b.c.kd==[108,101,115,115])=false/\(b.c.kd==[101,113,117,97,108])=false/\(b.c.kd==[97,110,100])=false/\(b.c.kd==[111,114])=false/\(b.c.kd==[110,111,116])=false/\(b.c.kd==[104,121,115,116,101,114,101,115,105,115])=false/\(b.c.kd==[100,101,108,97,121])=false:=by rw[hkd];decide
 obtain⟨b0,o0,rfl,c0,el0,mk0,hc0,hcc⟩:=PtH.at k.c.p
 refine kX func209 x7 ntmps209 fun C hR hP hH hL=>?_
 have hR:=hR ()
 refine yB (hb.mono hH) 1 ⟨rfl,rfl⟩ rfl ?_
 refine zB 100 ?_
 simp only[go_sem,hks]
 refine Sm.dg 110 8 zi (vv ?_)
 refine DOpQ.own 120 (zg rfl rfl) (vv ?_)
 refine DOpQ.own 120 (zT rfl rfl rfl) (vv ?_)
 refine zF 120 (fun _=>zS (hH _ _ hc0) (hcc 7 _ rfl) rfl rfl rfl) (vv ?_)
 refine zF 120 (fun _=>xh (k.c.t.mono hH) rfl rfl rfl) ?_
 generalize yG d.tys b.c.ty=t at*
 simp only[go_sem,e0,e1,e2,e3,e4,e5,e6,e7,e8,e9,e10,e11,e12,e13,e14,e15,e16,e17,e18,e19,hks]
 refine Sm.dg 130 18 zi (vv ?_)
 refine yV 140 (fun _=>vK b.c.kd r0 r1 a0 a1 t) hH (fun _=>rfl) ?_
 simp only[go_sem,hkd]
 exact yN (hR C hL trivial) hM
theorem ZF {H:Hp}{cp:Value}{d:DgL}{bT bC' bM bS:Nat}(k:Ck H cp d bT bC' bM bS)(b:BlL)(hb:b.ok H)(hkd:b.c.kd=[115,117,98])(r0 r1:Int×Int)(a0 a1:Ft)(hks:b.c.ks=[])(pr tb:Int×Int):yE H cp d b [r0,r1] [a0,a1] pr tb:=by
 have hv:yT (yG d.tys b.c.ty) b.c [r0,r1] [a0,a1] pr tb=yT (yG d.tys b.c.ty) {b.c with kd:=[115,117,98],ks:=[]} [r0,r1] [a0,a1] pr tb:=by rw[<-hkd,<-hks]
 unfold yE;rw[hv]
 have hM:ClM (vJ [r0,r1] [a0,a1]):=zD rfl
 unfold vJ at hM⊢
 simp only[zj,zz,Ky,Kz,JF,JG,JK,ya,xN]at hM⊢
 obtain⟨e0,e1,e2,e3,e4,e5,e6,e7,e8,e9,e10,e11,e12,e13,e14,e15,e16,e17,e18,e19⟩:(b.c.kd==[99,111,110,115,116])=false/\(b.c.kd==[97,100,100])=false/\(b.c.kd==[115,117,98])=true/\(b.c.kd==[109,117,108])=false/\(b.c.kd==[100,105,118])=false/\(b.c.kd==[110,101,103])=false/\(b.c.kd==[99,111,110,118,101,114,116])=false/\(b.c.kd==[109,105,110])=false/\(b.c.kd==[109,97,120])=false/\(b.c.kd==[108,105,109,105,116])=false/\(b.c.kd==[99,117,114,118,101])=false/\(b.c.kd==[109,97,112])=false/\(b.c.kd==[115,119,105,116,99,104])=false/\(b.c.kd==[108,101,115,115])=false/\(b.c.kd==[101,113,117,97,108])=false/\(b.c.kd==[97,110,100])=false/\(b.c.kd==[111,114])=false/\(b.c.kd==[110,111,116])=false/\(b.c.kd==[104,121,115,116,101,114,101,115,105,115])=false/\(b.c.kd==[100,101,108,97,121])=false:=by rw[hkd];decide
 obtain⟨b0,o0,rfl,c0,el0,mk0,hc0,hcc⟩:=PtH.at k.c.p
 refine kX func209 x7 ntmps209 fun C hR hP hH hL=>?_
 have hR:=hR ()
 refine yB (hb.mono hH) 1 ⟨rfl,rfl⟩ rfl ?_
 refine zB 100 ?_
 simp only[go_sem,hks]
 refine Sm.dg 110 8 zi (vv ?_)
 refine DOpQ.own 120 (zg rfl rfl) (vv ?_)
 refine DOpQ.own 120 (zT rfl rfl rfl) (vv ?_)
 refine zF 120 (fun _=>zS (hH _ _ hc0) (hcc 7 _ rfl) rfl rfl rfl) (vv ?_)
 refine zF 120 (fun _=>xh (k.c.t.mono hH) rfl rfl rfl) ?_
 generalize yG d.tys b.c.ty=t at*
 simp only[go_sem,e0,e1,e2,e3,e4,e5,e6,e7,e8,e9,e10,e11,e12,e13,e14,e15,e16,e17,e18,e19,hks]
 refine Sm.dg 130 18 zi (vv ?_)
 refine yV 140 (fun _=>vK b.c.kd r0 r1 a0 a1 t) hH (fun _=>rfl) ?_
 simp only[go_sem,hkd]
 exact yN (hR C hL trivial) hM
theorem ZI {H:Hp}{cp:Value}{d:DgL}{bT bC' bM bS:Nat}(k:Ck H cp d bT bC' bM bS)(b:BlL)(hb:b.ok H)(hkd:b.c.kd=[109,117,108])(r0 r1:Int×Int)(a0 a1:Ft)(hks:b.c.ks=[])(pr tb:Int×Int):yE H cp d b [r0,r1] [a0,a1] pr tb:=by
 have hv:yT (yG d.tys b.c.ty) b.c [r0,r1] [a0,a1] pr tb=yT (yG d.tys b.c.ty) {b.c with kd:=[109,117,108],ks:=[]} [r0,r1] [a0,a1] pr tb:=by rw[<-hkd,<-hks]
 unfold yE;rw[hv]
 have hM:ClM (vJ [r0,r1] [a0,a1]):=zD rfl
 unfold vJ at hM⊢
 simp only[zj,zz,Ky,Kz,JF,JG,JK,ya,xN]at hM⊢
 obtain⟨e0,e1,e2,e3,e4,e5,e6,e7,e8,e9,e10,e11,e12,e13,e14,e15,e16,e17,e18,e19⟩:(b.c.kd==[99,111,110,115,116])=false/\(b.c.kd==[97,100,100])=false/\(b.c.kd==[115,117,98])=false/\(b.c.kd==[109,117,108])=true/\(b.c.kd==[100,105,118])=false/\(b.c.kd==[110,101,103])=false/\(b.c.kd==[99,111,110,118,101,114,116])=false/\(b.c.kd==[109,105,110])=false/\(b.c.kd==[109,97,120])=false/\(b.c.kd==[108,105,109,105,116])=false/\(b.c.kd==[99,117,114,118,101])=false/\(b.c.kd==[109,97,112])=false/\(b.c.kd==[115,119,105,116,99,104])=false/\(b.c.kd==[108,101,115,115])=false/\(b.c.kd==[101,113,117,97,108])=false/\(b.c.kd==[97,110,100])=false/\(b.c.kd==[111,114])=false/\(b.c.kd==[110,111,116])=false/\(b.c.kd==[104,121,115,116,101,114,101,115,105,115])=false/\(b.c.kd==[100,101,108,97,121])=false:=by rw[hkd];decide
 obtain⟨b0,o0,rfl,c0,el0,mk0,hc0,hcc⟩:=PtH.at k.c.p
 refine kX func209 x7 ntmps209 fun C hR hP hH hL=>?_
 have hR:=hR ()
 refine yB (hb.mono hH) 1 ⟨rfl,rfl⟩ rfl ?_
 refine zB 100 ?_
 simp only[go_sem,hks]
 refine Sm.dg 110 8 zi (vv ?_)
 refine DOpQ.own 120 (zg rfl rfl) (vv ?_)
 refine DOpQ.own 120 (zT rfl rfl rfl) (vv ?_)
 refine zF 120 (fun _=>zS (hH _ _ hc0) (hcc 7 _ rfl) rfl rfl rfl) (vv ?_)
 refine zF 120 (fun _=>xh (k.c.t.mono hH) rfl rfl rfl) ?_
 generalize yG d.tys b.c.ty=t at*
 simp only[go_sem,e0,e1,e2,e3,e4,e5,e6,e7,e8,e9,e10,e11,e12,e13,e14,e15,e16,e17,e18,e19,hks]
 refine Sm.dg 130 18 zi (vv ?_)
 refine yV 140 (fun _=>vK b.c.kd r0 r1 a0 a1 t) hH (fun _=>rfl) ?_
 simp only[go_sem,hkd]
 exact yN (hR C hL trivial) hM
theorem ZN {H:Hp}{cp:Value}{d:DgL}{bT bC' bM bS:Nat}(k:Ck H cp d bT bC' bM bS)(b:BlL)(hb:b.ok H)(hkd:b.c.kd=[100,105,118])(r0 r1:Int×Int)(a0 a1:Ft)(hks:b.c.ks=[])(pr tb:Int×Int):yE H cp d b [r0,r1] [a0,a1] pr tb:=by
 have hv:yT (yG d.tys b.c.ty) b.c [r0,r1] [a0,a1] pr tb=yT (yG d.tys b.c.ty) {b.c with kd:=[100,105,118],ks:=[]} [r0,r1] [a0,a1] pr tb:=by rw[<-hkd,<-hks]
 unfold yE;rw[hv]
 have hM:ClM (vJ [r0,r1] [a0,a1]):=zD rfl
 unfold vJ at hM⊢
 simp only[zj,zz,Ky,Kz,JF,JG,JK,ya,xN]at hM⊢
 obtain⟨e0,e1,e2,e3,e4,e5,e6,e7,e8,e9,e10,e11,e12,e13,e14,e15,e16,e17,e18,e19⟩:(b.c.kd==[99,111,110,115,116])=false/\(b.c.kd==[97,100,100])=false/\(b.c.kd==[115,117,98])=false/\(b.c.kd==[109,117,108])=false/\(b.c.kd==[100,105,118])=true/\(b.c.kd==[110,101,103])=false/\(b.c.kd==[99,111,110,118,101,114,116])=false/\(b.c.kd==[109,105,110])=false/\(b.c.kd==[109,97,120])=false/\(b.c.kd==[108,105,109,105,116])=false/\(b.c.kd==[99,117,114,118,101])=false/\(b.c.kd==[109,97,112])=false/\(b.c.kd==[115,119,105,116,99,104])=false/\(b.c.kd==[108,101,115,115])=false/\(b.c.kd==[101,113,117,97,108])=false/\(b.c.kd==[97,110,100])=false/\(b.c.kd==[111,114])=false/\(b.c.kd==[110,111,116])=false/\(b.c.kd==[104,121,115,116,101,114,101,115,105,115])=false/\(b.c.kd==[100,101,108,97,121])=false:=by rw[hkd];decide
 obtain⟨b0,o0,rfl,c0,el0,mk0,hc0,hcc⟩:=PtH.at k.c.p
 refine kX func209 x7 ntmps209 fun C hR hP hH hL=>?_
 have hR:=hR ()
 refine yB (hb.mono hH) 1 ⟨rfl,rfl⟩ rfl ?_
 refine zB 100 ?_
 simp only[go_sem,hks]
 refine Sm.dg 110 8 zi (vv ?_)
 refine DOpQ.own 120 (zg rfl rfl) (vv ?_)
 refine DOpQ.own 120 (zT rfl rfl rfl) (vv ?_)
 refine zF 120 (fun _=>zS (hH _ _ hc0) (hcc 7 _ rfl) rfl rfl rfl) (vv ?_)
 refine zF 120 (fun _=>xh (k.c.t.mono hH) rfl rfl rfl) ?_
 generalize yG d.tys b.c.ty=t at*
 simp only[go_sem,e0,e1,e2,e3,e4,e5,e6,e7,e8,e9,e10,e11,e12,e13,e14,e15,e16,e17,e18,e19,hks]
 refine Sm.dg 130 18 zi (vv ?_)
 refine yV 140 (fun _=>vK b.c.kd r0 r1 a0 a1 t) hH (fun _=>rfl) ?_
 simp only[go_sem,hkd]
 exact yN (hR C hL trivial) hM
theorem ZH {H:Hp}{cp:Value}{d:DgL}{bT bC' bM bS:Nat}(k:Ck H cp d bT bC' bM bS)(b:BlL)(hb:b.ok H)(hkd:b.c.kd=[110,101,103])(r0:Int×Int)(a0:Ft)(hks:b.c.ks=[])(pr tb:Int×Int):yE H cp d b [r0] [a0] pr tb:=by
 have hv:yT (yG d.tys b.c.ty) b.c [r0] [a0] pr tb=yT (yG d.tys b.c.ty) {b.c with kd:=[110,101,103],ks:=[]} [r0] [a0] pr tb:=by rw[<-hkd,<-hks]
 unfold yE;rw[hv]
 have hM:ClM (vJ [r0] [a0]):=zD rfl
 unfold vJ at hM⊢
 simp only[zj,zz,Ky,Kz,JF,JG,JK,ya,xN]at hM⊢
 obtain⟨e0,e1,e2,e3,e4,e5,e6,e7,e8,e9,e10,e11,e12,e13,e14,e15,e16,e17,e18,e19⟩:(b.c.kd==[99,111,110,115,116])=false/\(b.c.kd==[97,100,100])=false/\(b.c.kd==[115,117,98])=false/\(b.c.kd==[109,117,108])=false/\(b.c.kd==[100,105,118])=false/\(b.c.kd==[110,101,103])=true/\(b.c.kd==[99,111,110,118,101,114,116])=false/\(b.c.kd==[109,105,110])=false/\(b.c.kd==[109,97,120])=false/\(b.c.kd==[108,105,109,105,116])=false/\(b.c.kd==[99,117,114,118,101])=false/\(b.c.kd==[109,97,112])=false/\(b.c.kd==[115,119,105,116,99,104])=false/\(b.c.kd==[108,101,115,115])=false/\(b.c.kd==[101,113,117,97,108])=false/\(b.c.kd==[97,110,100])=false/\(b.c.kd==[111,114])=false/\(b.c.kd==[110,111,116])=false/\(b.c.kd==[104,121,115,116,101,114,101,115,105,115])=false/\(b.c.kd==[100,101,108,97,121])=false:=by rw[hkd];decide
 obtain⟨b0,o0,rfl,c0,el0,mk0,hc0,hcc⟩:=PtH.at k.c.p
 refine kX func209 x7 ntmps209 fun C hR hP hH hL=>?_
 have hR:=hR ()
 refine yB (hb.mono hH) 1 ⟨rfl,rfl⟩ rfl ?_
 refine zB 100 ?_
 simp only[go_sem,hks]
 refine Sm.dg 110 8 zi (vv ?_)
 refine DOpQ.own 120 (zg rfl rfl) (vv ?_)
 refine DOpQ.own 120 (zT rfl rfl rfl) (vv ?_)
 refine zF 120 (fun _=>zS (hH _ _ hc0) (hcc 7 _ rfl) rfl rfl rfl) (vv ?_)
 refine zF 120 (fun _=>xh (k.c.t.mono hH) rfl rfl rfl) ?_
 generalize yG d.tys b.c.ty=t at*
 simp only[go_sem,e0,e1,e2,e3,e4,e5,e6,e7,e8,e9,e10,e11,e12,e13,e14,e15,e16,e17,e18,e19,hks]
 refine Sm.dg 130 11 zi (vv ?_)
 refine DCallQ.ren [(1,102),(2,120),(3,2)] 140 (gK [a0] t r0.2 z9 z9) (zD rfl) rfl rfl ?_ rfl (.inr rfl) rfl rfl ?_
 ·exact⟨⟨_,rfl,.inr ⟨rfl,[],rfl⟩⟩,⟨_,rfl,.inr ⟨rfl,[],rfl⟩⟩,oS,trivial⟩
 refine vv ?_
 refine CallQ.ren [(1,102),(2,120),(3,2)] 150 (gK [a0] t r0.1 z9 z9) (zD rfl) rfl rfl ?_ rfl (.inr rfl) ?_
 ·exact⟨⟨_,rfl,.inr ⟨rfl,[],rfl⟩⟩,⟨_,rfl,.inr ⟨rfl,[],rfl⟩⟩,oS,trivial⟩
 refine vv ?_
 exact yN (hR C hL trivial) hM
theorem ZJ {H:Hp}{cp:Value}{d:DgL}{bT bC' bM bS:Nat}(k:Ck H cp d bT bC' bM bS)(b:BlL)(hb:b.ok H)(hkd:b.c.kd=[109,105,110])(r0 r1:Int×Int)(a0 a1:Ft)(hks:b.c.ks=[])(pr tb:Int×Int):yE H cp d b [r0,r1] [a0,a1] pr tb:=by
 have hv:yT (yG d.tys b.c.ty) b.c [r0,r1] [a0,a1] pr tb=yT (yG d.tys b.c.ty) {b.c with kd:=[109,105,110],ks:=[]} [r0,r1] [a0,a1] pr tb:=by rw[<-hkd,<-hks]
 unfold yE;rw[hv]
 have hM:ClM (vJ [r0,r1] [a0,a1]):=zD rfl
 unfold vJ at hM⊢
 simp only[zj,zz,Ky,Kz,JF,JG,JK,ya,xN]at hM⊢
 obtain⟨e0,e1,e2,e3,e4,e5,e6,e7,e8,e9,e10,e11,e12,e13,e14,e15,e16,e17,e18,e19⟩:(b.c.kd==[99,111,110,115,116])=false/\(b.c.kd==[97,100,100])=false/\(b.c.kd==[115,117,98])=false/\(b.c.kd==[109,117,108])=false/\(b.c.kd==[100,105,118])=false/\(b.c.kd==[110,101,103])=false/\(b.c.kd==[99,111,110,118,101,114,116])=false/\(b.c.kd==[109,105,110])=true/\(b.c.kd==[109,97,120])=false/\(b.c.kd==[108,105,109,105,116])=false/\(b.c.kd==[99,117,114,118,101])=false/\(b.c.kd==[109,97,112])=false/\(b.c.kd==[115,119,105,116,99,104])=false/\(b.c.kd==[108,101,115,115])=false/\(b.c.kd==[101,113,117,97,108])=false/\(b.c.kd==[97,110,100])=false/\(b.c.kd==[111,114])=false/\(b.c.kd==[110,111,116])=false/\(b.c.kd==[104,121,115,116,101,114,101,115,105,115])=false/\(b.c.kd==[100,101,108,97,121])=false:=by rw[hkd];decide
 obtain⟨b0,o0,rfl,c0,el0,mk0,hc0,hcc⟩:=PtH.at k.c.p
 refine kX func209 x7 ntmps209 fun C hR hP hH hL=>?_
 have hR:=hR ()
 refine yB (hb.mono hH) 1 ⟨rfl,rfl⟩ rfl ?_
 refine zB 100 ?_
 simp only[go_sem,hks]
 refine Sm.dg 110 8 zi (vv ?_)
 refine DOpQ.own 120 (zg rfl rfl) (vv ?_)
 refine DOpQ.own 120 (zT rfl rfl rfl) (vv ?_)
 refine zF 120 (fun _=>zS (hH _ _ hc0) (hcc 7 _ rfl) rfl rfl rfl) (vv ?_)
 refine zF 120 (fun _=>xh (k.c.t.mono hH) rfl rfl rfl) ?_
 generalize yG d.tys b.c.ty=t at*
 simp only[go_sem,e0,e1,e2,e3,e4,e5,e6,e7,e8,e9,e10,e11,e12,e13,e14,e15,e16,e17,e18,e19,hks]
 refine CallQ.ren [(1,101),(2,102),(3,120),(4,1),(5,2)] 140 (xv [r0,r1] [a0,a1] t 0 z9 z9 z9 z9) (zD rfl) rfl rfl ?_ rfl (.inr rfl) ?_
 ·exact⟨⟨_,rfl,.inr ⟨rfl,[],rfl⟩⟩,⟨_,rfl,.inr ⟨rfl,[],rfl⟩⟩,⟨_,rfl,.inr ⟨rfl,[],rfl⟩⟩,oS,oS,trivial⟩
 refine vv ?_
 refine CallQ.ren [(1,101),(2,102),(3,120),(4,1),(5,2)] 150 (xv [r0,r1] [a0,a1] t 1 z9 z9 z9 z9) (zD rfl) rfl rfl ?_ rfl (.inr rfl) ?_
 ·exact⟨⟨_,rfl,.inr ⟨rfl,[],rfl⟩⟩,⟨_,rfl,.inr ⟨rfl,[],rfl⟩⟩,⟨_,rfl,.inr ⟨rfl,[],rfl⟩⟩,oS,oS,trivial⟩
 refine vv ?_
 exact yN (hR C hL trivial) hM
theorem ZK {H:Hp}{cp:Value}{d:DgL}{bT bC' bM bS:Nat}(k:Ck H cp d bT bC' bM bS)(b:BlL)(hb:b.ok H)(hkd:b.c.kd=[109,97,120])(r0 r1:Int×Int)(a0 a1:Ft)(hks:b.c.ks=[])(pr tb:Int×Int):yE H cp d b [r0,r1] [a0,a1] pr tb:=by
 have hv:yT (yG d.tys b.c.ty) b.c [r0,r1] [a0,a1] pr tb=yT (yG d.tys b.c.ty) {b.c with kd:=[109,97,120],ks:=[]} [r0,r1] [a0,a1] pr tb:=by rw[<-hkd,<-hks]
 unfold yE;rw[hv]
 have hM:ClM (vJ [r0,r1] [a0,a1]):=zD rfl
 unfold vJ at hM⊢
 simp only[zj,zz,Ky,Kz,JF,JG,JK,ya,xN]at hM⊢
 obtain⟨e0,e1,e2,e3,e4,e5,e6,e7,e8,e9,e10,e11,e12,e13,e14,e15,e16,e17,e18,e19⟩:(b.c.kd==[99,111,110,115,116])=false/\(b.c.kd==[97,100,100])=false/\(b.c.kd==[115,117,98])=false/\(b.c.kd==[109,117,108])=false/\(b.c.kd==[100,105,118])=false/\(b.c.kd==[110,101,103])=false/\(b.c.kd==[99,111,110,118,101,114,116])=false/\(b.c.kd==[109,105,110])=false/\(b.c.kd==[109,97,120])=true/\(b.c.kd==[108,105,109,105,116])=false/\(b.c.kd==[99,117,114,118,101])=false/\(b.c.kd==[109,97,112])=false/\(b.c.kd==[115,119,105,116,99,104])=false/\(b.c.kd==[108,101,115,115])=false/\(b.c.kd==[101,113,117,97,108])=false/\(b.c.kd==[97,110,100])=false/\(b.c.kd==[111,114])=false/\(b.c.kd==[110,111,116])=false/\(b.c.kd==[104,121,115,116,101,114,101,115,105,115])=false/\(b.c.kd==[100,101,108,97,121])=false:=by rw[hkd];decide
 obtain⟨b0,o0,rfl,c0,el0,mk0,hc0,hcc⟩:=PtH.at k.c.p
 refine kX func209 x7 ntmps209 fun C hR hP hH hL=>?_
 have hR:=hR ()
 refine yB (hb.mono hH) 1 ⟨rfl,rfl⟩ rfl ?_
 refine zB 100 ?_
 simp only[go_sem,hks]
 refine Sm.dg 110 8 zi (vv ?_)
 refine DOpQ.own 120 (zg rfl rfl) (vv ?_)
 refine DOpQ.own 120 (zT rfl rfl rfl) (vv ?_)
 refine zF 120 (fun _=>zS (hH _ _ hc0) (hcc 7 _ rfl) rfl rfl rfl) (vv ?_)
 refine zF 120 (fun _=>xh (k.c.t.mono hH) rfl rfl rfl) ?_
 generalize yG d.tys b.c.ty=t at*
 simp only[go_sem,e0,e1,e2,e3,e4,e5,e6,e7,e8,e9,e10,e11,e12,e13,e14,e15,e16,e17,e18,e19,hks]
 refine CallQ.ren [(1,101),(2,102),(3,120),(4,1),(5,2)] 140 (xv [r0,r1] [a0,a1] t 0 z9 z9 z9 z9) (zD rfl) rfl rfl ?_ rfl (.inr rfl) ?_
 ·exact⟨⟨_,rfl,.inr ⟨rfl,[],rfl⟩⟩,⟨_,rfl,.inr ⟨rfl,[],rfl⟩⟩,⟨_,rfl,.inr ⟨rfl,[],rfl⟩⟩,oS,oS,trivial⟩
 refine vv ?_
 refine CallQ.ren [(1,101),(2,102),(3,120),(4,1),(5,2)] 150 (xv [r0,r1] [a0,a1] t 1 z9 z9 z9 z9) (zD rfl) rfl rfl ?_ rfl (.inr rfl) ?_
 ·exact⟨⟨_,rfl,.inr ⟨rfl,[],rfl⟩⟩,⟨_,rfl,.inr ⟨rfl,[],rfl⟩⟩,⟨_,rfl,.inr ⟨rfl,[],rfl⟩⟩,oS,oS,trivial⟩
 refine vv ?_
 exact yN (hR C hL trivial) hM
theorem fH {H:Hp}{cp:Value}{d:DgL}{bT bC' bM bS:Nat}(k:Ck H cp d bT bC' bM bS)(b:BlL)(hb:b.ok H)(hkd:b.c.kd=[108,105,109,105,116])(r0:Int×Int)(a0:Ft)(k0 k1:Int)(hks:b.c.ks=[k0,k1])(pr tb:Int×Int):yE H cp d b [r0] [a0] pr tb:=by
 have hv:yT (yG d.tys b.c.ty) b.c [r0] [a0] pr tb=yT (yG d.tys b.c.ty) {b.c with kd:=[108,105,109,105,116],ks:=[k0,k1]} [r0] [a0] pr tb:=by rw[<-hkd,<-hks]
 unfold yE;rw[hv]
 have hM:ClM (vJ [r0] [a0]):=zD rfl
 unfold vJ at hM⊢
 simp only[zj,zz,Ky,Kz,JF,JG,JK,ya,xN]at hM⊢
 obtain⟨e0,e1,e2,e3,e4,e5,e6,e7,e8,e9,e10,e11,e12,e13,e14,e15,e16,e17,e18,e19⟩:(b.c.kd==[99,111,110,115,116])=false/\(b.c.kd==[97,100,100])=false/\(b.c.kd==[115,117,98])=false/\(b.c.kd==[109,117,108])=false/\(b.c.kd==[100,105,118])=false/\(b.c.kd==[110,101,103])=false/\(b.c.kd==[99,111,110,118,101,114,116])=false/\(b.c.kd==[109,105,110])=false/\(b.c.kd==[109,97,120])=false/\(b.c.kd==[108,105,109,105,116])=true/\(b.c.kd==[99,117,114,118,101])=false/\(b.c.kd==[109,97,112])=false/\(b.c.kd==[115,119,105,116,99,104])=false/\(b.c.kd==[108,101,115,115])=false/\(b.c.kd==[101,113,117,97,108])=false/\(b.c.kd==[97,110,100])=false/\(b.c.kd==[111,114])=false/\(b.c.kd==[110,111,116])=false/\(b.c.kd==[104,121,115,116,101,114,101,115,105,115])=false/\(b.c.kd==[100,101,108,97,121])=false:=by rw[hkd];decide
 obtain⟨b0,o0,rfl,c0,el0,mk0,hc0,hcc⟩:=PtH.at k.c.p
 refine kX func209 x7 ntmps209 fun C hR hP hH hL=>?_
 have hR:=hR ()
 refine yB (hb.mono hH) 1 ⟨rfl,rfl⟩ rfl ?_
 refine zB 100 ?_
 simp only[go_sem,hks]
 refine Sm.dg 110 8 zi (vv ?_)
 refine DOpQ.own 120 (zg rfl rfl) (vv ?_)
 refine DOpQ.own 120 (zT rfl rfl rfl) (vv ?_)
 refine zF 120 (fun _=>zS (hH _ _ hc0) (hcc 7 _ rfl) rfl rfl rfl) (vv ?_)
 refine zF 120 (fun _=>xh (k.c.t.mono hH) rfl rfl rfl) ?_
 generalize yG d.tys b.c.ty=t at*
 simp only[go_sem,e0,e1,e2,e3,e4,e5,e6,e7,e8,e9,e10,e11,e12,e13,e14,e15,e16,e17,e18,e19,hks]
 refine Sm.dg 130 10 zi ?_
 simp only[go_sem,hks]
 refine DCallQ.ren [(1,101),(2,102),(3,120),(4,1),(5,2)] 140 (xv [r0] [a0] t 0 z9 z9 z9 z9) (zD rfl) rfl rfl ?_ rfl (.inr rfl) rfl rfl ?_
 ·exact⟨⟨_,rfl,.inr ⟨rfl,[],rfl⟩⟩,⟨_,rfl,.inr ⟨rfl,[],rfl⟩⟩,⟨_,rfl,.inr ⟨rfl,[],rfl⟩⟩,oS,oS,trivial⟩
 simp only[go_sem,hks]
 refine CallQ.pure 150 (pN (pd [r0] [a0] t 0) k0 k1) rfl (vv ?_)
 exact yN (hR C hL trivial) hM
theorem ld {H:Hp}{cp:Value}{d:DgL}{bT bC' bM bS:Nat}(k:Ck H cp d bT bC' bM bS)(b:BlL)(hb:b.ok H)(hkd:b.c.kd=[99,111,110,118,101,114,116])(r0:Int×Int)(a0:Ft)(hks:b.c.ks=[])(pr tb:Int×Int):yE H cp d b [r0] [a0] pr tb:=by
 have hv:yT (yG d.tys b.c.ty) b.c [r0] [a0] pr tb=yT (yG d.tys b.c.ty) {b.c with kd:=[99,111,110,118,101,114,116],ks:=[]} [r0] [a0] pr tb:=by rw[<-hkd,<-hks]
 unfold yE;rw[hv]
 have hM:ClM (vJ [r0] [a0]):=zD rfl
 unfold vJ at hM⊢
 simp only[zj,zz,Ky,Kz,JF,JG,JK,ya,xN]at hM⊢
 obtain⟨e0,e1,e2,e3,e4,e5,e6,e7,e8,e9,e10,e11,e12,e13,e14,e15,e16,e17,e18,e19⟩:(b.c.kd==[99,111,110,115,116])=false/\(b.c.kd==[97,100,100])=false/\(b.c.kd==[115,117,98])=false/\(b.c.kd==[109,117,108])=false/\(b.c.kd==[100,105,118])=false/\(b.c.kd==[110,101,103])=false/\(b.c.kd==[99,111,110,118,101,114,116])=true/\(b.c.kd==[109,105,110])=false/\(b.c.kd==[109,97,120])=false/\(b.c.kd==[108,105,109,105,116])=false/\(b.c.kd==[99,117,114,118,101])=false/\(b.c.kd==[109,97,112])=false/\(b.c.kd==[115,119,105,116,99,104])=false/\(b.c.kd==[108,101,115,115])=false/\(b.c.kd==[101,113,117,97,108])=false/\(b.c.kd==[97,110,100])=false/\(b.c.kd==[111,114])=false/\(b.c.kd==[110,111,116])=false/\(b.c.kd==[104,121,115,116,101,114,101,115,105,115])=false/\(b.c.kd==[100,101,108,97,121])=false:=by rw[hkd];decide
 obtain⟨b0,o0,rfl,c0,el0,mk0,hc0,hcc⟩:=PtH.at k.c.p
 refine kX func209 x7 ntmps209 fun C hR hP hH hL=>?_
 have hR:=hR ()
 refine yB (hb.mono hH) 1 ⟨rfl,rfl⟩ rfl ?_
 refine zB 100 ?_
 simp only[go_sem,hks]
 refine Sm.dg 110 8 zi (vv ?_)
 refine DOpQ.own 120 (zg rfl rfl) (vv ?_)
 refine DOpQ.own 120 (zT rfl rfl rfl) (vv ?_)
 refine zF 120 (fun _=>zS (hH _ _ hc0) (hcc 7 _ rfl) rfl rfl rfl) (vv ?_)
 refine zF 120 (fun _=>xh (k.c.t.mono hH) rfl rfl rfl) ?_
 generalize yG d.tys b.c.ty=t at*
 simp only[go_sem,e0,e1,e2,e3,e4,e5,e6,e7,e8,e9,e10,e11,e12,e13,e14,e15,e16,e17,e18,e19,hks]
 refine CallQ.ren [(1,101),(2,102),(3,120),(4,1),(5,2)] 140 (xv [r0] [a0] t 0 z9 z9 z9 z9) (zD rfl) rfl rfl ?_ rfl (.inr rfl) ?_
 ·exact⟨⟨_,rfl,.inr ⟨rfl,[],rfl⟩⟩,⟨_,rfl,.inr ⟨rfl,[],rfl⟩⟩,⟨_,rfl,.inr ⟨rfl,[],rfl⟩⟩,oS,oS,trivial⟩
 refine vv ?_
 exact yN (hR C hL trivial) hM
theorem fK {H:Hp}{cp:Value}{d:DgL}{bT bC' bM bS:Nat}(k:Ck H cp d bT bC' bM bS)(b:BlL)(hb:b.ok H)(hkd:b.c.kd=[99,117,114,118,101])(r0:Int×Int)(a0:Ft)(hks:b.c.ks=[])(pr tb:Int×Int)(hT:CallX H Tryz.prog 256 [.c (.v cp),z3 b.r,.c (.sl 1 0 1 2)] [(1,⟨true,zC ([r0].map ya),129⟩)] (fun _:Unit=>rA tb) (fun _=>[]) (fun _ _=>True)):yE H cp d b [r0] [a0] pr tb:=by
 have hv:yT (yG d.tys b.c.ty) b.c [r0] [a0] pr tb=yT (yG d.tys b.c.ty) {b.c with kd:=[99,117,114,118,101],ks:=[]} [r0] [a0] pr tb:=by rw[<-hkd,<-hks]
 unfold yE;rw[hv]
 have hM:ClM (vJ [r0] [a0]):=zD rfl
 unfold vJ at hM⊢
 simp only[zj,zz,Ky,Kz,JF,JG,JK,ya,xN]at hM⊢
 obtain⟨e0,e1,e2,e3,e4,e5,e6,e7,e8,e9,e10,e11,e12,e13,e14,e15,e16,e17,e18,e19⟩:(b.c.kd==[99,111,110,115,116])=false/\(b.c.kd==[97,100,100])=false/\(b.c.kd==[115,117,98])=false/\(b.c.kd==[109,117,108])=false/\(b.c.kd==[100,105,118])=false/\(b.c.kd==[110,101,103])=false/\(b.c.kd==[99,111,110,118,101,114,116])=false/\(b.c.kd==[109,105,110])=false/\(b.c.kd==[109,97,120])=false/\(b.c.kd==[108,105,109,105,116])=false/\(b.c.kd==[99,117,114,118,101])=true/\(b.c.kd==[109,97,112])=false/\(b.c.kd==[115,119,105,116,99,104])=false/\(b.c.kd==[108,101,115,115])=false/\(b.c.kd==[101,113,117,97,108])=false/\(b.c.kd==[97,110,100])=false/\(b.c.kd==[111,114])=false/\(b.c.kd==[110,111,116])=false/\(b.c.kd==[104,121,115,116,101,114,101,115,105,115])=false/\(b.c.kd==[100,101,108,97,121])=false:=by rw[hkd];decide
 obtain⟨b0,o0,rfl,c0,el0,mk0,hc0,hcc⟩:=PtH.at k.c.p
 refine kX func209 x7 ntmps209 fun C hR hP hH hL=>?_
 have hR:=hR ()
 refine zB 100 (vv ?_)
 refine Sm.dg 110 8 zi (vv ?_)
 refine DOpQ.own 120 (zg rfl rfl) (vv ?_)
 refine DOpQ.own 120 (zT rfl rfl rfl) (vv ?_)
 refine zF 120 (fun _=>zS (hH _ _ hc0) (hcc 7 _ rfl) rfl rfl rfl) (vv ?_)
 refine zF 120 (fun _=>xh (k.c.t.mono hH) rfl rfl rfl) ?_
 generalize yG d.tys b.c.ty=t at*
 simp only[go_sem,e0,e1,e2,e3,e4,e5,e6,e7,e8,e9,e10,e11,e12,e13,e14,e15,e16,e17,e18,e19]
 refine CallQ.hr [(1,1)] 140 hT hH (zD rfl) rfl rfl ⟨oS,trivial⟩ rfl (.inl rfl) (vv ?_)
 exact yN (hR C hL trivial) hM
theorem ZL {H:Hp}{cp:Value}{d:DgL}{bT bC' bM bS:Nat}(k:Ck H cp d bT bC' bM bS)(b:BlL)(hb:b.ok H)(hkd:b.c.kd=[109,97,112])(r0 r1:Int×Int)(a0 a1:Ft)(hks:b.c.ks=[])(pr tb:Int×Int)(hT:CallX H Tryz.prog 256 [.c (.v cp),z3 b.r,.c (.sl 1 0 2 2)] [(1,⟨true,zC ([r0,r1].map ya),129⟩)] (fun _:Unit=>rA tb) (fun _=>[]) (fun _ _=>True)):yE H cp d b [r0,r1] [a0,a1] pr tb:=by
 have hv:yT (yG d.tys b.c.ty) b.c [r0,r1] [a0,a1] pr tb=yT (yG d.tys b.c.ty) {b.c with kd:=[109,97,112],ks:=[]} [r0,r1] [a0,a1] pr tb:=by rw[<-hkd,<-hks]
 unfold yE;rw[hv]
 have hM:ClM (vJ [r0,r1] [a0,a1]):=zD rfl
 unfold vJ at hM⊢
 simp only[zj,zz,Ky,Kz,JF,JG,JK,ya,xN]at hM⊢
 obtain⟨e0,e1,e2,e3,e4,e5,e6,e7,e8,e9,e10,e11,e12,e13,e14,e15,e16,e17,e18,e19⟩:(b.c.kd==[99,111,110,115,116])=false/\(b.c.kd==[97,100,100])=false/\(b.c.kd==[115,117,98])=false/\(b.c.kd==[109,117,108])=false/\(b.c.kd==[100,105,118])=false/\(b.c.kd==[110,101,103])=false/\(b.c.kd==[99,111,110,118,101,114,116])=false/\(b.c.kd==[109,105,110])=false/\(b.c.kd==[109,97,120])=false/\(b.c.kd==[108,105,109,105,116])=false/\(b.c.kd==[99,117,114,118,101])=false/\(b.c.kd==[109,97,112])=true/\(b.c.kd==[115,119,105,116,99,104])=false/\(b.c.kd==[108,101,115,115])=false/\(b.c.kd==[101,113,117,97,108])=false/\(b.c.kd==[97,110,100])=false/\(b.c.kd==[111,114])=false/\(b.c.kd==[110,111,116])=false/\(b.c.kd==[104,121,115,116,101,114,101,115,105,115])=false/\(b.c.kd==[100,101,108,97,121])=false:=by rw[hkd];decide
 obtain⟨b0,o0,rfl,c0,el0,mk0,hc0,hcc⟩:=PtH.at k.c.p
 refine kX func209 x7 ntmps209 fun C hR hP hH hL=>?_
 have hR:=hR ()
 refine zB 100 (vv ?_)
 refine Sm.dg 110 8 zi (vv ?_)
 refine DOpQ.own 120 (zg rfl rfl) (vv ?_)
 refine DOpQ.own 120 (zT rfl rfl rfl) (vv ?_)
 refine zF 120 (fun _=>zS (hH _ _ hc0) (hcc 7 _ rfl) rfl rfl rfl) (vv ?_)
 refine zF 120 (fun _=>xh (k.c.t.mono hH) rfl rfl rfl) ?_
 generalize yG d.tys b.c.ty=t at*
 simp only[go_sem,e0,e1,e2,e3,e4,e5,e6,e7,e8,e9,e10,e11,e12,e13,e14,e15,e16,e17,e18,e19]
 refine CallQ.hr [(1,1)] 140 hT hH (zD rfl) rfl rfl ⟨oS,trivial⟩ rfl (.inl rfl) (vv ?_)
 exact yN (hR C hL trivial) hM
theorem fJ {H:Hp}{cp:Value}{d:DgL}{bT bC' bM bS:Nat}(k:Ck H cp d bT bC' bM bS)(b:BlL)(hb:b.ok H)(hkd:b.c.kd=[100,101,108,97,121])(r0:Int×Int)(a0:Ft)(k0:Int)(hks:b.c.ks=[k0])(pr tb:Int×Int):yE H cp d b [r0] [a0] pr tb:=by
 have hv:yT (yG d.tys b.c.ty) b.c [r0] [a0] pr tb=yT (yG d.tys b.c.ty) {b.c with kd:=[100,101,108,97,121],ks:=[k0]} [r0] [a0] pr tb:=by rw[<-hkd,<-hks]
 unfold yE;rw[hv]
 have hM:ClM (vJ [r0] [a0]):=zD rfl
 unfold vJ at hM⊢
 simp only[zj,zz,Ky,Kz,JF,JG,JK,ya,xN]at hM⊢
 obtain⟨e0,e1,e2,e3,e4,e5,e6,e7,e8,e9,e10,e11,e12,e13,e14,e15,e16,e17,e18,e19⟩:(b.c.kd==[99,111,110,115,116])=false/\(b.c.kd==[97,100,100])=false/\(b.c.kd==[115,117,98])=false/\(b.c.kd==[109,117,108])=false/\(b.c.kd==[100,105,118])=false/\(b.c.kd==[110,101,103])=false/\(b.c.kd==[99,111,110,118,101,114,116])=false/\(b.c.kd==[109,105,110])=false/\(b.c.kd==[109,97,120])=false/\(b.c.kd==[108,105,109,105,116])=false/\(b.c.kd==[99,117,114,118,101])=false/\(b.c.kd==[109,97,112])=false/\(b.c.kd==[115,119,105,116,99,104])=false/\(b.c.kd==[108,101,115,115])=false/\(b.c.kd==[101,113,117,97,108])=false/\(b.c.kd==[97,110,100])=false/\(b.c.kd==[111,114])=false/\(b.c.kd==[110,111,116])=false/\(b.c.kd==[104,121,115,116,101,114,101,115,105,115])=false/\(b.c.kd==[100,101,108,97,121])=true:=by rw[hkd];decide
 obtain⟨b0,o0,rfl,c0,el0,mk0,hc0,hcc⟩:=PtH.at k.c.p
 refine kX func209 x7 ntmps209 fun C hR hP hH hL=>?_
 have hR:=hR ()
 refine yB (hb.mono hH) 1 ⟨rfl,rfl⟩ rfl ?_
 refine zB 100 ?_
 simp only[go_sem,hks]
 refine Sm.dg 110 8 zi (vv ?_)
 refine DOpQ.own 120 (zg rfl rfl) (vv ?_)
 refine DOpQ.own 120 (zT rfl rfl rfl) (vv ?_)
 refine zF 120 (fun _=>zS (hH _ _ hc0) (hcc 7 _ rfl) rfl rfl rfl) (vv ?_)
 refine zF 120 (fun _=>xh (k.c.t.mono hH) rfl rfl rfl) ?_
 generalize yG d.tys b.c.ty=t at*
 simp only[go_sem,e0,e1,e2,e3,e4,e5,e6,e7,e8,e9,e10,e11,e12,e13,e14,e15,e16,e17,e18,e19,hks]
 exact yN (hR C hL trivial) hM
theorem ZM {H:Hp}{cp:Value}{d:DgL}{bT bC' bM bS:Nat}(k:Ck H cp d bT bC' bM bS)(b:BlL)(hb:b.ok H)(hkd:b.c.kd=[108,97,103])(r0:Int×Int)(a0:Ft)(k0:Int)(hks:b.c.ks=[k0])(pr tb:Int×Int):yE H cp d b [r0] [a0] pr tb:=by
 have hv:yT (yG d.tys b.c.ty) b.c [r0] [a0] pr tb=yT (yG d.tys b.c.ty) {b.c with kd:=[108,97,103],ks:=[k0]} [r0] [a0] pr tb:=by rw[<-hkd,<-hks]
 unfold yE;rw[hv]
 have hM:ClM (vJ [r0] [a0]):=zD rfl
 unfold vJ at hM⊢
 simp only[zj,zz,Ky,Kz,JF,JG,JK,ya,xN]at hM⊢
 obtain⟨e0,e1,e2,e3,e4,e5,e6,e7,e8,e9,e10,e11,e12,e13,e14,e15,e16,e17,e18,e19⟩:(b.c.kd==[99,111,110,115,116])=false/\(b.c.kd==[97,100,100])=false/\(b.c.kd==[115,117,98])=false/\(b.c.kd==[109,117,108])=false/\(b.c.kd==[100,105,118])=false/\(b.c.kd==[110,101,103])=false/\(b.c.kd==[99,111,110,118,101,114,116])=false/\(b.c.kd==[109,105,110])=false/\(b.c.kd==[109,97,120])=false/\(b.c.kd==[108,105,109,105,116])=false/\(b.c.kd==[99,117,114,118,101])=false/\(b.c.kd==[109,97,112])=false/\(b.c.kd==[115,119,105,116,99,104])=false/\(b.c.kd==[108,101,115,115])=false/\(b.c.kd==[101,113,117,97,108])=false/\(b.c.kd==[97,110,100])=false/\(b.c.kd==[111,114])=false/\(b.c.kd==[110,111,116])=false/\(b.c.kd==[104,121,115,116,101,114,101,115,105,115])=false/\(b.c.kd==[100,101,108,97,121])=false:=by rw[hkd];decide
 obtain⟨b0,o0,rfl,c0,el0,mk0,hc0,hcc⟩:=PtH.at k.c.p
 refine kX func209 x7 ntmps209 fun C hR hP hH hL=>?_
 have hR:=hR ()
 refine yB (hb.mono hH) 1 ⟨rfl,rfl⟩ rfl ?_
 refine zB 100 ?_
 simp only[go_sem,hks]
 refine Sm.dg 110 8 zi (vv ?_)
 refine DOpQ.own 120 (zg rfl rfl) (vv ?_)
 refine DOpQ.own 120 (zT rfl rfl rfl) (vv ?_)
 refine zF 120 (fun _=>zS (hH _ _ hc0) (hcc 7 _ rfl) rfl rfl rfl) (vv ?_)
 refine zF 120 (fun _=>xh (k.c.t.mono hH) rfl rfl rfl) ?_
 generalize yG d.tys b.c.ty=t at*
 simp only[go_sem,e0,e1,e2,e3,e4,e5,e6,e7,e8,e9,e10,e11,e12,e13,e14,e15,e16,e17,e18,e19,hks]
 refine Sm.dg 130 3 zi (vv ?_)
 refine DCallQ.ren [(1,101),(2,102),(3,120),(4,1),(5,2)] 140 (xv [r0] [a0] t 0 z9 z9 z9 z9) (zD rfl) rfl rfl ?_ rfl (.inr rfl) rfl rfl ?_
 ·exact⟨⟨_,rfl,.inr ⟨rfl,[],rfl⟩⟩,⟨_,rfl,.inr ⟨rfl,[],rfl⟩⟩,⟨_,rfl,.inr ⟨rfl,[],rfl⟩⟩,oS,oS,trivial⟩
 refine vv ?_
 refine CallQ.pure 150 (dV pr (pd [r0] [a0] t 0)) rfl (vv ?_)
 exact yN (hR C hL trivial) hM
theorem jb {H:Hp}{cp:Value}{d:DgL}{bT bC' bM bS:Nat}(k:Ck H cp d bT bC' bM bS)(b:BlL)(hb:b.ok H)(hkd:b.c.kd=[115,119,105,116,99,104])(r0 r1 r2:Int×Int)(a0 a1 a2:Ft)(hks:b.c.ks=[])(pr tb:Int×Int):yE H cp d b [r0,r1,r2] [a0,a1,a2] pr tb:=by
 have hv:yT (yG d.tys b.c.ty) b.c [r0,r1,r2] [a0,a1,a2] pr tb=yT (yG d.tys b.c.ty) {b.c with kd:=[115,119,105,116,99,104],ks:=[]} [r0,r1,r2] [a0,a1,a2] pr tb:=by rw[<-hkd,<-hks]
 unfold yE;rw[hv]
 have hM:ClM (vJ [r0,r1,r2] [a0,a1,a2]):=zD rfl
 unfold vJ at hM⊢
 simp only[zj,zz,Ky,Kz,JF,JG,JK,ya,xN]at hM⊢
 obtain⟨e0,e1,e2,e3,e4,e5,e6,e7,e8,e9,e10,e11,e12,e13,e14,e15,e16,e17,e18,e19⟩:(b.c.kd==[99,111,110,115,116])=false/\(b.c.kd==[97,100,100])=false/\(b.c.kd==[115,117,98])=false/\(b.c.kd==[109,117,108])=false/\(b.c.kd==[100,105,118])=false/\(b.c.kd==[110,101,103])=false/\(b.c.kd==[99,111,110,118,101,114,116])=false/\(b.c.kd==[109,105,110])=false/\(b.c.kd==[109,97,120])=false/\(b.c.kd==[108,105,109,105,116])=false/\(b.c.kd==[99,117,114,118,101])=false/\(b.c.kd==[109,97,112])=false/\(b.c.kd==[115,119,105,116,99,104])=true/\(b.c.kd==[108,101,115,115])=false/\(b.c.kd==[101,113,117,97,108])=false/\(b.c.kd==[97,110,100])=false/\(b.c.kd==[111,114])=false/\(b.c.kd==[110,111,116])=false/\(b.c.kd==[104,121,115,116,101,114,101,115,105,115])=false/\(b.c.kd==[100,101,108,97,121])=false:=by rw[hkd];decide
 obtain⟨b0,o0,rfl,c0,el0,mk0,hc0,hcc⟩:=PtH.at k.c.p
 refine kX func209 x7 ntmps209 fun C hR hP hH hL=>?_
 have hR:=hR ()
 refine yB (hb.mono hH) 1 ⟨rfl,rfl⟩ rfl ?_
 refine zB 100 ?_
 simp only[go_sem,hks]
 refine Sm.dg 110 8 zi (vv ?_)
 refine DOpQ.own 120 (zg rfl rfl) (vv ?_)
 refine DOpQ.own 120 (zT rfl rfl rfl) (vv ?_)
 refine zF 120 (fun _=>zS (hH _ _ hc0) (hcc 7 _ rfl) rfl rfl rfl) (vv ?_)
 refine zF 120 (fun _=>xh (k.c.t.mono hH) rfl rfl rfl) ?_
 generalize yG d.tys b.c.ty=t at*
 simp only[go_sem,e0,e1,e2,e3,e4,e5,e6,e7,e8,e9,e10,e11,e12,e13,e14,e15,e16,e17,e18,e19,hks]
 refine CallQ.pure 140 (gn r0) rfl (vv ?_)
 refine zV (fun h1=>?_) (fun h1=>?_)
 ·have h1:(!(xL r0).2)=true:=h1
  have hv2:yT t {b.c with kd:=[115,119,105,116,99,104],ks:=[]} [r0,r1,r2] [a0,a1,a2] pr tb=(pd [r0,r1,r2] [a0,a1,a2] t 1,0):=by show(bif !(xL r0).2 then pd [r0,r1,r2] [a0,a1,a2] t 1 else bif !(xL r0).1 then pd [r0,r1,r2] [a0,a1,a2] t 2 else sQ (pd [r0,r1,r2] [a0,a1,a2] t 1) (pd [r0,r1,r2] [a0,a1,a2] t 2),(0:Int))=_;rw[h1];rfl
  rw[hv2]at hR
  refine CallQ.ren [(1,101),(2,102),(3,120),(4,1),(5,2)] 150 (xv [r0,r1,r2] [a0,a1,a2] t 1 z9 z9 z9 z9) (zD rfl) rfl rfl ?_ rfl (.inr rfl) ?_
  ·exact⟨⟨_,rfl,.inr ⟨rfl,[],rfl⟩⟩,⟨_,rfl,.inr ⟨rfl,[],rfl⟩⟩,⟨_,rfl,.inr ⟨rfl,[],rfl⟩⟩,oS,oS,trivial⟩
  refine vv ?_
  exact yN (hR C hL trivial) hM
 have h1:(!(xL r0).2)=false:=h1
 refine zV (fun h2=>?_) (fun h2=>?_)
 ·have h2:(!(xL r0).1)=true:=h2
  have hv2:yT t {b.c with kd:=[115,119,105,116,99,104],ks:=[]} [r0,r1,r2] [a0,a1,a2] pr tb=(pd [r0,r1,r2] [a0,a1,a2] t 2,0):=by show(bif !(xL r0).2 then pd [r0,r1,r2] [a0,a1,a2] t 1 else bif !(xL r0).1 then pd [r0,r1,r2] [a0,a1,a2] t 2 else sQ (pd [r0,r1,r2] [a0,a1,a2] t 1) (pd [r0,r1,r2] [a0,a1,a2] t 2),(0:Int))=_;rw[h1,h2];rfl
  rw[hv2]at hR
  refine CallQ.ren [(1,101),(2,102),(3,120),(4,1),(5,2)] 150 (xv [r0,r1,r2] [a0,a1,a2] t 2 z9 z9 z9 z9) (zD rfl) rfl rfl ?_ rfl (.inr rfl) ?_
  ·exact⟨⟨_,rfl,.inr ⟨rfl,[],rfl⟩⟩,⟨_,rfl,.inr ⟨rfl,[],rfl⟩⟩,⟨_,rfl,.inr ⟨rfl,[],rfl⟩⟩,oS,oS,trivial⟩
  refine vv ?_
  exact yN (hR C hL trivial) hM
 have h2:(!(xL r0).1)=false:=h2
 have hv2:yT t {b.c with kd:=[115,119,105,116,99,104],ks:=[]} [r0,r1,r2] [a0,a1,a2] pr tb=(sQ (pd [r0,r1,r2] [a0,a1,a2] t 1) (pd [r0,r1,r2] [a0,a1,a2] t 2),0):=by show(bif !(xL r0).2 then pd [r0,r1,r2] [a0,a1,a2] t 1 else bif !(xL r0).1 then pd [r0,r1,r2] [a0,a1,a2] t 2 else sQ (pd [r0,r1,r2] [a0,a1,a2] t 1) (pd [r0,r1,r2] [a0,a1,a2] t 2),(0:Int))=_;rw[h1,h2];rfl
 rw[hv2]at hR
 refine CallQ.ren [(1,101),(2,102),(3,120),(4,1),(5,2)] 150 (xv [r0,r1,r2] [a0,a1,a2] t 1 z9 z9 z9 z9) (zD rfl) rfl rfl ?_ rfl (.inr rfl) ?_
 ·exact⟨⟨_,rfl,.inr ⟨rfl,[],rfl⟩⟩,⟨_,rfl,.inr ⟨rfl,[],rfl⟩⟩,⟨_,rfl,.inr ⟨rfl,[],rfl⟩⟩,oS,oS,trivial⟩
 refine vv ?_
 refine CallQ.ren [(1,101),(2,102),(3,120),(4,1),(5,2)] 160 (xv [r0,r1,r2] [a0,a1,a2] t 2 z9 z9 z9 z9) (zD rfl) rfl rfl ?_ rfl (.inr rfl) ?_
 ·exact⟨⟨_,rfl,.inr ⟨rfl,[],rfl⟩⟩,⟨_,rfl,.inr ⟨rfl,[],rfl⟩⟩,⟨_,rfl,.inr ⟨rfl,[],rfl⟩⟩,oS,oS,trivial⟩
 refine vv ?_
 refine CallQ.pure 170 (dV (pd [r0,r1,r2] [a0,a1,a2] t 1) (pd [r0,r1,r2] [a0,a1,a2] t 2)) rfl (vv ?_)
 exact yN (hR C hL trivial) hM
theorem cK {H:Hp}{cp:Value}{d:DgL}{bT bC' bM bS:Nat}(k:Ck H cp d bT bC' bM bS)(b:BlL)(hb:b.ok H)(hkd:b.c.kd=[108,101,115,115])(r0 r1:Int×Int)(a0 a1:Ft)(hks:b.c.ks=[])(pr tb:Int×Int):yE H cp d b [r0,r1] [a0,a1] pr tb:=by
 have hv:yT (yG d.tys b.c.ty) b.c [r0,r1] [a0,a1] pr tb=yT (yG d.tys b.c.ty) {b.c with kd:=[108,101,115,115],ks:=[]} [r0,r1] [a0,a1] pr tb:=by rw[<-hkd,<-hks]
 unfold yE;rw[hv]
 have hM:ClM (vJ [r0,r1] [a0,a1]):=zD rfl
 unfold vJ at hM⊢
 simp only[zj,zz,Ky,Kz,JF,JG,JK,ya,xN]at hM⊢
 obtain⟨e0,e1,e2,e3,e4,e5,e6,e7,e8,e9,e10,e11,e12,e13,e14,e15,e16,e17,e18,e19⟩:(b.c.kd==[99,111,110,115,116])=false/\(b.c.kd==[97,100,100])=false/\(b.c.kd==[115,117,98])=false/\(b.c.kd==[109,117,108])=false/\(b.c.kd==[100,105,118])=false/\(b.c.kd==[110,101,103])=false/\(b.c.kd==[99,111,110,118,101,114,116])=false/\(b.c.kd==[109,105,110])=false/\(b.c.kd==[109,97,120])=false/\(b.c.kd==[108,105,109,105,116])=false/\(b.c.kd==[99,117,114,118,101])=false/\(b.c.kd==[109,97,112])=false/\(b.c.kd==[115,119,105,116,99,104])=false/\(b.c.kd==[108,101,115,115])=true/\(b.c.kd==[101,113,117,97,108])=false/\(b.c.kd==[97,110,100])=false/\(b.c.kd==[111,114])=false/\(b.c.kd==[110,111,116])=false/\(b.c.kd==[104,121,115,116,101,114,101,115,105,115])=false/\(b.c.kd==[100,101,108,97,121])=false:=by rw[hkd];decide
 obtain⟨b0,o0,rfl,c0,el0,mk0,hc0,hcc⟩:=PtH.at k.c.p
 refine kX func209 x7 ntmps209 fun C hR hP hH hL=>?_
 have hR:=hR ()
 refine yB (hb.mono hH) 1 ⟨rfl,rfl⟩ rfl ?_
 refine zB 100 ?_
 simp only[go_sem,hks]
 refine Sm.dg 110 8 zi (vv ?_)
 refine DOpQ.own 120 (zg rfl rfl) (vv ?_)
 refine DOpQ.own 120 (zT rfl rfl rfl) (vv ?_)
 refine zF 120 (fun _=>zS (hH _ _ hc0) (hcc 7 _ rfl) rfl rfl rfl) (vv ?_)
 refine zF 120 (fun _=>xh (k.c.t.mono hH) rfl rfl rfl) ?_
 generalize yG d.tys b.c.ty=t at*
 simp only[go_sem,e0,e1,e2,e3,e4,e5,e6,e7,e8,e9,e10,e11,e12,e13,e14,e15,e16,e17,e18,e19,hks]
 refine Sm.dg 130 14 zi (vv ?_)
 refine CallQ.pure 140 (ov b.c.kd r0 r1 a0 a1) rfl ?_
 simp only[go_sem,hkd]
 exact yN (hR C hL trivial) hM
theorem fI {H:Hp}{cp:Value}{d:DgL}{bT bC' bM bS:Nat}(k:Ck H cp d bT bC' bM bS)(b:BlL)(hb:b.ok H)(hkd:b.c.kd=[101,113,117,97,108])(r0 r1:Int×Int)(a0 a1:Ft)(hks:b.c.ks=[])(pr tb:Int×Int):yE H cp d b [r0,r1] [a0,a1] pr tb:=by
 have hv:yT (yG d.tys b.c.ty) b.c [r0,r1] [a0,a1] pr tb=yT (yG d.tys b.c.ty) {b.c with kd:=[101,113,117,97,108],ks:=[]} [r0,r1] [a0,a1] pr tb:=by rw[<-hkd,<-hks]
 unfold yE;rw[hv]
 have hM:ClM (vJ [r0,r1] [a0,a1]):=zD rfl
 unfold vJ at hM⊢
 simp only[zj,zz,Ky,Kz,JF,JG,JK,ya,xN]at hM⊢
 obtain⟨e0,e1,e2,e3,e4,e5,e6,e7,e8,e9,e10,e11,e12,e13,e14,e15,e16,e17,e18,e19⟩:(b.c.kd==[99,111,110,115,116])=false/\(b.c.kd==[97,100,100])=false/\(b.c.kd==[115,117,98])=false/\(b.c.kd==[109,117,108])=false/\(b.c.kd==[100,105,118])=false/\(b.c.kd==[110,101,103])=false/\(b.c.kd==[99,111,110,118,101,114,116])=false/\(b.c.kd==[109,105,110])=false/\(b.c.kd==[109,97,120])=false/\(b.c.kd==[108,105,109,105,116])=false/\(b.c.kd==[99,117,114,118,101])=false/\(b.c.kd==[109,97,112])=false/\(b.c.kd==[115,119,105,116,99,104])=false/\(b.c.kd==[108,101,115,115])=false/\(b.c.kd==[101,113,117,97,108])=true/\(b.c.kd==[97,110,100])=false/\(b.c.kd==[111,114])=false/\(b.c.kd==[110,111,116])=false/\(b.c.kd==[104,121,115,116,101,114,101,115,105,115])=false/\(b.c.kd==[100,101,108,97,121])=false:=by rw[hkd];decide
 obtain⟨b0,o0,rfl,c0,el0,mk0,hc0,hcc⟩:=PtH.at k.c.p
 refine kX func209 x7 ntmps209 fun C hR hP hH hL=>?_
 have hR:=hR ()
 refine yB (hb.mono hH) 1 ⟨rfl,rfl⟩ rfl ?_
 refine zB 100 ?_
 simp only[go_sem,hks]
 refine Sm.dg 110 8 zi (vv ?_)
 refine DOpQ.own 120 (zg rfl rfl) (vv ?_)
 refine DOpQ.own 120 (zT rfl rfl rfl) (vv ?_)
 refine zF 120 (fun _=>zS (hH _ _ hc0) (hcc 7 _ rfl) rfl rfl rfl) (vv ?_)
 refine zF 120 (fun _=>xh (k.c.t.mono hH) rfl rfl rfl) ?_
 generalize yG d.tys b.c.ty=t at*
 simp only[go_sem,e0,e1,e2,e3,e4,e5,e6,e7,e8,e9,e10,e11,e12,e13,e14,e15,e16,e17,e18,e19,hks]
 refine Sm.dg 130 14 zi (vv ?_)
 refine CallQ.pure 140 (ov b.c.kd r0 r1 a0 a1) rfl ?_
 simp only[go_sem,hkd]
 exact yN (hR C hL trivial) hM
theorem ZO {H:Hp}{cp:Value}{d:DgL}{bT bC' bM bS:Nat}(k:Ck H cp d bT bC' bM bS)(b:BlL)(hb:b.ok H)(hkd:b.c.kd=[97,110,100])(r0 r1:Int×Int)(a0 a1:Ft)(hks:b.c.ks=[])(pr tb:Int×Int):yE H cp d b [r0,r1] [a0,a1] pr tb:=by
 have hv:yT (yG d.tys b.c.ty) b.c [r0,r1] [a0,a1] pr tb=yT (yG d.tys b.c.ty) {b.c with kd:=[97,110,100],ks:=[]} [r0,r1] [a0,a1] pr tb:=by rw[<-hkd,<-hks]
 unfold yE;rw[hv]
 have hM:ClM (vJ [r0,r1] [a0,a1]):=zD rfl
 unfold vJ at hM⊢
 simp only[zj,zz,Ky,Kz,JF,JG,JK,ya,xN]at hM⊢
 obtain⟨e0,e1,e2,e3,e4,e5,e6,e7,e8,e9,e10,e11,e12,e13,e14,e15,e16,e17,e18,e19⟩:(b.c.kd==[99,111,110,115,116])=false/\(b.c.kd==[97,100,100])=false/\(b.c.kd==[115,117,98])=false/\(b.c.kd==[109,117,108])=false/\(b.c.kd==[100,105,118])=false/\(b.c.kd==[110,101,103])=false/\(b.c.kd==[99,111,110,118,101,114,116])=false/\(b.c.kd==[109,105,110])=false/\(b.c.kd==[109,97,120])=false/\(b.c.kd==[108,105,109,105,116])=false/\(b.c.kd==[99,117,114,118,101])=false/\(b.c.kd==[109,97,112])=false/\(b.c.kd==[115,119,105,116,99,104])=false/\(b.c.kd==[108,101,115,115])=false/\(b.c.kd==[101,113,117,97,108])=false/\(b.c.kd==[97,110,100])=true/\(b.c.kd==[111,114])=false/\(b.c.kd==[110,111,116])=false/\(b.c.kd==[104,121,115,116,101,114,101,115,105,115])=false/\(b.c.kd==[100,101,108,97,121])=false:=by rw[hkd];decide
 obtain⟨b0,o0,rfl,c0,el0,mk0,hc0,hcc⟩:=PtH.at k.c.p
 refine kX func209 x7 ntmps209 fun C hR hP hH hL=>?_
 have hR:=hR ()
 refine yB (hb.mono hH) 1 ⟨rfl,rfl⟩ rfl ?_
 refine zB 100 ?_
 simp only[go_sem,hks]
 refine Sm.dg 110 8 zi (vv ?_)
 refine DOpQ.own 120 (zg rfl rfl) (vv ?_)
 refine DOpQ.own 120 (zT rfl rfl rfl) (vv ?_)
 refine zF 120 (fun _=>zS (hH _ _ hc0) (hcc 7 _ rfl) rfl rfl rfl) (vv ?_)
 refine zF 120 (fun _=>xh (k.c.t.mono hH) rfl rfl rfl) ?_
 generalize yG d.tys b.c.ty=t at*
 simp only[go_sem,e0,e1,e2,e3,e4,e5,e6,e7,e8,e9,e10,e11,e12,e13,e14,e15,e16,e17,e18,e19,hks]
 rw[hkd]
 refine CallQ.ren [(1,1)] 140 (X4 r0 r1) (zD rfl) rfl rfl ⟨oS,trivial⟩ rfl (.inr rfl) (vv ?_)
 exact yN (hR C hL trivial) hM
theorem WQ {H:Hp}{cp:Value}{d:DgL}{bT bC' bM bS:Nat}(k:Ck H cp d bT bC' bM bS)(b:BlL)(hb:b.ok H)(hkd:b.c.kd=[111,114])(r0 r1:Int×Int)(a0 a1:Ft)(hks:b.c.ks=[])(pr tb:Int×Int):yE H cp d b [r0,r1] [a0,a1] pr tb:=by
 have hv:yT (yG d.tys b.c.ty) b.c [r0,r1] [a0,a1] pr tb=yT (yG d.tys b.c.ty) {b.c with kd:=[111,114],ks:=[]} [r0,r1] [a0,a1] pr tb:=by rw[<-hkd,<-hks]
 unfold yE;rw[hv]
 have hM:ClM (vJ [r0,r1] [a0,a1]):=zD rfl
 unfold vJ at hM⊢
 simp only[zj,zz,Ky,Kz,JF,JG,JK,ya,xN]at hM⊢
 obtain⟨e0,e1,e2,e3,e4,e5,e6,e7,e8,e9,e10,e11,e12,e13,e14,e15,e16,e17,e18,e19⟩:(b.c.kd==[99,111,110,115,116])=false/\(b.c.kd==[97,100,100])=false/\(b.c.kd==[115,117,98])=false/\(b.c.kd==[109,117,108])=false/\(b.c.kd==[100,105,118])=false/\(b.c.kd==[110,101,103])=false/\(b.c.kd==[99,111,110,118,101,114,116])=false/\(b.c.kd==[109,105,110])=false/\(b.c.kd==[109,97,120])=false/\(b.c.kd==[108,105,109,105,116])=false/\(b.c.kd==[99,117,114,118,101])=false/\(b.c.kd==[109,97,112])=false/\(b.c.kd==[115,119,105,116,99,104])=false/\(b.c.kd==[108,101,115,115])=false/\(b.c.kd==[101,113,117,97,108])=false/\(b.c.kd==[97,110,100])=false/\(b.c.kd==[111,114])=true/\(b.c.kd==[110,111,116])=false/\(b.c.kd==[104,121,115,116,101,114,101,115,105,115])=false/\(b.c.kd==[100,101,108,97,121])=false:=by rw[hkd];decide
 obtain⟨b0,o0,rfl,c0,el0,mk0,hc0,hcc⟩:=PtH.at k.c.p
 refine kX func209 x7 ntmps209 fun C hR hP hH hL=>?_
 have hR:=hR ()
 refine yB (hb.mono hH) 1 ⟨rfl,rfl⟩ rfl ?_
 refine zB 100 ?_
 simp only[go_sem,hks]
 refine Sm.dg 110 8 zi (vv ?_)
 refine DOpQ.own 120 (zg rfl rfl) (vv ?_)
 refine DOpQ.own 120 (zT rfl rfl rfl) (vv ?_)
 refine zF 120 (fun _=>zS (hH _ _ hc0) (hcc 7 _ rfl) rfl rfl rfl) (vv ?_)
 refine zF 120 (fun _=>xh (k.c.t.mono hH) rfl rfl rfl) ?_
 generalize yG d.tys b.c.ty=t at*
 simp only[go_sem,e0,e1,e2,e3,e4,e5,e6,e7,e8,e9,e10,e11,e12,e13,e14,e15,e16,e17,e18,e19,hks]
 rw[hkd]
 refine CallQ.ren [(1,1)] 140 (X3 r0 r1) (zD rfl) rfl rfl ⟨oS,trivial⟩ rfl (.inr rfl) (vv ?_)
 exact yN (hR C hL trivial) hM
theorem ZG {H:Hp}{cp:Value}{d:DgL}{bT bC' bM bS:Nat}(k:Ck H cp d bT bC' bM bS)(b:BlL)(hb:b.ok H)(hkd:b.c.kd=[110,111,116])(r0:Int×Int)(a0:Ft)(hks:b.c.ks=[])(pr tb:Int×Int):yE H cp d b [r0] [a0] pr tb:=by
 have hv:yT (yG d.tys b.c.ty) b.c [r0] [a0] pr tb=yT (yG d.tys b.c.ty) {b.c with kd:=[110,111,116],ks:=[]} [r0] [a0] pr tb:=by rw[<-hkd,<-hks]
 unfold yE;rw[hv]
 have hM:ClM (vJ [r0] [a0]):=zD rfl
 unfold vJ at hM⊢
 simp only[zj,zz,Ky,Kz,JF,JG,JK,ya,xN]at hM⊢
 obtain⟨e0,e1,e2,e3,e4,e5,e6,e7,e8,e9,e10,e11,e12,e13,e14,e15,e16,e17,e18,e19⟩:(b.c.kd==[99,111,110,115,116])=false/\(b.c.kd==[97,100,100])=false/\(b.c.kd==[115,117,98])=false/\(b.c.kd==[109,117,108])=false/\(b.c.kd==[100,105,118])=false/\(b.c.kd==[110,101,103])=false/\(b.c.kd==[99,111,110,118,101,114,116])=false/\(b.c.kd==[109,105,110])=false/\(b.c.kd==[109,97,120])=false/\(b.c.kd==[108,105,109,105,116])=false/\(b.c.kd==[99,117,114,118,101])=false/\(b.c.kd==[109,97,112])=false/\(b.c.kd==[115,119,105,116,99,104])=false/\(b.c.kd==[108,101,115,115])=false/\(b.c.kd==[101,113,117,97,108])=false/\(b.c.kd==[97,110,100])=false/\(b.c.kd==[111,114])=false/\(b.c.kd==[110,111,116])=true/\(b.c.kd==[104,121,115,116,101,114,101,115,105,115])=false/\(b.c.kd==[100,101,108,97,121])=false:=by rw[hkd];decide
 obtain⟨b0,o0,rfl,c0,el0,mk0,hc0,hcc⟩:=PtH.at k.c.p
 refine kX func209 x7 ntmps209 fun C hR hP hH hL=>?_
 have hR:=hR ()
 refine yB (hb.mono hH) 1 ⟨rfl,rfl⟩ rfl ?_
 refine zB 100 ?_
 simp only[go_sem,hks]
 refine Sm.dg 110 8 zi (vv ?_)
 refine DOpQ.own 120 (zg rfl rfl) (vv ?_)
 refine DOpQ.own 120 (zT rfl rfl rfl) (vv ?_)
 refine zF 120 (fun _=>zS (hH _ _ hc0) (hcc 7 _ rfl) rfl rfl rfl) (vv ?_)
 refine zF 120 (fun _=>xh (k.c.t.mono hH) rfl rfl rfl) ?_
 generalize yG d.tys b.c.ty=t at*
 simp only[go_sem,e0,e1,e2,e3,e4,e5,e6,e7,e8,e9,e10,e11,e12,e13,e14,e15,e16,e17,e18,e19,hks]
 rw[hkd]
 refine CallQ.ren [(1,1)] 140 (X5 r0) (zD rfl) rfl rfl ⟨oS,trivial⟩ rfl (.inr rfl) (vv ?_)
 exact yN (hR C hL trivial) hM
theorem pi {H:Hp}{cp:Value}{d:DgL}{bT bC' bM bS:Nat}(k:Ck H cp d bT bC' bM bS)(b:BlL)(hb:b.ok H)(hkd:b.c.kd=[104,121,115,116,101,114,101,115,105,115])(r0:Int×Int)(a0:Ft)(k0 k1:Int)(hks:b.c.ks=[k0,k1])(pr tb:Int×Int):yE H cp d b [r0] [a0] pr tb:=by
 have hv:yT (yG d.tys b.c.ty) b.c [r0] [a0] pr tb=yT (yG d.tys b.c.ty) {b.c with kd:=[104,121,115,116,101,114,101,115,105,115],ks:=[k0,k1]} [r0] [a0] pr tb:=by rw[<-hkd,<-hks]
 unfold yE;rw[hv]
 have hM:ClM (vJ [r0] [a0]):=zD rfl
 unfold vJ at hM⊢
 simp only[zj,zz,Ky,Kz,JF,JG,JK,ya,xN]at hM⊢
 obtain⟨e0,e1,e2,e3,e4,e5,e6,e7,e8,e9,e10,e11,e12,e13,e14,e15,e16,e17,e18,e19⟩:(b.c.kd==[99,111,110,115,116])=false/\(b.c.kd==[97,100,100])=false/\(b.c.kd==[115,117,98])=false/\(b.c.kd==[109,117,108])=false/\(b.c.kd==[100,105,118])=false/\(b.c.kd==[110,101,103])=false/\(b.c.kd==[99,111,110,118,101,114,116])=false/\(b.c.kd==[109,105,110])=false/\(b.c.kd==[109,97,120])=false/\(b.c.kd==[108,105,109,105,116])=false/\(b.c.kd==[99,117,114,118,101])=false/\(b.c.kd==[109,97,112])=false/\(b.c.kd==[115,119,105,116,99,104])=false/\(b.c.kd==[108,101,115,115])=false/\(b.c.kd==[101,113,117,97,108])=false/\(b.c.kd==[97,110,100])=false/\(b.c.kd==[111,114])=false/\(b.c.kd==[110,111,116])=false/\(b.c.kd==[104,121,115,116,101,114,101,115,105,115])=true/\(b.c.kd==[100,101,108,97,121])=false:=by rw[hkd];decide
 obtain⟨b0,o0,rfl,c0,el0,mk0,hc0,hcc⟩:=PtH.at k.c.p
 refine kX func209 x7 ntmps209 fun C hR hP hH hL=>?_
 have hR:=hR ()
 refine yB (hb.mono hH) 1 ⟨rfl,rfl⟩ rfl ?_
 refine zB 100 ?_
 simp only[go_sem,hks]
 refine Sm.dg 110 8 zi (vv ?_)
 refine DOpQ.own 120 (zg rfl rfl) (vv ?_)
 refine DOpQ.own 120 (zT rfl rfl rfl) (vv ?_)
 refine zF 120 (fun _=>zS (hH _ _ hc0) (hcc 7 _ rfl) rfl rfl rfl) (vv ?_)
 refine zF 120 (fun _=>xh (k.c.t.mono hH) rfl rfl rfl) ?_
 generalize yG d.tys b.c.ty=t at*
 simp only[go_sem,e0,e1,e2,e3,e4,e5,e6,e7,e8,e9,e10,e11,e12,e13,e14,e15,e16,e17,e18,e19,hks]
 refine Sm.dg 130 18 zi ?_
 simp only[go_sem,hks]
 refine CallQ.pure 140 (sw (decide (k1<=r0.2)) (decide (r0.1<k1))) rfl (vv ?_)
 exact yN (hR C hL trivial) hM
theorem mJ {α:Type}{l:List α}(h:l.length=0):l=[]:=JX.1 h
theorem oH {α:Type}{l:List α}(h:l.length=1):∃a,l=[a]:=by
 match l,h with
 |[a],_=>exact⟨a,rfl⟩
theorem qG {α:Type}{l:List α}(h:l.length=2):∃a b,l=[a,b]:=by
 match l,h with
 |[a,b],_=>exact⟨a,b,rfl⟩
theorem MY {α:Type}{l:List α}(h:l.length=3):∃a b c,l=[a,b,c]:=by
 match l,h with
 |[a,b,c],_=>exact⟨a,b,c,rfl⟩
theorem WP {H:Hp}{cp:Value}{d:DgL}{bT bC' bM bS:Nat}(k:Ck H cp d bT bC' bM bS)(b:BlL)(hb:b.ok H)(hok:xj b.c=true)(rs:List (Int×Int))(ts:List Ft)(h1:rs.length=b.c.ins.length)(h2:ts.length=b.c.ins.length)(pr tb:Int×Int)
  (hT:gZ b.c.kd=true->CallX H Tryz.prog 256 [.c (.v cp),z3 b.r,.c (.sl 1 0 rs.length 2)] [(1,⟨true,zC (rs.map ya),129⟩)] (fun _:Unit=>rA tb) (fun _=>[]) (fun _ _=>True)):yE H cp d b rs ts pr tb:=by
 have hq:∃q,ym b.c.kd=some q:=by
  have h1:=hok
  unfold xj at h1
  cases hq:ym b.c.kd with
  |none=>rw[hq]at h1;cases h1
  |some q=>exact⟨q,rfl⟩
 obtain⟨q,hq⟩:=hq
 have hm:=vl hq
 have hlen:=fun kd (hk:b.c.kd=kd) a n t (hq:ym kd=some (a,n,t))=>xw hok (show(b.c.kd==kd)=true by rw[hk];simp) hq
 simp only[kindT,J3,IS,or_false,I3]at hm
 rcases hm with⟨hkd,rfl⟩|⟨hkd,rfl⟩|⟨hkd,rfl⟩|⟨hkd,rfl⟩|⟨hkd,rfl⟩|⟨hkd,rfl⟩|⟨hkd,rfl⟩|⟨hkd,rfl⟩|⟨hkd,rfl⟩|⟨hkd,rfl⟩|⟨hkd,rfl⟩|⟨hkd,rfl⟩|⟨hkd,rfl⟩|⟨hkd,rfl⟩|⟨hkd,rfl⟩|⟨hkd,rfl⟩|⟨hkd,rfl⟩|⟨hkd,rfl⟩|⟨hkd,rfl⟩|⟨hkd,rfl⟩|⟨hkd,rfl⟩
 ·-- const
  obtain⟨g1,g2⟩:=hlen _ hkd 0 1 0 rfl
  rw[g1]at h1 h2
  obtain rfl:=mJ h1
  obtain rfl:=mJ h2
  obtain⟨k0,hks⟩:=oH g2
  exact fL k b hb hkd k0 hks pr tb
 ·-- add
  obtain⟨g1,g2⟩:=hlen _ hkd 2 0 0 rfl
  rw[g1]at h1 h2
  obtain⟨r0,r1,rfl⟩:=qG h1
  obtain⟨a0,a1,rfl⟩:=qG h2
  have hks:=mJ g2
  exact ZP k b hb hkd r0 r1 a0 a1 hks pr tb
 ·-- sub
  obtain⟨g1,g2⟩:=hlen _ hkd 2 0 0 rfl
  rw[g1]at h1 h2
  obtain⟨r0,r1,rfl⟩:=qG h1
  obtain⟨a0,a1,rfl⟩:=qG h2
  have hks:=mJ g2
  exact ZF k b hb hkd r0 r1 a0 a1 hks pr tb
 ·-- mul
  obtain⟨g1,g2⟩:=hlen _ hkd 2 0 0 rfl
  rw[g1]at h1 h2
  obtain⟨r0,r1,rfl⟩:=qG h1
  obtain⟨a0,a1,rfl⟩:=qG h2
  have hks:=mJ g2
  exact ZI k b hb hkd r0 r1 a0 a1 hks pr tb
 ·-- div
  obtain⟨g1,g2⟩:=hlen _ hkd 2 0 0 rfl
  rw[g1]at h1 h2
  obtain⟨r0,r1,rfl⟩:=qG h1
  obtain⟨a0,a1,rfl⟩:=qG h2
  have hks:=mJ g2
  exact ZN k b hb hkd r0 r1 a0 a1 hks pr tb
 ·-- neg
  obtain⟨g1,g2⟩:=hlen _ hkd 1 0 0 rfl
  rw[g1]at h1 h2
  obtain⟨r0,rfl⟩:=oH h1
  obtain⟨a0,rfl⟩:=oH h2
  have hks:=mJ g2
  exact ZH k b hb hkd r0 a0 hks pr tb
 ·-- min
  obtain⟨g1,g2⟩:=hlen _ hkd 2 0 0 rfl
  rw[g1]at h1 h2
  obtain⟨r0,r1,rfl⟩:=qG h1
  obtain⟨a0,a1,rfl⟩:=qG h2
  have hks:=mJ g2
  exact ZJ k b hb hkd r0 r1 a0 a1 hks pr tb
 ·-- max
  obtain⟨g1,g2⟩:=hlen _ hkd 2 0 0 rfl
  rw[g1]at h1 h2
  obtain⟨r0,r1,rfl⟩:=qG h1
  obtain⟨a0,a1,rfl⟩:=qG h2
  have hks:=mJ g2
  exact ZK k b hb hkd r0 r1 a0 a1 hks pr tb
 ·-- limit
  obtain⟨g1,g2⟩:=hlen _ hkd 1 2 0 rfl
  rw[g1]at h1 h2
  obtain⟨r0,rfl⟩:=oH h1
  obtain⟨a0,rfl⟩:=oH h2
  obtain⟨k0,k1,hks⟩:=qG g2
  exact fH k b hb hkd r0 a0 k0 k1 hks pr tb
 ·-- convert
  obtain⟨g1,g2⟩:=hlen _ hkd 1 0 0 rfl
  rw[g1]at h1 h2
  obtain⟨r0,rfl⟩:=oH h1
  obtain⟨a0,rfl⟩:=oH h2
  have hks:=mJ g2
  exact ld k b hb hkd r0 a0 hks pr tb
 ·-- curve
  obtain⟨g1,g2⟩:=hlen _ hkd 1 0 1 rfl
  rw[g1]at h1 h2
  obtain⟨r0,rfl⟩:=oH h1
  obtain⟨a0,rfl⟩:=oH h2
  have hks:=mJ g2
  exact fK k b hb hkd r0 a0 hks pr tb (hT (by rw[hkd];rfl))
 ·-- map
  obtain⟨g1,g2⟩:=hlen _ hkd 2 0 2 rfl
  rw[g1]at h1 h2
  obtain⟨r0,r1,rfl⟩:=qG h1
  obtain⟨a0,a1,rfl⟩:=qG h2
  have hks:=mJ g2
  exact ZL k b hb hkd r0 r1 a0 a1 hks pr tb (hT (by rw[hkd];rfl))
 ·-- delay
  obtain⟨g1,g2⟩:=hlen _ hkd 1 1 0 rfl
  rw[g1]at h1 h2
  obtain⟨r0,rfl⟩:=oH h1
  obtain⟨a0,rfl⟩:=oH h2
  obtain⟨k0,hks⟩:=oH g2
  exact fJ k b hb hkd r0 a0 k0 hks pr tb
 ·-- lag
  obtain⟨g1,g2⟩:=hlen _ hkd 1 1 0 rfl
  rw[g1]at h1 h2
  obtain⟨r0,rfl⟩:=oH h1
  obtain⟨a0,rfl⟩:=oH h2
  obtain⟨k0,hks⟩:=oH g2
  exact ZM k b hb hkd r0 a0 k0 hks pr tb
 ·-- switch
  obtain⟨g1,g2⟩:=hlen _ hkd 3 0 0 rfl
  rw[g1]at h1 h2
  obtain⟨r0,r1,r2,rfl⟩:=MY h1
  obtain⟨a0,a1,a2,rfl⟩:=MY h2
  have hks:=mJ g2
  exact jb k b hb hkd r0 r1 r2 a0 a1 a2 hks pr tb
 ·-- less
  obtain⟨g1,g2⟩:=hlen _ hkd 2 0 0 rfl
  rw[g1]at h1 h2
  obtain⟨r0,r1,rfl⟩:=qG h1
  obtain⟨a0,a1,rfl⟩:=qG h2
  have hks:=mJ g2
  exact cK k b hb hkd r0 r1 a0 a1 hks pr tb
 ·-- equal
  obtain⟨g1,g2⟩:=hlen _ hkd 2 0 0 rfl
  rw[g1]at h1 h2
  obtain⟨r0,r1,rfl⟩:=qG h1
  obtain⟨a0,a1,rfl⟩:=qG h2
  have hks:=mJ g2
  exact fI k b hb hkd r0 r1 a0 a1 hks pr tb
 ·-- and
  obtain⟨g1,g2⟩:=hlen _ hkd 2 0 0 rfl
  rw[g1]at h1 h2
  obtain⟨r0,r1,rfl⟩:=qG h1
  obtain⟨a0,a1,rfl⟩:=qG h2
  have hks:=mJ g2
  exact ZO k b hb hkd r0 r1 a0 a1 hks pr tb
 ·-- or
  obtain⟨g1,g2⟩:=hlen _ hkd 2 0 0 rfl
  rw[g1]at h1 h2
  obtain⟨r0,r1,rfl⟩:=qG h1
  obtain⟨a0,a1,rfl⟩:=qG h2
  have hks:=mJ g2
  exact WQ k b hb hkd r0 r1 a0 a1 hks pr tb
 ·-- not
  obtain⟨g1,g2⟩:=hlen _ hkd 1 0 0 rfl
  rw[g1]at h1 h2
  obtain⟨r0,rfl⟩:=oH h1
  obtain⟨a0,rfl⟩:=oH h2
  have hks:=mJ g2
  exact ZG k b hb hkd r0 a0 hks pr tb
 ·-- hysteresis
  obtain⟨g1,g2⟩:=hlen _ hkd 1 2 0 rfl
  rw[g1]at h1 h2
  obtain⟨r0,rfl⟩:=oH h1
  obtain⟨a0,rfl⟩:=oH h2
  obtain⟨k0,k1,hks⟩:=qG g2
  exact pi k b hb hkd r0 a0 k0 k1 hks pr tb
end Go.Proofs.YtbnkiacicnnmkaaGreat.Fx
