/-  -/
import Derived.Test.YtkciabfilokfiaaGreatXI8
open Go.Proofs.Tryz
set_option linter.unusedSimpArgs false
set_option linter.unusedVariables false
set_option maxRecDepth 100000
set_option maxHeartbeats 4000000
namespace Go.Proofs.YtkciabfilokfiaaGreat.Fx
open Vg Tf
def ud (H:Hp)(d:DgL)(b:BlL)(rs:List (Int×Int))(ts:List Ft)(pr:Int×Int)(v:(Int×Int)×Int):Prop:=
 CallX H Tryz.prog 133 [.agg (rk d),yD b.r,.c (.sl 1 0 rs.length 2),.c (.sl 2 0 ts.length 10),rA pr] (y8 rs ts++xU d) (fun _:Unit=>rE v) (fun _=>[]) (fun _ _=>True)
theorem aR {t:Ft}(h:yE t=true):tC t<=th t:=by
 obtain⟨q1,q2⟩:=U7 h
 unfold x9 at q1 q2
 rw[h]at q1 q2
 simp only[cond_true]at q1 q2
 omega
theorem VS {H:Hp}{d:DgL}(hd:d.ok H)(h:0<d.cus.length):∃b o,d.cu.o=some ⟨b,o,none⟩/\∃cs el mk,H b (.cells cs el mk)/\∀q (hq:q<d.cus.length) (j:Nat) v,([vsl d.cus[q].x d.cus[q].c.xs.length,vsl d.cus[q].y d.cus[q].c.ys.length]:List Value)[j]?=some v->cs[o+q*3+1+j]?=some v:=by
 have hz:((d.cus.map CuL.r).flatten).length=d.cus.length*3:=by
  have:=zP (r:=CuL.r) (k:=3) (fun _=>rfl) d.cus
  unfold zD at this
  rwa [Ku]at this
 obtain⟨b,o,c,h1,cs,el,mk,hb,hc⟩:=hd.cu.at (by
  intro h0
  rw[h0]at hz
  simp at hz;omega)
 have hio:d.cu.o=some ⟨b,o,none⟩:=by injection h1
 refine⟨b,o,hio,cs,el,mk,hb,fun q hq j v hj=>?_⟩
 have hj10:j<2:=(J5.1 hj).1
 have:=hc (q*3+(1+j)) v (by
  rw[qe (r:=CuL.r) (k:=3) (fun _=>rfl) d.cus q (1+j) hq zA]
  rw[<-hj,Hc 1 j]
  rfl)
 rw[show o+q*3+1+j=o+(q*3+(1+j)) by omega]
 exact this
theorem Wm {H:Hp}{d:DgL}(hd:d.ok H)(h:0<d.mas.length):∃b o,d.ma.o=some ⟨b,o,none⟩/\∃cs el mk,H b (.cells cs el mk)/\∀q (hq:q<d.mas.length) (j:Nat) v,([vsl d.mas[q].x d.mas[q].xs.length,vsl d.mas[q].y d.mas[q].ys.length,vsl d.mas[q].z d.mas[q].zs.length]:List Value)[j]?=some v->cs[o+q*4+1+j]?=some v:=by
 have hz:((d.mas.map MpL.r).flatten).length=d.mas.length*4:=by
  have:=zP (r:=MpL.r) (k:=4) (fun _=>rfl) d.mas
  unfold zD at this
  rwa [Ku]at this
 obtain⟨b,o,c,h1,cs,el,mk,hb,hc⟩:=hd.ma.at (by
  intro h0
  rw[h0]at hz
  simp at hz;omega)
 have hio:d.ma.o=some ⟨b,o,none⟩:=by injection h1
 refine⟨b,o,hio,cs,el,mk,hb,fun q hq j v hj=>?_⟩
 have hj10:j<3:=(J5.1 hj).1
 have:=hc (q*4+(1+j)) v (by
  rw[qe (r:=MpL.r) (k:=4) (fun _=>rfl) d.mas q (1+j) hq zA]
  rw[<-hj,Hc 1 j]
  rfl)
 rw[show o+q*4+1+j=o+(q*4+(1+j)) by omega]
 exact this
theorem dM {H:Hp}(d:DgL)(hd:d.ok H)(h0:d.tys.length<=1000000)(b:BlL)(hb:b.ok H)(T:Ft)(hty:vk d.tys b.c.ty=some T)(ht:yE T=true)(hkd:b.c.kd=[99,111,110,115,116])(k0:Int)(hks:b.c.ks=[k0])(pr tb:Int×Int):ud H d b [] [] pr (zi T b.c [] [] pr tb):=by
 have hv:zi T b.c [] [] pr tb=((k0,k0),0):=by unfold zi;rw[hkd,hks];rfl
 rw[hv]
 obtain⟨q,hq1,hq2,hq3⟩:∃q,∃h:q<d.tys.length,yw (d.tys.map (·.nm)) b.c.ty=(q:Int)/\T=d.tys[q].ty:=by
  rcases xa d.tys b.c.ty with⟨a,_⟩|⟨q,hq,a,e⟩
  ·rw[hty]at a;cases a
  ·rw[hty]at e;exact⟨q,hq,a,by injection e⟩
 obtain⟨bt,ot,hto,ct,et,mt,hbt,hct⟩:=xG hd zA
 have hx0:=hct q hq1
 have hto':=yu d hd h0 b.c.ty
 rw[hq2]at hto'
 rw[<-hq3]at hx0
 clear hq3 hct hv
 unfold ud
 have hM:ClM (y8 [] []++xU d):=zC (by unfold y8;simp only[zN,zT,Kv,Kx,JC,JD,JB,yN,yW,Ky,iR];rfl)
 unfold y8 at hM⊢
 simp only[zN,zT,Kv,Kx,JC,JD,JB,yN,yW]at hM⊢
 refine kX func133 wU ntmps133 fun C hR hP hH hL=>?_
 have hR:=hR () C hL trivial
 refine zB 100 ?_
 simp only[go_sem,BlL.r,hkd]
 refine Sm.bringC 12 3 101 5 (hb.k.mono hH) rfl rfl rfl ?_
 rw[vG,show(zZ b.c.ks).length=b.c.ks.length by simp[zZ],hks]
 refine Sm.dg 110 10 ze (vv ?_)
 refine DCallQ.dm 120 (fun _=>hto') hH (fun _=>rfl) rfl rfl (vv ?_)
 refine DOpQ.own 140 (Stp.idxV (b:=bt) (off:=ot) rfl (by rw[<-hto];rfl) rfl vm zA zA) ?_
 simp only[go_sem,Int.toNat_natCast]
 refine DOpQ.own 140 (zY (k:=1) rfl rfl rfl) (vv ?_)
 refine zE 140 (fun _=>StpC.ldA (vs:=yW T) (hH _ _ hbt) (fun j v hj=>?_) rfl rfl rfl rfl (J7 _)) ?_
 ·exact hx0 j v hj
 simp only[go_sem,yW,hkd]
 refine CallQ.pure 150 (yc T ht) rfl ?_
 simp only[go_sem,hkd]
 refine CallQ.pure 160 (xN [99,111,110,115,116]) rfl ?_
 have elg:ry [99,111,110,115,116]=false:=yg
 simp only[go_sem,hkd,elg]
 refine Sm.dg 170 8 ze (vv ?_)
 exact yI hR hM
theorem Zn {H:Hp}(d:DgL)(hd:d.ok H)(h0:d.tys.length<=1000000)(b:BlL)(hb:b.ok H)(T:Ft)(hty:vk d.tys b.c.ty=some T)(ht:yE T=true)(hkd:b.c.kd=[97,100,100])(r0 r1:Int×Int)(a0 a1:Ft)(hks:b.c.ks=[])(pr tb:Int×Int):ud H d b [r0,r1] [a0,a1] pr (zi T b.c [r0,r1] [a0,a1] pr tb):=by
 have hv:zi T b.c [r0,r1] [a0,a1] pr tb=(vR 1 r0 r1 a0 a1 T,wH 1 r0.1 r0.2 r1.1 r1.2 a0 a1 T):=by unfold zi;rw[hkd,hks];rfl
 rw[hv]
 obtain⟨q,hq1,hq2,hq3⟩:∃q,∃h:q<d.tys.length,yw (d.tys.map (·.nm)) b.c.ty=(q:Int)/\T=d.tys[q].ty:=by
  rcases xa d.tys b.c.ty with⟨a,_⟩|⟨q,hq,a,e⟩
  ·rw[hty]at a;cases a
  ·rw[hty]at e;exact⟨q,hq,a,by injection e⟩
 obtain⟨bt,ot,hto,ct,et,mt,hbt,hct⟩:=xG hd zA
 have hx0:=hct q hq1
 have hto':=yu d hd h0 b.c.ty
 rw[hq2]at hto'
 rw[<-hq3]at hx0
 clear hq3 hct hv
 unfold ud
 have hM:ClM (y8 [r0,r1] [a0,a1]++xU d):=zC (by unfold y8;simp only[zN,zT,Kv,Kx,JC,JD,JB,yN,yW,Ky,iR];rfl)
 unfold y8 at hM⊢
 simp only[zN,zT,Kv,Kx,JC,JD,JB,yN,yW]at hM⊢
 refine kX func133 wU ntmps133 fun C hR hP hH hL=>?_
 have hR:=hR () C hL trivial
 refine zB 100 ?_
 simp only[go_sem,BlL.r,hkd]
 refine Sm.dg 110 10 ze (vv ?_)
 refine DCallQ.dm 120 (fun _=>hto') hH (fun _=>rfl) rfl rfl (vv ?_)
 refine DOpQ.own 140 (Stp.idxV (b:=bt) (off:=ot) rfl (by rw[<-hto];rfl) rfl vm zA zA) ?_
 simp only[go_sem,Int.toNat_natCast]
 refine DOpQ.own 140 (zY (k:=1) rfl rfl rfl) (vv ?_)
 refine zE 140 (fun _=>StpC.ldA (vs:=yW T) (hH _ _ hbt) (fun j v hj=>?_) rfl rfl rfl rfl (J7 _)) ?_
 ·exact hx0 j v hj
 simp only[go_sem,yW,hkd]
 refine CallQ.pure 150 (yc T ht) rfl ?_
 simp only[go_sem,hkd]
 refine CallQ.pure 160 (xN [97,100,100]) rfl ?_
 have elg:ry [97,100,100]=false:=yg
 simp only[go_sem,hkd,elg]
 have s1:(([97,100,100]:Str)==[115,117,98])=false:=yg
 have s2:(([97,100,100]:Str)==[109,117,108])=false:=yg
 have s3:(([97,100,100]:Str)==[100,105,118])=false:=yg
 simp only[go_sem,s1,s2,s3]
 refine Sm.dg 170 20 ze (vv ?_)
 refine DCallQ.pure 180 (mn 1 r0.1 r0.2 r1.1 r1.2 a0 a1 T) rfl (vv ?_)
 exact yI hR hM
theorem Zd {H:Hp}(d:DgL)(hd:d.ok H)(h0:d.tys.length<=1000000)(b:BlL)(hb:b.ok H)(T:Ft)(hty:vk d.tys b.c.ty=some T)(ht:yE T=true)(hkd:b.c.kd=[115,117,98])(r0 r1:Int×Int)(a0 a1:Ft)(hks:b.c.ks=[])(pr tb:Int×Int):ud H d b [r0,r1] [a0,a1] pr (zi T b.c [r0,r1] [a0,a1] pr tb):=by
 have hv:zi T b.c [r0,r1] [a0,a1] pr tb=(vR 2 r0 r1 a0 a1 T,wH 2 r0.1 r0.2 r1.1 r1.2 a0 a1 T):=by unfold zi;rw[hkd,hks];rfl
 rw[hv]
 obtain⟨q,hq1,hq2,hq3⟩:∃q,∃h:q<d.tys.length,yw (d.tys.map (·.nm)) b.c.ty=(q:Int)/\T=d.tys[q].ty:=by
  rcases xa d.tys b.c.ty with⟨a,_⟩|⟨q,hq,a,e⟩
  ·rw[hty]at a;cases a
  ·rw[hty]at e;exact⟨q,hq,a,by injection e⟩
 obtain⟨bt,ot,hto,ct,et,mt,hbt,hct⟩:=xG hd zA
 have hx0:=hct q hq1
 have hto':=yu d hd h0 b.c.ty
 rw[hq2]at hto'
 rw[<-hq3]at hx0
 clear hq3 hct hv
 unfold ud
 have hM:ClM (y8 [r0,r1] [a0,a1]++xU d):=zC (by unfold y8;simp only[zN,zT,Kv,Kx,JC,JD,JB,yN,yW,Ky,iR];rfl)
 unfold y8 at hM⊢
 simp only[zN,zT,Kv,Kx,JC,JD,JB,yN,yW]at hM⊢
 refine kX func133 wU ntmps133 fun C hR hP hH hL=>?_
 have hR:=hR () C hL trivial
 refine zB 100 ?_
 simp only[go_sem,BlL.r,hkd]
 refine Sm.dg 110 10 ze (vv ?_)
 refine DCallQ.dm 120 (fun _=>hto') hH (fun _=>rfl) rfl rfl (vv ?_)
 refine DOpQ.own 140 (Stp.idxV (b:=bt) (off:=ot) rfl (by rw[<-hto];rfl) rfl vm zA zA) ?_
 simp only[go_sem,Int.toNat_natCast]
 refine DOpQ.own 140 (zY (k:=1) rfl rfl rfl) (vv ?_)
 refine zE 140 (fun _=>StpC.ldA (vs:=yW T) (hH _ _ hbt) (fun j v hj=>?_) rfl rfl rfl rfl (J7 _)) ?_
 ·exact hx0 j v hj
 simp only[go_sem,yW,hkd]
 refine CallQ.pure 150 (yc T ht) rfl ?_
 simp only[go_sem,hkd]
 refine CallQ.pure 160 (xN [115,117,98]) rfl ?_
 have elg:ry [115,117,98]=false:=yg
 simp only[go_sem,hkd,elg]
 have s1:(([115,117,98]:Str)==[115,117,98])=true:=yg
 have s2:(([115,117,98]:Str)==[109,117,108])=false:=yg
 have s3:(([115,117,98]:Str)==[100,105,118])=false:=yg
 simp only[go_sem,s1,s2,s3]
 refine Sm.dg 170 20 ze (vv ?_)
 refine DCallQ.pure 180 (mn 2 r0.1 r0.2 r1.1 r1.2 a0 a1 T) rfl (vv ?_)
 exact yI hR hM
theorem Zg {H:Hp}(d:DgL)(hd:d.ok H)(h0:d.tys.length<=1000000)(b:BlL)(hb:b.ok H)(T:Ft)(hty:vk d.tys b.c.ty=some T)(ht:yE T=true)(hkd:b.c.kd=[109,117,108])(r0 r1:Int×Int)(a0 a1:Ft)(hks:b.c.ks=[])(pr tb:Int×Int):ud H d b [r0,r1] [a0,a1] pr (zi T b.c [r0,r1] [a0,a1] pr tb):=by
 have hv:zi T b.c [r0,r1] [a0,a1] pr tb=(vR 3 r0 r1 a0 a1 T,wH 3 r0.1 r0.2 r1.1 r1.2 a0 a1 T):=by unfold zi;rw[hkd,hks];rfl
 rw[hv]
 obtain⟨q,hq1,hq2,hq3⟩:∃q,∃h:q<d.tys.length,yw (d.tys.map (·.nm)) b.c.ty=(q:Int)/\T=d.tys[q].ty:=by
  rcases xa d.tys b.c.ty with⟨a,_⟩|⟨q,hq,a,e⟩
  ·rw[hty]at a;cases a
  ·rw[hty]at e;exact⟨q,hq,a,by injection e⟩
 obtain⟨bt,ot,hto,ct,et,mt,hbt,hct⟩:=xG hd zA
 have hx0:=hct q hq1
 have hto':=yu d hd h0 b.c.ty
 rw[hq2]at hto'
 rw[<-hq3]at hx0
 clear hq3 hct hv
 unfold ud
 have hM:ClM (y8 [r0,r1] [a0,a1]++xU d):=zC (by unfold y8;simp only[zN,zT,Kv,Kx,JC,JD,JB,yN,yW,Ky,iR];rfl)
 unfold y8 at hM⊢
 simp only[zN,zT,Kv,Kx,JC,JD,JB,yN,yW]at hM⊢
 refine kX func133 wU ntmps133 fun C hR hP hH hL=>?_
 have hR:=hR () C hL trivial
 refine zB 100 ?_
 simp only[go_sem,BlL.r,hkd]
 refine Sm.dg 110 10 ze (vv ?_)
 refine DCallQ.dm 120 (fun _=>hto') hH (fun _=>rfl) rfl rfl (vv ?_)
 refine DOpQ.own 140 (Stp.idxV (b:=bt) (off:=ot) rfl (by rw[<-hto];rfl) rfl vm zA zA) ?_
 simp only[go_sem,Int.toNat_natCast]
 refine DOpQ.own 140 (zY (k:=1) rfl rfl rfl) (vv ?_)
 refine zE 140 (fun _=>StpC.ldA (vs:=yW T) (hH _ _ hbt) (fun j v hj=>?_) rfl rfl rfl rfl (J7 _)) ?_
 ·exact hx0 j v hj
 simp only[go_sem,yW,hkd]
 refine CallQ.pure 150 (yc T ht) rfl ?_
 simp only[go_sem,hkd]
 refine CallQ.pure 160 (xN [109,117,108]) rfl ?_
 have elg:ry [109,117,108]=false:=yg
 simp only[go_sem,hkd,elg]
 have s1:(([109,117,108]:Str)==[115,117,98])=false:=yg
 have s2:(([109,117,108]:Str)==[109,117,108])=true:=yg
 have s3:(([109,117,108]:Str)==[100,105,118])=false:=yg
 simp only[go_sem,s1,s2,s3]
 refine Sm.dg 170 20 ze (vv ?_)
 refine DCallQ.pure 180 (mn 3 r0.1 r0.2 r1.1 r1.2 a0 a1 T) rfl (vv ?_)
 exact yI hR hM
theorem Zl {H:Hp}(d:DgL)(hd:d.ok H)(h0:d.tys.length<=1000000)(b:BlL)(hb:b.ok H)(T:Ft)(hty:vk d.tys b.c.ty=some T)(ht:yE T=true)(hkd:b.c.kd=[100,105,118])(r0 r1:Int×Int)(a0 a1:Ft)(hks:b.c.ks=[])(pr tb:Int×Int):ud H d b [r0,r1] [a0,a1] pr (zi T b.c [r0,r1] [a0,a1] pr tb):=by
 have hv:zi T b.c [r0,r1] [a0,a1] pr tb=(vR 4 r0 r1 a0 a1 T,wH 4 r0.1 r0.2 r1.1 r1.2 a0 a1 T):=by unfold zi;rw[hkd,hks];rfl
 rw[hv]
 obtain⟨q,hq1,hq2,hq3⟩:∃q,∃h:q<d.tys.length,yw (d.tys.map (·.nm)) b.c.ty=(q:Int)/\T=d.tys[q].ty:=by
  rcases xa d.tys b.c.ty with⟨a,_⟩|⟨q,hq,a,e⟩
  ·rw[hty]at a;cases a
  ·rw[hty]at e;exact⟨q,hq,a,by injection e⟩
 obtain⟨bt,ot,hto,ct,et,mt,hbt,hct⟩:=xG hd zA
 have hx0:=hct q hq1
 have hto':=yu d hd h0 b.c.ty
 rw[hq2]at hto'
 rw[<-hq3]at hx0
 clear hq3 hct hv
 unfold ud
 have hM:ClM (y8 [r0,r1] [a0,a1]++xU d):=zC (by unfold y8;simp only[zN,zT,Kv,Kx,JC,JD,JB,yN,yW,Ky,iR];rfl)
 unfold y8 at hM⊢
 simp only[zN,zT,Kv,Kx,JC,JD,JB,yN,yW]at hM⊢
 refine kX func133 wU ntmps133 fun C hR hP hH hL=>?_
 have hR:=hR () C hL trivial
 refine zB 100 ?_
 simp only[go_sem,BlL.r,hkd]
 refine Sm.dg 110 10 ze (vv ?_)
 refine DCallQ.dm 120 (fun _=>hto') hH (fun _=>rfl) rfl rfl (vv ?_)
 refine DOpQ.own 140 (Stp.idxV (b:=bt) (off:=ot) rfl (by rw[<-hto];rfl) rfl vm zA zA) ?_
 simp only[go_sem,Int.toNat_natCast]
 refine DOpQ.own 140 (zY (k:=1) rfl rfl rfl) (vv ?_)
 refine zE 140 (fun _=>StpC.ldA (vs:=yW T) (hH _ _ hbt) (fun j v hj=>?_) rfl rfl rfl rfl (J7 _)) ?_
 ·exact hx0 j v hj
 simp only[go_sem,yW,hkd]
 refine CallQ.pure 150 (yc T ht) rfl ?_
 simp only[go_sem,hkd]
 refine CallQ.pure 160 (xN [100,105,118]) rfl ?_
 have elg:ry [100,105,118]=false:=yg
 simp only[go_sem,hkd,elg]
 have s1:(([100,105,118]:Str)==[115,117,98])=false:=yg
 have s2:(([100,105,118]:Str)==[109,117,108])=false:=yg
 have s3:(([100,105,118]:Str)==[100,105,118])=true:=yg
 simp only[go_sem,s1,s2,s3]
 refine Sm.dg 170 20 ze (vv ?_)
 refine DCallQ.pure 180 (mn 4 r0.1 r0.2 r1.1 r1.2 a0 a1 T) rfl (vv ?_)
 exact yI hR hM
theorem Zf {H:Hp}(d:DgL)(hd:d.ok H)(h0:d.tys.length<=1000000)(b:BlL)(hb:b.ok H)(T:Ft)(hty:vk d.tys b.c.ty=some T)(ht:yE T=true)(hkd:b.c.kd=[110,101,103])(r0:Int×Int)(a0:Ft)(hks:b.c.ks=[])(pr tb:Int×Int)(f0:yE a0=true)(g0:wQ a0 r0)(u0:uS a0 T=true):ud H d b [r0] [a0] pr (zi T b.c [r0] [a0] pr tb):=by
 have hv:zi T b.c [r0] [a0] pr tb=((gR (-1) a0 r0.2 T,gR (-1) a0 r0.1 T),0):=by unfold zi;rw[hkd,hks];rfl
 rw[hv]
 obtain⟨q,hq1,hq2,hq3⟩:∃q,∃h:q<d.tys.length,yw (d.tys.map (·.nm)) b.c.ty=(q:Int)/\T=d.tys[q].ty:=by
  rcases xa d.tys b.c.ty with⟨a,_⟩|⟨q,hq,a,e⟩
  ·rw[hty]at a;cases a
  ·rw[hty]at e;exact⟨q,hq,a,by injection e⟩
 obtain⟨bt,ot,hto,ct,et,mt,hbt,hct⟩:=xG hd zA
 have hx0:=hct q hq1
 have hto':=yu d hd h0 b.c.ty
 rw[hq2]at hto'
 rw[<-hq3]at hx0
 clear hq3 hct hv
 unfold ud
 have hM:ClM (y8 [r0] [a0]++xU d):=zC (by unfold y8;simp only[zN,zT,Kv,Kx,JC,JD,JB,yN,yW,Ky,iR];rfl)
 unfold y8 at hM⊢
 simp only[zN,zT,Kv,Kx,JC,JD,JB,yN,yW]at hM⊢
 refine kX func133 wU ntmps133 fun C hR hP hH hL=>?_
 have hR:=hR () C hL trivial
 refine zB 100 ?_
 simp only[go_sem,BlL.r,hkd]
 refine Sm.dg 110 10 ze (vv ?_)
 refine DCallQ.dm 120 (fun _=>hto') hH (fun _=>rfl) rfl rfl (vv ?_)
 refine DOpQ.own 140 (Stp.idxV (b:=bt) (off:=ot) rfl (by rw[<-hto];rfl) rfl vm zA zA) ?_
 simp only[go_sem,Int.toNat_natCast]
 refine DOpQ.own 140 (zY (k:=1) rfl rfl rfl) (vv ?_)
 refine zE 140 (fun _=>StpC.ldA (vs:=yW T) (hH _ _ hbt) (fun j v hj=>?_) rfl rfl rfl rfl (J7 _)) ?_
 ·exact hx0 j v hj
 simp only[go_sem,yW,hkd]
 refine CallQ.pure 150 (yc T ht) rfl ?_
 simp only[go_sem,hkd]
 refine CallQ.pure 160 (xN [110,101,103]) rfl ?_
 have elg:ry [110,101,103]=false:=yg
 simp only[go_sem,hkd,elg]
 refine Sm.dg 170 17 ze (vv ?_)
 refine DCallQ.pure 180 (XV f0 ht u0 r0.2 (yv g0 f0 g0.2.1 (JW _))) rfl (vv ?_)
 refine CallQ.pure 190 (XV f0 ht u0 r0.1 (yv g0 f0 (JW _) g0.2.1)) rfl (vv ?_)
 exact yI hR hM
theorem Zh {H:Hp}(d:DgL)(hd:d.ok H)(h0:d.tys.length<=1000000)(b:BlL)(hb:b.ok H)(T:Ft)(hty:vk d.tys b.c.ty=some T)(ht:yE T=true)(hkd:b.c.kd=[109,105,110])(r0 r1:Int×Int)(a0 a1:Ft)(hks:b.c.ks=[])(pr tb:Int×Int)(f0:yE a0=true)(g0:wQ a0 r0)(u0:uS a0 T=true)(f1:yE a1=true)(g1:wQ a1 r1)(u1:uS a1 T=true):ud H d b [r0,r1] [a0,a1] pr (zi T b.c [r0,r1] [a0,a1] pr tb):=by
 have hv:zi T b.c [r0,r1] [a0,a1] pr tb=((min (xf r0 a0 T).1 (xf r1 a1 T).1,min (xf r0 a0 T).2 (xf r1 a1 T).2),0):=by unfold zi;rw[hkd,hks];rfl
 rw[hv]
 obtain⟨q,hq1,hq2,hq3⟩:∃q,∃h:q<d.tys.length,yw (d.tys.map (·.nm)) b.c.ty=(q:Int)/\T=d.tys[q].ty:=by
  rcases xa d.tys b.c.ty with⟨a,_⟩|⟨q,hq,a,e⟩
  ·rw[hty]at a;cases a
  ·rw[hty]at e;exact⟨q,hq,a,by injection e⟩
 obtain⟨bt,ot,hto,ct,et,mt,hbt,hct⟩:=xG hd zA
 have hx0:=hct q hq1
 have hto':=yu d hd h0 b.c.ty
 rw[hq2]at hto'
 rw[<-hq3]at hx0
 clear hq3 hct hv
 unfold ud
 have hM:ClM (y8 [r0,r1] [a0,a1]++xU d):=zC (by unfold y8;simp only[zN,zT,Kv,Kx,JC,JD,JB,yN,yW,Ky,iR];rfl)
 unfold y8 at hM⊢
 simp only[zN,zT,Kv,Kx,JC,JD,JB,yN,yW]at hM⊢
 refine kX func133 wU ntmps133 fun C hR hP hH hL=>?_
 have hR:=hR () C hL trivial
 refine zB 100 ?_
 simp only[go_sem,BlL.r,hkd]
 refine Sm.dg 110 10 ze (vv ?_)
 refine DCallQ.dm 120 (fun _=>hto') hH (fun _=>rfl) rfl rfl (vv ?_)
 refine DOpQ.own 140 (Stp.idxV (b:=bt) (off:=ot) rfl (by rw[<-hto];rfl) rfl vm zA zA) ?_
 simp only[go_sem,Int.toNat_natCast]
 refine DOpQ.own 140 (zY (k:=1) rfl rfl rfl) (vv ?_)
 refine zE 140 (fun _=>StpC.ldA (vs:=yW T) (hH _ _ hbt) (fun j v hj=>?_) rfl rfl rfl rfl (J7 _)) ?_
 ·exact hx0 j v hj
 simp only[go_sem,yW,hkd]
 refine CallQ.pure 150 (yc T ht) rfl ?_
 simp only[go_sem,hkd]
 refine CallQ.pure 160 (xN [109,105,110]) rfl ?_
 have elg:ry [109,105,110]=false:=yg
 simp only[go_sem,hkd,elg]
 refine Sm.dg 170 18 ze (vv ?_)
 refine DCallQ.pure 180 (ui f0 ht u0 r0 g0) rfl (vv ?_)
 refine DCallQ.pure 190 (ui f1 ht u1 r1 g1) rfl ?_
 generalize xf r0 a0 T=x0 at*
 generalize xf r1 a1 T=x1 at*
 refine vv ?_
 refine Sm.dg 200 9 ze (vv ?_)
 refine DCallQ.pure 210 (XX x0.1 x1.1) rfl (vv ?_)
 refine CallQ.pure 220 (XX x0.2 x1.2) rfl (vv ?_)
 exact yI hR hM
theorem Zi {H:Hp}(d:DgL)(hd:d.ok H)(h0:d.tys.length<=1000000)(b:BlL)(hb:b.ok H)(T:Ft)(hty:vk d.tys b.c.ty=some T)(ht:yE T=true)(hkd:b.c.kd=[109,97,120])(r0 r1:Int×Int)(a0 a1:Ft)(hks:b.c.ks=[])(pr tb:Int×Int)(f0:yE a0=true)(g0:wQ a0 r0)(u0:uS a0 T=true)(f1:yE a1=true)(g1:wQ a1 r1)(u1:uS a1 T=true):ud H d b [r0,r1] [a0,a1] pr (zi T b.c [r0,r1] [a0,a1] pr tb):=by
 have hv:zi T b.c [r0,r1] [a0,a1] pr tb=((max (xf r0 a0 T).1 (xf r1 a1 T).1,max (xf r0 a0 T).2 (xf r1 a1 T).2),0):=by unfold zi;rw[hkd,hks];rfl
 rw[hv]
 obtain⟨q,hq1,hq2,hq3⟩:∃q,∃h:q<d.tys.length,yw (d.tys.map (·.nm)) b.c.ty=(q:Int)/\T=d.tys[q].ty:=by
  rcases xa d.tys b.c.ty with⟨a,_⟩|⟨q,hq,a,e⟩
  ·rw[hty]at a;cases a
  ·rw[hty]at e;exact⟨q,hq,a,by injection e⟩
 obtain⟨bt,ot,hto,ct,et,mt,hbt,hct⟩:=xG hd zA
 have hx0:=hct q hq1
 have hto':=yu d hd h0 b.c.ty
 rw[hq2]at hto'
 rw[<-hq3]at hx0
 clear hq3 hct hv
 unfold ud
 have hM:ClM (y8 [r0,r1] [a0,a1]++xU d):=zC (by unfold y8;simp only[zN,zT,Kv,Kx,JC,JD,JB,yN,yW,Ky,iR];rfl)
 unfold y8 at hM⊢
 simp only[zN,zT,Kv,Kx,JC,JD,JB,yN,yW]at hM⊢
 refine kX func133 wU ntmps133 fun C hR hP hH hL=>?_
 have hR:=hR () C hL trivial
 refine zB 100 ?_
 simp only[go_sem,BlL.r,hkd]
 refine Sm.dg 110 10 ze (vv ?_)
 refine DCallQ.dm 120 (fun _=>hto') hH (fun _=>rfl) rfl rfl (vv ?_)
 refine DOpQ.own 140 (Stp.idxV (b:=bt) (off:=ot) rfl (by rw[<-hto];rfl) rfl vm zA zA) ?_
 simp only[go_sem,Int.toNat_natCast]
 refine DOpQ.own 140 (zY (k:=1) rfl rfl rfl) (vv ?_)
 refine zE 140 (fun _=>StpC.ldA (vs:=yW T) (hH _ _ hbt) (fun j v hj=>?_) rfl rfl rfl rfl (J7 _)) ?_
 ·exact hx0 j v hj
 simp only[go_sem,yW,hkd]
 refine CallQ.pure 150 (yc T ht) rfl ?_
 simp only[go_sem,hkd]
 refine CallQ.pure 160 (xN [109,97,120]) rfl ?_
 have elg:ry [109,97,120]=false:=yg
 simp only[go_sem,hkd,elg]
 refine Sm.dg 170 18 ze (vv ?_)
 refine DCallQ.pure 180 (ui f0 ht u0 r0 g0) rfl (vv ?_)
 refine DCallQ.pure 190 (ui f1 ht u1 r1 g1) rfl ?_
 generalize xf r0 a0 T=x0 at*
 generalize xf r1 a1 T=x1 at*
 refine vv ?_
 refine Sm.dg 200 9 ze (vv ?_)
 refine DCallQ.pure 210 (XY x0.1 x1.1) rfl (vv ?_)
 refine CallQ.pure 220 (XY x0.2 x1.2) rfl (vv ?_)
 exact yI hR hM
theorem dI {H:Hp}(d:DgL)(hd:d.ok H)(h0:d.tys.length<=1000000)(b:BlL)(hb:b.ok H)(T:Ft)(hty:vk d.tys b.c.ty=some T)(ht:yE T=true)(hkd:b.c.kd=[108,105,109,105,116])(r0:Int×Int)(a0:Ft)(k0 k1:Int)(hks:b.c.ks=[k0,k1])(pr tb:Int×Int)(f0:yE a0=true)(g0:wQ a0 r0)(u0:uS a0 T=true)(hk:k0<=k1):ud H d b [r0] [a0] pr (zi T b.c [r0] [a0] pr tb):=by
 have hv:zi T b.c [r0] [a0] pr tb=(qp (xf r0 a0 T) k0 k1,0):=by unfold zi;rw[hkd,hks];rfl
 rw[hv]
 obtain⟨q,hq1,hq2,hq3⟩:∃q,∃h:q<d.tys.length,yw (d.tys.map (·.nm)) b.c.ty=(q:Int)/\T=d.tys[q].ty:=by
  rcases xa d.tys b.c.ty with⟨a,_⟩|⟨q,hq,a,e⟩
  ·rw[hty]at a;cases a
  ·rw[hty]at e;exact⟨q,hq,a,by injection e⟩
 obtain⟨bt,ot,hto,ct,et,mt,hbt,hct⟩:=xG hd zA
 have hx0:=hct q hq1
 have hto':=yu d hd h0 b.c.ty
 rw[hq2]at hto'
 rw[<-hq3]at hx0
 clear hq3 hct hv
 unfold ud
 have hM:ClM (y8 [r0] [a0]++xU d):=zC (by unfold y8;simp only[zN,zT,Kv,Kx,JC,JD,JB,yN,yW,Ky,iR];rfl)
 unfold y8 at hM⊢
 simp only[zN,zT,Kv,Kx,JC,JD,JB,yN,yW]at hM⊢
 refine kX func133 wU ntmps133 fun C hR hP hH hL=>?_
 have hR:=hR () C hL trivial
 refine zB 100 ?_
 simp only[go_sem,BlL.r,hkd]
 refine Sm.bringC 12 3 101 5 (hb.k.mono hH) rfl rfl rfl ?_
 rw[vG,show(zZ b.c.ks).length=b.c.ks.length by simp[zZ],hks]
 refine Sm.dg 110 10 ze (vv ?_)
 refine DCallQ.dm 120 (fun _=>hto') hH (fun _=>rfl) rfl rfl (vv ?_)
 refine DOpQ.own 140 (Stp.idxV (b:=bt) (off:=ot) rfl (by rw[<-hto];rfl) rfl vm zA zA) ?_
 simp only[go_sem,Int.toNat_natCast]
 refine DOpQ.own 140 (zY (k:=1) rfl rfl rfl) (vv ?_)
 refine zE 140 (fun _=>StpC.ldA (vs:=yW T) (hH _ _ hbt) (fun j v hj=>?_) rfl rfl rfl rfl (J7 _)) ?_
 ·exact hx0 j v hj
 simp only[go_sem,yW,hkd]
 refine CallQ.pure 150 (yc T ht) rfl ?_
 simp only[go_sem,hkd]
 refine CallQ.pure 160 (xN [108,105,109,105,116]) rfl ?_
 have elg:ry [108,105,109,105,116]=false:=yg
 simp only[go_sem,hkd,elg]
 refine Sm.dg 170 16 ze (vv ?_)
 refine DCallQ.pure 180 (ui f0 ht u0 r0 g0) rfl (vv ?_)
 refine CallQ.pure 190 (ij (xf r0 a0 T) k0 k1 hk) rfl (vv ?_)
 exact yI hR hM
theorem jW {H:Hp}(d:DgL)(hd:d.ok H)(h0:d.tys.length<=1000000)(b:BlL)(hb:b.ok H)(T:Ft)(hty:vk d.tys b.c.ty=some T)(ht:yE T=true)(hkd:b.c.kd=[99,111,110,118,101,114,116])(r0:Int×Int)(a0:Ft)(hks:b.c.ks=[])(pr tb:Int×Int)(f0:yE a0=true)(g0:wQ a0 r0)(u0:uS a0 T=true):ud H d b [r0] [a0] pr (zi T b.c [r0] [a0] pr tb):=by
 have hv:zi T b.c [r0] [a0] pr tb=(xf r0 a0 T,0):=by unfold zi;rw[hkd,hks];rfl
 rw[hv]
 obtain⟨q,hq1,hq2,hq3⟩:∃q,∃h:q<d.tys.length,yw (d.tys.map (·.nm)) b.c.ty=(q:Int)/\T=d.tys[q].ty:=by
  rcases xa d.tys b.c.ty with⟨a,_⟩|⟨q,hq,a,e⟩
  ·rw[hty]at a;cases a
  ·rw[hty]at e;exact⟨q,hq,a,by injection e⟩
 obtain⟨bt,ot,hto,ct,et,mt,hbt,hct⟩:=xG hd zA
 have hx0:=hct q hq1
 have hto':=yu d hd h0 b.c.ty
 rw[hq2]at hto'
 rw[<-hq3]at hx0
 clear hq3 hct hv
 unfold ud
 have hM:ClM (y8 [r0] [a0]++xU d):=zC (by unfold y8;simp only[zN,zT,Kv,Kx,JC,JD,JB,yN,yW,Ky,iR];rfl)
 unfold y8 at hM⊢
 simp only[zN,zT,Kv,Kx,JC,JD,JB,yN,yW]at hM⊢
 refine kX func133 wU ntmps133 fun C hR hP hH hL=>?_
 have hR:=hR () C hL trivial
 refine zB 100 ?_
 simp only[go_sem,BlL.r,hkd]
 refine Sm.dg 110 10 ze (vv ?_)
 refine DCallQ.dm 120 (fun _=>hto') hH (fun _=>rfl) rfl rfl (vv ?_)
 refine DOpQ.own 140 (Stp.idxV (b:=bt) (off:=ot) rfl (by rw[<-hto];rfl) rfl vm zA zA) ?_
 simp only[go_sem,Int.toNat_natCast]
 refine DOpQ.own 140 (zY (k:=1) rfl rfl rfl) (vv ?_)
 refine zE 140 (fun _=>StpC.ldA (vs:=yW T) (hH _ _ hbt) (fun j v hj=>?_) rfl rfl rfl rfl (J7 _)) ?_
 ·exact hx0 j v hj
 simp only[go_sem,yW,hkd]
 refine CallQ.pure 150 (yc T ht) rfl ?_
 simp only[go_sem,hkd]
 refine CallQ.pure 160 (xN [99,111,110,118,101,114,116]) rfl ?_
 have elg:ry [99,111,110,118,101,114,116]=false:=yg
 simp only[go_sem,hkd,elg]
 refine Sm.dg 170 7 ze (vv ?_)
 refine CallQ.pure 180 (ui f0 ht u0 r0 g0) rfl (vv ?_)
 exact yI hR hM
theorem dL {H:Hp}(d:DgL)(hd:d.ok H)(h0:d.tys.length<=1000000)(b:BlL)(hb:b.ok H)(T:Ft)(hty:vk d.tys b.c.ty=some T)(ht:yE T=true)(hkd:b.c.kd=[99,117,114,118,101])(r0:Int×Int)(a0:Ft)(hks:b.c.ks=[])(pr tb:Int×Int)(c:CuL)(hcq:iX d.cus b.c.tb=some c)(hcn:d.cus.length<=1000000)(kc:CuOk c.c)(kq:vq c.c.xs c.c.ys=true)(g0:wQ a0 r0)(htb:tb=qp (rH c.c r0).1 (tC T) (th T)):ud H d b [r0] [a0] pr (zi T b.c [r0] [a0] pr tb):=by
 have hv:zi T b.c [r0] [a0] pr tb=(tb,0):=by unfold zi;rw[hkd,hks];rfl
 rw[hv]
 obtain⟨q,hq1,hq2,hq3⟩:∃q,∃h:q<d.tys.length,yw (d.tys.map (·.nm)) b.c.ty=(q:Int)/\T=d.tys[q].ty:=by
  rcases xa d.tys b.c.ty with⟨a,_⟩|⟨q,hq,a,e⟩
  ·rw[hty]at a;cases a
  ·rw[hty]at e;exact⟨q,hq,a,by injection e⟩
 obtain⟨bt,ot,hto,ct,et,mt,hbt,hct⟩:=xG hd zA
 have hx0:=hct q hq1
 have hto':=yu d hd h0 b.c.ty
 rw[hq2]at hto'
 rw[<-hq3]at hx0
 clear hq3 hct hv
 obtain⟨qc,hqc1,hqc2,hqc3⟩:∃q,∃h:q<d.cus.length,yw (d.cus.map (fun c:CuL=>c.c.nm)) b.c.tb=(q:Int)/\c=d.cus[q]:=by
  rcases aO (fun c:CuL=>c.c.nm) b.c.tb d.cus with⟨a,_⟩|⟨q,hq,a,e⟩
  ·have hcq:d.cus.find? (fun x=>x.c.nm==b.c.tb)=some c:=hcq
   rw[hcq]at a;cases a
  ·have hcq:d.cus.find? (fun x=>x.c.nm==b.c.tb)=some c:=hcq
   rw[hcq]at e;exact⟨q,hq,a,by injection e⟩
 obtain⟨bq,oq,hqo,cq,eq,mq,hbq,hcq2⟩:=VS hd zA
 have hy0:=hcq2 qc hqc1
 have hco:=hd.cus _ (JE hqc1)
 rw[<-hqc3]at hy0 hco
 have hof:=bG d hd hcn b.c.tb
 rw[hqc2]at hof
 clear hqc3 hcq2
 unfold ud
 have hM:ClM (y8 [r0] [a0]++xU d):=zC (by unfold y8;simp only[zN,zT,Kv,Kx,JC,JD,JB,yN,yW,Ky,iR];rfl)
 unfold y8 at hM⊢
 simp only[zN,zT,Kv,Kx,JC,JD,JB,yN,yW]at hM⊢
 refine kX func133 wU ntmps133 fun C hR hP hH hL=>?_
 have hR:=hR () C hL trivial
 refine zB 100 ?_
 simp only[go_sem,BlL.r,hkd]
 refine Sm.dg 110 10 ze (vv ?_)
 refine DCallQ.dm 120 (fun _=>hto') hH (fun _=>rfl) rfl rfl (vv ?_)
 refine DOpQ.own 140 (Stp.idxV (b:=bt) (off:=ot) rfl (by rw[<-hto];rfl) rfl vm zA zA) ?_
 simp only[go_sem,Int.toNat_natCast]
 refine DOpQ.own 140 (zY (k:=1) rfl rfl rfl) (vv ?_)
 refine zE 140 (fun _=>StpC.ldA (vs:=yW T) (hH _ _ hbt) (fun j v hj=>?_) rfl rfl rfl rfl (J7 _)) ?_
 ·exact hx0 j v hj
 simp only[go_sem,yW,hkd]
 refine CallQ.pure 150 (yc T ht) rfl ?_
 simp only[go_sem,hkd]
 refine CallQ.pure 160 (xN [99,117,114,118,101]) rfl ?_
 have elg:ry [99,117,114,118,101]=false:=yg
 simp only[go_sem,hkd,elg]
 refine Sm.dg 170 18 ze (vv ?_)
 refine DCallQ.dm 180 (fun _=>hof) hH (fun _=>rfl) rfl rfl (vv ?_)
 refine DOpQ.own 190 (Stp.idxV (b:=bq) (off:=oq) rfl (by rw[<-hqo];rfl) rfl P6 zA zA) ?_
 simp only[go_sem,Int.toNat_natCast]
 refine DOpQ.own 190 (zY (k:=1) rfl rfl rfl) (vv ?_)
 refine zE 190 (fun _=>StpC.ldA (vs:=[vsl c.x c.c.xs.length,vsl c.y c.c.ys.length]) (hH _ _ hbq) (fun j v hj=>?_) rfl rfl rfl rfl (J7 _)) ?_
 ·exact hy0 j v hj
 refine vv ?_
 refine x7 200 (fun _=>UC c (hco.mono hH) kc kq r0 g0.2.1) (zV _) (fun _=>rfl) (vv ?_)
 refine CallQ.pure 210 (ij (rH c.c r0).1 (tC T) (th T) (aR ht)) rfl ?_
 rw[<-htb]
 refine vv ?_
 exact yI hR hM
theorem Zj {H:Hp}(d:DgL)(hd:d.ok H)(h0:d.tys.length<=1000000)(b:BlL)(hb:b.ok H)(T:Ft)(hty:vk d.tys b.c.ty=some T)(ht:yE T=true)(hkd:b.c.kd=[109,97,112])(r0 r1:Int×Int)(a0 a1:Ft)(hks:b.c.ks=[])(pr tb:Int×Int)(c:MpL)(hcq:gE d.mas b.c.tb=some c)(hcn:d.mas.length<=1000000)(kc:MaOk c.c)(kq:wD c.xs c.ys (c.zs.map (·.2))=true)(g0:wQ a0 r0)(g1:wQ a1 r1)(htb:tb=qp (rG c.c r0 r1).1 (tC T) (th T)):ud H d b [r0,r1] [a0,a1] pr (zi T b.c [r0,r1] [a0,a1] pr tb):=by
 have hv:zi T b.c [r0,r1] [a0,a1] pr tb=(tb,0):=by unfold zi;rw[hkd,hks];rfl
 rw[hv]
 obtain⟨q,hq1,hq2,hq3⟩:∃q,∃h:q<d.tys.length,yw (d.tys.map (·.nm)) b.c.ty=(q:Int)/\T=d.tys[q].ty:=by
  rcases xa d.tys b.c.ty with⟨a,_⟩|⟨q,hq,a,e⟩
  ·rw[hty]at a;cases a
  ·rw[hty]at e;exact⟨q,hq,a,by injection e⟩
 obtain⟨bt,ot,hto,ct,et,mt,hbt,hct⟩:=xG hd zA
 have hx0:=hct q hq1
 have hto':=yu d hd h0 b.c.ty
 rw[hq2]at hto'
 rw[<-hq3]at hx0
 clear hq3 hct hv
 obtain⟨qc,hqc1,hqc2,hqc3⟩:∃q,∃h:q<d.mas.length,yw (d.mas.map (fun c:MpL=>c.nm)) b.c.tb=(q:Int)/\c=d.mas[q]:=by
  rcases aO (fun c:MpL=>c.nm) b.c.tb d.mas with⟨a,_⟩|⟨q,hq,a,e⟩
  ·have hcq:d.mas.find? (fun x=>x.nm==b.c.tb)=some c:=hcq
   rw[hcq]at a;cases a
  ·have hcq:d.mas.find? (fun x=>x.nm==b.c.tb)=some c:=hcq
   rw[hcq]at e;exact⟨q,hq,a,by injection e⟩
 obtain⟨bq,oq,hqo,cq,eq,mq,hbq,hcq2⟩:=Wm hd zA
 have hy0:=hcq2 qc hqc1
 have hco:=hd.mas _ (JE hqc1)
 rw[<-hqc3]at hy0 hco
 have hof:=bA d hd hcn b.c.tb
 rw[hqc2]at hof
 clear hqc3 hcq2
 unfold ud
 have hM:ClM (y8 [r0,r1] [a0,a1]++xU d):=zC (by unfold y8;simp only[zN,zT,Kv,Kx,JC,JD,JB,yN,yW,Ky,iR];rfl)
 unfold y8 at hM⊢
 simp only[zN,zT,Kv,Kx,JC,JD,JB,yN,yW]at hM⊢
 refine kX func133 wU ntmps133 fun C hR hP hH hL=>?_
 have hR:=hR () C hL trivial
 refine zB 100 ?_
 simp only[go_sem,BlL.r,hkd]
 refine Sm.dg 110 10 ze (vv ?_)
 refine DCallQ.dm 120 (fun _=>hto') hH (fun _=>rfl) rfl rfl (vv ?_)
 refine DOpQ.own 140 (Stp.idxV (b:=bt) (off:=ot) rfl (by rw[<-hto];rfl) rfl vm zA zA) ?_
 simp only[go_sem,Int.toNat_natCast]
 refine DOpQ.own 140 (zY (k:=1) rfl rfl rfl) (vv ?_)
 refine zE 140 (fun _=>StpC.ldA (vs:=yW T) (hH _ _ hbt) (fun j v hj=>?_) rfl rfl rfl rfl (J7 _)) ?_
 ·exact hx0 j v hj
 simp only[go_sem,yW,hkd]
 refine CallQ.pure 150 (yc T ht) rfl ?_
 simp only[go_sem,hkd]
 refine CallQ.pure 160 (xN [109,97,112]) rfl ?_
 have elg:ry [109,97,112]=false:=yg
 simp only[go_sem,hkd,elg]
 refine Sm.dg 170 21 ze (vv ?_)
 refine DCallQ.dm 180 (fun _=>hof) hH (fun _=>rfl) rfl rfl (vv ?_)
 refine DOpQ.own 190 (Stp.idxV (b:=bq) (off:=oq) rfl (by rw[<-hqo];rfl) rfl P5 zA zA) ?_
 simp only[go_sem,Int.toNat_natCast]
 refine DOpQ.own 190 (zY (k:=1) rfl rfl rfl) (vv ?_)
 refine zE 190 (fun _=>StpC.ldA (vs:=[vsl c.x c.xs.length,vsl c.y c.ys.length,vsl c.z c.zs.length]) (hH _ _ hbq) (fun j v hj=>?_) rfl rfl rfl rfl (J7 _)) ?_
 ·exact hy0 j v hj
 refine vv ?_
 refine x7 200 (fun _=>Vz c (hco.mono hH) kc kq r0 r1 g0.2.1 g1.2.1) (zV _) (fun _=>rfl) (vv ?_)
 refine CallQ.pure 210 (ij (rG c.c r0 r1).1 (tC T) (th T) (aR ht)) rfl ?_
 rw[<-htb]
 refine vv ?_
 exact yI hR hM
theorem dK {H:Hp}(d:DgL)(hd:d.ok H)(h0:d.tys.length<=1000000)(b:BlL)(hb:b.ok H)(T:Ft)(hty:vk d.tys b.c.ty=some T)(ht:yE T=true)(hkd:b.c.kd=[100,101,108,97,121])(r0:Int×Int)(a0:Ft)(k0:Int)(hks:b.c.ks=[k0])(pr tb:Int×Int):ud H d b [r0] [a0] pr (zi T b.c [r0] [a0] pr tb):=by
 have hv:zi T b.c [r0] [a0] pr tb=(pr,0):=by unfold zi;rw[hkd,hks];rfl
 rw[hv]
 obtain⟨q,hq1,hq2,hq3⟩:∃q,∃h:q<d.tys.length,yw (d.tys.map (·.nm)) b.c.ty=(q:Int)/\T=d.tys[q].ty:=by
  rcases xa d.tys b.c.ty with⟨a,_⟩|⟨q,hq,a,e⟩
  ·rw[hty]at a;cases a
  ·rw[hty]at e;exact⟨q,hq,a,by injection e⟩
 obtain⟨bt,ot,hto,ct,et,mt,hbt,hct⟩:=xG hd zA
 have hx0:=hct q hq1
 have hto':=yu d hd h0 b.c.ty
 rw[hq2]at hto'
 rw[<-hq3]at hx0
 clear hq3 hct hv
 unfold ud
 have hM:ClM (y8 [r0] [a0]++xU d):=zC (by unfold y8;simp only[zN,zT,Kv,Kx,JC,JD,JB,yN,yW,Ky,iR];rfl)
 unfold y8 at hM⊢
 simp only[zN,zT,Kv,Kx,JC,JD,JB,yN,yW]at hM⊢
 refine kX func133 wU ntmps133 fun C hR hP hH hL=>?_
 have hR:=hR () C hL trivial
 refine zB 100 ?_
 simp only[go_sem,BlL.r,hkd]
 refine Sm.dg 110 10 ze (vv ?_)
 refine DCallQ.dm 120 (fun _=>hto') hH (fun _=>rfl) rfl rfl (vv ?_)
 refine DOpQ.own 140 (Stp.idxV (b:=bt) (off:=ot) rfl (by rw[<-hto];rfl) rfl vm zA zA) ?_
 simp only[go_sem,Int.toNat_natCast]
 refine DOpQ.own 140 (zY (k:=1) rfl rfl rfl) (vv ?_)
 refine zE 140 (fun _=>StpC.ldA (vs:=yW T) (hH _ _ hbt) (fun j v hj=>?_) rfl rfl rfl rfl (J7 _)) ?_
 ·exact hx0 j v hj
 simp only[go_sem,yW,hkd]
 refine CallQ.pure 150 (yc T ht) rfl ?_
 simp only[go_sem,hkd]
 refine CallQ.pure 160 (xN [100,101,108,97,121]) rfl ?_
 have elg:ry [100,101,108,97,121]=false:=yg
 simp only[go_sem,hkd,elg]
 exact yI hR hM
theorem Zk {H:Hp}(d:DgL)(hd:d.ok H)(h0:d.tys.length<=1000000)(b:BlL)(hb:b.ok H)(T:Ft)(hty:vk d.tys b.c.ty=some T)(ht:yE T=true)(hkd:b.c.kd=[108,97,103])(r0:Int×Int)(a0:Ft)(k0:Int)(hks:b.c.ks=[k0])(pr tb:Int×Int)(f0:yE a0=true)(g0:wQ a0 r0)(u0:uS a0 T=true):ud H d b [r0] [a0] pr (zi T b.c [r0] [a0] pr tb):=by
 have hv:zi T b.c [r0] [a0] pr tb=(vp pr (xf r0 a0 T),0):=by unfold zi;rw[hkd,hks];rfl
 rw[hv]
 obtain⟨q,hq1,hq2,hq3⟩:∃q,∃h:q<d.tys.length,yw (d.tys.map (·.nm)) b.c.ty=(q:Int)/\T=d.tys[q].ty:=by
  rcases xa d.tys b.c.ty with⟨a,_⟩|⟨q,hq,a,e⟩
  ·rw[hty]at a;cases a
  ·rw[hty]at e;exact⟨q,hq,a,by injection e⟩
 obtain⟨bt,ot,hto,ct,et,mt,hbt,hct⟩:=xG hd zA
 have hx0:=hct q hq1
 have hto':=yu d hd h0 b.c.ty
 rw[hq2]at hto'
 rw[<-hq3]at hx0
 clear hq3 hct hv
 unfold ud
 have hM:ClM (y8 [r0] [a0]++xU d):=zC (by unfold y8;simp only[zN,zT,Kv,Kx,JC,JD,JB,yN,yW,Ky,iR];rfl)
 unfold y8 at hM⊢
 simp only[zN,zT,Kv,Kx,JC,JD,JB,yN,yW]at hM⊢
 refine kX func133 wU ntmps133 fun C hR hP hH hL=>?_
 have hR:=hR () C hL trivial
 refine zB 100 ?_
 simp only[go_sem,BlL.r,hkd]
 refine Sm.dg 110 10 ze (vv ?_)
 refine DCallQ.dm 120 (fun _=>hto') hH (fun _=>rfl) rfl rfl (vv ?_)
 refine DOpQ.own 140 (Stp.idxV (b:=bt) (off:=ot) rfl (by rw[<-hto];rfl) rfl vm zA zA) ?_
 simp only[go_sem,Int.toNat_natCast]
 refine DOpQ.own 140 (zY (k:=1) rfl rfl rfl) (vv ?_)
 refine zE 140 (fun _=>StpC.ldA (vs:=yW T) (hH _ _ hbt) (fun j v hj=>?_) rfl rfl rfl rfl (J7 _)) ?_
 ·exact hx0 j v hj
 simp only[go_sem,yW,hkd]
 refine CallQ.pure 150 (yc T ht) rfl ?_
 simp only[go_sem,hkd]
 refine CallQ.pure 160 (xN [108,97,103]) rfl ?_
 have elg:ry [108,97,103]=false:=yg
 simp only[go_sem,hkd,elg]
 refine Sm.dg 170 9 ze (vv ?_)
 refine DCallQ.pure 180 (ui f0 ht u0 r0 g0) rfl (vv ?_)
 refine CallQ.pure 190 (ik pr (xf r0 a0 T)) rfl (vv ?_)
 exact yI hR hM
theorem im {H:Hp}(d:DgL)(hd:d.ok H)(h0:d.tys.length<=1000000)(b:BlL)(hb:b.ok H)(T:Ft)(hty:vk d.tys b.c.ty=some T)(ht:yE T=true)(hkd:b.c.kd=[115,119,105,116,99,104])(r0 r1 r2:Int×Int)(a0 a1 a2:Ft)(hks:b.c.ks=[])(pr tb:Int×Int)(f1:yE a1=true)(g1:wQ a1 r1)(u1:uS a1 T=true)(f2:yE a2=true)(g2:wQ a2 r2)(u2:uS a2 T=true):ud H d b [r0,r1,r2] [a0,a1,a2] pr (zi T b.c [r0,r1,r2] [a0,a1,a2] pr tb):=by
 have hv:zi T b.c [r0,r1,r2] [a0,a1,a2] pr tb=(bif !(xB r0).2 then xf r1 a1 T else bif !(xB r0).1 then xf r2 a2 T else vp (xf r1 a1 T) (xf r2 a2 T),0):=by unfold zi;rw[hkd,hks];rfl
 rw[hv]
 obtain⟨q,hq1,hq2,hq3⟩:∃q,∃h:q<d.tys.length,yw (d.tys.map (·.nm)) b.c.ty=(q:Int)/\T=d.tys[q].ty:=by
  rcases xa d.tys b.c.ty with⟨a,_⟩|⟨q,hq,a,e⟩
  ·rw[hty]at a;cases a
  ·rw[hty]at e;exact⟨q,hq,a,by injection e⟩
 obtain⟨bt,ot,hto,ct,et,mt,hbt,hct⟩:=xG hd zA
 have hx0:=hct q hq1
 have hto':=yu d hd h0 b.c.ty
 rw[hq2]at hto'
 rw[<-hq3]at hx0
 clear hq3 hct hv
 unfold ud
 have hM:ClM (y8 [r0,r1,r2] [a0,a1,a2]++xU d):=zC (by unfold y8;simp only[zN,zT,Kv,Kx,JC,JD,JB,yN,yW,Ky,iR];rfl)
 unfold y8 at hM⊢
 simp only[zN,zT,Kv,Kx,JC,JD,JB,yN,yW]at hM⊢
 refine kX func133 wU ntmps133 fun C hR hP hH hL=>?_
 have hR:=hR () C hL trivial
 refine zB 100 ?_
 simp only[go_sem,BlL.r,hkd]
 refine Sm.dg 110 10 ze (vv ?_)
 refine DCallQ.dm 120 (fun _=>hto') hH (fun _=>rfl) rfl rfl (vv ?_)
 refine DOpQ.own 140 (Stp.idxV (b:=bt) (off:=ot) rfl (by rw[<-hto];rfl) rfl vm zA zA) ?_
 simp only[go_sem,Int.toNat_natCast]
 refine DOpQ.own 140 (zY (k:=1) rfl rfl rfl) (vv ?_)
 refine zE 140 (fun _=>StpC.ldA (vs:=yW T) (hH _ _ hbt) (fun j v hj=>?_) rfl rfl rfl rfl (J7 _)) ?_
 ·exact hx0 j v hj
 simp only[go_sem,yW,hkd]
 refine CallQ.pure 150 (yc T ht) rfl ?_
 simp only[go_sem,hkd]
 refine CallQ.pure 160 (xN [115,119,105,116,99,104]) rfl ?_
 have elg:ry [115,119,105,116,99,104]=false:=yg
 simp only[go_sem,hkd,elg]
 refine Sm.dg 170 18 ze (vv ?_)
 refine DCallQ.pure 180 (ui f1 ht u1 r1 g1) rfl (vv ?_)
 refine DCallQ.pure 190 (ui f2 ht u2 r2 g2) rfl (vv ?_)
 refine CallQ.pure 200 (mG r0) rfl ?_
 rw[lR]at hR
 have hrg:=uC r0
 generalize sD r0=z at*
 generalize xf r1 a1 T=x1 at*
 generalize xf r2 a2 T=x2 at*
 refine vv ?_
 rcases hrg with rfl|rfl|rfl
 ·simp only[go_sem]
  exact yI hR hM
 ·simp only[go_sem]
  exact yI hR hM
 ·simp only[go_sem]
  refine CallQ.pure 210 (ik x1 x2) rfl (vv ?_)
  exact yI hR hM
theorem bK {H:Hp}(d:DgL)(hd:d.ok H)(h0:d.tys.length<=1000000)(b:BlL)(hb:b.ok H)(T:Ft)(hty:vk d.tys b.c.ty=some T)(ht:yE T=true)(hkd:b.c.kd=[108,101,115,115])(r0 r1:Int×Int)(a0 a1:Ft)(hks:b.c.ks=[])(pr tb:Int×Int)(f0:yE a0=true)(f1:yE a1=true)(g0:wQ a0 r0)(g1:wQ a1 r1)(u:uS a0 a1=true):ud H d b [r0,r1] [a0,a1] pr (zi T b.c [r0,r1] [a0,a1] pr tb):=by
 have hv:zi T b.c [r0,r1] [a0,a1] pr tb=(np true r0 r1 a0 a1,0):=by unfold zi;rw[hkd,hks];rfl
 rw[hv]
 rw[<-Yf f0 f1 g0 g1 u]
 have hlg:vt H b [r0,r1] [a0,a1] _:=bw b hkd r0 r1 a0 a1 f0 f1 g0 g1
 generalize dS a0 a1 r0 r1=z at*
 unfold vt at hlg
 have hbk:ClM (y8 [r0,r1] [a0,a1]):=zC rfl
 obtain⟨q,hq1,hq2,hq3⟩:∃q,∃h:q<d.tys.length,yw (d.tys.map (·.nm)) b.c.ty=(q:Int)/\T=d.tys[q].ty:=by
  rcases xa d.tys b.c.ty with⟨a,_⟩|⟨q,hq,a,e⟩
  ·rw[hty]at a;cases a
  ·rw[hty]at e;exact⟨q,hq,a,by injection e⟩
 obtain⟨bt,ot,hto,ct,et,mt,hbt,hct⟩:=xG hd zA
 have hx0:=hct q hq1
 have hto':=yu d hd h0 b.c.ty
 rw[hq2]at hto'
 rw[<-hq3]at hx0
 clear hq3 hct hv
 unfold ud
 have hM:ClM (y8 [r0,r1] [a0,a1]++xU d):=zC (by unfold y8;simp only[zN,zT,Kv,Kx,JC,JD,JB,yN,yW,Ky,iR];rfl)
 unfold y8 at hlg hbk hM⊢
 simp only[zN,zT,Kv,Kx,JC,JD,JB,yN,yW]at hlg hbk hM⊢
 refine kX func133 wU ntmps133 fun C hR hP hH hL=>?_
 have hR:=hR () C hL trivial
 refine zB 100 ?_
 simp only[go_sem,BlL.r,hkd]
 refine Sm.dg 110 10 ze (vv ?_)
 refine DCallQ.dm 120 (fun _=>hto') hH (fun _=>rfl) rfl rfl (vv ?_)
 refine DOpQ.own 140 (Stp.idxV (b:=bt) (off:=ot) rfl (by rw[<-hto];rfl) rfl vm zA zA) ?_
 simp only[go_sem,Int.toNat_natCast]
 refine DOpQ.own 140 (zY (k:=1) rfl rfl rfl) (vv ?_)
 refine zE 140 (fun _=>StpC.ldA (vs:=yW T) (hH _ _ hbt) (fun j v hj=>?_) rfl rfl rfl rfl (J7 _)) ?_
 ·exact hx0 j v hj
 simp only[go_sem,yW,hkd]
 refine CallQ.pure 150 (yc T ht) rfl ?_
 simp only[go_sem,hkd]
 refine CallQ.pure 160 (xN [108,101,115,115]) rfl ?_
 have elg:ry [108,101,115,115]=true:=yg
 simp only[go_sem,hkd,elg]
 refine CallQ.hm 170 (fun _=>hlg) hH hbk (fun _=>by simp only[yD,BlL.r,hkd,Kv,Kx,JR,J9]) ⟨oS,oS,trivial⟩ ?_
 simp only[go_sem,hkd]
 refine CallQ.pure 180 (mJ z) rfl (vv ?_)
 exact yI hR hM
theorem dJ {H:Hp}(d:DgL)(hd:d.ok H)(h0:d.tys.length<=1000000)(b:BlL)(hb:b.ok H)(T:Ft)(hty:vk d.tys b.c.ty=some T)(ht:yE T=true)(hkd:b.c.kd=[101,113,117,97,108])(r0 r1:Int×Int)(a0 a1:Ft)(hks:b.c.ks=[])(pr tb:Int×Int)(f0:yE a0=true)(f1:yE a1=true)(g0:wQ a0 r0)(g1:wQ a1 r1)(u:uS a0 a1=true)(w:uS a1 a0=true):ud H d b [r0,r1] [a0,a1] pr (zi T b.c [r0,r1] [a0,a1] pr tb):=by
 have hv:zi T b.c [r0,r1] [a0,a1] pr tb=(np false r0 r1 a0 a1,0):=by unfold zi;rw[hkd,hks];rfl
 rw[hv]
 rw[<-Yg f0 f1 g0 g1 u w]
 have hlg:vt H b [r0,r1] [a0,a1] _:=dR b hkd r0 r1 a0 a1 f0 f1 g0 g1
 generalize dX a0 a1 r0 r1=z at*
 unfold vt at hlg
 have hbk:ClM (y8 [r0,r1] [a0,a1]):=zC rfl
 obtain⟨q,hq1,hq2,hq3⟩:∃q,∃h:q<d.tys.length,yw (d.tys.map (·.nm)) b.c.ty=(q:Int)/\T=d.tys[q].ty:=by
  rcases xa d.tys b.c.ty with⟨a,_⟩|⟨q,hq,a,e⟩
  ·rw[hty]at a;cases a
  ·rw[hty]at e;exact⟨q,hq,a,by injection e⟩
 obtain⟨bt,ot,hto,ct,et,mt,hbt,hct⟩:=xG hd zA
 have hx0:=hct q hq1
 have hto':=yu d hd h0 b.c.ty
 rw[hq2]at hto'
 rw[<-hq3]at hx0
 clear hq3 hct hv
 unfold ud
 have hM:ClM (y8 [r0,r1] [a0,a1]++xU d):=zC (by unfold y8;simp only[zN,zT,Kv,Kx,JC,JD,JB,yN,yW,Ky,iR];rfl)
 unfold y8 at hlg hbk hM⊢
 simp only[zN,zT,Kv,Kx,JC,JD,JB,yN,yW]at hlg hbk hM⊢
 refine kX func133 wU ntmps133 fun C hR hP hH hL=>?_
 have hR:=hR () C hL trivial
 refine zB 100 ?_
 simp only[go_sem,BlL.r,hkd]
 refine Sm.dg 110 10 ze (vv ?_)
 refine DCallQ.dm 120 (fun _=>hto') hH (fun _=>rfl) rfl rfl (vv ?_)
 refine DOpQ.own 140 (Stp.idxV (b:=bt) (off:=ot) rfl (by rw[<-hto];rfl) rfl vm zA zA) ?_
 simp only[go_sem,Int.toNat_natCast]
 refine DOpQ.own 140 (zY (k:=1) rfl rfl rfl) (vv ?_)
 refine zE 140 (fun _=>StpC.ldA (vs:=yW T) (hH _ _ hbt) (fun j v hj=>?_) rfl rfl rfl rfl (J7 _)) ?_
 ·exact hx0 j v hj
 simp only[go_sem,yW,hkd]
 refine CallQ.pure 150 (yc T ht) rfl ?_
 simp only[go_sem,hkd]
 refine CallQ.pure 160 (xN [101,113,117,97,108]) rfl ?_
 have elg:ry [101,113,117,97,108]=true:=yg
 simp only[go_sem,hkd,elg]
 refine CallQ.hm 170 (fun _=>hlg) hH hbk (fun _=>by simp only[yD,BlL.r,hkd,Kv,Kx,JR,J9]) ⟨oS,oS,trivial⟩ ?_
 simp only[go_sem,hkd]
 refine CallQ.pure 180 (mJ z) rfl (vv ?_)
 exact yI hR hM
theorem Zm {H:Hp}(d:DgL)(hd:d.ok H)(h0:d.tys.length<=1000000)(b:BlL)(hb:b.ok H)(T:Ft)(hty:vk d.tys b.c.ty=some T)(ht:yE T=true)(hkd:b.c.kd=[97,110,100])(r0 r1:Int×Int)(a0 a1:Ft)(hks:b.c.ks=[])(pr tb:Int×Int):ud H d b [r0,r1] [a0,a1] pr (zi T b.c [r0,r1] [a0,a1] pr tb):=by
 have hv:zi T b.c [r0,r1] [a0,a1] pr tb=(sK 1 r0 r1,0):=by unfold zi;rw[hkd,hks];rfl
 rw[hv]
 rw[<-YM r0 r1]
 have hlg:vt H b [r0,r1] [a0,a1] _:=YQ b hkd r0 r1 a0 a1
 generalize na 0 (sD r0) (sD r1)=z at*
 unfold vt at hlg
 have hbk:ClM (y8 [r0,r1] [a0,a1]):=zC rfl
 obtain⟨q,hq1,hq2,hq3⟩:∃q,∃h:q<d.tys.length,yw (d.tys.map (·.nm)) b.c.ty=(q:Int)/\T=d.tys[q].ty:=by
  rcases xa d.tys b.c.ty with⟨a,_⟩|⟨q,hq,a,e⟩
  ·rw[hty]at a;cases a
  ·rw[hty]at e;exact⟨q,hq,a,by injection e⟩
 obtain⟨bt,ot,hto,ct,et,mt,hbt,hct⟩:=xG hd zA
 have hx0:=hct q hq1
 have hto':=yu d hd h0 b.c.ty
 rw[hq2]at hto'
 rw[<-hq3]at hx0
 clear hq3 hct hv
 unfold ud
 have hM:ClM (y8 [r0,r1] [a0,a1]++xU d):=zC (by unfold y8;simp only[zN,zT,Kv,Kx,JC,JD,JB,yN,yW,Ky,iR];rfl)
 unfold y8 at hlg hbk hM⊢
 simp only[zN,zT,Kv,Kx,JC,JD,JB,yN,yW]at hlg hbk hM⊢
 refine kX func133 wU ntmps133 fun C hR hP hH hL=>?_
 have hR:=hR () C hL trivial
 refine zB 100 ?_
 simp only[go_sem,BlL.r,hkd]
 refine Sm.dg 110 10 ze (vv ?_)
 refine DCallQ.dm 120 (fun _=>hto') hH (fun _=>rfl) rfl rfl (vv ?_)
 refine DOpQ.own 140 (Stp.idxV (b:=bt) (off:=ot) rfl (by rw[<-hto];rfl) rfl vm zA zA) ?_
 simp only[go_sem,Int.toNat_natCast]
 refine DOpQ.own 140 (zY (k:=1) rfl rfl rfl) (vv ?_)
 refine zE 140 (fun _=>StpC.ldA (vs:=yW T) (hH _ _ hbt) (fun j v hj=>?_) rfl rfl rfl rfl (J7 _)) ?_
 ·exact hx0 j v hj
 simp only[go_sem,yW,hkd]
 refine CallQ.pure 150 (yc T ht) rfl ?_
 simp only[go_sem,hkd]
 refine CallQ.pure 160 (xN [97,110,100]) rfl ?_
 have elg:ry [97,110,100]=true:=yg
 simp only[go_sem,hkd,elg]
 refine CallQ.hm 170 (fun _=>hlg) hH hbk (fun _=>by simp only[yD,BlL.r,hkd,Kv,Kx,JR,J9]) ⟨oS,oS,trivial⟩ ?_
 simp only[go_sem,hkd]
 refine CallQ.pure 180 (mJ z) rfl (vv ?_)
 exact yI hR hM
theorem W0 {H:Hp}(d:DgL)(hd:d.ok H)(h0:d.tys.length<=1000000)(b:BlL)(hb:b.ok H)(T:Ft)(hty:vk d.tys b.c.ty=some T)(ht:yE T=true)(hkd:b.c.kd=[111,114])(r0 r1:Int×Int)(a0 a1:Ft)(hks:b.c.ks=[])(pr tb:Int×Int):ud H d b [r0,r1] [a0,a1] pr (zi T b.c [r0,r1] [a0,a1] pr tb):=by
 have hv:zi T b.c [r0,r1] [a0,a1] pr tb=(sK 2 r0 r1,0):=by unfold zi;rw[hkd,hks];rfl
 rw[hv]
 rw[<-Wv r0 r1]
 have hlg:vt H b [r0,r1] [a0,a1] _:=Ww b hkd r0 r1 a0 a1
 generalize na 1 (sD r0) (sD r1)=z at*
 unfold vt at hlg
 have hbk:ClM (y8 [r0,r1] [a0,a1]):=zC rfl
 obtain⟨q,hq1,hq2,hq3⟩:∃q,∃h:q<d.tys.length,yw (d.tys.map (·.nm)) b.c.ty=(q:Int)/\T=d.tys[q].ty:=by
  rcases xa d.tys b.c.ty with⟨a,_⟩|⟨q,hq,a,e⟩
  ·rw[hty]at a;cases a
  ·rw[hty]at e;exact⟨q,hq,a,by injection e⟩
 obtain⟨bt,ot,hto,ct,et,mt,hbt,hct⟩:=xG hd zA
 have hx0:=hct q hq1
 have hto':=yu d hd h0 b.c.ty
 rw[hq2]at hto'
 rw[<-hq3]at hx0
 clear hq3 hct hv
 unfold ud
 have hM:ClM (y8 [r0,r1] [a0,a1]++xU d):=zC (by unfold y8;simp only[zN,zT,Kv,Kx,JC,JD,JB,yN,yW,Ky,iR];rfl)
 unfold y8 at hlg hbk hM⊢
 simp only[zN,zT,Kv,Kx,JC,JD,JB,yN,yW]at hlg hbk hM⊢
 refine kX func133 wU ntmps133 fun C hR hP hH hL=>?_
 have hR:=hR () C hL trivial
 refine zB 100 ?_
 simp only[go_sem,BlL.r,hkd]
 refine Sm.dg 110 10 ze (vv ?_)
 refine DCallQ.dm 120 (fun _=>hto') hH (fun _=>rfl) rfl rfl (vv ?_)
 refine DOpQ.own 140 (Stp.idxV (b:=bt) (off:=ot) rfl (by rw[<-hto];rfl) rfl vm zA zA) ?_
 simp only[go_sem,Int.toNat_natCast]
 refine DOpQ.own 140 (zY (k:=1) rfl rfl rfl) (vv ?_)
 refine zE 140 (fun _=>StpC.ldA (vs:=yW T) (hH _ _ hbt) (fun j v hj=>?_) rfl rfl rfl rfl (J7 _)) ?_
 ·exact hx0 j v hj
 simp only[go_sem,yW,hkd]
 refine CallQ.pure 150 (yc T ht) rfl ?_
 simp only[go_sem,hkd]
 refine CallQ.pure 160 (xN [111,114]) rfl ?_
 have elg:ry [111,114]=true:=yg
 simp only[go_sem,hkd,elg]
 refine CallQ.hm 170 (fun _=>hlg) hH hbk (fun _=>by simp only[yD,BlL.r,hkd,Kv,Kx,JR,J9]) ⟨oS,oS,trivial⟩ ?_
 simp only[go_sem,hkd]
 refine CallQ.pure 180 (mJ z) rfl (vv ?_)
 exact yI hR hM
theorem Ze {H:Hp}(d:DgL)(hd:d.ok H)(h0:d.tys.length<=1000000)(b:BlL)(hb:b.ok H)(T:Ft)(hty:vk d.tys b.c.ty=some T)(ht:yE T=true)(hkd:b.c.kd=[110,111,116])(r0:Int×Int)(a0:Ft)(hks:b.c.ks=[])(pr tb:Int×Int):ud H d b [r0] [a0] pr (zi T b.c [r0] [a0] pr tb):=by
 have hv:zi T b.c [r0] [a0] pr tb=(sK 0 r0 (0,0),0):=by unfold zi;rw[hkd,hks];rfl
 rw[hv]
 rw[<-YK r0 (0,0)]
 have hlg:vt H b [r0] [a0] _:=YP b hkd r0 a0
 generalize bZ (sD r0)=z at*
 unfold vt at hlg
 have hbk:ClM (y8 [r0] [a0]):=zC rfl
 obtain⟨q,hq1,hq2,hq3⟩:∃q,∃h:q<d.tys.length,yw (d.tys.map (·.nm)) b.c.ty=(q:Int)/\T=d.tys[q].ty:=by
  rcases xa d.tys b.c.ty with⟨a,_⟩|⟨q,hq,a,e⟩
  ·rw[hty]at a;cases a
  ·rw[hty]at e;exact⟨q,hq,a,by injection e⟩
 obtain⟨bt,ot,hto,ct,et,mt,hbt,hct⟩:=xG hd zA
 have hx0:=hct q hq1
 have hto':=yu d hd h0 b.c.ty
 rw[hq2]at hto'
 rw[<-hq3]at hx0
 clear hq3 hct hv
 unfold ud
 have hM:ClM (y8 [r0] [a0]++xU d):=zC (by unfold y8;simp only[zN,zT,Kv,Kx,JC,JD,JB,yN,yW,Ky,iR];rfl)
 unfold y8 at hlg hbk hM⊢
 simp only[zN,zT,Kv,Kx,JC,JD,JB,yN,yW]at hlg hbk hM⊢
 refine kX func133 wU ntmps133 fun C hR hP hH hL=>?_
 have hR:=hR () C hL trivial
 refine zB 100 ?_
 simp only[go_sem,BlL.r,hkd]
 refine Sm.dg 110 10 ze (vv ?_)
 refine DCallQ.dm 120 (fun _=>hto') hH (fun _=>rfl) rfl rfl (vv ?_)
 refine DOpQ.own 140 (Stp.idxV (b:=bt) (off:=ot) rfl (by rw[<-hto];rfl) rfl vm zA zA) ?_
 simp only[go_sem,Int.toNat_natCast]
 refine DOpQ.own 140 (zY (k:=1) rfl rfl rfl) (vv ?_)
 refine zE 140 (fun _=>StpC.ldA (vs:=yW T) (hH _ _ hbt) (fun j v hj=>?_) rfl rfl rfl rfl (J7 _)) ?_
 ·exact hx0 j v hj
 simp only[go_sem,yW,hkd]
 refine CallQ.pure 150 (yc T ht) rfl ?_
 simp only[go_sem,hkd]
 refine CallQ.pure 160 (xN [110,111,116]) rfl ?_
 have elg:ry [110,111,116]=true:=yg
 simp only[go_sem,hkd,elg]
 refine CallQ.hm 170 (fun _=>hlg) hH hbk (fun _=>by simp only[yD,BlL.r,hkd,Kv,Kx,JR,J9]) ⟨oS,oS,trivial⟩ ?_
 simp only[go_sem,hkd]
 refine CallQ.pure 180 (mJ z) rfl (vv ?_)
 exact yI hR hM
theorem oQ {H:Hp}(d:DgL)(hd:d.ok H)(h0:d.tys.length<=1000000)(b:BlL)(hb:b.ok H)(T:Ft)(hty:vk d.tys b.c.ty=some T)(ht:yE T=true)(hkd:b.c.kd=[104,121,115,116,101,114,101,115,105,115])(r0:Int×Int)(a0:Ft)(k0 k1:Int)(hks:b.c.ks=[k0,k1])(pr tb:Int×Int)(g0:wQ a0 r0):ud H d b [r0] [a0] pr (zi T b.c [r0] [a0] pr tb):=by
 have hv:zi T b.c [r0] [a0] pr tb=(oG (decide (k1<=r0.2)) (decide (r0.1<k1)),0):=by unfold zi;rw[hkd,hks];rfl
 rw[hv]
 rw[<-YL g0.2.1 k1]
 have hlg:vt H b [r0] [a0] _:=o8 b hb hkd r0 a0 (by rw[hks];rfl)
 rw[show b.c.ks.getD 1 0=k1 by rw[hks];rfl]at hlg
 generalize dV r0 k1=z at*
 unfold vt at hlg
 have hbk:ClM (y8 [r0] [a0]):=zC rfl
 obtain⟨q,hq1,hq2,hq3⟩:∃q,∃h:q<d.tys.length,yw (d.tys.map (·.nm)) b.c.ty=(q:Int)/\T=d.tys[q].ty:=by
  rcases xa d.tys b.c.ty with⟨a,_⟩|⟨q,hq,a,e⟩
  ·rw[hty]at a;cases a
  ·rw[hty]at e;exact⟨q,hq,a,by injection e⟩
 obtain⟨bt,ot,hto,ct,et,mt,hbt,hct⟩:=xG hd zA
 have hx0:=hct q hq1
 have hto':=yu d hd h0 b.c.ty
 rw[hq2]at hto'
 rw[<-hq3]at hx0
 clear hq3 hct hv
 unfold ud
 have hM:ClM (y8 [r0] [a0]++xU d):=zC (by unfold y8;simp only[zN,zT,Kv,Kx,JC,JD,JB,yN,yW,Ky,iR];rfl)
 unfold y8 at hlg hbk hM⊢
 simp only[zN,zT,Kv,Kx,JC,JD,JB,yN,yW]at hlg hbk hM⊢
 refine kX func133 wU ntmps133 fun C hR hP hH hL=>?_
 have hR:=hR () C hL trivial
 refine zB 100 ?_
 simp only[go_sem,BlL.r,hkd]
 refine Sm.dg 110 10 ze (vv ?_)
 refine DCallQ.dm 120 (fun _=>hto') hH (fun _=>rfl) rfl rfl (vv ?_)
 refine DOpQ.own 140 (Stp.idxV (b:=bt) (off:=ot) rfl (by rw[<-hto];rfl) rfl vm zA zA) ?_
 simp only[go_sem,Int.toNat_natCast]
 refine DOpQ.own 140 (zY (k:=1) rfl rfl rfl) (vv ?_)
 refine zE 140 (fun _=>StpC.ldA (vs:=yW T) (hH _ _ hbt) (fun j v hj=>?_) rfl rfl rfl rfl (J7 _)) ?_
 ·exact hx0 j v hj
 simp only[go_sem,yW,hkd]
 refine CallQ.pure 150 (yc T ht) rfl ?_
 simp only[go_sem,hkd]
 refine CallQ.pure 160 (xN [104,121,115,116,101,114,101,115,105,115]) rfl ?_
 have elg:ry [104,121,115,116,101,114,101,115,105,115]=true:=yg
 simp only[go_sem,hkd,elg]
 refine CallQ.hm 170 (fun _=>hlg) hH hbk (fun _=>by simp only[yD,BlL.r,hkd,Kv,Kx,JR,J9]) ⟨oS,oS,trivial⟩ ?_
 simp only[go_sem,hkd]
 refine CallQ.pure 180 (mJ z) rfl (vv ?_)
 exact yI hR hM
end Go.Proofs.YtkciabfilokfiaaGreat.Fx
