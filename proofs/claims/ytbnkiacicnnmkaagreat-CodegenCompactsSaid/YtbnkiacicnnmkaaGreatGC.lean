/-  -/
import Derived.Test.YtbnkiacicnnmkaaGreatG3
open Go.Proofs.Tryz
open Go.Proofs.Tryz renaming prog→HT
set_option linter.unusedSimpArgs false
set_option linter.unusedVariables false
set_option maxRecDepth 100000
set_option maxHeartbeats 4000000
namespace Go.Proofs.YtbnkiacicnnmkaaGreat.Fx
open Vg Tf
def Xx (p:Pg)(i:Ins):Bool:=bif jr p i then gm i.op (xS p (i.k/16384)) (bif o3 i.op then vX else xS p (i.k/128%128)) (bif js i.op then vX else xS p (i.k%128))else false
def fA (p:Pg)(i:Ins):Bool:=
 bif i.op==2 then decide (i.k<p.sz)else bif i.op==3 then decide (i.k<p.sz)else bif i.op==20 then decide (i.k<(p.cus.length:Int))else bif i.op==21 then decide (i.k<(p.mas.length:Int))else
 bif i.op==22 then decide (i.k/32+1<p.sz)else bif wZ i.op then Xx p i else true
def ua (p:Pg)(i:Ins):Bool:=bif ss i then fA p i else false
theorem ah (i:Ins)(h:ss i=true)(ht:wZ i.op=true):0<=i.k/\i.k<2097152:=by
 have hm:=vC i.op ht
 obtain⟨op,a,b,c,k⟩:=i
 simp only at*
 have hc:xp op k=true:=by
  unfold ss at h
  simp only at h
  have hs:fy (yb op)=true:=by rcases hm with rfl|rfl|rfl|rfl|rfl|rfl|rfl|rfl<;>rfl
  rw[hs,cond_true]at h
  simp only[Jf,JB]at h
  exact h.2.2.2.2
 unfold xp at hc
 rw[ht]at hc
 rcases hm with rfl|rfl|rfl|rfl|rfl|rfl|rfl|rfl<;>(simp at hc;omega)
theorem UH (i:Ins)(h:ss i=true)(ho:i.op=22):0<=i.k/\i.k<=32767:=by
 obtain⟨op,a,b,c,k⟩:=i
 simp only at*
 subst ho
 have hc:xp 22 k=true:=by
  unfold ss at h
  simp only at h
  have hs:fy (yb 22)=true:=rfl
  rw[hs,cond_true]at h
  simp only[Jf,JB]at h
  exact h.2.2.2.2
 unfold xp at hc
 simp[wZ]at hc
 omega
theorem XR {H:Hp}(p:Pg)(hp:p.ok H)(hty:∀t∈p.tys,fok t=true)(hn:p.tys.length<=1000)(i:Ins):CallH H HT 76 [z3 p.r,z3 i.w] (Bo (ua p i)):=by
 have hfo:=ag i
 have hty_:=fun(h0:0<=i.k) (h1:i.k<2097152)=>fq p hp i h0 h1 hn
 rw[x6]at hty_⊢
 rw[yx]at hfo hty_⊢
 refine kH func76 OL ntmps76 fun C hR hP hH hL=>?_
 have hR:=hR C hL
 refine zB 100 (vv ?_)
 refine CallQ.pure 110 hfo rfl (vv ?_)
 by_cases hq:¬ss i=true
 ·have hq:=IA.2 hq
  rw[hq]
  exact RetQ.bool hR rfl yI (by unfold ua;rw[hq,cond_false])
 have hq:=Jg.1 hq
 have hF:ua p i=fA p i:=by unfold ua;rw[hq,cond_true]
 rw[hF]at hR
 unfold fA at hR
 rw[hq]
 cases h2:(i.op==2)with
 |true=>rw[h2,cond_true]at hR;exact zp hR rfl
 |false=>
 rw[h2,cond_false]at hR
 cases h3:(i.op==3)with
 |true=>rw[h3,cond_true]at hR;exact zp hR rfl
 |false=>
 rw[h3,cond_false]at hR
 cases h20:(i.op==20)with
 |true=>rw[h20,cond_true]at hR;exact zp hR rfl
 |false=>
 rw[h20,cond_false]at hR
 cases h21:(i.op==21)with
 |true=>rw[h21,cond_true]at hR;exact zp hR rfl
 |false=>
 rw[h21,cond_false]at hR
 cases h22:(i.op==22)with
 |true=>
  rw[h22,cond_true]at hR
  have hk:=UH i hq (by simpa using h22)
  have e1:IntKind.i64.wrap (i.k.fdiv (2^min 5 64)+1)=i.k/32+1:=by
   rw[show i.k.fdiv (2^min 5 64)=i.k/32 from Js _ yp]
   exact y6 zA zA
  exact RetQ.bool hR rfl yI (by rw[e1])
 |false=>
 rw[h22,cond_false]at hR
 simp only[IT,cond_false]
 refine CallQ.pure 120 (ft i.op) rfl (vv ?_)
 cases ht:wZ i.op with
 |false=>rw[ht,cond_false]at hR;exact zp hR rfl
 |true=>
 rw[ht,cond_true]at hR
 obtain⟨k0,k1⟩:=ah i hq ht
 have hc:=hty_ k0 k1
 have uz:wL vX.m vX.kg vX.s vX.a vX.k=true:=rfl
 have uT:∀j,wL (xS p j).m (xS p j).kg (xS p j).s (xS p j).a (xS p j).k=true:=fun j=>by
  unfold xS
  rw[Kx]
  cases hj:p.tys[j.toNat]? with
  |none=>exact uz
  |some t=>exact ry (hty t (In hj))
 have uB:wL (bif o3 i.op then vX else xS p (i.k/128%128)).m (bif o3 i.op then vX else xS p (i.k/128%128)).kg (bif o3 i.op then vX else xS p (i.k/128%128)).s (bif o3 i.op then vX else xS p (i.k/128%128)).a (bif o3 i.op then vX else xS p (i.k/128%128)).k=true:=by
  cases o3 i.op
  ·exact uT _
  ·exact uz
 have uA:=uT (i.k/16384)
 unfold QR at hc
 unfold Xx at hR
 generalize xS p (i.k/16384)=A at*
 generalize (bif o3 i.op then vX else xS p (i.k/128%128))=B at*
 generalize (bif js i.op then vX else xS p (i.k%128))=D at*
 have hu:=aH i A B D ht uA uB
 rw[yx]at hu
 simp only
 cases hz:jr p i with
 |false=>
  rw[hz,cond_false]at hc hR
  refine zM 130 hc hH rfl (vv ?_)
  refine CallQ.guard 140 (xs:=[]) (v:=Bo false) (fun h=>by cases h) (fun h=>by cases h) (vv ?_)
  exact zp hR rfl
 |true=>
  rw[hz,cond_true]at hc hR
  refine zM 130 hc hH rfl (vv ?_)
  refine CallQ.pure 140 hu rfl (vv ?_)
  exact zp hR rfl
theorem bE (b:Bool):CallOk HT 66 [Bo b] [] (Bo (!b)) []:=by
 refine kN 100 func66 OU ntmps66 fun C hR hP=>?_
 refine vv ?_
 exact zp hR rfl
def fb (n:Int):Bool:=bif decide (n< -1099511627776)then true else decide (1099511627776<n)
theorem Qi (n:Int):CallOk HT 80 [I n] [] (Bo (fb n)) []:=by
 refine kN 100 func80 OJ ntmps80 fun C hR hP=>?_
 refine vv ?_
 exact zp hR rfl
def ul (p:Pg):List Cv:=[.v (vsl p.c p.code.length),.v (vsl p.t p.tys.length),.v (vsl p.u p.cus.length),.v (vsl p.m p.mas.length),.v (iv p.sz),.v (vsl p.s5 p.f5.length),.v (vsl p.s6 p.f6.length),.v (vsl p.s7 p.f7.length),.v (vsl p.s8 p.f8.length)]
theorem PB (c:CuL):CallOk HT 22 [z3 (pf c)] [] (Bo (bif decide (40<(c.c.xs.length:Int))then true else decide (40<(c.c.ys.length:Int)))) []:=by
 rw[show z3 (pf c)= .agg [.v (vsl c.x c.c.xs.length),.v (vsl c.y c.c.ys.length)] from rfl]
 refine kN 100 func22 Ow ntmps22 fun C hR hP=>?_
 refine vv ?_
 exact zp hR rfl
theorem Qz (v:Sv×List Int):CallOk HT 26 [.c (.v (vsl v.1 v.2.length))] [] (Bo (decide (40<(v.2.length:Int)))) []:=by
 refine kN 100 func26 Oq ntmps26 fun C hR hP=>?_
 refine vv ?_
 exact zp hR rfl
theorem Qm {H:Hp}(t:Ft)(pv:Value)(hpv:PtH H pv [.func (.func 66) #[] #[]]):CallH H HT 68 [fx t,.c (.v pv)] (Bo (!fok t)):=by
 have hv:=td t
 unfold fx at hv⊢
 refine kH func68 OT ntmps68 fun C hR hP hH hL=>?_
 have hR:=hR C hL
 refine zX 4 151 1 (hpv.mono hH) rfl rfl (zB 100 ?_)
 refine vv ?_
 refine Sm.dg 120 3 zi (vv ?_)
 refine DCallQ.pure 130 hv rfl (vv ?_)
 refine CallQ.pure 140 (bE _) rfl (vv ?_)
 exact zp hR rfl
theorem Ql {H:Hp}(c:CuL)(k:c.ok H)(h1:c.c.xs.length<=1000000000000000)(h2:c.c.ys.length<=1000000000000000)(pv:Value)(hpv:PtH H pv [.func (.func 66) #[] #[]]):CallH H HT 70 [z3 (pf c),.c (.v pv)] (Bo (!wN c.c.xs c.c.ys)):=by
 rw[show z3 (pf c)= .agg [.v (vsl c.x c.c.xs.length),.v (vsl c.y c.c.ys.length)] from rfl]
 refine kH func70 OR ntmps70 fun C hR hP hH hL=>?_
 have hR:=hR C hL
 refine zX 4 151 1 (hpv.mono hH) rfl rfl (zB 100 ?_)
 refine vv ?_
 refine Sm.dg 120 3 zi (vv ?_)
 refine yV 130 (fun _=>nu c.x c.y c.c.xs c.c.ys (k.x.mono hH) (k.y.mono hH) h1 h2) (Hp.le.refl _) (fun _=>rfl) (vv ?_)
 refine CallQ.pure 140 (bE _) rfl (vv ?_)
 exact zp hR rfl
theorem Qk {H:Hp}(m:MpL)(k:m.ok H)(h1:∀v∈m.zs,v.2.length<=1000000000000000)(pv:Value)(hpv:PtH H pv [.func (.func 66) #[] #[]]):CallH H HT 72 [z3 (pK m),.c (.v pv)] (Bo (!xM m.xs m.ys (m.zs.map (·.2)))):=by
 rw[show z3 (pK m)= .agg [.v (vsl m.x m.xs.length),.v (vsl m.y m.ys.length),.v (vsl m.z m.zs.length)] from rfl]
 refine kH func72 OP ntmps72 fun C hR hP hH hL=>?_
 have hR:=hR C hL
 refine zX 4 151 1 (hpv.mono hH) rfl rfl (zB 100 ?_)
 refine vv ?_
 refine Sm.dg 120 3 zi (vv ?_)
 refine yV 130 (fun _=>qM m (k.mono hH) h1) (Hp.le.refl _) (fun _=>rfl) (vv ?_)
 refine CallQ.pure 140 (bE _) rfl (vv ?_)
 exact zp hR rfl
theorem Ya {H:Hp}(p:Pg)(n:Int)(pv:Value)(hpv:PtH H pv p.r):CallH H HT 78 [I n,.c (.v pv)] (Bo (!j9 p.sz n)):=by
 refine kH func78 OK ntmps78 fun C hR hP hH hL=>?_
 have hR:=hR C hL
 refine zX 4 28 1 (hpv.mono hH) rfl rfl (zB 100 ?_)
 unfold Pg.r
 refine vv ?_
 have:(bif decide (n<0)then true else decide (p.sz<=n))= !j9 p.sz n:=by unfold j9;cases decide (n<0)<;>simp
 exact zp hR this
theorem Qj {H:Hp}(p:Pg)(hp:p.ok H)(hty:∀t∈p.tys,fok t=true)(hn:p.tys.length<=1000)(i:Ins)(pv pw:Value)(hpv:PtH H pv [.func (.func 66) #[] #[]])(hpw:PtH H pw p.r):CallH H HT 75 [z3 i.w,.c (.v pv),.c (.v pw)] (Bo (!ua p i)):=by
 have hf:=fun{H:Hp} (hp:p.ok H)=>XR p hp hty hn i
 rw[x6]at hf
 rw[yx]at hf⊢
 refine kH func75 OM ntmps75 fun C hR hP hH hL=>?_
 have hR:=hR C hL
 refine zX 4 151 1 (hpv.mono hH) rfl rfl ?_
 refine zX 5 28 2 (hpw.mono hH) rfl rfl (zB 100 ?_)
 unfold Pg.r
 refine vv ?_
 refine Sm.dg 120 4 zi (vv ?_)
 refine yV 130 (fun _=>hf (hp.mono hH)) (Hp.le.refl _) (fun _=>rfl) (vv ?_)
 refine CallQ.pure 140 (bE _) rfl (vv ?_)
 exact zp hR rfl
theorem Vr {H:Hp}(s:Sv)(l:List Ft)(hs:SlH H (vsl s l.length) 10 (l.map xN))(hl:l.length<=1000000000000000)(g:FuncId)(caps:Array Value)(p:Ft->Bool)(hp:∀x∈l,CallH H HT g ((z3 (xN x))::caps.toList.map v9) (Bo (p x))):
  CallH H HT 152 [.c (.v (vsl s l.length)),Fv g caps] (I (xy p l 0)):=by
 have hlen:(l.map xN).length=l.length:=Kv _
 have hsz:=zQ (r:=xN) (k:=10) (fun _=>rfl) l
 refine kH func152 Sk ntmps152 fun C hR hP hH hL=>?_
 refine zB 100 (vv ?_)
 refine Sm.bringR 1 55 0 (hs.mono hH) rfl rfl ?_
 simp only[hlen]
 refine zK (M0:=[]) (α:={i:Nat//i<=l.length/\xy p l 0=xy p (l.drop i) i}) hP (fun i=>[(0,true,.c (.sl 1 0 l.length 10)),(1,true,Fv g caps),(7,true,I l.length),(8,true,I i.val)]) (fun _=>[(1,⟨true,zC (l.map xN),55⟩)]) (fun i=>l.length-i.val) ⟨0,zA,rfl⟩ (fun _=>ClM.v (by simp only[Kw,zJ];rfl)) (fun _=>zO rfl) [(1,1)] ?_ ?_
 ·exact zh
 ·rintro⟨i,hi,hx⟩ J hb
  simp only at hb hi hx⊢
  refine zB 110 (vv ?_)
  refine zV (fun hc=>?_) (fun hc=>?_)
  ·have hc:=zH hc
   rw[yU p l i hc]at hx
   have htk:=zW (r:=xN) (k:=10) (fun _=>rfl) l i hc
   simp only[htk,hsz]
   refine⟨⟨zA,zA⟩,zA,?_⟩
   refine zM 120 (hp l[i] (JH hc)) hH (xR _ _) (vv ?_)
   refine zV (fun hd=>?_) (fun hd=>?_)
   ·rw[hd,cond_true]at hx
    exact ww (hR C hL) hx.symm
   ·rw[hd,cond_false]at hx
    simp only[yu (i:=i)]
    exact hb _ _ ⟨i+1,hc,hx⟩ [(1,1)] yL zh
  ·have hc:=zI hi hc
   rw[hc,JI]at hx
   exact ww (hR C hL) hx.symm
theorem Rk {H:Hp}(s:Sv)(l:List Ft)(hs:SlH H (vsl s l.length) 10 (l.map xN))(hl:l.length<=1000000000000000)(g:FuncId)(caps:Array Value)(p:Ft->Bool)(hp:∀x∈l,CallH H HT g ((z3 (xN x))::caps.toList.map v9) (Bo (p x))):
  CallH H HT 67 [.c (.v (vsl s l.length)),Fv g caps] (Bo (l.any p)):=by
 refine kH func67 U0 ntmps67 fun C hR hP hH hL=>?_
 refine zB 100 (vv ?_)
 refine zM 110 (Vr s l hs hl g caps p hp) hH rfl (vv ?_)
 exact zp (hR C hL) (yj p l 0 zA)
theorem Vt {H:Hp}(s:Sv)(l:List CuL)(hs:SlH H (vsl s l.length) 2 (l.map pf))(hl:l.length<=1000000000000000)(g:FuncId)(caps:Array Value)(p:CuL->Bool)(hp:∀x∈l,CallH H HT g ((z3 (pf x))::caps.toList.map v9) (Bo (p x))):
  CallH H HT 63 [.c (.v (vsl s l.length)),Fv g caps] (I (xy p l 0)):=by
 have hlen:(l.map pf).length=l.length:=Kv _
 have hsz:=zQ (r:=pf) (k:=2) (fun _=>rfl) l
 refine kH func63 OX ntmps63 fun C hR hP hH hL=>?_
 refine zB 100 (vv ?_)
 refine Sm.bringR 1 78 0 (hs.mono hH) rfl rfl ?_
 simp only[hlen]
 refine zK (M0:=[]) (α:={i:Nat//i<=l.length/\xy p l 0=xy p (l.drop i) i}) hP (fun i=>[(0,true,.c (.sl 1 0 l.length 2)),(1,true,Fv g caps),(7,true,I l.length),(8,true,I i.val)]) (fun _=>[(1,⟨true,zC (l.map pf),78⟩)]) (fun i=>l.length-i.val) ⟨0,zA,rfl⟩ (fun _=>ClM.v (by simp only[Kw,zJ];rfl)) (fun _=>zO rfl) [(1,1)] ?_ ?_
 ·exact zh
 ·rintro⟨i,hi,hx⟩ J hb
  simp only at hb hi hx⊢
  refine zB 110 (vv ?_)
  refine zV (fun hc=>?_) (fun hc=>?_)
  ·have hc:=zH hc
   rw[yU p l i hc]at hx
   have htk:=zW (r:=pf) (k:=2) (fun _=>rfl) l i hc
   simp only[htk,hsz]
   refine⟨⟨zA,zA⟩,zA,?_⟩
   refine zM 120 (hp l[i] (JH hc)) hH (xR _ _) (vv ?_)
   refine zV (fun hd=>?_) (fun hd=>?_)
   ·rw[hd,cond_true]at hx
    exact ww (hR C hL) hx.symm
   ·rw[hd,cond_false]at hx
    simp only[yu (i:=i)]
    exact hb _ _ ⟨i+1,hc,hx⟩ [(1,1)] yL zh
  ·have hc:=zI hi hc
   rw[hc,JI]at hx
   exact ww (hR C hL) hx.symm
theorem YW {H:Hp}(s:Sv)(l:List CuL)(hs:SlH H (vsl s l.length) 2 (l.map pf))(hl:l.length<=1000000000000000)(g:FuncId)(caps:Array Value)(p:CuL->Bool)(hp:∀x∈l,CallH H HT g ((z3 (pf x))::caps.toList.map v9) (Bo (p x))):
  CallH H HT 21 [.c (.v (vsl s l.length)),Fv g caps] (Bo (l.any p)):=by
 refine kH func21 Ox ntmps21 fun C hR hP hH hL=>?_
 refine zB 100 (vv ?_)
 refine zM 110 (Vt s l hs hl g caps p hp) hH rfl (vv ?_)
 exact zp (hR C hL) (yj p l 0 zA)
theorem Vo {H:Hp}(s:Sv)(l:List MpL)(hs:SlH H (vsl s l.length) 3 (l.map pK))(hl:l.length<=1000000000000000)(g:FuncId)(caps:Array Value)(p:MpL->Bool)(hp:∀x∈l,CallH H HT g ((z3 (pK x))::caps.toList.map v9) (Bo (p x))):
  CallH H HT 64 [.c (.v (vsl s l.length)),Fv g caps] (I (xy p l 0)):=by
 have hlen:(l.map pK).length=l.length:=Kv _
 have hsz:=zQ (r:=pK) (k:=3) (fun _=>rfl) l
 refine kH func64 OW ntmps64 fun C hR hP hH hL=>?_
 refine zB 100 (vv ?_)
 refine Sm.bringR 1 82 0 (hs.mono hH) rfl rfl ?_
 simp only[hlen]
 refine zK (M0:=[]) (α:={i:Nat//i<=l.length/\xy p l 0=xy p (l.drop i) i}) hP (fun i=>[(0,true,.c (.sl 1 0 l.length 3)),(1,true,Fv g caps),(7,true,I l.length),(8,true,I i.val)]) (fun _=>[(1,⟨true,zC (l.map pK),82⟩)]) (fun i=>l.length-i.val) ⟨0,zA,rfl⟩ (fun _=>ClM.v (by simp only[Kw,zJ];rfl)) (fun _=>zO rfl) [(1,1)] ?_ ?_
 ·exact zh
 ·rintro⟨i,hi,hx⟩ J hb
  simp only at hb hi hx⊢
  refine zB 110 (vv ?_)
  refine zV (fun hc=>?_) (fun hc=>?_)
  ·have hc:=zH hc
   rw[yU p l i hc]at hx
   have htk:=zW (r:=pK) (k:=3) (fun _=>rfl) l i hc
   simp only[htk,hsz]
   refine⟨⟨zA,zA⟩,zA,?_⟩
   refine zM 120 (hp l[i] (JH hc)) hH (xR _ _) (vv ?_)
   refine zV (fun hd=>?_) (fun hd=>?_)
   ·rw[hd,cond_true]at hx
    exact ww (hR C hL) hx.symm
   ·rw[hd,cond_false]at hx
    simp only[yu (i:=i)]
    exact hb _ _ ⟨i+1,hc,hx⟩ [(1,1)] yL zh
  ·have hc:=zI hi hc
   rw[hc,JI]at hx
   exact ww (hR C hL) hx.symm
theorem YV {H:Hp}(s:Sv)(l:List MpL)(hs:SlH H (vsl s l.length) 3 (l.map pK))(hl:l.length<=1000000000000000)(g:FuncId)(caps:Array Value)(p:MpL->Bool)(hp:∀x∈l,CallH H HT g ((z3 (pK x))::caps.toList.map v9) (Bo (p x))):
  CallH H HT 23 [.c (.v (vsl s l.length)),Fv g caps] (Bo (l.any p)):=by
 refine kH func23 Ov ntmps23 fun C hR hP hH hL=>?_
 refine zB 100 (vv ?_)
 refine zM 110 (Vo s l hs hl g caps p hp) hH rfl (vv ?_)
 exact zp (hR C hL) (yj p l 0 zA)
theorem Vq {H:Hp}(s:Sv)(l:List Ins)(hs:SlH H (vsl s l.length) 5 (l.map Ins.w))(hl:l.length<=1000000000000000)(g:FuncId)(caps:Array Value)(p:Ins->Bool)(hp:∀x∈l,CallH H HT g ((z3 (Ins.w x))::caps.toList.map v9) (Bo (p x))):
  CallH H HT 159 [.c (.v (vsl s l.length)),Fv g caps] (I (xy p l 0)):=by
 have hlen:(l.map Ins.w).length=l.length:=Kv _
 have hsz:=zQ (r:=Ins.w) (k:=5) (fun _=>rfl) l
 refine kH func159 Sc ntmps159 fun C hR hP hH hL=>?_
 refine zB 100 (vv ?_)
 refine Sm.bringR 1 42 0 (hs.mono hH) rfl rfl ?_
 simp only[hlen]
 refine zK (M0:=[]) (α:={i:Nat//i<=l.length/\xy p l 0=xy p (l.drop i) i}) hP (fun i=>[(0,true,.c (.sl 1 0 l.length 5)),(1,true,Fv g caps),(7,true,I l.length),(8,true,I i.val)]) (fun _=>[(1,⟨true,zC (l.map Ins.w),42⟩)]) (fun i=>l.length-i.val) ⟨0,zA,rfl⟩ (fun _=>ClM.v (by simp only[Kw,zJ];rfl)) (fun _=>zO rfl) [(1,1)] ?_ ?_
 ·exact zh
 ·rintro⟨i,hi,hx⟩ J hb
  simp only at hb hi hx⊢
  refine zB 110 (vv ?_)
  refine zV (fun hc=>?_) (fun hc=>?_)
  ·have hc:=zH hc
   rw[yU p l i hc]at hx
   have htk:=zW (r:=Ins.w) (k:=5) (fun _=>rfl) l i hc
   simp only[htk,hsz]
   refine⟨⟨zA,zA⟩,zA,?_⟩
   refine zM 120 (hp l[i] (JH hc)) hH (xR _ _) (vv ?_)
   refine zV (fun hd=>?_) (fun hd=>?_)
   ·rw[hd,cond_true]at hx
    exact ww (hR C hL) hx.symm
   ·rw[hd,cond_false]at hx
    simp only[yu (i:=i)]
    exact hb _ _ ⟨i+1,hc,hx⟩ [(1,1)] yL zh
  ·have hc:=zI hi hc
   rw[hc,JI]at hx
   exact ww (hR C hL) hx.symm
theorem Rj {H:Hp}(s:Sv)(l:List Ins)(hs:SlH H (vsl s l.length) 5 (l.map Ins.w))(hl:l.length<=1000000000000000)(g:FuncId)(caps:Array Value)(p:Ins->Bool)(hp:∀x∈l,CallH H HT g ((z3 (Ins.w x))::caps.toList.map v9) (Bo (p x))):
  CallH H HT 74 [.c (.v (vsl s l.length)),Fv g caps] (Bo (l.any p)):=by
 refine kH func74 ON ntmps74 fun C hR hP hH hL=>?_
 refine zB 100 (vv ?_)
 refine zM 110 (Vq s l hs hl g caps p hp) hH rfl (vv ?_)
 exact zp (hR C hL) (yj p l 0 zA)
def iV (p:Pg):Bool:=decide (p.code.length<=4000)&&(decide (p.tys.length<=100)&&(decide (p.cus.length<=100)&&(decide (p.mas.length<=100)&&(decide (0<=p.sz)&&(decide (p.sz<=1000)&&decide (p.f8.length=p.f6.length))))))
def wP (p:Pg):Bool:=
 iV p&&(p.tys.all fok&&(p.cus.all (fun c=>wN c.c.xs c.c.ys)&&(p.mas.all (fun m=>xM m.xs m.ys (m.zs.map (·.2)))&&(p.code.all (ua p)&&
 ((tS p.sz p.f5&&(tS p.sz p.f7&&tS p.sz p.f6))&&(decide (p.f5++p.f6).Nodup&&p.f8.all (fun n=> !fb n)))))))
theorem qi (p:Pg)(h:wP p=true):(∀t∈p.tys,fok t=true)/\(∀i∈p.code,ua p i=true)/\p.tys.length<=100/\0<=p.sz/\p.sz<=1000:=by
 unfold wP iV at h
 simp only[JB,decide_eq_true_eq,JD]at h
 exact⟨h.2.1,h.2.2.2.2.1,h.1.2.1,h.1.2.2.2.2.1,h.1.2.2.2.2.2.1⟩
theorem qA (p:Pg)(i:Ins)(h:ua p i=true):(1<=i.op/\i.op<=22)/\(0<=i.a/\i.a<16)/\0<=i.b/\i.b<16/\0<=i.c/\i.c<16/\(i.op=2\/i.op=3->0<=i.k/\i.k<p.sz)/\(i.op=19->0<=i.k/\i.k<16)/\(i.op=22->0<=i.k/\i.k/32+1<p.sz):=by
 unfold ua at h
 simp only[Jf,JB]at h
 obtain⟨hf,hr⟩:=h
 have hb:(1<=i.op/\i.op<=22)/\(0<=i.a/\i.a<16)/\(0<=i.b/\i.b<16)/\(0<=i.c/\i.c<16):=by
  have h:=hf
  unfold ss eR at h
  simp only[JT,decide_eq_true_eq]at h
  grind
 have hk:∀n:Int,i.op=n->fy (yb n)=true->xp n i.k=true:=fun n hn hs=>by
  have h:=hf
  unfold ss at h
  rw[hn,hs,cond_true]at h
  simp only[Jf,JB]at h
  exact h.2.2.2.2
 refine⟨hb.1,hb.2.1,hb.2.2.1.1,hb.2.2.1.2,hb.2.2.2.1,hb.2.2.2.2,fun ho=>?_,fun ho=>?_,fun ho=>?_⟩
 ·rcases ho with ho|ho
  ·have:=hk 2 ho rfl
   unfold fA at hr
   rw[ho]at hr
   simp[xp,wZ]at this hr
   exact⟨this.1,hr⟩
  ·have:=hk 3 ho rfl
   unfold fA at hr
   rw[ho]at hr
   simp[xp,wZ]at this hr
   exact⟨this.1,hr⟩
 ·have:=hk 19 ho rfl
  simp[xp]at this
  exact this
 ·have:=hk 22 ho rfl
  unfold fA at hr
  rw[ho]at hr
  simp[xp,wZ]at this hr
  exact⟨this.1,hr⟩
end Go.Proofs.YtbnkiacicnnmkaaGreat.Fx
