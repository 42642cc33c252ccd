/-  -/
import Derived.Test.YtbnkiacicnnmkaaGreatE4
open Go.Proofs.Tryz
set_option linter.unusedSimpArgs false
set_option linter.unusedVariables false
set_option maxRecDepth 100000
set_option maxHeartbeats 4000000
namespace Go.Proofs.YtbnkiacicnnmkaaGreat.Fx
open Vg Tf
def gI (l:List Int)(n:Int):Int:=l.getD n.toNat 0
def sI (l:List Int)(n v:Int):List Int:=l.set n.toNat v
theorem xV (l:List Int)(n v:Int):(sI l n v).length=l.length:=J8 ..
theorem kh (l:List Int)(n v:Int)(m:Nat):(sI l n v).getD m 0=if n.toNat=m/\m<l.length then v else l.getD m 0:=by
 unfold sI
 rw[Kx,IJ]
 by_cases h:n.toNat=m
 ·rw[if_pos h]
  by_cases h2:n.toNat<l.length
  ·rw[if_pos h2,if_pos ⟨h,zA⟩];rfl
  ·rw[if_neg h2,if_neg zA,Kx,Jc zA]
 ·rw[if_neg h,if_neg (fun x=>h x.1),Kx]
def u7 (t:Ft)(n:Int):Int:=min (max n (wV t).1) (wV t).2
def lG (p:Pg)(i:Ins)(x y:Int):Int×Int:=
 (fun a b t=>bif i.op==9 then(gR (-1) a (u7 a x) t,vW a (u7 a x) t)else bif i.op==10 then(gR 1 a (u7 a x) t,vW a (u7 a x) t)else
  bif i.op==13 then(Xs (lB a (u7 a x) b (u7 b y)),0)else bif i.op==14 then(Xs (bif !lB a (u7 a x) b (u7 b y)then !lB b (u7 b y) a (u7 a x)else false),0)else
  (oRs (i.op-4) a (u7 a x) b (u7 b y) t,vA (i.op-4) a (u7 a x) b (u7 b y) t))
 (xS p (i.k/16384)) (bif o3 i.op then vX else xS p (i.k/128%128)) (bif js i.op then vX else xS p (i.k%128))
def Q9 (p:Pg)(k:Int):CuL:=p.cus.getD k.toNat ⟨⟨[],[],[]⟩,⟨none,0⟩,⟨none,0⟩⟩
def Q8 (p:Pg)(k:Int):MpL:=p.mas.getD k.toNat ⟨[],[],[],[],⟨none,0⟩,⟨none,0⟩,⟨none,0⟩⟩
def qH (p:Pg)(i:Ins)(b c s l:Int):Int×Int:=
 bif i.op==1 then(i.k,0)else bif i.op==2 then(l,0)else bif i.op==4 then(b,0)else bif i.op==11 then(min b c,0)else bif i.op==12 then(max b c,0)else
 bif i.op==15 then(Xs (decide (b<c)),0)else bif i.op==16 then(Xs (bif b !=0 then c !=0 else false),0)else bif i.op==17 then(Xs (bif b !=0 then true else c !=0),0)else
 bif i.op==18 then(Xs (b==0),0)else bif i.op==19 then(bif s !=0 then b else c,0)else bif i.op==20 then(vc (Q9 p i.k).c b,0)else bif i.op==21 then(kQ (Q8 p i.k).c b c,0)else lG p i b c
def X7 (y r x:Int)(k:Nat):Int×Int:=
 (fun z=>bif vZ y then(bif decide (r<0)then lH 0 0 z k else bif decide (2^k<=r)then lH 0 0 z k else lH y r z k)else lH 0 0 z k) (min (max x (-1099511627776)) 1099511627776)
def v3 (p:Pg)(i:Ins)(R X:List Int):Int×List Int×List Int:=
 bif i.op==3 then(0,R,sI X i.k (gI R i.a))else
 bif i.op==22 then(fun z=>(0,sI R i.a z.1,sI (sI X (i.k/32) z.1) (i.k/32+1) z.2)) (X7 (gI X (i.k/32)) (gI X (i.k/32+1)) (gI R i.b) (i.k%32).toNat)else
 (fun z=>bif z.2==0 then(0,sI R i.a z.1,X)else(z.2,R,X)) (qH p i (gI R i.b) (gI R i.c) (gI R i.k) (gI X i.k))
def o7 (p:Pg):List Ins->List Int->List Int->Int×List Int×List Int
 |[],R,X=>(0,R,X)
 |i::t,R,X=>(fun z=>bif z.1==0 then o7 p t z.2.1 z.2.2 else z) (v3 p i R X)
theorem iz (p:Pg)(i:Ins)(R X:List Int):(v3 p i R X).2.1.length=R.length/\(v3 p i R X).2.2.length=X.length:=by
 unfold v3
 cases i.op==3 with
 |true=>exact⟨rfl,xV _ _ _⟩
 |false=>
  cases i.op==22 with
  |true=>exact⟨xV _ _ _,(xV _ _ _).trans (xV _ _ _)⟩
  |false=>
   simp only[cond_false]
   generalize qH p i (gI R i.b) (gI R i.c) (gI R i.k) (gI X i.k)=z
   cases z.2==0 with
   |true=>exact⟨xV _ _ _,rfl⟩
   |false=>exact⟨rfl,rfl⟩
theorem UT (p:Pg)(i:Ins)(h:uB i.op=false)(h3:i.op≠3)(b b' c s l:Int):qH p i b c s l=qH p i b' c s l:=by
 obtain⟨op,a,x,y,k⟩:=i
 simp only at h h3
 have:op=1\/op=2:=by
  unfold uB at h
  simp at h
  omega
 rcases this with rfl|rfl<;>rfl
theorem US (p:Pg)(i:Ins)(h:uC i.op=false)(h3:i.op≠3)(h22:i.op≠22)(ho:1<=i.op/\i.op<=22)(b c c' s l:Int):qH p i b c s l=qH p i b c' s l:=by
 obtain⟨op,a,x,y,k⟩:=i
 simp only at h h3 h22 ho
 have:op=1\/op=2\/op=4\/op=9\/op=10\/op=18\/op=20:=by
  unfold uC at h
  simp at h
  omega
 rcases this with rfl|rfl|rfl|rfl|rfl|rfl|rfl<;>rfl
theorem UQ (p:Pg)(i:Ins)(h:i.op≠19)(b c s s' l:Int):qH p i b c s l=qH p i b c s' l:=by
 unfold qH
 rw[beq_false_of_ne h]
 rfl
theorem UR (p:Pg)(i:Ins)(h:i.op≠2)(b c s l l':Int):qH p i b c s l=qH p i b c s l':=by
 unfold qH
 rw[beq_false_of_ne h]
 rfl
theorem ai {t:Ft}(h:fok t=true):qT t<=oI t:=by
 unfold qT oI
 rcases pW h with e|e|e<;>rw[e]<;>cases t.signed<;>decide
theorem jY {t:Ft}(h:fok t=true)(n:Int):uc t (u7 t n)=true:=by
 have:=ai h
 unfold uc u7 wV
 rw[h]
 simp only[cond_true,JB,decide_eq_true_eq]
 omega
theorem kW (p:Pg)(ht:∀t∈p.tys,fok t=true)(j:Int)(hj:j.toNat<p.tys.length):fok (xS p j)=true:=by
 unfold xS
 rw[Kx,JA hj]
 exact ht _ (JH hj)
theorem qp {a b:Ft}:uS a b=true↔a.m=b.m/\a.kg=b.kg/\a.s=b.s/\a.a=b.a/\a.k=b.k:=by
 unfold uS
 simp only[JB,beq_iff_eq]
theorem dH (p:Pg)(i:Ins)(ht:∀t∈p.tys,fok t=true)(hf:ua p i=true)(hty:wZ i.op=true)(h8:i.op≠8)(x y:Int):(lG p i x y).2=0:=by
 have hm:=vC i.op hty
 unfold ua at hf
 simp only[Jf,JB]at hf
 obtain⟨hfm,hr⟩:=hf
 have hk:=ah i hfm hty
 have hr:Xx p i=true:=by
  unfold fA at hr
  rw[hty]at hr
  rcases hm with h|h|h|h|h|h|h|h<;>(rw[h]at hr;exact hr)
 unfold Xx at hr
 cases hz:jr p i with
 |false=>rw[hz]at hr;cases hr
 |true=>
  rw[hz,cond_true]at hr
  unfold jr at hz
  unfold lG
  obtain⟨op,a,b,c,k⟩:=i
  simp only at*
  have hA:k/16384<p.tys.length:=by
   cases h:decide ((p.tys.length:Int)<=k/16384)with
   |true=>rw[h]at hz;cases hz
   |false=>have:=of_decide_eq_false h;omega
  rw[show decide ((p.tys.length:Int)<=k/16384)=false from decide_eq_false zA,cond_false]at hz
  have oA:=kW p ht (k/16384) zA
  generalize xS p (k/16384)=A at*
  have oB:o3 op=false->fok (xS p (k/128%128))=true:=fun h2=>by
   rw[h2]at hz
   refine kW p ht _ ?_
   cases h:decide ((p.tys.length:Int)<=k/128%128)with
   |true=>rw[h]at hz;cases hz
   |false=>have:=of_decide_eq_false h;omega
  have oT:js op=false->fok (xS p (k%128))=true:=fun h2=>by
   rw[h2]at hz
   refine kW p ht _ ?_
   cases h:decide ((p.tys.length:Int)<=k%128)with
   |true=>rw[h]at hz;cases hx:(!o3 op&&decide ((p.tys.length:Int)<=k/128%128))<;>rw[hx]at hz<;>cases hz
   |false=>have:=of_decide_eq_false h;omega
  generalize xS p (k/128%128)=B at*
  generalize xS p (k%128)=T at*
  have gE:fok T=true->uS A T=true->vW A (u7 A x) T=0:=fun hT hu=>by
   unfold vW
   rw[if_neg (by simp[oA,jY oA,hT]),if_neg (by simp[hu])]
  have oE:∀o:Int,o≠4->fok B=true->fok T=true->tq o A B T=true->vA o A (u7 A x) B (u7 B y) T=0:=fun o h4 hB hT hu=>by
   unfold vA
   rw[if_neg (by simp[oA,jY oA,hB,jY hB,hT]),if_neg (by simp[hu]),if_neg (fun h=>h4 h.1)]
  rcases hm with rfl|rfl|rfl|rfl|rfl|rfl|rfl|rfl
  ·have hr:(bif uS A B then uS A T else false)=true:=hr
   rw[fp,JB,qp,qp]at hr
   refine oE 1 yp (oB rfl) (oT rfl) ?_
   unfold tq
   rw[if_neg yp,if_neg yp]
   exact decide_eq_true zA
  ·have hr:(bif uS A B then uS A T else false)=true:=hr
   rw[fp,JB,qp,qp]at hr
   refine oE 2 yp (oB rfl) (oT rfl) ?_
   unfold tq
   rw[if_neg yp,if_neg yp]
   exact decide_eq_true zA
  ·have hr:(bif qJ 1 A B then uS (uA 1 A B) T else false)=true:=hr
   have hr:uS (uA 1 A B) T=true:=by
    cases h:qJ 1 A B with
    |false=>rw[h]at hr;cases hr
    |true=>rw[h]at hr;exact hr
   rw[qp]at hr
   unfold uA at hr
   simp only at hr
   refine oE 3 yp (oB rfl) (oT rfl) ?_
   unfold tq
   rw[if_pos rfl]
   exact decide_eq_true zA
  ·exact absurd rfl h8
  ·exact gE (oT rfl) hr
  ·exact gE (oT rfl) hr
  ·rfl
  ·rfl
theorem am (p:Pg)(i:Ins)(ht:∀t∈p.tys,fok t=true)(hf:ua p i=true)(h8:i.op≠8)(h3:i.op≠3)(h22:i.op≠22)(b c s l:Int):(qH p i b c s l).2=0:=by
 have ho:=(qA p i hf).1
 cases hty:wZ i.op with
 |true=>
  have h:=dH p i ht hf hty h8 b c
  have hm:=vC i.op hty
  unfold qH
  rcases hm with e|e|e|e|e|e|e|e<;>(rw[e];exact h)
 |false=>
  obtain⟨op,a,x,y,k⟩:=i
  simp only at*
  have:op=1\/op=2\/op=4\/op=11\/op=12\/op=15\/op=16\/op=17\/op=18\/op=19\/op=20\/op=21:=by
   unfold wZ at hty
   simp only[JT]at hty
   grind
  rcases this with rfl|rfl|rfl|rfl|rfl|rfl|rfl|rfl|rfl|rfl|rfl|rfl<;>rfl
structure AgL (N:List Bool) (A B:List Int):Prop where
 l:A.length=B.length
 nl:N.length=A.length
 g:∀n:Nat,N.getD n false=true->A.getD n 0=B.getD n 0
theorem AgL.le {N M:List Bool}{A B:List Int}(h:AgL M A B)(k:LeB N M):AgL N A B:=⟨h.l,k.l.trans h.nl,fun n hn=>h.g n (k.le n hn)⟩
theorem AgL.get {N:List Bool}{A B:List Int}(h:AgL N A B){n:Int}(hn:gB N n=true):gI A n=gI B n:=h.g _ hn
theorem AgL.set {N:List Bool}{A B:List Int}{n:Int}(h:AgL (sB N n false) A B)(v:Int):AgL N (sI A n v) (sI B n v):=
 ⟨by rw[xV,xV];exact h.l,by rw[xV,<-h.nl,yM],fun m hm=>by
  have hl:=h.l
  have hnl:=h.nl
  rw[yM]at hnl
  have hg:=h.g m
  rw[t6]at hg
  rw[kh,kh,<-hl]
  by_cases hc:n.toNat=m/\m<A.length
  ·rw[if_pos hc,if_pos hc]
  ·rw[if_neg hc,if_neg hc]
   rw[hnl,if_neg hc]at hg
   exact hg hm⟩
theorem VD (N:List Bool)(n:Int):LeB (sB N n false) N:=⟨yM _ _ _,fun m hm=>by
 rw[t6]at hm
 split at hm
 ·cases hm
 ·exact hm⟩
theorem AgL.set2 {N:List Bool}{A B:List Int}(h:AgL N A B)(n v:Int):AgL N (sI A n v) (sI B n v):=(h.le (VD N n)).set v
theorem AgL.out {N:List Bool}{A B:List Int}(h:AgL N A B){n:Int}(hn:gB N n=false)(v:Int):AgL N (sI A n v) B:=
 ⟨(xV _ _ _).trans h.l,by rw[xV];exact h.nl,fun m hm=>by
  rw[kh]
  split
  ·rename_i hc
   unfold gB at hn
   rw[hc.1,hm]at hn
   cases hn
  ·exact h.g m hm⟩
theorem rx (N:List Bool){n:Int}(h0:0<=n)(h1:n<N.length):gB (sB N n true) n=true:=by
 unfold gB
 rw[t6,if_pos ⟨rfl,zA⟩]
theorem YY (i:Ins)(N:List Bool)(h3:i.op≠3)(hb:uB i.op=true)(h0:0<=i.b)(h1:i.b<N.length):gB (nF i N) i.b=true:=by
 unfold nF
 rw[beq_false_of_ne h3,hb]
 simp only[cond_true,cond_false]
 have h:=rx (sB N i.a false) h0 (by rw[yM];exact h1)
 cases uC i.op<;>cases i.op==19<;>simp only[cond_true,cond_false]
 ·exact h
 ·exact vn (y9 _ _) h
 ·exact vn (y9 _ _) h
 ·exact vn ((y9 _ _).trans (y9 _ _)) h
theorem QF (i:Ins)(N:List Bool)(h3:i.op≠3)(hb:uC i.op=true)(h0:0<=i.c)(h1:i.c<N.length):gB (nF i N) i.c=true:=by
 unfold nF
 rw[beq_false_of_ne h3,hb]
 simp only[cond_true,cond_false]
 have h:∀M:List Bool,M.length=N.length->gB (sB M i.c true) i.c=true:=fun M hM=>rx M h0 (by rw[hM];exact h1)
 cases uB i.op<;>cases i.op==19<;>simp only[cond_true,cond_false]
 ·exact h _ (yM _ _ _)
 ·exact vn (y9 _ _) (h _ (yM _ _ _))
 ·exact h _ ((yM _ _ _).trans (yM _ _ _))
 ·exact vn (y9 _ _) (h _ ((yM _ _ _).trans (yM _ _ _)))
theorem QE (i:Ins)(N:List Bool)(h19:i.op=19)(h0:0<=i.k)(h1:i.k<N.length):gB (nF i N) i.k=true:=by
 unfold nF
 rw[h19]
 exact rx _ h0 (by
  show i.k<(((sB (sB (sB N i.a false) i.b true) i.c true).length:Nat):Int)
  rw[yM,yM,yM];exact h1)
theorem dp (p:Pg)(i:Ins)(hf:ua p i=true){N M:List Bool}{R R' X X':List Int}(h16:N.length=16)(hM:(M.length:Int)=p.sz)(hR:AgL (nF i N) R R')(hX:AgL (qY i M) X X'):
  (v3 p i R X).1=(v3 p i R' X').1/\((v3 p i R X).1=0->AgL N (v3 p i R X).2.1 (v3 p i R' X').2.1/\AgL M (v3 p i R X).2.2 (v3 p i R' X').2.2):=by
 obtain⟨ho,ha,hb0,hb1,hc0,hc1,h23,h19,h22⟩:=qA p i hf
 by_cases e3:i.op=3
 ·have hg:gI R i.a=gI R' i.a:=by
   refine hR.get ?_
   unfold nF
   rw[e3]
   exact rx N ha.1 zA
  have hN:AgL N R R':=hR.le (by unfold nF;rw[e3];exact y9 _ _)
  have hC:AgL (sB M i.k false) X X':=by unfold qY at hX;rw[e3]at hX;exact hX
  unfold v3
  rw[e3,hg]
  exact⟨rfl,fun _=>⟨hN,hC.set _⟩⟩
 have hN:AgL (sB N i.a false) R R':=hR.le (by have:=dL i N;unfold Qc at this;rw[beq_false_of_ne e3]at this;exact this)
 by_cases e22:i.op=22
 ·have hb:gI R i.b=gI R' i.b:=hR.get (YY i N e3 (by rw[e22];rfl) hb0 zA)
  obtain⟨k0,k1⟩:=h22 e22
  have hC:AgL (sB (sB M (i.k/32) true) (i.k/32+1) true) X X':=by unfold qY at hX;rw[e22]at hX;exact hX
  have hc:gI X (i.k/32)=gI X' (i.k/32):=hC.get (vn (y9 _ _) (rx M zA zA))
  have hd:gI X (i.k/32+1)=gI X' (i.k/32+1):=hC.get (rx _ zA (by rw[yM];omega))
  have hM':AgL M X X':=hC.le ((y9 _ _).trans (y9 _ _))
  unfold v3
  rw[e22,hb,hc,hd]
  exact⟨rfl,fun _=>⟨hN.set _,(hM'.set2 _ _).set2 _ _⟩⟩
 have hM':AgL M X X':=hX.le (by
  unfold qY
  rw[beq_false_of_ne e3,beq_false_of_ne e22]
  cases i.op==2
  ·exact LeB.refl _
  ·exact y9 _ _)
 have hO:qH p i (gI R i.b) (gI R i.c) (gI R i.k) (gI X i.k)=qH p i (gI R' i.b) (gI R' i.c) (gI R' i.k) (gI X' i.k):=by
  have e1:∀c s l,qH p i (gI R i.b) c s l=qH p i (gI R' i.b) c s l:=fun c s l=>by
   cases hb:uB i.op with
   |true=>rw[hR.get (YY i N e3 hb hb0 zA)]
   |false=>exact UT p i hb e3 _ _ _ _ _
  have e2:∀b s l,qH p i b (gI R i.c) s l=qH p i b (gI R' i.c) s l:=fun b s l=>by
   cases hb:uC i.op with
   |true=>rw[hR.get (QF i N e3 hb hc0 zA)]
   |false=>exact US p i hb e3 e22 ho _ _ _ _ _
  have e4:∀b c l,qH p i b c (gI R i.k) l=qH p i b c (gI R' i.k) l:=fun b c l=>by
   by_cases h:i.op=19
   ·obtain⟨k0,k1⟩:=h19 h
    rw[hR.get (QE i N h k0 zA)]
   ·exact UQ p i h _ _ _ _ _
  have e5:∀b c s,qH p i b c s (gI X i.k)=qH p i b c s (gI X' i.k):=fun b c s=>by
   by_cases h:i.op=2
   ·obtain⟨k0,k1⟩:=h23 (.inl h)
    have:gB (qY i M) i.k=true:=by
     unfold qY
     rw[h]
     exact rx M k0 zA
    rw[hX.get this]
   ·exact UR p i h _ _ _ _ _
  rw[e1,e2,e4,e5]
 unfold v3
 rw[beq_false_of_ne e3,beq_false_of_ne e22,hO]
 simp only[cond_false]
 generalize qH p i (gI R' i.b) (gI R' i.c) (gI R' i.k) (gI X' i.k)=z
 cases hz:z.2==0 with
 |true=>exact⟨rfl,fun _=>⟨hN.set _,hM'⟩⟩
 |false=>exact⟨rfl,fun h=>absurd h (by simpa using hz)⟩
theorem ak (p:Pg)(i:Ins)(ht:∀t∈p.tys,fok t=true)(hf:ua p i=true){N M:List Bool}{R R' X X':List Int}(ha:rR i N M=false)(hR:AgL N R R')(hX:AgL M X X'):
  (v3 p i R X).1=0/\AgL N (v3 p i R X).2.1 R'/\AgL M (v3 p i R X).2.2 X':=by
 obtain⟨d8,d3,da,d22⟩:=YT i ha
 by_cases e3:i.op=3
 ·unfold v3
  rw[e3]
  exact⟨rfl,hR,hX.out (d3 e3) _⟩
 by_cases e22:i.op=22
 ·unfold v3
  rw[e22]
  exact⟨rfl,hR.out (da e3) _,(hX.out (d22 e22).1 _).out (d22 e22).2 _⟩
 ·have he:=am p i ht hf d8 e3 e22 (gI R i.b) (gI R i.c) (gI R i.k) (gI X i.k)
  unfold v3
  rw[beq_false_of_ne e3,beq_false_of_ne e22]
  simp only[cond_false,he]
  exact⟨rfl,hR.out (da e3) _,hX⟩
theorem kj (p:Pg)(ht:∀t∈p.tys,fok t=true)(C:List Bool)(hC:(C.length:Int)=p.sz):∀(l:List Ins) (_:∀i∈l,ua p i=true) (R R' X X':List Int),AgL (nd l C).1 R R'->AgL (nd l C).2 X X'->
  (o7 p l R X).1=(o7 p (kp l C) R' X').1/\((o7 p l R X).1=0->AgL C (o7 p l R X).2.2 (o7 p (kp l C) R' X').2.2)
 |[],_,_,_,_,_,hR,hX=>⟨rfl,fun _=>hX⟩
 |i::t,hf,R,R',X,X',hR,hX=>by
  have hl:(nd t C).1.length=16/\(nd t C).2.length=C.length:=by
   obtain⟨h1,h2⟩:=oa t 0 C
   rw[<-h1,<-h2]
   exact pH t 0 C
  have hfi:=hf i Ig
  have hft:=fun j hj=>hf j (I0 _ hj)
  unfold nd at hR hX
  unfold kp
  cases ha:rR i (nd t C).1 (nd t C).2 with
  |true=>
   simp only[ha,cond_true]at hR hX
   obtain⟨h1,h2⟩:=dp p i hfi hl.1 (by rw[hl.2];exact hC) hR hX
   simp only[cond_true,o7]
   rw[<-h1]
   cases hz:(v3 p i R X).1==0 with
   |false=>
    simp only[cond_false]
    exact⟨h1,fun h=>absurd h (by simpa using hz)⟩
   |true=>
    obtain⟨k1,k2⟩:=h2 (by simpa using hz)
    exact kj p ht C hC t hft _ _ _ _ k1 k2
  |false=>
   simp only[ha,cond_false]at hR hX
   obtain⟨h1,h2,h3⟩:=ak p i ht hfi ha hR hX
   simp only[cond_false,o7]
   rw[h1]
   exact kj p ht C hC t hft _ _ _ _ h2 h3
def pR:List Int->List Int->List Int->List Int
 |c::cs,v::vs,X=>pR cs vs (sI X c v)
 |_,_,X=>X
def R0:List Int:=List.replicate 16 0
def vf (p:Pg)(X l:List Int):Int×List Int×List Int:=o7 p p.code R0 (pR p.f5 l X)
def nZ (p:Pg)(X:List Int):List Int:=p.f7.map (gI X)
theorem tI:∀(cs vs X:List Int),(pR cs vs X).length=X.length
 |[],_,_=>rfl
 |_::_,[],_=>rfl
 |c::cs,v::vs,X=>by unfold pR;rw[tI cs vs];exact xV _ _ _
theorem dU:∀(cs vs:List Int) (N:List Bool) (X X':List Int),cs.length=vs.length->AgL (cs.foldl (fun l c=>sB l c false) N) X X'->AgL N (pR cs vs X) (pR cs vs X')
 |[],[],_,_,_,_,h=>h
 |c::cs,v::vs,N,X,X',hl,h=>by
  unfold pR
  refine dU cs vs N _ _ (by simpa using hl) ?_
  have:(c::cs).foldl (fun l c=>sB l c false) N=cs.foldl (fun l c=>sB l c false) (sB N c false):=rfl
  rw[this]at h
  have hcomm:∀(cs:List Int) (N:List Bool),LeB (sB (cs.foldl (fun l c=>sB l c false) N) c false) (cs.foldl (fun l c=>sB l c false) (sB N c false)):=fun cs=>by
   induction cs with
   |nil=>intro N;exact LeB.refl _
   |cons d cs ih=>
    intro N
    have:sB (sB N d false) c false=sB (sB N c false) d false:=by
     unfold sB
     by_cases hcd:d.toNat=c.toNat
     ·rw[hcd]
     ·exact List.set_comm _ _ hcd
    simp only[List.foldl_cons]
    rw[<-this]
    exact ih _
  exact(h.le (hcomm cs N)).set v
theorem XM (p:Pg)(hv:wP p=true):LeB (p.f5.foldl (fun l c=>sB l c false) (nd p.code (fE p)).2) (fE p):=by
 obtain⟨h1,_,h3⟩:=vw p.code p.f5 (p.sz.toNat+1) (mO p) (pb p)
 have hF:fP p.code p.f5 (p.sz.toNat+1) (mO p)=fE p:=rfl
 rw[hF]at h1 h3
 have hnd:(nd p.code (fE p)).2.length=(fE p).length:=by
  obtain⟨_,h2⟩:=oa p.code 0 (fE p)
  rw[<-h2]
  exact(pH p.code 0 (fE p)).2
 have hlen:∀(cs:List Int) (N:List Bool),(cs.foldl (fun l c=>sB l c false) N).length=N.length:=fun cs=>by
  induction cs with
  |nil=>intro N;rfl
  |cons c cs ih=>intro N;rw[List.foldl_cons,ih,yM]
 have hget:∀(cs:List Int) (N:List Bool) (n:Nat),(∀c∈cs,0<=c)->(cs.foldl (fun l c=>sB l c false) N).getD n false=true->N.getD n false=true/\¬((n:Int)∈cs):=fun cs=>by
  induction cs with
  |nil=>intro N n _ h;exact⟨h,z9⟩
  |cons c cs ih=>
   intro N n h0 h
   rw[List.foldl_cons]at h
   obtain⟨k1,k2⟩:=ih _ n (fun x hx=>h0 x (I0 _ hx)) h
   have hc0:=h0 c Ig
   rw[t6]at k1
   split at k1
   ·cases k1
   ·rename_i hc
    refine⟨k1,fun hm=>?_⟩
    rcases J3.1 hm with hm|hm
    ·refine hc ⟨zA,?_⟩
     by_cases hl:n<N.length
     ·exact hl
     ·rw[Kx,Jc zA]at k1;cases k1
    ·exact k2 hm
 refine⟨by rw[hlen,hnd],fun n hn=>?_⟩
 obtain⟨k1,k2⟩:=hget p.f5 _ n (fun c hc=>((xt (rZ p hv).2.1).2 c hc).1) hn
 by_cases hlt:n<(fE p).length
 ·have hg:=dW _ _ _ _ h1 n hlt
  unfold jV at hg
  have e1:gB (nd p.code (fE p)).2 (n:Int)=true:=by unfold gB;rw[Int.toNat_natCast];exact k1
  rw[e1,cond_true]at hg
  cases hE:gB (fE p) (n:Int)with
  |true=>unfold gB at hE;rw[Int.toNat_natCast]at hE;exact hE
  |false=>
   rw[hE,cond_false]at hg
   have:p.f5.contains (n:Int)=false:=by
    cases hc:p.f5.contains (n:Int)with
    |false=>rfl
    |true=>exact absurd (IG.1 hc) k2
   rw[this]at hg
   cases hg
 ·rw[Kx,Jc (by rw[hnd];omega)]at k1
  cases k1
theorem dn (p:Pg):(fE p).length=p.sz.toNat:=by
 have:=(vw p.code p.f5 (p.sz.toNat+1) (mO p) (pb p)).2.2.l
 rw[gA]at this
 exact this.symm
theorem ao (l:List Int):∀(E:List Bool) (n:Int),n∈l->0<=n->n<E.length->gB (ap E l) n=true:=by
 have hmono:∀(l:List Int) (E:List Bool),LeB E (ap E l):=fun l=>by
  induction l with
  |nil=>intro E;exact LeB.refl _
  |cons c l ih=>intro E;exact(y9 E c).trans (ih _)
 induction l with
 |nil=>intro E n h;cases h
 |cons c l ih=>
  intro E n h h0 h1
  rcases J3.1 h with rfl|h
  ·exact vn (hmono l (sB E n true)) (rx E h0 h1)
  ·exact ih (sB E c true) n h h0 (by rw[yM];exact h1)
theorem bZ (p:Pg)(s:Sv)(hv:wP p=true)(X X' l:List Int)(hl:p.f5.length=l.length)(h:AgL (fE p) X X'):
  (vf p X l).1=(vf (xP p s) X' l).1/\((vf p X l).1=0->AgL (fE p) (vf p X l).2.2 (vf (xP p s) X' l).2.2/\nZ p (vf p X l).2.2=nZ (xP p s) (vf (xP p s) X' l).2.2):=by
 obtain⟨ht,hf,_,h0,_⟩:=qi p hv
 have hq:∀X',vf (xP p s) X' l=o7 p (kp p.code (fE p)) R0 (pR p.f5 l X'):=fun X'=>by
  have e:∀(t:List Ins) (R X:List Int),o7 (xP p s) t R X=o7 p t R X:=fun t=>by
   induction t with
   |nil=>intro R X;rfl
   |cons i t ih=>
    intro R X
    have h1:v3 (xP p s) i R X=v3 p i R X:=rfl
    unfold o7
    rw[h1]
    simp only[ih]
  unfold vf
  rw[e,<-uL p]
  rfl
 have hlen:(nd p.code (fE p)).1.length=16:=by
  obtain⟨h1,_⟩:=oa p.code 0 (fE p)
  rw[<-h1]
  exact(pH p.code 0 (fE p)).1
 have hi:=dU p.f5 l (nd p.code (fE p)).2 X X' hl (h.le (XM p hv))
 have hR:AgL (nd p.code (fE p)).1 R0 R0:=⟨rfl,by rw[hlen];rfl,fun _ _=>rfl⟩
 obtain⟨h1,h2⟩:=kj p ht (fE p) (by rw[dn];omega) p.code hf R0 R0 _ _ hR hi
 rw[hq]
 refine⟨h1,fun he=>?_⟩
 have h2:=h2 he
 refine⟨h2,?_⟩
 unfold nZ
 refine JV fun n hn=>?_
 have hb:=(xt (rZ p hv).1).2 n hn
 have hle:=(vw p.code p.f5 (p.sz.toNat+1) (mO p) (pb p)).2.2
 exact h2.get (vn hle (by
  unfold mO
  exact ao p.f7 _ n hn hb.1 (by rw[Ij];omega)))
def lX (i:Ins):Int:=(qE.getD i.op.toNat ([],[],0)).2.2
def vt:List Ins->Int
 |[]=>0
 |i::t=>lX i+vt t
theorem j8 (i:Ins):0<=lX i/\lX i<=40:=by
 unfold lX
 have h:∀n:Nat,0<=(qE.getD n ([],[],0)).2.2/\(qE.getD n ([],[],0)).2.2<=40:=fun n=>by
  by_cases hn:n<23
  ·exact(show ∀n:Fin 23,0<=(qE.getD n.val ([],[],0)).2.2/\(qE.getD n.val ([],[],0)).2.2<=40 by decide) ⟨n,hn⟩
  ·rw[Kx,Jc (by show 23<=n;omega)]
   exact⟨yp,yp⟩
 exact h _
theorem ax {l m:List Ins}(h:l.Sublist m):vt l<=vt m:=by
 induction h with
 |slnil=>exact HJ _
 |cons a _ ih=>have:=j8 a;simp only[vt];omega
 |cons_cons a _ ih=>simp only[vt];omega
theorem cC:∀l:List Ins,0<=vt l/\vt l<=40*l.length
 |[]=>⟨HJ _,HJ _⟩
 |i::t=>by
  have h:=cC t
  have:=j8 i
  unfold vt
  simp only[JQ]
  omega
theorem uJ (t:Ft)(n:Int):CallOk Tryz.prog 171 [.agg (xT t),I n] [] (.agg (co t (u7 t n))) []:=by
 refine kN 100 func171 S1 ntmps171 fun C hR hP=>?_
 refine vv ?_
 refine CallQ.pure 110 (jQ t) rfl (vv ?_)
 exact yN hR ClM.nil
theorem tE (b:Bool):CallOk Tryz.prog 94 [Bo b] [] (I (Xs b)) []:=by
 cases b<;>
 ·refine kN 100 func94 Py ntmps94 fun C hR hP=>?_
  refine vv ?_
  exact ww hR rfl
theorem aI {H:Hp}(p:Pg)(hp:p.ok H)(i:Ins)(hty:wZ i.op=true)(h0:0<=i.k)(h1:i.k<2097152)(hz:jr p i=true)(hn:p.tys.length<=1000)(x y:Int):
  CallH H Tryz.prog 98 [z3 p.r,z3 i.w,I x,I y] (.tup [Wi (lG p i x y).1,Wi (lG p i x y).2]):=by
 have ht:=fq p hp i h0 h1 hn
 unfold QR at ht
 rw[hz,cond_true]at ht
 have hm:=vC i.op hty
 unfold lG
 obtain⟨op,a,b,c,k⟩:=i
 rw[x6,yx]at ht⊢
 simp only at ht hm⊢
 generalize xS p (k/16384)=A at*
 generalize (bif o3 op then vX else xS p (k/128%128))=B at*
 generalize (bif js op then vX else xS p (k%128))=T at*
 rcases hm with rfl|rfl|rfl|rfl|rfl|rfl|rfl|rfl
 all_goals
  refine kH func98 Pu ntmps98 fun C hR hP hH hL=>?_
  have hR:=hR C hL
  refine zB 100 (vv ?_)
  refine zM 110 ht hH rfl (vv ?_)
  refine CallQ.pure 120 (uJ A x) rfl (vv ?_)
 ·refine CallQ.pure 130 (uJ B y) rfl (vv ?_)
  refine CallQ.pure 140 (UO A (u7 A x) B (u7 B y) T) rfl (vv ?_)
  exact zx hR rfl yI rfl rfl
 ·refine CallQ.pure 130 (uJ B y) rfl (vv ?_)
  refine CallQ.pure 140 (UC A (u7 A x) B (u7 B y) T) rfl (vv ?_)
  exact zx hR rfl yI rfl rfl
 ·refine CallQ.pure 130 (uJ B y) rfl (vv ?_)
  refine CallQ.pure 140 (UD A (u7 A x) B (u7 B y) T) rfl (vv ?_)
  exact zx hR rfl yI rfl rfl
 ·refine CallQ.pure 130 (uJ B y) rfl (vv ?_)
  refine CallQ.pure 140 (UM A (u7 A x) B (u7 B y) T) rfl (vv ?_)
  exact zx hR rfl yI rfl rfl
 ·refine CallQ.pure 140 (Zz A (u7 A x) T) rfl (vv ?_)
  exact zx hR rfl yI rfl rfl
 ·refine CallQ.pure 140 (dm A (u7 A x) T) rfl (vv ?_)
  exact zx hR rfl yI rfl rfl
 ·refine CallQ.pure 130 (uJ B y) rfl (vv ?_)
  refine CallQ.pure 140 (pZ A (u7 A x) B (u7 B y)) rfl (vv ?_)
  refine CallQ.pure 150 (pZ B (u7 B y) A (u7 A x)) rfl (vv ?_)
  refine CallQ.pure 160 (tE _) rfl (vv ?_)
  exact zx hR rfl yI rfl rfl
 ·refine CallQ.pure 130 (uJ B y) rfl (vv ?_)
  refine CallQ.pure 140 (pZ A (u7 A x) B (u7 B y)) rfl (vv ?_)
  refine CallQ.pure 150 (pZ B (u7 B y) A (u7 A x)) rfl (vv ?_)
  refine CallQ.pure 160 (tE _) rfl (vv ?_)
  exact zx hR rfl yI rfl rfl
theorem Vh (y r x:Int)(k:Nat)(hk:k<=20)(h:¬(vZ y=true/\0<=r/\r<2^k)):CallOk Tryz.prog 170 [.agg [.v (.int .i64 y),.v (.int .i64 r)],I x,I k] [] (.tup [.agg [.v (.int .i64 0),.v (.int .i64 0)],Wi 1]) []:=by
 have k0:decide ((k:Int)<0)=false:=decide_eq_false zA
 have k1:decide (20<(k:Int))=false:=decide_eq_false zA
 have hp:(1:Int)<=2^k/\(2:Int)^k<=1048576:=by
  have h1:(2:Nat)^k<=1048576:=IE (HD zA hk) yp
  have h2:1<=(2:Nat)^k:=Nat.one_le_two_pow
  have e2:((2^k:Nat):Int)=2^k:=Int.natCast_pow 2 k
  rw[<-e2]
  exact⟨Int.ofNat_le.2 h2,Int.ofNat_le.2 h1⟩
 have hm:min k 64=k:=zA
 have ew:IntKind.i64.wrap (1*2^k)=2^k:=by rw[Int.one_mul];exact y6 zA zA
 have ey:(bif decide (-1099511627776<=y)then decide (y<=1099511627776)else false)=vZ y:=by
  unfold vZ
  rw[JP]
  simp only[JT,decide_eq_true_eq]
  by_cases h: -1099511627776<=y<;>simp[h]
 refine kN 100 func170 YN ntmps170 fun C hR hP=>?_
 simp only[go_sem,k0,k1]
 refine Sm.dg 110 14 zi (vv ?_)
 refine DCallQ.pure 120 (dZ y) rfl ?_
 rw[ey]
 cases hy:vZ y with
 |false=>
  simp only[go_sem,ey,hy]
  exact yN hR ClM.nil
 |true=>
  by_cases h0:r<0
  ·have r0:decide (r<0)=true:=decide_eq_true h0
   simp only[go_sem,ey,hy,r0]
   exact yN hR ClM.nil
  ·have r0:decide (r<0)=false:=decide_eq_false h0
   have r1:decide ((2:Int)^k<=r)=true:=decide_eq_true (by
    rcases Ix r (2^k)with h2|h2
    ·exact absurd ⟨hy,zA,h2⟩ h
    ·exact h2)
   simp only[go_sem,ey,hy,r0,Int.toNat_natCast,hm,ew,r1]
   exact⟨zA,yN hR ClM.nil⟩
@[reducible] def mB (R:List Int)(n:Nat)(ro:Bool):Nat×Bk:=(1,⟨ro,R.map iC++[.sl 2 0 n 1],45⟩)
@[reducible] def mX (X:List Int)(ro:Bool):Nat×Bk:=(2,⟨ro,X.map iC,3⟩)
theorem pU {X:List Int}{n:Int}(h0:0<=n)(h1:n<X.length):(X.map iC)[n.toNat]?=some (iC (gI X n)):=by
 unfold gI
 rw[JO,JA zA,Kx,JA zA]
 rfl
theorem lF {R:List Int}(h:R.length=16){c:Cv}:(R.map iC++[c])[16]?=some c:=by
 rw[Ju (by rw[Kv];omega),Kv,h]
 rfl
theorem rI {R:List Int}(h:R.length=16){c:Cv}{a:Int}(h0:0<=a)(h1:a<16):(R.map iC++[c])[a.toNat]?=some (iC (gI R a)):=by
 rw[Jk (by rw[Kv];omega)]
 exact pU h0 zA
theorem t5 {X:List Int}{n v:Int}:(X.map iC).set n.toNat (iC v)=(sI X n v).map iC:=by unfold sI;rw[Jy]
theorem xo {R:List Int}(h:R.length=16){c:Cv}{a v:Int}(h1:a<16):(R.map iC++[c]).set a.toNat (iC v)=(sI R a v).map iC++[c]:=by
 rw[List.set_append_left _ _ (by rw[Kv];omega),t5]
theorem PT (R X:List Int)(a b:Bool):ClM [mB R X.length a,mX X b]:=zD (by simp only[Kw,IV,z6 (zq _)];rfl)
theorem V5 (o a b c k:Int)(R X:List Int)(x:Int)(hR:R.length=16)(k0:0<=k)(k1:k/32+1<X.length)(k2:k%32<=20)(hX:X.length<=1000):
  CallOk Tryz.prog 97 [.c (.p 1 0),z3 (Ins.w ⟨o,a,b,c,k⟩),I x] [mX X false,mB R X.length false] (I (X7 (gI X (k/32)) (gI X (k/32+1)) x (k%32).toNat).1)
   [mX (sI (sI X (k/32) (X7 (gI X (k/32)) (gI X (k/32+1)) x (k%32).toNat).1) (k/32+1) (X7 (gI X (k/32)) (gI X (k/32+1)) x (k%32).toNat).2) false]:=by
 obtain⟨z,hz⟩:∃z,z=X7 (gI X (k/32)) (gI X (k/32+1)) x (k%32).toNat:=⟨_,rfl⟩
 rw[<-hz]
 obtain⟨s,hs,hs2⟩:∃s:Nat,k%32=s/\s<=20:=⟨(k%32).toNat,zA,zA⟩
 rw[hs,Int.toNat_natCast]at hz
 have g1:=pU (X:=X) (n:=k/32) zA zA
 have g2:=pU (X:=X) (n:=k/32+1) zA zA
 have hx:vZ (min (max x (-1099511627776)) 1099511627776)=true:=by unfold vZ;exact decide_eq_true zA
 have w1:k.fdiv (2^min 5 64)=k/32:=by rw[Js _ yp];rfl
 have w2:IntKind.i64.wrap (k/32)=k/32:=y6 zA zA
 have w3:IntKind.i64.wrap (k/32+1)=k/32+1:=y6 zA zA
 have hl:(X.map iC).length=X.length:=Kv _
 have h16:=lF (c:= .sl 2 0 X.length 1) hR
 unfold X7 at hz
 generalize gI X (k/32)=y at*
 generalize gI X (k/32+1)=r at*
 generalize hxx:min (max x (-1099511627776)) 1099511627776=x' at*
 rw[yx]
 have hMl:(sI (sI X (k/32) z.1) (k/32+1) z.2).length=X.length:=by rw[xV,xV]
 refine kN 100 func97 Pv ntmps97 fun C hR hP=>?_
 refine vv ?_
 refine Sm.dg 110 7 zi ?_
 simp only[go_sem,w1,w2,Y0,hs,hxx]
 refine Sm.dg 120 24 zi ?_
 simp only[go_sem,h16,g1,g2,hl,w3]
 refine⟨⟨zA,zA⟩,⟨zA,zA⟩,?_⟩
 have hP:(0:Int)<2^s:=Int.pow_pos yp
 by_cases hg:vZ y=true/\0<=r/\r<2^s
 ·have hz:z=lH y r x' s:=by
   rw[hz,hg.1,decide_eq_false (show ¬r<0 by omega),decide_eq_false (show ¬(2:Int)^s<=r by omega)]
   rfl
  refine DCallQ.pure 130 (Vf y r x' s hs2 hg.1 hg.2.1 hg.2.2 hx) rfl ?_
  rw[<-hz]
  refine vv ?_
  refine Sm.dgW [2] 150 17 zi ?_
  simp only[go_sem,h16,hl,w3,t5]
  refine⟨⟨zA,zA⟩,zA,⟨zA,zA⟩,by rw[Kv,xV];omega,?_⟩
  exact zN hR rfl yI rfl (vQ (SubS.sub ⟨oS,oS,trivial⟩)) (v5 (zD (by simp only[JF,JG,Kw,IV,z6 (zq _)];rfl))) (zG rfl)
 ·have hz:z=lH 0 0 x' s:=by
   rw[hz]
   cases hy:vZ y with
   |false=>rfl
   |true=>
    rw[hy]at hg
    by_cases h0:r<0
    ·rw[decide_eq_true h0];rfl
    ·rw[decide_eq_false h0,decide_eq_true (show(2:Int)^s<=r by
      rcases Ix r (2^s)with h2|h2
      ·exact absurd ⟨rfl,zA,h2⟩ hg
      ·exact h2)]
     rfl
  refine DCallQ.pure 130 (Vh y r x' s hs2 hg) rfl (vv ?_)
  refine CallQ.pure 140 (Vf 0 0 x' s hs2 rfl (HJ _) hP hx) rfl ?_
  rw[<-hz]
  refine vv ?_
  refine Sm.dgW [2] 150 17 zi ?_
  simp only[go_sem,h16,hl,w3,t5]
  refine⟨⟨zA,zA⟩,zA,⟨zA,zA⟩,by rw[Kv,xV];omega,?_⟩
  exact zN hR rfl yI rfl (vQ (SubS.sub ⟨oS,oS,trivial⟩)) (v5 (zD (by simp only[JF,JG,Kw,IV,z6 (zq _)];rfl))) (zG rfl)
structure PgE (p:Pg):Prop where
 ty:∀t∈p.tys,fok t=true
 tn:p.tys.length<=100
 cn:p.cus.length<=100
 mn:p.mas.length<=100
 cu:∀c∈p.cus,wN c.c.xs c.c.ys=true
 ma:∀m∈p.mas,xM m.xs m.ys (m.zs.map (·.2))=true
 sz:0<=p.sz/\p.sz<=1000
theorem ji {p:Pg}(h:wP p=true):PgE p:=by
 unfold wP iV at h
 simp only[JB,decide_eq_true_eq,JD]at h
 exact⟨h.2.1,h.1.2.1,h.1.2.2.1,h.1.2.2.2.1,h.2.2.1,h.2.2.2.1,h.1.2.2.2.2.1,h.1.2.2.2.2.2.1⟩
theorem Wp {b b' c c':Bk}{M:Mem}(h:Sub [(1,b),(2,c)] M):Sub [(1,b),(2,c),(1,b'),(2,c')] M:=xZ h
theorem dl (p:Pg)(i:Ins)(h:ua p i=true):ss i=true:=by
 unfold ua at h
 simp only[Jf,JB]at h
 exact h.1
theorem Xw (p:Pg)(i:Ins)(h:ua p i=true)(ht:wZ i.op=true):jr p i=true:=by
 have hm:=vC i.op ht
 unfold ua at h
 simp only[Jf,JB]at h
 have hr:Xx p i=true:=by
  have hr:=h.2
  unfold fA at hr
  rw[ht]at hr
  rcases hm with h|h|h|h|h|h|h|h<;>(rw[h]at hr;exact hr)
 unfold Xx at hr
 cases hz:jr p i with
 |true=>rfl
 |false=>rw[hz]at hr;cases hr
theorem UJ (p:Pg)(i:Ins)(h:ua p i=true)(ho:i.op=20\/i.op=21\/i.op=22):0<=i.k:=by
 have hm:=dl p i h
 obtain⟨op,a,b,c,k⟩:=i
 simp only at ho⊢
 have hc:xp op k=true:=by
  unfold ss at hm
  simp only at hm
  have hs:fy (yb op)=true:=by rcases ho with rfl|rfl|rfl<;>rfl
  rw[hs,cond_true]at hm
  simp only[Jf,JB]at hm
  exact hm.2.2.2.2
 rcases ho with rfl|rfl|rfl<;>(simp[xp,wZ]at hc;omega)
theorem UK (p:Pg)(i:Ins)(h:ua p i=true)(ho:i.op=22):i.k%32<=20:=by
 have hm:=dl p i h
 obtain⟨op,a,b,c,k⟩:=i
 simp only at ho⊢
 subst ho
 have hc:xp 22 k=true:=by
  unfold ss at hm
  simp only at hm
  rw[show fy (yb 22)=true from rfl,cond_true]at hm
  simp only[Jf,JB]at hm
  exact hm.2.2.2.2
 simp[xp,wZ]at hc
 omega
theorem XV {H:Hp}(p:Pg)(hp:p.ok H)(hE:PgE p)(a b c k:Int)(hf:ua p ⟨20,a,b,c,k⟩=true)(R X:List Int)(hRl:R.length=16)(hX:(X.length:Int)=p.sz):
  CallX H Tryz.prog 46 [z3 p.r,.c (.p 1 0),z3 (Ins.w ⟨20,a,b,c,k⟩)] [mB R X.length false,mX X false] (fun _:Unit=>I (v3 p ⟨20,a,b,c,k⟩ R X).1) (fun _=>[mB (v3 p ⟨20,a,b,c,k⟩ R X).2.1 X.length false,mX (v3 p ⟨20,a,b,c,k⟩ R X).2.2 false]) (fun _ _=>True):=by
 obtain⟨_,ha,hb0,hb1,hc0,hc1,h23,h19,h22⟩:=qA p _ hf
 simp only at ha hb0 hb1 hc0 hc1
 have hga:=rI (c:= .sl 2 0 X.length 1) hRl ha.1 ha.2
 have hgb:=rI (c:= .sl 2 0 X.length 1) hRl hb0 hb1
 have hgc:=rI (c:= .sl 2 0 X.length 1) hRl hc0 hc1
 have h16:=lF (c:= .sl 2 0 X.length 1) hRl
 have hl17:(R.map iC++[Cv.sl 2 0 X.length 1]).length=17:=by rw[JM,Kv,hRl];rfl
 have hlX:(X.map iC).length=X.length:=Kv _
 have hMM:∀R' X',ClM ([mB R' X.length false,mX X' false]++[mB R X.length false,mX X false]):=fun R' X'=>zD (by simp only[JF,JG,Kw,IV,z6 (zq _)];rfl)
 have hXn:X.length<=1000:=by have:=hE.sz;omega
 have hk:=UJ p _ hf (.inl rfl)
 simp only at hk
 have hkn:k<p.cus.length:=by
  unfold ua at hf
  simp only[Jf,JB]at hf
  exact of_decide_eq_true hf.2
 obtain⟨n,rfl⟩:∃n:Nat,k=n:=⟨k.toNat,zA⟩
 have hn:n<p.cus.length:=zA
 have htk:=zW (r:=pf) (k:=2) (fun _=>rfl) p.cus n hn
 have hsz:=zQ (r:=pf) (k:=2) (fun _=>rfl) p.cus
 have hlen:(p.cus.map pf).length=p.cus.length:=Kv _
 have ht:((zC (p.cus.map pf)).drop (n*2)).take 2=gF p.cus[n]:=htk
 have hcu:Q9 p (n:Int)=p.cus[n]:=by
  unfold Q9
  rw[Int.toNat_natCast,Kx,JA hn]
  rfl
 have hA:=fun x=>cA p.cus[n] (hp.cu _ (JH hn)) (hE.cu _ (JH hn)) x
 have e:v3 p ⟨20,a,b,c,n⟩ R X=(0,sI R a (vc (Q9 p (n:Int)).c (gI R b)),X):=rfl
 rw[e,hcu]
 generalize p.cus[n]=cc at*
 rw[x6,yx]
 refine kX func46 jZ ntmps46 fun C hR hP hH hL=>?_
 have hR:=hR () C hL trivial
 refine zB 100 (vv ?_)
 refine Sm.dg 110 23 zi ?_
 simp only[go_sem,hga,hgb,hgc,h16,hl17]
 refine⟨ha,⟨hb0,hb1⟩,⟨hc0,hc1⟩,?_⟩
 refine Sm.bringR 140 78 129 (rows:=p.cus.map pf) (hp.u.mono hH) rfl rfl ?_
 simp only[hlen]
 refine zB 150 ?_
 simp only[go_sem,Int.toNat_natCast,hsz,ht]
 refine⟨⟨zA,zA⟩,zA,?_⟩
 refine zM 160 (hA _) hH rfl (vv ?_)
 refine Sm.dgW [1] 170 6 zi ?_
 simp only[go_sem,hga,hl17,xo hRl ha.2]
 exact⟨ha,zA,zN hR rfl yI rfl (xZ (SubS.sub ⟨oS,oS,trivial⟩)) (hMM _ _) (zG rfl)⟩
theorem XU {H:Hp}(p:Pg)(hp:p.ok H)(hE:PgE p)(a b c k:Int)(hf:ua p ⟨21,a,b,c,k⟩=true)(R X:List Int)(hRl:R.length=16)(hX:(X.length:Int)=p.sz):
  CallX H Tryz.prog 46 [z3 p.r,.c (.p 1 0),z3 (Ins.w ⟨21,a,b,c,k⟩)] [mB R X.length false,mX X false] (fun _:Unit=>I (v3 p ⟨21,a,b,c,k⟩ R X).1) (fun _=>[mB (v3 p ⟨21,a,b,c,k⟩ R X).2.1 X.length false,mX (v3 p ⟨21,a,b,c,k⟩ R X).2.2 false]) (fun _ _=>True):=by
 obtain⟨_,ha,hb0,hb1,hc0,hc1,h23,h19,h22⟩:=qA p _ hf
 simp only at ha hb0 hb1 hc0 hc1
 have hga:=rI (c:= .sl 2 0 X.length 1) hRl ha.1 ha.2
 have hgb:=rI (c:= .sl 2 0 X.length 1) hRl hb0 hb1
 have hgc:=rI (c:= .sl 2 0 X.length 1) hRl hc0 hc1
 have h16:=lF (c:= .sl 2 0 X.length 1) hRl
 have hl17:(R.map iC++[Cv.sl 2 0 X.length 1]).length=17:=by rw[JM,Kv,hRl];rfl
 have hlX:(X.map iC).length=X.length:=Kv _
 have hMM:∀R' X',ClM ([mB R' X.length false,mX X' false]++[mB R X.length false,mX X false]):=fun R' X'=>zD (by simp only[JF,JG,Kw,IV,z6 (zq _)];rfl)
 have hXn:X.length<=1000:=by have:=hE.sz;omega
 have hk:=UJ p _ hf (.inr (.inl rfl))
 simp only at hk
 have hkn:k<p.mas.length:=by
  unfold ua at hf
  simp only[Jf,JB]at hf
  exact of_decide_eq_true hf.2
 obtain⟨n,rfl⟩:∃n:Nat,k=n:=⟨k.toNat,zA⟩
 have hn:n<p.mas.length:=zA
 have htk:=zW (r:=pK) (k:=3) (fun _=>rfl) p.mas n hn
 have hsz:=zQ (r:=pK) (k:=3) (fun _=>rfl) p.mas
 have hlen:(p.mas.map pK).length=p.mas.length:=Kv _
 have ht:((zC (p.mas.map pK)).drop (n*3)).take 3=kJ p.mas[n]:=htk
 have hcu:Q8 p (n:Int)=p.mas[n]:=by
  unfold Q8
  rw[Int.toNat_natCast,Kx,JA hn]
  rfl
 have hA:=fun x y=>bP p.mas[n] (hp.ma _ (JH hn)) (hE.ma _ (JH hn)) x y
 have e:v3 p ⟨21,a,b,c,n⟩ R X=(0,sI R a (kQ (Q8 p (n:Int)).c (gI R b) (gI R c)),X):=rfl
 rw[e,hcu]
 generalize p.mas[n]=cc at*
 rw[x6,yx]
 refine kX func46 jZ ntmps46 fun C hR hP hH hL=>?_
 have hR:=hR () C hL trivial
 refine zB 100 (vv ?_)
 refine Sm.dg 110 23 zi ?_
 simp only[go_sem,hga,hgb,hgc,h16,hl17]
 refine⟨ha,⟨hb0,hb1⟩,⟨hc0,hc1⟩,?_⟩
 refine Sm.bringR 140 82 139 (rows:=p.mas.map pK) (hp.m.mono hH) rfl rfl ?_
 simp only[hlen]
 refine zB 150 ?_
 simp only[go_sem,Int.toNat_natCast,hsz,ht]
 refine⟨⟨zA,zA⟩,zA,?_⟩
 refine zM 160 (hA _ _) hH rfl (vv ?_)
 refine Sm.dgW [1] 170 6 zi ?_
 simp only[go_sem,hga,hl17,xo hRl ha.2]
 exact⟨ha,zA,zN hR rfl yI rfl (xZ (SubS.sub ⟨oS,oS,trivial⟩)) (hMM _ _) (zG rfl)⟩
theorem XT {H:Hp}(p:Pg)(hp:p.ok H)(hE:PgE p)(a b c k:Int)(hf:ua p ⟨22,a,b,c,k⟩=true)(R X:List Int)(hRl:R.length=16)(hX:(X.length:Int)=p.sz):
  CallX H Tryz.prog 46 [z3 p.r,.c (.p 1 0),z3 (Ins.w ⟨22,a,b,c,k⟩)] [mB R X.length false,mX X false] (fun _:Unit=>I (v3 p ⟨22,a,b,c,k⟩ R X).1) (fun _=>[mB (v3 p ⟨22,a,b,c,k⟩ R X).2.1 X.length false,mX (v3 p ⟨22,a,b,c,k⟩ R X).2.2 false]) (fun _ _=>True):=by
 obtain⟨_,ha,hb0,hb1,hc0,hc1,h23,h19,h22⟩:=qA p _ hf
 simp only at ha hb0 hb1 hc0 hc1
 have hga:=rI (c:= .sl 2 0 X.length 1) hRl ha.1 ha.2
 have hgb:=rI (c:= .sl 2 0 X.length 1) hRl hb0 hb1
 have hgc:=rI (c:= .sl 2 0 X.length 1) hRl hc0 hc1
 have h16:=lF (c:= .sl 2 0 X.length 1) hRl
 have hl17:(R.map iC++[Cv.sl 2 0 X.length 1]).length=17:=by rw[JM,Kv,hRl];rfl
 have hlX:(X.map iC).length=X.length:=Kv _
 have hMM:∀R' X',ClM ([mB R' X.length false,mX X' false]++[mB R X.length false,mX X false]):=fun R' X'=>zD (by simp only[JF,JG,Kw,IV,z6 (zq _)];rfl)
 have hXn:X.length<=1000:=by have:=hE.sz;omega
 obtain⟨k0,k1⟩:0<=k/\k/32+1<p.sz:=h22 rfl
 have hlg:=V5 22 a b c k R X (gI R b) hRl k0 zA (by have:=(UK p _ hf rfl);exact this) hXn
 obtain⟨z,hz⟩:∃z,z=X7 (gI X (k/32)) (gI X (k/32+1)) (gI R b) (k%32).toNat:=⟨_,rfl⟩
 rw[<-hz]at hlg
 have e:v3 p ⟨22,a,b,c,k⟩ R X=(0,sI R a z.1,sI (sI X (k/32) z.1) (k/32+1) z.2):=by rw[hz];rfl
 rw[e]
 rw[x6,yx]
 refine kX func46 jZ ntmps46 fun C hR hP hH hL=>?_
 have hR:=hR () C hL trivial
 refine zB 100 (vv ?_)
 refine Sm.dg 110 23 zi ?_
 simp only[go_sem,hga,hgb,hgc,h16,hl17]
 refine⟨ha,⟨hb0,hb1⟩,⟨hc0,hc1⟩,?_⟩
 refine ux 140 hlg (zD (by simp only[Kw,IV,z6 (zq _)];rfl)) ⟨oS,oS,trivial⟩ (vv ?_)
 refine Sm.dgW [1] 170 6 zi ?_
 simp only[go_sem,hga,hl17,xo hRl ha.2]
 exact⟨ha,zA,zN hR rfl yI rfl (xZ (SubS.sub ⟨oS,oS,trivial⟩)) (hMM _ _) (zG rfl)⟩
end Go.Proofs.YtbnkiacicnnmkaaGreat.Fx
