/-  -/
import Derived.Test.YtbnkiacicnnmkaaGreatG3
open Go.Proofs.Tryz
open Go.Proofs.Tryz renaming prog→KI
set_option linter.unusedSimpArgs false
set_option linter.unusedVariables false
set_option maxRecDepth 100000
set_option maxHeartbeats 4000000
namespace Go.Proofs.YtbnkiacicnnmkaaGreat.Fx
open Vg Tf
def Si (p:Pg)(i:Ins):Bool:=bif c8 p i then jf i.op (xx p (i.k/16384)) (bif mN i.op then vl else xx p (i.k/128%128)) (bif iw i.op then vl else xx p (i.k%128))else false
def fR (p:Pg)(i:Ins):Bool:=
 bif i.op==2 then decide (i.k<p.sz)else bif i.op==3 then decide (i.k<p.sz)else bif i.op==20 then decide (i.k<(p.cus.length:Int))else bif i.op==21 then decide (i.k<(p.mas.length:Int))else
 bif i.op==22 then decide (i.k/32+1<p.sz)else bif tI i.op then Si p i else true
def oA (p:Pg)(i:Ins):Bool:=bif rO i then fR p i else false
theorem X1 (i:Ins)(h:rO i=true)(ht:tI i.op=true):0<=i.k/\i.k<2097152:=by
 have hm:=pW i.op ht
 obtain⟨op,a,b,c,k⟩:=i
 simp only at*
 have hc:wQ op k=true:=by
  unfold rO at h
  simp only at h
  have hs:ei (ya op)=true:=by rcases hm with rfl|rfl|rfl|rfl|rfl|rfl|rfl|rfl<;>rfl
  rw[hs,cond_true]at h
  simp only[LL,Ns]at h
  exact h.2.2.2.2
 unfold wQ at hc
 rw[ht]at hc
 rcases hm with rfl|rfl|rfl|rfl|rfl|rfl|rfl|rfl<;>(simp at hc;omega)
theorem X3 (i:Ins)(h:rO i=true)(ho:i.op=22):0<=i.k/\i.k<=32767:=by
 obtain⟨op,a,b,c,k⟩:=i
 simp only at*
 subst ho
 have hc:wQ 22 k=true:=by
  unfold rO at h
  simp only at h
  have hs:ei (ya 22)=true:=rfl
  rw[hs,cond_true]at h
  simp only[LL,Ns]at h
  exact h.2.2.2.2
 unfold wQ at hc
 simp[tI]at hc
 omega
theorem ZH {H:Hp}(p:Pg)(hp:p.ok H)(hty:∀t∈p.tys,fok t=true)(hn:p.tys.length<=1000)(i:Ins):CallH H KI 76 [ze p.r,ze i.w] (Bo (oA p i)):=by
 have hfo:=d8 i
 have hty_:=fun(h0:0<=i.k) (h1:i.k<2097152)=>aT p hp i h0 h1 hn
 rw[wa]at hty_⊢
 rw[xl]at hfo hty_⊢
 refine kH func76 RE ntmps76 fun C hR hP hH hL=>?_
 have hR:=hR C hL
 refine zB 100 (vv ?_)
 refine CallQ.pure 110 hfo rfl (vv ?_)
 by_cases hq:¬rO i=true
 ·have hq:=Mu.2 hq
  rw[hq]
  exact RetQ.bool hR rfl y6 (by unfold oA;rw[hq,cond_false])
 have hq:=M6.1 hq
 have hF:oA p i=fR p i:=by unfold oA;rw[hq,cond_true]
 rw[hF]at hR
 unfold fR at hR
 rw[hq]
 cases h2:(i.op==2)with
 |true=>rw[h2,cond_true]at hR;exact zu hR rfl
 |false=>
 rw[h2,cond_false]at hR
 cases h3:(i.op==3)with
 |true=>rw[h3,cond_true]at hR;exact zu hR rfl
 |false=>
 rw[h3,cond_false]at hR
 cases h20:(i.op==20)with
 |true=>rw[h20,cond_true]at hR;exact zu hR rfl
 |false=>
 rw[h20,cond_false]at hR
 cases h21:(i.op==21)with
 |true=>rw[h21,cond_true]at hR;exact zu hR rfl
 |false=>
 rw[h21,cond_false]at hR
 cases h22:(i.op==22)with
 |true=>
  rw[h22,cond_true]at hR
  have hk:=X3 i hq (by simpa using h22)
  have e1:IntKind.i64.wrap (i.k.fdiv (2^min 5 64)+1)=i.k/32+1:=by
   rw[show i.k.fdiv (2^min 5 64)=i.k/32 from LC _ xW]
   exact y8 zA zA
  exact RetQ.bool hR rfl y6 (by rw[e1])
 |false=>
 rw[h22,cond_false]at hR
 simp only[LD,cond_false]
 refine CallQ.pure 120 (iu i.op) rfl (vv ?_)
 cases ht:tI i.op with
 |false=>rw[ht,cond_false]at hR;exact zu hR rfl
 |true=>
 rw[ht,cond_true]at hR
 obtain⟨k0,k1⟩:=X1 i hq ht
 have hc:=hty_ k0 k1
 have uz:wI vl.m vl.kg vl.s vl.a vl.k=true:=rfl
 have uT:∀j,wI (xx p j).m (xx p j).kg (xx p j).s (xx p j).a (xx p j).k=true:=fun j=>by
  unfold xx
  rw[Nl]
  cases hj:p.tys[j.toNat]? with
  |none=>exact uz
  |some t=>exact nU (hty t (Li hj))
 have uB:wI (bif mN i.op then vl else xx p (i.k/128%128)).m (bif mN i.op then vl else xx p (i.k/128%128)).kg (bif mN i.op then vl else xx p (i.k/128%128)).s (bif mN i.op then vl else xx p (i.k/128%128)).a (bif mN i.op then vl else xx p (i.k/128%128)).k=true:=by
  cases mN i.op
  ·exact uT _
  ·exact uz
 have uA:=uT (i.k/16384)
 unfold Tl at hc
 unfold Si at hR
 generalize xx p (i.k/16384)=A at*
 generalize (bif mN i.op then vl else xx p (i.k/128%128))=B at*
 generalize (bif iw i.op then vl else xx p (i.k%128))=D at*
 have hu:=dM i A B D ht uA uB
 rw[xl]at hu
 simp only
 cases hz:c8 p i with
 |false=>
  rw[hz,cond_false]at hc hR
  refine zO 130 hc hH rfl (vv ?_)
  refine CallQ.guard 140 (xs:=[]) (v:=Bo false) (fun h=>by cases h) (fun h=>by cases h) (vv ?_)
  exact zu hR rfl
 |true=>
  rw[hz,cond_true]at hc hR
  refine zO 130 hc hH rfl (vv ?_)
  refine CallQ.pure 140 hu rfl (vv ?_)
  exact zu hR rfl
theorem eR (b:Bool):CallOk KI 66 [Bo b] [] (Bo (!b)) []:=by
 refine kN 100 func66 RN ntmps66 fun C hR hP=>?_
 refine vv ?_
 exact zu hR rfl
def iX (n:Int):Bool:=bif decide (n< -1099511627776)then true else decide (1099511627776<n)
theorem T9 (n:Int):CallOk KI 80 [I n] [] (Bo (iX n)) []:=by
 refine kN 100 func80 RC ntmps80 fun C hR hP=>?_
 refine vv ?_
 exact zu hR rfl
def uV (p:Pg):List Cv:=[.v (vsl p.c p.code.length),.v (vsl p.t p.tys.length),.v (vsl p.u p.cus.length),.v (vsl p.m p.mas.length),.v (iv p.sz),.v (vsl p.s5 p.f5.length),.v (vsl p.s6 p.f6.length),.v (vsl p.s7 p.f7.length),.v (vsl p.s8 p.f8.length)]
theorem Ty (c:CuL):CallOk KI 22 [ze (o3 c)] [] (Bo (bif decide (40<(c.c.xs.length:Int))then true else decide (40<(c.c.ys.length:Int)))) []:=by
 rw[show ze (o3 c)= .agg [.v (vsl c.x c.c.xs.length),.v (vsl c.y c.c.ys.length)] from rfl]
 refine kN 100 func22 Rw ntmps22 fun C hR hP=>?_
 refine vv ?_
 exact zu hR rfl
theorem Tw (v:Sv×List Int):CallOk KI 26 [.c (.v (vsl v.1 v.2.length))] [] (Bo (decide (40<(v.2.length:Int)))) []:=by
 refine kN 100 func26 Rs ntmps26 fun C hR hP=>?_
 refine vv ?_
 exact zu hR rfl
theorem Tg {H:Hp}(t:Ft)(pv:Value)(hpv:PtH H pv [.func (.func 66) #[] #[]]):CallH H KI 68 [fx t,.c (.v pv)] (Bo (!fok t)):=by
 have hv:=sV t
 unfold fx at hv⊢
 refine kH func68 RM ntmps68 fun C hR hP hH hL=>?_
 have hR:=hR C hL
 refine z3 4 151 1 (hpv.mono hH) rfl rfl (zB 100 ?_)
 refine vv ?_
 refine Sm.dg 120 3 zw (vv ?_)
 refine DCallQ.pure 130 hv rfl (vv ?_)
 refine CallQ.pure 140 (eR _) rfl (vv ?_)
 exact zu hR rfl
theorem Te {H:Hp}(c:CuL)(k:c.ok H)(h1:c.c.xs.length<=1000000000000000)(h2:c.c.ys.length<=1000000000000000)(pv:Value)(hpv:PtH H pv [.func (.func 66) #[] #[]]):CallH H KI 70 [ze (o3 c),.c (.v pv)] (Bo (!wU c.c.xs c.c.ys)):=by
 rw[show ze (o3 c)= .agg [.v (vsl c.x c.c.xs.length),.v (vsl c.y c.c.ys.length)] from rfl]
 refine kH func70 RK ntmps70 fun C hR hP hH hL=>?_
 have hR:=hR C hL
 refine z3 4 151 1 (hpv.mono hH) rfl rfl (zB 100 ?_)
 refine vv ?_
 refine Sm.dg 120 3 zw (vv ?_)
 refine yq 130 (fun _=>lN c.x c.y c.c.xs c.c.ys (k.x.mono hH) (k.y.mono hH) h1 h2) (zN _) (fun _=>rfl) (vv ?_)
 refine CallQ.pure 140 (eR _) rfl (vv ?_)
 exact zu hR rfl
theorem Tb {H:Hp}(m:MpL)(k:m.ok H)(h1:∀v∈m.zs,v.2.length<=1000000000000000)(pv:Value)(hpv:PtH H pv [.func (.func 66) #[] #[]]):CallH H KI 72 [ze (oT m),.c (.v pv)] (Bo (!x8 m.xs m.ys (m.zs.map (·.2)))):=by
 rw[show ze (oT m)= .agg [.v (vsl m.x m.xs.length),.v (vsl m.y m.ys.length),.v (vsl m.z m.zs.length)] from rfl]
 refine kH func72 RI ntmps72 fun C hR hP hH hL=>?_
 have hR:=hR C hL
 refine z3 4 151 1 (hpv.mono hH) rfl rfl (zB 100 ?_)
 refine vv ?_
 refine Sm.dg 120 3 zw (vv ?_)
 refine yq 130 (fun _=>pY m (k.mono hH) h1) (zN _) (fun _=>rfl) (vv ?_)
 refine CallQ.pure 140 (eR _) rfl (vv ?_)
 exact zu hR rfl
theorem aL {H:Hp}(p:Pg)(n:Int)(pv:Value)(hpv:PtH H pv p.r):CallH H KI 78 [I n,.c (.v pv)] (Bo (!lR p.sz n)):=by
 refine kH func78 RD ntmps78 fun C hR hP hH hL=>?_
 have hR:=hR C hL
 refine z3 4 28 1 (hpv.mono hH) rfl rfl (zB 100 ?_)
 unfold Pg.r
 refine vv ?_
 have:(bif decide (n<0)then true else decide (p.sz<=n))= !lR p.sz n:=by unfold lR;cases decide (n<0)<;>simp
 exact zu hR this
theorem Ta {H:Hp}(p:Pg)(hp:p.ok H)(hty:∀t∈p.tys,fok t=true)(hn:p.tys.length<=1000)(i:Ins)(pv pw:Value)(hpv:PtH H pv [.func (.func 66) #[] #[]])(hpw:PtH H pw p.r):CallH H KI 75 [ze i.w,.c (.v pv),.c (.v pw)] (Bo (!oA p i)):=by
 have hf:=fun{H:Hp} (hp:p.ok H)=>ZH p hp hty hn i
 rw[wa]at hf
 rw[xl]at hf⊢
 refine kH func75 RF ntmps75 fun C hR hP hH hL=>?_
 have hR:=hR C hL
 refine z3 4 151 1 (hpv.mono hH) rfl rfl ?_
 refine z3 5 28 2 (hpw.mono hH) rfl rfl (zB 100 ?_)
 unfold Pg.r
 refine vv ?_
 refine Sm.dg 120 4 zw (vv ?_)
 refine yq 130 (fun _=>hf (hp.mono hH)) (zN _) (fun _=>rfl) (vv ?_)
 refine CallQ.pure 140 (eR _) rfl (vv ?_)
 exact zu hR rfl
theorem XP {H:Hp}(s:Sv)(l:List Ft)(hs:SlH H (vsl s l.length) 10 (l.map xD))(hl:l.length<=1000000000000000)(g:FuncId)(caps:Array Value)(p:Ft->Bool)(hp:∀x∈l,CallH H KI g ((ze (xD x))::caps.toList.map vU) (Bo (p x))):
  CallH H KI 152 [.c (.v (vsl s l.length)),Fv g caps] (I (xu p l 0)):=by
 have hlen:(l.map xD).length=l.length:=Ni _
 have hsz:=zS (r:=xD) (k:=10) (fun _=>rfl) l
 refine kH func152 Vj ntmps152 fun C hR hP hH hL=>?_
 refine zB 100 (vv ?_)
 refine Sm.bringR 1 55 0 (hs.mono hH) rfl rfl ?_
 simp only[hlen]
 refine zL (M0:=[]) (α:={i:Nat//i<=l.length/\xu p l 0=xu p (l.drop i) i}) hP (fun i=>[(0,true,.c (.sl 1 0 l.length 10)),(1,true,Fv g caps),(7,true,I l.length),(8,true,I i.val)]) (fun _=>[(1,⟨true,zC (l.map xD),55⟩)]) (fun i=>l.length-i.val) ⟨0,zA,rfl⟩ (fun _=>ClM.v (by simp only[Nj,zK];rfl)) (fun _=>zP rfl) [(1,1)] ?_ ?_
 ·exact zk
 ·rintro⟨i,hi,hx⟩ J hb
  simp only at hb hi hx⊢
  refine zB 110 (vv ?_)
  refine zY (fun hc=>?_) (fun hc=>?_)
  ·have hc:=zI hc
   rw[yW p l i hc]at hx
   have htk:=zX (r:=xD) (k:=10) (fun _=>rfl) l i hc
   simp only[htk,hsz]
   refine⟨⟨zA,zA⟩,zA,?_⟩
   refine zO 120 (hp l[i] (Nv hc)) hH (xM _ _) (vv ?_)
   refine zY (fun hd=>?_) (fun hd=>?_)
   ·rw[hd,cond_true]at hx
    exact vK (hR C hL) hx.symm
   ·rw[hd,cond_false]at hx
    simp only[yt (i:=i)]
    exact hb _ _ ⟨i+1,hc,hx⟩ [(1,1)] yK zk
  ·have hc:=zJ hi hc
   rw[hc,Ny]at hx
   exact vK (hR C hL) hx.symm
theorem Ub {H:Hp}(s:Sv)(l:List Ft)(hs:SlH H (vsl s l.length) 10 (l.map xD))(hl:l.length<=1000000000000000)(g:FuncId)(caps:Array Value)(p:Ft->Bool)(hp:∀x∈l,CallH H KI g ((ze (xD x))::caps.toList.map vU) (Bo (p x))):
  CallH H KI 67 [.c (.v (vsl s l.length)),Fv g caps] (Bo (l.any p)):=by
 refine kH func67 Xf ntmps67 fun C hR hP hH hL=>?_
 refine zB 100 (vv ?_)
 refine zO 110 (XP s l hs hl g caps p hp) hH rfl (vv ?_)
 exact zu (hR C hL) (yg p l 0 zA)
theorem XR {H:Hp}(s:Sv)(l:List CuL)(hs:SlH H (vsl s l.length) 2 (l.map o3))(hl:l.length<=1000000000000000)(g:FuncId)(caps:Array Value)(p:CuL->Bool)(hp:∀x∈l,CallH H KI g ((ze (o3 x))::caps.toList.map vU) (Bo (p x))):
  CallH H KI 63 [.c (.v (vsl s l.length)),Fv g caps] (I (xu p l 0)):=by
 have hlen:(l.map o3).length=l.length:=Ni _
 have hsz:=zS (r:=o3) (k:=2) (fun _=>rfl) l
 refine kH func63 RQ ntmps63 fun C hR hP hH hL=>?_
 refine zB 100 (vv ?_)
 refine Sm.bringR 1 78 0 (hs.mono hH) rfl rfl ?_
 simp only[hlen]
 refine zL (M0:=[]) (α:={i:Nat//i<=l.length/\xu p l 0=xu p (l.drop i) i}) hP (fun i=>[(0,true,.c (.sl 1 0 l.length 2)),(1,true,Fv g caps),(7,true,I l.length),(8,true,I i.val)]) (fun _=>[(1,⟨true,zC (l.map o3),78⟩)]) (fun i=>l.length-i.val) ⟨0,zA,rfl⟩ (fun _=>ClM.v (by simp only[Nj,zK];rfl)) (fun _=>zP rfl) [(1,1)] ?_ ?_
 ·exact zk
 ·rintro⟨i,hi,hx⟩ J hb
  simp only at hb hi hx⊢
  refine zB 110 (vv ?_)
  refine zY (fun hc=>?_) (fun hc=>?_)
  ·have hc:=zI hc
   rw[yW p l i hc]at hx
   have htk:=zX (r:=o3) (k:=2) (fun _=>rfl) l i hc
   simp only[htk,hsz]
   refine⟨⟨zA,zA⟩,zA,?_⟩
   refine zO 120 (hp l[i] (Nv hc)) hH (xM _ _) (vv ?_)
   refine zY (fun hd=>?_) (fun hd=>?_)
   ·rw[hd,cond_true]at hx
    exact vK (hR C hL) hx.symm
   ·rw[hd,cond_false]at hx
    simp only[yt (i:=i)]
    exact hb _ _ ⟨i+1,hc,hx⟩ [(1,1)] yK zk
  ·have hc:=zJ hi hc
   rw[hc,Ny]at hx
   exact vK (hR C hL) hx.symm
theorem aA {H:Hp}(s:Sv)(l:List CuL)(hs:SlH H (vsl s l.length) 2 (l.map o3))(hl:l.length<=1000000000000000)(g:FuncId)(caps:Array Value)(p:CuL->Bool)(hp:∀x∈l,CallH H KI g ((ze (o3 x))::caps.toList.map vU) (Bo (p x))):
  CallH H KI 21 [.c (.v (vsl s l.length)),Fv g caps] (Bo (l.any p)):=by
 refine kH func21 Rx ntmps21 fun C hR hP hH hL=>?_
 refine zB 100 (vv ?_)
 refine zO 110 (XR s l hs hl g caps p hp) hH rfl (vv ?_)
 exact zu (hR C hL) (yg p l 0 zA)
theorem XM {H:Hp}(s:Sv)(l:List MpL)(hs:SlH H (vsl s l.length) 3 (l.map oT))(hl:l.length<=1000000000000000)(g:FuncId)(caps:Array Value)(p:MpL->Bool)(hp:∀x∈l,CallH H KI g ((ze (oT x))::caps.toList.map vU) (Bo (p x))):
  CallH H KI 64 [.c (.v (vsl s l.length)),Fv g caps] (I (xu p l 0)):=by
 have hlen:(l.map oT).length=l.length:=Ni _
 have hsz:=zS (r:=oT) (k:=3) (fun _=>rfl) l
 refine kH func64 RP ntmps64 fun C hR hP hH hL=>?_
 refine zB 100 (vv ?_)
 refine Sm.bringR 1 82 0 (hs.mono hH) rfl rfl ?_
 simp only[hlen]
 refine zL (M0:=[]) (α:={i:Nat//i<=l.length/\xu p l 0=xu p (l.drop i) i}) hP (fun i=>[(0,true,.c (.sl 1 0 l.length 3)),(1,true,Fv g caps),(7,true,I l.length),(8,true,I i.val)]) (fun _=>[(1,⟨true,zC (l.map oT),82⟩)]) (fun i=>l.length-i.val) ⟨0,zA,rfl⟩ (fun _=>ClM.v (by simp only[Nj,zK];rfl)) (fun _=>zP rfl) [(1,1)] ?_ ?_
 ·exact zk
 ·rintro⟨i,hi,hx⟩ J hb
  simp only at hb hi hx⊢
  refine zB 110 (vv ?_)
  refine zY (fun hc=>?_) (fun hc=>?_)
  ·have hc:=zI hc
   rw[yW p l i hc]at hx
   have htk:=zX (r:=oT) (k:=3) (fun _=>rfl) l i hc
   simp only[htk,hsz]
   refine⟨⟨zA,zA⟩,zA,?_⟩
   refine zO 120 (hp l[i] (Nv hc)) hH (xM _ _) (vv ?_)
   refine zY (fun hd=>?_) (fun hd=>?_)
   ·rw[hd,cond_true]at hx
    exact vK (hR C hL) hx.symm
   ·rw[hd,cond_false]at hx
    simp only[yt (i:=i)]
    exact hb _ _ ⟨i+1,hc,hx⟩ [(1,1)] yK zk
  ·have hc:=zJ hi hc
   rw[hc,Ny]at hx
   exact vK (hR C hL) hx.symm
theorem bw {H:Hp}(s:Sv)(l:List MpL)(hs:SlH H (vsl s l.length) 3 (l.map oT))(hl:l.length<=1000000000000000)(g:FuncId)(caps:Array Value)(p:MpL->Bool)(hp:∀x∈l,CallH H KI g ((ze (oT x))::caps.toList.map vU) (Bo (p x))):
  CallH H KI 23 [.c (.v (vsl s l.length)),Fv g caps] (Bo (l.any p)):=by
 refine kH func23 Rv ntmps23 fun C hR hP hH hL=>?_
 refine zB 100 (vv ?_)
 refine zO 110 (XM s l hs hl g caps p hp) hH rfl (vv ?_)
 exact zu (hR C hL) (yg p l 0 zA)
theorem XO {H:Hp}(s:Sv)(l:List Ins)(hs:SlH H (vsl s l.length) 5 (l.map Ins.w))(hl:l.length<=1000000000000000)(g:FuncId)(caps:Array Value)(p:Ins->Bool)(hp:∀x∈l,CallH H KI g ((ze (Ins.w x))::caps.toList.map vU) (Bo (p x))):
  CallH H KI 159 [.c (.v (vsl s l.length)),Fv g caps] (I (xu p l 0)):=by
 have hlen:(l.map Ins.w).length=l.length:=Ni _
 have hsz:=zS (r:=Ins.w) (k:=5) (fun _=>rfl) l
 refine kH func159 Vb ntmps159 fun C hR hP hH hL=>?_
 refine zB 100 (vv ?_)
 refine Sm.bringR 1 42 0 (hs.mono hH) rfl rfl ?_
 simp only[hlen]
 refine zL (M0:=[]) (α:={i:Nat//i<=l.length/\xu p l 0=xu p (l.drop i) i}) hP (fun i=>[(0,true,.c (.sl 1 0 l.length 5)),(1,true,Fv g caps),(7,true,I l.length),(8,true,I i.val)]) (fun _=>[(1,⟨true,zC (l.map Ins.w),42⟩)]) (fun i=>l.length-i.val) ⟨0,zA,rfl⟩ (fun _=>ClM.v (by simp only[Nj,zK];rfl)) (fun _=>zP rfl) [(1,1)] ?_ ?_
 ·exact zk
 ·rintro⟨i,hi,hx⟩ J hb
  simp only at hb hi hx⊢
  refine zB 110 (vv ?_)
  refine zY (fun hc=>?_) (fun hc=>?_)
  ·have hc:=zI hc
   rw[yW p l i hc]at hx
   have htk:=zX (r:=Ins.w) (k:=5) (fun _=>rfl) l i hc
   simp only[htk,hsz]
   refine⟨⟨zA,zA⟩,zA,?_⟩
   refine zO 120 (hp l[i] (Nv hc)) hH (xM _ _) (vv ?_)
   refine zY (fun hd=>?_) (fun hd=>?_)
   ·rw[hd,cond_true]at hx
    exact vK (hR C hL) hx.symm
   ·rw[hd,cond_false]at hx
    simp only[yt (i:=i)]
    exact hb _ _ ⟨i+1,hc,hx⟩ [(1,1)] yK zk
  ·have hc:=zJ hi hc
   rw[hc,Ny]at hx
   exact vK (hR C hL) hx.symm
theorem Ua {H:Hp}(s:Sv)(l:List Ins)(hs:SlH H (vsl s l.length) 5 (l.map Ins.w))(hl:l.length<=1000000000000000)(g:FuncId)(caps:Array Value)(p:Ins->Bool)(hp:∀x∈l,CallH H KI g ((ze (Ins.w x))::caps.toList.map vU) (Bo (p x))):
  CallH H KI 74 [.c (.v (vsl s l.length)),Fv g caps] (Bo (l.any p)):=by
 refine kH func74 RG ntmps74 fun C hR hP hH hL=>?_
 refine zB 100 (vv ?_)
 refine zO 110 (XO s l hs hl g caps p hp) hH rfl (vv ?_)
 exact zu (hR C hL) (yg p l 0 zA)
def g7 (p:Pg):Bool:=decide (p.code.length<=4000)&&(decide (p.tys.length<=100)&&(decide (p.cus.length<=100)&&(decide (p.mas.length<=100)&&(decide (0<=p.sz)&&(decide (p.sz<=1000)&&decide (p.f8.length=p.f6.length))))))
def vT (p:Pg):Bool:=
 g7 p&&(p.tys.all fok&&(p.cus.all (fun c=>wU c.c.xs c.c.ys)&&(p.mas.all (fun m=>x8 m.xs m.ys (m.zs.map (·.2)))&&(p.code.all (oA p)&&
 ((tA p.sz p.f5&&(tA p.sz p.f7&&tA p.sz p.f6))&&(decide (p.f5++p.f6).Nodup&&p.f8.all (fun n=> !iX n)))))))
theorem mV (p:Pg)(h:vT p=true):(∀t∈p.tys,fok t=true)/\(∀i∈p.code,oA p i=true)/\p.tys.length<=100/\0<=p.sz/\p.sz<=1000:=by
 unfold vT g7 at h
 simp only[Ns,decide_eq_true_eq,Nr]at h
 exact⟨h.2.1,h.2.2.2.2.1,h.1.2.1,h.1.2.2.2.2.1,h.1.2.2.2.2.2.1⟩
theorem X4 (p:Pg)(i:Ins)(h:oA p i=true):(1<=i.op/\i.op<=22)/\(0<=i.a/\i.a<16)/\0<=i.b/\i.b<16/\0<=i.c/\i.c<16/\(i.op=2\/i.op=3->0<=i.k/\i.k<p.sz)/\(i.op=19->0<=i.k/\i.k<16)/\(i.op=22->0<=i.k/\i.k/32+1<p.sz):=by
 unfold oA at h
 simp only[LL,Ns]at h
 obtain⟨hf,hr⟩:=h
 have hb:(1<=i.op/\i.op<=22)/\(0<=i.a/\i.a<16)/\(0<=i.b/\i.b<16)/\(0<=i.c/\i.c<16):=by
  have h:=hf
  unfold rO gP at h
  simp only[MK,decide_eq_true_eq]at h
  grind
 have hk:∀n:Int,i.op=n->ei (ya n)=true->wQ n i.k=true:=fun n hn hs=>by
  have h:=hf
  unfold rO at h
  rw[hn,hs,cond_true]at h
  simp only[LL,Ns]at h
  exact h.2.2.2.2
 refine⟨hb.1,hb.2.1,hb.2.2.1.1,hb.2.2.1.2,hb.2.2.2.1,hb.2.2.2.2,fun ho=>?_,fun ho=>?_,fun ho=>?_⟩
 ·rcases ho with ho|ho
  ·have:=hk 2 ho rfl
   unfold fR at hr
   rw[ho]at hr
   simp[wQ,tI]at this hr
   exact⟨this.1,hr⟩
  ·have:=hk 3 ho rfl
   unfold fR at hr
   rw[ho]at hr
   simp[wQ,tI]at this hr
   exact⟨this.1,hr⟩
 ·have:=hk 19 ho rfl
  simp[wQ]at this
  exact this
 ·have:=hk 22 ho rfl
  unfold fR at hr
  rw[ho]at hr
  simp[wQ,tI]at this hr
  exact⟨this.1,hr⟩
def gB (l:List Bool)(n:Int):Bool:=l.getD n.toNat false
def sB (l:List Bool)(n:Int)(b:Bool):List Bool:=l.set n.toNat b
def uB (op:Int):Bool:= !(op==1||op==2||op==3)
def uC (op:Int):Bool:=(decide (5<=op)&&decide (op<=8))||(decide (11<=op)&&decide (op<=17))||op==19||op==21
def iI (i:Ins)(R C:List Bool):Bool:=
 bif i.op==3 then gB C i.k else bif i.op==22 then(bif gB R i.a then true else bif gB C (i.k/32)then true else gB C (i.k/32+1))else bif i.op==8 then true else gB R i.a
def eK (i:Ins)(R:List Bool):List Bool:=
 bif i.op==3 then sB R i.a true else
 (fun R3=>bif i.op==19 then sB R3 i.k true else R3) ((fun R2=>bif uC i.op then sB R2 i.c true else R2) ((fun R1=>bif uB i.op then sB R1 i.b true else R1) (sB R i.a false)))
def o6 (i:Ins)(C:List Bool):List Bool:=
 bif i.op==3 then sB C i.k false else bif i.op==2 then sB C i.k true else bif i.op==22 then sB (sB C (i.k/32) true) (i.k/32+1) true else C
def ps:List Ins->Nat->List Bool->List Bool×List Bool×List Int
 |[],_,C=>(List.replicate 16 false,C,[])
 |i::t,j,C=>
  (fun z=>bif iI i z.1 z.2.1 then(eK i z.1,o6 i z.2.1,(j:Int)::z.2.2)else z) (ps t (j+1) C)
theorem wO (l:List Bool)(n:Int)(b:Bool):(sB l n b).length=l.length:=MX ..
theorem cH (i:Ins)(R:List Bool):(eK i R).length=R.length:=by
 unfold eK
 cases i.op==3<;>cases i.op==19<;>cases uC i.op<;>cases uB i.op<;>simp[wO]
theorem cI (i:Ins)(C:List Bool):(o6 i C).length=C.length:=by
 unfold o6
 cases i.op==3<;>cases i.op==2<;>cases i.op==22<;>simp[wO]
theorem gW:∀(l:List Ins) (j:Nat) (C:List Bool),(ps l j C).1.length=16/\(ps l j C).2.1.length=C.length
 |[],_,_=>⟨by simp[ps],rfl⟩
 |i::t,j,C=>by
  have h:=gW t (j+1) C
  unfold ps
  dsimp only
  cases iI i (ps t (j+1) C).1 (ps t (j+1) C).2.1 with
  |true=>rw[cond_true];exact⟨(cH _ _).trans h.1,(cI _ _).trans h.2⟩
  |false=>exact h
theorem tL:∀(l:List Ins) (j:Nat) (C:List Bool),(ps l j C).2.2.length<=l.length/\∀n∈(ps l j C).2.2,(j:Int)<=n/\n<(j:Int)+l.length
 |[],_,_=>⟨MP _,fun n h=>by cases h⟩
 |i::t,j,C=>by
  have h:=tL t (j+1) C
  unfold ps
  have e:∀n∈(ps t (j+1) C).2.2,(j:Int)<=n/\n<(j:Int)+(i::t).length:=fun n hn=>by
   have:=h.2 n hn
   simp only[MG]
   omega
  dsimp only
  cases iI i (ps t (j+1) C).1 (ps t (j+1) C).2.1 with
  |true=>
   refine⟨by simp only[cond_true,MG];have:=h.1;omega,fun n hn=>?_⟩
   simp only[cond_true,MU]at hn
   rcases hn with rfl|hn
   ·simp only[MG];omega
   ·exact e n hn
  |false=>exact⟨by simp only[cond_false,MG];have:=h.1;omega,fun n hn=>e n hn⟩
def uF (code:List Ins)(C:List Bool)(k:Nat):List Bool×List Bool×List Int:=ps (code.drop k) k C
theorem kQ (code:List Ins)(C:List Bool):uF code C code.length=(List.replicate 16 false,C,[]):=by
 unfold uF;rw[Ny];rfl
theorem nP (code:List Ins)(C:List Bool)(k:Nat)(h:k<code.length):
  uF code C k=(fun z=>bif iI code[k] z.1 z.2.1 then(eK code[k] z.1,o6 code[k] z.2.1,(k:Int)::z.2.2)else z) (uF code C (k+1)):=by
 unfold uF
 rw[Np h]
 rfl
theorem rU (code:List Ins)(C:List Bool)(k:Nat):(uF code C k).1.length=16/\(uF code C k).2.1.length=C.length:=gW _ _ _
theorem kP (code:List Ins)(C:List Bool)(k:Nat):∀n∈(uF code C k).2.2,(0:Int)<=n/\n<code.length:=fun n hn=>by
 have h:=(tL (code.drop k) k C).2 n hn
 rw[Lv]at h
 by_cases hk:k<=code.length
 ·omega
 ·have:code.drop k=[]:=Lo zA
  unfold uF at hn
  rw[this]at hn
  cases hn
def mO (f5:List Int)(E X:List Bool)(c:Nat):Bool:=bif gB X c then(bif gB E c then false else !f5.contains (c:Int))else false
def uj (f5:List Int)(E X:List Bool):Nat->List Bool
 |0=>E
 |k+1=>bif mO f5 E X k then sB (uj f5 E X k) k true else uj f5 E X k
def lJ (f5:List Int)(E X:List Bool):Nat->Bool
 |0=>false
 |k+1=>bif mO f5 E X k then true else lJ f5 E X k
theorem vk (f5:List Int)(E X:List Bool):∀k,(uj f5 E X k).length=E.length
 |0=>rfl
 |k+1=>by
  unfold uj
  cases mO f5 E X k with
  |true=>rw[cond_true,wO];exact vk f5 E X k
  |false=>exact vk f5 E X k
theorem bO (l:List Bool)(n m:Int)(b:Bool)(hm:0<=m)(hn:0<=n)(h:m≠n):gB (sB l n b) m=gB l m:=by
 unfold gB sB
 rw[Nl,Nl,List.getElem?_set_ne zA]
theorem rZ (f5:List Int)(E X:List Bool)(m:Nat):∀k,k<=m->gB (uj f5 E X k) m=gB E m
 |0,_=>rfl
 |k+1,h=>by
  have ih:=rZ f5 E X m k zA
  unfold uj
  cases mO f5 E X k with
  |true=>rw[cond_true,bO _ _ _ _ zA zA zA];exact ih
  |false=>exact ih
def lQ (l:List Bool):Nat:=l.countP (fun b=> !b)
theorem jJ:∀(l:List Bool) (n:Nat),n<l.length->l.getD n false=false->lQ (l.set n true)<lQ l
 |[],n,h,_=>by cases h
 |b::t,0,_,h=>by
  simp at h
  subst h
  simp[lQ]
 |b::t,n+1,h,hb=>by
  have ih:=jJ t n (by simpa using h) (by simpa using hb)
  simp only[lQ,List.set_cons_succ,List.countP_cons]at ih⊢
  omega
theorem oD (f5:List Int)(E X:List Bool):∀k,k<=E.length->lQ (uj f5 E X k)<=lQ E/\(lJ f5 E X k=true->lQ (uj f5 E X k)<lQ E)
 |0,_=>⟨MP _,fun h=>by cases h⟩
 |k+1,h=>by
  have ih:=oD f5 E X k zA
  unfold uj lJ
  cases hg:mO f5 E X k with
  |true=>
   have hE:gB E k=false:=by
    unfold mO at hg
    cases hE:gB E k with
    |false=>rfl
    |true=>rw[hE]at hg;simp at hg
   have hs:lQ (sB (uj f5 E X k) k true)<lQ (uj f5 E X k):=jJ _ _ (by rw[vk];omega) (by
    have:=rZ f5 E X k k (MP _)
    rw[hE]at this
    exact this)
   rw[cond_true,cond_true]
   exact⟨zA,fun _=>zA⟩
  |false=>exact ih
def mR (code:List Ins)(f5:List Int):Nat->List Bool->List Int
 |0,_=>[]
 |n+1,E=>(fun z=>bif lJ f5 E z.2.1 E.length then mR code f5 n (uj f5 E z.2.1 E.length)else z.2.2) (uF code E 0)
def eH (E:List Bool)(f7:List Int):List Bool:=f7.foldl (fun l c=>sB l c true) E
def r9 (r:Int):List Bool:=(List.range 16).map fun k=>r.toNat.testBit k
theorem tr (r:Int):(r9 r).length=16:=by simp[r9]
theorem oG (r:Int){a:Int}(h0:0<=a)(h1:a<16):gB (r9 r) a=r.toNat.testBit a.toNat:=by
 unfold gB r9
 rw[Nl,MC,Mh zA]
 rfl
theorem fi {l:List Bool}(hl:l.length=16){r:Int}(h:∀k:Nat,k<16->l.getD k false=r.toNat.testBit k):r9 r=l:=by
 refine List.ext_getElem (by rw[tr,hl]) fun k h1 h2=>?_
 have:=h k zA
 rw[Nl,No h2]at this
 simp[r9]
 exact this.symm
theorem eX {n:Nat}(h:n<65536):IntKind.u16.wrap (n:Int)=n:=by
 show((n:Int)%65536)=n
 omega
theorem cn {a:Int}(h0:0<=a)(h1:a<16):IntKind.u16.wrap (1*2^min a.toNat 16)=((2^a.toNat:Nat):Int):=by
 rw[show min a.toNat 16=a.toNat by omega,Int.one_mul,show(2:Int)^a.toNat=((2^a.toNat:Nat):Int) by simp]
 exact eX (Nat.pow_lt_pow_right (a:=2) (n:=16) xW (show a.toNat<16 by omega))
theorem jo {r:Int}(h0:0<=r)(h1:r<65536):(BitVec.ofInt 16 r).toNat=r.toNat:=by rw[BitVec.toNat_ofInt];omega
theorem Uy {r:Int}(h0:0<=r)(h1:r<65536)(m:Nat)(hm:m<65536):bits .and .u16 r m=((r.toNat&&& m:Nat):Int):=by
 show IntKind.u16.wrap ((BitVec.ofInt 16 r&&& BitVec.ofInt 16 (m:Int)).toNat:Int)=_
 rw[eX (BitVec.isLt _),BitVec.toNat_and,jo h0 h1,jo zA zA,Int.toNat_natCast]
theorem SH {r:Int}(h0:0<=r)(h1:r<65536)(m:Nat)(hm:m<65536):bits .or .u16 r m=((r.toNat|||m:Nat):Int):=by
 show IntKind.u16.wrap ((BitVec.ofInt 16 r|||BitVec.ofInt 16 (m:Int)).toNat:Int)=_
 rw[eX (BitVec.isLt _),BitVec.toNat_or,jo h0 h1,jo zA zA,Int.toNat_natCast]
theorem YA {r:Int}(h0:0<=r)(h1:r<65536)(m:Nat)(hm:m<65536):bits .andNot .u16 r m=((r.toNat&&& (65535-m):Nat):Int):=by
 show IntKind.u16.wrap ((BitVec.ofInt 16 r&&& ~~~BitVec.ofInt 16 (m:Int)).toNat:Int)=_
 rw[eX (BitVec.isLt _),BitVec.toNat_and,BitVec.toNat_not,jo h0 h1,jo zA zA,Int.toNat_natCast]
theorem Uu {r a:Int}(h0:0<=r)(h1:r<65536)(ha:0<=a)(ha1:a<16):(bits .and .u16 (r.fdiv (2^min a.toNat 16)) 1==1)=gB (r9 r) a:=by
 rw[oG r ha ha1,Nat.testBit_eq_decide_div_mod_eq,show min a.toNat 16=a.toNat by omega,show r.fdiv (2^a.toNat)=((r.toNat/2^a.toNat:Nat):Int) by
  rw[LC _ (Int.le_of_lt (Int.pow_pos xW))]
  obtain⟨n,rfl⟩:=Int.eq_ofNat_of_zero_le h0
  simp]
 have hlt:r.toNat/2^a.toNat<65536:=Nat.lt_of_le_of_lt (Nat.div_le_self _ _) zA
 generalize r.toNat/2^a.toNat=q at*
 have:=Uy (r:=(q:Int)) zA zA 1 xW
 rw[show((1:Nat):Int)=1 from rfl]at this
 rw[this]
 simp only[Int.toNat_natCast,Nat.and_one_is_mod]
 rw[MD];simp only[beq_iff_eq,decide_eq_true_eq];omega
theorem Us {r a:Int}(h0:0<=r)(h1:r<65536)(ha:0<=a)(ha1:a<16):(0<=bits .or .u16 r (IntKind.u16.wrap (1*2^min a.toNat 16))/\bits .or .u16 r (IntKind.u16.wrap (1*2^min a.toNat 16))<65536)/\r9 (bits .or .u16 r (IntKind.u16.wrap (1*2^min a.toNat 16)))=sB (r9 r) a true:=by
 have hp:2^a.toNat<2^16:=Nat.pow_lt_pow_right xW (show a.toNat<16 by omega)
 rw[cn ha ha1,SH h0 h1 _ hp]
 have hb:r.toNat|||2^a.toNat<2^16:=Nat.or_lt_two_pow zA hp
 refine⟨zA,fi (by rw[wO,tr]) fun k hk=>?_⟩
 have hg:=oG r (a:=(k:Int)) zA zA
 unfold gB at hg
 rw[Int.toNat_natCast]at hg⊢
 unfold sB
 rw[Nat.testBit_or,Nat.testBit_two_pow,Nl,LI]
 by_cases he:a.toNat=k
 ·rw[if_pos he,if_pos (by rw[tr];omega)]
  simp[he]
 ·rw[if_neg he,<-Nl,hg]
  simp[he]
theorem Ut {r a:Int}(h0:0<=r)(h1:r<65536)(ha:0<=a)(ha1:a<16):(0<=bits .andNot .u16 r (IntKind.u16.wrap (1*2^min a.toNat 16))/\bits .andNot .u16 r (IntKind.u16.wrap (1*2^min a.toNat 16))<65536)/\r9 (bits .andNot .u16 r (IntKind.u16.wrap (1*2^min a.toNat 16)))=sB (r9 r) a false:=by
 have hp:2^a.toNat<2^16:=Nat.pow_lt_pow_right xW (show a.toNat<16 by omega)
 rw[cn ha ha1,YA h0 h1 _ hp]
 have hb:r.toNat&&& (65535-2^a.toNat)<2^16:=Nat.lt_of_le_of_lt Nat.and_le_left zA
 refine⟨zA,fi (by rw[wO,tr]) fun k hk=>?_⟩
 have hg:=oG r (a:=(k:Int)) zA zA
 unfold gB at hg
 rw[Int.toNat_natCast]at hg⊢
 unfold sB
 rw[Nat.testBit_and,show 65535-2^a.toNat=2^16-(2^a.toNat+1) by omega,Nat.testBit_two_pow_sub_succ hp,Nat.testBit_two_pow,Nl,LI]
 by_cases he:a.toNat=k
 ·rw[if_pos he,if_pos (by rw[tr];omega)]
  simp[he]
 ·rw[if_neg he,<-Nl,hg]
  simp[he,hk]
theorem Z2 {H:Hp}:CallH H KI 165 [.c (.v (.slice none 0 0)),I 0] (.c (.v (.slice none 0 0))):=by
 refine kH func165 bo ntmps165 fun C hR hP hH hL=>?_
 refine zB 100 (vv ?_)
 refine vt rfl rfl ⟨[],_,fun _=>Stp.capNil rfl uv rfl,.inl rfl,zB 110 ?_⟩
 refine vv ?_
 exact RetQ.pure (hR C hL) rfl y6 rfl (zH rfl)
theorem fg {H:Hp}(v s1 s2:Sv)(hz:SlH H (vsl v 2) 1 [[vsl s1 0],[vsl s2 0]])(h1:SlH H (vsl s1 0) 1 (zT []))(h2:SlH H (vsl s2 0) 1 (zT [])):
  CallX H KI 79 [.c (.v (vsl v 2))] [] (fun _:Unit=> .c (.sl 1 0 0 1)) (fun _=>[(1,⟨false,[],3⟩)]) (fun _ _=>True):=by
 refine kX func79 Zh ntmps79 fun C hR hP hH hL=>?_
 refine zB 100 (vv ?_)
 refine Sm.bringR 1 26 9 (rows:=[[vsl s1 0],[vsl s2 0]]) (by have:=hz.mono hH;exact this) rfl rfl ?_
 have g0:(zC [[vsl s1 0],[vsl s2 0]])[0]?=some (.v (vsl s1 0)):=rfl
 have g1:(zC [[vsl s1 0],[vsl s2 0]])[1]?=some (.v (vsl s2 0)):=rfl
 generalize zC [[vsl s1 0],[vsl s2 0]]=K at*
 refine zi 3 (zB 110 ?_)
 simp only[go_sem,g0,g1]
 refine zO 120 Z2 hH rfl (vv ?_)
 refine Sm.bringR 8 26 25 (rows:=[[vsl s1 0],[vsl s2 0]]) (by have:=hz.mono hH;exact this) rfl rfl ?_
 have g0:(zC [[vsl s1 0],[vsl s2 0]])[0]?=some (.v (vsl s1 0)):=rfl
 have g1:(zC [[vsl s1 0],[vsl s2 0]])[1]?=some (.v (vsl s2 0)):=rfl
 generalize zC [[vsl s1 0],[vsl s2 0]]=K1 at*
 refine zi 3 (yR 19 _ _ _ 150 ?_)
 simp only[go_sem,g0,g1]
 refine Sm.bringI (l:=[]) 140 3 32 (h1.mono hH) rfl rfl (yR 27 _ _ _ 150 ?_)
 simp only[go_sem,g0,g1,Nm,List.take_nil,List.all_nil]
 refine Sm.bringI (l:=[]) 141 3 32 (h2.mono hH) rfl rfl (zB 160 ?_)
 simp only[go_sem,g0,g1,Nm,List.take_nil,List.all_nil]
 exact RetQ.ren [(1,160)] (hR () C hL trivial) hP rfl y6 rfl rfl trivial ⟨oR,trivial⟩ (zD rfl) (zH rfl)
theorem ff {H:Hp}(v s1 s2:Sv)(l1 l2:List Int)(hz:SlH H (vsl v 2) 1 [[vsl s1 l1.length],[vsl s2 l2.length]])(h1:SlH H (vsl s1 l1.length) 1 (zT l1))(h2:SlH H (vsl s2 l2.length) 1 (zT l2))(hn:l1.length+l2.length<=1000000):
  CallX H KI 79 [.c (.v (vsl v 2))] [] (fun _:Unit=> .c (.sl 1 0 (l1++l2).length 1)) (fun _=>[(1,⟨false,(l1++l2).map iC,3⟩)]) (fun _ _=>True):=by
 by_cases h0:0<(l1++l2).length
 ·have h:=jI (H:=H) v [(s1,l1),(s2,l2)] hz (by
   intro z hz
   simp only[MU,LQ,or_false]at hz
   rcases hz with rfl|rfl
   ·exact h1
   ·exact h2) (by simpa using h0) (by simpa using hn) zd
  simpa only[Nk,Nm,List.flatten_cons,List.flatten_nil,Nx,MG,MW]using h
 ·obtain⟨rfl,rfl⟩:l1=[]/\l2=[]:=by
   rw[MB]at h0
   exact⟨MN.1 zA,MN.1 zA⟩
  exact fg v s1 s2 hz h1 h2
theorem bH {L:List Int}(h:∀n∈L,0<=n){i:Nat}(hi:i<L.length):((L.take i).map Int.toNat).contains (L[i]).toNat=decide (L[i]∈L.take i):=by
 rw[MD,LK,decide_eq_true_eq,Nz]
 constructor
 ·rintro⟨a,ha,he⟩
  have h1:=h a (List.mem_of_mem_take ha)
  have h2:=h L[i] (Nv _)
  rw[show L[i]=a by omega]
  exact ha
 ·exact fun hm=>⟨_,hm,rfl⟩
theorem bF {L:List Int}{i:Nat}(hi:i<L.length)(h:L[i]∈L.take i):¬L.Nodup:=fun hn=>by
 rw[<-Ld i L,List.nodup_append]at hn
 exact hn.2.2 _ h L[i] (by rw[Np hi];exact Ln ..) rfl
theorem k9 {L:List Int}{i:Nat}(hi:i<L.length)(hn:(L.take i).Nodup)(h:¬L[i]∈L.take i):(L.take (i+1)).Nodup:=by
 rw[MF hi,List.nodup_append]
 exact⟨hn,zd,fun a ha b hb hab=>by rw[LG]at hb;rw[hab,hb]at ha;exact h ha⟩
theorem vB {sz:Int}{l:List Int}(h:tA sz l=true):l.length<=1000/\∀n∈l,0<=n/\n<sz:=by
 unfold tA at h
 simp only[Bool.cond_false_left,Ns,M7,decide_eq_false_iff_not]at h
 refine⟨zA,fun n hn=>?_⟩
 have:=Nr.1 h.2 n hn
 unfold lR at this
 simp only[Bool.cond_false_left,Ns,M7,decide_eq_false_iff_not]at this
 omega
theorem nE {α:Type}{r:α->List Value}{k:Nat}(hk:∀x,(r x).length=k)(l:List α)(i j:Nat)(h:i<l.length)(hj:j<k):(zC (l.map r))[i*k+j]?=((r l[i])[j]?).map Cv.v:=by
 have h1:=zX hk l i h
 have:(zC (l.map r))[i*k+j]?=(((zC (l.map r)).drop (i*k)).take k)[j]?:=by rw[List.getElem?_take_of_lt hj,List.getElem?_drop]
 rw[this,h1,MC]
@[reducible,go_sem] def Nc (d:DgL):List Cv:=[.v (sv d.nm),.v (vsl d.ty d.tys.length),.v (vsl d.cu d.cus.length),.v (vsl d.ma d.mas.length),.sl 4 0 d.ins.length 4,.sl 5 0 d.bls.length 6,.v (vsl d.ou d.ous.length)]
@[reducible,go_sem] def Nd (d:DgL):Mem:=[(4,⟨true,zC (d.ins.map Po.r),60⟩),(5,⟨true,zC (d.bls.map BlL.r),64⟩)]
theorem _root_.Go.Proofs.YtbnkiacicnnmkaaGreat.Vg.Stp.mkF {P:Program}{o:Oper}{e:Env}{M:Mem}{f:FuncId}{x:Operand}{v:Value}(ho:o.op= .makeFunc (.func f) #[] #[x])(hx:rd e x=some (true,.c (.v v))):Stp P o e M (Fv f #[v]) []:=
 Stp.pure fun β a hop w=>by
  have hex:=hop x (by simp[ho,Op.operands]) _ hx
  simp only[gv,V.g,Cv.g,cond_true]at hex
  unfold execOp
  simp[ho,hex,Instr.makeFunc,V.g,Cv.g]
end Go.Proofs.YtbnkiacicnnmkaaGreat.Fx
