/-  -/
import Derived.Test.YtbnkiacicnnmkaaGreatHA
open Go.Proofs.Tryz
set_option linter.unusedSimpArgs false
set_option linter.unusedVariables false
set_option maxRecDepth 100000
set_option maxHeartbeats 4000000
namespace Go.Proofs.YtbnkiacicnnmkaaGreat.Fx
open Vg Tf
theorem Z5 (l:List (Sv×List Int))(i:Nat)(h:i<l.length):(zC (l.map zR))[i]?=some (.v (vsl l[i].1 l[i].2.length)):=by
 have f0:=mh (r:=zR) (k:=1) (fun _=>rfl) l i 0 h zA
 rw[Jr,Jx]at f0
 exact f0
theorem Pc {H:Hp}(s:Sv)(l:List (Sv×List Int))(hs:SlH H (vsl s l.length) 1 (l.map zR))(hl:l.length<=1000000000000000)(g:FuncId)(caps:Array Value)(p:Sv×List Int->Bool)(hp:∀x∈l,CallH H Tryz.prog g ((.c (.v (vsl x.1 x.2.length)))::caps.toList.map v9) (Bo (p x))):
  CallH H Tryz.prog 65 [.c (.v (vsl s l.length)),Fv g caps] (I (xy p l 0)):=by
 have hlen:(l.map zR).length=l.length:=Kv _
 refine kH func65 OV ntmps65 fun C hR hP hH hL=>?_
 refine zB 100 (vv ?_)
 refine Sm.bringR 1 26 0 (hs.mono hH) rfl rfl ?_
 simp only[hlen]
 refine zK (M0:=[]) (α:={i:Nat//i<=l.length/\xy p l 0=xy p (l.drop i) i}) hP (fun i=>[(0,true,.c (.sl 1 0 l.length 1)),(1,true,Fv g caps),(7,true,I l.length),(8,true,I i.val)]) (fun _=>[(1,⟨true,zC (l.map zR),26⟩)]) (fun i=>l.length-i.val) ⟨0,zA,rfl⟩ (fun _=>ClM.v (by simp only[Kw,zJ];rfl)) (fun _=>zO rfl) [(1,1)] ?_ ?_
 ·exact zh
 ·rintro⟨i,hi,hx⟩ J hb
  simp only at hb hi hx⊢
  refine zB 110 (vv ?_)
  refine zV (fun hc=>?_) (fun hc=>?_)
  ·have hc:=zH hc
   rw[yU p l i hc]at hx
   simp only[go_sem,Z5 l i hc]
   refine⟨⟨zA,zA⟩,?_⟩
   refine zM 120 (hp l[i] (JH hc)) hH (xR _ _) (vv ?_)
   refine zV (fun hd=>?_) (fun hd=>?_)
   ·rw[hd,cond_true]at hx
    exact ww (hR C hL) hx.symm
   ·rw[hd,cond_false]at hx
    simp only[yu (i:=i)]
    exact hb _ _ ⟨i+1,hc,hx⟩ [(1,1)] yL zh
  ·have hc:=zI hi hc
   rw[hc,JI]at hx
   exact ww (hR C hL) hx.symm
theorem NI {H:Hp}(s:Sv)(l:List (Sv×List Int))(hs:SlH H (vsl s l.length) 1 (l.map zR))(hl:l.length<=1000000000000000)(g:FuncId)(caps:Array Value)(p:Sv×List Int->Bool)(hp:∀x∈l,CallH H Tryz.prog g ((.c (.v (vsl x.1 x.2.length)))::caps.toList.map v9) (Bo (p x))):
  CallH H Tryz.prog 25 [.c (.v (vsl s l.length)),Fv g caps] (Bo (l.any p)):=by
 refine kH func25 Ot ntmps25 fun C hR hP hH hL=>?_
 refine zB 100 (vv ?_)
 refine zM 110 (Pc s l hs hl g caps p hp) hH rfl (vv ?_)
 exact zp (hR C hL) (yj p l 0 zA)
def Y8 (n:Nat):Bool:=decide (40<(n:Int))
def Zd (m:MpL):Bool:=bif (bif (bif Y8 m.xs.length then true else Y8 m.ys.length)then true else Y8 m.zs.length)then true else m.zs.any (fun v=>Y8 v.2.length)
theorem PA {H:Hp}(m:MpL)(hm:m.ok H):CallH H Tryz.prog 24 [z3 (pK m)] (Bo (Zd m)):=by
 rw[show z3 (pK m)= .agg [.v (vsl m.x m.xs.length),.v (vsl m.y m.ys.length),.v (vsl m.z m.zs.length)] from rfl]
 have hzc:=fun(h:m.zs.length<=40)=>NI m.z m.zs hm.z zA 26 #[] (fun v=>Y8 v.2.length) (fun v _=>(Qz v).toX)
 obtain⟨R,hRd⟩:∃R,R=Zd m:=⟨_,rfl⟩
 rw[<-hRd]
 unfold Zd at hRd
 refine kH func24 Ou ntmps24 fun C hR hP hH hL=>?_
 have hR:=hR C hL
 refine zB 100 (vv ?_)
 unfold Y8 at hRd hzc
 generalize hg:(bif (bif decide (40<(m.xs.length:Int))then true else decide (40<(m.ys.length:Int)))then true else decide (40<(m.zs.length:Int)))=g at*
 have hl:g=false->m.zs.length<=40:=fun h=>by
  rw[h]at hg
  simp only[Jv,IZ,decide_eq_false_iff_not]at hg
  omega
 refine zt 120 (xs:=[.c (.v (vsl m.z m.zs.length)),Fv 26 #[]]) (fun h=>hzc (hl (by simpa using h))) hH (fun h=>by rw[h];rfl) (vv ?_)
 exact RetQ.bool hR rfl yI (by rw[hRd])
def Yq (p:Pg):Bool:=decide (p.code.length<=300)&&(decide (p.tys.length<=110)&&(decide (p.cus.length<=20)&&(decide (p.mas.length<=20)&&(decide (p.sz<=1010)&&(decide (p.f5.length<=60)&&(decide (p.f6.length<=60)&&(decide (p.f7.length<=60)&&decide (p.f8.length<=60))))))))
def Wt (c:CuL):Bool:=bif decide (40<(c.c.xs.length:Int))then true else decide (40<(c.c.ys.length:Int))
def Zc (p:Pg):Bool:=Yq p&&(!p.cus.any Wt&& !p.mas.any Zd)
theorem Yp {H:Hp}(p:Pg)(hp:p.ok H):CallH H Tryz.prog 6 [z3 p.r] (Bo (Zc p)):=by
 have hcu:=fun(h:p.cus.length<=20)=>YW p.u p.cus hp.u zA 22 #[] Wt (fun c _=>(PB c).toX)
 have hma:=fun(h:p.mas.length<=20)=>YV p.m p.mas hp.m zA 24 #[] Zd (fun m hm=>PA m (hp.ma m hm))
 rw[x6]
 refine kH func6 KG ntmps6 fun C hR hP hH hL=>?_
 have hR:=hR C hL
 refine zB 100 (vv ?_)
 refine zV (fun hc=>?_) (fun hc=>?_)
 ·have:Yq p=false:=by
   rw[IA];intro h
   unfold Yq at h
   simp only[JB,decide_eq_true_eq]at h
   simp only[Jv,I8,decide_eq_true_eq]at hc
   omega
  exact RetQ.bool hR rfl yI (by unfold Zc;rw[this,IB])
 have hS:Yq p=true:=by
  unfold Yq
  simp only[JB,decide_eq_true_eq]
  simp only[Jv,IZ,decide_eq_false_iff_not]at hc
  omega
 have hl:p.cus.length<=20/\p.mas.length<=20:=by
  have h:=hS
  unfold Yq at h
  simp only[JB,decide_eq_true_eq]at h
  omega
 have hQ:Zc p=(!p.cus.any Wt&& !p.mas.any Zd):=by unfold Zc;rw[hS,Jd]
 rw[hQ]at hR
 clear hc
 have hcu:=hcu hl.1
 have hma:=hma hl.2
 generalize p.cus.any Wt=A at*
 generalize p.mas.any Zd=B at*
 refine vv ?_
 refine zM 110 hcu hH rfl (vv ?_)
 refine zt 120 (xs:=[.c (.v (vsl p.m p.mas.length)),Fv 24 #[]]) (fun _=>hma) hH (fun h=>by rw[h];rfl) (vv ?_)
 exact RetQ.bool hR rfl yI (by cases A<;>rfl)
theorem Wr (p:Pg)(h:Zc p=true):(∀c∈p.cus,c.c.xs.length<=1000000000000000/\c.c.ys.length<=1000000000000000)/\(∀m∈p.mas,∀v∈m.zs,v.2.length<=1000000000000000):=by
 unfold Zc at h
 simp only[JB,Jh]at h
 refine⟨fun c hc=>?_,fun m hm v hv=>?_⟩
 ·have:=List.any_eq_false.1 h.2.1 c hc
  unfold Wt at this
  simp only[Jv,I8,decide_eq_true_eq]at this
  omega
 ·have:=List.any_eq_false.1 h.2.2 m hm
  unfold Zd Y8 at this
  simp only[Jv,I8,decide_eq_true_eq,HF]at this
  have h2:¬40<(v.2.length:Int):=fun hl=>this (.inr ⟨v,hv,hl⟩)
  omega
theorem YA (i:Ins)(h:ss i=true):(1<=i.op/\i.op<=22)/\(0<=i.a/\i.a<16)/\(0<=i.b/\i.b<16)/\(0<=i.c/\i.c<16):=by
 unfold ss eR at h
 simp only[JT,decide_eq_true_eq]at h
 grind
theorem gu:∀n:Fin 23,1<=n.val->(0<=Lib.indexByte (yb n.val) 65)/\(decide (0<=Lib.indexByte (yb n.val) 66)=fm (yb n.val) 66)/\(decide (0<=Lib.indexByte (yb n.val) 67)=fm (yb n.val) 67)/\fy (yb n.val)=fm (yb n.val) 75:=by decide+kernel
theorem UG (i:Ins)(h:1<=i.op/\i.op<=22)(ha:0<=i.a/\i.a<16)(hb:0<=i.b/\i.b<16)(hc:0<=i.c/\i.c<16):
  ss i=bif (bif (bif (bif !fm (yb i.op) 66 then i.b !=0 else false)then true else(bif !fm (yb i.op) 67 then i.c !=0 else false))then true else(bif !fm (yb i.op) 75 then i.k !=0 else false))then false else(bif fm (yb i.op) 75 then xp i.op i.k else true):=by
 have hf:=gu ⟨i.op.toNat,zA⟩ (by show 1<=i.op.toNat;omega)
 have ho:((i.op.toNat:Nat):Int)=i.op:=zA
 simp only[ho]at hf
 obtain⟨f1,f2,f3,f4⟩:=hf
 unfold ss eR
 rw[f4,<-f2,<-f3]
 rw[JP]
 simp only[JT,decide_eq_true_eq,bne_iff_ne,beq_iff_eq,Jh,decide_eq_false_iff_not]
 grind
theorem Z6 {A U:Bool}:(A=false->A=false/\(U=false->(!A&& !U)=true)):=fun h=>⟨h,fun h2=>by rw[h,h2];rfl⟩
theorem eU (i:Ins)(hi: -9223372036854775808<=i.k/\i.k<=9223372036854775807):CallOk Tryz.prog 37 [z3 i.w] [] (Bo (ss i)) []:=by
 rw[yx]
 have hfl:=lP i.op
 refine kN 100 func37 Oe ntmps37 fun C hR hP=>?_
 refine vv ?_
 refine zV (fun hc=>?_) (fun hc=>?_)
 ·have:ss i=false:=by
   rw[IA];intro h
   have:=YA i h
   simp only[Jv,I8,decide_eq_true_eq]at hc
   omega
  rw[this]at hR
  exact zp hR rfl
 have hB:(1<=i.op/\i.op<=22)/\(0<=i.a/\i.a<16)/\(0<=i.b/\i.b<16)/\(0<=i.c/\i.c<16):=by
  simp only[Jv,IZ,decide_eq_false_iff_not]at hc
  omega
 clear hc
 rw[UG i hB.1 hB.2.1 hB.2.2.1 hB.2.2.2]at hR
 refine CallQ.pure 110 (eW i.op) rfl (vv ?_)
 refine CallQ.pure 120 (fk (yb i.op) 66 zA) rfl (vv ?_)
 refine CallQ.guard 130 (fun _=>fk (yb i.op) 67 zA) (fun h=>by rw[h];rfl) (vv ?_)
 refine⟨Z6,?_⟩
 refine CallQ.guard 140 (fun _=>fk (yb i.op) 75 zA) (fun h=>by rw[h];rfl) (vv ?_)
 refine⟨Z6,?_⟩
 refine zV (fun hc=>?_) (fun hc=>?_)
 ·rw[hc,cond_true]at hR
  exact zp hR rfl
 rw[hc,cond_false]at hR
 have hmx:max i.k 0<=9223372036854775807:=zA
 refine CallQ.pure 150 (iJ (max i.k 0) zA zA) rfl ?_
 obtain⟨⟨o1,o2⟩,_⟩:=hB
 obtain⟨op,ia,ib,ic,ik⟩:=i
 simp only at*
 have hop:op=1\/op=2\/op=3\/op=4\/op=5\/op=6\/op=7\/op=8\/op=9\/op=10\/op=11\/op=12\/op=13\/op=14\/op=15\/op=16\/op=17\/op=18\/op=19\/op=20\/op=21\/op=22:=zA
 have hk:fm (yb op) 75=false->ik=0:=fun h=>by
  rw[h]at hc
  simp only[JT]at hc
  grind
 clear hc
 rcases hop with rfl|rfl|rfl|rfl|rfl|rfl|rfl|rfl|rfl|rfl|rfl|rfl|rfl|rfl|rfl|rfl|rfl|rfl|rfl|rfl|rfl|rfl
 all_goals simp only[go_sem]
 all_goals refine zp hR ?_
 all_goals clear hR
 all_goals simp[fm,yb,xp,wZ]at hk⊢
 all_goals first
  |(subst hk;decide)
  |(rw[JP]
    simp only[JB,decide_eq_true_eq,beq_iff_eq]
    by_cases h0:0<=ik
    ·have e1:max ik 0=ik:=zA
     have e2:ik.tmod 32=ik%32:=Il h0
     try simp only[e1,e2]
     omega
    ·constructor<;>(intro h;omega))
theorem UE (i:Ins)(h:ss i=true):(-1099511627776<=i.k/\i.k<=1099511627776)/\(i.op≠1->0<=i.k):=by
 obtain⟨op,a,b,c,k⟩:=i
 unfold ss at h
 simp only at h⊢
 cases hs:fy (yb op)with
 |false=>
  rw[hs,cond_false]at h
  simp only[Jf,JB,beq_iff_eq]at h
  have:=h.2.2.2.2
  omega
 |true=>
  rw[hs,cond_true]at h
  simp only[Jf,JB]at h
  have hc:=h.2.2.2.2
  unfold xp at hc
  simp only[JT,beq_iff_eq]at hc
  split at hc
  ·have:=of_decide_eq_true hc;omega
  ·split at hc
   ·have:=of_decide_eq_true hc;omega
   ·split at hc
    ·have:=of_decide_eq_true hc;omega
    ·split at hc
     ·have:=of_decide_eq_true hc;omega
     ·have:=of_decide_eq_true hc;omega
theorem bv {H:Hp}{p:Pg}(hp:p.ok H)(h:0<p.tys.length):∃b o,p.t.o=some ⟨b,o,none⟩/\∃cs el mk,H b (.cells cs el mk)/\∀q (hq:q<p.tys.length) j v,(xN p.tys[q])[j]?=some v->cs[o+q*10+j]?=some v:=by
 have hz:=zQ (r:=xN) (k:=10) (fun _=>rfl) p.tys
 unfold zC at hz
 rw[Kv]at hz
 obtain⟨b,o,c,h1,cs,el,mk,hb,hc⟩:=hp.t.at (by intro h0;rw[h0]at hz;simp at hz;omega)
 have hio:p.t.o=some ⟨b,o,none⟩:=by injection h1
 refine⟨b,o,hio,cs,el,mk,hb,fun q hq j v hj=>?_⟩
 have hj5:j<10:=(JW.1 hj).1
 have:=hc (q*10+j) v (by rw[rB (r:=xN) (k:=10) (fun _=>rfl) p.tys q j hq hj5];exact hj)
 rw[IC];exact this
theorem Wh (T:Ft)(j:Nat)(v:Value)(h:(xI (m6 T))[j]?=some v):(xN T)[5+j]?=some v:=by
 rw[<-h];rw[Nat.add_comm];rfl
theorem bo {H:Hp}(p:Pg)(hp:p.ok H)(hty:∀t∈p.tys,fok t=true)(hn:p.tys.length<=1000)(i:Ins)(hq:ss i=true):CallH H Tryz.prog 38 [z3 p.r,z3 i.w] (Bo (fA p i)):=by
 have hkb:=UE i hq
 have hkt:=ah i hq
 obtain⟨hop,_,_,_⟩:=YA i hq
 have hT:=iJ (max i.k 0) zA zA
 have hk1:i.op≠1->max i.k 0=i.k:=fun h=>by have:=hkb.2 h;omega
 rw[x6,yx]
 obtain⟨op,a,b,c,k⟩:=i
 simp only at*
 obtain⟨R,hRd⟩:∃R,R=fA p ⟨op,a,b,c,k⟩:=⟨_,rfl⟩
 rw[<-hRd]
 unfold fA at hRd
 simp only at hRd
 have e:∀n:Int,op≠n->(op==n)=false:=fun n h=>by simpa using h
 refine kH func38 Od ntmps38 fun C hR hP hH hL=>?_
 have hR:=hR C hL
 refine zB 100 (vv ?_)
 refine CallQ.pure 110 hT rfl (vv ?_)
 by_cases h23:op=2\/op=3\/op=20\/op=21
 ·rcases h23 with rfl|rfl|rfl|rfl
  all_goals
   refine vv ?_
   exact zN hR rfl yI (by rw[hRd];rfl) (Sub.nil _) ClM.nil (zG rfl)
 simp only[not_or]at h23
 obtain⟨h2,h3,h20,h21⟩:=h23
 by_cases h22:op=22
 ·subst h22
  have k0:=hkb.2 yp
  have w0:IntKind.i64.wrap (k.tdiv 32)=k/32:=by rw[IL k0];exact y6 zA zA
  have w1:IntKind.i64.wrap (k/32+1)=k/32+1:=y6 zA zA
  simp only[go_sem,w0,w1]
  exact zN hR rfl yI (by rw[hRd];rfl) (Sub.nil _) ClM.nil (zG rfl)
 rw[e _ h2,e _ h3,e _ h20,e _ h21,e _ h22]at hRd
 simp only[cond_false]at hRd
 by_cases ht:¬wZ op=true
 ·have ht:=IA.2 ht
  have hno:op≠5/\op≠6/\op≠7/\op≠8/\op≠9/\op≠10/\op≠13/\op≠14:=by
   refine⟨?_,?_,?_,?_,?_,?_,?_,?_⟩<;>(rintro rfl;exact absurd ht yp)
  obtain⟨n5,n6,n7,n8,n9,n10,n13,n14⟩:=hno
  simp only[go_sem,e _ h2,e _ h3,e _ h20,e _ h21,e _ h22,e _ n5,e _ n6,e _ n7,e _ n8,e _ n9,e _ n10,e _ n13,e _ n14]
  exact zN hR rfl yI (by rw[hRd,ht];rfl) (Sub.nil _) ClM.nil (zG rfl)
 have ht:=Jg.1 ht
 obtain⟨k0,k1⟩:=hkt ht
 have hmx:max k 0=k:=zA
 rw[ht,cond_true]at hRd
 rw[hmx]
 unfold Xx jr at hRd
 simp only at hRd
 have uz:wL vX.m vX.kg vX.s vX.a vX.k=true:=rfl
 have uT:∀j,wL (xS p j).m (xS p j).kg (xS p j).s (xS p j).a (xS p j).k=true:=fun j=>by
  unfold xS
  rw[Kx]
  cases hj:p.tys[j.toNat]? with
  |none=>exact uz
  |some t=>exact ry (hty t (In hj))
 have hat:=fun(h:0<p.tys.length)=>bv (hp.mono hH) h
 have ha0:0<=k/16384:=zA
 have hb0:0<=k/128%128:=zA
 have hc0:0<=k%128:=zA
 have hrd:∀j:Int,0<=j->j<p.tys.length->∀{ot:Nat} {cs:Array Value},(∀q (hq:q<p.tys.length) j v,(xN p.tys[q])[j]?=some v->cs[ot+q*10+j]?=some v)->∀m v,(xI (m6 (xS p j)))[m]?=some v->cs[ot+j.toNat*10+5+m]?=some v:=fun j h0 h1 ot cs hc m v hv=>by
  have hq:j.toNat<p.tys.length:=zA
  have:=hc j.toNat hq (5+m) v (Wh _ _ _ (by rw[<-hv];unfold xS;rw[Kx,JA hq];rfl))
  rw[IC];exact this
 have hun:=fun(h:op=7\/op=8\/op=5\/op=6)=>bX op (xS p (k/16384)) (xS p (k/128%128)) h (uT _) (uT _) (xS p (k%128))
 have tm:(op=7\/op=8\/op=5\/op=6)\/(op=9\/op=10)\/(op=13\/op=14):=by have:=vC op ht;omega
 rcases tm with h4|h2'|h2'
 ·obtain⟨u,z,hz1,hz2⟩:=hun h4
  have hG:R=bif (bif bif decide ((p.tys.length:Int)<=k/16384)then true else decide ((p.tys.length:Int)<=k/128%128)then true else decide ((p.tys.length:Int)<=k%128))then false else(bif z then uS u (xS p (k%128))else false):=by
   rw[hRd,hz1]
   rcases h4 with rfl|rfl|rfl|rfl<;>cases decide ((p.tys.length:Int)<=k/16384)<;>cases decide ((p.tys.length:Int)<=k/128%128)<;>cases decide ((p.tys.length:Int)<=k%128)<;>rfl
  have hw4:IntKind.i64.wrap (op-4)=op-4:=y6 zA zA
  clear hRd hz1 hun
  rcases h4 with rfl|rfl|rfl|rfl
  all_goals
   refine vv ?_
   refine zV (fun hc=>?_) (fun hc=>?_)
   ·rw[hc,cond_true]at hG
    exact zN hR rfl yI (by rw[hG];rfl) (Sub.nil _) ClM.nil (zG rfl)
   rw[hc,cond_false]at hG
   simp only[Jv,IZ,decide_eq_false_iff_not]at hc
   obtain⟨bt,ot,hto,cs,el,mk,hbt,hct⟩:=hat zA
   have hra:=hrd (k/16384) ha0 zA hct
   have hrb:=hrd (k/128%128) hb0 zA hct
   have hrc:=hrd (k%128) hc0 zA hct
   have uu:uS u (xS p (k%128))=(u.m==(xS p (k%128)).m&&(u.kg==(xS p (k%128)).kg&&(u.s==(xS p (k%128)).s&&(u.a==(xS p (k%128)).a&&u.k==(xS p (k%128)).k)))):=rfl
   refine zB 120 ?_
   simp only[go_sem,hto]
   refine Sm.dg 120 21 zi (vv ?_)
   refine DOpQ.own 130 (Stp.idxV rfl rfl rfl m9 zA zA) (vv ?_)
   refine DOpQ.own 130 (zT (k:=5) rfl rfl rfl) (vv ?_)
   refine zF 130 (fun _=>StpC.ldA (vs:=xI (m6 (xS p (k/16384)))) hbt (fun j v hv=>hra j v hv) rfl rfl rfl rfl (Jw _)) ?_
   simp only[go_sem,hto]
   refine DOpQ.own 130 (Stp.idxV rfl rfl rfl m9 zA zA) (vv ?_)
   refine DOpQ.own 130 (zT (k:=5) rfl rfl rfl) (vv ?_)
   refine zF 130 (fun _=>StpC.ldA (vs:=xI (m6 (xS p (k/128%128)))) hbt (fun j v hv=>hrb j v hv) rfl rfl rfl rfl (Jw _)) ?_
   simp only[go_sem,hw4]
   refine DCallQ.pure 140 hz2 rfl ?_
   clear hz2
   cases z with
   |false=>
    rw[cond_false]at hG
    simp only[go_sem,hto]
    refine Sm.dg 150 9 zi ?_
    simp only[go_sem,hto]
    refine zF (v:= .agg []) 160 (fun h=>by cases h) (vv ?_)
    refine zF (v:= .agg []) 160 (fun h=>by cases h) (vv ?_)
    refine zF (v:= .agg []) 160 (fun h=>by cases h) (vv ?_)
    refine z4 (v:= .agg []) 170 rfl rfl (.inr rfl) (fun h=>by cases h) (vv ?_)
    exact zN hR rfl yI (by rw[hG];rfl) (Sub.nil _) ClM.nil (zG rfl)
   |true=>
    rw[cond_true]at hG
    simp only[go_sem,hto]
    refine Sm.dg 150 9 zi ?_
    simp only[go_sem,hto]
    refine DOpQ.own 160 (Stp.idxV rfl rfl rfl m9 zA zA) (vv ?_)
    refine DOpQ.own 160 (zT (k:=5) rfl rfl rfl) (vv ?_)
    refine zF 160 (fun _=>StpC.ldA (vs:=xI (m6 (xS p (k%128)))) hbt (fun j v hv=>hrc j v hv) rfl rfl rfl rfl (Jw _)) ?_
    simp only[go_sem,hto,xI]
    exact zN hR rfl yI (by rw[hG];rfl) (Sub.nil _) ClM.nil (zG rfl)
 ·have hG:R=bif (bif decide (k/16384<(p.tys.length:Int))then decide (k%128<(p.tys.length:Int))else false)then uS (xS p (k/16384)) (xS p (k%128))else false:=by
   rw[hRd]
   have n1:decide ((p.tys.length:Int)<=k/16384)= !decide (k/16384<(p.tys.length:Int)):=by rw[JP];simp
   have n2:decide ((p.tys.length:Int)<=k%128)= !decide (k%128<(p.tys.length:Int)):=by rw[JP];simp
   rw[n1,n2]
   rcases h2' with rfl|rfl<;>cases decide (k/16384<(p.tys.length:Int))<;>cases decide (k%128<(p.tys.length:Int))<;>rfl
  clear hRd hun
  rcases h2' with rfl|rfl
  all_goals
   cases hg:(bif decide (k/16384<(p.tys.length:Int))then decide (k%128<(p.tys.length:Int))else false)with
   |false=>
    rw[hg,cond_false]at hG
    refine vv ?_
    refine Sm.dg 120 21 zi ?_
    simp only[go_sem,hg]
    refine zF (v:= .agg []) 160 (fun h=>by cases h) (vv ?_)
    refine zF (v:= .agg []) 160 (fun h=>by cases h) (vv ?_)
    refine zF (v:= .agg []) 160 (fun h=>by cases h) (vv ?_)
    refine zF (v:= .agg []) 160 (fun h=>by cases h) (vv ?_)
    refine zF (v:= .agg []) 160 (fun h=>by cases h) (vv ?_)
    refine zF (v:= .agg []) 160 (fun h=>by cases h) (vv ?_)
    exact zN hR rfl yI (by rw[hG];rfl) (Sub.nil _) ClM.nil (zG rfl)
   |true=>
    rw[hg,cond_true]at hG
    simp only[Jf,JB,decide_eq_true_eq]at hg
    obtain⟨bt,ot,hto,cs,el,mk,hbt,hct⟩:=hat zA
    have hra:=hrd (k/16384) ha0 zA hct
    have hrc:=hrd (k%128) hc0 zA hct
    have hg':(bif decide (k/16384<(p.tys.length:Int))then decide (k%128<(p.tys.length:Int))else false)=true:=by rw[decide_eq_true hg.1,decide_eq_true hg.2];rfl
    simp only[go_sem,hto]
    refine Sm.dg 120 21 zi ?_
    simp only[go_sem,hg',hto]
    refine DOpQ.own 160 (Stp.idxV rfl rfl rfl m9 zA zA) (vv ?_)
    refine DOpQ.own 160 (zT (k:=5) rfl rfl rfl) (vv ?_)
    refine zF 160 (fun _=>StpC.ldA (vs:=xI (m6 (xS p (k/16384)))) hbt (fun j v hv=>hra j v hv) rfl rfl rfl rfl (Jw _)) ?_
    simp only[go_sem,hto,xI]
    refine DOpQ.own 160 (Stp.idxV rfl rfl rfl m9 zA zA) (vv ?_)
    refine DOpQ.own 160 (zT (k:=5) rfl rfl rfl) (vv ?_)
    refine zF 160 (fun _=>StpC.ldA (vs:=xI (m6 (xS p (k%128)))) hbt (fun j v hv=>hrc j v hv) rfl rfl rfl rfl (Jw _)) ?_
    simp only[go_sem,hto,xI]
    exact zN hR rfl yI (by rw[hG];rfl) (Sub.nil _) ClM.nil (zG rfl)
 ·have hG:R=bif (bif decide (k/16384<(p.tys.length:Int))then decide (k/128%128<(p.tys.length:Int))else false)then uS (xS p (k/16384)) (xS p (k/128%128))else false:=by
   rw[hRd]
   have n1:decide ((p.tys.length:Int)<=k/16384)= !decide (k/16384<(p.tys.length:Int)):=by rw[JP];simp
   have n2:decide ((p.tys.length:Int)<=k/128%128)= !decide (k/128%128<(p.tys.length:Int)):=by rw[JP];simp
   rw[n1,n2]
   rcases h2' with rfl|rfl<;>cases decide (k/16384<(p.tys.length:Int))<;>cases decide (k/128%128<(p.tys.length:Int))<;>rfl
  clear hRd hun
  rcases h2' with rfl|rfl
  all_goals
   cases hg:(bif decide (k/16384<(p.tys.length:Int))then decide (k/128%128<(p.tys.length:Int))else false)with
   |false=>
    rw[hg,cond_false]at hG
    refine vv ?_
    refine Sm.dg 120 21 zi ?_
    simp only[go_sem,hg]
    refine zF (v:= .agg []) 160 (fun h=>by cases h) (vv ?_)
    refine zF (v:= .agg []) 160 (fun h=>by cases h) (vv ?_)
    refine zF (v:= .agg []) 160 (fun h=>by cases h) (vv ?_)
    refine zF (v:= .agg []) 160 (fun h=>by cases h) (vv ?_)
    refine zF (v:= .agg []) 160 (fun h=>by cases h) (vv ?_)
    refine zF (v:= .agg []) 160 (fun h=>by cases h) (vv ?_)
    exact zN hR rfl yI (by rw[hG];rfl) (Sub.nil _) ClM.nil (zG rfl)
   |true=>
    rw[hg,cond_true]at hG
    simp only[Jf,JB,decide_eq_true_eq]at hg
    obtain⟨bt,ot,hto,cs,el,mk,hbt,hct⟩:=hat zA
    have hra:=hrd (k/16384) ha0 zA hct
    have hrc:=hrd (k/128%128) hb0 zA hct
    have hg':(bif decide (k/16384<(p.tys.length:Int))then decide (k/128%128<(p.tys.length:Int))else false)=true:=by rw[decide_eq_true hg.1,decide_eq_true hg.2];rfl
    simp only[go_sem,hto]
    refine Sm.dg 120 21 zi ?_
    simp only[go_sem,hg',hto]
    refine DOpQ.own 160 (Stp.idxV rfl rfl rfl m9 zA zA) (vv ?_)
    refine DOpQ.own 160 (zT (k:=5) rfl rfl rfl) (vv ?_)
    refine zF 160 (fun _=>StpC.ldA (vs:=xI (m6 (xS p (k/16384)))) hbt (fun j v hv=>hra j v hv) rfl rfl rfl rfl (Jw _)) ?_
    simp only[go_sem,hto,xI]
    refine DOpQ.own 160 (Stp.idxV rfl rfl rfl m9 zA zA) (vv ?_)
    refine DOpQ.own 160 (zT (k:=5) rfl rfl rfl) (vv ?_)
    refine zF 160 (fun _=>StpC.ldA (vs:=xI (m6 (xS p (k/128%128)))) hbt (fun j v hv=>hrc j v hv) rfl rfl rfl rfl (Jw _)) ?_
    simp only[go_sem,hto,xI]
    exact zN hR rfl yI (by rw[hG];rfl) (Sub.nil _) ClM.nil (zG rfl)
end Go.Proofs.YtbnkiacicnnmkaaGreat.Fx
