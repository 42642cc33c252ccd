/-  -/
import Derived.Test.YtbnkiacicnnmkaaGreatHA
open Go.Proofs.Tryz
open Go.Proofs.Tryz renaming prog→HT
set_option linter.unusedSimpArgs false
set_option linter.unusedVariables false
set_option maxRecDepth 100000
set_option maxHeartbeats 4000000
namespace Go.Proofs.YtbnkiacicnnmkaaGreat.Fx
open Vg Tf
def Xs (b:Bool):Int:=bif b then 1 else 0
theorem UO (a:Ft)(x:Int)(b:Ft)(y:Int)(t:Ft):CallOk HT 174 [va a x,va b y,fx t] [] (.tup [.agg (co (oT 1 a x b y t) (oRs 1 a x b y t)),Wi (vA 1 a x b y t)]) []:=by
 refine kO 100 func174 SY ntmps174 (by simp[ClV,V.g,Cv.g,va,fx,ci]) fun C hR=>?_
 refine vv ?_
 refine CallQ.pure 106 (sH 1 a x b y t zA zA) rfl (vv ?_)
 exact RetQ.pure hR rfl (vv trivial) xz (zG rfl)
theorem UC (a:Ft)(x:Int)(b:Ft)(y:Int)(t:Ft):CallOk HT 175 [va a x,va b y,fx t] [] (.tup [.agg (co (oT 2 a x b y t) (oRs 2 a x b y t)),Wi (vA 2 a x b y t)]) []:=by
 refine kO 100 func175 SX ntmps175 (by simp[ClV,V.g,Cv.g,va,fx,ci]) fun C hR=>?_
 refine vv ?_
 refine CallQ.pure 106 (sH 2 a x b y t zA zA) rfl (vv ?_)
 exact RetQ.pure hR rfl (vv trivial) xz (zG rfl)
theorem UD (a:Ft)(x:Int)(b:Ft)(y:Int)(t:Ft):CallOk HT 176 [va a x,va b y,fx t] [] (.tup [.agg (co (oT 3 a x b y t) (oRs 3 a x b y t)),Wi (vA 3 a x b y t)]) []:=by
 refine kO 100 func176 SW ntmps176 (by simp[ClV,V.g,Cv.g,va,fx,ci]) fun C hR=>?_
 refine vv ?_
 refine CallQ.pure 106 (sH 3 a x b y t zA zA) rfl (vv ?_)
 exact RetQ.pure hR rfl (vv trivial) xz (zG rfl)
theorem UM (a:Ft)(x:Int)(b:Ft)(y:Int)(t:Ft):CallOk HT 177 [va a x,va b y,fx t] [] (.tup [.agg (co (oT 4 a x b y t) (oRs 4 a x b y t)),Wi (vA 4 a x b y t)]) []:=by
 refine kO 100 func177 SV ntmps177 (by simp[ClV,V.g,Cv.g,va,fx,ci]) fun C hR=>?_
 refine vv ?_
 refine CallQ.pure 106 (sH 4 a x b y t zA zA) rfl (vv ?_)
 exact RetQ.pure hR rfl (vv trivial) xz (zG rfl)
theorem dZ (x:Int):CallOk HT 231 [I x] [] (Bo (bif decide (-1099511627776<=x)then decide (x<=1099511627776)else false)) []:=by
 refine kN 100 func231 T4 ntmps231 fun C hR hP=>?_
 refine vv ?_
 exact zp hR rfl
def lH (y r x:Int)(k:Nat):Int×Int:=(y+(x-y+r)/2^k,(x-y+r)-(x-y+r)/2^k*2^k)
theorem Vf (y r x:Int)(k:Nat)(hk:k<=20)(hy:vZ y=true)(hr:0<=r)(hr2:r<2^k)(hx:vZ x=true):CallOk HT 170 [.agg [.v (.int .i64 y),.v (.int .i64 r)],I x,I k] [] (.tup [.agg [.v (.int .i64 (lH y r x k).1),.v (.int .i64 (lH y r x k).2)],Wi 0]) []:=by
 have hy1: -1099511627776<=y/\y<=1099511627776:=by simpa[vZ]using hy
 have hx1: -1099511627776<=x/\x<=1099511627776:=by simpa[vZ]using hx
 have ey:(bif decide (-1099511627776<=y)then decide (y<=1099511627776)else false)=true:=by rw[decide_eq_true hy1.1,decide_eq_true hy1.2];rfl
 have ex:(bif decide (-1099511627776<=x)then decide (x<=1099511627776)else false)=true:=by rw[decide_eq_true hx1.1,decide_eq_true hx1.2];rfl
 have k0:decide ((k:Int)<0)=false:=decide_eq_false zA
 have k1:decide (20<(k:Int))=false:=decide_eq_false zA
 have r0:decide (r<0)=false:=decide_eq_false zA
 refine kN 100 func170 YN ntmps170 fun C hR hP=>?_
 simp only[go_sem,k0,k1]
 refine Sm.dg 110 14 zi (vv ?_)
 refine DCallQ.pure 120 (dZ y) rfl ?_
 have hp:(1:Int)<=2^k/\(2:Int)^k<=1048576:=by
  have h1:(2:Nat)^k<=1048576:=IE (HD zA hk) yp
  have h2:1<=(2:Nat)^k:=Nat.one_le_two_pow
  have e2:((2^k:Nat):Int)=2^k:=Int.natCast_pow 2 k
  rw[<-e2]
  exact⟨Int.ofNat_le.2 h2,Int.ofNat_le.2 h1⟩
 have hm:min k 64=k:=zA
 have ew:IntKind.i64.wrap (1*2^k)=2^k:=by rw[Int.one_mul];exact y6 zA zA
 have r1:decide ((2:Int)^k<=r)=false:=decide_eq_false zA
 have hq:(x-y+r)/2^k*2^k<=x-y+r/\x-y+r<(x-y+r)/2^k*2^k+2^k:=by
  have h1:=HM (x-y+r) (show(2:Int)^k≠0 by omega)
  have h2:=Ir (x-y+r) (show(0:Int)<2^k by omega)
  have h3:=Int.ediv_mul_add_emod (x-y+r) (2^k)
  omega
 have hb: -4398046511104<=(x-y+r)/2^k/\(x-y+r)/2^k<=4398046511104:=by
  obtain⟨P,hP⟩:∃P:Int,P=2^k:=⟨_,rfl⟩
  obtain⟨v,hv⟩:∃v:Int,v=x-y+r:=⟨_,rfl⟩
  rw[<-hP,<-hv]at hq⊢
  rw[<-hP]at hp
  generalize v/P=q at*
  constructor
  ·rcases Ix q (-4398046511104)with h|h
   ·have h3:=Int.mul_le_mul_of_nonpos_left (show q+1<=0 by omega) hp.1
    rw[Int.add_mul,Int.one_mul,Int.mul_one]at h3
    omega
   ·exact h
  ·rcases Ix 4398046511104 q with h|h
   ·have h3:=IX hp.1 (show 0<=q by omega)
    omega
   ·exact h
 simp only[go_sem,ey,r0,Int.toNat_natCast,hm,ew,r1]
 refine⟨zA,?_⟩
 refine CallQ.pure 130 (dZ x) rfl ?_
 have w1:IntKind.i64.wrap (x-y)=x-y:=y6 zA zA
 have w2:IntKind.i64.wrap (x-y+r)=x-y+r:=y6 zA zA
 have w3:(x-y+r).fdiv (2^k)=(x-y+r)/2^k:=Js _ zA
 have w4:IntKind.i64.wrap ((x-y+r)/2^k)=(x-y+r)/2^k:=y6 zA zA
 have w5:IntKind.i64.wrap ((x-y+r)/2^k*2^k)=(x-y+r)/2^k*2^k:=y6 zA zA
 have w6:IntKind.i64.wrap ((x-y+r)-(x-y+r)/2^k*2^k)=(x-y+r)-(x-y+r)/2^k*2^k:=y6 zA zA
 have w7:IntKind.i64.wrap (y+(x-y+r)/2^k)=y+(x-y+r)/2^k:=y6 zA zA
 simp only[go_sem,ex,Int.toNat_natCast,hm,w1,w2,w3,w4]
 refine⟨zA,?_⟩
 refine Sm.dg 150 9 zi ?_
 simp only[go_sem,Int.toNat_natCast,hm,w5,w6,w7]
 exact⟨zA,yN hR ClM.nil⟩
attribute [go_sem] Sg.w
end Go.Proofs.YtbnkiacicnnmkaaGreat.Fx
namespace Go.Proofs.YtbnkiacicnnmkaaGreat.Fx
def aU (st:Str):List Str->List Str×List Str->Option (List Str×List Str)
 |[],q=>some q
 |x::r,q=>bif x==st then none else bif q.1.contains x then aU st r q else aU st r (x::q.1,q.2++[x])
def ZD (st s:Str):List Bl->List Str×List Str->Option (List Str×List Str)
 |[],q=>some q
 |b::r,q=>bif (bif !(b.nm==s)then true else b.kd==lV)then ZD st s r q else match aU st b.ins q with
  |none=>none
  |some q'=>ZD st s r q'
def QD (bs:List Bl)(st:Str):Nat->List Str×List Str->Bool
 |0,_=>false
 |f+1,q=>match q.2 with
  |[]=>false
  |s::nx=>match ZD st s bs (q.1,nx)with
   |none=>true
   |some q'=>QD bs st f q'
open Vg Tf
open Vg Tf
def kB (bs:List Bl)(st s:Str)(f:Nat)(r:List Bl)(q:List Str×List Str):Bool:=match ZD st s r q with
 |none=>true
 |some q'=>QD bs st f q'
def kI (bs:List Bl)(st s:Str)(f:Nat)(r:List Bl)(l:List Str)(q:List Str×List Str):Bool:=match aU st l q with
 |none=>true
 |some q'=>kB bs st s f r q'
open Vg Tf
open Vg Tf
@[go_sem ↓] theorem VO:rm 1 11=[(0,11)]:=rfl
@[go_sem ↓] theorem Q0:rm 1 4=[(0,4)]:=rfl
@[go_sem ↓] theorem QX:rm 3 6=[(0,6),(6,6),(12,6)]:=rfl
@[go_sem ↓] theorem QY:rm 1 6=[(0,6)]:=rfl
open Vg Tf
structure Dg.smP (d:Dg):Prop where
 nm:d.nm.length<=1000000000000000
 tys:d.tys.length<=1000000000000000/\∀t∈d.tys,t.nm.length<=1000000000000000
 cus:d.cus.length<=1000000000000000/\∀c∈d.cus,c.nm.length<=1000000000000000/\c.xs.length<=1000000000000000/\c.ys.length<=1000000000000000
 mas:d.mas.length<=1000000000000000/\∀m∈d.mas,m.nm.length<=1000000000000000/\∀v∈m.zs,v.length<=1000000000000000
 ins:d.ins.length<=1000000000000000/\∀p∈d.ins,p.nm.length<=1000000000000000/\p.ty.length<=1000000000000000
 bls:d.bls.length<=1000000000000000/\∀b∈d.bls,b.nm.length<=1000000000000000/\b.ty.length<=1000000000000000/\b.tb.length<=1000000000000000/\b.ins.length<=1000000000000000/\b.ks.length<=1000000000000000/\∀s∈b.ins,s.length<=1000000000000000
 ous:d.ous.length<=1000000000000000/\∀s∈d.ous,s.length<=1000000000000000
theorem Zb {d:DgL}(h:Dg.smP d.c):d.sm:=
 ⟨h.nm,h.tys,⟨by have:=h.cus.1;simpa[DgL.c]using this,fun c hc=>h.cus.2 c.c (JL.2 ⟨c,hc,rfl⟩)⟩,
  ⟨by have:=h.mas.1;simpa[DgL.c]using this,fun m hm=>by
   have:=h.mas.2 m.c (JL.2 ⟨m,hm,rfl⟩)
   exact⟨this.1,fun v hv=>this.2 v.2 (JL.2 ⟨v,hv,rfl⟩)⟩⟩,h.ins,
  ⟨by have:=h.bls.1;simpa[DgL.c]using this,fun b hb=>h.bls.2 b.c (JL.2 ⟨b,hb,rfl⟩)⟩,h.ous⟩
theorem CkL.ok.mono {H H':Hp}(h:H.le H'){c:CkL}(k:c.ok H):c.ok H':=⟨k.d.mono h,k.s.mono h,k.o.mono h⟩
def T0:Bl->List (Int×Int)->Int×Int:=fun _ _=>(0,0)
theorem Ym {H:Hp}{d:DgL}(h:d.c.bls.all (fun b=> !gZ b.kd)=true):cW H d T0:=fun H' cp bT bC bM bS _ _ b hb ht=>by
 have:=JD.1 h b.c (JL.2 ⟨b,hb,rfl⟩)
 rw[ht]at this;cases this
open Vg Tf
open Vg Tf
theorem YC {H:Hp}(a b:Sv)(l:List Int)(ha:SlH H (vsl a l.length) 1 (zP l))(hb:SlH H (vsl b l.length) 1 (zP l))(hl:l.length<=1000000000000000):CallH H HT 10 [.c (.v (vsl a l.length)),.c (.v (vsl b l.length))] (Bo true):=by
 refine kH func10 WG ntmps10 fun C hR hP hH hL=>?_
 refine Sm.bringI 1 3 0 (ha.mono hH) rfl rfl ?_
 refine Sm.bringI 2 3 1 (hb.mono hH) rfl rfl ?_
 refine zB 100 ?_
 simp only[go_sem,bne_self_eq_false]
 refine zK (M0:=[]) (α:={i:Nat//i<=l.length}) hP (fun i=>[(0,true,.c (.sl 1 0 l.length 1)),(1,true,.c (.sl 2 0 l.length 1)),(12,true,I l.length),(13,true,I i.val)])
  (fun _=>[(1,⟨true,l.map iC,3⟩),(2,⟨true,l.map iC,3⟩)]) (fun i=>l.length-i.val) ⟨0,zA⟩ (fun _=>zD (by simp only[Kw,z6 (zq _)];rfl)) (fun _=>zO rfl) [(1,1),(2,2)] ?_ ?_
 ·exact zh
 rintro⟨i,hi⟩ J hj
 simp only at hj hi⊢
 refine zB 110 (vv ?_)
 refine zV (fun hc=>?_) (fun hc=>?_)
 ·have hc:=zH hc
  have gi:=wC hc
  refine Sm.dg 110 8 zi ?_
  simp only[go_sem,gi,bne_self_eq_false,beq_self_eq_true,yu (i:=i)]
  exact⟨⟨zA,zA⟩,⟨zA,zA⟩,hj _ _ ⟨i+1,hc⟩ [(1,1),(2,2)] yL zh⟩
 ·exact zp (hR C hL) rfl
theorem YB {H:Hp}(a b:Sv)(l:List Sg)(ha:SlH H (vsl a l.length) 13 (l.map Sg.w))(hb:SlH H (vsl b l.length) 13 (l.map Sg.w))(hl:l.length<=1000000000000000):CallH H HT 213 [.c (.v (vsl a l.length)),.c (.v (vsl b l.length))] (Bo true):=by
 have hm:(l.map Sg.w).length=l.length:=Kv _
 have hz:=zQ (r:=Sg.w) (k:=13) (fun _=>rfl) l
 refine kH func213 Tn ntmps213 fun C hR hP hH hL=>?_
 refine Sm.bringR 1 131 0 (ha.mono hH) rfl rfl ?_
 refine Sm.bringR 2 131 1 (hb.mono hH) rfl rfl ?_
 rw[hm]
 refine zB 100 ?_
 simp only[go_sem,bne_self_eq_false]
 refine zK (M0:=[]) (α:={i:Nat//i<=l.length}) hP (fun i=>[(0,true,.c (.sl 1 0 l.length 13)),(1,true,.c (.sl 2 0 l.length 13)),(12,true,I l.length),(13,true,I i.val)])
  (fun _=>[(1,⟨true,zC (l.map Sg.w),131⟩),(2,⟨true,zC (l.map Sg.w),131⟩)]) (fun i=>l.length-i.val) ⟨0,zA⟩ (fun _=>cM) (fun _=>zO rfl) [(1,1),(2,2)] ?_ ?_
 ·exact zh
 rintro⟨i,hi⟩ J hj
 simp only at hj hi⊢
 refine zB 110 (vv ?_)
 refine zV (fun hc=>?_) (fun hc=>?_)
 ·have hc:=zH hc
  have gi:=zW (r:=Sg.w) (k:=13) (fun _=>rfl) l i hc
  generalize l[i]=g at*
  refine Sm.dg 110 8 zi ?_
  simp only[go_sem,gi,hz,bne_self_eq_false,beq_self_eq_true,yu (i:=i)]
  exact⟨⟨zA,zA⟩,zA,⟨zA,zA⟩,zA,hj _ _ ⟨i+1,hc⟩ [(1,1),(2,2)] yL zh⟩
 ·exact zp (hR C hL) rfl
theorem WB {H:Hp}(a b:Sv)(n m:Nat)(h:n≠m):CallH H HT 10 [.c (.v (vsl a n)),.c (.v (vsl b m))] (Bo false):=by
 have e:((n:Int)!=(m:Int))=true:=by simp;omega
 refine kH func10 WG ntmps10 fun C hR hP hH hL=>?_
 refine zB 100 ?_
 simp only[go_sem,e]
 exact zp (hR C hL) rfl
open Vg Tf
inductive VldC (x:CkR) (T:Bl->List (Int×Int)->Int×Int):Bool->Prop
 |bad (h:(xu x.d T).2.2≠0):VldC x T false
 |good (h:(xu x.d T).2.2=0) (h1:(xu x.d T).1.sg=x.sg) (h2:(xu x.d T).1.od=x.od):VldC x T true
 |len (h:(xu x.d T).2.2=0) (h1:(xu x.d T).1.sg=x.sg) (h2:(xu x.d T).1.od.length≠x.od.length):VldC x T false
theorem VV (l:List Nat):zP (l.map fun n:Nat=>(n:Int))=l.map fun n:Nat=>[iv n]:=by unfold zP;rw[Ja];rfl
theorem W3 {H:Hp}(x:CkL)(hx:x.ok H)(hs:x.d.sm)(hl1:x.sg.length<=1000000000000000)(hl2:x.od.length<=1000000000000000)(v:Bool)(hv:VldC x.c (m7 x.d.c) v):CallH H HT 133 [z3 x.r] (Bo v):=by
 have hcr:∀x:CkL,x.r.map Cv.v=[.v (sv x.d.nm),.v (vsl x.d.ty x.d.tys.length),.v (vsl x.d.cu x.d.cus.length),.v (vsl x.d.ma x.d.mas.length),.v (vsl x.d.i x.d.ins.length),.v (vsl x.d.bl x.d.bls.length),.v (vsl x.d.ou x.d.ous.length),.v (vsl x.s x.sg.length),.v (vsl x.o x.od.length)]:=fun _=>rfl
 have hcr2:∀x:CkL,z3 x.r= .agg [.v (sv x.d.nm),.v (vsl x.d.ty x.d.tys.length),.v (vsl x.d.cu x.d.cus.length),.v (vsl x.d.ma x.d.mas.length),.v (vsl x.d.i x.d.ins.length),.v (vsl x.d.bl x.d.bls.length),.v (vsl x.d.ou x.d.ous.length),.v (vsl x.s x.sg.length),.v (vsl x.o x.od.length)]:=fun _=>rfl
 have hchk:=fun{H':Hp} (o:x.d.ok H')=>cj x.d o hs (m7 x.d.c) (Yl x.d)
 have hcd:x.c.d=x.d.c:=rfl
 rw[hcr2]
 refine kH func133 Sx ntmps133 fun C hR hP hH hL=>?_
 refine zB 100 (vv ?_)
 refine CallQ.x 120 hL (hchk (hx.d.mono hH)) (Hp.le.refl _) (Sub.nil _) ClM.nil (fun _=>Fresh.nil _ _) rfl rfl rfl (fun y C1 H1 l1 k1 j1 p1=>?_)
 obtain⟨py,oy⟩:=p1
 have oy:=CkL.ok.mono j1 oy
 have ysg:y.sg=(xu x.d.c (m7 x.d.c)).1.sg:=congrArg CkR.sg py
 have yod:y.od=(xu x.d.c (m7 x.d.c)).1.od:=congrArg CkR.od py
 rw[hcr]
 have os:=(hx.s.mono hH).mono k1
 have oo:=(hx.o.mono hH).mono k1
 cases hv with
 |bad h=>
  have h2:((xu x.d.c (m7 x.d.c)).2.2==0)=false:=by simpa[hcd]using h
  simp only[go_sem,h2]
  refine zt (xs:=[]) (v:=Bo false) (H:=C1.hp) 130 (fun h=>by cases h) (Hp.le.refl _) (fun h=>by cases h) (vv ?_)
  refine zt (xs:=[]) (v:=Bo false) (H:=C1.hp) 130 (fun h=>by cases h) (Hp.le.refl _) (fun h=>by cases h) (vv ?_)
  exact zp (hR C1 l1) rfl
 |good h h1 h2=>
  rw[hcd]at h h1 h2
  rw[h1]at ysg
  rw[h2]at yod
  have e1:x.c.sg=x.sg:=rfl
  have e2:x.c.od=x.od:=rfl
  rw[e1]at ysg
  rw[e2]at yod
  have ys:=oy.s
  have yo:=oy.o
  rw[ysg]at ys
  rw[yod]at yo
  have q1:=YB y.s x.s x.sg ys os hl1
  rw[h,ysg,yod]
  refine vv ?_
  refine zt 130 (fun _=>q1) (Hp.le.refl _) (fun _=>rfl) (vv ?_)
  have q2:=YC y.o x.o (x.od.map fun n:Nat=>(n:Int)) (by rw[Kv,VV];exact yo) (by rw[Kv,VV];exact oo) (by rw[Kv];exact hl2)
  rw[Kv]at q2
  refine zt 140 (fun _=>q2) (Hp.le.refl _) (fun _=>rfl) (vv ?_)
  exact zp (hR C1 l1) rfl
 |len h h1 h2=>
  rw[hcd]at h h1 h2
  rw[h1]at ysg
  have e1:x.c.sg=x.sg:=rfl
  have e2:x.c.od=x.od:=rfl
  rw[e1]at ysg
  rw[e2,<-yod]at h2
  have ys:=oy.s
  rw[ysg]at ys
  have q1:=YB y.s x.s x.sg ys os hl1
  have q2:=WB (H:=C1.hp) y.o x.o y.od.length x.od.length h2
  rw[h,ysg]
  refine vv ?_
  refine zt 130 (fun _=>q1) (Hp.le.refl _) (fun _=>rfl) (vv ?_)
  refine zt 140 (fun _=>q2) (Hp.le.refl _) (fun _=>rfl) (vv ?_)
  exact zp (hR C1 l1) rfl
open Vg Tf
open Vg Tf
open Vg Tf
theorem cA {H:Hp}(c:CuL)(hc:c.ok H)(k:wN c.c.xs c.c.ys=true)(x:Int):CallH H HT 95 [.agg (gF c),I x] (I (vc c.c x)):=by
 have kk:=gS k
 have hv:=nu c.x c.y c.c.xs c.c.ys hc.x hc.y (by have:=kk.big;omega) (by have:=kk.big;have:=kk.len;omega)
 have hw:=kU c hc kk x
 rw[k]at hv
 refine kH func95 Px ntmps95 fun C hR hP hH hL=>?_
 refine zB 100 (vv ?_)
 refine zM 110 hv hH rfl (vv ?_)
 refine zM 120 hw hH rfl (vv ?_)
 exact ww (hR C hL) rfl
theorem bP {H:Hp}(m:MpL)(hm:m.ok H)(k:xM m.c.xs m.c.ys m.c.zs=true)(x y:Int):CallH H HT 96 [.agg (kJ m),I x,I y] (I (kQ m.c x y)):=by
 have kk:=gQ k
 have hv:=qM m hm (fun v hv=>by
  obtain⟨i,hi,rfl⟩:=List.getElem_of_mem hv
  have h1:=kk.zr i (by simpa[MpL.c]using hi)
  have h2:=kk.y3
  have h3:(m.c.zs.getD i [])=m.zs[i].2:=by
   show(m.zs.map (·.2)).getD i []=_
   rw[Kx,JO,JA hi];rfl
  rw[h3]at h1
  omega)
 have hw:=Qg m hm kk x y
 have k':xM m.xs m.ys (m.zs.map (·.2))=true:=k
 rw[k']at hv
 refine kH func96 Pw ntmps96 fun C hR hP hH hL=>?_
 refine zB 100 (vv ?_)
 refine zM 110 hv hH rfl (vv ?_)
 refine zM 120 hw hH rfl (vv ?_)
 exact ww (hR C hL) rfl
end Go.Proofs.YtbnkiacicnnmkaaGreat.Fx
