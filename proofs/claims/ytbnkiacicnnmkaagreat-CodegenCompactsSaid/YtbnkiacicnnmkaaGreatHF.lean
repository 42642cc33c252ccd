/-  -/
import Derived.Test.YtbnkiacicnnmkaaGreatHD0
open Go.Proofs.Tryz
set_option linter.unusedSimpArgs false
set_option linter.unusedVariables false
set_option maxRecDepth 100000
set_option maxHeartbeats 4000000
namespace Go.Proofs.YtbnkiacicnnmkaaGreat.Fx
open Vg Tf
theorem XS {H:Hp}(p:Pg)(hp:p.ok H)(hE:PgE p)(i:Ins)(hf:ua p i=true)(R X:List Int)(hRl:R.length=16)(hX:(X.length:Int)=p.sz):
  CallX H Tryz.prog 46 [z3 p.r,.c (.p 1 0),z3 i.w] [mB R X.length false,mX X false] (fun _:Unit=>I (v3 p i R X).1) (fun _=>[mB (v3 p i R X).2.1 X.length false,mX (v3 p i R X).2.2 false]) (fun _ _=>True):=by
 obtain⟨ho,ha,hb0,hb1,hc0,hc1,h23,h19,h22⟩:=qA p i hf
 obtain⟨o,ho'⟩:∃o,o=i.op:=⟨_,rfl⟩
 have hga:=rI (c:= .sl 2 0 X.length 1) hRl ha.1 ha.2
 have hgb:=rI (c:= .sl 2 0 X.length 1) hRl hb0 hb1
 have hgc:=rI (c:= .sl 2 0 X.length 1) hRl hc0 hc1
 have h16:=lF (c:= .sl 2 0 X.length 1) hRl
 have hl17:(R.map iC++[Cv.sl 2 0 X.length 1]).length=17:=by rw[JM,Kv,hRl];rfl
 have hlX:(X.map iC).length=X.length:=Kv _
 have hMM:∀R' X',ClM ([mB R' X.length false,mX X' false]++[mB R X.length false,mX X false]):=fun R' X'=>zD (by simp only[JF,JG,Kw,IV,z6 (zq _)];rfl)
 have hXn:X.length<=1000:=by have:=hE.sz;omega
 cases ht:wZ i.op with
 |true=>
  have hm:=vC i.op ht
  have hz:jr p i=true:=Xw p i hf ht
  have hk:=ah i (dl p i hf) ht
  have hA:=aI p hp i ht hk.1 hk.2 hz (by have:=hE.tn;omega) (gI R i.b) (gI R i.c)
  have e:v3 p i R X=(fun z:Int×Int=>bif z.2==0 then(0,sI R i.a z.1,X)else(z.2,R,X)) (lG p i (gI R i.b) (gI R i.c)):=by
   obtain⟨op,a,b,c,k⟩:=i
   simp only at hm
   rcases hm with rfl|rfl|rfl|rfl|rfl|rfl|rfl|rfl<;>rfl
  rw[e]
  generalize lG p i (gI R i.b) (gI R i.c)=z at*
  obtain⟨op,a,b,c,k⟩:=i
  simp only at*
  rw[x6,yx]at hA⊢
  rcases hm with rfl|rfl|rfl|rfl|rfl|rfl|rfl|rfl
  all_goals
   refine kX func46 jZ ntmps46 fun C hR hP hH hL=>?_
   have hR:=hR () C hL trivial
   refine zB 100 (vv ?_)
   refine Sm.dg 110 23 zi ?_
   simp only[go_sem,hga,hgb,hgc,h16,hl17]
   refine⟨ha,⟨hb0,hb1⟩,⟨hc0,hc1⟩,?_⟩
   refine zM 120 hA hH rfl (vv ?_)
   refine zV (fun hzz=>?_) (fun hzz=>?_)
   ·rw[show(z.2==0)=false by simpa using hzz]at hR
    exact zN hR rfl yI rfl (xZ (SubS.sub ⟨oS,oS,trivial⟩)) (hMM _ _) (zG rfl)
   ·rw[show(z.2==0)=true by simpa using hzz]at hR
    refine Sm.dgW [1] 130 6 zi ?_
    simp only[go_sem,hga,hl17,xo hRl ha.2]
    exact⟨ha,zA,zN hR rfl yI rfl (xZ (SubS.sub ⟨oS,oS,trivial⟩)) (hMM _ _) (zG rfl)⟩
 |false=>
  obtain⟨op,a,b,c,k⟩:=i
  simp only at*
  by_cases h20:op=20
  ·subst h20;exact XV p hp hE a b c k hf R X hRl hX
  by_cases h21:op=21
  ·subst h21;exact XU p hp hE a b c k hf R X hRl hX
  by_cases h22':op=22
  ·subst h22';exact XT p hp hE a b c k hf R X hRl hX
  have hop:op=1\/op=2\/op=3\/op=4\/op=11\/op=12\/op=15\/op=16\/op=17\/op=18\/op=19:=by
   unfold wZ at ht
   simp only[JT]at ht
   grind
  rcases hop with rfl|rfl|rfl|rfl|rfl|rfl|rfl|rfl|rfl|rfl|rfl
  all_goals
   rw[x6,yx]
   refine kX func46 jZ ntmps46 fun C hR hP hH hL=>?_
   have hR:=hR () C hL trivial
   refine zB 100 (vv ?_)
   refine Sm.dg 110 23 zi ?_
   simp only[go_sem,hga,hgb,hgc,h16,hl17]
   refine⟨ha,⟨hb0,hb1⟩,⟨hc0,hc1⟩,?_⟩
  ·refine Sm.dgW [1] 130 6 zi ?_
   simp only[go_sem,hga,hl17,xo hRl ha.2]
   exact⟨ha,zA,zN hR rfl yI rfl (xZ (SubS.sub ⟨oS,oS,trivial⟩)) (hMM _ _) (zG rfl)⟩
  ·obtain⟨k0,k1⟩:=h23 (.inl rfl)
   have hgk:=pU (X:=X) (n:=k) k0 zA
   refine Sm.dg 120 6 zi ?_
   simp only[go_sem,h16,hgk,hlX]
   refine⟨⟨k0,zA⟩,?_⟩
   refine Sm.dgW [1] 130 6 zi ?_
   simp only[go_sem,hga,hl17,xo hRl ha.2]
   exact⟨ha,zA,zN hR rfl yI rfl (xZ (SubS.sub ⟨oS,oS,trivial⟩)) (hMM _ _) (zG rfl)⟩
  ·obtain⟨k0,k1⟩:=h23 (.inr rfl)
   refine Sm.dgW [2] 120 7 zi ?_
   simp only[go_sem,h16,hlX,t5]
   exact⟨⟨k0,zA⟩,zA,zN hR rfl yI rfl (Wp (SubS.sub ⟨oS,oS,trivial⟩)) (hMM _ _) (zG rfl)⟩
  ·refine Sm.dgW [1] 130 6 zi ?_
   simp only[go_sem,hga,hl17,xo hRl ha.2]
   exact⟨ha,zA,zN hR rfl yI rfl (xZ (SubS.sub ⟨oS,oS,trivial⟩)) (hMM _ _) (zG rfl)⟩
  ·refine Sm.dgW [1] 130 6 zi ?_
   simp only[go_sem,hga,hl17,xo hRl ha.2]
   exact⟨ha,zA,zN hR rfl yI rfl (xZ (SubS.sub ⟨oS,oS,trivial⟩)) (hMM _ _) (zG rfl)⟩
  ·refine Sm.dgW [1] 130 6 zi ?_
   simp only[go_sem,hga,hl17,xo hRl ha.2]
   exact⟨ha,zA,zN hR rfl yI rfl (xZ (SubS.sub ⟨oS,oS,trivial⟩)) (hMM _ _) (zG rfl)⟩
  ·refine CallQ.pure 120 (tE _) rfl (vv ?_)
   refine Sm.dgW [1] 130 6 zi ?_
   simp only[go_sem,hga,hl17,xo hRl ha.2]
   exact⟨ha,zA,zN hR rfl yI rfl (xZ (SubS.sub ⟨oS,oS,trivial⟩)) (hMM _ _) (zG rfl)⟩
  ·refine CallQ.pure 120 (tE _) rfl (vv ?_)
   refine Sm.dgW [1] 130 6 zi ?_
   simp only[go_sem,hga,hl17,xo hRl ha.2]
   exact⟨ha,zA,zN hR rfl yI rfl (xZ (SubS.sub ⟨oS,oS,trivial⟩)) (hMM _ _) (zG rfl)⟩
  ·refine CallQ.pure 120 (tE _) rfl (vv ?_)
   refine Sm.dgW [1] 130 6 zi ?_
   simp only[go_sem,hga,hl17,xo hRl ha.2]
   exact⟨ha,zA,zN hR rfl yI rfl (xZ (SubS.sub ⟨oS,oS,trivial⟩)) (hMM _ _) (zG rfl)⟩
  ·refine CallQ.pure 120 (tE _) rfl (vv ?_)
   refine Sm.dgW [1] 130 6 zi ?_
   simp only[go_sem,hga,hl17,xo hRl ha.2]
   exact⟨ha,zA,zN hR rfl yI rfl (xZ (SubS.sub ⟨oS,oS,trivial⟩)) (hMM _ _) (zG rfl)⟩
  ·obtain⟨k0,k1⟩:=h19 rfl
   have hgk:=rI (c:= .sl 2 0 X.length 1) hRl k0 k1
   refine Sm.dg 120 5 zi ?_
   simp only[go_sem,h16,hgk,hl17]
   refine⟨⟨k0,k1⟩,?_⟩
   have e:v3 p ⟨19,a,b,c,k⟩ R X=(0,sI R a (bif gI R k !=0 then gI R b else gI R c),X):=rfl
   rw[e]at hR
   refine zV (fun h=>?_) (fun h=>?_)
   all_goals
    rw[h]at hR
    refine Sm.dgW [1] 130 6 zi ?_
    simp only[go_sem,hga,hl17,xo hRl ha.2]
    exact⟨ha,zA,zN hR rfl yI rfl (xZ (SubS.sub ⟨oS,oS,trivial⟩)) (hMM _ _) (zG rfl)⟩
theorem pQ:∀(cs vs X:List Int) (i:Nat) (h:i<cs.length) (h':i<vs.length),pR (cs.take (i+1)) (vs.take (i+1)) X=sI (pR (cs.take i) (vs.take i) X) cs[i] vs[i]
 |c::cs,v::vs,X,0,_,_=>rfl
 |c::cs,v::vs,X,i+1,h,h'=>pQ cs vs (sI X c v) i (by simpa using h) (by simpa using h')
theorem Yz (N:Nat):wR N [Cv.v (.int .i64 0)]=(List.replicate N (0:Int)).map iC:=by
 induction N with
 |zero=>rfl
 |succ n ih=>rw[wR,ih,List.replicate_succ,Ky];rfl
@[reducible] def mz (c:Cv):List Cv:=[.v (.int .i64 0),.v (.int .i64 0),.v (.int .i64 0),.v (.int .i64 0),.v (.int .i64 0),.v (.int .i64 0),.v (.int .i64 0),.v (.int .i64 0),.v (.int .i64 0),.v (.int .i64 0),.v (.int .i64 0),.v (.int .i64 0),.v (.int .i64 0),.v (.int .i64 0),.v (.int .i64 0),.v (.int .i64 0),c]
def VW (p:Pg):List Int:=pR p.f6 p.f8 (List.replicate p.sz.toNat 0)
theorem V4 {H:Hp}(p:Pg)(hp:p.ok H)(hc1:∀c∈p.cus,c.c.xs.length<=1000000000000000/\c.c.ys.length<=1000000000000000)(hm1:∀m∈p.mas,∀v∈m.zs,v.2.length<=1000000000000000)(hv:wP p=true):
  CallX H Tryz.prog 16 [z3 p.r] [] (fun _:Unit=> .tup [W.agg (mz (.sl 1 0 p.sz.toNat 1)),Wi 0]) (fun _=>[(1,⟨false,(VW p).map iC,3⟩)]) (fun _ _=>True):=by
 have hval:=uK p hp hc1 hm1
 have hE:=ji hv
 rw[hv]at hval
 obtain⟨hl8,h6a,h6b⟩:p.f8.length=p.f6.length/\p.f6.length<=1000/\∀n∈p.f6,0<=n/\n<p.sz:=by
  unfold wP iV at hv
  simp only[JB,decide_eq_true_eq]at hv
  have h6:=xt hv.2.2.2.2.2.1.2.2
  exact⟨hv.1.2.2.2.2.2.2,h6⟩
 have hsz:=hE.sz
 rw[x6]at hval⊢
 refine kX func16 Sb ntmps16 fun C hR hP hH hL=>?_
 have hR:=hR () C hL trivial
 refine zB 100 (vv ?_)
 refine zM 110 hval hH rfl ?_
 simp only[go_sem,Yz]
 refine⟨zA,?_⟩
 have hlen8:(zP p.f8).length=p.f8.length:=Kv _
 refine Sm.bringI 200 3 16 (hp.i6.mono hH) rfl rfl ?_
 refine Sm.bringC 201 3 100 8 (hp.i8.mono hH) rfl rfl rfl ?_
 simp only[hlen8,wj]
 have hX0:List.replicate p.sz.toNat 0=pR (p.f6.take 0) (p.f8.take 0) (List.replicate p.sz.toNat 0):=rfl
 rw[hX0]
 refine zK (M0:=[]) (α:={i:Nat//i<=p.f6.length}) hP (fun i=>[(1,true,.c (.p 100 0)),(2,true,.c (.p 101 0)),(4,true,.c (.p 111 0)),(16,true,.c (.sl 200 0 p.f6.length 1)),(17,true,I p.f6.length),(18,true,I i.val)])
  (fun i=>[(200,⟨true,p.f6.map iC,3⟩),(201,⟨true,p.f8.map iC,3⟩),(100,⟨false,[.v (vsl p.c p.code.length),.v (vsl p.t p.tys.length),.v (vsl p.u p.cus.length),.v (vsl p.m p.mas.length),.v (iv p.sz),.v (vsl p.s5 p.f5.length),.v (vsl p.s6 p.f6.length),.v (vsl p.s7 p.f7.length),.sl 201 0 p.f8.length 1],28⟩),(111,⟨false,mz (.sl 110 0 p.sz.toNat 1),45⟩),(110,⟨false,(pR (p.f6.take i.val) (p.f8.take i.val) (List.replicate p.sz.toNat 0)).map iC,3⟩),(101,⟨false,mz (.v (.slice none 0 0)),45⟩)])
  (fun i=>p.f6.length-i.val) ⟨0,zA⟩ (fun _=>zD (by simp only[Kw,z6 (zq _)];rfl)) (fun _=>zO rfl) [(200,200),(201,201),(100,100),(111,111),(110,110),(101,101)] ?_ ?_
 ·exact zh
 rintro⟨i,hi⟩ J hj
 simp only at hj hi⊢
 refine zB 210 (vv ?_)
 refine zV (fun hc=>?_) (fun hc=>?_)
 ·have hc:=zH hc
  have hc8:i<p.f8.length:=zA
  have hn:=h6b _ (JH hc)
  have hlX:(pR (p.f6.take i) (p.f8.take i) (List.replicate p.sz.toNat 0)).length=p.sz.toNat:=by rw[tI,Ij]
  have hXs:=pQ p.f6 p.f8 (List.replicate p.sz.toNat 0) i hc hc8
  have hov6:(p.f6.map iC)[i]?=some (iC p.f6[i]):=by simp[hc]
  have hov8:(p.f8.map iC)[i]?=some (iC p.f8[i]):=by simp[hc8]
  have hl6:(p.f6.map iC).length=p.f6.length:=Kv _
  have hl8':(p.f8.map iC).length=p.f8.length:=Kv _
  have hwi:IntKind.i64.wrap ((i:Int)+1)=((i+1:Nat):Int):=wS zA
  generalize p.f6[i]=c0 at*
  generalize p.f8[i]=v0 at*
  simp only[go_sem,hov6,hl6,Int.toNat_natCast]
  refine⟨⟨zA,zA⟩,?_⟩
  refine Sm.dgW [110] 230 8 zi ?_
  have hlX2:((pR (p.f6.take i) (p.f8.take i) (List.replicate p.sz.toNat 0)).map iC).length=p.sz.toNat:=by rw[Kv];exact hlX
  simp only[go_sem,hov8,hl8',hlX2,Int.toNat_natCast,t5,hwi]
  rw[<-hXs]
  exact⟨⟨zA,zA⟩,⟨zA,zA⟩,zA,hj _ _ ⟨i+1,hc⟩ [(200,200),(201,201),(100,100),(111,111),(110,110),(101,101)] yL zh⟩
 ·have hc:=zI hi hc
  subst hc
  have hfin:pR (p.f6.take p.f6.length) (p.f8.take p.f6.length) (List.replicate p.sz.toNat 0)=VW p:=by
   rw[JY,<-hl8,JY];rfl
  rw[<-hfin]at hR
  exact RetQ.ren [(1,110)] hR hP rfl (vv trivial) f9 rfl trivial ⟨oV (yD (zq _)),trivial⟩ (zD (by simp only[JF,JG,Kw,z6 (zq _)];rfl)) (zG rfl)
theorem uo:∀(R:List Int),R.length=16->∃r0 r1 r2 r3 r4 r5 r6 r7 r8 r9 ra rb rc rd re rf,R=[r0,r1,r2,r3,r4,r5,r6,r7,r8,r9,ra,rb,rc,rd,re,rf]
 |[a,b,c,d,e,f,g,h,i,j,k,l,m,n,o,p],_=>⟨a,b,c,d,e,f,g,h,i,j,k,l,m,n,o,p,rfl⟩
theorem XQ {H:Hp}(p:Pg)(hp:p.ok H)(hc1:∀c∈p.cus,c.c.xs.length<=1000000000000000/\c.c.ys.length<=1000000000000000)(hm1:∀m∈p.mas,∀v∈m.zs,v.2.length<=1000000000000000)(hv:wP p=true)(R:List Int)(hRl:R.length=16)(s:Sv)(n:Nat)(hn:(n:Int)=p.sz):
  CallH H Tryz.prog 44 [z3 p.r,.agg (R.map iC++[.v (vsl s n)])] (Bo true):=by
 have hval:=uK p hp hc1 hm1
 rw[hv]at hval
 obtain⟨r0,r1,r2,r3,r4,r5,r6,r7,r8,r9,ra,rb,rc,rd,re,rf,rfl⟩:=uo R hRl
 rw[x6]at hval⊢
 simp only[Ky,Kz,JF,JG]
 refine kH func44 U3 ntmps44 fun C hR hP hH hL=>?_
 have hR:=hR C hL
 refine zB 100 (vv ?_)
 refine zM 110 hval hH rfl ?_
 simp only[go_sem,hn]
 exact zp hR rfl
theorem XW {H:Hp}(R X:List Int)(hRl:R.length=16)(s:Sv)(hs:SlH H (vsl s X.length) 1 (zP X))(hX:X.length<=1000):
  CallX H Tryz.prog 45 [.agg (R.map iC++[.v (vsl s X.length)])] [] (fun _:Unit=> .agg (R.map iC++[.sl 2 0 X.length 1])) (fun _=>[(2,⟨false,X.map iC,3⟩)]) (fun _ _=>True):=by
 have hlen:(zP X).length=X.length:=Kv _
 have hcl:=qB (vsl s X.length) (zP X) hs (fun r hr=>by obtain⟨x,_,rfl⟩:=JL.1 hr;rfl) (by rw[wj];exact JD.2 fun c hc=>by obtain⟨n,_,rfl⟩:=JL.1 hc;rfl) (by rw[hlen];omega)
 rw[wj,hlen]at hcl
 obtain⟨r0,r1,r2,r3,r4,r5,r6,r7,r8,r9,ra,rb,rc,rd,re,rf,rfl⟩:=uo R hRl
 simp only[Ky,Kz,JF,JG]
 refine kX func45 U2 ntmps45 fun C hR hP hH hL=>?_
 have hR:=hR () C hL trivial
 refine zB 100 (vv ?_)
 refine CallQ.hr [(2,120)] 130 hcl hH ClM.nil rfl rfl trivial rfl (.inl rfl) ?_
 simp only[Mem.ren,Ky,Kz,yD (zq _),V.ren,Cv.ren,rn,Nat.reduceBEq,cond_true,cond_false]
 refine vv ?_
 exact RetQ.ren [(2,120)] hR hP rfl (vv trivial) f9 rfl trivial ⟨oV (yD (zq _)),trivial⟩ (zD (by simp only[JF,JG,Kw,z6 (zq _)];rfl)) (zG rfl)
theorem nX (ρ:Nat->Nat)(l:List Int):(l.map iC).map (Cv.ren ρ)=l.map iC:=by rw[Ja];rfl
theorem dG {ρ:Nat->Nat}(h:ρ 120=120){R:List Int}{n:Nat}{f:Bool}{el:TypeId}:Bk.ren ρ ⟨f,R.map iC++[.sl 120 0 n 1],el⟩=⟨f,R.map iC++[.sl 120 0 n 1],el⟩:=by
 simp only[Bk.ren,JN,nX,Ky,Kz,Cv.ren,h]
theorem aL {ρ:Nat->Nat}{m:Nat}(h:ρ 2=m){b:Bk}{R:List Int}{n:Nat}{f:Bool}{el:TypeId}(hb:b=⟨f,R.map iC++[.sl m 0 n 1],el⟩):Bk.ren ρ ⟨f,R.map iC++[.sl 2 0 n 1],el⟩=b:=by
 simp only[hb,Bk.ren,JN,nX,Ky,Kz,Cv.ren,h]
def Zi (p:Pg)(X l:List Int):Int:=bif (l.length==p.f5.length)then(vf p X l).1 else 1
structure RnR where
 R:List Int
 X:List Int
 out:List Int
 s:Sv
 t:Sv
 e:Int
structure RnR.ok (p:Pg) (X l:List Int) (o:RnR) (H:Hp):Prop where
 r:o.R.length=16
 e:o.e=Zi p X l
 x:o.e=0->o.X=(vf p X l).2.2/\o.out=nZ p o.X
 n:o.e≠0->o.out=[]
 s:SlH H (vsl o.s o.X.length) 1 (zP o.X)
 t:SlH H (vsl o.t o.out.length) 1 (zP o.out)
theorem Zr {H:Hp}(p:Pg)(hp:p.ok H)(hc1:∀c∈p.cus,c.c.xs.length<=1000000000000000/\c.c.ys.length<=1000000000000000)(hm1:∀m∈p.mas,∀v∈m.zs,v.2.length<=1000000000000000)(hv:wP p=true)(R X:List Int)(hRl:R.length=16)(s:Sv)(hs:SlH H (vsl s X.length) 1 (zP X))(hX:(X.length:Int)=p.sz)(l:List Int)(t:Sv)(ht:SlH H (vsl t l.length) 1 (zP l)):
  CallX H Tryz.prog 18 [z3 p.r,.agg (R.map iC++[.v (vsl s X.length)]),.c (.v (vsl t l.length))] [] (fun o:RnR=> .tup [W.agg (o.R.map iC++[.v (vsl o.s o.X.length)]),.c (.v (vsl o.t o.out.length)),Wi o.e]) (fun _=>[]) (fun o H'=>o.ok p X l H'):=by
 have hE:=ji hv
 have hgd:=XQ p hp hc1 hm1 hv R hRl s X.length hX
 have hcp:=XW R X hRl s hs (by have:=hE.sz;omega)
 obtain⟨h5a,h5b⟩:=xt (rZ p hv).2.1
 obtain⟨h7a,h7b⟩:=xt (rZ p hv).1
 have hXn:X.length<=1000:=by have:=hE.sz;omega
 obtain⟨r0,r1,r2,r3,r4,r5,r6,r7,r8,r9,ra,rb,rc,rd,re,rf,rfl⟩:=uo R hRl
 have hcn:=(rZ p hv).2.2
 rw[x6]at hgd⊢
 simp only[Ky,Kz,JF,JG]at hgd hcp⊢
 refine kX func18 SR ntmps18 fun C hR hP hH hL=>?_
 refine zB 100 (vv ?_)
 refine zM 110 hgd hH rfl (vv ?_)
 refine zV (fun hc=>?_) (fun hc=>?_)
 ·have hz:(l.length==p.f5.length)=false:=by
   rw[beq_eq_false_iff_ne]
   intro h
   rw[h]at hc
   simp at hc
  have hR':=hR ⟨R0,[],[],⟨none,0⟩,⟨none,0⟩,1⟩ C hL ⟨rfl,by unfold Zi;rw[hz];rfl,fun h=>absurd h (show(1:Int)≠0 by decide),fun _=>rfl,SlH.nil _,SlH.nil _⟩
  exact zN hR' rfl (vv trivial) rfl (Sub.nil _) ClM.nil (zG rfl)
 have hll:l.length=p.f5.length:=by
  rw[bne_eq_false_iff_eq]at hc
  omega
 have hz:Zi p X l=(vf p X l).1:=by unfold Zi;rw[beq_iff_eq.2 hll];rfl
 refine vv ?_
 refine CallQ.hr [(2,120)] 130 hcp hH ClM.nil rfl rfl trivial rfl (.inl rfl) ?_
 simp only[Mem.ren,Ky,Kz,yD (zq _),V.ren,Cv.ren,rn,Nat.reduceBEq,cond_true,cond_false]
 refine vv ?_
 refine Sm.bringI 200 3 36 (hp.i5.mono hH) rfl rfl ?_
 refine Sm.bringI 201 3 2 (ht.mono hH) rfl rfl ?_
 refine zK (M0:=[]) (α:={i:Nat//i<=p.f5.length}) hP (fun i=>[(2,true,.c (.sl 201 0 l.length 1)),(3,true,.c (.p 100 0)),(6,true,.c (.p 102 0)),(9,true,.c (.p 130 0)),(36,true,.c (.sl 200 0 p.f5.length 1)),(37,true,I p.f5.length),(38,true,I i.val)])
  (fun i=>[(200,⟨true,p.f5.map iC,3⟩),(201,⟨true,l.map iC,3⟩),(130,⟨false,mz (.sl 120 0 X.length 1),45⟩),(120,⟨false,(pR (p.f5.take i.val) (l.take i.val) X).map iC,3⟩),(102,⟨false,mz (.v (.slice none 0 0)),45⟩),(100,⟨false,[.v (vsl p.c p.code.length),.v (vsl p.t p.tys.length),.v (vsl p.u p.cus.length),.v (vsl p.m p.mas.length),.v (iv p.sz),.v (vsl p.s5 p.f5.length),.v (vsl p.s6 p.f6.length),.v (vsl p.s7 p.f7.length),.v (vsl p.s8 p.f8.length)],28⟩)])
  (fun i=>p.f5.length-i.val) ⟨0,zA⟩ (fun _=>zD (by simp only[Kw,z6 (zq _)];rfl)) (fun _=>zO rfl) [(200,200),(201,201),(130,130),(120,120),(102,102),(100,100)] ?_ ?_
 ·exact zh
 rintro⟨i,hi⟩ J hj
 simp only at hj hi⊢
 refine zB 210 (vv ?_)
 refine zV (fun hc=>?_) (fun hc=>?_)
 ·have hc:=zH hc
  have hcl:i<l.length:=zA
  have hn:=h5b _ (JH hc)
  have hXs:=pQ p.f5 l X i hc hcl
  have hov5:(p.f5.map iC)[i]?=some (iC p.f5[i]):=by simp[hc]
  have hovl:(l.map iC)[i]?=some (iC l[i]):=by simp[hcl]
  have hl5:(p.f5.map iC).length=p.f5.length:=Kv _
  have hll':(l.map iC).length=l.length:=Kv _
  have hlX2:((pR (p.f5.take i) (l.take i) X).map iC).length=X.length:=by rw[Kv,tI]
  have hwi:IntKind.i64.wrap ((i:Int)+1)=((i+1:Nat):Int):=wS zA
  generalize p.f5[i]=c0 at*
  generalize l[i]=v0 at*
  simp only[go_sem,hov5,hl5,Int.toNat_natCast]
  refine⟨⟨zA,zA⟩,?_⟩
  refine Sm.dgW [120] 230 7 zi ?_
  simp only[go_sem,hovl,hll',hlX2,Int.toNat_natCast,t5,hwi]
  rw[<-hXs]
  exact⟨⟨zA,zA⟩,⟨zA,zA⟩,zA,hj _ _ ⟨i+1,hc⟩ [(200,200),(201,201),(130,130),(120,120),(102,102),(100,100)] yL zh⟩
 have hc:=zI hi hc
 subst hc
 have hfin:pR (p.f5.take p.f5.length) (l.take p.f5.length) X=pR p.f5 l X:=by
  rw[JY,<-hll,JY]
 rw[hfin]
 have hX1:(pR p.f5 l X).length=X.length:=tI _ _ _
 have hrq:vf p X l=o7 p p.code R0 (pR p.f5 l X):=rfl
 generalize pR p.f5 l X=X1 at*
 refine vv ?_
 have hlenc:(p.code.map Ins.w).length=p.code.length:=Kv _
 have hszc:=zQ (r:=Ins.w) (k:=5) (fun _=>rfl) p.code
 have hfi:=(qi p hv).2.1
 refine Sm.bringR 202 42 53 (rows:=p.code.map Ins.w) (hp.c.mono hH) rfl rfl ?_
 simp only[hlenc]
 refine zK (M0:=[]) (α:={q:Nat×List Int×List Int//q.1<=p.code.length/\q.2.1.length=16/\q.2.2.length=X.length/\o7 p p.code R0 X1=o7 p (p.code.drop q.1) q.2.1 q.2.2}) hP (fun q=>[(3,true,.c (.p 100 0)),(6,true,.c (.p 102 0)),(9,true,.c (.p 130 0)),(53,true,.c (.sl 202 0 p.code.length 5)),(54,true,I p.code.length),(55,true,I q.val.1)])
  (fun q=>[(202,⟨true,zC (p.code.map Ins.w),42⟩),(130,⟨false,q.val.2.1.map iC++[.sl 120 0 X.length 1],45⟩),(120,⟨false,q.val.2.2.map iC,3⟩),(102,⟨false,mz (.v (.slice none 0 0)),45⟩),(100,⟨false,[.v (vsl p.c p.code.length),.v (vsl p.t p.tys.length),.v (vsl p.u p.cus.length),.v (vsl p.m p.mas.length),.v (iv p.sz),.v (vsl p.s5 p.f5.length),.v (vsl p.s6 p.f6.length),.v (vsl p.s7 p.f7.length),.v (vsl p.s8 p.f8.length)],28⟩)])
  (fun q=>p.code.length-q.val.1) ⟨(0,R0,X1),zA,rfl,hX1,by rw[Jb]⟩ (fun _=>zD (by simp only[Kw,IV,z6 (zq _),iR];rfl)) (fun _=>zO rfl) [(202,202),(130,130),(120,120),(102,102),(100,100)] ?_ ?_
 ·exact⟨rfl,trivial,⟨rfl,rfl,rfl,rfl,rfl,rfl,trivial⟩,⟨oX,.inr ⟨_,rfl,.inl (dG rfl)⟩,oV (yD (zq _)),oR,oR,trivial⟩⟩
 rintro⟨⟨i,R1,Y⟩,hi,hR1,hY,hrn⟩ J hj
 simp only at hj hi hR1 hY hrn⊢
 refine zB 210 (vv ?_)
 refine zV (fun hc=>?_) (fun hc=>?_)
 ·have hc:=zH hc
  have hex:=XS p hp hE p.code[i] (hfi _ (JH hc)) R1 Y hR1 zA
  have htk:=zW (r:=Ins.w) (k:=5) (fun _=>rfl) p.code i hc
  have hlen2:=iz p p.code[i] R1 Y
  rw[JC hc]at hrn
  have hrn:o7 p p.code R0 X1=(fun z=>bif z.1==0 then o7 p (p.code.drop (i+1)) z.2.1 z.2.2 else z) (v3 p p.code[i] R1 Y):=hrn
  have hwi:IntKind.i64.wrap ((i:Int)+1)=((i+1:Nat):Int):=wS zA
  generalize p.code[i]=ii at*
  rw[hY,x6,yx]at hex
  generalize v3 p ii R1 Y=z at*
  have htk:((zC (p.code.map Ins.w)).drop (i*5)).take 5=dS ii:=htk
  simp only[go_sem,hszc,htk,Int.toNat_natCast]
  refine⟨⟨zA,zA⟩,zA,?_⟩
  refine CallQ.hr [(1,130),(2,120)] 230 hex hH (by have:=PT R1 Y false false;rw[hY]at this;exact this) rfl rfl ⟨⟨_,rfl,.inl (aL rfl rfl)⟩,oW (yD (zq _)),trivial⟩ rfl (.inl rfl) ?_
  simp only[Mem.ren,Ky,Kz,Bk.ren,JN,nX,V.ren,Cv.ren,rn,Nat.reduceBEq,cond_true,cond_false]
  refine vv ?_
  refine zV (fun he=>?_) (fun he=>?_)
  ·have he0:(z.1==0)=false:=by simpa using he
   simp only[he0,cond_false]at hrn
   have hR':=hR ⟨R0,[],[],⟨none,0⟩,⟨none,0⟩,z.1⟩ C hL ⟨rfl,by rw[hz,hrq,hrn],fun h=>absurd h (by simpa using he0),fun _=>rfl,SlH.nil _,SlH.nil _⟩
   exact zN hR' rfl (vv trivial) rfl (Sub.nil _) ClM.nil (zG rfl)
  ·have he0:(z.1==0)=true:=by simpa using he
   simp only[he0,cond_true]at hrn
   simp only[go_sem,hwi]
   exact hj _ _ ⟨(i+1,z.2.1,z.2.2),hc,by rw[hlen2.1];exact hR1,by rw[hlen2.2];exact hY,hrn⟩ [(202,202),(130,130),(120,120),(102,102),(100,100)] yL
    ⟨rfl,trivial,⟨rfl,rfl,rfl,rfl,rfl,rfl,trivial⟩,⟨oX,.inr ⟨_,rfl,.inl (dG rfl)⟩,oV (yD (zq _)),oR,oR,trivial⟩⟩
 have hc:=zI hi hc
 subst hc
 rw[JI]at hrn
 have hrn:vf p X l=(0,R1,Y):=hrq.trans hrn
 obtain⟨q0,q1,q2,q3,q4,q5,q6,q7,q8,q9,qa,qb,qc,qd,qe,qf,rfl⟩:=uo R1 hR1
 simp only[Ky,Kz,JF,JG]
 refine Sm.bringI 203 3 68 (hp.i7.mono hH) rfl rfl ?_
 refine x9 150 1 3 [15] [] rfl (vv ?_)
 refine zK (M0:=[]) (α:={i:Nat//i<=p.f7.length}) hP (fun i=>[(6,true,.c (.p 102 0)),(9,true,.c (.p 130 0)),(15,true,.c (.sl 150 0 ((p.f7.take i.val).map (gI Y)).length 1)),(68,true,.c (.sl 203 0 p.f7.length 1)),(69,true,I p.f7.length),(70,true,I i.val)])
  (fun i=>[(203,⟨true,p.f7.map iC,3⟩),(150,⟨false,((p.f7.take i.val).map (gI Y)).map iC,3⟩),(130,⟨false,[iC q0,iC q1,iC q2,iC q3,iC q4,iC q5,iC q6,iC q7,iC q8,iC q9,iC qa,iC qb,iC qc,iC qd,iC qe,iC qf,.sl 120 0 X.length 1],45⟩),(120,⟨false,Y.map iC,3⟩),(102,⟨false,mz (.v (.slice none 0 0)),45⟩)])
  (fun i=>p.f7.length-i.val) ⟨0,zA⟩ (fun _=>zD (by simp only[Kw,z6 (zq _)];rfl)) (fun _=>zO rfl) [(203,203),(150,150),(130,130),(120,120),(102,102)] ?_ ?_
 ·exact zh
 rintro⟨i,hi⟩ J hj
 simp only at hj hi⊢
 refine zB 210 (vv ?_)
 refine zV (fun hc=>?_) (fun hc=>?_)
 ·have hc:=zH hc
  have hn:=h7b _ (JH hc)
  have hov:(p.f7.map iC)[i]?=some (iC p.f7[i]):=by simp[hc]
  have hl7:(p.f7.map iC).length=p.f7.length:=Kv _
  have hlY:(Y.map iC).length=X.length:=by rw[Kv];exact hY
  have hgy:=pU (X:=Y) hn.1 zA
  have hwi:IntKind.i64.wrap ((i:Int)+1)=((i+1:Nat):Int):=wS zA
  have ho1:(p.f7.take (i+1)).map (gI Y)=(p.f7.take i).map (gI Y)++[gI Y p.f7[i]]:=by
   rw[JR hc,JN];rfl
  have hol:((p.f7.take i).map (gI Y)).length=i:=by rw[Kv,IY];omega
  generalize p.f7[i]=c0 at*
  generalize gI Y c0=v0 at*
  generalize (p.f7.take i).map (gI Y)=o at*
  have hap:List.take o.length (o.map iC)++[iC v0]=(o++[v0]).map iC:=by rw[JJ z9,JN];rfl
  have hl1:(o++[v0]).length=o.length+1:=by simp
  simp only[go_sem,hov,hl7,hgy,hlY,Int.toNat_natCast,Kv,hap,hwi]
  have hj:=fun e' M' L=>hj e' M' ⟨i+1,hc⟩ L yL
  rw[ho1,hl1]at hj
  exact⟨⟨zA,zA⟩,⟨zA,zA⟩,⟨zA,zA,zA⟩,hj _ _ [(203,203),(150,211),(130,130),(120,120),(102,102)] zh⟩
 have hc:=zI hi hc
 subst hc
 have hov:(p.f7.take p.f7.length).map (gI Y)=nZ p Y:=by rw[JY];rfl
 rw[hov]
 obtain⟨o,ho⟩:∃o,o=nZ p Y:=⟨_,rfl⟩
 rw[<-ho]
 refine vv ?_
 refine RetQ.letgo (M0:=[]) [120,150] hL hP rfl (by unfold yC;simp only[Kw,yF (zq _)];rfl) (fun β C5 l5 k5 kn=>?_)
 obtain⟨s1,hv1,hk1⟩:=(kn 120 _ rfl rfl rfl).vslx (sz:=1) (rows:=zP Y) (fun r hr=>by obtain⟨x,_,rfl⟩:=JL.1 hr;rfl) (wj Y).symm
 obtain⟨s2,hv2,hk2⟩:=(kn 150 _ rfl rfl rfl).vslx (sz:=1) (rows:=zP o) (fun r hr=>by obtain⟨x,_,rfl⟩:=JL.1 hr;rfl) (wj o).symm
 have hlY:(zP Y).length=X.length:=(Kv _).trans hY
 have hlo:(zP o).length=o.length:=Kv _
 rw[hlY]at hv1 hk1
 rw[hlo]at hv2 hk2
 have hv1:y7 β (.sl 120 0 X.length 1)=vsl s1 X.length:=hv1
 have hv2:y7 β (.sl 150 0 o.length 1)=vsl s2 o.length:=hv2
 simp only[Mem.conc,Env.conc,Bk.conc,Cv.conc,V.conc,Ky,Kz,J0,List.contains_nil,Nat.reduceBEq,Jq,IF,cond_true,cond_false,hv1,hv2]
 have hR':=hR ⟨[q0,q1,q2,q3,q4,q5,q6,q7,q8,q9,qa,qb,qc,qd,qe,qf],Y,o,s1,s2,0⟩ C5 l5 ⟨rfl,by rw[hz,hrn],fun _=>⟨by rw[hrn],ho⟩,fun h=>absurd rfl h,by simp only[hY];exact hk1,hk2⟩
 simp only[hY]at hR'
 exact zN hR' rfl (vv trivial) rfl (Sub.nil _) ClM.nil (zG rfl)
theorem oq:∀(l:List Ins) (i:Nat) (h:i<l.length),vt (l.take (i+1))=vt (l.take i)+lX l[i]
 |a::l,0,_=>by simp[vt]
 |a::l,i+1,h=>by
  have ih:=oq l i (by simpa using h)
  simp only[List.take_succ_cons,vt,List.getElem_cons_succ]
  omega
theorem bg (n:Nat)(h:n<23):tz[n*3+2]?=some (.v (iv (qE.getD n ([],[],0)).2.2)):=by
 have:=pA n h
 have h2:((tz.drop (n*3)).take 3)[2]?=tz[n*3+2]?:=by rw[Iu,if_pos yp,Is]
 rw[<-h2,this]
 rfl
theorem dE {H:Hp}(p:Pg)(hp:p.ok H)(hc1:∀c∈p.cus,c.c.xs.length<=1000000000000000/\c.c.ys.length<=1000000000000000)(hm1:∀m∈p.mas,∀v∈m.zs,v.2.length<=1000000000000000)(hv:wP p=true):
  CallH H Tryz.prog 14 [z3 p.r] (I (vt p.code)):=by
 have hval:=uK p hp hc1 hm1
 rw[hv]at hval
 have hcn:=(rZ p hv).2.2
 have hfi:=(qi p hv).2.1
 have hlenc:(p.code.map Ins.w).length=p.code.length:=Kv _
 have hszc:=zQ (r:=Ins.w) (k:=5) (fun _=>rfl) p.code
 rw[x6]at hval⊢
 refine kH func14 NA ntmps14 fun C hR hP hH hL=>?_
 have hR:=hR C hL
 refine zB 100 (vv ?_)
 refine zM 110 hval hH rfl (vv ?_)
 refine Sm.bringR 202 42 10 (rows:=p.code.map Ins.w) (hp.c.mono hH) rfl rfl ?_
 simp only[hlenc]
 refine zK (M0:=[]) (α:={i:Nat//i<=p.code.length}) hP (fun i=>[(3,true,I (vt (p.code.take i.val))),(10,true,.c (.sl 202 0 p.code.length 5)),(11,true,I p.code.length),(12,true,I i.val)])
  (fun _=>[(202,⟨true,zC (p.code.map Ins.w),42⟩)])
  (fun i=>p.code.length-i.val) ⟨0,zA⟩ (fun _=>cM) (fun _=>zO rfl) [(202,202)] ?_ ?_
 ·exact zh
 rintro⟨i,hi⟩ J hj
 simp only at hj hi⊢
 refine zB 210 (vv ?_)
 refine zV (fun hc=>?_) (fun hc=>?_)
 ·have hc:=zH hc
  have htk:=zW (r:=Ins.w) (k:=5) (fun _=>rfl) p.code i hc
  have htk:((zC (p.code.map Ins.w)).drop (i*5)).take 5=dS p.code[i]:=htk
  have hwi:IntKind.i64.wrap ((i:Int)+1)=((i+1:Nat):Int):=wS zA
  have hop:=(qA p p.code[i] (hfi _ (JH hc))).1
  have hcs:=oq p.code i hc
  have hcb:=cC (p.code.take i)
  have hci:=j8 p.code[i]
  have htl:(p.code.take i).length<=4000:=by rw[IY];omega
  have hrw:lX p.code[i]=(qE.getD p.code[i].op.toNat ([],[],0)).2.2:=rfl
  have hr2:=bg p.code[i].op.toNat zA
  rw[<-hrw]at hr2
  generalize p.code[i]=ii at*
  have hw:IntKind.i64.wrap (vt (p.code.take i)+lX ii)=vt (p.code.take (i+1)):=by rw[hcs];exact y6 zA zA
  simp only[go_sem,hszc,htk,Int.toNat_natCast]
  refine⟨⟨zA,zA⟩,zA,?_⟩
  refine Sm.dg 220 7 zi (vv ?_)
  refine DCallQ.xn 230 (fun _=>dA.toX (H:=C.hp)) (Hp.le.refl _) ClM.nil (fun _=>rfl) trivial rfl rfl rfl (.inl rfl) (vv ?_)
  refine⟨zA,?_⟩
  refine DOpQ.look (nx':=240) (sc:=True) (v:= .c (.v (iv (lX ii)))) [(1,⟨false,tz,107⟩)] 240 ?_ trivial ⟨rfl,trivial⟩ rfl ?_
  ·simp only[go_sem,hr2]
  simp only[go_sem,hw,hwi]
  exact hj _ _ ⟨i+1,hc⟩ [(202,202)] yL zh
 ·have hc:=zI hi hc
  subst hc
  exact RetQ.int hR rfl yI (by rw[JY])
end Go.Proofs.YtbnkiacicnnmkaaGreat.Fx
