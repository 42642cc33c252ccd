/-  -/
import Derived.Test.YtbnkiacicnnmkaaGreatGO
import Derived.Test.YtbnkiacicnnmkaaGreatHF
open Go.Proofs.Tryz
open Go.Proofs.Tryz renaming prog→HT
set_option linter.unusedSimpArgs false
set_option linter.unusedVariables false
set_option maxRecDepth 100000
set_option maxHeartbeats 4000000
namespace Go.Proofs.YtbnkiacicnnmkaaGreat.Fx
open Vg Tf
def L7 (p:Pg):List Cv:=[.sl 21 0 p.code.length 5,.v (vsl p.t p.tys.length),.v (vsl p.u p.cus.length),.v (vsl p.m p.mas.length),.v (iv p.sz),.sl 20 0 p.f5.length 1,.v (vsl p.s6 p.f6.length),.sl 22 0 p.f7.length 1,.v (vsl p.s8 p.f8.length)]
@[reducible,go_sem] def Kk (N:Nat)(R X:List Bool)(o:List Int):Mem:=[(5,⟨false,[.sl 11 0 16 1,.sl 12 0 N 1],103⟩),(11,⟨false,R.map bC,4⟩),(12,⟨false,X.map bC,4⟩),(6,⟨false,o.map iC,3⟩)]
@[reducible,go_sem] def Kl (p:Pg)(E:List Bool):Mem:=[(1,⟨false,L7 p,28⟩),(20,⟨true,p.f5.map iC,3⟩),(21,⟨true,zC (p.code.map Ins.w),42⟩),(22,⟨true,p.f7.map iC,3⟩),(9,⟨false,E.map bC,4⟩)]
def Zm (p:Pg)(c0:Cv):List Cv:=[c0,.v (vsl p.t p.tys.length),.v (vsl p.u p.cus.length),.v (vsl p.m p.mas.length),.v (iv p.sz),.v (vsl p.s5 p.f5.length),.v (vsl p.s6 p.f6.length),.v (vsl p.s7 p.f7.length),.v (vsl p.s8 p.f8.length)]
def MV (p:Pg)(a b:Cv):List Cv:=[a,b,.v (vsl p.u p.cus.length),.v (vsl p.m p.mas.length),.v (iv p.sz),.v (vsl p.s5 p.f5.length),.v (vsl p.s6 p.f6.length),.v (vsl p.s7 p.f7.length),.v (vsl p.s8 p.f8.length)]
@[reducible,go_sem] def Ki (p:Pg)(K:List Ins):Mem:=[(2,⟨false,MV p (.sl 10 0 K.length 5) (.sl 12 0 p.tys.length 10),28⟩),(3,⟨false,MV p (.sl 11 0 K.length 5) (.sl 13 0 p.tys.length 10),28⟩),(10,⟨true,zC (K.map Ins.w),42⟩),(11,⟨true,zC (K.map Ins.w),42⟩),(12,⟨true,zC (p.tys.map xN),55⟩),(13,⟨true,zC (p.tys.map xN),55⟩)]
theorem UW {H:Hp}(a b:Sv)(l:List Ins)(ha:SlH H (vsl a l.length) 5 (l.map Ins.w))(hb:SlH H (vsl b l.length) 5 (l.map Ins.w))(hl:l.length<=1000000000000000):CallH H HT 15 [.c (.v (vsl a l.length)),.c (.v (vsl b l.length))] (Bo true):=by
 have hm:(l.map Ins.w).length=l.length:=Kv _
 have hz:=zQ (r:=Ins.w) (k:=5) (fun _=>rfl) l
 refine kH func15 Oz ntmps15 fun C hR hP hH hL=>?_
 refine Sm.bringR 1 42 0 (ha.mono hH) rfl rfl ?_
 refine Sm.bringR 2 42 1 (hb.mono hH) rfl rfl ?_
 rw[hm]
 refine zB 100 ?_
 simp only[go_sem,bne_self_eq_false]
 refine zK (M0:=[]) (α:={i:Nat//i<=l.length}) hP (fun i=>[(0,true,.c (.sl 1 0 l.length 5)),(1,true,.c (.sl 2 0 l.length 5)),(12,true,I l.length),(13,true,I i.val)])
  (fun _=>[(1,⟨true,zC (l.map Ins.w),42⟩),(2,⟨true,zC (l.map Ins.w),42⟩)]) (fun i=>l.length-i.val) ⟨0,zA⟩ (fun _=>cM) (fun _=>zO rfl) [(1,1),(2,2)] ?_ ?_
 ·exact zh
 rintro⟨i,hi⟩ J hj
 simp only at hj hi⊢
 refine zB 110 (vv ?_)
 refine zV (fun hc=>?_) (fun hc=>?_)
 ·have hc:=zH hc
  have gi:=zW (r:=Ins.w) (k:=5) (fun _=>rfl) l i hc
  have gi:((zC (l.map Ins.w)).drop (i*5)).take 5=dS l[i]:=gi
  generalize l[i]=g at*
  refine Sm.dg 110 8 zi ?_
  simp only[go_sem,gi,hz,bne_self_eq_false,beq_self_eq_true,yu (i:=i)]
  exact⟨⟨zA,zA⟩,zA,⟨zA,zA⟩,zA,hj _ _ ⟨i+1,hc⟩ [(1,1),(2,2)] yL zh⟩
 ·exact zp (hR C hL) rfl
theorem iE (p:Pg):∀(l:List Ins) (R X:List Int),(o7 p l R X).2.2.length=X.length
 |[],_,_=>rfl
 |i::t,R,X=>by
  have h:=(iz p i R X).2
  unfold o7
  dsimp only
  cases (v3 p i R X).1==0 with
  |true=>rw[cond_true,iE p t];exact h
  |false=>exact h
theorem mg (p:Pg)(X l:List Int):(vf p X l).2.2.length=X.length:=by unfold vf;rw[iE,tI]
theorem bp (p:Pg)(s:Sv)(hv:wP p=true)(X X' l:List Int)(h:AgL (fE p) X X'):
  Zi p X l=Zi (xP p s) X' l/\(Zi p X l=0->AgL (fE p) (vf p X l).2.2 (vf (xP p s) X' l).2.2/\nZ p (vf p X l).2.2=nZ (xP p s) (vf (xP p s) X' l).2.2):=by
 have h5:(xP p s).f5=p.f5:=rfl
 unfold Zi
 rw[h5]
 cases hl:l.length==p.f5.length with
 |false=>exact⟨rfl,fun h=>absurd h (show(1:Int)≠0 by decide)⟩
 |true=>exact bZ p s hv X X' l (by simpa using(beq_iff_eq.1 hl).symm) h
theorem ccmp_ {H:Hp}(p:Pg)(hp:p.ok H)(hki:∀i∈p.code, -9223372036854775808<=i.k/\i.k<=9223372036854775807)(cells:List Int)(sc:Sv)(hcs:SlH H (vsl sc cells.length) 1 (zP cells))(ins:List (Sv×List Int))(si:Sv)(hin:SlH H (vsl si ins.length) 1 (ins.map zR))(hiz:∀x∈ins,SlH H (vsl x.1 x.2.length) 1 (zP x.2))(hA:CallH H HT 5 [] (Bo true)):
  CallX H HT 4 [z3 p.r,.c (.v (vsl sc cells.length)),.c (.v (vsl si ins.length))] [] (fun _:Unit=>Bo true) (fun _=>[]) (fun _ _=>True):=by
 have hsm:=Yp p hp
 rw[x6]at hsm⊢
 refine kX func4 KI ntmps4 fun C hR hP hH hL=>?_
 have hR:=hR ()
 refine zB 100 (vv ?_)
 refine zM 110 hA hH rfl (vv ?_)
 refine zM 110 hsm hH rfl ?_
 cases hs:Zc p with
 |false=>
  refine vv ?_
  refine zt (xs:=[]) (v:=Bo false) (H:=H) 120 (fun h=>by cases h) hH (fun h=>by cases h) (vv ?_)
  exact zp (hR C hL trivial) rfl
 |true=>
 obtain⟨hc1,hm1⟩:=Wr p hs
 have hlen:p.code.length<=300/\p.tys.length<=110/\p.f5.length<=60/\p.f6.length<=60/\p.f7.length<=60/\p.f8.length<=60:=by
  unfold Zc Yq at hs
  simp only[JB,decide_eq_true_eq]at hs
  omega
 have hrv:=o5 p hp hc1 hm1 zA hki
 rw[x6]at hrv
 cases hv:wP p with
 |false=>
  rw[hv]at hrv
  refine vv ?_
  refine zt 120 (fun _=>hrv) hH (fun _=>rfl) (vv ?_)
  exact zp (hR C hL trivial) rfl
 |true=>
 rw[hv]at hrv
 refine vv ?_
 refine zt 120 (fun _=>hrv) hH (fun _=>rfl) (vv ?_)
 refine zV (fun h8=>?_) (fun h8=>?_)
 ·exact zp (hR C hL trivial) rfl
 have h8:ins.length<=8:=by have:=of_decide_eq_false h8;omega
 have h2:=rG p hp hc1 hm1 hv
 have hrw:∀s,(xP p s).r.map Cv.v=Zm p (.v (vsl s (yh p).length)):=fun _=>rfl
 have hsub:=ng (fE p) p.code
 rw[<-uL p]at hsub
 have hkl:(yh p).length<=p.code.length:=hsub.length_le
 rw[x6]at h2
 refine vv ?_
 refine CallQ.x 130 hL h2 hH (Sub.nil _) ClM.nil (fun _=>Fresh.nil _ _) rfl rfl rfl (fun s C2 H2 l2 g2 k2 ks=>?_)
 simp only[hrw]
 have hH2:=hH.trans g2
 have hq:(xP p s).ok C2.hp:=⟨ks.mono k2,(hp.mono hH2).t,(hp.mono hH2).u,(hp.mono hH2).m,(hp.mono hH2).cu,(hp.mono hH2).ma,(hp.mono hH2).i5,(hp.mono hH2).i6,(hp.mono hH2).i7,(hp.mono hH2).i8⟩
 have hqv:=Y9 p s hv
 have hqi:∀i∈(xP p s).code, -9223372036854775808<=i.k/\i.k<=9223372036854775807:=fun i hi=>hki i (hsub.subset hi)
 have hqr:=o5 (xP p s) hq hc1 hm1 (by show p.f8.length<=_;omega) hqi
 rw[hqv]at hqr
 have hcq:=dE (xP p s) hq hc1 hm1 hqv
 have hcp:=dE p (hp.mono hH2) hc1 hm1 hv
 have hcst:decide (vt p.code<vt (yh p))=false:=decide_eq_false (by have:=ax hsub;omega)
 have hck:vt (xP p s).code=vt (yh p):=rfl
 have hlt:decide (((p.code.length:Nat):Int)<((yh p).length:Int))=false:=yZ zA
 have h3:=rG (xP p s) hq hc1 hm1 hqv
 have hrw2:∀s2,(xP (xP p s) s2).r.map Cv.v=Zm p (.v (vsl s2 (yh p).length)):=fun s2=>by
  rw[<-lK p s];rfl
 have hrp:z3 (xP p s).r= .agg (Zm p (.v (vsl s (yh p).length))):=rfl
 rw[hck,hrp]at hcq
 rw[hrp]at hqr h3
 rw[x6]at hcp
 simp only[go_sem,Zm]
 refine Sm.dg 140 21 zi (vv ?_)
 refine yV 150 (fun _=>hqr) (Hp.le.refl _) (fun _=>rfl) (vv ?_)
 refine yV 160 (fun _=>hcq) (Hp.le.refl _) (fun _=>rfl) (vv ?_)
 refine yV 170 (fun _=>hcp) (Hp.le.refl _) (fun _=>rfl) ?_
 simp only[go_sem,hcst,hlt]
 refine CallQ.x 180 l2 h3 (Hp.le.refl _) (Sub.nil _) ClM.nil (fun _=>Fresh.nil _ _) rfl rfl rfl (fun s2 C3 H3 l3 g3 k3 ks3=>?_)
 simp only[hrw2]
 rw[lK]at ks3
 have hH3:=hH2.trans g3
 have heq:=UW s2 s (yh p) (ks3.mono k3) ((ks.mono k2).mono g3) zA
 have hnw:=V4 p (hp.mono hH3) hc1 hm1 hv
 rw[x6]at hnw
 simp only[go_sem,Zm]
 refine zt 190 (fun _=>heq) (Hp.le.refl _) (fun _=>rfl) (vv ?_)
 refine uD [(1,200)] 210 l3 hnw (Hp.le.refl _) rfl trivial ClM.nil (fun _=>rfl) rfl rfl rfl fun _ C4 H4 l4 g4 _ _=>?_
 simp only[Mem.ren,Bk.ren,Ky,Kz,nX,V.ren,W.ren,Cv.ren,rn,Nat.reduceBEq,cond_true,cond_false]
 have hsz:=(ji hv).sz
 have hszn:((p.sz.toNat:Nat):Int)=p.sz:=zA
 have hne:(((p.sz.toNat:Nat):Int)!=p.sz)=false:=by rw[hszn];simp
 have hX0:(VW p).length=p.sz.toNat:=by unfold VW;rw[tI,Ij]
 simp only[go_sem,hne]
 have hH4:=hH3.trans g4
 refine Sm.bringI 300 3 1 (hcs.mono hH4) rfl rfl ?_
 refine zK (M0:=[]) (α:={q:Nat×List Int//q.1<=p.sz.toNat/\q.2.length=p.sz.toNat}) (l4.pins hP) (fun q=>[(1,true,.c (.sl 300 0 cells.length 1)),(2,true,.c (.v (vsl si ins.length))),(3,true,.c (.p 100 0)),(7,true,.c (.p 130 0)),(11,true,.c (.p 210 0)),(97,true,.c (.sl 200 0 p.sz.toNat 1)),(98,true,I p.sz.toNat),(99,true,I q.val.1)])
  (fun q=>[(300,⟨true,cells.map iC,3⟩),(210,⟨false,mz (.sl 200 0 p.sz.toNat 1),45⟩),(200,⟨false,q.val.2.map iC,3⟩),(130,⟨false,[.v (vsl s (yh p).length),.v (vsl p.t p.tys.length),.v (vsl p.u p.cus.length),.v (vsl p.m p.mas.length),.v (iv p.sz),.v (vsl p.s5 p.f5.length),.v (vsl p.s6 p.f6.length),.v (vsl p.s7 p.f7.length),.v (vsl p.s8 p.f8.length)],28⟩),(100,⟨false,[.v (vsl p.c p.code.length),.v (vsl p.t p.tys.length),.v (vsl p.u p.cus.length),.v (vsl p.m p.mas.length),.v (iv p.sz),.v (vsl p.s5 p.f5.length),.v (vsl p.s6 p.f6.length),.v (vsl p.s7 p.f7.length),.v (vsl p.s8 p.f8.length)],28⟩)])
  (fun q=>p.sz.toNat-q.val.1) ⟨(0,VW p),zA,hX0⟩ (fun _=>zD (by simp only[Kw,z6 (zq _)];rfl)) (fun _=>zO rfl) [(300,300),(210,210),(200,200),(130,130),(100,100)] ?_ ?_
 ·exact zh
 rintro⟨⟨i,Y⟩,hi,hY⟩ J hj
 simp only at hj hi hY⊢
 refine zB 220 (vv ?_)
 refine zV (fun hc=>?_) (fun hc=>?_)
 ·have hc:=zH hc
  have hwi:IntKind.i64.wrap ((i:Int)+1)=((i+1:Nat):Int):=wS zA
  refine vv ?_
  refine zV (fun hd=>?_) (fun hd=>?_)
  ·have hd:=zH hd
   have hov:(cells.map iC)[i]?=some (iC cells[i]):=by simp[hd]
   have hlY:(Y.map iC).length=p.sz.toNat:=by rw[Kv];exact hY
   have hlc:(cells.map iC).length=cells.length:=Kv _
   have hset:(Y.map iC).set i (iC cells[i])=(sI Y i cells[i]).map iC:=t5 (n:=(i:Int))
   have hsl:(sI Y i cells[i]).length=p.sz.toNat:=by rw[xV];exact hY
   generalize cells[i]=v0 at*
   refine Sm.dgW [200] 230 7 zi ?_
   simp only[go_sem,hov,hlc,hlY,Int.toNat_natCast,hset,hwi]
   exact⟨⟨zA,zA⟩,⟨zA,zA⟩,zA,hj _ _ ⟨(i+1,sI Y i v0),hc,hsl⟩ [(300,300),(210,210),(200,200),(130,130),(100,100)] yL zh⟩
  ·simp only[go_sem,hwi]
   exact hj _ _ ⟨(i+1,Y),hc,hY⟩ [(300,300),(210,210),(200,200),(130,130),(100,100)] yL zh
 have hlY:(zP Y).length=p.sz.toNat:=(Kv _).trans hY
 refine vv ?_
 refine CallQ.letgo (xs:=[_]) (M0:=[]) [200] l4 hP rfl (by unfold yC;simp only[Kw,yF (zq _)];rfl) rfl WF rfl rfl (fun β C5 l5 g5 kn=>?_)
 obtain⟨sa,hva,hka⟩:=(kn 200 _ rfl rfl rfl).vslx (sz:=1) (rows:=zP Y) (fun r hr=>by obtain⟨x,_,rfl⟩:=JL.1 hr;rfl) (wj Y).symm
 rw[hlY]at hva hka
 have hva:y7 β (.sl 200 0 p.sz.toNat 1)=vsl sa p.sz.toNat:=hva
 have hcl:=qB (vsl sa p.sz.toNat) (zP Y) hka (fun r hr=>by obtain⟨x,_,rfl⟩:=JL.1 hr;rfl) (by rw[wj];exact JD.2 fun c hc=>by obtain⟨n,_,rfl⟩:=JL.1 hc;rfl) (by rw[hlY];omega)
 rw[wj,hlY]at hcl
 simp only[Env.conc,Mem.conc,Bk.conc,Ky,Kz,V.conc,Cv.conc,cond_true,cond_false,J0,List.contains_nil,Nat.reduceBEq,Jq,hva,xf (zq _)]
 refine CallW.x 230 l5 hcl (Hp.le.refl _) (Sub.nil _) ClM.nil (fun _=>xA rfl) rfl (fun _ C6 H6 l6 g6 _ _=>?_)
 refine vv ?_
 refine Sm.letgo (M0:=[]) [2] l6 hP rfl (by unfold yC;simp only[Kw,yF (zq _)];rfl) (fun β2 C7 l7 g7 kn2=>?_)
 obtain⟨sb,hvb,hkb⟩:=(kn2 2 _ rfl rfl rfl).vslx (sz:=1) (rows:=zP Y) (fun r hr=>by obtain⟨x,_,rfl⟩:=JL.1 hr;rfl) (wj Y).symm
 rw[hlY]at hvb hkb
 have hvb:y7 β2 (.sl 2 0 p.sz.toNat 1)=vsl sb p.sz.toNat:=hvb
 simp only[Env.conc,Mem.conc,Bk.conc,Ky,Kz,V.conc,Cv.conc,cond_true,cond_false,J0,List.contains_nil,Nat.reduceBEq,Jq,hvb,xf (zq _)]
 have hH7:=((hH4.trans g5).trans g6).trans g7
 have hzl:(ins.map zR).length=ins.length:=Kv _
 refine Sm.bringR 400 26 119 (rows:=ins.map zR) (hin.mono hH7) rfl rfl ?_
 simp only[hzl]
 refine xH (C:=C) (Ck:=C7) (M0:=[]) (α:={q:Nat×(List Int×List Int×Sv)×List Int×List Int×Sv//q.1<=ins.length/\q.2.1.1.length=16/\q.2.1.2.1.length=p.sz.toNat/\q.2.2.1.length=16/\q.2.2.2.1.length=p.sz.toNat/\AgL (fE p) q.2.1.2.1 q.2.2.2.1}) l7 hP
  (fun q=>[(3,true,.c (.p 100 0)),(7,true,.c (.p 130 0)),(11,true,.c (.p 210 0)),(14,true,.c (.p 230 0)),(119,true,.c (.sl 400 0 ins.length 1)),(120,true,I ins.length),(121,true,I q.val.1)])
  (fun q=>[(400,⟨true,zC (ins.map zR),26⟩),(230,⟨false,q.val.2.2.1.map iC++[.v (vsl q.val.2.2.2.2 p.sz.toNat)],45⟩),(210,⟨false,q.val.2.1.1.map iC++[.v (vsl q.val.2.1.2.2 p.sz.toNat)],45⟩),(130,⟨false,[.v (vsl s (yh p).length),.v (vsl p.t p.tys.length),.v (vsl p.u p.cus.length),.v (vsl p.m p.mas.length),.v (iv p.sz),.v (vsl p.s5 p.f5.length),.v (vsl p.s6 p.f6.length),.v (vsl p.s7 p.f7.length),.v (vsl p.s8 p.f8.length)],28⟩),(100,⟨false,[.v (vsl p.c p.code.length),.v (vsl p.t p.tys.length),.v (vsl p.u p.cus.length),.v (vsl p.m p.mas.length),.v (iv p.sz),.v (vsl p.s5 p.f5.length),.v (vsl p.s6 p.f6.length),.v (vsl p.s7 p.f7.length),.v (vsl p.s8 p.f8.length)],28⟩)])
  (fun q H=>C7.hp.le H/\SlH H (vsl q.val.2.1.2.2 p.sz.toNat) 1 (zP q.val.2.1.2.1)/\SlH H (vsl q.val.2.2.2.2 p.sz.toNat) 1 (zP q.val.2.2.2.1))
  (fun q=>ins.length-q.val.1) ⟨(0,(R0,Y,sa),R0,Y,sb),zA,rfl,hY,rfl,hY,⟨rfl,(dn p).trans hY.symm,fun _ _=>rfl⟩⟩ ⟨Hp.le.refl _,(hka.mono g6).mono g7,hkb⟩
  (fun _=>zD (by simp only[Kw,IV,z6 (zq _),iR];rfl)) (fun _=>zO rfl) [(400,400),(230,230),(210,210),(130,130),(100,100)] ?_ ?_
 ·exact zh
 rintro⟨⟨i,⟨Ra,Xa,sa⟩,Rb,Xb,sb⟩,hi,hRa,hXa,hRb,hXb,hag⟩ Cn J hn ⟨hh,hka,hkb⟩ hj
 simp only at hj hi hRa hXa hRb hXb hag hka hkb⊢
 obtain⟨a0,a1,a2,a3,a4,a5,a6,a7,a8,a9,aa,ab,ac,ad,ae,af,rfl⟩:=uo Ra hRa
 obtain⟨b0,b1,b2,b3,b4,b5,b6,b7,b8,b9,ba,bb,bc,bd,be,bf,rfl⟩:=uo Rb hRb
 simp only[Ky,Kz,JF,JG]
 refine zB 410 (vv ?_)
 refine zV (fun hc=>?_) (fun hc=>?_)
 ·have hc:=zH hc
  have hwi:IntKind.i64.wrap ((i:Int)+1)=((i+1:Nat):Int):=wS zA
  have hov:=Z5 ins i hc
  have hzn:=zQ (r:=zR) (k:=1) (fun _=>rfl) ins
  have hHn:H.le Cn.hp:=hH7.trans hh
  have hz:=(hiz _ (JH hc)).mono hHn
  generalize ins[i]=x at*
  have hrun1:=Zr p (hp.mono hHn) hc1 hm1 hv _ Xa hRa sa (by rw[hXa];exact hka) zA x.2 x.1 hz
  have hqn:(xP p s).ok Cn.hp:=hq.mono ((((g3.trans g4).trans g5).trans g6).trans (g7.trans hh))
  rw[x6,hXa]at hrun1
  simp only[Ky,Kz,JF,JG]at hrun1
  obtain⟨hsE,hsX⟩:=bp p s hv Xa Xb x.2 hag
  have hrl1:=mg p Xa x.2
  have hrl2:=mg (xP p s) Xb x.2
  simp only[go_sem,hov,hzn,Int.toNat_natCast]
  refine⟨⟨zA,zA⟩,?_⟩
  refine CallQ.x 420 hn hrun1 (Hp.le.refl _) (Sub.nil _) ClM.nil (fun _=>Fresh.nil _ _) rfl rfl rfl (fun o1 D1 G1 m1 e1 f1 p1=>?_)
  obtain⟨R1,X1,u1,v1,w1,z1⟩:=o1
  obtain⟨pr,pe,px,pn,ps,pt⟩:=p1
  simp only at pr pe px pn ps pt⊢
  obtain⟨c0,c1,c2,c3,c4,c5,c6,c7,c8,c9,ca,cb,cc,cd,ce,cf,rfl⟩:=uo R1 pr
  have hrun2:=Zr (xP p s) (hqn.mono e1) hc1 hm1 hqv _ Xb hRb sb (by rw[hXb];exact hkb.mono e1) (by show(Xb.length:Int)=p.sz;omega) x.2 x.1 (hz.mono e1)
  rw[hrp,hXb]at hrun2
  simp only[Ky,Kz,JF,JG,Zm]at hrun2⊢
  refine vv ?_
  refine CallQ.x 430 m1 hrun2 (Hp.le.refl _) (Sub.nil _) ClM.nil (fun _=>Fresh.nil _ _) rfl rfl rfl (fun o2 D2 G2 m2 e2 f2 p2=>?_)
  obtain⟨R2,X2,u2,v2,w2,z2⟩:=o2
  obtain⟨qr,qe,qx,qn,qs,qt⟩:=p2
  simp only at qr qe qx qn qs qt⊢
  obtain⟨d0,d1,d2,d3,d4,d5,d6,d7,d8,d9,da,db,dc,dd,de,df,rfl⟩:=uo R2 qr
  have hz2:z2=z1:=by rw[qe,pe,hsE]
  subst hz2
  have hu:u2=u1:=by
   by_cases h0:z2=0
   ·rw[(px h0).2,(qx h0).2,(px h0).1,(qx h0).1]
    exact((hsX (pe.symm.trans h0)).2).symm
   ·rw[pn h0,qn h0]
  subst hu
  have hul:u2.length<=1000:=by
   by_cases h0:z2=0
   ·rw[(px h0).2];unfold nZ;rw[Kv];omega
   ·rw[pn h0];exact Nat.zero_le _
  have heq2:=YC w1 w2 u2 ((pt.mono f1).mono e2) (qt.mono f2) zA
  simp only[Ky,Kz,JF,JG]
  simp only[go_sem,bne_self_eq_false]
  refine zt 440 (fun _=>heq2) (Hp.le.refl _) (fun _=>rfl) (vv ?_)
  refine zV (fun he=>?_) (fun he=>?_)
  ·exact zp (hR D2 m2 trivial) rfl
  ·have h0:z2=0:=by simpa using he
   obtain⟨hX1,_⟩:=px h0
   obtain⟨hX2,_⟩:=qx h0
   have hag2:=(hsX (pe.symm.trans h0)).1
   rw[<-hX1,<-hX2]at hag2
   have l1:X1.length=p.sz.toNat:=by rw[hX1,hrl1];exact hXa
   have l2:X2.length=p.sz.toNat:=by rw[hX2,hrl2];exact hXb
   rw[l1]at ps
   rw[l2]at qs
   refine Sm.dgW [210] 450 3 zi ?_
   simp only[go_sem,l1,l2,hwi]
   refine hj _ _ D2 ⟨(i+1,([c0,c1,c2,c3,c4,c5,c6,c7,c8,c9,ca,cb,cc,cd,ce,cf],X1,v1),[d0,d1,d2,d3,d4,d5,d6,d7,d8,d9,da,db,dc,dd,de,df],X2,v2),hc,rfl,l1,rfl,l2,hag2⟩ [(400,400),(230,230),(210,210),(130,130),(100,100)] m2 ⟨(hh.trans e1).trans e2,(ps.mono f1).mono e2,qs.mono f2⟩ yL ?_
   exact zh
 ·exact zp (hR Cn hn trivial) rfl
theorem Ps (l:List Int)(hl:l.length<=1000000):CallOk HT 10 [.c (.sl 1 0 l.length 1),.c (.sl 2 0 l.length 1)] [(1,⟨true,l.map iC,3⟩),(2,⟨false,l.map iC,3⟩)] (Bo true) [(2,⟨false,l.map iC,3⟩)]:=by
 refine kN 100 func10 WG ntmps10 fun C hR hP=>?_
 simp only[go_sem,bne_self_eq_false]
 refine zK (M0:=[(1,⟨true,l.map iC,3⟩),(2,⟨false,l.map iC,3⟩)]) (α:={i:Nat//i<=l.length}) hP (fun i=>[(0,true,.c (.sl 1 0 l.length 1)),(1,true,.c (.sl 2 0 l.length 1)),(12,true,I l.length),(13,true,I i.val)])
  (fun _=>[(1,⟨true,l.map iC,3⟩),(2,⟨false,l.map iC,3⟩)]) (fun i=>l.length-i.val) ⟨0,zA⟩ (fun _=>zD (by simp only[Kw,z6 (zq _)];rfl)) (fun _=>zO rfl) [(1,1),(2,2)] ?_ ?_
 ·exact zh
 rintro⟨i,hi⟩ J hj
 simp only at hj hi⊢
 refine v7 8 120 (vv ?_)
 refine zV (fun hc=>?_) (fun hc=>?_)
 ·have hc:=zH hc
  have hov:(l.map iC)[i]?=some (iC l[i]):=by simp[hc]
  have hwi:IntKind.i64.wrap ((i:Int)+1)=((i+1:Nat):Int):=wS zA
  generalize l[i]=z at*
  refine zB 130 (vv ?_)
  refine Sm.dg 130 8 zi ?_
  simp only[go_sem,hov,Int.toNat_natCast,bne_self_eq_false,hwi]
  exact⟨⟨zA,zA⟩,⟨zA,zA⟩,hj _ _ ⟨i+1,hc⟩ [(1,1),(2,2)] yL zh⟩
 ·have hc:=zI hi hc
  subst hc
  refine zB 140 (vv ?_)
  exact yN hR (zD (by simp only[JF,JG,Kw,z6 (zq _)];rfl))
end Go.Proofs.YtbnkiacicnnmkaaGreat.Fx
namespace Go.Proofs.YtbnkiacicnnmkaaGreat
namespace Vg
theorem CallW.letgo {P:Program}{nt:Nat}{C Ck:Cx}{todo:List It}{e:Env}{M M0:Mem}{f:FuncId}{dst:Option Nat}{xs:List V}(L:List Nat)(hL:Lf C Ck)(hP:Pins C.S M0)(h0:M0.all (fun p=> !L.contains p.1)=true)(hok:yC L e M=true)(hxs:xs.all (V.cok L)=true)
  (h:∀β Cn,Lf C Cn->Ck.hp.le Cn.hp->(∀n b,L.contains n=true->M.get n=some b->b.ro=false->Known Cn.hp β n b)->CallW P nt Cn f (xs.map (V.conc L β)) dst todo (e.conc L β) (M.conc L β)):CallW P nt Ck f xs dst todo e M:=fun β a w h1 h2 h3 h4=>by
 obtain⟨Cn,l1,l2,l3,l4,l5⟩:=tA L hL hP h0 hok h1 h2
 have hb:sK L β β=β:=by
  funext n
  unfold sK
  cases L.contains n<;>rfl
 have hxe:(xs.map (V.conc L β)).map (V.g β)=xs.map (V.g β):=by
  rw[Ja]
  refine JV fun x hx=>?_
  have:=po (L:=L) (β:=β) (β':=β) (JD.1 hxs x hx)
  rw[hb]at this
  exact this
 have:=h β Cn l1 l2 l3 β a w l4 l5 h3 (h4.trans (hL.df.trans l1.df.symm))
 rw[hxe]at this
 rw[hL.q,hL.lp,<-l1.q,<-l1.lp]
 exact this
end Vg
end Go.Proofs.YtbnkiacicnnmkaaGreat
namespace Go.Proofs.YtbnkiacicnnmkaaGreat.Fx
open Vg Tf
def nr:Ft:=⟨16,true,1,0,1,0,0,0,0,0⟩
def sX:Td:=⟨[116],nr⟩
def fD:Po:=⟨[120],[116],0,9⟩
def dy:Bl:=⟨[116,119,111],[99,111,110,115,116],[116],[],[],[2]⟩
def eaD:Dg:=⟨[100],[sX],[],[],[fD],[dy],[[120]]⟩
theorem dx:Dg.smP eaD:=⟨yp,yp,yp,yp,yp,yp,yp⟩
theorem gC:(xu eaD T0).2=([],0)/\(xu eaD T0).1.sg=[⟨[120],nr,(0,9)⟩,⟨[116,119,111],nr,(2,2)⟩]/\(xu eaD T0).1.od=[0]:=by
 refine⟨?_,?_,?_⟩<;>rfl
structure EaP (p:Pg):Prop where
 code:p.code=[⟨1,0,0,0,2⟩,⟨3,0,0,0,1⟩]
 tys:p.tys=[nr]
 cus:p.cus=[]
 mas:p.mas=[]
 sz:p.sz=2
 f5:p.f5=[0]
 f6:p.f6=[]
 f7:p.f7=[0]
 f8:p.f8=[]
def Y5:Prop:=∀(H:Hp) (x:CkL),x.c=(xu eaD T0).1->x.ok H->CallX H HT 20 [z3 x.r] [] (fun p:Pg=> .tup [W.agg (p.r.map Cv.v),Wi 0]) (fun _=>[]) (fun p H'=>EaP p/\p.ok H')
@[reducible] def XX (r0:Int)(n:Nat):List Cv:=[.v (.int .i64 r0),.v (.int .i64 0),.v (.int .i64 0),.v (.int .i64 0),.v (.int .i64 0),.v (.int .i64 0),.v (.int .i64 0),.v (.int .i64 0),.v (.int .i64 0),.v (.int .i64 0),.v (.int .i64 0),.v (.int .i64 0),.v (.int .i64 0),.v (.int .i64 0),.v (.int .i64 0),.v (.int .i64 0),.sl n 0 2 1]
def Y3:Prop:=∀(H:Hp) (p:Pg),EaP p->p.ok H->CallX H HT 16 [z3 p.r] [] (fun _:Unit=> .tup [W.agg (XX 0 1),Wi 0]) (fun _=>[(1,⟨false,[.v (.int .i64 0),.v (.int .i64 0)],3⟩)]) (fun _ _=>True)
def Y2:Prop:=∀(H:Hp) (p:Pg),EaP p->p.ok H->CallX H HT 18 [z3 p.r,.agg (XX 0 1),.c (.sl 2 0 1 1)] [(1,⟨true,[.v (.int .i64 0),.v (.int .i64 0)],3⟩),(2,⟨true,[.v (.int .i64 7)],3⟩)] (fun _:Unit=> .tup [W.agg (XX 2 3),.c (.sl 4 0 1 1),Wi 0]) (fun _=>[(3,⟨false,[.v (.int .i64 7),.v (.int .i64 2)],3⟩),(4,⟨false,[.v (.int .i64 7)],3⟩)]) (fun _ _=>True)
theorem dv (p:Pg)(h:EaP p):wP p=true:=by
 obtain⟨code,tys,cus,mas,sz,f5,f6,f7,f8,c,t,u,m,s5,s6,s7,s8⟩:=p
 obtain⟨h1,h2,h3,h4,h5,h6,h7,h8,h9⟩:=h
 simp only at h1 h2 h3 h4 h5 h6 h7 h8 h9
 subst h1 h2 h3 h4 h5 h6 h7 h8 h9
 rfl
theorem awake14_ {H:Hp}(hG:Y5)(hN:Y3)(hU:Y2):CallH H HT 5 [] (Bo true):=by
 have hchk:=fun{H':Hp} (x:DgL) (hx:x.c=eaD) (o:x.ok H')=>cj x o (Zb (by rw[hx];exact dx)) T0 (Ym (by rw[hx];rfl))
 obtain⟨q1,q2,q3⟩:=gC
 refine kH func5 KH ntmps5 fun C hR hP hH hL=>?_
 refine zB 100 (vv ?_)
 refine CallQ.letgo (xs:=[_]) (M0:=[]) [103] hL hP rfl rfl rfl SK rfl rfl (fun β C1 l1 k1 kn=>?_)
 obtain⟨s6,hv6,hk6⟩:=(kn 103 _ rfl rfl rfl).vslx (sz:=1) (rows:=zP [2]) (by simp[zP]) rfl
 have hv6:y7 β (.sl 103 0 1 1)=vsl s6 1:=hv6
 simp only[Mem.conc,Env.conc,Bk.conc,Cv.conc,V.conc,Ky,Kz,J0,List.contains_nil,Nat.reduceBEq,Jq,IF,cond_true,cond_false,hv6]
 refine CallW.letgo (M0:=[]) [101,102,104,105] l1 hP rfl rfl rfl (fun β' C2 l2 k2 kn2=>?_)
 obtain⟨s1,hv1,hk1⟩:=(kn2 101 _ rfl rfl rfl).vslx (sz:=11) (rows:=[sX].map Td.r) (fun r hr=>by obtain⟨x,_,rfl⟩:=JL.1 hr;rfl) rfl
 obtain⟨s2,hv2,hk2⟩:=(kn2 102 _ rfl rfl rfl).vslx (sz:=4) (rows:=[fD].map Po.r) (fun r hr=>by obtain⟨x,_,rfl⟩:=JL.1 hr;rfl) rfl
 obtain⟨s3,hv3,hk3⟩:=(kn2 104 _ rfl rfl rfl).vslx (sz:=6) (rows:=[BlL.mk dy ⟨none,0⟩ s6].map BlL.r) (fun r hr=>by obtain⟨x,_,rfl⟩:=JL.1 hr;rfl) rfl
 obtain⟨s4,hv4,hk4⟩:=(kn2 105 _ rfl rfl rfl).vslx (sz:=1) (rows:=yH [[120]]) (by simp[yH]) rfl
 have hv1:y7 β' (.sl 101 0 1 11)=vsl s1 1:=hv1
 have hv2:y7 β' (.sl 102 0 1 4)=vsl s2 1:=hv2
 have hv3:y7 β' (.sl 104 0 1 6)=vsl s3 1:=hv3
 have hv4:y7 β' (.sl 105 0 1 1)=vsl s4 1:=hv4
 simp only[Mem.conc,Env.conc,Bk.conc,Cv.conc,V.conc,Ky,Kz,J0,List.contains_nil,Nat.reduceBEq,Jq,IF,cond_true,cond_false,hv1,hv2,hv3,hv4]
 obtain⟨d,hd⟩:∃d,d=DgL.mk [100] [sX] [] [] [fD] [BlL.mk dy ⟨none,0⟩ s6] [[120]] s1 ⟨none,0⟩ ⟨none,0⟩ s2 s3 s4:=⟨_,rfl⟩
 have ox:d.ok C2.hp:=by
  rw[hd]
  exact⟨hk1,SlH.nil _,SlH.nil _,hk2,hk3,hk4,z9,z9,fun b hb=>by
   rw[IM]at hb
   subst hb
   exact⟨SlH.nil _,hk6.mono k2⟩⟩
 have hdc:d.c=eaD:=by rw[hd];rfl
 have hdr:z3 d.r= .agg [.v (.string ⟨#[100]⟩),.v (vsl s1 1),.v (.slice none 0 0),.v (.slice none 0 0),.v (vsl s2 1),.v (vsl s3 1),.v (vsl s4 1)]:=by rw[hd];rfl
 have hk:=hchk d hdc ox
 rw[hdr,hdc,q1]at hk
 clear hd
 have hgen:=hG
 refine CallW.x 120 l2 hk (Hp.le.refl _) (Sub.nil _) ClM.nil (fun _=>Fresh.nil _ _) rfl (fun c C3 H3 l3 k3 j3 p3=>?_)
 obtain⟨pc,oc⟩:=p3
 have hcr:c.r.map Cv.v=[.v (sv c.d.nm),.v (vsl c.d.ty c.d.tys.length),.v (vsl c.d.cu c.d.cus.length),.v (vsl c.d.ma c.d.mas.length),.v (vsl c.d.i c.d.ins.length),.v (vsl c.d.bl c.d.bls.length),.v (vsl c.d.ou c.d.ous.length),.v (vsl c.s c.sg.length),.v (vsl c.o c.od.length)]:=rfl
 have hg:=hG C3.hp c pc (CkL.ok.mono j3 oc)
 have hcr2:z3 c.r= .agg (c.r.map Cv.v):=rfl
 rw[hcr2,hcr]at hg
 simp only[hcr]
 refine vv ?_
 refine CallQ.x 130 l3 hg (Hp.le.refl _) (Sub.nil _) ClM.nil (fun _=>Fresh.nil _ _) rfl rfl rfl (fun p C4 H4 l4 k4 j4 p4=>?_)
 obtain⟨pe,op⟩:=p4
 have hvl:=dv p pe
 have op4:=op.mono j4
 have hcp:=rG p op4 (by rw[pe.cus];simp) (by rw[pe.mas];simp) hvl
 have hnw:=fun(H':Hp) (h:p.ok H')=>hN H' p pe h
 have hru:=fun(H':Hp) (h:p.ok H')=>hU H' p pe h
 obtain⟨hal1,hal2⟩:=jf p.code p.f5 (p.sz.toNat+1) (mO p)
 have hkl:(yh p).length<=p.code.length:=by unfold yh wh;rw[Kv];exact hal1
 have hrw:∀s,(xP p s).r.map Cv.v=Zm p (.v (vsl s (yh p).length)):=fun _=>rfl
 have hpr:p.r.map Cv.v=ul p:=rfl
 have hrp:z3 p.r= .agg (ul p):=rfl
 rw[hrp]at hcp
 simp only[hrp]at hnw hru
 have hlt:decide (((p.code.length:Nat):Int)<((yh p).length:Int))=false:=yZ zA
 rw[hpr]
 simp only[go_sem,ul]
 refine CallQ.x 140 l4 hcp (Hp.le.refl _) (Sub.nil _) ClM.nil (fun _=>Fresh.nil _ _) rfl rfl rfl (fun s C5 H5 l5 k5 j5 p5=>?_)
 simp only[hrw]
 simp only[go_sem,Zm]
 have hnw5:=hnw C5.hp (op4.mono k5)
 refine uD [(1,150)] 160 l5 hnw5 (Hp.le.refl _) rfl trivial ClM.nil (fun _=>rfl) rfl rfl rfl fun _ C6 H6 l6 k6 _ _=>?_
 simp only[Mem.ren,Bk.ren,Ky,Kz,V.ren,W.ren,Cv.ren,rn,Nat.reduceBEq,cond_true,cond_false]
 simp only[go_sem,hlt]
 have hru6:=hru C6.hp ((op4.mono k5).mono k6)
 refine uD [(1,150),(2,161),(3,170),(4,171)] 180 l6 hru6 (Hp.le.refl _) rfl ⟨⟨_,rfl,qh⟩,⟨_,rfl,qh⟩,trivial⟩ (zD rfl) (fun _=>rfl) rfl rfl rfl fun _ C7 H7 l7 k7 _ _=>?_
 simp only[Mem.ren,Bk.ren,Ky,Kz,V.ren,W.ren,Cv.ren,rn,Nat.reduceBEq,cond_true,cond_false]
 refine vv ?_
 refine CallQ.ren [(1,171),(2,181)] 190 (Ps [7] z9) (zD rfl) rfl rfl ⟨⟨_,rfl,qh⟩,oS,trivial⟩ rfl (.inl rfl) (vv ?_)
 exact zp (hR C7 l7) rfl
theorem dw {x:CkL}(h:x.c=(xu eaD T0).1):x.d.c=eaD/\x.sg=[⟨[120],nr,(0,9)⟩,⟨[116,119,111],nr,(2,2)⟩]/\x.od=[0]:=by
 obtain⟨q1,q2,q3⟩:=gC
 have hd:(xu eaD T0).1.d=eaD:=rfl
 refine⟨?_,?_,?_⟩
 ·rw[<-hd,<-h];rfl
 ·rw[<-q2,<-h];rfl
 ·rw[<-q3,<-h];rfl
theorem WH {x:CkL}(h:x.c=(xu eaD T0).1):VldC x.c (m7 x.d.c) true:=by
 obtain⟨h1,h2,h3⟩:=dw h
 have hc:x.c=⟨eaD,[⟨[120],nr,(0,9)⟩,⟨[116,119,111],nr,(2,2)⟩],[0]⟩:=by
  have:x.c=⟨x.d.c,x.sg,x.od⟩:=rfl
  rw[this,h1,h2,h3]
 rw[hc,h1]
 exact VldC.good rfl rfl rfl
theorem WI {H:Hp}(x:CkL)(h:x.c=(xu eaD T0).1)(hx:x.ok H):CallH H HT 56 [z3 x.r] (.tup [.c (.v (.slice none 0 0)),Wi 0]):=by
 obtain⟨h1,h2,h3⟩:=dw h
 have hsm:x.d.sm:=Zb (by rw[h1];exact dx)
 have hval:=W3 x hx hsm (by rw[h2];simp) (by rw[h3];simp) true (WH h)
 have hbl:x.d.bls.map BlL.c=[dy]:=congrArg Dg.bls h1
 obtain⟨b,hb,hbc⟩:∃b,x.d.bls=[b]/\b.c=dy:=by
  cases hl:x.d.bls with
  |nil=>rw[hl]at hbl;cases hbl
  |cons b t=>
   rw[hl]at hbl
   simp only[Ky,List.cons.injEq,Io]at hbl
   exact⟨b,by rw[hbl.2],hbl.1⟩
 obtain⟨bc,bi,bk⟩:=b
 have hbc:bc=dy:=hbc
 subst hbc
 have hbs:SlH H (vsl x.d.bl 1) 6 [(BlL.mk dy bi bk).r]:=by have:=hx.d.bl;rw[hb]at this;exact this
 have hcr:z3 x.r= .agg [.v (sv x.d.nm),.v (vsl x.d.ty x.d.tys.length),.v (vsl x.d.cu x.d.cus.length),.v (vsl x.d.ma x.d.mas.length),.v (vsl x.d.i x.d.ins.length),.v (vsl x.d.bl x.d.bls.length),.v (vsl x.d.ou x.d.ous.length),.v (vsl x.s x.sg.length),.v (vsl x.o x.od.length)]:=rfl
 have hbr:(BlL.mk dy bi bk).r=[sv [116,119,111],sv [99,111,110,115,116],sv [116],vsl bi 0,sv [],vsl bk 1]:=rfl
 rw[hbr]at hbs
 rw[hcr]at hval⊢
 rw[hb]at hval⊢
 have d1:(([99,111,110,115,116]:Str)==[100,101,108,97,121])=false:=rfl
 have d2:(([99,111,110,115,116]:Str)==[108,97,103])=false:=rfl
 have d3:(([99,111,110,115,116]:Str)==[104,121,115,116,101,114,101,115,105,115])=false:=rfl
 refine kH func56 O2 ntmps56 fun C hR hP hH hL=>?_
 have hR:=hR C hL
 refine zB 100 (vv ?_)
 refine zM 110 hval hH rfl (vv ?_)
 refine Sm.bringR 20 64 12 (rows:=[[sv [116,119,111],sv [99,111,110,115,116],sv [116],vsl bi 0,sv [],vsl bk 1]]) (hbs.mono hH) rfl rfl (zf 2 (zB 120 ?_))
 simp only[go_sem,zC,hbr,Ky,Kz,List.flatten_cons,List.flatten_nil,JF,JG,JK,d1,d2,d3]
 exact yN hR ClM.nil
end Go.Proofs.YtbnkiacicnnmkaaGreat.Fx
