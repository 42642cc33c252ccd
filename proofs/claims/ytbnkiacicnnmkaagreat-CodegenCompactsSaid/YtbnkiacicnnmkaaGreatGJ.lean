/-  -/
import Derived.Test.YtbnkiacicnnmkaaGreatGD
open Go.Proofs.Tryz
open Go.Proofs.Tryz renaming prog→HT
set_option linter.unusedSimpArgs false
set_option linter.unusedVariables false
set_option maxRecDepth 100000
set_option maxHeartbeats 4000000
namespace Go.Proofs.YtbnkiacicnnmkaaGreat.Fx
open Vg Tf
def mq (i:Ins):List Int:=
 bif i.op==3 then[i.a]else bif i.op==4 then[i.b]else bif i.op==9 then[i.b]else bif i.op==10 then[i.b]else bif i.op==18 then[i.b]else bif i.op==20 then[i.b]else bif i.op==22 then[i.b]else
 bif i.op==19 then[i.b,i.c,i.k]else[i.b,i.c]
theorem XB (i:Ins)(h:i.op=1\/i.op=2):CallOk HT 82 [z3 i.w] [] (.c (.v (.slice none 0 0))) []:=by
 rw[yx]
 obtain⟨op,a,b,c,k⟩:=i
 simp only at h⊢
 refine kN 100 func82 UZ ntmps82 fun C hR hP=>?_
 rcases h with rfl|rfl<;>simp only[go_sem]<;>exact RetQ.pure hR rfl yI rfl (zG rfl)
theorem eT (i:Ins)(h:¬(i.op=1\/i.op=2)):CallOk HT 82 [z3 i.w] [] (.c (.sl 1 0 (mq i).length 1)) [(1,⟨false,(mq i).map iC,3⟩)]:=by
 rw[yx]
 obtain⟨op,a,b,c,k⟩:=i
 simp only[not_or]at h⊢
 obtain⟨R,hRd⟩:∃R,R=mq ⟨op,a,b,c,k⟩:=⟨_,rfl⟩
 rw[<-hRd]
 unfold mq at hRd
 simp only at hRd
 refine kN 100 func82 UZ ntmps82 fun C hR hP=>?_
 have e:∀n:Int,op≠n->(op==n)=false:=fun n h=>by simpa using h
 by_cases h3:op=3\/op=4\/op=9\/op=10\/op=18\/op=20\/op=22\/op=19
 ·rcases h3 with rfl|rfl|rfl|rfl|rfl|rfl|rfl|rfl
  all_goals
   simp only[Int.reduceBEq,cond_true,cond_false]at hRd
   subst hRd
   simp only[go_sem,List.range_zero,JG,JF,Ky,Kz,Je,J5]
   exact RetQ.ren [(1,101)] hR hP rfl yI rfl rfl trivial ⟨oR,trivial⟩ (zD rfl) (zG rfl)
 ·simp only[not_or]at h3
  obtain⟨h3,h4,h9,h10,h18,h20,h22,h19⟩:=h3
  rw[e _ h3,e _ h4,e _ h9,e _ h10,e _ h18,e _ h20,e _ h22,e _ h19]at hRd
  simp only[cond_false]at hRd
  subst hRd
  simp only[go_sem,e _ h.1,e _ h.2,e _ h3,e _ h4,e _ h9,e _ h10,e _ h18,e _ h20,e _ h22,e _ h19,List.range_zero,JG,JF,Ky,Kz,Je,J5]
  exact RetQ.ren [(1,101)] hR hP rfl yI rfl rfl trivial ⟨oR,trivial⟩ (zD rfl) (zG rfl)
@[reducible] def jF (r:Int)(n:Nat)(ro:Bool):Nat×Bk:=(1,⟨ro,[.v (.int .u16 r),.sl 2 0 n 1],91⟩)
@[reducible] def et (C:List Bool)(ro:Bool):Nat×Bk:=(2,⟨ro,C.map bC,4⟩)
theorem pV {C:List Bool}{n:Int}(h0:0<=n)(h1:n<C.length):(C.map bC)[n.toNat]?=some (bC (gB C n)):=rK zA
structure InOk (i:Ins) (n:Nat):Prop where
 op:1<=i.op/\i.op<=22
 a:0<=i.a/\i.a<16
 b:0<=i.b/\i.b<16
 c:0<=i.c/\i.c<16
 k23:i.op=2\/i.op=3->0<=i.k/\i.k<n
 k19:i.op=19->0<=i.k/\i.k<16
 k22:i.op=22->0<=i.k/\i.k/32+1<n
theorem aJ (i:Ins)(r:Int)(Z:List Bool)(hi:InOk i Z.length)(h0:0<=r)(h1:r<65536)(hZ:Z.length<=1000):
  CallOk HT 30 [.c (.p 1 0),z3 i.w] [jF r Z.length true,et Z true] (Bo (rR i (qX r) Z)) []:=by
 obtain⟨A,hA⟩:∃A,A=rR i (qX r) Z:=⟨_,rfl⟩
 rw[<-hA]
 unfold rR at hA
 have hk2:=hi.k23
 have hk22:=hi.k22
 have hal:=QC h0 h1 hi.a.1 hi.a.2
 have ha:=hi.a
 rw[yx]
 obtain⟨op,a,b,c,k⟩:=i
 simp only at*
 have hM:ClM [jF r Z.length true,et Z true]:=zD (by simp only[Kw,z6 (yf _)];rfl)
 have hlen:(Z.map bC).length=Z.length:=Kv _
 refine kN 100 func30 Ol ntmps30 fun C hR hP=>?_
 refine vv ?_
 by_cases h8:op=8
 ·subst h8
  refine vv ?_
  exact zN hR rfl yI (by rw[hA];rfl) (SubS.sub ⟨oS,oS,trivial⟩) hM (zG rfl)
 have e8:(op==8)=false:=by simpa using h8
 by_cases h3:op=3
 ·subst h3
  obtain⟨k0,k1⟩:=hk2 (.inr rfl)
  have hg:=pV (C:=Z) k0 k1
  simp only[go_sem,e8]
  refine Sm.dg 110 6 zi ?_
  simp only[go_sem,hg,hlen]
  exact⟨⟨k0,k1⟩,zN hR rfl yI (by rw[hA];rfl) (SubS.sub ⟨oS,oS,trivial⟩) hM (zG rfl)⟩
 have e3:(op==3)=false:=by simpa using h3
 by_cases h22:op=22
 ·subst h22
  obtain⟨k0,k1⟩:=hk22 rfl
  have hg:=pV (C:=Z) (n:=k/32) zA zA
  have hg1:=pV (C:=Z) (n:=k/32+1) zA zA
  have w1:IntKind.i64.wrap (k.tdiv 32)=k/32:=by rw[IL k0];exact y6 zA zA
  have w2:IntKind.i64.wrap (k/32+1)=k/32+1:=y6 zA zA
  simp only[go_sem,e8,e3,w1]
  refine Sm.dg 110 25 zi ?_
  simp only[go_sem,hg,hg1,hlen,w1,w2,hal]
  exact⟨ha.1,fun h=>⟨h,h,zA,zA⟩,fun h=>⟨h,h,zA,zA⟩,zN hR rfl yI (by
   rw[hA]
   simp only[Int.reduceBEq,cond_true,cond_false]
   cases gB (qX r) a<;>rfl) (SubS.sub ⟨oS,oS,trivial⟩) hM (zG rfl)⟩
 have e22:(op==22)=false:=by simpa using h22
 simp only[go_sem,e8,e3,e22]
 refine Sm.dg 110 6 zi ?_
 simp only[go_sem,hal]
 exact⟨ha.1,zN hR rfl yI (by rw[hA,e3,e22,e8,cond_false,cond_false,cond_false];rfl) (SubS.sub ⟨oS,oS,trivial⟩) hM (zG rfl)⟩
def cr (r a:Int):Int:=bits .or .u16 r (IntKind.u16.wrap (1*2^min a.toNat 16))
def W8 (r a:Int):Int:=bits .andNot .u16 r (IntKind.u16.wrap (1*2^min a.toNat 16))
def VF (i:Ins):List Int:=bif i.op==1 then[]else bif i.op==2 then[]else mq i
def WX (i:Ins)(r:Int):Int:=bif i.op==3 then r else W8 r i.a
def cO (i:Ins)(r:Int):Int:=(VF i).foldl cr (WX i r)
theorem iw:∀(l:List Int) (r:Int),(∀a∈l,0<=a/\a<16)->0<=r->r<65536->(0<=l.foldl cr r/\l.foldl cr r<65536)/\qX (l.foldl cr r)=l.foldl (fun R a=>sB R a true) (qX r)
 |[],r,_,h0,h1=>⟨⟨h0,h1⟩,rfl⟩
 |a::l,r,h,h0,h1=>by
  obtain⟨⟨u,v⟩,w⟩:=QA h0 h1 (h a (Ig ..)).1 (h a (Ig ..)).2
  have ih:=iw l (cr r a) (fun x hx=>h x (I0 _ hx)) u v
  refine⟨ih.1,?_⟩
  rw[List.foldl_cons,List.foldl_cons,ih.2]
  exact congrArg (fun q=>l.foldl (fun R a=>sB R a true) q) w
theorem Zj (i:Ins){n:Nat}(hi:InOk i n):∀a∈mq i,0<=a/\a<16:=by
 intro a ha
 unfold mq at ha
 have h19:=hi.k19
 have h1:=hi.a
 have h2:=hi.b
 have h3:=hi.c
 by_cases h:i.op=19
 ·rw[h]at ha
  have:=h19 h
  simp at ha
  rcases ha with rfl|rfl|rfl<;>omega
 ·rw[show(i.op==19)=false by simpa using h,cond_false]at ha
  simp only[JT]at ha
  split at ha
  ·simp at ha;subst ha;omega
  ·split at ha
   ·simp at ha;subst ha;omega
   ·split at ha
    ·simp at ha;subst ha;omega
    ·split at ha
     ·simp at ha;subst ha;omega
     ·split at ha
      ·simp at ha;subst ha;omega
      ·split at ha
       ·simp at ha;subst ha;omega
       ·split at ha
        ·simp at ha;subst ha;omega
        ·simp at ha;rcases ha with rfl|rfl<;>omega
theorem WW (i:Ins){n:Nat}(hi:InOk i n){r:Int}(h0:0<=r)(h1:r<65536):(0<=WX i r/\WX i r<65536)/\qX (WX i r)=bif i.op==3 then qX r else sB (qX r) i.a false:=by
 unfold WX
 cases i.op==3 with
 |true=>exact⟨⟨h0,h1⟩,rfl⟩
 |false=>exact QB h0 h1 hi.a.1 hi.a.2
theorem WT (i:Ins){n:Nat}(hi:InOk i n){r:Int}(h0:0<=r)(h1:r<65536):(0<=cO i r/\cO i r<65536)/\qX (cO i r)=nF i (qX r):=by
 have h:=WW i hi h0 h1
 have hr:∀a∈VF i,0<=a/\a<16:=by
  intro a ha
  unfold VF at ha
  cases h1:i.op==1 with
  |true=>rw[h1]at ha;cases ha
  |false=>
   cases h2:i.op==2 with
   |true=>rw[h1,h2]at ha;cases ha
   |false=>rw[h1,h2]at ha;exact Zj i hi a ha
 have hf:=iw (VF i) (WX i r) hr h.1.1 h.1.2
 refine⟨hf.1,hf.2.trans ?_⟩
 rw[h.2]
 have ho:=hi.op
 obtain⟨op,a,b,c,k⟩:=i
 simp only at*
 generalize qX r=R
 have hs:op=1\/op=2\/op=3\/op=4\/op=5\/op=6\/op=7\/op=8\/op=9\/op=10\/op=11\/op=12\/op=13\/op=14\/op=15\/op=16\/op=17\/op=18\/op=19\/op=20\/op=21\/op=22:=zA
 rcases hs with rfl|rfl|rfl|rfl|rfl|rfl|rfl|rfl|rfl|rfl|rfl|rfl|rfl|rfl|rfl|rfl|rfl|rfl|rfl|rfl|rfl|rfl<;>rfl
theorem dX {n m:Nat}{b b' c c':Bk}{r:Mem}(k:Nat):Mem.get ((n,b)::(m,c)::(n,b')::(m,c')::r) k=Mem.get ((n,b)::(m,c)::r) k:=by
 simp only[zE]
 by_cases h1:k=n
 ·simp[h1]
 ·by_cases h2:k=m<;>simp[h1,h2]
theorem xZ {n m:Nat}{b b' c c':Bk}{r M:Mem}(h:Sub ((n,b)::(m,c)::r) M):Sub ((n,b)::(m,c)::(n,b')::(m,c')::r) M:=fun k x hk=>h k x (by rw[<-dX (b':=b') (c':=c')];exact hk)
theorem l9 {n m:Nat}{b b' c c':Bk}{r:Mem}(h:ClM ((n,b)::(m,c)::r)):ClM ((n,b)::(m,c)::(n,b')::(m,c')::r):=fun β β' hag k x hk=>
 h β β' (fun k hn=>hag k (by rw[dX];exact hn)) k x (by rw[<-dX (b':=b') (c':=c')];exact hk)
def Mk (i:Ins)(Z:List Bool):List Bool:=bif i.op==3 then sB Z i.k false else Z
theorem qw {Z:List Bool}{n:Int}{b:Bool}:(Z.map bC).set n.toNat (bC b)=(sB Z n b).map bC:=by unfold sB;rw[Jy]
@[reducible] def dS (i:Ins):List Cv:=[.v (iv i.op),.v (iv i.a),.v (iv i.b),.v (iv i.c),.v (iv i.k)]
theorem dF (i:Ins)(r:Int)(Z:List Bool)(hi:InOk i Z.length)(h0:0<=r)(h1:r<65536)(hZ:Z.length<=1000):
  CallOk HT 31 [.c (.p 1 0),z3 i.w] [jF r Z.length false,et Z false] (.tup []) [jF (cO i r) Z.length false,et (qY i Z) false]:=by
 rw[yx]
 have hM:ClM [jF r Z.length false,et Z false]:=zD (by simp only[Kw,z6 (yf _)];rfl)
 have hM2:ClM ([jF (cO i r) Z.length false,et (qY i Z) false]++[jF r Z.length false,et Z false]):=zD (by simp only[JF,JG,Kw,z6 (yf _)];rfl)
 have hlen:(Z.map bC).length=Z.length:=Kv _
 have hn1:(Mk i Z).length=Z.length:=by unfold Mk;cases i.op==3<;>simp[yM]
 have hk2:=hi.k23
 have hk22:=hi.k22
 have ha:=hi.a
 have hrg:=Zj i hi
 have hMx:∀(q:Int) (Y:List Bool),ClM [jF q Z.length false,et Y false]:=fun _ _=>zD (by simp only[Kw,z6 (yf _)];rfl)
 refine kN 100 func31 Ok ntmps31 fun C hR hP=>?_
 by_cases h3:i.op=3
 ·obtain⟨op,a,b,c,k⟩:=i
  simp only at*
  subst h3
  obtain⟨k0,k1⟩:=hk2 (.inr rfl)
  refine vv ?_
  refine Sm.dgW [2] 110 6 zi ?_
  simp only[go_sem,hlen,qw]
  refine⟨⟨k0,k1⟩,zA,?_⟩
  refine CallQ.ren [(1,120)] 130 (eT ⟨3,a,b,c,k⟩ z9) ClM.nil rfl rfl trivial rfl (.inl rfl) ?_
  have hL3:mq ⟨3,a,b,c,k⟩=[a]:=rfl
  rw[hL3]
  simp only[go_sem,Ky,Kz,JQ,J9]
  refine zf 2 (zB 140 ?_)
  simp only[go_sem,Je]
  refine Sm.dgW [1] 150 6 zi (vv ?_)
  refine DOpQ.look (nx':=150) (sc:=True) (v:=V.c (Cv.v (.int .u16 r))) [jF r Z.length false] 150 xz trivial ⟨rfl,trivial⟩ rfl (vv ?_)
  refine⟨ha.1,?_⟩
  have hb:cO ⟨3,a,b,c,k⟩ r=bits .or .u16 r (IntKind.u16.wrap (1*2^min a.toNat 16)):=rfl
  have hz:qY ⟨3,a,b,c,k⟩ Z=sB Z k false:=rfl
  rw[hb,hz]at hR
  exact vL hR (zN hR rfl trivial rfl (xZ (SubS.sub ⟨oS,oS,trivial⟩)) (l9 (hMx _ _)) (zG rfl))
 have e3:(i.op==3)=false:=by simpa using h3
 by_cases h12:i.op=1\/i.op=2
 ·obtain⟨op,a,b,c,k⟩:=i
  simp only at*
  simp only[go_sem,e3]
  refine Sm.dgW [1] 110 7 zi ?_
  simp only[go_sem,hlen]
  refine DOpQ.look (nx':=110) (sc:=True) (v:=V.c (Cv.v (.int .u16 r))) [jF r Z.length false] 110 xz trivial ⟨rfl,trivial⟩ rfl (vv ?_)
  refine⟨ha.1,?_⟩
  refine CallQ.pure 120 (XB ⟨op,a,b,c,k⟩ h12) rfl (vv ?_)
  refine zf 1 (zB 140 ?_)
  rcases h12 with rfl|rfl
  ·simp only[go_sem]
   have hb:cO ⟨1,a,b,c,k⟩ r=bits .andNot .u16 r (IntKind.u16.wrap (1*2^min a.toNat 16)):=rfl
   have hz:qY ⟨1,a,b,c,k⟩ Z=Z:=rfl
   rw[hb,hz]at hR
   exact vL hR (zN hR rfl trivial rfl (xZ (SubS.sub ⟨oS,oS,trivial⟩)) (l9 (hMx _ _)) (zG rfl))
  ·simp only[go_sem]
   refine Sm.dgW [2] 150 6 zi ?_
   simp only[go_sem,hlen,qw]
   have hk:=hk2 (.inl rfl)
   refine⟨hk,zA,?_⟩
   have hb:cO ⟨2,a,b,c,k⟩ r=bits .andNot .u16 r (IntKind.u16.wrap (1*2^min a.toNat 16)):=rfl
   have hz:qY ⟨2,a,b,c,k⟩ Z=sB Z k true:=rfl
   rw[hb,hz]at hR
   exact vL hR (zN hR rfl trivial rfl (xZ (SubS.sub ⟨oS,oS,trivial⟩)) (l9 (hMx _ _)) (zG rfl))
 have e1:(i.op==1)=false:=by simp only[not_or]at h12;simpa using h12.1
 have e2:(i.op==2)=false:=by simp only[not_or]at h12;simpa using h12.2
 have hb:cO i r=(mq i).foldl cr (W8 r i.a):=by unfold cO VF WX;rw[e1,e2,e3];rfl
 have hreg:=eT i h12
 rw[yx]at hreg
 simp only[go_sem,e3]
 refine Sm.dgW [1] 110 7 zi ?_
 simp only[go_sem,hlen]
 refine DOpQ.look (nx':=110) (sc:=True) (v:=V.c (Cv.v (.int .u16 r))) [jF r Z.length false] 110 xz trivial ⟨rfl,trivial⟩ rfl (vv ?_)
 refine⟨ha.1,?_⟩
 refine CallQ.ren [(1,120)] 130 hreg ClM.nil rfl rfl trivial rfl (.inl rfl) ?_
 generalize hL:mq i=L at*
 have hll:(L.map iC).length=L.length:=Kv _
 have hL3:L.length<=3:=by
  rw[<-hL];unfold mq
  simp only[JT]
  repeat' split
  all_goals simp
 have hLc:∀j (h:j<L.length),(L.map iC)[j]?=some (iC L[j]):=fun j h=>by simp[h]
 simp only[Mem.ren,Ky,Kz,yD (zq _),V.ren,Cv.ren,rn,Nat.reduceBEq,cond_true,cond_false]
 refine vv ?_
 refine zK (M0:=[jF r Z.length false,et Z false]) (α:={j:Nat//j<=L.length}) hP (fun j=>[(0,true,.c (.p 1 0)),(3,true,.c (.p 5 0)),(27,true,.c (.sl 6 0 L.length 1)),(28,true,I L.length),(29,true,I j.val)])
  (fun j=>[jF ((L.take j.val).foldl cr (W8 r i.a)) Z.length false,et Z false,(5,⟨false,dS i,42⟩),(6,⟨false,L.map iC,3⟩)]) (fun j=>L.length-j.val) ⟨0,zA⟩ (fun _=>zD (by simp only[Kw,z6 (yf _),z6 (zq _)];rfl)) (fun _=>zO rfl) [(1,1),(2,2),(5,100),(6,120)] ?_ ?_
 ·exact zh
 rintro⟨j,hj⟩ J hJ
 simp only at hJ hj⊢
 refine zB 150 (vv ?_)
 refine zV (fun hc=>?_) (fun hc=>?_)
 ·have hc:=zH hc
  have hov:=hLc j hc
  have hra:=hrg _ (JH hc)
  have hwj:IntKind.i64.wrap ((j:Int)+1)=((j+1:Nat):Int):=wS zA
  have hst:(L.take (j+1)).foldl cr (W8 r i.a)=bits .or .u16 ((L.take j).foldl cr (W8 r i.a)) (IntKind.u16.wrap (1*2^min L[j].toNat 16)):=by
   rw[JR hc,List.foldl_append];rfl
  generalize (L.take j).foldl cr (W8 r i.a)=q at*
  simp only[go_sem,hov,hll,Int.toNat_natCast]
  refine⟨⟨zA,zA⟩,?_⟩
  refine Sm.dgW [1] 160 6 zi (vv ?_)
  refine DOpQ.look (nx':=160) (sc:=True) (v:=V.c (Cv.v (.int .u16 q))) [jF q Z.length false] 160 xz trivial ⟨rfl,trivial⟩ rfl ?_
  simp only[go_sem,hwj]
  rw[<-hst]
  exact⟨hra.1,hJ _ _ ⟨j+1,hc⟩ [(1,1),(2,2),(5,5),(6,6)] yL zh⟩
 ·have hc:=zI hj hc
  subst hc
  rw[JY,<-hb]at*
  clear hJ
  by_cases h22:i.op=22
  ·obtain⟨k0,k1⟩:=hk22 h22
   have e22:(i.op==22)=true:=by simpa using h22
   have w1:IntKind.i64.wrap (i.k.tdiv 32)=i.k/32:=by rw[IL k0];exact y6 zA zA
   have w2:IntKind.i64.wrap (i.k/32+1)=i.k/32+1:=y6 zA zA
   simp only[go_sem,e2,e22]
   refine Sm.dgW [2] 160 17 zi ?_
   simp only[go_sem,hlen,w1,w2,qw,Kv,yM]
   refine⟨⟨zA,zA⟩,zA,⟨zA,zA⟩,zA,?_⟩
   have hz:qY i Z=sB (sB Z (i.k/32) true) (i.k/32+1) true:=by unfold qY;rw[e3,e2,e22];rfl
   rw[hz]at hR
   exact vL hR (zN hR rfl trivial rfl (xZ (SubS.sub ⟨oS,oS,trivial⟩)) (l9 (hMx _ _)) (zG rfl))
  have e22:(i.op==22)=false:=by simpa using h22
  simp only[go_sem,e2,e22]
  have hz:qY i Z=Z:=by unfold qY;rw[e3,e2,e22];rfl
  rw[hz]at hR
  exact vL hR (zN hR rfl trivial rfl (xZ (SubS.sub ⟨oS,oS,trivial⟩)) (l9 (hMx _ _)) (zG rfl))
def Xe (x:Int):List Int->Int->Int
 |[],_=> -1
 |y::t,j=>bif x==y then j else Xe x t (j+1)
theorem io (x:Int):∀(l:List Int) (j:Int),0<=j->decide (0<=Xe x l j)=l.contains x
 |[],j,_=>rfl
 |y::t,j,h=>by
  unfold Xe
  rw[J0]
  cases x==y with
  |true=>rw[cond_true,Bool.true_or];exact decide_eq_true h
  |false=>rw[cond_false,Ip];exact io x t (j+1) zA
theorem Vv {H:Hp}(s:Sv)(l:List Int)(hs:SlH H (vsl s l.length) 1 (zP l))(hl:l.length<=1000000)(x:Int):CallH H HT 83 [.c (.v (vsl s l.length)),I x] (I (Xe x l 0)):=by
 obtain⟨R,hRd⟩:∃R,R=Xe x l 0:=⟨_,rfl⟩
 rw[<-hRd]
 refine kH func83 OH ntmps83 fun C hR hP hH hL=>?_
 have hR:=hR C hL
 refine Sm.bringI (l:=l) 10 3 0 (hs.mono hH) rfl rfl (zB 100 ?_)
 refine vv ?_
 refine zK (M0:=[]) (α:={i:Nat//i<=l.length/\R=Xe x (l.drop i) i}) hP (fun i=>[(0,true,.c (.sl 10 0 l.length 1)),(1,true,I x),(7,true,I l.length),(8,true,I i.val)])
  (fun _=>[(10,⟨true,l.map iC,3⟩)]) (fun i=>l.length-i.val) ⟨0,zA,hRd⟩ (fun _=>zD (by simp only[Kw,z6 (zq _)];rfl)) (fun _=>zO rfl) [(10,10)] ?_ ?_
 ·exact zh
 rintro⟨i,hi,hd⟩ J hj
 simp only at hj hi hd⊢
 refine zB 120 (vv ?_)
 refine zV (fun hc=>?_) (fun hc=>?_)
 ·have hc:=zH hc
  have hov:(l.map iC)[i]?=some (iC l[i]):=by simp[hc]
  have hwi:IntKind.i64.wrap ((i:Int)+1)=((i+1:Nat):Int):=wS zA
  rw[JC hc,Xe]at hd
  generalize l[i]=z at*
  simp only[go_sem,hov,hwi,Int.toNat_natCast]
  refine⟨⟨zA,zA⟩,?_⟩
  refine zV (fun hz=>?_) (fun hz=>?_)
  ·exact zN hR rfl yI (by rw[hd,hz];rfl) (Sub.nil _) ClM.nil (zG rfl)
  ·exact hj _ _ ⟨i+1,hc,by rw[hd,hz];rfl⟩ [(10,10)] yL zh
 ·have hc:=zI hi hc
  subst hc
  exact zN hR rfl yI (by rw[hd,JI];rfl) (Sub.nil _) ClM.nil (zG rfl)
theorem WM {H:Hp}(s:Sv)(l:List Int)(hs:SlH H (vsl s l.length) 1 (zP l))(hl:l.length<=1000000)(x:Int):CallH H HT 32 [.c (.v (vsl s l.length)),I x] (Bo (l.contains x)):=by
 refine kH func32 Oj ntmps32 fun C hR hP hH hL=>?_
 have hR:=hR C hL
 refine zB 100 (vv ?_)
 refine zM 120 (Vv s l hs hl x) hH rfl (vv ?_)
 exact zN hR rfl yI (by rw[<-io x l 0 zA];rfl) (Sub.nil _) ClM.nil (zG rfl)
theorem Rw (l:List Bool)(hl:l.length<=1000000):CallOk HT 28 [.c (.sl 1 0 l.length 1)] [(1,⟨true,l.map bC,4⟩)] (.c (.sl 2 0 l.length 1)) [(2,⟨false,l.map bC,4⟩)]:=by
 have htk:List.take l.length (List.map bC l)=List.map bC l:=JJ z9
 have hon:(l.map bC).all Cv.one=true:=JD.2 fun c hc=>by obtain⟨n,_,rfl⟩:=JL.1 hc;rfl
 refine kN 100 func28 On ntmps28 fun C hR hP=>?_
 refine vv ?_
 refine x8 rfl rfl rfl rfl rfl rfl (fun h0=>?_) ?_
 ·have h0:l=[]:=JX.1 h0
  subst h0
  refine zB 100 (vv ?_)
  refine yq 110 1 4 [2] [] rfl (vv ?_)
  exact RetQ.ren [(1,1),(2,110)] hR hP rfl ⟨rfl,trivial⟩ rfl rfl ⟨⟨rfl,rfl⟩,trivial⟩ ⟨oR,oR,trivial⟩ (zD rfl) (zG rfl)
 ·refine zB 100 ?_
  simp only[go_sem,htk]
  exact⟨⟨⟨z9,hon⟩,zA,zA⟩,RetQ.ren [(1,1),(2,101)] hR hP rfl ⟨rfl,trivial⟩ rfl rfl ⟨⟨rfl,rfl⟩,trivial⟩ ⟨oV (yD (yf _)),oV (yD (yf _)),trivial⟩ (zD (by simp only[JF,JG,Kw,z6 (yf _)];rfl)) (zG rfl)⟩
theorem Rz {H:Hp}(s:Sv)(n:Nat):CallX H HT 29 [.c (.v (vsl s n))] [] (fun pv:Value=>Fv 81 #[pv]) (fun _=>[]) (fun pv H'=>PtH H' pv [vsl s n]):=by
 refine kX func29 Om ntmps29 fun C hR hP hH hL=>?_
 refine zB 100 (vv ?_)
 refine RetQ.letgo [100] hL hP rfl rfl (fun β Cn l1 l2 l3=>?_)
 have hpt:=(l3 100 _ rfl rfl rfl).pt z9
 exact yN (hR (xl β 100 0) Cn l1 hpt) ClM.nil
def qL (l:List Int):Nat->List Int
 |0=>l
 |k+1=>((qL l k).set k ((qL l k).getD (l.length-1-k) 0)).set (l.length-1-k) ((qL l k).getD k 0)
theorem tr (l:List Int):∀k,(qL l k).length=l.length
 |0=>rfl
 |k+1=>by simp[qL,tr l k]
theorem jt (l:List Int):∀k,k+k<=l.length->∀m,m<l.length->(qL l k).getD m 0=bif decide (m<k\/l.length<=m+k)then l.getD (l.length-1-m) 0 else l.getD m 0
 |0,_,m,hm=>by
  rw[show decide (m<0\/l.length<=m+0)=false from decide_eq_false zA];rfl
 |k+1,h,m,hm=>by
  have ih:=jt l k zA
  have hl:=tr l k
  rw[qL,Kx,IJ,IJ]
  by_cases h1:l.length-1-k=m
  ·rw[if_pos h1,if_pos (by rw[J8,hl];omega),Option.getD_some,ih k zA,show decide (k<k\/l.length<=k+k)=false from decide_eq_false zA,show decide (m<k+1\/l.length<=m+(k+1))=true from decide_eq_true zA]
   rw[cond_false,cond_true,show l.length-1-m=k by omega]
  ·rw[if_neg h1]
   by_cases h2:k=m
   ·rw[if_pos h2,if_pos (by rw[hl];omega),Option.getD_some,ih _ zA,show decide (l.length-1-k<k\/l.length<=l.length-1-k+k)=false from decide_eq_false zA,show decide (m<k+1\/l.length<=m+(k+1))=true from decide_eq_true zA]
    rw[cond_false,cond_true,h2]
   ·rw[if_neg h2,<-Kx,ih m hm]
    congr 1
    rw[JP,decide_eq_true_eq,decide_eq_true_eq]
    omega
theorem bO (l:List Int){k:Nat}(h:k+k<=l.length)(h2:l.length<=k+k+1):qL l k=l.reverse:=by
 refine List.ext_getElem (by rw[tr,HL]) fun m h1 h3=>?_
 have hm:m<l.length:=by rw[tr]at h1;exact h1
 have:=jt l k h m hm
 rw[Kx,JA h1,Option.getD_some]at this
 rw[this,List.getElem_reverse]
 by_cases hd:m<k\/l.length<=m+k
 ·rw[show decide (m<k\/l.length<=m+k)=true from decide_eq_true hd,cond_true,Kx,JA zA,Option.getD_some]
 ·rw[show decide (m<k\/l.length<=m+k)=false from decide_eq_false hd,cond_false,Kx,JA zA,Option.getD_some]
  congr 1
  omega
theorem VG (l:List Int)(hl:l.length<=1000000):CallOk HT 33 [.c (.sl 1 0 l.length 1)] [(1,⟨false,l.map iC,3⟩)] (.tup []) [(1,⟨false,l.reverse.map iC,3⟩)]:=by
 refine kN 100 func33 Oi ntmps33 fun C hR hP=>?_
 refine vv ?_
 have w0:IntKind.i64.wrap ((l.length:Int)-1)=(l.length:Int)-1-((0:Nat):Int):=by rw[y6 zA zA];omega
 rw[w0]
 refine zK (M0:=[(1,⟨false,l.map iC,3⟩)]) (α:={k:Nat//k=0\/k+k<=l.length}) hP (fun k=>[(0,true,.c (.sl 1 0 l.length 1)),(2,true,I k.val),(3,true,I ((l.length:Int)-1-(k.val:Int)))])
  (fun k=>[(1,⟨false,(qL l k.val).map iC,3⟩)]) (fun k=>l.length-k.val) ⟨0,.inl rfl⟩ (fun _=>zD (by simp only[Kw,z6 (zq _)];rfl)) (fun _=>zO rfl) [(1,1)] ?_ ?_
 ·exact zh
 rintro⟨k,hk⟩ J hj
 simp only at hj hk⊢
 refine zB 120 (vv ?_)
 have hsl:=tr l k
 have hml:((qL l k).map iC).length=l.length:=by rw[Kv,hsl]
 refine zV (fun hc=>?_) (fun hc=>?_)
 ·have hc:=of_decide_eq_true hc
  have e0:(l.length:Int)-1-(k:Int)=((l.length-1-k:Nat):Int):=zA
  have g1:((qL l k).map iC)[k]?=some (iC ((qL l k).getD k 0)):=by rw[JO,JA zA,Kx,JA zA];rfl
  have g2:((qL l k).map iC)[l.length-1-k]?=some (iC ((qL l k).getD (l.length-1-k) 0)):=by rw[JO,JA zA,Kx,JA zA];rfl
  have hs:(((qL l k).map iC).set k (iC ((qL l k).getD (l.length-1-k) 0))).set (l.length-1-k) (iC ((qL l k).getD k 0))=(qL l (k+1)).map iC:=by rw[qL,<-Jy,<-Jy]
  rw[e0]
  refine Sm.dgW [1] 130 14 zi ?_
  simp only[go_sem,hml,Int.toNat_natCast]
  refine⟨⟨zA,zA⟩,?_⟩
  refine DOpQ.look (nx':=130) (sc:=True) (v:=V.c (iC ((qL l k).getD (l.length-1-k) 0))) [(1,⟨false,(qL l k).map iC,3⟩)] 130 (by simp only[go_sem,g2]<;>rfl) trivial ⟨rfl,trivial⟩ rfl ?_
  simp only[go_sem,hml,Int.toNat_natCast]
  refine⟨⟨zA,zA⟩,?_⟩
  refine DOpQ.look (nx':=130) (sc:=True) (v:=V.c (iC ((qL l k).getD k 0))) [(1,⟨false,(qL l k).map iC,3⟩)] 130 (by simp only[go_sem,g1]<;>rfl) trivial ⟨rfl,trivial⟩ rfl ?_
  have w1:IntKind.i64.wrap (((l.length-1-k:Nat):Int)-1)=(l.length:Int)-1-((k+1:Nat):Int):=by rw[y6 zA zA];omega
  simp only[go_sem,hml,Int.toNat_natCast,J8,hs,w1,yu (i:=k)]
  exact⟨⟨zA,zA⟩,zA,⟨zA,zA⟩,zA,hj _ _ ⟨k+1,.inr zA⟩ [(1,1)] yL zh⟩
 ·have hc:=of_decide_eq_false hc
  have hr:qL l k=l.reverse:=bO l zA zA
  rw[hr]
  exact vL hR (zN hR rfl trivial rfl (vQ (SubS.sub ⟨oS,trivial⟩)) (v5 (zD (by simp only[Kw,z6 (zq _)];rfl))) (zG rfl))
end Go.Proofs.YtbnkiacicnnmkaaGreat.Fx
