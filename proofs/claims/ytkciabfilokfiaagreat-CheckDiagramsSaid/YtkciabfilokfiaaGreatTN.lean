/-  -/
import Derived.Test.YtkciabfilokfiaaGreatXI2
import Derived.Test.YtkciabfilokfiaaGreatTL
open Go.Proofs.Tryz
open Go.Proofs.Tryz renaming prog→Hf
set_option linter.unusedSimpArgs false
set_option linter.unusedVariables false
set_option maxRecDepth 100000
set_option maxHeartbeats 4000000
namespace Go.Proofs.YtkciabfilokfiaaGreat.Fx
open Vg Tf
structure NrSt (t:Ft) (X Y:Int) where
 lo:Int
 hi:Int
 h1:lo<=hi
 h2: -2147483648<=lo
 h3:hi<=4294967295
 hr:min (max (rnd 3 X Y) lo) hi=min (max (rnd 3 X Y) (tC t)) (th t)
@[reducible] def L4 (lo hi:Int):Env:=[(9,true,I lo),(10,true,I hi),(8,true,.c (.p 8 0)),(11,true,.c (.p 9 0))]
@[reducible] def L3 (p q Y B:Int)(l1 l2:List Nat):Mem:=[(8,⟨false,[.v (.bool (decide (Y<0))),.sl 10 0 (dg Y.natAbs).length 1],249⟩),(9,⟨false,[.v (.bool (decide (B<0))),.sl 11 0 (dg B.natAbs).length 1],249⟩),bO 10 Y l1,bO 11 B l2,bI 1 p,bI 2 q]
theorem Yh (n:Int):(decide ((if n=0 then 0 else if n<0 then-1 else 1:Int)<=0))=decide (n<=0):=by
 rw[decide_eq_decide]
 split
 ·omega
 ·split<;>omega
theorem qS (t:Ft)(p q:Int)(h:yE t=true)(hn1: -20282419275553370000000000000000<=p)(hn2:p<=20282419275553370000000000000000)(hd1:1<=q)(hd2:q<=4722367608777000000000):
  CallOk Hf 227 [fx t,bn 1 p,bn 2 q] [bI 1 p,bI 2 q] (I (qs t p q)) []:=by
 have hf:=xC h
 have hl:=rZ t h
 have b1:=xT (a:=p) (b:=t.den) (A:=20282419275553370000000000000000) (B:=1048576) zA zA zA zA
 have b2:=xT (a:=q) (b:=t.off) (A:=4722367608777000000000) (B:=1073741824) zA zA zA zA
 have b3:=xT (a:=q) (b:=t.num) (A:=4722367608777000000000) (B:=1048576) zA zA zA zA
 have hY:0<q*t.num:=Int.mul_pos zA zA
 obtain⟨l1,m1⟩:=ur p t.den (xF zA zA) (xF zA zA)
 obtain⟨l2,m2⟩:=ur q t.off (xF zA zA) (xF zA zA)
 obtain⟨l3,m3⟩:=ur q t.num (xF zA zA) (xF zA zA)
 have hX:p*t.den+ -(q*t.off)=p*t.den-t.off*q:=by rw[IZ q];omega
 obtain⟨l4,m4⟩:=ns (p*t.den) (-(q*t.off)) (xF zA zA) (xF zA zA)
 obtain⟨l5,m5⟩:=ur 2 (p*t.den+ -(q*t.off)) (xF zA zA) (xF zA zA)
 obtain⟨l6,m6⟩:=ns (2*(p*t.den+ -(q*t.off))) (q*t.num) (xF zA zA) (xF zA zA)
 obtain⟨l7,m7⟩:=ur 2 (q*t.num) (xF zA zA) (xF zA zA)
 unfold qs
 rw[<-hX]
 generalize p*t.den=pd at*
 generalize q*t.off=qo at*
 generalize q*t.num=Y at*
 generalize hXX:pd+ -qo=X at*
 generalize hBB:2*X+Y=B at*
 refine kN 100 func227 SS ntmps227 fun C hR hP=>?_
 refine vv ?_
 refine Sm.dg 140 13 ze (vv ?_)
 refine DCallQ.ren [(1,110)] 140 (kh t.den zA zA) (zC (by simp[Cv.inM])) rfl rfl trivial rfl (.inl rfl) rfl rfl ?_
 simp only[Mem.ren,Kv,Kx,Bk.ren,JJ,V.ren,W.ren,Cv.ren,rn,Nat.reduceBEq,cond_true,cond_false,Function.comp_def]
 refine vv ?_
 refine yp [(1,1),(2,110),(3,111)] [bO 110 t.den []] 140 (mz [] m1) (zC (by simp[Cv.inM])) rfl rfl ⟨⟨_,rfl,.inl (zJ _ _ _ _)⟩,⟨_,rfl,.inl (zJ _ _ _ _)⟩,trivial⟩ rfl (.inl rfl) ⟨⟨rfl,rfl⟩,trivial⟩ rfl rfl ?_
 simp only[Mem.ren,Kv,Kx,Bk.ren,JJ,V.ren,W.ren,Cv.ren,rn,Nat.reduceBEq,cond_true,cond_false,Function.comp_def]
 refine vv ?_
 refine DCallQ.ren [(1,112)] 140 (kh t.off zA zA) (zC (by simp[Cv.inM])) rfl rfl trivial rfl (.inl rfl) rfl rfl ?_
 simp only[Mem.ren,Kv,Kx,Bk.ren,JJ,V.ren,W.ren,Cv.ren,rn,Nat.reduceBEq,cond_true,cond_false,Function.comp_def]
 refine vv ?_
 refine yp [(1,2),(2,112),(3,113)] [bO 112 t.off []] 140 (mz [] m2) (zC (by simp[Cv.inM])) rfl rfl ⟨⟨_,rfl,.inl (zJ _ _ _ _)⟩,⟨_,rfl,.inl (zJ _ _ _ _)⟩,trivial⟩ rfl (.inl rfl) ⟨⟨rfl,rfl⟩,trivial⟩ rfl rfl ?_
 simp only[Mem.ren,Kv,Kx,Bk.ren,JJ,V.ren,W.ren,Cv.ren,rn,Nat.reduceBEq,cond_true,cond_false,Function.comp_def]
 refine vv ?_
 refine yp [(1,113)] [bO 113 qo l2] 140 (cK l2 (tK qo)) (zC (by simp[Cv.inM])) rfl rfl ⟨⟨_,rfl,.inl (zJ _ _ _ _)⟩,trivial⟩ rfl (.inl rfl) ⟨⟨rfl,rfl⟩,trivial⟩ rfl rfl ?_
 simp only[Mem.ren,Kv,Kx,Bk.ren,JJ,V.ren,W.ren,Cv.ren,rn,Nat.reduceBEq,cond_true,cond_false,Function.comp_def]
 refine vv ?_
 refine yp [(1,111),(2,113),(3,114)] [bO 111 pd l1,bO 113 qo l2] 140 (pf l1 l2 m4) (zC (by simp[Cv.inM])) rfl rfl ⟨⟨_,rfl,.inl (zJ _ _ _ _)⟩,⟨_,rfl,.inl (by rw[zJ,HT])⟩,trivial⟩ rfl (.inl rfl) ⟨⟨rfl,rfl⟩,⟨rfl,rfl⟩,trivial⟩ rfl rfl ?_
 simp only[Mem.ren,Kv,Kx,Bk.ren,JJ,V.ren,W.ren,Cv.ren,rn,Nat.reduceBEq,cond_true,cond_false,Function.comp_def]
 refine vv ?_
 refine Sm.dg 150 6 ze (vv ?_)
 refine DCallQ.ren [(1,120)] 150 (kh t.num zA zA) (zC (by simp[Cv.inM])) rfl rfl trivial rfl (.inl rfl) rfl rfl ?_
 simp only[Mem.ren,Kv,Kx,Bk.ren,JJ,V.ren,W.ren,Cv.ren,rn,Nat.reduceBEq,cond_true,cond_false,Function.comp_def]
 refine vv ?_
 refine yp [(1,2),(2,120),(3,121)] [bO 120 t.num []] 150 (mz [] m3) (zC (by simp[Cv.inM])) rfl rfl ⟨⟨_,rfl,.inl (zJ _ _ _ _)⟩,⟨_,rfl,.inl (zJ _ _ _ _)⟩,trivial⟩ rfl (.inl rfl) ⟨⟨rfl,rfl⟩,trivial⟩ rfl rfl ?_
 simp only[Mem.ren,Kv,Kx,Bk.ren,JJ,V.ren,W.ren,Cv.ren,rn,Nat.reduceBEq,cond_true,cond_false,Function.comp_def]
 refine vv ?_
 refine CallQ.pure 160 (yc t h) rfl (vv ?_)
 refine Sm.dg 160 6 ze (vv ?_)
 refine DCallQ.ren [(1,130)] 160 (kh 2 zA zA) (zC (by simp[Cv.inM])) rfl rfl trivial rfl (.inl rfl) rfl rfl ?_
 simp only[Mem.ren,Kv,Kx,Bk.ren,JJ,V.ren,W.ren,Cv.ren,rn,Nat.reduceBEq,cond_true,cond_false,Function.comp_def]
 refine vv ?_
 refine yp [(1,130),(2,114),(3,131)] [bO 130 2 []] 160 (my [] m5) (zC (by simp[Cv.inM])) rfl rfl ⟨⟨_,rfl,.inl (zJ _ _ _ _)⟩,⟨_,rfl,xD _ _ _⟩,trivial⟩ rfl (.inl rfl) ⟨⟨rfl,rfl⟩,trivial⟩ rfl rfl ?_
 simp only[Mem.ren,Kv,Kx,Bk.ren,JJ,V.ren,W.ren,Cv.ren,rn,Nat.reduceBEq,cond_true,cond_false,Function.comp_def]
 refine vv ?_
 refine yp [(1,131),(2,121),(3,132)] [bO 131 (2*X) l5] 160 (my l5 m6) (zC (by simp[Cv.inM])) rfl rfl ⟨⟨_,rfl,.inl (zJ _ _ _ _)⟩,⟨_,rfl,xD _ _ _⟩,trivial⟩ rfl (.inl rfl) ⟨⟨rfl,rfl⟩,trivial⟩ rfl rfl ?_
 simp only[Mem.ren,Kv,Kx,Bk.ren,JJ,V.ren,W.ren,Cv.ren,rn,Nat.reduceBEq,cond_true,cond_false,Function.comp_def]
 refine vv ?_
 refine zG (M0:=[bI 1 p,bI 2 q]) (α:=NrSt t X Y) hP (fun x=>L4 x.lo x.hi) (fun _=>L3 p q Y B l3 l6) (fun x=>(x.hi-x.lo).toNat) ⟨tC t,th t,zA,zA,zA,rfl⟩
  (fun _=>zC (by simp[Cv.inM,Mem.get])) (fun _=>zO rfl) [(8,150),(9,160),(10,121),(11,132),(1,1),(2,2)] ?_ ?_
 ·exact⟨rfl,⟨⟨rfl,rfl⟩,⟨rfl,rfl⟩,trivial⟩,⟨rfl,rfl,rfl,rfl,trivial⟩,⟨oR,oR,.inr ⟨_,rfl,.inl (zJ _ _ _ _)⟩,.inr ⟨_,rfl,.inl (zJ _ _ _ _)⟩,.inr ⟨_,rfl,.inl (zJ _ _ _ _)⟩,.inr ⟨_,rfl,.inl (zJ _ _ _ _)⟩,trivial⟩⟩
 rintro⟨lo,hi,h1,h2,h3,hr⟩ J hb
 simp only at hb⊢
 refine zB 105 (vv ?_)
 by_cases hlt:lo<hi
 ·have e:decide (lo<hi)=true:=by simpa using hlt
  simp only[e]
  have k1:IntKind.i64.wrap (hi-lo)=hi-lo:=ya zA zA
  have k2:IntKind.i64.wrap (hi-lo+1)=hi-lo+1:=ya zA zA
  have k3:IntKind.i64.wrap ((hi-lo+1).tdiv 2)=(hi-lo+1)/2:=by rw[II zA,ya zA zA]
  have k4:IntKind.i64.wrap (lo+(hi-lo+1)/2)=lo+(hi-lo+1)/2:=ya zA zA
  simp only[k1,k2,k3,k4]
  generalize hmid:lo+(hi-lo+1)/2=mid
  have hm1:lo<mid:=zA
  have hm2:mid<=hi:=zA
  clear k1 k2 k3 k4
  have b4:=xT (a:=2*Y) (b:=mid) (A:=10000000000000000000000000000) (B:=8589934592) zA zA zA zA
  obtain⟨l8,m8⟩:=ur (2*Y) mid (xF zA zA) (xF zA zA)
  generalize hZ:2*Y*mid=Z at*
  obtain⟨l9,m9⟩:=ns Z (-B) (xF zA zA) (xF zA zA)
  refine Sm.dg 130 7 ze (vv ?_)
  refine DCallQ.ren [(1,120)] 130 (kh 2 zA zA) (zC (by simp[Cv.inM])) rfl rfl trivial rfl (.inl rfl) rfl rfl ?_
  simp only[Mem.ren,Kv,Kx,Bk.ren,JJ,V.ren,W.ren,Cv.ren,rn,Nat.reduceBEq,cond_true,cond_false,Function.comp_def]
  refine vv ?_
  refine yp [(1,120),(2,10),(3,121)] [bO 120 2 []] 130 (my [] m7) (zC (by simp[Cv.inM])) rfl rfl ⟨⟨_,rfl,.inl (zJ _ _ _ _)⟩,⟨_,rfl,xD _ _ _⟩,trivial⟩ rfl (.inl rfl) ⟨⟨rfl,rfl⟩,trivial⟩ rfl rfl ?_
  simp only[Mem.ren,Kv,Kx,Bk.ren,JJ,V.ren,W.ren,Cv.ren,rn,Nat.reduceBEq,cond_true,cond_false,Function.comp_def]
  refine vv ?_
  refine DCallQ.ren [(1,122)] 130 (kh mid zA zA) (zC (by simp[Cv.inM])) rfl rfl trivial rfl (.inl rfl) rfl rfl ?_
  simp only[Mem.ren,Kv,Kx,Bk.ren,JJ,V.ren,W.ren,Cv.ren,rn,Nat.reduceBEq,cond_true,cond_false,Function.comp_def]
  refine vv ?_
  refine yp [(1,121),(2,122),(3,123)] [bO 121 (2*Y) l7,bO 122 mid []] 130 (pf l7 [] m8) (zC (by simp[Cv.inM])) rfl rfl ⟨⟨_,rfl,.inl (zJ _ _ _ _)⟩,⟨_,rfl,.inl (zJ _ _ _ _)⟩,trivial⟩ rfl (.inl rfl) ⟨⟨rfl,rfl⟩,⟨rfl,rfl⟩,trivial⟩ rfl rfl ?_
  simp only[Mem.ren,Kv,Kx,Bk.ren,JJ,V.ren,W.ren,Cv.ren,rn,Nat.reduceBEq,cond_true,cond_false,Function.comp_def]
  refine vv ?_
  refine CallQ.ren [(1,11)] 130 (tK B) (zC (by simp[Cv.inM])) rfl rfl ⟨⟨_,rfl,xD _ _ _⟩,trivial⟩ rfl (.inl rfl) ?_
  simp only[Mem.ren,Kv,Kx,Bk.ren,JJ,V.ren,W.ren,Cv.ren,rn,Nat.reduceBEq,cond_true,cond_false,Function.comp_def]
  refine vv ?_
  refine CallQ.ren [(1,123),(2,11),(3,124)] 130 m9 (zC (by simp[Cv.inM])) rfl rfl ⟨⟨_,rfl,xD _ _ _⟩,⟨_,rfl,ge _ _ _⟩,trivial⟩ rfl (.inl rfl) ?_
  simp only[Mem.ren,Kv,Kx,Bk.ren,JJ,V.ren,W.ren,Cv.ren,rn,Nat.reduceBEq,cond_true,cond_false,Function.comp_def]
  refine vv ?_
  refine CallQ.ren [(1,124)] 130 (dx (Z+ -B)) (zC (by simp[Cv.inM])) rfl rfl ⟨⟨_,rfl,xD _ _ _⟩,trivial⟩ rfl (.inl rfl) ?_
  simp only[Mem.ren,Kv,Kx,Bk.ren,JJ,V.ren,W.ren,Cv.ren,rn,Nat.reduceBEq,cond_true,cond_false,Function.comp_def]
  refine vv ?_
  simp only[Yh]
  have hiff:=lV X Y mid hY
  have hZ2:Y*(2*mid-1)=Z-Y:=by rw[<-hZ];grind
  by_cases hc:Z+ -B<=0
  ·have e2:decide (Z+ -B<=0)=true:=by simpa using hc
   simp only[e2]
   have:=hiff.2 zA
   exact hb _ _ ⟨mid,hi,zA,zA,zA,zA⟩ [(8,8),(9,9),(10,10),(11,11),(1,1),(2,2)] yF ⟨rfl,⟨⟨rfl,rfl⟩,⟨rfl,rfl⟩,trivial⟩,⟨rfl,rfl,rfl,rfl,trivial⟩,⟨oR,oR,.inr ⟨_,rfl,.inl (zJ _ _ _ _)⟩,.inr ⟨_,rfl,.inl (zJ _ _ _ _)⟩,.inr ⟨_,rfl,.inl (zJ _ _ _ _)⟩,.inr ⟨_,rfl,.inl (zJ _ _ _ _)⟩,trivial⟩⟩
  ·have e2:decide (Z+ -B<=0)=false:=by simpa using hc
   simp only[e2]
   have:¬mid<=rnd 3 X Y:=fun hh=>by have:=hiff.1 hh;omega
   have k5:IntKind.i64.wrap (mid-1)=mid-1:=ya zA zA
   simp only[k5]
   exact hb _ _ ⟨lo,mid-1,zA,zA,zA,zA⟩ [(8,8),(9,9),(10,10),(11,11),(1,1),(2,2)] yF ⟨rfl,⟨⟨rfl,rfl⟩,⟨rfl,rfl⟩,trivial⟩,⟨rfl,rfl,rfl,rfl,trivial⟩,⟨oR,oR,.inr ⟨_,rfl,.inl (zJ _ _ _ _)⟩,.inr ⟨_,rfl,.inl (zJ _ _ _ _)⟩,.inr ⟨_,rfl,.inl (zJ _ _ _ _)⟩,.inr ⟨_,rfl,.inl (zJ _ _ _ _)⟩,trivial⟩⟩
 ·have e:decide (lo<hi)=false:=by simpa using hlt
  simp only[e]
  refine zX hR rfl (vv trivial) ?_ (SubS.sub ⟨oS,oS,trivial⟩) (zC (by simp[Cv.inM])) (zI rfl)
  refine vv ?_
  rw[show min (max (rnd 3 X Y) (tC t)) (th t)=lo by omega]
@[go_sem ↓] theorem MF:qk 5 1=[(0,1),(1,1),(2,1),(3,1),(4,1)]:=rfl
@[reducible] def l5 (r:Bool)(nm:Nat)(m kg s a k:Int):Nat×Bk:=(nm,⟨r,[ci m,ci kg,ci s,ci a,ci k],3⟩)
theorem ib (m kg s a k:Int):CallOk Hf 223 [un m kg s a k] [] (.c (.sl 1 0 5 1)) [l5 false 1 m kg s a k]:=by
 refine kN 100 func223 Xd ntmps223 fun C hR hP=>?_
 refine vv ?_
 exact RetQ.ren [(1,101)] hR hP rfl (vv trivial) rfl rfl trivial ⟨oR,trivial⟩ (zC rfl) (zI rfl)
theorem PQ (m kg s a k:Int):CallOk Hf 224 [.c (.sl 1 0 5 1)] [l5 true 1 m kg s a k] (un m kg s a k) []:=by
 refine kN 100 func224 SV ntmps224 fun C hR hP=>?_
 refine vv ?_
 refine Sm.dg 101 15 ze (vv ?_)
 exact zX hR rfl (vv trivial) rfl (Sub.one rfl (.inl rfl)) (zC rfl) (zI rfl)
theorem rS (m kg s a k:Int):CallOk Hf 178 [un m kg s a k] [] (Bo (vI m kg s a k)) []:=by
 refine kO 100 func178 Xh ntmps178 (by simp[ClV,V.g,Cv.g,un,ci]) fun C hR=>?_
 refine vv ?_
 refine CallQ.ren [(1,110)] 111 (ib m kg s a k) (zC rfl) rfl rfl trivial rfl (.inl rfl) ?_
 simp only[Mem.ren,Kv,Kx,Bk.ren,JJ,V.ren,W.ren,Cv.ren,rn,Nat.reduceBEq,cond_true,cond_false,Function.comp_def]
 refine vv ?_
 refine x6 6 (zB 120 ?_)
 refine vv ?_
 have key:∀(x:Int) (A B:Prop),(¬(-9<=x/\x<=9)->A)->((-9<=x/\x<=9)->B)->(match (bif decide (x< -9)then true else decide (9<x))with|true=>A|false=>B):=by
  intro x A B h1 h2
  by_cases hx: -9<=x/\x<=9
  ·have e1:decide (x< -9)=false:=by simp;omega
   have e2:decide (9<x)=false:=by simp;omega
   rw[e1,e2];exact h2 hx
  ·have:(bif decide (x< -9)then true else decide (9<x))=true:=by
    by_cases h3:x< -9
    ·simp[h3]
    ·simp[h3];omega
   rw[this];exact h1 hx
 refine key m _ _ (fun h=>RetQ.bool hR rfl ⟨rfl,trivial⟩ (by unfold vI;simp[h])) fun h0=>?_
 refine key kg _ _ (fun h=>RetQ.bool hR rfl ⟨rfl,trivial⟩ (by unfold vI;simp[h])) fun h1=>?_
 refine key s _ _ (fun h=>RetQ.bool hR rfl ⟨rfl,trivial⟩ (by unfold vI;simp[h])) fun h2=>?_
 refine key a _ _ (fun h=>RetQ.bool hR rfl ⟨rfl,trivial⟩ (by unfold vI;simp[h])) fun h3=>?_
 refine key k _ _ (fun h=>RetQ.bool hR rfl ⟨rfl,trivial⟩ (by unfold vI;simp[h])) fun h4=>?_
 exact RetQ.bool hR rfl ⟨rfl,trivial⟩ (by unfold vI;simp[h0,h1,h2,h3,h4])
theorem mA (t u:Ft)(s:Int)(hs:s=1\/s= -1)(h:vI t.m t.kg t.s t.a t.k=true)(hu:vI u.m u.kg u.s u.a u.k=true):
  CallOk Hf 185 [qV t,qV u,I s] [] (bif rB s t u then .tup [.agg [ci (t.m+s*u.m),ci (t.kg+s*u.kg),ci (t.s+s*u.s),ci (t.a+s*u.a),ci (t.k+s*u.k)],Wi 0]else .tup [.agg [ci 0,ci 0,ci 0,ci 0,ci 0],Wi 2]) []:=by
 have b1:=qU h
 have b2:=qU hu
 have hv:=rS t.m t.kg t.s t.a t.k
 rw[h]at hv
 have hv2:=rS u.m u.kg u.s u.a u.k
 rw[hu]at hv2
 have wr:∀x y:Int, -9<=x->x<=9-> -9<=y->y<=9->IntKind.i64.wrap (x+IntKind.i64.wrap (s*y))=x+s*y:=by
  intro x y h1 h2 h3 h4
  rcases hs with rfl|rfl
  ·rw[ya (x:=1*y) zA zA,ya zA zA]
  ·rw[ya (x:= -1*y) zA zA,ya zA zA]
 refine kO 100 func185 Sy ntmps185 (by simp[ClV,V.g,Cv.g,qV,ci]) fun C hR=>?_
 refine vv ?_
 refine CallQ.pure 104 hv rfl (vv ?_)
 refine CallQ.pure 104 hv2 rfl (vv ?_)
 refine Sm.dg 112 3 ze (vv ?_)
 refine DCallQ.ren [(1,110)] 112 (ib t.m t.kg t.s t.a t.k) (zC rfl) rfl rfl trivial rfl (.inl rfl) rfl rfl ?_
 simp only[Mem.ren,Kv,Kx,Bk.ren,JJ,V.ren,W.ren,Cv.ren,rn,Nat.reduceBEq,cond_true,cond_false,Function.comp_def]
 refine vv ?_
 refine CallQ.ren [(1,111)] 112 (ib u.m u.kg u.s u.a u.k) (zC rfl) rfl rfl trivial rfl (.inl rfl) ?_
 simp only[Mem.ren,Kv,Kx,Bk.ren,JJ,V.ren,W.ren,Cv.ren,rn,Nat.reduceBEq,cond_true,cond_false,Function.comp_def]
 refine vv ?_
 refine x6 6 (zB 112 ?_)
 refine vv ?_
 have w1:=wr t.m u.m zA zA zA zA
 have w2:=wr t.kg u.kg zA zA zA zA
 have w3:=wr t.s u.s zA zA zA zA
 have w4:=wr t.a u.a zA zA zA zA
 have w5:=wr t.k u.k zA zA zA zA
 refine Sm.dg 112 13 ze (vv ?_)
 simp only[w1]
 refine Sm.dg 112 13 ze (vv ?_)
 simp only[w2]
 refine Sm.dg 112 13 ze (vv ?_)
 simp only[w3]
 refine Sm.dg 112 13 ze (vv ?_)
 simp only[w4]
 refine Sm.dg 112 13 ze (vv ?_)
 simp only[w5]
 refine CallQ.ren [(1,110)] 112 (PQ (t.m+s*u.m) (t.kg+s*u.kg) (t.s+s*u.s) (t.a+s*u.a) (t.k+s*u.k)) (zC rfl) rfl rfl ⟨⟨_,rfl,.inr ⟨rfl,[],rfl⟩⟩,trivial⟩ rfl (.inr rfl) ?_
 simp only[Mem.ren,Kv,Kx,Bk.ren,JJ,V.ren,W.ren,Cv.ren,rn,Nat.reduceBEq,cond_true,cond_false,Function.comp_def]
 refine vv ?_
 refine CallQ.pure 113 (rS (t.m+s*u.m) (t.kg+s*u.kg) (t.s+s*u.s) (t.a+s*u.a) (t.k+s*u.k)) rfl (vv ?_)
 unfold rB at hR
 cases hc:vI (t.m+s*u.m) (t.kg+s*u.kg) (t.s+s*u.s) (t.a+s*u.a) (t.k+s*u.k)with
 |false=>
  rw[hc]at hR
  refine vv ?_
  exact RetQ.pure hR rfl (vv trivial) vz (zI rfl)
 |true=>
  rw[hc]at hR
  refine vv ?_
  exact RetQ.pure hR rfl (vv trivial) vz (zI rfl)
theorem cG (a b:Ft)(h:vI a.m a.kg a.s a.a a.k=true)(hu:vI b.m b.kg b.s b.a b.k=true):CallOk Hf 130 [I 3,qV a,qV b] [] (bif rB 1 a b then .tup [.agg [ci (a.m+1*b.m),ci (a.kg+1*b.kg),ci (a.s+1*b.s),ci (a.a+1*b.a),ci (a.k+1*b.k)],.c (.v (.bool true))]else .tup [.agg [ci 0,ci 0,ci 0,ci 0,ci 0],.c (.v (.bool false))]) []:=by
 have hc:=mA a b 1 (.inl rfl) h hu
 refine kO 100 func130 aZ ntmps130 (by simp[ClV,V.g,Cv.g,qV,ci]) fun C hR=>?_
 refine vv ?_
 refine CallQ.pure 106 hc rfl ?_
 cases h5:rB 1 a b<;>rw[h5]at hR<;>simp only[cond_true,cond_false]at hR⊢
 ·simp only[go_sem]
  exact RetQ.pure hR rfl (vv trivial) vz (zI rfl)
 ·simp only[go_sem]
  exact RetQ.pure hR rfl (vv trivial) vz (zI rfl)
theorem cF (a b:Ft)(h:vI a.m a.kg a.s a.a a.k=true)(hu:vI b.m b.kg b.s b.a b.k=true):CallOk Hf 130 [I 4,qV a,qV b] [] (bif rB (-1) a b then .tup [.agg [ci (a.m+ -1*b.m),ci (a.kg+ -1*b.kg),ci (a.s+ -1*b.s),ci (a.a+ -1*b.a),ci (a.k+ -1*b.k)],.c (.v (.bool true))]else .tup [.agg [ci 0,ci 0,ci 0,ci 0,ci 0],.c (.v (.bool false))]) []:=by
 have hc:=mA a b (-1) (.inr rfl) h hu
 refine kO 100 func130 aZ ntmps130 (by simp[ClV,V.g,Cv.g,qV,ci]) fun C hR=>?_
 refine vv ?_
 refine CallQ.pure 106 hc rfl ?_
 cases h5:rB (-1) a b<;>rw[h5]at hR<;>simp only[cond_true,cond_false]at hR⊢
 ·simp only[go_sem]
  exact RetQ.pure hR rfl (vv trivial) vz (zI rfl)
 ·simp only[go_sem]
  exact RetQ.pure hR rfl (vv trivial) vz (zI rfl)
theorem WA (op:Int)(a b:Ft)(h3:op≠3)(h4:op≠4):CallOk Hf 130 [I op,qV a,qV b] [] (.tup [.agg [ci a.m,ci a.kg,ci a.s,ci a.a,ci a.k],.c (.v (.bool (uS a b)))]) []:=by
 refine kO 100 func130 aZ ntmps130 (by simp[ClV,V.g,Cv.g,qV,ci]) fun C hR=>?_
 refine vv ?_
 have e3:(op==3)=false:=by simpa using h3
 have e4:(op==4)=false:=by simpa using h4
 simp only[e3,e4]
 refine Sm.dgW [102] 110 5 ze (vv ?_)
 exact RetQ.pure hR rfl (vv trivial) vz (zI rfl)
theorem fD (op x y:Int)(ta tb t:Ft)(ha:yE ta=true)(hx:fin ta x=true)(hb:yE tb=true)(hy:fin tb y=true)(ht:yE t=true)(ho1:1<=op)(ho2:op<=4)(h0:op=4->yq tb y≠0):
  CallOk Hf 235 [I op,I x,I y,fx ta,fx tb,fx t] [] (I (xY op ta x tb y t)) []:=by
 have h1:=xy ha hx
 have h2:=xy hb hy
 have hf:=xC ha
 have hg:=xC hb
 have hc:=aq op ha hx hb hy ho1 ho2 h0
 obtain⟨l1,l2,m⟩:=ZS op (yq ta x) ta.den (yq tb y) tb.den ho1 ho2 zA zA zA zA zA zA zA zA
 unfold xY
 generalize cN op (yq ta x) ta.den (yq tb y) tb.den=N at*
 generalize cD op (yq ta x) ta.den (yq tb y) tb.den=D at*
 refine kN 100 func235 SK ntmps235 fun C hR hP=>?_
 refine vv ?_
 refine CallQ.ren [(1,110),(2,111)] 112 (nr ta x ha hx) (zC (by simp[Cv.inM])) rfl rfl trivial rfl (.inl rfl) ?_
 simp only[Mem.ren,Kv,Kx,Bk.ren,JJ,V.ren,W.ren,Cv.ren,rn,Nat.reduceBEq,cond_true,cond_false,Function.comp_def]
 refine vv ?_
 refine CallQ.ren [(1,120),(2,121)] 122 (nr tb y hb hy) (zC (by simp[Cv.inM])) rfl rfl trivial rfl (.inl rfl) ?_
 simp only[Mem.ren,Kv,Kx,Bk.ren,JJ,V.ren,W.ren,Cv.ren,rn,Nat.reduceBEq,cond_true,cond_false,Function.comp_def]
 refine vv ?_
 refine CallQ.ren [(1,110),(2,111),(3,120),(4,121),(5,130),(6,131)] 132 m (zC (by simp[Cv.inM])) rfl rfl ⟨⟨_,rfl,xD _ _ _⟩,⟨_,rfl,xD _ _ _⟩,⟨_,rfl,xD _ _ _⟩,⟨_,rfl,xD _ _ _⟩,trivial⟩ rfl (.inl rfl) ?_
 simp only[Mem.ren,Kv,Kx,Bk.ren,JJ,V.ren,W.ren,Cv.ren,rn,Nat.reduceBEq,cond_true,cond_false,Function.comp_def]
 refine vv ?_
 refine CallQ.ren [(1,130),(2,131)] 140 (qS t N D ht zA zA zA zA) (zC (by simp[Cv.inM])) rfl rfl ⟨⟨_,rfl,xD _ _ _⟩,⟨_,rfl,xD _ _ _⟩,trivial⟩ rfl (.inr rfl) ?_
 simp only[Mem.ren,Kv,Kx,Bk.ren,JJ,V.ren,W.ren,Cv.ren,rn,Nat.reduceBEq,cond_true,cond_false,Function.comp_def]
 refine vv ?_
 exact uT hR rfl
def uk (op:Int)(a b:Ft):Bool:=if op=3 then rB 1 a b else if op=4 then rB (-1) a b else uS a b
def uc (op:Int)(a b:Ft)(x y:Int):Int:=if op=3 then(if rB 1 a b=true then x+y else 0)else if op=4 then(if rB (-1) a b=true then x-y else 0)else x
theorem Xz (op:Int)(a b:Ft)(h:vI a.m a.kg a.s a.a a.k=true)(hu:vI b.m b.kg b.s b.a b.k=true):
  CallOk Hf 130 [I op,qV a,qV b] [] (.tup [.agg [ci (uc op a b a.m b.m),ci (uc op a b a.kg b.kg),ci (uc op a b a.s b.s),ci (uc op a b a.a b.a),ci (uc op a b a.k b.k)],.c (.v (.bool (uk op a b)))]) []:=by
 by_cases h3:op=3
 ·subst h3
  have h5:=cG a b h hu
  simp only[uc,uk,if_true]
  cases hc:rB 1 a b<;>rw[hc]at h5<;>simp only[cond_true,cond_false,if_true,JU,if_false,Int.one_mul]at h5⊢ <;>exact h5
 ·by_cases h4:op=4
  ·subst h4
   have h5:=cF a b h hu
   simp only[uc,uk,if_true,if_false,Int.reduceEq]
   cases hc:rB (-1) a b<;>rw[hc]at h5<;>simp only[cond_true,cond_false,if_true,JU,if_false,Int.neg_mul,Int.one_mul,<-Int.sub_eq_add_neg]at h5⊢ <;>exact h5
  ·simp only[uc,uk,if_neg h3,if_neg h4]
   exact WA op a b h3 h4
def u5 (op:Int)(a b t:Ft):Bool:=(uc op a b a.m b.m==t.m)&&((uc op a b a.kg b.kg==t.kg)&&((uc op a b a.s b.s==t.s)&&((uc op a b a.a b.a==t.a)&&(uc op a b a.k b.k==t.k))))
theorem WE (op:Int)(a b t:Ft)(ht:vI t.m t.kg t.s t.a t.k=true):(uk op a b&&u5 op a b t)=oF op a b t:=by
 have hb:=qU ht
 unfold uk u5 uc oF
 by_cases h3:op=3
 ·subst h3
  simp only[if_true]
  cases hc:rB 1 a b with
  |true=>simp only[Je,if_true];rw[JQ];simp
  |false=>
   simp only[rB,vI,decide_eq_false_iff_not]at hc
   symm
   simp only[HI,decide_eq_false_iff_not]
   omega
 ·by_cases h4:op=4
  ·subst h4
   simp only[if_true,if_false,Int.reduceEq]
   cases hc:rB (-1) a b with
   |true=>simp only[Je,if_true];rw[JQ];simp
   |false=>
    simp only[rB,vI,decide_eq_false_iff_not]at hc
    symm
    simp only[HI,decide_eq_false_iff_not]
    omega
  ·simp only[if_neg h3,if_neg h4,uS]
   rw[JQ]
   simp
   omega
theorem _root_.Go.Proofs.YtkciabfilokfiaaGreat.Vg.StpC.ldA {P:Program}{C:Cx}{o:Oper}{e:Env}{M:Mem}{ty:TypeId}{x:Operand}{b i:Nat}{c:Array Value}{el:TypeId}{mk:Nat×Nat}{vs:List Value}(hb:C.hp b (.cells c el mk))(hc:∀j v,vs[j]?=some v->c[i+j]?=some v)(ho:o.op= .load ty x)(hx:rd e x=some (true,.c (.v (.pointer (some ⟨b,i,none⟩)))))
  (ha:zm P ty=some true) (hs:yG P ty=vs.length) (h0:vs.length≠0):StpC P C.S C.w0 o e M (.agg (vs.map .v)) []:=by
 intro β M' a w _ _ hrel hop K Q hk
 have he:=hop β (zK _ _) x (by simp[ho,Op.operands]) _ hx
 have hbw:=yK hrel hb
 have hr2:w.rangeAt b i vs:=fun j v hj=>by simp[World.cell?,hbw,hc j v hj]
 simp only[gv,V.g,Cv.g,cond_true]at he
 unfold zm at ha
 cases hu:P.underlying ty with
 |none=>simp[hu]at ha
 |some d=>
  have hd:d.isRow=true:=by cases d<;>simp_all
  have hld:=run_loadVar_mid (P:=P) w b i ty _ d hr2 hu hd (tW hs h0)
  have hcs:∀β:Vl,(vs.map Cv.v).map (Cv.g β)=vs:=fun β=>by
   rw[JJ];conv=>rhs;rw[<-H4 vs]
   exact JY fun _ _=>rfl
  have hrun:(execOp a.eval o).run P w= .ok (.value (V.g β (.agg (vs.map .v)))) w:=by
   unfold execOp
   simp only[ho,he,Instr.loadAt,Instr.sureAddr,Sem.run_bind,Sem.run_pure,Result.andThen_ok,hld]
   simp only[V.g,hcs]
  unfold Oper.wp
  rw[hrun]
  exact hk β _ w (zK _ _) hrel (fun β'' _=>by simp only[V.g,hcs])
theorem qe {α:Type}{r:α->List Value}{k:Nat}(hk:∀x,(r x).length=k)(l:List α)(i j:Nat)(h:i<l.length)(hj:j<k):(l.map r).flatten[i*k+j]?=(r l[i])[j]?:=by
 have h1:=zy hk l i j h hj
 unfold zD at h1
 rw[JK]at h1
 cases ha:(l.map r).flatten[i*k+j]?<;>cases hb:(r l[i])[j]?<;>rw[ha,hb]at h1<;>simp_all
theorem xG {H:Hp}{d:DgL}(hd:d.ok H)(h:0<d.tys.length):∃b o,d.ty.o=some ⟨b,o,none⟩/\∃cs el mk,H b (.cells cs el mk)/\∀q (hq:q<d.tys.length) (j:Nat) v,(yW d.tys[q].ty)[j]?=some v->cs[o+q*11+1+j]?=some v:=by
 have hz:((d.tys.map Td.r).flatten).length=d.tys.length*11:=by
  have:=zP (r:=Td.r) (k:=11) (fun _=>rfl) d.tys
  unfold zD at this
  rwa [Ku]at this
 obtain⟨b,o,c,h1,cs,el,mk,hb,hc⟩:=hd.ty.at (by
  intro h0
  rw[h0]at hz
  simp at hz;omega)
 have hio:d.ty.o=some ⟨b,o,none⟩:=by injection h1
 refine⟨b,o,hio,cs,el,mk,hb,fun q hq j v hj=>?_⟩
 have hj10:j<10:=(J5.1 hj).1
 have:=hc (q*11+(1+j)) v (by
  rw[qe (r:=Td.r) (k:=11) (fun _=>rfl) d.tys q (1+j) hq zA]
  rw[<-hj,Hc 1 j]
  rfl)
 rw[show o+q*11+1+j=o+(q*11+(1+j)) by omega]
 exact this
def ry (k:Str):Bool:=k==aA||(k==aV||(k==XC||(k==Qv||(k==YC||k==jh))))
theorem xN (k:Str):CallOk Hf 129 [S k] [] (Bo (ry k)) []:=by
 refine kN 100 func129 Rn ntmps129 fun C hR hP=>?_
 refine vv ?_
 refine yL hR ?_
 have:ry k=(k==[108,101,115,115]||(k==[101,113,117,97,108]||(k==[97,110,100]||(k==[111,114]||(k==[110,111,116]||k==[104,121,115,116,101,114,101,115,105,115]))))):=rfl
 rw[this]
 generalize (k==[108,101,115,115])=a1
 generalize (k==[101,113,117,97,108])=a2
 generalize (k==[97,110,100])=a3
 generalize (k==[111,114])=a4
 generalize (k==[110,111,116])=a5
 generalize (k==[104,121,115,116,101,114,101,115,105,115])=a6
 cases a1<;>cases a2<;>cases a3<;>cases a4<;>cases a5<;>cases a6<;>rfl
theorem gU {H:Hp}{b:BlL}(hb:b.ok H)(h:0<b.c.ins.length):∃bi oi,b.i.o=some ⟨bi,oi,none⟩/\∃cs el mk,H bi (.cells cs el mk)/\∀k,(hk:k<b.c.ins.length)->cs[oi+k]?=some (sv b.c.ins[k]):=by
 obtain⟨bi,oi,ci,hi1,csi,eli,mki,hci,hcci⟩:=hb.i.at (by
  intro h0
  have:=congrArg List.length h0
  rw[uY,Ku]at this
  simp at this;rw[this]at h;simp at h)
 exact⟨bi,oi,by injection hi1,csi,eli,mki,hci,fun k hk=>hcci k _ (by rw[uY];simp[hk])⟩
theorem Vw {H:Hp}(d:DgL)(hd:d.ok H)(h0:d.tys.length<=1000000)(h1:d.ins.length<=1000000)(h2:d.bls.length<=1000000)(b:BlL)(hb:b.ok H)(k:Nat)(hk:k<b.c.ins.length)(hin:sW (zQ d.c) b.c.ins[k]=true):
  ej H d 131 [yD b.r,I k] (yD (wA (unT (yU d.c (xv (zQ d.c) b.c.ins[k]))))):=by
 obtain⟨bi,oi,hio,ci,ei,mi,hbi,hci⟩:=gU hb zA
 have hxi:=hci k hk
 have hfd:=nD d b.c.ins[k] zA zA
 have hlt:=uF hin
 rw[ow hin]at hfd
 have hty:=ph d hd h0 h1 h2 _ hlt
 generalize b.c.ins[k]=s at*
 generalize xv (zQ d.c) s=n at*
 generalize yU d.c n=T at*
 refine kX func131 Rl ntmps131 fun C hR hP hH hL=>?_
 have hR:=hR () C hL trivial
 refine zB 100 (vv ?_)
 refine Sm.dg 110 8 ze ?_
 simp only[go_sem,BlL.r]
 refine DOpQ.own 140 (Stp.idxV (b:=bi) (off:=oi) rfl (by rw[<-hio];rfl) rfl jE zA zA) ?_
 simp only[go_sem,Jd,Int.toNat_natCast]
 refine zE 140 (fun _=>zW (hH _ _ hbi) hxi rfl rfl rfl) (vv ?_)
 refine DCallQ.dm 150 (fun _=>hfd.toX) hH (fun _=>rfl) rfl rfl (vv ?_)
 refine CallQ.dm 160 (fun _=>hty) hH (fun _=>rfl) rfl rfl (vv ?_)
 exact zX hR rfl (vv trivial) tr (SubS.sub (yM rfl rfl)) (zo d) (zI rfl)
def sI (kd:Str)(t:Un)(us:List Un):Bool:=
 if (ry kd&& !yb t u0)=true then false else
 if (kd==YF||kd==jo)=true then(nY (us.getD 0 u0) (us.getD 1 u0) (if (kd==jo)=true then-1 else 1)==0)&&yb (mY (us.getD 0 u0) (us.getD 1 u0) (if (kd==jo)=true then-1 else 1)) t else
 if (kd==aA||kd==aV)=true then yb (us.getD 0 u0) (us.getD 1 u0)else
 if (kd==fP)=true then yb (us.getD 0 u0) u0&&(yb (us.getD 1 u0) t&&yb (us.getD 2 u0) t)else
 if (kd==kE||(kd==Yb||(kd==YG||kd==jh)))=true then true else us.all (fun u=>yb u t)
theorem cE {a b:Un}(h:yb a b=true):a=b:=by
 unfold yb at h
 simp only[JG,beq_iff_eq]at h
 obtain⟨h1,h2,h3,h4,h5⟩:=h
 cases a;cases b;simp_all
theorem Zp (kd:Str)(h:yY kd≠none)(t:Un)(us:List Un):sI kd t us=nc kd t us:=by
 cases hq:yY kd with
 |none=>exact absurd hq h
 |some q=>
 have hm:=vY hq
 have hk:kd∈kindT.map (·.1):=JO.2 ⟨_,hm,rfl⟩
 clear hm hq h
 by_cases hu:yb t u0=true
 ·have ht:=cE hu
  subst ht
  simp only[kindT,Kv,Kx,JZ,IN,or_false]at hk
  rcases hk with rfl|rfl|rfl|rfl|rfl|rfl|rfl|rfl|rfl|rfl|rfl|rfl|rfl|rfl|rfl|rfl|rfl|rfl|rfl|rfl|rfl<;>
   simp[sI,nc,ry,hu,aA,aV,XC,Qv,YC,jh,YF,jo,fP,kE,Yb,YG,V2,WI,We,VT,Wj,Wl,jf,uW,dT]
 ·have hu:yb t u0=false:=by simpa using hu
  simp only[kindT,Kv,Kx,JZ,IN,or_false]at hk
  rcases hk with rfl|rfl|rfl|rfl|rfl|rfl|rfl|rfl|rfl|rfl|rfl|rfl|rfl|rfl|rfl|rfl|rfl|rfl|rfl|rfl|rfl<;>
   simp[sI,nc,ry,hu,aA,aV,XC,Qv,YC,jh,YF,jo,fP,kE,Yb,YG,V2,WI,We,VT,Wj,Wl,jf,uW,dT]
theorem WB (T:Ft)(j:Nat):(yW T)[5+j]?=(wA (unT T))[j]?:=by rw[<-HN];rfl
theorem Q6 {A B:Ft}(hA:yE A=true)(hB:yE B=true)(k:Int):nY (unT A) (unT B) k=(bif rB k A B then 0 else 2)/\mY (unT A) (unT B) k=(bif rB k A B then ic (unT A) (unT B) k else u0):=by
 have h1:uv (unT A)=true:=tg hA
 have h2:uv (unT B)=true:=tg hB
 have h3:uv (ic (unT A) (unT B) k)=rB k A B:=rfl
 have e:nY (unT A) (unT B) k=(bif rB k A B then 0 else 2):=by unfold nY;rw[h1,h2,h3];rfl
 refine⟨e,?_⟩
 unfold mY
 rw[e]
 cases rB k A B<;>rfl
theorem Xx (d:Dg)(b:Bl):(sw d b).length=b.ins.length:=Ku _
theorem Vr (d:Dg)(b:Bl)(k:Nat)(h:k<b.ins.length):(sw d b).getD k u0=unT (yU d (xv (zQ d) b.ins[k])):=by
 unfold sw
 rw[Kw,JK,Kz h];rfl
theorem iF {b:Bl}(h:xI b=true){kd:Str}(hk:(b.kd==kd)=true){a n t:Nat}(hq:yY kd=some (a,n,t)):b.ins.length=a:=(xW h hk hq).1
theorem Vx {H:Hp}(d:DgL)(hd:d.ok H)(h0:d.tys.length<=1000000)(h1:d.ins.length<=1000000)(h2:d.bls.length<=1000000)(b:BlL)(hb:b.ok H)(hok:xI b.c=true)(hin:∀s∈b.c.ins,sW (zQ d.c) s=true)(hty:vk d.tys b.c.ty≠none)
  (hfo:∀s∈b.c.ins,yE (yU d.c (xv (zQ d.c) s))=true):ej H d 59 [yD b.r] (Bo (sI b.c.kd (unT (yB d.tys b.c.ty)) (sw d.c b.c))):=by
 have hil:=pu hok
 have hut:=fun k (hk:k<b.c.ins.length)=>Vw d hd h0 h1 h2 b hb k hk (hin _ (JE hk))
 have hua:=Vr d.c b.c
 obtain⟨q,hq1,hq2,hq3⟩:∃q,∃h:q<d.tys.length,yw (d.tys.map (·.nm)) b.c.ty=(q:Int)/\yB d.tys b.c.ty=d.tys[q].ty:=by
  rcases xa d.tys b.c.ty with⟨a,_⟩|⟨q,hq,a,e⟩
  ·exact absurd a hty
  ·exact⟨q,hq,a,by unfold yB;rw[e];rfl⟩
 obtain⟨bt,ot,hto,ct,et,mt,hbt,hct⟩:=xG hd zA
 have hx0:=hct q hq1
 have hto':=yu d hd h0 b.c.ty
 rw[hq2]at hto'
 rw[hq3]
 generalize d.tys[q].ty=T at*
 have hu0:unT T=⟨T.m,T.kg,T.s,T.a,T.k⟩:=rfl
 refine kX func59 Ob ntmps59 fun C hR hP hH hL=>?_
 have hR:=hR () C hL trivial
 refine zB 100 ?_
 simp only[go_sem,BlL.r]
 refine Sm.dg 110 11 ze ?_
 simp only[go_sem,BlL.r]
 refine DCallQ.dm 120 (fun _=>hto') hH (fun _=>rfl) rfl rfl (vv ?_)
 refine DOpQ.own 140 (Stp.idxV (b:=bt) (off:=ot) rfl (by rw[<-hto];rfl) rfl vm zA zA) ?_
 simp only[go_sem,Int.toNat_natCast]
 refine DOpQ.own 140 (zY (k:=1) rfl rfl rfl) (vv ?_)
 refine DOpQ.own 140 (zY (k:=5) rfl rfl rfl) (vv ?_)
 refine zE 140 (fun _=>StpC.ldA (vs:=wA (unT T)) (hH _ _ hbt) (fun j v hj=>?_) rfl rfl rfl rfl (J7 _)) ?_
 ·have:=hx0 (5+j) v (by rw[<-hj];exact WB T j)
  rw[<-this];congr 1;omega
 generalize unT T=t at*
 generalize hus:sw d.c b.c=us at*
 simp only[go_sem,wA]
 refine CallQ.pure 150 (xN b.c.kd) rfl (vv ?_)
 have ea:(bif ry b.c.kd then !(t.m==0&&(t.kg==0&&(t.s==0&&(t.a==0&&t.k==0))))else false)=(ry b.c.kd&& !yb t u0):=by cases ry b.c.kd<;>rfl
 rw[ea]
 have hF:∀v,sI b.c.kd t us=v->xL Hf C Tryz.f59 (Bo v) ([]++xU d):=fun v hv=>by rw[<-hv];exact hR
 clear hR
 have hend:∀v v',sI b.c.kd t us=v->v'=v->xL Hf C Tryz.f59 (Bo v') ([]++xU d):=fun v v' h1 h2=>by rw[h2];exact hF v h1
 refine zU (fun hA=>?_) (fun hA=>?_)
 ·exact zX (hF false (by unfold sI;rw[if_pos hA])) rfl xb tr (SubS.sub (yM rfl rfl)) (zo d) (zI rfl)
 have g1:∀v,_->sI b.c.kd t us=v:=fun v h=>by unfold sI;rw[if_neg (by rw[hA];simp)];exact h
 refine zU (fun hM=>?_) (fun hM=>?_)
 ·have hl:b.c.ins.length=2:=by
   cases hm:b.c.kd==[109,117,108]with
   |true=>exact iF hok hm (kd:=[109,117,108]) (a:=2) (n:=0) (t:=0) rfl
   |false=>
    rw[hm]at hM
    exact iF hok hM (kd:=[100,105,118]) (a:=2) (n:=0) (t:=0) rfl
  have q0:=hut 0 zA
  have q1:=hut 1 zA
  have u1:=hua 0 zA
  have u2:=hua 1 zA
  have fA:=hfo b.c.ins[0] (JE _)
  have fB:=hfo b.c.ins[1] (JE _)
  generalize yU d.c (xv (zQ d.c) b.c.ins[0])=A at*
  generalize yU d.c (xv (zQ d.c) b.c.ins[1])=B at*
  have g2:∀v,_->sI b.c.kd t us=v:=fun v h=>g1 v (by
   rw[if_pos (by show((b.c.kd==[109,117,108])||(b.c.kd==[100,105,118]))=true;rw[<-hM];cases (b.c.kd==[109,117,108])<;>rfl)];exact h)
  refine zU (fun hdv=>?_) (fun hdv=>?_)
  ·have hdv:(b.c.kd==jo)=true:=hdv
   refine Sm.dg 160 13 ze ?_
   simp only[go_sem,BlL.r]
   refine DCallQ.dm 170 (fun _=>q0) hH (fun _=>rfl) rfl rfl ?_
   simp only[go_sem,BlL.r]
   refine DCallQ.dm 180 (fun _=>q1) hH (fun _=>rfl) rfl rfl ?_
   simp only[go_sem,wA]
   have hun:=cF A B (tg fA) (tg fB)
   obtain⟨w1,w2⟩:=Q6 fA fB (-1)
   rw[<-u1,<-u2]at w1 w2
   cases hc:rB (-1) A B with
   |true=>
    rw[hc]at hun w1 w2
    refine DCallQ.pure 190 hun rfl (vv ?_)
    exact zX (hend _ _ (g2 _ rfl) (by rw[if_pos hdv,w1,w2,u1,u2])) rfl xb tr (SubS.sub (yM rfl rfl)) (zo d) (zI rfl)
   |false=>
    rw[hc]at hun w1 w2
    refine DCallQ.pure 190 hun rfl (vv ?_)
    exact zX (hend _ _ (g2 _ rfl) (by rw[if_pos hdv,w1,w2])) rfl xb tr (SubS.sub (yM rfl rfl)) (zo d) (zI rfl)
  ·have hdv:(b.c.kd==jo)=false:=hdv
   refine Sm.dg 160 13 ze ?_
   simp only[go_sem,BlL.r]
   refine DCallQ.dm 170 (fun _=>q0) hH (fun _=>rfl) rfl rfl ?_
   simp only[go_sem,BlL.r]
   refine DCallQ.dm 180 (fun _=>q1) hH (fun _=>rfl) rfl rfl ?_
   simp only[go_sem,wA]
   have hun:=cG A B (tg fA) (tg fB)
   obtain⟨w1,w2⟩:=Q6 fA fB (1)
   rw[<-u1,<-u2]at w1 w2
   cases hc:rB (1) A B with
   |true=>
    rw[hc]at hun w1 w2
    refine DCallQ.pure 190 hun rfl (vv ?_)
    exact zX (hend _ _ (g2 _ rfl) (by rw[if_neg (by rw[hdv];simp),w1,w2,u1,u2])) rfl xb tr (SubS.sub (yM rfl rfl)) (zo d) (zI rfl)
   |false=>
    rw[hc]at hun w1 w2
    refine DCallQ.pure 190 hun rfl (vv ?_)
    exact zX (hend _ _ (g2 _ rfl) (by rw[if_neg (by rw[hdv];simp),w1,w2])) rfl xb tr (SubS.sub (yM rfl rfl)) (zo d) (zI rfl)
 have g2:∀v,_->sI b.c.kd t us=v:=fun v h=>g1 v (by
  rw[if_neg (by show ¬(((b.c.kd==[109,117,108])||(b.c.kd==[100,105,118]))=true);intro h2;rw[I1]at h2;cases hm:(b.c.kd==[109,117,108])<;>rw[hm]at hM h2<;>simp_all)];exact h)
 clear g1
 refine zU (fun hE=>?_) (fun hE=>?_)
 ·have hl:b.c.ins.length=2:=by
   cases hm:b.c.kd==[108,101,115,115]with
   |true=>exact iF hok hm (kd:=[108,101,115,115]) (a:=2) (n:=0) (t:=0) rfl
   |false=>
    rw[hm]at hE
    exact iF hok hE (kd:=[101,113,117,97,108]) (a:=2) (n:=0) (t:=0) rfl
  have q0:=hut 0 zA
  have q1:=hut 1 zA
  have u1:=hua 0 zA
  have u2:=hua 1 zA
  rw[<-u1]at q0
  rw[<-u2]at q1
  generalize us.getD 0 u0=A at*
  generalize us.getD 1 u0=B at*
  have g3:sI b.c.kd t us=yb A B:=g2 _ (by
   rw[if_pos (by show((b.c.kd==[108,101,115,115])||(b.c.kd==[101,113,117,97,108]))=true;rw[<-hE];cases (b.c.kd==[108,101,115,115])<;>rfl)])
  refine Sm.dg 160 5 ze ?_
  simp only[go_sem,BlL.r]
  refine DCallQ.dm 170 (fun _=>q0) hH (fun _=>rfl) rfl rfl ?_
  simp only[go_sem,BlL.r]
  refine CallQ.dm 180 (fun _=>q1) hH (fun _=>rfl) rfl rfl ?_
  simp only[go_sem,wA]
  exact zX (hend _ _ g3 rfl) rfl xb tr (SubS.sub (yM rfl rfl)) (zo d) (zI rfl)
 have g3:∀v,_->sI b.c.kd t us=v:=fun v h=>g2 v (by
  rw[if_neg (by show ¬(((b.c.kd==[108,101,115,115])||(b.c.kd==[101,113,117,97,108]))=true);intro h2;rw[I1]at h2;cases hm:(b.c.kd==[108,101,115,115])<;>rw[hm]at hE h2<;>simp_all)];exact h)
 clear g2
 refine vv ?_
 refine zU (fun hS=>?_) (fun hS=>?_)
 ·have hl:b.c.ins.length=3:=iF hok hS (kd:=[115,119,105,116,99,104]) (a:=3) (n:=0) (t:=0) rfl
  have q0:=hut 0 zA
  have q1:=hut 1 zA
  have q2:=hut 2 zA
  have u1:=hua 0 zA
  have u2:=hua 1 zA
  have u3:=hua 2 zA
  rw[<-u1]at q0
  rw[<-u2]at q1
  rw[<-u3]at q2
  generalize us.getD 0 u0=A at*
  generalize us.getD 1 u0=B at*
  generalize us.getD 2 u0=E at*
  have g4:sI b.c.kd t us=(yb A u0&&(yb B t&&yb E t)):=g3 _ (by
   rw[if_pos (by show(b.c.kd==[115,119,105,116,99,104])=true;exact hS)])
  refine Sm.dg 160 17 ze ?_
  simp only[go_sem,BlL.r]
  refine DCallQ.dm 170 (fun _=>q0) hH (fun _=>rfl) rfl rfl ?_
  simp only[go_sem,BlL.r,wA]
  have c1:(A.m==0&&(A.kg==0&&(A.s==0&&(A.a==0&&A.k==0))))=yb A u0:=rfl
  rw[c1]
  generalize yb A u0=gA at*
  refine DCallQ.dm 180 (fun _=>q1) hH (fun h=>by rw[h];rfl) rfl rfl ?_
  simp only[go_sem,BlL.r,wA]
  refine DCallQ.dm 190 (fun _=>q2) hH (fun h=>by rw[h];rfl) rfl rfl ?_
  simp only[go_sem,BlL.r,wA]
  refine zX (hend _ _ g4 ?_) rfl xb tr (SubS.sub (yM rfl rfl)) (zo d) (zI rfl)
  show(bif bif gA then yb B t else false then yb E t else false)=_
  cases gA<;>cases yb B t<;>rfl
 have g4:∀v,_->sI b.c.kd t us=v:=fun v h=>g3 v (by
  rw[if_neg (by show ¬((b.c.kd==[115,119,105,116,99,104])=true);rw[hS];simp)];exact h)
 clear g3
 refine zU (fun hN=>?_) (fun hN=>?_)
 ·have g5:sI b.c.kd t us=true:=g4 _ (by
   rw[if_pos (by
    show((b.c.kd==[99,111,110,115,116])||((b.c.kd==[99,117,114,118,101])||((b.c.kd==[109,97,112])||(b.c.kd==[104,121,115,116,101,114,101,115,105,115]))))=true
    rw[<-hN]
    cases (b.c.kd==[99,111,110,115,116])<;>cases (b.c.kd==[99,117,114,118,101])<;>cases (b.c.kd==[109,97,112])<;>rfl)])
  exact zX (hend _ _ g5 rfl) rfl xb tr (SubS.sub (yM rfl rfl)) (zo d) (zI rfl)
 have g5:sI b.c.kd t us=us.all fun u=>yb u t:=g4 _ (by
   rw[if_neg (by
    show ¬(((b.c.kd==[99,111,110,115,116])||((b.c.kd==[99,117,114,118,101])||((b.c.kd==[109,97,112])||(b.c.kd==[104,121,115,116,101,114,101,115,105,115]))))=true)
    rw[Bool.not_eq_true,<-hN]
    cases (b.c.kd==[99,111,110,115,116])<;>cases (b.c.kd==[99,117,114,118,101])<;>cases (b.c.kd==[109,97,112])<;>rfl)])
 clear g4
 refine vv ?_
 have hul:us.length=b.c.ins.length:=by rw[<-hus];exact Xx _ _
 refine zG (M0:=xU d) (α:={i:Nat//i<=b.c.ins.length/\us.all (fun u=>yb u t)=(us.drop i).all fun u=>yb u t}) hP (fun i=>[(2,true,.c (.p 2 0)),(3,true,.c (.p 3 0)),(6,true,.c (.p 6 0)),(11,true,I i.val)])
  (fun _=>(2,⟨false,rk d,29⟩)::(3,⟨false,b.r.map .v,53⟩)::(6,⟨false,(wA t).map .v,41⟩)::xU d) (fun i=>b.c.ins.length-i.val) ⟨0,zA,rfl⟩ (fun _=>zC (by simp only[Ky,iR,zh (nu _)];rfl)) (fun _=>zO rfl) [(2,100),(3,101),(6,140),(4,4),(5,5)] ?_ ?_
 ·exact z9
 rintro⟨i,hi,hx⟩ J hj
 simp only at hj hi hx⊢
 refine zB 160 ?_
 simp only[go_sem,BlL.r,wA]
 refine zU (fun hc=>?_) (fun hc=>?_)
 ·have hc:=zH hc
  have q0:=hut i hc
  have u1:=hua i hc
  rw[<-u1]at q0
  have hd0:us.drop i=us.getD i u0::us.drop (i+1):=by
   rw[JA zA,Kw,Kz zA];rfl
  rw[hd0,Ky]at hx
  generalize us.getD i u0=A at*
  refine Sm.dg 170 5 ze ?_
  simp only[go_sem,BlL.r,wA]
  refine DCallQ.dm 180 (fun _=>q0) hH (fun _=>rfl) rfl rfl ?_
  simp only[go_sem,BlL.r,wA]
  have c1:(A.m==t.m&&(A.kg==t.kg&&(A.s==t.s&&(A.a==t.a&&A.k==t.k))))=yb A t:=rfl
  rw[c1]
  cases hu:yb A t with
  |false=>
   rw[hu,HI]at hx
   refine vv ?_
   exact zX (hend _ _ (g5.trans hx) rfl) rfl xb tr (SubS.sub (yM rfl rfl)) (zo d) (zI rfl)
  |true=>
   rw[hu,Je]at hx
   simp only[go_sem,yT (i:=i)]
   exact hj _ _ ⟨i+1,hc,hx⟩ [(2,2),(3,3),(6,6),(4,4),(5,5)] yF z9
 ·have hc:=zL hi hc
  rw[hc,<-hul,JL]at hx
  exact zX (hend _ _ (g5.trans hx) rfl) rfl xb tr (SubS.sub (yM rfl rfl)) (zo d) (zI rfl)
end Go.Proofs.YtkciabfilokfiaaGreat.Fx
