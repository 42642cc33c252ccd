/-  -/
import Derived.Test.YtbnkiacicnnmkaaGreatTf
import Derived.Test.YtbnkiacicnnmkaaGreatPS
import Derived.Lib.Bytealg
import Derived.Lib.IndexLaws
open Go.Proofs.Tryz
open Go.Proofs.Tryz renaming prog→HT
set_option linter.unusedSimpArgs false
set_option linter.unusedVariables false
set_option maxRecDepth 100000
set_option maxHeartbeats 4000000
namespace Go.Proofs.YtbnkiacicnnmkaaGreat.Fx
open Vg Tf
abbrev I (n:Int):V:= .c (.v (.int .i64 n))
abbrev U (n:Int):V:= .c (.v (.int .u64 n))
abbrev Bo (b:Bool):V:= .c (.v (.bool b))
abbrev Wi (n:Int):W:= .c (.v (.int .i64 n))
abbrev Wu (n:Int):W:= .c (.v (.int .u64 n))
theorem y6 {x:Int}(h1: -9223372036854775808<=x)(h2:x<=9223372036854775807):IntKind.i64.wrap x=x:=IntWalk.i64_in x ⟨h1,h2⟩
theorem gU {x:Int}(h1:0<=x)(h2:x<18446744073709551616):IntKind.u64.wrap x=x:=by rw[IntKind.wrap_u64];omega
theorem rH (x:Int)(h1: -9223372036854775808<=x)(h2:x<=9223372036854775807):CallOk HT 292 [I x] [] (U x.natAbs) []:=by
 refine kO 100 func292 U6 ntmps292 (by simp[ClV,V.g,Cv.g]) fun C hR=>?_
 simp only[go_sem,Nat.reduceBEq,Nat.reduceAdd,Nat.reduceLT,Nat.reduceLeDiff,Nat.reduceEqDiff,reduceCtorEq]
 split
 ·rename_i h
  refine ww hR ?_
  simp at h
  rw[IntKind.wrap_u64,IntKind.wrap_u64,IntKind.wrap_i64,IntKind.wrap_i64]
  omega
 ·rename_i h
  refine ww hR ?_
  simp at h
  rw[IntKind.wrap_u64]
  omega
theorem Wz (x:Int):x.fdiv (2^min (Int.toNat 32) 64)=x/4294967296:=by
 rw[show(2:Int)^min (Int.toNat 32) 64=4294967296 from rfl]
 exact Js x zA
theorem lE (x y:Int)(hx0:0<=x)(hx:x<18446744073709551616)(hy0:0<=y)(hy:y<18446744073709551616):CallOk HT 276 [U x,U y] [] (.tup [Wu (x*y/18446744073709551616),Wu (x*y%18446744073709551616)]) []:=by
 refine kO 100 func276 Ul ntmps276 (by simp[ClV,V.g,Cv.g]) fun C hR=>?_
 simp only[go_sem,Nat.reduceBEq,Nat.reduceAdd,Nat.reduceLT,Nat.reduceLeDiff,Nat.reduceEqDiff,reduceCtorEq]
 refine zx hR rfl ⟨rfl,rfl,trivial⟩ ?_ (IntKind.wrap_u64 _)
 have hm:=mul64_arith x y hx0 hx hy0 hy
 have hp:∀z:Int,0<=z%18446744073709551616/\z%18446744073709551616<18446744073709551616:=fun z=>by omega
 simp only[IntKind.wrap_u64,show∀z:Int,z.fdiv (2^min 32 64)=z/4294967296 from Wz]
 rw[and_low32 x hx0 hx,and_low32 y hy0 hy]
 rw[and_low32 _ (hp _).1 (hp _).2]
 exact hm
theorem WK (lo y:Int)(hl0:0<=lo)(hl:lo<18446744073709551616)(hy0:0<y)(hy:y<18446744073709551616):CallOk HT 293 [U 0,U lo,U y] [] (.tup [Wu (lo/y),Wu (lo%y)]) []:=by
 refine kO 100 func293 U5 ntmps293 (by simp[ClV,V.g,Cv.g]) fun C hR=>?_
 simp only[go_sem,Nat.reduceBEq,Nat.reduceAdd,Nat.reduceLT,Nat.reduceLeDiff,Nat.reduceEqDiff,reduceCtorEq]
 have e1:(y==0)=false:=by simp;omega
 have e2:decide (y<=0)=false:=by simp;omega
 simp only[e1,e2]
 refine cZ 200 8 zi (by decide+kernel) (by decide+kernel) ?_
 simp only[go_sem,Nat.reduceBEq,Nat.reduceAdd,Nat.reduceLT,Nat.reduceLeDiff,Nat.reduceEqDiff,reduceCtorEq]
 have e3:lo.tdiv y=lo/y:=IL hl0
 have e4:lo.tmod y=lo%y:=Il hl0
 have e5:0<=lo/y:=Int.ediv_nonneg hl0 zA
 have e6:lo/y<=lo:=Int.ediv_le_self _ hl0
 refine⟨zA,zA,?_⟩
 refine zx hR rfl ⟨rfl,rfl,trivial⟩ ?_ e4
 rw[e3,gU e5 zA]
def rnd (m p c:Int):Int:=if m=1 then p/c else if m=2 then-((-p)/c)else(2*p+c)/(2*c)
theorem bh (r c:Int)(neg:Bool)(m:Int)(hr:0<=r)(hc:r<c)(hc2:c<18446744073709551616):
  CallOk HT 294 [U r,U c,Bo neg,I m] [] (Bo (bif m==1 then neg&&decide (0<r)else bif m==2 then !neg&&decide (0<r)else bif neg then decide (c<2*r)else decide (c<=2*r))) []:=by
 refine kO 100 func294 U4 ntmps294 (by simp[ClV,V.g,Cv.g]) fun C hR=>?_
 simp only[go_sem,Nat.reduceBEq,Nat.reduceAdd,Nat.reduceLT,Nat.reduceLeDiff,Nat.reduceEqDiff,reduceCtorEq]
 have hw:IntKind.u64.wrap (c-r)=c-r:=gU zA zA
 simp only[hw]
 cases h1:(m==1)with
 |true=>
  simp only[h1,cond_true]at hR⊢
  refine zp hR ?_
  cases neg<;>rfl
 |false=>
  cases h2:(m==2)with
  |true=>
   simp only[h1,h2,cond_true,cond_false]at hR⊢
   refine zp hR ?_
   cases neg<;>rfl
  |false=>
   simp only[h1,h2,cond_true,cond_false]at hR⊢
   cases neg with
   |true=>
    simp only[cond_true]at hR⊢
    refine zp hR ?_
    rw[decide_eq_decide];omega
   |false=>
    simp only[cond_false]at hR⊢
    refine zp hR ?_
    rw[decide_eq_decide];omega
theorem wG {x d y:Int}(hd:0<d)(h1:d*y<=x)(h2:x<d*y+d):x/d=y:=by
 have h3:=HC x d
 have h4:=HM x (show d≠0 by omega)
 have h5:=Ir x hd
 have h6:d*(x/d-y)<d*1:=by rw[HK];omega
 have h7:d*(y-x/d)<d*1:=by rw[HK];omega
 have h8:=Int.lt_of_mul_lt_mul_left h6 zA
 have h9:=Int.lt_of_mul_lt_mul_left h7 zA
 omega
theorem bj (m p c:Int)(hc:0<c):rnd m p c=p/c+(if (bif m==1 then false else bif m==2 then decide (0<p%c)else decide (c<=2*(p%c)))=true then 1 else 0):=by
 have h3:=HC p c
 have h4:=HM p (show c≠0 by omega)
 have h5:=Ir p hc
 generalize p%c=r at*
 generalize p/c=q at*
 unfold rnd
 by_cases h1:m=1
 ·subst h1
  simp
  exact wG hc zA zA
 by_cases h2:m=2
 ·subst h2
  simp
  split
  ·rw[wG (y:= -q-1) hc (by rw[HK,IQ];omega) (by rw[HK,IQ];omega)];omega
  ·rw[wG (y:= -q) hc (by rw[IQ];omega) (by rw[IQ];omega)];omega
 ·simp[h1,h2]
  split
  ·exact wG zA (by rw[HG,Int.mul_add];omega) (by rw[HG,Int.mul_add];omega)
  ·exact wG zA (by rw[HG,Int.mul_add];omega) (by rw[HG,Int.mul_add];omega)
theorem bm (m p c:Int)(hc:0<c):rnd m (-p) c= -(p/c+(if (bif m==1 then decide (0<p%c)else bif m==2 then false else decide (c<2*(p%c)))=true then 1 else 0)):=by
 have h3:=HC p c
 have h4:=HM p (show c≠0 by omega)
 have h5:=Ir p hc
 generalize p%c=r at*
 generalize p/c=q at*
 unfold rnd
 by_cases h1:m=1
 ·subst h1
  simp
  split
  ·rw[wG (y:= -q-1) hc (by rw[HK,IQ];omega) (by rw[HK,IQ];omega)];omega
  ·rw[wG (y:= -q) hc (by rw[IQ];omega) (by rw[IQ];omega)];omega
 by_cases h2:m=2
 ·subst h2
  simp
  rw[wG (y:=q) hc zA zA]
 ·simp[h1,h2]
  have k1:c* -q= -(c*q):=IQ _ _
  have k2:2*c*(-q-1)=2*(c* -q)-2*c:=by rw[HG,HK];omega
  have k3:2*c* -q=2*(c* -q):=by rw[HG]
  split
  ·rw[wG (y:= -q-1) zA zA zA];omega
  ·rw[wG (y:= -q) zA zA zA];omega
theorem XP (a b c m:Int)(ha1: -9223372036854775808<=a)(ha2:a<=9223372036854775807)(hb1: -9223372036854775808<=b)(hb2:b<=9223372036854775807)(hc:0<c)(hc2:c<=9223372036854775807)(hm:1<=m)(hm3:m<=3)
  (hp:(a*b).natAbs<18446744073709551616) (hp2:((a*b).natAbs:Int)<=c*4611686018427387904):CallOk HT 284 [I a,I b,I c,I m] [] (.tup [Wi (rnd m (a*b) c),Wi 0]) []:=by
 refine kO 100 func284 Ue ntmps284 (by simp[ClV,V.g,Cv.g]) fun C hR=>?_
 simp only[go_sem,Nat.reduceBEq,Nat.reduceAdd,Nat.reduceLT,Nat.reduceLeDiff,Nat.reduceEqDiff,reduceCtorEq]
 have e1:decide (m<1)=false:=by simp;omega
 have e2:decide (3<m)=false:=by simp;omega
 have e3:(c==0)=false:=by simp;omega
 have e4:decide (c<0)=false:=by simp;omega
 simp only[e1,e2,e3,e4,cond_false]
 refine CallQ.pure 100 (rH a ha1 ha2) rfl ?_
 simp only[go_sem,Nat.reduceBEq,Nat.reduceAdd,Nat.reduceLT,Nat.reduceLeDiff,Nat.reduceEqDiff,reduceCtorEq]
 refine CallQ.pure 100 (rH b hb1 hb2) rfl ?_
 simp only[go_sem,Nat.reduceBEq,Nat.reduceAdd,Nat.reduceLT,Nat.reduceLeDiff,Nat.reduceEqDiff,reduceCtorEq]
 refine CallQ.pure 100 (lE _ _ zA zA zA zA) rfl ?_
 simp only[go_sem,Nat.reduceBEq,Nat.reduceAdd,Nat.reduceLT,Nat.reduceLeDiff,Nat.reduceEqDiff,reduceCtorEq]
 refine CallQ.pure 100 (rH c zA zA) rfl ?_
 simp only[go_sem,Nat.reduceBEq,Nat.reduceAdd,Nat.reduceLT,Nat.reduceLeDiff,Nat.reduceEqDiff,reduceCtorEq]
 have hab:(a.natAbs:Int)*b.natAbs=(a*b).natAbs:=by rw[Int.natAbs_mul];simp
 have hcc:(c.natAbs:Int)=c:=zA
 simp only[hab,hcc]
 generalize hpp:((a*b).natAbs:Int)=p at*
 have hp0:0<=p:=zA
 have e5:p/18446744073709551616=0:=zA
 have e6:p%18446744073709551616=p:=zA
 have e7:decide (c<=p/18446744073709551616)=false:=by simp;omega
 have e8:decide (c<=0)=false:=by simp;omega
 simp only[e5,e6,e8]
 refine CallQ.pure 100 (WK p c hp0 zA hc zA) rfl ?_
 simp only[go_sem,Nat.reduceBEq,Nat.reduceAdd,Nat.reduceLT,Nat.reduceLeDiff,Nat.reduceEqDiff,reduceCtorEq]
 have hq0:0<=p/c:=Int.ediv_nonneg hp0 zA
 have hq1:p/c<=4611686018427387904:=HB hc zA
 have hr0:=HM p (show c≠0 by omega)
 have hr1:=Ir p hc
 have e9:decide (9223372036854775808<p/c)=false:=by simp;omega
 simp only[e9]
 refine CallQ.pure 100 (bh _ _ _ m hr0 hr1 zA) rfl ?_
 simp only[go_sem,Nat.reduceBEq,Nat.reduceAdd,Nat.reduceLT,Nat.reduceLeDiff,Nat.reduceEqDiff,reduceCtorEq]
 generalize hneg:((decide (a<0)!=decide (b<0))!=false)=neg
 have hsg:a*b=if neg=true then-p else p:=by
  rcases Ix a 0 with h|h<;>rcases Ix b 0 with h'|h'
  ·have:0<a*b:=Int.mul_pos_of_neg_of_neg h h'
   rw[<-hneg];simp[h,h'];omega
  ·have:a*b<=0:=Int.mul_nonpos_of_nonpos_of_nonneg zA h'
   rw[<-hneg];simp[h,Int.not_lt.2 h'];omega
  ·have:a*b<=0:=Int.mul_nonpos_of_nonneg_of_nonpos h zA
   rw[<-hneg];simp[Int.not_lt.2 h,h'];omega
  ·have:0<=a*b:=Int.mul_nonneg h h'
   rw[<-hneg];simp[Int.not_lt.2 h,Int.not_lt.2 h'];omega
 have hrp:=bj m p c hc
 have hrn:=bm m p c hc
 generalize p/c=q at*
 generalize p%c=r at*
 have hw1:IntKind.u64.wrap (q+1)=q+1:=gU zA zA
 have d1:decide (q+1<=9223372036854775808)=true:=by simp;omega
 have d2:decide (q<=9223372036854775808)=true:=by simp;omega
 have d3:decide (q+1<9223372036854775808)=true:=by simp;omega
 have d4:decide (q<9223372036854775808)=true:=by simp;omega
 simp only[hw1,d1,d2,d3,d4]
 cases neg with
 |false=>
  rw[if_neg z9]at hsg
  rw[<-hsg]at hrp
  simp only[IB,Ic,Jd,cond_false,cond_true]
  generalize (bif m==1 then false else bif m==2 then decide (0<r)else decide (c<=2*r))=up at*
  cases up with
  |true=>
   refine zx hR rfl ⟨rfl,rfl,trivial⟩ ?_ rfl
   rw[hrp,y6 zA zA];simp
  |false=>
   refine zx hR rfl ⟨rfl,rfl,trivial⟩ ?_ rfl
   rw[hrp,y6 zA zA];simp
 |true=>
  rw[if_pos rfl]at hsg
  rw[<-hsg]at hrn
  simp only[Jd,IT,IB,cond_false,cond_true]
  generalize (bif m==1 then decide (0<r)else bif m==2 then false else decide (c<2*r))=up at*
  cases up with
  |true=>
   refine zx hR rfl ⟨rfl,rfl,trivial⟩ ?_ rfl
   rw[hrn]
   simp only[if_true,IntKind.wrap_u64,IntKind.wrap_i64]
   omega
  |false=>
   refine zx hR rfl ⟨rfl,rfl,trivial⟩ ?_ rfl
   rw[hrn]
   simp only[JS,if_false,IntKind.wrap_u64,IntKind.wrap_i64]
   omega
theorem NB (a c m:Int)(ha1: -9223372036854775808<=a)(ha2:a<=9223372036854775807)(hc:0<c)(hc2:c<=9223372036854775807)(hm:1<=m)(hm3:m<=3)(hp2:(a.natAbs:Int)<=c*4611686018427387904):
  CallOk HT 267 [I a,I c,I m] [] (.tup [Wi (rnd m a c),Wi 0]) []:=by
 refine kO 100 func267 Uv ntmps267 (by simp[ClV,V.g,Cv.g]) fun C hR=>?_
 simp only[go_sem,Nat.reduceBEq,Nat.reduceAdd,Nat.reduceLT,Nat.reduceLeDiff,Nat.reduceEqDiff,reduceCtorEq]
 refine CallQ.pure 100 (XP a 1 c m ha1 ha2 zA zA hc hc2 hm hm3 zA zA) rfl ?_
 simp only[go_sem,Nat.reduceBEq,Nat.reduceAdd,Nat.reduceLT,Nat.reduceLeDiff,Nat.reduceEqDiff,reduceCtorEq]
 exact zx hR rfl ⟨rfl,rfl,trivial⟩ (by rw[Int.mul_one]) rfl
theorem di (a c:Int)(ha1: -4611686018427387904<=a)(ha2:a<=4611686018427387904)(hc:0<c)(hc2:c<=9223372036854775807):CallOk HT 227 [I a,I c] [] (I (a/c)) []:=by
 refine kO 100 func227 T8 ntmps227 (by simp[ClV,V.g,Cv.g]) fun C hR=>?_
 simp only[go_sem,Nat.reduceBEq,Nat.reduceAdd,Nat.reduceLT,Nat.reduceLeDiff,Nat.reduceEqDiff,reduceCtorEq]
 refine CallQ.pure 100 (NB a c 1 zA zA hc hc2 zA zA zA) rfl ?_
 simp only[go_sem,Nat.reduceBEq,Nat.reduceAdd,Nat.reduceLT,Nat.reduceLeDiff,Nat.reduceEqDiff,reduceCtorEq]
 exact ww hR rfl
structure Ft where
 bits:Int
 signed:Bool
 num:Int
 off:Int
 den:Int
 m:Int
 kg:Int
 s:Int
 a:Int
 k:Int
@[go_sem] def ci (n:Int):Cv:= .v (.int .i64 n)
@[go_sem] def un (m kg s a k:Int):V:= .agg [ci m,ci kg,ci s,ci a,ci k]
@[go_sem] def fx (t:Ft):V:= .agg [ci t.bits,.v (.bool t.signed),ci t.num,ci t.off,ci t.den,ci t.m,ci t.kg,ci t.s,ci t.a,ci t.k]
def wL (m kg s a k:Int):Bool:=decide ((-9<=m/\m<=9)/\(-9<=kg/\kg<=9)/\(-9<=s/\s<=9)/\(-9<=a/\a<=9)/\(-9<=k/\k<=9))
theorem vq (n:Nat)(cs:List Cv)(el:TypeId)(hc:ClM [(n,⟨true,cs,el⟩)])(hn:n≠1000):CallOk HT 214 [.c (.p n 0)] [(n,⟨true,cs,el⟩)] (.agg [.p n 0,.p n 1,.p n 2,.p n 3,.p n 4]) []:=by
 have hcl:∀off,∀β β',Agree [(n,⟨true,cs,el⟩)] β β'->Cv.g β' (.p n off)=Cv.g β (.p n off):=fun off β β' h=>by simp[Cv.g,h n (by simp[Mem.get])]
 refine jk 1000 func214 rfl Tm (by simp[ntmps214]) (by simp[ClV,V.g];intro β β' h;exact hcl 0 β β' h) fun C hR=>?_
 have hn':(n==1000)=false:=by simpa using hn
 refine vv ?_
 simp only[hn',cond_false]
 refine⟨trivial,Sm.dg 1001 16 zi ?_⟩
 refine vv ?_
 have hn2:(1000==n)=false:=by simp;omega
 refine zN hR rfl ⟨⟨rfl,by simp[Za],by simp[Za]⟩,trivial⟩ ?_ (Sub.one (b':=⟨true,cs,el⟩) (by simp[Mem.get,hn2]) (Wk.refl _)) hc ?_
 ·rfl
 ·intro β β' h
  simp[V.g,hcl _ β β' h]
theorem qm (m kg s a k:Int):CallOk HT 153 [un m kg s a k] [] (Bo (wL m kg s a k)) []:=by
 refine kO 100 func153 Sj ntmps153 (by simp[ClV,V.g,Cv.g,un,ci]) fun C hR=>?_
 refine vv ?_
 refine CallQ.mem 101 (vq 100 [ci m,ci kg,ci s,ci a,ci k] 23 (ClM.v rfl) yp) rfl (Sub.one (b':=⟨false,[ci m,ci kg,ci s,ci a,ci k],53⟩) rfl (.inr ⟨rfl,[],rfl⟩)) (ClM.v rfl) (vv ?_)
 refine zf 6 (zB 101 ?_)
 refine vv ?_
 have key:∀(x:Int) (A B:Prop),(¬(-9<=x/\x<=9)->A)->((-9<=x/\x<=9)->B)->(match (bif decide (x< -9)then true else decide (9<x))with|true=>A|false=>B):=by
  intro x A B h1 h2
  by_cases hx: -9<=x/\x<=9
  ·have e1:decide (x< -9)=false:=by simp;omega
   have e2:decide (9<x)=false:=by simp;omega
   rw[e1,e2];exact h2 hx
  ·have:(bif decide (x< -9)then true else decide (9<x))=true:=by
    by_cases h3:x< -9
    ·simp[h3]
    ·simp[h3];omega
   rw[this];exact h1 hx
 refine key m _ _ (fun h=>RetQ.bool hR rfl ⟨rfl,trivial⟩ (by unfold wL;simp[h])) fun h0=>?_
 refine key kg _ _ (fun h=>RetQ.bool hR rfl ⟨rfl,trivial⟩ (by unfold wL;simp[h])) fun h1=>?_
 refine key s _ _ (fun h=>RetQ.bool hR rfl ⟨rfl,trivial⟩ (by unfold wL;simp[h])) fun h2=>?_
 refine key a _ _ (fun h=>RetQ.bool hR rfl ⟨rfl,trivial⟩ (by unfold wL;simp[h])) fun h3=>?_
 refine key k _ _ (fun h=>RetQ.bool hR rfl ⟨rfl,trivial⟩ (by unfold wL;simp[h])) fun h4=>?_
 exact RetQ.bool hR rfl ⟨rfl,trivial⟩ (by unfold wL;simp[h0,h1,h2,h3,h4])
def fok (t:Ft):Bool:=decide (t.bits=8\/t.bits=16\/t.bits=32)&&decide (1<=t.num/\t.num<=1048576)&&decide (1<=t.den/\t.den<=1048576)&&decide (-1073741824<=t.off/\t.off<=1073741824)&&wL t.m t.kg t.s t.a t.k
theorem td (t:Ft):CallOk HT 69 [fx t] [] (Bo (fok t)) []:=by
 refine kO 100 func69 OS ntmps69 (by simp[ClV,V.g,Cv.g,fx,ci]) fun C hR=>?_
 refine vv ?_
 refine CallQ.guard 101 (fun _=>qm t.m t.kg t.s t.a t.k) (fun h=>by rw[h];rfl) (vv ?_)
 refine zp hR ?_
 unfold fok
 rw[JP]
 simp only[JT,JB,decide_eq_true_eq,beq_iff_eq]
 generalize wL t.m t.kg t.s t.a t.k=u
 grind
def qT (t:Ft):Int:=bif t.signed then-(2^(t.bits.toNat-1))else 0
def oI (t:Ft):Int:=bif t.signed then 2^(t.bits.toNat-1)-1 else 2^t.bits.toNat-1
theorem pW {t:Ft}(h:fok t=true):t.bits=8\/t.bits=16\/t.bits=32:=by
 unfold fok at h;simp at h;exact h.1.1.1.1
theorem jQ (t:Ft):CallOk HT 212 [fx t] [] (.tup [Wi (bif fok t then qT t else 0),Wi (bif fok t then oI t else 0)]) []:=by
 refine kO 100 func212 To ntmps212 (by simp[ClV,V.g,Cv.g,fx,ci]) fun C hR=>?_
 refine vv ?_
 refine CallQ.pure 101 (td t) rfl (vv ?_)
 cases h:fok t with
 |false=>
  simp only[h,cond_false,Ic]at hR⊢
  exact zx hR rfl ⟨rfl,rfl,trivial⟩ rfl rfl
 |true=>
  simp only[h,cond_true,IT]at hR⊢
  have hb:=pW h
  clear h
  obtain⟨bits,signed,num,off,den,m,kg,s,a,k⟩:=t
  simp only at hb hR⊢
  cases signed with
  |true=>
   refine Sm.dg 101 10 zi (vv ?_)
   rcases hb with rfl|rfl|rfl
   ·exact⟨yp,yp,zx hR rfl ⟨rfl,rfl,trivial⟩ rfl rfl⟩
   ·exact⟨yp,yp,zx hR rfl ⟨rfl,rfl,trivial⟩ rfl rfl⟩
   ·exact⟨yp,yp,zx hR rfl ⟨rfl,rfl,trivial⟩ rfl rfl⟩
  |false=>
   refine Sm.dg 101 5 zi (vv ?_)
   rcases hb with rfl|rfl|rfl
   ·exact⟨yp,zx hR rfl ⟨rfl,rfl,trivial⟩ rfl rfl⟩
   ·exact⟨yp,zx hR rfl ⟨rfl,rfl,trivial⟩ rfl rfl⟩
   ·exact⟨yp,zx hR rfl ⟨rfl,rfl,trivial⟩ rfl rfl⟩
theorem dI (t:Ft)(h:fok t=true):CallOk HT 212 [fx t] [] (.tup [Wi (qT t),Wi (oI t)]) []:=by
 have:=jQ t
 rw[h]at this
 exact this
def uc (t:Ft)(raw:Int):Bool:=decide (qT t<=raw)&&decide (raw<=oI t)
@[go_sem] def ra (n d:Int):V:= .agg [ci n,ci d]
theorem pY (t:Ft)(h:fok t=true): -2147483648<=qT t/\qT t<=0/\0<oI t/\oI t<=4294967295:=by
 have hb:=pW h
 unfold qT oI
 rcases hb with hb|hb|hb<;>rw[hb]<;>cases t.signed<;>decide
theorem vY {t:Ft}(h:fok t=true):1<=t.num/\t.num<=1048576/\1<=t.den/\t.den<=1048576/\ -1073741824<=t.off/\t.off<=1073741824:=by
 unfold fok at h;simp at h;omega
theorem Xu {t:Ft}{raw:Int}(h:fok t=true)(hw:uc t raw=true): -2147483648<=raw/\raw<=4294967295:=by
 have:=pY t h
 unfold uc at hw;simp at hw;omega
theorem jI {a b A B:Int}(h1: -A<=a)(h2:a<=A)(h3:0<=b)(h4:b<=B): -(A*B)<=a*b/\a*b<=A*B:=by
 have hA:0<=A:=zA
 constructor
 ·have e1:=IN h1 h3
  have e2:=IX h4 hA
  rw[Int.neg_mul]at e1;omega
 ·have e1:=IN h2 h3
  have e2:=IX h4 hA
  omega
def xG (t:Ft)(raw:Int):Int:=raw*t.num+t.off
theorem uq {t:Ft}{raw:Int}(h:fok t=true)(hw:uc t raw=true): -4503600701112320<=xG t raw/\xG t raw<=4503600701112320/\ -4503599627370496<=raw*t.num/\raw*t.num<=4503599627370496:=by
 have h1:=Xu h hw
 have h2:=vY h
 have h3:=jI (a:=raw) (b:=t.num) (A:=4294967296) (B:=1048576) zA zA zA zA
 unfold xG
 omega
abbrev S (l:List UInt8):V:= .c (.v (.string ⟨l.toArray⟩))
abbrev Ws (l:List UInt8):W:= .c (.v (.string ⟨l.toArray⟩))
abbrev Y1 (b:Bool):W:= .c (.v (.bool b))
abbrev Y (n:Int):V:= .c (.v (.int .u8 n))
@[go_sem] theorem Kg (l:List UInt8):l.toArray.toList=l:=z9
@[go_sem ↓] theorem Q2:rm 1 1=[(0,1)]:=rfl
@[go_sem ↓] theorem QV:rm 5 1=[(0,1),(1,1),(2,1),(3,1),(4,1)]:=rfl
@[go_sem ↓] theorem VS:rm 11 1=[(0,1),(1,1),(2,1),(3,1),(4,1),(5,1),(6,1),(7,1),(8,1),(9,1),(10,1)]:=rfl
@[go_sem ↓] theorem VR:rm 11 5=[(0,5),(5,5),(10,5),(15,5),(20,5),(25,5),(30,5),(35,5),(40,5),(45,5),(50,5)]:=rfl
@[go_sem ↓] theorem VQ:rm 11 6=[(0,6),(6,6),(12,6),(18,6),(24,6),(30,6),(36,6),(42,6),(48,6),(54,6),(60,6)]:=rfl
@[go_sem ↓] theorem VT:rm 10 3=[(0,3),(3,3),(6,3),(9,3),(12,3),(15,3),(18,3),(21,3),(24,3),(27,3)]:=rfl
theorem zV {c:Bool}{A B:Prop}(ht:c=true->A)(hf:c=false->B):(match (generalizing:=false) c with|true=>A|false=>B):=by
 cases c
 ·exact hf rfl
 ·exact ht rfl
theorem yZ {p:Prop} [Decidable p](h:¬p):decide p=false:=by simpa using h
theorem yS {p:Prop} [Decidable p](h:p):decide p=true:=by simpa using h
theorem v8 {M:Mem}{l:List V}(h:l.all (V.inM M)=true):∀x∈l,ClV M x:=fun x hx=>zG (JD.1 h x hx)
abbrev KO (l:List UInt8):Cv:= .v (.string ⟨l.toArray⟩)
theorem yD {ρ:Nat->Nat}{r:Bool}{l:List Cv}{t:TypeId}(h:l.all Cv.isV=true):(⟨r,l,t⟩:Bk).ren ρ=⟨r,l,t⟩:=by
 unfold Bk.ren
 congr 1
 have:=JD.1 h
 conv=>rhs;rw[<-HI l]
 refine JV fun x hx=>?_
 have:=this x hx
 cases x<;>first|rfl|cases this
theorem z6 {M:Mem}{l:List Cv}(h:l.all Cv.isV=true):l.all (Cv.inM M)=true:=by
 refine JD.2 fun x hx=>?_
 have:=JD.1 h x hx
 cases x<;>first|rfl|cases this
structure Un where
 m:Int
 kg:Int
 s:Int
 a:Int
 k:Int
deriving DecidableEq
@[go_sem] def W6 (u:Un):List Cv:=[.v (.int .i64 u.m),.v (.int .i64 u.kg),.v (.int .i64 u.s),.v (.int .i64 u.a),.v (.int .i64 u.k)]
@[reducible] def uu (u:Un):V:= .agg (W6 u)
@[reducible] def NZ (u:Un):W:= .agg (W6 u)
def u0:Un:=⟨0,0,0,0,0⟩
def nN (u:Un):Bool:=wL u.m u.kg u.s u.a u.k
theorem mZ {u:Un}:nN u=true↔(-9<=u.m/\u.m<=9)/\(-9<=u.kg/\u.kg<=9)/\(-9<=u.s/\u.s<=9)/\(-9<=u.a/\u.a<=9)/\(-9<=u.k/\u.k<=9):=by
 unfold nN wL;rw[decide_eq_true_eq]
theorem nM (u:Un):CallOk HT 153 [uu u] [] (Bo (nN u)) []:=qm u.m u.kg u.s u.a u.k
def fo (a b:Un)(k:Int):Un:=⟨a.m+k*b.m,a.kg+k*b.kg,a.s+k*b.s,a.a+k*b.a,a.k+k*b.k⟩
def mP (a b:Un)(k:Int):Int:=bif nN a&&nN b then(bif nN (fo a b k)then 0 else 2)else 1
def la (a b:Un)(k:Int):Un:=bif mP a b k==0 then fo a b k else u0
theorem qO (n:Nat)(cs:List Cv)(el:TypeId)(h:cs.all Cv.isV=true):ClM [(n,⟨true,cs,el⟩)]:=zD (by simp only[Kw,z6 h];rfl)
theorem vT:CallOk HT 247 [] [] (uu u0) []:=by
 refine kN 100 func247 TL ntmps247 fun C hR hP=>?_
 refine vv ?_
 exact zN hR rfl (vv trivial) xz (Sub.nil _) ClM.nil (zG rfl)
theorem lY (a b:Un)(k:Int)(hk:k=1\/k= -1):CallOk HT 264 [uu a,uu b,I k] [] (.tup [NZ (la a b k),Wi (mP a b k)]) []:=by
 refine kN 100 func264 YD ntmps264 fun C hR hP=>?_
 refine vv ?_
 refine CallQ.pure 110 (nM a) rfl (vv ?_)
 refine CallQ.guard 110 (fun _=>nM b) (fun h=>by rw[h];rfl) (vv ?_)
 cases ha:nN a with
 |false=>
  have e1:mP a b k=1:=by rw[mP,ha];rfl
  have e2:la a b k=u0:=by rw[la,e1];rfl
  rw[e1,e2]at hR
  refine vv ?_
  exact zN hR rfl (vv trivial) xz (Sub.nil _) ClM.nil (zG rfl)
 |true=>
 cases hb:nN b with
 |false=>
  have e1:mP a b k=1:=by rw[mP,ha,hb];rfl
  have e2:la a b k=u0:=by rw[la,e1];rfl
  rw[e1,e2]at hR
  refine vv ?_
  exact zN hR rfl (vv trivial) xz (Sub.nil _) ClM.nil (zG rfl)
 |true=>
 have ha':=mZ.1 ha
 have hb':=mZ.1 hb
 refine vv ?_
 refine CallQ.mem 120 (vq 100 (W6 a) 53 (qO _ _ _ rfl) yp) rfl (Sub.one (b':=⟨false,W6 a,53⟩) rfl (.inr ⟨rfl,[],rfl⟩)) (qO _ _ _ rfl) (vv ?_)
 refine CallQ.mem 120 (vq 101 (W6 b) 53 (qO _ _ _ rfl) yp) rfl (Sub.one (b':=⟨false,W6 b,53⟩) rfl (.inr ⟨rfl,[],rfl⟩)) (qO _ _ _ rfl) (vv ?_)
 have wr:∀x y:Int, -9<=x/\x<=9-> -9<=y/\y<=9->IntKind.i64.wrap (x+IntKind.i64.wrap (k*y))=x+k*y:=by
  intro x y hx hy
  rcases hk with rfl|rfl
  ·rw[y6 (x:=1*y) zA zA,y6 zA zA]
  ·rw[y6 (x:= -1*y) zA zA,y6 zA zA]
 refine zf 6 (zB 130 ?_)
 refine vv ?_
 refine Sm.dg 130 12 zi ?_
 simp only[go_sem,wr _ _ ha'.1 hb'.1]
 refine Sm.dg 130 12 zi ?_
 simp only[go_sem,wr _ _ ha'.2.1 hb'.2.1]
 refine Sm.dg 130 12 zi ?_
 simp only[go_sem,wr _ _ ha'.2.2.1 hb'.2.2.1]
 refine Sm.dg 130 12 zi ?_
 simp only[go_sem,wr _ _ ha'.2.2.2.1 hb'.2.2.2.1]
 refine Sm.dg 130 12 zi ?_
 simp only[go_sem,wr _ _ ha'.2.2.2.2 hb'.2.2.2.2]
 refine CallQ.pure 140 (nM (fo a b k)) rfl (vv ?_)
 cases hu:nN (fo a b k)with
 |false=>
  have e1:mP a b k=2:=by rw[mP,ha,hb,hu];rfl
  have e2:la a b k=u0:=by rw[la,e1];rfl
  rw[e1,e2]at hR
  refine vv ?_
  exact zN hR rfl (vv trivial) xz (Sub.nil _) ClM.nil (zG rfl)
 |true=>
  have e1:mP a b k=0:=by rw[mP,ha,hb,hu];rfl
  have e2:la a b k=fo a b k:=by rw[la,e1];rfl
  rw[e1,e2]at hR
  refine vv ?_
  exact zN hR rfl (vv trivial) xz (Sub.nil _) ClM.nil (zG rfl)
theorem PQ (a b:Un):CallOk HT 221 [uu a,uu b] [] (.tup [NZ (la a b 1),Wi (mP a b 1)]) []:=by
 refine kN 100 func221 YG ntmps221 fun C hR hP=>?_
 refine vv ?_
 refine CallQ.pure 110 (lY a b 1 (.inl rfl)) rfl (vv ?_)
 exact zN hR rfl (vv trivial) xz (Sub.nil _) ClM.nil (zG rfl)
theorem Re (a b:Un):CallOk HT 222 [uu a,uu b] [] (.tup [NZ (la a b (-1)),Wi (mP a b (-1))]) []:=by
 refine kN 100 func222 YF ntmps222 fun C hR hP=>?_
 refine vv ?_
 refine CallQ.pure 110 (lY a b (-1) (.inr rfl)) rfl (vv ?_)
 exact zN hR rfl (vv trivial) xz (Sub.nil _) ClM.nil (zG rfl)
theorem sU {α:Type}(f:α->List Cv)(k:Nat)(hk:∀x,(f x).length=k):∀(l:List α),(l.flatMap f).length=l.length*k
 |[]=>by simp
 |x::l=>by rw[List.flatMap_cons,JM,sU f k hk l,hk,JQ,Iz];omega
end Go.Proofs.YtbnkiacicnnmkaaGreat.Fx
