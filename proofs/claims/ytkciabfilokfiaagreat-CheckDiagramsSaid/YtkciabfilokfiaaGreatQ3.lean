/-  -/
import Derived.Test.YtkciabfilokfiaaGreatTf
import Derived.Lib.Bytealg
import Derived.Lib.IndexLaws
open Go.Proofs.Tryz
open Go.Proofs.Tryz renaming prog→Hf
set_option linter.unusedSimpArgs false
set_option linter.unusedVariables false
set_option maxRecDepth 100000
set_option maxHeartbeats 4000000
namespace Go.Proofs.YtkciabfilokfiaaGreat.Fx
open Vg Tf
abbrev I (n:Int):V:= .c (.v (.int .i64 n))
abbrev U (n:Int):V:= .c (.v (.int .u64 n))
abbrev Bo (b:Bool):V:= .c (.v (.bool b))
abbrev Wi (n:Int):W:= .c (.v (.int .i64 n))
abbrev Wu (n:Int):W:= .c (.v (.int .u64 n))
theorem ya {x:Int}(h1: -9223372036854775808<=x)(h2:x<=9223372036854775807):IntKind.i64.wrap x=x:=IntWalk.i64_in x ⟨h1,h2⟩
theorem tL {x:Int}(h1:0<=x)(h2:x<18446744073709551616):IntKind.u64.wrap x=x:=by rw[IntKind.wrap_u64];omega
theorem qm (x:Int)(h1: -9223372036854775808<=x)(h2:x<=9223372036854775807):CallOk Hf 299 [I x] [] (U x.natAbs) []:=by
 refine kO 100 func299 TG ntmps299 (by simp[ClV,V.g,Cv.g]) fun C hR=>?_
 simp only[go_sem,Nat.reduceBEq,Nat.reduceAdd,Nat.reduceLT,Nat.reduceLeDiff,Nat.reduceEqDiff,reduceCtorEq]
 split
 ·rename_i h
  refine uT hR ?_
  simp at h
  rw[IntKind.wrap_u64,IntKind.wrap_u64,IntKind.wrap_i64,IntKind.wrap_i64]
  omega
 ·rename_i h
  refine uT hR ?_
  simp at h
  rw[IntKind.wrap_u64]
  omega
theorem XQ (x:Int):x.fdiv (2^min (Int.toNat 32) 64)=x/4294967296:=by
 rw[show(2:Int)^min (Int.toNat 32) 64=4294967296 from rfl]
 exact I3 x zA
theorem jc (x y:Int)(hx0:0<=x)(hx:x<18446744073709551616)(hy0:0<=y)(hy:y<18446744073709551616):CallOk Hf 279 [U x,U y] [] (.tup [Wu (x*y/18446744073709551616),Wu (x*y%18446744073709551616)]) []:=by
 refine kO 100 func279 TZ ntmps279 (by simp[ClV,V.g,Cv.g]) fun C hR=>?_
 simp only[go_sem,Nat.reduceBEq,Nat.reduceAdd,Nat.reduceLT,Nat.reduceLeDiff,Nat.reduceEqDiff,reduceCtorEq]
 refine yJ hR rfl ⟨rfl,rfl,trivial⟩ ?_ (IntKind.wrap_u64 _)
 have hm:=mul64_arith x y hx0 hx hy0 hy
 have hp:∀z:Int,0<=z%18446744073709551616/\z%18446744073709551616<18446744073709551616:=fun z=>by omega
 simp only[IntKind.wrap_u64,show∀z:Int,z.fdiv (2^min 32 64)=z/4294967296 from XQ]
 rw[and_low32 x hx0 hx,and_low32 y hy0 hy]
 rw[and_low32 _ (hp _).1 (hp _).2]
 exact hm
theorem VQ (lo y:Int)(hl0:0<=lo)(hl:lo<18446744073709551616)(hy0:0<y)(hy:y<18446744073709551616):CallOk Hf 300 [U 0,U lo,U y] [] (.tup [Wu (lo/y),Wu (lo%y)]) []:=by
 refine kO 100 func300 TF ntmps300 (by simp[ClV,V.g,Cv.g]) fun C hR=>?_
 simp only[go_sem,Nat.reduceBEq,Nat.reduceAdd,Nat.reduceLT,Nat.reduceLeDiff,Nat.reduceEqDiff,reduceCtorEq]
 have e1:(y==0)=false:=by simp;omega
 have e2:decide (y<=0)=false:=by simp;omega
 simp only[e1,e2]
 refine ZK 200 8 ze (by decide+kernel) (by decide+kernel) ?_
 simp only[go_sem,Nat.reduceBEq,Nat.reduceAdd,Nat.reduceLT,Nat.reduceLeDiff,Nat.reduceEqDiff,reduceCtorEq]
 have e3:lo.tdiv y=lo/y:=II hl0
 have e4:lo.tmod y=lo%y:=I5 hl0
 have e5:0<=lo/y:=HB hl0 zA
 have e6:lo/y<=lo:=Int.ediv_le_self _ hl0
 refine⟨zA,zA,?_⟩
 refine yJ hR rfl ⟨rfl,rfl,trivial⟩ ?_ e4
 rw[e3,tL e5 zA]
def rnd (m p c:Int):Int:=if m=1 then p/c else if m=2 then-((-p)/c)else(2*p+c)/(2*c)
theorem Z7 (r c:Int)(neg:Bool)(m:Int)(hr:0<=r)(hc:r<c)(hc2:c<18446744073709551616):
  CallOk Hf 301 [U r,U c,Bo neg,I m] [] (Bo (bif m==1 then neg&&decide (0<r)else bif m==2 then !neg&&decide (0<r)else bif neg then decide (c<2*r)else decide (c<=2*r))) []:=by
 refine kO 100 func301 TE ntmps301 (by simp[ClV,V.g,Cv.g]) fun C hR=>?_
 simp only[go_sem,Nat.reduceBEq,Nat.reduceAdd,Nat.reduceLT,Nat.reduceLeDiff,Nat.reduceEqDiff,reduceCtorEq]
 have hw:IntKind.u64.wrap (c-r)=c-r:=tL zA zA
 simp only[hw]
 cases h1:(m==1)with
 |true=>
  simp only[h1,cond_true]at hR⊢
  refine yL hR ?_
  cases neg<;>rfl
 |false=>
  cases h2:(m==2)with
  |true=>
   simp only[h1,h2,cond_true,cond_false]at hR⊢
   refine yL hR ?_
   cases neg<;>rfl
  |false=>
   simp only[h1,h2,cond_true,cond_false]at hR⊢
   cases neg with
   |true=>
    simp only[cond_true]at hR⊢
    refine yL hR ?_
    rw[decide_eq_decide];omega
   |false=>
    simp only[cond_false]at hR⊢
    refine yL hR ?_
    rw[decide_eq_decide];omega
theorem wW {x d y:Int}(hd:0<d)(h1:d*y<=x)(h2:x<d*y+d):x/d=y:=by
 have h3:=IP x d
 have h4:=HA x (show d≠0 by omega)
 have h5:=Ij x hd
 have h6:d*(x/d-y)<d*1:=by rw[H6];omega
 have h7:d*(y-x/d)<d*1:=by rw[H6];omega
 have h8:=Int.lt_of_mul_lt_mul_left h6 zA
 have h9:=Int.lt_of_mul_lt_mul_left h7 zA
 omega
theorem f8 (m p c:Int)(hc:0<c):rnd m p c=p/c+(if (bif m==1 then false else bif m==2 then decide (0<p%c)else decide (c<=2*(p%c)))=true then 1 else 0):=by
 have h3:=IP p c
 have h4:=HA p (show c≠0 by omega)
 have h5:=Ij p hc
 generalize p%c=r at*
 generalize p/c=q at*
 unfold rnd
 by_cases h1:m=1
 ·subst h1
  simp
  exact wW hc zA zA
 by_cases h2:m=2
 ·subst h2
  simp
  split
  ·rw[wW (y:= -q-1) hc (by rw[H6,IV];omega) (by rw[H6,IV];omega)];omega
  ·rw[wW (y:= -q) hc (by rw[IV];omega) (by rw[IV];omega)];omega
 ·simp[h1,h2]
  split
  ·exact wW zA (by rw[HD,HO];omega) (by rw[HD,HO];omega)
  ·exact wW zA (by rw[HD,HO];omega) (by rw[HD,HO];omega)
theorem f9 (m p c:Int)(hc:0<c):rnd m (-p) c= -(p/c+(if (bif m==1 then decide (0<p%c)else bif m==2 then false else decide (c<2*(p%c)))=true then 1 else 0)):=by
 have h3:=IP p c
 have h4:=HA p (show c≠0 by omega)
 have h5:=Ij p hc
 generalize p%c=r at*
 generalize p/c=q at*
 unfold rnd
 by_cases h1:m=1
 ·subst h1
  simp
  split
  ·rw[wW (y:= -q-1) hc (by rw[H6,IV];omega) (by rw[H6,IV];omega)];omega
  ·rw[wW (y:= -q) hc (by rw[IV];omega) (by rw[IV];omega)];omega
 by_cases h2:m=2
 ·subst h2
  simp
  rw[wW (y:=q) hc zA zA]
 ·simp[h1,h2]
  have k1:c* -q= -(c*q):=IV _ _
  have k2:2*c*(-q-1)=2*(c* -q)-2*c:=by rw[HD,H6];omega
  have k3:2*c* -q=2*(c* -q):=by rw[HD]
  split
  ·rw[wW (y:= -q-1) zA zA zA];omega
  ·rw[wW (y:= -q) zA zA zA];omega
theorem Wh (a b c m:Int)(ha1: -9223372036854775808<=a)(ha2:a<=9223372036854775807)(hb1: -9223372036854775808<=b)(hb2:b<=9223372036854775807)(hc:0<c)(hc2:c<=9223372036854775807)(hm:1<=m)(hm3:m<=3)
  (hp:(a*b).natAbs<18446744073709551616) (hp2:((a*b).natAbs:Int)<=c*4611686018427387904):CallOk Hf 298 [I a,I b,I c,I m] [] (.tup [Wi (rnd m (a*b) c),Wi 0]) []:=by
 refine kO 100 func298 TH ntmps298 (by simp[ClV,V.g,Cv.g]) fun C hR=>?_
 simp only[go_sem,Nat.reduceBEq,Nat.reduceAdd,Nat.reduceLT,Nat.reduceLeDiff,Nat.reduceEqDiff,reduceCtorEq]
 have e1:decide (m<1)=false:=by simp;omega
 have e2:decide (3<m)=false:=by simp;omega
 have e3:(c==0)=false:=by simp;omega
 have e4:decide (c<0)=false:=by simp;omega
 simp only[e1,e2,e3,e4,cond_false]
 refine CallQ.pure 100 (qm a ha1 ha2) rfl ?_
 simp only[go_sem,Nat.reduceBEq,Nat.reduceAdd,Nat.reduceLT,Nat.reduceLeDiff,Nat.reduceEqDiff,reduceCtorEq]
 refine CallQ.pure 100 (qm b hb1 hb2) rfl ?_
 simp only[go_sem,Nat.reduceBEq,Nat.reduceAdd,Nat.reduceLT,Nat.reduceLeDiff,Nat.reduceEqDiff,reduceCtorEq]
 refine CallQ.pure 100 (jc _ _ zA zA zA zA) rfl ?_
 simp only[go_sem,Nat.reduceBEq,Nat.reduceAdd,Nat.reduceLT,Nat.reduceLeDiff,Nat.reduceEqDiff,reduceCtorEq]
 refine CallQ.pure 100 (qm c zA zA) rfl ?_
 simp only[go_sem,Nat.reduceBEq,Nat.reduceAdd,Nat.reduceLT,Nat.reduceLeDiff,Nat.reduceEqDiff,reduceCtorEq]
 have hab:(a.natAbs:Int)*b.natAbs=(a*b).natAbs:=by rw[Int.natAbs_mul];simp
 have hcc:(c.natAbs:Int)=c:=zA
 simp only[hab,hcc]
 generalize hpp:((a*b).natAbs:Int)=p at*
 have hp0:0<=p:=zA
 have e5:p/18446744073709551616=0:=zA
 have e6:p%18446744073709551616=p:=zA
 have e7:decide (c<=p/18446744073709551616)=false:=by simp;omega
 have e8:decide (c<=0)=false:=by simp;omega
 simp only[e5,e6,e8]
 refine CallQ.pure 100 (VQ p c hp0 zA hc zA) rfl ?_
 simp only[go_sem,Nat.reduceBEq,Nat.reduceAdd,Nat.reduceLT,Nat.reduceLeDiff,Nat.reduceEqDiff,reduceCtorEq]
 have hq0:0<=p/c:=HB hp0 zA
 have hq1:p/c<=4611686018427387904:=Il hc zA
 have hr0:=HA p (show c≠0 by omega)
 have hr1:=Ij p hc
 have e9:decide (9223372036854775808<p/c)=false:=by simp;omega
 simp only[e9]
 refine CallQ.pure 100 (Z7 _ _ _ m hr0 hr1 zA) rfl ?_
 simp only[go_sem,Nat.reduceBEq,Nat.reduceAdd,Nat.reduceLT,Nat.reduceLeDiff,Nat.reduceEqDiff,reduceCtorEq]
 generalize hneg:((decide (a<0)!=decide (b<0))!=false)=neg
 have hsg:a*b=if neg=true then-p else p:=by
  rcases HJ a 0 with h|h<;>rcases HJ b 0 with h'|h'
  ·have:0<a*b:=Int.mul_pos_of_neg_of_neg h h'
   rw[<-hneg];simp[h,h'];omega
  ·have:a*b<=0:=Int.mul_nonpos_of_nonpos_of_nonneg zA h'
   rw[<-hneg];simp[h,HM.2 h'];omega
  ·have:a*b<=0:=Int.mul_nonpos_of_nonneg_of_nonpos h zA
   rw[<-hneg];simp[HM.2 h,h'];omega
  ·have:0<=a*b:=Ih h h'
   rw[<-hneg];simp[HM.2 h,HM.2 h'];omega
 have hrp:=f8 m p c hc
 have hrn:=f9 m p c hc
 generalize p/c=q at*
 generalize p%c=r at*
 have hw1:IntKind.u64.wrap (q+1)=q+1:=tL zA zA
 have d1:decide (q+1<=9223372036854775808)=true:=by simp;omega
 have d2:decide (q<=9223372036854775808)=true:=by simp;omega
 have d3:decide (q+1<9223372036854775808)=true:=by simp;omega
 have d4:decide (q<9223372036854775808)=true:=by simp;omega
 simp only[hw1,d1,d2,d3,d4]
 cases neg with
 |false=>
  rw[if_neg zc]at hsg
  rw[<-hsg]at hrp
  simp only[HI,Bool.not_false,Je,cond_false,cond_true]
  generalize (bif m==1 then false else bif m==2 then decide (0<r)else decide (c<=2*r))=up at*
  cases up with
  |true=>
   refine yJ hR rfl ⟨rfl,rfl,trivial⟩ ?_ rfl
   rw[hrp,ya zA zA];simp
  |false=>
   refine yJ hR rfl ⟨rfl,rfl,trivial⟩ ?_ rfl
   rw[hrp,ya zA zA];simp
 |true=>
  rw[if_pos rfl]at hsg
  rw[<-hsg]at hrn
  simp only[Je,Bool.not_true,HI,cond_false,cond_true]
  generalize (bif m==1 then decide (0<r)else bif m==2 then false else decide (c<2*r))=up at*
  cases up with
  |true=>
   refine yJ hR rfl ⟨rfl,rfl,trivial⟩ ?_ rfl
   rw[hrn]
   simp only[if_true,IntKind.wrap_u64,IntKind.wrap_i64]
   omega
  |false=>
   refine yJ hR rfl ⟨rfl,rfl,trivial⟩ ?_ rfl
   rw[hrn]
   simp only[JU,if_false,IntKind.wrap_u64,IntKind.wrap_i64]
   omega
theorem NI (a c m:Int)(ha1: -9223372036854775808<=a)(ha2:a<=9223372036854775807)(hc:0<c)(hc2:c<=9223372036854775807)(hm:1<=m)(hm3:m<=3)(hp2:(a.natAbs:Int)<=c*4611686018427387904):
  CallOk Hf 291 [I a,I c,I m] [] (.tup [Wi (rnd m a c),Wi 0]) []:=by
 refine kO 100 func291 TN ntmps291 (by simp[ClV,V.g,Cv.g]) fun C hR=>?_
 simp only[go_sem,Nat.reduceBEq,Nat.reduceAdd,Nat.reduceLT,Nat.reduceLeDiff,Nat.reduceEqDiff,reduceCtorEq]
 refine CallQ.pure 100 (Wh a 1 c m ha1 ha2 zA zA hc hc2 hm hm3 zA zA) rfl ?_
 simp only[go_sem,Nat.reduceBEq,Nat.reduceAdd,Nat.reduceLT,Nat.reduceLeDiff,Nat.reduceEqDiff,reduceCtorEq]
 exact yJ hR rfl ⟨rfl,rfl,trivial⟩ (by rw[Int.mul_one]) rfl
theorem aP (a c:Int)(ha1: -4611686018427387904<=a)(ha2:a<=4611686018427387904)(hc:0<c)(hc2:c<=9223372036854775807):CallOk Hf 281 [I a,I c] [] (I (a/c)) []:=by
 refine kO 100 func281 TX ntmps281 (by simp[ClV,V.g,Cv.g]) fun C hR=>?_
 simp only[go_sem,Nat.reduceBEq,Nat.reduceAdd,Nat.reduceLT,Nat.reduceLeDiff,Nat.reduceEqDiff,reduceCtorEq]
 refine CallQ.pure 100 (NI a c 1 zA zA hc hc2 zA zA zA) rfl ?_
 simp only[go_sem,Nat.reduceBEq,Nat.reduceAdd,Nat.reduceLT,Nat.reduceLeDiff,Nat.reduceEqDiff,reduceCtorEq]
 exact uT hR rfl
structure Ft where
 bits:Int
 signed:Bool
 num:Int
 off:Int
 den:Int
 m:Int
 kg:Int
 s:Int
 a:Int
 k:Int
@[go_sem] def ci (n:Int):Cv:= .v (.int .i64 n)
@[go_sem] def un (m kg s a k:Int):V:= .agg [ci m,ci kg,ci s,ci a,ci k]
@[go_sem] def fx (t:Ft):V:= .agg [ci t.bits,.v (.bool t.signed),ci t.num,ci t.off,ci t.den,ci t.m,ci t.kg,ci t.s,ci t.a,ci t.k]
def vI (m kg s a k:Int):Bool:=decide ((-9<=m/\m<=9)/\(-9<=kg/\kg<=9)/\(-9<=s/\s<=9)/\(-9<=a/\a<=9)/\(-9<=k/\k<=9))
theorem tF (n:Nat)(cs:List Cv)(el:TypeId)(hc:ClM [(n,⟨true,cs,el⟩)])(hn:n≠1000):CallOk Hf 175 [.c (.p n 0)] [(n,⟨true,cs,el⟩)] (.agg [.p n 0,.p n 1,.p n 2,.p n 3,.p n 4]) []:=by
 have hcl:∀off,∀β β',Agree [(n,⟨true,cs,el⟩)] β β'->Cv.g β' (.p n off)=Cv.g β (.p n off):=fun off β β' h=>by simp[Cv.g,h n (by simp[Mem.get])]
 refine gu 1000 func175 rfl RG (by simp[ntmps175]) (by simp[ClV,V.g];intro β β' h;exact hcl 0 β β' h) fun C hR=>?_
 have hn':(n==1000)=false:=by simpa using hn
 refine vv ?_
 simp only[hn',cond_false]
 refine⟨trivial,Sm.dg 1001 16 ze ?_⟩
 refine vv ?_
 have hn2:(1000==n)=false:=by simp;omega
 refine zX hR rfl ⟨⟨rfl,by simp[XO],by simp[XO]⟩,trivial⟩ ?_ (Sub.one (b':=⟨true,cs,el⟩) (by simp[Mem.get,hn2]) (XD _)) hc ?_
 ·rfl
 ·intro β β' h
  simp[V.g,hcl _ β β' h]
theorem oE (m kg s a k:Int):CallOk Hf 115 [un m kg s a k] [] (Bo (vI m kg s a k)) []:=by
 refine kO 100 func115 QB ntmps115 (by simp[ClV,V.g,Cv.g,un,ci]) fun C hR=>?_
 refine vv ?_
 refine CallQ.mem 101 (tF 100 [ci m,ci kg,ci s,ci a,ci k] 23 (ClM.v rfl) yg) rfl (Sub.one (b':=⟨false,[ci m,ci kg,ci s,ci a,ci k],41⟩) rfl (.inr ⟨rfl,[],rfl⟩)) (ClM.v rfl) (vv ?_)
 refine x6 6 (zB 101 ?_)
 refine vv ?_
 have key:∀(x:Int) (A B:Prop),(¬(-9<=x/\x<=9)->A)->((-9<=x/\x<=9)->B)->(match (bif decide (x< -9)then true else decide (9<x))with|true=>A|false=>B):=by
  intro x A B h1 h2
  by_cases hx: -9<=x/\x<=9
  ·have e1:decide (x< -9)=false:=by simp;omega
   have e2:decide (9<x)=false:=by simp;omega
   rw[e1,e2];exact h2 hx
  ·have:(bif decide (x< -9)then true else decide (9<x))=true:=by
    by_cases h3:x< -9
    ·simp[h3]
    ·simp[h3];omega
   rw[this];exact h1 hx
 refine key m _ _ (fun h=>RetQ.bool hR rfl ⟨rfl,trivial⟩ (by unfold vI;simp[h])) fun h0=>?_
 refine key kg _ _ (fun h=>RetQ.bool hR rfl ⟨rfl,trivial⟩ (by unfold vI;simp[h])) fun h1=>?_
 refine key s _ _ (fun h=>RetQ.bool hR rfl ⟨rfl,trivial⟩ (by unfold vI;simp[h])) fun h2=>?_
 refine key a _ _ (fun h=>RetQ.bool hR rfl ⟨rfl,trivial⟩ (by unfold vI;simp[h])) fun h3=>?_
 refine key k _ _ (fun h=>RetQ.bool hR rfl ⟨rfl,trivial⟩ (by unfold vI;simp[h])) fun h4=>?_
 exact RetQ.bool hR rfl ⟨rfl,trivial⟩ (by unfold vI;simp[h0,h1,h2,h3,h4])
def yE (t:Ft):Bool:=decide (t.bits=8\/t.bits=16\/t.bits=32)&&decide (1<=t.num/\t.num<=1048576)&&decide (1<=t.den/\t.den<=1048576)&&decide (-1073741824<=t.off/\t.off<=1073741824)&&vI t.m t.kg t.s t.a t.k
theorem og (t:Ft):CallOk Hf 51 [fx t] [] (Bo (yE t)) []:=by
 refine kO 100 func51 Oj ntmps51 (by simp[ClV,V.g,Cv.g,fx,ci]) fun C hR=>?_
 refine vv ?_
 refine CallQ.guard 101 (fun _=>oE t.m t.kg t.s t.a t.k) (fun h=>by rw[h];rfl) (vv ?_)
 refine yL hR ?_
 unfold yE
 rw[JQ]
 simp only[IJ,JG,decide_eq_true_eq,beq_iff_eq]
 generalize vI t.m t.kg t.s t.a t.k=u
 grind
def tC (t:Ft):Int:=bif t.signed then-(2^(t.bits.toNat-1))else 0
def th (t:Ft):Int:=bif t.signed then 2^(t.bits.toNat-1)-1 else 2^t.bits.toNat-1
theorem om {t:Ft}(h:yE t=true):t.bits=8\/t.bits=16\/t.bits=32:=by
 unfold yE at h;simp at h;exact h.1.1.1.1
theorem dQ (t:Ft):CallOk Hf 15 [fx t] [] (.tup [Wi (bif yE t then tC t else 0),Wi (bif yE t then th t else 0)]) []:=by
 refine kO 100 func15 NE ntmps15 (by simp[ClV,V.g,Cv.g,fx,ci]) fun C hR=>?_
 refine vv ?_
 refine CallQ.pure 101 (og t) rfl (vv ?_)
 cases h:yE t with
 |false=>
  simp only[h,cond_false,Bool.not_false]at hR⊢
  exact yJ hR rfl ⟨rfl,rfl,trivial⟩ rfl rfl
 |true=>
  simp only[h,cond_true,Bool.not_true]at hR⊢
  have hb:=om h
  clear h
  obtain⟨bits,signed,num,off,den,m,kg,s,a,k⟩:=t
  simp only at hb hR⊢
  cases signed with
  |true=>
   refine Sm.dg 101 10 ze (vv ?_)
   rcases hb with rfl|rfl|rfl
   ·exact⟨yg,yg,yJ hR rfl ⟨rfl,rfl,trivial⟩ rfl rfl⟩
   ·exact⟨yg,yg,yJ hR rfl ⟨rfl,rfl,trivial⟩ rfl rfl⟩
   ·exact⟨yg,yg,yJ hR rfl ⟨rfl,rfl,trivial⟩ rfl rfl⟩
  |false=>
   refine Sm.dg 101 5 ze (vv ?_)
   rcases hb with rfl|rfl|rfl
   ·exact⟨yg,yJ hR rfl ⟨rfl,rfl,trivial⟩ rfl rfl⟩
   ·exact⟨yg,yJ hR rfl ⟨rfl,rfl,trivial⟩ rfl rfl⟩
   ·exact⟨yg,yJ hR rfl ⟨rfl,rfl,trivial⟩ rfl rfl⟩
theorem bv (t:Ft)(h:yE t=true):CallOk Hf 15 [fx t] [] (.tup [Wi (tC t),Wi (th t)]) []:=by
 have:=dQ t
 rw[h]at this
 exact this
def fin (t:Ft)(raw:Int):Bool:=decide (tC t<=raw)&&decide (raw<=th t)
@[go_sem] def ra (n d:Int):V:= .agg [ci n,ci d]
theorem rZ (t:Ft)(h:yE t=true): -2147483648<=tC t/\tC t<=0/\0<th t/\th t<=4294967295:=by
 have hb:=om h
 unfold tC th
 rcases hb with hb|hb|hb<;>rw[hb]<;>cases t.signed<;>decide
theorem xC {t:Ft}(h:yE t=true):1<=t.num/\t.num<=1048576/\1<=t.den/\t.den<=1048576/\ -1073741824<=t.off/\t.off<=1073741824:=by
 unfold yE at h;simp at h;omega
theorem VK {t:Ft}{raw:Int}(h:yE t=true)(hw:fin t raw=true): -2147483648<=raw/\raw<=4294967295:=by
 have:=rZ t h
 unfold fin at hw;simp at hw;omega
theorem rX {a b A B:Int}(h1: -A<=a)(h2:a<=A)(h3:0<=b)(h4:b<=B): -(A*B)<=a*b/\a*b<=A*B:=by
 have hA:0<=A:=zA
 constructor
 ·have e1:=Jk h1 h3
  have e2:=IF h4 hA
  rw[Int.neg_mul]at e1;omega
 ·have e1:=Jk h2 h3
  have e2:=IF h4 hA
  omega
def yq (t:Ft)(raw:Int):Int:=raw*t.num+t.off
theorem xy {t:Ft}{raw:Int}(h:yE t=true)(hw:fin t raw=true): -4503600701112320<=yq t raw/\yq t raw<=4503600701112320/\ -4503599627370496<=raw*t.num/\raw*t.num<=4503599627370496:=by
 have h1:=VK h hw
 have h2:=xC h
 have h3:=rX (a:=raw) (b:=t.num) (A:=4294967296) (B:=1048576) zA zA zA zA
 unfold yq
 omega
abbrev S (l:List UInt8):V:= .c (.v (.string ⟨l.toArray⟩))
abbrev Ws (l:List UInt8):W:= .c (.v (.string ⟨l.toArray⟩))
abbrev ZG (b:Bool):W:= .c (.v (.bool b))
abbrev Y (n:Int):V:= .c (.v (.int .u8 n))
@[go_sem] theorem Kk (l:List UInt8):l.toArray.toList=l:=zc
@[go_sem ↓] theorem Qs:qk 1 1=[(0,1)]:=rfl
@[go_sem ↓] theorem Ql:qk 5 1=[(0,1),(1,1),(2,1),(3,1),(4,1)]:=rfl
@[go_sem ↓] theorem UU:qk 11 1=[(0,1),(1,1),(2,1),(3,1),(4,1),(5,1),(6,1),(7,1),(8,1),(9,1),(10,1)]:=rfl
@[go_sem ↓] theorem UT:qk 11 5=[(0,5),(5,5),(10,5),(15,5),(20,5),(25,5),(30,5),(35,5),(40,5),(45,5),(50,5)]:=rfl
@[go_sem ↓] theorem US:qk 11 6=[(0,6),(6,6),(12,6),(18,6),(24,6),(30,6),(36,6),(42,6),(48,6),(54,6),(60,6)]:=rfl
@[go_sem ↓] theorem UV:qk 10 3=[(0,3),(3,3),(6,3),(9,3),(12,3),(15,3),(18,3),(21,3),(24,3),(27,3)]:=rfl
theorem zU {c:Bool}{A B:Prop}(ht:c=true->A)(hf:c=false->B):(match (generalizing:=false) c with|true=>A|false=>B):=by
 cases c
 ·exact hf rfl
 ·exact ht rfl
theorem yd {p:Prop} [Decidable p](h:¬p):decide p=false:=by simpa using h
theorem yV {p:Prop} [Decidable p](h:p):decide p=true:=by simpa using h
theorem sU {M:Mem}{l:List V}(h:l.all (V.inM M)=true):∀x∈l,ClV M x:=fun x hx=>zI (JI.1 h x hx)
abbrev M5 (l:List UInt8):Cv:= .v (.string ⟨l.toArray⟩)
theorem yO {ρ:Nat->Nat}{r:Bool}{l:List Cv}{t:TypeId}(h:l.all Cv.isV=true):(⟨r,l,t⟩:Bk).ren ρ=⟨r,l,t⟩:=by
 unfold Bk.ren
 congr 1
 have:=JI.1 h
 conv=>rhs;rw[<-H4 l]
 refine JY fun x hx=>?_
 have:=this x hx
 cases x<;>first|rfl|cases this
theorem zh {M:Mem}{l:List Cv}(h:l.all Cv.isV=true):l.all (Cv.inM M)=true:=by
 refine JI.2 fun x hx=>?_
 have:=JI.1 h x hx
 cases x<;>first|rfl|cases this
abbrev LP (nm n:Nat):V:= .c (.sl nm 0 n 1)
structure Un where
 m:Int
 kg:Int
 s:Int
 a:Int
 k:Int
deriving DecidableEq
@[go_sem] def WC (u:Un):List Cv:=[.v (.int .i64 u.m),.v (.int .i64 u.kg),.v (.int .i64 u.s),.v (.int .i64 u.a),.v (.int .i64 u.k)]
@[reducible] def uu (u:Un):V:= .agg (WC u)
@[reducible] def N1 (u:Un):W:= .agg (WC u)
def u0:Un:=⟨0,0,0,0,0⟩
def uv (u:Un):Bool:=vI u.m u.kg u.s u.a u.k
theorem kw {u:Un}:uv u=true↔(-9<=u.m/\u.m<=9)/\(-9<=u.kg/\u.kg<=9)/\(-9<=u.s/\u.s<=9)/\(-9<=u.a/\u.a<=9)/\(-9<=u.k/\u.k<=9):=by
 unfold uv vI;rw[decide_eq_true_eq]
theorem mv (u:Un):CallOk Hf 115 [uu u] [] (Bo (uv u)) []:=oE u.m u.kg u.s u.a u.k
def ic (a b:Un)(k:Int):Un:=⟨a.m+k*b.m,a.kg+k*b.kg,a.s+k*b.s,a.a+k*b.a,a.k+k*b.k⟩
def nY (a b:Un)(k:Int):Int:=bif uv a&&uv b then(bif uv (ic a b k)then 0 else 2)else 1
def mY (a b:Un)(k:Int):Un:=bif nY a b k==0 then ic a b k else u0
theorem pj (n:Nat)(cs:List Cv)(el:TypeId)(h:cs.all Cv.isV=true):ClM [(n,⟨true,cs,el⟩)]:=zC (by simp only[Ky,zh h];rfl)
theorem ul:CallOk Hf 202 [] [] (uu u0) []:=by
 refine kN 100 func202 Sd ntmps202 fun C hR hP=>?_
 refine vv ?_
 exact zX hR rfl (vv trivial) vz (Sub.nil _) ClM.nil (zI rfl)
theorem jt (a b:Un)(k:Int)(hk:k=1\/k= -1):CallOk Hf 237 [uu a,uu b,I k] [] (.tup [N1 (mY a b k),Wi (nY a b k)]) []:=by
 refine kN 100 func237 Xc ntmps237 fun C hR hP=>?_
 refine vv ?_
 refine CallQ.pure 110 (mv a) rfl (vv ?_)
 refine CallQ.guard 110 (fun _=>mv b) (fun h=>by rw[h];rfl) (vv ?_)
 cases ha:uv a with
 |false=>
  have e1:nY a b k=1:=by rw[nY,ha];rfl
  have e2:mY a b k=u0:=by rw[mY,e1];rfl
  rw[e1,e2]at hR
  refine vv ?_
  exact zX hR rfl (vv trivial) vz (Sub.nil _) ClM.nil (zI rfl)
 |true=>
 cases hb:uv b with
 |false=>
  have e1:nY a b k=1:=by rw[nY,ha,hb];rfl
  have e2:mY a b k=u0:=by rw[mY,e1];rfl
  rw[e1,e2]at hR
  refine vv ?_
  exact zX hR rfl (vv trivial) vz (Sub.nil _) ClM.nil (zI rfl)
 |true=>
 have ha':=kw.1 ha
 have hb':=kw.1 hb
 refine vv ?_
 refine CallQ.mem 120 (tF 100 (WC a) 41 (pj _ _ _ rfl) yg) rfl (Sub.one (b':=⟨false,WC a,41⟩) rfl (.inr ⟨rfl,[],rfl⟩)) (pj _ _ _ rfl) (vv ?_)
 refine CallQ.mem 120 (tF 101 (WC b) 41 (pj _ _ _ rfl) yg) rfl (Sub.one (b':=⟨false,WC b,41⟩) rfl (.inr ⟨rfl,[],rfl⟩)) (pj _ _ _ rfl) (vv ?_)
 have wr:∀x y:Int, -9<=x/\x<=9-> -9<=y/\y<=9->IntKind.i64.wrap (x+IntKind.i64.wrap (k*y))=x+k*y:=by
  intro x y hx hy
  rcases hk with rfl|rfl
  ·rw[ya (x:=1*y) zA zA,ya zA zA]
  ·rw[ya (x:= -1*y) zA zA,ya zA zA]
 refine x6 6 (zB 130 ?_)
 refine vv ?_
 refine Sm.dg 130 12 ze ?_
 simp only[go_sem,wr _ _ ha'.1 hb'.1]
 refine Sm.dg 130 12 ze ?_
 simp only[go_sem,wr _ _ ha'.2.1 hb'.2.1]
 refine Sm.dg 130 12 ze ?_
 simp only[go_sem,wr _ _ ha'.2.2.1 hb'.2.2.1]
 refine Sm.dg 130 12 ze ?_
 simp only[go_sem,wr _ _ ha'.2.2.2.1 hb'.2.2.2.1]
 refine Sm.dg 130 12 ze ?_
 simp only[go_sem,wr _ _ ha'.2.2.2.2 hb'.2.2.2.2]
 refine CallQ.pure 140 (mv (ic a b k)) rfl (vv ?_)
 cases hu:uv (ic a b k)with
 |false=>
  have e1:nY a b k=2:=by rw[nY,ha,hb,hu];rfl
  have e2:mY a b k=u0:=by rw[mY,e1];rfl
  rw[e1,e2]at hR
  refine vv ?_
  exact zX hR rfl (vv trivial) vz (Sub.nil _) ClM.nil (zI rfl)
 |true=>
  have e1:nY a b k=0:=by rw[nY,ha,hb,hu];rfl
  have e2:mY a b k=ic a b k:=by rw[mY,e1];rfl
  rw[e1,e2]at hR
  refine vv ?_
  exact zX hR rfl (vv trivial) vz (Sub.nil _) ClM.nil (zI rfl)
theorem Pe (a b:Un):CallOk Hf 205 [uu a,uu b] [] (.tup [N1 (mY a b 1),Wi (nY a b 1)]) []:=by
 refine kN 100 func205 Xg ntmps205 fun C hR hP=>?_
 refine vv ?_
 refine CallQ.pure 110 (jt a b 1 (.inl rfl)) rfl (vv ?_)
 exact zX hR rfl (vv trivial) vz (Sub.nil _) ClM.nil (zI rfl)
theorem QQ (a b:Un):CallOk Hf 206 [uu a,uu b] [] (.tup [N1 (mY a b (-1)),Wi (nY a b (-1))]) []:=by
 refine kN 100 func206 Xf ntmps206 fun C hR hP=>?_
 refine vv ?_
 refine CallQ.pure 110 (jt a b (-1) (.inr rfl)) rfl (vv ?_)
 exact zX hR rfl (vv trivial) vz (Sub.nil _) ClM.nil (zI rfl)
theorem qF {α:Type}(f:α->List Cv)(k:Nat)(hk:∀x,(f x).length=k):∀(l:List α),(l.flatMap f).length=l.length*k
 |[]=>by simp
 |x::l=>by rw[List.flatMap_cons,JN,qF f k hk l,hk,JR,HR];omega
abbrev Str:=List UInt8
abbrev sv (l:Str):Value:= .string ⟨l.toArray⟩
abbrev iv (n:Int):Value:= .int .i64 n
structure Td where
 nm:Str
 ty:Ft
structure Cu where
 nm:Str
 xs:List Int
 ys:List Int
structure Mp where
 nm:Str
 xs:List Int
 ys:List Int
 zs:List (List Int)
structure Po where
 nm:Str
 ty:Str
 lo:Int
 hi:Int
structure Bl where
 nm:Str
 kd:Str
 ty:Str
 ins:List Str
 tb:Str
 ks:List Int
structure Dg where
 nm:Str
 tys:List Td
 cus:List Cu
 mas:List Mp
 ins:List Po
 bls:List Bl
 ous:List Str
def mN (c:UInt8):Bool:=(decide (97<=c.toNat)&&decide (c.toNat<=122))||(decide (65<=c.toNat)&&decide (c.toNat<=90))
def Ve (c:UInt8):Bool:=decide (48<=c.toNat)&&decide (c.toNat<=57)
def nW (c:UInt8):Bool:=mN c||(Ve c||decide (c.toNat=95))
def kindT:List (Str×Nat×Nat×Nat):=[([99,111,110,115,116],0,1,0),([97,100,100],2,0,0),([115,117,98],2,0,0),([109,117,108],2,0,0),([100,105,118],2,0,0),([110,101,103],1,0,0),([109,105,110],2,0,0),([109,97,120],2,0,0),([108,105,109,105,116],1,2,0),([99,111,110,118,101,114,116],1,0,0),([99,117,114,118,101],1,0,1),([109,97,112],2,0,2),([100,101,108,97,121],1,1,0),([108,97,103],1,1,0),([115,119,105,116,99,104],3,0,0),([108,101,115,115],2,0,0),([101,113,117,97,108],2,0,0),([97,110,100],2,0,0),([111,114],2,0,0),([110,111,116],1,0,0),([104,121,115,116,101,114,101,115,105,115],1,2,0)]
def bB:List Str:=[[116,121,112,101],[105,110],[111,117,116],[98,108,111,99,107],[117,110,115,105,103,110,101,100],[115,105,103,110,101,100],[100,105,97,103,114,97,109]]
def yY (s:Str):Option (Nat×Nat×Nat):=(kindT.find? (fun r=>r.1==s)).map (·.2)
def ng (s:Str):Bool:=(kindT.map (·.1)).contains s||bB.contains s
def yZ (s:Str):Bool:= !(s==[])&&(decide (s.length<=24)&&(mN (s.getD 0 0)&&(s.all nW&& !ng s)))
def yP (n:Int):Bool:=decide (-1073741824<=n/\n<=1073741824)
def vZ:List Int->Bool
 |[]=>true
 |[_]=>true
 |x::y::r=>decide (x<y)&&vZ (y::r)
def wK (l:List Int):Bool:=decide (2<=l.length/\l.length<=32)&&(l.all yP&&vZ l)
def vq (xs ys:List Int):Bool:=decide (xs.length=ys.length)&&(wK xs&&ys.all yP)
def wD (xs ys:List Int)(zs:List (List Int)):Bool:=wK xs&&(wK ys&&(decide (zs.length=xs.length)&&zs.all (fun z=>decide (z.length=ys.length)&&z.all yP)))
def tp (n:Int):Bool:=decide (-1099511627776<=n/\n<=1099511627776)
def xI (b:Bl):Bool:=match yY b.kd with
 |none=>false
 |some (a,k,t)=>decide (b.ins.length=a)&&(decide (b.ks.length=k)&&(yZ b.nm&&(yZ b.ty&&((if t=0 then b.tb==[]else yZ b.tb)&&(b.ins.all yZ&&b.ks.all tp)))))
def nj (p:Po):Bool:=yZ p.nm&&(yZ p.ty&&(tp p.lo&&tp p.hi))
def wV (d:Dg):Bool:=yZ d.nm&&(decide (d.tys.length<=30/\d.cus.length<=30/\d.mas.length<=30/\d.ins.length<=30/\d.ous.length<=30)&&(decide (d.bls.length<=200)&&
 (d.tys.all (fun t=>yZ t.nm&&yE t.ty)&&(d.cus.all (fun c=>yZ c.nm&&vq c.xs c.ys)&&(d.mas.all (fun m=>yZ m.nm&&wD m.xs m.ys m.zs)&&(d.ins.all nj&&(d.bls.all xI&&d.ous.all yZ)))))))
structure Sv where
 o:Option Addr
 c:Nat
@[reducible,go_sem] def vsl (s:Sv)(n:Nat):Value:= .slice s.o n s.c
structure CuL where
 c:Cu
 x:Sv
 y:Sv
structure MpL where
 nm:Str
 xs:List Int
 ys:List Int
 zs:List (Sv×List Int)
 x:Sv
 y:Sv
 z:Sv
def MpL.c (m:MpL):Mp:=⟨m.nm,m.xs,m.ys,m.zs.map (·.2)⟩
structure BlL where
 c:Bl
 i:Sv
 k:Sv
structure DgL where
 nm:Str
 tys:List Td
 cus:List CuL
 mas:List MpL
 ins:List Po
 bls:List BlL
 ous:List Str
 ty:Sv
 cu:Sv
 ma:Sv
 i:Sv
 bl:Sv
 ou:Sv
def DgL.c (d:DgL):Dg:=⟨d.nm,d.tys,d.cus.map CuL.c,d.mas.map MpL.c,d.ins,d.bls.map BlL.c,d.ous⟩
def zZ (l:List Int):List (List Value):=l.map fun n=>[iv n]
def yH (l:List Str):List (List Value):=l.map fun s=>[sv s]
@[go_sem] def yW (t:Ft):List Value:=[.int .i64 t.bits,.bool t.signed,.int .i64 t.num,.int .i64 t.off,.int .i64 t.den,.int .i64 t.m,.int .i64 t.kg,.int .i64 t.s,.int .i64 t.a,.int .i64 t.k]
@[go_sem] def Td.r (t:Td):List Value:= .string ⟨t.nm.toArray⟩::yW t.ty
@[go_sem] def CuL.r (c:CuL):List Value:=[.string ⟨c.c.nm.toArray⟩,.slice c.x.o c.c.xs.length c.x.c,.slice c.y.o c.c.ys.length c.y.c]
@[go_sem] def MpL.r (m:MpL):List Value:=[.string ⟨m.nm.toArray⟩,.slice m.x.o m.xs.length m.x.c,.slice m.y.o m.ys.length m.y.c,.slice m.z.o m.zs.length m.z.c]
@[go_sem] def Po.r (p:Po):List Value:=[.string ⟨p.nm.toArray⟩,.string ⟨p.ty.toArray⟩,.int .i64 p.lo,.int .i64 p.hi]
@[go_sem] def BlL.r (b:BlL):List Value:=[.string ⟨b.c.nm.toArray⟩,.string ⟨b.c.kd.toArray⟩,.string ⟨b.c.ty.toArray⟩,.slice b.i.o b.c.ins.length b.i.c,.string ⟨b.c.tb.toArray⟩,.slice b.k.o b.c.ks.length b.k.c]
@[go_sem] def DgL.r (d:DgL):List Value:=[.string ⟨d.nm.toArray⟩,.slice d.ty.o d.tys.length d.ty.c,.slice d.cu.o d.cus.length d.cu.c,.slice d.ma.o d.mas.length d.ma.c,.slice d.i.o d.ins.length d.i.c,.slice d.bl.o d.bls.length d.bl.c,.slice d.ou.o d.ous.length d.ou.c]
@[go_sem] def yD (r:List Value):V:= .agg (r.map .v)
structure CuL.ok (H:Hp) (c:CuL):Prop where
 x:SlH H (vsl c.x c.c.xs.length) 1 (zZ c.c.xs)
 y:SlH H (vsl c.y c.c.ys.length) 1 (zZ c.c.ys)
structure MpL.ok (H:Hp) (m:MpL):Prop where
 x:SlH H (vsl m.x m.xs.length) 1 (zZ m.xs)
 y:SlH H (vsl m.y m.ys.length) 1 (zZ m.ys)
 z:SlH H (vsl m.z m.zs.length) 1 (m.zs.map fun v=>[vsl v.1 v.2.length])
 e:∀v∈m.zs,SlH H (vsl v.1 v.2.length) 1 (zZ v.2)
structure BlL.ok (H:Hp) (b:BlL):Prop where
 i:SlH H (vsl b.i b.c.ins.length) 1 (yH b.c.ins)
 k:SlH H (vsl b.k b.c.ks.length) 1 (zZ b.c.ks)
structure DgL.ok (H:Hp) (d:DgL):Prop where
 ty:SlH H (vsl d.ty d.tys.length) 11 (d.tys.map Td.r)
 cu:SlH H (vsl d.cu d.cus.length) 3 (d.cus.map CuL.r)
 ma:SlH H (vsl d.ma d.mas.length) 4 (d.mas.map MpL.r)
 i:SlH H (vsl d.i d.ins.length) 4 (d.ins.map Po.r)
 bl:SlH H (vsl d.bl d.bls.length) 6 (d.bls.map BlL.r)
 ou:SlH H (vsl d.ou d.ous.length) 1 (yH d.ous)
 cus:∀c∈d.cus,c.ok H
 mas:∀m∈d.mas,m.ok H
 bls:∀b∈d.bls,b.ok H
theorem CuL.ok.mono {H H':Hp}(h:H.le H'){c:CuL}(k:c.ok H):c.ok H':=⟨k.x.mono h,k.y.mono h⟩
theorem MpL.ok.mono {H H':Hp}(h:H.le H'){c:MpL}(k:c.ok H):c.ok H':=⟨k.x.mono h,k.y.mono h,k.z.mono h,fun v hv=>(k.e v hv).mono h⟩
theorem BlL.ok.mono {H H':Hp}(h:H.le H'){c:BlL}(k:c.ok H):c.ok H':=⟨k.i.mono h,k.k.mono h⟩
theorem DgL.ok.mono {H H':Hp}(h:H.le H'){d:DgL}(k:d.ok H):d.ok H':=⟨k.ty.mono h,k.cu.mono h,k.ma.mono h,k.i.mono h,k.bl.mono h,k.ou.mono h,fun c hc=>(k.cus c hc).mono h,fun c hc=>(k.mas c hc).mono h,fun c hc=>(k.bls c hc).mono h⟩
def zD (l:List (List Value)):List Cv:=l.flatten.map .v
theorem yx {k:Nat}(l:List (List Value))(h:∀r∈l,r.length=k):(zD l).length=l.length*k:=by
 unfold zD
 rw[Ku]
 induction l with
 |nil=>simp
 |cons x l ih=>rw[List.flatten_cons,JN,ih (fun r hr=>h r (by simp[hr])),h x zc,JR,HR,Hc]
theorem tQ {k:Nat}:∀(l:List (List Value)),(∀r∈l,r.length=k)->∀(i:Nat) (h:i<l.length),((zD l).drop (i*k)).take k=l[i].map Cv.v
 |x::l,hk,0,_=>by
  have:=hk x zc
  simp[zD,<-this]
 |x::l,hk,i+1,h=>by
  have h0:=hk x zc
  have ih:=tQ l (fun r hr=>hk r (by simp[hr])) i (by simpa using h)
  have e:(i+1)*k=(x.map Cv.v).length+i*k:=by rw[Ku,h0,HR,Hc]
  have e2:zD (x::l)=x.map Cv.v++zD l:=by simp[zD]
  rw[e2,e,<-HQ,List.drop_left,ih]
  rfl
theorem yy {k:Nat}(l:List (List Value))(h:∀r∈l,r.length=k)(i j:Nat)(hi:i<l.length)(hj:j<k):(zD l)[i*k+j]?=(l[i][j]?).map Cv.v:=by
 have h1:=tQ l h i hi
 have:(zD l)[i*k+j]?=(((zD l).drop (i*k)).take k)[j]?:=by rw[List.getElem?_take_of_lt hj,HN]
 rw[this,h1,JK]
theorem zS (l:List (List Value)):(zD l).all Cv.isV=true:=by
 unfold zD
 rw[JI]
 intro c hc
 obtain⟨v,_,rfl⟩:=JO.1 hc
 rfl
theorem oX {A:Prop}{ρ:Nat->Nat}{r:Bool}{l:List (List Value)}{t:TypeId}{o:Option Bk}(h:o=some ⟨r,zD l,t⟩:=by exact rfl):A\/∃b',o=some b'/\Wk ((⟨r,zD l,t⟩:Bk).ren ρ) b':=oV (yO (zS _)) h
theorem oY {ρ:Nat->Nat}{r:Bool}{l:List (List Value)}{t:TypeId}{o:Option Bk}(h:o=some ⟨r,zD l,t⟩:=by exact rfl):∃b',o=some b'/\Wk ((⟨r,zD l,t⟩:Bk).ren ρ) b':=oW (yO (zS _)) h
theorem Mr {α:Type}{f:α->Cv}(h:∀a,(f a).isV=true){l:List α}:(l.map f).all Cv.isV=true:=by rw[List.all_map];exact JI.2 fun a _=>h a
theorem z9 {p:Prop}(h:p:=by exact⟨rfl,by repeat(first|exact trivial|refine⟨⟨rfl,rfl⟩,?_⟩),by repeat(first|exact trivial|refine⟨rfl,?_⟩),by repeat(first|exact trivial|refine⟨oX,?_⟩|refine⟨oV (yO (Mr fun _=>rfl)),?_⟩|refine⟨oR,?_⟩)⟩):p:=h
theorem iR {M:Mem}{l:List (List Value)}:(zD l).all (Cv.inM M)=true:=zh (zS _)
theorem cM {M:Mem}(h:M.all (fun p=>p.2.cells.all (Cv.inM M))=true:=by first|exact rfl|(simp only[JC,JD,Ky,iR];rfl)):ClM M:=zC h
theorem _root_.Go.Proofs.YtkciabfilokfiaaGreat.Vg.CallX.mkS {H:Hp}{P:Program}{f:FuncId}{fn:Func}{body:Code}{args:List V}{M:Mem}{α:Type}{v:α->V}{N:α->Mem}{Q:α->Hp->Prop}(hf:P.funcs[f]?=some fn)(hb:fn.body=some body)(hent:Enters P f)(hnt:args.length<=fn.ntmps)(hcl:∀x∈args,ClV M x)
  (hN:∀x,(N x).all (fun p=> !p.2.ro||(M.get p.1).isSome)=true) (hU:∀x,(N x).all (fun p=>match M.get p.1 with|some b=> !b.ro|none=>true)=true)
  (h:∀C,(∀x Cn,Lf C Cn->Q x Cn.hp->xL P Cn fn (v x) (N x++M))->Pins C.S M->H.le C.hp->Lf C C->Sm P fn.ntmps C [.code body] (vH 0 args) M):CallX H P f args M v N Q:=
 CallX.intro hf hb hent hnt (fun x n b h h0=>by have:=JI.1 (hN x) (n,b) (yA h);simpa[h0]using this)
  (fun x n b b' h h'=>by have:=JI.1 (hU x) (n,b) (yA h);simp only[h']at this;simpa using this) hcl h
theorem _root_.Go.Proofs.YtkciabfilokfiaaGreat.Vg.CallH.mkS {H:Hp}{P:Program}{f:FuncId}{fn:Func}{body:Code}{args:List V}{v:V}(hf:P.funcs[f]?=some fn)(hb:fn.body=some body)(hent:Enters P f)(hnt:args.length<=fn.ntmps)(hcl:∀x∈args,ClV [] x)
  (h:∀C,(∀Cn,Lf C Cn->xL P Cn fn v [])->Pins C.S []->H.le C.hp->Lf C C->Sm P fn.ntmps C [.code body] (vH 0 args) []):CallH H P f args v:=
 CallX.mkS hf hb hent hnt hcl (fun _=>rfl) (fun _=>rfl) fun C hR hP hH hL=>h C (fun Cn hl=>hR () Cn hl trivial) hP hH hL
theorem _root_.Go.Proofs.YtkciabfilokfiaaGreat.Vg.kX {H:Hp}{P:Program}{f:FuncId}{fn:Func}{body:Code}{args:List V}{M:Mem}{α:Type}{v:α->V}{N:α->Mem}{Q:α->Hp->Prop}{k:Nat}(hf:P.funcs[f]?=some fn)(hent:Enters P f)(hk:fn.ntmps=k)
 (h:∀C,(∀x Cn,Lf C Cn->Q x Cn.hp->xL P Cn fn (v x) (N x++M))->Pins C.S M->H.le C.hp->Lf C C->Sm P fn.ntmps C [.code body] (vH 0 args) M)(hb:fn.body=some body:=by exact rfl)(hnt:args.length<=k:=by exact Nat.le_of_ble_eq_true rfl)(hcl:∀x∈args,ClV M x:=by exact sU rfl)
 (hN:∀x,(N x).all (fun p=> !p.2.ro||(M.get p.1).isSome)=true:=by exact fun _=>rfl)(hU:∀x,(N x).all (fun p=>match M.get p.1 with|some b=> !b.ro|none=>true)=true:=by exact fun _=>rfl):CallX H P f args M v N Q:=CallX.mkS hf hb hent (hk▸hnt) hcl hN hU h
theorem _root_.Go.Proofs.YtkciabfilokfiaaGreat.Vg.kH {H:Hp}{P:Program}{f:FuncId}{fn:Func}{body:Code}{args:List V}{v:V}{k:Nat}(hf:P.funcs[f]?=some fn)(hent:Enters P f)(hk:fn.ntmps=k)
 (h:∀C,(∀Cn,Lf C Cn->xL P Cn fn v [])->Pins C.S []->H.le C.hp->Lf C C->Sm P fn.ntmps C [.code body] (vH 0 args) [])(hb:fn.body=some body:=by exact rfl)(hnt:args.length<=k:=by exact Nat.le_of_ble_eq_true rfl)(hcl:∀x∈args,ClV [] x:=by exact sU rfl):CallH H P f args v:=CallH.mkS hf hb hent (hk▸hnt) hcl h
theorem _root_.Go.Proofs.YtkciabfilokfiaaGreat.Vg.CallOk.toX {H:Hp}{P:Program}{f:FuncId}{args:List V}{M N:Mem}{v:V}(h:CallOk P f args M v N):CallX H P f args M (fun _:Unit=>v) (fun _=>N) (fun _ _=>True):=by
 obtain⟨h1,h2,h3,h4⟩:=h
 refine⟨h1,fun _=>h2,fun _=>h3,fun β w Z hm _ _=>(h4 β w hm).mono ?_⟩
 rintro en w' ⟨β',k1,k2,k3,k4,k5⟩
 exact⟨(),β',fun _ _=>False,k1,k2,k3,k4,k5,fun _ _ h=>h.elim,trivial⟩
theorem _root_.Go.Proofs.YtkciabfilokfiaaGreat.Vg.CallOk.toH {H:Hp}{P:Program}{f:FuncId}{args:List V}{v:V}(h:CallOk P f args [] v []):CallH H P f args v:=h.toX
theorem _root_.Go.Proofs.YtkciabfilokfiaaGreat.Vg.CallX.mono {H H':Hp}{P:Program}{f:FuncId}{args:List V}{M:Mem}{α:Type}{v:α->V}{N:α->Mem}{Q:α->Hp->Prop}(h:CallX H P f args M v N Q)(hl:H.le H'):CallX H' P f args M v N Q:=
 ⟨h.1,h.2.1,h.2.2.1,fun β w Z hm hH hZ=>h.2.2.2 β w Z hm (fun b o hb=>hH b o (hl b o hb)) hZ⟩
theorem _root_.Go.Proofs.YtkciabfilokfiaaGreat.Vg.Sm.bringR {P:Program}{nt:Nat}{C:Cx}{todo:List It}{e:Env}{M:Mem}{v:Value}{sz:Nat}{rows:List (List Value)}(nm:Nat)(el:TypeId)(t:Nat){g:Bool}(h:SlH C.hp v sz rows)(hn:M.get nm=none)(hx:e.get t=some (g,.c (.v v)))
  (k:Sm P nt C todo ((t,g,.c (.sl nm 0 rows.length sz))::e) ((nm,⟨true,zD rows,el⟩)::M)):Sm P nt C todo e M:=Sm.bring nm el t h hn hx k
theorem wS {i:Nat}(h:i<=1000000000000000000):IntKind.i64.wrap ((i:Int)+1)=((i+1:Nat):Int):=by rw[ya zA zA];omega
theorem yT {i:Nat}(h:i<=1000000000000000000:=by omega):IntKind.i64.wrap ((i:Int)+1)=((i+1:Nat):Int):=wS h
theorem zH {i n:Nat}(h:decide ((i:Int)<(n:Int))=true):i<n:=by have:=of_decide_eq_true h;omega
theorem zL {i n:Nat}(hi:i<=n)(h:decide ((i:Int)<(n:Int))=false):i=n:=by have:=of_decide_eq_false h;omega
def tw {α:Type}(p:α->Bool):List α->Int->Int
 |[],_=> -1
 |x::l,k=>bif p x then k else tw p l (k+1)
theorem wO {α:Type}(p:α->Bool)(l:List α)(i:Nat)(h:i<l.length)(k:Int):tw p (l.drop i) k=bif p l[i]then k else tw p (l.drop (i+1)) (k+1):=by
 rw[JA h];rfl
theorem ww {α:Type}(p:α->Bool):∀(l:List α) (k:Int),0<=k->decide (0<=tw p l k)=l.any p
 |[],k,_=>by simp[tw]
 |x::l,k,h=>by
  rw[tw,List.any_cons]
  cases p x with
  |true=>simp[h]
  |false=>rw[cond_false,Iq];exact ww p l (k+1) zA
@[reducible] def sC (s:Str):Cv:= .v (.string ⟨s.toArray⟩)
@[reducible] def iC (n:Int):Cv:= .v (.int .i64 n)
theorem pH (l:List Str):zD (yH l)=l.map sC:=by
 unfold zD yH
 induction l with
 |nil=>rfl
 |cons x l ih=>simpa using ih
theorem vG (l:List Int):zD (zZ l)=l.map iC:=by
 unfold zD zZ
 induction l with
 |nil=>rfl
 |cons x l ih=>simpa using ih
theorem y7 (l:List Str):(l.map sC).all Cv.isV=true:=by simp[Cv.isV]
theorem yX (l:List Int):(l.map iC).all Cv.isV=true:=by simp[Cv.isV]
theorem xq {l:List Str}{i:Nat}(h:i<l.length):(l.map sC)[i]?=some (sC l[i]):=by simp[h]
theorem xt {l:List Int}{i:Nat}(h:i<l.length):(l.map iC)[i]?=some (iC l[i]):=by simp[h]
theorem _root_.Go.Proofs.YtkciabfilokfiaaGreat.Vg.Sm.bringI {P:Program}{nt:Nat}{C:Cx}{todo:List It}{e:Env}{M:Mem}{v:Value}{l:List Int}(nm:Nat)(el:TypeId)(t:Nat){g:Bool}(h:SlH C.hp v 1 (zZ l))(hn:M.get nm=none)(hx:e.get t=some (g,.c (.v v)))
  (k:Sm P nt C todo ((t,g,.c (.sl nm 0 l.length 1))::e) ((nm,⟨true,l.map iC,el⟩)::M)):Sm P nt C todo e M:=by
 have hlen:(zZ l).length=l.length:=by simp[zZ]
 refine Sm.bringR nm el t h hn hx ?_
 rw[hlen,vG];exact k
theorem _root_.Go.Proofs.YtkciabfilokfiaaGreat.Vg.Sm.bringS {P:Program}{nt:Nat}{C:Cx}{todo:List It}{e:Env}{M:Mem}{v:Value}{l:List Str}(nm:Nat)(el:TypeId)(t:Nat){g:Bool}(h:SlH C.hp v 1 (yH l))(hn:M.get nm=none)(hx:e.get t=some (g,.c (.v v)))
  (k:Sm P nt C todo ((t,g,.c (.sl nm 0 l.length 1))::e) ((nm,⟨true,l.map sC,el⟩)::M)):Sm P nt C todo e M:=by
 have hlen:(yH l).length=l.length:=by simp[yH]
 refine Sm.bringR nm el t h hn hx ?_
 rw[hlen,pH];exact k
@[go_sem ↓] theorem Qk:qk 7 1=[(0,1),(1,1),(2,1),(3,1),(4,1),(5,1),(6,1)]:=rfl
@[go_sem ↓] theorem UO:qk 21 4=[(0,4),(4,4),(8,4),(12,4),(16,4),(20,4),(24,4),(28,4),(32,4),(36,4),(40,4),(44,4),(48,4),(52,4),(56,4),(60,4),(64,4),(68,4),(72,4),(76,4),(80,4)]:=rfl
theorem xu (a b:Bool):(bif a then b else false)=(a&&b):=by cases a<;>rfl
theorem qJ (a b:Bool):(bif a then true else b)=(a||b):=by cases a<;>rfl
theorem eA (c:UInt8):CallOk Hf 140 [Y c.toNat] [] (Bo (mN c)) []:=by
 refine kN 100 func140 Rd ntmps140 fun C hR hP=>?_
 refine vv ?_
 refine⟨fun h=>⟨h,fun h2=>by rw[h,h2];rfl⟩,?_⟩
 refine yL hR ?_
 unfold mN
 simp only[xu,qJ]
 have e1:decide ((97:Int)<=(c.toNat:Int))=decide (97<=c.toNat):=by rw[decide_eq_decide];omega
 have e2:decide ((c.toNat:Int)<=122)=decide (c.toNat<=122):=by rw[decide_eq_decide];omega
 have e3:decide ((65:Int)<=(c.toNat:Int))=decide (65<=c.toNat):=by rw[decide_eq_decide];omega
 have e4:decide ((c.toNat:Int)<=90)=decide (c.toNat<=90):=by rw[decide_eq_decide];omega
 rw[e1,e2,e3,e4]
theorem VR (c:UInt8):CallOk Hf 197 [Y c.toNat] [] (Bo (Ve c)) []:=by
 refine kN 100 func197 Sk ntmps197 fun C hR hP=>?_
 refine vv ?_
 refine yL hR ?_
 unfold Ve
 simp only[xu,qJ]
 have e1:decide ((48:Int)<=(c.toNat:Int))=decide (48<=c.toNat):=by rw[decide_eq_decide];omega
 have e2:decide ((c.toNat:Int)<=57)=decide (c.toNat<=57):=by rw[decide_eq_decide];omega
 rw[e1,e2]
theorem Wz (c:UInt8):CallOk Hf 142 [Y c.toNat] [] (Bo (nW c)) []:=by
 refine kN 100 func142 Rb ntmps142 fun C hR hP=>?_
 refine vv ?_
 refine CallQ.pure 110 (eA c) rfl (vv ?_)
 refine CallQ.guard 110 (fun _=>VR c) (fun h=>by rw[h];rfl) (vv ?_)
 refine yL hR ?_
 unfold nW
 simp only[xu,qJ]
 have e1:((c.toNat:Int)==95)=decide (c.toNat=95):=by
  rw[JQ,beq_iff_eq,decide_eq_true_eq];omega
 rw[e1,Bool.or_assoc]
def dF (p:UInt8->Bool)(s:Str)(k:Nat):Nat:=((s.drop k).takeWhile p).length
theorem P9 (s:Str)(k:Nat)(hk:k<=s.length)(hs:s.length<=1000000000000000)(g:FuncId)(p:UInt8->Bool)(hp:∀c:UInt8,CallOk Hf g [Y c.toNat] [] (Bo (p c)) []):
  CallOk Hf 141 [S s,I k,.c (.v (.func (.func g) #[] #[]))] [] (I (dF p s k)) []:=by
 refine kN 100 func141 Rc ntmps141 fun C hR hP=>?_
 refine vv ?_
 refine zG (M0:=[]) (α:={n:Nat//n+k<=s.length/\dF p s k=n+((s.drop (k+n)).takeWhile p).length}) hP
  (fun n=>[(0,true,S s),(1,true,I k),(2,true,.c (.v (.func (.func g) #[] #[]))),(7,true,I n.val)]) (fun _=>[]) (fun n=>s.length-n.val) ⟨0,zA,by rw[dF];simp⟩ (fun _=>ClM.nil) (fun _=>zO rfl) [] ?_ ?_
 ·exact z9
 ·rintro⟨n,hn,hx⟩ J hb
  simp only at hb hn hx⊢
  refine zB 120 ?_
  have w1:IntKind.i64.wrap ((k:Int)+(n:Int))=((k+n:Nat):Int):=by rw[ya zA zA];omega
  simp only[go_sem,w1]
  by_cases hlt:k+n<s.length
  ·have h1:decide (((k+n:Nat):Int)<(s.length:Int))=true:=yV zA
   have hd:s.drop (k+n)=s.getD (k+n) 0::s.drop (k+(n+1)):=by
    rw[Kw,Kz hlt,JA hlt];rfl
   rw[hd,List.takeWhile_cons]at hx
   simp only[go_sem,h1]
   refine⟨⟨zA,zA⟩,?_⟩
   refine CallQ.pure 130 (hp (s.getD (k+n) 0)) rfl (vv ?_)
   refine zU (fun hc=>?_) (fun hc=>?_)
   ·rw[if_pos hc]at hx
    simp only[yT (i:=n)]
    exact hb _ _ ⟨n+1,zA,by rw[hx];simp;omega⟩ [] yF z9
   ·rw[if_neg (by rw[hc];simp)]at hx
    exact RetQ.int hR rfl ⟨rfl,trivial⟩ (by rw[hx];simp)
  ·have h1:decide (((k+n:Nat):Int)<(s.length:Int))=false:=yd zA
   rw[Jl zA]at hx
   simp only[go_sem,h1]
   refine CallQ.guard (xs:=[]) (v:=Bo true) 130 (fun h=>by cases h) (fun h=>by cases h) (vv ?_)
   exact RetQ.int hR rfl ⟨rfl,trivial⟩ (by rw[hx];simp)
def pP:List (List Value):=kindT.map fun r=>[sv r.1,iv r.2.1,iv r.2.2.1,iv r.2.2.2]
@[reducible] def NR (nm:Nat):Nat×Bk:=(nm,⟨false,zD pP,225⟩)
theorem XU:CallOk Hf 199 [] [] (.c (.sl 1 0 21 4)) [NR 1]:=by
 refine kN 100 func199 Si ntmps199 fun C hR hP=>?_
 refine vv ?_
 exact RetQ.ren [(1,100)] hR hP rfl (vv trivial) rfl rfl trivial ⟨oR,trivial⟩ (zC rfl) (zI rfl)
def rN:List Str:=kindT.map (·.1)
theorem aF:∀r∈pP,r.length=4:=by
 intro r hr
 obtain⟨x,_,rfl⟩:=JO.1 hr
 rfl
def Wy (i:Nat):Str×Nat×Nat×Nat:=kindT.getD i ([],0,0,0)
theorem lY {i:Nat}(h:i<kindT.length):kindT[i]=Wy i:=by
 rw[Wy,Kw,Kz h];rfl
theorem oa (i:Nat)(h:i<21):((zD pP).drop (i*4)).take 4=[sC (Wy i).1,iC (Wy i).2.1,iC (Wy i).2.2.1,iC (Wy i).2.2.2]:=by
 rw[tQ pP aF i (by simpa[pP,kindT]using h),<-lY (show i<kindT.length from h)]
 simp only[pP,Iv]
 rfl
theorem mO:(zD pP).length=84:=rfl
theorem ko:(zD pP).all Cv.isV=true:=zS _
@[reducible] def K4 (nm:Nat):Nat×Bk:=(nm,⟨false,rN.map sC,9⟩)
theorem Wx:CallOk Hf 198 [] [] (.c (.sl 1 0 21 1)) [K4 1]:=by
 refine kN 100 func198 Sj ntmps198 fun C hR hP=>?_
 refine vv ?_
 refine CallQ.ren [(1,130)] 131 XU ClM.nil rfl rfl trivial rfl (.inl rfl) ?_
 simp only[Mem.ren,Kv,Kx,yO ko,V.ren,Cv.ren,rn,Nat.reduceBEq,cond_true]
 refine vv ?_
 refine yz 140 1 9 [1] [] rfl (vv ?_)
 refine zG (M0:=[]) (α:={i:Nat//i<=21}) hP (fun i=>[(1,true,.c (.sl 6 0 i.val 1)),(4,true,.c (.sl 5 0 21 4)),(5,true,I 21),(6,true,I i.val)])
  (fun i=>[NR 5,(6,⟨false,(rN.take i.val).map sC,9⟩)]) (fun i=>21-i.val) ⟨0,zA⟩ (fun _=>zC (by simp only[Ky,zh ko,zh (y7 _)];rfl)) (fun _=>zO rfl) [(5,130),(6,140)] ?_ ?_
 ·exact⟨rfl,trivial,⟨rfl,rfl,rfl,rfl,trivial⟩,⟨oV (yO ko),oR,trivial⟩⟩
 ·rintro⟨i,hi⟩ J hb
  simp only at hb hi⊢
  refine zB 150 (vv ?_)
  refine zU (fun hc=>?_) (fun hc=>?_)
  ·have hc:i<21:=by have:=of_decide_eq_true hc;omega
   simp only[oa i hc,mO]
   refine⟨⟨zA,zA⟩,zA,?_⟩
   refine vv ?_
   have hlen:((rN.take i).map sC).length=i:=by simp[rN,kindT];omega
   have htk:List.take i ((rN.take i).map sC)++[sC (Wy i).1]=(rN.take (i+1)).map sC:=by
    rw[JH zA,JS (by simpa[rN,kindT]using hc),JT,<-lY (show i<kindT.length from hc)]
    simp only[rN,Iv];rfl
   simp only[htk,hlen,yT (i:=i)]
   refine⟨⟨zA,zA,zA⟩,?_⟩
   exact hb _ _ ⟨i+1,hc⟩ [(5,5),(6,152)] yF ⟨rfl,trivial,⟨rfl,rfl,rfl,rfl,trivial⟩,⟨oV (yO ko),oV (yO (y7 _)),trivial⟩⟩
  ·have hc:i=21:=by have:=of_decide_eq_false hc;omega
   subst hc
   exact RetQ.ren [(1,6)] hR hP rfl (vv trivial) rfl rfl trivial ⟨oR,trivial⟩ (zC rfl) (zI rfl)
def pQ (s:Str):List (Str×Nat×Nat×Nat)->Option (Nat×Nat×Nat)
 |[]=>none
 |r::l=>bif r.1==s then some r.2 else pQ s l
theorem jg (s:Str):∀l,pQ s l=(l.find? (fun r=>r.1==s)).map (·.2)
 |[]=>rfl
 |r::l=>by
  rw[pQ,List.find?_cons,jg s l]
  cases r.1==s<;>rfl
theorem Uc (s:Str):CallOk Hf 159 [S s] [] (.tup [Wi ((yY s).getD (0,0,0)).1,Wi ((yY s).getD (0,0,0)).2.1,Wi ((yY s).getD (0,0,0)).2.2,ZG (yY s).isSome]) []:=by
 have hq:yY s=pQ s kindT:=(jg s kindT).symm
 rw[hq]
 refine kN 100 func159 RV ntmps159 fun C hR hP=>?_
 refine vv ?_
 refine CallQ.ren [(1,130)] 131 XU ClM.nil rfl rfl trivial rfl (.inl rfl) ?_
 simp only[Mem.ren,Kv,Kx,yO ko,V.ren,Cv.ren,rn,Nat.reduceBEq,cond_true]
 refine vv ?_
 refine zG (M0:=[]) (α:={i:Nat//i<=21/\pQ s kindT=pQ s (kindT.drop i)}) hP (fun i=>[(0,true,S s),(8,true,.c (.sl 5 0 21 4)),(9,true,I 21),(10,true,I i.val)])
  (fun i=>[NR 5]) (fun i=>21-i.val) ⟨0,zA,rfl⟩ (fun _=>zC (by simp only[Ky,zh ko];rfl)) (fun _=>zO rfl) [(5,130)] ?_ ?_
 ·exact⟨rfl,trivial,⟨rfl,rfl,rfl,rfl,trivial⟩,⟨oV (yO ko),trivial⟩⟩
 ·rintro⟨i,hi,hx⟩ J hb
  simp only at hb hi hx⊢
  refine zB 150 (vv ?_)
  refine zU (fun hc=>?_) (fun hc=>?_)
  ·have hc:i<21:=by have:=of_decide_eq_true hc;omega
   have hc':i<kindT.length:=hc
   rw[JA hc',pQ,lY]at hx
   simp only[oa i hc,mO]
   refine⟨⟨zA,zA⟩,zA,?_⟩
   refine vv ?_
   refine zU (fun hs=>?_) (fun hs=>?_)
   ·rw[hs,cond_true]at hx
    rw[hx]at hR
    refine Sm.dg 160 8 ze (vv ?_)
    exact zX hR rfl (vv trivial) vz (Sub.nil _) ClM.nil (zI rfl)
   ·rw[hs,cond_false]at hx
    simp only[yT (i:=i)]
    exact hb _ _ ⟨i+1,hc,hx⟩ [(5,5)] yF ⟨rfl,trivial,⟨rfl,rfl,rfl,rfl,trivial⟩,⟨oV (yO ko),trivial⟩⟩
  ·have hc:i=21:=by have:=of_decide_eq_false hc;omega
   subst hc
   have hx:pQ s kindT=none:=hx
   rw[hx]at hR
   exact zX hR rfl (vv trivial) vz (Sub.nil _) ClM.nil (zI rfl)
@[reducible] def iY (nm:Nat)(l:List Str):Nat×Bk:=(nm,⟨true,l.map sC,9⟩)
theorem VA (l:List Str)(n:Nat)(hn:n<=l.length)(hl:n<=1000000000000000)(x:Str):CallOk Hf 139 [.c (.sl 1 0 n 1),S x] [iY 1 l] (I (tw (fun y=>x==y) (l.take n) 0)) []:=by
 have hM:ClM [iY 1 l]:=ClM.v (by simp only[Ky,y7];rfl)
 refine kN 100 func139 Re ntmps139 fun C hR hP=>?_
 refine vv ?_
 refine zG (M0:=[iY 1 l]) (α:={i:Nat//i<=n/\tw (fun y=>x==y) (l.take n) 0=tw (fun y=>x==y) ((l.take n).drop i) i}) hP (fun i=>[(0,true,.c (.sl 1 0 n 1)),(1,true,S x),(7,true,I n),(8,true,I i.val)]) (fun _=>[iY 1 l]) (fun i=>n-i.val) ⟨0,zA,rfl⟩ (fun _=>hM) (fun _=>zO rfl) [(1,1)] ?_ ?_
 ·exact z9
 ·rintro⟨i,hi,hx⟩ J hb
  simp only at hb hi hx⊢
  refine zB 120 (vv ?_)
  refine zU (fun hc=>?_) (fun hc=>?_)
  ·have hc:=zH hc
   have hx':=wO (fun y=>x==y) (l.take n) i (by simp;omega) (i:Int)
   rw[List.getElem_take]at hx'
   simp only[go_sem,xq (show i<l.length by omega)]
   refine⟨⟨zA,zA⟩,?_⟩
   refine zU (fun hd=>?_) (fun hd=>?_)
   ·refine zX hR rfl ⟨rfl,trivial⟩ ?_ (yr _) hM (zI rfl)
    rw[hx,hx',hd];rfl
   ·simp only[yT (i:=i)]
    refine hb _ _ ⟨i+1,hc,?_⟩ [(1,1)] yF z9
    rw[hx,hx',hd];rfl
  ·have hc:=zL hi hc
   refine zX hR rfl ⟨rfl,trivial⟩ ?_ (yr _) hM (zI rfl)
   rw[hx,Jl (by simp;omega)];rfl
theorem kP (l:List Str)(x:Str):(l.any fun y=>x==y)=l.contains x:=by
 induction l with
 |nil=>rfl
 |cons y l ih=>rw[List.any_cons,Jn,ih]
theorem qw (l:List Str)(n:Nat)(hn:n<=l.length)(hl:n<=1000000000000000)(x:Str):CallOk Hf 73 [.c (.sl 1 0 n 1),S x] [iY 1 l] (Bo ((l.take n).contains x)) []:=by
 have hM:ClM [iY 1 l]:=ClM.v (by simp only[Ky,y7];rfl)
 refine kN 100 func73 OX ntmps73 fun C hR hP=>?_
 refine vv ?_
 refine CallQ.ren [(1,1)] 120 (VA l n hn hl x) hM rfl rfl ⟨oW (yO (y7 _)),trivial⟩ rfl (.inr rfl) (vv ?_)
 refine zX hR rfl ⟨rfl,trivial⟩ ?_ (yr _) hM (zI rfl)
 rw[<-kP,<-ww (fun y=>x==y) (l.take n) 0 zA];rfl
theorem dH (s:Str):CallOk Hf 143 [S s] [] (Bo (ng s)) []:=by
 have hc:=qw rN 21 yg yg s
 have e1:(rN.take 21).contains s=(kindT.map (·.1)).contains s:=rfl
 rw[e1]at hc
 refine kN 100 func143 Ra ntmps143 fun C hR hP=>?_
 refine vv ?_
 refine CallQ.ren [(1,130)] 131 Wx ClM.nil rfl rfl trivial rfl (.inl rfl) ?_
 simp only[Mem.ren,Kv,Kx,Bk.ren,JJ,V.ren,W.ren,Cv.ren,rn,Nat.reduceBEq,cond_true,cond_false,Function.comp_def]
 refine vv ?_
 cases hk:(kindT.map (·.1)).contains s with
 |true=>
  have e2:ng s=true:=by rw[ng,hk];rfl
  rw[hk]at hc
  refine CallQ.ren [(1,130)] 140 hc (ClM.v rfl) rfl rfl ⟨⟨_,rfl,.inr ⟨rfl,[],rfl⟩⟩,trivial⟩ rfl (.inr rfl) (vv ?_)
  refine CallQ.guard (xs:=[]) (v:=Bo true) 150 (fun h=>by cases h) (fun h=>by cases h) (vv ?_)
  exact yL hR e2.symm
 |false=>
  have e2:ng s=bB.contains s:=by rw[ng,hk];rfl
  rw[hk]at hc
  refine CallQ.ren [(1,130)] 140 hc (ClM.v rfl) rfl rfl ⟨⟨_,rfl,.inr ⟨rfl,[],rfl⟩⟩,trivial⟩ rfl (.inr rfl) (vv ?_)
  refine CallQ.ren [(1,140)] 150 (qw bB 7 yg yg s) (ClM.v rfl) rfl rfl ⟨⟨_,rfl,.inr ⟨rfl,[],rfl⟩⟩,trivial⟩ rfl (.inr rfl) (vv ?_)
  exact yL hR e2.symm
theorem jN (p:UInt8->Bool)(s:Str):((dF p s 0:Int)==(s.length:Int))=s.all p:=by
 unfold dF
 rw[Jp,JQ,beq_iff_eq]
 induction s with
 |nil=>simp
 |cons c s ih=>
  rw[List.takeWhile_cons,Ky]
  cases hp:p c with
  |false=>simp;omega
  |true=>simp only[if_true,JR,Je];rw[<-ih];omega
theorem wu (s:Str)(hs:s.length<=1000000000000000):CallOk Hf 74 [S s] [] (Bo (yZ s)) []:=by
 cases s with
 |nil=>
  refine kN 100 func74 Uz ntmps74 fun C hR hP=>?_
  refine vv ?_
  refine CallQ.guard (xs:=[]) (v:=Bo true) 150 (fun h=>by cases h) (fun h=>by cases h) (vv ?_)
  refine CallQ.guard (xs:=[]) (v:=I 0) 150 (fun h=>by cases h) (fun h=>by cases h) (vv ?_)
  refine CallQ.guard (xs:=[]) (v:=Bo true) 150 (fun h=>by cases h) (fun h=>by cases h) (vv ?_)
  exact yL hR rfl
 |cons c r=>
  have hne:((c::r)==([]:Str))=false:=rfl
  have hlen:decide (((c::r).length:Int)<=24)=decide ((c::r).length<=24):=by rw[decide_eq_decide];omega
  have h0:(0:Int)<((c::r).length:Int):=by simp only[JR];omega
  have hnm:yZ (c::r)=(decide ((c::r).length<=24)&&(mN ((c::r).getD 0 0)&&((c::r).all nW&& !ng (c::r)))):=rfl
  rw[hnm]
  generalize c::r=s at*
  refine kN 100 func74 Uz ntmps74 fun C hR hP=>?_
  simp only[go_sem,hlen,hne,bne]
  refine⟨fun h=>⟨h,h0⟩,?_⟩
  have hrn:=jN nW s
  cases hl:decide (s.length<=24)with
  |false=>
   rw[hl]at hR
   refine CallQ.guard (xs:=[]) (v:=Bo true) 150 (fun h=>by cases h) (fun h=>by cases h) (vv ?_)
   refine CallQ.guard (xs:=[]) (v:=I 0) 150 (fun h=>by cases h) (fun h=>by cases h) (vv ?_)
   refine CallQ.guard (xs:=[]) (v:=Bo true) 150 (fun h=>by cases h) (fun h=>by cases h) (vv ?_)
   exact yL hR rfl
  |true=>
   rw[hl]at hR
   refine CallQ.pure 150 (eA (s.getD 0 0)) rfl (vv ?_)
   refine CallQ.guard 150 (fun _=>P9 s 0 zA hs 142 nW Wz) (fun h=>by rw[h];rfl) ?_
   simp only[go_sem,hrn]
   refine CallQ.guard 150 (fun _=>dH s) (fun h=>by rw[h];rfl) (vv ?_)
   refine yL hR ?_
   cases mN (s.getD 0 0)<;>cases s.all nW<;>rfl
end Go.Proofs.YtkciabfilokfiaaGreat.Fx
