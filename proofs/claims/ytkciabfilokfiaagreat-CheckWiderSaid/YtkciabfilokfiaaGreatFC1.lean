/-  -/
import Derived.Test.YtkciabfilokfiaaGreatTf
namespace Go.Proofs.YtkciabfilokfiaaGreat.Fx
open Vg Tf
abbrev I (n:Int):V:= .c (.v (.int .i64 n))
abbrev U (n:Int):V:= .c (.v (.int .u64 n))
abbrev Bo (b:Bool):V:= .c (.v (.bool b))
abbrev Wi (n:Int):W:= .c (.v (.int .i64 n))
abbrev Wu (n:Int):W:= .c (.v (.int .u64 n))
theorem w64 {x:Int}(h1: -9223372036854775808≤x)(h2:x≤9223372036854775807):IntKind.i64.wrap x=x:=IntWalk.i64_in x ⟨h1,h2⟩
theorem wu64 {x:Int}(h1:0≤x)(h2:x<18446744073709551616):IntKind.u64.wrap x=x:=by rw[IntKind.wrap_u64];omega
set_option linter.unusedSimpArgs false
set_option linter.unusedVariables false
set_option maxRecDepth 100000
theorem magnitude (x:Int)(h1: -9223372036854775808≤x)(h2:x≤9223372036854775807):CallOk Tryz.prog 299 [I x] [] (U x.natAbs) []:=by
 refine CallOk.mk 100 Tryz.func299 rfl en299 (by simp[Tryz.ntmps299]) (by simp[ClV,V.g,Cv.g]) fun C hR=>?_
 simp only[go_sem,Nat.reduceBEq,Nat.reduceAdd,Nat.reduceLT,Nat.reduceLeDiff,Nat.reduceEqDiff,reduceCtorEq]
 split
 ·rename_i h
  refine RetQ.int hR rfl ⟨rfl,trivial⟩ ?_
  simp at h
  rw[IntKind.wrap_u64,IntKind.wrap_u64,IntKind.wrap_i64,IntKind.wrap_i64]
  omega
 ·rename_i h
  refine RetQ.int hR rfl ⟨rfl,trivial⟩ ?_
  simp at h
  rw[IntKind.wrap_u64]
  omega
theorem shr32 (x:Int):x.fdiv (2^min (Int.toNat 32) 64)=x/4294967296:=by
 rw[show(2:Int)^min (Int.toNat 32) 64=4294967296 from rfl]
 exact Int.fdiv_eq_ediv_of_nonneg x (by omega)
theorem mul64 (x y:Int)(hx0:0≤x)(hx:x<18446744073709551616)(hy0:0≤y)(hy:y<18446744073709551616):CallOk Tryz.prog 279 [U x,U y] [] (.tup [Wu (x*y/18446744073709551616),Wu (x*y%18446744073709551616)]) []:=by
 refine CallOk.mk 100 Tryz.func279 rfl en279 (by simp[Tryz.ntmps279]) (by simp[ClV,V.g,Cv.g]) fun C hR=>?_
 simp only[go_sem,Nat.reduceBEq,Nat.reduceAdd,Nat.reduceLT,Nat.reduceLeDiff,Nat.reduceEqDiff,reduceCtorEq]
 refine⟨by decide,by decide,by decide,by decide,by decide,RetQ.int2 hR rfl ⟨rfl,rfl,trivial⟩ ?_ (IntKind.wrap_u64 _)⟩
 have hm:=mul64_arith x y hx0 hx hy0 hy
 have hp:∀z:Int,0≤z%18446744073709551616∧z%18446744073709551616<18446744073709551616:=fun z=>by omega
 simp only[IntKind.wrap_u64,shr32]
 rw[and_low32 x hx0 hx,and_low32 y hy0 hy]
 rw[and_low32 _ (hp _).1 (hp _).2]
 exact hm
theorem div64s (lo y:Int)(hl0:0≤lo)(hl:lo<18446744073709551616)(hy0:0<y)(hy:y<18446744073709551616):CallOk Tryz.prog 300 [U 0,U lo,U y] [] (.tup [Wu (lo/y),Wu (lo%y)]) []:=by
 refine CallOk.mk 100 Tryz.func300 rfl en300 (by simp[Tryz.ntmps300]) (by simp[ClV,V.g,Cv.g]) fun C hR=>?_
 simp only[go_sem,Nat.reduceBEq,Nat.reduceAdd,Nat.reduceLT,Nat.reduceLeDiff,Nat.reduceEqDiff,reduceCtorEq]
 have e1:(y==0)=false:=by simp;omega
 have e2:decide (y≤0)=false:=by simp;omega
 simp only[e1,e2]
 refine Sm.dgo 200 8 mix (by decide+kernel) (by decide+kernel) ?_
 simp only[go_sem,Nat.reduceBEq,Nat.reduceAdd,Nat.reduceLT,Nat.reduceLeDiff,Nat.reduceEqDiff,reduceCtorEq]
 have e3:lo.tdiv y=lo/y:=Int.tdiv_eq_ediv_of_nonneg hl0
 have e4:lo.tmod y=lo%y:=Int.tmod_eq_emod_of_nonneg hl0
 have e5:0≤lo/y:=Int.ediv_nonneg hl0 (by omega)
 have e6:lo/y≤lo:=Int.ediv_le_self _ hl0
 refine⟨by omega,by omega,?_⟩
 refine RetQ.int2 hR rfl ⟨rfl,rfl,trivial⟩ ?_ e4
 rw[e3,wu64 e5 (by omega)]
def rnd (m p c:Int):Int:=if m=1 then p/c else if m=2 then-((-p)/c)else(2*p+c)/(2*c)
theorem rounded (r c:Int)(neg:Bool)(m:Int)(hr:0≤r)(hc:r<c)(hc2:c<18446744073709551616):
  CallOk Tryz.prog 301 [U r,U c,Bo neg,I m] [] (Bo (bif m==1 then neg&&decide (0<r)else bif m==2 then !neg&&decide (0<r)else bif neg then decide (c<2*r)else decide (c≤2*r))) []:=by
 refine CallOk.mk 100 Tryz.func301 rfl en301 (by simp[Tryz.ntmps301]) (by simp[ClV,V.g,Cv.g]) fun C hR=>?_
 simp only[go_sem,Nat.reduceBEq,Nat.reduceAdd,Nat.reduceLT,Nat.reduceLeDiff,Nat.reduceEqDiff,reduceCtorEq]
 have hw:IntKind.u64.wrap (c-r)=c-r:=wu64 (by omega) (by omega)
 simp only[hw]
 cases h1:(m==1)with
 |true=>
  simp only[h1,cond_true]at hR⊢
  refine RetQ.bool hR rfl ⟨rfl,trivial⟩ ?_
  cases neg<;>rfl
 |false=>
  cases h2:(m==2)with
  |true=>
   simp only[h1,h2,cond_true,cond_false]at hR⊢
   refine RetQ.bool hR rfl ⟨rfl,trivial⟩ ?_
   cases neg<;>rfl
  |false=>
   simp only[h1,h2,cond_true,cond_false]at hR⊢
   cases neg with
   |true=>
    simp only[cond_true]at hR⊢
    refine RetQ.bool hR rfl ⟨rfl,trivial⟩ ?_
    rw[decide_eq_decide];omega
   |false=>
    simp only[cond_false]at hR⊢
    refine RetQ.bool hR rfl ⟨rfl,trivial⟩ ?_
    rw[decide_eq_decide];omega
theorem ediv_eq {x d y:Int}(hd:0<d)(h1:d*y≤x)(h2:x<d*y+d):x/d=y:=by
 have h3:=Int.mul_ediv_add_emod x d
 have h4:=Int.emod_nonneg x (show d≠0 by omega)
 have h5:=Int.emod_lt_of_pos x hd
 have h6:d*(x/d-y)<d*1:=by rw[Int.mul_sub];omega
 have h7:d*(y-x/d)<d*1:=by rw[Int.mul_sub];omega
 have h8:=Int.lt_of_mul_lt_mul_left h6 (by omega)
 have h9:=Int.lt_of_mul_lt_mul_left h7 (by omega)
 omega
theorem rnd_pos (m p c:Int)(hc:0<c):rnd m p c=p/c+(if (bif m==1 then false else bif m==2 then decide (0<p%c)else decide (c≤2*(p%c)))=true then 1 else 0):=by
 have h3:=Int.mul_ediv_add_emod p c
 have h4:=Int.emod_nonneg p (show c≠0 by omega)
 have h5:=Int.emod_lt_of_pos p hc
 generalize p%c=r at*
 generalize p/c=q at*
 unfold rnd
 by_cases h1:m=1
 ·subst h1
  simp
  exact ediv_eq hc (by omega) (by omega)
 by_cases h2:m=2
 ·subst h2
  simp
  split
  ·rw[ediv_eq (y:= -q-1) hc (by rw[Int.mul_sub,Int.mul_neg];omega) (by rw[Int.mul_sub,Int.mul_neg];omega)];omega
  ·rw[ediv_eq (y:= -q) hc (by rw[Int.mul_neg];omega) (by rw[Int.mul_neg];omega)];omega
 ·simp[h1,h2]
  split
  ·exact ediv_eq (by omega) (by rw[Int.mul_assoc,Int.mul_add];omega) (by rw[Int.mul_assoc,Int.mul_add];omega)
  ·exact ediv_eq (by omega) (by rw[Int.mul_assoc,Int.mul_add];omega) (by rw[Int.mul_assoc,Int.mul_add];omega)
theorem rnd_neg (m p c:Int)(hc:0<c):rnd m (-p) c= -(p/c+(if (bif m==1 then decide (0<p%c)else bif m==2 then false else decide (c<2*(p%c)))=true then 1 else 0)):=by
 have h3:=Int.mul_ediv_add_emod p c
 have h4:=Int.emod_nonneg p (show c≠0 by omega)
 have h5:=Int.emod_lt_of_pos p hc
 generalize p%c=r at*
 generalize p/c=q at*
 unfold rnd
 by_cases h1:m=1
 ·subst h1
  simp
  split
  ·rw[ediv_eq (y:= -q-1) hc (by rw[Int.mul_sub,Int.mul_neg];omega) (by rw[Int.mul_sub,Int.mul_neg];omega)];omega
  ·rw[ediv_eq (y:= -q) hc (by rw[Int.mul_neg];omega) (by rw[Int.mul_neg];omega)];omega
 by_cases h2:m=2
 ·subst h2
  simp
  rw[ediv_eq (y:=q) hc (by omega) (by omega)]
 ·simp[h1,h2]
  have k1:c* -q= -(c*q):=Int.mul_neg _ _
  have k2:2*c*(-q-1)=2*(c* -q)-2*c:=by rw[Int.mul_assoc,Int.mul_sub];omega
  have k3:2*c* -q=2*(c* -q):=by rw[Int.mul_assoc]
  split
  ·rw[ediv_eq (y:= -q-1) (by omega) (by omega) (by omega)];omega
  ·rw[ediv_eq (y:= -q) (by omega) (by omega) (by omega)];omega
theorem muldiv (a b c m:Int)(ha1: -9223372036854775808≤a)(ha2:a≤9223372036854775807)(hb1: -9223372036854775808≤b)(hb2:b≤9223372036854775807)(hc:0<c)(hc2:c≤9223372036854775807)(hm:1≤m)(hm3:m≤3)
  (hp:(a*b).natAbs<18446744073709551616) (hp2:((a*b).natAbs:Int)≤c*4611686018427387904):CallOk Tryz.prog 298 [I a,I b,I c,I m] [] (.tup [Wi (rnd m (a*b) c),Wi 0]) []:=by
 refine CallOk.mk 100 Tryz.func298 rfl en298 (by simp[Tryz.ntmps298]) (by simp[ClV,V.g,Cv.g]) fun C hR=>?_
 simp only[go_sem,Nat.reduceBEq,Nat.reduceAdd,Nat.reduceLT,Nat.reduceLeDiff,Nat.reduceEqDiff,reduceCtorEq]
 have e1:decide (m<1)=false:=by simp;omega
 have e2:decide (3<m)=false:=by simp;omega
 have e3:(c==0)=false:=by simp;omega
 have e4:decide (c<0)=false:=by simp;omega
 simp only[e1,e2,e3,e4,cond_false]
 refine CallQ.pure 100 (magnitude a ha1 ha2) rfl ?_
 simp only[go_sem,Nat.reduceBEq,Nat.reduceAdd,Nat.reduceLT,Nat.reduceLeDiff,Nat.reduceEqDiff,reduceCtorEq]
 refine CallQ.pure 100 (magnitude b hb1 hb2) rfl ?_
 simp only[go_sem,Nat.reduceBEq,Nat.reduceAdd,Nat.reduceLT,Nat.reduceLeDiff,Nat.reduceEqDiff,reduceCtorEq]
 refine CallQ.pure 100 (mul64 _ _ (by omega) (by omega) (by omega) (by omega)) rfl ?_
 simp only[go_sem,Nat.reduceBEq,Nat.reduceAdd,Nat.reduceLT,Nat.reduceLeDiff,Nat.reduceEqDiff,reduceCtorEq]
 refine CallQ.pure 100 (magnitude c (by omega) (by omega)) rfl ?_
 simp only[go_sem,Nat.reduceBEq,Nat.reduceAdd,Nat.reduceLT,Nat.reduceLeDiff,Nat.reduceEqDiff,reduceCtorEq]
 have hab:(a.natAbs:Int)*b.natAbs=(a*b).natAbs:=by rw[Int.natAbs_mul];simp
 have hcc:(c.natAbs:Int)=c:=by omega
 simp only[hab,hcc]
 generalize hpp:((a*b).natAbs:Int)=p at*
 have hp0:0≤p:=by omega
 have e5:p/18446744073709551616=0:=by omega
 have e6:p%18446744073709551616=p:=by omega
 have e7:decide (c≤p/18446744073709551616)=false:=by simp;omega
 have e8:decide (c≤0)=false:=by simp;omega
 simp only[e5,e6,e8]
 refine CallQ.pure 100 (div64s p c hp0 (by omega) hc (by omega)) rfl ?_
 simp only[go_sem,Nat.reduceBEq,Nat.reduceAdd,Nat.reduceLT,Nat.reduceLeDiff,Nat.reduceEqDiff,reduceCtorEq]
 have hq0:0≤p/c:=Int.ediv_nonneg hp0 (by omega)
 have hq1:p/c≤4611686018427387904:=Int.ediv_le_of_le_mul hc (by omega)
 have hr0:=Int.emod_nonneg p (show c≠0 by omega)
 have hr1:=Int.emod_lt_of_pos p hc
 have e9:decide (9223372036854775808<p/c)=false:=by simp;omega
 simp only[e9]
 refine CallQ.pure 100 (rounded _ _ _ m hr0 hr1 (by omega)) rfl ?_
 simp only[go_sem,Nat.reduceBEq,Nat.reduceAdd,Nat.reduceLT,Nat.reduceLeDiff,Nat.reduceEqDiff,reduceCtorEq]
 generalize hneg:((decide (a<0)!=decide (b<0))!=false)=neg
 have hsg:a*b=if neg=true then-p else p:=by
  rcases Int.lt_or_le a 0 with h|h<;>rcases Int.lt_or_le b 0 with h'|h'
  ·have:0<a*b:=Int.mul_pos_of_neg_of_neg h h'
   rw[←hneg];simp[h,h'];omega
  ·have:a*b≤0:=Int.mul_nonpos_of_nonpos_of_nonneg (by omega) h'
   rw[←hneg];simp[h,Int.not_lt.2 h'];omega
  ·have:a*b≤0:=Int.mul_nonpos_of_nonneg_of_nonpos h (by omega)
   rw[←hneg];simp[Int.not_lt.2 h,h'];omega
  ·have:0≤a*b:=Int.mul_nonneg h h'
   rw[←hneg];simp[Int.not_lt.2 h,Int.not_lt.2 h'];omega
 have hrp:=rnd_pos m p c hc
 have hrn:=rnd_neg m p c hc
 generalize p/c=q at*
 generalize p%c=r at*
 have hw1:IntKind.u64.wrap (q+1)=q+1:=wu64 (by omega) (by omega)
 have d1:decide (q+1≤9223372036854775808)=true:=by simp;omega
 have d2:decide (q≤9223372036854775808)=true:=by simp;omega
 have d3:decide (q+1<9223372036854775808)=true:=by simp;omega
 have d4:decide (q<9223372036854775808)=true:=by simp;omega
 simp only[hw1,d1,d2,d3,d4]
 cases neg with
 |false=>
  rw[if_neg (by simp)]at hsg
  rw[←hsg]at hrp
  simp only[Bool.false_and,Bool.not_false,Bool.true_and,cond_false,cond_true]
  generalize (bif m==1 then false else bif m==2 then decide (0<r)else decide (c≤2*r))=up at*
  cases up with
  |true=>
   refine RetQ.int2 hR rfl ⟨rfl,rfl,trivial⟩ ?_ rfl
   rw[hrp,w64 (by omega) (by omega)];simp
  |false=>
   refine RetQ.int2 hR rfl ⟨rfl,rfl,trivial⟩ ?_ rfl
   rw[hrp,w64 (by omega) (by omega)];simp
 |true=>
  rw[if_pos rfl]at hsg
  rw[←hsg]at hrn
  simp only[Bool.true_and,Bool.not_true,Bool.false_and,cond_false,cond_true]
  generalize (bif m==1 then decide (0<r)else bif m==2 then false else decide (c<2*r))=up at*
  cases up with
  |true=>
   refine RetQ.int2 hR rfl ⟨rfl,rfl,trivial⟩ ?_ rfl
   rw[hrn]
   simp only[if_true,IntKind.wrap_u64,IntKind.wrap_i64]
   omega
  |false=>
   refine RetQ.int2 hR rfl ⟨rfl,rfl,trivial⟩ ?_ rfl
   rw[hrn]
   simp only[Bool.false_eq_true,if_false,IntKind.wrap_u64,IntKind.wrap_i64]
   omega
theorem div_ (a c m:Int)(ha1: -9223372036854775808≤a)(ha2:a≤9223372036854775807)(hc:0<c)(hc2:c≤9223372036854775807)(hm:1≤m)(hm3:m≤3)(hp2:(a.natAbs:Int)≤c*4611686018427387904):
  CallOk Tryz.prog 291 [I a,I c,I m] [] (.tup [Wi (rnd m a c),Wi 0]) []:=by
 refine CallOk.mk 100 Tryz.func291 rfl en291 (by simp[Tryz.ntmps291]) (by simp[ClV,V.g,Cv.g]) fun C hR=>?_
 simp only[go_sem,Nat.reduceBEq,Nat.reduceAdd,Nat.reduceLT,Nat.reduceLeDiff,Nat.reduceEqDiff,reduceCtorEq]
 refine CallQ.pure 100 (muldiv a 1 c m ha1 ha2 (by omega) (by omega) hc hc2 hm hm3 (by omega) (by omega)) rfl ?_
 simp only[go_sem,Nat.reduceBEq,Nat.reduceAdd,Nat.reduceLT,Nat.reduceLeDiff,Nat.reduceEqDiff,reduceCtorEq]
 exact RetQ.int2 hR rfl ⟨rfl,rfl,trivial⟩ (by rw[Int.mul_one]) rfl
theorem floor_ (a c:Int)(ha1: -4611686018427387904≤a)(ha2:a≤4611686018427387904)(hc:0<c)(hc2:c≤9223372036854775807):CallOk Tryz.prog 281 [I a,I c] [] (I (a/c)) []:=by
 refine CallOk.mk 100 Tryz.func281 rfl en281 (by simp[Tryz.ntmps281]) (by simp[ClV,V.g,Cv.g]) fun C hR=>?_
 simp only[go_sem,Nat.reduceBEq,Nat.reduceAdd,Nat.reduceLT,Nat.reduceLeDiff,Nat.reduceEqDiff,reduceCtorEq]
 refine CallQ.pure 100 (div_ a c 1 (by omega) (by omega) hc hc2 (by omega) (by omega) (by omega)) rfl ?_
 simp only[go_sem,Nat.reduceBEq,Nat.reduceAdd,Nat.reduceLT,Nat.reduceLeDiff,Nat.reduceEqDiff,reduceCtorEq]
 exact RetQ.int hR rfl ⟨rfl,trivial⟩ rfl
end Go.Proofs.YtkciabfilokfiaaGreat.Fx
