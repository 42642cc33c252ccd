/-  -/
import Derived.Test.YtkciabfilokfiaaGreatPS
import Derived.Test.YtkciabfilokfiaaGreatU2
import Derived.Laws.BitsAll
import Derived.Laws.Externs
import Derived.Test.YtkciabfilokfiaaGreatMB
namespace Go.Proofs.YtkciabfilokfiaaGreat.Fx
open Vg Tf
set_option linter.unusedSimpArgs false
set_option linter.unusedVariables false
set_option maxRecDepth 100000
abbrev cu (n:Int):Cv:= .v (.int .u64 n)
def wd (x:Int):V:= .agg [cu (x/18446744073709551616%18446744073709551616),cu (x%18446744073709551616)]
theorem wd_eq {a b x:Int}(h1:a=x/18446744073709551616%18446744073709551616)(h2:b=x%18446744073709551616):V.agg [cu a,cu b]=wd x:=by rw[h1,h2];rfl
theorem wd_cl (x:Int):ClV [] (wd x):=fun _ _ _=>rfl
theorem xor_ones (x:Nat)(h:x<18446744073709551616):18446744073709551615 ^^^ x=18446744073709551615-x:=by
 have h1:(BitVec.allOnes 64 ^^^ BitVec.ofNat 64 x)= ~~~ (BitVec.ofNat 64 x):=BitVec.allOnes_xor
 have h2:=congrArg BitVec.toNat h1
 rw[BitVec.toNat_xor,BitVec.toNat_not,BitVec.toNat_ofNat,BitVec.toNat_allOnes,Nat.mod_eq_of_lt h]at h2
 exact h2
theorem xor_top (x:Nat)(h:x<9223372036854775808):x ^^^ 9223372036854775808=9223372036854775808+x:=by
 apply Nat.eq_of_testBit_eq
 intro i
 rw[Nat.testBit_xor,show(9223372036854775808:Nat)=2^63 by decide]
 rcases Nat.lt_trichotomy i 63 with hi|hi|hi
 ·rw[Nat.testBit_two_pow_add_gt hi,Nat.testBit_two_pow_of_ne (by omega)];simp
 ·subst hi
  rw[Nat.testBit_two_pow_add_eq,Nat.testBit_two_pow_self]
  simp
 ·rw[Nat.testBit_two_pow_of_ne (by omega),Nat.testBit_lt_two_pow (Nat.lt_of_lt_of_le h (Nat.pow_le_pow_right (n:=2) (by omega) (show 63≤i by omega)))]
  rw[Nat.testBit_lt_two_pow]
  ·rfl
  ·have:=Nat.pow_le_pow_right (n:=2) (by omega) (show 64≤i by omega)
   omega
theorem not64 (a:Int)(h0:0≤a)(h1:a<18446744073709551616):bits .xor .u64 (if IntKind.u64.signed=true then-1 else IntKind.u64.max) a=18446744073709551615-a:=by
 have e:(if IntKind.u64.signed=true then-1 else IntKind.u64.max)=18446744073709551615:=by decide
 rw[e]
 have k:bits .xor .u64 18446744073709551615 a=((18446744073709551615 ^^^ a.toNat:Nat):Int):=by go_bits2
 rw[k,xor_ones _ (by omega)]
 omega
theorem top64 (a:Int)(h0:0≤a)(h1:a<18446744073709551616):bits .xor .u64 a 9223372036854775808=if a<9223372036854775808 then a+9223372036854775808 else a-9223372036854775808:=by
 have k:bits .xor .u64 a 9223372036854775808=((a.toNat ^^^ 9223372036854775808:Nat):Int):=by go_bits2
 rw[k]
 split
 ·rw[xor_top _ (by omega)];omega
 ·have e:a.toNat=(a.toNat-9223372036854775808) ^^^ 9223372036854775808:=by rw[xor_top _ (by omega)];omega
  rw[e,Nat.xor_assoc,Nat.xor_self,Nat.xor_zero]
  omega
theorem add64 (x y c:Int)(hx:0≤x)(hy:0≤y)(hc:0≤c)(hc1:c≤1):ExtOk Tryz.prog 287 [U x,U y,U c] (.tup [Wu ((x+y+c)%18446744073709551616),Wu ((x+y+c)/18446744073709551616)]):=by
 intro β w
 have h:=run_callFunc_extern (e:=add64Entry) Tryz.func287 (by kernel_rfl) (by kernel_rfl) (by kernel_rfl) (by kernel_rfl) #[.int .u64 x,.int .u64 y,.int .u64 c] w
 rw[run_add64 x y c hx hy hc hc1]at h
 exact h
theorem of_ (n:Int)(h1: -9223372036854775808≤n)(h2:n≤9223372036854775807):CallOk Tryz.prog 259 [I n] [] (wd n) []:=by
 refine CallOk.mk 100 Tryz.func259 rfl en259 (by simp[Tryz.ntmps259]) (by simp[ClV,V.g,Cv.g]) fun C hR=>?_
 refine vv ?_
 by_cases h:n<0
 ·have e:decide (n<0)=true:=by simpa using h
  simp only[e]
  refine RetQ.pure hR rfl (vv trivial) ?_ (wd_cl _)
  refine vv ?_
  rw[wd,IntKind.wrap_u64,show n/18446744073709551616%18446744073709551616=18446744073709551615 by omega]
 ·have e:decide (n<0)=false:=by simpa using h
  simp only[e]
  refine RetQ.pure hR rfl (vv trivial) ?_ (wd_cl _)
  refine vv ?_
  rw[wd,IntKind.wrap_u64,show n/18446744073709551616%18446744073709551616=0 by omega]
theorem shr63 (x:Int):x.fdiv (2^min 63 64)=x/9223372036854775808:=by
 rw[show(2:Int)^min 63 64=9223372036854775808 from rfl]
 exact Int.fdiv_eq_ediv_of_nonneg x (by omega)
theorem negative_ (x:Int)(h1: -170141183460469231731687303715884105728≤x)(h2:x<170141183460469231731687303715884105728):CallOk Tryz.prog 277 [wd x] [] (Bo (decide (x<0))) []:=by
 refine CallOk.mk 100 Tryz.func277 rfl en277 (by simp[Tryz.ntmps277]) (by simp[ClV,V.g,Cv.g,wd]) fun C hR=>?_
 simp only[wd]
 refine vv ?_
 refine RetQ.bool hR rfl ⟨rfl,trivial⟩ ?_
 rw[shr63,Bool.eq_iff_iff]
 simp only[beq_iff_eq,decide_eq_true_eq]
 omega
theorem neg_ (x:Int):CallOk Tryz.prog 278 [wd x] [] (wd (-x)) []:=by
 refine CallOk.mk 100 Tryz.func278 rfl en278 (by simp[Tryz.ntmps278]) (by simp[ClV,V.g,Cv.g,wd]) fun C hR=>?_
 simp only[wd]
 refine vv ?_
 have hl0:0≤x%18446744073709551616:=by omega
 have hl1:x%18446744073709551616<18446744073709551616:=by omega
 have hh0:0≤x/18446744073709551616%18446744073709551616:=by omega
 have hh1:x/18446744073709551616%18446744073709551616<18446744073709551616:=by omega
 rw[not64 _ hl0 hl1]
 refine CallQ.ext 102 (add64 _ _ _ (by omega) (by omega) (by omega) (by omega)) rfl ?_
 refine vv ?_
 rw[not64 _ hh0 hh1]
 refine RetQ.pure hR rfl (vv trivial) ?_ (wd_cl _)
 refine vv ?_
 rw[IntKind.wrap_u64]
 exact wd_eq (by omega) (by omega)
theorem add_ (x y:Int):CallOk Tryz.prog 275 [wd x,wd y] [] (wd (x+y)) []:=by
 refine CallOk.mk 100 Tryz.func275 rfl en275 (by simp[Tryz.ntmps275]) (by simp[ClV,V.g,Cv.g,wd]) fun C hR=>?_
 simp only[wd]
 refine vv ?_
 refine CallQ.ext 103 (add64 _ _ _ (by omega) (by omega) (by omega) (by omega)) rfl ?_
 refine vv ?_
 refine CallQ.ext 103 (add64 _ _ _ (by omega) (by omega) (by omega) (by omega)) rfl ?_
 refine vv ?_
 refine RetQ.pure hR rfl (vv trivial) ?_ (wd_cl _)
 refine vv ?_
 exact wd_eq (by omega) (by omega)
theorem isnan (x:Int):CallOk Tryz.prog 297 [U x] [] (Bo false) []:=by
 refine CallOk.mk 100 Tryz.func297 rfl en297 (by simp[Tryz.ntmps297]) (by simp[ClV,V.g,Cv.g]) fun C hR=>?_
 refine vv ?_
 exact RetQ.bool hR rfl ⟨rfl,trivial⟩ (by simp)
theorem cmp64 (x y:Int):CallOk Tryz.prog 288 [U x,U y] [] (I (if x<y then-1 else if y<x then 1 else 0)) []:=by
 refine CallOk.mk 100 Tryz.func288 rfl en288 (by simp[Tryz.ntmps288]) (by simp[ClV,V.g,Cv.g,wd]) fun C hR=>?_
 refine vv ?_
 refine CallQ.pure 102 (isnan x) rfl ?_
 refine vv ?_
 refine CallQ.pure 102 (isnan y) rfl ?_
 refine vv ?_
 by_cases h:x<y
 ·have e:decide (x<y)=true:=by simpa using h
  simp only[e]
  exact RetQ.int hR rfl ⟨rfl,trivial⟩ (by rw[if_pos h])
 ·have e:decide (x<y)=false:=by simpa using h
  simp only[e]
  by_cases h2:y<x
  ·have e2:decide (y<x)=true:=by simpa using h2
   simp only[e2]
   exact RetQ.int hR rfl ⟨rfl,trivial⟩ (by rw[if_neg h,if_pos h2])
  ·have e2:decide (y<x)=false:=by simpa using h2
   simp only[e2]
   exact RetQ.int hR rfl ⟨rfl,trivial⟩ (by rw[if_neg h,if_neg h2])
theorem atmost (x y:Int)(h1: -170141183460469231731687303715884105728≤x)(h2:x<170141183460469231731687303715884105728)(h3: -170141183460469231731687303715884105728≤y)(h4:y<170141183460469231731687303715884105728):
  CallOk Tryz.prog 276 [wd x,wd y] [] (Bo (decide (x≤y))) []:=by
 refine CallOk.mk 100 Tryz.func276 rfl en276 (by simp[Tryz.ntmps276]) (by simp[ClV,V.g,Cv.g,wd]) fun C hR=>?_
 simp only[wd]
 refine vv ?_
 rw[top64 _ (by omega) (by omega),top64 _ (by omega) (by omega)]
 generalize hp:(if x/18446744073709551616%18446744073709551616<9223372036854775808 then x/18446744073709551616%18446744073709551616+9223372036854775808 else x/18446744073709551616%18446744073709551616-9223372036854775808)=p
 generalize hq:(if y/18446744073709551616%18446744073709551616<9223372036854775808 then y/18446744073709551616%18446744073709551616+9223372036854775808 else y/18446744073709551616%18446744073709551616-9223372036854775808)=q
 have hp':p=x/18446744073709551616+9223372036854775808:=by rw[←hp];split<;>omega
 have hq':q=y/18446744073709551616+9223372036854775808:=by rw[←hq];split<;>omega
 refine CallQ.pure 102 (cmp64 p q) rfl ?_
 refine vv ?_
 by_cases h:p<q
 ·rw[if_pos h]
  refine vv ?_
  refine RetQ.bool hR rfl ⟨rfl,trivial⟩ ?_
  symm
  simp only[decide_eq_true_eq]
  omega
 ·rw[if_neg h]
  by_cases h':q<p
  ·rw[if_pos h']
   refine vv ?_
   refine RetQ.bool hR rfl ⟨rfl,trivial⟩ ?_
   symm
   simp only[decide_eq_false_iff_not]
   omega
  ·rw[if_neg h']
   refine vv ?_
   refine RetQ.bool hR rfl ⟨rfl,trivial⟩ ?_
   rw[decide_eq_decide]
   omega
theorem times_math {a m A B:Int}(hA:A=a/18446744073709551616*m)(hB:B=a%18446744073709551616*m):a*m=A*18446744073709551616+B:=by
 have:=Int.mul_ediv_add_emod a 18446744073709551616
 rw[hA,hB]
 generalize a/18446744073709551616=q at*
 generalize a%18446744073709551616=r at*
 rw[←this]
 grind
theorem times_fin {a m y:Int}(hy:y=a*m)(ha:0≤a)(h2:a<170141183460469231731687303715884105728):
  V.agg [cu (IntKind.u64.wrap (a%18446744073709551616*m/18446744073709551616+IntKind.u64.wrap (a/18446744073709551616%18446744073709551616*m))),cu (a%18446744073709551616*m%18446744073709551616)]=wd y:=by
 have hm:=times_math (a:=a) (m:=m) rfl rfl
 rw[IntKind.wrap_u64,IntKind.wrap_u64,show a/18446744073709551616%18446744073709551616=a/18446744073709551616 by omega]
 generalize a/18446744073709551616*m=A at*
 generalize a%18446744073709551616*m=B at*
 exact wd_eq (by omega) (by omega)
theorem wtimes (x n:Int)(h1: -170141183460469231731687303715884105728<x)(h2:x<170141183460469231731687303715884105728)(h3: -9223372036854775808≤n)(h4:n≤9223372036854775807):
  CallOk Tryz.prog 260 [wd x,I n] [] (wd (x*n)) []:=by
 refine CallOk.mk 100 Tryz.func260 rfl en260 (by simp[Tryz.ntmps260]) (by simp[ClV,V.g,Cv.g,wd]) fun C hR=>?_
 have hneg:=negative_ x (by omega) (by omega)
 unfold wd at hneg
 simp only[wd]
 refine vv ?_
 refine CallQ.pure 102 hneg rfl ?_
 refine vv ?_
 refine CallQ.pure 102 hneg rfl ?_
 refine vv ?_
 by_cases hx:x<0
 ·have ex:decide (x<0)=true:=by simp;omega
  simp only[ex]
  have hng:=neg_ x
  unfold wd at hng
  refine CallQ.pure 102 hng rfl ?_
  refine vv ?_
  by_cases hn:n<0
  ·have en:decide (n<0)=true:=by simp;omega
   simp only[en]
   have wm:IntKind.u64.wrap (0-IntKind.u64.wrap n)= -n:=by rw[IntKind.wrap_u64,IntKind.wrap_u64];omega
   simp only[wm]
   refine CallQ.pure 102 (mul64 (-x%18446744073709551616) (-n) (by omega) (by omega) (by omega) (by omega)) rfl ?_
   refine vv ?_
   skip
   refine RetQ.pure hR rfl (vv trivial) ?_ (wd_cl _)
   refine vv ?_
   exact times_fin (a:= -x) (m:= -n) (by grind) (by omega) (by omega)
  ·have en:decide (n<0)=false:=by simp;omega
   simp only[en]
   have wm:IntKind.u64.wrap n=n:=wu64 (by omega) (by omega)
   simp only[wm]
   refine CallQ.pure 102 (mul64 (-x%18446744073709551616) (n) (by omega) (by omega) (by omega) (by omega)) rfl ?_
   refine vv ?_
   refine CallQ.pure 103 (neg_ ((-x)*n)) (congrArg (fun z=>[some (true,z)]) (times_fin (a:= -x) (m:=n) rfl (by omega) (by omega))) ?_
   simp only[wd]
   refine vv ?_
   refine RetQ.pure hR rfl (vv trivial) ?_ (wd_cl _)
   refine vv ?_
   show wd _=wd _
   congr 1;grind
 ·have ex:decide (x<0)=false:=by simp;omega
  simp only[ex]
  by_cases hn:n<0
  ·have en:decide (n<0)=true:=by simp;omega
   simp only[en]
   have wm:IntKind.u64.wrap (0-IntKind.u64.wrap n)= -n:=by rw[IntKind.wrap_u64,IntKind.wrap_u64];omega
   simp only[wm]
   refine CallQ.pure 102 (mul64 (x%18446744073709551616) (-n) (by omega) (by omega) (by omega) (by omega)) rfl ?_
   refine vv ?_
   refine CallQ.pure 103 (neg_ (x*(-n))) (congrArg (fun z=>[some (true,z)]) (times_fin (a:=x) (m:= -n) rfl (by omega) (by omega))) ?_
   simp only[wd]
   refine vv ?_
   refine RetQ.pure hR rfl (vv trivial) ?_ (wd_cl _)
   refine vv ?_
   show wd _=wd _
   congr 1;grind
  ·have en:decide (n<0)=false:=by simp;omega
   simp only[en]
   have wm:IntKind.u64.wrap n=n:=wu64 (by omega) (by omega)
   simp only[wm]
   refine CallQ.pure 102 (mul64 (x%18446744073709551616) (n) (by omega) (by omega) (by omega) (by omega)) rfl ?_
   refine vv ?_
   skip
   refine RetQ.pure hR rfl (vv trivial) ?_ (wd_cl _)
   refine vv ?_
   exact times_fin (a:=x) (m:=n) (by grind) (by omega) (by omega)
end Go.Proofs.YtkciabfilokfiaaGreat.Fx
namespace Go.Proofs.YtkciabfilokfiaaGreat.Fx
open Vg Tf
set_option linter.unusedSimpArgs false
set_option linter.unusedVariables false
set_option maxRecDepth 100000
@[go_sem] def va (t:Ft)(r:Int):V:= .agg [ci t.bits,.v (.bool t.signed),ci t.num,ci t.off,ci t.den,ci t.m,ci t.kg,ci t.s,ci t.a,ci t.k,ci r]
@[go_sem] def rg (lo hi:Int):V:= .agg [ci lo,ci hi]
def hi64 (x:Int):Int:=x/18446744073709551616%18446744073709551616
def lo64 (x:Int):Int:=x%18446744073709551616
theorem wd_def (x:Int):wd x= .agg [cu (hi64 x),cu (lo64 x)]:=rfl
def exW (n d:Int):V:= .agg [cu (hi64 n),cu (lo64 n),cu (hi64 d),cu (lo64 d)]
theorem number5 (t:Ft)(r:Int)(h:fok t=true)(hw:fin t r=true):CallOk Tryz.prog 255 [va t r] [] (.tup [Wi (fnu t r),Wi t.den]) []:=by
 have hb:=fnu_bd h hw
 refine CallOk.mk 100 Tryz.func255 rfl en255 (by simp[Tryz.ntmps255]) (by simp[ClV,V.g,Cv.g,va,ci]) fun C hR=>?_
 refine vv ?_
 refine Sm.dg 101 14 mix ?_
 refine vv ?_
 refine RetQ.int2 hR rfl ⟨rfl,rfl,trivial⟩ ?_ rfl
 unfold fnu at hb⊢
 rw[w64 (x:=r*t.num) (by omega) (by omega),w64 (by omega) (by omega)]
def fixR (t:Ft)(n d:Int):Int:=min (max (rnd 3 (n*t.den-t.off*d) (d*t.num)) (flo t)) (fhi t)
theorem le_rnd (X Y m:Int)(hY:0<Y):m≤rnd 3 X Y↔Y*(2*m-1)≤2*X:=by
 unfold rnd
 simp only[Int.reduceEq,if_false]
 rw[Int.le_ediv_iff_mul_le (by omega)]
 have:Y*(2*m-1)=m*(2*Y)-Y:=by grind
 omega
structure ResSt (t:Ft) (X Y:Int) where
 lo:Int
 hi:Int
 h1:lo≤hi
 h2: -2147483648≤lo
 h3:hi≤4294967295
 hr:min (max (rnd 3 X Y) lo) hi=min (max (rnd 3 X Y) (flo t)) (fhi t)
def rsE (lo hi:Int):Env:=[(7,true,I lo),(8,true,I hi),(2,true,.c (.p 100 0)),(3,true,.c (.p 101 0)),(4,true,.c (.p 102 0)),(5,true,.c (.p 103 0)),(6,true,.c (.p 104 0))]
def rsM (t:Ft)(n d X Y:Int):Mem:=[(104,⟨false,[cu (hi64 Y),cu (lo64 Y)],279⟩),(103,⟨false,[cu (hi64 (2*X)),cu (lo64 (2*X))],279⟩),(102,⟨false,[ci 0,.v (.bool false),ci 0,ci 0,ci 0,ci 0,ci 0,ci 0,ci 0,ci 0,ci 0],235⟩),(101,⟨false,[ci t.bits,.v (.bool t.signed),ci t.num,ci t.off,ci t.den,ci t.m,ci t.kg,ci t.s,ci t.a,ci t.k],43⟩),
 (100,⟨false,[cu (hi64 n),cu (lo64 n),cu (hi64 d),cu (lo64 d)],281⟩)]
theorem bd_mul {a b A B:Int}(h1: -A≤a)(h2:a≤A)(h3: -B≤b)(h4:b≤B): -(A*B)≤a*b∧a*b≤A*B:=by
 rcases Int.lt_or_le b 0 with h|h
 ·have:=mul_bd (a:=a) (b:= -b) (A:=A) (B:=B) h1 h2 (by omega) (by omega)
  rw[Int.mul_neg]at this
  omega
 ·exact mul_bd h1 h2 h h4
theorem result_ (t:Ft)(n d:Int)(h:fok t=true)(hn1: -20282419275553370000000000000000≤n)(hn2:n≤20282419275553370000000000000000)(hd1:1≤d)(hd2:d≤4722367608777000000000):CallOk Tryz.prog 256 [exW n d,fx t] [] (va t (fixR t n d)) []:=by
 have hf:=fok_bd h
 have hl:=flo_bd t h
 have hw64:IntKind.i64.wrap (0-t.off)= -t.off:=by rw[w64 (by omega) (by omega)];omega
 have b1:=bd_mul (a:=n) (b:=t.den) (A:=20282419275553370000000000000000) (B:=1048576) (by omega) (by omega) (by omega) (by omega)
 have b2:=bd_mul (a:=d) (b:= -t.off) (A:=4722367608777000000000) (B:=1073741824) (by omega) (by omega) (by omega) (by omega)
 have b3:=bd_mul (a:=d) (b:=t.num) (A:=4722367608777000000000) (B:=1048576) (by omega) (by omega) (by omega) (by omega)
 have hX:n*t.den+d* -t.off=n*t.den-t.off*d:=by rw[Int.mul_neg,Int.mul_comm d t.off];omega
 refine CallOk.mk 100 Tryz.func256 rfl en256 (by simp[Tryz.ntmps256]) (by simp[ClV,V.g,Cv.g,fx,exW,ci]) fun C hR=>?_
 simp only[exW]
 refine vv ?_
 refine Sm.dg 103 14 mix ?_
 refine vv ?_
 refine DCallQ.pure 103 (wtimes n t.den (by omega) (by omega) (by omega) (by omega)) rfl ?_
 refine vv ?_
 rw[hw64]
 refine DCallQ.pure 103 (wtimes d (-t.off) (by omega) (by omega) (by omega) (by omega)) rfl ?_
 refine vv ?_
 refine DCallQ.pure 103 (add_ (n*t.den) (d* -t.off)) rfl ?_
 refine vv ?_
 refine DCallQ.pure 103 (wtimes (n*t.den+d* -t.off) 2 (by omega) (by omega) (by omega) (by omega)) rfl ?_
 rw[hX,Int.mul_comm _ 2]
 simp only[wd_def]
 refine vv ?_
 refine CallQ.pure 104 (wtimes d t.num (by omega) (by omega) (by omega) (by omega)) rfl ?_
 simp only[wd_def]
 refine vv ?_
 refine CallQ.pure 105 (limits t h) rfl ?_
 refine vv ?_
 unfold fixR at hR
 generalize hXX:n*t.den-t.off*d=X at*
 generalize hYY:d*t.num=Y at*
 have hY:0<Y:=by rw[←hYY];exact Int.mul_pos (by omega) (by omega)
 refine Sm.loopM (M0:=[]) (α:=ResSt t X Y) (Pins.nil rfl hR) (fun x=>rsE x.lo x.hi) (fun _=>rsM t n d X Y) (fun x=>(x.hi-x.lo).toNat) ⟨flo t,fhi t,by omega,by omega,by omega,rfl⟩
  (fun _=>ClM.of rfl) (fun _=>ClE.of rfl) [(100,100),(101,101),(102,102),(103,103),(104,104)] ?_ ?_
 ·exact⟨rfl,trivial,⟨rfl,rfl,rfl,rfl,rfl,rfl,rfl,trivial⟩,⟨.inr ⟨_,rfl,.inl rfl⟩,.inr ⟨_,rfl,.inl rfl⟩,.inr ⟨_,rfl,.inl rfl⟩,.inr ⟨_,rfl,.inl rfl⟩,.inr ⟨_,rfl,.inl rfl⟩,trivial⟩⟩
 rintro⟨lo,hi,h1,h2,h3,hr⟩ J hb
 simp only at hb⊢
 refine Sm.go 105 ?_
 simp only[rsE,rsM]
 refine vv ?_
 by_cases hlt:lo<hi
 ·have e:decide (lo<hi)=true:=by simpa using hlt
  simp only[e]
  have m1:IntKind.i64.wrap (hi-lo)=hi-lo:=w64 (by omega) (by omega)
  have m2:IntKind.i64.wrap (hi-lo+1)=hi-lo+1:=w64 (by omega) (by omega)
  have m3:IntKind.i64.wrap ((hi-lo+1).tdiv 2)=(hi-lo+1)/2:=by rw[Int.tdiv_eq_ediv_of_nonneg (by omega),w64 (by omega) (by omega)]
  have m4:IntKind.i64.wrap (lo+(hi-lo+1)/2)=lo+(hi-lo+1)/2:=w64 (by omega) (by omega)
  simp only[m1,m2,m3,m4]
  generalize hmid:lo+(hi-lo+1)/2=mid
  have hm1:lo<mid:=by omega
  have hm2:mid≤hi:=by omega
  clear m1 m2 m3 m4
  refine Sm.dg 105 7 mix ?_
  refine vv ?_
  have k1:IntKind.i64.wrap (2*mid)=2*mid:=w64 (by omega) (by omega)
  have k2:IntKind.i64.wrap (2*mid-1)=2*mid-1:=w64 (by omega) (by omega)
  simp only[k1,k2]
  have b4:=bd_mul (a:=Y) (b:=2*mid-1) (A:=5000000000000000000000000000) (B:=8589934592) (by omega) (by omega) (by omega) (by omega)
  refine DCallQ.pure 105 (wtimes Y (2*mid-1) (by omega) (by omega) (by omega) (by omega)) rfl ?_
  refine vv ?_
  refine DCallQ.pure 105 (atmost (Y*(2*mid-1)) (2*X) (by omega) (by omega) (by omega) (by omega)) rfl ?_
  refine vv ?_
  have hiff:=le_rnd X Y mid hY
  by_cases hc:Y*(2*mid-1)≤2*X
  ·have e2:decide (Y*(2*mid-1)≤2*X)=true:=by simpa using hc
   simp only[e2]
   have:=hiff.2 hc
   refine hb _ _ ⟨mid,hi,by omega,by omega,by omega,by omega⟩ [(100,100),(101,101),(102,102),(103,103),(104,104)] (by simp only;omega)
    ⟨rfl,trivial,⟨rfl,rfl,rfl,rfl,rfl,rfl,rfl,trivial⟩,⟨.inr ⟨_,rfl,.inl rfl⟩,.inr ⟨_,rfl,.inl rfl⟩,.inr ⟨_,rfl,.inl rfl⟩,.inr ⟨_,rfl,.inl rfl⟩,.inr ⟨_,rfl,.inl rfl⟩,trivial⟩⟩
  ·have e2:decide (Y*(2*mid-1)≤2*X)=false:=by simpa using hc
   simp only[e2]
   have:¬mid≤rnd 3 X Y:=fun hh=>hc (hiff.1 hh)
   have k3:IntKind.i64.wrap (mid-1)=mid-1:=w64 (by omega) (by omega)
   simp only[k3]
   refine hb _ _ ⟨lo,mid-1,by omega,by omega,by omega,by omega⟩ [(100,100),(101,101),(102,102),(103,103),(104,104)] (by simp only;omega)
    ⟨rfl,trivial,⟨rfl,rfl,rfl,rfl,rfl,rfl,rfl,trivial⟩,⟨.inr ⟨_,rfl,.inl rfl⟩,.inr ⟨_,rfl,.inl rfl⟩,.inr ⟨_,rfl,.inl rfl⟩,.inr ⟨_,rfl,.inl rfl⟩,.inr ⟨_,rfl,.inl rfl⟩,trivial⟩⟩
 ·have e:decide (lo<hi)=false:=by simpa using hlt
  simp only[e]
  refine RetQ.pure hR rfl (vv trivial) ?_ (ClV.of rfl)
  refine vv ?_
  rw[show min (max (rnd 3 X Y) (flo t)) (fhi t)=lo by omega]
end Go.Proofs.YtkciabfilokfiaaGreat.Fx
