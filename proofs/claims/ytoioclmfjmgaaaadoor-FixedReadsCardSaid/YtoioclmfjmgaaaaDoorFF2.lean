/- The contract of math/bits.Div64. -/
import Derived.Test.YtoioclmfjmgaaaaDoorFF1
import Derived.Test.YtoioclmfjmgaaaaDoorMB
import Derived.Laws.BitsAll
import Derived.Laws.MathBits
namespace Go.Proofs.YtoioclmfjmgaaaaDoor.Fx
open Vg Tf
set_option linter.unusedSimpArgs false
set_option linter.unusedVariables false
set_option maxRecDepth 100000
structure Kn (u d Y y1 y0 : Int) : Prop where
  hY : Y = y1 * 4294967296 + y0
  h1 : 2147483648 ≤ y1
  h2 : y1 < 4294967296
  h3 : 0 ≤ y0
  h4 : y0 < 4294967296
  hu : 0 ≤ u
  hu2 : u < Y
  hd : 0 ≤ d
  hd2 : d < 4294967296
def kq (u d Y : Int) : Int := (u * 4294967296 + d) / Y
section
variable {u d Y y1 y0 : Int} (K : Kn u d Y y1 y0)
include K
theorem Kn.pos : 0 < Y := by have := K.hY; have := K.h1; have := K.h3; omega
theorem Kn.q0 : 0 ≤ kq u d Y := Int.ediv_nonneg (by have := K.hu; have := K.hd; omega) (by have := K.pos; omega)
theorem Kn.q1 : kq u d Y < 4294967296 := by
  refine Int.ediv_lt_of_lt_mul K.pos ?_
  have := K.hu2; have := K.hd2; omega
theorem Kn.more {q : Int} (h : kq u d Y < q) : u * 4294967296 + d < q * Y := by
  exact (Int.ediv_lt_iff_lt_mul K.pos).1 h
theorem Kn.out {q rh : Int} (hq : q * y1 + rh = u) (hle : kq u d Y ≤ q) (ht : q * y0 ≤ 4294967296 * rh + d) : q = kq u d Y := by
  have : q * Y ≤ u * 4294967296 + d := by
    rw [K.hY, show q * (y1 * 4294967296 + y0) = q * y1 * 4294967296 + q * y0 by grind]
    omega
  have := (Int.le_ediv_iff_mul_le K.pos).2 this
  unfold kq at *
  omega
theorem Kn.less {q rh : Int} (hq : q * y1 + rh = u) (ht : 4294967296 ≤ q ∨ 4294967296 * rh + d < q * y0) : kq u d Y < q := by
  have hk := K.q1
  rcases ht with h | h
  · omega
  · refine (Int.ediv_lt_iff_lt_mul K.pos).2 ?_
    rw [K.hY, show q * (y1 * 4294967296 + y0) = q * y1 * 4294967296 + q * y0 by grind]
    omega
theorem Kn.brk {q rh : Int} (hq : q * y1 + rh = u) (hq0 : 0 ≤ q) (hle : kq u d Y ≤ q) (hr : 4294967296 ≤ rh) : q = kq u d Y := by
  have hql : q < 4294967296 := by
    have h2 := K.hu2; have h3 := K.hY; have h4 := K.h4
    have hlt : q * y1 < 4294967296 * y1 := by omega
    exact Int.lt_of_mul_lt_mul_right hlt (by have := K.h1; omega)
  have hb : q * y0 ≤ 4294967295 * 4294967295 := by
    have e1 := Int.mul_le_mul_of_nonneg_right (show q ≤ 4294967295 by omega) K.h3
    have e2 := Int.mul_le_mul_of_nonneg_left (show y0 ≤ 4294967295 by have := K.h4; omega) (show (0 : Int) ≤ 4294967295 by omega)
    omega
  exact K.out hq hle (by have := K.hd; omega)
theorem Kn.start : (u / y1) * y1 + u % y1 = u ∧ kq u d Y ≤ u / y1 ∧ 0 ≤ u % y1 ∧ u % y1 < 4294967296 ∧ 0 ≤ u / y1 ∧ u / y1 ≤ 4294967297 := by
  have h1 := K.h1
  have e1 := Int.mul_ediv_add_emod u y1
  have e2 := Int.emod_nonneg u (show y1 ≠ 0 by omega)
  have e3 := Int.emod_lt_of_pos u (show 0 < y1 by omega)
  have e4 : 0 ≤ u / y1 := Int.ediv_nonneg K.hu (by omega)
  have h2 := K.h2
  refine ⟨by rw [Int.mul_comm]; omega, ?_, e2, by omega, e4, ?_⟩
  · have h6 : u * 4294967296 + d < (u / y1 + 1) * Y := by
      have h5 : 0 ≤ (u / y1 + 1) * y0 := Int.mul_nonneg (by omega) K.h3
      rw [K.hY, show (u / y1 + 1) * (y1 * 4294967296 + y0) = (y1 * (u / y1) + y1) * 4294967296 + (u / y1 + 1) * y0 by grind]
      have := K.hd2
      omega
    have := (Int.ediv_lt_iff_lt_mul K.pos).2 h6
    unfold kq
    omega
  · rcases Int.lt_or_le (u / y1) 4294967298 with h | h
    · omega
    · have h7 := Int.mul_le_mul_of_nonneg_left h (show 0 ≤ y1 by omega)
      have := K.hu2; have := K.hY; have := K.h4
      omega
omit K in
theorem rest_eq : (u * 4294967296 + d - kq u d Y * Y) = (u * 4294967296 + d) % Y := by
  have := Int.mul_ediv_add_emod (u * 4294967296 + d) Y
  unfold kq
  rw [Int.mul_comm ((u * 4294967296 + d) / Y) Y]
  omega
theorem Kn.rest_bd : 0 ≤ (u * 4294967296 + d) % Y ∧ (u * 4294967296 + d) % Y < Y := ⟨Int.emod_nonneg _ (by have := K.pos; omega), Int.emod_lt_of_pos _ K.pos⟩
end
structure KSt (u d Y y1 : Int) where
  q : Int
  rh : Int
  hq : q * y1 + rh = u
  hle : kq u d Y ≤ q
  hr0 : 0 ≤ rh
  hr1 : rh < 4294967296
  hq0 : 0 ≤ q
  hq1 : q ≤ 4294967297
theorem or_sum (a b : Int) (s : Nat) (hs : s ≤ 63) (ha : 0 ≤ a) (hb : 0 ≤ b) (hb2 : b < 2 ^ s) (hab : a * 2 ^ s < 18446744073709551616) : bits .or .u64 (a * 2 ^ s) b = a * 2 ^ s + b := by
  obtain ⟨a, rfl⟩ := Int.eq_ofNat_of_zero_le ha
  obtain ⟨b, rfl⟩ := Int.eq_ofNat_of_zero_le hb
  have e1 : ((a : Int) * 2 ^ s) = ((2 ^ s * a : Nat) : Int) := by rw [Nat.mul_comm]; simp
  have h2 : b < 2 ^ s := by
    have : ((2 ^ s : Nat) : Int) = (2 : Int) ^ s := by simp
    omega
  rw [e1] at hab ⊢
  have hb3 : b < 9223372036854775808 := Nat.lt_of_lt_of_le h2 (Nat.pow_le_pow_right (n := 2) (by omega) hs)
  have k : bits .or .u64 ((2 ^ s * a : Nat) : Int) (b : Int) = (((2 ^ s * a) ||| b : Nat) : Int) := by
    generalize 2 ^ s * a = z at *
    go_bits2
  rw [k, ← Nat.two_pow_add_eq_or_of_lt h2]
  simp
theorem bdiv_pow (x : Int) (k : Nat) : x.fdiv (2 ^ k) = x / 2 ^ k := shrK x k
def d1E (q rh y1 y0 u un1 un0 Y s : Int) : Env := [(15, true, U q), (16, true, U rh), (9, true, U y1), (10, true, U y0), (11, true, U u), (13, true, U un1), (14, true, U un0), (2, true, U Y), (8, true, U s)]
def d2E (q rh y1 y0 q1 un21 un0 Y s : Int) : Env := [(18, true, U q), (16, true, U rh), (9, true, U y1), (10, true, U y0), (15, true, U q1), (17, true, U un21), (14, true, U un0), (2, true, U Y), (8, true, U s)]
theorem kn_fin {W y p q r : Int} (hp : 0 < p) (hy : 0 < y) (h : W * p = y * p * q + r) (hr0 : 0 ≤ r) (hr : r < y * p) : q = W / y ∧ r / p = W % y := by
  have hyp : 0 < y * p := Int.mul_pos hy hp
  have e1 : W * p / (y * p) = q := ediv_eq hyp (by omega) (by omega)
  have e2 : W * p / (y * p) = W / y := Int.mul_ediv_mul_of_pos_left W y hp
  have e3 : q = W / y := by omega
  refine ⟨e3, ?_⟩
  have e4 := Int.mul_ediv_add_emod W y
  have e5 : r = (W % y) * p := by
    have : (W % y) * p = (W - y * (W / y)) * p := by congr 1; omega
    rw [this, ← e3, Int.sub_mul]
    have : y * q * p = y * p * q := by grind
    omega
  rw [e5]
  exact Int.mul_ediv_cancel _ (by omega)
theorem tst_true {y0 rh d q : Int} (h1 : 0 ≤ y0) (h2 : y0 < 4294967296) (h3 : 0 ≤ rh) (h4 : rh < 4294967296) (h5 : 0 ≤ d) (h6 : d < 4294967296) (h7 : 0 ≤ q) (ht : 4294967296 ≤ q ∨ 4294967296 * rh + d < q * y0) :
    (bif decide (4294967296 ≤ q) then true else decide (IntKind.u64.wrap (IntKind.u64.wrap (4294967296 * rh) + d) < IntKind.u64.wrap (q * y0))) = true := by
  by_cases h : 4294967296 ≤ q
  · simp [h]
  · have e1 := Int.mul_le_mul_of_nonneg_right (show q ≤ 4294967295 by omega) h1
    have e2 : 0 ≤ q * y0 := Int.mul_nonneg h7 h1
    rw [wu64 (x := 4294967296 * rh) (by omega) (by omega), wu64 (by omega) (by omega), wu64 (by omega) (by omega)]
    simp [h]
    omega
theorem tst_false {y0 rh d q : Int} (h1 : 0 ≤ y0) (h2 : y0 < 4294967296) (h3 : 0 ≤ rh) (h4 : rh < 4294967296) (h5 : 0 ≤ d) (h6 : d < 4294967296) (h7 : 0 ≤ q) (ht : ¬ (4294967296 ≤ q ∨ 4294967296 * rh + d < q * y0)) :
    (bif decide (4294967296 ≤ q) then true else decide (IntKind.u64.wrap (IntKind.u64.wrap (4294967296 * rh) + d) < IntKind.u64.wrap (q * y0))) = false := by
  have h : ¬ 4294967296 ≤ q := by omega
  have e1 := Int.mul_le_mul_of_nonneg_right (show q ≤ 4294967295 by omega) h1
  have e2 : 0 ≤ q * y0 := Int.mul_nonneg h7 h1
  rw [wu64 (x := 4294967296 * rh) (by omega) (by omega), wu64 (by omega) (by omega), wu64 (by omega) (by omega)]
  simp [h]
  omega
theorem div64 (hi lo y : Int) (h0 : 0 ≤ hi) (hh : hi < y) (hl0 : 0 ≤ lo) (hl : lo < 18446744073709551616) (hy : y < 18446744073709551616) :
    CallOk Tryd.prog 86 [U hi, U lo, U y] [] (.tup [Wu ((hi * 18446744073709551616 + lo) / y), Wu ((hi * 18446744073709551616 + lo) % y)]) [] := by
  by_cases hz : hi = 0
  · subst hz
    have := div64s lo y hl0 hl (by omega) hy
    simpa using this
  obtain ⟨s, hs, hs63, hn1, hn2⟩ := lz64 y (by omega) hy
  have hp : (0 : Int) < 2 ^ s := Int.pow_pos (by omega)
  have hp2 : (0 : Int) < 2 ^ (64 - s) := Int.pow_pos (by omega)
  have hpp : (2 : Int) ^ s * 2 ^ (64 - s) = 18446744073709551616 := by
    rw [← Int.pow_add, show s + (64 - s) = 64 by omega]; rfl
  have f1 : IntKind.u64.wrap (s : Int) = s := wu64 (by omega) (by omega)
  have f2 : IntKind.u64.wrap (64 - (s : Int)) = ((64 - s : Nat) : Int) := by rw [wu64 (by omega) (by omega)]; omega
  have f3 : min s 64 = s := by omega
  have f4 : min (64 - s) 64 = 64 - s := by omega
  have f5 : IntKind.u64.wrap (y * 2 ^ s) = y * 2 ^ s := wu64 (by omega) (by omega)
  have g1 : hi * 2 ^ s < y * 2 ^ s := Int.mul_lt_mul_of_pos_right hh hp
  have g0 : 0 ≤ hi * 2 ^ s := Int.mul_nonneg h0 (by omega)
  have f6 : IntKind.u64.wrap (hi * 2 ^ s) = hi * 2 ^ s := wu64 g0 (by omega)
  have b0 : 0 ≤ lo / 2 ^ (64 - s) := Int.ediv_nonneg hl0 (by omega)
  have b1 : lo / 2 ^ (64 - s) < 2 ^ s := Int.ediv_lt_of_lt_mul hp2 (by rw [hpp]; exact hl)
  have f7 := or_sum hi (lo / 2 ^ (64 - s)) s hs63 h0 b0 b1 (by omega)
  have b2 : lo * 2 ^ s / 18446744073709551616 = lo / 2 ^ (64 - s) := by
    rw [← hpp, Int.mul_comm lo, Int.mul_ediv_mul_of_pos _ _ hp]
  have f8 : IntKind.u64.wrap (lo * 2 ^ s) = lo * 2 ^ s % 18446744073709551616 := IntKind.wrap_u64 _
  -- W * 2^s in two words
  have hW : (hi * 18446744073709551616 + lo) * 2 ^ s = (hi * 2 ^ s + lo / 2 ^ (64 - s)) * 18446744073709551616 + lo * 2 ^ s % 18446744073709551616 := by
    rw [Int.add_mul, ← b2]
    have := Int.mul_ediv_add_emod (lo * 2 ^ s) 18446744073709551616
    have e : hi * 18446744073709551616 * 2 ^ s = hi * 2 ^ s * 18446744073709551616 := by grind
    rw [e, Int.add_mul]
    omega
  have hu2 : hi * 2 ^ s + lo / 2 ^ (64 - s) < y * 2 ^ s := by
    have : (hi + 1) * 2 ^ s ≤ y * 2 ^ s := Int.mul_le_mul_of_nonneg_right (by omega) (by omega)
    rw [Int.add_mul] at this
    omega
  have hfin := fun q r h hr0 hr => kn_fin (W := hi * 18446744073709551616 + lo) (y := y) (p := 2 ^ s) (q := q) (r := r) hp (by omega) h hr0 hr
  rw [hW] at hfin
  have a32 := and_low32 (y * 2 ^ s) (by omega) hn2
  refine CallOk.mk 100 Tryd.func86 rfl en86 (by simp [Tryd.ntmps86]) (by simp [ClV, V.g, Cv.g]) fun C hR => ?_
  simp (config := { maxSteps := 2000000 }) only [go_sem, Nat.reduceBEq, Nat.reduceAdd, Nat.reduceLT, Nat.reduceLeDiff, Nat.reduceEqDiff, reduceCtorEq, Int.reduceAdd, Int.reduceSub, Int.reduceNeg, Int.reduceLE, Int.reduceLT, Int.reduceToNat, Int.reduceBEq, Int.reduceBNe, Int.reduceEq, Int.reduceNe, Int.toNat_zero, Int.toNat_one, bne_self_eq_false, Nat.reduceMul, Nat.zero_mul, Nat.mul_one, Nat.one_mul, Nat.reduceSub, Int.cast_ofNat_Int, Int.toNat_natCast]
  have e1 : (y == 0) = false := by simp; omega
  have e2 : decide (y ≤ hi) = false := by simp; omega
  have e3 : (hi == 0) = false := by simp; omega
  simp only [e1, e2, e3]
  refine CallQ.pure 100 hs rfl ?_
  simp (config := { maxSteps := 2000000 }) only [go_sem, Nat.reduceBEq, Nat.reduceAdd, Nat.reduceLT, Nat.reduceLeDiff, Nat.reduceEqDiff, reduceCtorEq, Int.reduceAdd, Int.reduceSub, Int.reduceNeg, Int.reduceLE, Int.reduceLT, Int.reduceToNat, Int.reduceBEq, Int.reduceBNe, Int.reduceEq, Int.reduceNe, Int.toNat_zero, Int.toNat_one, bne_self_eq_false, Nat.reduceMul, Nat.zero_mul, Nat.mul_one, Nat.one_mul, Nat.reduceSub, Int.cast_ofNat_Int, Int.toNat_natCast]
  simp only [f1, f2, Int.toNat_natCast, f3, f4, f5, f6, shrK, f7, f8, a32]
  generalize hW1 : (hi * 18446744073709551616 + lo) / y = qq at *
  generalize hW2 : (hi * 18446744073709551616 + lo) % y = rr at *
  have hu0 : 0 ≤ hi * 2 ^ s + lo / 2 ^ (64 - s) := by omega
  have z0' : 0 ≤ lo * 2 ^ s % 18446744073709551616 := by omega
  have z1' : lo * 2 ^ s % 18446744073709551616 < 18446744073709551616 := by omega
  generalize hi * 2 ^ s + lo / 2 ^ (64 - s) = u at *
  generalize lo * 2 ^ s % 18446744073709551616 = v at *
  generalize y * 2 ^ s = Y at *
  rw [and_low32 v z0' z1']
  simp only [show (2 : Int) ^ min 32 64 = 4294967296 from rfl]
  have K : Kn u (v / 4294967296) Y (Y / 4294967296) (Y % 4294967296) := ⟨by omega, by omega, by omega, by omega, by omega, hu0, hu2, by omega, by omega⟩
  have st := K.start
  have d0 : u.tdiv (Y / 4294967296) = u / (Y / 4294967296) := Int.tdiv_eq_ediv_of_nonneg hu0
  refine ⟨by omega, ?_⟩
  rw [d0]
  have d1 : IntKind.u64.wrap (u / (Y / 4294967296)) = u / (Y / 4294967296) := wu64 (by omega) (by omega)
  have d2' : 0 ≤ u / (Y / 4294967296) * (Y / 4294967296) := Int.mul_nonneg (by omega) (by omega)
  have d2 : IntKind.u64.wrap (u / (Y / 4294967296) * (Y / 4294967296)) = u - u % (Y / 4294967296) := by rw [wu64 (by omega) (by omega)]; omega
  have d3 : IntKind.u64.wrap (u - (u - u % (Y / 4294967296))) = u % (Y / 4294967296) := by rw [wu64 (by omega) (by omega)]; omega
  simp only [d1, d2, d3]
  clear d0 d1 d2 d3 d2' f7 f8 f5 f6 g1 g0 b0 b1 b2 hW a32 hW1 hW2 e1 e2 e3 hs
  have hy1a := K.h1
  have hy1b := K.h2
  have hy0a := K.h3
  have hy0b := K.h4
  generalize Y / 4294967296 = y1 at *
  generalize Y % 4294967296 = y0 at *
  have hv1 := K.hd
  have hv2 := K.hd2
  have hv3 : 0 ≤ v % 4294967296 := by omega
  have hv4 : v % 4294967296 < 4294967296 := by omega
  have hvv : v = v / 4294967296 * 4294967296 + v % 4294967296 := by omega
  generalize v / 4294967296 = w1 at *
  generalize v % 4294967296 = w0 at *
  refine Sm.loopP (α := KSt u w1 Y y1) hR (fun x => d1E x.q x.rh y1 y0 u w1 w0 Y s) (fun x => x.q.toNat) ⟨u / y1, u % y1, st.1, st.2.1, st.2.2.1, st.2.2.2.1, st.2.2.2.2.1, st.2.2.2.2.2⟩
    (fun _ => ClE.of rfl) ⟨rfl, rfl, rfl, rfl, rfl, rfl, rfl, rfl, rfl, trivial⟩ ?_
  rintro ⟨q, rh, hq, hle, hr0, hr1, hq0, hq1⟩ J hb
  simp only at hb ⊢
  refine Sm.go 105 ?_
  simp only [d1E]
  simp (config := { maxSteps := 2000000 }) only [go_sem, Nat.reduceBEq, Nat.reduceAdd, Nat.reduceLT, Nat.reduceLeDiff, Nat.reduceEqDiff, reduceCtorEq, Int.reduceAdd, Int.reduceSub, Int.reduceNeg, Int.reduceLE, Int.reduceLT, Int.reduceToNat, Int.reduceBEq, Int.reduceBNe, Int.reduceEq, Int.reduceNe, Int.toNat_zero, Int.toNat_one, bne_self_eq_false, Nat.reduceMul, Nat.zero_mul, Nat.mul_one, Nat.one_mul, Nat.reduceSub, Int.cast_ofNat_Int, Int.toNat_natCast]
  have hQ0 := K.q0
  have hQ1 := K.q1
  have hRe := rest_eq (u := u) (d := w1) (Y := Y)
  have hRb := K.rest_bd
  generalize hQd : kq u w1 Y = Q at *
  generalize (u * 4294967296 + w1) % Y = R at *
  have K2 : Kn R w0 Y y1 y0 := ⟨K.hY, K.h1, K.h2, K.h3, K.h4, hRb.1, hRb.2, hv3, hv4⟩
  have st2 := K2.start
  have r1 : IntKind.u64.wrap (IntKind.u64.wrap (IntKind.u64.wrap (u * 4294967296) + w1) - IntKind.u64.wrap (Q * Y)) = R := by
    simp only [IntKind.wrap_u64]; omega
  have r2 : R.tdiv y1 = R / y1 := Int.tdiv_eq_ediv_of_nonneg hRb.1
  have r3 : IntKind.u64.wrap (R / y1) = R / y1 := wu64 (by omega) (by omega)
  have r4' : 0 ≤ R / y1 * y1 := Int.mul_nonneg (by omega) (by omega)
  have r4 : IntKind.u64.wrap (R / y1 * y1) = R - R % y1 := by rw [wu64 (by omega) (by omega)]; omega
  have r5 : IntKind.u64.wrap (R - (R - R % y1)) = R % y1 := by rw [wu64 (by omega) (by omega)]; omega
  have hR2e := rest_eq (u := R) (d := w0) (Y := Y)
  have hR2b := K2.rest_bd
  have hf := hfin (Q * 4294967296 + kq R w0 Y) ((R * 4294967296 + w0) % Y) (by
    have : Y * (Q * 4294967296 + kq R w0 Y) = (Q * Y) * 4294967296 + kq R w0 Y * Y := by grind
    omega) hR2b.1 hR2b.2
  have hQ2 := K2.q1
  have hQ3 := K2.q0
  have fin1 : ∀ p, p = kq R w0 Y → IntKind.u64.wrap (IntKind.u64.wrap (Q * 4294967296) + p) = qq := by
    intro p hp'
    rw [hp', ← hf.1, IntKind.wrap_u64, IntKind.wrap_u64]
    omega
  have fin2 : ∀ p, p = kq R w0 Y → (IntKind.u64.wrap (IntKind.u64.wrap (IntKind.u64.wrap (R * 4294967296) + w0) - IntKind.u64.wrap (p * Y))).fdiv (2 ^ min s 64) = rr := by
    intro p hp'
    rw [hp', ← hf.2, f3, shrK]
    congr 1
    simp only [IntKind.wrap_u64]
    omega
  by_cases ht : 4294967296 ≤ q ∨ 4294967296 * rh + w1 < q * y0
  · have hless := K.less hq ht
    rw [hQd] at hless
    have x1 := tst_true hy0a hy0b hr0 hr1 hv1 hv2 hq0 ht
    have x2 : IntKind.u64.wrap (q - 1) = q - 1 := wu64 (by omega) (by omega)
    have x3 : IntKind.u64.wrap (rh + y1) = rh + y1 := wu64 (by omega) (by omega)
    have hq' : (q - 1) * y1 + (rh + y1) = u := by rw [Int.sub_mul]; omega
    simp only [x1, x2, x3]
    by_cases hbr : 4294967296 ≤ rh + y1
    · have x4 : decide (4294967296 ≤ rh + y1) = true := by simpa using hbr
      simp only [x4]
      have hqe : q - 1 = Q := by rw [← hQd]; exact K.brk hq' (by omega) (by rw [hQd]; omega) hbr
      refine ⟨by omega, ?_⟩
      simp only [hqe]
      rw [r1]
      simp only [r2, r3, r4, r5]
      refine Sm.loopP (α := KSt R w0 Y y1) hR (fun x => d2E x.q x.rh y1 y0 Q R w0 Y s) (fun x => x.q.toNat) ⟨R / y1, R % y1, st2.1, st2.2.1, st2.2.2.1, st2.2.2.2.1, st2.2.2.2.2.1, st2.2.2.2.2.2⟩
        (fun _ => ClE.of rfl) ⟨rfl, rfl, rfl, rfl, rfl, rfl, rfl, rfl, rfl, trivial⟩ ?_
      rintro ⟨p, rg, gq, gle, gr0, gr1, gq0, gq1⟩ J2 hb2
      simp only at hb2 ⊢
      refine Sm.go 105 ?_
      simp only [d2E]
      simp (config := { maxSteps := 2000000 }) only [go_sem, Nat.reduceBEq, Nat.reduceAdd, Nat.reduceLT, Nat.reduceLeDiff, Nat.reduceEqDiff, reduceCtorEq, Int.reduceAdd, Int.reduceSub, Int.reduceNeg, Int.reduceLE, Int.reduceLT, Int.reduceToNat, Int.reduceBEq, Int.reduceBNe, Int.reduceEq, Int.reduceNe, Int.toNat_zero, Int.toNat_one, bne_self_eq_false, Nat.reduceMul, Nat.zero_mul, Nat.mul_one, Nat.one_mul, Nat.reduceSub, Int.cast_ofNat_Int, Int.toNat_natCast]
      by_cases ht2 : 4294967296 ≤ p ∨ 4294967296 * rg + w0 < p * y0
      · have hless := K2.less gq ht2
        have hp0 := K2.q0
        have x1 := tst_true hy0a hy0b gr0 gr1 hv3 hv4 gq0 ht2
        have x2 : IntKind.u64.wrap (p - 1) = p - 1 := wu64 (by omega) (by omega)
        have x3 : IntKind.u64.wrap (rg + y1) = rg + y1 := wu64 (by omega) (by omega)
        have gq' : (p - 1) * y1 + (rg + y1) = R := by rw [Int.sub_mul]; omega
        simp only [x1, x2, x3]
        by_cases hbr : 4294967296 ≤ rg + y1
        · have x4 : decide (4294967296 ≤ rg + y1) = true := by simpa using hbr
          simp only [x4]
          have hpe := K2.brk gq' (by omega) (by omega) hbr
          exact ⟨by omega, RetQ.int2 hR rfl ⟨rfl, rfl, trivial⟩ (fin1 _ hpe) (fin2 _ hpe)⟩
        · have x4 : decide (4294967296 ≤ rg + y1) = false := by simpa using hbr
          simp only [x4]
          exact hb2 _ _ ⟨⟨p - 1, rg + y1, gq', by omega, by omega, by omega, by omega, by omega⟩, by simp only; omega, ⟨rfl, rfl, rfl, rfl, rfl, rfl, rfl, rfl, rfl, trivial⟩⟩
      · have x1 := tst_false hy0a hy0b gr0 gr1 hv3 hv4 gq0 ht2
        simp only [x1]
        have hpe := K2.out gq gle (by omega)
        exact ⟨by omega, RetQ.int2 hR rfl ⟨rfl, rfl, trivial⟩ (fin1 _ hpe) (fin2 _ hpe)⟩
    · have x4 : decide (4294967296 ≤ rh + y1) = false := by simpa using hbr
      simp only [x4]
      exact hb _ _ ⟨⟨q - 1, rh + y1, hq', by rw [hQd]; omega, by omega, by omega, by omega, by omega⟩, by simp only; omega, ⟨rfl, rfl, rfl, rfl, rfl, rfl, rfl, rfl, rfl, trivial⟩⟩
  · have x1 := tst_false hy0a hy0b hr0 hr1 hv1 hv2 hq0 ht
    simp only [x1]
    have hqe : q = Q := by rw [← hQd]; exact K.out hq (by rw [hQd]; omega) (by omega)
    refine ⟨by omega, ?_⟩
    simp only [hqe]
    rw [r1]
    simp only [r2, r3, r4, r5]
    refine Sm.loopP (α := KSt R w0 Y y1) hR (fun x => d2E x.q x.rh y1 y0 Q R w0 Y s) (fun x => x.q.toNat) ⟨R / y1, R % y1, st2.1, st2.2.1, st2.2.2.1, st2.2.2.2.1, st2.2.2.2.2.1, st2.2.2.2.2.2⟩
      (fun _ => ClE.of rfl) ⟨rfl, rfl, rfl, rfl, rfl, rfl, rfl, rfl, rfl, trivial⟩ ?_
    rintro ⟨p, rg, gq, gle, gr0, gr1, gq0, gq1⟩ J2 hb2
    simp only at hb2 ⊢
    refine Sm.go 105 ?_
    simp only [d2E]
    simp (config := { maxSteps := 2000000 }) only [go_sem, Nat.reduceBEq, Nat.reduceAdd, Nat.reduceLT, Nat.reduceLeDiff, Nat.reduceEqDiff, reduceCtorEq, Int.reduceAdd, Int.reduceSub, Int.reduceNeg, Int.reduceLE, Int.reduceLT, Int.reduceToNat, Int.reduceBEq, Int.reduceBNe, Int.reduceEq, Int.reduceNe, Int.toNat_zero, Int.toNat_one, bne_self_eq_false, Nat.reduceMul, Nat.zero_mul, Nat.mul_one, Nat.one_mul, Nat.reduceSub, Int.cast_ofNat_Int, Int.toNat_natCast]
    by_cases ht2 : 4294967296 ≤ p ∨ 4294967296 * rg + w0 < p * y0
    · have hless := K2.less gq ht2
      have hp0 := K2.q0
      have x1 := tst_true hy0a hy0b gr0 gr1 hv3 hv4 gq0 ht2
      have x2 : IntKind.u64.wrap (p - 1) = p - 1 := wu64 (by omega) (by omega)
      have x3 : IntKind.u64.wrap (rg + y1) = rg + y1 := wu64 (by omega) (by omega)
      have gq' : (p - 1) * y1 + (rg + y1) = R := by rw [Int.sub_mul]; omega
      simp only [x1, x2, x3]
      by_cases hbr : 4294967296 ≤ rg + y1
      · have x4 : decide (4294967296 ≤ rg + y1) = true := by simpa using hbr
        simp only [x4]
        have hpe := K2.brk gq' (by omega) (by omega) hbr
        exact ⟨by omega, RetQ.int2 hR rfl ⟨rfl, rfl, trivial⟩ (fin1 _ hpe) (fin2 _ hpe)⟩
      · have x4 : decide (4294967296 ≤ rg + y1) = false := by simpa using hbr
        simp only [x4]
        exact hb2 _ _ ⟨⟨p - 1, rg + y1, gq', by omega, by omega, by omega, by omega, by omega⟩, by simp only; omega, ⟨rfl, rfl, rfl, rfl, rfl, rfl, rfl, rfl, rfl, trivial⟩⟩
    · have x1 := tst_false hy0a hy0b gr0 gr1 hv3 hv4 gq0 ht2
      simp only [x1]
      have hpe := K2.out gq gle (by omega)
      exact ⟨by omega, RetQ.int2 hR rfl ⟨rfl, rfl, trivial⟩ (fin1 _ hpe) (fin2 _ hpe)⟩
end Go.Proofs.YtoioclmfjmgaaaaDoor.Fx