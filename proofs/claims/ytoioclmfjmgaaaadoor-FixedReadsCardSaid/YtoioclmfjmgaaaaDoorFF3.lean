/- The contract of arith.MulDiv, whatever the product. -/
import Derived.Test.YtoioclmfjmgaaaaDoorFF2
import Derived.Test.YtoioclmfjmgaaaaDoorFC13
namespace Go.Proofs.YtoioclmfjmgaaaaDoor.Fx
open Vg Tf
set_option linter.unusedSimpArgs false
set_option linter.unusedVariables false
set_option maxRecDepth 100000
theorem fit_no {R : Int} (h : R < -9223372036854775808 ∨ 9223372036854775807 < R) : fit64 R = false := by unfold fit64; simp; omega
theorem fit_yes {R : Int} (h1 : -9223372036854775808 ≤ R) (h2 : R ≤ 9223372036854775807) : fit64 R = true := by unfold fit64; simp; omega
theorem muldivF (a b c m : Int) (ha1 : -9223372036854775808 ≤ a) (ha2 : a ≤ 9223372036854775807) (hb1 : -9223372036854775808 ≤ b) (hb2 : b ≤ 9223372036854775807) (hc : 0 < c) (hc2 : c ≤ 9223372036854775807) (hm : 1 ≤ m) (hm3 : m ≤ 3) :
    CallOk Tryd.prog 49 [I a, I b, I c, I m] [] (.tup [Wi (bif fit64 (rnd m (a * b) c) then rnd m (a * b) c else 0), Wi (bif fit64 (rnd m (a * b) c) then 0 else 9)]) [] := by
  refine CallOk.mk 100 Tryd.func49 rfl en49 (by simp [Tryd.ntmps49]) (by simp [ClV, V.g, Cv.g]) fun C hR => ?_
  simp (config := { maxSteps := 2000000 }) only [go_sem, Nat.reduceBEq, Nat.reduceAdd, Nat.reduceLT, Nat.reduceLeDiff, Nat.reduceEqDiff, reduceCtorEq, Int.reduceAdd, Int.reduceSub, Int.reduceNeg, Int.reduceLE, Int.reduceLT, Int.reduceToNat, Int.reduceBEq, Int.reduceBNe, Int.reduceEq, Int.reduceNe, Int.toNat_zero, Int.toNat_one, bne_self_eq_false, Nat.reduceMul, Nat.zero_mul, Nat.mul_one, Nat.one_mul, Nat.reduceSub, Int.cast_ofNat_Int, Int.toNat_natCast]
  have e1 : decide (m < 1) = false := by simp; omega
  have e2 : decide (3 < m) = false := by simp; omega
  have e3 : (c == 0) = false := by simp; omega
  have e4 : decide (c < 0) = false := by simp; omega
  simp only [e1, e2, e3, e4, cond_false]
  refine CallQ.pure 100 (magnitude a ha1 ha2) rfl ?_
  simp (config := { maxSteps := 2000000 }) only [go_sem, Nat.reduceBEq, Nat.reduceAdd, Nat.reduceLT, Nat.reduceLeDiff, Nat.reduceEqDiff, reduceCtorEq, Int.reduceAdd, Int.reduceSub, Int.reduceNeg, Int.reduceLE, Int.reduceLT, Int.reduceToNat, Int.reduceBEq, Int.reduceBNe, Int.reduceEq, Int.reduceNe, Int.toNat_zero, Int.toNat_one, bne_self_eq_false, Nat.reduceMul, Nat.zero_mul, Nat.mul_one, Nat.one_mul, Nat.reduceSub, Int.cast_ofNat_Int, Int.toNat_natCast]
  refine CallQ.pure 100 (magnitude b hb1 hb2) rfl ?_
  simp (config := { maxSteps := 2000000 }) only [go_sem, Nat.reduceBEq, Nat.reduceAdd, Nat.reduceLT, Nat.reduceLeDiff, Nat.reduceEqDiff, reduceCtorEq, Int.reduceAdd, Int.reduceSub, Int.reduceNeg, Int.reduceLE, Int.reduceLT, Int.reduceToNat, Int.reduceBEq, Int.reduceBNe, Int.reduceEq, Int.reduceNe, Int.toNat_zero, Int.toNat_one, bne_self_eq_false, Nat.reduceMul, Nat.zero_mul, Nat.mul_one, Nat.one_mul, Nat.reduceSub, Int.cast_ofNat_Int, Int.toNat_natCast]
  refine CallQ.pure 100 (mul64 _ _ (by omega) (by omega) (by omega) (by omega)) rfl ?_
  simp (config := { maxSteps := 2000000 }) only [go_sem, Nat.reduceBEq, Nat.reduceAdd, Nat.reduceLT, Nat.reduceLeDiff, Nat.reduceEqDiff, reduceCtorEq, Int.reduceAdd, Int.reduceSub, Int.reduceNeg, Int.reduceLE, Int.reduceLT, Int.reduceToNat, Int.reduceBEq, Int.reduceBNe, Int.reduceEq, Int.reduceNe, Int.toNat_zero, Int.toNat_one, bne_self_eq_false, Nat.reduceMul, Nat.zero_mul, Nat.mul_one, Nat.one_mul, Nat.reduceSub, Int.cast_ofNat_Int, Int.toNat_natCast]
  refine CallQ.pure 100 (magnitude c (by omega) (by omega)) rfl ?_
  simp (config := { maxSteps := 2000000 }) only [go_sem, Nat.reduceBEq, Nat.reduceAdd, Nat.reduceLT, Nat.reduceLeDiff, Nat.reduceEqDiff, reduceCtorEq, Int.reduceAdd, Int.reduceSub, Int.reduceNeg, Int.reduceLE, Int.reduceLT, Int.reduceToNat, Int.reduceBEq, Int.reduceBNe, Int.reduceEq, Int.reduceNe, Int.toNat_zero, Int.toNat_one, bne_self_eq_false, Nat.reduceMul, Nat.zero_mul, Nat.mul_one, Nat.one_mul, Nat.reduceSub, Int.cast_ofNat_Int, Int.toNat_natCast]
  have hab : (a.natAbs : Int) * b.natAbs = (a * b).natAbs := by rw [Int.natAbs_mul]; simp
  have hcc : (c.natAbs : Int) = c := by omega
  simp only [hab, hcc]
  generalize hneg : ((decide (a < 0) != decide (b < 0)) != false) = neg
  generalize hpp : ((a * b).natAbs : Int) = p at *
  have hsg : a * b = if neg = true then -p else p := by
    rcases Int.lt_or_le a 0 with h | h <;> rcases Int.lt_or_le b 0 with h' | h'
    · have : 0 < a * b := Int.mul_pos_of_neg_of_neg h h'
      rw [← hneg]; simp [h, h']; omega
    · have : a * b ≤ 0 := Int.mul_nonpos_of_nonpos_of_nonneg (by omega) h'
      rw [← hneg]; simp [h, Int.not_lt.2 h']; omega
    · have : a * b ≤ 0 := Int.mul_nonpos_of_nonneg_of_nonpos h (by omega)
      rw [← hneg]; simp [Int.not_lt.2 h, h']; omega
    · have : 0 ≤ a * b := Int.mul_nonneg h h'
      rw [← hneg]; simp [Int.not_lt.2 h, Int.not_lt.2 h']; omega
  have hp0 : 0 ≤ p := by omega
  have hrp := rnd_pos m p c hc
  have hrn := rnd_neg m p c hc
  have hr0 := Int.emod_nonneg p (show c ≠ 0 by omega)
  have hr1 := Int.emod_lt_of_pos p hc
  have hq0 : 0 ≤ p / c := Int.ediv_nonneg hp0 (by omega)
  have hrab : rnd m (a * b) c = if neg = true then -(p / c + (if (bif m == 1 then decide (0 < p % c) else bif m == 2 then false else decide (c < 2 * (p % c))) = true then 1 else 0)) else p / c + (if (bif m == 1 then false else bif m == 2 then decide (0 < p % c) else decide (c ≤ 2 * (p % c))) = true then 1 else 0) := by
    rw [hsg]; cases neg <;> simp [hrp, hrn]
  rw [hrab] at hR
  clear hrab hrp hrn hsg hneg hab hpp
  by_cases hov : c ≤ p / 18446744073709551616
  · have d1 : decide (c ≤ p / 18446744073709551616) = true := by simpa using hov
    simp only [d1]
    have hbig : 18446744073709551616 ≤ p / c := Int.le_ediv_of_mul_le hc (by
      have := Int.mul_le_mul_of_nonneg_right hov (show (0 : Int) ≤ 18446744073709551616 by omega)
      have := Int.ediv_mul_le p (show (18446744073709551616 : Int) ≠ 0 by omega)
      omega)
    generalize p / c = q at *
    generalize p % c = r at *
    rw [fit_no (by cases neg <;> simp <;> split <;> omega)] at hR
    exact RetQ.int2 hR rfl ⟨rfl, rfl, trivial⟩ rfl rfl
  · have d1 : decide (c ≤ p / 18446744073709551616) = false := by simpa using hov
    simp only [d1]
    have hd := div64 (p / 18446744073709551616) (p % 18446744073709551616) c (by omega) (by omega) (by omega) (by omega) (by omega)
    rw [show p / 18446744073709551616 * 18446744073709551616 + p % 18446744073709551616 = p by omega] at hd
    refine CallQ.pure 100 hd rfl ?_
    simp (config := { maxSteps := 2000000 }) only [go_sem, Nat.reduceBEq, Nat.reduceAdd, Nat.reduceLT, Nat.reduceLeDiff, Nat.reduceEqDiff, reduceCtorEq, Int.reduceAdd, Int.reduceSub, Int.reduceNeg, Int.reduceLE, Int.reduceLT, Int.reduceToNat, Int.reduceBEq, Int.reduceBNe, Int.reduceEq, Int.reduceNe, Int.toNat_zero, Int.toNat_one, bne_self_eq_false, Nat.reduceMul, Nat.zero_mul, Nat.mul_one, Nat.one_mul, Nat.reduceSub, Int.cast_ofNat_Int, Int.toNat_natCast]
    have hq1 : p / c < 18446744073709551616 := Int.ediv_lt_of_lt_mul hc (by
      have h1 : p / 18446744073709551616 + 1 ≤ c := by omega
      omega)
    generalize p / c = q at *
    generalize p % c = r at *
    by_cases hq2 : 9223372036854775808 < q
    · have d2 : decide (9223372036854775808 < q) = true := by simpa using hq2
      simp only [d2]
      rw [fit_no (by cases neg <;> simp <;> split <;> omega)] at hR
      exact RetQ.int2 hR rfl ⟨rfl, rfl, trivial⟩ rfl rfl
    · have d2 : decide (9223372036854775808 < q) = false := by simpa using hq2
      simp only [d2]
      refine CallQ.pure 100 (rounded r c neg m hr0 hr1 (by omega)) rfl ?_
      simp (config := { maxSteps := 2000000 }) only [go_sem, Nat.reduceBEq, Nat.reduceAdd, Nat.reduceLT, Nat.reduceLeDiff, Nat.reduceEqDiff, reduceCtorEq, Int.reduceAdd, Int.reduceSub, Int.reduceNeg, Int.reduceLE, Int.reduceLT, Int.reduceToNat, Int.reduceBEq, Int.reduceBNe, Int.reduceEq, Int.reduceNe, Int.toNat_zero, Int.toNat_one, bne_self_eq_false, Nat.reduceMul, Nat.zero_mul, Nat.mul_one, Nat.one_mul, Nat.reduceSub, Int.cast_ofNat_Int, Int.toNat_natCast]
      have hw1 : IntKind.u64.wrap (q + 1) = q + 1 := wu64 (by omega) (by omega)
      simp only [hw1]
      cases neg with
      | false =>
        simp only [Bool.false_and, Bool.not_false, Bool.true_and, cond_false, cond_true, Bool.false_eq_true, if_false] at hR ⊢
        generalize (bif m == 1 then false else bif m == 2 then decide (0 < r) else decide (c ≤ 2 * r)) = up at *
        have fin : ∀ z : Int, 0 ≤ z → z ≤ 9223372036854775809 → (bif fit64 z then z else 0) = (if z < 9223372036854775808 then z else 0) ∧ (bif fit64 z then (0 : Int) else 9) = (if z < 9223372036854775808 then 0 else 9) := fun z h1 h2 => by
          by_cases h : z < 9223372036854775808
          · rw [fit_yes (by omega) (by omega), if_pos h, if_pos h]; exact ⟨rfl, rfl⟩
          · rw [fit_no (by omega), if_neg h, if_neg h]; exact ⟨rfl, rfl⟩
        cases up with
        | true =>
          simp only [if_true] at hR
          rw [(fin (q + 1) (by omega) (by omega)).1, (fin (q + 1) (by omega) (by omega)).2] at hR
          by_cases h : q + 1 < 9223372036854775808
          · have d3 : decide (q + 1 < 9223372036854775808) = true := by simpa using h
            simp only [d3]
            rw [if_pos h, if_pos h] at hR
            exact RetQ.int2 hR rfl ⟨rfl, rfl, trivial⟩ (w64 (by omega) (by omega)) rfl
          · have d3 : decide (q + 1 < 9223372036854775808) = false := by simpa using h
            simp only [d3]
            rw [if_neg h, if_neg h] at hR
            exact RetQ.int2 hR rfl ⟨rfl, rfl, trivial⟩ rfl rfl
        | false =>
          simp only [Bool.false_eq_true, if_false, Int.add_zero] at hR
          rw [(fin q (by omega) (by omega)).1, (fin q (by omega) (by omega)).2] at hR
          by_cases h : q < 9223372036854775808
          · have d3 : decide (q < 9223372036854775808) = true := by simpa using h
            simp only [d3]
            rw [if_pos h, if_pos h] at hR
            exact RetQ.int2 hR rfl ⟨rfl, rfl, trivial⟩ (w64 (by omega) (by omega)) rfl
          · have d3 : decide (q < 9223372036854775808) = false := by simpa using h
            simp only [d3]
            rw [if_neg h, if_neg h] at hR
            exact RetQ.int2 hR rfl ⟨rfl, rfl, trivial⟩ rfl rfl
      | true =>
        simp only [Bool.true_and, Bool.not_true, Bool.false_and, cond_false, cond_true, if_true] at hR ⊢
        generalize (bif m == 1 then decide (0 < r) else bif m == 2 then false else decide (c < 2 * r)) = up at *
        have fin : ∀ z : Int, 0 ≤ z → z ≤ 9223372036854775809 → (bif fit64 (-z) then -z else 0) = (if z ≤ 9223372036854775808 then -z else 0) ∧ (bif fit64 (-z) then (0 : Int) else 9) = (if z ≤ 9223372036854775808 then 0 else 9) := fun z h1 h2 => by
          by_cases h : z ≤ 9223372036854775808
          · rw [fit_yes (by omega) (by omega), if_pos h, if_pos h]; exact ⟨rfl, rfl⟩
          · rw [fit_no (by omega), if_neg h, if_neg h]; exact ⟨rfl, rfl⟩
        cases up with
        | true =>
          simp only [if_true] at hR
          rw [(fin (q + 1) (by omega) (by omega)).1, (fin (q + 1) (by omega) (by omega)).2] at hR
          by_cases h : q + 1 ≤ 9223372036854775808
          · have d3 : decide (q + 1 ≤ 9223372036854775808) = true := by simpa using h
            simp only [d3]
            rw [if_pos h, if_pos h] at hR
            refine RetQ.int2 hR rfl ⟨rfl, rfl, trivial⟩ ?_ rfl
            simp only [IntKind.wrap_u64, IntKind.wrap_i64]
            omega
          · have d3 : decide (q + 1 ≤ 9223372036854775808) = false := by simpa using h
            simp only [d3]
            rw [if_neg h, if_neg h] at hR
            exact RetQ.int2 hR rfl ⟨rfl, rfl, trivial⟩ rfl rfl
        | false =>
          simp only [Bool.false_eq_true, if_false, Int.add_zero] at hR
          rw [(fin q (by omega) (by omega)).1, (fin q (by omega) (by omega)).2] at hR
          have h : q ≤ 9223372036854775808 := by omega
          have d3 : decide (q ≤ 9223372036854775808) = true := by simpa using h
          simp only [d3]
          rw [if_pos h, if_pos h] at hR
          refine RetQ.int2 hR rfl ⟨rfl, rfl, trivial⟩ ?_ rfl
          simp only [IntKind.wrap_u64, IntKind.wrap_i64]
          omega
end Go.Proofs.YtoioclmfjmgaaaaDoor.Fx