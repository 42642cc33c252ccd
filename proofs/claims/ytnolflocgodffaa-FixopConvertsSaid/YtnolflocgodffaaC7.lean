/- Contracts of fixed.product and fixed.Compare. -/
import Derived.Test.YtnolflocgodffaaC5
namespace Go.Proofs.Ytnolflocgodffaa
open Vg Tf
set_option linter.unusedSimpArgs false
set_option linter.unusedVariables false
set_option maxRecDepth 100000
theorem product_ (a b : Int) (ha1 : -1152921504606846976 ≤ a) (ha2 : a ≤ 1152921504606846976) (hb1 : 0 ≤ b) (hb2 : b ≤ 1152921504606846976) : CallOk Try.prog 86 [I a, I b] [] (.tup [Wu (a.natAbs * b / 18446744073709551616), Wu (a.natAbs * b % 18446744073709551616)]) [] := by
  refine CallOk.mk 100 Try.func86 rfl en86 (by simp [Try.ntmps86]) (by simp [ClV, V.g, Cv.g]) fun C hR => ?_
  simp (config := { maxSteps := 2000000 }) only [go_sem, Nat.reduceBEq, Nat.reduceAdd, Nat.reduceLT, Nat.reduceLeDiff, Nat.reduceEqDiff, reduceCtorEq, Int.reduceAdd, Int.reduceSub, Int.reduceNeg, Int.reduceLE, Int.reduceLT, Int.reduceToNat, Int.reduceBEq, Int.reduceBNe, Int.reduceEq, Int.reduceNe, Int.toNat_zero, Int.toNat_one, bne_self_eq_false, Nat.reduceMul, Nat.zero_mul, Nat.mul_one, Nat.one_mul, Nat.reduceSub, Int.cast_ofNat_Int, Int.toNat_natCast]
  have e1 : IntKind.u64.wrap (max a (IntKind.i64.wrap (0 - a))) = a.natAbs := by
    rw [w64 (by omega) (by omega), wu64 (by omega) (by omega)]; omega
  have e2 : IntKind.u64.wrap b = b := wu64 (by omega) (by omega)
  simp only [e1, e2]
  refine CallQ.pure 100 (mul64 a.natAbs b (by omega) (by omega) (by omega) (by omega)) rfl ?_
  simp (config := { maxSteps := 2000000 }) only [go_sem, Nat.reduceBEq, Nat.reduceAdd, Nat.reduceLT, Nat.reduceLeDiff, Nat.reduceEqDiff, reduceCtorEq, Int.reduceAdd, Int.reduceSub, Int.reduceNeg, Int.reduceLE, Int.reduceLT, Int.reduceToNat, Int.reduceBEq, Int.reduceBNe, Int.reduceEq, Int.reduceNe, Int.toNat_zero, Int.toNat_one, bne_self_eq_false, Nat.reduceMul, Nat.zero_mul, Nat.mul_one, Nat.one_mul, Nat.reduceSub, Int.cast_ofNat_Int, Int.toNat_natCast]
  exact RetQ.int2 hR rfl ⟨rfl, rfl, trivial⟩ rfl rfl
/-- The order of two ratios. -/
def cmpF (x y : Int) : Int := if x < y then -1 else if y < x then 1 else 0
theorem cmp_lt (a b : Int) : (bif decide (a / 18446744073709551616 < b / 18446744073709551616) then true else bif (a / 18446744073709551616 == b / 18446744073709551616) then decide (a % 18446744073709551616 < b % 18446744073709551616) else false) = decide (a < b) := by
  rw [Bool.eq_iff_iff]
  simp only [Bool.cond_eq_ite, decide_eq_true_eq, beq_iff_eq]
  split
  · simp; omega
  · split
    · simp only [decide_eq_true_eq]; omega
    · simp; omega
theorem cmp_gt (a b : Int) (h : ¬ a < b) : (bif decide (b / 18446744073709551616 < a / 18446744073709551616) then true else decide (b % 18446744073709551616 < a % 18446744073709551616)) = decide (b < a) := by
  rw [Bool.eq_iff_iff]
  simp only [Bool.cond_eq_ite, decide_eq_true_eq]
  split
  · simp; omega
  · simp only [decide_eq_true_eq]; omega
theorem compare_no (a b c d : Int) (h : ¬ (rok a b ∧ rok c d)) : CallOk Try.prog 50 [ra a b, ra c d] [] (I 0) [] := by
  refine CallOk.mk 100 Try.func50 rfl en50 (by simp [Try.ntmps50]) (by simp [ClV, V.g, Cv.g, ra, ci]) fun C hR => ?_
  simp (config := { maxSteps := 2000000 }) only [go_sem, Nat.reduceBEq, Nat.reduceAdd, Nat.reduceLT, Nat.reduceLeDiff, Nat.reduceEqDiff, reduceCtorEq, Int.reduceAdd, Int.reduceSub, Int.reduceNeg, Int.reduceLE, Int.reduceLT, Int.reduceToNat, Int.reduceBEq, Int.reduceBNe, Int.reduceEq, Int.reduceNe, Int.toNat_zero, Int.toNat_one, bne_self_eq_false, Nat.reduceMul, Nat.zero_mul, Nat.mul_one, Nat.one_mul, Nat.reduceSub, Int.cast_ofNat_Int, Int.toNat_natCast]
  refine CallQ.pure 102 (ratio_ a b) rfl ?_
  simp (config := { maxSteps := 2000000 }) only [go_sem, Nat.reduceBEq, Nat.reduceAdd, Nat.reduceLT, Nat.reduceLeDiff, Nat.reduceEqDiff, reduceCtorEq, Int.reduceAdd, Int.reduceSub, Int.reduceNeg, Int.reduceLE, Int.reduceLT, Int.reduceToNat, Int.reduceBEq, Int.reduceBNe, Int.reduceEq, Int.reduceNe, Int.toNat_zero, Int.toNat_one, bne_self_eq_false, Nat.reduceMul, Nat.zero_mul, Nat.mul_one, Nat.one_mul, Nat.reduceSub, Int.cast_ofNat_Int, Int.toNat_natCast]
  refine CallQ.guard 102 (fun _ => ratio_ c d) (fun h => by rw [h]; rfl) ?_
  simp (config := { maxSteps := 2000000 }) only [go_sem, Nat.reduceBEq, Nat.reduceAdd, Nat.reduceLT, Nat.reduceLeDiff, Nat.reduceEqDiff, reduceCtorEq, Int.reduceAdd, Int.reduceSub, Int.reduceNeg, Int.reduceLE, Int.reduceLT, Int.reduceToNat, Int.reduceBEq, Int.reduceBNe, Int.reduceEq, Int.reduceNe, Int.toNat_zero, Int.toNat_one, bne_self_eq_false, Nat.reduceMul, Nat.zero_mul, Nat.mul_one, Nat.one_mul, Nat.reduceSub, Int.cast_ofNat_Int, Int.toNat_natCast]
  have e : (bif !decide ((1 ≤ b ∧ b ≤ 1152921504606846976) ∧ -1152921504606846976 ≤ a ∧ a ≤ 1152921504606846976) then true else !decide ((1 ≤ d ∧ d ≤ 1152921504606846976) ∧ -1152921504606846976 ≤ c ∧ c ≤ 1152921504606846976)) = true := by
    unfold rok at h
    rw [bor_]
    simp only [Bool.or_eq_true, Bool.not_eq_true', decide_eq_false_iff_not]
    omega
  simp only [e]
  exact RetQ.int hR rfl ⟨rfl, trivial⟩ rfl
theorem compare_ok (a b c d : Int) (h1 : rok a b) (h2 : rok c d) : CallOk Try.prog 50 [ra a b, ra c d] [] (I (cmpF (a * d) (c * b))) [] := by
  refine CallOk.mk 100 Try.func50 rfl en50 (by simp [Try.ntmps50]) (by simp [ClV, V.g, Cv.g, ra, ci]) fun C hR => ?_
  simp (config := { maxSteps := 2000000 }) only [go_sem, Nat.reduceBEq, Nat.reduceAdd, Nat.reduceLT, Nat.reduceLeDiff, Nat.reduceEqDiff, reduceCtorEq, Int.reduceAdd, Int.reduceSub, Int.reduceNeg, Int.reduceLE, Int.reduceLT, Int.reduceToNat, Int.reduceBEq, Int.reduceBNe, Int.reduceEq, Int.reduceNe, Int.toNat_zero, Int.toNat_one, bne_self_eq_false, Nat.reduceMul, Nat.zero_mul, Nat.mul_one, Nat.one_mul, Nat.reduceSub, Int.cast_ofNat_Int, Int.toNat_natCast]
  refine CallQ.pure 102 (ratio_ok a b h1) rfl ?_
  simp (config := { maxSteps := 2000000 }) only [go_sem, Nat.reduceBEq, Nat.reduceAdd, Nat.reduceLT, Nat.reduceLeDiff, Nat.reduceEqDiff, reduceCtorEq, Int.reduceAdd, Int.reduceSub, Int.reduceNeg, Int.reduceLE, Int.reduceLT, Int.reduceToNat, Int.reduceBEq, Int.reduceBNe, Int.reduceEq, Int.reduceNe, Int.toNat_zero, Int.toNat_one, bne_self_eq_false, Nat.reduceMul, Nat.zero_mul, Nat.mul_one, Nat.one_mul, Nat.reduceSub, Int.cast_ofNat_Int, Int.toNat_natCast]
  refine CallQ.pure 102 (ratio_ok c d h2) rfl ?_
  simp (config := { maxSteps := 2000000 }) only [go_sem, Nat.reduceBEq, Nat.reduceAdd, Nat.reduceLT, Nat.reduceLeDiff, Nat.reduceEqDiff, reduceCtorEq, Int.reduceAdd, Int.reduceSub, Int.reduceNeg, Int.reduceLE, Int.reduceLT, Int.reduceToNat, Int.reduceBEq, Int.reduceBNe, Int.reduceEq, Int.reduceNe, Int.toNat_zero, Int.toNat_one, bne_self_eq_false, Nat.reduceMul, Nat.zero_mul, Nat.mul_one, Nat.one_mul, Nat.reduceSub, Int.cast_ofNat_Int, Int.toNat_natCast]
  unfold rok at h1 h2
  by_cases ha : a < 0
  · have d1 : decide (a < 0) = true := by simpa using ha
    have d2 : decide (0 ≤ a) = false := by simp; omega
    have pa := Int.mul_neg_of_neg_of_pos ha (show 0 < d by omega)
    by_cases hc : c < 0
    · have d3 : decide (c < 0) = true := by simpa using hc
      have d4 : decide (0 ≤ c) = false := by simp; omega
      simp only [d1, d2, d3, d4, cond_true, cond_false]
      refine CallQ.pure 102 (product_ a d (by omega) (by omega) (by omega) (by omega)) rfl ?_
      simp (config := { maxSteps := 2000000 }) only [go_sem, Nat.reduceBEq, Nat.reduceAdd, Nat.reduceLT, Nat.reduceLeDiff, Nat.reduceEqDiff, reduceCtorEq, Int.reduceAdd, Int.reduceSub, Int.reduceNeg, Int.reduceLE, Int.reduceLT, Int.reduceToNat, Int.reduceBEq, Int.reduceBNe, Int.reduceEq, Int.reduceNe, Int.toNat_zero, Int.toNat_one, bne_self_eq_false, Nat.reduceMul, Nat.zero_mul, Nat.mul_one, Nat.one_mul, Nat.reduceSub, Int.cast_ofNat_Int, Int.toNat_natCast]
      refine CallQ.pure 102 (product_ c b (by omega) (by omega) (by omega) (by omega)) rfl ?_
      simp (config := { maxSteps := 2000000 }) only [go_sem, Nat.reduceBEq, Nat.reduceAdd, Nat.reduceLT, Nat.reduceLeDiff, Nat.reduceEqDiff, reduceCtorEq, Int.reduceAdd, Int.reduceSub, Int.reduceNeg, Int.reduceLE, Int.reduceLT, Int.reduceToNat, Int.reduceBEq, Int.reduceBNe, Int.reduceEq, Int.reduceNe, Int.toNat_zero, Int.toNat_one, bne_self_eq_false, Nat.reduceMul, Nat.zero_mul, Nat.mul_one, Nat.one_mul, Nat.reduceSub, Int.cast_ofNat_Int, Int.toNat_natCast]
      simp only [cmp_lt, d1]
      refine ⟨fun h1 => ⟨h1, fun h2 => by rw [h1, h2]; rfl⟩, ?_⟩
      have na : (a.natAbs : Int) * d = -(a * d) := by rw [show (a.natAbs : Int) = -a by omega, Int.neg_mul]
      have nc : (c.natAbs : Int) * b = -(c * b) := by rw [show (c.natAbs : Int) = -c by omega, Int.neg_mul]
      by_cases hl : (a.natAbs : Int) * d < c.natAbs * b
      · have dl : decide ((a.natAbs : Int) * d < c.natAbs * b) = true := by simpa using hl
        have ev : cmpF (a * d) (c * b) = 1 := by unfold cmpF; split <;> (try split) <;> omega
        simp only [dl]
        exact RetQ.int hR rfl ⟨rfl, trivial⟩ (by rw [ev])
      · have dl : decide ((a.natAbs : Int) * d < c.natAbs * b) = false := by simpa using hl
        simp only [dl, cmp_gt _ _ hl]
        by_cases hg : (c.natAbs : Int) * b < a.natAbs * d
        · have dg : decide ((c.natAbs : Int) * b < a.natAbs * d) = true := by simpa using hg
          have ev : cmpF (a * d) (c * b) = -1 := by unfold cmpF; split <;> (try split) <;> omega
          simp only [dg]
          exact RetQ.int hR rfl ⟨rfl, trivial⟩ (by rw [ev])
        · have dg : decide ((c.natAbs : Int) * b < a.natAbs * d) = false := by simpa using hg
          have ev : cmpF (a * d) (c * b) = 0 := by unfold cmpF; split <;> (try split) <;> omega
          simp only [dg]
          exact RetQ.int hR rfl ⟨rfl, trivial⟩ (by rw [ev])
    · have d3 : decide (c < 0) = false := by simp; omega
      have d4 : decide (0 ≤ c) = true := by simp; omega
      simp only [d1, d2, d3, d4, cond_true, cond_false]
      have pc := Int.mul_nonneg (show 0 ≤ c by omega) (show 0 ≤ b by omega)
      exact RetQ.int hR rfl ⟨rfl, trivial⟩ (by unfold cmpF; rw [if_pos (by omega)])
  · have d1 : decide (a < 0) = false := by simp; omega
    have d2 : decide (0 ≤ a) = true := by simp; omega
    have pa := Int.mul_nonneg (show 0 ≤ a by omega) (show 0 ≤ d by omega)
    by_cases hc : c < 0
    · have d3 : decide (c < 0) = true := by simpa using hc
      have d4 : decide (0 ≤ c) = false := by simp; omega
      simp only [d1, d2, d3, d4, cond_true, cond_false]
      have pc := Int.mul_neg_of_neg_of_pos hc (show 0 < b by omega)
      exact RetQ.int hR rfl ⟨rfl, trivial⟩ (by unfold cmpF; rw [if_neg (by omega), if_pos (by omega)])
    · have d3 : decide (c < 0) = false := by simp; omega
      have d4 : decide (0 ≤ c) = true := by simp; omega
      simp only [d1, d2, d3, d4, cond_true, cond_false]
      refine CallQ.pure 102 (product_ a d (by omega) (by omega) (by omega) (by omega)) rfl ?_
      simp (config := { maxSteps := 2000000 }) only [go_sem, Nat.reduceBEq, Nat.reduceAdd, Nat.reduceLT, Nat.reduceLeDiff, Nat.reduceEqDiff, reduceCtorEq, Int.reduceAdd, Int.reduceSub, Int.reduceNeg, Int.reduceLE, Int.reduceLT, Int.reduceToNat, Int.reduceBEq, Int.reduceBNe, Int.reduceEq, Int.reduceNe, Int.toNat_zero, Int.toNat_one, bne_self_eq_false, Nat.reduceMul, Nat.zero_mul, Nat.mul_one, Nat.one_mul, Nat.reduceSub, Int.cast_ofNat_Int, Int.toNat_natCast]
      refine CallQ.pure 102 (product_ c b (by omega) (by omega) (by omega) (by omega)) rfl ?_
      simp (config := { maxSteps := 2000000 }) only [go_sem, Nat.reduceBEq, Nat.reduceAdd, Nat.reduceLT, Nat.reduceLeDiff, Nat.reduceEqDiff, reduceCtorEq, Int.reduceAdd, Int.reduceSub, Int.reduceNeg, Int.reduceLE, Int.reduceLT, Int.reduceToNat, Int.reduceBEq, Int.reduceBNe, Int.reduceEq, Int.reduceNe, Int.toNat_zero, Int.toNat_one, bne_self_eq_false, Nat.reduceMul, Nat.zero_mul, Nat.mul_one, Nat.one_mul, Nat.reduceSub, Int.cast_ofNat_Int, Int.toNat_natCast]
      simp only [cmp_lt, d1]
      refine ⟨fun h1 => ⟨h1, fun h2 => by rw [h1, h2]; rfl⟩, ?_⟩
      have na : (a.natAbs : Int) * d = (a * d) := by rw [show (a.natAbs : Int) = a by omega]
      have nc : (c.natAbs : Int) * b = (c * b) := by rw [show (c.natAbs : Int) = c by omega]
      by_cases hl : (a.natAbs : Int) * d < c.natAbs * b
      · have dl : decide ((a.natAbs : Int) * d < c.natAbs * b) = true := by simpa using hl
        have ev : cmpF (a * d) (c * b) = -1 := by unfold cmpF; split <;> (try split) <;> omega
        simp only [dl]
        exact RetQ.int hR rfl ⟨rfl, trivial⟩ (by rw [ev])
      · have dl : decide ((a.natAbs : Int) * d < c.natAbs * b) = false := by simpa using hl
        simp only [dl, cmp_gt _ _ hl]
        by_cases hg : (c.natAbs : Int) * b < a.natAbs * d
        · have dg : decide ((c.natAbs : Int) * b < a.natAbs * d) = true := by simpa using hg
          have ev : cmpF (a * d) (c * b) = 1 := by unfold cmpF; split <;> (try split) <;> omega
          simp only [dg]
          exact RetQ.int hR rfl ⟨rfl, trivial⟩ (by rw [ev])
        · have dg : decide ((c.natAbs : Int) * b < a.natAbs * d) = false := by simpa using hg
          have ev : cmpF (a * d) (c * b) = 0 := by unfold cmpF; split <;> (try split) <;> omega
          simp only [dg]
          exact RetQ.int hR rfl ⟨rfl, trivial⟩ (by rw [ev])
end Go.Proofs.Ytnolflocgodffaa
