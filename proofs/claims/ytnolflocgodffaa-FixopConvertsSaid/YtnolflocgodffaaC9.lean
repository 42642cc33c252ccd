/- FixedCompares. -/
import Derived.Test.YtnolflocgodffaaC8
namespace Go.Proofs.Ytnolflocgodffaa
open Vg Tf
set_option linter.unusedSimpArgs false
set_option linter.unusedVariables false
set_option maxRecDepth 100000
theorem rratio (n d : Int) : CallOk Try.prog 41 [ra n d] [] (Bo (decide ((1 ≤ d ∧ d ≤ 1152921504606846976) ∧ (-1152921504606846976 ≤ n ∧ n ≤ 1152921504606846976)))) [] := by
  refine CallOk.mk 100 Try.func41 rfl en41 (by simp [Try.ntmps41]) (by simp [ClV, V.g, Cv.g, ra, ci]) fun C hR => ?_
  simp (config := { maxSteps := 2000000 }) only [go_sem, Nat.reduceBEq, Nat.reduceAdd, Nat.reduceLT, Nat.reduceLeDiff, Nat.reduceEqDiff, reduceCtorEq, Int.reduceAdd, Int.reduceSub, Int.reduceNeg, Int.reduceLE, Int.reduceLT, Int.reduceToNat, Int.reduceBEq, Int.reduceBNe, Int.reduceEq, Int.reduceNe, Int.toNat_zero, Int.toNat_one, bne_self_eq_false, Nat.reduceMul, Nat.zero_mul, Nat.mul_one, Nat.one_mul, Nat.reduceSub, Int.cast_ofNat_Int, Int.toNat_natCast]
  refine RetQ.bool hR rfl ⟨rfl, trivial⟩ ?_
  rw [Bool.eq_iff_iff]
  simp only [Bool.cond_eq_ite, decide_eq_true_eq]
  grind
theorem rratio_ok (n d : Int) (h : rok n d) : CallOk Try.prog 41 [ra n d] [] (Bo true) [] := by
  have := rratio n d
  rw [show decide ((1 ≤ d ∧ d ≤ 1152921504606846976) ∧ (-1152921504606846976 ≤ n ∧ n ≤ 1152921504606846976)) = true from decide_eq_true h] at this
  exact this
theorem number_any (t : Ft) (raw : Int) : ∃ n d e : Int, CallOk Try.prog 34 [fx t, I raw] [] (.tup [.agg [ci n, ci d], Wi e]) [] ∧ (e = 0 → fok t = true ∧ fin t raw = true ∧ n = fnu t raw / gcd2 (fnu t raw) t.den ∧ d = t.den / gcd2 (fnu t raw) t.den) := by
  cases h : fok t with
  | false => exact ⟨0, 0, 1, number_arg t raw h, fun h => by omega⟩
  | true =>
    cases hw : fin t raw with
    | false => exact ⟨0, 0, 2, number_range t raw h hw, fun h => by omega⟩
    | true => exact ⟨_, _, 0, number_ok t raw h hw, fun _ => ⟨rfl, rfl, rfl, rfl⟩⟩
theorem cmpF_mul {a b k : Int} (hk : 0 < k) : cmpF (a * k) (b * k) = cmpF a b := by
  unfold cmpF
  have h1 : a * k < b * k ↔ a < b := ⟨fun h => Int.lt_of_mul_lt_mul_right h (by omega), fun h => Int.mul_lt_mul_of_pos_right h hk⟩
  have h2 : b * k < a * k ↔ b < a := ⟨fun h => Int.lt_of_mul_lt_mul_right h (by omega), fun h => Int.mul_lt_mul_of_pos_right h hk⟩
  simp only [h1, h2]
theorem cmpF_swap (a b : Int) : cmpF b a = IntKind.i64.wrap (0 - cmpF a b) := by
  unfold cmpF; split <;> split <;> (try split) <;> first | omega | decide | (rw [w64 (by omega) (by omega)]; omega)
theorem num_cmp {t : Ft} {x y : Int} (h : fok t = true) (hx : fin t x = true) (hy : fin t y = true) :
    cmpF (fnu t x / gcd2 (fnu t x) t.den * (t.den / gcd2 (fnu t y) t.den)) (fnu t y / gcd2 (fnu t y) t.den * (t.den / gcd2 (fnu t x) t.den)) = cmpF x y := by
  have hf := fok_bd h
  have g1 := gcd2_pos (fnu t x) t.den (by omega)
  have g2 := gcd2_pos (fnu t y) t.den (by omega)
  obtain ⟨a1, a2⟩ := gcd2_dvd (fnu t x) t.den
  obtain ⟨b1, b2⟩ := gcd2_dvd (fnu t y) t.den
  have m1 := Int.ediv_mul_cancel a1
  have m2 := Int.ediv_mul_cancel a2
  have m3 := Int.ediv_mul_cancel b1
  have m4 := Int.ediv_mul_cancel b2
  generalize gcd2 (fnu t x) t.den = gx at *
  generalize gcd2 (fnu t y) t.den = gy at *
  generalize fnu t x / gx = n1 at *
  generalize fnu t y / gy = n2 at *
  generalize t.den / gx = d1 at *
  generalize t.den / gy = d2 at *
  rw [← cmpF_mul (Int.mul_pos g1 g2)]
  rw [show n1 * d2 * (gx * gy) = (n1 * gx) * (d2 * gy) by grind, show n2 * d1 * (gx * gy) = (n2 * gy) * (d1 * gx) by grind, m1, m2, m3, m4]
  rw [cmpF_mul (show 0 < t.den by omega)]
  rw [← cmpF_mul (a := x) (b := y) (show 0 < t.num by omega)]
  refine cmpF_congr ?_
  unfold fnu; omega
theorem cmp_fin (x y : Int) : (bif (decide (cmpF x y < 0) == decide (x < y)) then (decide (0 < cmpF x y) == decide (y < x)) else false) = true := by
  rcases Int.lt_trichotomy x y with h | h | h
  · have e : cmpF x y = -1 := by unfold cmpF; rw [if_pos h]
    have e1 : decide (x < y) = true := by simpa using h
    have e2 : decide (y < x) = false := by simp; omega
    rw [e, e1, e2]; rfl
  · have e : cmpF x y = 0 := by unfold cmpF; rw [if_neg (by omega), if_neg (by omega)]
    have e1 : decide (x < y) = false := by simp; omega
    have e2 : decide (y < x) = false := by simp; omega
    rw [e, e1, e2]; rfl
  · have e : cmpF x y = 1 := by unfold cmpF; rw [if_neg (by omega), if_pos h]
    have e1 : decide (x < y) = false := by simp; omega
    have e2 : decide (y < x) = true := by simpa using h
    rw [e, e1, e2]; rfl
theorem law_compares (a b c d : Int) (t : Ft) (x y : Int) : CallOk Try.prog 14 [ra a b, ra c d, fx t, I x, I y] [] (Bo true) [] := by
  refine CallOk.mk 100 Try.func14 rfl en14 (by simp [Try.ntmps14]) (by simp [ClV, V.g, Cv.g, fx, ra, ci]) fun C hR => ?_
  simp (config := { maxSteps := 2000000 }) only [go_sem, Nat.reduceBEq, Nat.reduceAdd, Nat.reduceLT, Nat.reduceLeDiff, Nat.reduceEqDiff, reduceCtorEq, Int.reduceAdd, Int.reduceSub, Int.reduceNeg, Int.reduceLE, Int.reduceLT, Int.reduceToNat, Int.reduceBEq, Int.reduceBNe, Int.reduceEq, Int.reduceNe, Int.toNat_zero, Int.toNat_one, bne_self_eq_false, Nat.reduceMul, Nat.zero_mul, Nat.mul_one, Nat.one_mul, Nat.reduceSub, Int.cast_ofNat_Int, Int.toNat_natCast]
  refine CallQ.pure 103 awake rfl ?_
  simp (config := { maxSteps := 2000000 }) only [go_sem, Nat.reduceBEq, Nat.reduceAdd, Nat.reduceLT, Nat.reduceLeDiff, Nat.reduceEqDiff, reduceCtorEq, Int.reduceAdd, Int.reduceSub, Int.reduceNeg, Int.reduceLE, Int.reduceLT, Int.reduceToNat, Int.reduceBEq, Int.reduceBNe, Int.reduceEq, Int.reduceNe, Int.toNat_zero, Int.toNat_one, bne_self_eq_false, Nat.reduceMul, Nat.zero_mul, Nat.mul_one, Nat.one_mul, Nat.reduceSub, Int.cast_ofNat_Int, Int.toNat_natCast]
  by_cases hr : rok a b ∧ rok c d
  · obtain ⟨h1, h2⟩ := hr
    refine CallQ.pure 103 (compare_ok a b c d h1 h2) rfl ?_
    simp (config := { maxSteps := 2000000 }) only [go_sem, Nat.reduceBEq, Nat.reduceAdd, Nat.reduceLT, Nat.reduceLeDiff, Nat.reduceEqDiff, reduceCtorEq, Int.reduceAdd, Int.reduceSub, Int.reduceNeg, Int.reduceLE, Int.reduceLT, Int.reduceToNat, Int.reduceBEq, Int.reduceBNe, Int.reduceEq, Int.reduceNe, Int.toNat_zero, Int.toNat_one, bne_self_eq_false, Nat.reduceMul, Nat.zero_mul, Nat.mul_one, Nat.one_mul, Nat.reduceSub, Int.cast_ofNat_Int, Int.toNat_natCast]
    refine CallQ.pure 103 (rratio_ok a b h1) rfl ?_
    simp (config := { maxSteps := 2000000 }) only [go_sem, Nat.reduceBEq, Nat.reduceAdd, Nat.reduceLT, Nat.reduceLeDiff, Nat.reduceEqDiff, reduceCtorEq, Int.reduceAdd, Int.reduceSub, Int.reduceNeg, Int.reduceLE, Int.reduceLT, Int.reduceToNat, Int.reduceBEq, Int.reduceBNe, Int.reduceEq, Int.reduceNe, Int.toNat_zero, Int.toNat_one, bne_self_eq_false, Nat.reduceMul, Nat.zero_mul, Nat.mul_one, Nat.one_mul, Nat.reduceSub, Int.cast_ofNat_Int, Int.toNat_natCast]
    refine CallQ.pure 103 (rratio_ok c d h2) rfl ?_
    simp (config := { maxSteps := 2000000 }) only [go_sem, Nat.reduceBEq, Nat.reduceAdd, Nat.reduceLT, Nat.reduceLeDiff, Nat.reduceEqDiff, reduceCtorEq, Int.reduceAdd, Int.reduceSub, Int.reduceNeg, Int.reduceLE, Int.reduceLT, Int.reduceToNat, Int.reduceBEq, Int.reduceBNe, Int.reduceEq, Int.reduceNe, Int.toNat_zero, Int.toNat_one, bne_self_eq_false, Nat.reduceMul, Nat.zero_mul, Nat.mul_one, Nat.one_mul, Nat.reduceSub, Int.cast_ofNat_Int, Int.toNat_natCast]
    refine CallQ.pure 103 (rcompare a b c d h1 h2) rfl ?_
    simp (config := { maxSteps := 2000000 }) only [go_sem, Nat.reduceBEq, Nat.reduceAdd, Nat.reduceLT, Nat.reduceLeDiff, Nat.reduceEqDiff, reduceCtorEq, Int.reduceAdd, Int.reduceSub, Int.reduceNeg, Int.reduceLE, Int.reduceLT, Int.reduceToNat, Int.reduceBEq, Int.reduceBNe, Int.reduceEq, Int.reduceNe, Int.toNat_zero, Int.toNat_one, bne_self_eq_false, Nat.reduceMul, Nat.zero_mul, Nat.mul_one, Nat.one_mul, Nat.reduceSub, Int.cast_ofNat_Int, Int.toNat_natCast]
    refine CallQ.pure 103 (compare_ok c d a b h2 h1) rfl ?_
    simp (config := { maxSteps := 2000000 }) only [go_sem, Nat.reduceBEq, Nat.reduceAdd, Nat.reduceLT, Nat.reduceLeDiff, Nat.reduceEqDiff, reduceCtorEq, Int.reduceAdd, Int.reduceSub, Int.reduceNeg, Int.reduceLE, Int.reduceLT, Int.reduceToNat, Int.reduceBEq, Int.reduceBNe, Int.reduceEq, Int.reduceNe, Int.toNat_zero, Int.toNat_one, bne_self_eq_false, Nat.reduceMul, Nat.zero_mul, Nat.mul_one, Nat.one_mul, Nat.reduceSub, Int.cast_ofNat_Int, Int.toNat_natCast]
    simp only [← cmpF_swap, bne_self_eq_false]
    obtain ⟨n1, m1, e1, c1, z1⟩ := number_any t x
    obtain ⟨n2, m2, e2, c2, z2⟩ := number_any t y
    refine CallQ.pure 103 c1 rfl ?_
    simp (config := { maxSteps := 2000000 }) only [go_sem, Nat.reduceBEq, Nat.reduceAdd, Nat.reduceLT, Nat.reduceLeDiff, Nat.reduceEqDiff, reduceCtorEq, Int.reduceAdd, Int.reduceSub, Int.reduceNeg, Int.reduceLE, Int.reduceLT, Int.reduceToNat, Int.reduceBEq, Int.reduceBNe, Int.reduceEq, Int.reduceNe, Int.toNat_zero, Int.toNat_one, bne_self_eq_false, Nat.reduceMul, Nat.zero_mul, Nat.mul_one, Nat.one_mul, Nat.reduceSub, Int.cast_ofNat_Int, Int.toNat_natCast]
    refine CallQ.pure 104 c2 rfl ?_
    simp (config := { maxSteps := 2000000 }) only [go_sem, Nat.reduceBEq, Nat.reduceAdd, Nat.reduceLT, Nat.reduceLeDiff, Nat.reduceEqDiff, reduceCtorEq, Int.reduceAdd, Int.reduceSub, Int.reduceNeg, Int.reduceLE, Int.reduceLT, Int.reduceToNat, Int.reduceBEq, Int.reduceBNe, Int.reduceEq, Int.reduceNe, Int.toNat_zero, Int.toNat_one, bne_self_eq_false, Nat.reduceMul, Nat.zero_mul, Nat.mul_one, Nat.one_mul, Nat.reduceSub, Int.cast_ofNat_Int, Int.toNat_natCast]
    by_cases he1 : e1 = 0
    · have de1 : (e1 != 0) = false := by simpa using he1
      by_cases he2 : e2 = 0
      · have de2 : (e2 != 0) = false := by simpa using he2
        simp only [de1, de2, cond_false]
        obtain ⟨hk, hw1, rfl, rfl⟩ := z1 he1
        obtain ⟨_, hw2, rfl, rfl⟩ := z2 he2
        have r1 := (back_math hk hw1 1 (by omega) (by omega)).2
        have r2 := (back_math hk hw2 1 (by omega) (by omega)).2
        have hq := compare_ok _ _ _ _ r1 r2
        rw [num_cmp hk hw1 hw2] at hq
        refine CallQ.pure 105 hq rfl ?_
        simp (config := { maxSteps := 2000000 }) only [go_sem, Nat.reduceBEq, Nat.reduceAdd, Nat.reduceLT, Nat.reduceLeDiff, Nat.reduceEqDiff, reduceCtorEq, Int.reduceAdd, Int.reduceSub, Int.reduceNeg, Int.reduceLE, Int.reduceLT, Int.reduceToNat, Int.reduceBEq, Int.reduceBNe, Int.reduceEq, Int.reduceNe, Int.toNat_zero, Int.toNat_one, bne_self_eq_false, Nat.reduceMul, Nat.zero_mul, Nat.mul_one, Nat.one_mul, Nat.reduceSub, Int.cast_ofNat_Int, Int.toNat_natCast]
        exact RetQ.bool hR rfl ⟨rfl, trivial⟩ (cmp_fin x y)
      · have de2 : (e2 != 0) = true := by simpa using he2
        simp only [de1, de2, cond_false, cond_true]
        exact RetQ.bool hR rfl ⟨rfl, trivial⟩ rfl
    · have de1 : (e1 != 0) = true := by simpa using he1
      simp only [de1, cond_true]
      exact RetQ.bool hR rfl ⟨rfl, trivial⟩ rfl
  · refine CallQ.pure 103 (compare_no a b c d hr) rfl ?_
    simp (config := { maxSteps := 2000000 }) only [go_sem, Nat.reduceBEq, Nat.reduceAdd, Nat.reduceLT, Nat.reduceLeDiff, Nat.reduceEqDiff, reduceCtorEq, Int.reduceAdd, Int.reduceSub, Int.reduceNeg, Int.reduceLE, Int.reduceLT, Int.reduceToNat, Int.reduceBEq, Int.reduceBNe, Int.reduceEq, Int.reduceNe, Int.toNat_zero, Int.toNat_one, bne_self_eq_false, Nat.reduceMul, Nat.zero_mul, Nat.mul_one, Nat.one_mul, Nat.reduceSub, Int.cast_ofNat_Int, Int.toNat_natCast]
    refine CallQ.pure 103 (rratio a b) rfl ?_
    simp (config := { maxSteps := 2000000 }) only [go_sem, Nat.reduceBEq, Nat.reduceAdd, Nat.reduceLT, Nat.reduceLeDiff, Nat.reduceEqDiff, reduceCtorEq, Int.reduceAdd, Int.reduceSub, Int.reduceNeg, Int.reduceLE, Int.reduceLT, Int.reduceToNat, Int.reduceBEq, Int.reduceBNe, Int.reduceEq, Int.reduceNe, Int.toNat_zero, Int.toNat_one, bne_self_eq_false, Nat.reduceMul, Nat.zero_mul, Nat.mul_one, Nat.one_mul, Nat.reduceSub, Int.cast_ofNat_Int, Int.toNat_natCast]
    refine CallQ.guard 103 (fun _ => rratio c d) (fun h => by rw [h]; rfl) ?_
    simp (config := { maxSteps := 2000000 }) only [go_sem, Nat.reduceBEq, Nat.reduceAdd, Nat.reduceLT, Nat.reduceLeDiff, Nat.reduceEqDiff, reduceCtorEq, Int.reduceAdd, Int.reduceSub, Int.reduceNeg, Int.reduceLE, Int.reduceLT, Int.reduceToNat, Int.reduceBEq, Int.reduceBNe, Int.reduceEq, Int.reduceNe, Int.toNat_zero, Int.toNat_one, bne_self_eq_false, Nat.reduceMul, Nat.zero_mul, Nat.mul_one, Nat.one_mul, Nat.reduceSub, Int.cast_ofNat_Int, Int.toNat_natCast]
    have e : (bif !decide ((1 ≤ b ∧ b ≤ 1152921504606846976) ∧ -1152921504606846976 ≤ a ∧ a ≤ 1152921504606846976) then true else !decide ((1 ≤ d ∧ d ≤ 1152921504606846976) ∧ -1152921504606846976 ≤ c ∧ c ≤ 1152921504606846976)) = true := by
      unfold rok at hr
      rw [bor_]
      simp only [Bool.or_eq_true, Bool.not_eq_true', decide_eq_false_iff_not]
      omega
    simp only [e]
    obtain ⟨n1, m1, e1, c1, z1⟩ := number_any t x
    obtain ⟨n2, m2, e2, c2, z2⟩ := number_any t y
    refine CallQ.pure 103 c1 rfl ?_
    simp (config := { maxSteps := 2000000 }) only [go_sem, Nat.reduceBEq, Nat.reduceAdd, Nat.reduceLT, Nat.reduceLeDiff, Nat.reduceEqDiff, reduceCtorEq, Int.reduceAdd, Int.reduceSub, Int.reduceNeg, Int.reduceLE, Int.reduceLT, Int.reduceToNat, Int.reduceBEq, Int.reduceBNe, Int.reduceEq, Int.reduceNe, Int.toNat_zero, Int.toNat_one, bne_self_eq_false, Nat.reduceMul, Nat.zero_mul, Nat.mul_one, Nat.one_mul, Nat.reduceSub, Int.cast_ofNat_Int, Int.toNat_natCast]
    refine CallQ.pure 104 c2 rfl ?_
    simp (config := { maxSteps := 2000000 }) only [go_sem, Nat.reduceBEq, Nat.reduceAdd, Nat.reduceLT, Nat.reduceLeDiff, Nat.reduceEqDiff, reduceCtorEq, Int.reduceAdd, Int.reduceSub, Int.reduceNeg, Int.reduceLE, Int.reduceLT, Int.reduceToNat, Int.reduceBEq, Int.reduceBNe, Int.reduceEq, Int.reduceNe, Int.toNat_zero, Int.toNat_one, bne_self_eq_false, Nat.reduceMul, Nat.zero_mul, Nat.mul_one, Nat.one_mul, Nat.reduceSub, Int.cast_ofNat_Int, Int.toNat_natCast]
    by_cases he1 : e1 = 0
    · have de1 : (e1 != 0) = false := by simpa using he1
      by_cases he2 : e2 = 0
      · have de2 : (e2 != 0) = false := by simpa using he2
        simp only [de1, de2, cond_false]
        obtain ⟨hk, hw1, rfl, rfl⟩ := z1 he1
        obtain ⟨_, hw2, rfl, rfl⟩ := z2 he2
        have r1 := (back_math hk hw1 1 (by omega) (by omega)).2
        have r2 := (back_math hk hw2 1 (by omega) (by omega)).2
        have hq := compare_ok _ _ _ _ r1 r2
        rw [num_cmp hk hw1 hw2] at hq
        refine CallQ.pure 105 hq rfl ?_
        simp (config := { maxSteps := 2000000 }) only [go_sem, Nat.reduceBEq, Nat.reduceAdd, Nat.reduceLT, Nat.reduceLeDiff, Nat.reduceEqDiff, reduceCtorEq, Int.reduceAdd, Int.reduceSub, Int.reduceNeg, Int.reduceLE, Int.reduceLT, Int.reduceToNat, Int.reduceBEq, Int.reduceBNe, Int.reduceEq, Int.reduceNe, Int.toNat_zero, Int.toNat_one, bne_self_eq_false, Nat.reduceMul, Nat.zero_mul, Nat.mul_one, Nat.one_mul, Nat.reduceSub, Int.cast_ofNat_Int, Int.toNat_natCast]
        exact RetQ.bool hR rfl ⟨rfl, trivial⟩ (cmp_fin x y)
      · have de2 : (e2 != 0) = true := by simpa using he2
        simp only [de1, de2, cond_false, cond_true]
        exact RetQ.bool hR rfl ⟨rfl, trivial⟩ rfl
    · have de1 : (e1 != 0) = true := by simpa using he1
      simp only [de1, cond_true]
      exact RetQ.bool hR rfl ⟨rfl, trivial⟩ rfl
end Go.Proofs.Ytnolflocgodffaa
