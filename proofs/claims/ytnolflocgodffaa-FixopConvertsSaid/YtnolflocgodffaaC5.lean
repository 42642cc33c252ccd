/- The chapter's examples (awake), and FixedBack. -/
import Derived.Test.YtnolflocgodffaaC3
import Derived.Test.YtnolflocgodffaaC4
namespace Go.Proofs.Ytnolflocgodffaa
open Vg Tf
set_option linter.unusedSimpArgs false
set_option linter.unusedVariables false
set_option maxRecDepth 100000
def sp : Ft := ⟨16, false, 1, 0, 4, 0, 0, -1, 0, 0⟩
def t8 : Ft := ⟨8, true, 1, -40, 1, 0, 0, 0, 0, 0⟩
theorem aw1 : CallOk Try.prog 34 [fx sp, I 10] [] (.tup [.agg [ci 5, ci 2], Wi 0]) [] := by
  have h := number_ok sp 10 (by decide) (by decide)
  rw [show fnu sp 10 / gcd2 (fnu sp 10) sp.den = 5 by decide +kernel, show sp.den / gcd2 (fnu sp 10) sp.den = 2 by decide +kernel] at h
  exact h
theorem aw2 : CallOk Try.prog 39 [fx sp, ra 5 3, I 1] [] (.tup [Wi 6, Wi 0]) [] :=
  raw_ok sp 5 3 1 6 (by decide) (by unfold rok; decide) (by decide) (by decide) (exact_mid sp 5 3 1 (by decide) (by decide) (by decide) (by decide) (by decide) (by decide) (by decide) (by decide) (by decide))
theorem aw3 : CallOk Try.prog 39 [fx sp, ra 5 3, I 3] [] (.tup [Wi 7, Wi 0]) [] :=
  raw_ok sp 5 3 3 7 (by decide) (by unfold rok; decide) (by decide) (by decide) (exact_mid sp 5 3 3 (by decide) (by decide) (by decide) (by decide) (by decide) (by decide) (by decide) (by decide) (by decide))
theorem aw4 : CallOk Try.prog 40 [fx t8, ra 1000 1] [] (.tup [Wi 127, Wi 0]) [] :=
  near_ok t8 1000 1 1040 (by decide) (by unfold rok; decide) (exact_mid t8 1000 1 3 (by decide) (by decide) (by decide) (by decide) (by decide) (by decide) (by decide) (by decide) (by decide))
theorem awake : CallOk Try.prog 35 [] [] (Bo true) [] := by
  refine CallOk.mk 100 Try.func35 rfl en35 (by simp [Try.ntmps35]) (by simp) fun C hR => ?_
  simp (config := { maxSteps := 2000000 }) only [go_sem, Nat.reduceBEq, Nat.reduceAdd, Nat.reduceLT, Nat.reduceLeDiff, Nat.reduceEqDiff, reduceCtorEq, Int.reduceAdd, Int.reduceSub, Int.reduceNeg, Int.reduceLE, Int.reduceLT, Int.reduceToNat, Int.reduceBEq, Int.reduceBNe, Int.reduceEq, Int.reduceNe, Int.toNat_zero, Int.toNat_one, bne_self_eq_false, Nat.reduceMul, Nat.zero_mul, Nat.mul_one, Nat.one_mul, Nat.reduceSub, Int.cast_ofNat_Int, Int.toNat_natCast]
  refine CallQ.pure 100 speed_ rfl ?_
  simp (config := { maxSteps := 2000000 }) only [go_sem, Nat.reduceBEq, Nat.reduceAdd, Nat.reduceLT, Nat.reduceLeDiff, Nat.reduceEqDiff, reduceCtorEq, Int.reduceAdd, Int.reduceSub, Int.reduceNeg, Int.reduceLE, Int.reduceLT, Int.reduceToNat, Int.reduceBEq, Int.reduceBNe, Int.reduceEq, Int.reduceNe, Int.toNat_zero, Int.toNat_one, bne_self_eq_false, Nat.reduceMul, Nat.zero_mul, Nat.mul_one, Nat.one_mul, Nat.reduceSub, Int.cast_ofNat_Int, Int.toNat_natCast]
  refine CallQ.pure 100 aw1 rfl ?_
  simp (config := { maxSteps := 2000000 }) only [go_sem, Nat.reduceBEq, Nat.reduceAdd, Nat.reduceLT, Nat.reduceLeDiff, Nat.reduceEqDiff, reduceCtorEq, Int.reduceAdd, Int.reduceSub, Int.reduceNeg, Int.reduceLE, Int.reduceLT, Int.reduceToNat, Int.reduceBEq, Int.reduceBNe, Int.reduceEq, Int.reduceNe, Int.toNat_zero, Int.toNat_one, bne_self_eq_false, Nat.reduceMul, Nat.zero_mul, Nat.mul_one, Nat.one_mul, Nat.reduceSub, Int.cast_ofNat_Int, Int.toNat_natCast]
  refine CallQ.pure 101 speed_ rfl ?_
  simp (config := { maxSteps := 2000000 }) only [go_sem, Nat.reduceBEq, Nat.reduceAdd, Nat.reduceLT, Nat.reduceLeDiff, Nat.reduceEqDiff, reduceCtorEq, Int.reduceAdd, Int.reduceSub, Int.reduceNeg, Int.reduceLE, Int.reduceLT, Int.reduceToNat, Int.reduceBEq, Int.reduceBNe, Int.reduceEq, Int.reduceNe, Int.toNat_zero, Int.toNat_one, bne_self_eq_false, Nat.reduceMul, Nat.zero_mul, Nat.mul_one, Nat.one_mul, Nat.reduceSub, Int.cast_ofNat_Int, Int.toNat_natCast]
  refine CallQ.pure 101 aw2 rfl ?_
  simp (config := { maxSteps := 2000000 }) only [go_sem, Nat.reduceBEq, Nat.reduceAdd, Nat.reduceLT, Nat.reduceLeDiff, Nat.reduceEqDiff, reduceCtorEq, Int.reduceAdd, Int.reduceSub, Int.reduceNeg, Int.reduceLE, Int.reduceLT, Int.reduceToNat, Int.reduceBEq, Int.reduceBNe, Int.reduceEq, Int.reduceNe, Int.toNat_zero, Int.toNat_one, bne_self_eq_false, Nat.reduceMul, Nat.zero_mul, Nat.mul_one, Nat.one_mul, Nat.reduceSub, Int.cast_ofNat_Int, Int.toNat_natCast]
  refine CallQ.pure 101 speed_ rfl ?_
  simp (config := { maxSteps := 2000000 }) only [go_sem, Nat.reduceBEq, Nat.reduceAdd, Nat.reduceLT, Nat.reduceLeDiff, Nat.reduceEqDiff, reduceCtorEq, Int.reduceAdd, Int.reduceSub, Int.reduceNeg, Int.reduceLE, Int.reduceLT, Int.reduceToNat, Int.reduceBEq, Int.reduceBNe, Int.reduceEq, Int.reduceNe, Int.toNat_zero, Int.toNat_one, bne_self_eq_false, Nat.reduceMul, Nat.zero_mul, Nat.mul_one, Nat.one_mul, Nat.reduceSub, Int.cast_ofNat_Int, Int.toNat_natCast]
  refine CallQ.pure 101 aw3 rfl ?_
  simp (config := { maxSteps := 2000000 }) only [go_sem, Nat.reduceBEq, Nat.reduceAdd, Nat.reduceLT, Nat.reduceLeDiff, Nat.reduceEqDiff, reduceCtorEq, Int.reduceAdd, Int.reduceSub, Int.reduceNeg, Int.reduceLE, Int.reduceLT, Int.reduceToNat, Int.reduceBEq, Int.reduceBNe, Int.reduceEq, Int.reduceNe, Int.toNat_zero, Int.toNat_one, bne_self_eq_false, Nat.reduceMul, Nat.zero_mul, Nat.mul_one, Nat.one_mul, Nat.reduceSub, Int.cast_ofNat_Int, Int.toNat_natCast]
  refine CallQ.pure 101 aw4 rfl ?_
  simp (config := { maxSteps := 2000000 }) only [go_sem, Nat.reduceBEq, Nat.reduceAdd, Nat.reduceLT, Nat.reduceLeDiff, Nat.reduceEqDiff, reduceCtorEq, Int.reduceAdd, Int.reduceSub, Int.reduceNeg, Int.reduceLE, Int.reduceLT, Int.reduceToNat, Int.reduceBEq, Int.reduceBNe, Int.reduceEq, Int.reduceNe, Int.toNat_zero, Int.toNat_one, bne_self_eq_false, Nat.reduceMul, Nat.zero_mul, Nat.mul_one, Nat.one_mul, Nat.reduceSub, Int.cast_ofNat_Int, Int.toNat_natCast]
  exact RetQ.bool hR rfl ⟨rfl, trivial⟩ rfl
/-- The number's ratio. -/
theorem back_math {t : Ft} {raw : Int} (h : fok t = true) (hw : fin t raw = true) (m : Int) (hm : 1 ≤ m) (hm3 : m ≤ 3) :
    CallOk Try.prog 82 [fx t, ra (fnu t raw / gcd2 (fnu t raw) t.den) (t.den / gcd2 (fnu t raw) t.den), I m] [] (I raw) [] ∧ rok (fnu t raw / gcd2 (fnu t raw) t.den) (t.den / gcd2 (fnu t raw) t.den) := by
  have hb := fnu_bd h hw
  have hf := fok_bd h
  have hg := gcd2_pos (fnu t raw) t.den (by omega)
  obtain ⟨hd1, hd2⟩ := gcd2_dvd (fnu t raw) t.den
  have q1 := quo_bd (fnu t raw) _ hg
  have q2 := quo_bd t.den _ hg
  generalize hgg : gcd2 (fnu t raw) t.den = g at *
  have m1 := Int.ediv_mul_cancel hd1
  have m2 := Int.ediv_mul_cancel hd2
  generalize fnu t raw / g = n at *
  generalize hdd : t.den / g = d at *
  have hd0 : 1 ≤ d := by
    rcases Int.lt_or_le 0 d with h' | h'
    · omega
    · have := Int.mul_le_mul_of_nonneg_right h' (show 0 ≤ g by omega)
      omega
  have hfl : n / d = fnu t raw / t.den := by
    rw [← m1, ← m2, Int.mul_ediv_mul_of_pos_left _ _ hg]
  have hq := Int.mul_ediv_add_emod 1152921504606846976 t.den
  have hq1 := Int.emod_lt_of_pos 1152921504606846976 (show 0 < t.den by omega)
  have hr := Int.mul_ediv_add_emod (fnu t raw) t.den
  have hx1 : n / d ≤ 1152921504606846976 / t.den := by
    rw [hfl]; exact Int.ediv_le_ediv (by omega) (by omega)
  have hx2 : -(1152921504606846976 / t.den) ≤ n / d := by
    rw [hfl]
    refine Int.le_ediv_of_mul_le (by omega) ?_
    rw [Int.neg_mul, Int.mul_comm]
    omega
  have hv : rnd m (n * t.den - t.off * d) (d * t.num) = raw := by
    have e : n * t.den - t.off * d = raw * (d * t.num) := by
      have : n * t.den = fnu t raw * d := by rw [← m1]; rw [← m2]; grind
      rw [this]; unfold fnu; grind
    have hp : 0 < d * t.num := Int.mul_pos (by omega) (by omega)
    rw [e]
    unfold rnd
    split
    · exact Int.mul_ediv_cancel _ (by omega)
    · split
      · rw [← Int.neg_mul, Int.mul_ediv_cancel _ (by omega)]; omega
      · refine ediv_eq (by omega) ?_ ?_
        · have : 2 * (d * t.num) * raw = 2 * (raw * (d * t.num)) := by grind
          omega
        · have : 2 * (d * t.num) * raw = 2 * (raw * (d * t.num)) := by grind
          omega
  refine ⟨?_, ?_⟩
  · have := exact_mid t n d m h (by omega) (by omega) (by omega) (by omega) hm hm3 hx1 hx2
    rw [hv] at this
    exact this
  · unfold rok; omega
theorem rawback {t : Ft} {raw : Int} (h : fok t = true) (hw : fin t raw = true) (m : Int) (hm : 1 ≤ m) (hm3 : m ≤ 3) :
    CallOk Try.prog 39 [fx t, ra (fnu t raw / gcd2 (fnu t raw) t.den) (t.den / gcd2 (fnu t raw) t.den), I m] [] (.tup [Wi raw, Wi 0]) [] := by
  obtain ⟨h1, h2⟩ := back_math h hw m hm hm3
  have := raw_ok t _ _ m raw h h2 hm hm3 h1
  rw [hw] at this
  exact this
theorem nearback {t : Ft} {raw : Int} (h : fok t = true) (hw : fin t raw = true) :
    CallOk Try.prog 40 [fx t, ra (fnu t raw / gcd2 (fnu t raw) t.den) (t.den / gcd2 (fnu t raw) t.den)] [] (.tup [Wi raw, Wi 0]) [] := by
  obtain ⟨h1, h2⟩ := back_math h hw 3 (by omega) (by omega)
  have := near_ok t _ _ raw h h2 h1
  have e : min (max raw (flo t)) (fhi t) = raw := by
    unfold fin at hw; simp at hw; omega
  rw [e] at this
  exact this
theorem convback {t : Ft} {raw : Int} (h : fok t = true) (hw : fin t raw = true) : CallOk Try.prog 49 [fx t, fx t, I raw] [] (.tup [Wi raw, Wi 0]) [] :=
  conv_ok t t raw raw h h hw rfl (nearback h hw)
theorem law_back (t : Ft) (raw : Int) : CallOk Try.prog 13 [fx t, I raw] [] (Bo true) [] := by
  refine CallOk.mk 100 Try.func13 rfl en13 (by simp [Try.ntmps13]) (by simp [ClV, V.g, Cv.g, fx, ci]) fun C hR => ?_
  simp (config := { maxSteps := 2000000 }) only [go_sem, Nat.reduceBEq, Nat.reduceAdd, Nat.reduceLT, Nat.reduceLeDiff, Nat.reduceEqDiff, reduceCtorEq, Int.reduceAdd, Int.reduceSub, Int.reduceNeg, Int.reduceLE, Int.reduceLT, Int.reduceToNat, Int.reduceBEq, Int.reduceBNe, Int.reduceEq, Int.reduceNe, Int.toNat_zero, Int.toNat_one, bne_self_eq_false, Nat.reduceMul, Nat.zero_mul, Nat.mul_one, Nat.one_mul, Nat.reduceSub, Int.cast_ofNat_Int, Int.toNat_natCast]
  refine CallQ.pure 101 awake rfl ?_
  simp (config := { maxSteps := 2000000 }) only [go_sem, Nat.reduceBEq, Nat.reduceAdd, Nat.reduceLT, Nat.reduceLeDiff, Nat.reduceEqDiff, reduceCtorEq, Int.reduceAdd, Int.reduceSub, Int.reduceNeg, Int.reduceLE, Int.reduceLT, Int.reduceToNat, Int.reduceBEq, Int.reduceBNe, Int.reduceEq, Int.reduceNe, Int.toNat_zero, Int.toNat_one, bne_self_eq_false, Nat.reduceMul, Nat.zero_mul, Nat.mul_one, Nat.one_mul, Nat.reduceSub, Int.cast_ofNat_Int, Int.toNat_natCast]
  cases h : fok t with
  | false =>
    refine CallQ.pure 101 (number_arg t raw h) rfl ?_
    simp (config := { maxSteps := 2000000 }) only [go_sem, Nat.reduceBEq, Nat.reduceAdd, Nat.reduceLT, Nat.reduceLeDiff, Nat.reduceEqDiff, reduceCtorEq, Int.reduceAdd, Int.reduceSub, Int.reduceNeg, Int.reduceLE, Int.reduceLT, Int.reduceToNat, Int.reduceBEq, Int.reduceBNe, Int.reduceEq, Int.reduceNe, Int.toNat_zero, Int.toNat_one, bne_self_eq_false, Nat.reduceMul, Nat.zero_mul, Nat.mul_one, Nat.one_mul, Nat.reduceSub, Int.cast_ofNat_Int, Int.toNat_natCast]
    exact RetQ.bool hR rfl ⟨rfl, trivial⟩ rfl
  | true =>
    cases hw : fin t raw with
    | false =>
      refine CallQ.pure 101 (number_range t raw h hw) rfl ?_
      simp (config := { maxSteps := 2000000 }) only [go_sem, Nat.reduceBEq, Nat.reduceAdd, Nat.reduceLT, Nat.reduceLeDiff, Nat.reduceEqDiff, reduceCtorEq, Int.reduceAdd, Int.reduceSub, Int.reduceNeg, Int.reduceLE, Int.reduceLT, Int.reduceToNat, Int.reduceBEq, Int.reduceBNe, Int.reduceEq, Int.reduceNe, Int.toNat_zero, Int.toNat_one, bne_self_eq_false, Nat.reduceMul, Nat.zero_mul, Nat.mul_one, Nat.one_mul, Nat.reduceSub, Int.cast_ofNat_Int, Int.toNat_natCast]
      exact RetQ.bool hR rfl ⟨rfl, trivial⟩ rfl
    | true =>
      refine CallQ.pure 101 (number_ok t raw h hw) rfl ?_
      simp (config := { maxSteps := 2000000 }) only [go_sem, Nat.reduceBEq, Nat.reduceAdd, Nat.reduceLT, Nat.reduceLeDiff, Nat.reduceEqDiff, reduceCtorEq, Int.reduceAdd, Int.reduceSub, Int.reduceNeg, Int.reduceLE, Int.reduceLT, Int.reduceToNat, Int.reduceBEq, Int.reduceBNe, Int.reduceEq, Int.reduceNe, Int.toNat_zero, Int.toNat_one, bne_self_eq_false, Nat.reduceMul, Nat.zero_mul, Nat.mul_one, Nat.one_mul, Nat.reduceSub, Int.cast_ofNat_Int, Int.toNat_natCast]
      refine Sm.unroll 4 (Sm.go 102 ?_)
      simp (config := { maxSteps := 2000000 }) only [go_sem, Nat.reduceBEq, Nat.reduceAdd, Nat.reduceLT, Nat.reduceLeDiff, Nat.reduceEqDiff, reduceCtorEq, Int.reduceAdd, Int.reduceSub, Int.reduceNeg, Int.reduceLE, Int.reduceLT, Int.reduceToNat, Int.reduceBEq, Int.reduceBNe, Int.reduceEq, Int.reduceNe, Int.toNat_zero, Int.toNat_one, bne_self_eq_false, Nat.reduceMul, Nat.zero_mul, Nat.mul_one, Nat.one_mul, Nat.reduceSub, Int.cast_ofNat_Int, Int.toNat_natCast]
      refine CallQ.pure 102 (rawback h hw 1 (by omega) (by omega)) rfl ?_
      simp (config := { maxSteps := 2000000 }) only [go_sem, Nat.reduceBEq, Nat.reduceAdd, Nat.reduceLT, Nat.reduceLeDiff, Nat.reduceEqDiff, reduceCtorEq, Int.reduceAdd, Int.reduceSub, Int.reduceNeg, Int.reduceLE, Int.reduceLT, Int.reduceToNat, Int.reduceBEq, Int.reduceBNe, Int.reduceEq, Int.reduceNe, Int.toNat_zero, Int.toNat_one, bne_self_eq_false, Nat.reduceMul, Nat.zero_mul, Nat.mul_one, Nat.one_mul, Nat.reduceSub, Int.cast_ofNat_Int, Int.toNat_natCast]
      refine CallQ.pure 102 (rawback h hw 2 (by omega) (by omega)) rfl ?_
      simp (config := { maxSteps := 2000000 }) only [go_sem, Nat.reduceBEq, Nat.reduceAdd, Nat.reduceLT, Nat.reduceLeDiff, Nat.reduceEqDiff, reduceCtorEq, Int.reduceAdd, Int.reduceSub, Int.reduceNeg, Int.reduceLE, Int.reduceLT, Int.reduceToNat, Int.reduceBEq, Int.reduceBNe, Int.reduceEq, Int.reduceNe, Int.toNat_zero, Int.toNat_one, bne_self_eq_false, Nat.reduceMul, Nat.zero_mul, Nat.mul_one, Nat.one_mul, Nat.reduceSub, Int.cast_ofNat_Int, Int.toNat_natCast]
      refine CallQ.pure 102 (rawback h hw 3 (by omega) (by omega)) rfl ?_
      simp (config := { maxSteps := 2000000 }) only [go_sem, Nat.reduceBEq, Nat.reduceAdd, Nat.reduceLT, Nat.reduceLeDiff, Nat.reduceEqDiff, reduceCtorEq, Int.reduceAdd, Int.reduceSub, Int.reduceNeg, Int.reduceLE, Int.reduceLT, Int.reduceToNat, Int.reduceBEq, Int.reduceBNe, Int.reduceEq, Int.reduceNe, Int.toNat_zero, Int.toNat_one, bne_self_eq_false, Nat.reduceMul, Nat.zero_mul, Nat.mul_one, Nat.one_mul, Nat.reduceSub, Int.cast_ofNat_Int, Int.toNat_natCast]
      refine CallQ.pure 102 (nearback h hw) rfl ?_
      simp (config := { maxSteps := 2000000 }) only [go_sem, Nat.reduceBEq, Nat.reduceAdd, Nat.reduceLT, Nat.reduceLeDiff, Nat.reduceEqDiff, reduceCtorEq, Int.reduceAdd, Int.reduceSub, Int.reduceNeg, Int.reduceLE, Int.reduceLT, Int.reduceToNat, Int.reduceBEq, Int.reduceBNe, Int.reduceEq, Int.reduceNe, Int.toNat_zero, Int.toNat_one, bne_self_eq_false, Nat.reduceMul, Nat.zero_mul, Nat.mul_one, Nat.one_mul, Nat.reduceSub, Int.cast_ofNat_Int, Int.toNat_natCast]
      refine CallQ.pure 102 (convback h hw) rfl ?_
      simp (config := { maxSteps := 2000000 }) only [go_sem, Nat.reduceBEq, Nat.reduceAdd, Nat.reduceLT, Nat.reduceLeDiff, Nat.reduceEqDiff, reduceCtorEq, Int.reduceAdd, Int.reduceSub, Int.reduceNeg, Int.reduceLE, Int.reduceLT, Int.reduceToNat, Int.reduceBEq, Int.reduceBNe, Int.reduceEq, Int.reduceNe, Int.toNat_zero, Int.toNat_one, bne_self_eq_false, Nat.reduceMul, Nat.zero_mul, Nat.mul_one, Nat.one_mul, Nat.reduceSub, Int.cast_ofNat_Int, Int.toNat_natCast]
      exact RetQ.bool hR rfl ⟨rfl, trivial⟩ rfl
end Go.Proofs.Ytnolflocgodffaa
