/- The contract of fixed.exact in full. -/
import Derived.Test.YtcdclmelnnbdnaaFF3
import Derived.Test.YtcdclmelnnbdnaaFC15
namespace Go.Proofs.Ytcdclmelnnbdnaa.Fx
open Vg Tf
set_option linter.unusedSimpArgs false
set_option linter.unusedVariables false
set_option maxRecDepth 100000
set_option maxHeartbeats 2000000 in
theorem exact_mid2 (t : Ft) (n d m : Int) (h : fok t = true) (hd : 1 ≤ d) (hd2 : d ≤ 1152921504606846976) (hn1 : -1152921504606846976 ≤ n) (hn2 : n ≤ 1152921504606846976) (hm : 1 ≤ m) (hm3 : m ≤ 3) (hx1 : n / d ≤ 1152921504606846976 / t.den) (hx2 : -(1152921504606846976 / t.den) ≤ n / d) : CallOk Try.prog 74 [fx t, ra n d, I m] [] (I (rnd m (n * t.den - t.off * d) (d * t.num))) [] := by
  have hf := fok_bd h
  obtain ⟨q1, q2⟩ := far_q hf.2.2.1 hf.2.2.2.1
  have qq := Int.ediv_nonneg (a := 1152921504606846976) (b := t.den) (by omega) (by omega)
  have b0 := Int.emod_nonneg n (show d ≠ 0 by omega)
  have b1 := Int.emod_lt_of_pos n (show 0 < d by omega)
  have p1 := mul_bd (a := n % d) (b := t.den) (A := 1152921504606846976) (B := 1048576) (by omega) (by omega) (by omega) (by omega)
  have p0 : 0 ≤ n % d * t.den := Int.mul_nonneg b0 (by omega)
  have p2 : n % d * t.den ≤ d * t.den := Int.mul_le_mul_of_nonneg_right (by omega) (by omega)
  have p3 : n % d * t.den / d ≤ t.den := Int.ediv_le_of_le_mul (by omega) (by rw [Int.mul_comm t.den]; exact p2)
  have hq : decide (1152921504606846976 / t.den < n / d) = false := by simp; omega
  have hq2 : decide (n / d < -(1152921504606846976 / t.den)) = false := by simp; omega
  have a1 : n / d * t.den ≤ 1152921504606846976 := by
    have := Int.mul_le_mul_of_nonneg_right hx1 (show 0 ≤ t.den by omega)
    have := Int.ediv_mul_le 1152921504606846976 (show t.den ≠ 0 by omega)
    omega
  have a2 : -1152921504606846976 ≤ n / d * t.den := by
    have := Int.mul_le_mul_of_nonneg_right hx2 (show 0 ≤ t.den by omega)
    have := Int.ediv_mul_le 1152921504606846976 (show t.den ≠ 0 by omega)
    rw [Int.neg_mul] at *; omega
  have f0 := Int.emod_nonneg ((n % d) * t.den) (show d ≠ 0 by omega)
  have f1 := Int.emod_lt_of_pos ((n % d) * t.den) (show 0 < d by omega)
  have f2 := Int.mul_ediv_add_emod ((n % d) * t.den) d
  have e0 : 0 ≤ n % d * t.den / d := Int.ediv_nonneg p0 (by omega)
  have e1 : n % d * t.den / d ≤ n % d * t.den := Int.ediv_le_self _ p0
  have hmd := muldivF (n % d) t.den d 1 (by omega) (by omega) (by omega) (by omega) (by omega) (by omega) (by omega) (by omega)
  rw [show rnd 1 (n % d * t.den) d = n % d * t.den / d from rfl, fit_yes (by omega) (by omega)] at hmd
  simp only [cond_true] at hmd
  refine CallOk.mk 100 Try.func74 rfl en74 (by simp [Try.ntmps74]) (by simp [ClV, V.g, Cv.g, fx, ra, ci]) fun C hR => ?_
  simp (config := { maxSteps := 2000000 }) only [go_sem, Nat.reduceBEq, Nat.reduceAdd, Nat.reduceLT, Nat.reduceLeDiff, Nat.reduceEqDiff, reduceCtorEq, Int.reduceAdd, Int.reduceSub, Int.reduceNeg, Int.reduceLE, Int.reduceLT, Int.reduceToNat, Int.reduceBEq, Int.reduceBNe, Int.reduceEq, Int.reduceNe, Int.toNat_zero, Int.toNat_one, bne_self_eq_false, Nat.reduceMul, Nat.zero_mul, Nat.mul_one, Nat.one_mul, Nat.reduceSub, Int.cast_ofNat_Int, Int.toNat_natCast]
  refine Sm.dgo 102 11 mix (by decide +kernel) (by decide +kernel) ?_
  simp (config := { maxSteps := 2000000 }) only [go_sem, Nat.reduceBEq, Nat.reduceAdd, Nat.reduceLT, Nat.reduceLeDiff, Nat.reduceEqDiff, reduceCtorEq, Int.reduceAdd, Int.reduceSub, Int.reduceNeg, Int.reduceLE, Int.reduceLT, Int.reduceToNat, Int.reduceBEq, Int.reduceBNe, Int.reduceEq, Int.reduceNe, Int.toNat_zero, Int.toNat_one, bne_self_eq_false, Nat.reduceMul, Nat.zero_mul, Nat.mul_one, Nat.one_mul, Nat.reduceSub, Int.cast_ofNat_Int, Int.toNat_natCast]
  refine DCallQ.pure 102 (floor_ n d (by omega) (by omega) (by omega) (by omega)) rfl ?_
  simp (config := { maxSteps := 2000000 }) only [go_sem, Nat.reduceBEq, Nat.reduceAdd, Nat.reduceLT, Nat.reduceLeDiff, Nat.reduceEqDiff, reduceCtorEq, Int.reduceAdd, Int.reduceSub, Int.reduceNeg, Int.reduceLE, Int.reduceLT, Int.reduceToNat, Int.reduceBEq, Int.reduceBNe, Int.reduceEq, Int.reduceNe, Int.toNat_zero, Int.toNat_one, bne_self_eq_false, Nat.reduceMul, Nat.zero_mul, Nat.mul_one, Nat.one_mul, Nat.reduceSub, Int.cast_ofNat_Int, Int.toNat_natCast]
  refine DCallQ.pure 102 (mod_ n d (by omega) (by omega)) rfl ?_
  simp (config := { maxSteps := 2000000 }) only [go_sem, Nat.reduceBEq, Nat.reduceAdd, Nat.reduceLT, Nat.reduceLeDiff, Nat.reduceEqDiff, reduceCtorEq, Int.reduceAdd, Int.reduceSub, Int.reduceNeg, Int.reduceLE, Int.reduceLT, Int.reduceToNat, Int.reduceBEq, Int.reduceBNe, Int.reduceEq, Int.reduceNe, Int.toNat_zero, Int.toNat_one, bne_self_eq_false, Nat.reduceMul, Nat.zero_mul, Nat.mul_one, Nat.one_mul, Nat.reduceSub, Int.cast_ofNat_Int, Int.toNat_natCast]
  refine ⟨by omega, ?_⟩
  simp only [q1, hq]
  refine ⟨by omega, ?_⟩
  simp only [q2, hq2]
  refine CallQ.pure 102 hmd rfl ?_
  simp (config := { maxSteps := 2000000 }) only [go_sem, Nat.reduceBEq, Nat.reduceAdd, Nat.reduceLT, Nat.reduceLeDiff, Nat.reduceEqDiff, reduceCtorEq, Int.reduceAdd, Int.reduceSub, Int.reduceNeg, Int.reduceLE, Int.reduceLT, Int.reduceToNat, Int.reduceBEq, Int.reduceBNe, Int.reduceEq, Int.reduceNe, Int.toNat_zero, Int.toNat_one, bne_self_eq_false, Nat.reduceMul, Nat.zero_mul, Nat.mul_one, Nat.one_mul, Nat.reduceSub, Int.cast_ofNat_Int, Int.toNat_natCast]
  have w1 : IntKind.i64.wrap (n / d * t.den) = n / d * t.den := w64 (by omega) (by omega)
  have w2 : IntKind.i64.wrap (n / d * t.den - t.off) = n / d * t.den - t.off := w64 (by omega) (by omega)
  have w3 : IntKind.i64.wrap (n / d * t.den - t.off + n % d * t.den / d) = n / d * t.den - t.off + n % d * t.den / d := w64 (by omega) (by omega)
  have w5 : n % d * t.den / d * d = n % d * t.den - n % d * t.den % d := by rw [Int.mul_comm]; omega
  have w7 : IntKind.i64.wrap (IntKind.i64.wrap (n % d * t.den) - IntKind.i64.wrap (n % d * t.den / d * d)) = n % d * t.den % d := by
    rw [w5]
    simp only [IntKind.wrap_i64]
    omega
  simp only [w1, w2, w3, w7]
  have hS1 : -2305843009213693952 ≤ n / d * t.den - t.off + n % d * t.den / d := by omega
  have hS2 : n / d * t.den - t.off + n % d * t.den / d ≤ 3458764513820540928 := by omega
  have hmath := ex_math n d t.den t.off t.num m (by omega) (by omega)
  rw [hmath] at hR
  clear hmath
  generalize n / d * t.den - t.off + n % d * t.den / d = S at hR hS1 hS2 ⊢
  generalize n % d * t.den % d = f at hR f0 f1 ⊢
  clear w1 w2 w3 w5 w7 f2 e1 e0 a1 a2 hmd p3
  have g0 := Int.emod_nonneg S (show t.num ≠ 0 by omega)
  have g1 := Int.emod_lt_of_pos S (show 0 < t.num by omega)
  have u1 := quo_bd S t.num (by omega)
  have v1 : IntKind.i64.wrap (2 * (S % t.num)) = 2 * (S % t.num) := w64 (by omega) (by omega)
  have v2 : IntKind.i64.wrap (2 * f) = 2 * f := w64 (by omega) (by omega)
  have v3 : IntKind.i64.wrap (S / t.num + 1) = S / t.num + 1 := w64 (by omega) (by omega)
  have v4 : IntKind.i64.wrap (t.num - 1) = t.num - 1 := w64 (by omega) (by omega)
  rcases (show m = 1 ∨ m = 2 ∨ m = 3 by omega) with rfl | rfl | rfl
  · refine Sm.dgo 102 9 mix (by decide +kernel) (by decide +kernel) ?_
    simp (config := { maxSteps := 2000000 }) only [go_sem, Nat.reduceBEq, Nat.reduceAdd, Nat.reduceLT, Nat.reduceLeDiff, Nat.reduceEqDiff, reduceCtorEq, Int.reduceAdd, Int.reduceSub, Int.reduceNeg, Int.reduceLE, Int.reduceLT, Int.reduceToNat, Int.reduceBEq, Int.reduceBNe, Int.reduceEq, Int.reduceNe, Int.toNat_zero, Int.toNat_one, bne_self_eq_false, Nat.reduceMul, Nat.zero_mul, Nat.mul_one, Nat.one_mul, Nat.reduceSub, Int.cast_ofNat_Int, Int.toNat_natCast]
    refine DCallQ.pure 102 (floor_ S t.num (by omega) (by omega) (by omega) (by omega)) rfl ?_
    simp (config := { maxSteps := 2000000 }) only [go_sem, Nat.reduceBEq, Nat.reduceAdd, Nat.reduceLT, Nat.reduceLeDiff, Nat.reduceEqDiff, reduceCtorEq, Int.reduceAdd, Int.reduceSub, Int.reduceNeg, Int.reduceLE, Int.reduceLT, Int.reduceToNat, Int.reduceBEq, Int.reduceBNe, Int.reduceEq, Int.reduceNe, Int.toNat_zero, Int.toNat_one, bne_self_eq_false, Nat.reduceMul, Nat.zero_mul, Nat.mul_one, Nat.one_mul, Nat.reduceSub, Int.cast_ofNat_Int, Int.toNat_natCast]
    refine DCallQ.pure 102 (mod_ S t.num (by omega) (by omega)) rfl ?_
    simp (config := { maxSteps := 2000000 }) only [go_sem, Nat.reduceBEq, Nat.reduceAdd, Nat.reduceLT, Nat.reduceLeDiff, Nat.reduceEqDiff, reduceCtorEq, Int.reduceAdd, Int.reduceSub, Int.reduceNeg, Int.reduceLE, Int.reduceLT, Int.reduceToNat, Int.reduceBEq, Int.reduceBNe, Int.reduceEq, Int.reduceNe, Int.toNat_zero, Int.toNat_one, bne_self_eq_false, Nat.reduceMul, Nat.zero_mul, Nat.mul_one, Nat.one_mul, Nat.reduceSub, Int.cast_ofNat_Int, Int.toNat_natCast]
    exact RetQ.int hR rfl ⟨rfl, trivial⟩ (by simp)
  · refine Sm.dgo 102 9 mix (by decide +kernel) (by decide +kernel) ?_
    simp (config := { maxSteps := 2000000 }) only [go_sem, Nat.reduceBEq, Nat.reduceAdd, Nat.reduceLT, Nat.reduceLeDiff, Nat.reduceEqDiff, reduceCtorEq, Int.reduceAdd, Int.reduceSub, Int.reduceNeg, Int.reduceLE, Int.reduceLT, Int.reduceToNat, Int.reduceBEq, Int.reduceBNe, Int.reduceEq, Int.reduceNe, Int.toNat_zero, Int.toNat_one, bne_self_eq_false, Nat.reduceMul, Nat.zero_mul, Nat.mul_one, Nat.one_mul, Nat.reduceSub, Int.cast_ofNat_Int, Int.toNat_natCast]
    refine DCallQ.pure 102 (floor_ S t.num (by omega) (by omega) (by omega) (by omega)) rfl ?_
    simp (config := { maxSteps := 2000000 }) only [go_sem, Nat.reduceBEq, Nat.reduceAdd, Nat.reduceLT, Nat.reduceLeDiff, Nat.reduceEqDiff, reduceCtorEq, Int.reduceAdd, Int.reduceSub, Int.reduceNeg, Int.reduceLE, Int.reduceLT, Int.reduceToNat, Int.reduceBEq, Int.reduceBNe, Int.reduceEq, Int.reduceNe, Int.toNat_zero, Int.toNat_one, bne_self_eq_false, Nat.reduceMul, Nat.zero_mul, Nat.mul_one, Nat.one_mul, Nat.reduceSub, Int.cast_ofNat_Int, Int.toNat_natCast]
    refine DCallQ.pure 102 (mod_ S t.num (by omega) (by omega)) rfl ?_
    simp (config := { maxSteps := 2000000 }) only [go_sem, Nat.reduceBEq, Nat.reduceAdd, Nat.reduceLT, Nat.reduceLeDiff, Nat.reduceEqDiff, reduceCtorEq, Int.reduceAdd, Int.reduceSub, Int.reduceNeg, Int.reduceLE, Int.reduceLT, Int.reduceToNat, Int.reduceBEq, Int.reduceBNe, Int.reduceEq, Int.reduceNe, Int.toNat_zero, Int.toNat_one, bne_self_eq_false, Nat.reduceMul, Nat.zero_mul, Nat.mul_one, Nat.one_mul, Nat.reduceSub, Int.cast_ofNat_Int, Int.toNat_natCast]
    simp only [v1, v2, v3, v4, bor_, band_]
    simp only [Int.reduceBEq, cond_false, cond_true] at hR
    cases hc : (decide (0 < S % t.num) || decide (0 < f)) with
    | true => rw [hc] at hR; exact RetQ.int hR rfl ⟨rfl, trivial⟩ (by simp)
    | false => rw [hc] at hR; exact RetQ.int hR rfl ⟨rfl, trivial⟩ (by simp)
  · refine Sm.dgo 102 9 mix (by decide +kernel) (by decide +kernel) ?_
    simp (config := { maxSteps := 2000000 }) only [go_sem, Nat.reduceBEq, Nat.reduceAdd, Nat.reduceLT, Nat.reduceLeDiff, Nat.reduceEqDiff, reduceCtorEq, Int.reduceAdd, Int.reduceSub, Int.reduceNeg, Int.reduceLE, Int.reduceLT, Int.reduceToNat, Int.reduceBEq, Int.reduceBNe, Int.reduceEq, Int.reduceNe, Int.toNat_zero, Int.toNat_one, bne_self_eq_false, Nat.reduceMul, Nat.zero_mul, Nat.mul_one, Nat.one_mul, Nat.reduceSub, Int.cast_ofNat_Int, Int.toNat_natCast]
    refine DCallQ.pure 102 (floor_ S t.num (by omega) (by omega) (by omega) (by omega)) rfl ?_
    simp (config := { maxSteps := 2000000 }) only [go_sem, Nat.reduceBEq, Nat.reduceAdd, Nat.reduceLT, Nat.reduceLeDiff, Nat.reduceEqDiff, reduceCtorEq, Int.reduceAdd, Int.reduceSub, Int.reduceNeg, Int.reduceLE, Int.reduceLT, Int.reduceToNat, Int.reduceBEq, Int.reduceBNe, Int.reduceEq, Int.reduceNe, Int.toNat_zero, Int.toNat_one, bne_self_eq_false, Nat.reduceMul, Nat.zero_mul, Nat.mul_one, Nat.one_mul, Nat.reduceSub, Int.cast_ofNat_Int, Int.toNat_natCast]
    refine DCallQ.pure 102 (mod_ S t.num (by omega) (by omega)) rfl ?_
    simp (config := { maxSteps := 2000000 }) only [go_sem, Nat.reduceBEq, Nat.reduceAdd, Nat.reduceLT, Nat.reduceLeDiff, Nat.reduceEqDiff, reduceCtorEq, Int.reduceAdd, Int.reduceSub, Int.reduceNeg, Int.reduceLE, Int.reduceLT, Int.reduceToNat, Int.reduceBEq, Int.reduceBNe, Int.reduceEq, Int.reduceNe, Int.toNat_zero, Int.toNat_one, bne_self_eq_false, Nat.reduceMul, Nat.zero_mul, Nat.mul_one, Nat.one_mul, Nat.reduceSub, Int.cast_ofNat_Int, Int.toNat_natCast]
    simp only [v1, v2, v3, v4, bor_, band_]
    simp only [Int.reduceBEq, cond_false, cond_true] at hR
    refine ⟨fun h1 => ⟨h1, fun h2 => by rw [h1, h2]; rfl⟩, ?_⟩
    cases hc : (decide (t.num ≤ 2 * (S % t.num)) || ((2 * (S % t.num) == t.num - 1) && decide (d ≤ 2 * f))) with
    | true => rw [hc] at hR; exact RetQ.int hR rfl ⟨rfl, trivial⟩ (by simp)
    | false => rw [hc] at hR; exact RetQ.int hR rfl ⟨rfl, trivial⟩ (by simp)
end Go.Proofs.Ytcdclmelnnbdnaa.Fx