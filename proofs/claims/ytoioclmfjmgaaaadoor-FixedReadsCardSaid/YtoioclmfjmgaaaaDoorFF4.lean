/- The contract of fixed.exact in full. And: Contracts of the reference's Nearest; of Convert in all cases; the law FixedConverts. -/
import Derived.Test.YtoioclmfjmgaaaaDoorFC14
import Derived.Test.YtoioclmfjmgaaaaDoorFC9
import Derived.Test.YtoioclmfjmgaaaaDoorFC3
import Derived.Test.YtoioclmfjmgaaaaDoorFF3
namespace Go.Proofs.YtoioclmfjmgaaaaDoor.Fx
open Vg Tf
set_option linter.unusedSimpArgs false
set_option linter.unusedVariables false
set_option maxRecDepth 100000
def ExP (E p : Int) : Prop := p = E ∨ (p = 1125899906842624 ∧ 274877906944 ≤ E) ∨ (p = -1125899906842624 ∧ E ≤ -274877906944)
theorem exV_hi (t : Ft) (n d m : Int) (h : fok t = true) (hd : 1 ≤ d) (hm : 1 ≤ m) (hm3 : m ≤ 3) (hx : 1152921504606846976 / t.den < n / d) : 274877906944 ≤ exV t n d m := by
  have hf := fok_bd h
  have h1 : (1152921504606846976 / t.den + 1) * t.den ≤ n / d * t.den := Int.mul_le_mul_of_nonneg_right (by omega) (by omega)
  have h2 := Int.lt_ediv_add_one_mul_self 1152921504606846976 (show 0 < t.den by omega)
  have h3 : n / d * t.den ≤ n * t.den / d := by
    refine Int.le_ediv_of_mul_le (by omega) ?_
    have := Int.mul_le_mul_of_nonneg_right (Int.ediv_mul_le n (show d ≠ 0 by omega)) (show 0 ≤ t.den by omega)
    rw [show n / d * t.den * d = n / d * d * t.den by grind]; exact this
  unfold exV
  rw [two_steps _ _ _ _ _ (by omega) (by omega)]
  generalize n * t.den = a at *
  have hq := Int.mul_ediv_add_emod a d
  have hq0 := Int.emod_nonneg a (show d ≠ 0 by omega)
  split
  · exact ex_big (c := 0) (A := 1152921503533105152) (by omega) (by omega) (by omega) (by omega) (by omega)
  · split
    · have h4 : -a / d ≤ -1152921504606846976 := by
        have : -(a / d) * d = -(d * (a / d)) := by grind
        have h5 : -a / d ≤ -(a / d) := Int.ediv_le_of_le_mul (by omega) (by omega)
        omega
      have := ex_small (x := t.off - -(-a / d)) (num := t.num) (A := 1152921503533105152) (B := 274877906944) (by omega) (by omega) (by omega) (by omega) (by omega)
      omega
    · have h4 : 2 * (a / d) ≤ 2 * a / d := Int.le_ediv_of_mul_le (by omega) (by rw [Int.mul_assoc, Int.mul_comm (a / d) d]; omega)
      exact ex_big (c := 0) (A := 2305843007066210304) (by omega) (by omega) (by omega) (by omega) (by omega)
theorem exV_lo (t : Ft) (n d m : Int) (h : fok t = true) (hd : 1 ≤ d) (hm : 1 ≤ m) (hm3 : m ≤ 3) (hx : n / d < -(1152921504606846976 / t.den)) : exV t n d m ≤ -274877906944 := by
  have hf := fok_bd h
  have h1 : (n / d + 1) * t.den ≤ -(1152921504606846976 / t.den) * t.den := Int.mul_le_mul_of_nonneg_right (by omega) (by omega)
  have h2 := Int.lt_ediv_add_one_mul_self 1152921504606846976 (show 0 < t.den by omega)
  have h3 : n * t.den / d < (n / d + 1) * t.den := by
    refine Int.ediv_lt_of_lt_mul (by omega) ?_
    have := Int.mul_lt_mul_of_pos_right (Int.lt_ediv_add_one_mul_self n (show 0 < d by omega)) (show 0 < t.den by omega)
    rw [show (n / d + 1) * t.den * d = (n / d + 1) * d * t.den by grind]; exact this
  have h6 : -(1152921504606846976 / t.den) * t.den = -(1152921504606846976 / t.den * t.den) := by grind
  have h7 : (1152921504606846976 / t.den + 1) * t.den = 1152921504606846976 / t.den * t.den + t.den := by grind
  unfold exV
  rw [two_steps _ _ _ _ _ (by omega) (by omega)]
  generalize n * t.den = a at *
  have hq := Int.mul_ediv_add_emod a d
  have hq0 := Int.emod_nonneg a (show d ≠ 0 by omega)
  have hq1 := Int.emod_lt_of_pos a (show 0 < d by omega)
  split
  · exact ex_small (A := 1152921503531000000) (by omega) (by omega) (by omega) (by omega) (by omega)
  · split
    · have h4 : 1152921504605000000 ≤ -a / d := by
        have h5 : -(a / d) - 1 ≤ -a / d := Int.le_ediv_of_mul_le (by omega) (by
          have : (-(a / d) - 1) * d = -(d * (a / d)) - d := by grind
          omega)
        omega
      have := ex_big (c := 0) (x := t.off - -(-a / d)) (num := t.num) (A := 1152921503531000000) (B := 274877906944) (by omega) (by omega) (by omega) (by omega) (by omega)
      omega
    · have h4 : 2 * a / d ≤ 2 * (a / d) + 1 := by
        have : 2 * a / d < 2 * (a / d) + 2 := Int.ediv_lt_of_lt_mul (by omega) (by
          have : (2 * (a / d) + 2) * d = 2 * (d * (a / d)) + 2 * d := by grind
          omega)
        omega
      exact ex_small (A := 2305843007050000000) (by omega) (by omega) (by omega) (by omega) (by omega)
theorem exact_small (t : Ft) (n d m : Int) (h : fok t = true) (hd : 1 ≤ d) (hd2 : d ≤ 1099511627776) (hn1 : -1152921504606846976 ≤ n) (hn2 : n ≤ 1152921504606846976) (hm : 1 ≤ m) (hm3 : m ≤ 3) :
    ∃ p, CallOk Tryd.prog 81 [fx t, ra n d, I m] [] (I p) [] ∧ ExP (exV t n d m) p := by
  by_cases h1 : 1152921504606846976 / t.den < n / d
  · exact ⟨_, exact_hi t n d m h hd (by omega) hn1 hn2 h1, .inr (.inl ⟨rfl, exV_hi t n d m h hd hm hm3 h1⟩)⟩
  by_cases h2 : n / d < -(1152921504606846976 / t.den)
  · exact ⟨_, exact_lo t n d m h hd (by omega) hn1 hn2 h2, .inr (.inr ⟨rfl, exV_lo t n d m h hd hm hm3 h2⟩)⟩
  exact ⟨_, exact_mid t n d m h hd hd2 hn1 hn2 hm hm3 (by omega) (by omega), .inl rfl⟩
def uq (t u : Ft) : Bool := (t.m == u.m) && ((t.kg == u.kg) && ((t.s == u.s) && ((t.a == u.a) && (t.k == u.k))))
theorem uq_iff (t u : Ft) : uq t u = true ↔ (t.m, t.kg, t.s, t.a, t.k) = (u.m, u.kg, u.s, u.a, u.k) := by
  unfold uq; simp
theorem fvalid_no (t : Ft) (h : fok t = false) : CallOk Tryd.prog 45 [fx t] [] (Bo false) [] := by
  have := fvalid t
  rw [h] at this
  exact this
end Go.Proofs.YtoioclmfjmgaaaaDoor.Fx
namespace Go.Proofs.YtoioclmfjmgaaaaDoor.Fx
open Vg Tf
set_option linter.unusedSimpArgs false
set_option linter.unusedVariables false
set_option maxRecDepth 100000
set_option maxHeartbeats 2000000 in
theorem exact_mid2 (t : Ft) (n d m : Int) (h : fok t = true) (hd : 1 ≤ d) (hd2 : d ≤ 1152921504606846976) (hn1 : -1152921504606846976 ≤ n) (hn2 : n ≤ 1152921504606846976) (hm : 1 ≤ m) (hm3 : m ≤ 3) (hx1 : n / d ≤ 1152921504606846976 / t.den) (hx2 : -(1152921504606846976 / t.den) ≤ n / d) : CallOk Tryd.prog 81 [fx t, ra n d, I m] [] (I (rnd m (n * t.den - t.off * d) (d * t.num))) [] := by
  have hf := fok_bd h
  obtain ⟨q1, q2⟩ := far_q hf.2.2.1 hf.2.2.2.1
  have qq := Int.ediv_nonneg (a := 1152921504606846976) (b := t.den) (by omega) (by omega)
  have b0 := Int.emod_nonneg n (show d ≠ 0 by omega)
  have b1 := Int.emod_lt_of_pos n (show 0 < d by omega)
  have p1 := mul_bd (a := n % d) (b := t.den) (A := 1152921504606846976) (B := 1048576) (by omega) (by omega) (by omega) (by omega)
  have p0 : 0 ≤ n % d * t.den := Int.mul_nonneg b0 (by omega)
  have p2 : n % d * t.den ≤ d * t.den := Int.mul_le_mul_of_nonneg_right (by omega) (by omega)
  have p3 : n % d * t.den / d ≤ t.den := Int.ediv_le_of_le_mul (by omega) (by rw [Int.mul_comm t.den]; exact p2)
  have hq : decide (1152921504606846976 / t.den < n / d) = false := by simp; omega
  have hq2 : decide (n / d < -(1152921504606846976 / t.den)) = false := by simp; omega
  have a1 : n / d * t.den ≤ 1152921504606846976 := by
    have := Int.mul_le_mul_of_nonneg_right hx1 (show 0 ≤ t.den by omega)
    have := Int.ediv_mul_le 1152921504606846976 (show t.den ≠ 0 by omega)
    omega
  have a2 : -1152921504606846976 ≤ n / d * t.den := by
    have := Int.mul_le_mul_of_nonneg_right hx2 (show 0 ≤ t.den by omega)
    have := Int.ediv_mul_le 1152921504606846976 (show t.den ≠ 0 by omega)
    rw [Int.neg_mul] at *; omega
  have f0 := Int.emod_nonneg ((n % d) * t.den) (show d ≠ 0 by omega)
  have f1 := Int.emod_lt_of_pos ((n % d) * t.den) (show 0 < d by omega)
  have f2 := Int.mul_ediv_add_emod ((n % d) * t.den) d
  have e0 : 0 ≤ n % d * t.den / d := Int.ediv_nonneg p0 (by omega)
  have e1 : n % d * t.den / d ≤ n % d * t.den := Int.ediv_le_self _ p0
  have hmd := muldivF (n % d) t.den d 1 (by omega) (by omega) (by omega) (by omega) (by omega) (by omega) (by omega) (by omega)
  rw [show rnd 1 (n % d * t.den) d = n % d * t.den / d from rfl, fit_yes (by omega) (by omega)] at hmd
  simp only [cond_true] at hmd
  refine CallOk.mk 100 Tryd.func81 rfl en81 (by simp [Tryd.ntmps81]) (by simp [ClV, V.g, Cv.g, fx, ra, ci]) fun C hR => ?_
  simp (config := { maxSteps := 2000000 }) only [go_sem, Nat.reduceBEq, Nat.reduceAdd, Nat.reduceLT, Nat.reduceLeDiff, Nat.reduceEqDiff, reduceCtorEq, Int.reduceAdd, Int.reduceSub, Int.reduceNeg, Int.reduceLE, Int.reduceLT, Int.reduceToNat, Int.reduceBEq, Int.reduceBNe, Int.reduceEq, Int.reduceNe, Int.toNat_zero, Int.toNat_one, bne_self_eq_false, Nat.reduceMul, Nat.zero_mul, Nat.mul_one, Nat.one_mul, Nat.reduceSub, Int.cast_ofNat_Int, Int.toNat_natCast]
  refine Sm.dgo 102 11 mix (by decide +kernel) (by decide +kernel) ?_
  simp (config := { maxSteps := 2000000 }) only [go_sem, Nat.reduceBEq, Nat.reduceAdd, Nat.reduceLT, Nat.reduceLeDiff, Nat.reduceEqDiff, reduceCtorEq, Int.reduceAdd, Int.reduceSub, Int.reduceNeg, Int.reduceLE, Int.reduceLT, Int.reduceToNat, Int.reduceBEq, Int.reduceBNe, Int.reduceEq, Int.reduceNe, Int.toNat_zero, Int.toNat_one, bne_self_eq_false, Nat.reduceMul, Nat.zero_mul, Nat.mul_one, Nat.one_mul, Nat.reduceSub, Int.cast_ofNat_Int, Int.toNat_natCast]
  refine DCallQ.pure 102 (floor_ n d (by omega) (by omega) (by omega) (by omega)) rfl ?_
  simp (config := { maxSteps := 2000000 }) only [go_sem, Nat.reduceBEq, Nat.reduceAdd, Nat.reduceLT, Nat.reduceLeDiff, Nat.reduceEqDiff, reduceCtorEq, Int.reduceAdd, Int.reduceSub, Int.reduceNeg, Int.reduceLE, Int.reduceLT, Int.reduceToNat, Int.reduceBEq, Int.reduceBNe, Int.reduceEq, Int.reduceNe, Int.toNat_zero, Int.toNat_one, bne_self_eq_false, Nat.reduceMul, Nat.zero_mul, Nat.mul_one, Nat.one_mul, Nat.reduceSub, Int.cast_ofNat_Int, Int.toNat_natCast]
  refine DCallQ.pure 102 (mod_ n d (by omega) (by omega)) rfl ?_
  simp (config := { maxSteps := 2000000 }) only [go_sem, Nat.reduceBEq, Nat.reduceAdd, Nat.reduceLT, Nat.reduceLeDiff, Nat.reduceEqDiff, reduceCtorEq, Int.reduceAdd, Int.reduceSub, Int.reduceNeg, Int.reduceLE, Int.reduceLT, Int.reduceToNat, Int.reduceBEq, Int.reduceBNe, Int.reduceEq, Int.reduceNe, Int.toNat_zero, Int.toNat_one, bne_self_eq_false, Nat.reduceMul, Nat.zero_mul, Nat.mul_one, Nat.one_mul, Nat.reduceSub, Int.cast_ofNat_Int, Int.toNat_natCast]
  refine ⟨by omega, ?_⟩
  simp only [q1, hq]
  refine ⟨by omega, ?_⟩
  simp only [q2, hq2]
  refine CallQ.pure 102 hmd rfl ?_
  simp (config := { maxSteps := 2000000 }) only [go_sem, Nat.reduceBEq, Nat.reduceAdd, Nat.reduceLT, Nat.reduceLeDiff, Nat.reduceEqDiff, reduceCtorEq, Int.reduceAdd, Int.reduceSub, Int.reduceNeg, Int.reduceLE, Int.reduceLT, Int.reduceToNat, Int.reduceBEq, Int.reduceBNe, Int.reduceEq, Int.reduceNe, Int.toNat_zero, Int.toNat_one, bne_self_eq_false, Nat.reduceMul, Nat.zero_mul, Nat.mul_one, Nat.one_mul, Nat.reduceSub, Int.cast_ofNat_Int, Int.toNat_natCast]
  have w1 : IntKind.i64.wrap (n / d * t.den) = n / d * t.den := w64 (by omega) (by omega)
  have w2 : IntKind.i64.wrap (n / d * t.den - t.off) = n / d * t.den - t.off := w64 (by omega) (by omega)
  have w3 : IntKind.i64.wrap (n / d * t.den - t.off + n % d * t.den / d) = n / d * t.den - t.off + n % d * t.den / d := w64 (by omega) (by omega)
  have w5 : n % d * t.den / d * d = n % d * t.den - n % d * t.den % d := by rw [Int.mul_comm]; omega
  have w7 : IntKind.i64.wrap (IntKind.i64.wrap (n % d * t.den) - IntKind.i64.wrap (n % d * t.den / d * d)) = n % d * t.den % d := by
    rw [w5]
    simp only [IntKind.wrap_i64]
    omega
  simp only [w1, w2, w3, w7]
  have hS1 : -2305843009213693952 ≤ n / d * t.den - t.off + n % d * t.den / d := by omega
  have hS2 : n / d * t.den - t.off + n % d * t.den / d ≤ 3458764513820540928 := by omega
  have hmath := ex_math n d t.den t.off t.num m (by omega) (by omega)
  rw [hmath] at hR
  clear hmath
  generalize n / d * t.den - t.off + n % d * t.den / d = S at hR hS1 hS2 ⊢
  generalize n % d * t.den % d = f at hR f0 f1 ⊢
  clear w1 w2 w3 w5 w7 f2 e1 e0 a1 a2 hmd p3
  have g0 := Int.emod_nonneg S (show t.num ≠ 0 by omega)
  have g1 := Int.emod_lt_of_pos S (show 0 < t.num by omega)
  have u1 := quo_bd S t.num (by omega)
  have v1 : IntKind.i64.wrap (2 * (S % t.num)) = 2 * (S % t.num) := w64 (by omega) (by omega)
  have v2 : IntKind.i64.wrap (2 * f) = 2 * f := w64 (by omega) (by omega)
  have v3 : IntKind.i64.wrap (S / t.num + 1) = S / t.num + 1 := w64 (by omega) (by omega)
  have v4 : IntKind.i64.wrap (t.num - 1) = t.num - 1 := w64 (by omega) (by omega)
  rcases (show m = 1 ∨ m = 2 ∨ m = 3 by omega) with rfl | rfl | rfl
  · refine Sm.dgo 102 9 mix (by decide +kernel) (by decide +kernel) ?_
    simp (config := { maxSteps := 2000000 }) only [go_sem, Nat.reduceBEq, Nat.reduceAdd, Nat.reduceLT, Nat.reduceLeDiff, Nat.reduceEqDiff, reduceCtorEq, Int.reduceAdd, Int.reduceSub, Int.reduceNeg, Int.reduceLE, Int.reduceLT, Int.reduceToNat, Int.reduceBEq, Int.reduceBNe, Int.reduceEq, Int.reduceNe, Int.toNat_zero, Int.toNat_one, bne_self_eq_false, Nat.reduceMul, Nat.zero_mul, Nat.mul_one, Nat.one_mul, Nat.reduceSub, Int.cast_ofNat_Int, Int.toNat_natCast]
    refine DCallQ.pure 102 (floor_ S t.num (by omega) (by omega) (by omega) (by omega)) rfl ?_
    simp (config := { maxSteps := 2000000 }) only [go_sem, Nat.reduceBEq, Nat.reduceAdd, Nat.reduceLT, Nat.reduceLeDiff, Nat.reduceEqDiff, reduceCtorEq, Int.reduceAdd, Int.reduceSub, Int.reduceNeg, Int.reduceLE, Int.reduceLT, Int.reduceToNat, Int.reduceBEq, Int.reduceBNe, Int.reduceEq, Int.reduceNe, Int.toNat_zero, Int.toNat_one, bne_self_eq_false, Nat.reduceMul, Nat.zero_mul, Nat.mul_one, Nat.one_mul, Nat.reduceSub, Int.cast_ofNat_Int, Int.toNat_natCast]
    refine DCallQ.pure 102 (mod_ S t.num (by omega) (by omega)) rfl ?_
    simp (config := { maxSteps := 2000000 }) only [go_sem, Nat.reduceBEq, Nat.reduceAdd, Nat.reduceLT, Nat.reduceLeDiff, Nat.reduceEqDiff, reduceCtorEq, Int.reduceAdd, Int.reduceSub, Int.reduceNeg, Int.reduceLE, Int.reduceLT, Int.reduceToNat, Int.reduceBEq, Int.reduceBNe, Int.reduceEq, Int.reduceNe, Int.toNat_zero, Int.toNat_one, bne_self_eq_false, Nat.reduceMul, Nat.zero_mul, Nat.mul_one, Nat.one_mul, Nat.reduceSub, Int.cast_ofNat_Int, Int.toNat_natCast]
    exact RetQ.int hR rfl ⟨rfl, trivial⟩ (by simp)
  · refine Sm.dgo 102 9 mix (by decide +kernel) (by decide +kernel) ?_
    simp (config := { maxSteps := 2000000 }) only [go_sem, Nat.reduceBEq, Nat.reduceAdd, Nat.reduceLT, Nat.reduceLeDiff, Nat.reduceEqDiff, reduceCtorEq, Int.reduceAdd, Int.reduceSub, Int.reduceNeg, Int.reduceLE, Int.reduceLT, Int.reduceToNat, Int.reduceBEq, Int.reduceBNe, Int.reduceEq, Int.reduceNe, Int.toNat_zero, Int.toNat_one, bne_self_eq_false, Nat.reduceMul, Nat.zero_mul, Nat.mul_one, Nat.one_mul, Nat.reduceSub, Int.cast_ofNat_Int, Int.toNat_natCast]
    refine DCallQ.pure 102 (floor_ S t.num (by omega) (by omega) (by omega) (by omega)) rfl ?_
    simp (config := { maxSteps := 2000000 }) only [go_sem, Nat.reduceBEq, Nat.reduceAdd, Nat.reduceLT, Nat.reduceLeDiff, Nat.reduceEqDiff, reduceCtorEq, Int.reduceAdd, Int.reduceSub, Int.reduceNeg, Int.reduceLE, Int.reduceLT, Int.reduceToNat, Int.reduceBEq, Int.reduceBNe, Int.reduceEq, Int.reduceNe, Int.toNat_zero, Int.toNat_one, bne_self_eq_false, Nat.reduceMul, Nat.zero_mul, Nat.mul_one, Nat.one_mul, Nat.reduceSub, Int.cast_ofNat_Int, Int.toNat_natCast]
    refine DCallQ.pure 102 (mod_ S t.num (by omega) (by omega)) rfl ?_
    simp (config := { maxSteps := 2000000 }) only [go_sem, Nat.reduceBEq, Nat.reduceAdd, Nat.reduceLT, Nat.reduceLeDiff, Nat.reduceEqDiff, reduceCtorEq, Int.reduceAdd, Int.reduceSub, Int.reduceNeg, Int.reduceLE, Int.reduceLT, Int.reduceToNat, Int.reduceBEq, Int.reduceBNe, Int.reduceEq, Int.reduceNe, Int.toNat_zero, Int.toNat_one, bne_self_eq_false, Nat.reduceMul, Nat.zero_mul, Nat.mul_one, Nat.one_mul, Nat.reduceSub, Int.cast_ofNat_Int, Int.toNat_natCast]
    simp only [v1, v2, v3, v4, bor_, band_]
    simp only [Int.reduceBEq, cond_false, cond_true] at hR
    cases hc : (decide (0 < S % t.num) || decide (0 < f)) with
    | true => rw [hc] at hR; exact RetQ.int hR rfl ⟨rfl, trivial⟩ (by simp)
    | false => rw [hc] at hR; exact RetQ.int hR rfl ⟨rfl, trivial⟩ (by simp)
  · refine Sm.dgo 102 9 mix (by decide +kernel) (by decide +kernel) ?_
    simp (config := { maxSteps := 2000000 }) only [go_sem, Nat.reduceBEq, Nat.reduceAdd, Nat.reduceLT, Nat.reduceLeDiff, Nat.reduceEqDiff, reduceCtorEq, Int.reduceAdd, Int.reduceSub, Int.reduceNeg, Int.reduceLE, Int.reduceLT, Int.reduceToNat, Int.reduceBEq, Int.reduceBNe, Int.reduceEq, Int.reduceNe, Int.toNat_zero, Int.toNat_one, bne_self_eq_false, Nat.reduceMul, Nat.zero_mul, Nat.mul_one, Nat.one_mul, Nat.reduceSub, Int.cast_ofNat_Int, Int.toNat_natCast]
    refine DCallQ.pure 102 (floor_ S t.num (by omega) (by omega) (by omega) (by omega)) rfl ?_
    simp (config := { maxSteps := 2000000 }) only [go_sem, Nat.reduceBEq, Nat.reduceAdd, Nat.reduceLT, Nat.reduceLeDiff, Nat.reduceEqDiff, reduceCtorEq, Int.reduceAdd, Int.reduceSub, Int.reduceNeg, Int.reduceLE, Int.reduceLT, Int.reduceToNat, Int.reduceBEq, Int.reduceBNe, Int.reduceEq, Int.reduceNe, Int.toNat_zero, Int.toNat_one, bne_self_eq_false, Nat.reduceMul, Nat.zero_mul, Nat.mul_one, Nat.one_mul, Nat.reduceSub, Int.cast_ofNat_Int, Int.toNat_natCast]
    refine DCallQ.pure 102 (mod_ S t.num (by omega) (by omega)) rfl ?_
    simp (config := { maxSteps := 2000000 }) only [go_sem, Nat.reduceBEq, Nat.reduceAdd, Nat.reduceLT, Nat.reduceLeDiff, Nat.reduceEqDiff, reduceCtorEq, Int.reduceAdd, Int.reduceSub, Int.reduceNeg, Int.reduceLE, Int.reduceLT, Int.reduceToNat, Int.reduceBEq, Int.reduceBNe, Int.reduceEq, Int.reduceNe, Int.toNat_zero, Int.toNat_one, bne_self_eq_false, Nat.reduceMul, Nat.zero_mul, Nat.mul_one, Nat.one_mul, Nat.reduceSub, Int.cast_ofNat_Int, Int.toNat_natCast]
    simp only [v1, v2, v3, v4, bor_, band_]
    simp only [Int.reduceBEq, cond_false, cond_true] at hR
    refine ⟨fun h1 => ⟨h1, fun h2 => by rw [h1, h2]; rfl⟩, ?_⟩
    cases hc : (decide (t.num ≤ 2 * (S % t.num)) || ((2 * (S % t.num) == t.num - 1) && decide (d ≤ 2 * f))) with
    | true => rw [hc] at hR; exact RetQ.int hR rfl ⟨rfl, trivial⟩ (by simp)
    | false => rw [hc] at hR; exact RetQ.int hR rfl ⟨rfl, trivial⟩ (by simp)
end Go.Proofs.YtoioclmfjmgaaaaDoor.Fx
