/- Contracts of package fixed: exact, Raw, Nearest, Convert. -/
import Derived.Test.YtoioclmfjmgaaaaDoorFC2
namespace Go.Proofs.YtoioclmfjmgaaaaDoor.Fx
open Vg Tf
set_option linter.unusedSimpArgs false
set_option linter.unusedVariables false
set_option maxRecDepth 100000
/-- The exact raw value of a ratio, rounded; a number out of all limits if it is very great. -/
def exF (t : Ft) (n d m : Int) : Int :=
  if 1152921504606846976 / t.den < n / d then 1125899906842624 else if n / d < -(1152921504606846976 / t.den) then -1125899906842624
  else rnd m (n * t.den - t.off * d) (d * t.num)
theorem ex_math (n d den off num m : Int) (hd : 0 < d) (hnum : 0 < num) :
    rnd m (n * den - off * d) (d * num) = ((n / d) * den - off + (n % d) * den / d) / num +
      (if (bif m == 1 then false else bif m == 2 then (decide (0 < ((n / d) * den - off + (n % d) * den / d) % num) || decide (0 < (n % d) * den % d))
        else (decide (num ≤ 2 * (((n / d) * den - off + (n % d) * den / d) % num)) || ((2 * (((n / d) * den - off + (n % d) * den / d) % num) == num - 1) && decide (d ≤ 2 * ((n % d) * den % d))))) = true then 1 else 0) := by
  have h1 := Int.mul_ediv_add_emod n d
  have h2 := Int.mul_ediv_add_emod ((n % d) * den) d
  have h3 := Int.mul_ediv_add_emod ((n / d) * den - off + (n % d) * den / d) num
  have f0 := Int.emod_nonneg ((n % d) * den) (show d ≠ 0 by omega)
  have f1 := Int.emod_lt_of_pos ((n % d) * den) hd
  have g0 := Int.emod_nonneg ((n / d) * den - off + (n % d) * den / d) (show num ≠ 0 by omega)
  have g1 := Int.emod_lt_of_pos ((n / d) * den - off + (n % d) * den / d) hnum
  have hY : 0 < d * num := Int.mul_pos hd hnum
  rw [rnd_pos m _ _ hY]
  generalize hS : (n / d) * den - off + (n % d) * den / d = S at *
  generalize hf : (n % d) * den % d = f at *
  generalize hh : S % num = h at *
  generalize hr : S / num = r at *
  have hX : n * den - off * d = d * S + f := by
    rw [← hS]
    generalize n / d = a at *
    generalize n % d = b at *
    generalize b * den / d = e at *
    rw [← h1]
    grind
  have hX2 : n * den - off * d = (d * num) * r + (d * h + f) := by
    rw [hX, ← h3]; grind
  have hb : d * h + d ≤ d * num := by
    have := Int.mul_le_mul_of_nonneg_left (show h + 1 ≤ num by omega) (show 0 ≤ d by omega)
    rw [Int.mul_add] at this; omega
  have hb0 : 0 ≤ d * h := Int.mul_nonneg (by omega) g0
  have e1 : (n * den - off * d) / (d * num) = r := ediv_eq hY (by omega) (by omega)
  have e2 : (n * den - off * d) % (d * num) = d * h + f := by
    have := Int.mul_ediv_add_emod (n * den - off * d) (d * num)
    rw [e1] at this; omega
  rw [e1, e2]
  congr 1
  have k2 : decide (0 < d * h + f) = (decide (0 < h) || decide (0 < f)) := by
    rw [Bool.eq_iff_iff]; simp only [Bool.or_eq_true, decide_eq_true_eq]
    constructor
    · intro hp
      rcases Int.lt_or_le 0 h with h' | h'
      · exact .inl h'
      · have : h = 0 := by omega
        rw [this] at hp; right; omega
    · rintro (hp | hp)
      · have := Int.mul_pos hd hp; omega
      · omega
  have k3 : decide (d * num ≤ 2 * (d * h + f)) = (decide (num ≤ 2 * h) || ((2 * h == num - 1) && decide (d ≤ 2 * f))) := by
    rw [Bool.eq_iff_iff]; simp only [Bool.or_eq_true, Bool.and_eq_true, decide_eq_true_eq, beq_iff_eq]
    have hz : d * (2 * h) = 2 * (d * h) := by grind
    rcases Int.lt_or_le (2 * h) (num - 1) with h' | h'
    · have := Int.mul_le_mul_of_nonneg_left (show 2 * h + 2 ≤ num by omega) (show 0 ≤ d by omega)
      rw [Int.mul_add] at this
      constructor <;> intro hq <;> omega
    · by_cases h'' : 2 * h = num - 1
      · have : d * num = 2 * (d * h) + d := by
          rw [show num = 2 * h + 1 by omega, Int.mul_add]; omega
        constructor
        · intro hq; right; exact ⟨h'', by omega⟩
        · intro hq; rcases hq with hq | hq <;> omega
      · have := Int.mul_le_mul_of_nonneg_left (show num ≤ 2 * h by omega) (show 0 ≤ d by omega)
        constructor
        · intro hq; left; omega
        · intro hq; omega
  rw [k2, k3]
theorem bor_ (a b : Bool) : (bif a then true else b) = (a || b) := by cases a <;> rfl
theorem band_ (a b : Bool) : (bif a then b else false) = (a && b) := by cases a <;> rfl
theorem far_q {den : Int} (h1 : 1 ≤ den) (h2 : den ≤ 1048576) : IntKind.i64.wrap (Int.tdiv 1152921504606846976 den) = 1152921504606846976 / den ∧ IntKind.i64.wrap (Int.tdiv (-1152921504606846976) den) = -(1152921504606846976 / den) := by
  have e1 : Int.tdiv 1152921504606846976 den = 1152921504606846976 / den := Int.tdiv_eq_ediv_of_nonneg (by omega)
  have e2 : Int.tdiv (-1152921504606846976) den = -(1152921504606846976 / den) := by rw [Int.neg_tdiv, e1]
  have := quo_bd 1152921504606846976 den (by omega)
  rw [e1, e2]
  exact ⟨w64 (by omega) (by omega), w64 (by omega) (by omega)⟩
theorem exact_hi (t : Ft) (n d m : Int) (h : fok t = true) (hd : 1 ≤ d) (hd2 : d ≤ 1152921504606846976) (hn1 : -1152921504606846976 ≤ n) (hn2 : n ≤ 1152921504606846976) (hx : 1152921504606846976 / t.den < n / d) : CallOk Tryd.prog 81 [fx t, ra n d, I m] [] (I 1125899906842624) [] := by
  have hf := fok_bd h
  obtain ⟨q1, q2⟩ := far_q hf.2.2.1 hf.2.2.2.1
  refine CallOk.mk 100 Tryd.func81 rfl en81 (by simp [Tryd.ntmps81]) (by simp [ClV, V.g, Cv.g, fx, ra, ci]) fun C hR => ?_
  simp (config := { maxSteps := 2000000 }) only [go_sem, Nat.reduceBEq, Nat.reduceAdd, Nat.reduceLT, Nat.reduceLeDiff, Nat.reduceEqDiff, reduceCtorEq, Int.reduceAdd, Int.reduceSub, Int.reduceNeg, Int.reduceLE, Int.reduceLT, Int.reduceToNat, Int.reduceBEq, Int.reduceBNe, Int.reduceEq, Int.reduceNe, Int.toNat_zero, Int.toNat_one, bne_self_eq_false, Nat.reduceMul, Nat.zero_mul, Nat.mul_one, Nat.one_mul, Nat.reduceSub, Int.cast_ofNat_Int, Int.toNat_natCast]
  refine Sm.dgo 102 11 mix (by decide +kernel) (by decide +kernel) ?_
  simp (config := { maxSteps := 2000000 }) only [go_sem, Nat.reduceBEq, Nat.reduceAdd, Nat.reduceLT, Nat.reduceLeDiff, Nat.reduceEqDiff, reduceCtorEq, Int.reduceAdd, Int.reduceSub, Int.reduceNeg, Int.reduceLE, Int.reduceLT, Int.reduceToNat, Int.reduceBEq, Int.reduceBNe, Int.reduceEq, Int.reduceNe, Int.toNat_zero, Int.toNat_one, bne_self_eq_false, Nat.reduceMul, Nat.zero_mul, Nat.mul_one, Nat.one_mul, Nat.reduceSub, Int.cast_ofNat_Int, Int.toNat_natCast]
  refine DCallQ.pure 102 (floor_ n d (by omega) (by omega) (by omega) (by omega)) rfl ?_
  simp (config := { maxSteps := 2000000 }) only [go_sem, Nat.reduceBEq, Nat.reduceAdd, Nat.reduceLT, Nat.reduceLeDiff, Nat.reduceEqDiff, reduceCtorEq, Int.reduceAdd, Int.reduceSub, Int.reduceNeg, Int.reduceLE, Int.reduceLT, Int.reduceToNat, Int.reduceBEq, Int.reduceBNe, Int.reduceEq, Int.reduceNe, Int.toNat_zero, Int.toNat_one, bne_self_eq_false, Nat.reduceMul, Nat.zero_mul, Nat.mul_one, Nat.one_mul, Nat.reduceSub, Int.cast_ofNat_Int, Int.toNat_natCast]
  refine DCallQ.pure 102 (mod_ n d (by omega) (by omega)) rfl ?_
  simp (config := { maxSteps := 2000000 }) only [go_sem, Nat.reduceBEq, Nat.reduceAdd, Nat.reduceLT, Nat.reduceLeDiff, Nat.reduceEqDiff, reduceCtorEq, Int.reduceAdd, Int.reduceSub, Int.reduceNeg, Int.reduceLE, Int.reduceLT, Int.reduceToNat, Int.reduceBEq, Int.reduceBNe, Int.reduceEq, Int.reduceNe, Int.toNat_zero, Int.toNat_one, bne_self_eq_false, Nat.reduceMul, Nat.zero_mul, Nat.mul_one, Nat.one_mul, Nat.reduceSub, Int.cast_ofNat_Int, Int.toNat_natCast]
  have hq : decide (1152921504606846976 / t.den < n / d) = true := by simpa using hx
  refine ⟨by omega, ?_⟩
  simp only [q1, hq]
  exact RetQ.int hR rfl ⟨rfl, trivial⟩ rfl
theorem exact_lo (t : Ft) (n d m : Int) (h : fok t = true) (hd : 1 ≤ d) (hd2 : d ≤ 1152921504606846976) (hn1 : -1152921504606846976 ≤ n) (hn2 : n ≤ 1152921504606846976) (hx : n / d < -(1152921504606846976 / t.den)) : CallOk Tryd.prog 81 [fx t, ra n d, I m] [] (I (-1125899906842624)) [] := by
  have hf := fok_bd h
  obtain ⟨q1, q2⟩ := far_q hf.2.2.1 hf.2.2.2.1
  have qq := Int.ediv_nonneg (a := 1152921504606846976) (b := t.den) (by omega) (by omega)
  refine CallOk.mk 100 Tryd.func81 rfl en81 (by simp [Tryd.ntmps81]) (by simp [ClV, V.g, Cv.g, fx, ra, ci]) fun C hR => ?_
  simp (config := { maxSteps := 2000000 }) only [go_sem, Nat.reduceBEq, Nat.reduceAdd, Nat.reduceLT, Nat.reduceLeDiff, Nat.reduceEqDiff, reduceCtorEq, Int.reduceAdd, Int.reduceSub, Int.reduceNeg, Int.reduceLE, Int.reduceLT, Int.reduceToNat, Int.reduceBEq, Int.reduceBNe, Int.reduceEq, Int.reduceNe, Int.toNat_zero, Int.toNat_one, bne_self_eq_false, Nat.reduceMul, Nat.zero_mul, Nat.mul_one, Nat.one_mul, Nat.reduceSub, Int.cast_ofNat_Int, Int.toNat_natCast]
  refine Sm.dgo 102 11 mix (by decide +kernel) (by decide +kernel) ?_
  simp (config := { maxSteps := 2000000 }) only [go_sem, Nat.reduceBEq, Nat.reduceAdd, Nat.reduceLT, Nat.reduceLeDiff, Nat.reduceEqDiff, reduceCtorEq, Int.reduceAdd, Int.reduceSub, Int.reduceNeg, Int.reduceLE, Int.reduceLT, Int.reduceToNat, Int.reduceBEq, Int.reduceBNe, Int.reduceEq, Int.reduceNe, Int.toNat_zero, Int.toNat_one, bne_self_eq_false, Nat.reduceMul, Nat.zero_mul, Nat.mul_one, Nat.one_mul, Nat.reduceSub, Int.cast_ofNat_Int, Int.toNat_natCast]
  refine DCallQ.pure 102 (floor_ n d (by omega) (by omega) (by omega) (by omega)) rfl ?_
  simp (config := { maxSteps := 2000000 }) only [go_sem, Nat.reduceBEq, Nat.reduceAdd, Nat.reduceLT, Nat.reduceLeDiff, Nat.reduceEqDiff, reduceCtorEq, Int.reduceAdd, Int.reduceSub, Int.reduceNeg, Int.reduceLE, Int.reduceLT, Int.reduceToNat, Int.reduceBEq, Int.reduceBNe, Int.reduceEq, Int.reduceNe, Int.toNat_zero, Int.toNat_one, bne_self_eq_false, Nat.reduceMul, Nat.zero_mul, Nat.mul_one, Nat.one_mul, Nat.reduceSub, Int.cast_ofNat_Int, Int.toNat_natCast]
  refine DCallQ.pure 102 (mod_ n d (by omega) (by omega)) rfl ?_
  simp (config := { maxSteps := 2000000 }) only [go_sem, Nat.reduceBEq, Nat.reduceAdd, Nat.reduceLT, Nat.reduceLeDiff, Nat.reduceEqDiff, reduceCtorEq, Int.reduceAdd, Int.reduceSub, Int.reduceNeg, Int.reduceLE, Int.reduceLT, Int.reduceToNat, Int.reduceBEq, Int.reduceBNe, Int.reduceEq, Int.reduceNe, Int.toNat_zero, Int.toNat_one, bne_self_eq_false, Nat.reduceMul, Nat.zero_mul, Nat.mul_one, Nat.one_mul, Nat.reduceSub, Int.cast_ofNat_Int, Int.toNat_natCast]
  have hq : decide (1152921504606846976 / t.den < n / d) = false := by simp; omega
  have hq2 : decide (n / d < -(1152921504606846976 / t.den)) = true := by simpa using hx
  refine ⟨by omega, ?_⟩
  simp only [q1, hq]
  refine ⟨by omega, ?_⟩
  simp only [q2, hq2]
  exact RetQ.int hR rfl ⟨rfl, trivial⟩ rfl
set_option maxHeartbeats 2000000 in
theorem exact_mid (t : Ft) (n d m : Int) (h : fok t = true) (hd : 1 ≤ d) (hd2 : d ≤ 1099511627776) (hn1 : -1152921504606846976 ≤ n) (hn2 : n ≤ 1152921504606846976) (hm : 1 ≤ m) (hm3 : m ≤ 3) (hx1 : n / d ≤ 1152921504606846976 / t.den) (hx2 : -(1152921504606846976 / t.den) ≤ n / d) : CallOk Tryd.prog 81 [fx t, ra n d, I m] [] (I (rnd m (n * t.den - t.off * d) (d * t.num))) [] := by
  have hf := fok_bd h
  obtain ⟨q1, q2⟩ := far_q hf.2.2.1 hf.2.2.2.1
  have qq := Int.ediv_nonneg (a := 1152921504606846976) (b := t.den) (by omega) (by omega)
  have b0 := Int.emod_nonneg n (show d ≠ 0 by omega)
  have b1 := Int.emod_lt_of_pos n (show 0 < d by omega)
  have p1 := mul_bd (a := n % d) (b := t.den) (A := 1099511627776) (B := 1048576) (by omega) (by omega) (by omega) (by omega)
  have p0 : 0 ≤ n % d * t.den := Int.mul_nonneg b0 (by omega)
  have p2 : n % d * t.den ≤ d * t.den := Int.mul_le_mul_of_nonneg_right (by omega) (by omega)
  have p3 : d * t.den ≤ d * 4611686018427387904 := Int.mul_le_mul_of_nonneg_left (by omega) (by omega)
  have hq : decide (1152921504606846976 / t.den < n / d) = false := by simp; omega
  have hq2 : decide (n / d < -(1152921504606846976 / t.den)) = false := by simp; omega
  have a1 : n / d * t.den ≤ 1152921504606846976 := by
    have := Int.mul_le_mul_of_nonneg_right hx1 (show 0 ≤ t.den by omega)
    have := Int.ediv_mul_le 1152921504606846976 (show t.den ≠ 0 by omega)
    omega
  have a2 : -1152921504606846976 ≤ n / d * t.den := by
    have := Int.mul_le_mul_of_nonneg_right hx2 (show 0 ≤ t.den by omega)
    have := Int.ediv_mul_le 1152921504606846976 (show t.den ≠ 0 by omega)
    rw [Int.neg_mul] at *; omega
  have f0 := Int.emod_nonneg ((n % d) * t.den) (show d ≠ 0 by omega)
  have f1 := Int.emod_lt_of_pos ((n % d) * t.den) (show 0 < d by omega)
  have f2 := Int.mul_ediv_add_emod ((n % d) * t.den) d
  have e0 : 0 ≤ n % d * t.den / d := Int.ediv_nonneg p0 (by omega)
  have e1 : n % d * t.den / d ≤ n % d * t.den := Int.ediv_le_self _ p0
  refine CallOk.mk 100 Tryd.func81 rfl en81 (by simp [Tryd.ntmps81]) (by simp [ClV, V.g, Cv.g, fx, ra, ci]) fun C hR => ?_
  simp (config := { maxSteps := 2000000 }) only [go_sem, Nat.reduceBEq, Nat.reduceAdd, Nat.reduceLT, Nat.reduceLeDiff, Nat.reduceEqDiff, reduceCtorEq, Int.reduceAdd, Int.reduceSub, Int.reduceNeg, Int.reduceLE, Int.reduceLT, Int.reduceToNat, Int.reduceBEq, Int.reduceBNe, Int.reduceEq, Int.reduceNe, Int.toNat_zero, Int.toNat_one, bne_self_eq_false, Nat.reduceMul, Nat.zero_mul, Nat.mul_one, Nat.one_mul, Nat.reduceSub, Int.cast_ofNat_Int, Int.toNat_natCast]
  refine Sm.dgo 102 11 mix (by decide +kernel) (by decide +kernel) ?_
  simp (config := { maxSteps := 2000000 }) only [go_sem, Nat.reduceBEq, Nat.reduceAdd, Nat.reduceLT, Nat.reduceLeDiff, Nat.reduceEqDiff, reduceCtorEq, Int.reduceAdd, Int.reduceSub, Int.reduceNeg, Int.reduceLE, Int.reduceLT, Int.reduceToNat, Int.reduceBEq, Int.reduceBNe, Int.reduceEq, Int.reduceNe, Int.toNat_zero, Int.toNat_one, bne_self_eq_false, Nat.reduceMul, Nat.zero_mul, Nat.mul_one, Nat.one_mul, Nat.reduceSub, Int.cast_ofNat_Int, Int.toNat_natCast]
  refine DCallQ.pure 102 (floor_ n d (by omega) (by omega) (by omega) (by omega)) rfl ?_
  simp (config := { maxSteps := 2000000 }) only [go_sem, Nat.reduceBEq, Nat.reduceAdd, Nat.reduceLT, Nat.reduceLeDiff, Nat.reduceEqDiff, reduceCtorEq, Int.reduceAdd, Int.reduceSub, Int.reduceNeg, Int.reduceLE, Int.reduceLT, Int.reduceToNat, Int.reduceBEq, Int.reduceBNe, Int.reduceEq, Int.reduceNe, Int.toNat_zero, Int.toNat_one, bne_self_eq_false, Nat.reduceMul, Nat.zero_mul, Nat.mul_one, Nat.one_mul, Nat.reduceSub, Int.cast_ofNat_Int, Int.toNat_natCast]
  refine DCallQ.pure 102 (mod_ n d (by omega) (by omega)) rfl ?_
  simp (config := { maxSteps := 2000000 }) only [go_sem, Nat.reduceBEq, Nat.reduceAdd, Nat.reduceLT, Nat.reduceLeDiff, Nat.reduceEqDiff, reduceCtorEq, Int.reduceAdd, Int.reduceSub, Int.reduceNeg, Int.reduceLE, Int.reduceLT, Int.reduceToNat, Int.reduceBEq, Int.reduceBNe, Int.reduceEq, Int.reduceNe, Int.toNat_zero, Int.toNat_one, bne_self_eq_false, Nat.reduceMul, Nat.zero_mul, Nat.mul_one, Nat.one_mul, Nat.reduceSub, Int.cast_ofNat_Int, Int.toNat_natCast]
  refine ⟨by omega, ?_⟩
  simp only [q1, hq]
  refine ⟨by omega, ?_⟩
  simp only [q2, hq2]
  refine CallQ.pure 102 (muldiv (n % d) t.den d 1 (by omega) (by omega) (by omega) (by omega) (by omega) (by omega) (by omega) (by omega) (by omega) (by omega)) rfl ?_
  simp (config := { maxSteps := 2000000 }) only [go_sem, Nat.reduceBEq, Nat.reduceAdd, Nat.reduceLT, Nat.reduceLeDiff, Nat.reduceEqDiff, reduceCtorEq, Int.reduceAdd, Int.reduceSub, Int.reduceNeg, Int.reduceLE, Int.reduceLT, Int.reduceToNat, Int.reduceBEq, Int.reduceBNe, Int.reduceEq, Int.reduceNe, Int.toNat_zero, Int.toNat_one, bne_self_eq_false, Nat.reduceMul, Nat.zero_mul, Nat.mul_one, Nat.one_mul, Nat.reduceSub, Int.cast_ofNat_Int, Int.toNat_natCast]
  have r1 : rnd 1 (n % d * t.den) d = n % d * t.den / d := rfl
  have w1 : IntKind.i64.wrap (n / d * t.den) = n / d * t.den := w64 (by omega) (by omega)
  have w2 : IntKind.i64.wrap (n / d * t.den - t.off) = n / d * t.den - t.off := w64 (by omega) (by omega)
  have w3 : IntKind.i64.wrap (n / d * t.den - t.off + n % d * t.den / d) = n / d * t.den - t.off + n % d * t.den / d := w64 (by omega) (by omega)
  have w4 : IntKind.i64.wrap (n % d * t.den) = n % d * t.den := w64 (by omega) (by omega)
  have w5 : n % d * t.den / d * d = n % d * t.den - n % d * t.den % d := by rw [Int.mul_comm]; omega
  have w6 : IntKind.i64.wrap (n % d * t.den - n % d * t.den % d) = n % d * t.den - n % d * t.den % d := w64 (by omega) (by omega)
  have w7 : IntKind.i64.wrap (n % d * t.den - (n % d * t.den - n % d * t.den % d)) = n % d * t.den % d := by
    rw [show n % d * t.den - (n % d * t.den - n % d * t.den % d) = n % d * t.den % d by omega]; exact w64 (by omega) (by omega)
  simp only [r1, w1, w2, w3, w4, w5, w6, w7]
  have hS1 : -2305843009213693952 ≤ n / d * t.den - t.off + n % d * t.den / d := by omega
  have hS2 : n / d * t.den - t.off + n % d * t.den / d ≤ 3458764513820540928 := by omega
  have hmath := ex_math n d t.den t.off t.num m (by omega) (by omega)
  rw [hmath] at hR
  clear hmath
  generalize n / d * t.den - t.off + n % d * t.den / d = S at hR hS1 hS2 ⊢
  generalize n % d * t.den % d = f at hR f0 f1 ⊢
  clear w1 w2 w3 w4 w5 w6 w7 f2 e1 e0 r1 a1 a2
  have g0 := Int.emod_nonneg S (show t.num ≠ 0 by omega)
  have g1 := Int.emod_lt_of_pos S (show 0 < t.num by omega)
  have u1 := quo_bd S t.num (by omega)
  have v1 : IntKind.i64.wrap (2 * (S % t.num)) = 2 * (S % t.num) := w64 (by omega) (by omega)
  have v2 : IntKind.i64.wrap (2 * f) = 2 * f := w64 (by omega) (by omega)
  have v3 : IntKind.i64.wrap (S / t.num + 1) = S / t.num + 1 := w64 (by omega) (by omega)
  have v4 : IntKind.i64.wrap (t.num - 1) = t.num - 1 := w64 (by omega) (by omega)
  rcases (show m = 1 ∨ m = 2 ∨ m = 3 by omega) with rfl | rfl | rfl
  · refine Sm.dgo 102 9 mix (by decide +kernel) (by decide +kernel) ?_
    simp (config := { maxSteps := 2000000 }) only [go_sem, Nat.reduceBEq, Nat.reduceAdd, Nat.reduceLT, Nat.reduceLeDiff, Nat.reduceEqDiff, reduceCtorEq, Int.reduceAdd, Int.reduceSub, Int.reduceNeg, Int.reduceLE, Int.reduceLT, Int.reduceToNat, Int.reduceBEq, Int.reduceBNe, Int.reduceEq, Int.reduceNe, Int.toNat_zero, Int.toNat_one, bne_self_eq_false, Nat.reduceMul, Nat.zero_mul, Nat.mul_one, Nat.one_mul, Nat.reduceSub, Int.cast_ofNat_Int, Int.toNat_natCast]
    refine DCallQ.pure 102 (floor_ S t.num (by omega) (by omega) (by omega) (by omega)) rfl ?_
    simp (config := { maxSteps := 2000000 }) only [go_sem, Nat.reduceBEq, Nat.reduceAdd, Nat.reduceLT, Nat.reduceLeDiff, Nat.reduceEqDiff, reduceCtorEq, Int.reduceAdd, Int.reduceSub, Int.reduceNeg, Int.reduceLE, Int.reduceLT, Int.reduceToNat, Int.reduceBEq, Int.reduceBNe, Int.reduceEq, Int.reduceNe, Int.toNat_zero, Int.toNat_one, bne_self_eq_false, Nat.reduceMul, Nat.zero_mul, Nat.mul_one, Nat.one_mul, Nat.reduceSub, Int.cast_ofNat_Int, Int.toNat_natCast]
    refine DCallQ.pure 102 (mod_ S t.num (by omega) (by omega)) rfl ?_
    simp (config := { maxSteps := 2000000 }) only [go_sem, Nat.reduceBEq, Nat.reduceAdd, Nat.reduceLT, Nat.reduceLeDiff, Nat.reduceEqDiff, reduceCtorEq, Int.reduceAdd, Int.reduceSub, Int.reduceNeg, Int.reduceLE, Int.reduceLT, Int.reduceToNat, Int.reduceBEq, Int.reduceBNe, Int.reduceEq, Int.reduceNe, Int.toNat_zero, Int.toNat_one, bne_self_eq_false, Nat.reduceMul, Nat.zero_mul, Nat.mul_one, Nat.one_mul, Nat.reduceSub, Int.cast_ofNat_Int, Int.toNat_natCast]
    exact RetQ.int hR rfl ⟨rfl, trivial⟩ (by simp)
  · refine Sm.dgo 102 9 mix (by decide +kernel) (by decide +kernel) ?_
    simp (config := { maxSteps := 2000000 }) only [go_sem, Nat.reduceBEq, Nat.reduceAdd, Nat.reduceLT, Nat.reduceLeDiff, Nat.reduceEqDiff, reduceCtorEq, Int.reduceAdd, Int.reduceSub, Int.reduceNeg, Int.reduceLE, Int.reduceLT, Int.reduceToNat, Int.reduceBEq, Int.reduceBNe, Int.reduceEq, Int.reduceNe, Int.toNat_zero, Int.toNat_one, bne_self_eq_false, Nat.reduceMul, Nat.zero_mul, Nat.mul_one, Nat.one_mul, Nat.reduceSub, Int.cast_ofNat_Int, Int.toNat_natCast]
    refine DCallQ.pure 102 (floor_ S t.num (by omega) (by omega) (by omega) (by omega)) rfl ?_
    simp (config := { maxSteps := 2000000 }) only [go_sem, Nat.reduceBEq, Nat.reduceAdd, Nat.reduceLT, Nat.reduceLeDiff, Nat.reduceEqDiff, reduceCtorEq, Int.reduceAdd, Int.reduceSub, Int.reduceNeg, Int.reduceLE, Int.reduceLT, Int.reduceToNat, Int.reduceBEq, Int.reduceBNe, Int.reduceEq, Int.reduceNe, Int.toNat_zero, Int.toNat_one, bne_self_eq_false, Nat.reduceMul, Nat.zero_mul, Nat.mul_one, Nat.one_mul, Nat.reduceSub, Int.cast_ofNat_Int, Int.toNat_natCast]
    refine DCallQ.pure 102 (mod_ S t.num (by omega) (by omega)) rfl ?_
    simp (config := { maxSteps := 2000000 }) only [go_sem, Nat.reduceBEq, Nat.reduceAdd, Nat.reduceLT, Nat.reduceLeDiff, Nat.reduceEqDiff, reduceCtorEq, Int.reduceAdd, Int.reduceSub, Int.reduceNeg, Int.reduceLE, Int.reduceLT, Int.reduceToNat, Int.reduceBEq, Int.reduceBNe, Int.reduceEq, Int.reduceNe, Int.toNat_zero, Int.toNat_one, bne_self_eq_false, Nat.reduceMul, Nat.zero_mul, Nat.mul_one, Nat.one_mul, Nat.reduceSub, Int.cast_ofNat_Int, Int.toNat_natCast]
    simp only [v1, v2, v3, v4, bor_, band_]
    simp only [Int.reduceBEq, cond_false, cond_true] at hR
    cases hc : (decide (0 < S % t.num) || decide (0 < f)) with
    | true => rw [hc] at hR; exact RetQ.int hR rfl ⟨rfl, trivial⟩ (by simp)
    | false => rw [hc] at hR; exact RetQ.int hR rfl ⟨rfl, trivial⟩ (by simp)
  · refine Sm.dgo 102 9 mix (by decide +kernel) (by decide +kernel) ?_
    simp (config := { maxSteps := 2000000 }) only [go_sem, Nat.reduceBEq, Nat.reduceAdd, Nat.reduceLT, Nat.reduceLeDiff, Nat.reduceEqDiff, reduceCtorEq, Int.reduceAdd, Int.reduceSub, Int.reduceNeg, Int.reduceLE, Int.reduceLT, Int.reduceToNat, Int.reduceBEq, Int.reduceBNe, Int.reduceEq, Int.reduceNe, Int.toNat_zero, Int.toNat_one, bne_self_eq_false, Nat.reduceMul, Nat.zero_mul, Nat.mul_one, Nat.one_mul, Nat.reduceSub, Int.cast_ofNat_Int, Int.toNat_natCast]
    refine DCallQ.pure 102 (floor_ S t.num (by omega) (by omega) (by omega) (by omega)) rfl ?_
    simp (config := { maxSteps := 2000000 }) only [go_sem, Nat.reduceBEq, Nat.reduceAdd, Nat.reduceLT, Nat.reduceLeDiff, Nat.reduceEqDiff, reduceCtorEq, Int.reduceAdd, Int.reduceSub, Int.reduceNeg, Int.reduceLE, Int.reduceLT, Int.reduceToNat, Int.reduceBEq, Int.reduceBNe, Int.reduceEq, Int.reduceNe, Int.toNat_zero, Int.toNat_one, bne_self_eq_false, Nat.reduceMul, Nat.zero_mul, Nat.mul_one, Nat.one_mul, Nat.reduceSub, Int.cast_ofNat_Int, Int.toNat_natCast]
    refine DCallQ.pure 102 (mod_ S t.num (by omega) (by omega)) rfl ?_
    simp (config := { maxSteps := 2000000 }) only [go_sem, Nat.reduceBEq, Nat.reduceAdd, Nat.reduceLT, Nat.reduceLeDiff, Nat.reduceEqDiff, reduceCtorEq, Int.reduceAdd, Int.reduceSub, Int.reduceNeg, Int.reduceLE, Int.reduceLT, Int.reduceToNat, Int.reduceBEq, Int.reduceBNe, Int.reduceEq, Int.reduceNe, Int.toNat_zero, Int.toNat_one, bne_self_eq_false, Nat.reduceMul, Nat.zero_mul, Nat.mul_one, Nat.one_mul, Nat.reduceSub, Int.cast_ofNat_Int, Int.toNat_natCast]
    simp only [v1, v2, v3, v4, bor_, band_]
    simp only [Int.reduceBEq, cond_false, cond_true] at hR
    refine ⟨fun h1 => ⟨h1, fun h2 => by rw [h1, h2]; rfl⟩, ?_⟩
    cases hc : (decide (t.num ≤ 2 * (S % t.num)) || ((2 * (S % t.num) == t.num - 1) && decide (d ≤ 2 * f))) with
    | true => rw [hc] at hR; exact RetQ.int hR rfl ⟨rfl, trivial⟩ (by simp)
    | false => rw [hc] at hR; exact RetQ.int hR rfl ⟨rfl, trivial⟩ (by simp)
end Go.Proofs.YtoioclmfjmgaaaaDoor.Fx