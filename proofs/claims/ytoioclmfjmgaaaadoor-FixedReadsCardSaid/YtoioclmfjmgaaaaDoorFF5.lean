/- Contracts of fixed: Raw and Nearest in full. -/
import Derived.Test.YtoioclmfjmgaaaaDoorFF4
namespace Go.Proofs.YtoioclmfjmgaaaaDoor.Fx
open Vg Tf
set_option linter.unusedSimpArgs false
set_option linter.unusedVariables false
set_option maxRecDepth 100000
theorem raw_arg (t : Ft) (n d m : Int) (h : fok t = false) : CallOk Tryd.prog 43 [fx t, ra n d, I m] [] (.tup [Wi 0, Wi 1]) [] := by
  refine CallOk.mk 100 Tryd.func43 rfl en43 (by simp [Tryd.ntmps43]) (by simp [ClV, V.g, Cv.g, fx, ra, ci]) fun C hR => ?_
  have hv := fvalid t
  rw [h] at hv
  simp (config := { maxSteps := 2000000 }) only [go_sem, Nat.reduceBEq, Nat.reduceAdd, Nat.reduceLT, Nat.reduceLeDiff, Nat.reduceEqDiff, reduceCtorEq, Int.reduceAdd, Int.reduceSub, Int.reduceNeg, Int.reduceLE, Int.reduceLT, Int.reduceToNat, Int.reduceBEq, Int.reduceBNe, Int.reduceEq, Int.reduceNe, Int.toNat_zero, Int.toNat_one, bne_self_eq_false, Nat.reduceMul, Nat.zero_mul, Nat.mul_one, Nat.one_mul, Nat.reduceSub, Int.cast_ofNat_Int, Int.toNat_natCast]
  refine CallQ.pure 102 hv rfl ?_
  simp (config := { maxSteps := 2000000 }) only [go_sem, Nat.reduceBEq, Nat.reduceAdd, Nat.reduceLT, Nat.reduceLeDiff, Nat.reduceEqDiff, reduceCtorEq, Int.reduceAdd, Int.reduceSub, Int.reduceNeg, Int.reduceLE, Int.reduceLT, Int.reduceToNat, Int.reduceBEq, Int.reduceBNe, Int.reduceEq, Int.reduceNe, Int.toNat_zero, Int.toNat_one, bne_self_eq_false, Nat.reduceMul, Nat.zero_mul, Nat.mul_one, Nat.one_mul, Nat.reduceSub, Int.cast_ofNat_Int, Int.toNat_natCast]
  refine CallQ.guard 102 (fun h => by cases h) (fun h => by cases h) (v := Bo true) (xs := []) ?_
  simp (config := { maxSteps := 2000000 }) only [go_sem, Nat.reduceBEq, Nat.reduceAdd, Nat.reduceLT, Nat.reduceLeDiff, Nat.reduceEqDiff, reduceCtorEq, Int.reduceAdd, Int.reduceSub, Int.reduceNeg, Int.reduceLE, Int.reduceLT, Int.reduceToNat, Int.reduceBEq, Int.reduceBNe, Int.reduceEq, Int.reduceNe, Int.toNat_zero, Int.toNat_one, bne_self_eq_false, Nat.reduceMul, Nat.zero_mul, Nat.mul_one, Nat.one_mul, Nat.reduceSub, Int.cast_ofNat_Int, Int.toNat_natCast]
  exact RetQ.int2 hR rfl ⟨rfl, rfl, trivial⟩ rfl rfl
theorem exact_all (t : Ft) (n d m : Int) (h : fok t = true) (hr : rok n d) (hm : 1 ≤ m) (hm3 : m ≤ 3) : ∃ p, CallOk Tryd.prog 81 [fx t, ra n d, I m] [] (I p) [] ∧ ExP (exV t n d m) p := by
  obtain ⟨⟨hd, hd2⟩, hn1, hn2⟩ := hr
  by_cases h1 : 1152921504606846976 / t.den < n / d
  · exact ⟨_, exact_hi t n d m h hd hd2 hn1 hn2 h1, .inr (.inl ⟨rfl, exV_hi t n d m h hd hm hm3 h1⟩)⟩
  by_cases h2 : n / d < -(1152921504606846976 / t.den)
  · exact ⟨_, exact_lo t n d m h hd hd2 hn1 hn2 h2, .inr (.inr ⟨rfl, exV_lo t n d m h hd hm hm3 h2⟩)⟩
  exact ⟨_, exact_mid2 t n d m h hd hd2 hn1 hn2 hm hm3 (by omega) (by omega), .inl rfl⟩
theorem fin_dec (t : Ft) (x : Int) : fin t x = decide (flo t ≤ x ∧ x ≤ fhi t) := by
  unfold fin; rw [Bool.eq_iff_iff]; simp
theorem raw_full (t : Ft) (n d m : Int) (h : fok t = true) (hr : rok n d) (hm : 1 ≤ m) (hm3 : m ≤ 3) : CallOk Tryd.prog 43 [fx t, ra n d, I m] [] (.tup [Wi (bif fin t (exV t n d m) then exV t n d m else 0), Wi (bif fin t (exV t n d m) then 0 else 2)]) [] := by
  obtain ⟨p, hc, hx⟩ := exact_all t n d m h hr hm hm3
  have hn := raw_ok t n d m p h hr hm hm3 hc
  have hb := flo_bd t h
  rcases hx with rfl | ⟨rfl, hx⟩ | ⟨rfl, hx⟩
  · exact hn
  · rw [fin_dec, decide_eq_false (by omega)] at hn
    rw [fin_dec, decide_eq_false (by omega)]
    exact hn
  · rw [fin_dec, decide_eq_false (by omega)] at hn
    rw [fin_dec, decide_eq_false (by omega)]
    exact hn
theorem ratio_no (n d : Int) (h : ¬ rok n d) : CallOk Tryd.prog 80 [ra n d] [] (Bo false) [] := by
  have := ratio_ n d
  unfold rok at h
  rw [decide_eq_false h] at this
  exact this
theorem raw_bad (t : Ft) (n d m : Int) (h : fok t = false ∨ ¬ rok n d ∨ m < 1 ∨ 3 < m) : CallOk Tryd.prog 43 [fx t, ra n d, I m] [] (.tup [Wi 0, Wi 1]) [] := by
  cases ht : fok t with
  | false => exact raw_arg t n d m ht
  | true =>
    refine CallOk.mk 100 Tryd.func43 rfl en43 (by simp [Tryd.ntmps43]) (by simp [ClV, V.g, Cv.g, fx, ra, ci]) fun C hR => ?_
    simp (config := { maxSteps := 2000000 }) only [go_sem, Nat.reduceBEq, Nat.reduceAdd, Nat.reduceLT, Nat.reduceLeDiff, Nat.reduceEqDiff, reduceCtorEq, Int.reduceAdd, Int.reduceSub, Int.reduceNeg, Int.reduceLE, Int.reduceLT, Int.reduceToNat, Int.reduceBEq, Int.reduceBNe, Int.reduceEq, Int.reduceNe, Int.toNat_zero, Int.toNat_one, bne_self_eq_false, Nat.reduceMul, Nat.zero_mul, Nat.mul_one, Nat.one_mul, Nat.reduceSub, Int.cast_ofNat_Int, Int.toNat_natCast]
    refine CallQ.pure 102 (fvalid_ok t ht) rfl ?_
    simp (config := { maxSteps := 2000000 }) only [go_sem, Nat.reduceBEq, Nat.reduceAdd, Nat.reduceLT, Nat.reduceLeDiff, Nat.reduceEqDiff, reduceCtorEq, Int.reduceAdd, Int.reduceSub, Int.reduceNeg, Int.reduceLE, Int.reduceLT, Int.reduceToNat, Int.reduceBEq, Int.reduceBNe, Int.reduceEq, Int.reduceNe, Int.toNat_zero, Int.toNat_one, bne_self_eq_false, Nat.reduceMul, Nat.zero_mul, Nat.mul_one, Nat.one_mul, Nat.reduceSub, Int.cast_ofNat_Int, Int.toNat_natCast]
    by_cases hr : rok n d
    · refine CallQ.pure 102 (ratio_ok n d hr) rfl ?_
      simp (config := { maxSteps := 2000000 }) only [go_sem, Nat.reduceBEq, Nat.reduceAdd, Nat.reduceLT, Nat.reduceLeDiff, Nat.reduceEqDiff, reduceCtorEq, Int.reduceAdd, Int.reduceSub, Int.reduceNeg, Int.reduceLE, Int.reduceLT, Int.reduceToNat, Int.reduceBEq, Int.reduceBNe, Int.reduceEq, Int.reduceNe, Int.toNat_zero, Int.toNat_one, bne_self_eq_false, Nat.reduceMul, Nat.zero_mul, Nat.mul_one, Nat.one_mul, Nat.reduceSub, Int.cast_ofNat_Int, Int.toNat_natCast]
      have hm : m < 1 ∨ 3 < m := by rcases h with h | h | h; rw [ht] at h; cases h; exact absurd hr h; exact h
      have e : (bif decide (m < 1) then true else decide (3 < m)) = true := by
        rw [bor_, Bool.or_eq_true, decide_eq_true_eq, decide_eq_true_eq]; exact hm
      simp only [e]
      exact RetQ.int2 hR rfl ⟨rfl, rfl, trivial⟩ rfl rfl
    · refine CallQ.pure 102 (ratio_no n d hr) rfl ?_
      simp (config := { maxSteps := 2000000 }) only [go_sem, Nat.reduceBEq, Nat.reduceAdd, Nat.reduceLT, Nat.reduceLeDiff, Nat.reduceEqDiff, reduceCtorEq, Int.reduceAdd, Int.reduceSub, Int.reduceNeg, Int.reduceLE, Int.reduceLT, Int.reduceToNat, Int.reduceBEq, Int.reduceBNe, Int.reduceEq, Int.reduceNe, Int.toNat_zero, Int.toNat_one, bne_self_eq_false, Nat.reduceMul, Nat.zero_mul, Nat.mul_one, Nat.one_mul, Nat.reduceSub, Int.cast_ofNat_Int, Int.toNat_natCast]
      exact RetQ.int2 hR rfl ⟨rfl, rfl, trivial⟩ rfl rfl
end Go.Proofs.YtoioclmfjmgaaaaDoor.Fx