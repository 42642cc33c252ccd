/- Contracts of the reference's Nearest; of Convert in all cases; the law FixedConverts. -/
import Derived.Test.YtnolflocgodffaaC14
import Derived.Test.YtnolflocgodffaaC10
namespace Go.Proofs.Ytnolflocgodffaa
open Vg Tf
set_option linter.unusedSimpArgs false
set_option linter.unusedVariables false
set_option maxRecDepth 100000
def ExP (E p : Int) : Prop := p = E ∨ (p = 1125899906842624 ∧ 274877906944 ≤ E) ∨ (p = -1125899906842624 ∧ E ≤ -274877906944)
theorem exV_hi (t : Ft) (n d m : Int) (h : fok t = true) (hd : 1 ≤ d) (hm : 1 ≤ m) (hm3 : m ≤ 3) (hx : 1152921504606846976 / t.den < n / d) : 274877906944 ≤ exV t n d m := by
  have hf := fok_bd h
  have h1 : (1152921504606846976 / t.den + 1) * t.den ≤ n / d * t.den := Int.mul_le_mul_of_nonneg_right (by omega) (by omega)
  have h2 := Int.lt_ediv_add_one_mul_self 1152921504606846976 (show 0 < t.den by omega)
  have h3 : n / d * t.den ≤ n * t.den / d := by
    refine Int.le_ediv_of_mul_le (by omega) ?_
    have := Int.mul_le_mul_of_nonneg_right (Int.ediv_mul_le n (show d ≠ 0 by omega)) (show 0 ≤ t.den by omega)
    rw [show n / d * t.den * d = n / d * d * t.den by grind]; exact this
  unfold exV
  rw [two_steps _ _ _ _ _ (by omega) (by omega)]
  generalize n * t.den = a at *
  have hq := Int.mul_ediv_add_emod a d
  have hq0 := Int.emod_nonneg a (show d ≠ 0 by omega)
  split
  · exact ex_big (c := 0) (A := 1152921503533105152) (by omega) (by omega) (by omega) (by omega) (by omega)
  · split
    · have h4 : -a / d ≤ -1152921504606846976 := by
        have : -(a / d) * d = -(d * (a / d)) := by grind
        have h5 : -a / d ≤ -(a / d) := Int.ediv_le_of_le_mul (by omega) (by omega)
        omega
      have := ex_small (x := t.off - -(-a / d)) (num := t.num) (A := 1152921503533105152) (B := 274877906944) (by omega) (by omega) (by omega) (by omega) (by omega)
      omega
    · have h4 : 2 * (a / d) ≤ 2 * a / d := Int.le_ediv_of_mul_le (by omega) (by rw [Int.mul_assoc, Int.mul_comm (a / d) d]; omega)
      exact ex_big (c := 0) (A := 2305843007066210304) (by omega) (by omega) (by omega) (by omega) (by omega)
theorem exV_lo (t : Ft) (n d m : Int) (h : fok t = true) (hd : 1 ≤ d) (hm : 1 ≤ m) (hm3 : m ≤ 3) (hx : n / d < -(1152921504606846976 / t.den)) : exV t n d m ≤ -274877906944 := by
  have hf := fok_bd h
  have h1 : (n / d + 1) * t.den ≤ -(1152921504606846976 / t.den) * t.den := Int.mul_le_mul_of_nonneg_right (by omega) (by omega)
  have h2 := Int.lt_ediv_add_one_mul_self 1152921504606846976 (show 0 < t.den by omega)
  have h3 : n * t.den / d < (n / d + 1) * t.den := by
    refine Int.ediv_lt_of_lt_mul (by omega) ?_
    have := Int.mul_lt_mul_of_pos_right (Int.lt_ediv_add_one_mul_self n (show 0 < d by omega)) (show 0 < t.den by omega)
    rw [show (n / d + 1) * t.den * d = (n / d + 1) * d * t.den by grind]; exact this
  have h6 : -(1152921504606846976 / t.den) * t.den = -(1152921504606846976 / t.den * t.den) := by grind
  have h7 : (1152921504606846976 / t.den + 1) * t.den = 1152921504606846976 / t.den * t.den + t.den := by grind
  unfold exV
  rw [two_steps _ _ _ _ _ (by omega) (by omega)]
  generalize n * t.den = a at *
  have hq := Int.mul_ediv_add_emod a d
  have hq0 := Int.emod_nonneg a (show d ≠ 0 by omega)
  have hq1 := Int.emod_lt_of_pos a (show 0 < d by omega)
  split
  · exact ex_small (A := 1152921503531000000) (by omega) (by omega) (by omega) (by omega) (by omega)
  · split
    · have h4 : 1152921504605000000 ≤ -a / d := by
        have h5 : -(a / d) - 1 ≤ -a / d := Int.le_ediv_of_mul_le (by omega) (by
          have : (-(a / d) - 1) * d = -(d * (a / d)) - d := by grind
          omega)
        omega
      have := ex_big (c := 0) (x := t.off - -(-a / d)) (num := t.num) (A := 1152921503531000000) (B := 274877906944) (by omega) (by omega) (by omega) (by omega) (by omega)
      omega
    · have h4 : 2 * a / d ≤ 2 * (a / d) + 1 := by
        have : 2 * a / d < 2 * (a / d) + 2 := Int.ediv_lt_of_lt_mul (by omega) (by
          have : (2 * (a / d) + 2) * d = 2 * (d * (a / d)) + 2 * d := by grind
          omega)
        omega
      exact ex_small (A := 2305843007050000000) (by omega) (by omega) (by omega) (by omega) (by omega)
theorem exact_small (t : Ft) (n d m : Int) (h : fok t = true) (hd : 1 ≤ d) (hd2 : d ≤ 1099511627776) (hn1 : -1152921504606846976 ≤ n) (hn2 : n ≤ 1152921504606846976) (hm : 1 ≤ m) (hm3 : m ≤ 3) :
    ∃ p, CallOk Try.prog 82 [fx t, ra n d, I m] [] (I p) [] ∧ ExP (exV t n d m) p := by
  by_cases h1 : 1152921504606846976 / t.den < n / d
  · exact ⟨_, exact_hi t n d m h hd (by omega) hn1 hn2 h1, .inr (.inl ⟨rfl, exV_hi t n d m h hd hm hm3 h1⟩)⟩
  by_cases h2 : n / d < -(1152921504606846976 / t.den)
  · exact ⟨_, exact_lo t n d m h hd (by omega) hn1 hn2 h2, .inr (.inr ⟨rfl, exV_lo t n d m h hd hm hm3 h2⟩)⟩
  exact ⟨_, exact_mid t n d m h hd hd2 hn1 hn2 hm hm3 (by omega) (by omega), .inl rfl⟩
theorem rnear (t : Ft) (n d : Int) (h : fok t = true) (hr : rok n d) : CallOk Try.prog 42 [fx t, ra n d] [] (I (min (max (exV t n d 3) (flo t)) (fhi t))) [] := by
  obtain ⟨r, ok, hc, hx⟩ := rexact t n d 3 h hr (by omega) (by omega)
  have hb := flo_bd t h
  refine CallOk.mk 100 Try.func42 rfl en42 (by simp [Try.ntmps42]) (by simp [ClV, V.g, Cv.g, fx, ra, ci]) fun C hR => ?_
  simp (config := { maxSteps := 2000000 }) only [go_sem, Nat.reduceBEq, Nat.reduceAdd, Nat.reduceLT, Nat.reduceLeDiff, Nat.reduceEqDiff, reduceCtorEq, Int.reduceAdd, Int.reduceSub, Int.reduceNeg, Int.reduceLE, Int.reduceLT, Int.reduceToNat, Int.reduceBEq, Int.reduceBNe, Int.reduceEq, Int.reduceNe, Int.toNat_zero, Int.toNat_one, bne_self_eq_false, Nat.reduceMul, Nat.zero_mul, Nat.mul_one, Nat.one_mul, Nat.reduceSub, Int.cast_ofNat_Int, Int.toNat_natCast]
  refine CallQ.pure 102 (rlimits t h) rfl ?_
  simp (config := { maxSteps := 2000000 }) only [go_sem, Nat.reduceBEq, Nat.reduceAdd, Nat.reduceLT, Nat.reduceLeDiff, Nat.reduceEqDiff, reduceCtorEq, Int.reduceAdd, Int.reduceSub, Int.reduceNeg, Int.reduceLE, Int.reduceLT, Int.reduceToNat, Int.reduceBEq, Int.reduceBNe, Int.reduceEq, Int.reduceNe, Int.toNat_zero, Int.toNat_one, bne_self_eq_false, Nat.reduceMul, Nat.zero_mul, Nat.mul_one, Nat.one_mul, Nat.reduceSub, Int.cast_ofNat_Int, Int.toNat_natCast]
  refine CallQ.pure 102 hc rfl ?_
  rcases hx with ⟨rfl, rfl⟩ | ⟨rfl, rfl, hx⟩ | ⟨rfl, rfl, hx⟩
  all_goals generalize exV t n d 3 = E at *
  all_goals simp (config := { maxSteps := 2000000 }) only [go_sem, Nat.reduceBEq, Nat.reduceAdd, Nat.reduceLT, Nat.reduceLeDiff, Nat.reduceEqDiff, reduceCtorEq, Int.reduceAdd, Int.reduceSub, Int.reduceNeg, Int.reduceLE, Int.reduceLT, Int.reduceToNat, Int.reduceBEq, Int.reduceBNe, Int.reduceEq, Int.reduceNe, Int.toNat_zero, Int.toNat_one, bne_self_eq_false, Nat.reduceMul, Nat.zero_mul, Nat.mul_one, Nat.one_mul, Nat.reduceSub, Int.cast_ofNat_Int, Int.toNat_natCast]
  all_goals (repeat' split)
  all_goals
    refine RetQ.int hR rfl ⟨rfl, trivial⟩ ?_
    clear hR hc
    simp [Bool.cond_eq_ite] at *
    try omega
theorem near_any (t : Ft) (n d : Int) (h : fok t = true) (hr : rok n d) (hd2 : d ≤ 1099511627776) : CallOk Try.prog 40 [fx t, ra n d] [] (.tup [Wi (min (max (exV t n d 3) (flo t)) (fhi t)), Wi 0]) [] := by
  obtain ⟨p, hc, hx⟩ := exact_small t n d 3 h hr.1.1 hd2 hr.2.1 hr.2.2 (by omega) (by omega)
  have hn := near_ok t n d p h hr hc
  have hb := flo_bd t h
  rw [show min (max p (flo t)) (fhi t) = min (max (exV t n d 3) (flo t)) (fhi t) by rcases hx with rfl | ⟨rfl, hx⟩ | ⟨rfl, hx⟩ <;> omega] at hn
  exact hn
def uq (t u : Ft) : Bool := (t.m == u.m) && ((t.kg == u.kg) && ((t.s == u.s) && ((t.a == u.a) && (t.k == u.k))))
theorem uq_iff (t u : Ft) : uq t u = true ↔ (t.m, t.kg, t.s, t.a, t.k) = (u.m, u.kg, u.s, u.a, u.k) := by
  unfold uq; simp
theorem fvalid_no (t : Ft) (h : fok t = false) : CallOk Try.prog 45 [fx t] [] (Bo false) [] := by
  have := fvalid t
  rw [h] at this
  exact this
theorem conv_arg (t u : Ft) (raw : Int) (h : fok t = false ∨ fok u = false) : CallOk Try.prog 49 [fx t, fx u, I raw] [] (.tup [Wi 0, Wi 1]) [] := by
  refine CallOk.mk 100 Try.func49 rfl en49 (by simp [Try.ntmps49]) (by simp [ClV, V.g, Cv.g, fx, ra, ci]) fun C hR => ?_
  simp (config := { maxSteps := 2000000 }) only [go_sem, Nat.reduceBEq, Nat.reduceAdd, Nat.reduceLT, Nat.reduceLeDiff, Nat.reduceEqDiff, reduceCtorEq, Int.reduceAdd, Int.reduceSub, Int.reduceNeg, Int.reduceLE, Int.reduceLT, Int.reduceToNat, Int.reduceBEq, Int.reduceBNe, Int.reduceEq, Int.reduceNe, Int.toNat_zero, Int.toNat_one, bne_self_eq_false, Nat.reduceMul, Nat.zero_mul, Nat.mul_one, Nat.one_mul, Nat.reduceSub, Int.cast_ofNat_Int, Int.toNat_natCast]
  have hv := fvalid t
  have hv2 := fvalid u
  cases ht : fok t with
  | false =>
    rw [ht] at hv
    refine CallQ.pure 102 hv rfl ?_
    simp (config := { maxSteps := 2000000 }) only [go_sem, Nat.reduceBEq, Nat.reduceAdd, Nat.reduceLT, Nat.reduceLeDiff, Nat.reduceEqDiff, reduceCtorEq, Int.reduceAdd, Int.reduceSub, Int.reduceNeg, Int.reduceLE, Int.reduceLT, Int.reduceToNat, Int.reduceBEq, Int.reduceBNe, Int.reduceEq, Int.reduceNe, Int.toNat_zero, Int.toNat_one, bne_self_eq_false, Nat.reduceMul, Nat.zero_mul, Nat.mul_one, Nat.one_mul, Nat.reduceSub, Int.cast_ofNat_Int, Int.toNat_natCast]
    refine CallQ.guard 102 (fun hh => by cases hh) (fun hh => by cases hh) (xs := []) (v := Bo true) ?_
    simp (config := { maxSteps := 2000000 }) only [go_sem, Nat.reduceBEq, Nat.reduceAdd, Nat.reduceLT, Nat.reduceLeDiff, Nat.reduceEqDiff, reduceCtorEq, Int.reduceAdd, Int.reduceSub, Int.reduceNeg, Int.reduceLE, Int.reduceLT, Int.reduceToNat, Int.reduceBEq, Int.reduceBNe, Int.reduceEq, Int.reduceNe, Int.toNat_zero, Int.toNat_one, bne_self_eq_false, Nat.reduceMul, Nat.zero_mul, Nat.mul_one, Nat.one_mul, Nat.reduceSub, Int.cast_ofNat_Int, Int.toNat_natCast]
    exact RetQ.int2 hR rfl ⟨rfl, rfl, trivial⟩ rfl rfl
  | true =>
    rw [ht] at hv
    rw [show fok u = false by rcases h with h | h; rw [h] at ht; cases ht; exact h] at hv2
    refine CallQ.pure 102 hv rfl ?_
    simp (config := { maxSteps := 2000000 }) only [go_sem, Nat.reduceBEq, Nat.reduceAdd, Nat.reduceLT, Nat.reduceLeDiff, Nat.reduceEqDiff, reduceCtorEq, Int.reduceAdd, Int.reduceSub, Int.reduceNeg, Int.reduceLE, Int.reduceLT, Int.reduceToNat, Int.reduceBEq, Int.reduceBNe, Int.reduceEq, Int.reduceNe, Int.toNat_zero, Int.toNat_one, bne_self_eq_false, Nat.reduceMul, Nat.zero_mul, Nat.mul_one, Nat.one_mul, Nat.reduceSub, Int.cast_ofNat_Int, Int.toNat_natCast]
    refine CallQ.pure 102 hv2 rfl ?_
    simp (config := { maxSteps := 2000000 }) only [go_sem, Nat.reduceBEq, Nat.reduceAdd, Nat.reduceLT, Nat.reduceLeDiff, Nat.reduceEqDiff, reduceCtorEq, Int.reduceAdd, Int.reduceSub, Int.reduceNeg, Int.reduceLE, Int.reduceLT, Int.reduceToNat, Int.reduceBEq, Int.reduceBNe, Int.reduceEq, Int.reduceNe, Int.toNat_zero, Int.toNat_one, bne_self_eq_false, Nat.reduceMul, Nat.zero_mul, Nat.mul_one, Nat.one_mul, Nat.reduceSub, Int.cast_ofNat_Int, Int.toNat_natCast]
    exact RetQ.int2 hR rfl ⟨rfl, rfl, trivial⟩ rfl rfl
theorem conv_range (t u : Ft) (raw : Int) (h : fok t = true) (hu : fok u = true) (hw : fin t raw = false) : CallOk Try.prog 49 [fx t, fx u, I raw] [] (.tup [Wi 0, Wi 2]) [] := by
  have hi := within t raw h
  rw [hw] at hi
  refine CallOk.mk 100 Try.func49 rfl en49 (by simp [Try.ntmps49]) (by simp [ClV, V.g, Cv.g, fx, ra, ci]) fun C hR => ?_
  simp (config := { maxSteps := 2000000 }) only [go_sem, Nat.reduceBEq, Nat.reduceAdd, Nat.reduceLT, Nat.reduceLeDiff, Nat.reduceEqDiff, reduceCtorEq, Int.reduceAdd, Int.reduceSub, Int.reduceNeg, Int.reduceLE, Int.reduceLT, Int.reduceToNat, Int.reduceBEq, Int.reduceBNe, Int.reduceEq, Int.reduceNe, Int.toNat_zero, Int.toNat_one, bne_self_eq_false, Nat.reduceMul, Nat.zero_mul, Nat.mul_one, Nat.one_mul, Nat.reduceSub, Int.cast_ofNat_Int, Int.toNat_natCast]
  refine CallQ.pure 102 (fvalid_ok t h) rfl ?_
  simp (config := { maxSteps := 2000000 }) only [go_sem, Nat.reduceBEq, Nat.reduceAdd, Nat.reduceLT, Nat.reduceLeDiff, Nat.reduceEqDiff, reduceCtorEq, Int.reduceAdd, Int.reduceSub, Int.reduceNeg, Int.reduceLE, Int.reduceLT, Int.reduceToNat, Int.reduceBEq, Int.reduceBNe, Int.reduceEq, Int.reduceNe, Int.toNat_zero, Int.toNat_one, bne_self_eq_false, Nat.reduceMul, Nat.zero_mul, Nat.mul_one, Nat.one_mul, Nat.reduceSub, Int.cast_ofNat_Int, Int.toNat_natCast]
  refine CallQ.pure 102 (fvalid_ok u hu) rfl ?_
  simp (config := { maxSteps := 2000000 }) only [go_sem, Nat.reduceBEq, Nat.reduceAdd, Nat.reduceLT, Nat.reduceLeDiff, Nat.reduceEqDiff, reduceCtorEq, Int.reduceAdd, Int.reduceSub, Int.reduceNeg, Int.reduceLE, Int.reduceLT, Int.reduceToNat, Int.reduceBEq, Int.reduceBNe, Int.reduceEq, Int.reduceNe, Int.toNat_zero, Int.toNat_one, bne_self_eq_false, Nat.reduceMul, Nat.zero_mul, Nat.mul_one, Nat.one_mul, Nat.reduceSub, Int.cast_ofNat_Int, Int.toNat_natCast]
  refine CallQ.pure 102 hi rfl ?_
  simp (config := { maxSteps := 2000000 }) only [go_sem, Nat.reduceBEq, Nat.reduceAdd, Nat.reduceLT, Nat.reduceLeDiff, Nat.reduceEqDiff, reduceCtorEq, Int.reduceAdd, Int.reduceSub, Int.reduceNeg, Int.reduceLE, Int.reduceLT, Int.reduceToNat, Int.reduceBEq, Int.reduceBNe, Int.reduceEq, Int.reduceNe, Int.toNat_zero, Int.toNat_one, bne_self_eq_false, Nat.reduceMul, Nat.zero_mul, Nat.mul_one, Nat.one_mul, Nat.reduceSub, Int.cast_ofNat_Int, Int.toNat_natCast]
  exact RetQ.int2 hR rfl ⟨rfl, rfl, trivial⟩ rfl rfl
theorem conv_unit (t u : Ft) (raw : Int) (h : fok t = true) (hu : fok u = true) (hw : fin t raw = true) (he : uq t u = false) : CallOk Try.prog 49 [fx t, fx u, I raw] [] (.tup [Wi 0, Wi 12]) [] := by
  have hi := within t raw h
  rw [hw] at hi
  refine CallOk.mk 100 Try.func49 rfl en49 (by simp [Try.ntmps49]) (by simp [ClV, V.g, Cv.g, fx, ra, ci]) fun C hR => ?_
  simp (config := { maxSteps := 2000000 }) only [go_sem, Nat.reduceBEq, Nat.reduceAdd, Nat.reduceLT, Nat.reduceLeDiff, Nat.reduceEqDiff, reduceCtorEq, Int.reduceAdd, Int.reduceSub, Int.reduceNeg, Int.reduceLE, Int.reduceLT, Int.reduceToNat, Int.reduceBEq, Int.reduceBNe, Int.reduceEq, Int.reduceNe, Int.toNat_zero, Int.toNat_one, bne_self_eq_false, Nat.reduceMul, Nat.zero_mul, Nat.mul_one, Nat.one_mul, Nat.reduceSub, Int.cast_ofNat_Int, Int.toNat_natCast]
  refine CallQ.pure 102 (fvalid_ok t h) rfl ?_
  simp (config := { maxSteps := 2000000 }) only [go_sem, Nat.reduceBEq, Nat.reduceAdd, Nat.reduceLT, Nat.reduceLeDiff, Nat.reduceEqDiff, reduceCtorEq, Int.reduceAdd, Int.reduceSub, Int.reduceNeg, Int.reduceLE, Int.reduceLT, Int.reduceToNat, Int.reduceBEq, Int.reduceBNe, Int.reduceEq, Int.reduceNe, Int.toNat_zero, Int.toNat_one, bne_self_eq_false, Nat.reduceMul, Nat.zero_mul, Nat.mul_one, Nat.one_mul, Nat.reduceSub, Int.cast_ofNat_Int, Int.toNat_natCast]
  refine CallQ.pure 102 (fvalid_ok u hu) rfl ?_
  simp (config := { maxSteps := 2000000 }) only [go_sem, Nat.reduceBEq, Nat.reduceAdd, Nat.reduceLT, Nat.reduceLeDiff, Nat.reduceEqDiff, reduceCtorEq, Int.reduceAdd, Int.reduceSub, Int.reduceNeg, Int.reduceLE, Int.reduceLT, Int.reduceToNat, Int.reduceBEq, Int.reduceBNe, Int.reduceEq, Int.reduceNe, Int.toNat_zero, Int.toNat_one, bne_self_eq_false, Nat.reduceMul, Nat.zero_mul, Nat.mul_one, Nat.one_mul, Nat.reduceSub, Int.cast_ofNat_Int, Int.toNat_natCast]
  refine CallQ.pure 102 hi rfl ?_
  simp (config := { maxSteps := 2000000 }) only [go_sem, Nat.reduceBEq, Nat.reduceAdd, Nat.reduceLT, Nat.reduceLeDiff, Nat.reduceEqDiff, reduceCtorEq, Int.reduceAdd, Int.reduceSub, Int.reduceNeg, Int.reduceLE, Int.reduceLT, Int.reduceToNat, Int.reduceBEq, Int.reduceBNe, Int.reduceEq, Int.reduceNe, Int.toNat_zero, Int.toNat_one, bne_self_eq_false, Nat.reduceMul, Nat.zero_mul, Nat.mul_one, Nat.one_mul, Nat.reduceSub, Int.cast_ofNat_Int, Int.toNat_natCast]
  have e : (t.m == u.m && (t.kg == u.kg && (t.s == u.s && (t.a == u.a && t.k == u.k)))) = false := he
  simp only [e, Bool.not_false]
  exact RetQ.int2 hR rfl ⟨rfl, rfl, trivial⟩ rfl rfl
theorem law_converts (t u : Ft) (raw : Int) : CallOk Try.prog 12 [fx t, fx u, I raw] [] (Bo true) [] := by
  refine CallOk.mk 100 Try.func12 rfl en12 (by simp [Try.ntmps12]) (by simp [ClV, V.g, Cv.g, fx, ra, ci]) fun C hR => ?_
  simp (config := { maxSteps := 2000000 }) only [go_sem, Nat.reduceBEq, Nat.reduceAdd, Nat.reduceLT, Nat.reduceLeDiff, Nat.reduceEqDiff, reduceCtorEq, Int.reduceAdd, Int.reduceSub, Int.reduceNeg, Int.reduceLE, Int.reduceLT, Int.reduceToNat, Int.reduceBEq, Int.reduceBNe, Int.reduceEq, Int.reduceNe, Int.toNat_zero, Int.toNat_one, bne_self_eq_false, Nat.reduceMul, Nat.zero_mul, Nat.mul_one, Nat.one_mul, Nat.reduceSub, Int.cast_ofNat_Int, Int.toNat_natCast]
  refine CallQ.pure 102 awake rfl ?_
  simp (config := { maxSteps := 2000000 }) only [go_sem, Nat.reduceBEq, Nat.reduceAdd, Nat.reduceLT, Nat.reduceLeDiff, Nat.reduceEqDiff, reduceCtorEq, Int.reduceAdd, Int.reduceSub, Int.reduceNeg, Int.reduceLE, Int.reduceLT, Int.reduceToNat, Int.reduceBEq, Int.reduceBNe, Int.reduceEq, Int.reduceNe, Int.toNat_zero, Int.toNat_one, bne_self_eq_false, Nat.reduceMul, Nat.zero_mul, Nat.mul_one, Nat.one_mul, Nat.reduceSub, Int.cast_ofNat_Int, Int.toNat_natCast]
  have hvt := rvalid t
  have hvu := rvalid u
  cases ht : fok t with
  | false =>
    rw [ht] at hvt
    refine CallQ.pure 102 (conv_arg t u raw (.inl ht)) rfl ?_
    simp (config := { maxSteps := 2000000 }) only [go_sem, Nat.reduceBEq, Nat.reduceAdd, Nat.reduceLT, Nat.reduceLeDiff, Nat.reduceEqDiff, reduceCtorEq, Int.reduceAdd, Int.reduceSub, Int.reduceNeg, Int.reduceLE, Int.reduceLT, Int.reduceToNat, Int.reduceBEq, Int.reduceBNe, Int.reduceEq, Int.reduceNe, Int.toNat_zero, Int.toNat_one, bne_self_eq_false, Nat.reduceMul, Nat.zero_mul, Nat.mul_one, Nat.one_mul, Nat.reduceSub, Int.cast_ofNat_Int, Int.toNat_natCast]
    refine CallQ.pure 102 hvt rfl ?_
    simp (config := { maxSteps := 2000000 }) only [go_sem, Nat.reduceBEq, Nat.reduceAdd, Nat.reduceLT, Nat.reduceLeDiff, Nat.reduceEqDiff, reduceCtorEq, Int.reduceAdd, Int.reduceSub, Int.reduceNeg, Int.reduceLE, Int.reduceLT, Int.reduceToNat, Int.reduceBEq, Int.reduceBNe, Int.reduceEq, Int.reduceNe, Int.toNat_zero, Int.toNat_one, bne_self_eq_false, Nat.reduceMul, Nat.zero_mul, Nat.mul_one, Nat.one_mul, Nat.reduceSub, Int.cast_ofNat_Int, Int.toNat_natCast]
    refine CallQ.guard 102 (fun hh => by cases hh) (fun hh => by cases hh) (xs := []) (v := Bo true) ?_
    simp (config := { maxSteps := 2000000 }) only [go_sem, Nat.reduceBEq, Nat.reduceAdd, Nat.reduceLT, Nat.reduceLeDiff, Nat.reduceEqDiff, reduceCtorEq, Int.reduceAdd, Int.reduceSub, Int.reduceNeg, Int.reduceLE, Int.reduceLT, Int.reduceToNat, Int.reduceBEq, Int.reduceBNe, Int.reduceEq, Int.reduceNe, Int.toNat_zero, Int.toNat_one, bne_self_eq_false, Nat.reduceMul, Nat.zero_mul, Nat.mul_one, Nat.one_mul, Nat.reduceSub, Int.cast_ofNat_Int, Int.toNat_natCast]
    exact RetQ.bool hR rfl ⟨rfl, trivial⟩ rfl
  | true =>
    rw [ht] at hvt
    cases hu : fok u with
    | false =>
      rw [hu] at hvu
      refine CallQ.pure 102 (conv_arg t u raw (.inr hu)) rfl ?_
      simp (config := { maxSteps := 2000000 }) only [go_sem, Nat.reduceBEq, Nat.reduceAdd, Nat.reduceLT, Nat.reduceLeDiff, Nat.reduceEqDiff, reduceCtorEq, Int.reduceAdd, Int.reduceSub, Int.reduceNeg, Int.reduceLE, Int.reduceLT, Int.reduceToNat, Int.reduceBEq, Int.reduceBNe, Int.reduceEq, Int.reduceNe, Int.toNat_zero, Int.toNat_one, bne_self_eq_false, Nat.reduceMul, Nat.zero_mul, Nat.mul_one, Nat.one_mul, Nat.reduceSub, Int.cast_ofNat_Int, Int.toNat_natCast]
      refine CallQ.pure 102 hvt rfl ?_
      simp (config := { maxSteps := 2000000 }) only [go_sem, Nat.reduceBEq, Nat.reduceAdd, Nat.reduceLT, Nat.reduceLeDiff, Nat.reduceEqDiff, reduceCtorEq, Int.reduceAdd, Int.reduceSub, Int.reduceNeg, Int.reduceLE, Int.reduceLT, Int.reduceToNat, Int.reduceBEq, Int.reduceBNe, Int.reduceEq, Int.reduceNe, Int.toNat_zero, Int.toNat_one, bne_self_eq_false, Nat.reduceMul, Nat.zero_mul, Nat.mul_one, Nat.one_mul, Nat.reduceSub, Int.cast_ofNat_Int, Int.toNat_natCast]
      refine CallQ.pure 102 hvu rfl ?_
      simp (config := { maxSteps := 2000000 }) only [go_sem, Nat.reduceBEq, Nat.reduceAdd, Nat.reduceLT, Nat.reduceLeDiff, Nat.reduceEqDiff, reduceCtorEq, Int.reduceAdd, Int.reduceSub, Int.reduceNeg, Int.reduceLE, Int.reduceLT, Int.reduceToNat, Int.reduceBEq, Int.reduceBNe, Int.reduceEq, Int.reduceNe, Int.toNat_zero, Int.toNat_one, bne_self_eq_false, Nat.reduceMul, Nat.zero_mul, Nat.mul_one, Nat.one_mul, Nat.reduceSub, Int.cast_ofNat_Int, Int.toNat_natCast]
      exact RetQ.bool hR rfl ⟨rfl, trivial⟩ rfl
    | true =>
      rw [hu] at hvu
      have hwi := rwithin t raw ht
      cases hw : fin t raw with
      | false =>
        rw [hw] at hwi
        refine CallQ.pure 102 (conv_range t u raw ht hu hw) rfl ?_
        simp (config := { maxSteps := 2000000 }) only [go_sem, Nat.reduceBEq, Nat.reduceAdd, Nat.reduceLT, Nat.reduceLeDiff, Nat.reduceEqDiff, reduceCtorEq, Int.reduceAdd, Int.reduceSub, Int.reduceNeg, Int.reduceLE, Int.reduceLT, Int.reduceToNat, Int.reduceBEq, Int.reduceBNe, Int.reduceEq, Int.reduceNe, Int.toNat_zero, Int.toNat_one, bne_self_eq_false, Nat.reduceMul, Nat.zero_mul, Nat.mul_one, Nat.one_mul, Nat.reduceSub, Int.cast_ofNat_Int, Int.toNat_natCast]
        refine CallQ.pure 102 hvt rfl ?_
        simp (config := { maxSteps := 2000000 }) only [go_sem, Nat.reduceBEq, Nat.reduceAdd, Nat.reduceLT, Nat.reduceLeDiff, Nat.reduceEqDiff, reduceCtorEq, Int.reduceAdd, Int.reduceSub, Int.reduceNeg, Int.reduceLE, Int.reduceLT, Int.reduceToNat, Int.reduceBEq, Int.reduceBNe, Int.reduceEq, Int.reduceNe, Int.toNat_zero, Int.toNat_one, bne_self_eq_false, Nat.reduceMul, Nat.zero_mul, Nat.mul_one, Nat.one_mul, Nat.reduceSub, Int.cast_ofNat_Int, Int.toNat_natCast]
        refine CallQ.pure 102 hvu rfl ?_
        simp (config := { maxSteps := 2000000 }) only [go_sem, Nat.reduceBEq, Nat.reduceAdd, Nat.reduceLT, Nat.reduceLeDiff, Nat.reduceEqDiff, reduceCtorEq, Int.reduceAdd, Int.reduceSub, Int.reduceNeg, Int.reduceLE, Int.reduceLT, Int.reduceToNat, Int.reduceBEq, Int.reduceBNe, Int.reduceEq, Int.reduceNe, Int.toNat_zero, Int.toNat_one, bne_self_eq_false, Nat.reduceMul, Nat.zero_mul, Nat.mul_one, Nat.one_mul, Nat.reduceSub, Int.cast_ofNat_Int, Int.toNat_natCast]
        refine CallQ.pure 102 hwi rfl ?_
        simp (config := { maxSteps := 2000000 }) only [go_sem, Nat.reduceBEq, Nat.reduceAdd, Nat.reduceLT, Nat.reduceLeDiff, Nat.reduceEqDiff, reduceCtorEq, Int.reduceAdd, Int.reduceSub, Int.reduceNeg, Int.reduceLE, Int.reduceLT, Int.reduceToNat, Int.reduceBEq, Int.reduceBNe, Int.reduceEq, Int.reduceNe, Int.toNat_zero, Int.toNat_one, bne_self_eq_false, Nat.reduceMul, Nat.zero_mul, Nat.mul_one, Nat.one_mul, Nat.reduceSub, Int.cast_ofNat_Int, Int.toNat_natCast]
        exact RetQ.bool hR rfl ⟨rfl, trivial⟩ rfl
      | true =>
        rw [hw] at hwi
        cases he : uq t u with
        | false =>
          have e : (t.m == u.m && (t.kg == u.kg && (t.s == u.s && (t.a == u.a && t.k == u.k)))) = false := he
          refine CallQ.pure 102 (conv_unit t u raw ht hu hw he) rfl ?_
          simp (config := { maxSteps := 2000000 }) only [go_sem, Nat.reduceBEq, Nat.reduceAdd, Nat.reduceLT, Nat.reduceLeDiff, Nat.reduceEqDiff, reduceCtorEq, Int.reduceAdd, Int.reduceSub, Int.reduceNeg, Int.reduceLE, Int.reduceLT, Int.reduceToNat, Int.reduceBEq, Int.reduceBNe, Int.reduceEq, Int.reduceNe, Int.toNat_zero, Int.toNat_one, bne_self_eq_false, Nat.reduceMul, Nat.zero_mul, Nat.mul_one, Nat.one_mul, Nat.reduceSub, Int.cast_ofNat_Int, Int.toNat_natCast]
          refine CallQ.pure 102 hvt rfl ?_
          simp (config := { maxSteps := 2000000 }) only [go_sem, Nat.reduceBEq, Nat.reduceAdd, Nat.reduceLT, Nat.reduceLeDiff, Nat.reduceEqDiff, reduceCtorEq, Int.reduceAdd, Int.reduceSub, Int.reduceNeg, Int.reduceLE, Int.reduceLT, Int.reduceToNat, Int.reduceBEq, Int.reduceBNe, Int.reduceEq, Int.reduceNe, Int.toNat_zero, Int.toNat_one, bne_self_eq_false, Nat.reduceMul, Nat.zero_mul, Nat.mul_one, Nat.one_mul, Nat.reduceSub, Int.cast_ofNat_Int, Int.toNat_natCast]
          refine CallQ.pure 102 hvu rfl ?_
          simp (config := { maxSteps := 2000000 }) only [go_sem, Nat.reduceBEq, Nat.reduceAdd, Nat.reduceLT, Nat.reduceLeDiff, Nat.reduceEqDiff, reduceCtorEq, Int.reduceAdd, Int.reduceSub, Int.reduceNeg, Int.reduceLE, Int.reduceLT, Int.reduceToNat, Int.reduceBEq, Int.reduceBNe, Int.reduceEq, Int.reduceNe, Int.toNat_zero, Int.toNat_one, bne_self_eq_false, Nat.reduceMul, Nat.zero_mul, Nat.mul_one, Nat.one_mul, Nat.reduceSub, Int.cast_ofNat_Int, Int.toNat_natCast]
          refine CallQ.pure 102 hwi rfl ?_
          simp (config := { maxSteps := 2000000 }) only [go_sem, Nat.reduceBEq, Nat.reduceAdd, Nat.reduceLT, Nat.reduceLeDiff, Nat.reduceEqDiff, reduceCtorEq, Int.reduceAdd, Int.reduceSub, Int.reduceNeg, Int.reduceLE, Int.reduceLT, Int.reduceToNat, Int.reduceBEq, Int.reduceBNe, Int.reduceEq, Int.reduceNe, Int.toNat_zero, Int.toNat_one, bne_self_eq_false, Nat.reduceMul, Nat.zero_mul, Nat.mul_one, Nat.one_mul, Nat.reduceSub, Int.cast_ofNat_Int, Int.toNat_natCast]
          simp only [e, Bool.not_false]
          exact RetQ.bool hR rfl ⟨rfl, trivial⟩ rfl
        | true =>
          have e : (t.m == u.m && (t.kg == u.kg && (t.s == u.s && (t.a == u.a && t.k == u.k)))) = true := he
          have hrb := (back_math ht hw 1 (by omega) (by omega)).2
          have hf := fok_bd ht
          have hd2 : t.den / gcd2 (fnu t raw) t.den ≤ 1099511627776 := by
            have := quo_bd t.den (gcd2 (fnu t raw) t.den) (gcd2_pos _ _ (by omega))
            omega
          have hn := near_any u _ _ hu hrb hd2
          refine CallQ.pure 102 (conv_ok t u raw _ ht hu hw ((uq_iff t u).1 he) hn) rfl ?_
          simp (config := { maxSteps := 2000000 }) only [go_sem, Nat.reduceBEq, Nat.reduceAdd, Nat.reduceLT, Nat.reduceLeDiff, Nat.reduceEqDiff, reduceCtorEq, Int.reduceAdd, Int.reduceSub, Int.reduceNeg, Int.reduceLE, Int.reduceLT, Int.reduceToNat, Int.reduceBEq, Int.reduceBNe, Int.reduceEq, Int.reduceNe, Int.toNat_zero, Int.toNat_one, bne_self_eq_false, Nat.reduceMul, Nat.zero_mul, Nat.mul_one, Nat.one_mul, Nat.reduceSub, Int.cast_ofNat_Int, Int.toNat_natCast]
          refine CallQ.pure 102 hvt rfl ?_
          simp (config := { maxSteps := 2000000 }) only [go_sem, Nat.reduceBEq, Nat.reduceAdd, Nat.reduceLT, Nat.reduceLeDiff, Nat.reduceEqDiff, reduceCtorEq, Int.reduceAdd, Int.reduceSub, Int.reduceNeg, Int.reduceLE, Int.reduceLT, Int.reduceToNat, Int.reduceBEq, Int.reduceBNe, Int.reduceEq, Int.reduceNe, Int.toNat_zero, Int.toNat_one, bne_self_eq_false, Nat.reduceMul, Nat.zero_mul, Nat.mul_one, Nat.one_mul, Nat.reduceSub, Int.cast_ofNat_Int, Int.toNat_natCast]
          refine CallQ.pure 102 hvu rfl ?_
          simp (config := { maxSteps := 2000000 }) only [go_sem, Nat.reduceBEq, Nat.reduceAdd, Nat.reduceLT, Nat.reduceLeDiff, Nat.reduceEqDiff, reduceCtorEq, Int.reduceAdd, Int.reduceSub, Int.reduceNeg, Int.reduceLE, Int.reduceLT, Int.reduceToNat, Int.reduceBEq, Int.reduceBNe, Int.reduceEq, Int.reduceNe, Int.toNat_zero, Int.toNat_one, bne_self_eq_false, Nat.reduceMul, Nat.zero_mul, Nat.mul_one, Nat.one_mul, Nat.reduceSub, Int.cast_ofNat_Int, Int.toNat_natCast]
          refine CallQ.pure 102 hwi rfl ?_
          simp (config := { maxSteps := 2000000 }) only [go_sem, Nat.reduceBEq, Nat.reduceAdd, Nat.reduceLT, Nat.reduceLeDiff, Nat.reduceEqDiff, reduceCtorEq, Int.reduceAdd, Int.reduceSub, Int.reduceNeg, Int.reduceLE, Int.reduceLT, Int.reduceToNat, Int.reduceBEq, Int.reduceBNe, Int.reduceEq, Int.reduceNe, Int.toNat_zero, Int.toNat_one, bne_self_eq_false, Nat.reduceMul, Nat.zero_mul, Nat.mul_one, Nat.one_mul, Nat.reduceSub, Int.cast_ofNat_Int, Int.toNat_natCast]
          simp only [e, Bool.not_true]
          refine Sm.dgo 102 11 mix (by decide +kernel) (by decide +kernel) ?_
          simp (config := { maxSteps := 2000000 }) only [go_sem, Nat.reduceBEq, Nat.reduceAdd, Nat.reduceLT, Nat.reduceLeDiff, Nat.reduceEqDiff, reduceCtorEq, Int.reduceAdd, Int.reduceSub, Int.reduceNeg, Int.reduceLE, Int.reduceLT, Int.reduceToNat, Int.reduceBEq, Int.reduceBNe, Int.reduceEq, Int.reduceNe, Int.toNat_zero, Int.toNat_one, bne_self_eq_false, Nat.reduceMul, Nat.zero_mul, Nat.mul_one, Nat.one_mul, Nat.reduceSub, Int.cast_ofNat_Int, Int.toNat_natCast]
          refine DCallQ.pure 102 (rnumber t raw ht hw) rfl ?_
          simp (config := { maxSteps := 2000000 }) only [go_sem, Nat.reduceBEq, Nat.reduceAdd, Nat.reduceLT, Nat.reduceLeDiff, Nat.reduceEqDiff, reduceCtorEq, Int.reduceAdd, Int.reduceSub, Int.reduceNeg, Int.reduceLE, Int.reduceLT, Int.reduceToNat, Int.reduceBEq, Int.reduceBNe, Int.reduceEq, Int.reduceNe, Int.toNat_zero, Int.toNat_one, bne_self_eq_false, Nat.reduceMul, Nat.zero_mul, Nat.mul_one, Nat.one_mul, Nat.reduceSub, Int.cast_ofNat_Int, Int.toNat_natCast]
          refine DCallQ.pure 102 (rnear u _ _ hu hrb) rfl ?_
          simp (config := { maxSteps := 2000000 }) only [go_sem, Nat.reduceBEq, Nat.reduceAdd, Nat.reduceLT, Nat.reduceLeDiff, Nat.reduceEqDiff, reduceCtorEq, Int.reduceAdd, Int.reduceSub, Int.reduceNeg, Int.reduceLE, Int.reduceLT, Int.reduceToNat, Int.reduceBEq, Int.reduceBNe, Int.reduceEq, Int.reduceNe, Int.toNat_zero, Int.toNat_one, bne_self_eq_false, Nat.reduceMul, Nat.zero_mul, Nat.mul_one, Nat.one_mul, Nat.reduceSub, Int.cast_ofNat_Int, Int.toNat_natCast]
          exact RetQ.bool hR rfl ⟨rfl, trivial⟩ rfl
end Go.Proofs.Ytnolflocgodffaa
