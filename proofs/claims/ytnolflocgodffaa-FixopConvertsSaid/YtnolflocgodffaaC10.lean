/- FixedRounds. -/
import Derived.Test.YtnolflocgodffaaC9
namespace Go.Proofs.Ytnolflocgodffaa
open Vg Tf
set_option linter.unusedSimpArgs false
set_option linter.unusedVariables false
set_option maxRecDepth 100000
theorem raw_arg (t : Ft) (n d m : Int) (h : fok t = false) : CallOk Try.prog 39 [fx t, ra n d, I m] [] (.tup [Wi 0, Wi 1]) [] := by
  refine CallOk.mk 100 Try.func39 rfl en39 (by simp [Try.ntmps39]) (by simp [ClV, V.g, Cv.g, fx, ra, ci]) fun C hR => ?_
  have hv := fvalid t
  rw [h] at hv
  simp (config := { maxSteps := 2000000 }) only [go_sem, Nat.reduceBEq, Nat.reduceAdd, Nat.reduceLT, Nat.reduceLeDiff, Nat.reduceEqDiff, reduceCtorEq, Int.reduceAdd, Int.reduceSub, Int.reduceNeg, Int.reduceLE, Int.reduceLT, Int.reduceToNat, Int.reduceBEq, Int.reduceBNe, Int.reduceEq, Int.reduceNe, Int.toNat_zero, Int.toNat_one, bne_self_eq_false, Nat.reduceMul, Nat.zero_mul, Nat.mul_one, Nat.one_mul, Nat.reduceSub, Int.cast_ofNat_Int, Int.toNat_natCast]
  refine CallQ.pure 102 hv rfl ?_
  simp (config := { maxSteps := 2000000 }) only [go_sem, Nat.reduceBEq, Nat.reduceAdd, Nat.reduceLT, Nat.reduceLeDiff, Nat.reduceEqDiff, reduceCtorEq, Int.reduceAdd, Int.reduceSub, Int.reduceNeg, Int.reduceLE, Int.reduceLT, Int.reduceToNat, Int.reduceBEq, Int.reduceBNe, Int.reduceEq, Int.reduceNe, Int.toNat_zero, Int.toNat_one, bne_self_eq_false, Nat.reduceMul, Nat.zero_mul, Nat.mul_one, Nat.one_mul, Nat.reduceSub, Int.cast_ofNat_Int, Int.toNat_natCast]
  refine CallQ.guard 102 (fun h => by cases h) (fun h => by cases h) (v := Bo true) (xs := []) ?_
  simp (config := { maxSteps := 2000000 }) only [go_sem, Nat.reduceBEq, Nat.reduceAdd, Nat.reduceLT, Nat.reduceLeDiff, Nat.reduceEqDiff, reduceCtorEq, Int.reduceAdd, Int.reduceSub, Int.reduceNeg, Int.reduceLE, Int.reduceLT, Int.reduceToNat, Int.reduceBEq, Int.reduceBNe, Int.reduceEq, Int.reduceNe, Int.toNat_zero, Int.toNat_one, bne_self_eq_false, Nat.reduceMul, Nat.zero_mul, Nat.mul_one, Nat.one_mul, Nat.reduceSub, Int.cast_ofNat_Int, Int.toNat_natCast]
  exact RetQ.int2 hR rfl ⟨rfl, rfl, trivial⟩ rfl rfl
theorem small_mid {t : Ft} {n d : Int} (h : fok t = true) (hd : 1 ≤ d) (hd2 : d ≤ 1048576) (hn1 : -1048576 ≤ n) (hn2 : n ≤ 1048576) : n / d ≤ 1152921504606846976 / t.den ∧ -(1152921504606846976 / t.den) ≤ n / d := by
  have hf := fok_bd h
  have q := quo_bd n d (by omega)
  have : 1099511627776 ≤ 1152921504606846976 / t.den := Int.le_ediv_of_mul_le (by omega) (by omega)
  omega
theorem raw_sm (t : Ft) (n d m : Int) (hd : 1 ≤ d) (hd2 : d ≤ 1048576) (hn1 : -1048576 ≤ n) (hn2 : n ≤ 1048576) (hm : 1 ≤ m) (hm3 : m ≤ 3) :
    ∃ x e : Int, CallOk Try.prog 39 [fx t, ra n d, I m] [] (.tup [Wi x, Wi e]) [] ∧ (e = 0 → fok t = true ∧ fin t x = true ∧ x = rnd m (n * t.den - t.off * d) (d * t.num)) := by
  cases h : fok t with
  | false => exact ⟨0, 1, raw_arg t n d m h, fun h => by omega⟩
  | true =>
    obtain ⟨g1, g2⟩ := small_mid h hd hd2 hn1 hn2
    have hx := exact_mid t n d m h hd (by omega) (by omega) (by omega) hm hm3 g1 g2
    have hc := raw_ok t n d m _ h (by unfold rok; omega) hm hm3 hx
    cases hw : fin t (rnd m (n * t.den - t.off * d) (d * t.num)) with
    | false =>
      rw [hw] at hc
      exact ⟨0, 2, hc, fun h => by omega⟩
    | true =>
      rw [hw] at hc
      exact ⟨_, 0, hc, fun _ => ⟨rfl, hw, rfl⟩⟩
theorem num_cmp2 {t : Ft} {x n d : Int} (h : fok t = true) (hx : fin t x = true) :
    cmpF (fnu t x / gcd2 (fnu t x) t.den * d) (n * (t.den / gcd2 (fnu t x) t.den)) = cmpF (x * (d * t.num)) (n * t.den - t.off * d) := by
  have hf := fok_bd h
  have g1 := gcd2_pos (fnu t x) t.den (by omega)
  obtain ⟨a1, a2⟩ := gcd2_dvd (fnu t x) t.den
  have m1 := Int.ediv_mul_cancel a1
  have m2 := Int.ediv_mul_cancel a2
  generalize gcd2 (fnu t x) t.den = gx at *
  generalize fnu t x / gx = n1 at *
  generalize t.den / gx = d1 at *
  rw [← cmpF_mul g1]
  refine cmpF_congr ?_
  rw [show n1 * d * gx = (n1 * gx) * d by grind, show n * d1 * gx = n * (d1 * gx) by grind, m1, m2]
  unfold fnu
  grind
theorem law_rounds (t : Ft) (n d : Int) : CallOk Try.prog 15 [fx t, ra n d] [] (Bo true) [] := by
  refine CallOk.mk 100 Try.func15 rfl en15 (by simp [Try.ntmps15]) (by simp [ClV, V.g, Cv.g, fx, ra, ci]) fun C hR => ?_
  simp (config := { maxSteps := 2000000 }) only [go_sem, Nat.reduceBEq, Nat.reduceAdd, Nat.reduceLT, Nat.reduceLeDiff, Nat.reduceEqDiff, reduceCtorEq, Int.reduceAdd, Int.reduceSub, Int.reduceNeg, Int.reduceLE, Int.reduceLT, Int.reduceToNat, Int.reduceBEq, Int.reduceBNe, Int.reduceEq, Int.reduceNe, Int.toNat_zero, Int.toNat_one, bne_self_eq_false, Nat.reduceMul, Nat.zero_mul, Nat.mul_one, Nat.one_mul, Nat.reduceSub, Int.cast_ofNat_Int, Int.toNat_natCast]
  refine CallQ.pure 102 awake rfl ?_
  simp (config := { maxSteps := 2000000 }) only [go_sem, Nat.reduceBEq, Nat.reduceAdd, Nat.reduceLT, Nat.reduceLeDiff, Nat.reduceEqDiff, reduceCtorEq, Int.reduceAdd, Int.reduceSub, Int.reduceNeg, Int.reduceLE, Int.reduceLT, Int.reduceToNat, Int.reduceBEq, Int.reduceBNe, Int.reduceEq, Int.reduceNe, Int.toNat_zero, Int.toNat_one, bne_self_eq_false, Nat.reduceMul, Nat.zero_mul, Nat.mul_one, Nat.one_mul, Nat.reduceSub, Int.cast_ofNat_Int, Int.toNat_natCast]
  by_cases hr : (1 ≤ d ∧ d ≤ 1048576) ∧ (-1048576 ≤ n ∧ n ≤ 1048576)
  · have b1 : decide (d < 1) = false := by simp; omega
    have b2 : decide (1048576 < d) = false := by simp; omega
    have b3 : decide (n < -1048576) = false := by simp; omega
    have b4 : decide (1048576 < n) = false := by simp; omega
    simp only [b1, b2, b3, b4, cond_false]
    obtain ⟨x1, e1, c1, z1⟩ := raw_sm t n d 1 (by omega) (by omega) (by omega) (by omega) (by omega) (by omega)
    obtain ⟨x2, e2, c2, z2⟩ := raw_sm t n d 2 (by omega) (by omega) (by omega) (by omega) (by omega) (by omega)
    obtain ⟨x3, e3, c3, z3⟩ := raw_sm t n d 3 (by omega) (by omega) (by omega) (by omega) (by omega) (by omega)
    refine CallQ.pure 102 c1 rfl ?_
    simp (config := { maxSteps := 2000000 }) only [go_sem, Nat.reduceBEq, Nat.reduceAdd, Nat.reduceLT, Nat.reduceLeDiff, Nat.reduceEqDiff, reduceCtorEq, Int.reduceAdd, Int.reduceSub, Int.reduceNeg, Int.reduceLE, Int.reduceLT, Int.reduceToNat, Int.reduceBEq, Int.reduceBNe, Int.reduceEq, Int.reduceNe, Int.toNat_zero, Int.toNat_one, bne_self_eq_false, Nat.reduceMul, Nat.zero_mul, Nat.mul_one, Nat.one_mul, Nat.reduceSub, Int.cast_ofNat_Int, Int.toNat_natCast]
    refine CallQ.pure 102 c2 rfl ?_
    simp (config := { maxSteps := 2000000 }) only [go_sem, Nat.reduceBEq, Nat.reduceAdd, Nat.reduceLT, Nat.reduceLeDiff, Nat.reduceEqDiff, reduceCtorEq, Int.reduceAdd, Int.reduceSub, Int.reduceNeg, Int.reduceLE, Int.reduceLT, Int.reduceToNat, Int.reduceBEq, Int.reduceBNe, Int.reduceEq, Int.reduceNe, Int.toNat_zero, Int.toNat_one, bne_self_eq_false, Nat.reduceMul, Nat.zero_mul, Nat.mul_one, Nat.one_mul, Nat.reduceSub, Int.cast_ofNat_Int, Int.toNat_natCast]
    refine CallQ.pure 102 c3 rfl ?_
    simp (config := { maxSteps := 2000000 }) only [go_sem, Nat.reduceBEq, Nat.reduceAdd, Nat.reduceLT, Nat.reduceLeDiff, Nat.reduceEqDiff, reduceCtorEq, Int.reduceAdd, Int.reduceSub, Int.reduceNeg, Int.reduceLE, Int.reduceLT, Int.reduceToNat, Int.reduceBEq, Int.reduceBNe, Int.reduceEq, Int.reduceNe, Int.toNat_zero, Int.toNat_one, bne_self_eq_false, Nat.reduceMul, Nat.zero_mul, Nat.mul_one, Nat.one_mul, Nat.reduceSub, Int.cast_ofNat_Int, Int.toNat_natCast]
    by_cases he : e1 = 0 ∧ e2 = 0 ∧ e3 = 0
    · obtain ⟨rfl, rfl, rfl⟩ := he
      simp only [bne_self_eq_false, cond_false, Bool.not_false]
      obtain ⟨hk, w1, v1⟩ := z1 rfl
      obtain ⟨_, w2, v2⟩ := z2 rfl
      obtain ⟨_, w3, v3⟩ := z3 rfl
      have hf := fok_bd hk
      have i1 := fin_bd hk w1
      have i2 := fin_bd hk w2
      have r1 := (back_math hk w1 1 (by omega) (by omega)).2
      have r2 := (back_math hk w2 1 (by omega) (by omega)).2
      have rr : rok n d := by unfold rok; omega
      have q1 := compare_ok _ _ n d r1 rr
      rw [num_cmp2 hk w1] at q1
      have q2 := compare_ok _ _ n d r2 rr
      rw [num_cmp2 hk w2] at q2
      have hY : 0 < d * t.num := Int.mul_pos (by omega) (by omega)
      have hYb := mul_bd (a := d) (b := t.num) (A := 1048576) (B := 1048576) (by omega) (by omega) (by omega) (by omega)
      rw [rnd_pos _ _ _ hY] at v1 v2 v3
      have o1 := Int.mul_ediv_add_emod (n * t.den - t.off * d) (d * t.num)
      have o2 := Int.emod_nonneg (n * t.den - t.off * d) (show d * t.num ≠ 0 by omega)
      have o3 := Int.emod_lt_of_pos (n * t.den - t.off * d) hY
      have nb := mul_bd (a := n) (b := t.den) (A := 1048576) (B := 1048576) (by omega) (by omega) (by omega) (by omega)
      have ob := mul_bd (a := t.off) (b := d) (A := 1073741824) (B := 1048576) (by omega) (by omega) (by omega) (by omega)
      have dxb := mul_bd (a := 2 * x1) (b := d) (A := 8589934592) (B := 1048576) (by omega) (by omega) (by omega) (by omega)
      have dxe : 2 * x1 * d * t.num = 2 * (d * t.num * x1) := by grind
      simp only [Int.reduceBEq, cond_false, cond_true, decide_eq_true_eq, Bool.false_eq_true, if_false, Int.add_zero] at v1 v2 v3
      rw [← v1] at o1 v2 v3
      have k1 : IntKind.i64.wrap (n * t.den) = n * t.den := w64 (by omega) (by omega)
      have k2 : IntKind.i64.wrap (t.off * d) = t.off * d := w64 (by omega) (by omega)
      have k3 : IntKind.i64.wrap (n * t.den - t.off * d) = n * t.den - t.off * d := w64 (by omega) (by omega)
      have k4 : IntKind.i64.wrap (2 * (n * t.den - t.off * d)) = 2 * (n * t.den - t.off * d) := w64 (by omega) (by omega)
      have k5 : IntKind.i64.wrap (2 * x1) = 2 * x1 := w64 (by omega) (by omega)
      have k6 : IntKind.i64.wrap (2 * x1 * d) = 2 * x1 * d := w64 (by omega) (by omega)
      have k7 : IntKind.i64.wrap (2 * x1 * d * t.num) = 2 * x1 * d * t.num := by rw [dxe]; exact w64 (by omega) (by omega)
      have k8 : IntKind.i64.wrap (2 * (n * t.den - t.off * d) - 2 * x1 * d * t.num) = 2 * ((n * t.den - t.off * d) % (d * t.num)) := by
        rw [w64 (by omega) (by omega)]; omega
      have k9 : IntKind.i64.wrap (d * t.num) = d * t.num := w64 (by omega) (by omega)
      have k10 : IntKind.i64.wrap (x1 + 1) = x1 + 1 := w64 (by omega) (by omega)
      have y1 : x1 * (d * t.num) = d * t.num * x1 := Int.mul_comm _ _
      have y2 : (x1 + 1) * (d * t.num) = d * t.num * x1 + d * t.num := by grind
      refine CallQ.pure 103 (number_ok t x1 hk w1) rfl ?_
      simp (config := { maxSteps := 2000000 }) only [go_sem, Nat.reduceBEq, Nat.reduceAdd, Nat.reduceLT, Nat.reduceLeDiff, Nat.reduceEqDiff, reduceCtorEq, Int.reduceAdd, Int.reduceSub, Int.reduceNeg, Int.reduceLE, Int.reduceLT, Int.reduceToNat, Int.reduceBEq, Int.reduceBNe, Int.reduceEq, Int.reduceNe, Int.toNat_zero, Int.toNat_one, bne_self_eq_false, Nat.reduceMul, Nat.zero_mul, Nat.mul_one, Nat.one_mul, Nat.reduceSub, Int.cast_ofNat_Int, Int.toNat_natCast]
      refine CallQ.pure 104 (number_ok t x2 hk w2) rfl ?_
      simp (config := { maxSteps := 2000000 }) only [go_sem, Nat.reduceBEq, Nat.reduceAdd, Nat.reduceLT, Nat.reduceLeDiff, Nat.reduceEqDiff, reduceCtorEq, Int.reduceAdd, Int.reduceSub, Int.reduceNeg, Int.reduceLE, Int.reduceLT, Int.reduceToNat, Int.reduceBEq, Int.reduceBNe, Int.reduceEq, Int.reduceNe, Int.toNat_zero, Int.toNat_one, bne_self_eq_false, Nat.reduceMul, Nat.zero_mul, Nat.mul_one, Nat.one_mul, Nat.reduceSub, Int.cast_ofNat_Int, Int.toNat_natCast]
      refine CallQ.pure 104 q1 rfl ?_
      simp (config := { maxSteps := 2000000 }) only [go_sem, Nat.reduceBEq, Nat.reduceAdd, Nat.reduceLT, Nat.reduceLeDiff, Nat.reduceEqDiff, reduceCtorEq, Int.reduceAdd, Int.reduceSub, Int.reduceNeg, Int.reduceLE, Int.reduceLT, Int.reduceToNat, Int.reduceBEq, Int.reduceBNe, Int.reduceEq, Int.reduceNe, Int.toNat_zero, Int.toNat_one, bne_self_eq_false, Nat.reduceMul, Nat.zero_mul, Nat.mul_one, Nat.one_mul, Nat.reduceSub, Int.cast_ofNat_Int, Int.toNat_natCast]
      have p1 : decide (0 < cmpF (x1 * (d * t.num)) (n * t.den - t.off * d)) = false := by
        simp only [decide_eq_false_iff_not]
        unfold cmpF; split <;> (try split) <;> omega
      simp only [p1, cond_false, Bool.not_false]
      by_cases hz : 0 < (n * t.den - t.off * d) % (d * t.num)
      · rw [if_pos hz] at v2
        subst v2
        have p2 : decide (cmpF ((x1 + 1) * (d * t.num)) (n * t.den - t.off * d) < 0) = false := by
          simp only [decide_eq_false_iff_not]
          unfold cmpF; split <;> (try split) <;> omega
        have p3 : decide (x1 + 1 < x1) = false := by simp only [decide_eq_false_iff_not]; omega
        have p4 : decide (x1 + 1 < x1 + 1) = false := by simp only [decide_eq_false_iff_not]; omega
        have p5 : (x1 + 1 != x1) = true := by simp only [bne_iff_ne, ne_eq]; omega
        have p6 : (x1 + 1 == x1) = false := by simp only [beq_eq_false_iff_ne, ne_eq]; omega
        have p7 : (x1 == x1 + 1) = false := by simp only [beq_eq_false_iff_ne, ne_eq]; omega
        refine CallQ.pure 104 q2 rfl ?_
        simp (config := { maxSteps := 2000000 }) only [go_sem, Nat.reduceBEq, Nat.reduceAdd, Nat.reduceLT, Nat.reduceLeDiff, Nat.reduceEqDiff, reduceCtorEq, Int.reduceAdd, Int.reduceSub, Int.reduceNeg, Int.reduceLE, Int.reduceLT, Int.reduceToNat, Int.reduceBEq, Int.reduceBNe, Int.reduceEq, Int.reduceNe, Int.toNat_zero, Int.toNat_one, bne_self_eq_false, Nat.reduceMul, Nat.zero_mul, Nat.mul_one, Nat.one_mul, Nat.reduceSub, Int.cast_ofNat_Int, Int.toNat_natCast]
        by_cases hc : d * t.num ≤ 2 * ((n * t.den - t.off * d) % (d * t.num))
        · rw [if_pos hc] at v3
          subst v3
          have p8 : decide (d * t.num ≤ 2 * ((n * t.den - t.off * d) % (d * t.num))) = true := by simpa using hc
          simp only [p2, p3, p4, p5, p6, p7, k1, k2, k3, k4, k5, k6, k7, k8, k9, k10, p8, cond_false, cond_true, bne_self_eq_false, beq_self_eq_true, Bool.not_false, Bool.true_and, implies_true, true_and, and_self]
          exact RetQ.bool hR rfl ⟨rfl, trivial⟩ rfl
        · rw [if_neg hc, Int.add_zero] at v3
          simp only [v3]
          have p8 : decide (d * t.num ≤ 2 * ((n * t.den - t.off * d) % (d * t.num))) = false := by simpa using hc
          simp only [p2, p3, p4, p5, p6, p7, k1, k2, k3, k4, k5, k6, k7, k8, k9, k10, p8, cond_false, cond_true, bne_self_eq_false, beq_self_eq_true, Bool.not_false, Bool.true_and, implies_true, true_and, and_self]
          refine ⟨fun _ h => h, ?_⟩
          exact RetQ.bool hR rfl ⟨rfl, trivial⟩ rfl
      · rw [if_neg hz, Int.add_zero] at v2
        rw [if_neg (by omega), Int.add_zero] at v3
        simp only [v2, v3]
        have ev : cmpF (x1 * (d * t.num)) (n * t.den - t.off * d) = 0 := by
          unfold cmpF; split <;> (try split) <;> omega
        rw [ev] at q1
        refine CallQ.pure 104 q1 rfl ?_
        simp (config := { maxSteps := 2000000 }) only [go_sem, Nat.reduceBEq, Nat.reduceAdd, Nat.reduceLT, Nat.reduceLeDiff, Nat.reduceEqDiff, reduceCtorEq, Int.reduceAdd, Int.reduceSub, Int.reduceNeg, Int.reduceLE, Int.reduceLT, Int.reduceToNat, Int.reduceBEq, Int.reduceBNe, Int.reduceEq, Int.reduceNe, Int.toNat_zero, Int.toNat_one, bne_self_eq_false, Nat.reduceMul, Nat.zero_mul, Nat.mul_one, Nat.one_mul, Nat.reduceSub, Int.cast_ofNat_Int, Int.toNat_natCast]
        have p3 : decide (x1 < x1) = false := by simp only [decide_eq_false_iff_not]; omega
        have p4 : decide (x1 + 1 < x1) = false := by simp only [decide_eq_false_iff_not]; omega
        simp only [p3, p4, k10, cond_false, cond_true, bne_self_eq_false, beq_self_eq_true, Bool.not_false, Bool.true_and, implies_true, true_and, and_self]
        refine CallQ.pure 104 q1 rfl ?_
        simp (config := { maxSteps := 2000000 }) only [go_sem, Nat.reduceBEq, Nat.reduceAdd, Nat.reduceLT, Nat.reduceLeDiff, Nat.reduceEqDiff, reduceCtorEq, Int.reduceAdd, Int.reduceSub, Int.reduceNeg, Int.reduceLE, Int.reduceLT, Int.reduceToNat, Int.reduceBEq, Int.reduceBNe, Int.reduceEq, Int.reduceNe, Int.toNat_zero, Int.toNat_one, bne_self_eq_false, Nat.reduceMul, Nat.zero_mul, Nat.mul_one, Nat.one_mul, Nat.reduceSub, Int.cast_ofNat_Int, Int.toNat_natCast]
        exact RetQ.bool hR rfl ⟨rfl, trivial⟩ rfl
    · have eb : (bif bif e1 != 0 then true else e2 != 0 then true else e3 != 0) = true := by
        rw [bor_, bor_]; simp; omega
      simp only [eb]
      exact RetQ.bool hR rfl ⟨rfl, trivial⟩ rfl
  · have eb : (bif bif bif decide (d < 1) then true else decide (1048576 < d) then true else decide (n < -1048576) then true else decide (1048576 < n)) = true := by
      rw [bor_, bor_, bor_]; simp; omega
    simp only [eb]
    exact RetQ.bool hR rfl ⟨rfl, trivial⟩ rfl
end Go.Proofs.Ytnolflocgodffaa
