/- FixopPlain. -/
import Derived.Test.YtnolflocgodffaaE2
import Derived.Test.YtnolflocgodffaaF3
namespace Go.Proofs.Ytnolflocgodffaa
open Vg Tf
set_option linter.unusedSimpArgs false
set_option linter.unusedVariables false
set_option maxRecDepth 100000
theorem divF (a c : Int) (h1 : -9223372036854775808 ≤ a) (h2 : a ≤ 9223372036854775807) (hc : 0 < c) (hc2 : c ≤ 9223372036854775807) : CallOk Try.prog 53 [I a, I c, I 3] [] (.tup [Wi (rnd 3 a c), Wi 0]) [] := by
  have hm := muldivF a 1 c 3 h1 h2 (by omega) (by omega) hc hc2 (by omega) (by omega)
  rw [Int.mul_one] at hm
  have hf : fit64 (rnd 3 a c) = true := by
    unfold rnd
    simp only [Int.reduceEq, if_false]
    have b1 : 0 ≤ a → a ≤ a * c := fun h => by have := Int.mul_le_mul_of_nonneg_left (show 1 ≤ c by omega) h; omega
    have b2 : a < 0 → a * c ≤ a := fun h => by have := Int.mul_le_mul_of_nonneg_left (show 1 ≤ c by omega) (show 0 ≤ -a by omega); rw [Int.neg_mul, Int.neg_mul] at this; omega
    have e : a * (2 * c) = 2 * (a * c) := by grind
    have e' : (a + 1) * (2 * c) = 2 * (a * c) + 2 * c := by grind
    refine fit_yes ?_ ?_
    · rcases Int.lt_or_le a 0 with h | h
      · have : a ≤ (2 * a + c) / (2 * c) := (Int.le_ediv_iff_mul_le (by omega)).2 (by have := b2 h; omega)
        omega
      · have : 0 ≤ (2 * a + c) / (2 * c) := Int.ediv_nonneg (by omega) (by omega)
        omega
    · rcases Int.lt_or_le a 0 with h | h
      · have : (2 * a + c) / (2 * c) < 1 := (Int.ediv_lt_iff_lt_mul (by omega)).2 (by omega)
        omega
      · have : (2 * a + c) / (2 * c) < a + 1 := (Int.ediv_lt_iff_lt_mul (by omega)).2 (by have := b1 h; omega)
        omega
  rw [hf] at hm
  refine CallOk.mk 100 Try.func53 rfl en53 (by simp [Try.ntmps53]) (by simp [ClV, V.g, Cv.g]) fun C hR => ?_
  simp (config := { maxSteps := 2000000 }) only [go_sem, Nat.reduceBEq, Nat.reduceAdd, Nat.reduceLT, Nat.reduceLeDiff, Nat.reduceEqDiff, reduceCtorEq, Int.reduceAdd, Int.reduceSub, Int.reduceNeg, Int.reduceLE, Int.reduceLT, Int.reduceToNat, Int.reduceBEq, Int.reduceBNe, Int.reduceEq, Int.reduceNe, Int.toNat_zero, Int.toNat_one, bne_self_eq_false, Nat.reduceMul, Nat.zero_mul, Nat.mul_one, Nat.one_mul, Nat.reduceSub, Int.cast_ofNat_Int, Int.toNat_natCast]
  refine CallQ.pure 100 hm rfl ?_
  simp (config := { maxSteps := 2000000 }) only [go_sem, Nat.reduceBEq, Nat.reduceAdd, Nat.reduceLT, Nat.reduceLeDiff, Nat.reduceEqDiff, reduceCtorEq, Int.reduceAdd, Int.reduceSub, Int.reduceNeg, Int.reduceLE, Int.reduceLT, Int.reduceToNat, Int.reduceBEq, Int.reduceBNe, Int.reduceEq, Int.reduceNe, Int.toNat_zero, Int.toNat_one, bne_self_eq_false, Nat.reduceMul, Nat.zero_mul, Nat.mul_one, Nat.one_mul, Nat.reduceSub, Int.cast_ofNat_Int, Int.toNat_natCast]
  exact RetQ.int2 hR rfl ⟨rfl, rfl, trivial⟩ rfl rfl
def pl (B : Int) (sg : Bool) (P : Int) : Ft := ⟨B, sg, 1, 0, P, 0, 0, 0, 0, 0⟩
theorem rnd_one (X Y : Int) (hY : 0 < Y) : rnd 3 (X * Y) Y = X := by
  have h := rnd_scale X 1 Y hY
  rw [Int.mul_one, Int.mul_comm] at h
  rw [h]
  unfold rnd
  simp only [Int.reduceEq, if_false]
  omega
theorem law_plain (a b sh bi : Int) (sg : Bool) (ha : -2147483648 ≤ a ∧ a ≤ 2147483647) (hb : -2147483648 ≤ b ∧ b ≤ 2147483647) (hs : 0 ≤ sh ∧ sh ≤ 255) (hi : 0 ≤ bi ∧ bi ≤ 255) :
    CallOk Try.prog 17 [.c (.v (.int .i32 a)), .c (.v (.int .i32 b)), .c (.v (.int .u8 sh)), .c (.v (.int .u8 bi)), Bo sg] [] (Bo true) [] := by
  obtain ⟨k, hk, hk20⟩ : ∃ k : Nat, (IntKind.i64.wrap sh).tmod 21 = k ∧ k ≤ 20 := by
    refine ⟨(sh % 21).toNat, ?_, by omega⟩
    rw [w64 (by omega) (by omega), Int.tmod_eq_emod_of_nonneg hs.1]; omega
  obtain ⟨j, hj, hj2⟩ : ∃ j : Nat, (IntKind.i64.wrap bi).tmod 3 = j ∧ j ≤ 2 := by
    refine ⟨(bi % 3).toNat, ?_, by omega⟩
    rw [w64 (by omega) (by omega), Int.tmod_eq_emod_of_nonneg hi.1]; omega
  have wa : IntKind.i64.wrap a = a := w64 (by omega) (by omega)
  have wb : IntKind.i64.wrap b = b := w64 (by omega) (by omega)
  have mk : min k 64 = k := by omega
  have mj : min j 64 = j := by omega
  obtain ⟨P, hP, p1, p2⟩ : ∃ P : Int, IntKind.i64.wrap (1 * 2 ^ k) = P ∧ 1 ≤ P ∧ P ≤ 1048576 := by
    have p1 : (1 : Int) ≤ 2 ^ k := by have := (Int.pow_pos (by omega) : (0 : Int) < 2 ^ k); omega
    have p2 : (2 : Int) ^ k ≤ 1048576 := by
      have := Nat.pow_le_pow_right (n := 2) (by omega) hk20
      have e : ((2 ^ k : Nat) : Int) = (2 : Int) ^ k := by simp
      omega
    exact ⟨2 ^ k, by rw [Int.one_mul]; exact w64 (by omega) (by omega), p1, p2⟩
  obtain ⟨B, hB, hB3⟩ : ∃ B : Int, IntKind.i64.wrap (8 * 2 ^ j) = B ∧ (B = 8 ∨ B = 16 ∨ B = 32) := by
    rcases (show j = 0 ∨ j = 1 ∨ j = 2 by omega) with rfl | rfl | rfl
    · exact ⟨8, w64 (by omega) (by omega), by omega⟩
    · exact ⟨16, w64 (by omega) (by omega), by omega⟩
    · exact ⟨32, w64 (by omega) (by omega), by omega⟩
  have ht : fok (pl B sg P) = true := by
    rw [fok, Bool.and_eq_true, Bool.and_eq_true, Bool.and_eq_true, Bool.and_eq_true, decide_eq_true_eq, decide_eq_true_eq, decide_eq_true_eq, decide_eq_true_eq]
    simp only [pl]
    exact ⟨⟨⟨⟨hB3, by omega, by omega⟩, p1, p2⟩, by omega, by omega⟩, rfl⟩
  have hl := flo_bd _ ht
  obtain ⟨x, hx, x1, x2, x3, x4⟩ : ∃ x, min (max a (flo (pl B sg P))) (fhi (pl B sg P)) = x ∧ -2147483648 ≤ x ∧ x ≤ 2147483647 ∧ flo (pl B sg P) ≤ x ∧ x ≤ fhi (pl B sg P) := ⟨_, rfl, by omega, by omega, by omega, by omega⟩
  obtain ⟨y, hy, y1, y2, y3, y4⟩ : ∃ y, min (max b (flo (pl B sg P))) (fhi (pl B sg P)) = y ∧ -2147483648 ≤ y ∧ y ≤ 2147483647 ∧ flo (pl B sg P) ≤ y ∧ y ≤ fhi (pl B sg P) := ⟨_, rfl, by omega, by omega, by omega, by omega⟩
  have fx1 : fin (pl B sg P) x = true := by simp [fin]; omega
  have fy1 : fin (pl B sg P) y = true := by simp [fin]; omega
  have hxy := bd_mul (a := x) (b := y) (A := 2147483648) (B := 2147483648) (by omega) (by omega) (by omega) (by omega)
  have wxy : IntKind.i64.wrap (x * y) = x * y := w64 (by omega) (by omega)
  have wad : IntKind.i64.wrap (x + y) = x + y := w64 (by omega) (by omega)
  have e1 : oErr 1 (pl B sg P) x (pl B sg P) y (pl B sg P) = 0 := by
    rw [oErr, if_neg (by simp [ht, fx1, fy1]), if_neg (by simp [ufit]), if_neg (by omega)]
  have e3 : oErr 3 (pl B sg P) x (pl B sg P) y (pl B sg P) = 0 := by
    rw [oErr, if_neg (by simp [ht, fx1, fy1]), if_neg (by simp [ufit, pl]), if_neg (by omega)]
  have q1 : fnu (pl B sg P) x = x := by simp [fnu, pl]
  have q2 : fnu (pl B sg P) y = y := by simp [fnu, pl]
  have r1 : oRaw 1 (pl B sg P) x (pl B sg P) y (pl B sg P) = min (max (x + y) (flo (pl B sg P))) (fhi (pl B sg P)) := by
    rw [oRaw, q1, q2, fixR]
    congr 2
    simp only [cN, cD, pl, if_true, true_or]
    rw [show (x * P + y * P) * P - 0 * (P * P) = (x + y) * (P * P) by grind, Int.mul_one, rnd_one _ _ (Int.mul_pos (by omega) (by omega))]
  have r3 : oRaw 3 (pl B sg P) x (pl B sg P) y (pl B sg P) = min (max (rnd 3 (x * y) P) (flo (pl B sg P))) (fhi (pl B sg P)) := by
    rw [oRaw, q1, q2, fixR]
    congr 2
    simp only [cN, cD, pl, if_true, or_true, Int.reduceEq, if_false]
    rw [show (x * y) * P - 0 * (P * P) = P * (x * y) by grind, Int.mul_one, rnd_scale _ _ _ (by omega)]
  have c1 := fadd (pl B sg P) x (pl B sg P) y (pl B sg P)
  rw [oT, oR, if_pos e1, if_pos e1, e1, r1] at c1
  have c3 := fmul (pl B sg P) x (pl B sg P) y (pl B sg P)
  rw [oT, oR, if_pos e3, if_pos e3, e3, r3] at c3
  have c0 := limits (pl B sg P) ht
  have c4 := divF (x * y) P (by omega) (by omega) (by omega) (by omega)
  have k0 : (0 : Int) ≤ k := by omega
  clear e1 e3 q1 q2 r1 r3 fx1 fy1 ht
  generalize flo (pl B sg P) = lo at *
  generalize fhi (pl B sg P) = hi at *
  generalize rnd 3 (x * y) P = n at *
  refine CallOk.mk 100 Try.func17 rfl en17 (by simp [Try.ntmps17]) (by simp [ClV, V.g, Cv.g, va, fx, ci]) fun C hR => ?_
  simp (config := { maxSteps := 2000000 }) only [go_sem, Nat.reduceBEq, Nat.reduceAdd, Nat.reduceLT, Nat.reduceLeDiff, Nat.reduceEqDiff, reduceCtorEq, Int.reduceAdd, Int.reduceSub, Int.reduceNeg, Int.reduceLE, Int.reduceLT, Int.reduceToNat, Int.reduceBEq, Int.reduceBNe, Int.reduceEq, Int.reduceNe, Int.toNat_zero, Int.toNat_one, bne_self_eq_false, Nat.reduceMul, Nat.zero_mul, Nat.mul_one, Nat.one_mul, Nat.reduceSub, Int.cast_ofNat_Int, Int.toNat_natCast]
  refine CallQ.pure 110 awake4 rfl ?_
  simp (config := { maxSteps := 2000000 }) only [go_sem, Nat.reduceBEq, Nat.reduceAdd, Nat.reduceLT, Nat.reduceLeDiff, Nat.reduceEqDiff, reduceCtorEq, Int.reduceAdd, Int.reduceSub, Int.reduceNeg, Int.reduceLE, Int.reduceLT, Int.reduceToNat, Int.reduceBEq, Int.reduceBNe, Int.reduceEq, Int.reduceNe, Int.toNat_zero, Int.toNat_one, bne_self_eq_false, Nat.reduceMul, Nat.zero_mul, Nat.mul_one, Nat.one_mul, Nat.reduceSub, Int.cast_ofNat_Int, Int.toNat_natCast]
  simp only [hk]
  refine Sm.dgo 120 9 mix (by decide +kernel) (by decide +kernel) ?_
  simp (config := { maxSteps := 2000000 }) only [go_sem, Nat.reduceBEq, Nat.reduceAdd, Nat.reduceLT, Nat.reduceLeDiff, Nat.reduceEqDiff, reduceCtorEq, Int.reduceAdd, Int.reduceSub, Int.reduceNeg, Int.reduceLE, Int.reduceLT, Int.reduceToNat, Int.reduceBEq, Int.reduceBNe, Int.reduceEq, Int.reduceNe, Int.toNat_zero, Int.toNat_one, bne_self_eq_false, Nat.reduceMul, Nat.zero_mul, Nat.mul_one, Nat.one_mul, Nat.reduceSub, Int.cast_ofNat_Int, Int.toNat_natCast]
  simp only [hj, mk, mj, Int.toNat_natCast, hP, hB]
  refine ⟨by omega, by omega, ?_⟩
  refine CallQ.pure 130 c0 rfl ?_
  simp (config := { maxSteps := 2000000 }) only [go_sem, Nat.reduceBEq, Nat.reduceAdd, Nat.reduceLT, Nat.reduceLeDiff, Nat.reduceEqDiff, reduceCtorEq, Int.reduceAdd, Int.reduceSub, Int.reduceNeg, Int.reduceLE, Int.reduceLT, Int.reduceToNat, Int.reduceBEq, Int.reduceBNe, Int.reduceEq, Int.reduceNe, Int.toNat_zero, Int.toNat_one, bne_self_eq_false, Nat.reduceMul, Nat.zero_mul, Nat.mul_one, Nat.one_mul, Nat.reduceSub, Int.cast_ofNat_Int, Int.toNat_natCast]
  simp only [wa]
  refine CallQ.pure 130 (clamp a lo hi) rfl ?_
  simp only [hx]
  simp (config := { maxSteps := 2000000 }) only [go_sem, Nat.reduceBEq, Nat.reduceAdd, Nat.reduceLT, Nat.reduceLeDiff, Nat.reduceEqDiff, reduceCtorEq, Int.reduceAdd, Int.reduceSub, Int.reduceNeg, Int.reduceLE, Int.reduceLT, Int.reduceToNat, Int.reduceBEq, Int.reduceBNe, Int.reduceEq, Int.reduceNe, Int.toNat_zero, Int.toNat_one, bne_self_eq_false, Nat.reduceMul, Nat.zero_mul, Nat.mul_one, Nat.one_mul, Nat.reduceSub, Int.cast_ofNat_Int, Int.toNat_natCast]
  simp only [wb]
  refine CallQ.pure 130 (clamp b lo hi) rfl ?_
  simp only [hy]
  simp (config := { maxSteps := 2000000 }) only [go_sem, Nat.reduceBEq, Nat.reduceAdd, Nat.reduceLT, Nat.reduceLeDiff, Nat.reduceEqDiff, reduceCtorEq, Int.reduceAdd, Int.reduceSub, Int.reduceNeg, Int.reduceLE, Int.reduceLT, Int.reduceToNat, Int.reduceBEq, Int.reduceBNe, Int.reduceEq, Int.reduceNe, Int.toNat_zero, Int.toNat_one, bne_self_eq_false, Nat.reduceMul, Nat.zero_mul, Nat.mul_one, Nat.one_mul, Nat.reduceSub, Int.cast_ofNat_Int, Int.toNat_natCast]
  refine CallQ.pure 140 c1 rfl ?_
  simp (config := { maxSteps := 2000000 }) only [go_sem, Nat.reduceBEq, Nat.reduceAdd, Nat.reduceLT, Nat.reduceLeDiff, Nat.reduceEqDiff, reduceCtorEq, Int.reduceAdd, Int.reduceSub, Int.reduceNeg, Int.reduceLE, Int.reduceLT, Int.reduceToNat, Int.reduceBEq, Int.reduceBNe, Int.reduceEq, Int.reduceNe, Int.toNat_zero, Int.toNat_one, bne_self_eq_false, Nat.reduceMul, Nat.zero_mul, Nat.mul_one, Nat.one_mul, Nat.reduceSub, Int.cast_ofNat_Int, Int.toNat_natCast]
  refine CallQ.pure 150 c3 rfl ?_
  simp (config := { maxSteps := 2000000 }) only [go_sem, Nat.reduceBEq, Nat.reduceAdd, Nat.reduceLT, Nat.reduceLeDiff, Nat.reduceEqDiff, reduceCtorEq, Int.reduceAdd, Int.reduceSub, Int.reduceNeg, Int.reduceLE, Int.reduceLT, Int.reduceToNat, Int.reduceBEq, Int.reduceBNe, Int.reduceEq, Int.reduceNe, Int.toNat_zero, Int.toNat_one, bne_self_eq_false, Nat.reduceMul, Nat.zero_mul, Nat.mul_one, Nat.one_mul, Nat.reduceSub, Int.cast_ofNat_Int, Int.toNat_natCast]
  simp only [mk, hP, wxy, pl]
  refine ⟨k0, ?_⟩
  refine CallQ.pure 160 c4 rfl ?_
  simp (config := { maxSteps := 2000000 }) only [go_sem, Nat.reduceBEq, Nat.reduceAdd, Nat.reduceLT, Nat.reduceLeDiff, Nat.reduceEqDiff, reduceCtorEq, Int.reduceAdd, Int.reduceSub, Int.reduceNeg, Int.reduceLE, Int.reduceLT, Int.reduceToNat, Int.reduceBEq, Int.reduceBNe, Int.reduceEq, Int.reduceNe, Int.toNat_zero, Int.toNat_one, bne_self_eq_false, Nat.reduceMul, Nat.zero_mul, Nat.mul_one, Nat.one_mul, Nat.reduceSub, Int.cast_ofNat_Int, Int.toNat_natCast]
  have d1 : decide (x < -2147483648) = false := by simp; omega
  have d2 : decide (4294967296 < x) = false := by simp; omega
  have d3 : decide (2147483648 < x) = false := by simp; omega
  simp only [d1, d2, d3]
  simp (config := { maxSteps := 2000000 }) only [go_sem, Nat.reduceBEq, Nat.reduceAdd, Nat.reduceLT, Nat.reduceLeDiff, Nat.reduceEqDiff, reduceCtorEq, Int.reduceAdd, Int.reduceSub, Int.reduceNeg, Int.reduceLE, Int.reduceLT, Int.reduceToNat, Int.reduceBEq, Int.reduceBNe, Int.reduceEq, Int.reduceNe, Int.toNat_zero, Int.toNat_one, bne_self_eq_false, Nat.reduceMul, Nat.zero_mul, Nat.mul_one, Nat.one_mul, Nat.reduceSub, Int.cast_ofNat_Int, Int.toNat_natCast]
  refine Sm.dgo 170 24 mix (by decide +kernel) (by decide +kernel) ?_
  simp (config := { maxSteps := 2000000 }) only [go_sem, Nat.reduceBEq, Nat.reduceAdd, Nat.reduceLT, Nat.reduceLeDiff, Nat.reduceEqDiff, reduceCtorEq, Int.reduceAdd, Int.reduceSub, Int.reduceNeg, Int.reduceLE, Int.reduceLT, Int.reduceToNat, Int.reduceBEq, Int.reduceBNe, Int.reduceEq, Int.reduceNe, Int.toNat_zero, Int.toNat_one, bne_self_eq_false, Nat.reduceMul, Nat.zero_mul, Nat.mul_one, Nat.one_mul, Nat.reduceSub, Int.cast_ofNat_Int, Int.toNat_natCast]
  simp only [wad]
  refine DCallQ.pure 170 (clamp (x + y) lo hi) rfl ?_
  simp (config := { maxSteps := 2000000 }) only [go_sem, Nat.reduceBEq, Nat.reduceAdd, Nat.reduceLT, Nat.reduceLeDiff, Nat.reduceEqDiff, reduceCtorEq, Int.reduceAdd, Int.reduceSub, Int.reduceNeg, Int.reduceLE, Int.reduceLT, Int.reduceToNat, Int.reduceBEq, Int.reduceBNe, Int.reduceEq, Int.reduceNe, Int.toNat_zero, Int.toNat_one, bne_self_eq_false, Nat.reduceMul, Nat.zero_mul, Nat.mul_one, Nat.one_mul, Nat.reduceSub, Int.cast_ofNat_Int, Int.toNat_natCast]
  refine DCallQ.pure 170 (clamp n lo hi) rfl ?_
  simp (config := { maxSteps := 2000000 }) only [go_sem, Nat.reduceBEq, Nat.reduceAdd, Nat.reduceLT, Nat.reduceLeDiff, Nat.reduceEqDiff, reduceCtorEq, Int.reduceAdd, Int.reduceSub, Int.reduceNeg, Int.reduceLE, Int.reduceLT, Int.reduceToNat, Int.reduceBEq, Int.reduceBNe, Int.reduceEq, Int.reduceNe, Int.toNat_zero, Int.toNat_one, bne_self_eq_false, Nat.reduceMul, Nat.zero_mul, Nat.mul_one, Nat.one_mul, Nat.reduceSub, Int.cast_ofNat_Int, Int.toNat_natCast]
  exact RetQ.bool hR rfl ⟨rfl, trivial⟩ rfl
end Go.Proofs.Ytnolflocgodffaa
