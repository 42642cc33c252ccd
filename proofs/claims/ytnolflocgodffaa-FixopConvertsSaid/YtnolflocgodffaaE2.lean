/- FixopTurns. -/
import Derived.Test.YtnolflocgodffaaE1
import Derived.Test.YtnolflocgodffaaC15
namespace Go.Proofs.Ytnolflocgodffaa
open Vg Tf
set_option linter.unusedSimpArgs false
set_option linter.unusedVariables false
set_option maxRecDepth 100000
theorem rnd_scale (X Y k : Int) (hk : 0 < k) : rnd 3 (k * X) (k * Y) = rnd 3 X Y := by
  unfold rnd
  simp only [Int.reduceEq, if_false]
  rw [show 2 * (k * X) + k * Y = k * (2 * X + Y) by grind, show 2 * (k * Y) = k * (2 * Y) by grind, Int.mul_ediv_mul_of_pos _ _ hk]
theorem fixR_scale (t : Ft) (N D k : Int) (hk : 0 < k) : fixR t (k * N) (k * D) = fixR t N D := by
  unfold fixR
  rw [show k * N * t.den - t.off * (k * D) = k * (N * t.den - t.off * D) by grind, show k * D * t.num = k * (D * t.num) by grind, rnd_scale _ _ _ hk]
theorem fixR_one (t : Ft) (D : Int) (hD : 0 < D) : fixR t 0 D = min (max (exV t 0 1 3) (flo t)) (fhi t) := by
  have := fixR_scale t 0 1 D hD
  rw [Int.mul_zero, Int.mul_one] at this
  rw [this]
  rfl
theorem ufit_comm (op : Int) (h : op ≠ 4) (a b t : Ft) : ufit op b a t = ufit op a b t := by
  unfold ufit
  split
  · rw [decide_eq_decide]; omega
  · rw [decide_eq_decide]
    constructor <;> rintro ⟨h1, h2⟩ <;> exact ⟨h2, h1⟩
theorem oErr_comm (op : Int) (h : op ≠ 4) (a : Ft) (x : Int) (b : Ft) (y : Int) (t : Ft) : oErr op b y a x t = oErr op a x b y t := by
  unfold oErr
  rw [ufit_comm op h, show ((fok b && fin b y) && ((fok a && fin a x) && fok t)) = ((fok a && fin a x) && ((fok b && fin b y) && fok t)) by cases fok a <;> cases fin a x <;> cases fok b <;> cases fin b y <;> rfl]
  simp [h]
theorem oRaw_comm (op : Int) (h : op = 1 ∨ op = 3) (a : Ft) (x : Int) (b : Ft) (y : Int) (t : Ft) : oRaw op b y a x t = oRaw op a x b y t := by
  unfold oRaw cN cD
  rcases h with rfl | rfl
  · simp only [if_true, true_or]
    rw [Int.add_comm, Int.mul_comm b.den]
  · simp only [Int.reduceEq, if_true, if_false, or_true]
    rw [Int.mul_comm, Int.mul_comm b.den]
theorem turn_ (op : Int) (h : op = 1 ∨ op = 3) (a : Ft) (x : Int) (b : Ft) (y : Int) (t : Ft) : oT op b y a x t = oT op a x b y t ∧ oR op b y a x t = oR op a x b y t := by
  unfold oT oR
  rw [oErr_comm op (by omega), oRaw_comm op h]
  exact ⟨rfl, rfl⟩
def two_ : Ft := ⟨8, false, 1, 0, 1, 0, 0, 0, 0, 0⟩
theorem law_turns (a : Ft) (x : Int) (b : Ft) (y : Int) (t : Ft) : CallOk Try.prog 18 [va a x, va b y, fx t] [] (Bo true) [] := by
  refine CallOk.mk 100 Try.func18 rfl en18 (by simp [Try.ntmps18]) (by simp [ClV, V.g, Cv.g, va, fx, ci]) fun C hR => ?_
  have c1 := fadd b y a x t
  rw [(turn_ 1 (.inl rfl) a x b y t).1, (turn_ 1 (.inl rfl) a x b y t).2, oErr_comm 1 (by omega)] at c1
  have c2 := fmul b y a x t
  rw [(turn_ 3 (.inr rfl) a x b y t).1, (turn_ 3 (.inr rfl) a x b y t).2, oErr_comm 3 (by omega)] at c2
  simp (config := { maxSteps := 2000000 }) only [go_sem, Nat.reduceBEq, Nat.reduceAdd, Nat.reduceLT, Nat.reduceLeDiff, Nat.reduceEqDiff, reduceCtorEq, Int.reduceAdd, Int.reduceSub, Int.reduceNeg, Int.reduceLE, Int.reduceLT, Int.reduceToNat, Int.reduceBEq, Int.reduceBNe, Int.reduceEq, Int.reduceNe, Int.toNat_zero, Int.toNat_one, bne_self_eq_false, Nat.reduceMul, Nat.zero_mul, Nat.mul_one, Nat.one_mul, Nat.reduceSub, Int.cast_ofNat_Int, Int.toNat_natCast]
  refine CallQ.pure 110 awake4 rfl ?_
  simp (config := { maxSteps := 2000000 }) only [go_sem, Nat.reduceBEq, Nat.reduceAdd, Nat.reduceLT, Nat.reduceLeDiff, Nat.reduceEqDiff, reduceCtorEq, Int.reduceAdd, Int.reduceSub, Int.reduceNeg, Int.reduceLE, Int.reduceLT, Int.reduceToNat, Int.reduceBEq, Int.reduceBNe, Int.reduceEq, Int.reduceNe, Int.toNat_zero, Int.toNat_one, bne_self_eq_false, Nat.reduceMul, Nat.zero_mul, Nat.mul_one, Nat.one_mul, Nat.reduceSub, Int.cast_ofNat_Int, Int.toNat_natCast]
  refine CallQ.pure 110 (fadd a x b y t) rfl ?_
  simp (config := { maxSteps := 2000000 }) only [go_sem, Nat.reduceBEq, Nat.reduceAdd, Nat.reduceLT, Nat.reduceLeDiff, Nat.reduceEqDiff, reduceCtorEq, Int.reduceAdd, Int.reduceSub, Int.reduceNeg, Int.reduceLE, Int.reduceLT, Int.reduceToNat, Int.reduceBEq, Int.reduceBNe, Int.reduceEq, Int.reduceNe, Int.toNat_zero, Int.toNat_one, bne_self_eq_false, Nat.reduceMul, Nat.zero_mul, Nat.mul_one, Nat.one_mul, Nat.reduceSub, Int.cast_ofNat_Int, Int.toNat_natCast]
  refine CallQ.pure 120 c1 rfl ?_
  simp (config := { maxSteps := 2000000 }) only [go_sem, Nat.reduceBEq, Nat.reduceAdd, Nat.reduceLT, Nat.reduceLeDiff, Nat.reduceEqDiff, reduceCtorEq, Int.reduceAdd, Int.reduceSub, Int.reduceNeg, Int.reduceLE, Int.reduceLT, Int.reduceToNat, Int.reduceBEq, Int.reduceBNe, Int.reduceEq, Int.reduceNe, Int.toNat_zero, Int.toNat_one, bne_self_eq_false, Nat.reduceMul, Nat.zero_mul, Nat.mul_one, Nat.one_mul, Nat.reduceSub, Int.cast_ofNat_Int, Int.toNat_natCast]
  refine CallQ.pure 130 (fmul a x b y t) rfl ?_
  simp (config := { maxSteps := 2000000 }) only [go_sem, Nat.reduceBEq, Nat.reduceAdd, Nat.reduceLT, Nat.reduceLeDiff, Nat.reduceEqDiff, reduceCtorEq, Int.reduceAdd, Int.reduceSub, Int.reduceNeg, Int.reduceLE, Int.reduceLT, Int.reduceToNat, Int.reduceBEq, Int.reduceBNe, Int.reduceEq, Int.reduceNe, Int.toNat_zero, Int.toNat_one, bne_self_eq_false, Nat.reduceMul, Nat.zero_mul, Nat.mul_one, Nat.one_mul, Nat.reduceSub, Int.cast_ofNat_Int, Int.toNat_natCast]
  refine CallQ.pure 140 c2 rfl ?_
  simp (config := { maxSteps := 2000000 }) only [go_sem, Nat.reduceBEq, Nat.reduceAdd, Nat.reduceLT, Nat.reduceLeDiff, Nat.reduceEqDiff, reduceCtorEq, Int.reduceAdd, Int.reduceSub, Int.reduceNeg, Int.reduceLE, Int.reduceLT, Int.reduceToNat, Int.reduceBEq, Int.reduceBNe, Int.reduceEq, Int.reduceNe, Int.toNat_zero, Int.toNat_one, bne_self_eq_false, Nat.reduceMul, Nat.zero_mul, Nat.mul_one, Nat.one_mul, Nat.reduceSub, Int.cast_ofNat_Int, Int.toNat_natCast]
  have hs := fsub a x a x t
  by_cases he : oErr 2 a x a x t = 0
  · obtain ⟨⟨a1, a2⟩, _, t1, hu, _⟩ := oErr_ok he
    have hfa := fok_bd a1
    have hD : 0 < a.den * a.den := Int.mul_pos (by omega) (by omega)
    have u1 : ufit 1 a a t = true := hu
    have u3 : ufit 3 a two_ t = true := by
      simp only [ufit, Int.reduceEq, if_false, decide_eq_true_eq] at hu
      obtain ⟨⟨v1, v2, v3, v4, v5⟩, _⟩ := hu
      rw [ufit, if_pos rfl]
      exact decide_eq_true ⟨by simp only [two_]; omega, by simp only [two_]; omega, by simp only [two_]; omega, by simp only [two_]; omega, by simp only [two_]; omega⟩
    have e1 : oErr 1 a x a x t = 0 := by rw [oErr, if_neg (by simp [a1, a2, t1]), if_neg (by simp [u1]), if_neg (by omega)]
    have e3 : oErr 3 a x two_ 2 t = 0 := by rw [oErr, if_neg (by simp [a1, a2, t1]; decide), if_neg (by simp [u3]), if_neg (by omega)]
    have r2 : oRaw 2 a x a x t = min (max (exV t 0 1 3) (flo t)) (fhi t) := by
      rw [oRaw, show cN 2 (fnu a x) a.den (fnu a x) a.den = 0 by simp [cN], show cD 2 (fnu a x) a.den (fnu a x) a.den = a.den * a.den by simp [cD], fixR_one t _ hD]
    have r3 : oRaw 3 a x two_ 2 t = oRaw 1 a x a x t := by
      have h := fixR_scale t (fnu a x * 2) a.den a.den (by omega)
      rw [oRaw, oRaw, show cN 1 (fnu a x) a.den (fnu a x) a.den = a.den * (fnu a x * 2) by simp [cN]; grind, show cD 1 (fnu a x) a.den (fnu a x) a.den = a.den * a.den by simp [cD], h]
      congr 1
      simp [cD, two_]
    rw [oT, oR, if_pos he, if_pos he, he, r2] at hs
    have c3 := fadd a x a x t
    rw [oT, oR, if_pos e1, if_pos e1, e1] at c3
    have c4 := fmul a x two_ 2 t
    rw [oT, oR, if_pos e3, if_pos e3, e3, r3] at c4
    refine CallQ.pure 150 hs rfl ?_
    simp (config := { maxSteps := 2000000 }) only [go_sem, Nat.reduceBEq, Nat.reduceAdd, Nat.reduceLT, Nat.reduceLeDiff, Nat.reduceEqDiff, reduceCtorEq, Int.reduceAdd, Int.reduceSub, Int.reduceNeg, Int.reduceLE, Int.reduceLT, Int.reduceToNat, Int.reduceBEq, Int.reduceBNe, Int.reduceEq, Int.reduceNe, Int.toNat_zero, Int.toNat_one, bne_self_eq_false, Nat.reduceMul, Nat.zero_mul, Nat.mul_one, Nat.one_mul, Nat.reduceSub, Int.cast_ofNat_Int, Int.toNat_natCast]
    refine CallQ.pure 160 (near_any t 0 1 t1 ⟨by omega, by omega⟩ (by omega)) rfl ?_
    simp (config := { maxSteps := 2000000 }) only [go_sem, Nat.reduceBEq, Nat.reduceAdd, Nat.reduceLT, Nat.reduceLeDiff, Nat.reduceEqDiff, reduceCtorEq, Int.reduceAdd, Int.reduceSub, Int.reduceNeg, Int.reduceLE, Int.reduceLT, Int.reduceToNat, Int.reduceBEq, Int.reduceBNe, Int.reduceEq, Int.reduceNe, Int.toNat_zero, Int.toNat_one, bne_self_eq_false, Nat.reduceMul, Nat.zero_mul, Nat.mul_one, Nat.one_mul, Nat.reduceSub, Int.cast_ofNat_Int, Int.toNat_natCast]
    refine CallQ.pure 170 c3 rfl ?_
    simp (config := { maxSteps := 2000000 }) only [go_sem, Nat.reduceBEq, Nat.reduceAdd, Nat.reduceLT, Nat.reduceLeDiff, Nat.reduceEqDiff, reduceCtorEq, Int.reduceAdd, Int.reduceSub, Int.reduceNeg, Int.reduceLE, Int.reduceLT, Int.reduceToNat, Int.reduceBEq, Int.reduceBNe, Int.reduceEq, Int.reduceNe, Int.toNat_zero, Int.toNat_one, bne_self_eq_false, Nat.reduceMul, Nat.zero_mul, Nat.mul_one, Nat.one_mul, Nat.reduceSub, Int.cast_ofNat_Int, Int.toNat_natCast]
    refine CallQ.pure 180 c4 rfl ?_
    simp (config := { maxSteps := 2000000 }) only [go_sem, Nat.reduceBEq, Nat.reduceAdd, Nat.reduceLT, Nat.reduceLeDiff, Nat.reduceEqDiff, reduceCtorEq, Int.reduceAdd, Int.reduceSub, Int.reduceNeg, Int.reduceLE, Int.reduceLT, Int.reduceToNat, Int.reduceBEq, Int.reduceBNe, Int.reduceEq, Int.reduceNe, Int.toNat_zero, Int.toNat_one, bne_self_eq_false, Nat.reduceMul, Nat.zero_mul, Nat.mul_one, Nat.one_mul, Nat.reduceSub, Int.cast_ofNat_Int, Int.toNat_natCast]
    exact RetQ.bool hR rfl ⟨rfl, trivial⟩ rfl
  · rw [oT, oR, if_neg he, if_neg he] at hs
    have ne : (oErr 2 a x a x t != 0) = true := by simpa using he
    refine CallQ.pure 150 hs rfl ?_
    simp (config := { maxSteps := 2000000 }) only [go_sem, Nat.reduceBEq, Nat.reduceAdd, Nat.reduceLT, Nat.reduceLeDiff, Nat.reduceEqDiff, reduceCtorEq, Int.reduceAdd, Int.reduceSub, Int.reduceNeg, Int.reduceLE, Int.reduceLT, Int.reduceToNat, Int.reduceBEq, Int.reduceBNe, Int.reduceEq, Int.reduceNe, Int.toNat_zero, Int.toNat_one, bne_self_eq_false, Nat.reduceMul, Nat.zero_mul, Nat.mul_one, Nat.one_mul, Nat.reduceSub, Int.cast_ofNat_Int, Int.toNat_natCast]
    simp only [ne]
    exact RetQ.bool hR rfl ⟨rfl, trivial⟩ (by simp [z0])
end Go.Proofs.Ytnolflocgodffaa
