/- Contracts of package fixed: Raw, Nearest, Convert, over a contract of exact. -/
import Derived.Test.YtoioclmfjmgaaaaDoorFC2
namespace Go.Proofs.YtoioclmfjmgaaaaDoor.Fx
open Vg Tf
set_option linter.unusedSimpArgs false
set_option linter.unusedVariables false
set_option maxRecDepth 100000
def rok (n d : Int) : Prop := (1 ≤ d ∧ d ≤ 1152921504606846976) ∧ (-1152921504606846976 ≤ n ∧ n ≤ 1152921504606846976)
theorem ratio_ok (n d : Int) (h : rok n d) : CallOk Tryd.prog 80 [ra n d] [] (Bo true) [] := by
  have := ratio_ n d
  rw [show decide ((1 ≤ d ∧ d ≤ 1152921504606846976) ∧ (-1152921504606846976 ≤ n ∧ n ≤ 1152921504606846976)) = true from decide_eq_true h] at this
  exact this
theorem fvalid_ok (t : Ft) (h : fok t = true) : CallOk Tryd.prog 45 [fx t] [] (Bo true) [] := by
  have := fvalid t
  rw [h] at this
  exact this
theorem raw_ok (t : Ft) (n d m x : Int) (h : fok t = true) (hr : rok n d) (hm : 1 ≤ m) (hm3 : m ≤ 3) (hx : CallOk Tryd.prog 81 [fx t, ra n d, I m] [] (I x) []) :
    CallOk Tryd.prog 43 [fx t, ra n d, I m] [] (.tup [Wi (bif fin t x then x else 0), Wi (bif fin t x then 0 else 2)]) [] := by
  refine CallOk.mk 100 Tryd.func43 rfl en43 (by simp [Tryd.ntmps43]) (by simp [ClV, V.g, Cv.g, fx, ra, ci]) fun C hR => ?_
  have e1 : decide (m < 1) = false := by simp; omega
  have e2 : decide (3 < m) = false := by simp; omega
  simp (config := { maxSteps := 2000000 }) only [go_sem, Nat.reduceBEq, Nat.reduceAdd, Nat.reduceLT, Nat.reduceLeDiff, Nat.reduceEqDiff, reduceCtorEq, Int.reduceAdd, Int.reduceSub, Int.reduceNeg, Int.reduceLE, Int.reduceLT, Int.reduceToNat, Int.reduceBEq, Int.reduceBNe, Int.reduceEq, Int.reduceNe, Int.toNat_zero, Int.toNat_one, bne_self_eq_false, Nat.reduceMul, Nat.zero_mul, Nat.mul_one, Nat.one_mul, Nat.reduceSub, Int.cast_ofNat_Int, Int.toNat_natCast]
  refine CallQ.pure 102 (fvalid_ok t h) rfl ?_
  simp (config := { maxSteps := 2000000 }) only [go_sem, Nat.reduceBEq, Nat.reduceAdd, Nat.reduceLT, Nat.reduceLeDiff, Nat.reduceEqDiff, reduceCtorEq, Int.reduceAdd, Int.reduceSub, Int.reduceNeg, Int.reduceLE, Int.reduceLT, Int.reduceToNat, Int.reduceBEq, Int.reduceBNe, Int.reduceEq, Int.reduceNe, Int.toNat_zero, Int.toNat_one, bne_self_eq_false, Nat.reduceMul, Nat.zero_mul, Nat.mul_one, Nat.one_mul, Nat.reduceSub, Int.cast_ofNat_Int, Int.toNat_natCast]
  refine CallQ.pure 102 (ratio_ok n d hr) rfl ?_
  simp (config := { maxSteps := 2000000 }) only [go_sem, Nat.reduceBEq, Nat.reduceAdd, Nat.reduceLT, Nat.reduceLeDiff, Nat.reduceEqDiff, reduceCtorEq, Int.reduceAdd, Int.reduceSub, Int.reduceNeg, Int.reduceLE, Int.reduceLT, Int.reduceToNat, Int.reduceBEq, Int.reduceBNe, Int.reduceEq, Int.reduceNe, Int.toNat_zero, Int.toNat_one, bne_self_eq_false, Nat.reduceMul, Nat.zero_mul, Nat.mul_one, Nat.one_mul, Nat.reduceSub, Int.cast_ofNat_Int, Int.toNat_natCast]
  simp only [e1, e2, cond_false]
  refine CallQ.pure 102 hx rfl ?_
  simp (config := { maxSteps := 2000000 }) only [go_sem, Nat.reduceBEq, Nat.reduceAdd, Nat.reduceLT, Nat.reduceLeDiff, Nat.reduceEqDiff, reduceCtorEq, Int.reduceAdd, Int.reduceSub, Int.reduceNeg, Int.reduceLE, Int.reduceLT, Int.reduceToNat, Int.reduceBEq, Int.reduceBNe, Int.reduceEq, Int.reduceNe, Int.toNat_zero, Int.toNat_one, bne_self_eq_false, Nat.reduceMul, Nat.zero_mul, Nat.mul_one, Nat.one_mul, Nat.reduceSub, Int.cast_ofNat_Int, Int.toNat_natCast]
  refine CallQ.pure 102 (within t x h) rfl ?_
  simp (config := { maxSteps := 2000000 }) only [go_sem, Nat.reduceBEq, Nat.reduceAdd, Nat.reduceLT, Nat.reduceLeDiff, Nat.reduceEqDiff, reduceCtorEq, Int.reduceAdd, Int.reduceSub, Int.reduceNeg, Int.reduceLE, Int.reduceLT, Int.reduceToNat, Int.reduceBEq, Int.reduceBNe, Int.reduceEq, Int.reduceNe, Int.toNat_zero, Int.toNat_one, bne_self_eq_false, Nat.reduceMul, Nat.zero_mul, Nat.mul_one, Nat.one_mul, Nat.reduceSub, Int.cast_ofNat_Int, Int.toNat_natCast]
  cases hw : fin t x with
  | true =>
    simp only [hw, cond_true, Bool.not_true] at hR ⊢
    exact RetQ.int2 hR rfl ⟨rfl, rfl, trivial⟩ rfl rfl
  | false =>
    simp only [hw, cond_false, Bool.not_false] at hR ⊢
    exact RetQ.int2 hR rfl ⟨rfl, rfl, trivial⟩ rfl rfl
end Go.Proofs.YtoioclmfjmgaaaaDoor.Fx