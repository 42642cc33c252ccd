/- Big integers: Minus, Sign, Add. -/
import Derived.Test.YtnolflocgodffaaH3
namespace Go.Proofs.Ytnolflocgodffaa
open Vg Tf
set_option linter.unusedSimpArgs false
set_option linter.unusedVariables false
set_option maxRecDepth 100000
theorem clI (nm : Nat) (n : Int) : ClM [bI nm n] := ClM.of (by simp [Cv.inM])
theorem dg_nil (n : Nat) : (dg n).length = 0 ↔ n = 0 := by
  constructor
  · intro h
    have := bval_dg n
    rw [List.length_eq_zero_iff.1 h] at this
    exact this.symm
  · rintro rfl; rw [dg_zero]; rfl
theorem zminus_ (n : Int) : CallOk Try.prog 58 [bn 1 n] [bI 1 n] (bn 1 (-n)) [] := by
  refine CallOk.mkN 100 Try.func58 rfl en58 (by simp [Try.ntmps58]) (ClA.of rfl) rfl rfl fun C hR hP => ?_
  simp only [bn, Int.natAbs_neg] at hR
  have hz := dg_nil n.natAbs
  simp (config := { maxSteps := 2000000 }) only [go_sem, Nat.reduceBEq, Nat.reduceAdd, Nat.reduceLT, Nat.reduceLeDiff, Nat.reduceEqDiff, reduceCtorEq, Int.reduceAdd, Int.reduceSub, Int.reduceNeg, Int.reduceLE, Int.reduceLT, Int.reduceToNat, Int.reduceBEq, Int.reduceBNe, Int.reduceEq, Int.reduceNe, Int.toNat_zero, Int.toNat_one, bne_self_eq_false, Nat.reduceMul, Nat.zero_mul, Nat.mul_one, Nat.one_mul, Nat.reduceSub, Int.cast_ofNat_Int, Int.toNat_natCast]
  refine RetQ.of hR rfl (by simp (config := { maxSteps := 2000000 }) only [go_sem, Nat.reduceBEq, Nat.reduceAdd, Nat.reduceLT, Nat.reduceLeDiff, Nat.reduceEqDiff, reduceCtorEq, Int.reduceAdd, Int.reduceSub, Int.reduceNeg, Int.reduceLE, Int.reduceLT, Int.reduceToNat, Int.reduceBEq, Int.reduceBNe, Int.reduceEq, Int.reduceNe, Int.toNat_zero, Int.toNat_one, bne_self_eq_false, Nat.reduceMul, Nat.zero_mul, Nat.mul_one, Nat.one_mul, Nat.reduceSub, Int.cast_ofNat_Int, Int.toNat_natCast]) ?_ (Sub.one rfl (.inl rfl)) (clI 1 n) (ClV.of rfl)
  simp (config := { maxSteps := 2000000 }) only [go_sem, Nat.reduceBEq, Nat.reduceAdd, Nat.reduceLT, Nat.reduceLeDiff, Nat.reduceEqDiff, reduceCtorEq, Int.reduceAdd, Int.reduceSub, Int.reduceNeg, Int.reduceLE, Int.reduceLT, Int.reduceToNat, Int.reduceBEq, Int.reduceBNe, Int.reduceEq, Int.reduceNe, Int.toNat_zero, Int.toNat_one, bne_self_eq_false, Nat.reduceMul, Nat.zero_mul, Nat.mul_one, Nat.one_mul, Nat.reduceSub, Int.cast_ofNat_Int, Int.toNat_natCast]
  have e : (bif !decide (n < 0) then decide (0 < ((dg n.natAbs).length : Int)) else false) = decide (-n < 0) := by
    rw [Bool.eq_iff_iff]
    simp only [Bool.cond_eq_ite, Bool.not_eq_true', decide_eq_false_iff_not, decide_eq_true_eq]
    split
    · simp only [decide_eq_true_eq]; omega
    · simp only [Bool.false_eq_true, false_iff]; omega
  rw [e]
theorem zsign_ (n : Int) : CallOk Try.prog 73 [bn 1 n] [bI 1 n] (I (if n = 0 then 0 else if n < 0 then -1 else 1)) [] := by
  refine CallOk.mkN 100 Try.func73 rfl en73 (by simp [Try.ntmps73]) (ClA.of rfl) rfl rfl fun C hR hP => ?_
  have hz := dg_nil n.natAbs
  simp (config := { maxSteps := 2000000 }) only [go_sem, Nat.reduceBEq, Nat.reduceAdd, Nat.reduceLT, Nat.reduceLeDiff, Nat.reduceEqDiff, reduceCtorEq, Int.reduceAdd, Int.reduceSub, Int.reduceNeg, Int.reduceLE, Int.reduceLT, Int.reduceToNat, Int.reduceBEq, Int.reduceBNe, Int.reduceEq, Int.reduceNe, Int.toNat_zero, Int.toNat_one, bne_self_eq_false, Nat.reduceMul, Nat.zero_mul, Nat.mul_one, Nat.one_mul, Nat.reduceSub, Int.cast_ofNat_Int, Int.toNat_natCast]
  by_cases h0 : n = 0
  · have e : (((dg n.natAbs).length : Int) == 0) = true := by rw [beq_iff_eq]; omega
    simp only [e]
    exact RetQ.of hR rfl ⟨rfl, trivial⟩ (by rw [if_pos h0]; rfl) (Sub.one rfl (.inl rfl)) (clI 1 n) (ClV.of rfl)
  · have e : (((dg n.natAbs).length : Int) == 0) = false := by rw [beq_eq_false_iff_ne]; omega
    simp only [e]
    by_cases h1 : n < 0
    · simp only [tru_of h1]
      exact RetQ.of hR rfl ⟨rfl, trivial⟩ (by rw [if_neg h0, if_pos h1]; rfl) (Sub.one rfl (.inl rfl)) (clI 1 n) (ClV.of rfl)
    · simp only [fal_of h1]
      exact RetQ.of hR rfl ⟨rfl, trivial⟩ (by rw [if_neg h0, if_neg h1]; rfl) (Sub.one rfl (.inl rfl)) (clI 1 n) (ClV.of rfl)
end Go.Proofs.Ytnolflocgodffaa
