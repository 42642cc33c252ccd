/- Frame: plain data of signals; small functions of signaldb, frame, magnetoref42: letters, names. -/
import Derived.Test.YtcdclmelnnbdnaaTf
import Derived.Test.YtcdclmelnnbdnaaVt
namespace Go.Proofs.Ytcdclmelnnbdnaa
open Vg Tf
set_option linter.unusedSimpArgs false
set_option linter.unusedVariables false
set_option maxRecDepth 100000
set_option maxHeartbeats 2000000
abbrev I (n : Int) : V := .c (.v (.int .i64 n))
abbrev Y (n : Int) : V := .c (.v (.int .u8 n))
abbrev Bo (b : Bool) : V := .c (.v (.bool b))
abbrev St (s : ByteArray) : V := .c (.v (.string s))
@[go_sem] def ci (n : Int) : Cv := .v (.int .i64 n)
abbrev Wi (n : Int) : W := .c (.v (.int .i64 n))
theorem w64 {x : Int} (h1 : -9223372036854775808 ≤ x) (h2 : x ≤ 9223372036854775807) : IntKind.i64.wrap x = x := IntWalk.i64_in x ⟨h1, h2⟩
theorem fal_of {p : Prop} [Decidable p] (h : ¬ p) : decide p = false := by simpa using h
theorem tru_of {p : Prop} [Decidable p] (h : p) : decide p = true := by simpa using h
theorem ClA.of {M : Mem} {l : List V} (h : l.all (V.inM M) = true) : ∀ x ∈ l, ClV M x := fun x hx => ClV.of (List.all_eq_true.1 h x hx)
/-- Letters, digits, what a name is made of. -/
def isL (c : Int) : Bool := decide ((65 ≤ c ∧ c ≤ 90) ∨ (97 ≤ c ∧ c ≤ 122))
def isC (c : Int) : Bool := isL c || (decide (48 ≤ c ∧ c ≤ 57) || decide (c = 95))
def nmok (l : List UInt8) : Bool := decide (1 ≤ l.length ∧ l.length ≤ 24) && (isL ((l.getD 0 0).toNat : Int) && l.all fun c => isC (c.toNat : Int))
theorem sletter (c : Int) : CallOk Try.prog 83 [Y c] [] (Bo (isL c)) [] := by
  refine CallOk.mk 100 Try.func83 rfl en83 (by simp [Try.ntmps83]) (by simp [ClV, V.g, Cv.g]) fun C hR => ?_
  simp (config := { maxSteps := 2000000 }) only [go_sem, Nat.reduceBEq, Nat.reduceAdd, Nat.reduceLT, Nat.reduceLeDiff, Nat.reduceEqDiff, reduceCtorEq, Int.reduceAdd, Int.reduceSub, Int.reduceNeg, Int.reduceLE, Int.reduceLT, Int.reduceToNat, Int.reduceBEq, Int.reduceBNe, Int.reduceEq, Int.reduceNe, Int.toNat_zero, Int.toNat_one, bne_self_eq_false, Nat.reduceMul, Nat.zero_mul, Nat.mul_one, Nat.one_mul, Nat.reduceSub, Int.cast_ofNat_Int, Int.toNat_natCast]
  refine ⟨by intro h; simp only [h]; simp, ?_⟩
  refine RetQ.bool hR rfl ⟨rfl, trivial⟩ ?_
  rw [Bool.eq_iff_iff]
  simp only [isL, Bool.cond_eq_ite, decide_eq_true_eq]
  grind
theorem fletter (c : Int) : CallOk Try.prog 84 [Y c] [] (Bo (isL c)) [] := by
  refine CallOk.mk 100 Try.func84 rfl en84 (by simp [Try.ntmps84]) (by simp [ClV, V.g, Cv.g]) fun C hR => ?_
  simp (config := { maxSteps := 2000000 }) only [go_sem, Nat.reduceBEq, Nat.reduceAdd, Nat.reduceLT, Nat.reduceLeDiff, Nat.reduceEqDiff, reduceCtorEq, Int.reduceAdd, Int.reduceSub, Int.reduceNeg, Int.reduceLE, Int.reduceLT, Int.reduceToNat, Int.reduceBEq, Int.reduceBNe, Int.reduceEq, Int.reduceNe, Int.toNat_zero, Int.toNat_one, bne_self_eq_false, Nat.reduceMul, Nat.zero_mul, Nat.mul_one, Nat.one_mul, Nat.reduceSub, Int.cast_ofNat_Int, Int.toNat_natCast]
  refine ⟨by intro h; simp only [h]; simp, ?_⟩
  refine RetQ.bool hR rfl ⟨rfl, trivial⟩ ?_
  rw [Bool.eq_iff_iff]
  simp only [isL, Bool.cond_eq_ite, decide_eq_true_eq]
  grind
theorem rletter (c : Int) : CallOk Try.prog 99 [Y c] [] (Bo (isL c)) [] := by
  refine CallOk.mk 100 Try.func99 rfl en99 (by simp [Try.ntmps99]) (by simp [ClV, V.g, Cv.g]) fun C hR => ?_
  simp (config := { maxSteps := 2000000 }) only [go_sem, Nat.reduceBEq, Nat.reduceAdd, Nat.reduceLT, Nat.reduceLeDiff, Nat.reduceEqDiff, reduceCtorEq, Int.reduceAdd, Int.reduceSub, Int.reduceNeg, Int.reduceLE, Int.reduceLT, Int.reduceToNat, Int.reduceBEq, Int.reduceBNe, Int.reduceEq, Int.reduceNe, Int.toNat_zero, Int.toNat_one, bne_self_eq_false, Nat.reduceMul, Nat.zero_mul, Nat.mul_one, Nat.one_mul, Nat.reduceSub, Int.cast_ofNat_Int, Int.toNat_natCast]
  refine ⟨by intro h; simp only [h]; simp, ?_⟩
  refine RetQ.bool hR rfl ⟨rfl, trivial⟩ ?_
  rw [Bool.eq_iff_iff]
  simp only [isL, Bool.cond_eq_ite, decide_eq_true_eq]
  grind
theorem rdigit (c : Int) : CallOk Try.prog 100 [Y c] [] (Bo (decide (48 ≤ c ∧ c ≤ 57))) [] := by
  refine CallOk.mk 100 Try.func100 rfl en100 (by simp [Try.ntmps100]) (by simp [ClV, V.g, Cv.g]) fun C hR => ?_
  simp (config := { maxSteps := 2000000 }) only [go_sem, Nat.reduceBEq, Nat.reduceAdd, Nat.reduceLT, Nat.reduceLeDiff, Nat.reduceEqDiff, reduceCtorEq, Int.reduceAdd, Int.reduceSub, Int.reduceNeg, Int.reduceLE, Int.reduceLT, Int.reduceToNat, Int.reduceBEq, Int.reduceBNe, Int.reduceEq, Int.reduceNe, Int.toNat_zero, Int.toNat_one, bne_self_eq_false, Nat.reduceMul, Nat.zero_mul, Nat.mul_one, Nat.one_mul, Nat.reduceSub, Int.cast_ofNat_Int, Int.toNat_natCast]
  refine RetQ.bool hR rfl ⟨rfl, trivial⟩ ?_
  rw [Bool.eq_iff_iff]
  simp only [Bool.cond_eq_ite, decide_eq_true_eq]
  grind
theorem sin (x l h : Int) : CallOk Try.prog 66 [I x, I l, I h] [] (Bo (decide (l ≤ x ∧ x ≤ h))) [] := by
  refine CallOk.mk 100 Try.func66 rfl en66 (by simp [Try.ntmps66]) (by simp [ClV, V.g, Cv.g]) fun C hR => ?_
  simp (config := { maxSteps := 2000000 }) only [go_sem, Nat.reduceBEq, Nat.reduceAdd, Nat.reduceLT, Nat.reduceLeDiff, Nat.reduceEqDiff, reduceCtorEq, Int.reduceAdd, Int.reduceSub, Int.reduceNeg, Int.reduceLE, Int.reduceLT, Int.reduceToNat, Int.reduceBEq, Int.reduceBNe, Int.reduceEq, Int.reduceNe, Int.toNat_zero, Int.toNat_one, bne_self_eq_false, Nat.reduceMul, Nat.zero_mul, Nat.mul_one, Nat.one_mul, Nat.reduceSub, Int.cast_ofNat_Int, Int.toNat_natCast]
  refine RetQ.bool hR rfl ⟨rfl, trivial⟩ ?_
  rw [Bool.eq_iff_iff]
  simp only [Bool.cond_eq_ite, decide_eq_true_eq]
  grind
theorem fwithin (x l h : Int) : CallOk Try.prog 49 [I x, I l, I h] [] (Bo (decide (l ≤ x ∧ x ≤ h))) [] := by
  refine CallOk.mk 100 Try.func49 rfl en49 (by simp [Try.ntmps49]) (by simp [ClV, V.g, Cv.g]) fun C hR => ?_
  simp (config := { maxSteps := 2000000 }) only [go_sem, Nat.reduceBEq, Nat.reduceAdd, Nat.reduceLT, Nat.reduceLeDiff, Nat.reduceEqDiff, reduceCtorEq, Int.reduceAdd, Int.reduceSub, Int.reduceNeg, Int.reduceLE, Int.reduceLT, Int.reduceToNat, Int.reduceBEq, Int.reduceBNe, Int.reduceEq, Int.reduceNe, Int.toNat_zero, Int.toNat_one, bne_self_eq_false, Nat.reduceMul, Nat.zero_mul, Nat.mul_one, Nat.one_mul, Nat.reduceSub, Int.cast_ofNat_Int, Int.toNat_natCast]
  refine RetQ.bool hR rfl ⟨rfl, trivial⟩ ?_
  rw [Bool.eq_iff_iff]
  simp only [Bool.cond_eq_ite, decide_eq_true_eq]
  grind
end Go.Proofs.Ytcdclmelnnbdnaa
