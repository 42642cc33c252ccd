/- Frame: signals as plain data; their limits; valid ones. -/
import Derived.Test.YtcdclmelnnbdnaaA2
namespace Go.Proofs.Ytcdclmelnnbdnaa
open Vg Tf
set_option linter.unusedSimpArgs false
set_option linter.unusedVariables false
set_option maxRecDepth 100000
set_option maxHeartbeats 4000000
structure Sg where
  nm : ByteArray
  st : Int
  ln : Int
  mot : Bool
  sgn : Bool
  num : Int
  off : Int
  den : Int
  lo : Int
  hi : Int
@[go_sem] def sgL (s : Sg) : List Cv := [.v (.string s.nm), .v (.int .i64 s.st), .v (.int .i64 s.ln), .v (.bool s.mot), .v (.bool s.sgn), .v (.int .i64 s.num), .v (.int .i64 s.off), .v (.int .i64 s.den), .v (.int .i64 s.lo), .v (.int .i64 s.hi)]
@[reducible] def sg (s : Sg) : V := .agg (sgL s)
def lims (s : Sg) : Int × Int := bif s.sgn then (-(2 ^ (s.ln.toNat - 1)), 2 ^ (s.ln.toNat - 1) - 1) else (0, 2 ^ s.ln.toNat - 1)
def inR (x l h : Int) : Bool := decide (l ≤ x ∧ x ≤ h)
def sok (s : Sg) : Bool := nmok s.nm.data.toList && (inR s.ln 1 32 && (inR s.st 0 63 && (inR s.num 1 1048576 && (inR s.den 1 1048576 && (inR s.off (-1073741824) 1073741824 && decide ((lims s).1 ≤ s.lo ∧ s.lo ≤ s.hi ∧ s.hi ≤ (lims s).2))))))
theorem inR_iff {x l h : Int} : inR x l h = true ↔ l ≤ x ∧ x ≤ h := by simp [inR]
theorem p2 {n : Nat} (h : n ≤ 32) : (1 : Int) ≤ 2 ^ n ∧ (2 : Int) ^ n ≤ 4294967296 := by
  have h1 : 2 ^ n ≤ 2 ^ 32 := Nat.pow_le_pow_right (by omega) h
  have h2 : 0 < 2 ^ n := Nat.two_pow_pos n
  have e : ((2 ^ n : Nat) : Int) = (2 : Int) ^ n := by rw [Int.natCast_pow]; rfl
  rw [← e]; omega
theorem p2' {n : Nat} (h : n ≤ 32) : (1 : Int) ≤ 2 ^ n ∧ (2 : Int) ^ n ≤ 2 ^ 32 := by
  have := p2 h; simpa using this
theorem slimits (s : Sg) (h1 : 1 ≤ s.ln) (h2 : s.ln ≤ 32) : CallOk Try.prog 67 [sg s] [] (.tup [Wi (lims s).1, Wi (lims s).2]) [] := by
  obtain ⟨n, hn⟩ := Int.eq_ofNat_of_zero_le (show 0 ≤ s.ln - 1 by omega)
  have e1 : s.ln.toNat = n + 1 := by omega
  have q1 := p2 (show n ≤ 32 by omega)
  have q2 := p2 (show n + 1 ≤ 32 by omega)
  have w1 : IntKind.i64.wrap (s.ln - 1) = (n : Int) := by rw [w64 (by omega) (by omega)]; exact hn
  have m1 : min n 64 = n := by omega
  have m2 : min (n + 1) 64 = n + 1 := by omega
  have hl : lims s = bif s.sgn then (-(2 ^ n), 2 ^ n - 1) else (0, 2 ^ (n + 1) - 1) := by unfold lims; rw [e1]; rfl
  rw [hl]
  refine CallOk.mkN 100 Try.func67 rfl en67 (by simp [Try.ntmps67]) (ClA.of rfl) rfl rfl fun C hR hP => ?_
  simp (config := { maxSteps := 2000000 }) only [go_sem, Nat.reduceBEq, Nat.reduceAdd, Nat.reduceLT, Nat.reduceLeDiff, Nat.reduceEqDiff, reduceCtorEq, Int.reduceAdd, Int.reduceSub, Int.reduceNeg, Int.reduceLE, Int.reduceLT, Int.reduceToNat, Int.reduceBEq, Int.reduceBNe, Int.reduceEq, Int.reduceNe, Int.toNat_zero, Int.toNat_one, bne_self_eq_false, Nat.reduceMul, Nat.zero_mul, Nat.mul_one, Nat.one_mul, Nat.reduceSub, Int.cast_ofNat_Int, Int.toNat_natCast]
  refine mtch (fun h => ?_) (fun h => ?_)
  · rw [h, cond_true] at hR
    refine Sm.dgo 101 11 mix (by decide +kernel) (by decide +kernel) ?_
    simp (config := { maxSteps := 2000000 }) only [go_sem, Nat.reduceBEq, Nat.reduceAdd, Nat.reduceLT, Nat.reduceLeDiff, Nat.reduceEqDiff, reduceCtorEq, Int.reduceAdd, Int.reduceSub, Int.reduceNeg, Int.reduceLE, Int.reduceLT, Int.reduceToNat, Int.reduceBEq, Int.reduceBNe, Int.reduceEq, Int.reduceNe, Int.toNat_zero, Int.toNat_one, bne_self_eq_false, Nat.reduceMul, Nat.zero_mul, Nat.mul_one, Nat.one_mul, Nat.reduceSub, Int.cast_ofNat_Int, Int.toNat_natCast]
    refine ⟨by omega, by omega, ?_⟩
    refine RetQ.int2 hR rfl (by simp (config := { maxSteps := 2000000 }) only [go_sem, Nat.reduceBEq, Nat.reduceAdd, Nat.reduceLT, Nat.reduceLeDiff, Nat.reduceEqDiff, reduceCtorEq, Int.reduceAdd, Int.reduceSub, Int.reduceNeg, Int.reduceLE, Int.reduceLT, Int.reduceToNat, Int.reduceBEq, Int.reduceBNe, Int.reduceEq, Int.reduceNe, Int.toNat_zero, Int.toNat_one, bne_self_eq_false, Nat.reduceMul, Nat.zero_mul, Nat.mul_one, Nat.one_mul, Nat.reduceSub, Int.cast_ofNat_Int, Int.toNat_natCast]) ?_ ?_
    · simp only [w1, Int.toNat_natCast, m1, Int.one_mul]
      rw [w64 (x := 2 ^ n) (by omega) (by omega), w64 (by omega) (by omega)]
      omega
    · simp only [w1, Int.toNat_natCast, m1, Int.one_mul]
      rw [w64 (x := 2 ^ n) (by omega) (by omega), w64 (by omega) (by omega)]
  · rw [h, cond_false] at hR
    refine Sm.dgo 101 5 mix (by decide +kernel) (by decide +kernel) ?_
    simp (config := { maxSteps := 2000000 }) only [go_sem, Nat.reduceBEq, Nat.reduceAdd, Nat.reduceLT, Nat.reduceLeDiff, Nat.reduceEqDiff, reduceCtorEq, Int.reduceAdd, Int.reduceSub, Int.reduceNeg, Int.reduceLE, Int.reduceLT, Int.reduceToNat, Int.reduceBEq, Int.reduceBNe, Int.reduceEq, Int.reduceNe, Int.toNat_zero, Int.toNat_one, bne_self_eq_false, Nat.reduceMul, Nat.zero_mul, Nat.mul_one, Nat.one_mul, Nat.reduceSub, Int.cast_ofNat_Int, Int.toNat_natCast]
    refine ⟨by omega, ?_⟩
    refine RetQ.int2 hR rfl (by simp (config := { maxSteps := 2000000 }) only [go_sem, Nat.reduceBEq, Nat.reduceAdd, Nat.reduceLT, Nat.reduceLeDiff, Nat.reduceEqDiff, reduceCtorEq, Int.reduceAdd, Int.reduceSub, Int.reduceNeg, Int.reduceLE, Int.reduceLT, Int.reduceToNat, Int.reduceBEq, Int.reduceBNe, Int.reduceEq, Int.reduceNe, Int.toNat_zero, Int.toNat_one, bne_self_eq_false, Nat.reduceMul, Nat.zero_mul, Nat.mul_one, Nat.one_mul, Nat.reduceSub, Int.cast_ofNat_Int, Int.toNat_natCast]) rfl ?_
    simp only [e1, m2, Int.one_mul]
    rw [w64 (x := 2 ^ (n + 1)) (by omega) (by omega), w64 (by omega) (by omega)]
theorem rlimits (s : Sg) (h1 : 1 ≤ s.ln) (h2 : s.ln ≤ 32) : CallOk Try.prog 82 [sg s] [] (.tup [Wi (lims s).1, Wi (lims s).2]) [] := by
  obtain ⟨n, hn⟩ := Int.eq_ofNat_of_zero_le (show 0 ≤ s.ln - 1 by omega)
  have e1 : s.ln.toNat = n + 1 := by omega
  have q1 := p2 (show n ≤ 32 by omega)
  have q2 := p2 (show n + 1 ≤ 32 by omega)
  have w1 : IntKind.i64.wrap (s.ln - 1) = (n : Int) := by rw [w64 (by omega) (by omega)]; exact hn
  have m1 : min n 64 = n := by omega
  have m2 : min (n + 1) 64 = n + 1 := by omega
  have hl : lims s = bif s.sgn then (-(2 ^ n), 2 ^ n - 1) else (0, 2 ^ (n + 1) - 1) := by unfold lims; rw [e1]; rfl
  rw [hl]
  refine CallOk.mkN 100 Try.func82 rfl en82 (by simp [Try.ntmps82]) (ClA.of rfl) rfl rfl fun C hR hP => ?_
  simp (config := { maxSteps := 2000000 }) only [go_sem, Nat.reduceBEq, Nat.reduceAdd, Nat.reduceLT, Nat.reduceLeDiff, Nat.reduceEqDiff, reduceCtorEq, Int.reduceAdd, Int.reduceSub, Int.reduceNeg, Int.reduceLE, Int.reduceLT, Int.reduceToNat, Int.reduceBEq, Int.reduceBNe, Int.reduceEq, Int.reduceNe, Int.toNat_zero, Int.toNat_one, bne_self_eq_false, Nat.reduceMul, Nat.zero_mul, Nat.mul_one, Nat.one_mul, Nat.reduceSub, Int.cast_ofNat_Int, Int.toNat_natCast]
  refine mtch (fun h => ?_) (fun h => ?_)
  · rw [h, cond_true] at hR
    refine Sm.dgo 101 10 mix (by decide +kernel) (by decide +kernel) ?_
    simp (config := { maxSteps := 2000000 }) only [go_sem, Nat.reduceBEq, Nat.reduceAdd, Nat.reduceLT, Nat.reduceLeDiff, Nat.reduceEqDiff, reduceCtorEq, Int.reduceAdd, Int.reduceSub, Int.reduceNeg, Int.reduceLE, Int.reduceLT, Int.reduceToNat, Int.reduceBEq, Int.reduceBNe, Int.reduceEq, Int.reduceNe, Int.toNat_zero, Int.toNat_one, bne_self_eq_false, Nat.reduceMul, Nat.zero_mul, Nat.mul_one, Nat.one_mul, Nat.reduceSub, Int.cast_ofNat_Int, Int.toNat_natCast]
    refine ⟨by omega, by omega, ?_⟩
    refine RetQ.int2 hR rfl (by simp (config := { maxSteps := 2000000 }) only [go_sem, Nat.reduceBEq, Nat.reduceAdd, Nat.reduceLT, Nat.reduceLeDiff, Nat.reduceEqDiff, reduceCtorEq, Int.reduceAdd, Int.reduceSub, Int.reduceNeg, Int.reduceLE, Int.reduceLT, Int.reduceToNat, Int.reduceBEq, Int.reduceBNe, Int.reduceEq, Int.reduceNe, Int.toNat_zero, Int.toNat_one, bne_self_eq_false, Nat.reduceMul, Nat.zero_mul, Nat.mul_one, Nat.one_mul, Nat.reduceSub, Int.cast_ofNat_Int, Int.toNat_natCast]) ?_ ?_
    · simp only [w1, Int.toNat_natCast, m1, Int.one_mul]
      rw [w64 (by omega) (by omega)]
      show -1 * 2 ^ n = -(2 ^ n)
      omega
    · simp only [w1, Int.toNat_natCast, m1, Int.one_mul]
      rw [w64 (x := 2 ^ n) (by omega) (by omega), w64 (by omega) (by omega)]
  · rw [h, cond_false] at hR
    refine Sm.dgo 101 5 mix (by decide +kernel) (by decide +kernel) ?_
    simp (config := { maxSteps := 2000000 }) only [go_sem, Nat.reduceBEq, Nat.reduceAdd, Nat.reduceLT, Nat.reduceLeDiff, Nat.reduceEqDiff, reduceCtorEq, Int.reduceAdd, Int.reduceSub, Int.reduceNeg, Int.reduceLE, Int.reduceLT, Int.reduceToNat, Int.reduceBEq, Int.reduceBNe, Int.reduceEq, Int.reduceNe, Int.toNat_zero, Int.toNat_one, bne_self_eq_false, Nat.reduceMul, Nat.zero_mul, Nat.mul_one, Nat.one_mul, Nat.reduceSub, Int.cast_ofNat_Int, Int.toNat_natCast]
    refine ⟨by omega, ?_⟩
    refine RetQ.int2 hR rfl (by simp (config := { maxSteps := 2000000 }) only [go_sem, Nat.reduceBEq, Nat.reduceAdd, Nat.reduceLT, Nat.reduceLeDiff, Nat.reduceEqDiff, reduceCtorEq, Int.reduceAdd, Int.reduceSub, Int.reduceNeg, Int.reduceLE, Int.reduceLT, Int.reduceToNat, Int.reduceBEq, Int.reduceBNe, Int.reduceEq, Int.reduceNe, Int.toNat_zero, Int.toNat_one, bne_self_eq_false, Nat.reduceMul, Nat.zero_mul, Nat.mul_one, Nat.one_mul, Nat.reduceSub, Int.cast_ofNat_Int, Int.toNat_natCast]) rfl ?_
    simp only [e1, m2, Int.one_mul]
    rw [w64 (x := 2 ^ (n + 1)) (by omega) (by omega), w64 (by omega) (by omega)]
theorem svalid (s : Sg) (hs : s.nm.data.toList.length ≤ 9223372036854775807) : CallOk Try.prog 44 [sg s] [] (Bo (sok s)) [] := by
  refine CallOk.mkN 100 Try.func44 rfl en44 (by simp [Try.ntmps44]) (ClA.of rfl) rfl rfl fun C hR hP => ?_
  simp (config := { maxSteps := 2000000 }) only [go_sem, Nat.reduceBEq, Nat.reduceAdd, Nat.reduceLT, Nat.reduceLeDiff, Nat.reduceEqDiff, reduceCtorEq, Int.reduceAdd, Int.reduceSub, Int.reduceNeg, Int.reduceLE, Int.reduceLT, Int.reduceToNat, Int.reduceBEq, Int.reduceBNe, Int.reduceEq, Int.reduceNe, Int.toNat_zero, Int.toNat_one, bne_self_eq_false, Nat.reduceMul, Nat.zero_mul, Nat.mul_one, Nat.one_mul, Nat.reduceSub, Int.cast_ofNat_Int, Int.toNat_natCast]
  refine CallQ.pure 101 (sname s.nm hs) rfl ?_
  simp (config := { maxSteps := 2000000 }) only [go_sem, Nat.reduceBEq, Nat.reduceAdd, Nat.reduceLT, Nat.reduceLeDiff, Nat.reduceEqDiff, reduceCtorEq, Int.reduceAdd, Int.reduceSub, Int.reduceNeg, Int.reduceLE, Int.reduceLT, Int.reduceToNat, Int.reduceBEq, Int.reduceBNe, Int.reduceEq, Int.reduceNe, Int.toNat_zero, Int.toNat_one, bne_self_eq_false, Nat.reduceMul, Nat.zero_mul, Nat.mul_one, Nat.one_mul, Nat.reduceSub, Int.cast_ofNat_Int, Int.toNat_natCast]
  refine CallQ.guard 101 (fun _ => sin s.ln 1 32) (fun h => by rw [h]; rfl) ?_
  simp (config := { maxSteps := 2000000 }) only [go_sem, Nat.reduceBEq, Nat.reduceAdd, Nat.reduceLT, Nat.reduceLeDiff, Nat.reduceEqDiff, reduceCtorEq, Int.reduceAdd, Int.reduceSub, Int.reduceNeg, Int.reduceLE, Int.reduceLT, Int.reduceToNat, Int.reduceBEq, Int.reduceBNe, Int.reduceEq, Int.reduceNe, Int.toNat_zero, Int.toNat_one, bne_self_eq_false, Nat.reduceMul, Nat.zero_mul, Nat.mul_one, Nat.one_mul, Nat.reduceSub, Int.cast_ofNat_Int, Int.toNat_natCast]
  refine CallQ.guard 101 (fun _ => sin s.st 0 63) (fun h => by rw [h]; rfl) ?_
  simp (config := { maxSteps := 2000000 }) only [go_sem, Nat.reduceBEq, Nat.reduceAdd, Nat.reduceLT, Nat.reduceLeDiff, Nat.reduceEqDiff, reduceCtorEq, Int.reduceAdd, Int.reduceSub, Int.reduceNeg, Int.reduceLE, Int.reduceLT, Int.reduceToNat, Int.reduceBEq, Int.reduceBNe, Int.reduceEq, Int.reduceNe, Int.toNat_zero, Int.toNat_one, bne_self_eq_false, Nat.reduceMul, Nat.zero_mul, Nat.mul_one, Nat.one_mul, Nat.reduceSub, Int.cast_ofNat_Int, Int.toNat_natCast]
  refine CallQ.guard 101 (fun _ => sin s.num 1 1048576) (fun h => by rw [h]; rfl) ?_
  simp (config := { maxSteps := 2000000 }) only [go_sem, Nat.reduceBEq, Nat.reduceAdd, Nat.reduceLT, Nat.reduceLeDiff, Nat.reduceEqDiff, reduceCtorEq, Int.reduceAdd, Int.reduceSub, Int.reduceNeg, Int.reduceLE, Int.reduceLT, Int.reduceToNat, Int.reduceBEq, Int.reduceBNe, Int.reduceEq, Int.reduceNe, Int.toNat_zero, Int.toNat_one, bne_self_eq_false, Nat.reduceMul, Nat.zero_mul, Nat.mul_one, Nat.one_mul, Nat.reduceSub, Int.cast_ofNat_Int, Int.toNat_natCast]
  refine CallQ.guard 101 (fun _ => sin s.den 1 1048576) (fun h => by rw [h]; rfl) ?_
  simp (config := { maxSteps := 2000000 }) only [go_sem, Nat.reduceBEq, Nat.reduceAdd, Nat.reduceLT, Nat.reduceLeDiff, Nat.reduceEqDiff, reduceCtorEq, Int.reduceAdd, Int.reduceSub, Int.reduceNeg, Int.reduceLE, Int.reduceLT, Int.reduceToNat, Int.reduceBEq, Int.reduceBNe, Int.reduceEq, Int.reduceNe, Int.toNat_zero, Int.toNat_one, bne_self_eq_false, Nat.reduceMul, Nat.zero_mul, Nat.mul_one, Nat.one_mul, Nat.reduceSub, Int.cast_ofNat_Int, Int.toNat_natCast]
  refine CallQ.guard 101 (fun _ => sin s.off (-1073741824) 1073741824) (fun h => by rw [h]; rfl) ?_
  simp (config := { maxSteps := 2000000 }) only [go_sem, Nat.reduceBEq, Nat.reduceAdd, Nat.reduceLT, Nat.reduceLeDiff, Nat.reduceEqDiff, reduceCtorEq, Int.reduceAdd, Int.reduceSub, Int.reduceNeg, Int.reduceLE, Int.reduceLT, Int.reduceToNat, Int.reduceBEq, Int.reduceBNe, Int.reduceEq, Int.reduceNe, Int.toNat_zero, Int.toNat_one, bne_self_eq_false, Nat.reduceMul, Nat.zero_mul, Nat.mul_one, Nat.one_mul, Nat.reduceSub, Int.cast_ofNat_Int, Int.toNat_natCast]
  refine mtch (fun h => ?_) (fun h => ?_)
  · refine RetQ.bool hR rfl ⟨rfl, trivial⟩ ?_
    unfold sok inR
    generalize nmok s.nm.data.toList = a at *
    cases a <;> simp_all <;> grind
  · have h' : nmok s.nm.data.toList = true ∧ (1 ≤ s.ln ∧ s.ln ≤ 32) ∧ (0 ≤ s.st ∧ s.st ≤ 63) ∧ (1 ≤ s.num ∧ s.num ≤ 1048576) ∧ (1 ≤ s.den ∧ s.den ≤ 1048576) ∧ (-1073741824 ≤ s.off ∧ s.off ≤ 1073741824) := by
      generalize nmok s.nm.data.toList = a at *
      cases a <;> simp_all
    obtain ⟨k0, k1, k2, k3, k4, k5⟩ := h'
    refine CallQ.pure 101 (slimits s k1.1 k1.2) rfl ?_
    simp (config := { maxSteps := 2000000 }) only [go_sem, Nat.reduceBEq, Nat.reduceAdd, Nat.reduceLT, Nat.reduceLeDiff, Nat.reduceEqDiff, reduceCtorEq, Int.reduceAdd, Int.reduceSub, Int.reduceNeg, Int.reduceLE, Int.reduceLT, Int.reduceToNat, Int.reduceBEq, Int.reduceBNe, Int.reduceEq, Int.reduceNe, Int.toNat_zero, Int.toNat_one, bne_self_eq_false, Nat.reduceMul, Nat.zero_mul, Nat.mul_one, Nat.one_mul, Nat.reduceSub, Int.cast_ofNat_Int, Int.toNat_natCast]
    refine RetQ.bool hR rfl ⟨rfl, trivial⟩ ?_
    rw [Bool.eq_iff_iff]
    unfold sok
    rw [k0, inR_iff.2 k1, inR_iff.2 k2, inR_iff.2 k3, inR_iff.2 k4, inR_iff.2 k5]
    simp only [Bool.true_and, Bool.cond_false_right, Bool.and_eq_true, decide_eq_true_eq]
    grind
theorem rsignal (s : Sg) (hs : s.nm.data.toList.length ≤ 9223372036854775807) : CallOk Try.prog 64 [sg s] [] (Bo (sok s)) [] := by
  refine CallOk.mkN 100 Try.func64 rfl en64 (by simp [Try.ntmps64]) (ClA.of rfl) rfl rfl fun C hR hP => ?_
  simp (config := { maxSteps := 2000000 }) only [go_sem, Nat.reduceBEq, Nat.reduceAdd, Nat.reduceLT, Nat.reduceLeDiff, Nat.reduceEqDiff, reduceCtorEq, Int.reduceAdd, Int.reduceSub, Int.reduceNeg, Int.reduceLE, Int.reduceLT, Int.reduceToNat, Int.reduceBEq, Int.reduceBNe, Int.reduceEq, Int.reduceNe, Int.toNat_zero, Int.toNat_one, bne_self_eq_false, Nat.reduceMul, Nat.zero_mul, Nat.mul_one, Nat.one_mul, Nat.reduceSub, Int.cast_ofNat_Int, Int.toNat_natCast]
  refine CallQ.pure 101 (rname s.nm hs) rfl ?_
  simp (config := { maxSteps := 2000000 }) only [go_sem, Nat.reduceBEq, Nat.reduceAdd, Nat.reduceLT, Nat.reduceLeDiff, Nat.reduceEqDiff, reduceCtorEq, Int.reduceAdd, Int.reduceSub, Int.reduceNeg, Int.reduceLE, Int.reduceLT, Int.reduceToNat, Int.reduceBEq, Int.reduceBNe, Int.reduceEq, Int.reduceNe, Int.toNat_zero, Int.toNat_one, bne_self_eq_false, Nat.reduceMul, Nat.zero_mul, Nat.mul_one, Nat.one_mul, Nat.reduceSub, Int.cast_ofNat_Int, Int.toNat_natCast]
  refine mtch (fun h => ?_) (fun h => ?_)
  · refine RetQ.bool hR rfl ⟨rfl, trivial⟩ ?_
    unfold sok inR
    generalize nmok s.nm.data.toList = a at *
    cases a
    · rfl
    · simp only [Bool.not_true, Bool.cond_false_left, Bool.cond_true_left, Bool.or_eq_true, decide_eq_true_eq, Bool.false_or] at h
      symm
      rw [Bool.eq_false_iff]
      intro hh
      simp only [Bool.and_eq_true, decide_eq_true_eq] at hh
      omega
  · have h' : nmok s.nm.data.toList = true ∧ (1 ≤ s.ln ∧ s.ln ≤ 32) ∧ (0 ≤ s.st ∧ s.st ≤ 63) := by
      generalize nmok s.nm.data.toList = a at *
      cases a <;> simp_all
    obtain ⟨k0, k1, k2⟩ := h'
    refine CallQ.pure 101 (rlimits s k1.1 k1.2) rfl ?_
    simp (config := { maxSteps := 2000000 }) only [go_sem, Nat.reduceBEq, Nat.reduceAdd, Nat.reduceLT, Nat.reduceLeDiff, Nat.reduceEqDiff, reduceCtorEq, Int.reduceAdd, Int.reduceSub, Int.reduceNeg, Int.reduceLE, Int.reduceLT, Int.reduceToNat, Int.reduceBEq, Int.reduceBNe, Int.reduceEq, Int.reduceNe, Int.toNat_zero, Int.toNat_one, bne_self_eq_false, Nat.reduceMul, Nat.zero_mul, Nat.mul_one, Nat.one_mul, Nat.reduceSub, Int.cast_ofNat_Int, Int.toNat_natCast]
    refine RetQ.bool hR rfl ⟨rfl, trivial⟩ ?_
    rw [Bool.eq_iff_iff]
    unfold sok
    rw [k0, inR_iff.2 k1, inR_iff.2 k2]
    simp only [inR, Bool.true_and, Bool.cond_false_right, Bool.and_eq_true, decide_eq_true_eq]
    grind
theorem fright (s : Sg) (hs : s.nm.data.toList.length ≤ 9223372036854775807) : CallOk Try.prog 55 [sg s] [] (Bo (sok s)) [] := by
  refine CallOk.mkN 100 Try.func55 rfl en55 (by simp [Try.ntmps55]) (ClA.of rfl) rfl rfl fun C hR hP => ?_
  simp (config := { maxSteps := 2000000 }) only [go_sem, Nat.reduceBEq, Nat.reduceAdd, Nat.reduceLT, Nat.reduceLeDiff, Nat.reduceEqDiff, reduceCtorEq, Int.reduceAdd, Int.reduceSub, Int.reduceNeg, Int.reduceLE, Int.reduceLT, Int.reduceToNat, Int.reduceBEq, Int.reduceBNe, Int.reduceEq, Int.reduceNe, Int.toNat_zero, Int.toNat_one, bne_self_eq_false, Nat.reduceMul, Nat.zero_mul, Nat.mul_one, Nat.one_mul, Nat.reduceSub, Int.cast_ofNat_Int, Int.toNat_natCast]
  refine CallQ.pure 101 (fname s.nm hs) rfl ?_
  simp (config := { maxSteps := 2000000 }) only [go_sem, Nat.reduceBEq, Nat.reduceAdd, Nat.reduceLT, Nat.reduceLeDiff, Nat.reduceEqDiff, reduceCtorEq, Int.reduceAdd, Int.reduceSub, Int.reduceNeg, Int.reduceLE, Int.reduceLT, Int.reduceToNat, Int.reduceBEq, Int.reduceBNe, Int.reduceEq, Int.reduceNe, Int.toNat_zero, Int.toNat_one, bne_self_eq_false, Nat.reduceMul, Nat.zero_mul, Nat.mul_one, Nat.one_mul, Nat.reduceSub, Int.cast_ofNat_Int, Int.toNat_natCast]
  refine CallQ.guard 101 (fun _ => fwithin s.ln 1 32) (fun h => by rw [h]; rfl) ?_
  simp (config := { maxSteps := 2000000 }) only [go_sem, Nat.reduceBEq, Nat.reduceAdd, Nat.reduceLT, Nat.reduceLeDiff, Nat.reduceEqDiff, reduceCtorEq, Int.reduceAdd, Int.reduceSub, Int.reduceNeg, Int.reduceLE, Int.reduceLT, Int.reduceToNat, Int.reduceBEq, Int.reduceBNe, Int.reduceEq, Int.reduceNe, Int.toNat_zero, Int.toNat_one, bne_self_eq_false, Nat.reduceMul, Nat.zero_mul, Nat.mul_one, Nat.one_mul, Nat.reduceSub, Int.cast_ofNat_Int, Int.toNat_natCast]
  refine CallQ.guard 101 (fun _ => fwithin s.st 0 63) (fun h => by rw [h]; rfl) ?_
  simp (config := { maxSteps := 2000000 }) only [go_sem, Nat.reduceBEq, Nat.reduceAdd, Nat.reduceLT, Nat.reduceLeDiff, Nat.reduceEqDiff, reduceCtorEq, Int.reduceAdd, Int.reduceSub, Int.reduceNeg, Int.reduceLE, Int.reduceLT, Int.reduceToNat, Int.reduceBEq, Int.reduceBNe, Int.reduceEq, Int.reduceNe, Int.toNat_zero, Int.toNat_one, bne_self_eq_false, Nat.reduceMul, Nat.zero_mul, Nat.mul_one, Nat.one_mul, Nat.reduceSub, Int.cast_ofNat_Int, Int.toNat_natCast]
  refine CallQ.guard 101 (fun _ => fwithin s.num 1 1048576) (fun h => by rw [h]; rfl) ?_
  simp (config := { maxSteps := 2000000 }) only [go_sem, Nat.reduceBEq, Nat.reduceAdd, Nat.reduceLT, Nat.reduceLeDiff, Nat.reduceEqDiff, reduceCtorEq, Int.reduceAdd, Int.reduceSub, Int.reduceNeg, Int.reduceLE, Int.reduceLT, Int.reduceToNat, Int.reduceBEq, Int.reduceBNe, Int.reduceEq, Int.reduceNe, Int.toNat_zero, Int.toNat_one, bne_self_eq_false, Nat.reduceMul, Nat.zero_mul, Nat.mul_one, Nat.one_mul, Nat.reduceSub, Int.cast_ofNat_Int, Int.toNat_natCast]
  refine CallQ.guard 101 (fun _ => fwithin s.den 1 1048576) (fun h => by rw [h]; rfl) ?_
  simp (config := { maxSteps := 2000000 }) only [go_sem, Nat.reduceBEq, Nat.reduceAdd, Nat.reduceLT, Nat.reduceLeDiff, Nat.reduceEqDiff, reduceCtorEq, Int.reduceAdd, Int.reduceSub, Int.reduceNeg, Int.reduceLE, Int.reduceLT, Int.reduceToNat, Int.reduceBEq, Int.reduceBNe, Int.reduceEq, Int.reduceNe, Int.toNat_zero, Int.toNat_one, bne_self_eq_false, Nat.reduceMul, Nat.zero_mul, Nat.mul_one, Nat.one_mul, Nat.reduceSub, Int.cast_ofNat_Int, Int.toNat_natCast]
  refine CallQ.guard 101 (fun _ => fwithin s.off (-1073741824) 1073741824) (fun h => by rw [h]; rfl) ?_
  simp (config := { maxSteps := 2000000 }) only [go_sem, Nat.reduceBEq, Nat.reduceAdd, Nat.reduceLT, Nat.reduceLeDiff, Nat.reduceEqDiff, reduceCtorEq, Int.reduceAdd, Int.reduceSub, Int.reduceNeg, Int.reduceLE, Int.reduceLT, Int.reduceToNat, Int.reduceBEq, Int.reduceBNe, Int.reduceEq, Int.reduceNe, Int.toNat_zero, Int.toNat_one, bne_self_eq_false, Nat.reduceMul, Nat.zero_mul, Nat.mul_one, Nat.one_mul, Nat.reduceSub, Int.cast_ofNat_Int, Int.toNat_natCast]
  refine mtch (fun h => ?_) (fun h => ?_)
  · refine RetQ.bool hR rfl ⟨rfl, trivial⟩ ?_
    unfold sok inR
    generalize nmok s.nm.data.toList = a at *
    cases a <;> simp_all <;> grind
  · have h' : nmok s.nm.data.toList = true ∧ (1 ≤ s.ln ∧ s.ln ≤ 32) ∧ (0 ≤ s.st ∧ s.st ≤ 63) ∧ (1 ≤ s.num ∧ s.num ≤ 1048576) ∧ (1 ≤ s.den ∧ s.den ≤ 1048576) ∧ (-1073741824 ≤ s.off ∧ s.off ≤ 1073741824) := by
      generalize nmok s.nm.data.toList = a at *
      cases a <;> simp_all
    obtain ⟨k0, k1, k2, k3, k4, k5⟩ := h'
    have ek : sok s = decide ((lims s).1 ≤ s.lo ∧ s.lo ≤ s.hi ∧ s.hi ≤ (lims s).2) := by
      unfold sok
      rw [k0, inR_iff.2 k1, inR_iff.2 k2, inR_iff.2 k3, inR_iff.2 k4, inR_iff.2 k5]
      rfl
    obtain ⟨n, hn⟩ := Int.eq_ofNat_of_zero_le (show 0 ≤ s.ln - 1 by omega)
    have e1 : s.ln.toNat = n + 1 := by omega
    have q1 := p2 (show n ≤ 32 by omega)
    have q2 := p2 (show n + 1 ≤ 32 by omega)
    have w1 : IntKind.i64.wrap (s.ln - 1) = (n : Int) := by rw [w64 (by omega) (by omega)]; exact hn
    have m1 : min n 64 = n := by omega
    have m2 : min (n + 1) 64 = n + 1 := by omega
    have hl : lims s = bif s.sgn then (-(2 ^ n), 2 ^ n - 1) else (0, 2 ^ (n + 1) - 1) := by unfold lims; rw [e1]; rfl
    have w2 : IntKind.i64.wrap (IntKind.i64.wrap (2 ^ n) - 1) = 2 ^ n - 1 := by rw [w64 (x := 2 ^ n) (by omega) (by omega), w64 (by omega) (by omega)]
    have w3 : IntKind.i64.wrap (IntKind.i64.wrap (2 ^ (n + 1)) - 1) = 2 ^ (n + 1) - 1 := by rw [w64 (x := 2 ^ (n + 1)) (by omega) (by omega), w64 (by omega) (by omega)]
    have w4 : IntKind.i64.wrap (-1 * 2 ^ n) = -(2 ^ n) := by rw [w64 (by omega) (by omega)]; omega
    refine Sm.dgo 101 5 mix (by decide +kernel) (by decide +kernel) ?_
    simp (config := { maxSteps := 2000000 }) only [go_sem, Nat.reduceBEq, Nat.reduceAdd, Nat.reduceLT, Nat.reduceLeDiff, Nat.reduceEqDiff, reduceCtorEq, Int.reduceAdd, Int.reduceSub, Int.reduceNeg, Int.reduceLE, Int.reduceLT, Int.reduceToNat, Int.reduceBEq, Int.reduceBNe, Int.reduceEq, Int.reduceNe, Int.toNat_zero, Int.toNat_one, bne_self_eq_false, Nat.reduceMul, Nat.zero_mul, Nat.mul_one, Nat.one_mul, Nat.reduceSub, Int.cast_ofNat_Int, Int.toNat_natCast]
    refine ⟨by omega, ?_⟩
    refine mtch (fun hs => ?_) (fun hs => ?_)
    · refine Sm.dgo 101 10 mix (by decide +kernel) (by decide +kernel) ?_
      simp (config := { maxSteps := 2000000 }) only [go_sem, Nat.reduceBEq, Nat.reduceAdd, Nat.reduceLT, Nat.reduceLeDiff, Nat.reduceEqDiff, reduceCtorEq, Int.reduceAdd, Int.reduceSub, Int.reduceNeg, Int.reduceLE, Int.reduceLT, Int.reduceToNat, Int.reduceBEq, Int.reduceBNe, Int.reduceEq, Int.reduceNe, Int.toNat_zero, Int.toNat_one, bne_self_eq_false, Nat.reduceMul, Nat.zero_mul, Nat.mul_one, Nat.one_mul, Nat.reduceSub, Int.cast_ofNat_Int, Int.toNat_natCast]
      refine ⟨by omega, by omega, ?_⟩
      refine RetQ.bool hR rfl ⟨rfl, trivial⟩ ?_
      rw [ek, hl, hs, cond_true, Bool.eq_iff_iff]
      simp only [w1, w2, w4, Int.toNat_natCast, m1, Int.one_mul, Bool.cond_false_right, Bool.and_eq_true, decide_eq_true_eq]
      grind
    · refine RetQ.bool hR rfl ⟨rfl, trivial⟩ ?_
      rw [ek, hl, hs, cond_false, Bool.eq_iff_iff]
      simp only [e1, m2, w3, Int.one_mul, Bool.cond_false_right, Bool.and_eq_true, decide_eq_true_eq]
      grind
end Go.Proofs.Ytcdclmelnnbdnaa
