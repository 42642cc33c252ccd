/- Contracts of the reference of layer 3 (Valid, Limits, Within, Number, Step), and of fixed.Step. -/
import Derived.Test.YtoioclmfjmgaaaaDoorFC2
namespace Go.Proofs.YtoioclmfjmgaaaaDoor.Fx
open Vg Tf
set_option linter.unusedSimpArgs false
set_option linter.unusedVariables false
set_option maxRecDepth 100000
theorem in9 (x : Int) : CallOk Tryd.prog 88 [I x] [] (Bo (decide (-9 ≤ x ∧ x ≤ 9))) [] := by
  refine CallOk.mk 100 Tryd.func88 rfl en88 (by simp [Tryd.ntmps88]) (by simp [ClV, V.g, Cv.g]) fun C hR => ?_
  simp (config := { maxSteps := 2000000 }) only [go_sem, Nat.reduceBEq, Nat.reduceAdd, Nat.reduceLT, Nat.reduceLeDiff, Nat.reduceEqDiff, reduceCtorEq, Int.reduceAdd, Int.reduceSub, Int.reduceNeg, Int.reduceLE, Int.reduceLT, Int.reduceToNat, Int.reduceBEq, Int.reduceBNe, Int.reduceEq, Int.reduceNe, Int.toNat_zero, Int.toNat_one, bne_self_eq_false, Nat.reduceMul, Nat.zero_mul, Nat.mul_one, Nat.one_mul, Nat.reduceSub, Int.cast_ofNat_Int, Int.toNat_natCast]
  refine RetQ.bool hR rfl ⟨rfl, trivial⟩ ?_
  rw [Bool.eq_iff_iff]
  simp only [Bool.cond_eq_ite, decide_eq_true_eq]
  grind
theorem runit (m kg s a k : Int) : CallOk Tryd.prog 51 [un m kg s a k] [] (Bo (uok m kg s a k)) [] := by
  refine CallOk.mk 100 Tryd.func51 rfl en51 (by simp [Tryd.ntmps51]) (by simp [ClV, V.g, Cv.g, un, ci]) fun C hR => ?_
  simp (config := { maxSteps := 2000000 }) only [go_sem, Nat.reduceBEq, Nat.reduceAdd, Nat.reduceLT, Nat.reduceLeDiff, Nat.reduceEqDiff, reduceCtorEq, Int.reduceAdd, Int.reduceSub, Int.reduceNeg, Int.reduceLE, Int.reduceLT, Int.reduceToNat, Int.reduceBEq, Int.reduceBNe, Int.reduceEq, Int.reduceNe, Int.toNat_zero, Int.toNat_one, bne_self_eq_false, Nat.reduceMul, Nat.zero_mul, Nat.mul_one, Nat.one_mul, Nat.reduceSub, Int.cast_ofNat_Int, Int.toNat_natCast]
  refine CallQ.pure 101 (in9 m) rfl ?_
  simp (config := { maxSteps := 2000000 }) only [go_sem, Nat.reduceBEq, Nat.reduceAdd, Nat.reduceLT, Nat.reduceLeDiff, Nat.reduceEqDiff, reduceCtorEq, Int.reduceAdd, Int.reduceSub, Int.reduceNeg, Int.reduceLE, Int.reduceLT, Int.reduceToNat, Int.reduceBEq, Int.reduceBNe, Int.reduceEq, Int.reduceNe, Int.toNat_zero, Int.toNat_one, bne_self_eq_false, Nat.reduceMul, Nat.zero_mul, Nat.mul_one, Nat.one_mul, Nat.reduceSub, Int.cast_ofNat_Int, Int.toNat_natCast]
  refine CallQ.guard 101 (fun _ => in9 kg) (fun h => by rw [h]; rfl) ?_
  simp (config := { maxSteps := 2000000 }) only [go_sem, Nat.reduceBEq, Nat.reduceAdd, Nat.reduceLT, Nat.reduceLeDiff, Nat.reduceEqDiff, reduceCtorEq, Int.reduceAdd, Int.reduceSub, Int.reduceNeg, Int.reduceLE, Int.reduceLT, Int.reduceToNat, Int.reduceBEq, Int.reduceBNe, Int.reduceEq, Int.reduceNe, Int.toNat_zero, Int.toNat_one, bne_self_eq_false, Nat.reduceMul, Nat.zero_mul, Nat.mul_one, Nat.one_mul, Nat.reduceSub, Int.cast_ofNat_Int, Int.toNat_natCast]
  refine CallQ.guard 101 (fun _ => in9 s) (fun h => by rw [h]; rfl) ?_
  simp (config := { maxSteps := 2000000 }) only [go_sem, Nat.reduceBEq, Nat.reduceAdd, Nat.reduceLT, Nat.reduceLeDiff, Nat.reduceEqDiff, reduceCtorEq, Int.reduceAdd, Int.reduceSub, Int.reduceNeg, Int.reduceLE, Int.reduceLT, Int.reduceToNat, Int.reduceBEq, Int.reduceBNe, Int.reduceEq, Int.reduceNe, Int.toNat_zero, Int.toNat_one, bne_self_eq_false, Nat.reduceMul, Nat.zero_mul, Nat.mul_one, Nat.one_mul, Nat.reduceSub, Int.cast_ofNat_Int, Int.toNat_natCast]
  refine CallQ.guard 101 (fun _ => in9 a) (fun h => by rw [h]; rfl) ?_
  simp (config := { maxSteps := 2000000 }) only [go_sem, Nat.reduceBEq, Nat.reduceAdd, Nat.reduceLT, Nat.reduceLeDiff, Nat.reduceEqDiff, reduceCtorEq, Int.reduceAdd, Int.reduceSub, Int.reduceNeg, Int.reduceLE, Int.reduceLT, Int.reduceToNat, Int.reduceBEq, Int.reduceBNe, Int.reduceEq, Int.reduceNe, Int.toNat_zero, Int.toNat_one, bne_self_eq_false, Nat.reduceMul, Nat.zero_mul, Nat.mul_one, Nat.one_mul, Nat.reduceSub, Int.cast_ofNat_Int, Int.toNat_natCast]
  refine CallQ.guard 101 (fun _ => in9 k) (fun h => by rw [h]; rfl) ?_
  simp (config := { maxSteps := 2000000 }) only [go_sem, Nat.reduceBEq, Nat.reduceAdd, Nat.reduceLT, Nat.reduceLeDiff, Nat.reduceEqDiff, reduceCtorEq, Int.reduceAdd, Int.reduceSub, Int.reduceNeg, Int.reduceLE, Int.reduceLT, Int.reduceToNat, Int.reduceBEq, Int.reduceBNe, Int.reduceEq, Int.reduceNe, Int.toNat_zero, Int.toNat_one, bne_self_eq_false, Nat.reduceMul, Nat.zero_mul, Nat.mul_one, Nat.one_mul, Nat.reduceSub, Int.cast_ofNat_Int, Int.toNat_natCast]
  refine RetQ.bool hR rfl ⟨rfl, trivial⟩ ?_
  unfold uok
  rw [Bool.eq_iff_iff]
  simp only [Bool.cond_eq_ite, decide_eq_true_eq]
  grind
theorem rvalid (t : Ft) : CallOk Tryd.prog 16 [fx t] [] (Bo (fok t)) [] := by
  refine CallOk.mk 100 Tryd.func16 rfl en16 (by simp [Tryd.ntmps16]) (by simp [ClV, V.g, Cv.g, fx, ci]) fun C hR => ?_
  simp (config := { maxSteps := 2000000 }) only [go_sem, Nat.reduceBEq, Nat.reduceAdd, Nat.reduceLT, Nat.reduceLeDiff, Nat.reduceEqDiff, reduceCtorEq, Int.reduceAdd, Int.reduceSub, Int.reduceNeg, Int.reduceLE, Int.reduceLT, Int.reduceToNat, Int.reduceBEq, Int.reduceBNe, Int.reduceEq, Int.reduceNe, Int.toNat_zero, Int.toNat_one, bne_self_eq_false, Nat.reduceMul, Nat.zero_mul, Nat.mul_one, Nat.one_mul, Nat.reduceSub, Int.cast_ofNat_Int, Int.toNat_natCast]
  by_cases hb : t.bits = 8 ∨ t.bits = 16 ∨ t.bits = 32
  · have e : (bif bif t.bits != 8 then t.bits != 16 else false then t.bits != 32 else false) = false := by
      rcases hb with h | h | h <;> rw [h] <;> rfl
    simp only [e]
    refine CallQ.guard 101 (fun _ => runit t.m t.kg t.s t.a t.k) (fun h => by rw [h]; rfl) ?_
    simp (config := { maxSteps := 2000000 }) only [go_sem, Nat.reduceBEq, Nat.reduceAdd, Nat.reduceLT, Nat.reduceLeDiff, Nat.reduceEqDiff, reduceCtorEq, Int.reduceAdd, Int.reduceSub, Int.reduceNeg, Int.reduceLE, Int.reduceLT, Int.reduceToNat, Int.reduceBEq, Int.reduceBNe, Int.reduceEq, Int.reduceNe, Int.toNat_zero, Int.toNat_one, bne_self_eq_false, Nat.reduceMul, Nat.zero_mul, Nat.mul_one, Nat.one_mul, Nat.reduceSub, Int.cast_ofNat_Int, Int.toNat_natCast]
    refine RetQ.bool hR rfl ⟨rfl, trivial⟩ ?_
    unfold fok
    rw [Bool.eq_iff_iff]
    simp only [Bool.cond_eq_ite, Bool.and_eq_true, decide_eq_true_eq, beq_iff_eq]
    generalize uok t.m t.kg t.s t.a t.k = u
    grind
  · have e : (bif bif t.bits != 8 then t.bits != 16 else false then t.bits != 32 else false) = true := by
      have e1 : (t.bits != 8) = true := by simp; omega
      have e2 : (t.bits != 16) = true := by simp; omega
      have e3 : (t.bits != 32) = true := by simp; omega
      rw [e1, e2, e3]; rfl
    simp only [e]
    refine RetQ.bool hR rfl ⟨rfl, trivial⟩ ?_
    unfold fok
    simp [hb]
theorem rlimits (t : Ft) (h : fok t = true) : CallOk Tryd.prog 52 [fx t] [] (.tup [Wi (flo t), Wi (fhi t)]) [] := by
  refine CallOk.mk 100 Tryd.func52 rfl en52 (by simp [Tryd.ntmps52]) (by simp [ClV, V.g, Cv.g, fx, ci]) fun C hR => ?_
  simp (config := { maxSteps := 2000000 }) only [go_sem, Nat.reduceBEq, Nat.reduceAdd, Nat.reduceLT, Nat.reduceLeDiff, Nat.reduceEqDiff, reduceCtorEq, Int.reduceAdd, Int.reduceSub, Int.reduceNeg, Int.reduceLE, Int.reduceLT, Int.reduceToNat, Int.reduceBEq, Int.reduceBNe, Int.reduceEq, Int.reduceNe, Int.toNat_zero, Int.toNat_one, bne_self_eq_false, Nat.reduceMul, Nat.zero_mul, Nat.mul_one, Nat.one_mul, Nat.reduceSub, Int.cast_ofNat_Int, Int.toNat_natCast]
  have hb := fok_bits h
  clear h
  obtain ⟨bits, signed, num, off, den, m, kg, s, a, k⟩ := t
  simp only at hb hR ⊢
  cases signed with
  | true =>
    refine Sm.dgo 101 11 mix (by decide +kernel) (by decide +kernel) ?_
    simp (config := { maxSteps := 2000000 }) only [go_sem, Nat.reduceBEq, Nat.reduceAdd, Nat.reduceLT, Nat.reduceLeDiff, Nat.reduceEqDiff, reduceCtorEq, Int.reduceAdd, Int.reduceSub, Int.reduceNeg, Int.reduceLE, Int.reduceLT, Int.reduceToNat, Int.reduceBEq, Int.reduceBNe, Int.reduceEq, Int.reduceNe, Int.toNat_zero, Int.toNat_one, bne_self_eq_false, Nat.reduceMul, Nat.zero_mul, Nat.mul_one, Nat.one_mul, Nat.reduceSub, Int.cast_ofNat_Int, Int.toNat_natCast]
    rcases hb with rfl | rfl | rfl
    · exact ⟨by decide, by decide, RetQ.int2 hR rfl ⟨rfl, rfl, trivial⟩ rfl rfl⟩
    · exact ⟨by decide, by decide, RetQ.int2 hR rfl ⟨rfl, rfl, trivial⟩ rfl rfl⟩
    · exact ⟨by decide, by decide, RetQ.int2 hR rfl ⟨rfl, rfl, trivial⟩ rfl rfl⟩
  | false =>
    refine Sm.dgo 101 5 mix (by decide +kernel) (by decide +kernel) ?_
    simp (config := { maxSteps := 2000000 }) only [go_sem, Nat.reduceBEq, Nat.reduceAdd, Nat.reduceLT, Nat.reduceLeDiff, Nat.reduceEqDiff, reduceCtorEq, Int.reduceAdd, Int.reduceSub, Int.reduceNeg, Int.reduceLE, Int.reduceLT, Int.reduceToNat, Int.reduceBEq, Int.reduceBNe, Int.reduceEq, Int.reduceNe, Int.toNat_zero, Int.toNat_one, bne_self_eq_false, Nat.reduceMul, Nat.zero_mul, Nat.mul_one, Nat.one_mul, Nat.reduceSub, Int.cast_ofNat_Int, Int.toNat_natCast]
    rcases hb with rfl | rfl | rfl
    · exact ⟨by decide, RetQ.int2 hR rfl ⟨rfl, rfl, trivial⟩ rfl rfl⟩
    · exact ⟨by decide, RetQ.int2 hR rfl ⟨rfl, rfl, trivial⟩ rfl rfl⟩
    · exact ⟨by decide, RetQ.int2 hR rfl ⟨rfl, rfl, trivial⟩ rfl rfl⟩
theorem rwithin (t : Ft) (raw : Int) (h : fok t = true) : CallOk Tryd.prog 17 [fx t, I raw] [] (Bo (fin t raw)) [] := by
  refine CallOk.mk 100 Tryd.func17 rfl en17 (by simp [Tryd.ntmps17]) (by simp [ClV, V.g, Cv.g, fx, ci]) fun C hR => ?_
  simp (config := { maxSteps := 2000000 }) only [go_sem, Nat.reduceBEq, Nat.reduceAdd, Nat.reduceLT, Nat.reduceLeDiff, Nat.reduceEqDiff, reduceCtorEq, Int.reduceAdd, Int.reduceSub, Int.reduceNeg, Int.reduceLE, Int.reduceLT, Int.reduceToNat, Int.reduceBEq, Int.reduceBNe, Int.reduceEq, Int.reduceNe, Int.toNat_zero, Int.toNat_one, bne_self_eq_false, Nat.reduceMul, Nat.zero_mul, Nat.mul_one, Nat.one_mul, Nat.reduceSub, Int.cast_ofNat_Int, Int.toNat_natCast]
  refine CallQ.pure 101 (rlimits t h) rfl ?_
  simp (config := { maxSteps := 2000000 }) only [go_sem, Nat.reduceBEq, Nat.reduceAdd, Nat.reduceLT, Nat.reduceLeDiff, Nat.reduceEqDiff, reduceCtorEq, Int.reduceAdd, Int.reduceSub, Int.reduceNeg, Int.reduceLE, Int.reduceLT, Int.reduceToNat, Int.reduceBEq, Int.reduceBNe, Int.reduceEq, Int.reduceNe, Int.toNat_zero, Int.toNat_one, bne_self_eq_false, Nat.reduceMul, Nat.zero_mul, Nat.mul_one, Nat.one_mul, Nat.reduceSub, Int.cast_ofNat_Int, Int.toNat_natCast]
  refine RetQ.bool hR rfl ⟨rfl, trivial⟩ ?_
  unfold fin
  cases decide (flo t ≤ raw) <;> rfl
theorem size_ (x : Int) (h1 : -9223372036854775808 ≤ x) (h2 : x ≤ 9223372036854775807) : CallOk Tryd.prog 94 [I x] [] (U x.natAbs) [] := by
  refine CallOk.mk 100 Tryd.func94 rfl en94 (by simp [Tryd.ntmps94]) (by simp [ClV, V.g, Cv.g]) fun C hR => ?_
  simp (config := { maxSteps := 2000000 }) only [go_sem, Nat.reduceBEq, Nat.reduceAdd, Nat.reduceLT, Nat.reduceLeDiff, Nat.reduceEqDiff, reduceCtorEq, Int.reduceAdd, Int.reduceSub, Int.reduceNeg, Int.reduceLE, Int.reduceLT, Int.reduceToNat, Int.reduceBEq, Int.reduceBNe, Int.reduceEq, Int.reduceNe, Int.toNat_zero, Int.toNat_one, bne_self_eq_false, Nat.reduceMul, Nat.zero_mul, Nat.mul_one, Nat.one_mul, Nat.reduceSub, Int.cast_ofNat_Int, Int.toNat_natCast]
  split
  · rename_i h
    refine RetQ.int hR rfl ⟨rfl, trivial⟩ ?_
    simp at h
    rw [IntKind.wrap_u64, IntKind.wrap_u64]
    omega
  · rename_i h
    refine RetQ.int hR rfl ⟨rfl, trivial⟩ ?_
    simp at h
    rw [IntKind.wrap_u64]
    omega
end Go.Proofs.YtoioclmfjmgaaaaDoor.Fx