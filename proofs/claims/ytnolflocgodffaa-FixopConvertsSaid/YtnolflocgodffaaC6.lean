/- Contracts of the reference of layer 3 (Valid, Limits, Within, Number, Step), and of fixed.Step. -/
import Derived.Test.YtnolflocgodffaaC5
namespace Go.Proofs.Ytnolflocgodffaa
open Vg Tf
set_option linter.unusedSimpArgs false
set_option linter.unusedVariables false
set_option maxRecDepth 100000
theorem in9 (x : Int) : CallOk Try.prog 103 [I x] [] (Bo (decide (-9 ≤ x ∧ x ≤ 9))) [] := by
  refine CallOk.mk 100 Try.func103 rfl en103 (by simp [Try.ntmps103]) (by simp [ClV, V.g, Cv.g]) fun C hR => ?_
  simp (config := { maxSteps := 2000000 }) only [go_sem, Nat.reduceBEq, Nat.reduceAdd, Nat.reduceLT, Nat.reduceLeDiff, Nat.reduceEqDiff, reduceCtorEq, Int.reduceAdd, Int.reduceSub, Int.reduceNeg, Int.reduceLE, Int.reduceLT, Int.reduceToNat, Int.reduceBEq, Int.reduceBNe, Int.reduceEq, Int.reduceNe, Int.toNat_zero, Int.toNat_one, bne_self_eq_false, Nat.reduceMul, Nat.zero_mul, Nat.mul_one, Nat.one_mul, Nat.reduceSub, Int.cast_ofNat_Int, Int.toNat_natCast]
  refine RetQ.bool hR rfl ⟨rfl, trivial⟩ ?_
  rw [Bool.eq_iff_iff]
  simp only [Bool.cond_eq_ite, decide_eq_true_eq]
  grind
theorem runit (m kg s a k : Int) : CallOk Try.prog 79 [un m kg s a k] [] (Bo (uok m kg s a k)) [] := by
  refine CallOk.mk 100 Try.func79 rfl en79 (by simp [Try.ntmps79]) (by simp [ClV, V.g, Cv.g, un, ci]) fun C hR => ?_
  simp (config := { maxSteps := 2000000 }) only [go_sem, Nat.reduceBEq, Nat.reduceAdd, Nat.reduceLT, Nat.reduceLeDiff, Nat.reduceEqDiff, reduceCtorEq, Int.reduceAdd, Int.reduceSub, Int.reduceNeg, Int.reduceLE, Int.reduceLT, Int.reduceToNat, Int.reduceBEq, Int.reduceBNe, Int.reduceEq, Int.reduceNe, Int.toNat_zero, Int.toNat_one, bne_self_eq_false, Nat.reduceMul, Nat.zero_mul, Nat.mul_one, Nat.one_mul, Nat.reduceSub, Int.cast_ofNat_Int, Int.toNat_natCast]
  refine CallQ.pure 101 (in9 m) rfl ?_
  simp (config := { maxSteps := 2000000 }) only [go_sem, Nat.reduceBEq, Nat.reduceAdd, Nat.reduceLT, Nat.reduceLeDiff, Nat.reduceEqDiff, reduceCtorEq, Int.reduceAdd, Int.reduceSub, Int.reduceNeg, Int.reduceLE, Int.reduceLT, Int.reduceToNat, Int.reduceBEq, Int.reduceBNe, Int.reduceEq, Int.reduceNe, Int.toNat_zero, Int.toNat_one, bne_self_eq_false, Nat.reduceMul, Nat.zero_mul, Nat.mul_one, Nat.one_mul, Nat.reduceSub, Int.cast_ofNat_Int, Int.toNat_natCast]
  refine CallQ.guard 101 (fun _ => in9 kg) (fun h => by rw [h]; rfl) ?_
  simp (config := { maxSteps := 2000000 }) only [go_sem, Nat.reduceBEq, Nat.reduceAdd, Nat.reduceLT, Nat.reduceLeDiff, Nat.reduceEqDiff, reduceCtorEq, Int.reduceAdd, Int.reduceSub, Int.reduceNeg, Int.reduceLE, Int.reduceLT, Int.reduceToNat, Int.reduceBEq, Int.reduceBNe, Int.reduceEq, Int.reduceNe, Int.toNat_zero, Int.toNat_one, bne_self_eq_false, Nat.reduceMul, Nat.zero_mul, Nat.mul_one, Nat.one_mul, Nat.reduceSub, Int.cast_ofNat_Int, Int.toNat_natCast]
  refine CallQ.guard 101 (fun _ => in9 s) (fun h => by rw [h]; rfl) ?_
  simp (config := { maxSteps := 2000000 }) only [go_sem, Nat.reduceBEq, Nat.reduceAdd, Nat.reduceLT, Nat.reduceLeDiff, Nat.reduceEqDiff, reduceCtorEq, Int.reduceAdd, Int.reduceSub, Int.reduceNeg, Int.reduceLE, Int.reduceLT, Int.reduceToNat, Int.reduceBEq, Int.reduceBNe, Int.reduceEq, Int.reduceNe, Int.toNat_zero, Int.toNat_one, bne_self_eq_false, Nat.reduceMul, Nat.zero_mul, Nat.mul_one, Nat.one_mul, Nat.reduceSub, Int.cast_ofNat_Int, Int.toNat_natCast]
  refine CallQ.guard 101 (fun _ => in9 a) (fun h => by rw [h]; rfl) ?_
  simp (config := { maxSteps := 2000000 }) only [go_sem, Nat.reduceBEq, Nat.reduceAdd, Nat.reduceLT, Nat.reduceLeDiff, Nat.reduceEqDiff, reduceCtorEq, Int.reduceAdd, Int.reduceSub, Int.reduceNeg, Int.reduceLE, Int.reduceLT, Int.reduceToNat, Int.reduceBEq, Int.reduceBNe, Int.reduceEq, Int.reduceNe, Int.toNat_zero, Int.toNat_one, bne_self_eq_false, Nat.reduceMul, Nat.zero_mul, Nat.mul_one, Nat.one_mul, Nat.reduceSub, Int.cast_ofNat_Int, Int.toNat_natCast]
  refine CallQ.guard 101 (fun _ => in9 k) (fun h => by rw [h]; rfl) ?_
  simp (config := { maxSteps := 2000000 }) only [go_sem, Nat.reduceBEq, Nat.reduceAdd, Nat.reduceLT, Nat.reduceLeDiff, Nat.reduceEqDiff, reduceCtorEq, Int.reduceAdd, Int.reduceSub, Int.reduceNeg, Int.reduceLE, Int.reduceLT, Int.reduceToNat, Int.reduceBEq, Int.reduceBNe, Int.reduceEq, Int.reduceNe, Int.toNat_zero, Int.toNat_one, bne_self_eq_false, Nat.reduceMul, Nat.zero_mul, Nat.mul_one, Nat.one_mul, Nat.reduceSub, Int.cast_ofNat_Int, Int.toNat_natCast]
  refine RetQ.bool hR rfl ⟨rfl, trivial⟩ ?_
  unfold uok
  rw [Bool.eq_iff_iff]
  simp only [Bool.cond_eq_ite, decide_eq_true_eq]
  grind
theorem rvalid (t : Ft) : CallOk Try.prog 36 [fx t] [] (Bo (fok t)) [] := by
  refine CallOk.mk 100 Try.func36 rfl en36 (by simp [Try.ntmps36]) (by simp [ClV, V.g, Cv.g, fx, ci]) fun C hR => ?_
  simp (config := { maxSteps := 2000000 }) only [go_sem, Nat.reduceBEq, Nat.reduceAdd, Nat.reduceLT, Nat.reduceLeDiff, Nat.reduceEqDiff, reduceCtorEq, Int.reduceAdd, Int.reduceSub, Int.reduceNeg, Int.reduceLE, Int.reduceLT, Int.reduceToNat, Int.reduceBEq, Int.reduceBNe, Int.reduceEq, Int.reduceNe, Int.toNat_zero, Int.toNat_one, bne_self_eq_false, Nat.reduceMul, Nat.zero_mul, Nat.mul_one, Nat.one_mul, Nat.reduceSub, Int.cast_ofNat_Int, Int.toNat_natCast]
  by_cases hb : t.bits = 8 ∨ t.bits = 16 ∨ t.bits = 32
  · have e : (bif bif t.bits != 8 then t.bits != 16 else false then t.bits != 32 else false) = false := by
      rcases hb with h | h | h <;> rw [h] <;> rfl
    simp only [e]
    refine CallQ.guard 101 (fun _ => runit t.m t.kg t.s t.a t.k) (fun h => by rw [h]; rfl) ?_
    simp (config := { maxSteps := 2000000 }) only [go_sem, Nat.reduceBEq, Nat.reduceAdd, Nat.reduceLT, Nat.reduceLeDiff, Nat.reduceEqDiff, reduceCtorEq, Int.reduceAdd, Int.reduceSub, Int.reduceNeg, Int.reduceLE, Int.reduceLT, Int.reduceToNat, Int.reduceBEq, Int.reduceBNe, Int.reduceEq, Int.reduceNe, Int.toNat_zero, Int.toNat_one, bne_self_eq_false, Nat.reduceMul, Nat.zero_mul, Nat.mul_one, Nat.one_mul, Nat.reduceSub, Int.cast_ofNat_Int, Int.toNat_natCast]
    refine RetQ.bool hR rfl ⟨rfl, trivial⟩ ?_
    unfold fok
    rw [Bool.eq_iff_iff]
    simp only [Bool.cond_eq_ite, Bool.and_eq_true, decide_eq_true_eq, beq_iff_eq]
    generalize uok t.m t.kg t.s t.a t.k = u
    grind
  · have e : (bif bif t.bits != 8 then t.bits != 16 else false then t.bits != 32 else false) = true := by
      have e1 : (t.bits != 8) = true := by simp; omega
      have e2 : (t.bits != 16) = true := by simp; omega
      have e3 : (t.bits != 32) = true := by simp; omega
      rw [e1, e2, e3]; rfl
    simp only [e]
    refine RetQ.bool hR rfl ⟨rfl, trivial⟩ ?_
    unfold fok
    simp [hb]
theorem rlimits (t : Ft) (h : fok t = true) : CallOk Try.prog 47 [fx t] [] (.tup [Wi (flo t), Wi (fhi t)]) [] := by
  refine CallOk.mk 100 Try.func47 rfl en47 (by simp [Try.ntmps47]) (by simp [ClV, V.g, Cv.g, fx, ci]) fun C hR => ?_
  simp (config := { maxSteps := 2000000 }) only [go_sem, Nat.reduceBEq, Nat.reduceAdd, Nat.reduceLT, Nat.reduceLeDiff, Nat.reduceEqDiff, reduceCtorEq, Int.reduceAdd, Int.reduceSub, Int.reduceNeg, Int.reduceLE, Int.reduceLT, Int.reduceToNat, Int.reduceBEq, Int.reduceBNe, Int.reduceEq, Int.reduceNe, Int.toNat_zero, Int.toNat_one, bne_self_eq_false, Nat.reduceMul, Nat.zero_mul, Nat.mul_one, Nat.one_mul, Nat.reduceSub, Int.cast_ofNat_Int, Int.toNat_natCast]
  have hb := fok_bits h
  clear h
  obtain ⟨bits, signed, num, off, den, m, kg, s, a, k⟩ := t
  simp only at hb hR ⊢
  cases signed with
  | true =>
    refine Sm.dgo 101 11 mix (by decide +kernel) (by decide +kernel) ?_
    simp (config := { maxSteps := 2000000 }) only [go_sem, Nat.reduceBEq, Nat.reduceAdd, Nat.reduceLT, Nat.reduceLeDiff, Nat.reduceEqDiff, reduceCtorEq, Int.reduceAdd, Int.reduceSub, Int.reduceNeg, Int.reduceLE, Int.reduceLT, Int.reduceToNat, Int.reduceBEq, Int.reduceBNe, Int.reduceEq, Int.reduceNe, Int.toNat_zero, Int.toNat_one, bne_self_eq_false, Nat.reduceMul, Nat.zero_mul, Nat.mul_one, Nat.one_mul, Nat.reduceSub, Int.cast_ofNat_Int, Int.toNat_natCast]
    rcases hb with rfl | rfl | rfl
    · exact ⟨by decide, by decide, RetQ.int2 hR rfl ⟨rfl, rfl, trivial⟩ rfl rfl⟩
    · exact ⟨by decide, by decide, RetQ.int2 hR rfl ⟨rfl, rfl, trivial⟩ rfl rfl⟩
    · exact ⟨by decide, by decide, RetQ.int2 hR rfl ⟨rfl, rfl, trivial⟩ rfl rfl⟩
  | false =>
    refine Sm.dgo 101 5 mix (by decide +kernel) (by decide +kernel) ?_
    simp (config := { maxSteps := 2000000 }) only [go_sem, Nat.reduceBEq, Nat.reduceAdd, Nat.reduceLT, Nat.reduceLeDiff, Nat.reduceEqDiff, reduceCtorEq, Int.reduceAdd, Int.reduceSub, Int.reduceNeg, Int.reduceLE, Int.reduceLT, Int.reduceToNat, Int.reduceBEq, Int.reduceBNe, Int.reduceEq, Int.reduceNe, Int.toNat_zero, Int.toNat_one, bne_self_eq_false, Nat.reduceMul, Nat.zero_mul, Nat.mul_one, Nat.one_mul, Nat.reduceSub, Int.cast_ofNat_Int, Int.toNat_natCast]
    rcases hb with rfl | rfl | rfl
    · exact ⟨by decide, RetQ.int2 hR rfl ⟨rfl, rfl, trivial⟩ rfl rfl⟩
    · exact ⟨by decide, RetQ.int2 hR rfl ⟨rfl, rfl, trivial⟩ rfl rfl⟩
    · exact ⟨by decide, RetQ.int2 hR rfl ⟨rfl, rfl, trivial⟩ rfl rfl⟩
theorem rwithin (t : Ft) (raw : Int) (h : fok t = true) : CallOk Try.prog 37 [fx t, I raw] [] (Bo (fin t raw)) [] := by
  refine CallOk.mk 100 Try.func37 rfl en37 (by simp [Try.ntmps37]) (by simp [ClV, V.g, Cv.g, fx, ci]) fun C hR => ?_
  simp (config := { maxSteps := 2000000 }) only [go_sem, Nat.reduceBEq, Nat.reduceAdd, Nat.reduceLT, Nat.reduceLeDiff, Nat.reduceEqDiff, reduceCtorEq, Int.reduceAdd, Int.reduceSub, Int.reduceNeg, Int.reduceLE, Int.reduceLT, Int.reduceToNat, Int.reduceBEq, Int.reduceBNe, Int.reduceEq, Int.reduceNe, Int.toNat_zero, Int.toNat_one, bne_self_eq_false, Nat.reduceMul, Nat.zero_mul, Nat.mul_one, Nat.one_mul, Nat.reduceSub, Int.cast_ofNat_Int, Int.toNat_natCast]
  refine CallQ.pure 101 (rlimits t h) rfl ?_
  simp (config := { maxSteps := 2000000 }) only [go_sem, Nat.reduceBEq, Nat.reduceAdd, Nat.reduceLT, Nat.reduceLeDiff, Nat.reduceEqDiff, reduceCtorEq, Int.reduceAdd, Int.reduceSub, Int.reduceNeg, Int.reduceLE, Int.reduceLT, Int.reduceToNat, Int.reduceBEq, Int.reduceBNe, Int.reduceEq, Int.reduceNe, Int.toNat_zero, Int.toNat_one, bne_self_eq_false, Nat.reduceMul, Nat.zero_mul, Nat.mul_one, Nat.one_mul, Nat.reduceSub, Int.cast_ofNat_Int, Int.toNat_natCast]
  refine RetQ.bool hR rfl ⟨rfl, trivial⟩ ?_
  unfold fin
  cases decide (flo t ≤ raw) <;> rfl
theorem size_ (x : Int) (h1 : -9223372036854775808 ≤ x) (h2 : x ≤ 9223372036854775807) : CallOk Try.prog 107 [I x] [] (U x.natAbs) [] := by
  refine CallOk.mk 100 Try.func107 rfl en107 (by simp [Try.ntmps107]) (by simp [ClV, V.g, Cv.g]) fun C hR => ?_
  simp (config := { maxSteps := 2000000 }) only [go_sem, Nat.reduceBEq, Nat.reduceAdd, Nat.reduceLT, Nat.reduceLeDiff, Nat.reduceEqDiff, reduceCtorEq, Int.reduceAdd, Int.reduceSub, Int.reduceNeg, Int.reduceLE, Int.reduceLT, Int.reduceToNat, Int.reduceBEq, Int.reduceBNe, Int.reduceEq, Int.reduceNe, Int.toNat_zero, Int.toNat_one, bne_self_eq_false, Nat.reduceMul, Nat.zero_mul, Nat.mul_one, Nat.one_mul, Nat.reduceSub, Int.cast_ofNat_Int, Int.toNat_natCast]
  split
  · rename_i h
    refine RetQ.int hR rfl ⟨rfl, trivial⟩ ?_
    simp at h
    rw [IntKind.wrap_u64, IntKind.wrap_u64]
    omega
  · rename_i h
    refine RetQ.int hR rfl ⟨rfl, trivial⟩ ?_
    simp at h
    rw [IntKind.wrap_u64]
    omega
theorem rgcd (a b : Int) (ha1 : -9223372036854775808 ≤ a) (ha2 : a ≤ 9223372036854775807) (hb : 0 < b) (hb2 : b ≤ 9223372036854775807) : CallOk Try.prog 104 [I a, I b] [] (I (Nat.gcd a.natAbs b.natAbs)) [] := by
  refine CallOk.mk 100 Try.func104 rfl en104 (by simp [Try.ntmps104]) (by simp [ClV, V.g, Cv.g]) fun C hR => ?_
  simp (config := { maxSteps := 2000000 }) only [go_sem, Nat.reduceBEq, Nat.reduceAdd, Nat.reduceLT, Nat.reduceLeDiff, Nat.reduceEqDiff, reduceCtorEq, Int.reduceAdd, Int.reduceSub, Int.reduceNeg, Int.reduceLE, Int.reduceLT, Int.reduceToNat, Int.reduceBEq, Int.reduceBNe, Int.reduceEq, Int.reduceNe, Int.toNat_zero, Int.toNat_one, bne_self_eq_false, Nat.reduceMul, Nat.zero_mul, Nat.mul_one, Nat.one_mul, Nat.reduceSub, Int.cast_ofNat_Int, Int.toNat_natCast]
  refine CallQ.pure 100 (size_ a ha1 ha2) rfl ?_
  simp (config := { maxSteps := 2000000 }) only [go_sem, Nat.reduceBEq, Nat.reduceAdd, Nat.reduceLT, Nat.reduceLeDiff, Nat.reduceEqDiff, reduceCtorEq, Int.reduceAdd, Int.reduceSub, Int.reduceNeg, Int.reduceLE, Int.reduceLT, Int.reduceToNat, Int.reduceBEq, Int.reduceBNe, Int.reduceEq, Int.reduceNe, Int.toNat_zero, Int.toNat_one, bne_self_eq_false, Nat.reduceMul, Nat.zero_mul, Nat.mul_one, Nat.one_mul, Nat.reduceSub, Int.cast_ofNat_Int, Int.toNat_natCast]
  refine CallQ.pure 100 (size_ b (by omega) (by omega)) rfl ?_
  simp (config := { maxSteps := 2000000 }) only [go_sem, Nat.reduceBEq, Nat.reduceAdd, Nat.reduceLT, Nat.reduceLeDiff, Nat.reduceEqDiff, reduceCtorEq, Int.reduceAdd, Int.reduceSub, Int.reduceNeg, Int.reduceLE, Int.reduceLT, Int.reduceToNat, Int.reduceBEq, Int.reduceBNe, Int.reduceEq, Int.reduceNe, Int.toNat_zero, Int.toNat_one, bne_self_eq_false, Nat.reduceMul, Nat.zero_mul, Nat.mul_one, Nat.one_mul, Nat.reduceSub, Int.cast_ofNat_Int, Int.toNat_natCast]
  refine Sm.loopP hR (α := { p : Nat × Nat // Nat.gcd p.1 p.2 = Nat.gcd a.natAbs b.natAbs ∧ p.1 < 18446744073709551616 ∧ p.2 < 18446744073709551616 })
    (fun p => [(5, true, U p.val.1), (6, true, U p.val.2)]) (fun p => p.val.2) ⟨(a.natAbs, b.natAbs), rfl, by simp; omega, by simp; omega⟩ (fun p => by simp [ClV, V.g, Cv.g]) (by simp (config := { maxSteps := 2000000 }) only [go_sem, Nat.reduceBEq, Nat.reduceAdd, Nat.reduceLT, Nat.reduceLeDiff, Nat.reduceEqDiff, reduceCtorEq, Int.reduceAdd, Int.reduceSub, Int.reduceNeg, Int.reduceLE, Int.reduceLT, Int.reduceToNat, Int.reduceBEq, Int.reduceBNe, Int.reduceEq, Int.reduceNe, Int.toNat_zero, Int.toNat_one, bne_self_eq_false, Nat.reduceMul, Nat.zero_mul, Nat.mul_one, Nat.one_mul, Nat.reduceSub, Int.cast_ofNat_Int, Int.toNat_natCast]) ?_
  rintro ⟨⟨x, y⟩, hg, hx, hy⟩ J hb'
  simp only at hg hx hy hb' ⊢
  refine Sm.go 100 ?_
  simp (config := { maxSteps := 2000000 }) only [go_sem, Nat.reduceBEq, Nat.reduceAdd, Nat.reduceLT, Nat.reduceLeDiff, Nat.reduceEqDiff, reduceCtorEq, Int.reduceAdd, Int.reduceSub, Int.reduceNeg, Int.reduceLE, Int.reduceLT, Int.reduceToNat, Int.reduceBEq, Int.reduceBNe, Int.reduceEq, Int.reduceNe, Int.toNat_zero, Int.toNat_one, bne_self_eq_false, Nat.reduceMul, Nat.zero_mul, Nat.mul_one, Nat.one_mul, Nat.reduceSub, Int.cast_ofNat_Int, Int.toNat_natCast]
  have hgb : Nat.gcd a.natAbs b.natAbs ≤ b.natAbs := Nat.gcd_le_right _ (by omega)
  by_cases hy0 : 0 < y
  · have d1 : decide ((0 : Int) < y) = true := by simp; omega
    simp only [d1]
    refine Sm.dgo 100 5 mix (by decide +kernel) (by decide +kernel) ?_
    simp (config := { maxSteps := 2000000 }) only [go_sem, Nat.reduceBEq, Nat.reduceAdd, Nat.reduceLT, Nat.reduceLeDiff, Nat.reduceEqDiff, reduceCtorEq, Int.reduceAdd, Int.reduceSub, Int.reduceNeg, Int.reduceLE, Int.reduceLT, Int.reduceToNat, Int.reduceBEq, Int.reduceBNe, Int.reduceEq, Int.reduceNe, Int.toNat_zero, Int.toNat_one, bne_self_eq_false, Nat.reduceMul, Nat.zero_mul, Nat.mul_one, Nat.one_mul, Nat.reduceSub, Int.cast_ofNat_Int, Int.toNat_natCast]
    refine ⟨by omega, ?_⟩
    refine hb' _ _ ⟨⟨(y, x % y), ?_, hy, by have := Nat.mod_lt x hy0; simp only; omega⟩, Nat.mod_lt x hy0, ?_⟩
    · simp only; rw [← hg, Nat.gcd_comm x y, Nat.gcd_rec y x, Nat.gcd_comm]
    · simp (config := { maxSteps := 2000000 }) only [go_sem, Nat.reduceBEq, Nat.reduceAdd, Nat.reduceLT, Nat.reduceLeDiff, Nat.reduceEqDiff, reduceCtorEq, Int.reduceAdd, Int.reduceSub, Int.reduceNeg, Int.reduceLE, Int.reduceLT, Int.reduceToNat, Int.reduceBEq, Int.reduceBNe, Int.reduceEq, Int.reduceNe, Int.toNat_zero, Int.toNat_one, bne_self_eq_false, Nat.reduceMul, Nat.zero_mul, Nat.mul_one, Nat.one_mul, Nat.reduceSub, Int.cast_ofNat_Int, Int.toNat_natCast]
      have : ((x : Int).tmod y) = ((x % y : Nat) : Int) := by rw [Int.tmod_eq_emod_of_nonneg (by omega)]; omega
      simp [this]
  · have d1 : decide ((0 : Int) < y) = false := by simp; omega
    simp only [d1]
    obtain rfl : y = 0 := by omega
    rw [Nat.gcd_zero_right] at hg
    have d2 : decide ((9223372036854775808 : Int) ≤ x) = false := by simp; omega
    simp only [d2]
    refine RetQ.int hR rfl ⟨rfl, trivial⟩ ?_
    rw [w64 (by omega) (by omega), hg]
theorem lowest (n d : Int) (hn1 : -4611686018427387904 ≤ n) (hn2 : n ≤ 4611686018427387904) (hd : 0 < d) (hd2 : d ≤ 4611686018427387904) : CallOk Try.prog 80 [I n, I d] [] (ra (n / gcd2 n d) (d / gcd2 n d)) [] := by
  refine CallOk.mk 100 Try.func80 rfl en80 (by simp [Try.ntmps80]) (by simp [ClV, V.g, Cv.g]) fun C hR => ?_
  simp (config := { maxSteps := 2000000 }) only [go_sem, Nat.reduceBEq, Nat.reduceAdd, Nat.reduceLT, Nat.reduceLeDiff, Nat.reduceEqDiff, reduceCtorEq, Int.reduceAdd, Int.reduceSub, Int.reduceNeg, Int.reduceLE, Int.reduceLT, Int.reduceToNat, Int.reduceBEq, Int.reduceBNe, Int.reduceEq, Int.reduceNe, Int.toNat_zero, Int.toNat_one, bne_self_eq_false, Nat.reduceMul, Nat.zero_mul, Nat.mul_one, Nat.one_mul, Nat.reduceSub, Int.cast_ofNat_Int, Int.toNat_natCast]
  refine CallQ.pure 101 (rgcd n d (by omega) (by omega) hd (by omega)) rfl ?_
  simp (config := { maxSteps := 2000000 }) only [go_sem, Nat.reduceBEq, Nat.reduceAdd, Nat.reduceLT, Nat.reduceLeDiff, Nat.reduceEqDiff, reduceCtorEq, Int.reduceAdd, Int.reduceSub, Int.reduceNeg, Int.reduceLE, Int.reduceLT, Int.reduceToNat, Int.reduceBEq, Int.reduceBNe, Int.reduceEq, Int.reduceNe, Int.toNat_zero, Int.toNat_one, bne_self_eq_false, Nat.reduceMul, Nat.zero_mul, Nat.mul_one, Nat.one_mul, Nat.reduceSub, Int.cast_ofNat_Int, Int.toNat_natCast]
  refine Sm.dgo 101 7 mix (by decide +kernel) (by decide +kernel) ?_
  simp (config := { maxSteps := 2000000 }) only [go_sem, Nat.reduceBEq, Nat.reduceAdd, Nat.reduceLT, Nat.reduceLeDiff, Nat.reduceEqDiff, reduceCtorEq, Int.reduceAdd, Int.reduceSub, Int.reduceNeg, Int.reduceLE, Int.reduceLT, Int.reduceToNat, Int.reduceBEq, Int.reduceBNe, Int.reduceEq, Int.reduceNe, Int.toNat_zero, Int.toNat_one, bne_self_eq_false, Nat.reduceMul, Nat.zero_mul, Nat.mul_one, Nat.one_mul, Nat.reduceSub, Int.cast_ofNat_Int, Int.toNat_natCast]
  have hg := gcd2_pos n d hd
  have hdv := gcd2_dvd n d
  change ¬ gcd2 n d = 0 ∧ _
  refine ⟨by omega, by change ¬ gcd2 n d = 0; omega, ?_⟩
  have q1 := quo_bd n _ hg
  have q2 := quo_bd d _ hg
  refine RetQ.pure hR rfl ⟨⟨rfl, by simp [sz51], by simp [sz51]⟩, trivial⟩ ?_ (fun _ _ _ => rfl)
  change V.agg [.v (.int .i64 (IntKind.i64.wrap (n.tdiv (gcd2 n d)))), .v (.int .i64 (IntKind.i64.wrap (d.tdiv (gcd2 n d))))] = _
  rw [tdiv_exact hdv.1, tdiv_exact hdv.2, w64 (by omega) (by omega), w64 (by omega) (by omega)]
  rfl
theorem rnumber (t : Ft) (raw : Int) (h : fok t = true) (hw : fin t raw = true) : CallOk Try.prog 38 [fx t, I raw] [] (ra (fnu t raw / gcd2 (fnu t raw) t.den) (t.den / gcd2 (fnu t raw) t.den)) [] := by
  have hb := fnu_bd h hw
  have hf := fok_bd h
  refine CallOk.mk 100 Try.func38 rfl en38 (by simp [Try.ntmps38]) (by simp [ClV, V.g, Cv.g, fx, ci]) fun C hR => ?_
  simp (config := { maxSteps := 2000000 }) only [go_sem, Nat.reduceBEq, Nat.reduceAdd, Nat.reduceLT, Nat.reduceLeDiff, Nat.reduceEqDiff, reduceCtorEq, Int.reduceAdd, Int.reduceSub, Int.reduceNeg, Int.reduceLE, Int.reduceLT, Int.reduceToNat, Int.reduceBEq, Int.reduceBNe, Int.reduceEq, Int.reduceNe, Int.toNat_zero, Int.toNat_one, bne_self_eq_false, Nat.reduceMul, Nat.zero_mul, Nat.mul_one, Nat.one_mul, Nat.reduceSub, Int.cast_ofNat_Int, Int.toNat_natCast]
  have hnn := hb
  unfold fnu at hnn
  have e1 : IntKind.i64.wrap (raw * t.num) = raw * t.num := w64 (by omega) (by omega)
  have e2 : IntKind.i64.wrap (raw * t.num + t.off) = fnu t raw := w64 (by omega) (by omega)
  simp only [e1, e2]
  refine CallQ.pure 102 (lowest (fnu t raw) t.den (by omega) (by omega) (by omega) (by omega)) rfl ?_
  simp (config := { maxSteps := 2000000 }) only [go_sem, Nat.reduceBEq, Nat.reduceAdd, Nat.reduceLT, Nat.reduceLeDiff, Nat.reduceEqDiff, reduceCtorEq, Int.reduceAdd, Int.reduceSub, Int.reduceNeg, Int.reduceLE, Int.reduceLT, Int.reduceToNat, Int.reduceBEq, Int.reduceBNe, Int.reduceEq, Int.reduceNe, Int.toNat_zero, Int.toNat_one, bne_self_eq_false, Nat.reduceMul, Nat.zero_mul, Nat.mul_one, Nat.one_mul, Nat.reduceSub, Int.cast_ofNat_Int, Int.toNat_natCast]
  exact RetQ.pure hR rfl ⟨⟨rfl, by simp [sz51], by simp [sz51]⟩, trivial⟩ rfl (fun _ _ _ => rfl)
theorem rstep (t : Ft) (h : fok t = true) : CallOk Try.prog 48 [fx t] [] (ra (t.num / gcd2 t.num t.den) (t.den / gcd2 t.num t.den)) [] := by
  have hf := fok_bd h
  refine CallOk.mk 100 Try.func48 rfl en48 (by simp [Try.ntmps48]) (by simp [ClV, V.g, Cv.g, fx, ci]) fun C hR => ?_
  simp (config := { maxSteps := 2000000 }) only [go_sem, Nat.reduceBEq, Nat.reduceAdd, Nat.reduceLT, Nat.reduceLeDiff, Nat.reduceEqDiff, reduceCtorEq, Int.reduceAdd, Int.reduceSub, Int.reduceNeg, Int.reduceLE, Int.reduceLT, Int.reduceToNat, Int.reduceBEq, Int.reduceBNe, Int.reduceEq, Int.reduceNe, Int.toNat_zero, Int.toNat_one, bne_self_eq_false, Nat.reduceMul, Nat.zero_mul, Nat.mul_one, Nat.one_mul, Nat.reduceSub, Int.cast_ofNat_Int, Int.toNat_natCast]
  refine CallQ.pure 102 (lowest t.num t.den (by omega) (by omega) (by omega) (by omega)) rfl ?_
  simp (config := { maxSteps := 2000000 }) only [go_sem, Nat.reduceBEq, Nat.reduceAdd, Nat.reduceLT, Nat.reduceLeDiff, Nat.reduceEqDiff, reduceCtorEq, Int.reduceAdd, Int.reduceSub, Int.reduceNeg, Int.reduceLE, Int.reduceLT, Int.reduceToNat, Int.reduceBEq, Int.reduceBNe, Int.reduceEq, Int.reduceNe, Int.toNat_zero, Int.toNat_one, bne_self_eq_false, Nat.reduceMul, Nat.zero_mul, Nat.mul_one, Nat.one_mul, Nat.reduceSub, Int.cast_ofNat_Int, Int.toNat_natCast]
  exact RetQ.pure hR rfl ⟨⟨rfl, by simp [sz51], by simp [sz51]⟩, trivial⟩ rfl (fun _ _ _ => rfl)
theorem step_ (t : Ft) (h : fok t = true) : CallOk Try.prog 46 [fx t] [] (ra (t.num / gcd2 t.num t.den) (t.den / gcd2 t.num t.den)) [] := by
  have hf := fok_bd h
  refine CallOk.mk 100 Try.func46 rfl en46 (by simp [Try.ntmps46]) (by simp [ClV, V.g, Cv.g, fx, ci]) fun C hR => ?_
  simp (config := { maxSteps := 2000000 }) only [go_sem, Nat.reduceBEq, Nat.reduceAdd, Nat.reduceLT, Nat.reduceLeDiff, Nat.reduceEqDiff, reduceCtorEq, Int.reduceAdd, Int.reduceSub, Int.reduceNeg, Int.reduceLE, Int.reduceLT, Int.reduceToNat, Int.reduceBEq, Int.reduceBNe, Int.reduceEq, Int.reduceNe, Int.toNat_zero, Int.toNat_one, bne_self_eq_false, Nat.reduceMul, Nat.zero_mul, Nat.mul_one, Nat.one_mul, Nat.reduceSub, Int.cast_ofNat_Int, Int.toNat_natCast]
  refine CallQ.pure 102 (fvalid_ok t h) rfl ?_
  simp (config := { maxSteps := 2000000 }) only [go_sem, Nat.reduceBEq, Nat.reduceAdd, Nat.reduceLT, Nat.reduceLeDiff, Nat.reduceEqDiff, reduceCtorEq, Int.reduceAdd, Int.reduceSub, Int.reduceNeg, Int.reduceLE, Int.reduceLT, Int.reduceToNat, Int.reduceBEq, Int.reduceBNe, Int.reduceEq, Int.reduceNe, Int.toNat_zero, Int.toNat_one, bne_self_eq_false, Nat.reduceMul, Nat.zero_mul, Nat.mul_one, Nat.one_mul, Nat.reduceSub, Int.cast_ofNat_Int, Int.toNat_natCast]
  refine CallQ.pure 102 (reduced t.num t.den (by omega) (by omega) (by omega) (by omega)) rfl ?_
  simp (config := { maxSteps := 2000000 }) only [go_sem, Nat.reduceBEq, Nat.reduceAdd, Nat.reduceLT, Nat.reduceLeDiff, Nat.reduceEqDiff, reduceCtorEq, Int.reduceAdd, Int.reduceSub, Int.reduceNeg, Int.reduceLE, Int.reduceLT, Int.reduceToNat, Int.reduceBEq, Int.reduceBNe, Int.reduceEq, Int.reduceNe, Int.toNat_zero, Int.toNat_one, bne_self_eq_false, Nat.reduceMul, Nat.zero_mul, Nat.mul_one, Nat.one_mul, Nat.reduceSub, Int.cast_ofNat_Int, Int.toNat_natCast]
  exact RetQ.pure hR rfl ⟨⟨rfl, by simp [sz51], by simp [sz51]⟩, trivial⟩ rfl (fun _ _ _ => rfl)
theorem step_no (t : Ft) (h : fok t = false) : CallOk Try.prog 46 [fx t] [] (ra 0 0) [] := by
  refine CallOk.mk 100 Try.func46 rfl en46 (by simp [Try.ntmps46]) (by simp [ClV, V.g, Cv.g, fx, ci]) fun C hR => ?_
  simp (config := { maxSteps := 2000000 }) only [go_sem, Nat.reduceBEq, Nat.reduceAdd, Nat.reduceLT, Nat.reduceLeDiff, Nat.reduceEqDiff, reduceCtorEq, Int.reduceAdd, Int.reduceSub, Int.reduceNeg, Int.reduceLE, Int.reduceLT, Int.reduceToNat, Int.reduceBEq, Int.reduceBNe, Int.reduceEq, Int.reduceNe, Int.toNat_zero, Int.toNat_one, bne_self_eq_false, Nat.reduceMul, Nat.zero_mul, Nat.mul_one, Nat.one_mul, Nat.reduceSub, Int.cast_ofNat_Int, Int.toNat_natCast]
  refine CallQ.pure 102 (fvalid t) rfl ?_
  simp (config := { maxSteps := 2000000 }) only [go_sem, Nat.reduceBEq, Nat.reduceAdd, Nat.reduceLT, Nat.reduceLeDiff, Nat.reduceEqDiff, reduceCtorEq, Int.reduceAdd, Int.reduceSub, Int.reduceNeg, Int.reduceLE, Int.reduceLT, Int.reduceToNat, Int.reduceBEq, Int.reduceBNe, Int.reduceEq, Int.reduceNe, Int.toNat_zero, Int.toNat_one, bne_self_eq_false, Nat.reduceMul, Nat.zero_mul, Nat.mul_one, Nat.one_mul, Nat.reduceSub, Int.cast_ofNat_Int, Int.toNat_natCast]
  simp only [h, Bool.not_false]
  exact RetQ.pure hR rfl ⟨⟨rfl, by simp [sz51], by simp [sz51]⟩, trivial⟩ rfl (fun _ _ _ => rfl)
theorem law_numbers (t : Ft) (raw : Int) : CallOk Try.prog 9 [fx t, I raw] [] (Bo true) [] := by
  refine CallOk.mk 100 Try.func9 rfl en9 (by simp [Try.ntmps9]) (by simp [ClV, V.g, Cv.g, fx, ci]) fun C hR => ?_
  have hv := rvalid t
  simp (config := { maxSteps := 2000000 }) only [go_sem, Nat.reduceBEq, Nat.reduceAdd, Nat.reduceLT, Nat.reduceLeDiff, Nat.reduceEqDiff, reduceCtorEq, Int.reduceAdd, Int.reduceSub, Int.reduceNeg, Int.reduceLE, Int.reduceLT, Int.reduceToNat, Int.reduceBEq, Int.reduceBNe, Int.reduceEq, Int.reduceNe, Int.toNat_zero, Int.toNat_one, bne_self_eq_false, Nat.reduceMul, Nat.zero_mul, Nat.mul_one, Nat.one_mul, Nat.reduceSub, Int.cast_ofNat_Int, Int.toNat_natCast]
  refine CallQ.pure 101 awake rfl ?_
  simp (config := { maxSteps := 2000000 }) only [go_sem, Nat.reduceBEq, Nat.reduceAdd, Nat.reduceLT, Nat.reduceLeDiff, Nat.reduceEqDiff, reduceCtorEq, Int.reduceAdd, Int.reduceSub, Int.reduceNeg, Int.reduceLE, Int.reduceLT, Int.reduceToNat, Int.reduceBEq, Int.reduceBNe, Int.reduceEq, Int.reduceNe, Int.toNat_zero, Int.toNat_one, bne_self_eq_false, Nat.reduceMul, Nat.zero_mul, Nat.mul_one, Nat.one_mul, Nat.reduceSub, Int.cast_ofNat_Int, Int.toNat_natCast]
  cases h : fok t with
  | false =>
    rw [h] at hv
    refine CallQ.pure 101 (number_arg t raw h) rfl ?_
    simp (config := { maxSteps := 2000000 }) only [go_sem, Nat.reduceBEq, Nat.reduceAdd, Nat.reduceLT, Nat.reduceLeDiff, Nat.reduceEqDiff, reduceCtorEq, Int.reduceAdd, Int.reduceSub, Int.reduceNeg, Int.reduceLE, Int.reduceLT, Int.reduceToNat, Int.reduceBEq, Int.reduceBNe, Int.reduceEq, Int.reduceNe, Int.toNat_zero, Int.toNat_one, bne_self_eq_false, Nat.reduceMul, Nat.zero_mul, Nat.mul_one, Nat.one_mul, Nat.reduceSub, Int.cast_ofNat_Int, Int.toNat_natCast]
    refine CallQ.pure 102 hv rfl ?_
    simp (config := { maxSteps := 2000000 }) only [go_sem, Nat.reduceBEq, Nat.reduceAdd, Nat.reduceLT, Nat.reduceLeDiff, Nat.reduceEqDiff, reduceCtorEq, Int.reduceAdd, Int.reduceSub, Int.reduceNeg, Int.reduceLE, Int.reduceLT, Int.reduceToNat, Int.reduceBEq, Int.reduceBNe, Int.reduceEq, Int.reduceNe, Int.toNat_zero, Int.toNat_one, bne_self_eq_false, Nat.reduceMul, Nat.zero_mul, Nat.mul_one, Nat.one_mul, Nat.reduceSub, Int.cast_ofNat_Int, Int.toNat_natCast]
    exact RetQ.bool hR rfl ⟨rfl, trivial⟩ rfl
  | true =>
    rw [h] at hv
    have hi := rwithin t raw h
    cases hw : fin t raw with
    | false =>
      rw [hw] at hi
      refine CallQ.pure 101 (number_range t raw h hw) rfl ?_
      simp (config := { maxSteps := 2000000 }) only [go_sem, Nat.reduceBEq, Nat.reduceAdd, Nat.reduceLT, Nat.reduceLeDiff, Nat.reduceEqDiff, reduceCtorEq, Int.reduceAdd, Int.reduceSub, Int.reduceNeg, Int.reduceLE, Int.reduceLT, Int.reduceToNat, Int.reduceBEq, Int.reduceBNe, Int.reduceEq, Int.reduceNe, Int.toNat_zero, Int.toNat_one, bne_self_eq_false, Nat.reduceMul, Nat.zero_mul, Nat.mul_one, Nat.one_mul, Nat.reduceSub, Int.cast_ofNat_Int, Int.toNat_natCast]
      refine CallQ.pure 102 hv rfl ?_
      simp (config := { maxSteps := 2000000 }) only [go_sem, Nat.reduceBEq, Nat.reduceAdd, Nat.reduceLT, Nat.reduceLeDiff, Nat.reduceEqDiff, reduceCtorEq, Int.reduceAdd, Int.reduceSub, Int.reduceNeg, Int.reduceLE, Int.reduceLT, Int.reduceToNat, Int.reduceBEq, Int.reduceBNe, Int.reduceEq, Int.reduceNe, Int.toNat_zero, Int.toNat_one, bne_self_eq_false, Nat.reduceMul, Nat.zero_mul, Nat.mul_one, Nat.one_mul, Nat.reduceSub, Int.cast_ofNat_Int, Int.toNat_natCast]
      refine CallQ.pure 102 hi rfl ?_
      simp (config := { maxSteps := 2000000 }) only [go_sem, Nat.reduceBEq, Nat.reduceAdd, Nat.reduceLT, Nat.reduceLeDiff, Nat.reduceEqDiff, reduceCtorEq, Int.reduceAdd, Int.reduceSub, Int.reduceNeg, Int.reduceLE, Int.reduceLT, Int.reduceToNat, Int.reduceBEq, Int.reduceBNe, Int.reduceEq, Int.reduceNe, Int.toNat_zero, Int.toNat_one, bne_self_eq_false, Nat.reduceMul, Nat.zero_mul, Nat.mul_one, Nat.one_mul, Nat.reduceSub, Int.cast_ofNat_Int, Int.toNat_natCast]
      exact RetQ.bool hR rfl ⟨rfl, trivial⟩ rfl
    | true =>
      rw [hw] at hi
      refine CallQ.pure 101 (number_ok t raw h hw) rfl ?_
      simp (config := { maxSteps := 2000000 }) only [go_sem, Nat.reduceBEq, Nat.reduceAdd, Nat.reduceLT, Nat.reduceLeDiff, Nat.reduceEqDiff, reduceCtorEq, Int.reduceAdd, Int.reduceSub, Int.reduceNeg, Int.reduceLE, Int.reduceLT, Int.reduceToNat, Int.reduceBEq, Int.reduceBNe, Int.reduceEq, Int.reduceNe, Int.toNat_zero, Int.toNat_one, bne_self_eq_false, Nat.reduceMul, Nat.zero_mul, Nat.mul_one, Nat.one_mul, Nat.reduceSub, Int.cast_ofNat_Int, Int.toNat_natCast]
      refine CallQ.pure 102 hv rfl ?_
      simp (config := { maxSteps := 2000000 }) only [go_sem, Nat.reduceBEq, Nat.reduceAdd, Nat.reduceLT, Nat.reduceLeDiff, Nat.reduceEqDiff, reduceCtorEq, Int.reduceAdd, Int.reduceSub, Int.reduceNeg, Int.reduceLE, Int.reduceLT, Int.reduceToNat, Int.reduceBEq, Int.reduceBNe, Int.reduceEq, Int.reduceNe, Int.toNat_zero, Int.toNat_one, bne_self_eq_false, Nat.reduceMul, Nat.zero_mul, Nat.mul_one, Nat.one_mul, Nat.reduceSub, Int.cast_ofNat_Int, Int.toNat_natCast]
      refine CallQ.pure 102 hi rfl ?_
      simp (config := { maxSteps := 2000000 }) only [go_sem, Nat.reduceBEq, Nat.reduceAdd, Nat.reduceLT, Nat.reduceLeDiff, Nat.reduceEqDiff, reduceCtorEq, Int.reduceAdd, Int.reduceSub, Int.reduceNeg, Int.reduceLE, Int.reduceLT, Int.reduceToNat, Int.reduceBEq, Int.reduceBNe, Int.reduceEq, Int.reduceNe, Int.toNat_zero, Int.toNat_one, bne_self_eq_false, Nat.reduceMul, Nat.zero_mul, Nat.mul_one, Nat.one_mul, Nat.reduceSub, Int.cast_ofNat_Int, Int.toNat_natCast]
      refine Sm.dgo 102 9 mix (by decide +kernel) (by decide +kernel) ?_
      simp (config := { maxSteps := 2000000 }) only [go_sem, Nat.reduceBEq, Nat.reduceAdd, Nat.reduceLT, Nat.reduceLeDiff, Nat.reduceEqDiff, reduceCtorEq, Int.reduceAdd, Int.reduceSub, Int.reduceNeg, Int.reduceLE, Int.reduceLT, Int.reduceToNat, Int.reduceBEq, Int.reduceBNe, Int.reduceEq, Int.reduceNe, Int.toNat_zero, Int.toNat_one, bne_self_eq_false, Nat.reduceMul, Nat.zero_mul, Nat.mul_one, Nat.one_mul, Nat.reduceSub, Int.cast_ofNat_Int, Int.toNat_natCast]
      refine DCallQ.pure 102 (rnumber t raw h hw) rfl ?_
      simp (config := { maxSteps := 2000000 }) only [go_sem, Nat.reduceBEq, Nat.reduceAdd, Nat.reduceLT, Nat.reduceLeDiff, Nat.reduceEqDiff, reduceCtorEq, Int.reduceAdd, Int.reduceSub, Int.reduceNeg, Int.reduceLE, Int.reduceLT, Int.reduceToNat, Int.reduceBEq, Int.reduceBNe, Int.reduceEq, Int.reduceNe, Int.toNat_zero, Int.toNat_one, bne_self_eq_false, Nat.reduceMul, Nat.zero_mul, Nat.mul_one, Nat.one_mul, Nat.reduceSub, Int.cast_ofNat_Int, Int.toNat_natCast]
      exact RetQ.bool hR rfl ⟨rfl, trivial⟩ rfl
theorem law_types (t : Ft) : CallOk Try.prog 11 [fx t] [] (Bo true) [] := by
  refine CallOk.mk 100 Try.func11 rfl en11 (by simp [Try.ntmps11]) (by simp [ClV, V.g, Cv.g, fx, ci]) fun C hR => ?_
  have hv := rvalid t
  have hf := fvalid t
  have hl := lims t
  simp (config := { maxSteps := 2000000 }) only [go_sem, Nat.reduceBEq, Nat.reduceAdd, Nat.reduceLT, Nat.reduceLeDiff, Nat.reduceEqDiff, reduceCtorEq, Int.reduceAdd, Int.reduceSub, Int.reduceNeg, Int.reduceLE, Int.reduceLT, Int.reduceToNat, Int.reduceBEq, Int.reduceBNe, Int.reduceEq, Int.reduceNe, Int.toNat_zero, Int.toNat_one, bne_self_eq_false, Nat.reduceMul, Nat.zero_mul, Nat.mul_one, Nat.one_mul, Nat.reduceSub, Int.cast_ofNat_Int, Int.toNat_natCast]
  refine CallQ.pure 101 awake rfl ?_
  simp (config := { maxSteps := 2000000 }) only [go_sem, Nat.reduceBEq, Nat.reduceAdd, Nat.reduceLT, Nat.reduceLeDiff, Nat.reduceEqDiff, reduceCtorEq, Int.reduceAdd, Int.reduceSub, Int.reduceNeg, Int.reduceLE, Int.reduceLT, Int.reduceToNat, Int.reduceBEq, Int.reduceBNe, Int.reduceEq, Int.reduceNe, Int.toNat_zero, Int.toNat_one, bne_self_eq_false, Nat.reduceMul, Nat.zero_mul, Nat.mul_one, Nat.one_mul, Nat.reduceSub, Int.cast_ofNat_Int, Int.toNat_natCast]
  cases h : fok t with
  | false =>
    rw [h] at hv hf hl
    simp only [cond_false] at hl
    refine CallQ.pure 101 hl rfl ?_
    simp (config := { maxSteps := 2000000 }) only [go_sem, Nat.reduceBEq, Nat.reduceAdd, Nat.reduceLT, Nat.reduceLeDiff, Nat.reduceEqDiff, reduceCtorEq, Int.reduceAdd, Int.reduceSub, Int.reduceNeg, Int.reduceLE, Int.reduceLT, Int.reduceToNat, Int.reduceBEq, Int.reduceBNe, Int.reduceEq, Int.reduceNe, Int.toNat_zero, Int.toNat_one, bne_self_eq_false, Nat.reduceMul, Nat.zero_mul, Nat.mul_one, Nat.one_mul, Nat.reduceSub, Int.cast_ofNat_Int, Int.toNat_natCast]
    refine CallQ.pure 101 hv rfl ?_
    simp (config := { maxSteps := 2000000 }) only [go_sem, Nat.reduceBEq, Nat.reduceAdd, Nat.reduceLT, Nat.reduceLeDiff, Nat.reduceEqDiff, reduceCtorEq, Int.reduceAdd, Int.reduceSub, Int.reduceNeg, Int.reduceLE, Int.reduceLT, Int.reduceToNat, Int.reduceBEq, Int.reduceBNe, Int.reduceEq, Int.reduceNe, Int.toNat_zero, Int.toNat_one, bne_self_eq_false, Nat.reduceMul, Nat.zero_mul, Nat.mul_one, Nat.one_mul, Nat.reduceSub, Int.cast_ofNat_Int, Int.toNat_natCast]
    refine CallQ.pure 101 hf rfl ?_
    simp (config := { maxSteps := 2000000 }) only [go_sem, Nat.reduceBEq, Nat.reduceAdd, Nat.reduceLT, Nat.reduceLeDiff, Nat.reduceEqDiff, reduceCtorEq, Int.reduceAdd, Int.reduceSub, Int.reduceNeg, Int.reduceLE, Int.reduceLT, Int.reduceToNat, Int.reduceBEq, Int.reduceBNe, Int.reduceEq, Int.reduceNe, Int.toNat_zero, Int.toNat_one, bne_self_eq_false, Nat.reduceMul, Nat.zero_mul, Nat.mul_one, Nat.one_mul, Nat.reduceSub, Int.cast_ofNat_Int, Int.toNat_natCast]
    refine CallQ.pure 101 (step_no t h) rfl ?_
    simp (config := { maxSteps := 2000000 }) only [go_sem, Nat.reduceBEq, Nat.reduceAdd, Nat.reduceLT, Nat.reduceLeDiff, Nat.reduceEqDiff, reduceCtorEq, Int.reduceAdd, Int.reduceSub, Int.reduceNeg, Int.reduceLE, Int.reduceLT, Int.reduceToNat, Int.reduceBEq, Int.reduceBNe, Int.reduceEq, Int.reduceNe, Int.toNat_zero, Int.toNat_one, bne_self_eq_false, Nat.reduceMul, Nat.zero_mul, Nat.mul_one, Nat.one_mul, Nat.reduceSub, Int.cast_ofNat_Int, Int.toNat_natCast]
    exact RetQ.bool hR rfl ⟨rfl, trivial⟩ rfl
  | true =>
    rw [h] at hv hf hl
    simp only [cond_true] at hl
    refine CallQ.pure 101 hl rfl ?_
    simp (config := { maxSteps := 2000000 }) only [go_sem, Nat.reduceBEq, Nat.reduceAdd, Nat.reduceLT, Nat.reduceLeDiff, Nat.reduceEqDiff, reduceCtorEq, Int.reduceAdd, Int.reduceSub, Int.reduceNeg, Int.reduceLE, Int.reduceLT, Int.reduceToNat, Int.reduceBEq, Int.reduceBNe, Int.reduceEq, Int.reduceNe, Int.toNat_zero, Int.toNat_one, bne_self_eq_false, Nat.reduceMul, Nat.zero_mul, Nat.mul_one, Nat.one_mul, Nat.reduceSub, Int.cast_ofNat_Int, Int.toNat_natCast]
    refine CallQ.pure 101 hv rfl ?_
    simp (config := { maxSteps := 2000000 }) only [go_sem, Nat.reduceBEq, Nat.reduceAdd, Nat.reduceLT, Nat.reduceLeDiff, Nat.reduceEqDiff, reduceCtorEq, Int.reduceAdd, Int.reduceSub, Int.reduceNeg, Int.reduceLE, Int.reduceLT, Int.reduceToNat, Int.reduceBEq, Int.reduceBNe, Int.reduceEq, Int.reduceNe, Int.toNat_zero, Int.toNat_one, bne_self_eq_false, Nat.reduceMul, Nat.zero_mul, Nat.mul_one, Nat.one_mul, Nat.reduceSub, Int.cast_ofNat_Int, Int.toNat_natCast]
    refine CallQ.pure 101 (rlimits t h) rfl ?_
    simp (config := { maxSteps := 2000000 }) only [go_sem, Nat.reduceBEq, Nat.reduceAdd, Nat.reduceLT, Nat.reduceLeDiff, Nat.reduceEqDiff, reduceCtorEq, Int.reduceAdd, Int.reduceSub, Int.reduceNeg, Int.reduceLE, Int.reduceLT, Int.reduceToNat, Int.reduceBEq, Int.reduceBNe, Int.reduceEq, Int.reduceNe, Int.toNat_zero, Int.toNat_one, bne_self_eq_false, Nat.reduceMul, Nat.zero_mul, Nat.mul_one, Nat.one_mul, Nat.reduceSub, Int.cast_ofNat_Int, Int.toNat_natCast]
    refine Sm.dgo 101 19 mix (by decide +kernel) (by decide +kernel) ?_
    simp (config := { maxSteps := 2000000 }) only [go_sem, Nat.reduceBEq, Nat.reduceAdd, Nat.reduceLT, Nat.reduceLeDiff, Nat.reduceEqDiff, reduceCtorEq, Int.reduceAdd, Int.reduceSub, Int.reduceNeg, Int.reduceLE, Int.reduceLT, Int.reduceToNat, Int.reduceBEq, Int.reduceBNe, Int.reduceEq, Int.reduceNe, Int.toNat_zero, Int.toNat_one, bne_self_eq_false, Nat.reduceMul, Nat.zero_mul, Nat.mul_one, Nat.one_mul, Nat.reduceSub, Int.cast_ofNat_Int, Int.toNat_natCast]
    refine DCallQ.pure 101 hf rfl ?_
    simp (config := { maxSteps := 2000000 }) only [go_sem, Nat.reduceBEq, Nat.reduceAdd, Nat.reduceLT, Nat.reduceLeDiff, Nat.reduceEqDiff, reduceCtorEq, Int.reduceAdd, Int.reduceSub, Int.reduceNeg, Int.reduceLE, Int.reduceLT, Int.reduceToNat, Int.reduceBEq, Int.reduceBNe, Int.reduceEq, Int.reduceNe, Int.toNat_zero, Int.toNat_one, bne_self_eq_false, Nat.reduceMul, Nat.zero_mul, Nat.mul_one, Nat.one_mul, Nat.reduceSub, Int.cast_ofNat_Int, Int.toNat_natCast]
    refine DCallQ.pure 101 (step_ t h) rfl ?_
    simp (config := { maxSteps := 2000000 }) only [go_sem, Nat.reduceBEq, Nat.reduceAdd, Nat.reduceLT, Nat.reduceLeDiff, Nat.reduceEqDiff, reduceCtorEq, Int.reduceAdd, Int.reduceSub, Int.reduceNeg, Int.reduceLE, Int.reduceLT, Int.reduceToNat, Int.reduceBEq, Int.reduceBNe, Int.reduceEq, Int.reduceNe, Int.toNat_zero, Int.toNat_one, bne_self_eq_false, Nat.reduceMul, Nat.zero_mul, Nat.mul_one, Nat.one_mul, Nat.reduceSub, Int.cast_ofNat_Int, Int.toNat_natCast]
    refine DCallQ.pure 101 (rstep t h) rfl ?_
    simp (config := { maxSteps := 2000000 }) only [go_sem, Nat.reduceBEq, Nat.reduceAdd, Nat.reduceLT, Nat.reduceLeDiff, Nat.reduceEqDiff, reduceCtorEq, Int.reduceAdd, Int.reduceSub, Int.reduceNeg, Int.reduceLE, Int.reduceLT, Int.reduceToNat, Int.reduceBEq, Int.reduceBNe, Int.reduceEq, Int.reduceNe, Int.toNat_zero, Int.toNat_one, bne_self_eq_false, Nat.reduceMul, Nat.zero_mul, Nat.mul_one, Nat.one_mul, Nat.reduceSub, Int.cast_ofNat_Int, Int.toNat_natCast]
    exact RetQ.bool hR rfl ⟨rfl, trivial⟩ rfl
end Go.Proofs.Ytnolflocgodffaa
