/- Contracts of the reference of layer 3 (Valid, Limits, Within, Number, Step), and of fixed.Step. -/
import Derived.Test.YtcdclmelnnbdnaaFC2
namespace Go.Proofs.Ytcdclmelnnbdnaa.Fx
open Vg Tf
set_option linter.unusedSimpArgs false
set_option linter.unusedVariables false
set_option maxRecDepth 100000
theorem size_ (x : Int) (h1 : -9223372036854775808 ≤ x) (h2 : x ≤ 9223372036854775807) : CallOk Try.prog 92 [I x] [] (U x.natAbs) [] := by
  refine CallOk.mk 100 Try.func92 rfl en92 (by simp [Try.ntmps92]) (by simp [ClV, V.g, Cv.g]) fun C hR => ?_
  simp (config := { maxSteps := 2000000 }) only [go_sem, Nat.reduceBEq, Nat.reduceAdd, Nat.reduceLT, Nat.reduceLeDiff, Nat.reduceEqDiff, reduceCtorEq, Int.reduceAdd, Int.reduceSub, Int.reduceNeg, Int.reduceLE, Int.reduceLT, Int.reduceToNat, Int.reduceBEq, Int.reduceBNe, Int.reduceEq, Int.reduceNe, Int.toNat_zero, Int.toNat_one, bne_self_eq_false, Nat.reduceMul, Nat.zero_mul, Nat.mul_one, Nat.one_mul, Nat.reduceSub, Int.cast_ofNat_Int, Int.toNat_natCast]
  split
  · rename_i h
    refine RetQ.int hR rfl ⟨rfl, trivial⟩ ?_
    simp at h
    rw [IntKind.wrap_u64, IntKind.wrap_u64]
    omega
  · rename_i h
    refine RetQ.int hR rfl ⟨rfl, trivial⟩ ?_
    simp at h
    rw [IntKind.wrap_u64]
    omega
theorem rgcd (a b : Int) (ha1 : -9223372036854775808 ≤ a) (ha2 : a ≤ 9223372036854775807) (hb : 0 < b) (hb2 : b ≤ 9223372036854775807) : CallOk Try.prog 91 [I a, I b] [] (I (Nat.gcd a.natAbs b.natAbs)) [] := by
  refine CallOk.mk 100 Try.func91 rfl en91 (by simp [Try.ntmps91]) (by simp [ClV, V.g, Cv.g]) fun C hR => ?_
  simp (config := { maxSteps := 2000000 }) only [go_sem, Nat.reduceBEq, Nat.reduceAdd, Nat.reduceLT, Nat.reduceLeDiff, Nat.reduceEqDiff, reduceCtorEq, Int.reduceAdd, Int.reduceSub, Int.reduceNeg, Int.reduceLE, Int.reduceLT, Int.reduceToNat, Int.reduceBEq, Int.reduceBNe, Int.reduceEq, Int.reduceNe, Int.toNat_zero, Int.toNat_one, bne_self_eq_false, Nat.reduceMul, Nat.zero_mul, Nat.mul_one, Nat.one_mul, Nat.reduceSub, Int.cast_ofNat_Int, Int.toNat_natCast]
  refine CallQ.pure 100 (size_ a ha1 ha2) rfl ?_
  simp (config := { maxSteps := 2000000 }) only [go_sem, Nat.reduceBEq, Nat.reduceAdd, Nat.reduceLT, Nat.reduceLeDiff, Nat.reduceEqDiff, reduceCtorEq, Int.reduceAdd, Int.reduceSub, Int.reduceNeg, Int.reduceLE, Int.reduceLT, Int.reduceToNat, Int.reduceBEq, Int.reduceBNe, Int.reduceEq, Int.reduceNe, Int.toNat_zero, Int.toNat_one, bne_self_eq_false, Nat.reduceMul, Nat.zero_mul, Nat.mul_one, Nat.one_mul, Nat.reduceSub, Int.cast_ofNat_Int, Int.toNat_natCast]
  refine CallQ.pure 100 (size_ b (by omega) (by omega)) rfl ?_
  simp (config := { maxSteps := 2000000 }) only [go_sem, Nat.reduceBEq, Nat.reduceAdd, Nat.reduceLT, Nat.reduceLeDiff, Nat.reduceEqDiff, reduceCtorEq, Int.reduceAdd, Int.reduceSub, Int.reduceNeg, Int.reduceLE, Int.reduceLT, Int.reduceToNat, Int.reduceBEq, Int.reduceBNe, Int.reduceEq, Int.reduceNe, Int.toNat_zero, Int.toNat_one, bne_self_eq_false, Nat.reduceMul, Nat.zero_mul, Nat.mul_one, Nat.one_mul, Nat.reduceSub, Int.cast_ofNat_Int, Int.toNat_natCast]
  refine Sm.loopP hR (α := { p : Nat × Nat // Nat.gcd p.1 p.2 = Nat.gcd a.natAbs b.natAbs ∧ p.1 < 18446744073709551616 ∧ p.2 < 18446744073709551616 })
    (fun p => [(5, true, U p.val.1), (6, true, U p.val.2)]) (fun p => p.val.2) ⟨(a.natAbs, b.natAbs), rfl, by simp; omega, by simp; omega⟩ (fun p => by simp [ClV, V.g, Cv.g]) (by simp (config := { maxSteps := 2000000 }) only [go_sem, Nat.reduceBEq, Nat.reduceAdd, Nat.reduceLT, Nat.reduceLeDiff, Nat.reduceEqDiff, reduceCtorEq, Int.reduceAdd, Int.reduceSub, Int.reduceNeg, Int.reduceLE, Int.reduceLT, Int.reduceToNat, Int.reduceBEq, Int.reduceBNe, Int.reduceEq, Int.reduceNe, Int.toNat_zero, Int.toNat_one, bne_self_eq_false, Nat.reduceMul, Nat.zero_mul, Nat.mul_one, Nat.one_mul, Nat.reduceSub, Int.cast_ofNat_Int, Int.toNat_natCast]) ?_
  rintro ⟨⟨x, y⟩, hg, hx, hy⟩ J hb'
  simp only at hg hx hy hb' ⊢
  refine Sm.go 100 ?_
  simp (config := { maxSteps := 2000000 }) only [go_sem, Nat.reduceBEq, Nat.reduceAdd, Nat.reduceLT, Nat.reduceLeDiff, Nat.reduceEqDiff, reduceCtorEq, Int.reduceAdd, Int.reduceSub, Int.reduceNeg, Int.reduceLE, Int.reduceLT, Int.reduceToNat, Int.reduceBEq, Int.reduceBNe, Int.reduceEq, Int.reduceNe, Int.toNat_zero, Int.toNat_one, bne_self_eq_false, Nat.reduceMul, Nat.zero_mul, Nat.mul_one, Nat.one_mul, Nat.reduceSub, Int.cast_ofNat_Int, Int.toNat_natCast]
  have hgb : Nat.gcd a.natAbs b.natAbs ≤ b.natAbs := Nat.gcd_le_right _ (by omega)
  by_cases hy0 : 0 < y
  · have d1 : decide ((0 : Int) < y) = true := by simp; omega
    simp only [d1]
    refine Sm.dgo 100 5 mix (by decide +kernel) (by decide +kernel) ?_
    simp (config := { maxSteps := 2000000 }) only [go_sem, Nat.reduceBEq, Nat.reduceAdd, Nat.reduceLT, Nat.reduceLeDiff, Nat.reduceEqDiff, reduceCtorEq, Int.reduceAdd, Int.reduceSub, Int.reduceNeg, Int.reduceLE, Int.reduceLT, Int.reduceToNat, Int.reduceBEq, Int.reduceBNe, Int.reduceEq, Int.reduceNe, Int.toNat_zero, Int.toNat_one, bne_self_eq_false, Nat.reduceMul, Nat.zero_mul, Nat.mul_one, Nat.one_mul, Nat.reduceSub, Int.cast_ofNat_Int, Int.toNat_natCast]
    refine ⟨by omega, ?_⟩
    refine hb' _ _ ⟨⟨(y, x % y), ?_, hy, by have := Nat.mod_lt x hy0; simp only; omega⟩, Nat.mod_lt x hy0, ?_⟩
    · simp only; rw [← hg, Nat.gcd_comm x y, Nat.gcd_rec y x, Nat.gcd_comm]
    · simp (config := { maxSteps := 2000000 }) only [go_sem, Nat.reduceBEq, Nat.reduceAdd, Nat.reduceLT, Nat.reduceLeDiff, Nat.reduceEqDiff, reduceCtorEq, Int.reduceAdd, Int.reduceSub, Int.reduceNeg, Int.reduceLE, Int.reduceLT, Int.reduceToNat, Int.reduceBEq, Int.reduceBNe, Int.reduceEq, Int.reduceNe, Int.toNat_zero, Int.toNat_one, bne_self_eq_false, Nat.reduceMul, Nat.zero_mul, Nat.mul_one, Nat.one_mul, Nat.reduceSub, Int.cast_ofNat_Int, Int.toNat_natCast]
      have : ((x : Int).tmod y) = ((x % y : Nat) : Int) := by rw [Int.tmod_eq_emod_of_nonneg (by omega)]; omega
      simp [this]
  · have d1 : decide ((0 : Int) < y) = false := by simp; omega
    simp only [d1]
    obtain rfl : y = 0 := by omega
    rw [Nat.gcd_zero_right] at hg
    have d2 : decide ((9223372036854775808 : Int) ≤ x) = false := by simp; omega
    simp only [d2]
    refine RetQ.int hR rfl ⟨rfl, trivial⟩ ?_
    rw [w64 (by omega) (by omega), hg]
theorem lowest (n d : Int) (hn1 : -4611686018427387904 ≤ n) (hn2 : n ≤ 4611686018427387904) (hd : 0 < d) (hd2 : d ≤ 4611686018427387904) : CallOk Try.prog 75 [I n, I d] [] (ra (n / gcd2 n d) (d / gcd2 n d)) [] := by
  refine CallOk.mk 100 Try.func75 rfl en75 (by simp [Try.ntmps75]) (by simp [ClV, V.g, Cv.g]) fun C hR => ?_
  simp (config := { maxSteps := 2000000 }) only [go_sem, Nat.reduceBEq, Nat.reduceAdd, Nat.reduceLT, Nat.reduceLeDiff, Nat.reduceEqDiff, reduceCtorEq, Int.reduceAdd, Int.reduceSub, Int.reduceNeg, Int.reduceLE, Int.reduceLT, Int.reduceToNat, Int.reduceBEq, Int.reduceBNe, Int.reduceEq, Int.reduceNe, Int.toNat_zero, Int.toNat_one, bne_self_eq_false, Nat.reduceMul, Nat.zero_mul, Nat.mul_one, Nat.one_mul, Nat.reduceSub, Int.cast_ofNat_Int, Int.toNat_natCast]
  refine CallQ.pure 101 (rgcd n d (by omega) (by omega) hd (by omega)) rfl ?_
  simp (config := { maxSteps := 2000000 }) only [go_sem, Nat.reduceBEq, Nat.reduceAdd, Nat.reduceLT, Nat.reduceLeDiff, Nat.reduceEqDiff, reduceCtorEq, Int.reduceAdd, Int.reduceSub, Int.reduceNeg, Int.reduceLE, Int.reduceLT, Int.reduceToNat, Int.reduceBEq, Int.reduceBNe, Int.reduceEq, Int.reduceNe, Int.toNat_zero, Int.toNat_one, bne_self_eq_false, Nat.reduceMul, Nat.zero_mul, Nat.mul_one, Nat.one_mul, Nat.reduceSub, Int.cast_ofNat_Int, Int.toNat_natCast]
  refine Sm.dgo 101 7 mix (by decide +kernel) (by decide +kernel) ?_
  simp (config := { maxSteps := 2000000 }) only [go_sem, Nat.reduceBEq, Nat.reduceAdd, Nat.reduceLT, Nat.reduceLeDiff, Nat.reduceEqDiff, reduceCtorEq, Int.reduceAdd, Int.reduceSub, Int.reduceNeg, Int.reduceLE, Int.reduceLT, Int.reduceToNat, Int.reduceBEq, Int.reduceBNe, Int.reduceEq, Int.reduceNe, Int.toNat_zero, Int.toNat_one, bne_self_eq_false, Nat.reduceMul, Nat.zero_mul, Nat.mul_one, Nat.one_mul, Nat.reduceSub, Int.cast_ofNat_Int, Int.toNat_natCast]
  have hg := gcd2_pos n d hd
  have hdv := gcd2_dvd n d
  change ¬ gcd2 n d = 0 ∧ _
  refine ⟨by omega, by change ¬ gcd2 n d = 0; omega, ?_⟩
  have q1 := quo_bd n _ hg
  have q2 := quo_bd d _ hg
  refine RetQ.pure hR rfl ⟨⟨rfl, by simp [sz64], by simp [sz64]⟩, trivial⟩ ?_ (fun _ _ _ => rfl)
  change V.agg [.v (.int .i64 (IntKind.i64.wrap (n.tdiv (gcd2 n d)))), .v (.int .i64 (IntKind.i64.wrap (d.tdiv (gcd2 n d))))] = _
  rw [tdiv_exact hdv.1, tdiv_exact hdv.2, w64 (by omega) (by omega), w64 (by omega) (by omega)]
  rfl
theorem rnumber (t : Ft) (raw : Int) (h : fok t = true) (hw : fin t raw = true) : CallOk Try.prog 59 [fx t, I raw] [] (ra (fnu t raw / gcd2 (fnu t raw) t.den) (t.den / gcd2 (fnu t raw) t.den)) [] := by
  have hb := fnu_bd h hw
  have hf := fok_bd h
  refine CallOk.mk 100 Try.func59 rfl en59 (by simp [Try.ntmps59]) (by simp [ClV, V.g, Cv.g, fx, ci]) fun C hR => ?_
  simp (config := { maxSteps := 2000000 }) only [go_sem, Nat.reduceBEq, Nat.reduceAdd, Nat.reduceLT, Nat.reduceLeDiff, Nat.reduceEqDiff, reduceCtorEq, Int.reduceAdd, Int.reduceSub, Int.reduceNeg, Int.reduceLE, Int.reduceLT, Int.reduceToNat, Int.reduceBEq, Int.reduceBNe, Int.reduceEq, Int.reduceNe, Int.toNat_zero, Int.toNat_one, bne_self_eq_false, Nat.reduceMul, Nat.zero_mul, Nat.mul_one, Nat.one_mul, Nat.reduceSub, Int.cast_ofNat_Int, Int.toNat_natCast]
  have hnn := hb
  unfold fnu at hnn
  have e1 : IntKind.i64.wrap (raw * t.num) = raw * t.num := w64 (by omega) (by omega)
  have e2 : IntKind.i64.wrap (raw * t.num + t.off) = fnu t raw := w64 (by omega) (by omega)
  simp only [e1, e2]
  refine CallQ.pure 102 (lowest (fnu t raw) t.den (by omega) (by omega) (by omega) (by omega)) rfl ?_
  simp (config := { maxSteps := 2000000 }) only [go_sem, Nat.reduceBEq, Nat.reduceAdd, Nat.reduceLT, Nat.reduceLeDiff, Nat.reduceEqDiff, reduceCtorEq, Int.reduceAdd, Int.reduceSub, Int.reduceNeg, Int.reduceLE, Int.reduceLT, Int.reduceToNat, Int.reduceBEq, Int.reduceBNe, Int.reduceEq, Int.reduceNe, Int.toNat_zero, Int.toNat_one, bne_self_eq_false, Nat.reduceMul, Nat.zero_mul, Nat.mul_one, Nat.one_mul, Nat.reduceSub, Int.cast_ofNat_Int, Int.toNat_natCast]
  exact RetQ.pure hR rfl ⟨⟨rfl, by simp [sz64], by simp [sz64]⟩, trivial⟩ rfl (fun _ _ _ => rfl)
end Go.Proofs.Ytcdclmelnnbdnaa.Fx