/- FixopContains. -/
import Derived.Test.YtnolflocgodffaaG1
import Derived.Test.YtnolflocgodffaaG2
namespace Go.Proofs.Ytnolflocgodffaa
open Vg Tf
set_option linter.unusedSimpArgs false
set_option linter.unusedVariables false
set_option maxRecDepth 100000
set_option maxHeartbeats 4000000
theorem vErr_ok {op a1 a2 b1 b2 : Int} {ta tb t : Ft} (h : vErr op a1 a2 b1 b2 ta tb t = 0) : (1 ≤ op ∧ op ≤ 4) ∧ (fok ta = true ∧ a1 ≤ a2 ∧ fin ta a1 = true ∧ fin ta a2 = true) ∧ (fok tb = true ∧ b1 ≤ b2 ∧ fin tb b1 = true ∧ fin tb b2 = true) ∧ fok t = true ∧ ufit op ta tb t = true ∧ (op = 4 → 0 < fnu tb b1 ∨ fnu tb b2 < 0) := by
  unfold vErr at h
  split at h
  · omega
  split at h
  · omega
  split at h
  · omega
  rename_i h1 h2 h3
  simp only [not_or, Bool.not_eq_false, Bool.and_eq_true, decide_eq_true_eq] at h1 h2
  exact ⟨by omega, h1.2.1, h1.2.2.1, h1.2.2.2, h2, fun h => by omega⟩
theorem fin_mid {t : Ft} {x y z : Int} (hx : fin t x = true) (hz : fin t z = true) (h1 : x ≤ y) (h2 : y ≤ z) : fin t y = true := by
  simp only [fin, Bool.and_eq_true, decide_eq_true_eq] at *
  omega
theorem mid_ (a1 a2 x : Int) (h : a1 ≤ a2) (b1 : -2147483648 ≤ a1) (b2 : a2 ≤ 4294967295) (hx : 0 ≤ x ∧ x ≤ 4294967295) :
    ∃ p, IntKind.i64.wrap (a1 + (IntKind.i64.wrap x).tmod (IntKind.i64.wrap (IntKind.i64.wrap (a2 - a1) + 1))) = p ∧ a1 ≤ p ∧ p ≤ a2 := by
  have w1 : IntKind.i64.wrap (a2 - a1) = a2 - a1 := w64 (by omega) (by omega)
  have w2 : IntKind.i64.wrap x = x := w64 (by omega) (by omega)
  have w3 : IntKind.i64.wrap (a2 - a1 + 1) = a2 - a1 + 1 := w64 (by omega) (by omega)
  rw [w1, w2, w3, Int.tmod_eq_emod_of_nonneg hx.1]
  have h1 := Int.emod_nonneg x (show a2 - a1 + 1 ≠ 0 by omega)
  have h2 := Int.emod_lt_of_pos x (show 0 < a2 - a1 + 1 by omega)
  exact ⟨_, w64 (by omega) (by omega), by omega, by omega⟩
theorem dv_ (a1 a2 : Int) (h : a1 ≤ a2) (b1 : -2147483648 ≤ a1) (b2 : a2 ≤ 4294967295) : ¬ IntKind.i64.wrap (IntKind.i64.wrap (a2 - a1) + 1) = 0 := by
  rw [w64 (x := a2 - a1) (by omega) (by omega), w64 (by omega) (by omega)]; omega
@[reducible] def fcE (op i : Int) (low high : Bool) : Env := [(93, true, I i), (92, true, I 5), (91, true, .c (.sl 120 0 5 2)), (21, true, Bo low), (22, true, Bo high), (25, true, .c (.p 135 0)), (17, true, .c (.p 110 0)), (13, true, .c (.p 104 0)), (12, true, .c (.p 103 0)), (11, true, .c (.p 102 0)), (0, true, I op), (16, true, Bo false)]
@[reducible] def fcM (a1 a2 b1 b2 p q : Int) (ta tb t : Ft) (lo hi r : Int) : Mem := [(120, ⟨false, [ci p, ci q, ci a1, ci b1, ci a1, ci b2, ci a2, ci b1, ci a2, ci b2], 40⟩), (135, ⟨false, vaL t r, 27⟩), (110, ⟨false, [ci lo, ci hi], 35⟩), (104, ⟨false, fxL t, 25⟩), (103, ⟨false, fxL tb, 25⟩), (102, ⟨false, fxL ta, 25⟩)]
theorem law_contains (op a1 a2 b1 b2 : Int) (ta tb t : Ft) (x y : Int) (hx : 0 ≤ x ∧ x ≤ 4294967295) (hy : 0 ≤ y ∧ y ≤ 4294967295) : CallOk Try.prog 6 [I op, rg a1 a2, rg b1 b2, fx ta, fx tb, fx t, .c (.v (.int .u32 x)), .c (.v (.int .u32 y))] [] (Bo true) [] := by
  refine CallOk.mk 100 Try.func6 rfl en6 (by simp [Try.ntmps6]) (by simp [ClV, V.g, Cv.g, rg, fx, ci]) fun C hR => ?_
  simp (config := { maxSteps := 2000000 }) only [go_sem, Nat.reduceBEq, Nat.reduceAdd, Nat.reduceLT, Nat.reduceLeDiff, Nat.reduceEqDiff, reduceCtorEq, Int.reduceAdd, Int.reduceSub, Int.reduceNeg, Int.reduceLE, Int.reduceLT, Int.reduceToNat, Int.reduceBEq, Int.reduceBNe, Int.reduceEq, Int.reduceNe, Int.toNat_zero, Int.toNat_one, bne_self_eq_false, Nat.reduceMul, Nat.zero_mul, Nat.mul_one, Nat.one_mul, Nat.reduceSub, Int.cast_ofNat_Int, Int.toNat_natCast]
  refine CallQ.pure 110 awake4 rfl ?_
  simp (config := { maxSteps := 2000000 }) only [go_sem, Nat.reduceBEq, Nat.reduceAdd, Nat.reduceLT, Nat.reduceLeDiff, Nat.reduceEqDiff, reduceCtorEq, Int.reduceAdd, Int.reduceSub, Int.reduceNeg, Int.reduceLE, Int.reduceLT, Int.reduceToNat, Int.reduceBEq, Int.reduceBNe, Int.reduceEq, Int.reduceNe, Int.toNat_zero, Int.toNat_one, bne_self_eq_false, Nat.reduceMul, Nat.zero_mul, Nat.mul_one, Nat.one_mul, Nat.reduceSub, Int.cast_ofNat_Int, Int.toNat_natCast]
  refine CallQ.pure 110 (fover_ op a1 a2 b1 b2 ta tb t) rfl ?_
  simp (config := { maxSteps := 2000000 }) only [go_sem, Nat.reduceBEq, Nat.reduceAdd, Nat.reduceLT, Nat.reduceLeDiff, Nat.reduceEqDiff, reduceCtorEq, Int.reduceAdd, Int.reduceSub, Int.reduceNeg, Int.reduceLE, Int.reduceLT, Int.reduceToNat, Int.reduceBEq, Int.reduceBNe, Int.reduceEq, Int.reduceNe, Int.toNat_zero, Int.toNat_one, bne_self_eq_false, Nat.reduceMul, Nat.zero_mul, Nat.mul_one, Nat.one_mul, Nat.reduceSub, Int.cast_ofNat_Int, Int.toNat_natCast]
  by_cases he : vErr op a1 a2 b1 b2 ta tb t = 0
  · obtain ⟨ho, ⟨ka, kl, k1, k2⟩, ⟨la, ll, l1, l2⟩, t1, hu, h4⟩ := vErr_ok he
    have nb := fnu_mono la ll
    have fa1 := fin_bd ka k1
    have fa2 := fin_bd ka k2
    have fb1 := fin_bd la l1
    have fb2 := fin_bd la l2
    obtain ⟨p, hp, p1, p2⟩ := mid_ a1 a2 x kl (by omega) (by omega) hx
    obtain ⟨q, hq, q1, q2⟩ := mid_ b1 b2 y ll (by omega) (by omega) hy
    have fp := fin_mid k1 k2 p1 p2
    have fq := fin_mid l1 l2 q1 q2
    have nq1 := fnu_mono la q1
    have nq2 := fnu_mono la q2
    have er : ∀ x y, fin ta x = true → fin tb y = true → b1 ≤ y → y ≤ b2 → oErr op ta x tb y t = 0 := fun x y hx hy g1 g2 => by
      have m1 := fnu_mono la g1
      have m2 := fnu_mono la g2
      rw [oErr, if_neg (by simp [ka, hx, la, hy, t1]), if_neg (by simp [hu]), if_neg (by omega)]
    have hd : ∀ x y, fin ta x = true → fin tb y = true → b1 ≤ y → y ≤ b2 → CallOk Try.prog 28 [I op, va ta x, va tb y, fx t] [] (.tup [.agg (vaL t (oRaw op ta x tb y t)), Wi 0]) [] := fun x y hx hy g1 g2 => by
      have e0 := er x y hx hy g1 g2
      have := do_ op ta x tb y t ho.1 ho.2
      rw [oT, oR, if_pos e0, if_pos e0, e0] at this
      exact this
    have c0 := hd p q fp fq q1 q2
    have c1 := hd a1 b1 k1 l1 (by omega) ll
    have c2 := hd a1 b2 k1 l2 ll (by omega)
    have c3 := hd a2 b1 k2 l1 (by omega) ll
    have c4 := hd a2 b2 k2 l2 ll (by omega)
    have y1 := between_y ho.1 ho.2 ka k1 la fq l1 l2 t1 q1 q2 h4 nq1 nq2
    have y2 := between_y ho.1 ho.2 ka k2 la fq l1 l2 t1 q1 q2 h4 nq1 nq2
    have x1 := between_x ho.1 ho.2 (er a1 q k1 fq q1 q2) fp k2 p1 p2
    simp only [vLo, vHi, he, if_true]
    generalize oRaw op ta p tb q t = r0 at *
    generalize oRaw op ta a1 tb b1 t = r1 at *
    generalize oRaw op ta a1 tb b2 t = r2 at *
    generalize oRaw op ta a2 tb b1 t = r3 at *
    generalize oRaw op ta a2 tb b2 t = r4 at *
    obtain ⟨lo, hlo⟩ : ∃ lo, min (min (min r1 r2) r3) r4 = lo := ⟨_, rfl⟩
    obtain ⟨hi, hhi⟩ : ∃ hi, max (max (max r1 r2) r3) r4 = hi := ⟨_, rfl⟩
    simp only [hlo, hhi]
    simp (config := { maxSteps := 2000000 }) only [go_sem, Nat.reduceBEq, Nat.reduceAdd, Nat.reduceLT, Nat.reduceLeDiff, Nat.reduceEqDiff, reduceCtorEq, Int.reduceAdd, Int.reduceSub, Int.reduceNeg, Int.reduceLE, Int.reduceLT, Int.reduceToNat, Int.reduceBEq, Int.reduceBNe, Int.reduceEq, Int.reduceNe, Int.toNat_zero, Int.toNat_one, bne_self_eq_false, Nat.reduceMul, Nat.zero_mul, Nat.mul_one, Nat.one_mul, Nat.reduceSub, Int.cast_ofNat_Int, Int.toNat_natCast]
    refine Sm.dgo 120 12 mix (by decide +kernel) (by decide +kernel) ?_
    simp (config := { maxSteps := 2000000 }) only [go_sem, Nat.reduceBEq, Nat.reduceAdd, Nat.reduceLT, Nat.reduceLeDiff, Nat.reduceEqDiff, reduceCtorEq, Int.reduceAdd, Int.reduceSub, Int.reduceNeg, Int.reduceLE, Int.reduceLT, Int.reduceToNat, Int.reduceBEq, Int.reduceBNe, Int.reduceEq, Int.reduceNe, Int.toNat_zero, Int.toNat_one, bne_self_eq_false, Nat.reduceMul, Nat.zero_mul, Nat.mul_one, Nat.one_mul, Nat.reduceSub, Int.cast_ofNat_Int, Int.toNat_natCast]
    refine ⟨dv_ a1 a2 kl (by omega) (by omega), ?_⟩
    simp only [hp]
    refine Sm.dgo 120 12 mix (by decide +kernel) (by decide +kernel) ?_
    simp (config := { maxSteps := 2000000 }) only [go_sem, Nat.reduceBEq, Nat.reduceAdd, Nat.reduceLT, Nat.reduceLeDiff, Nat.reduceEqDiff, reduceCtorEq, Int.reduceAdd, Int.reduceSub, Int.reduceNeg, Int.reduceLE, Int.reduceLT, Int.reduceToNat, Int.reduceBEq, Int.reduceBNe, Int.reduceEq, Int.reduceNe, Int.toNat_zero, Int.toNat_one, bne_self_eq_false, Nat.reduceMul, Nat.zero_mul, Nat.mul_one, Nat.one_mul, Nat.reduceSub, Int.cast_ofNat_Int, Int.toNat_natCast]
    refine ⟨dv_ b1 b2 ll (by omega) (by omega), ?_⟩
    simp only [hq]
    refine Sm.unroll 6 (Sm.go 140 ?_)
    simp (config := { maxSteps := 2000000 }) only [go_sem, Nat.reduceBEq, Nat.reduceAdd, Nat.reduceLT, Nat.reduceLeDiff, Nat.reduceEqDiff, reduceCtorEq, Int.reduceAdd, Int.reduceSub, Int.reduceNeg, Int.reduceLE, Int.reduceLT, Int.reduceToNat, Int.reduceBEq, Int.reduceBNe, Int.reduceEq, Int.reduceNe, Int.toNat_zero, Int.toNat_one, bne_self_eq_false, Nat.reduceMul, Nat.zero_mul, Nat.mul_one, Nat.one_mul, Nat.reduceSub, Int.cast_ofNat_Int, Int.toNat_natCast]
    refine CallQ.pure 150 c0 rfl ?_
    simp (config := { maxSteps := 2000000 }) only [go_sem, Nat.reduceBEq, Nat.reduceAdd, Nat.reduceLT, Nat.reduceLeDiff, Nat.reduceEqDiff, reduceCtorEq, Int.reduceAdd, Int.reduceSub, Int.reduceNeg, Int.reduceLE, Int.reduceLT, Int.reduceToNat, Int.reduceBEq, Int.reduceBNe, Int.reduceEq, Int.reduceNe, Int.toNat_zero, Int.toNat_one, bne_self_eq_false, Nat.reduceMul, Nat.zero_mul, Nat.mul_one, Nat.one_mul, Nat.reduceSub, Int.cast_ofNat_Int, Int.toNat_natCast]
    have u0 : decide (r0 < lo) = false := by simp; omega
    have v0 : decide (hi < r0) = false := by simp; omega
    simp only [u0, v0]
    simp (config := { maxSteps := 2000000 }) only [go_sem, Nat.reduceBEq, Nat.reduceAdd, Nat.reduceLT, Nat.reduceLeDiff, Nat.reduceEqDiff, reduceCtorEq, Int.reduceAdd, Int.reduceSub, Int.reduceNeg, Int.reduceLE, Int.reduceLT, Int.reduceToNat, Int.reduceBEq, Int.reduceBNe, Int.reduceEq, Int.reduceNe, Int.toNat_zero, Int.toNat_one, bne_self_eq_false, Nat.reduceMul, Nat.zero_mul, Nat.mul_one, Nat.one_mul, Nat.reduceSub, Int.cast_ofNat_Int, Int.toNat_natCast]
    refine CallQ.pure 160 c1 rfl ?_
    simp (config := { maxSteps := 2000000 }) only [go_sem, Nat.reduceBEq, Nat.reduceAdd, Nat.reduceLT, Nat.reduceLeDiff, Nat.reduceEqDiff, reduceCtorEq, Int.reduceAdd, Int.reduceSub, Int.reduceNeg, Int.reduceLE, Int.reduceLT, Int.reduceToNat, Int.reduceBEq, Int.reduceBNe, Int.reduceEq, Int.reduceNe, Int.toNat_zero, Int.toNat_one, bne_self_eq_false, Nat.reduceMul, Nat.zero_mul, Nat.mul_one, Nat.one_mul, Nat.reduceSub, Int.cast_ofNat_Int, Int.toNat_natCast]
    have u1 : decide (r1 < lo) = false := by simp; omega
    have v1 : decide (hi < r1) = false := by simp; omega
    simp only [u1, v1]
    simp (config := { maxSteps := 2000000 }) only [go_sem, Nat.reduceBEq, Nat.reduceAdd, Nat.reduceLT, Nat.reduceLeDiff, Nat.reduceEqDiff, reduceCtorEq, Int.reduceAdd, Int.reduceSub, Int.reduceNeg, Int.reduceLE, Int.reduceLT, Int.reduceToNat, Int.reduceBEq, Int.reduceBNe, Int.reduceEq, Int.reduceNe, Int.toNat_zero, Int.toNat_one, bne_self_eq_false, Nat.reduceMul, Nat.zero_mul, Nat.mul_one, Nat.one_mul, Nat.reduceSub, Int.cast_ofNat_Int, Int.toNat_natCast]
    refine Sm.cut (Pins.nil rfl hR) (fcE op 1 false false) (fcM a1 a2 b1 b2 p q ta tb t lo hi r1) [(120, 120), (135, 160), (110, 110), (104, 104), (103, 103), (102, 102)]
      ⟨rfl, trivial, ⟨rfl, rfl, rfl, rfl, rfl, rfl, rfl, rfl, rfl, rfl, rfl, rfl, trivial⟩, ⟨.inr ⟨_, rfl, .inl rfl⟩, .inr ⟨_, rfl, .inl rfl⟩, .inr ⟨_, rfl, .inl rfl⟩, .inr ⟨_, rfl, .inl rfl⟩, .inr ⟨_, rfl, .inl rfl⟩, .inr ⟨_, rfl, .inl rfl⟩, trivial⟩⟩ (ClM.of rfl) (ClE.of rfl) ?_
    refine Sm.dgo 170 17 mix (by decide +kernel) (by decide +kernel) ?_
    simp (config := { maxSteps := 2000000 }) only [go_sem, Nat.reduceBEq, Nat.reduceAdd, Nat.reduceLT, Nat.reduceLeDiff, Nat.reduceEqDiff, reduceCtorEq, Int.reduceAdd, Int.reduceSub, Int.reduceNeg, Int.reduceLE, Int.reduceLT, Int.reduceToNat, Int.reduceBEq, Int.reduceBNe, Int.reduceEq, Int.reduceNe, Int.toNat_zero, Int.toNat_one, bne_self_eq_false, Nat.reduceMul, Nat.zero_mul, Nat.mul_one, Nat.one_mul, Nat.reduceSub, Int.cast_ofNat_Int, Int.toNat_natCast]
    refine CallQ.pure 180 c2 rfl ?_
    simp (config := { maxSteps := 2000000 }) only [go_sem, Nat.reduceBEq, Nat.reduceAdd, Nat.reduceLT, Nat.reduceLeDiff, Nat.reduceEqDiff, reduceCtorEq, Int.reduceAdd, Int.reduceSub, Int.reduceNeg, Int.reduceLE, Int.reduceLT, Int.reduceToNat, Int.reduceBEq, Int.reduceBNe, Int.reduceEq, Int.reduceNe, Int.toNat_zero, Int.toNat_one, bne_self_eq_false, Nat.reduceMul, Nat.zero_mul, Nat.mul_one, Nat.one_mul, Nat.reduceSub, Int.cast_ofNat_Int, Int.toNat_natCast]
    have u2 : decide (r2 < lo) = false := by simp; omega
    have v2 : decide (hi < r2) = false := by simp; omega
    simp only [u2, v2]
    simp (config := { maxSteps := 2000000 }) only [go_sem, Nat.reduceBEq, Nat.reduceAdd, Nat.reduceLT, Nat.reduceLeDiff, Nat.reduceEqDiff, reduceCtorEq, Int.reduceAdd, Int.reduceSub, Int.reduceNeg, Int.reduceLE, Int.reduceLT, Int.reduceToNat, Int.reduceBEq, Int.reduceBNe, Int.reduceEq, Int.reduceNe, Int.toNat_zero, Int.toNat_one, bne_self_eq_false, Nat.reduceMul, Nat.zero_mul, Nat.mul_one, Nat.one_mul, Nat.reduceSub, Int.cast_ofNat_Int, Int.toNat_natCast]
    refine Sm.cut (Pins.nil rfl hR) (fcE op 2 (r1 == lo) (r1 == hi)) (fcM a1 a2 b1 b2 p q ta tb t lo hi r2) [(120, 120), (135, 180), (110, 110), (104, 104), (103, 103), (102, 102)]
      ⟨rfl, trivial, ⟨rfl, rfl, rfl, rfl, rfl, rfl, rfl, rfl, rfl, rfl, rfl, rfl, trivial⟩, ⟨.inr ⟨_, rfl, .inl rfl⟩, .inr ⟨_, rfl, .inl rfl⟩, .inr ⟨_, rfl, .inl rfl⟩, .inr ⟨_, rfl, .inl rfl⟩, .inr ⟨_, rfl, .inl rfl⟩, .inr ⟨_, rfl, .inl rfl⟩, trivial⟩⟩ (ClM.of rfl) (ClE.of rfl) ?_
    refine Sm.dgo 170 17 mix (by decide +kernel) (by decide +kernel) ?_
    simp (config := { maxSteps := 2000000 }) only [go_sem, Nat.reduceBEq, Nat.reduceAdd, Nat.reduceLT, Nat.reduceLeDiff, Nat.reduceEqDiff, reduceCtorEq, Int.reduceAdd, Int.reduceSub, Int.reduceNeg, Int.reduceLE, Int.reduceLT, Int.reduceToNat, Int.reduceBEq, Int.reduceBNe, Int.reduceEq, Int.reduceNe, Int.toNat_zero, Int.toNat_one, bne_self_eq_false, Nat.reduceMul, Nat.zero_mul, Nat.mul_one, Nat.one_mul, Nat.reduceSub, Int.cast_ofNat_Int, Int.toNat_natCast]
    refine CallQ.pure 180 c3 rfl ?_
    simp (config := { maxSteps := 2000000 }) only [go_sem, Nat.reduceBEq, Nat.reduceAdd, Nat.reduceLT, Nat.reduceLeDiff, Nat.reduceEqDiff, reduceCtorEq, Int.reduceAdd, Int.reduceSub, Int.reduceNeg, Int.reduceLE, Int.reduceLT, Int.reduceToNat, Int.reduceBEq, Int.reduceBNe, Int.reduceEq, Int.reduceNe, Int.toNat_zero, Int.toNat_one, bne_self_eq_false, Nat.reduceMul, Nat.zero_mul, Nat.mul_one, Nat.one_mul, Nat.reduceSub, Int.cast_ofNat_Int, Int.toNat_natCast]
    have u3 : decide (r3 < lo) = false := by simp; omega
    have v3 : decide (hi < r3) = false := by simp; omega
    simp only [u3, v3]
    simp (config := { maxSteps := 2000000 }) only [go_sem, Nat.reduceBEq, Nat.reduceAdd, Nat.reduceLT, Nat.reduceLeDiff, Nat.reduceEqDiff, reduceCtorEq, Int.reduceAdd, Int.reduceSub, Int.reduceNeg, Int.reduceLE, Int.reduceLT, Int.reduceToNat, Int.reduceBEq, Int.reduceBNe, Int.reduceEq, Int.reduceNe, Int.toNat_zero, Int.toNat_one, bne_self_eq_false, Nat.reduceMul, Nat.zero_mul, Nat.mul_one, Nat.one_mul, Nat.reduceSub, Int.cast_ofNat_Int, Int.toNat_natCast]
    refine Sm.cut (Pins.nil rfl hR) (fcE op 3 (bif (r1 == lo) then true else r2 == lo) (bif (r1 == hi) then true else r2 == hi)) (fcM a1 a2 b1 b2 p q ta tb t lo hi r3) [(120, 120), (135, 180), (110, 110), (104, 104), (103, 103), (102, 102)]
      ⟨rfl, trivial, ⟨rfl, rfl, rfl, rfl, rfl, rfl, rfl, rfl, rfl, rfl, rfl, rfl, trivial⟩, ⟨.inr ⟨_, rfl, .inl rfl⟩, .inr ⟨_, rfl, .inl rfl⟩, .inr ⟨_, rfl, .inl rfl⟩, .inr ⟨_, rfl, .inl rfl⟩, .inr ⟨_, rfl, .inl rfl⟩, .inr ⟨_, rfl, .inl rfl⟩, trivial⟩⟩ (ClM.of rfl) (ClE.of rfl) ?_
    refine Sm.dgo 170 17 mix (by decide +kernel) (by decide +kernel) ?_
    simp (config := { maxSteps := 2000000 }) only [go_sem, Nat.reduceBEq, Nat.reduceAdd, Nat.reduceLT, Nat.reduceLeDiff, Nat.reduceEqDiff, reduceCtorEq, Int.reduceAdd, Int.reduceSub, Int.reduceNeg, Int.reduceLE, Int.reduceLT, Int.reduceToNat, Int.reduceBEq, Int.reduceBNe, Int.reduceEq, Int.reduceNe, Int.toNat_zero, Int.toNat_one, bne_self_eq_false, Nat.reduceMul, Nat.zero_mul, Nat.mul_one, Nat.one_mul, Nat.reduceSub, Int.cast_ofNat_Int, Int.toNat_natCast]
    refine CallQ.pure 180 c4 rfl ?_
    simp (config := { maxSteps := 2000000 }) only [go_sem, Nat.reduceBEq, Nat.reduceAdd, Nat.reduceLT, Nat.reduceLeDiff, Nat.reduceEqDiff, reduceCtorEq, Int.reduceAdd, Int.reduceSub, Int.reduceNeg, Int.reduceLE, Int.reduceLT, Int.reduceToNat, Int.reduceBEq, Int.reduceBNe, Int.reduceEq, Int.reduceNe, Int.toNat_zero, Int.toNat_one, bne_self_eq_false, Nat.reduceMul, Nat.zero_mul, Nat.mul_one, Nat.one_mul, Nat.reduceSub, Int.cast_ofNat_Int, Int.toNat_natCast]
    have u4 : decide (r4 < lo) = false := by simp; omega
    have v4 : decide (hi < r4) = false := by simp; omega
    simp only [u4, v4]
    simp (config := { maxSteps := 2000000 }) only [go_sem, Nat.reduceBEq, Nat.reduceAdd, Nat.reduceLT, Nat.reduceLeDiff, Nat.reduceEqDiff, reduceCtorEq, Int.reduceAdd, Int.reduceSub, Int.reduceNeg, Int.reduceLE, Int.reduceLT, Int.reduceToNat, Int.reduceBEq, Int.reduceBNe, Int.reduceEq, Int.reduceNe, Int.toNat_zero, Int.toNat_one, bne_self_eq_false, Nat.reduceMul, Nat.zero_mul, Nat.mul_one, Nat.one_mul, Nat.reduceSub, Int.cast_ofNat_Int, Int.toNat_natCast]
    refine Sm.cut (Pins.nil rfl hR) (fcE op 4 (bif (bif (r1 == lo) then true else r2 == lo) then true else r3 == lo) (bif (bif (r1 == hi) then true else r2 == hi) then true else r3 == hi)) (fcM a1 a2 b1 b2 p q ta tb t lo hi r4) [(120, 120), (135, 180), (110, 110), (104, 104), (103, 103), (102, 102)]
      ⟨rfl, trivial, ⟨rfl, rfl, rfl, rfl, rfl, rfl, rfl, rfl, rfl, rfl, rfl, rfl, trivial⟩, ⟨.inr ⟨_, rfl, .inl rfl⟩, .inr ⟨_, rfl, .inl rfl⟩, .inr ⟨_, rfl, .inl rfl⟩, .inr ⟨_, rfl, .inl rfl⟩, .inr ⟨_, rfl, .inl rfl⟩, .inr ⟨_, rfl, .inl rfl⟩, trivial⟩⟩ (ClM.of rfl) (ClE.of rfl) ?_
    refine Sm.dgo 170 17 mix (by decide +kernel) (by decide +kernel) ?_
    simp (config := { maxSteps := 2000000 }) only [go_sem, Nat.reduceBEq, Nat.reduceAdd, Nat.reduceLT, Nat.reduceLeDiff, Nat.reduceEqDiff, reduceCtorEq, Int.reduceAdd, Int.reduceSub, Int.reduceNeg, Int.reduceLE, Int.reduceLT, Int.reduceToNat, Int.reduceBEq, Int.reduceBNe, Int.reduceEq, Int.reduceNe, Int.toNat_zero, Int.toNat_one, bne_self_eq_false, Nat.reduceMul, Nat.zero_mul, Nat.mul_one, Nat.one_mul, Nat.reduceSub, Int.cast_ofNat_Int, Int.toNat_natCast]
    refine RetQ.bool hR rfl ⟨rfl, trivial⟩ ?_
    have w1 : r1 = lo ∨ r2 = lo ∨ r3 = lo ∨ r4 = lo := by omega
    have w2 : r1 = hi ∨ r2 = hi ∨ r3 = hi ∨ r4 = hi := by omega
    have z1 : (bif bif bif r1 == lo then true else r2 == lo then true else r3 == lo then true else r4 == lo) = true := by
      simp only [Bool.cond_true_left, Bool.or_eq_true, beq_iff_eq]; omega
    have z2 : (bif bif bif r1 == hi then true else r2 == hi then true else r3 == hi then true else r4 == hi) = true := by
      simp only [Bool.cond_true_left, Bool.or_eq_true, beq_iff_eq]; omega
    rw [z1, z2]; rfl
  · have ne : (vErr op a1 a2 b1 b2 ta tb t != 0) = true := by simpa using he
    simp only [vLo, vHi, ne, he, if_false]
    simp (config := { maxSteps := 2000000 }) only [go_sem, Nat.reduceBEq, Nat.reduceAdd, Nat.reduceLT, Nat.reduceLeDiff, Nat.reduceEqDiff, reduceCtorEq, Int.reduceAdd, Int.reduceSub, Int.reduceNeg, Int.reduceLE, Int.reduceLT, Int.reduceToNat, Int.reduceBEq, Int.reduceBNe, Int.reduceEq, Int.reduceNe, Int.toNat_zero, Int.toNat_one, bne_self_eq_false, Nat.reduceMul, Nat.zero_mul, Nat.mul_one, Nat.one_mul, Nat.reduceSub, Int.cast_ofNat_Int, Int.toNat_natCast]
    exact RetQ.bool hR rfl ⟨rfl, trivial⟩ rfl
end Go.Proofs.Ytnolflocgodffaa
