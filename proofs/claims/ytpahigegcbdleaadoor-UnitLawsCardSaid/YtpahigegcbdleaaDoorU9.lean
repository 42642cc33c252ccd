/- The laws UnitGroup, UnitPowers, UnitLaws. -/
import Derived.Test.YtpahigegcbdleaaDoorU8
namespace Go.Proofs.YtpahigegcbdleaaDoor.Fx
open Vg Tf
set_option linter.unusedSimpArgs false
set_option linter.unusedVariables false
set_option maxRecDepth 100000
set_option maxHeartbeats 4000000
theorem uext {a b : Un} (h1 : a.m = b.m) (h2 : a.kg = b.kg) (h3 : a.s = b.s) (h4 : a.a = b.a) (h5 : a.k = b.k) : a = b := by
  cases a; cases b; simp only [Un.mk.injEq]; exact ⟨h1, h2, h3, h4, h5⟩
theorem uadd_comm (a b : Un) : uadd a b 1 = uadd b a 1 := uext (by simp only [uadd]; omega) (by simp only [uadd]; omega) (by simp only [uadd]; omega) (by simp only [uadd]; omega) (by simp only [uadd]; omega)
theorem cb_comm (a b : Un) : cbE a b 1 = cbE b a 1 ∧ cbV a b 1 = cbV b a 1 := by
  have h1 : cbE a b 1 = cbE b a 1 := by unfold cbE; rw [uadd_comm, Bool.and_comm]
  exact ⟨h1, by unfold cbV; rw [h1, uadd_comm]⟩
theorem cb_ok {a b : Un} {k : Int} (ha : uokU a = true) (hb : uokU b = true) : cbE a b k = bif uokU (uadd a b k) then 0 else 2 := by rw [cbE, ha, hb]; rfl
theorem cb_0 {a b : Un} {k : Int} (ha : uokU a = true) (hb : uokU b = true) (hu : uokU (uadd a b k) = true) : cbE a b k = 0 ∧ cbV a b k = uadd a b k := by
  have e : cbE a b k = 0 := by rw [cb_ok ha hb, hu]; rfl
  exact ⟨e, by rw [cbV, e]; rfl⟩
theorem cb_0' {a b : Un} {k : Int} (h : cbE a b k = 0) : uokU a = true ∧ uokU b = true ∧ uokU (uadd a b k) = true ∧ cbV a b k = uadd a b k := by
  have hv : cbV a b k = uadd a b k := by rw [cbV, h]; rfl
  unfold cbE at h
  cases ha : uokU a <;> cases hb : uokU b <;> rw [ha, hb] at h <;> simp at h
  cases hu : uokU (uadd a b k) <;> rw [hu] at h <;> simp at h
  exact ⟨rfl, rfl, rfl, hv⟩
theorem uadd_0 (a : Un) : uadd a u0 1 = a := uext (by simp [uadd, u0]) (by simp [uadd, u0]) (by simp [uadd, u0]) (by simp [uadd, u0]) (by simp [uadd, u0])
theorem usub_self (a : Un) : uadd a a (-1) = u0 := uext (by simp only [uadd, u0]; omega) (by simp only [uadd, u0]; omega) (by simp only [uadd, u0]; omega) (by simp only [uadd, u0]; omega) (by simp only [uadd, u0]; omega)
theorem usub_back (a b : Un) : uadd (uadd a b 1) b (-1) = a := uext (by simp only [uadd]; omega) (by simp only [uadd]; omega) (by simp only [uadd]; omega) (by simp only [uadd]; omega) (by simp only [uadd]; omega)
theorem uadd_assoc (a b c : Un) : uadd (uadd a b 1) c 1 = uadd a (uadd b c 1) 1 := uext (by simp only [uadd]; omega) (by simp only [uadd]; omega) (by simp only [uadd]; omega) (by simp only [uadd]; omega) (by simp only [uadd]; omega)
theorem ueq_self (a : Un) : (a.m == a.m && (a.kg == a.kg && (a.s == a.s && (a.a == a.a && a.k == a.k)))) = true := by simp
theorem law_group (a b c : Un) : CallOk Tryd.prog 7 [uu a, uu b, uu c] [] (Bo true) [] := by
  obtain ⟨hc1, hc2⟩ := cb_comm b a
  have hm := mul_ b a
  rw [hc1, hc2] at hm
  refine CallOk.mkN 100 Tryd.func7 rfl en7 (by simp [Tryd.ntmps7]) (ClA.of rfl) rfl rfl fun C hR hP => ?_
  simp (config := { maxSteps := 2000000 }) only [go_sem, Nat.reduceBEq, Nat.reduceAdd, Nat.reduceLT, Nat.reduceLeDiff, Nat.reduceEqDiff, reduceCtorEq, Int.reduceAdd, Int.reduceSub, Int.reduceNeg, Int.reduceLE, Int.reduceLT, Int.reduceToNat, Int.reduceBEq, Int.reduceBNe, Int.reduceEq, Int.reduceNe, Int.toNat_zero, Int.toNat_one, bne_self_eq_false, Nat.reduceMul, Nat.zero_mul, Nat.mul_one, Nat.one_mul, Nat.reduceSub, Int.cast_ofNat_Int, Int.toNat_natCast]
  refine CallQ.pure 110 awake_ rfl ?_
  simp (config := { maxSteps := 2000000 }) only [go_sem, Nat.reduceBEq, Nat.reduceAdd, Nat.reduceLT, Nat.reduceLeDiff, Nat.reduceEqDiff, reduceCtorEq, Int.reduceAdd, Int.reduceSub, Int.reduceNeg, Int.reduceLE, Int.reduceLT, Int.reduceToNat, Int.reduceBEq, Int.reduceBNe, Int.reduceEq, Int.reduceNe, Int.toNat_zero, Int.toNat_one, bne_self_eq_false, Nat.reduceMul, Nat.zero_mul, Nat.mul_one, Nat.one_mul, Nat.reduceSub, Int.cast_ofNat_Int, Int.toNat_natCast]
  refine CallQ.pure 110 (mul_ a b) rfl ?_
  simp (config := { maxSteps := 2000000 }) only [go_sem, Nat.reduceBEq, Nat.reduceAdd, Nat.reduceLT, Nat.reduceLeDiff, Nat.reduceEqDiff, reduceCtorEq, Int.reduceAdd, Int.reduceSub, Int.reduceNeg, Int.reduceLE, Int.reduceLT, Int.reduceToNat, Int.reduceBEq, Int.reduceBNe, Int.reduceEq, Int.reduceNe, Int.toNat_zero, Int.toNat_one, bne_self_eq_false, Nat.reduceMul, Nat.zero_mul, Nat.mul_one, Nat.one_mul, Nat.reduceSub, Int.cast_ofNat_Int, Int.toNat_natCast]
  refine CallQ.pure 120 hm rfl ?_
  simp (config := { maxSteps := 2000000 }) only [go_sem, Nat.reduceBEq, Nat.reduceAdd, Nat.reduceLT, Nat.reduceLeDiff, Nat.reduceEqDiff, reduceCtorEq, Int.reduceAdd, Int.reduceSub, Int.reduceNeg, Int.reduceLE, Int.reduceLT, Int.reduceToNat, Int.reduceBEq, Int.reduceBNe, Int.reduceEq, Int.reduceNe, Int.toNat_zero, Int.toNat_one, bne_self_eq_false, Nat.reduceMul, Nat.zero_mul, Nat.mul_one, Nat.one_mul, Nat.reduceSub, Int.cast_ofNat_Int, Int.toNat_natCast, beq_self_eq_true, bne_self_eq_false, Bool.and_self, Bool.not_true]
  refine CallQ.pure 130 (uvalidU a) rfl ?_
  simp (config := { maxSteps := 2000000 }) only [go_sem, Nat.reduceBEq, Nat.reduceAdd, Nat.reduceLT, Nat.reduceLeDiff, Nat.reduceEqDiff, reduceCtorEq, Int.reduceAdd, Int.reduceSub, Int.reduceNeg, Int.reduceLE, Int.reduceLT, Int.reduceToNat, Int.reduceBEq, Int.reduceBNe, Int.reduceEq, Int.reduceNe, Int.toNat_zero, Int.toNat_one, bne_self_eq_false, Nat.reduceMul, Nat.zero_mul, Nat.mul_one, Nat.one_mul, Nat.reduceSub, Int.cast_ofNat_Int, Int.toNat_natCast]
  refine CallQ.guard 130 (fun _ => uvalidU b) (fun h => by rw [h]; rfl) ?_
  simp (config := { maxSteps := 2000000 }) only [go_sem, Nat.reduceBEq, Nat.reduceAdd, Nat.reduceLT, Nat.reduceLeDiff, Nat.reduceEqDiff, reduceCtorEq, Int.reduceAdd, Int.reduceSub, Int.reduceNeg, Int.reduceLE, Int.reduceLT, Int.reduceToNat, Int.reduceBEq, Int.reduceBNe, Int.reduceEq, Int.reduceNe, Int.toNat_zero, Int.toNat_one, bne_self_eq_false, Nat.reduceMul, Nat.zero_mul, Nat.mul_one, Nat.one_mul, Nat.reduceSub, Int.cast_ofNat_Int, Int.toNat_natCast]
  refine CallQ.guard 130 (fun _ => uvalidU c) (fun h => by rw [h]; rfl) ?_
  simp (config := { maxSteps := 2000000 }) only [go_sem, Nat.reduceBEq, Nat.reduceAdd, Nat.reduceLT, Nat.reduceLeDiff, Nat.reduceEqDiff, reduceCtorEq, Int.reduceAdd, Int.reduceSub, Int.reduceNeg, Int.reduceLE, Int.reduceLT, Int.reduceToNat, Int.reduceBEq, Int.reduceBNe, Int.reduceEq, Int.reduceNe, Int.toNat_zero, Int.toNat_one, bne_self_eq_false, Nat.reduceMul, Nat.zero_mul, Nat.mul_one, Nat.one_mul, Nat.reduceSub, Int.cast_ofNat_Int, Int.toNat_natCast]
  refine mtch (fun h => ?_) (fun h => ?_)
  · exact RetQ.bool hR rfl ⟨rfl, trivial⟩ rfl
  · obtain ⟨ha, hb, hcc⟩ : uokU a = true ∧ uokU b = true ∧ uokU c = true := by
      cases h1 : uokU a <;> cases h2 : uokU b <;> cases h3 : uokU c <;> rw [h1, h2, h3] at h <;> simp at h
      exact ⟨rfl, rfl, rfl⟩
    obtain ⟨e1, e2⟩ := cb_0 (k := 1) ha uok_u0 (by rw [uadd_0]; exact ha)
    have m1 := mul_ a u0
    rw [e1, e2, uadd_0] at m1
    obtain ⟨e3, e4⟩ := cb_0 (k := -1) ha ha (by rw [usub_self]; rfl)
    have m2 := div_u a a
    rw [e3, e4, usub_self] at m2
    refine Sm.dgo 140 8 mix (by decide +kernel) (by decide +kernel) ?_
    simp (config := { maxSteps := 2000000 }) only [go_sem, Nat.reduceBEq, Nat.reduceAdd, Nat.reduceLT, Nat.reduceLeDiff, Nat.reduceEqDiff, reduceCtorEq, Int.reduceAdd, Int.reduceSub, Int.reduceNeg, Int.reduceLE, Int.reduceLT, Int.reduceToNat, Int.reduceBEq, Int.reduceBNe, Int.reduceEq, Int.reduceNe, Int.toNat_zero, Int.toNat_one, bne_self_eq_false, Nat.reduceMul, Nat.zero_mul, Nat.mul_one, Nat.one_mul, Nat.reduceSub, Int.cast_ofNat_Int, Int.toNat_natCast]
    refine DCallQ.pure 140 one_ rfl ?_
    simp (config := { maxSteps := 2000000 }) only [go_sem, Nat.reduceBEq, Nat.reduceAdd, Nat.reduceLT, Nat.reduceLeDiff, Nat.reduceEqDiff, reduceCtorEq, Int.reduceAdd, Int.reduceSub, Int.reduceNeg, Int.reduceLE, Int.reduceLT, Int.reduceToNat, Int.reduceBEq, Int.reduceBNe, Int.reduceEq, Int.reduceNe, Int.toNat_zero, Int.toNat_one, bne_self_eq_false, Nat.reduceMul, Nat.zero_mul, Nat.mul_one, Nat.one_mul, Nat.reduceSub, Int.cast_ofNat_Int, Int.toNat_natCast]
    refine DCallQ.pure 140 m1 rfl ?_
    simp (config := { maxSteps := 2000000 }) only [go_sem, Nat.reduceBEq, Nat.reduceAdd, Nat.reduceLT, Nat.reduceLeDiff, Nat.reduceEqDiff, reduceCtorEq, Int.reduceAdd, Int.reduceSub, Int.reduceNeg, Int.reduceLE, Int.reduceLT, Int.reduceToNat, Int.reduceBEq, Int.reduceBNe, Int.reduceEq, Int.reduceNe, Int.toNat_zero, Int.toNat_one, bne_self_eq_false, Nat.reduceMul, Nat.zero_mul, Nat.mul_one, Nat.one_mul, Nat.reduceSub, Int.cast_ofNat_Int, Int.toNat_natCast, beq_self_eq_true, bne_self_eq_false, Bool.and_self, Bool.and_true, Bool.not_true]
    refine CallQ.pure 150 m2 rfl ?_
    simp (config := { maxSteps := 2000000 }) only [go_sem, Nat.reduceBEq, Nat.reduceAdd, Nat.reduceLT, Nat.reduceLeDiff, Nat.reduceEqDiff, reduceCtorEq, Int.reduceAdd, Int.reduceSub, Int.reduceNeg, Int.reduceLE, Int.reduceLT, Int.reduceToNat, Int.reduceBEq, Int.reduceBNe, Int.reduceEq, Int.reduceNe, Int.toNat_zero, Int.toNat_one, bne_self_eq_false, Nat.reduceMul, Nat.zero_mul, Nat.mul_one, Nat.one_mul, Nat.reduceSub, Int.cast_ofNat_Int, Int.toNat_natCast, beq_self_eq_true, bne_self_eq_false, Bool.and_self, Bool.and_true, Bool.not_true]
    refine Sm.dgo 160 14 mix (by decide +kernel) (by decide +kernel) ?_
    simp (config := { maxSteps := 2000000 }) only [go_sem, Nat.reduceBEq, Nat.reduceAdd, Nat.reduceLT, Nat.reduceLeDiff, Nat.reduceEqDiff, reduceCtorEq, Int.reduceAdd, Int.reduceSub, Int.reduceNeg, Int.reduceLE, Int.reduceLT, Int.reduceToNat, Int.reduceBEq, Int.reduceBNe, Int.reduceEq, Int.reduceNe, Int.toNat_zero, Int.toNat_one, bne_self_eq_false, Nat.reduceMul, Nat.zero_mul, Nat.mul_one, Nat.one_mul, Nat.reduceSub, Int.cast_ofNat_Int, Int.toNat_natCast, beq_self_eq_true, bne_self_eq_false, Bool.and_self, Bool.and_true, Bool.not_true]
    refine DCallQ.guard 160 (fun _ => one_) (fun _ => rfl) ?_
    simp (config := { maxSteps := 2000000 }) only [go_sem, Nat.reduceBEq, Nat.reduceAdd, Nat.reduceLT, Nat.reduceLeDiff, Nat.reduceEqDiff, reduceCtorEq, Int.reduceAdd, Int.reduceSub, Int.reduceNeg, Int.reduceLE, Int.reduceLT, Int.reduceToNat, Int.reduceBEq, Int.reduceBNe, Int.reduceEq, Int.reduceNe, Int.toNat_zero, Int.toNat_one, bne_self_eq_false, Nat.reduceMul, Nat.zero_mul, Nat.mul_one, Nat.one_mul, Nat.reduceSub, Int.cast_ofNat_Int, Int.toNat_natCast, beq_self_eq_true, bne_self_eq_false, Bool.and_self, Bool.and_true, Bool.not_true]
    refine mtch (fun hE => ?_) (fun hE => ?_)
    · refine RetQ.bool hR rfl ⟨rfl, trivial⟩ ?_
      rw [cb_ok ha hb] at hE ⊢
      cases hu : uokU (uadd a b 1) <;> rw [hu] at hE
      · rfl
      · cases hE
    · have hE : cbE a b 1 = 0 := by simpa using hE
      obtain ⟨_, _, hab, hv⟩ := cb_0' hE
      rw [hv]
      obtain ⟨e5, e6⟩ := cb_0 (k := -1) hab hb (by rw [usub_back]; exact ha)
      have m3 := div_u (uadd a b 1) b
      rw [e5, e6, usub_back] at m3
      refine CallQ.pure 170 m3 rfl ?_
      simp (config := { maxSteps := 2000000 }) only [go_sem, Nat.reduceBEq, Nat.reduceAdd, Nat.reduceLT, Nat.reduceLeDiff, Nat.reduceEqDiff, reduceCtorEq, Int.reduceAdd, Int.reduceSub, Int.reduceNeg, Int.reduceLE, Int.reduceLT, Int.reduceToNat, Int.reduceBEq, Int.reduceBNe, Int.reduceEq, Int.reduceNe, Int.toNat_zero, Int.toNat_one, bne_self_eq_false, Nat.reduceMul, Nat.zero_mul, Nat.mul_one, Nat.one_mul, Nat.reduceSub, Int.cast_ofNat_Int, Int.toNat_natCast, beq_self_eq_true, bne_self_eq_false, Bool.and_self, Bool.and_true, Bool.not_true]
      refine CallQ.pure 180 (mul_ (uadd a b 1) c) rfl ?_
      simp (config := { maxSteps := 2000000 }) only [go_sem, Nat.reduceBEq, Nat.reduceAdd, Nat.reduceLT, Nat.reduceLeDiff, Nat.reduceEqDiff, reduceCtorEq, Int.reduceAdd, Int.reduceSub, Int.reduceNeg, Int.reduceLE, Int.reduceLT, Int.reduceToNat, Int.reduceBEq, Int.reduceBNe, Int.reduceEq, Int.reduceNe, Int.toNat_zero, Int.toNat_one, bne_self_eq_false, Nat.reduceMul, Nat.zero_mul, Nat.mul_one, Nat.one_mul, Nat.reduceSub, Int.cast_ofNat_Int, Int.toNat_natCast]
      refine CallQ.pure 190 (mul_ b c) rfl ?_
      simp (config := { maxSteps := 2000000 }) only [go_sem, Nat.reduceBEq, Nat.reduceAdd, Nat.reduceLT, Nat.reduceLeDiff, Nat.reduceEqDiff, reduceCtorEq, Int.reduceAdd, Int.reduceSub, Int.reduceNeg, Int.reduceLE, Int.reduceLT, Int.reduceToNat, Int.reduceBEq, Int.reduceBNe, Int.reduceEq, Int.reduceNe, Int.toNat_zero, Int.toNat_one, bne_self_eq_false, Nat.reduceMul, Nat.zero_mul, Nat.mul_one, Nat.one_mul, Nat.reduceSub, Int.cast_ofNat_Int, Int.toNat_natCast]
      refine mtch (fun hj => ?_) (fun hj => ?_)
      · exact RetQ.bool hR rfl ⟨rfl, trivial⟩ rfl
      · obtain ⟨hj1, hj2⟩ : cbE (uadd a b 1) c 1 = 0 ∧ cbE b c 1 = 0 := by
          cases h1 : (cbE (uadd a b 1) c 1 != 0) <;> rw [h1] at hj <;> simp at hj h1
          exact ⟨h1, hj⟩
        obtain ⟨_, _, hx, hxv⟩ := cb_0' hj1
        obtain ⟨_, _, hy, hyv⟩ := cb_0' hj2
        rw [hxv, hyv]
        obtain ⟨e7, e8⟩ := cb_0 (k := 1) ha hy (by rw [← uadd_assoc]; exact hx)
        have m4 := mul_ a (uadd b c 1)
        rw [e7, e8, ← uadd_assoc] at m4
        refine CallQ.pure 200 m4 rfl ?_
        simp (config := { maxSteps := 2000000 }) only [go_sem, Nat.reduceBEq, Nat.reduceAdd, Nat.reduceLT, Nat.reduceLeDiff, Nat.reduceEqDiff, reduceCtorEq, Int.reduceAdd, Int.reduceSub, Int.reduceNeg, Int.reduceLE, Int.reduceLT, Int.reduceToNat, Int.reduceBEq, Int.reduceBNe, Int.reduceEq, Int.reduceNe, Int.toNat_zero, Int.toNat_one, bne_self_eq_false, Nat.reduceMul, Nat.zero_mul, Nat.mul_one, Nat.one_mul, Nat.reduceSub, Int.cast_ofNat_Int, Int.toNat_natCast, beq_self_eq_true, bne_self_eq_false, Bool.and_self, Bool.and_true, Bool.not_true]
        exact RetQ.bool hR rfl ⟨rfl, trivial⟩ (by simp)
/-! powers -/
theorem cl10_in {n : Int} (h : -10 ≤ n ∧ n ≤ 10) : cl10 n = n := by unfold cl10; omega
theorem umul_one (u : Un) (n : Int) : uadd (umul u n) u 1 = umul u (n + 1) := uext (by simp only [uadd, umul]; grind) (by simp only [uadd, umul]; grind) (by simp only [uadd, umul]; grind) (by simp only [uadd, umul]; grind) (by simp only [uadd, umul]; grind)
theorem umul_add (u : Un) (x y : Int) : uadd (umul u x) (umul u y) 1 = umul u (x + y) := uext (by simp only [uadd, umul]; grind) (by simp only [uadd, umul]; grind) (by simp only [uadd, umul]; grind) (by simp only [uadd, umul]; grind) (by simp only [uadd, umul]; grind)
theorem umul_dist (a b : Un) (x : Int) : uadd (umul a x) (umul b x) 1 = umul (uadd a b 1) x := uext (by simp only [uadd, umul]; grind) (by simp only [uadd, umul]; grind) (by simp only [uadd, umul]; grind) (by simp only [uadd, umul]; grind) (by simp only [uadd, umul]; grind)
theorem umul_0 (u : Un) : umul u 0 = u0 := uext (by simp [umul, u0]) (by simp [umul, u0]) (by simp [umul, u0]) (by simp [umul, u0]) (by simp [umul, u0])
theorem mul9 {x : Int} {i n : Nat} (hi : i ≤ n) (h : -9 ≤ x * (n : Int) ∧ x * (n : Int) ≤ 9) : -9 ≤ x * (i : Int) ∧ x * (i : Int) ≤ 9 := by
  have h1 : x.natAbs * i ≤ x.natAbs * n := Nat.mul_le_mul_left _ hi
  have e : ∀ k : Nat, (x * (k : Int)).natAbs = x.natAbs * k := fun k => by rw [Int.natAbs_mul]; rfl
  have h2 := e i
  have h3 := e n
  omega
theorem umul_le {u : Un} {i n : Nat} (hi : i ≤ n) (h : uokU (umul u n) = true) : uokU (umul u i) = true := by
  have h := uokU_iff.1 h
  exact uokU_iff.2 ⟨mul9 hi h.1, mul9 hi h.2.1, mul9 hi h.2.2.1, mul9 hi h.2.2.2.1, mul9 hi h.2.2.2.2⟩
theorem pw_0' {u : Un} {n : Int} (h : pwE u n = 0) : uokU u = true ∧ uokU (umul u (cl10 n)) = true ∧ pwV u n = umul u (cl10 n) := by
  have hv : pwV u n = umul u (cl10 n) := by rw [pwV, h]; rfl
  unfold pwE at h
  cases hu : uokU u <;> rw [hu] at h
  · cases h
  · cases hw : uokU (umul u (cl10 n)) <;> rw [hw] at h
    · cases h
    · exact ⟨rfl, rfl, hv⟩
theorem law_powers (u : Un) (n : Int) : CallOk Tryd.prog 10 [uu u, I n] [] (Bo true) [] := by
  refine CallOk.mkN 100 Tryd.func10 rfl en10 (by simp [Tryd.ntmps10]) (ClA.of rfl) rfl rfl fun C hR hP => ?_
  simp (config := { maxSteps := 2000000 }) only [go_sem, Nat.reduceBEq, Nat.reduceAdd, Nat.reduceLT, Nat.reduceLeDiff, Nat.reduceEqDiff, reduceCtorEq, Int.reduceAdd, Int.reduceSub, Int.reduceNeg, Int.reduceLE, Int.reduceLT, Int.reduceToNat, Int.reduceBEq, Int.reduceBNe, Int.reduceEq, Int.reduceNe, Int.toNat_zero, Int.toNat_one, bne_self_eq_false, Nat.reduceMul, Nat.zero_mul, Nat.mul_one, Nat.one_mul, Nat.reduceSub, Int.cast_ofNat_Int, Int.toNat_natCast]
  refine CallQ.pure 110 awake_ rfl ?_
  simp (config := { maxSteps := 2000000 }) only [go_sem, Nat.reduceBEq, Nat.reduceAdd, Nat.reduceLT, Nat.reduceLeDiff, Nat.reduceEqDiff, reduceCtorEq, Int.reduceAdd, Int.reduceSub, Int.reduceNeg, Int.reduceLE, Int.reduceLT, Int.reduceToNat, Int.reduceBEq, Int.reduceBNe, Int.reduceEq, Int.reduceNe, Int.toNat_zero, Int.toNat_one, bne_self_eq_false, Nat.reduceMul, Nat.zero_mul, Nat.mul_one, Nat.one_mul, Nat.reduceSub, Int.cast_ofNat_Int, Int.toNat_natCast]
  refine CallQ.pure 110 (power_ u n) rfl ?_
  simp (config := { maxSteps := 2000000 }) only [go_sem, Nat.reduceBEq, Nat.reduceAdd, Nat.reduceLT, Nat.reduceLeDiff, Nat.reduceEqDiff, reduceCtorEq, Int.reduceAdd, Int.reduceSub, Int.reduceNeg, Int.reduceLE, Int.reduceLT, Int.reduceToNat, Int.reduceBEq, Int.reduceBNe, Int.reduceEq, Int.reduceNe, Int.toNat_zero, Int.toNat_one, bne_self_eq_false, Nat.reduceMul, Nat.zero_mul, Nat.mul_one, Nat.one_mul, Nat.reduceSub, Int.cast_ofNat_Int, Int.toNat_natCast]
  refine CallQ.pure 120 (rPow u n) rfl ?_
  simp (config := { maxSteps := 2000000 }) only [go_sem, Nat.reduceBEq, Nat.reduceAdd, Nat.reduceLT, Nat.reduceLeDiff, Nat.reduceEqDiff, reduceCtorEq, Int.reduceAdd, Int.reduceSub, Int.reduceNeg, Int.reduceLE, Int.reduceLT, Int.reduceToNat, Int.reduceBEq, Int.reduceBNe, Int.reduceEq, Int.reduceNe, Int.toNat_zero, Int.toNat_one, bne_self_eq_false, Nat.reduceMul, Nat.zero_mul, Nat.mul_one, Nat.one_mul, Nat.reduceSub, Int.cast_ofNat_Int, Int.toNat_natCast, beq_self_eq_true, bne_self_eq_false, Bool.and_self, Bool.and_true, Bool.not_true]
  refine mtch (fun h => ?_) (fun h => ?_)
  · exact RetQ.bool hR rfl ⟨rfl, trivial⟩ rfl
  · obtain ⟨hE, hn⟩ : pwE u n = 0 ∧ (0 ≤ n ∧ n ≤ 9) := by
      cases h1 : (pwE u n != 0) <;> rw [h1] at h <;> simp at h h1
      · exact ⟨h1, h⟩
    obtain ⟨hu, hw, hv⟩ := pw_0' hE
    rw [cl10_in (by omega)] at hw hv
    obtain ⟨k, rfl⟩ : ∃ k : Nat, n = k := ⟨n.toNat, by omega⟩
    rw [hv]
    refine CallQ.pure 130 one_ rfl ?_
    simp (config := { maxSteps := 2000000 }) only [go_sem, Nat.reduceBEq, Nat.reduceAdd, Nat.reduceLT, Nat.reduceLeDiff, Nat.reduceEqDiff, reduceCtorEq, Int.reduceAdd, Int.reduceSub, Int.reduceNeg, Int.reduceLE, Int.reduceLT, Int.reduceToNat, Int.reduceBEq, Int.reduceBNe, Int.reduceEq, Int.reduceNe, Int.toNat_zero, Int.toNat_one, bne_self_eq_false, Nat.reduceMul, Nat.zero_mul, Nat.mul_one, Nat.one_mul, Nat.reduceSub, Int.cast_ofNat_Int, Int.toNat_natCast]
    refine Sm.loopM (M0 := []) (α := { i : Nat // i ≤ k }) hP (fun i => [(2, true, .c (.p 2 0)), (5, true, .c (.p 5 0)), (9, true, .c (.p 9 0)), (45, true, I k), (46, true, I i.val)]) (fun i => [(2, ⟨false, unL u, 23⟩), (5, ⟨false, unL (umul u k), 23⟩), (9, ⟨false, unL (umul u i.val), 23⟩)]) (fun i => k - i.val) ⟨0, by omega⟩ (fun _ => ClM.of rfl) (fun _ => ClE.of rfl) [(2, 100), (5, 110), (9, 130)] ?_ ?_
    · have e0 : umul u ((0 : Nat) : Int) = u0 := umul_0 u
      simp only [e0]
      exact ⟨rfl, trivial, ⟨rfl, rfl, rfl, rfl, rfl, trivial⟩, ⟨.inr ⟨_, rfl, .inl rfl⟩, .inr ⟨_, rfl, .inl rfl⟩, .inr ⟨_, rfl, .inl rfl⟩, trivial⟩⟩
    · rintro ⟨i, hi⟩ J hb
      simp only at hb hi ⊢
      refine Sm.go 200 ?_
      simp (config := { maxSteps := 2000000 }) only [go_sem, Nat.reduceBEq, Nat.reduceAdd, Nat.reduceLT, Nat.reduceLeDiff, Nat.reduceEqDiff, reduceCtorEq, Int.reduceAdd, Int.reduceSub, Int.reduceNeg, Int.reduceLE, Int.reduceLT, Int.reduceToNat, Int.reduceBEq, Int.reduceBNe, Int.reduceEq, Int.reduceNe, Int.toNat_zero, Int.toNat_one, bne_self_eq_false, Nat.reduceMul, Nat.zero_mul, Nat.mul_one, Nat.one_mul, Nat.reduceSub, Int.cast_ofNat_Int, Int.toNat_natCast]
      refine mtch (fun hc => ?_) (fun hc => ?_)
      · have hc : i < k := by simp at hc; omega
        obtain ⟨e5, e6⟩ := cb_0 (k := 1) (umul_le (Nat.le_of_lt hc) hw) hu (by rw [umul_one]; have := umul_le (u := u) (show i + 1 ≤ k by omega) hw; simpa using this)
        have m3 := mul_ (umul u i) u
        rw [e5, e6, umul_one] at m3
        refine CallQ.pure 200 m3 rfl ?_
        simp (config := { maxSteps := 2000000 }) only [go_sem, Nat.reduceBEq, Nat.reduceAdd, Nat.reduceLT, Nat.reduceLeDiff, Nat.reduceEqDiff, reduceCtorEq, Int.reduceAdd, Int.reduceSub, Int.reduceNeg, Int.reduceLE, Int.reduceLT, Int.reduceToNat, Int.reduceBEq, Int.reduceBNe, Int.reduceEq, Int.reduceNe, Int.toNat_zero, Int.toNat_one, bne_self_eq_false, Nat.reduceMul, Nat.zero_mul, Nat.mul_one, Nat.one_mul, Nat.reduceSub, Int.cast_ofNat_Int, Int.toNat_natCast, beq_self_eq_true, bne_self_eq_false, Bool.and_self, Bool.and_true, Bool.not_true]
        have w1 : IntKind.i64.wrap ((i : Int) + 1) = ((i + 1 : Nat) : Int) := by rw [w64 (by omega) (by omega)]; omega
        have w2 : umul u ((i : Int) + 1) = umul u ((i + 1 : Nat) : Int) := by congr 1
        simp only [w1, w2]
        exact hb _ _ ⟨i + 1, hc⟩ [(2, 2), (5, 5), (9, 9)] (by simp only; omega) ⟨rfl, trivial, ⟨rfl, rfl, rfl, rfl, rfl, trivial⟩, ⟨.inr ⟨_, rfl, .inl rfl⟩, .inr ⟨_, rfl, .inl rfl⟩, .inr ⟨_, rfl, .inl rfl⟩, trivial⟩⟩
      · have hc : i = k := by simp at hc; omega
        subst hc
        simp (config := { maxSteps := 2000000 }) only [go_sem, Nat.reduceBEq, Nat.reduceAdd, Nat.reduceLT, Nat.reduceLeDiff, Nat.reduceEqDiff, reduceCtorEq, Int.reduceAdd, Int.reduceSub, Int.reduceNeg, Int.reduceLE, Int.reduceLT, Int.reduceToNat, Int.reduceBEq, Int.reduceBNe, Int.reduceEq, Int.reduceNe, Int.toNat_zero, Int.toNat_one, bne_self_eq_false, Nat.reduceMul, Nat.zero_mul, Nat.mul_one, Nat.one_mul, Nat.reduceSub, Int.cast_ofNat_Int, Int.toNat_natCast, beq_self_eq_true, bne_self_eq_false, Bool.and_self, Bool.and_true, Bool.not_true]
        exact RetQ.bool hR rfl ⟨rfl, trivial⟩ (by simp)
theorem rem10 (x : Int) (h : -128 ≤ x ∧ x ≤ 127) : -9 ≤ x.tmod 10 ∧ x.tmod 10 ≤ 9 := by
  rw [Int.tmod_eq_emod]
  split <;> omega
theorem big10 {u : Un} {n : Int} (h : uokU (umul u (cl10 n)) = true) : umul u (cl10 n) = umul u n := by
  by_cases hn : -10 ≤ n ∧ n ≤ 10
  · rw [cl10_in hn]
  · have hc : cl10 n = 10 ∨ cl10 n = -10 := by unfold cl10; omega
    have h2 := uokU_iff.1 h
    unfold umul at h2
    simp only at h2
    have h0 : u = u0 := by
      rcases hc with hc | hc <;> rw [hc] at h2
      · cases u; simp only [u0, Un.mk.injEq] at *; omega
      · cases u; simp only [u0, Un.mk.injEq] at *; omega
    rw [h0, umul_u0, umul_u0]
theorem law_laws (a b : Un) (x0 y0 : Int) (hx0 : -128 ≤ x0 ∧ x0 ≤ 127) (hy0 : -128 ≤ y0 ∧ y0 ≤ 127) : CallOk Tryd.prog 11 [uu a, uu b, .c (.v (.int .i8 x0)), .c (.v (.int .i8 y0))] [] (Bo true) [] := by
  have q1 : IntKind.i64.wrap x0 = x0 := w64 (by omega) (by omega)
  have q2 : IntKind.i64.wrap y0 = y0 := w64 (by omega) (by omega)
  have hx := rem10 x0 hx0
  have hy := rem10 y0 hy0
  generalize hxx : x0.tmod 10 = x at *
  generalize hyy : y0.tmod 10 = y at *
  have q3 : IntKind.i64.wrap (x + y) = x + y := w64 (by omega) (by omega)
  refine CallOk.mkN 100 Tryd.func11 rfl en11 (by simp [Tryd.ntmps11]) (ClA.of rfl) rfl rfl fun C hR hP => ?_
  simp (config := { maxSteps := 2000000 }) only [go_sem, Nat.reduceBEq, Nat.reduceAdd, Nat.reduceLT, Nat.reduceLeDiff, Nat.reduceEqDiff, reduceCtorEq, Int.reduceAdd, Int.reduceSub, Int.reduceNeg, Int.reduceLE, Int.reduceLT, Int.reduceToNat, Int.reduceBEq, Int.reduceBNe, Int.reduceEq, Int.reduceNe, Int.toNat_zero, Int.toNat_one, bne_self_eq_false, Nat.reduceMul, Nat.zero_mul, Nat.mul_one, Nat.one_mul, Nat.reduceSub, Int.cast_ofNat_Int, Int.toNat_natCast]
  refine CallQ.pure 110 awake_ rfl ?_
  simp (config := { maxSteps := 2000000 }) only [go_sem, Nat.reduceBEq, Nat.reduceAdd, Nat.reduceLT, Nat.reduceLeDiff, Nat.reduceEqDiff, reduceCtorEq, Int.reduceAdd, Int.reduceSub, Int.reduceNeg, Int.reduceLE, Int.reduceLT, Int.reduceToNat, Int.reduceBEq, Int.reduceBNe, Int.reduceEq, Int.reduceNe, Int.toNat_zero, Int.toNat_one, bne_self_eq_false, Nat.reduceMul, Nat.zero_mul, Nat.mul_one, Nat.one_mul, Nat.reduceSub, Int.cast_ofNat_Int, Int.toNat_natCast, q1, q2, hxx, hyy]
  refine CallQ.pure 110 (power_ a x) rfl ?_
  simp (config := { maxSteps := 2000000 }) only [go_sem, Nat.reduceBEq, Nat.reduceAdd, Nat.reduceLT, Nat.reduceLeDiff, Nat.reduceEqDiff, reduceCtorEq, Int.reduceAdd, Int.reduceSub, Int.reduceNeg, Int.reduceLE, Int.reduceLT, Int.reduceToNat, Int.reduceBEq, Int.reduceBNe, Int.reduceEq, Int.reduceNe, Int.toNat_zero, Int.toNat_one, bne_self_eq_false, Nat.reduceMul, Nat.zero_mul, Nat.mul_one, Nat.one_mul, Nat.reduceSub, Int.cast_ofNat_Int, Int.toNat_natCast]
  refine CallQ.pure 120 (power_ a y) rfl ?_
  simp (config := { maxSteps := 2000000 }) only [go_sem, Nat.reduceBEq, Nat.reduceAdd, Nat.reduceLT, Nat.reduceLeDiff, Nat.reduceEqDiff, reduceCtorEq, Int.reduceAdd, Int.reduceSub, Int.reduceNeg, Int.reduceLE, Int.reduceLT, Int.reduceToNat, Int.reduceBEq, Int.reduceBNe, Int.reduceEq, Int.reduceNe, Int.toNat_zero, Int.toNat_one, bne_self_eq_false, Nat.reduceMul, Nat.zero_mul, Nat.mul_one, Nat.one_mul, Nat.reduceSub, Int.cast_ofNat_Int, Int.toNat_natCast, q3]
  refine CallQ.pure 130 (power_ a (x + y)) rfl ?_
  simp (config := { maxSteps := 2000000 }) only [go_sem, Nat.reduceBEq, Nat.reduceAdd, Nat.reduceLT, Nat.reduceLeDiff, Nat.reduceEqDiff, reduceCtorEq, Int.reduceAdd, Int.reduceSub, Int.reduceNeg, Int.reduceLE, Int.reduceLT, Int.reduceToNat, Int.reduceBEq, Int.reduceBNe, Int.reduceEq, Int.reduceNe, Int.toNat_zero, Int.toNat_one, bne_self_eq_false, Nat.reduceMul, Nat.zero_mul, Nat.mul_one, Nat.one_mul, Nat.reduceSub, Int.cast_ofNat_Int, Int.toNat_natCast, beq_self_eq_true, bne_self_eq_false, Bool.and_self, Bool.and_true, Bool.not_true]
  refine mtch (fun h => ?_) (fun h => ?_)
  · refine CallQ.guard 140 (fun _ => uvalidU a) (fun h => by rw [h]; rfl) ?_
    simp (config := { maxSteps := 2000000 }) only [go_sem, Nat.reduceBEq, Nat.reduceAdd, Nat.reduceLT, Nat.reduceLeDiff, Nat.reduceEqDiff, reduceCtorEq, Int.reduceAdd, Int.reduceSub, Int.reduceNeg, Int.reduceLE, Int.reduceLT, Int.reduceToNat, Int.reduceBEq, Int.reduceBNe, Int.reduceEq, Int.reduceNe, Int.toNat_zero, Int.toNat_one, bne_self_eq_false, Nat.reduceMul, Nat.zero_mul, Nat.mul_one, Nat.one_mul, Nat.reduceSub, Int.cast_ofNat_Int, Int.toNat_natCast]
    refine RetQ.bool hR rfl ⟨rfl, trivial⟩ ?_
    cases hu : uokU a with
    | false => simp
    | true =>
      have : (pwE a x != 1) = true := by
        unfold pwE; rw [hu]
        cases uokU (umul a (cl10 x)) <;> rfl
      rw [this]; rfl
  · obtain ⟨h1, h2, h3⟩ : pwE a x = 0 ∧ pwE a y = 0 ∧ pwE a (x + y) = 0 := by
      cases g1 : (pwE a x != 0) <;> rw [g1] at h <;> simp at h g1
      exact ⟨g1, h⟩
    obtain ⟨ha, p1, v1⟩ := pw_0' h1
    obtain ⟨_, p2, v2⟩ := pw_0' h2
    obtain ⟨_, p3, v3⟩ := pw_0' h3
    rw [cl10_in (by omega)] at p1 v1 p2 v2
    have hb3 := big10 p3
    rw [hb3] at p3 v3
    rw [v1, v2, v3]
    obtain ⟨e1, e2⟩ := cb_0 (k := 1) p1 p2 (by rw [umul_add]; exact p3)
    have m1 := mul_ (umul a x) (umul a y)
    rw [e1, e2, umul_add] at m1
    refine CallQ.pure 150 m1 rfl ?_
    simp (config := { maxSteps := 2000000 }) only [go_sem, Nat.reduceBEq, Nat.reduceAdd, Nat.reduceLT, Nat.reduceLeDiff, Nat.reduceEqDiff, reduceCtorEq, Int.reduceAdd, Int.reduceSub, Int.reduceNeg, Int.reduceLE, Int.reduceLT, Int.reduceToNat, Int.reduceBEq, Int.reduceBNe, Int.reduceEq, Int.reduceNe, Int.toNat_zero, Int.toNat_one, bne_self_eq_false, Nat.reduceMul, Nat.zero_mul, Nat.mul_one, Nat.one_mul, Nat.reduceSub, Int.cast_ofNat_Int, Int.toNat_natCast, beq_self_eq_true, bne_self_eq_false, Bool.and_self, Bool.and_true, Bool.not_true]
    refine CallQ.pure 160 (mul_ a b) rfl ?_
    simp (config := { maxSteps := 2000000 }) only [go_sem, Nat.reduceBEq, Nat.reduceAdd, Nat.reduceLT, Nat.reduceLeDiff, Nat.reduceEqDiff, reduceCtorEq, Int.reduceAdd, Int.reduceSub, Int.reduceNeg, Int.reduceLE, Int.reduceLT, Int.reduceToNat, Int.reduceBEq, Int.reduceBNe, Int.reduceEq, Int.reduceNe, Int.toNat_zero, Int.toNat_one, bne_self_eq_false, Nat.reduceMul, Nat.zero_mul, Nat.mul_one, Nat.one_mul, Nat.reduceSub, Int.cast_ofNat_Int, Int.toNat_natCast]
    refine CallQ.pure 170 (power_ b x) rfl ?_
    simp (config := { maxSteps := 2000000 }) only [go_sem, Nat.reduceBEq, Nat.reduceAdd, Nat.reduceLT, Nat.reduceLeDiff, Nat.reduceEqDiff, reduceCtorEq, Int.reduceAdd, Int.reduceSub, Int.reduceNeg, Int.reduceLE, Int.reduceLT, Int.reduceToNat, Int.reduceBEq, Int.reduceBNe, Int.reduceEq, Int.reduceNe, Int.toNat_zero, Int.toNat_one, bne_self_eq_false, Nat.reduceMul, Nat.zero_mul, Nat.mul_one, Nat.one_mul, Nat.reduceSub, Int.cast_ofNat_Int, Int.toNat_natCast]
    refine mtch (fun h => ?_) (fun h => ?_)
    · exact RetQ.bool hR rfl ⟨rfl, trivial⟩ rfl
    · obtain ⟨g1, g2⟩ : cbE a b 1 = 0 ∧ pwE b x = 0 := by
        cases g1 : (cbE a b 1 != 0) <;> rw [g1] at h <;> simp at h g1
        exact ⟨g1, h⟩
      obtain ⟨_, hb, hab, hv⟩ := cb_0' g1
      obtain ⟨_, p4, v4⟩ := pw_0' g2
      rw [cl10_in (by omega)] at p4 v4
      rw [hv, v4]
      have hE : cbE (umul a x) (umul b x) 1 = pwE (uadd a b 1) x := by
        rw [cb_ok p1 p4, umul_dist]
        unfold pwE
        rw [hab, cl10_in (by omega)]; rfl
      have hV : cbV (umul a x) (umul b x) 1 = pwV (uadd a b 1) x := by
        unfold cbV pwV
        rw [hE, umul_dist, cl10_in (by omega)]
      have m5 := mul_ (umul a x) (umul b x)
      rw [hE, hV] at m5
      refine CallQ.pure 180 (power_ (uadd a b 1) x) rfl ?_
      simp (config := { maxSteps := 2000000 }) only [go_sem, Nat.reduceBEq, Nat.reduceAdd, Nat.reduceLT, Nat.reduceLeDiff, Nat.reduceEqDiff, reduceCtorEq, Int.reduceAdd, Int.reduceSub, Int.reduceNeg, Int.reduceLE, Int.reduceLT, Int.reduceToNat, Int.reduceBEq, Int.reduceBNe, Int.reduceEq, Int.reduceNe, Int.toNat_zero, Int.toNat_one, bne_self_eq_false, Nat.reduceMul, Nat.zero_mul, Nat.mul_one, Nat.one_mul, Nat.reduceSub, Int.cast_ofNat_Int, Int.toNat_natCast]
      refine CallQ.pure 190 m5 rfl ?_
      simp (config := { maxSteps := 2000000 }) only [go_sem, Nat.reduceBEq, Nat.reduceAdd, Nat.reduceLT, Nat.reduceLeDiff, Nat.reduceEqDiff, reduceCtorEq, Int.reduceAdd, Int.reduceSub, Int.reduceNeg, Int.reduceLE, Int.reduceLT, Int.reduceToNat, Int.reduceBEq, Int.reduceBNe, Int.reduceEq, Int.reduceNe, Int.toNat_zero, Int.toNat_one, bne_self_eq_false, Nat.reduceMul, Nat.zero_mul, Nat.mul_one, Nat.one_mul, Nat.reduceSub, Int.cast_ofNat_Int, Int.toNat_natCast, beq_self_eq_true, bne_self_eq_false, Bool.and_self, Bool.and_true, Bool.not_true]
      exact RetQ.bool hR rfl ⟨rfl, trivial⟩ (by simp)
end Go.Proofs.YtpahigegcbdleaaDoor.Fx
