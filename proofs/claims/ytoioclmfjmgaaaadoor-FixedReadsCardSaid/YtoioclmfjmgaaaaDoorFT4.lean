/- magnetoref03.Text. -/
import Derived.Test.YtoioclmfjmgaaaaDoorFT3
namespace Go.Proofs.YtoioclmfjmgaaaaDoor.Fx
open Vg Tf
set_option linter.unusedSimpArgs false
set_option linter.unusedVariables false
set_option maxRecDepth 100000
set_option maxHeartbeats 4000000
theorem itoa_pos {n : Int} (h : 0 ≤ n) : Lib.itoa n = Lib.decDigits n.toNat := by rw [Lib.itoa, if_neg (by omega)]
theorem rdecI (n : Int) (h0 : 0 ≤ n) (h1 : n ≤ 9000000000000000) : CallOk Tryd.prog 55 [I n, I 1] [] (S (Lib.itoa n)) [] := by
  rw [itoa_pos h0]
  have := rdec_ n.toNat 1 _ (by omega) (by omega) (rd_one n.toNat)
  rwa [show ((n.toNat : Nat) : Int) = n by omega] at this
theorem rdecP (n : Int) (k : Nat) (h0 : 0 ≤ n) (h1 : n < ((10 ^ k : Nat) : Int)) (hk : k ≤ 6) : CallOk Tryd.prog 55 [I n, I k] [] (S ((Lib.itoa (((10 ^ k : Nat) : Int) + n)).drop 1)) [] := by
  have hT : 0 < 10 ^ k := Nat.pow_pos (by omega)
  have hT2 : 10 ^ k ≤ 10 ^ 6 := Nat.pow_le_pow_right (by omega) hk
  rw [itoa_pos (by omega)]
  have hp := rd_pad k k n.toNat [] (by omega) (by simp)
  rw [List.append_nil] at hp
  have := rdec_ n.toNat k _ (by omega) (by omega) hp
  rw [show ((n.toNat : Nat) : Int) = n by omega, show 10 ^ k + n.toNat = (((10 ^ k : Nat) : Int) + n).toNat by omega] at this
  exact this
theorem rntext_ (t : Ft) (raw : Int) (k : Nat) (hk : k ≤ 6) (h : fok t = true) (hw : fin t raw = true) : CallOk Tryd.prog 18 [fx t, I raw, I k] [] (S (fnT t raw k)) [] := by
  have hb := fok_bd h
  have hn := fnu_bd h hw
  have hr1 := Int.emod_nonneg (fnu t raw) (show t.den ≠ 0 by omega)
  have hr2 := Int.emod_lt_of_pos (fnu t raw) (show 0 < t.den by omega)
  have hT : 0 < 10 ^ k := Nat.pow_pos (by omega)
  have hT2 : 10 ^ k ≤ 10 ^ 6 := Nat.pow_le_pow_right (by omega) hk
  have w1 : IntKind.i64.wrap (raw * t.num) = raw * t.num := w64 (by omega) (by omega)
  have w2 : IntKind.i64.wrap (raw * t.num + t.off) = fnu t raw := w64 (by unfold fnu at hn; omega) (by unfold fnu at hn; omega)
  refine CallOk.mkN 100 Tryd.func18 rfl en18 (by simp [Tryd.ntmps18]) (ClA.of rfl) rfl rfl fun C hR hP => ?_
  simp (config := { maxSteps := 2000000 }) only [go_sem, Nat.reduceBEq, Nat.reduceAdd, Nat.reduceLT, Nat.reduceLeDiff, Nat.reduceEqDiff, reduceCtorEq, Int.reduceAdd, Int.reduceSub, Int.reduceNeg, Int.reduceLE, Int.reduceLT, Int.reduceToNat, Int.reduceBEq, Int.reduceBNe, Int.reduceEq, Int.reduceNe, Int.toNat_zero, Int.toNat_one, bne_self_eq_false, Nat.reduceMul, Nat.zero_mul, Nat.mul_one, Nat.one_mul, Nat.reduceSub, Int.cast_ofNat_Int, Int.toNat_natCast]
  refine CallQ.pure 110 (rpow_ k hk) rfl ?_
  simp (config := { maxSteps := 2000000 }) only [go_sem, Nat.reduceBEq, Nat.reduceAdd, Nat.reduceLT, Nat.reduceLeDiff, Nat.reduceEqDiff, reduceCtorEq, Int.reduceAdd, Int.reduceSub, Int.reduceNeg, Int.reduceLE, Int.reduceLT, Int.reduceToNat, Int.reduceBEq, Int.reduceBNe, Int.reduceEq, Int.reduceNe, Int.toNat_zero, Int.toNat_one, bne_self_eq_false, Nat.reduceMul, Nat.zero_mul, Nat.mul_one, Nat.one_mul, Nat.reduceSub, Int.cast_ofNat_Int, Int.toNat_natCast, w1, w2]
  refine CallQ.pure 120 (rfloor (fnu t raw) t.den (by omega) (by omega) (by omega) (by omega)) rfl ?_
  simp (config := { maxSteps := 2000000 }) only [go_sem, Nat.reduceBEq, Nat.reduceAdd, Nat.reduceLT, Nat.reduceLeDiff, Nat.reduceEqDiff, reduceCtorEq, Int.reduceAdd, Int.reduceSub, Int.reduceNeg, Int.reduceLE, Int.reduceLT, Int.reduceToNat, Int.reduceBEq, Int.reduceBNe, Int.reduceEq, Int.reduceNe, Int.toNat_zero, Int.toNat_one, bne_self_eq_false, Nat.reduceMul, Nat.zero_mul, Nat.mul_one, Nat.one_mul, Nat.reduceSub, Int.cast_ofNat_Int, Int.toNat_natCast]
  have hx0 := fx0_bd (raw := raw) h hk
  have hem := Int.mul_ediv_add_emod (fnu t raw) t.den
  have e1 : fnu t raw / t.den * t.den = fnu t raw - fnu t raw % t.den := by rw [Int.mul_comm]; omega
  have w3 : IntKind.i64.wrap (2 * ((10 ^ k : Nat) : Int)) = 2 * ((10 ^ k : Nat) : Int) := w64 (by omega) (by omega)
  have w4 : IntKind.i64.wrap (fnu t raw / t.den * t.den) = fnu t raw - fnu t raw % t.den := by rw [e1]; exact w64 (by omega) (by omega)
  have w5 : IntKind.i64.wrap (fnu t raw - (fnu t raw - fnu t raw % t.den)) = fnu t raw % t.den := by rw [w64 (by omega) (by omega)]; omega
  have e2 : 2 * ((10 ^ k : Nat) : Int) * (fnu t raw % t.den) = 2 * (fnu t raw % t.den * ((10 ^ k : Nat) : Int)) := by rw [Int.mul_assoc, Int.mul_comm ((10 ^ k : Nat) : Int)]
  have hprod : 0 ≤ fnu t raw % t.den * ((10 ^ k : Nat) : Int) ∧ fnu t raw % t.den * ((10 ^ k : Nat) : Int) ≤ 1048576 * 1000000 :=
    ⟨Int.mul_nonneg hr1 (by omega), Int.mul_le_mul (by omega) (by omega) (by omega) (by omega)⟩
  have w6 : IntKind.i64.wrap (2 * ((10 ^ k : Nat) : Int) * (fnu t raw % t.den)) = 2 * (fnu t raw % t.den * ((10 ^ k : Nat) : Int)) := by rw [e2]; exact w64 (by omega) (by omega)
  have w7 : IntKind.i64.wrap (2 * (fnu t raw % t.den * ((10 ^ k : Nat) : Int)) + t.den) = 2 * (fnu t raw % t.den * ((10 ^ k : Nat) : Int)) + t.den := w64 (by omega) (by omega)
  have w8 : IntKind.i64.wrap (2 * t.den) = 2 * t.den := w64 (by omega) (by omega)
  rw [w3, w4, w5, w6, w7, w8]
  refine CallQ.pure 130 (rfloor _ _ (by omega) (by omega) (by omega) (by omega)) rfl ?_
  rw [show (2 * (fnu t raw % t.den * ((10 ^ k : Nat) : Int)) + t.den) / (2 * t.den) = fx0 t raw k from rfl]
  simp (config := { maxSteps := 2000000 }) only [go_sem, Nat.reduceBEq, Nat.reduceAdd, Nat.reduceLT, Nat.reduceLeDiff, Nat.reduceEqDiff, reduceCtorEq, Int.reduceAdd, Int.reduceSub, Int.reduceNeg, Int.reduceLE, Int.reduceLT, Int.reduceToNat, Int.reduceBEq, Int.reduceBNe, Int.reduceEq, Int.reduceNe, Int.toNat_zero, Int.toNat_one, bne_self_eq_false, Nat.reduceMul, Nat.zero_mul, Nat.mul_one, Nat.one_mul, Nat.reduceSub, Int.cast_ofNat_Int, Int.toNat_natCast]
  have hqb : -4503600701112320 ≤ fnu t raw / t.den ∧ fnu t raw / t.den ≤ 4503600701112320 := by
    have := quo_bd (fnu t raw) t.den (by omega)
    omega
  have wq : IntKind.i64.wrap (fnu t raw / t.den + 1) = fnu t raw / t.den + 1 := w64 (by omega) (by omega)
  have hf1 : fq1 t raw k = if fx0 t raw k = ((10 ^ k : Nat) : Int) then fnu t raw / t.den + 1 else fnu t raw / t.den := rfl
  have hf2 : fx1 t raw k = if fx0 t raw k = ((10 ^ k : Nat) : Int) then 0 else fx0 t raw k := rfl
  have hf3 : fq2 t raw k = if fq1 t raw k < 0 then (if 0 < fx1 t raw k then -fq1 t raw k - 1 else -fq1 t raw k) else fq1 t raw k := rfl
  have hf4 : fx2 t raw k = if fq1 t raw k < 0 ∧ 0 < fx1 t raw k then ((10 ^ k : Nat) : Int) - fx1 t raw k else fx1 t raw k := rfl
  have hres : fnT t raw k = ((if fq1 t raw k < 0 then [45] else []) ++ Lib.itoa (fq2 t raw k)) ++ (if k = 0 then [] else 46 :: (Lib.itoa (((10 ^ k : Nat) : Int) + fx2 t raw k)).drop 1) := rfl
  clear w1 w2 w3 w4 w5 w6 w7 w8 e1 e2 hem
  generalize fq2 t raw k = q2 at *
  generalize fx2 t raw k = x2 at *
  generalize fq1 t raw k = q1 at *
  generalize fx1 t raw k = x1 at *
  generalize fnT t raw k = res at *
  generalize fx0 t raw k = x0 at *
  have hqq : -4503600701112320 ≤ q1 ∧ q1 ≤ 4503600701112321 := by rw [hf1]; split <;> omega
  have hxx : 0 ≤ x1 ∧ x1 < ((10 ^ k : Nat) : Int) := by rw [hf2]; split <;> omega
  have w1 : IntKind.i64.wrap q1 = q1 := w64 (by omega) (by omega)
  have wn : IntKind.i64.wrap (0 - q1) = 0 - q1 := w64 (by omega) (by omega)
  refine mtch (fun hc => ?_) (fun hc => ?_)
  · have hc : x0 = ((10 ^ k : Nat) : Int) := by simpa using hc
    rw [if_pos hc] at hf1 hf2
    subst hf2
    rw [← hf1] at wq ⊢
    simp only [w1]
    clear hf1 wq hqb
    refine mtch (fun hg => ?_) (fun hg => ?_)
    · have hg : q1 < 0 := by have := of_decide_eq_true hg; omega
      rw [if_pos hg, if_neg (by omega)] at hf3
      rw [if_neg (by omega)] at hf4
      rw [if_pos hg, hf3, hf4] at hres
      simp only [wn]
      rw [show -q1 = 0 - q1 by omega] at hres
      refine CallQ.pure 160 (rdecI (0 - q1) (by omega) (by omega)) rfl ?_
      simp (config := { maxSteps := 2000000 }) only [go_sem, Nat.reduceBEq, Nat.reduceAdd, Nat.reduceLT, Nat.reduceLeDiff, Nat.reduceEqDiff, reduceCtorEq, Int.reduceAdd, Int.reduceSub, Int.reduceNeg, Int.reduceLE, Int.reduceLT, Int.reduceToNat, Int.reduceBEq, Int.reduceBNe, Int.reduceEq, Int.reduceNe, Int.toNat_zero, Int.toNat_one, bne_self_eq_false, Nat.reduceMul, Nat.zero_mul, Nat.mul_one, Nat.one_mul, Nat.reduceSub, Int.cast_ofNat_Int, Int.toNat_natCast, List.length_cons]
      have hil := itoa_len (0 - q1) (by omega) (by omega)
      refine ⟨by omega, ?_⟩
      refine mtch (fun h0 => ?_) (fun h0 => ?_)
      · have h0 : k ≠ 0 := by have := of_decide_eq_true h0; omega
        rw [if_neg h0] at hres
        rw [hres] at hR
        refine ⟨by omega, ?_⟩
        refine CallQ.pure 180 (rdecP (0) k (by omega) (by omega) hk) rfl ?_
        have hil2 := itoa_len (((10 ^ k : Nat) : Int) + 0) (by omega) (by omega)
        generalize Lib.itoa (((10 ^ k : Nat) : Int) + 0) = L2 at *
        simp (config := { maxSteps := 2000000 }) only [go_sem, Nat.reduceBEq, Nat.reduceAdd, Nat.reduceLT, Nat.reduceLeDiff, Nat.reduceEqDiff, reduceCtorEq, Int.reduceAdd, Int.reduceSub, Int.reduceNeg, Int.reduceLE, Int.reduceLT, Int.reduceToNat, Int.reduceBEq, Int.reduceBNe, Int.reduceEq, Int.reduceNe, Int.toNat_zero, Int.toNat_one, bne_self_eq_false, Nat.reduceMul, Nat.zero_mul, Nat.mul_one, Nat.one_mul, Nat.reduceSub, Int.cast_ofNat_Int, Int.toNat_natCast, List.length_append, List.length_cons, List.length_drop]
        refine ⟨by omega, ?_⟩
        exact RetQ.of hR rfl ⟨rfl, trivial⟩ (by simp [V.toW, W.toV]) (Sub.nil _) ClM.nil (ClV.of rfl)
      · have h0 : k = 0 := by have := of_decide_eq_false h0; omega
        rw [if_pos h0] at hres
        rw [hres] at hR
        exact RetQ.of hR rfl ⟨rfl, trivial⟩ (by simp [V.toW, W.toV]) (Sub.nil _) ClM.nil (ClV.of rfl)
    · have hg : ¬ q1 < 0 := by have := of_decide_eq_false hg; omega
      rw [if_neg hg] at hf3
      rw [if_neg (by omega)] at hf4
      rw [if_neg hg, hf3, hf4] at hres
      refine CallQ.pure 160 (rdecI (q1) (by omega) (by omega)) rfl ?_
      simp (config := { maxSteps := 2000000 }) only [go_sem, Nat.reduceBEq, Nat.reduceAdd, Nat.reduceLT, Nat.reduceLeDiff, Nat.reduceEqDiff, reduceCtorEq, Int.reduceAdd, Int.reduceSub, Int.reduceNeg, Int.reduceLE, Int.reduceLT, Int.reduceToNat, Int.reduceBEq, Int.reduceBNe, Int.reduceEq, Int.reduceNe, Int.toNat_zero, Int.toNat_one, bne_self_eq_false, Nat.reduceMul, Nat.zero_mul, Nat.mul_one, Nat.one_mul, Nat.reduceSub, Int.cast_ofNat_Int, Int.toNat_natCast, List.length_cons]
      have hil := itoa_len (q1) (by omega) (by omega)
      refine ⟨by omega, ?_⟩
      refine mtch (fun h0 => ?_) (fun h0 => ?_)
      · have h0 : k ≠ 0 := by have := of_decide_eq_true h0; omega
        rw [if_neg h0] at hres
        rw [hres] at hR
        refine ⟨by omega, ?_⟩
        refine CallQ.pure 180 (rdecP (0) k (by omega) (by omega) hk) rfl ?_
        have hil2 := itoa_len (((10 ^ k : Nat) : Int) + 0) (by omega) (by omega)
        generalize Lib.itoa (((10 ^ k : Nat) : Int) + 0) = L2 at *
        simp (config := { maxSteps := 2000000 }) only [go_sem, Nat.reduceBEq, Nat.reduceAdd, Nat.reduceLT, Nat.reduceLeDiff, Nat.reduceEqDiff, reduceCtorEq, Int.reduceAdd, Int.reduceSub, Int.reduceNeg, Int.reduceLE, Int.reduceLT, Int.reduceToNat, Int.reduceBEq, Int.reduceBNe, Int.reduceEq, Int.reduceNe, Int.toNat_zero, Int.toNat_one, bne_self_eq_false, Nat.reduceMul, Nat.zero_mul, Nat.mul_one, Nat.one_mul, Nat.reduceSub, Int.cast_ofNat_Int, Int.toNat_natCast, List.length_append, List.length_cons, List.length_drop]
        refine ⟨by omega, ?_⟩
        exact RetQ.of hR rfl ⟨rfl, trivial⟩ (by simp [V.toW, W.toV]) (Sub.nil _) ClM.nil (ClV.of rfl)
      · have h0 : k = 0 := by have := of_decide_eq_false h0; omega
        rw [if_pos h0] at hres
        rw [hres] at hR
        exact RetQ.of hR rfl ⟨rfl, trivial⟩ (by simp [V.toW, W.toV]) (Sub.nil _) ClM.nil (ClV.of rfl)
  · have hc : ¬ x0 = ((10 ^ k : Nat) : Int) := by simpa using hc
    rw [if_neg hc] at hf1 hf2
    subst hf2
    rw [← hf1]
    clear hf1 wq hqb
    refine mtch (fun hg => ?_) (fun hg => ?_)
    · have hg : q1 < 0 := by have := of_decide_eq_true hg; omega
      rw [if_pos hg] at hf3 hres
      refine mtch (fun hp => ?_) (fun hp => ?_)
      · have hp : 0 < x1 := by have := of_decide_eq_true hp; omega
        rw [if_pos hp] at hf3
        rw [if_pos ⟨hg, hp⟩] at hf4
        rw [hf3, hf4] at hres
        rw [show -q1 - 1 = 0 - q1 - 1 by omega] at hres
        have wn2 : IntKind.i64.wrap (0 - q1 - 1) = 0 - q1 - 1 := w64 (by omega) (by omega)
        have wn3 : IntKind.i64.wrap (((10 ^ k : Nat) : Int) - x1) = ((10 ^ k : Nat) : Int) - x1 := w64 (by omega) (by omega)
        simp only [wn, wn2, wn3]
        refine CallQ.pure 160 (rdecI (0 - q1 - 1) (by omega) (by omega)) rfl ?_
        simp (config := { maxSteps := 2000000 }) only [go_sem, Nat.reduceBEq, Nat.reduceAdd, Nat.reduceLT, Nat.reduceLeDiff, Nat.reduceEqDiff, reduceCtorEq, Int.reduceAdd, Int.reduceSub, Int.reduceNeg, Int.reduceLE, Int.reduceLT, Int.reduceToNat, Int.reduceBEq, Int.reduceBNe, Int.reduceEq, Int.reduceNe, Int.toNat_zero, Int.toNat_one, bne_self_eq_false, Nat.reduceMul, Nat.zero_mul, Nat.mul_one, Nat.one_mul, Nat.reduceSub, Int.cast_ofNat_Int, Int.toNat_natCast, List.length_cons]
        have hil := itoa_len (0 - q1 - 1) (by omega) (by omega)
        refine ⟨by omega, ?_⟩
        refine mtch (fun h0 => ?_) (fun h0 => ?_)
        · have h0 : k ≠ 0 := by have := of_decide_eq_true h0; omega
          rw [if_neg h0] at hres
          rw [hres] at hR
          refine ⟨by omega, ?_⟩
          refine CallQ.pure 180 (rdecP ((((10 ^ k : Nat) : Int) - x1)) k (by omega) (by omega) hk) rfl ?_
          have hil2 := itoa_len (((10 ^ k : Nat) : Int) + (((10 ^ k : Nat) : Int) - x1)) (by omega) (by omega)
          generalize Lib.itoa (((10 ^ k : Nat) : Int) + (((10 ^ k : Nat) : Int) - x1)) = L2 at *
          simp (config := { maxSteps := 2000000 }) only [go_sem, Nat.reduceBEq, Nat.reduceAdd, Nat.reduceLT, Nat.reduceLeDiff, Nat.reduceEqDiff, reduceCtorEq, Int.reduceAdd, Int.reduceSub, Int.reduceNeg, Int.reduceLE, Int.reduceLT, Int.reduceToNat, Int.reduceBEq, Int.reduceBNe, Int.reduceEq, Int.reduceNe, Int.toNat_zero, Int.toNat_one, bne_self_eq_false, Nat.reduceMul, Nat.zero_mul, Nat.mul_one, Nat.one_mul, Nat.reduceSub, Int.cast_ofNat_Int, Int.toNat_natCast, List.length_append, List.length_cons, List.length_drop]
          refine ⟨by omega, ?_⟩
          exact RetQ.of hR rfl ⟨rfl, trivial⟩ (by simp [V.toW, W.toV]) (Sub.nil _) ClM.nil (ClV.of rfl)
        · have h0 : k = 0 := by have := of_decide_eq_false h0; omega
          rw [if_pos h0] at hres
          rw [hres] at hR
          exact RetQ.of hR rfl ⟨rfl, trivial⟩ (by simp [V.toW, W.toV]) (Sub.nil _) ClM.nil (ClV.of rfl)
      · have hp : ¬ 0 < x1 := by have := of_decide_eq_false hp; omega
        rw [if_neg hp] at hf3
        rw [if_neg (by omega)] at hf4
        rw [hf3, hf4] at hres
        simp only [wn]
        rw [show -q1 = 0 - q1 by omega] at hres
        refine CallQ.pure 160 (rdecI (0 - q1) (by omega) (by omega)) rfl ?_
        simp (config := { maxSteps := 2000000 }) only [go_sem, Nat.reduceBEq, Nat.reduceAdd, Nat.reduceLT, Nat.reduceLeDiff, Nat.reduceEqDiff, reduceCtorEq, Int.reduceAdd, Int.reduceSub, Int.reduceNeg, Int.reduceLE, Int.reduceLT, Int.reduceToNat, Int.reduceBEq, Int.reduceBNe, Int.reduceEq, Int.reduceNe, Int.toNat_zero, Int.toNat_one, bne_self_eq_false, Nat.reduceMul, Nat.zero_mul, Nat.mul_one, Nat.one_mul, Nat.reduceSub, Int.cast_ofNat_Int, Int.toNat_natCast, List.length_cons]
        have hil := itoa_len (0 - q1) (by omega) (by omega)
        refine ⟨by omega, ?_⟩
        refine mtch (fun h0 => ?_) (fun h0 => ?_)
        · have h0 : k ≠ 0 := by have := of_decide_eq_true h0; omega
          rw [if_neg h0] at hres
          rw [hres] at hR
          refine ⟨by omega, ?_⟩
          refine CallQ.pure 180 (rdecP (x1) k (by omega) (by omega) hk) rfl ?_
          have hil2 := itoa_len (((10 ^ k : Nat) : Int) + x1) (by omega) (by omega)
          generalize Lib.itoa (((10 ^ k : Nat) : Int) + x1) = L2 at *
          simp (config := { maxSteps := 2000000 }) only [go_sem, Nat.reduceBEq, Nat.reduceAdd, Nat.reduceLT, Nat.reduceLeDiff, Nat.reduceEqDiff, reduceCtorEq, Int.reduceAdd, Int.reduceSub, Int.reduceNeg, Int.reduceLE, Int.reduceLT, Int.reduceToNat, Int.reduceBEq, Int.reduceBNe, Int.reduceEq, Int.reduceNe, Int.toNat_zero, Int.toNat_one, bne_self_eq_false, Nat.reduceMul, Nat.zero_mul, Nat.mul_one, Nat.one_mul, Nat.reduceSub, Int.cast_ofNat_Int, Int.toNat_natCast, List.length_append, List.length_cons, List.length_drop]
          refine ⟨by omega, ?_⟩
          exact RetQ.of hR rfl ⟨rfl, trivial⟩ (by simp [V.toW, W.toV]) (Sub.nil _) ClM.nil (ClV.of rfl)
        · have h0 : k = 0 := by have := of_decide_eq_false h0; omega
          rw [if_pos h0] at hres
          rw [hres] at hR
          exact RetQ.of hR rfl ⟨rfl, trivial⟩ (by simp [V.toW, W.toV]) (Sub.nil _) ClM.nil (ClV.of rfl)
    · have hg : ¬ q1 < 0 := by have := of_decide_eq_false hg; omega
      rw [if_neg hg] at hf3
      rw [if_neg (by omega)] at hf4
      rw [if_neg hg, hf3, hf4] at hres
      refine CallQ.pure 160 (rdecI (q1) (by omega) (by omega)) rfl ?_
      simp (config := { maxSteps := 2000000 }) only [go_sem, Nat.reduceBEq, Nat.reduceAdd, Nat.reduceLT, Nat.reduceLeDiff, Nat.reduceEqDiff, reduceCtorEq, Int.reduceAdd, Int.reduceSub, Int.reduceNeg, Int.reduceLE, Int.reduceLT, Int.reduceToNat, Int.reduceBEq, Int.reduceBNe, Int.reduceEq, Int.reduceNe, Int.toNat_zero, Int.toNat_one, bne_self_eq_false, Nat.reduceMul, Nat.zero_mul, Nat.mul_one, Nat.one_mul, Nat.reduceSub, Int.cast_ofNat_Int, Int.toNat_natCast, List.length_cons]
      have hil := itoa_len (q1) (by omega) (by omega)
      refine ⟨by omega, ?_⟩
      refine mtch (fun h0 => ?_) (fun h0 => ?_)
      · have h0 : k ≠ 0 := by have := of_decide_eq_true h0; omega
        rw [if_neg h0] at hres
        rw [hres] at hR
        refine ⟨by omega, ?_⟩
        refine CallQ.pure 180 (rdecP (x1) k (by omega) (by omega) hk) rfl ?_
        have hil2 := itoa_len (((10 ^ k : Nat) : Int) + x1) (by omega) (by omega)
        generalize Lib.itoa (((10 ^ k : Nat) : Int) + x1) = L2 at *
        simp (config := { maxSteps := 2000000 }) only [go_sem, Nat.reduceBEq, Nat.reduceAdd, Nat.reduceLT, Nat.reduceLeDiff, Nat.reduceEqDiff, reduceCtorEq, Int.reduceAdd, Int.reduceSub, Int.reduceNeg, Int.reduceLE, Int.reduceLT, Int.reduceToNat, Int.reduceBEq, Int.reduceBNe, Int.reduceEq, Int.reduceNe, Int.toNat_zero, Int.toNat_one, bne_self_eq_false, Nat.reduceMul, Nat.zero_mul, Nat.mul_one, Nat.one_mul, Nat.reduceSub, Int.cast_ofNat_Int, Int.toNat_natCast, List.length_append, List.length_cons, List.length_drop]
        refine ⟨by omega, ?_⟩
        exact RetQ.of hR rfl ⟨rfl, trivial⟩ (by simp [V.toW, W.toV]) (Sub.nil _) ClM.nil (ClV.of rfl)
      · have h0 : k = 0 := by have := of_decide_eq_false h0; omega
        rw [if_pos h0] at hres
        rw [hres] at hR
        exact RetQ.of hR rfl ⟨rfl, trivial⟩ (by simp [V.toW, W.toV]) (Sub.nil _) ClM.nil (ClV.of rfl)
end Go.Proofs.YtoioclmfjmgaaaaDoor.Fx
