/- The law FixedTexts. -/
import Derived.Test.YtoioclmfjmgaaaaDoorFT4
import Derived.Test.YtoioclmfjmgaaaaDoorFP1
import Derived.Test.YtoioclmfjmgaaaaDoorFC6
import Derived.Test.YtoioclmfjmgaaaaDoorU6
namespace Go.Proofs.YtoioclmfjmgaaaaDoor.Fx
open Vg Tf
set_option linter.unusedSimpArgs false
set_option linter.unusedVariables false
set_option maxRecDepth 100000
set_option maxHeartbeats 4000000
theorem fvalid_no' (t : Ft) (h : fok t = false) : CallOk Tryd.prog 45 [fx t] [] (Bo false) [] := by
  have := fvalid t
  rwa [h] at this
theorem ftext_no (t : Ft) (raw n : Int) (hbad : fok t = false ∨ fin t raw = false ∨ n < 0 ∨ 6 < n) : CallG gsX Tryd.prog 15 [fx t, I raw, I n] (S []) := by
  cases hk : fok t with
  | false =>
    refine CallG.mk 100 Tryd.func15 rfl en15 (by simp [Tryd.ntmps15]) (ClA.of rfl) fun C hR hP hG => ?_
    simp (config := { maxSteps := 2000000 }) only [go_sem, Nat.reduceBEq, Nat.reduceAdd, Nat.reduceLT, Nat.reduceLeDiff, Nat.reduceEqDiff, reduceCtorEq, Int.reduceAdd, Int.reduceSub, Int.reduceNeg, Int.reduceLE, Int.reduceLT, Int.reduceToNat, Int.reduceBEq, Int.reduceBNe, Int.reduceEq, Int.reduceNe, Int.toNat_zero, Int.toNat_one, bne_self_eq_false, Nat.reduceMul, Nat.zero_mul, Nat.mul_one, Nat.one_mul, Nat.reduceSub, Int.cast_ofNat_Int, Int.toNat_natCast]
    refine CallQ.pure 110 (fvalid_no' t hk) rfl ?_
    simp (config := { maxSteps := 2000000 }) only [go_sem, Nat.reduceBEq, Nat.reduceAdd, Nat.reduceLT, Nat.reduceLeDiff, Nat.reduceEqDiff, reduceCtorEq, Int.reduceAdd, Int.reduceSub, Int.reduceNeg, Int.reduceLE, Int.reduceLT, Int.reduceToNat, Int.reduceBEq, Int.reduceBNe, Int.reduceEq, Int.reduceNe, Int.toNat_zero, Int.toNat_one, bne_self_eq_false, Nat.reduceMul, Nat.zero_mul, Nat.mul_one, Nat.one_mul, Nat.reduceSub, Int.cast_ofNat_Int, Int.toNat_natCast]
    refine CallQ.guard 120 (xs := [fx t, I raw]) (v := Bo true) (fun h => by cases h) (fun h => by cases h) ?_
    simp (config := { maxSteps := 2000000 }) only [go_sem, Nat.reduceBEq, Nat.reduceAdd, Nat.reduceLT, Nat.reduceLeDiff, Nat.reduceEqDiff, reduceCtorEq, Int.reduceAdd, Int.reduceSub, Int.reduceNeg, Int.reduceLE, Int.reduceLT, Int.reduceToNat, Int.reduceBEq, Int.reduceBNe, Int.reduceEq, Int.reduceNe, Int.toNat_zero, Int.toNat_one, bne_self_eq_false, Nat.reduceMul, Nat.zero_mul, Nat.mul_one, Nat.one_mul, Nat.reduceSub, Int.cast_ofNat_Int, Int.toNat_natCast]
    exact RetQ.of hR rfl ⟨rfl, trivial⟩ rfl (Sub.nil _) ClM.nil (ClV.of rfl)
  | true =>
    have hc : (bif (bif !fin t raw then true else decide (n < 0)) then true else decide (6 < n)) = true := by
      cases hw : fin t raw with
      | false => rfl
      | true =>
        rw [hk, hw] at hbad
        by_cases h0 : n < 0
        · rw [tru_of h0]; rfl
        · rw [fal_of h0, tru_of (show 6 < n by simp at hbad; omega)]; rfl
    refine CallG.mk 100 Tryd.func15 rfl en15 (by simp [Tryd.ntmps15]) (ClA.of rfl) fun C hR hP hG => ?_
    simp (config := { maxSteps := 2000000 }) only [go_sem, Nat.reduceBEq, Nat.reduceAdd, Nat.reduceLT, Nat.reduceLeDiff, Nat.reduceEqDiff, reduceCtorEq, Int.reduceAdd, Int.reduceSub, Int.reduceNeg, Int.reduceLE, Int.reduceLT, Int.reduceToNat, Int.reduceBEq, Int.reduceBNe, Int.reduceEq, Int.reduceNe, Int.toNat_zero, Int.toNat_one, bne_self_eq_false, Nat.reduceMul, Nat.zero_mul, Nat.mul_one, Nat.one_mul, Nat.reduceSub, Int.cast_ofNat_Int, Int.toNat_natCast]
    refine CallQ.pure 110 (fvalid_ok t hk) rfl ?_
    simp (config := { maxSteps := 2000000 }) only [go_sem, Nat.reduceBEq, Nat.reduceAdd, Nat.reduceLT, Nat.reduceLeDiff, Nat.reduceEqDiff, reduceCtorEq, Int.reduceAdd, Int.reduceSub, Int.reduceNeg, Int.reduceLE, Int.reduceLT, Int.reduceToNat, Int.reduceBEq, Int.reduceBNe, Int.reduceEq, Int.reduceNe, Int.toNat_zero, Int.toNat_one, bne_self_eq_false, Nat.reduceMul, Nat.zero_mul, Nat.mul_one, Nat.one_mul, Nat.reduceSub, Int.cast_ofNat_Int, Int.toNat_natCast]
    refine CallQ.pure 120 (within t raw hk) rfl ?_
    simp (config := { maxSteps := 2000000 }) only [go_sem, Nat.reduceBEq, Nat.reduceAdd, Nat.reduceLT, Nat.reduceLeDiff, Nat.reduceEqDiff, reduceCtorEq, Int.reduceAdd, Int.reduceSub, Int.reduceNeg, Int.reduceLE, Int.reduceLT, Int.reduceToNat, Int.reduceBEq, Int.reduceBNe, Int.reduceEq, Int.reduceNe, Int.toNat_zero, Int.toNat_one, bne_self_eq_false, Nat.reduceMul, Nat.zero_mul, Nat.mul_one, Nat.one_mul, Nat.reduceSub, Int.cast_ofNat_Int, Int.toNat_natCast]
    rw [hc]
    simp (config := { maxSteps := 2000000 }) only [go_sem, Nat.reduceBEq, Nat.reduceAdd, Nat.reduceLT, Nat.reduceLeDiff, Nat.reduceEqDiff, reduceCtorEq, Int.reduceAdd, Int.reduceSub, Int.reduceNeg, Int.reduceLE, Int.reduceLT, Int.reduceToNat, Int.reduceBEq, Int.reduceBNe, Int.reduceEq, Int.reduceNe, Int.toNat_zero, Int.toNat_one, bne_self_eq_false, Nat.reduceMul, Nat.zero_mul, Nat.mul_one, Nat.one_mul, Nat.reduceSub, Int.cast_ofNat_Int, Int.toNat_natCast]
    exact RetQ.of hR rfl ⟨rfl, trivial⟩ rfl (Sub.nil _) ClM.nil (ClV.of rfl)
theorem fnT_len {t : Ft} {raw : Int} {k : Nat} (hk : k ≤ 6) (h : fok t = true) (hw : fin t raw = true) : (fnT t raw k).length ≤ 50 := by
  have hb := fok_bd h
  have hn := fnu_bd h hw
  have hT : 0 < 10 ^ k := Nat.pow_pos (by omega)
  have hT2 : 10 ^ k ≤ 10 ^ 6 := Nat.pow_le_pow_right (by omega) hk
  have hx0 := fx0_bd (raw := raw) h hk
  have hqb := quo_bd (fnu t raw) t.den (by omega)
  have hf1 : fq1 t raw k = if fx0 t raw k = ((10 ^ k : Nat) : Int) then fnu t raw / t.den + 1 else fnu t raw / t.den := rfl
  have hf2 : fx1 t raw k = if fx0 t raw k = ((10 ^ k : Nat) : Int) then 0 else fx0 t raw k := rfl
  have hf3 : fq2 t raw k = if fq1 t raw k < 0 then (if 0 < fx1 t raw k then -fq1 t raw k - 1 else -fq1 t raw k) else fq1 t raw k := rfl
  have hf4 : fx2 t raw k = if fq1 t raw k < 0 ∧ 0 < fx1 t raw k then ((10 ^ k : Nat) : Int) - fx1 t raw k else fx1 t raw k := rfl
  have hqq : -4503600701112320 ≤ fq1 t raw k ∧ fq1 t raw k ≤ 4503600701112321 := by rw [hf1]; split <;> omega
  have hxx : 0 ≤ fx1 t raw k ∧ fx1 t raw k ≤ ((10 ^ k : Nat) : Int) := by rw [hf2]; split <;> omega
  have b1 : -4503600701112330 ≤ fq2 t raw k ∧ fq2 t raw k ≤ 4503600701112330 := by rw [hf3]; split <;> (try split) <;> omega
  have b2 : 0 ≤ fx2 t raw k ∧ fx2 t raw k ≤ ((10 ^ k : Nat) : Int) := by rw [hf4]; split <;> omega
  have l1 := itoa_len (fq2 t raw k) (by omega) (by omega)
  have l2 := itoa_len (((10 ^ k : Nat) : Int) + fx2 t raw k) (by omega) (by omega)
  unfold fnT
  generalize Lib.itoa (((10 ^ k : Nat) : Int) + fx2 t raw k) = L2 at *
  generalize Lib.itoa (fq2 t raw k) = L1 at *
  split <;> split <;> simp <;> omega
theorem law_texts3 (t : Ft) (raw n : Int) : CallG gsX Tryd.prog 3 [fx t, I raw, I n] (Bo true) := by
  by_cases hbad : fok t = false ∨ fin t raw = false ∨ n < 0 ∨ 6 < n
  · refine CallG.mk 100 Tryd.func3 rfl en3 (by simp [Tryd.ntmps3]) (ClA.of rfl) fun C hR hP hG => ?_
    simp (config := { maxSteps := 2000000 }) only [go_sem, Nat.reduceBEq, Nat.reduceAdd, Nat.reduceLT, Nat.reduceLeDiff, Nat.reduceEqDiff, reduceCtorEq, Int.reduceAdd, Int.reduceSub, Int.reduceNeg, Int.reduceLE, Int.reduceLT, Int.reduceToNat, Int.reduceBEq, Int.reduceBNe, Int.reduceEq, Int.reduceNe, Int.toNat_zero, Int.toNat_one, bne_self_eq_false, Nat.reduceMul, Nat.zero_mul, Nat.mul_one, Nat.one_mul, Nat.reduceSub, Int.cast_ofNat_Int, Int.toNat_natCast]
    refine CallQ.pure 110 awake rfl ?_
    simp (config := { maxSteps := 2000000 }) only [go_sem, Nat.reduceBEq, Nat.reduceAdd, Nat.reduceLT, Nat.reduceLeDiff, Nat.reduceEqDiff, reduceCtorEq, Int.reduceAdd, Int.reduceSub, Int.reduceNeg, Int.reduceLE, Int.reduceLT, Int.reduceToNat, Int.reduceBEq, Int.reduceBNe, Int.reduceEq, Int.reduceNe, Int.toNat_zero, Int.toNat_one, bne_self_eq_false, Nat.reduceMul, Nat.zero_mul, Nat.mul_one, Nat.one_mul, Nat.reduceSub, Int.cast_ofNat_Int, Int.toNat_natCast]
    refine CallQ.ofG 120 hG (ftext_no t raw n hbad) rfl rfl rfl ?_
    simp (config := { maxSteps := 2000000 }) only [go_sem, Nat.reduceBEq, Nat.reduceAdd, Nat.reduceLT, Nat.reduceLeDiff, Nat.reduceEqDiff, reduceCtorEq, Int.reduceAdd, Int.reduceSub, Int.reduceNeg, Int.reduceLE, Int.reduceLT, Int.reduceToNat, Int.reduceBEq, Int.reduceBNe, Int.reduceEq, Int.reduceNe, Int.toNat_zero, Int.toNat_one, bne_self_eq_false, Nat.reduceMul, Nat.zero_mul, Nat.mul_one, Nat.one_mul, Nat.reduceSub, Int.cast_ofNat_Int, Int.toNat_natCast]
    refine CallQ.pure 130 (rvalid t) rfl ?_
    simp (config := { maxSteps := 2000000 }) only [go_sem, Nat.reduceBEq, Nat.reduceAdd, Nat.reduceLT, Nat.reduceLeDiff, Nat.reduceEqDiff, reduceCtorEq, Int.reduceAdd, Int.reduceSub, Int.reduceNeg, Int.reduceLE, Int.reduceLT, Int.reduceToNat, Int.reduceBEq, Int.reduceBNe, Int.reduceEq, Int.reduceNe, Int.toNat_zero, Int.toNat_one, bne_self_eq_false, Nat.reduceMul, Nat.zero_mul, Nat.mul_one, Nat.one_mul, Nat.reduceSub, Int.cast_ofNat_Int, Int.toNat_natCast]
    refine CallQ.guard 140 (fun h => rwithin t raw (by simpa using h)) (fun h => by rw [h]; rfl) ?_
    simp (config := { maxSteps := 2000000 }) only [go_sem, Nat.reduceBEq, Nat.reduceAdd, Nat.reduceLT, Nat.reduceLeDiff, Nat.reduceEqDiff, reduceCtorEq, Int.reduceAdd, Int.reduceSub, Int.reduceNeg, Int.reduceLE, Int.reduceLT, Int.reduceToNat, Int.reduceBEq, Int.reduceBNe, Int.reduceEq, Int.reduceNe, Int.toNat_zero, Int.toNat_one, bne_self_eq_false, Nat.reduceMul, Nat.zero_mul, Nat.mul_one, Nat.one_mul, Nat.reduceSub, Int.cast_ofNat_Int, Int.toNat_natCast]
    have hc : (bif (bif (bif !fok t then true else !fin t raw) then true else decide (n < 0)) then true else decide (6 < n)) = true := by
      cases hk : fok t <;> cases hw : fin t raw <;> rw [hk, hw] at hbad <;> first | rfl | skip
      by_cases h0 : n < 0
      · rw [tru_of h0]; rfl
      · rw [fal_of h0, tru_of (show 6 < n by simp at hbad; omega)]; rfl
    rw [hc]
    simp (config := { maxSteps := 2000000 }) only [go_sem, Nat.reduceBEq, Nat.reduceAdd, Nat.reduceLT, Nat.reduceLeDiff, Nat.reduceEqDiff, reduceCtorEq, Int.reduceAdd, Int.reduceSub, Int.reduceNeg, Int.reduceLE, Int.reduceLT, Int.reduceToNat, Int.reduceBEq, Int.reduceBNe, Int.reduceEq, Int.reduceNe, Int.toNat_zero, Int.toNat_one, bne_self_eq_false, Nat.reduceMul, Nat.zero_mul, Nat.mul_one, Nat.one_mul, Nat.reduceSub, Int.cast_ofNat_Int, Int.toNat_natCast, beq_self_eq_true]
    exact RetQ.bool hR rfl ⟨rfl, trivial⟩ (by simp)
  · obtain ⟨hk, hw, k, rfl, hk6⟩ : fok t = true ∧ fin t raw = true ∧ ∃ k : Nat, n = k ∧ k ≤ 6 := by
      refine ⟨?_, ?_, n.toNat, ?_, ?_⟩
      · cases h : fok t
        · exact absurd (.inl h) hbad
        · rfl
      · cases h : fin t raw
        · exact absurd (.inr (.inl h)) hbad
        · rfl
      · have : ¬ n < 0 := fun h => hbad (.inr (.inr (.inl h)))
        omega
      · have : ¬ 6 < n := fun h => hbad (.inr (.inr (.inr h)))
        omega
    have k0 : decide ((k : Int) < 0) = false := fal_of (by omega)
    have k6 : decide (6 < (k : Int)) = false := fal_of (by omega)
    refine CallG.mk 100 Tryd.func3 rfl en3 (by simp [Tryd.ntmps3]) (ClA.of rfl) fun C hR hP hG => ?_
    simp (config := { maxSteps := 2000000 }) only [go_sem, Nat.reduceBEq, Nat.reduceAdd, Nat.reduceLT, Nat.reduceLeDiff, Nat.reduceEqDiff, reduceCtorEq, Int.reduceAdd, Int.reduceSub, Int.reduceNeg, Int.reduceLE, Int.reduceLT, Int.reduceToNat, Int.reduceBEq, Int.reduceBNe, Int.reduceEq, Int.reduceNe, Int.toNat_zero, Int.toNat_one, bne_self_eq_false, Nat.reduceMul, Nat.zero_mul, Nat.mul_one, Nat.one_mul, Nat.reduceSub, Int.cast_ofNat_Int, Int.toNat_natCast]
    refine CallQ.pure 110 awake rfl ?_
    simp (config := { maxSteps := 2000000 }) only [go_sem, Nat.reduceBEq, Nat.reduceAdd, Nat.reduceLT, Nat.reduceLeDiff, Nat.reduceEqDiff, reduceCtorEq, Int.reduceAdd, Int.reduceSub, Int.reduceNeg, Int.reduceLE, Int.reduceLT, Int.reduceToNat, Int.reduceBEq, Int.reduceBNe, Int.reduceEq, Int.reduceNe, Int.toNat_zero, Int.toNat_one, bne_self_eq_false, Nat.reduceMul, Nat.zero_mul, Nat.mul_one, Nat.one_mul, Nat.reduceSub, Int.cast_ofNat_Int, Int.toNat_natCast]
    refine CallQ.ofG 120 hG (ftext_ t raw k hk6 hk hw) rfl rfl rfl ?_
    simp (config := { maxSteps := 2000000 }) only [go_sem, Nat.reduceBEq, Nat.reduceAdd, Nat.reduceLT, Nat.reduceLeDiff, Nat.reduceEqDiff, reduceCtorEq, Int.reduceAdd, Int.reduceSub, Int.reduceNeg, Int.reduceLE, Int.reduceLT, Int.reduceToNat, Int.reduceBEq, Int.reduceBNe, Int.reduceEq, Int.reduceNe, Int.toNat_zero, Int.toNat_one, bne_self_eq_false, Nat.reduceMul, Nat.zero_mul, Nat.mul_one, Nat.one_mul, Nat.reduceSub, Int.cast_ofNat_Int, Int.toNat_natCast]
    refine CallQ.pure 130 (rvalid t) rfl ?_
    rw [hk]
    simp (config := { maxSteps := 2000000 }) only [go_sem, Nat.reduceBEq, Nat.reduceAdd, Nat.reduceLT, Nat.reduceLeDiff, Nat.reduceEqDiff, reduceCtorEq, Int.reduceAdd, Int.reduceSub, Int.reduceNeg, Int.reduceLE, Int.reduceLT, Int.reduceToNat, Int.reduceBEq, Int.reduceBNe, Int.reduceEq, Int.reduceNe, Int.toNat_zero, Int.toNat_one, bne_self_eq_false, Nat.reduceMul, Nat.zero_mul, Nat.mul_one, Nat.one_mul, Nat.reduceSub, Int.cast_ofNat_Int, Int.toNat_natCast]
    refine CallQ.pure 140 (rwithin t raw hk) rfl ?_
    rw [hw]
    simp (config := { maxSteps := 2000000 }) only [go_sem, Nat.reduceBEq, Nat.reduceAdd, Nat.reduceLT, Nat.reduceLeDiff, Nat.reduceEqDiff, reduceCtorEq, Int.reduceAdd, Int.reduceSub, Int.reduceNeg, Int.reduceLE, Int.reduceLT, Int.reduceToNat, Int.reduceBEq, Int.reduceBNe, Int.reduceEq, Int.reduceNe, Int.toNat_zero, Int.toNat_one, bne_self_eq_false, Nat.reduceMul, Nat.zero_mul, Nat.mul_one, Nat.one_mul, Nat.reduceSub, Int.cast_ofNat_Int, Int.toNat_natCast, k0, k6]
    refine CallQ.pure 150 (rntext_ t raw k hk6 hk hw) rfl ?_
    simp (config := { maxSteps := 2000000 }) only [go_sem, Nat.reduceBEq, Nat.reduceAdd, Nat.reduceLT, Nat.reduceLeDiff, Nat.reduceEqDiff, reduceCtorEq, Int.reduceAdd, Int.reduceSub, Int.reduceNeg, Int.reduceLE, Int.reduceLT, Int.reduceToNat, Int.reduceBEq, Int.reduceBNe, Int.reduceEq, Int.reduceNe, Int.toNat_zero, Int.toNat_one, bne_self_eq_false, Nat.reduceMul, Nat.zero_mul, Nat.mul_one, Nat.one_mul, Nat.reduceSub, Int.cast_ofNat_Int, Int.toNat_natCast]
    have hfl := fnT_len hk6 hk hw
    have htl := txt_len6 (unF t)
    have hft : ftx t raw k = fnT t raw k ++ (if ueq (unF t) u0 = true then [] else 32 :: txt (unF t)) := rfl
    have hq : (t.m == 0 && (t.kg == 0 && (t.s == 0 && (t.a == 0 && t.k == 0)))) = ueq (unF t) u0 := rfl
    simp only [hq]
    refine mtch (fun hu => ?_) (fun hu => ?_)
    · have hu : ¬ ueq (unF t) u0 = true := by simpa using hu
      rw [if_neg hu] at hft
      rw [hft]
      refine CallQ.pure 160 (text_ (unF t)) rfl ?_
      simp (config := { maxSteps := 2000000 }) only [go_sem, Nat.reduceBEq, Nat.reduceAdd, Nat.reduceLT, Nat.reduceLeDiff, Nat.reduceEqDiff, reduceCtorEq, Int.reduceAdd, Int.reduceSub, Int.reduceNeg, Int.reduceLE, Int.reduceLT, Int.reduceToNat, Int.reduceBEq, Int.reduceBNe, Int.reduceEq, Int.reduceNe, Int.toNat_zero, Int.toNat_one, bne_self_eq_false, Nat.reduceMul, Nat.zero_mul, Nat.mul_one, Nat.one_mul, Nat.reduceSub, Int.cast_ofNat_Int, Int.toNat_natCast, List.length_append, List.length_cons]
      refine ⟨by omega, by omega, ?_⟩
      exact RetQ.bool hR rfl ⟨rfl, trivial⟩ (by simp)
    · have hu : ueq (unF t) u0 = true := by simpa using hu
      rw [if_pos hu, List.append_nil] at hft
      rw [hft]
      exact RetQ.bool hR rfl ⟨rfl, trivial⟩ (by simp)
end Go.Proofs.YtoioclmfjmgaaaaDoor.Fx
