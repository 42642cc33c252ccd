/- fixed.Text. -/
import Derived.Test.YtoioclmfjmgaaaaDoorFT1
import Derived.Test.YtoioclmfjmgaaaaDoorFC4
import Derived.Test.YtoioclmfjmgaaaaDoorU6
namespace Go.Proofs.YtoioclmfjmgaaaaDoor.Fx
open Vg Tf
set_option linter.unusedSimpArgs false
set_option linter.unusedVariables false
set_option maxRecDepth 100000
set_option maxHeartbeats 4000000
/-- The fraction, in units of the last digit. -/
def fx0 (t : Ft) (raw : Int) (k : Nat) : Int := rnd 3 (fnu t raw % t.den * ((10 ^ k : Nat) : Int)) t.den
theorem fx0_bd {t : Ft} {raw : Int} (h : fok t = true) {k : Nat} (hk : k ≤ 6) : 0 ≤ fx0 t raw k ∧ fx0 t raw k ≤ ((10 ^ k : Nat) : Int) := by
  have hb := fok_bd h
  have h1 := Int.emod_nonneg (fnu t raw) (show t.den ≠ 0 by omega)
  have h2 := Int.emod_lt_of_pos (fnu t raw) (show 0 < t.den by omega)
  have hT : (0 : Int) < ((10 ^ k : Nat) : Int) := by
    have : 0 < 10 ^ k := Nat.pow_pos (by omega)
    omega
  unfold fx0 rnd
  rw [if_neg (by omega), if_neg (by omega)]
  generalize ((10 ^ k : Nat) : Int) = T at *
  generalize fnu t raw % t.den = r at *
  have hr : 0 ≤ r * T := Int.mul_nonneg h1 (by omega)
  have hr2 : r * T ≤ (t.den - 1) * T := Int.mul_le_mul_of_nonneg_right (by omega) (by omega)
  have hr3 : (t.den - 1) * T = t.den * T - T := by rw [Int.sub_mul, Int.one_mul]
  constructor
  · exact Int.ediv_nonneg (by omega) (by omega)
  · have : (2 * (r * T) + t.den) / (2 * t.den) < T + 1 := by
      refine Int.ediv_lt_of_lt_mul (by omega) ?_
      have e : (T + 1) * (2 * t.den) = 2 * (t.den * T) + 2 * t.den := by grind
      rw [e]; omega
    omega
def fq1 (t : Ft) (raw : Int) (k : Nat) : Int := if fx0 t raw k = ((10 ^ k : Nat) : Int) then fnu t raw / t.den + 1 else fnu t raw / t.den
def fx1 (t : Ft) (raw : Int) (k : Nat) : Int := if fx0 t raw k = ((10 ^ k : Nat) : Int) then 0 else fx0 t raw k
def fq2 (t : Ft) (raw : Int) (k : Nat) : Int := if fq1 t raw k < 0 then (if 0 < fx1 t raw k then -fq1 t raw k - 1 else -fq1 t raw k) else fq1 t raw k
def fx2 (t : Ft) (raw : Int) (k : Nat) : Int := if fq1 t raw k < 0 ∧ 0 < fx1 t raw k then ((10 ^ k : Nat) : Int) - fx1 t raw k else fx1 t raw k
/-- The number's text: sign, whole part, fraction. -/
def fnT (t : Ft) (raw : Int) (k : Nat) : List UInt8 := ((if fq1 t raw k < 0 then [45] else []) ++ Lib.itoa (fq2 t raw k)) ++ (if k = 0 then [] else 46 :: (Lib.itoa (((10 ^ k : Nat) : Int) + fx2 t raw k)).drop 1)
def ftx (t : Ft) (raw : Int) (k : Nat) : List UInt8 := fnT t raw k ++ (if ueq (unF t) u0 = true then [] else 32 :: txt (unF t))
theorem txt_len6 (u : Un) : (txt u).length ≤ 50 := by
  have := (negT_len u 5 (by omega)).1
  unfold txt
  cases uokU u
  · simp
  · simp only [cond_true]; omega
theorem dd_len : ∀ (k u : Nat), u < 10 ^ (k + 1) → 1 ≤ (Lib.decDigits u).length ∧ (Lib.decDigits u).length ≤ k + 1
  | 0, u, h => by rw [Lib.decDigits_one (by omega)]; simp
  | k + 1, u, h => by
    by_cases hu : u < 10
    · rw [Lib.decDigits_one hu]; simp
    · rw [Lib.decDigits, dif_neg hu]
      have := dd_len k (u / 10) (by rw [Nat.pow_succ] at h; omega)
      simp; omega
theorem itoa_len (n : Int) (h1 : -1000000000000000000 < n) (h2 : n < 1000000000000000000) : 1 ≤ (Lib.itoa n).length ∧ (Lib.itoa n).length ≤ 20 := by
  unfold Lib.itoa
  split
  · have := dd_len 17 n.natAbs (by omega)
    simp; omega
  · have := dd_len 17 n.toNat (by omega)
    omega
theorem ftext_ (t : Ft) (raw : Int) (k : Nat) (hk : k ≤ 6) (h : fok t = true) (hw : fin t raw = true) : CallG gsX Tryd.prog 15 [fx t, I raw, I k] (S (ftx t raw k)) := by
  have hb := fok_bd h
  have hn := fnu_bd h hw
  have hr1 := Int.emod_nonneg (fnu t raw) (show t.den ≠ 0 by omega)
  have hr2 := Int.emod_lt_of_pos (fnu t raw) (show 0 < t.den by omega)
  have hT : 0 < 10 ^ k := Nat.pow_pos (by omega)
  have hT2 : 10 ^ k ≤ 10 ^ 6 := Nat.pow_le_pow_right (by omega) hk
  have hfl := floor_ (fnu t raw) t.den (by omega) (by omega) (by omega) (by omega)
  have hmo := mod_ (fnu t raw) t.den (by omega) (by omega)
  have k0 : decide ((k : Int) < 0) = false := fal_of (by omega)
  have k6 : decide (6 < (k : Int)) = false := fal_of (by omega)
  have w1 : IntKind.i64.wrap (raw * t.num) = raw * t.num := w64 (by omega) (by omega)
  have w2 : IntKind.i64.wrap (raw * t.num + t.off) = fnu t raw := w64 (by unfold fnu at hn; omega) (by unfold fnu at hn; omega)
  refine CallG.mk 100 Tryd.func15 rfl en15 (by simp [Tryd.ntmps15]) (ClA.of rfl) fun C hR hP hG => ?_
  simp (config := { maxSteps := 2000000 }) only [go_sem, Nat.reduceBEq, Nat.reduceAdd, Nat.reduceLT, Nat.reduceLeDiff, Nat.reduceEqDiff, reduceCtorEq, Int.reduceAdd, Int.reduceSub, Int.reduceNeg, Int.reduceLE, Int.reduceLT, Int.reduceToNat, Int.reduceBEq, Int.reduceBNe, Int.reduceEq, Int.reduceNe, Int.toNat_zero, Int.toNat_one, bne_self_eq_false, Nat.reduceMul, Nat.zero_mul, Nat.mul_one, Nat.one_mul, Nat.reduceSub, Int.cast_ofNat_Int, Int.toNat_natCast]
  refine CallQ.pure 110 (fvalid_ok t h) rfl ?_
  simp (config := { maxSteps := 2000000 }) only [go_sem, Nat.reduceBEq, Nat.reduceAdd, Nat.reduceLT, Nat.reduceLeDiff, Nat.reduceEqDiff, reduceCtorEq, Int.reduceAdd, Int.reduceSub, Int.reduceNeg, Int.reduceLE, Int.reduceLT, Int.reduceToNat, Int.reduceBEq, Int.reduceBNe, Int.reduceEq, Int.reduceNe, Int.toNat_zero, Int.toNat_one, bne_self_eq_false, Nat.reduceMul, Nat.zero_mul, Nat.mul_one, Nat.one_mul, Nat.reduceSub, Int.cast_ofNat_Int, Int.toNat_natCast]
  refine CallQ.pure 120 (within t raw h) rfl ?_
  rw [hw]
  simp (config := { maxSteps := 2000000 }) only [go_sem, Nat.reduceBEq, Nat.reduceAdd, Nat.reduceLT, Nat.reduceLeDiff, Nat.reduceEqDiff, reduceCtorEq, Int.reduceAdd, Int.reduceSub, Int.reduceNeg, Int.reduceLE, Int.reduceLT, Int.reduceToNat, Int.reduceBEq, Int.reduceBNe, Int.reduceEq, Int.reduceNe, Int.toNat_zero, Int.toNat_one, bne_self_eq_false, Nat.reduceMul, Nat.zero_mul, Nat.mul_one, Nat.one_mul, Nat.reduceSub, Int.cast_ofNat_Int, Int.toNat_natCast, k0, k6, w1, w2]
  refine Sm.dgo 130 7 mix (by decide +kernel) (by decide +kernel) ?_
  simp (config := { maxSteps := 2000000 }) only [go_sem, Nat.reduceBEq, Nat.reduceAdd, Nat.reduceLT, Nat.reduceLeDiff, Nat.reduceEqDiff, reduceCtorEq, Int.reduceAdd, Int.reduceSub, Int.reduceNeg, Int.reduceLE, Int.reduceLT, Int.reduceToNat, Int.reduceBEq, Int.reduceBNe, Int.reduceEq, Int.reduceNe, Int.toNat_zero, Int.toNat_one, bne_self_eq_false, Nat.reduceMul, Nat.zero_mul, Nat.mul_one, Nat.one_mul, Nat.reduceSub, Int.cast_ofNat_Int, Int.toNat_natCast]
  refine DCallQ.pure 130 hfl rfl ?_
  simp (config := { maxSteps := 2000000 }) only [go_sem, Nat.reduceBEq, Nat.reduceAdd, Nat.reduceLT, Nat.reduceLeDiff, Nat.reduceEqDiff, reduceCtorEq, Int.reduceAdd, Int.reduceSub, Int.reduceNeg, Int.reduceLE, Int.reduceLT, Int.reduceToNat, Int.reduceBEq, Int.reduceBNe, Int.reduceEq, Int.reduceNe, Int.toNat_zero, Int.toNat_one, bne_self_eq_false, Nat.reduceMul, Nat.zero_mul, Nat.mul_one, Nat.one_mul, Nat.reduceSub, Int.cast_ofNat_Int, Int.toNat_natCast]
  refine CallQ.pure 130 hmo rfl ?_
  simp (config := { maxSteps := 2000000 }) only [go_sem, Nat.reduceBEq, Nat.reduceAdd, Nat.reduceLT, Nat.reduceLeDiff, Nat.reduceEqDiff, reduceCtorEq, Int.reduceAdd, Int.reduceSub, Int.reduceNeg, Int.reduceLE, Int.reduceLT, Int.reduceToNat, Int.reduceBEq, Int.reduceBNe, Int.reduceEq, Int.reduceNe, Int.toNat_zero, Int.toNat_one, bne_self_eq_false, Nat.reduceMul, Nat.zero_mul, Nat.mul_one, Nat.one_mul, Nat.reduceSub, Int.cast_ofNat_Int, Int.toNat_natCast]
  refine Sm.dgo 140 11 mix (by decide +kernel) (by decide +kernel) ?_
  simp (config := { maxSteps := 2000000 }) only [go_sem, Nat.reduceBEq, Nat.reduceAdd, Nat.reduceLT, Nat.reduceLeDiff, Nat.reduceEqDiff, reduceCtorEq, Int.reduceAdd, Int.reduceSub, Int.reduceNeg, Int.reduceLE, Int.reduceLT, Int.reduceToNat, Int.reduceBEq, Int.reduceBNe, Int.reduceEq, Int.reduceNe, Int.toNat_zero, Int.toNat_one, bne_self_eq_false, Nat.reduceMul, Nat.zero_mul, Nat.mul_one, Nat.one_mul, Nat.reduceSub, Int.cast_ofNat_Int, Int.toNat_natCast]
  refine DOpQ.own 140 (Stp.addrG (g := 0) (off := 0) (k := k) rfl rfl rfl (len := 7) (sz := 1) rfl (by omega) (by omega)) ?_
  simp (config := { maxSteps := 2000000 }) only [go_sem, Nat.reduceBEq, Nat.reduceAdd, Nat.reduceLT, Nat.reduceLeDiff, Nat.reduceEqDiff, reduceCtorEq, Int.reduceAdd, Int.reduceSub, Int.reduceNeg, Int.reduceLE, Int.reduceLT, Int.reduceToNat, Int.reduceBEq, Int.reduceBNe, Int.reduceEq, Int.reduceNe, Int.toNat_zero, Int.toNat_one, bne_self_eq_false, Nat.reduceMul, Nat.zero_mul, Nat.mul_one, Nat.one_mul, Nat.reduceSub, Int.cast_ofNat_Int, Int.toNat_natCast]
  refine DOpQ.ownC 140 (fun _ => StpC.ldG hG (g := 0) (i := k) (cs := tensV) (by simp [gsX]) (tens_get hk) rfl rfl rfl) ?_
  simp (config := { maxSteps := 2000000 }) only [go_sem, Nat.reduceBEq, Nat.reduceAdd, Nat.reduceLT, Nat.reduceLeDiff, Nat.reduceEqDiff, reduceCtorEq, Int.reduceAdd, Int.reduceSub, Int.reduceNeg, Int.reduceLE, Int.reduceLT, Int.reduceToNat, Int.reduceBEq, Int.reduceBNe, Int.reduceEq, Int.reduceNe, Int.toNat_zero, Int.toNat_one, bne_self_eq_false, Nat.reduceMul, Nat.zero_mul, Nat.mul_one, Nat.one_mul, Nat.reduceSub, Int.cast_ofNat_Int, Int.toNat_natCast]
  have hprod : 0 ≤ fnu t raw % t.den * ((10 ^ k : Nat) : Int) ∧ fnu t raw % t.den * ((10 ^ k : Nat) : Int) ≤ 1048576 * 1000000 :=
    ⟨Int.mul_nonneg hr1 (by omega), Int.mul_le_mul (by omega) (by omega) (by omega) (by omega)⟩
  refine DCallQ.pure 140 (muldiv (fnu t raw % t.den) ((10 ^ k : Nat) : Int) t.den 3 (by omega) (by omega) (by omega) (by omega) (by omega) (by omega) (by omega) (by omega) (by omega) (by omega)) rfl ?_
  rw [show rnd 3 (fnu t raw % t.den * ((10 ^ k : Nat) : Int)) t.den = fx0 t raw k from rfl]
  have hx0 := fx0_bd (raw := raw) h hk
  simp (config := { maxSteps := 2000000 }) only [go_sem, Nat.reduceBEq, Nat.reduceAdd, Nat.reduceLT, Nat.reduceLeDiff, Nat.reduceEqDiff, reduceCtorEq, Int.reduceAdd, Int.reduceSub, Int.reduceNeg, Int.reduceLE, Int.reduceLT, Int.reduceToNat, Int.reduceBEq, Int.reduceBNe, Int.reduceEq, Int.reduceNe, Int.toNat_zero, Int.toNat_one, bne_self_eq_false, Nat.reduceMul, Nat.zero_mul, Nat.mul_one, Nat.one_mul, Nat.reduceSub, Int.cast_ofNat_Int, Int.toNat_natCast]
  refine Sm.opq rfl rfl ⟨[], _, fun _ => Stp.addrG (g := 0) (off := 0) (k := k) rfl rfl rfl (len := 7) (sz := 1) rfl (by omega) (by omega), .inl rfl, ?_⟩
  refine Sm.go 150 ?_
  simp (config := { maxSteps := 2000000 }) only [go_sem, Nat.reduceBEq, Nat.reduceAdd, Nat.reduceLT, Nat.reduceLeDiff, Nat.reduceEqDiff, reduceCtorEq, Int.reduceAdd, Int.reduceSub, Int.reduceNeg, Int.reduceLE, Int.reduceLT, Int.reduceToNat, Int.reduceBEq, Int.reduceBNe, Int.reduceEq, Int.reduceNe, Int.toNat_zero, Int.toNat_one, bne_self_eq_false, Nat.reduceMul, Nat.zero_mul, Nat.mul_one, Nat.one_mul, Nat.reduceSub, Int.cast_ofNat_Int, Int.toNat_natCast]
  refine Sm.opC 150 rfl rfl (.inl rfl) (fun _ => StpC.ldG hG (g := 0) (i := k) (cs := tensV) (by simp [gsX]) (tens_get hk) rfl rfl rfl) ?_
  simp (config := { maxSteps := 2000000 }) only [go_sem, Nat.reduceBEq, Nat.reduceAdd, Nat.reduceLT, Nat.reduceLeDiff, Nat.reduceEqDiff, reduceCtorEq, Int.reduceAdd, Int.reduceSub, Int.reduceNeg, Int.reduceLE, Int.reduceLT, Int.reduceToNat, Int.reduceBEq, Int.reduceBNe, Int.reduceEq, Int.reduceNe, Int.toNat_zero, Int.toNat_one, bne_self_eq_false, Nat.reduceMul, Nat.zero_mul, Nat.mul_one, Nat.one_mul, Nat.reduceSub, Int.cast_ofNat_Int, Int.toNat_natCast]
  have hqb : -4503600701112320 ≤ fnu t raw / t.den ∧ fnu t raw / t.den ≤ 4503600701112320 := by
    have := quo_bd (fnu t raw) t.den (by omega)
    omega
  have wq : IntKind.i64.wrap (fnu t raw / t.den + 1) = fnu t raw / t.den + 1 := w64 (by omega) (by omega)
  have hf1 : fq1 t raw k = if fx0 t raw k = ((10 ^ k : Nat) : Int) then fnu t raw / t.den + 1 else fnu t raw / t.den := rfl
  have hf2 : fx1 t raw k = if fx0 t raw k = ((10 ^ k : Nat) : Int) then 0 else fx0 t raw k := rfl
  have hf3 : fq2 t raw k = if fq1 t raw k < 0 then (if 0 < fx1 t raw k then -fq1 t raw k - 1 else -fq1 t raw k) else fq1 t raw k := rfl
  have hf4 : fx2 t raw k = if fq1 t raw k < 0 ∧ 0 < fx1 t raw k then ((10 ^ k : Nat) : Int) - fx1 t raw k else fx1 t raw k := rfl
  have hres : ftx t raw k = ((if fq1 t raw k < 0 then [45] else []) ++ Lib.itoa (fq2 t raw k)) ++ (if k = 0 then [] else 46 :: (Lib.itoa (((10 ^ k : Nat) : Int) + fx2 t raw k)).drop 1) ++ (if ueq (unF t) u0 = true then [] else 32 :: txt (unF t)) := rfl
  generalize fq2 t raw k = q2 at *
  generalize fx2 t raw k = x2 at *
  generalize fq1 t raw k = q1 at *
  generalize fx1 t raw k = x1 at *
  generalize ftx t raw k = res at *
  generalize fx0 t raw k = x0 at *
  have hqq : -4503600701112320 ≤ q1 ∧ q1 ≤ 4503600701112321 := by rw [hf1]; split <;> omega
  have hxx : 0 ≤ x1 ∧ x1 ≤ ((10 ^ k : Nat) : Int) := by rw [hf2]; split <;> omega
  have w1 : IntKind.i64.wrap q1 = q1 := w64 (by omega) (by omega)
  have wn : IntKind.i64.wrap (0 - q1) = 0 - q1 := w64 (by omega) (by omega)
  refine mtch (fun hc => ?_) (fun hc => ?_)
  · have hc : x0 = ((10 ^ k : Nat) : Int) := by simpa using hc
    rw [if_pos hc] at hf1 hf2
    subst hf2
    rw [← hf1] at wq ⊢
    simp only [w1]
    clear hf1 wq hqb
    refine mtch (fun hg => ?_) (fun hg => ?_)
    · have hg : q1 < 0 := by have := of_decide_eq_true hg; omega
      rw [if_pos hg, if_neg (by omega)] at hf3
      rw [if_neg (by omega)] at hf4
      rw [if_pos hg, hf3, hf4] at hres
      simp only [wn]
      rw [show -q1 = 0 - q1 by omega] at hres
      refine CallQ.ofG 160 hG (textG (0 - q1) (by omega) (by omega)) rfl rfl rfl ?_
      simp (config := { maxSteps := 2000000 }) only [go_sem, Nat.reduceBEq, Nat.reduceAdd, Nat.reduceLT, Nat.reduceLeDiff, Nat.reduceEqDiff, reduceCtorEq, Int.reduceAdd, Int.reduceSub, Int.reduceNeg, Int.reduceLE, Int.reduceLT, Int.reduceToNat, Int.reduceBEq, Int.reduceBNe, Int.reduceEq, Int.reduceNe, Int.toNat_zero, Int.toNat_one, bne_self_eq_false, Nat.reduceMul, Nat.zero_mul, Nat.mul_one, Nat.one_mul, Nat.reduceSub, Int.cast_ofNat_Int, Int.toNat_natCast, List.length_cons]
      have hil := itoa_len (0 - q1) (by omega) (by omega)
      have hq3 : (t.m == u0.m && (t.kg == u0.kg && (t.s == u0.s && (t.a == u0.a && t.k == u0.k)))) = ueq (unF t) u0 := rfl
      have htl := txt_len6 (unF t)
      refine ⟨by omega, ?_⟩
      refine mtch (fun h0 => ?_) (fun h0 => ?_)
      · have h0 : k ≠ 0 := by have := of_decide_eq_true h0; omega
        rw [if_neg h0] at hres
        refine Sm.opq rfl rfl ⟨[], _, fun _ => Stp.addrG (g := 0) (off := 0) (k := k) rfl rfl rfl (len := 7) (sz := 1) rfl (by omega) (by omega), .inl rfl, ?_⟩
        refine Sm.go 170 ?_
        simp (config := { maxSteps := 2000000 }) only [go_sem, Nat.reduceBEq, Nat.reduceAdd, Nat.reduceLT, Nat.reduceLeDiff, Nat.reduceEqDiff, reduceCtorEq, Int.reduceAdd, Int.reduceSub, Int.reduceNeg, Int.reduceLE, Int.reduceLT, Int.reduceToNat, Int.reduceBEq, Int.reduceBNe, Int.reduceEq, Int.reduceNe, Int.toNat_zero, Int.toNat_one, bne_self_eq_false, Nat.reduceMul, Nat.zero_mul, Nat.mul_one, Nat.one_mul, Nat.reduceSub, Int.cast_ofNat_Int, Int.toNat_natCast]
        refine Sm.opC 170 rfl rfl (.inl rfl) (fun _ => StpC.ldG hG (g := 0) (i := k) (cs := tensV) (by simp [gsX]) (tens_get hk) rfl rfl rfl) ?_
        have wx : IntKind.i64.wrap (((10 ^ k : Nat) : Int) + 0) = ((10 ^ k : Nat) : Int) + 0 := w64 (by omega) (by omega)
        simp (config := { maxSteps := 2000000 }) only [go_sem, Nat.reduceBEq, Nat.reduceAdd, Nat.reduceLT, Nat.reduceLeDiff, Nat.reduceEqDiff, reduceCtorEq, Int.reduceAdd, Int.reduceSub, Int.reduceNeg, Int.reduceLE, Int.reduceLT, Int.reduceToNat, Int.reduceBEq, Int.reduceBNe, Int.reduceEq, Int.reduceNe, Int.toNat_zero, Int.toNat_one, bne_self_eq_false, Nat.reduceMul, Nat.zero_mul, Nat.mul_one, Nat.one_mul, Nat.reduceSub, Int.cast_ofNat_Int, Int.toNat_natCast, wx]
        refine CallQ.ofG 180 hG (textG (((10 ^ k : Nat) : Int) + 0) (by omega) (by omega)) rfl rfl rfl ?_
        have hil2 := itoa_len (((10 ^ k : Nat) : Int) + 0) (by omega) (by omega)
        generalize Lib.itoa (((10 ^ k : Nat) : Int) + 0) = L2 at *
        simp (config := { maxSteps := 2000000 }) only [go_sem, Nat.reduceBEq, Nat.reduceAdd, Nat.reduceLT, Nat.reduceLeDiff, Nat.reduceEqDiff, reduceCtorEq, Int.reduceAdd, Int.reduceSub, Int.reduceNeg, Int.reduceLE, Int.reduceLT, Int.reduceToNat, Int.reduceBEq, Int.reduceBNe, Int.reduceEq, Int.reduceNe, Int.toNat_zero, Int.toNat_one, bne_self_eq_false, Nat.reduceMul, Nat.zero_mul, Nat.mul_one, Nat.one_mul, Nat.reduceSub, Int.cast_ofNat_Int, Int.toNat_natCast, List.length_append, List.length_cons, List.length_drop]
        have e5 : List.take ((L2.length : Int) - 1).toNat (List.drop 1 L2) = List.drop 1 L2 := List.take_of_length_le (by simp)
        simp only [e5, List.length_drop]
        refine ⟨⟨by omega, by omega⟩, by omega, by omega, ?_⟩
        refine Sm.dgo 190 3 mix (by decide +kernel) (by decide +kernel) ?_
        simp (config := { maxSteps := 2000000 }) only [go_sem, Nat.reduceBEq, Nat.reduceAdd, Nat.reduceLT, Nat.reduceLeDiff, Nat.reduceEqDiff, reduceCtorEq, Int.reduceAdd, Int.reduceSub, Int.reduceNeg, Int.reduceLE, Int.reduceLT, Int.reduceToNat, Int.reduceBEq, Int.reduceBNe, Int.reduceEq, Int.reduceNe, Int.toNat_zero, Int.toNat_one, bne_self_eq_false, Nat.reduceMul, Nat.zero_mul, Nat.mul_one, Nat.one_mul, Nat.reduceSub, Int.cast_ofNat_Int, Int.toNat_natCast]
        refine DCallQ.pure 190 one_ rfl ?_
        simp (config := { maxSteps := 2000000 }) only [go_sem, Nat.reduceBEq, Nat.reduceAdd, Nat.reduceLT, Nat.reduceLeDiff, Nat.reduceEqDiff, reduceCtorEq, Int.reduceAdd, Int.reduceSub, Int.reduceNeg, Int.reduceLE, Int.reduceLT, Int.reduceToNat, Int.reduceBEq, Int.reduceBNe, Int.reduceEq, Int.reduceNe, Int.toNat_zero, Int.toNat_one, bne_self_eq_false, Nat.reduceMul, Nat.zero_mul, Nat.mul_one, Nat.one_mul, Nat.reduceSub, Int.cast_ofNat_Int, Int.toNat_natCast]
        simp only [hq3]
        refine mtch (fun hu => ?_) (fun hu => ?_)
        · have hu : ¬ ueq (unF t) u0 = true := by simpa using hu
          rw [if_neg hu] at hres
          rw [hres] at hR
          refine CallQ.pure 200 (text_ (unF t)) rfl ?_
          simp (config := { maxSteps := 2000000 }) only [go_sem, Nat.reduceBEq, Nat.reduceAdd, Nat.reduceLT, Nat.reduceLeDiff, Nat.reduceEqDiff, reduceCtorEq, Int.reduceAdd, Int.reduceSub, Int.reduceNeg, Int.reduceLE, Int.reduceLT, Int.reduceToNat, Int.reduceBEq, Int.reduceBNe, Int.reduceEq, Int.reduceNe, Int.toNat_zero, Int.toNat_one, bne_self_eq_false, Nat.reduceMul, Nat.zero_mul, Nat.mul_one, Nat.one_mul, Nat.reduceSub, Int.cast_ofNat_Int, Int.toNat_natCast, List.length_append, List.length_cons, List.length_drop]
          refine ⟨by omega, by omega, ?_⟩
          exact RetQ.of hR rfl ⟨rfl, trivial⟩ (by simp [V.toW, W.toV]) (Sub.nil _) ClM.nil (ClV.of rfl)
        · have hu : ueq (unF t) u0 = true := by simpa using hu
          rw [if_pos hu] at hres
          rw [hres] at hR
          exact RetQ.of hR rfl ⟨rfl, trivial⟩ (by simp [V.toW, W.toV]) (Sub.nil _) ClM.nil (ClV.of rfl)
      · have h0 : k = 0 := by have := of_decide_eq_false h0; omega
        rw [if_pos h0] at hres
        refine Sm.dgo 190 3 mix (by decide +kernel) (by decide +kernel) ?_
        simp (config := { maxSteps := 2000000 }) only [go_sem, Nat.reduceBEq, Nat.reduceAdd, Nat.reduceLT, Nat.reduceLeDiff, Nat.reduceEqDiff, reduceCtorEq, Int.reduceAdd, Int.reduceSub, Int.reduceNeg, Int.reduceLE, Int.reduceLT, Int.reduceToNat, Int.reduceBEq, Int.reduceBNe, Int.reduceEq, Int.reduceNe, Int.toNat_zero, Int.toNat_one, bne_self_eq_false, Nat.reduceMul, Nat.zero_mul, Nat.mul_one, Nat.one_mul, Nat.reduceSub, Int.cast_ofNat_Int, Int.toNat_natCast]
        refine DCallQ.pure 190 one_ rfl ?_
        simp (config := { maxSteps := 2000000 }) only [go_sem, Nat.reduceBEq, Nat.reduceAdd, Nat.reduceLT, Nat.reduceLeDiff, Nat.reduceEqDiff, reduceCtorEq, Int.reduceAdd, Int.reduceSub, Int.reduceNeg, Int.reduceLE, Int.reduceLT, Int.reduceToNat, Int.reduceBEq, Int.reduceBNe, Int.reduceEq, Int.reduceNe, Int.toNat_zero, Int.toNat_one, bne_self_eq_false, Nat.reduceMul, Nat.zero_mul, Nat.mul_one, Nat.one_mul, Nat.reduceSub, Int.cast_ofNat_Int, Int.toNat_natCast]
        simp only [hq3]
        refine mtch (fun hu => ?_) (fun hu => ?_)
        · have hu : ¬ ueq (unF t) u0 = true := by simpa using hu
          rw [if_neg hu] at hres
          rw [hres] at hR
          refine CallQ.pure 200 (text_ (unF t)) rfl ?_
          simp (config := { maxSteps := 2000000 }) only [go_sem, Nat.reduceBEq, Nat.reduceAdd, Nat.reduceLT, Nat.reduceLeDiff, Nat.reduceEqDiff, reduceCtorEq, Int.reduceAdd, Int.reduceSub, Int.reduceNeg, Int.reduceLE, Int.reduceLT, Int.reduceToNat, Int.reduceBEq, Int.reduceBNe, Int.reduceEq, Int.reduceNe, Int.toNat_zero, Int.toNat_one, bne_self_eq_false, Nat.reduceMul, Nat.zero_mul, Nat.mul_one, Nat.one_mul, Nat.reduceSub, Int.cast_ofNat_Int, Int.toNat_natCast, List.length_append, List.length_cons]
          refine ⟨by omega, by omega, ?_⟩
          exact RetQ.of hR rfl ⟨rfl, trivial⟩ (by simp [V.toW, W.toV]) (Sub.nil _) ClM.nil (ClV.of rfl)
        · have hu : ueq (unF t) u0 = true := by simpa using hu
          rw [if_pos hu] at hres
          rw [hres] at hR
          exact RetQ.of hR rfl ⟨rfl, trivial⟩ (by simp [V.toW, W.toV]) (Sub.nil _) ClM.nil (ClV.of rfl)
    · have hg : ¬ q1 < 0 := by have := of_decide_eq_false hg; omega
      rw [if_neg hg] at hf3
      rw [if_neg (by omega)] at hf4
      rw [if_neg hg, hf3, hf4] at hres
      refine CallQ.ofG 160 hG (textG (q1) (by omega) (by omega)) rfl rfl rfl ?_
      simp (config := { maxSteps := 2000000 }) only [go_sem, Nat.reduceBEq, Nat.reduceAdd, Nat.reduceLT, Nat.reduceLeDiff, Nat.reduceEqDiff, reduceCtorEq, Int.reduceAdd, Int.reduceSub, Int.reduceNeg, Int.reduceLE, Int.reduceLT, Int.reduceToNat, Int.reduceBEq, Int.reduceBNe, Int.reduceEq, Int.reduceNe, Int.toNat_zero, Int.toNat_one, bne_self_eq_false, Nat.reduceMul, Nat.zero_mul, Nat.mul_one, Nat.one_mul, Nat.reduceSub, Int.cast_ofNat_Int, Int.toNat_natCast, List.length_cons]
      have hil := itoa_len (q1) (by omega) (by omega)
      have hq3 : (t.m == u0.m && (t.kg == u0.kg && (t.s == u0.s && (t.a == u0.a && t.k == u0.k)))) = ueq (unF t) u0 := rfl
      have htl := txt_len6 (unF t)
      refine ⟨by omega, ?_⟩
      refine mtch (fun h0 => ?_) (fun h0 => ?_)
      · have h0 : k ≠ 0 := by have := of_decide_eq_true h0; omega
        rw [if_neg h0] at hres
        refine Sm.opq rfl rfl ⟨[], _, fun _ => Stp.addrG (g := 0) (off := 0) (k := k) rfl rfl rfl (len := 7) (sz := 1) rfl (by omega) (by omega), .inl rfl, ?_⟩
        refine Sm.go 170 ?_
        simp (config := { maxSteps := 2000000 }) only [go_sem, Nat.reduceBEq, Nat.reduceAdd, Nat.reduceLT, Nat.reduceLeDiff, Nat.reduceEqDiff, reduceCtorEq, Int.reduceAdd, Int.reduceSub, Int.reduceNeg, Int.reduceLE, Int.reduceLT, Int.reduceToNat, Int.reduceBEq, Int.reduceBNe, Int.reduceEq, Int.reduceNe, Int.toNat_zero, Int.toNat_one, bne_self_eq_false, Nat.reduceMul, Nat.zero_mul, Nat.mul_one, Nat.one_mul, Nat.reduceSub, Int.cast_ofNat_Int, Int.toNat_natCast]
        refine Sm.opC 170 rfl rfl (.inl rfl) (fun _ => StpC.ldG hG (g := 0) (i := k) (cs := tensV) (by simp [gsX]) (tens_get hk) rfl rfl rfl) ?_
        have wx : IntKind.i64.wrap (((10 ^ k : Nat) : Int) + 0) = ((10 ^ k : Nat) : Int) + 0 := w64 (by omega) (by omega)
        simp (config := { maxSteps := 2000000 }) only [go_sem, Nat.reduceBEq, Nat.reduceAdd, Nat.reduceLT, Nat.reduceLeDiff, Nat.reduceEqDiff, reduceCtorEq, Int.reduceAdd, Int.reduceSub, Int.reduceNeg, Int.reduceLE, Int.reduceLT, Int.reduceToNat, Int.reduceBEq, Int.reduceBNe, Int.reduceEq, Int.reduceNe, Int.toNat_zero, Int.toNat_one, bne_self_eq_false, Nat.reduceMul, Nat.zero_mul, Nat.mul_one, Nat.one_mul, Nat.reduceSub, Int.cast_ofNat_Int, Int.toNat_natCast, wx]
        refine CallQ.ofG 180 hG (textG (((10 ^ k : Nat) : Int) + 0) (by omega) (by omega)) rfl rfl rfl ?_
        have hil2 := itoa_len (((10 ^ k : Nat) : Int) + 0) (by omega) (by omega)
        generalize Lib.itoa (((10 ^ k : Nat) : Int) + 0) = L2 at *
        simp (config := { maxSteps := 2000000 }) only [go_sem, Nat.reduceBEq, Nat.reduceAdd, Nat.reduceLT, Nat.reduceLeDiff, Nat.reduceEqDiff, reduceCtorEq, Int.reduceAdd, Int.reduceSub, Int.reduceNeg, Int.reduceLE, Int.reduceLT, Int.reduceToNat, Int.reduceBEq, Int.reduceBNe, Int.reduceEq, Int.reduceNe, Int.toNat_zero, Int.toNat_one, bne_self_eq_false, Nat.reduceMul, Nat.zero_mul, Nat.mul_one, Nat.one_mul, Nat.reduceSub, Int.cast_ofNat_Int, Int.toNat_natCast, List.length_append, List.length_cons, List.length_drop]
        have e5 : List.take ((L2.length : Int) - 1).toNat (List.drop 1 L2) = List.drop 1 L2 := List.take_of_length_le (by simp)
        simp only [e5, List.length_drop]
        refine ⟨⟨by omega, by omega⟩, by omega, by omega, ?_⟩
        refine Sm.dgo 190 3 mix (by decide +kernel) (by decide +kernel) ?_
        simp (config := { maxSteps := 2000000 }) only [go_sem, Nat.reduceBEq, Nat.reduceAdd, Nat.reduceLT, Nat.reduceLeDiff, Nat.reduceEqDiff, reduceCtorEq, Int.reduceAdd, Int.reduceSub, Int.reduceNeg, Int.reduceLE, Int.reduceLT, Int.reduceToNat, Int.reduceBEq, Int.reduceBNe, Int.reduceEq, Int.reduceNe, Int.toNat_zero, Int.toNat_one, bne_self_eq_false, Nat.reduceMul, Nat.zero_mul, Nat.mul_one, Nat.one_mul, Nat.reduceSub, Int.cast_ofNat_Int, Int.toNat_natCast]
        refine DCallQ.pure 190 one_ rfl ?_
        simp (config := { maxSteps := 2000000 }) only [go_sem, Nat.reduceBEq, Nat.reduceAdd, Nat.reduceLT, Nat.reduceLeDiff, Nat.reduceEqDiff, reduceCtorEq, Int.reduceAdd, Int.reduceSub, Int.reduceNeg, Int.reduceLE, Int.reduceLT, Int.reduceToNat, Int.reduceBEq, Int.reduceBNe, Int.reduceEq, Int.reduceNe, Int.toNat_zero, Int.toNat_one, bne_self_eq_false, Nat.reduceMul, Nat.zero_mul, Nat.mul_one, Nat.one_mul, Nat.reduceSub, Int.cast_ofNat_Int, Int.toNat_natCast]
        simp only [hq3]
        refine mtch (fun hu => ?_) (fun hu => ?_)
        · have hu : ¬ ueq (unF t) u0 = true := by simpa using hu
          rw [if_neg hu] at hres
          rw [hres] at hR
          refine CallQ.pure 200 (text_ (unF t)) rfl ?_
          simp (config := { maxSteps := 2000000 }) only [go_sem, Nat.reduceBEq, Nat.reduceAdd, Nat.reduceLT, Nat.reduceLeDiff, Nat.reduceEqDiff, reduceCtorEq, Int.reduceAdd, Int.reduceSub, Int.reduceNeg, Int.reduceLE, Int.reduceLT, Int.reduceToNat, Int.reduceBEq, Int.reduceBNe, Int.reduceEq, Int.reduceNe, Int.toNat_zero, Int.toNat_one, bne_self_eq_false, Nat.reduceMul, Nat.zero_mul, Nat.mul_one, Nat.one_mul, Nat.reduceSub, Int.cast_ofNat_Int, Int.toNat_natCast, List.length_append, List.length_cons, List.length_drop]
          refine ⟨by omega, by omega, ?_⟩
          exact RetQ.of hR rfl ⟨rfl, trivial⟩ (by simp [V.toW, W.toV]) (Sub.nil _) ClM.nil (ClV.of rfl)
        · have hu : ueq (unF t) u0 = true := by simpa using hu
          rw [if_pos hu] at hres
          rw [hres] at hR
          exact RetQ.of hR rfl ⟨rfl, trivial⟩ (by simp [V.toW, W.toV]) (Sub.nil _) ClM.nil (ClV.of rfl)
      · have h0 : k = 0 := by have := of_decide_eq_false h0; omega
        rw [if_pos h0] at hres
        refine Sm.dgo 190 3 mix (by decide +kernel) (by decide +kernel) ?_
        simp (config := { maxSteps := 2000000 }) only [go_sem, Nat.reduceBEq, Nat.reduceAdd, Nat.reduceLT, Nat.reduceLeDiff, Nat.reduceEqDiff, reduceCtorEq, Int.reduceAdd, Int.reduceSub, Int.reduceNeg, Int.reduceLE, Int.reduceLT, Int.reduceToNat, Int.reduceBEq, Int.reduceBNe, Int.reduceEq, Int.reduceNe, Int.toNat_zero, Int.toNat_one, bne_self_eq_false, Nat.reduceMul, Nat.zero_mul, Nat.mul_one, Nat.one_mul, Nat.reduceSub, Int.cast_ofNat_Int, Int.toNat_natCast]
        refine DCallQ.pure 190 one_ rfl ?_
        simp (config := { maxSteps := 2000000 }) only [go_sem, Nat.reduceBEq, Nat.reduceAdd, Nat.reduceLT, Nat.reduceLeDiff, Nat.reduceEqDiff, reduceCtorEq, Int.reduceAdd, Int.reduceSub, Int.reduceNeg, Int.reduceLE, Int.reduceLT, Int.reduceToNat, Int.reduceBEq, Int.reduceBNe, Int.reduceEq, Int.reduceNe, Int.toNat_zero, Int.toNat_one, bne_self_eq_false, Nat.reduceMul, Nat.zero_mul, Nat.mul_one, Nat.one_mul, Nat.reduceSub, Int.cast_ofNat_Int, Int.toNat_natCast]
        simp only [hq3]
        refine mtch (fun hu => ?_) (fun hu => ?_)
        · have hu : ¬ ueq (unF t) u0 = true := by simpa using hu
          rw [if_neg hu] at hres
          rw [hres] at hR
          refine CallQ.pure 200 (text_ (unF t)) rfl ?_
          simp (config := { maxSteps := 2000000 }) only [go_sem, Nat.reduceBEq, Nat.reduceAdd, Nat.reduceLT, Nat.reduceLeDiff, Nat.reduceEqDiff, reduceCtorEq, Int.reduceAdd, Int.reduceSub, Int.reduceNeg, Int.reduceLE, Int.reduceLT, Int.reduceToNat, Int.reduceBEq, Int.reduceBNe, Int.reduceEq, Int.reduceNe, Int.toNat_zero, Int.toNat_one, bne_self_eq_false, Nat.reduceMul, Nat.zero_mul, Nat.mul_one, Nat.one_mul, Nat.reduceSub, Int.cast_ofNat_Int, Int.toNat_natCast, List.length_append, List.length_cons]
          refine ⟨by omega, by omega, ?_⟩
          exact RetQ.of hR rfl ⟨rfl, trivial⟩ (by simp [V.toW, W.toV]) (Sub.nil _) ClM.nil (ClV.of rfl)
        · have hu : ueq (unF t) u0 = true := by simpa using hu
          rw [if_pos hu] at hres
          rw [hres] at hR
          exact RetQ.of hR rfl ⟨rfl, trivial⟩ (by simp [V.toW, W.toV]) (Sub.nil _) ClM.nil (ClV.of rfl)
  · have hc : ¬ x0 = ((10 ^ k : Nat) : Int) := by simpa using hc
    rw [if_neg hc] at hf1 hf2
    subst hf2
    rw [← hf1]
    clear hf1 wq hqb
    refine mtch (fun hg => ?_) (fun hg => ?_)
    · have hg : q1 < 0 := by have := of_decide_eq_true hg; omega
      rw [if_pos hg] at hf3 hres
      refine mtch (fun hp => ?_) (fun hp => ?_)
      · have hp : 0 < x1 := by have := of_decide_eq_true hp; omega
        rw [if_pos hp] at hf3
        rw [if_pos ⟨hg, hp⟩] at hf4
        rw [hf3, hf4] at hres
        rw [show -q1 - 1 = 0 - q1 - 1 by omega] at hres
        have wn2 : IntKind.i64.wrap (0 - q1 - 1) = 0 - q1 - 1 := w64 (by omega) (by omega)
        have wn3 : IntKind.i64.wrap (((10 ^ k : Nat) : Int) - x1) = ((10 ^ k : Nat) : Int) - x1 := w64 (by omega) (by omega)
        simp only [wn]
        refine Sm.dgo 210 8 mix (by decide +kernel) (by decide +kernel) ?_
        simp (config := { maxSteps := 2000000 }) only [go_sem, Nat.reduceBEq, Nat.reduceAdd, Nat.reduceLT, Nat.reduceLeDiff, Nat.reduceEqDiff, reduceCtorEq, Int.reduceAdd, Int.reduceSub, Int.reduceNeg, Int.reduceLE, Int.reduceLT, Int.reduceToNat, Int.reduceBEq, Int.reduceBNe, Int.reduceEq, Int.reduceNe, Int.toNat_zero, Int.toNat_one, bne_self_eq_false, Nat.reduceMul, Nat.zero_mul, Nat.mul_one, Nat.one_mul, Nat.reduceSub, Int.cast_ofNat_Int, Int.toNat_natCast, wn2]
        refine DOpQ.own 210 (Stp.addrG (g := 0) (off := 0) (k := k) rfl rfl rfl (len := 7) (sz := 1) rfl (by omega) (by omega)) ?_
        simp (config := { maxSteps := 2000000 }) only [go_sem, Nat.reduceBEq, Nat.reduceAdd, Nat.reduceLT, Nat.reduceLeDiff, Nat.reduceEqDiff, reduceCtorEq, Int.reduceAdd, Int.reduceSub, Int.reduceNeg, Int.reduceLE, Int.reduceLT, Int.reduceToNat, Int.reduceBEq, Int.reduceBNe, Int.reduceEq, Int.reduceNe, Int.toNat_zero, Int.toNat_one, bne_self_eq_false, Nat.reduceMul, Nat.zero_mul, Nat.mul_one, Nat.one_mul, Nat.reduceSub, Int.cast_ofNat_Int, Int.toNat_natCast]
        refine DOpQ.ownC 210 (fun _ => StpC.ldG hG (g := 0) (i := k) (cs := tensV) (by simp [gsX]) (tens_get hk) rfl rfl rfl) ?_
        simp (config := { maxSteps := 2000000 }) only [go_sem, Nat.reduceBEq, Nat.reduceAdd, Nat.reduceLT, Nat.reduceLeDiff, Nat.reduceEqDiff, reduceCtorEq, Int.reduceAdd, Int.reduceSub, Int.reduceNeg, Int.reduceLE, Int.reduceLT, Int.reduceToNat, Int.reduceBEq, Int.reduceBNe, Int.reduceEq, Int.reduceNe, Int.toNat_zero, Int.toNat_one, bne_self_eq_false, Nat.reduceMul, Nat.zero_mul, Nat.mul_one, Nat.one_mul, Nat.reduceSub, Int.cast_ofNat_Int, Int.toNat_natCast, wn3]
        refine CallQ.ofG 160 hG (textG (0 - q1 - 1) (by omega) (by omega)) rfl rfl rfl ?_
        simp (config := { maxSteps := 2000000 }) only [go_sem, Nat.reduceBEq, Nat.reduceAdd, Nat.reduceLT, Nat.reduceLeDiff, Nat.reduceEqDiff, reduceCtorEq, Int.reduceAdd, Int.reduceSub, Int.reduceNeg, Int.reduceLE, Int.reduceLT, Int.reduceToNat, Int.reduceBEq, Int.reduceBNe, Int.reduceEq, Int.reduceNe, Int.toNat_zero, Int.toNat_one, bne_self_eq_false, Nat.reduceMul, Nat.zero_mul, Nat.mul_one, Nat.one_mul, Nat.reduceSub, Int.cast_ofNat_Int, Int.toNat_natCast, List.length_cons]
        have hil := itoa_len (0 - q1 - 1) (by omega) (by omega)
        have hq3 : (t.m == u0.m && (t.kg == u0.kg && (t.s == u0.s && (t.a == u0.a && t.k == u0.k)))) = ueq (unF t) u0 := rfl
        have htl := txt_len6 (unF t)
        refine ⟨by omega, ?_⟩
        refine mtch (fun h0 => ?_) (fun h0 => ?_)
        · have h0 : k ≠ 0 := by have := of_decide_eq_true h0; omega
          rw [if_neg h0] at hres
          refine Sm.opq rfl rfl ⟨[], _, fun _ => Stp.addrG (g := 0) (off := 0) (k := k) rfl rfl rfl (len := 7) (sz := 1) rfl (by omega) (by omega), .inl rfl, ?_⟩
          refine Sm.go 170 ?_
          simp (config := { maxSteps := 2000000 }) only [go_sem, Nat.reduceBEq, Nat.reduceAdd, Nat.reduceLT, Nat.reduceLeDiff, Nat.reduceEqDiff, reduceCtorEq, Int.reduceAdd, Int.reduceSub, Int.reduceNeg, Int.reduceLE, Int.reduceLT, Int.reduceToNat, Int.reduceBEq, Int.reduceBNe, Int.reduceEq, Int.reduceNe, Int.toNat_zero, Int.toNat_one, bne_self_eq_false, Nat.reduceMul, Nat.zero_mul, Nat.mul_one, Nat.one_mul, Nat.reduceSub, Int.cast_ofNat_Int, Int.toNat_natCast]
          refine Sm.opC 170 rfl rfl (.inl rfl) (fun _ => StpC.ldG hG (g := 0) (i := k) (cs := tensV) (by simp [gsX]) (tens_get hk) rfl rfl rfl) ?_
          have wx : IntKind.i64.wrap (((10 ^ k : Nat) : Int) + (((10 ^ k : Nat) : Int) - x1)) = ((10 ^ k : Nat) : Int) + (((10 ^ k : Nat) : Int) - x1) := w64 (by omega) (by omega)
          simp (config := { maxSteps := 2000000 }) only [go_sem, Nat.reduceBEq, Nat.reduceAdd, Nat.reduceLT, Nat.reduceLeDiff, Nat.reduceEqDiff, reduceCtorEq, Int.reduceAdd, Int.reduceSub, Int.reduceNeg, Int.reduceLE, Int.reduceLT, Int.reduceToNat, Int.reduceBEq, Int.reduceBNe, Int.reduceEq, Int.reduceNe, Int.toNat_zero, Int.toNat_one, bne_self_eq_false, Nat.reduceMul, Nat.zero_mul, Nat.mul_one, Nat.one_mul, Nat.reduceSub, Int.cast_ofNat_Int, Int.toNat_natCast, wx]
          refine CallQ.ofG 180 hG (textG (((10 ^ k : Nat) : Int) + (((10 ^ k : Nat) : Int) - x1)) (by omega) (by omega)) rfl rfl rfl ?_
          have hil2 := itoa_len (((10 ^ k : Nat) : Int) + (((10 ^ k : Nat) : Int) - x1)) (by omega) (by omega)
          generalize Lib.itoa (((10 ^ k : Nat) : Int) + (((10 ^ k : Nat) : Int) - x1)) = L2 at *
          simp (config := { maxSteps := 2000000 }) only [go_sem, Nat.reduceBEq, Nat.reduceAdd, Nat.reduceLT, Nat.reduceLeDiff, Nat.reduceEqDiff, reduceCtorEq, Int.reduceAdd, Int.reduceSub, Int.reduceNeg, Int.reduceLE, Int.reduceLT, Int.reduceToNat, Int.reduceBEq, Int.reduceBNe, Int.reduceEq, Int.reduceNe, Int.toNat_zero, Int.toNat_one, bne_self_eq_false, Nat.reduceMul, Nat.zero_mul, Nat.mul_one, Nat.one_mul, Nat.reduceSub, Int.cast_ofNat_Int, Int.toNat_natCast, List.length_append, List.length_cons, List.length_drop]
          have e5 : List.take ((L2.length : Int) - 1).toNat (List.drop 1 L2) = List.drop 1 L2 := List.take_of_length_le (by simp)
          simp only [e5, List.length_drop]
          refine ⟨⟨by omega, by omega⟩, by omega, by omega, ?_⟩
          refine Sm.dgo 190 3 mix (by decide +kernel) (by decide +kernel) ?_
          simp (config := { maxSteps := 2000000 }) only [go_sem, Nat.reduceBEq, Nat.reduceAdd, Nat.reduceLT, Nat.reduceLeDiff, Nat.reduceEqDiff, reduceCtorEq, Int.reduceAdd, Int.reduceSub, Int.reduceNeg, Int.reduceLE, Int.reduceLT, Int.reduceToNat, Int.reduceBEq, Int.reduceBNe, Int.reduceEq, Int.reduceNe, Int.toNat_zero, Int.toNat_one, bne_self_eq_false, Nat.reduceMul, Nat.zero_mul, Nat.mul_one, Nat.one_mul, Nat.reduceSub, Int.cast_ofNat_Int, Int.toNat_natCast]
          refine DCallQ.pure 190 one_ rfl ?_
          simp (config := { maxSteps := 2000000 }) only [go_sem, Nat.reduceBEq, Nat.reduceAdd, Nat.reduceLT, Nat.reduceLeDiff, Nat.reduceEqDiff, reduceCtorEq, Int.reduceAdd, Int.reduceSub, Int.reduceNeg, Int.reduceLE, Int.reduceLT, Int.reduceToNat, Int.reduceBEq, Int.reduceBNe, Int.reduceEq, Int.reduceNe, Int.toNat_zero, Int.toNat_one, bne_self_eq_false, Nat.reduceMul, Nat.zero_mul, Nat.mul_one, Nat.one_mul, Nat.reduceSub, Int.cast_ofNat_Int, Int.toNat_natCast]
          simp only [hq3]
          refine mtch (fun hu => ?_) (fun hu => ?_)
          · have hu : ¬ ueq (unF t) u0 = true := by simpa using hu
            rw [if_neg hu] at hres
            rw [hres] at hR
            refine CallQ.pure 200 (text_ (unF t)) rfl ?_
            simp (config := { maxSteps := 2000000 }) only [go_sem, Nat.reduceBEq, Nat.reduceAdd, Nat.reduceLT, Nat.reduceLeDiff, Nat.reduceEqDiff, reduceCtorEq, Int.reduceAdd, Int.reduceSub, Int.reduceNeg, Int.reduceLE, Int.reduceLT, Int.reduceToNat, Int.reduceBEq, Int.reduceBNe, Int.reduceEq, Int.reduceNe, Int.toNat_zero, Int.toNat_one, bne_self_eq_false, Nat.reduceMul, Nat.zero_mul, Nat.mul_one, Nat.one_mul, Nat.reduceSub, Int.cast_ofNat_Int, Int.toNat_natCast, List.length_append, List.length_cons, List.length_drop]
            refine ⟨by omega, by omega, ?_⟩
            exact RetQ.of hR rfl ⟨rfl, trivial⟩ (by simp [V.toW, W.toV]) (Sub.nil _) ClM.nil (ClV.of rfl)
          · have hu : ueq (unF t) u0 = true := by simpa using hu
            rw [if_pos hu] at hres
            rw [hres] at hR
            exact RetQ.of hR rfl ⟨rfl, trivial⟩ (by simp [V.toW, W.toV]) (Sub.nil _) ClM.nil (ClV.of rfl)
        · have h0 : k = 0 := by have := of_decide_eq_false h0; omega
          rw [if_pos h0] at hres
          refine Sm.dgo 190 3 mix (by decide +kernel) (by decide +kernel) ?_
          simp (config := { maxSteps := 2000000 }) only [go_sem, Nat.reduceBEq, Nat.reduceAdd, Nat.reduceLT, Nat.reduceLeDiff, Nat.reduceEqDiff, reduceCtorEq, Int.reduceAdd, Int.reduceSub, Int.reduceNeg, Int.reduceLE, Int.reduceLT, Int.reduceToNat, Int.reduceBEq, Int.reduceBNe, Int.reduceEq, Int.reduceNe, Int.toNat_zero, Int.toNat_one, bne_self_eq_false, Nat.reduceMul, Nat.zero_mul, Nat.mul_one, Nat.one_mul, Nat.reduceSub, Int.cast_ofNat_Int, Int.toNat_natCast]
          refine DCallQ.pure 190 one_ rfl ?_
          simp (config := { maxSteps := 2000000 }) only [go_sem, Nat.reduceBEq, Nat.reduceAdd, Nat.reduceLT, Nat.reduceLeDiff, Nat.reduceEqDiff, reduceCtorEq, Int.reduceAdd, Int.reduceSub, Int.reduceNeg, Int.reduceLE, Int.reduceLT, Int.reduceToNat, Int.reduceBEq, Int.reduceBNe, Int.reduceEq, Int.reduceNe, Int.toNat_zero, Int.toNat_one, bne_self_eq_false, Nat.reduceMul, Nat.zero_mul, Nat.mul_one, Nat.one_mul, Nat.reduceSub, Int.cast_ofNat_Int, Int.toNat_natCast]
          simp only [hq3]
          refine mtch (fun hu => ?_) (fun hu => ?_)
          · have hu : ¬ ueq (unF t) u0 = true := by simpa using hu
            rw [if_neg hu] at hres
            rw [hres] at hR
            refine CallQ.pure 200 (text_ (unF t)) rfl ?_
            simp (config := { maxSteps := 2000000 }) only [go_sem, Nat.reduceBEq, Nat.reduceAdd, Nat.reduceLT, Nat.reduceLeDiff, Nat.reduceEqDiff, reduceCtorEq, Int.reduceAdd, Int.reduceSub, Int.reduceNeg, Int.reduceLE, Int.reduceLT, Int.reduceToNat, Int.reduceBEq, Int.reduceBNe, Int.reduceEq, Int.reduceNe, Int.toNat_zero, Int.toNat_one, bne_self_eq_false, Nat.reduceMul, Nat.zero_mul, Nat.mul_one, Nat.one_mul, Nat.reduceSub, Int.cast_ofNat_Int, Int.toNat_natCast, List.length_append, List.length_cons]
            refine ⟨by omega, by omega, ?_⟩
            exact RetQ.of hR rfl ⟨rfl, trivial⟩ (by simp [V.toW, W.toV]) (Sub.nil _) ClM.nil (ClV.of rfl)
          · have hu : ueq (unF t) u0 = true := by simpa using hu
            rw [if_pos hu] at hres
            rw [hres] at hR
            exact RetQ.of hR rfl ⟨rfl, trivial⟩ (by simp [V.toW, W.toV]) (Sub.nil _) ClM.nil (ClV.of rfl)
      · have hp : ¬ 0 < x1 := by have := of_decide_eq_false hp; omega
        rw [if_neg hp] at hf3
        rw [if_neg (by omega)] at hf4
        rw [hf3, hf4] at hres
        simp only [wn]
        rw [show -q1 = 0 - q1 by omega] at hres
        refine CallQ.ofG 160 hG (textG (0 - q1) (by omega) (by omega)) rfl rfl rfl ?_
        simp (config := { maxSteps := 2000000 }) only [go_sem, Nat.reduceBEq, Nat.reduceAdd, Nat.reduceLT, Nat.reduceLeDiff, Nat.reduceEqDiff, reduceCtorEq, Int.reduceAdd, Int.reduceSub, Int.reduceNeg, Int.reduceLE, Int.reduceLT, Int.reduceToNat, Int.reduceBEq, Int.reduceBNe, Int.reduceEq, Int.reduceNe, Int.toNat_zero, Int.toNat_one, bne_self_eq_false, Nat.reduceMul, Nat.zero_mul, Nat.mul_one, Nat.one_mul, Nat.reduceSub, Int.cast_ofNat_Int, Int.toNat_natCast, List.length_cons]
        have hil := itoa_len (0 - q1) (by omega) (by omega)
        have hq3 : (t.m == u0.m && (t.kg == u0.kg && (t.s == u0.s && (t.a == u0.a && t.k == u0.k)))) = ueq (unF t) u0 := rfl
        have htl := txt_len6 (unF t)
        refine ⟨by omega, ?_⟩
        refine mtch (fun h0 => ?_) (fun h0 => ?_)
        · have h0 : k ≠ 0 := by have := of_decide_eq_true h0; omega
          rw [if_neg h0] at hres
          refine Sm.opq rfl rfl ⟨[], _, fun _ => Stp.addrG (g := 0) (off := 0) (k := k) rfl rfl rfl (len := 7) (sz := 1) rfl (by omega) (by omega), .inl rfl, ?_⟩
          refine Sm.go 170 ?_
          simp (config := { maxSteps := 2000000 }) only [go_sem, Nat.reduceBEq, Nat.reduceAdd, Nat.reduceLT, Nat.reduceLeDiff, Nat.reduceEqDiff, reduceCtorEq, Int.reduceAdd, Int.reduceSub, Int.reduceNeg, Int.reduceLE, Int.reduceLT, Int.reduceToNat, Int.reduceBEq, Int.reduceBNe, Int.reduceEq, Int.reduceNe, Int.toNat_zero, Int.toNat_one, bne_self_eq_false, Nat.reduceMul, Nat.zero_mul, Nat.mul_one, Nat.one_mul, Nat.reduceSub, Int.cast_ofNat_Int, Int.toNat_natCast]
          refine Sm.opC 170 rfl rfl (.inl rfl) (fun _ => StpC.ldG hG (g := 0) (i := k) (cs := tensV) (by simp [gsX]) (tens_get hk) rfl rfl rfl) ?_
          have wx : IntKind.i64.wrap (((10 ^ k : Nat) : Int) + x1) = ((10 ^ k : Nat) : Int) + x1 := w64 (by omega) (by omega)
          simp (config := { maxSteps := 2000000 }) only [go_sem, Nat.reduceBEq, Nat.reduceAdd, Nat.reduceLT, Nat.reduceLeDiff, Nat.reduceEqDiff, reduceCtorEq, Int.reduceAdd, Int.reduceSub, Int.reduceNeg, Int.reduceLE, Int.reduceLT, Int.reduceToNat, Int.reduceBEq, Int.reduceBNe, Int.reduceEq, Int.reduceNe, Int.toNat_zero, Int.toNat_one, bne_self_eq_false, Nat.reduceMul, Nat.zero_mul, Nat.mul_one, Nat.one_mul, Nat.reduceSub, Int.cast_ofNat_Int, Int.toNat_natCast, wx]
          refine CallQ.ofG 180 hG (textG (((10 ^ k : Nat) : Int) + x1) (by omega) (by omega)) rfl rfl rfl ?_
          have hil2 := itoa_len (((10 ^ k : Nat) : Int) + x1) (by omega) (by omega)
          generalize Lib.itoa (((10 ^ k : Nat) : Int) + x1) = L2 at *
          simp (config := { maxSteps := 2000000 }) only [go_sem, Nat.reduceBEq, Nat.reduceAdd, Nat.reduceLT, Nat.reduceLeDiff, Nat.reduceEqDiff, reduceCtorEq, Int.reduceAdd, Int.reduceSub, Int.reduceNeg, Int.reduceLE, Int.reduceLT, Int.reduceToNat, Int.reduceBEq, Int.reduceBNe, Int.reduceEq, Int.reduceNe, Int.toNat_zero, Int.toNat_one, bne_self_eq_false, Nat.reduceMul, Nat.zero_mul, Nat.mul_one, Nat.one_mul, Nat.reduceSub, Int.cast_ofNat_Int, Int.toNat_natCast, List.length_append, List.length_cons, List.length_drop]
          have e5 : List.take ((L2.length : Int) - 1).toNat (List.drop 1 L2) = List.drop 1 L2 := List.take_of_length_le (by simp)
          simp only [e5, List.length_drop]
          refine ⟨⟨by omega, by omega⟩, by omega, by omega, ?_⟩
          refine Sm.dgo 190 3 mix (by decide +kernel) (by decide +kernel) ?_
          simp (config := { maxSteps := 2000000 }) only [go_sem, Nat.reduceBEq, Nat.reduceAdd, Nat.reduceLT, Nat.reduceLeDiff, Nat.reduceEqDiff, reduceCtorEq, Int.reduceAdd, Int.reduceSub, Int.reduceNeg, Int.reduceLE, Int.reduceLT, Int.reduceToNat, Int.reduceBEq, Int.reduceBNe, Int.reduceEq, Int.reduceNe, Int.toNat_zero, Int.toNat_one, bne_self_eq_false, Nat.reduceMul, Nat.zero_mul, Nat.mul_one, Nat.one_mul, Nat.reduceSub, Int.cast_ofNat_Int, Int.toNat_natCast]
          refine DCallQ.pure 190 one_ rfl ?_
          simp (config := { maxSteps := 2000000 }) only [go_sem, Nat.reduceBEq, Nat.reduceAdd, Nat.reduceLT, Nat.reduceLeDiff, Nat.reduceEqDiff, reduceCtorEq, Int.reduceAdd, Int.reduceSub, Int.reduceNeg, Int.reduceLE, Int.reduceLT, Int.reduceToNat, Int.reduceBEq, Int.reduceBNe, Int.reduceEq, Int.reduceNe, Int.toNat_zero, Int.toNat_one, bne_self_eq_false, Nat.reduceMul, Nat.zero_mul, Nat.mul_one, Nat.one_mul, Nat.reduceSub, Int.cast_ofNat_Int, Int.toNat_natCast]
          simp only [hq3]
          refine mtch (fun hu => ?_) (fun hu => ?_)
          · have hu : ¬ ueq (unF t) u0 = true := by simpa using hu
            rw [if_neg hu] at hres
            rw [hres] at hR
            refine CallQ.pure 200 (text_ (unF t)) rfl ?_
            simp (config := { maxSteps := 2000000 }) only [go_sem, Nat.reduceBEq, Nat.reduceAdd, Nat.reduceLT, Nat.reduceLeDiff, Nat.reduceEqDiff, reduceCtorEq, Int.reduceAdd, Int.reduceSub, Int.reduceNeg, Int.reduceLE, Int.reduceLT, Int.reduceToNat, Int.reduceBEq, Int.reduceBNe, Int.reduceEq, Int.reduceNe, Int.toNat_zero, Int.toNat_one, bne_self_eq_false, Nat.reduceMul, Nat.zero_mul, Nat.mul_one, Nat.one_mul, Nat.reduceSub, Int.cast_ofNat_Int, Int.toNat_natCast, List.length_append, List.length_cons, List.length_drop]
            refine ⟨by omega, by omega, ?_⟩
            exact RetQ.of hR rfl ⟨rfl, trivial⟩ (by simp [V.toW, W.toV]) (Sub.nil _) ClM.nil (ClV.of rfl)
          · have hu : ueq (unF t) u0 = true := by simpa using hu
            rw [if_pos hu] at hres
            rw [hres] at hR
            exact RetQ.of hR rfl ⟨rfl, trivial⟩ (by simp [V.toW, W.toV]) (Sub.nil _) ClM.nil (ClV.of rfl)
        · have h0 : k = 0 := by have := of_decide_eq_false h0; omega
          rw [if_pos h0] at hres
          refine Sm.dgo 190 3 mix (by decide +kernel) (by decide +kernel) ?_
          simp (config := { maxSteps := 2000000 }) only [go_sem, Nat.reduceBEq, Nat.reduceAdd, Nat.reduceLT, Nat.reduceLeDiff, Nat.reduceEqDiff, reduceCtorEq, Int.reduceAdd, Int.reduceSub, Int.reduceNeg, Int.reduceLE, Int.reduceLT, Int.reduceToNat, Int.reduceBEq, Int.reduceBNe, Int.reduceEq, Int.reduceNe, Int.toNat_zero, Int.toNat_one, bne_self_eq_false, Nat.reduceMul, Nat.zero_mul, Nat.mul_one, Nat.one_mul, Nat.reduceSub, Int.cast_ofNat_Int, Int.toNat_natCast]
          refine DCallQ.pure 190 one_ rfl ?_
          simp (config := { maxSteps := 2000000 }) only [go_sem, Nat.reduceBEq, Nat.reduceAdd, Nat.reduceLT, Nat.reduceLeDiff, Nat.reduceEqDiff, reduceCtorEq, Int.reduceAdd, Int.reduceSub, Int.reduceNeg, Int.reduceLE, Int.reduceLT, Int.reduceToNat, Int.reduceBEq, Int.reduceBNe, Int.reduceEq, Int.reduceNe, Int.toNat_zero, Int.toNat_one, bne_self_eq_false, Nat.reduceMul, Nat.zero_mul, Nat.mul_one, Nat.one_mul, Nat.reduceSub, Int.cast_ofNat_Int, Int.toNat_natCast]
          simp only [hq3]
          refine mtch (fun hu => ?_) (fun hu => ?_)
          · have hu : ¬ ueq (unF t) u0 = true := by simpa using hu
            rw [if_neg hu] at hres
            rw [hres] at hR
            refine CallQ.pure 200 (text_ (unF t)) rfl ?_
            simp (config := { maxSteps := 2000000 }) only [go_sem, Nat.reduceBEq, Nat.reduceAdd, Nat.reduceLT, Nat.reduceLeDiff, Nat.reduceEqDiff, reduceCtorEq, Int.reduceAdd, Int.reduceSub, Int.reduceNeg, Int.reduceLE, Int.reduceLT, Int.reduceToNat, Int.reduceBEq, Int.reduceBNe, Int.reduceEq, Int.reduceNe, Int.toNat_zero, Int.toNat_one, bne_self_eq_false, Nat.reduceMul, Nat.zero_mul, Nat.mul_one, Nat.one_mul, Nat.reduceSub, Int.cast_ofNat_Int, Int.toNat_natCast, List.length_append, List.length_cons]
            refine ⟨by omega, by omega, ?_⟩
            exact RetQ.of hR rfl ⟨rfl, trivial⟩ (by simp [V.toW, W.toV]) (Sub.nil _) ClM.nil (ClV.of rfl)
          · have hu : ueq (unF t) u0 = true := by simpa using hu
            rw [if_pos hu] at hres
            rw [hres] at hR
            exact RetQ.of hR rfl ⟨rfl, trivial⟩ (by simp [V.toW, W.toV]) (Sub.nil _) ClM.nil (ClV.of rfl)
    · have hg : ¬ q1 < 0 := by have := of_decide_eq_false hg; omega
      rw [if_neg hg] at hf3
      rw [if_neg (by omega)] at hf4
      rw [if_neg hg, hf3, hf4] at hres
      refine CallQ.ofG 160 hG (textG (q1) (by omega) (by omega)) rfl rfl rfl ?_
      simp (config := { maxSteps := 2000000 }) only [go_sem, Nat.reduceBEq, Nat.reduceAdd, Nat.reduceLT, Nat.reduceLeDiff, Nat.reduceEqDiff, reduceCtorEq, Int.reduceAdd, Int.reduceSub, Int.reduceNeg, Int.reduceLE, Int.reduceLT, Int.reduceToNat, Int.reduceBEq, Int.reduceBNe, Int.reduceEq, Int.reduceNe, Int.toNat_zero, Int.toNat_one, bne_self_eq_false, Nat.reduceMul, Nat.zero_mul, Nat.mul_one, Nat.one_mul, Nat.reduceSub, Int.cast_ofNat_Int, Int.toNat_natCast, List.length_cons]
      have hil := itoa_len (q1) (by omega) (by omega)
      have hq3 : (t.m == u0.m && (t.kg == u0.kg && (t.s == u0.s && (t.a == u0.a && t.k == u0.k)))) = ueq (unF t) u0 := rfl
      have htl := txt_len6 (unF t)
      refine ⟨by omega, ?_⟩
      refine mtch (fun h0 => ?_) (fun h0 => ?_)
      · have h0 : k ≠ 0 := by have := of_decide_eq_true h0; omega
        rw [if_neg h0] at hres
        refine Sm.opq rfl rfl ⟨[], _, fun _ => Stp.addrG (g := 0) (off := 0) (k := k) rfl rfl rfl (len := 7) (sz := 1) rfl (by omega) (by omega), .inl rfl, ?_⟩
        refine Sm.go 170 ?_
        simp (config := { maxSteps := 2000000 }) only [go_sem, Nat.reduceBEq, Nat.reduceAdd, Nat.reduceLT, Nat.reduceLeDiff, Nat.reduceEqDiff, reduceCtorEq, Int.reduceAdd, Int.reduceSub, Int.reduceNeg, Int.reduceLE, Int.reduceLT, Int.reduceToNat, Int.reduceBEq, Int.reduceBNe, Int.reduceEq, Int.reduceNe, Int.toNat_zero, Int.toNat_one, bne_self_eq_false, Nat.reduceMul, Nat.zero_mul, Nat.mul_one, Nat.one_mul, Nat.reduceSub, Int.cast_ofNat_Int, Int.toNat_natCast]
        refine Sm.opC 170 rfl rfl (.inl rfl) (fun _ => StpC.ldG hG (g := 0) (i := k) (cs := tensV) (by simp [gsX]) (tens_get hk) rfl rfl rfl) ?_
        have wx : IntKind.i64.wrap (((10 ^ k : Nat) : Int) + x1) = ((10 ^ k : Nat) : Int) + x1 := w64 (by omega) (by omega)
        simp (config := { maxSteps := 2000000 }) only [go_sem, Nat.reduceBEq, Nat.reduceAdd, Nat.reduceLT, Nat.reduceLeDiff, Nat.reduceEqDiff, reduceCtorEq, Int.reduceAdd, Int.reduceSub, Int.reduceNeg, Int.reduceLE, Int.reduceLT, Int.reduceToNat, Int.reduceBEq, Int.reduceBNe, Int.reduceEq, Int.reduceNe, Int.toNat_zero, Int.toNat_one, bne_self_eq_false, Nat.reduceMul, Nat.zero_mul, Nat.mul_one, Nat.one_mul, Nat.reduceSub, Int.cast_ofNat_Int, Int.toNat_natCast, wx]
        refine CallQ.ofG 180 hG (textG (((10 ^ k : Nat) : Int) + x1) (by omega) (by omega)) rfl rfl rfl ?_
        have hil2 := itoa_len (((10 ^ k : Nat) : Int) + x1) (by omega) (by omega)
        generalize Lib.itoa (((10 ^ k : Nat) : Int) + x1) = L2 at *
        simp (config := { maxSteps := 2000000 }) only [go_sem, Nat.reduceBEq, Nat.reduceAdd, Nat.reduceLT, Nat.reduceLeDiff, Nat.reduceEqDiff, reduceCtorEq, Int.reduceAdd, Int.reduceSub, Int.reduceNeg, Int.reduceLE, Int.reduceLT, Int.reduceToNat, Int.reduceBEq, Int.reduceBNe, Int.reduceEq, Int.reduceNe, Int.toNat_zero, Int.toNat_one, bne_self_eq_false, Nat.reduceMul, Nat.zero_mul, Nat.mul_one, Nat.one_mul, Nat.reduceSub, Int.cast_ofNat_Int, Int.toNat_natCast, List.length_append, List.length_cons, List.length_drop]
        have e5 : List.take ((L2.length : Int) - 1).toNat (List.drop 1 L2) = List.drop 1 L2 := List.take_of_length_le (by simp)
        simp only [e5, List.length_drop]
        refine ⟨⟨by omega, by omega⟩, by omega, by omega, ?_⟩
        refine Sm.dgo 190 3 mix (by decide +kernel) (by decide +kernel) ?_
        simp (config := { maxSteps := 2000000 }) only [go_sem, Nat.reduceBEq, Nat.reduceAdd, Nat.reduceLT, Nat.reduceLeDiff, Nat.reduceEqDiff, reduceCtorEq, Int.reduceAdd, Int.reduceSub, Int.reduceNeg, Int.reduceLE, Int.reduceLT, Int.reduceToNat, Int.reduceBEq, Int.reduceBNe, Int.reduceEq, Int.reduceNe, Int.toNat_zero, Int.toNat_one, bne_self_eq_false, Nat.reduceMul, Nat.zero_mul, Nat.mul_one, Nat.one_mul, Nat.reduceSub, Int.cast_ofNat_Int, Int.toNat_natCast]
        refine DCallQ.pure 190 one_ rfl ?_
        simp (config := { maxSteps := 2000000 }) only [go_sem, Nat.reduceBEq, Nat.reduceAdd, Nat.reduceLT, Nat.reduceLeDiff, Nat.reduceEqDiff, reduceCtorEq, Int.reduceAdd, Int.reduceSub, Int.reduceNeg, Int.reduceLE, Int.reduceLT, Int.reduceToNat, Int.reduceBEq, Int.reduceBNe, Int.reduceEq, Int.reduceNe, Int.toNat_zero, Int.toNat_one, bne_self_eq_false, Nat.reduceMul, Nat.zero_mul, Nat.mul_one, Nat.one_mul, Nat.reduceSub, Int.cast_ofNat_Int, Int.toNat_natCast]
        simp only [hq3]
        refine mtch (fun hu => ?_) (fun hu => ?_)
        · have hu : ¬ ueq (unF t) u0 = true := by simpa using hu
          rw [if_neg hu] at hres
          rw [hres] at hR
          refine CallQ.pure 200 (text_ (unF t)) rfl ?_
          simp (config := { maxSteps := 2000000 }) only [go_sem, Nat.reduceBEq, Nat.reduceAdd, Nat.reduceLT, Nat.reduceLeDiff, Nat.reduceEqDiff, reduceCtorEq, Int.reduceAdd, Int.reduceSub, Int.reduceNeg, Int.reduceLE, Int.reduceLT, Int.reduceToNat, Int.reduceBEq, Int.reduceBNe, Int.reduceEq, Int.reduceNe, Int.toNat_zero, Int.toNat_one, bne_self_eq_false, Nat.reduceMul, Nat.zero_mul, Nat.mul_one, Nat.one_mul, Nat.reduceSub, Int.cast_ofNat_Int, Int.toNat_natCast, List.length_append, List.length_cons, List.length_drop]
          refine ⟨by omega, by omega, ?_⟩
          exact RetQ.of hR rfl ⟨rfl, trivial⟩ (by simp [V.toW, W.toV]) (Sub.nil _) ClM.nil (ClV.of rfl)
        · have hu : ueq (unF t) u0 = true := by simpa using hu
          rw [if_pos hu] at hres
          rw [hres] at hR
          exact RetQ.of hR rfl ⟨rfl, trivial⟩ (by simp [V.toW, W.toV]) (Sub.nil _) ClM.nil (ClV.of rfl)
      · have h0 : k = 0 := by have := of_decide_eq_false h0; omega
        rw [if_pos h0] at hres
        refine Sm.dgo 190 3 mix (by decide +kernel) (by decide +kernel) ?_
        simp (config := { maxSteps := 2000000 }) only [go_sem, Nat.reduceBEq, Nat.reduceAdd, Nat.reduceLT, Nat.reduceLeDiff, Nat.reduceEqDiff, reduceCtorEq, Int.reduceAdd, Int.reduceSub, Int.reduceNeg, Int.reduceLE, Int.reduceLT, Int.reduceToNat, Int.reduceBEq, Int.reduceBNe, Int.reduceEq, Int.reduceNe, Int.toNat_zero, Int.toNat_one, bne_self_eq_false, Nat.reduceMul, Nat.zero_mul, Nat.mul_one, Nat.one_mul, Nat.reduceSub, Int.cast_ofNat_Int, Int.toNat_natCast]
        refine DCallQ.pure 190 one_ rfl ?_
        simp (config := { maxSteps := 2000000 }) only [go_sem, Nat.reduceBEq, Nat.reduceAdd, Nat.reduceLT, Nat.reduceLeDiff, Nat.reduceEqDiff, reduceCtorEq, Int.reduceAdd, Int.reduceSub, Int.reduceNeg, Int.reduceLE, Int.reduceLT, Int.reduceToNat, Int.reduceBEq, Int.reduceBNe, Int.reduceEq, Int.reduceNe, Int.toNat_zero, Int.toNat_one, bne_self_eq_false, Nat.reduceMul, Nat.zero_mul, Nat.mul_one, Nat.one_mul, Nat.reduceSub, Int.cast_ofNat_Int, Int.toNat_natCast]
        simp only [hq3]
        refine mtch (fun hu => ?_) (fun hu => ?_)
        · have hu : ¬ ueq (unF t) u0 = true := by simpa using hu
          rw [if_neg hu] at hres
          rw [hres] at hR
          refine CallQ.pure 200 (text_ (unF t)) rfl ?_
          simp (config := { maxSteps := 2000000 }) only [go_sem, Nat.reduceBEq, Nat.reduceAdd, Nat.reduceLT, Nat.reduceLeDiff, Nat.reduceEqDiff, reduceCtorEq, Int.reduceAdd, Int.reduceSub, Int.reduceNeg, Int.reduceLE, Int.reduceLT, Int.reduceToNat, Int.reduceBEq, Int.reduceBNe, Int.reduceEq, Int.reduceNe, Int.toNat_zero, Int.toNat_one, bne_self_eq_false, Nat.reduceMul, Nat.zero_mul, Nat.mul_one, Nat.one_mul, Nat.reduceSub, Int.cast_ofNat_Int, Int.toNat_natCast, List.length_append, List.length_cons]
          refine ⟨by omega, by omega, ?_⟩
          exact RetQ.of hR rfl ⟨rfl, trivial⟩ (by simp [V.toW, W.toV]) (Sub.nil _) ClM.nil (ClV.of rfl)
        · have hu : ueq (unF t) u0 = true := by simpa using hu
          rw [if_pos hu] at hres
          rw [hres] at hR
          exact RetQ.of hR rfl ⟨rfl, trivial⟩ (by simp [V.toW, W.toV]) (Sub.nil _) ClM.nil (ClV.of rfl)
end Go.Proofs.YtoioclmfjmgaaaaDoor.Fx
