/- Contracts of math/bits: Len64, LeadingZeros64. -/
import Derived.Test.YtoioclmfjmgaaaaDoorFC1
namespace Go.Proofs.YtoioclmfjmgaaaaDoor.Fx
open Vg Tf
set_option linter.unusedSimpArgs false
set_option linter.unusedVariables false
set_option maxRecDepth 100000
theorem shrK (x : Int) (k : Nat) : x.fdiv (2 ^ k) = x / 2 ^ k := Int.fdiv_eq_ediv_of_nonneg x (Int.le_of_lt (Int.pow_pos (by omega)))
theorem tabI {T : List UInt8} (hT : (List.range 256).all (fun k => (T.getD k 0).toNat == if k = 0 then 0 else Nat.log2 k + 1) = true) {k : Nat} (hk : k < 256) (h0 : k ≠ 0) : (T.getD k 0).toNat = Nat.log2 k + 1 := by
  have := List.all_eq_true.1 hT k (by simpa using hk)
  simpa [h0] using this
theorem log_sh (x c : Nat) (h : 1 ≤ x / 2 ^ c) : c + (Nat.log2 (x / 2 ^ c) + 1) = Nat.log2 x + 1 := by
  have hp := Nat.two_pow_pos c
  have hx : x ≠ 0 := by rintro rfl; simp at h
  have h1 := Nat.log2_self_le (show x / 2 ^ c ≠ 0 by omega)
  have h2 := Nat.lt_log2_self (n := x / 2 ^ c)
  have : Nat.log2 x = c + Nat.log2 (x / 2 ^ c) := by
    rw [Nat.log2_eq_iff hx]
    constructor
    · rw [Nat.pow_add, Nat.mul_comm]
      exact (Nat.le_div_iff_mul_le hp).1 h1
    · rw [Nat.add_assoc, Nat.pow_add, Nat.mul_comm]
      exact (Nat.div_lt_iff_lt_mul hp).1 h2
  omega
theorem len64 (x : Int) (h0 : 0 < x) (h1 : x < 18446744073709551616) : CallOk Tryd.prog 109 [U x] [] (I ((Nat.log2 x.toNat + 1 : Nat) : Int)) [] := by
  obtain ⟨m, rfl⟩ := Int.eq_ofNat_of_zero_le (show 0 ≤ x by omega)
  have hl : Nat.log2 m < 64 := by
    have := Nat.log2_self_le (show m ≠ 0 by omega)
    rcases Nat.lt_or_ge (Nat.log2 m) 64 with h | h
    · exact h
    · have := Nat.pow_le_pow_right (n := 2) (by omega) h; omega
  rw [Int.toNat_natCast]
  have fin : ∀ (T : List UInt8) (c : Nat) (i : Int), (List.range 256).all (fun k => (T.getD k 0).toNat == if k = 0 then 0 else Nat.log2 k + 1) = true → i = ((m / 2 ^ c : Nat) : Int) → 1 ≤ m / 2 ^ c → m / 2 ^ c < 256 →
      IntKind.i64.wrap ((c : Int) + IntKind.i64.wrap ((T.getD (IntKind.u8.wrap i).toNat 0).toNat : Int)) = ((Nat.log2 m + 1 : Nat) : Int) := by
    intro T c i hT hi h2 h3
    have e1 : IntKind.u8.wrap i = i := by rw [hi, IntKind.wrap_u8]; omega
    rw [e1, hi, Int.toNat_natCast, tabI hT h3 (by omega)]
    have := log_sh m c h2
    rw [w64 (x := ((Nat.log2 (m / 2 ^ c) + 1 : Nat) : Int)) (by omega) (by omega), w64 (by omega) (by omega)]
    omega
  refine CallOk.mk 100 Tryd.func109 rfl en109 (by simp [Tryd.ntmps109]) (by simp [ClV, V.g, Cv.g]) fun C hR => ?_
  simp (config := { maxSteps := 2000000 }) only [go_sem, Nat.reduceBEq, Nat.reduceAdd, Nat.reduceLT, Nat.reduceLeDiff, Nat.reduceEqDiff, reduceCtorEq, Int.reduceAdd, Int.reduceSub, Int.reduceNeg, Int.reduceLE, Int.reduceLT, Int.reduceToNat, Int.reduceBEq, Int.reduceBNe, Int.reduceEq, Int.reduceNe, Int.toNat_zero, Int.toNat_one, bne_self_eq_false, Nat.reduceMul, Nat.zero_mul, Nat.mul_one, Nat.one_mul, Nat.reduceSub, Int.cast_ofNat_Int, Int.toNat_natCast]
  simp only [shrK]
  by_cases d0_0 : 4294967296 ≤ m
  · have e0 : decide (4294967296 ≤ (m : Int)) = true := by simp; omega
    simp only [e0]
    by_cases d1_32 : 281474976710656 ≤ m
    · have e1 : decide (65536 ≤ (m : Int) / 2 ^ min 32 64) = true := by simp; omega
      simp only [e1]
      by_cases d2_48 : 72057594037927936 ≤ m
      · have e2 : decide (256 ≤ (m : Int) / 2 ^ min 32 64 / 2 ^ min 16 64) = true := by simp; omega
        simp only [e2]
        refine ⟨by rw [IntKind.wrap_u8]; simp; omega, ?_⟩
        exact RetQ.int hR rfl ⟨rfl, trivial⟩ (fin _ 56 _ (by decide +kernel) (by simp <;> omega) (by omega) (by omega))
      · have e2 : decide (256 ≤ (m : Int) / 2 ^ min 32 64 / 2 ^ min 16 64) = false := by simp; omega
        simp only [e2]
        refine ⟨by rw [IntKind.wrap_u8]; simp; omega, ?_⟩
        exact RetQ.int hR rfl ⟨rfl, trivial⟩ (fin _ 48 _ (by decide +kernel) (by simp <;> omega) (by omega) (by omega))
    · have e1 : decide (65536 ≤ (m : Int) / 2 ^ min 32 64) = false := by simp; omega
      simp only [e1]
      by_cases d2_32 : 1099511627776 ≤ m
      · have e2 : decide (256 ≤ (m : Int) / 2 ^ min 32 64) = true := by simp; omega
        simp only [e2]
        refine ⟨by rw [IntKind.wrap_u8]; simp; omega, ?_⟩
        exact RetQ.int hR rfl ⟨rfl, trivial⟩ (fin _ 40 _ (by decide +kernel) (by simp <;> omega) (by omega) (by omega))
      · have e2 : decide (256 ≤ (m : Int) / 2 ^ min 32 64) = false := by simp; omega
        simp only [e2]
        refine ⟨by rw [IntKind.wrap_u8]; simp; omega, ?_⟩
        exact RetQ.int hR rfl ⟨rfl, trivial⟩ (fin _ 32 _ (by decide +kernel) (by simp <;> omega) (by omega) (by omega))
  · have e0 : decide (4294967296 ≤ (m : Int)) = false := by simp; omega
    simp only [e0]
    by_cases d1_0 : 65536 ≤ m
    · have e1 : decide (65536 ≤ (m : Int)) = true := by simp; omega
      simp only [e1]
      by_cases d2_16 : 16777216 ≤ m
      · have e2 : decide (256 ≤ (m : Int) / 2 ^ min 16 64) = true := by simp; omega
        simp only [e2]
        refine ⟨by rw [IntKind.wrap_u8]; simp; omega, ?_⟩
        exact RetQ.int hR rfl ⟨rfl, trivial⟩ (fin _ 24 _ (by decide +kernel) (by simp <;> omega) (by omega) (by omega))
      · have e2 : decide (256 ≤ (m : Int) / 2 ^ min 16 64) = false := by simp; omega
        simp only [e2]
        refine ⟨by rw [IntKind.wrap_u8]; simp; omega, ?_⟩
        exact RetQ.int hR rfl ⟨rfl, trivial⟩ (fin _ 16 _ (by decide +kernel) (by simp <;> omega) (by omega) (by omega))
    · have e1 : decide (65536 ≤ (m : Int)) = false := by simp; omega
      simp only [e1]
      by_cases d2_0 : 256 ≤ m
      · have e2 : decide (256 ≤ (m : Int)) = true := by simp; omega
        simp only [e2]
        refine ⟨by rw [IntKind.wrap_u8]; simp; omega, ?_⟩
        exact RetQ.int hR rfl ⟨rfl, trivial⟩ (fin _ 8 _ (by decide +kernel) (by simp <;> omega) (by omega) (by omega))
      · have e2 : decide (256 ≤ (m : Int)) = false := by simp; omega
        simp only [e2]
        refine ⟨by rw [IntKind.wrap_u8]; simp; omega, ?_⟩
        exact RetQ.int hR rfl ⟨rfl, trivial⟩ (fin _ 0 _ (by decide +kernel) (by simp) (by omega) (by omega))
theorem lz64 (x : Int) (h0 : 0 < x) (h1 : x < 18446744073709551616) : ∃ s : Nat, CallOk Tryd.prog 98 [U x] [] (I s) [] ∧ s ≤ 63 ∧ 9223372036854775808 ≤ x * 2 ^ s ∧ x * 2 ^ s < 18446744073709551616 := by
  have hl := len64 x h0 h1
  obtain ⟨m, rfl⟩ := Int.eq_ofNat_of_zero_le (show 0 ≤ x by omega)
  rw [Int.toNat_natCast] at hl
  have a1 := Nat.log2_self_le (show m ≠ 0 by omega)
  have a2 := Nat.lt_log2_self (n := m)
  have hlt : Nat.log2 m < 64 := by
    rcases Nat.lt_or_ge (Nat.log2 m) 64 with h | h
    · exact h
    · have := Nat.pow_le_pow_right (n := 2) (by omega) h; omega
  refine ⟨63 - Nat.log2 m, ?_, by omega, ?_, ?_⟩
  · refine CallOk.mk 100 Tryd.func98 rfl en98 (by simp [Tryd.ntmps98]) (by simp [ClV, V.g, Cv.g]) fun C hR => ?_
    simp (config := { maxSteps := 2000000 }) only [go_sem, Nat.reduceBEq, Nat.reduceAdd, Nat.reduceLT, Nat.reduceLeDiff, Nat.reduceEqDiff, reduceCtorEq, Int.reduceAdd, Int.reduceSub, Int.reduceNeg, Int.reduceLE, Int.reduceLT, Int.reduceToNat, Int.reduceBEq, Int.reduceBNe, Int.reduceEq, Int.reduceNe, Int.toNat_zero, Int.toNat_one, bne_self_eq_false, Nat.reduceMul, Nat.zero_mul, Nat.mul_one, Nat.one_mul, Nat.reduceSub, Int.cast_ofNat_Int, Int.toNat_natCast]
    refine CallQ.pure 102 hl rfl ?_
    simp (config := { maxSteps := 2000000 }) only [go_sem, Nat.reduceBEq, Nat.reduceAdd, Nat.reduceLT, Nat.reduceLeDiff, Nat.reduceEqDiff, reduceCtorEq, Int.reduceAdd, Int.reduceSub, Int.reduceNeg, Int.reduceLE, Int.reduceLT, Int.reduceToNat, Int.reduceBEq, Int.reduceBNe, Int.reduceEq, Int.reduceNe, Int.toNat_zero, Int.toNat_one, bne_self_eq_false, Nat.reduceMul, Nat.zero_mul, Nat.mul_one, Nat.one_mul, Nat.reduceSub, Int.cast_ofNat_Int, Int.toNat_natCast]
    exact RetQ.int hR rfl ⟨rfl, trivial⟩ (by rw [w64 (by omega) (by omega)]; omega)
  · have : 2 ^ Nat.log2 m * 2 ^ (63 - Nat.log2 m) ≤ m * 2 ^ (63 - Nat.log2 m) := Nat.mul_le_mul_right _ a1
    rw [← Nat.pow_add, show Nat.log2 m + (63 - Nat.log2 m) = 63 by omega] at this
    have h2 : ((m * 2 ^ (63 - Nat.log2 m) : Nat) : Int) = (m : Int) * 2 ^ (63 - Nat.log2 m) := by simp
    rw [← h2]
    omega
  · have : m * 2 ^ (63 - Nat.log2 m) < 2 ^ (Nat.log2 m + 1) * 2 ^ (63 - Nat.log2 m) := Nat.mul_lt_mul_of_pos_right a2 (Nat.two_pow_pos _)
    rw [← Nat.pow_add, show Nat.log2 m + 1 + (63 - Nat.log2 m) = 64 by omega] at this
    have h2 : ((m * 2 ^ (63 - Nat.log2 m) : Nat) : Int) = (m : Int) * 2 ^ (63 - Nat.log2 m) := by simp
    rw [← h2]
    omega
end Go.Proofs.YtoioclmfjmgaaaaDoor.Fx