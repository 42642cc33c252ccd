/- Ratios of the reference; Sub.cons. -/
import Derived.Test.YtoioclmfjmgaaaaDoorFC4
namespace Go.Proofs.YtoioclmfjmgaaaaDoor.Fx
open Vg Tf
set_option linter.unusedSimpArgs false
set_option linter.unusedVariables false
set_option maxRecDepth 100000
theorem Sub.cons {M r : Mem} {n : Nat} {b : Bk} (h : M.get n = some b) (hr : Sub r M) : Sub ((n, b) :: r) M := fun k c hk => by
  simp only [Mem.get] at hk
  cases hkn : (n == k) with
  | true =>
    rw [hkn] at hk
    have : n = k := by simpa using hkn
    subst this
    simp at hk
    subst hk
    exact ⟨b, h, .inl rfl⟩
  | false => rw [hkn] at hk; exact hr k c hk
theorem rfloor (a b : Int) (ha1 : -4611686018427387904 ≤ a) (ha2 : a ≤ 4611686018427387904) (hb : 0 < b) (hb2 : b ≤ 4611686018427387904) : CallOk Tryd.prog 54 [I a, I b] [] (I (a / b)) [] := by
  refine CallOk.mk 100 Tryd.func54 rfl en54 (by simp [Tryd.ntmps54]) (by simp [ClV, V.g, Cv.g]) fun C hR => ?_
  simp (config := { maxSteps := 2000000 }) only [go_sem, Nat.reduceBEq, Nat.reduceAdd, Nat.reduceLT, Nat.reduceLeDiff, Nat.reduceEqDiff, reduceCtorEq, Int.reduceAdd, Int.reduceSub, Int.reduceNeg, Int.reduceLE, Int.reduceLT, Int.reduceToNat, Int.reduceBEq, Int.reduceBNe, Int.reduceEq, Int.reduceNe, Int.toNat_zero, Int.toNat_one, bne_self_eq_false, Nat.reduceMul, Nat.zero_mul, Nat.mul_one, Nat.one_mul, Nat.reduceSub, Int.cast_ofNat_Int, Int.toNat_natCast]
  refine ⟨by omega, by omega, ?_⟩
  have q := quo_bd a b hb
  have h1 := Int.mul_tdiv_add_tmod a b
  have h2 := Int.mul_ediv_add_emod a b
  have h3 := Int.emod_nonneg a (show b ≠ 0 by omega)
  have h4 := Int.emod_lt_of_pos a hb
  have h5 := Int.tmod_lt_of_pos a hb
  have key : (a.tmod b < 0 → a.tdiv b = a / b + 1) ∧ (¬ a.tmod b < 0 → a.tdiv b = a / b) := by
    rcases Int.lt_or_le a 0 with h | h
    · by_cases hz : a % b = 0
      · have hd : b ∣ a := Int.dvd_of_emod_eq_zero hz
        have e := tdiv_exact hd
        rw [e] at h1 ⊢
        exact ⟨fun hh => by omega, fun _ => rfl⟩
      · have e : a.tdiv b = a / b + 1 := by
          rw [Int.tdiv_eq_ediv]
          have : ¬ b ∣ a := fun hd => hz (Int.emod_eq_zero_of_dvd hd)
          rw [if_neg (by omega), Int.sign_eq_one_of_pos hb]
        rw [e] at h1 ⊢
        rw [Int.mul_add] at h1
        exact ⟨fun _ => rfl, fun hh => by omega⟩
    · rw [Int.tdiv_eq_ediv_of_nonneg h, Int.tmod_eq_emod_of_nonneg h]
      exact ⟨fun hh => by omega, fun _ => rfl⟩
  by_cases hm : a.tmod b < 0
  · have dm : decide (a.tmod b < 0) = true := by simpa using hm
    simp only [dm]
    refine RetQ.int hR rfl ⟨rfl, trivial⟩ ?_
    rw [key.1 hm, show IntKind.i64.wrap (a / b + 1) = a / b + 1 from w64 (by omega) (by omega), w64 (by omega) (by omega)]
    omega
  · have dm : decide (a.tmod b < 0) = false := by simpa using hm
    simp only [dm]
    refine RetQ.int hR rfl ⟨rfl, trivial⟩ ?_
    rw [key.2 hm, w64 (by omega) (by omega)]
end Go.Proofs.YtoioclmfjmgaaaaDoor.Fx
