/- Contract of the reference's MulDiv. -/
import Derived.Test.YtoioclmfjmgaaaaDoorFC12
import Derived.Test.YtoioclmfjmgaaaaDoorFC6
namespace Go.Proofs.YtoioclmfjmgaaaaDoor.Fx
open Vg Tf
set_option linter.unusedSimpArgs false
set_option linter.unusedVariables false
set_option maxRecDepth 100000
def fit64 (r : Int) : Bool := decide (-9223372036854775808 ≤ r) && decide (r ≤ 9223372036854775807)
set_option maxHeartbeats 4000000 in
theorem rmuldiv (a b c m : Int) (ha1 : -9223372036854775808 ≤ a) (ha2 : a ≤ 9223372036854775807) (hb1 : -9223372036854775808 ≤ b) (hb2 : b ≤ 9223372036854775807) (hc : 0 < c) (hc2 : c ≤ 9223372036854775807) (hm : 1 ≤ m) (hm3 : m ≤ 3) :
    CallOk Tryd.prog 77 [I a, I b, I c, I m] [] (.tup [Wi (bif fit64 (rnd m (a * b) c) then rnd m (a * b) c else 0), Wi (bif fit64 (rnd m (a * b) c) then 0 else 9)]) [] := by
  refine CallOk.mk 100 Tryd.func77 rfl en77 (by simp [Tryd.ntmps77]) (by simp [ClV, V.g, Cv.g]) fun C hR => ?_
  have e3 : (c == 0) = false := by simp; omega
  have e4 : decide (c < 0) = false := by simp; omega
  have em : (bif bif m != 1 then m != 2 else false then m != 3 else false) = false := by
    rcases (show m = 1 ∨ m = 2 ∨ m = 3 by omega) with rfl | rfl | rfl <;> rfl
  simp (config := { maxSteps := 2000000 }) only [go_sem, Nat.reduceBEq, Nat.reduceAdd, Nat.reduceLT, Nat.reduceLeDiff, Nat.reduceEqDiff, reduceCtorEq, Int.reduceAdd, Int.reduceSub, Int.reduceNeg, Int.reduceLE, Int.reduceLT, Int.reduceToNat, Int.reduceBEq, Int.reduceBNe, Int.reduceEq, Int.reduceNe, Int.toNat_zero, Int.toNat_one, bne_self_eq_false, Nat.reduceMul, Nat.zero_mul, Nat.mul_one, Nat.one_mul, Nat.reduceSub, Int.cast_ofNat_Int, Int.toNat_natCast]
  simp only [em, e3, e4]
  refine CallQ.pure 100 (size_ c (by omega) (by omega)) rfl ?_
  simp (config := { maxSteps := 2000000 }) only [go_sem, Nat.reduceBEq, Nat.reduceAdd, Nat.reduceLT, Nat.reduceLeDiff, Nat.reduceEqDiff, reduceCtorEq, Int.reduceAdd, Int.reduceSub, Int.reduceNeg, Int.reduceLE, Int.reduceLT, Int.reduceToNat, Int.reduceBEq, Int.reduceBNe, Int.reduceEq, Int.reduceNe, Int.toNat_zero, Int.toNat_one, bne_self_eq_false, Nat.reduceMul, Nat.zero_mul, Nat.mul_one, Nat.one_mul, Nat.reduceSub, Int.cast_ofNat_Int, Int.toNat_natCast]
  have hab : (a.natAbs : Int) * b.natAbs = (a * b).natAbs := by rw [Int.natAbs_mul]; simp
  have hcc : (c.natAbs : Int) = c := by omega
  generalize hneg : (bif bif a != 0 then b != 0 else false then (decide (a < 0) != decide (b < 0)) != false else false) = neg
  have hsg : (a * b = if neg = true then -((a * b).natAbs : Int) else ((a * b).natAbs : Int)) ∧ (neg = true → 0 < (a * b).natAbs) := by
    by_cases ha : a = 0
    · subst ha; rw [← hneg]; simp
    by_cases hb : b = 0
    · subst hb; rw [← hneg]; simp
    have hz : a * b ≠ 0 := Int.mul_ne_zero ha hb
    have ea : (a != 0) = true := by simpa using ha
    have eb : (b != 0) = true := by simpa using hb
    rw [← hneg, ea, eb]
    rcases Int.lt_or_le a 0 with h | h <;> rcases Int.lt_or_le b 0 with h' | h'
    · have : 0 < a * b := Int.mul_pos_of_neg_of_neg h h'
      simp [h, h']; omega
    · have : a * b ≤ 0 := Int.mul_nonpos_of_nonpos_of_nonneg (by omega) h'
      simp [h, Int.not_lt.2 h']; omega
    · have : a * b ≤ 0 := Int.mul_nonpos_of_nonneg_of_nonpos h (by omega)
      simp [Int.not_lt.2 h, h']; omega
    · have : 0 ≤ a * b := Int.mul_nonneg h h'
      simp [Int.not_lt.2 h, Int.not_lt.2 h']; omega
  refine CallQ.pure 100 (size_ a ha1 ha2) rfl ?_
  simp (config := { maxSteps := 2000000 }) only [go_sem, Nat.reduceBEq, Nat.reduceAdd, Nat.reduceLT, Nat.reduceLeDiff, Nat.reduceEqDiff, reduceCtorEq, Int.reduceAdd, Int.reduceSub, Int.reduceNeg, Int.reduceLE, Int.reduceLT, Int.reduceToNat, Int.reduceBEq, Int.reduceBNe, Int.reduceEq, Int.reduceNe, Int.toNat_zero, Int.toNat_one, bne_self_eq_false, Nat.reduceMul, Nat.zero_mul, Nat.mul_one, Nat.one_mul, Nat.reduceSub, Int.cast_ofNat_Int, Int.toNat_natCast]
  refine CallQ.pure 100 (size_ b hb1 hb2) rfl ?_
  simp (config := { maxSteps := 2000000 }) only [go_sem, Nat.reduceBEq, Nat.reduceAdd, Nat.reduceLT, Nat.reduceLeDiff, Nat.reduceEqDiff, reduceCtorEq, Int.reduceAdd, Int.reduceSub, Int.reduceNeg, Int.reduceLE, Int.reduceLT, Int.reduceToNat, Int.reduceBEq, Int.reduceBNe, Int.reduceEq, Int.reduceNe, Int.toNat_zero, Int.toNat_one, bne_self_eq_false, Nat.reduceMul, Nat.zero_mul, Nat.mul_one, Nat.one_mul, Nat.reduceSub, Int.cast_ofNat_Int, Int.toNat_natCast]
  refine CallQ.pure 100 (times_ _ _ (by omega) (by omega) (by omega) (by omega)) rfl ?_
  simp (config := { maxSteps := 2000000 }) only [go_sem, Nat.reduceBEq, Nat.reduceAdd, Nat.reduceLT, Nat.reduceLeDiff, Nat.reduceEqDiff, reduceCtorEq, Int.reduceAdd, Int.reduceSub, Int.reduceNeg, Int.reduceLE, Int.reduceLT, Int.reduceToNat, Int.reduceBEq, Int.reduceBNe, Int.reduceEq, Int.reduceNe, Int.toNat_zero, Int.toNat_one, bne_self_eq_false, Nat.reduceMul, Nat.zero_mul, Nat.mul_one, Nat.one_mul, Nat.reduceSub, Int.cast_ofNat_Int, Int.toNat_natCast]
  simp only [hab, hcc]
  have hrp := rnd_pos m ((a * b).natAbs : Int) c hc
  have hrn := rnd_neg m ((a * b).natAbs : Int) c hc
  generalize a * b = ab at *
  generalize hpp : (ab.natAbs : Int) = p at *
  have hp0 : 0 ≤ p := by omega
  have hfit : ∀ s : Int, fit64 s = decide (-9223372036854775808 ≤ s ∧ s ≤ 9223372036854775807) := fun s => by
    unfold fit64; rw [Bool.eq_iff_iff]; simp
  have hrab : rnd m ab c = if neg = true then rnd m (-p) c else rnd m p c := by
    rw [hsg.1]; cases neg <;> rfl
  rw [hrp, hrn] at hrab
  by_cases hov : c ≤ p / 18446744073709551616
  · have hbig : 18446744073709551616 ≤ p / c := Int.le_ediv_of_mul_le hc (by omega)
    have hf : fit64 (rnd m ab c) = false := by
      rw [hfit, hrab]
      simp only [decide_eq_false_iff_not]
      split <;> split <;> omega
    rw [hf] at hR
    refine CallQ.pure 100 (over_no _ _ c hov) rfl ?_
    simp (config := { maxSteps := 2000000 }) only [go_sem, Nat.reduceBEq, Nat.reduceAdd, Nat.reduceLT, Nat.reduceLeDiff, Nat.reduceEqDiff, reduceCtorEq, Int.reduceAdd, Int.reduceSub, Int.reduceNeg, Int.reduceLE, Int.reduceLT, Int.reduceToNat, Int.reduceBEq, Int.reduceBNe, Int.reduceEq, Int.reduceNe, Int.toNat_zero, Int.toNat_one, bne_self_eq_false, Nat.reduceMul, Nat.zero_mul, Nat.mul_one, Nat.one_mul, Nat.reduceSub, Int.cast_ofNat_Int, Int.toNat_natCast]
    exact RetQ.int2 hR rfl ⟨rfl, rfl, trivial⟩ rfl rfl
  · have hov' := over_ (p / 18446744073709551616) (p % 18446744073709551616) c (by omega) (by omega) (by omega) (by omega) (by omega)
    rw [show p / 18446744073709551616 * 18446744073709551616 + p % 18446744073709551616 = p by omega] at hov'
    have hq0 : 0 ≤ p / c := Int.ediv_nonneg hp0 (by omega)
    have hq1 : p / c < 18446744073709551616 := Int.ediv_lt_of_lt_mul hc (by omega)
    have hr0 := Int.emod_nonneg p (show c ≠ 0 by omega)
    have hr1 := Int.emod_lt_of_pos p hc
    refine CallQ.pure 100 hov' rfl ?_
    generalize p / c = q at *
    generalize p % c = r at *
    generalize rnd m ab c = R at *
    have hfR : (bif fit64 R then R else 0) = (if -9223372036854775808 ≤ R ∧ R ≤ 9223372036854775807 then R else 0) ∧ (bif fit64 R then (0:Int) else 9) = (if -9223372036854775808 ≤ R ∧ R ≤ 9223372036854775807 then 0 else 9) := by
      rw [hfit]; constructor <;> (rw [Bool.cond_decide])
    rw [hfR.1, hfR.2] at hR
    clear hfR hfit hrp hrn hov' hov hsg hneg
    have hcr : IntKind.u64.wrap (c - r) = c - r := wu64 (by omega) (by omega)
    have hb1 : (bif decide (c - r < r) then true else bif r == c - r then true else false) = decide (c ≤ 2 * r) := by
      rw [Bool.eq_iff_iff]; simp [Bool.cond_eq_true_distrib]; omega
    have hb2 : (bif decide (c - r < r) then true else bif r == c - r then false else false) = decide (c < 2 * r) := by
      rw [Bool.eq_iff_iff]; simp [Bool.cond_eq_true_distrib]; omega
    rcases (show m = 1 ∨ m = 2 ∨ m = 3 by omega) with rfl | rfl | rfl <;> cases neg <;> simp only [Bool.false_eq_true, if_true, if_false, Int.reduceBEq, cond_true, cond_false] at hrab <;> simp (config := { maxSteps := 2000000 }) only [go_sem, Nat.reduceBEq, Nat.reduceAdd, Nat.reduceLT, Nat.reduceLeDiff, Nat.reduceEqDiff, reduceCtorEq, Int.reduceAdd, Int.reduceSub, Int.reduceNeg, Int.reduceLE, Int.reduceLT, Int.reduceToNat, Int.reduceBEq, Int.reduceBNe, Int.reduceEq, Int.reduceNe, Int.toNat_zero, Int.toNat_one, bne_self_eq_false, Nat.reduceMul, Nat.zero_mul, Nat.mul_one, Nat.one_mul, Nat.reduceSub, Int.cast_ofNat_Int, Int.toNat_natCast] <;> (try simp only [hcr, hb1, hb2]) <;> (repeat' split)
    all_goals try refine ⟨fun h => ⟨h, fun h2 => by rw [h, h2]; rfl⟩, ?_⟩
    all_goals clear hcr hb1 hb2 e3 e4 em hab hpp
    all_goals
      (refine RetQ.int2 hR rfl ⟨rfl, rfl, trivial⟩ ?_ ?_ <;>
          simp only [IntKind.wrap_u64, IntKind.wrap_i64, beq_iff_eq, decide_eq_true_eq, decide_eq_false_iff_not, beq_eq_false_iff_ne, ne_eq, Bool.cond_eq_true_distrib, Bool.cond_eq_false_distrib] at * <;> (repeat' split at *) <;> omega)
end Go.Proofs.YtoioclmfjmgaaaaDoor.Fx