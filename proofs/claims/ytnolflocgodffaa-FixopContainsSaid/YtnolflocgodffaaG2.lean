/- Results between the results of the ends. -/
import Derived.Test.YtnolflocgodffaaE2
namespace Go.Proofs.Ytnolflocgodffaa
open Vg Tf
set_option linter.unusedSimpArgs false
set_option linter.unusedVariables false
set_option maxRecDepth 100000
theorem fixR_le {t : Ft} {N D N' D' : Int} (h : fok t = true) (hD : 0 < D) (hD' : 0 < D') (hN : N * D' ≤ N' * D) : fixR t N D ≤ fixR t N' D' := by
  rw [← fixR_scale t N D D' hD', ← fixR_scale t N' D' D hD, Int.mul_comm D' D]
  exact fixR_mono h (Int.mul_pos hD hD') (by rw [Int.mul_comm D' N, Int.mul_comm D N']; exact hN)
theorem grow_y {op : Int} {a : Ft} {x : Int} {b : Ft} {y y' : Int} {t : Ft} (ho1 : 1 ≤ op) (ho2 : op ≤ 4) (ha : fok a = true) (hx : fin a x = true) (hb : fok b = true) (hy : fin b y = true) (hy' : fin b y' = true) (ht : fok t = true) (hyy : y ≤ y')
    (h4 : op = 4 → 0 < fnu b y ∨ fnu b y' < 0) :
    ((op = 1 ∨ (op = 3 ∧ 0 ≤ fnu a x) ∨ (op = 4 ∧ fnu a x ≤ 0)) → oRaw op a x b y t ≤ oRaw op a x b y' t) ∧ ((op = 2 ∨ (op = 3 ∧ fnu a x ≤ 0) ∨ (op = 4 ∧ 0 ≤ fnu a x)) → oRaw op a x b y' t ≤ oRaw op a x b y t) := by
  have hf := fok_bd ha
  have hg := fok_bd hb
  have hn : fnu b y ≤ fnu b y' := by
    unfold fnu
    have := Int.mul_le_mul_of_nonneg_right hyy (show 0 ≤ b.num by omega)
    omega
  unfold oRaw
  generalize fnu a x = p at *
  generalize fnu b y = q at *
  generalize fnu b y' = q' at *
  have m1 : q * a.den ≤ q' * a.den := Int.mul_le_mul_of_nonneg_right hn (by omega)
  have pD : 0 < a.den * b.den := Int.mul_pos (by omega) (by omega)
  have m2 : 0 ≤ p → p * q ≤ p * q' := fun hq => Int.mul_le_mul_of_nonneg_left hn hq
  have m3 : p ≤ 0 → p * q' ≤ p * q := fun hq => by
    have := Int.mul_le_mul_of_nonneg_left hn (show 0 ≤ -p by omega); rw [Int.neg_mul, Int.neg_mul] at this; omega
  have n2 : 0 ≤ p → p * b.den * (q * a.den) ≤ p * b.den * (q' * a.den) := fun hq => Int.mul_le_mul_of_nonneg_left m1 (Int.mul_nonneg hq (by omega))
  have n3 : p ≤ 0 → p * b.den * (q' * a.den) ≤ p * b.den * (q * a.den) := fun hq => by
    have := Int.mul_le_mul_of_nonneg_left m1 (Int.mul_nonneg (show 0 ≤ -p by omega) (show 0 ≤ b.den by omega))
    rw [Int.neg_mul, Int.neg_mul, Int.neg_mul] at this; omega
  have s0 : op = 4 → (0 < q * a.den ∧ 0 < q' * a.den) ∨ (q * a.den < 0 ∧ q' * a.den < 0) := fun h => by
    rcases h4 h with h | h
    · exact .inl ⟨Int.mul_pos h (by omega), Int.mul_pos (by omega) (by omega)⟩
    · exact .inr ⟨Int.mul_neg_of_neg_of_pos (by omega) (by omega), Int.mul_neg_of_neg_of_pos (by omega) (by omega)⟩
  unfold cN cD
  constructor
  · rintro (rfl | ⟨rfl, h⟩ | ⟨rfl, h⟩)
    · simp only [if_true, true_or]; exact fixR_mono ht pD (by omega)
    · simp only [Int.reduceEq, if_true, if_false, or_true]; exact fixR_mono ht pD (m2 h)
    · have := n3 h
      rcases s0 rfl with ⟨s1, s2⟩ | ⟨s1, s2⟩
      · simp only [Int.reduceEq, if_false, or_false, show ¬ q * a.den < 0 by omega, show ¬ q' * a.den < 0 by omega]
        exact fixR_le ht s1 s2 (by omega)
      · simp only [Int.reduceEq, if_true, if_false, or_false, s1, s2]
        exact fixR_le ht (by omega) (by omega) (by rw [Int.neg_mul_neg, Int.neg_mul_neg]; omega)
  · rintro (rfl | ⟨rfl, h⟩ | ⟨rfl, h⟩)
    · simp only [Int.reduceEq, if_true, if_false, true_or, or_true]; exact fixR_mono ht pD (by omega)
    · simp only [Int.reduceEq, if_true, if_false, or_true]; exact fixR_mono ht pD (m3 h)
    · have := n2 h
      rcases s0 rfl with ⟨s1, s2⟩ | ⟨s1, s2⟩
      · simp only [Int.reduceEq, if_false, or_false, show ¬ q * a.den < 0 by omega, show ¬ q' * a.den < 0 by omega]
        exact fixR_le ht s2 s1 (by omega)
      · simp only [Int.reduceEq, if_true, if_false, or_false, s1, s2]
        exact fixR_le ht (by omega) (by omega) (by rw [Int.neg_mul_neg, Int.neg_mul_neg]; omega)
theorem between_y {op : Int} {a : Ft} {x : Int} {b : Ft} {y y1 y2 : Int} {t : Ft} (ho1 : 1 ≤ op) (ho2 : op ≤ 4) (ha : fok a = true) (hx : fin a x = true) (hb : fok b = true) (hy : fin b y = true) (hy1 : fin b y1 = true) (hy2 : fin b y2 = true) (ht : fok t = true) (h1 : y1 ≤ y) (h2 : y ≤ y2)
    (h4 : op = 4 → 0 < fnu b y1 ∨ fnu b y2 < 0) (hn1 : fnu b y1 ≤ fnu b y) (hn2 : fnu b y ≤ fnu b y2) :
    min (oRaw op a x b y1 t) (oRaw op a x b y2 t) ≤ oRaw op a x b y t ∧ oRaw op a x b y t ≤ max (oRaw op a x b y1 t) (oRaw op a x b y2 t) := by
  have g1 := grow_y ho1 ho2 ha hx hb hy1 hy ht h1 (fun h => by have := h4 h; omega)
  have g2 := grow_y ho1 ho2 ha hx hb hy hy2 ht h2 (fun h => by have := h4 h; omega)
  by_cases hc : op = 1 ∨ (op = 3 ∧ 0 ≤ fnu a x) ∨ (op = 4 ∧ fnu a x ≤ 0)
  · have := g1.1 hc; have := g2.1 hc; omega
  · have hc' : op = 2 ∨ (op = 3 ∧ fnu a x ≤ 0) ∨ (op = 4 ∧ 0 ≤ fnu a x) := by omega
    have := g1.2 hc'; have := g2.2 hc'; omega
theorem between_x {op : Int} {a : Ft} {x x1 x2 : Int} {b : Ft} {y : Int} {t : Ft} (ho1 : 1 ≤ op) (ho2 : op ≤ 4) (h : oErr op a x1 b y t = 0) (hx : fin a x = true) (hx2 : fin a x2 = true) (h1 : x1 ≤ x) (h2 : x ≤ x2) :
    min (oRaw op a x1 b y t) (oRaw op a x2 b y t) ≤ oRaw op a x b y t ∧ oRaw op a x b y t ≤ max (oRaw op a x1 b y t) (oRaw op a x2 b y t) := by
  have hk := oErr_ok h
  have g1 := grow_math ho1 ho2 h hx h1
  have g2 := grow_math ho1 ho2 ((oErr_same op a x1 x b y t hk.1.2 hx).trans h) hx2 h2
  by_cases hc : op ≤ 2 ∨ 0 ≤ fnu b y
  · have := g1.1 hc; have := g2.1 hc; omega
  · have := g1.2 (by omega); have := g2.2 (by omega); omega
end Go.Proofs.Ytnolflocgodffaa
