/- Ranges lie within the types and are not empty: one block. -/
import Derived.Test.YtkciabfilokfiaaGreatQP
namespace Go.Proofs.YtkciabfilokfiaaGreat.Fx
set_option linter.unusedVariables false
set_option maxHeartbeats 4000000
theorem gR_lim' (s : Int) (a : Ft) (x : Int) (t : Ft) : (limT t).1 ≤ gR s a x t ∧ gR s a x t ≤ (limT t).2 := by
  unfold gR limT
  cases h : fok t with
  | true =>
    have := flo_bd t h
    simp only [cond_true]
    split
    · unfold fixR; omega
    · omega
  | false =>
    have e : gErr a x t = 1 := by rw [gErr, if_pos (.inr h)]
    rw [e]; simp
theorem gR_lim (a : Ft) (x : Int) (t : Ft) : (limT t).1 ≤ gR 1 a x t ∧ gR 1 a x t ≤ (limT t).2 := gR_lim' 1 a x t
theorem lim0 (t : Ft) : (limT t).1 ≤ 0 ∧ 0 ≤ (limT t).2 := by
  unfold limT
  cases h : fok t with
  | true => have := flo_bd t h; simp only [cond_true]; omega
  | false => simp
/-- A range within a type's limits, not empty. -/
def gdR (t : Ft) (r : Int × Int) : Prop := (limT t).1 ≤ r.1 ∧ r.1 ≤ r.2 ∧ r.2 ≤ (limT t).2
theorem gd0 (t : Ft) : gdR t (0, 0) := ⟨(lim0 t).1, Int.le_refl _, (lim0 t).2⟩
theorem wi_lim {t : Ft} {x : Int} (h : wiB t x = true) : (limT t).1 ≤ x ∧ x ≤ (limT t).2 := by
  unfold wiB at h
  rw [Bool.and_eq_true, decide_eq_true_eq, decide_eq_true_eq] at h
  exact h
theorem blk_lagR {t : Ft} {b : Bl} {rs : List (Int × Int)} {ts : List Ft} {pr tb : Int × Int} (h : b.kd = lagT) : (blkR t b rs ts pr tb).1 = hulR pr (cnvR (rs.getD 0 (0, 0)) (ts.getD 0 ft0) t) := by
  unfold blkR
  rw [h]
  rfl
end Go.Proofs.YtkciabfilokfiaaGreat.Fx
