/- Ranges lie within the types and are not empty: all rounds. -/
import Derived.Test.YtkciabfilokfiaaGreatQW
namespace Go.Proofs.YtkciabfilokfiaaGreat.Fx
set_option linter.unusedVariables false
theorem firstF_no {α : Type} {f : α → Option (Str × Int)} : ∀ {l : List α}, firstF f l = none ↔ ∀ x ∈ l, f x = none
  | [] => by simp [firstF]
  | y :: l => by
    rw [firstF_cons]
    cases hy : f y with
    | some z => simp [hy]
    | none => rw [Option.none_or, firstF_no]; simp [hy]
/-- What the checks before the ranges say. -/
structure Chkd (d : Dg) : Prop where
  ok : dgOk d = true
  dup : dupF [] (allN d) = none
  inp : ∀ p ∈ d.ins, inpE d.tys p = none
  blk : ∀ b ∈ d.bls, blkE d.tys d.cus d.mas (sigs d) b = none
  out : outE (sigs d) [] d.ous = none
  fit : ∀ b ∈ d.bls, fitE d b = none
theorem Chkd.of {d : Dg} (h : dgOk d = true) (h2 : allE d = none) : Chkd d := by
  unfold allE at h2
  cases hd : dupF [] (allN d) with
  | some s => rw [hd] at h2; cases h2
  | none =>
    rw [hd] at h2
    simp only [Option.or_eq_none_iff] at h2
    obtain ⟨h3, h4, h5, h6⟩ := h2
    exact ⟨h, hd, firstF_no.1 h3, firstF_no.1 h4, h5, firstF_no.1 h6⟩
theorem Chkd.num {d : Dg} (k : Chkd d) {b : Bl} (hb : b ∈ d.bls) : numB (tyN d.tys b.ty) b = true := by
  have := k.fit b hb
  unfold fitE at this
  split at this
  · cases this
  · split at this
    · cases this
    · rename_i h; simpa using h
theorem Chkd.arg {d : Dg} (k : Chkd d) {b : Bl} (hb : b ∈ d.bls) : argQ (sigs d) b.ins = none := by
  have := k.blk b hb
  unfold blkE at this
  split at this
  · cases this
  · cases ha : argQ (sigs d) b.ins with
    | none => rfl
    | some s => rw [ha] at this; cases this
theorem Chkd.inr {d : Dg} (k : Chkd d) {p : Po} (hp : p ∈ d.ins) : gdR (tyN d.tys p.ty) (p.lo, p.hi) := by
  have := k.inp p hp
  unfold inpE at this
  split at this
  · cases this
  · split at this
    · cases this
    · rename_i h
      simp only [Bool.or_eq_true, decide_eq_true_eq, Bool.not_eq_true', not_or, Bool.not_eq_false] at h
      obtain ⟨h1, h2, h3⟩ := h
      exact ⟨(wi_lim h2).1, by show p.lo ≤ p.hi; omega, (wi_lim h3).2⟩
theorem rngR_out {d : Dg} {T : Bl → List (Int × Int) → Int × Int} {od : List Nat} {Q : List (Int × Int) → List (Int × Int) → Prop}
    (h : ∀ rs st big, Q rs st → (rndR d T st od rs).2 = none → Q (rndR d T st od rs).1 (kpR d big (rndR d T st od rs).1 (List.range d.bls.length) st false).1) :
    ∀ (f : Nat) (n : Int) (rs st rf : List (Int × Int)), Q rs st → rngR d T od f n rs st = some (rf, none) → ∃ rs' st', Q rs' st' ∧ (rndR d T st' od rs').2 = none ∧ rf = (rndR d T st' od rs').1
  | 0, _, _, _, _, _, h => by cases h
  | f + 1, n, rs, st, rf, hq, hr => by
    unfold rngR at hr
    cases he : (rndR d T st od rs).2 with
    | some e => rw [he] at hr; cases hr
    | none =>
      rw [he] at hr
      simp only at hr
      cases hc : (kpR d (decide (8 ≤ n)) (rndR d T st od rs).1 (List.range d.bls.length) st false).2 with
      | false =>
        rw [hc, cond_false] at hr
        have : (rndR d T st od rs).1 = rf := by injection hr with hr; exact (Prod.mk.inj hr).1
        exact ⟨rs, st, hq, he, this.symm⟩
      | true =>
        rw [hc, cond_true] at hr
        exact rngR_out h f (n + 1) _ _ rf (h rs st _ hq he) hr
end Go.Proofs.YtkciabfilokfiaaGreat.Fx
