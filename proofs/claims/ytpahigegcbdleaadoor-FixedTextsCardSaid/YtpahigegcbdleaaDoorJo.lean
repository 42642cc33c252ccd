/- Arguments of plain data, opened: whatever their fields. -/
import Derived.Test.YtpahigegcbdleaaDoorVq
import Derived.ProofKit
import Derived.Below
import Derived.Carry
import Derived.ChangeSame
import Derived.Lib.SmallJoins
namespace Go.Proofs.YtpahigegcbdleaaDoor
open Go.ChangeShapes Go.WideShapes Go.ChangeAt Go.RowKit
open Vg
/-- A place for the names, of no weight. -/
def b1 : Vl := fun _ => ⟨0, 0, 0, false⟩
def bdC : Cv → Prop
  | .v (.int k n) => k.min ≤ n ∧ n ≤ k.max
  | .v (.string s) => s.size ≤ maxLen
  | _ => True
section
variable {H : Type} {enc : TypeId × Value → H} {P : Program} {w : World} {base : Nat} {spare : Nat → Bool} {held : Bool} {r : Reach} {n0 : Nat} {v : Value} {d : DataW H} {p : List MemPlace}
theorem wf_bd {k : IntKind} {n : Int} (h : (Lit.int k n).wf = true) : k.min ≤ n ∧ n ≤ k.max := by
  simpa [Lit.wf] using h
theorem open_cells : ∀ (D : Nat) (t : TypeId) (ks : List Lk), lfOf P D t = some ks → szOf P t = ks.length → ∀ (fuel : Nat) (cs : List Value) (x : DataW H × List MemPlace), DataW.trod enc P w base spare held fuel t cs = some x →
    ∃ xs : List Cv, cs = xs.map (Cv.g b1) ∧ okL ks xs = true ∧ ∀ c ∈ xs, bdC c
  | 0, t, ks, h, hz, fuel, cs, x, hx => by cases h
  | D + 1, t, ks, h, hz, fuel, cs, x, hx => by
    simp only [lfOf] at h
    split at h
    · rename_i k hu
      simp at h; subst h
      obtain ⟨n, rfl, _, hw⟩ := DataW.trod_int hu hx
      exact ⟨[.v (.int k n)], rfl, by simp [okL], by intro c hc; simp at hc; subst hc; exact wf_bd hw⟩
    · rename_i hu
      simp at h; subst h
      obtain ⟨n, rfl, _⟩ := DataW.trod_bool hu hx
      exact ⟨[.v (.bool n)], rfl, rfl, by intro c hc; simp at hc; subst hc; trivial⟩
    · rename_i hu
      simp at h; subst h
      obtain ⟨n, rfl, _, hw⟩ := DataW.trod_string hu hx
      exact ⟨[.v (.string n)], rfl, rfl, by intro c hc; simp at hc; subst hc; exact hw⟩
    · rename_i fs hu
      split at h <;> first | (cases h; done) | skip
      obtain ⟨ys, n, _, _, hlen, hsz, hg⟩ := DataW.trod_struct hu hx
      have go : ∀ (l : List Field) (off i : Nat) (ks : List Lk), lfF P (lfOf P D) off l = some ks → (∀ j, l[j]? = fs[i + j]?) → i + l.length = fs.size →
          ∃ xs : List Cv, (cs.drop off).take ks.length = xs.map (Cv.g b1) ∧ okL ks xs = true ∧ ∀ c ∈ xs, bdC c := by
        intro l
        induction l with
        | nil =>
          intro off i ks h _ _
          simp [lfF] at h; subst h
          exact ⟨[], by simp, rfl, by simp⟩
        | cons f l ih =>
          intro off i ks h hl hi
          simp only [lfF] at h
          split at h <;> first | (cases h; done) | skip
          rename_i hname
          simp only [Bool.or_eq_false_iff, beq_eq_false_iff_ne, bne_eq_false_iff_eq] at hname
          split at h <;> first | (cases h; done) | skip
          rename_i ks1 hk1
          split at h <;> first | (cases h; done) | skip
          rename_i hsz'
          simp only [Bool.and_eq_true, beq_iff_eq, Bool.not_eq_true', List.isEmpty_eq_false_iff] at hsz'
          split at h <;> simp at h
          rename_i ks2 hk2
          subst h
          have hf : fs[i]? = some f := by have := hl 0; simpa using this.symm
          have h1 := hg i f hf
          have hi' : i < ys.length := by rw [hsz]; simp at hi; omega
          rw [List.getElem?_eq_getElem hi', hname.2] at h1
          obtain ⟨xs1, e1, o1, c1⟩ := open_cells D f.type ks1 hk1 hsz'.1 n _ _ h1
          obtain ⟨xs2, e2, o2, c2⟩ := ih (off + ks1.length) (i + 1) ks2 hk2 (fun j => by have := hl (j + 1); simp only [List.getElem?_cons_succ] at this; rw [this]; congr 1; omega) (by simp at hi; omega)
          have hcz : P.cellsOf f.type = ks1.length := hsz'.1
          rw [hcz] at e1
          refine ⟨xs1 ++ xs2, ?_, ?_, ?_⟩
          · rw [List.map_append, ← e1, ← e2, List.length_append, List.take_add, List.drop_drop]
          · have hap : ∀ (ks r : List Lk) (a b : List Cv), okL ks a = true → okL r b = true → okL (ks ++ r) (a ++ b) = true := by
              intro ks
              induction ks with
              | nil => intro r a b h1 h2; cases a with
                | nil => simpa using h2
                | cons => simp [okL] at h1
              | cons k ks ihk =>
                intro r a b h1 h2
                cases a with
                | nil => cases k <;> simp [okL] at h1
                | cons c a =>
                  cases c with
                  | v z => cases k <;> cases z <;> simp [okL] at h1 ⊢ <;> first | exact ⟨h1.1, ihk r a b h1.2 h2⟩ | exact ihk r a b h1 h2
                  | p _ _ => cases k <;> simp [okL] at h1
                  | sl _ _ _ _ => cases k <;> simp [okL] at h1
                  | fn _ _ => cases k <;> simp [okL] at h1
                  | s0 _ _ => cases k <;> simp [okL] at h1
            exact hap _ _ _ _ o1 o2
          · intro c hc
            rcases List.mem_append.1 hc with h | h
            · exact c1 c h
            · exact c2 c h
      obtain ⟨xs, e, o, c⟩ := go fs.toList 0 0 ks h (fun j => by simp) (by simp)
      refine ⟨xs, ?_, o, c⟩
      rw [← e, List.drop_zero]
      have hl2 := okL_length o
      have : cs.length = ks.length := hlen.trans hz
      rw [List.take_of_length_le (by omega)]
    · cases h
theorem open_agg {t : TypeId} {ks : List Lk} (hl : lfOf P 20 t = some ks) (ha : aggOf P t = some true) (hz : szOf P t = ks.length) (hv : Value.okWide P w r n0 t v) (h : DataW.Trod enc P w base spare held t v d p) : ∃ xs : List Cv, v = V.g b1 (.agg xs) ∧ okL ks xs = true ∧ ∀ c ∈ xs, bdC c := by
  obtain ⟨fuel, hf⟩ := h
  obtain ⟨xs, e, o, c⟩ := open_cells 20 t ks hl hz fuel _ _ hf
  have : ∃ fs, P.underlying t = some (.struct fs) := by
    simp only [lfOf] at hl
    split at hl
    · rename_i hu; simp [aggOf, hu] at ha
    · rename_i hu; simp [aggOf, hu] at ha
    · rename_i hu; simp [aggOf, hu] at ha
    · rename_i fs hu; exact ⟨fs, hu⟩
    · cases hl
  obtain ⟨fs, hu⟩ := this
  obtain ⟨cs, rfl, _⟩ := okWide_struct hu hv
  refine ⟨xs, ?_, o, c⟩
  simp only [V.g]
  congr 1
  exact Array.toList_inj.1 (by simpa [Value.cells] using e)
theorem open_leaf {t : TypeId} {k : Lk} (hl : lfOf P 20 t = some [k]) (ha : aggOf P t = some false) (hz : szOf P t = 1) (hv : Value.okWide P w r n0 t v) (h : DataW.Trod enc P w base spare held t v d p) : ∃ x : Cv, v = V.g b1 (.c x) ∧ okL [k] [x] = true ∧ bdC x := by
  obtain ⟨fuel, hf⟩ := h
  obtain ⟨xs, e, o, c⟩ := open_cells 20 t [k] hl hz fuel _ _ hf
  have hlen := okL_length o
  match xs, hlen with
  | [x], _ =>
    refine ⟨x, ?_, o, c x (by simp)⟩
    have hx : ∃ u, x = .v u := by
      cases x with
      | v u => exact ⟨u, rfl⟩
      | p _ _ => cases k <;> simp [okL] at o
      | sl _ _ _ _ => cases k <;> simp [okL] at o
      | fn _ _ => cases k <;> simp [okL] at o
      | s0 _ _ => cases k <;> simp [okL] at o
    obtain ⟨u, rfl⟩ := hx
    have hcv : v.cells.toList = [u] := by simpa [Cv.g] using e
    simp only [V.g, Cv.g]
    simp only [lfOf] at hl
    split at hl
    · rename_i kk hu
      obtain ⟨n, hn, _⟩ := open_int hu hv ⟨fuel, hf⟩
      subst hn; simpa [Value.cells] using hcv
    · rename_i hu
      obtain ⟨n, hn, _⟩ := open_bool hu hv ⟨fuel, hf⟩
      subst hn; simpa [Value.cells] using hcv
    · rename_i hu
      obtain ⟨n, hn⟩ := okWide_string hu hv
      subst hn; simpa [Value.cells] using hcv
    · rename_i fs hu; simp [aggOf, hu] at ha
    · cases hl
theorem okL_i {k : IntKind} {ks : List Lk} {cs : List Cv} (h : okL (.i k :: ks) cs = true) : ∃ n cs', cs = .v (.int k n) :: cs' ∧ okL ks cs' = true := by
  match cs, h with
  | .v (.int k' n) :: cs', h =>
    simp [okL] at h
    obtain ⟨rfl, h⟩ := h
    exact ⟨n, cs', rfl, h⟩
theorem okL_b {ks : List Lk} {cs : List Cv} (h : okL (.b :: ks) cs = true) : ∃ n cs', cs = .v (.bool n) :: cs' ∧ okL ks cs' = true := by
  match cs, h with
  | .v (.bool n) :: cs', h => exact ⟨n, cs', rfl, h⟩
theorem okL_s {ks : List Lk} {cs : List Cv} (h : okL (.s :: ks) cs = true) : ∃ n cs', cs = .v (.string n) :: cs' ∧ okL ks cs' = true := by
  match cs, h with
  | .v (.string n) :: cs', h => exact ⟨n, cs', rfl, h⟩
theorem okL_n {cs : List Cv} (h : okL [] cs = true) : cs = [] := by
  match cs, h with
  | [], _ => rfl
end
end Go.Proofs.YtpahigegcbdleaaDoor
