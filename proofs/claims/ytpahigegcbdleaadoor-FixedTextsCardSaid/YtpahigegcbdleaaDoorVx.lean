/- More operations of the machine: slices, strings. -/
import Derived.Test.YtpahigegcbdleaaDoorVg
import Derived.Deep.AppendSrc
import Derived.Laws.AppendOwn
import Derived.Laws.Slices
import Derived.Laws.Strings
namespace Go.Proofs.YtpahigegcbdleaaDoor
namespace Vg
open Go.RowKit

/-- What a block reads as hangs on the names that are there alone. -/
theorem BkOk.closed {β β' : Vl} {n : Nat} {b : Bk} {w : World} (h : BkOk β n b w) (h' : BkOk β' n b w) (hn : β' n = β n) : b.cells.map (Cv.g β') = b.cells.map (Cv.g β) := by
  have r1 := h.range
  have r2 := h'.range
  rw [hn] at r2
  apply List.ext_getElem?
  intro i
  cases hi : b.cells[i]? with
  | none => simp [hi]
  | some c =>
    have e1 := r1 i (c.g β) (by simp [hi])
    have e2 := r2 i (c.g β') (by simp [hi])
    rw [e1] at e2
    simp only [List.getElem?_map, hi, Option.map_some]
    simpa using e2.symm
theorem Rel.closed {S : Bs} {w0 w : World} {β β' : Vl} {M M' : Mem} (h : Rel S w0 β M' w) (hsub : Sub M M') (hag : Agree M' β β') {n : Nat} {b : Bk} (hb : M.get n = some b) : b.cells.map (Cv.g β') = b.cells.map (Cv.g β) := by
  obtain ⟨b', hb', hwk⟩ := hsub n b hb
  have h1 := (h.mem.ok β (Agree.refl _ _) n b' hb').wk hwk
  have h2 := (h.mem.ok β' hag n b' hb').wk hwk
  exact h1.closed h2 (hag n (by simp [hb']))

def dead (el : TypeId) : Bk := ⟨true, [], el⟩
theorem BkOk.dead {β : Vl} {n : Nat} {el : TypeId} {w : World} : BkOk β n (dead el) w := by
  unfold BkOk Vg.dead
  split
  · rfl
  · simp only [if_true, List.map_nil, List.length_nil]
    exact ⟨fun j v hj => by simp at hj, Nat.zero_le _⟩
theorem dead_lv (el : TypeId) : ¬ (dead el).lv := by simp [Bk.lv, dead]
theorem Mem.get_cons (k : Nat) (b : Bk) (M : Mem) (n : Nat) : Mem.get ((k, b) :: M) n = if n = k then some b else M.get n := by
  simp only [Mem.get]
  by_cases h : n = k
  · subst h; simp
  · have : (k == n) = false := by simp; exact fun hh => h hh.symm
    simp [this, h]
/-- What lies at n is from now on of no account. -/
theorem Rel.kill {S : Bs} {w0 w : World} {β : Vl} {M : Mem} (h : Rel S w0 β M w) (n : Nat) (el : TypeId) (hn : (M.get n).isSome = true) : Rel S w0 β ((n, dead el) :: M) w := by
  have hag0 : ∀ β', Agree ((n, dead el) :: M) β β' → Agree M β β' := fun β' hag k hk => hag k (by rw [Mem.get_cons]; split <;> simp_all)
  refine ⟨h.fr, ⟨fun β' hag k b hb => ?_, fun k b hb hu => ?_, fun k m b b' hb hb' hne hr hlv => ?_⟩, fun k b hb hr => ?_, fun k l hl => ⟨?_, (h.pin k l hl).2⟩⟩
  · rw [Mem.get_cons] at hb
    split at hb
    · simp at hb; subst hb; exact BkOk.dead
    · exact h.mem.ok β' (hag0 β' hag) k b hb
  · rw [Mem.get_cons] at hb
    split at hb
    · rename_i hk
      subst hk
      obtain ⟨c, hc⟩ := Option.isSome_iff_exists.1 hn
      exact h.mem.there k c hc hu
    · exact h.mem.there k b hb hu
  · rw [Mem.get_cons] at hb hb'
    split at hb
    · simp at hb; subst hb; cases hr
    · split at hb'
      · simp at hb'; subst hb'; exact absurd hlv (dead_lv _)
      · exact h.mem.apart k m b b' hb hb' hne hr hlv
  · rw [Mem.get_cons] at hb
    split at hb
    · simp at hb; subst hb; cases hr
    · exact h.own k b hb hr
  · rw [Mem.get_cons]
    split
    · rfl
    · exact (h.pin k l hl).1
/-- A name of no block. -/
theorem Rel.nil {S : Bs} {w0 w : World} {β : Vl} {M : Mem} (h : Rel S w0 β M w) (nm : Nat) (hn : M.get nm = none) (el : TypeId) : Rel S w0 (fun k => if k = nm then ⟨0, 0, 0, true⟩ else β k) ((nm, ⟨false, [], el⟩) :: M) w := by
  have hne : ∀ k b, M.get k = some b → k ≠ nm := by rintro k b hk rfl; rw [hn] at hk; cases hk
  refine ⟨h.fr, ⟨fun β' hag k b hb => ?_, fun k b hb hu => ?_, fun k m b b' hb hb' hkm hr hlv hu hu' => ?_⟩, fun k b hb hr hu hS => ?_, fun k l hl => ?_⟩
  · have hag0 : Agree M β β' := fun j hj => by
      obtain ⟨c, hc⟩ := Option.isSome_iff_exists.1 hj
      rw [hag j (by rw [Mem.get_cons]; split <;> simp_all)]
      exact if_neg (hne j c hc)
    rw [Mem.get_cons] at hb
    split at hb
    · rename_i hk
      simp at hb; subst hb hk
      have := hag k (by rw [Mem.get_cons]; simp)
      unfold BkOk
      rw [if_pos (by rw [this]; simp)]
    · exact h.mem.ok β' hag0 k b hb
  · rw [Mem.get_cons] at hb
    split at hb
    · rename_i hk; simp [hk] at hu
    · rename_i hk; simp only [if_neg hk] at hu ⊢; exact h.mem.there k b hb hu
  · rw [Mem.get_cons] at hb hb'
    split at hb
    · rename_i hk; simp [hk] at hu
    · rename_i hk
      split at hb'
      · rename_i hk'; simp [hk'] at hu'
      · rename_i hk'
        simp only [if_neg hk, if_neg hk'] at hu hu' ⊢
        exact h.mem.apart k m b b' hb hb' hkm hr hlv hu hu'
  · rw [Mem.get_cons] at hb
    split at hb
    · rename_i hk; simp [hk] at hu
    · rename_i hk; simp only [if_neg hk] at hu hS ⊢; exact h.own k b hb hr hu hS
  · obtain ⟨p1, p2⟩ := h.pin k l hl
    have hkn : k ≠ nm := by rintro rfl; rw [hn] at p1; cases p1
    exact ⟨by rw [Mem.get_cons, if_neg hkn]; exact p1, by simp only [if_neg hkn]; exact p2⟩
/-- A new block with cells behind those that are known. -/
theorem Rel.allocJ {S : Bs} {w0 w : World} {β : Vl} {M : Mem} (h : Rel S w0 β M w) (nm : Nat) (hn : M.get nm = none) (cs : List Cv) (junk : List Value) (el : TypeId) (hcs : ∀ b', Agree M β b' → cs.map (Cv.g b') = cs.map (Cv.g β)) :
    Rel S w0 (fun k => if k = nm then ⟨w.heap.size, 0, cs.length + junk.length, false⟩ else β k) ((nm, ⟨false, cs, el⟩) :: M) (w.alloc (.cells (cs.map (Cv.g β) ++ junk).toArray el)) := by
  have hne : ∀ k b, M.get k = some b → k ≠ nm := by rintro k b hk rfl; rw [hn] at hk; cases hk
  have hblk : ∀ i, i < w.heap.size → (w.alloc (.cells (cs.map (Cv.g β) ++ junk).toArray el)).heap[i]? = w.heap[i]? := fun i hi => Below.heap_alloc w _ i hi
  refine ⟨⟨h.fr.os, h.fr.tape, h.fr.output, Nat.le_trans h.fr.size (by simp), fun b hS hb => ?_⟩, ⟨fun β' hag n b hb => ?_, fun n b hb hu => ?_, fun n m b b' hb hb' hnm hr hlv hu hu' => ?_⟩, fun n b hb hr hu hS => ?_, fun n l hl => ?_⟩
  · rw [hblk b (Nat.lt_of_lt_of_le hb h.fr.size)]; exact h.fr.old b hS hb
  · have hag0 : Agree M β β' := fun k hk => by
      have := hag k (by rw [Mem.get_cons]; split <;> simp_all)
      obtain ⟨b, hb⟩ := Option.isSome_iff_exists.1 hk
      rw [this]; exact if_neg (hne k b hb)
    rw [Mem.get_cons] at hb
    split at hb
    · rename_i hk
      subst hk
      simp at hb
      subst hb
      have hl : β' n = ⟨w.heap.size, 0, cs.length + junk.length, false⟩ := by have := hag n (by rw [Mem.get_cons]; simp); simpa using this
      unfold BkOk
      rw [if_neg (by simp [hl]), if_neg (by simp), hl]
      refine ⟨rfl, junk, ?_, rfl⟩
      show (w.alloc _).heap[w.heap.size]? = _
      rw [hcs β' hag0]
      show (w.heap.push _)[w.heap.size]? = _
      simp
    · have hold := h.mem.ok β' hag0 n b hb
      cases hu : (β n).nul with
      | true =>
        have hβ := hag0 n (by simp [hb])
        unfold BkOk at hold ⊢
        rw [if_pos (by rw [hβ]; exact hu)] at hold ⊢
        exact hold
      | false =>
        refine hold.same ?_
        rw [hblk _ ?_]
        rw [hag0 n (by simp [hb])]
        exact h.mem.there n b hb hu
  · rw [Mem.get_cons] at hb
    split at hb
    · rename_i hk; simp [hk]
    · rename_i hk
      simp only [if_neg hk] at hu ⊢
      exact Nat.lt_of_lt_of_le (h.mem.there n b hb hu) (by simp)
  · rw [Mem.get_cons] at hb hb'
    split at hb
    · rename_i hk
      split at hb'
      · rename_i hk'; omega
      · rename_i hk'
        simp only [if_pos hk, if_neg hk'] at hu' ⊢
        have := h.mem.there m b' hb' hu'
        omega
    · rename_i hk
      split at hb'
      · rename_i hk'
        simp only [if_pos hk', if_neg hk] at hu ⊢
        have := h.mem.there n b hb hu
        omega
      · rename_i hk'
        simp only [if_neg hk', if_neg hk] at hu hu' ⊢
        exact h.mem.apart n m b b' hb hb' hnm hr hlv hu hu'
  · rw [Mem.get_cons] at hb
    split at hb
    · rename_i hk; simp only [if_pos hk]; exact h.fr.size
    · rename_i hk
      simp only [if_neg hk] at hS hu ⊢
      exact h.own n b hb hr hu hS
  · obtain ⟨p1, p2⟩ := h.pin n l hl
    have hnn : n ≠ nm := by rintro rfl; rw [hn] at p1; cases p1
    exact ⟨by rw [Mem.get_cons, if_neg hnn]; exact p1, by simp only [if_neg hnn]; exact p2⟩
/-- The block at n goes over to the name nm, with other cells. -/
theorem Rel.over {S : Bs} {w0 w w' : World} {β : Vl} {M : Mem} (h : Rel S w0 β M w) {n nm : Nat} {b : Bk} (hb : M.get n = some b) (hr : b.ro = false) (hnu : (β n).nul = false) (hn : M.get nm = none) (cs : List Cv) (junk : List Value)
    (hcs : ∀ b', Agree M β b' → cs.map (Cv.g b') = cs.map (Cv.g β)) (hos : w'.os = w.os) (htp : w'.tape = w.tape) (hou : w'.output = w.output) (hsz : w'.heap.size = w.heap.size)
    (hown : w'.heap[(β n).blk]? = some (.cells (cs.map (Cv.g β) ++ junk).toArray b.elem (0, 0))) (hoth : ∀ k, k ≠ (β n).blk → w'.heap[k]? = w.heap[k]?) (hs : (β n).siz = cs.length + junk.length) :
    Rel S w0 (fun k => if k = nm then β n else β k) ((nm, ⟨false, cs, b.elem⟩) :: (n, dead b.elem) :: M) w' := by
  have hne : ∀ k b, M.get k = some b → k ≠ nm := by rintro k b hk rfl; rw [hn] at hk; cases hk
  have hnn : n ≠ nm := hne n b hb
  have horg : (β n).org = 0 := by
    have := h.mem.ok β (Agree.refl _ _) n b hb
    unfold BkOk at this
    rw [if_neg (by simp [hnu]), if_neg (by simp [hr])] at this
    exact this.1
  have hget : ∀ k, Mem.get ((nm, ⟨false, cs, b.elem⟩) :: (n, dead b.elem) :: M) k = if k = nm then some ⟨false, cs, b.elem⟩ else if k = n then some (dead b.elem) else M.get k := fun k => by rw [Mem.get_cons, Mem.get_cons]
  refine ⟨⟨hos.trans h.fr.os, htp.trans h.fr.tape, hou.trans h.fr.output, by rw [hsz]; exact h.fr.size, fun k hS hk => ?_⟩, ⟨fun β' hag k c hc => ?_, fun k c hc hu => ?_, fun k m c c' hc hc' hkm hro hlv hu hu' => ?_⟩, fun k c hc hro hu hS => ?_, fun k l hl => ?_⟩
  · rw [hoth k ?_]
    · exact h.fr.old k hS hk
    · rintro rfl
      have := h.own n b hb hr hnu hS
      omega
  · have hag0 : Agree M β β' := fun j hj => by
      obtain ⟨x, hx⟩ := Option.isSome_iff_exists.1 hj
      rw [hag j (by rw [hget]; split <;> (try split) <;> simp_all)]
      exact if_neg (hne j x hx)
    rw [hget] at hc
    split at hc
    · rename_i hk
      subst hk
      simp at hc
      subst hc
      have hl : β' k = β n := by have := hag k (by rw [hget]; simp); simpa using this
      unfold BkOk
      rw [if_neg (by simp [hl, hnu]), if_neg (by simp), hl]
      refine ⟨horg, junk, ?_, hs⟩
      rw [hown, hcs β' hag0]
    · split at hc
      · simp at hc; subst hc; exact BkOk.dead
      · rename_i hk hkn
        have hold := h.mem.ok β' hag0 k c hc
        have hβ := hag0 k (by simp [hc])
        cases hu : (β k).nul with
        | true =>
          unfold BkOk at hold ⊢
          rw [if_pos (by rw [hβ]; exact hu)] at hold ⊢
          exact hold
        | false =>
          by_cases hlv : c.lv
          · refine hold.same (hoth _ ?_)
            rw [hβ]
            exact fun hh => h.mem.apart n k b c hb hc (fun hh' => hkn hh'.symm) hr hlv hnu hu hh.symm
          · unfold Bk.lv at hlv
            simp only [not_or, Bool.not_eq_false, ne_eq, Classical.not_not] at hlv
            unfold BkOk
            rw [if_neg (by rw [hβ]; simp [hu]), if_pos hlv.1, hlv.2]
            exact ⟨fun j v hj => by simp at hj, by simp⟩
  · rw [hsz]
    rw [hget] at hc
    split at hc
    · rename_i hk; simp only [if_pos hk]; exact h.mem.there n b hb hnu
    · rename_i hk
      simp only [if_neg hk] at hu ⊢
      split at hc
      · rename_i hkn; subst hkn; exact h.mem.there k b hb hu
      · exact h.mem.there k c hc hu
  · rw [hget] at hc hc'
    split at hc
    · rename_i hk
      split at hc'
      · rename_i hk'; omega
      · rename_i hk'
        split at hc'
        · simp at hc'; subst hc'; exact absurd hlv (dead_lv _)
        · rename_i hmn
          simp only [if_pos hk, if_neg hk'] at hu' ⊢
          exact h.mem.apart n m b c' hb hc' (fun hh => hmn hh.symm) hr hlv hnu hu'
    · rename_i hk
      split at hc
      · simp at hc; subst hc; cases hro
      · rename_i hkn
        simp only [if_neg hk] at hu ⊢
        split at hc'
        · rename_i hk'
          simp only [if_pos hk']
          exact h.mem.apart k n c b hc hb hkn hro (.inl hr) hu hnu
        · rename_i hk'
          split at hc'
          · simp at hc'; subst hc'; exact absurd hlv (dead_lv _)
          · simp only [if_neg hk'] at hu' ⊢
            exact h.mem.apart k m c c' hc hc' hkm hro hlv hu hu'
  · rw [hget] at hc
    split at hc
    · rename_i hk
      simp only [if_pos hk] at hS ⊢
      exact h.own n b hb hr hnu hS
    · rename_i hk
      simp only [if_neg hk] at hS hu ⊢
      split at hc
      · simp at hc; subst hc; cases hro
      · exact h.own k c hc hro hu hS
  · obtain ⟨p1, p2⟩ := h.pin k l hl
    have hkn : k ≠ nm := by rintro rfl; rw [hn] at p1; cases p1
    refine ⟨?_, by simp only [if_neg hkn]; exact p2⟩
    rw [hget, if_neg hkn]
    split
    · rfl
    · exact p1

/-! What is asked of the tables of types. -/
def slOf (P : Program) (t : TypeId) : Option (TypeId × Nat) :=
  match P.underlying t with
  | some (.slice el) => if szOf P el = 0 then none else some (el, szOf P el)
  | _ => none
def paOf (P : Program) (t : TypeId) : Option (Nat × Nat) :=
  match P.underlying t with
  | some (.array n el) => if szOf P el = 0 then none else some (n, szOf P el)
  | _ => none
def byOf (P : Program) (t : TypeId) : Nat := ((P.info? t).map (·.bytes)).getD 0
def strOf (P : Program) (t : TypeId) : Bool :=
  match P.underlying t with
  | some .string => true
  | _ => false
theorem slOf_ok {P : Program} {t el : TypeId} {sz : Nat} (h : slOf P t = some (el, sz)) : P.underlying t = some (.slice el) ∧ szOf P el = sz ∧ sz ≠ 0 := by
  unfold slOf at h
  split at h
  · split at h <;> simp at h
    obtain ⟨rfl, rfl⟩ := h
    exact ⟨by assumption, rfl, by assumption⟩
  · cases h
theorem strOf_ok {P : Program} {t : TypeId} (h : strOf P t = true) : P.underlying t = some .string := by
  unfold strOf at h
  split at h
  · assumption
  · cases h
end Vg
end Go.Proofs.YtpahigegcbdleaaDoor
