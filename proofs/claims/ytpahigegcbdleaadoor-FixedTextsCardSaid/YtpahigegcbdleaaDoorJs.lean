/- Arguments with slices of plain data, opened; a contract on what is only read, called. -/
import Derived.Test.YtpahigegcbdleaaDoorJo
import Derived.Test.YtpahigegcbdleaaDoorVt
import Derived.Deep.Slices
namespace Go.Proofs.YtpahigegcbdleaaDoor
open Go.ChangeShapes Go.WideShapes Go.ChangeAt Go.RowKit
open Vg
set_option linter.unusedSimpArgs false
set_option linter.unusedVariables false
section
variable {H : Type} {enc : TypeId × Value → H} {P : Program} {w : World} {base : Nat} {spare : Nat → Bool} {held : Bool} {r : Reach} {n0 : Nat} {v : Value} {d : DataW H} {p : List MemPlace}
theorem flat_get {α : Type} {k : Nat} (hk : 0 < k) : ∀ (rows : List (List α)), (∀ x ∈ rows, x.length = k) → ∀ j, rows.flatten[j]? = (rows[j / k]?).bind (·[j % k]?)
  | [], _, j => by simp
  | x :: rows, h, j => by
    have hx := h x (by simp)
    rw [List.flatten_cons]
    by_cases hj : j < k
    · rw [List.getElem?_append_left (by omega), Nat.div_eq_of_lt hj, Nat.mod_eq_of_lt hj]; rfl
    · rw [List.getElem?_append_right (by omega), hx, flat_get hk rows (fun y hy => h y (by simp [hy])) (j - k)]
      have e1 : j / k = (j - k) / k + 1 := by rw [← Nat.div_eq_sub_div hk (by omega)]
      have e2 : (j - k) % k = j % k := (Nat.mod_eq_sub_mod (by omega)).symm
      rw [e1, e2, List.getElem?_cons_succ]
theorem flat_len {α : Type} {k : Nat} : ∀ (rows : List (List α)), (∀ x ∈ rows, x.length = k) → rows.flatten.length = rows.length * k
  | [], _ => by simp
  | x :: rows, h => by rw [List.flatten_cons, List.length_append, h x (by simp), flat_len rows (fun y hy => h y (by simp [hy])), List.length_cons, Nat.succ_mul]; omega
theorem okL_isV : ∀ {ks : List Lk} {xs : List Cv}, okL ks xs = true → ∀ c ∈ xs, c.isV = true
  | [], [], _, c, hc => by cases hc
  | [], _ :: _, h, _, _ => by simp [okL] at h
  | k :: ks, [], h, _, _ => by cases k <;> simp [okL] at h
  | k :: ks, x :: xs, h, c, hc => by
    have h2 : x.isV = true ∧ okL ks xs = true := by
      cases x with
      | v z => cases k <;> cases z <;> simp [okL] at h <;> first | exact ⟨rfl, h.2⟩ | exact ⟨rfl, h⟩
      | p _ _ => cases k <;> simp [okL] at h
      | sl _ _ _ _ => cases k <;> simp [okL] at h
      | fn _ _ => cases k <;> simp [okL] at h
      | s0 _ _ => cases k <;> simp [okL] at h
    rcases List.mem_cons.1 hc with rfl | hc
    · exact h2.1
    · exact okL_isV h2.2 c hc
/-- A slice of plain data, in its cell. -/
theorem open_sl {t e : TypeId} {ks : List Lk} (ht : P.underlying t = some (.slice e)) (hl : lfOf P 20 e = some ks) (hz : szOf P e = ks.length) (h0 : ks ≠ []) {fuel : Nat} {x : DataW H × List MemPlace} (hok : Cell.okWide P w r n0 t v) (h : DataW.trod enc P w base spare held fuel t [v] = some x) :
    ∃ (l : Vg.Loc) (rows : List (List Cv)), (∀ y ∈ rows, okL ks y = true ∧ ∀ c ∈ y, bdC c) ∧ rows.length ≤ maxLen ∧ (∀ (β : Vl) (nm : Nat), β nm = l → v = (Cv.sl nm 0 rows.length ks.length).g β) ∧
      (∀ (β : Vl) (nm : Nat), β nm = l → BkOk β nm ⟨true, rows.flatten, e⟩ w) ∧ (l.nul = false → l.blk < w.heap.size) := by
  have hcz : P.cellsOf e = ks.length := hz
  have hk0 : 0 < ks.length := List.length_pos_iff.2 h0
  rcases Go.Deep.open_slice ht h with ⟨hcs, _⟩ | ⟨a, len, cap, m, n, D, Pl, hcs, _, hlc, hcm, hm, _, hx⟩
  · simp at hcs
    subst hcs
    refine ⟨⟨0, 0, 0, true⟩, [], by simp, by simp, fun β nm hb => by simp [Cv.g, hb], fun β nm hb => ?_, by simp⟩
    unfold BkOk
    rw [if_pos (by rw [hb])]; rfl
  · simp at hcs
    subst hcs
    have hlm : len ≤ m := by rw [hm]; split <;> omega
    have hsp : a.spot = none ∧ a.block < w.heap.size := by
      simp only [Cell.okWide, ht, Cell.ok] at hok
      obtain ⟨_, _, _, h2, row, cells, h3, _⟩ := hok
      refine ⟨h2, ?_⟩
      unfold World.shape? at h3
      rcases Nat.lt_or_ge a.block w.heap.size with h | h
      · exact h
      · rw [Array.getElem?_eq_none h] at h3; cases h3
    have hrow : ∀ i, ∃ y : List Cv, i < m → (okL ks y = true ∧ ∀ c ∈ y, bdC c) ∧ ∀ q, q < ks.length → w.cell? ((a.add (i * ks.length)).add q) = (y.map (Cv.g b1))[q]? := by
      intro i
      by_cases hi : i < m
      · obtain ⟨cs', h1, h2⟩ := hx i hi
        rw [hcz] at h1
        obtain ⟨y, e1, o1, c1⟩ := open_cells 20 e ks hl hz n _ _ h2
        obtain ⟨_, hlen, hcell⟩ := World.cells?_some h1
        refine ⟨y, fun _ => ⟨⟨o1, c1⟩, fun q hq => ?_⟩⟩
        rw [hcell q hq, e1]
      · exact ⟨[], fun h => absurd h hi⟩
    obtain ⟨R, hR⟩ := Classical.axiomOfChoice hrow
    have hrl : ∀ y ∈ (List.range len).map R, y.length = ks.length := by
      intro y hy
      obtain ⟨i, hi, rfl⟩ := List.mem_map.1 hy
      exact okL_length (hR i (by have := List.mem_range.1 hi; omega)).1.1
    refine ⟨⟨a.block, a.off, cap * ks.length, false⟩, (List.range len).map R, ?_, by simp; omega, fun β nm hb => ?_, fun β nm hb => ?_, fun _ => hsp.2⟩
    · intro y hy
      obtain ⟨i, hi, rfl⟩ := List.mem_map.1 hy
      exact (hR i (by have := List.mem_range.1 hi; omega)).1
    · obtain ⟨ab, ao, asp⟩ := a
      obtain ⟨h1, _⟩ := hsp
      simp only at h1
      subst h1
      simp [Cv.g, hb, Nat.mul_div_cancel _ hk0]
    · unfold BkOk
      rw [if_neg (by rw [hb]; simp), if_pos rfl, hb]
      refine ⟨fun j c hj => ?_, by simp only [flat_len _ hrl, List.length_map, List.length_range]; exact Nat.mul_le_mul_right _ hlc⟩
      rw [List.getElem?_map, Option.map_eq_some_iff] at hj
      obtain ⟨y, hj, rfl⟩ := hj
      rw [flat_get hk0 _ hrl] at hj
      obtain ⟨rw', h1, h2⟩ := Option.bind_eq_some_iff.1 hj
      rw [List.getElem?_map, Option.map_eq_some_iff] at h1
      obtain ⟨i, hi, rfl⟩ := h1
      have hil : i = j / ks.length ∧ j / ks.length < len := by
        have h3 := (List.getElem?_eq_some_iff.1 hi)
        obtain ⟨h4, h5⟩ := h3
        simp at h4 h5
        omega
      obtain ⟨rfl, hil⟩ := hil
      obtain ⟨⟨o1, _⟩, hc⟩ := hR (j / ks.length) (by omega)
      have hv := okL_isV o1 y (List.mem_of_getElem? h2)
      have h3 := hc (j % ks.length) (Nat.mod_lt _ hk0)
      rw [List.getElem?_map, h2, Option.map_some, Cv.isV_g hv β b1, Go.Deep.add_add] at h3
      obtain ⟨ab, ao, asp⟩ := a
      have h1 := hsp.1
      simp only at h1
      subst h1
      rw [show j / ks.length * ks.length + j % ks.length = j by rw [Nat.mul_comm]; exact Nat.div_add_mod j _] at h3
      have hpl : (⟨ab, ao, none⟩ : Addr).add j = ⟨ab, ao + j, none⟩ := by unfold Addr.add; split <;> simp_all
      rw [hpl] at h3
      exact h3
end
/-- Memory that is only read, of plain cells. -/
theorem MemOk.ro {β : Vl} {M : Mem} {W : World} (h : ∀ n b, M.get n = some b → b.ro = true ∧ b.cells.all Cv.isV = true ∧ BkOk β n b W ∧ ((β n).nul = false → (β n).blk < W.heap.size)) : MemOk β M W := by
  refine ⟨fun β' hag n b hb => ?_, fun n b hb hu => (h n b hb).2.2.2 hu, fun n m b b' hb hm hne hr => ?_⟩
  · obtain ⟨h1, h2, h3, _⟩ := h n b hb
    exact h3.cells (hag n (by simp [hb])) (List.map_congr_left fun x hx => Cv.isV_g (List.all_eq_true.1 h2 x hx) _ _)
  · rw [(h n b hb).1] at hr; cases hr
theorem MemOk.roL {β : Vl} {M : Mem} {W : World} (h : ∀ p ∈ M, p.2.ro = true ∧ p.2.cells.all Cv.isV = true ∧ BkOk β p.1 p.2 W ∧ ((β p.1).nul = false → (β p.1).blk < W.heap.size)) : MemOk β M W :=
  MemOk.ro fun n b hb => h (n, b) (Mem.mem_of_get hb)
theorem CallOk.callsM {P : Program} {f : FuncId} {args : List V} {M : Mem} {k : Bool} {β : Vl} {W : World} (h : CallOk P f args M (.c (.v (.bool k))) []) (hm : MemOk β M W) (hro : ∀ n b, M.get n = some b → b.ro = true) :
    Calls P f (args.map (V.g β)).toArray W fun e W' => e = .returned (.bool k) ∧ Below W.heap.size W W' := by
  refine (h.2.2.2 β W hm).mono ?_
  rintro e W' ⟨β', hag, hen, _, hfr, _⟩
  exact ⟨hen β' (Agree.refl _ _), hfr.os, hfr.tape, hfr.output, hfr.size, fun k hk => hfr.old k (fun n b hb hr => by rw [hro n b hb] at hr; cases hr) hk⟩
end Go.Proofs.YtpahigegcbdleaaDoor
