/- The machine: string(b) of bytes; []byte of a literal. -/
import Derived.Test.YtpahigegcbdleaaDoorVt
import Derived.Test.YtpahigegcbdleaaDoorVn
import Derived.Laws.BytesArg
namespace Go.Proofs.YtpahigegcbdleaaDoor
namespace Vg
open Go.RowKit
set_option maxRecDepth 100000
theorem ki_ok {P : Program} {el : TypeId} {k : IntKind} (h : kiOf P el = some k) : P.underlying el = some (.int k) := by
  unfold kiOf at h
  split at h <;> simp at h
  rename_i k' hq
  rw [hq, h]
/-- string(b): a slice whose cells are bytes. -/
theorem Stp.toStr {P : Program} {o : Oper} {e : Env} {M : Mem} {src dst el : TypeId} {x : Operand} {n off len : Nat} {b : Bk} (l : List Nat) (ho : o.op = .convert src dst x) (hx : rd e x = some (true, .c (.sl n off len 1))) (hb : M.get n = some b)
    (hu : slOf P src = some (el, 1)) (hk : kiOf P el = some .u8) (hd : strOf P dst = true) (hl : (b.cells.drop off).take len = l.map fun d => .v (.int .u8 (d : Int))) (hlen : l.length = len) : Stp P o e M (.c (.v (str (l.map UInt8.ofNat)))) [] := by
  refine Stp.read fun S w0 β M' a w hsub hrel hop => ?_
  have he := hop x (by simp [ho, Op.operands]) _ hx
  simp only [gv, V.g, cond_true] at he
  obtain ⟨hus, _, _⟩ := slOf_ok hu
  have hue := ki_ok hk
  have hds := strOf_ok hd
  have hr := rangeAt_sub (hrel.range hsub hb) off len
  have hstr : str (l.map UInt8.ofNat) = .string (strOfNums (l.map fun d : Nat => (d : Int))) := by
    simp [str, strOfNums, Function.comp_def]
  unfold execOp
  by_cases hn : (β n).nul = true ∧ len = 0
  · have hl0 : l = [] := List.length_eq_zero_iff.1 (by omega)
    have he' : a.eval x = .slice none 0 0 := by rw [he]; simp [Cv.g, hn]
    have := run_convert_bytes_nil (P := P) w src el hus hue 0 0 dst hds
    simp only [ho, he', Sem.run_bind, this, Result.andThen_ok, Sem.run_pure]
    subst hl0
    rfl
  · have he' : a.eval x = .slice (some ⟨(β n).blk, (β n).org + off, none⟩) len (((β n).siz - off) / 1) := by rw [he]; simp only [Cv.g, if_neg hn]
    have := run_convert_bytes_arg (P := P) w src el hus hue (β n).blk ((β n).org + off) len (((β n).siz - off) / 1) (l.map fun d : Nat => (d : Int)) (by simpa using hlen) (fun i hi => by
      refine hr i _ ?_
      rw [← List.map_drop, ← List.map_take, hl, List.map_map, List.getElem?_map, List.getElem?_eq_getElem (show i < l.length by omega)]
      simp [List.getD_eq_getElem?_getD, List.getElem?_eq_getElem (show i < l.length by omega), Cv.g]) dst hds
    simp only [ho, he', Sem.run_bind, this, Result.andThen_ok, Sem.run_pure, V.g, Cv.g, hstr]
/-- The block at n goes over to the name nm, to be read only; its content is as it was. -/
theorem Rel.mark {S : Bs} {w0 w w' : World} {β : Vl} {M : Mem} (h : Rel S w0 β M w) {n nm : Nat} {b : Bk} (hb : M.get n = some b) (hr : b.ro = false) (hnu : (β n).nul = false) (hn : M.get nm = none)
    (hos : w'.os = w.os) (htp : w'.tape = w.tape) (hou : w'.output = w.output) (hsz : w'.heap.size = w.heap.size) (hcell : ∀ a, w'.cell? a = w.cell? a) (hoth : ∀ k, k ≠ (β n).blk → w'.heap[k]? = w.heap[k]?) :
    Rel S w0 (fun k => if k = nm then β n else β k) ((nm, ⟨true, b.cells, b.elem⟩) :: (n, dead b.elem) :: M) w' := by
  have hne : ∀ k b, M.get k = some b → k ≠ nm := by rintro k b hk rfl; rw [hn] at hk; cases hk
  have hnn : n ≠ nm := hne n b hb
  have hget : ∀ k, Mem.get ((nm, ⟨true, b.cells, b.elem⟩) :: (n, dead b.elem) :: M) k = if k = nm then some ⟨true, b.cells, b.elem⟩ else if k = n then some (dead b.elem) else M.get k := fun k => by rw [Mem.get_cons, Mem.get_cons]
  refine ⟨⟨hos.trans h.fr.os, htp.trans h.fr.tape, hou.trans h.fr.output, by rw [hsz]; exact h.fr.size, fun k hS hk => ?_⟩, ⟨fun β' hag k c hc => ?_, fun k c hc hu => ?_, fun k m c c' hc hc' hkm hro hlv hu hu' => ?_⟩, fun k c hc hro hu hS => ?_, fun k l hl => ?_⟩
  · rw [hoth k ?_]
    · exact h.fr.old k hS hk
    · rintro rfl
      have := h.own n b hb hr hnu hS
      omega
  · have hag0 : Agree M β β' := fun j hj => by
      obtain ⟨x, hx⟩ := Option.isSome_iff_exists.1 hj
      rw [hag j (by rw [hget]; split <;> (try split) <;> simp_all)]
      exact if_neg (hne j x hx)
    rw [hget] at hc
    split at hc
    · rename_i hk
      subst hk
      simp at hc
      subst hc
      have hl : β' k = β n := by have := hag k (by rw [hget]; simp); simpa using this
      have hbo := h.mem.ok β' hag0 n b hb
      have hβ := hag0 n (by simp [hb])
      unfold BkOk
      rw [if_neg (by simp [hl, hnu]), if_pos (by simp), hl, ← hβ]
      exact ⟨fun j v hj => by rw [hcell]; exact hbo.range j v hj, hbo.siz⟩
    · split at hc
      · simp at hc; subst hc; exact BkOk.dead
      · rename_i hk hkn
        have hold := h.mem.ok β' hag0 k c hc
        have hβ := hag0 k (by simp [hc])
        cases hu : (β k).nul with
        | true =>
          unfold BkOk at hold ⊢
          rw [if_pos (by rw [hβ]; exact hu)] at hold ⊢
          exact hold
        | false =>
          by_cases hlv : c.lv
          · refine hold.same (hoth _ ?_)
            rw [hβ]
            exact fun hh => h.mem.apart n k b c hb hc (fun hh' => hkn hh'.symm) hr hlv hnu hu hh.symm
          · unfold Bk.lv at hlv
            simp only [not_or, Bool.not_eq_false, ne_eq, Classical.not_not] at hlv
            unfold BkOk
            rw [if_neg (by rw [hβ]; simp [hu]), if_pos hlv.1, hlv.2]
            exact ⟨fun j v hj => by simp at hj, by simp⟩
  · rw [hsz]
    rw [hget] at hc
    split at hc
    · rename_i hk; simp only [if_pos hk]; exact h.mem.there n b hb hnu
    · rename_i hk
      simp only [if_neg hk] at hu ⊢
      split at hc
      · rename_i hkn; subst hkn; exact h.mem.there k b hb hu
      · exact h.mem.there k c hc hu
  · rw [hget] at hc hc'
    split at hc
    · simp at hc; subst hc; cases hro
    · rename_i hk
      split at hc
      · simp at hc; subst hc; cases hro
      · rename_i hkn
        simp only [if_neg hk] at hu ⊢
        split at hc'
        · rename_i hk'
          simp only [if_pos hk']
          exact h.mem.apart k n c b hc hb hkn hro (.inl hr) hu hnu
        · rename_i hk'
          split at hc'
          · simp at hc'; subst hc'; exact absurd hlv (dead_lv _)
          · simp only [if_neg hk'] at hu' ⊢
            exact h.mem.apart k m c c' hc hc' hkm hro hlv hu hu'
  · rw [hget] at hc
    split at hc
    · simp at hc; subst hc; cases hro
    · rename_i hk
      simp only [if_neg hk] at hS hu ⊢
      split at hc
      · simp at hc; subst hc; cases hro
      · exact h.own k c hc hro hu hS
  · obtain ⟨p1, p2⟩ := h.pin k l hl
    have hkn : k ≠ nm := by rintro rfl; rw [hn] at p1; cases p1
    refine ⟨?_, by simp only [if_neg hkn]; exact p2⟩
    rw [hget, if_neg hkn]
    split
    · rfl
    · exact p1
theorem cell?_freeze (w : World) (b : Addr) (n : Nat) (a : Addr) : (w.freeze b n).cell? a = w.cell? a := by
  unfold World.freeze
  split
  · rfl
  · unfold World.cell?
    simp only [Array.getElem?_modify]
    by_cases hk : b.block = a.block
    · rw [if_pos hk]
      cases w.heap[a.block]? with
      | none => rfl
      | some o => cases o <;> rfl
    · rw [if_neg hk]
/-- The conversion of a byte slice to its own type: the block is from now on only read. -/
theorem Stp.markB {P : Program} {o : Oper} {e : Env} {M : Mem} (nm : Nat) {t el : TypeId} {x : Operand} {n off len : Nat} {b : Bk} (ho : o.op = .convert t t x) (hx : rd e x = some (true, .c (.sl n off len 1))) (hb : M.get n = some b) (hr : b.ro = false) (hc : b.cells ≠ [])
    (hu : slOf P t = some (el, 1)) (hk : kiOf P el = some .u8) (hn : M.get nm = none) : Stp P o e M (.c (.sl nm off len 1)) [(nm, ⟨true, b.cells, b.elem⟩), (n, dead b.elem)] := by
  intro S w0 β M' a w hsub hfr hrel hok K Q hkk
  obtain ⟨b', hb', hwk⟩ := hsub n b hb
  obtain rfl : b = b' := by rcases hwk with h | h; exact h; rw [hr] at h; exact absurd h.1 (by simp)
  have hn' : M'.get nm = none := by
    rcases hfr nm (by simp [Mem.get]) with h | h
    · rw [hn] at h; cases h
    · exact h
  have hev := hok β (Agree.refl _ _) x (by simp [ho, Op.operands]) _ hx
  simp only [gv, V.g, cond_true] at hev
  have hbo := hrel.mem.ok β (Agree.refl _ _) n b hb'
  have hnu : (β n).nul = false := by
    cases h : (β n).nul with
    | false => rfl
    | true => exact absurd (hbo.nul_cells h) hc
  obtain ⟨hus, _, _⟩ := slOf_ok hu
  have hue := ki_ok hk
  obtain ⟨ho0, junk, hh, hz⟩ : (β n).org = 0 ∧ ∃ junk : List Value, w.heap[(β n).blk]? = some (.cells (b.cells.map (Cv.g β) ++ junk).toArray b.elem (0, 0)) ∧ (β n).siz = b.cells.length + junk.length := by
    have := hbo
    unfold BkOk at this
    rw [if_neg (by simp [hnu]), if_neg (by simp [hr])] at this
    exact this
  have hev' : a.eval x = .slice (some ⟨(β n).blk, (β n).org + off, none⟩) len (((β n).siz - off) / 1) := by rw [hev]; simp [Cv.g, hnu]
  have hsh : w.shape? (β n).blk = some (b.elem, (b.cells.map (Cv.g β) ++ junk).toArray.size) := by unfold World.shape?; rw [hh]
  let w' := w.freeze ⟨(β n).blk, (b.cells.map (Cv.g β) ++ junk).toArray.size, none⟩ 1
  have hrun : (convert t t (.slice (some ⟨(β n).blk, (β n).org + off, none⟩) len (((β n).siz - off) / 1))).run P w = .ok (.slice (some ⟨(β n).blk, (β n).org + off, none⟩) len (((β n).siz - off) / 1)) w' := by
    simp [convert, run_underlying hus, run_underlying hue, markStringish, hsh, w']
  unfold Oper.wp execOp
  simp only [ho, hev', Sem.run_bind, hrun, Result.andThen_ok, Sem.run_pure]
  have hmark := hrel.mark (w' := w') hb' hr hnu hn' rfl rfl rfl (by simp [w', World.freeze]) (fun a => cell?_freeze w _ _ a) (fun k hk => by
    simp only [w', World.freeze]
    rw [if_neg (by decide)]
    simp only [Array.getElem?_modify]
    rw [if_neg (fun hh => hk hh.symm)])
  refine hkk _ _ w' (fun j hj => ?_) hmark (fun β'' hag => ?_)
  · exact if_neg (fun hh => by rw [hh, hn'] at hj; cases hj)
  · have := hag nm (by simp [Mem.get])
    simp only [V.g, Cv.g, this, if_true]
    rw [if_neg (by simp [hnu])]
end Vg
end Go.Proofs.YtpahigegcbdleaaDoor
