/- More operations of the machine: slices and strings, evaluated. -/
import Derived.Test.YtpahigegcbdleaaDoorVh
import Derived.Laws.MakeOwn
import Derived.Great.BuildSlice
import Derived.Lib.Strings
namespace Go.Proofs.YtpahigegcbdleaaDoor
namespace Vg
open Go.RowKit

/-! ### Cells in rows -/
def reps {α : Type} : Nat → List α → List α
  | 0, _ => []
  | n + 1, l => l ++ reps n l
theorem reps_length {α : Type} (l : List α) : ∀ n, (reps n l).length = n * l.length
  | 0 => by simp [reps]
  | n + 1 => by rw [reps, List.length_append, reps_length l n, Nat.succ_mul]; omega
theorem reps_get {α : Type} (l : List α) : ∀ (n i : Nat), i < n * l.length → (reps n l)[i]? = l[i % l.length]?
  | 0, i, h => by omega
  | n + 1, i, h => by
    rw [reps]
    by_cases hi : i < l.length
    · rw [List.getElem?_append_left hi, Nat.mod_eq_of_lt hi]
    · rw [List.getElem?_append_right (by omega), reps_get l n (i - l.length) (by rw [Nat.succ_mul] at h; omega), ← Nat.mod_eq_sub_mod (by omega)]
theorem reps_one {α : Type} (x : α) : ∀ n, reps n [x] = List.replicate n x
  | 0 => rfl
  | n + 1 => by rw [reps, reps_one x n]; rfl
theorem reps_map {α β : Type} (f : α → β) (l : List α) : ∀ n, (reps n l).map f = reps n (l.map f)
  | 0 => rfl
  | n + 1 => by rw [reps, reps, List.map_append, reps_map f l n]
theorem rep_cells (z : Array Value) (n : Nat) : ((Array.range (n * z.size)).map (z[· % z.size]!)).toList = reps n z.toList := by
  apply List.ext_getElem?
  intro i
  by_cases hi : i < n * z.size
  · rw [reps_get _ _ _ (by simpa using hi)]
    have hz : 0 < z.size := by
      rcases Nat.eq_zero_or_pos z.size with h | h
      · rw [h] at hi; omega
      · exact h
    have hm := Nat.mod_lt i hz
    simp only [Array.getElem?_toList, Array.getElem?_map, Array.getElem?_range, hi, if_true, Option.map_some, Array.length_toList]
    rw [Array.getElem?_eq_getElem hm, getElem!_pos z (i % z.size) hm]
  · rw [List.getElem?_eq_none (by simp; omega), List.getElem?_eq_none (by rw [reps_length]; simp; omega)]
theorem zero_info {P : Program} {t : TypeId} {zs : List Value} (h : zeroOf P t = some zs) : ∃ i z, P.info? t = some i ∧ i.zero = some z ∧ z.cells.size = i.size ∧ z.cells.toList = zs := by
  unfold zeroOf at h
  cases hi : P.info? t with
  | none => simp [hi] at h
  | some i =>
    simp only [hi] at h
    cases hzz : i.zero with
    | none => simp [hzz] at h
    | some z =>
      simp only [hzz] at h
      split at h <;> simp at h
      exact ⟨i, z, rfl, hzz, by assumption, h⟩
theorem szOf_info {P : Program} {t : TypeId} {i : TypeInfo} (h : P.info? t = some i) : szOf P t = i.size := by simp [szOf, h]
theorem byOf_info {P : Program} {t : TypeId} {i : TypeInfo} (h : P.info? t = some i) : byOf P t = i.bytes := by simp [byOf, h]

/-- A new row, in a slice of its own. -/
theorem Stp.newS {P : Program} {o : Oper} {e : Env} {M : Mem} (nm : Nat) (cs : List Cv) (el : TypeId) (len esz : Nat) (hz : esz ≠ 0) (hl : cs.length = len * esz)
    (hop : ∀ β M' (a : Act), OpOk β M' e o a → (∀ b', Agree M' β b' → cs.map (Cv.g b') = cs.map (Cv.g β)) ∧ ∀ w, (execOp a.eval o).run P w = .ok (.value (.slice (some ⟨w.heap.size, 0, none⟩) len len)) (w.alloc (.cells (cs.map (Cv.g β)).toArray el))) (hn : M.get nm = none) :
    Stp P o e M (.c (.sl nm 0 len esz)) [(nm, ⟨false, cs, el⟩)] := by
  intro S w0 β M' a w _ hfr hrel hok K Q hk
  obtain ⟨h1, h2⟩ := hop β M' a hok
  have hn' : M'.get nm = none := by
    rcases hfr nm (by simp [Mem.get]) with h | h
    · rw [hn] at h; cases h
    · exact h
  unfold Oper.wp
  rw [h2 w]
  refine hk (fun k => if k = nm then ⟨w.heap.size, 0, cs.length, false⟩ else β k) _ _ (fun k hk' => ?_) (hrel.alloc nm hn' cs el h1) (fun β'' hag => ?_)
  · by_cases hkk : k = nm
    · subst hkk; rw [hn'] at hk'; cases hk'
    · simp [hkk]
  · have := hag nm (by simp [Mem.get])
    simp only [V.g, Cv.g, this, if_true, Bool.false_eq_true, false_and, if_false, Nat.sub_zero, hl, Nat.zero_add]
    rw [Nat.mul_div_cancel _ (by omega)]
def plS (len sz : Nat) : List (Nat × Nat) := (List.range len).map fun i => (i * sz, sz)
theorem fillE_length {pl : List (Nat × Nat)} {e : Env} : ∀ (parts : List (Nat × Operand)) (cs cs' : List Cv) (sc : Prop), fillE pl e cs parts = some (sc, cs') → cs'.length = cs.length
  | [], cs, cs', sc, h => by simp [fillE] at h; rw [h.2]
  | (i, x) :: r, cs, cs', sc, h => by
    simp only [fillE] at h
    split at h
    · split at h
      · rename_i hr
        simp at h
        have := fillE_length r _ _ _ hr
        rw [← h.2, this, setL_length]
      · cases h
    · cases h
theorem Stp.buildSlice {P : Program} {o : Oper} {e : Env} {M : Mem} (nm : Nat) {t el : TypeId} {sz len : Nat} {parts : Array (Nat × Operand)} {zs : List Value} {sc : Prop} {cs : List Cv} (ho : o.op = .buildSlice t len parts)
    (ht : slOf P t = some (el, sz)) (hz : zeroOf P el = some zs) (hlen : len * sz ≤ 16777216) (hf : fillE (plS len sz) e ((reps len zs).map .v) parts.toList = some (sc, cs)) (hs : sc) (hn : M.get nm = none) :
    Stp P o e M (.c (.sl nm 0 len sz)) [(nm, ⟨false, cs, el⟩)] := by
  obtain ⟨hu, hsz, hsz0⟩ := slOf_ok ht
  obtain ⟨i, z, hi, hz1, hz2, hz3⟩ := zero_info hz
  have hsi : i.size = sz := by rw [← szOf_info hi]; exact hsz
  have hzl : zs.length = sz := by rw [← hz3]; simp [hz2, hsi]
  have hlc : cs.length = len * sz := by rw [fillE_length _ _ _ _ hf]; simp [reps_length, hzl]
  refine Stp.newS nm cs el len sz hsz0 hlc (fun β M' a hok => ?_) hn
  have hfill : ∀ b', Agree M' β b' → Instr.fill (fun i => some (i * sz, sz)) ((Array.range (len * sz)).map (z.cells[· % z.cells.size]!)) (parts.map fun (i, x) => (i, a.eval x)).toList = some (cs.map (Cv.g b')).toArray := by
    intro b' hb
    have h1 := fill_ok (a := a) (β := b') parts.toList _ _ _ hf hs (fun x hx y hy => hok b' hb x (by simp only [ho, Op.operands]; simpa using hx) y hy) (fun i => some (i * sz, sz)) (by
      intro i p h
      simp only [plS, List.getElem?_map] at h
      cases hr : (List.range len)[i]? with
      | none => simp [hr] at h
      | some j =>
        have hj : j = i := by
          rw [List.getElem?_range (by have := (List.getElem?_eq_some_iff.1 hr).1; simpa using this)] at hr
          simpa using hr.symm
        simp [hr] at h
        subst hj
        simpa using h)
    have hcs : ((List.map Cv.v (reps len zs)).map (Cv.g b')).toArray = (Array.range (len * sz)).map (z.cells[· % z.cells.size]!) := by
      apply Array.toList_inj.1
      have := rep_cells z.cells len
      rw [hz2, hsi] at this
      rw [hz2, hsi, this, hz3]
      simp [Function.comp_def, Cv.g]
    rw [hcs] at h1
    have hparts : (parts.map fun (i, x) => (i, a.eval x)).toList = parts.toList.map fun p => (p.1, a.eval p.2) := by simp
    rw [hparts]
    exact h1
  refine ⟨fun b' hb => ?_, fun w => ?_⟩
  · have := (hfill b' hb).symm.trans (hfill β (Agree.refl _ _))
    simpa using this
  · by_cases hl0 : len = 0
    · subst hl0
      have hp0 : parts.toList = [] := by
        cases hpl : parts.toList with
        | nil => rfl
        | cons q r => rw [hpl] at hf; obtain ⟨j, y⟩ := q; simp [fillE, plS] at hf
      have hp1 : parts = #[] := Array.toList_inj.1 hp0
      have hc0 : cs = [] := List.length_eq_zero_iff.1 (by rw [hlc, Nat.zero_mul])
      subst hp1 hc0
      unfold execOp
      simp [ho, Instr.buildSlice, run_underlying hu, sizeOf, typeInfo, hi, Instr.fill, newRow]
      congr 2
      exact Array.toList_inj.1 (by simp)
    · have hrun := run_buildSlice (P := P) w t el len (parts.map fun (i, x) => (i, a.eval x)) (cs.map (Cv.g β)).toArray i z hu hi hz1 (by rw [hsi]; omega) (by rw [hsi]; exact Nat.mul_ne_zero hl0 hsz0) (by rw [hsi]; exact hfill β (Agree.refl _ _))
      unfold execOp
      simp only [ho, Sem.run_bind, hrun, Result.andThen_ok]
      rfl
theorem Stp.makeSlice {P : Program} {o : Oper} {e : Env} {M : Mem} (nm : Nat) {t el : TypeId} {sz : Nat} {x y : Operand} {zs : List Value} {kl kc : IntKind} {l : Int} (ho : o.op = .makeSlice t x y)
    (ht : slOf P t = some (el, sz)) (hz : zeroOf P el = some zs) (hx : rd e x = some (true, .c (.v (.int kl l)))) (hy : rd e y = some (true, .c (.v (.int kc l)))) (h0 : 0 ≤ l) (h63 : l ≤ 9223372036854775807) (hby : (byOf P el : Int) * l ≤ 281474976710656) (hn : M.get nm = none) :
    Stp P o e M (.c (.sl nm 0 l.toNat sz)) [(nm, ⟨false, reps l.toNat (zs.map .v), el⟩)] := by
  obtain ⟨hu, hsz, hsz0⟩ := slOf_ok ht
  obtain ⟨i, z, hi, hz1, hz2, hz3⟩ := zero_info hz
  have hsi : i.size = sz := by rw [← szOf_info hi]; exact hsz
  have hzl : zs.length = sz := by rw [← hz3]; simp [hz2, hsi]
  refine Stp.newS nm _ el l.toNat sz hsz0 (by rw [reps_length]; simp [hzl]) (fun β M' a hok => ⟨fun b' _ => by rw [reps_map, reps_map]; simp [Function.comp_def, Cv.g], fun w => ?_⟩) hn
  have hex := hok β (Agree.refl _ _) x (by simp [ho, Op.operands]) _ hx
  have hey := hok β (Agree.refl _ _) y (by simp [ho, Op.operands]) _ hy
  simp only [gv, V.g, Cv.g, cond_true] at hex hey
  have hrun := run_make (P := P) w t el i z hu hi hz1 kl kc l l h0 (Int.le_refl _) (by rw [← byOf_info hi]; exact hby) h63
  unfold execOp
  simp only [ho, hex, hey, Sem.run_bind, hrun, Result.andThen_ok]
  have : madeCells z.cells (l.toNat * i.size) = ((reps l.toNat (zs.map Cv.v)).map (Cv.g β)).toArray := by
    apply Array.toList_inj.1
    have := rep_cells z.cells l.toNat
    rw [hz2] at this
    rw [reps_map, List.map_map]
    simp only [Function.comp_def, Cv.g, List.map_id']
    rw [← hz3, ← this]
    simp [madeCells, hz2]
  rw [this]
  rfl
/-! ### append -/
def bycell (b : UInt8) : Cv := .v (.int .u8 b.toNat)
def srcE (P : Program) (e : Env) (M : Mem) (tx : TypeId) (esz : Nat) (x : Operand) : Option (Prop × Nat × List Cv) :=
  match rd e x with
  | some (g, .c (.sl m off k sz)) => match slOf P tx, M.get m with
    | some (_, sz'), some b => some (g = true ∧ sz = esz ∧ sz' = esz ∧ off + k * esz ≤ b.cells.length ∧ ((b.cells.drop off).take (k * esz)).all Cv.one = true, k, (b.cells.drop off).take (k * esz))
    | _, _ => none
  | some (g, .c (.v (.slice none 0 0))) => match slOf P tx with
    | some _ => some (g = true, 0, [])
    | none => none
  | some (g, .c (.v (.string s))) => match strOf P tx with
    | true => some (g = true ∧ esz = 1, s.data.toList.length, s.data.toList.map bycell)
    | false => none
  | _ => none
theorem srcE_ok {P : Program} {e : Env} {M M' : Mem} {tx : TypeId} {esz : Nat} {x : Operand} {sc : Prop} {k : Nat} {news : List Cv} (h : srcE P e M tx esz x = some (sc, k, news)) (hs : sc) {S : Bs} {w0 w : World} {β : Vl} (hsub : Sub M M') (hrel : Rel S w0 β M' w) {a : Act}
    (hx : ∀ β', Agree M' β β' → ∀ y, rd e x = some y → a.eval x = gv β' y) : Src P esz tx (a.eval x) k (news.map (Cv.g β)) w ∧ (∀ β', Agree M' β β' → news.map (Cv.g β') = news.map (Cv.g β)) ∧ news.length = k * esz := by
  unfold srcE at h
  split at h
  · rename_i g m off k' sz hrd
    split at h <;> simp at h
    rename_i q sz' b hsl hb
    obtain ⟨hsc, rfl, rfl⟩ := h
    obtain ⟨rfl, rfl, hsz', hle, hone⟩ := hsc.2 hs
    obtain ⟨hu, _, _⟩ := slOf_ok hsl
    have hcl : ∀ β', Agree M' β β' → ((b.cells.drop off).take (k' * sz)).map (Cv.g β') = ((b.cells.drop off).take (k' * sz)).map (Cv.g β) := fun β' hag => by
      rw [List.map_take, List.map_drop, List.map_take, List.map_drop, hrel.closed hsub hag hb]
    have hlen : ((b.cells.drop off).take (k' * sz)).length = k' * sz := by rw [List.length_take, List.length_drop]; omega
    refine ⟨?_, hcl, hlen⟩
    have hev := hx β (Agree.refl _ _) _ hrd
    simp only [gv, V.g, Cv.g, cond_true] at hev
    rw [hev]
    have hrg := hrel.range hsub hb
    split
    · rename_i hn
      obtain ⟨_, rfl⟩ := hn
      simp only [Nat.zero_mul, List.take_zero, List.map_nil]
      exact Src.ofNil w hu 0
    · refine Src.ofSlice w hu _ _ _ _ (by rw [List.length_map, hlen]) (fun j u hj => ?_) (fun u hu' => ?_)
      · have h2 := rangeAt_sub hrg off (k' * sz) j u (by rw [List.map_take, List.map_drop] at hj; exact hj)
        rw [Addr.add_lit]
        exact h2
      · obtain ⟨c, hc, rfl⟩ := List.mem_map.1 hu'
        exact Cv.one_g (hone c hc) β
  · rename_i g hrd
    split at h <;> simp at h
    rename_i q hsl
    obtain ⟨hsc, rfl, rfl⟩ := h
    have := hsc.2 hs; subst this
    obtain ⟨el, sz⟩ := q
    obtain ⟨hu, _, _⟩ := slOf_ok hsl
    have hev := hx β (Agree.refl _ _) _ hrd
    simp only [gv, V.g, Cv.g, cond_true] at hev
    rw [hev]
    exact ⟨Src.ofNil w hu 0, fun _ _ => rfl, by simp⟩
  · rename_i g s hrd
    split at h <;> simp at h
    rename_i hst
    obtain ⟨hsc, rfl, rfl⟩ := h
    obtain ⟨rfl, rfl⟩ := hsc.2 hs
    have hev := hx β (Agree.refl _ _) _ hrd
    simp only [gv, V.g, Cv.g, cond_true] at hev
    rw [hev]
    have hsrc := Src.ofString (P := P) w (strOf_ok hst) s
    have e1 : byteCells s = (s.data.toList.map bycell).map (Cv.g β) := by simp [byteCells, bycell, Cv.g, Function.comp_def]
    rw [e1] at hsrc
    exact ⟨by simpa using hsrc, fun β' _ => by simp [bycell, Cv.g, Function.comp_def], by simp⟩
  · cases h
theorem run_append_none {P : Program} (w : World) (t tx ty e : TypeId) (i : TypeInfo) (ht : P.underlying t = some (.slice e)) (hi : P.info? e = some i) (x : Value) (news : List Value) (hs : Src P i.size tx x 0 news w) :
    (Builtin.append_ #[t, tx] ty #[.slice none 0 0, x]).run P w = .ok (.slice none 0 0) w := by
  rcases hs.kind with ⟨e', hk⟩ | hk <;> simp [Builtin.append_, run_underlying ht, run_underlying hk, sizeOf, typeInfo, hi, hs.len, hs.cells]
theorem zeroCells_len (z : Array Value) (n : Nat) : (Builtin.zeroCells z n).toList.length = n * z.size := by simp [Builtin.zeroCells]
/-- What an append comes to. -/
theorem append_run {P : Program} {t tx ty el : TypeId} {sz : Nat} {zs : List Value} (ht : slOf P t = some (el, sz)) (hz : zeroOf P el = some zs) {S : Bs} {w0 w : World} {β : Vl} {M' : Mem} (hrel : Rel S w0 β M' w) {n nm len k : Nat} {b : Bk} {news : List Cv} {x : Value}
    (hb : M'.get n = some b) (hr : b.ro = false) (hel : b.elem = el) (hl : len * sz ≤ b.cells.length) (hn : M'.get nm = none) (hsrc : Src P sz tx x k (news.map (Cv.g β)) w) (hcl : ∀ β', Agree M' β β' → news.map (Cv.g β') = news.map (Cv.g β)) (hnl : news.length = k * sz)
    (hby : (len + k) * byOf P el ≤ 140737488355328) (h63 : len + k ≤ 9223372036854775807) :
    ∃ u w' β', (Builtin.append_ #[t, tx] ty #[(Cv.sl n 0 len sz).g β, x]).run P w = .ok u w' ∧ Agree M' β β' ∧ Rel S w0 β' ([(nm, ⟨false, b.cells.take (len * sz) ++ news, el⟩), (n, dead el)] ++ M') w' ∧ u = (Cv.sl nm 0 (len + k) sz).g β' := by
  subst hel
  obtain ⟨hu, hsz, hsz0⟩ := slOf_ok ht
  obtain ⟨i, z, hi, hz1, hz2, hz3⟩ := zero_info hz
  have hsi : i.size = sz := by rw [← szOf_info hi]; exact hsz
  subst hsi
  have hbk := hrel.mem.ok β (Agree.refl _ _) n b hb
  have hne : ∀ k b, M'.get k = some b → k ≠ nm := by rintro k b hk rfl; rw [hn] at hk; cases hk
  have hnn : n ≠ nm := hne n b hb
  have hclo : ∀ β', Agree M' β β' → (b.cells.take (len * i.size) ++ news).map (Cv.g β') = (b.cells.take (len * i.size) ++ news).map (Cv.g β) := fun β' hag => by
    rw [List.map_append, List.map_append, hcl β' hag, List.map_take, List.map_take, hrel.closed (Sub.refl _) hag hb]
  -- the arm that grows
  have grow : ∀ (base : Option Addr) (cap : Nat), cap < len + k → (Cv.sl n 0 len i.size).g β = .slice base len cap → (Builtin.firstCells i.size len (.slice base len cap)).run P w.drew = .ok ((b.cells.take (len * i.size)).map (Cv.g β)).toArray w.drew →
      ∃ u w' β', (Builtin.append_ #[t, tx] ty #[(Cv.sl n 0 len i.size).g β, x]).run P w = .ok u w' ∧ Agree M' β β' ∧ Rel S w0 β' ([(nm, ⟨false, b.cells.take (len * i.size) ++ news, b.elem⟩), (n, dead b.elem)] ++ M') w' ∧ u = (Cv.sl nm 0 (len + k) i.size).g β' := by
    intro base cap hcap hval hold
    have hg := run_append_grow_src (P := P) w t tx ty b.elem i z hu hi hz1 base len cap _ hold x k _ hsrc hcap (by omega) (growslice_fits (by omega) (by rw [← byOf_info hi]; exact hby))
    have hge := grownCap_ge w (len + k) cap b.elem
    have hal := ((hrel.drew).kill n b.elem (by simp [hb])).allocJ nm (by rw [Mem.get_cons, if_neg (fun hh => hnn hh.symm)]; exact hn) (b.cells.take (len * i.size) ++ news) (Builtin.zeroCells z.cells (grownCap w (len + k) cap b.elem - (len + k))).toList b.elem (fun β' hag => hclo β' (fun j hj => hag j (by rw [Mem.get_cons]; split <;> simp_all)))
    refine ⟨_, _, (fun j => if j = nm then ⟨w.heap.size, 0, (b.cells.take (len * i.size) ++ news).length + (Builtin.zeroCells z.cells (grownCap w (len + k) cap b.elem - (len + k))).toList.length, false⟩ else β j), by rw [hval]; exact hg, ?_, ?_, ?_⟩
    rotate_left
    · have e : ((b.cells.take (len * i.size)).map (Cv.g β) ++ news.map (Cv.g β)).toArray ++ Builtin.zeroCells z.cells (grownCap w (len + k) cap b.elem - (len + k)) = ((b.cells.take (len * i.size) ++ news).map (Cv.g β) ++ (Builtin.zeroCells z.cells (grownCap w (len + k) cap b.elem - (len + k))).toList).toArray := by
        apply Array.toList_inj.1
        simp
      rw [e]
      exact hal
    · simp only [Cv.g, if_true, Bool.false_eq_true, false_and, if_false, Nat.sub_zero, Nat.zero_add]
      rw [zeroCells_len, hz2]
      congr 1
      · have hlen : (b.cells.take (len * i.size) ++ news).length = (len + k) * i.size := by
          rw [List.length_append, List.length_take, hnl, Nat.min_eq_left hl, Nat.add_mul]
        rw [hlen, ← Nat.add_mul, Nat.mul_div_cancel _ (by omega)]
        omega
    · intro j hj
      obtain ⟨c, hc⟩ := Option.isSome_iff_exists.1 hj
      exact if_neg (hne j c hc)
  by_cases hnul : (β n).nul = true ∧ len = 0
  · obtain ⟨hnu, rfl⟩ := hnul
    have hval : (Cv.sl n 0 0 i.size).g β = .slice none 0 0 := by simp [Cv.g, hnu]
    have hcells := hbk.nul_cells hnu
    by_cases hk : k = 0
    · subst hk
      have hnews : news = [] := List.eq_nil_of_length_eq_zero (by simpa using hnl)
      subst hnews
      have hrn := (hrel.kill n b.elem (by simp [hb])).nil nm (by rw [Mem.get_cons, if_neg (fun hh => hnn hh.symm)]; exact hn) b.elem
      refine ⟨_, w, (fun j => if j = nm then ⟨0, 0, 0, true⟩ else β j), by rw [hval]; exact run_append_none w t tx ty b.elem i hu hi x _ hsrc, ?_, ?_, ?_⟩
      rotate_left
      · simp only [Nat.zero_mul, List.take_zero, List.append_nil]
        exact hrn
      · simp [Cv.g]
      · intro j hj
        obtain ⟨c, hc⟩ := Option.isSome_iff_exists.1 hj
        exact if_neg (hne j c hc)
    · refine grow none 0 (by omega) hval ?_
      simp only [Nat.zero_mul, List.take_zero, List.map_nil]
      exact run_firstCells_none w.drew i.size 0 0 0
  · have hnu : (β n).nul = false := by
      cases hq : (β n).nul with
      | false => rfl
      | true =>
        exfalso
        have hcells := hbk.nul_cells hq
        rw [hcells] at hl
        simp only [List.length_nil, Nat.le_zero] at hl
        rcases Nat.mul_eq_zero.1 hl with h | h
        · exact hnul ⟨hq, h⟩
        · exact hsz0 h
    have hbk' := hbk
    unfold BkOk at hbk'
    rw [if_neg (by simp [hnu]), if_neg (by simp [hr])] at hbk'
    obtain ⟨horg, junk, hheap, hsiz⟩ := hbk'
    have hval : (Cv.sl n 0 len i.size).g β = .slice (some ⟨(β n).blk, 0, none⟩) len ((β n).siz / i.size) := by
      simp only [Cv.g, hnul, if_false, horg, Nat.zero_add, Nat.sub_zero]
    have hrange := hbk.range
    rw [horg] at hrange
    by_cases hroom : len + k ≤ (β n).siz / i.size
    · have hfit : (len + k) * i.size ≤ b.cells.length + junk.length := by
        have := Nat.mul_le_mul_right i.size hroom
        have h2 := Nat.div_mul_le_self (β n).siz i.size
        omega
      rw [Nat.add_mul] at hfit
      have hrun := run_append_room_src (P := P) w t tx ty b.elem i hu hi (β n).blk 0 len ((β n).siz / i.size) x k _ hsrc hroom (fun j hj => by
          simp only [World.cell?, hheap, Option.isSome_none, Bool.false_eq_true, if_false]
          rw [List.length_map, hnl] at hj
          simp only [List.getElem?_toArray, Nat.zero_add]
          rw [List.getElem?_eq_getElem (by simp; omega)]; rfl) (fun j hj => by simp [World.frozen?, hheap])
      rw [Nat.zero_add] at hrun
      have hsame := setCells_same (β n).blk (news.map (Cv.g β)) (len * i.size) w
      -- the cells behind the store
      have hset : ∀ (vs l j : List Value) (o : Nat), o ≤ l.length → o + vs.length ≤ (l ++ j).length → setL (l ++ j) o vs = l.take o ++ vs ++ (l ++ j).drop (o + vs.length) := by
        intro vs
        induction vs with
        | nil => intro l j o h1 _; simp [setL]; rw [← List.take_append_of_le_length (l₂ := j) h1, List.take_append_drop]
        | cons v r ih =>
          intro l j o h1 h2
          simp only [List.length_cons] at h2
          have hset1 : (l ++ j).set o v = (l.take o ++ [v]) ++ (l ++ j).drop (o + 1) := by
            rw [List.set_eq_take_append_cons_drop, if_pos (by omega), List.take_append_of_le_length h1]
            simp
          simp only [setL]
          rw [hset1, ih (l.take o ++ [v]) _ (o + 1) (by simp; omega) (by simp; simp at h2; omega)]
          have hlt : (l.take o ++ [v]).length = o + 1 := by simp; omega
          have e1 : (l.take o ++ [v] ++ (l ++ j).drop (o + 1)).drop (o + 1 + r.length) = (l ++ j).drop (o + (r.length + 1)) := by
            rw [show o + 1 + r.length = (l.take o ++ [v]).length + r.length by omega, List.drop_append, List.drop_of_length_le (by omega), List.nil_append, List.drop_drop]
            congr 1
            omega
          rw [e1, List.take_of_length_le (by omega)]
          simp
      have hheap' := heap_setCells_same (β n).blk (news.map (Cv.g β)) (len * i.size) w _ _ _ hheap
      rw [hset _ _ _ _ (by simpa using hl) (by simp [hnl]; omega)] at hheap'
      refine ⟨_, _, (fun j => if j = nm then β n else β j), by rw [hval]; exact hrun, ?_, ?_, ?_⟩
      · intro j hj
        obtain ⟨c, hc⟩ := Option.isSome_iff_exists.1 hj
        exact if_neg (hne j c hc)
      · refine hrel.over hb hr hnu hn (b.cells.take (len * i.size) ++ news) ((b.cells.map (Cv.g β) ++ junk).drop (len * i.size + k * i.size)) hclo hsame.1 hsame.2.1 hsame.2.2.1 hsame.2.2.2 ?_ (fun q hq => heap_setCells_other _ _ _ _ q hq) ?_
        · rw [hheap']
          simp only [List.map_append, List.map_take, List.length_map, hnl]
        · simp only [List.length_append, List.length_take, List.length_drop, List.length_map, hnl]
          omega
      · have : ¬ ((β n).nul = true ∧ len + k = 0) := fun hh => by rw [hnu] at hh; cases hh.1
        simp only [Cv.g, if_true, this, if_false, horg, Nat.zero_add, Nat.sub_zero]
    · refine grow _ _ (by omega) hval ?_
      refine run_firstCells_some w.drew i.size len _ _ _ _ (by rw [List.length_map, List.length_take]; omega) (fun j v hj => ?_)
      rw [Addr.add_lit, Nat.zero_add]
      have := hrange j v (by
        rw [List.map_take, List.getElem?_take] at hj
        split at hj
        · exact hj
        · cases hj)
      rw [Nat.zero_add] at this
      exact this
theorem Stp.append {P : Program} {o : Oper} {e : Env} {M : Mem} (nm : Nat) {s x : Operand} {t tx el : TypeId} {sz n len k : Nat} {b : Bk} {news : List Cv} {zs : List Value} {sc : Prop} (ho : o.op = .call { callee := .builtin .append, args := #[s, x], argTypes := #[t, tx] })
    (ht : slOf P t = some (el, sz)) (hz : zeroOf P el = some zs) (hs : rd e s = some (true, .c (.sl n 0 len sz))) (hb : M.get n = some b) (hr : b.ro = false) (hel : b.elem = el) (hl : len * sz ≤ b.cells.length) (hn : M.get nm = none)
    (hsrc : srcE P e M tx sz x = some (sc, k, news)) (hsc : sc) (hby : (len + k) * byOf P el ≤ 140737488355328) (h63 : len + k ≤ 9223372036854775807) :
    Stp P o e M (.c (.sl nm 0 (len + k) sz)) [(nm, ⟨false, b.cells.take (len * sz) ++ news, el⟩), (n, dead el)] := by
  intro S w0 β M' a w hsub hfr hrel hok K Q hk
  obtain ⟨b', hb', hwk⟩ := hsub n b hb
  obtain rfl : b = b' := by rcases hwk with h | h; exact h; rw [hr] at h; exact absurd h.1 (by simp)
  have hn' : M'.get nm = none := by
    rcases hfr nm (by simp [Mem.get]) with h | h
    · rw [hn] at h; cases h
    · exact h
  have hev := hok β (Agree.refl _ _) s (by simp [ho, Op.operands, Call.operands]) _ hs
  simp only [gv, V.g, cond_true] at hev
  obtain ⟨h1, h2, h3⟩ := srcE_ok hsrc hsc hsub hrel (a := a) (fun β' hag y hy => hok β' hag x (by simp [ho, Op.operands, Call.operands]) y hy)
  obtain ⟨u, w', β', hrun, hag, hrel', hu⟩ := append_run (ty := o.type) ht hz hrel hb' hr hel hl hn' h1 h2 h3 hby h63
  unfold Oper.wp execOp
  simp only [ho, resolve, invoke, builtin, Sem.run_bind, Sem.run_pure, Result.andThen_ok, List.map_toArray, List.map_cons, List.map_nil, hev, hrun]
  refine hk β' u w' hag hrel' (fun β'' hag'' => ?_)
  rw [hu]
  have := hag'' nm (by simp [Mem.get])
  simp only [V.g, Cv.g, this]
theorem Stp.appendNil {P : Program} {o : Oper} {e : Env} {M : Mem} (nm : Nat) {s x : Operand} {t tx el : TypeId} {sz k : Nat} {news : List Cv} {zs : List Value} {sc : Prop} (ho : o.op = .call { callee := .builtin .append, args := #[s, x], argTypes := #[t, tx] })
    (ht : slOf P t = some (el, sz)) (hz : zeroOf P el = some zs) (hs : rd e s = some (true, .c (.v (.slice none 0 0)))) (hn : M.get nm = none)
    (hsrc : srcE P e M tx sz x = some (sc, k, news)) (hsc : sc) (hby : k * byOf P el ≤ 140737488355328) (h63 : k ≤ 9223372036854775807) :
    Stp P o e M (.c (.sl nm 0 k sz)) [(nm, ⟨false, news, el⟩)] := by
  intro S w0 β M' a w hsub hfr hrel hok K Q hk
  have hn' : M'.get nm = none := by
    rcases hfr nm (by simp [Mem.get]) with h | h
    · rw [hn] at h; cases h
    · exact h
  have hne : ∀ j b, M'.get j = some b → j ≠ nm := fun j b hj hh => by rw [hh, hn'] at hj; cases hj
  have hev := hok β (Agree.refl _ _) s (by simp [ho, Op.operands, Call.operands]) _ hs
  simp only [gv, V.g, Cv.g, cond_true] at hev
  obtain ⟨h1, h2, h3⟩ := srcE_ok hsrc hsc hsub hrel (a := a) (fun β' hag y hy => hok β' hag x (by simp [ho, Op.operands, Call.operands]) y hy)
  obtain ⟨hu, hsz, hsz0⟩ := slOf_ok ht
  obtain ⟨i, z, hi, hz1, hz2, hz3⟩ := zero_info hz
  have hsi : i.size = sz := by rw [← szOf_info hi]; exact hsz
  subst hsi
  unfold Oper.wp execOp
  by_cases hk0 : k = 0
  · subst hk0
    have hnews : news = [] := List.eq_nil_of_length_eq_zero (by simpa using h3)
    subst hnews
    simp only [ho, resolve, invoke, builtin, Sem.run_bind, Sem.run_pure, Result.andThen_ok, List.map_toArray, List.map_cons, List.map_nil, hev, run_append_none w t tx o.type el i hu hi _ _ h1]
    refine hk (fun j => if j = nm then ⟨0, 0, 0, true⟩ else β j) _ w (fun j hj => ?_) (hrel.nil nm hn' el) (fun β'' hag => ?_)
    · obtain ⟨c, hc⟩ := Option.isSome_iff_exists.1 hj
      exact if_neg (hne j c hc)
    · have := hag nm (by simp [Mem.get])
      simp [V.g, Cv.g, this]
  · have hg := run_append_grow_src (P := P) w t tx o.type el i z hu hi hz1 none 0 0 [] (run_firstCells_none w.drew i.size 0 0 0) (a.eval x) k _ h1 (by omega) (by omega) (growslice_fits (by omega) (by rw [← byOf_info hi]; simpa using hby))
    simp only [Nat.zero_add, List.nil_append] at hg
    have hge := grownCap_ge w k 0 el
    have hal := (hrel.drew).allocJ nm hn' news (Builtin.zeroCells z.cells (grownCap w k 0 el - k)).toList el h2
    simp only [ho, resolve, invoke, builtin, Sem.run_bind, Sem.run_pure, Result.andThen_ok, List.map_toArray, List.map_cons, List.map_nil, hev, hg]
    have e1 : (news.map (Cv.g β)).toArray ++ Builtin.zeroCells z.cells (grownCap w k 0 el - k) = (news.map (Cv.g β) ++ (Builtin.zeroCells z.cells (grownCap w k 0 el - k)).toList).toArray := by
      apply Array.toList_inj.1
      simp
    rw [e1]
    refine hk (fun j => if j = nm then ⟨w.heap.size, 0, news.length + (Builtin.zeroCells z.cells (grownCap w k 0 el - k)).toList.length, false⟩ else β j) _ _ (fun j hj => ?_) hal (fun β'' hag => ?_)
    · obtain ⟨c, hc⟩ := Option.isSome_iff_exists.1 hj
      exact if_neg (hne j c hc)
    · have := hag nm (by simp [Mem.get])
      simp only [V.g, Cv.g, this, if_true, Bool.false_eq_true, false_and, if_false, Nat.zero_add, Nat.sub_zero]
      rw [zeroCells_len, hz2, h3, ← Nat.add_mul, Nat.mul_div_cancel _ (by omega)]
      congr 1
      omega
/-! ### indexes, slices of slices, strings -/
def str (l : List UInt8) : Value := .string ⟨l.toArray⟩
def strE (op : BinOp) (s u : ByteArray) : Option (Prop × Value) :=
  match op with
  | .add => some (s.data.toList.length + u.data.toList.length ≤ 9223372036854775807, str (s.data.toList ++ u.data.toList))
  | .eql => some (True, .bool (s.data.toList == u.data.toList))
  | .neq => some (True, .bool !(s.data.toList == u.data.toList))
  | _ => none
theorem strE_ok {P : Program} {op : BinOp} {ty : TypeId} {s u : ByteArray} {sc : Prop} {z : Value} (h : strE op s u = some (sc, z)) (hs : sc) (ox oy : Operand) (w : World) :
    ((do eqGuard op ty ox oy (.string s) (.string u); binOp op ty (.string s) (.string u) : Sem Value)).run P w = .ok z w := by
  cases op <;> simp [strE] at h <;> obtain ⟨hsc, rfl⟩ := h
  · have hle := hsc.2 hs
    have hn : ¬ (IntKind.i64.max < ((s.size : Int) + (u.size : Int))) := by
      rw [Lib.size_eq, Lib.size_eq]
      simp only [Array.length_toList]
      simp [IntKind.max, IntKind.signed, IntKind.bits]
      omega
    have : s ++ u = ⟨(s.data.toList ++ u.data.toList).toArray⟩ := by
      apply ByteArray.ext
      rw [ByteArray.data_append]
      apply Array.toList_inj.1
      simp
    simp [eqGuard, binOp_string_add, Op.stringOp, str, this]
    omega
  · simp [eqGuard, binOp_string_eql, Lib.toList_data]
  · simp [eqGuard, binOp_string_neq, Lib.toList_data]
def bndE (e : Env) (d : Nat) : Option Operand → Option (Prop × Int)
  | none => some (True, d)
  | some x => match rdV e x with
    | some (g, .int _ k) => some (g = true, k)
    | _ => none
theorem bndE_ok {e : Env} {d : Nat} {x : Option Operand} {sc : Prop} {k : Int} (h : bndE e d x = some (sc, k)) (hs : sc) {β : Vl} {a : Act} (hx : ∀ y, x = some y → ∀ z, rd e y = some z → a.eval y = gv β z) :
    (x = none ∧ k = d) ∨ ∃ y kk, x = some y ∧ a.eval y = .int kk k := by
  cases x with
  | none => simp [bndE] at h; exact .inl ⟨rfl, h.2.symm⟩
  | some y =>
    right
    simp only [bndE] at h
    split at h <;> simp at h
    rename_i g kk k' hr
    obtain ⟨h1, rfl⟩ := h
    have := h1.2 hs; subst this
    refine ⟨y, kk, rfl, ?_⟩
    have := hx y rfl _ (rdV_rd hr)
    simpa [gv, V.g, Cv.g] using this
def opX (P : Program) (e : Env) (M : Mem) (nx : Nat) : Op → Option (Prop × V × Mem × Nat)
  | .indexAddr ty x i => match rd e x, rdV e i with
    | some (gx, .c (.sl n off len esz)), some (gi, .int _ k) => match slOf P ty with
      | some (_, sz) => some (gx = true ∧ gi = true ∧ 0 ≤ k ∧ k < len ∧ sz = esz, .c (.p n (off + k.toNat * esz)), [], nx)
      | none => none
    | some (gx, .c (.p n off)), some (gi, .int _ k) => match paOf P ty with
      | some (len, sz) => some (gx = true ∧ gi = true ∧ 0 ≤ k ∧ k < len, .c (.p n (off + k.toNat * sz)), [], nx)
      | none => none
    | _, _ => none
  | .index ty x i => match rdV e x, rdV e i with
    | some (gx, .string s), some (gi, .int _ k) => match strOf P ty with
      | true => some (gx = true ∧ gi = true ∧ 0 ≤ k ∧ k < s.data.toList.length, .c (.v (.int .u8 (s.data.toList.getD k.toNat 0).toNat)), [], nx)
      | false => none
    | _, _ => none
  | .binOp op _ x y _ => match rdV e x, rdV e y with
    | some (gx, .string s), some (gy, .string u) => match strE op s u with
      | some (sc, v) => some ((gx = true ∧ gy = true) ∧ sc, .c (.v v), [], nx)
      | none => none
    | _, _ => none
  | .slice ty x lo hi none => match rd e x with
    | some (gx, .c (.sl n off len esz)) => match slOf P ty, bndE e 0 lo, bndE e len hi, M.get n with
      | some (_, sz), some (s1, l), some (s2, h), some b => some (gx = true ∧ sz = esz ∧ s1 ∧ s2 ∧ 0 ≤ l ∧ l ≤ h ∧ h ≤ len ∧ off + len * esz ≤ b.cells.length ∧ (l = 0 ∨ l < len), .c (.sl n (off + l.toNat * esz) (h - l).toNat esz), [], nx)
      | _, _, _, _ => none
    | some (gx, .c (.v (.string s))) => match strOf P ty, bndE e 0 lo, bndE e s.data.toList.length hi with
      | true, some (s1, l), some (s2, h) => some (gx = true ∧ s1 ∧ s2 ∧ 0 ≤ l ∧ l ≤ h ∧ h ≤ s.data.toList.length, .c (.v (str ((s.data.toList.drop l.toNat).take (h - l).toNat))), [], nx)
      | _, _, _ => none
    | _ => none
  | .buildSlice ty len parts => match slOf P ty with
    | some (el, sz) => match zeroOf P el with
      | some zs => match fillE (plS len sz) e ((reps len zs).map .v) parts.toList with
        | some (sc, cs) => some (sc ∧ len * sz ≤ 16777216 ∧ (M.get nx).isNone = true, .c (.sl nx 0 len sz), [(nx, ⟨false, cs, el⟩)], nx + 1)
        | none => none
      | none => none
    | none => none
  | .makeSlice ty x y => match slOf P ty with
    | some (el, sz) => match zeroOf P el, rdV e x, rdV e y with
      | some zs, some (gx, .int _ l), some (gy, .int _ c) => some (gx = true ∧ gy = true ∧ l = c ∧ 0 ≤ l ∧ l ≤ 9223372036854775807 ∧ (byOf P el : Int) * l ≤ 281474976710656 ∧ (M.get nx).isNone = true, .c (.sl nx 0 l.toNat sz), [(nx, ⟨false, reps l.toNat (zs.map .v), el⟩)], nx + 1)
      | _, _, _ => none
    | none => none
  | .call { callee := .builtin .len, args := as, argTypes := tys } => match as.toList, tys.toList with
    | [x], [ty] => match rd e x with
      | some (g, .c (.sl _ _ len _)) => match slOf P ty with
        | some _ => some (g = true, .c (.v (.int .i64 len)), [], nx)
        | none => none
      | some (g, .c (.v (.slice none 0 0))) => match slOf P ty with
        | some _ => some (g = true, .c (.v (.int .i64 0)), [], nx)
        | none => none
      | some (g, .c (.v (.string s))) => match strOf P ty with
        | true => some (g = true, .c (.v (.int .i64 s.data.toList.length)), [], nx)
        | false => none
      | _ => none
    | _, _ => none
  | .call { callee := .builtin .append, args := as, argTypes := tys } => match as.toList, tys.toList with
    | [s, x], [t, tx] => match rd e s, slOf P t with
      | some (g, .c (.sl n 0 len sz)), some (el, sz') => match M.get n, zeroOf P el, srcE P e M tx sz x with
        | some b, some _, some (sc, k, news) => some (g = true ∧ sz' = sz ∧ b.ro = false ∧ b.elem = el ∧ len * sz ≤ b.cells.length ∧ (M.get nx).isNone = true ∧ sc ∧ (len + k) * byOf P el ≤ 140737488355328 ∧ len + k ≤ 9223372036854775807,
            .c (.sl nx 0 (len + k) sz), [(nx, ⟨false, b.cells.take (len * sz) ++ news, el⟩), (n, dead el)], nx + 1)
        | _, _, _ => none
      | some (g, .c (.v (.slice none 0 0))), some (el, sz) => match zeroOf P el, srcE P e M tx sz x with
        | some _, some (sc, k, news) => some (g = true ∧ (M.get nx).isNone = true ∧ sc ∧ k * byOf P el ≤ 140737488355328 ∧ k ≤ 9223372036854775807, .c (.sl nx 0 k sz), [(nx, ⟨false, news, el⟩)], nx + 1)
        | _, _ => none
      | _, _ => none
    | _, _ => none
  | _ => none
theorem arr2 {α : Type} {as : Array α} {x : α} (h : as.toList = [x]) : as = #[x] := Array.toList_inj.1 h
theorem opX_ok {P : Program} {o : Oper} {e : Env} {M N : Mem} {nx nx' : Nat} {v : V} {sc : Prop} (h : opX P e M nx o.op = some (sc, v, N, nx')) (hs : sc) : Stp P o e M v N := by
  cases ho : o.op <;> rw [ho] at h <;> simp only [opX] at h <;> try (cases h; done)
  case indexAddr ty x i =>
    split at h <;> first | (cases h; done) | skip
    · rename_i gx n off len esz gi ki k hx hi
      split at h <;> simp at h
      rename_i el sz hsl
      obtain ⟨h1, rfl, rfl, rfl⟩ := h
      obtain ⟨rfl, rfl, h0, hlt, rfl⟩ := h1.2 hs
      obtain ⟨hu, hsz, hsz0⟩ := slOf_ok hsl
      exact Stp.pure fun β a hop w => by
        have hex := hop x (by simp [ho, Op.operands]) _ hx
        have hei := hop i (by simp [ho, Op.operands]) _ (rdV_rd hi)
        simp only [gv, V.g, Cv.g, cond_true] at hex hei
        have hl : ¬ ((β n).nul = true ∧ len = 0) := fun hh => by omega
        rw [if_neg hl] at hex
        unfold execOp
        simp [ho, hex, hei, Instr.indexAt, asIntOf, run_underlying hu, h0, hlt, run_sizeOf' hsz hsz0, V.g, Cv.g, Addr.add_lit, Nat.add_assoc]
    · rename_i gx n off gi ki k hx hi
      split at h <;> simp at h
      rename_i len sz hpa
      obtain ⟨h1, rfl, rfl, rfl⟩ := h
      obtain ⟨rfl, rfl, h0, hlt⟩ := h1.2 hs
      unfold paOf at hpa
      split at hpa <;> first | (cases hpa; done) | skip
      rename_i len' el hu
      split at hpa <;> simp at hpa
      rename_i hsz0
      obtain ⟨rfl, rfl⟩ := hpa
      exact Stp.pure fun β a hop w => by
        have hex := hop x (by simp [ho, Op.operands]) _ hx
        have hei := hop i (by simp [ho, Op.operands]) _ (rdV_rd hi)
        simp only [gv, V.g, Cv.g, cond_true] at hex hei
        unfold execOp
        simp [ho, hex, hei, Instr.indexAt, Instr.sureAddr, asIntOf, run_underlying hu, h0, hlt, run_sizeOf' (P := P) (t := el) rfl hsz0, V.g, Cv.g, Addr.add_lit, Nat.add_assoc]
  case index ty x i =>
    split at h <;> first | (cases h; done) | skip
    rename_i gx s gi ki k hx hi
    split at h <;> simp at h
    rename_i hst
    obtain ⟨h1, rfl, rfl, rfl⟩ := h
    obtain ⟨rfl, rfl, h0, hlt⟩ := h1.2 hs
    have hu := strOf_ok hst
    exact Stp.pure fun β a hop w => by
      have hex := hop x (by simp [ho, Op.operands]) _ (rdV_rd hx)
      have hei := hop i (by simp [ho, Op.operands]) _ (rdV_rd hi)
      simp only [gv, V.g, Cv.g, cond_true] at hex hei
      have hlt' : k < (s.size : Int) := by rw [Lib.size_eq]; simpa using hlt
      unfold execOp
      simp only [ho, hex, hei, Sem.run_bind, run_index_string w ty s ki k hu, dif_pos (And.intro h0 hlt'), Result.andThen_ok]
      have hk : k.toNat < s.data.size := by
        have : s.size = s.data.size := rfl
        omega
      have e1 : s[k.toNat]'(by omega) = s.data[k.toNat] := rfl
      simp [V.g, Cv.g, e1]
      rw [Array.getElem?_eq_getElem hk]; rfl
  case binOp op ty x y ty' =>
    split at h <;> first | (cases h; done) | skip
    rename_i gx s gy u hx hy
    split at h <;> simp at h
    rename_i sc' z hz
    obtain ⟨h1, rfl, rfl, rfl⟩ := h
    obtain ⟨⟨rfl, rfl⟩, k3⟩ := h1.2 hs
    exact Stp.pure fun β a hop w => by
      have hex := hop x (by simp [ho, Op.operands]) _ (rdV_rd hx)
      have hey := hop y (by simp [ho, Op.operands]) _ (rdV_rd hy)
      simp only [gv, V.g, Cv.g, cond_true] at hex hey
      have := strE_ok (P := P) (ty := ty) hz k3 x y w
      unfold execOp
      simp only [ho, hex, hey]
      rw [Sem.run_bind, this]
      simp [V.g, Cv.g]
  case slice ty x lo hi mx =>
    cases mx with
    | some _ => cases h
    | none =>
    simp only at h
    split at h <;> first | (cases h; done) | skip
    · rename_i gx n off len esz hx
      split at h <;> simp at h
      rename_i el sz s1 l s2 hh b hsl h1 h2 hb
      obtain ⟨k1, rfl, rfl, rfl⟩ := h
      obtain ⟨rfl, rfl, c1, c2, hl0, hlh, hhl, hfit, hor⟩ := k1.2 hs
      obtain ⟨hu, hsz, hsz0⟩ := slOf_ok hsl
      refine Stp.read fun S w0 β M' a w hsub hrel hop => ?_
      have hex := hop x (by simp [ho, Op.operands]) _ hx
      simp only [gv, V.g, cond_true] at hex
      have hsi := hrel.siz hsub hb
      have hlo := bndE_ok h1 c1 (β := β) (a := a) (fun y hy z hz => hop y (by simp [ho, Op.operands, hy]) z hz)
      have hhi := bndE_ok h2 c2 (β := β) (a := a) (fun y hy z hz => hop y (by simp [ho, Op.operands, hy]) z hz)
      -- the capacity
      have hcap : len ≤ ((β n).siz - off) / sz := by
        rw [Nat.le_div_iff_mul_le (by omega)]
        omega
      obtain ⟨A, cap, hv, hcap', hA⟩ : ∃ A cap, (Cv.sl n off len sz).g β = .slice A len cap ∧ len ≤ cap ∧ ((A = none ∧ len = 0 ∧ cap = 0 ∧ (β n).nul = true) ∨ (A = some ⟨(β n).blk, (β n).org + off, none⟩ ∧ cap = ((β n).siz - off) / sz ∧ ¬ ((β n).nul = true ∧ len = 0))) := by
        by_cases hq : (β n).nul = true ∧ len = 0
        · refine ⟨none, 0, ?_, by omega, .inl ⟨rfl, hq.2, rfl, hq.1⟩⟩
          simp only [Cv.g, if_pos hq]
          rw [hq.2]
        · exact ⟨_, _, by simp only [Cv.g, if_neg hq], hcap, .inr ⟨rfl, rfl, hq⟩⟩
      rw [hv] at hex
      have hb1 : (Instr.sliceBounds true len cap (lo.map a.eval) (hi.map a.eval) none).run P w = .ok (l.toNat, hh.toNat, cap) w := by
        rcases hlo with ⟨rfl, rfl⟩ | ⟨y, kk, rfl, hy⟩ <;> rcases hhi with ⟨rfl, rfl⟩ | ⟨y', kk', rfl, hy'⟩
        · simp [Instr.sliceBounds]
        · simp [Instr.sliceBounds, hy', run_sliceBound (P := P) w kk' hh cap _ (by omega) (by omega)]
        · simp [Instr.sliceBounds, hy, run_sliceBound (P := P) w kk l len _ (by omega) (by omega)]
        · have := run_sliceBound (P := P) w kk l hh.toNat .sliceB (by omega) (by omega)
          simp [Instr.sliceBounds, hy, hy', run_sliceBound (P := P) w kk' hh cap _ (by omega) (by omega), this]
      have hat : (Instr.sliceAt ty (a.eval x) (lo.map a.eval) (hi.map a.eval) (Option.map a.eval none)).run P w = (Instr.slice ty (a.eval x) (lo.map a.eval) (hi.map a.eval) none).run P w := by
        simp [Instr.sliceAt, run_underlying hu]
      unfold execOp
      simp only [ho, Sem.run_bind, hat]
      rw [hex]
      simp only [Instr.slice, Sem.run_bind, run_underlying hu, Result.andThen_ok, hb1, run_sizeOf' hsz hsz0, Sem.run_pure, V.g]
      congr 2
      rcases hA with ⟨rfl, rfl, rfl, hnu⟩ | ⟨rfl, rfl, hq⟩
      · have e1 : l = 0 := by omega
        have e2 : hh = 0 := by omega
        subst e1 e2
        simp [Cv.g, hnu]
      · by_cases hl : l = 0
        · subst hl
          have hq' : ∀ z : Nat, (β n).nul = true ∧ z = 0 → False := fun z hz => by
            have := hsi.2 hz.1
            rw [this] at hfit
            simp at hfit
            have : len = 0 := by
              rcases Nat.eq_zero_or_pos len with h | h
              · exact h
              · have := Nat.mul_pos h (Nat.pos_of_ne_zero hsz0); omega
            exact hq ⟨hz.1, this⟩
          simp only [Cv.g, Int.toNat_zero, Nat.zero_mul, Nat.add_zero, Nat.sub_zero, Int.sub_zero, if_neg (hq' _), Option.map_some, Addr.add_lit]
          simp
        · have hlt : l < len := by omega
          have hnu : (β n).nul = false := by
            cases hz : (β n).nul with
            | false => rfl
            | true =>
              have := hsi.2 hz
              rw [this] at hfit
              simp at hfit
              have := Nat.mul_pos (show 0 < len by omega) (Nat.pos_of_ne_zero hsz0)
              omega
          have hne : ((β n).siz - off) / sz ≠ l.toNat := by omega
          simp only [Cv.g, hnu, Bool.false_eq_true, false_and, if_false, if_neg hne, Option.map_some, Addr.add_lit]
          have e1 : hh.toNat - l.toNat = (hh - l).toNat := by omega
          have e2 : ((β n).siz - off) / sz - l.toNat = ((β n).siz - (off + l.toNat * sz)) / sz := by
            rw [← Nat.sub_sub, Nat.mul_comm l.toNat sz, Nat.sub_mul_div]
          rw [e1, e2, Nat.add_assoc]
    · rename_i gx s hx
      split at h <;> simp at h
      rename_i s1 l s2 hh hst h1 h2
      obtain ⟨k1, rfl, rfl, rfl⟩ := h
      obtain ⟨rfl, c1, c2, hl0, hlh, hhl⟩ := k1.2 hs
      have hu := strOf_ok hst
      have hsz : s.size = s.data.size := rfl
      exact Stp.pure fun β a hop w => by
        have hex := hop x (by simp [ho, Op.operands]) _ hx
        simp only [gv, V.g, Cv.g, cond_true] at hex
        have hlo := bndE_ok h1 c1 (β := β) (a := a) (fun y hy z hz => hop y (by simp [ho, Op.operands, hy]) z hz)
        have hhi := bndE_ok h2 c2 (β := β) (a := a) (fun y hy z hz => hop y (by simp [ho, Op.operands, hy]) z hz)
        have hb1 : (Instr.sliceBounds false s.size s.size (lo.map a.eval) (hi.map a.eval) none).run P w = .ok (l.toNat, hh.toNat, s.size) w := by
          rcases hlo with ⟨rfl, rfl⟩ | ⟨y, kk, rfl, hy⟩ <;> rcases hhi with ⟨rfl, rfl⟩ | ⟨y', kk', rfl, hy'⟩
          · simp [Instr.sliceBounds]
          · simp [Instr.sliceBounds, hy', run_sliceBound (P := P) w kk' hh s.size _ (by omega) (by omega)]
          · simp [Instr.sliceBounds, hy, run_sliceBound (P := P) w kk l s.size _ (by omega) (by omega)]
          · have := run_sliceBound (P := P) w kk l hh.toNat .sliceB (by omega) (by omega)
            simp [Instr.sliceBounds, hy, hy', run_sliceBound (P := P) w kk' hh s.size _ (by omega) (by omega), this]
        have hat : (Instr.sliceAt ty (a.eval x) (lo.map a.eval) (hi.map a.eval) (Option.map a.eval none)).run P w = (Instr.slice ty (a.eval x) (lo.map a.eval) (hi.map a.eval) none).run P w := by
          simp [Instr.sliceAt, run_underlying hu]
        have e1 : hh.toNat - l.toNat = (hh - l).toNat := by omega
        unfold execOp
        simp only [ho, Sem.run_bind, hat]
        rw [hex]
        simp [Instr.slice, run_underlying hu, hb1, V.g, Cv.g, str, Lib.extract_eq, e1]
  case buildSlice ty len parts =>
    split at h <;> first | (cases h; done) | skip
    rename_i el sz hsl
    split at h <;> first | (cases h; done) | skip
    rename_i zs hz
    split at h <;> simp at h
    rename_i sc' cs hf
    obtain ⟨k1, rfl, rfl, rfl⟩ := h
    obtain ⟨c1, c2, c4⟩ := k1.2 hs
    exact Stp.buildSlice nx ho hsl hz c2 hf c1 (by simpa using c4)
  case makeSlice ty x y =>
    split at h <;> first | (cases h; done) | skip
    rename_i el sz hsl
    split at h <;> simp at h
    rename_i zs gx kl l gy kc c hz hx hy
    obtain ⟨k1, rfl, rfl, rfl⟩ := h
    obtain ⟨rfl, rfl, rfl, c1, c2, c3, c4⟩ := k1.2 hs
    exact Stp.makeSlice nx ho hsl hz (rdV_rd hx) (rdV_rd hy) c1 c2 c3 (by simpa using c4)
  case call c =>
    obtain ⟨callee, as, tys⟩ := c
    cases callee <;> (try simp only at h) <;> try (cases h; done)
    rename_i b
    cases b <;> (try simp only at h) <;> try (cases h; done)
    · split at h <;> first | (cases h; done) | skip
      rename_i s x t tx has htys
      obtain rfl : as = #[s, x] := Array.toList_inj.1 has
      obtain rfl : tys = #[t, tx] := Array.toList_inj.1 htys
      split at h <;> first | (cases h; done) | skip
      · rename_i g n len sz el sz' hrs hsl
        split at h <;> simp at h
        rename_i b zs sc' k news hb hz hsrc
        obtain ⟨k1, rfl, rfl, rfl⟩ := h
        obtain ⟨rfl, rfl, c1, c2, c3, c4, c5, c6, c7⟩ := k1.2 hs
        exact Stp.append nx ho hsl hz hrs hb c1 c2 c3 (by simpa using c4) hsrc c5 c6 c7
      · rename_i g el sz hrs hsl
        split at h <;> simp at h
        rename_i zs sc' k news hz hsrc
        obtain ⟨k1, rfl, rfl, rfl⟩ := h
        obtain ⟨rfl, c4, c5, c6, c7⟩ := k1.2 hs
        exact Stp.appendNil nx ho hsl hz hrs (by simpa using c4) hsrc c5 c6 c7
    · split at h <;> first | (cases h; done) | skip
      rename_i x ty has htys
      obtain rfl : as = #[x] := Array.toList_inj.1 has
      obtain rfl : tys = #[ty] := Array.toList_inj.1 htys
      split at h <;> first | (cases h; done) | skip
      · rename_i g n off len esz hx
        split at h <;> simp at h
        rename_i q hsl
        obtain ⟨el, sz⟩ := q
        obtain ⟨k1, rfl, rfl, rfl⟩ := h
        have := k1.2 hs; subst this
        obtain ⟨hu, _, _⟩ := slOf_ok hsl
        exact Stp.pure fun β a hop w => by
          have hex := hop x (by simp [ho, Op.operands, Call.operands]) _ hx
          simp only [gv, V.g, Cv.g, cond_true] at hex
          unfold execOp
          split at hex
          · rename_i hq
            simp [ho, resolve, invoke, builtin, hex, Builtin.len_, run_underlying hu, V.g, Cv.g, goInt, hq.2]
          · simp [ho, resolve, invoke, builtin, hex, Builtin.len_, run_underlying hu, V.g, Cv.g, goInt]
      · rename_i g hx
        split at h <;> simp at h
        rename_i q hsl
        obtain ⟨el, sz⟩ := q
        obtain ⟨k1, rfl, rfl, rfl⟩ := h
        have := k1.2 hs; subst this
        obtain ⟨hu, _, _⟩ := slOf_ok hsl
        exact Stp.pure fun β a hop w => by
          have hex := hop x (by simp [ho, Op.operands, Call.operands]) _ hx
          simp only [gv, V.g, Cv.g, cond_true] at hex
          unfold execOp
          simp [ho, resolve, invoke, builtin, hex, Builtin.len_, run_underlying hu, V.g, Cv.g, goInt]
      · rename_i g s hx
        split at h <;> simp at h
        rename_i hst
        obtain ⟨k1, rfl, rfl, rfl⟩ := h
        have := k1.2 hs; subst this
        have hu := strOf_ok hst
        exact Stp.pure fun β a hop w => by
          have hex := hop x (by simp [ho, Op.operands, Call.operands]) _ hx
          simp only [gv, V.g, Cv.g, cond_true] at hex
          unfold execOp
          simp [ho, resolve, invoke, builtin, hex, Builtin.len_, run_underlying hu, V.g, Cv.g, goInt]
end Vg
end Go.Proofs.YtpahigegcbdleaaDoor
