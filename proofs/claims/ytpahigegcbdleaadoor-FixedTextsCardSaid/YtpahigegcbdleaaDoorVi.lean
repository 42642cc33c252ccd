/- The machine: a callee entered in place; pointers compared and turned to unsafe.Pointer; a byte slice's bytes as a string (package strings' Builder). -/
import Derived.Test.YtpahigegcbdleaaDoorVs
import Derived.Lib.Builder
import Derived.Lib.UnsafeStr
namespace Go.Proofs.YtpahigegcbdleaaDoor
namespace Vg
open Go.RowKit
/-- The end of a body without 'return'. -/
theorem Sm.fall {P : Program} {nt : Nat} {C : Cx} {fn : Func} {v : V} {NM : Mem} {e : Env} {M : Mem} (hR : RetOk P C fn v NM) (h : RetQ C e M) : Sm P nt C [] e M := fun β a w h1 h2 _ h4 => hR.2.2 a w (h β a w h1 h2 h4)
/-- What a callee that was entered in place has to come to: the caller goes on. -/
def InR (P : Program) (nt : Nat) (C : Cx) (fn : Func) (dst : Option Nat) (todo : List It) (e : Env) (C' : Cx) : Prop :=
  ∀ e2 M2 sc v, resE P e2 M2 fn.results.toList = some (sc, v) → sc → Sm P nt C todo (e.put dst true v) M2 → RetQ C' e2 M2
def InN (C' : Cx) : Prop := ∀ P nt e2 M2, RetQ C' e2 M2 → Sm P nt C' [] e2 M2
/-- A CALLEE ENTERED IN PLACE. -/
theorem CallQ.inl {P : Program} {nt : Nat} {C : Cx} {todo : List It} {e : Env} {M : Mem} {f : FuncId} {fn : Func} {body : Code} {vs : List (Option (Bool × V))} {g : Bool} {dst : Option Nat} {xs : List V} (nx : Nat) (hf : P.funcs[f]? = some fn) (hb : fn.body = some body) (hent : Enters P f) (hnt : xs.length ≤ fn.ntmps) (hg : g = true)
    (hvs : vs = xs.map fun x => some (true, x)) (hcl : ∀ x ∈ xs, ClV M x) (hd : dstOk nt dst = true)
    (h : ∀ C', InR P nt C fn dst todo e C' → InN C' → Pins C'.S M → run P fn.ntmps C' 1000 [.code body] (initE 0 xs) M nx) : CallQ P nt C f vs g dst todo e M := by
  refine .inr ⟨hg, xs, hvs, hent, fun β a w h1 h2 h3 h4 => calls_of_wp hf hb ?_⟩
  let R : Ending → World → Prop := fun en w' => ∃ u, en = .returned u ∧ cont P C.Q todo .normal (a.put dst u) w'
  let C' : Cx := ⟨⟨C.S.s, fun n => if (M.get n).isSome = true then some (β n) else none⟩, C.w0, bodyPost P fn R⟩
  have hfin : InR P nt C fn dst todo e C' := by
    intro e2 M2 sc v hres hs hS β' a' w' hrel hen hdf
    have hrun := results_run hrel hen hres hs
    have hag : ∀ n, (M.get n).isSome = true → (M2.get n).isSome = true ∧ β' n = β n := fun n hn => hrel.pin n (β n) (if_pos hn)
    refine ⟨hdf, v.g β', hrun, v.g β', rfl, ?_⟩
    refine hS β' _ w' ⟨hrel.fr, hrel.mem, hrel.own, fun n l hl => ?_⟩ ?_ ?_ ?_
    · obtain ⟨q1, q2⟩ := h1.pin n l hl
      exact ⟨(hag n q1).1, (hag n q1).2.trans q2⟩
    · intro β'' hag2 t y hy
      have hA : Agree M β β'' := fun n hn => (hag2 n (hag n hn).1).trans (hag n hn).2
      cases dst with
      | none => exact h2 β'' hA t y hy
      | some d =>
        have hlt : d < nt := dstOk_lt hd d rfl
        rw [Env.get_put] at hy
        by_cases hdt : d = t
        · subst hdt
          rw [if_pos rfl] at hy
          cases hy
          have hrun2 := results_run (hrel.agree hag2) (fun b hb => hen b (hag2.trans hb)) hres hs
          rw [hrun] at hrun2
          simp only [Result.ok.injEq, and_true] at hrun2
          simp [Act.put, h3, hlt, gv, hrun2]
        · rw [if_neg (by simpa using hdt)] at hy
          have := h2 β'' hA t y hy
          simpa [Act.put, Array.getElem?_setIfInBounds, hdt] using this
    · cases dst <;> simp [Act.put, h3]
    · cases dst <;> simp [Act.put, h4]
  have hnor : InN C' := fun P' nt' e2 M2 hQ β' a' w' hrel hen _ hdf => hQ β' a' w' hrel hen hdf
  refine run_ok 1000 _ _ _ nx (h C' hfin hnor (fun n l hl => ?_)) β _ w ⟨h1.fr, h1.mem, h1.own, fun n l hl => ?_⟩ ?_ ?_ rfl
  · by_cases hh : (M.get n).isSome = true
    · exact hh
    · simp [C', hh] at hl
  · by_cases hh : (M.get n).isSome = true
    · simp only [C', hh, if_true, Option.some.injEq] at hl
      exact ⟨hh, hl⟩
    · simp [C', hh] at hl
  · intro β' hag t y hy
    obtain ⟨_, q2, q3⟩ := initE_get xs 0 t y hy
    simp only [Nat.sub_zero] at q2
    have hlt : t < xs.length := (List.getElem?_eq_some_iff.1 q2).1
    obtain ⟨gg, x⟩ := y
    simp only at q2 q3
    subst q3
    have hx : x ∈ xs := List.mem_of_getElem? q2
    simp only [gv, cond_true, hcl x hx β β' hag]
    rw [List.getElem?_eq_getElem hlt] at q2
    simp only [Option.some.injEq] at q2
    simp [Array.getElem?_append, hlt, q2]
  · simp; omega
/-! ### In a region that draws: an operation of one's own; one that reads what another made -/
theorem Stp.touch {P : Program} {o : Oper} {e : Env} {M : Mem} {v : V} {n : Nat} {b : Bk} (h : Stp P o e M v []) (hb : M.get n = some b) (hr : b.ro = false) : Stp P o e M v [(n, b)] := by
  intro S w0 β M' a w hsub hfr hrel hok K Q hk
  have hb' : M'.get n = some b := by
    obtain ⟨b', hb', hwk⟩ := hsub n b hb
    obtain rfl : b = b' := by rcases hwk with h | h; exact h; rw [hr] at h; exact absurd h.1 (by simp)
    exact hb'
  have hg : ∀ k, Mem.get ([(n, b)] ++ M') k = M'.get k := fun k => by
    show Mem.get ((n, b) :: M') k = _
    rw [Mem.get_cons]
    split
    · rename_i h; subst h; exact hb'.symm
    · rfl
  refine h S w0 β M' a w hsub (fun k hk => by cases hk) hrel hok K Q (fun β' u w' hag hrel' hu => hk β' u w' hag (hrel'.ext hg) (fun β'' hag2 => hu β'' (fun k hk => hag2 k (by rw [hg]; exact hk))))
theorem DOpQ.own {P : Program} {nt : Nat} {C : Cx} {id : Nat} {rg : Array Oper} {r : List It} {e0 e : Env} {M0 Mf M : Mem} {k : Nat} {T : List (Nat × Nat)} {i : Nat} {o : Oper} {g : Bool} {l : List Oper} {v : V} (nx : Nat) (hs : Stp P o e M0 v [])
    (h : runD P nt C id rg r e0 M0 Mf k (kontW P nt C (.ops rg (rg.toList.drop k) :: r)) T (i + 1) l (e.put o.dst g v) M nx) : DOpQ P nt C id rg r e0 M0 Mf k T i o g l e M :=
  ⟨[], M0, v, fun _ => hs.toC, .inr rfl, ⟨fun _ _ h => .inl h, fun _ h => by cases h⟩, DrS.go nx h⟩
theorem DOpQ.ld {P : Program} {nt : Nat} {C : Cx} {id : Nat} {rg : Array Oper} {r : List It} {e0 e : Env} {M0 Mf M : Mem} {k : Nat} {T : List (Nat × Nat)} {i : Nat} {o : Oper} {g : Bool} {l : List Oper} {v : V} {n : Nat} {b : Bk} (nx : Nat) (hs : Stp P o e ((n, b) :: M0) v []) (hg : g = true) (hM : M.get n = some b) (hM0 : M0.get n = none) (hr : b.ro = false) (hA : touchA rg i T o [(n, b)] = true)
    (h : runD P nt C id rg r e0 M0 Mf k (kontW P nt C (.ops rg (rg.toList.drop k) :: r)) (touchN [(n, b)] i T) (i + 1) l (e.put o.dst g v) ([(n, b)] ++ M) nx) : DOpQ P nt C id rg r e0 M0 Mf k T i o g l e M := by
  have hn : ∀ x, (Mem.get [(n, b)] x).isSome = true → x = n := fun x hx => by
    rw [Mem.get_cons] at hx
    split at hx
    · assumption
    · cases hx
  have h1 : Mem.get [(n, b)] n = some b := by rw [Mem.get_cons, if_pos rfl]
  refine ⟨[(n, b)], (n, b) :: M0, v, fun _ => (hs.touch (by rw [Mem.get_cons, if_pos rfl]) hr).toC, .inl hg, ⟨fun x c hx => ?_, fun x hx => ?_⟩, DrS.go nx h⟩
  · rw [Mem.get_cons] at hx
    split at hx
    · rename_i hxn; subst hxn; cases hx; exact .inr ⟨by rw [h1]; rfl, hM⟩
    · exact .inl hx
  · obtain rfl := hn x hx
    refine ⟨hM0, .inl (by rw [Mem.get_cons, if_pos rfl]; rfl), fun j hj => ?_⟩
    have k2 := List.all_eq_true.1 hA (x, b) (by simp)
    have := List.all_eq_true.1 k2 _ hj
    exact ancB_ok 20 j o (by simpa using this)
/-! ### Pointers -/
def ptOf (P : Program) (t : TypeId) : Option TypeId :=
  match P.underlying t with
  | some (.pointer el) => if (P.info? el).isSome then some el else none
  | _ => none
def upOf (P : Program) (t : TypeId) : Bool :=
  match P.underlying t with
  | some .unsafePointer => true
  | _ => false
theorem ptOf_ok {P : Program} {t el : TypeId} (h : ptOf P t = some el) : P.underlying t = some (.pointer el) ∧ ∃ j, P.info? el = some j := by
  unfold ptOf at h
  split at h
  · rename_i el' hu
    split at h
    · rename_i hs
      cases h
      exact ⟨hu, Option.isSome_iff_exists.1 hs⟩
    · cases h
  · cases h
theorem upOf_ok {P : Program} {t : TypeId} (h : upOf P t = true) : P.underlying t = some .unsafePointer := by
  unfold upOf at h
  split at h
  · assumption
  · cases h
/-- nil against nil, and a pointer against nil. -/
theorem Stp.ptrNil {P : Program} {o : Oper} {e : Env} {M : Mem} {t1 t2 el : TypeId} {x y : Operand} (ho : o.op = .binOp .eql t1 x y t2) (hx : rd e x = some (true, .c (.v (.pointer none)))) (hy : rd e y = some (true, .c (.v (.pointer none)))) (ht : ptOf P t1 = some el) : Stp P o e M (.c (.v (.bool true))) [] := by
  obtain ⟨hp, j, hj⟩ := ptOf_ok ht
  refine Stp.pure fun β a hop w => ?_
  have hex := hop x (by simp [ho, Op.operands]) _ hx
  have hey := hop y (by simp [ho, Op.operands]) _ hy
  simp only [gv, V.g, Cv.g, cond_true] at hex hey
  unfold execOp
  simp only [ho, hex, hey]
  have h : ∀ d : Nat, (Op.equalIn (d + 1) t1 (.pointer none) (.pointer none)).run P w = .ok true w := fun d => by simp [Op.equalIn, run_underlying hp]
  simp [eqGuard, binOp, Op.equal, Op.maxDepth, h 9999, V.g, Cv.g]
theorem Stp.ptrNil' {P : Program} {o : Oper} {e : Env} {M : Mem} {t1 t2 el : TypeId} {x y : Operand} {n off : Nat} (ho : o.op = .binOp .eql t1 x y t2) (hx : rd e x = some (true, .c (.p n off))) (hy : rd e y = some (true, .c (.v (.pointer none)))) (ht : ptOf P t1 = some el) : Stp P o e M (.c (.v (.bool false))) [] := by
  obtain ⟨hp, j, hj⟩ := ptOf_ok ht
  refine Stp.pure fun β a hop w => ?_
  have hex := hop x (by simp [ho, Op.operands]) _ hx
  have hey := hop y (by simp [ho, Op.operands]) _ hy
  simp only [gv, V.g, Cv.g, cond_true] at hex hey
  unfold execOp
  simp only [ho, hex, hey]
  have h : ∀ (d : Nat) (q : Addr), (Op.equalIn (d + 1) t1 (.pointer (some q)) (.pointer none)).run P w = .ok false w := fun d q => by simp [Op.equalIn, run_underlying hp]
  simp [eqGuard, binOp, Op.equal, Op.maxDepth, h 9999, V.g, Cv.g]
theorem Stp.ptrSame {P : Program} {o : Oper} {e : Env} {M : Mem} {t1 t2 el : TypeId} {x y : Operand} {n off : Nat} (ho : o.op = .binOp .neq t1 x y t2) (hx : rd e x = some (true, .c (.p n off))) (hy : rd e y = some (true, .c (.p n off))) (ht : ptOf P t1 = some el) : Stp P o e M (.c (.v (.bool false))) [] := by
  obtain ⟨hp, j, hj⟩ := ptOf_ok ht
  refine Stp.pure fun β a hop w => ?_
  have hex := hop x (by simp [ho, Op.operands]) _ hx
  have hey := hop y (by simp [ho, Op.operands]) _ hy
  simp only [gv, V.g, Cv.g, cond_true] at hex hey
  unfold execOp
  simp only [ho, hex, hey]
  have h := Lib.run_neq_ptr_same (P := P) w (⟨(β n).blk, (β n).org + off, none⟩ : Addr) hp hj
  simp [eqGuard, h, V.g, Cv.g]
theorem Rel.rw {S : Bs} {w0 w : World} {β : Vl} {M M' : Mem} (h : Rel S w0 β M' w) (hsub : Sub M M') {n : Nat} {b : Bk} (hb : M.get n = some b) (hr : b.ro = false) (hc : b.cells ≠ []) :
    M'.get n = some b ∧ (β n).nul = false ∧ (β n).org = 0 ∧ ∃ junk : List Value, w.heap[(β n).blk]? = some (.cells (b.cells.map (Cv.g β) ++ junk).toArray b.elem (0, 0)) ∧ (β n).siz = b.cells.length + junk.length := by
  obtain ⟨b', hb', hwk⟩ := hsub n b hb
  obtain rfl : b = b' := by rcases hwk with h | h; exact h; rw [hr] at h; exact absurd h.1 (by simp)
  have hbo := h.mem.ok β (Agree.refl _ _) n b hb'
  have hnu : (β n).nul = false := by
    cases h : (β n).nul with
    | false => rfl
    | true => exact absurd (hbo.nul_cells h) hc
  have := hbo
  unfold BkOk at this
  rw [if_neg (by simp [hnu]), if_neg (by simp [hr])] at this
  exact ⟨hb', hnu, this⟩
theorem Stp.toUns {P : Program} {o : Oper} {e : Env} {M : Mem} {src dst el : TypeId} {x : Operand} {n : Nat} {b : Bk} (ho : o.op = .convert src dst x) (hx : rd e x = some (true, .c (.p n 0))) (hb : M.get n = some b) (hr : b.ro = false) (hc : b.cells ≠ [])
    (hs : ptOf P src = some el) (hd : upOf P dst = true) (hz : szOf P el ≠ 0) : Stp P o e M (.c (.p n 0)) [] := by
  obtain ⟨hp, j, hj⟩ := ptOf_ok hs
  refine Stp.read fun S w0 β M' a w hsub hrel hop => ?_
  obtain ⟨_, hnu, ho0, junk, hh, _⟩ := hrel.rw hsub hb hr hc
  have hex := hop x (by simp [ho, Op.operands]) _ hx
  simp only [gv, V.g, Cv.g, cond_true] at hex
  unfold execOp
  simp only [ho, hex]
  have hsh : w.shape? (β n).blk = some (b.elem, (b.cells.map (Cv.g β) ++ junk).toArray.size) := by unfold World.shape?; rw [hh]
  have h := Lib.run_to_unsafe (P := P) w ⟨(β n).blk, (β n).org + 0, none⟩ hp (upOf_ok hd) hj (by rw [szOf_info hj] at hz; exact hz) hsh (by
    have : 0 < b.cells.length := List.length_pos_iff.2 hc
    simp [ho0]; omega)
  rw [Sem.run_bind, h]
  rfl
theorem liesAt_own {P : Program} {e : TypeId} {k : Nat} (hk : 1 ≤ k) (hd : P.depth ≠ 0) (hc : P.cellsOf e ≠ 0) (hs : sameLayout P P.depth e e = true) : liesAt P P.depth e k 0 e 1 = true := by
  obtain ⟨d, hd⟩ := Nat.exists_eq_succ_of_ne_zero hd
  have : rowAt P (sameLayout P P.depth · e) P.depth e k 0 1 = true := by
    rw [hd] at hs ⊢
    unfold rowAt
    rw [if_neg hc]
    simp [hs, hk]
  rw [hd]
  unfold liesAt
  simp [this]
theorem Stp.ofUns {P : Program} {o : Oper} {e : Env} {M : Mem} {src dst el : TypeId} {x : Operand} {n : Nat} {b : Bk} (ho : o.op = .convert src dst x) (hx : rd e x = some (true, .c (.p n 0))) (hb : M.get n = some b) (hr : b.ro = false) (hc : P.cellsOf el ≤ b.cells.length)
    (hs : upOf P src = true) (hd : ptOf P dst = some el) (he : b.elem = el) (hdp : P.depth ≠ 0) (hce : P.cellsOf el ≠ 0) (hsl : sameLayout P P.depth el el = true) : Stp P o e M (.c (.p n 0)) [] := by
  obtain ⟨hp, j, hj⟩ := ptOf_ok hd
  refine Stp.read fun S w0 β M' a w hsub hrel hop => ?_
  have hc0 : b.cells ≠ [] := fun h => by rw [h] at hc; simp at hc; exact hce hc
  obtain ⟨_, hnu, ho0, junk, hh, _⟩ := hrel.rw hsub hb hr hc0
  have hex := hop x (by simp [ho, Op.operands]) _ hx
  simp only [gv, V.g, Cv.g, cond_true] at hex
  unfold execOp
  simp only [ho, hex]
  have hsh : w.shape? (β n).blk = some (b.elem, (b.cells.map (Cv.g β) ++ junk).toArray.size) := by unfold World.shape?; rw [hh]
  have h := Lib.run_from_unsafe (P := P) w ⟨(β n).blk, (β n).org + 0, none⟩ (upOf_ok hs) hp hj hsh (by
    subst he
    rw [ho0]
    refine liesAt_own ?_ hdp hce hsl
    refine (Nat.le_div_iff_mul_le (by omega)).2 ?_
    simp; omega)
  rw [Sem.run_bind, h]
  rfl
/-- unsafe.SliceData. -/
theorem Stp.sliceData {P : Program} {o : Oper} {e : Env} {M : Mem} {x : Operand} {tys : Array TypeId} {n off len esz : Nat} {b : Bk} (ho : o.op = .call { callee := .builtin .unsafeSliceData, args := #[x], argTypes := tys }) (hx : rd e x = some (true, .c (.sl n off len esz))) (hb : M.get n = some b) (hez : esz ≠ 0) (hc : off + esz ≤ b.cells.length) :
    Stp P o e M (.c (.p n off)) [] := by
  refine Stp.read fun S w0 β M' a w hsub hrel hop => ?_
  have hex := hop x (by simp [ho, Op.operands, Call.operands]) _ hx
  obtain ⟨hs1, hs2⟩ := hrel.siz hsub hb
  have hnu : (β n).nul = false := by
    cases h : (β n).nul with
    | false => rfl
    | true => have := hs2 h; rw [this] at hc; simp at hc; omega
  simp only [gv, V.g, cond_true] at hex
  have hex' : a.eval x = .slice (some ⟨(β n).blk, (β n).org + off, none⟩) len (((β n).siz - off) / esz) := by rw [hex]; simp [Cv.g, hnu]
  have hne : ((β n).siz - off) / esz ≠ 0 := by
    have := Nat.div_pos (show esz ≤ (β n).siz - off by omega) (by omega)
    omega
  have h := Lib.run_unsafeSliceData_row (P := P) (w := w) tys o.type ⟨(β n).blk, (β n).org + off, none⟩ len _ hne
  unfold execOp
  simp only [ho, resolve, invoke, builtin, Sem.run_bind, Sem.run_pure, Result.andThen_ok, List.map_toArray, List.map_cons, List.map_nil, hex', h]
  rfl
/-- unsafe.String of the first bytes of a block: it is from now on only read. -/
theorem Stp.unsString {P : Program} {o : Oper} {e : Env} {M : Mem} (nm : Nat) {x y : Operand} {pt it el : TypeId} {n : Nat} {b : Bk} (l : List UInt8) (ho : o.op = .call { callee := .builtin .unsafeString, args := #[x, y], argTypes := #[pt, it] }) (hx : rd e x = some (true, .c (.p n 0))) (hy : rd e y = some (true, .c (.v (.int .i64 l.length))))
    (hb : M.get n = some b) (hr : b.ro = false) (h0 : l ≠ []) (hl : b.cells = l.map bycell) (h63 : l.length ≤ 9223372036854775807) (hp : ptOf P pt = some el) (he : b.elem = el) (hce : P.cellsOf el = 1) (hn : M.get nm = none) :
    Stp P o e M (.c (.v (str l))) [(nm, ⟨true, b.cells, b.elem⟩), (n, dead b.elem)] := by
  intro S w0 β M' a w hsub hfr hrel hok K Q hkk
  have hc : b.cells ≠ [] := by rw [hl]; simpa using h0
  obtain ⟨hb', hnu, ho0, junk, hh, hz⟩ := hrel.rw hsub hb hr hc
  have hn' : M'.get nm = none := by
    rcases hfr nm (by simp [Mem.get]) with h | h
    · rw [hn] at h; cases h
    · exact h
  obtain ⟨hpu, j, hj⟩ := ptOf_ok hp
  have hex := hok β (Agree.refl _ _) x (by simp [ho, Op.operands, Call.operands]) _ hx
  have hey := hok β (Agree.refl _ _) y (by simp [ho, Op.operands, Call.operands]) _ hy
  simp only [gv, V.g, Cv.g, cond_true, ho0, Nat.zero_add] at hex hey
  have hsh : w.shape? (β n).blk = some (el, (b.cells.map (Cv.g β) ++ junk).toArray.size) := by unfold World.shape?; rw [hh, he]
  have hsz : l.length ≤ (b.cells.map (Cv.g β) ++ junk).toArray.size := by simp [hl]
  have hcell : ∀ j x, l[j]? = some x → w.cell? ((⟨(β n).blk, 0, none⟩ : Addr).add j) = some (.int .u8 x.toNat) := fun j x hjx => by
    have hr := hrel.range hsub hb
    have := hr j (.int .u8 x.toNat) (by simp [hl, hjx, bycell, Cv.g])
    rw [ho0] at this
    by_cases hj : j = 0
    · subst hj; simpa [Addr.add] using this
    · simpa [Addr.add, hj] using this
  have hrun := Lib.run_unsafeString_row (P := P) w pt it o.type el hpu hce (β n).blk _ hsh l h0 hsz h63 hcell
  let w' := w.freeze ⟨(β n).blk, 0, none⟩ l.length
  unfold Oper.wp execOp
  simp only [ho, resolve, invoke, builtin, Sem.run_bind, Sem.run_pure, Result.andThen_ok, List.map_toArray, List.map_cons, List.map_nil, hex, hey, hrun]
  have hl0 : l.length ≠ 0 := by simpa using h0
  have hmark := hrel.mark (w' := w') hb' hr hnu hn' (by simp [w', World.freeze]; split <;> rfl) (by simp [w', World.freeze]; split <;> rfl) (by simp [w', World.freeze]; split <;> rfl) (by simp [w', World.freeze]; split <;> simp) (fun a => cell?_freeze w _ _ a) (fun k hk => by
    simp only [w', World.freeze]
    rw [if_neg hl0]
    simp only [Array.getElem?_modify]
    rw [if_neg (fun hh => hk hh.symm)])
  exact hkk _ _ w' (fun j hj => if_neg (fun hh => by rw [hh, hn'] at hj; cases hj)) hmark (fun β'' _ => rfl)
theorem noEscape {P : Program} {f : FuncId} {fn : Func} (hf : P.funcs[f]? = some fn) (h1 : (fn.name == "runtime.NumGoroutine") = false) (h2 : fn.body.isNone = true) (h3 : Extern.findNext fn = none) (h4 : Extern.find fn = some Extern.AbiNoEscape.same) (n off : Nat) : ExtOk P f [.c (.p n off)] (.c (.p n off)) := fun β w => by
  have h := run_callFunc_extern (P := P) hf h1 h2 h3 h4 #[(Cv.p n off).g β] w
  rw [Lib.run_noEscape] at h
  exact h
end Vg
end Go.Proofs.YtpahigegcbdleaaDoor
