/- The machine: package-level variables. What is known of them is known of the world at the start; nothing in the walk may write them. -/
import Derived.Test.YtpahigegcbdleaaDoorVi
namespace Go.Proofs.YtpahigegcbdleaaDoor
namespace Vg
open Go.RowKit
/-- What is known of package-level variables: the block's number, its cells. -/
abbrev Gs := List (Nat × List Value)
def GlW (gs : Gs) (w : World) : Prop := ∀ g cs, (g, cs) ∈ gs → ∃ el mk, w.heap[g]? = some (.cells cs.toArray el mk)
def GlC (gs : Gs) (C : Cx) : Prop := GlW gs C.w0 ∧ ∀ g cs, (g, cs) ∈ gs → C.S.s g
theorem GlW.lt {gs : Gs} {w : World} (h : GlW gs w) {g : Nat} {cs : List Value} (hm : (g, cs) ∈ gs) : g < w.heap.size := by
  obtain ⟨el, mk, hb⟩ := h g cs hm
  exact (Array.getElem?_eq_some_iff.1 hb).1
theorem GlW.cell {gs : Gs} {w : World} (h : GlW gs w) {g i : Nat} {cs : List Value} {v : Value} (hm : (g, cs) ∈ gs) (hi : cs[i]? = some v) : w.cell? ⟨g, i, none⟩ = some v := by
  obtain ⟨el, mk, hb⟩ := h g cs hm
  simp [World.cell?, hb, hi]
theorem GlW.var {gs : Gs} {w : World} {P : Program} {nm : String} (h : GlW gs w) {g : Nat} {cs : List Value} (hm : (g, cs) ∈ gs) (hg : P.globalNamed nm = some g) : w.var? P nm = some cs.toArray := by
  obtain ⟨el, mk, hb⟩ := h g cs hm
  simp [World.var?, hg, hb]
theorem GlW.of_var {w : World} {P : Program} {nm : String} {g : Nat} {cs : List Value} (hg : P.globalNamed nm = some g) (h : w.var? P nm = some cs.toArray) : ∃ el mk, w.heap[g]? = some (.cells cs.toArray el mk) := by
  simp only [World.var?, hg, Option.bind_some] at h
  split at h
  · rename_i cs' el mk hb
    simp only [Option.some.injEq] at h
    subst h
    exact ⟨el, mk, hb⟩
  · cases h
theorem GlW.keep {gs : Gs} {S : Nat → Prop} {w0 w : World} (h : GlW gs w0) (hf : Fr S w0 w) (hS : ∀ g cs, (g, cs) ∈ gs → S g) : GlW gs w := fun g cs hm => by
  obtain ⟨el, mk, hb⟩ := h g cs hm
  exact ⟨el, mk, (hf.old g (hS g cs hm) (h.lt hm)).trans hb⟩
theorem GlW.sub {gs gs' : Gs} {w : World} (h : GlW gs' w) (hs : ∀ x ∈ gs, x ∈ gs') : GlW gs w := fun g cs hm => h g cs (hs _ hm)
theorem GlC.now {gs : Gs} {C : Cx} (h : GlC gs C) {β : Vl} {M : Mem} {w : World} (hr : Rel C.S C.w0 β M w) : GlW gs w := h.1.keep hr.fr h.2
/-! ### Steps -/
/-- The address of an element of an array that is a package-level variable. -/
theorem Stp.addrG {P : Program} {o : Oper} {e : Env} {M : Mem} {ty : TypeId} {x i : Operand} {g off len sz : Nat} {ki : IntKind} {k : Int} (ho : o.op = .indexAddr ty x i) (hx : rd e x = some (true, .c (.v (.pointer (some ⟨g, off, none⟩))))) (hi : rd e i = some (true, .c (.v (.int ki k))))
    (hpa : paOf P ty = some (len, sz)) (h0 : 0 ≤ k) (hlt : k < len) : Stp P o e M (.c (.v (.pointer (some ⟨g, off + k.toNat * sz, none⟩)))) [] := by
  unfold paOf at hpa
  split at hpa <;> first | (cases hpa; done) | skip
  rename_i len' el hu
  split at hpa <;> simp at hpa
  rename_i hsz0
  obtain ⟨rfl, rfl⟩ := hpa
  exact Stp.pure fun β a hop w => by
    have hex := hop x (by simp [ho, Op.operands]) _ hx
    have hei := hop i (by simp [ho, Op.operands]) _ hi
    simp only [gv, V.g, Cv.g, cond_true] at hex hei
    unfold execOp
    simp [ho, hex, hei, Instr.indexAt, Instr.sureAddr, asIntOf, run_underlying hu, h0, hlt, run_sizeOf' (P := P) (t := el) rfl hsz0, V.g, Cv.g, Addr.add_lit]
/-- A load from a package-level variable. -/
theorem StpC.ldG {P : Program} {gs : Gs} {C : Cx} {o : Oper} {e : Env} {M : Mem} {ty : TypeId} {x : Operand} {g i : Nat} {cs : List Value} {v : Value} (hG : GlC gs C) (hm : (g, cs) ∈ gs) (hc : cs[i]? = some v) (ho : o.op = .load ty x) (hx : rd e x = some (true, .c (.v (.pointer (some ⟨g, i, none⟩)))))
    (ha : aggOf P ty = some false) : StpC P C.S C.w0 o e M (.c (.v v)) [] := by
  intro β M' a w _ _ hrel hop K Q hk
  have he := hop β (Agree.refl _ _) x (by simp [ho, Op.operands]) _ hx
  have hcell := (hG.now hrel).cell hm hc
  simp only [gv, V.g, Cv.g, cond_true] at he
  have hrun : (execOp a.eval o).run P w = .ok (.value v) w := by
    unfold execOp
    simp only [ho, he, Instr.loadAt, Instr.sureAddr, Sem.run_bind, Sem.run_pure, Result.andThen_ok, loadVar, run_isAgg_no ha, Bool.false_eq_true, if_false, run_load, hcell, Sem.run_ite]
  unfold Oper.wp
  rw [hrun]
  exact hk β v w (Agree.refl _ _) hrel (fun β'' _ => rfl)
/-- An operation by a step of this context. -/
theorem Sm.opC {P : Program} {nt : Nat} {C : Cx} {rg : Array Oper} {o : Oper} {l : List Oper} {r : List It} {e : Env} {M : Mem} {g : Bool} {v : V} {N : Mem} (nx : Nat) (hg : gd rg e o = some g) (hd : dstOk nt o.dst = true)
    (hN : g = true ∨ N = []) (hs : g = true → StpC P C.S C.w0 o e M v N) (hr : run P nt C 1000 (.ops rg l :: r) (e.put o.dst g v) (N ++ M) nx) : Sm P nt C (.ops rg (o :: l) :: r) e M := fun β a w h1 h2 h3 h4 => by
  have hr := run_ok 1000 _ _ _ nx hr
  have hd := dstOk_lt hd
  have hw : Region.wanted o (yielded rg a.tmps) = g := gd_ok (β := β) hg (fun j want t y _ _ hy => h2 β (Agree.refl _ _) t y hy)
  show wpList P rg (cont P C.Q r) (o :: l) a w
  refine wpList_step fun K hK => ?_
  rw [hw]
  cases g with
  | true =>
    simp only [if_true]
    refine hs rfl β M a w (Sub.refl _) (Fresh.same _ _) h1 (fun β' hb x _ y hy => rd_ok h2 hb hy) K _ ?_
    intro β' u w' hag hrel hu
    refine hK _ _ (hr β' _ w' hrel ?_ ?_ ?_)
    · exact h2.put hag h3 hd (fun β'' hb => by rw [hu β'' hb]; rfl)
    · cases o.dst <;> simp [Act.put, h3]
    · cases o.dst <;> simp [Act.put, h4]
  | false =>
    simp only [Bool.false_eq_true, if_false]
    obtain rfl : N = [] := by rcases hN with hN | hN; exact absurd hN (by simp); exact hN
    refine hK _ _ (hr β _ w h1 ?_ ?_ ?_)
    · exact h2.put (N := []) (Agree.refl _ _) h3 hd (fun β'' _ => rfl)
    · cases o.dst <;> simp [Act.put, h3]
    · cases o.dst <;> simp [Act.put, h4]
theorem DOpQ.ownC {P : Program} {nt : Nat} {C : Cx} {id : Nat} {rg : Array Oper} {r : List It} {e0 e : Env} {M0 Mf M : Mem} {k : Nat} {T : List (Nat × Nat)} {i : Nat} {o : Oper} {g : Bool} {l : List Oper} {v : V} (nx : Nat) (hs : g = true → StpC P C.S C.w0 o e M0 v [])
    (h : runD P nt C id rg r e0 M0 Mf k (kontW P nt C (.ops rg (rg.toList.drop k) :: r)) T (i + 1) l (e.put o.dst g v) M nx) : DOpQ P nt C id rg r e0 M0 Mf k T i o g l e M :=
  ⟨[], M0, v, hs, .inr rfl, ⟨fun _ _ h => .inl h, fun _ h => (by cases h)⟩, DrS.go nx h⟩
/-! ### Contracts that know package-level variables -/
def CallG (gs : Gs) (P : Program) (f : FuncId) (args : List V) (v : V) : Prop :=
  Enters P f ∧ ∀ β w, GlW gs w → Calls P f (args.map (V.g β)).toArray w fun en w' => (∀ β'', en = .returned (v.g β'')) ∧ Fr (fun _ => True) w w'
theorem CallG.intro {gs : Gs} {P : Program} {f : FuncId} {fn : Func} {body : Code} {args : List V} {v : V} (hf : P.funcs[f]? = some fn) (hb : fn.body = some body) (hent : Enters P f) (hnt : args.length ≤ fn.ntmps) (hcl : ∀ x ∈ args, ClV [] x)
    (h : ∀ C, RetOk P C fn v [] → Pins C.S [] → GlC gs C → Sm P fn.ntmps C [.code body] (initE 0 args) []) : CallG gs P f args v := by
  refine ⟨hent, fun β w hG => calls_of_wp hf hb ?_⟩
  let R : Ending → World → Prop := fun en w' => (∀ β'', en = .returned (v.g β'')) ∧ Fr (fun _ => True) w w'
  let C : Cx := ⟨⟨fun _ => True, fun _ => none⟩, w, bodyPost P fn R⟩
  have hret : RetOk P C fn v [] := by
    refine ⟨fun n l hl => (by simp [C] at hl), fun β' a w' u hrel hu hd hres => ?_, fun _ _ h => h⟩
    exact ⟨hd, u, hres, fun β'' => by rw [hu β'' (fun n hn => by cases hn)], hrel.fr⟩
  refine h C hret (fun n l hl => by simp [C] at hl) ⟨hG, fun _ _ _ => trivial⟩ β _ w ⟨Fr.refl _ _, ⟨fun _ _ n b hn => (by cases hn), fun n b hn => (by cases hn), fun n m b b' hn => (by cases hn)⟩, fun n b hn => (by cases hn), fun n l hl => (by simp [C] at hl)⟩ ?_ ?_ rfl
  · intro β' hag t y hy
    obtain ⟨_, h2, h3⟩ := initE_get args 0 t y hy
    simp only [Nat.sub_zero] at h2
    have hlt : t < args.length := (List.getElem?_eq_some_iff.1 h2).1
    obtain ⟨g, x⟩ := y
    simp only at h2 h3
    subst h3
    have hx : x ∈ args := List.mem_of_getElem? h2
    simp only [gv, cond_true, hcl x hx β β' hag]
    rw [List.getElem?_eq_getElem hlt] at h2
    simp only [Option.some.injEq] at h2
    simp [Array.getElem?_append, hlt, h2]
  · simp; omega
theorem CallG.mk {gs : Gs} {P : Program} {f : FuncId} {fn : Func} {body : Code} {args : List V} {v : V} (nx : Nat) (hf : P.funcs[f]? = some fn) (hb : fn.body = some body) (hent : Enters P f) (hnt : args.length ≤ fn.ntmps) (hcl : ∀ x ∈ args, ClV [] x)
    (h : ∀ C, RetOk P C fn v [] → Pins C.S [] → GlC gs C → run P fn.ntmps C 1000 [.code body] (initE 0 args) [] nx) : CallG gs P f args v :=
  CallG.intro hf hb hent hnt hcl fun C hR hP hG => run_ok 1000 _ _ _ nx (h C hR hP hG)
theorem Fr.trans' {S : Nat → Prop} {w0 w w' : World} (h : Fr S w0 w) (k : Fr (fun _ => True) w w') : Fr S w0 w' :=
  ⟨k.os.trans h.os, k.tape.trans h.tape, k.output.trans h.output, Nat.le_trans h.size k.size, fun b hb hlt => (k.old b trivial (Nat.lt_of_lt_of_le hlt h.size)).trans (h.old b hb hlt)⟩
theorem Rel.later {S : Bs} {w0 w w' : World} {β : Vl} {M : Mem} (h : Rel S w0 β M w) (k : Fr (fun _ => True) w w') : Rel S w0 β M w' := by
  refine ⟨h.fr.trans' k, ⟨fun β' hag n b hn => ?_, fun n b hn hu => Nat.lt_of_lt_of_le (h.mem.there n b hn hu) k.size, h.mem.apart⟩, h.own, h.pin⟩
  have hb : β' n = β n := hag n (by simp [hn])
  have hold := h.mem.ok β' hag n b hn
  cases hu : (β n).nul with
  | true =>
    unfold BkOk at hold ⊢
    rw [if_pos (by rw [hb]; exact hu)] at hold ⊢
    exact hold
  | false => exact hold.same (by rw [hb]; exact k.old _ trivial (h.mem.there n b hn hu))
/-- A call met by such a contract. -/
theorem CallQ.ofG {gs : Gs} {P : Program} {nt : Nat} {C : Cx} {todo : List It} {e : Env} {M : Mem} {f : FuncId} {vs : List (Option (Bool × V))} {g : Bool} {dst : Option Nat} {xs : List V} {v : V} (nx : Nat) (hG : GlC gs C) (hc : CallG gs P f xs v) (hg : g = true) (hvs : vs = xs.map fun x => some (true, x)) (hd : dstOk nt dst = true)
    (h : run P nt C 1000 todo (e.put dst g v) M nx) : CallQ P nt C f vs g dst todo e M := by
  subst hg
  refine .inr ⟨rfl, xs, hvs, hc.1, fun β a w h1 h2 h3 h4 => (hc.2 β w (hG.now h1)).mono ?_⟩
  rintro en w' ⟨hen, hfr⟩
  refine ⟨v.g β, hen β, run_ok 1000 _ _ _ nx h β _ w' (h1.later hfr) ?_ ?_ ?_⟩
  · exact EnvOk.put (N := []) h2 (Agree.refl _ _) h3 (dstOk_lt hd) (fun β'' _ => by
      have := (hen β).symm.trans (hen β'')
      simp only [Ending.returned.injEq] at this
      simpa [gv] using this)
  · cases dst <;> simp [Act.put, h3]
  · cases dst <;> simp [Act.put, h4]
theorem CallG.mono {gs gs' : Gs} {P : Program} {f : FuncId} {args : List V} {v : V} (h : CallG gs P f args v) (hs : ∀ x ∈ gs, x ∈ gs') : CallG gs' P f args v :=
  ⟨h.1, fun β w hG => h.2 β w (hG.sub hs)⟩
theorem CallOk.toG {gs : Gs} {P : Program} {f : FuncId} {args : List V} {v : V} (h : CallOk P f args [] v []) : CallG gs P f args v := by
  refine ⟨h.1, fun β w _ => (h.2.2.2 β w ⟨fun _ _ n b hn => (by cases hn), fun n b hn => (by cases hn), fun n m b b' hn => (by cases hn)⟩).mono ?_⟩
  rintro en w' ⟨β', _, hen, _, hfr, _⟩
  exact ⟨fun β'' => hen β'' (fun n hn => by cases hn), ⟨hfr.os, hfr.tape, hfr.output, hfr.size, fun b _ hlt => hfr.old b (fun n b hn => by cases hn) hlt⟩⟩
end Vg
end Go.Proofs.YtpahigegcbdleaaDoor
