/- The machine's run. -/
import Derived.Laws.Cover3
import Derived.Test.YtpahigegcbdleaaDoorVz
namespace Go.Proofs.YtpahigegcbdleaaDoor
namespace Vg
open Go.RowKit
/-! ### The run -/
def putM : Bool → Mem → Mem → Mem
  | _, [], M => M
  | _, N, M => N ++ M
/-- A function that the model stands in for: the call is over at once. -/
def ExtOk (P : Program) (f : FuncId) (xs : List V) (v : V) : Prop := ∀ (β : Vl) (w : World), (callFunc f (xs.map (V.g β)).toArray).run P w = .ok (.value (v.g β)) w
def CallAny (P : Program) (f : FuncId) (xs : List V) (M : Mem) (v : V) (N : Mem) : Prop := CallOk P f xs M v N ∨ (N = [] ∧ ExtOk P f xs v)
theorem Stp.callX {P : Program} {o : Oper} {e : Env} {M : Mem} {f : FuncId} {as : Array Operand} {tys : Array TypeId} {vs : List V} {v : V} (ho : o.op = .call { callee := .value (.func f), args := as, argTypes := tys })
    (hvs : as.toList.map (rd e) = vs.map fun x => some (true, x)) (hc : ExtOk P f vs v) : Stp P o e M v [] := by
  refine Stp.pure fun β a hop w => ?_
  have hargs : as.map a.eval = (vs.map (V.g β)).toArray := by
    apply Array.toList_inj.1
    simp only [Array.toList_map]
    apply List.ext_getElem?
    intro i
    have hi := congrArg (·[i]?) hvs
    simp only [List.getElem?_map, Array.getElem?_toList] at hi ⊢
    cases hx : as[i]? with
    | none => simp [hx] at hi ⊢; cases hv : vs[i]? <;> simp_all
    | some x =>
      cases hv : vs[i]? with
      | none => simp [hx, hv] at hi
      | some y =>
        simp [hx, hv] at hi
        have hm : x ∈ as := Array.mem_of_getElem? hx
        have := hop x (by simp [ho, Op.operands, Call.operands, hm]) _ hi
        simpa [gv] using this
  unfold execOp
  rw [ho]
  simp only [resolve, Act.eval, Deferred.ofValue, invoke, Sem.run_bind, Sem.run_pure, Result.andThen_ok, hargs]
  have := hc β w
  simpa using this
theorem Stp.callA {P : Program} {o : Oper} {e : Env} {M M1 N : Mem} {f : FuncId} {as : Array Operand} {tys : Array TypeId} {vs : List V} {v : V} (ho : o.op = .call { callee := .value (.func f), args := as, argTypes := tys })
    (hvs : as.toList.map (rd e) = vs.map fun x => some (true, x)) (hc : CallAny P f vs M1 v N) (hs : Sub M1 M) (hcl : ClM M1) (hfr : Fresh N M1 M) : Stp P o e M v N := by
  rcases hc with hc | ⟨rfl, hc⟩
  · exact Stp.call ho hvs hc hs hcl hfr
  · exact Stp.callX ho hvs hc
/-- What a call calls: a function by name, or the value of a slot. -/
def callOf (e : Env) : Op → Option (Bool × FuncId × List (Option (Bool × V)))
  | .call { callee := .value (.func f), args := as, .. } => some (true, f, as.toList.map (rd e))
  | .call { callee := .value (.tmp t), args := as, .. } => match e.get t with
    | some (g, .c (.fn f caps)) => some (g, f, as.toList.map (rd e) ++ caps.map fun c => some (true, capV c))
    | _ => none
  | _ => none
theorem split_caps {A : List (Option (Bool × V))} {caps : List (Nat × Nat)} {xs : List V} (h : A ++ caps.map (fun c => some (true, capV c)) = xs.map fun x => some (true, x)) :
    ∃ ys, xs = ys ++ caps.map capV ∧ A = ys.map fun x => some (true, x) := by
  obtain ⟨ys, zs, rfl, h1, h2⟩ := List.map_eq_append_iff.1 h.symm
  refine ⟨ys, ?_, h1.symm⟩
  congr 1
  have : zs.map (fun x => some (true, x)) = (caps.map capV).map fun x => some (true, x) := by rw [h2, List.map_map]; rfl
  exact List.map_inj_right (fun a b hab => by simpa using hab) |>.1 this
theorem Stp.callFX {P : Program} {o : Oper} {e : Env} {M : Mem} {f : FuncId} {caps : List (Nat × Nat)} {x : Operand} {as : Array Operand} {tys : Array TypeId} {vs : List V} {v : V} (ho : o.op = .call { callee := .value x, args := as, argTypes := tys })
    (hx : rd e x = some (true, .c (.fn f caps))) (hvs : as.toList.map (rd e) = vs.map fun x => some (true, x)) (hc : ExtOk P f (vs ++ caps.map capV) v) : Stp P o e M v [] := by
  refine Stp.pure fun β a hop w => ?_
  have hargs : as.map a.eval = (vs.map (V.g β)).toArray := by
    apply Array.toList_inj.1
    simp only [Array.toList_map]
    apply List.ext_getElem?
    intro i
    have hi := congrArg (·[i]?) hvs
    simp only [List.getElem?_map, Array.getElem?_toList] at hi ⊢
    cases hx : as[i]? with
    | none => simp [hx] at hi ⊢; cases hv : vs[i]? <;> simp_all
    | some x =>
      cases hv : vs[i]? with
      | none => simp [hx, hv] at hi
      | some y =>
        simp [hx, hv] at hi
        have hm : x ∈ as := Array.mem_of_getElem? hx
        have := hop x (by simp [ho, Op.operands, Call.operands, hm]) _ hi
        simpa [gv] using this
  have hf : a.eval x = .func (.func f) #[] (caps.map fun c => ptr β c.1 c.2).toArray := by
    have := hop x (by simp [ho, Op.operands, Call.operands]) _ hx
    simpa [gv, V.g, Cv.g] using this
  unfold execOp
  rw [ho]
  simp only [resolve, hf, Deferred.ofValue, invoke, Sem.run_bind, Sem.run_pure, Result.andThen_ok, hargs]
  have := hc β w
  simpa [V.g, Cv.g, ptr, Function.comp_def] using this
theorem Stp.callO {P : Program} {o : Oper} {e : Env} {M M1 N : Mem} {f : FuncId} {vs : List (Option (Bool × V))} {xs : List V} {v : V} (hq : callOf e o.op = some (true, f, vs))
    (hvs : vs = xs.map fun x => some (true, x)) (hc : CallAny P f xs M1 v N) (hs : Sub M1 M) (hcl : ClM M1) (hfr : Fresh N M1 M) : Stp P o e M v N := by
  unfold callOf at hq
  split at hq
  · rename_i f' as tys ho
    simp only [Option.some.injEq, Prod.mk.injEq, true_and] at hq
    obtain ⟨rfl, rfl⟩ := hq
    exact Stp.callA ho hvs hc hs hcl hfr
  · rename_i t as tys ho
    split at hq
    · rename_i g f' caps ht
      simp only [Option.some.injEq, Prod.mk.injEq] at hq
      obtain ⟨rfl, rfl, rfl⟩ := hq
      obtain ⟨ys, rfl, hA⟩ := split_caps hvs
      rcases hc with hc | ⟨rfl, hc⟩
      · exact Stp.callF ho ht hA hc hs hcl hfr
      · exact Stp.callFX ho ht hA hc
    · cases hq
  · cases hq
/-- The values of a call's arguments. -/
theorem callO_run {P : Program} {o : Oper} {e : Env} {M' : Mem} {f : FuncId} {vs : List (Option (Bool × V))} {xs : List V} {β : Vl} {a : Act} {w : World} (hq : callOf e o.op = some (true, f, vs))
    (hvs : vs = xs.map fun x => some (true, x)) (hent : Enters P f) (hok : OpOk β M' e o a) : (execOp a.eval o).run P w = .ok (.enter f (xs.map (V.g β)).toArray) w := by
  unfold callOf at hq
  split at hq
  · rename_i f' as tys ho
    simp only [Option.some.injEq, Prod.mk.injEq, true_and] at hq
    obtain ⟨rfl, rfl⟩ := hq
    exact call_run1 ho hvs hent hok
  · rename_i t as tys ho
    split at hq
    · rename_i g f' caps ht
      simp only [Option.some.injEq, Prod.mk.injEq] at hq
      obtain ⟨rfl, rfl, rfl⟩ := hq
      obtain ⟨ys, rfl, hA⟩ := split_caps hvs
      exact call_run2 ho ht hA hent hok
    · cases hq
  · cases hq
theorem Sm.enter {P : Program} {nt : Nat} {C : Cx} {rg : Array Oper} {o : Oper} {l : List Oper} {r : List It} {e : Env} {M : Mem} {f : FuncId} {vs : List (Option (Bool × V))} {xs : List V} (hg : gd rg e o = some true) (hq : callOf e o.op = some (true, f, vs)) (hvs : vs = xs.map fun x => some (true, x)) (hent : Enters P f)
    (h : ∀ β (a : Act) w, Rel C.S C.w0 β M w → EnvOk β M e a → a.tmps.size = nt → a.defers = [] → Calls P f (xs.map (V.g β)).toArray w fun en w' => ∃ u, en = .returned u ∧ cont P C.Q (.ops rg l :: r) .normal (a.put o.dst u) w') : Sm P nt C (.ops rg (o :: l) :: r) e M := fun β a w h1 h2 h3 h4 => by
  have hw : Region.wanted o (yielded rg a.tmps) = true := gd_ok (β := β) hg (fun j want t y _ _ hy => h2 β (Agree.refl _ _) t y hy)
  show wpList P rg (cont P C.Q r) (o :: l) a w
  refine wpList_step fun K hK => ?_
  rw [hw]
  simp only [if_true]
  unfold Oper.wp
  rw [callO_run (M' := M) hq hvs hent (fun β' hb x _ y hy => rd_ok h2 hb hy), Oper.upon_enter]
  refine (h β a w h1 h2 h3 h4).mono ?_
  rintro en w' ⟨u, rfl, hc⟩
  exact hK _ _ hc
/-- A call of a Go function: to be met by its contract. -/
def CallQ (P : Program) (nt : Nat) (C : Cx) (f : FuncId) (vs : List (Option (Bool × V))) (g : Bool) (dst : Option Nat) (todo : List It) (e : Env) (M : Mem) : Prop :=
  (∃ (M1 N : Mem) (v : V) (xs : List V), (g = true → vs = xs.map fun x => some (true, x)) ∧ (g = true → CallAny P f xs M1 v N) ∧ Sub M1 M ∧ ClM M1 ∧ Fresh N M1 M ∧ (g = true ∨ N = []) ∧ Sm P nt C todo (e.put dst g v) (N ++ M)) ∨
  (g = true ∧ ∃ xs : List V, vs = xs.map (fun x => some (true, x)) ∧ Enters P f ∧ ∀ β (a : Act) w, Rel C.S C.w0 β M w → EnvOk β M e a → a.tmps.size = nt → a.defers = [] →
    Calls P f (xs.map (V.g β)).toArray w fun en w' => ∃ u, en = .returned u ∧ cont P C.Q todo .normal (a.put dst u) w')
/-- What the machine does not know. -/
def OpQ (P : Program) (nt : Nat) (C : Cx) (o : Oper) (g : Bool) (todo : List It) (e : Env) (M : Mem) : Prop :=
  ∃ (N : Mem) (v : V), (g = true → Stp P o e M v N) ∧ (g = true ∨ N = []) ∧ Sm P nt C todo (e.put o.dst g v) (N ++ M)
def dstOk (nt : Nat) : Option Nat → Bool
  | some d => decide (d < nt)
  | none => true
def exitTo (id : Nat) : List It → Option (List It)
  | [] => none
  | .endB j :: r => bif j == id then some r else exitTo id r
  | _ :: r => exitTo id r
def RetQ (C : Cx) (e : Env) (M : Mem) : Prop :=
  ∀ β (a : Act) w, Rel C.S C.w0 β M w → EnvOk β M e a → a.defers = [] → C.Q .ret a w

def run (P : Program) (nt : Nat) (C : Cx) : Nat → List It → Env → Mem → Nat → Prop
  | 0, todo, e, M, _ => Sm P nt C todo e M
  | fuel + 1, todo, e, M, nx =>
    match todo with
    | [] => Sm P nt C [] e M
    | .stop J :: r => Sm P nt C (.stop J :: r) e M
    | .rnd b n :: r =>
      match n with
      | 0 => False
      | n + 1 => run P nt C fuel (.code b :: .rnd b n :: r) e M nx
    | .endB _ :: r => run P nt C fuel r e M nx
    | .ops _ [] :: r => run P nt C fuel r e M nx
    | .ops rg (o :: l) :: r =>
      match gd rg e o with
      | none => Sm P nt C (.ops rg (o :: l) :: r) e M
      | some g =>
        match opE P e M nx o.dst.isNone o.op with
        | some (sc, v, N, nx') => (dstOk nt o.dst = true ∧ (g = true → sc) ∧ (g = true ∨ N = [])) ∧ run P nt C fuel (.ops rg l :: r) (e.put o.dst g v) (N ++ M) nx'
        | none =>
          match opY P e M nx o.op with
          | some (sc, v, N, nx') => (dstOk nt o.dst = true ∧ (g = true → sc) ∧ (g = true ∨ N = [])) ∧ run P nt C fuel (.ops rg l :: r) (e.put o.dst g v) (N ++ M) nx'
          | none =>
            match callOf e o.op with
            | some (g', f, vs) => (dstOk nt o.dst = true ∧ (g = true → g' = true)) ∧ CallQ P nt C f vs g o.dst (.ops rg l :: r) e M
            | none => Sm P nt C (.ops rg (o :: l) :: r) e M
    | .code c :: r =>
      match c with
      | .skip => run P nt C fuel r e M nx
      | .seq x y => run P nt C fuel (.code x :: .code y :: r) e M nx
      | .block id x => run P nt C fuel (.code x :: .endB id :: r) e M nx
      | .exit id =>
        match exitTo id r with
        | some r' => run P nt C fuel r' e M nx
        | none => False
      | .ret => RetQ C e M
      | .region _ rg false => run P nt C fuel (.ops rg rg.toList :: r) e M nx
      | .cond c x y =>
        match rdV e c with
        | some (g, .bool t) => g = true ∧ (match t with | true => run P nt C fuel (.code x :: r) e M nx | false => run P nt C fuel (.code y :: r) e M nx)
        | _ => False
      | c => Sm P nt C (.code c :: r) e M

theorem SmX_of {P : Program} {nt : Nat} {C : Cx} {id : Nat} {e : Env} {M : Mem} : ∀ {r r' : List It}, exitTo id r = some r' → Sm P nt C r' e M → SmX P nt C id r e M
  | [], _, h, _ => by cases h
  | it :: r, r', h, k => by
    intro β a w h1 h2 h3 h4
    cases it with
    | endB j =>
      simp only [exitTo] at h
      show (if id = j then cont P C.Q r .normal a w else cont P C.Q r (.exit id) a w)
      cases hj : (j == id) with
      | true =>
        rw [hj] at h
        simp at h hj
        subst h
        rw [if_pos hj.symm]
        exact k β a w h1 h2 h3 h4
      | false =>
        rw [hj] at h
        simp at h hj
        rw [if_neg (fun hh => hj hh.symm)]
        exact SmX_of h k β a w h1 h2 h3 h4
    | code c => exact SmX_of (r := r) h k β a w h1 h2 h3 h4
    | ops rg l => exact SmX_of (r := r) h k β a w h1 h2 h3 h4
    | stop J => exact SmX_of (r := r) h k β a w h1 h2 h3 h4
    | rnd b n => exact SmX_of (r := r) h k β a w h1 h2 h3 h4

theorem run_ok {P : Program} {nt : Nat} {C : Cx} : ∀ (fuel : Nat) (todo : List It) (e : Env) (M : Mem) (nx : Nat), run P nt C fuel todo e M nx → Sm P nt C todo e M := by
  intro fuel
  induction fuel with
  | zero => intro todo e M nx h; exact h
  | succ fuel ih =>
    intro todo e M nx h
    simp only [run] at h
    split at h
    · exact h
    · exact h
    · split at h
      · exact h.elim
      · exact Sm.rnd (ih _ _ _ _ h)
    · exact Sm.endB (ih _ _ _ _ h)
    · exact Sm.opsNil (ih _ _ _ _ h)
    · rename_i rg o l r
      split at h
      · exact h
      · rename_i g hg
        have hd : dstOk nt o.dst = true → ∀ t, o.dst = some t → t < nt := by
          intro hh t ht
          rw [ht] at hh
          simpa [dstOk] using hh
        split at h
        · rename_i sc v N nx' hop
          obtain ⟨⟨h1, h2, h3⟩, h4⟩ := h
          exact Sm.op hg (hd h1) h3 (fun hgt => opE_ok hop (h2 hgt)) (ih _ _ _ _ h4)
        · split at h
          · rename_i sc v N nx' hop
            obtain ⟨⟨h1, h2, h3⟩, h4⟩ := h
            exact Sm.op hg (hd h1) h3 (fun hgt => opY_ok hop (h2 hgt)) (ih _ _ _ _ h4)
          split at h
          · rename_i g' f vs hop
            rcases h with ⟨⟨h1, h2⟩, ⟨M1, N, v, xs, k1, k2, k3, k4, k5, k6, k7⟩ | ⟨k1, xs, k2, k3, k4⟩⟩
            · exact Sm.op hg (hd h1) k6 (fun hgt => Stp.callO (by rw [hop, h2 hgt]) (k1 hgt) (k2 hgt) k3 k4 k5) k7
            · subst k1
              exact Sm.enter hg (by rw [hop, h2 rfl]) k2 k3 k4
          · exact h
    · split at h
      · exact Sm.skip (ih _ _ _ _ h)
      · exact Sm.seq (ih _ _ _ _ h)
      · exact Sm.block (ih _ _ _ _ h)
      · split at h
        · rename_i r' hr
          exact Sm.exit (SmX_of hr (ih _ _ _ _ h))
        · exact h.elim
      · exact Sm.ret fun β a w h1 h2 _ h4 => h β a w h1 h2 h4
      · exact Sm.region (ih _ _ _ _ h)
      · split at h
        · rename_i g t hc
          obtain ⟨rfl, h⟩ := h
          refine Sm.cond (rdV_rd hc) (fun ht => ?_) (fun hf => ?_)
          · subst ht; exact ih _ _ _ _ h
          · subst hf; exact ih _ _ _ _ h
        · exact h.elim
      · exact h

theorem dstOk_lt {nt : Nat} {d : Option Nat} (h : dstOk nt d = true) : ∀ t, d = some t → t < nt := by
  intro t ht
  rw [ht] at h
  simpa [dstOk] using h
/-- An operation that the machine does not know. -/
theorem Sm.opq {P : Program} {nt : Nat} {C : Cx} {rg : Array Oper} {o : Oper} {l : List Oper} {r : List It} {e : Env} {M : Mem} {g : Bool} (hg : gd rg e o = some g) (hd : dstOk nt o.dst = true) (h : OpQ P nt C o g (.ops rg l :: r) e M) : Sm P nt C (.ops rg (o :: l) :: r) e M := by
  obtain ⟨N, v, k1, k2, k3⟩ := h
  exact Sm.op hg (dstOk_lt hd) k2 k1 k3
/-- Whether a slice is nil: both are to be gone on with; true only where its length is 0. -/
theorem Sm.eqNil {P : Program} {nt : Nat} {C : Cx} {rg : Array Oper} {o : Oper} {l : List Oper} {r : List It} {e : Env} {M : Mem} {x y : Operand} {t1 t2 : TypeId} {n off len esz : Nat} (hg : gd rg e o = some true) (hd : dstOk nt o.dst = true) (ho : o.op = .binOp .eql t1 x y t2)
    (hx : rd e x = some (true, .c (.sl n off len esz))) (hy : rd e y = some (true, .c (.v (.slice none 0 0)))) (hsl : (slOf P t1).isSome = true)
    (ht : len = 0 → Sm P nt C (.ops rg l :: r) (e.put o.dst true (.c (.v (.bool true)))) M) (hf : Sm P nt C (.ops rg l :: r) (e.put o.dst true (.c (.v (.bool false)))) M) : Sm P nt C (.ops rg (o :: l) :: r) e M := fun β a w h1 h2 h3 h4 => by
  have hw : Region.wanted o (yielded rg a.tmps) = true := gd_ok (β := β) hg (fun j want t y _ _ hy => h2 β (Agree.refl _ _) t y hy)
  have hrun : ∀ v : Bool, (execOp a.eval o).run P w = .ok (.value (.bool v)) w → Sm P nt C (.ops rg l :: r) (e.put o.dst true (.c (.v (.bool v)))) M → cont P C.Q (.ops rg (o :: l) :: r) .normal a w := by
    intro v hv hS
    show wpList P rg (cont P C.Q r) (o :: l) a w
    refine wpList_step fun K hK => ?_
    rw [hw]
    simp only [if_true]
    unfold Oper.wp
    rw [hv]
    refine hK _ _ (hS β _ w h1 ?_ ?_ ?_)
    · exact h2.put (N := []) (Agree.refl _ _) h3 (dstOk_lt hd) (fun β'' _ => rfl)
    · cases o.dst <;> simp [Act.put, h3]
    · cases o.dst <;> simp [Act.put, h4]
  have ex : a.eval x = (Cv.sl n off len esz).g β := by
    have := rd_ok h2 (Agree.refl _ _) hx
    simpa [gv, V.g] using this
  have ey : a.eval y = .slice none 0 0 := by
    have := rd_ok h2 (Agree.refl _ _) hy
    simpa [gv, V.g, Cv.g] using this
  obtain ⟨⟨el, sz⟩, hs⟩ := Option.isSome_iff_exists.1 hsl
  obtain ⟨hu, _, _⟩ := slOf_ok hs
  by_cases hn : (β n).nul = true ∧ len = 0
  · refine hrun true ?_ (ht hn.2)
    have ex' : a.eval x = .slice none 0 0 := by rw [ex]; simp [Cv.g, hn]
    unfold execOp
    have hq := fun w => run_equal_slice_nil (P := P) w t1 el none 0 0 hu
    simp [ho, ex', ey, eqGuard, binOp, hq]
  · refine hrun false ?_ hf
    have ex' : a.eval x = .slice (some ⟨(β n).blk, (β n).org + off, none⟩) len (((β n).siz - off) / esz) := by rw [ex]; simp only [Cv.g, if_neg hn]
    unfold execOp
    have hq := fun w => run_equal_slice_nil (P := P) w t1 el (some ⟨(β n).blk, (β n).org + off, none⟩) len (((β n).siz - off) / esz) hu
    simp [ho, ex', ey, eqGuard, binOp, hq]

/-! ### The end of a body -/
def V.toW : V → Option W
  | .c x => some (.c x)
  | .agg xs => some (.agg xs)
  | .tup _ => none
theorem V.toW_g {v : V} {x : W} (h : v.toW = some x) (β : Vl) : x.g β = v.g β := by cases v <;> simp [V.toW] at h <;> subst h <;> rfl
def res1 (P : Program) (e : Env) (M : Mem) : ResultVar → Option (Prop × V)
  | .tmp t => match e.get t with
    | some (g, v) => some (g = true, v)
    | none => none
  | .cell a ty => match e.get a with
    | some (g, .c (.p n off)) => match M.get n, aggOf P ty with
      | some b, some true => some (g = true ∧ szOf P ty ≠ 0 ∧ off + szOf P ty ≤ b.cells.length, .agg ((b.cells.drop off).take (szOf P ty)))
      | some b, some false => match b.cells[off]? with
        | some c => some (g = true, .c c)
        | none => none
      | _, _ => none
    | _ => none
def resL (P : Program) (e : Env) (M : Mem) : List ResultVar → Option (Prop × List W)
  | [] => some (True, [])
  | x :: r => match res1 P e M x, resL P e M r with
    | some (sc, v), some (sc', ws) => match v.toW with
      | some y => some (sc ∧ sc', y :: ws)
      | none => none
    | _, _ => none
def resE (P : Program) (e : Env) (M : Mem) (l : List ResultVar) : Option (Prop × V) :=
  match resL P e M l with
  | some (sc, [x]) => some (sc, x.toV)
  | some (sc, ws) => some (sc, .tup ws)
  | none => none
def resSem (tmps : Array Value) : ResultVar → Sem Value
  | .tmp t => Pure.pure (tmps.getD t undef)
  | .cell b t => do loadVar t (← asAddr (tmps.getD b undef))
theorem results_eq (fn : Func) (tmps : Array Value) : results fn tmps = (do let vs ← fn.results.mapM (resSem tmps); Pure.pure (if h : vs.size = 1 then vs[0] else .tuple vs)) := by
  unfold results
  congr 1
theorem res1_ok {P : Program} {S : Bs} {w0 w : World} {β : Vl} {e : Env} {M : Mem} {a : Act} (hrel : Rel S w0 β M w) (hen : EnvOk β M e a) {x : ResultVar} {sc : Prop} {v : V} (h : res1 P e M x = some (sc, v)) (hs : sc) :
    (resSem a.tmps x).run P w = .ok (v.g β) w := by
  cases x with
  | tmp t =>
    simp only [res1] at h
    split at h <;> simp at h
    rename_i g v' hx
    obtain ⟨h1, rfl⟩ := h
    have := h1.2 hs; subst this
    have := hen β (Agree.refl _ _) t _ hx
    simp only [gv, cond_true] at this
    show Sem.run P (Pure.pure (a.tmps.getD t undef)) w = _
    rw [this]; rfl
  | cell b ty =>
    simp only [res1] at h
    split at h <;> first | (cases h; done) | skip
    rename_i g n off hx
    have he := hen β (Agree.refl _ _) b _ hx
    split at h
    · rename_i bk hb ha
      simp at h
      obtain ⟨h1, rfl⟩ := h
      obtain ⟨rfl, k1, k2⟩ := h1.2 hs
      simp only [gv, V.g, Cv.g, cond_true] at he
      have hr2 := rangeAt_sub (hrel.range (Sub.refl _) hb) off (szOf P ty)
      have hlen : ((bk.cells.map (Cv.g β)).drop off |>.take (szOf P ty)).length = szOf P ty := by simp; omega
      unfold aggOf at ha
      cases hu : P.underlying ty with
      | none => simp [hu] at ha
      | some d =>
        have hd : d.isRow = true := by cases d <;> simp_all
        have hld := run_loadVar_mid (P := P) w (β n).blk ((β n).org + off) ty _ d hr2 hu hd (by rw [hlen]; exact info_of_sz rfl k1)
        simp only [resSem, he, asAddr, Sem.run_bind, Sem.run_pure, Result.andThen_ok, hld]
        simp [V.g, List.map_take, List.map_drop]
    · rename_i bk hb ha
      split at h <;> simp at h
      rename_i c hc
      obtain ⟨h1, rfl⟩ := h
      have := h1.2 hs; subst this
      simp only [gv, V.g, Cv.g, cond_true] at he
      have hcc := (hrel.range (Sub.refl _) hb) off (c.g β) (by simp [hc])
      simp only [resSem, he, asAddr, Sem.run_bind, Sem.run_pure, Result.andThen_ok, loadVar, run_isAgg_no ha, Bool.false_eq_true, if_false, run_load, hcc, Sem.run_ite, V.g]
    · cases h
theorem resL_ok {P : Program} {S : Bs} {w0 w : World} {β : Vl} {e : Env} {M : Mem} {a : Act} (hrel : Rel S w0 β M w) (hen : EnvOk β M e a) : ∀ (l : List ResultVar) (sc : Prop) (ws : List W), resL P e M l = some (sc, ws) → sc →
    (l.mapM (resSem a.tmps)).run P w = .ok (ws.map (W.g β)) w
  | [], sc, ws, h, _ => by simp [resL] at h; simp [h.2]
  | x :: l, sc, ws, h, hs => by
    simp only [resL] at h
    split at h <;> first | (cases h; done) | skip
    rename_i sc1 v sc2 ws' h1 h2
    split at h <;> simp at h
    rename_i y hy
    obtain ⟨hsc, rfl⟩ := h
    obtain ⟨k1, k2⟩ := hsc.2 hs
    have e1 := res1_ok hrel hen h1 k1
    have e2 := resL_ok hrel hen l _ _ h2 k2
    rw [List.mapM_cons, Sem.run_bind, e1]
    simp only [Result.andThen_ok, Sem.run_bind, e2, List.map_cons, V.toW_g hy]
    rfl
theorem results_run {P : Program} {S : Bs} {w0 w : World} {β : Vl} {fn : Func} {e : Env} {M : Mem} {a : Act} (hrel : Rel S w0 β M w) (hen : EnvOk β M e a) {sc : Prop} {r : V} (hres : resE P e M fn.results.toList = some (sc, r)) (hs : sc) : (results fn a.tmps).run P w = .ok (r.g β) w := by
  rw [results_eq]
  have hm : ∀ ws, resL P e M fn.results.toList = some (sc, ws) → (fn.results.mapM (resSem a.tmps)).run P w = .ok (ws.map (W.g β)).toArray w := by
    intro ws hws
    rw [Array.mapM_eq_mapM_toList, Sem.run_map, resL_ok hrel hen _ _ _ hws hs]
    rfl
  unfold resE at hres
  cases hL : resL P e M fn.results.toList with
  | none => simp [hL] at hres
  | some y =>
    obtain ⟨sc', ws⟩ := y
    rw [hL] at hres
    match ws, hres, hL with
    | [x], hres, hL =>
      simp at hres
      obtain ⟨rfl', rfl⟩ := hres
      have hh := hm [x] (by rw [hL, rfl'])
      rw [Sem.run_bind, hh]
      simp [W.toV_g]
    | [], hres, hL =>
      simp at hres
      obtain ⟨rfl', rfl⟩ := hres
      have hh := hm [] (by rw [hL, rfl'])
      rw [Sem.run_bind, hh]
      simp [V.g]
    | x :: y :: ws', hres, hL =>
      simp at hres
      obtain ⟨rfl', rfl⟩ := hres
      have hh := hm (x :: y :: ws') (by rw [hL, rfl'])
      rw [Sem.run_bind, hh]
      simp [V.g]
theorem RetQ.of {P : Program} {C : Cx} {fn : Func} {v : V} {NM : Mem} {e : Env} {M : Mem} (hR : RetOk P C fn v NM) {sc : Prop} {r : V} (hres : resE P e M fn.results.toList = some (sc, r)) (hs : sc) (hv : r = v) (hsub : Sub NM M) (hcm : ClM NM) (hcv : ClV NM v) : RetQ C e M := by
  intro β a w hrel hen hd
  subst hv
  refine hR.2.1 β a w (r.g β) ?_ (fun β'' hag => (hcv β β'' hag).symm) hd ?_
  · refine ⟨hrel.fr, hrel.mem.sub hsub hcm, fun n b hb hr hu hS => ?_, fun n l hl => ⟨hR.1 n l hl, (hrel.pin n l hl).2⟩⟩
    obtain ⟨b', hb', hw⟩ := hsub n b hb
    rcases hw with rfl | ⟨h1, _⟩
    · exact hrel.own n _ hb' hr hu hS
    · rw [hr] at h1; cases h1
  · exact results_run hrel hen hres hs
end Vg
end Go.Proofs.YtpahigegcbdleaaDoor
