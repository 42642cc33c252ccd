/- An abstract machine over named blocks, and that what it computes is what the model's code does. For whatever program P. -/
import Derived.WalkKit
import Derived.Orders
import Derived.Deep.MidRow
namespace Go.Proofs.YtpahigegcbdleaaDoor
namespace Vg
open Go.RowKit

/-- Where a named block lies: its number, the place of its first known cell, the number of its cells from there on; or that it is none at all (a nil slice). -/
structure Loc where
  blk : Nat
  org : Nat
  siz : Nat
  nul : Bool := false
abbrev Vl := Nat → Loc

/-- A value of one cell: as the model has it, or a pointer or a slice into a named block. -/
inductive Cv where
  | v (x : Value)
  | p (n off : Nat)
  | sl (n off len esz : Nat)
  | fn (f : FuncId) (caps : List (Nat × Nat))
  | s0 (n off : Nat)
def ptr (β : Vl) (n off : Nat) : Value := .pointer (some ⟨(β n).blk, (β n).org + off, none⟩)
def Cv.g (β : Vl) : Cv → Value
  | .v x => x
  | .p n off => .pointer (some ⟨(β n).blk, (β n).org + off, none⟩)
  | .sl n off len esz => if (β n).nul = true ∧ len = 0 then .slice none 0 0 else .slice (some ⟨(β n).blk, (β n).org + off, none⟩) len (((β n).siz - off) / esz)
  | .fn f caps => .func (.func f) #[] (caps.map fun c => ptr β c.1 c.2).toArray
  | .s0 n off => if (β n).nul = true then .slice none 0 0 else .slice (some ⟨(β n).blk, (β n).org + off, none⟩) 0 0
def Cv.one : Cv → Bool
  | .v x => x.oneCell'
  | _ => true
inductive W where
  | c (x : Cv)
  | agg (xs : List Cv)
inductive V where
  | c (x : Cv)
  | agg (xs : List Cv)
  | tup (xs : List W)
def W.g (β : Vl) : W → Value
  | .c x => x.g β
  | .agg xs => .agg (xs.map (Cv.g β)).toArray
def V.g (β : Vl) : V → Value
  | .c x => x.g β
  | .agg xs => .agg (xs.map (Cv.g β)).toArray
  | .tup xs => .tuple (xs.map (W.g β)).toArray
def W.toV : W → V
  | .c x => .c x
  | .agg xs => .agg xs
theorem W.toV_g (β : Vl) (x : W) : x.toV.g β = x.g β := by cases x <;> rfl
def V.ok1 : V → Bool
  | .c x => x.one
  | .agg _ => true
  | .tup _ => false
def V.cells : V → List Cv
  | .c x => [x]
  | .agg xs => xs
  | .tup _ => []

theorem V.cells_g {v : V} (hv : v.ok1 = true) (β : Vl) : (v.g β).cells = (v.cells.map (Cv.g β)).toArray := by
  cases v with
  | agg xs => rfl
  | tup xs => cases hv
  | c x =>
    cases x with
    | p _ _ => rfl
    | sl n off len esz =>
      show (Cv.g β (.sl n off len esz)).cells = #[Cv.g β (.sl n off len esz)]
      simp only [Cv.g]; split <;> rfl
    | fn _ _ => rfl
    | s0 n off =>
      show (Cv.g β (.s0 n off)).cells = #[Cv.g β (.s0 n off)]
      simp only [Cv.g]; split <;> rfl
    | v x => cases x <;> first | rfl | (simp [V.ok1, Cv.one, Value.oneCell'] at hv)
theorem Cv.one_g {x : Cv} (h : x.one = true) (β : Vl) : (x.g β).oneCell' = true := by
  cases x with
  | v x => exact h
  | p _ _ => rfl
  | sl _ _ _ _ => simp only [Cv.g]; split <;> rfl
  | fn _ _ => rfl
  | s0 _ _ => simp only [Cv.g]; split <;> rfl

/-- A named block: whether it is only read; its known cells from the first on; its type. -/
structure Bk where
  ro : Bool
  cells : List Cv
  elem : TypeId
abbrev Mem := List (Nat × Bk)
def Mem.get : Mem → Nat → Option Bk
  | [], _ => none
  | (k, b) :: r, n => bif k == n then some b else Mem.get r n
theorem Mem.get_append (N M : Mem) (n : Nat) : Mem.get (N ++ M) n = (N.get n).or (M.get n) := by
  induction N with
  | nil => rfl
  | cons a N ih =>
    obtain ⟨k, b⟩ := a
    simp only [List.cons_append, Mem.get]
    cases h : (k == n) <;> simp [ih]

def Agree (M : Mem) (β β' : Vl) : Prop := ∀ n, (M.get n).isSome = true → β' n = β n
theorem Agree.refl (M : Mem) (β : Vl) : Agree M β β := fun _ _ => rfl
theorem Agree.trans {M : Mem} {a b c : Vl} (h : Agree M a b) (k : Agree M b c) : Agree M a c := fun n hn => (k n hn).trans (h n hn)
theorem Agree.right {N M : Mem} {a b : Vl} (h : Agree (N ++ M) a b) : Agree M a b := fun n hn => h n (by
  rw [Mem.get_append]; cases N.get n <;> simp_all)
theorem Agree.left {N M : Mem} {a b : Vl} (h : Agree (N ++ M) a b) : Agree N a b := fun n hn => h n (by
  rw [Mem.get_append]; cases h' : N.get n <;> simp_all)

/-- A block that matters: one that may be written, or of which something is known. -/
def Bk.lv (b : Bk) : Prop := b.ro = false ∨ b.cells ≠ []
def BkOk (β : Vl) (n : Nat) (b : Bk) (w : World) : Prop :=
  if (β n).nul then b.cells = []
  else if b.ro then w.rangeAt (β n).blk (β n).org (b.cells.map (Cv.g β)) ∧ b.cells.length ≤ (β n).siz
  else (β n).org = 0 ∧ ∃ junk : List Value, w.heap[(β n).blk]? = some (.cells (b.cells.map (Cv.g β) ++ junk).toArray b.elem (0, 0)) ∧ (β n).siz = b.cells.length + junk.length

structure MemOk (β : Vl) (M : Mem) (w : World) : Prop where
  ok : ∀ β', Agree M β β' → ∀ n b, M.get n = some b → BkOk β' n b w
  there : ∀ n b, M.get n = some b → (β n).nul = false → (β n).blk < w.heap.size
  apart : ∀ n m b b', M.get n = some b → M.get m = some b' → n ≠ m → b.ro = false → b'.lv → (β n).nul = false → (β m).nul = false → (β n).blk ≠ (β m).blk

/-- Of the blocks that were there those in S are as they were. -/
structure Fr (S : Nat → Prop) (w0 w : World) : Prop where
  os : w.os = w0.os
  tape : w.tape = w0.tape
  output : w.output = w0.output
  size : w0.heap.size ≤ w.heap.size
  old : ∀ b, S b → b < w0.heap.size → w.heap[b]? = w0.heap[b]?
theorem Fr.refl (S : Nat → Prop) (w : World) : Fr S w w := ⟨rfl, rfl, rfl, Nat.le_refl _, fun _ _ _ => rfl⟩

/-- The base: which old blocks stay as they were; which names lie where they lay. -/
structure Bs where
  s : Nat → Prop
  pin : Nat → Option Loc
structure Rel (S : Bs) (w0 : World) (β : Vl) (M : Mem) (w : World) : Prop where
  fr : Fr S.s w0 w
  mem : MemOk β M w
  own : ∀ n b, M.get n = some b → b.ro = false → (β n).nul = false → S.s (β n).blk → w0.heap.size ≤ (β n).blk
  pin : ∀ n l, S.pin n = some l → (M.get n).isSome = true ∧ β n = l

/-- A draw changes nothing. -/
theorem BkOk.drew {β : Vl} {n : Nat} {b : Bk} {w : World} (h : BkOk β n b w) : BkOk β n b { w with drawn := w.drawn + 1 } := h
theorem Rel.drew {S : Bs} {w0 : World} {β : Vl} {M : Mem} {w : World} (h : Rel S w0 β M w) : Rel S w0 β M { w with drawn := w.drawn + 1 } :=
  ⟨⟨h.fr.os, h.fr.tape, h.fr.output, h.fr.size, h.fr.old⟩, ⟨h.mem.ok, h.mem.there, h.mem.apart⟩, h.own, h.pin⟩

/-- BkOk hangs on the block's own content alone. -/
theorem BkOk.same {β : Vl} {n : Nat} {b : Bk} {w w' : World} (h : BkOk β n b w) (hb : w'.heap[(β n).blk]? = w.heap[(β n).blk]?) : BkOk β n b w' := by
  unfold BkOk at *
  split
  · rename_i hu
    rw [if_pos hu] at h
    exact h
  · rename_i hu
    rw [if_neg hu] at h
    split
    · rename_i hr
      rw [if_pos hr] at h
      refine ⟨fun j v hj => ?_, h.2⟩
      rw [World.cell?_of_block (w := w) hb]
      exact h.1 j v hj
    · rename_i hr
      rw [if_neg hr] at h
      rw [hb]; exact h

/-- The environment: slot, guard, value. -/
abbrev Env := List (Nat × Bool × V)
def Env.get : Env → Nat → Option (Bool × V)
  | [], _ => none
  | (k, x) :: r, n => bif k == n then some x else Env.get r n
def Env.put (e : Env) (d : Option Nat) (g : Bool) (v : V) : Env :=
  match d with
  | some d => (d, g, v) :: e
  | none => e
def gv (β : Vl) (x : Bool × V) : Value := bif x.1 then x.2.g β else undef
def EnvOk (β : Vl) (M : Mem) (e : Env) (a : Act) : Prop :=
  ∀ β', Agree M β β' → ∀ t x, e.get t = some x → a.tmps.getD t undef = gv β' x

def cst : Value → V
  | .agg cs => .agg (cs.toList.map .v)
  | x => .c (.v x)
theorem cst_g (β : Vl) (x : Value) : (cst x).g β = x := by
  cases x <;> simp [cst, V.g, Cv.g, Function.comp_def]
def rd (e : Env) : Operand → Option (Bool × V)
  | .tmp t => e.get t
  | .const v => some (true, cst v)
  | .global g => some (true, .c (.v (.pointer (some ⟨g, 0, none⟩))))
  | .func f => some (true, .c (.v (.func (.func f) #[] #[])))
theorem rd_ok {β β' : Vl} {M : Mem} {e : Env} {a : Act} (h : EnvOk β M e a) (hb : Agree M β β') {x : Operand} {y : Bool × V} (hx : rd e x = some y) : a.eval x = gv β' y := by
  cases x with
  | tmp t => exact h β' hb t y hx
  | const v => simp [rd] at hx; subst hx; simp [gv, cst_g, Act.eval]
  | global g => simp [rd] at hx; subst hx; simp [gv, V.g, Cv.g, Act.eval]
  | func f => simp [rd] at hx; subst hx; simp [gv, V.g, Cv.g, Act.eval]

/-! ### What is left to do, as the machine has it, and what it means -/
inductive It where
  | code (c : Code)
  | endB (id : Nat)
  | ops (rg : Array Oper) (l : List Oper)
  | stop (J : Act → World → Prop)
  | rnd (b : Code) (n : Nat)

def cont (P : Program) (Q : Exit → Act → World → Prop) : List It → Exit → Act → World → Prop
  | [], e, a, w => Q e a w
  | it :: r, e, a, w =>
    match e with
    | .normal =>
      match it with
      | .code c => c.wp P (cont P Q r) a w
      | .endB _ => cont P Q r .normal a w
      | .ops rg l => wpList P rg (cont P Q r) l a w
      | .stop J => J a w
      | .rnd b n => Code.rounds P b (cont P Q r) n a w
    | .exit id =>
      match it with
      | .endB j => if id = j then cont P Q r .normal a w else cont P Q r (.exit id) a w
      | _ => cont P Q r (.exit id) a w
    | e => cont P Q r e a w

structure Cx where
  S : Bs
  w0 : World
  Q : Exit → Act → World → Prop

def Sm (P : Program) (nt : Nat) (C : Cx) (todo : List It) (e : Env) (M : Mem) : Prop :=
  ∀ β a w, Rel C.S C.w0 β M w → EnvOk β M e a → a.tmps.size = nt → a.defers = [] → cont P C.Q todo .normal a w
/-- the same, leaving by 'exit id' -/
def SmX (P : Program) (nt : Nat) (C : Cx) (id : Nat) (todo : List It) (e : Env) (M : Mem) : Prop :=
  ∀ β a w, Rel C.S C.w0 β M w → EnvOk β M e a → a.tmps.size = nt → a.defers = [] → cont P C.Q todo (.exit id) a w

section
variable {P : Program} {nt : Nat} {C : Cx} {r : List It} {e : Env} {M : Mem}
theorem Sm.skip (h : Sm P nt C r e M) : Sm P nt C (.code .skip :: r) e M := fun β a w h1 h2 h3 h4 => wp_skip (h β a w h1 h2 h3 h4)
theorem Sm.seq {x y : Code} (h : Sm P nt C (.code x :: .code y :: r) e M) : Sm P nt C (.code (.seq x y) :: r) e M := fun β a w h1 h2 h3 h4 => by
  refine wp_seq (Code.wp_mono ?_ (h β a w h1 h2 h3 h4))
  intro x' a' w' hq
  cases x' <;> exact hq
theorem Sm.block {id : Nat} {x : Code} (h : Sm P nt C (.code x :: .endB id :: r) e M) : Sm P nt C (.code (.block id x) :: r) e M := fun β a w h1 h2 h3 h4 => by
  refine wp_block (Code.wp_mono ?_ (h β a w h1 h2 h3 h4))
  intro x' a' w' hq
  cases x' <;> exact hq
theorem Sm.endB {id : Nat} (h : Sm P nt C r e M) : Sm P nt C (.endB id :: r) e M := fun β a w h1 h2 h3 h4 => h β a w h1 h2 h3 h4
theorem Sm.exit {id : Nat} (h : SmX P nt C id r e M) : Sm P nt C (.code (.exit id) :: r) e M := fun β a w h1 h2 h3 h4 => wp_exit (h β a w h1 h2 h3 h4)
theorem Sm.ret (h : ∀ β a w, Rel C.S C.w0 β M w → EnvOk β M e a → a.tmps.size = nt → a.defers = [] → C.Q .ret a w) : Sm P nt C (.code .ret :: r) e M := fun β a w h1 h2 h3 h4 => by
  refine wp_ret ?_
  have := h β a w h1 h2 h3 h4
  clear h
  induction r with
  | nil => exact this
  | cons it r ih => exact ih
theorem Sm.region {id : Nat} {rg : Array Oper} (h : Sm P nt C (.ops rg rg.toList :: r) e M) : Sm P nt C (.code (.region id rg false) :: r) e M :=
  fun β a w h1 h2 h3 h4 => wp_region_list (h β a w h1 h2 h3 h4)
theorem Sm.opsNil {rg : Array Oper} (h : Sm P nt C r e M) : Sm P nt C (.ops rg [] :: r) e M := fun β a w h1 h2 h3 h4 => h β a w h1 h2 h3 h4
theorem Sm.cond {c : Operand} {x y : Code} {t : Bool} (hc : rd e c = some (true, .c (.v (.bool t)))) (ht : t = true → Sm P nt C (.code x :: r) e M) (hf : t = false → Sm P nt C (.code y :: r) e M) :
    Sm P nt C (.code (.cond c x y) :: r) e M := fun β a w h1 h2 h3 h4 => by
  have hv : a.eval c = .bool t := by rw [rd_ok h2 (Agree.refl _ _) hc]; rfl
  exact wp_cond_split hv (fun hh => ht hh β a w h1 h2 h3 h4) (fun hh => hf hh β a w h1 h2 h3 h4)
theorem Sm.unroll {b : Code} (n : Nat) (h : Sm P nt C (.rnd b n :: r) e M) : Sm P nt C (.code (.loop b) :: r) e M := fun β a w h1 h2 h3 h4 => wp_loop_rounds n (h β a w h1 h2 h3 h4)
theorem Sm.rnd {b : Code} {n : Nat} (h : Sm P nt C (.code b :: .rnd b n :: r) e M) : Sm P nt C (.rnd b (n + 1) :: r) e M := fun β a w h1 h2 h3 h4 => by
  show Code.rounds P b (cont P C.Q r) (n + 1) a w
  rw [rounds_succ]
  refine Code.wp_mono ?_ (h β a w h1 h2 h3 h4)
  intro x' a' w' hq
  cases x' <;> exact hq
/-- What (e, M) says is said by (e', M') too. -/
def Wkn (S : Bs) (e : Env) (M : Mem) (e' : Env) (M' : Mem) : Prop :=
  ∀ w0 β a w, Rel S w0 β M' w → EnvOk β M' e' a → ∃ β1, Rel S w0 β1 M w ∧ EnvOk β1 M e a
theorem Sm.wkn {todo : List It} {e' : Env} {M' : Mem} (h : Wkn C.S e M e' M') (k : Sm P nt C todo e M) : Sm P nt C todo e' M' := fun β a w h1 h2 h3 h4 => by
  obtain ⟨β1, g1, g2⟩ := h _ β a w h1 h2
  exact k β1 a w g1 g2 h3 h4
theorem Sm.stop {J : Act → World → Prop} (h : ∀ β a w, Rel C.S C.w0 β M w → EnvOk β M e a → a.tmps.size = nt → a.defers = [] → J a w) : Sm P nt C (.stop J :: r) e M := h

/-- A LOOP: the states at its head are (E x, Mm x); a round leads to one of a lesser measure. -/
theorem Sm.loop {α : Type} {b : Code} (E : α → Env) (Mm : α → Mem) (m : α → Nat) (x0 : α) (h0 : Wkn C.S (E x0) (Mm x0) e M)
    (round : ∀ (x : α) (J : Act → World → Prop), (∀ e' M', (∃ x', m x' < m x ∧ Wkn C.S (E x') (Mm x') e' M') → Sm P nt C (.stop J :: r) e' M') → Sm P nt C (.code b :: .stop J :: r) (E x) (Mm x)) :
    Sm P nt C (.code (.loop b) :: r) e M := fun β a w h1 h2 h3 h4 => by
  let St : α → Act → World → Prop := fun x a w => ∃ β, Rel C.S C.w0 β (Mm x) w ∧ EnvOk β (Mm x) (E x) a ∧ a.tmps.size = nt ∧ a.defers = []
  obtain ⟨β1, g1, g2⟩ := h0 _ β a w h1 h2
  -- every state is met by one of least measure
  have least : ∀ n a w, (∃ x, m x ≤ n ∧ St x a w) → ∃ x, St x a w ∧ ∀ y, St y a w → m x ≤ m y := by
    intro n
    induction n using Nat.strongRecOn with
    | _ n ih =>
      intro a w ⟨x, hx, hs⟩
      by_cases hl : ∃ y, m y < m x ∧ St y a w
      · obtain ⟨y, hy, hsy⟩ := hl
        exact ih (m y) (by omega) a w ⟨y, Nat.le_refl _, hsy⟩
      · refine ⟨x, hs, fun y hy => ?_⟩
        by_cases hh : m x ≤ m y
        · exact hh
        · exact absurd ⟨y, by omega, hy⟩ hl
  classical
  refine wp_loop (fun a w => ∃ x, St x a w) (fun a w => if h : ∃ x, St x a w ∧ ∀ y, St y a w → m x ≤ m y then m h.choose else 0) ⟨x0, β1, g1, g2, h3, h4⟩ ?_
  intro a w ⟨x, hx⟩
  have hl := least (m x) a w ⟨x, Nat.le_refl _, hx⟩
  simp only [dif_pos hl]
  have hc := hl.choose_spec
  generalize hl.choose = y at hc
  obtain ⟨⟨β2, k1, k2, k3, k4⟩, hmin⟩ := hc
  let J : Act → World → Prop := fun a' w' => (∃ x, St x a' w') ∧ (if h : ∃ x, St x a' w' ∧ ∀ y, St y a' w' → m x ≤ m y then m h.choose else 0) < m y
  have hJ : ∀ a' w', (∃ x', m x' < m y ∧ St x' a' w') → J a' w' := by
    rintro a' w' ⟨x', hlt, hs⟩
    have hl' := least (m x') a' w' ⟨x', Nat.le_refl _, hs⟩
    refine ⟨⟨x', hs⟩, ?_⟩
    simp only [dif_pos hl']
    have := hl'.choose_spec.2 x' hs
    omega
  have hb := round y J (fun e' M' ⟨x', hlt, hw⟩ => Sm.stop fun β a w q1 q2 q3 q4 => by
    obtain ⟨β3, r1, r2⟩ := hw _ β a w q1 q2
    exact hJ a w ⟨x', hlt, β3, r1, r2, q3, q4⟩) β2 a w k1 k2 k3 k4
  refine Code.wp_mono ?_ hb
  intro x' a' w' hq
  cases x' <;> exact hq
end

/-! ### One operation -/
def Wk (b b' : Bk) : Prop := b = b' ∨ (b.ro = true ∧ ∃ tl, b'.cells = b.cells ++ tl)
theorem Wk.lv {b b' : Bk} (h : Wk b b') (hl : b.lv) : b'.lv := by
  rcases h with rfl | ⟨h1, tl, h2⟩
  · exact hl
  · rcases hl with h | h
    · rw [h] at h1; cases h1
    · exact .inr (fun hh => h (by rw [hh] at h2; exact (List.append_eq_nil_iff.1 h2.symm).1))
def Sub (M M' : Mem) : Prop := ∀ n b, M.get n = some b → ∃ b', M'.get n = some b' ∧ Wk b b'
theorem Wk.refl (b : Bk) : Wk b b := .inl rfl
theorem Sub.refl (M : Mem) : Sub M M := fun _ b h => ⟨b, h, .inl rfl⟩
def Fresh (N M M' : Mem) : Prop := ∀ n, (N.get n).isSome = true → (M.get n).isSome = true ∨ M'.get n = none
theorem Fresh.same (N M : Mem) : Fresh N M M := fun n _ => by cases h : M.get n <;> simp

def OpOk (β : Vl) (M : Mem) (e : Env) (o : Oper) (a : Act) : Prop :=
  ∀ β', Agree M β β' → ∀ x, x ∈ o.op.operands → ∀ y, rd e x = some y → a.eval x = gv β' y

/-- Operation o, wanted, in an environment that reads e and memory that reads M: it gives v, and N besides. -/
def Stp (P : Program) (o : Oper) (e : Env) (M : Mem) (v : V) (N : Mem) : Prop :=
  ∀ S w0 β M' a w, Sub M M' → Fresh N M M' → Rel S w0 β M' w → OpOk β M' e o a →
    ∀ (K : Act → World → Prop) (Q : Exit → Act → World → Prop),
      (∀ β' u w', Agree M' β β' → Rel S w0 β' (N ++ M') w' → (∀ β'', Agree (N ++ M') β' β'' → u = v.g β'') → K (a.put o.dst u) w') → o.wp P a w K Q

/-- The guard of an operation. -/
def gd (rg : Array Oper) (e : Env) (o : Oper) : Option Bool :=
  match o.guard with
  | none => some true
  | some (j, want) =>
    match (rg[j]?).bind (·.dst) with
    | none => none
    | some t =>
      match e.get t with
      | some (g, .c (.v (.bool b))) => some (g && (b == want))
      | _ => none
theorem gd_ok {rg : Array Oper} {e : Env} {o : Oper} {g : Bool} {β : Vl} {a : Act} (h : gd rg e o = some g)
    (he : ∀ j want t y, o.guard = some (j, want) → (rg[j]?).bind (·.dst) = some t → e.get t = some y → a.tmps.getD t undef = gv β y) : Region.wanted o (yielded rg a.tmps) = g := by
  unfold gd at h
  unfold Region.wanted
  cases hg : o.guard with
  | none => simp [hg] at h; simp [h]
  | some jw =>
    obtain ⟨j, want⟩ := jw
    simp only [hg] at h
    cases ht : (rg[j]?).bind (·.dst) with
    | none => simp [ht] at h
    | some t =>
      simp only [ht] at h
      cases hy : e.get t with
      | none => simp [hy] at h
      | some y =>
        have hv := he j want t y hg ht hy
        obtain ⟨g', x⟩ := y
        simp only [hy] at h
        cases x with
        | agg _ => simp at h
        | tup _ => simp at h
        | c x =>
          cases x with
          | p _ _ => simp at h
          | sl _ _ _ _ => simp at h
          | fn _ _ => simp at h
          | s0 _ _ => simp at h
          | v x =>
            cases x <;> simp at h
            rename_i b
            subst h
            simp only [yielded, ht, Option.bind_some]
            cases g' with
            | true =>
              simp [gv, V.g, Cv.g] at hv
              have : a.tmps[t]? = some (.bool b) := by
                cases hq : a.tmps[t]? with
                | none => simp [hq, undef] at hv
                | some q => simp [hq] at hv; simp [hv]
              simp only [this]
              cases b <;> cases want <;> rfl
            | false =>
              simp [gv] at hv
              cases hq : a.tmps[t]? with
              | none => rfl
              | some q => simp [hq, undef] at hv; subst hv; rfl

theorem EnvOk.put {β β' : Vl} {N M : Mem} {e : Env} {a : Act} (h : EnvOk β M e a) (hb : Agree M β β') {d : Option Nat} {g : Bool} {v : V} {u : Value} {n : Nat} (hn : a.tmps.size = n) (hd : ∀ t, d = some t → t < n)
    (hu : ∀ β'', Agree (N ++ M) β' β'' → u = gv β'' (g, v)) : EnvOk β' (N ++ M) (e.put d g v) (a.put d u) := by
  intro β'' hag t x hx
  cases d with
  | none => exact h β'' (hb.trans hag.right) t x hx
  | some d =>
    have hlt := hd d rfl
    simp only [Env.put, Env.get] at hx
    simp only [Act.put]
    cases hdt : (d == t) with
    | true =>
      rw [hdt] at hx
      simp only [cond_true, Option.some.injEq] at hx
      subst hx
      have : d = t := by simpa using hdt
      subst this
      simp [hn, hlt]
      exact hu β'' hag
    | false =>
      rw [hdt] at hx
      simp only [cond_false] at hx
      have hne : d ≠ t := by simpa using hdt
      have := h β'' (hb.trans hag.right) t x hx
      simpa [Array.getElem?_setIfInBounds_ne hne] using this

theorem Sm.op {P : Program} {nt : Nat} {C : Cx} {rg : Array Oper} {o : Oper} {l : List Oper} {r : List It} {e : Env} {M : Mem} {g : Bool} {v : V} {N : Mem} (hg : gd rg e o = some g) (hd : ∀ t, o.dst = some t → t < nt)
    (hN : g = true ∨ N = []) (hs : g = true → Stp P o e M v N) (hr : Sm P nt C (.ops rg l :: r) (e.put o.dst g v) (N ++ M)) : Sm P nt C (.ops rg (o :: l) :: r) e M := fun β a w h1 h2 h3 h4 => by
  have hw : Region.wanted o (yielded rg a.tmps) = g := gd_ok (β := β) hg (fun j want t y _ _ hy => h2 β (Agree.refl _ _) t y hy)
  show wpList P rg (cont P C.Q r) (o :: l) a w
  refine wpList_step fun K hK => ?_
  rw [hw]
  cases g with
  | true =>
    simp only [if_true]
    refine hs rfl C.S C.w0 β M a w (Sub.refl _) (Fresh.same _ _) h1 (fun β' hb x _ y hy => rd_ok h2 hb hy) K _ ?_
    intro β' u w' hag hrel hu
    refine hK _ _ (hr β' _ w' hrel ?_ ?_ ?_)
    · exact h2.put hag h3 hd (fun β'' hb => by rw [hu β'' hb]; rfl)
    · cases o.dst <;> simp [Act.put, h3]
    · cases o.dst <;> simp [Act.put, h4]
  | false =>
    simp only [Bool.false_eq_true, if_false]
    obtain rfl : N = [] := by rcases hN with hN | hN; exact absurd hN (by simp); exact hN
    refine hK _ _ (hr β _ w h1 ?_ ?_ ?_)
    · exact h2.put (N := []) (Agree.refl _ _) h3 hd (fun β'' _ => rfl)
    · cases o.dst <;> simp [Act.put, h3]
    · cases o.dst <;> simp [Act.put, h4]

/-! ### The operations, one by one -/
theorem Rel.agree {S : Bs} {w0 w : World} {β β' : Vl} {M : Mem} (h : Rel S w0 β M w) (hb : Agree M β β') : Rel S w0 β' M w := by
  have hs : ∀ n b, M.get n = some b → β' n = β n := fun n b hn => hb n (by simp [hn])
  refine ⟨h.fr, ⟨fun β'' hag => h.mem.ok β'' (hb.trans hag), fun n b hn => by rw [hs n b hn]; exact h.mem.there n b hn, fun n m b b' hn hm hne hr hl => ?_⟩, fun n b hn hr => ?_, fun n l hn => ⟨(h.pin n l hn).1, (hb n (h.pin n l hn).1).trans (h.pin n l hn).2⟩⟩
  · rw [hs n b hn, hs m b' hm]; exact h.mem.apart n m b b' hn hm hne hr hl
  · rw [hs n b hn]; exact h.own n b hn hr
/-- An operation that reads only. -/
theorem Stp.read {P : Program} {o : Oper} {e : Env} {M : Mem} {v : V}
    (h : ∀ S w0 β M' (a : Act) w, Sub M M' → Rel S w0 β M' w → (∀ x, x ∈ o.op.operands → ∀ y, rd e x = some y → a.eval x = gv β y) → (execOp a.eval o).run P w = .ok (.value (v.g β)) w) : Stp P o e M v [] := by
  intro S w0 β M' a w hsub _ hrel hop K Q hk
  have key : ∀ β'', Agree M' β β'' → (execOp a.eval o).run P w = .ok (.value (v.g β'')) w := fun β'' hb => h S w0 β'' M' a w hsub (hrel.agree hb) (fun x hx y hy => hop β'' hb x hx y hy)
  unfold Oper.wp
  rw [key β (Agree.refl _ _)]
  refine hk β _ w (Agree.refl _ _) hrel (fun β'' hb => ?_)
  have := (key β (Agree.refl _ _)).symm.trans (key β'' hb)
  simpa using this
theorem Stp.pure {P : Program} {o : Oper} {e : Env} {M : Mem} {v : V}
    (h : ∀ β (a : Act), (∀ x, x ∈ o.op.operands → ∀ y, rd e x = some y → a.eval x = gv β y) → ∀ w, (execOp a.eval o).run P w = .ok (.value (v.g β)) w) : Stp P o e M v [] :=
  Stp.read fun _ _ β _ a w _ _ hop => h β a hop w

theorem BkOk.range {β : Vl} {n : Nat} {b : Bk} {w : World} (h : BkOk β n b w) : w.rangeAt (β n).blk (β n).org (b.cells.map (Cv.g β)) := by
  unfold BkOk at h
  split at h
  · rw [h]; intro j v hj; simp at hj
  split at h
  · exact h.1
  · obtain ⟨ho, junk, hh, _⟩ := h
    intro j v hj
    rw [ho]
    simp only [World.cell?, hh, Nat.zero_add]
    have hlt : j < (b.cells.map (Cv.g β)).length := (List.getElem?_eq_some_iff.1 hj).1
    simp only [Option.isSome_none, Bool.false_eq_true, if_false, List.getElem?_toArray]
    rw [List.getElem?_append_left hlt]
    exact hj
theorem BkOk.siz {β : Vl} {n : Nat} {b : Bk} {w : World} (h : BkOk β n b w) : b.cells.length ≤ (β n).siz := by
  unfold BkOk at h
  split at h
  · rw [h]; simp
  split at h
  · exact h.2
  · obtain ⟨_, junk, _, hz⟩ := h; omega
theorem BkOk.nul_cells {β : Vl} {n : Nat} {b : Bk} {w : World} (h : BkOk β n b w) (hn : (β n).nul = true) : b.cells = [] := by
  unfold BkOk at h
  rw [if_pos hn] at h
  exact h
theorem rangeAt_sub {w : World} {b o : Nat} {cs : List Value} (h : w.rangeAt b o cs) (off k : Nat) : w.rangeAt b (o + off) ((cs.drop off).take k) := by
  intro j v hj
  rw [Nat.add_assoc]
  refine h (off + j) v ?_
  rw [List.getElem?_take] at hj
  split at hj
  · rwa [List.getElem?_drop] at hj
  · cases hj

/-! What is asked of the tables of types. -/
def szOf (P : Program) (t : TypeId) : Nat := ((P.info? t).map (·.size)).getD 0
def aggOf (P : Program) (t : TypeId) : Option Bool :=
  match P.underlying t with
  | some (.struct _) => some true
  | some (.array _ _) => some true
  | some _ => some false
  | none => none
def zeroOf (P : Program) (t : TypeId) : Option (List Value) :=
  match P.info? t with
  | some i => (match i.zero with | some z => (if z.cells.size = i.size then some z.cells.toList else none) | none => none)
  | none => none
def offOf (P : Program) (s : TypeId) (f : Nat) : Option Nat :=
  match P.underlying s with
  | some (.struct fs) => (match fs[f]? with | some fd => (if szOf P fd.type = 0 then none else some fd.offset) | none => none)
  | _ => none
def kiOf (P : Program) (t : TypeId) : Option IntKind :=
  match P.underlying t with
  | some (.int k) => some k
  | _ => none

theorem run_sizeOf' {P : Program} {t : TypeId} {n : Nat} (h : szOf P t = n) (h0 : n ≠ 0) (w : World) : (sizeOf t).run P w = .ok n w := by
  unfold szOf at h
  cases hi : P.info? t with
  | none => simp [hi] at h; omega
  | some i => simp [hi] at h; simp [sizeOf, typeInfo, hi, h]
theorem info_of_sz {P : Program} {t : TypeId} {n : Nat} (h : szOf P t = n) (h0 : n ≠ 0) : (P.info? t).map (·.size) = some n := by
  unfold szOf at h
  cases hi : P.info? t with
  | none => simp [hi] at h; omega
  | some i => simp [hi] at h; simp [h]

theorem Rel.range {S : Bs} {w0 w : World} {β : Vl} {M M' : Mem} (h : Rel S w0 β M' w) (hsub : Sub M M') {n : Nat} {b : Bk} (hb : M.get n = some b) : w.rangeAt (β n).blk (β n).org (b.cells.map (Cv.g β)) := by
  obtain ⟨b', hb', hwk⟩ := hsub n b hb
  obtain ⟨tl, hcells⟩ : ∃ tl, b'.cells = b.cells ++ tl := by
    rcases hwk with h | h
    · exact ⟨[], by rw [h]; simp⟩
    · exact h.2
  have := (h.mem.ok β (Agree.refl _ _) n b' hb').range
  rw [hcells] at this
  intro j v hj
  refine this j v ?_
  rw [List.map_append, List.getElem?_append_left (List.getElem?_eq_some_iff.1 hj).1]
  exact hj
theorem Rel.siz {S : Bs} {w0 w : World} {β : Vl} {M M' : Mem} (h : Rel S w0 β M' w) (hsub : Sub M M') {n : Nat} {b : Bk} (hb : M.get n = some b) : b.cells.length ≤ (β n).siz ∧ ((β n).nul = true → b.cells = []) := by
  obtain ⟨b', hb', hwk⟩ := hsub n b hb
  obtain ⟨tl, hcells⟩ : ∃ tl, b'.cells = b.cells ++ tl := by
    rcases hwk with h | h
    · exact ⟨[], by rw [h]; simp⟩
    · exact h.2
  have hok := h.mem.ok β (Agree.refl _ _) n b' hb'
  have h1 := hok.siz
  rw [hcells, List.length_append] at h1
  refine ⟨by omega, fun hn => ?_⟩
  have h2 := hok.nul_cells hn
  rw [hcells] at h2
  exact (List.append_eq_nil_iff.1 h2).1
/-- load -/
theorem Stp.loadAgg {P : Program} {o : Oper} {e : Env} {M : Mem} {ty : TypeId} {x : Operand} {n off sz : Nat} {b : Bk} (ho : o.op = .load ty x) (hx : rd e x = some (true, .c (.p n off))) (hb : M.get n = some b)
    (ha : aggOf P ty = some true) (hs : szOf P ty = sz) (h0 : sz ≠ 0) (hl : off + sz ≤ b.cells.length) : Stp P o e M (.agg ((b.cells.drop off).take sz)) [] := by
  refine Stp.read fun S w0 β M' a w hsub hrel hop => ?_
  have he := hop x (by simp [ho, Op.operands]) _ hx
  have hr2 := rangeAt_sub (hrel.range hsub hb) off sz
  have hlen : ((b.cells.map (Cv.g β)).drop off |>.take sz).length = sz := by simp; omega
  unfold aggOf at ha
  cases hu : P.underlying ty with
  | none => simp [hu] at ha
  | some d =>
    have hd : d.isRow = true := by cases d <;> simp_all
    simp only [gv, V.g, Cv.g, cond_true] at he
    have hld := run_loadVar_mid (P := P) w (β n).blk ((β n).org + off) ty _ d hr2 hu hd (by rw [hlen]; exact info_of_sz hs h0)
    unfold execOp
    simp only [ho, he, Instr.loadAt, Instr.sureAddr, Sem.run_bind, Sem.run_pure, Result.andThen_ok, hld]
    simp [V.g, List.map_take, List.map_drop]
theorem run_isAgg_no {P : Program} {ty : TypeId} (ha : aggOf P ty = some false) (w : World) : (isAgg ty).run P w = .ok false w := by
  unfold aggOf at ha
  cases hu : P.underlying ty with
  | none => simp [hu] at ha
  | some d =>
    unfold isAgg
    rw [Sem.run_bind, run_underlying hu w]
    cases d <;> simp_all
theorem Stp.loadOne {P : Program} {o : Oper} {e : Env} {M : Mem} {ty : TypeId} {x : Operand} {n off : Nat} {b : Bk} {c : Cv} (ho : o.op = .load ty x) (hx : rd e x = some (true, .c (.p n off))) (hb : M.get n = some b)
    (ha : aggOf P ty = some false) (hl : b.cells[off]? = some c) : Stp P o e M (.c c) [] := by
  refine Stp.read fun S w0 β M' a w hsub hrel hop => ?_
  have he := hop x (by simp [ho, Op.operands]) _ hx
  have hc := (hrel.range hsub hb) off (c.g β) (by simp [hl])
  simp only [gv, V.g, Cv.g, cond_true] at he
  unfold execOp
  simp only [ho, he, Instr.loadAt, Instr.sureAddr, Sem.run_bind, Sem.run_pure, Result.andThen_ok, loadVar, run_isAgg_no ha, Bool.false_eq_true, if_false, run_load, hc, Sem.run_ite, V.g]

/-- fieldAddr -/
theorem Stp.fieldAddr {P : Program} {o : Oper} {e : Env} {M : Mem} {s : TypeId} {x : Operand} {f n off k : Nat} (ho : o.op = .fieldAddr s x f) (hx : rd e x = some (true, .c (.p n off)))
    (hk : offOf P s f = some k) : Stp P o e M (.c (.p n (off + k))) [] := by
  refine Stp.pure fun β a hop w => ?_
  have he := hop x (by simp [ho, Op.operands]) _ hx
  simp only [gv, V.g, Cv.g, cond_true] at he
  unfold offOf at hk
  cases hu : P.underlying s with
  | none => simp [hu] at hk
  | some d =>
    cases d <;> simp [hu] at hk
    rename_i fs
    cases hf : fs[f]? with
    | none => simp [hf] at hk
    | some fd =>
      simp [hf] at hk
      obtain ⟨hsz, rfl⟩ := hk
      unfold execOp
      have hs := run_sizeOf' (P := P) (t := fd.type) rfl hsz
      simp [ho, he, Instr.fieldAt, run_underlying hu, hf, Instr.sureAddr, fieldPlace, hs, hsz, V.g, Cv.g, Addr.add_mid, Nat.add_assoc]

/-- New blocks. -/
theorem Rel.alloc {S : Bs} {w0 w : World} {β : Vl} {M : Mem} (h : Rel S w0 β M w) (nm : Nat) (hn : M.get nm = none) (cs : List Cv) (el : TypeId) (hcs : ∀ b', Agree M β b' → cs.map (Cv.g b') = cs.map (Cv.g β)) :
    Rel S w0 (fun k => if k = nm then ⟨w.heap.size, 0, cs.length, false⟩ else β k) ((nm, ⟨false, cs, el⟩) :: M) (w.alloc (.cells (cs.map (Cv.g β)).toArray el)) := by
  have hget : ∀ k, Mem.get ((nm, ⟨false, cs, el⟩) :: M) k = if k = nm then some ⟨false, cs, el⟩ else M.get k := by
    intro k
    simp only [Mem.get]
    by_cases hk : k = nm
    · subst hk; simp
    · have : (nm == k) = false := by simp; exact fun hh => hk hh.symm
      simp [this, hk]
  have hne : ∀ k b, M.get k = some b → k ≠ nm := by rintro k b hk rfl; rw [hn] at hk; cases hk
  have hblk : ∀ i, i < w.heap.size → (w.alloc (.cells (cs.map (Cv.g β)).toArray el)).heap[i]? = w.heap[i]? := fun i hi => Below.heap_alloc w _ i hi
  refine ⟨⟨h.fr.os, h.fr.tape, h.fr.output, Nat.le_trans h.fr.size (by simp), fun b hS hb => ?_⟩, ⟨fun β' hag n b hb => ?_, fun n b hb hu => ?_, fun n m b b' hb hb' hnm hr hlv hu hu' => ?_⟩, fun n b hb hr hu hS => ?_, fun n l hl => ?_⟩
  · rw [hblk b (Nat.lt_of_lt_of_le hb h.fr.size)]; exact h.fr.old b hS hb
  · have hag0 : Agree M β β' := fun k hk => by
      have := hag k (by rw [hget]; split <;> simp_all)
      obtain ⟨b, hb⟩ := Option.isSome_iff_exists.1 hk
      rw [this]; exact if_neg (hne k b hb)
    rw [hget] at hb
    split at hb
    · rename_i hk
      subst hk
      simp at hb
      subst hb
      have hl : β' n = ⟨w.heap.size, 0, cs.length, false⟩ := by have := hag n (by rw [hget]; simp); simpa using this
      unfold BkOk
      rw [if_neg (by simp [hl]), if_neg (by simp), hl]
      refine ⟨rfl, [], ?_, by simp⟩
      show (w.alloc _).heap[w.heap.size]? = _
      rw [List.append_nil, hcs β' hag0]
      show (w.heap.push _)[w.heap.size]? = _
      simp
    · have hold := h.mem.ok β' hag0 n b hb
      cases hu : (β n).nul with
      | true =>
        have hβ := hag0 n (by simp [hb])
        unfold BkOk at hold ⊢
        rw [if_pos (by rw [hβ]; exact hu)] at hold ⊢
        exact hold
      | false =>
        refine hold.same ?_
        rw [hblk _ ?_]
        rw [hag0 n (by simp [hb])]
        exact h.mem.there n b hb hu
  · rw [hget] at hb
    split at hb
    · rename_i hk; simp [hk]
    · rename_i hk
      simp only [if_neg hk] at hu ⊢
      exact Nat.lt_of_lt_of_le (h.mem.there n b hb hu) (by simp)
  · rw [hget] at hb hb'
    split at hb
    · rename_i hk
      split at hb'
      · rename_i hk'; omega
      · rename_i hk'
        simp only [if_pos hk, if_neg hk'] at hu' ⊢
        have := h.mem.there m b' hb' hu'
        omega
    · rename_i hk
      split at hb'
      · rename_i hk'
        simp only [if_pos hk', if_neg hk] at hu ⊢
        have := h.mem.there n b hb hu
        omega
      · rename_i hk'
        simp only [if_neg hk', if_neg hk] at hu hu' ⊢
        exact h.mem.apart n m b b' hb hb' hnm hr hlv hu hu'
  · rw [hget] at hb
    split at hb
    · rename_i hk; simp only [if_pos hk]; exact h.fr.size
    · rename_i hk
      simp only [if_neg hk] at hS hu ⊢
      exact h.own n b hb hr hu hS
  · obtain ⟨p1, p2⟩ := h.pin n l hl
    have hnn : n ≠ nm := by rintro rfl; rw [hn] at p1; cases p1
    exact ⟨by rw [hget, if_neg hnn]; exact p1, by simp only [if_neg hnn]; exact p2⟩
theorem Stp.new {P : Program} {o : Oper} {e : Env} {M : Mem} (nm : Nat) (cs : List Cv) (el : TypeId)
    (hop : ∀ β M' (a : Act), OpOk β M' e o a → (∀ b', Agree M' β b' → cs.map (Cv.g b') = cs.map (Cv.g β)) ∧ ∀ w, (execOp a.eval o).run P w = .ok (.value (.pointer (some ⟨w.heap.size, 0, none⟩))) (w.alloc (.cells (cs.map (Cv.g β)).toArray el))) (hn : M.get nm = none) :
    Stp P o e M (.c (.p nm 0)) [(nm, ⟨false, cs, el⟩)] := by
  intro S w0 β M' a w _ hfr hrel hok K Q hk
  obtain ⟨h1, h2⟩ := hop β M' a hok
  have hn' : M'.get nm = none := by
    rcases hfr nm (by simp [Mem.get]) with h | h
    · rw [hn] at h; cases h
    · exact h
  unfold Oper.wp
  rw [h2 w]
  refine hk (fun k => if k = nm then ⟨w.heap.size, 0, cs.length, false⟩ else β k) _ _ (fun k hk' => ?_) (hrel.alloc nm hn' cs el h1) (fun β'' hag => ?_)
  · by_cases hkk : k = nm
    · subst hkk; rw [hn'] at hk'; cases hk'
    · simp [hkk]
  · have := hag nm (by simp [Mem.get])
    simp [V.g, Cv.g, this]
/-- box -/
theorem Stp.box {P : Program} {o : Oper} {e : Env} {M : Mem} (nm : Nat) {el : TypeId} {x : Operand} {v : V} (ho : o.op = .box el x) (hx : rd e x = some (true, v)) (hv : v.ok1 = true) (hn : M.get nm = none) :
    Stp P o e M (.c (.p nm 0)) [(nm, ⟨false, v.cells, el⟩)] := by
  refine Stp.new nm _ _ (fun β M' a hok => ?_) hn
  have he : ∀ b', Agree M' β b' → a.eval x = v.g b' := fun b' hb => by have := hok b' hb x (by simp [ho, Op.operands]) _ hx; simpa [gv] using this
  have hc : ∀ b', (v.g b').cells = (v.cells.map (Cv.g b')).toArray := fun b' => V.cells_g hv b'
  refine ⟨fun b' hb => ?_, fun w => ?_⟩
  · have := congrArg Value.cells ((he b' hb).symm.trans (he β (Agree.refl _ _)))
    rw [hc, hc] at this
    simpa using this
  · unfold execOp
    simp [ho, he β (Agree.refl _ _), Instr.box, newVar, newRow, hc]
/-- alloc -/
theorem Stp.alloc {P : Program} {o : Oper} {e : Env} {M : Mem} (nm : Nat) {el : TypeId} {zs : List Value} (ho : o.op = .alloc el) (hz : zeroOf P el = some zs) (hn : M.get nm = none) :
    Stp P o e M (.c (.p nm 0)) [(nm, ⟨false, zs.map .v, el⟩)] := by
  refine Stp.new nm _ _ (fun β M' a hok => ⟨fun _ _ => by simp [Function.comp_def, Cv.g], fun w => ?_⟩) hn
  unfold zeroOf at hz
  cases hi : P.info? el with
  | none => simp [hi] at hz
  | some i =>
    simp only [hi] at hz
    cases hzz : i.zero with
    | none => simp [hzz] at hz
    | some z =>
      simp only [hzz] at hz
      split at hz <;> simp at hz
      subst hz
      unfold execOp
      simp [ho, Instr.alloc, zeroValue, typeInfo, hi, hzz, newVar, newRow, Function.comp_def, Cv.g]
/-! store -/
def setL {α : Type} : List α → Nat → List α → List α
  | l, _, [] => l
  | l, o, v :: r => setL (l.set o v) (o + 1) r
theorem setL_length {α : Type} (vs : List α) : ∀ (l : List α) (o : Nat), (setL l o vs).length = l.length := by
  induction vs with
  | nil => intro l o; rfl
  | cons v r ih => intro l o; simp [setL, ih]
theorem setL_map {α β : Type} (f : α → β) (vs : List α) : ∀ (l : List α) (o : Nat), setL (l.map f) o (vs.map f) = (setL l o vs).map f := by
  induction vs with
  | nil => intro l o; rfl
  | cons v r ih => intro l o; simp only [List.map_cons, setL]; rw [← ih, List.map_set]
theorem setL_append {α : Type} (vs : List α) : ∀ (l j : List α) (o : Nat), o + vs.length ≤ l.length → setL (l ++ j) o vs = setL l o vs ++ j := by
  induction vs with
  | nil => intro l j o _; rfl
  | cons v r ih =>
    intro l j o h
    simp only [List.length_cons] at h
    simp only [setL]
    rw [List.set_append_left _ _ (by omega)]
    exact ih _ _ _ (by simp; omega)
theorem heap_setCells_other (b : Nat) : ∀ (vs : List Value) (o : Nat) (w : World) (k : Nat), k ≠ b → (w.setCells b o vs).heap[k]? = w.heap[k]?
  | [], _, _, _, _ => rfl
  | v :: r, o, w, k, h => by
    rw [World.setCells, heap_setCells_other b r (o + 1) _ k h]
    exact Below.heap_setCell w ⟨b, o, none⟩ v k h
theorem heap_setCells_same (b : Nat) : ∀ (vs : List Value) (o : Nat) (w : World) (l : List Value) (el : TypeId) (fz : Nat × Nat), w.heap[b]? = some (.cells l.toArray el fz) → (w.setCells b o vs).heap[b]? = some (.cells (setL l o vs).toArray el fz)
  | [], _, _, _, _, _, h => h
  | v :: r, o, w, l, el, fz, h => by
    rw [World.setCells]
    refine heap_setCells_same b r (o + 1) _ (l.set o v) el fz ?_
    simp only [World.setCell, Array.getElem?_modify, if_true, h, Option.map_some]
    simp
theorem setCells_same (b : Nat) : ∀ (vs : List Value) (o : Nat) (w : World), (w.setCells b o vs).os = w.os ∧ (w.setCells b o vs).tape = w.tape ∧ (w.setCells b o vs).output = w.output ∧ (w.setCells b o vs).heap.size = w.heap.size
  | [], _, _ => ⟨rfl, rfl, rfl, rfl⟩
  | v :: r, o, w => by
    have := setCells_same b r (o + 1) (w.setCell ⟨b, o, none⟩ v)
    rw [World.setCells]
    exact ⟨this.1, this.2.1, this.2.2.1, this.2.2.2.trans (by simp [World.setCell])⟩
theorem run_storeVar' {P : Program} (w : World) (b o : Nat) (ty : TypeId) (v : Value) (ht : w.there b o v.cells.size) (hi : (P.info? ty).map (·.size) = some v.cells.size) (h1 : ∀ x ∈ v.cells.toList, x.oneCell' = true) :
    (storeVar ty ⟨b, o, none⟩ v).run P w = .ok () (w.setCells b o v.cells.toList) := by
  have := run_storeCells_cells (P := P) b o v.cells.toList 0 w (fun j hj => by simpa using (ht j (by simpa using hj)).1) (fun j hj => by simpa using (ht j (by simpa using hj)).2) h1
  cases hq : P.info? ty with
  | none => simp [hq] at hi
  | some i =>
    have hs : v.cells.size = i.size := by simp [hq] at hi; omega
    simp only [Nat.add_zero] at this
    simp [storeVar, sizeOf, typeInfo, hq, hs, this]

theorem Rel.store {S : Bs} {w0 w : World} {β : Vl} {M : Mem} (h : Rel S w0 β M w) {n : Nat} {b : Bk} (hb : M.get n = some b) (hr : b.ro = false) {off : Nat} {cs : List Cv} (hl : off + cs.length ≤ b.cells.length) (hnu : (β n).nul = false)
    (hcs : ∀ b', Agree M β b' → cs.map (Cv.g b') = cs.map (Cv.g β)) :
    Rel S w0 β ((n, ⟨false, setL b.cells off cs, b.elem⟩) :: M) (w.setCells (β n).blk off (cs.map (Cv.g β))) := by
  have hget : ∀ k, Mem.get ((n, ⟨false, setL b.cells off cs, b.elem⟩) :: M) k = if k = n then some ⟨false, setL b.cells off cs, b.elem⟩ else M.get k := by
    intro k
    simp only [Mem.get]
    by_cases hk : k = n
    · subst hk; simp
    · have : (n == k) = false := by simp; exact fun hh => hk hh.symm
      simp [this, hk]
  have hsm := setCells_same (β n).blk (cs.map (Cv.g β)) off w
  have hoth := fun k => heap_setCells_other (β n).blk (cs.map (Cv.g β)) off w k
  refine ⟨⟨hsm.1.trans h.fr.os, hsm.2.1.trans h.fr.tape, hsm.2.2.1.trans h.fr.output, by rw [hsm.2.2.2]; exact h.fr.size, fun k hS hk => ?_⟩, ⟨fun β' hag m b' hb' => ?_, fun m b' hb' hu => ?_, fun m m' b1 b2 h1 h2 hne hro hlv hu hu' => ?_⟩, fun m b' hb' hro hu hS => ?_, fun m l hl => ⟨by rw [hget]; split <;> simp [(h.pin m l hl).1], (h.pin m l hl).2⟩⟩
  · rw [hoth k ?_]
    · exact h.fr.old k hS hk
    · rintro rfl
      have := h.own n b hb hr hnu hS
      omega
  · have hag0 : Agree M β β' := fun k hk => hag k (by rw [hget]; split <;> simp_all)
    rw [hget] at hb'
    split at hb'
    · rename_i hk
      subst hk
      simp at hb'
      subst hb'
      have hβ : β' m = β m := hag0 m (by simp [hb])
      have hold := h.mem.ok β' hag0 m b hb
      unfold BkOk at hold ⊢
      rw [if_neg (by simp [hβ, hnu]), if_neg (by simp [hr]), hβ] at hold
      rw [if_neg (by simp [hβ, hnu]), if_neg (by simp), hβ]
      obtain ⟨ho, junk, hh, hz⟩ := hold
      refine ⟨ho, junk, ?_, by simp [setL_length]; exact hz⟩
      rw [heap_setCells_same _ _ _ _ _ _ _ hh]
      rw [← hcs β' hag0, setL_append _ _ _ _ (by simpa using hl), setL_map]
    · rename_i hk
      have hold := h.mem.ok β' hag0 m b' hb'
      have hβ := hag0 m (by simp [hb'])
      cases hu : (β m).nul with
      | true =>
        unfold BkOk at hold ⊢
        rw [if_pos (by rw [hβ]; exact hu)] at hold ⊢
        exact hold
      | false =>
        by_cases hlv : b'.lv
        · refine hold.same (hoth _ ?_)
          rw [hβ]
          exact fun hh => h.mem.apart n m b b' hb hb' (fun hh' => hk hh'.symm) hr hlv hnu hu hh.symm
        · unfold Bk.lv at hlv
          simp only [not_or, Bool.not_eq_false, ne_eq, Classical.not_not] at hlv
          have hsz := hold.siz
          unfold BkOk
          rw [if_neg (by rw [hβ]; simp [hu]), if_pos hlv.1, hlv.2]
          exact ⟨fun j v hj => by simp at hj, by simp⟩
  · rw [hsm.2.2.2]
    rw [hget] at hb'
    split at hb'
    · rename_i hk; rw [hk]; exact h.mem.there n b hb hnu
    · exact h.mem.there m b' hb' hu
  · rw [hget] at h1 h2
    split at h1
    · rename_i hk
      split at h2
      · omega
      · rw [hk]; exact h.mem.apart n m' b b2 hb h2 (by omega) hr hlv hnu hu'
    · split at h2
      · rename_i hk
        rw [hk]; exact h.mem.apart m n b1 b h1 hb (by omega) hro (.inl hr) hu hnu
      · exact h.mem.apart m m' b1 b2 h1 h2 hne hro hlv hu hu'
  · rw [hget] at hb'
    split at hb'
    · rename_i hk; rw [hk] at hS ⊢; exact h.own n b hb hr hnu hS
    · exact h.own m b' hb' hro hu hS
theorem Stp.store {P : Program} {o : Oper} {e : Env} {M : Mem} {ty : TypeId} {x y : Operand} {n off sz : Nat} {b : Bk} {v : V} (ho : o.op = .store ty x y) (hx : rd e x = some (true, .c (.p n off))) (hy : rd e y = some (true, v))
    (hb : M.get n = some b) (hr : b.ro = false) (hv : v.ok1 = true) (h1 : v.cells.all Cv.one = true) (hs : szOf P ty = sz) (h0 : sz ≠ 0) (hz : v.cells.length = sz) (hl : off + sz ≤ b.cells.length) (hd : o.dst = none) :
    Stp P o e M (.agg []) [(n, ⟨false, setL b.cells off v.cells, b.elem⟩)] := by
  intro S w0 β M' a w hsub _ hrel hok K Q hk
  obtain ⟨b', hb', hwk⟩ := hsub n b hb
  obtain rfl : b = b' := by rcases hwk with h | h; exact h; rw [hr] at h; exact absurd h.1 (by simp)
  have hbk := hrel.mem.ok β (Agree.refl _ _) n b hb'
  have hnu : (β n).nul = false := by
    cases hu : (β n).nul with
    | false => rfl
    | true =>
      have := hbk.nul_cells hu
      rw [this] at hl; simp at hl; omega
  have horg : (β n).org = 0 := by unfold BkOk at hbk; rw [if_neg (by simp [hnu]), if_neg (by simp [hr])] at hbk; exact hbk.1
  have hex : a.eval x = .pointer (some ⟨(β n).blk, off, none⟩) := by have := hok β (Agree.refl _ _) x (by simp [ho, Op.operands]) _ hx; simpa [gv, V.g, Cv.g, horg] using this
  have hey : ∀ b', Agree M' β b' → a.eval y = v.g b' := fun b' hb => by have := hok b' hb y (by simp [ho, Op.operands]) _ hy; simpa [gv] using this
  have hc : ∀ b', (v.g b').cells = (v.cells.map (Cv.g b')).toArray := fun b' => V.cells_g hv b'
  have hsz : (v.g β).cells.size = sz := by rw [hc]; simp [hz]
  have hth : w.there (β n).blk off (v.g β).cells.size := by
    intro j hj
    rw [hsz] at hj
    have hrg := hbk.range
    rw [horg] at hrg
    have hlt : off + j < b.cells.length := by omega
    constructor
    · have := hrg (off + j) ((b.cells[off + j]).g β) (by simp [hlt])
      rw [Nat.zero_add] at this
      rw [this]; rfl
    · unfold BkOk at hbk
      rw [if_neg (by simp [hnu]), if_neg (by simp [hr])] at hbk
      obtain ⟨_, junk, hh, _⟩ := hbk
      simp [World.frozen?, hh]
  have hrun := run_storeVar' (P := P) w (β n).blk off ty (v.g β) hth (by rw [hsz]; exact info_of_sz hs h0) (by
    rw [hc]
    intro z hz'
    simp at hz'
    obtain ⟨c, hcm, rfl⟩ := hz'
    exact Cv.one_g (by simpa using List.all_eq_true.1 h1 c hcm) β)
  unfold Oper.wp execOp
  simp only [ho, hex, hey β (Agree.refl _ _), Instr.storeAt, Instr.sureAddr, Sem.run_bind, Sem.run_pure, Result.andThen_ok, hrun]
  simp only [Oper.upon]
  have hst := hrel.store hb' hr (off := off) (cs := v.cells) (by omega) hnu (fun b' hag => by
    have := congrArg Value.cells ((hey b' hag).symm.trans (hey β (Agree.refl _ _)))
    rw [hc, hc] at this
    simpa using this)
  rw [hc]
  have hput : ∀ u u', a.put o.dst u = a.put o.dst u' := fun u u' => by simp [hd, Act.put]
  rw [hput undef (.agg #[])]
  exact hk β _ _ (Agree.refl _ _) hst (fun _ _ => rfl)
/-! ### Calls -/
def Enters (P : Program) (f : FuncId) : Prop := ∀ args w, (callFunc f args).run P w = .ok (.enter f args) w
/-- THE CONTRACT OF A FUNCTION: called with 'args' where the memory reads M it returns v, and then N besides. -/
def CallOk (P : Program) (f : FuncId) (args : List V) (M : Mem) (v : V) (N : Mem) : Prop :=
  Enters P f ∧ (∀ n b, N.get n = some b → M.get n = none → b.ro = false) ∧ (∀ n b b', N.get n = some b → M.get n = some b' → b'.ro = false) ∧
  ∀ β w, MemOk β M w → Calls P f (args.map (V.g β)).toArray w fun en w' =>
    ∃ β', Agree M β β' ∧ (∀ β'', Agree (N ++ M) β' β'' → en = .returned (v.g β'')) ∧ MemOk β' (N ++ M) w' ∧ Fr (fun k => ∀ n b, M.get n = some b → b.ro = false → (β n).nul = false → k ≠ (β n).blk) w w' ∧
      (∀ n, (N.get n).isSome = true → M.get n = none → (β' n).nul = false → (w.heap.size ≤ (β' n).blk ∨ ∃ k b c, M.get k = some b ∧ b.ro = false ∧ (β k).nul = false ∧ N.get k = some c ∧ ¬ c.lv ∧ (β' n).blk = (β k).blk))

def ClM (M : Mem) : Prop := ∀ β β', Agree M β β' → ∀ n b, M.get n = some b → b.cells.map (Cv.g β') = b.cells.map (Cv.g β)
def ClV (M : Mem) (v : V) : Prop := ∀ β β', Agree M β β' → v.g β' = v.g β
theorem Wk.trans {a b c : Bk} (h : Wk a b) (k : Wk b c) : Wk a c := by
  rcases h with rfl | ⟨h1, tl, h2⟩
  · exact k
  · rcases k with rfl | ⟨k1, tl', k2⟩
    · exact .inr ⟨h1, tl, h2⟩
    · exact .inr ⟨h1, tl ++ tl', by rw [k2, h2, List.append_assoc]⟩
theorem Sub.trans {a b c : Mem} (h : Sub a b) (k : Sub b c) : Sub a c := fun n x hx => by
  obtain ⟨y, hy, h1⟩ := h n x hx
  obtain ⟨z, hz, h2⟩ := k n y hy
  exact ⟨z, hz, h1.trans h2⟩
theorem BkOk.wk {β : Vl} {n : Nat} {b b' : Bk} {w : World} (h : BkOk β n b' w) (hw : Wk b b') : BkOk β n b w := by
  rcases hw with rfl | ⟨h1, tl, h2⟩
  · exact h
  · have hr := h.range
    have hs := h.siz
    cases hu : (β n).nul with
    | true =>
      have hc := h.nul_cells hu
      rw [hc] at h2
      unfold BkOk
      rw [if_pos hu]
      exact (List.append_eq_nil_iff.1 h2.symm).1
    | false =>
      unfold BkOk
      rw [if_neg (by simp [hu]), if_pos h1]
      rw [h2] at hr hs
      refine ⟨fun j v hj => hr j v ?_, by simp at hs; omega⟩
      rw [List.map_append, List.getElem?_append_left (List.getElem?_eq_some_iff.1 hj).1]
      exact hj
theorem BkOk.cells {β β' : Vl} {n : Nat} {b : Bk} {w : World} (h : BkOk β n b w) (hn : β' n = β n) (hc : b.cells.map (Cv.g β') = b.cells.map (Cv.g β)) : BkOk β' n b w := by
  unfold BkOk at *
  rw [hn, hc]
  exact h
theorem MemOk.sub {β : Vl} {M M' : Mem} {w : World} (h : MemOk β M' w) (hs : Sub M M') (hc : ClM M) : MemOk β M w := by
  refine ⟨fun β' hag n b hb => ?_, fun n b hb => ?_, fun n m b b' hb hb' hne hr hlv => ?_⟩
  · obtain ⟨b', hb', hw⟩ := hs n b hb
    exact ((h.ok β (Agree.refl _ _) n b' hb').wk hw).cells (hag n (by simp [hb])) (hc β β' hag n b hb)
  · obtain ⟨b', hb', _⟩ := hs n b hb
    exact h.there n b' hb'
  · obtain ⟨c, hc1, hw1⟩ := hs n b hb
    obtain ⟨c', hc2, hw2⟩ := hs m b' hb'
    refine h.apart n m c c' hc1 hc2 hne ?_ (hw2.lv hlv)
    rcases hw1 with rfl | ⟨h1, _⟩
    · exact hr
    · rw [hr] at h1; cases h1

theorem Stp.callCore {P : Program} {o : Oper} {e : Env} {M M1 N : Mem} {f : FuncId} {vs : List V} {v : V}
    (hrun : ∀ β M' (a : Act) w, OpOk β M' e o a → Enters P f → (execOp a.eval o).run P w = .ok (.enter f (vs.map (V.g β)).toArray) w) (hc : CallOk P f vs M1 v N) (hs : Sub M1 M) (hcl : ClM M1) (hfr : Fresh N M1 M) : Stp P o e M v N := by
  intro S w0 β M' a w hsub hfr' hrel hok K Q hk
  obtain ⟨hent, hNrw, hU, hcall⟩ := hc
  have hs' : Sub M1 M' := hs.trans hsub
  have hfresh : ∀ k, (N.get k).isSome = true → (M'.get k).isSome = true → (M1.get k).isSome = true := by
    intro k h1 h2
    rcases hfr' k h1 with h | h
    · rcases hfr k h1 with h3 | h3
      · exact h3
      · rw [h3] at h; cases h
    · rw [h] at h2; cases h2
  have hC := hcall β w (hrel.mem.sub hs' hcl)
  unfold Oper.wp
  rw [hrun β M' a w hok hent, Oper.upon_enter]
  refine hC.mono ?_
  rintro en w' ⟨β', hag, hen, hmem, hfrm, hnew⟩
  rw [hen β' (Agree.refl _ _)]
  show K _ _
  -- the new valuation
  have hβ2N : ∀ k, (N.get k).isSome = true → (fun k => if (N.get k).isSome = true then β' k else β k) k = β' k := fun k hk => if_pos hk
  have hβ2M : ∀ k, (M'.get k).isSome = true → (fun k => if (N.get k).isSome = true then β' k else β k) k = β k := fun k hk => by
    by_cases h : (N.get k).isSome = true
    · simp only [h, if_true]; exact hag k (hfresh k h hk)
    · simp only [h]; rfl
  generalize (fun k => if (N.get k).isSome = true then β' k else β k) = β2 at hβ2N hβ2M
  have hM1 : ∀ k b, M1.get k = some b → β' k = β k := fun k b hb => hag k (by simp [hb])
  have hM1' : ∀ k b, M1.get k = some b → (M'.get k).isSome = true := fun k b hb => by obtain ⟨b', hb', _⟩ := hs' k b hb; simp [hb']
  have hrw : ∀ k b, M1.get k = some b → b.ro = false → M'.get k = some b := fun k b hb hr => by
    obtain ⟨b', hb', hw⟩ := hs' k b hb
    rcases hw with rfl | ⟨h1, _⟩
    · exact hb'
    · rw [hr] at h1; cases h1
  have hgetNM : ∀ k b, (N ++ M' : Mem).get k = some b → N.get k = some b ∨ (N.get k = none ∧ M'.get k = some b) := fun k b hb => by
    rw [Mem.get_append] at hb
    cases h : N.get k with
    | none => rw [h] at hb; exact .inr ⟨rfl, by simpa using hb⟩
    | some c => rw [h] at hb; exact .inl (by simpa using hb)
  have hNget : ∀ (X : Mem) k b, N.get k = some b → (N ++ X : Mem).get k = some b := fun X k b hb => by rw [Mem.get_append, hb]; rfl
  have hXget : ∀ (X : Mem) k b, N.get k = none → X.get k = some b → (N ++ X : Mem).get k = some b := fun X k b hb hx => by rw [Mem.get_append, hb, hx]; rfl
  have hagree1 : ∀ β'', Agree (N ++ M') β2 β'' → Agree (N ++ M1) β' β'' := fun β'' h k hk => by
    rw [Mem.get_append] at hk
    cases hN : N.get k with
    | some c =>
      rw [h k (by rw [hNget _ k c hN]; rfl)]
      exact hβ2N k (by simp [hN])
    | none =>
      rw [hN] at hk
      obtain ⟨c, hc⟩ := Option.isSome_iff_exists.1 hk
      simp at hc
      have hk' := hM1' k c hc
      obtain ⟨d, hd⟩ := Option.isSome_iff_exists.1 hk'
      rw [h k (by rw [hXget _ k d hN hd]; rfl), hβ2M k hk', hM1 k c hc]
  have hagree0 : ∀ β'', Agree (N ++ M') β2 β'' → Agree M' β β'' := fun β'' h k hk => by
    rw [h.right k hk, hβ2M k hk]
  have hunch : ∀ n b, M'.get n = some b → (∀ c, M1.get n = some c → c.ro = true) → ∀ β'', β'' n = β n → BkOk β'' n b w → BkOk β'' n b w' := fun n b hb hno β'' hbn hold => by
    cases hu : (β n).nul with
    | true =>
      unfold BkOk at hold ⊢
      rw [if_pos (by rw [hbn]; exact hu)] at hold ⊢
      exact hold
    | false =>
      by_cases hlv : b.lv
      · refine hold.same ?_
        rw [hbn]
        refine hfrm.old _ ?_ (hrel.mem.there n b hb hu)
        intro m c hm hr hum hh
        have hmm := hrw m c hm hr
        by_cases hnm : m = n
        · subst hnm; have := hno c hm; rw [hr] at this; cases this
        · exact hrel.mem.apart m n c b hmm hb hnm hr hlv hum hu hh.symm
      · unfold Bk.lv at hlv
        simp only [not_or, Bool.not_eq_false, ne_eq, Classical.not_not] at hlv
        unfold BkOk
        rw [if_neg (by rw [hbn]; simp [hu]), if_pos hlv.1, hlv.2]
        exact ⟨fun j v hj => by simp at hj, by simp⟩
  refine hk β2 _ w' (fun k hk => hβ2M k hk) ⟨⟨hfrm.os.trans hrel.fr.os, hfrm.tape.trans hrel.fr.tape, hfrm.output.trans hrel.fr.output, Nat.le_trans hrel.fr.size hfrm.size, fun b hS hb => ?_⟩, ⟨fun β'' hag'' n b hb => ?_, fun n b hb hu => ?_, fun n m b c hb hc hne hr hlv hu hu' => ?_⟩, fun n b hb hr hu hS => ?_, fun n l hl => ⟨by rw [Mem.get_append]; cases N.get n <;> simp [(hrel.pin n l hl).1], (hβ2M n (hrel.pin n l hl).1).trans (hrel.pin n l hl).2⟩⟩ (fun β'' hag'' => ?_)
  · rw [hfrm.old b ?_ (Nat.lt_of_lt_of_le hb hrel.fr.size)]
    · exact hrel.fr.old b hS hb
    · rintro n c hn hr hu rfl
      have := hrel.own n c (hrw n c hn hr) hr hu hS
      omega
  · rcases hgetNM n b hb with h | ⟨h, h'⟩
    · exact hmem.ok β'' (hagree1 β'' hag'') n b (hNget _ n b h)
    · have hbn : β'' n = β n := hagree0 β'' hag'' n (by simp [h'])
      cases h1 : M1.get n with
      | none => exact hunch n b h' (fun c hc => by rw [h1] at hc; cases hc) β'' hbn (hrel.mem.ok β'' (hagree0 β'' hag'') n b h')
      | some c =>
        cases hr : c.ro with
        | false =>
          have := hrw n c h1 hr
          rw [h'] at this
          cases this
          exact hmem.ok β'' (hagree1 β'' hag'') n _ (hXget _ n _ h h1)
        | true => exact hunch n b h' (fun d hd => by rw [h1] at hd; cases hd; exact hr) β'' hbn (hrel.mem.ok β'' (hagree0 β'' hag'') n b h')
  · rcases hgetNM n b hb with h | ⟨h, h'⟩
    · rw [hβ2N n (by simp [h])] at hu ⊢
      exact hmem.there n b (hNget _ n b h) hu
    · rw [hβ2M n (by simp [h'])] at hu ⊢
      exact Nat.lt_of_lt_of_le (hrel.mem.there n b h' hu) hfrm.size
  · -- two blocks are apart
    have one : ∀ n m b c, N.get n = some b → (N.get m = none ∧ M'.get m = some c) → c.lv → (β2 n).nul = false → (β2 m).nul = false → (β2 n).blk ≠ (β2 m).blk := by
      rintro n m b c hn ⟨hm0, hm⟩ hlv hu hu'
      have hne : n ≠ m := by rintro rfl; rw [hn] at hm0; cases hm0
      rw [hβ2N n (by simp [hn])] at hu ⊢
      rw [hβ2M m (by simp [hm])] at hu' ⊢
      cases h1 : M1.get n with
      | none =>
        rcases hnew n (by simp [hn]) h1 hu with h | ⟨k, d, x, g1, g2, g3, g4, g5, g6⟩
        · have := hrel.mem.there m c hm hu'
          omega
        · have hkm : k ≠ m := by rintro rfl; rw [g4] at hm0; cases hm0
          rw [g6]
          exact hrel.mem.apart k m d c (hrw k d g1 g2) hm hkm g2 hlv g3 hu'
      | some d =>
        rw [hM1 n d h1] at hu ⊢
        exact hrel.mem.apart n m d c (hrw n d h1 (hU n b d hn h1)) hm hne (hU n b d hn h1) hlv hu hu'
    rcases hgetNM n b hb with h | h
    · rcases hgetNM m c hc with h' | h'
      · rw [hβ2N n (by simp [h])] at hu ⊢
        rw [hβ2N m (by simp [h'])] at hu' ⊢
        exact hmem.apart n m b c (hNget _ n b h) (hNget _ m c h') hne hr hlv hu hu'
      · exact one n m b c h h' hlv hu hu'
    · rcases hgetNM m c hc with h' | h'
      · exact fun hh => one m n c b h' h (.inl hr) hu' hu hh.symm
      · rw [hβ2M n (by simp [h.2])] at hu ⊢
        rw [hβ2M m (by simp [h'.2])] at hu' ⊢
        exact hrel.mem.apart n m b c h.2 h'.2 hne hr hlv hu hu'
  · rcases hgetNM n b hb with h | ⟨h, h'⟩
    · rw [hβ2N n (by simp [h])] at hS hu ⊢
      cases h1 : M1.get n with
      | none =>
        rcases hnew n (by simp [h]) h1 hu with h' | ⟨k, d, x, g1, g2, g3, g4, g5, g6⟩
        · exact Nat.le_trans hrel.fr.size h'
        · rw [g6] at hS ⊢
          exact hrel.own k d (hrw k d g1 g2) g2 g3 hS
      | some d =>
        rw [hM1 n d h1] at hS hu ⊢
        have hd := hU n b d h h1
        exact hrel.own n d (hrw n d h1 hd) hd hu hS
    · rw [hβ2M n (by simp [h'])] at hS hu ⊢
      exact hrel.own n b h' hr hu hS
  · have h1 := hen β' (Agree.refl _ _)
    have h2 := hen β'' (hagree1 β'' hag'')
    rw [h1] at h2
    simpa using h2
theorem call_run1 {P : Program} {o : Oper} {e : Env} {M' : Mem} {f : FuncId} {as : Array Operand} {tys : Array TypeId} {vs : List V} {β : Vl} {a : Act} {w : World} (ho : o.op = .call { callee := .value (.func f), args := as, argTypes := tys })
    (hvs : as.toList.map (rd e) = vs.map fun x => some (true, x)) (hent : Enters P f) (hok : OpOk β M' e o a) : (execOp a.eval o).run P w = .ok (.enter f (vs.map (V.g β)).toArray) w := by
  have hargs : as.map a.eval = (vs.map (V.g β)).toArray := by
    apply Array.toList_inj.1
    simp only [Array.toList_map]
    apply List.ext_getElem?
    intro i
    have hi := congrArg (·[i]?) hvs
    simp only [List.getElem?_map, Array.getElem?_toList] at hi ⊢
    cases hx : as[i]? with
    | none => simp [hx] at hi ⊢; cases hv : vs[i]? <;> simp_all
    | some x =>
      cases hv : vs[i]? with
      | none => simp [hx, hv] at hi
      | some y =>
        simp [hx, hv] at hi
        have hm : x ∈ as := Array.mem_of_getElem? hx
        have := hok β (Agree.refl _ _) x (by simp [ho, Op.operands, Call.operands, hm]) _ hi
        simpa [gv] using this
  rw [← hargs]
  unfold execOp
  have hrs : ((do let d ← resolve a.eval { callee := .value (.func f), args := as, argTypes := tys } o.type; invoke d.target d.args : Sem Next)).run P w = .ok (.enter f (as.map a.eval)) w := by
    simp [resolve, Act.eval, Deferred.ofValue, invoke]
    exact hent _ _
  rw [ho]
  exact hrs
theorem Stp.call {P : Program} {o : Oper} {e : Env} {M M1 N : Mem} {f : FuncId} {as : Array Operand} {tys : Array TypeId} {vs : List V} {v : V} (ho : o.op = .call { callee := .value (.func f), args := as, argTypes := tys })
    (hvs : as.toList.map (rd e) = vs.map fun x => some (true, x)) (hc : CallOk P f vs M1 v N) (hs : Sub M1 M) (hcl : ClM M1) (hfr : Fresh N M1 M) : Stp P o e M v N := by
  exact Stp.callCore (fun β M' a w hok hent => call_run1 ho hvs hent hok) hc hs hcl hfr
/-- The call of a function value. -/
@[reducible] def capV (c : Nat × Nat) : V := .c (.p c.1 c.2)
theorem call_run2 {P : Program} {o : Oper} {e : Env} {M' : Mem} {f : FuncId} {caps : List (Nat × Nat)} {x : Operand} {as : Array Operand} {tys : Array TypeId} {vs : List V} {β : Vl} {a : Act} {w : World} (ho : o.op = .call { callee := .value x, args := as, argTypes := tys })
    (hx : rd e x = some (true, .c (.fn f caps))) (hvs : as.toList.map (rd e) = vs.map fun x => some (true, x)) (hent : Enters P f) (hok : OpOk β M' e o a) : (execOp a.eval o).run P w = .ok (.enter f ((vs ++ caps.map capV).map (V.g β)).toArray) w := by
  have hargs : as.map a.eval = (vs.map (V.g β)).toArray := by
    apply Array.toList_inj.1
    simp only [Array.toList_map]
    apply List.ext_getElem?
    intro i
    have hi := congrArg (·[i]?) hvs
    simp only [List.getElem?_map, Array.getElem?_toList] at hi ⊢
    cases hx : as[i]? with
    | none => simp [hx] at hi ⊢; cases hv : vs[i]? <;> simp_all
    | some x =>
      cases hv : vs[i]? with
      | none => simp [hx, hv] at hi
      | some y =>
        simp [hx, hv] at hi
        have hm : x ∈ as := Array.mem_of_getElem? hx
        have := hok β (Agree.refl _ _) x (by simp [ho, Op.operands, Call.operands, hm]) _ hi
        simpa [gv] using this
  have hf : a.eval x = .func (.func f) #[] (caps.map fun c => ptr β c.1 c.2).toArray := by
    have := hok β (Agree.refl _ _) x (by simp [ho, Op.operands, Call.operands]) _ hx
    simpa [gv, V.g, Cv.g] using this
  have hrs : ((do let d ← resolve a.eval { callee := .value x, args := as, argTypes := tys } o.type; invoke d.target d.args : Sem Next)).run P w = .ok (.enter f ((vs ++ caps.map capV).map (V.g β)).toArray) w := by
    simp only [resolve, hf, Deferred.ofValue, invoke, hargs, Sem.run_bind, Sem.run_pure, Result.andThen_ok]
    rw [hent]
    simp [V.g, Cv.g, ptr, Function.comp_def]
  unfold execOp
  rw [ho]
  exact hrs
theorem Stp.callF {P : Program} {o : Oper} {e : Env} {M M1 N : Mem} {f : FuncId} {caps : List (Nat × Nat)} {x : Operand} {as : Array Operand} {tys : Array TypeId} {vs : List V} {v : V} (ho : o.op = .call { callee := .value x, args := as, argTypes := tys })
    (hx : rd e x = some (true, .c (.fn f caps))) (hvs : as.toList.map (rd e) = vs.map fun x => some (true, x)) (hc : CallOk P f (vs ++ caps.map capV) M1 v N) (hs : Sub M1 M) (hcl : ClM M1) (hfr : Fresh N M1 M) : Stp P o e M v N := by
  exact Stp.callCore (fun β M' a w hok hent => call_run2 ho hx hvs hent hok) hc hs hcl hfr
/-- What has to hold at the end of a body. -/
def RetOk (P : Program) (C : Cx) (fn : Func) (v : V) (NM : Mem) : Prop :=
  (∀ n l, C.S.pin n = some l → (NM.get n).isSome = true) ∧ (∀ β (a : Act) w u, Rel C.S C.w0 β NM w → (∀ β'', Agree NM β β'' → u = v.g β'') → a.defers = [] → (results fn a.tmps).run P w = .ok u w → C.Q .ret a w) ∧ ∀ (a : Act) (w : World), C.Q .ret a w → C.Q .normal a w
def initE : Nat → List V → Env
  | _, [] => []
  | i, x :: r => (i, true, x) :: initE (i + 1) r
theorem initE_get (vs : List V) : ∀ (i t : Nat) (y : Bool × V), (initE i vs).get t = some y → i ≤ t ∧ vs[t - i]? = some y.2 ∧ y.1 = true := by
  induction vs with
  | nil => intro i t y h; cases h
  | cons x r ih =>
    intro i t y h
    simp only [initE, Env.get] at h
    cases hk : (i == t) with
    | true =>
      rw [hk] at h
      simp at h hk
      subst h hk
      simp
    | false =>
      rw [hk] at h
      simp at h hk
      obtain ⟨h1, h2, h3⟩ := ih (i + 1) t y h
      refine ⟨by omega, ?_, h3⟩
      rw [show t - i = (t - (i + 1)) + 1 from by omega]
      simpa using h2
theorem CallOk.intro {P : Program} {f : FuncId} {fn : Func} {body : Code} {args : List V} {M N : Mem} {v : V} (hf : P.funcs[f]? = some fn) (hb : fn.body = some body) (hent : Enters P f) (hnt : args.length ≤ fn.ntmps)
    (hNrw : ∀ n b, N.get n = some b → M.get n = none → b.ro = false) (hU : ∀ n b b', N.get n = some b → M.get n = some b' → b'.ro = false) (hcl : ∀ x ∈ args, ClV M x)
    (h : ∀ C, RetOk P C fn v (N ++ M) → (∀ n l, C.S.pin n = some l → (M.get n).isSome = true) → Sm P fn.ntmps C [.code body] (initE 0 args) M) : CallOk P f args M v N := by
  refine ⟨hent, hNrw, hU, fun β w hm => calls_of_wp hf hb ?_⟩
  let R : Ending → World → Prop := fun en w' =>
    ∃ β', Agree M β β' ∧ (∀ β'', Agree (N ++ M) β' β'' → en = .returned (v.g β'')) ∧ MemOk β' (N ++ M) w' ∧ Fr (fun k => ∀ n b, M.get n = some b → b.ro = false → (β n).nul = false → k ≠ (β n).blk) w w' ∧
      (∀ n, (N.get n).isSome = true → M.get n = none → (β' n).nul = false → (w.heap.size ≤ (β' n).blk ∨ ∃ k b c, M.get k = some b ∧ b.ro = false ∧ (β k).nul = false ∧ N.get k = some c ∧ ¬ c.lv ∧ (β' n).blk = (β k).blk))
  let C : Cx := ⟨⟨fun k => ∀ n b, M.get n = some b → b.ro = false → (β n).nul = false → k ≠ (β n).blk, fun n => if (M.get n).isSome = true then some (β n) else none⟩, w, bodyPost P fn R⟩
  have hret : RetOk P C fn v (N ++ M) := by
    refine ⟨fun n l hl => ?_, fun β' a w' u hrel hu hd hres => ?_, fun _ _ h => h⟩
    · by_cases hh : (M.get n).isSome = true
      · rw [Mem.get_append]; cases N.get n <;> simp [hh]
      · simp [C, hh] at hl
    refine ⟨hd, u, hres, β', fun n hn => ?_, fun β'' hag => by rw [hu β'' hag], hrel.mem, hrel.fr, fun n hn hM hu => ?_⟩
    · exact (hrel.pin n (β n) (if_pos hn)).2
    · obtain ⟨b, hb⟩ := Option.isSome_iff_exists.1 hn
      have hg : (N ++ M : Mem).get n = some b := by rw [Mem.get_append, hb]; rfl
      by_cases hS : C.S.s (β' n).blk
      · exact .inl (hrel.own n b hg (hNrw n b hb hM) hu hS)
      · right
        have hS' : ∃ m c, M.get m = some c ∧ c.ro = false ∧ (β m).nul = false ∧ (β' n).blk = (β m).blk := by
          refine Classical.byContradiction fun hno => hS fun m c hm hr hum hh => hno ⟨m, c, hm, hr, hum, hh⟩
        obtain ⟨m, c, hm, hr, hum, hh⟩ := hS'
        have hm' : ((N ++ M : Mem).get m).isSome = true := by rw [Mem.get_append]; cases N.get m <;> simp [hm]
        obtain ⟨d, hd'⟩ := Option.isSome_iff_exists.1 hm'
        have hp := (hrel.pin m (β m) (if_pos (by simp [hm]))).2
        have hne : n ≠ m := by
          rintro rfl
          rw [hM] at hm; cases hm
        have hlv : ¬ d.lv := fun hlv => hrel.mem.apart n m b d hg hd' hne (hNrw n b hb hM) hlv hu (by rw [hp]; exact hum) (by rw [hp]; exact hh)
        have hNm : N.get m = some d := by
          rw [Mem.get_append] at hd'
          cases hN : N.get m with
          | some x => rw [hN] at hd'; simpa using hd'
          | none => rw [hN, hm] at hd'; simp at hd'; subst hd'; exact absurd (.inl hr) hlv
        exact ⟨m, c, d, hm, hr, hum, hNm, hlv, hh⟩
  refine h C hret (fun n l hl => ?_) β _ w ⟨Fr.refl _ _, hm, fun n b hb hr hu hS => absurd rfl (hS n b hb hr hu), fun n l hl => ?_⟩ ?_ ?_ rfl
  · by_cases hh : (M.get n).isSome = true
    · exact hh
    · simp [C, hh] at hl
  · by_cases hh : (M.get n).isSome = true
    · simp only [C, hh, if_true, Option.some.injEq] at hl
      exact ⟨hh, hl⟩
    · simp [C, hh] at hl
  · intro β' hag t y hy
    obtain ⟨_, h2, h3⟩ := initE_get args 0 t y hy
    simp only [Nat.sub_zero] at h2
    have hlt : t < args.length := (List.getElem?_eq_some_iff.1 h2).1
    obtain ⟨g, x⟩ := y
    simp only at h2 h3
    subst h3
    have hx : x ∈ args := List.mem_of_getElem? h2
    simp only [gv, cond_true, hcl x hx β β' hag]
    rw [List.getElem?_eq_getElem hlt] at h2
    simp only [Option.some.injEq] at h2
    simp [Array.getElem?_append, hlt, h2]
  · simp; omega

/-! ### Other names -/
def Cv.ren (ρ : Nat → Nat) : Cv → Cv
  | .v x => .v x
  | .p n off => .p (ρ n) off
  | .sl n off len esz => .sl (ρ n) off len esz
  | .fn f cs => .fn f (cs.map fun c => (ρ c.1, c.2))
  | .s0 n off => .s0 (ρ n) off
def W.ren (ρ : Nat → Nat) : W → W
  | .c x => .c (x.ren ρ)
  | .agg xs => .agg (xs.map (Cv.ren ρ))
def V.ren (ρ : Nat → Nat) : V → V
  | .c x => .c (x.ren ρ)
  | .agg xs => .agg (xs.map (Cv.ren ρ))
  | .tup xs => .tup (xs.map (W.ren ρ))
def Bk.ren (ρ : Nat → Nat) (b : Bk) : Bk := ⟨b.ro, b.cells.map (Cv.ren ρ), b.elem⟩
def Mem.ren (ρ : Nat → Nat) (M : Mem) : Mem := M.map fun p => (ρ p.1, p.2.ren ρ)
theorem Cv.ren_g (ρ : Nat → Nat) (β : Vl) (x : Cv) : (x.ren ρ).g β = x.g (fun n => β (ρ n)) := by
  cases x with
  | v _ => rfl
  | p _ _ => rfl
  | sl _ _ _ _ => rfl
  | fn f cs => simp [Cv.ren, Cv.g, Function.comp_def, ptr]
  | s0 _ _ => rfl
theorem Cv.ren_gs (ρ : Nat → Nat) (β : Vl) (xs : List Cv) : (xs.map (Cv.ren ρ)).map (Cv.g β) = xs.map (Cv.g fun n => β (ρ n)) := by
  rw [List.map_map]; exact List.map_congr_left fun x _ => Cv.ren_g ρ β x
theorem W.ren_g (ρ : Nat → Nat) (β : Vl) (x : W) : (x.ren ρ).g β = x.g (fun n => β (ρ n)) := by
  cases x with
  | c x => exact Cv.ren_g ρ β x
  | agg xs => simp only [W.ren, W.g, Cv.ren_gs]
theorem V.ren_g (ρ : Nat → Nat) (β : Vl) (x : V) : (x.ren ρ).g β = x.g (fun n => β (ρ n)) := by
  cases x with
  | c x => exact Cv.ren_g ρ β x
  | agg xs => simp only [V.ren, V.g, Cv.ren_gs]
  | tup xs =>
    simp only [V.ren, V.g, List.map_map]
    congr 2
    exact List.map_congr_left fun x _ => W.ren_g ρ β x
theorem BkOk.ren {ρ : Nat → Nat} {β : Vl} {n : Nat} {b : Bk} {w : World} : BkOk β (ρ n) (b.ren ρ) w ↔ BkOk (fun k => β (ρ k)) n b w := by
  unfold BkOk
  simp only [Bk.ren, Cv.ren_gs, List.length_map, List.map_eq_nil_iff]
structure RenOk (ρ : Nat → Nat) (M M' : Mem) : Prop where
  inj : ∀ n m, (M.get n).isSome = true → (M.get m).isSome = true → ρ n = ρ m → n = m
  sub : ∀ n b, M.get n = some b → ∃ b', M'.get (ρ n) = some b' ∧ Wk (b.ren ρ) b'
theorem Bk.ren_lv {ρ : Nat → Nat} {b : Bk} (h : b.lv) : (b.ren ρ).lv := by
  rcases h with h | h
  · exact .inl h
  · exact .inr (by simpa [Bk.ren] using h)
theorem MemOk.ren {ρ : Nat → Nat} {β : Vl} {M M' : Mem} {w : World} (h : MemOk β M' w) (hr : RenOk ρ M M') (hc : ClM M) : MemOk (fun k => β (ρ k)) M w := by
  refine ⟨fun β' hag n b hb => ?_, fun n b hb => ?_, fun n m b b' hb hb' hne hro hlv => ?_⟩
  · obtain ⟨b', hb', hw⟩ := hr.sub n b hb
    have h1 := (h.ok β (Agree.refl _ _) (ρ n) b' hb').wk hw
    exact (BkOk.ren.1 h1).cells (hag n (by simp [hb])) (hc _ β' hag n b hb)
  · obtain ⟨b', hb', _⟩ := hr.sub n b hb
    exact h.there (ρ n) b' hb'
  · obtain ⟨c, hc1, hw1⟩ := hr.sub n b hb
    obtain ⟨c', hc2, hw2⟩ := hr.sub m b' hb'
    refine h.apart (ρ n) (ρ m) c c' hc1 hc2 (fun hh => hne (hr.inj n m (by simp [hb]) (by simp [hb']) hh)) ?_ (hw2.lv (Bk.ren_lv hlv))
    rcases hw1 with h1 | ⟨h1, _⟩
    · rw [← h1]; exact hro
    · exact absurd (h1.symm.trans hro) (by simp)
theorem Rel.ren {S : Bs} {w0 w : World} {ρ : Nat → Nat} {β : Vl} {M M' : Mem} (h : Rel S w0 β M' w) (hr : RenOk ρ M M') (hc : ClM M) (hp : ∀ n l, S.pin n = some l → (M.get n).isSome = true ∧ ρ n = n) : Rel S w0 (fun k => β (ρ k)) M w := by
  refine ⟨h.fr, h.mem.ren hr hc, fun n b hb hro => ?_, fun n l hl => ⟨(hp n l hl).1, ?_⟩⟩
  · obtain ⟨b', hb', hw⟩ := hr.sub n b hb
    refine h.own (ρ n) b' hb' ?_
    rcases hw with h1 | ⟨h1, _⟩
    · rw [← h1]; exact hro
    · exact absurd (h1.symm.trans hro) (by simp)
  · show β (ρ n) = l
    rw [(hp n l hl).2]; exact (h.pin n l hl).2
theorem Mem.ren_get {ρ : Nat → Nat} (hi : ∀ n m, ρ n = ρ m → n = m) : ∀ (M : Mem) (n : Nat), (M.ren ρ).get (ρ n) = (M.get n).map (Bk.ren ρ)
  | [], n => rfl
  | (k, b) :: r, n => by
    have ih := Mem.ren_get hi r n
    simp only [Mem.ren, List.map_cons, Mem.get] at ih ⊢
    by_cases h : k = n
    · subst h; simp
    · have h1 : (k == n) = false := by simpa using h
      have h2 : (ρ k == ρ n) = false := by simp; exact fun hh => h (hi _ _ hh)
      rw [h1, h2]; exact ih
theorem Mem.ren_some {ρ : Nat → Nat} : ∀ (M : Mem) (k : Nat) (b : Bk), (M.ren ρ).get k = some b → ∃ n, k = ρ n ∧ (M.get n).isSome = true
  | [], k, b, h => by cases h
  | (j, c) :: r, k, b, h => by
    simp only [Mem.ren, List.map_cons, Mem.get] at h
    by_cases hk : ρ j = k
    · exact ⟨j, hk.symm, by simp [Mem.get]⟩
    · have h1 : (ρ j == k) = false := by simpa using hk
      rw [h1] at h
      obtain ⟨n, hn, hs⟩ := Mem.ren_some r k b h
      refine ⟨n, hn, ?_⟩
      simp only [Mem.get]
      cases (j == n) <;> simp [hs]
theorem Mem.ren_some' {ρ : Nat → Nat} (hi : ∀ n m, ρ n = ρ m → n = m) {M : Mem} {k : Nat} {b : Bk} (h : (M.ren ρ).get k = some b) : ∃ n c, k = ρ n ∧ M.get n = some c ∧ b = c.ren ρ := by
  obtain ⟨n, rfl, hs⟩ := Mem.ren_some M k b h
  obtain ⟨c, hc⟩ := Option.isSome_iff_exists.1 hs
  rw [Mem.ren_get hi, hc] at h
  simp at h
  exact ⟨n, c, rfl, hc, h.symm⟩
theorem Bk.ren_ro (ρ : Nat → Nat) (b : Bk) : (b.ren ρ).ro = b.ro := rfl
/-- A contract holds under other names too. -/
theorem CallOk.ren {P : Program} {f : FuncId} {args : List V} {M N : Mem} {v : V} {ρ : Nat → Nat} (hi : ∀ n m, ρ n = ρ m → n = m) (h : CallOk P f args M v N) : CallOk P f (args.map (V.ren ρ)) (M.ren ρ) (v.ren ρ) (N.ren ρ) := by
  classical
  obtain ⟨hent, hN, hU, hc⟩ := h
  refine ⟨hent, fun n b hb hb' => ?_, fun n b b' hb hb' => ?_, fun β w hm => ?_⟩
  · obtain ⟨k, c, rfl, hk, rfl⟩ := Mem.ren_some' hi hb
    refine hN k c hk ?_
    rw [Mem.ren_get hi] at hb'
    simpa using hb'
  · obtain ⟨k, c, rfl, hk, rfl⟩ := Mem.ren_some' hi hb
    rw [Mem.ren_get hi] at hb'
    cases hq : M.get k with
    | none => simp [hq] at hb'
    | some d => simp [hq] at hb'; subst hb'; exact hU k c d hk hq
  -- β' over the old names, β over the others
  let up : Vl → Vl → Vl := fun β' β k => if hk : ∃ n, ρ n = k then β' hk.choose else β k
  have hup : ∀ β' β n, up β' β (ρ n) = β' n := by
    intro β' β n
    have hk : ∃ m, ρ m = ρ n := ⟨n, rfl⟩
    simp only [up, dif_pos hk]
    rw [hi _ _ hk.choose_spec]
  have hup' : ∀ β' β, (fun n => up β' β (ρ n)) = β' := fun β' β => funext fun n => hup β' β n
  have hdown : MemOk (fun n => β (ρ n)) M w := by
    refine ⟨fun β' hag n b hb => ?_, fun n b hb => ?_, fun n m b b' hb hb' hne hro hlv => ?_⟩
    · have h1 := hm.ok (up β' β) (fun k hk => by
        obtain ⟨b, hb⟩ := Option.isSome_iff_exists.1 hk
        obtain ⟨n, c, rfl, hn, _⟩ := Mem.ren_some' hi hb
        rw [hup]; exact hag n (by simp [hn])) (ρ n) (b.ren ρ) (by rw [Mem.ren_get hi, hb]; rfl)
      have h2 := BkOk.ren.1 h1
      rw [hup'] at h2
      exact h2
    · exact hm.there (ρ n) (b.ren ρ) (by rw [Mem.ren_get hi, hb]; rfl)
    · exact hm.apart (ρ n) (ρ m) (b.ren ρ) (b'.ren ρ) (by rw [Mem.ren_get hi, hb]; rfl) (by rw [Mem.ren_get hi, hb']; rfl) (fun hh => hne (hi _ _ hh)) hro (Bk.ren_lv hlv)
  have hC := hc _ w hdown
  have hargs : (args.map (V.ren ρ)).map (V.g β) = args.map (V.g fun n => β (ρ n)) := by
    rw [List.map_map]; exact List.map_congr_left fun x _ => V.ren_g ρ β x
  rw [hargs]
  refine hC.mono ?_
  rintro en w' ⟨β', hag, hen, hmem, hfr, hnew⟩
  have happ : Mem.ren ρ N ++ Mem.ren ρ M = Mem.ren ρ (N ++ M) := by simp [Mem.ren]
  refine ⟨up β' β, fun k hk => ?_, fun β'' hag'' => ?_, ?_, ⟨hfr.os, hfr.tape, hfr.output, hfr.size, fun k hk hlt => hfr.old k (fun n b hb hro hu => ?_) hlt⟩, fun k hk hM hu => ?_⟩
  · obtain ⟨b, hb⟩ := Option.isSome_iff_exists.1 hk
    obtain ⟨n, c, rfl, hn, _⟩ := Mem.ren_some' hi hb
    rw [hup]; exact hag n (by simp [hn])
  · rw [V.ren_g]
    refine hen _ (fun n hn => ?_)
    rw [happ] at hag''
    obtain ⟨b, hb⟩ := Option.isSome_iff_exists.1 hn
    rw [hag'' (ρ n) (by rw [Mem.ren_get hi, hb]; rfl), hup]
  · rw [happ]
    refine ⟨fun β'' hag'' k b hb => ?_, fun k b hb hu => ?_, fun k m b b' hb hb' hne hro hlv hu hu' => ?_⟩
    · obtain ⟨n, c, rfl, hn, rfl⟩ := Mem.ren_some' hi hb
      refine BkOk.ren.2 (hmem.ok _ (fun j hj => ?_) n c hn)
      obtain ⟨d, hd⟩ := Option.isSome_iff_exists.1 hj
      rw [hag'' (ρ j) (by rw [Mem.ren_get hi, hd]; rfl), hup]
    · obtain ⟨n, c, rfl, hn, rfl⟩ := Mem.ren_some' hi hb
      rw [hup] at hu ⊢
      exact hmem.there n c hn hu
    · obtain ⟨n, c, rfl, hn, rfl⟩ := Mem.ren_some' hi hb
      obtain ⟨n', c', rfl, hn', rfl⟩ := Mem.ren_some' hi hb'
      rw [hup] at hu hu' ⊢
      rw [hup]
      refine hmem.apart n n' c c' hn hn' (fun hh => hne (by rw [hh])) hro ?_ hu hu'
      rcases hlv with h | h
      · exact .inl h
      · exact .inr (by simpa [Bk.ren] using h)
  · exact hk (ρ n) (b.ren ρ) (by rw [Mem.ren_get hi, hb]; rfl) hro hu
  · obtain ⟨b, hb⟩ := Option.isSome_iff_exists.1 hk
    obtain ⟨n, c, rfl, hn, _⟩ := Mem.ren_some' hi hb
    rw [hup] at hu ⊢
    rcases hnew n (by simp [hn]) (by rw [Mem.ren_get hi] at hM; simpa using hM) hu with h | ⟨k, d, x, g1, g2, g3, g4, g5, g6⟩
    · exact .inl h
    · refine .inr ⟨ρ k, d.ren ρ, x.ren ρ, by rw [Mem.ren_get hi, g1]; rfl, g2, g3, by rw [Mem.ren_get hi, g4]; rfl, fun hl => g5 ?_, g6⟩
      rcases hl with h | h
      · exact .inl h
      · exact .inr (by simpa [Bk.ren] using h)
end Vg
end Go.Proofs.YtpahigegcbdleaaDoor
