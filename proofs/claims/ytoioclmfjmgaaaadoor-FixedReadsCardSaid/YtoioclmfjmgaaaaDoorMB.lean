/- A region that draws its order: whatever the order, it comes to what the order of the text comes to. The machine in the prover's hand, where memory matters: contracts, loops and ends of bodies under other names; nil slices. Loops in the prover's hand; what is closed is seen by a look. Nil slices of a state under one name: those in the slots of q and in the blocks of k. Calls that read what others made in the same region: they touch it. The machine: string(b) of bytes; []byte of a literal. The machine: a callee entered in place; pointers compared and turned to unsafe.Pointer; a byte slice's bytes as a string (package strings' Builder). The machine: package-level variables. What is known of them is known of the world at the start; nothing in the walk may write them. Arguments of plain data, opened: whatever their fields. Arguments with slices of plain data, opened; a contract on what is only read, called. From a contract of a law to the given statement, whatever the seat. -/
import Derived.Test.YtoioclmfjmgaaaaDoorMA
import Derived.Laws.BytesArg
import Derived.Lib.Builder
import Derived.Lib.UnsafeStr
import Derived.ProofKit
import Derived.Below
import Derived.Carry
import Derived.ChangeSame
import Derived.Lib.SmallJoins
import Derived.Deep.Slices
namespace Go.Proofs.YtoioclmfjmgaaaaDoor
namespace Vg
open Go.RowKit

/-- The operations that come ahead of o, in every order. -/
def aft (o : Oper) : List Nat := (o.after.toList.filter fun e => Region.binds .any e).map (·.on)
/-- The writers of a slot, by place. -/
def Oper.isW (o : Oper) (t : Nat) : Bool := match o.dst with | some d => d == t | none => false
/-- i comes ahead of o, by its edges or by those of one that comes ahead of it. -/
inductive Anc (rg : Array Oper) (b : Nat) : Nat → Oper → Prop where
  | base {i : Nat} {o : Oper} (h : i ∈ aft o) : Anc rg b i o
  | step {i j : Nat} {o o' : Oper} (h : j ∈ aft o) (hb : j < b) (ho : rg[j]? = some o') (h' : Anc rg b i o') : Anc rg b i o
theorem Anc.done {rg : Array Oper} {b k i : Nat} {o : Oper} {D : Nat → Bool} (h : Anc rg b i o) (hcl : ∀ j o, j < k → D j = true → rg[j]? = some o → ∀ x, x ∈ aft o → D x = true) (hb : b ≤ k) (hed : ∀ x, x ∈ aft o → D x = true) : D i = true := by
  induction h with
  | base h => exact hed _ h
  | step h hjb ho _ ih => exact ih (hcl _ _ (by omega) (hed _ h) ho)
/-- The same, found by search. -/
def ancB (rg : Array Oper) (b : Nat) : Nat → Nat → Oper → Bool
  | 0, i, o => (aft o).contains i
  | d + 1, i, o => (aft o).contains i || (aft o).any fun j => decide (i < j) && (decide (j < b) && (match rg[j]? with | some o' => ancB rg b d i o' | none => false))
theorem ancB_ok {rg : Array Oper} {b : Nat} : ∀ (d i : Nat) (o : Oper), ancB rg b d i o = true → Anc rg b i o
  | 0, i, o, h => .base (by simpa [ancB] using h)
  | d + 1, i, o, h => by
    simp only [ancB, Bool.or_eq_true, List.any_eq_true, Bool.and_eq_true, decide_eq_true_eq] at h
    rcases h with h | ⟨j, hj, _, hb, h⟩
    · exact .base (by simpa using h)
    · split at h
      · rename_i o' ho
        exact .step hj hb ho (ancB_ok d i o' h)
      · cases h
/-- The first k operations may come in any order that their edges allow; the rest comes behind them, in its order. -/
def dfOk (rg : Array Oper) (k : Nat) : Bool :=
  decide (k ≤ rg.size) &&
  (List.range rg.size).all fun i =>
    match rg[i]? with
    | none => true
    | some o =>
      (aft o).all (fun j => decide (j < i)) &&
      (if i < k then
        (List.range k).all fun j =>
          j == i ||
          match rg[j]? with
          | none => true
          | some o' =>
            (match o'.dst with
             | none => true
             | some d => (o.dst != some d) && (!(o.looksAt rg).contains d || (aft o).contains j || (aft o').contains i))
       else (List.range i).all fun j => ancB rg i 20 j o)

/-- An operation's step, in this context alone. -/
def StpC (P : Program) (S : Bs) (w0 : World) (o : Oper) (e : Env) (M : Mem) (v : V) (N : Mem) : Prop :=
  ∀ β M' a w, Sub M M' → Fresh N M M' → Rel S w0 β M' w → OpOk β M' e o a →
    ∀ (K : Act → World → Prop) (Q : Exit → Act → World → Prop),
      (∀ β' u w', Agree M' β β' → Rel S w0 β' (N ++ M') w' → (∀ β'', Agree (N ++ M') β' β'' → u = v.g β'') → K (a.put o.dst u) w') → o.wp P a w K Q
theorem Stp.toC {P : Program} {S : Bs} {w0 : World} {o : Oper} {e : Env} {M : Mem} {v : V} {N : Mem} (h : Stp P o e M v N) : StpC P S w0 o e M v N := fun β M' a w => h S w0 β M' a w
/-- The trace of the first operations, in the order of the text: each on the memory M0 of the start and, where it writes what others of them made, on that. T: who has touched which name. -/
inductive Tr (P : Program) (S : Bs) (w0 : World) (rg : Array Oper) (e0 : Env) (M0 Mf : Mem) : List Oper → Env → Mem → List (Nat × Nat) → Prop where
  | nil (hs : ∀ n b, M0.get n = some b → Mf.get n = some b) : Tr P S w0 rg e0 M0 Mf [] e0 Mf []
  | snoc {l : List Oper} {e : Env} {M : Mem} {T : List (Nat × Nat)} {o : Oper} {g : Bool} {v : V} {N Ms : Mem} (h : Tr P S w0 rg e0 M0 Mf l e M T) (hg : gd rg e o = some g) (hs : g = true → StpC P S w0 o e Ms v N) (hN : g = true ∨ N = [])
      (hMs : ∀ n b, Ms.get n = some b → M0.get n = some b ∨ ((N.get n).isSome = true ∧ M.get n = some b))
      (hf : ∀ n, (N.get n).isSome = true → M0.get n = none ∧ ((Ms.get n).isSome = true ∨ M.get n = none) ∧ ∀ i, (n, i) ∈ T → Anc rg l.length i o) : Tr P S w0 rg e0 M0 Mf (l ++ [o]) (e.put o.dst g v) (N ++ M) (N.map (fun p => (p.1, l.length)) ++ T)

/-- The same, by place. -/
structure Tf (P : Program) (S : Bs) (w0 : World) (rg : Array Oper) (e0 : Env) (M0 Mf : Mem) (k : Nat) where
  E : Nat → Env
  MM : Nat → Mem
  G : Nat → Bool
  W : Nat → V
  N : Nat → Mem
  e0 : E 0 = e0
  m0 : MM 0 = Mf
  sub : ∀ n b, M0.get n = some b → Mf.get n = some b
  step : ∀ i, i < k → ∃ o Ms, rg[i]? = some o ∧ gd rg (E i) o = some (G i) ∧ E (i + 1) = (E i).put o.dst (G i) (W i) ∧ MM (i + 1) = N i ++ MM i ∧ (G i = true → StpC P S w0 o (E i) Ms (W i) (N i)) ∧ (G i = true ∨ N i = []) ∧
    (∀ n b, Ms.get n = some b → M0.get n = some b ∨ (((N i).get n).isSome = true ∧ (MM i).get n = some b)) ∧ (∀ n, ((N i).get n).isSome = true → M0.get n = none ∧ ((Ms.get n).isSome = true ∨ (MM i).get n = none) ∧ ∀ i', i' < i → ((N i').get n).isSome = true → Anc rg i i' o)

theorem Mem.mem_of_get' : ∀ {M : Mem} {n : Nat}, (M.get n).isSome = true → n ∈ M.map (·.1)
  | [], n, h => by cases h
  | (k, c) :: r, n, h => by
    simp only [Mem.get] at h
    cases hk : (k == n) with
    | true => have : k = n := by simpa using hk
              subst this; simp
    | false => rw [hk] at h; exact List.mem_cons_of_mem _ (Mem.mem_of_get' h)
theorem Tr.fn {P : Program} {S : Bs} {w0 : World} {rg : Array Oper} {e0 : Env} {M0 Mf : Mem} {l : List Oper} {e : Env} {M : Mem} {TT : List (Nat × Nat)} (h : Tr P S w0 rg e0 M0 Mf l e M TT) (hl : ∀ i, i < l.length → rg[i]? = l[i]?) :
    ∃ T : Tf P S w0 rg e0 M0 Mf l.length, (T.E l.length = e ∧ T.MM l.length = M) ∧ ∀ i n, i < l.length → ((T.N i).get n).isSome = true → (n, i) ∈ TT := by
  induction h with
  | nil hs => exact ⟨⟨fun _ => e0, fun _ => Mf, fun _ => true, fun _ => .agg [], fun _ => [], rfl, rfl, hs, fun i hi => absurd hi (by simp)⟩, ⟨rfl, rfl⟩, fun i n hi => absurd hi (by simp)⟩
  | @snoc l e M TT o g v N Ms h hg hs hN hMs hf ih =>
    obtain ⟨T, ⟨he, hm⟩, hT⟩ := ih (fun i hi => by
      rw [hl i (by simp; omega), List.getElem?_append_left hi])
    refine ⟨⟨fun i => if i ≤ l.length then T.E i else e.put o.dst g v, fun i => if i ≤ l.length then T.MM i else N ++ M, fun i => if i < l.length then T.G i else g, fun i => if i < l.length then T.W i else v, fun i => if i < l.length then T.N i else N, by simp [T.e0], by simp [T.m0], T.sub, ?_⟩, ⟨by simp; intro hh; omega, by simp; intro hh; omega⟩, ?_⟩
    · intro i hi
      simp only [List.length_append, List.length_cons, List.length_nil, Nat.zero_add] at hi
      by_cases hlt : i < l.length
      · obtain ⟨o', Ms', h1, h2, h3, h4, h5, h6, h7, h8⟩ := T.step i hlt
        refine ⟨o', Ms', h1, ?_, ?_, ?_, ?_, ?_, ?_, ?_⟩
        · simpa [hlt, Nat.le_of_lt hlt, Nat.succ_le_of_lt hlt] using h2
        · simpa [hlt, Nat.le_of_lt hlt, Nat.succ_le_of_lt hlt] using h3
        · simpa [hlt, Nat.le_of_lt hlt, Nat.succ_le_of_lt hlt] using h4
        · simpa [hlt, Nat.le_of_lt hlt, Nat.succ_le_of_lt hlt] using h5
        · simpa [hlt] using h6
        · simpa [hlt, Nat.le_of_lt hlt] using h7
        · intro n hn
          simp only [hlt, if_true] at hn
          obtain ⟨k1, k2, k3⟩ := h8 n hn
          refine ⟨k1, by simpa [Nat.le_of_lt hlt] using k2, fun i' hi' hh => k3 i' hi' ?_⟩
          rw [if_pos (by omega)] at hh
          exact hh
      · have hi' : i = l.length := by omega
        subst hi'
        refine ⟨o, Ms, ?_, ?_, ?_, ?_, ?_, ?_, ?_, ?_⟩
        · rw [hl l.length (by simp)]; simp
        · simpa [he] using hg
        · simp [he]; intro hh; omega
        · simp [hm]; intro hh; omega
        · simpa [he] using hs
        · simpa using hN
        · simpa [hm] using hMs
        · intro n hn
          simp only [Nat.lt_irrefl, if_false] at hn
          obtain ⟨k1, k2, k3⟩ := hf n hn
          refine ⟨k1, by simpa [hm] using k2, fun i' hi' hh => k3 i' (hT i' n hi' ?_)⟩
          rw [if_pos hi'] at hh
          exact hh
    · intro i n hi hn
      replace hn : ((if i < l.length then T.N i else N : Mem).get n).isSome = true := hn
      simp only [List.length_append, List.length_cons, List.length_nil, Nat.zero_add] at hi
      rw [List.mem_append]
      by_cases hlt : i < l.length
      · rw [if_pos hlt] at hn
        exact .inr (hT i n hlt hn)
      · have hi' : i = l.length := by omega
        subst hi'
        rw [if_neg hlt] at hn
        left
        obtain ⟨p, hp, hp1⟩ := List.mem_map.1 (Mem.mem_of_get' hn)
        exact List.mem_map.2 ⟨p, hp, by rw [hp1]⟩

section
variable {P : Program} {S : Bs} {w0 : World} {rg : Array Oper} {e0 : Env} {M0 Mf : Mem} {k : Nat}
/-- What has been done, in whatever order. -/
def Tf.env (T : Tf P S w0 rg e0 M0 Mf k) (D : Nat → Bool) : Nat → Env
  | 0 => e0
  | j + 1 => match rg[j]? with
    | some o => if D j then (T.env D j).put o.dst (T.G j) (T.W j) else T.env D j
    | none => T.env D j
def Tf.mem (T : Tf P S w0 rg e0 M0 Mf k) (D : Nat → Bool) : Nat → Mem
  | 0 => Mf
  | j + 1 => (if D j then T.N j else []) ++ T.mem D j
theorem Tf.env_all (T : Tf P S w0 rg e0 M0 Mf k) (D : Nat → Bool) : ∀ j, j ≤ k → (∀ i, i < j → D i = true) → T.env D j = T.E j
  | 0, _, _ => T.e0.symm
  | j + 1, hj, h => by
    obtain ⟨o, _, ho, _, hE, _⟩ := T.step j (by omega)
    rw [Tf.env, ho, hE, T.env_all D j (by omega) (fun i hi => h i (by omega))]
    simp [h j (by omega)]
theorem Tf.mem_all (T : Tf P S w0 rg e0 M0 Mf k) (D : Nat → Bool) : ∀ j, j ≤ k → (∀ i, i < j → D i = true) → T.mem D j = T.MM j
  | 0, _, _ => T.m0.symm
  | j + 1, hj, h => by
    obtain ⟨o, _, ho, _, _, hM, _⟩ := T.step j (by omega)
    rw [Tf.mem, hM, T.mem_all D j (by omega) (fun i hi => h i (by omega))]
    simp [h j (by omega)]
theorem Env.get_put (e : Env) (d : Option Nat) (g : Bool) (v : V) (t : Nat) : (e.put d g v).get t = if d = some t then some (g, v) else e.get t := by
  cases d with
  | none => simp [Env.put]
  | some d =>
    simp only [Env.put, Env.get]
    by_cases h : d = t
    · subst h; simp
    · have : (d == t) = false := by simpa using h
      simp [this, h]
/-- A slot all of whose writers have been done just if they come ahead of i. -/
theorem Tf.env_at (T : Tf P S w0 rg e0 M0 Mf k) (D : Nat → Bool) (t i : Nat) (hi : i ≤ k) (h : ∀ j o, j < k → rg[j]? = some o → o.dst = some t → (D j = true ↔ j < i)) : ∀ j, j ≤ k → (T.env D j).get t = (T.E (min i j)).get t
  | 0, _ => by rw [Tf.env, Nat.min_zero, T.e0]
  | j + 1, hj => by
    have ih := T.env_at D t i hi h j (by omega)
    obtain ⟨o, _, ho, _, hE, _⟩ := T.step j (by omega)
    simp only [Tf.env, ho]
    by_cases hd : o.dst = some t
    · have hiff := h j o (by omega) ho hd
      by_cases hji : j < i
      · rw [if_pos (hiff.2 hji), show min i (j + 1) = j + 1 from by omega, hE, Env.get_put, Env.get_put, if_pos hd, if_pos hd]
      · rw [if_neg (by rw [hiff]; exact hji), ih]
        congr 2; omega
    · have e1 : (if D j = true then (T.env D j).put o.dst (T.G j) (T.W j) else T.env D j).get t = (T.env D j).get t := by
        split
        · rw [Env.get_put, if_neg hd]
        · rfl
      rw [e1, ih]
      by_cases hji : j < i
      · rw [show min i (j + 1) = j + 1 from by omega, show min i j = j from by omega, hE, Env.get_put, if_neg hd]
      · congr 2; omega
/-- One more has been done. -/
theorem Tf.env_more (T : Tf P S w0 rg e0 M0 Mf k) (D : Nat → Bool) (i : Nat) (o : Oper) (ho : rg[i]? = some o) (hD : D i = false) (hu : ∀ j o', j < k → j ≠ i → rg[j]? = some o' → ∀ d, o.dst = some d → o'.dst ≠ some d) (t : Nat) :
    ∀ j, j ≤ k → (T.env (fun x => if x = i then true else D x) j).get t = if i < j ∧ o.dst = some t then some (T.G i, T.W i) else (T.env D j).get t
  | 0, _ => by simp [Tf.env]
  | j + 1, hj => by
    have ih := T.env_more D i o ho hD hu t j (by omega)
    obtain ⟨o', _, ho', _⟩ := T.step j (by omega)
    simp only [Tf.env, ho']
    by_cases hji : j = i
    · subst hji
      rw [ho] at ho'
      cases ho'
      simp only [if_true, hD, Bool.false_eq_true, if_false]
      rw [Env.get_put, ih]
      by_cases hd : o.dst = some t
      · rw [if_pos hd, if_pos ⟨by omega, hd⟩]
      · rw [if_neg hd, if_neg (fun hh => hd hh.2), if_neg (fun hh => hd hh.2)]
    · simp only [if_neg hji]
      have hlt : (i < j + 1) ↔ (i < j) := by omega
      simp only [hlt]
      by_cases hDj : D j = true
      · simp only [hDj, if_true]
        rw [Env.get_put, Env.get_put, ih]
        by_cases hd' : o'.dst = some t
        · have hno : ¬ (i < j ∧ o.dst = some t) := fun hh => hu j o' (by omega) hji ho' t hh.2 hd'
          rw [if_pos hd', if_neg hno, if_pos hd']
        · rw [if_neg hd', if_neg hd']
      · simp only [hDj]
        exact ih
theorem Tf.MM_mono (T : Tf P S w0 rg e0 M0 Mf k) (n : Nat) : ∀ i j, i ≤ j → j ≤ k → ((T.MM i).get n).isSome = true → ((T.MM j).get n).isSome = true := by
  intro i j hij hj h
  induction j with
  | zero =>
    obtain rfl : i = 0 := by omega
    exact h
  | succ j ih =>
    by_cases hi : i = j + 1
    · subst hi; exact h
    · obtain ⟨o, _, _, _, _, hM, _⟩ := T.step j (by omega)
      rw [hM, Mem.get_append]
      have := ih (by omega) (by omega)
      cases (T.N j).get n <;> simp [this]
theorem Tf.names0 (T : Tf P S w0 rg e0 M0 Mf k) {i n : Nat} (hi : i < k) (h1 : ((T.N i).get n).isSome = true) : M0.get n = none := by
  obtain ⟨_, _, _, _, _, _, _, _, _, hf⟩ := T.step i hi
  exact (hf n h1).1
/-- Who touches a name that another one touched comes behind it. -/
theorem Tf.behind (T : Tf P S w0 rg e0 M0 Mf k) {i j n : Nat} {o : Oper} (hij : i < j) (hj : j < k) (ho : rg[j]? = some o) (h1 : ((T.N i).get n).isSome = true) (h2 : ((T.N j).get n).isSome = true) : Anc rg j i o := by
  obtain ⟨o', _, ho', _, _, _, _, _, _, hf⟩ := T.step j hj
  rw [ho] at ho'
  cases ho'
  exact (hf n h2).2.2 i hij h1
theorem Tf.mem_own (T : Tf P S w0 rg e0 M0 Mf k) (D : Nat → Bool) {i n : Nat} {o : Oper} (hi : i < k) (ho : rg[i]? = some o) (hD : D i = false) (hcl : ∀ j o, j < k → D j = true → rg[j]? = some o → ∀ x, x ∈ aft o → D x = true) (hed : ∀ x, x ∈ aft o → D x = true)
    (h1 : ((T.N i).get n).isSome = true) : ∀ j, j ≤ k → (T.mem D j).get n = (T.MM (min i j)).get n
  | 0, _ => by rw [Tf.mem, Nat.min_zero, T.m0]
  | j + 1, hj => by
    have ih := T.mem_own D hi ho hD hcl hed h1 j (by omega)
    obtain ⟨o', _, ho', _, _, hM, _⟩ := T.step j (by omega)
    rw [Tf.mem, Mem.get_append, ih]
    rcases Nat.lt_trichotomy j i with hji | hji | hji
    · rw [show min i (j + 1) = j + 1 from by omega, show min i j = j from by omega, hM, Mem.get_append]
      cases h2 : (T.N j).get n with
      | none => split <;> simp [h2, Mem.get]
      | some c => rw [if_pos ((T.behind hji hi ho (by simp [h2]) h1).done hcl (by omega) hed), h2]
    · subst hji
      rw [show min j (j + 1) = j from by omega, show min j j = j from by omega]
      simp [hD, Mem.get]
    · rw [show min i (j + 1) = i from by omega, show min i j = i from by omega]
      split
      · rename_i hDj
        cases h2 : (T.N j).get n with
        | none => simp
        | some c =>
          have := (T.behind hji (by omega) ho' h1 (by simp [h2])).done hcl (by omega) (hcl j o' (by omega) hDj ho')
          rw [hD] at this; cases this
      · simp [Mem.get]
theorem Tf.mem_base (T : Tf P S w0 rg e0 M0 Mf k) (D : Nat → Bool) {n : Nat} {b : Bk} (h : M0.get n = some b) : ∀ j, j ≤ k → (T.mem D j).get n = some b
  | 0, _ => T.sub _ _ h
  | j + 1, hj => by
    rw [Tf.mem, Mem.get_append, T.mem_base D h j (by omega)]
    split
    · cases h2 : (T.N j).get n with
      | none => rfl
      | some c =>
        have := T.names0 (i := j) (n := n) (by omega) (by simp [h2])
        rw [h] at this; cases this
    · rfl
theorem Tf.mem_more (T : Tf P S w0 rg e0 M0 Mf k) (D : Nat → Bool) {i : Nat} (hi : i < k) (hD : D i = false) (hcl : ∀ j o, j < k → D j = true → rg[j]? = some o → ∀ x, x ∈ aft o → D x = true) (n : Nat) : ∀ j, j ≤ k → (T.mem (fun x => if x = i then true else D x) j).get n = if i < j then (T.N i ++ T.mem D j : Mem).get n else (T.mem D j).get n
  | 0, _ => by simp [Tf.mem]
  | j + 1, hj => by
    have ih := T.mem_more D hi hD hcl n j (by omega)
    rw [Tf.mem, Mem.get_append]
    by_cases hji : j = i
    · subst hji
      rw [if_pos rfl, if_pos rfl, ih, if_neg (by omega), if_pos (by omega), Mem.get_append]
      simp only [Tf.mem, hD, Bool.false_eq_true, if_false, List.nil_append]
    · simp only [if_neg hji]
      rw [ih]
      have h12 : i < j → D j = true → ∀ b c, (T.N i).get n = some b → (T.N j).get n = some c → False := fun hij hDj b c h1 h2 => by
        obtain ⟨o', _, ho', _⟩ := T.step j (by omega)
        have := (T.behind (n := n) hij (by omega) ho' (by simp [h1]) (by simp [h2])).done hcl (by omega) (hcl j o' (by omega) hDj ho')
        rw [hD] at this; cases this
      by_cases hij : i < j
      · simp only [hij, show i < j + 1 from by omega, if_true, Tf.mem, Mem.get_append]
        by_cases hDj : D j = true
        · simp only [hDj, if_true]
          cases h1 : (T.N i).get n with
          | none => simp
          | some b =>
            cases h2 : (T.N j).get n with
            | none => simp
            | some c => exact (h12 hij hDj b c h1 h2).elim
        · simp [hDj, Mem.get]
      · simp only [hij, show ¬ i < j + 1 from by omega, if_false, Tf.mem, Mem.get_append]

theorem Rel.ext {S : Bs} {w0 w : World} {β : Vl} {M M' : Mem} (h : Rel S w0 β M w) (he : ∀ n, M'.get n = M.get n) : Rel S w0 β M' w := by
  have hag : ∀ b b', Agree M' b b' → Agree M b b' := fun b b' hh n hn => hh n (by rw [he]; exact hn)
  refine ⟨h.fr, ⟨fun β' hh n b hb => h.mem.ok β' (hag _ _ hh) n b (by rw [← he]; exact hb), fun n b hb => h.mem.there n b (by rw [← he]; exact hb), fun n m b b' hb hb' => h.mem.apart n m b b' (by rw [← he]; exact hb) (by rw [← he]; exact hb')⟩,
    fun n b hb => h.own n b (by rw [← he]; exact hb), fun n l hl => ⟨by rw [he]; exact (h.pin n l hl).1, (h.pin n l hl).2⟩⟩

/-- The state of affairs when D has been done. -/
def Tf.Inv (T : Tf P S w0 rg e0 M0 Mf k) (S : Bs) (w0 : World) (nt : Nat) (D : Nat → Bool) (a : Act) (w : World) : Prop :=
  ∃ β, Rel S w0 β (T.mem D k) w ∧ EnvOk β (T.mem D k) (T.env D k) a ∧ a.tmps.size = nt ∧ a.defers = []

theorem dfOk_edges (h : dfOk rg k = true) {i : Nat} {o : Oper} (ho : rg[i]? = some o) : ∀ j, j ∈ aft o → j < i := by
  have hi : i < rg.size := (Array.getElem?_eq_some_iff.1 ho).1
  simp only [dfOk, Bool.and_eq_true, List.all_eq_true, List.mem_range] at h
  have := h.2 i hi
  rw [ho] at this
  simp only [Bool.and_eq_true, List.all_eq_true, decide_eq_true_eq] at this
  exact this.1
theorem dfOk_le (h : dfOk rg k = true) : k ≤ rg.size := by
  simp only [dfOk, Bool.and_eq_true, decide_eq_true_eq] at h
  exact h.1
theorem dfOk_tail (h : dfOk rg k = true) {i : Nat} {o : Oper} (ho : rg[i]? = some o) (hk : k ≤ i) : ∀ j, j < i → Anc rg i j o := by
  have hi : i < rg.size := (Array.getElem?_eq_some_iff.1 ho).1
  simp only [dfOk, Bool.and_eq_true, List.all_eq_true, List.mem_range] at h
  have := h.2 i hi
  rw [ho] at this
  simp only [Bool.and_eq_true] at this
  have h2 := this.2
  rw [if_neg (by omega)] at h2
  simp only [List.all_eq_true, List.mem_range] at h2
  intro j hj
  exact ancB_ok 20 j o (h2 j hj)
theorem dfOk_two (h : dfOk rg k = true) {i j : Nat} {o o' : Oper} (ho : rg[i]? = some o) (ho' : rg[j]? = some o') (hi : i < k) (hj : j < k) (hne : j ≠ i) : ∀ d, o'.dst = some d → o.dst ≠ some d ∧ (d ∈ o.looksAt rg → j ∈ aft o ∨ i ∈ aft o') := by
  have hi' : i < rg.size := (Array.getElem?_eq_some_iff.1 ho).1
  simp only [dfOk, Bool.and_eq_true, List.all_eq_true, List.mem_range] at h
  have := h.2 i hi'
  rw [ho] at this
  simp only [Bool.and_eq_true] at this
  have h2 := this.2
  rw [if_pos hi] at h2
  simp only [List.all_eq_true, List.mem_range] at h2
  have h3 := h2 j hj
  rw [ho'] at h3
  intro d hd
  simp [hne, hd] at h3
  refine ⟨fun hh => h3.1 hh, fun hm => ?_⟩
  rcases h3.2 with h4 | h4
  · rcases h4 with h5 | h5
    · exact absurd hm h5
    · exact .inl h5
  · exact .inr h4

/-- One operation more, whichever may come. -/
theorem Tf.step_any (T : Tf P S w0 rg e0 M0 Mf k) (hdf : dfOk rg k = true) {nt : Nat} (hnt : ∀ i o, i < k → rg[i]? = some o → ∀ t, o.dst = some t → t < nt) {D : Nat → Bool} {i : Nat} (hi : i < k) (hD : D i = false)
    (hcl : ∀ j o, j < k → D j = true → rg[j]? = some o → ∀ x, x ∈ aft o → D x = true) (hed : ∀ o, rg[i]? = some o → ∀ x, x ∈ aft o → D x = true) {a : Act} {w : World} (hinv : T.Inv S w0 nt D a w) {K : Act → World → Prop} {Q : Exit → Act → World → Prop}
    (hk : ∀ a' w', T.Inv S w0 nt (fun x => if x = i then true else D x) a' w' → K a' w') : wpOp P rg Q i K a w := by
  obtain ⟨β, hrel, hen, hsz, hdf0⟩ := hinv
  obtain ⟨o, Ms, ho, hg, hE, hM, hs, hN, hMs, hf⟩ := T.step i hi
  -- what the operation looks at reads as in the text's order
  have hlook : ∀ t, t ∈ o.looksAt rg → (T.env D k).get t = (T.E i).get t := by
    intro t ht
    have := T.env_at D t i (by omega) (fun j o' hj ho' hd => ?_) k (Nat.le_refl _)
    · rwa [show min i k = i from by omega] at this
    · by_cases hji : j = i
      · subst hji; simp [hD]
      · rcases (dfOk_two hdf ho ho' hi hj hji t hd).2 ht with h | h
        · exact ⟨fun _ => dfOk_edges hdf ho j h, fun _ => hed o ho j h⟩
        · constructor
          · intro hh
            have := hcl j o' hj hh ho' i h
            rw [hD] at this; cases this
          · intro hh
            have := dfOk_edges hdf ho' i h
            omega
  have hwant : Region.wanted o (yielded rg a.tmps) = T.G i := gd_ok (β := β) hg (fun j want t y hgd ht hy => by
    refine hen β (Agree.refl _ _) t y ?_
    rw [hlook t ?_]
    · exact hy
    · simp [Oper.looksAt, hgd, ht])
  have hmore : ∀ β' (N' : Mem) u w', (T.N i = N' ∨ (N' = [] ∧ T.N i = [])) → Agree (T.mem D k) β β' → Rel S w0 β' (T.N i ++ T.mem D k) w' → (∀ β'', Agree (T.N i ++ T.mem D k) β' β'' → u = gv β'' (T.G i, T.W i)) → T.Inv S w0 nt (fun x => if x = i then true else D x) (a.put o.dst u) w' := by
    intro β' N' u w' _ hag hrel' hu
    have hget : ∀ n, (T.mem (fun x => if x = i then true else D x) k).get n = (T.N i ++ T.mem D k : Mem).get n := fun n => by rw [T.mem_more D hi hD hcl n k (Nat.le_refl _), if_pos hi]
    refine ⟨β', hrel'.ext hget, ?_, by cases o.dst <;> simp [Act.put, hsz], by cases o.dst <;> simp [Act.put, hdf0]⟩
    have hput := hen.put (N := T.N i) hag hsz (hnt i o hi ho) hu
    intro β'' hag'' t x hx
    refine hput β'' (fun n hn => hag'' n (by rw [hget]; exact hn)) t x ?_
    rw [Env.get_put]
    rw [T.env_more D i o ho hD (fun j o' hj hne ho' d hd hd' => (dfOk_two hdf ho ho' hi hj hne d hd').1 hd) t k (Nat.le_refl _)] at hx
    by_cases hd : o.dst = some t
    · rw [if_pos ⟨hi, hd⟩] at hx; rw [if_pos hd]; exact hx
    · rw [if_neg (fun hh => hd hh.2)] at hx; rw [if_neg hd]; exact hx
  unfold wpOp
  simp only [ho, hwant]
  cases hGi : T.G i with
  | true =>
    simp only [if_true]
    left
    refine hs hGi β (T.mem D k) a w (fun n b hb => ⟨b, ?_, .inl rfl⟩) (fun n hn => ?_) hrel ?_ K Q ?_
    · rcases hMs n b hb with h | ⟨h1, h2⟩
      · exact T.mem_base D h k (Nat.le_refl _)
      · rw [T.mem_own D hi ho hD hcl (hed o ho) h1 k (Nat.le_refl _), show min i k = i from by omega]
        exact h2
    · rcases (hf n hn).2.1 with h | h
      · exact .inl h
      · right
        rw [T.mem_own D hi ho hD hcl (hed o ho) hn k (Nat.le_refl _), show min i k = i from by omega]
        exact h
    · intro β' hag x hx y hy
      cases x with
      | tmp t =>
        have ht : t ∈ o.looksAt rg := List.mem_append_left _ (List.mem_filterMap.2 ⟨.tmp t, by simpa using hx, rfl⟩)
        exact hen β' hag t y (by rw [hlook t ht]; exact hy)
      | const v => simp [rd] at hy; subst hy; simp [gv, cst_g, Act.eval]
      | global g => simp [rd] at hy; subst hy; simp [gv, V.g, Cv.g, Act.eval]
      | func f => simp [rd] at hy; subst hy; simp [gv, V.g, Cv.g, Act.eval]
    · intro β' u w' hag hrel' hu
      exact hk _ _ (hmore β' _ u w' (.inl rfl) hag hrel' (fun β'' h => by rw [hu β'' h, hGi]; rfl))
  | false =>
    simp only [Bool.false_eq_true, if_false]
    have hN0 : T.N i = [] := by rcases hN with h | h; rw [hGi] at h; cases h; exact h
    exact hk _ _ (hmore β [] undef w (.inr ⟨rfl, hN0⟩) (Agree.refl _ _) (by rw [hN0]; exact hrel) (fun β'' _ => by rw [hGi]; rfl))

theorem mem_ready {L : Array Bool} {i : Nat} : i ∈ Region.ready .any rg L ↔ i < rg.size ∧ L.getD i true = false ∧ ∃ o, rg[i]? = some o ∧ ∀ x, x ∈ aft o → L.getD x false = true := by
  simp only [Region.ready, List.mem_filter, List.mem_range, Bool.and_eq_true]
  constructor
  · rintro ⟨h1, h2, h3⟩
    refine ⟨h1, by simpa using h2, ?_⟩
    cases ho : rg[i]? with
    | none => simp [ho] at h3
    | some o =>
      refine ⟨o, rfl, fun x hx => ?_⟩
      rw [ho] at h3
      simp only [Option.map_some, Option.getD_some] at h3
      rw [Array.all_eq_true_iff_forall_mem] at h3
      simp only [aft, List.mem_map, List.mem_filter] at hx
      obtain ⟨e, ⟨he1, he2⟩, rfl⟩ := hx
      have := h3 e (by simpa using he1)
      simpa [he2] using this
  · rintro ⟨h1, h2, o, ho, h3⟩
    refine ⟨h1, by simpa using h2, ?_⟩
    rw [ho]
    simp only [Option.map_some, Option.getD_some]
    rw [Array.all_eq_true_iff_forall_mem]
    intro e he
    by_cases hb : Region.binds .any e = true
    · have := h3 e.on (by simp only [aft, List.mem_map, List.mem_filter]; exact ⟨e, ⟨by simpa using he, hb⟩, rfl⟩)
      simp [hb, this]
    · simp [hb]
theorem getD_set {L : Array Bool} {i : Nat} (hi : i < L.size) (d : Bool) (x : Nat) : (L.setIfInBounds i true).getD x d = if x = i then true else L.getD x d := by
  by_cases h : x = i
  · subst h; simp [hi]
  · simp [Array.getElem?_setIfInBounds_ne (fun hh => h hh.symm), h]

theorem tail_ok (hdf : dfOk rg k = true) {Q : Exit → Act → World → Prop} : ∀ (m j : Nat) (L : Array Bool) (a : Act) (w : World), j + m = rg.size → k ≤ j → L.size = rg.size → (∀ i, i < rg.size → ∀ d, L.getD i d = decide (i < j)) → wpList P rg Q (rg.toList.drop j) a w → wpAny P .any rg Q m L a w
  | 0, j, L, a, w, hm, hk, hL, hl, h => by
    refine ⟨?_, ?_⟩
    · rw [List.eq_nil_iff_forall_not_mem]
      intro i hi
      obtain ⟨h1, h2, _⟩ := mem_ready.1 hi
      rw [hl i h1 true] at h2
      simp at h2
      omega
    · rw [List.drop_of_length_le (by simp; omega)] at h
      exact h
  | m + 1, j, L, a, w, hm, hk, hL, hl, h => by
    have hj : j < rg.size := by omega
    have hoj : rg[j]? = some rg[j] := Array.getElem?_eq_getElem hj
    have hrdy : j ∈ Region.ready .any rg L := mem_ready.2 ⟨hj, by rw [hl j hj true]; simp, rg[j], hoj, fun x hx => by
      have := dfOk_edges hdf hoj x hx
      rw [hl x (by omega) false]; simpa using this⟩
    refine ⟨fun hh => (by rw [hh] at hrdy; cases hrdy), fun i hi => ?_⟩
    obtain ⟨h1, h2, o, ho, h3⟩ := mem_ready.1 hi
    have hij : i = j := by
      rw [hl i h1 true] at h2
      simp at h2
      by_cases hlt : j < i
      · have := (dfOk_tail hdf ho (by omega) j hlt).done (k := rg.size) (D := fun x => L.getD x false) (fun y o' hy hyd ho' x hx => by
          have e1 := dfOk_edges hdf ho' x hx
          simp only [hl y hy false, decide_eq_true_eq] at hyd
          simp only [hl x (by omega) false, decide_eq_true_eq]
          omega) (by omega) h3
        simp only [hl j hj false, decide_eq_true_eq] at this
        omega
      · omega
    subst hij
    rw [List.drop_eq_getElem_cons (by simpa using hj)] at h
    unfold wpOp
    simp only [hoj]
    simp only [Array.getElem_toList, wpList] at h
    have ih := fun a w => tail_ok hdf (Q := Q) m (i + 1) (L.setIfInBounds i true) a w (by omega) (by omega) (by simp [hL]) (fun x hx d => by
      rw [getD_set (by omega) d x]
      by_cases hx' : x = i
      · subst hx'; simp
      · rw [if_neg hx', hl x hx d]; congr 1; simp; omega)
    split
    · rename_i hw
      rw [if_pos hw] at h
      exact h.imp (Oper.wp_mono fun a w => ih a w) id
    · rename_i hw
      rw [if_neg hw] at h
      exact ih _ _ h

theorem Tf.env_congr (T : Tf P S w0 rg e0 M0 Mf k) {D D' : Nat → Bool} : ∀ j, (∀ i, i < j → D i = D' i) → T.env D j = T.env D' j
  | 0, _ => rfl
  | j + 1, h => by simp only [Tf.env, T.env_congr j (fun i hi => h i (by omega)), h j (by omega)]
theorem Tf.mem_congr (T : Tf P S w0 rg e0 M0 Mf k) {D D' : Nat → Bool} : ∀ j, (∀ i, i < j → D i = D' i) → T.mem D j = T.mem D' j
  | 0, _ => rfl
  | j + 1, h => by simp only [Tf.mem, T.mem_congr j (fun i hi => h i (by omega)), h j (by omega)]
theorem Tf.inv_congr (T : Tf P S w0 rg e0 M0 Mf k) {D D' : Nat → Bool} {nt : Nat} {a : Act} {w : World} (h : ∀ i, i < k → D i = D' i) (hi : T.Inv S w0 nt D a w) : T.Inv S w0 nt D' a w := by
  unfold Tf.Inv at *
  rw [← T.env_congr k h, ← T.mem_congr k h]
  exact hi

theorem draw_ok (T : Tf P S w0 rg e0 M0 Mf k) (hdf : dfOk rg k = true) {nt : Nat} {Q : Exit → Act → World → Prop} (hnt : ∀ i o, i < k → rg[i]? = some o → ∀ t, o.dst = some t → t < nt)
    (htail : ∀ a w, T.Inv S w0 nt (fun _ => true) a w → wpList P rg Q (rg.toList.drop k) a w) : ∀ (fuel : Nat) (L : Array Bool) (a : Act) (w : World), L.size = rg.size → (L.toList.filter (fun b => !b)).length = fuel → (∀ i, k ≤ i → i < rg.size → ∀ d, L.getD i d = false) →
      (∀ j o, j < k → L.getD j false = true → rg[j]? = some o → ∀ x, x ∈ aft o → L.getD x false = true) → T.Inv S w0 nt (fun i => L.getD i false) a w → wpAny P .any rg Q fuel L a w := by
  have hkle := dfOk_le hdf
  intro fuel
  induction fuel with
  | zero =>
    intro L a w hL hc hun hcl hinv
    have hall : ∀ i, i < rg.size → ∀ d, L.getD i d = true := by
      intro i hi d
      have hlt : i < L.size := by omega
      simp only [Array.getD_eq_getD_getElem?, Array.getElem?_eq_getElem hlt, Option.getD_some]
      have := List.length_eq_zero_iff.1 hc
      rw [List.filter_eq_nil_iff] at this
      have := this L[i] (by simp)
      simpa using this
    have hk : k = rg.size := by
      by_cases h : k < rg.size
      · have h1 := hun k (Nat.le_refl _) h false
        rw [hall k h false] at h1; cases h1
      · omega
    exact tail_ok hdf 0 rg.size L a w rfl (by omega) hL (fun i hi d => by rw [hall i hi d]; simp [hi]) (by
      have := htail a w (T.inv_congr (fun i hi => hall i (by omega) false) hinv)
      rw [hk] at this
      exact this)
  | succ fuel ih =>
    intro L a w hL hc hun hcl hinv
    by_cases hdone : ∀ i, i < k → L.getD i false = true
    · -- the first k are done
      have hl : ∀ i, i < rg.size → ∀ d, L.getD i d = decide (i < k) := by
        intro i hi d
        by_cases hik : i < k
        · have := hdone i hik
          have hlt : i < L.size := by omega
          simp only [Array.getD_eq_getD_getElem?, Array.getElem?_eq_getElem hlt, Option.getD_some] at this ⊢
          simp [this, hik]
        · rw [hun i (by omega) hi d]; simp [hik]
      have hcount : k + (fuel + 1) = rg.size := by
        have hLl : L.toList = (List.replicate k true) ++ List.replicate (rg.size - k) false := by
          apply List.ext_getElem?
          intro i
          by_cases hi : i < rg.size
          · have h1 := hl i hi false
            have hlt : i < L.size := by omega
            rw [Array.getElem?_toList, Array.getElem?_eq_getElem hlt]
            simp only [Array.getD_eq_getD_getElem?, Array.getElem?_eq_getElem hlt, Option.getD_some] at h1
            rw [h1]
            by_cases hik : i < k
            · rw [List.getElem?_append_left (by simpa using hik), List.getElem?_replicate, if_pos hik]; simp [hik]
            · rw [List.getElem?_append_right (by simpa using Nat.le_of_not_lt hik), List.getElem?_replicate, if_pos (by simp; omega)]; simp [hik]
          · rw [List.getElem?_eq_none (by simp; omega), List.getElem?_eq_none (by simp; omega)]
        rw [hLl] at hc
        simp at hc
        omega
      exact tail_ok hdf (fuel + 1) k L a w hcount (Nat.le_refl _) hL hl (htail a w (T.inv_congr (fun i hi => hdone i hi) hinv))
    · -- one of the first k is not
      have hex : ∃ i, i < k ∧ L.getD i false = false ∧ ∀ j, j < i → L.getD j false = true := by
        have : ∃ i, i < k ∧ L.getD i false = false := by
          simp only [Classical.not_forall, Bool.not_eq_true] at hdone
          obtain ⟨i, hi, h⟩ := hdone
          exact ⟨i, hi, h⟩
        obtain ⟨i, hi, h⟩ := this
        induction i using Nat.strongRecOn with
        | _ i ihh =>
          by_cases hj : ∃ j, j < i ∧ L.getD j false = false
          · obtain ⟨j, hji, hjf⟩ := hj
            exact ihh j hji (by omega) hjf
          · refine ⟨i, hi, h, fun j hji => ?_⟩
            cases hv : L.getD j false with
            | true => rfl
            | false => exact absurd ⟨j, hji, hv⟩ hj
      obtain ⟨i0, hi0, hf0, hm0⟩ := hex
      have conv : ∀ i, i < rg.size → ∀ d, L.getD i d = L.getD i false := by
        intro i hi d
        have hlt : i < L.size := by omega
        simp only [Array.getD_eq_getD_getElem?, Array.getElem?_eq_getElem hlt, Option.getD_some]
      have hrdy : i0 ∈ Region.ready .any rg L := by
        have hlt : i0 < rg.size := by omega
        have ho : rg[i0]? = some rg[i0] := Array.getElem?_eq_getElem hlt
        exact mem_ready.2 ⟨hlt, by rw [conv i0 hlt true]; exact hf0, rg[i0], ho, fun x hx => hm0 x (dfOk_edges hdf ho x hx)⟩
      refine ⟨fun hh => (by rw [hh] at hrdy; cases hrdy), fun i hi => ?_⟩
      obtain ⟨h1, h2, o, ho, h3⟩ := mem_ready.1 hi
      rw [conv i h1 true] at h2
      have hik : i < k := by
        by_cases hh : i < k
        · exact hh
        · have := (dfOk_tail hdf ho (by omega) i0 (by omega)).done (k := rg.size) (D := fun x => L.getD x false) (fun y o' hy hyd ho' x hx => by
            by_cases hyk : y < k
            · exact hcl y o' hyk hyd ho' x hx
            · have := hun y (by omega) hy false
              simp only [this] at hyd
              cases hyd) (by omega) h3
          simp only [hf0] at this; cases this
      refine T.step_any hdf hnt hik (D := fun i => L.getD i false) h2 hcl (fun o' ho' x hx => ?_) hinv (fun a' w' hinv' => ?_)
      · rw [ho] at ho'; cases ho'; exact h3 x hx
      · have hset : ∀ d x, (L.setIfInBounds i true).getD x d = if x = i then true else L.getD x d := fun d x => getD_set (by omega) d x
        refine ih (L.setIfInBounds i true) a' w' (by simp [hL]) ?_ ?_ ?_ ?_
        · have hlt : i < L.size := by omega
          have hLi : L[i] = false := by
            simp only [Array.getD_eq_getD_getElem?, Array.getElem?_eq_getElem hlt, Option.getD_some] at h2
            exact h2
          have hfl : ∀ (l : List Bool) (i : Nat), l[i]? = some false → ((l.set i true).filter (fun b => !b)).length + 1 = (l.filter (fun b => !b)).length := by
            intro l
            induction l with
            | nil => intro i h; simp at h
            | cons x l ihl =>
              intro i h
              cases i with
              | zero => simp at h; subst h; simp
              | succ i =>
                simp at h
                have := ihl i h
                cases x <;> simp <;> omega
          have := hfl L.toList i (by rw [Array.getElem?_toList, Array.getElem?_eq_getElem hlt, hLi])
          rw [Array.toList_setIfInBounds]
          omega
        · intro x hx hxs d
          rw [hset d x, if_neg (by omega)]
          exact hun x hx hxs d
        · intro j o' hj hjt ho' x hx
          rw [hset false x]
          by_cases hxi : x = i
          · rw [if_pos hxi]
          · rw [if_neg hxi]
            rw [hset false j] at hjt
            by_cases hji : j = i
            · subst hji
              rw [ho] at ho'; cases ho'
              exact h3 x hx
            · rw [if_neg hji] at hjt
              exact hcl j o' hj hjt ho' x hx
        · refine T.inv_congr (fun x _ => ?_) hinv'
          rw [hset false x]
end

/-- THE REGION THAT DRAWS. -/
theorem Sm.draw {P : Program} {nt : Nat} {C : Cx} {r : List It} {id k : Nat} {rg : Array Oper} {e0 e : Env} {M0 Mf M : Mem} (hmix : P.follows .mixedOrders = true) (hdf : dfOk rg k = true) (hnt : rg.all (fun o => dstOk nt o.dst) = true)
    {TT : List (Nat × Nat)} (htr : Tr P C.S C.w0 rg e0 M0 Mf (rg.toList.take k) e M TT) (hS : Sm P nt C (.ops rg (rg.toList.drop k) :: r) e M) : Sm P nt C (.code (.region id rg true) :: r) e0 Mf := by
  have hkle := dfOk_le hdf
  have hlen : (rg.toList.take k).length = k := by simp; omega
  obtain ⟨T, hE, hM⟩ : ∃ T : Tf P C.S C.w0 rg e0 M0 Mf k, T.E k = e ∧ T.MM k = M := by
    have h := htr.fn (fun i hi => by
      rw [hlen] at hi
      rw [List.getElem?_take, if_pos hi, Array.getElem?_toList])
    rw [hlen] at h
    obtain ⟨T, h, _⟩ := h
    exact ⟨T, h⟩
  intro β a w h1 h2 h3 h4
  have hfalse : ∀ j, T.mem (fun _ => false) j = Mf ∧ T.env (fun _ => false) j = e0 := by
    intro j
    induction j with
    | zero => exact ⟨rfl, rfl⟩
    | succ j ih =>
      refine ⟨by simp [Tf.mem, ih.1], ?_⟩
      rw [Tf.env]
      cases rg[j]? <;> simp [ih.2]
  refine wp_region_any hmix (draw_ok T hdf (S := C.S) (w0 := C.w0) (nt := nt) (fun i o _ ho t ht => ?_) (fun a w hinv => ?_) rg.size _ a _ (by simp) (by simp) (fun i _ hi d => by simp [hi]) (fun j o _ hj => by
    by_cases hjs : j < rg.size
    · simp [hjs] at hj
    · simp [hjs] at hj) (T.inv_congr (D := fun _ => false) (fun i hi => by
      have : i < rg.size := by omega
      simp [this]) ⟨β, ?_, ?_, h3, h4⟩))
  · rw [Array.all_eq_true_iff_forall_mem] at hnt
    have := hnt o (Array.mem_of_getElem? ho)
    rw [ht] at this
    simpa [dstOk] using this
  · obtain ⟨β', g1, g2, g3, g4⟩ := hinv
    rw [T.mem_all _ k (Nat.le_refl _) (fun _ _ => rfl), hM] at g1 g2
    rw [T.env_all _ k (Nat.le_refl _) (fun _ _ => rfl), hE] at g2
    exact hS β' a w g1 g2 g3 g4
  · rw [(hfalse k).1]; exact h1.drew
  · rw [(hfalse k).1, (hfalse k).2]; exact h2

/-! ### The run through such a region -/
def freshB (N M : Mem) : Bool := N.all fun p => (M.get p.1).isNone
theorem freshB_ok {N M : Mem} (h : freshB N M = true) : ∀ n, (N.get n).isSome = true → M.get n = none := by
  intro n hn
  induction N with
  | nil => cases hn
  | cons p N ih =>
    obtain ⟨k, b⟩ := p
    simp only [freshB, List.all_cons, Bool.and_eq_true] at h
    simp only [Mem.get] at hn
    cases hk : (k == n) with
    | true => have : k = n := by simpa using hk
              subst this
              simpa using h.1
    | false => rw [hk] at hn; exact ih h.2 hn
/-- Who has touched the names of N comes ahead of o. -/
def touchB (T : List (Nat × Nat)) (o : Oper) (N : Mem) : Bool := N.all fun p => T.all fun q => !(q.1 == p.1) || (aft o).contains q.2
def ownB (N M0 Ms M : Mem) : Bool := N.all fun p => (M0.get p.1).isNone && ((Ms.get p.1).isSome || (M.get p.1).isNone)
/-- Where an operation stores into what was made behind the start: that block. -/
def seenX (e : Env) (M0 M : Mem) : Op → Option (Nat × Bk)
  | .store _ x _ => match rd e x with
    | some (_, .c (.p n _)) => match M0.get n with
      | some _ => none
      | none => match M.get n with
        | some b => some (n, b)
        | none => none
    | _ => none
  | _ => none
/-- The memory that an operation is seen on. -/
def seenM (x : Option (Nat × Bk)) (M0 : Mem) : Mem :=
  match x with
  | some p => p :: M0
  | none => M0
def seenB (x : Option (Nat × Bk)) (N : Mem) : Bool :=
  match x with
  | some p => (N.get p.1).isSome
  | none => true
theorem snoc_hf {rg : Array Oper} {b : Nat} {T : List (Nat × Nat)} {o : Oper} {N M0 Ms M : Mem} (h1 : ownB N M0 Ms M = true) (h2 : touchB T o N = true) : ∀ n, (N.get n).isSome = true → M0.get n = none ∧ ((Ms.get n).isSome = true ∨ M.get n = none) ∧ ∀ i, (n, i) ∈ T → Anc rg b i o := by
  intro n hn
  obtain ⟨p, hp, hp1⟩ := List.mem_map.1 (Mem.mem_of_get' hn)
  subst hp1
  have k1 := List.all_eq_true.1 h1 p hp
  have k2 := List.all_eq_true.1 h2 p hp
  simp only [Bool.and_eq_true, Bool.or_eq_true, Option.isNone_iff_eq_none] at k1
  refine ⟨k1.1, k1.2, fun i hi => ?_⟩
  have := List.all_eq_true.1 k2 _ hi
  exact .base (by simpa using this)
theorem seenM_ok {e : Env} {M0 M N : Mem} {op : Op} (h : seenB (seenX e M0 M op) N = true) : ∀ n b, (seenM (seenX e M0 M op) M0).get n = some b → M0.get n = some b ∨ ((N.get n).isSome = true ∧ M.get n = some b) := by
  intro n b hb
  cases hx : seenX e M0 M op with
  | none => rw [hx] at hb; exact .inl hb
  | some p =>
    obtain ⟨m, c⟩ := p
    rw [hx] at hb h
    have hm : M0.get m = none ∧ M.get m = some c := by
      unfold seenX at hx
      split at hx <;> first | (cases hx; done) | skip
      split at hx <;> first | (cases hx; done) | skip
      split at hx <;> first | (cases hx; done) | skip
      rename_i h0
      split at hx <;> simp at hx
      rename_i h1
      obtain ⟨rfl, rfl⟩ := hx
      exact ⟨h0, h1⟩
    simp only [seenM, Mem.get] at hb
    by_cases hmn : m = n
    · subst hmn
      simp at hb
      subst hb
      exact .inr ⟨h, hm.2⟩
    · have : (m == n) = false := by simpa using hmn
      rw [this] at hb
      exact .inl (by simpa using hb)
def DrS (P : Program) (nt : Nat) (C : Cx) (id : Nat) (rg : Array Oper) (r : List It) (e0 : Env) (M0 Mf : Mem) (k : Nat) (T : List (Nat × Nat)) (i : Nat) (l : List Oper) (e : Env) (M : Mem) : Prop :=
  P.follows .mixedOrders = true → dfOk rg k = true → rg.all (fun o => dstOk nt o.dst) = true → ∀ done, done.length = i → done ++ l = rg.toList.take k → Tr P C.S C.w0 rg e0 M0 Mf done e M T → Sm P nt C (.code (.region id rg true) :: r) e0 Mf
/-- A call's names in the trace. -/
def touchN (N : Mem) (i : Nat) (T : List (Nat × Nat)) : List (Nat × Nat) := N.map (fun p => (p.1, i)) ++ T
def DCallQ (P : Program) (nt : Nat) (C : Cx) (id : Nat) (rg : Array Oper) (r : List It) (e0 : Env) (M0 Mf : Mem) (k : Nat) (T : List (Nat × Nat)) (i : Nat) (o : Oper) (f : FuncId) (vs : List (Option (Bool × V))) (g : Bool) (dst : Option Nat) (l : List Oper) (e : Env) (M : Mem) : Prop :=
  ∃ (M1 N Ms : Mem) (v : V) (xs : List V), (g = true → vs = xs.map fun x => some (true, x)) ∧ (g = true → CallAny P f xs M1 v N) ∧ Sub M1 Ms ∧ ClM M1 ∧ Fresh N M1 Ms ∧ (g = true ∨ N = []) ∧ ((∀ n b, Ms.get n = some b → M0.get n = some b ∨ ((N.get n).isSome = true ∧ M.get n = some b)) ∧ (∀ n, (N.get n).isSome = true → M0.get n = none ∧ ((Ms.get n).isSome = true ∨ M.get n = none) ∧ ∀ j, (n, j) ∈ T → Anc rg i j o)) ∧ DrS P nt C id rg r e0 M0 Mf k (touchN N i T) (i + 1) l (e.put dst g v) (N ++ M)
def DOpQ (P : Program) (nt : Nat) (C : Cx) (id : Nat) (rg : Array Oper) (r : List It) (e0 : Env) (M0 Mf : Mem) (k : Nat) (T : List (Nat × Nat)) (i : Nat) (o : Oper) (g : Bool) (l : List Oper) (e : Env) (M : Mem) : Prop :=
  ∃ (N Ms : Mem) (v : V), (g = true → StpC P C.S C.w0 o e Ms v N) ∧ (g = true ∨ N = []) ∧ ((∀ n b, Ms.get n = some b → M0.get n = some b ∨ ((N.get n).isSome = true ∧ M.get n = some b)) ∧ (∀ n, (N.get n).isSome = true → M0.get n = none ∧ ((Ms.get n).isSome = true ∨ M.get n = none) ∧ ∀ j, (n, j) ∈ T → Anc rg i j o)) ∧ DrS P nt C id rg r e0 M0 Mf k (touchN N i T) (i + 1) l (e.put o.dst g v) (N ++ M)
/-- What comes behind such a region; not to be unfolded ahead of its time. -/
def kontW (P : Program) (nt : Nat) (C : Cx) (todo : List It) (e : Env) (M : Mem) (nx : Nat) : Prop := run P nt C 1000 todo e M nx
@[go_sem] theorem kontW_go (P : Program) (nt : Nat) (C : Cx) (todo : List It) (e : Env) (M : Mem) (nx : Nat) : kontW P nt C todo e M nx = run P nt C 1000 todo e M nx := rfl
def runD (P : Program) (nt : Nat) (C : Cx) (id : Nat) (rg : Array Oper) (r : List It) (e0 : Env) (M0 Mf : Mem) (k : Nat) (kont : Env → Mem → Nat → Prop) : List (Nat × Nat) → Nat → List Oper → Env → Mem → Nat → Prop
  | _, _, [], e, M, nx => kont e M nx
  | T, i, o :: l, e, M, nx =>
    match gd rg e o with
    | none => DrS P nt C id rg r e0 M0 Mf k T i (o :: l) e M
    | some g =>
      match opE P e (seenM (seenX e M0 M o.op) M0) nx o.dst.isNone o.op with
      | some (sc, v, N, nx') => ((g = true → sc) ∧ (g = true ∨ N = []) ∧ ownB N M0 (seenM (seenX e M0 M o.op) M0) M = true ∧ touchB T o N = true ∧ seenB (seenX e M0 M o.op) N = true) ∧ runD P nt C id rg r e0 M0 Mf k kont (touchN N i T) (i + 1) l (e.put o.dst g v) (N ++ M) nx'
      | none =>
        match opY P e M0 nx o.op with
        | some (sc, v, N, nx') => ((g = true → sc) ∧ (g = true ∨ N = []) ∧ ownB N M0 M0 M = true ∧ touchB T o N = true) ∧ runD P nt C id rg r e0 M0 Mf k kont (touchN N i T) (i + 1) l (e.put o.dst g v) (N ++ M) nx'
        | none =>
          match callOf e o.op with
          | some (g', f, vs) => (g = true → g' = true) ∧ DCallQ P nt C id rg r e0 M0 Mf k T i o f vs g o.dst l e M
          | none => DOpQ P nt C id rg r e0 M0 Mf k T i o g l e M
theorem runD_ok {P : Program} {nt : Nat} {C : Cx} {id : Nat} {rg : Array Oper} {r : List It} {e0 : Env} {M0 Mf : Mem} {k : Nat} {kont : Env → Mem → Nat → Prop} (hk : ∀ e M nx, kont e M nx → Sm P nt C (.ops rg (rg.toList.drop k) :: r) e M) :
    ∀ (l : List Oper) (T : List (Nat × Nat)) (i : Nat) (e : Env) (M : Mem) (nx : Nat), runD P nt C id rg r e0 M0 Mf k kont T i l e M nx → DrS P nt C id rg r e0 M0 Mf k T i l e M := by
  intro l
  induction l with
  | nil =>
    intro T i e M nx h hmix hdf hnt done hi hd htr
    rw [List.append_nil] at hd
    subst hd
    exact Sm.draw hmix hdf hnt htr (hk e M nx h)
  | cons o l ih =>
    intro T i e M nx h hmix hdf hnt done hi hd htr
    have hd' : (done ++ [o]) ++ l = rg.toList.take k := by simpa using hd
    have hi' : (done ++ [o]).length = i + 1 := by simp [hi]
    subst hi
    have hM0 : ∀ (N : Mem) n b, M0.get n = some b → M0.get n = some b ∨ ((N.get n).isSome = true ∧ M.get n = some b) := fun _ _ _ h => .inl h
    simp only [runD] at h
    split at h
    · exact h hmix hdf hnt done rfl hd htr
    · rename_i g hg
      split at h
      · rename_i sc v N nx' hop
        obtain ⟨⟨h1, h2, h3, h3', h3''⟩, h4⟩ := h
        exact ih _ _ _ _ _ h4 hmix hdf hnt _ hi' hd' (.snoc htr hg (fun hgt => (opE_ok hop (h1 hgt)).toC) h2 (seenM_ok h3'') (snoc_hf h3 h3'))
      · split at h
        · rename_i sc v N nx' hop
          obtain ⟨⟨h1, h2, h3, h3'⟩, h4⟩ := h
          exact ih _ _ _ _ _ h4 hmix hdf hnt _ hi' hd' (.snoc htr hg (fun hgt => (opY_ok hop (h1 hgt)).toC) h2 (hM0 N) (snoc_hf h3 h3'))
        split at h
        · rename_i g' f vs hop
          obtain ⟨h0, M1, N, Ms, v, xs, k1, k2, k3, k4, k5, k6, k7, k8⟩ := h
          exact k8 hmix hdf hnt _ hi' hd' (.snoc htr hg (fun hgt => (Stp.callO (by rw [hop, h0 hgt]) (k1 hgt) (k2 hgt) k3 k4 k5).toC) k6 k7.1 k7.2)
        · obtain ⟨N, Ms, v, k1, k2, k3, k4⟩ := h
          exact k4 hmix hdf hnt _ hi' hd' (.snoc htr hg k1 k2 k3.1 k3.2)

/-! ### In the prover's hand -/
section
variable {P : Program} {nt : Nat} {C : Cx} {todo r : List It} {e e0 : Env} {M M0 Mf : Mem}
theorem Sm.go (nx : Nat) (h : run P nt C 1000 todo e M nx) : Sm P nt C todo e M := run_ok 1000 _ _ _ nx h
/-- Into a region that draws; k: how many of its operations come in an open order. -/
theorem Sm.dgo {id : Nat} {rg : Array Oper} (nx k : Nat) (hmix : P.follows .mixedOrders = true) (hdf : dfOk rg k = true) (hnt : rg.all (fun o => dstOk nt o.dst) = true)
    (h : runD P nt C id rg r e M M k (kontW P nt C (.ops rg (rg.toList.drop k) :: r)) [] 0 (rg.toList.take k) e M nx) : Sm P nt C (.code (.region id rg true) :: r) e M :=
  runD_ok (fun _ _ nx h => run_ok 1000 _ _ _ nx h) _ _ _ _ _ _ h hmix hdf hnt [] rfl rfl (.nil fun _ _ h => h)
/-- The memory without the names in W. -/
def Mem.wo (W : List Nat) : Mem → Mem
  | [] => []
  | (n, b) :: M => bif W.contains n then Mem.wo W M else (n, b) :: Mem.wo W M
theorem Mem.wo_get {W : List Nat} : ∀ {M : Mem} {n : Nat} {b : Bk}, (Mem.wo W M).get n = some b → M.get n = some b
  | [], n, b, h => by cases h
  | (k, c) :: M, n, b, h => by
    have hW : ∀ {M : Mem} {n : Nat} {b : Bk}, (Mem.wo W M).get n = some b → W.contains n = false := by
      intro M
      induction M with
      | nil => intro n b h; cases h
      | cons p M ih =>
        obtain ⟨j, d⟩ := p
        intro n b h
        simp only [Mem.wo] at h
        cases hw : W.contains j with
        | true => rw [hw] at h; exact ih h
        | false =>
          rw [hw] at h
          simp only [cond_false, Mem.get] at h
          cases hj : (j == n) with
          | true => have : j = n := by simpa using hj
                    subst this; exact hw
          | false => rw [hj] at h; exact ih h
    have hn := hW h
    simp only [Mem.wo] at h
    simp only [Mem.get]
    cases hw : W.contains k with
    | true =>
      rw [hw] at h
      have hk : (k == n) = false := by
        rw [beq_eq_false_iff_ne]
        intro e
        rw [e, hn] at hw; cases hw
      rw [hk]
      exact Mem.wo_get (M := M) h
    | false =>
      rw [hw] at h
      simp only [cond_false, Mem.get] at h
      cases hk : (k == n) with
      | true => rw [hk] at h; exact h
      | false => rw [hk] at h; exact Mem.wo_get (M := M) h
/-- The same, where operations in an open order store into the blocks of W (and none of them reads those). -/
theorem Sm.dgoW {id : Nat} {rg : Array Oper} (W : List Nat) (nx k : Nat) (hmix : P.follows .mixedOrders = true) (hdf : dfOk rg k = true) (hnt : rg.all (fun o => dstOk nt o.dst) = true)
    (h : runD P nt C id rg r e (Mem.wo W M) M k (kontW P nt C (.ops rg (rg.toList.drop k) :: r)) [] 0 (rg.toList.take k) e M nx) : Sm P nt C (.code (.region id rg true) :: r) e M :=
  runD_ok (fun _ _ nx h => run_ok 1000 _ _ _ nx h) _ _ _ _ _ _ h hmix hdf hnt [] rfl rfl (.nil fun _ _ h => Mem.wo_get h)
theorem DrS.go {id : Nat} {rg : Array Oper} {k : Nat} {T : List (Nat × Nat)} {i : Nat} {l : List Oper} (nx : Nat) (h : runD P nt C id rg r e0 M0 Mf k (kontW P nt C (.ops rg (rg.toList.drop k) :: r)) T i l e M nx) : DrS P nt C id rg r e0 M0 Mf k T i l e M :=
  runD_ok (fun _ _ nx h => run_ok 1000 _ _ _ nx h) _ _ _ _ _ _ h
theorem Sub.nil (M : Mem) : Sub [] M := fun _ _ h => by cases h
theorem ClM.nil : ClM [] := fun _ _ _ _ _ h => by cases h
theorem Fresh.nil (M M' : Mem) : Fresh [] M M' := fun _ h => by cases h
/-- A call of a function that makes nothing that matters. -/
theorem CallQ.pure {f : FuncId} {vs : List (Option (Bool × V))} {g : Bool} {dst : Option Nat} {xs : List V} {v : V} (nx : Nat) (hc : CallOk P f xs [] v []) (hvs : vs = xs.map fun x => some (true, x)) (h : run P nt C 1000 todo (e.put dst g v) M nx) :
    CallQ P nt C f vs g dst todo e M := .inl ⟨[], [], v, xs, fun _ => hvs, fun _ => .inl hc, Sub.nil _, ClM.nil, Fresh.nil _ _, .inr rfl, run_ok 1000 _ _ _ nx h⟩
theorem DCallQ.pure {id : Nat} {rg : Array Oper} {k : Nat} {T : List (Nat × Nat)} {i : Nat} {o : Oper} {l : List Oper} {f : FuncId} {vs : List (Option (Bool × V))} {g : Bool} {dst : Option Nat} {xs : List V} {v : V} (nx : Nat) (hc : CallOk P f xs [] v []) (hvs : vs = xs.map fun x => some (true, x))
    (h : runD P nt C id rg r e0 M0 Mf k (kontW P nt C (.ops rg (rg.toList.drop k) :: r)) T (i + 1) l (e.put dst g v) M nx) : DCallQ P nt C id rg r e0 M0 Mf k T i o f vs g dst l e M :=
  ⟨[], [], M0, v, xs, fun _ => hvs, fun _ => .inl hc, Sub.nil _, ClM.nil, Fresh.nil _ _, .inr rfl, ⟨fun _ _ h => .inl h, fun _ h => by cases h⟩, DrS.go nx h⟩
theorem CallQ.ext {f : FuncId} {vs : List (Option (Bool × V))} {g : Bool} {dst : Option Nat} {xs : List V} {v : V} (nx : Nat) (hc : ExtOk P f xs v) (hvs : vs = xs.map fun x => some (true, x)) (h : run P nt C 1000 todo (e.put dst g v) M nx) :
    CallQ P nt C f vs g dst todo e M := .inl ⟨[], [], v, xs, fun _ => hvs, fun _ => .inr ⟨rfl, hc⟩, Sub.nil _, ClM.nil, Fresh.nil _ _, .inr rfl, run_ok 1000 _ _ _ nx h⟩
theorem DCallQ.ext {id : Nat} {rg : Array Oper} {k : Nat} {T : List (Nat × Nat)} {i : Nat} {o : Oper} {l : List Oper} {f : FuncId} {vs : List (Option (Bool × V))} {g : Bool} {dst : Option Nat} {xs : List V} {v : V} (nx : Nat) (hc : ExtOk P f xs v) (hvs : vs = xs.map fun x => some (true, x))
    (h : runD P nt C id rg r e0 M0 Mf k (kontW P nt C (.ops rg (rg.toList.drop k) :: r)) T (i + 1) l (e.put dst g v) M nx) : DCallQ P nt C id rg r e0 M0 Mf k T i o f vs g dst l e M :=
  ⟨[], [], M0, v, xs, fun _ => hvs, fun _ => .inr ⟨rfl, hc⟩, Sub.nil _, ClM.nil, Fresh.nil _ _, .inr rfl, ⟨fun _ _ h => .inl h, fun _ h => by cases h⟩, DrS.go nx h⟩
/-- Under a guard. -/
theorem CallQ.guard {f : FuncId} {vs : List (Option (Bool × V))} {g : Bool} {dst : Option Nat} {xs : List V} {v : V} (nx : Nat) (hc : g = true → CallOk P f xs [] v []) (hvs : g = true → vs = xs.map fun x => some (true, x)) (h : run P nt C 1000 todo (e.put dst g v) M nx) :
    CallQ P nt C f vs g dst todo e M := .inl ⟨[], [], v, xs, hvs, fun h => .inl (hc h), Sub.nil _, ClM.nil, Fresh.nil _ _, .inr rfl, run_ok 1000 _ _ _ nx h⟩
theorem DCallQ.guard {id : Nat} {rg : Array Oper} {k : Nat} {T : List (Nat × Nat)} {i : Nat} {o : Oper} {l : List Oper} {f : FuncId} {vs : List (Option (Bool × V))} {g : Bool} {dst : Option Nat} {xs : List V} {v : V} (nx : Nat) (hc : g = true → CallOk P f xs [] v []) (hvs : g = true → vs = xs.map fun x => some (true, x))
    (h : runD P nt C id rg r e0 M0 Mf k (kontW P nt C (.ops rg (rg.toList.drop k) :: r)) T (i + 1) l (e.put dst g v) M nx) : DCallQ P nt C id rg r e0 M0 Mf k T i o f vs g dst l e M :=
  ⟨[], [], M0, v, xs, hvs, fun h => .inl (hc h), Sub.nil _, ClM.nil, Fresh.nil _ _, .inr rfl, ⟨fun _ _ h => .inl h, fun _ h => by cases h⟩, DrS.go nx h⟩
/-- The contract of a function that neither is given nor makes memory that matters. -/
theorem CallOk.mk {P : Program} {f : FuncId} {fn : Func} {body : Code} {args : List V} {v : V} (nx : Nat) (hf : P.funcs[f]? = some fn) (hb : fn.body = some body) (hent : Enters P f) (hnt : args.length ≤ fn.ntmps) (hcl : ∀ x ∈ args, ClV [] x)
    (h : ∀ C, RetOk P C fn v [] → run P fn.ntmps C 1000 [.code body] (initE 0 args) [] nx) : CallOk P f args [] v [] :=
  CallOk.intro hf hb hent hnt (fun _ _ h => by cases h) (fun _ _ _ h => by cases h) hcl (fun C hR _ => run_ok 1000 _ _ _ nx (h C hR))
theorem RetQ.pure {fn : Func} {v : V} {e : Env} {M : Mem} (hR : RetOk P C fn v []) {sc : Prop} {u : V} (hres : resE P e M fn.results.toList = some (sc, u)) (hs : sc) (hv : u = v) (hcv : ClV [] v) : RetQ C e M :=
  RetQ.of hR hres hs hv (Sub.nil _) ClM.nil hcv
end
def EnvLe : Env → Env → Prop
  | [], _ => True
  | (t, x) :: r, e' => e'.get t = some x ∧ EnvLe r e'
theorem EnvLe.ok {e' : Env} : ∀ {e : Env}, EnvLe e e' → ∀ t y, e.get t = some y → e'.get t = some y
  | [], _, t, y, h => by cases h
  | (k, x) :: r, hle, t, y, h => by
    simp only [Env.get] at h
    cases hk : (k == t) with
    | true =>
      rw [hk] at h
      have : k = t := by simpa using hk
      subst this
      simp at h
      subst h
      exact hle.1
    | false =>
      rw [hk] at h
      exact EnvLe.ok hle.2 t y h
theorem Env.mem_of_get : ∀ {e : Env} {t : Nat} {y : Bool × V}, e.get t = some y → (t, y) ∈ e
  | [], t, y, h => by cases h
  | (k, x) :: r, t, y, h => by
    simp only [Env.get] at h
    cases hk : (k == t) with
    | true =>
      rw [hk] at h
      have : k = t := by simpa using hk
      subst this
      simp at h
      subst h
      simp
    | false =>
      rw [hk] at h
      exact List.mem_cons_of_mem _ (Env.mem_of_get h)
theorem Wkn.mk {S : Bs} {e e' : Env} {M M' : Mem} (he : EnvLe e e') (hm : Sub M M') (hcm : ClM M) (hce : ∀ p ∈ e, ClV M p.2.2) (hp : ∀ n l, S.pin n = some l → (M.get n).isSome = true) : Wkn S e M e' M' := by
  intro w0 β a w hrel hen
  refine ⟨β, ⟨hrel.fr, hrel.mem.sub hm hcm, fun n b hb hr hu hS => ?_, fun n l hl => ⟨hp n l hl, (hrel.pin n l hl).2⟩⟩, fun β' hag t y hy => ?_⟩
  · obtain ⟨b', hb', hw⟩ := hm n b hb
    rcases hw with rfl | ⟨h1, _⟩
    · exact hrel.own n _ hb' hr hu hS
    · rw [hr] at h1; cases h1
  · have h1 := hen β (Agree.refl _ _) t y (he.ok t y hy)
    have h2 := hce (t, y) (Env.mem_of_get hy) β β' hag
    rw [h1]
    unfold gv
    simp only at h2
    rw [h2]
/-- A loop over states without memory that matters. -/
theorem Sm.loopP {P : Program} {nt : Nat} {C : Cx} {r : List It} {e : Env} {M : Mem} {fn : Func} {v : V} {α : Type} {b : Code} (hR : RetOk P C fn v []) (E : α → Env) (m : α → Nat) (x0 : α) (hcl : ∀ x, ∀ p ∈ E x, ClV [] p.2.2) (h0 : EnvLe (E x0) e)
    (round : ∀ (x : α) (J : Act → World → Prop), (∀ e' M', (∃ x', m x' < m x ∧ EnvLe (E x') e') → Sm P nt C (.stop J :: r) e' M') → Sm P nt C (.code b :: .stop J :: r) (E x) []) :
    Sm P nt C (.code (.loop b) :: r) e M :=
  have hp : ∀ n l, C.S.pin n = some l → (Mem.get [] n).isSome = true := fun n l h => hR.1 n l h
  Sm.loop E (fun _ => []) m x0 (Wkn.mk h0 (Sub.nil _) ClM.nil (hcl x0) hp) fun x J hb => round x J fun e' M' ⟨x', h1, h2⟩ => hb e' M' ⟨x', h1, Wkn.mk h2 (Sub.nil _) ClM.nil (hcl x') hp⟩
theorem RetQ.int {P : Program} {C : Cx} {fn : Func} {k : IntKind} {n m : Int} {e : Env} {M : Mem} (hR : RetOk P C fn (.c (.v (.int k n))) []) {sc : Prop} (hres : resE P e M fn.results.toList = some (sc, .c (.v (.int k m)))) (hs : sc) (hv : m = n) : RetQ C e M :=
  RetQ.pure hR hres hs (by rw [hv]) (fun _ _ _ => rfl)
theorem RetQ.bool {P : Program} {C : Cx} {fn : Func} {n m : Bool} {e : Env} {M : Mem} (hR : RetOk P C fn (.c (.v (.bool n))) []) {sc : Prop} (hres : resE P e M fn.results.toList = some (sc, .c (.v (.bool m)))) (hs : sc) (hv : m = n) : RetQ C e M :=
  RetQ.pure hR hres hs (by rw [hv]) (fun _ _ _ => rfl)
theorem RetQ.int2 {P : Program} {C : Cx} {fn : Func} {k k' : IntKind} {n m n' m' : Int} {e : Env} {M : Mem} (hR : RetOk P C fn (.tup [.c (.v (.int k n)), .c (.v (.int k' n'))]) []) {sc : Prop} (hres : resE P e M fn.results.toList = some (sc, .tup [.c (.v (.int k m)), .c (.v (.int k' m'))])) (hs : sc) (hv : m = n) (hv' : m' = n') : RetQ C e M :=
  RetQ.pure hR hres hs (by rw [hv, hv']) (fun _ _ _ => rfl)
def Cv.isV : Cv → Bool
  | .v _ => true
  | _ => false
theorem Cv.isV_g {x : Cv} (h : x.isV = true) (β β' : Vl) : x.g β' = x.g β := by cases x <;> first | rfl | cases h
theorem Mem.mem_of_get : ∀ {M : Mem} {n : Nat} {b : Bk}, M.get n = some b → (n, b) ∈ M
  | [], n, b, h => by cases h
  | (k, c) :: r, n, b, h => by
    simp only [Mem.get] at h
    cases hk : (k == n) with
    | true =>
      rw [hk] at h
      have : k = n := by simpa using hk
      subst this
      simp at h
      subst h
      simp
    | false =>
      rw [hk] at h
      exact List.mem_cons_of_mem _ (Mem.mem_of_get h)
theorem ClM.v {M : Mem} (h : M.all (fun p => p.2.cells.all Cv.isV) = true) : ClM M := by
  intro β β' _ n b hb
  have h1 := List.all_eq_true.1 h (n, b) (Mem.mem_of_get hb)
  refine List.map_congr_left fun x hx => ?_
  exact Cv.isV_g (List.all_eq_true.1 h1 x hx) β β'
/-- Literals need no wrap. -/
@[go_sem] theorem wrapL {n : Int} (h1 : -9223372036854775808 ≤ n) (h2 : n ≤ 9223372036854775807) : IntKind.i64.wrap n = n := IntWalk.i64_in n ⟨h1, h2⟩
/-- The contract of a function that is given memory and makes none that matters. -/
theorem CallOk.mkM {P : Program} {f : FuncId} {fn : Func} {body : Code} {args : List V} {v : V} {M : Mem} (nx : Nat) (hf : P.funcs[f]? = some fn) (hb : fn.body = some body) (hent : Enters P f) (hnt : args.length ≤ fn.ntmps) (hcl : ∀ x ∈ args, ClV M x)
    (h : ∀ C, RetOk P C fn v M → run P fn.ntmps C 1000 [.code body] (initE 0 args) M nx) : CallOk P f args M v [] :=
  CallOk.intro hf hb hent hnt (fun _ _ h => by cases h) (fun _ _ _ h => by cases h) hcl (fun C hR _ => run_ok 1000 _ _ _ nx (h C hR))
theorem CallQ.mem {P : Program} {nt : Nat} {C : Cx} {todo : List It} {e : Env} {M : Mem} {f : FuncId} {vs : List (Option (Bool × V))} {g : Bool} {dst : Option Nat} {xs : List V} {v : V} {M1 : Mem} (nx : Nat) (hc : CallOk P f xs M1 v []) (hvs : vs = xs.map fun x => some (true, x)) (hs : Sub M1 M) (hcl : ClM M1) (h : run P nt C 1000 todo (e.put dst g v) M nx) :
    CallQ P nt C f vs g dst todo e M := .inl ⟨M1, [], v, xs, fun _ => hvs, fun _ => .inl hc, hs, hcl, Fresh.nil _ _, .inr rfl, run_ok 1000 _ _ _ nx h⟩
theorem Sub.one {M : Mem} {n : Nat} {b b' : Bk} (h : M.get n = some b') (hw : Wk b b') : Sub [(n, b)] M := fun k c hk => by
  simp only [Mem.get] at hk
  cases hkn : (n == k) with
  | true =>
    rw [hkn] at hk
    have : n = k := by simpa using hkn
    subst this
    simp at hk
    subst hk
    exact ⟨b', h, hw⟩
  | false => rw [hkn] at hk; cases hk
attribute [go_sem] EnvLe imp_self Bool.not_eq_true' cond_true cond_false true_and and_true and_self implies_true true_or or_true forall_const ne_eq not_false_eq_true decide_true decide_false beq_self_eq_true Option.isNone Option.bind_some Option.isNone_none Option.isNone_some Option.isSome_some Bool.true_and Bool.and_true beq_true beq_false Bool.not_true Bool.not_false eq_self Bool.true_eq_false Bool.false_eq_true false_implies true_implies or_false false_or and_false false_and List.map_cons List.map_nil List.all_cons List.all_nil List.take_succ_cons List.take_zero List.take_nil List.drop_succ_cons List.drop_zero List.drop_nil List.length_cons List.length_nil List.getElem?_cons_zero List.getElem?_cons_succ List.getElem?_toArray List.nil_append List.cons_append List.set_cons_zero List.set_cons_succ Nat.zero_add Nat.add_zero
attribute [go_sem] eqC eqE
attribute [go_sem] Mem.wo callOf run runD seenX seenM seenB ownB touchB touchN aft Region.binds List.filter Option.isSome_none Bool.true_or Bool.or_true Bool.false_or Bool.or_false Bool.or_self List.contains_cons List.contains_nil List.elem initE gd opE rd rdV Env.get Env.put cst dstOk exitTo Mem.get setL V.ok1 V.cells Cv.one Value.oneCell' binC unC pickV W.toV fillE freshB resE resL res1 V.toW
end Vg
end Go.Proofs.YtoioclmfjmgaaaaDoor
namespace Go.Proofs.YtoioclmfjmgaaaaDoor
namespace Vg
open Go.RowKit
/-- Names by a list; all others far away. -/
def rn : List (Nat × Nat) → Nat → Nat
  | [], k => k + 1000000
  | (a, b) :: r, k => bif a == k then b else rn r k
def rnOk : List (Nat × Nat) → Bool
  | [] => true
  | (_, b) :: r => decide (b < 1000000) && (r.all fun p => p.2 != b) && rnOk r
theorem rn_vals : ∀ (L : List (Nat × Nat)) (k : Nat), (∃ p ∈ L, rn L k = p.2) ∨ rn L k = k + 1000000
  | [], k => .inr rfl
  | (a, b) :: r, k => by
    simp only [rn]
    cases h : (a == k) with
    | true => exact .inl ⟨(a, b), by simp, rfl⟩
    | false =>
      rcases rn_vals r k with ⟨p, hp, h1⟩ | h1
      · exact .inl ⟨p, by simp [hp], by simpa using h1⟩
      · exact .inr (by simpa using h1)
theorem rnOk_lt : ∀ (L : List (Nat × Nat)), rnOk L = true → ∀ p ∈ L, p.2 < 1000000
  | [], _, p, hp => by cases hp
  | (a, b) :: r, h, p, hp => by
    simp only [rnOk, Bool.and_eq_true, decide_eq_true_eq] at h
    rcases List.mem_cons.1 hp with rfl | hp
    · exact h.1.1
    · exact rnOk_lt r h.2 p hp
theorem rn_inj : ∀ (L : List (Nat × Nat)), rnOk L = true → ∀ n m, rn L n = rn L m → n = m
  | [], _, n, m, h => by simp [rn] at h; exact h
  | (a, b) :: r, hL, n, m, h => by
    have hL' := hL
    simp only [rnOk, Bool.and_eq_true, decide_eq_true_eq, List.all_eq_true] at hL
    have key : ∀ k, rn r k ≠ b := by
      intro k hk
      rcases rn_vals r k with ⟨p, hp, h1⟩ | h1
      · have := hL.1.2 p hp
        simp at this
        exact this (by rw [← h1, hk])
      · omega
    simp only [rn] at h
    cases hn : (a == n) with
    | true =>
      cases hm : (a == m) with
      | true => simp at hn hm; omega
      | false => rw [hn, hm] at h; simp at h; exact absurd h.symm (key m)
    | false =>
      cases hm : (a == m) with
      | true => rw [hn, hm] at h; simp at h; exact absurd h (key n)
      | false => rw [hn, hm] at h; simp at h; exact rn_inj r hL.2 n m h
def SubS : Mem → Mem → Prop
  | [], _ => True
  | (n, b) :: r, M => (∃ b', M.get n = some b' ∧ Wk b b') ∧ SubS r M
theorem SubS.sub {M : Mem} : ∀ {M1 : Mem}, SubS M1 M → Sub M1 M
  | [], _, n, b, h => by cases h
  | (k, c) :: r, hs, n, b, h => by
    rw [Mem.get_cons] at h
    split at h
    · rename_i hk
      simp at h
      subst h hk
      exact hs.1
    · exact SubS.sub hs.2 n b h
theorem Fresh.of {N M1 M : Mem} (h : N.all (fun p => (M1.get p.1).isSome || (M.get p.1).isNone) = true) : Fresh N M1 M := by
  intro n hn
  obtain ⟨b, hb⟩ := Option.isSome_iff_exists.1 hn
  have := List.all_eq_true.1 h (n, b) (Mem.mem_of_get hb)
  simp at this
  rcases this with h | h
  · exact .inl h
  · exact .inr h
theorem ClM.ren {ρ : Nat → Nat} (hi : ∀ n m, ρ n = ρ m → n = m) {M : Mem} (h : ClM M) : ClM (M.ren ρ) := by
  intro β β' hag k b hb
  obtain ⟨n, c, rfl, hn, rfl⟩ := Mem.ren_some' hi hb
  have := h (fun n => β (ρ n)) (fun n => β' (ρ n)) (fun j hj => by
    obtain ⟨d, hd⟩ := Option.isSome_iff_exists.1 hj
    exact hag (ρ j) (by rw [Mem.ren_get hi, hd]; rfl)) n c hn
  simp only [Bk.ren, Cv.ren_gs]
  exact this
section
variable {P : Program} {nt : Nat} {C : Cx} {todo r : List It} {e e0 : Env} {M M0 Mf : Mem}
/-- A call under other names: what the contract calls a is here called b, for (a, b) in L. -/
theorem CallQ.ren {f : FuncId} {vs : List (Option (Bool × V))} {g : Bool} {dst : Option Nat} {xs : List V} {v : V} {M1 N : Mem} (L : List (Nat × Nat)) (nx : Nat) (hc : CallOk P f xs M1 v N) (hcl : ClM M1) (hL : rnOk L = true) (hvs : vs = (xs.map (V.ren (rn L))).map fun x => some (true, x))
    (hs : SubS (M1.ren (rn L)) M) (hfr : (N.ren (rn L)).all (fun p => ((M1.ren (rn L)).get p.1).isSome || (M.get p.1).isNone) = true) (hg : g = true ∨ N = []) (h : run P nt C 1000 todo (e.put dst g (v.ren (rn L))) (N.ren (rn L) ++ M) nx) : CallQ P nt C f vs g dst todo e M :=
  .inl ⟨M1.ren (rn L), N.ren (rn L), v.ren (rn L), xs.map (V.ren (rn L)), fun _ => hvs, fun _ => .inl (hc.ren (rn_inj L hL)), hs.sub, hcl.ren (rn_inj L hL), Fresh.of hfr, hg.imp (fun h => h) (fun h => by rw [h]; rfl), run_ok 1000 _ _ _ nx h⟩
theorem DCallQ.ren {id : Nat} {rg : Array Oper} {k : Nat} {T : List (Nat × Nat)} {i : Nat} {o : Oper} {l : List Oper} {f : FuncId} {vs : List (Option (Bool × V))} {g : Bool} {dst : Option Nat} {xs : List V} {v : V} {M1 N : Mem} (L : List (Nat × Nat)) (nx : Nat) (hc : CallOk P f xs M1 v N) (hcl : ClM M1) (hL : rnOk L = true) (hvs : vs = (xs.map (V.ren (rn L))).map fun x => some (true, x))
    (hs : SubS (M1.ren (rn L)) M0) (hfr : (N.ren (rn L)).all (fun p => ((M1.ren (rn L)).get p.1).isSome || (M0.get p.1).isNone) = true) (hg : g = true ∨ N = []) (hf2 : ownB (N.ren (rn L)) M0 M0 M = true) (hf3 : touchB T o (N.ren (rn L)) = true)
    (h : runD P nt C id rg r e0 M0 Mf k (kontW P nt C (.ops rg (rg.toList.drop k) :: r)) (touchN (N.ren (rn L)) i T) (i + 1) l (e.put dst g (v.ren (rn L))) (N.ren (rn L) ++ M) nx) : DCallQ P nt C id rg r e0 M0 Mf k T i o f vs g dst l e M :=
  ⟨M1.ren (rn L), N.ren (rn L), M0, v.ren (rn L), xs.map (V.ren (rn L)), fun _ => hvs, fun _ => .inl (hc.ren (rn_inj L hL)), hs.sub, hcl.ren (rn_inj L hL), Fresh.of hfr, hg.imp (fun h => h) (fun h => by rw [h]; rfl), ⟨fun _ _ h => .inl h, snoc_hf hf2 hf3⟩, DrS.go nx h⟩
end
def RenS (ρ : Nat → Nat) (M' : Mem) : List Nat → Mem → Prop
  | _, [] => True
  | seen, (n, b) :: r => (n ∈ seen ∨ ∃ b', M'.get (ρ n) = some b' ∧ Wk (b.ren ρ) b') ∧ RenS ρ M' (n :: seen) r
theorem RenS.sub {ρ : Nat → Nat} {M' : Mem} : ∀ {M : Mem} {seen : List Nat}, RenS ρ M' seen M → ∀ n b, n ∉ seen → M.get n = some b → ∃ b', M'.get (ρ n) = some b' ∧ Wk (b.ren ρ) b'
  | [], _, _, n, b, _, h => by cases h
  | (k, c) :: r, seen, hs, n, b, hns, h => by
    rw [Mem.get_cons] at h
    split at h
    · rename_i hk
      simp at h
      subst h hk
      rcases hs.1 with h | h
      · exact absurd h hns
      · exact h
    · rename_i hk
      exact RenS.sub hs.2 n b (by simp only [List.mem_cons, not_or]; exact ⟨hk, hns⟩) h
theorem RenS.ok {L : List (Nat × Nat)} {M M' : Mem} (hL : rnOk L = true) (h : RenS (rn L) M' [] M) : RenOk (rn L) M M' := ⟨fun n m _ _ hh => rn_inj L hL n m hh, fun n b hb => h.sub n b (by simp) hb⟩
/-- The names that stay. -/
def Pins (S : Bs) (M0 : Mem) : Prop := ∀ n l, S.pin n = some l → (M0.get n).isSome = true
def pinS (ρ : Nat → Nat) (M : Mem) : Mem → Prop
  | [] => True
  | (n, _) :: r => (ρ n = n ∧ (M.get n).isSome = true) ∧ pinS ρ M r
theorem pinS.ok {ρ : Nat → Nat} {M : Mem} : ∀ {M0 : Mem}, pinS ρ M M0 → ∀ n, (M0.get n).isSome = true → (M.get n).isSome = true ∧ ρ n = n
  | [], _, n, h => by cases h
  | (k, c) :: r, hs, n, h => by
    rw [Mem.get_cons] at h
    split at h
    · rename_i hk; subst hk; exact ⟨hs.1.2, hs.1.1⟩
    · exact pinS.ok hs.2 n h
def EnvLeR (ρ : Nat → Nat) : Env → Env → Prop
  | [], _ => True
  | (t, x) :: r, e' => e'.get t = some (x.1, x.2.ren ρ) ∧ EnvLeR ρ r e'
theorem EnvLeR.ok {ρ : Nat → Nat} {e' : Env} : ∀ {e : Env}, EnvLeR ρ e e' → ∀ t y, e.get t = some y → e'.get t = some (y.1, y.2.ren ρ)
  | [], _, t, y, h => by cases h
  | (k, x) :: r, hle, t, y, h => by
    simp only [Env.get] at h
    cases hk : (k == t) with
    | true =>
      rw [hk] at h
      have : k = t := by simpa using hk
      subst this
      simp at h
      subst h
      exact hle.1
    | false =>
      rw [hk] at h
      exact EnvLeR.ok hle.2 t y h
theorem Wkn.ren {S : Bs} {e e' : Env} {M M' M0 : Mem} (L : List (Nat × Nat)) (hP : Pins S M0) (hL : rnOk L = true) (hpin : pinS (rn L) M M0) (he : EnvLeR (rn L) e e') (hm : RenS (rn L) M' [] M) (hcm : ClM M) (hce : ∀ p ∈ e, ClV M p.2.2) : Wkn S e M e' M' := by
  intro w0 β a w hrel hen
  refine ⟨fun n => β (rn L n), hrel.ren (hm.ok hL) hcm (fun n l hl => hpin.ok n (hP n l hl)), fun β' hag t y hy => ?_⟩
  have h1 := hen β (Agree.refl _ _) t _ (he.ok t y hy)
  have h2 := hce (t, y) (Env.mem_of_get hy) _ β' hag
  simp only at h2
  rw [h1]
  unfold gv
  rw [V.ren_g, h2]
theorem RetQ.ren {P : Program} {C : Cx} {fn : Func} {v : V} {NM M0 : Mem} {e : Env} {M : Mem} (L : List (Nat × Nat)) (hR : RetOk P C fn v NM) (hP : Pins C.S M0) {sc : Prop} {r : V} (hres : resE P e M fn.results.toList = some (sc, r)) (hs : sc) (hL : rnOk L = true) (hv : r = v.ren (rn L))
    (hpin : pinS (rn L) NM M0) (hm : RenS (rn L) M [] NM) (hcm : ClM NM) (hcv : ClV NM v) : RetQ C e M := by
  intro β a w hrel hen hd
  refine hR.2.1 (fun n => β (rn L n)) a w (r.g β) (hrel.ren (hm.ok hL) hcm (fun n l hl => hpin.ok n (hP n l hl))) (fun β'' hag => ?_) hd (results_run hrel hen hres hs)
  rw [hv, V.ren_g]
  exact (hcv _ β'' hag).symm
/-! nil -/
theorem EnvOk.nil {β : Vl} {e : Env} {M : Mem} {a : Act} (h : EnvOk β M e a) {nm : Nat} {b : Bk} (hn : M.get nm = none) : EnvOk (fun k => if k = nm then ⟨0, 0, 0, true⟩ else β k) ((nm, b) :: M) e a := fun β' hag t x hx => by
  refine h β' (fun k hk => ?_) t x hx
  obtain ⟨c, hc⟩ := Option.isSome_iff_exists.1 hk
  have hne : k ≠ nm := by rintro rfl; rw [hn] at hc; cases hc
  rw [hag k (by rw [Mem.get_cons, if_neg hne]; exact hk)]
  exact if_neg hne
theorem Sm.nilName {P : Program} {nt : Nat} {C : Cx} {todo : List It} {e : Env} {M : Mem} (t nm esz : Nat) (el : TypeId) (he : e.get t = some (true, .c (.v (.slice none 0 0)))) (hn : M.get nm = none)
    (h : Sm P nt C todo ((t, true, .c (.sl nm 0 0 esz)) :: e) ((nm, ⟨false, [], el⟩) :: M)) : Sm P nt C todo e M := fun β a w h1 h2 h3 h4 => by
  refine h _ a w (h1.nil nm hn el) ?_ h3 h4
  intro β' hag t' x hx
  simp only [Env.get] at hx
  cases ht : (t == t') with
  | true =>
    rw [ht] at hx
    have : t = t' := by simpa using ht
    subst this
    simp at hx
    subst hx
    have hβ := hag nm (by rw [Mem.get_cons]; simp)
    have := h2 β (Agree.refl _ _) t _ he
    rw [this]
    simp [gv, V.g, Cv.g, hβ]
  | false =>
    rw [ht] at hx
    exact (h2.nil (b := ⟨false, [], el⟩) hn) β' hag t' x hx
theorem RetQ.nilName {C : Cx} {e : Env} {M : Mem} (t nm esz : Nat) (el : TypeId) (he : e.get t = some (true, .c (.v (.slice none 0 0)))) (hn : M.get nm = none)
    (h : RetQ C ((t, true, .c (.sl nm 0 0 esz)) :: e) ((nm, ⟨false, [], el⟩) :: M)) : RetQ C e M := fun β a w h1 h2 h4 => by
  refine h _ a w (h1.nil nm hn el) ?_ h4
  intro β' hag t' x hx
  simp only [Env.get] at hx
  cases ht : (t == t') with
  | true =>
    rw [ht] at hx
    have : t = t' := by simpa using ht
    subst this
    simp at hx
    subst hx
    have hβ := hag nm (by rw [Mem.get_cons]; simp)
    have := h2 β (Agree.refl _ _) t _ he
    rw [this]
    simp [gv, V.g, Cv.g, hβ]
  | false =>
    rw [ht] at hx
    exact (h2.nil (b := ⟨false, [], el⟩) hn) β' hag t' x hx
/-- The contract of a function that may be given memory and may make some. -/
theorem CallOk.mkN {P : Program} {f : FuncId} {fn : Func} {body : Code} {args : List V} {v : V} {M N : Mem} (nx : Nat) (hf : P.funcs[f]? = some fn) (hb : fn.body = some body) (hent : Enters P f) (hnt : args.length ≤ fn.ntmps) (hcl : ∀ x ∈ args, ClV M x)
    (hN : N.all (fun p => !p.2.ro || (M.get p.1).isSome) = true) (hU : N.all (fun p => match M.get p.1 with | some b => !b.ro | none => true) = true)
    (h : ∀ C, RetOk P C fn v (N ++ M) → Pins C.S M → run P fn.ntmps C 1000 [.code body] (initE 0 args) M nx) : CallOk P f args M v N :=
  CallOk.intro hf hb hent hnt (fun n b h h0 => by have := List.all_eq_true.1 hN (n, b) (Mem.mem_of_get h); simpa [h0] using this)
    (fun n b b' h h' => by have := List.all_eq_true.1 hU (n, b) (Mem.mem_of_get h); simp only [h'] at this; simpa using this) hcl (fun C hR hP => run_ok 1000 _ _ _ nx (h C hR hP))
attribute [go_sem] opY opZ capsE opX srcE bndE strE plS reps rn Mem.ren Bk.ren V.ren W.ren Cv.ren str dead
end Vg
end Go.Proofs.YtoioclmfjmgaaaaDoor
namespace Go.Proofs.YtoioclmfjmgaaaaDoor
namespace Vg
open Go.RowKit
def Cv.inM (M : Mem) : Cv → Bool
  | .v _ => true
  | .p n _ => (M.get n).isSome
  | .sl n _ _ _ => (M.get n).isSome
  | .fn _ cs => cs.all fun c => (M.get c.1).isSome
  | .s0 n _ => (M.get n).isSome
def W.inM (M : Mem) : W → Bool
  | .c x => x.inM M
  | .agg xs => xs.all (Cv.inM M)
def V.inM (M : Mem) : V → Bool
  | .c x => x.inM M
  | .agg xs => xs.all (Cv.inM M)
  | .tup xs => xs.all (W.inM M)
theorem Cv.inM_g {M : Mem} {x : Cv} (h : x.inM M = true) {β β' : Vl} (hag : Agree M β β') : x.g β' = x.g β := by
  cases x with
  | v _ => rfl
  | p n off => simp only [Cv.g, hag n h]
  | sl n off len esz => simp only [Cv.g, hag n h]
  | s0 n off => simp only [Cv.g, hag n h]
  | fn f cs =>
    simp only [Cv.g]
    congr 2
    refine List.map_congr_left fun c hc => ?_
    have := List.all_eq_true.1 h c hc
    simp only [ptr, hag c.1 this]
theorem Cv.inM_gs {M : Mem} {xs : List Cv} (h : xs.all (Cv.inM M) = true) {β β' : Vl} (hag : Agree M β β') : xs.map (Cv.g β') = xs.map (Cv.g β) :=
  List.map_congr_left fun x hx => Cv.inM_g (List.all_eq_true.1 h x hx) hag
theorem ClV.of {M : Mem} {v : V} (h : v.inM M = true) : ClV M v := by
  intro β β' hag
  cases v with
  | c x => exact Cv.inM_g h hag
  | agg xs => simp only [V.g, Cv.inM_gs h hag]
  | tup xs =>
    simp only [V.g]
    congr 2
    refine List.map_congr_left fun x hx => ?_
    have := List.all_eq_true.1 h x hx
    cases x with
    | c x => exact Cv.inM_g this hag
    | agg xs => simp only [W.g, Cv.inM_gs this hag]
theorem ClM.of {M : Mem} (h : M.all (fun p => p.2.cells.all (Cv.inM M)) = true) : ClM M := fun _ _ hag n b hb => Cv.inM_gs (List.all_eq_true.1 h (n, b) (Mem.mem_of_get hb)) hag
theorem ClE.of {M : Mem} {e : Env} (h : e.all (fun p => p.2.2.inM M) = true) : ∀ p ∈ e, ClV M p.2.2 := fun p hp => ClV.of (List.all_eq_true.1 h p hp)
/-- The state at a loop's head, met from another one under the names of L. -/
def Met (S : Bs) (M0 : Mem) (e : Env) (M : Mem) (e' : Env) (M' : Mem) (L : List (Nat × Nat)) : Prop := rnOk L = true ∧ pinS (rn L) M M0 ∧ EnvLeR (rn L) e e' ∧ RenS (rn L) M' [] M
theorem Sm.loopM {P : Program} {nt : Nat} {C : Cx} {r : List It} {e : Env} {M M0 : Mem} {α : Type} {b : Code} (hP : Pins C.S M0) (E : α → Env) (Mm : α → Mem) (m : α → Nat) (x0 : α) (hM : ∀ x, ClM (Mm x)) (hE : ∀ x, ∀ p ∈ E x, ClV (Mm x) p.2.2)
    (L0 : List (Nat × Nat)) (h0 : Met C.S M0 (E x0) (Mm x0) e M L0)
    (round : ∀ (x : α) (J : Act → World → Prop), (∀ e' M' x' L, m x' < m x → Met C.S M0 (E x') (Mm x') e' M' L → Sm P nt C (.stop J :: r) e' M') → Sm P nt C (.code b :: .stop J :: r) (E x) (Mm x)) :
    Sm P nt C (.code (.loop b) :: r) e M :=
  have hw : ∀ x e' M' L, Met C.S M0 (E x) (Mm x) e' M' L → Wkn C.S (E x) (Mm x) e' M' := fun x _ _ L h => Wkn.ren L hP h.1 h.2.1 h.2.2.1 h.2.2.2 (hM x) (hE x)
  Sm.loop E Mm m x0 (hw _ _ _ _ h0) fun x J hb => round x J fun e' M' x' L hlt hmet => hb e' M' ⟨x', hlt, hw _ _ _ _ hmet⟩
theorem Pins.nil {S : Bs} {P : Program} {C : Cx} {fn : Func} {v : V} (hS : C.S = S) (hR : RetOk P C fn v []) : Pins S [] := fun n l h => by subst hS; exact hR.1 n l h
end Vg
end Go.Proofs.YtoioclmfjmgaaaaDoor
namespace Go.Proofs.YtoioclmfjmgaaaaDoor
namespace Vg
open Go.RowKit
def Cv.nn (nm esz : Nat) : Cv → Cv
  | .v (.slice none 0 0) => .sl nm 0 0 esz
  | .v x => .v x
  | .p n o => .p n o
  | .sl n o l z => .sl n o l z
  | .fn f c => .fn f c
  | .s0 n o => .s0 n o
def W.nn (nm esz : Nat) : W → W
  | .c x => .c (x.nn nm esz)
  | .agg xs => .agg (xs.map (Cv.nn nm esz))
def V.nn (nm esz : Nat) : V → V
  | .c x => .c (x.nn nm esz)
  | .agg xs => .agg (xs.map (Cv.nn nm esz))
  | .tup xs => .tup (xs.map (W.nn nm esz))
def Env.nn (nm esz : Nat) (q : List Nat) (e : Env) : Env := e.map fun p => (p.1, p.2.1, bif q.contains p.1 then p.2.2.nn nm esz else p.2.2)
def Bk.nn (nm esz : Nat) (b : Bk) : Bk := ⟨b.ro, b.cells.map (Cv.nn nm esz), b.elem⟩
def Mem.nn (nm esz : Nat) (k : List Nat) (M : Mem) : Mem := M.map fun p => (p.1, bif k.contains p.1 then p.2.nn nm esz else p.2)
theorem Cv.nn_g {nm esz : Nat} {β : Vl} (h : (β nm).nul = true) (x : Cv) : (x.nn nm esz).g β = x.g β := by
  unfold Cv.nn
  split <;> simp [Cv.g, h]
theorem Cv.nn_gs {nm esz : Nat} {β : Vl} (h : (β nm).nul = true) (xs : List Cv) : (xs.map (Cv.nn nm esz)).map (Cv.g β) = xs.map (Cv.g β) := by
  rw [List.map_map]; exact List.map_congr_left fun x _ => Cv.nn_g h x
theorem W.nn_g {nm esz : Nat} {β : Vl} (h : (β nm).nul = true) (x : W) : (x.nn nm esz).g β = x.g β := by
  cases x with
  | c x => exact Cv.nn_g h x
  | agg xs => simp only [W.nn, W.g, Cv.nn_gs h]
theorem V.nn_g {nm esz : Nat} {β : Vl} (h : (β nm).nul = true) (x : V) : (x.nn nm esz).g β = x.g β := by
  cases x with
  | c x => exact Cv.nn_g h x
  | agg xs => simp only [V.nn, V.g, Cv.nn_gs h]
  | tup xs =>
    simp only [V.nn, V.g, List.map_map]
    rw [List.map_congr_left fun x _ => (show (W.g β ∘ W.nn nm esz) x = W.g β x from W.nn_g h x)]
theorem Mem.nn_get (nm esz : Nat) (q : List Nat) : ∀ (M : Mem) (n : Nat), (M.nn nm esz q).get n = (M.get n).map fun b => bif q.contains n then b.nn nm esz else b
  | [], n => rfl
  | (k, b) :: M, n => by
    simp only [Mem.nn, List.map_cons, Mem.get]
    cases h : (k == n) with
    | true =>
      have : k = n := by simpa using h
      subst this; rfl
    | false => exact Mem.nn_get nm esz q M n
theorem Env.nn_get (nm esz : Nat) (q : List Nat) : ∀ (e : Env) (t : Nat), (e.nn nm esz q).get t = (e.get t).map fun y => (y.1, bif q.contains t then y.2.nn nm esz else y.2)
  | [], t => rfl
  | (k, y) :: e, t => by
    simp only [Env.nn, List.map_cons, Env.get]
    cases h : (k == t) with
    | true =>
      have : k = t := by simpa using h
      subst this; rfl
    | false => exact Env.nn_get nm esz q e t
theorem BkOk.nn {nm esz : Nat} {β : Vl} (h : (β nm).nul = true) {n : Nat} {b : Bk} {w : World} (hb : BkOk β n b w) : BkOk β n (b.nn nm esz) w := by
  unfold BkOk at *
  simp only [Bk.nn, Cv.nn_gs h, List.length_map, List.map_eq_nil_iff]
  exact hb
theorem Rel.nn {S : Bs} {w0 w : World} {β : Vl} {M : Mem} (h : Rel S w0 β M w) {nm : Nat} (esz : Nat) (q : List Nat) (hn : (M.get nm).isSome = true) (hu : (β nm).nul = true) : Rel S w0 β (M.nn nm esz q) w := by
  have hg : ∀ n b', (M.nn nm esz q).get n = some b' → ∃ b, M.get n = some b ∧ b' = bif q.contains n then b.nn nm esz else b := fun n b' hb => by
    rw [Mem.nn_get] at hb
    cases hm : M.get n with
    | none => rw [hm] at hb; cases hb
    | some b => rw [hm] at hb; exact ⟨b, rfl, (Option.some.inj hb).symm⟩
  have hs : ∀ n, ((M.nn nm esz q).get n).isSome = (M.get n).isSome := fun n => by rw [Mem.nn_get]; cases M.get n <;> rfl
  have hro : ∀ (c : Bool) (b : Bk), (bif c then b.nn nm esz else b).ro = b.ro := fun c b => by cases c <;> rfl
  refine ⟨h.fr, ⟨fun β' hag n b' hb => ?_, fun n b' hb hl => ?_, fun n m b b' hb hb' hne hr hl hu1 hu2 => ?_⟩, fun n b' hb hr hl hS => ?_, fun n l hl => ?_⟩
  · obtain ⟨b, hb2, rfl⟩ := hg n b' hb
    have hag' : Agree M β β' := fun k hk => hag k (by rw [hs]; exact hk)
    have h0 := h.mem.ok β' hag' n b hb2
    cases q.contains n with
    | true => exact BkOk.nn (by rw [hag' nm hn]; exact hu) h0
    | false => exact h0
  · obtain ⟨b, hb2, rfl⟩ := hg n b' hb
    exact h.mem.there n b hb2 hl
  · obtain ⟨c, hc, rfl⟩ := hg n b hb
    obtain ⟨c', hc', rfl⟩ := hg m b' hb'
    rw [hro] at hr
    refine h.mem.apart n m c c' hc hc' hne hr ?_ hu1 hu2
    rcases hl with hl | hl
    · rw [hro] at hl; exact .inl hl
    · refine .inr fun he => hl ?_
      cases q.contains m with
      | true => simp [Bk.nn, he]
      | false => exact he
  · obtain ⟨b, hb2, rfl⟩ := hg n b' hb
    rw [hro] at hr
    exact h.own n b hb2 hr hl hS
  · have := h.pin n l hl
    exact ⟨by rw [hs]; exact this.1, this.2⟩
theorem EnvOk.nn {β : Vl} {M : Mem} {e : Env} {a : Act} (h : EnvOk β M e a) {nm : Nat} (esz : Nat) (q k : List Nat) (hn : (M.get nm).isSome = true) (hu : (β nm).nul = true) : EnvOk β (M.nn nm esz k) (e.nn nm esz q) a := fun β' hag t x hx => by
  have hs : ∀ n, ((M.nn nm esz k).get n).isSome = (M.get n).isSome := fun n => by rw [Mem.nn_get]; cases M.get n <;> rfl
  have hag' : Agree M β β' := fun k hk => hag k (by rw [hs]; exact hk)
  rw [Env.nn_get] at hx
  cases he : e.get t with
  | none => rw [he] at hx; cases hx
  | some y =>
    rw [he] at hx
    have := Option.some.inj hx
    subst this
    rw [h β' hag' t y he]
    unfold gv
    cases q.contains t with
    | true =>
      show (bif y.1 then V.g β' y.2 else undef) = bif y.1 then V.g β' (y.2.nn nm esz) else undef
      rw [V.nn_g (by rw [hag' nm hn]; exact hu)]
    | false => rfl
theorem Sm.nils {P : Program} {nt : Nat} {C : Cx} {todo : List It} {e : Env} {M : Mem} (nm esz : Nat) (el : TypeId) (q k : List Nat) (hn : M.get nm = none)
    (h : Sm P nt C todo (e.nn nm esz q) (Mem.nn nm esz k ((nm, ⟨false, [], el⟩) :: M))) : Sm P nt C todo e M := fun β a w h1 h2 h3 h4 => by
  have r := (h1.nil nm hn el).nn (nm := nm) esz k (by rw [Mem.get_cons, if_pos rfl]; rfl) (by simp)
  exact h _ a w r ((h2.nil (b := ⟨false, [], el⟩) hn).nn (nm := nm) esz q k (by rw [Mem.get_cons, if_pos rfl]; rfl) (by simp)) h3 h4
theorem RetQ.nils {C : Cx} {e : Env} {M : Mem} (nm esz : Nat) (el : TypeId) (q k : List Nat) (hn : M.get nm = none)
    (h : RetQ C (e.nn nm esz q) (Mem.nn nm esz k ((nm, ⟨false, [], el⟩) :: M))) : RetQ C e M := fun β a w h1 h2 h4 => by
  have r := (h1.nil nm hn el).nn (nm := nm) esz k (by rw [Mem.get_cons, if_pos rfl]; rfl) (by simp)
  exact h _ a w r ((h2.nil (b := ⟨false, [], el⟩) hn).nn (nm := nm) esz q k (by rw [Mem.get_cons, if_pos rfl]; rfl) (by simp)) h4
/-- Fewer names, other names: the state of a walk cut down. -/
theorem Sm.cutm {P : Program} {nt : Nat} {C : Cx} {todo : List It} {e : Env} {M M0 : Mem} (hP : Pins C.S M0) (E : Env) (Mm : Mem) (L : List (Nat × Nat)) (h0 : Met C.S M0 E Mm e M L) (hM : ClM Mm) (hE : ∀ p ∈ E, ClV Mm p.2.2) (h : Sm P nt C todo E Mm) : Sm P nt C todo e M :=
  Sm.wkn (Wkn.ren L hP h0.1 h0.2.1 h0.2.2.1 h0.2.2.2 hM hE) h
attribute [go_sem] Cv.nn W.nn V.nn Env.nn Bk.nn Mem.nn List.contains_cons List.contains_nil
end Vg
end Go.Proofs.YtoioclmfjmgaaaaDoor
namespace Go.Proofs.YtoioclmfjmgaaaaDoor
namespace Vg
open Go.RowKit
theorem CallOk.touch {P : Program} {f : FuncId} {xs : List V} {M1 M1' N K : Mem} {v : V} (h : CallOk P f xs M1 v N) (hro : ∀ n b, M1.get n = some b → b.ro = true) (hs : Sub M1 M1') (hcl : ClM M1) (hnm : ∀ n, (M1'.get n).isSome = true → (M1.get n).isSome = true)
    (hN : ∀ n, (N.get n).isSome = true → M1.get n = none) (hK : ∀ n b, K.get n = some b → M1'.get n = some b ∧ b.ro = false) : CallOk P f xs M1' v (N ++ K) := by
  obtain ⟨he, h1, h2, h3⟩ := h
  have hN' : ∀ n, (N.get n).isSome = true → M1'.get n = none := fun n hn => by
    cases hm : M1'.get n with
    | none => rfl
    | some b => have := hnm n (by rw [hm]; rfl); rw [hN n hn] at this; cases this
  have hg : ∀ n, ((N ++ K) ++ M1' : Mem).get n = (N.get n).or (M1'.get n) := fun n => by
    rw [Mem.get_append, Mem.get_append]
    cases hn : N.get n with
    | some b => rfl
    | none =>
      cases hk : K.get n with
      | none => rfl
      | some b => rw [(hK n b hk).1]; rfl
  have hnames : ∀ n, (M1.get n).isSome = true → (M1'.get n).isSome = true := fun n hn => by
    obtain ⟨b, hb⟩ := Option.isSome_iff_exists.1 hn
    obtain ⟨b', hb', _⟩ := hs n b hb
    rw [hb']; rfl
  refine ⟨he, fun n b hb _ => ?_, fun n b b' hb hb' => ?_, fun β w hm => ?_⟩
  · rw [Mem.get_append] at hb
    cases hn : N.get n with
    | some c => rw [hn] at hb; cases hb; exact h1 n _ hn (hN n (by rw [hn]; rfl))
    | none => rw [hn] at hb; exact (hK n b hb).2
  · rw [Mem.get_append] at hb
    cases hn : N.get n with
    | some c => rw [hN' n (by rw [hn]; rfl)] at hb'; cases hb'
    | none => rw [hn] at hb; have := hK n b hb; rw [this.1] at hb'; cases hb'; exact this.2
  · refine (h3 β w (hm.sub hs hcl)).mono fun en w' ⟨β', k1, k2, k3, k4, k50⟩ => ?_
    have k5 : ∀ n, (N.get n).isSome = true → M1.get n = none → (β' n).nul = false → w.heap.size ≤ (β' n).blk := fun n q1 q2 q3 => by
      rcases k50 n q1 q2 q3 with h | ⟨k, b, c, g1, g2, _⟩
      · exact h
      · rw [hro k b g1] at g2; cases g2
    have old : ∀ b, b < w.heap.size → w'.heap[b]? = w.heap[b]? := fun b hb => k4.old b (fun n c hc hr => by rw [hro n c hc] at hr; cases hr) hb
    have ag : Agree M1' β β' := fun n hn => k1 n (hnm n hn)
    have hget : ∀ n b, ((N ++ K) ++ M1' : Mem).get n = some b → (N.get n = some b) ∨ (N.get n = none ∧ M1'.get n = some b) := fun n b hb => by
      rw [hg] at hb
      cases hn : N.get n with
      | some c => rw [hn] at hb; exact .inl hb
      | none => rw [hn] at hb; exact .inr ⟨rfl, hb⟩
    have agN : ∀ β'', Agree ((N ++ K) ++ M1') β' β'' → Agree (N ++ M1) β' β'' := fun β'' ha n hn => ha n (by
      rw [hg]
      rw [Mem.get_append] at hn
      cases hh : N.get n with
      | some c => rfl
      | none => rw [hh] at hn; exact hnames n hn)
    have lt1 : ∀ n b, M1'.get n = some b → (β' n).nul = false → (β' n).blk < w.heap.size := fun n b hb hu => by
      have e := ag n (by rw [hb]; rfl)
      rw [e] at hu ⊢
      exact hm.there n b hb hu
    refine ⟨β', ag, fun β'' ha => k2 β'' (agN β'' ha), ⟨fun β'' ha n b hb => ?_, fun n b hb hu => ?_, fun n m b b' hb hb' hne hr hl hu1 hu2 => ?_⟩, ⟨k4.os, k4.tape, k4.output, k4.size, fun b _ hb => old b hb⟩, fun n hn hm1 hu => ?_⟩
    · rcases hget n b hb with hn | ⟨hn, hm1⟩
      · exact k3.ok β'' (agN β'' ha) n b (by rw [Mem.get_append, hn]; rfl)
      · have ha' : Agree M1' β β'' := fun n hn => by
          rw [ha n (by rw [hg]; cases N.get n <;> simp [hn]), ag n hn]
        have hb0 := hm.ok β'' ha' n b hm1
        have e : β'' n = β n := ha' n (by rw [hm1]; rfl)
        by_cases hu : (β'' n).nul = true
        · unfold BkOk at hb0 ⊢
          rw [if_pos hu] at hb0 ⊢
          exact hb0
        · refine hb0.same (old _ ?_)
          rw [e] at hu ⊢
          exact hm.there n b hm1 (by simpa using hu)
    · rcases hget n b hb with hn | ⟨hn, hm1⟩
      · exact k3.there n b (by rw [Mem.get_append, hn]; rfl) hu
      · exact Nat.lt_of_lt_of_le (lt1 n b hm1 hu) k4.size
    · rcases hget n b hb with hn | ⟨hn, hm1⟩
      · rcases hget m b' hb' with hn' | ⟨hn', hm1'⟩
        · exact k3.apart n m b b' (by rw [Mem.get_append, hn]; rfl) (by rw [Mem.get_append, hn']; rfl) hne hr hl hu1 hu2
        · have := k5 n (by rw [hn]; rfl) (hN n (by rw [hn]; rfl)) hu1
          have := lt1 m b' hm1' hu2
          omega
      · rcases hget m b' hb' with hn' | ⟨hn', hm1'⟩
        · have := k5 m (by rw [hn']; rfl) (hN m (by rw [hn']; rfl)) hu2
          have := lt1 n b hm1 hu1
          omega
        · have e1 := ag n (by rw [hm1]; rfl)
          have e2 := ag m (by rw [hm1']; rfl)
          rw [e1] at hu1 ⊢
          rw [e2] at hu2 ⊢
          exact hm.apart n m b b' hm1 hm1' hne hr hl hu1 hu2
    · rw [Mem.get_append] at hn
      cases hh : N.get n with
      | some c => exact .inl (k5 n (by rw [hh]; rfl) (hN n (by rw [hh]; rfl)) hu)
      | none =>
        rw [hh] at hn
        obtain ⟨b, hb⟩ := Option.isSome_iff_exists.1 hn
        rw [(hK n b (by simpa using hb)).1] at hm1; cases hm1
def touchA (rg : Array Oper) (i : Nat) (T : List (Nat × Nat)) (o : Oper) (N : Mem) : Bool := N.all fun p => T.all fun q => !(q.1 == p.1) || ancB rg i 20 q.2 o
/-- The blocks of K stand in M, and N has their names. -/
def KS (N M : Mem) : Mem → Prop
  | [] => True
  | (n, b) :: K => ((N.get n).isSome = true ∧ M.get n = some b) ∧ KS N M K
theorem KS.ok {N M : Mem} : ∀ {K : Mem}, KS N M K → ∀ n b, K.get n = some b → (N.get n).isSome = true ∧ M.get n = some b
  | [], _, n, b, h => by cases h
  | (k, c) :: K, hk, n, b, h => by
    rw [Mem.get_cons] at h
    split at h
    · rename_i he
      subst he; cases h; exact hk.1
    · exact KS.ok hk.2 n b h
theorem DCallQ.seen {P : Program} {nt : Nat} {C : Cx} {r : List It} {e e0 : Env} {M M0 Mf : Mem} {id : Nat} {rg : Array Oper} {k : Nat} {T : List (Nat × Nat)} {i : Nat} {o : Oper} {l : List Oper} {f : FuncId} {vs : List (Option (Bool × V))} {g : Bool} {dst : Option Nat} {xs : List V} {v : V} {M1 N : Mem} (L : List (Nat × Nat)) (K : Mem) (nx : Nat) (hc : CallOk P f xs M1 v N) (hcl : ClM M1) (hL : rnOk L = true) (hvs : vs = (xs.map (V.ren (rn L))).map fun x => some (true, x))
    (hs : SubS (M1.ren (rn L)) (K ++ M0)) (hfr : (N.ren (rn L)).all (fun p => ((M1.ren (rn L)).get p.1).isSome || ((K ++ M0 : Mem).get p.1).isNone) = true) (hg : g = true ∨ N = []) (hK : KS (N.ren (rn L)) M K) (hf2 : ownB (N.ren (rn L)) M0 (K ++ M0) M = true) (hf3 : touchA rg i T o (N.ren (rn L)) = true)
    (h : runD P nt C id rg r e0 M0 Mf k (kontW P nt C (.ops rg (rg.toList.drop k) :: r)) (touchN (N.ren (rn L)) i T) (i + 1) l (e.put dst g (v.ren (rn L))) (N.ren (rn L) ++ M) nx) : DCallQ P nt C id rg r e0 M0 Mf k T i o f vs g dst l e M :=
  ⟨M1.ren (rn L), N.ren (rn L), K ++ M0, v.ren (rn L), xs.map (V.ren (rn L)), fun _ => hvs, fun _ => .inl (hc.ren (rn_inj L hL)), hs.sub, hcl.ren (rn_inj L hL), Fresh.of hfr, hg.imp (fun h => h) (fun h => by rw [h]; rfl),
    ⟨fun n b hb => by
      rw [Mem.get_append] at hb
      cases hk : K.get n with
      | some c => rw [hk] at hb; cases hb; exact .inr (hK.ok n _ hk)
      | none => rw [hk] at hb; exact .inl (by simpa using hb),
    fun n hn => by
      obtain ⟨p, hp, hp1⟩ := List.mem_map.1 (Mem.mem_of_get' hn)
      subst hp1
      have k1 := List.all_eq_true.1 hf2 p hp
      have k2 := List.all_eq_true.1 hf3 p hp
      simp only [Bool.and_eq_true, Bool.or_eq_true, Option.isNone_iff_eq_none] at k1
      refine ⟨k1.1, k1.2, fun j hj => ?_⟩
      have := List.all_eq_true.1 k2 _ hj
      exact ancB_ok 20 j o (by simpa using this)⟩, DrS.go nx h⟩
end Vg
end Go.Proofs.YtoioclmfjmgaaaaDoor
namespace Go.Proofs.YtoioclmfjmgaaaaDoor
namespace Vg
open Go.RowKit
set_option linter.unusedSimpArgs false
set_option linter.unusedVariables false
set_option maxRecDepth 100000
theorem ki_ok {P : Program} {el : TypeId} {k : IntKind} (h : kiOf P el = some k) : P.underlying el = some (.int k) := by
  unfold kiOf at h
  split at h <;> simp at h
  rename_i k' hq
  rw [hq, h]
/-- string(b): a slice whose cells are bytes. -/
theorem Stp.toStr {P : Program} {o : Oper} {e : Env} {M : Mem} {src dst el : TypeId} {x : Operand} {n off len : Nat} {b : Bk} (l : List Nat) (ho : o.op = .convert src dst x) (hx : rd e x = some (true, .c (.sl n off len 1))) (hb : M.get n = some b)
    (hu : slOf P src = some (el, 1)) (hk : kiOf P el = some .u8) (hd : strOf P dst = true) (hl : (b.cells.drop off).take len = l.map fun d => .v (.int .u8 (d : Int))) (hlen : l.length = len) : Stp P o e M (.c (.v (str (l.map UInt8.ofNat)))) [] := by
  refine Stp.read fun S w0 β M' a w hsub hrel hop => ?_
  have he := hop x (by simp [ho, Op.operands]) _ hx
  simp only [gv, V.g, cond_true] at he
  obtain ⟨hus, _, _⟩ := slOf_ok hu
  have hue := ki_ok hk
  have hds := strOf_ok hd
  have hr := rangeAt_sub (hrel.range hsub hb) off len
  have hstr : str (l.map UInt8.ofNat) = .string (strOfNums (l.map fun d : Nat => (d : Int))) := by
    simp [str, strOfNums, Function.comp_def]
  unfold execOp
  by_cases hn : (β n).nul = true ∧ len = 0
  · have hl0 : l = [] := List.length_eq_zero_iff.1 (by omega)
    have he' : a.eval x = .slice none 0 0 := by rw [he]; simp [Cv.g, hn]
    have := run_convert_bytes_nil (P := P) w src el hus hue 0 0 dst hds
    simp only [ho, he', Sem.run_bind, this, Result.andThen_ok, Sem.run_pure]
    subst hl0
    rfl
  · have he' : a.eval x = .slice (some ⟨(β n).blk, (β n).org + off, none⟩) len (((β n).siz - off) / 1) := by rw [he]; simp only [Cv.g, if_neg hn]
    have := run_convert_bytes_arg (P := P) w src el hus hue (β n).blk ((β n).org + off) len (((β n).siz - off) / 1) (l.map fun d : Nat => (d : Int)) (by simpa using hlen) (fun i hi => by
      refine hr i _ ?_
      rw [← List.map_drop, ← List.map_take, hl, List.map_map, List.getElem?_map, List.getElem?_eq_getElem (show i < l.length by omega)]
      simp [List.getD_eq_getElem?_getD, List.getElem?_eq_getElem (show i < l.length by omega), Cv.g]) dst hds
    simp only [ho, he', Sem.run_bind, this, Result.andThen_ok, Sem.run_pure, V.g, Cv.g, hstr]
/-- The block at n goes over to the name nm, to be read only; its content is as it was. -/
theorem Rel.mark {S : Bs} {w0 w w' : World} {β : Vl} {M : Mem} (h : Rel S w0 β M w) {n nm : Nat} {b : Bk} (hb : M.get n = some b) (hr : b.ro = false) (hnu : (β n).nul = false) (hn : M.get nm = none)
    (hos : w'.os = w.os) (htp : w'.tape = w.tape) (hou : w'.output = w.output) (hsz : w'.heap.size = w.heap.size) (hcell : ∀ a, w'.cell? a = w.cell? a) (hoth : ∀ k, k ≠ (β n).blk → w'.heap[k]? = w.heap[k]?) :
    Rel S w0 (fun k => if k = nm then β n else β k) ((nm, ⟨true, b.cells, b.elem⟩) :: (n, dead b.elem) :: M) w' := by
  have hne : ∀ k b, M.get k = some b → k ≠ nm := by rintro k b hk rfl; rw [hn] at hk; cases hk
  have hnn : n ≠ nm := hne n b hb
  have hget : ∀ k, Mem.get ((nm, ⟨true, b.cells, b.elem⟩) :: (n, dead b.elem) :: M) k = if k = nm then some ⟨true, b.cells, b.elem⟩ else if k = n then some (dead b.elem) else M.get k := fun k => by rw [Mem.get_cons, Mem.get_cons]
  refine ⟨⟨hos.trans h.fr.os, htp.trans h.fr.tape, hou.trans h.fr.output, by rw [hsz]; exact h.fr.size, fun k hS hk => ?_⟩, ⟨fun β' hag k c hc => ?_, fun k c hc hu => ?_, fun k m c c' hc hc' hkm hro hlv hu hu' => ?_⟩, fun k c hc hro hu hS => ?_, fun k l hl => ?_⟩
  · rw [hoth k ?_]
    · exact h.fr.old k hS hk
    · rintro rfl
      have := h.own n b hb hr hnu hS
      omega
  · have hag0 : Agree M β β' := fun j hj => by
      obtain ⟨x, hx⟩ := Option.isSome_iff_exists.1 hj
      rw [hag j (by rw [hget]; split <;> (try split) <;> simp_all)]
      exact if_neg (hne j x hx)
    rw [hget] at hc
    split at hc
    · rename_i hk
      subst hk
      simp at hc
      subst hc
      have hl : β' k = β n := by have := hag k (by rw [hget]; simp); simpa using this
      have hbo := h.mem.ok β' hag0 n b hb
      have hβ := hag0 n (by simp [hb])
      unfold BkOk
      rw [if_neg (by simp [hl, hnu]), if_pos (by simp), hl, ← hβ]
      exact ⟨fun j v hj => by rw [hcell]; exact hbo.range j v hj, hbo.siz⟩
    · split at hc
      · simp at hc; subst hc; exact BkOk.dead
      · rename_i hk hkn
        have hold := h.mem.ok β' hag0 k c hc
        have hβ := hag0 k (by simp [hc])
        cases hu : (β k).nul with
        | true =>
          unfold BkOk at hold ⊢
          rw [if_pos (by rw [hβ]; exact hu)] at hold ⊢
          exact hold
        | false =>
          by_cases hlv : c.lv
          · refine hold.same (hoth _ ?_)
            rw [hβ]
            exact fun hh => h.mem.apart n k b c hb hc (fun hh' => hkn hh'.symm) hr hlv hnu hu hh.symm
          · unfold Bk.lv at hlv
            simp only [not_or, Bool.not_eq_false, ne_eq, Classical.not_not] at hlv
            unfold BkOk
            rw [if_neg (by rw [hβ]; simp [hu]), if_pos hlv.1, hlv.2]
            exact ⟨fun j v hj => by simp at hj, by simp⟩
  · rw [hsz]
    rw [hget] at hc
    split at hc
    · rename_i hk; simp only [if_pos hk]; exact h.mem.there n b hb hnu
    · rename_i hk
      simp only [if_neg hk] at hu ⊢
      split at hc
      · rename_i hkn; subst hkn; exact h.mem.there k b hb hu
      · exact h.mem.there k c hc hu
  · rw [hget] at hc hc'
    split at hc
    · simp at hc; subst hc; cases hro
    · rename_i hk
      split at hc
      · simp at hc; subst hc; cases hro
      · rename_i hkn
        simp only [if_neg hk] at hu ⊢
        split at hc'
        · rename_i hk'
          simp only [if_pos hk']
          exact h.mem.apart k n c b hc hb hkn hro (.inl hr) hu hnu
        · rename_i hk'
          split at hc'
          · simp at hc'; subst hc'; exact absurd hlv (dead_lv _)
          · simp only [if_neg hk'] at hu' ⊢
            exact h.mem.apart k m c c' hc hc' hkm hro hlv hu hu'
  · rw [hget] at hc
    split at hc
    · simp at hc; subst hc; cases hro
    · rename_i hk
      simp only [if_neg hk] at hS hu ⊢
      split at hc
      · simp at hc; subst hc; cases hro
      · exact h.own k c hc hro hu hS
  · obtain ⟨p1, p2⟩ := h.pin k l hl
    have hkn : k ≠ nm := by rintro rfl; rw [hn] at p1; cases p1
    refine ⟨?_, by simp only [if_neg hkn]; exact p2⟩
    rw [hget, if_neg hkn]
    split
    · rfl
    · exact p1
theorem cell?_freeze (w : World) (b : Addr) (n : Nat) (a : Addr) : (w.freeze b n).cell? a = w.cell? a := by
  unfold World.freeze
  split
  · rfl
  · unfold World.cell?
    simp only [Array.getElem?_modify]
    by_cases hk : b.block = a.block
    · rw [if_pos hk]
      cases w.heap[a.block]? with
      | none => rfl
      | some o => cases o <;> rfl
    · rw [if_neg hk]
/-- The conversion of a byte slice to its own type: the block is from now on only read. -/
theorem Stp.markB {P : Program} {o : Oper} {e : Env} {M : Mem} (nm : Nat) {t el : TypeId} {x : Operand} {n off len : Nat} {b : Bk} (ho : o.op = .convert t t x) (hx : rd e x = some (true, .c (.sl n off len 1))) (hb : M.get n = some b) (hr : b.ro = false) (hc : b.cells ≠ [])
    (hu : slOf P t = some (el, 1)) (hk : kiOf P el = some .u8) (hn : M.get nm = none) : Stp P o e M (.c (.sl nm off len 1)) [(nm, ⟨true, b.cells, b.elem⟩), (n, dead b.elem)] := by
  intro S w0 β M' a w hsub hfr hrel hok K Q hkk
  obtain ⟨b', hb', hwk⟩ := hsub n b hb
  obtain rfl : b = b' := by rcases hwk with h | h; exact h; rw [hr] at h; exact absurd h.1 (by simp)
  have hn' : M'.get nm = none := by
    rcases hfr nm (by simp [Mem.get]) with h | h
    · rw [hn] at h; cases h
    · exact h
  have hev := hok β (Agree.refl _ _) x (by simp [ho, Op.operands]) _ hx
  simp only [gv, V.g, cond_true] at hev
  have hbo := hrel.mem.ok β (Agree.refl _ _) n b hb'
  have hnu : (β n).nul = false := by
    cases h : (β n).nul with
    | false => rfl
    | true => exact absurd (hbo.nul_cells h) hc
  obtain ⟨hus, _, _⟩ := slOf_ok hu
  have hue := ki_ok hk
  obtain ⟨ho0, junk, hh, hz⟩ : (β n).org = 0 ∧ ∃ junk : List Value, w.heap[(β n).blk]? = some (.cells (b.cells.map (Cv.g β) ++ junk).toArray b.elem (0, 0)) ∧ (β n).siz = b.cells.length + junk.length := by
    have := hbo
    unfold BkOk at this
    rw [if_neg (by simp [hnu]), if_neg (by simp [hr])] at this
    exact this
  have hev' : a.eval x = .slice (some ⟨(β n).blk, (β n).org + off, none⟩) len (((β n).siz - off) / 1) := by rw [hev]; simp [Cv.g, hnu]
  have hsh : w.shape? (β n).blk = some (b.elem, (b.cells.map (Cv.g β) ++ junk).toArray.size) := by unfold World.shape?; rw [hh]
  let w' := w.freeze ⟨(β n).blk, (b.cells.map (Cv.g β) ++ junk).toArray.size, none⟩ 1
  have hrun : (convert t t (.slice (some ⟨(β n).blk, (β n).org + off, none⟩) len (((β n).siz - off) / 1))).run P w = .ok (.slice (some ⟨(β n).blk, (β n).org + off, none⟩) len (((β n).siz - off) / 1)) w' := by
    simp [convert, run_underlying hus, run_underlying hue, markStringish, hsh, w']
  unfold Oper.wp execOp
  simp only [ho, hev', Sem.run_bind, hrun, Result.andThen_ok, Sem.run_pure]
  have hmark := hrel.mark (w' := w') hb' hr hnu hn' rfl rfl rfl (by simp [w', World.freeze]) (fun a => cell?_freeze w _ _ a) (fun k hk => by
    simp only [w', World.freeze]
    rw [if_neg (by decide)]
    simp only [Array.getElem?_modify]
    rw [if_neg (fun hh => hk hh.symm)])
  refine hkk _ _ w' (fun j hj => ?_) hmark (fun β'' hag => ?_)
  · exact if_neg (fun hh => by rw [hh, hn'] at hj; cases hj)
  · have := hag nm (by simp [Mem.get])
    simp only [V.g, Cv.g, this, if_true]
    rw [if_neg (by simp [hnu])]
end Vg
end Go.Proofs.YtoioclmfjmgaaaaDoor
namespace Go.Proofs.YtoioclmfjmgaaaaDoor
namespace Vg
open Go.RowKit
/-- The end of a body without 'return'. -/
theorem Sm.fall {P : Program} {nt : Nat} {C : Cx} {fn : Func} {v : V} {NM : Mem} {e : Env} {M : Mem} (hR : RetOk P C fn v NM) (h : RetQ C e M) : Sm P nt C [] e M := fun β a w h1 h2 _ h4 => hR.2.2 a w (h β a w h1 h2 h4)
/-- What a callee that was entered in place has to come to: the caller goes on. -/
def InR (P : Program) (nt : Nat) (C : Cx) (fn : Func) (dst : Option Nat) (todo : List It) (e : Env) (C' : Cx) : Prop :=
  ∀ e2 M2 sc v, resE P e2 M2 fn.results.toList = some (sc, v) → sc → Sm P nt C todo (e.put dst true v) M2 → RetQ C' e2 M2
def InN (C' : Cx) : Prop := ∀ P nt e2 M2, RetQ C' e2 M2 → Sm P nt C' [] e2 M2
/-- A CALLEE ENTERED IN PLACE. -/
theorem CallQ.inl {P : Program} {nt : Nat} {C : Cx} {todo : List It} {e : Env} {M : Mem} {f : FuncId} {fn : Func} {body : Code} {vs : List (Option (Bool × V))} {g : Bool} {dst : Option Nat} {xs : List V} (nx : Nat) (hf : P.funcs[f]? = some fn) (hb : fn.body = some body) (hent : Enters P f) (hnt : xs.length ≤ fn.ntmps) (hg : g = true)
    (hvs : vs = xs.map fun x => some (true, x)) (hcl : ∀ x ∈ xs, ClV M x) (hd : dstOk nt dst = true)
    (h : ∀ C', InR P nt C fn dst todo e C' → InN C' → Pins C'.S M → run P fn.ntmps C' 1000 [.code body] (initE 0 xs) M nx) : CallQ P nt C f vs g dst todo e M := by
  refine .inr ⟨hg, xs, hvs, hent, fun β a w h1 h2 h3 h4 => calls_of_wp hf hb ?_⟩
  let R : Ending → World → Prop := fun en w' => ∃ u, en = .returned u ∧ cont P C.Q todo .normal (a.put dst u) w'
  let C' : Cx := ⟨⟨C.S.s, fun n => if (M.get n).isSome = true then some (β n) else none⟩, C.w0, bodyPost P fn R⟩
  have hfin : InR P nt C fn dst todo e C' := by
    intro e2 M2 sc v hres hs hS β' a' w' hrel hen hdf
    have hrun := results_run hrel hen hres hs
    have hag : ∀ n, (M.get n).isSome = true → (M2.get n).isSome = true ∧ β' n = β n := fun n hn => hrel.pin n (β n) (if_pos hn)
    refine ⟨hdf, v.g β', hrun, v.g β', rfl, ?_⟩
    refine hS β' _ w' ⟨hrel.fr, hrel.mem, hrel.own, fun n l hl => ?_⟩ ?_ ?_ ?_
    · obtain ⟨q1, q2⟩ := h1.pin n l hl
      exact ⟨(hag n q1).1, (hag n q1).2.trans q2⟩
    · intro β'' hag2 t y hy
      have hA : Agree M β β'' := fun n hn => (hag2 n (hag n hn).1).trans (hag n hn).2
      cases dst with
      | none => exact h2 β'' hA t y hy
      | some d =>
        have hlt : d < nt := dstOk_lt hd d rfl
        rw [Env.get_put] at hy
        by_cases hdt : d = t
        · subst hdt
          rw [if_pos rfl] at hy
          cases hy
          have hrun2 := results_run (hrel.agree hag2) (fun b hb => hen b (hag2.trans hb)) hres hs
          rw [hrun] at hrun2
          simp only [Result.ok.injEq, and_true] at hrun2
          simp [Act.put, h3, hlt, gv, hrun2]
        · rw [if_neg (by simpa using hdt)] at hy
          have := h2 β'' hA t y hy
          simpa [Act.put, Array.getElem?_setIfInBounds, hdt] using this
    · cases dst <;> simp [Act.put, h3]
    · cases dst <;> simp [Act.put, h4]
  have hnor : InN C' := fun P' nt' e2 M2 hQ β' a' w' hrel hen _ hdf => hQ β' a' w' hrel hen hdf
  refine run_ok 1000 _ _ _ nx (h C' hfin hnor (fun n l hl => ?_)) β _ w ⟨h1.fr, h1.mem, h1.own, fun n l hl => ?_⟩ ?_ ?_ rfl
  · by_cases hh : (M.get n).isSome = true
    · exact hh
    · simp [C', hh] at hl
  · by_cases hh : (M.get n).isSome = true
    · simp only [C', hh, if_true, Option.some.injEq] at hl
      exact ⟨hh, hl⟩
    · simp [C', hh] at hl
  · intro β' hag t y hy
    obtain ⟨_, q2, q3⟩ := initE_get xs 0 t y hy
    simp only [Nat.sub_zero] at q2
    have hlt : t < xs.length := (List.getElem?_eq_some_iff.1 q2).1
    obtain ⟨gg, x⟩ := y
    simp only at q2 q3
    subst q3
    have hx : x ∈ xs := List.mem_of_getElem? q2
    simp only [gv, cond_true, hcl x hx β β' hag]
    rw [List.getElem?_eq_getElem hlt] at q2
    simp only [Option.some.injEq] at q2
    simp [Array.getElem?_append, hlt, q2]
  · simp; omega
/-! ### In a region that draws: an operation of one's own; one that reads what another made -/
theorem Stp.touch {P : Program} {o : Oper} {e : Env} {M : Mem} {v : V} {n : Nat} {b : Bk} (h : Stp P o e M v []) (hb : M.get n = some b) (hr : b.ro = false) : Stp P o e M v [(n, b)] := by
  intro S w0 β M' a w hsub hfr hrel hok K Q hk
  have hb' : M'.get n = some b := by
    obtain ⟨b', hb', hwk⟩ := hsub n b hb
    obtain rfl : b = b' := by rcases hwk with h | h; exact h; rw [hr] at h; exact absurd h.1 (by simp)
    exact hb'
  have hg : ∀ k, Mem.get ([(n, b)] ++ M') k = M'.get k := fun k => by
    show Mem.get ((n, b) :: M') k = _
    rw [Mem.get_cons]
    split
    · rename_i h; subst h; exact hb'.symm
    · rfl
  refine h S w0 β M' a w hsub (fun k hk => by cases hk) hrel hok K Q (fun β' u w' hag hrel' hu => hk β' u w' hag (hrel'.ext hg) (fun β'' hag2 => hu β'' (fun k hk => hag2 k (by rw [hg]; exact hk))))
theorem DOpQ.own {P : Program} {nt : Nat} {C : Cx} {id : Nat} {rg : Array Oper} {r : List It} {e0 e : Env} {M0 Mf M : Mem} {k : Nat} {T : List (Nat × Nat)} {i : Nat} {o : Oper} {g : Bool} {l : List Oper} {v : V} (nx : Nat) (hs : Stp P o e M0 v [])
    (h : runD P nt C id rg r e0 M0 Mf k (kontW P nt C (.ops rg (rg.toList.drop k) :: r)) T (i + 1) l (e.put o.dst g v) M nx) : DOpQ P nt C id rg r e0 M0 Mf k T i o g l e M :=
  ⟨[], M0, v, fun _ => hs.toC, .inr rfl, ⟨fun _ _ h => .inl h, fun _ h => by cases h⟩, DrS.go nx h⟩
theorem DOpQ.ld {P : Program} {nt : Nat} {C : Cx} {id : Nat} {rg : Array Oper} {r : List It} {e0 e : Env} {M0 Mf M : Mem} {k : Nat} {T : List (Nat × Nat)} {i : Nat} {o : Oper} {g : Bool} {l : List Oper} {v : V} {n : Nat} {b : Bk} (nx : Nat) (hs : Stp P o e ((n, b) :: M0) v []) (hg : g = true) (hM : M.get n = some b) (hM0 : M0.get n = none) (hr : b.ro = false) (hA : touchA rg i T o [(n, b)] = true)
    (h : runD P nt C id rg r e0 M0 Mf k (kontW P nt C (.ops rg (rg.toList.drop k) :: r)) (touchN [(n, b)] i T) (i + 1) l (e.put o.dst g v) ([(n, b)] ++ M) nx) : DOpQ P nt C id rg r e0 M0 Mf k T i o g l e M := by
  have hn : ∀ x, (Mem.get [(n, b)] x).isSome = true → x = n := fun x hx => by
    rw [Mem.get_cons] at hx
    split at hx
    · assumption
    · cases hx
  have h1 : Mem.get [(n, b)] n = some b := by rw [Mem.get_cons, if_pos rfl]
  refine ⟨[(n, b)], (n, b) :: M0, v, fun _ => (hs.touch (by rw [Mem.get_cons, if_pos rfl]) hr).toC, .inl hg, ⟨fun x c hx => ?_, fun x hx => ?_⟩, DrS.go nx h⟩
  · rw [Mem.get_cons] at hx
    split at hx
    · rename_i hxn; subst hxn; cases hx; exact .inr ⟨by rw [h1]; rfl, hM⟩
    · exact .inl hx
  · obtain rfl := hn x hx
    refine ⟨hM0, .inl (by rw [Mem.get_cons, if_pos rfl]; rfl), fun j hj => ?_⟩
    have k2 := List.all_eq_true.1 hA (x, b) (by simp)
    have := List.all_eq_true.1 k2 _ hj
    exact ancB_ok 20 j o (by simpa using this)
/-! ### Pointers -/
def ptOf (P : Program) (t : TypeId) : Option TypeId :=
  match P.underlying t with
  | some (.pointer el) => if (P.info? el).isSome then some el else none
  | _ => none
def upOf (P : Program) (t : TypeId) : Bool :=
  match P.underlying t with
  | some .unsafePointer => true
  | _ => false
theorem ptOf_ok {P : Program} {t el : TypeId} (h : ptOf P t = some el) : P.underlying t = some (.pointer el) ∧ ∃ j, P.info? el = some j := by
  unfold ptOf at h
  split at h
  · rename_i el' hu
    split at h
    · rename_i hs
      cases h
      exact ⟨hu, Option.isSome_iff_exists.1 hs⟩
    · cases h
  · cases h
theorem upOf_ok {P : Program} {t : TypeId} (h : upOf P t = true) : P.underlying t = some .unsafePointer := by
  unfold upOf at h
  split at h
  · assumption
  · cases h
/-- nil against nil, and a pointer against nil. -/
theorem Stp.ptrNil {P : Program} {o : Oper} {e : Env} {M : Mem} {t1 t2 el : TypeId} {x y : Operand} (ho : o.op = .binOp .eql t1 x y t2) (hx : rd e x = some (true, .c (.v (.pointer none)))) (hy : rd e y = some (true, .c (.v (.pointer none)))) (ht : ptOf P t1 = some el) : Stp P o e M (.c (.v (.bool true))) [] := by
  obtain ⟨hp, j, hj⟩ := ptOf_ok ht
  refine Stp.pure fun β a hop w => ?_
  have hex := hop x (by simp [ho, Op.operands]) _ hx
  have hey := hop y (by simp [ho, Op.operands]) _ hy
  simp only [gv, V.g, Cv.g, cond_true] at hex hey
  unfold execOp
  simp only [ho, hex, hey]
  have h : ∀ d : Nat, (Op.equalIn (d + 1) t1 (.pointer none) (.pointer none)).run P w = .ok true w := fun d => by simp [Op.equalIn, run_underlying hp]
  simp [eqGuard, binOp, Op.equal, Op.maxDepth, h 9999, V.g, Cv.g]
theorem Stp.ptrNil' {P : Program} {o : Oper} {e : Env} {M : Mem} {t1 t2 el : TypeId} {x y : Operand} {n off : Nat} (ho : o.op = .binOp .eql t1 x y t2) (hx : rd e x = some (true, .c (.p n off))) (hy : rd e y = some (true, .c (.v (.pointer none)))) (ht : ptOf P t1 = some el) : Stp P o e M (.c (.v (.bool false))) [] := by
  obtain ⟨hp, j, hj⟩ := ptOf_ok ht
  refine Stp.pure fun β a hop w => ?_
  have hex := hop x (by simp [ho, Op.operands]) _ hx
  have hey := hop y (by simp [ho, Op.operands]) _ hy
  simp only [gv, V.g, Cv.g, cond_true] at hex hey
  unfold execOp
  simp only [ho, hex, hey]
  have h : ∀ (d : Nat) (q : Addr), (Op.equalIn (d + 1) t1 (.pointer (some q)) (.pointer none)).run P w = .ok false w := fun d q => by simp [Op.equalIn, run_underlying hp]
  simp [eqGuard, binOp, Op.equal, Op.maxDepth, h 9999, V.g, Cv.g]
theorem Stp.ptrSame {P : Program} {o : Oper} {e : Env} {M : Mem} {t1 t2 el : TypeId} {x y : Operand} {n off : Nat} (ho : o.op = .binOp .neq t1 x y t2) (hx : rd e x = some (true, .c (.p n off))) (hy : rd e y = some (true, .c (.p n off))) (ht : ptOf P t1 = some el) : Stp P o e M (.c (.v (.bool false))) [] := by
  obtain ⟨hp, j, hj⟩ := ptOf_ok ht
  refine Stp.pure fun β a hop w => ?_
  have hex := hop x (by simp [ho, Op.operands]) _ hx
  have hey := hop y (by simp [ho, Op.operands]) _ hy
  simp only [gv, V.g, Cv.g, cond_true] at hex hey
  unfold execOp
  simp only [ho, hex, hey]
  have h := Lib.run_neq_ptr_same (P := P) w (⟨(β n).blk, (β n).org + off, none⟩ : Addr) hp hj
  simp [eqGuard, h, V.g, Cv.g]
theorem Rel.rw {S : Bs} {w0 w : World} {β : Vl} {M M' : Mem} (h : Rel S w0 β M' w) (hsub : Sub M M') {n : Nat} {b : Bk} (hb : M.get n = some b) (hr : b.ro = false) (hc : b.cells ≠ []) :
    M'.get n = some b ∧ (β n).nul = false ∧ (β n).org = 0 ∧ ∃ junk : List Value, w.heap[(β n).blk]? = some (.cells (b.cells.map (Cv.g β) ++ junk).toArray b.elem (0, 0)) ∧ (β n).siz = b.cells.length + junk.length := by
  obtain ⟨b', hb', hwk⟩ := hsub n b hb
  obtain rfl : b = b' := by rcases hwk with h | h; exact h; rw [hr] at h; exact absurd h.1 (by simp)
  have hbo := h.mem.ok β (Agree.refl _ _) n b hb'
  have hnu : (β n).nul = false := by
    cases h : (β n).nul with
    | false => rfl
    | true => exact absurd (hbo.nul_cells h) hc
  have := hbo
  unfold BkOk at this
  rw [if_neg (by simp [hnu]), if_neg (by simp [hr])] at this
  exact ⟨hb', hnu, this⟩
theorem Stp.toUns {P : Program} {o : Oper} {e : Env} {M : Mem} {src dst el : TypeId} {x : Operand} {n : Nat} {b : Bk} (ho : o.op = .convert src dst x) (hx : rd e x = some (true, .c (.p n 0))) (hb : M.get n = some b) (hr : b.ro = false) (hc : b.cells ≠ [])
    (hs : ptOf P src = some el) (hd : upOf P dst = true) (hz : szOf P el ≠ 0) : Stp P o e M (.c (.p n 0)) [] := by
  obtain ⟨hp, j, hj⟩ := ptOf_ok hs
  refine Stp.read fun S w0 β M' a w hsub hrel hop => ?_
  obtain ⟨_, hnu, ho0, junk, hh, _⟩ := hrel.rw hsub hb hr hc
  have hex := hop x (by simp [ho, Op.operands]) _ hx
  simp only [gv, V.g, Cv.g, cond_true] at hex
  unfold execOp
  simp only [ho, hex]
  have hsh : w.shape? (β n).blk = some (b.elem, (b.cells.map (Cv.g β) ++ junk).toArray.size) := by unfold World.shape?; rw [hh]
  have h := Lib.run_to_unsafe (P := P) w ⟨(β n).blk, (β n).org + 0, none⟩ hp (upOf_ok hd) hj (by rw [szOf_info hj] at hz; exact hz) hsh (by
    have : 0 < b.cells.length := List.length_pos_iff.2 hc
    simp [ho0]; omega)
  rw [Sem.run_bind, h]
  rfl
theorem liesAt_own {P : Program} {e : TypeId} {k : Nat} (hk : 1 ≤ k) (hd : P.depth ≠ 0) (hc : P.cellsOf e ≠ 0) (hs : sameLayout P P.depth e e = true) : liesAt P P.depth e k 0 e 1 = true := by
  obtain ⟨d, hd⟩ := Nat.exists_eq_succ_of_ne_zero hd
  have : rowAt P (sameLayout P P.depth · e) P.depth e k 0 1 = true := by
    rw [hd] at hs ⊢
    unfold rowAt
    rw [if_neg hc]
    simp [hs, hk]
  rw [hd]
  unfold liesAt
  simp [this]
theorem Stp.ofUns {P : Program} {o : Oper} {e : Env} {M : Mem} {src dst el : TypeId} {x : Operand} {n : Nat} {b : Bk} (ho : o.op = .convert src dst x) (hx : rd e x = some (true, .c (.p n 0))) (hb : M.get n = some b) (hr : b.ro = false) (hc : P.cellsOf el ≤ b.cells.length)
    (hs : upOf P src = true) (hd : ptOf P dst = some el) (he : b.elem = el) (hdp : P.depth ≠ 0) (hce : P.cellsOf el ≠ 0) (hsl : sameLayout P P.depth el el = true) : Stp P o e M (.c (.p n 0)) [] := by
  obtain ⟨hp, j, hj⟩ := ptOf_ok hd
  refine Stp.read fun S w0 β M' a w hsub hrel hop => ?_
  have hc0 : b.cells ≠ [] := fun h => by rw [h] at hc; simp at hc; exact hce hc
  obtain ⟨_, hnu, ho0, junk, hh, _⟩ := hrel.rw hsub hb hr hc0
  have hex := hop x (by simp [ho, Op.operands]) _ hx
  simp only [gv, V.g, Cv.g, cond_true] at hex
  unfold execOp
  simp only [ho, hex]
  have hsh : w.shape? (β n).blk = some (b.elem, (b.cells.map (Cv.g β) ++ junk).toArray.size) := by unfold World.shape?; rw [hh]
  have h := Lib.run_from_unsafe (P := P) w ⟨(β n).blk, (β n).org + 0, none⟩ (upOf_ok hs) hp hj hsh (by
    subst he
    rw [ho0]
    refine liesAt_own ?_ hdp hce hsl
    refine (Nat.le_div_iff_mul_le (by omega)).2 ?_
    simp; omega)
  rw [Sem.run_bind, h]
  rfl
/-- unsafe.SliceData. -/
theorem Stp.sliceData {P : Program} {o : Oper} {e : Env} {M : Mem} {x : Operand} {tys : Array TypeId} {n off len esz : Nat} {b : Bk} (ho : o.op = .call { callee := .builtin .unsafeSliceData, args := #[x], argTypes := tys }) (hx : rd e x = some (true, .c (.sl n off len esz))) (hb : M.get n = some b) (hez : esz ≠ 0) (hc : off + esz ≤ b.cells.length) :
    Stp P o e M (.c (.p n off)) [] := by
  refine Stp.read fun S w0 β M' a w hsub hrel hop => ?_
  have hex := hop x (by simp [ho, Op.operands, Call.operands]) _ hx
  obtain ⟨hs1, hs2⟩ := hrel.siz hsub hb
  have hnu : (β n).nul = false := by
    cases h : (β n).nul with
    | false => rfl
    | true => have := hs2 h; rw [this] at hc; simp at hc; omega
  simp only [gv, V.g, cond_true] at hex
  have hex' : a.eval x = .slice (some ⟨(β n).blk, (β n).org + off, none⟩) len (((β n).siz - off) / esz) := by rw [hex]; simp [Cv.g, hnu]
  have hne : ((β n).siz - off) / esz ≠ 0 := by
    have := Nat.div_pos (show esz ≤ (β n).siz - off by omega) (by omega)
    omega
  have h := Lib.run_unsafeSliceData_row (P := P) (w := w) tys o.type ⟨(β n).blk, (β n).org + off, none⟩ len _ hne
  unfold execOp
  simp only [ho, resolve, invoke, builtin, Sem.run_bind, Sem.run_pure, Result.andThen_ok, List.map_toArray, List.map_cons, List.map_nil, hex', h]
  rfl
/-- unsafe.String of the first bytes of a block: it is from now on only read. -/
theorem Stp.unsString {P : Program} {o : Oper} {e : Env} {M : Mem} (nm : Nat) {x y : Operand} {pt it el : TypeId} {n : Nat} {b : Bk} (l : List UInt8) (ho : o.op = .call { callee := .builtin .unsafeString, args := #[x, y], argTypes := #[pt, it] }) (hx : rd e x = some (true, .c (.p n 0))) (hy : rd e y = some (true, .c (.v (.int .i64 l.length))))
    (hb : M.get n = some b) (hr : b.ro = false) (h0 : l ≠ []) (hl : b.cells = l.map bycell) (h63 : l.length ≤ 9223372036854775807) (hp : ptOf P pt = some el) (he : b.elem = el) (hce : P.cellsOf el = 1) (hn : M.get nm = none) :
    Stp P o e M (.c (.v (str l))) [(nm, ⟨true, b.cells, b.elem⟩), (n, dead b.elem)] := by
  intro S w0 β M' a w hsub hfr hrel hok K Q hkk
  have hc : b.cells ≠ [] := by rw [hl]; simpa using h0
  obtain ⟨hb', hnu, ho0, junk, hh, hz⟩ := hrel.rw hsub hb hr hc
  have hn' : M'.get nm = none := by
    rcases hfr nm (by simp [Mem.get]) with h | h
    · rw [hn] at h; cases h
    · exact h
  obtain ⟨hpu, j, hj⟩ := ptOf_ok hp
  have hex := hok β (Agree.refl _ _) x (by simp [ho, Op.operands, Call.operands]) _ hx
  have hey := hok β (Agree.refl _ _) y (by simp [ho, Op.operands, Call.operands]) _ hy
  simp only [gv, V.g, Cv.g, cond_true, ho0, Nat.zero_add] at hex hey
  have hsh : w.shape? (β n).blk = some (el, (b.cells.map (Cv.g β) ++ junk).toArray.size) := by unfold World.shape?; rw [hh, he]
  have hsz : l.length ≤ (b.cells.map (Cv.g β) ++ junk).toArray.size := by simp [hl]
  have hcell : ∀ j x, l[j]? = some x → w.cell? ((⟨(β n).blk, 0, none⟩ : Addr).add j) = some (.int .u8 x.toNat) := fun j x hjx => by
    have hr := hrel.range hsub hb
    have := hr j (.int .u8 x.toNat) (by simp [hl, hjx, bycell, Cv.g])
    rw [ho0] at this
    by_cases hj : j = 0
    · subst hj; simpa [Addr.add] using this
    · simpa [Addr.add, hj] using this
  have hrun := Lib.run_unsafeString_row (P := P) w pt it o.type el hpu hce (β n).blk _ hsh l h0 hsz h63 hcell
  let w' := w.freeze ⟨(β n).blk, 0, none⟩ l.length
  unfold Oper.wp execOp
  simp only [ho, resolve, invoke, builtin, Sem.run_bind, Sem.run_pure, Result.andThen_ok, List.map_toArray, List.map_cons, List.map_nil, hex, hey, hrun]
  have hl0 : l.length ≠ 0 := by simpa using h0
  have hmark := hrel.mark (w' := w') hb' hr hnu hn' (by simp [w', World.freeze]; split <;> rfl) (by simp [w', World.freeze]; split <;> rfl) (by simp [w', World.freeze]; split <;> rfl) (by simp [w', World.freeze]; split <;> simp) (fun a => cell?_freeze w _ _ a) (fun k hk => by
    simp only [w', World.freeze]
    rw [if_neg hl0]
    simp only [Array.getElem?_modify]
    rw [if_neg (fun hh => hk hh.symm)])
  exact hkk _ _ w' (fun j hj => if_neg (fun hh => by rw [hh, hn'] at hj; cases hj)) hmark (fun β'' _ => rfl)
theorem noEscape {P : Program} {f : FuncId} {fn : Func} (hf : P.funcs[f]? = some fn) (h1 : (fn.name == "runtime.NumGoroutine") = false) (h2 : fn.body.isNone = true) (h3 : Extern.findNext fn = none) (h4 : Extern.find fn = some Extern.AbiNoEscape.same) (n off : Nat) : ExtOk P f [.c (.p n off)] (.c (.p n off)) := fun β w => by
  have h := run_callFunc_extern (P := P) hf h1 h2 h3 h4 #[(Cv.p n off).g β] w
  rw [Lib.run_noEscape] at h
  exact h
end Vg
end Go.Proofs.YtoioclmfjmgaaaaDoor
namespace Go.Proofs.YtoioclmfjmgaaaaDoor
namespace Vg
open Go.RowKit
/-- What is known of package-level variables: the block's number, its cells. -/
abbrev Gs := List (Nat × List Value)
def GlW (gs : Gs) (w : World) : Prop := ∀ g cs, (g, cs) ∈ gs → ∃ el mk, w.heap[g]? = some (.cells cs.toArray el mk)
def GlC (gs : Gs) (C : Cx) : Prop := GlW gs C.w0 ∧ ∀ g cs, (g, cs) ∈ gs → C.S.s g
theorem GlW.lt {gs : Gs} {w : World} (h : GlW gs w) {g : Nat} {cs : List Value} (hm : (g, cs) ∈ gs) : g < w.heap.size := by
  obtain ⟨el, mk, hb⟩ := h g cs hm
  exact (Array.getElem?_eq_some_iff.1 hb).1
theorem GlW.cell {gs : Gs} {w : World} (h : GlW gs w) {g i : Nat} {cs : List Value} {v : Value} (hm : (g, cs) ∈ gs) (hi : cs[i]? = some v) : w.cell? ⟨g, i, none⟩ = some v := by
  obtain ⟨el, mk, hb⟩ := h g cs hm
  simp [World.cell?, hb, hi]
theorem GlW.var {gs : Gs} {w : World} {P : Program} {nm : String} (h : GlW gs w) {g : Nat} {cs : List Value} (hm : (g, cs) ∈ gs) (hg : P.globalNamed nm = some g) : w.var? P nm = some cs.toArray := by
  obtain ⟨el, mk, hb⟩ := h g cs hm
  simp [World.var?, hg, hb]
theorem GlW.of_var {w : World} {P : Program} {nm : String} {g : Nat} {cs : List Value} (hg : P.globalNamed nm = some g) (h : w.var? P nm = some cs.toArray) : ∃ el mk, w.heap[g]? = some (.cells cs.toArray el mk) := by
  simp only [World.var?, hg, Option.bind_some] at h
  split at h
  · rename_i cs' el mk hb
    simp only [Option.some.injEq] at h
    subst h
    exact ⟨el, mk, hb⟩
  · cases h
theorem GlW.keep {gs : Gs} {S : Nat → Prop} {w0 w : World} (h : GlW gs w0) (hf : Fr S w0 w) (hS : ∀ g cs, (g, cs) ∈ gs → S g) : GlW gs w := fun g cs hm => by
  obtain ⟨el, mk, hb⟩ := h g cs hm
  exact ⟨el, mk, (hf.old g (hS g cs hm) (h.lt hm)).trans hb⟩
theorem GlW.sub {gs gs' : Gs} {w : World} (h : GlW gs' w) (hs : ∀ x ∈ gs, x ∈ gs') : GlW gs w := fun g cs hm => h g cs (hs _ hm)
theorem GlC.now {gs : Gs} {C : Cx} (h : GlC gs C) {β : Vl} {M : Mem} {w : World} (hr : Rel C.S C.w0 β M w) : GlW gs w := h.1.keep hr.fr h.2
/-! ### Steps -/
/-- The address of an element of an array that is a package-level variable. -/
theorem Stp.addrG {P : Program} {o : Oper} {e : Env} {M : Mem} {ty : TypeId} {x i : Operand} {g off len sz : Nat} {ki : IntKind} {k : Int} (ho : o.op = .indexAddr ty x i) (hx : rd e x = some (true, .c (.v (.pointer (some ⟨g, off, none⟩))))) (hi : rd e i = some (true, .c (.v (.int ki k))))
    (hpa : paOf P ty = some (len, sz)) (h0 : 0 ≤ k) (hlt : k < len) : Stp P o e M (.c (.v (.pointer (some ⟨g, off + k.toNat * sz, none⟩)))) [] := by
  unfold paOf at hpa
  split at hpa <;> first | (cases hpa; done) | skip
  rename_i len' el hu
  split at hpa <;> simp at hpa
  rename_i hsz0
  obtain ⟨rfl, rfl⟩ := hpa
  exact Stp.pure fun β a hop w => by
    have hex := hop x (by simp [ho, Op.operands]) _ hx
    have hei := hop i (by simp [ho, Op.operands]) _ hi
    simp only [gv, V.g, Cv.g, cond_true] at hex hei
    unfold execOp
    simp [ho, hex, hei, Instr.indexAt, Instr.sureAddr, asIntOf, run_underlying hu, h0, hlt, run_sizeOf' (P := P) (t := el) rfl hsz0, V.g, Cv.g, Addr.add_lit]
/-- A load from a package-level variable. -/
theorem StpC.ldG {P : Program} {gs : Gs} {C : Cx} {o : Oper} {e : Env} {M : Mem} {ty : TypeId} {x : Operand} {g i : Nat} {cs : List Value} {v : Value} (hG : GlC gs C) (hm : (g, cs) ∈ gs) (hc : cs[i]? = some v) (ho : o.op = .load ty x) (hx : rd e x = some (true, .c (.v (.pointer (some ⟨g, i, none⟩)))))
    (ha : aggOf P ty = some false) : StpC P C.S C.w0 o e M (.c (.v v)) [] := by
  intro β M' a w _ _ hrel hop K Q hk
  have he := hop β (Agree.refl _ _) x (by simp [ho, Op.operands]) _ hx
  have hcell := (hG.now hrel).cell hm hc
  simp only [gv, V.g, Cv.g, cond_true] at he
  have hrun : (execOp a.eval o).run P w = .ok (.value v) w := by
    unfold execOp
    simp only [ho, he, Instr.loadAt, Instr.sureAddr, Sem.run_bind, Sem.run_pure, Result.andThen_ok, loadVar, run_isAgg_no ha, Bool.false_eq_true, if_false, run_load, hcell, Sem.run_ite]
  unfold Oper.wp
  rw [hrun]
  exact hk β v w (Agree.refl _ _) hrel (fun β'' _ => rfl)
/-- An operation by a step of this context. -/
theorem Sm.opC {P : Program} {nt : Nat} {C : Cx} {rg : Array Oper} {o : Oper} {l : List Oper} {r : List It} {e : Env} {M : Mem} {g : Bool} {v : V} {N : Mem} (nx : Nat) (hg : gd rg e o = some g) (hd : dstOk nt o.dst = true)
    (hN : g = true ∨ N = []) (hs : g = true → StpC P C.S C.w0 o e M v N) (hr : run P nt C 1000 (.ops rg l :: r) (e.put o.dst g v) (N ++ M) nx) : Sm P nt C (.ops rg (o :: l) :: r) e M := fun β a w h1 h2 h3 h4 => by
  have hr := run_ok 1000 _ _ _ nx hr
  have hd := dstOk_lt hd
  have hw : Region.wanted o (yielded rg a.tmps) = g := gd_ok (β := β) hg (fun j want t y _ _ hy => h2 β (Agree.refl _ _) t y hy)
  show wpList P rg (cont P C.Q r) (o :: l) a w
  refine wpList_step fun K hK => ?_
  rw [hw]
  cases g with
  | true =>
    simp only [if_true]
    refine hs rfl β M a w (Sub.refl _) (Fresh.same _ _) h1 (fun β' hb x _ y hy => rd_ok h2 hb hy) K _ ?_
    intro β' u w' hag hrel hu
    refine hK _ _ (hr β' _ w' hrel ?_ ?_ ?_)
    · exact h2.put hag h3 hd (fun β'' hb => by rw [hu β'' hb]; rfl)
    · cases o.dst <;> simp [Act.put, h3]
    · cases o.dst <;> simp [Act.put, h4]
  | false =>
    simp only [Bool.false_eq_true, if_false]
    obtain rfl : N = [] := by rcases hN with hN | hN; exact absurd hN (by simp); exact hN
    refine hK _ _ (hr β _ w h1 ?_ ?_ ?_)
    · exact h2.put (N := []) (Agree.refl _ _) h3 hd (fun β'' _ => rfl)
    · cases o.dst <;> simp [Act.put, h3]
    · cases o.dst <;> simp [Act.put, h4]
theorem DOpQ.ownC {P : Program} {nt : Nat} {C : Cx} {id : Nat} {rg : Array Oper} {r : List It} {e0 e : Env} {M0 Mf M : Mem} {k : Nat} {T : List (Nat × Nat)} {i : Nat} {o : Oper} {g : Bool} {l : List Oper} {v : V} (nx : Nat) (hs : g = true → StpC P C.S C.w0 o e M0 v [])
    (h : runD P nt C id rg r e0 M0 Mf k (kontW P nt C (.ops rg (rg.toList.drop k) :: r)) T (i + 1) l (e.put o.dst g v) M nx) : DOpQ P nt C id rg r e0 M0 Mf k T i o g l e M :=
  ⟨[], M0, v, hs, .inr rfl, ⟨fun _ _ h => .inl h, fun _ h => (by cases h)⟩, DrS.go nx h⟩
/-! ### Contracts that know package-level variables -/
def CallG (gs : Gs) (P : Program) (f : FuncId) (args : List V) (v : V) : Prop :=
  Enters P f ∧ ∀ β w, GlW gs w → Calls P f (args.map (V.g β)).toArray w fun en w' => (∀ β'', en = .returned (v.g β'')) ∧ Fr (fun _ => True) w w'
theorem CallG.intro {gs : Gs} {P : Program} {f : FuncId} {fn : Func} {body : Code} {args : List V} {v : V} (hf : P.funcs[f]? = some fn) (hb : fn.body = some body) (hent : Enters P f) (hnt : args.length ≤ fn.ntmps) (hcl : ∀ x ∈ args, ClV [] x)
    (h : ∀ C, RetOk P C fn v [] → Pins C.S [] → GlC gs C → Sm P fn.ntmps C [.code body] (initE 0 args) []) : CallG gs P f args v := by
  refine ⟨hent, fun β w hG => calls_of_wp hf hb ?_⟩
  let R : Ending → World → Prop := fun en w' => (∀ β'', en = .returned (v.g β'')) ∧ Fr (fun _ => True) w w'
  let C : Cx := ⟨⟨fun _ => True, fun _ => none⟩, w, bodyPost P fn R⟩
  have hret : RetOk P C fn v [] := by
    refine ⟨fun n l hl => (by simp [C] at hl), fun β' a w' u hrel hu hd hres => ?_, fun _ _ h => h⟩
    exact ⟨hd, u, hres, fun β'' => by rw [hu β'' (fun n hn => by cases hn)], hrel.fr⟩
  refine h C hret (fun n l hl => by simp [C] at hl) ⟨hG, fun _ _ _ => trivial⟩ β _ w ⟨Fr.refl _ _, ⟨fun _ _ n b hn => (by cases hn), fun n b hn => (by cases hn), fun n m b b' hn => (by cases hn)⟩, fun n b hn => (by cases hn), fun n l hl => (by simp [C] at hl)⟩ ?_ ?_ rfl
  · intro β' hag t y hy
    obtain ⟨_, h2, h3⟩ := initE_get args 0 t y hy
    simp only [Nat.sub_zero] at h2
    have hlt : t < args.length := (List.getElem?_eq_some_iff.1 h2).1
    obtain ⟨g, x⟩ := y
    simp only at h2 h3
    subst h3
    have hx : x ∈ args := List.mem_of_getElem? h2
    simp only [gv, cond_true, hcl x hx β β' hag]
    rw [List.getElem?_eq_getElem hlt] at h2
    simp only [Option.some.injEq] at h2
    simp [Array.getElem?_append, hlt, h2]
  · simp; omega
theorem CallG.mk {gs : Gs} {P : Program} {f : FuncId} {fn : Func} {body : Code} {args : List V} {v : V} (nx : Nat) (hf : P.funcs[f]? = some fn) (hb : fn.body = some body) (hent : Enters P f) (hnt : args.length ≤ fn.ntmps) (hcl : ∀ x ∈ args, ClV [] x)
    (h : ∀ C, RetOk P C fn v [] → Pins C.S [] → GlC gs C → run P fn.ntmps C 1000 [.code body] (initE 0 args) [] nx) : CallG gs P f args v :=
  CallG.intro hf hb hent hnt hcl fun C hR hP hG => run_ok 1000 _ _ _ nx (h C hR hP hG)
theorem Fr.trans' {S : Nat → Prop} {w0 w w' : World} (h : Fr S w0 w) (k : Fr (fun _ => True) w w') : Fr S w0 w' :=
  ⟨k.os.trans h.os, k.tape.trans h.tape, k.output.trans h.output, Nat.le_trans h.size k.size, fun b hb hlt => (k.old b trivial (Nat.lt_of_lt_of_le hlt h.size)).trans (h.old b hb hlt)⟩
theorem Rel.later {S : Bs} {w0 w w' : World} {β : Vl} {M : Mem} (h : Rel S w0 β M w) (k : Fr (fun _ => True) w w') : Rel S w0 β M w' := by
  refine ⟨h.fr.trans' k, ⟨fun β' hag n b hn => ?_, fun n b hn hu => Nat.lt_of_lt_of_le (h.mem.there n b hn hu) k.size, h.mem.apart⟩, h.own, h.pin⟩
  have hb : β' n = β n := hag n (by simp [hn])
  have hold := h.mem.ok β' hag n b hn
  cases hu : (β n).nul with
  | true =>
    unfold BkOk at hold ⊢
    rw [if_pos (by rw [hb]; exact hu)] at hold ⊢
    exact hold
  | false => exact hold.same (by rw [hb]; exact k.old _ trivial (h.mem.there n b hn hu))
/-- A call met by such a contract. -/
theorem CallQ.ofG {gs : Gs} {P : Program} {nt : Nat} {C : Cx} {todo : List It} {e : Env} {M : Mem} {f : FuncId} {vs : List (Option (Bool × V))} {g : Bool} {dst : Option Nat} {xs : List V} {v : V} (nx : Nat) (hG : GlC gs C) (hc : CallG gs P f xs v) (hg : g = true) (hvs : vs = xs.map fun x => some (true, x)) (hd : dstOk nt dst = true)
    (h : run P nt C 1000 todo (e.put dst g v) M nx) : CallQ P nt C f vs g dst todo e M := by
  subst hg
  refine .inr ⟨rfl, xs, hvs, hc.1, fun β a w h1 h2 h3 h4 => (hc.2 β w (hG.now h1)).mono ?_⟩
  rintro en w' ⟨hen, hfr⟩
  refine ⟨v.g β, hen β, run_ok 1000 _ _ _ nx h β _ w' (h1.later hfr) ?_ ?_ ?_⟩
  · exact EnvOk.put (N := []) h2 (Agree.refl _ _) h3 (dstOk_lt hd) (fun β'' _ => by
      have := (hen β).symm.trans (hen β'')
      simp only [Ending.returned.injEq] at this
      simpa [gv] using this)
  · cases dst <;> simp [Act.put, h3]
  · cases dst <;> simp [Act.put, h4]
theorem CallG.mono {gs gs' : Gs} {P : Program} {f : FuncId} {args : List V} {v : V} (h : CallG gs P f args v) (hs : ∀ x ∈ gs, x ∈ gs') : CallG gs' P f args v :=
  ⟨h.1, fun β w hG => h.2 β w (hG.sub hs)⟩
theorem CallOk.toG {gs : Gs} {P : Program} {f : FuncId} {args : List V} {v : V} (h : CallOk P f args [] v []) : CallG gs P f args v := by
  refine ⟨h.1, fun β w _ => (h.2.2.2 β w ⟨fun _ _ n b hn => (by cases hn), fun n b hn => (by cases hn), fun n m b b' hn => (by cases hn)⟩).mono ?_⟩
  rintro en w' ⟨β', _, hen, _, hfr, _⟩
  exact ⟨fun β'' => hen β'' (fun n hn => by cases hn), ⟨hfr.os, hfr.tape, hfr.output, hfr.size, fun b _ hlt => hfr.old b (fun n b hn => by cases hn) hlt⟩⟩
end Vg
end Go.Proofs.YtoioclmfjmgaaaaDoor
namespace Go.Proofs.YtoioclmfjmgaaaaDoor
open Go.ChangeShapes Go.WideShapes Go.ChangeAt Go.RowKit
open Vg
/-- A place for the names, of no weight. -/
def b1 : Vl := fun _ => ⟨0, 0, 0, false⟩
def bdC : Cv → Prop
  | .v (.int k n) => k.min ≤ n ∧ n ≤ k.max
  | .v (.string s) => s.size ≤ maxLen
  | _ => True
section
variable {H : Type} {enc : TypeId × Value → H} {P : Program} {w : World} {base : Nat} {spare : Nat → Bool} {held : Bool} {r : Reach} {n0 : Nat} {v : Value} {d : DataW H} {p : List MemPlace}
theorem wf_bd {k : IntKind} {n : Int} (h : (Lit.int k n).wf = true) : k.min ≤ n ∧ n ≤ k.max := by
  simpa [Lit.wf] using h
theorem open_cells : ∀ (D : Nat) (t : TypeId) (ks : List Lk), lfOf P D t = some ks → szOf P t = ks.length → ∀ (fuel : Nat) (cs : List Value) (x : DataW H × List MemPlace), DataW.trod enc P w base spare held fuel t cs = some x →
    ∃ xs : List Cv, cs = xs.map (Cv.g b1) ∧ okL ks xs = true ∧ ∀ c ∈ xs, bdC c
  | 0, t, ks, h, hz, fuel, cs, x, hx => by cases h
  | D + 1, t, ks, h, hz, fuel, cs, x, hx => by
    simp only [lfOf] at h
    split at h
    · rename_i k hu
      simp at h; subst h
      obtain ⟨n, rfl, _, hw⟩ := DataW.trod_int hu hx
      exact ⟨[.v (.int k n)], rfl, by simp [okL], by intro c hc; simp at hc; subst hc; exact wf_bd hw⟩
    · rename_i hu
      simp at h; subst h
      obtain ⟨n, rfl, _⟩ := DataW.trod_bool hu hx
      exact ⟨[.v (.bool n)], rfl, rfl, by intro c hc; simp at hc; subst hc; trivial⟩
    · rename_i hu
      simp at h; subst h
      obtain ⟨n, rfl, _, hw⟩ := DataW.trod_string hu hx
      exact ⟨[.v (.string n)], rfl, rfl, by intro c hc; simp at hc; subst hc; exact hw⟩
    · rename_i fs hu
      split at h <;> first | (cases h; done) | skip
      obtain ⟨ys, n, _, _, hlen, hsz, hg⟩ := DataW.trod_struct hu hx
      have go : ∀ (l : List Field) (off i : Nat) (ks : List Lk), lfF P (lfOf P D) off l = some ks → (∀ j, l[j]? = fs[i + j]?) → i + l.length = fs.size →
          ∃ xs : List Cv, (cs.drop off).take ks.length = xs.map (Cv.g b1) ∧ okL ks xs = true ∧ ∀ c ∈ xs, bdC c := by
        intro l
        induction l with
        | nil =>
          intro off i ks h _ _
          simp [lfF] at h; subst h
          exact ⟨[], by simp, rfl, by simp⟩
        | cons f l ih =>
          intro off i ks h hl hi
          simp only [lfF] at h
          split at h <;> first | (cases h; done) | skip
          rename_i hname
          simp only [Bool.or_eq_false_iff, beq_eq_false_iff_ne, bne_eq_false_iff_eq] at hname
          split at h <;> first | (cases h; done) | skip
          rename_i ks1 hk1
          split at h <;> first | (cases h; done) | skip
          rename_i hsz'
          simp only [Bool.and_eq_true, beq_iff_eq, Bool.not_eq_true', List.isEmpty_eq_false_iff] at hsz'
          split at h <;> simp at h
          rename_i ks2 hk2
          subst h
          have hf : fs[i]? = some f := by have := hl 0; simpa using this.symm
          have h1 := hg i f hf
          have hi' : i < ys.length := by rw [hsz]; simp at hi; omega
          rw [List.getElem?_eq_getElem hi', hname.2] at h1
          obtain ⟨xs1, e1, o1, c1⟩ := open_cells D f.type ks1 hk1 hsz'.1 n _ _ h1
          obtain ⟨xs2, e2, o2, c2⟩ := ih (off + ks1.length) (i + 1) ks2 hk2 (fun j => by have := hl (j + 1); simp only [List.getElem?_cons_succ] at this; rw [this]; congr 1; omega) (by simp at hi; omega)
          have hcz : P.cellsOf f.type = ks1.length := hsz'.1
          rw [hcz] at e1
          refine ⟨xs1 ++ xs2, ?_, ?_, ?_⟩
          · rw [List.map_append, ← e1, ← e2, List.length_append, List.take_add, List.drop_drop]
          · have hap : ∀ (ks r : List Lk) (a b : List Cv), okL ks a = true → okL r b = true → okL (ks ++ r) (a ++ b) = true := by
              intro ks
              induction ks with
              | nil => intro r a b h1 h2; cases a with
                | nil => simpa using h2
                | cons => simp [okL] at h1
              | cons k ks ihk =>
                intro r a b h1 h2
                cases a with
                | nil => cases k <;> simp [okL] at h1
                | cons c a =>
                  cases c with
                  | v z => cases k <;> cases z <;> simp [okL] at h1 ⊢ <;> first | exact ⟨h1.1, ihk r a b h1.2 h2⟩ | exact ihk r a b h1 h2
                  | p _ _ => cases k <;> simp [okL] at h1
                  | sl _ _ _ _ => cases k <;> simp [okL] at h1
                  | fn _ _ => cases k <;> simp [okL] at h1
                  | s0 _ _ => cases k <;> simp [okL] at h1
            exact hap _ _ _ _ o1 o2
          · intro c hc
            rcases List.mem_append.1 hc with h | h
            · exact c1 c h
            · exact c2 c h
      obtain ⟨xs, e, o, c⟩ := go fs.toList 0 0 ks h (fun j => by simp) (by simp)
      refine ⟨xs, ?_, o, c⟩
      rw [← e, List.drop_zero]
      have hl2 := okL_length o
      have : cs.length = ks.length := hlen.trans hz
      rw [List.take_of_length_le (by omega)]
    · cases h
theorem open_agg {t : TypeId} {ks : List Lk} (hl : lfOf P 20 t = some ks) (ha : aggOf P t = some true) (hz : szOf P t = ks.length) (hv : Value.okWide P w r n0 t v) (h : DataW.Trod enc P w base spare held t v d p) : ∃ xs : List Cv, v = V.g b1 (.agg xs) ∧ okL ks xs = true ∧ ∀ c ∈ xs, bdC c := by
  obtain ⟨fuel, hf⟩ := h
  obtain ⟨xs, e, o, c⟩ := open_cells 20 t ks hl hz fuel _ _ hf
  have : ∃ fs, P.underlying t = some (.struct fs) := by
    simp only [lfOf] at hl
    split at hl
    · rename_i hu; simp [aggOf, hu] at ha
    · rename_i hu; simp [aggOf, hu] at ha
    · rename_i hu; simp [aggOf, hu] at ha
    · rename_i fs hu; exact ⟨fs, hu⟩
    · cases hl
  obtain ⟨fs, hu⟩ := this
  obtain ⟨cs, rfl, _⟩ := okWide_struct hu hv
  refine ⟨xs, ?_, o, c⟩
  simp only [V.g]
  congr 1
  exact Array.toList_inj.1 (by simpa [Value.cells] using e)
theorem open_leaf {t : TypeId} {k : Lk} (hl : lfOf P 20 t = some [k]) (ha : aggOf P t = some false) (hz : szOf P t = 1) (hv : Value.okWide P w r n0 t v) (h : DataW.Trod enc P w base spare held t v d p) : ∃ x : Cv, v = V.g b1 (.c x) ∧ okL [k] [x] = true ∧ bdC x := by
  obtain ⟨fuel, hf⟩ := h
  obtain ⟨xs, e, o, c⟩ := open_cells 20 t [k] hl hz fuel _ _ hf
  have hlen := okL_length o
  match xs, hlen with
  | [x], _ =>
    refine ⟨x, ?_, o, c x (by simp)⟩
    have hx : ∃ u, x = .v u := by
      cases x with
      | v u => exact ⟨u, rfl⟩
      | p _ _ => cases k <;> simp [okL] at o
      | sl _ _ _ _ => cases k <;> simp [okL] at o
      | fn _ _ => cases k <;> simp [okL] at o
      | s0 _ _ => cases k <;> simp [okL] at o
    obtain ⟨u, rfl⟩ := hx
    have hcv : v.cells.toList = [u] := by simpa [Cv.g] using e
    simp only [V.g, Cv.g]
    simp only [lfOf] at hl
    split at hl
    · rename_i kk hu
      obtain ⟨n, hn, _⟩ := open_int hu hv ⟨fuel, hf⟩
      subst hn; simpa [Value.cells] using hcv
    · rename_i hu
      obtain ⟨n, hn, _⟩ := open_bool hu hv ⟨fuel, hf⟩
      subst hn; simpa [Value.cells] using hcv
    · rename_i hu
      obtain ⟨n, hn⟩ := okWide_string hu hv
      subst hn; simpa [Value.cells] using hcv
    · rename_i fs hu; simp [aggOf, hu] at ha
    · cases hl
theorem okL_i {k : IntKind} {ks : List Lk} {cs : List Cv} (h : okL (.i k :: ks) cs = true) : ∃ n cs', cs = .v (.int k n) :: cs' ∧ okL ks cs' = true := by
  match cs, h with
  | .v (.int k' n) :: cs', h =>
    simp [okL] at h
    obtain ⟨rfl, h⟩ := h
    exact ⟨n, cs', rfl, h⟩
theorem okL_b {ks : List Lk} {cs : List Cv} (h : okL (.b :: ks) cs = true) : ∃ n cs', cs = .v (.bool n) :: cs' ∧ okL ks cs' = true := by
  match cs, h with
  | .v (.bool n) :: cs', h => exact ⟨n, cs', rfl, h⟩
theorem okL_s {ks : List Lk} {cs : List Cv} (h : okL (.s :: ks) cs = true) : ∃ n cs', cs = .v (.string n) :: cs' ∧ okL ks cs' = true := by
  match cs, h with
  | .v (.string n) :: cs', h => exact ⟨n, cs', rfl, h⟩
theorem okL_n {cs : List Cv} (h : okL [] cs = true) : cs = [] := by
  match cs, h with
  | [], _ => rfl
end
end Go.Proofs.YtoioclmfjmgaaaaDoor
namespace Go.Proofs.YtoioclmfjmgaaaaDoor
open Go.ChangeShapes Go.WideShapes Go.ChangeAt Go.RowKit
open Vg
set_option linter.unusedSimpArgs false
set_option linter.unusedVariables false
section
variable {H : Type} {enc : TypeId × Value → H} {P : Program} {w : World} {base : Nat} {spare : Nat → Bool} {held : Bool} {r : Reach} {n0 : Nat} {v : Value} {d : DataW H} {p : List MemPlace}
theorem flat_get {α : Type} {k : Nat} (hk : 0 < k) : ∀ (rows : List (List α)), (∀ x ∈ rows, x.length = k) → ∀ j, rows.flatten[j]? = (rows[j / k]?).bind (·[j % k]?)
  | [], _, j => by simp
  | x :: rows, h, j => by
    have hx := h x (by simp)
    rw [List.flatten_cons]
    by_cases hj : j < k
    · rw [List.getElem?_append_left (by omega), Nat.div_eq_of_lt hj, Nat.mod_eq_of_lt hj]; rfl
    · rw [List.getElem?_append_right (by omega), hx, flat_get hk rows (fun y hy => h y (by simp [hy])) (j - k)]
      have e1 : j / k = (j - k) / k + 1 := by rw [← Nat.div_eq_sub_div hk (by omega)]
      have e2 : (j - k) % k = j % k := (Nat.mod_eq_sub_mod (by omega)).symm
      rw [e1, e2, List.getElem?_cons_succ]
theorem flat_len {α : Type} {k : Nat} : ∀ (rows : List (List α)), (∀ x ∈ rows, x.length = k) → rows.flatten.length = rows.length * k
  | [], _ => by simp
  | x :: rows, h => by rw [List.flatten_cons, List.length_append, h x (by simp), flat_len rows (fun y hy => h y (by simp [hy])), List.length_cons, Nat.succ_mul]; omega
theorem okL_isV : ∀ {ks : List Lk} {xs : List Cv}, okL ks xs = true → ∀ c ∈ xs, c.isV = true
  | [], [], _, c, hc => by cases hc
  | [], _ :: _, h, _, _ => by simp [okL] at h
  | k :: ks, [], h, _, _ => by cases k <;> simp [okL] at h
  | k :: ks, x :: xs, h, c, hc => by
    have h2 : x.isV = true ∧ okL ks xs = true := by
      cases x with
      | v z => cases k <;> cases z <;> simp [okL] at h <;> first | exact ⟨rfl, h.2⟩ | exact ⟨rfl, h⟩
      | p _ _ => cases k <;> simp [okL] at h
      | sl _ _ _ _ => cases k <;> simp [okL] at h
      | fn _ _ => cases k <;> simp [okL] at h
      | s0 _ _ => cases k <;> simp [okL] at h
    rcases List.mem_cons.1 hc with rfl | hc
    · exact h2.1
    · exact okL_isV h2.2 c hc
/-- A slice of plain data, in its cell. -/
theorem open_sl {t e : TypeId} {ks : List Lk} (ht : P.underlying t = some (.slice e)) (hl : lfOf P 20 e = some ks) (hz : szOf P e = ks.length) (h0 : ks ≠ []) {fuel : Nat} {x : DataW H × List MemPlace} (hok : Cell.okWide P w r n0 t v) (h : DataW.trod enc P w base spare held fuel t [v] = some x) :
    ∃ (l : Vg.Loc) (rows : List (List Cv)), (∀ y ∈ rows, okL ks y = true ∧ ∀ c ∈ y, bdC c) ∧ rows.length ≤ maxLen ∧ (∀ (β : Vl) (nm : Nat), β nm = l → v = (Cv.sl nm 0 rows.length ks.length).g β) ∧
      (∀ (β : Vl) (nm : Nat), β nm = l → BkOk β nm ⟨true, rows.flatten, e⟩ w) ∧ (l.nul = false → l.blk < w.heap.size) := by
  have hcz : P.cellsOf e = ks.length := hz
  have hk0 : 0 < ks.length := List.length_pos_iff.2 h0
  rcases Go.Deep.open_slice ht h with ⟨hcs, _⟩ | ⟨a, len, cap, m, n, D, Pl, hcs, _, hlc, hcm, hm, _, hx⟩
  · simp at hcs
    subst hcs
    refine ⟨⟨0, 0, 0, true⟩, [], by simp, by simp, fun β nm hb => by simp [Cv.g, hb], fun β nm hb => ?_, by simp⟩
    unfold BkOk
    rw [if_pos (by rw [hb])]; rfl
  · simp at hcs
    subst hcs
    have hlm : len ≤ m := by rw [hm]; split <;> omega
    have hsp : a.spot = none ∧ a.block < w.heap.size := by
      simp only [Cell.okWide, ht, Cell.ok] at hok
      obtain ⟨_, _, _, h2, row, cells, h3, _⟩ := hok
      refine ⟨h2, ?_⟩
      unfold World.shape? at h3
      rcases Nat.lt_or_ge a.block w.heap.size with h | h
      · exact h
      · rw [Array.getElem?_eq_none h] at h3; cases h3
    have hrow : ∀ i, ∃ y : List Cv, i < m → (okL ks y = true ∧ ∀ c ∈ y, bdC c) ∧ ∀ q, q < ks.length → w.cell? ((a.add (i * ks.length)).add q) = (y.map (Cv.g b1))[q]? := by
      intro i
      by_cases hi : i < m
      · obtain ⟨cs', h1, h2⟩ := hx i hi
        rw [hcz] at h1
        obtain ⟨y, e1, o1, c1⟩ := open_cells 20 e ks hl hz n _ _ h2
        obtain ⟨_, hlen, hcell⟩ := World.cells?_some h1
        refine ⟨y, fun _ => ⟨⟨o1, c1⟩, fun q hq => ?_⟩⟩
        rw [hcell q hq, e1]
      · exact ⟨[], fun h => absurd h hi⟩
    obtain ⟨R, hR⟩ := Classical.axiomOfChoice hrow
    have hrl : ∀ y ∈ (List.range len).map R, y.length = ks.length := by
      intro y hy
      obtain ⟨i, hi, rfl⟩ := List.mem_map.1 hy
      exact okL_length (hR i (by have := List.mem_range.1 hi; omega)).1.1
    refine ⟨⟨a.block, a.off, cap * ks.length, false⟩, (List.range len).map R, ?_, by simp; omega, fun β nm hb => ?_, fun β nm hb => ?_, fun _ => hsp.2⟩
    · intro y hy
      obtain ⟨i, hi, rfl⟩ := List.mem_map.1 hy
      exact (hR i (by have := List.mem_range.1 hi; omega)).1
    · obtain ⟨ab, ao, asp⟩ := a
      obtain ⟨h1, _⟩ := hsp
      simp only at h1
      subst h1
      simp [Cv.g, hb, Nat.mul_div_cancel _ hk0]
    · unfold BkOk
      rw [if_neg (by rw [hb]; simp), if_pos rfl, hb]
      refine ⟨fun j c hj => ?_, by simp only [flat_len _ hrl, List.length_map, List.length_range]; exact Nat.mul_le_mul_right _ hlc⟩
      rw [List.getElem?_map, Option.map_eq_some_iff] at hj
      obtain ⟨y, hj, rfl⟩ := hj
      rw [flat_get hk0 _ hrl] at hj
      obtain ⟨rw', h1, h2⟩ := Option.bind_eq_some_iff.1 hj
      rw [List.getElem?_map, Option.map_eq_some_iff] at h1
      obtain ⟨i, hi, rfl⟩ := h1
      have hil : i = j / ks.length ∧ j / ks.length < len := by
        have h3 := (List.getElem?_eq_some_iff.1 hi)
        obtain ⟨h4, h5⟩ := h3
        simp at h4 h5
        omega
      obtain ⟨rfl, hil⟩ := hil
      obtain ⟨⟨o1, _⟩, hc⟩ := hR (j / ks.length) (by omega)
      have hv := okL_isV o1 y (List.mem_of_getElem? h2)
      have h3 := hc (j % ks.length) (Nat.mod_lt _ hk0)
      rw [List.getElem?_map, h2, Option.map_some, Cv.isV_g hv β b1, Go.Deep.add_add] at h3
      obtain ⟨ab, ao, asp⟩ := a
      have h1 := hsp.1
      simp only at h1
      subst h1
      rw [show j / ks.length * ks.length + j % ks.length = j by rw [Nat.mul_comm]; exact Nat.div_add_mod j _] at h3
      have hpl : (⟨ab, ao, none⟩ : Addr).add j = ⟨ab, ao + j, none⟩ := by unfold Addr.add; split <;> simp_all
      rw [hpl] at h3
      exact h3
end
/-- Memory that is only read, of plain cells. -/
theorem MemOk.ro {β : Vl} {M : Mem} {W : World} (h : ∀ n b, M.get n = some b → b.ro = true ∧ b.cells.all Cv.isV = true ∧ BkOk β n b W ∧ ((β n).nul = false → (β n).blk < W.heap.size)) : MemOk β M W := by
  refine ⟨fun β' hag n b hb => ?_, fun n b hb hu => (h n b hb).2.2.2 hu, fun n m b b' hb hm hne hr => ?_⟩
  · obtain ⟨h1, h2, h3, _⟩ := h n b hb
    exact h3.cells (hag n (by simp [hb])) (List.map_congr_left fun x hx => Cv.isV_g (List.all_eq_true.1 h2 x hx) _ _)
  · rw [(h n b hb).1] at hr; cases hr
theorem MemOk.roL {β : Vl} {M : Mem} {W : World} (h : ∀ p ∈ M, p.2.ro = true ∧ p.2.cells.all Cv.isV = true ∧ BkOk β p.1 p.2 W ∧ ((β p.1).nul = false → (β p.1).blk < W.heap.size)) : MemOk β M W :=
  MemOk.ro fun n b hb => h (n, b) (Mem.mem_of_get hb)
theorem CallOk.callsM {P : Program} {f : FuncId} {args : List V} {M : Mem} {k : Bool} {β : Vl} {W : World} (h : CallOk P f args M (.c (.v (.bool k))) []) (hm : MemOk β M W) (hro : ∀ n b, M.get n = some b → b.ro = true) :
    Calls P f (args.map (V.g β)).toArray W fun e W' => e = .returned (.bool k) ∧ Below W.heap.size W W' := by
  refine (h.2.2.2 β W hm).mono ?_
  rintro e W' ⟨β', hag, hen, _, hfr, _⟩
  exact ⟨hen β' (Agree.refl _ _), hfr.os, hfr.tape, hfr.output, hfr.size, fun k hk => hfr.old k (fun n b hb hr => by rw [hro n b hb] at hr; cases hr) hk⟩
end Go.Proofs.YtoioclmfjmgaaaaDoor
namespace Go.Proofs.YtoioclmfjmgaaaaDoor
open Go.ChangeShapes Go.WideShapes Go.ChangeAt Go.RowKit
open Vg
set_option maxRecDepth 100000
set_option linter.unusedSimpArgs false
set_option linter.unusedVariables false
/-- A place for the names, of no weight. -/
def b0 : Vl := fun _ => ⟨0, 0, 0, false⟩
theorem CallOk.calls {P : Program} {f : FuncId} {args : List V} {v : V} (h : CallOk P f args [] v []) (W : World) :
    Calls P f (args.map (V.g b0)).toArray W fun e W' => e = .returned (v.g b0) ∧ Below W.heap.size W W' := by
  refine (h.2.2.2 b0 W ⟨fun _ _ n b hb => by simp [Mem.get] at hb, fun n b hb => by simp [Mem.get] at hb, fun n m b b' hb => by simp [Mem.get] at hb⟩).mono ?_
  rintro e W' ⟨β', _, hen, _, hfr, _⟩
  exact ⟨hen b0 (fun n hn => by simp [Mem.get] at hn), hfr.os, hfr.tape, hfr.output, hfr.size, fun k hk => hfr.old k (fun n b hb => by simp [Mem.get] at hb) hk⟩
section
variable {H : Type} {enc : TypeId × Value → H} {P : Program}
theorem trodAll_stays (hl : laidOutB P = true) {W W' : World} {sp : Nat → Bool} (hb : Below W.heap.size W W') : ∀ {ts : List TypeId} {vs : List Value} {ds : List (DataW H)} {ps : List MemPlace},
    (∀ t ∈ ts, P.readableRec t = true ∧ t < P.types.size) → DataW.TrodAll enc P W 0 (fun _ => true) true ts vs ds ps → (∀ p ∈ ps, p.block < W.heap.size) → (∀ p ∈ ps, sp p.block = true) →
    DataW.TrodAll enc P W' 0 sp true ts vs ds ps
  | [], vs, ds, ps, _, h, _, _ => by
    cases vs <;> cases ds <;> simp_all [DataW.TrodAll]
  | t :: ts, vs, ds, ps, hr, h, hlt, hs => by
    obtain ⟨v, vs', d, ds', p, q, rfl, rfl, rfl, hd, hrest⟩ := trodAll_cons h
    refine ⟨p, q, WideElems.Trod_stays hl (hr t (by simp)).1 (hr t (by simp)).2 hd (fun x hx => hb.same (hlt x (by simp [hx]))) (fun x hx => hs x (by simp [hx])), ?_, rfl⟩
    exact trodAll_stays hl hb (fun t' ht' => hr t' (by simp [ht'])) hrest (fun x hx => hlt x (by simp [hx])) (fun x hx => hs x (by simp [hx]))
theorem post_of_below {f : Func} {s : ChangeSpec} {apart fresh handsOn again : Bool} {W W' : World} {args : Array Value} {v : Value} {ds gs : List (DataW H)} {before pa pv : List MemPlace}
    (hW : DataW.Whole enc P f.params.toList s.vars apart W args.toList ds gs before)
    (hres : ∀ (b : Nat) (sp : Nat → Bool) (hd : Bool), DataW.TrodAll enc P W' b sp hd f.resultTypes.toList (v.resultList f.resultTypes.size) (s.fn H (ds ++ gs)).results [])
    (hargs : ∀ sp : Nat → Bool, (∀ p ∈ before, sp p.block = true) → DataW.TrodAll enc P W' 0 sp true f.params.toList args.toList (s.fn H (ds ++ gs)).args pa)
    (hvars : ∀ sp : Nat → Bool, (∀ p ∈ before, sp p.block = true) → DataW.TrodVars enc P W' sp s.vars (s.fn H (ds ++ gs)).vars pv)
    (hps : before = pa ++ pv) (hb : Below W.heap.size W W')
    (hok : ∀ (j : Nat) (t : TypeId) (r : Value), f.resultTypes[j]? = some t → (v.resultList f.resultTypes.size)[j]? = some r → Value.okWide P W' .any 0 t r) :
    s.post enc P f apart fresh handsOn again W args v W' := by
  have hlt : ∀ p ∈ before, p.block < W.heap.size := fun p hp => hW.lt p hp
  have hold : ∀ p ∈ before, (fun b => decide (b < W.heap.size)) p.block = true := fun p hp => by simpa using hlt p hp
  refine ⟨ds, gs, before, [], pa, pv, hW, hres _ _ _, hargs _ hold, hvars _ hold, World.keptBut_mono (fun p hp => ⟨hp, ?_⟩) (hb.frame (· ∈ before)), fun _ => ?_⟩
  · rw [hps, List.mem_append] at hp
    exact Or.inr hp
  · obtain ⟨_, _, _, _, _, hz, hn⟩ := hW
    refine ⟨hok, _, _, ([] ++ pa) ++ pv, ⟨[] ++ pa, pv, trodAll_append (hargs _ (fun _ _ => rfl)) (hres _ _ _), hvars _ (fun _ _ => rfl), rfl, ?_, ?_⟩, ?_⟩
    · intro b off hp
      have hin : MemPlace.cell b off ∈ before := by rw [hps]; simpa using hp
      rw [hb.frozen (hlt _ hin)]
      exact hz b off hin
    · intro ha
      have := hn ha
      rw [hps] at this
      simpa using this
    · intro p hp _
      rw [hps]
      simpa using hp
/-- The last step of a law: it returned true, and nothing old has changed. -/
theorem law_post {f : Func} {s : ChangeSpec} {apart fresh handsOn again : Bool} {W W' : World} {args : Array Value} {ds gs : List (DataW H)} {before : List MemPlace} {tb : TypeId}
    (hl : laidOutB P = true) (hp : ∀ t ∈ f.params.toList, P.readableRec t = true ∧ t < P.types.size) (hr : f.resultTypes = #[tb]) (hb4 : P.underlying tb = some .bool) (hvars : s.vars = [])
    (hW : DataW.Whole enc P f.params.toList s.vars apart W args.toList ds gs before) (hfn : s.fn H ds = { results := [.lit (.bool true)], args := ds }) (hb : Below W.heap.size W W') :
    s.post enc P f apart fresh handsOn again W args (.bool true) W' := by
  have hW' := hW
  obtain ⟨p, q, hA, hV, rfl, hfz, hnd⟩ := hW
  rw [hvars] at hV
  obtain ⟨rfl, rfl⟩ := trodVars_none hV
  have hlt : ∀ x ∈ p, x.block < W.heap.size := fun x hx => hW'.lt x (by simp [hx])
  refine post_of_below (pa := p) (pv := []) hW' (fun b sp hd => ?_) (fun sp hsp => ?_) (fun sp hsp => ?_) rfl hb (ok_one hr rfl (okWide_bool_mk hb4 _))
  · rw [List.append_nil, hfn, hr]
    exact trodAll_mk1 (shut_bool hb4 _)
  · rw [List.append_nil, hfn]
    exact trodAll_stays hl hb hp hA hlt (fun x hx => hsp x (by simp [hx]))
  · rw [List.append_nil, hfn, hvars]
    rfl
end
end Go.Proofs.YtoioclmfjmgaaaaDoor
