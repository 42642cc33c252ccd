/- A region that draws its order: whatever the order, it comes to what the order of the text comes to. -/
import Derived.Test.YtpahigegcbdleaaDoorVr
namespace Go.Proofs.YtpahigegcbdleaaDoor
namespace Vg
open Go.RowKit

/-- The operations that come ahead of o, in every order. -/
def aft (o : Oper) : List Nat := (o.after.toList.filter fun e => Region.binds .any e).map (·.on)
/-- The writers of a slot, by place. -/
def Oper.isW (o : Oper) (t : Nat) : Bool := match o.dst with | some d => d == t | none => false
/-- i comes ahead of o, by its edges or by those of one that comes ahead of it. -/
inductive Anc (rg : Array Oper) (b : Nat) : Nat → Oper → Prop where
  | base {i : Nat} {o : Oper} (h : i ∈ aft o) : Anc rg b i o
  | step {i j : Nat} {o o' : Oper} (h : j ∈ aft o) (hb : j < b) (ho : rg[j]? = some o') (h' : Anc rg b i o') : Anc rg b i o
theorem Anc.done {rg : Array Oper} {b k i : Nat} {o : Oper} {D : Nat → Bool} (h : Anc rg b i o) (hcl : ∀ j o, j < k → D j = true → rg[j]? = some o → ∀ x, x ∈ aft o → D x = true) (hb : b ≤ k) (hed : ∀ x, x ∈ aft o → D x = true) : D i = true := by
  induction h with
  | base h => exact hed _ h
  | step h hjb ho _ ih => exact ih (hcl _ _ (by omega) (hed _ h) ho)
/-- The same, found by search. -/
def ancB (rg : Array Oper) (b : Nat) : Nat → Nat → Oper → Bool
  | 0, i, o => (aft o).contains i
  | d + 1, i, o => (aft o).contains i || (aft o).any fun j => decide (i < j) && (decide (j < b) && (match rg[j]? with | some o' => ancB rg b d i o' | none => false))
theorem ancB_ok {rg : Array Oper} {b : Nat} : ∀ (d i : Nat) (o : Oper), ancB rg b d i o = true → Anc rg b i o
  | 0, i, o, h => .base (by simpa [ancB] using h)
  | d + 1, i, o, h => by
    simp only [ancB, Bool.or_eq_true, List.any_eq_true, Bool.and_eq_true, decide_eq_true_eq] at h
    rcases h with h | ⟨j, hj, _, hb, h⟩
    · exact .base (by simpa using h)
    · split at h
      · rename_i o' ho
        exact .step hj hb ho (ancB_ok d i o' h)
      · cases h
/-- The first k operations may come in any order that their edges allow; the rest comes behind them, in its order. -/
def dfOk (rg : Array Oper) (k : Nat) : Bool :=
  decide (k ≤ rg.size) &&
  (List.range rg.size).all fun i =>
    match rg[i]? with
    | none => true
    | some o =>
      (aft o).all (fun j => decide (j < i)) &&
      (if i < k then
        (List.range k).all fun j =>
          j == i ||
          match rg[j]? with
          | none => true
          | some o' =>
            (match o'.dst with
             | none => true
             | some d => (o.dst != some d) && (!(o.looksAt rg).contains d || (aft o).contains j || (aft o').contains i))
       else (List.range i).all fun j => ancB rg i 20 j o)

/-- An operation's step, in this context alone. -/
def StpC (P : Program) (S : Bs) (w0 : World) (o : Oper) (e : Env) (M : Mem) (v : V) (N : Mem) : Prop :=
  ∀ β M' a w, Sub M M' → Fresh N M M' → Rel S w0 β M' w → OpOk β M' e o a →
    ∀ (K : Act → World → Prop) (Q : Exit → Act → World → Prop),
      (∀ β' u w', Agree M' β β' → Rel S w0 β' (N ++ M') w' → (∀ β'', Agree (N ++ M') β' β'' → u = v.g β'') → K (a.put o.dst u) w') → o.wp P a w K Q
theorem Stp.toC {P : Program} {S : Bs} {w0 : World} {o : Oper} {e : Env} {M : Mem} {v : V} {N : Mem} (h : Stp P o e M v N) : StpC P S w0 o e M v N := fun β M' a w => h S w0 β M' a w
/-- The trace of the first operations, in the order of the text: each on the memory M0 of the start and, where it writes what others of them made, on that. T: who has touched which name. -/
inductive Tr (P : Program) (S : Bs) (w0 : World) (rg : Array Oper) (e0 : Env) (M0 Mf : Mem) : List Oper → Env → Mem → List (Nat × Nat) → Prop where
  | nil (hs : ∀ n b, M0.get n = some b → Mf.get n = some b) : Tr P S w0 rg e0 M0 Mf [] e0 Mf []
  | snoc {l : List Oper} {e : Env} {M : Mem} {T : List (Nat × Nat)} {o : Oper} {g : Bool} {v : V} {N Ms : Mem} (h : Tr P S w0 rg e0 M0 Mf l e M T) (hg : gd rg e o = some g) (hs : g = true → StpC P S w0 o e Ms v N) (hN : g = true ∨ N = [])
      (hMs : ∀ n b, Ms.get n = some b → M0.get n = some b ∨ ((N.get n).isSome = true ∧ M.get n = some b))
      (hf : ∀ n, (N.get n).isSome = true → M0.get n = none ∧ ((Ms.get n).isSome = true ∨ M.get n = none) ∧ ∀ i, (n, i) ∈ T → Anc rg l.length i o) : Tr P S w0 rg e0 M0 Mf (l ++ [o]) (e.put o.dst g v) (N ++ M) (N.map (fun p => (p.1, l.length)) ++ T)

/-- The same, by place. -/
structure Tf (P : Program) (S : Bs) (w0 : World) (rg : Array Oper) (e0 : Env) (M0 Mf : Mem) (k : Nat) where
  E : Nat → Env
  MM : Nat → Mem
  G : Nat → Bool
  W : Nat → V
  N : Nat → Mem
  e0 : E 0 = e0
  m0 : MM 0 = Mf
  sub : ∀ n b, M0.get n = some b → Mf.get n = some b
  step : ∀ i, i < k → ∃ o Ms, rg[i]? = some o ∧ gd rg (E i) o = some (G i) ∧ E (i + 1) = (E i).put o.dst (G i) (W i) ∧ MM (i + 1) = N i ++ MM i ∧ (G i = true → StpC P S w0 o (E i) Ms (W i) (N i)) ∧ (G i = true ∨ N i = []) ∧
    (∀ n b, Ms.get n = some b → M0.get n = some b ∨ (((N i).get n).isSome = true ∧ (MM i).get n = some b)) ∧ (∀ n, ((N i).get n).isSome = true → M0.get n = none ∧ ((Ms.get n).isSome = true ∨ (MM i).get n = none) ∧ ∀ i', i' < i → ((N i').get n).isSome = true → Anc rg i i' o)

theorem Mem.mem_of_get' : ∀ {M : Mem} {n : Nat}, (M.get n).isSome = true → n ∈ M.map (·.1)
  | [], n, h => by cases h
  | (k, c) :: r, n, h => by
    simp only [Mem.get] at h
    cases hk : (k == n) with
    | true => have : k = n := by simpa using hk
              subst this; simp
    | false => rw [hk] at h; exact List.mem_cons_of_mem _ (Mem.mem_of_get' h)
theorem Tr.fn {P : Program} {S : Bs} {w0 : World} {rg : Array Oper} {e0 : Env} {M0 Mf : Mem} {l : List Oper} {e : Env} {M : Mem} {TT : List (Nat × Nat)} (h : Tr P S w0 rg e0 M0 Mf l e M TT) (hl : ∀ i, i < l.length → rg[i]? = l[i]?) :
    ∃ T : Tf P S w0 rg e0 M0 Mf l.length, (T.E l.length = e ∧ T.MM l.length = M) ∧ ∀ i n, i < l.length → ((T.N i).get n).isSome = true → (n, i) ∈ TT := by
  induction h with
  | nil hs => exact ⟨⟨fun _ => e0, fun _ => Mf, fun _ => true, fun _ => .agg [], fun _ => [], rfl, rfl, hs, fun i hi => absurd hi (by simp)⟩, ⟨rfl, rfl⟩, fun i n hi => absurd hi (by simp)⟩
  | @snoc l e M TT o g v N Ms h hg hs hN hMs hf ih =>
    obtain ⟨T, ⟨he, hm⟩, hT⟩ := ih (fun i hi => by
      rw [hl i (by simp; omega), List.getElem?_append_left hi])
    refine ⟨⟨fun i => if i ≤ l.length then T.E i else e.put o.dst g v, fun i => if i ≤ l.length then T.MM i else N ++ M, fun i => if i < l.length then T.G i else g, fun i => if i < l.length then T.W i else v, fun i => if i < l.length then T.N i else N, by simp [T.e0], by simp [T.m0], T.sub, ?_⟩, ⟨by simp; intro hh; omega, by simp; intro hh; omega⟩, ?_⟩
    · intro i hi
      simp only [List.length_append, List.length_cons, List.length_nil, Nat.zero_add] at hi
      by_cases hlt : i < l.length
      · obtain ⟨o', Ms', h1, h2, h3, h4, h5, h6, h7, h8⟩ := T.step i hlt
        refine ⟨o', Ms', h1, ?_, ?_, ?_, ?_, ?_, ?_, ?_⟩
        · simpa [hlt, Nat.le_of_lt hlt, Nat.succ_le_of_lt hlt] using h2
        · simpa [hlt, Nat.le_of_lt hlt, Nat.succ_le_of_lt hlt] using h3
        · simpa [hlt, Nat.le_of_lt hlt, Nat.succ_le_of_lt hlt] using h4
        · simpa [hlt, Nat.le_of_lt hlt, Nat.succ_le_of_lt hlt] using h5
        · simpa [hlt] using h6
        · simpa [hlt, Nat.le_of_lt hlt] using h7
        · intro n hn
          simp only [hlt, if_true] at hn
          obtain ⟨k1, k2, k3⟩ := h8 n hn
          refine ⟨k1, by simpa [Nat.le_of_lt hlt] using k2, fun i' hi' hh => k3 i' hi' ?_⟩
          rw [if_pos (by omega)] at hh
          exact hh
      · have hi' : i = l.length := by omega
        subst hi'
        refine ⟨o, Ms, ?_, ?_, ?_, ?_, ?_, ?_, ?_, ?_⟩
        · rw [hl l.length (by simp)]; simp
        · simpa [he] using hg
        · simp [he]; intro hh; omega
        · simp [hm]; intro hh; omega
        · simpa [he] using hs
        · simpa using hN
        · simpa [hm] using hMs
        · intro n hn
          simp only [Nat.lt_irrefl, if_false] at hn
          obtain ⟨k1, k2, k3⟩ := hf n hn
          refine ⟨k1, by simpa [hm] using k2, fun i' hi' hh => k3 i' (hT i' n hi' ?_)⟩
          rw [if_pos hi'] at hh
          exact hh
    · intro i n hi hn
      replace hn : ((if i < l.length then T.N i else N : Mem).get n).isSome = true := hn
      simp only [List.length_append, List.length_cons, List.length_nil, Nat.zero_add] at hi
      rw [List.mem_append]
      by_cases hlt : i < l.length
      · rw [if_pos hlt] at hn
        exact .inr (hT i n hlt hn)
      · have hi' : i = l.length := by omega
        subst hi'
        rw [if_neg hlt] at hn
        left
        obtain ⟨p, hp, hp1⟩ := List.mem_map.1 (Mem.mem_of_get' hn)
        exact List.mem_map.2 ⟨p, hp, by rw [hp1]⟩

section
variable {P : Program} {S : Bs} {w0 : World} {rg : Array Oper} {e0 : Env} {M0 Mf : Mem} {k : Nat}
/-- What has been done, in whatever order. -/
def Tf.env (T : Tf P S w0 rg e0 M0 Mf k) (D : Nat → Bool) : Nat → Env
  | 0 => e0
  | j + 1 => match rg[j]? with
    | some o => if D j then (T.env D j).put o.dst (T.G j) (T.W j) else T.env D j
    | none => T.env D j
def Tf.mem (T : Tf P S w0 rg e0 M0 Mf k) (D : Nat → Bool) : Nat → Mem
  | 0 => Mf
  | j + 1 => (if D j then T.N j else []) ++ T.mem D j
theorem Tf.env_all (T : Tf P S w0 rg e0 M0 Mf k) (D : Nat → Bool) : ∀ j, j ≤ k → (∀ i, i < j → D i = true) → T.env D j = T.E j
  | 0, _, _ => T.e0.symm
  | j + 1, hj, h => by
    obtain ⟨o, _, ho, _, hE, _⟩ := T.step j (by omega)
    rw [Tf.env, ho, hE, T.env_all D j (by omega) (fun i hi => h i (by omega))]
    simp [h j (by omega)]
theorem Tf.mem_all (T : Tf P S w0 rg e0 M0 Mf k) (D : Nat → Bool) : ∀ j, j ≤ k → (∀ i, i < j → D i = true) → T.mem D j = T.MM j
  | 0, _, _ => T.m0.symm
  | j + 1, hj, h => by
    obtain ⟨o, _, ho, _, _, hM, _⟩ := T.step j (by omega)
    rw [Tf.mem, hM, T.mem_all D j (by omega) (fun i hi => h i (by omega))]
    simp [h j (by omega)]
theorem Env.get_put (e : Env) (d : Option Nat) (g : Bool) (v : V) (t : Nat) : (e.put d g v).get t = if d = some t then some (g, v) else e.get t := by
  cases d with
  | none => simp [Env.put]
  | some d =>
    simp only [Env.put, Env.get]
    by_cases h : d = t
    · subst h; simp
    · have : (d == t) = false := by simpa using h
      simp [this, h]
/-- A slot all of whose writers have been done just if they come ahead of i. -/
theorem Tf.env_at (T : Tf P S w0 rg e0 M0 Mf k) (D : Nat → Bool) (t i : Nat) (hi : i ≤ k) (h : ∀ j o, j < k → rg[j]? = some o → o.dst = some t → (D j = true ↔ j < i)) : ∀ j, j ≤ k → (T.env D j).get t = (T.E (min i j)).get t
  | 0, _ => by rw [Tf.env, Nat.min_zero, T.e0]
  | j + 1, hj => by
    have ih := T.env_at D t i hi h j (by omega)
    obtain ⟨o, _, ho, _, hE, _⟩ := T.step j (by omega)
    simp only [Tf.env, ho]
    by_cases hd : o.dst = some t
    · have hiff := h j o (by omega) ho hd
      by_cases hji : j < i
      · rw [if_pos (hiff.2 hji), show min i (j + 1) = j + 1 from by omega, hE, Env.get_put, Env.get_put, if_pos hd, if_pos hd]
      · rw [if_neg (by rw [hiff]; exact hji), ih]
        congr 2; omega
    · have e1 : (if D j = true then (T.env D j).put o.dst (T.G j) (T.W j) else T.env D j).get t = (T.env D j).get t := by
        split
        · rw [Env.get_put, if_neg hd]
        · rfl
      rw [e1, ih]
      by_cases hji : j < i
      · rw [show min i (j + 1) = j + 1 from by omega, show min i j = j from by omega, hE, Env.get_put, if_neg hd]
      · congr 2; omega
/-- One more has been done. -/
theorem Tf.env_more (T : Tf P S w0 rg e0 M0 Mf k) (D : Nat → Bool) (i : Nat) (o : Oper) (ho : rg[i]? = some o) (hD : D i = false) (hu : ∀ j o', j < k → j ≠ i → rg[j]? = some o' → ∀ d, o.dst = some d → o'.dst ≠ some d) (t : Nat) :
    ∀ j, j ≤ k → (T.env (fun x => if x = i then true else D x) j).get t = if i < j ∧ o.dst = some t then some (T.G i, T.W i) else (T.env D j).get t
  | 0, _ => by simp [Tf.env]
  | j + 1, hj => by
    have ih := T.env_more D i o ho hD hu t j (by omega)
    obtain ⟨o', _, ho', _⟩ := T.step j (by omega)
    simp only [Tf.env, ho']
    by_cases hji : j = i
    · subst hji
      rw [ho] at ho'
      cases ho'
      simp only [if_true, hD, Bool.false_eq_true, if_false]
      rw [Env.get_put, ih]
      by_cases hd : o.dst = some t
      · rw [if_pos hd, if_pos ⟨by omega, hd⟩]
      · rw [if_neg hd, if_neg (fun hh => hd hh.2), if_neg (fun hh => hd hh.2)]
    · simp only [if_neg hji]
      have hlt : (i < j + 1) ↔ (i < j) := by omega
      simp only [hlt]
      by_cases hDj : D j = true
      · simp only [hDj, if_true]
        rw [Env.get_put, Env.get_put, ih]
        by_cases hd' : o'.dst = some t
        · have hno : ¬ (i < j ∧ o.dst = some t) := fun hh => hu j o' (by omega) hji ho' t hh.2 hd'
          rw [if_pos hd', if_neg hno, if_pos hd']
        · rw [if_neg hd', if_neg hd']
      · simp only [hDj]
        exact ih
theorem Tf.MM_mono (T : Tf P S w0 rg e0 M0 Mf k) (n : Nat) : ∀ i j, i ≤ j → j ≤ k → ((T.MM i).get n).isSome = true → ((T.MM j).get n).isSome = true := by
  intro i j hij hj h
  induction j with
  | zero =>
    obtain rfl : i = 0 := by omega
    exact h
  | succ j ih =>
    by_cases hi : i = j + 1
    · subst hi; exact h
    · obtain ⟨o, _, _, _, _, hM, _⟩ := T.step j (by omega)
      rw [hM, Mem.get_append]
      have := ih (by omega) (by omega)
      cases (T.N j).get n <;> simp [this]
theorem Tf.names0 (T : Tf P S w0 rg e0 M0 Mf k) {i n : Nat} (hi : i < k) (h1 : ((T.N i).get n).isSome = true) : M0.get n = none := by
  obtain ⟨_, _, _, _, _, _, _, _, _, hf⟩ := T.step i hi
  exact (hf n h1).1
/-- Who touches a name that another one touched comes behind it. -/
theorem Tf.behind (T : Tf P S w0 rg e0 M0 Mf k) {i j n : Nat} {o : Oper} (hij : i < j) (hj : j < k) (ho : rg[j]? = some o) (h1 : ((T.N i).get n).isSome = true) (h2 : ((T.N j).get n).isSome = true) : Anc rg j i o := by
  obtain ⟨o', _, ho', _, _, _, _, _, _, hf⟩ := T.step j hj
  rw [ho] at ho'
  cases ho'
  exact (hf n h2).2.2 i hij h1
theorem Tf.mem_own (T : Tf P S w0 rg e0 M0 Mf k) (D : Nat → Bool) {i n : Nat} {o : Oper} (hi : i < k) (ho : rg[i]? = some o) (hD : D i = false) (hcl : ∀ j o, j < k → D j = true → rg[j]? = some o → ∀ x, x ∈ aft o → D x = true) (hed : ∀ x, x ∈ aft o → D x = true)
    (h1 : ((T.N i).get n).isSome = true) : ∀ j, j ≤ k → (T.mem D j).get n = (T.MM (min i j)).get n
  | 0, _ => by rw [Tf.mem, Nat.min_zero, T.m0]
  | j + 1, hj => by
    have ih := T.mem_own D hi ho hD hcl hed h1 j (by omega)
    obtain ⟨o', _, ho', _, _, hM, _⟩ := T.step j (by omega)
    rw [Tf.mem, Mem.get_append, ih]
    rcases Nat.lt_trichotomy j i with hji | hji | hji
    · rw [show min i (j + 1) = j + 1 from by omega, show min i j = j from by omega, hM, Mem.get_append]
      cases h2 : (T.N j).get n with
      | none => split <;> simp [h2, Mem.get]
      | some c => rw [if_pos ((T.behind hji hi ho (by simp [h2]) h1).done hcl (by omega) hed), h2]
    · subst hji
      rw [show min j (j + 1) = j from by omega, show min j j = j from by omega]
      simp [hD, Mem.get]
    · rw [show min i (j + 1) = i from by omega, show min i j = i from by omega]
      split
      · rename_i hDj
        cases h2 : (T.N j).get n with
        | none => simp
        | some c =>
          have := (T.behind hji (by omega) ho' h1 (by simp [h2])).done hcl (by omega) (hcl j o' (by omega) hDj ho')
          rw [hD] at this; cases this
      · simp [Mem.get]
theorem Tf.mem_base (T : Tf P S w0 rg e0 M0 Mf k) (D : Nat → Bool) {n : Nat} {b : Bk} (h : M0.get n = some b) : ∀ j, j ≤ k → (T.mem D j).get n = some b
  | 0, _ => T.sub _ _ h
  | j + 1, hj => by
    rw [Tf.mem, Mem.get_append, T.mem_base D h j (by omega)]
    split
    · cases h2 : (T.N j).get n with
      | none => rfl
      | some c =>
        have := T.names0 (i := j) (n := n) (by omega) (by simp [h2])
        rw [h] at this; cases this
    · rfl
theorem Tf.mem_more (T : Tf P S w0 rg e0 M0 Mf k) (D : Nat → Bool) {i : Nat} (hi : i < k) (hD : D i = false) (hcl : ∀ j o, j < k → D j = true → rg[j]? = some o → ∀ x, x ∈ aft o → D x = true) (n : Nat) : ∀ j, j ≤ k → (T.mem (fun x => if x = i then true else D x) j).get n = if i < j then (T.N i ++ T.mem D j : Mem).get n else (T.mem D j).get n
  | 0, _ => by simp [Tf.mem]
  | j + 1, hj => by
    have ih := T.mem_more D hi hD hcl n j (by omega)
    rw [Tf.mem, Mem.get_append]
    by_cases hji : j = i
    · subst hji
      rw [if_pos rfl, if_pos rfl, ih, if_neg (by omega), if_pos (by omega), Mem.get_append]
      simp only [Tf.mem, hD, Bool.false_eq_true, if_false, List.nil_append]
    · simp only [if_neg hji]
      rw [ih]
      have h12 : i < j → D j = true → ∀ b c, (T.N i).get n = some b → (T.N j).get n = some c → False := fun hij hDj b c h1 h2 => by
        obtain ⟨o', _, ho', _⟩ := T.step j (by omega)
        have := (T.behind (n := n) hij (by omega) ho' (by simp [h1]) (by simp [h2])).done hcl (by omega) (hcl j o' (by omega) hDj ho')
        rw [hD] at this; cases this
      by_cases hij : i < j
      · simp only [hij, show i < j + 1 from by omega, if_true, Tf.mem, Mem.get_append]
        by_cases hDj : D j = true
        · simp only [hDj, if_true]
          cases h1 : (T.N i).get n with
          | none => simp
          | some b =>
            cases h2 : (T.N j).get n with
            | none => simp
            | some c => exact (h12 hij hDj b c h1 h2).elim
        · simp [hDj, Mem.get]
      · simp only [hij, show ¬ i < j + 1 from by omega, if_false, Tf.mem, Mem.get_append]

theorem Rel.ext {S : Bs} {w0 w : World} {β : Vl} {M M' : Mem} (h : Rel S w0 β M w) (he : ∀ n, M'.get n = M.get n) : Rel S w0 β M' w := by
  have hag : ∀ b b', Agree M' b b' → Agree M b b' := fun b b' hh n hn => hh n (by rw [he]; exact hn)
  refine ⟨h.fr, ⟨fun β' hh n b hb => h.mem.ok β' (hag _ _ hh) n b (by rw [← he]; exact hb), fun n b hb => h.mem.there n b (by rw [← he]; exact hb), fun n m b b' hb hb' => h.mem.apart n m b b' (by rw [← he]; exact hb) (by rw [← he]; exact hb')⟩,
    fun n b hb => h.own n b (by rw [← he]; exact hb), fun n l hl => ⟨by rw [he]; exact (h.pin n l hl).1, (h.pin n l hl).2⟩⟩

/-- The state of affairs when D has been done. -/
def Tf.Inv (T : Tf P S w0 rg e0 M0 Mf k) (S : Bs) (w0 : World) (nt : Nat) (D : Nat → Bool) (a : Act) (w : World) : Prop :=
  ∃ β, Rel S w0 β (T.mem D k) w ∧ EnvOk β (T.mem D k) (T.env D k) a ∧ a.tmps.size = nt ∧ a.defers = []

theorem dfOk_edges (h : dfOk rg k = true) {i : Nat} {o : Oper} (ho : rg[i]? = some o) : ∀ j, j ∈ aft o → j < i := by
  have hi : i < rg.size := (Array.getElem?_eq_some_iff.1 ho).1
  simp only [dfOk, Bool.and_eq_true, List.all_eq_true, List.mem_range] at h
  have := h.2 i hi
  rw [ho] at this
  simp only [Bool.and_eq_true, List.all_eq_true, decide_eq_true_eq] at this
  exact this.1
theorem dfOk_le (h : dfOk rg k = true) : k ≤ rg.size := by
  simp only [dfOk, Bool.and_eq_true, decide_eq_true_eq] at h
  exact h.1
theorem dfOk_tail (h : dfOk rg k = true) {i : Nat} {o : Oper} (ho : rg[i]? = some o) (hk : k ≤ i) : ∀ j, j < i → Anc rg i j o := by
  have hi : i < rg.size := (Array.getElem?_eq_some_iff.1 ho).1
  simp only [dfOk, Bool.and_eq_true, List.all_eq_true, List.mem_range] at h
  have := h.2 i hi
  rw [ho] at this
  simp only [Bool.and_eq_true] at this
  have h2 := this.2
  rw [if_neg (by omega)] at h2
  simp only [List.all_eq_true, List.mem_range] at h2
  intro j hj
  exact ancB_ok 20 j o (h2 j hj)
theorem dfOk_two (h : dfOk rg k = true) {i j : Nat} {o o' : Oper} (ho : rg[i]? = some o) (ho' : rg[j]? = some o') (hi : i < k) (hj : j < k) (hne : j ≠ i) : ∀ d, o'.dst = some d → o.dst ≠ some d ∧ (d ∈ o.looksAt rg → j ∈ aft o ∨ i ∈ aft o') := by
  have hi' : i < rg.size := (Array.getElem?_eq_some_iff.1 ho).1
  simp only [dfOk, Bool.and_eq_true, List.all_eq_true, List.mem_range] at h
  have := h.2 i hi'
  rw [ho] at this
  simp only [Bool.and_eq_true] at this
  have h2 := this.2
  rw [if_pos hi] at h2
  simp only [List.all_eq_true, List.mem_range] at h2
  have h3 := h2 j hj
  rw [ho'] at h3
  intro d hd
  simp [hne, hd] at h3
  refine ⟨fun hh => h3.1 hh, fun hm => ?_⟩
  rcases h3.2 with h4 | h4
  · rcases h4 with h5 | h5
    · exact absurd hm h5
    · exact .inl h5
  · exact .inr h4

/-- One operation more, whichever may come. -/
theorem Tf.step_any (T : Tf P S w0 rg e0 M0 Mf k) (hdf : dfOk rg k = true) {nt : Nat} (hnt : ∀ i o, i < k → rg[i]? = some o → ∀ t, o.dst = some t → t < nt) {D : Nat → Bool} {i : Nat} (hi : i < k) (hD : D i = false)
    (hcl : ∀ j o, j < k → D j = true → rg[j]? = some o → ∀ x, x ∈ aft o → D x = true) (hed : ∀ o, rg[i]? = some o → ∀ x, x ∈ aft o → D x = true) {a : Act} {w : World} (hinv : T.Inv S w0 nt D a w) {K : Act → World → Prop} {Q : Exit → Act → World → Prop}
    (hk : ∀ a' w', T.Inv S w0 nt (fun x => if x = i then true else D x) a' w' → K a' w') : wpOp P rg Q i K a w := by
  obtain ⟨β, hrel, hen, hsz, hdf0⟩ := hinv
  obtain ⟨o, Ms, ho, hg, hE, hM, hs, hN, hMs, hf⟩ := T.step i hi
  -- what the operation looks at reads as in the text's order
  have hlook : ∀ t, t ∈ o.looksAt rg → (T.env D k).get t = (T.E i).get t := by
    intro t ht
    have := T.env_at D t i (by omega) (fun j o' hj ho' hd => ?_) k (Nat.le_refl _)
    · rwa [show min i k = i from by omega] at this
    · by_cases hji : j = i
      · subst hji; simp [hD]
      · rcases (dfOk_two hdf ho ho' hi hj hji t hd).2 ht with h | h
        · exact ⟨fun _ => dfOk_edges hdf ho j h, fun _ => hed o ho j h⟩
        · constructor
          · intro hh
            have := hcl j o' hj hh ho' i h
            rw [hD] at this; cases this
          · intro hh
            have := dfOk_edges hdf ho' i h
            omega
  have hwant : Region.wanted o (yielded rg a.tmps) = T.G i := gd_ok (β := β) hg (fun j want t y hgd ht hy => by
    refine hen β (Agree.refl _ _) t y ?_
    rw [hlook t ?_]
    · exact hy
    · simp [Oper.looksAt, hgd, ht])
  have hmore : ∀ β' (N' : Mem) u w', (T.N i = N' ∨ (N' = [] ∧ T.N i = [])) → Agree (T.mem D k) β β' → Rel S w0 β' (T.N i ++ T.mem D k) w' → (∀ β'', Agree (T.N i ++ T.mem D k) β' β'' → u = gv β'' (T.G i, T.W i)) → T.Inv S w0 nt (fun x => if x = i then true else D x) (a.put o.dst u) w' := by
    intro β' N' u w' _ hag hrel' hu
    have hget : ∀ n, (T.mem (fun x => if x = i then true else D x) k).get n = (T.N i ++ T.mem D k : Mem).get n := fun n => by rw [T.mem_more D hi hD hcl n k (Nat.le_refl _), if_pos hi]
    refine ⟨β', hrel'.ext hget, ?_, by cases o.dst <;> simp [Act.put, hsz], by cases o.dst <;> simp [Act.put, hdf0]⟩
    have hput := hen.put (N := T.N i) hag hsz (hnt i o hi ho) hu
    intro β'' hag'' t x hx
    refine hput β'' (fun n hn => hag'' n (by rw [hget]; exact hn)) t x ?_
    rw [Env.get_put]
    rw [T.env_more D i o ho hD (fun j o' hj hne ho' d hd hd' => (dfOk_two hdf ho ho' hi hj hne d hd').1 hd) t k (Nat.le_refl _)] at hx
    by_cases hd : o.dst = some t
    · rw [if_pos ⟨hi, hd⟩] at hx; rw [if_pos hd]; exact hx
    · rw [if_neg (fun hh => hd hh.2)] at hx; rw [if_neg hd]; exact hx
  unfold wpOp
  simp only [ho, hwant]
  cases hGi : T.G i with
  | true =>
    simp only [if_true]
    left
    refine hs hGi β (T.mem D k) a w (fun n b hb => ⟨b, ?_, .inl rfl⟩) (fun n hn => ?_) hrel ?_ K Q ?_
    · rcases hMs n b hb with h | ⟨h1, h2⟩
      · exact T.mem_base D h k (Nat.le_refl _)
      · rw [T.mem_own D hi ho hD hcl (hed o ho) h1 k (Nat.le_refl _), show min i k = i from by omega]
        exact h2
    · rcases (hf n hn).2.1 with h | h
      · exact .inl h
      · right
        rw [T.mem_own D hi ho hD hcl (hed o ho) hn k (Nat.le_refl _), show min i k = i from by omega]
        exact h
    · intro β' hag x hx y hy
      cases x with
      | tmp t =>
        have ht : t ∈ o.looksAt rg := List.mem_append_left _ (List.mem_filterMap.2 ⟨.tmp t, by simpa using hx, rfl⟩)
        exact hen β' hag t y (by rw [hlook t ht]; exact hy)
      | const v => simp [rd] at hy; subst hy; simp [gv, cst_g, Act.eval]
      | global g => simp [rd] at hy; subst hy; simp [gv, V.g, Cv.g, Act.eval]
      | func f => simp [rd] at hy; subst hy; simp [gv, V.g, Cv.g, Act.eval]
    · intro β' u w' hag hrel' hu
      exact hk _ _ (hmore β' _ u w' (.inl rfl) hag hrel' (fun β'' h => by rw [hu β'' h, hGi]; rfl))
  | false =>
    simp only [Bool.false_eq_true, if_false]
    have hN0 : T.N i = [] := by rcases hN with h | h; rw [hGi] at h; cases h; exact h
    exact hk _ _ (hmore β [] undef w (.inr ⟨rfl, hN0⟩) (Agree.refl _ _) (by rw [hN0]; exact hrel) (fun β'' _ => by rw [hGi]; rfl))

theorem mem_ready {L : Array Bool} {i : Nat} : i ∈ Region.ready .any rg L ↔ i < rg.size ∧ L.getD i true = false ∧ ∃ o, rg[i]? = some o ∧ ∀ x, x ∈ aft o → L.getD x false = true := by
  simp only [Region.ready, List.mem_filter, List.mem_range, Bool.and_eq_true]
  constructor
  · rintro ⟨h1, h2, h3⟩
    refine ⟨h1, by simpa using h2, ?_⟩
    cases ho : rg[i]? with
    | none => simp [ho] at h3
    | some o =>
      refine ⟨o, rfl, fun x hx => ?_⟩
      rw [ho] at h3
      simp only [Option.map_some, Option.getD_some] at h3
      rw [Array.all_eq_true_iff_forall_mem] at h3
      simp only [aft, List.mem_map, List.mem_filter] at hx
      obtain ⟨e, ⟨he1, he2⟩, rfl⟩ := hx
      have := h3 e (by simpa using he1)
      simpa [he2] using this
  · rintro ⟨h1, h2, o, ho, h3⟩
    refine ⟨h1, by simpa using h2, ?_⟩
    rw [ho]
    simp only [Option.map_some, Option.getD_some]
    rw [Array.all_eq_true_iff_forall_mem]
    intro e he
    by_cases hb : Region.binds .any e = true
    · have := h3 e.on (by simp only [aft, List.mem_map, List.mem_filter]; exact ⟨e, ⟨by simpa using he, hb⟩, rfl⟩)
      simp [hb, this]
    · simp [hb]
theorem getD_set {L : Array Bool} {i : Nat} (hi : i < L.size) (d : Bool) (x : Nat) : (L.setIfInBounds i true).getD x d = if x = i then true else L.getD x d := by
  by_cases h : x = i
  · subst h; simp [hi]
  · simp [Array.getElem?_setIfInBounds_ne (fun hh => h hh.symm), h]

theorem tail_ok (hdf : dfOk rg k = true) {Q : Exit → Act → World → Prop} : ∀ (m j : Nat) (L : Array Bool) (a : Act) (w : World), j + m = rg.size → k ≤ j → L.size = rg.size → (∀ i, i < rg.size → ∀ d, L.getD i d = decide (i < j)) → wpList P rg Q (rg.toList.drop j) a w → wpAny P .any rg Q m L a w
  | 0, j, L, a, w, hm, hk, hL, hl, h => by
    refine ⟨?_, ?_⟩
    · rw [List.eq_nil_iff_forall_not_mem]
      intro i hi
      obtain ⟨h1, h2, _⟩ := mem_ready.1 hi
      rw [hl i h1 true] at h2
      simp at h2
      omega
    · rw [List.drop_of_length_le (by simp; omega)] at h
      exact h
  | m + 1, j, L, a, w, hm, hk, hL, hl, h => by
    have hj : j < rg.size := by omega
    have hoj : rg[j]? = some rg[j] := Array.getElem?_eq_getElem hj
    have hrdy : j ∈ Region.ready .any rg L := mem_ready.2 ⟨hj, by rw [hl j hj true]; simp, rg[j], hoj, fun x hx => by
      have := dfOk_edges hdf hoj x hx
      rw [hl x (by omega) false]; simpa using this⟩
    refine ⟨fun hh => (by rw [hh] at hrdy; cases hrdy), fun i hi => ?_⟩
    obtain ⟨h1, h2, o, ho, h3⟩ := mem_ready.1 hi
    have hij : i = j := by
      rw [hl i h1 true] at h2
      simp at h2
      by_cases hlt : j < i
      · have := (dfOk_tail hdf ho (by omega) j hlt).done (k := rg.size) (D := fun x => L.getD x false) (fun y o' hy hyd ho' x hx => by
          have e1 := dfOk_edges hdf ho' x hx
          simp only [hl y hy false, decide_eq_true_eq] at hyd
          simp only [hl x (by omega) false, decide_eq_true_eq]
          omega) (by omega) h3
        simp only [hl j hj false, decide_eq_true_eq] at this
        omega
      · omega
    subst hij
    rw [List.drop_eq_getElem_cons (by simpa using hj)] at h
    unfold wpOp
    simp only [hoj]
    simp only [Array.getElem_toList, wpList] at h
    have ih := fun a w => tail_ok hdf (Q := Q) m (i + 1) (L.setIfInBounds i true) a w (by omega) (by omega) (by simp [hL]) (fun x hx d => by
      rw [getD_set (by omega) d x]
      by_cases hx' : x = i
      · subst hx'; simp
      · rw [if_neg hx', hl x hx d]; congr 1; simp; omega)
    split
    · rename_i hw
      rw [if_pos hw] at h
      exact h.imp (Oper.wp_mono fun a w => ih a w) id
    · rename_i hw
      rw [if_neg hw] at h
      exact ih _ _ h

theorem Tf.env_congr (T : Tf P S w0 rg e0 M0 Mf k) {D D' : Nat → Bool} : ∀ j, (∀ i, i < j → D i = D' i) → T.env D j = T.env D' j
  | 0, _ => rfl
  | j + 1, h => by simp only [Tf.env, T.env_congr j (fun i hi => h i (by omega)), h j (by omega)]
theorem Tf.mem_congr (T : Tf P S w0 rg e0 M0 Mf k) {D D' : Nat → Bool} : ∀ j, (∀ i, i < j → D i = D' i) → T.mem D j = T.mem D' j
  | 0, _ => rfl
  | j + 1, h => by simp only [Tf.mem, T.mem_congr j (fun i hi => h i (by omega)), h j (by omega)]
theorem Tf.inv_congr (T : Tf P S w0 rg e0 M0 Mf k) {D D' : Nat → Bool} {nt : Nat} {a : Act} {w : World} (h : ∀ i, i < k → D i = D' i) (hi : T.Inv S w0 nt D a w) : T.Inv S w0 nt D' a w := by
  unfold Tf.Inv at *
  rw [← T.env_congr k h, ← T.mem_congr k h]
  exact hi

theorem draw_ok (T : Tf P S w0 rg e0 M0 Mf k) (hdf : dfOk rg k = true) {nt : Nat} {Q : Exit → Act → World → Prop} (hnt : ∀ i o, i < k → rg[i]? = some o → ∀ t, o.dst = some t → t < nt)
    (htail : ∀ a w, T.Inv S w0 nt (fun _ => true) a w → wpList P rg Q (rg.toList.drop k) a w) : ∀ (fuel : Nat) (L : Array Bool) (a : Act) (w : World), L.size = rg.size → (L.toList.filter (fun b => !b)).length = fuel → (∀ i, k ≤ i → i < rg.size → ∀ d, L.getD i d = false) →
      (∀ j o, j < k → L.getD j false = true → rg[j]? = some o → ∀ x, x ∈ aft o → L.getD x false = true) → T.Inv S w0 nt (fun i => L.getD i false) a w → wpAny P .any rg Q fuel L a w := by
  have hkle := dfOk_le hdf
  intro fuel
  induction fuel with
  | zero =>
    intro L a w hL hc hun hcl hinv
    have hall : ∀ i, i < rg.size → ∀ d, L.getD i d = true := by
      intro i hi d
      have hlt : i < L.size := by omega
      simp only [Array.getD_eq_getD_getElem?, Array.getElem?_eq_getElem hlt, Option.getD_some]
      have := List.length_eq_zero_iff.1 hc
      rw [List.filter_eq_nil_iff] at this
      have := this L[i] (by simp)
      simpa using this
    have hk : k = rg.size := by
      by_cases h : k < rg.size
      · have h1 := hun k (Nat.le_refl _) h false
        rw [hall k h false] at h1; cases h1
      · omega
    exact tail_ok hdf 0 rg.size L a w rfl (by omega) hL (fun i hi d => by rw [hall i hi d]; simp [hi]) (by
      have := htail a w (T.inv_congr (fun i hi => hall i (by omega) false) hinv)
      rw [hk] at this
      exact this)
  | succ fuel ih =>
    intro L a w hL hc hun hcl hinv
    by_cases hdone : ∀ i, i < k → L.getD i false = true
    · -- the first k are done
      have hl : ∀ i, i < rg.size → ∀ d, L.getD i d = decide (i < k) := by
        intro i hi d
        by_cases hik : i < k
        · have := hdone i hik
          have hlt : i < L.size := by omega
          simp only [Array.getD_eq_getD_getElem?, Array.getElem?_eq_getElem hlt, Option.getD_some] at this ⊢
          simp [this, hik]
        · rw [hun i (by omega) hi d]; simp [hik]
      have hcount : k + (fuel + 1) = rg.size := by
        have hLl : L.toList = (List.replicate k true) ++ List.replicate (rg.size - k) false := by
          apply List.ext_getElem?
          intro i
          by_cases hi : i < rg.size
          · have h1 := hl i hi false
            have hlt : i < L.size := by omega
            rw [Array.getElem?_toList, Array.getElem?_eq_getElem hlt]
            simp only [Array.getD_eq_getD_getElem?, Array.getElem?_eq_getElem hlt, Option.getD_some] at h1
            rw [h1]
            by_cases hik : i < k
            · rw [List.getElem?_append_left (by simpa using hik), List.getElem?_replicate, if_pos hik]; simp [hik]
            · rw [List.getElem?_append_right (by simpa using Nat.le_of_not_lt hik), List.getElem?_replicate, if_pos (by simp; omega)]; simp [hik]
          · rw [List.getElem?_eq_none (by simp; omega), List.getElem?_eq_none (by simp; omega)]
        rw [hLl] at hc
        simp at hc
        omega
      exact tail_ok hdf (fuel + 1) k L a w hcount (Nat.le_refl _) hL hl (htail a w (T.inv_congr (fun i hi => hdone i hi) hinv))
    · -- one of the first k is not
      have hex : ∃ i, i < k ∧ L.getD i false = false ∧ ∀ j, j < i → L.getD j false = true := by
        have : ∃ i, i < k ∧ L.getD i false = false := by
          simp only [Classical.not_forall, Bool.not_eq_true] at hdone
          obtain ⟨i, hi, h⟩ := hdone
          exact ⟨i, hi, h⟩
        obtain ⟨i, hi, h⟩ := this
        induction i using Nat.strongRecOn with
        | _ i ihh =>
          by_cases hj : ∃ j, j < i ∧ L.getD j false = false
          · obtain ⟨j, hji, hjf⟩ := hj
            exact ihh j hji (by omega) hjf
          · refine ⟨i, hi, h, fun j hji => ?_⟩
            cases hv : L.getD j false with
            | true => rfl
            | false => exact absurd ⟨j, hji, hv⟩ hj
      obtain ⟨i0, hi0, hf0, hm0⟩ := hex
      have conv : ∀ i, i < rg.size → ∀ d, L.getD i d = L.getD i false := by
        intro i hi d
        have hlt : i < L.size := by omega
        simp only [Array.getD_eq_getD_getElem?, Array.getElem?_eq_getElem hlt, Option.getD_some]
      have hrdy : i0 ∈ Region.ready .any rg L := by
        have hlt : i0 < rg.size := by omega
        have ho : rg[i0]? = some rg[i0] := Array.getElem?_eq_getElem hlt
        exact mem_ready.2 ⟨hlt, by rw [conv i0 hlt true]; exact hf0, rg[i0], ho, fun x hx => hm0 x (dfOk_edges hdf ho x hx)⟩
      refine ⟨fun hh => (by rw [hh] at hrdy; cases hrdy), fun i hi => ?_⟩
      obtain ⟨h1, h2, o, ho, h3⟩ := mem_ready.1 hi
      rw [conv i h1 true] at h2
      have hik : i < k := by
        by_cases hh : i < k
        · exact hh
        · have := (dfOk_tail hdf ho (by omega) i0 (by omega)).done (k := rg.size) (D := fun x => L.getD x false) (fun y o' hy hyd ho' x hx => by
            by_cases hyk : y < k
            · exact hcl y o' hyk hyd ho' x hx
            · have := hun y (by omega) hy false
              simp only [this] at hyd
              cases hyd) (by omega) h3
          simp only [hf0] at this; cases this
      refine T.step_any hdf hnt hik (D := fun i => L.getD i false) h2 hcl (fun o' ho' x hx => ?_) hinv (fun a' w' hinv' => ?_)
      · rw [ho] at ho'; cases ho'; exact h3 x hx
      · have hset : ∀ d x, (L.setIfInBounds i true).getD x d = if x = i then true else L.getD x d := fun d x => getD_set (by omega) d x
        refine ih (L.setIfInBounds i true) a' w' (by simp [hL]) ?_ ?_ ?_ ?_
        · have hlt : i < L.size := by omega
          have hLi : L[i] = false := by
            simp only [Array.getD_eq_getD_getElem?, Array.getElem?_eq_getElem hlt, Option.getD_some] at h2
            exact h2
          have hfl : ∀ (l : List Bool) (i : Nat), l[i]? = some false → ((l.set i true).filter (fun b => !b)).length + 1 = (l.filter (fun b => !b)).length := by
            intro l
            induction l with
            | nil => intro i h; simp at h
            | cons x l ihl =>
              intro i h
              cases i with
              | zero => simp at h; subst h; simp
              | succ i =>
                simp at h
                have := ihl i h
                cases x <;> simp <;> omega
          have := hfl L.toList i (by rw [Array.getElem?_toList, Array.getElem?_eq_getElem hlt, hLi])
          rw [Array.toList_setIfInBounds]
          omega
        · intro x hx hxs d
          rw [hset d x, if_neg (by omega)]
          exact hun x hx hxs d
        · intro j o' hj hjt ho' x hx
          rw [hset false x]
          by_cases hxi : x = i
          · rw [if_pos hxi]
          · rw [if_neg hxi]
            rw [hset false j] at hjt
            by_cases hji : j = i
            · subst hji
              rw [ho] at ho'; cases ho'
              exact h3 x hx
            · rw [if_neg hji] at hjt
              exact hcl j o' hj hjt ho' x hx
        · refine T.inv_congr (fun x _ => ?_) hinv'
          rw [hset false x]
end

/-- THE REGION THAT DRAWS. -/
theorem Sm.draw {P : Program} {nt : Nat} {C : Cx} {r : List It} {id k : Nat} {rg : Array Oper} {e0 e : Env} {M0 Mf M : Mem} (hmix : P.follows .mixedOrders = true) (hdf : dfOk rg k = true) (hnt : rg.all (fun o => dstOk nt o.dst) = true)
    {TT : List (Nat × Nat)} (htr : Tr P C.S C.w0 rg e0 M0 Mf (rg.toList.take k) e M TT) (hS : Sm P nt C (.ops rg (rg.toList.drop k) :: r) e M) : Sm P nt C (.code (.region id rg true) :: r) e0 Mf := by
  have hkle := dfOk_le hdf
  have hlen : (rg.toList.take k).length = k := by simp; omega
  obtain ⟨T, hE, hM⟩ : ∃ T : Tf P C.S C.w0 rg e0 M0 Mf k, T.E k = e ∧ T.MM k = M := by
    have h := htr.fn (fun i hi => by
      rw [hlen] at hi
      rw [List.getElem?_take, if_pos hi, Array.getElem?_toList])
    rw [hlen] at h
    obtain ⟨T, h, _⟩ := h
    exact ⟨T, h⟩
  intro β a w h1 h2 h3 h4
  have hfalse : ∀ j, T.mem (fun _ => false) j = Mf ∧ T.env (fun _ => false) j = e0 := by
    intro j
    induction j with
    | zero => exact ⟨rfl, rfl⟩
    | succ j ih =>
      refine ⟨by simp [Tf.mem, ih.1], ?_⟩
      rw [Tf.env]
      cases rg[j]? <;> simp [ih.2]
  refine wp_region_any hmix (draw_ok T hdf (S := C.S) (w0 := C.w0) (nt := nt) (fun i o _ ho t ht => ?_) (fun a w hinv => ?_) rg.size _ a _ (by simp) (by simp) (fun i _ hi d => by simp [hi]) (fun j o _ hj => by
    by_cases hjs : j < rg.size
    · simp [hjs] at hj
    · simp [hjs] at hj) (T.inv_congr (D := fun _ => false) (fun i hi => by
      have : i < rg.size := by omega
      simp [this]) ⟨β, ?_, ?_, h3, h4⟩))
  · rw [Array.all_eq_true_iff_forall_mem] at hnt
    have := hnt o (Array.mem_of_getElem? ho)
    rw [ht] at this
    simpa [dstOk] using this
  · obtain ⟨β', g1, g2, g3, g4⟩ := hinv
    rw [T.mem_all _ k (Nat.le_refl _) (fun _ _ => rfl), hM] at g1 g2
    rw [T.env_all _ k (Nat.le_refl _) (fun _ _ => rfl), hE] at g2
    exact hS β' a w g1 g2 g3 g4
  · rw [(hfalse k).1]; exact h1.drew
  · rw [(hfalse k).1, (hfalse k).2]; exact h2

/-! ### The run through such a region -/
def freshB (N M : Mem) : Bool := N.all fun p => (M.get p.1).isNone
theorem freshB_ok {N M : Mem} (h : freshB N M = true) : ∀ n, (N.get n).isSome = true → M.get n = none := by
  intro n hn
  induction N with
  | nil => cases hn
  | cons p N ih =>
    obtain ⟨k, b⟩ := p
    simp only [freshB, List.all_cons, Bool.and_eq_true] at h
    simp only [Mem.get] at hn
    cases hk : (k == n) with
    | true => have : k = n := by simpa using hk
              subst this
              simpa using h.1
    | false => rw [hk] at hn; exact ih h.2 hn
/-- Who has touched the names of N comes ahead of o. -/
def touchB (T : List (Nat × Nat)) (o : Oper) (N : Mem) : Bool := N.all fun p => T.all fun q => !(q.1 == p.1) || (aft o).contains q.2
def ownB (N M0 Ms M : Mem) : Bool := N.all fun p => (M0.get p.1).isNone && ((Ms.get p.1).isSome || (M.get p.1).isNone)
/-- Where an operation stores into what was made behind the start: that block. -/
def seenX (e : Env) (M0 M : Mem) : Op → Option (Nat × Bk)
  | .store _ x _ => match rd e x with
    | some (_, .c (.p n _)) => match M0.get n with
      | some _ => none
      | none => match M.get n with
        | some b => some (n, b)
        | none => none
    | _ => none
  | _ => none
/-- The memory that an operation is seen on. -/
def seenM (x : Option (Nat × Bk)) (M0 : Mem) : Mem :=
  match x with
  | some p => p :: M0
  | none => M0
def seenB (x : Option (Nat × Bk)) (N : Mem) : Bool :=
  match x with
  | some p => (N.get p.1).isSome
  | none => true
theorem snoc_hf {rg : Array Oper} {b : Nat} {T : List (Nat × Nat)} {o : Oper} {N M0 Ms M : Mem} (h1 : ownB N M0 Ms M = true) (h2 : touchB T o N = true) : ∀ n, (N.get n).isSome = true → M0.get n = none ∧ ((Ms.get n).isSome = true ∨ M.get n = none) ∧ ∀ i, (n, i) ∈ T → Anc rg b i o := by
  intro n hn
  obtain ⟨p, hp, hp1⟩ := List.mem_map.1 (Mem.mem_of_get' hn)
  subst hp1
  have k1 := List.all_eq_true.1 h1 p hp
  have k2 := List.all_eq_true.1 h2 p hp
  simp only [Bool.and_eq_true, Bool.or_eq_true, Option.isNone_iff_eq_none] at k1
  refine ⟨k1.1, k1.2, fun i hi => ?_⟩
  have := List.all_eq_true.1 k2 _ hi
  exact .base (by simpa using this)
theorem seenM_ok {e : Env} {M0 M N : Mem} {op : Op} (h : seenB (seenX e M0 M op) N = true) : ∀ n b, (seenM (seenX e M0 M op) M0).get n = some b → M0.get n = some b ∨ ((N.get n).isSome = true ∧ M.get n = some b) := by
  intro n b hb
  cases hx : seenX e M0 M op with
  | none => rw [hx] at hb; exact .inl hb
  | some p =>
    obtain ⟨m, c⟩ := p
    rw [hx] at hb h
    have hm : M0.get m = none ∧ M.get m = some c := by
      unfold seenX at hx
      split at hx <;> first | (cases hx; done) | skip
      split at hx <;> first | (cases hx; done) | skip
      split at hx <;> first | (cases hx; done) | skip
      rename_i h0
      split at hx <;> simp at hx
      rename_i h1
      obtain ⟨rfl, rfl⟩ := hx
      exact ⟨h0, h1⟩
    simp only [seenM, Mem.get] at hb
    by_cases hmn : m = n
    · subst hmn
      simp at hb
      subst hb
      exact .inr ⟨h, hm.2⟩
    · have : (m == n) = false := by simpa using hmn
      rw [this] at hb
      exact .inl (by simpa using hb)
def DrS (P : Program) (nt : Nat) (C : Cx) (id : Nat) (rg : Array Oper) (r : List It) (e0 : Env) (M0 Mf : Mem) (k : Nat) (T : List (Nat × Nat)) (i : Nat) (l : List Oper) (e : Env) (M : Mem) : Prop :=
  P.follows .mixedOrders = true → dfOk rg k = true → rg.all (fun o => dstOk nt o.dst) = true → ∀ done, done.length = i → done ++ l = rg.toList.take k → Tr P C.S C.w0 rg e0 M0 Mf done e M T → Sm P nt C (.code (.region id rg true) :: r) e0 Mf
/-- A call's names in the trace. -/
def touchN (N : Mem) (i : Nat) (T : List (Nat × Nat)) : List (Nat × Nat) := N.map (fun p => (p.1, i)) ++ T
def DCallQ (P : Program) (nt : Nat) (C : Cx) (id : Nat) (rg : Array Oper) (r : List It) (e0 : Env) (M0 Mf : Mem) (k : Nat) (T : List (Nat × Nat)) (i : Nat) (o : Oper) (f : FuncId) (vs : List (Option (Bool × V))) (g : Bool) (dst : Option Nat) (l : List Oper) (e : Env) (M : Mem) : Prop :=
  ∃ (M1 N Ms : Mem) (v : V) (xs : List V), (g = true → vs = xs.map fun x => some (true, x)) ∧ (g = true → CallAny P f xs M1 v N) ∧ Sub M1 Ms ∧ ClM M1 ∧ Fresh N M1 Ms ∧ (g = true ∨ N = []) ∧ ((∀ n b, Ms.get n = some b → M0.get n = some b ∨ ((N.get n).isSome = true ∧ M.get n = some b)) ∧ (∀ n, (N.get n).isSome = true → M0.get n = none ∧ ((Ms.get n).isSome = true ∨ M.get n = none) ∧ ∀ j, (n, j) ∈ T → Anc rg i j o)) ∧ DrS P nt C id rg r e0 M0 Mf k (touchN N i T) (i + 1) l (e.put dst g v) (N ++ M)
def DOpQ (P : Program) (nt : Nat) (C : Cx) (id : Nat) (rg : Array Oper) (r : List It) (e0 : Env) (M0 Mf : Mem) (k : Nat) (T : List (Nat × Nat)) (i : Nat) (o : Oper) (g : Bool) (l : List Oper) (e : Env) (M : Mem) : Prop :=
  ∃ (N Ms : Mem) (v : V), (g = true → StpC P C.S C.w0 o e Ms v N) ∧ (g = true ∨ N = []) ∧ ((∀ n b, Ms.get n = some b → M0.get n = some b ∨ ((N.get n).isSome = true ∧ M.get n = some b)) ∧ (∀ n, (N.get n).isSome = true → M0.get n = none ∧ ((Ms.get n).isSome = true ∨ M.get n = none) ∧ ∀ j, (n, j) ∈ T → Anc rg i j o)) ∧ DrS P nt C id rg r e0 M0 Mf k (touchN N i T) (i + 1) l (e.put o.dst g v) (N ++ M)
/-- What comes behind such a region; not to be unfolded ahead of its time. -/
def kontW (P : Program) (nt : Nat) (C : Cx) (todo : List It) (e : Env) (M : Mem) (nx : Nat) : Prop := run P nt C 1000 todo e M nx
@[go_sem] theorem kontW_go (P : Program) (nt : Nat) (C : Cx) (todo : List It) (e : Env) (M : Mem) (nx : Nat) : kontW P nt C todo e M nx = run P nt C 1000 todo e M nx := rfl
def runD (P : Program) (nt : Nat) (C : Cx) (id : Nat) (rg : Array Oper) (r : List It) (e0 : Env) (M0 Mf : Mem) (k : Nat) (kont : Env → Mem → Nat → Prop) : List (Nat × Nat) → Nat → List Oper → Env → Mem → Nat → Prop
  | _, _, [], e, M, nx => kont e M nx
  | T, i, o :: l, e, M, nx =>
    match gd rg e o with
    | none => DrS P nt C id rg r e0 M0 Mf k T i (o :: l) e M
    | some g =>
      match opE P e (seenM (seenX e M0 M o.op) M0) nx o.dst.isNone o.op with
      | some (sc, v, N, nx') => ((g = true → sc) ∧ (g = true ∨ N = []) ∧ ownB N M0 (seenM (seenX e M0 M o.op) M0) M = true ∧ touchB T o N = true ∧ seenB (seenX e M0 M o.op) N = true) ∧ runD P nt C id rg r e0 M0 Mf k kont (touchN N i T) (i + 1) l (e.put o.dst g v) (N ++ M) nx'
      | none =>
        match opY P e M0 nx o.op with
        | some (sc, v, N, nx') => ((g = true → sc) ∧ (g = true ∨ N = []) ∧ ownB N M0 M0 M = true ∧ touchB T o N = true) ∧ runD P nt C id rg r e0 M0 Mf k kont (touchN N i T) (i + 1) l (e.put o.dst g v) (N ++ M) nx'
        | none =>
          match callOf e o.op with
          | some (g', f, vs) => (g = true → g' = true) ∧ DCallQ P nt C id rg r e0 M0 Mf k T i o f vs g o.dst l e M
          | none => DOpQ P nt C id rg r e0 M0 Mf k T i o g l e M
theorem runD_ok {P : Program} {nt : Nat} {C : Cx} {id : Nat} {rg : Array Oper} {r : List It} {e0 : Env} {M0 Mf : Mem} {k : Nat} {kont : Env → Mem → Nat → Prop} (hk : ∀ e M nx, kont e M nx → Sm P nt C (.ops rg (rg.toList.drop k) :: r) e M) :
    ∀ (l : List Oper) (T : List (Nat × Nat)) (i : Nat) (e : Env) (M : Mem) (nx : Nat), runD P nt C id rg r e0 M0 Mf k kont T i l e M nx → DrS P nt C id rg r e0 M0 Mf k T i l e M := by
  intro l
  induction l with
  | nil =>
    intro T i e M nx h hmix hdf hnt done hi hd htr
    rw [List.append_nil] at hd
    subst hd
    exact Sm.draw hmix hdf hnt htr (hk e M nx h)
  | cons o l ih =>
    intro T i e M nx h hmix hdf hnt done hi hd htr
    have hd' : (done ++ [o]) ++ l = rg.toList.take k := by simpa using hd
    have hi' : (done ++ [o]).length = i + 1 := by simp [hi]
    subst hi
    have hM0 : ∀ (N : Mem) n b, M0.get n = some b → M0.get n = some b ∨ ((N.get n).isSome = true ∧ M.get n = some b) := fun _ _ _ h => .inl h
    simp only [runD] at h
    split at h
    · exact h hmix hdf hnt done rfl hd htr
    · rename_i g hg
      split at h
      · rename_i sc v N nx' hop
        obtain ⟨⟨h1, h2, h3, h3', h3''⟩, h4⟩ := h
        exact ih _ _ _ _ _ h4 hmix hdf hnt _ hi' hd' (.snoc htr hg (fun hgt => (opE_ok hop (h1 hgt)).toC) h2 (seenM_ok h3'') (snoc_hf h3 h3'))
      · split at h
        · rename_i sc v N nx' hop
          obtain ⟨⟨h1, h2, h3, h3'⟩, h4⟩ := h
          exact ih _ _ _ _ _ h4 hmix hdf hnt _ hi' hd' (.snoc htr hg (fun hgt => (opY_ok hop (h1 hgt)).toC) h2 (hM0 N) (snoc_hf h3 h3'))
        split at h
        · rename_i g' f vs hop
          obtain ⟨h0, M1, N, Ms, v, xs, k1, k2, k3, k4, k5, k6, k7, k8⟩ := h
          exact k8 hmix hdf hnt _ hi' hd' (.snoc htr hg (fun hgt => (Stp.callO (by rw [hop, h0 hgt]) (k1 hgt) (k2 hgt) k3 k4 k5).toC) k6 k7.1 k7.2)
        · obtain ⟨N, Ms, v, k1, k2, k3, k4⟩ := h
          exact k4 hmix hdf hnt _ hi' hd' (.snoc htr hg k1 k2 k3.1 k3.2)

/-! ### In the prover's hand -/
section
variable {P : Program} {nt : Nat} {C : Cx} {todo r : List It} {e e0 : Env} {M M0 Mf : Mem}
theorem Sm.go (nx : Nat) (h : run P nt C 1000 todo e M nx) : Sm P nt C todo e M := run_ok 1000 _ _ _ nx h
/-- Into a region that draws; k: how many of its operations come in an open order. -/
theorem Sm.dgo {id : Nat} {rg : Array Oper} (nx k : Nat) (hmix : P.follows .mixedOrders = true) (hdf : dfOk rg k = true) (hnt : rg.all (fun o => dstOk nt o.dst) = true)
    (h : runD P nt C id rg r e M M k (kontW P nt C (.ops rg (rg.toList.drop k) :: r)) [] 0 (rg.toList.take k) e M nx) : Sm P nt C (.code (.region id rg true) :: r) e M :=
  runD_ok (fun _ _ nx h => run_ok 1000 _ _ _ nx h) _ _ _ _ _ _ h hmix hdf hnt [] rfl rfl (.nil fun _ _ h => h)
/-- The memory without the names in W. -/
def Mem.wo (W : List Nat) : Mem → Mem
  | [] => []
  | (n, b) :: M => bif W.contains n then Mem.wo W M else (n, b) :: Mem.wo W M
theorem Mem.wo_get {W : List Nat} : ∀ {M : Mem} {n : Nat} {b : Bk}, (Mem.wo W M).get n = some b → M.get n = some b
  | [], n, b, h => by cases h
  | (k, c) :: M, n, b, h => by
    have hW : ∀ {M : Mem} {n : Nat} {b : Bk}, (Mem.wo W M).get n = some b → W.contains n = false := by
      intro M
      induction M with
      | nil => intro n b h; cases h
      | cons p M ih =>
        obtain ⟨j, d⟩ := p
        intro n b h
        simp only [Mem.wo] at h
        cases hw : W.contains j with
        | true => rw [hw] at h; exact ih h
        | false =>
          rw [hw] at h
          simp only [cond_false, Mem.get] at h
          cases hj : (j == n) with
          | true => have : j = n := by simpa using hj
                    subst this; exact hw
          | false => rw [hj] at h; exact ih h
    have hn := hW h
    simp only [Mem.wo] at h
    simp only [Mem.get]
    cases hw : W.contains k with
    | true =>
      rw [hw] at h
      have hk : (k == n) = false := by
        rw [beq_eq_false_iff_ne]
        intro e
        rw [e, hn] at hw; cases hw
      rw [hk]
      exact Mem.wo_get (M := M) h
    | false =>
      rw [hw] at h
      simp only [cond_false, Mem.get] at h
      cases hk : (k == n) with
      | true => rw [hk] at h; exact h
      | false => rw [hk] at h; exact Mem.wo_get (M := M) h
/-- The same, where operations in an open order store into the blocks of W (and none of them reads those). -/
theorem Sm.dgoW {id : Nat} {rg : Array Oper} (W : List Nat) (nx k : Nat) (hmix : P.follows .mixedOrders = true) (hdf : dfOk rg k = true) (hnt : rg.all (fun o => dstOk nt o.dst) = true)
    (h : runD P nt C id rg r e (Mem.wo W M) M k (kontW P nt C (.ops rg (rg.toList.drop k) :: r)) [] 0 (rg.toList.take k) e M nx) : Sm P nt C (.code (.region id rg true) :: r) e M :=
  runD_ok (fun _ _ nx h => run_ok 1000 _ _ _ nx h) _ _ _ _ _ _ h hmix hdf hnt [] rfl rfl (.nil fun _ _ h => Mem.wo_get h)
theorem DrS.go {id : Nat} {rg : Array Oper} {k : Nat} {T : List (Nat × Nat)} {i : Nat} {l : List Oper} (nx : Nat) (h : runD P nt C id rg r e0 M0 Mf k (kontW P nt C (.ops rg (rg.toList.drop k) :: r)) T i l e M nx) : DrS P nt C id rg r e0 M0 Mf k T i l e M :=
  runD_ok (fun _ _ nx h => run_ok 1000 _ _ _ nx h) _ _ _ _ _ _ h
theorem Sub.nil (M : Mem) : Sub [] M := fun _ _ h => by cases h
theorem ClM.nil : ClM [] := fun _ _ _ _ _ h => by cases h
theorem Fresh.nil (M M' : Mem) : Fresh [] M M' := fun _ h => by cases h
/-- A call of a function that makes nothing that matters. -/
theorem CallQ.pure {f : FuncId} {vs : List (Option (Bool × V))} {g : Bool} {dst : Option Nat} {xs : List V} {v : V} (nx : Nat) (hc : CallOk P f xs [] v []) (hvs : vs = xs.map fun x => some (true, x)) (h : run P nt C 1000 todo (e.put dst g v) M nx) :
    CallQ P nt C f vs g dst todo e M := .inl ⟨[], [], v, xs, fun _ => hvs, fun _ => .inl hc, Sub.nil _, ClM.nil, Fresh.nil _ _, .inr rfl, run_ok 1000 _ _ _ nx h⟩
theorem DCallQ.pure {id : Nat} {rg : Array Oper} {k : Nat} {T : List (Nat × Nat)} {i : Nat} {o : Oper} {l : List Oper} {f : FuncId} {vs : List (Option (Bool × V))} {g : Bool} {dst : Option Nat} {xs : List V} {v : V} (nx : Nat) (hc : CallOk P f xs [] v []) (hvs : vs = xs.map fun x => some (true, x))
    (h : runD P nt C id rg r e0 M0 Mf k (kontW P nt C (.ops rg (rg.toList.drop k) :: r)) T (i + 1) l (e.put dst g v) M nx) : DCallQ P nt C id rg r e0 M0 Mf k T i o f vs g dst l e M :=
  ⟨[], [], M0, v, xs, fun _ => hvs, fun _ => .inl hc, Sub.nil _, ClM.nil, Fresh.nil _ _, .inr rfl, ⟨fun _ _ h => .inl h, fun _ h => by cases h⟩, DrS.go nx h⟩
theorem CallQ.ext {f : FuncId} {vs : List (Option (Bool × V))} {g : Bool} {dst : Option Nat} {xs : List V} {v : V} (nx : Nat) (hc : ExtOk P f xs v) (hvs : vs = xs.map fun x => some (true, x)) (h : run P nt C 1000 todo (e.put dst g v) M nx) :
    CallQ P nt C f vs g dst todo e M := .inl ⟨[], [], v, xs, fun _ => hvs, fun _ => .inr ⟨rfl, hc⟩, Sub.nil _, ClM.nil, Fresh.nil _ _, .inr rfl, run_ok 1000 _ _ _ nx h⟩
theorem DCallQ.ext {id : Nat} {rg : Array Oper} {k : Nat} {T : List (Nat × Nat)} {i : Nat} {o : Oper} {l : List Oper} {f : FuncId} {vs : List (Option (Bool × V))} {g : Bool} {dst : Option Nat} {xs : List V} {v : V} (nx : Nat) (hc : ExtOk P f xs v) (hvs : vs = xs.map fun x => some (true, x))
    (h : runD P nt C id rg r e0 M0 Mf k (kontW P nt C (.ops rg (rg.toList.drop k) :: r)) T (i + 1) l (e.put dst g v) M nx) : DCallQ P nt C id rg r e0 M0 Mf k T i o f vs g dst l e M :=
  ⟨[], [], M0, v, xs, fun _ => hvs, fun _ => .inr ⟨rfl, hc⟩, Sub.nil _, ClM.nil, Fresh.nil _ _, .inr rfl, ⟨fun _ _ h => .inl h, fun _ h => by cases h⟩, DrS.go nx h⟩
/-- Under a guard. -/
theorem CallQ.guard {f : FuncId} {vs : List (Option (Bool × V))} {g : Bool} {dst : Option Nat} {xs : List V} {v : V} (nx : Nat) (hc : g = true → CallOk P f xs [] v []) (hvs : g = true → vs = xs.map fun x => some (true, x)) (h : run P nt C 1000 todo (e.put dst g v) M nx) :
    CallQ P nt C f vs g dst todo e M := .inl ⟨[], [], v, xs, hvs, fun h => .inl (hc h), Sub.nil _, ClM.nil, Fresh.nil _ _, .inr rfl, run_ok 1000 _ _ _ nx h⟩
theorem DCallQ.guard {id : Nat} {rg : Array Oper} {k : Nat} {T : List (Nat × Nat)} {i : Nat} {o : Oper} {l : List Oper} {f : FuncId} {vs : List (Option (Bool × V))} {g : Bool} {dst : Option Nat} {xs : List V} {v : V} (nx : Nat) (hc : g = true → CallOk P f xs [] v []) (hvs : g = true → vs = xs.map fun x => some (true, x))
    (h : runD P nt C id rg r e0 M0 Mf k (kontW P nt C (.ops rg (rg.toList.drop k) :: r)) T (i + 1) l (e.put dst g v) M nx) : DCallQ P nt C id rg r e0 M0 Mf k T i o f vs g dst l e M :=
  ⟨[], [], M0, v, xs, hvs, fun h => .inl (hc h), Sub.nil _, ClM.nil, Fresh.nil _ _, .inr rfl, ⟨fun _ _ h => .inl h, fun _ h => by cases h⟩, DrS.go nx h⟩
/-- The contract of a function that neither is given nor makes memory that matters. -/
theorem CallOk.mk {P : Program} {f : FuncId} {fn : Func} {body : Code} {args : List V} {v : V} (nx : Nat) (hf : P.funcs[f]? = some fn) (hb : fn.body = some body) (hent : Enters P f) (hnt : args.length ≤ fn.ntmps) (hcl : ∀ x ∈ args, ClV [] x)
    (h : ∀ C, RetOk P C fn v [] → run P fn.ntmps C 1000 [.code body] (initE 0 args) [] nx) : CallOk P f args [] v [] :=
  CallOk.intro hf hb hent hnt (fun _ _ h => by cases h) (fun _ _ _ h => by cases h) hcl (fun C hR _ => run_ok 1000 _ _ _ nx (h C hR))
theorem RetQ.pure {fn : Func} {v : V} {e : Env} {M : Mem} (hR : RetOk P C fn v []) {sc : Prop} {u : V} (hres : resE P e M fn.results.toList = some (sc, u)) (hs : sc) (hv : u = v) (hcv : ClV [] v) : RetQ C e M :=
  RetQ.of hR hres hs hv (Sub.nil _) ClM.nil hcv
end
def EnvLe : Env → Env → Prop
  | [], _ => True
  | (t, x) :: r, e' => e'.get t = some x ∧ EnvLe r e'
theorem EnvLe.ok {e' : Env} : ∀ {e : Env}, EnvLe e e' → ∀ t y, e.get t = some y → e'.get t = some y
  | [], _, t, y, h => by cases h
  | (k, x) :: r, hle, t, y, h => by
    simp only [Env.get] at h
    cases hk : (k == t) with
    | true =>
      rw [hk] at h
      have : k = t := by simpa using hk
      subst this
      simp at h
      subst h
      exact hle.1
    | false =>
      rw [hk] at h
      exact EnvLe.ok hle.2 t y h
theorem Env.mem_of_get : ∀ {e : Env} {t : Nat} {y : Bool × V}, e.get t = some y → (t, y) ∈ e
  | [], t, y, h => by cases h
  | (k, x) :: r, t, y, h => by
    simp only [Env.get] at h
    cases hk : (k == t) with
    | true =>
      rw [hk] at h
      have : k = t := by simpa using hk
      subst this
      simp at h
      subst h
      simp
    | false =>
      rw [hk] at h
      exact List.mem_cons_of_mem _ (Env.mem_of_get h)
theorem Wkn.mk {S : Bs} {e e' : Env} {M M' : Mem} (he : EnvLe e e') (hm : Sub M M') (hcm : ClM M) (hce : ∀ p ∈ e, ClV M p.2.2) (hp : ∀ n l, S.pin n = some l → (M.get n).isSome = true) : Wkn S e M e' M' := by
  intro w0 β a w hrel hen
  refine ⟨β, ⟨hrel.fr, hrel.mem.sub hm hcm, fun n b hb hr hu hS => ?_, fun n l hl => ⟨hp n l hl, (hrel.pin n l hl).2⟩⟩, fun β' hag t y hy => ?_⟩
  · obtain ⟨b', hb', hw⟩ := hm n b hb
    rcases hw with rfl | ⟨h1, _⟩
    · exact hrel.own n _ hb' hr hu hS
    · rw [hr] at h1; cases h1
  · have h1 := hen β (Agree.refl _ _) t y (he.ok t y hy)
    have h2 := hce (t, y) (Env.mem_of_get hy) β β' hag
    rw [h1]
    unfold gv
    simp only at h2
    rw [h2]
/-- A loop over states without memory that matters. -/
theorem Sm.loopP {P : Program} {nt : Nat} {C : Cx} {r : List It} {e : Env} {M : Mem} {fn : Func} {v : V} {α : Type} {b : Code} (hR : RetOk P C fn v []) (E : α → Env) (m : α → Nat) (x0 : α) (hcl : ∀ x, ∀ p ∈ E x, ClV [] p.2.2) (h0 : EnvLe (E x0) e)
    (round : ∀ (x : α) (J : Act → World → Prop), (∀ e' M', (∃ x', m x' < m x ∧ EnvLe (E x') e') → Sm P nt C (.stop J :: r) e' M') → Sm P nt C (.code b :: .stop J :: r) (E x) []) :
    Sm P nt C (.code (.loop b) :: r) e M :=
  have hp : ∀ n l, C.S.pin n = some l → (Mem.get [] n).isSome = true := fun n l h => hR.1 n l h
  Sm.loop E (fun _ => []) m x0 (Wkn.mk h0 (Sub.nil _) ClM.nil (hcl x0) hp) fun x J hb => round x J fun e' M' ⟨x', h1, h2⟩ => hb e' M' ⟨x', h1, Wkn.mk h2 (Sub.nil _) ClM.nil (hcl x') hp⟩
theorem RetQ.int {P : Program} {C : Cx} {fn : Func} {k : IntKind} {n m : Int} {e : Env} {M : Mem} (hR : RetOk P C fn (.c (.v (.int k n))) []) {sc : Prop} (hres : resE P e M fn.results.toList = some (sc, .c (.v (.int k m)))) (hs : sc) (hv : m = n) : RetQ C e M :=
  RetQ.pure hR hres hs (by rw [hv]) (fun _ _ _ => rfl)
theorem RetQ.bool {P : Program} {C : Cx} {fn : Func} {n m : Bool} {e : Env} {M : Mem} (hR : RetOk P C fn (.c (.v (.bool n))) []) {sc : Prop} (hres : resE P e M fn.results.toList = some (sc, .c (.v (.bool m)))) (hs : sc) (hv : m = n) : RetQ C e M :=
  RetQ.pure hR hres hs (by rw [hv]) (fun _ _ _ => rfl)
theorem RetQ.int2 {P : Program} {C : Cx} {fn : Func} {k k' : IntKind} {n m n' m' : Int} {e : Env} {M : Mem} (hR : RetOk P C fn (.tup [.c (.v (.int k n)), .c (.v (.int k' n'))]) []) {sc : Prop} (hres : resE P e M fn.results.toList = some (sc, .tup [.c (.v (.int k m)), .c (.v (.int k' m'))])) (hs : sc) (hv : m = n) (hv' : m' = n') : RetQ C e M :=
  RetQ.pure hR hres hs (by rw [hv, hv']) (fun _ _ _ => rfl)
def Cv.isV : Cv → Bool
  | .v _ => true
  | _ => false
theorem Cv.isV_g {x : Cv} (h : x.isV = true) (β β' : Vl) : x.g β' = x.g β := by cases x <;> first | rfl | cases h
theorem Mem.mem_of_get : ∀ {M : Mem} {n : Nat} {b : Bk}, M.get n = some b → (n, b) ∈ M
  | [], n, b, h => by cases h
  | (k, c) :: r, n, b, h => by
    simp only [Mem.get] at h
    cases hk : (k == n) with
    | true =>
      rw [hk] at h
      have : k = n := by simpa using hk
      subst this
      simp at h
      subst h
      simp
    | false =>
      rw [hk] at h
      exact List.mem_cons_of_mem _ (Mem.mem_of_get h)
theorem ClM.v {M : Mem} (h : M.all (fun p => p.2.cells.all Cv.isV) = true) : ClM M := by
  intro β β' _ n b hb
  have h1 := List.all_eq_true.1 h (n, b) (Mem.mem_of_get hb)
  refine List.map_congr_left fun x hx => ?_
  exact Cv.isV_g (List.all_eq_true.1 h1 x hx) β β'
/-- Literals need no wrap. -/
@[go_sem] theorem wrapL {n : Int} (h1 : -9223372036854775808 ≤ n) (h2 : n ≤ 9223372036854775807) : IntKind.i64.wrap n = n := IntWalk.i64_in n ⟨h1, h2⟩
/-- The contract of a function that is given memory and makes none that matters. -/
theorem CallOk.mkM {P : Program} {f : FuncId} {fn : Func} {body : Code} {args : List V} {v : V} {M : Mem} (nx : Nat) (hf : P.funcs[f]? = some fn) (hb : fn.body = some body) (hent : Enters P f) (hnt : args.length ≤ fn.ntmps) (hcl : ∀ x ∈ args, ClV M x)
    (h : ∀ C, RetOk P C fn v M → run P fn.ntmps C 1000 [.code body] (initE 0 args) M nx) : CallOk P f args M v [] :=
  CallOk.intro hf hb hent hnt (fun _ _ h => by cases h) (fun _ _ _ h => by cases h) hcl (fun C hR _ => run_ok 1000 _ _ _ nx (h C hR))
theorem CallQ.mem {P : Program} {nt : Nat} {C : Cx} {todo : List It} {e : Env} {M : Mem} {f : FuncId} {vs : List (Option (Bool × V))} {g : Bool} {dst : Option Nat} {xs : List V} {v : V} {M1 : Mem} (nx : Nat) (hc : CallOk P f xs M1 v []) (hvs : vs = xs.map fun x => some (true, x)) (hs : Sub M1 M) (hcl : ClM M1) (h : run P nt C 1000 todo (e.put dst g v) M nx) :
    CallQ P nt C f vs g dst todo e M := .inl ⟨M1, [], v, xs, fun _ => hvs, fun _ => .inl hc, hs, hcl, Fresh.nil _ _, .inr rfl, run_ok 1000 _ _ _ nx h⟩
theorem Sub.one {M : Mem} {n : Nat} {b b' : Bk} (h : M.get n = some b') (hw : Wk b b') : Sub [(n, b)] M := fun k c hk => by
  simp only [Mem.get] at hk
  cases hkn : (n == k) with
  | true =>
    rw [hkn] at hk
    have : n = k := by simpa using hkn
    subst this
    simp at hk
    subst hk
    exact ⟨b', h, hw⟩
  | false => rw [hkn] at hk; cases hk
attribute [go_sem] EnvLe imp_self Bool.not_eq_true' cond_true cond_false true_and and_true and_self implies_true true_or or_true forall_const ne_eq not_false_eq_true decide_true decide_false beq_self_eq_true Option.isNone Option.bind_some Option.isNone_none Option.isNone_some Option.isSome_some Bool.true_and Bool.and_true beq_true beq_false Bool.not_true Bool.not_false eq_self Bool.true_eq_false Bool.false_eq_true false_implies true_implies or_false false_or and_false false_and List.map_cons List.map_nil List.all_cons List.all_nil List.take_succ_cons List.take_zero List.take_nil List.drop_succ_cons List.drop_zero List.drop_nil List.length_cons List.length_nil List.getElem?_cons_zero List.getElem?_cons_succ List.getElem?_toArray List.nil_append List.cons_append List.set_cons_zero List.set_cons_succ Nat.zero_add Nat.add_zero
attribute [go_sem] eqC eqE
attribute [go_sem] Mem.wo callOf run runD seenX seenM seenB ownB touchB touchN aft Region.binds List.filter Option.isSome_none Bool.true_or Bool.or_true Bool.false_or Bool.or_false Bool.or_self List.contains_cons List.contains_nil List.elem initE gd opE rd rdV Env.get Env.put cst dstOk exitTo Mem.get setL V.ok1 V.cells Cv.one Value.oneCell' binC unC pickV W.toV fillE freshB resE resL res1 V.toW
end Vg
end Go.Proofs.YtpahigegcbdleaaDoor
