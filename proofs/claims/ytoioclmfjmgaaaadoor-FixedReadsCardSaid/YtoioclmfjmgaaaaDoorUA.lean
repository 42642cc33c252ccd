/- Parsing of units: plain laws. -/
import Derived.Test.YtoioclmfjmgaaaaDoorU6
namespace Go.Proofs.YtoioclmfjmgaaaaDoor.Fx
set_option linter.unusedSimpArgs false
set_option linter.unusedVariables false
set_option maxRecDepth 100000
set_option maxHeartbeats 4000000
def ixF (n : List UInt8) : List (List UInt8) → Nat → Option Nat
  | [], _ => none
  | x :: r, k => if x = n then some k else ixF n r (k + 1)
/-- A factor read: the number of its symbol, and its exponent. -/
def readF (f : List UInt8) : Option (Nat × Nat) :=
  if (cutB 94 f).2.2 = true then
    match (cutB 94 f).2.1 with
    | [d] => if 50 ≤ d.toNat ∧ d.toNat ≤ 57 then (ixF (cutB 94 f).1 symT 0).map fun i => (i, d.toNat - 48) else none
    | _ => none
  else (ixF (cutB 94 f).1 symT 0).map fun i => (i, 1)
def uset (u : Un) (i : Nat) (v : Int) : Un :=
  match i with
  | 0 => { u with m := v }
  | 1 => { u with kg := v }
  | 2 => { u with s := v }
  | 3 => { u with a := v }
  | _ => { u with k := v }
def facsF (sg : Int) : Un → List (List UInt8) → Option Un
  | u, [] => some u
  | u, f :: r => match readF f with
    | none => none
    | some (i, n) => if ex u i = 0 then facsF sg (uset u i (sg * n)) r else none
def partsF : Nat → Un → List (List UInt8) → Option Un
  | _, u, [] => some u
  | k, u, p :: r => if k = 0 ∧ p = [49] then partsF (k + 1) u r else
    match facsF (if k = 0 then 1 else -1) u (if k = 0 then splB 42 p else [p]) with
    | none => none
    | some u' => partsF (k + 1) u' r
def parseQ (l : List UInt8) : Option Un := partsF 0 u0 (splB 47 l)
theorem ex_uset (u : Un) (v : Int) : ∀ i, i < 5 → ∀ j, j < 5 → ex (uset u i v) j = if j = i then v else ex u j :=
  five (Q := fun i => ∀ j, j < 5 → ex (uset u i v) j = if j = i then v else ex u j) (five rfl rfl rfl rfl rfl) (five rfl rfl rfl rfl rfl) (five rfl rfl rfl rfl rfl) (five rfl rfl rfl rfl rfl) (five rfl rfl rfl rfl rfl)
theorem ex_ext {a b : Un} (h : ∀ j, j < 5 → ex a j = ex b j) : a = b := by
  have h0 := h 0 (by omega); have h1 := h 1 (by omega); have h2 := h 2 (by omega); have h3 := h 3 (by omega); have h4 := h 4 (by omega)
  cases a; cases b
  simp only [ex, List.getD_cons_zero, List.getD_cons_succ] at h0 h1 h2 h3 h4
  simp only [Un.mk.injEq]
  exact ⟨h0, h1, h2, h3, h4⟩
theorem uok_ex {u : Un} : uokU u = true ↔ ∀ j, j < 5 → -9 ≤ ex u j ∧ ex u j ≤ 9 := by
  constructor
  · exact fun h j hj => ex_bd h hj
  · intro h
    exact uokU_iff.2 ⟨h 0 (by omega), h 1 (by omega), h 2 (by omega), h 3 (by omega), h 4 (by omega)⟩
theorem ixF_lt (n : List UInt8) : ∀ (l : List (List UInt8)) (k i : Nat), ixF n l k = some i → i < k + l.length
  | [], _, _, h => by cases h
  | x :: l, k, i, h => by
    unfold ixF at h
    split at h
    · cases h; simp
    · have := ixF_lt n l (k + 1) i h
      simp; omega
theorem readF_bd {f : List UInt8} {i n : Nat} (h : readF f = some (i, n)) : i < 5 ∧ 1 ≤ n ∧ n ≤ 9 := by
  unfold readF at h
  split at h
  · split at h
    · split at h
      · rename_i d _ hd
        cases hi : ixF (cutB 94 f).1 symT 0 with
        | none => rw [hi] at h; cases h
        | some j =>
          rw [hi] at h
          have := ixF_lt _ _ _ _ hi
          simp only [Option.map_some, Option.some.injEq, Prod.mk.injEq] at h
          have hl : symT.length = 5 := rfl
          omega
      · cases h
    · cases h
  · cases hi : ixF (cutB 94 f).1 symT 0 with
    | none => rw [hi] at h; cases h
    | some j =>
      rw [hi] at h
      have := ixF_lt _ _ _ _ hi
      simp only [Option.map_some, Option.some.injEq, Prod.mk.injEq] at h
      have hl : symT.length = 5 := rfl
      omega
theorem facsF_ok {sg : Int} (hs : sg = 1 ∨ sg = -1) : ∀ (l : List (List UInt8)) (u w : Un), uokU u = true → facsF sg u l = some w → uokU w = true
  | [], u, w, hu, h => by cases h; exact hu
  | f :: r, u, w, hu, h => by
    unfold facsF at h
    split at h
    · cases h
    · rename_i i n hr
      obtain ⟨h1, h2, h3⟩ := readF_bd hr
      split at h
      · refine facsF_ok hs r _ w (uok_ex.2 fun j hj => ?_) h
        rw [ex_uset u _ i h1 j hj]
        split
        · rcases hs with rfl | rfl <;> omega
        · exact uok_ex.1 hu j hj
      · cases h
theorem partsF_ok : ∀ (l : List (List UInt8)) (k : Nat) (u w : Un), uokU u = true → partsF k u l = some w → uokU w = true
  | [], _, u, w, hu, h => by cases h; exact hu
  | p :: r, k, u, w, hu, h => by
    unfold partsF at h
    split at h
    · exact partsF_ok r _ u w hu h
    · split at h
      · cases h
      · rename_i u' hf
        exact partsF_ok r _ u' w (facsF_ok (by split <;> simp) _ u u' hu hf) h
/-! ### what was written is read -/
theorem fac_facts : ∀ i : Fin 5, ∀ n : Fin 9, readF (facT i.val (n.val + 1)) = some (i.val, n.val + 1) ∧ 47 ∉ facT i.val (n.val + 1) ∧ 42 ∉ facT i.val (n.val + 1) ∧ facT i.val (n.val + 1) ≠ [49] := by decide
theorem fac_read {i n : Nat} (hi : i < 5) (h1 : 1 ≤ n) (h9 : n ≤ 9) : readF (facT i n) = some (i, n) ∧ 47 ∉ facT i n ∧ 42 ∉ facT i n ∧ facT i n ≠ [49] := by
  have := fac_facts ⟨i, hi⟩ ⟨n - 1, by omega⟩
  simp only [show n - 1 + 1 = n by omega] at this
  exact this
theorem splB_no {c : UInt8} : ∀ {a : List UInt8}, c ∉ a → splB c a = [a]
  | [], _ => rfl
  | x :: a, h => by
    have hx : ¬ x = c := fun e => h (by simp [e])
    rw [splB_cons, if_neg hx, splB_no (fun e => h (by simp [e]))]
theorem splB_app {c : UInt8} (b : List UInt8) : ∀ {a : List UInt8}, c ∉ a → splB c (a ++ c :: b) = a :: splB c b
  | [], _ => by rw [List.nil_append, splB_cons, if_pos rfl]
  | x :: a, h => by
    have hx : ¬ x = c := fun e => h (by simp [e])
    rw [List.cons_append, splB_cons, if_neg hx, splB_app b (fun e => h (by simp [e]))]
theorem splB_join {c : UInt8} : ∀ (L : List (List UInt8)) {a : List UInt8}, c ∉ a → (∀ x ∈ L, c ∉ x) → splB c (a ++ L.flatMap (fun x => c :: x)) = a :: L
  | [], a, h, _ => by simpa using splB_no h
  | x :: L, a, h, hL => by
    rw [List.flatMap_cons, List.cons_append, splB_app _ h, splB_join L (hL x (by simp)) (fun y hy => hL y (by simp [hy]))]
def posL (u : Un) : Nat → List (List UInt8)
  | 0 => []
  | i + 1 => if 0 < ex u i then posL u i ++ [facT i (ex u i).toNat] else posL u i
def negL (u : Un) : Nat → List (List UInt8)
  | 0 => []
  | i + 1 => if ex u i < 0 then negL u i ++ [facT i (-ex u i).toNat] else negL u i
def joinS : List (List UInt8) → List UInt8
  | [] => []
  | x :: L => x ++ L.flatMap (fun y => 42 :: y)
theorem joinS_snoc (L : List (List UInt8)) (x : List UInt8) : joinS (L ++ [x]) = if L = [] then x else joinS L ++ 42 :: x := by
  cases L with
  | nil => simp [joinS]
  | cons y L => simp [joinS]
theorem negT_eq (u : Un) : ∀ i, negT u i = midT u ++ (negL u i).flatMap (fun x => 47 :: x)
  | 0 => by simp [negT, negL]
  | i + 1 => by
    have ih := negT_eq u i
    unfold negT negL
    split
    · rw [ih]; simp
    · exact ih
section
variable {u : Un} (hu : uokU u = true)
include hu
theorem pos_mem : ∀ i, i ≤ 5 → ∀ x ∈ posL u i, ∃ j n, j < 5 ∧ 1 ≤ n ∧ n ≤ 9 ∧ x = facT j n
  | 0, _, x, hx => by cases hx
  | i + 1, hi, x, hx => by
    have hb := ex_bd hu (show i < 5 by omega)
    unfold posL at hx
    split at hx
    · rcases List.mem_append.1 hx with h | h
      · exact pos_mem i (by omega) x h
      · rw [List.mem_singleton.1 h]
        exact ⟨i, _, by omega, by omega, by omega, rfl⟩
    · exact pos_mem i (by omega) x hx
theorem neg_mem : ∀ i, i ≤ 5 → ∀ x ∈ negL u i, ∃ j n, j < 5 ∧ 1 ≤ n ∧ n ≤ 9 ∧ x = facT j n
  | 0, _, x, hx => by cases hx
  | i + 1, hi, x, hx => by
    have hb := ex_bd hu (show i < 5 by omega)
    unfold negL at hx
    split at hx
    · rcases List.mem_append.1 hx with h | h
      · exact neg_mem i (by omega) x h
      · rw [List.mem_singleton.1 h]
        exact ⟨i, _, by omega, by omega, by omega, rfl⟩
    · exact neg_mem i (by omega) x hx
omit hu in
theorem posT_eq : ∀ i, i ≤ 5 → posT u i = joinS (posL u i) ∧ (posT u i = [] ↔ posL u i = [])
  | 0, _ => ⟨rfl, by simp [posT, posL]⟩
  | i + 1, hi => by
    have ih := posT_eq i (by omega)
    have hfl := sy_len i (by omega)
    unfold posT posL
    split
    · constructor
      · rw [joinS_snoc]
        by_cases h : posL u i = []
        · rw [if_pos h, if_pos (ih.2.2 h)]; rfl
        · rw [if_neg h, if_neg (fun e => h (ih.2.1 e)), ih.1]; simp
      · constructor
        · intro h
          exfalso
          have h2 : facT i (ex u i).toNat = [] := by
            have := congrArg List.length h
            simp at this
            exact this.2
          have : (sy i).length = 0 := by
            unfold facT at h2
            have := congrArg List.length h2
            simp only [List.length_append, List.length_nil] at this
            omega
          omega
        · intro h; simp at h
    · exact ih
def wP (u : Un) : Nat → Un
  | 0 => u0
  | i + 1 => if 0 < ex u i then uset (wP u i) i (ex u i) else wP u i
def wN (u : Un) : Nat → Un
  | 0 => wP u 5
  | i + 1 => if ex u i < 0 then uset (wN u i) i (ex u i) else wN u i
omit hu in
theorem ex_u0 : ∀ j, j < 5 → ex u0 j = 0 := five rfl rfl rfl rfl rfl
omit hu in
theorem wP_ex (u : Un) : ∀ i, i ≤ 5 → ∀ j, j < 5 → ex (wP u i) j = if j < i ∧ 0 < ex u j then ex u j else 0
  | 0, _, j, hj => by rw [if_neg (by omega)]; exact ex_u0 j hj
  | i + 1, hi, j, hj => by
    have ih := wP_ex u i (by omega) j hj
    unfold wP
    split
    · rw [ex_uset _ _ i (by omega) j hj]
      split
      · rename_i h1 h2; subst h2; rw [if_pos ⟨by omega, h1⟩]
      · rw [ih]
        by_cases h : j < i
        · simp [h, show j < i + 1 by omega]
        · simp [h, show ¬ j < i + 1 by omega]
    · rename_i h0
      rw [ih]
      by_cases h : j = i
      · subst h; simp [h0]
      · by_cases h2 : j < i
        · simp [h2, show j < i + 1 by omega]
        · simp [h2, show ¬ j < i + 1 by omega]
omit hu in
theorem wN_ex (u : Un) : ∀ i, i ≤ 5 → ∀ j, j < 5 → ex (wN u i) j = if 0 < ex u j ∨ (j < i ∧ ex u j < 0) then ex u j else 0
  | 0, _, j, hj => by
    have := wP_ex u 5 (by omega) j hj
    unfold wN
    rw [this]
    simp [hj]
  | i + 1, hi, j, hj => by
    have ih := wN_ex u i (by omega) j hj
    unfold wN
    split
    · rw [ex_uset _ _ i (by omega) j hj]
      split
      · rename_i h1 h2; subst h2; rw [if_pos (.inr ⟨by omega, h1⟩)]
      · rw [ih]
        by_cases h : j < i
        · simp [h, show j < i + 1 by omega]
        · simp [h, show ¬ j < i + 1 by omega]
    · rename_i h0
      rw [ih]
      by_cases h : j = i
      · subst h; simp [h0]
      · by_cases h2 : j < i
        · simp [h2, show j < i + 1 by omega]
        · simp [h2, show ¬ j < i + 1 by omega]
omit hu in
theorem wN_all (u : Un) : wN u 5 = u := ex_ext fun j hj => by
  rw [wN_ex u 5 (by omega) j hj]
  split
  · rfl
  · omega
omit hu in
theorem facsF_cons (sg : Int) (v : Un) (f : List UInt8) (r : List (List UInt8)) : facsF sg v (f :: r) = (match readF f with
    | none => none
    | some (i, n) => if ex v i = 0 then facsF sg (uset v i (sg * n)) r else none) := rfl
omit hu in
theorem partsF_cons (k : Nat) (v : Un) (p : List UInt8) (r : List (List UInt8)) : partsF k v (p :: r) = (if k = 0 ∧ p = [49] then partsF (k + 1) v r else
    match facsF (if k = 0 then 1 else -1) v (if k = 0 then splB 42 p else [p]) with
    | none => none
    | some u' => partsF (k + 1) u' r) := rfl
omit hu in
theorem facsF_app (sg : Int) : ∀ (l : List (List UInt8)) (m : List (List UInt8)) (v w : Un), facsF sg v l = some w → facsF sg v (l ++ m) = facsF sg w m
  | [], m, v, w, h => by cases h; rfl
  | f :: l, m, v, w, h => by
    rw [List.cons_append, facsF_cons]
    rw [facsF_cons] at h
    split at h
    · cases h
    · rename_i i n hr
      split at h
      · rename_i h0
        simp only [h0, if_true]
        exact facsF_app sg l m _ w h
      · cases h
theorem facs_pos : ∀ i, i ≤ 5 → facsF 1 u0 (posL u i) = some (wP u i)
  | 0, _ => rfl
  | i + 1, hi => by
    have ih := facs_pos i (by omega)
    have hb := ex_bd hu (show i < 5 by omega)
    have hw := wP_ex u i (by omega) i (by omega)
    rw [if_neg (by omega)] at hw
    unfold posL wP
    split
    · rw [facsF_app 1 _ _ _ _ ih]
      unfold facsF
      rw [(fac_read (show i < 5 by omega) (n := (ex u i).toNat) (by omega) (by omega)).1]
      simp only [hw, if_true]
      unfold facsF
      rw [show (1 : Int) * ((ex u i).toNat : Int) = ex u i by omega]
    · exact ih
omit hu in
theorem partsF_app : ∀ (l m : List (List UInt8)) (k : Nat) (v w : Un), partsF k v l = some w → partsF k v (l ++ m) = partsF (k + l.length) w m
  | [], m, k, v, w, h => by cases h; rfl
  | p :: l, m, k, v, w, h => by
    rw [List.cons_append, List.length_cons, show k + (l.length + 1) = k + 1 + l.length by omega, partsF_cons]
    rw [partsF_cons] at h
    split at h
    · rename_i h0
      rw [if_pos h0]
      exact partsF_app l m _ v w h
    · rename_i h0
      rw [if_neg h0]
      split at h
      · cases h
      · rename_i u' hf
        exact partsF_app l m _ u' w h
theorem parts_neg : ∀ i, i ≤ 5 → partsF 1 (wP u 5) (negL u i) = some (wN u i)
  | 0, _ => rfl
  | i + 1, hi => by
    have ih := parts_neg i (by omega)
    have hb := ex_bd hu (show i < 5 by omega)
    have hw := wN_ex u i (by omega) i (by omega)
    unfold negL wN
    split
    · rename_i h0
      rw [if_neg (by omega)] at hw
      rw [partsF_app _ _ _ _ _ ih]
      obtain ⟨q1, _⟩ := fac_read (show i < 5 by omega) (n := (-ex u i).toNat) (by omega) (by omega)
      unfold partsF
      rw [if_neg (by omega), if_neg (by omega), if_neg (by omega)]
      unfold facsF
      rw [q1]
      simp only [hw, if_true]
      unfold facsF
      simp only
      unfold partsF
      rw [show (-1 : Int) * ((-ex u i).toNat : Int) = ex u i by omega]
    · exact ih
theorem txt_eq : txt u = midT u ++ (negL u 5).flatMap (fun x => 47 :: x) := by
  rw [txt, hu, cond_true, negT_eq]
theorem mid_no : 47 ∉ midT u := by
  unfold midT
  split
  · decide
  · rw [(posT_eq (u := u) 5 (by omega)).1]
    have hm := pos_mem hu 5 (by omega)
    generalize posL u 5 = L at hm
    intro h
    have key : ∀ x ∈ L, 47 ∉ x := fun x hx => by
      obtain ⟨j, n, h1, h2, h3, rfl⟩ := hm x hx
      exact (fac_read h1 h2 h3).2.1
    cases L with
    | nil => cases h
    | cons x L =>
      rcases List.mem_append.1 h with h | h
      · exact key x (by simp) h
      · obtain ⟨y, hy, h⟩ := List.mem_flatMap.1 h
        rcases List.mem_cons.1 h with h | h
        · cases h
        · exact key y (by simp [hy]) h
/-- What was written is read: the program's way. -/
theorem parse_txt : parseQ (txt u) = some u := by
  have hneg : ∀ x ∈ negL u 5, 47 ∉ x := fun x hx => by
    obtain ⟨j, n, h1, h2, h3, rfl⟩ := neg_mem hu 5 (by omega) x hx
    exact (fac_read h1 h2 h3).2.1
  unfold parseQ
  rw [txt_eq hu, splB_join _ (mid_no hu) hneg]
  have hp := posT_eq (u := u) 5 (by omega)
  have hfin : partsF 1 (wP u 5) (negL u 5) = some u := by rw [parts_neg hu 5 (by omega), wN_all]
  unfold partsF
  by_cases h : posT u 5 = []
  · have hm : midT u = [49] := by rw [midT, if_pos h]
    have hw : wP u 5 = u0 := by
      have := facs_pos hu 5 (by omega)
      rw [hp.2.1 h] at this
      exact (Option.some.inj this).symm
    rw [if_pos ⟨rfl, hm⟩]
    rw [hw] at hfin
    exact hfin
  · have hm : midT u = joinS (posL u 5) := by rw [midT, if_neg h, hp.1]
    have hL : posL u 5 ≠ [] := fun e => h (hp.2.2 e)
    have hpm := pos_mem hu 5 (by omega)
    have hsp : splB 42 (midT u) = posL u 5 := by
      rw [hm]
      cases hq : posL u 5 with
      | nil => exact absurd hq hL
      | cons x L =>
        rw [hq] at hpm
        have key : ∀ y ∈ x :: L, 42 ∉ y := fun y hy => by
          obtain ⟨j, n, h1, h2, h3, rfl⟩ := hpm y hy
          exact (fac_read h1 h2 h3).2.2.1
        exact splB_join L (key x (by simp)) (fun y hy => key y (by simp [hy]))
    have hne : midT u ≠ [49] := by
      intro e
      have : splB 42 ([49] : List UInt8) = [[49]] := by decide
      rw [e, this] at hsp
      obtain ⟨j, n, h1, h2, h3, he⟩ := hpm [49] (by rw [← hsp]; simp)
      exact (fac_read h1 h2 h3).2.2.2 he.symm
    rw [if_neg (fun e => hne e.2), if_pos rfl, if_pos rfl, hsp, facs_pos hu 5 (by omega)]
    exact hfin
end
end Go.Proofs.YtoioclmfjmgaaaaDoor.Fx
