/- Parsing of units: the reference's way; what both answer. -/
import Derived.Test.YtoioclmfjmgaaaaDoorUA
import Derived.Test.YtoioclmfjmgaaaaDoorU4
namespace Go.Proofs.YtoioclmfjmgaaaaDoor.Fx
set_option linter.unusedSimpArgs false
set_option linter.unusedVariables false
set_option maxRecDepth 100000
set_option maxHeartbeats 4000000
/-- The last symbol, below the bound, that the text begins with. -/
def mtA (r : List UInt8) : Nat → Int
  | 0 => -1
  | j + 1 => if r.take (sy j).length = sy j then j else mtA r j
theorem mtA_bd (r : List UInt8) : ∀ j, -1 ≤ mtA r j ∧ mtA r j < j
  | 0 => by unfold mtA; omega
  | j + 1 => by
    have := mtA_bd r j
    unfold mtA
    split <;> omega
/-- The exponent written here, and its length. -/
def expo (r : List UInt8) : Nat × Nat :=
  if 1 < r.length ∧ r.getD 0 0 = 94 ∧ 50 ≤ (r.getD 1 0).toNat ∧ (r.getD 1 0).toNat ≤ 57 then ((r.getD 1 0).toNat - 48, 2) else (1, 0)
theorem expo_bd (r : List UInt8) : 1 ≤ (expo r).1 ∧ (expo r).1 ≤ 9 ∧ (expo r).2 ≤ r.length := by
  unfold expo
  split
  · simp only; omega
  · simp
def sgn (c : UInt8) (sg : Int) : Int := if c = 47 then -1 else sg
inductive Scan : Int → Un → List UInt8 → Un → Prop
  | nil {sg : Int} {u : Un} : Scan sg u [] u
  | skip {sg : Int} {u w : Un} {c : UInt8} {r : List UInt8} : mtA (c :: r) 5 = -1 → Scan (sgn c sg) u r w → Scan sg u (c :: r) w
  | tok {sg : Int} {u w : Un} {c : UInt8} {r : List UInt8} (j : Nat) : mtA (c :: r) 5 = (j : Int) →
      Scan (sgn c sg) (uset u j (ex u j + sgn c sg * (expo ((c :: r).drop (sy j).length)).1)) (((c :: r).drop (sy j).length).drop (expo ((c :: r).drop (sy j).length)).2) w → Scan sg u (c :: r) w
theorem scan_ex : ∀ (n : Nat) (l : List UInt8), l.length ≤ n → ∀ (sg : Int) (u : Un), ∃ w, Scan sg u l w
  | _, [], _, _, u => ⟨u, .nil⟩
  | n + 1, c :: r, h, sg, u => by
    have hb := mtA_bd (c :: r) 5
    by_cases hm : mtA (c :: r) 5 = -1
    · obtain ⟨w, hw⟩ := scan_ex n r (by simpa using h) (sgn c sg) u
      exact ⟨w, .skip hm hw⟩
    · obtain ⟨j, hj⟩ : ∃ j : Nat, mtA (c :: r) 5 = (j : Int) := ⟨(mtA (c :: r) 5).toNat, by omega⟩
      have hl := sy_len j (by omega)
      obtain ⟨w, hw⟩ := scan_ex n (((c :: r).drop (sy j).length).drop (expo ((c :: r).drop (sy j).length)).2) (by simp only [List.length_drop, List.length_cons] at h ⊢; omega) (sgn c sg) (uset u j (ex u j + sgn c sg * (expo ((c :: r).drop (sy j).length)).1))
      exact ⟨w, .tok j hj hw⟩
def okR (r : List UInt8) : Prop := r = [] ∨ ∃ c t, r = c :: t ∧ (c = 42 ∨ c = 47)
theorem mtA_sy (r : List UInt8) : ∀ i, i < 5 → mtA (sy i ++ r) 5 = i :=
  five (Q := fun i => mtA (sy i ++ r) 5 = i) (by simp [mtA, sy, symT]) (by simp [mtA, sy, symT]) (by simp [mtA, sy, symT]) (by simp [mtA, sy, symT]) (by simp [mtA, sy, symT])
theorem mtA_no {c : UInt8} (r : List UInt8) (h : c = 42 ∨ c = 47 ∨ c = 49) : mtA (c :: r) 5 = -1 := by
  rcases h with rfl | rfl | rfl <;> simp [mtA, sy, symT]
theorem sgn_sy {sg : Int} : ∀ i, i < 5 → ∀ c t, sy i = c :: t → sgn c sg = sg :=
  five (Q := fun i => ∀ c t, sy i = c :: t → sgn c sg = sg) (by rintro c t h; cases h; rfl) (by rintro c t h; cases h; rfl) (by rintro c t h; cases h; rfl) (by rintro c t h; cases h; rfl) (by rintro c t h; cases h; rfl)
theorem expo_one {r : List UInt8} (h : okR r) : expo r = (1, 0) := by
  unfold expo
  rw [if_neg]
  rintro ⟨h1, h2, _⟩
  rcases h with rfl | ⟨c, t, rfl, h | h⟩
  · simp at h1
  · subst h; simp at h2
  · subst h; simp at h2
theorem expo_n (r : List UInt8) {n : Nat} (h2 : 2 ≤ n) (h9 : n ≤ 9) : expo (94 :: UInt8.ofNat (48 + n) :: r) = (n, 2) := by
  have hn : (UInt8.ofNat (48 + n)).toNat = 48 + n := by simp; omega
  unfold expo
  rw [if_pos ⟨by simp, rfl, by simp only [List.getD_cons_succ, List.getD_cons_zero, hn]; omega, by simp only [List.getD_cons_succ, List.getD_cons_zero, hn]; omega⟩]
  simp only [List.getD_cons_succ, List.getD_cons_zero, hn]
  simp
theorem scan_fac {sg : Int} {u w : Un} {i n : Nat} {r : List UInt8} (hi : i < 5) (h1 : 1 ≤ n) (h9 : n ≤ 9) (hr : okR r) (h : Scan sg (uset u i (ex u i + sg * n)) r w) : Scan sg u (facT i n ++ r) w := by
  obtain ⟨c, t, hc⟩ : ∃ c t, sy i = c :: t := by
    have := sy_len i hi
    cases hs : sy i with
    | nil => rw [hs] at this; simp at this
    | cons c t => exact ⟨c, t, rfl⟩
  have e : facT i n ++ r = sy i ++ ((if n = 1 then [] else [94, UInt8.ofNat (48 + n)]) ++ r) := by rw [facT, List.append_assoc]
  rw [e]
  generalize hq : (if n = 1 then ([] : List UInt8) else [94, UInt8.ofNat (48 + n)]) ++ r = q
  have hx : (expo q).1 = n ∧ q.drop (expo q).2 = r := by
    subst hq
    split
    · rename_i h
      subst h
      rw [List.nil_append, expo_one hr]
      exact ⟨rfl, rfl⟩
    · rw [show [94, UInt8.ofNat (48 + n)] ++ r = 94 :: UInt8.ofNat (48 + n) :: r from rfl, expo_n r (by omega) h9]
      exact ⟨rfl, rfl⟩
  have hm := mtA_sy q i hi
  have hd : (sy i ++ q).drop (sy i).length = q := by simp
  have hs := sgn_sy (sg := sg) i hi c t hc
  rw [hc] at hm hd ⊢
  rw [List.cons_append] at hm hd ⊢
  have key : Scan (sgn c sg) (uset u i (ex u i + sgn c sg * (expo ((c :: (t ++ q)).drop (sy i).length)).1)) (((c :: (t ++ q)).drop (sy i).length).drop (expo ((c :: (t ++ q)).drop (sy i).length)).2) w := by
    rw [hc, hd, hx.1, hx.2, hs]
    exact h
  exact Scan.tok i hm key
theorem wP_0 {u : Un} (hu : uokU u = true) {i : Nat} (hi : i ≤ 5) (h : posL u i = []) : wP u i = u0 := by
  have := facs_pos hu i hi
  rw [h] at this
  exact (Option.some.inj this).symm
theorem scan_pos {u : Un} (hu : uokU u = true) : ∀ i, i ≤ 5 → ∀ r w, okR r → Scan 1 (wP u i) r w → Scan 1 u0 (joinS (posL u i) ++ r) w
  | 0, _, r, w, _, h => h
  | i + 1, hi, r, w, hr, h => by
    have hb := ex_bd hu (show i < 5 by omega)
    have hw := wP_ex u i (by omega) i (by omega)
    rw [if_neg (by omega)] at hw
    unfold posL
    unfold wP at h
    split
    · rename_i h0
      rw [if_pos h0] at h
      have hs : Scan 1 (wP u i) (facT i (ex u i).toNat ++ r) w := scan_fac (by omega) (by omega) (by omega) hr (by
        rw [hw, show (0 : Int) + 1 * ((ex u i).toNat : Int) = ex u i by omega]
        exact h)
      rw [joinS_snoc]
      split
      · rename_i he
        rw [wP_0 hu (by omega) he] at hs
        exact hs
      · rw [List.append_assoc]
        exact scan_pos hu i (by omega) _ _ (.inr ⟨42, _, rfl, .inl rfl⟩) (.skip (mtA_no _ (.inl rfl)) hs)
    · rename_i h0
      rw [if_neg h0] at h
      exact scan_pos hu i (by omega) r w hr h
theorem scan_neg {u : Un} (hu : uokU u = true) : ∀ i, i ≤ 5 → ∀ r w, okR r → (∀ sg, Scan sg (wN u i) r w) → ∀ sg, Scan sg (wP u 5) ((negL u i).flatMap (fun x => 47 :: x) ++ r) w
  | 0, _, r, w, _, h, sg => h sg
  | i + 1, hi, r, w, hr, h, sg => by
    have hb := ex_bd hu (show i < 5 by omega)
    have hw := wN_ex u i (by omega) i (by omega)
    unfold negL
    unfold wN at h
    split
    · rename_i h0
      rw [if_neg (by omega)] at hw
      simp only [h0, if_true] at h
      rw [List.flatMap_append, List.append_assoc, List.flatMap_cons, List.flatMap_nil, List.append_nil, List.cons_append]
      refine scan_neg hu i (by omega) _ _ (.inr ⟨47, _, rfl, .inr rfl⟩) (fun sg => ?_) sg
      refine .skip (mtA_no _ (.inr (.inl rfl))) ?_
      rw [show sgn 47 sg = -1 from rfl]
      refine scan_fac (by omega) (by omega) (by omega) hr ?_
      rw [hw, show (0 : Int) + -1 * ((-ex u i).toNat : Int) = ex u i by omega]
      exact h _
    · rename_i h0
      simp only [h0, if_false] at h
      exact scan_neg hu i (by omega) r w hr h sg
/-- What was written is read: the reference's way. -/
theorem scan_txt {u : Un} (hu : uokU u = true) : Scan 1 u0 (txt u) u := by
  rw [txt_eq hu]
  have hn : ∀ sg, Scan sg (wP u 5) ((negL u 5).flatMap (fun x => 47 :: x)) u := fun sg => by
    have := scan_neg hu 5 (by omega) [] u (.inl rfl) (fun sg => by rw [wN_all]; exact .nil) sg
    rwa [List.append_nil] at this
  have hp := posT_eq (u := u) 5 (by omega)
  by_cases h : posT u 5 = []
  · rw [midT, if_pos h]
    have := hn 1
    rw [wP_0 hu (by omega) (hp.2.1 h)] at this
    exact .skip (mtA_no _ (.inr (.inr rfl))) this
  · rw [midT, if_neg h, hp.1]
    refine scan_pos hu 5 (by omega) _ _ ?_ (hn 1)
    cases negL u 5 with
    | nil => exact .inl rfl
    | cons x L =>
      rw [List.flatMap_cons]
      exact .inr ⟨47, _, rfl, .inr rfl⟩
/-! ### what both answer -/
def prs (l : List UInt8) : Un × Int :=
  if 40 < l.length then (u0, 5) else
  if (nmd l).2 = true then ((nmd l).1, 0) else
  match parseQ l with
  | none => (u0, 3)
  | some u => if txt u = l then (u, 0) else (u0, 3)
theorem parseQ_ok {l : List UInt8} {u : Un} (h : parseQ l = some u) : uokU u = true := partsF_ok _ _ _ _ (by rfl) h
/-- The reference's answer is the program's. -/
theorem prs_scan (l : List UInt8) (h1 : ¬ 40 < l.length) (h2 : ¬ (nmd l).2 = true) : ∃ w, Scan 1 u0 l w ∧ prs l = if uokU w = true ∧ txt w = l then (w, 0) else (u0, 3) := by
  unfold prs
  rw [if_neg h1, if_neg h2]
  cases hq : parseQ l with
  | none =>
    obtain ⟨w, hw⟩ := scan_ex _ l (Nat.le_refl _) 1 u0
    refine ⟨w, hw, ?_⟩
    rw [if_neg]
    rintro ⟨a, b⟩
    have := parse_txt a
    rw [b, hq] at this
    cases this
  | some u =>
    have hu := parseQ_ok hq
    by_cases he : txt u = l
    · refine ⟨u, ?_, ?_⟩
      · have := scan_txt hu
        rwa [he] at this
      · simp only [he, hu, and_self, if_true]
    · obtain ⟨w, hw⟩ := scan_ex _ l (Nat.le_refl _) 1 u0
      refine ⟨w, hw, ?_⟩
      simp only [he, if_false]
      rw [if_neg]
      rintro ⟨a, b⟩
      have := parse_txt a
      rw [b, hq] at this
      cases this
      exact he b
/-! ### the texts themselves -/
theorem pn_len (u : Un) : ∀ i, i ≤ 5 → (posT u i).length + (negT u i).length ≤ 5 * i + (midT u).length
  | 0, _ => by simp [posT, negT]
  | i + 1, h => by
    have ih := pn_len u i (by omega)
    have hf := facT_len i (-ex u i).toNat (by omega)
    have hf := facT_len i (ex u i).toNat (by omega)
    unfold posT negT
    split
    · rw [if_neg (show ¬ ex u i < 0 by omega)]
      split <;> simp <;> omega
    · split <;> simp <;> omega
theorem txt_len (u : Un) : (txt u).length ≤ 40 := by
  have h := pn_len u 5 (by omega)
  have hm : (midT u).length ≤ 1 ∨ (midT u).length = (posT u 5).length := by
    unfold midT
    split <;> simp
  unfold txt
  cases uokU u
  · simp
  · simp only [cond_true]; omega
def hdOk (l : List UInt8) : Prop := ∃ c t, l = c :: t ∧ c ∈ ([49, 109, 107, 115, 65, 75] : List UInt8)
theorem hd_app {l : List UInt8} (h : hdOk l) (m : List UInt8) : hdOk (l ++ m) := by
  obtain ⟨c, t, rfl, hc⟩ := h
  exact ⟨c, t ++ m, rfl, hc⟩
theorem hd_sy : ∀ i, i < 5 → hdOk (sy i) :=
  five (Q := fun i => hdOk (sy i)) ⟨_, _, rfl, by decide⟩ ⟨_, _, rfl, by decide⟩ ⟨_, _, rfl, by decide⟩ ⟨_, _, rfl, by decide⟩ ⟨_, _, rfl, by decide⟩
theorem hd_pos (u : Un) : ∀ i, i ≤ 5 → posT u i = [] ∨ hdOk (posT u i)
  | 0, _ => .inl rfl
  | i + 1, h => by
    have ih := hd_pos u i (by omega)
    unfold posT
    split
    · right
      split
      · exact hd_app (hd_sy i (by omega)) _
      · rename_i hn
        exact hd_app (hd_app (ih.resolve_left hn) _) _
    · exact ih
theorem hd_neg (u : Un) : ∀ i, hdOk (negT u i)
  | 0 => by
    unfold negT midT
    split
    · exact ⟨49, [], rfl, by decide⟩
    · rename_i h
      exact (hd_pos u 5 (by omega)).resolve_left h
  | i + 1 => by
    have ih := hd_neg u i
    unfold negT
    split
    · exact hd_app (hd_app ih _) _
    · exact ih
theorem txt_hd {u : Un} (hu : uokU u = true) : hdOk (txt u) := by
  rw [txt, hu]
  exact hd_neg u 5
theorem named_mem (l : List UInt8) : ∀ T, (namedF l T).2 = true → ∃ d ∈ T, d.1 = l ∧ d.2 = (namedF l T).1
  | [], h => by cases h
  | d :: T, h => by
    unfold namedF at h ⊢
    cases hd : (d.1 == l) with
    | true => exact ⟨d, by simp, by simpa using hd, rfl⟩
    | false =>
      rw [hd] at h
      obtain ⟨e, he, h1, h2⟩ := named_mem l T h
      exact ⟨e, by simp [he], h1, h2⟩
theorem txt_named {u : Un} (hu : uokU u = true) : (nmd (txt u)).2 = false := by
  cases h : (nmd (txt u)).2 with
  | false => rfl
  | true =>
    exfalso
    obtain ⟨d, hd, h1, _⟩ := named_mem _ _ h
    obtain ⟨c, t, h2, hc⟩ := txt_hd hu
    have key : ∀ d ∈ derTab, ∀ c ∈ ([49, 109, 107, 115, 65, 75] : List UInt8), d.1.head? ≠ some c := by decide
    refine key d hd c hc ?_
    rw [h1, h2]; rfl
theorem named_ok {l : List UInt8} (h : (nmd l).2 = true) : uokU (nmd l).1 = true := by
  obtain ⟨d, hd, _, h2⟩ := named_mem _ _ h
  have key : ∀ d ∈ derTab, uokU d.2 = true := by decide
  have := key d hd
  rw [h2] at this
  exact this
theorem prs_txt {u : Un} (hu : uokU u = true) : prs (txt u) = (u, 0) := by
  have h1 := txt_len u
  have h2 := txt_named hu
  unfold prs
  rw [if_neg (by omega), if_neg (by rw [h2]; decide), parse_txt hu]
  simp
theorem prs_cases (l : List UInt8) (hl : l.length ≤ 40) : ((nmd l).2 = true ∧ prs l = ((nmd l).1, 0)) ∨ ((nmd l).2 = false ∧ (prs l = (u0, 3) ∨ ((prs l).2 = 0 ∧ uokU (prs l).1 = true ∧ txt (prs l).1 = l))) := by
  unfold prs
  rw [if_neg (by omega)]
  cases h : (nmd l).2 with
  | true => left; exact ⟨rfl, by simp⟩
  | false =>
    right
    refine ⟨rfl, ?_⟩
    rw [if_neg (by decide)]
    cases hq : parseQ l with
    | none => exact .inl rfl
    | some u =>
      by_cases he : txt u = l
      · right; simp only [he, if_true]; exact ⟨trivial, parseQ_ok hq, trivial⟩
      · left; simp only [he, if_false]
end Go.Proofs.YtoioclmfjmgaaaaDoor.Fx
