/- Plain laws: what the order and the loop that check.Order answers have to do with the laws CheckBehind and CheckLoops. -/
import Derived.Test.YtkciabfilokfiaaGreatQZ
namespace Go.Proofs.YtkciabfilokfiaaGreat.Fx
set_option linter.unusedVariables false
theorem idxS_get (s : Str) : ∀ (l : List Str) (k i : Nat), idxS s l k = some i → ∃ j, i = k + j ∧ l[j]? = some s
  | [], _, _, h => by cases h
  | x :: l, k, i, h => by
    unfold idxS at h
    split at h
    · rename_i hx
      cases h
      exact ⟨0, rfl, by simp [hx]⟩
    · obtain ⟨j, rfl, hj⟩ := idxS_get s l (k + 1) i h
      exact ⟨j + 1, by omega, by simpa using hj⟩
theorem nodup_of_dupF : ∀ (l seen : List Str), dupF seen l = none → l.Nodup ∧ ∀ x ∈ l, x ∉ seen
  | [], seen, _ => ⟨List.nodup_nil, by simp⟩
  | s :: r, seen, h => by
    unfold dupF at h
    cases hc : seen.contains s with
    | true => rw [hc] at h; cases h
    | false =>
      rw [hc, cond_false] at h
      obtain ⟨h1, h2⟩ := nodup_of_dupF r (s :: seen) h
      have hs : s ∉ seen := fun hm => by rw [List.contains_iff_mem.2 hm] at hc; cases hc
      refine ⟨List.nodup_cons.2 ⟨fun hm => h2 s hm (by simp), h1⟩, fun x hx => ?_⟩
      rcases List.mem_cons.1 hx with rfl | hx
      · exact hs
      · exact fun hm => h2 x hx (List.mem_cons_of_mem _ hm)
/-- Names stand once, arguments are names. -/
structure GrOk (d : Dg) : Prop where
  nd : (sigs d).Nodup
  ar : ∀ b ∈ d.bls, ∀ s ∈ b.ins, ∃ k, idxS s (sigs d) 0 = some k ∧ (sigs d)[k]? = some s
theorem GrOk.of {d : Dg} (h1 : dupF [] (sigs d) = none) (h2 : fstA d d.bls = none) : GrOk d := by
  refine ⟨(nodup_of_dupF _ _ h1).1, fun b hb s hs => ?_⟩
  unfold fstA at h2
  rw [List.findSome?_eq_none_iff] at h2
  have h3 := h2 b hb
  unfold argQ at h3
  rw [List.find?_eq_none] at h3
  have h4 := h3 s hs
  unfold sgB at h4
  cases hi : idxS s (sigs d) 0 with
  | none => rw [hi] at h4; simp at h4
  | some k =>
    obtain ⟨j, hj, hg⟩ := idxS_get s _ 0 k hi
    have : j = k := by omega
    subst this
    exact ⟨j, rfl, hg⟩
theorem sig_bl {d : Dg} {k : Nat} : (sigs d)[d.ins.length + k]? = (d.bls[k]?).map (·.nm) := by
  unfold sigs
  rw [List.getElem?_append_right (by simp)]
  simp
theorem bef_mp {d : Dg} (g : GrOk d) {i k : Nat} (h : k ∈ befB d i) : ∃ b, d.bls[i]? = some b ∧ b.kd ≠ delS ∧ ∃ c, d.bls[k]? = some c ∧ c.nm ∈ b.ins := by
  unfold befB at h
  cases hb : d.bls[i]? with
  | none => rw [hb] at h; cases h
  | some b =>
    rw [hb] at h
    simp only at h
    unfold need at h
    split at h
    · cases h
    · rename_i hk
      refine ⟨b, rfl, fun hh => hk (by rw [hh]; rfl), ?_⟩
      obtain ⟨s, hs, hks⟩ := List.mem_flatMap.1 h
      obtain ⟨j, hj, hg⟩ := g.ar b (List.mem_of_getElem? hb) s hs
      unfold nee1 at hks
      have hsg : sgN (sigs d) s = j := by unfold sgN; rw [hj]; rfl
      rw [hsg] at hks
      split at hks
      · rename_i hn
        have hk : k = j - d.ins.length := by simpa using hks
        have : j = d.ins.length + k := by omega
        rw [this, sig_bl] at hg
        cases hc : d.bls[k]? with
        | none => rw [hc] at hg; cases hg
        | some c =>
          rw [hc] at hg
          have : c.nm = s := by simpa using hg
          exact ⟨c, rfl, this ▸ hs⟩
      · cases hks
theorem bef_mpr {d : Dg} (g : GrOk d) {i k : Nat} {b c : Bl} (hb : d.bls[i]? = some b) (hd : b.kd ≠ delS) (hc : d.bls[k]? = some c) (hm : c.nm ∈ b.ins) : k ∈ befB d i := by
  unfold befB
  rw [hb]
  simp only
  unfold need
  rw [if_neg (by simpa using hd)]
  refine List.mem_flatMap.2 ⟨c.nm, hm, ?_⟩
  obtain ⟨j, hj, hg⟩ := g.ar b (List.mem_of_getElem? hb) c.nm hm
  have h2 : (sigs d)[d.ins.length + k]? = some c.nm := by rw [sig_bl, hc]; rfl
  have hlt : j < (sigs d).length := (List.getElem?_eq_some_iff.1 hg).1
  have he : j = d.ins.length + k := (List.getElem?_inj hlt g.nd).1 (hg.trans h2.symm)
  have hsg : sgN (sigs d) c.nm = j := by unfold sgN; rw [hj]; rfl
  unfold nee1
  rw [hsg, if_pos (by omega)]
  simp; omega
theorem bef_lt {d : Dg} (g : GrOk d) : ∀ i, i < d.bls.length → ∀ k ∈ befB d i, k < d.bls.length := fun i _ k hk => by
  obtain ⟨_, _, _, c, hc, _⟩ := bef_mp g hk
  exact (List.getElem?_eq_some_iff.1 hc).1
theorem nm_inj {d : Dg} (g : GrOk d) {i j : Nat} {b c : Bl} (hb : d.bls[i]? = some b) (hc : d.bls[j]? = some c) (h : b.nm = c.nm) : i = j := by
  have h1 : (sigs d)[d.ins.length + i]? = some b.nm := by rw [sig_bl, hb]; rfl
  have h2 : (sigs d)[d.ins.length + j]? = some c.nm := by rw [sig_bl, hc]; rfl
  have := (List.getElem?_inj (List.getElem?_eq_some_iff.1 h1).1 g.nd).1 (h1.trans ((congrArg some h).trans h2.symm))
  omega
def insG (st : Str) : List Str → List Str × List Str → Option (List Str × List Str)
  | [], q => some q
  | x :: r, q => bif x == st then none else bif q.1.contains x then insG st r q else insG st r (x :: q.1, q.2 ++ [x])
def blsG (st s : Str) : List Bl → List Str × List Str → Option (List Str × List Str)
  | [], q => some q
  | b :: r, q => bif (bif !(b.nm == s) then true else b.kd == delS) then blsG st s r q else match insG st b.ins q with
    | none => none
    | some q' => blsG st s r q'
def bfsG (bs : List Bl) (st : Str) : Nat → List Str × List Str → Bool
  | 0, _ => false
  | f + 1, q => match q.2 with
    | [] => false
    | s :: nx => match blsG st s bs (q.1, nx) with
      | none => true
      | some q' => bfsG bs st f q'
def alnS (bs : List Bl) : List Str := bs.flatMap (·.ins)
def unS (U seen : List Str) : Nat := (U.filter fun x => !seen.contains x).length
theorem unS_cons {U seen : List Str} {x : Str} (hx : x ∈ U) (hn : seen.contains x = false) : unS U (x :: seen) + 1 ≤ unS U seen := by
  unfold unS
  induction U with
  | nil => cases hx
  | cons y U ih =>
    have mono : (U.filter fun z => !(x :: seen).contains z).length ≤ (U.filter fun z => !seen.contains z).length := by
      clear ih hx
      induction U with
      | nil => exact Nat.le_refl _
      | cons z U ih =>
        simp only [List.filter_cons]
        cases h1 : seen.contains z with
        | true =>
          have h2 : (x :: seen).contains z = true := by rw [List.contains_iff_mem] at h1 ⊢; exact List.mem_cons_of_mem _ h1
          simp only [h2, Bool.not_true, Bool.false_eq_true, if_false]
          exact ih
        | false =>
          cases h2 : (x :: seen).contains z with
          | true => simp only [Bool.not_true, Bool.not_false, Bool.false_eq_true, if_false, if_true, List.length_cons]; omega
          | false => simp only [Bool.not_false, if_true, List.length_cons]; omega
    by_cases hxy : y = x
    · subst hxy
      have : (y :: seen).contains y = true := by simp
      simp only [List.filter_cons, this, hn, Bool.not_true, Bool.not_false, Bool.false_eq_true, if_false, if_true, List.length_cons]; omega
    · have hx : x ∈ U := by
        rcases List.mem_cons.1 hx with rfl | hx
        · exact absurd rfl hxy
        · exact hx
      have ih := ih hx
      simp only [List.filter_cons]
      have : (x :: seen).contains y = seen.contains y := by
        rw [Bool.eq_iff_iff, List.contains_iff_mem, List.contains_iff_mem, List.mem_cons]
        exact ⟨fun h => h.resolve_left hxy, .inr⟩
      rw [this]
      cases seen.contains y
      · simp only [Bool.not_false, if_true, List.length_cons]; omega
      · simp only [Bool.not_true, Bool.false_eq_true, if_false]; exact ih
/-- What a search has after a step: all of l is seen, what is new comes next, and the measure does not grow. -/
structure Stp1 (U : List Str) (st : Str) (l : List Str) (q q' : List Str × List Str) : Prop where
  ne : ∀ x ∈ l, x ≠ st
  al : ∀ x ∈ l, x ∈ q'.1
  s1 : ∀ x ∈ q.1, x ∈ q'.1
  s2 : ∀ x ∈ q.2, x ∈ q'.2
  n1 : ∀ x ∈ q'.1, x ∈ q.1 ∨ x ∈ q'.2
  n2 : ∀ x ∈ q'.2, x ∈ q.2 ∨ x ∈ l
  me : q'.2.length + unS U q'.1 ≤ q.2.length + unS U q.1
theorem Stp1.app {U : List Str} {st : Str} {l l' : List Str} {q q' q'' : List Str × List Str} (h : Stp1 U st l q q') (k : Stp1 U st l' q' q'') : Stp1 U st (l ++ l') q q'' :=
  ⟨fun x hx => (List.mem_append.1 hx).elim (h.ne x) (k.ne x), fun x hx => (List.mem_append.1 hx).elim (fun hx => k.s1 x (h.al x hx)) (k.al x), fun x hx => k.s1 x (h.s1 x hx), fun x hx => k.s2 x (h.s2 x hx),
    fun x hx => (k.n1 x hx).elim (fun hx => (h.n1 x hx).imp id (k.s2 x)) .inr,
    fun x hx => (k.n2 x hx).elim (fun hx => (h.n2 x hx).imp id fun h => List.mem_append.2 (.inl h)) fun h => .inr (List.mem_append.2 (.inr h)), Nat.le_trans k.me h.me⟩
theorem insG_some {U : List Str} {st : Str} : ∀ (l : List Str) (q q' : List Str × List Str), (∀ x ∈ l, x ∈ U) → insG st l q = some q' → Stp1 U st l q q'
  | [], q, q', _, h => by
    cases h
    exact ⟨by simp, by simp, fun _ h => h, fun _ h => h, fun _ h => .inl h, fun _ h => .inl h, Nat.le_refl _⟩
  | x :: r, q, q', hU, h => by
    unfold insG at h
    cases h1 : x == st with
    | true => rw [h1] at h; cases h
    | false =>
      rw [h1, cond_false] at h
      have hne : x ≠ st := by simpa using h1
      have hr : ∀ y ∈ r, y ∈ U := fun y hy => hU y (List.mem_cons_of_mem _ hy)
      cases h2 : q.1.contains x with
      | true =>
        rw [h2, cond_true] at h
        have k := insG_some r q q' hr h
        have hm := List.contains_iff_mem.1 h2
        exact Stp1.app (l := [x]) ⟨by simpa using hne, by simpa using hm, fun _ h => h, fun _ h => h, fun _ h => .inl h, fun _ h => .inl h, Nat.le_refl _⟩ k
      | false =>
        rw [h2, cond_false] at h
        have k := insG_some r _ q' hr h
        have hu := unS_cons (hU x (by simp)) h2
        refine Stp1.app (l := [x]) (q' := (x :: q.1, q.2 ++ [x])) ⟨by simpa using hne, by simp, fun y h => List.mem_cons_of_mem _ h, fun y h => List.mem_append.2 (.inl h), fun y h => ?_, fun y h => ?_, by simp only [List.length_append, List.length_cons, List.length_nil]; omega⟩ k
        · rcases List.mem_cons.1 h with rfl | h
          · exact .inr (by simp)
          · exact .inl h
        · exact (List.mem_append.1 h).imp id id
theorem insG_none {st : Str} : ∀ (l : List Str) (q : List Str × List Str), insG st l q = none → st ∈ l
  | [], q, h => by cases h
  | x :: r, q, h => by
    unfold insG at h
    cases h1 : x == st with
    | true => have : x = st := by simpa using h1
              simp [this]
    | false =>
      rw [h1, cond_false] at h
      cases h2 : q.1.contains x with
      | true => rw [h2, cond_true] at h; exact List.mem_cons_of_mem _ (insG_none r _ h)
      | false => rw [h2, cond_false] at h; exact List.mem_cons_of_mem _ (insG_none r _ h)
def outS (bs : List Bl) (s : Str) : List Str := bs.flatMap fun b => bif (bif !(b.nm == s) then true else b.kd == delS) then [] else b.ins
theorem outS_mem {bs : List Bl} {s x : Str} : x ∈ outS bs s ↔ ∃ b ∈ bs, b.nm = s ∧ b.kd ≠ delS ∧ x ∈ b.ins := by
  unfold outS
  rw [List.mem_flatMap]
  constructor
  · rintro ⟨b, hb, hx⟩
    cases h1 : b.nm == s with
    | false => rw [h1] at hx; cases hx
    | true =>
      cases h2 : b.kd == delS with
      | true => rw [h1, h2] at hx; cases hx
      | false => rw [h1, h2] at hx; exact ⟨b, hb, by simpa using h1, by simpa using h2, hx⟩
  · rintro ⟨b, hb, h1, h2, hx⟩
    refine ⟨b, hb, ?_⟩
    have e1 : (b.nm == s) = true := by simpa using h1
    have e2 : (b.kd == delS) = false := by simpa using h2
    rw [e1, e2]; exact hx
theorem blsG_some {U : List Str} {st s : Str} : ∀ (bs : List Bl) (q q' : List Str × List Str), (∀ x ∈ alnS bs, x ∈ U) → blsG st s bs q = some q' → Stp1 U st (outS bs s) q q'
  | [], q, q', _, h => insG_some [] q q' (by simp) h
  | b :: r, q, q', hU, h => by
    unfold blsG at h
    have hr : ∀ y ∈ alnS r, y ∈ U := fun y hy => hU y (by unfold alnS at *; simp only [List.flatMap_cons, List.mem_append]; exact .inr hy)
    have hb : ∀ y ∈ b.ins, y ∈ U := fun y hy => hU y (by unfold alnS at *; simp only [List.flatMap_cons, List.mem_append]; exact .inl hy)
    have e : outS (b :: r) s = (bif (bif !(b.nm == s) then true else b.kd == delS) then [] else b.ins) ++ outS r s := by unfold outS; rw [List.flatMap_cons]
    rw [e]
    cases hc : (bif !(b.nm == s) then true else b.kd == delS) with
    | true =>
      rw [hc, cond_true] at h
      exact blsG_some r q q' hr h
    | false =>
      rw [hc, cond_false] at h
      cases hi : insG st b.ins q with
      | none => rw [hi] at h; cases h
      | some q1 =>
        rw [hi] at h
        exact (insG_some _ _ _ hb hi).app (blsG_some r q1 q' hr h)
theorem blsG_none {st s : Str} : ∀ (bs : List Bl) (q : List Str × List Str), blsG st s bs q = none → st ∈ outS bs s
  | [], q, h => by cases h
  | b :: r, q, h => by
    unfold blsG at h
    have e : outS (b :: r) s = (bif (bif !(b.nm == s) then true else b.kd == delS) then [] else b.ins) ++ outS r s := by unfold outS; rw [List.flatMap_cons]
    rw [e]
    cases hc : (bif !(b.nm == s) then true else b.kd == delS) with
    | true =>
      rw [hc, cond_true] at h
      exact blsG_none r q h
    | false =>
      rw [hc, cond_false] at h
      cases hi : insG st b.ins q with
      | none => exact List.mem_append.2 (.inl (insG_none _ _ hi))
      | some q1 => rw [hi] at h; exact List.mem_append.2 (.inr (blsG_none r q1 h))
inductive Wy (bs : List Bl) : Str → Str → Prop
  | one {s x : Str} : x ∈ outS bs s → Wy bs s x
  | more {s x t : Str} : x ∈ outS bs s → Wy bs x t → Wy bs s t
theorem bfsG_way {bs : List Bl} {st : Str} : ∀ (f : Nat) (q : List Str × List Str), bfsG bs st f q = true → ∃ t ∈ q.2, Wy bs t st
  | 0, q, h => by cases h
  | f + 1, (seen, next), h => by
    unfold bfsG at h
    cases next with
    | nil => cases h
    | cons s nx =>
      simp only at h
      cases hb : blsG st s bs (seen, nx) with
      | none => exact ⟨s, by simp, .one (blsG_none _ _ hb)⟩
      | some q' =>
        rw [hb] at h
        obtain ⟨t, ht, hw⟩ := bfsG_way f q' h
        have k := blsG_some (U := alnS bs) _ _ _ (fun _ h => h) hb
        rcases k.n2 t ht with h1 | h1
        · exact ⟨t, List.mem_cons_of_mem _ h1, hw⟩
        · exact ⟨s, by simp, .more h1 hw⟩
theorem bfsG_no {bs : List Bl} {st : Str} : ∀ (f : Nat) (q : List Str × List Str), q.2.length + unS (alnS bs) q.1 < f → (∀ s, s ∈ q.1 ∨ s = st → s ∈ q.2 ∨ ∀ x ∈ outS bs s, x ≠ st ∧ x ∈ q.1) → bfsG bs st f q = false → ¬ Wy bs st st
  | 0, q, hf, _, _ => by omega
  | f + 1, (seen, next), hf, hI, h => by
    unfold bfsG at h
    cases next with
    | nil =>
      intro hw
      have key : ∀ s t, Wy bs s t → t = st → (s ∈ seen ∨ s = st) → False := by
        intro s t hst
        induction hst with
        | one hx =>
          intro ht hs
          have := (hI _ hs).resolve_left (by simp) _ hx
          exact this.1 ht
        | more hx _ ih =>
          intro ht hs
          have := (hI _ hs).resolve_left (by simp) _ hx
          exact ih ht (.inl this.2)
      exact key _ _ hw rfl (.inr rfl)
    | cons s nx =>
      simp only at h
      cases hb : blsG st s bs (seen, nx) with
      | none => rw [hb] at h; cases h
      | some q' =>
        rw [hb] at h
        have k := blsG_some (U := alnS bs) _ _ _ (fun _ h => h) hb
        refine bfsG_no f q' (by have := k.me; simp only [List.length_cons] at hf this; omega) (fun t ht => ?_) h
        by_cases hts : t = s
        · subst hts
          exact .inr fun x hx => ⟨k.ne x hx, k.al x hx⟩
        · have ht : t ∈ seen ∨ t ∈ q'.2 ∨ t = st := by
            rcases ht with ht | ht
            · exact (k.n1 t ht).imp id .inl
            · exact .inr (.inr ht)
          rcases ht with ht | ht | ht
          · rcases hI t (.inl ht) with h1 | h1
            · rcases List.mem_cons.1 h1 with h1 | h1
              · exact absurd h1 hts
              · exact .inl (k.s2 t h1)
            · exact .inr fun x hx => ⟨(h1 x hx).1, k.s1 x (h1 x hx).2⟩
          · exact .inl ht
          · rcases hI t (.inr ht) with h1 | h1
            · rcases List.mem_cons.1 h1 with h1 | h1
              · exact absurd h1 hts
              · exact .inl (k.s2 t h1)
            · exact .inr fun x hx => ⟨(h1 x hx).1, k.s1 x (h1 x hx).2⟩
def bckF (bs : List Bl) : Nat := (alnS bs).length + 2
def bckB (bs : List Bl) (st : Str) : Bool := bfsG bs st (bckF bs) ([], [st])
theorem bckB_iff {bs : List Bl} {st : Str} : bckB bs st = true ↔ Wy bs st st := by
  constructor
  · intro h
    obtain ⟨t, ht, hw⟩ := bfsG_way _ _ h
    have : t = st := by simpa using ht
    exact this ▸ hw
  · intro hw
    cases h : bckB bs st with
    | true => rfl
    | false =>
      refine absurd hw (bfsG_no _ _ ?_ (fun s hs => .inl ?_) h)
      · have : unS (alnS bs) [] ≤ (alnS bs).length := List.length_filter_le _ _
        simp only [List.length_cons, List.length_nil]; unfold bckF; omega
      · rcases hs with hs | rfl
        · cases hs
        · simp
theorem wy_way {d : Dg} (g : GrOk d) {s t : Str} (h : Wy d.bls s t) : ∀ i j b c, d.bls[i]? = some b → b.nm = s → d.bls[j]? = some c → c.nm = t → Way (befB d) i j := by
  induction h with
  | @one s x hx =>
    rintro i j b c hb rfl hc rfl
    obtain ⟨b', hb', hn, hk, hm⟩ := outS_mem.1 hx
    obtain ⟨i', hi'⟩ := List.getElem?_of_mem hb'
    have := nm_inj g hi' hb hn
    subst this
    rw [hb] at hi'
    cases hi'
    exact .one (bef_mpr g hb hk hc hm)
  | @more s x t hx hw ih =>
    rintro i j b c hb rfl hc rfl
    obtain ⟨b', hb', hn, hk, hm⟩ := outS_mem.1 hx
    obtain ⟨i', hi'⟩ := List.getElem?_of_mem hb'
    have := nm_inj g hi' hb hn
    subst this
    rw [hb] at hi'
    cases hi'
    have hxb : ∃ b2 ∈ d.bls, b2.nm = x := by
      cases hw with
      | one h2 => obtain ⟨b2, h3, h4, _⟩ := outS_mem.1 h2; exact ⟨b2, h3, h4⟩
      | more h2 _ => obtain ⟨b2, h3, h4, _⟩ := outS_mem.1 h2; exact ⟨b2, h3, h4⟩
    obtain ⟨b2, h3, h4⟩ := hxb
    obtain ⟨k, hk2⟩ := List.getElem?_of_mem h3
    exact .more (bef_mpr g hb hk hk2 (h4 ▸ hm)) (ih k j b2 c hk2 h4 hc rfl)
theorem way_wy {d : Dg} (g : GrOk d) {i j : Nat} (h : Way (befB d) i j) : ∀ b c, d.bls[i]? = some b → d.bls[j]? = some c → Wy d.bls b.nm c.nm := by
  induction h with
  | @one i k hk =>
    intro b c hb hc
    obtain ⟨b', hb', hd, c', hc', hm⟩ := bef_mp g hk
    rw [hb] at hb'; cases hb'
    rw [hc] at hc'; cases hc'
    exact .one (outS_mem.2 ⟨b, List.mem_of_getElem? hb, rfl, hd, hm⟩)
  | @more i k j hk _ ih =>
    intro b c hb hc
    obtain ⟨b', hb', hd, c', hc', hm⟩ := bef_mp g hk
    rw [hb] at hb'; cases hb'
    exact .more (outS_mem.2 ⟨b, List.mem_of_getElem? hb, rfl, hd, hm⟩) (ih c' c hc' hc)
/-- What the law CheckLoops answers. -/
def lopB (d : Dg) : Bool := bif (bif !(decide ((orderQ d).2.2 = 0)) then !(decide ((orderQ d).2.2 = 13)) else false) then true else
  match d.bls.find? (fun b => bckB d.bls b.nm) with
  | some b => bif decide ((orderQ d).2.2 = 13) then (orderQ d).2.1 == b.nm else false
  | none => decide ((orderQ d).2.2 = 0)
theorem find_range {α : Type} (p : α → Bool) (q : Nat → Bool) : ∀ (l : List α) (m : Nat), (∀ i b, l[i]? = some b → q (m + i) = p b) → l.find? p = ((List.range' m l.length).find? q).bind fun i => l[i - m]?
  | [], m, h => by simp
  | b :: l, m, h => by
    have h0 := h 0 b rfl
    rw [List.length_cons, List.range'_succ, List.find?_cons, List.find?_cons]
    rw [Nat.add_zero] at h0
    rw [h0]
    cases hp : p b with
    | true => simp
    | false =>
      simp only
      rw [find_range p q l (m + 1) (fun i c hi => by have := h (i + 1) c (by simpa using hi); rw [← this]; congr 1; omega)]
      cases hf : (List.range' (m + 1) l.length).find? q with
      | none => rfl
      | some i =>
        have := List.mem_of_find?_eq_some hf
        rw [List.mem_range'_1] at this
        simp only [Option.bind_some]
        have e : i - m = (i - (m + 1)) + 1 := by omega
        rw [e, List.getElem?_cons_succ]
theorem lopB_ok (d : Dg) : lopB d = true := by
  unfold lopB
  unfold orderQ
  cases hv : !dgOk d with
  | true => rfl
  | false =>
  rw [cond_false]
  cases hdup : dupF [] (sigs d) with
  | some s => rfl
  | none =>
  cases hf : fstA d d.bls with
  | some s => rfl
  | none =>
    have g := GrOk.of hdup hf
    have hB := bef_lt g
    have key : d.bls.find? (fun b => bckB d.bls b.nm) = (lopR (befB d) d.bls.length).bind fun i => d.bls[i]? := by
      rw [lopR_find hB, find_range (fun b => bckB d.bls b.nm) (lps (befB d) d.bls.length) d.bls 0 (fun i b hb => ?_)]
      · rw [List.range_eq_range']
        congr 1
      · rw [Nat.zero_add, Bool.eq_iff_iff, bckB_iff, lps_iff hB (List.getElem?_eq_some_iff.1 hb).1]
        exact ⟨fun h => way_wy g h b b hb hb, fun h => wy_way g h i i b b hb rfl hb rfl⟩
    rw [key]
    unfold lopN
    cases hl : lopR (befB d) d.bls.length with
    | none => rfl
    | some i =>
      have hi : i < d.bls.length := by
        rw [lopR_find hB] at hl
        have := List.mem_of_find?_eq_some hl
        simpa using this
      have hb : d.bls[i]? = some d.bls[i] := List.getElem?_eq_getElem hi
      simp only [Option.map_some, Option.bind_some, hb]
      simp
end Go.Proofs.YtkciabfilokfiaaGreat.Fx
