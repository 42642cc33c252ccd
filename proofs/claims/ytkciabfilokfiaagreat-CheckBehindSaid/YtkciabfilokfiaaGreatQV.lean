/- The laws' own helpers: great, example. Plain laws: what the order and the loop that check.Order answers have to do with the laws CheckBehind and CheckLoops. -/
import Derived.Test.YtkciabfilokfiaaGreatQY
namespace Go.Proofs.YtkciabfilokfiaaGreat.Fx
open Vg Tf
set_option linter.unusedSimpArgs false
set_option linter.unusedVariables false
set_option maxRecDepth 100000
set_option maxHeartbeats 4000000
def g1B (c : Cu) : Bool := decide (12 < max (c.xs.length : Int) (c.ys.length : Int))
def g2B (m : Mp) : Bool := decide (12 < max (max (m.xs.length : Int) (m.ys.length : Int)) (m.zs.length : Int))
def g0B (d : Dg) : Bool := bif bif bif decide (30 < (d.bls.length : Int)) then decide ((d.bls.length : Int) ≤ 200) else false then true else decide (210 < (d.bls.length : Int)) then true
  else decide (40 < max (max (max (max (d.tys.length : Int) (d.cus.length : Int)) (d.mas.length : Int)) (d.ins.length : Int)) (d.ous.length : Int))
def greatB (d : Dg) : Bool := bif g0B d then true else bif d.cus.any g1B then true else d.mas.any g2B
theorem great1 (c : CuL) : CallOk Tryz.prog 40 [rowV (CuL.r c)] [] (Bo (g1B c.c)) [] := by
  refine CallOk.mkN 100 Tryz.func40 rfl en40 (by simp [Tryz.ntmps40]) (ClA.of rfl) rfl rfl fun C hR hP => ?_
  refine vv ?_
  exact RetQ.bool hR rfl scc rfl
theorem great2 (c : MpL) : CallOk Tryz.prog 41 [rowV (MpL.r c)] [] (Bo (g2B c.c)) [] := by
  refine CallOk.mkN 100 Tryz.func41 rfl en41 (by simp [Tryz.ntmps41]) (ClA.of rfl) rfl rfl fun C hR hP => ?_
  refine vv ?_
  refine RetQ.bool hR rfl scc ?_
  unfold g2B MpL.c
  simp only [List.length_map]
theorem great_ {H : Hp} (d : DgL) (hd : d.ok H) (hs : d.sm) : CallH H Tryz.prog 12 [rowV d.r] (Bo (greatB d.c)) := by
  refine CallH.mkS Tryz.func12 rfl en12 (by simp [Tryz.ntmps12]) (ClA.of rfl) fun C hR hP hH hL => ?_
  refine Sm.go 100 ?_
  refine vv ?_
  have e1 : (d.bls.length : Int) = (d.c.bls.length : Int) := by simp [DgL.c]
  have e2 : (d.cus.length : Int) = (d.c.cus.length : Int) := by simp [DgL.c]
  have e3 : (d.mas.length : Int) = (d.c.mas.length : Int) := by simp [DgL.c]
  have ec : d.cus.any (fun c => g1B c.c) = d.c.cus.any g1B := by
    show _ = (d.cus.map CuL.c).any g1B
    rw [List.any_map]; rfl
  have em : d.mas.any (fun c => g2B c.c) = d.c.mas.any g2B := by
    show _ = (d.mas.map MpL.c).any g2B
    rw [List.any_map]; rfl
  refine mtch (fun h0 => ?_) (fun h0 => ?_)
  · rw [e1, e2, e3] at h0
    have h0 : g0B d.c = true := h0
    refine RetQ.bool (hR C hL) rfl scc ?_
    unfold greatB; rw [h0]; rfl
  · rw [e1, e2, e3] at h0
    have h0 : g0B d.c = false := h0
    refine CallQ.h 110 (cofCu d.cu d.cus hd.cu hs.cus.1 40 #[] (fun c => g1B c.c) (fun c _ => (great1 c).toH)) hH rfl ?_
    refine vv ?_
    refine CallQ.hg 110 (fun _ => cofMa d.ma d.mas hd.ma hs.mas.1 41 #[] (fun c => g2B c.c) (fun c _ => (great2 c).toH)) hH (fun h => by rw [h]; rfl) ?_
    refine vv ?_
    refine RetQ.bool (hR C hL) rfl scc ?_
    unfold greatB; rw [h0, ← ec, ← em, cond_false]
end Go.Proofs.YtkciabfilokfiaaGreat.Fx
namespace Go.Proofs.YtkciabfilokfiaaGreat.Fx
set_option linter.unusedVariables false
theorem idxS_get (s : Str) : ∀ (l : List Str) (k i : Nat), idxS s l k = some i → ∃ j, i = k + j ∧ l[j]? = some s
  | [], _, _, h => by cases h
  | x :: l, k, i, h => by
    unfold idxS at h
    split at h
    · rename_i hx
      cases h
      exact ⟨0, rfl, by simp [hx]⟩
    · obtain ⟨j, rfl, hj⟩ := idxS_get s l (k + 1) i h
      exact ⟨j + 1, by omega, by simpa using hj⟩
theorem nodup_of_dupF : ∀ (l seen : List Str), dupF seen l = none → l.Nodup ∧ ∀ x ∈ l, x ∉ seen
  | [], seen, _ => ⟨List.nodup_nil, by simp⟩
  | s :: r, seen, h => by
    unfold dupF at h
    cases hc : seen.contains s with
    | true => rw [hc] at h; cases h
    | false =>
      rw [hc, cond_false] at h
      obtain ⟨h1, h2⟩ := nodup_of_dupF r (s :: seen) h
      have hs : s ∉ seen := fun hm => by rw [List.contains_iff_mem.2 hm] at hc; cases hc
      refine ⟨List.nodup_cons.2 ⟨fun hm => h2 s hm (by simp), h1⟩, fun x hx => ?_⟩
      rcases List.mem_cons.1 hx with rfl | hx
      · exact hs
      · exact fun hm => h2 x hx (List.mem_cons_of_mem _ hm)
/-- Names stand once, arguments are names. -/
structure GrOk (d : Dg) : Prop where
  nd : (sigs d).Nodup
  ar : ∀ b ∈ d.bls, ∀ s ∈ b.ins, ∃ k, idxS s (sigs d) 0 = some k ∧ (sigs d)[k]? = some s
theorem GrOk.of {d : Dg} (h1 : dupF [] (sigs d) = none) (h2 : fstA d d.bls = none) : GrOk d := by
  refine ⟨(nodup_of_dupF _ _ h1).1, fun b hb s hs => ?_⟩
  unfold fstA at h2
  rw [List.findSome?_eq_none_iff] at h2
  have h3 := h2 b hb
  unfold argQ at h3
  rw [List.find?_eq_none] at h3
  have h4 := h3 s hs
  unfold sgB at h4
  cases hi : idxS s (sigs d) 0 with
  | none => rw [hi] at h4; simp at h4
  | some k =>
    obtain ⟨j, hj, hg⟩ := idxS_get s _ 0 k hi
    have : j = k := by omega
    subst this
    exact ⟨j, rfl, hg⟩
theorem sig_bl {d : Dg} {k : Nat} : (sigs d)[d.ins.length + k]? = (d.bls[k]?).map (·.nm) := by
  unfold sigs
  rw [List.getElem?_append_right (by simp)]
  simp
theorem bef_mp {d : Dg} (g : GrOk d) {i k : Nat} (h : k ∈ befB d i) : ∃ b, d.bls[i]? = some b ∧ b.kd ≠ delS ∧ ∃ c, d.bls[k]? = some c ∧ c.nm ∈ b.ins := by
  unfold befB at h
  cases hb : d.bls[i]? with
  | none => rw [hb] at h; cases h
  | some b =>
    rw [hb] at h
    simp only at h
    unfold need at h
    split at h
    · cases h
    · rename_i hk
      refine ⟨b, rfl, fun hh => hk (by rw [hh]; rfl), ?_⟩
      obtain ⟨s, hs, hks⟩ := List.mem_flatMap.1 h
      obtain ⟨j, hj, hg⟩ := g.ar b (List.mem_of_getElem? hb) s hs
      unfold nee1 at hks
      have hsg : sgN (sigs d) s = j := by unfold sgN; rw [hj]; rfl
      rw [hsg] at hks
      split at hks
      · rename_i hn
        have hk : k = j - d.ins.length := by simpa using hks
        have : j = d.ins.length + k := by omega
        rw [this, sig_bl] at hg
        cases hc : d.bls[k]? with
        | none => rw [hc] at hg; cases hg
        | some c =>
          rw [hc] at hg
          have : c.nm = s := by simpa using hg
          exact ⟨c, rfl, this ▸ hs⟩
      · cases hks
theorem bef_mpr {d : Dg} (g : GrOk d) {i k : Nat} {b c : Bl} (hb : d.bls[i]? = some b) (hd : b.kd ≠ delS) (hc : d.bls[k]? = some c) (hm : c.nm ∈ b.ins) : k ∈ befB d i := by
  unfold befB
  rw [hb]
  simp only
  unfold need
  rw [if_neg (by simpa using hd)]
  refine List.mem_flatMap.2 ⟨c.nm, hm, ?_⟩
  obtain ⟨j, hj, hg⟩ := g.ar b (List.mem_of_getElem? hb) c.nm hm
  have h2 : (sigs d)[d.ins.length + k]? = some c.nm := by rw [sig_bl, hc]; rfl
  have hlt : j < (sigs d).length := (List.getElem?_eq_some_iff.1 hg).1
  have he : j = d.ins.length + k := (List.getElem?_inj hlt g.nd).1 (hg.trans h2.symm)
  have hsg : sgN (sigs d) c.nm = j := by unfold sgN; rw [hj]; rfl
  unfold nee1
  rw [hsg, if_pos (by omega)]
  simp; omega
theorem bef_lt {d : Dg} (g : GrOk d) : ∀ i, i < d.bls.length → ∀ k ∈ befB d i, k < d.bls.length := fun i _ k hk => by
  obtain ⟨_, _, _, c, hc, _⟩ := bef_mp g hk
  exact (List.getElem?_eq_some_iff.1 hc).1
def behG (d : Dg) : List Nat → List Str → Bool
  | [], _ => true
  | i :: l, done => match d.bls[i]? with
    | none => false
    | some b => bif done.contains b.nm then false else bif b.ins.all (fun s => bif !(b.kd == delS) then done.contains s else true) then behG d l (b.nm :: done) else false
def behB (d : Dg) : Bool :=
  bif decide ((orderQ d).2.2 = 0) then bif (orderQ d).2.1 == [] then bif decide ((orderQ d).1.length = d.bls.length) then behG d (orderQ d).1 (d.ins.map (·.nm)).reverse else false else false
  else decide ((orderQ d).1.length = 0)
theorem nm_inj {d : Dg} (g : GrOk d) {i j : Nat} {b c : Bl} (hb : d.bls[i]? = some b) (hc : d.bls[j]? = some c) (h : b.nm = c.nm) : i = j := by
  have h1 : (sigs d)[d.ins.length + i]? = some b.nm := by rw [sig_bl, hb]; rfl
  have h2 : (sigs d)[d.ins.length + j]? = some c.nm := by rw [sig_bl, hc]; rfl
  have := (List.getElem?_inj (List.getElem?_eq_some_iff.1 h1).1 g.nd).1 (h1.trans ((congrArg some h).trans h2.symm))
  omega
theorem behG_ok {d : Dg} (g : GrOk d) {l0 : List Nat} (ho : OrdOk (befB d) d.bls.length l0) : ∀ (l a : List Nat) (done : List Str), l0 = a ++ l → (∀ s, s ∈ done ↔ s ∈ d.ins.map (·.nm) ∨ ∃ j ∈ a, ∃ b, d.bls[j]? = some b ∧ b.nm = s) → behG d l done = true
  | [], _, _, _, _ => rfl
  | i :: l, a, done, hl, hd => by
    obtain ⟨h1, h2, h3⟩ := ho
    have hi : i < d.bls.length := h2 i (by rw [hl]; simp)
    have hb : d.bls[i]? = some d.bls[i] := List.getElem?_eq_getElem hi
    unfold behG
    rw [hb]
    generalize d.bls[i] = b at *
    simp only
    have hni : i ∉ a := fun hm => by
      rw [hl, List.nodup_append] at h1
      exact h1.2.2 i hm i (by simp) rfl
    have e1 : done.contains b.nm = false := by
      rw [Bool.eq_false_iff]
      intro hc
      rw [List.contains_iff_mem, hd] at hc
      rcases hc with hc | ⟨j, hj, c, hcj, hn⟩
      · obtain ⟨q, hq⟩ := List.getElem?_of_mem hc
        have hql := (List.getElem?_eq_some_iff.1 hq).1
        have e2 : (sigs d)[q]? = some b.nm := by unfold sigs; rw [List.getElem?_append_left hql, hq]
        have e3 : (sigs d)[d.ins.length + i]? = some b.nm := by rw [sig_bl, hb]; rfl
        have := (List.getElem?_inj (List.getElem?_eq_some_iff.1 e2).1 g.nd).1 (e2.trans e3.symm)
        rw [List.length_map] at hql
        omega
      · exact hni (nm_inj g hcj hb hn ▸ hj)
    rw [e1, cond_false]
    have e4 : b.ins.all (fun s => bif !(b.kd == delS) then done.contains s else true) = true := by
      rw [List.all_eq_true]
      intro s hs
      cases hk : b.kd == delS with
      | true => rfl
      | false =>
        have hk : b.kd ≠ delS := by simpa using hk
        show done.contains s = true
        rw [List.contains_iff_mem, hd]
        obtain ⟨k, hk1, hk2⟩ := g.ar b (List.mem_of_getElem? hb) s hs
        by_cases hlt : k < d.ins.length
        · refine .inl ?_
          unfold sigs at hk2
          rw [List.getElem?_append_left (by simpa using hlt)] at hk2
          exact List.mem_of_getElem? hk2
        · refine .inr ?_
          have hke : k = d.ins.length + (k - d.ins.length) := by omega
          rw [hke, sig_bl] at hk2
          cases hc : d.bls[k - d.ins.length]? with
          | none => rw [hc] at hk2; cases hk2
          | some c =>
            rw [hc] at hk2
            have hn : c.nm = s := by simpa using hk2
            exact ⟨_, h3 a i l hl _ (bef_mpr g hb hk hc (hn ▸ hs)), c, hc, hn⟩
    rw [e4, cond_true]
    refine behG_ok g ⟨h1, h2, h3⟩ l (a ++ [i]) (b.nm :: done) (by rw [hl]; simp) (fun s => ?_)
    rw [List.mem_cons, hd]
    constructor
    · rintro (rfl | h | ⟨j, hj, h⟩)
      · exact .inr ⟨i, by simp, b, hb, rfl⟩
      · exact .inl h
      · exact .inr ⟨j, by simp [hj], h⟩
    · rintro (h | ⟨j, hj, c, hcj, h⟩)
      · exact .inr (.inl h)
      · rcases List.mem_append.1 hj with hj | hj
        · exact .inr (.inr ⟨j, hj, c, hcj, h⟩)
        · have : j = i := by simpa using hj
          subst this
          rw [hb] at hcj
          cases hcj
          exact .inl h.symm
theorem behB_ok (d : Dg) : behB d = true := by
  unfold behB
  unfold orderQ
  cases hv : !dgOk d with
  | true => rfl
  | false =>
  rw [cond_false]
  cases hdup : dupF [] (sigs d) with
  | some s => rfl
  | none =>
  cases hf : fstA d d.bls with
  | some s => rfl
  | none =>
  cases hl : lopN d with
  | some s => rfl
  | none =>
    have g := GrOk.of hdup hf
    have hl2 : lopR (befB d) d.bls.length = none := by
      unfold lopN at hl
      rwa [Option.map_eq_none_iff] at hl
    have hlen := (lopR_none (bef_lt g)).1 hl2
    simp only [decide_true, cond_true]
    rw [hlen]
    simp only [decide_true, cond_true, beq_self_eq_true]
    exact behG_ok g (ordR_ok _ _) _ [] _ rfl (fun s => by simp)
end Go.Proofs.YtkciabfilokfiaaGreat.Fx
