/- magnetoref03.Decimal: the same number by the reference. -/
import Derived.Test.YtoioclmfjmgaaaaDoorFP2
namespace Go.Proofs.YtoioclmfjmgaaaaDoor.Fx
open Vg Tf
set_option linter.unusedSimpArgs false
set_option linter.unusedVariables false
set_option maxRecDepth 100000
set_option maxHeartbeats 4000000
theorem cutB_spec (c : UInt8) : ∀ l, ((cutB c l).2.2 = true → l = (cutB c l).1 ++ c :: (cutB c l).2.1) ∧ ((cutB c l).2.2 = false → l = (cutB c l).1 ∧ (cutB c l).2.1 = []) ∧ c ∉ (cutB c l).1
  | [] => by simp [cutB]
  | x :: l => by
    obtain ⟨h1, h2, h3⟩ := cutB_spec c l
    rw [cutB_cons]
    split
    · rename_i hx; subst hx; simp
    · rename_i hx
      refine ⟨fun h => ?_, fun h => ?_, ?_⟩
      · simp only [List.cons_append]; rw [← h1 h]
      · obtain ⟨a, b⟩ := h2 h; exact ⟨by rw [← a], b⟩
      · intro hm
        rcases List.mem_cons.1 hm with h | h
        · exact hx h.symm
        · exact h3 h
theorem numF_none : ∀ (l : List UInt8) (n : Nat), (∃ c ∈ l, ¬ digB c = true) → numF n l = none
  | [], n, h => by obtain ⟨c, hc, _⟩ := h; cases hc
  | x :: l, n, h => by
    unfold numF
    split
    · rename_i hx
      refine numF_none l _ ?_
      obtain ⟨c, hc, hd⟩ := h
      rcases List.mem_cons.1 hc with rfl | hc
      · exact absurd hx hd
      · exact ⟨c, hc, hd⟩
    · rfl
theorem numF_some : ∀ (l : List UInt8) (n : Nat), (∀ c ∈ l, digB c = true) → ∃ m, numF n l = some m
  | [], n, _ => ⟨n, rfl⟩
  | x :: l, n, h => by
    unfold numF
    rw [if_pos (h x (by simp))]
    exact numF_some l _ (fun c hc => h c (by simp [hc]))
/-- What the two halves are. -/
structure Hv (r w f : List UInt8) (b : Bool) : Prop where
  y : b = true → r = w ++ 46 :: f
  n : b = false → r = w ∧ f = []
  no : 46 ∉ w
section
variable {r w f : List UInt8} {b : Bool} (H : Hv r w f b)
include H
theorem Hv.len : r.length = w.length + (if b = true then f.length + 1 else 0) := by
  cases hb : b with
  | true => rw [H.y hb]; simp
  | false => rw [(H.n hb).1]; simp
theorem Hv.dot (hb : b = true) : r.getD w.length 0 = 46 := by
  rw [H.y hb]; simp [List.getD_eq_getElem?_getD]
theorem Hv.mem {i : Nat} (hi : i < r.length) (hn : ¬ (b = true ∧ i = w.length)) : r.getD i 0 ∈ w ++ f := by
  have hg : r.getD i 0 ∈ r := by rw [List.getD_eq_getElem?_getD, List.getElem?_eq_getElem hi]; simp
  cases hb : b with
  | false => rw [(H.n hb).1] at hg ⊢; exact List.mem_append_left _ hg
  | true =>
    have hne : i ≠ w.length := fun h => hn ⟨hb, h⟩
    have hr := H.y hb
    rcases Nat.lt_or_gt_of_ne hne with h | h
    · rw [hr, List.getD_eq_getElem?_getD, List.getElem?_append_left h, List.getElem?_eq_getElem h]
      simp
    · rw [hr, List.length_append, List.length_cons] at hi
      rw [hr, List.getD_eq_getElem?_getD, List.getElem?_append_right (by omega), show i - w.length = (i - w.length - 1) + 1 by omega, List.getElem?_cons_succ, List.getElem?_eq_getElem (by omega)]
      simp
theorem Hv.left {i : Nat} (hi : i < w.length) : r.getD i 0 ≠ 46 := by
  have hg : r.getD i 0 = w[i] := by
    cases hb : b with
    | false => rw [(H.n hb).1, List.getD_eq_getElem?_getD, List.getElem?_eq_getElem hi]; rfl
    | true => rw [H.y hb, List.getD_eq_getElem?_getD, List.getElem?_append_left hi, List.getElem?_eq_getElem hi]; rfl
  rw [hg]
  intro h
  exact H.no (h ▸ List.getElem_mem hi)
theorem Hv.all (h : ∀ j, j < r.length → ¬ (b = true ∧ j = w.length) → digB (r.getD j 0) = true) : ∀ c ∈ w ++ f, digB c = true := by
  intro c hc
  rcases List.mem_append.1 hc with hc | hc
  · obtain ⟨i, hi, rfl⟩ := List.getElem_of_mem hc
    have hl := H.len
    have := h i (by omega) (by omega)
    cases hb : b with
    | false => rw [(H.n hb).1, List.getD_eq_getElem?_getD, List.getElem?_eq_getElem hi] at this; exact this
    | true => rw [H.y hb, List.getD_eq_getElem?_getD, List.getElem?_append_left hi, List.getElem?_eq_getElem hi] at this; exact this
  · obtain ⟨i, hi, rfl⟩ := List.getElem_of_mem hc
    cases hb : b with
    | false => rw [(H.n hb).2] at hi; simp at hi
    | true =>
      have hl := H.len
      rw [if_pos hb] at hl
      have := h (w.length + 1 + i) (by omega) (by omega)
      rw [H.y hb, List.getD_eq_getElem?_getD, List.getElem?_append_right (by omega), show w.length + 1 + i - w.length = i + 1 by omega, List.getElem?_cons_succ, List.getElem?_eq_getElem hi] at this
      exact this
theorem Hv.filter (h : ∀ c ∈ w ++ f, digB c = true) : r.filter (fun c => decide (c ≠ 46)) = w ++ f := by
  have hd : ∀ c, digB c = true → c ≠ 46 := fun c hc h => by rw [h] at hc; revert hc; decide
  have hw : ∀ l : List UInt8, (∀ c ∈ l, digB c = true) → l.filter (fun c => decide (c ≠ 46)) = l := fun l hl => List.filter_eq_self.2 fun c hc => by simpa using hd c (hl c hc)
  cases hb : b with
  | false => rw [(H.n hb).1, (H.n hb).2, hw w (fun c hc => h c (by simp [hc]))]; simp
  | true =>
    rw [H.y hb, List.filter_append, List.filter_cons, hw w (fun c hc => h c (by simp [hc])), hw f (fun c hc => h c (by simp [hc]))]
    simp
end
def dotF (w : List UInt8) (b : Bool) (n i : Nat) : Nat := if b = true ∧ w.length < i then w.length else n
theorem digC (c : UInt8) : (bif decide ((c.toNat : Int) < 48) then true else decide (57 < (c.toNat : Int))) = !digB c := by
  unfold digB
  by_cases h1 : 48 ≤ c.toNat
  · rw [fal_of (by omega : ¬ (c.toNat : Int) < 48), tru_of h1]
    by_cases h2 : c.toNat ≤ 57
    · rw [fal_of (by omega : ¬ (57 : Int) < c.toNat), tru_of h2]; rfl
    · rw [tru_of (by omega : (57 : Int) < c.toNat), fal_of h2]; rfl
  · rw [tru_of (by omega : (c.toNat : Int) < 48), fal_of h1]; rfl
theorem Hv.dotl {r w f : List UInt8} {b : Bool} (H : Hv r w f b) : dotF w b r.length r.length = w.length := by
  have hl := H.len
  unfold dotF
  cases b with
  | true => rw [if_pos rfl] at hl; rw [if_pos ⟨rfl, by omega⟩]
  | false => rw [if_neg (by decide)] at hl; rw [if_neg (fun h => by cases h.1)]; omega
theorem Hv.bad {r w f : List UInt8} {b : Bool} (H : Hv r w f b) (hr : r.length ≤ 18) : (bif bif ((w.length : Int) == 0) then true else bif decide ((1 : Int) < (w.length : Int)) then (((r.getD 0 0).toNat : Int) == 48) else false then true else
    bif decide (((w.length : Nat) : Int) < (r.length : Int)) then bif decide (IntKind.i64.wrap (IntKind.i64.wrap ((r.length : Int) - (w.length : Int)) - 1) < 1) then true else decide (6 < IntKind.i64.wrap (IntKind.i64.wrap ((r.length : Int) - (w.length : Int)) - 1)) else false) = badF w f b := by
  have hl := H.len
  have e1 : ((w.length : Int) == 0) = decide (w = []) := by
    cases w with
    | nil => rfl
    | cons x w => rw [fal_of (by simp), beq_eq_false_iff_ne, List.length_cons]; omega
  have e3 : w ≠ [] → r.getD 0 0 = w.getD 0 0 := by
    intro hw
    cases w with
    | nil => exact absurd rfl hw
    | cons x w =>
      cases hb : b with
      | true => rw [H.y hb]; rfl
      | false => rw [(H.n hb).1]
  rw [e1, eL1 w, e48 r]
  unfold badF
  by_cases hw : w = []
  · rw [tru_of hw]; rfl
  rw [e3 hw, fal_of hw]
  cases hb : b with
  | false =>
    rw [hb, if_neg (by decide)] at hl
    rw [fal_of (by omega : ¬ (((w.length : Nat) : Int) < (r.length : Int)))]
    cases decide (1 < w.length) <;> cases decide (w.getD 0 0 = 48) <;> rfl
  | true =>
    rw [hb, if_pos rfl] at hl
    have e5 : IntKind.i64.wrap (IntKind.i64.wrap ((r.length : Int) - (w.length : Int)) - 1) = (f.length : Int) := by
      rw [w64 (x := (r.length : Int) - (w.length : Int)) (by omega) (by omega), w64 (by omega) (by omega)]; omega
    have e6 : decide ((f.length : Int) < 1) = decide (f = []) := by
      cases f with
      | nil => rfl
      | cons x f => rw [fal_of (by rw [List.length_cons]; omega : ¬ ((x :: f).length : Int) < 1), fal_of (by simp : ¬ (x :: f : List UInt8) = [])]
    rw [tru_of (by omega : (((w.length : Nat) : Int) < (r.length : Int))), e5, e6, eL6 f]
    cases decide (1 < w.length) <;> cases decide (w.getD 0 0 = 48) <;> cases decide (f = []) <;> rfl
def uF (w : List UInt8) (i : Nat) : Nat := if w.length < i then 10 ^ (i - w.length - 1) else 1
theorem Hv.unit {r w f : List UInt8} {b : Bool} (H : Hv r w f b) : uF w r.length = 10 ^ f.length := by
  have hl := H.len
  unfold uF
  cases hb : b with
  | true =>
    rw [hb, if_pos rfl] at hl
    rw [if_pos (by omega), show r.length - w.length - 1 = f.length by omega]
  | false =>
    rw [hb, if_neg (by decide)] at hl
    rw [if_neg (by omega), (H.n hb).2]; rfl
theorem c46 (c : UInt8) : ((c.toNat : Int) == 46) = decide (c = 46) := by
  by_cases h : c = 46
  · rw [h]; rfl
  · rw [fal_of h, beq_eq_false_iff_ne]
    intro h2
    exact h (UInt8.toNat_inj.1 (by show _ = 46; omega))
theorem dot_cond (c : UInt8) (d n : Nat) : (bif ((c.toNat : Int) == 46) then ((d : Int) == (n : Int)) else false) = (decide (c = 46) && decide (d = n)) := by
  have h1 : ((c.toNat : Int) == 46) = decide (c = 46) := by
    by_cases h : c = 46
    · rw [h]; rfl
    · rw [fal_of h, beq_eq_false_iff_ne]
      intro h2
      exact h (UInt8.toNat_inj.1 (by show _ = 46; omega))
  have h2 : ((d : Int) == (n : Int)) = decide (d = n) := by
    by_cases h : d = n
    · rw [h]; simp
    · rw [fal_of h, beq_eq_false_iff_ne]; omega
  rw [h1, h2]
  cases decide (c = 46) <;> rfl
theorem rDec_ (s : List UInt8) : CallOk Tryd.prog 38 [S s] [] (.tup [.agg [ci (dcR s).1, ci (dcR s).2.1], Wb1 (dcR s).2.2]) [] := by
  by_cases h18 : 18 < s.length
  · have e : dcR s = (0, 0, false) := by rw [dcR, decQ, if_pos h18]
    have h1 : decide ((18 : Int) < s.length) = true := tru_of (by omega)
    rw [e]
    refine CallOk.mkN 100 Tryd.func38 rfl en38 (by simp [Tryd.ntmps38]) (ClA.of rfl) rfl rfl fun C hR hP => ?_
    simp (config := { maxSteps := 2000000 }) only [go_sem, Nat.reduceBEq, Nat.reduceAdd, Nat.reduceLT, Nat.reduceLeDiff, Nat.reduceEqDiff, reduceCtorEq, Int.reduceAdd, Int.reduceSub, Int.reduceNeg, Int.reduceLE, Int.reduceLT, Int.reduceToNat, Int.reduceBEq, Int.reduceBNe, Int.reduceEq, Int.reduceNe, Int.toNat_zero, Int.toNat_one, bne_self_eq_false, Nat.reduceMul, Nat.zero_mul, Nat.mul_one, Nat.one_mul, Nat.reduceSub, Int.cast_ofNat_Int, Int.toNat_natCast, h1]
    exact RetQ.of hR rfl (by simp (config := { maxSteps := 2000000 }) only [go_sem, Nat.reduceBEq, Nat.reduceAdd, Nat.reduceLT, Nat.reduceLeDiff, Nat.reduceEqDiff, reduceCtorEq, Int.reduceAdd, Int.reduceSub, Int.reduceNeg, Int.reduceLE, Int.reduceLT, Int.reduceToNat, Int.reduceBEq, Int.reduceBNe, Int.reduceEq, Int.reduceNe, Int.toNat_zero, Int.toNat_one, bne_self_eq_false, Nat.reduceMul, Nat.zero_mul, Nat.mul_one, Nat.one_mul, Nat.reduceSub, Int.cast_ofNat_Int, Int.toNat_natCast]) (by simp (config := { maxSteps := 2000000 }) only [go_sem, Nat.reduceBEq, Nat.reduceAdd, Nat.reduceLT, Nat.reduceLeDiff, Nat.reduceEqDiff, reduceCtorEq, Int.reduceAdd, Int.reduceSub, Int.reduceNeg, Int.reduceLE, Int.reduceLT, Int.reduceToNat, Int.reduceBEq, Int.reduceBNe, Int.reduceEq, Int.reduceNe, Int.toNat_zero, Int.toNat_one, bne_self_eq_false, Nat.reduceMul, Nat.zero_mul, Nat.mul_one, Nat.one_mul, Nat.reduceSub, Int.cast_ofNat_Int, Int.toNat_natCast] <;> rfl) (Sub.nil _) ClM.nil (ClV.of rfl)
  have h1 : decide ((18 : Int) < s.length) = false := fal_of (by omega)
  have hcl := cpf_len s
  have hd : dcR s = match decQ s with
    | none => (0, 0, false)
    | some (n, d) => (n, d, true) := rfl
  unfold decQ at hd
  rw [if_neg h18] at hd
  have hcut := cutB_spec 46 (cpf s).1
  have hsp : (cpf s).2 = true → s = 45 :: (cpf s).1 := by
    cases s with
    | nil => intro h; cases h
    | cons x s =>
      unfold cpf
      simp only
      split
      · rename_i hx; intro _; rw [hx]
      · intro h; cases h
  have hsp2 : (cpf s).2 = false → s = (cpf s).1 := by
    cases s with
    | nil => intro _; rfl
    | cons x s =>
      unfold cpf
      simp only
      split
      · intro h; cases h
      · intro _; rfl
  have hneg : (bif decide ((0 : Int) < (s.length : Int)) then (((s.getD 0 0).toNat : Int) == 45) else false) = (cpf s).2 := by
    cases s with
    | nil => rfl
    | cons x s =>
      rw [tru_of (by rw [List.length_cons]; omega), cond_true]
      unfold cpf
      simp only [List.getD_cons_zero]
      by_cases hx : x = 45
      · rw [if_pos hx, hx]; rfl
      · rw [if_neg hx, beq_eq_false_iff_ne]
        intro h
        exact hx (UInt8.toNat_inj.1 (by show _ = 45; omega))
  generalize cpf s = q at *
  obtain ⟨r, neg⟩ := q
  simp only at hd hcl hcut hsp hsp2 hneg
  generalize cutB 46 r = q at *
  obtain ⟨w, f, b⟩ := q
  simp only at hd hcut
  have H : Hv r w f b := ⟨hcut.1, hcut.2.1, hcut.2.2⟩
  clear hcut
  refine CallOk.mkN 100 Tryd.func38 rfl en38 (by simp [Tryd.ntmps38]) (ClA.of rfl) rfl rfl fun C hR hP => ?_
  simp (config := { maxSteps := 2000000 }) only [go_sem, Nat.reduceBEq, Nat.reduceAdd, Nat.reduceLT, Nat.reduceLeDiff, Nat.reduceEqDiff, reduceCtorEq, Int.reduceAdd, Int.reduceSub, Int.reduceNeg, Int.reduceLE, Int.reduceLT, Int.reduceToNat, Int.reduceBEq, Int.reduceBNe, Int.reduceEq, Int.reduceNe, Int.toNat_zero, Int.toNat_one, bne_self_eq_false, Nat.reduceMul, Nat.zero_mul, Nat.mul_one, Nat.one_mul, Nat.reduceSub, Int.cast_ofNat_Int, Int.toNat_natCast, h1]
  rw [hneg]
  cases neg with
  | true =>
    obtain rfl := hsp rfl
    have hrl : r.length ≤ 17 := by simp at h18; omega
    have e1 : List.take (((r.length + 1 : Nat) : Int) - 1).toNat r = r := List.take_of_length_le (by omega)
    refine ⟨fun h => ⟨h, of_decide_eq_true h⟩, ?_⟩
    simp (config := { maxSteps := 2000000 }) only [go_sem, Nat.reduceBEq, Nat.reduceAdd, Nat.reduceLT, Nat.reduceLeDiff, Nat.reduceEqDiff, reduceCtorEq, Int.reduceAdd, Int.reduceSub, Int.reduceNeg, Int.reduceLE, Int.reduceLT, Int.reduceToNat, Int.reduceBEq, Int.reduceBNe, Int.reduceEq, Int.reduceNe, Int.toNat_zero, Int.toNat_one, bne_self_eq_false, Nat.reduceMul, Nat.zero_mul, Nat.mul_one, Nat.one_mul, Nat.reduceSub, Int.cast_ofNat_Int, Int.toNat_natCast, List.length_cons]
    refine ⟨⟨by omega, by omega⟩, ?_⟩
    simp only [e1]
    refine Sm.loopM (M0 := []) (α := { i : Nat // i ≤ (r).length ∧ ∀ j, j < i → ¬ (b = true ∧ j = w.length) → digB ((r).getD j 0) = true }) hP
      (fun i => [(0, true, S (r)), (2, true, .c (.p 4 0)), (4, true, Bo true), (5, true, I (dotF w b (r).length i.val)), (6, true, I i.val)])
      (fun _ => [(4, ⟨false, [ci 0, ci 0], 62⟩)]) (fun i => (r).length - i.val) ⟨0, by omega, fun j hj => by omega⟩ (fun _ => ClM.of rfl) (fun _ => ClE.of rfl) [(4, 100)] ?_ ?_
    · have e0 : dotF w b (r).length 0 = (r).length := if_neg (by omega)
      simp only [e0]
      exact ⟨rfl, trivial, ⟨rfl, rfl, rfl, rfl, rfl, trivial⟩, ⟨.inr ⟨_, rfl, .inl rfl⟩, trivial⟩⟩
    · rintro ⟨i, hi, hdg⟩ J hb
      simp only at hb hi hdg ⊢
      refine Sm.go 170 ?_
      simp (config := { maxSteps := 2000000 }) only [go_sem, Nat.reduceBEq, Nat.reduceAdd, Nat.reduceLT, Nat.reduceLeDiff, Nat.reduceEqDiff, reduceCtorEq, Int.reduceAdd, Int.reduceSub, Int.reduceNeg, Int.reduceLE, Int.reduceLT, Int.reduceToNat, Int.reduceBEq, Int.reduceBNe, Int.reduceEq, Int.reduceNe, Int.toNat_zero, Int.toNat_one, bne_self_eq_false, Nat.reduceMul, Nat.zero_mul, Nat.mul_one, Nat.one_mul, Nat.reduceSub, Int.cast_ofNat_Int, Int.toNat_natCast]
      refine mtch (fun hc => ?_) (fun hc => ?_)
      · have hc : i < (r).length := by have := of_decide_eq_true hc; omega
        have w5 : IntKind.i64.wrap ((i : Int) + 1) = ((i + 1 : Nat) : Int) := by rw [w64 (by omega) (by omega)]; omega
        have hlen := H.len
        refine ⟨⟨by omega, by omega⟩, ?_⟩
        rw [dot_cond]
        refine mtch (fun hq => ?_) (fun hq => ?_)
        · obtain ⟨hq1, hq2⟩ : (r).getD i 0 = 46 ∧ dotF w b (r).length i = (r).length := by simpa using hq
          have hiw : i = w.length ∧ b = true := by
            rcases Nat.lt_trichotomy i w.length with h | h | h
            · exact absurd hq1 (H.left h)
            · refine ⟨h, ?_⟩
              cases hbb : b with
              | true => rfl
              | false => rw [hbb] at hlen; simp at hlen; omega
            · exfalso
              cases hbb : b with
              | true => rw [dotF, if_pos ⟨hbb, h⟩] at hq2; omega
              | false => rw [hbb] at hlen; simp at hlen; omega
          have hnx : dotF w b (r).length (i + 1) = i := by rw [dotF, if_pos ⟨hiw.2, by omega⟩, hiw.1]
          simp only [w5]
          refine hb _ _ ⟨i + 1, hc, fun j hj hn => ?_⟩ [(4, 4)] (by simp only; omega) ?_
          · rcases Nat.lt_or_ge j i with h | h
            · exact hdg j h hn
            · exact absurd ⟨hiw.2, by omega⟩ hn
          · simp only [hnx]
            exact ⟨rfl, trivial, ⟨rfl, rfl, rfl, rfl, rfl, trivial⟩, ⟨.inr ⟨_, rfl, .inl rfl⟩, trivial⟩⟩
        · have hni : ¬ (b = true ∧ i = w.length) := by
            rintro ⟨hb1, hi1⟩
            have h1 : (r).getD i 0 = 46 := by rw [hi1]; exact H.dot hb1
            have h2 : dotF w b (r).length i = (r).length := if_neg (by omega)
            rw [tru_of h1, tru_of h2] at hq
            cases hq
          have hm := H.mem hc hni
          have hnx : dotF w b (r).length (i + 1) = dotF w b (r).length i := by
            unfold dotF
            by_cases hbb : b = true
            · have : i ≠ w.length := fun h => hni ⟨hbb, h⟩
              by_cases h : w.length < i
              · rw [if_pos ⟨hbb, (by omega : w.length < i + 1)⟩, if_pos ⟨hbb, h⟩]
              · rw [if_neg (fun x : b = true ∧ w.length < i + 1 => by omega), if_neg (fun x => h x.2)]
            · rw [if_neg (fun x => hbb x.1), if_neg (fun x => hbb x.1)]
          generalize hcc : (r).getD i 0 = c at *
          refine ⟨⟨by omega, by omega⟩, fun h => ⟨h, h, by omega, by omega⟩, ?_⟩
          rw [digC]
          refine mtch (fun hz => ?_) (fun hz => ?_)
          · have hz : ¬ digB c = true := by simpa using hz
            have hd0 : numF 0 (w ++ f) = none := numF_none _ _ ⟨c, hm, hz⟩
            rw [hd0] at hd
            simp only [ite_self] at hd
            rw [hd] at hR
            exact RetQ.of hR rfl (by simp (config := { maxSteps := 2000000 }) only [go_sem, Nat.reduceBEq, Nat.reduceAdd, Nat.reduceLT, Nat.reduceLeDiff, Nat.reduceEqDiff, reduceCtorEq, Int.reduceAdd, Int.reduceSub, Int.reduceNeg, Int.reduceLE, Int.reduceLT, Int.reduceToNat, Int.reduceBEq, Int.reduceBNe, Int.reduceEq, Int.reduceNe, Int.toNat_zero, Int.toNat_one, bne_self_eq_false, Nat.reduceMul, Nat.zero_mul, Nat.mul_one, Nat.one_mul, Nat.reduceSub, Int.cast_ofNat_Int, Int.toNat_natCast]) (by simp (config := { maxSteps := 2000000 }) only [go_sem, Nat.reduceBEq, Nat.reduceAdd, Nat.reduceLT, Nat.reduceLeDiff, Nat.reduceEqDiff, reduceCtorEq, Int.reduceAdd, Int.reduceSub, Int.reduceNeg, Int.reduceLE, Int.reduceLT, Int.reduceToNat, Int.reduceBEq, Int.reduceBNe, Int.reduceEq, Int.reduceNe, Int.toNat_zero, Int.toNat_one, bne_self_eq_false, Nat.reduceMul, Nat.zero_mul, Nat.mul_one, Nat.one_mul, Nat.reduceSub, Int.cast_ofNat_Int, Int.toNat_natCast] <;> rfl) (Sub.nil _) ClM.nil (ClV.of rfl)
          · have hz : digB c = true := by simpa using hz
            simp only [w5]
            refine hb _ _ ⟨i + 1, hc, fun j hj hn => ?_⟩ [(4, 4)] (by simp only; omega) ?_
            · rcases Nat.lt_or_ge j i with h | h
              · exact hdg j h hn
              · obtain rfl : j = i := by omega
                rw [hcc]; exact hz
            · simp only [hnx]
              exact ⟨rfl, trivial, ⟨rfl, rfl, rfl, rfl, rfl, trivial⟩, ⟨.inr ⟨_, rfl, .inl rfl⟩, trivial⟩⟩
      · have hc : ¬ i < (r).length := by have := of_decide_eq_false hc; omega
        have hc : i = (r).length := by omega
        subst hc
        have hall := H.all (fun j hj => hdg j hj)
        have hdl := H.dotl
        rw [hdl]
        have hbq := H.bad (by omega)
        have hLr : decide ((1 : Int) < (w.length : Int)) = true → (0 : Int) < (r).length := fun h => by
          have := of_decide_eq_true h
          have := H.len
          omega
        generalize ((w.length : Int) == 0) = bA at *
        generalize decide ((1 : Int) < (w.length : Int)) = bL at *
        generalize ((((r).getD 0 0).toNat : Int) == 48) = bZ at *
        generalize decide (((w.length : Nat) : Int) < ((r).length : Int)) = bD at *
        generalize decide (IntKind.i64.wrap (IntKind.i64.wrap (((r).length : Int) - (w.length : Int)) - 1) < 1) = bF at *
        generalize decide (6 < IntKind.i64.wrap (IntKind.i64.wrap (((r).length : Int) - (w.length : Int)) - 1)) = bG at *
        refine ⟨?_, ?_, ?_, ?_, ?_⟩
        · intro h; refine ⟨h, hLr ?_⟩; simp only [Bool.and_eq_true] at h; exact h.2
        · intro h; refine ⟨h, fun h2 => ?_⟩; rw [h, h2]; rfl
        · intro h; refine ⟨h, fun h2 => ?_⟩; rw [h, h2]; rfl
        · intro h; refine ⟨h, fun h2 => ?_⟩; rw [h, h2]; rfl
        rw [hbq]
        clear hbq hLr
        refine mtch (fun h => ?_) (fun h => ?_)
        · rw [h, if_pos rfl] at hd
          rw [hd] at hR
          exact RetQ.of hR rfl (by simp (config := { maxSteps := 2000000 }) only [go_sem, Nat.reduceBEq, Nat.reduceAdd, Nat.reduceLT, Nat.reduceLeDiff, Nat.reduceEqDiff, reduceCtorEq, Int.reduceAdd, Int.reduceSub, Int.reduceNeg, Int.reduceLE, Int.reduceLT, Int.reduceToNat, Int.reduceBEq, Int.reduceBNe, Int.reduceEq, Int.reduceNe, Int.toNat_zero, Int.toNat_one, bne_self_eq_false, Nat.reduceMul, Nat.zero_mul, Nat.mul_one, Nat.one_mul, Nat.reduceSub, Int.cast_ofNat_Int, Int.toNat_natCast]) (by simp (config := { maxSteps := 2000000 }) only [go_sem, Nat.reduceBEq, Nat.reduceAdd, Nat.reduceLT, Nat.reduceLeDiff, Nat.reduceEqDiff, reduceCtorEq, Int.reduceAdd, Int.reduceSub, Int.reduceNeg, Int.reduceLE, Int.reduceLT, Int.reduceToNat, Int.reduceBEq, Int.reduceBNe, Int.reduceEq, Int.reduceNe, Int.toNat_zero, Int.toNat_one, bne_self_eq_false, Nat.reduceMul, Nat.zero_mul, Nat.mul_one, Nat.one_mul, Nat.reduceSub, Int.cast_ofNat_Int, Int.toNat_natCast] <;> rfl) (Sub.nil _) ClM.nil (ClV.of rfl)
        rw [h, if_neg (by decide)] at hd
        have hfil := H.filter hall
        refine Sm.loopM (M0 := []) (α := { x : Nat × Nat // x.1 ≤ (r).length ∧ x.2 < 10 ^ x.1 ∧ numF x.2 (((r).drop x.1).filter (fun c => decide (c ≠ 46))) = numF 0 (w ++ f) }) hP
          (fun x => [(0, true, S (r)), (2, true, .c (.p 4 0)), (4, true, Bo true), (5, true, I w.length), (7, true, I x.val.2), (8, true, I (uF w x.val.1)), (9, true, I x.val.1)])
          (fun _ => [(4, ⟨false, [ci 0, ci 0], 62⟩)]) (fun x => (r).length - x.val.1) ⟨(0, 0), by simp, by simp, by rw [← hfil]; rfl⟩ (fun _ => ClM.of rfl) (fun _ => ClE.of rfl) [(4, 4)] ?_ ?_
        · exact ⟨rfl, trivial, ⟨rfl, rfl, rfl, rfl, rfl, rfl, rfl, trivial⟩, ⟨.inr ⟨_, rfl, .inl rfl⟩, trivial⟩⟩
        · rintro ⟨⟨i, n⟩, hi, hnb, hnum⟩ J2 hb2
          simp only at hb2 hi hnb hnum ⊢
          refine Sm.go 170 ?_
          simp (config := { maxSteps := 2000000 }) only [go_sem, Nat.reduceBEq, Nat.reduceAdd, Nat.reduceLT, Nat.reduceLeDiff, Nat.reduceEqDiff, reduceCtorEq, Int.reduceAdd, Int.reduceSub, Int.reduceNeg, Int.reduceLE, Int.reduceLT, Int.reduceToNat, Int.reduceBEq, Int.reduceBNe, Int.reduceEq, Int.reduceNe, Int.toNat_zero, Int.toNat_one, bne_self_eq_false, Nat.reduceMul, Nat.zero_mul, Nat.mul_one, Nat.one_mul, Nat.reduceSub, Int.cast_ofNat_Int, Int.toNat_natCast]
          refine mtch (fun hc => ?_) (fun hc => ?_)
          · have hc : i < (r).length := by have := of_decide_eq_true hc; omega
            have w5 : IntKind.i64.wrap ((i : Int) + 1) = ((i + 1 : Nat) : Int) := by rw [w64 (by omega) (by omega)]; omega
            have hlen := H.len
            have hdr : (r).drop i = (r).getD i 0 :: (r).drop (i + 1) := by
              rw [List.getD_eq_getElem?_getD, List.getElem?_eq_getElem hc, List.drop_eq_getElem_cons hc]; rfl
            refine ⟨⟨by omega, by omega⟩, ?_⟩
            rw [hdr, List.filter_cons] at hnum
            rw [c46]
            have hp17 : 10 ^ i ≤ 10 ^ 17 := Nat.pow_le_pow_right (by omega) (by omega)
            have hps : 10 ^ (i + 1) = 10 * 10 ^ i := by rw [Nat.pow_succ, Nat.mul_comm]
            refine mtch (fun hq => ?_) (fun hq => ?_)
            · have hq : (r).getD i 0 = 46 := of_decide_eq_true hq
              have hbi : b = true ∧ i = w.length := Classical.byContradiction fun hn => by
                have := hdg i hc hn
                rw [hq] at this
                revert this; decide
              rw [if_neg (by rw [hq]; decide)] at hnum
              have hu : uF w (i + 1) = uF w i := by
                unfold uF
                rw [if_pos (by omega), if_neg (by omega), show i + 1 - w.length - 1 = 0 by omega]
              simp only [w5]
              refine hb2 _ _ ⟨(i + 1, n), hc, Nat.lt_of_lt_of_le hnb (by show 10 ^ i ≤ 10 ^ (i + 1); omega), hnum⟩ [(4, 4)] (by first | omega | (simp only; omega)) ?_
              simp only [hu]
              exact ⟨rfl, trivial, ⟨rfl, rfl, rfl, rfl, rfl, rfl, rfl, trivial⟩, ⟨.inr ⟨_, rfl, .inl rfl⟩, trivial⟩⟩
            · have hq : (r).getD i 0 ≠ 46 := of_decide_eq_false hq
              have hni : ¬ (b = true ∧ i = w.length) := by
                rintro ⟨h1, h2⟩
                exact hq (by rw [h2]; exact H.dot h1)
              have hdc := hdg i hc hni
              rw [if_pos (by simpa using hq), numF, if_pos hdc] at hnum
              have hul : uF w i ≤ 10 ^ 17 := by
                unfold uF
                split
                · exact Nat.pow_le_pow_right (by omega) (by omega)
                · decide
              clear hdr hq
              generalize (r).getD i 0 = c at *
              have hq2 : 48 ≤ c.toNat ∧ c.toNat ≤ 57 := by simpa [digB] using hdc
              have w1 : IntKind.i64.wrap (10 * (n : Int)) = 10 * (n : Int) := w64 (by omega) (by omega)
              have w2 : IntKind.u8.wrap ((c.toNat : Int) - 48) = ((c.toNat - 48 : Nat) : Int) := by rw [IntKind.wrap_u8]; omega
              have w3 : IntKind.i64.wrap ((c.toNat - 48 : Nat) : Int) = ((c.toNat - 48 : Nat) : Int) := w64 (by omega) (by omega)
              have w4 : IntKind.i64.wrap (10 * (n : Int) + ((c.toNat - 48 : Nat) : Int)) = ((10 * n + (c.toNat - 48) : Nat) : Int) := by rw [w64 (by omega) (by omega)]; omega
              refine ⟨⟨by omega, by omega⟩, ?_⟩
              refine mtch (fun hg => ?_) (fun hg => ?_)
              · have hg : w.length < i := by have := of_decide_eq_true hg; omega
                have hu : uF w (i + 1) = 10 * uF w i := by
                  unfold uF
                  rw [if_pos (by omega), if_pos hg, show i + 1 - w.length - 1 = (i - w.length - 1) + 1 by omega, Nat.pow_succ, Nat.mul_comm]
                have w6 : IntKind.i64.wrap (10 * ((uF w i : Nat) : Int)) = ((10 * uF w i : Nat) : Int) := by rw [w64 (by omega) (by omega)]; omega
                simp only [w1, w2, w3, w4, w5, w6]
                refine hb2 _ _ ⟨(i + 1, 10 * n + (c.toNat - 48)), hc, by simp only; omega, hnum⟩ [(4, 4)] (by simp only; omega) ?_
                simp only [hu]
                exact ⟨rfl, trivial, ⟨rfl, rfl, rfl, rfl, rfl, rfl, rfl, trivial⟩, ⟨.inr ⟨_, rfl, .inl rfl⟩, trivial⟩⟩
              · have hg : ¬ w.length < i := by have := of_decide_eq_false hg; omega
                have hu : uF w (i + 1) = uF w i := by
                  unfold uF
                  have hlt : i < w.length := by
                    cases hbb : b with
                    | true =>
                      have : i ≠ w.length := fun h => hni ⟨hbb, h⟩
                      omega
                    | false => rw [hbb, if_neg (by decide)] at hlen; omega
                  rw [if_neg (by omega), if_neg (by omega)]
                simp only [w1, w2, w3, w4, w5]
                refine hb2 _ _ ⟨(i + 1, 10 * n + (c.toNat - 48)), hc, by simp only; omega, hnum⟩ [(4, 4)] (by simp only; omega) ?_
                simp only [hu]
                exact ⟨rfl, trivial, ⟨rfl, rfl, rfl, rfl, rfl, rfl, rfl, trivial⟩, ⟨.inr ⟨_, rfl, .inl rfl⟩, trivial⟩⟩
          · have hc : ¬ i < (r).length := by have := of_decide_eq_false hc; omega
            have hc : i = (r).length := by omega
            rw [hc, List.drop_length] at hnum
            have hnum : some n = numF 0 (w ++ f) := hnum
            rw [← hnum] at hd
            simp only at hd
            have hu : uF w i = 10 ^ f.length := by rw [hc]; exact H.unit
            rw [hu]
            have hp18 : 10 ^ i ≤ 10 ^ 18 := Nat.pow_le_pow_right (by omega) (by omega)
            refine mtch (fun hz => ?_) (fun hz => ?_)
            · have hz : n = 0 := by
                have : (n : Int) = 0 := by simpa using hz
                omega
              simp only [hz, and_self, if_true] at hd
              rw [hd] at hR
              exact RetQ.of hR rfl (by simp (config := { maxSteps := 2000000 }) only [go_sem, Nat.reduceBEq, Nat.reduceAdd, Nat.reduceLT, Nat.reduceLeDiff, Nat.reduceEqDiff, reduceCtorEq, Int.reduceAdd, Int.reduceSub, Int.reduceNeg, Int.reduceLE, Int.reduceLT, Int.reduceToNat, Int.reduceBEq, Int.reduceBNe, Int.reduceEq, Int.reduceNe, Int.toNat_zero, Int.toNat_one, bne_self_eq_false, Nat.reduceMul, Nat.zero_mul, Nat.mul_one, Nat.one_mul, Nat.reduceSub, Int.cast_ofNat_Int, Int.toNat_natCast]) (by simp (config := { maxSteps := 2000000 }) only [go_sem, Nat.reduceBEq, Nat.reduceAdd, Nat.reduceLT, Nat.reduceLeDiff, Nat.reduceEqDiff, reduceCtorEq, Int.reduceAdd, Int.reduceSub, Int.reduceNeg, Int.reduceLE, Int.reduceLT, Int.reduceToNat, Int.reduceBEq, Int.reduceBNe, Int.reduceEq, Int.reduceNe, Int.toNat_zero, Int.toNat_one, bne_self_eq_false, Nat.reduceMul, Nat.zero_mul, Nat.mul_one, Nat.one_mul, Nat.reduceSub, Int.cast_ofNat_Int, Int.toNat_natCast] <;> rfl) (Sub.nil _) ClM.nil (ClV.of rfl)
            · have hz : n ≠ 0 := by
                intro h; rw [h] at hz; simp at hz
              simp only [hz, and_false, if_false, if_true] at hd
              rw [hd] at hR
              have w9 : IntKind.i64.wrap (0 - (n : Int)) = -(n : Int) := by rw [w64 (by omega) (by omega)]; first | done | omega
              simp only [w9]
              exact RetQ.of hR rfl (by simp (config := { maxSteps := 2000000 }) only [go_sem, Nat.reduceBEq, Nat.reduceAdd, Nat.reduceLT, Nat.reduceLeDiff, Nat.reduceEqDiff, reduceCtorEq, Int.reduceAdd, Int.reduceSub, Int.reduceNeg, Int.reduceLE, Int.reduceLT, Int.reduceToNat, Int.reduceBEq, Int.reduceBNe, Int.reduceEq, Int.reduceNe, Int.toNat_zero, Int.toNat_one, bne_self_eq_false, Nat.reduceMul, Nat.zero_mul, Nat.mul_one, Nat.one_mul, Nat.reduceSub, Int.cast_ofNat_Int, Int.toNat_natCast]) (by simp (config := { maxSteps := 2000000 }) only [go_sem, Nat.reduceBEq, Nat.reduceAdd, Nat.reduceLT, Nat.reduceLeDiff, Nat.reduceEqDiff, reduceCtorEq, Int.reduceAdd, Int.reduceSub, Int.reduceNeg, Int.reduceLE, Int.reduceLT, Int.reduceToNat, Int.reduceBEq, Int.reduceBNe, Int.reduceEq, Int.reduceNe, Int.toNat_zero, Int.toNat_one, bne_self_eq_false, Nat.reduceMul, Nat.zero_mul, Nat.mul_one, Nat.one_mul, Nat.reduceSub, Int.cast_ofNat_Int, Int.toNat_natCast] <;> rfl) (Sub.nil _) ClM.nil (ClV.of rfl)
  | false =>
    obtain rfl := hsp2 rfl
    have hrl : s.length ≤ 18 := by omega
    refine ⟨fun h => ⟨h, of_decide_eq_true h⟩, ?_⟩
    simp (config := { maxSteps := 2000000 }) only [go_sem, Nat.reduceBEq, Nat.reduceAdd, Nat.reduceLT, Nat.reduceLeDiff, Nat.reduceEqDiff, reduceCtorEq, Int.reduceAdd, Int.reduceSub, Int.reduceNeg, Int.reduceLE, Int.reduceLT, Int.reduceToNat, Int.reduceBEq, Int.reduceBNe, Int.reduceEq, Int.reduceNe, Int.toNat_zero, Int.toNat_one, bne_self_eq_false, Nat.reduceMul, Nat.zero_mul, Nat.mul_one, Nat.one_mul, Nat.reduceSub, Int.cast_ofNat_Int, Int.toNat_natCast]
    refine Sm.loopM (M0 := []) (α := { i : Nat // i ≤ (s).length ∧ ∀ j, j < i → ¬ (b = true ∧ j = w.length) → digB ((s).getD j 0) = true }) hP
      (fun i => [(0, true, S (s)), (2, true, .c (.p 4 0)), (4, true, Bo false), (5, true, I (dotF w b (s).length i.val)), (6, true, I i.val)])
      (fun _ => [(4, ⟨false, [ci 0, ci 0], 62⟩)]) (fun i => (s).length - i.val) ⟨0, by omega, fun j hj => by omega⟩ (fun _ => ClM.of rfl) (fun _ => ClE.of rfl) [(4, 100)] ?_ ?_
    · have e0 : dotF w b (s).length 0 = (s).length := if_neg (by omega)
      simp only [e0]
      exact ⟨rfl, trivial, ⟨rfl, rfl, rfl, rfl, rfl, trivial⟩, ⟨.inr ⟨_, rfl, .inl rfl⟩, trivial⟩⟩
    · rintro ⟨i, hi, hdg⟩ J hb
      simp only at hb hi hdg ⊢
      refine Sm.go 170 ?_
      simp (config := { maxSteps := 2000000 }) only [go_sem, Nat.reduceBEq, Nat.reduceAdd, Nat.reduceLT, Nat.reduceLeDiff, Nat.reduceEqDiff, reduceCtorEq, Int.reduceAdd, Int.reduceSub, Int.reduceNeg, Int.reduceLE, Int.reduceLT, Int.reduceToNat, Int.reduceBEq, Int.reduceBNe, Int.reduceEq, Int.reduceNe, Int.toNat_zero, Int.toNat_one, bne_self_eq_false, Nat.reduceMul, Nat.zero_mul, Nat.mul_one, Nat.one_mul, Nat.reduceSub, Int.cast_ofNat_Int, Int.toNat_natCast]
      refine mtch (fun hc => ?_) (fun hc => ?_)
      · have hc : i < (s).length := by have := of_decide_eq_true hc; omega
        have w5 : IntKind.i64.wrap ((i : Int) + 1) = ((i + 1 : Nat) : Int) := by rw [w64 (by omega) (by omega)]; omega
        have hlen := H.len
        refine ⟨⟨by omega, by omega⟩, ?_⟩
        rw [dot_cond]
        refine mtch (fun hq => ?_) (fun hq => ?_)
        · obtain ⟨hq1, hq2⟩ : (s).getD i 0 = 46 ∧ dotF w b (s).length i = (s).length := by simpa using hq
          have hiw : i = w.length ∧ b = true := by
            rcases Nat.lt_trichotomy i w.length with h | h | h
            · exact absurd hq1 (H.left h)
            · refine ⟨h, ?_⟩
              cases hbb : b with
              | true => rfl
              | false => rw [hbb] at hlen; simp at hlen; omega
            · exfalso
              cases hbb : b with
              | true => rw [dotF, if_pos ⟨hbb, h⟩] at hq2; omega
              | false => rw [hbb] at hlen; simp at hlen; omega
          have hnx : dotF w b (s).length (i + 1) = i := by rw [dotF, if_pos ⟨hiw.2, by omega⟩, hiw.1]
          simp only [w5]
          refine hb _ _ ⟨i + 1, hc, fun j hj hn => ?_⟩ [(4, 4)] (by simp only; omega) ?_
          · rcases Nat.lt_or_ge j i with h | h
            · exact hdg j h hn
            · exact absurd ⟨hiw.2, by omega⟩ hn
          · simp only [hnx]
            exact ⟨rfl, trivial, ⟨rfl, rfl, rfl, rfl, rfl, trivial⟩, ⟨.inr ⟨_, rfl, .inl rfl⟩, trivial⟩⟩
        · have hni : ¬ (b = true ∧ i = w.length) := by
            rintro ⟨hb1, hi1⟩
            have h1 : (s).getD i 0 = 46 := by rw [hi1]; exact H.dot hb1
            have h2 : dotF w b (s).length i = (s).length := if_neg (by omega)
            rw [tru_of h1, tru_of h2] at hq
            cases hq
          have hm := H.mem hc hni
          have hnx : dotF w b (s).length (i + 1) = dotF w b (s).length i := by
            unfold dotF
            by_cases hbb : b = true
            · have : i ≠ w.length := fun h => hni ⟨hbb, h⟩
              by_cases h : w.length < i
              · rw [if_pos ⟨hbb, (by omega : w.length < i + 1)⟩, if_pos ⟨hbb, h⟩]
              · rw [if_neg (fun x : b = true ∧ w.length < i + 1 => by omega), if_neg (fun x => h x.2)]
            · rw [if_neg (fun x => hbb x.1), if_neg (fun x => hbb x.1)]
          generalize hcc : (s).getD i 0 = c at *
          refine ⟨⟨by omega, by omega⟩, fun h => ⟨h, h, by omega, by omega⟩, ?_⟩
          rw [digC]
          refine mtch (fun hz => ?_) (fun hz => ?_)
          · have hz : ¬ digB c = true := by simpa using hz
            have hd0 : numF 0 (w ++ f) = none := numF_none _ _ ⟨c, hm, hz⟩
            rw [hd0] at hd
            simp only [ite_self] at hd
            rw [hd] at hR
            exact RetQ.of hR rfl (by simp (config := { maxSteps := 2000000 }) only [go_sem, Nat.reduceBEq, Nat.reduceAdd, Nat.reduceLT, Nat.reduceLeDiff, Nat.reduceEqDiff, reduceCtorEq, Int.reduceAdd, Int.reduceSub, Int.reduceNeg, Int.reduceLE, Int.reduceLT, Int.reduceToNat, Int.reduceBEq, Int.reduceBNe, Int.reduceEq, Int.reduceNe, Int.toNat_zero, Int.toNat_one, bne_self_eq_false, Nat.reduceMul, Nat.zero_mul, Nat.mul_one, Nat.one_mul, Nat.reduceSub, Int.cast_ofNat_Int, Int.toNat_natCast]) (by simp (config := { maxSteps := 2000000 }) only [go_sem, Nat.reduceBEq, Nat.reduceAdd, Nat.reduceLT, Nat.reduceLeDiff, Nat.reduceEqDiff, reduceCtorEq, Int.reduceAdd, Int.reduceSub, Int.reduceNeg, Int.reduceLE, Int.reduceLT, Int.reduceToNat, Int.reduceBEq, Int.reduceBNe, Int.reduceEq, Int.reduceNe, Int.toNat_zero, Int.toNat_one, bne_self_eq_false, Nat.reduceMul, Nat.zero_mul, Nat.mul_one, Nat.one_mul, Nat.reduceSub, Int.cast_ofNat_Int, Int.toNat_natCast] <;> rfl) (Sub.nil _) ClM.nil (ClV.of rfl)
          · have hz : digB c = true := by simpa using hz
            simp only [w5]
            refine hb _ _ ⟨i + 1, hc, fun j hj hn => ?_⟩ [(4, 4)] (by simp only; omega) ?_
            · rcases Nat.lt_or_ge j i with h | h
              · exact hdg j h hn
              · obtain rfl : j = i := by omega
                rw [hcc]; exact hz
            · simp only [hnx]
              exact ⟨rfl, trivial, ⟨rfl, rfl, rfl, rfl, rfl, trivial⟩, ⟨.inr ⟨_, rfl, .inl rfl⟩, trivial⟩⟩
      · have hc : ¬ i < (s).length := by have := of_decide_eq_false hc; omega
        have hc : i = (s).length := by omega
        subst hc
        have hall := H.all (fun j hj => hdg j hj)
        have hdl := H.dotl
        rw [hdl]
        have hbq := H.bad (by omega)
        have hLr : decide ((1 : Int) < (w.length : Int)) = true → (0 : Int) < (s).length := fun h => by
          have := of_decide_eq_true h
          have := H.len
          omega
        generalize ((w.length : Int) == 0) = bA at *
        generalize decide ((1 : Int) < (w.length : Int)) = bL at *
        generalize ((((s).getD 0 0).toNat : Int) == 48) = bZ at *
        generalize decide (((w.length : Nat) : Int) < ((s).length : Int)) = bD at *
        generalize decide (IntKind.i64.wrap (IntKind.i64.wrap (((s).length : Int) - (w.length : Int)) - 1) < 1) = bF at *
        generalize decide (6 < IntKind.i64.wrap (IntKind.i64.wrap (((s).length : Int) - (w.length : Int)) - 1)) = bG at *
        refine ⟨?_, ?_, ?_, ?_, ?_⟩
        · intro h; refine ⟨h, hLr ?_⟩; simp only [Bool.and_eq_true] at h; exact h.2
        · intro h; refine ⟨h, fun h2 => ?_⟩; rw [h, h2]; rfl
        · intro h; refine ⟨h, fun h2 => ?_⟩; rw [h, h2]; rfl
        · intro h; refine ⟨h, fun h2 => ?_⟩; rw [h, h2]; rfl
        rw [hbq]
        clear hbq hLr
        refine mtch (fun h => ?_) (fun h => ?_)
        · rw [h, if_pos rfl] at hd
          rw [hd] at hR
          exact RetQ.of hR rfl (by simp (config := { maxSteps := 2000000 }) only [go_sem, Nat.reduceBEq, Nat.reduceAdd, Nat.reduceLT, Nat.reduceLeDiff, Nat.reduceEqDiff, reduceCtorEq, Int.reduceAdd, Int.reduceSub, Int.reduceNeg, Int.reduceLE, Int.reduceLT, Int.reduceToNat, Int.reduceBEq, Int.reduceBNe, Int.reduceEq, Int.reduceNe, Int.toNat_zero, Int.toNat_one, bne_self_eq_false, Nat.reduceMul, Nat.zero_mul, Nat.mul_one, Nat.one_mul, Nat.reduceSub, Int.cast_ofNat_Int, Int.toNat_natCast]) (by simp (config := { maxSteps := 2000000 }) only [go_sem, Nat.reduceBEq, Nat.reduceAdd, Nat.reduceLT, Nat.reduceLeDiff, Nat.reduceEqDiff, reduceCtorEq, Int.reduceAdd, Int.reduceSub, Int.reduceNeg, Int.reduceLE, Int.reduceLT, Int.reduceToNat, Int.reduceBEq, Int.reduceBNe, Int.reduceEq, Int.reduceNe, Int.toNat_zero, Int.toNat_one, bne_self_eq_false, Nat.reduceMul, Nat.zero_mul, Nat.mul_one, Nat.one_mul, Nat.reduceSub, Int.cast_ofNat_Int, Int.toNat_natCast] <;> rfl) (Sub.nil _) ClM.nil (ClV.of rfl)
        rw [h, if_neg (by decide)] at hd
        have hfil := H.filter hall
        refine Sm.loopM (M0 := []) (α := { x : Nat × Nat // x.1 ≤ (s).length ∧ x.2 < 10 ^ x.1 ∧ numF x.2 (((s).drop x.1).filter (fun c => decide (c ≠ 46))) = numF 0 (w ++ f) }) hP
          (fun x => [(0, true, S (s)), (2, true, .c (.p 4 0)), (4, true, Bo false), (5, true, I w.length), (7, true, I x.val.2), (8, true, I (uF w x.val.1)), (9, true, I x.val.1)])
          (fun _ => [(4, ⟨false, [ci 0, ci 0], 62⟩)]) (fun x => (s).length - x.val.1) ⟨(0, 0), by simp, by simp, by rw [← hfil]; rfl⟩ (fun _ => ClM.of rfl) (fun _ => ClE.of rfl) [(4, 4)] ?_ ?_
        · exact ⟨rfl, trivial, ⟨rfl, rfl, rfl, rfl, rfl, rfl, rfl, trivial⟩, ⟨.inr ⟨_, rfl, .inl rfl⟩, trivial⟩⟩
        · rintro ⟨⟨i, n⟩, hi, hnb, hnum⟩ J2 hb2
          simp only at hb2 hi hnb hnum ⊢
          refine Sm.go 170 ?_
          simp (config := { maxSteps := 2000000 }) only [go_sem, Nat.reduceBEq, Nat.reduceAdd, Nat.reduceLT, Nat.reduceLeDiff, Nat.reduceEqDiff, reduceCtorEq, Int.reduceAdd, Int.reduceSub, Int.reduceNeg, Int.reduceLE, Int.reduceLT, Int.reduceToNat, Int.reduceBEq, Int.reduceBNe, Int.reduceEq, Int.reduceNe, Int.toNat_zero, Int.toNat_one, bne_self_eq_false, Nat.reduceMul, Nat.zero_mul, Nat.mul_one, Nat.one_mul, Nat.reduceSub, Int.cast_ofNat_Int, Int.toNat_natCast]
          refine mtch (fun hc => ?_) (fun hc => ?_)
          · have hc : i < (s).length := by have := of_decide_eq_true hc; omega
            have w5 : IntKind.i64.wrap ((i : Int) + 1) = ((i + 1 : Nat) : Int) := by rw [w64 (by omega) (by omega)]; omega
            have hlen := H.len
            have hdr : (s).drop i = (s).getD i 0 :: (s).drop (i + 1) := by
              rw [List.getD_eq_getElem?_getD, List.getElem?_eq_getElem hc, List.drop_eq_getElem_cons hc]; rfl
            refine ⟨⟨by omega, by omega⟩, ?_⟩
            rw [hdr, List.filter_cons] at hnum
            rw [c46]
            have hp17 : 10 ^ i ≤ 10 ^ 17 := Nat.pow_le_pow_right (by omega) (by omega)
            have hps : 10 ^ (i + 1) = 10 * 10 ^ i := by rw [Nat.pow_succ, Nat.mul_comm]
            refine mtch (fun hq => ?_) (fun hq => ?_)
            · have hq : (s).getD i 0 = 46 := of_decide_eq_true hq
              have hbi : b = true ∧ i = w.length := Classical.byContradiction fun hn => by
                have := hdg i hc hn
                rw [hq] at this
                revert this; decide
              rw [if_neg (by rw [hq]; decide)] at hnum
              have hu : uF w (i + 1) = uF w i := by
                unfold uF
                rw [if_pos (by omega), if_neg (by omega), show i + 1 - w.length - 1 = 0 by omega]
              simp only [w5]
              refine hb2 _ _ ⟨(i + 1, n), hc, Nat.lt_of_lt_of_le hnb (by show 10 ^ i ≤ 10 ^ (i + 1); omega), hnum⟩ [(4, 4)] (by first | omega | (simp only; omega)) ?_
              simp only [hu]
              exact ⟨rfl, trivial, ⟨rfl, rfl, rfl, rfl, rfl, rfl, rfl, trivial⟩, ⟨.inr ⟨_, rfl, .inl rfl⟩, trivial⟩⟩
            · have hq : (s).getD i 0 ≠ 46 := of_decide_eq_false hq
              have hni : ¬ (b = true ∧ i = w.length) := by
                rintro ⟨h1, h2⟩
                exact hq (by rw [h2]; exact H.dot h1)
              have hdc := hdg i hc hni
              rw [if_pos (by simpa using hq), numF, if_pos hdc] at hnum
              have hul : uF w i ≤ 10 ^ 17 := by
                unfold uF
                split
                · exact Nat.pow_le_pow_right (by omega) (by omega)
                · decide
              clear hdr hq
              generalize (s).getD i 0 = c at *
              have hq2 : 48 ≤ c.toNat ∧ c.toNat ≤ 57 := by simpa [digB] using hdc
              have w1 : IntKind.i64.wrap (10 * (n : Int)) = 10 * (n : Int) := w64 (by omega) (by omega)
              have w2 : IntKind.u8.wrap ((c.toNat : Int) - 48) = ((c.toNat - 48 : Nat) : Int) := by rw [IntKind.wrap_u8]; omega
              have w3 : IntKind.i64.wrap ((c.toNat - 48 : Nat) : Int) = ((c.toNat - 48 : Nat) : Int) := w64 (by omega) (by omega)
              have w4 : IntKind.i64.wrap (10 * (n : Int) + ((c.toNat - 48 : Nat) : Int)) = ((10 * n + (c.toNat - 48) : Nat) : Int) := by rw [w64 (by omega) (by omega)]; omega
              refine ⟨⟨by omega, by omega⟩, ?_⟩
              refine mtch (fun hg => ?_) (fun hg => ?_)
              · have hg : w.length < i := by have := of_decide_eq_true hg; omega
                have hu : uF w (i + 1) = 10 * uF w i := by
                  unfold uF
                  rw [if_pos (by omega), if_pos hg, show i + 1 - w.length - 1 = (i - w.length - 1) + 1 by omega, Nat.pow_succ, Nat.mul_comm]
                have w6 : IntKind.i64.wrap (10 * ((uF w i : Nat) : Int)) = ((10 * uF w i : Nat) : Int) := by rw [w64 (by omega) (by omega)]; omega
                simp only [w1, w2, w3, w4, w5, w6]
                refine hb2 _ _ ⟨(i + 1, 10 * n + (c.toNat - 48)), hc, by simp only; omega, hnum⟩ [(4, 4)] (by simp only; omega) ?_
                simp only [hu]
                exact ⟨rfl, trivial, ⟨rfl, rfl, rfl, rfl, rfl, rfl, rfl, trivial⟩, ⟨.inr ⟨_, rfl, .inl rfl⟩, trivial⟩⟩
              · have hg : ¬ w.length < i := by have := of_decide_eq_false hg; omega
                have hu : uF w (i + 1) = uF w i := by
                  unfold uF
                  have hlt : i < w.length := by
                    cases hbb : b with
                    | true =>
                      have : i ≠ w.length := fun h => hni ⟨hbb, h⟩
                      omega
                    | false => rw [hbb, if_neg (by decide)] at hlen; omega
                  rw [if_neg (by omega), if_neg (by omega)]
                simp only [w1, w2, w3, w4, w5]
                refine hb2 _ _ ⟨(i + 1, 10 * n + (c.toNat - 48)), hc, by simp only; omega, hnum⟩ [(4, 4)] (by simp only; omega) ?_
                simp only [hu]
                exact ⟨rfl, trivial, ⟨rfl, rfl, rfl, rfl, rfl, rfl, rfl, trivial⟩, ⟨.inr ⟨_, rfl, .inl rfl⟩, trivial⟩⟩
          · have hc : ¬ i < (s).length := by have := of_decide_eq_false hc; omega
            have hc : i = (s).length := by omega
            rw [hc, List.drop_length] at hnum
            have hnum : some n = numF 0 (w ++ f) := hnum
            rw [← hnum] at hd
            simp only at hd
            have hu : uF w i = 10 ^ f.length := by rw [hc]; exact H.unit
            rw [hu]
            have hp18 : 10 ^ i ≤ 10 ^ 18 := Nat.pow_le_pow_right (by omega) (by omega)
            simp only [Bool.false_eq_true, false_and, if_false] at hd
            rw [hd] at hR
            exact RetQ.of hR rfl (by simp (config := { maxSteps := 2000000 }) only [go_sem, Nat.reduceBEq, Nat.reduceAdd, Nat.reduceLT, Nat.reduceLeDiff, Nat.reduceEqDiff, reduceCtorEq, Int.reduceAdd, Int.reduceSub, Int.reduceNeg, Int.reduceLE, Int.reduceLT, Int.reduceToNat, Int.reduceBEq, Int.reduceBNe, Int.reduceEq, Int.reduceNe, Int.toNat_zero, Int.toNat_one, bne_self_eq_false, Nat.reduceMul, Nat.zero_mul, Nat.mul_one, Nat.one_mul, Nat.reduceSub, Int.cast_ofNat_Int, Int.toNat_natCast]) (by simp (config := { maxSteps := 2000000 }) only [go_sem, Nat.reduceBEq, Nat.reduceAdd, Nat.reduceLT, Nat.reduceLeDiff, Nat.reduceEqDiff, reduceCtorEq, Int.reduceAdd, Int.reduceSub, Int.reduceNeg, Int.reduceLE, Int.reduceLT, Int.reduceToNat, Int.reduceBEq, Int.reduceBNe, Int.reduceEq, Int.reduceNe, Int.toNat_zero, Int.toNat_one, bne_self_eq_false, Nat.reduceMul, Nat.zero_mul, Nat.mul_one, Nat.one_mul, Nat.reduceSub, Int.cast_ofNat_Int, Int.toNat_natCast] <;> rfl) (Sub.nil _) ClM.nil (ClV.of rfl)
end Go.Proofs.YtoioclmfjmgaaaaDoor.Fx
