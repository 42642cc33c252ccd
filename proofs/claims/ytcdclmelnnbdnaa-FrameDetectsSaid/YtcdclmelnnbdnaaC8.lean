/- The law FrameCounts. -/
import Derived.Test.YtcdclmelnnbdnaaC6
namespace Go.Proofs.Ytcdclmelnnbdnaa
open Vg Tf
set_option linter.unusedSimpArgs false
set_option linter.unusedVariables false
set_option maxRecDepth 100000
set_option maxHeartbeats 4000000
theorem pcE_0 {f : Fm} {u : List Nat} {c : Nat} (h : pcE f u c = 0) : gE f u = 0 ∧ c ≤ 14 ∧ pcB f u c = prot f u c := by
  have hb : pcB f u c = prot f u c := by rw [pcB, h]; rfl
  unfold pcE at h
  cases hz : (gE f u == 0) with
  | false => rw [hz] at h; simp only [cond_false] at h; rw [h] at hz; cases hz
  | true =>
    rw [hz, cond_true] at h
    cases hi : inR (c : Int) 0 14 with
    | false => rw [hi] at h; cases h
    | true => exact ⟨by simpa using hz, by have := inR_iff.1 hi; omega, hb⟩
theorem pcE_n {f : Fm} {u : List Nat} {c : Int} (h : pcE f u c ≠ 0) : pcB f u c = [] := by
  rw [pcB, show (pcE f u c == 0) = false by simpa using h]; rfl
theorem prot_at (f : Fm) {u : List Nat} (h2 : 2 ≤ u.length) {c : Nat} (hc : c ≤ 14) : sumF f (prot f u c) = sumF f (prot1 u c) ∧ (prot f u c).getD 0 0 = sumF f (prot1 u c) ∧ (prot f u c).getD 1 0 % 16 = c := by
  obtain ⟨a, b, r, rfl⟩ : ∃ x0 x1 r, u = x0 :: x1 :: r := by
    match u, h2 with
    | x0 :: x1 :: r, _ => exact ⟨x0, x1, r, rfl⟩
  refine ⟨rfl, rfl, ?_⟩
  show (b / 16 * 16 + c) % 16 = c
  omega
theorem prot_good (f : Fm) {u : List Nat} (h2 : 2 ≤ u.length) {c : Nat} (hc : c ≤ 14) : badU f (prot f u c) = false := by
  obtain ⟨h1, h3, h4⟩ := prot_at f h2 hc
  rw [badU, h1, h3, h4, tru_of rfl, cond_true]
  simpa using hc
theorem gE_prot {f : Fm} {u : List Nat} (h : gE f u = 0) (c : Nat) : gE f (prot f u c) = 0 := by
  unfold gE at h ⊢
  rw [prot_length]; exact h
/-- The state of the watch behind i frames. -/
def wI (i c l : Nat) : Wt := if i = 0 then wt0 else ⟨true, c, min 1000 (l : Int), 0⟩
theorem wI_ok {i c l : Nat} (hc : c ≤ 14) : wok (wI i c l) = true := by
  unfold wI
  split
  · rfl
  · simp only [wok, inR, Bool.and_eq_true, Bool.or_eq_true, decide_eq_true_eq]
    refine ⟨by omega, by omega, by omega, .inl trivial⟩
theorem step_I (f : Fm) {u : List Nat} (h2 : 2 ≤ u.length) {i c l b : Nat} (hc : c ≤ 14) (hi : i = 0 → c = 0 ∧ l = 0) (hb : b ≤ 4) :
    stepW (wI i c l) f (prot f u (if i = 0 then c else (c + b) % 15)) = (wI (i + 1) (if i = 0 then c else (c + b) % 15) (if i = 0 then l else if b ≤ 1 then l else l + (b - 1)), if i = 0 then 0 else if b = 0 then 1 else if b = 1 then 0 else 2) := by
  by_cases h0 : i = 0
  · subst h0
    obtain ⟨rfl, rfl⟩ := hi rfl
    obtain ⟨_, _, h4⟩ := prot_at f h2 (show 0 ≤ 14 by omega)
    simp only [if_true]
    rw [stepW, prot_good f h2 (by omega), h4]
    rfl
  · simp only [if_neg h0]
    have hc2 : (c + b) % 15 ≤ 14 := by omega
    obtain ⟨_, _, h4⟩ := prot_at f h2 hc2
    have hw : wI i c l = ⟨true, c, min 1000 (l : Int), 0⟩ := if_neg h0
    have hw2 : ∀ c' l', wI (i + 1) c' l' = ⟨true, c', min 1000 (l' : Int), 0⟩ := fun _ _ => if_neg (by omega)
    have hd : stepD ⟨true, c, min 1000 (l : Int), 0⟩ (((c + b) % 15 : Nat) : Int) = b := by unfold stepD; simp only; omega
    rw [stepW, prot_good f h2 hc2, h4, hw, hw2, cond_false]
    simp only [hd]
    by_cases b0 : b = 0
    · subst b0
      rw [fal_of (show ¬ ((0 : Nat) : Int) = 1 by omega), tru_of (show ((0 : Nat) : Int) = 0 by omega)]
      simp; omega
    · by_cases b1 : b = 1
      · subst b1
        rw [tru_of (show ((1 : Nat) : Int) = 1 by omega)]
        simp
      · rw [fal_of (show ¬ (b : Int) = 1 by omega), fal_of (show ¬ (b : Int) = 0 by omega), tru_of (show (b : Int) ≤ 4 by omega)]
        simp [b0, b1, show ¬ b ≤ 1 by omega]; omega
theorem clC3 (f : Fm) (u s : List Nat) : ClM [bS 1 f.sgs, bBr 2 u, bBr 3 s] := ClM.v (by simp only [List.all_cons, v_ss, v_u]; rfl)
theorem law_counts (f : Fm) (hf0 : f.bd) (hs0 : f.sgs.length ≤ 9223372036854775807) (u : List Nat) (hu : ∀ x ∈ u, x < 256) (hr0 : u.length ≤ 9223372036854775807) (s : List Nat) (hs : ∀ x ∈ s, x < 256) (hr1 : s.length ≤ 9223372036854775807) :
    CallOk Try.prog 9 [fm5 1 f, slV 2 u.length, slV 3 s.length] [bS 1 f.sgs, bBr 2 u, bBr 3 s] (Bo true) [] := by
  have hM := clC3 f u s
  have hsub : ∀ M' : Mem, SubS [bS 1 f.sgs, bBr 2 u, bBr 3 s] M' → Vg.Sub [bS 1 f.sgs, bBr 2 u, bBr 3 s] M' := fun _ h => h.sub
  refine CallOk.mkN 100 Try.func9 rfl en9 (by simp [Try.ntmps9]) (ClA.of rfl) rfl rfl fun C hR hP => ?_
  simp (config := { maxSteps := 2000000 }) only [go_sem, Nat.reduceBEq, Nat.reduceAdd, Nat.reduceLT, Nat.reduceLeDiff, Nat.reduceEqDiff, reduceCtorEq, Int.reduceAdd, Int.reduceSub, Int.reduceNeg, Int.reduceLE, Int.reduceLT, Int.reduceToNat, Int.reduceBEq, Int.reduceBNe, Int.reduceEq, Int.reduceNe, Int.toNat_zero, Int.toNat_one, bne_self_eq_false, Nat.reduceMul, Nat.zero_mul, Nat.mul_one, Nat.one_mul, Nat.reduceSub, Int.cast_ofNat_Int, Int.toNat_natCast]
  refine CallQ.pure 110 lawake rfl ?_
  simp (config := { maxSteps := 2000000 }) only [go_sem, Nat.reduceBEq, Nat.reduceAdd, Nat.reduceLT, Nat.reduceLeDiff, Nat.reduceEqDiff, reduceCtorEq, Int.reduceAdd, Int.reduceSub, Int.reduceNeg, Int.reduceLE, Int.reduceLT, Int.reduceToNat, Int.reduceBEq, Int.reduceBNe, Int.reduceEq, Int.reduceNe, Int.toNat_zero, Int.toNat_one, bne_self_eq_false, Nat.reduceMul, Nat.zero_mul, Nat.mul_one, Nat.one_mul, Nat.reduceSub, Int.cast_ofNat_Int, Int.toNat_natCast]
  refine CallQ.ren [(1, 1)] 110 (lgreat f) (clS _) rfl rfl ⟨⟨_, rfl, wkS _ _ _⟩, trivial⟩ rfl (.inr rfl) ?_
  simp (config := { maxSteps := 2000000 }) only [go_sem, Nat.reduceBEq, Nat.reduceAdd, Nat.reduceLT, Nat.reduceLeDiff, Nat.reduceEqDiff, reduceCtorEq, Int.reduceAdd, Int.reduceSub, Int.reduceNeg, Int.reduceLE, Int.reduceLT, Int.reduceToNat, Int.reduceBEq, Int.reduceBNe, Int.reduceEq, Int.reduceNe, Int.toNat_zero, Int.toNat_one, bne_self_eq_false, Nat.reduceMul, Nat.zero_mul, Nat.mul_one, Nat.one_mul, Nat.reduceSub, Int.cast_ofNat_Int, Int.toNat_natCast]
  refine mtch (fun hg => ?_) (fun hg => ?_)
  · exact RetQ.of hR rfl ⟨rfl, trivial⟩ rfl (hsub _ ⟨⟨_, rfl, .inl rfl⟩, ⟨_, rfl, .inl rfl⟩, ⟨_, rfl, .inl rfl⟩, trivial⟩) hM (ClV.of rfl)
  · have hg : f.sgs.length ≤ 24 ∧ s.length ≤ 100 ∧ u.length ≤ 100 := by simp only [Bool.cond_true_left, Bool.or_eq_false_iff, decide_eq_false_iff_not] at hg; omega
    have hf := hf0.ok (by omega)
    refine Sm.loopM (M0 := [bS 1 f.sgs, bBr 2 u, bBr 3 s]) (α := { p : Nat × Nat × Nat // p.1 ≤ s.length ∧ p.2.1 ≤ 14 ∧ p.2.2 ≤ 4 * p.1 ∧ (p.1 = 0 → p.2.1 = 0 ∧ p.2.2 = 0) }) hP (fun p => [(1, true, slV 2 u.length), (3, true, .c (.p 4 0)), (7, true, .c (.p 5 0)), (8, true, I p.val.2.1), (9, true, I p.val.2.2), (33, true, slV 3 s.length), (34, true, I s.length), (35, true, I p.val.1)])
      (fun p => [(4, ⟨false, fmL 1 f, 24⟩), (5, ⟨false, wtL (wI p.val.1 p.val.2.1 p.val.2.2), 53⟩), bS 1 f.sgs, bBr 2 u, bBr 3 s]) (fun p => s.length - p.val.1) ⟨(0, 0, 0), by simp⟩ (fun _ => ClM.of (by simp only [List.all_cons, inMV (v_ss _), inMV (v_u _)]; rfl)) (fun _ => ClE.of rfl) [(1, 1), (2, 2), (3, 3), (4, 100), (5, 110)] ?_ ?_
    · exact ⟨rfl, ⟨⟨rfl, rfl⟩, ⟨rfl, rfl⟩, ⟨rfl, rfl⟩, trivial⟩, ⟨rfl, rfl, rfl, rfl, rfl, rfl, rfl, rfl, trivial⟩, ⟨.inr ⟨_, rfl, .inl rfl⟩, .inr ⟨_, rfl, .inl rfl⟩, .inr ⟨_, rfl, .inl (renV (v_ss _))⟩, .inr ⟨_, rfl, .inl (renV (v_u _))⟩, .inr ⟨_, rfl, .inl (renV (v_u _))⟩, trivial⟩⟩
    · rintro ⟨⟨i, c, l⟩, hi, hc, hl, h00⟩ J hb
      simp only at hb hi hc hl h00 ⊢
      refine Sm.go 120 ?_
      simp (config := { maxSteps := 2000000 }) only [go_sem, Nat.reduceBEq, Nat.reduceAdd, Nat.reduceLT, Nat.reduceLeDiff, Nat.reduceEqDiff, reduceCtorEq, Int.reduceAdd, Int.reduceSub, Int.reduceNeg, Int.reduceLE, Int.reduceLT, Int.reduceToNat, Int.reduceBEq, Int.reduceBNe, Int.reduceEq, Int.reduceNe, Int.toNat_zero, Int.toNat_one, bne_self_eq_false, Nat.reduceMul, Nat.zero_mul, Nat.mul_one, Nat.one_mul, Nat.reduceSub, Int.cast_ofNat_Int, Int.toNat_natCast]
      refine mtch (fun hic => ?_) (fun hic => ?_)
      · have hic : i < s.length := by simp at hic; omega
        have hx := getD_lt hs hic
        have hgu := get_u hic
        generalize s.getD i 0 = x at *
        have wx : IntKind.i64.wrap (x : Int) = x := w64n x (by omega)
        have r5 : (x : Int).tmod 5 = ((x % 5 : Nat) : Int) := remN x 5
        simp (config := { maxSteps := 2000000 }) only [go_sem, Nat.reduceBEq, Nat.reduceAdd, Nat.reduceLT, Nat.reduceLeDiff, Nat.reduceEqDiff, reduceCtorEq, Int.reduceAdd, Int.reduceSub, Int.reduceNeg, Int.reduceLE, Int.reduceLT, Int.reduceToNat, Int.reduceBEq, Int.reduceBNe, Int.reduceEq, Int.reduceNe, Int.toNat_zero, Int.toNat_one, bne_self_eq_false, Nat.reduceMul, Nat.zero_mul, Nat.mul_one, Nat.one_mul, Nat.reduceSub, Int.cast_ofNat_Int, Int.toNat_natCast, hgu, wx, r5]
        have hb4 : x % 5 ≤ 4 := by omega
        generalize x % 5 = b at *
        have wc : (IntKind.i64.wrap ((c : Int) + (b : Int))).tmod 15 = (((c + b) % 15 : Nat) : Int) := by rw [← Int.natCast_add, w64n _ (by omega)]; exact remN _ 15
        refine ⟨⟨by omega, by omega⟩, ?_⟩
        have hwf := fun (c2 : Nat) (hg0 : gE f u = 0) (h14 : c2 ≤ 14) => fwatch (wI i c l) f hf (prot f u c2) (prot_lt f hu (by omega)) (by rw [prot_length]; omega)
        have hwe : ∀ c2 : Nat, gE f u = 0 → wE (wI i c l) f (prot f u c2) = 0 := fun c2 h0 => by rw [wE, wI_ok hc, cond_true, gE_prot h0]
        have hwr : ∀ c2 : Nat, gE f u = 0 → wR (wI i c l) f (prot f u c2) = stepW (wI i c l) f (prot f u c2) := fun c2 h0 => by rw [wR, hwe c2 h0]; rfl
        have w2 : ∀ c' l', wI (i + 1) c' l' = ⟨true, c', min 1000 (l' : Int), 0⟩ := fun _ _ => if_neg (by omega)
        have cs : (i = 0) ∨ (i ≠ 0 ∧ b = 0) ∨ (i ≠ 0 ∧ b = 1) ∨ (i ≠ 0 ∧ 2 ≤ b) := by omega
        have hst0 := fun h2 => step_I f (u := u) h2 hc h00 hb4
        generalize wI i c l = w at *
        rcases cs with h1 | ⟨h1, h2⟩ | ⟨h1, h2⟩ | ⟨h1, h2⟩
        · have e1 : decide (0 < (i : Int)) = false := fal_of (by omega)
          have e2 : ((i : Int) == 0) = true := by simpa using h1
          have hst := hst0
          simp only [if_pos h1] at hst
          rw [e1]
          have hl2 : l ≤ 4 * (i + 1) := by omega
          refine CallQ.ren [(1, 1), (2, 2), (3, 130)] 131 (fprot f hf u hu (by omega) c) (clSU _ _) rfl rfl ⟨⟨_, rfl, wkS _ _ _⟩, ⟨_, rfl, wkU _ _ _ _⟩, trivial⟩ rfl (.inl rfl) ?_
          simp only [Mem.ren, List.map_cons, List.map_nil, Bk.ren, List.map_map, V.ren, W.ren, Cv.ren, rn, Nat.reduceBEq, cond_true, cond_false, Function.comp_def]
          simp (config := { maxSteps := 2000000 }) only [go_sem, Nat.reduceBEq, Nat.reduceAdd, Nat.reduceLT, Nat.reduceLeDiff, Nat.reduceEqDiff, reduceCtorEq, Int.reduceAdd, Int.reduceSub, Int.reduceNeg, Int.reduceLE, Int.reduceLT, Int.reduceToNat, Int.reduceBEq, Int.reduceBNe, Int.reduceEq, Int.reduceNe, Int.toNat_zero, Int.toNat_one, bne_self_eq_false, Nat.reduceMul, Nat.zero_mul, Nat.mul_one, Nat.one_mul, Nat.reduceSub, Int.cast_ofNat_Int, Int.toNat_natCast]
          refine mtch (fun hp => ?_) (fun hp => ?_)
          · have hp : pcE f u c ≠ 0 := by simpa using hp
            have hb := pcE_n hp
            exact RetQ.of hR rfl ⟨rfl, trivial⟩ (by rw [hb]; rfl) (hsub _ ⟨⟨_, rfl, .inl rfl⟩, ⟨_, rfl, .inl rfl⟩, ⟨_, rfl, .inl rfl⟩, trivial⟩) hM (ClV.of rfl)
          · have hp : pcE f u c = 0 := by simpa using hp
            obtain ⟨hge, _, hb2⟩ := pcE_0 hp
            have hln : (prot f u c).length = u.length := prot_length f u c
            obtain ⟨_, _, _, h22, _⟩ := gE_0 hge
            have hcl := hwf c hge (by omega)
            rw [hwe c hge, hwr c hge, hst h22] at hcl
            simp only [hb2]
            generalize prot f u c = pu at *
            refine CallQ.ren [(1, 1), (2, 130)] 140 hcl (clSU f pu) rfl rfl ⟨⟨_, rfl, wkS _ _ _⟩, ⟨_, rfl, wkU _ _ _ _⟩, trivial⟩ rfl (.inr rfl) ?_
            simp only [w2]
            simp (config := { maxSteps := 2000000 }) only [go_sem, Nat.reduceBEq, Nat.reduceAdd, Nat.reduceLT, Nat.reduceLeDiff, Nat.reduceEqDiff, reduceCtorEq, Int.reduceAdd, Int.reduceSub, Int.reduceNeg, Int.reduceLE, Int.reduceLT, Int.reduceToNat, Int.reduceBEq, Int.reduceBNe, Int.reduceEq, Int.reduceNe, Int.toNat_zero, Int.toNat_one, bne_self_eq_false, Nat.reduceMul, Nat.zero_mul, Nat.mul_one, Nat.one_mul, Nat.reduceSub, Int.cast_ofNat_Int, Int.toNat_natCast, e2]
            have wi : IntKind.i64.wrap ((i : Int) + 1) = ((i + 1 : Nat) : Int) := by rw [w64 (by omega) (by omega)]; omega
            have hw3 : wtL (wI (i + 1) c l) = [.v (.bool true), .v (.int .i64 (c : Nat)), .v (.int .i64 (min 1000 ((l : Nat) : Int))), .v (.int .i64 0)] := by rw [w2]; rfl
            refine hb _ _ ⟨(i + 1, c, l), hic, by omega, hl2, by intro h; simp at h⟩ [(1, 1), (2, 2), (3, 3), (4, 4), (5, 5)] (by simp only; omega) ?_
            simp only [hw3, wi]
            exact ⟨rfl, ⟨⟨rfl, rfl⟩, ⟨rfl, rfl⟩, ⟨rfl, rfl⟩, trivial⟩, ⟨rfl, rfl, rfl, rfl, rfl, rfl, rfl, rfl, trivial⟩, ⟨.inr ⟨_, rfl, .inl rfl⟩, .inr ⟨_, rfl, .inl rfl⟩, .inr ⟨_, rfl, .inl (renV (v_ss _))⟩, .inr ⟨_, rfl, .inl (renV (v_u _))⟩, .inr ⟨_, rfl, .inl (renV (v_u _))⟩, trivial⟩⟩
        · have e1 : decide (0 < (i : Int)) = true := tru_of (by omega)
          have e2 : ((i : Int) == 0) = false := by simpa using h1
          have e3 : ((b : Int) == 0) = true := by simpa using h2
          have hst := hst0
          simp only [if_neg h1, if_pos h2, if_pos (show b ≤ 1 by omega)] at hst
          rw [e1]
          simp only [wc]
          have hl2 : l ≤ 4 * (i + 1) := by omega
          have hc2 : (c + b) % 15 ≤ 14 := by omega
          generalize (c + b) % 15 = c2 at *
          refine CallQ.ren [(1, 1), (2, 2), (3, 130)] 131 (fprot f hf u hu (by omega) c2) (clSU _ _) rfl rfl ⟨⟨_, rfl, wkS _ _ _⟩, ⟨_, rfl, wkU _ _ _ _⟩, trivial⟩ rfl (.inl rfl) ?_
          simp only [Mem.ren, List.map_cons, List.map_nil, Bk.ren, List.map_map, V.ren, W.ren, Cv.ren, rn, Nat.reduceBEq, cond_true, cond_false, Function.comp_def]
          simp (config := { maxSteps := 2000000 }) only [go_sem, Nat.reduceBEq, Nat.reduceAdd, Nat.reduceLT, Nat.reduceLeDiff, Nat.reduceEqDiff, reduceCtorEq, Int.reduceAdd, Int.reduceSub, Int.reduceNeg, Int.reduceLE, Int.reduceLT, Int.reduceToNat, Int.reduceBEq, Int.reduceBNe, Int.reduceEq, Int.reduceNe, Int.toNat_zero, Int.toNat_one, bne_self_eq_false, Nat.reduceMul, Nat.zero_mul, Nat.mul_one, Nat.one_mul, Nat.reduceSub, Int.cast_ofNat_Int, Int.toNat_natCast]
          refine mtch (fun hp => ?_) (fun hp => ?_)
          · have hp : pcE f u c2 ≠ 0 := by simpa using hp
            have hb := pcE_n hp
            exact RetQ.of hR rfl ⟨rfl, trivial⟩ (by rw [hb]; rfl) (hsub _ ⟨⟨_, rfl, .inl rfl⟩, ⟨_, rfl, .inl rfl⟩, ⟨_, rfl, .inl rfl⟩, trivial⟩) hM (ClV.of rfl)
          · have hp : pcE f u c2 = 0 := by simpa using hp
            obtain ⟨hge, _, hb2⟩ := pcE_0 hp
            have hln : (prot f u c2).length = u.length := prot_length f u c2
            obtain ⟨_, _, _, h22, _⟩ := gE_0 hge
            have hcl := hwf c2 hge (by omega)
            rw [hwe c2 hge, hwr c2 hge, hst h22] at hcl
            simp only [hb2]
            generalize prot f u c2 = pu at *
            refine CallQ.ren [(1, 1), (2, 130)] 140 hcl (clSU f pu) rfl rfl ⟨⟨_, rfl, wkS _ _ _⟩, ⟨_, rfl, wkU _ _ _ _⟩, trivial⟩ rfl (.inr rfl) ?_
            simp only [w2]
            simp (config := { maxSteps := 2000000 }) only [go_sem, Nat.reduceBEq, Nat.reduceAdd, Nat.reduceLT, Nat.reduceLeDiff, Nat.reduceEqDiff, reduceCtorEq, Int.reduceAdd, Int.reduceSub, Int.reduceNeg, Int.reduceLE, Int.reduceLT, Int.reduceToNat, Int.reduceBEq, Int.reduceBNe, Int.reduceEq, Int.reduceNe, Int.toNat_zero, Int.toNat_one, bne_self_eq_false, Nat.reduceMul, Nat.zero_mul, Nat.mul_one, Nat.one_mul, Nat.reduceSub, Int.cast_ofNat_Int, Int.toNat_natCast, e2, e3]
            have wi : IntKind.i64.wrap ((i : Int) + 1) = ((i + 1 : Nat) : Int) := by rw [w64 (by omega) (by omega)]; omega
            have hw3 : wtL (wI (i + 1) c2 l) = [.v (.bool true), .v (.int .i64 (c2 : Nat)), .v (.int .i64 (min 1000 ((l : Nat) : Int))), .v (.int .i64 0)] := by rw [w2]; rfl
            refine hb _ _ ⟨(i + 1, c2, l), hic, by omega, hl2, by intro h; simp at h⟩ [(1, 1), (2, 2), (3, 3), (4, 4), (5, 5)] (by simp only; omega) ?_
            simp only [hw3, wi]
            exact ⟨rfl, ⟨⟨rfl, rfl⟩, ⟨rfl, rfl⟩, ⟨rfl, rfl⟩, trivial⟩, ⟨rfl, rfl, rfl, rfl, rfl, rfl, rfl, rfl, trivial⟩, ⟨.inr ⟨_, rfl, .inl rfl⟩, .inr ⟨_, rfl, .inl rfl⟩, .inr ⟨_, rfl, .inl (renV (v_ss _))⟩, .inr ⟨_, rfl, .inl (renV (v_u _))⟩, .inr ⟨_, rfl, .inl (renV (v_u _))⟩, trivial⟩⟩
        · have e1 : decide (0 < (i : Int)) = true := tru_of (by omega)
          have e2 : ((i : Int) == 0) = false := by simpa using h1
          have e3 : ((b : Int) == 0) = false := by simp; omega
          have e4 : decide (1 < (b : Int)) = false := fal_of (by omega)
          have hst := hst0
          simp only [if_neg h1, if_neg (show ¬ b = 0 by omega), if_pos h2, if_pos (show b ≤ 1 by omega)] at hst
          rw [e1]
          simp only [wc]
          have hl2 : l ≤ 4 * (i + 1) := by omega
          have hc2 : (c + b) % 15 ≤ 14 := by omega
          generalize (c + b) % 15 = c2 at *
          refine CallQ.ren [(1, 1), (2, 2), (3, 130)] 131 (fprot f hf u hu (by omega) c2) (clSU _ _) rfl rfl ⟨⟨_, rfl, wkS _ _ _⟩, ⟨_, rfl, wkU _ _ _ _⟩, trivial⟩ rfl (.inl rfl) ?_
          simp only [Mem.ren, List.map_cons, List.map_nil, Bk.ren, List.map_map, V.ren, W.ren, Cv.ren, rn, Nat.reduceBEq, cond_true, cond_false, Function.comp_def]
          simp (config := { maxSteps := 2000000 }) only [go_sem, Nat.reduceBEq, Nat.reduceAdd, Nat.reduceLT, Nat.reduceLeDiff, Nat.reduceEqDiff, reduceCtorEq, Int.reduceAdd, Int.reduceSub, Int.reduceNeg, Int.reduceLE, Int.reduceLT, Int.reduceToNat, Int.reduceBEq, Int.reduceBNe, Int.reduceEq, Int.reduceNe, Int.toNat_zero, Int.toNat_one, bne_self_eq_false, Nat.reduceMul, Nat.zero_mul, Nat.mul_one, Nat.one_mul, Nat.reduceSub, Int.cast_ofNat_Int, Int.toNat_natCast]
          refine mtch (fun hp => ?_) (fun hp => ?_)
          · have hp : pcE f u c2 ≠ 0 := by simpa using hp
            have hb := pcE_n hp
            exact RetQ.of hR rfl ⟨rfl, trivial⟩ (by rw [hb]; rfl) (hsub _ ⟨⟨_, rfl, .inl rfl⟩, ⟨_, rfl, .inl rfl⟩, ⟨_, rfl, .inl rfl⟩, trivial⟩) hM (ClV.of rfl)
          · have hp : pcE f u c2 = 0 := by simpa using hp
            obtain ⟨hge, _, hb2⟩ := pcE_0 hp
            have hln : (prot f u c2).length = u.length := prot_length f u c2
            obtain ⟨_, _, _, h22, _⟩ := gE_0 hge
            have hcl := hwf c2 hge (by omega)
            rw [hwe c2 hge, hwr c2 hge, hst h22] at hcl
            simp only [hb2]
            generalize prot f u c2 = pu at *
            refine CallQ.ren [(1, 1), (2, 130)] 140 hcl (clSU f pu) rfl rfl ⟨⟨_, rfl, wkS _ _ _⟩, ⟨_, rfl, wkU _ _ _ _⟩, trivial⟩ rfl (.inr rfl) ?_
            simp only [w2]
            simp (config := { maxSteps := 2000000 }) only [go_sem, Nat.reduceBEq, Nat.reduceAdd, Nat.reduceLT, Nat.reduceLeDiff, Nat.reduceEqDiff, reduceCtorEq, Int.reduceAdd, Int.reduceSub, Int.reduceNeg, Int.reduceLE, Int.reduceLT, Int.reduceToNat, Int.reduceBEq, Int.reduceBNe, Int.reduceEq, Int.reduceNe, Int.toNat_zero, Int.toNat_one, bne_self_eq_false, Nat.reduceMul, Nat.zero_mul, Nat.mul_one, Nat.one_mul, Nat.reduceSub, Int.cast_ofNat_Int, Int.toNat_natCast, e2, e3, e4]
            have wi : IntKind.i64.wrap ((i : Int) + 1) = ((i + 1 : Nat) : Int) := by rw [w64 (by omega) (by omega)]; omega
            have hw3 : wtL (wI (i + 1) c2 l) = [.v (.bool true), .v (.int .i64 (c2 : Nat)), .v (.int .i64 (min 1000 ((l : Nat) : Int))), .v (.int .i64 0)] := by rw [w2]; rfl
            refine hb _ _ ⟨(i + 1, c2, l), hic, by omega, hl2, by intro h; simp at h⟩ [(1, 1), (2, 2), (3, 3), (4, 4), (5, 5)] (by simp only; omega) ?_
            simp only [hw3, wi]
            exact ⟨rfl, ⟨⟨rfl, rfl⟩, ⟨rfl, rfl⟩, ⟨rfl, rfl⟩, trivial⟩, ⟨rfl, rfl, rfl, rfl, rfl, rfl, rfl, rfl, trivial⟩, ⟨.inr ⟨_, rfl, .inl rfl⟩, .inr ⟨_, rfl, .inl rfl⟩, .inr ⟨_, rfl, .inl (renV (v_ss _))⟩, .inr ⟨_, rfl, .inl (renV (v_u _))⟩, .inr ⟨_, rfl, .inl (renV (v_u _))⟩, trivial⟩⟩
        · have e1 : decide (0 < (i : Int)) = true := tru_of (by omega)
          have e2 : ((i : Int) == 0) = false := by simpa using h1
          have e3 : ((b : Int) == 0) = false := by simp; omega
          have e4 : decide (1 < (b : Int)) = true := tru_of (by omega)
          have hst := hst0
          simp only [if_neg h1, if_neg (show ¬ b = 0 by omega), if_neg (show ¬ b = 1 by omega), if_neg (show ¬ b ≤ 1 by omega)] at hst
          have wl : IntKind.i64.wrap ((l : Int) + IntKind.i64.wrap ((b : Int) - 1)) = ((l + (b - 1) : Nat) : Int) := by rw [w64 (x := (b : Int) - 1) (by omega) (by omega), w64 (by omega) (by omega)]; omega
          rw [e1]
          simp only [wc]
          have hl2 : l + (b - 1) ≤ 4 * (i + 1) := by omega
          have hc2 : (c + b) % 15 ≤ 14 := by omega
          generalize (c + b) % 15 = c2 at *
          generalize l + (b - 1) = l2 at *
          refine CallQ.ren [(1, 1), (2, 2), (3, 130)] 131 (fprot f hf u hu (by omega) c2) (clSU _ _) rfl rfl ⟨⟨_, rfl, wkS _ _ _⟩, ⟨_, rfl, wkU _ _ _ _⟩, trivial⟩ rfl (.inl rfl) ?_
          simp only [Mem.ren, List.map_cons, List.map_nil, Bk.ren, List.map_map, V.ren, W.ren, Cv.ren, rn, Nat.reduceBEq, cond_true, cond_false, Function.comp_def]
          simp (config := { maxSteps := 2000000 }) only [go_sem, Nat.reduceBEq, Nat.reduceAdd, Nat.reduceLT, Nat.reduceLeDiff, Nat.reduceEqDiff, reduceCtorEq, Int.reduceAdd, Int.reduceSub, Int.reduceNeg, Int.reduceLE, Int.reduceLT, Int.reduceToNat, Int.reduceBEq, Int.reduceBNe, Int.reduceEq, Int.reduceNe, Int.toNat_zero, Int.toNat_one, bne_self_eq_false, Nat.reduceMul, Nat.zero_mul, Nat.mul_one, Nat.one_mul, Nat.reduceSub, Int.cast_ofNat_Int, Int.toNat_natCast]
          refine mtch (fun hp => ?_) (fun hp => ?_)
          · have hp : pcE f u c2 ≠ 0 := by simpa using hp
            have hb := pcE_n hp
            exact RetQ.of hR rfl ⟨rfl, trivial⟩ (by rw [hb]; rfl) (hsub _ ⟨⟨_, rfl, .inl rfl⟩, ⟨_, rfl, .inl rfl⟩, ⟨_, rfl, .inl rfl⟩, trivial⟩) hM (ClV.of rfl)
          · have hp : pcE f u c2 = 0 := by simpa using hp
            obtain ⟨hge, _, hb2⟩ := pcE_0 hp
            have hln : (prot f u c2).length = u.length := prot_length f u c2
            obtain ⟨_, _, _, h22, _⟩ := gE_0 hge
            have hcl := hwf c2 hge (by omega)
            rw [hwe c2 hge, hwr c2 hge, hst h22] at hcl
            simp only [hb2]
            generalize prot f u c2 = pu at *
            refine CallQ.ren [(1, 1), (2, 130)] 140 hcl (clSU f pu) rfl rfl ⟨⟨_, rfl, wkS _ _ _⟩, ⟨_, rfl, wkU _ _ _ _⟩, trivial⟩ rfl (.inr rfl) ?_
            simp only [w2]
            simp (config := { maxSteps := 2000000 }) only [go_sem, Nat.reduceBEq, Nat.reduceAdd, Nat.reduceLT, Nat.reduceLeDiff, Nat.reduceEqDiff, reduceCtorEq, Int.reduceAdd, Int.reduceSub, Int.reduceNeg, Int.reduceLE, Int.reduceLT, Int.reduceToNat, Int.reduceBEq, Int.reduceBNe, Int.reduceEq, Int.reduceNe, Int.toNat_zero, Int.toNat_one, bne_self_eq_false, Nat.reduceMul, Nat.zero_mul, Nat.mul_one, Nat.one_mul, Nat.reduceSub, Int.cast_ofNat_Int, Int.toNat_natCast, e2, e3, e4, wl]
            have wi : IntKind.i64.wrap ((i : Int) + 1) = ((i + 1 : Nat) : Int) := by rw [w64 (by omega) (by omega)]; omega
            have hw3 : wtL (wI (i + 1) c2 l2) = [.v (.bool true), .v (.int .i64 (c2 : Nat)), .v (.int .i64 (min 1000 ((l2 : Nat) : Int))), .v (.int .i64 0)] := by rw [w2]; rfl
            refine hb _ _ ⟨(i + 1, c2, l2), hic, by omega, hl2, by intro h; simp at h⟩ [(1, 1), (2, 2), (3, 3), (4, 4), (5, 5)] (by simp only; omega) ?_
            simp only [hw3, wi]
            exact ⟨rfl, ⟨⟨rfl, rfl⟩, ⟨rfl, rfl⟩, ⟨rfl, rfl⟩, trivial⟩, ⟨rfl, rfl, rfl, rfl, rfl, rfl, rfl, rfl, trivial⟩, ⟨.inr ⟨_, rfl, .inl rfl⟩, .inr ⟨_, rfl, .inl rfl⟩, .inr ⟨_, rfl, .inl (renV (v_ss _))⟩, .inr ⟨_, rfl, .inl (renV (v_u _))⟩, .inr ⟨_, rfl, .inl (renV (v_u _))⟩, trivial⟩⟩
      · exact RetQ.of hR rfl ⟨rfl, trivial⟩ rfl (hsub _ ⟨⟨_, rfl, .inl rfl⟩, ⟨_, rfl, .inl rfl⟩, ⟨_, rfl, .inl rfl⟩, trivial⟩) hM (ClV.of rfl)
end Go.Proofs.Ytcdclmelnnbdnaa
