/- The law FrameWatches. -/
import Derived.Test.YtcdclmelnnbdnaaC6
namespace Go.Proofs.Ytcdclmelnnbdnaa
open Vg Tf
set_option linter.unusedSimpArgs false
set_option linter.unusedVariables false
set_option maxRecDepth 100000
set_option maxHeartbeats 4000000
theorem law_watches (w : Wt) (f : Fm) (hf0 : f.bd) (hs0 : f.sgs.length ≤ 9223372036854775807) (u : List Nat) (hu : ∀ x ∈ u, x < 256) (hr0 : u.length ≤ 9223372036854775807) : CallOk Try.prog 7 [wt w, fm5 1 f, slV 2 u.length] [bS 1 f.sgs, bBr 2 u] (Bo true) [] := by
  have hM := clSU f u
  have hsub : ∀ M' : Mem, SubS [bS 1 f.sgs, bBr 2 u] M' → Vg.Sub [bS 1 f.sgs, bBr 2 u] M' := fun _ h => h.sub
  refine CallOk.mkN 100 Try.func7 rfl en7 (by simp [Try.ntmps7]) (ClA.of rfl) rfl rfl fun C hR hP => ?_
  simp (config := { maxSteps := 2000000 }) only [go_sem, Nat.reduceBEq, Nat.reduceAdd, Nat.reduceLT, Nat.reduceLeDiff, Nat.reduceEqDiff, reduceCtorEq, Int.reduceAdd, Int.reduceSub, Int.reduceNeg, Int.reduceLE, Int.reduceLT, Int.reduceToNat, Int.reduceBEq, Int.reduceBNe, Int.reduceEq, Int.reduceNe, Int.toNat_zero, Int.toNat_one, bne_self_eq_false, Nat.reduceMul, Nat.zero_mul, Nat.mul_one, Nat.one_mul, Nat.reduceSub, Int.cast_ofNat_Int, Int.toNat_natCast]
  refine CallQ.pure 110 lawake rfl ?_
  simp (config := { maxSteps := 2000000 }) only [go_sem, Nat.reduceBEq, Nat.reduceAdd, Nat.reduceLT, Nat.reduceLeDiff, Nat.reduceEqDiff, reduceCtorEq, Int.reduceAdd, Int.reduceSub, Int.reduceNeg, Int.reduceLE, Int.reduceLT, Int.reduceToNat, Int.reduceBEq, Int.reduceBNe, Int.reduceEq, Int.reduceNe, Int.toNat_zero, Int.toNat_one, bne_self_eq_false, Nat.reduceMul, Nat.zero_mul, Nat.mul_one, Nat.one_mul, Nat.reduceSub, Int.cast_ofNat_Int, Int.toNat_natCast]
  refine CallQ.ren [(1, 1)] 110 (lgreat f) (clS _) rfl rfl ⟨⟨_, rfl, wkS _ _ _⟩, trivial⟩ rfl (.inr rfl) ?_
  simp (config := { maxSteps := 2000000 }) only [go_sem, Nat.reduceBEq, Nat.reduceAdd, Nat.reduceLT, Nat.reduceLeDiff, Nat.reduceEqDiff, reduceCtorEq, Int.reduceAdd, Int.reduceSub, Int.reduceNeg, Int.reduceLE, Int.reduceLT, Int.reduceToNat, Int.reduceBEq, Int.reduceBNe, Int.reduceEq, Int.reduceNe, Int.toNat_zero, Int.toNat_one, bne_self_eq_false, Nat.reduceMul, Nat.zero_mul, Nat.mul_one, Nat.one_mul, Nat.reduceSub, Int.cast_ofNat_Int, Int.toNat_natCast]
  refine mtch (fun hg => ?_) (fun hg => ?_)
  · exact RetQ.of hR rfl ⟨rfl, trivial⟩ rfl (hsub _ ⟨⟨_, rfl, .inl rfl⟩, ⟨_, rfl, .inl rfl⟩, trivial⟩) hM (ClV.of rfl)
  · have hg : f.sgs.length ≤ 24 ∧ u.length ≤ 100 := by simp only [Bool.cond_true_left, Bool.or_eq_false_iff, decide_eq_false_iff_not] at hg; omega
    have hf := hf0.ok (by omega)
    refine CallQ.ren [(1, 1), (2, 2)] 131 (fwatch w f hf u hu (by omega)) hM rfl rfl ⟨⟨_, rfl, wkS _ _ _⟩, ⟨_, rfl, wkU _ _ _ _⟩, trivial⟩ rfl (.inr rfl) ?_
    simp only [Mem.ren, List.map_cons, List.map_nil, Bk.ren, List.map_map, V.ren, W.ren, Cv.ren, rn, Nat.reduceBEq, cond_true, cond_false, Function.comp_def]
    simp (config := { maxSteps := 2000000 }) only [go_sem, Nat.reduceBEq, Nat.reduceAdd, Nat.reduceLT, Nat.reduceLeDiff, Nat.reduceEqDiff, reduceCtorEq, Int.reduceAdd, Int.reduceSub, Int.reduceNeg, Int.reduceLE, Int.reduceLT, Int.reduceToNat, Int.reduceBEq, Int.reduceBNe, Int.reduceEq, Int.reduceNe, Int.toNat_zero, Int.toNat_one, bne_self_eq_false, Nat.reduceMul, Nat.zero_mul, Nat.mul_one, Nat.one_mul, Nat.reduceSub, Int.cast_ofNat_Int, Int.toNat_natCast]
    refine CallQ.pure 140 (rwok w) rfl ?_
    simp (config := { maxSteps := 2000000 }) only [go_sem, Nat.reduceBEq, Nat.reduceAdd, Nat.reduceLT, Nat.reduceLeDiff, Nat.reduceEqDiff, reduceCtorEq, Int.reduceAdd, Int.reduceSub, Int.reduceNeg, Int.reduceLE, Int.reduceLT, Int.reduceToNat, Int.reduceBEq, Int.reduceBNe, Int.reduceEq, Int.reduceNe, Int.toNat_zero, Int.toNat_one, bne_self_eq_false, Nat.reduceMul, Nat.zero_mul, Nat.mul_one, Nat.one_mul, Nat.reduceSub, Int.cast_ofNat_Int, Int.toNat_natCast]
    refine CallQ.gmem [(1, 1)] 140 (fun _ => rframe f hf) (clS _) rfl (fun h => by rw [h]; rfl) ⟨⟨_, rfl, wkS _ _ _⟩, trivial⟩ ?_
    simp (config := { maxSteps := 2000000 }) only [go_sem, Nat.reduceBEq, Nat.reduceAdd, Nat.reduceLT, Nat.reduceLeDiff, Nat.reduceEqDiff, reduceCtorEq, Int.reduceAdd, Int.reduceSub, Int.reduceNeg, Int.reduceLE, Int.reduceLT, Int.reduceToNat, Int.reduceBEq, Int.reduceBNe, Int.reduceEq, Int.reduceNe, Int.toNat_zero, Int.toNat_one, bne_self_eq_false, Nat.reduceMul, Nat.zero_mul, Nat.mul_one, Nat.one_mul, Nat.reduceSub, Int.cast_ofNat_Int, Int.toNat_natCast]
    have out : ∀ k : Int, k ≠ 0 → wE w f u = k → wR w f u = (wt0, 0) := fun k hk h => by rw [wR, h, show (k == 0) = false by simpa using hk]; rfl
    refine mtch (fun hz => ?_) (fun hz => ?_)
    · have he : wE w f u = 1 := by
        cases hw : wok w with
        | false => rw [wE, hw]; rfl
        | true => rw [hw] at hz; rw [wE, hw, cond_true, gE, show fok f = false by simpa using hz]; rfl
      have hr := out 1 (by omega) he
      exact RetQ.of hR rfl ⟨rfl, trivial⟩ (by rw [he, hr]; rfl) (hsub _ ⟨⟨_, rfl, .inl rfl⟩, ⟨_, rfl, .inl rfl⟩, trivial⟩) hM (ClV.of rfl)
    · have hwz : wok w = true ∧ fok f = true := by
        cases hw : wok w with
        | false => rw [hw] at hz; cases hz
        | true => rw [hw] at hz; exact ⟨rfl, by simpa using hz⟩
      obtain ⟨hw, hz⟩ := hwz
      refine mtch (fun hl => ?_) (fun hl => ?_)
      · have hl : ¬ (u.length : Int) = f.ln := by simpa using hl
        have he : wE w f u = 3 := by rw [wE, hw, cond_true, gE, hz, fal_of hl]; rfl
        have hr := out 3 (by omega) he
        exact RetQ.of hR rfl ⟨rfl, trivial⟩ (by rw [he, hr]; rfl) (hsub _ ⟨⟨_, rfl, .inl rfl⟩, ⟨_, rfl, .inl rfl⟩, trivial⟩) hM (ClV.of rfl)
      · have hl : (u.length : Int) = f.ln := by simpa using hl
        refine mtch (fun hg2 => ?_) (fun hg2 => ?_)
        · have hg2 : f.gd = false := by simpa using hg2
          have he : wE w f u = 6 := by rw [wE, hw, cond_true, gE, hz, tru_of hl, hg2]; rfl
          have hr := out 6 (by omega) he
          exact RetQ.of hR rfl ⟨rfl, trivial⟩ (by rw [he, hr]; rfl) (hsub _ ⟨⟨_, rfl, .inl rfl⟩, ⟨_, rfl, .inl rfl⟩, trivial⟩) hM (ClV.of rfl)
        · have hg2 : f.gd = true := by simpa using hg2
          have hge : gE f u = 0 := by rw [gE, hz, tru_of hl, hg2]; rfl
          have he : wE w f u = 0 := by rw [wE, hw, hge]; rfl
          have hr : wR w f u = stepW w f u := by rw [wR, he]; rfl
          rw [he, hr]
          refine CallQ.ren [(1, 1), (2, 2)] 150 (rstep w hw f u hu hge) hM rfl rfl ⟨⟨_, rfl, wkS _ _ _⟩, ⟨_, rfl, wkU _ _ _ _⟩, trivial⟩ rfl (.inr rfl) ?_
          simp only [Mem.ren, List.map_cons, List.map_nil, Bk.ren, List.map_map, V.ren, W.ren, Cv.ren, rn, Nat.reduceBEq, cond_true, cond_false, Function.comp_def]
          simp (config := { maxSteps := 2000000 }) only [go_sem, Nat.reduceBEq, Nat.reduceAdd, Nat.reduceLT, Nat.reduceLeDiff, Nat.reduceEqDiff, reduceCtorEq, Int.reduceAdd, Int.reduceSub, Int.reduceNeg, Int.reduceLE, Int.reduceLT, Int.reduceToNat, Int.reduceBEq, Int.reduceBNe, Int.reduceEq, Int.reduceNe, Int.toNat_zero, Int.toNat_one, bne_self_eq_false, Nat.reduceMul, Nat.zero_mul, Nat.mul_one, Nat.one_mul, Nat.reduceSub, Int.cast_ofNat_Int, Int.toNat_natCast]
          exact RetQ.of hR rfl ⟨rfl, trivial⟩ rfl (hsub _ ⟨⟨_, rfl, .inl rfl⟩, ⟨_, rfl, .inl rfl⟩, trivial⟩) hM (ClV.of rfl)
end Go.Proofs.Ytcdclmelnnbdnaa
