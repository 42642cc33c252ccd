/- The law FrameGuards. -/
import Derived.Test.YtcdclmelnnbdnaaC2
namespace Go.Proofs.Ytcdclmelnnbdnaa
open Vg Tf
set_option linter.unusedSimpArgs false
set_option linter.unusedVariables false
set_option maxRecDepth 100000
set_option maxHeartbeats 4000000
theorem clU (l : List Nat) : ClM [bBr 2 l] := clB 2 l
theorem law_guards (f : Fm) (hf0 : f.bd) (hs0 : f.sgs.length ≤ 9223372036854775807) (u : List Nat) (hu : ∀ x ∈ u, x < 256) (hr0 : u.length ≤ 9223372036854775807) (c : Int) : CallOk Try.prog 5 [fm5 1 f, slV 2 u.length, I c] [bS 1 f.sgs, bBr 2 u] (Bo true) [] := by
  have hM := clSU f u
  refine CallOk.mkN 100 Try.func5 rfl en5 (by simp [Try.ntmps5]) (ClA.of rfl) rfl rfl fun C hR hP => ?_
  simp (config := { maxSteps := 2000000 }) only [go_sem, Nat.reduceBEq, Nat.reduceAdd, Nat.reduceLT, Nat.reduceLeDiff, Nat.reduceEqDiff, reduceCtorEq, Int.reduceAdd, Int.reduceSub, Int.reduceNeg, Int.reduceLE, Int.reduceLT, Int.reduceToNat, Int.reduceBEq, Int.reduceBNe, Int.reduceEq, Int.reduceNe, Int.toNat_zero, Int.toNat_one, bne_self_eq_false, Nat.reduceMul, Nat.zero_mul, Nat.mul_one, Nat.one_mul, Nat.reduceSub, Int.cast_ofNat_Int, Int.toNat_natCast]
  refine CallQ.pure 110 lawake rfl ?_
  simp (config := { maxSteps := 2000000 }) only [go_sem, Nat.reduceBEq, Nat.reduceAdd, Nat.reduceLT, Nat.reduceLeDiff, Nat.reduceEqDiff, reduceCtorEq, Int.reduceAdd, Int.reduceSub, Int.reduceNeg, Int.reduceLE, Int.reduceLT, Int.reduceToNat, Int.reduceBEq, Int.reduceBNe, Int.reduceEq, Int.reduceNe, Int.toNat_zero, Int.toNat_one, bne_self_eq_false, Nat.reduceMul, Nat.zero_mul, Nat.mul_one, Nat.one_mul, Nat.reduceSub, Int.cast_ofNat_Int, Int.toNat_natCast]
  refine CallQ.ren [(1, 1)] 110 (lgreat f) (clS _) rfl rfl ⟨⟨_, rfl, wkS _ _ _⟩, trivial⟩ rfl (.inr rfl) ?_
  simp (config := { maxSteps := 2000000 }) only [go_sem, Nat.reduceBEq, Nat.reduceAdd, Nat.reduceLT, Nat.reduceLeDiff, Nat.reduceEqDiff, reduceCtorEq, Int.reduceAdd, Int.reduceSub, Int.reduceNeg, Int.reduceLE, Int.reduceLT, Int.reduceToNat, Int.reduceBEq, Int.reduceBNe, Int.reduceEq, Int.reduceNe, Int.toNat_zero, Int.toNat_one, bne_self_eq_false, Nat.reduceMul, Nat.zero_mul, Nat.mul_one, Nat.one_mul, Nat.reduceSub, Int.cast_ofNat_Int, Int.toNat_natCast]
  refine mtch (fun hg => ?_) (fun hg => ?_)
  · exact RetQ.of hR rfl ⟨rfl, trivial⟩ rfl (SubS.sub ⟨⟨_, rfl, .inl rfl⟩, ⟨_, rfl, .inl rfl⟩, trivial⟩) hM (ClV.of rfl)
  · have hg : f.sgs.length ≤ 24 ∧ u.length ≤ 100 := by simp only [Bool.cond_true_left, Bool.or_eq_false_iff, decide_eq_false_iff_not] at hg; omega
    have hf := hf0.ok (by omega)
    refine CallQ.ren [(1, 2)] 120 (fcrc u hu (by omega)) (clB _ _) rfl rfl ⟨⟨_, rfl, wkU _ _ _ _⟩, trivial⟩ rfl (.inr rfl) ?_
    simp (config := { maxSteps := 2000000 }) only [go_sem, Nat.reduceBEq, Nat.reduceAdd, Nat.reduceLT, Nat.reduceLeDiff, Nat.reduceEqDiff, reduceCtorEq, Int.reduceAdd, Int.reduceSub, Int.reduceNeg, Int.reduceLE, Int.reduceLT, Int.reduceToNat, Int.reduceBEq, Int.reduceBNe, Int.reduceEq, Int.reduceNe, Int.toNat_zero, Int.toNat_one, bne_self_eq_false, Nat.reduceMul, Nat.zero_mul, Nat.mul_one, Nat.one_mul, Nat.reduceSub, Int.cast_ofNat_Int, Int.toNat_natCast]
    refine CallQ.ren [(1, 2)] 120 (rcrc u hu (by omega)) (clB _ _) rfl rfl ⟨⟨_, rfl, wkU _ _ _ _⟩, trivial⟩ rfl (.inr rfl) ?_
    simp (config := { maxSteps := 2000000 }) only [go_sem, Nat.reduceBEq, Nat.reduceAdd, Nat.reduceLT, Nat.reduceLeDiff, Nat.reduceEqDiff, reduceCtorEq, Int.reduceAdd, Int.reduceSub, Int.reduceNeg, Int.reduceLE, Int.reduceLT, Int.reduceToNat, Int.reduceBEq, Int.reduceBNe, Int.reduceEq, Int.reduceNe, Int.toNat_zero, Int.toNat_one, bne_self_eq_false, Nat.reduceMul, Nat.zero_mul, Nat.mul_one, Nat.one_mul, Nat.reduceSub, Int.cast_ofNat_Int, Int.toNat_natCast]
    refine CallQ.ren [(1, 1), (2, 2), (3, 130)] 131 (fprot f hf u hu (by omega) c) hM rfl rfl ⟨⟨_, rfl, wkS _ _ _⟩, ⟨_, rfl, wkU _ _ _ _⟩, trivial⟩ rfl (.inl rfl) ?_
    simp only [Mem.ren, List.map_cons, List.map_nil, Bk.ren, List.map_map, V.ren, W.ren, Cv.ren, rn, Nat.reduceBEq, cond_true, cond_false, Function.comp_def]
    simp (config := { maxSteps := 2000000 }) only [go_sem, Nat.reduceBEq, Nat.reduceAdd, Nat.reduceLT, Nat.reduceLeDiff, Nat.reduceEqDiff, reduceCtorEq, Int.reduceAdd, Int.reduceSub, Int.reduceNeg, Int.reduceLE, Int.reduceLT, Int.reduceToNat, Int.reduceBEq, Int.reduceBNe, Int.reduceEq, Int.reduceNe, Int.toNat_zero, Int.toNat_one, bne_self_eq_false, Nat.reduceMul, Nat.zero_mul, Nat.mul_one, Nat.one_mul, Nat.reduceSub, Int.cast_ofNat_Int, Int.toNat_natCast]
    refine CallQ.ren [(1, 1)] 131 (rframe f hf) (clS _) rfl rfl ⟨⟨_, rfl, wkS _ _ _⟩, trivial⟩ rfl (.inr rfl) ?_
    simp (config := { maxSteps := 2000000 }) only [go_sem, Nat.reduceBEq, Nat.reduceAdd, Nat.reduceLT, Nat.reduceLeDiff, Nat.reduceEqDiff, reduceCtorEq, Int.reduceAdd, Int.reduceSub, Int.reduceNeg, Int.reduceLE, Int.reduceLT, Int.reduceToNat, Int.reduceBEq, Int.reduceBNe, Int.reduceEq, Int.reduceNe, Int.toNat_zero, Int.toNat_one, bne_self_eq_false, Nat.reduceMul, Nat.zero_mul, Nat.mul_one, Nat.one_mul, Nat.reduceSub, Int.cast_ofNat_Int, Int.toNat_natCast]
    have out : ∀ k : Int, k ≠ 0 → pcE f u c = k → (pcE f u c == k) = true ∧ pcB f u c = [] := fun k hk h => ⟨by simpa using h, by rw [pcB, h, show (k == 0) = false by simpa using hk]; rfl⟩
    refine mtch (fun hz => ?_) (fun hz => ?_)
    · have hz : fok f = false := by simpa using hz
      obtain ⟨h1, h2⟩ := out 1 (by omega) (by rw [pcE, gE, hz]; rfl)
      exact RetQ.of hR rfl ⟨rfl, trivial⟩ (by rw [h1, h2]; rfl) (SubS.sub ⟨⟨_, rfl, .inl rfl⟩, ⟨_, rfl, .inl rfl⟩, trivial⟩) hM (ClV.of rfl)
    · have hz : fok f = true := by simpa using hz
      refine mtch (fun hl => ?_) (fun hl => ?_)
      · have hl : ¬ (u.length : Int) = f.ln := by simpa using hl
        obtain ⟨h1, h2⟩ := out 3 (by omega) (by rw [pcE, gE, hz, fal_of hl]; rfl)
        exact RetQ.of hR rfl ⟨rfl, trivial⟩ (by rw [h1, h2]; rfl) (SubS.sub ⟨⟨_, rfl, .inl rfl⟩, ⟨_, rfl, .inl rfl⟩, trivial⟩) hM (ClV.of rfl)
      · have hl : (u.length : Int) = f.ln := by simpa using hl
        refine mtch (fun hg2 => ?_) (fun hg2 => ?_)
        · have hg2 : f.gd = false := by simpa using hg2
          obtain ⟨h1, h2⟩ := out 6 (by omega) (by rw [pcE, gE, hz, tru_of hl, hg2]; rfl)
          exact RetQ.of hR rfl ⟨rfl, trivial⟩ (by rw [h1, h2]; rfl) (SubS.sub ⟨⟨_, rfl, .inl rfl⟩, ⟨_, rfl, .inl rfl⟩, trivial⟩) hM (ClV.of rfl)
        · have hg2 : f.gd = true := by simpa using hg2
          have hge : gE f u = 0 := by rw [gE, hz, tru_of hl, hg2]; rfl
          obtain ⟨hv, _, _, h2, h8⟩ := gE_0 hge
          refine mtch (fun hc => ?_) (fun hc => ?_)
          · have hc : inR c 0 14 = false := by
              simp only [Bool.cond_true_left, Bool.or_eq_true, decide_eq_true_eq] at hc
              rw [inR, decide_eq_false_iff_not]; omega
            obtain ⟨h1, h2⟩ := out 2 (by omega) (by rw [pcE, hge, hc]; rfl)
            exact RetQ.of hR rfl ⟨rfl, trivial⟩ (by rw [h1, h2]; rfl) (SubS.sub ⟨⟨_, rfl, .inl rfl⟩, ⟨_, rfl, .inl rfl⟩, trivial⟩) hM (ClV.of rfl)
          · have hc : 0 ≤ c ∧ c ≤ 14 := by
              simp only [Bool.cond_true_left, Bool.or_eq_false_iff, decide_eq_false_iff_not] at hc; omega
            have he : pcE f u c = 0 := by rw [pcE, hge, inR_iff.2 hc]; rfl
            obtain ⟨m, rfl⟩ := Int.eq_ofNat_of_zero_le hc.1
            have hb : pcB f u m = prot f u m := by rw [pcB, he]; rfl
            have hlt := prot_lt f hu (show m < 16 by omega)
            have hbe := bequal _ _ hlt hlt
            have hrp := rprot f u hu h2 (by omega) hv.id m (by omega)
            simp only [prot_length, decide_true] at hbe
            rw [he, hb]
            simp only [prot_length]
            generalize prot f u m = L at *
            simp (config := { maxSteps := 2000000 }) only [go_sem, Nat.reduceBEq, Nat.reduceAdd, Nat.reduceLT, Nat.reduceLeDiff, Nat.reduceEqDiff, reduceCtorEq, Int.reduceAdd, Int.reduceSub, Int.reduceNeg, Int.reduceLE, Int.reduceLT, Int.reduceToNat, Int.reduceBEq, Int.reduceBNe, Int.reduceEq, Int.reduceNe, Int.toNat_zero, Int.toNat_one, bne_self_eq_false, Nat.reduceMul, Nat.zero_mul, Nat.mul_one, Nat.one_mul, Nat.reduceSub, Int.cast_ofNat_Int, Int.toNat_natCast]
            refine CallQ.ren [(1, 1), (2, 2), (3, 150)] 151 hrp hM rfl rfl ⟨⟨_, rfl, wkS _ _ _⟩, ⟨_, rfl, wkU _ _ _ _⟩, trivial⟩ rfl (.inl rfl) ?_
            simp only [Mem.ren, List.map_cons, List.map_nil, Bk.ren, List.map_map, V.ren, W.ren, Cv.ren, rn, Nat.reduceBEq, cond_true, cond_false, Function.comp_def]
            simp (config := { maxSteps := 2000000 }) only [go_sem, Nat.reduceBEq, Nat.reduceAdd, Nat.reduceLT, Nat.reduceLeDiff, Nat.reduceEqDiff, reduceCtorEq, Int.reduceAdd, Int.reduceSub, Int.reduceNeg, Int.reduceLE, Int.reduceLT, Int.reduceToNat, Int.reduceBEq, Int.reduceBNe, Int.reduceEq, Int.reduceNe, Int.toNat_zero, Int.toNat_one, bne_self_eq_false, Nat.reduceMul, Nat.zero_mul, Nat.mul_one, Nat.one_mul, Nat.reduceSub, Int.cast_ofNat_Int, Int.toNat_natCast]
            refine CallQ.ren [(1, 130), (2, 150)] 151 hbe (clB2 _ _) rfl rfl ⟨⟨_, rfl, wkU _ _ _ _⟩, ⟨_, rfl, wkU _ _ _ _⟩, trivial⟩ rfl (.inr rfl) ?_
            simp (config := { maxSteps := 2000000 }) only [go_sem, Nat.reduceBEq, Nat.reduceAdd, Nat.reduceLT, Nat.reduceLeDiff, Nat.reduceEqDiff, reduceCtorEq, Int.reduceAdd, Int.reduceSub, Int.reduceNeg, Int.reduceLE, Int.reduceLT, Int.reduceToNat, Int.reduceBEq, Int.reduceBNe, Int.reduceEq, Int.reduceNe, Int.toNat_zero, Int.toNat_one, bne_self_eq_false, Nat.reduceMul, Nat.zero_mul, Nat.mul_one, Nat.one_mul, Nat.reduceSub, Int.cast_ofNat_Int, Int.toNat_natCast]
            exact RetQ.of hR rfl ⟨rfl, trivial⟩ rfl (SubS.sub ⟨⟨_, rfl, .inl rfl⟩, ⟨_, rfl, .inl rfl⟩, trivial⟩) hM (ClV.of rfl)
end Go.Proofs.Ytcdclmelnnbdnaa
