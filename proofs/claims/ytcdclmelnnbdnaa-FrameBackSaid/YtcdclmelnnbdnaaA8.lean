/- Frame: which frames are valid (reference). -/
import Derived.Test.YtcdclmelnnbdnaaA7
namespace Go.Proofs.Ytcdclmelnnbdnaa
open Vg Tf
set_option linter.unusedSimpArgs false
set_option linter.unusedVariables false
set_option maxRecDepth 100000
set_option maxHeartbeats 4000000
theorem clS (l : List Sg) : ClM [bS 1 l] := ClM.v (by simp only [List.all_cons, v_ss]; rfl)
theorem ss_nm (l : List Sg) (i : Nat) (h : i < l.length) : (l.flatMap sgL)[i * 10]? = some (.v (.string l[i].nm)) := by
  have h1 := congrArg (fun l => l[0]?) (ss_take l i h)
  simp only [List.getElem?_take, List.getElem?_drop] at h1
  simpa [sgL] using h1
theorem bitsL_le (s : Sg) : (bitsL s).length ≤ 32 := by
  cases h : sok s with
  | true => rw [bitsL_length h]; have := sok_bd h; omega
  | false => unfold bitsL; rw [h]; simp
def rpM (f : Fm) (s : Sg) : Mem := [(4, ⟨false, fmL 1 f, 24⟩), (5, ⟨false, sgL s, 33⟩), bN 6 (bitsL s), bS 1 f.sgs]
theorem clRp (f : Fm) (s : Sg) : ClM (rpM f s) := ClM.of (by simp only [rpM, List.all_cons, inMV (v_ss _), inMV (v_n _)]; rfl)
theorem rpart (f : Fm) (hf : f.ok) (h0 : 1 ≤ f.ln) (h8 : f.ln ≤ 8) (k : Nat) (hk : k < f.sgs.length) : CallOk Try.prog 80 [fm5 1 f, I k] [bS 1 f.sgs] (I (prE f.gd f.ln (f.sgs.take k) f.sgs[k])) [] := by
  have hM := clS f.sgs
  have hi' : f.sgs[k] ∈ f.sgs := List.getElem_mem hk
  have htk := ss_take f.sgs k hk
  have w8 : IntKind.i64.wrap (8 * f.ln) = 8 * f.ln := w64 (by omega) (by omega)
  generalize f.sgs[k] = s at *
  refine CallOk.mkN 100 Try.func80 rfl en80 (by simp [Try.ntmps80]) (ClA.of rfl) rfl rfl fun C hR hP => ?_
  simp (config := { maxSteps := 2000000 }) only [go_sem, Nat.reduceBEq, Nat.reduceAdd, Nat.reduceLT, Nat.reduceLeDiff, Nat.reduceEqDiff, reduceCtorEq, Int.reduceAdd, Int.reduceSub, Int.reduceNeg, Int.reduceLE, Int.reduceLT, Int.reduceToNat, Int.reduceBEq, Int.reduceBNe, Int.reduceEq, Int.reduceNe, Int.toNat_zero, Int.toNat_one, bne_self_eq_false, Nat.reduceMul, Nat.zero_mul, Nat.mul_one, Nat.one_mul, Nat.reduceSub, Int.cast_ofNat_Int, Int.toNat_natCast]
  simp only [htk]
  refine ⟨⟨by omega, by omega⟩, by rw [ss_len]; omega, ?_⟩
  simp (config := { maxSteps := 2000000 }) only [go_sem, Nat.reduceBEq, Nat.reduceAdd, Nat.reduceLT, Nat.reduceLeDiff, Nat.reduceEqDiff, reduceCtorEq, Int.reduceAdd, Int.reduceSub, Int.reduceNeg, Int.reduceLE, Int.reduceLT, Int.reduceToNat, Int.reduceBEq, Int.reduceBNe, Int.reduceEq, Int.reduceNe, Int.toNat_zero, Int.toNat_one, bne_self_eq_false, Nat.reduceMul, Nat.zero_mul, Nat.mul_one, Nat.one_mul, Nat.reduceSub, Int.cast_ofNat_Int, Int.toNat_natCast]
  refine CallQ.pure 130 (rsignal s (hf.s s hi')) rfl ?_
  simp (config := { maxSteps := 2000000 }) only [go_sem, Nat.reduceBEq, Nat.reduceAdd, Nat.reduceLT, Nat.reduceLeDiff, Nat.reduceEqDiff, reduceCtorEq, Int.reduceAdd, Int.reduceSub, Int.reduceNeg, Int.reduceLE, Int.reduceLT, Int.reduceToNat, Int.reduceBEq, Int.reduceBNe, Int.reduceEq, Int.reduceNe, Int.toNat_zero, Int.toNat_one, bne_self_eq_false, Nat.reduceMul, Nat.zero_mul, Nat.mul_one, Nat.one_mul, Nat.reduceSub, Int.cast_ofNat_Int, Int.toNat_natCast]
  refine mtch (fun hv => ?_) (fun hv => ?_)
  · have hv : sok s = false := by simpa using hv
    refine RetQ.of hR rfl ⟨rfl, trivial⟩ ?_ (Sub.one rfl (.inl rfl)) hM (ClV.of rfl)
    rw [prE, hv]; rfl
  · have hv : sok s = true := by simpa using hv
    have hbl : (bitsL s).length ≤ 32 := by rw [bitsL_length hv]; have := sok_bd hv; omega
    refine CallQ.ren [(1, 130)] 131 (rbits s (hf.s s hi')) (ClM.of rfl) rfl rfl trivial rfl (.inl rfl) ?_
    simp only [Mem.ren, List.map_cons, List.map_nil, Bk.ren, List.map_map, V.ren, W.ren, Cv.ren, rn, Nat.reduceBEq, cond_true, cond_false, Function.comp_def]
    simp (config := { maxSteps := 2000000 }) only [go_sem, Nat.reduceBEq, Nat.reduceAdd, Nat.reduceLT, Nat.reduceLeDiff, Nat.reduceEqDiff, reduceCtorEq, Int.reduceAdd, Int.reduceSub, Int.reduceNeg, Int.reduceLE, Int.reduceLT, Int.reduceToNat, Int.reduceBEq, Int.reduceBNe, Int.reduceEq, Int.reduceNe, Int.toNat_zero, Int.toNat_one, bne_self_eq_false, Nat.reduceMul, Nat.zero_mul, Nat.mul_one, Nat.one_mul, Nat.reduceSub, Int.cast_ofNat_Int, Int.toNat_natCast]
    refine Sm.loopM (M0 := [bS 1 f.sgs]) (α := { i : Nat // i ≤ (bitsL s).length ∧ ∀ b ∈ (bitsL s).take i, (decide ((b : Int) < 8 * f.ln) && !(f.gd && decide (b < 12))) = true }) hP (fun i => [(1, true, I k), (2, true, .c (.p 4 0)), (5, true, .c (.p 5 0)), (6, true, slV 6 (bitsL s).length), (7, true, I i.val)])
      (fun _ => rpM f s) (fun i => (bitsL s).length - i.val) ⟨0, by omega, by simp⟩ (fun _ => clRp f s) (fun _ => ClE.of rfl) [(1, 1), (4, 100), (5, 101), (6, 130)] ?_ ?_
    · exact ⟨rfl, ⟨⟨rfl, rfl⟩, trivial⟩, ⟨rfl, rfl, rfl, rfl, rfl, trivial⟩, ⟨.inr ⟨_, rfl, .inl rfl⟩, .inr ⟨_, rfl, .inl rfl⟩, .inr ⟨_, rfl, .inl (renV (v_n _))⟩, .inr ⟨_, rfl, .inl (renV (v_ss _))⟩, trivial⟩⟩
    · rintro ⟨i, hi, hq⟩ J hb
      simp only [rpM] at hb hi hq ⊢
      refine Sm.go 140 ?_
      simp (config := { maxSteps := 2000000 }) only [go_sem, Nat.reduceBEq, Nat.reduceAdd, Nat.reduceLT, Nat.reduceLeDiff, Nat.reduceEqDiff, reduceCtorEq, Int.reduceAdd, Int.reduceSub, Int.reduceNeg, Int.reduceLE, Int.reduceLT, Int.reduceToNat, Int.reduceBEq, Int.reduceBNe, Int.reduceEq, Int.reduceNe, Int.toNat_zero, Int.toNat_one, bne_self_eq_false, Nat.reduceMul, Nat.zero_mul, Nat.mul_one, Nat.one_mul, Nat.reduceSub, Int.cast_ofNat_Int, Int.toNat_natCast]
      refine mtch (fun hc => ?_) (fun hc => ?_)
      · have hc : i < (bitsL s).length := by simp at hc; omega
        refine Sm.dgo 140 14 mix (by decide +kernel) (by decide +kernel) ?_
        simp (config := { maxSteps := 2000000 }) only [go_sem, Nat.reduceBEq, Nat.reduceAdd, Nat.reduceLT, Nat.reduceLeDiff, Nat.reduceEqDiff, reduceCtorEq, Int.reduceAdd, Int.reduceSub, Int.reduceNeg, Int.reduceLE, Int.reduceLT, Int.reduceToNat, Int.reduceBEq, Int.reduceBNe, Int.reduceEq, Int.reduceNe, Int.toNat_zero, Int.toNat_one, bne_self_eq_false, Nat.reduceMul, Nat.zero_mul, Nat.mul_one, Nat.one_mul, Nat.reduceSub, Int.cast_ofNat_Int, Int.toNat_natCast, get_n hc]
        have hbm : (bitsL s).getD i 0 ∈ bitsL s := by rw [List.getD_eq_getElem?_getD, List.getElem?_eq_getElem hc]; exact List.getElem_mem hc
        have htk2 : (bitsL s).take (i + 1) = (bitsL s).take i ++ [(bitsL s).getD i 0] := by rw [List.take_succ_eq_append_getElem hc, List.getD_eq_getElem?_getD, List.getElem?_eq_getElem hc]; rfl
        generalize hbd : (bitsL s).getD i 0 = b at *
        have e2 : (bif decide (IntKind.i64.wrap (8 * f.ln) ≤ (b : Int)) then true else bif f.gd then decide ((b : Int) < 12) else false) = !(decide ((b : Int) < 8 * f.ln) && !(f.gd && decide (b < 12))) := by
          rw [w8, show decide ((b : Int) < 12) = decide (b < 12) by rw [decide_eq_decide]; omega]
          generalize decide (b < 12) = z
          by_cases hlt : (b : Int) < 8 * f.ln
          · rw [tru_of hlt, fal_of (show ¬ 8 * f.ln ≤ (b : Int) by omega)]; cases z <;> cases f.gd <;> rfl
          · rw [fal_of hlt, tru_of (show 8 * f.ln ≤ (b : Int) by omega)]; rfl
        simp only [e2]
        refine ⟨⟨by omega, by omega⟩, fun h => ⟨h, h, by omega, by omega⟩, fun h => ⟨h, fun h2 => by rw [h, h2]; rfl⟩, ?_⟩
        refine mtch (fun hz => ?_) (fun hz => ?_)
        · refine RetQ.of hR rfl ⟨rfl, trivial⟩ ?_ (Sub.one rfl (.inl rfl)) hM (ClV.of rfl)
          have hng : inG f.gd f.ln s = false := by
            rw [inG, List.all_eq_false]
            exact ⟨b, hbm, by simpa only [Bool.not_eq_true'] using Bool.eq_false_iff.1 (Bool.not_eq_true' _ ▸ hz)⟩
          rw [prE, hv, hng]; rfl
        · have hz : (decide ((b : Int) < 8 * f.ln) && !(f.gd && decide (b < 12))) = true := by rw [Bool.not_eq_false'] at hz; exact hz
          have hall : ∀ c ∈ (bitsL s).take (i + 1), (decide ((c : Int) < 8 * f.ln) && !(f.gd && decide (c < 12))) = true := by
            intro c hcm
            rw [htk2, List.mem_append, List.mem_singleton] at hcm
            rcases hcm with h | rfl
            · exact hq c h
            · exact hz
          have w1 : IntKind.i64.wrap ((i : Int) + 1) = ((i + 1 : Nat) : Int) := by rw [w64 (by omega) (by omega)]; omega
          simp only [w1]
          exact hb _ _ ⟨i + 1, hc, hall⟩ [(1, 1), (4, 4), (5, 5), (6, 6)] (by simp only; omega) ⟨rfl, ⟨⟨rfl, rfl⟩, trivial⟩, ⟨rfl, rfl, rfl, rfl, rfl, trivial⟩, ⟨.inr ⟨_, rfl, .inl rfl⟩, .inr ⟨_, rfl, .inl rfl⟩, .inr ⟨_, rfl, .inl (renV (v_n _))⟩, .inr ⟨_, rfl, .inl (renV (v_ss _))⟩, trivial⟩⟩
      · have hc : i = (bitsL s).length := by simp at hc; omega
        subst hc
        rw [List.take_length] at hq
        have hin : inG f.gd f.ln s = true := by rw [inG, List.all_eq_true]; exact hq
        refine Sm.loopM (M0 := [bS 1 f.sgs]) (α := { j : Nat // j ≤ k ∧ clash (f.sgs.take j) s = false }) hP (fun j => [(1, true, I k), (2, true, .c (.p 4 0)), (5, true, .c (.p 5 0)), (6, true, slV 6 (bitsL s).length), (8, true, I j.val)])
          (fun _ => rpM f s) (fun j => k - j.val) ⟨0, by omega, rfl⟩ (fun _ => clRp f s) (fun _ => ClE.of rfl) [(1, 1), (4, 4), (5, 5), (6, 6)] ?_ ?_
        · exact ⟨rfl, ⟨⟨rfl, rfl⟩, trivial⟩, ⟨rfl, rfl, rfl, rfl, rfl, trivial⟩, ⟨.inr ⟨_, rfl, .inl rfl⟩, .inr ⟨_, rfl, .inl rfl⟩, .inr ⟨_, rfl, .inl (renV (v_n _))⟩, .inr ⟨_, rfl, .inl (renV (v_ss _))⟩, trivial⟩⟩
        · rintro ⟨j, hj, hq2⟩ J2 hb2
          simp only [rpM] at hb2 hj hq2 ⊢
          refine Sm.go 140 ?_
          simp (config := { maxSteps := 2000000 }) only [go_sem, Nat.reduceBEq, Nat.reduceAdd, Nat.reduceLT, Nat.reduceLeDiff, Nat.reduceEqDiff, reduceCtorEq, Int.reduceAdd, Int.reduceSub, Int.reduceNeg, Int.reduceLE, Int.reduceLT, Int.reduceToNat, Int.reduceBEq, Int.reduceBNe, Int.reduceEq, Int.reduceNe, Int.toNat_zero, Int.toNat_one, bne_self_eq_false, Nat.reduceMul, Nat.zero_mul, Nat.mul_one, Nat.one_mul, Nat.reduceSub, Int.cast_ofNat_Int, Int.toNat_natCast]
          refine mtch (fun hjc => ?_) (fun hjc => ?_)
          · have hjc : j < k := by simp at hjc; omega
            have hjl : j < f.sgs.length := by omega
            have hxm : f.sgs[j] ∈ f.sgs := List.getElem_mem hjl
            have hxn := ss_nm f.sgs j hjl
            have hxt := ss_take f.sgs j hjl
            have hclk : ∀ y, clash (f.sgs.take j ++ [y]) s = (sameN y s || (bitsL y).any fun b => (bitsL s).contains b) := by
              intro y
              unfold clash at hq2 ⊢
              rw [List.any_append, hq2, Bool.false_or, List.any_cons, List.any_nil, Bool.or_false]
            have htk3 : f.sgs.take (j + 1) = f.sgs.take j ++ [f.sgs[j]] := by rw [List.take_succ_eq_append_getElem hjl]
            have hmono : clash (f.sgs.take (j + 1)) s = true → clash (f.sgs.take k) s = true := by
              unfold clash
              rw [List.any_eq_true, List.any_eq_true]
              rintro ⟨y, hy, hz⟩
              exact ⟨y, (List.take_subset_take_left _ (by omega)) hy, hz⟩
            generalize f.sgs[j] = x at *
            refine Sm.dgo 140 8 mix (by decide +kernel) (by decide +kernel) ?_
            simp (config := { maxSteps := 2000000 }) only [go_sem, Nat.reduceBEq, Nat.reduceAdd, Nat.reduceLT, Nat.reduceLeDiff, Nat.reduceEqDiff, reduceCtorEq, Int.reduceAdd, Int.reduceSub, Int.reduceNeg, Int.reduceLE, Int.reduceLT, Int.reduceToNat, Int.reduceBEq, Int.reduceBNe, Int.reduceEq, Int.reduceNe, Int.toNat_zero, Int.toNat_one, bne_self_eq_false, Nat.reduceMul, Nat.zero_mul, Nat.mul_one, Nat.one_mul, Nat.reduceSub, Int.cast_ofNat_Int, Int.toNat_natCast, hxn, hxt]
            refine ⟨⟨by omega, by omega⟩, ?_⟩
            refine mtch (fun hz => ?_) (fun hz => ?_)
            · refine RetQ.of hR rfl ⟨rfl, trivial⟩ ?_ (Sub.one rfl (.inl rfl)) hM (ClV.of rfl)
              rw [prE, hv, hin, hmono (by rw [htk3, hclk, sameN, hz]; rfl)]; rfl
            · have hbx := bitsL_le x
              refine ⟨⟨by omega, by omega⟩, by rw [ss_len]; omega, ?_⟩
              refine CallQ.ren [(1, 150)] 151 (rbits x (hf.s x hxm)) (ClM.of rfl) rfl rfl trivial rfl (.inl rfl) ?_
              simp only [Mem.ren, List.map_cons, List.map_nil, Bk.ren, List.map_map, V.ren, W.ren, Cv.ren, rn, Nat.reduceBEq, cond_true, cond_false, Function.comp_def]
              simp (config := { maxSteps := 2000000 }) only [go_sem, Nat.reduceBEq, Nat.reduceAdd, Nat.reduceLT, Nat.reduceLeDiff, Nat.reduceEqDiff, reduceCtorEq, Int.reduceAdd, Int.reduceSub, Int.reduceNeg, Int.reduceLE, Int.reduceLT, Int.reduceToNat, Int.reduceBEq, Int.reduceBNe, Int.reduceEq, Int.reduceNe, Int.toNat_zero, Int.toNat_one, bne_self_eq_false, Nat.reduceMul, Nat.zero_mul, Nat.mul_one, Nat.one_mul, Nat.reduceSub, Int.cast_ofNat_Int, Int.toNat_natCast]
              refine Sm.loopM (M0 := [bS 1 f.sgs]) (α := { i : Nat // i ≤ (bitsL x).length ∧ ((bitsL x).any fun b => (bitsL s).contains b) = (((bitsL x).drop i).any fun b => (bitsL s).contains b) }) hP (fun i => [(1, true, I k), (2, true, .c (.p 4 0)), (5, true, .c (.p 5 0)), (6, true, slV 6 (bitsL s).length), (8, true, I j), (9, true, slV 7 (bitsL x).length), (10, true, I i.val)])
                (fun _ => rpM f s ++ [bN 7 (bitsL x)]) (fun i => (bitsL x).length - i.val) ⟨0, by omega, rfl⟩ (fun _ => ClM.of (by simp only [rpM, List.cons_append, List.nil_append, List.all_cons, inMV (v_ss _), inMV (v_n _)]; rfl)) (fun _ => ClE.of rfl) [(1, 1), (4, 4), (5, 5), (6, 6), (7, 150)] ?_ ?_
              · exact ⟨rfl, ⟨⟨rfl, rfl⟩, trivial⟩, ⟨rfl, rfl, rfl, rfl, rfl, rfl, rfl, trivial⟩, ⟨.inr ⟨_, rfl, .inl rfl⟩, .inr ⟨_, rfl, .inl rfl⟩, .inr ⟨_, rfl, .inl (renV (v_n _))⟩, .inr ⟨_, rfl, .inl (renV (v_ss _))⟩, .inr ⟨_, rfl, .inl (renV (v_n _))⟩, trivial⟩⟩
              · rintro ⟨i, hi2, hq3⟩ J3 hb3
                simp only [rpM, List.cons_append, List.nil_append] at hb3 hi2 hq3 ⊢
                refine Sm.go 160 ?_
                simp (config := { maxSteps := 2000000 }) only [go_sem, Nat.reduceBEq, Nat.reduceAdd, Nat.reduceLT, Nat.reduceLeDiff, Nat.reduceEqDiff, reduceCtorEq, Int.reduceAdd, Int.reduceSub, Int.reduceNeg, Int.reduceLE, Int.reduceLT, Int.reduceToNat, Int.reduceBEq, Int.reduceBNe, Int.reduceEq, Int.reduceNe, Int.toNat_zero, Int.toNat_one, bne_self_eq_false, Nat.reduceMul, Nat.zero_mul, Nat.mul_one, Nat.one_mul, Nat.reduceSub, Int.cast_ofNat_Int, Int.toNat_natCast]
                refine mtch (fun hic => ?_) (fun hic => ?_)
                · have hic : i < (bitsL x).length := by simp at hic; omega
                  have hdr : (bitsL x).drop i = (bitsL x).getD i 0 :: (bitsL x).drop (i + 1) := by rw [List.drop_eq_getElem_cons hic, List.getD_eq_getElem?_getD, List.getElem?_eq_getElem hic]; rfl
                  rw [hdr, List.any_cons] at hq3
                  have w1 : IntKind.i64.wrap ((i : Int) + 1) = ((i + 1 : Nat) : Int) := by rw [w64 (by omega) (by omega)]; omega
                  simp (config := { maxSteps := 2000000 }) only [go_sem, Nat.reduceBEq, Nat.reduceAdd, Nat.reduceLT, Nat.reduceLeDiff, Nat.reduceEqDiff, reduceCtorEq, Int.reduceAdd, Int.reduceSub, Int.reduceNeg, Int.reduceLE, Int.reduceLT, Int.reduceToNat, Int.reduceBEq, Int.reduceBNe, Int.reduceEq, Int.reduceNe, Int.toNat_zero, Int.toNat_one, bne_self_eq_false, Nat.reduceMul, Nat.zero_mul, Nat.mul_one, Nat.one_mul, Nat.reduceSub, Int.cast_ofNat_Int, Int.toNat_natCast, get_n hic]
                  generalize (bitsL x).getD i 0 = b at *
                  refine ⟨⟨by omega, by omega⟩, ?_⟩
                  refine CallQ.ren [(1, 6)] 160 (rhas (bitsL s) b (by omega)) (clNr _ _) rfl rfl ⟨⟨_, rfl, .inr ⟨rfl, [], by simp [Bk.ren, Function.comp_def, Cv.ren]⟩⟩, trivial⟩ rfl (.inr rfl) ?_
                  simp (config := { maxSteps := 2000000 }) only [go_sem, Nat.reduceBEq, Nat.reduceAdd, Nat.reduceLT, Nat.reduceLeDiff, Nat.reduceEqDiff, reduceCtorEq, Int.reduceAdd, Int.reduceSub, Int.reduceNeg, Int.reduceLE, Int.reduceLT, Int.reduceToNat, Int.reduceBEq, Int.reduceBNe, Int.reduceEq, Int.reduceNe, Int.toNat_zero, Int.toNat_one, bne_self_eq_false, Nat.reduceMul, Nat.zero_mul, Nat.mul_one, Nat.one_mul, Nat.reduceSub, Int.cast_ofNat_Int, Int.toNat_natCast]
                  refine mtch (fun hz2 => ?_) (fun hz2 => ?_)
                  · refine RetQ.of hR rfl ⟨rfl, trivial⟩ ?_ (Sub.one rfl (.inl rfl)) hM (ClV.of rfl)
                    rw [prE, hv, hin, hmono (by rw [htk3, hclk, hq3, hz2, Bool.true_or, Bool.or_true])]; rfl
                  · simp only [w1]
                    exact hb3 _ _ ⟨i + 1, hic, by rw [hq3, hz2, Bool.false_or]⟩ [(1, 1), (4, 4), (5, 5), (6, 6), (7, 7)] (by simp only; omega) ⟨rfl, ⟨⟨rfl, rfl⟩, trivial⟩, ⟨rfl, rfl, rfl, rfl, rfl, rfl, rfl, trivial⟩, ⟨.inr ⟨_, rfl, .inl rfl⟩, .inr ⟨_, rfl, .inl rfl⟩, .inr ⟨_, rfl, .inl (renV (v_n _))⟩, .inr ⟨_, rfl, .inl (renV (v_ss _))⟩, .inr ⟨_, rfl, .inl (renV (v_n _))⟩, trivial⟩⟩
                · have hic : i = (bitsL x).length := by simp at hic; omega
                  subst hic
                  rw [List.drop_length, List.any_nil] at hq3
                  have w1 : IntKind.i64.wrap ((j : Int) + 1) = ((j + 1 : Nat) : Int) := by have := hf.k; rw [w64 (by omega) (by omega)]; omega
                  simp only [w1]
                  exact hb2 _ _ ⟨j + 1, hjc, by rw [htk3, hclk, hq3, sameN, hz]; rfl⟩ [(1, 1), (4, 4), (5, 5), (6, 6)] (by simp only; omega) ⟨rfl, ⟨⟨rfl, rfl⟩, trivial⟩, ⟨rfl, rfl, rfl, rfl, rfl, trivial⟩, ⟨.inr ⟨_, rfl, .inl rfl⟩, .inr ⟨_, rfl, .inl rfl⟩, .inr ⟨_, rfl, .inl (renV (v_n _))⟩, .inr ⟨_, rfl, .inl (renV (v_ss _))⟩, trivial⟩⟩
          · have hjc : j = k := by simp at hjc; omega
            subst hjc
            refine RetQ.of hR rfl ⟨rfl, trivial⟩ ?_ (Sub.one rfl (.inl rfl)) hM (ClV.of rfl)
            rw [prE, hv, hin, hq2]; rfl
end Go.Proofs.Ytcdclmelnnbdnaa
