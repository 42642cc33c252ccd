/- The laws FrameEncodes, FrameOwn. -/
import Derived.Test.YtcdclmelnnbdnaaB4
namespace Go.Proofs.Ytcdclmelnnbdnaa
open Vg Tf
set_option linter.unusedSimpArgs false
set_option linter.unusedVariables false
set_option maxRecDepth 100000
set_option maxHeartbeats 4000000
/-- What every argument has. -/
structure Fm.bd (f : Fm) : Prop where
  n : f.nm.data.toList.length ≤ 9223372036854775807
  l : -9223372036854775808 ≤ f.ln ∧ f.ln ≤ 9223372036854775807
  s : ∀ s ∈ f.sgs, s.nm.data.toList.length ≤ 9223372036854775807
theorem Fm.bd.ok {f : Fm} (h : f.bd) (k : f.sgs.length ≤ 1000000) : f.ok := ⟨h.n, h.l, h.s, k⟩
theorem permL_no {l : List Sg} {r : List Int} {s : Sg} {x : Int} (h : inR x s.lo s.hi = false) : permL (s :: l) (x :: r) = false := by rw [permL, h]; rfl
theorem bytesOf_lt (n D : Nat) : ∀ x ∈ bytesOf n D, x < 256 := by
  intro x hx
  simp only [bytesOf, List.mem_map] at hx
  obtain ⟨j, _, rfl⟩ := hx
  exact Nat.mod_lt _ (by omega)
theorem wk_u {ρ : Nat → Nat} {l : List Nat} {r : Bool} {t : TypeId} : Wk (⟨true, l.map cb, t⟩ : Bk) ⟨r, l.map cb, t⟩ → Wk ((⟨true, l.map cb, t⟩ : Bk).ren ρ) ⟨r, l.map cb, t⟩ := fun h => by rw [renV (v_u l)]; exact h
theorem wkU (ρ : Nat → Nat) (l : List Nat) (r : Bool) (t : TypeId) : Wk ((⟨true, l.map cb, t⟩ : Bk).ren ρ) ⟨r, l.map cb, t⟩ := by rw [renV (v_u l)]; exact .inr ⟨rfl, [], by simp⟩
theorem wkN (ρ : Nat → Nat) (l : List Nat) (r : Bool) (t : TypeId) : Wk ((⟨true, l.map cn, t⟩ : Bk).ren ρ) ⟨r, l.map cn, t⟩ := by rw [renV (v_n l)]; exact .inr ⟨rfl, [], by simp⟩
theorem wkZ (ρ : Nat → Nat) (l : List Int) (r : Bool) (t : TypeId) : Wk ((⟨true, l.map cz, t⟩ : Bk).ren ρ) ⟨r, l.map cz, t⟩ := by rw [renV (v_z l)]; exact .inr ⟨rfl, [], by simp⟩
theorem wkS (ρ : Nat → Nat) (l : List Sg) (t : TypeId) : Wk ((⟨true, l.flatMap sgL, t⟩ : Bk).ren ρ) ⟨true, l.flatMap sgL, t⟩ := .inl (renV (v_ss l))
theorem law_encodes (f : Fm) (hf0 : f.bd) (raws : List Int) (hr0 : raws.length ≤ 9223372036854775807) (hs0 : f.sgs.length ≤ 9223372036854775807) : CallOk Try.prog 3 [fm5 1 f, slV 2 raws.length] [bS 1 f.sgs, bZr 2 raws] (Bo true) [] := by
  have hM := clE2 f raws
  refine CallOk.mkN 100 Try.func3 rfl en3 (by simp [Try.ntmps3]) (ClA.of rfl) rfl rfl fun C hR hP => ?_
  simp (config := { maxSteps := 2000000 }) only [go_sem, Nat.reduceBEq, Nat.reduceAdd, Nat.reduceLT, Nat.reduceLeDiff, Nat.reduceEqDiff, reduceCtorEq, Int.reduceAdd, Int.reduceSub, Int.reduceNeg, Int.reduceLE, Int.reduceLT, Int.reduceToNat, Int.reduceBEq, Int.reduceBNe, Int.reduceEq, Int.reduceNe, Int.toNat_zero, Int.toNat_one, bne_self_eq_false, Nat.reduceMul, Nat.zero_mul, Nat.mul_one, Nat.one_mul, Nat.reduceSub, Int.cast_ofNat_Int, Int.toNat_natCast]
  refine CallQ.pure 110 lawake rfl ?_
  simp (config := { maxSteps := 2000000 }) only [go_sem, Nat.reduceBEq, Nat.reduceAdd, Nat.reduceLT, Nat.reduceLeDiff, Nat.reduceEqDiff, reduceCtorEq, Int.reduceAdd, Int.reduceSub, Int.reduceNeg, Int.reduceLE, Int.reduceLT, Int.reduceToNat, Int.reduceBEq, Int.reduceBNe, Int.reduceEq, Int.reduceNe, Int.toNat_zero, Int.toNat_one, bne_self_eq_false, Nat.reduceMul, Nat.zero_mul, Nat.mul_one, Nat.one_mul, Nat.reduceSub, Int.cast_ofNat_Int, Int.toNat_natCast]
  refine CallQ.ren [(1, 1)] 110 (lgreat f) (clS _) rfl rfl ⟨⟨_, rfl, .inl (renV (v_ss _))⟩, trivial⟩ rfl (.inr rfl) ?_
  simp (config := { maxSteps := 2000000 }) only [go_sem, Nat.reduceBEq, Nat.reduceAdd, Nat.reduceLT, Nat.reduceLeDiff, Nat.reduceEqDiff, reduceCtorEq, Int.reduceAdd, Int.reduceSub, Int.reduceNeg, Int.reduceLE, Int.reduceLT, Int.reduceToNat, Int.reduceBEq, Int.reduceBNe, Int.reduceEq, Int.reduceNe, Int.toNat_zero, Int.toNat_one, bne_self_eq_false, Nat.reduceMul, Nat.zero_mul, Nat.mul_one, Nat.one_mul, Nat.reduceSub, Int.cast_ofNat_Int, Int.toNat_natCast]
  refine mtch (fun hg => ?_) (fun hg => ?_)
  · exact RetQ.of hR rfl ⟨rfl, trivial⟩ rfl (SubS.sub ⟨⟨_, rfl, .inl rfl⟩, ⟨_, rfl, .inl rfl⟩, trivial⟩) hM (ClV.of rfl)
  · have hg : f.sgs.length ≤ 24 ∧ raws.length ≤ 24 := by simp at hg; omega
    have hf := hf0.ok (by omega)
    refine CallQ.ren [(1, 1), (2, 2), (3, 130)] 131 (fenc f hf raws (by omega)) hM rfl rfl ⟨⟨_, rfl, .inl (renV (v_ss _))⟩, ⟨_, rfl, .inl (renV (v_z _))⟩, trivial⟩ rfl (.inl rfl) ?_
    simp only [Mem.ren, List.map_cons, List.map_nil, Bk.ren, List.map_map, V.ren, W.ren, Cv.ren, rn, Nat.reduceBEq, cond_true, cond_false, Function.comp_def]
    simp (config := { maxSteps := 2000000 }) only [go_sem, Nat.reduceBEq, Nat.reduceAdd, Nat.reduceLT, Nat.reduceLeDiff, Nat.reduceEqDiff, reduceCtorEq, Int.reduceAdd, Int.reduceSub, Int.reduceNeg, Int.reduceLE, Int.reduceLT, Int.reduceToNat, Int.reduceBEq, Int.reduceBNe, Int.reduceEq, Int.reduceNe, Int.toNat_zero, Int.toNat_one, bne_self_eq_false, Nat.reduceMul, Nat.zero_mul, Nat.mul_one, Nat.one_mul, Nat.reduceSub, Int.cast_ofNat_Int, Int.toNat_natCast]
    refine CallQ.ren [(1, 1)] 131 (rframe f hf) (clS _) rfl rfl ⟨⟨_, rfl, .inl (renV (v_ss _))⟩, trivial⟩ rfl (.inr rfl) ?_
    simp (config := { maxSteps := 2000000 }) only [go_sem, Nat.reduceBEq, Nat.reduceAdd, Nat.reduceLT, Nat.reduceLeDiff, Nat.reduceEqDiff, reduceCtorEq, Int.reduceAdd, Int.reduceSub, Int.reduceNeg, Int.reduceLE, Int.reduceLT, Int.reduceToNat, Int.reduceBEq, Int.reduceBNe, Int.reduceEq, Int.reduceNe, Int.toNat_zero, Int.toNat_one, bne_self_eq_false, Nat.reduceMul, Nat.zero_mul, Nat.mul_one, Nat.one_mul, Nat.reduceSub, Int.cast_ofNat_Int, Int.toNat_natCast]
    have e1 : (bif !fok f then true else (raws.length : Int) != (f.sgs.length : Int)) = !(fok f && decide (raws.length = f.sgs.length)) := by
      cases fok f
      · rfl
      · rw [Bool.eq_iff_iff]; simp; omega
    simp only [e1]
    refine mtch (fun hz => ?_) (fun hz => ?_)
    · have hz : (fok f && decide (raws.length = f.sgs.length)) = false := by rw [Bool.not_eq_true'] at hz; exact hz
      have he : encE f raws = 1 := by rw [encE, hz]; rfl
      have hb : encB f raws = [] := by rw [encB, he]; rfl
      exact RetQ.of hR rfl ⟨rfl, trivial⟩ (by rw [he, hb]; rfl) (SubS.sub ⟨⟨_, rfl, .inl rfl⟩, ⟨_, rfl, .inl rfl⟩, trivial⟩) hM (ClV.of rfl)
    · have hz : (fok f && decide (raws.length = f.sgs.length)) = true := by rw [Bool.not_eq_false'] at hz; exact hz
      have hE : encE f raws = bif permL f.sgs raws then 0 else 2 := by rw [encE, hz]; rfl
      rw [Bool.and_eq_true, decide_eq_true_eq] at hz
      obtain ⟨hv, hln⟩ := hz
      have hv := fok_val hv
      refine Sm.loopM (M0 := [bS 1 f.sgs, bZr 2 raws]) (α := { i : Nat // i ≤ f.sgs.length ∧ permL f.sgs raws = permL (f.sgs.drop i) (raws.drop i) }) hP (fun i => [(1, true, slV 2 raws.length), (2, true, .c (.p 4 0)), (5, true, slV 5 (encB f raws).length), (6, true, I (encE f raws)), (43, true, .c (.sl 1 0 f.sgs.length 10)), (44, true, I f.sgs.length), (45, true, I i.val)])
        (fun _ => [(4, ⟨false, fmL 1 f, 24⟩), bB 5 (encB f raws), bS 1 f.sgs, bZr 2 raws]) (fun i => f.sgs.length - i.val) ⟨0, by simp, rfl⟩ (fun _ => ClM.of (by simp only [List.all_cons, inMV (v_ss _), inMV (v_z _), inMV (v_u _)]; rfl)) (fun _ => ClE.of rfl) [(1, 1), (2, 2), (4, 100), (5, 130)] ?_ ?_
      · exact ⟨rfl, ⟨⟨rfl, rfl⟩, ⟨rfl, rfl⟩, trivial⟩, ⟨rfl, rfl, rfl, rfl, rfl, rfl, rfl, trivial⟩, ⟨.inr ⟨_, rfl, .inl rfl⟩, .inr ⟨_, rfl, .inl (renV (v_u _))⟩, .inr ⟨_, rfl, .inl (renV (v_ss _))⟩, .inr ⟨_, rfl, .inl (renV (v_z _))⟩, trivial⟩⟩
      · rintro ⟨i, hi, hp⟩ J hb
        simp only at hb hi hp ⊢
        refine Sm.go 140 ?_
        simp (config := { maxSteps := 2000000 }) only [go_sem, Nat.reduceBEq, Nat.reduceAdd, Nat.reduceLT, Nat.reduceLeDiff, Nat.reduceEqDiff, reduceCtorEq, Int.reduceAdd, Int.reduceSub, Int.reduceNeg, Int.reduceLE, Int.reduceLT, Int.reduceToNat, Int.reduceBEq, Int.reduceBNe, Int.reduceEq, Int.reduceNe, Int.toNat_zero, Int.toNat_one, bne_self_eq_false, Nat.reduceMul, Nat.zero_mul, Nat.mul_one, Nat.one_mul, Nat.reduceSub, Int.cast_ofNat_Int, Int.toNat_natCast]
        refine mtch (fun hc => ?_) (fun hc => ?_)
        · have hc : i < f.sgs.length := by simp at hc; omega
          have hcr : i < raws.length := by omega
          have htk := ss_take f.sgs i hc
          have hdr : f.sgs.drop i = f.sgs[i] :: f.sgs.drop (i + 1) := List.drop_eq_getElem_cons hc
          have hdz := drop_z hcr
          generalize f.sgs[i] = s at *
          simp only [htk]
          refine ⟨⟨by omega, by omega⟩, by rw [ss_len]; omega, ?_⟩
          simp (config := { maxSteps := 2000000 }) only [go_sem, Nat.reduceBEq, Nat.reduceAdd, Nat.reduceLT, Nat.reduceLeDiff, Nat.reduceEqDiff, reduceCtorEq, Int.reduceAdd, Int.reduceSub, Int.reduceNeg, Int.reduceLE, Int.reduceLT, Int.reduceToNat, Int.reduceBEq, Int.reduceBNe, Int.reduceEq, Int.reduceNe, Int.toNat_zero, Int.toNat_one, bne_self_eq_false, Nat.reduceMul, Nat.zero_mul, Nat.mul_one, Nat.one_mul, Nat.reduceSub, Int.cast_ofNat_Int, Int.toNat_natCast]
          refine Sm.dgo 150 5 mix (by decide +kernel) (by decide +kernel) ?_
          simp (config := { maxSteps := 2000000 }) only [go_sem, Nat.reduceBEq, Nat.reduceAdd, Nat.reduceLT, Nat.reduceLeDiff, Nat.reduceEqDiff, reduceCtorEq, Int.reduceAdd, Int.reduceSub, Int.reduceNeg, Int.reduceLE, Int.reduceLT, Int.reduceToNat, Int.reduceBEq, Int.reduceBNe, Int.reduceEq, Int.reduceNe, Int.toNat_zero, Int.toNat_one, bne_self_eq_false, Nat.reduceMul, Nat.zero_mul, Nat.mul_one, Nat.one_mul, Nat.reduceSub, Int.cast_ofNat_Int, Int.toNat_natCast, get_z hcr]
          generalize hxd : raws.getD i 0 = x at *
          refine ⟨⟨by omega, by omega⟩, ?_⟩
          refine CallQ.pure 150 (rperm s x) rfl ?_
          simp (config := { maxSteps := 2000000 }) only [go_sem, Nat.reduceBEq, Nat.reduceAdd, Nat.reduceLT, Nat.reduceLeDiff, Nat.reduceEqDiff, reduceCtorEq, Int.reduceAdd, Int.reduceSub, Int.reduceNeg, Int.reduceLE, Int.reduceLT, Int.reduceToNat, Int.reduceBEq, Int.reduceBNe, Int.reduceEq, Int.reduceNe, Int.toNat_zero, Int.toNat_one, bne_self_eq_false, Nat.reduceMul, Nat.zero_mul, Nat.mul_one, Nat.one_mul, Nat.reduceSub, Int.cast_ofNat_Int, Int.toNat_natCast]
          have w1 : IntKind.i64.wrap ((i : Int) + 1) = ((i + 1 : Nat) : Int) := by rw [w64 (by omega) (by omega)]; omega
          refine mtch (fun hq => ?_) (fun hq => ?_)
          · have hq : inR x s.lo s.hi = false := by simpa using hq
            have he : encE f raws = 2 := by rw [hE, hp, hdr, hdz, permL_no hq]; rfl
            have hb2 : encB f raws = [] := by rw [encB, he]; rfl
            exact RetQ.of hR rfl ⟨rfl, trivial⟩ (by rw [he, hb2]; rfl) (SubS.sub ⟨⟨_, rfl, .inl rfl⟩, ⟨_, rfl, .inl rfl⟩, trivial⟩) hM (ClV.of rfl)
          · have hq : inR x s.lo s.hi = true := by simpa using hq
            simp only [w1]
            exact hb _ _ ⟨i + 1, hc, by rw [hp, hdr, hdz, permL, hq, Bool.true_and]⟩ [(1, 1), (2, 2), (4, 4), (5, 5)] (by simp only; omega) ⟨rfl, ⟨⟨rfl, rfl⟩, ⟨rfl, rfl⟩, trivial⟩, ⟨rfl, rfl, rfl, rfl, rfl, rfl, rfl, trivial⟩, ⟨.inr ⟨_, rfl, .inl rfl⟩, .inr ⟨_, rfl, .inl (renV (v_u _))⟩, .inr ⟨_, rfl, .inl (renV (v_ss _))⟩, .inr ⟨_, rfl, .inl (renV (v_z _))⟩, trivial⟩⟩
        · have hc : i = f.sgs.length := by simp at hc; omega
          subst hc
          rw [List.drop_length, permL_nil] at hp
          have he : encE f raws = 0 := by rw [hE, hp]; rfl
          have hb2 : encB f raws = bytesOf f.ln.toNat (encD 0 f.sgs raws) := by rw [encB, he]; rfl
          have hen := renc f hf hv raws hln hp
          rw [he, hb2]
          have hbe := bequal _ _ (bytesOf_lt f.ln.toNat (encD 0 f.sgs raws)) (bytesOf_lt f.ln.toNat (encD 0 f.sgs raws))
          simp only [bytesOf_length, decide_true] at hbe ⊢
          generalize bytesOf f.ln.toNat (encD 0 f.sgs raws) = L at *
          simp (config := { maxSteps := 2000000 }) only [go_sem, Nat.reduceBEq, Nat.reduceAdd, Nat.reduceLT, Nat.reduceLeDiff, Nat.reduceEqDiff, reduceCtorEq, Int.reduceAdd, Int.reduceSub, Int.reduceNeg, Int.reduceLE, Int.reduceLT, Int.reduceToNat, Int.reduceBEq, Int.reduceBNe, Int.reduceEq, Int.reduceNe, Int.toNat_zero, Int.toNat_one, bne_self_eq_false, Nat.reduceMul, Nat.zero_mul, Nat.mul_one, Nat.one_mul, Nat.reduceSub, Int.cast_ofNat_Int, Int.toNat_natCast]
          refine CallQ.ren [(1, 1), (2, 2), (3, 150)] 151 hen hM rfl rfl ⟨⟨_, rfl, wkS _ _ _⟩, ⟨_, rfl, wkZ _ _ _ _⟩, trivial⟩ rfl (.inl rfl) ?_
          simp only [Mem.ren, List.map_cons, List.map_nil, Bk.ren, List.map_map, V.ren, W.ren, Cv.ren, rn, Nat.reduceBEq, cond_true, cond_false, Function.comp_def]
          simp (config := { maxSteps := 2000000 }) only [go_sem, Nat.reduceBEq, Nat.reduceAdd, Nat.reduceLT, Nat.reduceLeDiff, Nat.reduceEqDiff, reduceCtorEq, Int.reduceAdd, Int.reduceSub, Int.reduceNeg, Int.reduceLE, Int.reduceLT, Int.reduceToNat, Int.reduceBEq, Int.reduceBNe, Int.reduceEq, Int.reduceNe, Int.toNat_zero, Int.toNat_one, bne_self_eq_false, Nat.reduceMul, Nat.zero_mul, Nat.mul_one, Nat.one_mul, Nat.reduceSub, Int.cast_ofNat_Int, Int.toNat_natCast]
          refine CallQ.ren [(1, 5), (2, 150)] 151 hbe (clB2 _ _) rfl rfl ⟨⟨_, rfl, wkU _ _ _ _⟩, ⟨_, rfl, wkU _ _ _ _⟩, trivial⟩ rfl (.inr rfl) ?_
          simp (config := { maxSteps := 2000000 }) only [go_sem, Nat.reduceBEq, Nat.reduceAdd, Nat.reduceLT, Nat.reduceLeDiff, Nat.reduceEqDiff, reduceCtorEq, Int.reduceAdd, Int.reduceSub, Int.reduceNeg, Int.reduceLE, Int.reduceLT, Int.reduceToNat, Int.reduceBEq, Int.reduceBNe, Int.reduceEq, Int.reduceNe, Int.toNat_zero, Int.toNat_one, bne_self_eq_false, Nat.reduceMul, Nat.zero_mul, Nat.mul_one, Nat.one_mul, Nat.reduceSub, Int.cast_ofNat_Int, Int.toNat_natCast]
          exact RetQ.of hR rfl ⟨rfl, trivial⟩ rfl (SubS.sub ⟨⟨_, rfl, .inl rfl⟩, ⟨_, rfl, .inl rfl⟩, trivial⟩) hM (ClV.of rfl)
end Go.Proofs.Ytcdclmelnnbdnaa
