/- Frame: which frames are valid (reference, to its end). -/
import Derived.Test.YtcdclmelnnbdnaaA8
namespace Go.Proofs.Ytcdclmelnnbdnaa
open Vg Tf
set_option linter.unusedSimpArgs false
set_option linter.unusedVariables false
set_option maxRecDepth 100000
set_option maxHeartbeats 4000000
theorem rhead (f : Fm) (hf : f.ok) : CallOk Try.prog 79 [dbV 2, I 0] [bF 2 1 f, bS 1 f.sgs] (I (hdE f)) [] := by
  have hM := clF 2 1 f
  refine CallOk.mkN 100 Try.func79 rfl en79 (by simp [Try.ntmps79]) (ClA.of rfl) rfl rfl fun C hR hP => ?_
  simp (config := { maxSteps := 2000000 }) only [go_sem, Nat.reduceBEq, Nat.reduceAdd, Nat.reduceLT, Nat.reduceLeDiff, Nat.reduceEqDiff, reduceCtorEq, Int.reduceAdd, Int.reduceSub, Int.reduceNeg, Int.reduceLE, Int.reduceLT, Int.reduceToNat, Int.reduceBEq, Int.reduceBNe, Int.reduceEq, Int.reduceNe, Int.toNat_zero, Int.toNat_one, bne_self_eq_false, Nat.reduceMul, Nat.zero_mul, Nat.mul_one, Nat.one_mul, Nat.reduceSub, Int.cast_ofNat_Int, Int.toNat_natCast]
  refine CallQ.pure 130 (rname f.nm hf.n) rfl ?_
  simp (config := { maxSteps := 2000000 }) only [go_sem, Nat.reduceBEq, Nat.reduceAdd, Nat.reduceLT, Nat.reduceLeDiff, Nat.reduceEqDiff, reduceCtorEq, Int.reduceAdd, Int.reduceSub, Int.reduceNeg, Int.reduceLE, Int.reduceLT, Int.reduceToNat, Int.reduceBEq, Int.reduceBNe, Int.reduceEq, Int.reduceNe, Int.toNat_zero, Int.toNat_one, bne_self_eq_false, Nat.reduceMul, Nat.zero_mul, Nat.mul_one, Nat.one_mul, Nat.reduceSub, Int.cast_ofNat_Int, Int.toNat_natCast]
  refine mtch (fun hn => ?_) (fun hn => ?_)
  · have hn : nmok f.nm.data.toList = false := by simpa using hn
    exact RetQ.of hR rfl ⟨rfl, trivial⟩ (by rw [hdE_1 hn]; rfl) (SubS.sub ⟨⟨_, rfl, .inl rfl⟩, ⟨_, rfl, .inl rfl⟩, trivial⟩) hM (ClV.of rfl)
  · have hn : nmok f.nm.data.toList = true := by simpa using hn
    refine ⟨by intro h; simp only [h]; simp, ?_⟩
    have e1 : (bif (bif (bif (bif decide (f.id < 0) then true else decide (2047 < f.id)) then true else decide (f.ln < 1)) then true else decide (8 < f.ln)) then true else bif f.gd then decide (f.ln < 2) else false) = !(inR f.id 0 2047 && (inR f.ln 1 8 && !(f.gd && decide (f.ln < 2)))) := by
      rw [Bool.eq_iff_iff]
      unfold inR
      generalize decide (f.ln < 2) = c
      cases f.gd <;> cases c <;> simp <;> omega
    simp only [e1]
    refine mtch (fun hz => ?_) (fun hz => ?_)
    · rw [Bool.not_eq_true'] at hz
      exact RetQ.of hR rfl ⟨rfl, trivial⟩ (by rw [hdE, hn, hz]; rfl) (SubS.sub ⟨⟨_, rfl, .inl rfl⟩, ⟨_, rfl, .inl rfl⟩, trivial⟩) hM (ClV.of rfl)
    · rw [Bool.not_eq_false'] at hz
      refine mtch (fun hk => ?_) (fun hk => ?_)
      · have hk : ¬ f.sgs.length ≤ 16 := by simp at hk; omega
        exact RetQ.of hR rfl ⟨rfl, trivial⟩ (by rw [hdE, hn, hz, fal_of hk]; rfl) (SubS.sub ⟨⟨_, rfl, .inl rfl⟩, ⟨_, rfl, .inl rfl⟩, trivial⟩) hM (ClV.of rfl)
      · have hk : f.sgs.length ≤ 16 := by simp at hk; omega
        refine Sm.unroll 1 (Sm.go 120 ?_)
        simp (config := { maxSteps := 2000000 }) only [go_sem, Nat.reduceBEq, Nat.reduceAdd, Nat.reduceLT, Nat.reduceLeDiff, Nat.reduceEqDiff, reduceCtorEq, Int.reduceAdd, Int.reduceSub, Int.reduceNeg, Int.reduceLE, Int.reduceLT, Int.reduceToNat, Int.reduceBEq, Int.reduceBNe, Int.reduceEq, Int.reduceNe, Int.toNat_zero, Int.toNat_one, bne_self_eq_false, Nat.reduceMul, Nat.zero_mul, Nat.mul_one, Nat.one_mul, Nat.reduceSub, Int.cast_ofNat_Int, Int.toNat_natCast]
        exact RetQ.of hR rfl ⟨rfl, trivial⟩ (by rw [hdE, hn, hz, tru_of hk]; rfl) (SubS.sub ⟨⟨_, rfl, .inl rfl⟩, ⟨_, rfl, .inl rfl⟩, trivial⟩) hM (ClV.of rfl)
theorem hdE_0 {f : Fm} (h : (hdE f != 0) = false) : (1 ≤ f.ln ∧ f.ln ≤ 8) ∧ (0 ≤ f.id ∧ f.id ≤ 2047) ∧ f.sgs.length ≤ 16 ∧ (f.gd = true → 2 ≤ f.ln) := by
  unfold hdE at h
  cases hn : nmok f.nm.data.toList with
  | false => rw [hn] at h; cases h
  | true =>
    rw [hn] at h
    cases hz : (inR f.id 0 2047 && (inR f.ln 1 8 && !(f.gd && decide (f.ln < 2)))) with
    | false => rw [hz] at h; cases h
    | true =>
      rw [hz] at h
      by_cases hk : f.sgs.length ≤ 16
      · rw [Bool.and_eq_true, Bool.and_eq_true] at hz
        refine ⟨inR_iff.1 hz.2.1, inR_iff.1 hz.1, hk, fun hg => ?_⟩
        have := hz.2.2
        rw [hg] at this
        simpa using this
      · rw [fal_of hk] at h; cases h
theorem rfault (f : Fm) (hf : f.ok) : CallOk Try.prog 63 [dbV 2] [bF 2 1 f, bS 1 f.sgs] (tupS (frE f)) [] := by
  have hM := clF 2 1 f
  refine CallOk.mkN 100 Try.func63 rfl en63 (by simp [Try.ntmps63]) (ClA.of rfl) rfl rfl fun C hR hP => ?_
  simp (config := { maxSteps := 2000000 }) only [go_sem, Nat.reduceBEq, Nat.reduceAdd, Nat.reduceLT, Nat.reduceLeDiff, Nat.reduceEqDiff, reduceCtorEq, Int.reduceAdd, Int.reduceSub, Int.reduceNeg, Int.reduceLE, Int.reduceLT, Int.reduceToNat, Int.reduceBEq, Int.reduceBNe, Int.reduceEq, Int.reduceNe, Int.toNat_zero, Int.toNat_one, bne_self_eq_false, Nat.reduceMul, Nat.zero_mul, Nat.mul_one, Nat.one_mul, Nat.reduceSub, Int.cast_ofNat_Int, Int.toNat_natCast]
  refine Sm.unroll 2 (Sm.go 120 ?_)
  simp (config := { maxSteps := 2000000 }) only [go_sem, Nat.reduceBEq, Nat.reduceAdd, Nat.reduceLT, Nat.reduceLeDiff, Nat.reduceEqDiff, reduceCtorEq, Int.reduceAdd, Int.reduceSub, Int.reduceNeg, Int.reduceLE, Int.reduceLT, Int.reduceToNat, Int.reduceBEq, Int.reduceBNe, Int.reduceEq, Int.reduceNe, Int.toNat_zero, Int.toNat_one, bne_self_eq_false, Nat.reduceMul, Nat.zero_mul, Nat.mul_one, Nat.one_mul, Nat.reduceSub, Int.cast_ofNat_Int, Int.toNat_natCast]
  refine CallQ.ren [(1, 1), (2, 2)] 130 (rhead f hf) hM rfl rfl ⟨⟨_, rfl, .inl rfl⟩, ⟨_, rfl, .inl (renV (v_ss _))⟩, trivial⟩ rfl (.inr rfl) ?_
  simp (config := { maxSteps := 2000000 }) only [go_sem, Nat.reduceBEq, Nat.reduceAdd, Nat.reduceLT, Nat.reduceLeDiff, Nat.reduceEqDiff, reduceCtorEq, Int.reduceAdd, Int.reduceSub, Int.reduceNeg, Int.reduceLE, Int.reduceLT, Int.reduceToNat, Int.reduceBEq, Int.reduceBNe, Int.reduceEq, Int.reduceNe, Int.toNat_zero, Int.toNat_one, bne_self_eq_false, Nat.reduceMul, Nat.zero_mul, Nat.mul_one, Nat.one_mul, Nat.reduceSub, Int.cast_ofNat_Int, Int.toNat_natCast]
  refine mtch (fun hz => ?_) (fun hz => ?_)
  · have hz : hdE f ≠ 0 := by simpa using hz
    have hfr : frE f = (f.nm, hdE f) := by rw [frE, show (hdE f == 0) = false by simpa using hz]; rfl
    exact RetQ.of hR rfl ⟨rfl, rfl, trivial⟩ (by rw [hfr]) (SubS.sub ⟨⟨_, rfl, .inl rfl⟩, ⟨_, rfl, .inl rfl⟩, trivial⟩) hM (ClV.of rfl)
  · obtain ⟨⟨h1, h8⟩, _, h16, _⟩ := hdE_0 hz
    have hz : hdE f = 0 := by simpa using hz
    have hfr : frE f = sgE f.gd f.ln [] f.sgs := by rw [frE, hz]; rfl
    refine Sm.loopM (M0 := [bF 2 1 f, bS 1 f.sgs]) (α := { i : Nat // i ≤ f.sgs.length ∧ sgE f.gd f.ln [] f.sgs = sgE f.gd f.ln (f.sgs.take i) (f.sgs.drop i) }) hP (fun i => [(1, true, .c (.p 4 0)), (4, true, I 0), (6, true, I i.val)])
      (fun _ => [(4, ⟨false, [.sl 2 0 1 5], 81⟩), bF 2 1 f, bS 1 f.sgs]) (fun i => f.sgs.length - i.val) ⟨0, by omega, rfl⟩ (fun _ => ClM.of (by simp only [List.all_cons, inMV (v_ss _)]; rfl)) (fun _ => ClE.of rfl) [(1, 1), (2, 2), (4, 100)] ?_ ?_
    · exact ⟨rfl, ⟨⟨rfl, rfl⟩, ⟨rfl, rfl⟩, trivial⟩, ⟨rfl, rfl, rfl, trivial⟩, ⟨.inr ⟨_, rfl, .inl rfl⟩, .inr ⟨_, rfl, .inl rfl⟩, .inr ⟨_, rfl, .inl (renV (v_ss _))⟩, trivial⟩⟩
    · rintro ⟨i, hi, hx⟩ J hb
      simp only at hb hi hx ⊢
      refine Sm.go 120 ?_
      simp (config := { maxSteps := 2000000 }) only [go_sem, Nat.reduceBEq, Nat.reduceAdd, Nat.reduceLT, Nat.reduceLeDiff, Nat.reduceEqDiff, reduceCtorEq, Int.reduceAdd, Int.reduceSub, Int.reduceNeg, Int.reduceLE, Int.reduceLT, Int.reduceToNat, Int.reduceBEq, Int.reduceBNe, Int.reduceEq, Int.reduceNe, Int.toNat_zero, Int.toNat_one, bne_self_eq_false, Nat.reduceMul, Nat.zero_mul, Nat.mul_one, Nat.one_mul, Nat.reduceSub, Int.cast_ofNat_Int, Int.toNat_natCast]
      refine mtch (fun hc => ?_) (fun hc => ?_)
      · have hc : i < f.sgs.length := by simp at hc; omega
        have hdr : f.sgs.drop i = f.sgs[i] :: f.sgs.drop (i + 1) := List.drop_eq_getElem_cons hc
        have htk1 : f.sgs.take (i + 1) = f.sgs.take i ++ [f.sgs[i]] := by rw [List.take_succ_eq_append_getElem hc]
        have hxn := ss_nm f.sgs i hc
        have hpt := rpart f hf h1 h8 i hc
        generalize f.sgs[i] = s at *
        refine CallQ.ren [(1, 1)] 130 hpt (clS _) rfl rfl ⟨⟨_, rfl, .inl (renV (v_ss _))⟩, trivial⟩ rfl (.inr rfl) ?_
        simp (config := { maxSteps := 2000000 }) only [go_sem, Nat.reduceBEq, Nat.reduceAdd, Nat.reduceLT, Nat.reduceLeDiff, Nat.reduceEqDiff, reduceCtorEq, Int.reduceAdd, Int.reduceSub, Int.reduceNeg, Int.reduceLE, Int.reduceLT, Int.reduceToNat, Int.reduceBEq, Int.reduceBNe, Int.reduceEq, Int.reduceNe, Int.toNat_zero, Int.toNat_one, bne_self_eq_false, Nat.reduceMul, Nat.zero_mul, Nat.mul_one, Nat.one_mul, Nat.reduceSub, Int.cast_ofNat_Int, Int.toNat_natCast]
        refine mtch (fun hp => ?_) (fun hp => ?_)
        · have hp : (prE f.gd f.ln (f.sgs.take i) s == 0) = false := by simpa using hp
          simp (config := { maxSteps := 2000000 }) only [go_sem, Nat.reduceBEq, Nat.reduceAdd, Nat.reduceLT, Nat.reduceLeDiff, Nat.reduceEqDiff, reduceCtorEq, Int.reduceAdd, Int.reduceSub, Int.reduceNeg, Int.reduceLE, Int.reduceLT, Int.reduceToNat, Int.reduceBEq, Int.reduceBNe, Int.reduceEq, Int.reduceNe, Int.toNat_zero, Int.toNat_one, bne_self_eq_false, Nat.reduceMul, Nat.zero_mul, Nat.mul_one, Nat.one_mul, Nat.reduceSub, Int.cast_ofNat_Int, Int.toNat_natCast, hxn]
          refine ⟨⟨by omega, by omega⟩, ?_⟩
          exact RetQ.of hR rfl ⟨rfl, rfl, trivial⟩ (by rw [hfr, hx, hdr, sgE, hp]; rfl) (SubS.sub ⟨⟨_, rfl, .inl rfl⟩, ⟨_, rfl, .inl rfl⟩, trivial⟩) hM (ClV.of rfl)
        · have hp : (prE f.gd f.ln (f.sgs.take i) s == 0) = true := by simpa using hp
          have w1 : IntKind.i64.wrap ((i : Int) + 1) = ((i + 1 : Nat) : Int) := by rw [w64 (by omega) (by omega)]; omega
          simp only [w1]
          exact hb _ _ ⟨i + 1, hc, by rw [hx, hdr, sgE, hp, htk1]; rfl⟩ [(1, 1), (2, 2), (4, 4)] (by simp only; omega) ⟨rfl, ⟨⟨rfl, rfl⟩, ⟨rfl, rfl⟩, trivial⟩, ⟨rfl, rfl, rfl, trivial⟩, ⟨.inr ⟨_, rfl, .inl rfl⟩, .inr ⟨_, rfl, .inl rfl⟩, .inr ⟨_, rfl, .inl (renV (v_ss _))⟩, trivial⟩⟩
      · have hc : i = f.sgs.length := by simp at hc; omega
        subst hc
        refine RetQ.of hR rfl ⟨rfl, rfl, trivial⟩ ?_ (SubS.sub ⟨⟨_, rfl, .inl rfl⟩, ⟨_, rfl, .inl rfl⟩, trivial⟩) hM (ClV.of rfl)
        rw [hfr, hx, List.drop_length]; rfl
theorem rvalidD (f : Fm) (hf : f.ok) : CallOk Try.prog 41 [dbV 2] [bF 2 1 f, bS 1 f.sgs] (Bo (fok f)) [] := by
  have hM := clF 2 1 f
  refine CallOk.mkN 100 Try.func41 rfl en41 (by simp [Try.ntmps41]) (ClA.of rfl) rfl rfl fun C hR hP => ?_
  simp (config := { maxSteps := 2000000 }) only [go_sem, Nat.reduceBEq, Nat.reduceAdd, Nat.reduceLT, Nat.reduceLeDiff, Nat.reduceEqDiff, reduceCtorEq, Int.reduceAdd, Int.reduceSub, Int.reduceNeg, Int.reduceLE, Int.reduceLT, Int.reduceToNat, Int.reduceBEq, Int.reduceBNe, Int.reduceEq, Int.reduceNe, Int.toNat_zero, Int.toNat_one, bne_self_eq_false, Nat.reduceMul, Nat.zero_mul, Nat.mul_one, Nat.one_mul, Nat.reduceSub, Int.cast_ofNat_Int, Int.toNat_natCast]
  refine CallQ.ren [(1, 1), (2, 2)] 130 (rfault f hf) hM rfl rfl ⟨⟨_, rfl, .inl rfl⟩, ⟨_, rfl, .inl (renV (v_ss _))⟩, trivial⟩ rfl (.inr rfl) ?_
  simp (config := { maxSteps := 2000000 }) only [go_sem, Nat.reduceBEq, Nat.reduceAdd, Nat.reduceLT, Nat.reduceLeDiff, Nat.reduceEqDiff, reduceCtorEq, Int.reduceAdd, Int.reduceSub, Int.reduceNeg, Int.reduceLE, Int.reduceLT, Int.reduceToNat, Int.reduceBEq, Int.reduceBNe, Int.reduceEq, Int.reduceNe, Int.toNat_zero, Int.toNat_one, bne_self_eq_false, Nat.reduceMul, Nat.zero_mul, Nat.mul_one, Nat.one_mul, Nat.reduceSub, Int.cast_ofNat_Int, Int.toNat_natCast]
  exact RetQ.of hR rfl ⟨rfl, trivial⟩ rfl (SubS.sub ⟨⟨_, rfl, .inl rfl⟩, ⟨_, rfl, .inl rfl⟩, trivial⟩) hM (ClV.of rfl)
theorem rframe (f : Fm) (hf : f.ok) : CallOk Try.prog 15 [fm5 1 f] [bS 1 f.sgs] (Bo (fok f)) [] := by
  have hM := clS f.sgs
  refine CallOk.mkN 100 Try.func15 rfl en15 (by simp [Try.ntmps15]) (ClA.of rfl) rfl rfl fun C hR hP => ?_
  simp (config := { maxSteps := 2000000 }) only [go_sem, Nat.reduceBEq, Nat.reduceAdd, Nat.reduceLT, Nat.reduceLeDiff, Nat.reduceEqDiff, reduceCtorEq, Int.reduceAdd, Int.reduceSub, Int.reduceNeg, Int.reduceLE, Int.reduceLT, Int.reduceToNat, Int.reduceBEq, Int.reduceBNe, Int.reduceEq, Int.reduceNe, Int.toNat_zero, Int.toNat_one, bne_self_eq_false, Nat.reduceMul, Nat.zero_mul, Nat.mul_one, Nat.one_mul, Nat.reduceSub, Int.cast_ofNat_Int, Int.toNat_natCast]
  refine CallQ.ren [(1, 1), (2, 101)] 130 (rvalidD f hf) (clF 2 1 f) rfl rfl ⟨⟨_, rfl, .inr ⟨rfl, [], rfl⟩⟩, ⟨_, rfl, .inl (renV (v_ss _))⟩, trivial⟩ rfl (.inr rfl) ?_
  simp (config := { maxSteps := 2000000 }) only [go_sem, Nat.reduceBEq, Nat.reduceAdd, Nat.reduceLT, Nat.reduceLeDiff, Nat.reduceEqDiff, reduceCtorEq, Int.reduceAdd, Int.reduceSub, Int.reduceNeg, Int.reduceLE, Int.reduceLT, Int.reduceToNat, Int.reduceBEq, Int.reduceBNe, Int.reduceEq, Int.reduceNe, Int.toNat_zero, Int.toNat_one, bne_self_eq_false, Nat.reduceMul, Nat.zero_mul, Nat.mul_one, Nat.one_mul, Nat.reduceSub, Int.cast_ofNat_Int, Int.toNat_natCast]
  exact RetQ.of hR rfl ⟨rfl, trivial⟩ rfl (Sub.one rfl (.inl rfl)) hM (ClV.of rfl)
/-- What a valid frame is. -/
structure Fm.val (f : Fm) : Prop where
  ln : 1 ≤ f.ln ∧ f.ln ≤ 8
  id : 0 ≤ f.id ∧ f.id ≤ 2047
  k : f.sgs.length ≤ 16
  gd : f.gd = true → 2 ≤ f.ln
  sg : ∀ i (h : i < f.sgs.length), prE f.gd f.ln (f.sgs.take i) f.sgs[i] = 0
theorem sgE_all (gd : Bool) (ln : Int) : ∀ (l seen : List Sg), (sgE gd ln seen l).2 = 0 → ∀ i (h : i < l.length), prE gd ln (seen ++ l.take i) l[i] = 0
  | [], _, _, i, h => by simp at h
  | s :: l, seen, h, i, hi => by
    rw [sgE] at h
    have hp : prE gd ln seen s = 0 := by
      cases hp : (prE gd ln seen s == 0) with
      | true => simpa using hp
      | false => rw [hp] at h; simp only [cond_false] at h; exact h
    rw [show (prE gd ln seen s == 0) = true by simpa using hp, cond_true] at h
    cases i with
    | zero => simpa using hp
    | succ i =>
      have := sgE_all gd ln l _ h i (by simpa using hi)
      simpa using this
theorem fok_val {f : Fm} (h : fok f = true) : f.val := by
  have h2 : (frE f).2 = 0 := by simpa [fok] using h
  have hz : hdE f = 0 := by
    cases hz : (hdE f == 0) with
    | true => simpa using hz
    | false => rw [frE, hz] at h2; exact h2
  obtain ⟨h1, h3, h4, h5⟩ := hdE_0 (f := f) (by rw [hz]; rfl)
  have hfr : frE f = sgE f.gd f.ln [] f.sgs := by rw [frE, hz]; rfl
  rw [hfr] at h2
  exact ⟨h1, h3, h4, h5, fun i hi => by simpa using sgE_all f.gd f.ln f.sgs [] h2 i hi⟩
theorem prE_0 {gd : Bool} {ln : Int} {seen : List Sg} {s : Sg} (h : prE gd ln seen s = 0) : sok s = true ∧ inG gd ln s = true ∧ clash seen s = false := by
  unfold prE at h
  cases h1 : sok s <;> cases h2 : inG gd ln s <;> cases h3 : clash seen s <;> rw [h1, h2, h3] at h <;> first | exact ⟨rfl, rfl, rfl⟩ | cases h
end Go.Proofs.Ytcdclmelnnbdnaa
