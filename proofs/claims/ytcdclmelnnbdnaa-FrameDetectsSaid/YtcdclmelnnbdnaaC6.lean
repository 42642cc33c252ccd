/- Frame: Watch. -/
import Derived.Test.YtcdclmelnnbdnaaC3
namespace Go.Proofs.Ytcdclmelnnbdnaa
open Vg Tf
set_option linter.unusedSimpArgs false
set_option linter.unusedVariables false
set_option maxRecDepth 100000
set_option maxHeartbeats 4000000
structure Wt where
  sn : Bool
  ct : Int
  ls : Int
  fl : Int
@[go_sem] def wtL (w : Wt) : List Cv := [.v (.bool w.sn), .v (.int .i64 w.ct), .v (.int .i64 w.ls), .v (.int .i64 w.fl)]
@[reducible] def wt (w : Wt) : V := .agg (wtL w)
def wt0 : Wt := ⟨false, 0, 0, 0⟩
def wok (w : Wt) : Bool := inR w.ct 0 14 && (inR w.ls 0 1000 && (inR w.fl 0 1000 && (w.sn || decide (w.ct = 0))))
def wE (w : Wt) (f : Fm) (u : List Nat) : Int := bif wok w then gE f u else 1
noncomputable def badU (f : Fm) (u : List Nat) : Bool := bif decide (u.getD 0 0 = sumF f u) then decide (14 < u.getD 1 0 % 16) else true
def stepD (w : Wt) (c : Int) : Int := (c - w.ct + 15) % 15
noncomputable def stepW (w : Wt) (f : Fm) (u : List Nat) : Wt × Int :=
  bif badU f u then (⟨w.sn, w.ct, w.ls, min 1000 (w.fl + 1)⟩, 3)
  else bif (bif !w.sn then true else decide (stepD w (u.getD 1 0 % 16 : Nat) = 1)) then (⟨true, (u.getD 1 0 % 16 : Nat), w.ls, w.fl⟩, 0)
  else bif decide (stepD w (u.getD 1 0 % 16 : Nat) = 0) then (w, 1)
  else bif decide (stepD w (u.getD 1 0 % 16 : Nat) ≤ 4) then (⟨w.sn, (u.getD 1 0 % 16 : Nat), min 1000 (w.ls + stepD w (u.getD 1 0 % 16 : Nat) - 1), w.fl⟩, 2)
  else (⟨false, 0, w.ls, min 1000 (w.fl + 1)⟩, 3)
noncomputable def wR (w : Wt) (f : Fm) (u : List Nat) : Wt × Int := bif wE w f u == 0 then stepW w f u else (wt0, 0)
theorem wok_bd {w : Wt} (h : wok w = true) : (0 ≤ w.ct ∧ w.ct ≤ 14) ∧ (0 ≤ w.ls ∧ w.ls ≤ 1000) ∧ (0 ≤ w.fl ∧ w.fl ≤ 1000) ∧ (w.sn = false → w.ct = 0) := by
  simp only [wok, Bool.and_eq_true, inR_iff, Bool.or_eq_true, decide_eq_true_eq] at h
  refine ⟨h.1, h.2.1, h.2.2.1, fun hs => ?_⟩
  rcases h.2.2.2 with h | h
  · rw [hs] at h; cases h
  · exact h
theorem and15 (a : Nat) (ha : a < 256) : bits .and .u8 (a : Int) 15 = ((a % 16 : Nat) : Int) := by
  have h : ∀ a : Fin 256, bits .and .u8 (a.val : Int) 15 = ((a.val % 16 : Nat) : Int) := by decide +kernel
  exact h ⟨a, ha⟩
theorem fwatch (w : Wt) (f : Fm) (hf : f.ok) (u : List Nat) (hu : ∀ x ∈ u, x < 256) (hl : u.length ≤ 1000) : CallOk Try.prog 29 [wt w, fm5 1 f, slV 2 u.length] [bS 1 f.sgs, bBr 2 u] (.tup [.agg (wtL (wR w f u).1), Wi (wR w f u).2, Wi (wE w f u)]) [] := by
  have hM := clSU f u
  refine CallOk.mkN 100 Try.func29 rfl en29 (by simp [Try.ntmps29]) (ClA.of rfl) rfl rfl fun C hR hP => ?_
  simp (config := { maxSteps := 2000000 }) only [go_sem, Nat.reduceBEq, Nat.reduceAdd, Nat.reduceLT, Nat.reduceLeDiff, Nat.reduceEqDiff, reduceCtorEq, Int.reduceAdd, Int.reduceSub, Int.reduceNeg, Int.reduceLE, Int.reduceLT, Int.reduceToNat, Int.reduceBEq, Int.reduceBNe, Int.reduceEq, Int.reduceNe, Int.toNat_zero, Int.toNat_one, bne_self_eq_false, Nat.reduceMul, Nat.zero_mul, Nat.mul_one, Nat.one_mul, Nat.reduceSub, Int.cast_ofNat_Int, Int.toNat_natCast]
  refine CallQ.pure 110 (fwithin w.ct 0 14) rfl ?_
  simp (config := { maxSteps := 2000000 }) only [go_sem, Nat.reduceBEq, Nat.reduceAdd, Nat.reduceLT, Nat.reduceLeDiff, Nat.reduceEqDiff, reduceCtorEq, Int.reduceAdd, Int.reduceSub, Int.reduceNeg, Int.reduceLE, Int.reduceLT, Int.reduceToNat, Int.reduceBEq, Int.reduceBNe, Int.reduceEq, Int.reduceNe, Int.toNat_zero, Int.toNat_one, bne_self_eq_false, Nat.reduceMul, Nat.zero_mul, Nat.mul_one, Nat.one_mul, Nat.reduceSub, Int.cast_ofNat_Int, Int.toNat_natCast]
  refine CallQ.guard 110 (fun _ => fwithin w.ls 0 1000) (fun h => by rw [h]; rfl) ?_
  simp (config := { maxSteps := 2000000 }) only [go_sem, Nat.reduceBEq, Nat.reduceAdd, Nat.reduceLT, Nat.reduceLeDiff, Nat.reduceEqDiff, reduceCtorEq, Int.reduceAdd, Int.reduceSub, Int.reduceNeg, Int.reduceLE, Int.reduceLT, Int.reduceToNat, Int.reduceBEq, Int.reduceBNe, Int.reduceEq, Int.reduceNe, Int.toNat_zero, Int.toNat_one, bne_self_eq_false, Nat.reduceMul, Nat.zero_mul, Nat.mul_one, Nat.one_mul, Nat.reduceSub, Int.cast_ofNat_Int, Int.toNat_natCast]
  refine CallQ.guard 110 (fun _ => fwithin w.fl 0 1000) (fun h => by rw [h]; rfl) ?_
  simp (config := { maxSteps := 2000000 }) only [go_sem, Nat.reduceBEq, Nat.reduceAdd, Nat.reduceLT, Nat.reduceLeDiff, Nat.reduceEqDiff, reduceCtorEq, Int.reduceAdd, Int.reduceSub, Int.reduceNeg, Int.reduceLE, Int.reduceLT, Int.reduceToNat, Int.reduceBEq, Int.reduceBNe, Int.reduceEq, Int.reduceNe, Int.toNat_zero, Int.toNat_one, bne_self_eq_false, Nat.reduceMul, Nat.zero_mul, Nat.mul_one, Nat.one_mul, Nat.reduceSub, Int.cast_ofNat_Int, Int.toNat_natCast]
  refine ⟨by intro h; simp only [h]; simp, ?_⟩
  have e1 : (bif (bif (bif !decide (0 ≤ w.ct ∧ w.ct ≤ 14) then true else !decide (0 ≤ w.ls ∧ w.ls ≤ 1000)) then true else !decide (0 ≤ w.fl ∧ w.fl ≤ 1000)) then true else bif !w.sn then w.ct != 0 else false) = !wok w := by
    unfold wok inR
    rw [show (w.ct != 0) = !decide (w.ct = 0) by rw [Bool.eq_iff_iff]; simp]
    generalize decide (0 ≤ w.ct ∧ w.ct ≤ 14) = a
    generalize decide (0 ≤ w.ls ∧ w.ls ≤ 1000) = b
    generalize decide (0 ≤ w.fl ∧ w.fl ≤ 1000) = c
    generalize decide (w.ct = 0) = d
    cases a <;> cases b <;> cases c <;> cases d <;> cases w.sn <;> rfl
  simp only [e1]
  have hin : ∀ M', SubS [bS 1 f.sgs, bBr 2 u] M' → Sub [bS 1 f.sgs, bBr 2 u] M' := fun _ h => h.sub
  refine mtch (fun hw => ?_) (fun hw => ?_)
  · have hw : wok w = false := by simpa using hw
    have he : wE w f u = 1 := by rw [wE, hw]; rfl
    have hr : wR w f u = (wt0, 0) := by rw [wR, he]; rfl
    rw [he, hr] at hR
    exact RetQ.of hR rfl (by simp (config := { maxSteps := 2000000 }) only [go_sem, Nat.reduceBEq, Nat.reduceAdd, Nat.reduceLT, Nat.reduceLeDiff, Nat.reduceEqDiff, reduceCtorEq, Int.reduceAdd, Int.reduceSub, Int.reduceNeg, Int.reduceLE, Int.reduceLT, Int.reduceToNat, Int.reduceBEq, Int.reduceBNe, Int.reduceEq, Int.reduceNe, Int.toNat_zero, Int.toNat_one, bne_self_eq_false, Nat.reduceMul, Nat.zero_mul, Nat.mul_one, Nat.one_mul, Nat.reduceSub, Int.cast_ofNat_Int, Int.toNat_natCast]) (by simp (config := { maxSteps := 2000000 }) only [go_sem, Nat.reduceBEq, Nat.reduceAdd, Nat.reduceLT, Nat.reduceLeDiff, Nat.reduceEqDiff, reduceCtorEq, Int.reduceAdd, Int.reduceSub, Int.reduceNeg, Int.reduceLE, Int.reduceLT, Int.reduceToNat, Int.reduceBEq, Int.reduceBNe, Int.reduceEq, Int.reduceNe, Int.toNat_zero, Int.toNat_one, bne_self_eq_false, Nat.reduceMul, Nat.zero_mul, Nat.mul_one, Nat.one_mul, Nat.reduceSub, Int.cast_ofNat_Int, Int.toNat_natCast]; rfl) (SubS.sub ⟨⟨_, rfl, .inl rfl⟩, ⟨_, rfl, .inl rfl⟩, trivial⟩) hM (ClV.of rfl)
  · have hw : wok w = true := by simpa using hw
    obtain ⟨b1, b2, b3, b4⟩ := wok_bd hw
    refine CallQ.ren [(1, 1), (2, 2)] 110 (fguarded f hf u) hM rfl rfl ⟨⟨_, rfl, wkS _ _ _⟩, ⟨_, rfl, wkU _ _ _ _⟩, trivial⟩ rfl (.inr rfl) ?_
    simp (config := { maxSteps := 2000000 }) only [go_sem, Nat.reduceBEq, Nat.reduceAdd, Nat.reduceLT, Nat.reduceLeDiff, Nat.reduceEqDiff, reduceCtorEq, Int.reduceAdd, Int.reduceSub, Int.reduceNeg, Int.reduceLE, Int.reduceLT, Int.reduceToNat, Int.reduceBEq, Int.reduceBNe, Int.reduceEq, Int.reduceNe, Int.toNat_zero, Int.toNat_one, bne_self_eq_false, Nat.reduceMul, Nat.zero_mul, Nat.mul_one, Nat.one_mul, Nat.reduceSub, Int.cast_ofNat_Int, Int.toNat_natCast]
    refine mtch (fun hz => ?_) (fun hz => ?_)
    · have hz : (gE f u == 0) = false := by simpa using hz
      have he : wE w f u = gE f u := by rw [wE, hw]; rfl
      have hr : wR w f u = (wt0, 0) := by rw [wR, he, hz]; rfl
      rw [he, hr] at hR
      exact RetQ.of hR rfl (by simp (config := { maxSteps := 2000000 }) only [go_sem, Nat.reduceBEq, Nat.reduceAdd, Nat.reduceLT, Nat.reduceLeDiff, Nat.reduceEqDiff, reduceCtorEq, Int.reduceAdd, Int.reduceSub, Int.reduceNeg, Int.reduceLE, Int.reduceLT, Int.reduceToNat, Int.reduceBEq, Int.reduceBNe, Int.reduceEq, Int.reduceNe, Int.toNat_zero, Int.toNat_one, bne_self_eq_false, Nat.reduceMul, Nat.zero_mul, Nat.mul_one, Nat.one_mul, Nat.reduceSub, Int.cast_ofNat_Int, Int.toNat_natCast]) (by simp (config := { maxSteps := 2000000 }) only [go_sem, Nat.reduceBEq, Nat.reduceAdd, Nat.reduceLT, Nat.reduceLeDiff, Nat.reduceEqDiff, reduceCtorEq, Int.reduceAdd, Int.reduceSub, Int.reduceNeg, Int.reduceLE, Int.reduceLT, Int.reduceToNat, Int.reduceBEq, Int.reduceBNe, Int.reduceEq, Int.reduceNe, Int.toNat_zero, Int.toNat_one, bne_self_eq_false, Nat.reduceMul, Nat.zero_mul, Nat.mul_one, Nat.one_mul, Nat.reduceSub, Int.cast_ofNat_Int, Int.toNat_natCast]; rfl) (SubS.sub ⟨⟨_, rfl, .inl rfl⟩, ⟨_, rfl, .inl rfl⟩, trivial⟩) hM (ClV.of rfl)
    · have hz : gE f u = 0 := by simpa using hz
      obtain ⟨hv, hln, hgd, h2, h8⟩ := gE_0 hz
      have he : wE w f u = 0 := by rw [wE, hw, hz]; rfl
      have hr : wR w f u = stepW w f u := by rw [wR, he]; rfl
      rw [he, hr, stepW] at hR
      have hg0 : (List.map cb u)[0]? = some (cb (u.getD 0 0)) := get_u (by omega)
      have hg1 : (List.map cb u)[1]? = some (cb (u.getD 1 0)) := get_u (by omega)
      have hu1 := getD_lt hu (show 1 < u.length by omega)
      have hc := and15 _ hu1
      have hbad : badU f u = bif decide (u.getD 0 0 = sumF f u) then decide (14 < u.getD 1 0 % 16) else true := rfl
      have hcc : IntKind.i64.wrap ((u.getD 1 0 % 16 : Nat) : Int) = ((u.getD 1 0 % 16 : Nat) : Int) := w64n _ (by omega)
      have hd : (IntKind.i64.wrap (IntKind.i64.wrap (((u.getD 1 0 % 16 : Nat) : Int) - w.ct) + 15)).tmod 15 = stepD w ((u.getD 1 0 % 16 : Nat) : Int) := by
        rw [w64 (x := ((u.getD 1 0 % 16 : Nat) : Int) - w.ct) (by omega) (by omega), w64 (by omega) (by omega), Int.tmod_eq_emod_of_nonneg (by omega)]; rfl
      have hd15 : 0 ≤ stepD w ((u.getD 1 0 % 16 : Nat) : Int) ∧ stepD w ((u.getD 1 0 % 16 : Nat) : Int) < 15 := by unfold stepD; omega
      have hc16 : u.getD 1 0 % 16 < 16 := Nat.mod_lt _ (by omega)
      generalize stepD w ((u.getD 1 0 % 16 : Nat) : Int) = d at *
      generalize u.getD 1 0 % 16 = c at *
      generalize u.getD 1 0 = a1 at *
      generalize u.getD 0 0 = a0 at *
      simp (config := { maxSteps := 2000000 }) only [go_sem, Nat.reduceBEq, Nat.reduceAdd, Nat.reduceLT, Nat.reduceLeDiff, Nat.reduceEqDiff, reduceCtorEq, Int.reduceAdd, Int.reduceSub, Int.reduceNeg, Int.reduceLE, Int.reduceLT, Int.reduceToNat, Int.reduceBEq, Int.reduceBNe, Int.reduceEq, Int.reduceNe, Int.toNat_zero, Int.toNat_one, bne_self_eq_false, Nat.reduceMul, Nat.zero_mul, Nat.mul_one, Nat.one_mul, Nat.reduceSub, Int.cast_ofNat_Int, Int.toNat_natCast, hg1]
      simp only [hc, hcc, hd]
      refine ⟨by omega, ?_⟩
      obtain ⟨x0, x1, r, rfl⟩ : ∃ x0 x1 r, u = x0 :: x1 :: r := by
        match u, h2 with
        | x0 :: x1 :: r, _ => exact ⟨x0, x1, r, rfl⟩
      have hx0 : a0 = x0 := by
        have := hg0.symm
        simp at this
        omega
      subst hx0
      refine Sm.cutm hP [(2, true, slV 2 (a0 :: x1 :: r).length), (3, true, .c (.p 4 0)), (4, true, .c (.p 5 0)), (6, true, .c (.p 6 0)), (10, true, I c), (11, true, I d)] [(4, ⟨false, wtL w, 53⟩), (5, ⟨false, fmL 1 f, 24⟩), (6, ⟨false, wtL wt0, 53⟩), bS 1 f.sgs, (2, ⟨true, cb a0 :: cb x1 :: r.map cb, 5⟩)] [(1, 1), (2, 2), (4, 100), (5, 101), (6, 102)] ⟨rfl, ⟨⟨rfl, rfl⟩, ⟨rfl, rfl⟩, trivial⟩, ⟨rfl, rfl, rfl, rfl, rfl, rfl, trivial⟩, ⟨.inr ⟨_, rfl, .inl rfl⟩, .inr ⟨_, rfl, .inl rfl⟩, .inr ⟨_, rfl, .inl rfl⟩, .inr ⟨_, rfl, .inl (renV (v_ss _))⟩, .inr ⟨_, rfl, .inl (renV (v_u (a0 :: x1 :: r)))⟩, trivial⟩⟩ (ClM.of (by simp only [List.all_cons, inMV (v_ss _), inMV (v_u _)]; rfl)) (ClE.of rfl) ?_
      refine Sm.dgo 120 6 mix (by decide +kernel) (by decide +kernel) ?_
      simp (config := { maxSteps := 2000000 }) only [go_sem, Nat.reduceBEq, Nat.reduceAdd, Nat.reduceLT, Nat.reduceLeDiff, Nat.reduceEqDiff, reduceCtorEq, Int.reduceAdd, Int.reduceSub, Int.reduceNeg, Int.reduceLE, Int.reduceLT, Int.reduceToNat, Int.reduceBEq, Int.reduceBNe, Int.reduceEq, Int.reduceNe, Int.toNat_zero, Int.toNat_one, bne_self_eq_false, Nat.reduceMul, Nat.zero_mul, Nat.mul_one, Nat.one_mul, Nat.reduceSub, Int.cast_ofNat_Int, Int.toNat_natCast]
      refine ⟨by omega, ?_⟩
      refine DCallQ.ren [(1, 1), (2, 2)] 120 (fcheck f (a0 :: x1 :: r) hu h2 (by omega)) hM rfl rfl ⟨⟨_, rfl, wkS _ _ _⟩, ⟨_, rfl, wkU _ (a0 :: x1 :: r) _ _⟩, trivial⟩ rfl (.inr rfl) rfl rfl ?_
      simp (config := { maxSteps := 2000000 }) only [go_sem, Nat.reduceBEq, Nat.reduceAdd, Nat.reduceLT, Nat.reduceLeDiff, Nat.reduceEqDiff, reduceCtorEq, Int.reduceAdd, Int.reduceSub, Int.reduceNeg, Int.reduceLE, Int.reduceLT, Int.reduceToNat, Int.reduceBEq, Int.reduceBNe, Int.reduceEq, Int.reduceNe, Int.toNat_zero, Int.toNat_one, bne_self_eq_false, Nat.reduceMul, Nat.zero_mul, Nat.mul_one, Nat.one_mul, Nat.reduceSub, Int.cast_ofNat_Int, Int.toNat_natCast]
      have e2 : (bif ((a0 : Int) != ((sumF f (a0 :: x1 :: r) : Nat) : Int)) then true else decide ((14 : Int) < (c : Int))) = badU f (a0 :: x1 :: r) := by
        rw [hbad]
        by_cases h : a0 = sumF f (a0 :: x1 :: r)
        · rw [tru_of h, ← h, show ((a0 : Int) != (a0 : Int)) = false by simp, show decide ((14 : Int) < (c : Int)) = decide (14 < c) by rw [decide_eq_decide]; omega]; rfl
        · rw [fal_of h, show ((a0 : Int) != ((sumF f (a0 :: x1 :: r) : Nat) : Int)) = true by rw [bne_iff_ne]; omega]; rfl
      simp only [e2]
      have w1 : IntKind.i64.wrap (w.fl + 1) = w.fl + 1 := w64 (by omega) (by omega)
      have w2 : IntKind.i64.wrap (IntKind.i64.wrap (w.ls + d) - 1) = w.ls + d - 1 := by rw [w64 (x := w.ls + d) (by omega) (by omega), w64 (by omega) (by omega)]
      have hd1 : (d == 1) = decide (d = 1) := by rw [Bool.eq_iff_iff]; simp
      have hd0 : (d == 0) = decide (d = 0) := by rw [Bool.eq_iff_iff]; simp
      simp only [w1, w2, hd1, hd0]
      have hsub : ∀ M' : Mem, SubS [bS 1 f.sgs, bBr 2 (a0 :: x1 :: r)] M' → Vg.Sub [bS 1 f.sgs, bBr 2 (a0 :: x1 :: r)] M' := fun _ h => h.sub
      refine mtch (fun h1 => ?_) (fun h1 => ?_)
      · rw [h1, cond_true] at hR
        exact RetQ.of hR rfl (by simp (config := { maxSteps := 2000000 }) only [go_sem, Nat.reduceBEq, Nat.reduceAdd, Nat.reduceLT, Nat.reduceLeDiff, Nat.reduceEqDiff, reduceCtorEq, Int.reduceAdd, Int.reduceSub, Int.reduceNeg, Int.reduceLE, Int.reduceLT, Int.reduceToNat, Int.reduceBEq, Int.reduceBNe, Int.reduceEq, Int.reduceNe, Int.toNat_zero, Int.toNat_one, bne_self_eq_false, Nat.reduceMul, Nat.zero_mul, Nat.mul_one, Nat.one_mul, Nat.reduceSub, Int.cast_ofNat_Int, Int.toNat_natCast]) (by simp (config := { maxSteps := 2000000 }) only [go_sem, Nat.reduceBEq, Nat.reduceAdd, Nat.reduceLT, Nat.reduceLeDiff, Nat.reduceEqDiff, reduceCtorEq, Int.reduceAdd, Int.reduceSub, Int.reduceNeg, Int.reduceLE, Int.reduceLT, Int.reduceToNat, Int.reduceBEq, Int.reduceBNe, Int.reduceEq, Int.reduceNe, Int.toNat_zero, Int.toNat_one, bne_self_eq_false, Nat.reduceMul, Nat.zero_mul, Nat.mul_one, Nat.one_mul, Nat.reduceSub, Int.cast_ofNat_Int, Int.toNat_natCast] <;> rfl) (hsub _ ⟨⟨_, rfl, .inl rfl⟩, ⟨_, rfl, .inl rfl⟩, trivial⟩) hM (ClV.of rfl)
      · rw [h1, cond_false] at hR
        refine mtch (fun h3 => ?_) (fun h3 => ?_)
        · rw [h3, cond_true] at hR
          exact RetQ.of hR rfl (by simp (config := { maxSteps := 2000000 }) only [go_sem, Nat.reduceBEq, Nat.reduceAdd, Nat.reduceLT, Nat.reduceLeDiff, Nat.reduceEqDiff, reduceCtorEq, Int.reduceAdd, Int.reduceSub, Int.reduceNeg, Int.reduceLE, Int.reduceLT, Int.reduceToNat, Int.reduceBEq, Int.reduceBNe, Int.reduceEq, Int.reduceNe, Int.toNat_zero, Int.toNat_one, bne_self_eq_false, Nat.reduceMul, Nat.zero_mul, Nat.mul_one, Nat.one_mul, Nat.reduceSub, Int.cast_ofNat_Int, Int.toNat_natCast]) (by simp (config := { maxSteps := 2000000 }) only [go_sem, Nat.reduceBEq, Nat.reduceAdd, Nat.reduceLT, Nat.reduceLeDiff, Nat.reduceEqDiff, reduceCtorEq, Int.reduceAdd, Int.reduceSub, Int.reduceNeg, Int.reduceLE, Int.reduceLT, Int.reduceToNat, Int.reduceBEq, Int.reduceBNe, Int.reduceEq, Int.reduceNe, Int.toNat_zero, Int.toNat_one, bne_self_eq_false, Nat.reduceMul, Nat.zero_mul, Nat.mul_one, Nat.one_mul, Nat.reduceSub, Int.cast_ofNat_Int, Int.toNat_natCast] <;> rfl) (hsub _ ⟨⟨_, rfl, .inl rfl⟩, ⟨_, rfl, .inl rfl⟩, trivial⟩) hM (ClV.of rfl)
        · rw [h3, cond_false] at hR
          refine mtch (fun h4 => ?_) (fun h4 => ?_)
          · rw [h4, cond_true] at hR
            exact RetQ.of hR rfl (by simp (config := { maxSteps := 2000000 }) only [go_sem, Nat.reduceBEq, Nat.reduceAdd, Nat.reduceLT, Nat.reduceLeDiff, Nat.reduceEqDiff, reduceCtorEq, Int.reduceAdd, Int.reduceSub, Int.reduceNeg, Int.reduceLE, Int.reduceLT, Int.reduceToNat, Int.reduceBEq, Int.reduceBNe, Int.reduceEq, Int.reduceNe, Int.toNat_zero, Int.toNat_one, bne_self_eq_false, Nat.reduceMul, Nat.zero_mul, Nat.mul_one, Nat.one_mul, Nat.reduceSub, Int.cast_ofNat_Int, Int.toNat_natCast]) (by simp (config := { maxSteps := 2000000 }) only [go_sem, Nat.reduceBEq, Nat.reduceAdd, Nat.reduceLT, Nat.reduceLeDiff, Nat.reduceEqDiff, reduceCtorEq, Int.reduceAdd, Int.reduceSub, Int.reduceNeg, Int.reduceLE, Int.reduceLT, Int.reduceToNat, Int.reduceBEq, Int.reduceBNe, Int.reduceEq, Int.reduceNe, Int.toNat_zero, Int.toNat_one, bne_self_eq_false, Nat.reduceMul, Nat.zero_mul, Nat.mul_one, Nat.one_mul, Nat.reduceSub, Int.cast_ofNat_Int, Int.toNat_natCast] <;> rfl) (hsub _ ⟨⟨_, rfl, .inl rfl⟩, ⟨_, rfl, .inl rfl⟩, trivial⟩) hM (ClV.of rfl)
          · rw [h4, cond_false] at hR
            refine mtch (fun h5 => ?_) (fun h5 => ?_)
            · rw [h5, cond_true] at hR
              exact RetQ.of hR rfl (by simp (config := { maxSteps := 2000000 }) only [go_sem, Nat.reduceBEq, Nat.reduceAdd, Nat.reduceLT, Nat.reduceLeDiff, Nat.reduceEqDiff, reduceCtorEq, Int.reduceAdd, Int.reduceSub, Int.reduceNeg, Int.reduceLE, Int.reduceLT, Int.reduceToNat, Int.reduceBEq, Int.reduceBNe, Int.reduceEq, Int.reduceNe, Int.toNat_zero, Int.toNat_one, bne_self_eq_false, Nat.reduceMul, Nat.zero_mul, Nat.mul_one, Nat.one_mul, Nat.reduceSub, Int.cast_ofNat_Int, Int.toNat_natCast]) (by simp (config := { maxSteps := 2000000 }) only [go_sem, Nat.reduceBEq, Nat.reduceAdd, Nat.reduceLT, Nat.reduceLeDiff, Nat.reduceEqDiff, reduceCtorEq, Int.reduceAdd, Int.reduceSub, Int.reduceNeg, Int.reduceLE, Int.reduceLT, Int.reduceToNat, Int.reduceBEq, Int.reduceBNe, Int.reduceEq, Int.reduceNe, Int.toNat_zero, Int.toNat_one, bne_self_eq_false, Nat.reduceMul, Nat.zero_mul, Nat.mul_one, Nat.one_mul, Nat.reduceSub, Int.cast_ofNat_Int, Int.toNat_natCast] <;> rfl) (hsub _ ⟨⟨_, rfl, .inl rfl⟩, ⟨_, rfl, .inl rfl⟩, trivial⟩) hM (ClV.of rfl)
            · rw [h5, cond_false] at hR
              exact RetQ.of hR rfl (by simp (config := { maxSteps := 2000000 }) only [go_sem, Nat.reduceBEq, Nat.reduceAdd, Nat.reduceLT, Nat.reduceLeDiff, Nat.reduceEqDiff, reduceCtorEq, Int.reduceAdd, Int.reduceSub, Int.reduceNeg, Int.reduceLE, Int.reduceLT, Int.reduceToNat, Int.reduceBEq, Int.reduceBNe, Int.reduceEq, Int.reduceNe, Int.toNat_zero, Int.toNat_one, bne_self_eq_false, Nat.reduceMul, Nat.zero_mul, Nat.mul_one, Nat.one_mul, Nat.reduceSub, Int.cast_ofNat_Int, Int.toNat_natCast]) (by simp (config := { maxSteps := 2000000 }) only [go_sem, Nat.reduceBEq, Nat.reduceAdd, Nat.reduceLT, Nat.reduceLeDiff, Nat.reduceEqDiff, reduceCtorEq, Int.reduceAdd, Int.reduceSub, Int.reduceNeg, Int.reduceLE, Int.reduceLT, Int.reduceToNat, Int.reduceBEq, Int.reduceBNe, Int.reduceEq, Int.reduceNe, Int.toNat_zero, Int.toNat_one, bne_self_eq_false, Nat.reduceMul, Nat.zero_mul, Nat.mul_one, Nat.one_mul, Nat.reduceSub, Int.cast_ofNat_Int, Int.toNat_natCast] <;> rfl) (hsub _ ⟨⟨_, rfl, .inl rfl⟩, ⟨_, rfl, .inl rfl⟩, trivial⟩) hM (ClV.of rfl)
theorem rmore (n b : Int) (hn : 0 ≤ n ∧ n ≤ 1000) (hb : -1 ≤ b ∧ b ≤ 1000) : CallOk Try.prog 54 [I n, I b] [] (I (min 1000 (n + b))) [] := by
  have w1 : IntKind.i64.wrap (n + b) = n + b := w64 (by omega) (by omega)
  refine CallOk.mkN 100 Try.func54 rfl en54 (by simp [Try.ntmps54]) (ClA.of rfl) rfl rfl fun C hR hP => ?_
  simp (config := { maxSteps := 2000000 }) only [go_sem, Nat.reduceBEq, Nat.reduceAdd, Nat.reduceLT, Nat.reduceLeDiff, Nat.reduceEqDiff, reduceCtorEq, Int.reduceAdd, Int.reduceSub, Int.reduceNeg, Int.reduceLE, Int.reduceLT, Int.reduceToNat, Int.reduceBEq, Int.reduceBNe, Int.reduceEq, Int.reduceNe, Int.toNat_zero, Int.toNat_one, bne_self_eq_false, Nat.reduceMul, Nat.zero_mul, Nat.mul_one, Nat.one_mul, Nat.reduceSub, Int.cast_ofNat_Int, Int.toNat_natCast, w1]
  refine mtch (fun h => ?_) (fun h => ?_)
  · rw [decide_eq_true_eq] at h
    exact RetQ.int hR rfl ⟨rfl, trivial⟩ (by omega)
  · rw [decide_eq_false_iff_not] at h
    exact RetQ.int hR rfl ⟨rfl, trivial⟩ (by omega)
theorem rwok (w : Wt) : CallOk Try.prog 30 [wt w] [] (Bo (wok w)) [] := by
  refine CallOk.mkN 100 Try.func30 rfl en30 (by simp [Try.ntmps30]) (ClA.of rfl) rfl rfl fun C hR hP => ?_
  simp (config := { maxSteps := 2000000 }) only [go_sem, Nat.reduceBEq, Nat.reduceAdd, Nat.reduceLT, Nat.reduceLeDiff, Nat.reduceEqDiff, reduceCtorEq, Int.reduceAdd, Int.reduceSub, Int.reduceNeg, Int.reduceLE, Int.reduceLT, Int.reduceToNat, Int.reduceBEq, Int.reduceBNe, Int.reduceEq, Int.reduceNe, Int.toNat_zero, Int.toNat_one, bne_self_eq_false, Nat.reduceMul, Nat.zero_mul, Nat.mul_one, Nat.one_mul, Nat.reduceSub, Int.cast_ofNat_Int, Int.toNat_natCast]
  refine ⟨by intros; simp_all, ?_⟩
  refine RetQ.bool hR rfl ⟨rfl, trivial⟩ ?_
  unfold wok inR
  rw [Bool.eq_iff_iff]
  simp only [Bool.cond_false_right, Bool.cond_true_left, Bool.and_eq_true, Bool.or_eq_true, decide_eq_true_eq, beq_iff_eq]
  grind
theorem rstep (w : Wt) (hw : wok w = true) (f : Fm) (u : List Nat) (hu : ∀ x ∈ u, x < 256) (hz : gE f u = 0) : CallOk Try.prog 31 [wt w, fm5 1 f, slV 2 u.length] [bS 1 f.sgs, bBr 2 u] (.tup [.agg (wtL (stepW w f u).1), Wi (stepW w f u).2]) [] := by
  have hM := clSU f u
  obtain ⟨b1, b2, b3, b4⟩ := wok_bd hw
  obtain ⟨hv, hln, hgd, h2, h8⟩ := gE_0 hz
  obtain ⟨a0, a1, r, rfl⟩ : ∃ x0 x1 r, u = x0 :: x1 :: r := by
    match u, h2 with
    | x0 :: x1 :: r, _ => exact ⟨x0, x1, r, rfl⟩
  have hu1 : a1 < 256 := hu a1 (by simp)
  have hsum := rsum f (a0 :: a1 :: r) hu h2 (by omega) hv.id
  have hstep : stepW w f (a0 :: a1 :: r) = bif badU f (a0 :: a1 :: r) then (⟨w.sn, w.ct, w.ls, min 1000 (w.fl + 1)⟩, 3)
    else bif (bif !w.sn then true else decide (stepD w (a1 % 16 : Nat) = 1)) then (⟨true, (a1 % 16 : Nat), w.ls, w.fl⟩, 0)
    else bif decide (stepD w (a1 % 16 : Nat) = 0) then (w, 1)
    else bif decide (stepD w (a1 % 16 : Nat) ≤ 4) then (⟨w.sn, (a1 % 16 : Nat), min 1000 (w.ls + stepD w (a1 % 16 : Nat) - 1), w.fl⟩, 2)
    else (⟨false, 0, w.ls, min 1000 (w.fl + 1)⟩, 3) := rfl
  have hbad : badU f (a0 :: a1 :: r) = bif decide (a0 = sumF f (a0 :: a1 :: r)) then decide (14 < a1 % 16) else true := rfl
  rw [hstep]
  have hc16 : a1 % 16 < 16 := Nat.mod_lt _ (by omega)
  have hc : (IntKind.i64.wrap (a1 : Int)).tmod 16 = ((a1 % 16 : Nat) : Int) := by rw [w64n _ (by omega)]; exact remN a1 16
  have hd : (IntKind.i64.wrap (IntKind.i64.wrap (((a1 % 16 : Nat) : Int) - w.ct) + 15)).tmod 15 = stepD w ((a1 % 16 : Nat) : Int) := by
    rw [w64 (x := ((a1 % 16 : Nat) : Int) - w.ct) (by omega) (by omega), w64 (by omega) (by omega), Int.tmod_eq_emod_of_nonneg (by omega)]; rfl
  have hd15 : 0 ≤ stepD w ((a1 % 16 : Nat) : Int) ∧ stepD w ((a1 % 16 : Nat) : Int) < 15 := by unfold stepD; omega
  generalize stepD w ((a1 % 16 : Nat) : Int) = d at *
  generalize a1 % 16 = c at *
  have hsub : ∀ M' : Mem, SubS [bS 1 f.sgs, bBr 2 (a0 :: a1 :: r)] M' → Vg.Sub [bS 1 f.sgs, bBr 2 (a0 :: a1 :: r)] M' := fun _ h => h.sub
  have hd1 : (d == 1) = decide (d = 1) := by rw [Bool.eq_iff_iff]; simp
  have hd0 : (d == 0) = decide (d = 0) := by rw [Bool.eq_iff_iff]; simp
  refine CallOk.mkN 100 Try.func31 rfl en31 (by simp [Try.ntmps31]) (ClA.of rfl) rfl rfl fun C hR hP => ?_
  simp (config := { maxSteps := 2000000 }) only [go_sem, Nat.reduceBEq, Nat.reduceAdd, Nat.reduceLT, Nat.reduceLeDiff, Nat.reduceEqDiff, reduceCtorEq, Int.reduceAdd, Int.reduceSub, Int.reduceNeg, Int.reduceLE, Int.reduceLT, Int.reduceToNat, Int.reduceBEq, Int.reduceBNe, Int.reduceEq, Int.reduceNe, Int.toNat_zero, Int.toNat_one, bne_self_eq_false, Nat.reduceMul, Nat.zero_mul, Nat.mul_one, Nat.one_mul, Nat.reduceSub, Int.cast_ofNat_Int, Int.toNat_natCast, hc]
  refine ⟨by omega, ?_⟩
  refine Sm.dgo 120 6 mix (by decide +kernel) (by decide +kernel) ?_
  simp (config := { maxSteps := 2000000 }) only [go_sem, Nat.reduceBEq, Nat.reduceAdd, Nat.reduceLT, Nat.reduceLeDiff, Nat.reduceEqDiff, reduceCtorEq, Int.reduceAdd, Int.reduceSub, Int.reduceNeg, Int.reduceLE, Int.reduceLT, Int.reduceToNat, Int.reduceBEq, Int.reduceBNe, Int.reduceEq, Int.reduceNe, Int.toNat_zero, Int.toNat_one, bne_self_eq_false, Nat.reduceMul, Nat.zero_mul, Nat.mul_one, Nat.one_mul, Nat.reduceSub, Int.cast_ofNat_Int, Int.toNat_natCast]
  refine DCallQ.ren [(1, 1), (2, 2)] 120 hsum hM rfl rfl ⟨⟨_, rfl, wkS _ _ _⟩, ⟨_, rfl, wkU _ (a0 :: a1 :: r) _ _⟩, trivial⟩ rfl (.inr rfl) rfl rfl ?_
  simp (config := { maxSteps := 2000000 }) only [go_sem, Nat.reduceBEq, Nat.reduceAdd, Nat.reduceLT, Nat.reduceLeDiff, Nat.reduceEqDiff, reduceCtorEq, Int.reduceAdd, Int.reduceSub, Int.reduceNeg, Int.reduceLE, Int.reduceLT, Int.reduceToNat, Int.reduceBEq, Int.reduceBNe, Int.reduceEq, Int.reduceNe, Int.toNat_zero, Int.toNat_one, bne_self_eq_false, Nat.reduceMul, Nat.zero_mul, Nat.mul_one, Nat.one_mul, Nat.reduceSub, Int.cast_ofNat_Int, Int.toNat_natCast]
  refine ⟨by omega, ?_⟩
  have e2 : (bif (((sumF f (a0 :: a1 :: r) : Nat) : Int) != (a0 : Int)) then true else decide ((14 : Int) < (c : Int))) = badU f (a0 :: a1 :: r) := by
    rw [hbad]
    by_cases h : a0 = sumF f (a0 :: a1 :: r)
    · rw [tru_of h, ← h, show ((a0 : Int) != (a0 : Int)) = false by simp, show decide ((14 : Int) < (c : Int)) = decide (14 < c) by rw [decide_eq_decide]; omega]; rfl
    · rw [fal_of h, show (((sumF f (a0 :: a1 :: r) : Nat) : Int) != (a0 : Int)) = true by rw [bne_iff_ne]; omega]; rfl
  simp only [e2, hd, hd0]
  refine mtch (fun h1 => ?_) (fun h1 => ?_)
  · rw [h1, cond_true] at hR
    refine CallQ.pure 120 (rmore w.fl 1 b3 (by omega)) rfl ?_
    simp (config := { maxSteps := 2000000 }) only [go_sem, Nat.reduceBEq, Nat.reduceAdd, Nat.reduceLT, Nat.reduceLeDiff, Nat.reduceEqDiff, reduceCtorEq, Int.reduceAdd, Int.reduceSub, Int.reduceNeg, Int.reduceLE, Int.reduceLT, Int.reduceToNat, Int.reduceBEq, Int.reduceBNe, Int.reduceEq, Int.reduceNe, Int.toNat_zero, Int.toNat_one, bne_self_eq_false, Nat.reduceMul, Nat.zero_mul, Nat.mul_one, Nat.one_mul, Nat.reduceSub, Int.cast_ofNat_Int, Int.toNat_natCast]
    exact RetQ.of hR rfl (by simp (config := { maxSteps := 2000000 }) only [go_sem, Nat.reduceBEq, Nat.reduceAdd, Nat.reduceLT, Nat.reduceLeDiff, Nat.reduceEqDiff, reduceCtorEq, Int.reduceAdd, Int.reduceSub, Int.reduceNeg, Int.reduceLE, Int.reduceLT, Int.reduceToNat, Int.reduceBEq, Int.reduceBNe, Int.reduceEq, Int.reduceNe, Int.toNat_zero, Int.toNat_one, bne_self_eq_false, Nat.reduceMul, Nat.zero_mul, Nat.mul_one, Nat.one_mul, Nat.reduceSub, Int.cast_ofNat_Int, Int.toNat_natCast]) (by simp (config := { maxSteps := 2000000 }) only [go_sem, Nat.reduceBEq, Nat.reduceAdd, Nat.reduceLT, Nat.reduceLeDiff, Nat.reduceEqDiff, reduceCtorEq, Int.reduceAdd, Int.reduceSub, Int.reduceNeg, Int.reduceLE, Int.reduceLT, Int.reduceToNat, Int.reduceBEq, Int.reduceBNe, Int.reduceEq, Int.reduceNe, Int.toNat_zero, Int.toNat_one, bne_self_eq_false, Nat.reduceMul, Nat.zero_mul, Nat.mul_one, Nat.one_mul, Nat.reduceSub, Int.cast_ofNat_Int, Int.toNat_natCast] <;> rfl) (hsub _ ⟨⟨_, rfl, .inl rfl⟩, ⟨_, rfl, .inl rfl⟩, trivial⟩) hM (ClV.of rfl)
  · rw [h1, cond_false] at hR
    refine mtch (fun h3 => ?_) (fun h3 => ?_)
    · rw [h3, cond_true, cond_true] at hR
      exact RetQ.of hR rfl (by simp (config := { maxSteps := 2000000 }) only [go_sem, Nat.reduceBEq, Nat.reduceAdd, Nat.reduceLT, Nat.reduceLeDiff, Nat.reduceEqDiff, reduceCtorEq, Int.reduceAdd, Int.reduceSub, Int.reduceNeg, Int.reduceLE, Int.reduceLT, Int.reduceToNat, Int.reduceBEq, Int.reduceBNe, Int.reduceEq, Int.reduceNe, Int.toNat_zero, Int.toNat_one, bne_self_eq_false, Nat.reduceMul, Nat.zero_mul, Nat.mul_one, Nat.one_mul, Nat.reduceSub, Int.cast_ofNat_Int, Int.toNat_natCast]) (by simp (config := { maxSteps := 2000000 }) only [go_sem, Nat.reduceBEq, Nat.reduceAdd, Nat.reduceLT, Nat.reduceLeDiff, Nat.reduceEqDiff, reduceCtorEq, Int.reduceAdd, Int.reduceSub, Int.reduceNeg, Int.reduceLE, Int.reduceLT, Int.reduceToNat, Int.reduceBEq, Int.reduceBNe, Int.reduceEq, Int.reduceNe, Int.toNat_zero, Int.toNat_one, bne_self_eq_false, Nat.reduceMul, Nat.zero_mul, Nat.mul_one, Nat.one_mul, Nat.reduceSub, Int.cast_ofNat_Int, Int.toNat_natCast] <;> rfl) (hsub _ ⟨⟨_, rfl, .inl rfl⟩, ⟨_, rfl, .inl rfl⟩, trivial⟩) hM (ClV.of rfl)
    · rw [h3, cond_false] at hR
      have hsn : w.sn = true := by simpa using h3
      refine mtch (fun h4 => ?_) (fun h4 => ?_)
      · have h40 : d = 0 := by simpa using h4
        rw [fal_of (show ¬ d = 1 by omega), cond_false, h4, cond_true] at hR
        exact RetQ.of hR rfl (by simp (config := { maxSteps := 2000000 }) only [go_sem, Nat.reduceBEq, Nat.reduceAdd, Nat.reduceLT, Nat.reduceLeDiff, Nat.reduceEqDiff, reduceCtorEq, Int.reduceAdd, Int.reduceSub, Int.reduceNeg, Int.reduceLE, Int.reduceLT, Int.reduceToNat, Int.reduceBEq, Int.reduceBNe, Int.reduceEq, Int.reduceNe, Int.toNat_zero, Int.toNat_one, bne_self_eq_false, Nat.reduceMul, Nat.zero_mul, Nat.mul_one, Nat.one_mul, Nat.reduceSub, Int.cast_ofNat_Int, Int.toNat_natCast]) (by simp (config := { maxSteps := 2000000 }) only [go_sem, Nat.reduceBEq, Nat.reduceAdd, Nat.reduceLT, Nat.reduceLeDiff, Nat.reduceEqDiff, reduceCtorEq, Int.reduceAdd, Int.reduceSub, Int.reduceNeg, Int.reduceLE, Int.reduceLT, Int.reduceToNat, Int.reduceBEq, Int.reduceBNe, Int.reduceEq, Int.reduceNe, Int.toNat_zero, Int.toNat_one, bne_self_eq_false, Nat.reduceMul, Nat.zero_mul, Nat.mul_one, Nat.one_mul, Nat.reduceSub, Int.cast_ofNat_Int, Int.toNat_natCast] <;> rfl) (hsub _ ⟨⟨_, rfl, .inl rfl⟩, ⟨_, rfl, .inl rfl⟩, trivial⟩) hM (ClV.of rfl)
      · have h40 : ¬ d = 0 := by simpa using h4
        refine mtch (fun h5 => ?_) (fun h5 => ?_)
        · have h50 : 4 < d := by simpa using h5
          rw [fal_of (show ¬ d = 1 by omega), cond_false, h4, cond_false, fal_of (show ¬ d ≤ 4 by omega), cond_false] at hR
          refine Sm.dgo 130 5 mix (by decide +kernel) (by decide +kernel) ?_
          simp (config := { maxSteps := 2000000 }) only [go_sem, Nat.reduceBEq, Nat.reduceAdd, Nat.reduceLT, Nat.reduceLeDiff, Nat.reduceEqDiff, reduceCtorEq, Int.reduceAdd, Int.reduceSub, Int.reduceNeg, Int.reduceLE, Int.reduceLT, Int.reduceToNat, Int.reduceBEq, Int.reduceBNe, Int.reduceEq, Int.reduceNe, Int.toNat_zero, Int.toNat_one, bne_self_eq_false, Nat.reduceMul, Nat.zero_mul, Nat.mul_one, Nat.one_mul, Nat.reduceSub, Int.cast_ofNat_Int, Int.toNat_natCast]
          refine DCallQ.pure 130 (rmore w.fl 1 b3 (by omega)) rfl ?_
          simp (config := { maxSteps := 2000000 }) only [go_sem, Nat.reduceBEq, Nat.reduceAdd, Nat.reduceLT, Nat.reduceLeDiff, Nat.reduceEqDiff, reduceCtorEq, Int.reduceAdd, Int.reduceSub, Int.reduceNeg, Int.reduceLE, Int.reduceLT, Int.reduceToNat, Int.reduceBEq, Int.reduceBNe, Int.reduceEq, Int.reduceNe, Int.toNat_zero, Int.toNat_one, bne_self_eq_false, Nat.reduceMul, Nat.zero_mul, Nat.mul_one, Nat.one_mul, Nat.reduceSub, Int.cast_ofNat_Int, Int.toNat_natCast]
          exact RetQ.of hR rfl (by simp (config := { maxSteps := 2000000 }) only [go_sem, Nat.reduceBEq, Nat.reduceAdd, Nat.reduceLT, Nat.reduceLeDiff, Nat.reduceEqDiff, reduceCtorEq, Int.reduceAdd, Int.reduceSub, Int.reduceNeg, Int.reduceLE, Int.reduceLT, Int.reduceToNat, Int.reduceBEq, Int.reduceBNe, Int.reduceEq, Int.reduceNe, Int.toNat_zero, Int.toNat_one, bne_self_eq_false, Nat.reduceMul, Nat.zero_mul, Nat.mul_one, Nat.one_mul, Nat.reduceSub, Int.cast_ofNat_Int, Int.toNat_natCast]) (by simp (config := { maxSteps := 2000000 }) only [go_sem, Nat.reduceBEq, Nat.reduceAdd, Nat.reduceLT, Nat.reduceLeDiff, Nat.reduceEqDiff, reduceCtorEq, Int.reduceAdd, Int.reduceSub, Int.reduceNeg, Int.reduceLE, Int.reduceLT, Int.reduceToNat, Int.reduceBEq, Int.reduceBNe, Int.reduceEq, Int.reduceNe, Int.toNat_zero, Int.toNat_one, bne_self_eq_false, Nat.reduceMul, Nat.zero_mul, Nat.mul_one, Nat.one_mul, Nat.reduceSub, Int.cast_ofNat_Int, Int.toNat_natCast] <;> rfl) (hsub _ ⟨⟨_, rfl, .inl rfl⟩, ⟨_, rfl, .inl rfl⟩, trivial⟩) hM (ClV.of rfl)
        · have h50 : d ≤ 4 := by simp at h5; omega
          simp (config := { maxSteps := 2000000 }) only [go_sem, Nat.reduceBEq, Nat.reduceAdd, Nat.reduceLT, Nat.reduceLeDiff, Nat.reduceEqDiff, reduceCtorEq, Int.reduceAdd, Int.reduceSub, Int.reduceNeg, Int.reduceLE, Int.reduceLT, Int.reduceToNat, Int.reduceBEq, Int.reduceBNe, Int.reduceEq, Int.reduceNe, Int.toNat_zero, Int.toNat_one, bne_self_eq_false, Nat.reduceMul, Nat.zero_mul, Nat.mul_one, Nat.one_mul, Nat.reduceSub, Int.cast_ofNat_Int, Int.toNat_natCast, hd1]
          refine mtch (fun h6 => ?_) (fun h6 => ?_)
          · rw [h6, cond_true] at hR
            have hR2 := hR
            exact RetQ.of hR rfl (by simp (config := { maxSteps := 2000000 }) only [go_sem, Nat.reduceBEq, Nat.reduceAdd, Nat.reduceLT, Nat.reduceLeDiff, Nat.reduceEqDiff, reduceCtorEq, Int.reduceAdd, Int.reduceSub, Int.reduceNeg, Int.reduceLE, Int.reduceLT, Int.reduceToNat, Int.reduceBEq, Int.reduceBNe, Int.reduceEq, Int.reduceNe, Int.toNat_zero, Int.toNat_one, bne_self_eq_false, Nat.reduceMul, Nat.zero_mul, Nat.mul_one, Nat.one_mul, Nat.reduceSub, Int.cast_ofNat_Int, Int.toNat_natCast]) (by simp (config := { maxSteps := 2000000 }) only [go_sem, Nat.reduceBEq, Nat.reduceAdd, Nat.reduceLT, Nat.reduceLeDiff, Nat.reduceEqDiff, reduceCtorEq, Int.reduceAdd, Int.reduceSub, Int.reduceNeg, Int.reduceLE, Int.reduceLT, Int.reduceToNat, Int.reduceBEq, Int.reduceBNe, Int.reduceEq, Int.reduceNe, Int.toNat_zero, Int.toNat_one, bne_self_eq_false, Nat.reduceMul, Nat.zero_mul, Nat.mul_one, Nat.one_mul, Nat.reduceSub, Int.cast_ofNat_Int, Int.toNat_natCast, hsn] <;> rfl) (hsub _ ⟨⟨_, rfl, .inl rfl⟩, ⟨_, rfl, .inl rfl⟩, trivial⟩) hM (ClV.of rfl)
          · rw [h6, cond_false, h4, cond_false, tru_of h50, cond_true] at hR
            have w1 : IntKind.i64.wrap (d - 1) = d - 1 := w64 (by omega) (by omega)
            have hm := rmore w.ls (d - 1) b2 (by omega)
            rw [show w.ls + (d - 1) = w.ls + d - 1 by omega] at hm
            simp only [w1]
            refine CallQ.pure 130 hm rfl ?_
            simp (config := { maxSteps := 2000000 }) only [go_sem, Nat.reduceBEq, Nat.reduceAdd, Nat.reduceLT, Nat.reduceLeDiff, Nat.reduceEqDiff, reduceCtorEq, Int.reduceAdd, Int.reduceSub, Int.reduceNeg, Int.reduceLE, Int.reduceLT, Int.reduceToNat, Int.reduceBEq, Int.reduceBNe, Int.reduceEq, Int.reduceNe, Int.toNat_zero, Int.toNat_one, bne_self_eq_false, Nat.reduceMul, Nat.zero_mul, Nat.mul_one, Nat.one_mul, Nat.reduceSub, Int.cast_ofNat_Int, Int.toNat_natCast]
            exact RetQ.of hR rfl (by simp (config := { maxSteps := 2000000 }) only [go_sem, Nat.reduceBEq, Nat.reduceAdd, Nat.reduceLT, Nat.reduceLeDiff, Nat.reduceEqDiff, reduceCtorEq, Int.reduceAdd, Int.reduceSub, Int.reduceNeg, Int.reduceLE, Int.reduceLT, Int.reduceToNat, Int.reduceBEq, Int.reduceBNe, Int.reduceEq, Int.reduceNe, Int.toNat_zero, Int.toNat_one, bne_self_eq_false, Nat.reduceMul, Nat.zero_mul, Nat.mul_one, Nat.one_mul, Nat.reduceSub, Int.cast_ofNat_Int, Int.toNat_natCast]) (by simp (config := { maxSteps := 2000000 }) only [go_sem, Nat.reduceBEq, Nat.reduceAdd, Nat.reduceLT, Nat.reduceLeDiff, Nat.reduceEqDiff, reduceCtorEq, Int.reduceAdd, Int.reduceSub, Int.reduceNeg, Int.reduceLE, Int.reduceLT, Int.reduceToNat, Int.reduceBEq, Int.reduceBNe, Int.reduceEq, Int.reduceNe, Int.toNat_zero, Int.toNat_one, bne_self_eq_false, Nat.reduceMul, Nat.zero_mul, Nat.mul_one, Nat.one_mul, Nat.reduceSub, Int.cast_ofNat_Int, Int.toNat_natCast] <;> rfl) (hsub _ ⟨⟨_, rfl, .inl rfl⟩, ⟨_, rfl, .inl rfl⟩, trivial⟩) hM (ClV.of rfl)
end Go.Proofs.Ytcdclmelnnbdnaa
