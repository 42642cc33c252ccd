/- The law FrameDetects. -/
import Derived.Test.YtcdclmelnnbdnaaC8
import Derived.Test.YtcdclmelnnbdnaaC9
namespace Go.Proofs.Ytcdclmelnnbdnaa
open Vg Tf
set_option linter.unusedSimpArgs false
set_option linter.unusedVariables false
set_option maxRecDepth 100000
set_option maxHeartbeats 4000000
theorem tbit (p i : Nat) (hp : p < 256) (hi : i < 8) : (bits .and .u8 ((p : Int).fdiv (2 ^ min i 8)) 1 == 1) = p.testBit i := by
  have h : ∀ p : Fin 256, ∀ i : Fin 8, (bits .and .u8 ((p.val : Int).fdiv (2 ^ min i.val 8)) 1 == 1) = p.val.testBit i.val := by decide +kernel
  exact h ⟨p, hp⟩ ⟨i, hi⟩
theorem b128 (r : Nat) (hr : r < 8) : (128 : Int).fdiv (2 ^ min r 8) = ((128 / 2 ^ r : Nat) : Int) := by
  have h : ∀ r : Fin 8, (128 : Int).fdiv (2 ^ min r.val 8) = ((128 / 2 ^ r.val : Nat) : Int) := by decide +kernel
  exact h ⟨r, hr⟩
theorem law_detects (w : Wt) (f : Fm) (hf0 : f.bd) (hs0 : f.sgs.length ≤ 9223372036854775807) (u : List Nat) (hu : ∀ x ∈ u, x < 256) (hr0 : u.length ≤ 9223372036854775807) (x3 : Int) (hx3 : 0 ≤ x3 ∧ x3 ≤ 255) (x4 : Int) (hx4 : 0 ≤ x4 ∧ x4 ≤ 65535) (x5 : Int) (hx5 : 0 ≤ x5 ∧ x5 ≤ 255) (al : Bool) :
    CallOk Try.prog 8 [wt w, fm5 1 f, slV 2 u.length, .c (.v (.int .u8 x3)), .c (.v (.int .u16 x4)), .c (.v (.int .u8 x5)), .c (.v (.bool al))] [bS 1 f.sgs, bBr 2 u] (Bo true) [] := by
  have hM := clSU f u
  have hsub : ∀ M' : Mem, SubS [bS 1 f.sgs, bBr 2 u] M' → Vg.Sub [bS 1 f.sgs, bBr 2 u] M' := fun _ h => h.sub
  obtain ⟨n, rfl⟩ := Int.eq_ofNat_of_zero_le hx3.1
  obtain ⟨at', rfl⟩ := Int.eq_ofNat_of_zero_le hx4.1
  obtain ⟨p, rfl⟩ := Int.eq_ofNat_of_zero_le hx5.1
  have wn : IntKind.i64.wrap (n : Int) = n := w64n _ (by omega)
  have wa : IntKind.i64.wrap (at' : Int) = at' := w64n _ (by omega)
  have r15 : (n : Int).tmod 15 = ((n % 15 : Nat) : Int) := remN n 15
  have hc : n % 15 ≤ 14 := by omega
  generalize n % 15 = c at *
  refine CallOk.mkN 100 Try.func8 rfl en8 (by simp [Try.ntmps8]) (ClA.of rfl) rfl rfl fun C hR hP => ?_
  simp (config := { maxSteps := 2000000 }) only [go_sem, Nat.reduceBEq, Nat.reduceAdd, Nat.reduceLT, Nat.reduceLeDiff, Nat.reduceEqDiff, reduceCtorEq, Int.reduceAdd, Int.reduceSub, Int.reduceNeg, Int.reduceLE, Int.reduceLT, Int.reduceToNat, Int.reduceBEq, Int.reduceBNe, Int.reduceEq, Int.reduceNe, Int.toNat_zero, Int.toNat_one, bne_self_eq_false, Nat.reduceMul, Nat.zero_mul, Nat.mul_one, Nat.one_mul, Nat.reduceSub, Int.cast_ofNat_Int, Int.toNat_natCast]
  refine CallQ.pure 110 lawake rfl ?_
  simp (config := { maxSteps := 2000000 }) only [go_sem, Nat.reduceBEq, Nat.reduceAdd, Nat.reduceLT, Nat.reduceLeDiff, Nat.reduceEqDiff, reduceCtorEq, Int.reduceAdd, Int.reduceSub, Int.reduceNeg, Int.reduceLE, Int.reduceLT, Int.reduceToNat, Int.reduceBEq, Int.reduceBNe, Int.reduceEq, Int.reduceNe, Int.toNat_zero, Int.toNat_one, bne_self_eq_false, Nat.reduceMul, Nat.zero_mul, Nat.mul_one, Nat.one_mul, Nat.reduceSub, Int.cast_ofNat_Int, Int.toNat_natCast]
  refine CallQ.ren [(1, 1)] 110 (lgreat f) (clS _) rfl rfl ⟨⟨_, rfl, wkS _ _ _⟩, trivial⟩ rfl (.inr rfl) ?_
  simp (config := { maxSteps := 2000000 }) only [go_sem, Nat.reduceBEq, Nat.reduceAdd, Nat.reduceLT, Nat.reduceLeDiff, Nat.reduceEqDiff, reduceCtorEq, Int.reduceAdd, Int.reduceSub, Int.reduceNeg, Int.reduceLE, Int.reduceLT, Int.reduceToNat, Int.reduceBEq, Int.reduceBNe, Int.reduceEq, Int.reduceNe, Int.toNat_zero, Int.toNat_one, bne_self_eq_false, Nat.reduceMul, Nat.zero_mul, Nat.mul_one, Nat.one_mul, Nat.reduceSub, Int.cast_ofNat_Int, Int.toNat_natCast]
  refine mtch (fun hg => ?_) (fun hg => ?_)
  · exact RetQ.of hR rfl ⟨rfl, trivial⟩ rfl (hsub _ ⟨⟨_, rfl, .inl rfl⟩, ⟨_, rfl, .inl rfl⟩, trivial⟩) hM (ClV.of rfl)
  · have hg : f.sgs.length ≤ 24 ∧ p ≠ 0 ∧ u.length ≤ 100 := by
      simp only [Bool.cond_true_left, Bool.or_eq_false_iff, decide_eq_false_iff_not, beq_eq_false_iff_ne] at hg; omega
    have hf := hf0.ok (by omega)
    simp (config := { maxSteps := 2000000 }) only [go_sem, Nat.reduceBEq, Nat.reduceAdd, Nat.reduceLT, Nat.reduceLeDiff, Nat.reduceEqDiff, reduceCtorEq, Int.reduceAdd, Int.reduceSub, Int.reduceNeg, Int.reduceLE, Int.reduceLT, Int.reduceToNat, Int.reduceBEq, Int.reduceBNe, Int.reduceEq, Int.reduceNe, Int.toNat_zero, Int.toNat_one, bne_self_eq_false, Nat.reduceMul, Nat.zero_mul, Nat.mul_one, Nat.one_mul, Nat.reduceSub, Int.cast_ofNat_Int, Int.toNat_natCast, wn, r15]
    refine CallQ.ren [(1, 1), (2, 2), (3, 130)] 131 (fprot f hf u hu (by omega) c) (clSU _ _) rfl rfl ⟨⟨_, rfl, wkS _ _ _⟩, ⟨_, rfl, wkU _ _ _ _⟩, trivial⟩ rfl (.inl rfl) ?_
    simp only [Mem.ren, List.map_cons, List.map_nil, Bk.ren, List.map_map, V.ren, W.ren, Cv.ren, rn, Nat.reduceBEq, cond_true, cond_false, Function.comp_def]
    simp (config := { maxSteps := 2000000 }) only [go_sem, Nat.reduceBEq, Nat.reduceAdd, Nat.reduceLT, Nat.reduceLeDiff, Nat.reduceEqDiff, reduceCtorEq, Int.reduceAdd, Int.reduceSub, Int.reduceNeg, Int.reduceLE, Int.reduceLT, Int.reduceToNat, Int.reduceBEq, Int.reduceBNe, Int.reduceEq, Int.reduceNe, Int.toNat_zero, Int.toNat_one, bne_self_eq_false, Nat.reduceMul, Nat.zero_mul, Nat.mul_one, Nat.one_mul, Nat.reduceSub, Int.cast_ofNat_Int, Int.toNat_natCast]
    refine mtch (fun hp => ?_) (fun hp => ?_)
    · have hp2 : pcE f u c ≠ 0 := by
        intro h
        obtain ⟨hge, _, hb⟩ := pcE_0 h
        have h22 := (gE_0 hge).2.2.2.1
        rw [hb, prot_length, h] at hp
        have : ¬ ((u.length : Int) < 2) := by omega
        rw [fal_of this] at hp
        cases hp
      have hb := pcE_n hp2
      have hn0 : (pcE f u c != 0) = true := by simpa using hp2
      refine RetQ.of hR rfl ⟨rfl, trivial⟩ ?_ (hsub _ ⟨⟨_, rfl, .inl rfl⟩, ⟨_, rfl, .inl rfl⟩, trivial⟩) hM (ClV.of rfl)
      rw [hb, hn0]; rfl
    · have hp2 : pcE f u c = 0 := by
        simp only [Bool.cond_true_left, Bool.or_eq_false_iff] at hp
        simpa using hp.1
      obtain ⟨hge, _, hb2⟩ := pcE_0 hp2
      obtain ⟨hv, hlnf, hgd, h22, h28⟩ := gE_0 hge
      have hPl : (prot f u c).length = u.length := prot_length f u c
      have hPlt : ∀ x ∈ prot f u c, x < 256 := prot_lt f hu (by omega)
      obtain ⟨s1, s2, _⟩ := prot_at f h22 hc
      have hP0 : (prot f u c).getD 0 0 = sumF f (prot f u c) := s2.trans s1.symm
      simp only [hb2]
      generalize prot f u c = Q at *
      have hwt : ∀ P' : List Nat, P'.length = u.length → (∀ x ∈ P', x < 256) → P'.getD 0 0 ≠ sumF f P' → CallOk Try.prog 29 [wt w, fm5 1 f, slV 2 P'.length] [bS 1 f.sgs, bBr 2 P'] (.tup [.agg (wtL (bif wok w then ⟨w.sn, w.ct, w.ls, min 1000 (w.fl + 1)⟩ else wt0)), Wi (bif wok w then 3 else 0), Wi (bif wok w then 0 else 1)]) [] := by
        intro P' h1 h2 h3
        have hq := fwatch w f hf P' h2 (by omega)
        have hg0 : gE f P' = 0 := by rw [← hge]; unfold gE; rw [h1]
        have hbad : badU f P' = true := by rw [badU, fal_of h3]; rfl
        cases hok : wok w with
        | false =>
          have he : wE w f P' = 1 := by rw [wE, hok]; rfl
          have hr : wR w f P' = (wt0, 0) := by rw [wR, he]; rfl
          rw [he, hr] at hq
          exact hq
        | true =>
          have he : wE w f P' = 0 := by rw [wE, hok, hg0]; rfl
          have hr : wR w f P' = (⟨w.sn, w.ct, w.ls, min 1000 (w.fl + 1)⟩, 3) := by rw [wR, he, stepW, hbad]; rfl
          rw [he, hr] at hq
          exact hq
      cases al with
      | true =>
        have hx0 := getD_lt hPlt (show 0 < Q.length by omega)
        have hg0 : (List.map cb Q)[0]? = some (cb (Q.getD 0 0)) := get_u (by omega)
        have hxx := xor_u8 (Q.getD 0 0) p hx0 (by omega)
        have hst : (List.map cb Q).set 0 (cb (Q.getD 0 0 ^^^ p)) = List.map cb (Q.set 0 (Q.getD 0 0 ^^^ p)) := by rw [List.map_set]
        have hsl : (Q.set 0 (Q.getD 0 0 ^^^ p)).length = Q.length := List.length_set
        have hs0 : (Q.set 0 (Q.getD 0 0 ^^^ p)).getD 0 0 ≠ sumF f (Q.set 0 (Q.getD 0 0 ^^^ p)) := by
          obtain ⟨q0, r, rfl⟩ : ∃ q0 r, Q = q0 :: r := by
            cases Q with
            | nil => simp only [List.length_nil] at hPl; omega
            | cons q0 r => exact ⟨q0, r, rfl⟩
          show q0 ^^^ p ≠ sumF f (q0 :: r)
          rw [← hP0]
          intro h
          have h : q0 ^^^ p = q0 := h
          have h2 : q0 ^^^ (q0 ^^^ p) = q0 ^^^ q0 := by rw [h]
          rw [← Nat.xor_assoc, Nat.xor_self, Nat.zero_xor] at h2
          exact hg.2.1 h2
        have hslt : ∀ x ∈ Q.set 0 (Q.getD 0 0 ^^^ p), x < 256 := fun x hx => by
          rcases List.mem_or_eq_of_mem_set hx with h | rfl
          · exact hPlt x h
          · exact xor_lt8 hx0 (by omega)
        rw [← hsl] at hPl
        simp (config := { maxSteps := 2000000 }) only [go_sem, Nat.reduceBEq, Nat.reduceAdd, Nat.reduceLT, Nat.reduceLeDiff, Nat.reduceEqDiff, reduceCtorEq, Int.reduceAdd, Int.reduceSub, Int.reduceNeg, Int.reduceLE, Int.reduceLT, Int.reduceToNat, Int.reduceBEq, Int.reduceBNe, Int.reduceEq, Int.reduceNe, Int.toNat_zero, Int.toNat_one, bne_self_eq_false, Nat.reduceMul, Nat.zero_mul, Nat.mul_one, Nat.one_mul, Nat.reduceSub, Int.cast_ofNat_Int, Int.toNat_natCast, hg0, hxx, hst]
        generalize Q.set 0 (Q.getD 0 0 ^^^ p) = R at *
        refine ⟨by omega, by omega, by simp; omega, ?_⟩
        rw [← hsl]
        refine CallQ.ren [(1, 1), (2, 130)] 140 (hwt _ (hPl) (hslt) (hs0)) (clSU f _) rfl rfl ⟨⟨_, rfl, wkS _ _ _⟩, ⟨_, rfl, wkU _ _ _ _⟩, trivial⟩ rfl (.inr rfl) ?_
        cases hok : wok w with
        | false =>
          simp only [cond_false]
          simp (config := { maxSteps := 2000000 }) only [go_sem, Nat.reduceBEq, Nat.reduceAdd, Nat.reduceLT, Nat.reduceLeDiff, Nat.reduceEqDiff, reduceCtorEq, Int.reduceAdd, Int.reduceSub, Int.reduceNeg, Int.reduceLE, Int.reduceLT, Int.reduceToNat, Int.reduceBEq, Int.reduceBNe, Int.reduceEq, Int.reduceNe, Int.toNat_zero, Int.toNat_one, bne_self_eq_false, Nat.reduceMul, Nat.zero_mul, Nat.mul_one, Nat.one_mul, Nat.reduceSub, Int.cast_ofNat_Int, Int.toNat_natCast]
          exact RetQ.of hR rfl ⟨rfl, trivial⟩ rfl (hsub _ ⟨⟨_, rfl, .inl rfl⟩, ⟨_, rfl, .inl rfl⟩, trivial⟩) hM (ClV.of rfl)
        | true =>
          obtain ⟨_, _, q3, _⟩ := wok_bd hok
          have w1 : IntKind.i64.wrap (w.fl + 1) = w.fl + 1 := w64 (by omega) (by omega)
          simp only [cond_true]
          simp (config := { maxSteps := 2000000 }) only [go_sem, Nat.reduceBEq, Nat.reduceAdd, Nat.reduceLT, Nat.reduceLeDiff, Nat.reduceEqDiff, reduceCtorEq, Int.reduceAdd, Int.reduceSub, Int.reduceNeg, Int.reduceLE, Int.reduceLT, Int.reduceToNat, Int.reduceBEq, Int.reduceBNe, Int.reduceEq, Int.reduceNe, Int.toNat_zero, Int.toNat_one, bne_self_eq_false, Nat.reduceMul, Nat.zero_mul, Nat.mul_one, Nat.one_mul, Nat.reduceSub, Int.cast_ofNat_Int, Int.toNat_natCast, w1]
          exact RetQ.of hR rfl ⟨rfl, trivial⟩ rfl (hsub _ ⟨⟨_, rfl, .inl rfl⟩, ⟨_, rfl, .inl rfl⟩, trivial⟩) hM (ClV.of rfl)
      | false =>
        have hw8 : IntKind.i64.wrap (8 * IntKind.i64.wrap ((Q.length : Int) - 1)) = ((8 * (Q.length - 1) : Nat) : Int) := by rw [w64 (x := (Q.length : Int) - 1) (by omega) (by omega), w64 (by omega) (by omega)]; omega
        have hrs : (at' : Int).tmod ((8 * (Q.length - 1) : Nat) : Int) = ((at' % (8 * (Q.length - 1)) : Nat) : Int) := remN _ _
        have hslt : at' % (8 * (Q.length - 1)) < 8 * (Q.length - 1) := Nat.mod_lt _ (by omega)
        simp (config := { maxSteps := 2000000 }) only [go_sem, Nat.reduceBEq, Nat.reduceAdd, Nat.reduceLT, Nat.reduceLeDiff, Nat.reduceEqDiff, reduceCtorEq, Int.reduceAdd, Int.reduceSub, Int.reduceNeg, Int.reduceLE, Int.reduceLT, Int.reduceToNat, Int.reduceBEq, Int.reduceBNe, Int.reduceEq, Int.reduceNe, Int.toNat_zero, Int.toNat_one, bne_self_eq_false, Nat.reduceMul, Nat.zero_mul, Nat.mul_one, Nat.one_mul, Nat.reduceSub, Int.cast_ofNat_Int, Int.toNat_natCast, hw8, wa, hrs]
        have hB := bst_8 f hPlt (by omega) (p := p) (by omega) hslt
        have hW : 8 ≤ 8 * (Q.length - 1) ∧ 8 * (Q.length - 1) ≤ 64 := by omega
        have hWL : 8 * (Q.length - 1) + 8 = 8 * Q.length := by omega
        refine ⟨by omega, ?_⟩
        have hbl : ∀ i, (bst (at' % (8 * (Q.length - 1))) p (8 * (Q.length - 1)) Q i).1.length = Q.length := bst_len _ _ _ _
        have hbt : ∀ i, i ≤ 8 → ∀ x ∈ (bst (at' % (8 * (Q.length - 1))) p (8 * (Q.length - 1)) Q i).1, x < 256 := fun i _ => bst_lt _ _ _ hPlt i
        have hbs : ∀ i, bst (at' % (8 * (Q.length - 1))) p (8 * (Q.length - 1)) Q (i + 1) = bif decide (at' % (8 * (Q.length - 1)) + i < 8 * (Q.length - 1)) && p.testBit i then ((bst (at' % (8 * (Q.length - 1))) p (8 * (Q.length - 1)) Q i).1.set (1 + (at' % (8 * (Q.length - 1)) + i) / 8) ((bst (at' % (8 * (Q.length - 1))) p (8 * (Q.length - 1)) Q i).1.getD (1 + (at' % (8 * (Q.length - 1)) + i) / 8) 0 ^^^ 128 / 2 ^ ((at' % (8 * (Q.length - 1)) + i) % 8)), true) else bst (at' % (8 * (Q.length - 1))) p (8 * (Q.length - 1)) Q i := fun _ => rfl
        have hb0 : bst (at' % (8 * (Q.length - 1))) p (8 * (Q.length - 1)) Q 0 = (Q, false) := rfl
        generalize hbg : bst (at' % (8 * (Q.length - 1))) p (8 * (Q.length - 1)) Q = bs at *
        generalize at' % (8 * (Q.length - 1)) = s at *
        generalize 8 * (Q.length - 1) = W at *
        refine Sm.loopM (M0 := [bS 1 f.sgs, bBr 2 u]) (α := { i : Nat // i ≤ 8 }) hP (fun i => [(5, true, .c (.v (.int .u8 p))), (7, true, .c (.p 4 0)), (8, true, .c (.p 5 0)), (15, true, slV 6 Q.length), (17, true, I W), (18, true, I s), (19, true, Bo (bs i.val).2), (76, true, I i.val)])
          (fun i => [bB 6 (bs i.val).1, (5, ⟨false, fmL 1 f, 24⟩), (4, ⟨false, wtL w, 53⟩), bS 1 f.sgs, bBr 2 u]) (fun i => 8 - i.val) ⟨0, by omega⟩ (fun _ => ClM.of (by simp only [List.all_cons, inMV (v_ss _), inMV (v_u _)]; rfl)) (fun _ => ClE.of rfl) [(1, 1), (2, 2), (4, 100), (5, 101), (6, 130)] ?_ ?_
        · simp only [hb0]
          exact ⟨rfl, ⟨⟨rfl, rfl⟩, ⟨rfl, rfl⟩, trivial⟩, ⟨rfl, rfl, rfl, rfl, rfl, rfl, rfl, rfl, trivial⟩, ⟨.inr ⟨_, rfl, .inl (renV (v_u _))⟩, .inr ⟨_, rfl, .inl rfl⟩, .inr ⟨_, rfl, .inl rfl⟩, .inr ⟨_, rfl, .inl (renV (v_ss _))⟩, .inr ⟨_, rfl, .inl (renV (v_u _))⟩, trivial⟩⟩
        · rintro ⟨i, hi⟩ J hb
          simp only at hb hi ⊢
          have hl1 := hbl i
          have ht1 := hbt i hi
          have hn1 := hbs i
          generalize hz : bs i = z at *
          obtain ⟨R, tch⟩ := z
          simp only at hl1 ht1 hn1 ⊢
          refine Sm.go 120 ?_
          simp (config := { maxSteps := 2000000 }) only [go_sem, Nat.reduceBEq, Nat.reduceAdd, Nat.reduceLT, Nat.reduceLeDiff, Nat.reduceEqDiff, reduceCtorEq, Int.reduceAdd, Int.reduceSub, Int.reduceNeg, Int.reduceLE, Int.reduceLT, Int.reduceToNat, Int.reduceBEq, Int.reduceBNe, Int.reduceEq, Int.reduceNe, Int.toNat_zero, Int.toNat_one, bne_self_eq_false, Nat.reduceMul, Nat.zero_mul, Nat.mul_one, Nat.one_mul, Nat.reduceSub, Int.cast_ofNat_Int, Int.toNat_natCast]
          refine mtch (fun hic => ?_) (fun hic => ?_)
          · have hic : i < 8 := by simp at hic; omega
            have w1 : IntKind.i64.wrap ((i : Int) + 1) = ((i + 1 : Nat) : Int) := by rw [w64 (by omega) (by omega)]; omega
            have w2 : IntKind.i64.wrap ((s : Int) + (i : Int)) = ((s + i : Nat) : Int) := by rw [w64 (by omega) (by omega)]; omega
            have hb1 := tbit p i (by omega) hic
            simp (config := { maxSteps := 2000000 }) only [go_sem, Nat.reduceBEq, Nat.reduceAdd, Nat.reduceLT, Nat.reduceLeDiff, Nat.reduceEqDiff, reduceCtorEq, Int.reduceAdd, Int.reduceSub, Int.reduceNeg, Int.reduceLE, Int.reduceLT, Int.reduceToNat, Int.reduceBEq, Int.reduceBNe, Int.reduceEq, Int.reduceNe, Int.toNat_zero, Int.toNat_one, bne_self_eq_false, Nat.reduceMul, Nat.zero_mul, Nat.mul_one, Nat.one_mul, Nat.reduceSub, Int.cast_ofNat_Int, Int.toNat_natCast, w2, hb1]
            refine ⟨fun h => ⟨h, by omega⟩, ?_⟩
            have e1 : (bif decide (((s + i : Nat) : Int) < (W : Int)) then p.testBit i else false) = (decide (s + i < W) && p.testBit i) := by
              rw [show decide (((s + i : Nat) : Int) < (W : Int)) = decide (s + i < W) by rw [decide_eq_decide]; omega]
              cases decide (s + i < W) <;> rfl
            simp only [e1]
            refine mtch (fun ht => ?_) (fun ht => ?_)
            · rw [ht, cond_true] at hn1
              have hsW : s + i < W := by
                rw [Bool.and_eq_true, decide_eq_true_eq] at ht; exact ht.1
              have q1 : IntKind.i64.wrap (1 + IntKind.i64.wrap (((s + i : Nat) : Int).tdiv 8)) = ((1 + (s + i) / 8 : Nat) : Int) := by
                have h8 : IntKind.i64.wrap (((s + i : Nat) : Int).tdiv 8) = (((s + i) / 8 : Nat) : Int) := quoN (s + i) 8 (by omega)
                rw [h8, w64 (by omega) (by omega)]; omega
              have q2 : ((s + i : Nat) : Int).tmod 8 = (((s + i) % 8 : Nat) : Int) := remN (s + i) 8
              have q3 := b128 ((s + i) % 8) (by omega)
              have hkl : 1 + (s + i) / 8 < R.length := by omega
              have hgR := get_u (l := R) hkl
              have hRlt := getD_lt ht1 hkl
              have hb128 : 128 / 2 ^ ((s + i) % 8) < 256 := Nat.lt_of_le_of_lt (Nat.div_le_self _ _) (by omega)
              have hxr := xor_u8 (R.getD (1 + (s + i) / 8) 0) (128 / 2 ^ ((s + i) % 8)) hRlt hb128
              have hstR : (List.map cb R).set (1 + (s + i) / 8) (cb (R.getD (1 + (s + i) / 8) 0 ^^^ 128 / 2 ^ ((s + i) % 8))) = List.map cb (R.set (1 + (s + i) / 8) (R.getD (1 + (s + i) / 8) 0 ^^^ 128 / 2 ^ ((s + i) % 8))) := by rw [List.map_set]
              generalize 128 / 2 ^ ((s + i) % 8) = v at *
              generalize R.getD (1 + (s + i) / 8) 0 = y at *
              generalize hr8 : (s + i) % 8 = r8 at *
              generalize 1 + (s + i) / 8 = k at *
              refine Sm.dgo 130 9 mix (by decide +kernel) (by decide +kernel) ?_
              simp (config := { maxSteps := 2000000 }) only [go_sem, Nat.reduceBEq, Nat.reduceAdd, Nat.reduceLT, Nat.reduceLeDiff, Nat.reduceEqDiff, reduceCtorEq, Int.reduceAdd, Int.reduceSub, Int.reduceNeg, Int.reduceLE, Int.reduceLT, Int.reduceToNat, Int.reduceBEq, Int.reduceBNe, Int.reduceEq, Int.reduceNe, Int.toNat_zero, Int.toNat_one, bne_self_eq_false, Nat.reduceMul, Nat.zero_mul, Nat.mul_one, Nat.one_mul, Nat.reduceSub, Int.cast_ofNat_Int, Int.toNat_natCast, q1, q2, q3, hgR, hxr, hstR]
              refine ⟨⟨by omega, by omega⟩, by omega, ⟨by omega, by omega⟩, by simp; omega, ?_⟩
              refine Sm.go 140 ?_
              simp (config := { maxSteps := 2000000 }) only [go_sem, Nat.reduceBEq, Nat.reduceAdd, Nat.reduceLT, Nat.reduceLeDiff, Nat.reduceEqDiff, reduceCtorEq, Int.reduceAdd, Int.reduceSub, Int.reduceNeg, Int.reduceLE, Int.reduceLT, Int.reduceToNat, Int.reduceBEq, Int.reduceBNe, Int.reduceEq, Int.reduceNe, Int.toNat_zero, Int.toNat_one, bne_self_eq_false, Nat.reduceMul, Nat.zero_mul, Nat.mul_one, Nat.one_mul, Nat.reduceSub, Int.cast_ofNat_Int, Int.toNat_natCast, w1]
              refine hb _ _ ⟨i + 1, hic⟩ [(1, 1), (2, 2), (4, 4), (5, 5), (6, 6)] (by simp only; omega) ?_
              simp only [hn1]
              exact ⟨rfl, ⟨⟨rfl, rfl⟩, ⟨rfl, rfl⟩, trivial⟩, ⟨rfl, rfl, rfl, rfl, rfl, rfl, rfl, rfl, trivial⟩, ⟨.inr ⟨_, rfl, .inl (renV (v_u _))⟩, .inr ⟨_, rfl, .inl rfl⟩, .inr ⟨_, rfl, .inl rfl⟩, .inr ⟨_, rfl, .inl (renV (v_ss _))⟩, .inr ⟨_, rfl, .inl (renV (v_u _))⟩, trivial⟩⟩
            · rw [ht, cond_false] at hn1
              simp only [w1]
              refine hb _ _ ⟨i + 1, hic⟩ [(1, 1), (2, 2), (4, 4), (5, 5), (6, 6)] (by simp only; omega) ?_
              simp only [hn1]
              exact ⟨rfl, ⟨⟨rfl, rfl⟩, ⟨rfl, rfl⟩, trivial⟩, ⟨rfl, rfl, rfl, rfl, rfl, rfl, rfl, rfl, trivial⟩, ⟨.inr ⟨_, rfl, .inl (renV (v_u _))⟩, .inr ⟨_, rfl, .inl rfl⟩, .inr ⟨_, rfl, .inl rfl⟩, .inr ⟨_, rfl, .inl (renV (v_ss _))⟩, .inr ⟨_, rfl, .inl (renV (v_u _))⟩, trivial⟩⟩
          · have hic : i = 8 := by simp at hic; omega
            subst hic
            rw [hz] at hB
            obtain ⟨_, _, g3, g4⟩ := hB
            refine mtch (fun ht => ?_) (fun ht => ?_)
            · exact RetQ.of hR rfl ⟨rfl, trivial⟩ rfl (hsub _ ⟨⟨_, rfl, .inl rfl⟩, ⟨_, rfl, .inl rfl⟩, trivial⟩) hM (ClV.of rfl)
            · have ht : tch = true := by simpa using ht
              rw [← hl1]
              refine CallQ.ren [(1, 1), (2, 6)] 140 (hwt _ (hl1.trans hPl) (ht1) (by rw [g3, hP0]; exact fun h => g4 ht h.symm)) (clSU f _) rfl rfl ⟨⟨_, rfl, wkS _ _ _⟩, ⟨_, rfl, wkU _ _ _ _⟩, trivial⟩ rfl (.inr rfl) ?_
              cases hok : wok w with
              | false =>
                simp only [cond_false]
                simp (config := { maxSteps := 2000000 }) only [go_sem, Nat.reduceBEq, Nat.reduceAdd, Nat.reduceLT, Nat.reduceLeDiff, Nat.reduceEqDiff, reduceCtorEq, Int.reduceAdd, Int.reduceSub, Int.reduceNeg, Int.reduceLE, Int.reduceLT, Int.reduceToNat, Int.reduceBEq, Int.reduceBNe, Int.reduceEq, Int.reduceNe, Int.toNat_zero, Int.toNat_one, bne_self_eq_false, Nat.reduceMul, Nat.zero_mul, Nat.mul_one, Nat.one_mul, Nat.reduceSub, Int.cast_ofNat_Int, Int.toNat_natCast]
                exact RetQ.of hR rfl ⟨rfl, trivial⟩ rfl (hsub _ ⟨⟨_, rfl, .inl rfl⟩, ⟨_, rfl, .inl rfl⟩, trivial⟩) hM (ClV.of rfl)
              | true =>
                obtain ⟨_, _, q3, _⟩ := wok_bd hok
                have w1 : IntKind.i64.wrap (w.fl + 1) = w.fl + 1 := w64 (by omega) (by omega)
                simp only [cond_true]
                simp (config := { maxSteps := 2000000 }) only [go_sem, Nat.reduceBEq, Nat.reduceAdd, Nat.reduceLT, Nat.reduceLeDiff, Nat.reduceEqDiff, reduceCtorEq, Int.reduceAdd, Int.reduceSub, Int.reduceNeg, Int.reduceLE, Int.reduceLT, Int.reduceToNat, Int.reduceBEq, Int.reduceBNe, Int.reduceEq, Int.reduceNe, Int.toNat_zero, Int.toNat_one, bne_self_eq_false, Nat.reduceMul, Nat.zero_mul, Nat.mul_one, Nat.one_mul, Nat.reduceSub, Int.cast_ofNat_Int, Int.toNat_natCast, w1]
                exact RetQ.of hR rfl ⟨rfl, trivial⟩ rfl (hsub _ ⟨⟨_, rfl, .inl rfl⟩, ⟨_, rfl, .inl rfl⟩, trivial⟩) hM (ClV.of rfl)
end Go.Proofs.Ytcdclmelnnbdnaa
