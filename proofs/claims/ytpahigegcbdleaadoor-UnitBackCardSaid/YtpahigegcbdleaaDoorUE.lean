/- Parsing of units: the reference. -/
import Derived.Test.YtpahigegcbdleaaDoorUB
import Derived.Test.YtpahigegcbdleaaDoorU7
namespace Go.Proofs.YtpahigegcbdleaaDoor.Fx
open Vg Tf
set_option linter.unusedSimpArgs false
set_option linter.unusedVariables false
set_option maxRecDepth 100000
set_option maxHeartbeats 4000000
def exB (u : Un) (k : Nat) : Prop := ∀ j, j < 5 → -9 * (k : Int) ≤ ex u j ∧ ex u j ≤ 9 * (k : Int)
theorem fac1 (i : Nat) : facT i 1 = sy i := by simp [facT]
theorem exB_mono {u : Un} {k k' : Nat} (h : exB u k) (hk : k ≤ k') : exB u k' := fun j hj => by
  have := h j hj
  omega
theorem sub_cond {l s : List UInt8} {k : Nat} (hk : k ≤ l.length) (hs : 1 ≤ s.length) : (bif decide (((k + s.length : Nat) : Int) ≤ (l.length : Int)) then ((l.drop k).take (((k + s.length : Nat) : Int) - (k : Int)).toNat == s) else false) = decide ((l.drop k).take s.length = s) := by
  rw [show (((k + s.length : Nat) : Int) - (k : Int)).toNat = s.length by omega]
  by_cases h : k + s.length ≤ l.length
  · rw [tru_of (by omega), cond_true]
    by_cases h2 : (l.drop k).take s.length = s
    · simp [h2]
    · rw [beq_eq_false_iff_ne.2 h2, fal_of h2]
  · rw [fal_of (by omega), cond_false, fal_of]
    intro h2
    have := congrArg List.length h2
    simp at this
    omega
theorem mtA_tk {r : List UInt8} : ∀ n, ∀ {j : Nat}, mtA r n = (j : Int) → r.take (sy j).length = sy j
  | 0, j, h => by unfold mtA at h; omega
  | n + 1, j, h => by
    unfold mtA at h
    split at h
    · rename_i hq
      obtain rfl : n = j := by omega
      exact hq
    · exact mtA_tk n h
theorem mtA_le (l : List UInt8) (k : Nat) {j : Nat} (h : mtA (l.drop k) 5 = (j : Int)) : (sy j).length ≤ l.length - k := by
  have := congrArg List.length (mtA_tk 5 h)
  simp at this
  omega
theorem bifA {A B : Nat} {q : Bool} (h : (bif decide ((A : Int) < (B : Int)) then q else false) = true) : (A : Int) < B := by
  by_cases hA : (A : Int) < B
  · exact hA
  · rw [fal_of hA] at h; cases h
theorem bifB {p q : Bool} (h : (bif p then q else false) = true) : p = true := by
  cases p
  · cases h
  · rfl
theorem bifC (l : List UInt8) (n : Nat) : (bif bif bif decide (((n + 1 : Nat) : Int) < (l.length : Int)) then ((l.getD n 0).toNat : Int) == 94 else false then decide ((50 : Int) ≤ ((l.getD (n + 1) 0).toNat : Int)) else false then decide (((l.getD (n + 1) 0).toNat : Int) ≤ 57) else false) = true ↔ (n + 1 < l.length ∧ (l.getD n 0) = 94 ∧ 50 ≤ (l.getD (n + 1) 0).toNat ∧ (l.getD (n + 1) 0).toNat ≤ 57) := by
  have hE : (((l.getD n 0).toNat : Int) == 94) = decide (l.getD n 0 = 94) := by
    by_cases h : l.getD n 0 = 94
    · rw [h]; rfl
    · rw [fal_of h, beq_eq_false_iff_ne]
      intro h2
      exact h (UInt8.toNat_inj.1 (by show _ = 94; omega))
  have hb : ∀ p q : Bool, (bif p then q else false) = (p && q) := fun p q => by cases p <;> rfl
  rw [hE, hb, hb, hb]
  simp only [Bool.and_eq_true, decide_eq_true_eq]
  constructor
  · rintro ⟨⟨⟨a, b⟩, c⟩, d⟩
    exact ⟨by omega, b, by omega, by omega⟩
  · rintro ⟨a, b, c, d⟩
    exact ⟨⟨⟨by omega, b⟩, by omega⟩, by omega⟩
theorem expo_at (l : List UInt8) (n : Nat) : expo (l.drop n) = if n + 1 < l.length ∧ (l.getD n 0) = 94 ∧ 50 ≤ (l.getD (n + 1) 0).toNat ∧ (l.getD (n + 1) 0).toNat ≤ 57 then ((l.getD (n + 1) 0).toNat - 48, 2) else (1, 0) := by
  have h0 : (l.drop n).getD 0 0 = l.getD n 0 := by simp [List.getD_eq_getElem?_getD]
  have h1 : (l.drop n).getD 1 0 = l.getD (n + 1) 0 := by simp [List.getD_eq_getElem?_getD]
  unfold expo
  rw [h0, h1, List.length_drop]
  by_cases h : n + 1 < l.length
  · simp only [h, show 1 < l.length - n by omega]
  · simp only [h, show ¬ 1 < l.length - n by omega]
theorem un_set (u : Un) {i : Nat} (h : i < 5) (v : Int) : (unL u).set i (.v (.int .i64 v)) = unL (uset u i v) := five (Q := fun i => (unL u).set i (.v (.int .i64 v)) = unL (uset u i v)) rfl rfl rfl rfl rfl i h
theorem exB_set {u : Un} {k k' j : Nat} {x : Int} (h : exB u k) (hj : j < 5) (hx : -9 ≤ x ∧ x ≤ 9) (hk : k + 1 ≤ k') : exB (uset u j (ex u j + x)) k' := fun i hi => by
  have h1 := h i hi
  rw [ex_uset _ _ j hj i hi]
  split
  · rename_i e; subst e; omega
  · omega
theorem rParse_ (l : List UInt8) (hl : l.length ≤ 1000000) : CallOk Tryd.prog 22 [S l] [] (.tup [Wuu (prs l).1, Wi (prs l).2]) [] := by
  by_cases h40 : 40 < l.length
  · have e : prs l = (u0, 5) := by rw [prs, if_pos h40]
    have h1 : decide ((40 : Int) < l.length) = true := tru_of (by omega)
    rw [e]
    refine CallOk.mkN 100 Tryd.func22 rfl en22 (by simp [Tryd.ntmps22]) (ClA.of rfl) rfl rfl fun C hR hP => ?_
    simp (config := { maxSteps := 2000000 }) only [go_sem, Nat.reduceBEq, Nat.reduceAdd, Nat.reduceLT, Nat.reduceLeDiff, Nat.reduceEqDiff, reduceCtorEq, Int.reduceAdd, Int.reduceSub, Int.reduceNeg, Int.reduceLE, Int.reduceLT, Int.reduceToNat, Int.reduceBEq, Int.reduceBNe, Int.reduceEq, Int.reduceNe, Int.toNat_zero, Int.toNat_one, bne_self_eq_false, Nat.reduceMul, Nat.zero_mul, Nat.mul_one, Nat.one_mul, Nat.reduceSub, Int.cast_ofNat_Int, Int.toNat_natCast, h1]
    exact RetQ.of hR rfl (by simp (config := { maxSteps := 2000000 }) only [go_sem, Nat.reduceBEq, Nat.reduceAdd, Nat.reduceLT, Nat.reduceLeDiff, Nat.reduceEqDiff, reduceCtorEq, Int.reduceAdd, Int.reduceSub, Int.reduceNeg, Int.reduceLE, Int.reduceLT, Int.reduceToNat, Int.reduceBEq, Int.reduceBNe, Int.reduceEq, Int.reduceNe, Int.toNat_zero, Int.toNat_one, bne_self_eq_false, Nat.reduceMul, Nat.zero_mul, Nat.mul_one, Nat.one_mul, Nat.reduceSub, Int.cast_ofNat_Int, Int.toNat_natCast]) (by simp (config := { maxSteps := 2000000 }) only [go_sem, Nat.reduceBEq, Nat.reduceAdd, Nat.reduceLT, Nat.reduceLeDiff, Nat.reduceEqDiff, reduceCtorEq, Int.reduceAdd, Int.reduceSub, Int.reduceNeg, Int.reduceLE, Int.reduceLT, Int.reduceToNat, Int.reduceBEq, Int.reduceBNe, Int.reduceEq, Int.reduceNe, Int.toNat_zero, Int.toNat_one, bne_self_eq_false, Nat.reduceMul, Nat.zero_mul, Nat.mul_one, Nat.one_mul, Nat.reduceSub, Int.cast_ofNat_Int, Int.toNat_natCast] <;> rfl) (Sub.nil _) ClM.nil (ClV.of rfl)
  have h1 : decide ((40 : Int) < l.length) = false := fal_of (by omega)
  by_cases hn : (nmd l).2 = true
  · have e : prs l = ((nmd l).1, 0) := by rw [prs, if_neg h40, if_pos hn]
    rw [e]
    refine CallOk.mkN 100 Tryd.func22 rfl en22 (by simp [Tryd.ntmps22]) (ClA.of rfl) rfl rfl fun C hR hP => ?_
    simp (config := { maxSteps := 2000000 }) only [go_sem, Nat.reduceBEq, Nat.reduceAdd, Nat.reduceLT, Nat.reduceLeDiff, Nat.reduceEqDiff, reduceCtorEq, Int.reduceAdd, Int.reduceSub, Int.reduceNeg, Int.reduceLE, Int.reduceLT, Int.reduceToNat, Int.reduceBEq, Int.reduceBNe, Int.reduceEq, Int.reduceNe, Int.toNat_zero, Int.toNat_one, bne_self_eq_false, Nat.reduceMul, Nat.zero_mul, Nat.mul_one, Nat.one_mul, Nat.reduceSub, Int.cast_ofNat_Int, Int.toNat_natCast, h1]
    refine CallQ.pure 110 (rNamed l) rfl ?_
    simp (config := { maxSteps := 2000000 }) only [go_sem, Nat.reduceBEq, Nat.reduceAdd, Nat.reduceLT, Nat.reduceLeDiff, Nat.reduceEqDiff, reduceCtorEq, Int.reduceAdd, Int.reduceSub, Int.reduceNeg, Int.reduceLE, Int.reduceLT, Int.reduceToNat, Int.reduceBEq, Int.reduceBNe, Int.reduceEq, Int.reduceNe, Int.toNat_zero, Int.toNat_one, bne_self_eq_false, Nat.reduceMul, Nat.zero_mul, Nat.mul_one, Nat.one_mul, Nat.reduceSub, Int.cast_ofNat_Int, Int.toNat_natCast]
    rw [hn]
    simp (config := { maxSteps := 2000000 }) only [go_sem, Nat.reduceBEq, Nat.reduceAdd, Nat.reduceLT, Nat.reduceLeDiff, Nat.reduceEqDiff, reduceCtorEq, Int.reduceAdd, Int.reduceSub, Int.reduceNeg, Int.reduceLE, Int.reduceLT, Int.reduceToNat, Int.reduceBEq, Int.reduceBNe, Int.reduceEq, Int.reduceNe, Int.toNat_zero, Int.toNat_one, bne_self_eq_false, Nat.reduceMul, Nat.zero_mul, Nat.mul_one, Nat.one_mul, Nat.reduceSub, Int.cast_ofNat_Int, Int.toNat_natCast]
    exact RetQ.of hR rfl (by simp (config := { maxSteps := 2000000 }) only [go_sem, Nat.reduceBEq, Nat.reduceAdd, Nat.reduceLT, Nat.reduceLeDiff, Nat.reduceEqDiff, reduceCtorEq, Int.reduceAdd, Int.reduceSub, Int.reduceNeg, Int.reduceLE, Int.reduceLT, Int.reduceToNat, Int.reduceBEq, Int.reduceBNe, Int.reduceEq, Int.reduceNe, Int.toNat_zero, Int.toNat_one, bne_self_eq_false, Nat.reduceMul, Nat.zero_mul, Nat.mul_one, Nat.one_mul, Nat.reduceSub, Int.cast_ofNat_Int, Int.toNat_natCast]) (by simp (config := { maxSteps := 2000000 }) only [go_sem, Nat.reduceBEq, Nat.reduceAdd, Nat.reduceLT, Nat.reduceLeDiff, Nat.reduceEqDiff, reduceCtorEq, Int.reduceAdd, Int.reduceSub, Int.reduceNeg, Int.reduceLE, Int.reduceLT, Int.reduceToNat, Int.reduceBEq, Int.reduceBNe, Int.reduceEq, Int.reduceNe, Int.toNat_zero, Int.toNat_one, bne_self_eq_false, Nat.reduceMul, Nat.zero_mul, Nat.mul_one, Nat.one_mul, Nat.reduceSub, Int.cast_ofNat_Int, Int.toNat_natCast] <;> rfl) (Sub.nil _) ClM.nil (ClV.of rfl)
  obtain ⟨w, hw, e⟩ := prs_scan l h40 hn
  have hn : (nmd l).2 = false := by simpa using hn
  refine CallOk.mkN 100 Tryd.func22 rfl en22 (by simp [Tryd.ntmps22]) (ClA.of rfl) rfl rfl fun C hR hP => ?_
  simp (config := { maxSteps := 2000000 }) only [go_sem, Nat.reduceBEq, Nat.reduceAdd, Nat.reduceLT, Nat.reduceLeDiff, Nat.reduceEqDiff, reduceCtorEq, Int.reduceAdd, Int.reduceSub, Int.reduceNeg, Int.reduceLE, Int.reduceLT, Int.reduceToNat, Int.reduceBEq, Int.reduceBNe, Int.reduceEq, Int.reduceNe, Int.toNat_zero, Int.toNat_one, bne_self_eq_false, Nat.reduceMul, Nat.zero_mul, Nat.mul_one, Nat.one_mul, Nat.reduceSub, Int.cast_ofNat_Int, Int.toNat_natCast, h1]
  refine CallQ.pure 110 (rNamed l) rfl ?_
  simp (config := { maxSteps := 2000000 }) only [go_sem, Nat.reduceBEq, Nat.reduceAdd, Nat.reduceLT, Nat.reduceLeDiff, Nat.reduceEqDiff, reduceCtorEq, Int.reduceAdd, Int.reduceSub, Int.reduceNeg, Int.reduceLE, Int.reduceLT, Int.reduceToNat, Int.reduceBEq, Int.reduceBNe, Int.reduceEq, Int.reduceNe, Int.toNat_zero, Int.toNat_one, bne_self_eq_false, Nat.reduceMul, Nat.zero_mul, Nat.mul_one, Nat.one_mul, Nat.reduceSub, Int.cast_ofNat_Int, Int.toNat_natCast]
  rw [hn]
  simp (config := { maxSteps := 2000000 }) only [go_sem, Nat.reduceBEq, Nat.reduceAdd, Nat.reduceLT, Nat.reduceLeDiff, Nat.reduceEqDiff, reduceCtorEq, Int.reduceAdd, Int.reduceSub, Int.reduceNeg, Int.reduceLE, Int.reduceLT, Int.reduceToNat, Int.reduceBEq, Int.reduceBNe, Int.reduceEq, Int.reduceNe, Int.toNat_zero, Int.toNat_one, bne_self_eq_false, Nat.reduceMul, Nat.zero_mul, Nat.mul_one, Nat.one_mul, Nat.reduceSub, Int.cast_ofNat_Int, Int.toNat_natCast]
  refine Sm.loopM (M0 := []) (α := { x : Nat × Int × Un // x.1 ≤ l.length ∧ (x.2.1 = 1 ∨ x.2.1 = -1) ∧ exB x.2.2 x.1 ∧ Scan x.2.1 x.2.2 (l.drop x.1) w }) hP
    (fun x => [(0, true, S l), (2, true, .c (.p 4 0)), (6, true, slV 5 5), (7, true, I x.val.2.1), (8, true, I x.val.1)])
    (fun x => [(4, ⟨false, unL u0, 23⟩), bL 5 x.val.2.2]) (fun x => l.length - x.val.1) ⟨(0, 1, u0), by simp, .inl rfl, fun j hj => by simp [ex_u0 j hj], hw⟩ (fun _ => ClM.of rfl) (fun _ => ClE.of rfl) [(4, 100), (5, 111)] ?_ ?_
  · exact ⟨rfl, trivial, ⟨rfl, rfl, rfl, rfl, rfl, trivial⟩, ⟨.inr ⟨_, rfl, .inl rfl⟩, .inr ⟨_, rfl, .inl rfl⟩, trivial⟩⟩
  · rintro ⟨⟨k, sg, u⟩, hk, hsg, hub, hs⟩ J hb
    simp only at hb hk hsg hub hs ⊢
    refine Sm.go 170 ?_
    simp (config := { maxSteps := 2000000 }) only [go_sem, Nat.reduceBEq, Nat.reduceAdd, Nat.reduceLT, Nat.reduceLeDiff, Nat.reduceEqDiff, reduceCtorEq, Int.reduceAdd, Int.reduceSub, Int.reduceNeg, Int.reduceLE, Int.reduceLT, Int.reduceToNat, Int.reduceBEq, Int.reduceBNe, Int.reduceEq, Int.reduceNe, Int.toNat_zero, Int.toNat_one, bne_self_eq_false, Nat.reduceMul, Nat.zero_mul, Nat.mul_one, Nat.one_mul, Nat.reduceSub, Int.cast_ofNat_Int, Int.toNat_natCast]
    refine mtch (fun hc => ?_) (fun hc => ?_)
    · have hc : k < l.length := by have := of_decide_eq_true hc; omega
      have hdr : l.drop k = l.getD k 0 :: l.drop (k + 1) := by
        rw [List.getD_eq_getElem?_getD, List.getElem?_eq_getElem hc, List.drop_eq_getElem_cons hc]; rfl
      refine ⟨⟨by omega, by omega⟩, ?_⟩
      refine mtch (fun h47 => ?_) (fun h47 => ?_)
      · have h47 : l.getD k 0 = 47 := by
          have h47 : ((l.getD k 0).toNat : Int) = 47 := by simpa using h47
          exact UInt8.toNat_inj.1 (by show _ = 47; omega)
        have hsg' : sgn (l.getD k 0) sg = -1 := by rw [sgn, if_pos h47]
        refine Sm.loopM (M0 := []) (α := { j : Nat // j ≤ 5 }) hP
          (fun j => [(0, true, S l), (2, true, .c (.p 4 0)), (6, true, slV 5 5), (7, true, I (-1)), (8, true, I k), (9, true, I (mtA (l.drop k) j.val)), (10, true, I j.val)])
          (fun _ => [(4, ⟨false, unL u0, 23⟩), bL 5 u]) (fun j => 5 - j.val) ⟨0, by omega⟩ (fun _ => ClM.of rfl) (fun _ => ClE.of rfl) [(4, 4), (5, 5)] ?_ ?_
        · exact ⟨rfl, trivial, ⟨rfl, rfl, rfl, rfl, rfl, rfl, rfl, trivial⟩, ⟨.inr ⟨_, rfl, .inl rfl⟩, .inr ⟨_, rfl, .inl rfl⟩, trivial⟩⟩
        · rintro ⟨j, hj⟩ J2 hb2
          simp only at hb2 hj ⊢
          refine Sm.go 300 ?_
          simp (config := { maxSteps := 2000000 }) only [go_sem, Nat.reduceBEq, Nat.reduceAdd, Nat.reduceLT, Nat.reduceLeDiff, Nat.reduceEqDiff, reduceCtorEq, Int.reduceAdd, Int.reduceSub, Int.reduceNeg, Int.reduceLE, Int.reduceLT, Int.reduceToNat, Int.reduceBEq, Int.reduceBNe, Int.reduceEq, Int.reduceNe, Int.toNat_zero, Int.toNat_one, bne_self_eq_false, Nat.reduceMul, Nat.zero_mul, Nat.mul_one, Nat.one_mul, Nat.reduceSub, Int.cast_ofNat_Int, Int.toNat_natCast]
          refine mtch (fun hjc => ?_) (fun hjc => ?_)
          · have hjc : j < 5 := by have := of_decide_eq_true hjc; omega
            have hfc := rFactor j 1 hjc (by omega) (by omega)
            rw [fac1] at hfc
            have hsl := sy_len j hjc
            have w1 : IntKind.i64.wrap ((j : Int) + 1) = ((j + 1 : Nat) : Int) := by rw [w64 (by omega) (by omega)]; omega
            have w2 : IntKind.i64.wrap ((k : Int) + ((sy j).length : Int)) = ((k + (sy j).length : Nat) : Int) := by rw [w64 (by omega) (by omega)]; omega
            refine CallQ.pure 310 hfc rfl ?_
            simp (config := { maxSteps := 2000000 }) only [go_sem, Nat.reduceBEq, Nat.reduceAdd, Nat.reduceLT, Nat.reduceLeDiff, Nat.reduceEqDiff, reduceCtorEq, Int.reduceAdd, Int.reduceSub, Int.reduceNeg, Int.reduceLE, Int.reduceLT, Int.reduceToNat, Int.reduceBEq, Int.reduceBNe, Int.reduceEq, Int.reduceNe, Int.toNat_zero, Int.toNat_one, bne_self_eq_false, Nat.reduceMul, Nat.zero_mul, Nat.mul_one, Nat.one_mul, Nat.reduceSub, Int.cast_ofNat_Int, Int.toNat_natCast, w2]
            rw [sub_cond hk (by omega)]
            refine ⟨fun h => ⟨h, h, h, by omega, by omega, by have := of_decide_eq_true h; omega⟩, ?_⟩
            refine mtch (fun hq => ?_) (fun hq => ?_)
            · have hq : mtA (l.drop k) (j + 1) = j := by rw [mtA, if_pos (of_decide_eq_true hq)]
              simp only [w1]
              refine hb2 _ _ ⟨j + 1, hjc⟩ [(4, 4), (5, 5)] (by simp only; omega) ?_
              simp only [hq]
              exact ⟨rfl, trivial, ⟨rfl, rfl, rfl, rfl, rfl, rfl, rfl, trivial⟩, ⟨.inr ⟨_, rfl, .inl rfl⟩, .inr ⟨_, rfl, .inl rfl⟩, trivial⟩⟩
            · have hq : mtA (l.drop k) (j + 1) = mtA (l.drop k) j := by rw [mtA, if_neg (of_decide_eq_false hq)]
              simp only [w1]
              refine hb2 _ _ ⟨j + 1, hjc⟩ [(4, 4), (5, 5)] (by simp only; omega) ?_
              simp only [hq]
              exact ⟨rfl, trivial, ⟨rfl, rfl, rfl, rfl, rfl, rfl, rfl, trivial⟩, ⟨.inr ⟨_, rfl, .inl rfl⟩, .inr ⟨_, rfl, .inl rfl⟩, trivial⟩⟩
          · have hjc : ¬ j < 5 := by have := of_decide_eq_false hjc; omega
            have hjc : j = 5 := by omega
            subst hjc
            have hmb := mtA_bd (l.drop k) 5
            by_cases hm : mtA (l.drop k) 5 = -1
            · have w1 : IntKind.i64.wrap ((k : Int) + 1) = ((k + 1 : Nat) : Int) := by rw [w64 (by omega) (by omega)]; omega
              rw [hm]
              simp (config := { maxSteps := 2000000 }) only [go_sem, Nat.reduceBEq, Nat.reduceAdd, Nat.reduceLT, Nat.reduceLeDiff, Nat.reduceEqDiff, reduceCtorEq, Int.reduceAdd, Int.reduceSub, Int.reduceNeg, Int.reduceLE, Int.reduceLT, Int.reduceToNat, Int.reduceBEq, Int.reduceBNe, Int.reduceEq, Int.reduceNe, Int.toNat_zero, Int.toNat_one, bne_self_eq_false, Nat.reduceMul, Nat.zero_mul, Nat.mul_one, Nat.one_mul, Nat.reduceSub, Int.cast_ofNat_Int, Int.toNat_natCast, w1]
              rw [hdr] at hs hm
              cases hs with
              | tok j hj _ => exfalso; rw [hj] at hm; omega
              | skip _ hs =>
                rw [hsg'] at hs
                refine hb _ _ ⟨(k + 1, -1, u), hc, by first | exact hsg | exact .inr rfl, exB_mono hub (by simp only; omega), hs⟩ [(4, 4), (5, 5)] (by simp only; omega) ?_
                exact ⟨rfl, trivial, ⟨rfl, rfl, rfl, rfl, rfl, trivial⟩, ⟨.inr ⟨_, rfl, .inl rfl⟩, .inr ⟨_, rfl, .inl rfl⟩, trivial⟩⟩
            · obtain ⟨j, hjm⟩ : ∃ j : Nat, mtA (l.drop k) 5 = (j : Int) := ⟨(mtA (l.drop k) 5).toNat, by omega⟩
              have hj5 : j < 5 := by omega
              have hfc := rFactor j 1 hj5 (by omega) (by omega)
              rw [fac1] at hfc
              have hsl := sy_len j hj5
              have hjn : decide ((j : Int) < 0) = false := fal_of (by omega)
              rw [hjm]
              simp (config := { maxSteps := 2000000 }) only [go_sem, Nat.reduceBEq, Nat.reduceAdd, Nat.reduceLT, Nat.reduceLeDiff, Nat.reduceEqDiff, reduceCtorEq, Int.reduceAdd, Int.reduceSub, Int.reduceNeg, Int.reduceLE, Int.reduceLT, Int.reduceToNat, Int.reduceBEq, Int.reduceBNe, Int.reduceEq, Int.reduceNe, Int.toNat_zero, Int.toNat_one, bne_self_eq_false, Nat.reduceMul, Nat.zero_mul, Nat.mul_one, Nat.one_mul, Nat.reduceSub, Int.cast_ofNat_Int, Int.toNat_natCast, hjn]
              have w2 : IntKind.i64.wrap ((k : Int) + ((sy j).length : Int)) = ((k + (sy j).length : Nat) : Int) := by rw [w64 (by omega) (by omega)]; omega
              have w3 : IntKind.i64.wrap (((k + (sy j).length : Nat) : Int) + 1) = ((k + (sy j).length + 1 : Nat) : Int) := by rw [w64 (by omega) (by omega)]; omega
              have hx := ex_get u hj5
              have hub5 := hub j hj5
              have hst : ∀ x : Int, [Cv.v (.int .i64 u.m), .v (.int .i64 u.kg), .v (.int .i64 u.s), .v (.int .i64 u.a), .v (.int .i64 u.k)].set j (.v (.int .i64 x)) = unL (uset u j x) := fun x => un_set u hj5 x
              have hsc : Scan (-1) (uset u j (ex u j + (-1) * (expo (l.drop (k + (sy j).length))).1)) (l.drop (k + (sy j).length + (expo (l.drop (k + (sy j).length))).2)) w := by
                rw [hdr] at hs hjm
                cases hs with
                | skip h _ => exfalso; rw [h] at hjm; omega
                | tok j' h hs =>
                  obtain rfl : j' = j := by rw [hjm] at h; omega
                  rw [hsg', ← hdr, List.drop_drop, List.drop_drop] at hs
                  exact hs
              have hxa := expo_at l (k + (sy j).length)
              generalize hn1 : k + (sy j).length = n1 at *
              generalize expo (l.drop n1) = ep at *
              refine CallQ.pure 310 hfc rfl ?_
              simp (config := { maxSteps := 2000000 }) only [go_sem, Nat.reduceBEq, Nat.reduceAdd, Nat.reduceLT, Nat.reduceLeDiff, Nat.reduceEqDiff, reduceCtorEq, Int.reduceAdd, Int.reduceSub, Int.reduceNeg, Int.reduceLE, Int.reduceLT, Int.reduceToNat, Int.reduceBEq, Int.reduceBNe, Int.reduceEq, Int.reduceNe, Int.toNat_zero, Int.toNat_one, bne_self_eq_false, Nat.reduceMul, Nat.zero_mul, Nat.mul_one, Nat.one_mul, Nat.reduceSub, Int.cast_ofNat_Int, Int.toNat_natCast, w2, w3, hx]
              refine ⟨fun h => ⟨h, h, by omega, by have := of_decide_eq_true h; omega⟩, fun h => ⟨h, h, by omega, bifA h⟩, fun h => ⟨h, h, by omega, bifA (bifB h)⟩, ?_⟩
              refine mtch (fun hq => ?_) (fun hq => ?_)
              · have hq : n1 + 1 < l.length ∧ (l.getD n1 0) = 94 ∧ 50 ≤ (l.getD (n1 + 1) 0).toNat ∧ (l.getD (n1 + 1) 0).toNat ≤ 57 := (bifC _ _).1 hq
                rw [if_pos hq] at hxa
                obtain ⟨q1, q2, q3, q4⟩ := hq
                rw [hxa] at hsc
                generalize (l.getD (n1 + 1) 0).toNat = b at *
                have w4 : IntKind.u8.wrap ((b : Int) - 48) = ((b - 48 : Nat) : Int) := by rw [IntKind.wrap_u8]; omega
                have w5 : IntKind.i64.wrap ((b - 48 : Nat) : Int) = ((b - 48 : Nat) : Int) := by rw [w64 (by omega) (by omega)]
                have w6 : IntKind.i64.wrap ((-1) * ((b - 48 : Nat) : Int)) = (-1) * ((b - 48 : Nat) : Int) := by
                  rcases hsg with rfl | rfl <;> rw [w64 (by omega) (by omega)]
                have w7 : IntKind.i64.wrap (ex u j + (-1) * ((b - 48 : Nat) : Int)) = ex u j + (-1) * ((b - 48 : Nat) : Int) := by
                  rcases hsg with rfl | rfl <;> rw [w64 (by omega) (by omega)]
                have w8 : IntKind.i64.wrap ((n1 : Int) + 2) = ((n1 + 2 : Nat) : Int) := by rw [w64 (by omega) (by omega)]; omega
                simp (config := { maxSteps := 2000000 }) only [go_sem, Nat.reduceBEq, Nat.reduceAdd, Nat.reduceLT, Nat.reduceLeDiff, Nat.reduceEqDiff, reduceCtorEq, Int.reduceAdd, Int.reduceSub, Int.reduceNeg, Int.reduceLE, Int.reduceLT, Int.reduceToNat, Int.reduceBEq, Int.reduceBNe, Int.reduceEq, Int.reduceNe, Int.toNat_zero, Int.toNat_one, bne_self_eq_false, Nat.reduceMul, Nat.zero_mul, Nat.mul_one, Nat.one_mul, Nat.reduceSub, Int.cast_ofNat_Int, Int.toNat_natCast, w4, w5, w6, w7, w8, hst]
                refine ⟨⟨by omega, by omega⟩, ⟨by omega, by omega⟩, ⟨by omega, by omega⟩, by omega, ?_⟩
                refine hb _ _ ⟨(n1 + 2, -1, uset u j (ex u j + (-1) * ((b - 48 : Nat) : Int))), by simp only; omega, by first | exact hsg | exact .inr rfl, exB_set hub hj5 (by rcases hsg with rfl | rfl <;> omega) (by simp only; omega), hsc⟩ [(4, 4), (5, 5)] (by simp only; omega) ?_
                exact ⟨rfl, trivial, ⟨rfl, rfl, rfl, rfl, rfl, trivial⟩, ⟨.inr ⟨_, rfl, .inl rfl⟩, .inr ⟨_, rfl, .inl rfl⟩, trivial⟩⟩
              · have hq : ¬ (n1 + 1 < l.length ∧ (l.getD n1 0) = 94 ∧ 50 ≤ (l.getD (n1 + 1) 0).toNat ∧ (l.getD (n1 + 1) 0).toNat ≤ 57) := fun h => by rw [(bifC _ _).2 h] at hq; cases hq
                rw [if_neg hq] at hxa
                rw [hxa] at hsc
                have hl1 : n1 ≤ l.length := by have := mtA_le l k hjm; omega
                have w6 : IntKind.i64.wrap ((-1) * 1) = (-1) * 1 := by
                  rcases hsg with rfl | rfl <;> rw [w64 (by omega) (by omega)]
                have w7 : IntKind.i64.wrap (ex u j + (-1) * 1) = ex u j + (-1) * ((1 : Nat) : Int) := by
                  rcases hsg with rfl | rfl <;> rw [w64 (by omega) (by omega)] <;> rfl
                simp (config := { maxSteps := 2000000 }) only [go_sem, Nat.reduceBEq, Nat.reduceAdd, Nat.reduceLT, Nat.reduceLeDiff, Nat.reduceEqDiff, reduceCtorEq, Int.reduceAdd, Int.reduceSub, Int.reduceNeg, Int.reduceLE, Int.reduceLT, Int.reduceToNat, Int.reduceBEq, Int.reduceBNe, Int.reduceEq, Int.reduceNe, Int.toNat_zero, Int.toNat_one, bne_self_eq_false, Nat.reduceMul, Nat.zero_mul, Nat.mul_one, Nat.one_mul, Nat.reduceSub, Int.cast_ofNat_Int, Int.toNat_natCast, w6, w7, hst]
                refine ⟨⟨by omega, by omega⟩, ⟨by omega, by omega⟩, by omega, ?_⟩
                refine hb _ _ ⟨(n1, -1, uset u j (ex u j + (-1) * ((1 : Nat) : Int))), by simp only; omega, by first | exact hsg | exact .inr rfl, exB_set hub hj5 (by rcases hsg with rfl | rfl <;> omega) (by simp only; omega), hsc⟩ [(4, 4), (5, 5)] (by simp only; omega) ?_
                exact ⟨rfl, trivial, ⟨rfl, rfl, rfl, rfl, rfl, trivial⟩, ⟨.inr ⟨_, rfl, .inl rfl⟩, .inr ⟨_, rfl, .inl rfl⟩, trivial⟩⟩
      · have h47 : l.getD k 0 ≠ 47 := by
          have h47 : ¬ ((l.getD k 0).toNat : Int) = 47 := by simpa using h47
          intro h; rw [h] at h47; simp at h47
        have hsg' : sgn (l.getD k 0) sg = sg := by rw [sgn, if_neg h47]
        refine Sm.loopM (M0 := []) (α := { j : Nat // j ≤ 5 }) hP
          (fun j => [(0, true, S l), (2, true, .c (.p 4 0)), (6, true, slV 5 5), (7, true, I (sg)), (8, true, I k), (9, true, I (mtA (l.drop k) j.val)), (10, true, I j.val)])
          (fun _ => [(4, ⟨false, unL u0, 23⟩), bL 5 u]) (fun j => 5 - j.val) ⟨0, by omega⟩ (fun _ => ClM.of rfl) (fun _ => ClE.of rfl) [(4, 4), (5, 5)] ?_ ?_
        · exact ⟨rfl, trivial, ⟨rfl, rfl, rfl, rfl, rfl, rfl, rfl, trivial⟩, ⟨.inr ⟨_, rfl, .inl rfl⟩, .inr ⟨_, rfl, .inl rfl⟩, trivial⟩⟩
        · rintro ⟨j, hj⟩ J2 hb2
          simp only at hb2 hj ⊢
          refine Sm.go 300 ?_
          simp (config := { maxSteps := 2000000 }) only [go_sem, Nat.reduceBEq, Nat.reduceAdd, Nat.reduceLT, Nat.reduceLeDiff, Nat.reduceEqDiff, reduceCtorEq, Int.reduceAdd, Int.reduceSub, Int.reduceNeg, Int.reduceLE, Int.reduceLT, Int.reduceToNat, Int.reduceBEq, Int.reduceBNe, Int.reduceEq, Int.reduceNe, Int.toNat_zero, Int.toNat_one, bne_self_eq_false, Nat.reduceMul, Nat.zero_mul, Nat.mul_one, Nat.one_mul, Nat.reduceSub, Int.cast_ofNat_Int, Int.toNat_natCast]
          refine mtch (fun hjc => ?_) (fun hjc => ?_)
          · have hjc : j < 5 := by have := of_decide_eq_true hjc; omega
            have hfc := rFactor j 1 hjc (by omega) (by omega)
            rw [fac1] at hfc
            have hsl := sy_len j hjc
            have w1 : IntKind.i64.wrap ((j : Int) + 1) = ((j + 1 : Nat) : Int) := by rw [w64 (by omega) (by omega)]; omega
            have w2 : IntKind.i64.wrap ((k : Int) + ((sy j).length : Int)) = ((k + (sy j).length : Nat) : Int) := by rw [w64 (by omega) (by omega)]; omega
            refine CallQ.pure 310 hfc rfl ?_
            simp (config := { maxSteps := 2000000 }) only [go_sem, Nat.reduceBEq, Nat.reduceAdd, Nat.reduceLT, Nat.reduceLeDiff, Nat.reduceEqDiff, reduceCtorEq, Int.reduceAdd, Int.reduceSub, Int.reduceNeg, Int.reduceLE, Int.reduceLT, Int.reduceToNat, Int.reduceBEq, Int.reduceBNe, Int.reduceEq, Int.reduceNe, Int.toNat_zero, Int.toNat_one, bne_self_eq_false, Nat.reduceMul, Nat.zero_mul, Nat.mul_one, Nat.one_mul, Nat.reduceSub, Int.cast_ofNat_Int, Int.toNat_natCast, w2]
            rw [sub_cond hk (by omega)]
            refine ⟨fun h => ⟨h, h, h, by omega, by omega, by have := of_decide_eq_true h; omega⟩, ?_⟩
            refine mtch (fun hq => ?_) (fun hq => ?_)
            · have hq : mtA (l.drop k) (j + 1) = j := by rw [mtA, if_pos (of_decide_eq_true hq)]
              simp only [w1]
              refine hb2 _ _ ⟨j + 1, hjc⟩ [(4, 4), (5, 5)] (by simp only; omega) ?_
              simp only [hq]
              exact ⟨rfl, trivial, ⟨rfl, rfl, rfl, rfl, rfl, rfl, rfl, trivial⟩, ⟨.inr ⟨_, rfl, .inl rfl⟩, .inr ⟨_, rfl, .inl rfl⟩, trivial⟩⟩
            · have hq : mtA (l.drop k) (j + 1) = mtA (l.drop k) j := by rw [mtA, if_neg (of_decide_eq_false hq)]
              simp only [w1]
              refine hb2 _ _ ⟨j + 1, hjc⟩ [(4, 4), (5, 5)] (by simp only; omega) ?_
              simp only [hq]
              exact ⟨rfl, trivial, ⟨rfl, rfl, rfl, rfl, rfl, rfl, rfl, trivial⟩, ⟨.inr ⟨_, rfl, .inl rfl⟩, .inr ⟨_, rfl, .inl rfl⟩, trivial⟩⟩
          · have hjc : ¬ j < 5 := by have := of_decide_eq_false hjc; omega
            have hjc : j = 5 := by omega
            subst hjc
            have hmb := mtA_bd (l.drop k) 5
            by_cases hm : mtA (l.drop k) 5 = -1
            · have w1 : IntKind.i64.wrap ((k : Int) + 1) = ((k + 1 : Nat) : Int) := by rw [w64 (by omega) (by omega)]; omega
              rw [hm]
              simp (config := { maxSteps := 2000000 }) only [go_sem, Nat.reduceBEq, Nat.reduceAdd, Nat.reduceLT, Nat.reduceLeDiff, Nat.reduceEqDiff, reduceCtorEq, Int.reduceAdd, Int.reduceSub, Int.reduceNeg, Int.reduceLE, Int.reduceLT, Int.reduceToNat, Int.reduceBEq, Int.reduceBNe, Int.reduceEq, Int.reduceNe, Int.toNat_zero, Int.toNat_one, bne_self_eq_false, Nat.reduceMul, Nat.zero_mul, Nat.mul_one, Nat.one_mul, Nat.reduceSub, Int.cast_ofNat_Int, Int.toNat_natCast, w1]
              rw [hdr] at hs hm
              cases hs with
              | tok j hj _ => exfalso; rw [hj] at hm; omega
              | skip _ hs =>
                rw [hsg'] at hs
                refine hb _ _ ⟨(k + 1, sg, u), hc, by first | exact hsg | exact .inr rfl, exB_mono hub (by simp only; omega), hs⟩ [(4, 4), (5, 5)] (by simp only; omega) ?_
                exact ⟨rfl, trivial, ⟨rfl, rfl, rfl, rfl, rfl, trivial⟩, ⟨.inr ⟨_, rfl, .inl rfl⟩, .inr ⟨_, rfl, .inl rfl⟩, trivial⟩⟩
            · obtain ⟨j, hjm⟩ : ∃ j : Nat, mtA (l.drop k) 5 = (j : Int) := ⟨(mtA (l.drop k) 5).toNat, by omega⟩
              have hj5 : j < 5 := by omega
              have hfc := rFactor j 1 hj5 (by omega) (by omega)
              rw [fac1] at hfc
              have hsl := sy_len j hj5
              have hjn : decide ((j : Int) < 0) = false := fal_of (by omega)
              rw [hjm]
              simp (config := { maxSteps := 2000000 }) only [go_sem, Nat.reduceBEq, Nat.reduceAdd, Nat.reduceLT, Nat.reduceLeDiff, Nat.reduceEqDiff, reduceCtorEq, Int.reduceAdd, Int.reduceSub, Int.reduceNeg, Int.reduceLE, Int.reduceLT, Int.reduceToNat, Int.reduceBEq, Int.reduceBNe, Int.reduceEq, Int.reduceNe, Int.toNat_zero, Int.toNat_one, bne_self_eq_false, Nat.reduceMul, Nat.zero_mul, Nat.mul_one, Nat.one_mul, Nat.reduceSub, Int.cast_ofNat_Int, Int.toNat_natCast, hjn]
              have w2 : IntKind.i64.wrap ((k : Int) + ((sy j).length : Int)) = ((k + (sy j).length : Nat) : Int) := by rw [w64 (by omega) (by omega)]; omega
              have w3 : IntKind.i64.wrap (((k + (sy j).length : Nat) : Int) + 1) = ((k + (sy j).length + 1 : Nat) : Int) := by rw [w64 (by omega) (by omega)]; omega
              have hx := ex_get u hj5
              have hub5 := hub j hj5
              have hst : ∀ x : Int, [Cv.v (.int .i64 u.m), .v (.int .i64 u.kg), .v (.int .i64 u.s), .v (.int .i64 u.a), .v (.int .i64 u.k)].set j (.v (.int .i64 x)) = unL (uset u j x) := fun x => un_set u hj5 x
              have hsc : Scan (sg) (uset u j (ex u j + (sg) * (expo (l.drop (k + (sy j).length))).1)) (l.drop (k + (sy j).length + (expo (l.drop (k + (sy j).length))).2)) w := by
                rw [hdr] at hs hjm
                cases hs with
                | skip h _ => exfalso; rw [h] at hjm; omega
                | tok j' h hs =>
                  obtain rfl : j' = j := by rw [hjm] at h; omega
                  rw [hsg', ← hdr, List.drop_drop, List.drop_drop] at hs
                  exact hs
              have hxa := expo_at l (k + (sy j).length)
              generalize hn1 : k + (sy j).length = n1 at *
              generalize expo (l.drop n1) = ep at *
              refine CallQ.pure 310 hfc rfl ?_
              simp (config := { maxSteps := 2000000 }) only [go_sem, Nat.reduceBEq, Nat.reduceAdd, Nat.reduceLT, Nat.reduceLeDiff, Nat.reduceEqDiff, reduceCtorEq, Int.reduceAdd, Int.reduceSub, Int.reduceNeg, Int.reduceLE, Int.reduceLT, Int.reduceToNat, Int.reduceBEq, Int.reduceBNe, Int.reduceEq, Int.reduceNe, Int.toNat_zero, Int.toNat_one, bne_self_eq_false, Nat.reduceMul, Nat.zero_mul, Nat.mul_one, Nat.one_mul, Nat.reduceSub, Int.cast_ofNat_Int, Int.toNat_natCast, w2, w3, hx]
              refine ⟨fun h => ⟨h, h, by omega, by have := of_decide_eq_true h; omega⟩, fun h => ⟨h, h, by omega, bifA h⟩, fun h => ⟨h, h, by omega, bifA (bifB h)⟩, ?_⟩
              refine mtch (fun hq => ?_) (fun hq => ?_)
              · have hq : n1 + 1 < l.length ∧ (l.getD n1 0) = 94 ∧ 50 ≤ (l.getD (n1 + 1) 0).toNat ∧ (l.getD (n1 + 1) 0).toNat ≤ 57 := (bifC _ _).1 hq
                rw [if_pos hq] at hxa
                obtain ⟨q1, q2, q3, q4⟩ := hq
                rw [hxa] at hsc
                generalize (l.getD (n1 + 1) 0).toNat = b at *
                have w4 : IntKind.u8.wrap ((b : Int) - 48) = ((b - 48 : Nat) : Int) := by rw [IntKind.wrap_u8]; omega
                have w5 : IntKind.i64.wrap ((b - 48 : Nat) : Int) = ((b - 48 : Nat) : Int) := by rw [w64 (by omega) (by omega)]
                have w6 : IntKind.i64.wrap ((sg) * ((b - 48 : Nat) : Int)) = (sg) * ((b - 48 : Nat) : Int) := by
                  rcases hsg with rfl | rfl <;> rw [w64 (by omega) (by omega)]
                have w7 : IntKind.i64.wrap (ex u j + (sg) * ((b - 48 : Nat) : Int)) = ex u j + (sg) * ((b - 48 : Nat) : Int) := by
                  rcases hsg with rfl | rfl <;> rw [w64 (by omega) (by omega)]
                have w8 : IntKind.i64.wrap ((n1 : Int) + 2) = ((n1 + 2 : Nat) : Int) := by rw [w64 (by omega) (by omega)]; omega
                simp (config := { maxSteps := 2000000 }) only [go_sem, Nat.reduceBEq, Nat.reduceAdd, Nat.reduceLT, Nat.reduceLeDiff, Nat.reduceEqDiff, reduceCtorEq, Int.reduceAdd, Int.reduceSub, Int.reduceNeg, Int.reduceLE, Int.reduceLT, Int.reduceToNat, Int.reduceBEq, Int.reduceBNe, Int.reduceEq, Int.reduceNe, Int.toNat_zero, Int.toNat_one, bne_self_eq_false, Nat.reduceMul, Nat.zero_mul, Nat.mul_one, Nat.one_mul, Nat.reduceSub, Int.cast_ofNat_Int, Int.toNat_natCast, w4, w5, w6, w7, w8, hst]
                refine ⟨⟨by omega, by omega⟩, ⟨by omega, by omega⟩, ⟨by omega, by omega⟩, by omega, ?_⟩
                refine hb _ _ ⟨(n1 + 2, sg, uset u j (ex u j + (sg) * ((b - 48 : Nat) : Int))), by simp only; omega, by first | exact hsg | exact .inr rfl, exB_set hub hj5 (by rcases hsg with rfl | rfl <;> omega) (by simp only; omega), hsc⟩ [(4, 4), (5, 5)] (by simp only; omega) ?_
                exact ⟨rfl, trivial, ⟨rfl, rfl, rfl, rfl, rfl, trivial⟩, ⟨.inr ⟨_, rfl, .inl rfl⟩, .inr ⟨_, rfl, .inl rfl⟩, trivial⟩⟩
              · have hq : ¬ (n1 + 1 < l.length ∧ (l.getD n1 0) = 94 ∧ 50 ≤ (l.getD (n1 + 1) 0).toNat ∧ (l.getD (n1 + 1) 0).toNat ≤ 57) := fun h => by rw [(bifC _ _).2 h] at hq; cases hq
                rw [if_neg hq] at hxa
                rw [hxa] at hsc
                have hl1 : n1 ≤ l.length := by have := mtA_le l k hjm; omega
                have w6 : IntKind.i64.wrap ((sg) * 1) = (sg) * 1 := by
                  rcases hsg with rfl | rfl <;> rw [w64 (by omega) (by omega)]
                have w7 : IntKind.i64.wrap (ex u j + (sg) * 1) = ex u j + (sg) * ((1 : Nat) : Int) := by
                  rcases hsg with rfl | rfl <;> rw [w64 (by omega) (by omega)] <;> rfl
                simp (config := { maxSteps := 2000000 }) only [go_sem, Nat.reduceBEq, Nat.reduceAdd, Nat.reduceLT, Nat.reduceLeDiff, Nat.reduceEqDiff, reduceCtorEq, Int.reduceAdd, Int.reduceSub, Int.reduceNeg, Int.reduceLE, Int.reduceLT, Int.reduceToNat, Int.reduceBEq, Int.reduceBNe, Int.reduceEq, Int.reduceNe, Int.toNat_zero, Int.toNat_one, bne_self_eq_false, Nat.reduceMul, Nat.zero_mul, Nat.mul_one, Nat.one_mul, Nat.reduceSub, Int.cast_ofNat_Int, Int.toNat_natCast, w6, w7, hst]
                refine ⟨⟨by omega, by omega⟩, ⟨by omega, by omega⟩, by omega, ?_⟩
                refine hb _ _ ⟨(n1, sg, uset u j (ex u j + (sg) * ((1 : Nat) : Int))), by simp only; omega, by first | exact hsg | exact .inr rfl, exB_set hub hj5 (by rcases hsg with rfl | rfl <;> omega) (by simp only; omega), hsc⟩ [(4, 4), (5, 5)] (by simp only; omega) ?_
                exact ⟨rfl, trivial, ⟨rfl, rfl, rfl, rfl, rfl, trivial⟩, ⟨.inr ⟨_, rfl, .inl rfl⟩, .inr ⟨_, rfl, .inl rfl⟩, trivial⟩⟩
    · have hc : ¬ k < l.length := by have := of_decide_eq_false hc; omega
      have hc : k = l.length := by omega
      rw [hc, List.drop_length] at hs
      cases hs
      refine CallQ.ren [(1, 5)] 180 (rOf w) (clLr _ _) rfl rfl ⟨⟨_, rfl, .inr ⟨rfl, [], rfl⟩⟩, trivial⟩ rfl (.inr rfl) ?_
      simp (config := { maxSteps := 2000000 }) only [go_sem, Nat.reduceBEq, Nat.reduceAdd, Nat.reduceLT, Nat.reduceLeDiff, Nat.reduceEqDiff, reduceCtorEq, Int.reduceAdd, Int.reduceSub, Int.reduceNeg, Int.reduceLE, Int.reduceLT, Int.reduceToNat, Int.reduceBEq, Int.reduceBNe, Int.reduceEq, Int.reduceNe, Int.toNat_zero, Int.toNat_one, bne_self_eq_false, Nat.reduceMul, Nat.zero_mul, Nat.mul_one, Nat.one_mul, Nat.reduceSub, Int.cast_ofNat_Int, Int.toNat_natCast]
      refine CallQ.pure 190 (rValid w) rfl ?_
      simp (config := { maxSteps := 2000000 }) only [go_sem, Nat.reduceBEq, Nat.reduceAdd, Nat.reduceLT, Nat.reduceLeDiff, Nat.reduceEqDiff, reduceCtorEq, Int.reduceAdd, Int.reduceSub, Int.reduceNeg, Int.reduceLE, Int.reduceLT, Int.reduceToNat, Int.reduceBEq, Int.reduceBNe, Int.reduceEq, Int.reduceNe, Int.toNat_zero, Int.toNat_one, bne_self_eq_false, Nat.reduceMul, Nat.zero_mul, Nat.mul_one, Nat.one_mul, Nat.reduceSub, Int.cast_ofNat_Int, Int.toNat_natCast]
      refine CallQ.guard 190 (fun _ => rText w) (fun h => by rw [h]; rfl) ?_
      simp (config := { maxSteps := 2000000 }) only [go_sem, Nat.reduceBEq, Nat.reduceAdd, Nat.reduceLT, Nat.reduceLeDiff, Nat.reduceEqDiff, reduceCtorEq, Int.reduceAdd, Int.reduceSub, Int.reduceNeg, Int.reduceLE, Int.reduceLT, Int.reduceToNat, Int.reduceBEq, Int.reduceBNe, Int.reduceEq, Int.reduceNe, Int.toNat_zero, Int.toNat_one, bne_self_eq_false, Nat.reduceMul, Nat.zero_mul, Nat.mul_one, Nat.one_mul, Nat.reduceSub, Int.cast_ofNat_Int, Int.toNat_natCast]
      refine mtch (fun hq => ?_) (fun hq => ?_)
      · have hq : uokU w = true ∧ txt w = l := by
          cases hu : uokU w with
          | false => rw [hu] at hq; cases hq
          | true => rw [hu] at hq; exact ⟨rfl, by simpa using hq⟩
        rw [if_pos hq] at e
        rw [e] at hR
        exact RetQ.of hR rfl (by simp (config := { maxSteps := 2000000 }) only [go_sem, Nat.reduceBEq, Nat.reduceAdd, Nat.reduceLT, Nat.reduceLeDiff, Nat.reduceEqDiff, reduceCtorEq, Int.reduceAdd, Int.reduceSub, Int.reduceNeg, Int.reduceLE, Int.reduceLT, Int.reduceToNat, Int.reduceBEq, Int.reduceBNe, Int.reduceEq, Int.reduceNe, Int.toNat_zero, Int.toNat_one, bne_self_eq_false, Nat.reduceMul, Nat.zero_mul, Nat.mul_one, Nat.one_mul, Nat.reduceSub, Int.cast_ofNat_Int, Int.toNat_natCast]) (by simp (config := { maxSteps := 2000000 }) only [go_sem, Nat.reduceBEq, Nat.reduceAdd, Nat.reduceLT, Nat.reduceLeDiff, Nat.reduceEqDiff, reduceCtorEq, Int.reduceAdd, Int.reduceSub, Int.reduceNeg, Int.reduceLE, Int.reduceLT, Int.reduceToNat, Int.reduceBEq, Int.reduceBNe, Int.reduceEq, Int.reduceNe, Int.toNat_zero, Int.toNat_one, bne_self_eq_false, Nat.reduceMul, Nat.zero_mul, Nat.mul_one, Nat.one_mul, Nat.reduceSub, Int.cast_ofNat_Int, Int.toNat_natCast] <;> rfl) (Sub.nil _) ClM.nil (ClV.of rfl)
      · have hq : ¬ (uokU w = true ∧ txt w = l) := by
          rintro ⟨h1, h2⟩
          rw [h1, h2] at hq
          simp at hq
        rw [if_neg hq] at e
        rw [e] at hR
        exact RetQ.of hR rfl (by simp (config := { maxSteps := 2000000 }) only [go_sem, Nat.reduceBEq, Nat.reduceAdd, Nat.reduceLT, Nat.reduceLeDiff, Nat.reduceEqDiff, reduceCtorEq, Int.reduceAdd, Int.reduceSub, Int.reduceNeg, Int.reduceLE, Int.reduceLT, Int.reduceToNat, Int.reduceBEq, Int.reduceBNe, Int.reduceEq, Int.reduceNe, Int.toNat_zero, Int.toNat_one, bne_self_eq_false, Nat.reduceMul, Nat.zero_mul, Nat.mul_one, Nat.one_mul, Nat.reduceSub, Int.cast_ofNat_Int, Int.toNat_natCast]) (by simp (config := { maxSteps := 2000000 }) only [go_sem, Nat.reduceBEq, Nat.reduceAdd, Nat.reduceLT, Nat.reduceLeDiff, Nat.reduceEqDiff, reduceCtorEq, Int.reduceAdd, Int.reduceSub, Int.reduceNeg, Int.reduceLE, Int.reduceLT, Int.reduceToNat, Int.reduceBEq, Int.reduceBNe, Int.reduceEq, Int.reduceNe, Int.toNat_zero, Int.toNat_one, bne_self_eq_false, Nat.reduceMul, Nat.zero_mul, Nat.mul_one, Nat.one_mul, Nat.reduceSub, Int.cast_ofNat_Int, Int.toNat_natCast] <;> rfl) (Sub.nil _) ClM.nil (ClV.of rfl)
end Go.Proofs.YtpahigegcbdleaaDoor.Fx
