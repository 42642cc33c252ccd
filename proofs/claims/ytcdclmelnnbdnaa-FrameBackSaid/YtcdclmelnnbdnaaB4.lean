/- Frame: package slices: Clone, Contains, Equal. -/
import Derived.Test.YtcdclmelnnbdnaaB3
namespace Go.Proofs.Ytcdclmelnnbdnaa
open Vg Tf
set_option linter.unusedSimpArgs false
set_option linter.unusedVariables false
set_option maxRecDepth 100000
set_option maxHeartbeats 4000000
theorem clZ (nm : Nat) (l : List Int) : ClM [bZr nm l] := ClM.v (by simp only [List.all_cons, v_z]; rfl)
theorem clZ2 (l m : List Int) : ClM ([bZ 2 m] ++ [bZr 1 l]) := ClM.v (by simp only [List.cons_append, List.nil_append, List.all_cons, v_z]; rfl)
theorem one_z (l : List Int) : (l.map cz).all Cv.one = true := by simp [Cv.one, Value.oneCell']
theorem one_u (l : List Nat) : (l.map cb).all Cv.one = true := by simp [Cv.one, Value.oneCell']
theorem iclone (l : List Int) (hl : l.length ≤ 1000000) : CallOk Try.prog 19 [slV 1 l.length] [bZr 1 l] (slV 2 l.length) [bZ 2 l] := by
  have htk : List.take l.length (List.map cz l) = List.map cz l := List.take_of_length_le (by simp)
  refine CallOk.mkN 100 Try.func19 rfl en19 (by simp [Try.ntmps19]) (ClA.of rfl) rfl rfl fun C hR hP => ?_
  simp (config := { maxSteps := 2000000 }) only [go_sem, Nat.reduceBEq, Nat.reduceAdd, Nat.reduceLT, Nat.reduceLeDiff, Nat.reduceEqDiff, reduceCtorEq, Int.reduceAdd, Int.reduceSub, Int.reduceNeg, Int.reduceLE, Int.reduceLT, Int.reduceToNat, Int.reduceBEq, Int.reduceBNe, Int.reduceEq, Int.reduceNe, Int.toNat_zero, Int.toNat_one, bne_self_eq_false, Nat.reduceMul, Nat.zero_mul, Nat.mul_one, Nat.one_mul, Nat.reduceSub, Int.cast_ofNat_Int, Int.toNat_natCast]
  refine Sm.eqNil rfl rfl rfl rfl rfl rfl (fun h0 => ?_) ?_
  · have h0 : l = [] := List.length_eq_zero_iff.1 h0
    subst h0
    refine Sm.go 100 ?_
    simp (config := { maxSteps := 2000000 }) only [go_sem, Nat.reduceBEq, Nat.reduceAdd, Nat.reduceLT, Nat.reduceLeDiff, Nat.reduceEqDiff, reduceCtorEq, Int.reduceAdd, Int.reduceSub, Int.reduceNeg, Int.reduceLE, Int.reduceLT, Int.reduceToNat, Int.reduceBEq, Int.reduceBNe, Int.reduceEq, Int.reduceNe, Int.toNat_zero, Int.toNat_one, bne_self_eq_false, Nat.reduceMul, Nat.zero_mul, Nat.mul_one, Nat.one_mul, Nat.reduceSub, Int.cast_ofNat_Int, Int.toNat_natCast]
    refine RetQ.nils 110 1 3 [2] [] rfl ?_
    simp (config := { maxSteps := 2000000 }) only [go_sem, Nat.reduceBEq, Nat.reduceAdd, Nat.reduceLT, Nat.reduceLeDiff, Nat.reduceEqDiff, reduceCtorEq, Int.reduceAdd, Int.reduceSub, Int.reduceNeg, Int.reduceLE, Int.reduceLT, Int.reduceToNat, Int.reduceBEq, Int.reduceBNe, Int.reduceEq, Int.reduceNe, Int.toNat_zero, Int.toNat_one, bne_self_eq_false, Nat.reduceMul, Nat.zero_mul, Nat.mul_one, Nat.one_mul, Nat.reduceSub, Int.cast_ofNat_Int, Int.toNat_natCast]
    exact RetQ.ren [(1, 1), (2, 110)] hR hP rfl ⟨rfl, trivial⟩ rfl rfl ⟨⟨rfl, rfl⟩, trivial⟩ ⟨.inr ⟨_, rfl, .inl rfl⟩, .inr ⟨_, rfl, .inl rfl⟩, trivial⟩ (clZ2 [] []) (ClV.of rfl)
  · refine Sm.go 100 ?_
    simp (config := { maxSteps := 2000000 }) only [go_sem, Nat.reduceBEq, Nat.reduceAdd, Nat.reduceLT, Nat.reduceLeDiff, Nat.reduceEqDiff, reduceCtorEq, Int.reduceAdd, Int.reduceSub, Int.reduceNeg, Int.reduceLE, Int.reduceLT, Int.reduceToNat, Int.reduceBEq, Int.reduceBNe, Int.reduceEq, Int.reduceNe, Int.toNat_zero, Int.toNat_one, bne_self_eq_false, Nat.reduceMul, Nat.zero_mul, Nat.mul_one, Nat.one_mul, Nat.reduceSub, Int.cast_ofNat_Int, Int.toNat_natCast]
    simp only [htk]
    exact ⟨⟨⟨by simp, one_z l⟩, by omega, by omega⟩, RetQ.ren [(1, 1), (2, 101)] hR hP rfl ⟨rfl, trivial⟩ rfl rfl ⟨⟨rfl, rfl⟩, trivial⟩ ⟨.inr ⟨_, rfl, .inl (renV (v_z _))⟩, .inr ⟨_, rfl, .inl (renV (v_z _))⟩, trivial⟩ (clZ2 l l) (ClV.of rfl)⟩
theorem clU2 (l m : List Nat) : ClM ([bB 2 m] ++ [bBr 1 l]) := ClM.v (by simp only [List.cons_append, List.nil_append, List.all_cons, v_u]; rfl)
theorem bclone (l : List Nat) (hl : l.length ≤ 1000000) : CallOk Try.prog 50 [slV 1 l.length] [bBr 1 l] (slV 2 l.length) [bB 2 l] := by
  have htk : List.take l.length (List.map cb l) = List.map cb l := List.take_of_length_le (by simp)
  refine CallOk.mkN 100 Try.func50 rfl en50 (by simp [Try.ntmps50]) (ClA.of rfl) rfl rfl fun C hR hP => ?_
  simp (config := { maxSteps := 2000000 }) only [go_sem, Nat.reduceBEq, Nat.reduceAdd, Nat.reduceLT, Nat.reduceLeDiff, Nat.reduceEqDiff, reduceCtorEq, Int.reduceAdd, Int.reduceSub, Int.reduceNeg, Int.reduceLE, Int.reduceLT, Int.reduceToNat, Int.reduceBEq, Int.reduceBNe, Int.reduceEq, Int.reduceNe, Int.toNat_zero, Int.toNat_one, bne_self_eq_false, Nat.reduceMul, Nat.zero_mul, Nat.mul_one, Nat.one_mul, Nat.reduceSub, Int.cast_ofNat_Int, Int.toNat_natCast]
  refine Sm.eqNil rfl rfl rfl rfl rfl rfl (fun h0 => ?_) ?_
  · have h0 : l = [] := List.length_eq_zero_iff.1 h0
    subst h0
    refine Sm.go 100 ?_
    simp (config := { maxSteps := 2000000 }) only [go_sem, Nat.reduceBEq, Nat.reduceAdd, Nat.reduceLT, Nat.reduceLeDiff, Nat.reduceEqDiff, reduceCtorEq, Int.reduceAdd, Int.reduceSub, Int.reduceNeg, Int.reduceLE, Int.reduceLT, Int.reduceToNat, Int.reduceBEq, Int.reduceBNe, Int.reduceEq, Int.reduceNe, Int.toNat_zero, Int.toNat_one, bne_self_eq_false, Nat.reduceMul, Nat.zero_mul, Nat.mul_one, Nat.one_mul, Nat.reduceSub, Int.cast_ofNat_Int, Int.toNat_natCast]
    refine RetQ.nils 110 1 5 [2] [] rfl ?_
    simp (config := { maxSteps := 2000000 }) only [go_sem, Nat.reduceBEq, Nat.reduceAdd, Nat.reduceLT, Nat.reduceLeDiff, Nat.reduceEqDiff, reduceCtorEq, Int.reduceAdd, Int.reduceSub, Int.reduceNeg, Int.reduceLE, Int.reduceLT, Int.reduceToNat, Int.reduceBEq, Int.reduceBNe, Int.reduceEq, Int.reduceNe, Int.toNat_zero, Int.toNat_one, bne_self_eq_false, Nat.reduceMul, Nat.zero_mul, Nat.mul_one, Nat.one_mul, Nat.reduceSub, Int.cast_ofNat_Int, Int.toNat_natCast]
    exact RetQ.ren [(1, 1), (2, 110)] hR hP rfl ⟨rfl, trivial⟩ rfl rfl ⟨⟨rfl, rfl⟩, trivial⟩ ⟨.inr ⟨_, rfl, .inl rfl⟩, .inr ⟨_, rfl, .inl rfl⟩, trivial⟩ (clU2 [] []) (ClV.of rfl)
  · refine Sm.go 100 ?_
    simp (config := { maxSteps := 2000000 }) only [go_sem, Nat.reduceBEq, Nat.reduceAdd, Nat.reduceLT, Nat.reduceLeDiff, Nat.reduceEqDiff, reduceCtorEq, Int.reduceAdd, Int.reduceSub, Int.reduceNeg, Int.reduceLE, Int.reduceLT, Int.reduceToNat, Int.reduceBEq, Int.reduceBNe, Int.reduceEq, Int.reduceNe, Int.toNat_zero, Int.toNat_one, bne_self_eq_false, Nat.reduceMul, Nat.zero_mul, Nat.mul_one, Nat.one_mul, Nat.reduceSub, Int.cast_ofNat_Int, Int.toNat_natCast]
    simp only [htk]
    exact ⟨⟨⟨by simp, one_u l⟩, by omega, by omega⟩, RetQ.ren [(1, 1), (2, 101)] hR hP rfl ⟨rfl, trivial⟩ rfl rfl ⟨⟨rfl, rfl⟩, trivial⟩ ⟨.inr ⟨_, rfl, .inl (renV (v_u _))⟩, .inr ⟨_, rfl, .inl (renV (v_u _))⟩, trivial⟩ (clU2 l l) (ClV.of rfl)⟩
def idxN (x : Nat) : List Nat → Int → Int
  | [], _ => -1
  | y :: l, k => bif x == y then k else idxN x l (k + 1)
theorem idxN_any (x : Nat) : ∀ (l : List Nat) (k : Int), 0 ≤ k → decide (0 ≤ idxN x l k) = l.contains x
  | [], k, _ => by simp [idxN]
  | y :: l, k, h => by
    rw [idxN, List.contains_cons]
    cases x == y with
    | true => simp [h]
    | false => rw [cond_false, Bool.false_or]; exact idxN_any x l (k + 1) (by omega)
theorem nindex (l : List Nat) (x : Nat) (hl : l.length ≤ 1000000) : CallOk Try.prog 46 [slV 1 l.length, I x] [bNr 1 l] (I (idxN x l 0)) [] := by
  have hM := clNr 1 l
  refine CallOk.mkN 100 Try.func46 rfl en46 (by simp [Try.ntmps46]) (ClA.of rfl) rfl rfl fun C hR hP => ?_
  simp (config := { maxSteps := 2000000 }) only [go_sem, Nat.reduceBEq, Nat.reduceAdd, Nat.reduceLT, Nat.reduceLeDiff, Nat.reduceEqDiff, reduceCtorEq, Int.reduceAdd, Int.reduceSub, Int.reduceNeg, Int.reduceLE, Int.reduceLT, Int.reduceToNat, Int.reduceBEq, Int.reduceBNe, Int.reduceEq, Int.reduceNe, Int.toNat_zero, Int.toNat_one, bne_self_eq_false, Nat.reduceMul, Nat.zero_mul, Nat.mul_one, Nat.one_mul, Nat.reduceSub, Int.cast_ofNat_Int, Int.toNat_natCast]
  refine Sm.loopM (M0 := [bNr 1 l]) (α := { i : Nat // i ≤ l.length ∧ idxN x l 0 = idxN x (l.drop i) i }) hP (fun i => [(0, true, slV 1 l.length), (1, true, I x), (7, true, I l.length), (8, true, I i.val)]) (fun _ => [bNr 1 l]) (fun i => l.length - i.val) ⟨0, by omega, rfl⟩ (fun _ => hM) (fun _ => ClE.of rfl) [(1, 1)] ?_ ?_
  · exact ⟨rfl, ⟨⟨rfl, rfl⟩, trivial⟩, ⟨rfl, rfl, rfl, rfl, trivial⟩, ⟨.inr ⟨_, rfl, .inl (renV (v_n _))⟩, trivial⟩⟩
  · rintro ⟨i, hi, hx⟩ J hb
    simp only at hb hi hx ⊢
    refine Sm.go 120 ?_
    simp (config := { maxSteps := 2000000 }) only [go_sem, Nat.reduceBEq, Nat.reduceAdd, Nat.reduceLT, Nat.reduceLeDiff, Nat.reduceEqDiff, reduceCtorEq, Int.reduceAdd, Int.reduceSub, Int.reduceNeg, Int.reduceLE, Int.reduceLT, Int.reduceToNat, Int.reduceBEq, Int.reduceBNe, Int.reduceEq, Int.reduceNe, Int.toNat_zero, Int.toNat_one, bne_self_eq_false, Nat.reduceMul, Nat.zero_mul, Nat.mul_one, Nat.one_mul, Nat.reduceSub, Int.cast_ofNat_Int, Int.toNat_natCast]
    refine mtch (fun hc => ?_) (fun hc => ?_)
    · have hc : i < l.length := by simp at hc; omega
      have w1 : IntKind.i64.wrap ((i : Int) + 1) = ((i + 1 : Nat) : Int) := by rw [w64 (by omega) (by omega)]; omega
      rw [drop_n hc, idxN] at hx
      simp (config := { maxSteps := 2000000 }) only [go_sem, Nat.reduceBEq, Nat.reduceAdd, Nat.reduceLT, Nat.reduceLeDiff, Nat.reduceEqDiff, reduceCtorEq, Int.reduceAdd, Int.reduceSub, Int.reduceNeg, Int.reduceLE, Int.reduceLT, Int.reduceToNat, Int.reduceBEq, Int.reduceBNe, Int.reduceEq, Int.reduceNe, Int.toNat_zero, Int.toNat_one, bne_self_eq_false, Nat.reduceMul, Nat.zero_mul, Nat.mul_one, Nat.one_mul, Nat.reduceSub, Int.cast_ofNat_Int, Int.toNat_natCast, get_n hc]
      generalize l.getD i 0 = y at *
      have e1 : ((x : Int) == (y : Int)) = (x == y) := by rw [Bool.eq_iff_iff, beq_iff_eq, beq_iff_eq]; omega
      simp only [e1, w1]
      refine ⟨⟨by omega, by omega⟩, ?_⟩
      refine mtch (fun hz => ?_) (fun hz => ?_)
      · exact RetQ.of hR rfl ⟨rfl, trivial⟩ (by rw [hx, hz]; rfl) (Sub.one rfl (.inl rfl)) hM (ClV.of rfl)
      · exact hb _ _ ⟨i + 1, hc, by rw [hx, hz]; rfl⟩ [(1, 1)] (by simp only; omega) ⟨rfl, ⟨⟨rfl, rfl⟩, trivial⟩, ⟨rfl, rfl, rfl, rfl, trivial⟩, ⟨.inr ⟨_, rfl, .inl (renV (v_n _))⟩, trivial⟩⟩
    · have hc : i = l.length := by simp at hc; omega
      subst hc
      exact RetQ.of hR rfl ⟨rfl, trivial⟩ (by rw [hx, List.drop_length]; rfl) (Sub.one rfl (.inl rfl)) hM (ClV.of rfl)
theorem ncontains (l : List Nat) (x : Nat) (hl : l.length ≤ 1000000) : CallOk Try.prog 21 [slV 1 l.length, I x] [bNr 1 l] (Bo (l.contains x)) [] := by
  have hM := clNr 1 l
  refine CallOk.mkN 100 Try.func21 rfl en21 (by simp [Try.ntmps21]) (ClA.of rfl) rfl rfl fun C hR hP => ?_
  simp (config := { maxSteps := 2000000 }) only [go_sem, Nat.reduceBEq, Nat.reduceAdd, Nat.reduceLT, Nat.reduceLeDiff, Nat.reduceEqDiff, reduceCtorEq, Int.reduceAdd, Int.reduceSub, Int.reduceNeg, Int.reduceLE, Int.reduceLT, Int.reduceToNat, Int.reduceBEq, Int.reduceBNe, Int.reduceEq, Int.reduceNe, Int.toNat_zero, Int.toNat_one, bne_self_eq_false, Nat.reduceMul, Nat.zero_mul, Nat.mul_one, Nat.one_mul, Nat.reduceSub, Int.cast_ofNat_Int, Int.toNat_natCast]
  refine CallQ.ren [(1, 1)] 120 (nindex l x hl) hM rfl rfl ⟨⟨_, rfl, .inl (renV (v_n _))⟩, trivial⟩ rfl (.inr rfl) ?_
  simp (config := { maxSteps := 2000000 }) only [go_sem, Nat.reduceBEq, Nat.reduceAdd, Nat.reduceLT, Nat.reduceLeDiff, Nat.reduceEqDiff, reduceCtorEq, Int.reduceAdd, Int.reduceSub, Int.reduceNeg, Int.reduceLE, Int.reduceLT, Int.reduceToNat, Int.reduceBEq, Int.reduceBNe, Int.reduceEq, Int.reduceNe, Int.toNat_zero, Int.toNat_one, bne_self_eq_false, Nat.reduceMul, Nat.zero_mul, Nat.mul_one, Nat.one_mul, Nat.reduceSub, Int.cast_ofNat_Int, Int.toNat_natCast]
  exact RetQ.of hR rfl ⟨rfl, trivial⟩ (by rw [← idxN_any x l 0 (by omega)]; rfl) (Sub.one rfl (.inl rfl)) hM (ClV.of rfl)
theorem clZZ (l m : List Int) : ClM [bZr 1 l, bZr 2 m] := ClM.v (by simp only [List.all_cons, v_z]; rfl)
theorem iequal (a b : List Int) (ha : a.length ≤ 1000000) (hb0 : b.length ≤ 1000000) : CallOk Try.prog 28 [slV 1 a.length, slV 2 b.length] [bZr 1 a, bZr 2 b] (Bo (decide (a = b))) [] := by
  have hM := clZZ a b
  refine CallOk.mkN 100 Try.func28 rfl en28 (by simp [Try.ntmps28]) (ClA.of rfl) rfl rfl fun C hR hP => ?_
  simp (config := { maxSteps := 2000000 }) only [go_sem, Nat.reduceBEq, Nat.reduceAdd, Nat.reduceLT, Nat.reduceLeDiff, Nat.reduceEqDiff, reduceCtorEq, Int.reduceAdd, Int.reduceSub, Int.reduceNeg, Int.reduceLE, Int.reduceLT, Int.reduceToNat, Int.reduceBEq, Int.reduceBNe, Int.reduceEq, Int.reduceNe, Int.toNat_zero, Int.toNat_one, bne_self_eq_false, Nat.reduceMul, Nat.zero_mul, Nat.mul_one, Nat.one_mul, Nat.reduceSub, Int.cast_ofNat_Int, Int.toNat_natCast]
  refine mtch (fun hne => ?_) (fun hne => ?_)
  · have hne : a.length ≠ b.length := by simp at hne; omega
    exact RetQ.of hR rfl ⟨rfl, trivial⟩ (by rw [fal_of (show ¬ a = b from fun h => hne (by rw [h]))]; rfl) (Sub.refl _) hM (ClV.of rfl)
  · have hne : a.length = b.length := by simp at hne; omega
    refine Sm.loopM (M0 := [bZr 1 a, bZr 2 b]) (α := { i : Nat // i ≤ a.length ∧ (a = b ↔ a.drop i = b.drop i) }) hP (fun i => [(0, true, slV 1 a.length), (1, true, slV 2 b.length), (12, true, I a.length), (13, true, I i.val)]) (fun _ => [bZr 1 a, bZr 2 b]) (fun i => a.length - i.val) ⟨0, by omega, by simp⟩ (fun _ => hM) (fun _ => ClE.of rfl) [(1, 1), (2, 2)] ?_ ?_
    · exact ⟨rfl, ⟨⟨rfl, rfl⟩, ⟨rfl, rfl⟩, trivial⟩, ⟨rfl, rfl, rfl, rfl, trivial⟩, ⟨.inr ⟨_, rfl, .inl (renV (v_z _))⟩, .inr ⟨_, rfl, .inl (renV (v_z _))⟩, trivial⟩⟩
    · rintro ⟨i, hi, hx⟩ J hb
      simp only at hb hi hx ⊢
      refine Sm.go 120 ?_
      simp (config := { maxSteps := 2000000 }) only [go_sem, Nat.reduceBEq, Nat.reduceAdd, Nat.reduceLT, Nat.reduceLeDiff, Nat.reduceEqDiff, reduceCtorEq, Int.reduceAdd, Int.reduceSub, Int.reduceNeg, Int.reduceLE, Int.reduceLT, Int.reduceToNat, Int.reduceBEq, Int.reduceBNe, Int.reduceEq, Int.reduceNe, Int.toNat_zero, Int.toNat_one, bne_self_eq_false, Nat.reduceMul, Nat.zero_mul, Nat.mul_one, Nat.one_mul, Nat.reduceSub, Int.cast_ofNat_Int, Int.toNat_natCast]
      refine mtch (fun hc => ?_) (fun hc => ?_)
      · have hc : i < a.length := by simp at hc; omega
        have hcb : i < b.length := by omega
        have w1 : IntKind.i64.wrap ((i : Int) + 1) = ((i + 1 : Nat) : Int) := by rw [w64 (by omega) (by omega)]; omega
        rw [drop_z hc, drop_z hcb, List.cons.injEq] at hx
        refine Sm.dgo 120 8 mix (by decide +kernel) (by decide +kernel) ?_
        simp (config := { maxSteps := 2000000 }) only [go_sem, Nat.reduceBEq, Nat.reduceAdd, Nat.reduceLT, Nat.reduceLeDiff, Nat.reduceEqDiff, reduceCtorEq, Int.reduceAdd, Int.reduceSub, Int.reduceNeg, Int.reduceLE, Int.reduceLT, Int.reduceToNat, Int.reduceBEq, Int.reduceBNe, Int.reduceEq, Int.reduceNe, Int.toNat_zero, Int.toNat_one, bne_self_eq_false, Nat.reduceMul, Nat.zero_mul, Nat.mul_one, Nat.one_mul, Nat.reduceSub, Int.cast_ofNat_Int, Int.toNat_natCast, get_z hc, get_z hcb]
        simp only [w1]
        refine ⟨⟨by omega, by omega⟩, ⟨by omega, by omega⟩, ?_⟩
        refine mtch (fun hz => ?_) (fun hz => ?_)
        · rw [bne_iff_ne] at hz
          exact RetQ.of hR rfl ⟨rfl, trivial⟩ (by rw [fal_of (show ¬ a = b from fun h => hz (hx.1 h).1)]; rfl) (Sub.refl _) hM (ClV.of rfl)
        · have hz : a.getD i 0 = b.getD i 0 := by rw [← Bool.not_eq_true, bne_iff_ne] at hz; exact Classical.not_not.1 hz
          exact hb _ _ ⟨i + 1, hc, by rw [hx]; exact ⟨fun h => h.2, fun h => ⟨hz, h⟩⟩⟩ [(1, 1), (2, 2)] (by simp only; omega) ⟨rfl, ⟨⟨rfl, rfl⟩, ⟨rfl, rfl⟩, trivial⟩, ⟨rfl, rfl, rfl, rfl, trivial⟩, ⟨.inr ⟨_, rfl, .inl (renV (v_z _))⟩, .inr ⟨_, rfl, .inl (renV (v_z _))⟩, trivial⟩⟩
      · have hc : i = a.length := by simp at hc; omega
        subst hc
        have hab : a = b := hx.2 (by rw [List.drop_length, hne, List.drop_length])
        exact RetQ.of hR rfl ⟨rfl, trivial⟩ (by rw [tru_of hab]; rfl) (Sub.refl _) hM (ClV.of rfl)
theorem lgreat (f : Fm) : CallOk Try.prog 13 [fm5 1 f] [bS 1 f.sgs] (Bo (decide (24 < f.sgs.length))) [] := by
  have hM := clS f.sgs
  refine CallOk.mkN 100 Try.func13 rfl en13 (by simp [Try.ntmps13]) (ClA.of rfl) rfl rfl fun C hR hP => ?_
  simp (config := { maxSteps := 2000000 }) only [go_sem, Nat.reduceBEq, Nat.reduceAdd, Nat.reduceLT, Nat.reduceLeDiff, Nat.reduceEqDiff, reduceCtorEq, Int.reduceAdd, Int.reduceSub, Int.reduceNeg, Int.reduceLE, Int.reduceLT, Int.reduceToNat, Int.reduceBEq, Int.reduceBNe, Int.reduceEq, Int.reduceNe, Int.toNat_zero, Int.toNat_one, bne_self_eq_false, Nat.reduceMul, Nat.zero_mul, Nat.mul_one, Nat.one_mul, Nat.reduceSub, Int.cast_ofNat_Int, Int.toNat_natCast]
  refine RetQ.of hR rfl ⟨rfl, trivial⟩ ?_ (Sub.one rfl (.inl rfl)) hM (ClV.of rfl)
  rw [show decide ((24 : Int) < f.sgs.length) = decide (24 < f.sgs.length) by rw [decide_eq_decide]; omega]; rfl
/-- The example of the chapter. -/
def exS : Sg := ⟨⟨#[115]⟩, 4, 8, false, false, 1, 0, 1, 0, 255⟩
def exF : Fm := ⟨⟨#[102]⟩, 0, 2, false, [exS]⟩
theorem lsignal : CallOk Try.prog 38 [] [] (sg exS) [] := by
  refine CallOk.mkN 100 Try.func38 rfl en38 (by simp [Try.ntmps38]) (ClA.of rfl) rfl rfl fun C hR hP => ?_
  simp (config := { maxSteps := 2000000 }) only [go_sem, Nat.reduceBEq, Nat.reduceAdd, Nat.reduceLT, Nat.reduceLeDiff, Nat.reduceEqDiff, reduceCtorEq, Int.reduceAdd, Int.reduceSub, Int.reduceNeg, Int.reduceLE, Int.reduceLT, Int.reduceToNat, Int.reduceBEq, Int.reduceBNe, Int.reduceEq, Int.reduceNe, Int.toNat_zero, Int.toNat_one, bne_self_eq_false, Nat.reduceMul, Nat.zero_mul, Nat.mul_one, Nat.one_mul, Nat.reduceSub, Int.cast_ofNat_Int, Int.toNat_natCast]
  exact RetQ.pure hR rfl (by simp (config := { maxSteps := 2000000 }) only [go_sem, Nat.reduceBEq, Nat.reduceAdd, Nat.reduceLT, Nat.reduceLeDiff, Nat.reduceEqDiff, reduceCtorEq, Int.reduceAdd, Int.reduceSub, Int.reduceNeg, Int.reduceLE, Int.reduceLT, Int.reduceToNat, Int.reduceBEq, Int.reduceBNe, Int.reduceEq, Int.reduceNe, Int.toNat_zero, Int.toNat_one, bne_self_eq_false, Nat.reduceMul, Nat.zero_mul, Nat.mul_one, Nat.one_mul, Nat.reduceSub, Int.cast_ofNat_Int, Int.toNat_natCast]) (by simp (config := { maxSteps := 2000000 }) only [go_sem, Nat.reduceBEq, Nat.reduceAdd, Nat.reduceLT, Nat.reduceLeDiff, Nat.reduceEqDiff, reduceCtorEq, Int.reduceAdd, Int.reduceSub, Int.reduceNeg, Int.reduceLE, Int.reduceLT, Int.reduceToNat, Int.reduceBEq, Int.reduceBNe, Int.reduceEq, Int.reduceNe, Int.toNat_zero, Int.toNat_one, bne_self_eq_false, Nat.reduceMul, Nat.zero_mul, Nat.mul_one, Nat.one_mul, Nat.reduceSub, Int.cast_ofNat_Int, Int.toNat_natCast]; rfl) (ClV.of rfl)
theorem exB : encB exF [171] = [176, 10] := by decide +kernel
theorem exE : encE exF [171] = 0 := by decide +kernel
theorem exok : exF.ok := ⟨by decide, by decide, by decide, by decide⟩
theorem excrc : crc [49, 50, 51, 52, 53, 54, 55, 56, 57] = 75 := by
  unfold crc crcL
  simp only [List.foldl, c8_eq]
  decide +kernel
theorem lawake : CallOk Try.prog 12 [] [] (Bo true) [] := by
  refine CallOk.mkN 100 Try.func12 rfl en12 (by simp [Try.ntmps12]) (ClA.of rfl) rfl rfl fun C hR hP => ?_
  simp (config := { maxSteps := 2000000 }) only [go_sem, Nat.reduceBEq, Nat.reduceAdd, Nat.reduceLT, Nat.reduceLeDiff, Nat.reduceEqDiff, reduceCtorEq, Int.reduceAdd, Int.reduceSub, Int.reduceNeg, Int.reduceLE, Int.reduceLT, Int.reduceToNat, Int.reduceBEq, Int.reduceBNe, Int.reduceEq, Int.reduceNe, Int.toNat_zero, Int.toNat_one, bne_self_eq_false, Nat.reduceMul, Nat.zero_mul, Nat.mul_one, Nat.one_mul, Nat.reduceSub, Int.cast_ofNat_Int, Int.toNat_natCast]
  refine CallQ.pure 110 lsignal rfl ?_
  simp (config := { maxSteps := 2000000 }) only [go_sem, Nat.reduceBEq, Nat.reduceAdd, Nat.reduceLT, Nat.reduceLeDiff, Nat.reduceEqDiff, reduceCtorEq, Int.reduceAdd, Int.reduceSub, Int.reduceNeg, Int.reduceLE, Int.reduceLT, Int.reduceToNat, Int.reduceBEq, Int.reduceBNe, Int.reduceEq, Int.reduceNe, Int.toNat_zero, Int.toNat_one, bne_self_eq_false, Nat.reduceMul, Nat.zero_mul, Nat.mul_one, Nat.one_mul, Nat.reduceSub, Int.cast_ofNat_Int, Int.toNat_natCast]
  have he := fenc exF exok [171] (by decide)
  rw [exB, exE] at he
  refine CallQ.ren [(1, 110), (2, 111), (3, 112)] 113 he (clE2 _ _) rfl rfl ⟨⟨_, rfl, .inr ⟨rfl, [], rfl⟩⟩, ⟨_, rfl, .inr ⟨rfl, [], rfl⟩⟩, trivial⟩ rfl (.inl rfl) ?_
  simp only [Mem.ren, List.map_cons, List.map_nil, Bk.ren, List.map_map, V.ren, W.ren, Cv.ren, rn, Nat.reduceBEq, cond_true, cond_false, Function.comp_def]
  simp (config := { maxSteps := 2000000 }) only [go_sem, Nat.reduceBEq, Nat.reduceAdd, Nat.reduceLT, Nat.reduceLeDiff, Nat.reduceEqDiff, reduceCtorEq, Int.reduceAdd, Int.reduceSub, Int.reduceNeg, Int.reduceLE, Int.reduceLT, Int.reduceToNat, Int.reduceBEq, Int.reduceBNe, Int.reduceEq, Int.reduceNe, Int.toNat_zero, Int.toNat_one, bne_self_eq_false, Nat.reduceMul, Nat.zero_mul, Nat.mul_one, Nat.one_mul, Nat.reduceSub, Int.cast_ofNat_Int, Int.toNat_natCast]
  refine CallQ.ren [(1, 112), (2, 113)] 114 (bequal [176, 10] [176, 10] (by decide) (by decide)) (clB2 _ _) rfl rfl ⟨⟨_, rfl, .inr ⟨rfl, [], rfl⟩⟩, ⟨_, rfl, .inr ⟨rfl, [], rfl⟩⟩, trivial⟩ rfl (.inr rfl) ?_
  simp (config := { maxSteps := 2000000 }) only [go_sem, Nat.reduceBEq, Nat.reduceAdd, Nat.reduceLT, Nat.reduceLeDiff, Nat.reduceEqDiff, reduceCtorEq, Int.reduceAdd, Int.reduceSub, Int.reduceNeg, Int.reduceLE, Int.reduceLT, Int.reduceToNat, Int.reduceBEq, Int.reduceBNe, Int.reduceEq, Int.reduceNe, Int.toNat_zero, Int.toNat_one, bne_self_eq_false, Nat.reduceMul, Nat.zero_mul, Nat.mul_one, Nat.one_mul, Nat.reduceSub, Int.cast_ofNat_Int, Int.toNat_natCast]
  refine Sm.opq rfl rfl ⟨_, _, fun _ => Stp.markB 115 rfl rfl rfl rfl (by simp) rfl rfl rfl, .inl rfl, Sm.go 116 ?_⟩
  simp (config := { maxSteps := 2000000 }) only [go_sem, Nat.reduceBEq, Nat.reduceAdd, Nat.reduceLT, Nat.reduceLeDiff, Nat.reduceEqDiff, reduceCtorEq, Int.reduceAdd, Int.reduceSub, Int.reduceNeg, Int.reduceLE, Int.reduceLT, Int.reduceToNat, Int.reduceBEq, Int.reduceBNe, Int.reduceEq, Int.reduceNe, Int.toNat_zero, Int.toNat_one, bne_self_eq_false, Nat.reduceMul, Nat.zero_mul, Nat.mul_one, Nat.one_mul, Nat.reduceSub, Int.cast_ofNat_Int, Int.toNat_natCast]
  have hc := fcrc [49, 50, 51, 52, 53, 54, 55, 56, 57] (by decide) (by decide)
  rw [excrc] at hc
  refine CallQ.ren [(1, 115)] 116 hc (clB _ _) rfl rfl ⟨⟨_, rfl, .inl rfl⟩, trivial⟩ rfl (.inr rfl) ?_
  simp (config := { maxSteps := 2000000 }) only [go_sem, Nat.reduceBEq, Nat.reduceAdd, Nat.reduceLT, Nat.reduceLeDiff, Nat.reduceEqDiff, reduceCtorEq, Int.reduceAdd, Int.reduceSub, Int.reduceNeg, Int.reduceLE, Int.reduceLT, Int.reduceToNat, Int.reduceBEq, Int.reduceBNe, Int.reduceEq, Int.reduceNe, Int.toNat_zero, Int.toNat_one, bne_self_eq_false, Nat.reduceMul, Nat.zero_mul, Nat.mul_one, Nat.one_mul, Nat.reduceSub, Int.cast_ofNat_Int, Int.toNat_natCast]
  exact RetQ.bool hR rfl ⟨rfl, trivial⟩ rfl
end Go.Proofs.Ytcdclmelnnbdnaa
