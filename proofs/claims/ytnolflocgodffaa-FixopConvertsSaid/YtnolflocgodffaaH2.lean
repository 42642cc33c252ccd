/- Contracts of the digits of package magnetoref04. -/
import Derived.Test.YtnolflocgodffaaH1
import Derived.Test.YtnolflocgodffaaVn
namespace Go.Proofs.Ytnolflocgodffaa
open Vg Tf
set_option linter.unusedSimpArgs false
set_option linter.unusedVariables false
set_option maxRecDepth 100000
abbrev dC (d : Nat) : Cv := .v (.int .i64 (d : Int))
abbrev sL (n len : Nat) : V := .c (.sl n 0 len 1)
theorem getD_map {ds : List Nat} {i : Nat} (h : i < ds.length) : (ds.map dC)[i]? = some (dC (ds.getD i 0)) := by
  rw [List.getElem?_map, List.getD_eq_getElem?_getD, List.getElem?_eq_getElem h]; rfl
theorem ClA.of {M : Mem} {l : List V} (h : l.all (V.inM M) = true) : ∀ x ∈ l, ClV M x := fun x hx => ClV.of (List.all_eq_true.1 h x hx)
theorem digit_ (ds : List Nat) (i : Nat) : CallOk Try.prog 99 [sL 1 ds.length, I i] [(1, ⟨true, ds.map dC, 3⟩)] (I (ds.getD i 0 : Nat)) [] := by
  refine CallOk.mkN 100 Try.func99 rfl en99 (by simp [Try.ntmps99]) (ClA.of rfl) rfl rfl fun C hR hP => ?_
  simp (config := { maxSteps := 2000000 }) only [go_sem, Nat.reduceBEq, Nat.reduceAdd, Nat.reduceLT, Nat.reduceLeDiff, Nat.reduceEqDiff, reduceCtorEq, Int.reduceAdd, Int.reduceSub, Int.reduceNeg, Int.reduceLE, Int.reduceLT, Int.reduceToNat, Int.reduceBEq, Int.reduceBNe, Int.reduceEq, Int.reduceNe, Int.toNat_zero, Int.toNat_one, bne_self_eq_false, Nat.reduceMul, Nat.zero_mul, Nat.mul_one, Nat.one_mul, Nat.reduceSub, Int.cast_ofNat_Int, Int.toNat_natCast]
  by_cases h : i < ds.length
  · simp only [show decide ((i : Int) < (ds.length : Int)) = true by simp; omega, getD_map h]
    simp (config := { maxSteps := 2000000 }) only [go_sem, Nat.reduceBEq, Nat.reduceAdd, Nat.reduceLT, Nat.reduceLeDiff, Nat.reduceEqDiff, reduceCtorEq, Int.reduceAdd, Int.reduceSub, Int.reduceNeg, Int.reduceLE, Int.reduceLT, Int.reduceToNat, Int.reduceBEq, Int.reduceBNe, Int.reduceEq, Int.reduceNe, Int.toNat_zero, Int.toNat_one, bne_self_eq_false, Nat.reduceMul, Nat.zero_mul, Nat.mul_one, Nat.one_mul, Nat.reduceSub, Int.cast_ofNat_Int, Int.toNat_natCast]
    refine ⟨⟨by omega, by omega⟩, ?_⟩
    exact RetQ.of hR rfl ⟨rfl, trivial⟩ rfl (Sub.refl _) (ClM.of (by simp [Cv.inM])) (ClV.of rfl)
  · simp only [show decide ((i : Int) < (ds.length : Int)) = false by simp; omega]
    refine RetQ.of hR rfl ⟨rfl, trivial⟩ ?_ (Sub.refl _) (ClM.of (by simp [Cv.inM])) (ClV.of rfl)
    rw [List.getD_eq_getElem?_getD, List.getElem?_eq_none (by omega)]
    rfl
@[reducible] def trE (n : Nat) : Env := [(0, true, sL 1 n), (2, true, .c (.v (.slice none 0 0)))]
theorem trim_top {ds : List Nat} {k : Nat} (hk : ds = dg (bval ds) ++ List.replicate k 0) {n : Nat} (h1 : (dg (bval ds)).length ≤ n) (h2 : n ≤ ds.length) (h0 : 0 < n) : ds.getD (n - 1) 0 = 0 ↔ (dg (bval ds)).length < n := by
  have hz := dg_nz (bval ds)
  generalize dg (bval ds) = r at *
  subst hk
  rcases Nat.lt_or_ge r.length n with h | h
  · refine ⟨fun _ => h, fun _ => ?_⟩
    rw [List.getD_eq_getElem?_getD, List.getElem?_append_right (by omega), List.getElem?_replicate]
    split <;> rfl
  · have e : n = r.length := by omega
    subst e
    refine ⟨fun hh => ?_, fun hh => by omega⟩
    have := hz (r.length - 1) (by omega)
    rw [List.getD_eq_getElem?_getD, List.getElem?_append_left (by omega), ← List.getD_eq_getElem?_getD] at hh
    exact absurd hh this
theorem trim_ (ds : List Nat) (h : ∀ d ∈ ds, d < (16777216 : Nat)) (hl : ds.length ≤ 4611686018427387904) : CallOk Try.prog 100 [sL 1 ds.length] [(1, ⟨true, ds.map dC, 3⟩)] (sL 1 (dg (bval ds)).length) [] := by
  obtain ⟨k, hk⟩ := dg_split ds h
  refine CallOk.mkN 100 Try.func100 rfl en100 (by simp [Try.ntmps100]) (ClA.of rfl) rfl rfl fun C hR hP => ?_
  have hM : ClM [(1, ⟨true, ds.map dC, 3⟩)] := ClM.of (by simp [Cv.inM])
  have hlen := congrArg List.length hk
  simp only [List.length_append, List.length_replicate] at hlen
  have hid : (⟨true, ds.map dC, 3⟩ : Bk).ren (rn [(1, 1)]) = ⟨true, ds.map dC, 3⟩ := by simp [Bk.ren, Function.comp_def, Cv.ren]
  simp (config := { maxSteps := 2000000 }) only [go_sem, Nat.reduceBEq, Nat.reduceAdd, Nat.reduceLT, Nat.reduceLeDiff, Nat.reduceEqDiff, reduceCtorEq, Int.reduceAdd, Int.reduceSub, Int.reduceNeg, Int.reduceLE, Int.reduceLT, Int.reduceToNat, Int.reduceBEq, Int.reduceBNe, Int.reduceEq, Int.reduceNe, Int.toNat_zero, Int.toNat_one, bne_self_eq_false, Nat.reduceMul, Nat.zero_mul, Nat.mul_one, Nat.one_mul, Nat.reduceSub, Int.cast_ofNat_Int, Int.toNat_natCast]
  refine Sm.loopM (M0 := [(1, ⟨true, ds.map dC, 3⟩)]) (α := { n : Nat // (dg (bval ds)).length ≤ n ∧ n ≤ ds.length }) hP (fun n => trE n.val) (fun _ => [(1, ⟨true, ds.map dC, 3⟩)]) (fun n => n.val) ⟨ds.length, by omega, by omega⟩
    (fun _ => hM) (fun _ => ClE.of rfl) [(1, 1)] ?_ ?_
  · exact ⟨rfl, ⟨⟨rfl, rfl⟩, trivial⟩, ⟨rfl, rfl, trivial⟩, ⟨.inr ⟨_, rfl, .inl hid⟩, trivial⟩⟩
  · rintro ⟨n, h1, h2⟩ J hb
    simp only at hb ⊢
    refine Sm.go 120 ?_
    by_cases h0 : n = 0
    · subst h0
      have e0 : (dg (bval ds)).length = 0 := by omega
      rw [e0] at hR
      simp (config := { maxSteps := 2000000 }) only [go_sem, Nat.reduceBEq, Nat.reduceAdd, Nat.reduceLT, Nat.reduceLeDiff, Nat.reduceEqDiff, reduceCtorEq, Int.reduceAdd, Int.reduceSub, Int.reduceNeg, Int.reduceLE, Int.reduceLT, Int.reduceToNat, Int.reduceBEq, Int.reduceBNe, Int.reduceEq, Int.reduceNe, Int.toNat_zero, Int.toNat_one, bne_self_eq_false, Nat.reduceMul, Nat.zero_mul, Nat.mul_one, Nat.one_mul, Nat.reduceSub, Int.cast_ofNat_Int, Int.toNat_natCast]
      cases ds with
      | nil =>
        simp (config := { maxSteps := 2000000 }) only [go_sem, Nat.reduceBEq, Nat.reduceAdd, Nat.reduceLT, Nat.reduceLeDiff, Nat.reduceEqDiff, reduceCtorEq, Int.reduceAdd, Int.reduceSub, Int.reduceNeg, Int.reduceLE, Int.reduceLT, Int.reduceToNat, Int.reduceBEq, Int.reduceBNe, Int.reduceEq, Int.reduceNe, Int.toNat_zero, Int.toNat_one, bne_self_eq_false, Nat.reduceMul, Nat.zero_mul, Nat.mul_one, Nat.one_mul, Nat.reduceSub, Int.cast_ofNat_Int, Int.toNat_natCast]
        refine ⟨[], I 0, fun hh => (by cases hh), .inr rfl, Sm.go 130 ?_⟩
        simp (config := { maxSteps := 2000000 }) only [go_sem, Nat.reduceBEq, Nat.reduceAdd, Nat.reduceLT, Nat.reduceLeDiff, Nat.reduceEqDiff, reduceCtorEq, Int.reduceAdd, Int.reduceSub, Int.reduceNeg, Int.reduceLE, Int.reduceLT, Int.reduceToNat, Int.reduceBEq, Int.reduceBNe, Int.reduceEq, Int.reduceNe, Int.toNat_zero, Int.toNat_one, bne_self_eq_false, Nat.reduceMul, Nat.zero_mul, Nat.mul_one, Nat.one_mul, Nat.reduceSub, Int.cast_ofNat_Int, Int.toNat_natCast]
        exact RetQ.of hR rfl ⟨rfl, trivial⟩ rfl (Sub.refl _) hM (ClV.of rfl)
      | cons d r =>
        simp (config := { maxSteps := 2000000 }) only [go_sem, Nat.reduceBEq, Nat.reduceAdd, Nat.reduceLT, Nat.reduceLeDiff, Nat.reduceEqDiff, reduceCtorEq, Int.reduceAdd, Int.reduceSub, Int.reduceNeg, Int.reduceLE, Int.reduceLT, Int.reduceToNat, Int.reduceBEq, Int.reduceBNe, Int.reduceEq, Int.reduceNe, Int.toNat_zero, Int.toNat_one, bne_self_eq_false, Nat.reduceMul, Nat.zero_mul, Nat.mul_one, Nat.one_mul, Nat.reduceSub, Int.cast_ofNat_Int, Int.toNat_natCast]
        exact RetQ.of hR rfl ⟨rfl, trivial⟩ rfl (Sub.refl _) hM (ClV.of rfl)
    · have w1 : IntKind.i64.wrap ((n : Int) - 1) = ((n - 1 : Nat) : Int) := by rw [w64 (by omega) (by omega)]; omega
      have d1 : decide ((0 : Int) < n) = true := by simp; omega
      simp (config := { maxSteps := 2000000 }) only [go_sem, Nat.reduceBEq, Nat.reduceAdd, Nat.reduceLT, Nat.reduceLeDiff, Nat.reduceEqDiff, reduceCtorEq, Int.reduceAdd, Int.reduceSub, Int.reduceNeg, Int.reduceLE, Int.reduceLT, Int.reduceToNat, Int.reduceBEq, Int.reduceBNe, Int.reduceEq, Int.reduceNe, Int.toNat_zero, Int.toNat_one, bne_self_eq_false, Nat.reduceMul, Nat.zero_mul, Nat.mul_one, Nat.one_mul, Nat.reduceSub, Int.cast_ofNat_Int, Int.toNat_natCast]
      simp only [w1, d1, Int.toNat_natCast, getD_map (show n - 1 < ds.length by omega)]
      simp (config := { maxSteps := 2000000 }) only [go_sem, Nat.reduceBEq, Nat.reduceAdd, Nat.reduceLT, Nat.reduceLeDiff, Nat.reduceEqDiff, reduceCtorEq, Int.reduceAdd, Int.reduceSub, Int.reduceNeg, Int.reduceLE, Int.reduceLT, Int.reduceToNat, Int.reduceBEq, Int.reduceBNe, Int.reduceEq, Int.reduceNe, Int.toNat_zero, Int.toNat_one, bne_self_eq_false, Nat.reduceMul, Nat.zero_mul, Nat.mul_one, Nat.one_mul, Nat.reduceSub, Int.cast_ofNat_Int, Int.toNat_natCast]
      have ht := trim_top hk h1 h2 (by omega)
      refine ⟨⟨by omega, by omega⟩, ?_⟩
      by_cases hc : (dg (bval ds)).length < n
      · have e1 : ((ds.getD (n - 1) 0 : Nat) : Int) = 0 := by have := ht.2 hc; omega
        simp only [e1]
        simp (config := { maxSteps := 2000000 }) only [go_sem, Nat.reduceBEq, Nat.reduceAdd, Nat.reduceLT, Nat.reduceLeDiff, Nat.reduceEqDiff, reduceCtorEq, Int.reduceAdd, Int.reduceSub, Int.reduceNeg, Int.reduceLE, Int.reduceLT, Int.reduceToNat, Int.reduceBEq, Int.reduceBNe, Int.reduceEq, Int.reduceNe, Int.toNat_zero, Int.toNat_one, bne_self_eq_false, Nat.reduceMul, Nat.zero_mul, Nat.mul_one, Nat.one_mul, Nat.reduceSub, Int.cast_ofNat_Int, Int.toNat_natCast]
        simp only [Int.sub_zero, Int.toNat_natCast]
        exact ⟨⟨by omega, by omega, by simpa using h2⟩, hb _ _ ⟨n - 1, by omega, by omega⟩ [(1, 1)] (by simp only; omega) ⟨rfl, ⟨⟨rfl, rfl⟩, trivial⟩, ⟨rfl, rfl, trivial⟩, ⟨.inr ⟨_, rfl, .inl hid⟩, trivial⟩⟩⟩
      · have e1 : (((ds.getD (n - 1) 0 : Nat) : Int) == 0) = false := by simp; intro hh; exact hc (ht.1 (by simpa using hh))
        simp only [e1]
        exact RetQ.of hR rfl ⟨rfl, trivial⟩ (by rw [show (dg (bval ds)).length = n by omega]; rfl) (Sub.refl _) hM (ClV.of rfl)
theorem fal_of {p : Prop} [Decidable p] (h : ¬ p) : decide p = false := by simpa using h
theorem tru_of {p : Prop} [Decidable p] (h : p) : decide p = true := by simpa using h
@[reducible] def leE (la lb : Nat) (i : Int) : Env := [(0, true, sL 1 la), (1, true, sL 2 lb), (5, true, I i), (4, true, Bo false)]
@[reducible] def inB (nm : Nat) (ds : List Nat) : Nat × Bk := (nm, ⟨true, ds.map dC, 3⟩)
theorem inB_ren (L : List (Nat × Nat)) (r : Bool) (ds : List Nat) (t : TypeId) : (⟨r, ds.map dC, t⟩ : Bk).ren (rn L) = ⟨r, ds.map dC, t⟩ := by simp [Bk.ren, Function.comp_def, Cv.ren]
theorem less_ (a b : Nat) (hl : (dg a).length ≤ 4611686018427387904) (hl' : (dg b).length ≤ 4611686018427387904) : CallOk Try.prog 101 [sL 1 (dg a).length, sL 2 (dg b).length] [inB 1 (dg a), inB 2 (dg b)] (Bo (decide (a < b))) [] := by
  refine CallOk.mkN 100 Try.func101 rfl en101 (by simp [Try.ntmps101]) (ClA.of rfl) rfl rfl fun C hR hP => ?_
  have hM : ClM [inB 1 (dg a), inB 2 (dg b)] := ClM.of (by simp [Cv.inM])
  have va := bval_dg a
  have vb := bval_dg b
  have la := dg_lt a
  have lb := dg_lt b
  simp (config := { maxSteps := 2000000 }) only [go_sem, Nat.reduceBEq, Nat.reduceAdd, Nat.reduceLT, Nat.reduceLeDiff, Nat.reduceEqDiff, reduceCtorEq, Int.reduceAdd, Int.reduceSub, Int.reduceNeg, Int.reduceLE, Int.reduceLT, Int.reduceToNat, Int.reduceBEq, Int.reduceBNe, Int.reduceEq, Int.reduceNe, Int.toNat_zero, Int.toNat_one, bne_self_eq_false, Nat.reduceMul, Nat.zero_mul, Nat.mul_one, Nat.one_mul, Nat.reduceSub, Int.cast_ofNat_Int, Int.toNat_natCast]
  by_cases he : (dg a).length = (dg b).length
  · have e1 : (((dg a).length : Int) != ((dg b).length : Int)) = false := by simp [he]
    have w1 : IntKind.i64.wrap (((dg a).length : Int) - 1) = ((dg a).length : Int) - 1 := w64 (by omega) (by omega)
    simp only [e1, w1]
    refine Sm.loopM (M0 := [inB 1 (dg a), inB 2 (dg b)]) (α := { n : Nat // n ≤ (dg a).length ∧ bval ((dg a).drop n) = bval ((dg b).drop n) }) hP (fun n => leE (dg a).length (dg b).length ((n.val : Int) - 1)) (fun _ => [inB 1 (dg a), inB 2 (dg b)]) (fun n => n.val) ⟨(dg a).length, by omega, by rw [List.drop_length, he, List.drop_length]⟩
      (fun _ => hM) (fun _ => ClE.of rfl) [(1, 1), (2, 2)] ?_ ?_
    · exact ⟨rfl, ⟨⟨rfl, rfl⟩, ⟨rfl, rfl⟩, trivial⟩, ⟨rfl, rfl, rfl, rfl, trivial⟩, ⟨.inr ⟨_, rfl, .inl (inB_ren _ _ _ _)⟩, .inr ⟨_, rfl, .inl (inB_ren _ _ _ _)⟩, trivial⟩⟩
    · rintro ⟨n, h1, h2⟩ J hb
      simp only at hb ⊢
      refine Sm.go 120 ?_
      simp (config := { maxSteps := 2000000 }) only [go_sem, Nat.reduceBEq, Nat.reduceAdd, Nat.reduceLT, Nat.reduceLeDiff, Nat.reduceEqDiff, reduceCtorEq, Int.reduceAdd, Int.reduceSub, Int.reduceNeg, Int.reduceLE, Int.reduceLT, Int.reduceToNat, Int.reduceBEq, Int.reduceBNe, Int.reduceEq, Int.reduceNe, Int.toNat_zero, Int.toNat_one, bne_self_eq_false, Nat.reduceMul, Nat.zero_mul, Nat.mul_one, Nat.one_mul, Nat.reduceSub, Int.cast_ofNat_Int, Int.toNat_natCast]
      by_cases h0 : n = 0
      · subst h0
        simp only [List.drop_zero, va, vb] at h2
        simp (config := { maxSteps := 2000000 }) only [go_sem, Nat.reduceBEq, Nat.reduceAdd, Nat.reduceLT, Nat.reduceLeDiff, Nat.reduceEqDiff, reduceCtorEq, Int.reduceAdd, Int.reduceSub, Int.reduceNeg, Int.reduceLE, Int.reduceLT, Int.reduceToNat, Int.reduceBEq, Int.reduceBNe, Int.reduceEq, Int.reduceNe, Int.toNat_zero, Int.toNat_one, bne_self_eq_false, Nat.reduceMul, Nat.zero_mul, Nat.mul_one, Nat.one_mul, Nat.reduceSub, Int.cast_ofNat_Int, Int.toNat_natCast]
        exact RetQ.of hR rfl ⟨rfl, trivial⟩ (by rw [h2]; simp; rfl) (Sub.refl _) hM (ClV.of rfl)
      · obtain ⟨m, rfl⟩ : ∃ m, n = m + 1 := ⟨n - 1, by omega⟩
        have e2 : ((m + 1 : Nat) : Int) - 1 = (m : Int) := by omega
        simp only [e2, tru_of (show (0 : Int) ≤ (m : Int) by omega)]
        refine Sm.dgo 120 9 mix (by decide +kernel) (by decide +kernel) ?_
        simp (config := { maxSteps := 2000000 }) only [go_sem, Nat.reduceBEq, Nat.reduceAdd, Nat.reduceLT, Nat.reduceLeDiff, Nat.reduceEqDiff, reduceCtorEq, Int.reduceAdd, Int.reduceSub, Int.reduceNeg, Int.reduceLE, Int.reduceLT, Int.reduceToNat, Int.reduceBEq, Int.reduceBNe, Int.reduceEq, Int.reduceNe, Int.toNat_zero, Int.toNat_one, bne_self_eq_false, Nat.reduceMul, Nat.zero_mul, Nat.mul_one, Nat.one_mul, Nat.reduceSub, Int.cast_ofNat_Int, Int.toNat_natCast]
        simp only [getD_map (show m < (dg a).length by omega), getD_map (show m < (dg b).length by omega)]
        simp (config := { maxSteps := 2000000 }) only [go_sem, Nat.reduceBEq, Nat.reduceAdd, Nat.reduceLT, Nat.reduceLeDiff, Nat.reduceEqDiff, reduceCtorEq, Int.reduceAdd, Int.reduceSub, Int.reduceNeg, Int.reduceLE, Int.reduceLT, Int.reduceToNat, Int.reduceBEq, Int.reduceBNe, Int.reduceEq, Int.reduceNe, Int.toNat_zero, Int.toNat_one, bne_self_eq_false, Nat.reduceMul, Nat.zero_mul, Nat.mul_one, Nat.one_mul, Nat.reduceSub, Int.cast_ofNat_Int, Int.toNat_natCast]
        refine ⟨⟨by omega, by omega⟩, ⟨by omega, by omega⟩, ?_⟩
        by_cases hd : (dg a).getD m 0 = (dg b).getD m 0
        · have e3 : ((((dg a).getD m 0 : Nat) : Int) != (((dg b).getD m 0 : Nat) : Int)) = false := by rw [hd]; simp
          have w2 : IntKind.i64.wrap ((m : Int) - 1) = (m : Int) - 1 := w64 (by omega) (by omega)
          simp only [e3, w2]
          have hv : bval ((dg a).drop m) = bval ((dg b).drop m) := by rw [bval_drop, bval_drop (dg b), hd, h2]
          exact hb _ _ ⟨m, by omega, hv⟩ [(1, 1), (2, 2)] (by simp only; omega) ⟨rfl, ⟨⟨rfl, rfl⟩, ⟨rfl, rfl⟩, trivial⟩, ⟨rfl, rfl, rfl, rfl, trivial⟩, ⟨.inr ⟨_, rfl, .inl (inB_ren _ _ _ _)⟩, .inr ⟨_, rfl, .inl (inB_ren _ _ _ _)⟩, trivial⟩⟩
        · have e3 : ((((dg a).getD m 0 : Nat) : Int) != (((dg b).getD m 0 : Nat) : Int)) = true := by rw [bne_iff_ne]; omega
          simp only [e3]
          refine Sm.dgo 120 9 mix (by decide +kernel) (by decide +kernel) ?_
          simp (config := { maxSteps := 2000000 }) only [go_sem, Nat.reduceBEq, Nat.reduceAdd, Nat.reduceLT, Nat.reduceLeDiff, Nat.reduceEqDiff, reduceCtorEq, Int.reduceAdd, Int.reduceSub, Int.reduceNeg, Int.reduceLE, Int.reduceLT, Int.reduceToNat, Int.reduceBEq, Int.reduceBNe, Int.reduceEq, Int.reduceNe, Int.toNat_zero, Int.toNat_one, bne_self_eq_false, Nat.reduceMul, Nat.zero_mul, Nat.mul_one, Nat.one_mul, Nat.reduceSub, Int.cast_ofNat_Int, Int.toNat_natCast]
          simp only [getD_map (show m < (dg a).length by omega), getD_map (show m < (dg b).length by omega)]
          simp (config := { maxSteps := 2000000 }) only [go_sem, Nat.reduceBEq, Nat.reduceAdd, Nat.reduceLT, Nat.reduceLeDiff, Nat.reduceEqDiff, reduceCtorEq, Int.reduceAdd, Int.reduceSub, Int.reduceNeg, Int.reduceLE, Int.reduceLT, Int.reduceToNat, Int.reduceBEq, Int.reduceBNe, Int.reduceEq, Int.reduceNe, Int.toNat_zero, Int.toNat_one, bne_self_eq_false, Nat.reduceMul, Nat.zero_mul, Nat.mul_one, Nat.one_mul, Nat.reduceSub, Int.cast_ofNat_Int, Int.toNat_natCast]
          refine ⟨⟨by omega, by omega⟩, ⟨by omega, by omega⟩, ?_⟩
          have hf : decide ((((dg a).getD m 0 : Nat) : Int) < (((dg b).getD m 0 : Nat) : Int)) = decide (a < b) := by
            rw [decide_eq_decide]
            constructor
            · intro h
              have := dg_first la lb he m (by omega) h2 (by omega)
              rw [va, vb] at this; exact this
            · intro h
              rcases Nat.lt_or_ge ((dg a).getD m 0) ((dg b).getD m 0) with h' | h'
              · omega
              · have := dg_first lb la he.symm m (by omega) h2.symm (by omega)
                rw [va, vb] at this; omega
          exact RetQ.of hR rfl ⟨rfl, trivial⟩ (by rw [hf]; rfl) (Sub.refl _) hM (ClV.of rfl)
  · have e1 : (((dg a).length : Int) != ((dg b).length : Int)) = true := by simp; omega
    simp only [e1]
    have hi : decide (((dg a).length : Int) < ((dg b).length : Int)) = decide (a < b) := by
      rw [decide_eq_decide]
      constructor
      · intro h; exact dg_len (by omega)
      · intro h
        rcases Nat.lt_or_ge (dg a).length (dg b).length with h' | h'
        · omega
        · have := dg_len (a := b) (b := a) (by omega); omega
    exact RetQ.of hR rfl ⟨rfl, trivial⟩ (by rw [hi]; rfl) (Sub.refl _) hM (ClV.of rfl)
@[reducible] def bn (nm : Nat) (n : Int) : V := .agg [.v (.bool (decide (n < 0))), .sl nm 0 (dg n.natAbs).length 1]
@[reducible] def bI (nm : Nat) (n : Int) : Nat × Bk := inB nm (dg n.natAbs)
@[reducible] def bO (nm : Nat) (n : Int) (p : List Nat) : Nat × Bk := (nm, ⟨false, (dg n.natAbs ++ p).map dC, 3⟩)
end Go.Proofs.Ytnolflocgodffaa
