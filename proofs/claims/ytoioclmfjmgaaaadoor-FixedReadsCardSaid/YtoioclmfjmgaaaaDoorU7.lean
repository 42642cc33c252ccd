/- The text of a unit, by the reference. -/
import Derived.Test.YtoioclmfjmgaaaaDoorU6
namespace Go.Proofs.YtoioclmfjmgaaaaDoor.Fx
open Vg Tf
set_option linter.unusedSimpArgs false
set_option linter.unusedVariables false
set_option maxRecDepth 100000
set_option maxHeartbeats 4000000
theorem rFactor (i n : Nat) (hi : i < 5) (hn1 : 1 ≤ n) (hn : n < 10) : CallOk Tryd.prog 67 [I i, I n] [] (S (facT i n)) [] := by
  have hs := sy_len i hi
  have hg : [cs1 [109], cs1 [107, 103], cs1 [115], cs1 [65], cs1 [75]][i]? = some (cs1 (sy i)) := sy_get hi
  refine CallOk.mkN 100 Tryd.func67 rfl en67 (by simp [Tryd.ntmps67]) (ClA.of rfl) rfl rfl fun C hR hP => ?_
  simp (config := { maxSteps := 2000000 }) only [go_sem, Nat.reduceBEq, Nat.reduceAdd, Nat.reduceLT, Nat.reduceLeDiff, Nat.reduceEqDiff, reduceCtorEq, Int.reduceAdd, Int.reduceSub, Int.reduceNeg, Int.reduceLE, Int.reduceLT, Int.reduceToNat, Int.reduceBEq, Int.reduceBNe, Int.reduceEq, Int.reduceNe, Int.toNat_zero, Int.toNat_one, bne_self_eq_false, Nat.reduceMul, Nat.zero_mul, Nat.mul_one, Nat.one_mul, Nat.reduceSub, Int.cast_ofNat_Int, Int.toNat_natCast, hg]
  refine ⟨⟨by omega, by omega⟩, ?_⟩
  refine mtch (fun h => ?_) (fun h => ?_)
  · have h : n ≠ 1 := by simp at h; omega
    have e : facT i n = sy i ++ [94, UInt8.ofNat (48 + n)] := by rw [facT, if_neg h]
    have w1 : IntKind.i64.wrap (48 + (n : Int)) = ((48 + n : Nat) : Int) := by rw [w64 (by omega) (by omega)]; omega
    have w2 : IntKind.u8.wrap ((48 + n : Nat) : Int) = ((48 + n : Nat) : Int) := by rw [IntKind.wrap_u8]; omega
    simp only [w1, w2]
    refine ⟨by omega, ?_⟩
    refine Sm.opq rfl rfl ⟨[], _, fun _ => Stp.toStr [48 + n] (n := 101) (b := ⟨false, [.v (.int .u8 ((48 + n : Nat) : Int))], 5⟩) rfl rfl rfl sl82 ki5 st9 rfl rfl, .inl rfl, ?_⟩
    refine Sm.go 110 ?_
    simp (config := { maxSteps := 2000000 }) only [go_sem, Nat.reduceBEq, Nat.reduceAdd, Nat.reduceLT, Nat.reduceLeDiff, Nat.reduceEqDiff, reduceCtorEq, Int.reduceAdd, Int.reduceSub, Int.reduceNeg, Int.reduceLE, Int.reduceLT, Int.reduceToNat, Int.reduceBEq, Int.reduceBNe, Int.reduceEq, Int.reduceNe, Int.toNat_zero, Int.toNat_one, bne_self_eq_false, Nat.reduceMul, Nat.zero_mul, Nat.mul_one, Nat.one_mul, Nat.reduceSub, Int.cast_ofNat_Int, Int.toNat_natCast, List.length_append, List.length_cons, List.length_nil]
    refine ⟨by omega, ?_⟩
    rw [e] at hR
    exact RetQ.of hR rfl ⟨rfl, trivial⟩ (by simp [V.toW, W.toV]) (Sub.nil _) ClM.nil (ClV.of rfl)
  · have h : n = 1 := by simp at h; omega
    subst h
    have e : facT i 1 = sy i := by simp [facT]
    rw [e] at hR
    exact RetQ.of hR rfl ⟨rfl, trivial⟩ rfl (Sub.nil _) ClM.nil (ClV.of rfl)
theorem rText (u : Un) : CallOk Tryd.prog 23 [uu u] [] (S (txt u)) [] := by
  refine CallOk.mkN 100 Tryd.func23 rfl en23 (by simp [Tryd.ntmps23]) (ClA.of rfl) rfl rfl fun C hR hP => ?_
  simp (config := { maxSteps := 2000000 }) only [go_sem, Nat.reduceBEq, Nat.reduceAdd, Nat.reduceLT, Nat.reduceLeDiff, Nat.reduceEqDiff, reduceCtorEq, Int.reduceAdd, Int.reduceSub, Int.reduceNeg, Int.reduceLE, Int.reduceLT, Int.reduceToNat, Int.reduceBEq, Int.reduceBNe, Int.reduceEq, Int.reduceNe, Int.toNat_zero, Int.toNat_one, bne_self_eq_false, Nat.reduceMul, Nat.zero_mul, Nat.mul_one, Nat.one_mul, Nat.reduceSub, Int.cast_ofNat_Int, Int.toNat_natCast]
  refine CallQ.pure 110 (rValid u) rfl ?_
  simp (config := { maxSteps := 2000000 }) only [go_sem, Nat.reduceBEq, Nat.reduceAdd, Nat.reduceLT, Nat.reduceLeDiff, Nat.reduceEqDiff, reduceCtorEq, Int.reduceAdd, Int.reduceSub, Int.reduceNeg, Int.reduceLE, Int.reduceLT, Int.reduceToNat, Int.reduceBEq, Int.reduceBNe, Int.reduceEq, Int.reduceNe, Int.toNat_zero, Int.toNat_one, bne_self_eq_false, Nat.reduceMul, Nat.zero_mul, Nat.mul_one, Nat.one_mul, Nat.reduceSub, Int.cast_ofNat_Int, Int.toNat_natCast]
  cases hu : uokU u with
  | false =>
    have e : txt u = [] := by rw [txt, hu]; rfl
    rw [e] at hR
    simp (config := { maxSteps := 2000000 }) only [go_sem, Nat.reduceBEq, Nat.reduceAdd, Nat.reduceLT, Nat.reduceLeDiff, Nat.reduceEqDiff, reduceCtorEq, Int.reduceAdd, Int.reduceSub, Int.reduceNeg, Int.reduceLE, Int.reduceLT, Int.reduceToNat, Int.reduceBEq, Int.reduceBNe, Int.reduceEq, Int.reduceNe, Int.toNat_zero, Int.toNat_one, bne_self_eq_false, Nat.reduceMul, Nat.zero_mul, Nat.mul_one, Nat.one_mul, Nat.reduceSub, Int.cast_ofNat_Int, Int.toNat_natCast]
    exact RetQ.of hR rfl ⟨rfl, trivial⟩ rfl (Sub.nil _) ClM.nil (ClV.of rfl)
  | true =>
  have et : txt u = negT u 5 := by rw [txt, hu]; rfl
  rw [et] at hR
  change CallQ _ _ _ _ _ _ _ _ _ _
  refine CallQ.ren [(1, 130)] 131 (rList u) ClM.nil rfl rfl trivial rfl (.inl rfl) ?_
  simp (config := { maxSteps := 2000000 }) only [go_sem, Nat.reduceBEq, Nat.reduceAdd, Nat.reduceLT, Nat.reduceLeDiff, Nat.reduceEqDiff, reduceCtorEq, Int.reduceAdd, Int.reduceSub, Int.reduceNeg, Int.reduceLE, Int.reduceLT, Int.reduceToNat, Int.reduceBEq, Int.reduceBNe, Int.reduceEq, Int.reduceNe, Int.toNat_zero, Int.toNat_one, bne_self_eq_false, Nat.reduceMul, Nat.zero_mul, Nat.mul_one, Nat.one_mul, Nat.reduceSub, Int.cast_ofNat_Int, Int.toNat_natCast]
  refine Sm.loopM (M0 := []) (α := { i : Nat // i ≤ 5 }) hP (fun i => [(3, true, slV 4 5), (4, true, S (posT u i.val)), (5, true, I i.val)]) (fun _ => [bL 4 u]) (fun i => 5 - i.val) ⟨0, by omega⟩ (fun _ => clL _ _) (fun _ => ClE.of rfl) [(4, 130)] ?_ ?_
  · exact ⟨rfl, trivial, ⟨rfl, rfl, rfl, trivial⟩, ⟨.inr ⟨_, rfl, .inl rfl⟩, trivial⟩⟩
  · rintro ⟨i, hi⟩ J hb
    simp only at hb hi ⊢
    refine Sm.go 200 ?_
    simp (config := { maxSteps := 2000000 }) only [go_sem, Nat.reduceBEq, Nat.reduceAdd, Nat.reduceLT, Nat.reduceLeDiff, Nat.reduceEqDiff, reduceCtorEq, Int.reduceAdd, Int.reduceSub, Int.reduceNeg, Int.reduceLE, Int.reduceLT, Int.reduceToNat, Int.reduceBEq, Int.reduceBNe, Int.reduceEq, Int.reduceNe, Int.toNat_zero, Int.toNat_one, bne_self_eq_false, Nat.reduceMul, Nat.zero_mul, Nat.mul_one, Nat.one_mul, Nat.reduceSub, Int.cast_ofNat_Int, Int.toNat_natCast]
    refine mtch (fun hc => ?_) (fun hc => ?_)
    · have hc : i < 5 := by simp at hc; omega
      have hx := ex_get u hc
      have hxb := ex_bd hu hc
      have hpl := posT_len u i (by omega)
      have hstep : posT u (i + 1) = if 0 < ex u i then (if posT u i = [] then [] else posT u i ++ [42]) ++ facT i (ex u i).toNat else posT u i := rfl
      have w1 : IntKind.i64.wrap ((i : Int) + 1) = ((i + 1 : Nat) : Int) := by rw [w64 (by omega) (by omega)]; omega
      generalize posT u i = L at *
      simp (config := { maxSteps := 2000000 }) only [go_sem, Nat.reduceBEq, Nat.reduceAdd, Nat.reduceLT, Nat.reduceLeDiff, Nat.reduceEqDiff, reduceCtorEq, Int.reduceAdd, Int.reduceSub, Int.reduceNeg, Int.reduceLE, Int.reduceLT, Int.reduceToNat, Int.reduceBEq, Int.reduceBNe, Int.reduceEq, Int.reduceNe, Int.toNat_zero, Int.toNat_one, bne_self_eq_false, Nat.reduceMul, Nat.zero_mul, Nat.mul_one, Nat.one_mul, Nat.reduceSub, Int.cast_ofNat_Int, Int.toNat_natCast, hx]
      refine ⟨⟨by omega, by omega⟩, ?_⟩
      refine mtch (fun hq => ?_) (fun hq => ?_)
      · have hq : 0 < ex u i := by simpa using hq
        obtain ⟨n, hn⟩ : ∃ n : Nat, ex u i = n := ⟨(ex u i).toNat, by omega⟩
        rw [if_pos hq] at hstep
        rw [hn] at hx hstep hxb hq
        simp only [hn]
        rw [Int.toNat_natCast] at hstep
        refine mtch (fun hl => ?_) (fun hl => ?_)
        · have hl : L ≠ [] := by rintro rfl; simp at hl
          have hs : posT u (i + 1) = (L ++ [42]) ++ facT i n := by rw [hstep, if_neg hl]
          refine ⟨by omega, ⟨by omega, by omega⟩, ?_⟩
          refine CallQ.pure 210 (rFactor i n hc (by omega) (by omega)) rfl ?_
          simp (config := { maxSteps := 2000000 }) only [go_sem, Nat.reduceBEq, Nat.reduceAdd, Nat.reduceLT, Nat.reduceLeDiff, Nat.reduceEqDiff, reduceCtorEq, Int.reduceAdd, Int.reduceSub, Int.reduceNeg, Int.reduceLE, Int.reduceLT, Int.reduceToNat, Int.reduceBEq, Int.reduceBNe, Int.reduceEq, Int.reduceNe, Int.toNat_zero, Int.toNat_one, bne_self_eq_false, Nat.reduceMul, Nat.zero_mul, Nat.mul_one, Nat.one_mul, Nat.reduceSub, Int.cast_ofNat_Int, Int.toNat_natCast, w1]
          refine ⟨by have := facT_len i n hc; simp; omega, ?_⟩
          refine hb _ _ ⟨i + 1, hc⟩ [(4, 4)] (by simp only; omega) ?_
          simp only [hs]
          exact ⟨rfl, trivial, ⟨rfl, rfl, rfl, trivial⟩, ⟨.inr ⟨_, rfl, .inl rfl⟩, trivial⟩⟩
        · have hl : L = [] := by cases L; rfl; simp at hl
          subst hl
          have hs : posT u (i + 1) = [] ++ facT i n := by rw [hstep]; rfl
          refine ⟨⟨by omega, by omega⟩, ?_⟩
          refine CallQ.pure 210 (rFactor i n hc (by omega) (by omega)) rfl ?_
          simp (config := { maxSteps := 2000000 }) only [go_sem, Nat.reduceBEq, Nat.reduceAdd, Nat.reduceLT, Nat.reduceLeDiff, Nat.reduceEqDiff, reduceCtorEq, Int.reduceAdd, Int.reduceSub, Int.reduceNeg, Int.reduceLE, Int.reduceLT, Int.reduceToNat, Int.reduceBEq, Int.reduceBNe, Int.reduceEq, Int.reduceNe, Int.toNat_zero, Int.toNat_one, bne_self_eq_false, Nat.reduceMul, Nat.zero_mul, Nat.mul_one, Nat.one_mul, Nat.reduceSub, Int.cast_ofNat_Int, Int.toNat_natCast, w1]
          refine ⟨by have := facT_len i n hc; simp; omega, ?_⟩
          refine hb _ _ ⟨i + 1, hc⟩ [(4, 4)] (by simp only; omega) ?_
          simp only [hs]
          exact ⟨rfl, trivial, ⟨rfl, rfl, rfl, trivial⟩, ⟨.inr ⟨_, rfl, .inl rfl⟩, trivial⟩⟩
      · have hq : ¬ 0 < ex u i := by simpa using hq
        have hs : posT u (i + 1) = L := by rw [hstep, if_neg hq]
        simp only [w1]
        refine hb _ _ ⟨i + 1, hc⟩ [(4, 4)] (by simp only; omega) ?_
        simp only [hs]
        exact ⟨rfl, trivial, ⟨rfl, rfl, rfl, trivial⟩, ⟨.inr ⟨_, rfl, .inl rfl⟩, trivial⟩⟩
    · have hc : i = 5 := by simp at hc; omega
      subst hc
      have hmid : midT u = if posT u 5 = [] then [49] else posT u 5 := rfl
      generalize posT u 5 = L at *
      refine mtch (fun hl => ?_) (fun hl => ?_)
      · have hl : L = [] := by cases L; rfl; simp at hl
        subst hl
        refine Sm.loopM (M0 := []) (α := { i : Nat // i ≤ 5 }) hP (fun i => [(3, true, slV 4 5), (4, true, S (negT u i.val)), (6, true, I i.val)]) (fun _ => [bL 4 u]) (fun i => 5 - i.val) ⟨0, by omega⟩ (fun _ => clL _ _) (fun _ => ClE.of rfl) [(4, 4)] ?_ ?_
        · have hs : negT u 0 = [49] := by show midT u = _; rw [hmid]; simp [hl]
          simp only [hs]
          exact ⟨rfl, trivial, ⟨rfl, rfl, rfl, trivial⟩, ⟨.inr ⟨_, rfl, .inl rfl⟩, trivial⟩⟩
        · rintro ⟨i, hi⟩ J hb
          simp only at hb hi ⊢
          refine Sm.go 300 ?_
          simp (config := { maxSteps := 2000000 }) only [go_sem, Nat.reduceBEq, Nat.reduceAdd, Nat.reduceLT, Nat.reduceLeDiff, Nat.reduceEqDiff, reduceCtorEq, Int.reduceAdd, Int.reduceSub, Int.reduceNeg, Int.reduceLE, Int.reduceLT, Int.reduceToNat, Int.reduceBEq, Int.reduceBNe, Int.reduceEq, Int.reduceNe, Int.toNat_zero, Int.toNat_one, bne_self_eq_false, Nat.reduceMul, Nat.zero_mul, Nat.mul_one, Nat.one_mul, Nat.reduceSub, Int.cast_ofNat_Int, Int.toNat_natCast]
          refine mtch (fun hc => ?_) (fun hc => ?_)
          · have hc : i < 5 := by simp at hc; omega
            have hx := ex_get u hc
            have hxb := ex_bd hu hc
            have hnl := negT_len u i (by omega)
            have hstep : negT u (i + 1) = if ex u i < 0 then (negT u i ++ [47]) ++ facT i (-ex u i).toNat else negT u i := rfl
            have w1 : IntKind.i64.wrap ((i : Int) + 1) = ((i + 1 : Nat) : Int) := by rw [w64 (by omega) (by omega)]; omega
            generalize negT u i = R at *
            simp (config := { maxSteps := 2000000 }) only [go_sem, Nat.reduceBEq, Nat.reduceAdd, Nat.reduceLT, Nat.reduceLeDiff, Nat.reduceEqDiff, reduceCtorEq, Int.reduceAdd, Int.reduceSub, Int.reduceNeg, Int.reduceLE, Int.reduceLT, Int.reduceToNat, Int.reduceBEq, Int.reduceBNe, Int.reduceEq, Int.reduceNe, Int.toNat_zero, Int.toNat_one, bne_self_eq_false, Nat.reduceMul, Nat.zero_mul, Nat.mul_one, Nat.one_mul, Nat.reduceSub, Int.cast_ofNat_Int, Int.toNat_natCast, hx]
            refine ⟨⟨by omega, by omega⟩, ?_⟩
            refine mtch (fun hq => ?_) (fun hq => ?_)
            · have hq : ex u i < 0 := by simpa using hq
              obtain ⟨n, hn⟩ : ∃ n : Nat, ex u i = -(n : Int) := ⟨(-ex u i).toNat, by omega⟩
              have hn2 : (-ex u i).toNat = n := by omega
              rw [if_pos hq, hn2] at hstep
              rw [hn] at hx hxb hq
              simp only [hn]
              have w2 : IntKind.i64.wrap (0 - -(n : Int)) = (n : Int) := by rw [w64 (by omega) (by omega)]; omega
              have hs : negT u (i + 1) = (R ++ [47]) ++ facT i n := hstep
              simp only [w2]
              refine ⟨by omega, ⟨by omega, by omega⟩, ?_⟩
              refine CallQ.pure 210 (rFactor i n hc (by omega) (by omega)) rfl ?_
              simp (config := { maxSteps := 2000000 }) only [go_sem, Nat.reduceBEq, Nat.reduceAdd, Nat.reduceLT, Nat.reduceLeDiff, Nat.reduceEqDiff, reduceCtorEq, Int.reduceAdd, Int.reduceSub, Int.reduceNeg, Int.reduceLE, Int.reduceLT, Int.reduceToNat, Int.reduceBEq, Int.reduceBNe, Int.reduceEq, Int.reduceNe, Int.toNat_zero, Int.toNat_one, bne_self_eq_false, Nat.reduceMul, Nat.zero_mul, Nat.mul_one, Nat.one_mul, Nat.reduceSub, Int.cast_ofNat_Int, Int.toNat_natCast, w1]
              refine ⟨by have := facT_len i n hc; simp; omega, ?_⟩
              refine hb _ _ ⟨i + 1, hc⟩ [(4, 4)] (by simp only; omega) ?_
              simp only [hs]
              exact ⟨rfl, trivial, ⟨rfl, rfl, rfl, trivial⟩, ⟨.inr ⟨_, rfl, .inl rfl⟩, trivial⟩⟩
            · have hq : ¬ ex u i < 0 := by simpa using hq
              have hs : negT u (i + 1) = R := by rw [hstep, if_neg hq]
              simp only [w1]
              refine hb _ _ ⟨i + 1, hc⟩ [(4, 4)] (by simp only; omega) ?_
              simp only [hs]
              exact ⟨rfl, trivial, ⟨rfl, rfl, rfl, trivial⟩, ⟨.inr ⟨_, rfl, .inl rfl⟩, trivial⟩⟩
          · have hc : i = 5 := by simp at hc; omega
            subst hc
            exact RetQ.of hR rfl ⟨rfl, trivial⟩ rfl (Sub.nil _) ClM.nil (ClV.of rfl)
      · have hl : L ≠ [] := by rintro rfl; simp at hl
        refine Sm.loopM (M0 := []) (α := { i : Nat // i ≤ 5 }) hP (fun i => [(3, true, slV 4 5), (4, true, S (negT u i.val)), (6, true, I i.val)]) (fun _ => [bL 4 u]) (fun i => 5 - i.val) ⟨0, by omega⟩ (fun _ => clL _ _) (fun _ => ClE.of rfl) [(4, 4)] ?_ ?_
        · have hs : negT u 0 = L := by show midT u = _; rw [hmid]; simp [hl]
          simp only [hs]
          exact ⟨rfl, trivial, ⟨rfl, rfl, rfl, trivial⟩, ⟨.inr ⟨_, rfl, .inl rfl⟩, trivial⟩⟩
        · rintro ⟨i, hi⟩ J hb
          simp only at hb hi ⊢
          refine Sm.go 300 ?_
          simp (config := { maxSteps := 2000000 }) only [go_sem, Nat.reduceBEq, Nat.reduceAdd, Nat.reduceLT, Nat.reduceLeDiff, Nat.reduceEqDiff, reduceCtorEq, Int.reduceAdd, Int.reduceSub, Int.reduceNeg, Int.reduceLE, Int.reduceLT, Int.reduceToNat, Int.reduceBEq, Int.reduceBNe, Int.reduceEq, Int.reduceNe, Int.toNat_zero, Int.toNat_one, bne_self_eq_false, Nat.reduceMul, Nat.zero_mul, Nat.mul_one, Nat.one_mul, Nat.reduceSub, Int.cast_ofNat_Int, Int.toNat_natCast]
          refine mtch (fun hc => ?_) (fun hc => ?_)
          · have hc : i < 5 := by simp at hc; omega
            have hx := ex_get u hc
            have hxb := ex_bd hu hc
            have hnl := negT_len u i (by omega)
            have hstep : negT u (i + 1) = if ex u i < 0 then (negT u i ++ [47]) ++ facT i (-ex u i).toNat else negT u i := rfl
            have w1 : IntKind.i64.wrap ((i : Int) + 1) = ((i + 1 : Nat) : Int) := by rw [w64 (by omega) (by omega)]; omega
            generalize negT u i = R at *
            simp (config := { maxSteps := 2000000 }) only [go_sem, Nat.reduceBEq, Nat.reduceAdd, Nat.reduceLT, Nat.reduceLeDiff, Nat.reduceEqDiff, reduceCtorEq, Int.reduceAdd, Int.reduceSub, Int.reduceNeg, Int.reduceLE, Int.reduceLT, Int.reduceToNat, Int.reduceBEq, Int.reduceBNe, Int.reduceEq, Int.reduceNe, Int.toNat_zero, Int.toNat_one, bne_self_eq_false, Nat.reduceMul, Nat.zero_mul, Nat.mul_one, Nat.one_mul, Nat.reduceSub, Int.cast_ofNat_Int, Int.toNat_natCast, hx]
            refine ⟨⟨by omega, by omega⟩, ?_⟩
            refine mtch (fun hq => ?_) (fun hq => ?_)
            · have hq : ex u i < 0 := by simpa using hq
              obtain ⟨n, hn⟩ : ∃ n : Nat, ex u i = -(n : Int) := ⟨(-ex u i).toNat, by omega⟩
              have hn2 : (-ex u i).toNat = n := by omega
              rw [if_pos hq, hn2] at hstep
              rw [hn] at hx hxb hq
              simp only [hn]
              have w2 : IntKind.i64.wrap (0 - -(n : Int)) = (n : Int) := by rw [w64 (by omega) (by omega)]; omega
              have hs : negT u (i + 1) = (R ++ [47]) ++ facT i n := hstep
              simp only [w2]
              refine ⟨by omega, ⟨by omega, by omega⟩, ?_⟩
              refine CallQ.pure 210 (rFactor i n hc (by omega) (by omega)) rfl ?_
              simp (config := { maxSteps := 2000000 }) only [go_sem, Nat.reduceBEq, Nat.reduceAdd, Nat.reduceLT, Nat.reduceLeDiff, Nat.reduceEqDiff, reduceCtorEq, Int.reduceAdd, Int.reduceSub, Int.reduceNeg, Int.reduceLE, Int.reduceLT, Int.reduceToNat, Int.reduceBEq, Int.reduceBNe, Int.reduceEq, Int.reduceNe, Int.toNat_zero, Int.toNat_one, bne_self_eq_false, Nat.reduceMul, Nat.zero_mul, Nat.mul_one, Nat.one_mul, Nat.reduceSub, Int.cast_ofNat_Int, Int.toNat_natCast, w1]
              refine ⟨by have := facT_len i n hc; simp; omega, ?_⟩
              refine hb _ _ ⟨i + 1, hc⟩ [(4, 4)] (by simp only; omega) ?_
              simp only [hs]
              exact ⟨rfl, trivial, ⟨rfl, rfl, rfl, trivial⟩, ⟨.inr ⟨_, rfl, .inl rfl⟩, trivial⟩⟩
            · have hq : ¬ ex u i < 0 := by simpa using hq
              have hs : negT u (i + 1) = R := by rw [hstep, if_neg hq]
              simp only [w1]
              refine hb _ _ ⟨i + 1, hc⟩ [(4, 4)] (by simp only; omega) ?_
              simp only [hs]
              exact ⟨rfl, trivial, ⟨rfl, rfl, rfl, trivial⟩, ⟨.inr ⟨_, rfl, .inl rfl⟩, trivial⟩⟩
          · have hc : i = 5 := by simp at hc; omega
            subst hc
            exact RetQ.of hR rfl ⟨rfl, trivial⟩ rfl (Sub.nil _) ClM.nil (ClV.of rfl)
end Go.Proofs.YtoioclmfjmgaaaaDoor.Fx
