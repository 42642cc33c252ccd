/- Frame: names. -/
import Derived.Test.YtcdclmelnnbdnaaA1
import Derived.Test.YtcdclmelnnbdnaaVn
namespace Go.Proofs.Ytcdclmelnnbdnaa
open Vg Tf
set_option linter.unusedSimpArgs false
set_option linter.unusedVariables false
set_option maxRecDepth 100000
set_option maxHeartbeats 2000000
abbrev at_ (s : ByteArray) (i : Nat) : Int := ((s.data.toList.getD i 0).toNat : Int)
theorem mtch {c : Bool} {A B : Prop} (ht : c = true → A) (hf : c = false → B) : (match (generalizing := false) c with | true => A | false => B) := by
  cases c
  · exact hf rfl
  · exact ht rfl
/-- The first i bytes are good ones. -/
def okTo (s : ByteArray) (i : Nat) : Prop := i ≤ s.data.toList.length ∧ ∀ j, j < i → isC (at_ s j) = true
theorem okTo_next {s : ByteArray} {i : Nat} (h : okTo s i) (hi : i < s.data.toList.length) (hc : isC (at_ s i) = true) : okTo s (i + 1) := by
  refine ⟨by omega, fun j hj => ?_⟩
  rcases Nat.lt_or_ge j i with h1 | h1
  · exact h.2 j h1
  · have : j = i := by omega
    subst this; exact hc
theorem nmok_all {s : ByteArray} (h : okTo s s.data.toList.length) (h1 : 1 ≤ s.data.toList.length ∧ s.data.toList.length ≤ 24) (h2 : isL (at_ s 0) = true) : nmok s.data.toList = true := by
  unfold nmok
  rw [tru_of h1, h2, Bool.true_and, Bool.true_and, List.all_eq_true]
  intro c hc
  obtain ⟨j, hj, rfl⟩ := List.getElem_of_mem hc
  have := h.2 j hj
  rwa [at_, List.getD_eq_getElem?_getD, List.getElem?_eq_getElem hj] at this
theorem nmok_no {s : ByteArray} {i : Nat} (hi : i < s.data.toList.length) (h : isC (at_ s i) = false) : nmok s.data.toList = false := by
  unfold nmok
  have : (s.data.toList.all fun c => isC (c.toNat : Int)) = false := by
    rw [List.all_eq_false]
    refine ⟨_, List.getElem_mem hi, ?_⟩
    rw [at_, List.getD_eq_getElem?_getD, List.getElem?_eq_getElem hi] at h
    simpa using h
  rw [this, Bool.and_false, Bool.and_false]
theorem nmok_no1 {s : ByteArray} (h : ¬ (1 ≤ s.data.toList.length ∧ s.data.toList.length ≤ 24)) : nmok s.data.toList = false := by
  unfold nmok; rw [fal_of h, Bool.false_and]
theorem nmok_no2 {s : ByteArray} (h : isL (at_ s 0) = false) : nmok s.data.toList = false := by
  unfold nmok; rw [h, Bool.false_and, Bool.and_false]
theorem nm_head {s : ByteArray} {b : Bool} (h : b = (!decide ((1 : Int) ≤ s.data.toList.length ∧ (s.data.toList.length : Int) ≤ 24))) (h2 : (bif b then true else !isL (at_ s 0)) = true) : nmok s.data.toList = false := by
  subst h
  by_cases h1 : (1 : Int) ≤ s.data.toList.length ∧ (s.data.toList.length : Int) ≤ 24
  · rw [tru_of h1] at h2
    exact nmok_no2 (by simpa using h2)
  · exact nmok_no1 (by omega)
theorem nm_head' {s : ByteArray} {b : Bool} (h : b = (!decide ((1 : Int) ≤ s.data.toList.length ∧ (s.data.toList.length : Int) ≤ 24))) (h2 : (bif b then true else !isL (at_ s 0)) = false) : (1 ≤ s.data.toList.length ∧ s.data.toList.length ≤ 24) ∧ isL (at_ s 0) = true := by
  subst h
  by_cases h1 : (1 : Int) ≤ s.data.toList.length ∧ (s.data.toList.length : Int) ≤ 24
  · rw [tru_of h1] at h2
    exact ⟨by omega, by simpa using h2⟩
  · rw [fal_of h1] at h2; simp at h2
/-- What a byte of a name must be, as the codes ask for it. -/
theorem isC_no {c : Int} {d : Bool} (hd : d = (bif decide (c < 48) then true else decide (57 < c))) : (bif (bif !isL c then d else false) then c != 95 else false) = !isC c := by
  subst hd
  rw [Bool.eq_iff_iff]
  unfold isC
  cases isL c
  · simp only [Bool.not_false, cond_true, Bool.cond_true_left, Bool.cond_false_right, Bool.and_eq_true, Bool.or_eq_true, decide_eq_true_eq, bne_iff_ne, Bool.false_or, Bool.not_eq_true', Bool.or_eq_false_iff, decide_eq_false_iff_not]
    omega
  · simp
theorem nm_or (n : Nat) : (bif decide ((n : Int) < 1) then true else decide (24 < (n : Int))) = (!decide ((1 : Int) ≤ n ∧ (n : Int) ≤ 24)) := by
  rw [Bool.eq_iff_iff]
  simp only [Bool.cond_true_left, Bool.or_eq_true, decide_eq_true_eq, Bool.not_eq_true', decide_eq_false_iff_not]
  omega
def nmE (s : ByteArray) (a b : Nat) (i : Int) : Env := [(0, true, St s), (a, true, .c (.v (.int .i64 s.data.toList.length))), (b, true, .c (.v (.int .i64 i)))]
theorem sname (s : ByteArray) (hs : s.data.toList.length ≤ 9223372036854775807) : CallOk Try.prog 65 [St s] [] (Bo (nmok s.data.toList)) [] := by
  refine CallOk.mkN 100 Try.func65 rfl en65 (by simp [Try.ntmps65]) (ClA.of rfl) rfl rfl fun C hR hP => ?_
  simp (config := { maxSteps := 2000000 }) only [go_sem, Nat.reduceBEq, Nat.reduceAdd, Nat.reduceLT, Nat.reduceLeDiff, Nat.reduceEqDiff, reduceCtorEq, Int.reduceAdd, Int.reduceSub, Int.reduceNeg, Int.reduceLE, Int.reduceLT, Int.reduceToNat, Int.reduceBEq, Int.reduceBNe, Int.reduceEq, Int.reduceNe, Int.toNat_zero, Int.toNat_one, bne_self_eq_false, Nat.reduceMul, Nat.zero_mul, Nat.mul_one, Nat.one_mul, Nat.reduceSub, Int.cast_ofNat_Int, Int.toNat_natCast]
  refine CallQ.pure 100 (sin s.data.toList.length 1 24) rfl ?_
  simp (config := { maxSteps := 2000000 }) only [go_sem, Nat.reduceBEq, Nat.reduceAdd, Nat.reduceLT, Nat.reduceLeDiff, Nat.reduceEqDiff, reduceCtorEq, Int.reduceAdd, Int.reduceSub, Int.reduceNeg, Int.reduceLE, Int.reduceLT, Int.reduceToNat, Int.reduceBEq, Int.reduceBNe, Int.reduceEq, Int.reduceNe, Int.toNat_zero, Int.toNat_one, bne_self_eq_false, Nat.reduceMul, Nat.zero_mul, Nat.mul_one, Nat.one_mul, Nat.reduceSub, Int.cast_ofNat_Int, Int.toNat_natCast]
  refine ⟨by simp; omega, ?_⟩
  refine CallQ.guard 100 (fun _ => sletter (at_ s 0)) (fun h => by rw [h]; rfl) ?_
  simp (config := { maxSteps := 2000000 }) only [go_sem, Nat.reduceBEq, Nat.reduceAdd, Nat.reduceLT, Nat.reduceLeDiff, Nat.reduceEqDiff, reduceCtorEq, Int.reduceAdd, Int.reduceSub, Int.reduceNeg, Int.reduceLE, Int.reduceLT, Int.reduceToNat, Int.reduceBEq, Int.reduceBNe, Int.reduceEq, Int.reduceNe, Int.toNat_zero, Int.toNat_one, bne_self_eq_false, Nat.reduceMul, Nat.zero_mul, Nat.mul_one, Nat.one_mul, Nat.reduceSub, Int.cast_ofNat_Int, Int.toNat_natCast]
  refine mtch (fun h => ?_) (fun h => ?_)
  · exact RetQ.bool hR rfl ⟨rfl, trivial⟩ (nm_head rfl h).symm
  · obtain ⟨h1, h2⟩ := nm_head' rfl h
    refine Sm.loopM (M0 := []) (α := { i : Nat // okTo s i }) hP (fun n => [(0, true, St s), (16, true, I s.data.toList.length), (17, true, I n.val)]) (fun _ => []) (fun n => s.data.toList.length - n.val) ⟨0, by omega, fun j hj => by omega⟩ (fun _ => ClM.of rfl) (fun _ => ClE.of rfl) [] ?_ ?_
    · exact ⟨rfl, trivial, ⟨rfl, rfl, rfl, trivial⟩, trivial⟩
    · rintro ⟨i, hi⟩ J hb
      simp only at hb ⊢
      refine Sm.go 120 ?_
      simp (config := { maxSteps := 2000000 }) only [go_sem, Nat.reduceBEq, Nat.reduceAdd, Nat.reduceLT, Nat.reduceLeDiff, Nat.reduceEqDiff, reduceCtorEq, Int.reduceAdd, Int.reduceSub, Int.reduceNeg, Int.reduceLE, Int.reduceLT, Int.reduceToNat, Int.reduceBEq, Int.reduceBNe, Int.reduceEq, Int.reduceNe, Int.toNat_zero, Int.toNat_one, bne_self_eq_false, Nat.reduceMul, Nat.zero_mul, Nat.mul_one, Nat.one_mul, Nat.reduceSub, Int.cast_ofNat_Int, Int.toNat_natCast]
      refine mtch (fun hc => ?_) (fun hc => ?_)
      · have hc : i < s.data.toList.length := by simpa using hc
        refine ⟨by omega, ?_⟩
        refine CallQ.pure 100 (sletter (at_ s i)) rfl ?_
        simp (config := { maxSteps := 2000000 }) only [go_sem, Nat.reduceBEq, Nat.reduceAdd, Nat.reduceLT, Nat.reduceLeDiff, Nat.reduceEqDiff, reduceCtorEq, Int.reduceAdd, Int.reduceSub, Int.reduceNeg, Int.reduceLE, Int.reduceLT, Int.reduceToNat, Int.reduceBEq, Int.reduceBNe, Int.reduceEq, Int.reduceNe, Int.toNat_zero, Int.toNat_one, bne_self_eq_false, Nat.reduceMul, Nat.zero_mul, Nat.mul_one, Nat.one_mul, Nat.reduceSub, Int.cast_ofNat_Int, Int.toNat_natCast]
        refine ⟨by intros; simp_all, ?_⟩
        refine mtch (fun hd => ?_) (fun hd => ?_)
        · exact RetQ.bool hR rfl ⟨rfl, trivial⟩ (nmok_no hc (by rw [isC_no rfl] at hd; simpa using hd)).symm
        · have wi : IntKind.i64.wrap ((i : Int) + 1) = ((i + 1 : Nat) : Int) := by rw [w64 (by omega) (by omega)]; omega
          rw [isC_no rfl] at hd
          simp only [wi]
          exact hb _ _ ⟨i + 1, okTo_next hi hc (by simpa using hd)⟩ [] (by simp only; omega) ⟨rfl, trivial, ⟨rfl, rfl, rfl, trivial⟩, trivial⟩
      · have hc : ¬ i < s.data.toList.length := by simpa using hc
        have hl : i = s.data.toList.length := by have := hi.1; omega
        subst hl
        exact RetQ.bool hR rfl ⟨rfl, trivial⟩ (nmok_all hi h1 h2).symm
theorem fname (s : ByteArray) (hs : s.data.toList.length ≤ 9223372036854775807) : CallOk Try.prog 69 [St s] [] (Bo (nmok s.data.toList)) [] := by
  refine CallOk.mkN 100 Try.func69 rfl en69 (by simp [Try.ntmps69]) (ClA.of rfl) rfl rfl fun C hR hP => ?_
  simp (config := { maxSteps := 2000000 }) only [go_sem, Nat.reduceBEq, Nat.reduceAdd, Nat.reduceLT, Nat.reduceLeDiff, Nat.reduceEqDiff, reduceCtorEq, Int.reduceAdd, Int.reduceSub, Int.reduceNeg, Int.reduceLE, Int.reduceLT, Int.reduceToNat, Int.reduceBEq, Int.reduceBNe, Int.reduceEq, Int.reduceNe, Int.toNat_zero, Int.toNat_one, bne_self_eq_false, Nat.reduceMul, Nat.zero_mul, Nat.mul_one, Nat.one_mul, Nat.reduceSub, Int.cast_ofNat_Int, Int.toNat_natCast]
  refine ⟨fun h => ⟨h, by rw [nm_or, Bool.not_eq_false', decide_eq_true_eq] at h; omega⟩, ?_⟩
  refine CallQ.guard 100 (fun _ => fletter (at_ s 0)) (fun h => by rw [h]; rfl) ?_
  simp (config := { maxSteps := 2000000 }) only [go_sem, Nat.reduceBEq, Nat.reduceAdd, Nat.reduceLT, Nat.reduceLeDiff, Nat.reduceEqDiff, reduceCtorEq, Int.reduceAdd, Int.reduceSub, Int.reduceNeg, Int.reduceLE, Int.reduceLT, Int.reduceToNat, Int.reduceBEq, Int.reduceBNe, Int.reduceEq, Int.reduceNe, Int.toNat_zero, Int.toNat_one, bne_self_eq_false, Nat.reduceMul, Nat.zero_mul, Nat.mul_one, Nat.one_mul, Nat.reduceSub, Int.cast_ofNat_Int, Int.toNat_natCast]
  refine mtch (fun h => ?_) (fun h => ?_)
  · exact RetQ.bool hR rfl ⟨rfl, trivial⟩ (nm_head (nm_or _) h).symm
  · obtain ⟨h1, h2⟩ := nm_head' (nm_or _) h
    refine Sm.loopM (M0 := []) (α := { i : Nat // okTo s i }) hP (fun n => [(0, true, St s), (20, true, I s.data.toList.length), (21, true, I n.val)]) (fun _ => []) (fun n => s.data.toList.length - n.val) ⟨0, by omega, fun j hj => by omega⟩ (fun _ => ClM.of rfl) (fun _ => ClE.of rfl) [] ?_ ?_
    · exact ⟨rfl, trivial, ⟨rfl, rfl, rfl, trivial⟩, trivial⟩
    · rintro ⟨i, hi⟩ J hb
      simp only at hb ⊢
      refine Sm.go 120 ?_
      simp (config := { maxSteps := 2000000 }) only [go_sem, Nat.reduceBEq, Nat.reduceAdd, Nat.reduceLT, Nat.reduceLeDiff, Nat.reduceEqDiff, reduceCtorEq, Int.reduceAdd, Int.reduceSub, Int.reduceNeg, Int.reduceLE, Int.reduceLT, Int.reduceToNat, Int.reduceBEq, Int.reduceBNe, Int.reduceEq, Int.reduceNe, Int.toNat_zero, Int.toNat_one, bne_self_eq_false, Nat.reduceMul, Nat.zero_mul, Nat.mul_one, Nat.one_mul, Nat.reduceSub, Int.cast_ofNat_Int, Int.toNat_natCast]
      refine mtch (fun hc => ?_) (fun hc => ?_)
      · have hc : i < s.data.toList.length := by simpa using hc
        refine ⟨by omega, ?_⟩
        refine CallQ.pure 100 (fletter (at_ s i)) rfl ?_
        simp (config := { maxSteps := 2000000 }) only [go_sem, Nat.reduceBEq, Nat.reduceAdd, Nat.reduceLT, Nat.reduceLeDiff, Nat.reduceEqDiff, reduceCtorEq, Int.reduceAdd, Int.reduceSub, Int.reduceNeg, Int.reduceLE, Int.reduceLT, Int.reduceToNat, Int.reduceBEq, Int.reduceBNe, Int.reduceEq, Int.reduceNe, Int.toNat_zero, Int.toNat_one, bne_self_eq_false, Nat.reduceMul, Nat.zero_mul, Nat.mul_one, Nat.one_mul, Nat.reduceSub, Int.cast_ofNat_Int, Int.toNat_natCast]
        refine ⟨by intros; simp_all, ?_⟩
        refine mtch (fun hd => ?_) (fun hd => ?_)
        · exact RetQ.bool hR rfl ⟨rfl, trivial⟩ (nmok_no hc (by rw [isC_no rfl] at hd; simpa using hd)).symm
        · have wi : IntKind.i64.wrap ((i : Int) + 1) = ((i + 1 : Nat) : Int) := by rw [w64 (by omega) (by omega)]; omega
          rw [isC_no rfl] at hd
          simp only [wi]
          exact hb _ _ ⟨i + 1, okTo_next hi hc (by simpa using hd)⟩ [] (by simp only; omega) ⟨rfl, trivial, ⟨rfl, rfl, rfl, trivial⟩, trivial⟩
      · have hc : ¬ i < s.data.toList.length := by simpa using hc
        have hl : i = s.data.toList.length := by have := hi.1; omega
        subst hl
        exact RetQ.bool hR rfl ⟨rfl, trivial⟩ (nmok_all hi h1 h2).symm
theorem rC (c : Int) (h0 : 0 ≤ c) : (bif (bif !isL c then !decide (48 ≤ c ∧ c ≤ 57) else false) then c != 95 else false) = !isC c := by
  refine isC_no ?_
  rw [Bool.eq_iff_iff]
  simp only [Bool.cond_true_left, Bool.or_eq_true, decide_eq_true_eq, Bool.not_eq_true', decide_eq_false_iff_not]
  omega
theorem rname (s : ByteArray) (hs : s.data.toList.length ≤ 9223372036854775807) : CallOk Try.prog 81 [St s] [] (Bo (nmok s.data.toList)) [] := by
  refine CallOk.mkN 100 Try.func81 rfl en81 (by simp [Try.ntmps81]) (ClA.of rfl) rfl rfl fun C hR hP => ?_
  simp (config := { maxSteps := 2000000 }) only [go_sem, Nat.reduceBEq, Nat.reduceAdd, Nat.reduceLT, Nat.reduceLeDiff, Nat.reduceEqDiff, reduceCtorEq, Int.reduceAdd, Int.reduceSub, Int.reduceNeg, Int.reduceLE, Int.reduceLT, Int.reduceToNat, Int.reduceBEq, Int.reduceBNe, Int.reduceEq, Int.reduceNe, Int.toNat_zero, Int.toNat_one, bne_self_eq_false, Nat.reduceMul, Nat.zero_mul, Nat.mul_one, Nat.one_mul, Nat.reduceSub, Int.cast_ofNat_Int, Int.toNat_natCast]
  refine ⟨fun h => ⟨h, by rw [nm_or, Bool.not_eq_false', decide_eq_true_eq] at h; omega⟩, ?_⟩
  refine CallQ.guard 100 (fun _ => rletter (at_ s 0)) (fun h => by rw [h]; rfl) ?_
  simp (config := { maxSteps := 2000000 }) only [go_sem, Nat.reduceBEq, Nat.reduceAdd, Nat.reduceLT, Nat.reduceLeDiff, Nat.reduceEqDiff, reduceCtorEq, Int.reduceAdd, Int.reduceSub, Int.reduceNeg, Int.reduceLE, Int.reduceLT, Int.reduceToNat, Int.reduceBEq, Int.reduceBNe, Int.reduceEq, Int.reduceNe, Int.toNat_zero, Int.toNat_one, bne_self_eq_false, Nat.reduceMul, Nat.zero_mul, Nat.mul_one, Nat.one_mul, Nat.reduceSub, Int.cast_ofNat_Int, Int.toNat_natCast]
  refine mtch (fun h => ?_) (fun h => ?_)
  · exact RetQ.bool hR rfl ⟨rfl, trivial⟩ (nm_head (nm_or _) h).symm
  · obtain ⟨h1, h2⟩ := nm_head' (nm_or _) h
    refine Sm.loopM (M0 := []) (α := { i : Nat // okTo s i }) hP (fun n => [(0, true, St s), (3, true, I n.val)]) (fun _ => []) (fun n => s.data.toList.length - n.val) ⟨0, by omega, fun j hj => by omega⟩ (fun _ => ClM.of rfl) (fun _ => ClE.of rfl) [] ?_ ?_
    · exact ⟨rfl, trivial, ⟨rfl, rfl, trivial⟩, trivial⟩
    · rintro ⟨i, hi⟩ J hb
      simp only at hb ⊢
      refine Sm.go 120 ?_
      simp (config := { maxSteps := 2000000 }) only [go_sem, Nat.reduceBEq, Nat.reduceAdd, Nat.reduceLT, Nat.reduceLeDiff, Nat.reduceEqDiff, reduceCtorEq, Int.reduceAdd, Int.reduceSub, Int.reduceNeg, Int.reduceLE, Int.reduceLT, Int.reduceToNat, Int.reduceBEq, Int.reduceBNe, Int.reduceEq, Int.reduceNe, Int.toNat_zero, Int.toNat_one, bne_self_eq_false, Nat.reduceMul, Nat.zero_mul, Nat.mul_one, Nat.one_mul, Nat.reduceSub, Int.cast_ofNat_Int, Int.toNat_natCast]
      refine mtch (fun hc => ?_) (fun hc => ?_)
      · have hc : i < s.data.toList.length := by simpa using hc
        refine ⟨by omega, ?_⟩
        refine CallQ.pure 100 (rletter (at_ s i)) rfl ?_
        simp (config := { maxSteps := 2000000 }) only [go_sem, Nat.reduceBEq, Nat.reduceAdd, Nat.reduceLT, Nat.reduceLeDiff, Nat.reduceEqDiff, reduceCtorEq, Int.reduceAdd, Int.reduceSub, Int.reduceNeg, Int.reduceLE, Int.reduceLT, Int.reduceToNat, Int.reduceBEq, Int.reduceBNe, Int.reduceEq, Int.reduceNe, Int.toNat_zero, Int.toNat_one, bne_self_eq_false, Nat.reduceMul, Nat.zero_mul, Nat.mul_one, Nat.one_mul, Nat.reduceSub, Int.cast_ofNat_Int, Int.toNat_natCast]
        refine ⟨by intro h; simp only [h, true_and]; omega, ?_⟩
        refine CallQ.guard 100 (fun _ => rdigit (at_ s i)) (fun h => by rw [h]; rfl) ?_
        simp (config := { maxSteps := 2000000 }) only [go_sem, Nat.reduceBEq, Nat.reduceAdd, Nat.reduceLT, Nat.reduceLeDiff, Nat.reduceEqDiff, reduceCtorEq, Int.reduceAdd, Int.reduceSub, Int.reduceNeg, Int.reduceLE, Int.reduceLT, Int.reduceToNat, Int.reduceBEq, Int.reduceBNe, Int.reduceEq, Int.reduceNe, Int.toNat_zero, Int.toNat_one, bne_self_eq_false, Nat.reduceMul, Nat.zero_mul, Nat.mul_one, Nat.one_mul, Nat.reduceSub, Int.cast_ofNat_Int, Int.toNat_natCast]
        refine ⟨by intro h; simp only [h, true_and]; omega, ?_⟩
        refine mtch (fun hd => ?_) (fun hd => ?_)
        · exact RetQ.bool hR rfl ⟨rfl, trivial⟩ (nmok_no hc (by rw [rC _ (Int.natCast_nonneg _)] at hd; simpa only [Bool.not_eq_true'] using hd)).symm
        · have wi : IntKind.i64.wrap ((i : Int) + 1) = ((i + 1 : Nat) : Int) := by rw [w64 (by omega) (by omega)]; omega
          rw [rC _ (Int.natCast_nonneg _)] at hd
          simp only [wi]
          exact hb _ _ ⟨i + 1, okTo_next hi hc (by simpa only [Bool.not_eq_false'] using hd)⟩ [] (by simp only; omega) ⟨rfl, trivial, ⟨rfl, rfl, trivial⟩, trivial⟩
      · have hc : ¬ i < s.data.toList.length := by simpa using hc
        have hl : i = s.data.toList.length := by have := hi.1; omega
        subst hl
        exact RetQ.bool hR rfl ⟨rfl, trivial⟩ (nmok_all hi h1 h2).symm
end Go.Proofs.Ytcdclmelnnbdnaa
