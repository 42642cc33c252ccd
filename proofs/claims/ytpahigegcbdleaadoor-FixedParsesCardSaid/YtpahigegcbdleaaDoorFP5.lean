/- The law FixedParses. -/
import Derived.Test.YtpahigegcbdleaaDoorFP4
namespace Go.Proofs.YtpahigegcbdleaaDoor.Fx
open Vg Tf
set_option linter.unusedSimpArgs false
set_option linter.unusedVariables false
set_option maxRecDepth 100000
set_option maxHeartbeats 4000000
theorem fin_big {t : Ft} {x : Int} (h : fok t = true) (hx : 274877906944 ≤ x ∨ x ≤ -274877906944) : fin t x = false := by
  have hb := flo_bd t h
  rw [fin_dec, decide_eq_false_iff_not]
  omega
theorem law_parses (t : Ft) (l : List UInt8) : CallG gsT Tryd.prog 12 [fx t, S l] (Bo true) := by
  refine CallG.mk 100 Tryd.func12 rfl en12 (by simp [Tryd.ntmps12]) (ClA.of rfl) fun C hR hP hG => ?_
  simp (config := { maxSteps := 2000000 }) only [go_sem, Nat.reduceBEq, Nat.reduceAdd, Nat.reduceLT, Nat.reduceLeDiff, Nat.reduceEqDiff, reduceCtorEq, Int.reduceAdd, Int.reduceSub, Int.reduceNeg, Int.reduceLE, Int.reduceLT, Int.reduceToNat, Int.reduceBEq, Int.reduceBNe, Int.reduceEq, Int.reduceNe, Int.toNat_zero, Int.toNat_one, bne_self_eq_false, Nat.reduceMul, Nat.zero_mul, Nat.mul_one, Nat.one_mul, Nat.reduceSub, Int.cast_ofNat_Int, Int.toNat_natCast]
  refine CallQ.pure 110 awake rfl ?_
  simp (config := { maxSteps := 2000000 }) only [go_sem, Nat.reduceBEq, Nat.reduceAdd, Nat.reduceLT, Nat.reduceLeDiff, Nat.reduceEqDiff, reduceCtorEq, Int.reduceAdd, Int.reduceSub, Int.reduceNeg, Int.reduceLE, Int.reduceLT, Int.reduceToNat, Int.reduceBEq, Int.reduceBNe, Int.reduceEq, Int.reduceNe, Int.toNat_zero, Int.toNat_one, bne_self_eq_false, Nat.reduceMul, Nat.zero_mul, Nat.mul_one, Nat.one_mul, Nat.reduceSub, Int.cast_ofNat_Int, Int.toNat_natCast]
  refine mtch (fun h => ?_) (fun h => ?_)
  · exact RetQ.bool hR rfl ⟨rfl, trivial⟩ rfl
  have h200 : l.length ≤ 200 := by have := of_decide_eq_false h; omega
  refine CallQ.ofG 120 hG (fparse_ t l (by omega)) rfl rfl rfl ?_
  simp (config := { maxSteps := 2000000 }) only [go_sem, Nat.reduceBEq, Nat.reduceAdd, Nat.reduceLT, Nat.reduceLeDiff, Nat.reduceEqDiff, reduceCtorEq, Int.reduceAdd, Int.reduceSub, Int.reduceNeg, Int.reduceLE, Int.reduceLT, Int.reduceToNat, Int.reduceBEq, Int.reduceBNe, Int.reduceEq, Int.reduceNe, Int.toNat_zero, Int.toNat_one, bne_self_eq_false, Nat.reduceMul, Nat.zero_mul, Nat.mul_one, Nat.one_mul, Nat.reduceSub, Int.cast_ofNat_Int, Int.toNat_natCast]
  refine CallQ.pure 130 (rvalid t) rfl ?_
  simp (config := { maxSteps := 2000000 }) only [go_sem, Nat.reduceBEq, Nat.reduceAdd, Nat.reduceLT, Nat.reduceLeDiff, Nat.reduceEqDiff, reduceCtorEq, Int.reduceAdd, Int.reduceSub, Int.reduceNeg, Int.reduceLE, Int.reduceLT, Int.reduceToNat, Int.reduceBEq, Int.reduceBNe, Int.reduceEq, Int.reduceNe, Int.toNat_zero, Int.toNat_one, bne_self_eq_false, Nat.reduceMul, Nat.zero_mul, Nat.mul_one, Nat.one_mul, Nat.reduceSub, Int.cast_ofNat_Int, Int.toNat_natCast]
  have hpp : ppF t l = if fok t = false then (0, 1) else
    if (dcR (cutB 32 l).1).2.2 = false then (0, 3) else
    if ((cutB 32 l).2.2 == ueq (unF t) u0) = true then (0, 3) else
    if (cutB 32 l).2.2 = true ∧ (prs (cutB 32 l).2.1).2 ≠ 0 then (0, 3) else
    if (cutB 32 l).2.2 = true ∧ ueq (prs (cutB 32 l).2.1).1 (unF t) = false then (0, 12) else
    (bif fin t (exV t (dcR (cutB 32 l).1).1 (dcR (cutB 32 l).1).2.1 3) then exV t (dcR (cutB 32 l).1).1 (dcR (cutB 32 l).1).2.1 3 else 0, bif fin t (exV t (dcR (cutB 32 l).1).1 (dcR (cutB 32 l).1).2.1 3) then 0 else 2) := rfl
  have hcl := cutB_len 32 l
  have hsc := sCut l 32 (by omega)
  generalize ppF t l = pp at *
  generalize cutB 32 l = q at *
  obtain ⟨a, c, h⟩ := q
  simp only at hpp hcl hsc
  have hda := rDec_ a
  have hrok := dcR_rok (s := a)
  generalize dcR a = q at *
  obtain ⟨n, d, ok⟩ := q
  simp only at hpp hda hrok
  have hpc := parse_ c (by omega)
  generalize prs c = q at *
  obtain ⟨u, e⟩ := q
  simp only at hpp hpc
  cases hk : fok t with
  | false =>
    rw [if_pos hk] at hpp
    subst hpp
    simp (config := { maxSteps := 2000000 }) only [go_sem, Nat.reduceBEq, Nat.reduceAdd, Nat.reduceLT, Nat.reduceLeDiff, Nat.reduceEqDiff, reduceCtorEq, Int.reduceAdd, Int.reduceSub, Int.reduceNeg, Int.reduceLE, Int.reduceLT, Int.reduceToNat, Int.reduceBEq, Int.reduceBNe, Int.reduceEq, Int.reduceNe, Int.toNat_zero, Int.toNat_one, bne_self_eq_false, Nat.reduceMul, Nat.zero_mul, Nat.mul_one, Nat.one_mul, Nat.reduceSub, Int.cast_ofNat_Int, Int.toNat_natCast]
    exact RetQ.bool hR rfl ⟨rfl, trivial⟩ (by simp)
  | true =>
  rw [if_neg (by rw [hk]; decide)] at hpp
  simp (config := { maxSteps := 2000000 }) only [go_sem, Nat.reduceBEq, Nat.reduceAdd, Nat.reduceLT, Nat.reduceLeDiff, Nat.reduceEqDiff, reduceCtorEq, Int.reduceAdd, Int.reduceSub, Int.reduceNeg, Int.reduceLE, Int.reduceLT, Int.reduceToNat, Int.reduceBEq, Int.reduceBNe, Int.reduceEq, Int.reduceNe, Int.toNat_zero, Int.toNat_one, bne_self_eq_false, Nat.reduceMul, Nat.zero_mul, Nat.mul_one, Nat.one_mul, Nat.reduceSub, Int.cast_ofNat_Int, Int.toNat_natCast]
  refine CallQ.pure 140 hsc rfl ?_
  simp (config := { maxSteps := 2000000 }) only [go_sem, Nat.reduceBEq, Nat.reduceAdd, Nat.reduceLT, Nat.reduceLeDiff, Nat.reduceEqDiff, reduceCtorEq, Int.reduceAdd, Int.reduceSub, Int.reduceNeg, Int.reduceLE, Int.reduceLT, Int.reduceToNat, Int.reduceBEq, Int.reduceBNe, Int.reduceEq, Int.reduceNe, Int.toNat_zero, Int.toNat_one, bne_self_eq_false, Nat.reduceMul, Nat.zero_mul, Nat.mul_one, Nat.one_mul, Nat.reduceSub, Int.cast_ofNat_Int, Int.toNat_natCast]
  refine CallQ.pure 150 hda rfl ?_
  simp (config := { maxSteps := 2000000 }) only [go_sem, Nat.reduceBEq, Nat.reduceAdd, Nat.reduceLT, Nat.reduceLeDiff, Nat.reduceEqDiff, reduceCtorEq, Int.reduceAdd, Int.reduceSub, Int.reduceNeg, Int.reduceLE, Int.reduceLT, Int.reduceToNat, Int.reduceBEq, Int.reduceBNe, Int.reduceEq, Int.reduceNe, Int.toNat_zero, Int.toNat_one, bne_self_eq_false, Nat.reduceMul, Nat.zero_mul, Nat.mul_one, Nat.one_mul, Nat.reduceSub, Int.cast_ofNat_Int, Int.toNat_natCast]
  refine CallQ.pure 160 hpc rfl ?_
  simp (config := { maxSteps := 2000000 }) only [go_sem, Nat.reduceBEq, Nat.reduceAdd, Nat.reduceLT, Nat.reduceLeDiff, Nat.reduceEqDiff, reduceCtorEq, Int.reduceAdd, Int.reduceSub, Int.reduceNeg, Int.reduceLE, Int.reduceLT, Int.reduceToNat, Int.reduceBEq, Int.reduceBNe, Int.reduceEq, Int.reduceNe, Int.toNat_zero, Int.toNat_one, bne_self_eq_false, Nat.reduceMul, Nat.zero_mul, Nat.mul_one, Nat.one_mul, Nat.reduceSub, Int.cast_ofNat_Int, Int.toNat_natCast]
  have hq1 : (t.m == 0 && (t.kg == 0 && (t.s == 0 && (t.a == 0 && t.k == 0)))) = ueq (unF t) u0 := rfl
  simp only [hq1]
  have hq2 : (u.m == t.m && (u.kg == t.kg && (u.s == t.s && (u.a == t.a && u.k == t.k)))) = ueq u (unF t) := rfl
  simp only [hq2]
  clear hq1 hq2
  generalize ueq (unF t) u0 = z at *
  generalize ueq u (unF t) = v at *
  refine ⟨fun x => ⟨x, fun y => by rw [x, y]; rfl⟩, ?_⟩
  cases ok with
  | false =>
    rw [if_pos rfl] at hpp
    subst hpp
    simp (config := { maxSteps := 2000000 }) only [go_sem, Nat.reduceBEq, Nat.reduceAdd, Nat.reduceLT, Nat.reduceLeDiff, Nat.reduceEqDiff, reduceCtorEq, Int.reduceAdd, Int.reduceSub, Int.reduceNeg, Int.reduceLE, Int.reduceLT, Int.reduceToNat, Int.reduceBEq, Int.reduceBNe, Int.reduceEq, Int.reduceNe, Int.toNat_zero, Int.toNat_one, bne_self_eq_false, Nat.reduceMul, Nat.zero_mul, Nat.mul_one, Nat.one_mul, Nat.reduceSub, Int.cast_ofNat_Int, Int.toNat_natCast]
    exact RetQ.bool hR rfl ⟨rfl, trivial⟩ (by simp)
  | true =>
  rw [if_neg (by decide)] at hpp
  obtain ⟨r, ok2, hex, hER⟩ := rexact t n d 3 hk (hrok rfl) (by omega) (by omega)
  clear hda hpc hsc hrok
  refine mtch (fun hq => ?_) (fun hq => ?_)
  · have hp : pp = (0, 3) := by
      cases h <;> cases z <;> simp_all
    clear hpp
    subst hp
    exact RetQ.bool hR rfl ⟨rfl, trivial⟩ (by simp)
  have hz : ¬ (h == z) = true ∧ ¬ (h = true ∧ e ≠ 0) := by
    clear hpp
    cases h <;> cases z <;> simp_all
  rw [if_neg hz.1, if_neg hz.2] at hpp
  refine mtch (fun hv => ?_) (fun hv => ?_)
  · have hp : pp = (0, 12) := by
      cases h <;> cases v <;> simp_all
    clear hpp
    subst hp
    exact RetQ.bool hR rfl ⟨rfl, trivial⟩ (by simp)
  have hv : ¬ (h = true ∧ v = false) := by
    cases h <;> cases v <;> simp_all
  rw [if_neg hv] at hpp
  refine CallQ.pure 170 hex rfl ?_
  simp (config := { maxSteps := 2000000 }) only [go_sem, Nat.reduceBEq, Nat.reduceAdd, Nat.reduceLT, Nat.reduceLeDiff, Nat.reduceEqDiff, reduceCtorEq, Int.reduceAdd, Int.reduceSub, Int.reduceNeg, Int.reduceLE, Int.reduceLT, Int.reduceToNat, Int.reduceBEq, Int.reduceBNe, Int.reduceEq, Int.reduceNe, Int.toNat_zero, Int.toNat_one, bne_self_eq_false, Nat.reduceMul, Nat.zero_mul, Nat.mul_one, Nat.one_mul, Nat.reduceSub, Int.cast_ofNat_Int, Int.toNat_natCast]
  refine CallQ.guard 180 (fun _ => rwithin t r hk) (fun h => by rw [h]; rfl) ?_
  rcases hER with ⟨rfl, rfl⟩ | ⟨rfl, rfl, hb⟩ | ⟨rfl, rfl, hb⟩
  · cases hf : fin t (exV t n d 3) with
    | false =>
      rw [hf] at hpp
      have hp : pp = (0, 2) := hpp
      clear hpp
      subst hp
      simp (config := { maxSteps := 2000000 }) only [go_sem, Nat.reduceBEq, Nat.reduceAdd, Nat.reduceLT, Nat.reduceLeDiff, Nat.reduceEqDiff, reduceCtorEq, Int.reduceAdd, Int.reduceSub, Int.reduceNeg, Int.reduceLE, Int.reduceLT, Int.reduceToNat, Int.reduceBEq, Int.reduceBNe, Int.reduceEq, Int.reduceNe, Int.toNat_zero, Int.toNat_one, bne_self_eq_false, Nat.reduceMul, Nat.zero_mul, Nat.mul_one, Nat.one_mul, Nat.reduceSub, Int.cast_ofNat_Int, Int.toNat_natCast]
      exact RetQ.bool hR rfl ⟨rfl, trivial⟩ (by simp)
    | true =>
      rw [hf] at hpp
      have hp : pp = (exV t n d 3, 0) := hpp
      clear hpp
      subst hp
      simp (config := { maxSteps := 2000000 }) only [go_sem, Nat.reduceBEq, Nat.reduceAdd, Nat.reduceLT, Nat.reduceLeDiff, Nat.reduceEqDiff, reduceCtorEq, Int.reduceAdd, Int.reduceSub, Int.reduceNeg, Int.reduceLE, Int.reduceLT, Int.reduceToNat, Int.reduceBEq, Int.reduceBNe, Int.reduceEq, Int.reduceNe, Int.toNat_zero, Int.toNat_one, bne_self_eq_false, Nat.reduceMul, Nat.zero_mul, Nat.mul_one, Nat.one_mul, Nat.reduceSub, Int.cast_ofNat_Int, Int.toNat_natCast, beq_self_eq_true]
      exact RetQ.bool hR rfl ⟨rfl, trivial⟩ (by simp)
  · rw [fin_big hk (.inl hb)] at hpp
    have hp : pp = (0, 2) := hpp
    clear hpp
    subst hp
    simp (config := { maxSteps := 2000000 }) only [go_sem, Nat.reduceBEq, Nat.reduceAdd, Nat.reduceLT, Nat.reduceLeDiff, Nat.reduceEqDiff, reduceCtorEq, Int.reduceAdd, Int.reduceSub, Int.reduceNeg, Int.reduceLE, Int.reduceLT, Int.reduceToNat, Int.reduceBEq, Int.reduceBNe, Int.reduceEq, Int.reduceNe, Int.toNat_zero, Int.toNat_one, bne_self_eq_false, Nat.reduceMul, Nat.zero_mul, Nat.mul_one, Nat.one_mul, Nat.reduceSub, Int.cast_ofNat_Int, Int.toNat_natCast]
    exact RetQ.bool hR rfl ⟨rfl, trivial⟩ (by simp)
  · rw [fin_big hk (.inr hb)] at hpp
    have hp : pp = (0, 2) := hpp
    clear hpp
    subst hp
    simp (config := { maxSteps := 2000000 }) only [go_sem, Nat.reduceBEq, Nat.reduceAdd, Nat.reduceLT, Nat.reduceLeDiff, Nat.reduceEqDiff, reduceCtorEq, Int.reduceAdd, Int.reduceSub, Int.reduceNeg, Int.reduceLE, Int.reduceLT, Int.reduceToNat, Int.reduceBEq, Int.reduceBNe, Int.reduceEq, Int.reduceNe, Int.toNat_zero, Int.toNat_one, bne_self_eq_false, Nat.reduceMul, Nat.zero_mul, Nat.mul_one, Nat.one_mul, Nat.reduceSub, Int.cast_ofNat_Int, Int.toNat_natCast]
    exact RetQ.bool hR rfl ⟨rfl, trivial⟩ (by simp)
end Go.Proofs.YtpahigegcbdleaaDoor.Fx
