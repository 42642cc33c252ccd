/- The law UnitDerived. -/
import Derived.Test.YtpahigegcbdleaaDoorUD
namespace Go.Proofs.YtpahigegcbdleaaDoor.Fx
open Vg Tf
set_option linter.unusedSimpArgs false
set_option linter.unusedVariables false
set_option maxRecDepth 100000
set_option maxHeartbeats 4000000
def derR : List (List UInt8 × List UInt8 × List UInt8) := [([74], [78], [109]), ([78], [80, 97], [109, 94, 50]), ([74], [87], [115]), ([87], [86], [65]), ([86], [79, 104, 109], [65]), ([67], [65], [115]), ([67], [70], [86]), ([87, 98], [86], [115]), ([87, 98], [72], [65]), ([49], [72, 122], [115])]
def rowR (d : List UInt8 × List UInt8 × List UInt8) : List Cv := [cs1 d.1, cs1 d.2.1, cs1 d.2.2]
theorem der_take {i : Nat} (h : i < 10) : ((derR.flatMap rowR).drop (i * 3)).take 3 = [cs1 (derR[i]'h).1, cs1 (derR[i]'h).2.1, cs1 (derR[i]'h).2.2] := flat_take rowR 3 (fun _ => rfl) derR i h
theorem der_len : (derR.flatMap rowR).length = 30 := rfl
def okS (s : List UInt8) : Bool := decide (s.length ≤ 100) && (decide ((prs s).2 = 0) && (!(nmd s).2 || (decide ((nmd s).1 = (prs s).1) && (decide ((nam (prs s).1).1 = s) && (nam (prs s).1).2))))
def okD (d : List UInt8 × List UInt8 × List UInt8) : Bool := okS d.1 && (okS d.2.1 && (okS d.2.2 && (decide (cbE (prs d.2.1).1 (prs d.2.2).1 1 = 0) && decide (cbV (prs d.2.1).1 (prs d.2.2).1 1 = (prs d.1).1))))
theorem der_ok : ∀ d ∈ derR, okD d = true := by decide +kernel
def cel (a b c : Un) : Nat → List Cv
  | 0 => unL u0 ++ (unL u0 ++ unL u0)
  | 1 => unL a ++ (unL u0 ++ unL u0)
  | 2 => unL a ++ (unL b ++ unL u0)
  | _ => unL a ++ (unL b ++ unL c)
theorem cel_v (a b c : Un) : ∀ j, (cel a b c j).all Cv.isV = true
  | 0 => rfl
  | 1 => rfl
  | 2 => rfl
  | _ + 3 => rfl
theorem okS_use {s : List UInt8} (h : okS s = true) : CallOk Tryd.prog 21 [S s] [] (.tup [Wuu (prs s).1, Wi 0]) [] ∧ ((nmd s).2 = true → (nmd s).1 = (prs s).1 ∧ nam (prs s).1 = (s, true)) := by
  simp only [okS, Bool.and_eq_true, Bool.or_eq_true, decide_eq_true_eq, Bool.not_eq_true'] at h
  obtain ⟨h1, h2, h3⟩ := h
  have hp := parse_ s (by omega)
  rw [h2] at hp
  refine ⟨hp, fun hn => ?_⟩
  rcases h3 with h3 | ⟨h3, h4, h5⟩
  · rw [hn] at h3; cases h3
  · exact ⟨h3, Prod.ext h4 h5⟩
theorem law_derived (n : Int) (hn : 0 ≤ n ∧ n ≤ 255) : CallOk Tryd.prog 9 [.c (.v (.int .u8 n))] [] (Bo true) [] := by
  obtain ⟨m, rfl⟩ : ∃ m : Nat, n = m := ⟨n.toNat, by omega⟩
  have w1 : IntKind.i64.wrap (m : Int) = (m : Int) := by rw [w64 (by omega) (by omega)]
  refine CallOk.mkN 100 Tryd.func9 rfl en9 (by simp [Tryd.ntmps9]) (ClA.of rfl) rfl rfl fun C hR hP => ?_
  simp (config := { maxSteps := 2000000 }) only [go_sem, Nat.reduceBEq, Nat.reduceAdd, Nat.reduceLT, Nat.reduceLeDiff, Nat.reduceEqDiff, reduceCtorEq, Int.reduceAdd, Int.reduceSub, Int.reduceNeg, Int.reduceLE, Int.reduceLT, Int.reduceToNat, Int.reduceBEq, Int.reduceBNe, Int.reduceEq, Int.reduceNe, Int.toNat_zero, Int.toNat_one, bne_self_eq_false, Nat.reduceMul, Nat.zero_mul, Nat.mul_one, Nat.one_mul, Nat.reduceSub, Int.cast_ofNat_Int, Int.toNat_natCast]
  refine CallQ.pure 110 awake_ rfl ?_
  simp (config := { maxSteps := 2000000 }) only [go_sem, Nat.reduceBEq, Nat.reduceAdd, Nat.reduceLT, Nat.reduceLeDiff, Nat.reduceEqDiff, reduceCtorEq, Int.reduceAdd, Int.reduceSub, Int.reduceNeg, Int.reduceLE, Int.reduceLT, Int.reduceToNat, Int.reduceBEq, Int.reduceBNe, Int.reduceEq, Int.reduceNe, Int.toNat_zero, Int.toNat_one, bne_self_eq_false, Nat.reduceMul, Nat.zero_mul, Nat.mul_one, Nat.one_mul, Nat.reduceSub, Int.cast_ofNat_Int, Int.toNat_natCast, w1]
  have ht : ((m : Int).tmod 10) = ((m % 10 : Nat) : Int) := by rw [Int.tmod_eq_emod_of_nonneg (by omega)]; omega
  rw [ht]
  have hi : m % 10 < 10 := Nat.mod_lt _ (by omega)
  generalize m % 10 = i at *
  have hlit : [Cv.v (.string ⟨#[74]⟩), Cv.v (.string ⟨#[78]⟩), Cv.v (.string ⟨#[109]⟩), Cv.v (.string ⟨#[78]⟩), Cv.v (.string ⟨#[80, 97]⟩), Cv.v (.string ⟨#[109, 94, 50]⟩), Cv.v (.string ⟨#[74]⟩), Cv.v (.string ⟨#[87]⟩), Cv.v (.string ⟨#[115]⟩), Cv.v (.string ⟨#[87]⟩), Cv.v (.string ⟨#[86]⟩), Cv.v (.string ⟨#[65]⟩), Cv.v (.string ⟨#[86]⟩), Cv.v (.string ⟨#[79, 104, 109]⟩), Cv.v (.string ⟨#[65]⟩), Cv.v (.string ⟨#[67]⟩), Cv.v (.string ⟨#[65]⟩), Cv.v (.string ⟨#[115]⟩), Cv.v (.string ⟨#[67]⟩), Cv.v (.string ⟨#[70]⟩), Cv.v (.string ⟨#[86]⟩), Cv.v (.string ⟨#[87, 98]⟩), Cv.v (.string ⟨#[86]⟩), Cv.v (.string ⟨#[115]⟩), Cv.v (.string ⟨#[87, 98]⟩), Cv.v (.string ⟨#[72]⟩), Cv.v (.string ⟨#[65]⟩), Cv.v (.string ⟨#[49]⟩), Cv.v (.string ⟨#[72, 122]⟩), Cv.v (.string ⟨#[115]⟩)] = derR.flatMap rowR := rfl
  rw [hlit]
  have htk := der_take hi
  have hok := der_ok _ (List.getElem_mem (show i < derR.length from hi))
  generalize derR[i]'hi = d at *
  simp only [Int.toNat_natCast, htk]
  obtain ⟨a, b, c⟩ := d
  refine ⟨⟨by omega, by omega⟩, by omega, ⟨rfl, rfl⟩, Nat.le_refl 3, ?_⟩
  simp only [okD, Bool.and_eq_true, decide_eq_true_eq] at hok
  obtain ⟨ka, kb, kc, hE, hV⟩ := hok
  obtain ⟨pa, na⟩ := okS_use ka
  obtain ⟨pb, nb⟩ := okS_use kb
  obtain ⟨pc, nc⟩ := okS_use kc
  generalize (prs a).1 = ua at *
  generalize (prs b).1 = ub at *
  generalize (prs c).1 = uc at *
  refine Sm.loopM (M0 := []) (α := { j : Nat // j ≤ 3 }) hP
    (fun j => [(5, true, .c (.p 5 0)), (37, true, .agg [cs1 a, cs1 b, cs1 c]), (38, true, I j.val)])
    (fun j => [(5, ⟨false, cel ua ub uc j.val, 50⟩)]) (fun j => 3 - j.val) ⟨0, by omega⟩ (fun j => ClM.of (by simp only [List.all_cons, inMV (cel_v ua ub uc j.val)]; rfl)) (fun _ => ClE.of rfl) [(5, 112)] ?_ ?_
  · exact ⟨rfl, trivial, ⟨rfl, rfl, rfl, trivial⟩, ⟨.inr ⟨_, rfl, .inl rfl⟩, trivial⟩⟩
  · rintro ⟨j, hj⟩ J hb
    simp only at hb hj ⊢
    match j, hj, hb with
    | 0, hj, hb =>
      · simp only [cel]
        refine Sm.go 170 ?_
        simp (config := { maxSteps := 2000000 }) only [go_sem, Nat.reduceBEq, Nat.reduceAdd, Nat.reduceLT, Nat.reduceLeDiff, Nat.reduceEqDiff, reduceCtorEq, Int.reduceAdd, Int.reduceSub, Int.reduceNeg, Int.reduceLE, Int.reduceLT, Int.reduceToNat, Int.reduceBEq, Int.reduceBNe, Int.reduceEq, Int.reduceNe, Int.toNat_zero, Int.toNat_one, bne_self_eq_false, Nat.reduceMul, Nat.zero_mul, Nat.mul_one, Nat.one_mul, Nat.reduceSub, Int.cast_ofNat_Int, Int.toNat_natCast]
        refine CallQ.pure 180 pa rfl ?_
        simp (config := { maxSteps := 2000000 }) only [go_sem, Nat.reduceBEq, Nat.reduceAdd, Nat.reduceLT, Nat.reduceLeDiff, Nat.reduceEqDiff, reduceCtorEq, Int.reduceAdd, Int.reduceSub, Int.reduceNeg, Int.reduceLE, Int.reduceLT, Int.reduceToNat, Int.reduceBEq, Int.reduceBNe, Int.reduceEq, Int.reduceNe, Int.toNat_zero, Int.toNat_one, bne_self_eq_false, Nat.reduceMul, Nat.zero_mul, Nat.mul_one, Nat.one_mul, Nat.reduceSub, Int.cast_ofNat_Int, Int.toNat_natCast]
        refine CallQ.pure 190 (named_ a) rfl ?_
        cases hda : (nmd a).2 with
        | true =>
          obtain ⟨n1, n2⟩ := na hda
          rw [n1]
          simp (config := { maxSteps := 2000000 }) only [go_sem, Nat.reduceBEq, Nat.reduceAdd, Nat.reduceLT, Nat.reduceLeDiff, Nat.reduceEqDiff, reduceCtorEq, Int.reduceAdd, Int.reduceSub, Int.reduceNeg, Int.reduceLE, Int.reduceLT, Int.reduceToNat, Int.reduceBEq, Int.reduceBNe, Int.reduceEq, Int.reduceNe, Int.toNat_zero, Int.toNat_one, bne_self_eq_false, Nat.reduceMul, Nat.zero_mul, Nat.mul_one, Nat.one_mul, Nat.reduceSub, Int.cast_ofNat_Int, Int.toNat_natCast]
          refine CallQ.pure 200 (name_ ua) rfl ?_
          rw [n2]
          simp (config := { maxSteps := 2000000 }) only [go_sem, Nat.reduceBEq, Nat.reduceAdd, Nat.reduceLT, Nat.reduceLeDiff, Nat.reduceEqDiff, reduceCtorEq, Int.reduceAdd, Int.reduceSub, Int.reduceNeg, Int.reduceLE, Int.reduceLT, Int.reduceToNat, Int.reduceBEq, Int.reduceBNe, Int.reduceEq, Int.reduceNe, Int.toNat_zero, Int.toNat_one, bne_self_eq_false, Nat.reduceMul, Nat.zero_mul, Nat.mul_one, Nat.one_mul, Nat.reduceSub, Int.cast_ofNat_Int, Int.toNat_natCast, beq_self_eq_true, bne_self_eq_false, Bool.not_true]
          refine hb _ _ ⟨0 + 1, by omega⟩ [(5, 5)] (by simp only; omega) ?_
          exact ⟨rfl, trivial, ⟨rfl, rfl, rfl, trivial⟩, ⟨.inr ⟨_, rfl, .inl rfl⟩, trivial⟩⟩
        | false =>
          simp (config := { maxSteps := 2000000 }) only [go_sem, Nat.reduceBEq, Nat.reduceAdd, Nat.reduceLT, Nat.reduceLeDiff, Nat.reduceEqDiff, reduceCtorEq, Int.reduceAdd, Int.reduceSub, Int.reduceNeg, Int.reduceLE, Int.reduceLT, Int.reduceToNat, Int.reduceBEq, Int.reduceBNe, Int.reduceEq, Int.reduceNe, Int.toNat_zero, Int.toNat_one, bne_self_eq_false, Nat.reduceMul, Nat.zero_mul, Nat.mul_one, Nat.one_mul, Nat.reduceSub, Int.cast_ofNat_Int, Int.toNat_natCast]
          refine hb _ _ ⟨0 + 1, by omega⟩ [(5, 5)] (by simp only; omega) ?_
          exact ⟨rfl, trivial, ⟨rfl, rfl, rfl, trivial⟩, ⟨.inr ⟨_, rfl, .inl rfl⟩, trivial⟩⟩
    | 1, hj, hb =>
      · simp only [cel]
        refine Sm.go 170 ?_
        simp (config := { maxSteps := 2000000 }) only [go_sem, Nat.reduceBEq, Nat.reduceAdd, Nat.reduceLT, Nat.reduceLeDiff, Nat.reduceEqDiff, reduceCtorEq, Int.reduceAdd, Int.reduceSub, Int.reduceNeg, Int.reduceLE, Int.reduceLT, Int.reduceToNat, Int.reduceBEq, Int.reduceBNe, Int.reduceEq, Int.reduceNe, Int.toNat_zero, Int.toNat_one, bne_self_eq_false, Nat.reduceMul, Nat.zero_mul, Nat.mul_one, Nat.one_mul, Nat.reduceSub, Int.cast_ofNat_Int, Int.toNat_natCast]
        refine CallQ.pure 180 pb rfl ?_
        simp (config := { maxSteps := 2000000 }) only [go_sem, Nat.reduceBEq, Nat.reduceAdd, Nat.reduceLT, Nat.reduceLeDiff, Nat.reduceEqDiff, reduceCtorEq, Int.reduceAdd, Int.reduceSub, Int.reduceNeg, Int.reduceLE, Int.reduceLT, Int.reduceToNat, Int.reduceBEq, Int.reduceBNe, Int.reduceEq, Int.reduceNe, Int.toNat_zero, Int.toNat_one, bne_self_eq_false, Nat.reduceMul, Nat.zero_mul, Nat.mul_one, Nat.one_mul, Nat.reduceSub, Int.cast_ofNat_Int, Int.toNat_natCast]
        refine CallQ.pure 190 (named_ b) rfl ?_
        cases hdb : (nmd b).2 with
        | true =>
          obtain ⟨n1, n2⟩ := nb hdb
          rw [n1]
          simp (config := { maxSteps := 2000000 }) only [go_sem, Nat.reduceBEq, Nat.reduceAdd, Nat.reduceLT, Nat.reduceLeDiff, Nat.reduceEqDiff, reduceCtorEq, Int.reduceAdd, Int.reduceSub, Int.reduceNeg, Int.reduceLE, Int.reduceLT, Int.reduceToNat, Int.reduceBEq, Int.reduceBNe, Int.reduceEq, Int.reduceNe, Int.toNat_zero, Int.toNat_one, bne_self_eq_false, Nat.reduceMul, Nat.zero_mul, Nat.mul_one, Nat.one_mul, Nat.reduceSub, Int.cast_ofNat_Int, Int.toNat_natCast]
          refine CallQ.pure 200 (name_ ub) rfl ?_
          rw [n2]
          simp (config := { maxSteps := 2000000 }) only [go_sem, Nat.reduceBEq, Nat.reduceAdd, Nat.reduceLT, Nat.reduceLeDiff, Nat.reduceEqDiff, reduceCtorEq, Int.reduceAdd, Int.reduceSub, Int.reduceNeg, Int.reduceLE, Int.reduceLT, Int.reduceToNat, Int.reduceBEq, Int.reduceBNe, Int.reduceEq, Int.reduceNe, Int.toNat_zero, Int.toNat_one, bne_self_eq_false, Nat.reduceMul, Nat.zero_mul, Nat.mul_one, Nat.one_mul, Nat.reduceSub, Int.cast_ofNat_Int, Int.toNat_natCast, beq_self_eq_true, bne_self_eq_false, Bool.not_true]
          refine hb _ _ ⟨1 + 1, by omega⟩ [(5, 5)] (by simp only; omega) ?_
          exact ⟨rfl, trivial, ⟨rfl, rfl, rfl, trivial⟩, ⟨.inr ⟨_, rfl, .inl rfl⟩, trivial⟩⟩
        | false =>
          simp (config := { maxSteps := 2000000 }) only [go_sem, Nat.reduceBEq, Nat.reduceAdd, Nat.reduceLT, Nat.reduceLeDiff, Nat.reduceEqDiff, reduceCtorEq, Int.reduceAdd, Int.reduceSub, Int.reduceNeg, Int.reduceLE, Int.reduceLT, Int.reduceToNat, Int.reduceBEq, Int.reduceBNe, Int.reduceEq, Int.reduceNe, Int.toNat_zero, Int.toNat_one, bne_self_eq_false, Nat.reduceMul, Nat.zero_mul, Nat.mul_one, Nat.one_mul, Nat.reduceSub, Int.cast_ofNat_Int, Int.toNat_natCast]
          refine hb _ _ ⟨1 + 1, by omega⟩ [(5, 5)] (by simp only; omega) ?_
          exact ⟨rfl, trivial, ⟨rfl, rfl, rfl, trivial⟩, ⟨.inr ⟨_, rfl, .inl rfl⟩, trivial⟩⟩
    | 2, hj, hb =>
      · simp only [cel]
        refine Sm.go 170 ?_
        simp (config := { maxSteps := 2000000 }) only [go_sem, Nat.reduceBEq, Nat.reduceAdd, Nat.reduceLT, Nat.reduceLeDiff, Nat.reduceEqDiff, reduceCtorEq, Int.reduceAdd, Int.reduceSub, Int.reduceNeg, Int.reduceLE, Int.reduceLT, Int.reduceToNat, Int.reduceBEq, Int.reduceBNe, Int.reduceEq, Int.reduceNe, Int.toNat_zero, Int.toNat_one, bne_self_eq_false, Nat.reduceMul, Nat.zero_mul, Nat.mul_one, Nat.one_mul, Nat.reduceSub, Int.cast_ofNat_Int, Int.toNat_natCast]
        refine CallQ.pure 180 pc rfl ?_
        simp (config := { maxSteps := 2000000 }) only [go_sem, Nat.reduceBEq, Nat.reduceAdd, Nat.reduceLT, Nat.reduceLeDiff, Nat.reduceEqDiff, reduceCtorEq, Int.reduceAdd, Int.reduceSub, Int.reduceNeg, Int.reduceLE, Int.reduceLT, Int.reduceToNat, Int.reduceBEq, Int.reduceBNe, Int.reduceEq, Int.reduceNe, Int.toNat_zero, Int.toNat_one, bne_self_eq_false, Nat.reduceMul, Nat.zero_mul, Nat.mul_one, Nat.one_mul, Nat.reduceSub, Int.cast_ofNat_Int, Int.toNat_natCast]
        refine CallQ.pure 190 (named_ c) rfl ?_
        cases hdc : (nmd c).2 with
        | true =>
          obtain ⟨n1, n2⟩ := nc hdc
          rw [n1]
          simp (config := { maxSteps := 2000000 }) only [go_sem, Nat.reduceBEq, Nat.reduceAdd, Nat.reduceLT, Nat.reduceLeDiff, Nat.reduceEqDiff, reduceCtorEq, Int.reduceAdd, Int.reduceSub, Int.reduceNeg, Int.reduceLE, Int.reduceLT, Int.reduceToNat, Int.reduceBEq, Int.reduceBNe, Int.reduceEq, Int.reduceNe, Int.toNat_zero, Int.toNat_one, bne_self_eq_false, Nat.reduceMul, Nat.zero_mul, Nat.mul_one, Nat.one_mul, Nat.reduceSub, Int.cast_ofNat_Int, Int.toNat_natCast]
          refine CallQ.pure 200 (name_ uc) rfl ?_
          rw [n2]
          simp (config := { maxSteps := 2000000 }) only [go_sem, Nat.reduceBEq, Nat.reduceAdd, Nat.reduceLT, Nat.reduceLeDiff, Nat.reduceEqDiff, reduceCtorEq, Int.reduceAdd, Int.reduceSub, Int.reduceNeg, Int.reduceLE, Int.reduceLT, Int.reduceToNat, Int.reduceBEq, Int.reduceBNe, Int.reduceEq, Int.reduceNe, Int.toNat_zero, Int.toNat_one, bne_self_eq_false, Nat.reduceMul, Nat.zero_mul, Nat.mul_one, Nat.one_mul, Nat.reduceSub, Int.cast_ofNat_Int, Int.toNat_natCast, beq_self_eq_true, bne_self_eq_false, Bool.not_true]
          refine hb _ _ ⟨2 + 1, by omega⟩ [(5, 5)] (by simp only; omega) ?_
          exact ⟨rfl, trivial, ⟨rfl, rfl, rfl, trivial⟩, ⟨.inr ⟨_, rfl, .inl rfl⟩, trivial⟩⟩
        | false =>
          simp (config := { maxSteps := 2000000 }) only [go_sem, Nat.reduceBEq, Nat.reduceAdd, Nat.reduceLT, Nat.reduceLeDiff, Nat.reduceEqDiff, reduceCtorEq, Int.reduceAdd, Int.reduceSub, Int.reduceNeg, Int.reduceLE, Int.reduceLT, Int.reduceToNat, Int.reduceBEq, Int.reduceBNe, Int.reduceEq, Int.reduceNe, Int.toNat_zero, Int.toNat_one, bne_self_eq_false, Nat.reduceMul, Nat.zero_mul, Nat.mul_one, Nat.one_mul, Nat.reduceSub, Int.cast_ofNat_Int, Int.toNat_natCast]
          refine hb _ _ ⟨2 + 1, by omega⟩ [(5, 5)] (by simp only; omega) ?_
          exact ⟨rfl, trivial, ⟨rfl, rfl, rfl, trivial⟩, ⟨.inr ⟨_, rfl, .inl rfl⟩, trivial⟩⟩
    | 3, hj, hb =>
      · simp only [cel]
        refine Sm.go 170 ?_
        simp (config := { maxSteps := 2000000 }) only [go_sem, Nat.reduceBEq, Nat.reduceAdd, Nat.reduceLT, Nat.reduceLeDiff, Nat.reduceEqDiff, reduceCtorEq, Int.reduceAdd, Int.reduceSub, Int.reduceNeg, Int.reduceLE, Int.reduceLT, Int.reduceToNat, Int.reduceBEq, Int.reduceBNe, Int.reduceEq, Int.reduceNe, Int.toNat_zero, Int.toNat_one, bne_self_eq_false, Nat.reduceMul, Nat.zero_mul, Nat.mul_one, Nat.one_mul, Nat.reduceSub, Int.cast_ofNat_Int, Int.toNat_natCast]
        have hm := mul_ ub uc
        rw [hE, hV] at hm
        refine CallQ.pure 180 hm rfl ?_
        simp (config := { maxSteps := 2000000 }) only [go_sem, Nat.reduceBEq, Nat.reduceAdd, Nat.reduceLT, Nat.reduceLeDiff, Nat.reduceEqDiff, reduceCtorEq, Int.reduceAdd, Int.reduceSub, Int.reduceNeg, Int.reduceLE, Int.reduceLT, Int.reduceToNat, Int.reduceBEq, Int.reduceBNe, Int.reduceEq, Int.reduceNe, Int.toNat_zero, Int.toNat_one, bne_self_eq_false, Nat.reduceMul, Nat.zero_mul, Nat.mul_one, Nat.one_mul, Nat.reduceSub, Int.cast_ofNat_Int, Int.toNat_natCast, beq_self_eq_true]
        exact RetQ.bool hR rfl ⟨rfl, trivial⟩ (by simp)
end Go.Proofs.YtpahigegcbdleaaDoor.Fx
