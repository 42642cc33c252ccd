/- Big integers of package magnetoref04: Of. -/
import Derived.Test.YtnolflocgodffaaH2
namespace Go.Proofs.Ytnolflocgodffaa
open Vg Tf
set_option linter.unusedSimpArgs false
set_option linter.unusedVariables false
set_option maxRecDepth 100000
@[reducible] def zoE (n : Int) : Env := [(0, true, I n), (2, true, .c (.p 1 0)), (3, true, .c (.p 2 0))]
@[reducible] def zoM (neg : Bool) (ds : List Nat) : Mem := [(1, ⟨false, [.v (.bool false), .v (.slice none 0 0)], 81⟩), (2, ⟨false, [.v (.bool neg), .sl 3 0 ds.length 1], 81⟩), (3, ⟨false, ds.map dC, 3⟩)]
@[go_sem ↓] theorem plS11 : plS 1 1 = [(0, 1)] := rfl
@[reducible] def sg (neg : Bool) (m : Nat) : Int := bif neg then -(m : Int) else m
theorem sg_tmod (neg : Bool) (m : Nat) : (sg neg m).tmod 16777216 = sg neg (m % (16777216 : Nat)) := by
  cases neg
  · exact Int.tmod_eq_emod_of_nonneg (by simp)
  · show (-(m : Int)).tmod 16777216 = -((m % (16777216 : Nat) : Nat) : Int)
    rw [Int.neg_tmod, Int.tmod_eq_emod_of_nonneg (by omega)]; rfl
theorem sg_tdiv (neg : Bool) (m : Nat) : (sg neg m).tdiv 16777216 = sg neg (m / (16777216 : Nat)) := by
  cases neg
  · exact Int.tdiv_eq_ediv_of_nonneg (by simp)
  · show (-(m : Int)).tdiv 16777216 = -((m / (16777216 : Nat) : Nat) : Int)
    rw [Int.neg_tdiv, Int.tdiv_eq_ediv_of_nonneg (by omega)]; rfl
theorem zof_ (n : Int) (h1 : -9223372036854775808 ≤ n) (h2 : n ≤ 9223372036854775807) : CallOk Try.prog 89 [I n] [] (bn 1 n) [bO 1 n []] := by
  refine CallOk.mkN 100 Try.func89 rfl en89 (by simp [Try.ntmps89]) (ClA.of rfl) rfl rfl fun C hR hP => ?_
  obtain ⟨N, neg, hN, hneg, hs, hNb⟩ : ∃ (N : Nat) (neg : Bool), n.natAbs = N ∧ decide (n < 0) = neg ∧ n = sg neg N ∧ N ≤ 9223372036854775808 := by
    refine ⟨n.natAbs, decide (n < 0), rfl, rfl, ?_, by omega⟩
    by_cases h : n < 0
    · simp only [sg, tru_of h, cond_true]; omega
    · simp only [sg, fal_of h, cond_false]; omega
  simp only [bn, bO, hN, hneg] at hR
  have hlen := dg_bound N 3 (by omega)
  simp (config := { maxSteps := 2000000 }) only [go_sem, Nat.reduceBEq, Nat.reduceAdd, Nat.reduceLT, Nat.reduceLeDiff, Nat.reduceEqDiff, reduceCtorEq, Int.reduceAdd, Int.reduceSub, Int.reduceNeg, Int.reduceLE, Int.reduceLT, Int.reduceToNat, Int.reduceBEq, Int.reduceBNe, Int.reduceEq, Int.reduceNe, Int.toNat_zero, Int.toNat_one, bne_self_eq_false, Nat.reduceMul, Nat.zero_mul, Nat.mul_one, Nat.one_mul, Nat.reduceSub, Int.cast_ofNat_Int, Int.toNat_natCast]
  refine Sm.nils 110 1 3 [] [101] rfl ?_
  simp (config := { maxSteps := 2000000 }) only [go_sem, Nat.reduceBEq, Nat.reduceAdd, Nat.reduceLT, Nat.reduceLeDiff, Nat.reduceEqDiff, reduceCtorEq, Int.reduceAdd, Int.reduceSub, Int.reduceNeg, Int.reduceLE, Int.reduceLT, Int.reduceToNat, Int.reduceBEq, Int.reduceBNe, Int.reduceEq, Int.reduceNe, Int.toNat_zero, Int.toNat_one, bne_self_eq_false, Nat.reduceMul, Nat.zero_mul, Nat.mul_one, Nat.one_mul, Nat.reduceSub, Int.cast_ofNat_Int, Int.toNat_natCast]
  simp only [hneg]
  refine Sm.loopM (M0 := []) (α := { p : Nat × List Nat // p.2 ++ dg p.1 = dg N ∧ p.1 ≤ N }) hP (fun p => zoE (sg neg p.val.1)) (fun p => zoM neg p.val.2) (fun p => p.val.1) ⟨(N, []), rfl, by simp⟩
    (fun _ => ClM.of (by simp [Cv.inM, Mem.get])) (fun _ => ClE.of rfl) [(1, 100), (2, 101), (3, 110)] ?_ ?_
  · rw [hs]
    exact ⟨rfl, trivial, ⟨rfl, rfl, rfl, trivial⟩, ⟨.inr ⟨_, rfl, .inl rfl⟩, .inr ⟨_, rfl, .inl rfl⟩, .inr ⟨_, rfl, .inl rfl⟩, trivial⟩⟩
  · rintro ⟨⟨m, ds⟩, g1, g2⟩ J hb
    simp only at hb g1 g2 ⊢
    have hdl := congrArg List.length g1
    rw [List.length_append] at hdl
    refine Sm.go 120 ?_
    simp (config := { maxSteps := 2000000 }) only [go_sem, Nat.reduceBEq, Nat.reduceAdd, Nat.reduceLT, Nat.reduceLeDiff, Nat.reduceEqDiff, reduceCtorEq, Int.reduceAdd, Int.reduceSub, Int.reduceNeg, Int.reduceLE, Int.reduceLT, Int.reduceToNat, Int.reduceBEq, Int.reduceBNe, Int.reduceEq, Int.reduceNe, Int.toNat_zero, Int.toNat_one, bne_self_eq_false, Nat.reduceMul, Nat.zero_mul, Nat.mul_one, Nat.one_mul, Nat.reduceSub, Int.cast_ofNat_Int, Int.toNat_natCast]
    by_cases h0 : m = 0
    · subst h0
      rw [dg_zero, List.append_nil] at g1
      have e0 : (sg neg 0 != 0) = false := by cases neg <;> rfl
      simp only [e0]
      subst g1
      exact RetQ.ren [(1, 3)] hR hP rfl (by simp (config := { maxSteps := 2000000 }) only [go_sem, Nat.reduceBEq, Nat.reduceAdd, Nat.reduceLT, Nat.reduceLeDiff, Nat.reduceEqDiff, reduceCtorEq, Int.reduceAdd, Int.reduceSub, Int.reduceNeg, Int.reduceLE, Int.reduceLT, Int.reduceToNat, Int.reduceBEq, Int.reduceBNe, Int.reduceEq, Int.reduceNe, Int.toNat_zero, Int.toNat_one, bne_self_eq_false, Nat.reduceMul, Nat.zero_mul, Nat.mul_one, Nat.one_mul, Nat.reduceSub, Int.cast_ofNat_Int, Int.toNat_natCast]) rfl (by simp (config := { maxSteps := 2000000 }) only [go_sem, Nat.reduceBEq, Nat.reduceAdd, Nat.reduceLT, Nat.reduceLeDiff, Nat.reduceEqDiff, reduceCtorEq, Int.reduceAdd, Int.reduceSub, Int.reduceNeg, Int.reduceLE, Int.reduceLT, Int.reduceToNat, Int.reduceBEq, Int.reduceBNe, Int.reduceEq, Int.reduceNe, Int.toNat_zero, Int.toNat_one, bne_self_eq_false, Nat.reduceMul, Nat.zero_mul, Nat.mul_one, Nat.one_mul, Nat.reduceSub, Int.cast_ofNat_Int, Int.toNat_natCast]) trivial ⟨.inr ⟨_, rfl, .inl (by rw [inB_ren, List.append_nil])⟩, trivial⟩ (ClM.of (by simp [Cv.inM])) (ClV.of rfl)
    · have e0 : (sg neg m != 0) = true := by rw [bne_iff_ne]; cases neg <;> simp [sg] <;> omega
      simp only [e0, sg_tmod, sg_tdiv]
      have wd : IntKind.i64.wrap (sg neg (m / (16777216 : Nat))) = sg neg (m / (16777216 : Nat)) := by cases neg <;> exact w64 (by simp only [sg, cond_true, cond_false]; omega) (by simp only [sg, cond_true, cond_false]; omega)
      have hm1 := Nat.mod_lt m (show 0 < (16777216 : Nat) by omega)
      have nx : (ds ++ [m % (16777216 : Nat)]) ++ dg (m / (16777216 : Nat)) = dg N := by rw [← g1, dg_pos h0]; simp
      have hl1 : ds.length + 1 ≤ 3 := by rw [dg_pos h0, List.length_cons] at hdl; omega
      have hq : m / (16777216 : Nat) < m := Nat.div_lt_self (by omega) (by decide)
      have hbk := fun e' M' L => hb e' M' ⟨(m / (16777216 : Nat), ds ++ [m % (16777216 : Nat)]), nx, by simp only; omega⟩ L hq
      have htk : List.take ds.length (List.map dC ds) = List.map dC ds := List.take_of_length_le (by simp)
      by_cases hd : sg neg (m % (16777216 : Nat)) < 0
      · have hw : IntKind.i64.wrap (0 - sg neg (m % (16777216 : Nat))) = ((m % (16777216 : Nat) : Nat) : Int) := by
          cases neg
          · simp [sg] at hd; omega
          · simp only [sg, cond_true]; rw [w64 (by omega) (by omega)]; omega
        simp only [tru_of hd, hw, wd, htk]
        exact ⟨⟨by simp, by omega, by omega⟩, hbk _ _ [(1, 1), (2, 2), (3, 121)] ⟨rfl, trivial, ⟨rfl, rfl, rfl, trivial⟩, ⟨.inr ⟨_, rfl, .inl rfl⟩, .inr ⟨_, rfl, .inl (by simp [Bk.ren, Cv.ren, rn])⟩, .inr ⟨_, rfl, .inl (by rw [inB_ren]; simp)⟩, trivial⟩⟩⟩
      · have hw : sg neg (m % (16777216 : Nat)) = ((m % (16777216 : Nat) : Nat) : Int) := by
          cases neg
          · rfl
          · simp only [sg, cond_true] at hd ⊢; omega
        simp only [fal_of hd, wd, htk]
        simp only [hw]
        exact ⟨⟨by simp, by omega, by omega⟩, hbk _ _ [(1, 1), (2, 2), (3, 121)] ⟨rfl, trivial, ⟨rfl, rfl, rfl, trivial⟩, ⟨.inr ⟨_, rfl, .inl rfl⟩, .inr ⟨_, rfl, .inl (by simp [Bk.ren, Cv.ren, rn])⟩, .inr ⟨_, rfl, .inl (by rw [inB_ren]; simp)⟩, trivial⟩⟩⟩
end Go.Proofs.Ytnolflocgodffaa
