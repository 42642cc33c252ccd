/- Big integers: Mul. -/
import Derived.Test.YtnolflocgodffaaH7
namespace Go.Proofs.Ytnolflocgodffaa
open Vg Tf
set_option linter.unusedSimpArgs false
set_option linter.unusedVariables false
set_option maxRecDepth 100000
set_option maxHeartbeats 4000000
@[reducible] def muE (n i : Nat) : Env := [(2, true, .c (.p 4 0)), (3, true, .c (.p 5 0)), (4, true, .c (.p 6 0)), (5, true, sL 7 n), (6, true, I i)]
@[reducible] def muF (n i c k : Nat) : Env := [(2, true, .c (.p 4 0)), (3, true, .c (.p 5 0)), (4, true, .c (.p 6 0)), (5, true, sL 7 n), (6, true, I i), (7, true, I c), (8, true, I k)]
theorem reps_dC (n : Nat) : reps n [Cv.v (.int .i64 0)] = (List.replicate n 0).map dC := by
  rw [reps_one, List.map_replicate]; rfl
theorem zmulN (neg neg' : Bool) (a b : Nat) (hla : (dg a).length ≤ 1000000) (hlb : (dg b).length ≤ 1000000) : CallOk Try.prog 75 [bs 1 neg a, bs 2 neg' b] [inB 1 (dg a), inB 2 (dg b)] (bs 3 ((neg != neg') && decide (a * b ≠ 0)) (a * b)) [(3, ⟨false, (dg (a * b) ++ muP a b).map dC, 3⟩)] := by
  refine CallOk.mkN 100 Try.func75 rfl en75 (by simp [Try.ntmps75]) (ClA.of rfl) rfl rfl fun C hR hP => ?_
  have hM0 : ClM [inB 1 (dg a), inB 2 (dg b)] := ClM.of (by simp [Cv.inM])
  have w1 : IntKind.i64.wrap (((dg a).length : Int) + ((dg b).length : Int)) = ((dg a).length : Int) + ((dg b).length : Int) := w64 (by omega) (by omega)
  have w2 : IntKind.i64.wrap (((dg a).length : Int) + ((dg b).length : Int) + 1) = (((dg a).length + (dg b).length + 1 : Nat) : Int) := by rw [w64 (by omega) (by omega)]; omega
  simp (config := { maxSteps := 2000000 }) only [go_sem, Nat.reduceBEq, Nat.reduceAdd, Nat.reduceLT, Nat.reduceLeDiff, Nat.reduceEqDiff, reduceCtorEq, Int.reduceAdd, Int.reduceSub, Int.reduceNeg, Int.reduceLE, Int.reduceLT, Int.reduceToNat, Int.reduceBEq, Int.reduceBNe, Int.reduceEq, Int.reduceNe, Int.toNat_zero, Int.toNat_one, bne_self_eq_false, Nat.reduceMul, Nat.zero_mul, Nat.mul_one, Nat.one_mul, Nat.reduceSub, Int.cast_ofNat_Int, Int.toNat_natCast]
  simp only [w1, w2, Int.toNat_natCast]
  rw [reps_dC]
  generalize hn : (dg a).length + (dg b).length + 1 = n at *
  refine ⟨⟨by omega, by omega, by omega⟩, ?_⟩
  refine Sm.loopM (M0 := [inB 1 (dg a), inB 2 (dg b)]) (α := { s : Nat × List Nat // MuI a b s.1 s.2 }) hP (fun s => muE n s.val.1) (fun s => sbM neg neg' a b s.val.2) (fun s => (dg a).length - s.val.1) ⟨(0, List.replicate n 0), hn ▸ MuI.start a b⟩
    (fun _ => ClM.of (by simp [Cv.inM, Mem.get])) (fun _ => ClE.of rfl) [(1, 1), (2, 2), (4, 100), (5, 101), (6, 102), (7, 103)] ?_ ?_
  · exact ⟨rfl, ⟨⟨rfl, rfl⟩, ⟨rfl, rfl⟩, trivial⟩, ⟨rfl, rfl, rfl, rfl, rfl, trivial⟩, ⟨.inr ⟨_, rfl, .inl rfl⟩, .inr ⟨_, rfl, .inl rfl⟩, .inr ⟨_, rfl, .inl rfl⟩, .inr ⟨_, rfl, .inl (inB_ren _ _ _ _)⟩, .inr ⟨_, rfl, .inl (inB_ren _ _ _ _)⟩, .inr ⟨_, rfl, .inl (inB_ren _ _ _ _)⟩, trivial⟩⟩
  · rintro ⟨⟨i, out⟩, hI⟩ J hb
    simp only at hb hI ⊢
    have hf := hI.fin
    refine Sm.go 120 ?_
    simp (config := { maxSteps := 2000000 }) only [go_sem, Nat.reduceBEq, Nat.reduceAdd, Nat.reduceLT, Nat.reduceLeDiff, Nat.reduceEqDiff, reduceCtorEq, Int.reduceAdd, Int.reduceSub, Int.reduceNeg, Int.reduceLE, Int.reduceLT, Int.reduceToNat, Int.reduceBEq, Int.reduceBNe, Int.reduceEq, Int.reduceNe, Int.toNat_zero, Int.toNat_one, bne_self_eq_false, Nat.reduceMul, Nat.zero_mul, Nat.mul_one, Nat.one_mul, Nat.reduceSub, Int.cast_ofNat_Int, Int.toNat_natCast]
    by_cases hc : i < (dg a).length
    · simp only [tru_of (show (i : Int) < ((dg a).length : Int) by omega)]
      have wi : IntKind.i64.wrap ((i : Int) + 1) = ((i + 1 : Nat) : Int) := by rw [w64 (by omega) (by omega)]; omega
      refine Sm.loopM (M0 := [inB 1 (dg a), inB 2 (dg b)]) (α := { s : Nat × Nat × List Nat // MuJ a b i (bval out + (16777216 : Nat) ^ i * ((dg a).getD i 0 * b)) s.1 s.2.1 s.2.2 }) hP (fun s => muF n i s.val.2.1 s.val.1) (fun s => sbM neg neg' a b s.val.2.2) (fun s => (dg b).length + 1 - s.val.1) ⟨(0, 0, out), MuJ.start hI hc⟩
        (fun _ => ClM.of (by simp [Cv.inM, Mem.get])) (fun _ => ClE.of rfl) [(1, 1), (2, 2), (4, 4), (5, 5), (6, 6), (7, 7)] ?_ ?_
      · exact ⟨rfl, ⟨⟨rfl, rfl⟩, ⟨rfl, rfl⟩, trivial⟩, ⟨rfl, rfl, rfl, rfl, rfl, rfl, rfl, trivial⟩, ⟨.inr ⟨_, rfl, .inl rfl⟩, .inr ⟨_, rfl, .inl rfl⟩, .inr ⟨_, rfl, .inl rfl⟩, .inr ⟨_, rfl, .inl (inB_ren _ _ _ _)⟩, .inr ⟨_, rfl, .inl (inB_ren _ _ _ _)⟩, .inr ⟨_, rfl, .inl (inB_ren _ _ _ _)⟩, trivial⟩⟩
      · rintro ⟨⟨k, c, o2⟩, hJ⟩ J' hb'
        simp only at hb' hJ ⊢
        have c1 := hJ.c1
        have hl2 := hJ.len
        refine Sm.go 120 ?_
        simp (config := { maxSteps := 2000000 }) only [go_sem, Nat.reduceBEq, Nat.reduceAdd, Nat.reduceLT, Nat.reduceLeDiff, Nat.reduceEqDiff, reduceCtorEq, Int.reduceAdd, Int.reduceSub, Int.reduceNeg, Int.reduceLE, Int.reduceLT, Int.reduceToNat, Int.reduceBEq, Int.reduceBNe, Int.reduceEq, Int.reduceNe, Int.toNat_zero, Int.toNat_one, bne_self_eq_false, Nat.reduceMul, Nat.zero_mul, Nat.mul_one, Nat.one_mul, Nat.reduceSub, Int.cast_ofNat_Int, Int.toNat_natCast]
        by_cases hk : k < (dg b).length ∨ 0 < c
        · obtain ⟨x1, x2⟩ := hJ.idx hc hk
          have e1 : (bif decide ((k : Int) < ((dg b).length : Int)) then true else decide ((0 : Int) < (c : Int))) = true := by
            rw [Bool.cond_true_left, Bool.or_eq_true, decide_eq_true_eq, decide_eq_true_eq]; omega
          simp only [e1]
          have wik : IntKind.i64.wrap ((i : Int) + (k : Int)) = ((i + k : Nat) : Int) := by rw [w64 (by omega) (by omega)]; omega
          refine Sm.dgo 120 19 mix (by decide +kernel) (by decide +kernel) ?_
          simp (config := { maxSteps := 2000000 }) only [go_sem, Nat.reduceBEq, Nat.reduceAdd, Nat.reduceLT, Nat.reduceLeDiff, Nat.reduceEqDiff, reduceCtorEq, Int.reduceAdd, Int.reduceSub, Int.reduceNeg, Int.reduceLE, Int.reduceLT, Int.reduceToNat, Int.reduceBEq, Int.reduceBNe, Int.reduceEq, Int.reduceNe, Int.toNat_zero, Int.toNat_one, bne_self_eq_false, Nat.reduceMul, Nat.zero_mul, Nat.mul_one, Nat.one_mul, Nat.reduceSub, Int.cast_ofNat_Int, Int.toNat_natCast]
          simp only [wik, Int.toNat_natCast, getD_map x1, getD_map hc]
          simp (config := { maxSteps := 2000000 }) only [go_sem, Nat.reduceBEq, Nat.reduceAdd, Nat.reduceLT, Nat.reduceLeDiff, Nat.reduceEqDiff, reduceCtorEq, Int.reduceAdd, Int.reduceSub, Int.reduceNeg, Int.reduceLE, Int.reduceLT, Int.reduceToNat, Int.reduceBEq, Int.reduceBNe, Int.reduceEq, Int.reduceNe, Int.toNat_zero, Int.toNat_one, bne_self_eq_false, Nat.reduceMul, Nat.zero_mul, Nat.mul_one, Nat.one_mul, Nat.reduceSub, Int.cast_ofNat_Int, Int.toNat_natCast]
          refine ⟨⟨by omega, by omega⟩, ⟨by omega, by omega⟩, ?_⟩
          refine DCallQ.ren [(1, 2)] 120 (digit_ (dg b) k) (ClM.of (by simp [Cv.inM])) rfl rfl ⟨⟨_, rfl, .inl (inB_ren _ _ _ _)⟩, trivial⟩ rfl (.inr rfl) rfl rfl ?_
          simp (config := { maxSteps := 2000000 }) only [go_sem, Nat.reduceBEq, Nat.reduceAdd, Nat.reduceLT, Nat.reduceLeDiff, Nat.reduceEqDiff, reduceCtorEq, Int.reduceAdd, Int.reduceSub, Int.reduceNeg, Int.reduceLE, Int.reduceLT, Int.reduceToNat, Int.reduceBEq, Int.reduceBNe, Int.reduceEq, Int.reduceNe, Int.toNat_zero, Int.toNat_one, bne_self_eq_false, Nat.reduceMul, Nat.zero_mul, Nat.mul_one, Nat.one_mul, Nat.reduceSub, Int.cast_ofNat_Int, Int.toNat_natCast]
          have hx := dg_d a i
          have hy := dg_d b k
          have ho : o2.getD (i + k) 0 < (16777216 : Nat) := by
            rw [List.getD_eq_getElem?_getD, List.getElem?_eq_getElem x1]; exact hJ.lt _ (List.getElem_mem x1)
          have hst := hJ.step hc hk
          generalize (dg a).getD i 0 = x at *
          generalize (dg b).getD k 0 = y at *
          generalize o2.getD (i + k) 0 = o at *
          have hxy : x * y ≤ 16777215 * 16777215 := Nat.mul_le_mul (by omega) (by omega)
          have w3 : IntKind.i64.wrap ((x : Int) * (y : Int)) = ((x * y : Nat) : Int) := by rw [Int.natCast_mul]; exact w64 (by rw [← Int.natCast_mul]; omega) (by rw [← Int.natCast_mul]; omega)
          generalize hz : x * y = z at *
          have w4 : IntKind.i64.wrap ((o : Int) + (z : Int)) = (o : Int) + z := w64 (by omega) (by omega)
          have w5 : IntKind.i64.wrap ((o : Int) + (z : Int) + c) = ((o + z + c : Nat) : Int) := by rw [w64 (by omega) (by omega)]; omega
          have w6 : ((o + z + c : Nat) : Int).tdiv 16777216 = (((o + z + c) / (16777216 : Nat) : Nat) : Int) := by rw [Int.tdiv_eq_ediv_of_nonneg (by omega)]; rfl
          have w7 : ((o + z + c : Nat) : Int).tmod 16777216 = (((o + z + c) % (16777216 : Nat) : Nat) : Int) := by rw [Int.tmod_eq_emod_of_nonneg (by omega)]; rfl
          have w8 : IntKind.i64.wrap (((o + z + c) / (16777216 : Nat) : Nat) : Int) = (((o + z + c) / (16777216 : Nat) : Nat) : Int) := w64 (by omega) (by omega)
          have w9 : IntKind.i64.wrap ((k : Int) + 1) = ((k + 1 : Nat) : Int) := by rw [w64 (by omega) (by omega)]; omega
          simp only [wik, w3, w4, w5, w6, w7, w8, w9, Int.toNat_natCast]
          have hset : (List.map dC o2).set (i + k) (Cv.v (.int .i64 ((o + z + c) % (16777216 : Nat) : Nat))) = (o2.set (i + k) ((o + z + c) % (16777216 : Nat))).map dC := by rw [List.map_set]
          rw [hset]
          exact ⟨⟨by omega, by omega⟩, by simp; omega, hb' _ _ ⟨(k + 1, (o + z + c) / (16777216 : Nat), o2.set (i + k) ((o + z + c) % (16777216 : Nat))), hst⟩ [(1, 1), (2, 2), (4, 4), (5, 5), (6, 6), (7, 7)] (by simp only; omega) ⟨rfl, ⟨⟨rfl, rfl⟩, ⟨rfl, rfl⟩, trivial⟩, ⟨rfl, rfl, rfl, rfl, rfl, rfl, rfl, trivial⟩, ⟨.inr ⟨_, rfl, .inl rfl⟩, .inr ⟨_, rfl, .inl rfl⟩, .inr ⟨_, rfl, .inl rfl⟩, .inr ⟨_, rfl, .inl (inB_ren _ _ _ _)⟩, .inr ⟨_, rfl, .inl (inB_ren _ _ _ _)⟩, .inr ⟨_, rfl, .inl (inB_ren _ _ _ _)⟩, trivial⟩⟩⟩
        · have e1 : (bif decide ((k : Int) < ((dg b).length : Int)) then true else decide ((0 : Int) < (c : Int))) = false := by
            rw [Bool.cond_true_left, Bool.or_eq_false_iff, decide_eq_false_iff_not, decide_eq_false_iff_not]; omega
          simp only [e1, wi]
          have hnx := hI.next hc hJ hk
          exact hb _ _ ⟨(i + 1, o2), hnx⟩ [(1, 1), (2, 2), (4, 4), (5, 5), (6, 6), (7, 7)] (by simp only; omega) ⟨rfl, ⟨⟨rfl, rfl⟩, ⟨rfl, rfl⟩, trivial⟩, ⟨rfl, rfl, rfl, rfl, rfl, trivial⟩, ⟨.inr ⟨_, rfl, .inl rfl⟩, .inr ⟨_, rfl, .inl rfl⟩, .inr ⟨_, rfl, .inl rfl⟩, .inr ⟨_, rfl, .inl (inB_ren _ _ _ _)⟩, .inr ⟨_, rfl, .inl (inB_ren _ _ _ _)⟩, .inr ⟨_, rfl, .inl (inB_ren _ _ _ _)⟩, trivial⟩⟩
    · simp only [fal_of (show ¬ (i : Int) < ((dg a).length : Int) by omega)]
      have ho := hI.out hc
      have hv := hI.done hc
      have hl1 := hI.len
      have htr := trim_ out hI.lt (by omega)
      rw [hl1, hv, hn] at htr
      refine CallQ.ren [(1, 7)] 120 htr (ClM.of (by simp [Cv.inM])) rfl rfl ⟨⟨_, rfl, .inr ⟨rfl, [], by simp [Bk.ren, Function.comp_def, Cv.ren]⟩⟩, trivial⟩ rfl (.inr rfl) ?_
      simp (config := { maxSteps := 2000000 }) only [go_sem, Nat.reduceBEq, Nat.reduceAdd, Nat.reduceLT, Nat.reduceLeDiff, Nat.reduceEqDiff, reduceCtorEq, Int.reduceAdd, Int.reduceSub, Int.reduceNeg, Int.reduceLE, Int.reduceLT, Int.reduceToNat, Int.reduceBEq, Int.reduceBNe, Int.reduceEq, Int.reduceNe, Int.toNat_zero, Int.toNat_one, bne_self_eq_false, Nat.reduceMul, Nat.zero_mul, Nat.mul_one, Nat.one_mul, Nat.reduceSub, Int.cast_ofNat_Int, Int.toNat_natCast]
      have hz := dg_nil (a * b)
      have en : (bif neg != neg' then decide ((0 : Int) < ((dg (a * b)).length : Int)) else false) = ((neg != neg') && decide (a * b ≠ 0)) := by
        generalize (neg != neg') = s
        cases s
        · rfl
        · show decide ((0 : Int) < ((dg (a * b)).length : Int)) = (true && decide (a * b ≠ 0))
          rw [Bool.true_and, decide_eq_decide]
          generalize a * b = ab at *
          omega
      simp only [en]
      exact RetQ.ren [(1, 1), (2, 2), (3, 7)] hR hP rfl (by simp (config := { maxSteps := 2000000 }) only [go_sem, Nat.reduceBEq, Nat.reduceAdd, Nat.reduceLT, Nat.reduceLeDiff, Nat.reduceEqDiff, reduceCtorEq, Int.reduceAdd, Int.reduceSub, Int.reduceNeg, Int.reduceLE, Int.reduceLT, Int.reduceToNat, Int.reduceBEq, Int.reduceBNe, Int.reduceEq, Int.reduceNe, Int.toNat_zero, Int.toNat_one, bne_self_eq_false, Nat.reduceMul, Nat.zero_mul, Nat.mul_one, Nat.one_mul, Nat.reduceSub, Int.cast_ofNat_Int, Int.toNat_natCast]) rfl rfl ⟨⟨rfl, rfl⟩, ⟨rfl, rfl⟩, trivial⟩ ⟨.inr ⟨_, rfl, .inl (by rw [inB_ren, ho])⟩, .inr ⟨_, rfl, .inl (inB_ren _ _ _ _)⟩, .inr ⟨_, rfl, .inl (inB_ren _ _ _ _)⟩, trivial⟩ (ClM.of (by simp [Cv.inM])) (ClV.of rfl)
theorem zmul_ (m n : Int) (hm : zlen m) (hn : zlen n) : ∃ p, CallOk Try.prog 75 [bn 1 m, bn 2 n] [bI 1 m, bI 2 n] (bn 3 (m * n)) [bO 3 (m * n) p] := by
  refine ⟨muP m.natAbs n.natAbs, ?_⟩
  have h := zmulN (decide (m < 0)) (decide (n < 0)) m.natAbs n.natAbs hm hn
  have e2 : (m * n).natAbs = m.natAbs * n.natAbs := Int.natAbs_mul m n
  have e3 : decide (m * n < 0) = ((decide (m < 0) != decide (n < 0)) && decide (m.natAbs * n.natAbs ≠ 0)) := by
    rw [← e2]
    by_cases h1 : m < 0
    · by_cases h2 : n < 0
      · have := Int.mul_pos_of_neg_of_neg h1 h2
        rw [decide_eq_true h1, decide_eq_true h2, decide_eq_false (by omega)]; rfl
      · rcases Int.lt_or_le 0 n with h3 | h3
        · have := Int.mul_neg_of_neg_of_pos h1 h3
          rw [decide_eq_true h1, decide_eq_false h2, decide_eq_true this, decide_eq_true (by omega)]; rfl
        · have h0 : n = 0 := by omega
          subst h0; simp
    · by_cases h2 : n < 0
      · rcases Int.lt_or_le 0 m with h3 | h3
        · have := Int.mul_neg_of_pos_of_neg h3 h2
          rw [decide_eq_false h1, decide_eq_true h2, decide_eq_true this, decide_eq_true (by omega)]; rfl
        · have h0 : m = 0 := by omega
          subst h0; simp
      · have := Int.mul_nonneg (show 0 ≤ m by omega) (show 0 ≤ n by omega)
        rw [decide_eq_false h1, decide_eq_false h2, decide_eq_false (by omega)]; rfl
  simp only [bn, bO, e2, e3]
  exact h
end Go.Proofs.Ytnolflocgodffaa
