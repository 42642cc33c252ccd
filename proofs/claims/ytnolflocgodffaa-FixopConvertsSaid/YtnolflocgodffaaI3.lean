/- Big integers: Nearest. -/
import Derived.Test.YtnolflocgodffaaI1
import Derived.Test.YtnolflocgodffaaC6
namespace Go.Proofs.Ytnolflocgodffaa
open Vg Tf
set_option linter.unusedSimpArgs false
set_option linter.unusedVariables false
set_option maxRecDepth 100000
set_option maxHeartbeats 4000000
structure NrSt (t : Ft) (X Y : Int) where
  lo : Int
  hi : Int
  h1 : lo ≤ hi
  h2 : -2147483648 ≤ lo
  h3 : hi ≤ 4294967295
  hr : min (max (rnd 3 X Y) lo) hi = min (max (rnd 3 X Y) (flo t)) (fhi t)
@[reducible] def nrE (lo hi : Int) : Env := [(9, true, I lo), (10, true, I hi), (8, true, .c (.p 8 0)), (11, true, .c (.p 9 0))]
@[reducible] def nrM (p q Y B : Int) (l1 l2 : List Nat) : Mem := [(8, ⟨false, [.v (.bool (decide (Y < 0))), .sl 10 0 (dg Y.natAbs).length 1], 81⟩), (9, ⟨false, [.v (.bool (decide (B < 0))), .sl 11 0 (dg B.natAbs).length 1], 81⟩), bO 10 Y l1, bO 11 B l2, bI 1 p, bI 2 q]
theorem cmp3_le (n : Int) : (decide ((if n = 0 then 0 else if n < 0 then -1 else 1 : Int) ≤ 0)) = decide (n ≤ 0) := by
  rw [decide_eq_decide]
  split
  · omega
  · split <;> omega
theorem znearest_ (t : Ft) (p q : Int) (h : fok t = true) (hn1 : -20282419275553370000000000000000 ≤ p) (hn2 : p ≤ 20282419275553370000000000000000) (hd1 : 1 ≤ q) (hd2 : q ≤ 4722367608777000000000) :
    CallOk Try.prog 57 [fx t, bn 1 p, bn 2 q] [bI 1 p, bI 2 q] (I (fixR t p q)) [] := by
  have hf := fok_bd h
  have hl := flo_bd t h
  have b1 := bd_mul (a := p) (b := t.den) (A := 20282419275553370000000000000000) (B := 1048576) (by omega) (by omega) (by omega) (by omega)
  have b2 := bd_mul (a := q) (b := t.off) (A := 4722367608777000000000) (B := 1073741824) (by omega) (by omega) (by omega) (by omega)
  have b3 := bd_mul (a := q) (b := t.num) (A := 4722367608777000000000) (B := 1048576) (by omega) (by omega) (by omega) (by omega)
  have hY : 0 < q * t.num := Int.mul_pos (by omega) (by omega)
  obtain ⟨l1, m1⟩ := zmul_ p t.den (zlen_of (by omega) (by omega)) (zlen_of (by omega) (by omega))
  obtain ⟨l2, m2⟩ := zmul_ q t.off (zlen_of (by omega) (by omega)) (zlen_of (by omega) (by omega))
  obtain ⟨l3, m3⟩ := zmul_ q t.num (zlen_of (by omega) (by omega)) (zlen_of (by omega) (by omega))
  have hX : p * t.den + -(q * t.off) = p * t.den - t.off * q := by rw [Int.mul_comm q]; omega
  obtain ⟨l4, m4⟩ := zadd_ (p * t.den) (-(q * t.off)) (zlen_of (by omega) (by omega)) (zlen_of (by omega) (by omega))
  obtain ⟨l5, m5⟩ := zmul_ 2 (p * t.den + -(q * t.off)) (zlen_of (by omega) (by omega)) (zlen_of (by omega) (by omega))
  obtain ⟨l6, m6⟩ := zadd_ (2 * (p * t.den + -(q * t.off))) (q * t.num) (zlen_of (by omega) (by omega)) (zlen_of (by omega) (by omega))
  obtain ⟨l7, m7⟩ := zmul_ 2 (q * t.num) (zlen_of (by omega) (by omega)) (zlen_of (by omega) (by omega))
  unfold fixR
  rw [← hX]
  generalize p * t.den = pd at *
  generalize q * t.off = qo at *
  generalize q * t.num = Y at *
  generalize hXX : pd + -qo = X at *
  generalize hBB : 2 * X + Y = B at *
  refine CallOk.mkN 100 Try.func57 rfl en57 (by simp [Try.ntmps57]) (ClA.of rfl) rfl rfl fun C hR hP => ?_
  simp (config := { maxSteps := 2000000 }) only [go_sem, Nat.reduceBEq, Nat.reduceAdd, Nat.reduceLT, Nat.reduceLeDiff, Nat.reduceEqDiff, reduceCtorEq, Int.reduceAdd, Int.reduceSub, Int.reduceNeg, Int.reduceLE, Int.reduceLT, Int.reduceToNat, Int.reduceBEq, Int.reduceBNe, Int.reduceEq, Int.reduceNe, Int.toNat_zero, Int.toNat_one, bne_self_eq_false, Nat.reduceMul, Nat.zero_mul, Nat.mul_one, Nat.one_mul, Nat.reduceSub, Int.cast_ofNat_Int, Int.toNat_natCast]
  refine Sm.dgo 140 13 mix (by decide +kernel) (by decide +kernel) ?_
  simp (config := { maxSteps := 2000000 }) only [go_sem, Nat.reduceBEq, Nat.reduceAdd, Nat.reduceLT, Nat.reduceLeDiff, Nat.reduceEqDiff, reduceCtorEq, Int.reduceAdd, Int.reduceSub, Int.reduceNeg, Int.reduceLE, Int.reduceLT, Int.reduceToNat, Int.reduceBEq, Int.reduceBNe, Int.reduceEq, Int.reduceNe, Int.toNat_zero, Int.toNat_one, bne_self_eq_false, Nat.reduceMul, Nat.zero_mul, Nat.mul_one, Nat.one_mul, Nat.reduceSub, Int.cast_ofNat_Int, Int.toNat_natCast]
  refine DCallQ.ren [(1, 110)] 140 (zof_ t.den (by omega) (by omega)) (ClM.of (by simp [Cv.inM])) rfl rfl trivial rfl (.inl rfl) rfl rfl ?_
  simp only [Mem.ren, List.map_cons, List.map_nil, Bk.ren, List.map_map, V.ren, W.ren, Cv.ren, rn, Nat.reduceBEq, cond_true, cond_false, Function.comp_def]
  simp (config := { maxSteps := 2000000 }) only [go_sem, Nat.reduceBEq, Nat.reduceAdd, Nat.reduceLT, Nat.reduceLeDiff, Nat.reduceEqDiff, reduceCtorEq, Int.reduceAdd, Int.reduceSub, Int.reduceNeg, Int.reduceLE, Int.reduceLT, Int.reduceToNat, Int.reduceBEq, Int.reduceBNe, Int.reduceEq, Int.reduceNe, Int.toNat_zero, Int.toNat_one, bne_self_eq_false, Nat.reduceMul, Nat.zero_mul, Nat.mul_one, Nat.one_mul, Nat.reduceSub, Int.cast_ofNat_Int, Int.toNat_natCast]
  refine DCallQ.seen [(1, 1), (2, 110), (3, 111)] [bO 110 t.den []] 140 (touch01 [] m1) (ClM.of (by simp [Cv.inM])) rfl rfl ⟨⟨_, rfl, .inl (inB_ren _ _ _ _)⟩, ⟨_, rfl, .inl (inB_ren _ _ _ _)⟩, trivial⟩ rfl (.inl rfl) ⟨⟨rfl, rfl⟩, trivial⟩ rfl rfl ?_
  simp only [Mem.ren, List.map_cons, List.map_nil, Bk.ren, List.map_map, V.ren, W.ren, Cv.ren, rn, Nat.reduceBEq, cond_true, cond_false, Function.comp_def]
  simp (config := { maxSteps := 2000000 }) only [go_sem, Nat.reduceBEq, Nat.reduceAdd, Nat.reduceLT, Nat.reduceLeDiff, Nat.reduceEqDiff, reduceCtorEq, Int.reduceAdd, Int.reduceSub, Int.reduceNeg, Int.reduceLE, Int.reduceLT, Int.reduceToNat, Int.reduceBEq, Int.reduceBNe, Int.reduceEq, Int.reduceNe, Int.toNat_zero, Int.toNat_one, bne_self_eq_false, Nat.reduceMul, Nat.zero_mul, Nat.mul_one, Nat.one_mul, Nat.reduceSub, Int.cast_ofNat_Int, Int.toNat_natCast]
  refine DCallQ.ren [(1, 112)] 140 (zof_ t.off (by omega) (by omega)) (ClM.of (by simp [Cv.inM])) rfl rfl trivial rfl (.inl rfl) rfl rfl ?_
  simp only [Mem.ren, List.map_cons, List.map_nil, Bk.ren, List.map_map, V.ren, W.ren, Cv.ren, rn, Nat.reduceBEq, cond_true, cond_false, Function.comp_def]
  simp (config := { maxSteps := 2000000 }) only [go_sem, Nat.reduceBEq, Nat.reduceAdd, Nat.reduceLT, Nat.reduceLeDiff, Nat.reduceEqDiff, reduceCtorEq, Int.reduceAdd, Int.reduceSub, Int.reduceNeg, Int.reduceLE, Int.reduceLT, Int.reduceToNat, Int.reduceBEq, Int.reduceBNe, Int.reduceEq, Int.reduceNe, Int.toNat_zero, Int.toNat_one, bne_self_eq_false, Nat.reduceMul, Nat.zero_mul, Nat.mul_one, Nat.one_mul, Nat.reduceSub, Int.cast_ofNat_Int, Int.toNat_natCast]
  refine DCallQ.seen [(1, 2), (2, 112), (3, 113)] [bO 112 t.off []] 140 (touch01 [] m2) (ClM.of (by simp [Cv.inM])) rfl rfl ⟨⟨_, rfl, .inl (inB_ren _ _ _ _)⟩, ⟨_, rfl, .inl (inB_ren _ _ _ _)⟩, trivial⟩ rfl (.inl rfl) ⟨⟨rfl, rfl⟩, trivial⟩ rfl rfl ?_
  simp only [Mem.ren, List.map_cons, List.map_nil, Bk.ren, List.map_map, V.ren, W.ren, Cv.ren, rn, Nat.reduceBEq, cond_true, cond_false, Function.comp_def]
  simp (config := { maxSteps := 2000000 }) only [go_sem, Nat.reduceBEq, Nat.reduceAdd, Nat.reduceLT, Nat.reduceLeDiff, Nat.reduceEqDiff, reduceCtorEq, Int.reduceAdd, Int.reduceSub, Int.reduceNeg, Int.reduceLE, Int.reduceLT, Int.reduceToNat, Int.reduceBEq, Int.reduceBNe, Int.reduceEq, Int.reduceNe, Int.toNat_zero, Int.toNat_one, bne_self_eq_false, Nat.reduceMul, Nat.zero_mul, Nat.mul_one, Nat.one_mul, Nat.reduceSub, Int.cast_ofNat_Int, Int.toNat_natCast]
  refine DCallQ.seen [(1, 113)] [bO 113 qo l2] 140 (touch1 l2 (zminus_ qo)) (ClM.of (by simp [Cv.inM])) rfl rfl ⟨⟨_, rfl, .inl (inB_ren _ _ _ _)⟩, trivial⟩ rfl (.inl rfl) ⟨⟨rfl, rfl⟩, trivial⟩ rfl rfl ?_
  simp only [Mem.ren, List.map_cons, List.map_nil, Bk.ren, List.map_map, V.ren, W.ren, Cv.ren, rn, Nat.reduceBEq, cond_true, cond_false, Function.comp_def]
  simp (config := { maxSteps := 2000000 }) only [go_sem, Nat.reduceBEq, Nat.reduceAdd, Nat.reduceLT, Nat.reduceLeDiff, Nat.reduceEqDiff, reduceCtorEq, Int.reduceAdd, Int.reduceSub, Int.reduceNeg, Int.reduceLE, Int.reduceLT, Int.reduceToNat, Int.reduceBEq, Int.reduceBNe, Int.reduceEq, Int.reduceNe, Int.toNat_zero, Int.toNat_one, bne_self_eq_false, Nat.reduceMul, Nat.zero_mul, Nat.mul_one, Nat.one_mul, Nat.reduceSub, Int.cast_ofNat_Int, Int.toNat_natCast]
  refine DCallQ.seen [(1, 111), (2, 113), (3, 114)] [bO 111 pd l1, bO 113 qo l2] 140 (touch11 l1 l2 m4) (ClM.of (by simp [Cv.inM])) rfl rfl ⟨⟨_, rfl, .inl (inB_ren _ _ _ _)⟩, ⟨_, rfl, .inl (by rw [inB_ren, Int.natAbs_neg])⟩, trivial⟩ rfl (.inl rfl) ⟨⟨rfl, rfl⟩, ⟨rfl, rfl⟩, trivial⟩ rfl rfl ?_
  simp only [Mem.ren, List.map_cons, List.map_nil, Bk.ren, List.map_map, V.ren, W.ren, Cv.ren, rn, Nat.reduceBEq, cond_true, cond_false, Function.comp_def]
  simp (config := { maxSteps := 2000000 }) only [go_sem, Nat.reduceBEq, Nat.reduceAdd, Nat.reduceLT, Nat.reduceLeDiff, Nat.reduceEqDiff, reduceCtorEq, Int.reduceAdd, Int.reduceSub, Int.reduceNeg, Int.reduceLE, Int.reduceLT, Int.reduceToNat, Int.reduceBEq, Int.reduceBNe, Int.reduceEq, Int.reduceNe, Int.toNat_zero, Int.toNat_one, bne_self_eq_false, Nat.reduceMul, Nat.zero_mul, Nat.mul_one, Nat.one_mul, Nat.reduceSub, Int.cast_ofNat_Int, Int.toNat_natCast]
  refine Sm.dgo 150 6 mix (by decide +kernel) (by decide +kernel) ?_
  simp (config := { maxSteps := 2000000 }) only [go_sem, Nat.reduceBEq, Nat.reduceAdd, Nat.reduceLT, Nat.reduceLeDiff, Nat.reduceEqDiff, reduceCtorEq, Int.reduceAdd, Int.reduceSub, Int.reduceNeg, Int.reduceLE, Int.reduceLT, Int.reduceToNat, Int.reduceBEq, Int.reduceBNe, Int.reduceEq, Int.reduceNe, Int.toNat_zero, Int.toNat_one, bne_self_eq_false, Nat.reduceMul, Nat.zero_mul, Nat.mul_one, Nat.one_mul, Nat.reduceSub, Int.cast_ofNat_Int, Int.toNat_natCast]
  refine DCallQ.ren [(1, 120)] 150 (zof_ t.num (by omega) (by omega)) (ClM.of (by simp [Cv.inM])) rfl rfl trivial rfl (.inl rfl) rfl rfl ?_
  simp only [Mem.ren, List.map_cons, List.map_nil, Bk.ren, List.map_map, V.ren, W.ren, Cv.ren, rn, Nat.reduceBEq, cond_true, cond_false, Function.comp_def]
  simp (config := { maxSteps := 2000000 }) only [go_sem, Nat.reduceBEq, Nat.reduceAdd, Nat.reduceLT, Nat.reduceLeDiff, Nat.reduceEqDiff, reduceCtorEq, Int.reduceAdd, Int.reduceSub, Int.reduceNeg, Int.reduceLE, Int.reduceLT, Int.reduceToNat, Int.reduceBEq, Int.reduceBNe, Int.reduceEq, Int.reduceNe, Int.toNat_zero, Int.toNat_one, bne_self_eq_false, Nat.reduceMul, Nat.zero_mul, Nat.mul_one, Nat.one_mul, Nat.reduceSub, Int.cast_ofNat_Int, Int.toNat_natCast]
  refine DCallQ.seen [(1, 2), (2, 120), (3, 121)] [bO 120 t.num []] 150 (touch01 [] m3) (ClM.of (by simp [Cv.inM])) rfl rfl ⟨⟨_, rfl, .inl (inB_ren _ _ _ _)⟩, ⟨_, rfl, .inl (inB_ren _ _ _ _)⟩, trivial⟩ rfl (.inl rfl) ⟨⟨rfl, rfl⟩, trivial⟩ rfl rfl ?_
  simp only [Mem.ren, List.map_cons, List.map_nil, Bk.ren, List.map_map, V.ren, W.ren, Cv.ren, rn, Nat.reduceBEq, cond_true, cond_false, Function.comp_def]
  simp (config := { maxSteps := 2000000 }) only [go_sem, Nat.reduceBEq, Nat.reduceAdd, Nat.reduceLT, Nat.reduceLeDiff, Nat.reduceEqDiff, reduceCtorEq, Int.reduceAdd, Int.reduceSub, Int.reduceNeg, Int.reduceLE, Int.reduceLT, Int.reduceToNat, Int.reduceBEq, Int.reduceBNe, Int.reduceEq, Int.reduceNe, Int.toNat_zero, Int.toNat_one, bne_self_eq_false, Nat.reduceMul, Nat.zero_mul, Nat.mul_one, Nat.one_mul, Nat.reduceSub, Int.cast_ofNat_Int, Int.toNat_natCast]
  refine CallQ.pure 160 (rlimits t h) rfl ?_
  simp (config := { maxSteps := 2000000 }) only [go_sem, Nat.reduceBEq, Nat.reduceAdd, Nat.reduceLT, Nat.reduceLeDiff, Nat.reduceEqDiff, reduceCtorEq, Int.reduceAdd, Int.reduceSub, Int.reduceNeg, Int.reduceLE, Int.reduceLT, Int.reduceToNat, Int.reduceBEq, Int.reduceBNe, Int.reduceEq, Int.reduceNe, Int.toNat_zero, Int.toNat_one, bne_self_eq_false, Nat.reduceMul, Nat.zero_mul, Nat.mul_one, Nat.one_mul, Nat.reduceSub, Int.cast_ofNat_Int, Int.toNat_natCast]
  refine Sm.dgo 160 6 mix (by decide +kernel) (by decide +kernel) ?_
  simp (config := { maxSteps := 2000000 }) only [go_sem, Nat.reduceBEq, Nat.reduceAdd, Nat.reduceLT, Nat.reduceLeDiff, Nat.reduceEqDiff, reduceCtorEq, Int.reduceAdd, Int.reduceSub, Int.reduceNeg, Int.reduceLE, Int.reduceLT, Int.reduceToNat, Int.reduceBEq, Int.reduceBNe, Int.reduceEq, Int.reduceNe, Int.toNat_zero, Int.toNat_one, bne_self_eq_false, Nat.reduceMul, Nat.zero_mul, Nat.mul_one, Nat.one_mul, Nat.reduceSub, Int.cast_ofNat_Int, Int.toNat_natCast]
  refine DCallQ.ren [(1, 130)] 160 (zof_ 2 (by omega) (by omega)) (ClM.of (by simp [Cv.inM])) rfl rfl trivial rfl (.inl rfl) rfl rfl ?_
  simp only [Mem.ren, List.map_cons, List.map_nil, Bk.ren, List.map_map, V.ren, W.ren, Cv.ren, rn, Nat.reduceBEq, cond_true, cond_false, Function.comp_def]
  simp (config := { maxSteps := 2000000 }) only [go_sem, Nat.reduceBEq, Nat.reduceAdd, Nat.reduceLT, Nat.reduceLeDiff, Nat.reduceEqDiff, reduceCtorEq, Int.reduceAdd, Int.reduceSub, Int.reduceNeg, Int.reduceLE, Int.reduceLT, Int.reduceToNat, Int.reduceBEq, Int.reduceBNe, Int.reduceEq, Int.reduceNe, Int.toNat_zero, Int.toNat_one, bne_self_eq_false, Nat.reduceMul, Nat.zero_mul, Nat.mul_one, Nat.one_mul, Nat.reduceSub, Int.cast_ofNat_Int, Int.toNat_natCast]
  refine DCallQ.seen [(1, 130), (2, 114), (3, 131)] [bO 130 2 []] 160 (touch10 [] m5) (ClM.of (by simp [Cv.inM])) rfl rfl ⟨⟨_, rfl, .inl (inB_ren _ _ _ _)⟩, ⟨_, rfl, bI_ren _ _ _⟩, trivial⟩ rfl (.inl rfl) ⟨⟨rfl, rfl⟩, trivial⟩ rfl rfl ?_
  simp only [Mem.ren, List.map_cons, List.map_nil, Bk.ren, List.map_map, V.ren, W.ren, Cv.ren, rn, Nat.reduceBEq, cond_true, cond_false, Function.comp_def]
  simp (config := { maxSteps := 2000000 }) only [go_sem, Nat.reduceBEq, Nat.reduceAdd, Nat.reduceLT, Nat.reduceLeDiff, Nat.reduceEqDiff, reduceCtorEq, Int.reduceAdd, Int.reduceSub, Int.reduceNeg, Int.reduceLE, Int.reduceLT, Int.reduceToNat, Int.reduceBEq, Int.reduceBNe, Int.reduceEq, Int.reduceNe, Int.toNat_zero, Int.toNat_one, bne_self_eq_false, Nat.reduceMul, Nat.zero_mul, Nat.mul_one, Nat.one_mul, Nat.reduceSub, Int.cast_ofNat_Int, Int.toNat_natCast]
  refine DCallQ.seen [(1, 131), (2, 121), (3, 132)] [bO 131 (2 * X) l5] 160 (touch10 l5 m6) (ClM.of (by simp [Cv.inM])) rfl rfl ⟨⟨_, rfl, .inl (inB_ren _ _ _ _)⟩, ⟨_, rfl, bI_ren _ _ _⟩, trivial⟩ rfl (.inl rfl) ⟨⟨rfl, rfl⟩, trivial⟩ rfl rfl ?_
  simp only [Mem.ren, List.map_cons, List.map_nil, Bk.ren, List.map_map, V.ren, W.ren, Cv.ren, rn, Nat.reduceBEq, cond_true, cond_false, Function.comp_def]
  simp (config := { maxSteps := 2000000 }) only [go_sem, Nat.reduceBEq, Nat.reduceAdd, Nat.reduceLT, Nat.reduceLeDiff, Nat.reduceEqDiff, reduceCtorEq, Int.reduceAdd, Int.reduceSub, Int.reduceNeg, Int.reduceLE, Int.reduceLT, Int.reduceToNat, Int.reduceBEq, Int.reduceBNe, Int.reduceEq, Int.reduceNe, Int.toNat_zero, Int.toNat_one, bne_self_eq_false, Nat.reduceMul, Nat.zero_mul, Nat.mul_one, Nat.one_mul, Nat.reduceSub, Int.cast_ofNat_Int, Int.toNat_natCast]
  refine Sm.loopM (M0 := [bI 1 p, bI 2 q]) (α := NrSt t X Y) hP (fun x => nrE x.lo x.hi) (fun _ => nrM p q Y B l3 l6) (fun x => (x.hi - x.lo).toNat) ⟨flo t, fhi t, by omega, by omega, by omega, rfl⟩
    (fun _ => ClM.of (by simp [Cv.inM, Mem.get])) (fun _ => ClE.of rfl) [(8, 150), (9, 160), (10, 121), (11, 132), (1, 1), (2, 2)] ?_ ?_
  · exact ⟨rfl, ⟨⟨rfl, rfl⟩, ⟨rfl, rfl⟩, trivial⟩, ⟨rfl, rfl, rfl, rfl, trivial⟩, ⟨.inr ⟨_, rfl, .inl rfl⟩, .inr ⟨_, rfl, .inl rfl⟩, .inr ⟨_, rfl, .inl (inB_ren _ _ _ _)⟩, .inr ⟨_, rfl, .inl (inB_ren _ _ _ _)⟩, .inr ⟨_, rfl, .inl (inB_ren _ _ _ _)⟩, .inr ⟨_, rfl, .inl (inB_ren _ _ _ _)⟩, trivial⟩⟩
  rintro ⟨lo, hi, h1, h2, h3, hr⟩ J hb
  simp only at hb ⊢
  refine Sm.go 105 ?_
  simp (config := { maxSteps := 2000000 }) only [go_sem, Nat.reduceBEq, Nat.reduceAdd, Nat.reduceLT, Nat.reduceLeDiff, Nat.reduceEqDiff, reduceCtorEq, Int.reduceAdd, Int.reduceSub, Int.reduceNeg, Int.reduceLE, Int.reduceLT, Int.reduceToNat, Int.reduceBEq, Int.reduceBNe, Int.reduceEq, Int.reduceNe, Int.toNat_zero, Int.toNat_one, bne_self_eq_false, Nat.reduceMul, Nat.zero_mul, Nat.mul_one, Nat.one_mul, Nat.reduceSub, Int.cast_ofNat_Int, Int.toNat_natCast]
  by_cases hlt : lo < hi
  · have e : decide (lo < hi) = true := by simpa using hlt
    simp only [e]
    have k1 : IntKind.i64.wrap (hi - lo) = hi - lo := w64 (by omega) (by omega)
    have k2 : IntKind.i64.wrap (hi - lo + 1) = hi - lo + 1 := w64 (by omega) (by omega)
    have k3 : IntKind.i64.wrap ((hi - lo + 1).tdiv 2) = (hi - lo + 1) / 2 := by rw [Int.tdiv_eq_ediv_of_nonneg (by omega), w64 (by omega) (by omega)]
    have k4 : IntKind.i64.wrap (lo + (hi - lo + 1) / 2) = lo + (hi - lo + 1) / 2 := w64 (by omega) (by omega)
    simp only [k1, k2, k3, k4]
    generalize hmid : lo + (hi - lo + 1) / 2 = mid
    have hm1 : lo < mid := by omega
    have hm2 : mid ≤ hi := by omega
    clear k1 k2 k3 k4
    have b4 := bd_mul (a := 2 * Y) (b := mid) (A := 10000000000000000000000000000) (B := 8589934592) (by omega) (by omega) (by omega) (by omega)
    obtain ⟨l8, m8⟩ := zmul_ (2 * Y) mid (zlen_of (by omega) (by omega)) (zlen_of (by omega) (by omega))
    generalize hZ : 2 * Y * mid = Z at *
    obtain ⟨l9, m9⟩ := zadd_ Z (-B) (zlen_of (by omega) (by omega)) (zlen_of (by omega) (by omega))
    refine Sm.dgo 130 7 mix (by decide +kernel) (by decide +kernel) ?_
    simp (config := { maxSteps := 2000000 }) only [go_sem, Nat.reduceBEq, Nat.reduceAdd, Nat.reduceLT, Nat.reduceLeDiff, Nat.reduceEqDiff, reduceCtorEq, Int.reduceAdd, Int.reduceSub, Int.reduceNeg, Int.reduceLE, Int.reduceLT, Int.reduceToNat, Int.reduceBEq, Int.reduceBNe, Int.reduceEq, Int.reduceNe, Int.toNat_zero, Int.toNat_one, bne_self_eq_false, Nat.reduceMul, Nat.zero_mul, Nat.mul_one, Nat.one_mul, Nat.reduceSub, Int.cast_ofNat_Int, Int.toNat_natCast]
    refine DCallQ.ren [(1, 120)] 130 (zof_ 2 (by omega) (by omega)) (ClM.of (by simp [Cv.inM])) rfl rfl trivial rfl (.inl rfl) rfl rfl ?_
    simp only [Mem.ren, List.map_cons, List.map_nil, Bk.ren, List.map_map, V.ren, W.ren, Cv.ren, rn, Nat.reduceBEq, cond_true, cond_false, Function.comp_def]
    simp (config := { maxSteps := 2000000 }) only [go_sem, Nat.reduceBEq, Nat.reduceAdd, Nat.reduceLT, Nat.reduceLeDiff, Nat.reduceEqDiff, reduceCtorEq, Int.reduceAdd, Int.reduceSub, Int.reduceNeg, Int.reduceLE, Int.reduceLT, Int.reduceToNat, Int.reduceBEq, Int.reduceBNe, Int.reduceEq, Int.reduceNe, Int.toNat_zero, Int.toNat_one, bne_self_eq_false, Nat.reduceMul, Nat.zero_mul, Nat.mul_one, Nat.one_mul, Nat.reduceSub, Int.cast_ofNat_Int, Int.toNat_natCast]
    refine DCallQ.seen [(1, 120), (2, 10), (3, 121)] [bO 120 2 []] 130 (touch10 [] m7) (ClM.of (by simp [Cv.inM])) rfl rfl ⟨⟨_, rfl, .inl (inB_ren _ _ _ _)⟩, ⟨_, rfl, bI_ren _ _ _⟩, trivial⟩ rfl (.inl rfl) ⟨⟨rfl, rfl⟩, trivial⟩ rfl rfl ?_
    simp only [Mem.ren, List.map_cons, List.map_nil, Bk.ren, List.map_map, V.ren, W.ren, Cv.ren, rn, Nat.reduceBEq, cond_true, cond_false, Function.comp_def]
    simp (config := { maxSteps := 2000000 }) only [go_sem, Nat.reduceBEq, Nat.reduceAdd, Nat.reduceLT, Nat.reduceLeDiff, Nat.reduceEqDiff, reduceCtorEq, Int.reduceAdd, Int.reduceSub, Int.reduceNeg, Int.reduceLE, Int.reduceLT, Int.reduceToNat, Int.reduceBEq, Int.reduceBNe, Int.reduceEq, Int.reduceNe, Int.toNat_zero, Int.toNat_one, bne_self_eq_false, Nat.reduceMul, Nat.zero_mul, Nat.mul_one, Nat.one_mul, Nat.reduceSub, Int.cast_ofNat_Int, Int.toNat_natCast]
    refine DCallQ.ren [(1, 122)] 130 (zof_ mid (by omega) (by omega)) (ClM.of (by simp [Cv.inM])) rfl rfl trivial rfl (.inl rfl) rfl rfl ?_
    simp only [Mem.ren, List.map_cons, List.map_nil, Bk.ren, List.map_map, V.ren, W.ren, Cv.ren, rn, Nat.reduceBEq, cond_true, cond_false, Function.comp_def]
    simp (config := { maxSteps := 2000000 }) only [go_sem, Nat.reduceBEq, Nat.reduceAdd, Nat.reduceLT, Nat.reduceLeDiff, Nat.reduceEqDiff, reduceCtorEq, Int.reduceAdd, Int.reduceSub, Int.reduceNeg, Int.reduceLE, Int.reduceLT, Int.reduceToNat, Int.reduceBEq, Int.reduceBNe, Int.reduceEq, Int.reduceNe, Int.toNat_zero, Int.toNat_one, bne_self_eq_false, Nat.reduceMul, Nat.zero_mul, Nat.mul_one, Nat.one_mul, Nat.reduceSub, Int.cast_ofNat_Int, Int.toNat_natCast]
    refine DCallQ.seen [(1, 121), (2, 122), (3, 123)] [bO 121 (2 * Y) l7, bO 122 mid []] 130 (touch11 l7 [] m8) (ClM.of (by simp [Cv.inM])) rfl rfl ⟨⟨_, rfl, .inl (inB_ren _ _ _ _)⟩, ⟨_, rfl, .inl (inB_ren _ _ _ _)⟩, trivial⟩ rfl (.inl rfl) ⟨⟨rfl, rfl⟩, ⟨rfl, rfl⟩, trivial⟩ rfl rfl ?_
    simp only [Mem.ren, List.map_cons, List.map_nil, Bk.ren, List.map_map, V.ren, W.ren, Cv.ren, rn, Nat.reduceBEq, cond_true, cond_false, Function.comp_def]
    simp (config := { maxSteps := 2000000 }) only [go_sem, Nat.reduceBEq, Nat.reduceAdd, Nat.reduceLT, Nat.reduceLeDiff, Nat.reduceEqDiff, reduceCtorEq, Int.reduceAdd, Int.reduceSub, Int.reduceNeg, Int.reduceLE, Int.reduceLT, Int.reduceToNat, Int.reduceBEq, Int.reduceBNe, Int.reduceEq, Int.reduceNe, Int.toNat_zero, Int.toNat_one, bne_self_eq_false, Nat.reduceMul, Nat.zero_mul, Nat.mul_one, Nat.one_mul, Nat.reduceSub, Int.cast_ofNat_Int, Int.toNat_natCast]
    refine CallQ.ren [(1, 11)] 130 (zminus_ B) (ClM.of (by simp [Cv.inM])) rfl rfl ⟨⟨_, rfl, bI_ren _ _ _⟩, trivial⟩ rfl (.inl rfl) ?_
    simp only [Mem.ren, List.map_cons, List.map_nil, Bk.ren, List.map_map, V.ren, W.ren, Cv.ren, rn, Nat.reduceBEq, cond_true, cond_false, Function.comp_def]
    simp (config := { maxSteps := 2000000 }) only [go_sem, Nat.reduceBEq, Nat.reduceAdd, Nat.reduceLT, Nat.reduceLeDiff, Nat.reduceEqDiff, reduceCtorEq, Int.reduceAdd, Int.reduceSub, Int.reduceNeg, Int.reduceLE, Int.reduceLT, Int.reduceToNat, Int.reduceBEq, Int.reduceBNe, Int.reduceEq, Int.reduceNe, Int.toNat_zero, Int.toNat_one, bne_self_eq_false, Nat.reduceMul, Nat.zero_mul, Nat.mul_one, Nat.one_mul, Nat.reduceSub, Int.cast_ofNat_Int, Int.toNat_natCast]
    refine CallQ.ren [(1, 123), (2, 11), (3, 124)] 130 m9 (ClM.of (by simp [Cv.inM])) rfl rfl ⟨⟨_, rfl, bI_ren _ _ _⟩, ⟨_, rfl, bI_neg _ _ _⟩, trivial⟩ rfl (.inl rfl) ?_
    simp only [Mem.ren, List.map_cons, List.map_nil, Bk.ren, List.map_map, V.ren, W.ren, Cv.ren, rn, Nat.reduceBEq, cond_true, cond_false, Function.comp_def]
    simp (config := { maxSteps := 2000000 }) only [go_sem, Nat.reduceBEq, Nat.reduceAdd, Nat.reduceLT, Nat.reduceLeDiff, Nat.reduceEqDiff, reduceCtorEq, Int.reduceAdd, Int.reduceSub, Int.reduceNeg, Int.reduceLE, Int.reduceLT, Int.reduceToNat, Int.reduceBEq, Int.reduceBNe, Int.reduceEq, Int.reduceNe, Int.toNat_zero, Int.toNat_one, bne_self_eq_false, Nat.reduceMul, Nat.zero_mul, Nat.mul_one, Nat.one_mul, Nat.reduceSub, Int.cast_ofNat_Int, Int.toNat_natCast]
    refine CallQ.ren [(1, 124)] 130 (zsign_ (Z + -B)) (ClM.of (by simp [Cv.inM])) rfl rfl ⟨⟨_, rfl, bI_ren _ _ _⟩, trivial⟩ rfl (.inl rfl) ?_
    simp only [Mem.ren, List.map_cons, List.map_nil, Bk.ren, List.map_map, V.ren, W.ren, Cv.ren, rn, Nat.reduceBEq, cond_true, cond_false, Function.comp_def]
    simp (config := { maxSteps := 2000000 }) only [go_sem, Nat.reduceBEq, Nat.reduceAdd, Nat.reduceLT, Nat.reduceLeDiff, Nat.reduceEqDiff, reduceCtorEq, Int.reduceAdd, Int.reduceSub, Int.reduceNeg, Int.reduceLE, Int.reduceLT, Int.reduceToNat, Int.reduceBEq, Int.reduceBNe, Int.reduceEq, Int.reduceNe, Int.toNat_zero, Int.toNat_one, bne_self_eq_false, Nat.reduceMul, Nat.zero_mul, Nat.mul_one, Nat.one_mul, Nat.reduceSub, Int.cast_ofNat_Int, Int.toNat_natCast]
    simp only [cmp3_le]
    have hiff := le_rnd X Y mid hY
    have hZ2 : Y * (2 * mid - 1) = Z - Y := by rw [← hZ]; grind
    by_cases hc : Z + -B ≤ 0
    · have e2 : decide (Z + -B ≤ 0) = true := by simpa using hc
      simp only [e2]
      have := hiff.2 (by omega)
      exact hb _ _ ⟨mid, hi, by omega, by omega, by omega, by omega⟩ [(8, 8), (9, 9), (10, 10), (11, 11), (1, 1), (2, 2)] (by simp only; omega) ⟨rfl, ⟨⟨rfl, rfl⟩, ⟨rfl, rfl⟩, trivial⟩, ⟨rfl, rfl, rfl, rfl, trivial⟩, ⟨.inr ⟨_, rfl, .inl rfl⟩, .inr ⟨_, rfl, .inl rfl⟩, .inr ⟨_, rfl, .inl (inB_ren _ _ _ _)⟩, .inr ⟨_, rfl, .inl (inB_ren _ _ _ _)⟩, .inr ⟨_, rfl, .inl (inB_ren _ _ _ _)⟩, .inr ⟨_, rfl, .inl (inB_ren _ _ _ _)⟩, trivial⟩⟩
    · have e2 : decide (Z + -B ≤ 0) = false := by simpa using hc
      simp only [e2]
      have : ¬ mid ≤ rnd 3 X Y := fun hh => by have := hiff.1 hh; omega
      have k5 : IntKind.i64.wrap (mid - 1) = mid - 1 := w64 (by omega) (by omega)
      simp only [k5]
      exact hb _ _ ⟨lo, mid - 1, by omega, by omega, by omega, by omega⟩ [(8, 8), (9, 9), (10, 10), (11, 11), (1, 1), (2, 2)] (by simp only; omega) ⟨rfl, ⟨⟨rfl, rfl⟩, ⟨rfl, rfl⟩, trivial⟩, ⟨rfl, rfl, rfl, rfl, trivial⟩, ⟨.inr ⟨_, rfl, .inl rfl⟩, .inr ⟨_, rfl, .inl rfl⟩, .inr ⟨_, rfl, .inl (inB_ren _ _ _ _)⟩, .inr ⟨_, rfl, .inl (inB_ren _ _ _ _)⟩, .inr ⟨_, rfl, .inl (inB_ren _ _ _ _)⟩, .inr ⟨_, rfl, .inl (inB_ren _ _ _ _)⟩, trivial⟩⟩
  · have e : decide (lo < hi) = false := by simpa using hlt
    simp only [e]
    refine RetQ.of hR rfl (by simp (config := { maxSteps := 2000000 }) only [go_sem, Nat.reduceBEq, Nat.reduceAdd, Nat.reduceLT, Nat.reduceLeDiff, Nat.reduceEqDiff, reduceCtorEq, Int.reduceAdd, Int.reduceSub, Int.reduceNeg, Int.reduceLE, Int.reduceLT, Int.reduceToNat, Int.reduceBEq, Int.reduceBNe, Int.reduceEq, Int.reduceNe, Int.toNat_zero, Int.toNat_one, bne_self_eq_false, Nat.reduceMul, Nat.zero_mul, Nat.mul_one, Nat.one_mul, Nat.reduceSub, Int.cast_ofNat_Int, Int.toNat_natCast]) ?_ (SubS.sub ⟨⟨_, rfl, .inl rfl⟩, ⟨_, rfl, .inl rfl⟩, trivial⟩) (ClM.of (by simp [Cv.inM])) (ClV.of rfl)
    simp (config := { maxSteps := 2000000 }) only [go_sem, Nat.reduceBEq, Nat.reduceAdd, Nat.reduceLT, Nat.reduceLeDiff, Nat.reduceEqDiff, reduceCtorEq, Int.reduceAdd, Int.reduceSub, Int.reduceNeg, Int.reduceLE, Int.reduceLT, Int.reduceToNat, Int.reduceBEq, Int.reduceBNe, Int.reduceEq, Int.reduceNe, Int.toNat_zero, Int.toNat_one, bne_self_eq_false, Nat.reduceMul, Nat.zero_mul, Nat.mul_one, Nat.one_mul, Nat.reduceSub, Int.cast_ofNat_Int, Int.toNat_natCast]
    rw [show min (max (rnd 3 X Y) (flo t)) (fhi t) = lo by omega]
end Go.Proofs.Ytnolflocgodffaa
