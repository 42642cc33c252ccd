/- Big integers: the contracts for inputs that were made in the same region; Number. -/
import Derived.Test.YtnolflocgodffaaH8
import Derived.Test.YtnolflocgodffaaVt
namespace Go.Proofs.Ytnolflocgodffaa
open Vg Tf
set_option linter.unusedSimpArgs false
set_option linter.unusedVariables false
set_option maxRecDepth 100000
set_option maxHeartbeats 2000000
theorem bI_sub (m : Int) (p : List Nat) : Wk (⟨true, (dg m.natAbs).map dC, 3⟩ : Bk) ⟨false, (dg m.natAbs ++ p).map dC, 3⟩ := .inr ⟨rfl, p.map dC, by simp⟩
theorem touch11 {f : FuncId} {m n r : Int} {p : List Nat} (p1 p2 : List Nat) (h : CallOk Try.prog f [bn 1 m, bn 2 n] [bI 1 m, bI 2 n] (bn 3 r) [bO 3 r p]) : CallOk Try.prog f [bn 1 m, bn 2 n] [bO 1 m p1, bO 2 n p2] (bn 3 r) [bO 3 r p, bO 1 m p1, bO 2 n p2] := by
  refine h.touch (K := [bO 1 m p1, bO 2 n p2]) ?_ (SubS.sub ⟨⟨_, rfl, bI_sub _ _⟩, ⟨_, rfl, bI_sub _ _⟩, trivial⟩) (ClM.of (by simp [Cv.inM])) ?_ ?_ ?_
  all_goals (intro n; simp only [Mem.get]; grind)
theorem touch10 {f : FuncId} {m n r : Int} {p : List Nat} (p1 : List Nat) (h : CallOk Try.prog f [bn 1 m, bn 2 n] [bI 1 m, bI 2 n] (bn 3 r) [bO 3 r p]) : CallOk Try.prog f [bn 1 m, bn 2 n] [bO 1 m p1, bI 2 n] (bn 3 r) [bO 3 r p, bO 1 m p1] := by
  refine h.touch (K := [bO 1 m p1]) ?_ (SubS.sub ⟨⟨_, rfl, bI_sub _ _⟩, ⟨_, rfl, .inl rfl⟩, trivial⟩) (ClM.of (by simp [Cv.inM])) ?_ ?_ ?_
  all_goals (intro n; simp only [Mem.get]; grind)
theorem touch01 {f : FuncId} {m n r : Int} {p : List Nat} (p2 : List Nat) (h : CallOk Try.prog f [bn 1 m, bn 2 n] [bI 1 m, bI 2 n] (bn 3 r) [bO 3 r p]) : CallOk Try.prog f [bn 1 m, bn 2 n] [bI 1 m, bO 2 n p2] (bn 3 r) [bO 3 r p, bO 2 n p2] := by
  refine h.touch (K := [bO 2 n p2]) ?_ (SubS.sub ⟨⟨_, rfl, .inl rfl⟩, ⟨_, rfl, bI_sub _ _⟩, trivial⟩) (ClM.of (by simp [Cv.inM])) ?_ ?_ ?_
  all_goals (intro n; simp only [Mem.get]; grind)
theorem touch1 {f : FuncId} {m : Int} {v : V} (p1 : List Nat) (h : CallOk Try.prog f [bn 1 m] [bI 1 m] v []) : CallOk Try.prog f [bn 1 m] [bO 1 m p1] v [bO 1 m p1] := by
  refine h.touch (K := [bO 1 m p1]) ?_ (SubS.sub ⟨⟨_, rfl, bI_sub _ _⟩, trivial⟩) (ClM.of (by simp [Cv.inM])) ?_ ?_ ?_
  all_goals (intro n; simp only [Mem.get]; grind)
theorem zlen_of {m : Int} (h1 : -1606938044258990275541962092341162602522202993782792835301376 ≤ m) (h2 : m ≤ 1606938044258990275541962092341162602522202993782792835301376) : zlen m := by
  have := dg_bound m.natAbs 9 (by omega)
  unfold zlen
  omega
@[go_sem] def bW (nm : Nat) (n : Int) : W := .agg [.v (.bool (decide (n < 0))), .sl nm 0 (dg n.natAbs).length 1]
theorem znum_ (t : Ft) (r : Int) (h : fok t = true) (hw : fin t r = true) : CallOk Try.prog 56 [fx t, I r] [] (.tup [bW 1 (fnu t r), bW 2 t.den]) [bO 1 (fnu t r) [], bO 2 t.den []] := by
  have hb := fnu_bd h hw
  have hf := fok_bd h
  refine CallOk.mkN 100 Try.func56 rfl en56 (by simp [Try.ntmps56]) (ClA.of rfl) rfl rfl fun C hR hP => ?_
  simp (config := { maxSteps := 2000000 }) only [go_sem, Nat.reduceBEq, Nat.reduceAdd, Nat.reduceLT, Nat.reduceLeDiff, Nat.reduceEqDiff, reduceCtorEq, Int.reduceAdd, Int.reduceSub, Int.reduceNeg, Int.reduceLE, Int.reduceLT, Int.reduceToNat, Int.reduceBEq, Int.reduceBNe, Int.reduceEq, Int.reduceNe, Int.toNat_zero, Int.toNat_one, bne_self_eq_false, Nat.reduceMul, Nat.zero_mul, Nat.mul_one, Nat.one_mul, Nat.reduceSub, Int.cast_ofNat_Int, Int.toNat_natCast]
  refine Sm.dgo 110 10 mix (by decide +kernel) (by decide +kernel) ?_
  simp (config := { maxSteps := 2000000 }) only [go_sem, Nat.reduceBEq, Nat.reduceAdd, Nat.reduceLT, Nat.reduceLeDiff, Nat.reduceEqDiff, reduceCtorEq, Int.reduceAdd, Int.reduceSub, Int.reduceNeg, Int.reduceLE, Int.reduceLT, Int.reduceToNat, Int.reduceBEq, Int.reduceBNe, Int.reduceEq, Int.reduceNe, Int.toNat_zero, Int.toNat_one, bne_self_eq_false, Nat.reduceMul, Nat.zero_mul, Nat.mul_one, Nat.one_mul, Nat.reduceSub, Int.cast_ofNat_Int, Int.toNat_natCast]
  have w1 : IntKind.i64.wrap (r * t.num) = r * t.num := by unfold fnu at hb; exact w64 (by omega) (by omega)
  have w2 : IntKind.i64.wrap (r * t.num + t.off) = fnu t r := by unfold fnu at hb ⊢; exact w64 (by omega) (by omega)
  simp only [w1, w2]
  refine DCallQ.ren [(1, 110)] 111 (zof_ (fnu t r) (by omega) (by omega)) (ClM.of (by simp [Cv.inM])) rfl rfl trivial rfl (.inl rfl) rfl rfl ?_
  simp only [Mem.ren, List.map_cons, List.map_nil, Bk.ren, List.map_map, V.ren, W.ren, Cv.ren, rn, Nat.reduceBEq, cond_true, cond_false, Function.comp_def]
  simp (config := { maxSteps := 2000000 }) only [go_sem, Nat.reduceBEq, Nat.reduceAdd, Nat.reduceLT, Nat.reduceLeDiff, Nat.reduceEqDiff, reduceCtorEq, Int.reduceAdd, Int.reduceSub, Int.reduceNeg, Int.reduceLE, Int.reduceLT, Int.reduceToNat, Int.reduceBEq, Int.reduceBNe, Int.reduceEq, Int.reduceNe, Int.toNat_zero, Int.toNat_one, bne_self_eq_false, Nat.reduceMul, Nat.zero_mul, Nat.mul_one, Nat.one_mul, Nat.reduceSub, Int.cast_ofNat_Int, Int.toNat_natCast]
  refine CallQ.ren [(1, 111)] 112 (zof_ t.den (by omega) (by omega)) (ClM.of (by simp [Cv.inM])) rfl rfl trivial rfl (.inl rfl) ?_
  simp only [Mem.ren, List.map_cons, List.map_nil, Bk.ren, List.map_map, V.ren, W.ren, Cv.ren, rn, Nat.reduceBEq, cond_true, cond_false, Function.comp_def]
  simp (config := { maxSteps := 2000000 }) only [go_sem, Nat.reduceBEq, Nat.reduceAdd, Nat.reduceLT, Nat.reduceLeDiff, Nat.reduceEqDiff, reduceCtorEq, Int.reduceAdd, Int.reduceSub, Int.reduceNeg, Int.reduceLE, Int.reduceLT, Int.reduceToNat, Int.reduceBEq, Int.reduceBNe, Int.reduceEq, Int.reduceNe, Int.toNat_zero, Int.toNat_one, bne_self_eq_false, Nat.reduceMul, Nat.zero_mul, Nat.mul_one, Nat.one_mul, Nat.reduceSub, Int.cast_ofNat_Int, Int.toNat_natCast]
  exact RetQ.ren [(1, 110), (2, 111)] hR hP rfl (by simp (config := { maxSteps := 2000000 }) only [go_sem, Nat.reduceBEq, Nat.reduceAdd, Nat.reduceLT, Nat.reduceLeDiff, Nat.reduceEqDiff, reduceCtorEq, Int.reduceAdd, Int.reduceSub, Int.reduceNeg, Int.reduceLE, Int.reduceLT, Int.reduceToNat, Int.reduceBEq, Int.reduceBNe, Int.reduceEq, Int.reduceNe, Int.toNat_zero, Int.toNat_one, bne_self_eq_false, Nat.reduceMul, Nat.zero_mul, Nat.mul_one, Nat.one_mul, Nat.reduceSub, Int.cast_ofNat_Int, Int.toNat_natCast]) rfl rfl trivial ⟨.inr ⟨_, rfl, .inl (inB_ren _ _ _ _)⟩, .inr ⟨_, rfl, .inl (inB_ren _ _ _ _)⟩, trivial⟩ (ClM.of (by simp [Cv.inM])) (ClV.of rfl)
end Go.Proofs.Ytnolflocgodffaa
