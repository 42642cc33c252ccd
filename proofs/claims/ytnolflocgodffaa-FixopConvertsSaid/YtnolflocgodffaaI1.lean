/- Big integers: Compare. -/
import Derived.Test.YtnolflocgodffaaH9
import Derived.Test.YtnolflocgodffaaD4
namespace Go.Proofs.Ytnolflocgodffaa
open Vg Tf
set_option linter.unusedSimpArgs false
set_option linter.unusedVariables false
set_option maxRecDepth 100000
set_option maxHeartbeats 2000000
theorem bI_ren (L : List (Nat × Nat)) (m : Int) (p : List Nat) : Wk ((⟨true, (dg m.natAbs).map dC, 3⟩ : Bk).ren (rn L)) ⟨false, (dg m.natAbs ++ p).map dC, 3⟩ := by rw [inB_ren]; exact bI_sub m p
theorem bI_neg (L : List (Nat × Nat)) (m : Int) (p : List Nat) : Wk ((⟨true, (dg (-m).natAbs).map dC, 3⟩ : Bk).ren (rn L)) ⟨false, (dg m.natAbs ++ p).map dC, 3⟩ := by rw [Int.natAbs_neg]; exact bI_ren L m p
theorem zsmall {m : Int} (h1 : -20282419275553370000000000000000 ≤ m) (h2 : m ≤ 20282419275553370000000000000000) : zlen m := zlen_of (by omega) (by omega)
def cmp3 (n : Int) : Int := if n = 0 then 0 else if n < 0 then -1 else 1
theorem zcompare_ (a : Ft) (x : Int) (b : Ft) (y : Int) (ha : fok a = true) (hx : fin a x = true) (hb : fok b = true) (hy : fin b y = true) :
    CallOk Try.prog 33 [va a x, va b y] [] (I (cmp3 (fnu a x * b.den - fnu b y * a.den))) [] := by
  have h1 := fnu_bd ha hx
  have h2 := fnu_bd hb hy
  have hf := fok_bd ha
  have hg := fok_bd hb
  have p1 := bd_mul (a := fnu a x) (b := b.den) (A := 4503600701112320) (B := 1048576) (by omega) (by omega) (by omega) (by omega)
  have p2 := bd_mul (a := fnu b y) (b := a.den) (A := 4503600701112320) (B := 1048576) (by omega) (by omega) (by omega) (by omega)
  refine CallOk.mkN 100 Try.func33 rfl en33 (by simp [Try.ntmps33]) (ClA.of rfl) rfl rfl fun C hR hP => ?_
  simp (config := { maxSteps := 2000000 }) only [go_sem, Nat.reduceBEq, Nat.reduceAdd, Nat.reduceLT, Nat.reduceLeDiff, Nat.reduceEqDiff, reduceCtorEq, Int.reduceAdd, Int.reduceSub, Int.reduceNeg, Int.reduceLE, Int.reduceLT, Int.reduceToNat, Int.reduceBEq, Int.reduceBNe, Int.reduceEq, Int.reduceNe, Int.toNat_zero, Int.toNat_one, bne_self_eq_false, Nat.reduceMul, Nat.zero_mul, Nat.mul_one, Nat.one_mul, Nat.reduceSub, Int.cast_ofNat_Int, Int.toNat_natCast]
  refine CallQ.ren [(1, 110), (2, 111)] 112 (znum_ a x ha hx) (ClM.of (by simp [Cv.inM])) rfl rfl trivial rfl (.inl rfl) ?_
  simp only [Mem.ren, List.map_cons, List.map_nil, Bk.ren, List.map_map, V.ren, W.ren, Cv.ren, rn, Nat.reduceBEq, cond_true, cond_false, Function.comp_def]
  simp (config := { maxSteps := 2000000 }) only [go_sem, Nat.reduceBEq, Nat.reduceAdd, Nat.reduceLT, Nat.reduceLeDiff, Nat.reduceEqDiff, reduceCtorEq, Int.reduceAdd, Int.reduceSub, Int.reduceNeg, Int.reduceLE, Int.reduceLT, Int.reduceToNat, Int.reduceBEq, Int.reduceBNe, Int.reduceEq, Int.reduceNe, Int.toNat_zero, Int.toNat_one, bne_self_eq_false, Nat.reduceMul, Nat.zero_mul, Nat.mul_one, Nat.one_mul, Nat.reduceSub, Int.cast_ofNat_Int, Int.toNat_natCast]
  refine CallQ.ren [(1, 120), (2, 121)] 122 (znum_ b y hb hy) (ClM.of (by simp [Cv.inM])) rfl rfl trivial rfl (.inl rfl) ?_
  simp only [Mem.ren, List.map_cons, List.map_nil, Bk.ren, List.map_map, V.ren, W.ren, Cv.ren, rn, Nat.reduceBEq, cond_true, cond_false, Function.comp_def]
  simp (config := { maxSteps := 2000000 }) only [go_sem, Nat.reduceBEq, Nat.reduceAdd, Nat.reduceLT, Nat.reduceLeDiff, Nat.reduceEqDiff, reduceCtorEq, Int.reduceAdd, Int.reduceSub, Int.reduceNeg, Int.reduceLE, Int.reduceLT, Int.reduceToNat, Int.reduceBEq, Int.reduceBNe, Int.reduceEq, Int.reduceNe, Int.toNat_zero, Int.toNat_one, bne_self_eq_false, Nat.reduceMul, Nat.zero_mul, Nat.mul_one, Nat.one_mul, Nat.reduceSub, Int.cast_ofNat_Int, Int.toNat_natCast]
  refine Sm.dgo 130 5 mix (by decide +kernel) (by decide +kernel) ?_
  simp (config := { maxSteps := 2000000 }) only [go_sem, Nat.reduceBEq, Nat.reduceAdd, Nat.reduceLT, Nat.reduceLeDiff, Nat.reduceEqDiff, reduceCtorEq, Int.reduceAdd, Int.reduceSub, Int.reduceNeg, Int.reduceLE, Int.reduceLT, Int.reduceToNat, Int.reduceBEq, Int.reduceBNe, Int.reduceEq, Int.reduceNe, Int.toNat_zero, Int.toNat_one, bne_self_eq_false, Nat.reduceMul, Nat.zero_mul, Nat.mul_one, Nat.one_mul, Nat.reduceSub, Int.cast_ofNat_Int, Int.toNat_natCast]
  obtain ⟨q1, m1⟩ := zmul_ (fnu a x) b.den (zsmall (by omega) (by omega)) (zsmall (by omega) (by omega))
  obtain ⟨q2, m2⟩ := zmul_ (fnu b y) a.den (zsmall (by omega) (by omega)) (zsmall (by omega) (by omega))
  generalize hP1 : fnu a x * b.den = P1 at *
  generalize hP2 : fnu b y * a.den = P2 at *
  obtain ⟨q3, m3⟩ := zadd_ P1 (-P2) (zsmall (by omega) (by omega)) (zsmall (by omega) (by omega))
  refine DCallQ.ren [(1, 110), (2, 121), (3, 130)] 131 m1 (ClM.of (by simp [Cv.inM])) rfl rfl ⟨⟨_, rfl, bI_ren _ _ _⟩, ⟨_, rfl, bI_ren _ _ _⟩, trivial⟩ rfl (.inl rfl) rfl rfl ?_
  simp only [Mem.ren, List.map_cons, List.map_nil, Bk.ren, List.map_map, V.ren, W.ren, Cv.ren, rn, Nat.reduceBEq, cond_true, cond_false, Function.comp_def]
  simp (config := { maxSteps := 2000000 }) only [go_sem, Nat.reduceBEq, Nat.reduceAdd, Nat.reduceLT, Nat.reduceLeDiff, Nat.reduceEqDiff, reduceCtorEq, Int.reduceAdd, Int.reduceSub, Int.reduceNeg, Int.reduceLE, Int.reduceLT, Int.reduceToNat, Int.reduceBEq, Int.reduceBNe, Int.reduceEq, Int.reduceNe, Int.toNat_zero, Int.toNat_one, bne_self_eq_false, Nat.reduceMul, Nat.zero_mul, Nat.mul_one, Nat.one_mul, Nat.reduceSub, Int.cast_ofNat_Int, Int.toNat_natCast]
  refine CallQ.ren [(1, 120), (2, 111), (3, 131)] 132 m2 (ClM.of (by simp [Cv.inM])) rfl rfl ⟨⟨_, rfl, bI_ren _ _ _⟩, ⟨_, rfl, bI_ren _ _ _⟩, trivial⟩ rfl (.inl rfl) ?_
  simp only [Mem.ren, List.map_cons, List.map_nil, Bk.ren, List.map_map, V.ren, W.ren, Cv.ren, rn, Nat.reduceBEq, cond_true, cond_false, Function.comp_def]
  simp (config := { maxSteps := 2000000 }) only [go_sem, Nat.reduceBEq, Nat.reduceAdd, Nat.reduceLT, Nat.reduceLeDiff, Nat.reduceEqDiff, reduceCtorEq, Int.reduceAdd, Int.reduceSub, Int.reduceNeg, Int.reduceLE, Int.reduceLT, Int.reduceToNat, Int.reduceBEq, Int.reduceBNe, Int.reduceEq, Int.reduceNe, Int.toNat_zero, Int.toNat_one, bne_self_eq_false, Nat.reduceMul, Nat.zero_mul, Nat.mul_one, Nat.one_mul, Nat.reduceSub, Int.cast_ofNat_Int, Int.toNat_natCast]
  refine CallQ.ren [(1, 131)] 132 (zminus_ P2) (ClM.of (by simp [Cv.inM])) rfl rfl ⟨⟨_, rfl, by simp only [inB_ren]; exact bI_sub _ _⟩, trivial⟩ rfl (.inl rfl) ?_
  simp only [Mem.ren, List.map_cons, List.map_nil, Bk.ren, List.map_map, V.ren, W.ren, Cv.ren, rn, Nat.reduceBEq, cond_true, cond_false, Function.comp_def]
  simp (config := { maxSteps := 2000000 }) only [go_sem, Nat.reduceBEq, Nat.reduceAdd, Nat.reduceLT, Nat.reduceLeDiff, Nat.reduceEqDiff, reduceCtorEq, Int.reduceAdd, Int.reduceSub, Int.reduceNeg, Int.reduceLE, Int.reduceLT, Int.reduceToNat, Int.reduceBEq, Int.reduceBNe, Int.reduceEq, Int.reduceNe, Int.toNat_zero, Int.toNat_one, bne_self_eq_false, Nat.reduceMul, Nat.zero_mul, Nat.mul_one, Nat.one_mul, Nat.reduceSub, Int.cast_ofNat_Int, Int.toNat_natCast]
  refine CallQ.ren [(1, 130), (2, 131), (3, 132)] 133 m3 (ClM.of (by simp [Cv.inM])) rfl rfl ⟨⟨_, rfl, bI_ren _ _ _⟩, ⟨_, rfl, bI_neg _ _ _⟩, trivial⟩ rfl (.inl rfl) ?_
  simp only [Mem.ren, List.map_cons, List.map_nil, Bk.ren, List.map_map, V.ren, W.ren, Cv.ren, rn, Nat.reduceBEq, cond_true, cond_false, Function.comp_def]
  simp (config := { maxSteps := 2000000 }) only [go_sem, Nat.reduceBEq, Nat.reduceAdd, Nat.reduceLT, Nat.reduceLeDiff, Nat.reduceEqDiff, reduceCtorEq, Int.reduceAdd, Int.reduceSub, Int.reduceNeg, Int.reduceLE, Int.reduceLT, Int.reduceToNat, Int.reduceBEq, Int.reduceBNe, Int.reduceEq, Int.reduceNe, Int.toNat_zero, Int.toNat_one, bne_self_eq_false, Nat.reduceMul, Nat.zero_mul, Nat.mul_one, Nat.one_mul, Nat.reduceSub, Int.cast_ofNat_Int, Int.toNat_natCast]
  refine CallQ.ren [(1, 132)] 133 (zsign_ (P1 + -P2)) (ClM.of (by simp [Cv.inM])) rfl rfl ⟨⟨_, rfl, bI_ren _ _ _⟩, trivial⟩ rfl (.inl rfl) ?_
  simp only [Mem.ren, List.map_cons, List.map_nil, Bk.ren, List.map_map, V.ren, W.ren, Cv.ren, rn, Nat.reduceBEq, cond_true, cond_false, Function.comp_def]
  simp (config := { maxSteps := 2000000 }) only [go_sem, Nat.reduceBEq, Nat.reduceAdd, Nat.reduceLT, Nat.reduceLeDiff, Nat.reduceEqDiff, reduceCtorEq, Int.reduceAdd, Int.reduceSub, Int.reduceNeg, Int.reduceLE, Int.reduceLT, Int.reduceToNat, Int.reduceBEq, Int.reduceBNe, Int.reduceEq, Int.reduceNe, Int.toNat_zero, Int.toNat_one, bne_self_eq_false, Nat.reduceMul, Nat.zero_mul, Nat.mul_one, Nat.one_mul, Nat.reduceSub, Int.cast_ofNat_Int, Int.toNat_natCast]
  exact RetQ.int hR rfl ⟨rfl, trivial⟩ (by rw [← Int.sub_eq_add_neg]; rfl)
end Go.Proofs.Ytnolflocgodffaa
