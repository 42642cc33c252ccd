/- Frame: names among signals (slices.ContainsFunc with a closure). -/
import Derived.Test.YtcdclmelnnbdnaaA4
namespace Go.Proofs.Ytcdclmelnnbdnaa
open Vg Tf
set_option linter.unusedSimpArgs false
set_option linter.unusedVariables false
set_option maxRecDepth 100000
set_option maxHeartbeats 4000000
theorem ss_len (l : List Sg) : (l.flatMap sgL).length = l.length * 10 := by
  induction l with
  | nil => rfl
  | cons s l ih => rw [List.flatMap_cons, List.length_append, ih, List.length_cons, Nat.succ_mul, Nat.add_comm]; rfl
theorem ss_take : ∀ (l : List Sg) (i : Nat) (h : i < l.length), ((l.flatMap sgL).drop (i * 10)).take 10 = sgL l[i]
  | s :: l, 0, _ => by rw [List.flatMap_cons]; rfl
  | s :: l, i + 1, h => by
    have e : (i + 1) * 10 = (sgL s).length + i * 10 := by show _ = 10 + _; omega
    rw [List.flatMap_cons, e, ← List.drop_drop, List.drop_left]
    exact ss_take l i (by simpa using h)
@[reducible] def bS (nm : Nat) (l : List Sg) : Nat × Bk := (nm, ⟨true, l.flatMap sgL, 33⟩)
@[reducible] def bS1 (nm : Nat) (s : Sg) : Nat × Bk := (nm, ⟨true, sgL s, 33⟩)
def sameN (s u : Sg) : Bool := s.nm.data.toList == u.nm.data.toList
theorem fcl (x s : Sg) : CallOk Try.prog 109 [sg x, .c (.p 2 0)] [bS1 2 s] (Bo (sameN x s)) [] := by
  refine CallOk.mkN 100 Try.func109 rfl en109 (by simp [Try.ntmps109]) (ClA.of rfl) rfl rfl fun C hR hP => ?_
  simp (config := { maxSteps := 2000000 }) only [go_sem, Nat.reduceBEq, Nat.reduceAdd, Nat.reduceLT, Nat.reduceLeDiff, Nat.reduceEqDiff, reduceCtorEq, Int.reduceAdd, Int.reduceSub, Int.reduceNeg, Int.reduceLE, Int.reduceLT, Int.reduceToNat, Int.reduceBEq, Int.reduceBNe, Int.reduceEq, Int.reduceNe, Int.toNat_zero, Int.toNat_one, bne_self_eq_false, Nat.reduceMul, Nat.zero_mul, Nat.mul_one, Nat.one_mul, Nat.reduceSub, Int.cast_ofNat_Int, Int.toNat_natCast]
  exact RetQ.of hR rfl ⟨rfl, trivial⟩ rfl (Sub.one rfl (.inl rfl)) (ClM.of rfl) (ClV.of rfl)
/-- The place of the first of that name. -/
def ixN (s : Sg) : List Sg → Int → Int
  | [], _ => -1
  | x :: l, k => bif sameN x s then k else ixN s l (k + 1)
theorem ixN_step (s : Sg) (l : List Sg) (i : Nat) (h : i < l.length) (k : Int) : ixN s (l.drop i) k = bif sameN l[i] s then k else ixN s (l.drop (i + 1)) (k + 1) := by
  rw [List.drop_eq_getElem_cons h]; rfl
theorem sixf (l : List Sg) (n : Nat) (hn : n ≤ l.length) (hl : l.length ≤ 1000000) (s : Sg) : CallOk Try.prog 111 [.c (.sl 1 0 n 10), .c (.fn 109 [(2, 0)])] [bS 1 l, bS1 2 s] (I (ixN s (l.take n) 0)) [] := by
  refine CallOk.mkN 100 Try.func111 rfl en111 (by simp [Try.ntmps111]) (ClA.of rfl) rfl rfl fun C hR hP => ?_
  simp (config := { maxSteps := 2000000 }) only [go_sem, Nat.reduceBEq, Nat.reduceAdd, Nat.reduceLT, Nat.reduceLeDiff, Nat.reduceEqDiff, reduceCtorEq, Int.reduceAdd, Int.reduceSub, Int.reduceNeg, Int.reduceLE, Int.reduceLT, Int.reduceToNat, Int.reduceBEq, Int.reduceBNe, Int.reduceEq, Int.reduceNe, Int.toNat_zero, Int.toNat_one, bne_self_eq_false, Nat.reduceMul, Nat.zero_mul, Nat.mul_one, Nat.one_mul, Nat.reduceSub, Int.cast_ofNat_Int, Int.toNat_natCast]
  have hM : ClM [bS 1 l, bS1 2 s] := ClM.v (by simp only [List.all_cons, v_s, v_ss]; rfl)
  refine Sm.loopM (M0 := [bS 1 l, bS1 2 s]) (α := { i : Nat // i ≤ n ∧ ixN s (l.take n) 0 = ixN s ((l.take n).drop i) i }) hP (fun i => [(0, true, .c (.sl 1 0 n 10)), (1, true, .c (.fn 109 [(2, 0)])), (7, true, I n), (8, true, I i.val)]) (fun _ => [bS 1 l, bS1 2 s]) (fun i => n - i.val) ⟨0, by omega, rfl⟩ (fun _ => hM) (fun _ => ClE.of rfl) [(1, 1), (2, 2)] ?_ ?_
  · exact ⟨rfl, ⟨⟨rfl, rfl⟩, ⟨rfl, rfl⟩, trivial⟩, ⟨rfl, rfl, rfl, rfl, trivial⟩, ⟨.inr ⟨_, rfl, .inl (renV (v_ss _))⟩, .inr ⟨_, rfl, .inl (renV (v_s _))⟩, trivial⟩⟩
  · rintro ⟨i, hi, hx⟩ J hb
    simp only at hb ⊢
    refine Sm.go 120 ?_
    simp (config := { maxSteps := 2000000 }) only [go_sem, Nat.reduceBEq, Nat.reduceAdd, Nat.reduceLT, Nat.reduceLeDiff, Nat.reduceEqDiff, reduceCtorEq, Int.reduceAdd, Int.reduceSub, Int.reduceNeg, Int.reduceLE, Int.reduceLT, Int.reduceToNat, Int.reduceBEq, Int.reduceBNe, Int.reduceEq, Int.reduceNe, Int.toNat_zero, Int.toNat_one, bne_self_eq_false, Nat.reduceMul, Nat.zero_mul, Nat.mul_one, Nat.one_mul, Nat.reduceSub, Int.cast_ofNat_Int, Int.toNat_natCast]
    refine mtch (fun hc => ?_) (fun hc => ?_)
    · have hc : i < n := by simp at hc; omega
      have hx' := ixN_step s (l.take n) i (by simp; omega) (i : Int)
      rw [List.getElem_take] at hx'
      have w1 : IntKind.i64.wrap ((i : Int) + 1) = ((i + 1 : Nat) : Int) := by rw [w64 (by omega) (by omega)]; omega
      have htk := ss_take l i (by omega)
      simp only [htk]
      refine ⟨⟨by omega, by omega⟩, by rw [ss_len]; omega, ?_⟩
      refine CallQ.ren [(2, 2)] 120 (fcl l[i] s) (ClM.of rfl) rfl rfl ⟨⟨_, rfl, .inl rfl⟩, trivial⟩ rfl (.inr rfl) ?_
      simp (config := { maxSteps := 2000000 }) only [go_sem, Nat.reduceBEq, Nat.reduceAdd, Nat.reduceLT, Nat.reduceLeDiff, Nat.reduceEqDiff, reduceCtorEq, Int.reduceAdd, Int.reduceSub, Int.reduceNeg, Int.reduceLE, Int.reduceLT, Int.reduceToNat, Int.reduceBEq, Int.reduceBNe, Int.reduceEq, Int.reduceNe, Int.toNat_zero, Int.toNat_one, bne_self_eq_false, Nat.reduceMul, Nat.zero_mul, Nat.mul_one, Nat.one_mul, Nat.reduceSub, Int.cast_ofNat_Int, Int.toNat_natCast]
      refine mtch (fun hd => ?_) (fun hd => ?_)
      · refine RetQ.of hR rfl ⟨rfl, trivial⟩ ?_ (Sub.refl _) hM (ClV.of rfl)
        rw [hx, hx', hd]; rfl
      · simp only [w1]
        refine hb _ _ ⟨i + 1, hc, ?_⟩ [(1, 1), (2, 2)] (by simp only; omega) ⟨rfl, ⟨⟨rfl, rfl⟩, ⟨rfl, rfl⟩, trivial⟩, ⟨rfl, rfl, rfl, rfl, trivial⟩, ⟨.inr ⟨_, rfl, .inl (renV (v_ss _))⟩, .inr ⟨_, rfl, .inl (renV (v_s _))⟩, trivial⟩⟩
        rw [hx, hx', hd]; rfl
    · have hc : i = n := by simp at hc; omega
      refine RetQ.of hR rfl ⟨rfl, trivial⟩ ?_ (Sub.refl _) hM (ClV.of rfl)
      rw [hx, List.drop_eq_nil_of_le (by simp; omega)]; rfl
theorem ixN_any (s : Sg) : ∀ (l : List Sg) (k : Int), 0 ≤ k → decide (0 ≤ ixN s l k) = l.any (fun x => sameN x s)
  | [], k, _ => by simp [ixN]
  | x :: l, k, h => by
    rw [ixN, List.any_cons]
    cases sameN x s with
    | true => simp [h]
    | false => rw [cond_false, Bool.false_or]; exact ixN_any s l (k + 1) (by omega)
theorem scon (l : List Sg) (n : Nat) (hn : n ≤ l.length) (hl : l.length ≤ 1000000) (s : Sg) : CallOk Try.prog 108 [.c (.sl 1 0 n 10), .c (.fn 109 [(2, 0)])] [bS 1 l, bS1 2 s] (Bo ((l.take n).any fun x => sameN x s)) [] := by
  have hM : ClM [bS 1 l, bS1 2 s] := ClM.v (by simp only [List.all_cons, v_s, v_ss]; rfl)
  refine CallOk.mkN 100 Try.func108 rfl en108 (by simp [Try.ntmps108]) (ClA.of rfl) rfl rfl fun C hR hP => ?_
  simp (config := { maxSteps := 2000000 }) only [go_sem, Nat.reduceBEq, Nat.reduceAdd, Nat.reduceLT, Nat.reduceLeDiff, Nat.reduceEqDiff, reduceCtorEq, Int.reduceAdd, Int.reduceSub, Int.reduceNeg, Int.reduceLE, Int.reduceLT, Int.reduceToNat, Int.reduceBEq, Int.reduceBNe, Int.reduceEq, Int.reduceNe, Int.toNat_zero, Int.toNat_one, bne_self_eq_false, Nat.reduceMul, Nat.zero_mul, Nat.mul_one, Nat.one_mul, Nat.reduceSub, Int.cast_ofNat_Int, Int.toNat_natCast]
  refine CallQ.ren [(1, 1), (2, 2)] 120 (sixf l n hn hl s) hM rfl rfl ⟨⟨_, rfl, .inl (renV (v_ss _))⟩, ⟨_, rfl, .inl (renV (v_s _))⟩, trivial⟩ rfl (.inr rfl) ?_
  simp (config := { maxSteps := 2000000 }) only [go_sem, Nat.reduceBEq, Nat.reduceAdd, Nat.reduceLT, Nat.reduceLeDiff, Nat.reduceEqDiff, reduceCtorEq, Int.reduceAdd, Int.reduceSub, Int.reduceNeg, Int.reduceLE, Int.reduceLT, Int.reduceToNat, Int.reduceBEq, Int.reduceBNe, Int.reduceEq, Int.reduceNe, Int.toNat_zero, Int.toNat_one, bne_self_eq_false, Nat.reduceMul, Nat.zero_mul, Nat.mul_one, Nat.one_mul, Nat.reduceSub, Int.cast_ofNat_Int, Int.toNat_natCast]
  refine RetQ.of hR rfl ⟨rfl, trivial⟩ ?_ (Sub.refl _) hM (ClV.of rfl)
  rw [← ixN_any s (l.take n) 0 (by omega)]; rfl
/-- Among no frames there is none. -/
theorem fixf (t u : TypeId) (cs : List Cv) (hcs : cs.all Cv.isV = true ∨ True) : CallOk Try.prog 107 [.c (.sl 1 0 0 5), .c (.fn 96 [(2, 0)])] [(1, ⟨true, [], t⟩), (2, ⟨true, [], u⟩)] (I (-1)) [] := by
  refine CallOk.mkN 100 Try.func107 rfl en107 (by simp [Try.ntmps107]) (ClA.of rfl) rfl rfl fun C hR hP => ?_
  simp (config := { maxSteps := 2000000 }) only [go_sem, Nat.reduceBEq, Nat.reduceAdd, Nat.reduceLT, Nat.reduceLeDiff, Nat.reduceEqDiff, reduceCtorEq, Int.reduceAdd, Int.reduceSub, Int.reduceNeg, Int.reduceLE, Int.reduceLT, Int.reduceToNat, Int.reduceBEq, Int.reduceBNe, Int.reduceEq, Int.reduceNe, Int.toNat_zero, Int.toNat_one, bne_self_eq_false, Nat.reduceMul, Nat.zero_mul, Nat.mul_one, Nat.one_mul, Nat.reduceSub, Int.cast_ofNat_Int, Int.toNat_natCast]
  refine Sm.unroll 1 (Sm.go 120 ?_)
  simp (config := { maxSteps := 2000000 }) only [go_sem, Nat.reduceBEq, Nat.reduceAdd, Nat.reduceLT, Nat.reduceLeDiff, Nat.reduceEqDiff, reduceCtorEq, Int.reduceAdd, Int.reduceSub, Int.reduceNeg, Int.reduceLE, Int.reduceLT, Int.reduceToNat, Int.reduceBEq, Int.reduceBNe, Int.reduceEq, Int.reduceNe, Int.toNat_zero, Int.toNat_one, bne_self_eq_false, Nat.reduceMul, Nat.zero_mul, Nat.mul_one, Nat.one_mul, Nat.reduceSub, Int.cast_ofNat_Int, Int.toNat_natCast]
  exact RetQ.of hR rfl ⟨rfl, trivial⟩ rfl (Sub.refl _) (ClM.of rfl) (ClV.of rfl)
theorem fcon (t u : TypeId) : CallOk Try.prog 95 [.c (.sl 1 0 0 5), .c (.fn 96 [(2, 0)])] [(1, ⟨true, [], t⟩), (2, ⟨true, [], u⟩)] (Bo false) [] := by
  refine CallOk.mkN 100 Try.func95 rfl en95 (by simp [Try.ntmps95]) (ClA.of rfl) rfl rfl fun C hR hP => ?_
  simp (config := { maxSteps := 2000000 }) only [go_sem, Nat.reduceBEq, Nat.reduceAdd, Nat.reduceLT, Nat.reduceLeDiff, Nat.reduceEqDiff, reduceCtorEq, Int.reduceAdd, Int.reduceSub, Int.reduceNeg, Int.reduceLE, Int.reduceLT, Int.reduceToNat, Int.reduceBEq, Int.reduceBNe, Int.reduceEq, Int.reduceNe, Int.toNat_zero, Int.toNat_one, bne_self_eq_false, Nat.reduceMul, Nat.zero_mul, Nat.mul_one, Nat.one_mul, Nat.reduceSub, Int.cast_ofNat_Int, Int.toNat_natCast]
  refine CallQ.ren [(1, 1), (2, 2)] 120 (fixf t u [] (.inr trivial)) (ClM.of rfl) rfl rfl ⟨⟨_, rfl, .inl rfl⟩, ⟨_, rfl, .inl rfl⟩, trivial⟩ rfl (.inr rfl) ?_
  simp (config := { maxSteps := 2000000 }) only [go_sem, Nat.reduceBEq, Nat.reduceAdd, Nat.reduceLT, Nat.reduceLeDiff, Nat.reduceEqDiff, reduceCtorEq, Int.reduceAdd, Int.reduceSub, Int.reduceNeg, Int.reduceLE, Int.reduceLT, Int.reduceToNat, Int.reduceBEq, Int.reduceBNe, Int.reduceEq, Int.reduceNe, Int.toNat_zero, Int.toNat_one, bne_self_eq_false, Nat.reduceMul, Nat.zero_mul, Nat.mul_one, Nat.one_mul, Nat.reduceSub, Int.cast_ofNat_Int, Int.toNat_natCast]
  exact RetQ.of hR rfl ⟨rfl, trivial⟩ rfl (Sub.refl _) (ClM.of rfl) (ClV.of rfl)
end Go.Proofs.Ytcdclmelnnbdnaa
