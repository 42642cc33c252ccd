/- Big integers: Add of other signs. -/
import Derived.Test.YtnolflocgodffaaH5
namespace Go.Proofs.Ytnolflocgodffaa
open Vg Tf
set_option linter.unusedSimpArgs false
set_option linter.unusedVariables false
set_option maxRecDepth 100000
set_option maxHeartbeats 2000000
@[reducible] def sbE (i w : Nat) : Env := [(2, true, .c (.p 4 0)), (3, true, .c (.p 5 0)), (4, true, .c (.p 6 0)), (9, true, sL 7 i), (10, true, I w), (11, true, I i)]
@[reducible] def sbM (neg neg' : Bool) (a b : Nat) (out : List Nat) : Mem := [(4, ⟨false, [.v (.bool neg), .sl 1 0 (dg a).length 1], 81⟩), (5, ⟨false, [.v (.bool neg'), .sl 2 0 (dg b).length 1], 81⟩), (6, ⟨false, [.v (.bool false), .v (.slice none 0 0)], 81⟩), (7, ⟨false, out.map dC, 3⟩), inB 1 (dg a), inB 2 (dg b)]
structure SbI (a b : Nat) (i w : Nat) (out : List Nat) : Prop where
  len : out.length = i
  lt : ∀ d ∈ out, d < (16777216 : Nat)
  w1 : w ≤ 1
  val : bval out + (16777216 : Nat) ^ i * bval ((dg a).drop i) + b = a + (16777216 : Nat) ^ i * (bval ((dg b).drop i) + w)
  fin : i ≤ (dg a).length
theorem SbI.step {a b i w : Nat} {out : List Nat} (h : SbI a b i w out) (hi : i < (dg a).length) (d v : Nat) (he : (dg a).getD i 0 + (16777216 : Nat) * v = d + (dg b).getD i 0 + w) (hv : v ≤ 1) (hd : d < (16777216 : Nat)) : SbI a b (i + 1) v (out ++ [d]) := by
  have hv' := h.val
  rw [bval_drop (dg a) i, bval_drop (dg b) i] at hv'
  generalize (dg a).getD i 0 = x at *
  generalize (dg b).getD i 0 = y at *
  refine ⟨by simp [h.len], ?_, hv, ?_, by omega⟩
  · intro c hc
    rcases List.mem_append.1 hc with hc | hc
    · exact h.lt c hc
    · rw [List.mem_singleton.1 hc]; exact hd
  · rw [bval_append, h.len]
    simp only [bval, Nat.pow_succ, Nat.mul_zero, Nat.add_zero]
    have e2 : (16777216 : Nat) ^ i * (x + (16777216 : Nat) * v) = (16777216 : Nat) ^ i * (d + y + w) := by rw [he]
    generalize bval ((dg a).drop (i + 1)) = A at *
    generalize bval ((dg b).drop (i + 1)) = B at *
    simp only [Nat.mul_add, ← Nat.mul_assoc] at *
    omega
theorem dg_le {a b : Nat} (h : b ≤ a) : (dg b).length ≤ (dg a).length := by
  rcases Nat.lt_or_ge (dg a).length (dg b).length with h1 | h1
  · have := dg_len h1; omega
  · exact h1
theorem SbI.done {a b i w : Nat} {out : List Nat} (h : SbI a b i w out) (hb : b ≤ a) (hi : ¬ i < (dg a).length) : bval out = a - b := by
  have hv := h.val
  have hf := h.fin
  have hl := dg_le hb
  rw [List.drop_eq_nil_of_le (by omega), List.drop_eq_nil_of_le (by omega)] at hv
  have h1 := bval_lt out h.lt
  rw [h.len] at h1
  have hw := h.w1
  simp only [bval, Nat.mul_zero, Nat.add_zero, Nat.zero_add] at hv
  rcases (show w = 0 ∨ w = 1 by omega) with rfl | rfl
  · omega
  · omega
def sbP (a b : Nat) : List Nat := List.replicate ((dg a).length - (dg (a - b)).length) 0
theorem SbI.out {a b i w : Nat} {out : List Nat} (h : SbI a b i w out) (hb : b ≤ a) (hi : ¬ i < (dg a).length) : out = dg (a - b) ++ sbP a b := by
  obtain ⟨k, hk⟩ := dg_split out h.lt
  rw [h.done hb hi] at hk
  have hl := congrArg List.length hk
  rw [List.length_append, List.length_replicate, h.len] at hl
  have hf := h.fin
  rw [sbP, show (dg a).length - (dg (a - b)).length = k by omega]
  exact hk
theorem zaddD (neg : Bool) (a b : Nat) (hab : b ≤ a) (hla : (dg a).length ≤ 1000000) (hlb : (dg b).length ≤ 1000000) : CallOk Try.prog 74 [bs 1 neg a, bs 2 (!neg) b] [inB 1 (dg a), inB 2 (dg b)] (bs 3 (neg && decide (a - b ≠ 0)) (a - b)) [(3, ⟨false, (dg (a - b) ++ sbP a b).map dC, 3⟩)] := by
  refine CallOk.mkN 100 Try.func74 rfl en74 (by simp [Try.ntmps74]) (ClA.of rfl) rfl rfl fun C hR hP => ?_
  have hM0 : ClM [inB 1 (dg a), inB 2 (dg b)] := ClM.of (by simp [Cv.inM])
  have e0 : (neg == !neg) = false := by cases neg <;> rfl
  simp (config := { maxSteps := 2000000 }) only [go_sem, Nat.reduceBEq, Nat.reduceAdd, Nat.reduceLT, Nat.reduceLeDiff, Nat.reduceEqDiff, reduceCtorEq, Int.reduceAdd, Int.reduceSub, Int.reduceNeg, Int.reduceLE, Int.reduceLT, Int.reduceToNat, Int.reduceBEq, Int.reduceBNe, Int.reduceEq, Int.reduceNe, Int.toNat_zero, Int.toNat_one, bne_self_eq_false, Nat.reduceMul, Nat.zero_mul, Nat.mul_one, Nat.one_mul, Nat.reduceSub, Int.cast_ofNat_Int, Int.toNat_natCast]
  simp only [e0]
  refine CallQ.ren [(1, 1), (2, 2)] 110 (less_ a b (by omega) (by omega)) hM0 rfl rfl ⟨⟨_, rfl, .inl (inB_ren _ _ _ _)⟩, ⟨_, rfl, .inl (inB_ren _ _ _ _)⟩, trivial⟩ rfl (.inr rfl) ?_
  simp only [fal_of (show ¬ a < b by omega)]
  simp (config := { maxSteps := 2000000 }) only [go_sem, Nat.reduceBEq, Nat.reduceAdd, Nat.reduceLT, Nat.reduceLeDiff, Nat.reduceEqDiff, reduceCtorEq, Int.reduceAdd, Int.reduceSub, Int.reduceNeg, Int.reduceLE, Int.reduceLT, Int.reduceToNat, Int.reduceBEq, Int.reduceBNe, Int.reduceEq, Int.reduceNe, Int.toNat_zero, Int.toNat_one, bne_self_eq_false, Nat.reduceMul, Nat.zero_mul, Nat.mul_one, Nat.one_mul, Nat.reduceSub, Int.cast_ofNat_Int, Int.toNat_natCast]
  refine Sm.nils 110 1 3 [9] [] rfl ?_
  simp (config := { maxSteps := 2000000 }) only [go_sem, Nat.reduceBEq, Nat.reduceAdd, Nat.reduceLT, Nat.reduceLeDiff, Nat.reduceEqDiff, reduceCtorEq, Int.reduceAdd, Int.reduceSub, Int.reduceNeg, Int.reduceLE, Int.reduceLT, Int.reduceToNat, Int.reduceBEq, Int.reduceBNe, Int.reduceEq, Int.reduceNe, Int.toNat_zero, Int.toNat_one, bne_self_eq_false, Nat.reduceMul, Nat.zero_mul, Nat.mul_one, Nat.one_mul, Nat.reduceSub, Int.cast_ofNat_Int, Int.toNat_natCast]
  refine Sm.loopM (M0 := [inB 1 (dg a), inB 2 (dg b)]) (α := { s : Nat × Nat × List Nat // SbI a b s.1 s.2.1 s.2.2 }) hP (fun s => sbE s.val.1 s.val.2.1) (fun s => sbM neg (!neg) a b s.val.2.2) (fun s => (dg a).length - s.val.1) ⟨(0, 0, []), ⟨rfl, by simp, Nat.zero_le _, by simp [bval, bval_dg], Nat.zero_le _⟩⟩
    (fun _ => ClM.of (by simp [Cv.inM, Mem.get])) (fun _ => ClE.of rfl) [(1, 1), (2, 2), (4, 100), (5, 101), (6, 102), (7, 110)] ?_ ?_
  · exact ⟨rfl, ⟨⟨rfl, rfl⟩, ⟨rfl, rfl⟩, trivial⟩, ⟨rfl, rfl, rfl, rfl, rfl, rfl, trivial⟩, ⟨.inr ⟨_, rfl, .inl rfl⟩, .inr ⟨_, rfl, .inl rfl⟩, .inr ⟨_, rfl, .inl rfl⟩, .inr ⟨_, rfl, .inl rfl⟩, .inr ⟨_, rfl, .inl (inB_ren _ _ _ _)⟩, .inr ⟨_, rfl, .inl (inB_ren _ _ _ _)⟩, trivial⟩⟩
  · rintro ⟨⟨i, w, out⟩, hI⟩ J hb
    simp only at hb hI ⊢
    have hlen := hI.len
    have hw1 := hI.w1
    have hf := hI.fin
    refine Sm.go 120 ?_
    simp (config := { maxSteps := 2000000 }) only [go_sem, Nat.reduceBEq, Nat.reduceAdd, Nat.reduceLT, Nat.reduceLeDiff, Nat.reduceEqDiff, reduceCtorEq, Int.reduceAdd, Int.reduceSub, Int.reduceNeg, Int.reduceLE, Int.reduceLT, Int.reduceToNat, Int.reduceBEq, Int.reduceBNe, Int.reduceEq, Int.reduceNe, Int.toNat_zero, Int.toNat_one, bne_self_eq_false, Nat.reduceMul, Nat.zero_mul, Nat.mul_one, Nat.one_mul, Nat.reduceSub, Int.cast_ofNat_Int, Int.toNat_natCast]
    by_cases hc : i < (dg a).length
    · simp only [tru_of (show (i : Int) < ((dg a).length : Int) by omega)]
      refine Sm.dgo 120 12 mix (by decide +kernel) (by decide +kernel) ?_
      simp (config := { maxSteps := 2000000 }) only [go_sem, Nat.reduceBEq, Nat.reduceAdd, Nat.reduceLT, Nat.reduceLeDiff, Nat.reduceEqDiff, reduceCtorEq, Int.reduceAdd, Int.reduceSub, Int.reduceNeg, Int.reduceLE, Int.reduceLT, Int.reduceToNat, Int.reduceBEq, Int.reduceBNe, Int.reduceEq, Int.reduceNe, Int.toNat_zero, Int.toNat_one, bne_self_eq_false, Nat.reduceMul, Nat.zero_mul, Nat.mul_one, Nat.one_mul, Nat.reduceSub, Int.cast_ofNat_Int, Int.toNat_natCast]
      simp only [getD_map hc]
      simp (config := { maxSteps := 2000000 }) only [go_sem, Nat.reduceBEq, Nat.reduceAdd, Nat.reduceLT, Nat.reduceLeDiff, Nat.reduceEqDiff, reduceCtorEq, Int.reduceAdd, Int.reduceSub, Int.reduceNeg, Int.reduceLE, Int.reduceLT, Int.reduceToNat, Int.reduceBEq, Int.reduceBNe, Int.reduceEq, Int.reduceNe, Int.toNat_zero, Int.toNat_one, bne_self_eq_false, Nat.reduceMul, Nat.zero_mul, Nat.mul_one, Nat.one_mul, Nat.reduceSub, Int.cast_ofNat_Int, Int.toNat_natCast]
      refine ⟨⟨by omega, by omega⟩, ?_⟩
      refine DCallQ.ren [(1, 2)] 120 (digit_ (dg b) i) (ClM.of (by simp [Cv.inM])) rfl rfl ⟨⟨_, rfl, .inl (inB_ren _ _ _ _)⟩, trivial⟩ rfl (.inr rfl) rfl rfl ?_
      simp (config := { maxSteps := 2000000 }) only [go_sem, Nat.reduceBEq, Nat.reduceAdd, Nat.reduceLT, Nat.reduceLeDiff, Nat.reduceEqDiff, reduceCtorEq, Int.reduceAdd, Int.reduceSub, Int.reduceNeg, Int.reduceLE, Int.reduceLT, Int.reduceToNat, Int.reduceBEq, Int.reduceBNe, Int.reduceEq, Int.reduceNe, Int.toNat_zero, Int.toNat_one, bne_self_eq_false, Nat.reduceMul, Nat.zero_mul, Nat.mul_one, Nat.one_mul, Nat.reduceSub, Int.cast_ofNat_Int, Int.toNat_natCast]
      have hx := dg_d a i
      have hy := dg_d b i
      have hst := hI.step hc
      generalize (dg a).getD i 0 = x at *
      generalize (dg b).getD i 0 = y at *
      have w1 : IntKind.i64.wrap ((x : Int) - (y : Int)) = (x : Int) - y := w64 (by omega) (by omega)
      have w2 : IntKind.i64.wrap ((x : Int) - (y : Int) - w) = (x : Int) - y - w := w64 (by omega) (by omega)
      have w6 : IntKind.i64.wrap ((i : Int) + 1) = ((i + 1 : Nat) : Int) := by rw [w64 (by omega) (by omega)]; omega
      have htk : List.take i (List.map dC out) = List.map dC out := List.take_of_length_le (by simp; omega)
      by_cases hd : (x : Int) - y - w < 0
      · have w3 : IntKind.i64.wrap ((x : Int) - (y : Int) - w + 16777216) = ((x + (16777216 : Nat) - y - w : Nat) : Int) := by rw [w64 (by omega) (by omega)]; omega
        simp only [w1, w2, tru_of hd, w3, w6, htk]
        exact ⟨⟨by simp; omega, by omega, by omega⟩, hb _ _ ⟨(i + 1, 1, out ++ [x + (16777216 : Nat) - y - w]), hst _ 1 (by omega) (by omega) (by omega)⟩ [(1, 1), (2, 2), (4, 4), (5, 5), (6, 6), (7, 121)] (by simp only; omega) ⟨rfl, ⟨⟨rfl, rfl⟩, ⟨rfl, rfl⟩, trivial⟩, ⟨rfl, rfl, rfl, rfl, rfl, rfl, trivial⟩, ⟨.inr ⟨_, rfl, .inl rfl⟩, .inr ⟨_, rfl, .inl rfl⟩, .inr ⟨_, rfl, .inl rfl⟩, .inr ⟨_, rfl, .inl (by rw [inB_ren]; simp)⟩, .inr ⟨_, rfl, .inl (inB_ren _ _ _ _)⟩, .inr ⟨_, rfl, .inl (inB_ren _ _ _ _)⟩, trivial⟩⟩⟩
      · have w3 : (x : Int) - (y : Int) - w = ((x - y - w : Nat) : Int) := by omega
        simp only [w1, w2, fal_of hd, w6, htk]
        simp only [w3]
        exact ⟨⟨by simp; omega, by omega, by omega⟩, hb _ _ ⟨(i + 1, 0, out ++ [x - y - w]), hst _ 0 (by omega) (by omega) (by omega)⟩ [(1, 1), (2, 2), (4, 4), (5, 5), (6, 6), (7, 121)] (by simp only; omega) ⟨rfl, ⟨⟨rfl, rfl⟩, ⟨rfl, rfl⟩, trivial⟩, ⟨rfl, rfl, rfl, rfl, rfl, rfl, trivial⟩, ⟨.inr ⟨_, rfl, .inl rfl⟩, .inr ⟨_, rfl, .inl rfl⟩, .inr ⟨_, rfl, .inl rfl⟩, .inr ⟨_, rfl, .inl (by rw [inB_ren]; simp)⟩, .inr ⟨_, rfl, .inl (inB_ren _ _ _ _)⟩, .inr ⟨_, rfl, .inl (inB_ren _ _ _ _)⟩, trivial⟩⟩⟩
    · simp only [fal_of (show ¬ (i : Int) < ((dg a).length : Int) by omega)]
      have ho := hI.out hab hc
      have hv := hI.done hab hc
      have htr := trim_ out hI.lt (by omega)
      rw [hlen, hv] at htr
      refine CallQ.ren [(1, 7)] 120 htr (ClM.of (by simp [Cv.inM])) rfl rfl ⟨⟨_, rfl, .inr ⟨rfl, [], by simp [Bk.ren, Function.comp_def, Cv.ren]⟩⟩, trivial⟩ rfl (.inr rfl) ?_
      simp (config := { maxSteps := 2000000 }) only [go_sem, Nat.reduceBEq, Nat.reduceAdd, Nat.reduceLT, Nat.reduceLeDiff, Nat.reduceEqDiff, reduceCtorEq, Int.reduceAdd, Int.reduceSub, Int.reduceNeg, Int.reduceLE, Int.reduceLT, Int.reduceToNat, Int.reduceBEq, Int.reduceBNe, Int.reduceEq, Int.reduceNe, Int.toNat_zero, Int.toNat_one, bne_self_eq_false, Nat.reduceMul, Nat.zero_mul, Nat.mul_one, Nat.one_mul, Nat.reduceSub, Int.cast_ofNat_Int, Int.toNat_natCast]
      have hz := dg_nil (a - b)
      have en : (bif neg then decide ((0 : Int) < ((dg (a - b)).length : Int)) else false) = (neg && decide (a - b ≠ 0)) := by
        cases neg
        · rfl
        · show decide ((0 : Int) < ((dg (a - b)).length : Int)) = (true && decide (a - b ≠ 0))
          rw [Bool.true_and, decide_eq_decide]; omega
      simp only [en]
      exact RetQ.ren [(1, 1), (2, 2), (3, 7)] hR hP rfl (by simp (config := { maxSteps := 2000000 }) only [go_sem, Nat.reduceBEq, Nat.reduceAdd, Nat.reduceLT, Nat.reduceLeDiff, Nat.reduceEqDiff, reduceCtorEq, Int.reduceAdd, Int.reduceSub, Int.reduceNeg, Int.reduceLE, Int.reduceLT, Int.reduceToNat, Int.reduceBEq, Int.reduceBNe, Int.reduceEq, Int.reduceNe, Int.toNat_zero, Int.toNat_one, bne_self_eq_false, Nat.reduceMul, Nat.zero_mul, Nat.mul_one, Nat.one_mul, Nat.reduceSub, Int.cast_ofNat_Int, Int.toNat_natCast]) rfl rfl ⟨⟨rfl, rfl⟩, ⟨rfl, rfl⟩, trivial⟩ ⟨.inr ⟨_, rfl, .inl (by rw [inB_ren, ho])⟩, .inr ⟨_, rfl, .inl (inB_ren _ _ _ _)⟩, .inr ⟨_, rfl, .inl (inB_ren _ _ _ _)⟩, trivial⟩ (ClM.of (by simp [Cv.inM])) (ClV.of rfl)
@[go_sem] theorem dC_ren (f : Nat → Nat) (l : List Nat) : List.map (Cv.ren f) (List.map dC l) = List.map dC l := by simp [Function.comp_def, Cv.ren]
theorem zaddD' (neg : Bool) (a b : Nat) (hab : a < b) (hla : (dg a).length ≤ 1000000) (hlb : (dg b).length ≤ 1000000) : CallOk Try.prog 74 [bs 1 neg a, bs 2 (!neg) b] [inB 1 (dg a), inB 2 (dg b)] (bs 3 (!neg) (b - a)) [(3, ⟨false, (dg (b - a) ++ sbP b a).map dC, 3⟩)] := by
  refine CallOk.mkN 100 Try.func74 rfl en74 (by simp [Try.ntmps74]) (ClA.of rfl) rfl rfl fun C hR hP => ?_
  have hM0 : ClM [inB 1 (dg a), inB 2 (dg b)] := ClM.of (by simp [Cv.inM])
  have hM1 : ClM [inB 1 (dg b), inB 2 (dg a)] := ClM.of (by simp [Cv.inM])
  have e0 : (neg == !neg) = false := by cases neg <;> rfl
  have hc := zaddD (!neg) b a (by omega) hlb hla
  rw [Bool.not_not, show ((!neg) && decide (b - a ≠ 0)) = !neg by rw [decide_eq_true (by omega), Bool.and_true]] at hc
  simp (config := { maxSteps := 2000000 }) only [go_sem, Nat.reduceBEq, Nat.reduceAdd, Nat.reduceLT, Nat.reduceLeDiff, Nat.reduceEqDiff, reduceCtorEq, Int.reduceAdd, Int.reduceSub, Int.reduceNeg, Int.reduceLE, Int.reduceLT, Int.reduceToNat, Int.reduceBEq, Int.reduceBNe, Int.reduceEq, Int.reduceNe, Int.toNat_zero, Int.toNat_one, bne_self_eq_false, Nat.reduceMul, Nat.zero_mul, Nat.mul_one, Nat.one_mul, Nat.reduceSub, Int.cast_ofNat_Int, Int.toNat_natCast]
  simp only [e0]
  refine CallQ.ren [(1, 1), (2, 2)] 110 (less_ a b (by omega) (by omega)) hM0 rfl rfl ⟨⟨_, rfl, .inl (inB_ren _ _ _ _)⟩, ⟨_, rfl, .inl (inB_ren _ _ _ _)⟩, trivial⟩ rfl (.inr rfl) ?_
  simp only [tru_of hab]
  simp (config := { maxSteps := 2000000 }) only [go_sem, Nat.reduceBEq, Nat.reduceAdd, Nat.reduceLT, Nat.reduceLeDiff, Nat.reduceEqDiff, reduceCtorEq, Int.reduceAdd, Int.reduceSub, Int.reduceNeg, Int.reduceLE, Int.reduceLT, Int.reduceToNat, Int.reduceBEq, Int.reduceBNe, Int.reduceEq, Int.reduceNe, Int.toNat_zero, Int.toNat_one, bne_self_eq_false, Nat.reduceMul, Nat.zero_mul, Nat.mul_one, Nat.one_mul, Nat.reduceSub, Int.cast_ofNat_Int, Int.toNat_natCast]
  refine CallQ.ren [(1, 2), (2, 1), (3, 120)] 130 hc hM1 rfl rfl ⟨⟨_, rfl, .inl (inB_ren _ _ _ _)⟩, ⟨_, rfl, .inl (inB_ren _ _ _ _)⟩, trivial⟩ rfl (.inl rfl) ?_
  simp (config := { maxSteps := 2000000 }) only [go_sem, Nat.reduceBEq, Nat.reduceAdd, Nat.reduceLT, Nat.reduceLeDiff, Nat.reduceEqDiff, reduceCtorEq, Int.reduceAdd, Int.reduceSub, Int.reduceNeg, Int.reduceLE, Int.reduceLT, Int.reduceToNat, Int.reduceBEq, Int.reduceBNe, Int.reduceEq, Int.reduceNe, Int.toNat_zero, Int.toNat_one, bne_self_eq_false, Nat.reduceMul, Nat.zero_mul, Nat.mul_one, Nat.one_mul, Nat.reduceSub, Int.cast_ofNat_Int, Int.toNat_natCast]
  exact RetQ.ren [(1, 1), (2, 2), (3, 120)] hR hP rfl (by simp (config := { maxSteps := 2000000 }) only [go_sem, Nat.reduceBEq, Nat.reduceAdd, Nat.reduceLT, Nat.reduceLeDiff, Nat.reduceEqDiff, reduceCtorEq, Int.reduceAdd, Int.reduceSub, Int.reduceNeg, Int.reduceLE, Int.reduceLT, Int.reduceToNat, Int.reduceBEq, Int.reduceBNe, Int.reduceEq, Int.reduceNe, Int.toNat_zero, Int.toNat_one, bne_self_eq_false, Nat.reduceMul, Nat.zero_mul, Nat.mul_one, Nat.one_mul, Nat.reduceSub, Int.cast_ofNat_Int, Int.toNat_natCast]) rfl rfl ⟨⟨rfl, rfl⟩, ⟨rfl, rfl⟩, trivial⟩ ⟨.inr ⟨_, rfl, .inl (inB_ren _ _ _ _)⟩, .inr ⟨_, rfl, .inl (inB_ren _ _ _ _)⟩, .inr ⟨_, rfl, .inl (inB_ren _ _ _ _)⟩, trivial⟩ (ClM.of (by simp [Cv.inM])) (ClV.of rfl)
end Go.Proofs.Ytnolflocgodffaa
