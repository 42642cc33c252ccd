/- The text of a number, by the reference. -/
import Derived.Test.YtoioclmfjmgaaaaDoorFT2
import Derived.Test.YtoioclmfjmgaaaaDoorFC9
namespace Go.Proofs.YtoioclmfjmgaaaaDoor.Fx
open Vg Tf
set_option linter.unusedSimpArgs false
set_option linter.unusedVariables false
set_option maxRecDepth 100000
set_option maxHeartbeats 4000000
/-- Digits put ahead, as long as a number is left or the text is too short. -/
inductive Rd (w : Int) : Nat → List UInt8 → List UInt8 → Prop
  | stop {acc : List UInt8} : ¬ ((acc.length : Int) < w) → Rd w 0 acc acc
  | step {n : Nat} {acc r : List UInt8} : (0 < n ∨ (acc.length : Int) < w) → Rd w (n / 10) (UInt8.ofNat (48 + n % 10) :: acc) r → Rd w n acc r
theorem rd_big (w : Int) : ∀ (f n : Nat) (acc : List UInt8), n ≤ f → 0 < n → w ≤ acc.length + 1 → Rd w n acc (Lib.decDigits n ++ acc)
  | 0, n, acc, h, h0, _ => by omega
  | f + 1, n, acc, h, h0, hw => by
    refine .step (.inl h0) ?_
    by_cases hn : n < 10
    · rw [Lib.decDigits_one hn, show n / 10 = 0 by omega, show n % 10 = n by omega]
      exact .stop (by simp; omega)
    · rw [Lib.decDigits, dif_neg hn, List.append_assoc]
      exact rd_big w f (n / 10) _ (by omega) (by omega) (by simp; omega)
/-- At least one digit: the number's own. -/
theorem rd_one (n : Nat) : Rd 1 n [] (Lib.decDigits n) := by
  by_cases h : n = 0
  · subst h
    refine .step (.inr (by simp)) ?_
    rw [Lib.decDigits_one (by omega)]
    exact .stop (by simp)
  · have := rd_big 1 n n [] (Nat.le_refl _) (by omega) (by simp)
    rwa [List.append_nil] at this
theorem dd_drop (n : Nat) (h : 10 ≤ n) : (Lib.decDigits n).drop 1 = (Lib.decDigits (n / 10)).drop 1 ++ [UInt8.ofNat (48 + n % 10)] := by
  rw [Lib.decDigits, dif_neg (by omega)]
  have hl := (dd_len (n / 10) (n / 10) (Nat.lt_of_lt_of_le (Nat.lt_pow_self (by omega : 1 < 10)) (Nat.pow_le_pow_right (by omega) (by omega)))).1
  cases hd : Lib.decDigits (n / 10) with
  | nil => rw [hd] at hl; simp at hl
  | cons x l => simp
/-- As many digits as asked. -/
theorem rd_pad (w : Nat) : ∀ (j n : Nat) (acc : List UInt8), n < 10 ^ j → acc.length + j = w → Rd w n acc ((Lib.decDigits (10 ^ j + n)).drop 1 ++ acc)
  | 0, n, acc, h, hl => by
    obtain rfl : n = 0 := by omega
    rw [show 10 ^ 0 + 0 = 1 from rfl, Lib.decDigits_one (by omega)]
    exact .stop (by omega)
  | j + 1, n, acc, h, hl => by
    have hp : 0 < 10 ^ j := Nat.pow_pos (by omega)
    have e : 10 ^ (j + 1) = 10 * 10 ^ j := by rw [Nat.pow_succ, Nat.mul_comm]
    refine .step (.inr (by omega)) ?_
    rw [dd_drop _ (by omega), List.append_assoc, show (10 ^ (j + 1) + n) / 10 = 10 ^ j + n / 10 by omega, show (10 ^ (j + 1) + n) % 10 = n % 10 by omega]
    exact rd_pad w j (n / 10) _ (by omega) (by simp; omega)
theorem rdec_ (n : Nat) (w : Int) (r : List UInt8) (hn : n ≤ 9000000000000000) (hw : w ≤ 30) (hr : Rd w n [] r) : CallOk Tryd.prog 55 [I n, I w] [] (S r) [] := by
  refine CallOk.mkN 100 Tryd.func55 rfl en55 (by simp [Tryd.ntmps55]) (ClA.of rfl) rfl rfl fun C hR hP => ?_
  simp (config := { maxSteps := 2000000 }) only [go_sem, Nat.reduceBEq, Nat.reduceAdd, Nat.reduceLT, Nat.reduceLeDiff, Nat.reduceEqDiff, reduceCtorEq, Int.reduceAdd, Int.reduceSub, Int.reduceNeg, Int.reduceLE, Int.reduceLT, Int.reduceToNat, Int.reduceBEq, Int.reduceBNe, Int.reduceEq, Int.reduceNe, Int.toNat_zero, Int.toNat_one, bne_self_eq_false, Nat.reduceMul, Nat.zero_mul, Nat.mul_one, Nat.one_mul, Nat.reduceSub, Int.cast_ofNat_Int, Int.toNat_natCast]
  refine Sm.loopM (M0 := []) (α := { x : Nat × List UInt8 // x.1 ≤ n ∧ x.2.length + x.1 ≤ 9000000000000000 + 100 ∧ Rd w x.1 x.2 r }) hP
    (fun x => [(0, true, I x.val.1), (1, true, I w), (5, true, S x.val.2)])
    (fun _ => []) (fun x => x.val.1 + (30 - x.val.2.length)) ⟨(n, []), by simp, by simp; omega, hr⟩ (fun _ => ClM.nil) (fun _ => ClE.of rfl) [] ?_ ?_
  · exact ⟨rfl, trivial, ⟨rfl, rfl, rfl, trivial⟩, trivial⟩
  · rintro ⟨⟨m, acc⟩, hm, hl, hrd⟩ J hb
    simp only at hb hm hl hrd ⊢
    refine Sm.go 170 ?_
    simp (config := { maxSteps := 2000000 }) only [go_sem, Nat.reduceBEq, Nat.reduceAdd, Nat.reduceLT, Nat.reduceLeDiff, Nat.reduceEqDiff, reduceCtorEq, Int.reduceAdd, Int.reduceSub, Int.reduceNeg, Int.reduceLE, Int.reduceLT, Int.reduceToNat, Int.reduceBEq, Int.reduceBNe, Int.reduceEq, Int.reduceNe, Int.toNat_zero, Int.toNat_one, bne_self_eq_false, Nat.reduceMul, Nat.zero_mul, Nat.mul_one, Nat.one_mul, Nat.reduceSub, Int.cast_ofNat_Int, Int.toNat_natCast]
    have ht : ((m : Int).tmod 10) = ((m % 10 : Nat) : Int) := by rw [Int.tmod_eq_emod_of_nonneg (by omega)]; omega
    have htd : ((m : Int).tdiv 10) = ((m / 10 : Nat) : Int) := by rw [Int.tdiv_eq_ediv_of_nonneg (by omega)]; omega
    have w1 : IntKind.i64.wrap (48 + ((m % 10 : Nat) : Int)) = ((48 + m % 10 : Nat) : Int) := by rw [w64 (by omega) (by omega)]; omega
    have w2 : IntKind.u8.wrap ((48 + m % 10 : Nat) : Int) = ((48 + m % 10 : Nat) : Int) := by rw [IntKind.wrap_u8]; omega
    have w3 : IntKind.i64.wrap ((m / 10 : Nat) : Int) = ((m / 10 : Nat) : Int) := w64 (by omega) (by omega)
    rw [ht, w1, w2]
    refine mtch (fun hq => ?_) (fun hq => ?_)
    · have hq : 0 < m ∨ (acc.length : Int) < w := by
        by_cases h : 0 < m
        · exact .inl h
        · rw [fal_of (by omega : ¬ (0 : Int) < m), cond_false] at hq
          exact .inr (of_decide_eq_true hq)
      cases hrd with
      | stop h => exact absurd hq (by omega)
      | step _ hrd =>
        refine Sm.opq rfl rfl ⟨[], _, fun _ => Stp.toStr [48 + m % 10] (n := 170) (b := ⟨false, [.v (.int .u8 ((48 + m % 10 : Nat) : Int))], 5⟩) rfl rfl rfl sl82 ki5 st9 rfl rfl, .inl rfl, ?_⟩
        refine Sm.go 180 ?_
        simp (config := { maxSteps := 2000000 }) only [go_sem, Nat.reduceBEq, Nat.reduceAdd, Nat.reduceLT, Nat.reduceLeDiff, Nat.reduceEqDiff, reduceCtorEq, Int.reduceAdd, Int.reduceSub, Int.reduceNeg, Int.reduceLE, Int.reduceLT, Int.reduceToNat, Int.reduceBEq, Int.reduceBNe, Int.reduceEq, Int.reduceNe, Int.toNat_zero, Int.toNat_one, bne_self_eq_false, Nat.reduceMul, Nat.zero_mul, Nat.mul_one, Nat.one_mul, Nat.reduceSub, Int.cast_ofNat_Int, Int.toNat_natCast, List.length_append, List.length_cons, List.length_nil, htd, w3]
        refine ⟨by omega, ?_⟩
        refine hb _ _ ⟨(m / 10, UInt8.ofNat (48 + m % 10) :: acc), by simp only; omega, by simp only [List.length_cons]; omega, hrd⟩ [] (by simp only [List.length_cons]; omega) ?_
        exact ⟨rfl, trivial, ⟨rfl, rfl, rfl, trivial⟩, trivial⟩
    · have hq : ¬ (0 < m ∨ (acc.length : Int) < w) := by
        rintro (h | h)
        · rw [tru_of (by omega : (0 : Int) < m)] at hq; cases hq
        · by_cases h0 : 0 < m
          · rw [tru_of (by omega : (0 : Int) < m)] at hq; cases hq
          · rw [fal_of (by omega : ¬ (0 : Int) < m), tru_of h] at hq; cases hq
      cases hrd with
      | stop h => exact RetQ.of hR rfl ⟨rfl, trivial⟩ rfl (Sub.nil _) ClM.nil (ClV.of rfl)
      | step h _ => exact absurd h hq
theorem rpow_ (k : Nat) (hk : k ≤ 6) : CallOk Tryd.prog 53 [I k] [] (I ((10 ^ k : Nat) : Int)) [] := by
  refine CallOk.mkN 100 Tryd.func53 rfl en53 (by simp [Tryd.ntmps53]) (ClA.of rfl) rfl rfl fun C hR hP => ?_
  simp (config := { maxSteps := 2000000 }) only [go_sem, Nat.reduceBEq, Nat.reduceAdd, Nat.reduceLT, Nat.reduceLeDiff, Nat.reduceEqDiff, reduceCtorEq, Int.reduceAdd, Int.reduceSub, Int.reduceNeg, Int.reduceLE, Int.reduceLT, Int.reduceToNat, Int.reduceBEq, Int.reduceBNe, Int.reduceEq, Int.reduceNe, Int.toNat_zero, Int.toNat_one, bne_self_eq_false, Nat.reduceMul, Nat.zero_mul, Nat.mul_one, Nat.one_mul, Nat.reduceSub, Int.cast_ofNat_Int, Int.toNat_natCast]
  refine Sm.loopM (M0 := []) (α := { i : Nat // i ≤ k }) hP
    (fun i => [(0, true, I k), (3, true, I ((10 ^ i.val : Nat) : Int)), (4, true, I i.val)])
    (fun _ => []) (fun i => k - i.val) ⟨0, by omega⟩ (fun _ => ClM.nil) (fun _ => ClE.of rfl) [] ?_ ?_
  · exact ⟨rfl, trivial, ⟨rfl, rfl, rfl, trivial⟩, trivial⟩
  · rintro ⟨i, hi⟩ J hb
    simp only at hb hi ⊢
    refine Sm.go 170 ?_
    simp (config := { maxSteps := 2000000 }) only [go_sem, Nat.reduceBEq, Nat.reduceAdd, Nat.reduceLT, Nat.reduceLeDiff, Nat.reduceEqDiff, reduceCtorEq, Int.reduceAdd, Int.reduceSub, Int.reduceNeg, Int.reduceLE, Int.reduceLT, Int.reduceToNat, Int.reduceBEq, Int.reduceBNe, Int.reduceEq, Int.reduceNe, Int.toNat_zero, Int.toNat_one, bne_self_eq_false, Nat.reduceMul, Nat.zero_mul, Nat.mul_one, Nat.one_mul, Nat.reduceSub, Int.cast_ofNat_Int, Int.toNat_natCast]
    refine mtch (fun hq => ?_) (fun hq => ?_)
    · have hq : i < k := by have := of_decide_eq_true hq; omega
      have hp0 : 0 < 10 ^ i := Nat.pow_pos (by omega)
      have hp : 10 ^ i ≤ 10 ^ 6 := Nat.pow_le_pow_right (by omega) (by omega)
      have w1 : IntKind.i64.wrap (10 * ((10 ^ i : Nat) : Int)) = ((10 ^ (i + 1) : Nat) : Int) := by
        rw [w64 (by omega) (by omega), Nat.pow_succ]; omega
      have w2 : IntKind.i64.wrap ((i : Int) + 1) = ((i + 1 : Nat) : Int) := by rw [w64 (by omega) (by omega)]; omega
      simp only [w1, w2]
      refine hb _ _ ⟨i + 1, hq⟩ [] (by simp only; omega) ?_
      exact ⟨rfl, trivial, ⟨rfl, rfl, rfl, trivial⟩, trivial⟩
    · have hq : ¬ i < k := by have := of_decide_eq_false hq; omega
      obtain rfl : i = k := by omega
      exact RetQ.of hR rfl ⟨rfl, trivial⟩ rfl (Sub.nil _) ClM.nil (ClV.of rfl)
end Go.Proofs.YtoioclmfjmgaaaaDoor.Fx
