/- Contracts of the reference's Exact and Nearest. -/
import Derived.Test.YtoioclmfjmgaaaaDoorFC13
import Derived.Test.YtoioclmfjmgaaaaDoorFC9
namespace Go.Proofs.YtoioclmfjmgaaaaDoor.Fx
open Vg Tf
set_option linter.unusedSimpArgs false
set_option linter.unusedVariables false
set_option maxRecDepth 100000
abbrev Wb (b : Bool) : W := .c (.v (.bool b))
/-- The exact raw value of n/d, rounded. -/
def exV (t : Ft) (n d m : Int) : Int := rnd m (n * t.den - t.off * d) (d * t.num)
theorem two_steps (a d off num m : Int) (hd : 0 < d) (hn : 0 < num) :
    rnd m (a - off * d) (d * num) = if m = 1 then (a / d - off) / num else if m = 2 then -((off - -((-a) / d)) / num) else (2 * a / d - 2 * off + num) / (2 * num) := by
  have e1 : ∀ x y : Int, (x + y * d) / d = x / d + y := fun x y => Int.add_mul_ediv_right x y (by omega)
  have e2 : ∀ x y : Int, x / (d * y) = x / d / y := fun x y => by rw [Int.ediv_ediv_of_nonneg (by omega)]
  unfold rnd
  split
  · rw [e2, show a - off * d = a + (-off) * d by grind, e1]; congr 1
  · split
    · rw [e2, show -(a - off * d) = -a + off * d by grind, e1]; congr 2; omega
    · rw [show 2 * (d * num) = d * (2 * num) by grind, e2, show 2 * (a - off * d) + d * num = 2 * a + (num - 2 * off) * d by grind, e1]; congr 1; omega
def ExR (E r : Int) (ok : Bool) : Prop := (ok = true ∧ r = E) ∨ (ok = false ∧ r = 1 ∧ 274877906944 ≤ E) ∨ (ok = false ∧ r = -1 ∧ E ≤ -274877906944)
theorem fit64_iff (s : Int) : fit64 s = true ↔ (-9223372036854775808 ≤ s ∧ s ≤ 9223372036854775807) := by
  unfold fit64; simp
/-- The sign of a quotient. -/
theorem rnd_sign (m n den d : Int) (hden : 1 ≤ den) (hd : 1 ≤ d) (hm : m = 1 ∨ m = 2) : (0 ≤ n → 0 ≤ rnd m (n * den) d) ∧ (n < 0 → rnd m (n * den) d ≤ 0) := by
  constructor
  · intro hn
    have h0 : 0 ≤ n * den := Int.mul_nonneg hn (by omega)
    rcases hm with rfl | rfl
    · exact Int.ediv_nonneg h0 (by omega)
    · have : (-(n * den)) / d ≤ 0 := Int.ediv_nonpos_of_nonpos_of_neg (by omega) (by omega)
      simp only [rnd]; simp; omega
  · intro hn
    have h0 : n * den ≤ 0 := Int.mul_nonpos_of_nonpos_of_nonneg (by omega) (by omega)
    rcases hm with rfl | rfl
    · exact Int.ediv_nonpos_of_nonpos_of_neg (by omega) (by omega)
    · have : 0 ≤ (-(n * den)) / d := Int.ediv_nonneg (by omega) (by omega)
      simp only [rnd]; simp; omega
theorem ex_big {x c num A B : Int} (hn : 1 ≤ num) (h2 : num ≤ 2097152) (hx : A ≤ x) (hA : B * 2097152 ≤ A) (hB : 0 ≤ B) : B ≤ x / num := by
  refine Int.le_ediv_of_mul_le (by omega) ?_
  have := Int.mul_le_mul_of_nonneg_left h2 hB
  omega
theorem ex_small {x num A B : Int} (hn : 1 ≤ num) (h2 : num ≤ 2097152) (hx : x ≤ -A) (hA : B * 2097152 ≤ A) (hB : 0 ≤ B) : x / num ≤ -B := by
  have h3 := Int.mul_le_mul_of_nonneg_left h2 hB
  have h4 := Int.ediv_mul_le x (show num ≠ 0 by omega)
  by_cases hc : x / num ≤ -B
  · exact hc
  · exfalso
    have h5 : -B + 1 ≤ x / num := by omega
    have h6 := Int.mul_le_mul_of_nonneg_right h5 (show 0 ≤ num by omega)
    have h7 : (-B + 1) * num = num - B * num := by grind
    omega
set_option maxHeartbeats 1000000 in
theorem rexact (t : Ft) (n d m : Int) (h : fok t = true) (hr : rok n d) (hm : 1 ≤ m) (hm3 : m ≤ 3) :
    ∃ r ok, CallOk Tryd.prog 39 [fx t, ra n d, I m] [] (.tup [Wi r, Wb ok]) [] ∧ ExR (exV t n d m) r ok := by
  have hf := fok_bd h
  obtain ⟨⟨hd1, hd2⟩, hn1, hn2⟩ := hr
  have w1 : IntKind.i64.wrap (2 * n) = 2 * n := w64 (by omega) (by omega)
  have w2 : IntKind.i64.wrap (2 * t.off) = 2 * t.off := w64 (by omega) (by omega)
  have w3 : IntKind.i64.wrap (2 * t.num) = 2 * t.num := w64 (by omega) (by omega)
  rcases (show m = 1 ∨ m = 2 ∨ m = 3 by omega) with rfl | rfl | rfl
  · have hts := two_steps (n * t.den) d t.off t.num 1 (by omega) (by omega)
    have hc := rmuldiv (n) t.den d 1 (by omega) (by omega) (by omega) (by omega) (by omega) (by omega) (by omega) (by omega)
    have hsg := rnd_sign 1 (n) t.den d (by omega) (by omega) (by omega)
    have hE0 : exV t n d 1 = (fun X => (X - t.off) / t.num) (rnd 1 (n * t.den) d) := by
      rw [exV, hts]; simp [rnd, Int.mul_assoc]
    generalize rnd 1 (n * t.den) d = X at hc hE0 hsg
    have hE : exV t n d 1 = (X - t.off) / t.num := hE0
    clear hE0 hts
    rw [hE]
    by_cases hok : fit64 X = true ∧ X ≤ 2305843009213693952 ∧ -2305843009213693952 ≤ X
    · obtain ⟨ok1, ok2, ok3⟩ := hok
      rw [ok1] at hc
      simp only [cond_true] at hc
      refine ⟨(X - t.off) / t.num, true, ?_, .inl ⟨rfl, rfl⟩⟩
      have dd1 : decide (2305843009213693952 < X) = false := by simp; omega
      have dd2 : decide (X < -2305843009213693952) = false := by simp; omega
      have wa : IntKind.i64.wrap (X - t.off) = X - t.off := w64 (by omega) (by omega)
      have wb : True := trivial
      refine CallOk.mk 100 Tryd.func39 rfl en39 (by simp [Tryd.ntmps39]) (by simp [ClV, V.g, Cv.g, fx, ra, ci]) fun C hR => ?_
      simp (config := { maxSteps := 2000000 }) only [go_sem, Nat.reduceBEq, Nat.reduceAdd, Nat.reduceLT, Nat.reduceLeDiff, Nat.reduceEqDiff, reduceCtorEq, Int.reduceAdd, Int.reduceSub, Int.reduceNeg, Int.reduceLE, Int.reduceLT, Int.reduceToNat, Int.reduceBEq, Int.reduceBNe, Int.reduceEq, Int.reduceNe, Int.toNat_zero, Int.toNat_one, bne_self_eq_false, Nat.reduceMul, Nat.zero_mul, Nat.mul_one, Nat.one_mul, Nat.reduceSub, Int.cast_ofNat_Int, Int.toNat_natCast]
      try simp only [w1]
      refine CallQ.pure 102 hc rfl ?_
      simp (config := { maxSteps := 2000000 }) only [go_sem, Nat.reduceBEq, Nat.reduceAdd, Nat.reduceLT, Nat.reduceLeDiff, Nat.reduceEqDiff, reduceCtorEq, Int.reduceAdd, Int.reduceSub, Int.reduceNeg, Int.reduceLE, Int.reduceLT, Int.reduceToNat, Int.reduceBEq, Int.reduceBNe, Int.reduceEq, Int.reduceNe, Int.toNat_zero, Int.toNat_one, bne_self_eq_false, Nat.reduceMul, Nat.zero_mul, Nat.mul_one, Nat.one_mul, Nat.reduceSub, Int.cast_ofNat_Int, Int.toNat_natCast]
      simp only [dd1, dd2, w2, w3, wa, wb]
      simp (config := { maxSteps := 2000000 }) only [go_sem, Nat.reduceBEq, Nat.reduceAdd, Nat.reduceLT, Nat.reduceLeDiff, Nat.reduceEqDiff, reduceCtorEq, Int.reduceAdd, Int.reduceSub, Int.reduceNeg, Int.reduceLE, Int.reduceLT, Int.reduceToNat, Int.reduceBEq, Int.reduceBNe, Int.reduceEq, Int.reduceNe, Int.toNat_zero, Int.toNat_one, bne_self_eq_false, Nat.reduceMul, Nat.zero_mul, Nat.mul_one, Nat.one_mul, Nat.reduceSub, Int.cast_ofNat_Int, Int.toNat_natCast]
      refine CallQ.pure 102 (rfloor (X - t.off) (t.num) (by omega) (by omega) (by omega) (by omega)) rfl ?_
      simp (config := { maxSteps := 2000000 }) only [go_sem, Nat.reduceBEq, Nat.reduceAdd, Nat.reduceLT, Nat.reduceLeDiff, Nat.reduceEqDiff, reduceCtorEq, Int.reduceAdd, Int.reduceSub, Int.reduceNeg, Int.reduceLE, Int.reduceLT, Int.reduceToNat, Int.reduceBEq, Int.reduceBNe, Int.reduceEq, Int.reduceNe, Int.toNat_zero, Int.toNat_one, bne_self_eq_false, Nat.reduceMul, Nat.zero_mul, Nat.mul_one, Nat.one_mul, Nat.reduceSub, Int.cast_ofNat_Int, Int.toNat_natCast]
      exact RetQ.pure hR rfl ⟨rfl, rfl, trivial⟩ rfl (fun _ _ _ => rfl)
    · have hbig : (0 ≤ n ∧ 2305843009213693952 ≤ X) ∨ (n < 0 ∧ X ≤ -2305843009213693952) := by
        rw [fit64_iff] at hok
        by_cases hn0 : n < 0
        · have := hsg.2 (by omega); omega
        · have := hsg.1 (by omega); omega
      refine ⟨if n < 0 then -1 else 1, false, ?_, ?_⟩
      · refine CallOk.mk 100 Tryd.func39 rfl en39 (by simp [Tryd.ntmps39]) (by simp [ClV, V.g, Cv.g, fx, ra, ci]) fun C hR => ?_
        simp (config := { maxSteps := 2000000 }) only [go_sem, Nat.reduceBEq, Nat.reduceAdd, Nat.reduceLT, Nat.reduceLeDiff, Nat.reduceEqDiff, reduceCtorEq, Int.reduceAdd, Int.reduceSub, Int.reduceNeg, Int.reduceLE, Int.reduceLT, Int.reduceToNat, Int.reduceBEq, Int.reduceBNe, Int.reduceEq, Int.reduceNe, Int.toNat_zero, Int.toNat_one, bne_self_eq_false, Nat.reduceMul, Nat.zero_mul, Nat.mul_one, Nat.one_mul, Nat.reduceSub, Int.cast_ofNat_Int, Int.toNat_natCast]
        try simp only [w1]
        refine CallQ.pure 102 hc rfl ?_
        simp (config := { maxSteps := 2000000 }) only [go_sem, Nat.reduceBEq, Nat.reduceAdd, Nat.reduceLT, Nat.reduceLeDiff, Nat.reduceEqDiff, reduceCtorEq, Int.reduceAdd, Int.reduceSub, Int.reduceNeg, Int.reduceLE, Int.reduceLT, Int.reduceToNat, Int.reduceBEq, Int.reduceBNe, Int.reduceEq, Int.reduceNe, Int.toNat_zero, Int.toNat_one, bne_self_eq_false, Nat.reduceMul, Nat.zero_mul, Nat.mul_one, Nat.one_mul, Nat.reduceSub, Int.cast_ofNat_Int, Int.toNat_natCast]
        cases hfx : fit64 X with
        | false =>
          simp only [hfx, cond_false, cond_true]
          simp (config := { maxSteps := 2000000 }) only [go_sem, Nat.reduceBEq, Nat.reduceAdd, Nat.reduceLT, Nat.reduceLeDiff, Nat.reduceEqDiff, reduceCtorEq, Int.reduceAdd, Int.reduceSub, Int.reduceNeg, Int.reduceLE, Int.reduceLT, Int.reduceToNat, Int.reduceBEq, Int.reduceBNe, Int.reduceEq, Int.reduceNe, Int.toNat_zero, Int.toNat_one, bne_self_eq_false, Nat.reduceMul, Nat.zero_mul, Nat.mul_one, Nat.one_mul, Nat.reduceSub, Int.cast_ofNat_Int, Int.toNat_natCast]
          by_cases hn0 : n < 0
          · have dn : decide (n < 0) = true := by simp; omega
            simp only [dn]
            refine RetQ.pure hR rfl ⟨rfl, rfl, trivial⟩ (by simp [hn0]) (fun _ _ _ => rfl)
          · have dn : decide (n < 0) = false := by simp; omega
            simp only [dn]
            refine RetQ.pure hR rfl ⟨rfl, rfl, trivial⟩ (by simp [hn0]) (fun _ _ _ => rfl)
        | true =>
          simp only [hfx, cond_false, cond_true]
          simp (config := { maxSteps := 2000000 }) only [go_sem, Nat.reduceBEq, Nat.reduceAdd, Nat.reduceLT, Nat.reduceLeDiff, Nat.reduceEqDiff, reduceCtorEq, Int.reduceAdd, Int.reduceSub, Int.reduceNeg, Int.reduceLE, Int.reduceLT, Int.reduceToNat, Int.reduceBEq, Int.reduceBNe, Int.reduceEq, Int.reduceNe, Int.toNat_zero, Int.toNat_one, bne_self_eq_false, Nat.reduceMul, Nat.zero_mul, Nat.mul_one, Nat.one_mul, Nat.reduceSub, Int.cast_ofNat_Int, Int.toNat_natCast]
          have dd : (bif decide (2305843009213693952 < X) then true else decide (X < -2305843009213693952)) = true := by
            have hok2 : ¬ (X ≤ 2305843009213693952 ∧ -2305843009213693952 ≤ X) := fun hh => hok ⟨hfx, hh⟩
            simp [Bool.cond_eq_true_distrib]; omega
          simp only [dd]
          by_cases hn0 : n < 0
          · have dn : decide (n < 0) = true := by simp; omega
            simp only [dn]
            refine RetQ.pure hR rfl ⟨rfl, rfl, trivial⟩ (by simp [hn0]) (fun _ _ _ => rfl)
          · have dn : decide (n < 0) = false := by simp; omega
            simp only [dn]
            refine RetQ.pure hR rfl ⟨rfl, rfl, trivial⟩ (by simp [hn0]) (fun _ _ _ => rfl)
      · rcases hbig with ⟨hn0, hb⟩ | ⟨hn0, hb⟩
        · refine .inr (.inl ⟨rfl, if_neg (by omega), ?_⟩)
          exact ex_big (c := 0) (A := 2305843008139952128) (by omega) (by omega) (by omega) (by omega) (by omega)
        · refine .inr (.inr ⟨rfl, if_pos hn0, ?_⟩)
          exact ex_small (A := 2305843008139952128) (by omega) (by omega) (by omega) (by omega) (by omega)
  · have hts := two_steps (n * t.den) d t.off t.num 2 (by omega) (by omega)
    have hc := rmuldiv (n) t.den d 2 (by omega) (by omega) (by omega) (by omega) (by omega) (by omega) (by omega) (by omega)
    have hsg := rnd_sign 2 (n) t.den d (by omega) (by omega) (by omega)
    have hE0 : exV t n d 2 = (fun X => -((t.off - X) / t.num)) (rnd 2 (n * t.den) d) := by
      rw [exV, hts]; simp [rnd, Int.mul_assoc]
    generalize rnd 2 (n * t.den) d = X at hc hE0 hsg
    have hE : exV t n d 2 = -((t.off - X) / t.num) := hE0
    clear hE0 hts
    rw [hE]
    by_cases hok : fit64 X = true ∧ X ≤ 2305843009213693952 ∧ -2305843009213693952 ≤ X
    · obtain ⟨ok1, ok2, ok3⟩ := hok
      rw [ok1] at hc
      simp only [cond_true] at hc
      refine ⟨-((t.off - X) / t.num), true, ?_, .inl ⟨rfl, rfl⟩⟩
      have dd1 : decide (2305843009213693952 < X) = false := by simp; omega
      have dd2 : decide (X < -2305843009213693952) = false := by simp; omega
      have wa : IntKind.i64.wrap (t.off - X) = t.off - X := w64 (by omega) (by omega)
      have wb : True := trivial
      refine CallOk.mk 100 Tryd.func39 rfl en39 (by simp [Tryd.ntmps39]) (by simp [ClV, V.g, Cv.g, fx, ra, ci]) fun C hR => ?_
      simp (config := { maxSteps := 2000000 }) only [go_sem, Nat.reduceBEq, Nat.reduceAdd, Nat.reduceLT, Nat.reduceLeDiff, Nat.reduceEqDiff, reduceCtorEq, Int.reduceAdd, Int.reduceSub, Int.reduceNeg, Int.reduceLE, Int.reduceLT, Int.reduceToNat, Int.reduceBEq, Int.reduceBNe, Int.reduceEq, Int.reduceNe, Int.toNat_zero, Int.toNat_one, bne_self_eq_false, Nat.reduceMul, Nat.zero_mul, Nat.mul_one, Nat.one_mul, Nat.reduceSub, Int.cast_ofNat_Int, Int.toNat_natCast]
      try simp only [w1]
      refine CallQ.pure 102 hc rfl ?_
      simp (config := { maxSteps := 2000000 }) only [go_sem, Nat.reduceBEq, Nat.reduceAdd, Nat.reduceLT, Nat.reduceLeDiff, Nat.reduceEqDiff, reduceCtorEq, Int.reduceAdd, Int.reduceSub, Int.reduceNeg, Int.reduceLE, Int.reduceLT, Int.reduceToNat, Int.reduceBEq, Int.reduceBNe, Int.reduceEq, Int.reduceNe, Int.toNat_zero, Int.toNat_one, bne_self_eq_false, Nat.reduceMul, Nat.zero_mul, Nat.mul_one, Nat.one_mul, Nat.reduceSub, Int.cast_ofNat_Int, Int.toNat_natCast]
      simp only [dd1, dd2, w2, w3, wa, wb]
      simp (config := { maxSteps := 2000000 }) only [go_sem, Nat.reduceBEq, Nat.reduceAdd, Nat.reduceLT, Nat.reduceLeDiff, Nat.reduceEqDiff, reduceCtorEq, Int.reduceAdd, Int.reduceSub, Int.reduceNeg, Int.reduceLE, Int.reduceLT, Int.reduceToNat, Int.reduceBEq, Int.reduceBNe, Int.reduceEq, Int.reduceNe, Int.toNat_zero, Int.toNat_one, bne_self_eq_false, Nat.reduceMul, Nat.zero_mul, Nat.mul_one, Nat.one_mul, Nat.reduceSub, Int.cast_ofNat_Int, Int.toNat_natCast]
      refine CallQ.pure 102 (rfloor (t.off - X) (t.num) (by omega) (by omega) (by omega) (by omega)) rfl ?_
      simp (config := { maxSteps := 2000000 }) only [go_sem, Nat.reduceBEq, Nat.reduceAdd, Nat.reduceLT, Nat.reduceLeDiff, Nat.reduceEqDiff, reduceCtorEq, Int.reduceAdd, Int.reduceSub, Int.reduceNeg, Int.reduceLE, Int.reduceLT, Int.reduceToNat, Int.reduceBEq, Int.reduceBNe, Int.reduceEq, Int.reduceNe, Int.toNat_zero, Int.toNat_one, bne_self_eq_false, Nat.reduceMul, Nat.zero_mul, Nat.mul_one, Nat.one_mul, Nat.reduceSub, Int.cast_ofNat_Int, Int.toNat_natCast]
      have hq := quo_bd (t.off - X) t.num (by omega)
      have wc : IntKind.i64.wrap (0 - (t.off - X) / t.num) = -((t.off - X) / t.num) := by rw [w64 (by omega) (by omega)]; omega
      simp only [wc]
      exact RetQ.pure hR rfl ⟨rfl, rfl, trivial⟩ rfl (fun _ _ _ => rfl)
    · have hbig : (0 ≤ n ∧ 2305843009213693952 ≤ X) ∨ (n < 0 ∧ X ≤ -2305843009213693952) := by
        rw [fit64_iff] at hok
        by_cases hn0 : n < 0
        · have := hsg.2 (by omega); omega
        · have := hsg.1 (by omega); omega
      refine ⟨if n < 0 then -1 else 1, false, ?_, ?_⟩
      · refine CallOk.mk 100 Tryd.func39 rfl en39 (by simp [Tryd.ntmps39]) (by simp [ClV, V.g, Cv.g, fx, ra, ci]) fun C hR => ?_
        simp (config := { maxSteps := 2000000 }) only [go_sem, Nat.reduceBEq, Nat.reduceAdd, Nat.reduceLT, Nat.reduceLeDiff, Nat.reduceEqDiff, reduceCtorEq, Int.reduceAdd, Int.reduceSub, Int.reduceNeg, Int.reduceLE, Int.reduceLT, Int.reduceToNat, Int.reduceBEq, Int.reduceBNe, Int.reduceEq, Int.reduceNe, Int.toNat_zero, Int.toNat_one, bne_self_eq_false, Nat.reduceMul, Nat.zero_mul, Nat.mul_one, Nat.one_mul, Nat.reduceSub, Int.cast_ofNat_Int, Int.toNat_natCast]
        try simp only [w1]
        refine CallQ.pure 102 hc rfl ?_
        simp (config := { maxSteps := 2000000 }) only [go_sem, Nat.reduceBEq, Nat.reduceAdd, Nat.reduceLT, Nat.reduceLeDiff, Nat.reduceEqDiff, reduceCtorEq, Int.reduceAdd, Int.reduceSub, Int.reduceNeg, Int.reduceLE, Int.reduceLT, Int.reduceToNat, Int.reduceBEq, Int.reduceBNe, Int.reduceEq, Int.reduceNe, Int.toNat_zero, Int.toNat_one, bne_self_eq_false, Nat.reduceMul, Nat.zero_mul, Nat.mul_one, Nat.one_mul, Nat.reduceSub, Int.cast_ofNat_Int, Int.toNat_natCast]
        cases hfx : fit64 X with
        | false =>
          simp only [hfx, cond_false, cond_true]
          simp (config := { maxSteps := 2000000 }) only [go_sem, Nat.reduceBEq, Nat.reduceAdd, Nat.reduceLT, Nat.reduceLeDiff, Nat.reduceEqDiff, reduceCtorEq, Int.reduceAdd, Int.reduceSub, Int.reduceNeg, Int.reduceLE, Int.reduceLT, Int.reduceToNat, Int.reduceBEq, Int.reduceBNe, Int.reduceEq, Int.reduceNe, Int.toNat_zero, Int.toNat_one, bne_self_eq_false, Nat.reduceMul, Nat.zero_mul, Nat.mul_one, Nat.one_mul, Nat.reduceSub, Int.cast_ofNat_Int, Int.toNat_natCast]
          by_cases hn0 : n < 0
          · have dn : decide (n < 0) = true := by simp; omega
            simp only [dn]
            refine RetQ.pure hR rfl ⟨rfl, rfl, trivial⟩ (by simp [hn0]) (fun _ _ _ => rfl)
          · have dn : decide (n < 0) = false := by simp; omega
            simp only [dn]
            refine RetQ.pure hR rfl ⟨rfl, rfl, trivial⟩ (by simp [hn0]) (fun _ _ _ => rfl)
        | true =>
          simp only [hfx, cond_false, cond_true]
          simp (config := { maxSteps := 2000000 }) only [go_sem, Nat.reduceBEq, Nat.reduceAdd, Nat.reduceLT, Nat.reduceLeDiff, Nat.reduceEqDiff, reduceCtorEq, Int.reduceAdd, Int.reduceSub, Int.reduceNeg, Int.reduceLE, Int.reduceLT, Int.reduceToNat, Int.reduceBEq, Int.reduceBNe, Int.reduceEq, Int.reduceNe, Int.toNat_zero, Int.toNat_one, bne_self_eq_false, Nat.reduceMul, Nat.zero_mul, Nat.mul_one, Nat.one_mul, Nat.reduceSub, Int.cast_ofNat_Int, Int.toNat_natCast]
          have dd : (bif decide (2305843009213693952 < X) then true else decide (X < -2305843009213693952)) = true := by
            have hok2 : ¬ (X ≤ 2305843009213693952 ∧ -2305843009213693952 ≤ X) := fun hh => hok ⟨hfx, hh⟩
            simp [Bool.cond_eq_true_distrib]; omega
          simp only [dd]
          by_cases hn0 : n < 0
          · have dn : decide (n < 0) = true := by simp; omega
            simp only [dn]
            refine RetQ.pure hR rfl ⟨rfl, rfl, trivial⟩ (by simp [hn0]) (fun _ _ _ => rfl)
          · have dn : decide (n < 0) = false := by simp; omega
            simp only [dn]
            refine RetQ.pure hR rfl ⟨rfl, rfl, trivial⟩ (by simp [hn0]) (fun _ _ _ => rfl)
      · rcases hbig with ⟨hn0, hb⟩ | ⟨hn0, hb⟩
        · refine .inr (.inl ⟨rfl, if_neg (by omega), ?_⟩)
          have := ex_small (x := t.off - X) (num := t.num) (A := 2305843008139952128) (B := 274877906944) (by omega) (by omega) (by omega) (by omega) (by omega)
          omega
        · refine .inr (.inr ⟨rfl, if_pos hn0, ?_⟩)
          have := ex_big (c := 0) (x := t.off - X) (num := t.num) (A := 2305843008139952128) (B := 274877906944) (by omega) (by omega) (by omega) (by omega) (by omega)
          omega
  · have hts := two_steps (n * t.den) d t.off t.num 3 (by omega) (by omega)
    have hc := rmuldiv (2 * n) t.den d 1 (by omega) (by omega) (by omega) (by omega) (by omega) (by omega) (by omega) (by omega)
    have hsg := rnd_sign 1 (2 * n) t.den d (by omega) (by omega) (by omega)
    have hE0 : exV t n d 3 = (fun X => (X - 2 * t.off + t.num) / (2 * t.num)) (rnd 1 (2 * n * t.den) d) := by
      rw [exV, hts]; simp [rnd, Int.mul_assoc]
    generalize rnd 1 (2 * n * t.den) d = X at hc hE0 hsg
    have hE : exV t n d 3 = (X - 2 * t.off + t.num) / (2 * t.num) := hE0
    clear hE0 hts
    rw [hE]
    by_cases hok : fit64 X = true ∧ X ≤ 2305843009213693952 ∧ -2305843009213693952 ≤ X
    · obtain ⟨ok1, ok2, ok3⟩ := hok
      rw [ok1] at hc
      simp only [cond_true] at hc
      refine ⟨(X - 2 * t.off + t.num) / (2 * t.num), true, ?_, .inl ⟨rfl, rfl⟩⟩
      have dd1 : decide (2305843009213693952 < X) = false := by simp; omega
      have dd2 : decide (X < -2305843009213693952) = false := by simp; omega
      have wa : IntKind.i64.wrap (X - 2 * t.off) = X - 2 * t.off := w64 (by omega) (by omega)
      have wb : IntKind.i64.wrap (X - 2 * t.off + t.num) = X - 2 * t.off + t.num := w64 (by omega) (by omega)
      refine CallOk.mk 100 Tryd.func39 rfl en39 (by simp [Tryd.ntmps39]) (by simp [ClV, V.g, Cv.g, fx, ra, ci]) fun C hR => ?_
      simp (config := { maxSteps := 2000000 }) only [go_sem, Nat.reduceBEq, Nat.reduceAdd, Nat.reduceLT, Nat.reduceLeDiff, Nat.reduceEqDiff, reduceCtorEq, Int.reduceAdd, Int.reduceSub, Int.reduceNeg, Int.reduceLE, Int.reduceLT, Int.reduceToNat, Int.reduceBEq, Int.reduceBNe, Int.reduceEq, Int.reduceNe, Int.toNat_zero, Int.toNat_one, bne_self_eq_false, Nat.reduceMul, Nat.zero_mul, Nat.mul_one, Nat.one_mul, Nat.reduceSub, Int.cast_ofNat_Int, Int.toNat_natCast]
      try simp only [w1]
      refine CallQ.pure 102 hc rfl ?_
      simp (config := { maxSteps := 2000000 }) only [go_sem, Nat.reduceBEq, Nat.reduceAdd, Nat.reduceLT, Nat.reduceLeDiff, Nat.reduceEqDiff, reduceCtorEq, Int.reduceAdd, Int.reduceSub, Int.reduceNeg, Int.reduceLE, Int.reduceLT, Int.reduceToNat, Int.reduceBEq, Int.reduceBNe, Int.reduceEq, Int.reduceNe, Int.toNat_zero, Int.toNat_one, bne_self_eq_false, Nat.reduceMul, Nat.zero_mul, Nat.mul_one, Nat.one_mul, Nat.reduceSub, Int.cast_ofNat_Int, Int.toNat_natCast]
      simp only [dd1, dd2, w2, w3, wa, wb]
      simp (config := { maxSteps := 2000000 }) only [go_sem, Nat.reduceBEq, Nat.reduceAdd, Nat.reduceLT, Nat.reduceLeDiff, Nat.reduceEqDiff, reduceCtorEq, Int.reduceAdd, Int.reduceSub, Int.reduceNeg, Int.reduceLE, Int.reduceLT, Int.reduceToNat, Int.reduceBEq, Int.reduceBNe, Int.reduceEq, Int.reduceNe, Int.toNat_zero, Int.toNat_one, bne_self_eq_false, Nat.reduceMul, Nat.zero_mul, Nat.mul_one, Nat.one_mul, Nat.reduceSub, Int.cast_ofNat_Int, Int.toNat_natCast]
      refine CallQ.pure 102 (rfloor (X - 2 * t.off + t.num) (2 * t.num) (by omega) (by omega) (by omega) (by omega)) rfl ?_
      simp (config := { maxSteps := 2000000 }) only [go_sem, Nat.reduceBEq, Nat.reduceAdd, Nat.reduceLT, Nat.reduceLeDiff, Nat.reduceEqDiff, reduceCtorEq, Int.reduceAdd, Int.reduceSub, Int.reduceNeg, Int.reduceLE, Int.reduceLT, Int.reduceToNat, Int.reduceBEq, Int.reduceBNe, Int.reduceEq, Int.reduceNe, Int.toNat_zero, Int.toNat_one, bne_self_eq_false, Nat.reduceMul, Nat.zero_mul, Nat.mul_one, Nat.one_mul, Nat.reduceSub, Int.cast_ofNat_Int, Int.toNat_natCast]
      exact RetQ.pure hR rfl ⟨rfl, rfl, trivial⟩ rfl (fun _ _ _ => rfl)
    · have hbig : (0 ≤ n ∧ 2305843009213693952 ≤ X) ∨ (n < 0 ∧ X ≤ -2305843009213693952) := by
        rw [fit64_iff] at hok
        by_cases hn0 : n < 0
        · have := hsg.2 (by omega); omega
        · have := hsg.1 (by omega); omega
      refine ⟨if n < 0 then -1 else 1, false, ?_, ?_⟩
      · refine CallOk.mk 100 Tryd.func39 rfl en39 (by simp [Tryd.ntmps39]) (by simp [ClV, V.g, Cv.g, fx, ra, ci]) fun C hR => ?_
        simp (config := { maxSteps := 2000000 }) only [go_sem, Nat.reduceBEq, Nat.reduceAdd, Nat.reduceLT, Nat.reduceLeDiff, Nat.reduceEqDiff, reduceCtorEq, Int.reduceAdd, Int.reduceSub, Int.reduceNeg, Int.reduceLE, Int.reduceLT, Int.reduceToNat, Int.reduceBEq, Int.reduceBNe, Int.reduceEq, Int.reduceNe, Int.toNat_zero, Int.toNat_one, bne_self_eq_false, Nat.reduceMul, Nat.zero_mul, Nat.mul_one, Nat.one_mul, Nat.reduceSub, Int.cast_ofNat_Int, Int.toNat_natCast]
        try simp only [w1]
        refine CallQ.pure 102 hc rfl ?_
        simp (config := { maxSteps := 2000000 }) only [go_sem, Nat.reduceBEq, Nat.reduceAdd, Nat.reduceLT, Nat.reduceLeDiff, Nat.reduceEqDiff, reduceCtorEq, Int.reduceAdd, Int.reduceSub, Int.reduceNeg, Int.reduceLE, Int.reduceLT, Int.reduceToNat, Int.reduceBEq, Int.reduceBNe, Int.reduceEq, Int.reduceNe, Int.toNat_zero, Int.toNat_one, bne_self_eq_false, Nat.reduceMul, Nat.zero_mul, Nat.mul_one, Nat.one_mul, Nat.reduceSub, Int.cast_ofNat_Int, Int.toNat_natCast]
        cases hfx : fit64 X with
        | false =>
          simp only [hfx, cond_false, cond_true]
          simp (config := { maxSteps := 2000000 }) only [go_sem, Nat.reduceBEq, Nat.reduceAdd, Nat.reduceLT, Nat.reduceLeDiff, Nat.reduceEqDiff, reduceCtorEq, Int.reduceAdd, Int.reduceSub, Int.reduceNeg, Int.reduceLE, Int.reduceLT, Int.reduceToNat, Int.reduceBEq, Int.reduceBNe, Int.reduceEq, Int.reduceNe, Int.toNat_zero, Int.toNat_one, bne_self_eq_false, Nat.reduceMul, Nat.zero_mul, Nat.mul_one, Nat.one_mul, Nat.reduceSub, Int.cast_ofNat_Int, Int.toNat_natCast]
          by_cases hn0 : n < 0
          · have dn : decide (2 * n < 0) = true := by simp; omega
            simp only [dn]
            refine RetQ.pure hR rfl ⟨rfl, rfl, trivial⟩ (by simp [hn0]) (fun _ _ _ => rfl)
          · have dn : decide (2 * n < 0) = false := by simp; omega
            simp only [dn]
            refine RetQ.pure hR rfl ⟨rfl, rfl, trivial⟩ (by simp [hn0]) (fun _ _ _ => rfl)
        | true =>
          simp only [hfx, cond_false, cond_true]
          simp (config := { maxSteps := 2000000 }) only [go_sem, Nat.reduceBEq, Nat.reduceAdd, Nat.reduceLT, Nat.reduceLeDiff, Nat.reduceEqDiff, reduceCtorEq, Int.reduceAdd, Int.reduceSub, Int.reduceNeg, Int.reduceLE, Int.reduceLT, Int.reduceToNat, Int.reduceBEq, Int.reduceBNe, Int.reduceEq, Int.reduceNe, Int.toNat_zero, Int.toNat_one, bne_self_eq_false, Nat.reduceMul, Nat.zero_mul, Nat.mul_one, Nat.one_mul, Nat.reduceSub, Int.cast_ofNat_Int, Int.toNat_natCast]
          have dd : (bif decide (2305843009213693952 < X) then true else decide (X < -2305843009213693952)) = true := by
            have hok2 : ¬ (X ≤ 2305843009213693952 ∧ -2305843009213693952 ≤ X) := fun hh => hok ⟨hfx, hh⟩
            simp [Bool.cond_eq_true_distrib]; omega
          simp only [dd]
          by_cases hn0 : n < 0
          · have dn : decide (2 * n < 0) = true := by simp; omega
            simp only [dn]
            refine RetQ.pure hR rfl ⟨rfl, rfl, trivial⟩ (by simp [hn0]) (fun _ _ _ => rfl)
          · have dn : decide (2 * n < 0) = false := by simp; omega
            simp only [dn]
            refine RetQ.pure hR rfl ⟨rfl, rfl, trivial⟩ (by simp [hn0]) (fun _ _ _ => rfl)
      · rcases hbig with ⟨hn0, hb⟩ | ⟨hn0, hb⟩
        · refine .inr (.inl ⟨rfl, if_neg (by omega), ?_⟩)
          exact ex_big (c := 0) (A := 2305843007066210304) (by omega) (by omega) (by omega) (by omega) (by omega)
        · refine .inr (.inr ⟨rfl, if_pos hn0, ?_⟩)
          exact ex_small (A := 2305843007065161728) (by omega) (by omega) (by omega) (by omega) (by omega)
end Go.Proofs.YtoioclmfjmgaaaaDoor.Fx