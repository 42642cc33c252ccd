/- FixopGrows. -/
import Derived.Test.YtnolflocgodffaaD5
import Derived.Test.YtnolflocgodffaaC9
import Derived.Test.YtnolflocgodffaaC6
namespace Go.Proofs.Ytnolflocgodffaa
open Vg Tf
set_option linter.unusedSimpArgs false
set_option linter.unusedVariables false
set_option maxRecDepth 100000
theorem rvalid4 (t : Ft) (r : Int) : CallOk Try.prog 32 [va t r] [] (Bo (fok t && fin t r)) [] := by
  refine CallOk.mk 100 Try.func32 rfl en32 (by simp [Try.ntmps32]) (by simp [ClV, V.g, Cv.g, va, ci]) fun C hR => ?_
  simp (config := { maxSteps := 2000000 }) only [go_sem, Nat.reduceBEq, Nat.reduceAdd, Nat.reduceLT, Nat.reduceLeDiff, Nat.reduceEqDiff, reduceCtorEq, Int.reduceAdd, Int.reduceSub, Int.reduceNeg, Int.reduceLE, Int.reduceLT, Int.reduceToNat, Int.reduceBEq, Int.reduceBNe, Int.reduceEq, Int.reduceNe, Int.toNat_zero, Int.toNat_one, bne_self_eq_false, Nat.reduceMul, Nat.zero_mul, Nat.mul_one, Nat.one_mul, Nat.reduceSub, Int.cast_ofNat_Int, Int.toNat_natCast]
  refine CallQ.pure 106 (rvalid t) rfl ?_
  cases h : fok t with
  | false =>
    rw [h] at hR
    simp (config := { maxSteps := 2000000 }) only [go_sem, Nat.reduceBEq, Nat.reduceAdd, Nat.reduceLT, Nat.reduceLeDiff, Nat.reduceEqDiff, reduceCtorEq, Int.reduceAdd, Int.reduceSub, Int.reduceNeg, Int.reduceLE, Int.reduceLT, Int.reduceToNat, Int.reduceBEq, Int.reduceBNe, Int.reduceEq, Int.reduceNe, Int.toNat_zero, Int.toNat_one, bne_self_eq_false, Nat.reduceMul, Nat.zero_mul, Nat.mul_one, Nat.one_mul, Nat.reduceSub, Int.cast_ofNat_Int, Int.toNat_natCast]
    refine CallQ.guard 106 (fun hh => by cases hh) (fun hh => by cases hh) (xs := []) (v := Bo true) ?_
    simp (config := { maxSteps := 2000000 }) only [go_sem, Nat.reduceBEq, Nat.reduceAdd, Nat.reduceLT, Nat.reduceLeDiff, Nat.reduceEqDiff, reduceCtorEq, Int.reduceAdd, Int.reduceSub, Int.reduceNeg, Int.reduceLE, Int.reduceLT, Int.reduceToNat, Int.reduceBEq, Int.reduceBNe, Int.reduceEq, Int.reduceNe, Int.toNat_zero, Int.toNat_one, bne_self_eq_false, Nat.reduceMul, Nat.zero_mul, Nat.mul_one, Nat.one_mul, Nat.reduceSub, Int.cast_ofNat_Int, Int.toNat_natCast]
    exact RetQ.bool hR rfl ⟨rfl, trivial⟩ rfl
  | true =>
    rw [h] at hR
    simp (config := { maxSteps := 2000000 }) only [go_sem, Nat.reduceBEq, Nat.reduceAdd, Nat.reduceLT, Nat.reduceLeDiff, Nat.reduceEqDiff, reduceCtorEq, Int.reduceAdd, Int.reduceSub, Int.reduceNeg, Int.reduceLE, Int.reduceLT, Int.reduceToNat, Int.reduceBEq, Int.reduceBNe, Int.reduceEq, Int.reduceNe, Int.toNat_zero, Int.toNat_one, bne_self_eq_false, Nat.reduceMul, Nat.zero_mul, Nat.mul_one, Nat.one_mul, Nat.reduceSub, Int.cast_ofNat_Int, Int.toNat_natCast]
    refine CallQ.pure 106 (rwithin t r h) rfl ?_
    simp (config := { maxSteps := 2000000 }) only [go_sem, Nat.reduceBEq, Nat.reduceAdd, Nat.reduceLT, Nat.reduceLeDiff, Nat.reduceEqDiff, reduceCtorEq, Int.reduceAdd, Int.reduceSub, Int.reduceNeg, Int.reduceLE, Int.reduceLT, Int.reduceToNat, Int.reduceBEq, Int.reduceBNe, Int.reduceEq, Int.reduceNe, Int.toNat_zero, Int.toNat_one, bne_self_eq_false, Nat.reduceMul, Nat.zero_mul, Nat.mul_one, Nat.one_mul, Nat.reduceSub, Int.cast_ofNat_Int, Int.toNat_natCast]
    exact RetQ.bool hR rfl ⟨rfl, trivial⟩ (by simp)
theorem rnd_mono {X X' Y : Int} (hY : 0 < Y) (h : X ≤ X') : rnd 3 X Y ≤ rnd 3 X' Y := by
  unfold rnd
  simp only [Int.reduceEq, if_false]
  exact Int.ediv_le_ediv (by omega) (by omega)
theorem fixR_mono {t : Ft} {N N' D : Int} (h : fok t = true) (hD : 0 < D) (hN : N ≤ N') : fixR t N D ≤ fixR t N' D := by
  have hf := fok_bd h
  have hY : 0 < D * t.num := Int.mul_pos hD (by omega)
  have hm : N * t.den ≤ N' * t.den := Int.mul_le_mul_of_nonneg_right hN (by omega)
  have := rnd_mono hY (show N * t.den - t.off * D ≤ N' * t.den - t.off * D by omega)
  unfold fixR
  omega
theorem oErr_same (op : Int) (a : Ft) (x x' : Int) (b : Ft) (y : Int) (t : Ft) (hx : fin a x = true) (hx' : fin a x' = true) : oErr op a x' b y t = oErr op a x b y t := by
  unfold oErr
  rw [hx, hx']
theorem oErr_ok {op : Int} {a : Ft} {x : Int} {b : Ft} {y : Int} {t : Ft} (h : oErr op a x b y t = 0) : (fok a = true ∧ fin a x = true) ∧ (fok b = true ∧ fin b y = true) ∧ fok t = true ∧ ufit op a b t = true ∧ (op = 4 → fnu b y ≠ 0) := by
  unfold oErr at h
  split at h
  · omega
  split at h
  · omega
  split at h
  · omega
  rename_i h1 h2 h3
  simp only [Bool.not_eq_false, Bool.and_eq_true] at h1 h2
  exact ⟨h1.1, h1.2.1, h1.2.2, h2, fun h4 h5 => h3 ⟨h4, h5⟩⟩
theorem grow_math {op : Int} {a : Ft} {x x' : Int} {b : Ft} {y : Int} {t : Ft} (ho1 : 1 ≤ op) (ho2 : op ≤ 4) (h : oErr op a x b y t = 0) (hx : fin a x' = true) (hxx : x ≤ x') :
    ((op ≤ 2 ∨ 0 ≤ fnu b y) → oRaw op a x b y t ≤ oRaw op a x' b y t) ∧ ((2 < op ∧ fnu b y < 0) → oRaw op a x' b y t ≤ oRaw op a x b y t) := by
  obtain ⟨⟨a1, a2⟩, ⟨b1, b2⟩, t1, _, h4⟩ := oErr_ok h
  have hf := fok_bd a1
  have hg := fok_bd b1
  have hb := c_bd op a1 a2 b1 b2 ho1 ho2 h4
  have hb' := c_bd op a1 hx b1 b2 ho1 ho2 h4
  have hn : fnu a x ≤ fnu a x' := by
    unfold fnu
    have := Int.mul_le_mul_of_nonneg_right hxx (show 0 ≤ a.num by omega)
    omega
  have m1 : fnu a x * b.den ≤ fnu a x' * b.den := Int.mul_le_mul_of_nonneg_right hn (by omega)
  unfold oRaw
  generalize fnu a x = p at *
  generalize fnu a x' = p' at *
  generalize fnu b y = q at *
  have e : cD op p' a.den q b.den = cD op p a.den q b.den := rfl
  have m2 : 0 ≤ q → p * q ≤ p' * q := fun hq => Int.mul_le_mul_of_nonneg_right hn hq
  have m3 : q < 0 → p' * q ≤ p * q := fun hq => Int.mul_le_mul_of_nonpos_right hn (by omega)
  have s1 : q < 0 → q * a.den < 0 := fun hq => Int.mul_neg_of_neg_of_pos hq (by omega)
  have s2 : 0 ≤ q → 0 ≤ q * a.den := fun hq => Int.mul_nonneg hq (by omega)
  rw [e]
  constructor
  · intro hc
    refine fixR_mono t1 (by omega) ?_
    unfold cN
    rcases (show op = 1 ∨ op = 2 ∨ op = 3 ∨ op = 4 by omega) with rfl | rfl | rfl | rfl
    · simp; omega
    · simp; omega
    · simp; exact m2 (by omega)
    · have := s2 (by omega)
      simp [show ¬ q * a.den < 0 by omega]; exact m1
  · intro hc
    refine fixR_mono t1 (by omega) ?_
    unfold cN
    rcases (show op = 3 ∨ op = 4 by omega) with rfl | rfl
    · simp; exact m3 (by omega)
    · have := s1 (by omega)
      simp [this]; omega
theorem bif_no1 {p q r : Bool} (h : p = true ∨ q = true → r = false) : (bif (bif p then true else q) then r else false) = false := by
  cases p <;> cases q <;> cases r <;> simp_all
theorem bif_no2 {p q r : Bool} (h : p = true → q = true → r = false) : (bif (bif p then q else false) then r else false) = false := by
  cases p <;> cases q <;> cases r <;> simp_all
@[go_sem] def fxL (t : Ft) : List Cv := [ci t.bits, .v (.bool t.signed), ci t.num, ci t.off, ci t.den, ci t.m, ci t.kg, ci t.s, ci t.a, ci t.k]
def grE (op : Int) : Env := [(10, true, I op), (4, true, .c (.p 100 0)), (5, true, .c (.p 101 0)), (7, true, .c (.p 102 0)), (9, true, .c (.p 110 0))]
def grM (a : Ft) (x : Int) (b : Ft) (y : Int) (t : Ft) (x' : Int) : Mem := [(110, ⟨false, vaL a x', 27⟩), (102, ⟨false, fxL t, 25⟩), (101, ⟨false, vaL b y, 27⟩), (100, ⟨false, vaL a x, 27⟩)]
theorem law_grows (a : Ft) (x : Int) (b : Ft) (y by_ : Int) (t : Ft) (hb0 : 0 ≤ by_) (hb1 : by_ ≤ 65535) : CallOk Try.prog 8 [va a x, va b y, .c (.v (.int .u16 by_)), fx t] [] (Bo true) [] := by
  refine CallOk.mk 100 Try.func8 rfl en8 (by simp [Try.ntmps8]) (by simp [ClV, V.g, Cv.g, va, fx, ci]) fun C hR => ?_
  simp (config := { maxSteps := 2000000 }) only [go_sem, Nat.reduceBEq, Nat.reduceAdd, Nat.reduceLT, Nat.reduceLeDiff, Nat.reduceEqDiff, reduceCtorEq, Int.reduceAdd, Int.reduceSub, Int.reduceNeg, Int.reduceLE, Int.reduceLT, Int.reduceToNat, Int.reduceBEq, Int.reduceBNe, Int.reduceEq, Int.reduceNe, Int.toNat_zero, Int.toNat_one, bne_self_eq_false, Nat.reduceMul, Nat.zero_mul, Nat.mul_one, Nat.one_mul, Nat.reduceSub, Int.cast_ofNat_Int, Int.toNat_natCast]
  refine CallQ.pure 110 awake4 rfl ?_
  simp (config := { maxSteps := 2000000 }) only [go_sem, Nat.reduceBEq, Nat.reduceAdd, Nat.reduceLT, Nat.reduceLeDiff, Nat.reduceEqDiff, reduceCtorEq, Int.reduceAdd, Int.reduceSub, Int.reduceNeg, Int.reduceLE, Int.reduceLT, Int.reduceToNat, Int.reduceBEq, Int.reduceBNe, Int.reduceEq, Int.reduceNe, Int.toNat_zero, Int.toNat_one, bne_self_eq_false, Nat.reduceMul, Nat.zero_mul, Nat.mul_one, Nat.one_mul, Nat.reduceSub, Int.cast_ofNat_Int, Int.toNat_natCast]
  refine CallQ.pure 111 (rvalid4 a x) rfl ?_
  cases h1 : (fok a && fin a x) with
  | false =>
    simp (config := { maxSteps := 2000000 }) only [go_sem, Nat.reduceBEq, Nat.reduceAdd, Nat.reduceLT, Nat.reduceLeDiff, Nat.reduceEqDiff, reduceCtorEq, Int.reduceAdd, Int.reduceSub, Int.reduceNeg, Int.reduceLE, Int.reduceLT, Int.reduceToNat, Int.reduceBEq, Int.reduceBNe, Int.reduceEq, Int.reduceNe, Int.toNat_zero, Int.toNat_one, bne_self_eq_false, Nat.reduceMul, Nat.zero_mul, Nat.mul_one, Nat.one_mul, Nat.reduceSub, Int.cast_ofNat_Int, Int.toNat_natCast]
    refine CallQ.guard 111 (fun hh => by cases hh) (fun hh => by cases hh) (xs := []) (v := Bo true) ?_
    simp (config := { maxSteps := 2000000 }) only [go_sem, Nat.reduceBEq, Nat.reduceAdd, Nat.reduceLT, Nat.reduceLeDiff, Nat.reduceEqDiff, reduceCtorEq, Int.reduceAdd, Int.reduceSub, Int.reduceNeg, Int.reduceLE, Int.reduceLT, Int.reduceToNat, Int.reduceBEq, Int.reduceBNe, Int.reduceEq, Int.reduceNe, Int.toNat_zero, Int.toNat_one, bne_self_eq_false, Nat.reduceMul, Nat.zero_mul, Nat.mul_one, Nat.one_mul, Nat.reduceSub, Int.cast_ofNat_Int, Int.toNat_natCast]
    exact RetQ.bool hR rfl ⟨rfl, trivial⟩ rfl
  | true =>
    simp only [Bool.and_eq_true] at h1
    obtain ⟨ha, hx⟩ := h1
    have hbd := fin_bd ha hx
    have e1 : IntKind.i64.wrap by_ = by_ := w64 (by omega) (by omega)
    have e2 : IntKind.i64.wrap (x + by_) = x + by_ := w64 (by omega) (by omega)
    simp only [e1, e2]
    simp (config := { maxSteps := 2000000 }) only [go_sem, Nat.reduceBEq, Nat.reduceAdd, Nat.reduceLT, Nat.reduceLeDiff, Nat.reduceEqDiff, reduceCtorEq, Int.reduceAdd, Int.reduceSub, Int.reduceNeg, Int.reduceLE, Int.reduceLT, Int.reduceToNat, Int.reduceBEq, Int.reduceBNe, Int.reduceEq, Int.reduceNe, Int.toNat_zero, Int.toNat_one, bne_self_eq_false, Nat.reduceMul, Nat.zero_mul, Nat.mul_one, Nat.one_mul, Nat.reduceSub, Int.cast_ofNat_Int, Int.toNat_natCast]
    refine CallQ.pure 111 (rvalid4 a (x + by_)) rfl ?_
    cases h2 : (fok a && fin a (x + by_)) with
    | false =>
      simp (config := { maxSteps := 2000000 }) only [go_sem, Nat.reduceBEq, Nat.reduceAdd, Nat.reduceLT, Nat.reduceLeDiff, Nat.reduceEqDiff, reduceCtorEq, Int.reduceAdd, Int.reduceSub, Int.reduceNeg, Int.reduceLE, Int.reduceLT, Int.reduceToNat, Int.reduceBEq, Int.reduceBNe, Int.reduceEq, Int.reduceNe, Int.toNat_zero, Int.toNat_one, bne_self_eq_false, Nat.reduceMul, Nat.zero_mul, Nat.mul_one, Nat.one_mul, Nat.reduceSub, Int.cast_ofNat_Int, Int.toNat_natCast]
      exact RetQ.bool hR rfl ⟨rfl, trivial⟩ rfl
    | true =>
      simp only [Bool.and_eq_true] at h2
      obtain ⟨_, hx'⟩ := h2
      simp (config := { maxSteps := 2000000 }) only [go_sem, Nat.reduceBEq, Nat.reduceAdd, Nat.reduceLT, Nat.reduceLeDiff, Nat.reduceEqDiff, reduceCtorEq, Int.reduceAdd, Int.reduceSub, Int.reduceNeg, Int.reduceLE, Int.reduceLT, Int.reduceToNat, Int.reduceBEq, Int.reduceBNe, Int.reduceEq, Int.reduceNe, Int.toNat_zero, Int.toNat_one, bne_self_eq_false, Nat.reduceMul, Nat.zero_mul, Nat.mul_one, Nat.one_mul, Nat.reduceSub, Int.cast_ofNat_Int, Int.toNat_natCast]
      refine Sm.loopM (M0 := []) (α := { k : Nat // 1 ≤ k ∧ k ≤ 5 }) (Pins.nil rfl hR) (fun k => grE k.val) (fun _ => grM a x b y t (x + by_)) (fun k => 5 - k.val) ⟨1, by omega⟩
        (fun _ => ClM.of rfl) (fun _ => ClE.of rfl) [(100, 100), (101, 101), (102, 102), (110, 110)] ?_ ?_
      · exact ⟨rfl, trivial, ⟨rfl, rfl, rfl, rfl, rfl, trivial⟩, ⟨.inr ⟨_, rfl, .inl rfl⟩, .inr ⟨_, rfl, .inl rfl⟩, .inr ⟨_, rfl, .inl rfl⟩, .inr ⟨_, rfl, .inl rfl⟩, trivial⟩⟩
      rintro ⟨op, ho1, ho5⟩ J hb
      simp only at hb ⊢
      refine Sm.go 120 ?_
      simp only [grE, grM]
      simp (config := { maxSteps := 2000000 }) only [go_sem, Nat.reduceBEq, Nat.reduceAdd, Nat.reduceLT, Nat.reduceLeDiff, Nat.reduceEqDiff, reduceCtorEq, Int.reduceAdd, Int.reduceSub, Int.reduceNeg, Int.reduceLE, Int.reduceLT, Int.reduceToNat, Int.reduceBEq, Int.reduceBNe, Int.reduceEq, Int.reduceNe, Int.toNat_zero, Int.toNat_one, bne_self_eq_false, Nat.reduceMul, Nat.zero_mul, Nat.mul_one, Nat.one_mul, Nat.reduceSub, Int.cast_ofNat_Int, Int.toNat_natCast]
      by_cases h5 : op = 5
      · subst h5
        simp (config := { maxSteps := 2000000 }) only [go_sem, Nat.reduceBEq, Nat.reduceAdd, Nat.reduceLT, Nat.reduceLeDiff, Nat.reduceEqDiff, reduceCtorEq, Int.reduceAdd, Int.reduceSub, Int.reduceNeg, Int.reduceLE, Int.reduceLT, Int.reduceToNat, Int.reduceBEq, Int.reduceBNe, Int.reduceEq, Int.reduceNe, Int.toNat_zero, Int.toNat_one, bne_self_eq_false, Nat.reduceMul, Nat.zero_mul, Nat.mul_one, Nat.one_mul, Nat.reduceSub, Int.cast_ofNat_Int, Int.toNat_natCast]
        exact RetQ.bool hR rfl ⟨rfl, trivial⟩ rfl
      · have e5 : decide ((op : Int) ≤ 4) = true := by simp; omega
        simp only [e5]
        have wop : IntKind.i64.wrap ((op : Int) + 1) = ((op + 1 : Nat) : Int) := by rw [w64 (by omega) (by omega)]; omega
        have hdo := do_ op a x b y t (by omega) (by omega)
        have hdo' := do_ op a (x + by_) b y t (by omega) (by omega)
        rw [oErr_same op a x (x + by_) b y t hx hx'] at hdo'
        refine CallQ.pure 120 hdo rfl ?_
        simp (config := { maxSteps := 2000000 }) only [go_sem, Nat.reduceBEq, Nat.reduceAdd, Nat.reduceLT, Nat.reduceLeDiff, Nat.reduceEqDiff, reduceCtorEq, Int.reduceAdd, Int.reduceSub, Int.reduceNeg, Int.reduceLE, Int.reduceLT, Int.reduceToNat, Int.reduceBEq, Int.reduceBNe, Int.reduceEq, Int.reduceNe, Int.toNat_zero, Int.toNat_one, bne_self_eq_false, Nat.reduceMul, Nat.zero_mul, Nat.mul_one, Nat.one_mul, Nat.reduceSub, Int.cast_ofNat_Int, Int.toNat_natCast]
        refine CallQ.pure 130 hdo' rfl ?_
        simp (config := { maxSteps := 2000000 }) only [go_sem, Nat.reduceBEq, Nat.reduceAdd, Nat.reduceLT, Nat.reduceLeDiff, Nat.reduceEqDiff, reduceCtorEq, Int.reduceAdd, Int.reduceSub, Int.reduceNeg, Int.reduceLE, Int.reduceLT, Int.reduceToNat, Int.reduceBEq, Int.reduceBNe, Int.reduceEq, Int.reduceNe, Int.toNat_zero, Int.toNat_one, bne_self_eq_false, Nat.reduceMul, Nat.zero_mul, Nat.mul_one, Nat.one_mul, Nat.reduceSub, Int.cast_ofNat_Int, Int.toNat_natCast]
        by_cases he : oErr op a x b y t = 0
        · have he' := oErr_same op a x (x + by_) b y t hx hx'
          rw [he] at he'
          obtain ⟨_, ⟨b1, b2⟩, t1, _, _⟩ := oErr_ok he
          have hgm := grow_math (by omega) (by omega) he hx' (show x ≤ x + by_ by omega)
          simp only [oT, oR, he, he', if_true]
          simp (config := { maxSteps := 2000000 }) only [go_sem, Nat.reduceBEq, Nat.reduceAdd, Nat.reduceLT, Nat.reduceLeDiff, Nat.reduceEqDiff, reduceCtorEq, Int.reduceAdd, Int.reduceSub, Int.reduceNeg, Int.reduceLE, Int.reduceLT, Int.reduceToNat, Int.reduceBEq, Int.reduceBNe, Int.reduceEq, Int.reduceNe, Int.toNat_zero, Int.toNat_one, bne_self_eq_false, Nat.reduceMul, Nat.zero_mul, Nat.mul_one, Nat.one_mul, Nat.reduceSub, Int.cast_ofNat_Int, Int.toNat_natCast]
          refine CallQ.pure 140 (number_ok b y b1 b2) rfl ?_
          simp (config := { maxSteps := 2000000 }) only [go_sem, Nat.reduceBEq, Nat.reduceAdd, Nat.reduceLT, Nat.reduceLeDiff, Nat.reduceEqDiff, reduceCtorEq, Int.reduceAdd, Int.reduceSub, Int.reduceNeg, Int.reduceLE, Int.reduceLT, Int.reduceToNat, Int.reduceBEq, Int.reduceBNe, Int.reduceEq, Int.reduceNe, Int.toNat_zero, Int.toNat_one, bne_self_eq_false, Nat.reduceMul, Nat.zero_mul, Nat.mul_one, Nat.one_mul, Nat.reduceSub, Int.cast_ofNat_Int, Int.toNat_natCast]
          have hg := gcd2_pos (fnu b y) b.den (by have := fok_bd b1; omega)
          have hs1 : 0 ≤ fnu b y / gcd2 (fnu b y) b.den → 0 ≤ fnu b y := fun h => by
            rcases Int.lt_or_le (fnu b y) 0 with h' | h'
            · have := Int.ediv_neg_of_neg_of_pos h' hg; omega
            · exact h'
          have hs2 : fnu b y / gcd2 (fnu b y) b.den < 0 → fnu b y < 0 := fun h => by
            rcases Int.lt_or_le (fnu b y) 0 with h' | h'
            · exact h'
            · have := Int.ediv_nonneg h' (show 0 ≤ gcd2 (fnu b y) b.den by omega); omega
          have A : (bif (bif decide ((op : Int) ≤ 2) then true else decide (0 ≤ fnu b y / gcd2 (fnu b y) b.den)) then decide (oRaw op a (x + by_) b y t < oRaw op a x b y t) else false) = false := by
            refine bif_no1 fun hc => ?_
            simp only [decide_eq_true_eq] at hc
            have := hgm.1 (by rcases hc with h | h; exact .inl h; exact .inr (hs1 h))
            simp only [decide_eq_false_iff_not]; omega
          have B : (bif (bif decide (2 < (op : Int)) then decide (fnu b y / gcd2 (fnu b y) b.den < 0) else false) then decide (oRaw op a x b y t < oRaw op a (x + by_) b y t) else false) = false := by
            refine bif_no2 fun hc hd => ?_
            simp only [decide_eq_true_eq] at hc hd
            have := hgm.2 ⟨hc, hs2 hd⟩
            simp only [decide_eq_false_iff_not]; omega
          simp only [A]
          simp (config := { maxSteps := 2000000 }) only [go_sem, Nat.reduceBEq, Nat.reduceAdd, Nat.reduceLT, Nat.reduceLeDiff, Nat.reduceEqDiff, reduceCtorEq, Int.reduceAdd, Int.reduceSub, Int.reduceNeg, Int.reduceLE, Int.reduceLT, Int.reduceToNat, Int.reduceBEq, Int.reduceBNe, Int.reduceEq, Int.reduceNe, Int.toNat_zero, Int.toNat_one, bne_self_eq_false, Nat.reduceMul, Nat.zero_mul, Nat.mul_one, Nat.one_mul, Nat.reduceSub, Int.cast_ofNat_Int, Int.toNat_natCast]
          simp only [B, wop]
          exact hb _ _ ⟨op + 1, by omega⟩ [(100, 100), (101, 101), (102, 102), (110, 110)] (by simp only; omega) ⟨rfl, trivial, ⟨rfl, rfl, rfl, rfl, rfl, trivial⟩, ⟨.inr ⟨_, rfl, .inl rfl⟩, .inr ⟨_, rfl, .inl rfl⟩, .inr ⟨_, rfl, .inl rfl⟩, .inr ⟨_, rfl, .inl rfl⟩, trivial⟩⟩
        · have ne : (oErr op a x b y t != 0) = true := by simpa using he
          simp only [ne, wop]
          exact hb _ _ ⟨op + 1, by omega⟩ [(100, 100), (101, 101), (102, 102), (110, 110)] (by simp only; omega) ⟨rfl, trivial, ⟨rfl, rfl, rfl, rfl, rfl, trivial⟩, ⟨.inr ⟨_, rfl, .inl rfl⟩, .inr ⟨_, rfl, .inl rfl⟩, .inr ⟨_, rfl, .inl rfl⟩, .inr ⟨_, rfl, .inl rfl⟩, trivial⟩⟩
end Go.Proofs.Ytnolflocgodffaa
