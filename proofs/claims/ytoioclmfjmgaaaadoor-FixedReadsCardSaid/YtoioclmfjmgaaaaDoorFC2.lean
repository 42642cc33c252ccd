/- Contracts of the packages unit and fixed. -/
import Derived.Test.YtoioclmfjmgaaaaDoorFC1
namespace Go.Proofs.YtoioclmfjmgaaaaDoor.Fx
open Vg Tf
set_option linter.unusedSimpArgs false
set_option linter.unusedVariables false
set_option maxRecDepth 100000
/-- A fixed-point type. -/
structure Ft where
  bits : Int
  signed : Bool
  num : Int
  off : Int
  den : Int
  m : Int
  kg : Int
  s : Int
  a : Int
  k : Int
@[go_sem] def ci (n : Int) : Cv := .v (.int .i64 n)
@[go_sem] def un (m kg s a k : Int) : V := .agg [ci m, ci kg, ci s, ci a, ci k]
@[go_sem] def fx (t : Ft) : V := .agg [ci t.bits, .v (.bool t.signed), ci t.num, ci t.off, ci t.den, ci t.m, ci t.kg, ci t.s, ci t.a, ci t.k]
def uok (m kg s a k : Int) : Bool := decide ((-9 ≤ m ∧ m ≤ 9) ∧ (-9 ≤ kg ∧ kg ≤ 9) ∧ (-9 ≤ s ∧ s ≤ 9) ∧ (-9 ≤ a ∧ a ≤ 9) ∧ (-9 ≤ k ∧ k ≤ 9))

theorem exponents (n : Nat) (cs : List Cv) (el : TypeId) (hc : ClM [(n, ⟨true, cs, el⟩)]) (hn : n ≠ 1000) : CallOk Tryd.prog 60 [.c (.p n 0)] [(n, ⟨true, cs, el⟩)] (.agg [.p n 0, .p n 1, .p n 2, .p n 3, .p n 4]) [] := by
  have hcl : ∀ off, ∀ β β', Agree [(n, ⟨true, cs, el⟩)] β β' → Cv.g β' (.p n off) = Cv.g β (.p n off) := fun off β β' h => by simp [Cv.g, h n (by simp [Mem.get])]
  refine CallOk.mkM 1000 Tryd.func60 rfl en60 (by simp [Tryd.ntmps60]) (by simp [ClV, V.g]; intro β β' h; exact hcl 0 β β' h) fun C hR => ?_
  have hn' : (n == 1000) = false := by simpa using hn
  simp (config := { maxSteps := 2000000 }) only [go_sem, Nat.reduceBEq, Nat.reduceAdd, Nat.reduceLT, Nat.reduceLeDiff, Nat.reduceEqDiff, reduceCtorEq, Int.reduceAdd, Int.reduceSub, Int.reduceNeg, Int.reduceLE, Int.reduceLT, Int.reduceToNat, Int.reduceBEq, Int.reduceBNe, Int.reduceEq, Int.reduceNe, Int.toNat_zero, Int.toNat_one, bne_self_eq_false, Nat.reduceMul, Nat.zero_mul, Nat.mul_one, Nat.one_mul, Nat.reduceSub, Int.cast_ofNat_Int, Int.toNat_natCast]
  simp only [hn', cond_false]
  refine ⟨trivial, Sm.dgo 1001 16 mix (by decide +kernel) (by decide +kernel) ?_⟩
  simp (config := { maxSteps := 2000000 }) only [go_sem, Nat.reduceBEq, Nat.reduceAdd, Nat.reduceLT, Nat.reduceLeDiff, Nat.reduceEqDiff, reduceCtorEq, Int.reduceAdd, Int.reduceSub, Int.reduceNeg, Int.reduceLE, Int.reduceLT, Int.reduceToNat, Int.reduceBEq, Int.reduceBNe, Int.reduceEq, Int.reduceNe, Int.toNat_zero, Int.toNat_one, bne_self_eq_false, Nat.reduceMul, Nat.zero_mul, Nat.mul_one, Nat.one_mul, Nat.reduceSub, Int.cast_ofNat_Int, Int.toNat_natCast]
  have hn2 : (1000 == n) = false := by simp; omega
  refine RetQ.of hR rfl ⟨⟨rfl, by simp [sz93], by simp [sz93]⟩, trivial⟩ ?_ (Sub.one (b' := ⟨true, cs, el⟩) (by simp [Mem.get, hn2]) (Wk.refl _)) hc ?_
  · rfl
  · intro β β' h
    simp [V.g, hcl _ β β' h]
theorem uvalid (m kg s a k : Int) : CallOk Tryd.prog 24 [un m kg s a k] [] (Bo (uok m kg s a k)) [] := by
  refine CallOk.mk 100 Tryd.func24 rfl en24 (by simp [Tryd.ntmps24]) (by simp [ClV, V.g, Cv.g, un, ci]) fun C hR => ?_
  simp (config := { maxSteps := 2000000 }) only [go_sem, Nat.reduceBEq, Nat.reduceAdd, Nat.reduceLT, Nat.reduceLeDiff, Nat.reduceEqDiff, reduceCtorEq, Int.reduceAdd, Int.reduceSub, Int.reduceNeg, Int.reduceLE, Int.reduceLT, Int.reduceToNat, Int.reduceBEq, Int.reduceBNe, Int.reduceEq, Int.reduceNe, Int.toNat_zero, Int.toNat_one, bne_self_eq_false, Nat.reduceMul, Nat.zero_mul, Nat.mul_one, Nat.one_mul, Nat.reduceSub, Int.cast_ofNat_Int, Int.toNat_natCast]
  refine CallQ.mem 101 (exponents 100 [ci m, ci kg, ci s, ci a, ci k] 23 (ClM.v rfl) (by decide)) rfl (Sub.one (b' := ⟨false, [ci m, ci kg, ci s, ci a, ci k], 23⟩) rfl (.inr ⟨rfl, [], rfl⟩)) (ClM.v rfl) ?_
  simp (config := { maxSteps := 2000000 }) only [go_sem, Nat.reduceBEq, Nat.reduceAdd, Nat.reduceLT, Nat.reduceLeDiff, Nat.reduceEqDiff, reduceCtorEq, Int.reduceAdd, Int.reduceSub, Int.reduceNeg, Int.reduceLE, Int.reduceLT, Int.reduceToNat, Int.reduceBEq, Int.reduceBNe, Int.reduceEq, Int.reduceNe, Int.toNat_zero, Int.toNat_one, bne_self_eq_false, Nat.reduceMul, Nat.zero_mul, Nat.mul_one, Nat.one_mul, Nat.reduceSub, Int.cast_ofNat_Int, Int.toNat_natCast]
  refine Sm.unroll 6 (Sm.go 101 ?_)
  simp (config := { maxSteps := 2000000 }) only [go_sem, Nat.reduceBEq, Nat.reduceAdd, Nat.reduceLT, Nat.reduceLeDiff, Nat.reduceEqDiff, reduceCtorEq, Int.reduceAdd, Int.reduceSub, Int.reduceNeg, Int.reduceLE, Int.reduceLT, Int.reduceToNat, Int.reduceBEq, Int.reduceBNe, Int.reduceEq, Int.reduceNe, Int.toNat_zero, Int.toNat_one, bne_self_eq_false, Nat.reduceMul, Nat.zero_mul, Nat.mul_one, Nat.one_mul, Nat.reduceSub, Int.cast_ofNat_Int, Int.toNat_natCast]
  have key : ∀ (x : Int) (A B : Prop), (¬ (-9 ≤ x ∧ x ≤ 9) → A) → ((-9 ≤ x ∧ x ≤ 9) → B) → (match (bif decide (x < -9) then true else decide (9 < x)) with | true => A | false => B) := by
    intro x A B h1 h2
    by_cases hx : -9 ≤ x ∧ x ≤ 9
    · have e1 : decide (x < -9) = false := by simp; omega
      have e2 : decide (9 < x) = false := by simp; omega
      rw [e1, e2]; exact h2 hx
    · have : (bif decide (x < -9) then true else decide (9 < x)) = true := by
        by_cases h3 : x < -9
        · simp [h3]
        · simp [h3]; omega
      rw [this]; exact h1 hx
  refine key m _ _ (fun h => RetQ.bool hR rfl ⟨rfl, trivial⟩ (by unfold uok; simp [h])) fun h0 => ?_
  refine key kg _ _ (fun h => RetQ.bool hR rfl ⟨rfl, trivial⟩ (by unfold uok; simp [h])) fun h1 => ?_
  refine key s _ _ (fun h => RetQ.bool hR rfl ⟨rfl, trivial⟩ (by unfold uok; simp [h])) fun h2 => ?_
  refine key a _ _ (fun h => RetQ.bool hR rfl ⟨rfl, trivial⟩ (by unfold uok; simp [h])) fun h3 => ?_
  refine key k _ _ (fun h => RetQ.bool hR rfl ⟨rfl, trivial⟩ (by unfold uok; simp [h])) fun h4 => ?_
  exact RetQ.bool hR rfl ⟨rfl, trivial⟩ (by unfold uok; simp [h0, h1, h2, h3, h4])

/-- Is the type valid? -/
def fok (t : Ft) : Bool := decide (t.bits = 8 ∨ t.bits = 16 ∨ t.bits = 32) && decide (1 ≤ t.num ∧ t.num ≤ 1048576) && decide (1 ≤ t.den ∧ t.den ≤ 1048576) && decide (-1073741824 ≤ t.off ∧ t.off ≤ 1073741824) && uok t.m t.kg t.s t.a t.k
theorem fvalid (t : Ft) : CallOk Tryd.prog 45 [fx t] [] (Bo (fok t)) [] := by
  refine CallOk.mk 100 Tryd.func45 rfl en45 (by simp [Tryd.ntmps45]) (by simp [ClV, V.g, Cv.g, fx, ci]) fun C hR => ?_
  simp (config := { maxSteps := 2000000 }) only [go_sem, Nat.reduceBEq, Nat.reduceAdd, Nat.reduceLT, Nat.reduceLeDiff, Nat.reduceEqDiff, reduceCtorEq, Int.reduceAdd, Int.reduceSub, Int.reduceNeg, Int.reduceLE, Int.reduceLT, Int.reduceToNat, Int.reduceBEq, Int.reduceBNe, Int.reduceEq, Int.reduceNe, Int.toNat_zero, Int.toNat_one, bne_self_eq_false, Nat.reduceMul, Nat.zero_mul, Nat.mul_one, Nat.one_mul, Nat.reduceSub, Int.cast_ofNat_Int, Int.toNat_natCast]
  refine CallQ.guard 101 (fun _ => uvalid t.m t.kg t.s t.a t.k) (fun h => by rw [h]; rfl) ?_
  simp (config := { maxSteps := 2000000 }) only [go_sem, Nat.reduceBEq, Nat.reduceAdd, Nat.reduceLT, Nat.reduceLeDiff, Nat.reduceEqDiff, reduceCtorEq, Int.reduceAdd, Int.reduceSub, Int.reduceNeg, Int.reduceLE, Int.reduceLT, Int.reduceToNat, Int.reduceBEq, Int.reduceBNe, Int.reduceEq, Int.reduceNe, Int.toNat_zero, Int.toNat_one, bne_self_eq_false, Nat.reduceMul, Nat.zero_mul, Nat.mul_one, Nat.one_mul, Nat.reduceSub, Int.cast_ofNat_Int, Int.toNat_natCast]
  refine RetQ.bool hR rfl ⟨rfl, trivial⟩ ?_
  unfold fok
  rw [Bool.eq_iff_iff]
  simp only [Bool.cond_eq_ite, Bool.and_eq_true, decide_eq_true_eq, beq_iff_eq]
  generalize uok t.m t.kg t.s t.a t.k = u
  grind
/-- The limits. -/
def flo (t : Ft) : Int := bif t.signed then -(2 ^ (t.bits.toNat - 1)) else 0
def fhi (t : Ft) : Int := bif t.signed then 2 ^ (t.bits.toNat - 1) - 1 else 2 ^ t.bits.toNat - 1
theorem fok_bits {t : Ft} (h : fok t = true) : t.bits = 8 ∨ t.bits = 16 ∨ t.bits = 32 := by
  unfold fok at h; simp at h; exact h.1.1.1.1
theorem lims (t : Ft) : CallOk Tryd.prog 82 [fx t] [] (.tup [Wi (bif fok t then flo t else 0), Wi (bif fok t then fhi t else 0)]) [] := by
  refine CallOk.mk 100 Tryd.func82 rfl en82 (by simp [Tryd.ntmps82]) (by simp [ClV, V.g, Cv.g, fx, ci]) fun C hR => ?_
  simp (config := { maxSteps := 2000000 }) only [go_sem, Nat.reduceBEq, Nat.reduceAdd, Nat.reduceLT, Nat.reduceLeDiff, Nat.reduceEqDiff, reduceCtorEq, Int.reduceAdd, Int.reduceSub, Int.reduceNeg, Int.reduceLE, Int.reduceLT, Int.reduceToNat, Int.reduceBEq, Int.reduceBNe, Int.reduceEq, Int.reduceNe, Int.toNat_zero, Int.toNat_one, bne_self_eq_false, Nat.reduceMul, Nat.zero_mul, Nat.mul_one, Nat.one_mul, Nat.reduceSub, Int.cast_ofNat_Int, Int.toNat_natCast]
  refine CallQ.pure 101 (fvalid t) rfl ?_
  simp (config := { maxSteps := 2000000 }) only [go_sem, Nat.reduceBEq, Nat.reduceAdd, Nat.reduceLT, Nat.reduceLeDiff, Nat.reduceEqDiff, reduceCtorEq, Int.reduceAdd, Int.reduceSub, Int.reduceNeg, Int.reduceLE, Int.reduceLT, Int.reduceToNat, Int.reduceBEq, Int.reduceBNe, Int.reduceEq, Int.reduceNe, Int.toNat_zero, Int.toNat_one, bne_self_eq_false, Nat.reduceMul, Nat.zero_mul, Nat.mul_one, Nat.one_mul, Nat.reduceSub, Int.cast_ofNat_Int, Int.toNat_natCast]
  cases h : fok t with
  | false =>
    simp only [h, cond_false, Bool.not_false] at hR ⊢
    exact RetQ.int2 hR rfl ⟨rfl, rfl, trivial⟩ rfl rfl
  | true =>
    simp only [h, cond_true, Bool.not_true] at hR ⊢
    have hb := fok_bits h
    clear h
    obtain ⟨bits, signed, num, off, den, m, kg, s, a, k⟩ := t
    simp only at hb hR ⊢
    cases signed with
    | true =>
      refine Sm.dgo 101 10 mix (by decide +kernel) (by decide +kernel) ?_
      simp (config := { maxSteps := 2000000 }) only [go_sem, Nat.reduceBEq, Nat.reduceAdd, Nat.reduceLT, Nat.reduceLeDiff, Nat.reduceEqDiff, reduceCtorEq, Int.reduceAdd, Int.reduceSub, Int.reduceNeg, Int.reduceLE, Int.reduceLT, Int.reduceToNat, Int.reduceBEq, Int.reduceBNe, Int.reduceEq, Int.reduceNe, Int.toNat_zero, Int.toNat_one, bne_self_eq_false, Nat.reduceMul, Nat.zero_mul, Nat.mul_one, Nat.one_mul, Nat.reduceSub, Int.cast_ofNat_Int, Int.toNat_natCast]
      rcases hb with rfl | rfl | rfl
      · exact ⟨by decide, by decide, RetQ.int2 hR rfl ⟨rfl, rfl, trivial⟩ rfl rfl⟩
      · exact ⟨by decide, by decide, RetQ.int2 hR rfl ⟨rfl, rfl, trivial⟩ rfl rfl⟩
      · exact ⟨by decide, by decide, RetQ.int2 hR rfl ⟨rfl, rfl, trivial⟩ rfl rfl⟩
    | false =>
      refine Sm.dgo 101 5 mix (by decide +kernel) (by decide +kernel) ?_
      simp (config := { maxSteps := 2000000 }) only [go_sem, Nat.reduceBEq, Nat.reduceAdd, Nat.reduceLT, Nat.reduceLeDiff, Nat.reduceEqDiff, reduceCtorEq, Int.reduceAdd, Int.reduceSub, Int.reduceNeg, Int.reduceLE, Int.reduceLT, Int.reduceToNat, Int.reduceBEq, Int.reduceBNe, Int.reduceEq, Int.reduceNe, Int.toNat_zero, Int.toNat_one, bne_self_eq_false, Nat.reduceMul, Nat.zero_mul, Nat.mul_one, Nat.one_mul, Nat.reduceSub, Int.cast_ofNat_Int, Int.toNat_natCast]
      rcases hb with rfl | rfl | rfl
      · exact ⟨by decide, RetQ.int2 hR rfl ⟨rfl, rfl, trivial⟩ rfl rfl⟩
      · exact ⟨by decide, RetQ.int2 hR rfl ⟨rfl, rfl, trivial⟩ rfl rfl⟩
      · exact ⟨by decide, RetQ.int2 hR rfl ⟨rfl, rfl, trivial⟩ rfl rfl⟩
theorem limits (t : Ft) (h : fok t = true) : CallOk Tryd.prog 82 [fx t] [] (.tup [Wi (flo t), Wi (fhi t)]) [] := by
  have := lims t
  rw [h] at this
  exact this
/-- Within the limits? -/
def fin (t : Ft) (raw : Int) : Bool := decide (flo t ≤ raw) && decide (raw ≤ fhi t)
theorem within (t : Ft) (raw : Int) (h : fok t = true) : CallOk Tryd.prog 46 [fx t, I raw] [] (Bo (fin t raw)) [] := by
  refine CallOk.mk 100 Tryd.func46 rfl en46 (by simp [Tryd.ntmps46]) (by simp [ClV, V.g, Cv.g, fx, ci]) fun C hR => ?_
  simp (config := { maxSteps := 2000000 }) only [go_sem, Nat.reduceBEq, Nat.reduceAdd, Nat.reduceLT, Nat.reduceLeDiff, Nat.reduceEqDiff, reduceCtorEq, Int.reduceAdd, Int.reduceSub, Int.reduceNeg, Int.reduceLE, Int.reduceLT, Int.reduceToNat, Int.reduceBEq, Int.reduceBNe, Int.reduceEq, Int.reduceNe, Int.toNat_zero, Int.toNat_one, bne_self_eq_false, Nat.reduceMul, Nat.zero_mul, Nat.mul_one, Nat.one_mul, Nat.reduceSub, Int.cast_ofNat_Int, Int.toNat_natCast]
  refine CallQ.pure 101 (limits t h) rfl ?_
  simp (config := { maxSteps := 2000000 }) only [go_sem, Nat.reduceBEq, Nat.reduceAdd, Nat.reduceLT, Nat.reduceLeDiff, Nat.reduceEqDiff, reduceCtorEq, Int.reduceAdd, Int.reduceSub, Int.reduceNeg, Int.reduceLE, Int.reduceLT, Int.reduceToNat, Int.reduceBEq, Int.reduceBNe, Int.reduceEq, Int.reduceNe, Int.toNat_zero, Int.toNat_one, bne_self_eq_false, Nat.reduceMul, Nat.zero_mul, Nat.mul_one, Nat.one_mul, Nat.reduceSub, Int.cast_ofNat_Int, Int.toNat_natCast]
  refine RetQ.bool hR rfl ⟨rfl, trivial⟩ ?_
  unfold fin
  cases decide (flo t ≤ raw) <;> rfl
/-- A ratio. -/
@[go_sem] def ra (n d : Int) : V := .agg [ci n, ci d]
def gcd2 (n d : Int) : Int := Nat.gcd n.natAbs d.natAbs
theorem gcd2_pos (n d : Int) (h : 0 < d) : 0 < gcd2 n d := by
  have := Nat.gcd_pos_of_pos_right n.natAbs (show 0 < d.natAbs by omega)
  unfold gcd2; omega
theorem gcd2_dvd (n d : Int) : gcd2 n d ∣ n ∧ gcd2 n d ∣ d := by
  unfold gcd2
  exact ⟨Int.ofNat_dvd_left.2 (Nat.gcd_dvd_left _ _), Int.ofNat_dvd_left.2 (Nat.gcd_dvd_right _ _)⟩
theorem tdiv_exact {n g : Int} (h : g ∣ n) : n.tdiv g = n / g := by
  obtain ⟨k, rfl⟩ := h
  by_cases hg : g = 0
  · subst hg; simp
  · rw [Int.mul_tdiv_cancel_left _ hg, Int.mul_ediv_cancel_left _ hg]
theorem quo_bd (n g : Int) (hg : 0 < g) : -(n.natAbs : Int) ≤ n / g ∧ n / g ≤ n.natAbs := by
  constructor
  · rcases Int.lt_or_le n 0 with h | h
    · have := Int.le_ediv_of_mul_le (a := n) (b := n) hg (by have := Int.mul_le_mul_of_nonpos_left (a := n) (b := g) (c := 1) (by omega) (by omega); omega)
      omega
    · have := Int.ediv_nonneg h (show 0 ≤ g by omega); omega
  · rcases Int.lt_or_le n 0 with h | h
    · have := Int.ediv_neg_of_neg_of_pos h hg; omega
    · have := Int.ediv_le_self g h; omega
theorem reduced (n d : Int) (hn1 : -4611686018427387904 ≤ n) (hn2 : n ≤ 4611686018427387904) (hd : 0 < d) (hd2 : d ≤ 4611686018427387904) : CallOk Tryd.prog 79 [I n, I d] [] (ra (n / gcd2 n d) (d / gcd2 n d)) [] := by
  refine CallOk.mk 100 Tryd.func79 rfl en79 (by simp [Tryd.ntmps79]) (by simp [ClV, V.g, Cv.g]) fun C hR => ?_
  simp (config := { maxSteps := 2000000 }) only [go_sem, Nat.reduceBEq, Nat.reduceAdd, Nat.reduceLT, Nat.reduceLeDiff, Nat.reduceEqDiff, reduceCtorEq, Int.reduceAdd, Int.reduceSub, Int.reduceNeg, Int.reduceLE, Int.reduceLT, Int.reduceToNat, Int.reduceBEq, Int.reduceBNe, Int.reduceEq, Int.reduceNe, Int.toNat_zero, Int.toNat_one, bne_self_eq_false, Nat.reduceMul, Nat.zero_mul, Nat.mul_one, Nat.one_mul, Nat.reduceSub, Int.cast_ofNat_Int, Int.toNat_natCast]
  refine CallQ.pure 101 (gcd_ n d (by omega) (by omega) hd (by omega)) rfl ?_
  simp (config := { maxSteps := 2000000 }) only [go_sem, Nat.reduceBEq, Nat.reduceAdd, Nat.reduceLT, Nat.reduceLeDiff, Nat.reduceEqDiff, reduceCtorEq, Int.reduceAdd, Int.reduceSub, Int.reduceNeg, Int.reduceLE, Int.reduceLT, Int.reduceToNat, Int.reduceBEq, Int.reduceBNe, Int.reduceEq, Int.reduceNe, Int.toNat_zero, Int.toNat_one, bne_self_eq_false, Nat.reduceMul, Nat.zero_mul, Nat.mul_one, Nat.one_mul, Nat.reduceSub, Int.cast_ofNat_Int, Int.toNat_natCast]
  refine Sm.dgo 101 7 mix (by decide +kernel) (by decide +kernel) ?_
  simp (config := { maxSteps := 2000000 }) only [go_sem, Nat.reduceBEq, Nat.reduceAdd, Nat.reduceLT, Nat.reduceLeDiff, Nat.reduceEqDiff, reduceCtorEq, Int.reduceAdd, Int.reduceSub, Int.reduceNeg, Int.reduceLE, Int.reduceLT, Int.reduceToNat, Int.reduceBEq, Int.reduceBNe, Int.reduceEq, Int.reduceNe, Int.toNat_zero, Int.toNat_one, bne_self_eq_false, Nat.reduceMul, Nat.zero_mul, Nat.mul_one, Nat.one_mul, Nat.reduceSub, Int.cast_ofNat_Int, Int.toNat_natCast]
  have hg := gcd2_pos n d hd
  have hdv := gcd2_dvd n d
  change ¬ gcd2 n d = 0 ∧ _
  refine ⟨by omega, by change ¬ gcd2 n d = 0; omega, ?_⟩
  have q1 := quo_bd n _ hg
  have q2 := quo_bd d _ hg
  refine RetQ.pure hR rfl ⟨⟨rfl, by simp [sz62], by simp [sz62]⟩, trivial⟩ ?_ (fun _ _ _ => rfl)
  change V.agg [.v (.int .i64 (IntKind.i64.wrap (n.tdiv (gcd2 n d)))), .v (.int .i64 (IntKind.i64.wrap (d.tdiv (gcd2 n d))))] = _
  rw [tdiv_exact hdv.1, tdiv_exact hdv.2, w64 (by omega) (by omega), w64 (by omega) (by omega)]
  rfl
theorem flo_bd (t : Ft) (h : fok t = true) : -2147483648 ≤ flo t ∧ flo t ≤ 0 ∧ 0 < fhi t ∧ fhi t ≤ 4294967295 := by
  have hb := fok_bits h
  unfold flo fhi
  rcases hb with hb | hb | hb <;> rw [hb] <;> cases t.signed <;> decide
theorem fok_bd {t : Ft} (h : fok t = true) : 1 ≤ t.num ∧ t.num ≤ 1048576 ∧ 1 ≤ t.den ∧ t.den ≤ 1048576 ∧ -1073741824 ≤ t.off ∧ t.off ≤ 1073741824 := by
  unfold fok at h; simp at h; omega
theorem fin_bd {t : Ft} {raw : Int} (h : fok t = true) (hw : fin t raw = true) : -2147483648 ≤ raw ∧ raw ≤ 4294967295 := by
  have := flo_bd t h
  unfold fin at hw; simp at hw; omega
theorem mul_bd {a b A B : Int} (h1 : -A ≤ a) (h2 : a ≤ A) (h3 : 0 ≤ b) (h4 : b ≤ B) : -(A * B) ≤ a * b ∧ a * b ≤ A * B := by
  have hA : 0 ≤ A := by omega
  constructor
  · have e1 := Int.mul_le_mul_of_nonneg_right h1 h3
    have e2 := Int.mul_le_mul_of_nonneg_left h4 hA
    rw [Int.neg_mul] at e1; omega
  · have e1 := Int.mul_le_mul_of_nonneg_right h2 h3
    have e2 := Int.mul_le_mul_of_nonneg_left h4 hA
    omega
/-- The number of a raw integer. -/
def fnu (t : Ft) (raw : Int) : Int := raw * t.num + t.off
theorem fnu_bd {t : Ft} {raw : Int} (h : fok t = true) (hw : fin t raw = true) : -4503600701112320 ≤ fnu t raw ∧ fnu t raw ≤ 4503600701112320 ∧ -4503599627370496 ≤ raw * t.num ∧ raw * t.num ≤ 4503599627370496 := by
  have h1 := fin_bd h hw
  have h2 := fok_bd h
  have h3 := mul_bd (a := raw) (b := t.num) (A := 4294967296) (B := 1048576) (by omega) (by omega) (by omega) (by omega)
  unfold fnu
  omega
def numE (t : Ft) (raw : Int) : V × Int := bif fok t then (bif fin t raw then (ra (fnu t raw / gcd2 (fnu t raw) t.den) (t.den / gcd2 (fnu t raw) t.den), 0) else (ra 0 0, 2)) else (ra 0 0, 1)
theorem number_arg (t : Ft) (raw : Int) (h : fok t = false) : CallOk Tryd.prog 41 [fx t, I raw] [] (.tup [.agg [ci 0, ci 0], Wi 1]) [] := by
  refine CallOk.mk 100 Tryd.func41 rfl en41 (by simp [Tryd.ntmps41]) (by simp [ClV, V.g, Cv.g, fx, ci]) fun C hR => ?_
  simp (config := { maxSteps := 2000000 }) only [go_sem, Nat.reduceBEq, Nat.reduceAdd, Nat.reduceLT, Nat.reduceLeDiff, Nat.reduceEqDiff, reduceCtorEq, Int.reduceAdd, Int.reduceSub, Int.reduceNeg, Int.reduceLE, Int.reduceLT, Int.reduceToNat, Int.reduceBEq, Int.reduceBNe, Int.reduceEq, Int.reduceNe, Int.toNat_zero, Int.toNat_one, bne_self_eq_false, Nat.reduceMul, Nat.zero_mul, Nat.mul_one, Nat.one_mul, Nat.reduceSub, Int.cast_ofNat_Int, Int.toNat_natCast]
  refine CallQ.pure 102 (fvalid t) rfl ?_
  simp (config := { maxSteps := 2000000 }) only [go_sem, Nat.reduceBEq, Nat.reduceAdd, Nat.reduceLT, Nat.reduceLeDiff, Nat.reduceEqDiff, reduceCtorEq, Int.reduceAdd, Int.reduceSub, Int.reduceNeg, Int.reduceLE, Int.reduceLT, Int.reduceToNat, Int.reduceBEq, Int.reduceBNe, Int.reduceEq, Int.reduceNe, Int.toNat_zero, Int.toNat_one, bne_self_eq_false, Nat.reduceMul, Nat.zero_mul, Nat.mul_one, Nat.one_mul, Nat.reduceSub, Int.cast_ofNat_Int, Int.toNat_natCast]
  simp only [h, Bool.not_false]
  exact RetQ.pure hR rfl ⟨⟨rfl, by simp [sz62], by simp [sz62]⟩, rfl, trivial⟩ rfl (fun _ _ _ => rfl)
theorem number_range (t : Ft) (raw : Int) (h : fok t = true) (hw : fin t raw = false) : CallOk Tryd.prog 41 [fx t, I raw] [] (.tup [.agg [ci 0, ci 0], Wi 2]) [] := by
  refine CallOk.mk 100 Tryd.func41 rfl en41 (by simp [Tryd.ntmps41]) (by simp [ClV, V.g, Cv.g, fx, ci]) fun C hR => ?_
  simp (config := { maxSteps := 2000000 }) only [go_sem, Nat.reduceBEq, Nat.reduceAdd, Nat.reduceLT, Nat.reduceLeDiff, Nat.reduceEqDiff, reduceCtorEq, Int.reduceAdd, Int.reduceSub, Int.reduceNeg, Int.reduceLE, Int.reduceLT, Int.reduceToNat, Int.reduceBEq, Int.reduceBNe, Int.reduceEq, Int.reduceNe, Int.toNat_zero, Int.toNat_one, bne_self_eq_false, Nat.reduceMul, Nat.zero_mul, Nat.mul_one, Nat.one_mul, Nat.reduceSub, Int.cast_ofNat_Int, Int.toNat_natCast]
  refine CallQ.pure 102 (fvalid t) rfl ?_
  simp (config := { maxSteps := 2000000 }) only [go_sem, Nat.reduceBEq, Nat.reduceAdd, Nat.reduceLT, Nat.reduceLeDiff, Nat.reduceEqDiff, reduceCtorEq, Int.reduceAdd, Int.reduceSub, Int.reduceNeg, Int.reduceLE, Int.reduceLT, Int.reduceToNat, Int.reduceBEq, Int.reduceBNe, Int.reduceEq, Int.reduceNe, Int.toNat_zero, Int.toNat_one, bne_self_eq_false, Nat.reduceMul, Nat.zero_mul, Nat.mul_one, Nat.one_mul, Nat.reduceSub, Int.cast_ofNat_Int, Int.toNat_natCast]
  simp only [h, Bool.not_true]
  refine CallQ.pure 102 (within t raw h) rfl ?_
  simp (config := { maxSteps := 2000000 }) only [go_sem, Nat.reduceBEq, Nat.reduceAdd, Nat.reduceLT, Nat.reduceLeDiff, Nat.reduceEqDiff, reduceCtorEq, Int.reduceAdd, Int.reduceSub, Int.reduceNeg, Int.reduceLE, Int.reduceLT, Int.reduceToNat, Int.reduceBEq, Int.reduceBNe, Int.reduceEq, Int.reduceNe, Int.toNat_zero, Int.toNat_one, bne_self_eq_false, Nat.reduceMul, Nat.zero_mul, Nat.mul_one, Nat.one_mul, Nat.reduceSub, Int.cast_ofNat_Int, Int.toNat_natCast]
  simp only [hw, Bool.not_false]
  exact RetQ.pure hR rfl ⟨⟨rfl, by simp [sz62], by simp [sz62]⟩, rfl, trivial⟩ rfl (fun _ _ _ => rfl)
theorem number_ok (t : Ft) (raw : Int) (h : fok t = true) (hw : fin t raw = true) : CallOk Tryd.prog 41 [fx t, I raw] [] (.tup [.agg [ci (fnu t raw / gcd2 (fnu t raw) t.den), ci (t.den / gcd2 (fnu t raw) t.den)], Wi 0]) [] := by
  have hb := fnu_bd h hw
  have hf := fok_bd h
  refine CallOk.mk 100 Tryd.func41 rfl en41 (by simp [Tryd.ntmps41]) (by simp [ClV, V.g, Cv.g, fx, ci]) fun C hR => ?_
  simp (config := { maxSteps := 2000000 }) only [go_sem, Nat.reduceBEq, Nat.reduceAdd, Nat.reduceLT, Nat.reduceLeDiff, Nat.reduceEqDiff, reduceCtorEq, Int.reduceAdd, Int.reduceSub, Int.reduceNeg, Int.reduceLE, Int.reduceLT, Int.reduceToNat, Int.reduceBEq, Int.reduceBNe, Int.reduceEq, Int.reduceNe, Int.toNat_zero, Int.toNat_one, bne_self_eq_false, Nat.reduceMul, Nat.zero_mul, Nat.mul_one, Nat.one_mul, Nat.reduceSub, Int.cast_ofNat_Int, Int.toNat_natCast]
  refine CallQ.pure 102 (fvalid t) rfl ?_
  simp (config := { maxSteps := 2000000 }) only [go_sem, Nat.reduceBEq, Nat.reduceAdd, Nat.reduceLT, Nat.reduceLeDiff, Nat.reduceEqDiff, reduceCtorEq, Int.reduceAdd, Int.reduceSub, Int.reduceNeg, Int.reduceLE, Int.reduceLT, Int.reduceToNat, Int.reduceBEq, Int.reduceBNe, Int.reduceEq, Int.reduceNe, Int.toNat_zero, Int.toNat_one, bne_self_eq_false, Nat.reduceMul, Nat.zero_mul, Nat.mul_one, Nat.one_mul, Nat.reduceSub, Int.cast_ofNat_Int, Int.toNat_natCast]
  simp only [h, Bool.not_true]
  refine CallQ.pure 102 (within t raw h) rfl ?_
  simp (config := { maxSteps := 2000000 }) only [go_sem, Nat.reduceBEq, Nat.reduceAdd, Nat.reduceLT, Nat.reduceLeDiff, Nat.reduceEqDiff, reduceCtorEq, Int.reduceAdd, Int.reduceSub, Int.reduceNeg, Int.reduceLE, Int.reduceLT, Int.reduceToNat, Int.reduceBEq, Int.reduceBNe, Int.reduceEq, Int.reduceNe, Int.toNat_zero, Int.toNat_one, bne_self_eq_false, Nat.reduceMul, Nat.zero_mul, Nat.mul_one, Nat.one_mul, Nat.reduceSub, Int.cast_ofNat_Int, Int.toNat_natCast]
  simp only [hw, Bool.not_true]
  have hnn := hb
  unfold fnu at hnn
  have e1 : IntKind.i64.wrap (raw * t.num) = raw * t.num := w64 (by omega) (by omega)
  have e2 : IntKind.i64.wrap (raw * t.num + t.off) = fnu t raw := w64 (by omega) (by omega)
  simp only [e1, e2]
  refine CallQ.pure 102 (reduced (fnu t raw) t.den (by omega) (by omega) (by omega) (by omega)) rfl ?_
  simp (config := { maxSteps := 2000000 }) only [go_sem, Nat.reduceBEq, Nat.reduceAdd, Nat.reduceLT, Nat.reduceLeDiff, Nat.reduceEqDiff, reduceCtorEq, Int.reduceAdd, Int.reduceSub, Int.reduceNeg, Int.reduceLE, Int.reduceLT, Int.reduceToNat, Int.reduceBEq, Int.reduceBNe, Int.reduceEq, Int.reduceNe, Int.toNat_zero, Int.toNat_one, bne_self_eq_false, Nat.reduceMul, Nat.zero_mul, Nat.mul_one, Nat.one_mul, Nat.reduceSub, Int.cast_ofNat_Int, Int.toNat_natCast]
  exact RetQ.pure hR rfl ⟨⟨rfl, by simp [sz62], by simp [sz62]⟩, rfl, trivial⟩ rfl (fun _ _ _ => rfl)
theorem ratio_ (n d : Int) : CallOk Tryd.prog 80 [ra n d] [] (Bo (decide ((1 ≤ d ∧ d ≤ 1152921504606846976) ∧ (-1152921504606846976 ≤ n ∧ n ≤ 1152921504606846976)))) [] := by
  refine CallOk.mk 100 Tryd.func80 rfl en80 (by simp [Tryd.ntmps80]) (by simp [ClV, V.g, Cv.g, ra, ci]) fun C hR => ?_
  simp (config := { maxSteps := 2000000 }) only [go_sem, Nat.reduceBEq, Nat.reduceAdd, Nat.reduceLT, Nat.reduceLeDiff, Nat.reduceEqDiff, reduceCtorEq, Int.reduceAdd, Int.reduceSub, Int.reduceNeg, Int.reduceLE, Int.reduceLT, Int.reduceToNat, Int.reduceBEq, Int.reduceBNe, Int.reduceEq, Int.reduceNe, Int.toNat_zero, Int.toNat_one, bne_self_eq_false, Nat.reduceMul, Nat.zero_mul, Nat.mul_one, Nat.one_mul, Nat.reduceSub, Int.cast_ofNat_Int, Int.toNat_natCast]
  refine RetQ.bool hR rfl ⟨rfl, trivial⟩ ?_
  rw [Bool.eq_iff_iff]
  simp only [Bool.cond_eq_ite, decide_eq_true_eq]
  grind
end Go.Proofs.YtoioclmfjmgaaaaDoor.Fx