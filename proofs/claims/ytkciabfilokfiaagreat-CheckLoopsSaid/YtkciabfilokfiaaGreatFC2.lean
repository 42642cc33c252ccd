/- Contracts of package arith and of math/bits. Contracts of the packages unit and fixed. -/
import Derived.Test.YtkciabfilokfiaaGreatTf
namespace Go.Proofs.YtkciabfilokfiaaGreat.Fx
open Vg Tf
abbrev I (n : Int) : V := .c (.v (.int .i64 n))
abbrev U (n : Int) : V := .c (.v (.int .u64 n))
abbrev Bo (b : Bool) : V := .c (.v (.bool b))
abbrev Wi (n : Int) : W := .c (.v (.int .i64 n))
abbrev Wu (n : Int) : W := .c (.v (.int .u64 n))
theorem w64 {x : Int} (h1 : -9223372036854775808 ≤ x) (h2 : x ≤ 9223372036854775807) : IntKind.i64.wrap x = x := IntWalk.i64_in x ⟨h1, h2⟩
theorem wu64 {x : Int} (h1 : 0 ≤ x) (h2 : x < 18446744073709551616) : IntKind.u64.wrap x = x := by rw [IntKind.wrap_u64]; omega
set_option linter.unusedSimpArgs false
set_option linter.unusedVariables false
set_option maxRecDepth 100000

theorem shr32 (x : Int) : x.fdiv (2 ^ min (Int.toNat 32) 64) = x / 4294967296 := by
  rw [show (2 : Int) ^ min (Int.toNat 32) 64 = 4294967296 from rfl]
  exact Int.fdiv_eq_ediv_of_nonneg x (by omega)
theorem mul64 (x y : Int) (hx0 : 0 ≤ x) (hx : x < 18446744073709551616) (hy0 : 0 ≤ y) (hy : y < 18446744073709551616) : CallOk Tryz.prog 279 [U x, U y] [] (.tup [Wu (x * y / 18446744073709551616), Wu (x * y % 18446744073709551616)]) [] := by
  refine CallOk.mk 100 Tryz.func279 rfl en279 (by simp [Tryz.ntmps279]) (by simp [ClV, V.g, Cv.g]) fun C hR => ?_
  simp only [go_sem, Nat.reduceBEq, Nat.reduceAdd, Nat.reduceLT, Nat.reduceLeDiff, Nat.reduceEqDiff, reduceCtorEq]
  refine ⟨by decide, by decide, by decide, by decide, by decide, RetQ.int2 hR rfl ⟨rfl, rfl, trivial⟩ ?_ (IntKind.wrap_u64 _)⟩
  have hm := mul64_arith x y hx0 hx hy0 hy
  have hp : ∀ z : Int, 0 ≤ z % 18446744073709551616 ∧ z % 18446744073709551616 < 18446744073709551616 := fun z => by omega
  simp only [IntKind.wrap_u64, shr32]
  rw [and_low32 x hx0 hx, and_low32 y hy0 hy]
  rw [and_low32 _ (hp _).1 (hp _).2]
  exact hm
/-- The rounding of a quotient. -/
def rnd (m p c : Int) : Int := if m = 1 then p / c else if m = 2 then -((-p) / c) else (2 * p + c) / (2 * c)
end Go.Proofs.YtkciabfilokfiaaGreat.Fx
namespace Go.Proofs.YtkciabfilokfiaaGreat.Fx
open Vg Tf
set_option linter.unusedSimpArgs false
set_option linter.unusedVariables false
set_option maxRecDepth 100000
/-- A fixed-point type. -/
structure Ft where
  bits : Int
  signed : Bool
  num : Int
  off : Int
  den : Int
  m : Int
  kg : Int
  s : Int
  a : Int
  k : Int
@[go_sem] def ci (n : Int) : Cv := .v (.int .i64 n)
@[go_sem] def un (m kg s a k : Int) : V := .agg [ci m, ci kg, ci s, ci a, ci k]
@[go_sem] def fx (t : Ft) : V := .agg [ci t.bits, .v (.bool t.signed), ci t.num, ci t.off, ci t.den, ci t.m, ci t.kg, ci t.s, ci t.a, ci t.k]
def uok (m kg s a k : Int) : Bool := decide ((-9 ≤ m ∧ m ≤ 9) ∧ (-9 ≤ kg ∧ kg ≤ 9) ∧ (-9 ≤ s ∧ s ≤ 9) ∧ (-9 ≤ a ∧ a ≤ 9) ∧ (-9 ≤ k ∧ k ≤ 9))

theorem exponents (n : Nat) (cs : List Cv) (el : TypeId) (hc : ClM [(n, ⟨true, cs, el⟩)]) (hn : n ≠ 1000) : CallOk Tryz.prog 175 [.c (.p n 0)] [(n, ⟨true, cs, el⟩)] (.agg [.p n 0, .p n 1, .p n 2, .p n 3, .p n 4]) [] := by
  have hcl : ∀ off, ∀ β β', Agree [(n, ⟨true, cs, el⟩)] β β' → Cv.g β' (.p n off) = Cv.g β (.p n off) := fun off β β' h => by simp [Cv.g, h n (by simp [Mem.get])]
  refine CallOk.mkM 1000 Tryz.func175 rfl en175 (by simp [Tryz.ntmps175]) (by simp [ClV, V.g]; intro β β' h; exact hcl 0 β β' h) fun C hR => ?_
  have hn' : (n == 1000) = false := by simpa using hn
  refine vv ?_
  simp only [hn', cond_false]
  refine ⟨trivial, Sm.dgo 1001 16 mix (by decide +kernel) (by decide +kernel) ?_⟩
  refine vv ?_
  have hn2 : (1000 == n) = false := by simp; omega
  refine RetQ.of hR rfl ⟨⟨rfl, by simp [sz206], by simp [sz206]⟩, trivial⟩ ?_ (Sub.one (b' := ⟨true, cs, el⟩) (by simp [Mem.get, hn2]) (Wk.refl _)) hc ?_
  · rfl
  · intro β β' h
    simp [V.g, hcl _ β β' h]
theorem uvalid (m kg s a k : Int) : CallOk Tryz.prog 115 [un m kg s a k] [] (Bo (uok m kg s a k)) [] := by
  refine CallOk.mk 100 Tryz.func115 rfl en115 (by simp [Tryz.ntmps115]) (by simp [ClV, V.g, Cv.g, un, ci]) fun C hR => ?_
  refine vv ?_
  refine CallQ.mem 101 (exponents 100 [ci m, ci kg, ci s, ci a, ci k] 23 (ClM.v rfl) (by decide)) rfl (Sub.one (b' := ⟨false, [ci m, ci kg, ci s, ci a, ci k], 41⟩) rfl (.inr ⟨rfl, [], rfl⟩)) (ClM.v rfl) ?_
  refine vv ?_
  refine Sm.unroll 6 (Sm.go 101 ?_)
  refine vv ?_
  have key : ∀ (x : Int) (A B : Prop), (¬ (-9 ≤ x ∧ x ≤ 9) → A) → ((-9 ≤ x ∧ x ≤ 9) → B) → (match (bif decide (x < -9) then true else decide (9 < x)) with | true => A | false => B) := by
    intro x A B h1 h2
    by_cases hx : -9 ≤ x ∧ x ≤ 9
    · have e1 : decide (x < -9) = false := by simp; omega
      have e2 : decide (9 < x) = false := by simp; omega
      rw [e1, e2]; exact h2 hx
    · have : (bif decide (x < -9) then true else decide (9 < x)) = true := by
        by_cases h3 : x < -9
        · simp [h3]
        · simp [h3]; omega
      rw [this]; exact h1 hx
  refine key m _ _ (fun h => RetQ.bool hR rfl ⟨rfl, trivial⟩ (by unfold uok; simp [h])) fun h0 => ?_
  refine key kg _ _ (fun h => RetQ.bool hR rfl ⟨rfl, trivial⟩ (by unfold uok; simp [h])) fun h1 => ?_
  refine key s _ _ (fun h => RetQ.bool hR rfl ⟨rfl, trivial⟩ (by unfold uok; simp [h])) fun h2 => ?_
  refine key a _ _ (fun h => RetQ.bool hR rfl ⟨rfl, trivial⟩ (by unfold uok; simp [h])) fun h3 => ?_
  refine key k _ _ (fun h => RetQ.bool hR rfl ⟨rfl, trivial⟩ (by unfold uok; simp [h])) fun h4 => ?_
  exact RetQ.bool hR rfl ⟨rfl, trivial⟩ (by unfold uok; simp [h0, h1, h2, h3, h4])

/-- Is the type valid? -/
def fok (t : Ft) : Bool := decide (t.bits = 8 ∨ t.bits = 16 ∨ t.bits = 32) && decide (1 ≤ t.num ∧ t.num ≤ 1048576) && decide (1 ≤ t.den ∧ t.den ≤ 1048576) && decide (-1073741824 ≤ t.off ∧ t.off ≤ 1073741824) && uok t.m t.kg t.s t.a t.k
theorem fvalid (t : Ft) : CallOk Tryz.prog 51 [fx t] [] (Bo (fok t)) [] := by
  refine CallOk.mk 100 Tryz.func51 rfl en51 (by simp [Tryz.ntmps51]) (by simp [ClV, V.g, Cv.g, fx, ci]) fun C hR => ?_
  refine vv ?_
  refine CallQ.guard 101 (fun _ => uvalid t.m t.kg t.s t.a t.k) (fun h => by rw [h]; rfl) ?_
  refine vv ?_
  refine RetQ.bool hR rfl ⟨rfl, trivial⟩ ?_
  unfold fok
  rw [Bool.eq_iff_iff]
  simp only [Bool.cond_eq_ite, Bool.and_eq_true, decide_eq_true_eq, beq_iff_eq]
  generalize uok t.m t.kg t.s t.a t.k = u
  grind
/-- The limits. -/
def flo (t : Ft) : Int := bif t.signed then -(2 ^ (t.bits.toNat - 1)) else 0
def fhi (t : Ft) : Int := bif t.signed then 2 ^ (t.bits.toNat - 1) - 1 else 2 ^ t.bits.toNat - 1
theorem fok_bits {t : Ft} (h : fok t = true) : t.bits = 8 ∨ t.bits = 16 ∨ t.bits = 32 := by
  unfold fok at h; simp at h; exact h.1.1.1.1
theorem lims (t : Ft) : CallOk Tryz.prog 15 [fx t] [] (.tup [Wi (bif fok t then flo t else 0), Wi (bif fok t then fhi t else 0)]) [] := by
  refine CallOk.mk 100 Tryz.func15 rfl en15 (by simp [Tryz.ntmps15]) (by simp [ClV, V.g, Cv.g, fx, ci]) fun C hR => ?_
  refine vv ?_
  refine CallQ.pure 101 (fvalid t) rfl ?_
  refine vv ?_
  cases h : fok t with
  | false =>
    simp only [h, cond_false, Bool.not_false] at hR ⊢
    exact RetQ.int2 hR rfl ⟨rfl, rfl, trivial⟩ rfl rfl
  | true =>
    simp only [h, cond_true, Bool.not_true] at hR ⊢
    have hb := fok_bits h
    clear h
    obtain ⟨bits, signed, num, off, den, m, kg, s, a, k⟩ := t
    simp only at hb hR ⊢
    cases signed with
    | true =>
      refine Sm.dgo 101 10 mix (by decide +kernel) (by decide +kernel) ?_
      refine vv ?_
      rcases hb with rfl | rfl | rfl
      · exact ⟨by decide, by decide, RetQ.int2 hR rfl ⟨rfl, rfl, trivial⟩ rfl rfl⟩
      · exact ⟨by decide, by decide, RetQ.int2 hR rfl ⟨rfl, rfl, trivial⟩ rfl rfl⟩
      · exact ⟨by decide, by decide, RetQ.int2 hR rfl ⟨rfl, rfl, trivial⟩ rfl rfl⟩
    | false =>
      refine Sm.dgo 101 5 mix (by decide +kernel) (by decide +kernel) ?_
      refine vv ?_
      rcases hb with rfl | rfl | rfl
      · exact ⟨by decide, RetQ.int2 hR rfl ⟨rfl, rfl, trivial⟩ rfl rfl⟩
      · exact ⟨by decide, RetQ.int2 hR rfl ⟨rfl, rfl, trivial⟩ rfl rfl⟩
      · exact ⟨by decide, RetQ.int2 hR rfl ⟨rfl, rfl, trivial⟩ rfl rfl⟩
theorem limits (t : Ft) (h : fok t = true) : CallOk Tryz.prog 15 [fx t] [] (.tup [Wi (flo t), Wi (fhi t)]) [] := by
  have := lims t
  rw [h] at this
  exact this
/-- Within the limits? -/
def fin (t : Ft) (raw : Int) : Bool := decide (flo t ≤ raw) && decide (raw ≤ fhi t)
/-- A ratio. -/
@[go_sem] def ra (n d : Int) : V := .agg [ci n, ci d]
theorem flo_bd (t : Ft) (h : fok t = true) : -2147483648 ≤ flo t ∧ flo t ≤ 0 ∧ 0 < fhi t ∧ fhi t ≤ 4294967295 := by
  have hb := fok_bits h
  unfold flo fhi
  rcases hb with hb | hb | hb <;> rw [hb] <;> cases t.signed <;> decide
theorem fok_bd {t : Ft} (h : fok t = true) : 1 ≤ t.num ∧ t.num ≤ 1048576 ∧ 1 ≤ t.den ∧ t.den ≤ 1048576 ∧ -1073741824 ≤ t.off ∧ t.off ≤ 1073741824 := by
  unfold fok at h; simp at h; omega
theorem fin_bd {t : Ft} {raw : Int} (h : fok t = true) (hw : fin t raw = true) : -2147483648 ≤ raw ∧ raw ≤ 4294967295 := by
  have := flo_bd t h
  unfold fin at hw; simp at hw; omega
theorem mul_bd {a b A B : Int} (h1 : -A ≤ a) (h2 : a ≤ A) (h3 : 0 ≤ b) (h4 : b ≤ B) : -(A * B) ≤ a * b ∧ a * b ≤ A * B := by
  have hA : 0 ≤ A := by omega
  constructor
  · have e1 := Int.mul_le_mul_of_nonneg_right h1 h3
    have e2 := Int.mul_le_mul_of_nonneg_left h4 hA
    rw [Int.neg_mul] at e1; omega
  · have e1 := Int.mul_le_mul_of_nonneg_right h2 h3
    have e2 := Int.mul_le_mul_of_nonneg_left h4 hA
    omega
/-- The number of a raw integer. -/
def fnu (t : Ft) (raw : Int) : Int := raw * t.num + t.off
theorem fnu_bd {t : Ft} {raw : Int} (h : fok t = true) (hw : fin t raw = true) : -4503600701112320 ≤ fnu t raw ∧ fnu t raw ≤ 4503600701112320 ∧ -4503599627370496 ≤ raw * t.num ∧ raw * t.num ≤ 4503599627370496 := by
  have h1 := fin_bd h hw
  have h2 := fok_bd h
  have h3 := mul_bd (a := raw) (b := t.num) (A := 4294967296) (B := 1048576) (by omega) (by omega) (by omega) (by omega)
  unfold fnu
  omega
end Go.Proofs.YtkciabfilokfiaaGreat.Fx
