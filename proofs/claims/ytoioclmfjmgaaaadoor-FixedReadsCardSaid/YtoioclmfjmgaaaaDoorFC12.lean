/- Contract of the reference's Over: long division, bit by bit. And: Contracts of the reference of layer 1: Times, Over. -/
import Derived.Test.YtoioclmfjmgaaaaDoorFC2
import Derived.Test.YtoioclmfjmgaaaaDoorFC9
namespace Go.Proofs.YtoioclmfjmgaaaaDoor.Fx
open Vg Tf
set_option linter.unusedSimpArgs false
set_option linter.unusedVariables false
set_option maxRecDepth 100000
theorem times_arith (al ah bl bh p1 p2 p3 p4 ab : Int) (h1 : 0 ≤ p1) (h2 : 0 ≤ p2) (h3 : 0 ≤ p3) (h4 : 0 ≤ p4) (g1 : p1 ≤ 18446744065119617025) (g2 : p2 ≤ 18446744065119617025) (g3 : p3 ≤ 18446744065119617025) (g4 : p4 ≤ 18446744065119617025)
    (h : ab = p4 * 18446744073709551616 + (p2 + p3) * 4294967296 + p1) (hab : ab < 340282366920938463463374607431768211456) :
    (p4 + (p2 + p1 / 4294967296) / 4294967296 + (p3 + (p2 + p1 / 4294967296) % 4294967296) / 4294967296 = ab / 18446744073709551616) ∧
    ((p3 + (p2 + p1 / 4294967296) % 4294967296) * 4294967296 % 18446744073709551616 + p1 % 4294967296 = ab % 18446744073709551616) := by
  constructor <;> omega
theorem times_ (x y : Int) (hx0 : 0 ≤ x) (hx : x < 18446744073709551616) (hy0 : 0 ≤ y) (hy : y < 18446744073709551616) : CallOk Tryd.prog 96 [U x, U y] [] (.agg [.v (.int .u64 (x * y / 18446744073709551616)), .v (.int .u64 (x * y % 18446744073709551616))]) [] := by
  refine CallOk.mk 100 Tryd.func96 rfl en96 (by simp [Tryd.ntmps96]) (by simp [ClV, V.g, Cv.g]) fun C hR => ?_
  simp (config := { maxSteps := 2000000 }) only [go_sem, Nat.reduceBEq, Nat.reduceAdd, Nat.reduceLT, Nat.reduceLeDiff, Nat.reduceEqDiff, reduceCtorEq, Int.reduceAdd, Int.reduceSub, Int.reduceNeg, Int.reduceLE, Int.reduceLT, Int.reduceToNat, Int.reduceBEq, Int.reduceBNe, Int.reduceEq, Int.reduceNe, Int.toNat_zero, Int.toNat_one, bne_self_eq_false, Nat.reduceMul, Nat.zero_mul, Nat.mul_one, Nat.one_mul, Nat.reduceSub, Int.cast_ofNat_Int, Int.toNat_natCast]
  have s32 : ∀ z : Int, z.fdiv (2 ^ min 32 64) = z / 4294967296 := shr32
  have s33 : ∀ z : Int, z.fdiv 4294967296 = z / 4294967296 := fun z => Int.fdiv_eq_ediv_of_nonneg z (by omega)
  have l32 : (2 : Int) ^ min 32 64 = 4294967296 := rfl
  have hp : ∀ z : Int, 0 ≤ z % 18446744073709551616 ∧ z % 18446744073709551616 < 18446744073709551616 := fun z => by omega
  have xm := mul_bd (a := x % 4294967296) (b := y % 4294967296) (A := 4294967295) (B := 4294967295) (by omega) (by omega) (by omega) (by omega)
  have x2 := mul_bd (a := x / 4294967296) (b := y % 4294967296) (A := 4294967295) (B := 4294967295) (by omega) (by omega) (by omega) (by omega)
  have x3 := mul_bd (a := x % 4294967296) (b := y / 4294967296) (A := 4294967295) (B := 4294967295) (by omega) (by omega) (by omega) (by omega)
  have x4 := mul_bd (a := x / 4294967296) (b := y / 4294967296) (A := 4294967295) (B := 4294967295) (by omega) (by omega) (by omega) (by omega)
  have n1 : 0 ≤ x % 4294967296 * (y % 4294967296) := Int.mul_nonneg (by omega) (by omega)
  have n2 : 0 ≤ x / 4294967296 * (y % 4294967296) := Int.mul_nonneg (by omega) (by omega)
  have n3 : 0 ≤ x % 4294967296 * (y / 4294967296) := Int.mul_nonneg (by omega) (by omega)
  have n4 : 0 ≤ x / 4294967296 * (y / 4294967296) := Int.mul_nonneg (by omega) (by omega)
  have hxy : x * y = x / 4294967296 * (y / 4294967296) * 18446744073709551616 + (x / 4294967296 * (y % 4294967296) + x % 4294967296 * (y / 4294967296)) * 4294967296 + x % 4294967296 * (y % 4294967296) := by
    have e1 := Int.mul_ediv_add_emod x 4294967296
    have e2 := Int.mul_ediv_add_emod y 4294967296
    generalize x / 4294967296 = a at *
    generalize x % 4294967296 = b at *
    generalize y / 4294967296 = c at *
    generalize y % 4294967296 = e at *
    rw [← e1, ← e2]
    grind
  refine RetQ.pure hR rfl ⟨⟨rfl, by simp [sz135], by simp [sz135]⟩, trivial⟩ ?_ (fun _ _ _ => rfl)
  simp only [sz135, List.drop_zero, List.take_succ_cons, List.take_zero, List.take_nil, W.toV, s33, l32, and_low32 x hx0 hx, and_low32 y hy0 hy]
  generalize x % 4294967296 * (y % 4294967296) = p1 at *
  generalize x / 4294967296 * (y % 4294967296) = p2 at *
  generalize x % 4294967296 * (y / 4294967296) = p3 at *
  generalize x / 4294967296 * (y / 4294967296) = p4 at *
  obtain ⟨t1, t2⟩ := times_arith 0 0 0 0 p1 p2 p3 p4 (x * y) n1 n2 n3 n4 (by omega) (by omega) (by omega) (by omega) hxy (by omega)
  have q1 : IntKind.u64.wrap p1 = p1 := wu64 (by omega) (by omega)
  have q2 : IntKind.u64.wrap p2 = p2 := wu64 (by omega) (by omega)
  have q3 : IntKind.u64.wrap p3 = p3 := wu64 (by omega) (by omega)
  have q4 : IntKind.u64.wrap p4 = p4 := wu64 (by omega) (by omega)
  have q5 : IntKind.u64.wrap (p2 + p1 / 4294967296) = p2 + p1 / 4294967296 := wu64 (by omega) (by omega)
  simp only [q1, q2, q3, q4, q5, and_low32 p1 (by omega) (by omega), and_low32 (p2 + p1 / 4294967296) (by omega) (by omega)]
  have q6 : IntKind.u64.wrap (p3 + (p2 + p1 / 4294967296) % 4294967296) = p3 + (p2 + p1 / 4294967296) % 4294967296 := wu64 (by omega) (by omega)
  have q7 : IntKind.u64.wrap (p4 + (p2 + p1 / 4294967296) / 4294967296) = p4 + (p2 + p1 / 4294967296) / 4294967296 := wu64 (by omega) (by omega)
  simp only [q6, q7]
  rw [t1, IntKind.wrap_u64 ((p3 + (p2 + p1 / 4294967296) % 4294967296) * 4294967296), t2, wu64 (by omega) (by omega), wu64 (by omega) (by omega)]
end Go.Proofs.YtoioclmfjmgaaaaDoor.Fx
namespace Go.Proofs.YtoioclmfjmgaaaaDoor.Fx
open Vg Tf
set_option linter.unusedSimpArgs false
set_option linter.unusedVariables false
set_option maxRecDepth 100000
def ovE (c rest q : Int) (k : Nat) : Env := [(1, true, U c), (2, true, .c (.p 100 0)), (7, true, U rest), (8, true, U q), (9, true, I ((k : Int) - 1))]
def ovM (hi lo : Int) : Mem := [(100, ⟨false, [.v (.int .u64 hi), .v (.int .u64 lo)], 135⟩)]
theorem ovE_cl (hi lo c rest q : Int) (k : Nat) : ∀ p ∈ ovE c rest q k, ClV (ovM hi lo) p.2.2 := by
  intro p hp β β' h
  simp only [ovE, List.mem_cons, List.not_mem_nil, or_false] at hp
  rcases hp with rfl | rfl | rfl | rfl | rfl
  · rfl
  · simp [V.g, Cv.g, h 100 (by simp [ovM, Mem.get])]
  · rfl
  · rfl
  · rfl
theorem and1 (z : Int) (h0 : 0 ≤ z) (h1 : z < 18446744073709551616) : bits .and .u64 z 1 = z % 2 := by go_bits2
/-- One bit more of the dividend. -/
theorem ov_bit (hi lo W : Int) (j : Nat) (hj : j < 64) (hW : hi * 18446744073709551616 + lo = W) : W / 2 ^ j = 2 * (W / 2 ^ (j + 1)) + lo / 2 ^ j % 2 := by
  have h1 : W / 2 ^ (j + 1) = W / 2 ^ j / 2 := by
    rw [Int.pow_succ, Int.ediv_ediv, if_neg (by have : (0 : Int) < 2 ^ j := Int.pow_pos (by decide); omega)]; omega
  have h2 : (18446744073709551616 : Int) = 2 * 2 ^ (63 - j) * 2 ^ j := by
    rw [Int.mul_assoc, ← Int.pow_add, show 63 - j + j = 63 by omega]; rfl
  have hp : (0 : Int) < 2 ^ j := Int.pow_pos (by decide)
  have h3 : W / 2 ^ j = hi * (2 * 2 ^ (63 - j)) + lo / 2 ^ j := by
    rw [← hW, h2, ← Int.mul_assoc, Int.add_comm, Int.add_mul_ediv_right _ _ (by omega)]; omega
  have h4 : W / 2 ^ j % 2 = lo / 2 ^ j % 2 := by
    rw [h3, show hi * (2 * 2 ^ (63 - j)) = 2 * (hi * 2 ^ (63 - j)) by grind]; omega
  rw [h1]; omega
theorem over_no (hi lo c : Int) (h : c ≤ hi) : CallOk Tryd.prog 95 [.agg [.v (.int .u64 hi), .v (.int .u64 lo)], U c] [] (.tup [Wu 0, Wu 0, .c (.v (.bool false))]) [] := by
  refine CallOk.mk 100 Tryd.func95 rfl en95 (by simp [Tryd.ntmps95]) (by simp [ClV, V.g, Cv.g]) fun C hR => ?_
  have e : decide (c ≤ hi) = true := by simpa using h
  simp (config := { maxSteps := 2000000 }) only [go_sem, Nat.reduceBEq, Nat.reduceAdd, Nat.reduceLT, Nat.reduceLeDiff, Nat.reduceEqDiff, reduceCtorEq, Int.reduceAdd, Int.reduceSub, Int.reduceNeg, Int.reduceLE, Int.reduceLT, Int.reduceToNat, Int.reduceBEq, Int.reduceBNe, Int.reduceEq, Int.reduceNe, Int.toNat_zero, Int.toNat_one, bne_self_eq_false, Nat.reduceMul, Nat.zero_mul, Nat.mul_one, Nat.one_mul, Nat.reduceSub, Int.cast_ofNat_Int, Int.toNat_natCast]
  simp only [e]
  exact RetQ.pure hR rfl ⟨rfl, rfl, rfl, trivial⟩ rfl (fun _ _ _ => rfl)
theorem over_ (hi lo c : Int) (h0 : 0 ≤ hi) (hc : hi < c) (hc2 : c < 18446744073709551616) (hl0 : 0 ≤ lo) (hl : lo < 18446744073709551616) :
    CallOk Tryd.prog 95 [.agg [.v (.int .u64 hi), .v (.int .u64 lo)], U c] [] (.tup [Wu ((hi * 18446744073709551616 + lo) / c), Wu ((hi * 18446744073709551616 + lo) % c), .c (.v (.bool true))]) [] := by
  refine CallOk.mk 100 Tryd.func95 rfl en95 (by simp [Tryd.ntmps95]) (by simp [ClV, V.g, Cv.g]) fun C hR => ?_
  have e : decide (c ≤ hi) = false := by simp; omega
  simp (config := { maxSteps := 2000000 }) only [go_sem, Nat.reduceBEq, Nat.reduceAdd, Nat.reduceLT, Nat.reduceLeDiff, Nat.reduceEqDiff, reduceCtorEq, Int.reduceAdd, Int.reduceSub, Int.reduceNeg, Int.reduceLE, Int.reduceLT, Int.reduceToNat, Int.reduceBEq, Int.reduceBNe, Int.reduceEq, Int.reduceNe, Int.toNat_zero, Int.toNat_one, bne_self_eq_false, Nat.reduceMul, Nat.zero_mul, Nat.mul_one, Nat.one_mul, Nat.reduceSub, Int.cast_ofNat_Int, Int.toNat_natCast]
  simp only [e]
  generalize hW : hi * 18446744073709551616 + lo = W at hR
  have r64 : W / 2 ^ 64 % c = hi := by
    rw [show W / 2 ^ 64 = hi by omega]; exact Int.emod_eq_of_lt h0 hc
  have q64 : W / 2 ^ 64 / c = 0 := by
    rw [show W / 2 ^ 64 = hi by omega]; exact Int.ediv_eq_zero_of_lt h0 hc
  refine Sm.loop (α := { k : Nat // k ≤ 64 }) (fun k => ovE c (W / 2 ^ k.val % c) (W / 2 ^ k.val / c) k.val) (fun _ => ovM hi lo) (fun k => k.val) ⟨64, by decide⟩ ?_ ?_
  · simp only [r64, q64]
    exact Wkn.mk ⟨rfl, rfl, rfl, rfl, rfl, trivial⟩ (Sub.cons rfl (Sub.nil _)) (ClM.v rfl) (ovE_cl _ _ _ _ _ _) (fun n l h => by have := hR.1 n l h; cases this)
  rintro ⟨k, hk⟩ J hb
  simp only at hb ⊢
  refine Sm.go 102 ?_
  simp only [ovE, ovM]
  simp (config := { maxSteps := 2000000 }) only [go_sem, Nat.reduceBEq, Nat.reduceAdd, Nat.reduceLT, Nat.reduceLeDiff, Nat.reduceEqDiff, reduceCtorEq, Int.reduceAdd, Int.reduceSub, Int.reduceNeg, Int.reduceLE, Int.reduceLT, Int.reduceToNat, Int.reduceBEq, Int.reduceBNe, Int.reduceEq, Int.reduceNe, Int.toNat_zero, Int.toNat_one, bne_self_eq_false, Nat.reduceMul, Nat.zero_mul, Nat.mul_one, Nat.one_mul, Nat.reduceSub, Int.cast_ofNat_Int, Int.toNat_natCast]
  have ha0 := Int.emod_nonneg (W / 2 ^ k) (show c ≠ 0 by omega)
  have ha1 := Int.emod_lt_of_pos (W / 2 ^ k) (show 0 < c by omega)
  have ha2 := Int.mul_ediv_add_emod (W / 2 ^ k) c
  cases k with
  | zero =>
    have dk : decide (0 ≤ ((0 : Nat) : Int) - 1) = false := by decide
    simp only [dk]
    exact RetQ.pure hR rfl ⟨rfl, rfl, rfl, trivial⟩ (by simp) (fun _ _ _ => rfl)
  | succ j =>
    have dk : decide (0 ≤ (j : Int)) = true := by simp
    have hj : (((j + 1 : Nat) : Int) - 1) = j := by omega
    have wj : (IntKind.u64.wrap (j : Int)).toNat = j := by rw [wu64 (by omega) (by omega)]; omega
    have mj : min j 64 = j := by omega
    have hbit := ov_bit hi lo W j (by omega) hW
    have s63 : ∀ z : Int, z.fdiv (2 ^ min 63 64) = z / 9223372036854775808 := fun z => Int.fdiv_eq_ediv_of_nonneg z (by decide)
    have hp : (0 : Int) < 2 ^ j := Int.pow_pos (by decide)
    have sj : lo.fdiv (2 ^ j) = lo / 2 ^ j := Int.fdiv_eq_ediv_of_nonneg lo (by omega)
    have lj0 : 0 ≤ lo / 2 ^ j := Int.ediv_nonneg hl0 (by omega)
    have lj1 : lo / 2 ^ j ≤ lo := Int.ediv_le_self _ hl0
    have l1 : (2 : Int) ^ min 1 64 = 2 := rfl
    have aj := and1 (lo / 2 ^ j) lj0 (by omega)
    have wi : IntKind.i64.wrap ((j : Int) - 1) = (j : Int) - 1 := w64 (by omega) (by omega)
    have hWc : W < c * 18446744073709551616 := by omega
    have hB0 : 0 ≤ W / 2 ^ j := Int.ediv_nonneg (by omega) (by omega)
    have hBW : W / 2 ^ j ≤ W := Int.ediv_le_self _ (by omega)
    have hq1 : W / 2 ^ j / c < 18446744073709551616 := Int.ediv_lt_of_lt_mul (by omega) (by rw [Int.mul_comm]; omega)
    have hk0 : 0 ≤ W / 2 ^ (j + 1) / c := Int.ediv_nonneg (by omega) (by omega)
    have hB : W / 2 ^ j = c * (2 * (W / 2 ^ (j + 1) / c)) + (2 * (W / 2 ^ (j + 1) % c) + lo / 2 ^ j % 2) := by
      rw [hbit]
      have : c * (2 * (W / 2 ^ (j + 1) / c)) = 2 * (c * (W / 2 ^ (j + 1) / c)) := by grind
      omega
    have hrem := Int.mul_ediv_add_emod (W / 2 ^ j) c
    simp only [hj, dk, wj, mj, s63, sj, l1, aj, wi]
    generalize W / 2 ^ (j + 1) % c = ρ at *
    generalize W / 2 ^ (j + 1) / c = κ at *
    generalize hbb : lo / 2 ^ j % 2 = b at *
    have hb01 : 0 ≤ b ∧ b ≤ 1 := by omega
    have hcond : (bif ρ / 9223372036854775808 == 1 then true else decide (c ≤ IntKind.u64.wrap (IntKind.u64.wrap (ρ * 2) + b))) = decide (c ≤ 2 * ρ + b) := by
      by_cases hr : ρ < 9223372036854775808
      · have e1 : (ρ / 9223372036854775808 == 1) = false := by simp; omega
        rw [e1, show IntKind.u64.wrap (ρ * 2) = ρ * 2 from wu64 (by omega) (by omega), wu64 (by omega) (by omega), Int.mul_comm]; rfl
      · have e1 : (ρ / 9223372036854775808 == 1) = true := by simp; omega
        rw [e1]
        have : decide (c ≤ 2 * ρ + b) = true := by simp; omega
        rw [this]; rfl
    simp only [hcond]
    by_cases hcc : c ≤ 2 * ρ + b
    · have dc : decide (c ≤ 2 * ρ + b) = true := by simpa using hcc
      have eq : W / 2 ^ j / c = 2 * κ + 1 := ediv_eq (by omega) (by rw [Int.mul_add]; omega) (by rw [Int.mul_add]; omega)
      have er : W / 2 ^ j % c = 2 * ρ + b - c := by rw [eq, Int.mul_add] at hrem; omega
      have v1 : IntKind.u64.wrap (IntKind.u64.wrap (IntKind.u64.wrap (ρ * 2) + b) - c) = W / 2 ^ j % c := by
        rw [er, IntKind.wrap_u64, IntKind.wrap_u64, IntKind.wrap_u64]; omega
      have v2 : IntKind.u64.wrap (IntKind.u64.wrap (κ * 2) + 1) = W / 2 ^ j / c := by
        rw [eq, IntKind.wrap_u64, IntKind.wrap_u64]; omega
      simp only [dc, v1, v2]
      exact hb _ _ ⟨⟨j, by omega⟩, by simp, Wkn.mk ⟨rfl, rfl, rfl, rfl, rfl, trivial⟩ (Sub.cons rfl (Sub.nil _)) (ClM.v rfl) (ovE_cl _ _ _ _ _ _) (fun n l h => by have := hR.1 n l h; cases this)⟩
    · have dc : decide (c ≤ 2 * ρ + b) = false := by simpa using hcc
      have eq : W / 2 ^ j / c = 2 * κ := ediv_eq (by omega) (by omega) (by omega)
      have er : W / 2 ^ j % c = 2 * ρ + b := by rw [eq] at hrem; omega
      have v1 : IntKind.u64.wrap (IntKind.u64.wrap (ρ * 2) + b) = W / 2 ^ j % c := by
        rw [er, IntKind.wrap_u64, IntKind.wrap_u64]; omega
      have v2 : IntKind.u64.wrap (κ * 2) = W / 2 ^ j / c := by
        rw [eq, IntKind.wrap_u64]; omega
      simp only [dc, v1, v2]
      exact hb _ _ ⟨⟨j, by omega⟩, by simp, Wkn.mk ⟨rfl, rfl, rfl, rfl, rfl, trivial⟩ (Sub.cons rfl (Sub.nil _)) (ClM.v rfl) (ovE_cl _ _ _ _ _ _) (fun n l h => by have := hR.1 n l h; cases this)⟩
end Go.Proofs.YtoioclmfjmgaaaaDoor.Fx
