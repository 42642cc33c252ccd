/- Contracts of the reference of layer 1: Times, Over. -/
import Derived.Test.YtcdclmelnnbdnaaFC2
namespace Go.Proofs.Ytcdclmelnnbdnaa.Fx
open Vg Tf
set_option linter.unusedSimpArgs false
set_option linter.unusedVariables false
set_option maxRecDepth 100000
theorem times_arith (al ah bl bh p1 p2 p3 p4 ab : Int) (h1 : 0 ≤ p1) (h2 : 0 ≤ p2) (h3 : 0 ≤ p3) (h4 : 0 ≤ p4) (g1 : p1 ≤ 18446744065119617025) (g2 : p2 ≤ 18446744065119617025) (g3 : p3 ≤ 18446744065119617025) (g4 : p4 ≤ 18446744065119617025)
    (h : ab = p4 * 18446744073709551616 + (p2 + p3) * 4294967296 + p1) (hab : ab < 340282366920938463463374607431768211456) :
    (p4 + (p2 + p1 / 4294967296) / 4294967296 + (p3 + (p2 + p1 / 4294967296) % 4294967296) / 4294967296 = ab / 18446744073709551616) ∧
    ((p3 + (p2 + p1 / 4294967296) % 4294967296) * 4294967296 % 18446744073709551616 + p1 % 4294967296 = ab % 18446744073709551616) := by
  constructor <;> omega
theorem times_ (x y : Int) (hx0 : 0 ≤ x) (hx : x < 18446744073709551616) (hy0 : 0 ≤ y) (hy : y < 18446744073709551616) : CallOk Try.prog 94 [U x, U y] [] (.agg [.v (.int .u64 (x * y / 18446744073709551616)), .v (.int .u64 (x * y % 18446744073709551616))]) [] := by
  refine CallOk.mk 100 Try.func94 rfl en94 (by simp [Try.ntmps94]) (by simp [ClV, V.g, Cv.g]) fun C hR => ?_
  simp (config := { maxSteps := 2000000 }) only [go_sem, Nat.reduceBEq, Nat.reduceAdd, Nat.reduceLT, Nat.reduceLeDiff, Nat.reduceEqDiff, reduceCtorEq, Int.reduceAdd, Int.reduceSub, Int.reduceNeg, Int.reduceLE, Int.reduceLT, Int.reduceToNat, Int.reduceBEq, Int.reduceBNe, Int.reduceEq, Int.reduceNe, Int.toNat_zero, Int.toNat_one, bne_self_eq_false, Nat.reduceMul, Nat.zero_mul, Nat.mul_one, Nat.one_mul, Nat.reduceSub, Int.cast_ofNat_Int, Int.toNat_natCast]
  have s32 : ∀ z : Int, z.fdiv (2 ^ min 32 64) = z / 4294967296 := shr32
  have s33 : ∀ z : Int, z.fdiv 4294967296 = z / 4294967296 := fun z => Int.fdiv_eq_ediv_of_nonneg z (by omega)
  have l32 : (2 : Int) ^ min 32 64 = 4294967296 := rfl
  have hp : ∀ z : Int, 0 ≤ z % 18446744073709551616 ∧ z % 18446744073709551616 < 18446744073709551616 := fun z => by omega
  have xm := mul_bd (a := x % 4294967296) (b := y % 4294967296) (A := 4294967295) (B := 4294967295) (by omega) (by omega) (by omega) (by omega)
  have x2 := mul_bd (a := x / 4294967296) (b := y % 4294967296) (A := 4294967295) (B := 4294967295) (by omega) (by omega) (by omega) (by omega)
  have x3 := mul_bd (a := x % 4294967296) (b := y / 4294967296) (A := 4294967295) (B := 4294967295) (by omega) (by omega) (by omega) (by omega)
  have x4 := mul_bd (a := x / 4294967296) (b := y / 4294967296) (A := 4294967295) (B := 4294967295) (by omega) (by omega) (by omega) (by omega)
  have n1 : 0 ≤ x % 4294967296 * (y % 4294967296) := Int.mul_nonneg (by omega) (by omega)
  have n2 : 0 ≤ x / 4294967296 * (y % 4294967296) := Int.mul_nonneg (by omega) (by omega)
  have n3 : 0 ≤ x % 4294967296 * (y / 4294967296) := Int.mul_nonneg (by omega) (by omega)
  have n4 : 0 ≤ x / 4294967296 * (y / 4294967296) := Int.mul_nonneg (by omega) (by omega)
  have hxy : x * y = x / 4294967296 * (y / 4294967296) * 18446744073709551616 + (x / 4294967296 * (y % 4294967296) + x % 4294967296 * (y / 4294967296)) * 4294967296 + x % 4294967296 * (y % 4294967296) := by
    have e1 := Int.mul_ediv_add_emod x 4294967296
    have e2 := Int.mul_ediv_add_emod y 4294967296
    generalize x / 4294967296 = a at *
    generalize x % 4294967296 = b at *
    generalize y / 4294967296 = c at *
    generalize y % 4294967296 = e at *
    rw [← e1, ← e2]
    grind
  refine RetQ.pure hR rfl ⟨⟨rfl, by simp [sz124], by simp [sz124]⟩, trivial⟩ ?_ (fun _ _ _ => rfl)
  simp only [sz124, List.drop_zero, List.take_succ_cons, List.take_zero, List.take_nil, W.toV, s33, l32, and_low32 x hx0 hx, and_low32 y hy0 hy]
  generalize x % 4294967296 * (y % 4294967296) = p1 at *
  generalize x / 4294967296 * (y % 4294967296) = p2 at *
  generalize x % 4294967296 * (y / 4294967296) = p3 at *
  generalize x / 4294967296 * (y / 4294967296) = p4 at *
  obtain ⟨t1, t2⟩ := times_arith 0 0 0 0 p1 p2 p3 p4 (x * y) n1 n2 n3 n4 (by omega) (by omega) (by omega) (by omega) hxy (by omega)
  have q1 : IntKind.u64.wrap p1 = p1 := wu64 (by omega) (by omega)
  have q2 : IntKind.u64.wrap p2 = p2 := wu64 (by omega) (by omega)
  have q3 : IntKind.u64.wrap p3 = p3 := wu64 (by omega) (by omega)
  have q4 : IntKind.u64.wrap p4 = p4 := wu64 (by omega) (by omega)
  have q5 : IntKind.u64.wrap (p2 + p1 / 4294967296) = p2 + p1 / 4294967296 := wu64 (by omega) (by omega)
  simp only [q1, q2, q3, q4, q5, and_low32 p1 (by omega) (by omega), and_low32 (p2 + p1 / 4294967296) (by omega) (by omega)]
  have q6 : IntKind.u64.wrap (p3 + (p2 + p1 / 4294967296) % 4294967296) = p3 + (p2 + p1 / 4294967296) % 4294967296 := wu64 (by omega) (by omega)
  have q7 : IntKind.u64.wrap (p4 + (p2 + p1 / 4294967296) / 4294967296) = p4 + (p2 + p1 / 4294967296) / 4294967296 := wu64 (by omega) (by omega)
  simp only [q6, q7]
  rw [t1, IntKind.wrap_u64 ((p3 + (p2 + p1 / 4294967296) % 4294967296) * 4294967296), t2, wu64 (by omega) (by omega), wu64 (by omega) (by omega)]
end Go.Proofs.Ytcdclmelnnbdnaa.Fx