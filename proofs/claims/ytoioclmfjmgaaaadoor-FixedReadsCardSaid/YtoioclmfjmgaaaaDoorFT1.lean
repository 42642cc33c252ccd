/- strconv.Itoa of whatever number (by the shelf), as a contract that knows the table of powers. -/
import Derived.Test.YtoioclmfjmgaaaaDoorSh
import Derived.Test.YtoioclmfjmgaaaaDoorFP0
namespace Go.Proofs.YtoioclmfjmgaaaaDoor.Fx
open Vg Tf Go.Sort
set_option linter.unusedSimpArgs false
set_option linter.unusedVariables false
set_option maxRecDepth 100000
def pow10V : List Value := Lib.pow10Tab.map fun z => Value.int .u64 z
/-- magneto/fixed.tens and internal/strconv.uint64pow10. -/
def gsX : Gs := [(0, tensV), (4, pow10V)]
theorem gsT_X : ∀ x ∈ gsT, x ∈ gsX := fun x hx => by simp only [gsT, List.mem_singleton] at hx; subst hx; simp [gsX]
theorem fr_grow (w : World) (k : Nat) (os : Array Obj) : Fr (fun _ => True) w (grow (w.drewN k) os) := by
  refine ⟨rfl, rfl, rfl, ?_, fun b _ hb => ?_⟩
  · simp [grow, World.drewN]
  · simp only [grow, World.drewN]
    rw [Array.getElem?_append_left hb]
theorem itoaG (n : Int) (h0 : -9223372036854775808 ≤ n) (h1 : n ≤ 9223372036854775807) : CallG gsX Tryd.prog 59 [I n] (S (Lib.itoa n)) := by
  refine ⟨en59, fun β w hG => (Tryd.strconv_Itoa n h0 h1 w (hG.var (g := 4) (cs := pow10V) (by simp [gsX]) (by kernel_rfl))).mono ?_⟩
  rintro e w' ⟨rfl, k, os, rfl⟩
  exact ⟨fun _ => rfl, fr_grow w k os⟩
theorem textG (n : Int) (h0 : -9223372036854775808 ≤ n) (h1 : n ≤ 9223372036854775807) : CallG gsX Tryd.prog 50 [I n] (S (Lib.itoa n)) := by
  refine CallG.mk 100 Tryd.func50 rfl en50 (by simp [Tryd.ntmps50]) (ClA.of rfl) fun C hR hP hG => ?_
  simp (config := { maxSteps := 2000000 }) only [go_sem, Nat.reduceBEq, Nat.reduceAdd, Nat.reduceLT, Nat.reduceLeDiff, Nat.reduceEqDiff, reduceCtorEq, Int.reduceAdd, Int.reduceSub, Int.reduceNeg, Int.reduceLE, Int.reduceLT, Int.reduceToNat, Int.reduceBEq, Int.reduceBNe, Int.reduceEq, Int.reduceNe, Int.toNat_zero, Int.toNat_one, bne_self_eq_false, Nat.reduceMul, Nat.zero_mul, Nat.mul_one, Nat.one_mul, Nat.reduceSub, Int.cast_ofNat_Int, Int.toNat_natCast]
  refine CallQ.ofG 110 hG (itoaG n h0 h1) rfl rfl rfl ?_
  simp (config := { maxSteps := 2000000 }) only [go_sem, Nat.reduceBEq, Nat.reduceAdd, Nat.reduceLT, Nat.reduceLeDiff, Nat.reduceEqDiff, reduceCtorEq, Int.reduceAdd, Int.reduceSub, Int.reduceNeg, Int.reduceLE, Int.reduceLT, Int.reduceToNat, Int.reduceBEq, Int.reduceBNe, Int.reduceEq, Int.reduceNe, Int.toNat_zero, Int.toNat_one, bne_self_eq_false, Nat.reduceMul, Nat.zero_mul, Nat.mul_one, Nat.one_mul, Nat.reduceSub, Int.cast_ofNat_Int, Int.toNat_natCast]
  exact RetQ.of hR rfl ⟨rfl, trivial⟩ rfl (Sub.nil _) ClM.nil (ClV.of rfl)
end Go.Proofs.YtoioclmfjmgaaaaDoor.Fx
