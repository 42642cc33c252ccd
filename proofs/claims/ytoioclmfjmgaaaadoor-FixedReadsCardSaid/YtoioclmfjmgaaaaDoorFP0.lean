/- The package-level variable magneto/fixed.tens; the unit of a type. -/
import Derived.Test.YtoioclmfjmgaaaaDoorU2
import Derived.Test.YtoioclmfjmgaaaaDoorMB
namespace Go.Proofs.YtoioclmfjmgaaaaDoor.Fx
open Vg Tf
set_option linter.unusedSimpArgs false
set_option linter.unusedVariables false
set_option maxRecDepth 100000
/-- The program's table of powers of ten (package-level variable magneto/fixed.tens). -/
def tensV : List Value := [.int .i64 1, .int .i64 10, .int .i64 100, .int .i64 1000, .int .i64 10000, .int .i64 100000, .int .i64 1000000]
def gsT : Gs := [(0, tensV)]
theorem tens_get {i : Nat} (h : i ≤ 6) : tensV[i]? = some (.int .i64 ((10 ^ i : Nat) : Int)) := by
  have : ∀ i : Fin 7, tensV[i.val]? = some (.int .i64 ((10 ^ i.val : Nat) : Int)) := by
    intro i
    match i with
    | 0 => rfl | 1 => rfl | 2 => rfl | 3 => rfl | 4 => rfl | 5 => rfl | 6 => rfl
  exact this ⟨i, by omega⟩
def unF (t : Ft) : Un := ⟨t.m, t.kg, t.s, t.a, t.k⟩
end Go.Proofs.YtoioclmfjmgaaaaDoor.Fx
