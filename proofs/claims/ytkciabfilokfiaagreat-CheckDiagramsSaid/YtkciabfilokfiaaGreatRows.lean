/-
  No cell of these rows narrows 'for every input' (looked for: loops, veiled, ifaces, maps, wideKeys, modest, calm, conditions, laid).
  DERIVED. THE GIVEN ROWS OF THIS SEAT. 8 by the template 'for every input the law returns true; each argument reads behind the call as it read before'; 0 by the template 'total and deterministic' (their statements: YtkciabfilokfiaaGreatTotals.lean).
  GIVEN WITH THE SEED: the statements are not yours to turn. If you find one false, say at which input.
  Laid BY PROGRAM, IN A SANDBOX (cutbox-rows.mjs): the forced cells as the released guide's own fill.sh prints them over the translation 154468435a11d621… (all of the seat's roots in one cut). By AI agents, Wed Nov 11 2026. No macro, syntax, notation, axiom, sorry.
-/
import Derived.Test.YtkciabfilokfiaaGreatChecked
import GoSem.Claim
import GoSem.ClaimJoined
import GoSem.ClaimMapViews
import Derived.JoinedTies
import Derived.KernelRfl
namespace Go.Proofs.YtkciabfilokfiaaGreat
/- THE CELL 'sum', in the pinned program and in every row, IS THE sha256 OF THE DUMP (.gsa) THAT YtkciabfilokfiaaGreatProg.lean LOADS. Nothing in Lean hashes anything: it is a label: what it is worth is what the hold of that sum in a sandbox is worth. -/
noncomputable def Tryz.pinned : Pinned := { name := "ytkciabfilokfiaagreat", sum := "154468435a11d621cff2b2c398b5d9a4d6d365f8d246266670d1856fe89cc964", checked := Tryz.checked }
namespace Rows
def none {H : Type} : Left H := { results := [], args := [] }

/-- 'magnetolaw11.CheckWithin': WHATEVER THE INPUT: true; the input reads as it did. -/
def checkWithinSpec : ChangeSpec := { name := "checkWithin", fn := fun _ => fun
  | [d] => { results := [.lit (.bool true)], args := [d] }
  | _ => none }
def checkWithinRow : OpenClaim := { program := "ytkciabfilokfiaagreat", sum := "154468435a11d621cff2b2c398b5d9a4d6d365f8d246266670d1856fe89cc964", func := "magneto/magnetolaw11.CheckWithin", spec := "checkWithin", inPlace := ["math/bits.Add64"], unfollowed := true, recurses := true, named := ["math/bits.divideError", "math/bits.overflowError"], apart := false }
def CheckWithinSaid : Prop := checkWithinRow.holds Tryz.pinned (OpenSpec.ofChange checkWithinSpec)

/-- ITS FALSE NEIGHBOUR: 'it returns false'. Refute it at one input. -/
def checkWithinWrong : ChangeSpec := { name := "checkWithin", fn := fun _ => fun
  | [d] => { results := [.lit (.bool false)], args := [d] }
  | _ => none }
def CheckWithinWrongFalsely : Prop := checkWithinRow.holds Tryz.pinned (OpenSpec.ofChange checkWithinWrong)

/-- 'magnetolaw11.CheckWider': WHATEVER THE INPUT: true; the input reads as it did. -/
def checkWiderSpec : ChangeSpec := { name := "checkWider", fn := fun _ => fun
  | [d1, d2] => { results := [.lit (.bool true)], args := [d1, d2] }
  | _ => none }
def checkWiderRow : OpenClaim := { program := "ytkciabfilokfiaagreat", sum := "154468435a11d621cff2b2c398b5d9a4d6d365f8d246266670d1856fe89cc964", func := "magneto/magnetolaw11.CheckWider", spec := "checkWider", inPlace := ["math/bits.Add64"], unfollowed := true, recurses := true, named := ["math/bits.divideError", "math/bits.overflowError"], apart := false }
def CheckWiderSaid : Prop := checkWiderRow.holds Tryz.pinned (OpenSpec.ofChange checkWiderSpec)

/-- ITS FALSE NEIGHBOUR: 'it returns false'. Refute it at one input. -/
def checkWiderWrong : ChangeSpec := { name := "checkWider", fn := fun _ => fun
  | [d1, d2] => { results := [.lit (.bool false)], args := [d1, d2] }
  | _ => none }
def CheckWiderWrongFalsely : Prop := checkWiderRow.holds Tryz.pinned (OpenSpec.ofChange checkWiderWrong)

/-- 'magnetolaw11.CheckDiagrams': WHATEVER THE INPUT: true; the input reads as it did. -/
def checkDiagramsSpec : ChangeSpec := { name := "checkDiagrams", fn := fun _ => fun
  | [d] => { results := [.lit (.bool true)], args := [d] }
  | _ => none }
def checkDiagramsRow : OpenClaim := { program := "ytkciabfilokfiaagreat", sum := "154468435a11d621cff2b2c398b5d9a4d6d365f8d246266670d1856fe89cc964", func := "magneto/magnetolaw11.CheckDiagrams", spec := "checkDiagrams", inPlace := ["math/bits.Add64"], unfollowed := true, recurses := true, named := ["math/bits.divideError", "math/bits.overflowError"], apart := false }
def CheckDiagramsSaid : Prop := checkDiagramsRow.holds Tryz.pinned (OpenSpec.ofChange checkDiagramsSpec)

/-- ITS FALSE NEIGHBOUR: 'it returns false'. Refute it at one input. -/
def checkDiagramsWrong : ChangeSpec := { name := "checkDiagrams", fn := fun _ => fun
  | [d] => { results := [.lit (.bool false)], args := [d] }
  | _ => none }
def CheckDiagramsWrongFalsely : Prop := checkDiagramsRow.holds Tryz.pinned (OpenSpec.ofChange checkDiagramsWrong)

/-- 'magnetolaw11.CheckBehind': WHATEVER THE INPUT: true; the input reads as it did. -/
def checkBehindSpec : ChangeSpec := { name := "checkBehind", fn := fun _ => fun
  | [d] => { results := [.lit (.bool true)], args := [d] }
  | _ => none }
def checkBehindRow : OpenClaim := { program := "ytkciabfilokfiaagreat", sum := "154468435a11d621cff2b2c398b5d9a4d6d365f8d246266670d1856fe89cc964", func := "magneto/magnetolaw11.CheckBehind", spec := "checkBehind", inPlace := ["math/bits.Add64"], unfollowed := true, recurses := true, named := ["math/bits.divideError", "math/bits.overflowError"], apart := false }
def CheckBehindSaid : Prop := checkBehindRow.holds Tryz.pinned (OpenSpec.ofChange checkBehindSpec)

/-- ITS FALSE NEIGHBOUR: 'it returns false'. Refute it at one input. -/
def checkBehindWrong : ChangeSpec := { name := "checkBehind", fn := fun _ => fun
  | [d] => { results := [.lit (.bool false)], args := [d] }
  | _ => none }
def CheckBehindWrongFalsely : Prop := checkBehindRow.holds Tryz.pinned (OpenSpec.ofChange checkBehindWrong)

/-- 'magnetolaw11.CheckLoops': WHATEVER THE INPUT: true; the input reads as it did. -/
def checkLoopsSpec : ChangeSpec := { name := "checkLoops", fn := fun _ => fun
  | [d] => { results := [.lit (.bool true)], args := [d] }
  | _ => none }
def checkLoopsRow : OpenClaim := { program := "ytkciabfilokfiaagreat", sum := "154468435a11d621cff2b2c398b5d9a4d6d365f8d246266670d1856fe89cc964", func := "magneto/magnetolaw11.CheckLoops", spec := "checkLoops", inPlace := ["math/bits.Add64"], unfollowed := true, recurses := true, named := ["math/bits.divideError", "math/bits.overflowError"], apart := false }
def CheckLoopsSaid : Prop := checkLoopsRow.holds Tryz.pinned (OpenSpec.ofChange checkLoopsSpec)

/-- ITS FALSE NEIGHBOUR: 'it returns false'. Refute it at one input. -/
def checkLoopsWrong : ChangeSpec := { name := "checkLoops", fn := fun _ => fun
  | [d] => { results := [.lit (.bool false)], args := [d] }
  | _ => none }
def CheckLoopsWrongFalsely : Prop := checkLoopsRow.holds Tryz.pinned (OpenSpec.ofChange checkLoopsWrong)

/-- 'magnetolaw11.CheckOrders': WHATEVER THE INPUT: true; the input reads as it did. -/
def checkOrdersSpec : ChangeSpec := { name := "checkOrders", fn := fun _ => fun
  | [d] => { results := [.lit (.bool true)], args := [d] }
  | _ => none }
def checkOrdersRow : OpenClaim := { program := "ytkciabfilokfiaagreat", sum := "154468435a11d621cff2b2c398b5d9a4d6d365f8d246266670d1856fe89cc964", func := "magneto/magnetolaw11.CheckOrders", spec := "checkOrders", inPlace := ["math/bits.Add64"], unfollowed := true, recurses := true, named := ["math/bits.divideError", "math/bits.overflowError"], apart := false }
def CheckOrdersSaid : Prop := checkOrdersRow.holds Tryz.pinned (OpenSpec.ofChange checkOrdersSpec)

/-- ITS FALSE NEIGHBOUR: 'it returns false'. Refute it at one input. -/
def checkOrdersWrong : ChangeSpec := { name := "checkOrders", fn := fun _ => fun
  | [d] => { results := [.lit (.bool false)], args := [d] }
  | _ => none }
def CheckOrdersWrongFalsely : Prop := checkOrdersRow.holds Tryz.pinned (OpenSpec.ofChange checkOrdersWrong)

/-- 'magnetolaw11.CheckSaturates': WHATEVER THE INPUT: true; the input reads as it did. -/
def checkSaturatesSpec : ChangeSpec := { name := "checkSaturates", fn := fun _ => fun
  | [d] => { results := [.lit (.bool true)], args := [d] }
  | _ => none }
def checkSaturatesRow : OpenClaim := { program := "ytkciabfilokfiaagreat", sum := "154468435a11d621cff2b2c398b5d9a4d6d365f8d246266670d1856fe89cc964", func := "magneto/magnetolaw11.CheckSaturates", spec := "checkSaturates", inPlace := ["math/bits.Add64"], unfollowed := true, recurses := true, named := ["math/bits.divideError", "math/bits.overflowError"], apart := false }
def CheckSaturatesSaid : Prop := checkSaturatesRow.holds Tryz.pinned (OpenSpec.ofChange checkSaturatesSpec)

/-- ITS FALSE NEIGHBOUR: 'it returns false'. Refute it at one input. -/
def checkSaturatesWrong : ChangeSpec := { name := "checkSaturates", fn := fun _ => fun
  | [d] => { results := [.lit (.bool false)], args := [d] }
  | _ => none }
def CheckSaturatesWrongFalsely : Prop := checkSaturatesRow.holds Tryz.pinned (OpenSpec.ofChange checkSaturatesWrong)

/-- 'magnetolaw11.CheckRenames': WHATEVER THE INPUT: true; the input reads as it did. -/
def checkRenamesSpec : ChangeSpec := { name := "checkRenames", fn := fun _ => fun
  | [d1, d2] => { results := [.lit (.bool true)], args := [d1, d2] }
  | _ => none }
def checkRenamesRow : OpenClaim := { program := "ytkciabfilokfiaagreat", sum := "154468435a11d621cff2b2c398b5d9a4d6d365f8d246266670d1856fe89cc964", func := "magneto/magnetolaw11.CheckRenames", spec := "checkRenames", inPlace := ["math/bits.Add64"], unfollowed := true, recurses := true, named := ["math/bits.divideError", "math/bits.overflowError"], apart := false }
def CheckRenamesSaid : Prop := checkRenamesRow.holds Tryz.pinned (OpenSpec.ofChange checkRenamesSpec)

/-- ITS FALSE NEIGHBOUR: 'it returns false'. Refute it at one input. -/
def checkRenamesWrong : ChangeSpec := { name := "checkRenames", fn := fun _ => fun
  | [d1, d2] => { results := [.lit (.bool false)], args := [d1, d2] }
  | _ => none }
def CheckRenamesWrongFalsely : Prop := checkRenamesRow.holds Tryz.pinned (OpenSpec.ofChange checkRenamesWrong)

/- THE SECOND FORM. 'bulk': how many values and letters a reading holds, each counted each time it is reached (what is shared counts as often as it is met; a slice's spare places count too). A statement '..UptoSaid' is the law's where the arguments, and the package variables that the reading takes, are together of bulk at most 1048576: NARROWER than '..Said'. Prove '..Said' where nothing that the law and all that it calls make is longer than what came in: it says more and counts as full. Else prove '..UptoSaid'. A law counts once. -/
mutual
def uptoBulk {H : Type} : DataW H → Nat
  | .lit (.string bytes) => bytes.length + 1
  | .lit _ => 1
  | .nil => 1
  | .ptr d => uptoBulk d + 1
  | .slice elems spare => uptoBulkAll elems + uptoBulkAll spare + 1
  | .agg parts => uptoBulkAll parts + 1
  | .iface _ d => uptoBulk d + 1
  | .map entries => uptoBulkEntries entries + 1
  | .held _ => 1
def uptoBulkAll {H : Type} : List (DataW H) → Nat
  | [] => 0
  | d :: r => uptoBulk d + uptoBulkAll r
def uptoBulkEntries {H : Type} : List (Lit × DataW H) → Nat
  | [] => 0
  | x :: r => uptoBulkEntry x + uptoBulkEntries r
def uptoBulkEntry {H : Type} : Lit × DataW H → Nat
  | (.string bytes, d) => bytes.length + uptoBulk d + 1
  | (_, d) => uptoBulk d + 1
 end
def uptoSmall : (H : Type) → List (DataW H) → Bool := fun _ ds => decide (uptoBulkAll ds ≤ 1048576)
def OpenSpec.upto (s : _root_.Go.ChangeSpec) : _root_.Go.OpenSpec := { _root_.Go.OpenSpec.ofChange s with cond := some uptoSmall }

/-- 'magnetolaw11.CheckWithin', WHERE WHAT IT READS IS OF BULK AT MOST 1048576: true; the input reads as it did. -/
def checkWithinUptoRow : OpenClaim := { program := "ytkciabfilokfiaagreat", sum := "154468435a11d621cff2b2c398b5d9a4d6d365f8d246266670d1856fe89cc964", func := "magneto/magnetolaw11.CheckWithin", spec := "checkWithin", inPlace := ["math/bits.Add64"], unfollowed := true, recurses := true, named := ["math/bits.divideError", "math/bits.overflowError"], apart := false, narrowed := true }
def CheckWithinUptoSaid : Prop := checkWithinUptoRow.holds Tryz.pinned (OpenSpec.upto checkWithinSpec)

/-- 'magnetolaw11.CheckWider', WHERE WHAT IT READS IS OF BULK AT MOST 1048576: true; the input reads as it did. -/
def checkWiderUptoRow : OpenClaim := { program := "ytkciabfilokfiaagreat", sum := "154468435a11d621cff2b2c398b5d9a4d6d365f8d246266670d1856fe89cc964", func := "magneto/magnetolaw11.CheckWider", spec := "checkWider", inPlace := ["math/bits.Add64"], unfollowed := true, recurses := true, named := ["math/bits.divideError", "math/bits.overflowError"], apart := false, narrowed := true }
def CheckWiderUptoSaid : Prop := checkWiderUptoRow.holds Tryz.pinned (OpenSpec.upto checkWiderSpec)

/-- 'magnetolaw11.CheckDiagrams', WHERE WHAT IT READS IS OF BULK AT MOST 1048576: true; the input reads as it did. -/
def checkDiagramsUptoRow : OpenClaim := { program := "ytkciabfilokfiaagreat", sum := "154468435a11d621cff2b2c398b5d9a4d6d365f8d246266670d1856fe89cc964", func := "magneto/magnetolaw11.CheckDiagrams", spec := "checkDiagrams", inPlace := ["math/bits.Add64"], unfollowed := true, recurses := true, named := ["math/bits.divideError", "math/bits.overflowError"], apart := false, narrowed := true }
def CheckDiagramsUptoSaid : Prop := checkDiagramsUptoRow.holds Tryz.pinned (OpenSpec.upto checkDiagramsSpec)

/-- 'magnetolaw11.CheckBehind', WHERE WHAT IT READS IS OF BULK AT MOST 1048576: true; the input reads as it did. -/
def checkBehindUptoRow : OpenClaim := { program := "ytkciabfilokfiaagreat", sum := "154468435a11d621cff2b2c398b5d9a4d6d365f8d246266670d1856fe89cc964", func := "magneto/magnetolaw11.CheckBehind", spec := "checkBehind", inPlace := ["math/bits.Add64"], unfollowed := true, recurses := true, named := ["math/bits.divideError", "math/bits.overflowError"], apart := false, narrowed := true }
def CheckBehindUptoSaid : Prop := checkBehindUptoRow.holds Tryz.pinned (OpenSpec.upto checkBehindSpec)

/-- 'magnetolaw11.CheckLoops', WHERE WHAT IT READS IS OF BULK AT MOST 1048576: true; the input reads as it did. -/
def checkLoopsUptoRow : OpenClaim := { program := "ytkciabfilokfiaagreat", sum := "154468435a11d621cff2b2c398b5d9a4d6d365f8d246266670d1856fe89cc964", func := "magneto/magnetolaw11.CheckLoops", spec := "checkLoops", inPlace := ["math/bits.Add64"], unfollowed := true, recurses := true, named := ["math/bits.divideError", "math/bits.overflowError"], apart := false, narrowed := true }
def CheckLoopsUptoSaid : Prop := checkLoopsUptoRow.holds Tryz.pinned (OpenSpec.upto checkLoopsSpec)

/-- 'magnetolaw11.CheckOrders', WHERE WHAT IT READS IS OF BULK AT MOST 1048576: true; the input reads as it did. -/
def checkOrdersUptoRow : OpenClaim := { program := "ytkciabfilokfiaagreat", sum := "154468435a11d621cff2b2c398b5d9a4d6d365f8d246266670d1856fe89cc964", func := "magneto/magnetolaw11.CheckOrders", spec := "checkOrders", inPlace := ["math/bits.Add64"], unfollowed := true, recurses := true, named := ["math/bits.divideError", "math/bits.overflowError"], apart := false, narrowed := true }
def CheckOrdersUptoSaid : Prop := checkOrdersUptoRow.holds Tryz.pinned (OpenSpec.upto checkOrdersSpec)

/-- 'magnetolaw11.CheckSaturates', WHERE WHAT IT READS IS OF BULK AT MOST 1048576: true; the input reads as it did. -/
def checkSaturatesUptoRow : OpenClaim := { program := "ytkciabfilokfiaagreat", sum := "154468435a11d621cff2b2c398b5d9a4d6d365f8d246266670d1856fe89cc964", func := "magneto/magnetolaw11.CheckSaturates", spec := "checkSaturates", inPlace := ["math/bits.Add64"], unfollowed := true, recurses := true, named := ["math/bits.divideError", "math/bits.overflowError"], apart := false, narrowed := true }
def CheckSaturatesUptoSaid : Prop := checkSaturatesUptoRow.holds Tryz.pinned (OpenSpec.upto checkSaturatesSpec)

/-- 'magnetolaw11.CheckRenames', WHERE WHAT IT READS IS OF BULK AT MOST 1048576: true; the input reads as it did. -/
def checkRenamesUptoRow : OpenClaim := { program := "ytkciabfilokfiaagreat", sum := "154468435a11d621cff2b2c398b5d9a4d6d365f8d246266670d1856fe89cc964", func := "magneto/magnetolaw11.CheckRenames", spec := "checkRenames", inPlace := ["math/bits.Add64"], unfollowed := true, recurses := true, named := ["math/bits.divideError", "math/bits.overflowError"], apart := false, narrowed := true }
def CheckRenamesUptoSaid : Prop := checkRenamesUptoRow.holds Tryz.pinned (OpenSpec.upto checkRenamesSpec)

end Rows
end Go.Proofs.YtkciabfilokfiaaGreat
