/-
  No cell of these rows narrows 'for every input' (looked for: loops, veiled, ifaces, maps, wideKeys, modest, calm, conditions, laid).
  DERIVED. THE GIVEN ROWS OF THIS SEAT. 2 by the template 'for every input the law returns true; each argument reads behind the call as it read before'; 0 by the template 'total and deterministic' (their statements: YtbnkiacicnnmkaaGreatTotals.lean).
  GIVEN WITH THE SEED: the statements are not yours to turn. If you find one false, say at which input.
  Laid BY PROGRAM, IN A SANDBOX (cutbox-rows.mjs): the forced cells as the released guide's own fill.sh prints them over the translation 3c5a70d04df6d152… (all of the seat's roots in one cut). By AI agents, Wed Nov 11 2026. No macro, syntax, notation, axiom, sorry.
-/
import Derived.Test.YtbnkiacicnnmkaaGreatChecked
import GoSem.Claim
import GoSem.ClaimJoined
import GoSem.ClaimMapViews
import Derived.JoinedTies
import Derived.KernelRfl
namespace Go.Proofs.YtbnkiacicnnmkaaGreat
/- THE CELL 'sum', in the pinned program and in every row, IS THE sha256 OF THE DUMP (.gsa) THAT YtbnkiacicnnmkaaGreatProg.lean LOADS. Nothing in Lean hashes anything: it is a label: what it is worth is what the hold of that sum in a sandbox is worth. -/
noncomputable def Tryz.pinned : Pinned := { name := "ytbnkiacicnnmkaagreat", sum := "3c5a70d04df6d15280ae0ffb62e95f7bf605521d9ee540e997af5c6871b9ada7", checked := Tryz.checked }
namespace Rows
def none {H : Type} : Left H := { results := [], args := [] }

/-- 'magnetolaw14.CodegenAlive': WHATEVER THE INPUT: true; the input reads as it did. -/
def codegenAliveSpec : ChangeSpec := { name := "codegenAlive", fn := fun _ => fun
  | [d] => { results := [.lit (.bool true)], args := [d] }
  | _ => none }
def codegenAliveRow : OpenClaim := { program := "ytbnkiacicnnmkaagreat", sum := "3c5a70d04df6d15280ae0ffb62e95f7bf605521d9ee540e997af5c6871b9ada7", func := "magneto/magnetolaw14.CodegenAlive", spec := "codegenAlive", inPlace := ["math/bits.Add64", "internal/bytealg.IndexByteString"], unfollowed := true, recurses := true, named := ["math/bits.divideError", "math/bits.overflowError"], apart := false }
def CodegenAliveSaid : Prop := codegenAliveRow.holds Tryz.pinned (OpenSpec.ofChange codegenAliveSpec)

/-- ITS FALSE NEIGHBOUR: 'it returns false'. Refute it at one input. -/
def codegenAliveWrong : ChangeSpec := { name := "codegenAlive", fn := fun _ => fun
  | [d] => { results := [.lit (.bool false)], args := [d] }
  | _ => none }
def CodegenAliveWrongFalsely : Prop := codegenAliveRow.holds Tryz.pinned (OpenSpec.ofChange codegenAliveWrong)

/-- 'magnetolaw14.CodegenCompacts': WHATEVER THE INPUT: true; the input reads as it did. -/
def codegenCompactsSpec : ChangeSpec := { name := "codegenCompacts", fn := fun _ => fun
  | [d1, d2, d3] => { results := [.lit (.bool true)], args := [d1, d2, d3] }
  | _ => none }
def codegenCompactsRow : OpenClaim := { program := "ytbnkiacicnnmkaagreat", sum := "3c5a70d04df6d15280ae0ffb62e95f7bf605521d9ee540e997af5c6871b9ada7", func := "magneto/magnetolaw14.CodegenCompacts", spec := "codegenCompacts", inPlace := ["math/bits.Add64", "internal/bytealg.IndexByteString"], unfollowed := true, recurses := true, named := ["math/bits.divideError", "math/bits.overflowError"], apart := false }
def CodegenCompactsSaid : Prop := codegenCompactsRow.holds Tryz.pinned (OpenSpec.ofChange codegenCompactsSpec)

/-- ITS FALSE NEIGHBOUR: 'it returns false'. Refute it at one input. -/
def codegenCompactsWrong : ChangeSpec := { name := "codegenCompacts", fn := fun _ => fun
  | [d1, d2, d3] => { results := [.lit (.bool false)], args := [d1, d2, d3] }
  | _ => none }
def CodegenCompactsWrongFalsely : Prop := codegenCompactsRow.holds Tryz.pinned (OpenSpec.ofChange codegenCompactsWrong)

/- THE SECOND FORM. 'bulk': how many values and letters a reading holds, each counted each time it is reached (what is shared counts as often as it is met; a slice's spare places count too). A statement '..UptoSaid' is the law's where the arguments, and the package variables that the reading takes, are together of bulk at most 1048576: NARROWER than '..Said'. Prove '..Said' where nothing that the law and all that it calls make is longer than what came in: it says more and counts as full. Else prove '..UptoSaid'. A law counts once. -/
mutual
def uptoBulk {H : Type} : DataW H → Nat
  | .lit (.string bytes) => bytes.length + 1
  | .lit _ => 1
  | .nil => 1
  | .ptr d => uptoBulk d + 1
  | .slice elems spare => uptoBulkAll elems + uptoBulkAll spare + 1
  | .agg parts => uptoBulkAll parts + 1
  | .iface _ d => uptoBulk d + 1
  | .map entries => uptoBulkEntries entries + 1
  | .held _ => 1
def uptoBulkAll {H : Type} : List (DataW H) → Nat
  | [] => 0
  | d :: r => uptoBulk d + uptoBulkAll r
def uptoBulkEntries {H : Type} : List (Lit × DataW H) → Nat
  | [] => 0
  | x :: r => uptoBulkEntry x + uptoBulkEntries r
def uptoBulkEntry {H : Type} : Lit × DataW H → Nat
  | (.string bytes, d) => bytes.length + uptoBulk d + 1
  | (_, d) => uptoBulk d + 1
 end
def uptoSmall : (H : Type) → List (DataW H) → Bool := fun _ ds => decide (uptoBulkAll ds ≤ 1048576)
def OpenSpec.upto (s : _root_.Go.ChangeSpec) : _root_.Go.OpenSpec := { _root_.Go.OpenSpec.ofChange s with cond := some uptoSmall }

/-- 'magnetolaw14.CodegenAlive', WHERE WHAT IT READS IS OF BULK AT MOST 1048576: true; the input reads as it did. -/
def codegenAliveUptoRow : OpenClaim := { program := "ytbnkiacicnnmkaagreat", sum := "3c5a70d04df6d15280ae0ffb62e95f7bf605521d9ee540e997af5c6871b9ada7", func := "magneto/magnetolaw14.CodegenAlive", spec := "codegenAlive", inPlace := ["math/bits.Add64", "internal/bytealg.IndexByteString"], unfollowed := true, recurses := true, named := ["math/bits.divideError", "math/bits.overflowError"], apart := false, narrowed := true }
def CodegenAliveUptoSaid : Prop := codegenAliveUptoRow.holds Tryz.pinned (OpenSpec.upto codegenAliveSpec)

/-- 'magnetolaw14.CodegenCompacts', WHERE WHAT IT READS IS OF BULK AT MOST 1048576: true; the input reads as it did. -/
def codegenCompactsUptoRow : OpenClaim := { program := "ytbnkiacicnnmkaagreat", sum := "3c5a70d04df6d15280ae0ffb62e95f7bf605521d9ee540e997af5c6871b9ada7", func := "magneto/magnetolaw14.CodegenCompacts", spec := "codegenCompacts", inPlace := ["math/bits.Add64", "internal/bytealg.IndexByteString"], unfollowed := true, recurses := true, named := ["math/bits.divideError", "math/bits.overflowError"], apart := false, narrowed := true }
def CodegenCompactsUptoSaid : Prop := codegenCompactsUptoRow.holds Tryz.pinned (OpenSpec.upto codegenCompactsSpec)

end Rows
end Go.Proofs.YtbnkiacicnnmkaaGreat
