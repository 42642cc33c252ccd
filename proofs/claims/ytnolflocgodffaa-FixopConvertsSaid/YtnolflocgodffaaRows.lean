/-
  No cell of these rows narrows 'for every input' (looked for: loops, veiled, ifaces, maps, wideKeys, modest, calm, conditions, laid).
  DERIVED. THE GIVEN ROWS OF THIS SEAT. 17 by the template 'for every input the law returns true; each argument reads behind the call as it read before'; 0 by the template 'total and deterministic' (their statements: YtnolflocgodffaaTotals.lean).
  GIVEN WITH THE SEED: the statements are not yours to turn. If you find one false, say at which input.
  Laid BY PROGRAM, IN A SANDBOX (cutbox-rows.mjs): the forced cells as the released guide's own fill.sh prints them over the translation 362749fa77581238… (all of the seat's roots in one cut). By AI agents, Wed Nov 11 2026. No macro, syntax, notation, axiom, sorry.
-/
import Derived.Test.YtnolflocgodffaaChecked
import GoSem.Claim
import GoSem.ClaimJoined
import GoSem.ClaimMapViews
import Derived.JoinedTies
import Derived.KernelRfl
namespace Go.Proofs.Ytnolflocgodffaa
/- THE CELL 'sum', in the pinned program and in every row, IS THE sha256 OF THE DUMP (.gsa) THAT YtnolflocgodffaaProg.lean LOADS. Nothing in Lean hashes anything: it is a label: what it is worth is what the hold of that sum in a sandbox is worth. -/
noncomputable def Try.pinned : Pinned := { name := "ytnolflocgodffaa", sum := "362749fa7758123842017bb898333697e47fe0afba9bb2703283ce938c8fcb2b", checked := Try.checked }
namespace Rows
def none {H : Type} : Left H := { results := [], args := [] }

/-- 'magnetolaw04.FixopProducts': WHATEVER THE INPUT: true; the input reads as it did. -/
def fixopProductsSpec : ChangeSpec := { name := "fixopProducts", fn := fun _ => fun
  | [d1, d2, d3] => { results := [.lit (.bool true)], args := [d1, d2, d3] }
  | _ => none }
def fixopProductsRow : OpenClaim := { program := "ytnolflocgodffaa", sum := "362749fa7758123842017bb898333697e47fe0afba9bb2703283ce938c8fcb2b", func := "magneto/magnetolaw04.FixopProducts", spec := "fixopProducts", inPlace := ["math/bits.Add64"], recurses := true, apart := false }
def FixopProductsSaid : Prop := fixopProductsRow.holds Try.pinned (OpenSpec.ofChange fixopProductsSpec)

/-- ITS FALSE NEIGHBOUR: 'it returns false'. Refute it at one input. -/
def fixopProductsWrong : ChangeSpec := { name := "fixopProducts", fn := fun _ => fun
  | [d1, d2, d3] => { results := [.lit (.bool false)], args := [d1, d2, d3] }
  | _ => none }
def FixopProductsWrongFalsely : Prop := fixopProductsRow.holds Try.pinned (OpenSpec.ofChange fixopProductsWrong)

/-- 'magnetolaw04.FixopSums': WHATEVER THE INPUT: true; the input reads as it did. -/
def fixopSumsSpec : ChangeSpec := { name := "fixopSums", fn := fun _ => fun
  | [d1, d2, d3] => { results := [.lit (.bool true)], args := [d1, d2, d3] }
  | _ => none }
def fixopSumsRow : OpenClaim := { program := "ytnolflocgodffaa", sum := "362749fa7758123842017bb898333697e47fe0afba9bb2703283ce938c8fcb2b", func := "magneto/magnetolaw04.FixopSums", spec := "fixopSums", inPlace := ["math/bits.Add64"], recurses := true, apart := false }
def FixopSumsSaid : Prop := fixopSumsRow.holds Try.pinned (OpenSpec.ofChange fixopSumsSpec)

/-- ITS FALSE NEIGHBOUR: 'it returns false'. Refute it at one input. -/
def fixopSumsWrong : ChangeSpec := { name := "fixopSums", fn := fun _ => fun
  | [d1, d2, d3] => { results := [.lit (.bool false)], args := [d1, d2, d3] }
  | _ => none }
def FixopSumsWrongFalsely : Prop := fixopSumsRow.holds Try.pinned (OpenSpec.ofChange fixopSumsWrong)

/-- 'magnetolaw04.FixopOver': WHATEVER THE INPUT: true; the input reads as it did. -/
def fixopOverSpec : ChangeSpec := { name := "fixopOver", fn := fun _ => fun
  | [d1, d2, d3, d4, d5, d6] => { results := [.lit (.bool true)], args := [d1, d2, d3, d4, d5, d6] }
  | _ => none }
def fixopOverRow : OpenClaim := { program := "ytnolflocgodffaa", sum := "362749fa7758123842017bb898333697e47fe0afba9bb2703283ce938c8fcb2b", func := "magneto/magnetolaw04.FixopOver", spec := "fixopOver", inPlace := ["math/bits.Add64"], recurses := true, apart := false }
def FixopOverSaid : Prop := fixopOverRow.holds Try.pinned (OpenSpec.ofChange fixopOverSpec)

/-- ITS FALSE NEIGHBOUR: 'it returns false'. Refute it at one input. -/
def fixopOverWrong : ChangeSpec := { name := "fixopOver", fn := fun _ => fun
  | [d1, d2, d3, d4, d5, d6] => { results := [.lit (.bool false)], args := [d1, d2, d3, d4, d5, d6] }
  | _ => none }
def FixopOverWrongFalsely : Prop := fixopOverRow.holds Try.pinned (OpenSpec.ofChange fixopOverWrong)

/-- 'magnetolaw04.FixopContains': WHATEVER THE INPUT: true; the input reads as it did. -/
def fixopContainsSpec : ChangeSpec := { name := "fixopContains", fn := fun _ => fun
  | [d1, d2, d3, d4, d5, d6, d7, d8] => { results := [.lit (.bool true)], args := [d1, d2, d3, d4, d5, d6, d7, d8] }
  | _ => none }
def fixopContainsRow : OpenClaim := { program := "ytnolflocgodffaa", sum := "362749fa7758123842017bb898333697e47fe0afba9bb2703283ce938c8fcb2b", func := "magneto/magnetolaw04.FixopContains", spec := "fixopContains", inPlace := ["math/bits.Add64"], apart := false }
def FixopContainsSaid : Prop := fixopContainsRow.holds Try.pinned (OpenSpec.ofChange fixopContainsSpec)

/-- ITS FALSE NEIGHBOUR: 'it returns false'. Refute it at one input. -/
def fixopContainsWrong : ChangeSpec := { name := "fixopContains", fn := fun _ => fun
  | [d1, d2, d3, d4, d5, d6, d7, d8] => { results := [.lit (.bool false)], args := [d1, d2, d3, d4, d5, d6, d7, d8] }
  | _ => none }
def FixopContainsWrongFalsely : Prop := fixopContainsRow.holds Try.pinned (OpenSpec.ofChange fixopContainsWrong)

/-- 'magnetolaw04.FixopCompares': WHATEVER THE INPUT: true; the input reads as it did. -/
def fixopComparesSpec : ChangeSpec := { name := "fixopCompares", fn := fun _ => fun
  | [d1, d2] => { results := [.lit (.bool true)], args := [d1, d2] }
  | _ => none }
def fixopComparesRow : OpenClaim := { program := "ytnolflocgodffaa", sum := "362749fa7758123842017bb898333697e47fe0afba9bb2703283ce938c8fcb2b", func := "magneto/magnetolaw04.FixopCompares", spec := "fixopCompares", inPlace := ["math/bits.Add64"], recurses := true, apart := false }
def FixopComparesSaid : Prop := fixopComparesRow.holds Try.pinned (OpenSpec.ofChange fixopComparesSpec)

/-- ITS FALSE NEIGHBOUR: 'it returns false'. Refute it at one input. -/
def fixopComparesWrong : ChangeSpec := { name := "fixopCompares", fn := fun _ => fun
  | [d1, d2] => { results := [.lit (.bool false)], args := [d1, d2] }
  | _ => none }
def FixopComparesWrongFalsely : Prop := fixopComparesRow.holds Try.pinned (OpenSpec.ofChange fixopComparesWrong)

/-- 'magnetolaw04.FixopGrows': WHATEVER THE INPUT: true; the input reads as it did. -/
def fixopGrowsSpec : ChangeSpec := { name := "fixopGrows", fn := fun _ => fun
  | [d1, d2, d3, d4] => { results := [.lit (.bool true)], args := [d1, d2, d3, d4] }
  | _ => none }
def fixopGrowsRow : OpenClaim := { program := "ytnolflocgodffaa", sum := "362749fa7758123842017bb898333697e47fe0afba9bb2703283ce938c8fcb2b", func := "magneto/magnetolaw04.FixopGrows", spec := "fixopGrows", inPlace := ["math/bits.Add64"], apart := false }
def FixopGrowsSaid : Prop := fixopGrowsRow.holds Try.pinned (OpenSpec.ofChange fixopGrowsSpec)

/-- ITS FALSE NEIGHBOUR: 'it returns false'. Refute it at one input. -/
def fixopGrowsWrong : ChangeSpec := { name := "fixopGrows", fn := fun _ => fun
  | [d1, d2, d3, d4] => { results := [.lit (.bool false)], args := [d1, d2, d3, d4] }
  | _ => none }
def FixopGrowsWrongFalsely : Prop := fixopGrowsRow.holds Try.pinned (OpenSpec.ofChange fixopGrowsWrong)

/-- 'magnetolaw03.FixedNumbers': WHATEVER THE INPUT: true; the input reads as it did. -/
def fixedNumbersSpec : ChangeSpec := { name := "fixedNumbers", fn := fun _ => fun
  | [d1, d2] => { results := [.lit (.bool true)], args := [d1, d2] }
  | _ => none }
def fixedNumbersRow : OpenClaim := { program := "ytnolflocgodffaa", sum := "362749fa7758123842017bb898333697e47fe0afba9bb2703283ce938c8fcb2b", func := "magneto/magnetolaw03.FixedNumbers", spec := "fixedNumbers", named := ["math/bits.divideError", "math/bits.overflowError"], apart := false }
def FixedNumbersSaid : Prop := fixedNumbersRow.holds Try.pinned (OpenSpec.ofChange fixedNumbersSpec)

/-- ITS FALSE NEIGHBOUR: 'it returns false'. Refute it at one input. -/
def fixedNumbersWrong : ChangeSpec := { name := "fixedNumbers", fn := fun _ => fun
  | [d1, d2] => { results := [.lit (.bool false)], args := [d1, d2] }
  | _ => none }
def FixedNumbersWrongFalsely : Prop := fixedNumbersRow.holds Try.pinned (OpenSpec.ofChange fixedNumbersWrong)

/-- 'magnetolaw03.FixedRaws': WHATEVER THE INPUT: true; the input reads as it did. -/
def fixedRawsSpec : ChangeSpec := { name := "fixedRaws", fn := fun _ => fun
  | [d1, d2, d3] => { results := [.lit (.bool true)], args := [d1, d2, d3] }
  | _ => none }
def fixedRawsRow : OpenClaim := { program := "ytnolflocgodffaa", sum := "362749fa7758123842017bb898333697e47fe0afba9bb2703283ce938c8fcb2b", func := "magneto/magnetolaw03.FixedRaws", spec := "fixedRaws", named := ["math/bits.divideError", "math/bits.overflowError"], apart := false }
def FixedRawsSaid : Prop := fixedRawsRow.holds Try.pinned (OpenSpec.ofChange fixedRawsSpec)

/-- ITS FALSE NEIGHBOUR: 'it returns false'. Refute it at one input. -/
def fixedRawsWrong : ChangeSpec := { name := "fixedRaws", fn := fun _ => fun
  | [d1, d2, d3] => { results := [.lit (.bool false)], args := [d1, d2, d3] }
  | _ => none }
def FixedRawsWrongFalsely : Prop := fixedRawsRow.holds Try.pinned (OpenSpec.ofChange fixedRawsWrong)

/-- 'magnetolaw03.FixedTypes': WHATEVER THE INPUT: true; the input reads as it did. -/
def fixedTypesSpec : ChangeSpec := { name := "fixedTypes", fn := fun _ => fun
  | [d] => { results := [.lit (.bool true)], args := [d] }
  | _ => none }
def fixedTypesRow : OpenClaim := { program := "ytnolflocgodffaa", sum := "362749fa7758123842017bb898333697e47fe0afba9bb2703283ce938c8fcb2b", func := "magneto/magnetolaw03.FixedTypes", spec := "fixedTypes", named := ["math/bits.divideError", "math/bits.overflowError"], apart := false }
def FixedTypesSaid : Prop := fixedTypesRow.holds Try.pinned (OpenSpec.ofChange fixedTypesSpec)

/-- ITS FALSE NEIGHBOUR: 'it returns false'. Refute it at one input. -/
def fixedTypesWrong : ChangeSpec := { name := "fixedTypes", fn := fun _ => fun
  | [d] => { results := [.lit (.bool false)], args := [d] }
  | _ => none }
def FixedTypesWrongFalsely : Prop := fixedTypesRow.holds Try.pinned (OpenSpec.ofChange fixedTypesWrong)

/-- 'magnetolaw03.FixedConverts': WHATEVER THE INPUT: true; the input reads as it did. -/
def fixedConvertsSpec : ChangeSpec := { name := "fixedConverts", fn := fun _ => fun
  | [d1, d2, d3] => { results := [.lit (.bool true)], args := [d1, d2, d3] }
  | _ => none }
def fixedConvertsRow : OpenClaim := { program := "ytnolflocgodffaa", sum := "362749fa7758123842017bb898333697e47fe0afba9bb2703283ce938c8fcb2b", func := "magneto/magnetolaw03.FixedConverts", spec := "fixedConverts", named := ["math/bits.divideError", "math/bits.overflowError"], apart := false }
def FixedConvertsSaid : Prop := fixedConvertsRow.holds Try.pinned (OpenSpec.ofChange fixedConvertsSpec)

/-- ITS FALSE NEIGHBOUR: 'it returns false'. Refute it at one input. -/
def fixedConvertsWrong : ChangeSpec := { name := "fixedConverts", fn := fun _ => fun
  | [d1, d2, d3] => { results := [.lit (.bool false)], args := [d1, d2, d3] }
  | _ => none }
def FixedConvertsWrongFalsely : Prop := fixedConvertsRow.holds Try.pinned (OpenSpec.ofChange fixedConvertsWrong)

/-- 'magnetolaw03.FixedBack': WHATEVER THE INPUT: true; the input reads as it did. -/
def fixedBackSpec : ChangeSpec := { name := "fixedBack", fn := fun _ => fun
  | [d1, d2] => { results := [.lit (.bool true)], args := [d1, d2] }
  | _ => none }
def fixedBackRow : OpenClaim := { program := "ytnolflocgodffaa", sum := "362749fa7758123842017bb898333697e47fe0afba9bb2703283ce938c8fcb2b", func := "magneto/magnetolaw03.FixedBack", spec := "fixedBack", named := ["math/bits.divideError", "math/bits.overflowError"], apart := false }
def FixedBackSaid : Prop := fixedBackRow.holds Try.pinned (OpenSpec.ofChange fixedBackSpec)

/-- ITS FALSE NEIGHBOUR: 'it returns false'. Refute it at one input. -/
def fixedBackWrong : ChangeSpec := { name := "fixedBack", fn := fun _ => fun
  | [d1, d2] => { results := [.lit (.bool false)], args := [d1, d2] }
  | _ => none }
def FixedBackWrongFalsely : Prop := fixedBackRow.holds Try.pinned (OpenSpec.ofChange fixedBackWrong)

/-- 'magnetolaw03.FixedCompares': WHATEVER THE INPUT: true; the input reads as it did. -/
def fixedComparesSpec : ChangeSpec := { name := "fixedCompares", fn := fun _ => fun
  | [d1, d2, d3, d4, d5] => { results := [.lit (.bool true)], args := [d1, d2, d3, d4, d5] }
  | _ => none }
def fixedComparesRow : OpenClaim := { program := "ytnolflocgodffaa", sum := "362749fa7758123842017bb898333697e47fe0afba9bb2703283ce938c8fcb2b", func := "magneto/magnetolaw03.FixedCompares", spec := "fixedCompares", named := ["math/bits.divideError", "math/bits.overflowError"], apart := false }
def FixedComparesSaid : Prop := fixedComparesRow.holds Try.pinned (OpenSpec.ofChange fixedComparesSpec)

/-- ITS FALSE NEIGHBOUR: 'it returns false'. Refute it at one input. -/
def fixedComparesWrong : ChangeSpec := { name := "fixedCompares", fn := fun _ => fun
  | [d1, d2, d3, d4, d5] => { results := [.lit (.bool false)], args := [d1, d2, d3, d4, d5] }
  | _ => none }
def FixedComparesWrongFalsely : Prop := fixedComparesRow.holds Try.pinned (OpenSpec.ofChange fixedComparesWrong)

/-- 'magnetolaw03.FixedRounds': WHATEVER THE INPUT: true; the input reads as it did. -/
def fixedRoundsSpec : ChangeSpec := { name := "fixedRounds", fn := fun _ => fun
  | [d1, d2] => { results := [.lit (.bool true)], args := [d1, d2] }
  | _ => none }
def fixedRoundsRow : OpenClaim := { program := "ytnolflocgodffaa", sum := "362749fa7758123842017bb898333697e47fe0afba9bb2703283ce938c8fcb2b", func := "magneto/magnetolaw03.FixedRounds", spec := "fixedRounds", named := ["math/bits.divideError", "math/bits.overflowError"], apart := false }
def FixedRoundsSaid : Prop := fixedRoundsRow.holds Try.pinned (OpenSpec.ofChange fixedRoundsSpec)

/-- ITS FALSE NEIGHBOUR: 'it returns false'. Refute it at one input. -/
def fixedRoundsWrong : ChangeSpec := { name := "fixedRounds", fn := fun _ => fun
  | [d1, d2] => { results := [.lit (.bool false)], args := [d1, d2] }
  | _ => none }
def FixedRoundsWrongFalsely : Prop := fixedRoundsRow.holds Try.pinned (OpenSpec.ofChange fixedRoundsWrong)

/-- 'magnetolaw03.FixedSaturates': WHATEVER THE INPUT: true; the input reads as it did. -/
def fixedSaturatesSpec : ChangeSpec := { name := "fixedSaturates", fn := fun _ => fun
  | [d1, d2, d3] => { results := [.lit (.bool true)], args := [d1, d2, d3] }
  | _ => none }
def fixedSaturatesRow : OpenClaim := { program := "ytnolflocgodffaa", sum := "362749fa7758123842017bb898333697e47fe0afba9bb2703283ce938c8fcb2b", func := "magneto/magnetolaw03.FixedSaturates", spec := "fixedSaturates", named := ["math/bits.divideError", "math/bits.overflowError"], apart := false }
def FixedSaturatesSaid : Prop := fixedSaturatesRow.holds Try.pinned (OpenSpec.ofChange fixedSaturatesSpec)

/-- ITS FALSE NEIGHBOUR: 'it returns false'. Refute it at one input. -/
def fixedSaturatesWrong : ChangeSpec := { name := "fixedSaturates", fn := fun _ => fun
  | [d1, d2, d3] => { results := [.lit (.bool false)], args := [d1, d2, d3] }
  | _ => none }
def FixedSaturatesWrongFalsely : Prop := fixedSaturatesRow.holds Try.pinned (OpenSpec.ofChange fixedSaturatesWrong)

/-- 'magnetolaw04.FixopPlain': WHATEVER THE INPUT: true; the input reads as it did. -/
def fixopPlainSpec : ChangeSpec := { name := "fixopPlain", fn := fun _ => fun
  | [d1, d2, d3, d4, d5] => { results := [.lit (.bool true)], args := [d1, d2, d3, d4, d5] }
  | _ => none }
def fixopPlainRow : OpenClaim := { program := "ytnolflocgodffaa", sum := "362749fa7758123842017bb898333697e47fe0afba9bb2703283ce938c8fcb2b", func := "magneto/magnetolaw04.FixopPlain", spec := "fixopPlain", inPlace := ["math/bits.Add64"], named := ["math/bits.divideError", "math/bits.overflowError"], apart := false }
def FixopPlainSaid : Prop := fixopPlainRow.holds Try.pinned (OpenSpec.ofChange fixopPlainSpec)

/-- ITS FALSE NEIGHBOUR: 'it returns false'. Refute it at one input. -/
def fixopPlainWrong : ChangeSpec := { name := "fixopPlain", fn := fun _ => fun
  | [d1, d2, d3, d4, d5] => { results := [.lit (.bool false)], args := [d1, d2, d3, d4, d5] }
  | _ => none }
def FixopPlainWrongFalsely : Prop := fixopPlainRow.holds Try.pinned (OpenSpec.ofChange fixopPlainWrong)

/-- 'magnetolaw04.FixopTurns': WHATEVER THE INPUT: true; the input reads as it did. -/
def fixopTurnsSpec : ChangeSpec := { name := "fixopTurns", fn := fun _ => fun
  | [d1, d2, d3] => { results := [.lit (.bool true)], args := [d1, d2, d3] }
  | _ => none }
def fixopTurnsRow : OpenClaim := { program := "ytnolflocgodffaa", sum := "362749fa7758123842017bb898333697e47fe0afba9bb2703283ce938c8fcb2b", func := "magneto/magnetolaw04.FixopTurns", spec := "fixopTurns", inPlace := ["math/bits.Add64"], named := ["math/bits.divideError", "math/bits.overflowError"], apart := false }
def FixopTurnsSaid : Prop := fixopTurnsRow.holds Try.pinned (OpenSpec.ofChange fixopTurnsSpec)

/-- ITS FALSE NEIGHBOUR: 'it returns false'. Refute it at one input. -/
def fixopTurnsWrong : ChangeSpec := { name := "fixopTurns", fn := fun _ => fun
  | [d1, d2, d3] => { results := [.lit (.bool false)], args := [d1, d2, d3] }
  | _ => none }
def FixopTurnsWrongFalsely : Prop := fixopTurnsRow.holds Try.pinned (OpenSpec.ofChange fixopTurnsWrong)

/-- 'magnetolaw04.FixopConverts': WHATEVER THE INPUT: true; the input reads as it did. -/
def fixopConvertsSpec : ChangeSpec := { name := "fixopConverts", fn := fun _ => fun
  | [d1, d2] => { results := [.lit (.bool true)], args := [d1, d2] }
  | _ => none }
def fixopConvertsRow : OpenClaim := { program := "ytnolflocgodffaa", sum := "362749fa7758123842017bb898333697e47fe0afba9bb2703283ce938c8fcb2b", func := "magneto/magnetolaw04.FixopConverts", spec := "fixopConverts", inPlace := ["math/bits.Add64"], recurses := true, named := ["math/bits.divideError", "math/bits.overflowError"], apart := false }
def FixopConvertsSaid : Prop := fixopConvertsRow.holds Try.pinned (OpenSpec.ofChange fixopConvertsSpec)

/-- ITS FALSE NEIGHBOUR: 'it returns false'. Refute it at one input. -/
def fixopConvertsWrong : ChangeSpec := { name := "fixopConverts", fn := fun _ => fun
  | [d1, d2] => { results := [.lit (.bool false)], args := [d1, d2] }
  | _ => none }
def FixopConvertsWrongFalsely : Prop := fixopConvertsRow.holds Try.pinned (OpenSpec.ofChange fixopConvertsWrong)

/- THE SECOND FORM. 'bulk': how many values and letters a reading holds, each counted each time it is reached (what is shared counts as often as it is met; a slice's spare places count too). A statement '..UptoSaid' is the law's where the arguments, and the package variables that the reading takes, are together of bulk at most 1048576: NARROWER than '..Said'. Prove '..Said' where nothing that the law and all that it calls make is longer than what came in: it says more and counts as full. Else prove '..UptoSaid'. A law counts once. -/
mutual
def uptoBulk {H : Type} : DataW H → Nat
  | .lit (.string bytes) => bytes.length + 1
  | .lit _ => 1
  | .nil => 1
  | .ptr d => uptoBulk d + 1
  | .slice elems spare => uptoBulkAll elems + uptoBulkAll spare + 1
  | .agg parts => uptoBulkAll parts + 1
  | .iface _ d => uptoBulk d + 1
  | .map entries => uptoBulkEntries entries + 1
  | .held _ => 1
def uptoBulkAll {H : Type} : List (DataW H) → Nat
  | [] => 0
  | d :: r => uptoBulk d + uptoBulkAll r
def uptoBulkEntries {H : Type} : List (Lit × DataW H) → Nat
  | [] => 0
  | x :: r => uptoBulkEntry x + uptoBulkEntries r
def uptoBulkEntry {H : Type} : Lit × DataW H → Nat
  | (.string bytes, d) => bytes.length + uptoBulk d + 1
  | (_, d) => uptoBulk d + 1
 end
def uptoSmall : (H : Type) → List (DataW H) → Bool := fun _ ds => decide (uptoBulkAll ds ≤ 1048576)
def OpenSpec.upto (s : _root_.Go.ChangeSpec) : _root_.Go.OpenSpec := { _root_.Go.OpenSpec.ofChange s with cond := some uptoSmall }

/-- 'magnetolaw04.FixopProducts', WHERE WHAT IT READS IS OF BULK AT MOST 1048576: true; the input reads as it did. -/
def fixopProductsUptoRow : OpenClaim := { program := "ytnolflocgodffaa", sum := "362749fa7758123842017bb898333697e47fe0afba9bb2703283ce938c8fcb2b", func := "magneto/magnetolaw04.FixopProducts", spec := "fixopProducts", inPlace := ["math/bits.Add64"], recurses := true, apart := false, narrowed := true }
def FixopProductsUptoSaid : Prop := fixopProductsUptoRow.holds Try.pinned (OpenSpec.upto fixopProductsSpec)

/-- 'magnetolaw04.FixopSums', WHERE WHAT IT READS IS OF BULK AT MOST 1048576: true; the input reads as it did. -/
def fixopSumsUptoRow : OpenClaim := { program := "ytnolflocgodffaa", sum := "362749fa7758123842017bb898333697e47fe0afba9bb2703283ce938c8fcb2b", func := "magneto/magnetolaw04.FixopSums", spec := "fixopSums", inPlace := ["math/bits.Add64"], recurses := true, apart := false, narrowed := true }
def FixopSumsUptoSaid : Prop := fixopSumsUptoRow.holds Try.pinned (OpenSpec.upto fixopSumsSpec)

/-- 'magnetolaw04.FixopOver', WHERE WHAT IT READS IS OF BULK AT MOST 1048576: true; the input reads as it did. -/
def fixopOverUptoRow : OpenClaim := { program := "ytnolflocgodffaa", sum := "362749fa7758123842017bb898333697e47fe0afba9bb2703283ce938c8fcb2b", func := "magneto/magnetolaw04.FixopOver", spec := "fixopOver", inPlace := ["math/bits.Add64"], recurses := true, apart := false, narrowed := true }
def FixopOverUptoSaid : Prop := fixopOverUptoRow.holds Try.pinned (OpenSpec.upto fixopOverSpec)

/-- 'magnetolaw04.FixopContains', WHERE WHAT IT READS IS OF BULK AT MOST 1048576: true; the input reads as it did. -/
def fixopContainsUptoRow : OpenClaim := { program := "ytnolflocgodffaa", sum := "362749fa7758123842017bb898333697e47fe0afba9bb2703283ce938c8fcb2b", func := "magneto/magnetolaw04.FixopContains", spec := "fixopContains", inPlace := ["math/bits.Add64"], apart := false, narrowed := true }
def FixopContainsUptoSaid : Prop := fixopContainsUptoRow.holds Try.pinned (OpenSpec.upto fixopContainsSpec)

/-- 'magnetolaw04.FixopCompares', WHERE WHAT IT READS IS OF BULK AT MOST 1048576: true; the input reads as it did. -/
def fixopComparesUptoRow : OpenClaim := { program := "ytnolflocgodffaa", sum := "362749fa7758123842017bb898333697e47fe0afba9bb2703283ce938c8fcb2b", func := "magneto/magnetolaw04.FixopCompares", spec := "fixopCompares", inPlace := ["math/bits.Add64"], recurses := true, apart := false, narrowed := true }
def FixopComparesUptoSaid : Prop := fixopComparesUptoRow.holds Try.pinned (OpenSpec.upto fixopComparesSpec)

/-- 'magnetolaw04.FixopGrows', WHERE WHAT IT READS IS OF BULK AT MOST 1048576: true; the input reads as it did. -/
def fixopGrowsUptoRow : OpenClaim := { program := "ytnolflocgodffaa", sum := "362749fa7758123842017bb898333697e47fe0afba9bb2703283ce938c8fcb2b", func := "magneto/magnetolaw04.FixopGrows", spec := "fixopGrows", inPlace := ["math/bits.Add64"], apart := false, narrowed := true }
def FixopGrowsUptoSaid : Prop := fixopGrowsUptoRow.holds Try.pinned (OpenSpec.upto fixopGrowsSpec)

/-- 'magnetolaw03.FixedNumbers', WHERE WHAT IT READS IS OF BULK AT MOST 1048576: true; the input reads as it did. -/
def fixedNumbersUptoRow : OpenClaim := { program := "ytnolflocgodffaa", sum := "362749fa7758123842017bb898333697e47fe0afba9bb2703283ce938c8fcb2b", func := "magneto/magnetolaw03.FixedNumbers", spec := "fixedNumbers", named := ["math/bits.divideError", "math/bits.overflowError"], apart := false, narrowed := true }
def FixedNumbersUptoSaid : Prop := fixedNumbersUptoRow.holds Try.pinned (OpenSpec.upto fixedNumbersSpec)

/-- 'magnetolaw03.FixedRaws', WHERE WHAT IT READS IS OF BULK AT MOST 1048576: true; the input reads as it did. -/
def fixedRawsUptoRow : OpenClaim := { program := "ytnolflocgodffaa", sum := "362749fa7758123842017bb898333697e47fe0afba9bb2703283ce938c8fcb2b", func := "magneto/magnetolaw03.FixedRaws", spec := "fixedRaws", named := ["math/bits.divideError", "math/bits.overflowError"], apart := false, narrowed := true }
def FixedRawsUptoSaid : Prop := fixedRawsUptoRow.holds Try.pinned (OpenSpec.upto fixedRawsSpec)

/-- 'magnetolaw03.FixedTypes', WHERE WHAT IT READS IS OF BULK AT MOST 1048576: true; the input reads as it did. -/
def fixedTypesUptoRow : OpenClaim := { program := "ytnolflocgodffaa", sum := "362749fa7758123842017bb898333697e47fe0afba9bb2703283ce938c8fcb2b", func := "magneto/magnetolaw03.FixedTypes", spec := "fixedTypes", named := ["math/bits.divideError", "math/bits.overflowError"], apart := false, narrowed := true }
def FixedTypesUptoSaid : Prop := fixedTypesUptoRow.holds Try.pinned (OpenSpec.upto fixedTypesSpec)

/-- 'magnetolaw03.FixedConverts', WHERE WHAT IT READS IS OF BULK AT MOST 1048576: true; the input reads as it did. -/
def fixedConvertsUptoRow : OpenClaim := { program := "ytnolflocgodffaa", sum := "362749fa7758123842017bb898333697e47fe0afba9bb2703283ce938c8fcb2b", func := "magneto/magnetolaw03.FixedConverts", spec := "fixedConverts", named := ["math/bits.divideError", "math/bits.overflowError"], apart := false, narrowed := true }
def FixedConvertsUptoSaid : Prop := fixedConvertsUptoRow.holds Try.pinned (OpenSpec.upto fixedConvertsSpec)

/-- 'magnetolaw03.FixedBack', WHERE WHAT IT READS IS OF BULK AT MOST 1048576: true; the input reads as it did. -/
def fixedBackUptoRow : OpenClaim := { program := "ytnolflocgodffaa", sum := "362749fa7758123842017bb898333697e47fe0afba9bb2703283ce938c8fcb2b", func := "magneto/magnetolaw03.FixedBack", spec := "fixedBack", named := ["math/bits.divideError", "math/bits.overflowError"], apart := false, narrowed := true }
def FixedBackUptoSaid : Prop := fixedBackUptoRow.holds Try.pinned (OpenSpec.upto fixedBackSpec)

/-- 'magnetolaw03.FixedCompares', WHERE WHAT IT READS IS OF BULK AT MOST 1048576: true; the input reads as it did. -/
def fixedComparesUptoRow : OpenClaim := { program := "ytnolflocgodffaa", sum := "362749fa7758123842017bb898333697e47fe0afba9bb2703283ce938c8fcb2b", func := "magneto/magnetolaw03.FixedCompares", spec := "fixedCompares", named := ["math/bits.divideError", "math/bits.overflowError"], apart := false, narrowed := true }
def FixedComparesUptoSaid : Prop := fixedComparesUptoRow.holds Try.pinned (OpenSpec.upto fixedComparesSpec)

/-- 'magnetolaw03.FixedRounds', WHERE WHAT IT READS IS OF BULK AT MOST 1048576: true; the input reads as it did. -/
def fixedRoundsUptoRow : OpenClaim := { program := "ytnolflocgodffaa", sum := "362749fa7758123842017bb898333697e47fe0afba9bb2703283ce938c8fcb2b", func := "magneto/magnetolaw03.FixedRounds", spec := "fixedRounds", named := ["math/bits.divideError", "math/bits.overflowError"], apart := false, narrowed := true }
def FixedRoundsUptoSaid : Prop := fixedRoundsUptoRow.holds Try.pinned (OpenSpec.upto fixedRoundsSpec)

/-- 'magnetolaw03.FixedSaturates', WHERE WHAT IT READS IS OF BULK AT MOST 1048576: true; the input reads as it did. -/
def fixedSaturatesUptoRow : OpenClaim := { program := "ytnolflocgodffaa", sum := "362749fa7758123842017bb898333697e47fe0afba9bb2703283ce938c8fcb2b", func := "magneto/magnetolaw03.FixedSaturates", spec := "fixedSaturates", named := ["math/bits.divideError", "math/bits.overflowError"], apart := false, narrowed := true }
def FixedSaturatesUptoSaid : Prop := fixedSaturatesUptoRow.holds Try.pinned (OpenSpec.upto fixedSaturatesSpec)

/-- 'magnetolaw04.FixopPlain', WHERE WHAT IT READS IS OF BULK AT MOST 1048576: true; the input reads as it did. -/
def fixopPlainUptoRow : OpenClaim := { program := "ytnolflocgodffaa", sum := "362749fa7758123842017bb898333697e47fe0afba9bb2703283ce938c8fcb2b", func := "magneto/magnetolaw04.FixopPlain", spec := "fixopPlain", inPlace := ["math/bits.Add64"], named := ["math/bits.divideError", "math/bits.overflowError"], apart := false, narrowed := true }
def FixopPlainUptoSaid : Prop := fixopPlainUptoRow.holds Try.pinned (OpenSpec.upto fixopPlainSpec)

/-- 'magnetolaw04.FixopTurns', WHERE WHAT IT READS IS OF BULK AT MOST 1048576: true; the input reads as it did. -/
def fixopTurnsUptoRow : OpenClaim := { program := "ytnolflocgodffaa", sum := "362749fa7758123842017bb898333697e47fe0afba9bb2703283ce938c8fcb2b", func := "magneto/magnetolaw04.FixopTurns", spec := "fixopTurns", inPlace := ["math/bits.Add64"], named := ["math/bits.divideError", "math/bits.overflowError"], apart := false, narrowed := true }
def FixopTurnsUptoSaid : Prop := fixopTurnsUptoRow.holds Try.pinned (OpenSpec.upto fixopTurnsSpec)

/-- 'magnetolaw04.FixopConverts', WHERE WHAT IT READS IS OF BULK AT MOST 1048576: true; the input reads as it did. -/
def fixopConvertsUptoRow : OpenClaim := { program := "ytnolflocgodffaa", sum := "362749fa7758123842017bb898333697e47fe0afba9bb2703283ce938c8fcb2b", func := "magneto/magnetolaw04.FixopConverts", spec := "fixopConverts", inPlace := ["math/bits.Add64"], recurses := true, named := ["math/bits.divideError", "math/bits.overflowError"], apart := false, narrowed := true }
def FixopConvertsUptoSaid : Prop := fixopConvertsUptoRow.holds Try.pinned (OpenSpec.upto fixopConvertsSpec)

end Rows
end Go.Proofs.Ytnolflocgodffaa
