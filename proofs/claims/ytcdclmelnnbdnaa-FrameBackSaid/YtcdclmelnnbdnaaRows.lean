/-
  No cell of these rows narrows 'for every input' (looked for: loops, veiled, ifaces, maps, wideKeys, modest, calm, conditions, laid).
  DERIVED. THE GIVEN ROWS OF THIS SEAT. 9 by the template 'for every input the law returns true; each argument reads behind the call as it read before'; 0 by the template 'total and deterministic' (their statements: YtcdclmelnnbdnaaTotals.lean).
  GIVEN WITH THE SEED: the statements are not yours to turn. If you find one false, say at which input.
  Laid BY PROGRAM, IN A SANDBOX (cutbox-rows.mjs): the forced cells as the released guide's own fill.sh prints them over the translation 579beef105a6b069… (all of the seat's roots in one cut). By AI agents, Wed Nov 11 2026. No macro, syntax, notation, axiom, sorry.
-/
import Derived.Test.YtcdclmelnnbdnaaChecked
import GoSem.Claim
import GoSem.ClaimJoined
import GoSem.ClaimMapViews
import Derived.JoinedTies
import Derived.KernelRfl
namespace Go.Proofs.Ytcdclmelnnbdnaa
/- THE CELL 'sum', in the pinned program and in every row, IS THE sha256 OF THE DUMP (.gsa) THAT YtcdclmelnnbdnaaProg.lean LOADS. Nothing in Lean hashes anything: it is a label: what it is worth is what the hold of that sum in a sandbox is worth. -/
noncomputable def Try.pinned : Pinned := { name := "ytcdclmelnnbdnaa", sum := "579beef105a6b069621c13339708833327695e3f088cc78f03941b3ce05fc9ef", checked := Try.checked }
namespace Rows
def none {H : Type} : Left H := { results := [], args := [] }

/-- 'magnetolaw43.FrameEncodes': WHATEVER THE INPUT: true; the input reads as it did. -/
def frameEncodesSpec : ChangeSpec := { name := "frameEncodes", fn := fun _ => fun
  | [d1, d2] => { results := [.lit (.bool true)], args := [d1, d2] }
  | _ => none }
def frameEncodesRow : OpenClaim := { program := "ytcdclmelnnbdnaa", sum := "579beef105a6b069621c13339708833327695e3f088cc78f03941b3ce05fc9ef", func := "magneto/magnetolaw43.FrameEncodes", spec := "frameEncodes", unfollowed := true, recurses := true, apart := false }
def FrameEncodesSaid : Prop := frameEncodesRow.holds Try.pinned (OpenSpec.ofChange frameEncodesSpec)

/-- ITS FALSE NEIGHBOUR: 'it returns false'. Refute it at one input. -/
def frameEncodesWrong : ChangeSpec := { name := "frameEncodes", fn := fun _ => fun
  | [d1, d2] => { results := [.lit (.bool false)], args := [d1, d2] }
  | _ => none }
def FrameEncodesWrongFalsely : Prop := frameEncodesRow.holds Try.pinned (OpenSpec.ofChange frameEncodesWrong)

/-- 'magnetolaw43.FrameOwn': WHATEVER THE INPUT: true; the input reads as it did. -/
def frameOwnSpec : ChangeSpec := { name := "frameOwn", fn := fun _ => fun
  | [d1, d2, d3, d4] => { results := [.lit (.bool true)], args := [d1, d2, d3, d4] }
  | _ => none }
def frameOwnRow : OpenClaim := { program := "ytcdclmelnnbdnaa", sum := "579beef105a6b069621c13339708833327695e3f088cc78f03941b3ce05fc9ef", func := "magneto/magnetolaw43.FrameOwn", spec := "frameOwn", unfollowed := true, recurses := true, apart := false }
def FrameOwnSaid : Prop := frameOwnRow.holds Try.pinned (OpenSpec.ofChange frameOwnSpec)

/-- ITS FALSE NEIGHBOUR: 'it returns false'. Refute it at one input. -/
def frameOwnWrong : ChangeSpec := { name := "frameOwn", fn := fun _ => fun
  | [d1, d2, d3, d4] => { results := [.lit (.bool false)], args := [d1, d2, d3, d4] }
  | _ => none }
def FrameOwnWrongFalsely : Prop := frameOwnRow.holds Try.pinned (OpenSpec.ofChange frameOwnWrong)

/-- 'magnetolaw43.FrameGuards': WHATEVER THE INPUT: true; the input reads as it did. -/
def frameGuardsSpec : ChangeSpec := { name := "frameGuards", fn := fun _ => fun
  | [d1, d2, d3] => { results := [.lit (.bool true)], args := [d1, d2, d3] }
  | _ => none }
def frameGuardsRow : OpenClaim := { program := "ytcdclmelnnbdnaa", sum := "579beef105a6b069621c13339708833327695e3f088cc78f03941b3ce05fc9ef", func := "magneto/magnetolaw43.FrameGuards", spec := "frameGuards", unfollowed := true, recurses := true, apart := false }
def FrameGuardsSaid : Prop := frameGuardsRow.holds Try.pinned (OpenSpec.ofChange frameGuardsSpec)

/-- ITS FALSE NEIGHBOUR: 'it returns false'. Refute it at one input. -/
def frameGuardsWrong : ChangeSpec := { name := "frameGuards", fn := fun _ => fun
  | [d1, d2, d3] => { results := [.lit (.bool false)], args := [d1, d2, d3] }
  | _ => none }
def FrameGuardsWrongFalsely : Prop := frameGuardsRow.holds Try.pinned (OpenSpec.ofChange frameGuardsWrong)

/-- 'magnetolaw43.FrameDecodes': WHATEVER THE INPUT: true; the input reads as it did. -/
def frameDecodesSpec : ChangeSpec := { name := "frameDecodes", fn := fun _ => fun
  | [d1, d2] => { results := [.lit (.bool true)], args := [d1, d2] }
  | _ => none }
def frameDecodesRow : OpenClaim := { program := "ytcdclmelnnbdnaa", sum := "579beef105a6b069621c13339708833327695e3f088cc78f03941b3ce05fc9ef", func := "magneto/magnetolaw43.FrameDecodes", spec := "frameDecodes", unfollowed := true, recurses := true, apart := false }
def FrameDecodesSaid : Prop := frameDecodesRow.holds Try.pinned (OpenSpec.ofChange frameDecodesSpec)

/-- ITS FALSE NEIGHBOUR: 'it returns false'. Refute it at one input. -/
def frameDecodesWrong : ChangeSpec := { name := "frameDecodes", fn := fun _ => fun
  | [d1, d2] => { results := [.lit (.bool false)], args := [d1, d2] }
  | _ => none }
def FrameDecodesWrongFalsely : Prop := frameDecodesRow.holds Try.pinned (OpenSpec.ofChange frameDecodesWrong)

/-- 'magnetolaw43.FrameWatches': WHATEVER THE INPUT: true; the input reads as it did. -/
def frameWatchesSpec : ChangeSpec := { name := "frameWatches", fn := fun _ => fun
  | [d1, d2, d3] => { results := [.lit (.bool true)], args := [d1, d2, d3] }
  | _ => none }
def frameWatchesRow : OpenClaim := { program := "ytcdclmelnnbdnaa", sum := "579beef105a6b069621c13339708833327695e3f088cc78f03941b3ce05fc9ef", func := "magneto/magnetolaw43.FrameWatches", spec := "frameWatches", unfollowed := true, recurses := true, apart := false }
def FrameWatchesSaid : Prop := frameWatchesRow.holds Try.pinned (OpenSpec.ofChange frameWatchesSpec)

/-- ITS FALSE NEIGHBOUR: 'it returns false'. Refute it at one input. -/
def frameWatchesWrong : ChangeSpec := { name := "frameWatches", fn := fun _ => fun
  | [d1, d2, d3] => { results := [.lit (.bool false)], args := [d1, d2, d3] }
  | _ => none }
def FrameWatchesWrongFalsely : Prop := frameWatchesRow.holds Try.pinned (OpenSpec.ofChange frameWatchesWrong)

/-- 'magnetolaw43.FrameDetects': WHATEVER THE INPUT: true; the input reads as it did. -/
def frameDetectsSpec : ChangeSpec := { name := "frameDetects", fn := fun _ => fun
  | [d1, d2, d3, d4, d5, d6, d7] => { results := [.lit (.bool true)], args := [d1, d2, d3, d4, d5, d6, d7] }
  | _ => none }
def frameDetectsRow : OpenClaim := { program := "ytcdclmelnnbdnaa", sum := "579beef105a6b069621c13339708833327695e3f088cc78f03941b3ce05fc9ef", func := "magneto/magnetolaw43.FrameDetects", spec := "frameDetects", unfollowed := true, recurses := true, apart := false }
def FrameDetectsSaid : Prop := frameDetectsRow.holds Try.pinned (OpenSpec.ofChange frameDetectsSpec)

/-- ITS FALSE NEIGHBOUR: 'it returns false'. Refute it at one input. -/
def frameDetectsWrong : ChangeSpec := { name := "frameDetects", fn := fun _ => fun
  | [d1, d2, d3, d4, d5, d6, d7] => { results := [.lit (.bool false)], args := [d1, d2, d3, d4, d5, d6, d7] }
  | _ => none }
def FrameDetectsWrongFalsely : Prop := frameDetectsRow.holds Try.pinned (OpenSpec.ofChange frameDetectsWrong)

/-- 'magnetolaw43.FrameCounts': WHATEVER THE INPUT: true; the input reads as it did. -/
def frameCountsSpec : ChangeSpec := { name := "frameCounts", fn := fun _ => fun
  | [d1, d2, d3] => { results := [.lit (.bool true)], args := [d1, d2, d3] }
  | _ => none }
def frameCountsRow : OpenClaim := { program := "ytcdclmelnnbdnaa", sum := "579beef105a6b069621c13339708833327695e3f088cc78f03941b3ce05fc9ef", func := "magneto/magnetolaw43.FrameCounts", spec := "frameCounts", unfollowed := true, recurses := true, apart := false }
def FrameCountsSaid : Prop := frameCountsRow.holds Try.pinned (OpenSpec.ofChange frameCountsSpec)

/-- ITS FALSE NEIGHBOUR: 'it returns false'. Refute it at one input. -/
def frameCountsWrong : ChangeSpec := { name := "frameCounts", fn := fun _ => fun
  | [d1, d2, d3] => { results := [.lit (.bool false)], args := [d1, d2, d3] }
  | _ => none }
def FrameCountsWrongFalsely : Prop := frameCountsRow.holds Try.pinned (OpenSpec.ofChange frameCountsWrong)

/-- 'magnetolaw43.FrameScales': WHATEVER THE INPUT: true; the input reads as it did. -/
def frameScalesSpec : ChangeSpec := { name := "frameScales", fn := fun _ => fun
  | [d1, d2, d3] => { results := [.lit (.bool true)], args := [d1, d2, d3] }
  | _ => none }
def frameScalesRow : OpenClaim := { program := "ytcdclmelnnbdnaa", sum := "579beef105a6b069621c13339708833327695e3f088cc78f03941b3ce05fc9ef", func := "magneto/magnetolaw43.FrameScales", spec := "frameScales", unfollowed := true, recurses := true, named := ["math/bits.divideError", "math/bits.overflowError"], apart := false }
def FrameScalesSaid : Prop := frameScalesRow.holds Try.pinned (OpenSpec.ofChange frameScalesSpec)

/-- ITS FALSE NEIGHBOUR: 'it returns false'. Refute it at one input. -/
def frameScalesWrong : ChangeSpec := { name := "frameScales", fn := fun _ => fun
  | [d1, d2, d3] => { results := [.lit (.bool false)], args := [d1, d2, d3] }
  | _ => none }
def FrameScalesWrongFalsely : Prop := frameScalesRow.holds Try.pinned (OpenSpec.ofChange frameScalesWrong)

/-- 'magnetolaw43.FrameBack': WHATEVER THE INPUT: true; the input reads as it did. -/
def frameBackSpec : ChangeSpec := { name := "frameBack", fn := fun _ => fun
  | [d1, d2, d3] => { results := [.lit (.bool true)], args := [d1, d2, d3] }
  | _ => none }
def frameBackRow : OpenClaim := { program := "ytcdclmelnnbdnaa", sum := "579beef105a6b069621c13339708833327695e3f088cc78f03941b3ce05fc9ef", func := "magneto/magnetolaw43.FrameBack", spec := "frameBack", unfollowed := true, recurses := true, named := ["math/bits.divideError", "math/bits.overflowError"], apart := false }
def FrameBackSaid : Prop := frameBackRow.holds Try.pinned (OpenSpec.ofChange frameBackSpec)

/-- ITS FALSE NEIGHBOUR: 'it returns false'. Refute it at one input. -/
def frameBackWrong : ChangeSpec := { name := "frameBack", fn := fun _ => fun
  | [d1, d2, d3] => { results := [.lit (.bool false)], args := [d1, d2, d3] }
  | _ => none }
def FrameBackWrongFalsely : Prop := frameBackRow.holds Try.pinned (OpenSpec.ofChange frameBackWrong)

/- THE SECOND FORM. 'bulk': how many values and letters a reading holds, each counted each time it is reached (what is shared counts as often as it is met; a slice's spare places count too). A statement '..UptoSaid' is the law's where the arguments, and the package variables that the reading takes, are together of bulk at most 1048576: NARROWER than '..Said'. Prove '..Said' where nothing that the law and all that it calls make is longer than what came in: it says more and counts as full. Else prove '..UptoSaid'. A law counts once. -/
mutual
def uptoBulk {H : Type} : DataW H → Nat
  | .lit (.string bytes) => bytes.length + 1
  | .lit _ => 1
  | .nil => 1
  | .ptr d => uptoBulk d + 1
  | .slice elems spare => uptoBulkAll elems + uptoBulkAll spare + 1
  | .agg parts => uptoBulkAll parts + 1
  | .iface _ d => uptoBulk d + 1
  | .map entries => uptoBulkEntries entries + 1
  | .held _ => 1
def uptoBulkAll {H : Type} : List (DataW H) → Nat
  | [] => 0
  | d :: r => uptoBulk d + uptoBulkAll r
def uptoBulkEntries {H : Type} : List (Lit × DataW H) → Nat
  | [] => 0
  | x :: r => uptoBulkEntry x + uptoBulkEntries r
def uptoBulkEntry {H : Type} : Lit × DataW H → Nat
  | (.string bytes, d) => bytes.length + uptoBulk d + 1
  | (_, d) => uptoBulk d + 1
 end
def uptoSmall : (H : Type) → List (DataW H) → Bool := fun _ ds => decide (uptoBulkAll ds ≤ 1048576)
def OpenSpec.upto (s : _root_.Go.ChangeSpec) : _root_.Go.OpenSpec := { _root_.Go.OpenSpec.ofChange s with cond := some uptoSmall }

/-- 'magnetolaw43.FrameEncodes', WHERE WHAT IT READS IS OF BULK AT MOST 1048576: true; the input reads as it did. -/
def frameEncodesUptoRow : OpenClaim := { program := "ytcdclmelnnbdnaa", sum := "579beef105a6b069621c13339708833327695e3f088cc78f03941b3ce05fc9ef", func := "magneto/magnetolaw43.FrameEncodes", spec := "frameEncodes", unfollowed := true, recurses := true, apart := false, narrowed := true }
def FrameEncodesUptoSaid : Prop := frameEncodesUptoRow.holds Try.pinned (OpenSpec.upto frameEncodesSpec)

/-- 'magnetolaw43.FrameOwn', WHERE WHAT IT READS IS OF BULK AT MOST 1048576: true; the input reads as it did. -/
def frameOwnUptoRow : OpenClaim := { program := "ytcdclmelnnbdnaa", sum := "579beef105a6b069621c13339708833327695e3f088cc78f03941b3ce05fc9ef", func := "magneto/magnetolaw43.FrameOwn", spec := "frameOwn", unfollowed := true, recurses := true, apart := false, narrowed := true }
def FrameOwnUptoSaid : Prop := frameOwnUptoRow.holds Try.pinned (OpenSpec.upto frameOwnSpec)

/-- 'magnetolaw43.FrameGuards', WHERE WHAT IT READS IS OF BULK AT MOST 1048576: true; the input reads as it did. -/
def frameGuardsUptoRow : OpenClaim := { program := "ytcdclmelnnbdnaa", sum := "579beef105a6b069621c13339708833327695e3f088cc78f03941b3ce05fc9ef", func := "magneto/magnetolaw43.FrameGuards", spec := "frameGuards", unfollowed := true, recurses := true, apart := false, narrowed := true }
def FrameGuardsUptoSaid : Prop := frameGuardsUptoRow.holds Try.pinned (OpenSpec.upto frameGuardsSpec)

/-- 'magnetolaw43.FrameDecodes', WHERE WHAT IT READS IS OF BULK AT MOST 1048576: true; the input reads as it did. -/
def frameDecodesUptoRow : OpenClaim := { program := "ytcdclmelnnbdnaa", sum := "579beef105a6b069621c13339708833327695e3f088cc78f03941b3ce05fc9ef", func := "magneto/magnetolaw43.FrameDecodes", spec := "frameDecodes", unfollowed := true, recurses := true, apart := false, narrowed := true }
def FrameDecodesUptoSaid : Prop := frameDecodesUptoRow.holds Try.pinned (OpenSpec.upto frameDecodesSpec)

/-- 'magnetolaw43.FrameWatches', WHERE WHAT IT READS IS OF BULK AT MOST 1048576: true; the input reads as it did. -/
def frameWatchesUptoRow : OpenClaim := { program := "ytcdclmelnnbdnaa", sum := "579beef105a6b069621c13339708833327695e3f088cc78f03941b3ce05fc9ef", func := "magneto/magnetolaw43.FrameWatches", spec := "frameWatches", unfollowed := true, recurses := true, apart := false, narrowed := true }
def FrameWatchesUptoSaid : Prop := frameWatchesUptoRow.holds Try.pinned (OpenSpec.upto frameWatchesSpec)

/-- 'magnetolaw43.FrameDetects', WHERE WHAT IT READS IS OF BULK AT MOST 1048576: true; the input reads as it did. -/
def frameDetectsUptoRow : OpenClaim := { program := "ytcdclmelnnbdnaa", sum := "579beef105a6b069621c13339708833327695e3f088cc78f03941b3ce05fc9ef", func := "magneto/magnetolaw43.FrameDetects", spec := "frameDetects", unfollowed := true, recurses := true, apart := false, narrowed := true }
def FrameDetectsUptoSaid : Prop := frameDetectsUptoRow.holds Try.pinned (OpenSpec.upto frameDetectsSpec)

/-- 'magnetolaw43.FrameCounts', WHERE WHAT IT READS IS OF BULK AT MOST 1048576: true; the input reads as it did. -/
def frameCountsUptoRow : OpenClaim := { program := "ytcdclmelnnbdnaa", sum := "579beef105a6b069621c13339708833327695e3f088cc78f03941b3ce05fc9ef", func := "magneto/magnetolaw43.FrameCounts", spec := "frameCounts", unfollowed := true, recurses := true, apart := false, narrowed := true }
def FrameCountsUptoSaid : Prop := frameCountsUptoRow.holds Try.pinned (OpenSpec.upto frameCountsSpec)

/-- 'magnetolaw43.FrameScales', WHERE WHAT IT READS IS OF BULK AT MOST 1048576: true; the input reads as it did. -/
def frameScalesUptoRow : OpenClaim := { program := "ytcdclmelnnbdnaa", sum := "579beef105a6b069621c13339708833327695e3f088cc78f03941b3ce05fc9ef", func := "magneto/magnetolaw43.FrameScales", spec := "frameScales", unfollowed := true, recurses := true, named := ["math/bits.divideError", "math/bits.overflowError"], apart := false, narrowed := true }
def FrameScalesUptoSaid : Prop := frameScalesUptoRow.holds Try.pinned (OpenSpec.upto frameScalesSpec)

/-- 'magnetolaw43.FrameBack', WHERE WHAT IT READS IS OF BULK AT MOST 1048576: true; the input reads as it did. -/
def frameBackUptoRow : OpenClaim := { program := "ytcdclmelnnbdnaa", sum := "579beef105a6b069621c13339708833327695e3f088cc78f03941b3ce05fc9ef", func := "magneto/magnetolaw43.FrameBack", spec := "frameBack", unfollowed := true, recurses := true, named := ["math/bits.divideError", "math/bits.overflowError"], apart := false, narrowed := true }
def FrameBackUptoSaid : Prop := frameBackUptoRow.holds Try.pinned (OpenSpec.upto frameBackSpec)

end Rows
end Go.Proofs.Ytcdclmelnnbdnaa
