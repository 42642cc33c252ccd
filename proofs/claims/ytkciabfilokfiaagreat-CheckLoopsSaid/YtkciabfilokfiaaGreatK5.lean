/- What the last texts need of the program: its knobs, its lay-out. -/
import Derived.Test.YtkciabfilokfiaaGreatMB
import Derived.Test.YtkciabfilokfiaaGreatTf
import Derived.Test.YtkciabfilokfiaaGreatRows
namespace Go.Proofs.YtkciabfilokfiaaGreat
open Go.ChangeShapes Go.WideShapes Go.ChangeAt Go.RowKit
open Vg Tf
set_option linter.unusedSimpArgs false
set_option linter.unusedVariables false
set_option maxRecDepth 100000
theorem own : ownKnob Tryz.prog.godebug = none := by kernel_rfl
theorem laidOut : laidOutB Tryz.prog = true := by kernel_rfl
theorem fmr : mapsRowed Tryz.pinned.checked.prog = true := by kernel_rfl
theorem flo : laidOutB Tryz.pinned.checked.prog = true := by kernel_rfl
theorem fsh : Tryz.pinned.checked.prog.stopsHeard = true := by kernel_rfl
theorem fme : Tryz.pinned.checked.prog.mayEnter = true := by kernel_rfl
end Go.Proofs.YtkciabfilokfiaaGreat
