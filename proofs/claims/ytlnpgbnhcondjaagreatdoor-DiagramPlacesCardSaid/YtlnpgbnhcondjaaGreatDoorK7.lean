/-  -/
import Derived.Test.YtlnpgbnhcondjaaGreatDoorPS
import Derived.Test.YtlnpgbnhcondjaaGreatDoorMB
import Derived.Test.YtlnpgbnhcondjaaGreatDoorTf
import Derived.Test.YtlnpgbnhcondjaaGreatDoorRows
import Derived.Lay
import Derived.Stop.Joined
import Derived.SevenTiedAt
import Derived.LaidMore
namespace Go.Proofs.YtlnpgbnhcondjaaGreatDoor
open Go.ChangeShapes Go.WideShapes Go.ChangeAt Go.RowKit
open Vg Tf
set_option linter.unusedSimpArgs false
set_option linter.unusedVariables false
set_option maxRecDepth 100000
theorem own:ownKnob Tryz.prog.godebug=none:=by kernel_rfl
theorem laidOut:laidOutB Tryz.prog=true:=by kernel_rfl
theorem fmr:mapsRowed Tryz.pinned.checked.prog=true:=by kernel_rfl
theorem flo:laidOutB Tryz.pinned.checked.prog=true:=by kernel_rfl
theorem fsh:Tryz.pinned.checked.prog.stopsHeard=true:=by kernel_rfl
theorem fme:Tryz.pinned.checked.prog.mayEnter=true:=by kernel_rfl
end Go.Proofs.YtlnpgbnhcondjaaGreatDoor
namespace Go.Proofs.YtlnpgbnhcondjaaGreatDoor
open Go.ChangeShapes Go.WideShapes Go.ChangeAt Go.RowKit
open Vg Tf
set_option linter.unusedSimpArgs false
set_option linter.unusedVariables false
set_option maxRecDepth 100000
theorem fip:Tryz.pinned.checked.prog.inPlace 6=Rows.diagramPlacesRow.inPlace:=by kernel_rfl
theorem fuf:Tryz.pinned.checked.prog.unfollowed 6=Rows.diagramPlacesRow.unfollowed:=by kernel_rfl
theorem frc:Tryz.pinned.checked.prog.recurses 6=Rows.diagramPlacesRow.recurses:=by kernel_rfl
theorem fvn:Tryz.pinned.checked.prog.varsNamed 6=Rows.diagramPlacesRow.named:=by kernel_rfl
theorem closedF:joinedFacts Tryz.pinned.checked.prog 6 Tryz.f6 Rows.diagramPlacesSpec Rows.diagramPlacesRow=true:=by
 unfold joinedFacts
 rw[fip,fuf,frc,fvn,fmr,flo,fsh,fme]
 kernel_rfl
theorem ffn:Tryz.pinned.checked.prog.funcNamed Rows.diagramPlacesRow.func=some 6:=by kernel_rfl
end Go.Proofs.YtlnpgbnhcondjaaGreatDoor
