/-  -/
import Derived.Test.YtlnpgbnhcondjaaGreatDoorPS
import Derived.Test.YtlnpgbnhcondjaaGreatDoorMB
import Derived.Test.YtlnpgbnhcondjaaGreatDoorTf
import Derived.Test.YtlnpgbnhcondjaaGreatDoorRows
import Derived.Test.YtlnpgbnhcondjaaGreatDoorY9
import Derived.LaidMore
import Derived.LaidSub
import Derived.LaidLaws
import Derived.Lib.LaidTab
import Derived.Lay
import Derived.SevenTiedAt
import Derived.Stop.Joined
namespace Go.Proofs.YtlnpgbnhcondjaaGreatDoor
open Go.ChangeShapes Go.WideShapes Go.ChangeAt Go.RowKit
open Vg Tf
set_option linter.unusedSimpArgs false
set_option linter.unusedVariables false
set_option maxRecDepth 100000
theorem own:ownKnob Tryz.prog.godebug=none:=by kernel_rfl
theorem laidOut:laidOutB Tryz.prog=true:=by kernel_rfl
theorem fmr:mapsRowed Tryz.pinned.checked.prog=true:=by kernel_rfl
theorem flo:laidOutB Tryz.pinned.checked.prog=true:=by kernel_rfl
theorem fsh:Tryz.pinned.checked.prog.stopsHeard=true:=by kernel_rfl
theorem fme:Tryz.pinned.checked.prog.mayEnter=true:=by kernel_rfl
end Go.Proofs.YtlnpgbnhcondjaaGreatDoor
namespace Go.Proofs.YtlnpgbnhcondjaaGreatDoor
open Go.ChangeShapes Go.WideShapes Go.ChangeAt Go.RowKit
open Vg Tf Fx
set_option linter.unusedSimpArgs false
set_option linter.unusedVariables false
set_option maxRecDepth 100000
theorem leafS {x:Cv}(h:okL [.s] [x]=true)(hb:bdC x):∃l:List UInt8,x= .v (.string ⟨l.toArray⟩)∧l.length≤9223372036854775807:=by
 obtain⟨n,y,e,_⟩:=okL_s h
 obtain rfl:=(List.cons.inj e).1
 refine⟨n.data.toList,?_,?_⟩
 ·simp
 ·have:n.size≤maxLen:=hb
  have e:n.data.toList.length=n.size:=by rw[Array.length_toList];rfl
  unfold maxLen at this
  omega
theorem er_of {W:World}(h:laidMetH Tryz.prog [("strconv.ErrRange",Rows.laid_strconv_ErrRange)] W):ErR (hpW W):=by
 rw[MakeChecks.laidMetH_plain _ _ _ (by kernel_rfl)]at h
 obtain⟨ps,⟨g',t',cs,fuel,p,q,hg',ht',hvar,hd,_,_⟩,_⟩:=h
 have hg:Tryz.prog.globalNamed "strconv.ErrRange" =some 6:=by kernel_rfl
 obtain rfl:=Option.some.inj (hg.symm.trans hg')
 have hty:(Tryz.prog.globals[6]?).map (·.type)=some 59:=by kernel_rfl
 obtain rfl:=Option.some.inj (hty.symm.trans ht')
 obtain⟨_,u,v,hcs,_,_⟩:=Go.iface_of_trod (Tryz.underlying59) hd
 have hcs2:cs= #[.iface u v]:=by
  apply Array.toList_inj.1
  rw[hcs]
 subst hcs2
 obtain⟨el,mk,hb⟩:=GlW.of_var (cs:=[.iface u v]) hg hvar
 exact⟨.iface u v,el,mk,hb,.inr ⟨u,v,rfl⟩⟩
end Go.Proofs.YtlnpgbnhcondjaaGreatDoor
namespace Go.Proofs.YtlnpgbnhcondjaaGreatDoor
open Go.ChangeShapes Go.WideShapes Go.ChangeAt Go.RowKit
open Vg Tf
set_option linter.unusedSimpArgs false
set_option linter.unusedVariables false
set_option maxRecDepth 100000
theorem fip:Tryz.pinned.checked.prog.inPlace 5=Rows.diagramBlanksRow.inPlace:=by kernel_rfl
theorem fuf:Tryz.pinned.checked.prog.unfollowed 5=Rows.diagramBlanksRow.unfollowed:=by kernel_rfl
theorem frc:Tryz.pinned.checked.prog.recurses 5=Rows.diagramBlanksRow.recurses:=by kernel_rfl
theorem fvn:Tryz.pinned.checked.prog.varsNamed 5=Rows.diagramBlanksRow.named:=by kernel_rfl
theorem closedF:joinedFacts Tryz.pinned.checked.prog 5 Tryz.f5 Rows.diagramBlanksSpec Rows.diagramBlanksRow=true:=by
 unfold joinedFacts
 rw[fip,fuf,frc,fvn,fmr,flo,fsh,fme]
 kernel_rfl
theorem ffn:Tryz.pinned.checked.prog.funcNamed Rows.diagramBlanksRow.func=some 5:=by kernel_rfl
end Go.Proofs.YtlnpgbnhcondjaaGreatDoor
namespace Go.Proofs.YtlnpgbnhcondjaaGreatDoor
open Go.ChangeShapes Go.WideShapes Go.ChangeAt Go.RowKit
open Vg Tf
set_option linter.unusedSimpArgs false
set_option linter.unusedVariables false
set_option maxRecDepth 100000
theorem flk:true=Tryz.pinned.checked.prog.looks []:=by kernel_rfl
theorem fgo:false=Rows.diagramBlanksRow.goesBy Tryz.pinned.checked.prog:=by kernel_rfl
theorem fwf:Rows.diagramBlanksRow.wfByText (OpenSpec.ofChange Rows.diagramBlanksSpec)=true:=by kernel_rfl
theorem fmi:Tryz.pinned.checked.prog.mainIs=some (true,"0b6ddabf7654c0ddcdcd670975a67c572cc1ac03156ddf7d14c8e7ba494423dd".toList):=by kernel_rfl
end Go.Proofs.YtlnpgbnhcondjaaGreatDoor
