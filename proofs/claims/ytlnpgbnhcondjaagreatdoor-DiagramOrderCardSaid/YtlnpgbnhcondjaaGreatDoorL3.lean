/-  -/
import Derived.Test.YtlnpgbnhcondjaaGreatDoorTf
import Derived.Test.YtlnpgbnhcondjaaGreatDoorKG3
import Derived.Test.YtlnpgbnhcondjaaGreatDoorRows
import Derived.Test.YtlnpgbnhcondjaaGreatDoorTie
import Derived.Test.YtlnpgbnhcondjaaGreatDoorCards
import Derived.LaidMore
import Derived.Lay
import Derived.SevenTiedAt
import Derived.Stop.Joined
namespace Go.Proofs.YtlnpgbnhcondjaaGreatDoor
open Go.ChangeShapes Go.WideShapes Go.ChangeAt Go.RowKit
open Vg Tf Fx
set_option linter.unusedSimpArgs false
set_option linter.unusedVariables false
set_option maxRecDepth 100000
theorem rdb9:Tryz.prog.readableRec 9=true∧9<Tryz.prog.types.size:=⟨by kernel_rfl,by decide+kernel⟩
theorem lfx9:lfOf Tryz.prog 20 9=some [.s]:=by kernel_rfl
theorem rdb5:Tryz.prog.readableRec 5=true∧5<Tryz.prog.types.size:=⟨by kernel_rfl,by decide+kernel⟩
theorem lfx5:lfOf Tryz.prog 20 5=some [.i .u8]:=by kernel_rfl
theorem diagramOrder_lifted (os:Os)(started:os.Started)(H:Type)(enc:TypeId×Value→H):
  ReturnsInHanded {} Tryz.checked os 3 .any (fun w args=>(Rows.diagramOrderSpec.pre enc Tryz.prog Tryz.f3 Rows.diagramOrderRow.domain false w args∧laidMetH Tryz.prog Rows.diagramOrderRow.laid w)∧sizedMet enc Tryz.prog Tryz.f3 (OpenSpec.ofChange Rows.diagramOrderSpec) false w args) (Rows.diagramOrderSpec.post enc Tryz.prog Tryz.f3 false true false false):=by
 refine returnsInHanded_of_change_and (C:=Tryz.checked) (X:=fun w _=>laidMetH Tryz.prog Rows.diagramOrderRow.laid w) (fun _ _ _ hh h=>h.of_heap hh) own started (by kernel_rfl) Tryz.func3
  (ChangeSpec.witness_shaped (enc:=enc) (C:=Tryz.checked) (os:=os) (X:=fun w _=>laidMetH Tryz.prog Rows.diagramOrderRow.laid w) false (World.laidAll Tryz.prog os Rows.diagramOrderRow.laid) #[.string ⟨#[]⟩,.int .u8 0] 8 (World.laidAll_os _ _ _)
   (World.shaped_of_ZipB (by kernel_rfl) (by kernel_rfl)) (by kernel_rfl) (by kernel_rfl) (by kernel_rfl)
   (by rw[MakeChecks.laidMetH_plain _ _ _ (by kernel_rfl)];exact laidMet_laidAll _ (by kernel_rfl) (by kernel_rfl))) ?_
 intro W base args ds gs before hval0 hW hcnd hsz hL _
 have hval:∀(j:Nat) t v,Tryz.f3.params[j]?=some t→args[j]?=some v→Value.okWide Tryz.prog W .any base t v:=hval0
 have hW':=hW
 obtain⟨p,q,hA0,hV,rfl,hfz,hnd⟩:=hW
 have hA:DataW.TrodAll enc Tryz.prog W 0 (fun _=>true) true Tryz.f3.params.toList args.toList ds p:=hA0
 rw[Tryz.params3]at hA hval
 obtain⟨v0,r0,d0,e0,p0,q0,ha,rfl,rfl,h0,hA⟩:=trodAll_cons hA
 obtain⟨v1,r1,d1,e1,p1,q1,rfl,rfl,rfl,h1,hA⟩:=trodAll_cons hA
 obtain⟨rfl,rfl,rfl⟩:=trodAll_nil hA
 have ha':args= #[v0,v1]:=by cases args;simp_all
 subst ha'
 obtain⟨xs0,rfl,o0,c0⟩:=open_leaf lfx9 ag9 sz9 (hval 0 9 v0 rfl rfl) h0
 obtain⟨l0,rfl,k0⟩:=leafS o0 c0
 obtain⟨xs1,rfl,o1,c1⟩:=open_leaf lfx5 ag5 sz5 (hval 1 5 v1 rfl rfl) h1
 obtain⟨x1,rfl⟩:=leafI o1
 have b1:0≤x1∧x1≤255:=c1
 have hE:laidMetH Tryz.prog [("strconv.ErrRange",Rows.laid_strconv_ErrRange)] W:=(show(Rows.diagramOrderRow.laid.filter (fun p=>p.1== "strconv.ErrRange"))=[("strconv.ErrRange",Rows.laid_strconv_ErrRange)] by kernel_rfl)▸hL.filter (fun p=>p.1== "strconv.ErrRange")
 have hS:laidMetH Tryz.prog [("strings.asciiSpace",Rows.laid_strings_asciiSpace)] W:=(show(Rows.diagramOrderRow.laid.filter (fun p=>p.1== "strings.asciiSpace"))=[("strings.asciiSpace",Rows.laid_strings_asciiSpace)] by kernel_rfl)▸hL.filter (fun p=>p.1== "strings.asciiSpace")
 refine(CallX.callsH (Fx.sorted_ (er_of hE) (sp_of hS) l0 x1 b1)).mono fun e W' ⟨he,hb⟩=>?_
 subst he
 refine⟨_,rfl,law_post (tb:=4) laidOut ?_ (by kernel_rfl) Tryz.underlying4 rfl hW' rfl hb⟩
 rw[Tryz.params3]
 intro t ht
 simp only[List.mem_cons,List.not_mem_nil,or_false]at ht
 rcases ht with rfl|rfl
 ·exact rdb9
 ·exact rdb5
theorem diagramOrder_holds:Rows.DiagramOrderSaid:=
 OpenClaim.holds_of_wide 3 Tryz.f3 rfl rfl rfl rfl rfl rfl rfl ⟨rfl,rfl,rfl,rfl,rfl⟩ rfl rfl rfl rfl rfl ffn Tryz.func3 closedF
  (of_decide_eq_true (by kernel_rfl)) (by unfold Func.isWrapper;first|(rw[if_pos (by decide+kernel)];kernel_rfl)|(rw[if_neg (by decide+kernel)];exact⟨rfl,rfl⟩))
  (fun os started H enc _=>diagramOrder_lifted os started H enc)
theorem diagramOrder_card:Rows.DiagramOrderCardSaid:=
 Claim7.holds_tied_plain_at .later [] [.data,.data,.data,.data,.sentinel,.sentinel,.listed,.data,.pinned] true (true,"0b6ddabf7654c0ddcdcd670975a67c572cc1ac03156ddf7d14c8e7ba494423dd") true diagramOrder_holds (fun _ h=>by cases h) fwf (fun _ h=>by cases h) diagramOrder_row_tie rfl ⟨rfl,rfl⟩ fmi rfl
  (fun f fn hf hfn=>by
   obtain rfl:f=3:=(Option.some.inj (ffn.symm.trans hf)).symm
   obtain rfl:fn=Tryz.f3:=(Option.some.inj (Tryz.func3.symm.trans hfn)).symm
   exact⟨flk,fun j t ht=>by
    rw[Tryz.params3]at ht
    have hm:t∈[9,5]:=by simpa using Array.mem_of_getElem? ht
    have hall:([9,5].all fun u=> !Tryz.prog.wantsStandIn u)=true:=by kernel_rfl
    exact(show Tryz.prog.wantsStandIn t=false by simpa using List.all_eq_true.1 hall t hm)⟩)
  fgo
#print axioms diagramOrder_card
end Go.Proofs.YtlnpgbnhcondjaaGreatDoor
