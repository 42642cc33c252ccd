/-  -/
import Derived.Test.YtlnpgbnhcondjaaGreatDoorTf
import Derived.Test.YtlnpgbnhcondjaaGreatDoorKG11
import Derived.Test.YtlnpgbnhcondjaaGreatDoorRows
import Derived.Test.YtlnpgbnhcondjaaGreatDoorTie
import Derived.Test.YtlnpgbnhcondjaaGreatDoorCards
import Derived.LaidMore
import Derived.Lay
import Derived.SevenTiedAt
import Derived.Stop.Joined
namespace Go.Proofs.YtlnpgbnhcondjaaGreatDoor
open Go.ChangeShapes Go.WideShapes Go.ChangeAt Go.RowKit
open Vg Tf Fx
set_option linter.unusedSimpArgs false
set_option linter.unusedVariables false
set_option maxRecDepth 100000
theorem rdb30:Tryz.prog.readableRec 30=true∧30<Tryz.prog.types.size:=⟨by kernel_rfl,by decide+kernel⟩
theorem rdb9:Tryz.prog.readableRec 9=true∧9<Tryz.prog.types.size:=⟨by kernel_rfl,by decide+kernel⟩
theorem lfx9:lfOf Tryz.prog 20 9=some [.s]:=by kernel_rfl
theorem diagramBack_lifted (os:Os)(started:os.Started)(H:Type)(enc:TypeId×Value→H):
  ReturnsInHanded {} Tryz.checked os 11 .any (fun w args=>(Rows.diagramBackSpec.pre enc Tryz.prog Tryz.f11 Rows.diagramBackRow.domain false w args∧laidMetH Tryz.prog Rows.diagramBackRow.laid w)∧sizedMet enc Tryz.prog Tryz.f11 (OpenSpec.ofChange Rows.diagramBackSpec) false w args) (Rows.diagramBackSpec.post enc Tryz.prog Tryz.f11 false true false false):=by
 refine returnsInHanded_of_change_and (C:=Tryz.checked) (X:=fun w _=>laidMetH Tryz.prog Rows.diagramBackRow.laid w) (fun _ _ _ hh h=>h.of_heap hh) own started (by kernel_rfl) Tryz.func11
  (ChangeSpec.witness_shaped (enc:=enc) (C:=Tryz.checked) (os:=os) (X:=fun w _=>laidMetH Tryz.prog Rows.diagramBackRow.laid w) false (World.laidAll Tryz.prog os Rows.diagramBackRow.laid) #[.agg #[.string ⟨#[]⟩,.slice none 0 0,.slice none 0 0,.slice none 0 0,.slice none 0 0,.slice none 0 0,.slice none 0 0],.string ⟨#[]⟩] 8 (World.laidAll_os _ _ _)
   (World.shaped_of_ZipB (by kernel_rfl) (by kernel_rfl)) (by kernel_rfl) (by kernel_rfl) (by kernel_rfl)
   (by rw[MakeChecks.laidMetH_plain _ _ _ (by kernel_rfl)];exact laidMet_laidAll _ (by kernel_rfl) (by kernel_rfl))) ?_
 intro W base args ds gs before hval0 hW hcnd hsz hL _
 have hval:∀(j:Nat) t v,Tryz.f11.params[j]?=some t→args[j]?=some v→Value.okWide Tryz.prog W .any base t v:=hval0
 have hW':=hW
 obtain⟨p,q,hA0,hV,rfl,hfz,hnd⟩:=hW
 have hA:DataW.TrodAll enc Tryz.prog W 0 (fun _=>true) true Tryz.f11.params.toList args.toList ds p:=hA0
 rw[Tryz.params11]at hA hval
 obtain⟨v0,r0,d0,e0,p0,q0,ha,rfl,rfl,h0,hA⟩:=trodAll_cons hA
 obtain⟨v1,r1,d1,e1,p1,q1,rfl,rfl,rfl,h1,hA⟩:=trodAll_cons hA
 obtain⟨rfl,rfl,rfl⟩:=trodAll_nil hA
 have ha':args= #[v0,v1]:=by cases args;simp_all
 subst ha'
 have hw0:∀n∈d0.weights Tryz.prog 30,n≤reachBytes:=fun n hn=>of_decide_eq_true (List.all_eq_true.1 hsz n (DataW.weights_mem_each (j:=0) (by first|rfl|(rw[Tryz.params11];rfl)) rfl n hn))
 obtain⟨D0,rfl,k0,s0⟩:=Fx.open_dg (hval 0 30 v0 rfl rfl) h0 hw0
 obtain⟨xs1,rfl,o1,c1⟩:=open_leaf lfx9 ag9 sz9 (hval 1 9 v1 rfl rfl) h1
 obtain⟨l1,rfl,k1⟩:=leafS o1 c1
 have hE:laidMetH Tryz.prog [("strconv.ErrRange",Rows.laid_strconv_ErrRange)] W:=(show(Rows.diagramBackRow.laid.filter (fun p=>p.1== "strconv.ErrRange"))=[("strconv.ErrRange",Rows.laid_strconv_ErrRange)] by kernel_rfl)▸hL.filter (fun p=>p.1== "strconv.ErrRange")
 have hP:laidMetH Tryz.prog [("internal/strconv.uint64pow10",Rows.laid_internal_strconv_uint64pow10)] W:=(show(Rows.diagramBackRow.laid.filter (fun p=>p.1== "internal/strconv.uint64pow10"))=[("internal/strconv.uint64pow10",Rows.laid_internal_strconv_uint64pow10)] by kernel_rfl)▸hL.filter (fun p=>p.1== "internal/strconv.uint64pow10")
 refine(CallX.callsH (Fx.back_ (er_of hE) (pow_of hP) D0 k0 s0 l1)).mono fun e W' ⟨he,hb⟩=>?_
 subst he
 refine⟨_,rfl,law_post (tb:=4) laidOut ?_ (by kernel_rfl) Tryz.underlying4 rfl hW' rfl hb⟩
 rw[Tryz.params11]
 intro t ht
 simp only[List.mem_cons,List.not_mem_nil,or_false]at ht
 rcases ht with rfl|rfl
 ·exact rdb30
 ·exact rdb9
theorem diagramBack_holds:Rows.DiagramBackSaid:=
 OpenClaim.holds_of_wide 11 Tryz.f11 rfl rfl rfl rfl rfl rfl rfl ⟨rfl,rfl,rfl,rfl,rfl⟩ rfl rfl rfl rfl rfl ffn Tryz.func11 closedF
  (of_decide_eq_true (by kernel_rfl)) (by unfold Func.isWrapper;first|(rw[if_pos (by decide+kernel)];kernel_rfl)|(rw[if_neg (by decide+kernel)];exact⟨rfl,rfl⟩))
  (fun os started H enc _=>diagramBack_lifted os started H enc)
theorem diagramBack_card:Rows.DiagramBackCardSaid:=
 Claim7.holds_tied_plain_at .later [] [.data,.data,.data,.data,.sentinel,.sentinel,.pinned] true (true,"0b6ddabf7654c0ddcdcd670975a67c572cc1ac03156ddf7d14c8e7ba494423dd") true diagramBack_holds (fun _ h=>by cases h) fwf (fun _ h=>by cases h) diagramBack_row_tie rfl ⟨rfl,rfl⟩ fmi rfl
  (fun f fn hf hfn=>by
   obtain rfl:f=11:=(Option.some.inj (ffn.symm.trans hf)).symm
   obtain rfl:fn=Tryz.f11:=(Option.some.inj (Tryz.func11.symm.trans hfn)).symm
   exact⟨flk,fun j t ht=>by
    rw[Tryz.params11]at ht
    have hm:t∈[30,9]:=by simpa using Array.mem_of_getElem? ht
    have hall:([30,9].all fun u=> !Tryz.prog.wantsStandIn u)=true:=by kernel_rfl
    exact(show Tryz.prog.wantsStandIn t=false by simpa using List.all_eq_true.1 hall t hm)⟩)
  fgo
#print axioms diagramBack_card
end Go.Proofs.YtlnpgbnhcondjaaGreatDoor
