/-  -/
import Derived.Test.YtkciabfilokfiaaGreatK5
import Derived.Test.YtkciabfilokfiaaGreatRows
set_option linter.unusedSimpArgs false
set_option linter.unusedVariables false
set_option maxRecDepth 100000
namespace Go.Proofs.YtkciabfilokfiaaGreat
open Go.ChangeShapes Go.WideShapes Go.ChangeAt Go.RowKit
open Vg Tf
theorem UI:Tryz.prog.readableRec 29=true/\29<Tryz.prog.types.size:=⟨by kernel_rfl,by decide+kernel⟩
theorem sR (os:Os)(started:os.Started)(H:Type)(enc:TypeId×Value->H):
  ReturnsInHanded {} Tryz.checked os 5 .any (Rows.checkDiagramsSpec.pre6 enc Tryz.prog Tryz.f5 Rows.checkDiagramsRow.domain false) (Rows.checkDiagramsSpec.post enc Tryz.prog Tryz.f5 false true false false):=by
 refine returnsInHanded_of_change_sized (C:=Tryz.checked) own started (by kernel_rfl) Tryz.func5
  (ChangeSpec.witness6 (enc:=enc) (C:=Tryz.checked) false ⟨#[],#[.agg #[.string ⟨#[]⟩,.slice none 0 0,.slice none 0 0,.slice none 0 0,.slice none 0 0,.slice none 0 0,.slice none 0 0]],[]⟩ 8 (by kernel_rfl) (by kernel_rfl) (by kernel_rfl) (by kernel_rfl)) ?_
 intro W base args ds gs before hval0 hW hcnd hsz _
 have hval:∀(j:Nat) t v,Tryz.f5.params[j]?=some t->args[j]?=some v->Value.okWide Tryz.prog W .any base t v:=hval0
 have hW':=hW
 obtain⟨p,q,hA0,hV,rfl,hfz,hnd⟩:=hW
 have hA:DataW.TrodAll enc Tryz.prog W 0 (fun _=>true) true Tryz.f5.params.toList args.toList ds p:=hA0
 rw[Tryz.params5]at hA hval
 obtain⟨v0,r0,d0,e0,p0,q0,ha,rfl,rfl,h0,hA⟩:=trodAll_cons hA
 obtain⟨rfl,rfl,rfl⟩:=trodAll_nil hA
 have ha':args= #[v0]:=by cases args;simp_all
 subst ha'
 have hw0:∀n∈d0.weights Tryz.prog 29,n<=reachBytes:=fun n hn=>of_decide_eq_true (JI.1 hsz n (DataW.weights_mem_each (j:=0) (by first|rfl|(rw[Tryz.params5];rfl)) rfl n hn))
 obtain⟨D0,rfl,k0,s0⟩:=Fx.open_dg (hval 0 29 v0 rfl rfl) h0 hw0
 refine(kZ (W:=W) (Fx.diagrams_ D0 k0 s0 Fx.awake_)).mono fun e W' ⟨he,hb⟩=>?_
 subst he
 refine⟨_,rfl,aC (tb:=4) YR ?_ (by kernel_rfl) Tryz.underlying4 rfl hW' rfl hb⟩
 rw[Tryz.params5]
 intro t ht
 simp only[JZ,IN,or_false]at ht
 subst ht
 exact UI
theorem KA:Tryz.pinned.checked.prog.inPlace 5=["math/bits.Add64"]:=by kernel_rfl
theorem Lv:Tryz.pinned.checked.prog.unfollowed 5=true:=by kernel_rfl
theorem Lx:Tryz.pinned.checked.prog.recurses 5=true:=by kernel_rfl
theorem Lu:Tryz.pinned.checked.prog.varsNamed 5=["math/bits.divideError","math/bits.overflowError"]:=by kernel_rfl
theorem Yj:joinedFacts Tryz.pinned.checked.prog 5 Tryz.f5 Rows.checkDiagramsSpec Rows.checkDiagramsRow=true:=by
 unfold joinedFacts
 rw[KA,Lv,Lx,Lu,Ly,tC,Lw,Lz]
 kernel_rfl
theorem checkDiagrams_holds:Rows.CheckDiagramsSaid:=
 OpenClaim.holds_of_wide 5 Tryz.f5 rfl rfl rfl rfl rfl rfl rfl ⟨rfl,rfl,rfl,rfl,rfl⟩ rfl rfl rfl rfl rfl (by kernel_rfl) Tryz.func5 Yj
  (of_decide_eq_true (by kernel_rfl)) (by unfold Func.isWrapper;first|(rw[if_pos (by decide+kernel)];kernel_rfl)|(rw[if_neg (by decide+kernel)];exact⟨rfl,rfl⟩))
  (fun os started H enc _=>sR os started H enc)
#print axioms checkDiagrams_holds
end Go.Proofs.YtkciabfilokfiaaGreat
