/-  -/
import Derived.Test.YtbnkiacicnnmkaaGreatK5
import Derived.Test.YtbnkiacicnnmkaaGreatRows
set_option linter.unusedSimpArgs false
set_option linter.unusedVariables false
set_option maxRecDepth 100000
namespace Go.Proofs.YtbnkiacicnnmkaaGreat
open Go.ChangeShapes Go.WideShapes Go.ChangeAt Go.RowKit
open Vg Tf
theorem Yd:Tryz.prog.readableRec 28=true/\28<Tryz.prog.types.size:=⟨by kernel_rfl,by decide+kernel⟩
theorem uy (os:Os)(started:os.Started)(H:Type)(enc:TypeId×Value->H):
  ReturnsInHanded {} Tryz.checked os 3 .any (Rows.codegenAliveSpec.pre6 enc Tryz.prog Tryz.f3 Rows.codegenAliveRow.domain false) (Rows.codegenAliveSpec.post enc Tryz.prog Tryz.f3 false true false false):=by
 refine returnsInHanded_of_change_sized (C:=Tryz.checked) own started (by kernel_rfl) Tryz.func3
  (ChangeSpec.witness6 (enc:=enc) (C:=Tryz.checked) false ⟨#[],#[.agg #[.slice none 0 0,.slice none 0 0,.slice none 0 0,.slice none 0 0,.int .i64 0,.slice none 0 0,.slice none 0 0,.slice none 0 0,.slice none 0 0]],[]⟩ 8 (by kernel_rfl) (by kernel_rfl) (by kernel_rfl) (by kernel_rfl)) ?_
 intro W base args ds gs before hval0 hW hcnd hsz _
 have hval:∀(j:Nat) t v,Tryz.f3.params[j]?=some t->args[j]?=some v->Value.okWide Tryz.prog W .any base t v:=hval0
 have hW':=hW
 obtain⟨p,q,hA0,hV,rfl,hfz,hnd⟩:=hW
 have hA:DataW.TrodAll enc Tryz.prog W 0 (fun _=>true) true Tryz.f3.params.toList args.toList ds p:=hA0
 rw[Tryz.params3]at hA hval
 obtain⟨v0,r0,d0,e0,p0,q0,ha,rfl,rfl,h0,hA⟩:=trodAll_cons hA
 obtain⟨rfl,rfl,rfl⟩:=trodAll_nil hA
 have ha':args= #[v0]:=by cases args;simp_all
 subst ha'
 have hw0:∀n∈d0.weights Tryz.prog 28,n<=reachBytes:=fun n hn=>of_decide_eq_true (Nr.1 hsz n (DataW.weights_mem_each (j:=0) (by first|rfl|(rw[Tryz.params3];rfl)) rfl n hn))
 obtain⟨D0,rfl,k0,s0⟩:=Fx.open_pg (hval 0 28 v0 rfl rfl) h0 hw0
 refine(oN (W:=W) (Fx.calive_ D0 k0 s0 (Fx.awake14_ Fx.genOk_ Fx.newOk_ Fx.runOk_))).mono fun e W' ⟨he,hb⟩=>?_
 subst he
 refine⟨_,rfl,fB (tb:=4) dU ?_ (by kernel_rfl) Tryz.underlying4 rfl hW' rfl hb⟩
 rw[Tryz.params3]
 intro t ht
 simp only[MU,LQ,or_false]at ht
 subst ht
 exact Yd
theorem Ov:Tryz.pinned.checked.prog.inPlace 3=["math/bits.Add64","internal/bytealg.IndexByteString"]:=by kernel_rfl
theorem On:Tryz.pinned.checked.prog.unfollowed 3=true:=by kernel_rfl
theorem Oq:Tryz.pinned.checked.prog.recurses 3=true:=by kernel_rfl
theorem Om:Tryz.pinned.checked.prog.varsNamed 3=["math/bits.divideError","math/bits.overflowError"]:=by kernel_rfl
theorem dj:joinedFacts Tryz.pinned.checked.prog 3 Tryz.f3 Rows.codegenAliveSpec Rows.codegenAliveRow=true:=by
 unfold joinedFacts
 rw[Ov,On,Oq,Om,Ot,qh,Oo,Ou]
 kernel_rfl
theorem codegenAlive_holds:Rows.CodegenAliveSaid:=
 OpenClaim.holds_of_wide 3 Tryz.f3 rfl rfl rfl rfl rfl rfl rfl ⟨rfl,rfl,rfl,rfl,rfl⟩ rfl rfl rfl rfl rfl (by kernel_rfl) Tryz.func3 dj
  (of_decide_eq_true (by kernel_rfl)) (by unfold Func.isWrapper;first|(rw[if_pos (by decide+kernel)];kernel_rfl)|(rw[if_neg (by decide+kernel)];exact⟨rfl,rfl⟩))
  (fun os started H enc _=>uy os started H enc)
#print axioms codegenAlive_holds
end Go.Proofs.YtbnkiacicnnmkaaGreat
