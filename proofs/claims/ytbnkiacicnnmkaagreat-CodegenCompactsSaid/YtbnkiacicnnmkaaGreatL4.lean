/-  -/
import Derived.Test.YtbnkiacicnnmkaaGreatK5
import Derived.Test.YtbnkiacicnnmkaaGreatRows
set_option linter.unusedSimpArgs false
set_option linter.unusedVariables false
set_option maxRecDepth 100000
namespace Go.Proofs.YtbnkiacicnnmkaaGreat
open Go.ChangeShapes Go.WideShapes Go.ChangeAt Go.RowKit
open Vg Tf
theorem VI:Tryz.prog.readableRec 28=true/\28<Tryz.prog.types.size:=⟨by kernel_rfl,by decide+kernel⟩
theorem VJ:Tryz.prog.readableRec 26=true/\26<Tryz.prog.types.size:=⟨by kernel_rfl,by decide+kernel⟩
theorem VH:Tryz.prog.readableRec 38=true/\38<Tryz.prog.types.size:=⟨by kernel_rfl,by decide+kernel⟩
theorem uO (os:Os)(started:os.Started)(H:Type)(enc:TypeId×Value->H):
  ReturnsInHanded {} Tryz.checked os 4 .any (Rows.codegenCompactsSpec.pre6 enc Tryz.prog Tryz.f4 Rows.codegenCompactsRow.domain false) (Rows.codegenCompactsSpec.post enc Tryz.prog Tryz.f4 false true false false):=by
 refine returnsInHanded_of_change_sized (C:=Tryz.checked) own started (by kernel_rfl) Tryz.func4
  (ChangeSpec.witness6 (enc:=enc) (C:=Tryz.checked) false ⟨#[],#[.agg #[.slice none 0 0,.slice none 0 0,.slice none 0 0,.slice none 0 0,.int .i64 0,.slice none 0 0,.slice none 0 0,.slice none 0 0,.slice none 0 0],.slice none 0 0,.slice none 0 0],[]⟩ 8 (by kernel_rfl) (by kernel_rfl) (by kernel_rfl) (by kernel_rfl)) ?_
 intro W base args ds gs before hval0 hW hcnd hsz _
 have hval:∀(j:Nat) t v,Tryz.f4.params[j]?=some t->args[j]?=some v->Value.okWide Tryz.prog W .any base t v:=hval0
 have hW':=hW
 obtain⟨p,q,hA0,hV,rfl,hfz,hnd⟩:=hW
 have hA:DataW.TrodAll enc Tryz.prog W 0 (fun _=>true) true Tryz.f4.params.toList args.toList ds p:=hA0
 rw[Tryz.params4]at hA hval
 obtain⟨v0,r0,d0,e0,p0,q0,ha,rfl,rfl,h0,hA⟩:=trodAll_cons hA
 obtain⟨v1,r1,d1,e1,p1,q1,rfl,rfl,rfl,h1,hA⟩:=trodAll_cons hA
 obtain⟨v2,r2,d2,e2,p2,q2,rfl,rfl,rfl,h2,hA⟩:=trodAll_cons hA
 obtain⟨rfl,rfl,rfl⟩:=trodAll_nil hA
 have ha':args= #[v0,v1,v2]:=by cases args;simp_all
 subst ha'
 have hw0:∀n∈d0.weights Tryz.prog 28,n<=reachBytes:=fun n hn=>of_decide_eq_true (JD.1 hsz n (DataW.weights_mem_each (j:=0) (by first|rfl|(rw[Tryz.params4];rfl)) rfl n hn))
 obtain⟨D0,rfl,k0,s0⟩:=Fx.open_pg (hval 0 28 v0 rfl rfl) h0 hw0
 have hw1:∀n∈d1.weights Tryz.prog 26,n<=reachBytes:=fun n hn=>of_decide_eq_true (JD.1 hsz n (DataW.weights_mem_each (j:=1) (by first|rfl|(rw[Tryz.params4];rfl)) rfl n hn))
 obtain⟨u1,l1,rfl,k1⟩:=Fx.open_is (hval 1 26 v1 rfl rfl) h1 hw1
 have hw2:∀n∈d2.weights Tryz.prog 38,n<=reachBytes:=fun n hn=>of_decide_eq_true (JD.1 hsz n (DataW.weights_mem_each (j:=2) (by first|rfl|(rw[Tryz.params4];rfl)) rfl n hn))
 obtain⟨u2,l2,rfl,k2,z2⟩:=Fx.open_zs (hval 2 38 v2 rfl rfl) h2 hw2
 refine(mH (W:=W) (Fx.ccmp_ D0 k0 s0 l1 u1 k1 l2 u2 k2 z2 (Fx.awake14_ Fx.genOk_ Fx.newOk_ Fx.runOk_))).mono fun e W' ⟨he,hb⟩=>?_
 subst he
 refine⟨_,rfl,dM (tb:=4) aS ?_ (by kernel_rfl) Tryz.underlying4 rfl hW' rfl hb⟩
 rw[Tryz.params4]
 intro t ht
 simp only[J3,IS,or_false]at ht
 rcases ht with rfl|rfl|rfl
 ·exact VI
 ·exact VJ
 ·exact VH
theorem KA:Tryz.pinned.checked.prog.inPlace 4=["math/bits.Add64","internal/bytealg.IndexByteString"]:=by kernel_rfl
theorem Lv:Tryz.pinned.checked.prog.unfollowed 4=true:=by kernel_rfl
theorem Lx:Tryz.pinned.checked.prog.recurses 4=true:=by kernel_rfl
theorem Lu:Tryz.pinned.checked.prog.varsNamed 4=["math/bits.divideError","math/bits.overflowError"]:=by kernel_rfl
theorem ZB:joinedFacts Tryz.pinned.checked.prog 4 Tryz.f4 Rows.codegenCompactsSpec Rows.codegenCompactsRow=true:=by
 unfold joinedFacts
 rw[KA,Lv,Lx,Lu,Ly,qT,Lw,Lz]
 kernel_rfl
theorem codegenCompacts_holds:Rows.CodegenCompactsSaid:=
 OpenClaim.holds_of_wide 4 Tryz.f4 rfl rfl rfl rfl rfl rfl rfl ⟨rfl,rfl,rfl,rfl,rfl⟩ rfl rfl rfl rfl rfl (by kernel_rfl) Tryz.func4 ZB
  (of_decide_eq_true (by kernel_rfl)) (by unfold Func.isWrapper;first|(rw[if_pos (by decide+kernel)];kernel_rfl)|(rw[if_neg (by decide+kernel)];exact⟨rfl,rfl⟩))
  (fun os started H enc _=>uO os started H enc)
#print axioms codegenCompacts_holds
end Go.Proofs.YtbnkiacicnnmkaaGreat
