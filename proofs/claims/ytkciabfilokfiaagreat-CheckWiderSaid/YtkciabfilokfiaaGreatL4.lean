/-  -/
import Derived.Test.YtkciabfilokfiaaGreatPS
import Derived.Test.YtkciabfilokfiaaGreatSO
import Derived.Test.YtkciabfilokfiaaGreatRS
import Derived.Test.YtkciabfilokfiaaGreatK5
import Derived.Test.YtkciabfilokfiaaGreatMB
import Derived.Test.YtkciabfilokfiaaGreatRows
namespace Go.Proofs.YtkciabfilokfiaaGreat
open Go.ChangeShapes Go.WideShapes Go.ChangeAt Go.RowKit
open Vg Tf
set_option linter.unusedSimpArgs false
set_option linter.unusedVariables false
set_option maxRecDepth 100000
theorem rdb29:Tryz.prog.readableRec 29=true∧29<Tryz.prog.types.size:=⟨by kernel_rfl,by decide+kernel⟩
theorem rdb54:Tryz.prog.readableRec 54=true∧54<Tryz.prog.types.size:=⟨by kernel_rfl,by decide+kernel⟩
theorem lfx54:lfOf Tryz.prog 20 54=some [.i .u16]:=by kernel_rfl
theorem checkWider_lifted (os:Os)(started:os.Started)(H:Type)(enc:TypeId×Value→H):
  ReturnsInHanded {} Tryz.checked os 4 .any (Rows.checkWiderSpec.pre6 enc Tryz.prog Tryz.f4 Rows.checkWiderRow.domain false) (Rows.checkWiderSpec.post enc Tryz.prog Tryz.f4 false true false false):=by
 refine returnsInHanded_of_change_sized (C:=Tryz.checked) own started (by kernel_rfl) Tryz.func4
  (ChangeSpec.witness6 (enc:=enc) (C:=Tryz.checked) false ⟨#[],#[.agg #[.string ⟨#[]⟩,.slice none 0 0,.slice none 0 0,.slice none 0 0,.slice none 0 0,.slice none 0 0,.slice none 0 0],.int .u16 0],[]⟩ 8 (by kernel_rfl) (by kernel_rfl) (by kernel_rfl) (by kernel_rfl)) ?_
 intro W base args ds gs before hval0 hW hcnd hsz _
 have hval:∀(j:Nat) t v,Tryz.f4.params[j]?=some t→args[j]?=some v→Value.okWide Tryz.prog W .any base t v:=hval0
 have hW':=hW
 obtain⟨p,q,hA0,hV,rfl,hfz,hnd⟩:=hW
 have hA:DataW.TrodAll enc Tryz.prog W 0 (fun _=>true) true Tryz.f4.params.toList args.toList ds p:=hA0
 rw[Tryz.params4]at hA hval
 obtain⟨v0,r0,d0,e0,p0,q0,ha,rfl,rfl,h0,hA⟩:=trodAll_cons hA
 obtain⟨v1,r1,d1,e1,p1,q1,rfl,rfl,rfl,h1,hA⟩:=trodAll_cons hA
 obtain⟨rfl,rfl,rfl⟩:=trodAll_nil hA
 have ha':args= #[v0,v1]:=by cases args;simp_all
 subst ha'
 have hw0:∀n∈d0.weights Tryz.prog 29,n≤reachBytes:=fun n hn=>of_decide_eq_true (List.all_eq_true.1 hsz n (DataW.weights_mem_each (j:=0) (by first|rfl|(rw[Tryz.params4];rfl)) rfl n hn))
 obtain⟨D0,rfl,k0,s0⟩:=Fx.open_dg (hval 0 29 v0 rfl rfl) h0 hw0
 obtain⟨xs1,rfl,o1,c1⟩:=open_leaf lfx54 ag54 sz54 (hval 1 54 v1 rfl rfl) h1
 obtain⟨x1,rfl⟩:=leafI o1
 have b1:0≤x1∧x1≤65535:=c1
 refine(CallX.callsH (W:=W) (Fx.wider_ D0 k0 s0 x1 b1 Fx.awake_)).mono fun e W' ⟨he,hb⟩=>?_
 subst he
 refine⟨_,rfl,law_post (tb:=4) laidOut ?_ (by kernel_rfl) Tryz.underlying4 rfl hW' rfl hb⟩
 rw[Tryz.params4]
 intro t ht
 simp only[List.mem_cons,List.not_mem_nil,or_false]at ht
 rcases ht with rfl|rfl
 ·exact rdb29
 ·exact rdb54
theorem fip:Tryz.pinned.checked.prog.inPlace 4=["math/bits.Add64"]:=by kernel_rfl
theorem fuf:Tryz.pinned.checked.prog.unfollowed 4=true:=by kernel_rfl
theorem frc:Tryz.pinned.checked.prog.recurses 4=true:=by kernel_rfl
theorem fvn:Tryz.pinned.checked.prog.varsNamed 4=["math/bits.divideError","math/bits.overflowError"]:=by kernel_rfl
theorem closedF:joinedFacts Tryz.pinned.checked.prog 4 Tryz.f4 Rows.checkWiderSpec Rows.checkWiderRow=true:=by
 unfold joinedFacts
 rw[fip,fuf,frc,fvn,fmr,flo,fsh,fme]
 kernel_rfl
theorem checkWider_holds:Rows.CheckWiderSaid:=
 OpenClaim.holds_of_wide 4 Tryz.f4 rfl rfl rfl rfl rfl rfl rfl ⟨rfl,rfl,rfl,rfl,rfl⟩ rfl rfl rfl rfl rfl (by kernel_rfl) Tryz.func4 closedF
  (of_decide_eq_true (by kernel_rfl)) (by unfold Func.isWrapper;first|(rw[if_pos (by decide+kernel)];kernel_rfl)|(rw[if_neg (by decide+kernel)];exact⟨rfl,rfl⟩))
  (fun os started H enc _=>checkWider_lifted os started H enc)
#print axioms checkWider_holds
end Go.Proofs.YtkciabfilokfiaaGreat
