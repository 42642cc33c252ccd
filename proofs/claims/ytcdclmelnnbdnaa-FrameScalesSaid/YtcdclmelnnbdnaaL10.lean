/- FrameScales: for every input the law answers true and the arguments read as before. No condition. -/
import Derived.Test.YtcdclmelnnbdnaaD2
import Derived.Test.YtcdclmelnnbdnaaK3
import Derived.Test.YtcdclmelnnbdnaaRows
namespace Go.Proofs.Ytcdclmelnnbdnaa
open Go.ChangeShapes Go.WideShapes Go.ChangeAt Go.RowKit
open Vg Tf
set_option linter.unusedSimpArgs false
set_option linter.unusedVariables false
set_option maxRecDepth 100000
theorem rdb33 : Try.prog.readableRec 33 = true ∧ 33 < Try.prog.types.size := ⟨by kernel_rfl, by decide +kernel⟩
theorem rdb3 : Try.prog.readableRec 3 = true ∧ 3 < Try.prog.types.size := ⟨by kernel_rfl, by decide +kernel⟩
theorem lfx3 : lfOf Try.prog 20 3 = some [.i .i64] := by kernel_rfl
theorem rdb64 : Try.prog.readableRec 64 = true ∧ 64 < Try.prog.types.size := ⟨by kernel_rfl, by decide +kernel⟩
theorem frameScales_lifted (os : Os) (started : os.Started) (H : Type) (enc : TypeId × Value → H) :
    ReturnsInHanded {} Try.checked os 10 .any (Rows.frameScalesSpec.pre6 enc Try.prog Try.f10 Rows.frameScalesRow.domain false) (Rows.frameScalesSpec.post enc Try.prog Try.f10 false true false false) := by
  refine returnsInHanded_of_change (C := Try.checked) own started (by kernel_rfl) Try.func10
    (ChangeSpec.witness6 (enc := enc) (C := Try.checked) false ⟨#[], #[.agg #[.string ⟨#[]⟩, .int .i64 0, .int .i64 0, .bool false, .bool false, .int .i64 0, .int .i64 0, .int .i64 0, .int .i64 0, .int .i64 0], .int .i64 0, .agg #[.int .i64 0, .int .i64 0]], []⟩ 8 (by kernel_rfl) (by kernel_rfl) (by kernel_rfl) (by kernel_rfl)) ?_
  intro W base args ds gs before hval0 hW hcnd _
  have hval : ∀ (j : Nat) t v, Try.f10.params[j]? = some t → args[j]? = some v → Value.okWide Try.prog W .any base t v := hval0
  have hW' := hW
  obtain ⟨p, q, hA0, hV, rfl, hfz, hnd⟩ := hW
  have hA : DataW.TrodAll enc Try.prog W 0 (fun _ => true) true Try.f10.params.toList args.toList ds p := hA0
  rw [Try.params10] at hA hval
  obtain ⟨v0, r0, d0, e0, p0, q0, ha, rfl, rfl, h0, hA⟩ := trodAll_cons hA
  obtain ⟨v1, r1, d1, e1, p1, q1, rfl, rfl, rfl, h1, hA⟩ := trodAll_cons hA
  obtain ⟨v2, r2, d2, e2, p2, q2, rfl, rfl, rfl, h2, hA⟩ := trodAll_cons hA
  obtain ⟨rfl, rfl, rfl⟩ := trodAll_nil hA
  have ha' : args = #[v0, v1, v2] := by cases args; simp_all
  subst ha'
  obtain ⟨xs0, rfl, o0, c0⟩ := open_agg lf33 ag33 sz33 (hval 0 33 v0 rfl rfl) h0
  obtain ⟨s0, rfl⟩ := rowSg o0
  have b0 := bdSg c0
  obtain ⟨xs1, rfl, o1, c1⟩ := open_leaf lfx3 ag3 sz3 (hval 1 3 v1 rfl rfl) h1
  obtain ⟨x1, rfl⟩ := leafI o1
  have b1 : -9223372036854775808 ≤ x1 ∧ x1 ≤ 9223372036854775807 := c1
  obtain ⟨xs2, rfl, o2, c2⟩ := open_agg lf64 ag64 sz64 (hval 2 64 v2 rfl rfl) h2
  obtain ⟨n2, m2, rfl⟩ := okR o2
  have b2 := bdR c2
  refine (CallOk.calls (law_scales s0 b0 x1 n2 m2) W).mono fun e W' ⟨he, hb⟩ => ?_
  subst he
  refine ⟨_, rfl, law_post (tb := 4) laidOut ?_ (by kernel_rfl) Try.underlying4 rfl hW' rfl hb⟩
  rw [Try.params10]
  intro t ht
  simp only [List.mem_cons, List.not_mem_nil, or_false] at ht
  rcases ht with rfl | rfl | rfl
  · exact rdb33
  · exact rdb3
  · exact rdb64
theorem frameScales_holds : Rows.FrameScalesSaid :=
  OpenClaim.holds_of_wide 10 Try.f10 rfl rfl rfl rfl rfl rfl rfl ⟨rfl, rfl, rfl, rfl, rfl⟩ rfl rfl rfl rfl rfl (by kernel_rfl) Try.func10 (by kernel_rfl)
    (of_decide_eq_true (by kernel_rfl)) (by unfold Func.isWrapper; first | (rw [if_pos (by decide +kernel)]; kernel_rfl) | (rw [if_neg (by decide +kernel)]; exact ⟨rfl, rfl⟩))
    (fun os started H enc _ => frameScales_lifted os started H enc)
#print axioms frameScales_holds
end Go.Proofs.Ytcdclmelnnbdnaa
