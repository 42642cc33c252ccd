/- FixopOver: for every input the law answers true and the arguments read as before. No condition. -/
import Derived.Test.YtnolflocgodffaaI8
import Derived.Test.YtnolflocgodffaaJn
import Derived.Test.YtnolflocgodffaaJp
namespace Go.Proofs.Ytnolflocgodffaa
open Go.ChangeShapes Go.WideShapes Go.ChangeAt Go.RowKit
open Vg Tf
set_option linter.unusedSimpArgs false
set_option linter.unusedVariables false
set_option maxRecDepth 100000
theorem rdb3 : Try.prog.readableRec 3 = true ∧ 3 < Try.prog.types.size := ⟨by kernel_rfl, by decide +kernel⟩
theorem lfx3 : lfOf Try.prog 20 3 = some [.i .i64] := by kernel_rfl
theorem rdb35 : Try.prog.readableRec 35 = true ∧ 35 < Try.prog.types.size := ⟨by kernel_rfl, by decide +kernel⟩
theorem rdb25 : Try.prog.readableRec 25 = true ∧ 25 < Try.prog.types.size := ⟨by kernel_rfl, by decide +kernel⟩
theorem fixopOver_lifted (os : Os) (started : os.Started) (H : Type) (enc : TypeId × Value → H) :
    ReturnsInHanded {} Try.checked os 5 .any (Rows.fixopOverSpec.pre6 enc Try.prog Try.f5 Rows.fixopOverRow.domain false) (Rows.fixopOverSpec.post enc Try.prog Try.f5 false true false false) := by
  refine returnsInHanded_of_change (C := Try.checked) own started (by kernel_rfl) Try.func5
    (ChangeSpec.witness6 (enc := enc) (C := Try.checked) false ⟨#[], #[.int .i64 0, .agg #[.int .i64 0, .int .i64 0], .agg #[.int .i64 0, .int .i64 0], .agg #[.int .i64 0, .bool false, .int .i64 0, .int .i64 0, .int .i64 0, .int .i64 0, .int .i64 0, .int .i64 0, .int .i64 0, .int .i64 0], .agg #[.int .i64 0, .bool false, .int .i64 0, .int .i64 0, .int .i64 0, .int .i64 0, .int .i64 0, .int .i64 0, .int .i64 0, .int .i64 0], .agg #[.int .i64 0, .bool false, .int .i64 0, .int .i64 0, .int .i64 0, .int .i64 0, .int .i64 0, .int .i64 0, .int .i64 0, .int .i64 0]], []⟩ 8 (by kernel_rfl) (by kernel_rfl) (by kernel_rfl) (by kernel_rfl)) ?_
  intro W base args ds gs before hval0 hW hcnd _
  have hval : ∀ (j : Nat) t v, Try.f5.params[j]? = some t → args[j]? = some v → Value.okWide Try.prog W .any base t v := hval0
  have hW' := hW
  obtain ⟨p, q, hA0, hV, rfl, hfz, hnd⟩ := hW
  have hA : DataW.TrodAll enc Try.prog W 0 (fun _ => true) true Try.f5.params.toList args.toList ds p := hA0
  rw [Try.params5] at hA hval
  obtain ⟨v0, r0, d0, e0, p0, q0, ha, rfl, rfl, h0, hA⟩ := trodAll_cons hA
  obtain ⟨v1, r1, d1, e1, p1, q1, rfl, rfl, rfl, h1, hA⟩ := trodAll_cons hA
  obtain ⟨v2, r2, d2, e2, p2, q2, rfl, rfl, rfl, h2, hA⟩ := trodAll_cons hA
  obtain ⟨v3, r3, d3, e3, p3, q3, rfl, rfl, rfl, h3, hA⟩ := trodAll_cons hA
  obtain ⟨v4, r4, d4, e4, p4, q4, rfl, rfl, rfl, h4, hA⟩ := trodAll_cons hA
  obtain ⟨v5, r5, d5, e5, p5, q5, rfl, rfl, rfl, h5, hA⟩ := trodAll_cons hA
  obtain ⟨rfl, rfl, rfl⟩ := trodAll_nil hA
  have ha' : args = #[v0, v1, v2, v3, v4, v5] := by cases args; simp_all
  subst ha'
  obtain ⟨xs0, rfl, o0, c0⟩ := open_leaf lfx3 ag3 sz3 (hval 0 3 v0 rfl rfl) h0
  obtain ⟨x0, rfl⟩ := leafI o0
  have b0 : -9223372036854775808 ≤ x0 ∧ x0 ≤ 9223372036854775807 := c0
  obtain ⟨xs1, rfl, o1, c1⟩ := open_agg lf35 ag35 sz35 (hval 1 35 v1 rfl rfl) h1
  obtain ⟨n1, m1, rfl⟩ := okR o1
  have b1 := bdR c1
  obtain ⟨xs2, rfl, o2, c2⟩ := open_agg lf35 ag35 sz35 (hval 2 35 v2 rfl rfl) h2
  obtain ⟨n2, m2, rfl⟩ := okR o2
  have b2 := bdR c2
  obtain ⟨xs3, rfl, o3, c3⟩ := open_agg lf25 ag25 sz25 (hval 3 25 v3 rfl rfl) h3
  obtain ⟨t3, rfl⟩ := okF o3
  obtain ⟨xs4, rfl, o4, c4⟩ := open_agg lf25 ag25 sz25 (hval 4 25 v4 rfl rfl) h4
  obtain ⟨t4, rfl⟩ := okF o4
  obtain ⟨xs5, rfl, o5, c5⟩ := open_agg lf25 ag25 sz25 (hval 5 25 v5 rfl rfl) h5
  obtain ⟨t5, rfl⟩ := okF o5
  refine (CallOk.calls (law_over x0 n1 m1 n2 m2 t3 t4 t5) W).mono fun e W' ⟨he, hb⟩ => ?_
  subst he
  refine ⟨_, rfl, law_post (tb := 4) laidOut ?_ (by kernel_rfl) Try.underlying4 rfl hW' rfl hb⟩
  rw [Try.params5]
  intro t ht
  simp only [List.mem_cons, List.not_mem_nil, or_false] at ht
  rcases ht with rfl | rfl | rfl | rfl | rfl | rfl
  · exact rdb3
  · exact rdb35
  · exact rdb35
  · exact rdb25
  · exact rdb25
  · exact rdb25
theorem fixopOver_holds : Rows.FixopOverSaid :=
  OpenClaim.holds_of_wide 5 Try.f5 rfl rfl rfl rfl rfl rfl rfl ⟨rfl, rfl, rfl, rfl, rfl⟩ rfl rfl rfl rfl rfl (by kernel_rfl) Try.func5 (by kernel_rfl)
    (of_decide_eq_true (by kernel_rfl)) (by unfold Func.isWrapper; first | (rw [if_pos (by decide +kernel)]; kernel_rfl) | (rw [if_neg (by decide +kernel)]; exact ⟨rfl, rfl⟩))
    (fun os started H enc _ => fixopOver_lifted os started H enc)
#print axioms fixopOver_holds
end Go.Proofs.Ytnolflocgodffaa
