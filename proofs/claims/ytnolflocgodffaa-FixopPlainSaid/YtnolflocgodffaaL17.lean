/- FixopPlain: for every input the law answers true and the arguments read as before. No condition. -/
import Derived.Test.YtnolflocgodffaaE3
import Derived.Test.YtnolflocgodffaaJn
import Derived.Test.YtnolflocgodffaaJp
namespace Go.Proofs.Ytnolflocgodffaa
open Go.ChangeShapes Go.WideShapes Go.ChangeAt Go.RowKit
open Vg Tf
set_option linter.unusedSimpArgs false
set_option linter.unusedVariables false
set_option maxRecDepth 100000
theorem rdb21 : Try.prog.readableRec 21 = true ∧ 21 < Try.prog.types.size := ⟨by kernel_rfl, by decide +kernel⟩
theorem lfx21 : lfOf Try.prog 20 21 = some [.i .i32] := by kernel_rfl
theorem rdb5 : Try.prog.readableRec 5 = true ∧ 5 < Try.prog.types.size := ⟨by kernel_rfl, by decide +kernel⟩
theorem lfx5 : lfOf Try.prog 20 5 = some [.i .u8] := by kernel_rfl
theorem rdb4 : Try.prog.readableRec 4 = true ∧ 4 < Try.prog.types.size := ⟨by kernel_rfl, by decide +kernel⟩
theorem lfx4 : lfOf Try.prog 20 4 = some [.b] := by kernel_rfl
theorem fixopPlain_lifted (os : Os) (started : os.Started) (H : Type) (enc : TypeId × Value → H) :
    ReturnsInHanded {} Try.checked os 17 .any (Rows.fixopPlainSpec.pre6 enc Try.prog Try.f17 Rows.fixopPlainRow.domain false) (Rows.fixopPlainSpec.post enc Try.prog Try.f17 false true false false) := by
  refine returnsInHanded_of_change (C := Try.checked) own started (by kernel_rfl) Try.func17
    (ChangeSpec.witness6 (enc := enc) (C := Try.checked) false ⟨#[], #[.int .i32 0, .int .i32 0, .int .u8 0, .int .u8 0, .bool false], []⟩ 8 (by kernel_rfl) (by kernel_rfl) (by kernel_rfl) (by kernel_rfl)) ?_
  intro W base args ds gs before hval0 hW hcnd _
  have hval : ∀ (j : Nat) t v, Try.f17.params[j]? = some t → args[j]? = some v → Value.okWide Try.prog W .any base t v := hval0
  have hW' := hW
  obtain ⟨p, q, hA0, hV, rfl, hfz, hnd⟩ := hW
  have hA : DataW.TrodAll enc Try.prog W 0 (fun _ => true) true Try.f17.params.toList args.toList ds p := hA0
  rw [Try.params17] at hA hval
  obtain ⟨v0, r0, d0, e0, p0, q0, ha, rfl, rfl, h0, hA⟩ := trodAll_cons hA
  obtain ⟨v1, r1, d1, e1, p1, q1, rfl, rfl, rfl, h1, hA⟩ := trodAll_cons hA
  obtain ⟨v2, r2, d2, e2, p2, q2, rfl, rfl, rfl, h2, hA⟩ := trodAll_cons hA
  obtain ⟨v3, r3, d3, e3, p3, q3, rfl, rfl, rfl, h3, hA⟩ := trodAll_cons hA
  obtain ⟨v4, r4, d4, e4, p4, q4, rfl, rfl, rfl, h4, hA⟩ := trodAll_cons hA
  obtain ⟨rfl, rfl, rfl⟩ := trodAll_nil hA
  have ha' : args = #[v0, v1, v2, v3, v4] := by cases args; simp_all
  subst ha'
  obtain ⟨xs0, rfl, o0, c0⟩ := open_leaf lfx21 ag21 sz21 (hval 0 21 v0 rfl rfl) h0
  obtain ⟨x0, rfl⟩ := leafI o0
  have b0 : -2147483648 ≤ x0 ∧ x0 ≤ 2147483647 := c0
  obtain ⟨xs1, rfl, o1, c1⟩ := open_leaf lfx21 ag21 sz21 (hval 1 21 v1 rfl rfl) h1
  obtain ⟨x1, rfl⟩ := leafI o1
  have b1 : -2147483648 ≤ x1 ∧ x1 ≤ 2147483647 := c1
  obtain ⟨xs2, rfl, o2, c2⟩ := open_leaf lfx5 ag5 sz5 (hval 2 5 v2 rfl rfl) h2
  obtain ⟨x2, rfl⟩ := leafI o2
  have b2 : 0 ≤ x2 ∧ x2 ≤ 255 := c2
  obtain ⟨xs3, rfl, o3, c3⟩ := open_leaf lfx5 ag5 sz5 (hval 3 5 v3 rfl rfl) h3
  obtain ⟨x3, rfl⟩ := leafI o3
  have b3 : 0 ≤ x3 ∧ x3 ≤ 255 := c3
  obtain ⟨xs4, rfl, o4, c4⟩ := open_leaf lfx4 ag4 sz4 (hval 4 4 v4 rfl rfl) h4
  obtain ⟨x4, rfl⟩ := leafB o4
  refine (CallOk.calls (law_plain x0 x1 x2 x3 x4 b0 b1 b2 b3) W).mono fun e W' ⟨he, hb⟩ => ?_
  subst he
  refine ⟨_, rfl, law_post (tb := 4) laidOut ?_ (by kernel_rfl) Try.underlying4 rfl hW' rfl hb⟩
  rw [Try.params17]
  intro t ht
  simp only [List.mem_cons, List.not_mem_nil, or_false] at ht
  rcases ht with rfl | rfl | rfl | rfl | rfl
  · exact rdb21
  · exact rdb21
  · exact rdb5
  · exact rdb5
  · exact rdb4
theorem fixopPlain_holds : Rows.FixopPlainSaid :=
  OpenClaim.holds_of_wide 17 Try.f17 rfl rfl rfl rfl rfl rfl rfl ⟨rfl, rfl, rfl, rfl, rfl⟩ rfl rfl rfl rfl rfl (by kernel_rfl) Try.func17 (by kernel_rfl)
    (of_decide_eq_true (by kernel_rfl)) (by unfold Func.isWrapper; first | (rw [if_pos (by decide +kernel)]; kernel_rfl) | (rw [if_neg (by decide +kernel)]; exact ⟨rfl, rfl⟩))
    (fun os started H enc _ => fixopPlain_lifted os started H enc)
#print axioms fixopPlain_holds
end Go.Proofs.Ytnolflocgodffaa
