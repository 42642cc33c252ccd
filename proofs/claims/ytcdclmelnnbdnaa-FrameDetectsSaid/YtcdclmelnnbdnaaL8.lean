/- FrameDetects: for every input the law answers true and the arguments read as before. No condition. -/
import Derived.Test.YtcdclmelnnbdnaaD1
import Derived.Test.YtcdclmelnnbdnaaK2
import Derived.Test.YtcdclmelnnbdnaaRows
namespace Go.Proofs.Ytcdclmelnnbdnaa
open Go.ChangeShapes Go.WideShapes Go.ChangeAt Go.RowKit
open Vg Tf
set_option linter.unusedSimpArgs false
set_option linter.unusedVariables false
set_option maxRecDepth 100000
theorem rdb53 : Try.prog.readableRec 53 = true ∧ 53 < Try.prog.types.size := ⟨by kernel_rfl, by decide +kernel⟩
theorem rdb24 : Try.prog.readableRec 24 = true ∧ 24 < Try.prog.types.size := ⟨by kernel_rfl, by decide +kernel⟩
theorem rdb28 : Try.prog.readableRec 28 = true ∧ 28 < Try.prog.types.size := ⟨by kernel_rfl, by decide +kernel⟩
theorem rdb5 : Try.prog.readableRec 5 = true ∧ 5 < Try.prog.types.size := ⟨by kernel_rfl, by decide +kernel⟩
theorem lfx5 : lfOf Try.prog 20 5 = some [.i .u8] := by kernel_rfl
theorem rdb60 : Try.prog.readableRec 60 = true ∧ 60 < Try.prog.types.size := ⟨by kernel_rfl, by decide +kernel⟩
theorem lfx60 : lfOf Try.prog 20 60 = some [.i .u16] := by kernel_rfl
theorem rdb4 : Try.prog.readableRec 4 = true ∧ 4 < Try.prog.types.size := ⟨by kernel_rfl, by decide +kernel⟩
theorem lfx4 : lfOf Try.prog 20 4 = some [.b] := by kernel_rfl
theorem frameDetects_lifted (os : Os) (started : os.Started) (H : Type) (enc : TypeId × Value → H) :
    ReturnsInHanded {} Try.checked os 8 .any (Rows.frameDetectsSpec.pre6 enc Try.prog Try.f8 Rows.frameDetectsRow.domain false) (Rows.frameDetectsSpec.post enc Try.prog Try.f8 false true false false) := by
  refine returnsInHanded_of_change (C := Try.checked) own started (by kernel_rfl) Try.func8
    (ChangeSpec.witness6 (enc := enc) (C := Try.checked) false ⟨#[], #[.agg #[.bool false, .int .i64 0, .int .i64 0, .int .i64 0], .agg #[.string ⟨#[]⟩, .int .i64 0, .int .i64 0, .bool false, .slice none 0 0], .slice none 0 0, .int .u8 0, .int .u16 0, .int .u8 0, .bool false], []⟩ 8 (by kernel_rfl) (by kernel_rfl) (by kernel_rfl) (by kernel_rfl)) ?_
  intro W base args ds gs before hval0 hW hcnd _
  have hval : ∀ (j : Nat) t v, Try.f8.params[j]? = some t → args[j]? = some v → Value.okWide Try.prog W .any base t v := hval0
  have hW' := hW
  obtain ⟨p, q, hA0, hV, rfl, hfz, hnd⟩ := hW
  have hA : DataW.TrodAll enc Try.prog W 0 (fun _ => true) true Try.f8.params.toList args.toList ds p := hA0
  rw [Try.params8] at hA hval
  obtain ⟨v0, r0, d0, e0, p0, q0, ha, rfl, rfl, h0, hA⟩ := trodAll_cons hA
  obtain ⟨v1, r1, d1, e1, p1, q1, rfl, rfl, rfl, h1, hA⟩ := trodAll_cons hA
  obtain ⟨v2, r2, d2, e2, p2, q2, rfl, rfl, rfl, h2, hA⟩ := trodAll_cons hA
  obtain ⟨v3, r3, d3, e3, p3, q3, rfl, rfl, rfl, h3, hA⟩ := trodAll_cons hA
  obtain ⟨v4, r4, d4, e4, p4, q4, rfl, rfl, rfl, h4, hA⟩ := trodAll_cons hA
  obtain ⟨v5, r5, d5, e5, p5, q5, rfl, rfl, rfl, h5, hA⟩ := trodAll_cons hA
  obtain ⟨v6, r6, d6, e6, p6, q6, rfl, rfl, rfl, h6, hA⟩ := trodAll_cons hA
  obtain ⟨rfl, rfl, rfl⟩ := trodAll_nil hA
  have ha' : args = #[v0, v1, v2, v3, v4, v5, v6] := by cases args; simp_all
  subst ha'
  obtain ⟨xs0, rfl, o0, c0⟩ := open_agg lf53 ag53 sz53 (hval 0 53 v0 rfl rfl) h0
  obtain ⟨w0, rfl⟩ := rowW o0
  have b0 := bdW c0
  obtain ⟨f1, l1, b1, k1, i1, g1, m1, t1⟩ := open_frame (hval 1 24 v1 rfl rfl) h1
  obtain ⟨u2, l2, k2, b2, g2, m2, t2⟩ := open_bytes0 (hval 2 28 v2 rfl rfl) h2
  obtain ⟨xs3, rfl, o3, c3⟩ := open_leaf lfx5 ag5 sz5 (hval 3 5 v3 rfl rfl) h3
  obtain ⟨x3, rfl⟩ := leafI o3
  have b3 : 0 ≤ x3 ∧ x3 ≤ 255 := c3
  obtain ⟨xs4, rfl, o4, c4⟩ := open_leaf lfx60 ag60 sz60 (hval 4 60 v4 rfl rfl) h4
  obtain ⟨x4, rfl⟩ := leafI o4
  have b4 : 0 ≤ x4 ∧ x4 ≤ 65535 := c4
  obtain ⟨xs5, rfl, o5, c5⟩ := open_leaf lfx5 ag5 sz5 (hval 5 5 v5 rfl rfl) h5
  obtain ⟨x5, rfl⟩ := leafI o5
  have b5 : 0 ≤ x5 ∧ x5 ≤ 255 := c5
  obtain ⟨xs6, rfl, o6, c6⟩ := open_leaf lfx4 ag4 sz4 (hval 6 4 v6 rfl rfl) h6
  obtain ⟨x6, rfl⟩ := leafB o6
  let β : Vl := fun n => if n = 1 then l1 else if n = 2 then l2 else ⟨0, 0, 0, true⟩
  have e1' := g1 β 1 rfl
  have e2' := g2 β 2 rfl
  subst e1' e2'
  refine (CallOk.callsM (β := β) (W := W) (law_detects w0 f1 b1 k1 u2 b2 k2 x3 b3 x4 b4 x5 b5 x6) (MemOk.roL ?_) ?_).mono fun e W' ⟨he, hb⟩ => ?_
  · intro x hx
    simp only [List.mem_cons, List.not_mem_nil, or_false] at hx
    rcases hx with rfl | rfl
    · exact ⟨rfl, v_ss _, m1 β 1 rfl, t1⟩
    · exact ⟨rfl, v_u _, m2 β 2 rfl, t2⟩
  · intro n b hb
    have := Mem.mem_of_get hb
    simp only [List.mem_cons, List.not_mem_nil, or_false, Prod.mk.injEq] at this
    rcases this with ⟨_, rfl⟩ | ⟨_, rfl⟩ <;> rfl
  subst he
  refine ⟨_, rfl, law_post (tb := 4) laidOut ?_ (by kernel_rfl) Try.underlying4 rfl hW' rfl hb⟩
  rw [Try.params8]
  intro t ht
  simp only [List.mem_cons, List.not_mem_nil, or_false] at ht
  rcases ht with rfl | rfl | rfl | rfl | rfl | rfl | rfl
  · exact rdb53
  · exact rdb24
  · exact rdb28
  · exact rdb5
  · exact rdb60
  · exact rdb5
  · exact rdb4
theorem frameDetects_holds : Rows.FrameDetectsSaid :=
  OpenClaim.holds_of_wide 8 Try.f8 rfl rfl rfl rfl rfl rfl rfl ⟨rfl, rfl, rfl, rfl, rfl⟩ rfl rfl rfl rfl rfl (by kernel_rfl) Try.func8 (by kernel_rfl)
    (of_decide_eq_true (by kernel_rfl)) (by unfold Func.isWrapper; first | (rw [if_pos (by decide +kernel)]; kernel_rfl) | (rw [if_neg (by decide +kernel)]; exact ⟨rfl, rfl⟩))
    (fun os started H enc _ => frameDetects_lifted os started H enc)
#print axioms frameDetects_holds
end Go.Proofs.Ytcdclmelnnbdnaa
