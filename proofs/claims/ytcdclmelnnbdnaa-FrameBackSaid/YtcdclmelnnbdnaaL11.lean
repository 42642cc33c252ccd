/- FrameBack: for every input the law answers true and the arguments read as before. No condition. -/
import Derived.Test.YtcdclmelnnbdnaaD4
import Derived.Test.YtcdclmelnnbdnaaK1
import Derived.Test.YtcdclmelnnbdnaaRows
namespace Go.Proofs.Ytcdclmelnnbdnaa
open Go.ChangeShapes Go.WideShapes Go.ChangeAt Go.RowKit
open Vg Tf
set_option linter.unusedSimpArgs false
set_option linter.unusedVariables false
set_option maxRecDepth 100000
theorem rdb24 : Try.prog.readableRec 24 = true ∧ 24 < Try.prog.types.size := ⟨by kernel_rfl, by decide +kernel⟩
theorem rdb25 : Try.prog.readableRec 25 = true ∧ 25 < Try.prog.types.size := ⟨by kernel_rfl, by decide +kernel⟩
theorem rdb5 : Try.prog.readableRec 5 = true ∧ 5 < Try.prog.types.size := ⟨by kernel_rfl, by decide +kernel⟩
theorem lfx5 : lfOf Try.prog 20 5 = some [.i .u8] := by kernel_rfl
theorem frameBack_lifted (os : Os) (started : os.Started) (H : Type) (enc : TypeId × Value → H) :
    ReturnsInHanded {} Try.checked os 11 .any (Rows.frameBackSpec.pre6 enc Try.prog Try.f11 Rows.frameBackRow.domain false) (Rows.frameBackSpec.post enc Try.prog Try.f11 false true false false) := by
  refine returnsInHanded_of_change (C := Try.checked) own started (by kernel_rfl) Try.func11
    (ChangeSpec.witness6 (enc := enc) (C := Try.checked) false ⟨#[], #[.agg #[.string ⟨#[]⟩, .int .i64 0, .int .i64 0, .bool false, .slice none 0 0], .slice none 0 0, .int .u8 0], []⟩ 8 (by kernel_rfl) (by kernel_rfl) (by kernel_rfl) (by kernel_rfl)) ?_
  intro W base args ds gs before hval0 hW hcnd _
  have hval : ∀ (j : Nat) t v, Try.f11.params[j]? = some t → args[j]? = some v → Value.okWide Try.prog W .any base t v := hval0
  have hW' := hW
  obtain ⟨p, q, hA0, hV, rfl, hfz, hnd⟩ := hW
  have hA : DataW.TrodAll enc Try.prog W 0 (fun _ => true) true Try.f11.params.toList args.toList ds p := hA0
  rw [Try.params11] at hA hval
  obtain ⟨v0, r0, d0, e0, p0, q0, ha, rfl, rfl, h0, hA⟩ := trodAll_cons hA
  obtain ⟨v1, r1, d1, e1, p1, q1, rfl, rfl, rfl, h1, hA⟩ := trodAll_cons hA
  obtain ⟨v2, r2, d2, e2, p2, q2, rfl, rfl, rfl, h2, hA⟩ := trodAll_cons hA
  obtain ⟨rfl, rfl, rfl⟩ := trodAll_nil hA
  have ha' : args = #[v0, v1, v2] := by cases args; simp_all
  subst ha'
  obtain ⟨f0, l0, b0, k0, i0, g0, m0, t0⟩ := open_frame (hval 0 24 v0 rfl rfl) h0
  obtain ⟨z1, l1, k1, b1, g1, m1, t1⟩ := open_ints0 (hval 1 25 v1 rfl rfl) h1
  obtain ⟨xs2, rfl, o2, c2⟩ := open_leaf lfx5 ag5 sz5 (hval 2 5 v2 rfl rfl) h2
  obtain ⟨x2, rfl⟩ := leafI o2
  have b2 : 0 ≤ x2 ∧ x2 ≤ 255 := c2
  let β : Vl := fun n => if n = 1 then l0 else if n = 2 then l1 else ⟨0, 0, 0, true⟩
  have e0' := g0 β 1 rfl
  have e1' := g1 β 2 rfl
  subst e0' e1'
  refine (CallOk.callsM (β := β) (W := W) (law_back f0 b0 z1 k1 k0 x2 b2) (MemOk.roL ?_) ?_).mono fun e W' ⟨he, hb⟩ => ?_
  · intro x hx
    simp only [List.mem_cons, List.not_mem_nil, or_false] at hx
    rcases hx with rfl | rfl
    · exact ⟨rfl, v_ss _, m0 β 1 rfl, t0⟩
    · exact ⟨rfl, v_z _, m1 β 2 rfl, t1⟩
  · intro n b hb
    have := Mem.mem_of_get hb
    simp only [List.mem_cons, List.not_mem_nil, or_false, Prod.mk.injEq] at this
    rcases this with ⟨_, rfl⟩ | ⟨_, rfl⟩ <;> rfl
  subst he
  refine ⟨_, rfl, law_post (tb := 4) laidOut ?_ (by kernel_rfl) Try.underlying4 rfl hW' rfl hb⟩
  rw [Try.params11]
  intro t ht
  simp only [List.mem_cons, List.not_mem_nil, or_false] at ht
  rcases ht with rfl | rfl | rfl
  · exact rdb24
  · exact rdb25
  · exact rdb5
theorem frameBack_holds : Rows.FrameBackSaid :=
  OpenClaim.holds_of_wide 11 Try.f11 rfl rfl rfl rfl rfl rfl rfl ⟨rfl, rfl, rfl, rfl, rfl⟩ rfl rfl rfl rfl rfl (by kernel_rfl) Try.func11 (by kernel_rfl)
    (of_decide_eq_true (by kernel_rfl)) (by unfold Func.isWrapper; first | (rw [if_pos (by decide +kernel)]; kernel_rfl) | (rw [if_neg (by decide +kernel)]; exact ⟨rfl, rfl⟩))
    (fun os started H enc _ => frameBack_lifted os started H enc)
#print axioms frameBack_holds
end Go.Proofs.Ytcdclmelnnbdnaa
