/- FixedReads: for every input the law answers true and the arguments read as before; the listed package-level variables are those of the program's text. -/
import Derived.Test.YtoioclmfjmgaaaaDoorFR2
import Derived.Test.YtoioclmfjmgaaaaDoorK3
import Derived.Test.YtoioclmfjmgaaaaDoorRows
import Derived.Test.YtoioclmfjmgaaaaDoorTie
import Derived.Test.YtoioclmfjmgaaaaDoorCards
import Derived.LaidMore
import Derived.Lay
import Derived.SevenTiedAt
import Derived.Stop.Joined
namespace Go.Proofs.YtoioclmfjmgaaaaDoor
open Go.ChangeShapes Go.WideShapes Go.ChangeAt Go.RowKit
open Vg Tf Fx
set_option linter.unusedSimpArgs false
set_option linter.unusedVariables false
set_option maxRecDepth 100000
theorem rdb25 : Tryd.prog.readableRec 25 = true ∧ 25 < Tryd.prog.types.size := ⟨by kernel_rfl, by decide +kernel⟩
theorem rdb3 : Tryd.prog.readableRec 3 = true ∧ 3 < Tryd.prog.types.size := ⟨by kernel_rfl, by decide +kernel⟩
theorem lfx3 : lfOf Tryd.prog 20 3 = some [.i .i64] := by kernel_rfl
theorem fixedReads_lifted (os : Os) (started : os.Started) (H : Type) (enc : TypeId × Value → H) :
    ReturnsInHanded {} Tryd.checked os 13 .any (fun w args => (Rows.fixedReadsSpec.pre enc Tryd.prog Tryd.f13 Rows.fixedReadsRow.domain false w args ∧ laidMetH Tryd.prog Rows.fixedReadsRow.laid w) ∧ sizedMet enc Tryd.prog Tryd.f13 (OpenSpec.ofChange Rows.fixedReadsSpec) false w args) (Rows.fixedReadsSpec.post enc Tryd.prog Tryd.f13 false true false false) := by
  refine returnsInHanded_of_change_and (C := Tryd.checked) (X := fun w _ => laidMetH Tryd.prog Rows.fixedReadsRow.laid w) (fun _ _ _ hh h => h.of_heap hh) own started (by kernel_rfl) Tryd.func13
    (ChangeSpec.witness_shaped (enc := enc) (C := Tryd.checked) (os := os) (X := fun w _ => laidMetH Tryd.prog Rows.fixedReadsRow.laid w) false (World.laidAll Tryd.prog os Rows.fixedReadsRow.laid) #[.agg #[.int .i64 0, .bool false, .int .i64 0, .int .i64 0, .int .i64 0, .int .i64 0, .int .i64 0, .int .i64 0, .int .i64 0, .int .i64 0], .int .i64 0] 8 (World.laidAll_os _ _ _)
      (World.shaped_of_ZipB (by kernel_rfl) (by kernel_rfl)) (by kernel_rfl) (by kernel_rfl) (by kernel_rfl)
      (by rw [MakeChecks.laidMetH_plain _ _ _ (by kernel_rfl)]; exact laidMet_laidAll _ (by kernel_rfl) (by kernel_rfl))) ?_
  intro W base args ds gs before hval0 hW hcnd _ hL _
  have hval : ∀ (j : Nat) t v, Tryd.f13.params[j]? = some t → args[j]? = some v → Value.okWide Tryd.prog W .any base t v := hval0
  have hW' := hW
  obtain ⟨p, q, hA0, hV, rfl, hfz, hnd⟩ := hW
  have hA : DataW.TrodAll enc Tryd.prog W 0 (fun _ => true) true Tryd.f13.params.toList args.toList ds p := hA0
  rw [Tryd.params13] at hA hval
  obtain ⟨v0, r0, d0, e0, p0, q0, ha, rfl, rfl, h0, hA⟩ := trodAll_cons hA
  obtain ⟨v1, r1, d1, e1, p1, q1, rfl, rfl, rfl, h1, hA⟩ := trodAll_cons hA
  obtain ⟨rfl, rfl, rfl⟩ := trodAll_nil hA
  have ha' : args = #[v0, v1] := by cases args; simp_all
  subst ha'
  obtain ⟨xs0, rfl, o0, c0⟩ := open_agg lf25 ag25 sz25 (hval 0 25 v0 rfl rfl) h0
  obtain ⟨t0, rfl⟩ := rowFx o0
  have b0 := bdFx c0
  obtain ⟨xs1, rfl, o1, c1⟩ := open_leaf lfx3 ag3 sz3 (hval 1 3 v1 rfl rfl) h1
  obtain ⟨x1, rfl⟩ := leafI o1
  have b1 : -9223372036854775808 ≤ x1 ∧ x1 ≤ 9223372036854775807 := c1
  have hT : laidMetH Tryd.prog [("magneto/fixed.tens", Rows.laid_magneto_fixed_tens)] W := (show (Rows.fixedReadsRow.laid.filter (fun p => p.1 == "magneto/fixed.tens")) = [("magneto/fixed.tens", Rows.laid_magneto_fixed_tens)] by kernel_rfl) ▸ hL.filter (fun p => p.1 == "magneto/fixed.tens")
  have hU : laidMetH Tryd.prog [("internal/strconv.uint64pow10", Rows.laid_internal_strconv_uint64pow10)] W := (show (Rows.fixedReadsRow.laid.filter (fun p => p.1 == "internal/strconv.uint64pow10")) = [("internal/strconv.uint64pow10", Rows.laid_internal_strconv_uint64pow10)] by kernel_rfl) ▸ hL.filter (fun p => p.1 == "internal/strconv.uint64pow10")
  refine (CallG.calls (law_reads t0 x1) (both_gl hT hU)).mono fun e W' ⟨he, hb⟩ => ?_
  subst he
  refine ⟨_, rfl, law_post (tb := 4) laidOut ?_ (by kernel_rfl) Tryd.underlying4 rfl hW' rfl hb⟩
  rw [Tryd.params13]
  intro t ht
  simp only [List.mem_cons, List.not_mem_nil, or_false] at ht
  rcases ht with rfl | rfl
  · exact rdb25
  · exact rdb3
theorem fixedReads_holds : Rows.FixedReadsSaid :=
  OpenClaim.holds_of_wide 13 Tryd.f13 rfl rfl rfl rfl rfl rfl rfl ⟨rfl, rfl, rfl, rfl, rfl⟩ rfl rfl rfl rfl rfl (by kernel_rfl) Tryd.func13 (by kernel_rfl)
    (of_decide_eq_true (by kernel_rfl)) (by unfold Func.isWrapper; first | (rw [if_pos (by decide +kernel)]; kernel_rfl) | (rw [if_neg (by decide +kernel)]; exact ⟨rfl, rfl⟩))
    (fun os started H enc _ => fixedReads_lifted os started H enc)
theorem fixedReads_card : Rows.FixedReadsCardSaid :=
  Claim7.holds_tied_plain_at .later [] [.data, .data, .data, .data, .data, .pinned] true (true, "0fbee103d9c11cb6af566589f2aa9f2921e8f60822fb5cde01e68ae9d31aad6f") false fixedReads_holds (fun _ h => by cases h) (by kernel_rfl) (fun _ h => by cases h) fixedReads_row_tie rfl ⟨rfl, rfl⟩ (by kernel_rfl) rfl
    (fun f fn hf hfn => by
      obtain rfl : f = 13 := Option.some.inj ((show Tryd.prog.funcNamed "magneto/magnetolaw03.FixedReads" = some 13 by kernel_rfl).symm.trans hf) |>.symm
      obtain rfl : fn = Tryd.f13 := (Option.some.inj (Tryd.func13.symm.trans hfn)).symm
      exact ⟨by kernel_rfl, fun j t ht => by
        rw [Tryd.params13] at ht
        have hm : t ∈ [25, 3] := by simpa using Array.mem_of_getElem? ht
        have hall : ([25, 3].all fun u => !Tryd.prog.wantsStandIn u) = true := by kernel_rfl
        exact (show Tryd.prog.wantsStandIn t = false by simpa using List.all_eq_true.1 hall t hm)⟩)
    (by kernel_rfl)
#print axioms fixedReads_card
end Go.Proofs.YtoioclmfjmgaaaaDoor
