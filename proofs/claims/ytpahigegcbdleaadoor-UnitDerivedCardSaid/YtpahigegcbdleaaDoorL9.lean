/- UnitDerived: for every input the law answers true and the arguments read as before; the listed package-level variables are those of the program's text. -/
import Derived.Test.YtpahigegcbdleaaDoorUG
import Derived.Test.YtpahigegcbdleaaDoorK1
import Derived.Test.YtpahigegcbdleaaDoorRows
import Derived.Test.YtpahigegcbdleaaDoorTie
import Derived.Test.YtpahigegcbdleaaDoorCards
import Derived.LaidMore
import Derived.Lay
import Derived.SevenTiedAt
import Derived.Stop.Joined
namespace Go.Proofs.YtpahigegcbdleaaDoor
open Go.ChangeShapes Go.WideShapes Go.ChangeAt Go.RowKit
open Vg Tf Fx
set_option linter.unusedSimpArgs false
set_option linter.unusedVariables false
set_option maxRecDepth 100000
theorem rdb5 : Tryd.prog.readableRec 5 = true ∧ 5 < Tryd.prog.types.size := ⟨by kernel_rfl, by decide +kernel⟩
theorem lfx5 : lfOf Tryd.prog 20 5 = some [.i .u8] := by kernel_rfl
theorem unitDerived_lifted (os : Os) (started : os.Started) (H : Type) (enc : TypeId × Value → H) :
    ReturnsInHanded {} Tryd.checked os 9 .any (fun w args => (Rows.unitDerivedSpec.pre enc Tryd.prog Tryd.f9 Rows.unitDerivedRow.domain false w args ∧ laidMetH Tryd.prog Rows.unitDerivedRow.laid w) ∧ sizedMet enc Tryd.prog Tryd.f9 (OpenSpec.ofChange Rows.unitDerivedSpec) false w args) (Rows.unitDerivedSpec.post enc Tryd.prog Tryd.f9 false true false false) := by
  refine returnsInHanded_of_change_and (C := Tryd.checked) (X := fun w _ => laidMetH Tryd.prog Rows.unitDerivedRow.laid w) (fun _ _ _ hh h => h.of_heap hh) own started (by kernel_rfl) Tryd.func9
    (ChangeSpec.witness_shaped (enc := enc) (C := Tryd.checked) (os := os) (X := fun w _ => laidMetH Tryd.prog Rows.unitDerivedRow.laid w) false (World.laidAll Tryd.prog os Rows.unitDerivedRow.laid) #[.int .u8 0] 8 (World.laidAll_os _ _ _)
      (World.shaped_of_ZipB (by kernel_rfl) (by kernel_rfl)) (by kernel_rfl) (by kernel_rfl) (by kernel_rfl)
      (by rw [MakeChecks.laidMetH_plain _ _ _ (by kernel_rfl)]; exact laidMet_laidAll _ (by kernel_rfl) (by kernel_rfl))) ?_
  intro W base args ds gs before hval0 hW hcnd _ hL _
  have hval : ∀ (j : Nat) t v, Tryd.f9.params[j]? = some t → args[j]? = some v → Value.okWide Tryd.prog W .any base t v := hval0
  have hW' := hW
  obtain ⟨p, q, hA0, hV, rfl, hfz, hnd⟩ := hW
  have hA : DataW.TrodAll enc Tryd.prog W 0 (fun _ => true) true Tryd.f9.params.toList args.toList ds p := hA0
  rw [Tryd.params9] at hA hval
  obtain ⟨v0, r0, d0, e0, p0, q0, ha, rfl, rfl, h0, hA⟩ := trodAll_cons hA
  obtain ⟨rfl, rfl, rfl⟩ := trodAll_nil hA
  have ha' : args = #[v0] := by cases args; simp_all
  subst ha'
  obtain ⟨xs0, rfl, o0, c0⟩ := open_leaf lfx5 ag5 sz5 (hval 0 5 v0 rfl rfl) h0
  obtain ⟨x0, rfl⟩ := leafI o0
  have b0 : 0 ≤ x0 ∧ x0 ≤ 255 := c0
  refine (CallOk.calls (law_derived x0 b0) W).mono fun e W' ⟨he, hb⟩ => ?_
  subst he
  refine ⟨_, rfl, law_post (tb := 4) laidOut ?_ (by kernel_rfl) Tryd.underlying4 rfl hW' rfl hb⟩
  rw [Tryd.params9]
  intro t ht
  simp only [List.mem_cons, List.not_mem_nil, or_false] at ht
  subst ht
  exact rdb5
theorem unitDerived_holds : Rows.UnitDerivedSaid :=
  OpenClaim.holds_of_wide 9 Tryd.f9 rfl rfl rfl rfl rfl rfl rfl ⟨rfl, rfl, rfl, rfl, rfl⟩ rfl rfl rfl rfl rfl (by kernel_rfl) Tryd.func9 (by kernel_rfl)
    (of_decide_eq_true (by kernel_rfl)) (by unfold Func.isWrapper; first | (rw [if_pos (by decide +kernel)]; kernel_rfl) | (rw [if_neg (by decide +kernel)]; exact ⟨rfl, rfl⟩))
    (fun os started H enc _ => unitDerived_lifted os started H enc)
theorem unitDerived_card : Rows.UnitDerivedCardSaid :=
  Claim7.holds_tied_plain_at .later [] [.data, .data, .data, .data, .pinned] true (true, "0fbee103d9c11cb6af566589f2aa9f2921e8f60822fb5cde01e68ae9d31aad6f") false unitDerived_holds (fun _ h => by cases h) (by kernel_rfl) (fun _ h => by cases h) unitDerived_row_tie rfl ⟨rfl, rfl⟩ (by kernel_rfl) rfl
    (fun f fn hf hfn => by
      obtain rfl : f = 9 := Option.some.inj ((show Tryd.prog.funcNamed "magneto/magnetolaw02.UnitDerived" = some 9 by kernel_rfl).symm.trans hf) |>.symm
      obtain rfl : fn = Tryd.f9 := (Option.some.inj (Tryd.func9.symm.trans hfn)).symm
      exact ⟨by kernel_rfl, fun j t ht => by
        rw [Tryd.params9] at ht
        have hm : t ∈ [5] := by simpa using Array.mem_of_getElem? ht
        have hall : ([5].all fun u => !Tryd.prog.wantsStandIn u) = true := by kernel_rfl
        exact (show Tryd.prog.wantsStandIn t = false by simpa using List.all_eq_true.1 hall t hm)⟩)
    (by kernel_rfl)
#print axioms unitDerived_card
end Go.Proofs.YtpahigegcbdleaaDoor
