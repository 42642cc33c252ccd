/- Package strings at one byte: Index, Cut, Count, Split; strconv.Itoa of small numbers. -/
import Derived.Test.YtkciabfilokfiaaGreatFC2
import Derived.Test.YtkciabfilokfiaaGreatMB
import Derived.Lib.Bytealg
import Derived.Lib.IndexLaws
namespace Go.Proofs.YtkciabfilokfiaaGreat.Fx
open Vg Tf
set_option linter.unusedSimpArgs false
set_option linter.unusedVariables false
set_option maxRecDepth 100000
set_option maxHeartbeats 4000000
abbrev S (l : List UInt8) : V := .c (.v (.string ⟨l.toArray⟩))
abbrev Ws (l : List UInt8) : W := .c (.v (.string ⟨l.toArray⟩))
abbrev Wb1 (b : Bool) : W := .c (.v (.bool b))
abbrev Y (n : Int) : V := .c (.v (.int .u8 n))
@[go_sem] theorem tol (l : List UInt8) : l.toArray.toList = l := by simp
@[go_sem ↓] theorem plS_1_1 : plS 1 1 = [(0, 1)] := rfl
@[go_sem ↓] theorem plS_5_1 : plS 5 1 = [(0, 1), (1, 1), (2, 1), (3, 1), (4, 1)] := rfl
@[go_sem ↓] theorem plS_11_1 : plS 11 1 = [(0, 1), (1, 1), (2, 1), (3, 1), (4, 1), (5, 1), (6, 1), (7, 1), (8, 1), (9, 1), (10, 1)] := rfl
@[go_sem ↓] theorem plS_11_5 : plS 11 5 = [(0, 5), (5, 5), (10, 5), (15, 5), (20, 5), (25, 5), (30, 5), (35, 5), (40, 5), (45, 5), (50, 5)] := rfl
@[go_sem ↓] theorem plS_11_6 : plS 11 6 = [(0, 6), (6, 6), (12, 6), (18, 6), (24, 6), (30, 6), (36, 6), (42, 6), (48, 6), (54, 6), (60, 6)] := rfl
@[go_sem ↓] theorem plS_10_3 : plS 10 3 = [(0, 3), (3, 3), (6, 3), (9, 3), (12, 3), (15, 3), (18, 3), (21, 3), (24, 3), (27, 3)] := rfl
theorem mtch {c : Bool} {A B : Prop} (ht : c = true → A) (hf : c = false → B) : (match (generalizing := false) c with | true => A | false => B) := by
  cases c
  · exact hf rfl
  · exact ht rfl
theorem fal_of {p : Prop} [Decidable p] (h : ¬ p) : decide p = false := by simpa using h
theorem tru_of {p : Prop} [Decidable p] (h : p) : decide p = true := by simpa using h
theorem ClA.of {M : Mem} {l : List V} (h : l.all (V.inM M) = true) : ∀ x ∈ l, ClV M x := fun x hx => ClV.of (List.all_eq_true.1 h x hx)
theorem renV {ρ : Nat → Nat} {r : Bool} {l : List Cv} {t : TypeId} (h : l.all Cv.isV = true) : (⟨r, l, t⟩ : Bk).ren ρ = ⟨r, l, t⟩ := by
  unfold Bk.ren
  congr 1
  have := List.all_eq_true.1 h
  conv => rhs; rw [← List.map_id l]
  refine List.map_congr_left fun x hx => ?_
  have := this x hx
  cases x <;> first | rfl | cases this
theorem inMV {M : Mem} {l : List Cv} (h : l.all Cv.isV = true) : l.all (Cv.inM M) = true := by
  refine List.all_eq_true.2 fun x hx => ?_
  have := List.all_eq_true.1 h x hx
  cases x <;> first | rfl | cases this
end Go.Proofs.YtkciabfilokfiaaGreat.Fx
