/- Fixed-point types as arguments; the package-level variables fixed.tens and uint64pow10 as the row lays them (K3: for laws that do not import FP5). -/
import Derived.Test.YtoioclmfjmgaaaaDoorFT1
import Derived.Test.YtoioclmfjmgaaaaDoorK1
import Derived.Test.YtoioclmfjmgaaaaDoorRows
import Derived.LaidMore
import Derived.LaidSub
import Derived.Lib.LaidTab
import Derived.Lay
namespace Go.Proofs.YtoioclmfjmgaaaaDoor
open Go.ChangeShapes Go.WideShapes Go.ChangeAt Go.RowKit
open Vg Tf Fx
set_option linter.unusedSimpArgs false
set_option linter.unusedVariables false
set_option maxRecDepth 100000
def fxL (t : Ft) : List Cv := [ci t.bits, .v (.bool t.signed), ci t.num, ci t.off, ci t.den, ci t.m, ci t.kg, ci t.s, ci t.a, ci t.k]
theorem rowFx {xs : List Cv} (h : okL [.i .i64, .b, .i .i64, .i .i64, .i .i64, .i .i64, .i .i64, .i .i64, .i .i64, .i .i64] xs = true) : ∃ t : Ft, xs = fxL t := by
  obtain ⟨a0, y0, rfl, h0⟩ := okL_i h
  obtain ⟨a1, y1, rfl, h1⟩ := okL_b h0
  obtain ⟨a2, y2, rfl, h2⟩ := okL_i h1
  obtain ⟨a3, y3, rfl, h3⟩ := okL_i h2
  obtain ⟨a4, y4, rfl, h4⟩ := okL_i h3
  obtain ⟨a5, y5, rfl, h5⟩ := okL_i h4
  obtain ⟨a6, y6, rfl, h6⟩ := okL_i h5
  obtain ⟨a7, y7, rfl, h7⟩ := okL_i h6
  obtain ⟨a8, y8, rfl, h8⟩ := okL_i h7
  obtain ⟨a9, y9, rfl, h9⟩ := okL_i h8
  obtain rfl := okL_n h9
  exact ⟨⟨a0, a1, a2, a3, a4, a5, a6, a7, a8, a9⟩, rfl⟩
theorem bdFx {t : Ft} (h : ∀ c ∈ fxL t, bdC c) : True := trivial
def tensZ : List Int := [1, 10, 100, 1000, 10000, 100000, 1000000]
theorem tens_gl {W : World} (h : laidMetH Tryd.prog [("magneto/fixed.tens", Rows.laid_magneto_fixed_tens)] W) : GlW gsT W := by
  rw [MakeChecks.laidMetH_plain _ _ _ (by kernel_rfl)] at h
  have hg : Tryd.prog.globalNamed "magneto/fixed.tens" = some 0 := by kernel_rfl
  have ht : Lib.TabIs Tryd.prog W "magneto/fixed.tens" .i64 tensZ := Lib.tabIs_of_head (rest := []) hg (show (Tryd.prog.globals[0]?).map (·.type) = some 75 by kernel_rfl) Tryd.underlying75 Tryd.underlying3 (by kernel_rfl) (by kernel_rfl) h
  intro g cs hm
  obtain ⟨rfl, rfl⟩ : g = 0 ∧ cs = tensV := by simpa [gsT] using hm
  exact GlW.of_var hg ht
theorem pow_at {W : World} (h : laidMetH Tryd.prog [("internal/strconv.uint64pow10", Rows.laid_internal_strconv_uint64pow10)] W) : ∃ el mk, W.heap[4]? = some (.cells pow10V.toArray el mk) := by
  rw [MakeChecks.laidMetH_plain _ _ _ (by kernel_rfl)] at h
  have hg : Tryd.prog.globalNamed "internal/strconv.uint64pow10" = some 4 := by kernel_rfl
  have ht : Lib.TabIs Tryd.prog W "internal/strconv.uint64pow10" .u64 Lib.pow10Tab := Lib.tabIs_of_head (rest := []) hg (show (Tryd.prog.globals[4]?).map (·.type) = some 156 by kernel_rfl) Tryd.underlying156 Tryd.underlying121 (by kernel_rfl) (by kernel_rfl) h
  exact GlW.of_var hg ht
theorem both_gl {W : World} (h1 : laidMetH Tryd.prog [("magneto/fixed.tens", Rows.laid_magneto_fixed_tens)] W) (h2 : laidMetH Tryd.prog [("internal/strconv.uint64pow10", Rows.laid_internal_strconv_uint64pow10)] W) : GlW gsX W := by
  intro g cs hm
  simp only [gsX, List.mem_cons, List.not_mem_nil, or_false, Prod.mk.injEq] at hm
  rcases hm with ⟨rfl, rfl⟩ | ⟨rfl, rfl⟩
  · exact tens_gl h1 0 tensV (by simp [gsT])
  · exact pow_at h2
theorem CallG.calls {gs : Gs} {P : Program} {f : FuncId} {args : List V} {v : V} (h : CallG gs P f args v) {W : World} (hG : GlW gs W) :
    Calls P f (args.map (V.g b1)).toArray W fun e W' => e = .returned (v.g b1) ∧ Below W.heap.size W W' := by
  refine (h.2 b1 W hG).mono ?_
  rintro e W' ⟨hen, hfr⟩
  exact ⟨hen b1, hfr.os, hfr.tape, hfr.output, hfr.size, fun k hk => hfr.old k trivial hk⟩
end Go.Proofs.YtoioclmfjmgaaaaDoor
