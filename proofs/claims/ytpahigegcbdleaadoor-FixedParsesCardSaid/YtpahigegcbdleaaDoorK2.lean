/- Fixed-point types as arguments; the package-level variable fixed.tens as the row lays it. -/
import Derived.Test.YtpahigegcbdleaaDoorFP5
import Derived.Test.YtpahigegcbdleaaDoorK1
import Derived.Test.YtpahigegcbdleaaDoorRows
import Derived.LaidMore
import Derived.LaidSub
import Derived.Lay
namespace Go.Proofs.YtpahigegcbdleaaDoor
open Go.ChangeShapes Go.WideShapes Go.ChangeAt Go.RowKit
open Vg Tf Fx
set_option linter.unusedSimpArgs false
set_option linter.unusedVariables false
set_option maxRecDepth 100000
def fxL (t : Ft) : List Cv := [ci t.bits, .v (.bool t.signed), ci t.num, ci t.off, ci t.den, ci t.m, ci t.kg, ci t.s, ci t.a, ci t.k]
theorem rowFx {xs : List Cv} (h : okL [.i .i64, .b, .i .i64, .i .i64, .i .i64, .i .i64, .i .i64, .i .i64, .i .i64, .i .i64] xs = true) : ∃ t : Ft, xs = fxL t := by
  obtain ⟨a0, y0, rfl, h0⟩ := okL_i h
  obtain ⟨a1, y1, rfl, h1⟩ := okL_b h0
  obtain ⟨a2, y2, rfl, h2⟩ := okL_i h1
  obtain ⟨a3, y3, rfl, h3⟩ := okL_i h2
  obtain ⟨a4, y4, rfl, h4⟩ := okL_i h3
  obtain ⟨a5, y5, rfl, h5⟩ := okL_i h4
  obtain ⟨a6, y6, rfl, h6⟩ := okL_i h5
  obtain ⟨a7, y7, rfl, h7⟩ := okL_i h6
  obtain ⟨a8, y8, rfl, h8⟩ := okL_i h7
  obtain ⟨a9, y9, rfl, h9⟩ := okL_i h8
  obtain rfl := okL_n h9
  exact ⟨⟨a0, a1, a2, a3, a4, a5, a6, a7, a8, a9⟩, rfl⟩
theorem bdFx {t : Ft} (h : ∀ c ∈ fxL t, bdC c) : True := trivial
def tensZ : List Int := [1, 10, 100, 1000, 10000, 100000, 1000000]
theorem tens_cell {W : World} (h : laidMetH Tryd.prog [("magneto/fixed.tens", Rows.laid_magneto_fixed_tens)] W) (r : Nat) (hr : r < 7) : W.cell? ⟨0, r, none⟩ = some (.int .i64 (tensZ.getD r 0)) := by
  rw [MakeChecks.laidMetH_plain _ _ _ (by kernel_rfl)] at h
  obtain ⟨ps, ⟨g, t, cs, fuel, p, q, hg, ht, hv, hd, _, _⟩, _, _⟩ := h
  obtain rfl := Option.some.inj ((show Tryd.prog.globalNamed "magneto/fixed.tens" = some 0 by kernel_rfl).symm.trans hg)
  obtain rfl := Option.some.inj ((show (Tryd.prog.globals[0]?).map (·.type) = some 75 by kernel_rfl).symm.trans ht)
  obtain ⟨xs, m, _, ex, _, hl, hel⟩ := DataW.trod_array Tryd.underlying75 hd
  have c5 : Tryd.prog.cellsOf 3 = 1 := by kernel_rfl
  have hE := hel r hr
  rw [c5, Nat.mul_one, List.getElem?_eq_getElem (by omega)] at hE
  obtain ⟨z, e1, e2, _⟩ := DataW.trod_int Tryd.underlying3 hE
  have hlen : tensZ.length = 7 := by kernel_rfl
  have e3 : (xs.map (·.1)) = tensZ.map fun n => .lit (.int .i64 n) := (DataW.agg.inj (Prod.mk.inj ex).1).symm
  have e4 : (xs.map (·.1))[r]? = (tensZ.map fun n => (DataW.lit (.int .i64 n) : DataW Unit))[r]? := by rw [e3]
  rw [List.getElem?_map, List.getElem?_map, List.getElem?_eq_getElem (by omega : r < xs.length), List.getElem?_eq_getElem (by omega : r < tensZ.length), e2] at e4
  have hz : z = tensZ.getD r 0 := by
    simp only [Option.map_some, Option.some.injEq, DataW.lit.injEq, Lit.int.injEq, true_and] at e4
    rw [e4, List.getD, List.getElem?_eq_getElem (by omega : r < tensZ.length)]; rfl
  rw [World.var?_cell hg hv r, ← hz]
  have : cs.toList[r]? = some (.int .i64 z) := by
    have h0 : ((cs.toList.drop r).take 1)[0]? = some (.int .i64 z) := by rw [e1]; rfl
    simpa using h0
  simpa using this
theorem cell_lt {W : World} {g i : Nat} {v : Value} (h : W.cell? ⟨g, i, none⟩ = some v) : g < W.heap.size := by
  rcases Nat.lt_or_ge g W.heap.size with hl | hl
  · exact hl
  · exfalso
    have hn : W.heap[g]? = none := Array.getElem?_eq_none hl
    simp [World.cell?, hn] at h
theorem tens_gl {W : World} (h : laidMetH Tryd.prog [("magneto/fixed.tens", Rows.laid_magneto_fixed_tens)] W) : GlW gsT W := by
  intro g cs hm
  obtain ⟨rfl, rfl⟩ : g = 0 ∧ cs = tensV := by simpa [gsT] using hm
  refine ⟨cell_lt (tens_cell h 0 (by omega)), fun i v hi => ?_⟩
  have hl : i < 7 := by
    rcases Nat.lt_or_ge i 7 with hl | hl
    · exact hl
    · rw [List.getElem?_eq_none (by exact hl)] at hi; cases hi
  have hc := tens_cell h i hl
  rw [hc, ← hi]
  have : ∀ i : Fin 7, some (Value.int .i64 (tensZ.getD i.val 0)) = tensV[i.val]? := by
    intro i
    match i with
    | 0 => rfl | 1 => rfl | 2 => rfl | 3 => rfl | 4 => rfl | 5 => rfl | 6 => rfl
  exact this ⟨i, hl⟩
theorem CallG.calls {gs : Gs} {P : Program} {f : FuncId} {args : List V} {v : V} (h : CallG gs P f args v) {W : World} (hG : GlW gs W) :
    Calls P f (args.map (V.g b1)).toArray W fun e W' => e = .returned (v.g b1) ∧ Below W.heap.size W W' := by
  refine (h.2 b1 W hG).mono ?_
  rintro e W' ⟨hen, hfr⟩
  exact ⟨hen b1, hfr.os, hfr.tape, hfr.output, hfr.size, fun k hk => hfr.old k trivial hk⟩
end Go.Proofs.YtpahigegcbdleaaDoor
