/- Units, strings, numbers as arguments. -/
import Derived.Test.YtoioclmfjmgaaaaDoorU2
import Derived.Test.YtoioclmfjmgaaaaDoorMB
namespace Go.Proofs.YtoioclmfjmgaaaaDoor
open Go.ChangeShapes Go.WideShapes Go.ChangeAt Go.RowKit
open Vg Tf Fx
set_option linter.unusedSimpArgs false
set_option linter.unusedVariables false
set_option maxRecDepth 100000
theorem rowU {xs : List Cv} (h : okL [.i .i64, .i .i64, .i .i64, .i .i64, .i .i64] xs = true) : ∃ u : Un, xs = unL u := by
  obtain ⟨a0, y0, rfl, h0⟩ := okL_i h
  obtain ⟨a1, y1, rfl, h1⟩ := okL_i h0
  obtain ⟨a2, y2, rfl, h2⟩ := okL_i h1
  obtain ⟨a3, y3, rfl, h3⟩ := okL_i h2
  obtain ⟨a4, y4, rfl, h4⟩ := okL_i h3
  obtain rfl := okL_n h4
  exact ⟨⟨a0, a1, a2, a3, a4⟩, rfl⟩
theorem bdU {u : Un} (h : ∀ c ∈ unL u, bdC c) : True := trivial
theorem leafI {k : IntKind} {x : Cv} (h : okL [.i k] [x] = true) : ∃ n, x = .v (.int k n) := by
  obtain ⟨n, y, e, _⟩ := okL_i h
  exact ⟨n, (List.cons.inj e).1⟩
theorem leafB {x : Cv} (h : okL [.b] [x] = true) : ∃ n, x = .v (.bool n) := by
  obtain ⟨n, y, e, _⟩ := okL_b h
  exact ⟨n, (List.cons.inj e).1⟩
theorem leafS {x : Cv} (h : okL [.s] [x] = true) (hb : bdC x) : ∃ l : List UInt8, x = .v (.string ⟨l.toArray⟩) ∧ l.length ≤ 9223372036854775807 := by
  obtain ⟨n, y, e, _⟩ := okL_s h
  obtain rfl := (List.cons.inj e).1
  refine ⟨n.data.toList, ?_, ?_⟩
  · simp
  · have : n.size ≤ maxLen := hb
    have e : n.data.toList.length = n.size := by rw [Array.length_toList]; rfl
    unfold maxLen at this
    omega
theorem own : ownKnob Tryd.prog.godebug = none := by kernel_rfl
theorem laidOut : laidOutB Tryd.prog = true := by kernel_rfl
end Go.Proofs.YtoioclmfjmgaaaaDoor
