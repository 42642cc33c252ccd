/- The shapes of the laws' arguments. -/
import Derived.Test.YtnolflocgodffaaJo
import Derived.Test.YtnolflocgodffaaE1
namespace Go.Proofs.Ytnolflocgodffaa
open Vg Tf
set_option linter.unusedSimpArgs false
set_option linter.unusedVariables false
set_option maxRecDepth 100000
theorem okF {xs : List Cv} (h : okL [.i .i64, .b, .i .i64, .i .i64, .i .i64, .i .i64, .i .i64, .i .i64, .i .i64, .i .i64] xs = true) : ∃ t, xs = fxL t := by
  obtain ⟨a0, y0, rfl, h0⟩ := okL_i h
  obtain ⟨a1, y1, rfl, h1⟩ := okL_b h0
  obtain ⟨a2, y2, rfl, h2⟩ := okL_i h1
  obtain ⟨a3, y3, rfl, h3⟩ := okL_i h2
  obtain ⟨a4, y4, rfl, h4⟩ := okL_i h3
  obtain ⟨a5, y5, rfl, h5⟩ := okL_i h4
  obtain ⟨a6, y6, rfl, h6⟩ := okL_i h5
  obtain ⟨a7, y7, rfl, h7⟩ := okL_i h6
  obtain ⟨a8, y8, rfl, h8⟩ := okL_i h7
  obtain ⟨a9, y9, rfl, h9⟩ := okL_i h8
  obtain rfl := okL_n h9
  exact ⟨⟨a0, a1, a2, a3, a4, a5, a6, a7, a8, a9⟩, rfl⟩
theorem okV {xs : List Cv} (h : okL [.i .i64, .b, .i .i64, .i .i64, .i .i64, .i .i64, .i .i64, .i .i64, .i .i64, .i .i64, .i .i64] xs = true) : ∃ t r, xs = vaL t r := by
  obtain ⟨a0, y0, rfl, h0⟩ := okL_i h
  obtain ⟨a1, y1, rfl, h1⟩ := okL_b h0
  obtain ⟨a2, y2, rfl, h2⟩ := okL_i h1
  obtain ⟨a3, y3, rfl, h3⟩ := okL_i h2
  obtain ⟨a4, y4, rfl, h4⟩ := okL_i h3
  obtain ⟨a5, y5, rfl, h5⟩ := okL_i h4
  obtain ⟨a6, y6, rfl, h6⟩ := okL_i h5
  obtain ⟨a7, y7, rfl, h7⟩ := okL_i h6
  obtain ⟨a8, y8, rfl, h8⟩ := okL_i h7
  obtain ⟨a9, y9, rfl, h9⟩ := okL_i h8
  obtain ⟨a10, y10, rfl, h10⟩ := okL_i h9
  obtain rfl := okL_n h10
  exact ⟨⟨a0, a1, a2, a3, a4, a5, a6, a7, a8, a9⟩, a10, rfl⟩
theorem okR {xs : List Cv} (h : okL [.i .i64, .i .i64] xs = true) : ∃ a b, xs = [ci a, ci b] := by
  obtain ⟨a0, y0, rfl, h0⟩ := okL_i h
  obtain ⟨a1, y1, rfl, h1⟩ := okL_i h0
  obtain rfl := okL_n h1
  exact ⟨a0, a1, rfl⟩
def Ft.bd1 (t : Ft) : Prop := ∀ c ∈ fxL t, bdC c
theorem bdV {t : Ft} {r : Int} (h : ∀ c ∈ vaL t r, bdC c) : t.bd1 ∧ (-9223372036854775808 ≤ r ∧ r ≤ 9223372036854775807) :=
  ⟨fun c hc => h c (by simp only [vaL, fxL, List.mem_cons, List.not_mem_nil, or_false] at hc ⊢; grind), h (ci r) (by simp [vaL])⟩
theorem bdR {a b : Int} (h : ∀ c ∈ [ci a, ci b], bdC c) : (-9223372036854775808 ≤ a ∧ a ≤ 9223372036854775807) ∧ (-9223372036854775808 ≤ b ∧ b ≤ 9223372036854775807) :=
  ⟨h (ci a) (by simp), h (ci b) (by simp)⟩
theorem leafI {k : IntKind} {x : Cv} (h : okL [.i k] [x] = true) : ∃ n, x = .v (.int k n) := by
  obtain ⟨n, y, e, _⟩ := okL_i h
  exact ⟨n, (List.cons.inj e).1⟩
theorem leafB {x : Cv} (h : okL [.b] [x] = true) : ∃ n, x = .v (.bool n) := by
  obtain ⟨n, y, e, _⟩ := okL_b h
  exact ⟨n, (List.cons.inj e).1⟩
end Go.Proofs.Ytnolflocgodffaa
