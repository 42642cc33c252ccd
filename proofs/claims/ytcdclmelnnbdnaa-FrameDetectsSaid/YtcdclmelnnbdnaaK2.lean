/- Frame: watches as arguments. -/
import Derived.Test.YtcdclmelnnbdnaaK1
import Derived.Test.YtcdclmelnnbdnaaC6
namespace Go.Proofs.Ytcdclmelnnbdnaa
open Vg Tf
set_option linter.unusedSimpArgs false
set_option linter.unusedVariables false
set_option maxRecDepth 100000
theorem rowW {xs : List Cv} (h : okL [.b, .i .i64, .i .i64, .i .i64] xs = true) : ∃ w : Wt, xs = wtL w := by
  obtain ⟨a0, y0, rfl, h0⟩ := okL_b h
  obtain ⟨a1, y1, rfl, h1⟩ := okL_i h0
  obtain ⟨a2, y2, rfl, h2⟩ := okL_i h1
  obtain ⟨a3, y3, rfl, h3⟩ := okL_i h2
  obtain rfl := okL_n h3
  exact ⟨⟨a0, a1, a2, a3⟩, rfl⟩
theorem bdW {w : Wt} (h : ∀ c ∈ wtL w, bdC c) : (-9223372036854775808 ≤ w.ct ∧ w.ct ≤ 9223372036854775807) ∧ (-9223372036854775808 ≤ w.ls ∧ w.ls ≤ 9223372036854775807) ∧ (-9223372036854775808 ≤ w.fl ∧ w.fl ≤ 9223372036854775807) :=
  ⟨h (.v (.int .i64 w.ct)) (by simp [wtL]), h (.v (.int .i64 w.ls)) (by simp [wtL]), h (.v (.int .i64 w.fl)) (by simp [wtL])⟩
end Go.Proofs.Ytcdclmelnnbdnaa
