/- Frame: signals and ratios as arguments. -/
import Derived.Test.YtcdclmelnnbdnaaK1
namespace Go.Proofs.Ytcdclmelnnbdnaa
open Go.ChangeShapes Go.WideShapes Go.ChangeAt Go.RowKit
open Vg Tf
theorem okR {xs : List Cv} (h : okL [.i .i64, .i .i64] xs = true) : ∃ n d : Int, xs = [.v (.int .i64 n), .v (.int .i64 d)] := by
  obtain ⟨a0, y0, rfl, h0⟩ := okL_i h
  obtain ⟨a1, y1, rfl, h1⟩ := okL_i h0
  obtain rfl := okL_n h1
  exact ⟨a0, a1, rfl⟩
theorem bdR {n d : Int} (h : ∀ c ∈ [Cv.v (.int .i64 n), .v (.int .i64 d)], bdC c) : True := trivial
theorem bdSg {s : Sg} (h : ∀ c ∈ sgL s, bdC c) : s.nm.data.toList.length ≤ 9223372036854775807 := h (.v (.string s.nm)) (by simp [sgL])
end Go.Proofs.Ytcdclmelnnbdnaa
