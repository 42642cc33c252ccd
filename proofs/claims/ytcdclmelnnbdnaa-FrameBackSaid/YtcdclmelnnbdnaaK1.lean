/- Frame: the arguments of the laws opened. -/
import Derived.Test.YtcdclmelnnbdnaaB5
import Derived.Test.YtcdclmelnnbdnaaJm
namespace Go.Proofs.Ytcdclmelnnbdnaa
open Go.ChangeShapes Go.WideShapes Go.ChangeAt Go.RowKit
open Vg Tf
set_option linter.unusedSimpArgs false
set_option linter.unusedVariables false
set_option maxRecDepth 100000
section
variable {H : Type} {enc : TypeId × Value → H} {w : World} {base : Nat} {spare : Nat → Bool} {held : Bool} {r : Reach} {n0 : Nat} {v : Value} {d : DataW H} {p : List MemPlace}
theorem lfS : lfOf Try.prog 20 33 = some [.s, .i .i64, .i .i64, .b, .b, .i .i64, .i .i64, .i .i64, .i .i64, .i .i64] := by kernel_rfl
theorem lfI : lfOf Try.prog 20 3 = some [.i .i64] := by kernel_rfl
theorem lfB : lfOf Try.prog 20 5 = some [.i .u8] := by kernel_rfl
theorem cellsI : Try.prog.cellsOf 3 = 1 := by kernel_rfl
theorem cellsBo : Try.prog.cellsOf 4 = 1 := by kernel_rfl
theorem cellsSt : Try.prog.cellsOf 9 = 1 := by kernel_rfl
theorem cellsSl : Try.prog.cellsOf 22 = 1 := by kernel_rfl
theorem cellsF : Try.prog.cellsOf 24 = 5 := by kernel_rfl
theorem ctF : Try.prog.cellTypes Try.prog.depth 24 = some [9, 3, 3, 4, 22] := by kernel_rfl
theorem rowSg {y : List Cv} (h : okL [.s, .i .i64, .i .i64, .b, .b, .i .i64, .i .i64, .i .i64, .i .i64, .i .i64] y = true) : ∃ s : Sg, y = sgL s := by
  obtain ⟨a0, y0, rfl, h0⟩ := okL_s h
  obtain ⟨a1, y1, rfl, h1⟩ := okL_i h0
  obtain ⟨a2, y2, rfl, h2⟩ := okL_i h1
  obtain ⟨a3, y3, rfl, h3⟩ := okL_b h2
  obtain ⟨a4, y4, rfl, h4⟩ := okL_b h3
  obtain ⟨a5, y5, rfl, h5⟩ := okL_i h4
  obtain ⟨a6, y6, rfl, h6⟩ := okL_i h5
  obtain ⟨a7, y7, rfl, h7⟩ := okL_i h6
  obtain ⟨a8, y8, rfl, h8⟩ := okL_i h7
  obtain ⟨a9, y9, rfl, h9⟩ := okL_i h8
  obtain rfl := okL_n h9
  exact ⟨⟨a0, a1, a2, a3, a4, a5, a6, a7, a8, a9⟩, rfl⟩
theorem rowsSg : ∀ (rows : List (List Cv)), (∀ y ∈ rows, okL [.s, .i .i64, .i .i64, .b, .b, .i .i64, .i .i64, .i .i64, .i .i64, .i .i64] y = true ∧ ∀ c ∈ y, bdC c) → ∃ sgs : List Sg, rows = sgs.map sgL ∧ ∀ s ∈ sgs, s.nm.data.toList.length ≤ 9223372036854775807
  | [], _ => ⟨[], rfl, by simp⟩
  | y :: rows, h => by
    obtain ⟨sgs, rfl, hb⟩ := rowsSg rows (fun z hz => h z (by simp [hz]))
    obtain ⟨s, rfl⟩ := rowSg (h y (by simp)).1
    refine ⟨s :: sgs, rfl, fun x hx => ?_⟩
    rcases List.mem_cons.1 hx with rfl | hx
    · exact (h (sgL x) (by simp)).2 (.v (.string x.nm)) (by simp [sgL])
    · exact hb x hx
theorem rowsI (k : IntKind) : ∀ (rows : List (List Cv)), (∀ y ∈ rows, okL [.i k] y = true ∧ ∀ c ∈ y, bdC c) → ∃ l : List Int, rows.flatten = l.map (fun n => .v (.int k n)) ∧ rows.length = l.length ∧ ∀ n ∈ l, k.min ≤ n ∧ n ≤ k.max
  | [], _ => ⟨[], rfl, rfl, by simp⟩
  | y :: rows, h => by
    obtain ⟨l, e, hl, hb⟩ := rowsI k rows (fun z hz => h z (by simp [hz]))
    obtain ⟨n, y', rfl, h0⟩ := okL_i (h y (by simp)).1
    obtain rfl := okL_n h0
    refine ⟨n :: l, by simp [e], by simp [hl], fun x hx => ?_⟩
    rcases List.mem_cons.1 hx with rfl | hx
    · exact (h [.v (.int k x)] (by simp)).2 (.v (.int k x)) (by simp)
    · exact hb x hx
theorem open_ints0 (hv : Value.okWide Try.prog w r n0 25 v) (h : DataW.Trod enc Try.prog w base spare held 25 v d p) :
    ∃ (l : List Int) (c : Vg.Loc), l.length ≤ 9223372036854775807 ∧ (∀ n ∈ l, -9223372036854775808 ≤ n ∧ n ≤ 9223372036854775807) ∧ (∀ (β : Vl) (nm : Nat), β nm = c → v = V.g β (slV nm l.length)) ∧ (∀ (β : Vl) (nm : Nat), β nm = c → BkOk β nm ⟨true, l.map cz, 3⟩ w) ∧ (c.nul = false → c.blk < w.heap.size) := by
  obtain ⟨a, len, cap, rfl⟩ := okWide_slice Try.underlying25 hv
  obtain ⟨fuel, hf⟩ := h
  have hc : Cell.okWide Try.prog w r n0 25 (.slice a len cap) := by simpa only [Value.okWide, Try.underlying25] using hv
  obtain ⟨c, rows, h1, h2, h3, h4, h5⟩ := open_sl Try.underlying25 lfI sz3 (by simp) hc (by simpa [Value.cells] using hf)
  obtain ⟨l, e1, e2, e3⟩ := rowsI .i64 rows h1
  refine ⟨l, c, by rw [← e2]; exact h2, e3, fun β nm hb => ?_, fun β nm hb => ?_, h5⟩
  · have := h3 β nm hb
    rw [e2] at this; exact this
  · have := h4 β nm hb
    rw [e1] at this; exact this
theorem open_bytes0 (hv : Value.okWide Try.prog w r n0 28 v) (h : DataW.Trod enc Try.prog w base spare held 28 v d p) :
    ∃ (l : List Nat) (c : Vg.Loc), l.length ≤ 9223372036854775807 ∧ (∀ n ∈ l, n < 256) ∧ (∀ (β : Vl) (nm : Nat), β nm = c → v = V.g β (slV nm l.length)) ∧ (∀ (β : Vl) (nm : Nat), β nm = c → BkOk β nm ⟨true, l.map cb, 5⟩ w) ∧ (c.nul = false → c.blk < w.heap.size) := by
  obtain ⟨a, len, cap, rfl⟩ := okWide_slice Try.underlying28 hv
  obtain ⟨fuel, hf⟩ := h
  have hc : Cell.okWide Try.prog w r n0 28 (.slice a len cap) := by simpa only [Value.okWide, Try.underlying28] using hv
  obtain ⟨c, rows, h1, h2, h3, h4, h5⟩ := open_sl Try.underlying28 lfB sz5 (by simp) hc (by simpa [Value.cells] using hf)
  obtain ⟨l, e1, e2, e3⟩ := rowsI .u8 rows h1
  have e4 : ∀ n ∈ l, 0 ≤ n ∧ n ≤ 255 := e3
  have e5 : l = (l.map Int.toNat).map (fun n : Nat => (n : Int)) := by
    rw [List.map_map]
    conv => lhs; rw [← List.map_id l]
    exact List.map_congr_left fun n hn => by have := e4 n hn; simp; omega
  refine ⟨l.map Int.toNat, c, by rw [List.length_map, ← e2]; exact h2, fun n hn => ?_, fun β nm hb => ?_, fun β nm hb => ?_, h5⟩
  · obtain ⟨m, hm, rfl⟩ := List.mem_map.1 hn
    have := e4 m hm; omega
  · have := h3 β nm hb
    rw [e2] at this
    rw [List.length_map]; exact this
  · have := h4 β nm hb
    rw [e1, e5, List.map_map] at this; exact this
theorem open_frame (hv : Value.okWide Try.prog w r n0 24 v) (h : DataW.Trod enc Try.prog w base spare held 24 v d p) :
    ∃ (f : Fm) (c : Vg.Loc), f.bd ∧ f.sgs.length ≤ 9223372036854775807 ∧ (-9223372036854775808 ≤ f.id ∧ f.id ≤ 9223372036854775807) ∧ (∀ (β : Vl) (nm : Nat), β nm = c → v = V.g β (fm5 nm f)) ∧ (∀ (β : Vl) (nm : Nat), β nm = c → BkOk β nm ⟨true, f.sgs.flatMap sgL, 33⟩ w) ∧ (c.nul = false → c.blk < w.heap.size) := by
  have hv0 := hv
  obtain ⟨cs, rfl, hsz⟩ := okWide_struct Try.underlying24 hv
  have hcell : ∀ i v, cs[i]? = some v → ∃ u, [9, 3, 3, 4, 22][i % 5]? = some u ∧ Cell.okWide Try.prog w r n0 u v := by
    simp only [Value.okWide, Try.underlying24] at hv0
    obtain ⟨cs', e, _, ts, hts, _, hx⟩ := hv0
    cases e
    rw [ctF] at hts
    cases hts
    exact hx
  obtain ⟨l⟩ := cs
  match l, hsz.trans cellsF with
  | [c0, c1, c2, c3, c4], _ =>
    obtain ⟨fuel, hf⟩ := h
    obtain ⟨xs, n, _, hx, _, hlen, hg⟩ := DataW.trod_struct Try.underlying24 hf
    have g0 : DataW.trod enc Try.prog w base spare held n 9 [c0] = xs[0]? := by simpa [Value.cells, cellsSt] using hg 0 _ rfl
    have g1 : DataW.trod enc Try.prog w base spare held n 3 [c1] = xs[1]? := by simpa [Value.cells, cellsI] using hg 1 _ rfl
    have g2 : DataW.trod enc Try.prog w base spare held n 3 [c2] = xs[2]? := by simpa [Value.cells, cellsI] using hg 2 _ rfl
    have g3 : DataW.trod enc Try.prog w base spare held n 4 [c3] = xs[3]? := by simpa [Value.cells, cellsBo] using hg 3 _ rfl
    have g4 : DataW.trod enc Try.prog w base spare held n 22 [c4] = xs[4]? := by simpa [Value.cells, cellsSl] using hg 4 _ rfl
    have hs : ∀ k, k < 5 → ∃ y, xs[k]? = some y := fun k hk => ⟨_, List.getElem?_eq_getElem (by rw [hlen]; exact hk)⟩
    obtain ⟨y0, e0⟩ := hs 0 (by omega)
    obtain ⟨y1, e1⟩ := hs 1 (by omega)
    obtain ⟨y2, e2⟩ := hs 2 (by omega)
    obtain ⟨y3, e3⟩ := hs 3 (by omega)
    obtain ⟨y4, e4⟩ := hs 4 (by omega)
    rw [e0] at g0; rw [e1] at g1; rw [e2] at g2; rw [e3] at g3; rw [e4] at g4
    obtain ⟨s0, hn0, _, hw0⟩ := DataW.trod_string Try.underlying9 g0
    obtain ⟨a1, hn1, _, hw1⟩ := DataW.trod_int Try.underlying3 g1
    obtain ⟨a2, hn2, _, hw2⟩ := DataW.trod_int Try.underlying3 g2
    obtain ⟨a3, hn3, _⟩ := DataW.trod_bool Try.underlying4 g3
    have hn0 : c0 = .string s0 := by simpa using hn0
    have hn1 : c1 = .int .i64 a1 := by simpa using hn1
    have hn2 : c2 = .int .i64 a2 := by simpa using hn2
    have hn3 : c3 = .bool a3 := by simpa using hn3
    subst hn0 hn1 hn2 hn3
    obtain ⟨u, hu, hc⟩ := hcell 4 c4 rfl
    obtain rfl : u = 22 := by simpa using hu.symm
    obtain ⟨c, rows, h1, h2, h3, h4, h5⟩ := open_sl Try.underlying22 lfS sz33 (by simp) hc g4
    obtain ⟨sgs, rfl, hsb⟩ := rowsSg rows h1
    rw [List.length_map] at h2
    refine ⟨⟨s0, a1, a2, a3, sgs⟩, c, ⟨hw0, wf_bd hw2, hsb⟩, h2, wf_bd hw1, fun β nm hb => ?_, fun β nm hb => ?_, h5⟩
    · have := h3 β nm hb
      rw [List.length_map] at this
      simp only [V.g, fmL, List.map_cons, List.map_nil, this]
      rfl
    · have := h4 β nm hb
      rw [List.flatMap_def]; exact this
end
theorem leafI {k : IntKind} {x : Cv} (h : okL [.i k] [x] = true) : ∃ n, x = .v (.int k n) := by
  obtain ⟨n, y, e, _⟩ := okL_i h
  exact ⟨n, (List.cons.inj e).1⟩
theorem leafB {x : Cv} (h : okL [.b] [x] = true) : ∃ n, x = .v (.bool n) := by
  obtain ⟨n, y, e, _⟩ := okL_b h
  exact ⟨n, (List.cons.inj e).1⟩
theorem own : ownKnob Try.prog.godebug = none := by kernel_rfl
theorem laidOut : laidOutB Try.prog = true := by kernel_rfl
/-- The places of two names. -/
def bt2 (a b : Vg.Loc) : Vl := fun n => if n = 1 then a else b
end Go.Proofs.Ytcdclmelnnbdnaa
