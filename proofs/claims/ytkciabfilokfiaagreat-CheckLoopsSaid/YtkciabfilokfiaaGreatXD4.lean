/- Contracts of package fixop: the operations. -/
import Derived.Test.YtkciabfilokfiaaGreatXD3
namespace Go.Proofs.YtkciabfilokfiaaGreat.Fx
open Vg Tf
set_option linter.unusedSimpArgs false
set_option linter.unusedVariables false
set_option maxRecDepth 100000
@[go_sem] def vaL (t : Ft) (r : Int) : List Cv := [ci t.bits, .v (.bool t.signed), ci t.num, ci t.off, ci t.den, ci t.m, ci t.kg, ci t.s, ci t.a, ci t.k, ci r]
def z0 : Ft := ⟨0, false, 0, 0, 0, 0, 0, 0, 0, 0⟩
def oRaw (op : Int) (a : Ft) (x : Int) (b : Ft) (y : Int) (t : Ft) : Int := fixR t (cN op (fnu a x) a.den (fnu b y) b.den) (cD op (fnu a x) a.den (fnu b y) b.den)
theorem fok_u {t : Ft} (h : fok t = true) : uok t.m t.kg t.s t.a t.k = true := by
  simp only [fok, Bool.and_eq_true] at h
  exact h.2
theorem c_bd (op : Int) {a : Ft} {x : Int} {b : Ft} {y : Int} (ha : fok a = true) (hx : fin a x = true) (hb : fok b = true) (hy : fin b y = true) (ho1 : 1 ≤ op) (ho2 : op ≤ 4) (h0 : op = 4 → fnu b y ≠ 0) :
    (-20282419275553370000000000000000 ≤ cN op (fnu a x) a.den (fnu b y) b.den ∧ cN op (fnu a x) a.den (fnu b y) b.den ≤ 20282419275553370000000000000000) ∧ (1 ≤ cD op (fnu a x) a.den (fnu b y) b.den ∧ cD op (fnu a x) a.den (fnu b y) b.den ≤ 4722367608777000000000) := by
  have hf := fok_bd ha
  have hg := fok_bd hb
  have h1 := fnu_bd ha hx
  have h2 := fnu_bd hb hy
  have p1 := bd_mul (a := fnu a x) (b := b.den) (A := 4503600701112320) (B := 1048576) (by omega) (by omega) (by omega) (by omega)
  have p2 := bd_mul (a := fnu b y) (b := a.den) (A := 4503600701112320) (B := 1048576) (by omega) (by omega) (by omega) (by omega)
  have p3 := bd_mul (a := fnu a x) (b := fnu b y) (A := 4503600701112320) (B := 4503600701112320) (by omega) (by omega) (by omega) (by omega)
  have p4 := bd_mul (a := a.den) (b := b.den) (A := 1048576) (B := 1048576) (by omega) (by omega) (by omega) (by omega)
  have p5 : 0 < a.den * b.den := Int.mul_pos (by omega) (by omega)
  have p6 : op = 4 → fnu b y * a.den ≠ 0 := fun h hh => by
    rcases Int.mul_eq_zero.1 hh with hh | hh
    · exact h0 h hh
    · omega
  unfold cN cD
  generalize fnu a x * b.den = q1 at *
  generalize fnu b y * a.den = q2 at *
  generalize fnu a x * fnu b y = q3 at *
  generalize a.den * b.den = q4 at *
  rcases (show op = 1 ∨ op = 2 ∨ op = 3 ∨ op = 4 by omega) with rfl | rfl | rfl | rfl <;> simp <;> (try split) <;> (try have := p6 rfl) <;> omega
end Go.Proofs.YtkciabfilokfiaaGreat.Fx
