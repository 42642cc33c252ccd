/- Contracts of the reference's Nearest; of Convert in all cases; the law FixedConverts. -/
import Derived.Test.YtcdclmelnnbdnaaFC14
import Derived.Test.YtcdclmelnnbdnaaFC9
import Derived.Test.YtcdclmelnnbdnaaFC3
namespace Go.Proofs.Ytcdclmelnnbdnaa.Fx
open Vg Tf
set_option linter.unusedSimpArgs false
set_option linter.unusedVariables false
set_option maxRecDepth 100000
def ExP (E p : Int) : Prop := p = E ∨ (p = 1125899906842624 ∧ 274877906944 ≤ E) ∨ (p = -1125899906842624 ∧ E ≤ -274877906944)
theorem exV_hi (t : Ft) (n d m : Int) (h : fok t = true) (hd : 1 ≤ d) (hm : 1 ≤ m) (hm3 : m ≤ 3) (hx : 1152921504606846976 / t.den < n / d) : 274877906944 ≤ exV t n d m := by
  have hf := fok_bd h
  have h1 : (1152921504606846976 / t.den + 1) * t.den ≤ n / d * t.den := Int.mul_le_mul_of_nonneg_right (by omega) (by omega)
  have h2 := Int.lt_ediv_add_one_mul_self 1152921504606846976 (show 0 < t.den by omega)
  have h3 : n / d * t.den ≤ n * t.den / d := by
    refine Int.le_ediv_of_mul_le (by omega) ?_
    have := Int.mul_le_mul_of_nonneg_right (Int.ediv_mul_le n (show d ≠ 0 by omega)) (show 0 ≤ t.den by omega)
    rw [show n / d * t.den * d = n / d * d * t.den by grind]; exact this
  unfold exV
  rw [two_steps _ _ _ _ _ (by omega) (by omega)]
  generalize n * t.den = a at *
  have hq := Int.mul_ediv_add_emod a d
  have hq0 := Int.emod_nonneg a (show d ≠ 0 by omega)
  split
  · exact ex_big (c := 0) (A := 1152921503533105152) (by omega) (by omega) (by omega) (by omega) (by omega)
  · split
    · have h4 : -a / d ≤ -1152921504606846976 := by
        have : -(a / d) * d = -(d * (a / d)) := by grind
        have h5 : -a / d ≤ -(a / d) := Int.ediv_le_of_le_mul (by omega) (by omega)
        omega
      have := ex_small (x := t.off - -(-a / d)) (num := t.num) (A := 1152921503533105152) (B := 274877906944) (by omega) (by omega) (by omega) (by omega) (by omega)
      omega
    · have h4 : 2 * (a / d) ≤ 2 * a / d := Int.le_ediv_of_mul_le (by omega) (by rw [Int.mul_assoc, Int.mul_comm (a / d) d]; omega)
      exact ex_big (c := 0) (A := 2305843007066210304) (by omega) (by omega) (by omega) (by omega) (by omega)
theorem exV_lo (t : Ft) (n d m : Int) (h : fok t = true) (hd : 1 ≤ d) (hm : 1 ≤ m) (hm3 : m ≤ 3) (hx : n / d < -(1152921504606846976 / t.den)) : exV t n d m ≤ -274877906944 := by
  have hf := fok_bd h
  have h1 : (n / d + 1) * t.den ≤ -(1152921504606846976 / t.den) * t.den := Int.mul_le_mul_of_nonneg_right (by omega) (by omega)
  have h2 := Int.lt_ediv_add_one_mul_self 1152921504606846976 (show 0 < t.den by omega)
  have h3 : n * t.den / d < (n / d + 1) * t.den := by
    refine Int.ediv_lt_of_lt_mul (by omega) ?_
    have := Int.mul_lt_mul_of_pos_right (Int.lt_ediv_add_one_mul_self n (show 0 < d by omega)) (show 0 < t.den by omega)
    rw [show (n / d + 1) * t.den * d = (n / d + 1) * d * t.den by grind]; exact this
  have h6 : -(1152921504606846976 / t.den) * t.den = -(1152921504606846976 / t.den * t.den) := by grind
  have h7 : (1152921504606846976 / t.den + 1) * t.den = 1152921504606846976 / t.den * t.den + t.den := by grind
  unfold exV
  rw [two_steps _ _ _ _ _ (by omega) (by omega)]
  generalize n * t.den = a at *
  have hq := Int.mul_ediv_add_emod a d
  have hq0 := Int.emod_nonneg a (show d ≠ 0 by omega)
  have hq1 := Int.emod_lt_of_pos a (show 0 < d by omega)
  split
  · exact ex_small (A := 1152921503531000000) (by omega) (by omega) (by omega) (by omega) (by omega)
  · split
    · have h4 : 1152921504605000000 ≤ -a / d := by
        have h5 : -(a / d) - 1 ≤ -a / d := Int.le_ediv_of_mul_le (by omega) (by
          have : (-(a / d) - 1) * d = -(d * (a / d)) - d := by grind
          omega)
        omega
      have := ex_big (c := 0) (x := t.off - -(-a / d)) (num := t.num) (A := 1152921503531000000) (B := 274877906944) (by omega) (by omega) (by omega) (by omega) (by omega)
      omega
    · have h4 : 2 * a / d ≤ 2 * (a / d) + 1 := by
        have : 2 * a / d < 2 * (a / d) + 2 := Int.ediv_lt_of_lt_mul (by omega) (by
          have : (2 * (a / d) + 2) * d = 2 * (d * (a / d)) + 2 * d := by grind
          omega)
        omega
      exact ex_small (A := 2305843007050000000) (by omega) (by omega) (by omega) (by omega) (by omega)
theorem exact_small (t : Ft) (n d m : Int) (h : fok t = true) (hd : 1 ≤ d) (hd2 : d ≤ 1099511627776) (hn1 : -1152921504606846976 ≤ n) (hn2 : n ≤ 1152921504606846976) (hm : 1 ≤ m) (hm3 : m ≤ 3) :
    ∃ p, CallOk Try.prog 74 [fx t, ra n d, I m] [] (I p) [] ∧ ExP (exV t n d m) p := by
  by_cases h1 : 1152921504606846976 / t.den < n / d
  · exact ⟨_, exact_hi t n d m h hd (by omega) hn1 hn2 h1, .inr (.inl ⟨rfl, exV_hi t n d m h hd hm hm3 h1⟩)⟩
  by_cases h2 : n / d < -(1152921504606846976 / t.den)
  · exact ⟨_, exact_lo t n d m h hd (by omega) hn1 hn2 h2, .inr (.inr ⟨rfl, exV_lo t n d m h hd hm hm3 h2⟩)⟩
  exact ⟨_, exact_mid t n d m h hd hd2 hn1 hn2 hm hm3 (by omega) (by omega), .inl rfl⟩
def uq (t u : Ft) : Bool := (t.m == u.m) && ((t.kg == u.kg) && ((t.s == u.s) && ((t.a == u.a) && (t.k == u.k))))
theorem uq_iff (t u : Ft) : uq t u = true ↔ (t.m, t.kg, t.s, t.a, t.k) = (u.m, u.kg, u.s, u.a, u.k) := by
  unfold uq; simp
theorem fvalid_no (t : Ft) (h : fok t = false) : CallOk Try.prog 70 [fx t] [] (Bo false) [] := by
  have := fvalid t
  rw [h] at this
  exact this
end Go.Proofs.Ytcdclmelnnbdnaa.Fx