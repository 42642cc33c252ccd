/- Big integers: Add; plain laws of Mul. -/
import Derived.Test.YtnolflocgodffaaH6
namespace Go.Proofs.Ytnolflocgodffaa
open Vg Tf
set_option linter.unusedSimpArgs false
set_option linter.unusedVariables false
set_option maxRecDepth 100000
set_option maxHeartbeats 2000000
def zlen (n : Int) : Prop := (dg n.natAbs).length ≤ 1000000
theorem zadd_ (m n : Int) (hm : zlen m) (hn : zlen n) : ∃ p, CallOk Try.prog 74 [bn 1 m, bn 2 n] [bI 1 m, bI 2 n] (bn 3 (m + n)) [bO 3 (m + n) p] := by
  by_cases hs : (m < 0 ↔ n < 0)
  · refine ⟨adP m.natAbs n.natAbs, ?_⟩
    have h := zaddS (decide (m < 0)) m.natAbs n.natAbs hm hn
    have e1 : decide (n < 0) = decide (m < 0) := by rw [decide_eq_decide]; exact hs.symm
    have e2 : (m + n).natAbs = m.natAbs + n.natAbs := by omega
    have e3 : decide (m + n < 0) = decide (m < 0) := by rw [decide_eq_decide]; omega
    simp only [bn, bO, e1, e2, e3]
    exact h
  · have e1 : decide (n < 0) = !decide (m < 0) := by
      by_cases h : m < 0
      · rw [decide_eq_true h, decide_eq_false (by omega)]; rfl
      · rw [decide_eq_false h, decide_eq_true (by omega)]; rfl
    rcases Nat.lt_or_ge m.natAbs n.natAbs with hl | hl
    · refine ⟨sbP n.natAbs m.natAbs, ?_⟩
      have h := zaddD' (decide (m < 0)) m.natAbs n.natAbs hl hm hn
      have e2 : (m + n).natAbs = n.natAbs - m.natAbs := by omega
      have e3 : decide (m + n < 0) = !decide (m < 0) := by rw [← e1, decide_eq_decide]; omega
      simp only [bn, bO, e1, e2, e3]
      exact h
    · refine ⟨sbP m.natAbs n.natAbs, ?_⟩
      have h := zaddD (decide (m < 0)) m.natAbs n.natAbs hl hm hn
      have e2 : (m + n).natAbs = m.natAbs - n.natAbs := by omega
      have e3 : decide (m + n < 0) = (decide (m < 0) && decide (m.natAbs - n.natAbs ≠ 0)) := by
        rw [Bool.eq_iff_iff, Bool.and_eq_true, decide_eq_true_eq, decide_eq_true_eq, decide_eq_true_eq]; omega
      simp only [bn, bO, e1, e2, e3]
      exact h
/-- The state of the outer loop of Mul. -/
structure MuI (a b : Nat) (i : Nat) (out : List Nat) : Prop where
  len : out.length = (dg a).length + (dg b).length + 1
  lt : ∀ d ∈ out, d < (16777216 : Nat)
  val : bval out + (16777216 : Nat) ^ i * bval ((dg a).drop i) * b = a * b
  bd : bval out < (16777216 : Nat) ^ (i + (dg b).length)
  fin : i ≤ (dg a).length
/-- The state of the inner loop: T is what the list is to hold in the end. -/
structure MuJ (a b : Nat) (i : Nat) (T : Nat) (k c : Nat) (out : List Nat) : Prop where
  len : out.length = (dg a).length + (dg b).length + 1
  lt : ∀ d ∈ out, d < (16777216 : Nat)
  c1 : c < (16777216 : Nat)
  val : bval out + (16777216 : Nat) ^ (i + k) * (c + (dg a).getD i 0 * bval ((dg b).drop k)) = T
  bd : T < (16777216 : Nat) ^ (i + (dg b).length + 1)
  k1 : k ≤ (dg b).length + 1
theorem MuJ.idx {a b i T k c : Nat} {out : List Nat} (h : MuJ a b i T k c out) (hi : i < (dg a).length) (hc : k < (dg b).length ∨ 0 < c) : i + k < out.length ∧ k ≤ (dg b).length := by
  have hl := h.len
  rcases hc with hc | hc
  · omega
  · have hv := h.val
    have hb := h.bd
    have h1 := Nat.mul_le_mul_left ((16777216 : Nat) ^ (i + k)) (show 1 ≤ c + (dg a).getD i 0 * bval ((dg b).drop k) by omega)
    rcases Nat.lt_or_ge (dg b).length k with hk | hk
    · have : (16777216 : Nat) ^ (i + (dg b).length + 1) ≤ (16777216 : Nat) ^ (i + k) := Nat.pow_le_pow_right (by omega) (by omega)
      omega
    · omega
theorem MuJ.step {a b i T k c : Nat} {out : List Nat} (h : MuJ a b i T k c out) (hi : i < (dg a).length) (hc : k < (dg b).length ∨ 0 < c) :
    MuJ a b i T (k + 1) ((out.getD (i + k) 0 + (dg a).getD i 0 * (dg b).getD k 0 + c) / (16777216 : Nat)) (out.set (i + k) ((out.getD (i + k) 0 + (dg a).getD i 0 * (dg b).getD k 0 + c) % (16777216 : Nat))) := by
  obtain ⟨hx, hk⟩ := h.idx hi hc
  have hA := dg_d a i
  have hB := dg_d b k
  have hO : out.getD (i + k) 0 < (16777216 : Nat) := by
    rw [List.getD_eq_getElem?_getD, List.getElem?_eq_getElem hx]; exact h.lt _ (List.getElem_mem hx)
  have hv := h.val
  rw [bval_drop (dg b) k] at hv
  have hset := bval_set out (i + k) ((out.getD (i + k) 0 + (dg a).getD i 0 * (dg b).getD k 0 + c) % (16777216 : Nat)) hx
  have c1 := h.c1
  generalize out.getD (i + k) 0 = o at *
  generalize hX : (dg a).getD i 0 = x at hA hv hset ⊢
  generalize (dg b).getD k 0 = y at *
  have hxy : x * y ≤ ((16777216 : Nat) - 1) * ((16777216 : Nat) - 1) := Nat.mul_le_mul (by omega) (by omega)
  have e := Nat.mod_add_div (o + x * y + c) (16777216 : Nat)
  refine ⟨by rw [List.length_set]; exact h.len, ?_, ?_, ?_, h.bd, by omega⟩
  · intro d hd
    rcases List.mem_or_eq_of_mem_set hd with hd | rfl
    · exact h.lt d hd
    · exact Nat.mod_lt _ (by omega)
  · generalize x * y = z at *
    omega
  · generalize (o + x * y + c) % (16777216 : Nat) = r at *
    generalize (o + x * y + c) / (16777216 : Nat) = q at *
    generalize bval ((dg b).drop (k + 1)) = B at *
    rw [hX, show i + (k + 1) = (i + k) + 1 by omega, Nat.pow_succ]
    have e2 : (16777216 : Nat) ^ (i + k) * (r + (16777216 : Nat) * q) = (16777216 : Nat) ^ (i + k) * (o + x * y + c) := by rw [e]
    have e3 : (16777216 : Nat) ^ (i + k) * (c + x * (y + (16777216 : Nat) * B)) = (16777216 : Nat) ^ (i + k) * c + (16777216 : Nat) ^ (i + k) * (x * y) + (16777216 : Nat) ^ (i + k) * (16777216 : Nat) * (x * B) := by grind
    have e4 : (16777216 : Nat) ^ (i + k) * (16777216 : Nat) * (q + x * B) = (16777216 : Nat) ^ (i + k) * (16777216 : Nat) * q + (16777216 : Nat) ^ (i + k) * (16777216 : Nat) * (x * B) := by grind
    have e5 : (16777216 : Nat) ^ (i + k) * (r + (16777216 : Nat) * q) = (16777216 : Nat) ^ (i + k) * r + (16777216 : Nat) ^ (i + k) * (16777216 : Nat) * q := by grind
    have e6 : (16777216 : Nat) ^ (i + k) * (o + x * y + c) = (16777216 : Nat) ^ (i + k) * o + (16777216 : Nat) ^ (i + k) * (x * y) + (16777216 : Nat) ^ (i + k) * c := by grind
    rw [e3] at hv
    rw [e4]
    rw [e5, e6] at e2
    omega
theorem MuJ.start {a b i : Nat} {out : List Nat} (h : MuI a b i out) (hi : i < (dg a).length) : MuJ a b i (bval out + (16777216 : Nat) ^ i * ((dg a).getD i 0 * b)) 0 0 out := by
  refine ⟨h.len, h.lt, by omega, by simp [bval_dg], ?_, by omega⟩
  have h1 := h.bd
  have hA := dg_d a i
  have h2 := bval_lt (dg b) (dg_lt b)
  rw [bval_dg] at h2
  have h3 : (dg a).getD i 0 * b ≤ ((16777216 : Nat) - 1) * (16777216 : Nat) ^ (dg b).length := Nat.mul_le_mul (by omega) (by omega)
  have h4 := Nat.mul_le_mul_left ((16777216 : Nat) ^ i) h3
  have e : (16777216 : Nat) ^ i * (((16777216 : Nat) - 1) * (16777216 : Nat) ^ (dg b).length) = ((16777216 : Nat) - 1) * (16777216 : Nat) ^ (i + (dg b).length) := by rw [Nat.pow_add]; grind
  rw [e] at h4
  rw [Nat.pow_succ]
  omega
theorem MuJ.done {a b i T k c : Nat} {out : List Nat} (h : MuJ a b i T k c out) (hc : ¬ (k < (dg b).length ∨ 0 < c)) : bval out = T := by
  have hv := h.val
  rw [List.drop_eq_nil_of_le (by omega), show c = 0 by omega] at hv
  simpa [bval] using hv
theorem MuI.next {a b i k c : Nat} {out out' : List Nat} (h : MuI a b i out) (hi : i < (dg a).length) (h' : MuJ a b i (bval out + (16777216 : Nat) ^ i * ((dg a).getD i 0 * b)) k c out') (hc : ¬ (k < (dg b).length ∨ 0 < c)) : MuI a b (i + 1) out' := by
  have hd := h'.done hc
  refine ⟨h'.len, h'.lt, ?_, ?_, by omega⟩
  · have hv := h.val
    rw [bval_drop (dg a) i] at hv
    rw [hd, Nat.pow_succ, ← hv]
    generalize (dg a).getD i 0 = x
    generalize bval ((dg a).drop (i + 1)) = A
    grind
  · have := h'.bd
    rw [hd, show i + 1 + (dg b).length = i + (dg b).length + 1 by omega]
    exact this
theorem MuI.done {a b i : Nat} {out : List Nat} (h : MuI a b i out) (hi : ¬ i < (dg a).length) : bval out = a * b := by
  have hv := h.val
  have hf := h.fin
  rw [List.drop_eq_nil_of_le (by omega)] at hv
  simpa [bval] using hv
def muP (a b : Nat) : List Nat := List.replicate ((dg a).length + (dg b).length + 1 - (dg (a * b)).length) 0
theorem MuI.out {a b i : Nat} {out : List Nat} (h : MuI a b i out) (hi : ¬ i < (dg a).length) : out = dg (a * b) ++ muP a b := by
  obtain ⟨k, hk⟩ := dg_split out h.lt
  rw [h.done hi] at hk
  have hl := congrArg List.length hk
  rw [List.length_append, List.length_replicate, h.len] at hl
  rw [muP, show (dg a).length + (dg b).length + 1 - (dg (a * b)).length = k by omega]
  exact hk
theorem MuI.start (a b : Nat) : MuI a b 0 (List.replicate ((dg a).length + (dg b).length + 1) 0) := by
  refine ⟨by simp, fun d hd => by rw [List.eq_of_mem_replicate hd]; omega, ?_, ?_, by omega⟩
  · rw [bval_zeros]; simp [bval_dg]
  · rw [bval_zeros]; exact Nat.pow_pos (by omega)
end Go.Proofs.Ytnolflocgodffaa
