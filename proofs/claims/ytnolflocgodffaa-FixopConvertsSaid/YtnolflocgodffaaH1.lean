/- Digits of base 2^24: plain laws. -/
import Derived.Test.YtnolflocgodffaaD3
namespace Go.Proofs.Ytnolflocgodffaa
open Vg Tf
set_option linter.unusedSimpArgs false
set_option linter.unusedVariables false
set_option maxRecDepth 100000
def bval : List Nat → Nat
  | [] => 0
  | d :: r => d + (16777216 : Nat) * bval r
def dg (n : Nat) : List Nat := if h : n = 0 then [] else n % (16777216 : Nat) :: dg (n / (16777216 : Nat))
termination_by n
decreasing_by exact Nat.div_lt_self (by omega) (by decide)
theorem dg_zero : dg 0 = [] := by rw [dg]; rfl
theorem dg_pos {n : Nat} (h : n ≠ 0) : dg n = n % (16777216 : Nat) :: dg (n / (16777216 : Nat)) := by rw [dg, dif_neg h]
theorem bval_dg (n : Nat) : bval (dg n) = n := by
  induction n using Nat.strongRecOn with
  | ind n ih =>
    by_cases h : n = 0
    · subst h; rw [dg_zero]; rfl
    · rw [dg_pos h, bval, ih _ (Nat.div_lt_self (by omega) (by decide))]
      exact Nat.mod_add_div n (16777216 : Nat)
theorem dg_lt (n : Nat) : ∀ d ∈ dg n, d < (16777216 : Nat) := by
  induction n using Nat.strongRecOn with
  | ind n ih =>
    by_cases h : n = 0
    · subst h; rw [dg_zero]; simp
    · rw [dg_pos h]
      intro d hd
      rcases List.mem_cons.1 hd with rfl | hd
      · exact Nat.mod_lt _ (by decide)
      · exact ih _ (Nat.div_lt_self (by omega) (by decide)) d hd
theorem bval_drop (l : List Nat) : ∀ i, bval (l.drop i) = l.getD i 0 + (16777216 : Nat) * bval (l.drop (i + 1)) := by
  induction l with
  | nil => intro i; simp [bval]
  | cons a l ih =>
    intro i
    cases i with
    | zero => simp [bval]
    | succ i => simpa using ih i
theorem bval_append (l r : List Nat) : bval (l ++ r) = bval l + (16777216 : Nat) ^ l.length * bval r := by
  induction l with
  | nil => simp [bval]
  | cons a l ih => simp only [List.cons_append, bval, ih, List.length_cons, Nat.pow_succ]; grind
theorem bval_lt : ∀ (l : List Nat), (∀ d ∈ l, d < (16777216 : Nat)) → bval l < (16777216 : Nat) ^ l.length
  | [], _ => by simp [bval]
  | a :: l, h => by
    have h1 := bval_lt l (fun d hd => h d (List.mem_cons_of_mem _ hd))
    have h2 := h a (List.mem_cons_self ..)
    simp only [bval, List.length_cons, Nat.pow_succ]
    have h3 := Nat.mul_le_mul_right (16777216 : Nat) (show bval l + 1 ≤ (16777216 : Nat) ^ l.length from h1)
    rw [Nat.add_mul, Nat.one_mul] at h3
    rw [Nat.mul_comm (16777216 : Nat)]
    omega
/-- Digits without a zero at the end. -/
def nz (l : List Nat) : Prop := ∀ k, l.length = k + 1 → l.getD k 0 ≠ 0
theorem dg_nz (n : Nat) : nz (dg n) := by
  induction n using Nat.strongRecOn with
  | ind n ih =>
    by_cases h : n = 0
    · subst h; rw [dg_zero]; intro k hk; simp at hk
    · rw [dg_pos h]
      intro k hk
      cases k with
      | zero =>
        simp at hk
        simp
        intro h0
        have : n / (16777216 : Nat) = 0 := by
          by_cases h1 : n / (16777216 : Nat) = 0
          · exact h1
          · rw [dg_pos h1] at hk; cases hk
        have := Nat.mod_add_div n (16777216 : Nat)
        omega
      | succ k =>
        simp at hk
        simpa using ih _ (Nat.div_lt_self (by omega) (by decide)) k hk
theorem dg_bval : ∀ (l : List Nat), (∀ d ∈ l, d < (16777216 : Nat)) → nz l → dg (bval l) = l
  | [], _, _ => dg_zero
  | a :: l, h, hz => by
    have ha := h a (List.mem_cons_self ..)
    have hz' : nz l := fun k hk => by have := hz (k + 1) (by simp [hk]); simpa using this
    have ih := dg_bval l (fun d hd => h d (List.mem_cons_of_mem _ hd)) hz'
    have e1 : (a + (16777216 : Nat) * bval l) % (16777216 : Nat) = a := by rw [Nat.add_mul_mod_self_left]; exact Nat.mod_eq_of_lt ha
    have e2 : (a + (16777216 : Nat) * bval l) / (16777216 : Nat) = bval l := by rw [Nat.add_mul_div_left _ _ (by decide)]; rw [Nat.div_eq_of_lt ha]; omega
    have hne : a + (16777216 : Nat) * bval l ≠ 0 := by
      intro h0
      cases l with
      | nil => exact hz 0 rfl (by simp [bval] at h0; simpa using h0)
      | cons b l =>
        rw [show bval (b :: l) = 0 by omega, dg_zero] at ih
        cases ih
    rw [bval, dg_pos hne, e1, e2, ih]
theorem bval_zeros (k : Nat) : bval (List.replicate k 0) = 0 := by
  induction k with
  | zero => rfl
  | succ k ih => simp [List.replicate_succ, bval, ih]
theorem split_z : ∀ (l : List Nat), ∃ r k, l = r ++ List.replicate k 0 ∧ nz r
  | [] => ⟨[], 0, rfl, fun k hk => by simp at hk⟩
  | a :: l => by
    obtain ⟨r, k, hr, hz⟩ := split_z l
    by_cases h : r = [] ∧ a = 0
    · refine ⟨[], k + 1, ?_, fun k hk => by simp at hk⟩
      rw [hr, h.1, h.2]; simp [List.replicate_succ]
    · refine ⟨a :: r, k, by rw [hr]; rfl, ?_⟩
      intro j hj
      cases j with
      | zero => simp at hj; simp; intro h0; exact h ⟨hj, h0⟩
      | succ j => simp at hj; simpa using hz j hj
theorem dg_split (l : List Nat) (h : ∀ d ∈ l, d < (16777216 : Nat)) : ∃ k, l = dg (bval l) ++ List.replicate k 0 := by
  obtain ⟨r, k, hr, hz⟩ := split_z l
  refine ⟨k, ?_⟩
  have e : bval l = bval r := by rw [hr, bval_append, bval_zeros]; omega
  rw [e, dg_bval r (fun d hd => h d (by rw [hr]; exact List.mem_append_left _ hd)) hz]
  exact hr
theorem bval_set : ∀ (l : List Nat) (j x : Nat), j < l.length → bval (l.set j x) + (16777216 : Nat) ^ j * l.getD j 0 = bval l + (16777216 : Nat) ^ j * x
  | [], j, x, h => by simp at h
  | a :: l, 0, x, h => by simp [bval]; omega
  | a :: l, j + 1, x, h => by
    have ih := bval_set l j x (by simpa using h)
    simp only [List.set_cons_succ, bval, List.getD_cons_succ, Nat.pow_succ]
    have e1 : (16777216 : Nat) ^ j * (16777216 : Nat) * l.getD j 0 = (16777216 : Nat) * ((16777216 : Nat) ^ j * l.getD j 0) := by grind
    have e2 : (16777216 : Nat) ^ j * (16777216 : Nat) * x = (16777216 : Nat) * ((16777216 : Nat) ^ j * x) := by grind
    rw [e1, e2]
    have : (16777216 : Nat) * (bval (l.set j x) + (16777216 : Nat) ^ j * l.getD j 0) = (16777216 : Nat) * (bval l + (16777216 : Nat) ^ j * x) := by rw [ih]
    rw [Nat.mul_add, Nat.mul_add] at this
    omega
theorem nz_ge (l : List Nat) (hz : nz l) (k : Nat) (hl : l.length = k + 1) : (16777216 : Nat) ^ k ≤ bval l := by
  have h1 : l = l.take k ++ l.drop k := (List.take_append_drop k l).symm
  have h2 := bval_append (l.take k) (l.drop k)
  rw [← h1, bval_drop, List.length_take, show min k l.length = k by omega] at h2
  have h3 := hz k hl
  have : 1 ≤ l.getD k 0 + (16777216 : Nat) * bval (l.drop (k + 1)) := by omega
  have := Nat.mul_le_mul_left ((16777216 : Nat) ^ k) this
  omega
/-- Longer is greater. -/
theorem dg_len {a b : Nat} (h : (dg a).length < (dg b).length) : a < b := by
  have h1 := bval_lt (dg a) (dg_lt a)
  obtain ⟨k, hk⟩ : ∃ k, (dg b).length = k + 1 := ⟨(dg b).length - 1, by omega⟩
  have h2 := nz_ge (dg b) (dg_nz b) k hk
  rw [bval_dg] at h1 h2
  have h3 : (16777216 : Nat) ^ (dg a).length ≤ (16777216 : Nat) ^ k := Nat.pow_le_pow_right (by decide) (by omega)
  omega
/-- The first digit from above that differs decides. -/
theorem dg_first {l r : List Nat} (hl : ∀ d ∈ l, d < (16777216 : Nat)) (hr : ∀ d ∈ r, d < (16777216 : Nat)) (he : l.length = r.length) (i : Nat) (hi : i < l.length) (hd : bval (l.drop (i + 1)) = bval (r.drop (i + 1))) (hlt : l.getD i 0 < r.getD i 0) : bval l < bval r := by
  have h1 := bval_append (l.take i) (l.drop i)
  have h2 := bval_append (r.take i) (r.drop i)
  rw [List.take_append_drop, List.length_take, show min i l.length = i by omega, bval_drop] at h1
  rw [List.take_append_drop, List.length_take, show min i r.length = i by omega, bval_drop] at h2
  have h3 := bval_lt (l.take i) (fun d hd => hl d (List.mem_of_mem_take hd))
  rw [List.length_take, show min i l.length = i by omega] at h3
  rw [hd] at h1
  have h4 := Nat.mul_le_mul_left ((16777216 : Nat) ^ i) (show l.getD i 0 + (16777216 : Nat) * bval (r.drop (i + 1)) + 1 ≤ r.getD i 0 + (16777216 : Nat) * bval (r.drop (i + 1)) by omega)
  rw [Nat.mul_add, Nat.mul_one] at h4
  omega
theorem dg_bound (n k : Nat) (h : n < (16777216 : Nat) ^ k) : (dg n).length ≤ k := by
  rcases Nat.lt_or_ge k (dg n).length with h1 | h1
  · obtain ⟨j, hj⟩ : ∃ j, (dg n).length = j + 1 := ⟨(dg n).length - 1, by omega⟩
    have h2 := nz_ge (dg n) (dg_nz n) j hj
    rw [bval_dg] at h2
    have : (16777216 : Nat) ^ k ≤ (16777216 : Nat) ^ j := Nat.pow_le_pow_right (by decide) (by omega)
    omega
  · exact h1
end Go.Proofs.Ytnolflocgodffaa
