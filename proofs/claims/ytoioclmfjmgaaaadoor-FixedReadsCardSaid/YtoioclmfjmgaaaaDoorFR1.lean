/- FixedReads, the plain law: what fixed.Text writes with six digits fixed.Parse reads back. -/
import Derived.Test.YtoioclmfjmgaaaaDoorFT2
import Derived.Test.YtoioclmfjmgaaaaDoorFP4
import Derived.Test.YtoioclmfjmgaaaaDoorUB
namespace Go.Proofs.YtoioclmfjmgaaaaDoor.Fx
open Vg Tf
set_option maxRecDepth 100000
set_option maxHeartbeats 4000000
set_option linter.unusedSimpArgs false
/-! ### digits -/
def isD (c : UInt8) : Prop := 48 ≤ c.toNat ∧ c.toNat ≤ 57
theorem dig_ofNat {d : Nat} (h : d < 10) : digB (UInt8.ofNat (48 + d)) = true ∧ (UInt8.ofNat (48 + d)).toNat = 48 + d := by
  have e : (UInt8.ofNat (48 + d)).toNat = 48 + d := by simp; omega
  refine ⟨?_, e⟩
  unfold digB
  rw [e]
  simp; omega
theorem dd_step (n : Nat) (h : ¬ n < 10) : Lib.decDigits n = Lib.decDigits (n / 10) ++ [UInt8.ofNat (48 + n % 10)] := by
  rw [Lib.decDigits, dif_neg h]
theorem numF_app : ∀ (l m : List UInt8) (a : Nat), numF a (l ++ m) = (numF a l).bind fun k => numF k m
  | [], m, a => rfl
  | c :: l, m, a => by
    rw [List.cons_append, numF, numF]
    split
    · exact numF_app l m _
    · rfl
theorem numF_one (a d : Nat) (h : d < 10) : numF a [UInt8.ofNat (48 + d)] = some (10 * a + d) := by
  obtain ⟨h1, h2⟩ := dig_ofNat h
  simp only [numF, h1, if_true, h2]
  congr 1; omega
theorem numF_dd : ∀ (n : Nat), numF 0 (Lib.decDigits n) = some n := by
  intro n
  induction n using Nat.strongRecOn with
  | _ n ih =>
    by_cases h : n < 10
    · rw [Lib.decDigits_one h, numF_one 0 n h]; simp
    · rw [dd_step n h, numF_app, ih (n / 10) (by omega), Option.bind_some, numF_one _ _ (by omega)]
      congr 1; omega
theorem dd_drop' (n : Nat) (h : 10 ≤ n) : (Lib.decDigits n).drop 1 = (Lib.decDigits (n / 10)).drop 1 ++ [UInt8.ofNat (48 + n % 10)] := by
  rw [dd_step n (by omega)]
  have : (Lib.decDigits (n / 10)).length ≠ 0 := by
    by_cases h2 : n / 10 < 10
    · rw [Lib.decDigits_one h2]; simp
    · rw [dd_step _ h2]; simp
  rw [List.drop_append_of_le_length (by omega)]
theorem numF_pad : ∀ (k x a : Nat), x < 10 ^ k → numF a ((Lib.decDigits (10 ^ k + x)).drop 1) = some (a * 10 ^ k + x) ∧ ((Lib.decDigits (10 ^ k + x)).drop 1).length = k
  | 0, x, a, h => by
    obtain rfl : x = 0 := by simpa using h
    rw [Lib.decDigits_one (by omega)]
    simp [numF]
  | k + 1, x, a, h => by
    have hp : 10 ^ (k + 1) = 10 * 10 ^ k := by rw [Nat.pow_succ, Nat.mul_comm]
    have hp0 : 0 < 10 ^ k := Nat.pow_pos (by omega)
    have e1 : (10 ^ (k + 1) + x) / 10 = 10 ^ k + x / 10 := by omega
    have e2 : (10 ^ (k + 1) + x) % 10 = x % 10 := by omega
    rw [dd_drop' _ (by omega), e1, e2]
    obtain ⟨h1, h2⟩ := numF_pad k (x / 10) a (by omega)
    rw [numF_app, h1, Option.bind_some, numF_one _ _ (by omega), List.length_append, h2]
    refine ⟨?_, rfl⟩
    congr 1
    have : a * 10 ^ (k + 1) = 10 * (a * 10 ^ k) := by rw [hp]; rw [Nat.mul_left_comm]
    omega
theorem dd_all : ∀ (n : Nat), ∀ c ∈ Lib.decDigits n, digB c = true := by
  intro n
  induction n using Nat.strongRecOn with
  | _ n ih =>
    intro c hc
    by_cases h : n < 10
    · rw [Lib.decDigits_one h] at hc
      simp only [List.mem_singleton] at hc
      rw [hc]; exact (dig_ofNat h).1
    · rw [dd_step n h, List.mem_append] at hc
      rcases hc with hc | hc
      · exact ih (n / 10) (by omega) c hc
      · simp only [List.mem_singleton] at hc
        rw [hc]; exact (dig_ofNat (by omega)).1
theorem dd_hd : ∀ (n : Nat), Lib.decDigits n ≠ [] ∧ (0 < n → (Lib.decDigits n).getD 0 0 ≠ 48) := by
  intro n
  induction n using Nat.strongRecOn with
  | _ n ih =>
    by_cases h : n < 10
    · rw [Lib.decDigits_one h]
      refine ⟨by simp, fun h0 hh => ?_⟩
      have e := (dig_ofNat h).2
      have hh : UInt8.ofNat (48 + n) = 48 := hh
      rw [hh] at e
      have : (48 : UInt8).toNat = 48 := rfl
      omega
    · obtain ⟨h1, h2⟩ := ih (n / 10) (by omega)
      rw [dd_step n h]
      refine ⟨by simp, fun _ => ?_⟩
      have h2 := h2 (by omega)
      cases hq : Lib.decDigits (n / 10) with
      | nil => exact absurd hq h1
      | cons c r => rw [hq] at h2; exact h2
theorem not_mem_dig {c : UInt8} (hc : digB c = false) {l : List UInt8} (h : ∀ x ∈ l, digB x = true) : c ∉ l := fun hm => by
  rw [h c hm] at hc; cases hc
theorem cutB_app {c : UInt8} (b : List UInt8) : ∀ {a : List UInt8}, c ∉ a → cutB c (a ++ c :: b) = (a, b, true)
  | [], _ => by rw [List.nil_append, cutB_cons, if_pos rfl]
  | x :: a, h => by
    rw [List.cons_append, cutB_cons, if_neg (fun e => h (by simp [e])), cutB_app b (fun hm => h (by simp [hm]))]
theorem cutB_none {c : UInt8} : ∀ {a : List UInt8}, c ∉ a → cutB c a = (a, [], false)
  | [], _ => rfl
  | x :: a, h => by
    rw [cutB_cons, if_neg (fun e => h (by simp [e])), cutB_none (fun hm => h (by simp [hm]))]
/-! ### the number read -/
theorem decQ_mk (neg : Bool) (q x : Nat) (hx : x < 1000000) (hn : neg = true → ¬ q * 1000000 + x = 0) (s : List UInt8) (hs : s = (if neg = true then [45] else []) ++ Lib.decDigits q ++ 46 :: (Lib.decDigits (1000000 + x)).drop 1) (h18 : s.length ≤ 18) :
    dcR s = (if neg = true then -((q * 1000000 + x : Nat) : Int) else ((q * 1000000 + x : Nat) : Int), 1000000, true) := by
  have hp := numF_pad 6 x
  have e6 : 10 ^ 6 = 1000000 := rfl
  rw [e6] at hp
  have hq := numF_dd q
  have hall := dd_all q
  obtain ⟨hne, hhd⟩ := dd_hd q
  have hd1 : q < 10 → (Lib.decDigits q).length = 1 := fun h => by rw [Lib.decDigits_one h]; rfl
  have hpl := (hp 0 hx).2
  have hpn := (hp q hx).1
  generalize (Lib.decDigits (1000000 + x)).drop 1 = f at *
  generalize Lib.decDigits q = w at *
  have hcp : cpf s = (w ++ 46 :: f, neg) := by
    subst hs
    cases neg with
    | true => rfl
    | false =>
      cases w with
      | nil => exact absurd rfl hne
      | cons c r =>
        have hc := hall c (by simp)
        show (if c = 45 then _ else _) = _
        rw [if_neg]
        · rfl
        · rintro rfl; exact absurd hc (by decide)
  have h46 : (46 : UInt8) ∉ w := not_mem_dig (by decide) hall
  have hcut := cutB_app f h46
  have hbad : badF w f true = false := by
    unfold badF
    have a1 : decide (w = []) = false := fal_of hne
    have a2 : decide (f = []) = false := fal_of (fun h => by rw [h] at hpl; simp at hpl)
    have a3 : decide (6 < f.length) = false := fal_of (by omega)
    have a4 : (decide (1 < w.length) && decide (w.getD 0 0 = 48)) = false := by
      by_cases h0 : 0 < q
      · rw [fal_of (hhd h0), Bool.and_false]
      · have := hd1 (by omega)
        rw [fal_of (by omega), Bool.false_and]
    rw [a1, a2, a3, a4]; rfl
  unfold dcR decQ
  rw [if_neg (by omega), hcp]
  simp only [hcut, hbad, numF_app, hq, Option.bind_some, hpn, hpl, Bool.false_eq_true, if_false]
  rw [if_neg (fun h => hn h.1 h.2)]
  rfl
theorem fnT_dig (t : Ft) (raw : Int) (h : fok t = true) (hw : fin t raw = true) :
    ((fnT t raw 6).length ≤ 18 → dcR (fnT t raw 6) = (rnd 3 (fnu t raw * 1000000) t.den, 1000000, true)) ∧ (32 : UInt8) ∉ fnT t raw 6 := by
  have hb := fok_bd h
  have hx0 := fx0_bd (raw := raw) h (show 6 ≤ 6 by omega)
  have e6 : ((10 ^ 6 : Nat) : Int) = 1000000 := rfl
  rw [e6] at hx0
  have hf1 : fq1 t raw 6 = if fx0 t raw 6 = ((10 ^ 6 : Nat) : Int) then fnu t raw / t.den + 1 else fnu t raw / t.den := rfl
  have hf2 : fx1 t raw 6 = if fx0 t raw 6 = ((10 ^ 6 : Nat) : Int) then 0 else fx0 t raw 6 := rfl
  have hf3 : fq2 t raw 6 = if fq1 t raw 6 < 0 then (if 0 < fx1 t raw 6 then -fq1 t raw 6 - 1 else -fq1 t raw 6) else fq1 t raw 6 := rfl
  have hf4 : fx2 t raw 6 = if fq1 t raw 6 < 0 ∧ 0 < fx1 t raw 6 then ((10 ^ 6 : Nat) : Int) - fx1 t raw 6 else fx1 t raw 6 := rfl
  have hf5 : fnT t raw 6 = ((if fq1 t raw 6 < 0 then [45] else []) ++ Lib.itoa (fq2 t raw 6)) ++ (if 6 = 0 then [] else 46 :: (Lib.itoa (((10 ^ 6 : Nat) : Int) + fx2 t raw 6)).drop 1) := rfl
  rw [e6] at hf1 hf2 hf4 hf5
  -- the whole
  have hval : fq1 t raw 6 * 1000000 + fx1 t raw 6 = rnd 3 (fnu t raw * 1000000) t.den := by
    have hv := Int.mul_ediv_add_emod (fnu t raw) t.den
    have hfx : fx0 t raw 6 = (2 * (fnu t raw % t.den * 1000000) + t.den) / (2 * t.den) := by
      unfold fx0 rnd; rw [e6]; rfl
    have hr : rnd 3 (fnu t raw * 1000000) t.den = (2 * (fnu t raw * 1000000) + t.den) / (2 * t.den) := rfl
    have e1 : 2 * (fnu t raw * 1000000) + t.den = (2 * (fnu t raw % t.den * 1000000) + t.den) + (fnu t raw / t.den * 1000000) * (2 * t.den) := by
      conv => lhs; rw [← hv]
      grind
    rw [hr, e1, Int.add_mul_ediv_right _ _ (by omega), ← hfx, hf1, hf2]
    split <;> omega
  have hq1 : 0 ≤ fx1 t raw 6 ∧ fx1 t raw 6 < 1000000 := by rw [hf2]; split <;> omega
  rw [← hval]
  generalize fq1 t raw 6 = q1 at *
  generalize fx1 t raw 6 = x1 at *
  clear hf1 hf2 hval hx0
  have key : ∃ (neg : Bool) (q x : Nat), x < 1000000 ∧ (neg = true → ¬ q * 1000000 + x = 0) ∧ fnT t raw 6 = (if neg = true then [45] else []) ++ Lib.decDigits q ++ 46 :: (Lib.decDigits (1000000 + x)).drop 1 ∧ q1 * 1000000 + x1 = if neg = true then -((q * 1000000 + x : Nat) : Int) else ((q * 1000000 + x : Nat) : Int) := by
    obtain ⟨q, hq⟩ : ∃ q : Nat, fq2 t raw 6 = q := ⟨(fq2 t raw 6).toNat, by rw [hf3]; split <;> (try split) <;> omega⟩
    obtain ⟨x, hx⟩ : ∃ x : Nat, fx2 t raw 6 = x := ⟨(fx2 t raw 6).toNat, by rw [hf4]; split <;> omega⟩
    rw [hq] at hf3 hf5
    rw [hx] at hf4 hf5
    rw [Lib.itoa_nonneg, show (1000000 + (x : Int)) = ((1000000 + x : Nat) : Int) by omega, Lib.itoa_nonneg] at hf5
    by_cases h0 : q1 < 0
    · rw [if_pos h0] at hf3 hf5
      refine ⟨true, q, x, ?_, ?_, ?_, ?_⟩
      · rw [← Int.ofNat_lt, hf4]; split <;> omega
      · intro _
        by_cases hx1 : 0 < x1
        · rw [if_pos ⟨h0, hx1⟩] at hf4; omega
        · rw [if_neg hx1] at hf3; omega
      · rw [hf5]; simp
      · by_cases hx1 : 0 < x1
        · rw [if_pos ⟨h0, hx1⟩] at hf4; rw [if_pos hx1] at hf3; simp only [if_true]; omega
        · rw [if_neg (fun h => hx1 h.2)] at hf4; rw [if_neg hx1] at hf3; simp only [if_true]; omega
    · rw [if_neg h0] at hf3 hf5
      rw [if_neg (fun h => h0 h.1)] at hf4
      refine ⟨false, q, x, by omega, (fun h => by cases h), ?_, ?_⟩
      · rw [hf5]; simp
      · simp only [Bool.false_eq_true, if_false]; omega
  obtain ⟨neg, q, x, hx, hn, hs, hv⟩ := key
  refine ⟨?_, ?_⟩
  · intro h18
    rw [decQ_mk neg q x hx hn _ hs h18, hv]
  · rw [hs]
    have h1 : (32 : UInt8) ∉ Lib.decDigits q := not_mem_dig (by decide) (dd_all q)
    have h2 : (32 : UInt8) ∉ (Lib.decDigits (1000000 + x)).drop 1 := fun hm => not_mem_dig (by decide) (dd_all (1000000 + x)) (List.mem_of_mem_drop hm)
    simp only [List.mem_append, List.mem_cons, not_or]
    refine ⟨⟨?_, h1⟩, by decide, h2⟩
    cases neg <;> simp
/-! ### the value -/
theorem exV_back (t : Ft) (raw : Int) (hn : 1 ≤ t.num) (hd : 1 ≤ t.den) (hg : t.den / 100000 < t.num) : exV t (rnd 3 (fnu t raw * 1000000) t.den) 1000000 3 = raw := by
  have hW : rnd 3 (fnu t raw * 1000000) t.den = (2 * (fnu t raw * 1000000) + t.den) / (2 * t.den) := rfl
  have b1 := Int.mul_ediv_self_le (x := 2 * (fnu t raw * 1000000) + t.den) (k := 2 * t.den) (by omega)
  have b2 := Int.lt_mul_ediv_self_add (x := 2 * (fnu t raw * 1000000) + t.den) (k := 2 * t.den) (by omega)
  rw [← hW] at b1 b2
  generalize rnd 3 (fnu t raw * 1000000) t.den = W at *
  clear hW
  have hE : exV t W 1000000 3 = (2 * (W * t.den - t.off * 1000000) + 1000000 * t.num) / (2 * (1000000 * t.num)) := rfl
  have hfn : fnu t raw = raw * t.num + t.off := rfl
  rw [hfn] at b1 b2
  rw [hE]
  have e1 : 2 * t.den * W = 2 * (W * t.den) := by grind
  rw [e1] at b1 b2
  generalize W * t.den = y at *
  have e2 : (raw * t.num + t.off) * 1000000 = raw * t.num * 1000000 + t.off * 1000000 := by grind
  rw [e2] at b1 b2
  have e3 : 2 * (1000000 * t.num) * raw = 2000000 * (raw * t.num) := by grind
  have e4 : 2 * (1000000 * t.num) * (raw + 1) = 2000000 * (raw * t.num) + 2000000 * t.num := by grind
  apply Int.le_antisymm
  · apply Int.le_of_lt_add_one
    apply Int.ediv_lt_of_lt_mul (by omega)
    rw [Int.mul_comm (raw + 1), e4]
    generalize raw * t.num = z at *
    omega
  · apply Int.le_ediv_of_mul_le (by omega)
    rw [Int.mul_comm raw, e3]
    generalize raw * t.num = z at *
    omega
theorem ueq_refl (u : Un) : ueq u u = true := by simp [ueq]
theorem reads_ok (t : Ft) (raw : Int) (h : fok t = true) (hw : fin t raw = true) (h18 : (cutB 32 (ftx t raw 6)).1.length ≤ 18) (hg : t.den / 100000 < t.num) : ppF t (ftx t raw 6) = (raw, 0) := by
  have hb := fok_bd h
  obtain ⟨hdc, h32⟩ := fnT_dig t raw h hw
  have hu : uokU (unF t) = true := by
    unfold fok at h
    simp only [Bool.and_eq_true] at h
    exact h.2
  have hcut : cutB 32 (ftx t raw 6) = (fnT t raw 6, if ueq (unF t) u0 = true then [] else txt (unF t), !ueq (unF t) u0) := by
    unfold ftx
    cases ueq (unF t) u0 with
    | true => simp only [if_true, List.append_nil]; exact cutB_none h32
    | false => simp only [Bool.false_eq_true, if_false]; exact cutB_app _ h32
  have hex := exV_back t raw (by omega) (by omega) hg
  rw [hcut] at h18
  have hdc := hdc h18
  unfold ppF
  rw [hcut]
  simp only [hdc, hex, hw, h]
  cases hq : ueq (unF t) u0 with
  | true => simp
  | false =>
    simp [prs_txt hu, ueq_refl]
end Go.Proofs.YtoioclmfjmgaaaaDoor.Fx
