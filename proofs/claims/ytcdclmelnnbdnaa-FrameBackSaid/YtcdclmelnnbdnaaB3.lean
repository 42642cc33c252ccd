/- Frame: checksums. -/
import Derived.Test.YtcdclmelnnbdnaaB2
import Derived.Test.YtcdclmelnnbdnaaVs
namespace Go.Proofs.Ytcdclmelnnbdnaa
open Vg Tf
set_option linter.unusedSimpArgs false
set_option linter.unusedVariables false
set_option maxRecDepth 100000
set_option maxHeartbeats 4000000
def cstep (c : Nat) : Nat := if 128 ≤ c then (2 * c % 256) ^^^ 29 else 2 * c % 256
def cN : Nat → Nat → Nat
  | 0, c => c
  | n + 1, c => cN n (cstep c)
theorem c8_ex : ∃ g : Nat → Nat → Nat, ∀ c x, g c x = cN 8 (c ^^^ x) := ⟨_, fun _ _ => rfl⟩
/-- One byte; so that nothing unfolds it. -/
noncomputable def c8 : Nat → Nat → Nat := Classical.choose c8_ex
noncomputable def crcL (c : Nat) (l : List Nat) : Nat := l.foldl c8 c
theorem crcL_nil (c : Nat) : crcL c [] = c := rfl
theorem crcL_cons (c x : Nat) (l : List Nat) : crcL c (x :: l) = crcL (c8 c x) l := rfl
theorem c8_eq (c x : Nat) : c8 c x = cN 8 (c ^^^ x) := Classical.choose_spec c8_ex c x
noncomputable def crc (l : List Nat) : Nat := crcL 255 l ^^^ 255
theorem cN_step {k : Nat} (hk : k < 8) (d : Nat) : cN (8 - k) d = cN (8 - (k + 1)) (cstep d) := by
  obtain ⟨m, hm⟩ : ∃ m, 8 - k = m + 1 := ⟨7 - k, by omega⟩
  have : 8 - (k + 1) = m := by omega
  rw [hm, this]; rfl
theorem cN_zero (d : Nat) : cN (8 - 8) d = d := rfl
theorem xor_lt8 {a b : Nat} (ha : a < 256) (hb : b < 256) : a ^^^ b < 256 := Nat.xor_lt_two_pow (n := 8) ha hb
theorem cstep_lt {c : Nat} (h : c < 256) : cstep c < 256 := by
  unfold cstep
  split
  · exact xor_lt8 (Nat.mod_lt _ (by omega)) (by omega)
  · exact Nat.mod_lt _ (by omega)
theorem cN_lt : ∀ (n : Nat) {c : Nat}, c < 256 → cN n c < 256
  | 0, _, h => h
  | n + 1, _, h => cN_lt n (cstep_lt h)
theorem crcL_lt : ∀ (l : List Nat) {c : Nat}, c < 256 → (∀ x ∈ l, x < 256) → crcL c l < 256
  | [], _, h, _ => h
  | x :: l, c, h, hl => crcL_cons c x l ▸ crcL_lt l (c8_eq c x ▸ cN_lt 8 (xor_lt8 h (hl x (by simp)))) (fun y hy => hl y (by simp [hy]))
theorem crc_lt {l : List Nat} (hl : ∀ x ∈ l, x < 256) : crc l < 256 := xor_lt8 (crcL_lt l (by omega) hl) (by omega)
theorem xor_u8 (a b : Nat) (ha : a < 256) (hb : b < 256) : bits .xor .u8 (a : Int) (b : Int) = ((a ^^^ b : Nat) : Int) := by
  have hx := xor_lt8 ha hb
  have h1 : (BitVec.ofInt 8 (a : Int)).toNat = a := by
    rw [BitVec.ofInt_natCast, BitVec.toNat_ofNat]; exact Nat.mod_eq_of_lt (by omega)
  have h2 : (BitVec.ofInt 8 (b : Int)).toNat = b := by
    rw [BitVec.ofInt_natCast, BitVec.toNat_ofNat]; exact Nat.mod_eq_of_lt (by omega)
  show IntKind.u8.wrap ((BitVec.ofInt 8 (a : Int) ^^^ BitVec.ofInt 8 (b : Int)).toNat : Int) = _
  rw [BitVec.toNat_xor, h1, h2, IntKind.wrap_u8]
  omega
abbrev Yn (n : Nat) : V := .c (.v (.int .u8 (n : Int)))
theorem clB (nm : Nat) (l : List Nat) : ClM [bBr nm l] := ClM.v (by simp only [List.all_cons, v_u]; rfl)
theorem getD_lt {l : List Nat} (hl : ∀ x ∈ l, x < 256) {i : Nat} (h : i < l.length) : l.getD i 0 < 256 := hl _ (mem_n h)
theorem fcrc (l : List Nat) (hl : ∀ x ∈ l, x < 256) (hn : l.length ≤ 1000000) : CallOk Try.prog 22 [slV 1 l.length] [bBr 1 l] (Yn (crc l)) [] := by
  have hM := clB 1 l
  refine CallOk.mkN 100 Try.func22 rfl en22 (by simp [Try.ntmps22]) (ClA.of rfl) rfl rfl fun C hR hP => ?_
  simp (config := { maxSteps := 2000000 }) only [go_sem, Nat.reduceBEq, Nat.reduceAdd, Nat.reduceLT, Nat.reduceLeDiff, Nat.reduceEqDiff, reduceCtorEq, Int.reduceAdd, Int.reduceSub, Int.reduceNeg, Int.reduceLE, Int.reduceLT, Int.reduceToNat, Int.reduceBEq, Int.reduceBNe, Int.reduceEq, Int.reduceNe, Int.toNat_zero, Int.toNat_one, bne_self_eq_false, Nat.reduceMul, Nat.zero_mul, Nat.mul_one, Nat.one_mul, Nat.reduceSub, Int.cast_ofNat_Int, Int.toNat_natCast]
  refine Sm.loopM (M0 := [bBr 1 l]) (α := { p : Nat × Nat // p.1 ≤ l.length ∧ p.2 < 256 ∧ crcL 255 l = crcL p.2 (l.drop p.1) }) hP (fun p => [(3, true, Yn p.val.2), (6, true, slV 1 l.length), (7, true, I l.length), (8, true, I p.val.1)])
    (fun _ => [bBr 1 l]) (fun p => l.length - p.val.1) ⟨(0, 255), by simp, by simp, rfl⟩ (fun _ => hM) (fun _ => ClE.of rfl) [(1, 1)] ?_ ?_
  · exact ⟨rfl, ⟨⟨rfl, rfl⟩, trivial⟩, ⟨rfl, rfl, rfl, rfl, trivial⟩, ⟨.inr ⟨_, rfl, .inl (renV (v_u _))⟩, trivial⟩⟩
  · rintro ⟨⟨i, c⟩, hi, hc, hx⟩ J hb
    simp only at hb hi hc hx ⊢
    refine Sm.go 120 ?_
    simp (config := { maxSteps := 2000000 }) only [go_sem, Nat.reduceBEq, Nat.reduceAdd, Nat.reduceLT, Nat.reduceLeDiff, Nat.reduceEqDiff, reduceCtorEq, Int.reduceAdd, Int.reduceSub, Int.reduceNeg, Int.reduceLE, Int.reduceLT, Int.reduceToNat, Int.reduceBEq, Int.reduceBNe, Int.reduceEq, Int.reduceNe, Int.toNat_zero, Int.toNat_one, bne_self_eq_false, Nat.reduceMul, Nat.zero_mul, Nat.mul_one, Nat.one_mul, Nat.reduceSub, Int.cast_ofNat_Int, Int.toNat_natCast]
    refine mtch (fun hic => ?_) (fun hic => ?_)
    · have hic : i < l.length := by simp at hic; omega
      have hxl := getD_lt hl hic
      have hdn := drop_n hic
      rw [hdn, crcL_cons, c8_eq] at hx
      simp (config := { maxSteps := 2000000 }) only [go_sem, Nat.reduceBEq, Nat.reduceAdd, Nat.reduceLT, Nat.reduceLeDiff, Nat.reduceEqDiff, reduceCtorEq, Int.reduceAdd, Int.reduceSub, Int.reduceNeg, Int.reduceLE, Int.reduceLT, Int.reduceToNat, Int.reduceBEq, Int.reduceBNe, Int.reduceEq, Int.reduceNe, Int.toNat_zero, Int.toNat_one, bne_self_eq_false, Nat.reduceMul, Nat.zero_mul, Nat.mul_one, Nat.one_mul, Nat.reduceSub, Int.cast_ofNat_Int, Int.toNat_natCast, get_u hic]
      generalize l.getD i 0 = x at *
      refine ⟨⟨by omega, by omega⟩, ?_⟩
      have hcx := xor_lt8 hc hxl
      simp only [xor_u8 c x hc hxl]
      generalize c ^^^ x = c1 at *
      refine Sm.loopM (M0 := [bBr 1 l]) (α := { p : Nat × Nat // p.1 ≤ 8 ∧ p.2 < 256 ∧ cN 8 c1 = cN (8 - p.1) p.2 }) hP (fun p => [(3, true, Yn p.val.2), (6, true, slV 1 l.length), (7, true, I l.length), (8, true, I i), (15, true, I p.val.1)])
        (fun _ => [bBr 1 l]) (fun p => 8 - p.val.1) ⟨(0, c1), by simp, hcx, by simp only [Nat.sub_zero]⟩ (fun _ => hM) (fun _ => ClE.of rfl) [(1, 1)] ?_ ?_
      · exact ⟨rfl, ⟨⟨rfl, rfl⟩, trivial⟩, ⟨rfl, rfl, rfl, rfl, rfl, trivial⟩, ⟨.inr ⟨_, rfl, .inl (renV (v_u _))⟩, trivial⟩⟩
      · rintro ⟨⟨k, d⟩, hk, hd, hy⟩ J2 hb2
        simp only at hb2 hk hd hy ⊢
        refine Sm.go 120 ?_
        simp (config := { maxSteps := 2000000 }) only [go_sem, Nat.reduceBEq, Nat.reduceAdd, Nat.reduceLT, Nat.reduceLeDiff, Nat.reduceEqDiff, reduceCtorEq, Int.reduceAdd, Int.reduceSub, Int.reduceNeg, Int.reduceLE, Int.reduceLT, Int.reduceToNat, Int.reduceBEq, Int.reduceBNe, Int.reduceEq, Int.reduceNe, Int.toNat_zero, Int.toNat_one, bne_self_eq_false, Nat.reduceMul, Nat.zero_mul, Nat.mul_one, Nat.one_mul, Nat.reduceSub, Int.cast_ofNat_Int, Int.toNat_natCast]
        refine mtch (fun hkc => ?_) (fun hkc => ?_)
        · have hkc : k < 8 := by simp at hkc; omega
          have w1 : IntKind.i64.wrap ((k : Int) + 1) = ((k + 1 : Nat) : Int) := by rw [w64 (by omega) (by omega)]; omega
          have w2 : IntKind.u8.wrap ((d : Int) * 2 ^ min 1 8) = ((2 * d % 256 : Nat) : Int) := by rw [IntKind.wrap_u8]; rw [show (2 : Int) ^ min 1 8 = 2 by decide]; omega
          have hs : cN 8 c1 = cN (8 - (k + 1)) (cstep d) := hy.trans (cN_step hkc d)
          have h29 : bits .xor .u8 ((2 * d % 256 : Nat) : Int) 29 = ((2 * d % 256 ^^^ 29 : Nat) : Int) := xor_u8 (2 * d % 256) 29 (by omega) (by omega)
          have hcs := cstep_lt hd
          have e1 : decide ((128 : Int) ≤ (d : Int)) = decide (128 ≤ d) := by rw [decide_eq_decide]; omega
          simp only [e1]
          refine mtch (fun hz => ?_) (fun hz => ?_)
          · rw [decide_eq_true_eq] at hz
            rw [cstep, if_pos hz] at hs hcs
            simp (config := { maxSteps := 2000000 }) only [go_sem, Nat.reduceBEq, Nat.reduceAdd, Nat.reduceLT, Nat.reduceLeDiff, Nat.reduceEqDiff, reduceCtorEq, Int.reduceAdd, Int.reduceSub, Int.reduceNeg, Int.reduceLE, Int.reduceLT, Int.reduceToNat, Int.reduceBEq, Int.reduceBNe, Int.reduceEq, Int.reduceNe, Int.toNat_zero, Int.toNat_one, bne_self_eq_false, Nat.reduceMul, Nat.zero_mul, Nat.mul_one, Nat.one_mul, Nat.reduceSub, Int.cast_ofNat_Int, Int.toNat_natCast, w1, w2, h29]
            exact hb2 _ _ ⟨(k + 1, 2 * d % 256 ^^^ 29), hkc, hcs, hs⟩ [(1, 1)] (by simp only; omega) ⟨rfl, ⟨⟨rfl, rfl⟩, trivial⟩, ⟨rfl, rfl, rfl, rfl, rfl, trivial⟩, ⟨.inr ⟨_, rfl, .inl (renV (v_u _))⟩, trivial⟩⟩
          · rw [decide_eq_false_iff_not] at hz
            rw [cstep, if_neg hz] at hs hcs
            simp (config := { maxSteps := 2000000 }) only [go_sem, Nat.reduceBEq, Nat.reduceAdd, Nat.reduceLT, Nat.reduceLeDiff, Nat.reduceEqDiff, reduceCtorEq, Int.reduceAdd, Int.reduceSub, Int.reduceNeg, Int.reduceLE, Int.reduceLT, Int.reduceToNat, Int.reduceBEq, Int.reduceBNe, Int.reduceEq, Int.reduceNe, Int.toNat_zero, Int.toNat_one, bne_self_eq_false, Nat.reduceMul, Nat.zero_mul, Nat.mul_one, Nat.one_mul, Nat.reduceSub, Int.cast_ofNat_Int, Int.toNat_natCast, w1, w2]
            exact hb2 _ _ ⟨(k + 1, 2 * d % 256), hkc, hcs, hs⟩ [(1, 1)] (by simp only; omega) ⟨rfl, ⟨⟨rfl, rfl⟩, trivial⟩, ⟨rfl, rfl, rfl, rfl, rfl, trivial⟩, ⟨.inr ⟨_, rfl, .inl (renV (v_u _))⟩, trivial⟩⟩
        · have hkc : k = 8 := by simp at hkc; omega
          subst hkc
          have w1 : IntKind.i64.wrap ((i : Int) + 1) = ((i + 1 : Nat) : Int) := by rw [w64 (by omega) (by omega)]; omega
          simp only [w1]
          exact hb _ _ ⟨(i + 1, d), hic, hd, hx.trans (congrArg (fun z => crcL z (l.drop (i + 1))) (hy.trans (cN_zero d)))⟩ [(1, 1)] (by simp only; omega) ⟨rfl, ⟨⟨rfl, rfl⟩, trivial⟩, ⟨rfl, rfl, rfl, rfl, trivial⟩, ⟨.inr ⟨_, rfl, .inl (renV (v_u _))⟩, trivial⟩⟩
    · have hic : i = l.length := by simp at hic; omega
      subst hic
      rw [List.drop_length, crcL_nil] at hx
      refine RetQ.of hR rfl ⟨rfl, trivial⟩ ?_ (Sub.one rfl (.inl rfl)) hM (ClV.of rfl)
      have h5 : bits .xor .u8 (c : Int) 255 = ((c ^^^ 255 : Nat) : Int) := xor_u8 c 255 hc (by omega)
      rw [crc, hx, h5]; rfl
theorem w64n (n : Nat) (h : n ≤ 9223372036854775807) : IntKind.i64.wrap (n : Int) = n := w64 (by omega) (by omega)
theorem quoN (a b : Nat) (ha : a ≤ 9223372036854775807) : IntKind.i64.wrap ((a : Int).tdiv (b : Int)) = ((a / b : Nat) : Int) := by
  have := Nat.div_le_self a b
  rw [Int.tdiv_eq_ediv_of_nonneg (Int.natCast_nonneg _), ← Int.natCast_ediv, w64n _ (by omega)]
theorem remN (a b : Nat) : (a : Int).tmod (b : Int) = ((a % b : Nat) : Int) := by
  rw [Int.tmod_eq_emod_of_nonneg (Int.natCast_nonneg _)]; rfl
theorem rem2 (a : Nat) : (a : Int).tmod 2 = ((a % 2 : Nat) : Int) := remN a 2
theorem mod_next (x i : Nat) : x % 2 ^ (i + 1) = if x.testBit i then x % 2 ^ i + 2 ^ i else x % 2 ^ i := by
  rw [Nat.mod_pow_succ, Nat.testBit_eq_decide_div_mod_eq]
  rcases Nat.mod_two_eq_zero_or_one (x / 2 ^ i) with h | h <;> rw [h] <;> simp
theorem rxor (a b : Nat) (ha : a < 256) (hb : b < 256) : CallOk Try.prog 47 [I a, I b] [] (I (a ^^^ b : Nat)) [] := by
  have hx := xor_lt8 ha hb
  refine CallOk.mkN 100 Try.func47 rfl en47 (by simp [Try.ntmps47]) (ClA.of rfl) rfl rfl fun C hR hP => ?_
  simp (config := { maxSteps := 2000000 }) only [go_sem, Nat.reduceBEq, Nat.reduceAdd, Nat.reduceLT, Nat.reduceLeDiff, Nat.reduceEqDiff, reduceCtorEq, Int.reduceAdd, Int.reduceSub, Int.reduceNeg, Int.reduceLE, Int.reduceLT, Int.reduceToNat, Int.reduceBEq, Int.reduceBNe, Int.reduceEq, Int.reduceNe, Int.toNat_zero, Int.toNat_one, bne_self_eq_false, Nat.reduceMul, Nat.zero_mul, Nat.mul_one, Nat.one_mul, Nat.reduceSub, Int.cast_ofNat_Int, Int.toNat_natCast]
  refine Sm.loopM (M0 := []) (α := { p : Nat // p ≤ 8 }) hP (fun p => [(0, true, I a), (1, true, I b), (5, true, I ((a ^^^ b) % 2 ^ p.val : Nat)), (6, true, I p.val)]) (fun _ => []) (fun p => 8 - p.val) ⟨0, by omega⟩ (fun _ => ClM.of rfl) (fun _ => ClE.of rfl) [] ?_ ?_
  · simp only [Nat.pow_zero, Nat.mod_one]
    exact ⟨rfl, trivial, ⟨rfl, rfl, rfl, rfl, trivial⟩, trivial⟩
  · rintro ⟨i, hi⟩ J hb2
    simp only at hb2 hi ⊢
    refine Sm.go 120 ?_
    simp (config := { maxSteps := 2000000 }) only [go_sem, Nat.reduceBEq, Nat.reduceAdd, Nat.reduceLT, Nat.reduceLeDiff, Nat.reduceEqDiff, reduceCtorEq, Int.reduceAdd, Int.reduceSub, Int.reduceNeg, Int.reduceLE, Int.reduceLT, Int.reduceToNat, Int.reduceBEq, Int.reduceBNe, Int.reduceEq, Int.reduceNe, Int.toNat_zero, Int.toNat_one, bne_self_eq_false, Nat.reduceMul, Nat.zero_mul, Nat.mul_one, Nat.one_mul, Nat.reduceSub, Int.cast_ofNat_Int, Int.toNat_natCast]
    refine mtch (fun hc => ?_) (fun hc => ?_)
    · have hc : i < 8 := by simp at hc; omega
      have hpw := rpower i (by omega)
      have hp : 0 < 2 ^ i := Nat.two_pow_pos i
      have hp2 : 2 ^ i ≤ 2 ^ 7 := Nat.pow_le_pow_right (by omega) (by omega)
      have hda := quoN a (2 ^ i) (by omega)
      have hdb := quoN b (2 ^ i) (by omega)
      have hra : (((a / 2 ^ i % 2 : Nat) : Int) != ((b / 2 ^ i % 2 : Nat) : Int)) = (a ^^^ b).testBit i := by
        rw [Nat.testBit_xor, Nat.testBit_eq_decide_div_mod_eq, Nat.testBit_eq_decide_div_mod_eq]
        generalize a / 2 ^ i = p
        generalize b / 2 ^ i = q
        rcases Nat.mod_two_eq_zero_or_one p with h1 | h1 <;> rcases Nat.mod_two_eq_zero_or_one q with h2 | h2 <;> rw [h1, h2] <;> rfl
      have hms := mod_next (a ^^^ b) i
      have hml := Nat.mod_lt (a ^^^ b) (show 0 < 2 ^ (i + 1) from Nat.two_pow_pos _)
      have hp3 : 2 ^ (i + 1) ≤ 2 ^ 8 := Nat.pow_le_pow_right (by omega) (by omega)
      have w1 : IntKind.i64.wrap ((i : Int) + 1) = ((i + 1 : Nat) : Int) := by rw [w64 (by omega) (by omega)]; omega
      refine Sm.dgo 120 10 mix (by decide +kernel) (by decide +kernel) ?_
      simp (config := { maxSteps := 2000000 }) only [go_sem, Nat.reduceBEq, Nat.reduceAdd, Nat.reduceLT, Nat.reduceLeDiff, Nat.reduceEqDiff, reduceCtorEq, Int.reduceAdd, Int.reduceSub, Int.reduceNeg, Int.reduceLE, Int.reduceLT, Int.reduceToNat, Int.reduceBEq, Int.reduceBNe, Int.reduceEq, Int.reduceNe, Int.toNat_zero, Int.toNat_one, bne_self_eq_false, Nat.reduceMul, Nat.zero_mul, Nat.mul_one, Nat.one_mul, Nat.reduceSub, Int.cast_ofNat_Int, Int.toNat_natCast]
      refine DCallQ.pure 120 hpw rfl ?_
      simp (config := { maxSteps := 2000000 }) only [go_sem, Nat.reduceBEq, Nat.reduceAdd, Nat.reduceLT, Nat.reduceLeDiff, Nat.reduceEqDiff, reduceCtorEq, Int.reduceAdd, Int.reduceSub, Int.reduceNeg, Int.reduceLE, Int.reduceLT, Int.reduceToNat, Int.reduceBEq, Int.reduceBNe, Int.reduceEq, Int.reduceNe, Int.toNat_zero, Int.toNat_one, bne_self_eq_false, Nat.reduceMul, Nat.zero_mul, Nat.mul_one, Nat.one_mul, Nat.reduceSub, Int.cast_ofNat_Int, Int.toNat_natCast, hda, rem2]
      refine ⟨by omega, ?_⟩
      refine DCallQ.pure 120 hpw rfl ?_
      simp (config := { maxSteps := 2000000 }) only [go_sem, Nat.reduceBEq, Nat.reduceAdd, Nat.reduceLT, Nat.reduceLeDiff, Nat.reduceEqDiff, reduceCtorEq, Int.reduceAdd, Int.reduceSub, Int.reduceNeg, Int.reduceLE, Int.reduceLT, Int.reduceToNat, Int.reduceBEq, Int.reduceBNe, Int.reduceEq, Int.reduceNe, Int.toNat_zero, Int.toNat_one, bne_self_eq_false, Nat.reduceMul, Nat.zero_mul, Nat.mul_one, Nat.one_mul, Nat.reduceSub, Int.cast_ofNat_Int, Int.toNat_natCast, hda, hdb, rem2, hra]
      refine ⟨by omega, ?_⟩
      refine mtch (fun hz => ?_) (fun hz => ?_)
      · rw [hz, if_pos rfl] at hms
        have hml2 : (a ^^^ b) % 2 ^ i + 2 ^ i < 512 := by rw [← hms]; omega
        refine CallQ.pure 120 hpw rfl ?_
        have w2 : IntKind.i64.wrap (((a ^^^ b) % 2 ^ i : Nat) + ((2 ^ i : Nat) : Int)) = ((a ^^^ b) % 2 ^ (i + 1) : Nat) := by
          rw [hms, ← Int.natCast_add, w64n _ (by omega)]
        simp (config := { maxSteps := 2000000 }) only [go_sem, Nat.reduceBEq, Nat.reduceAdd, Nat.reduceLT, Nat.reduceLeDiff, Nat.reduceEqDiff, reduceCtorEq, Int.reduceAdd, Int.reduceSub, Int.reduceNeg, Int.reduceLE, Int.reduceLT, Int.reduceToNat, Int.reduceBEq, Int.reduceBNe, Int.reduceEq, Int.reduceNe, Int.toNat_zero, Int.toNat_one, bne_self_eq_false, Nat.reduceMul, Nat.zero_mul, Nat.mul_one, Nat.one_mul, Nat.reduceSub, Int.cast_ofNat_Int, Int.toNat_natCast, w1, w2]
        exact hb2 _ _ ⟨i + 1, hc⟩ [] (by simp only; omega) ⟨rfl, trivial, ⟨rfl, rfl, rfl, rfl, trivial⟩, trivial⟩
      · rw [hz, if_neg (by simp)] at hms
        simp (config := { maxSteps := 2000000 }) only [go_sem, Nat.reduceBEq, Nat.reduceAdd, Nat.reduceLT, Nat.reduceLeDiff, Nat.reduceEqDiff, reduceCtorEq, Int.reduceAdd, Int.reduceSub, Int.reduceNeg, Int.reduceLE, Int.reduceLT, Int.reduceToNat, Int.reduceBEq, Int.reduceBNe, Int.reduceEq, Int.reduceNe, Int.toNat_zero, Int.toNat_one, bne_self_eq_false, Nat.reduceMul, Nat.zero_mul, Nat.mul_one, Nat.one_mul, Nat.reduceSub, Int.cast_ofNat_Int, Int.toNat_natCast, w1, ← hms]
        exact hb2 _ _ ⟨i + 1, hc⟩ [] (by simp only; omega) ⟨rfl, trivial, ⟨rfl, rfl, rfl, rfl, trivial⟩, trivial⟩
    · have hc : i = 8 := by simp at hc; omega
      subst hc
      rw [Nat.mod_eq_of_lt (show a ^^^ b < 2 ^ 8 from hx)]
      exact RetQ.of hR rfl ⟨rfl, trivial⟩ rfl (Sub.refl _) (ClM.of rfl) (ClV.of rfl)
theorem rcrc (l : List Nat) (hl : ∀ x ∈ l, x < 256) (hn : l.length ≤ 1000000) : CallOk Try.prog 23 [slV 1 l.length] [bBr 1 l] (Yn (crc l)) [] := by
  have hM := clB 1 l
  refine CallOk.mkN 100 Try.func23 rfl en23 (by simp [Try.ntmps23]) (ClA.of rfl) rfl rfl fun C hR hP => ?_
  simp (config := { maxSteps := 2000000 }) only [go_sem, Nat.reduceBEq, Nat.reduceAdd, Nat.reduceLT, Nat.reduceLeDiff, Nat.reduceEqDiff, reduceCtorEq, Int.reduceAdd, Int.reduceSub, Int.reduceNeg, Int.reduceLE, Int.reduceLT, Int.reduceToNat, Int.reduceBEq, Int.reduceBNe, Int.reduceEq, Int.reduceNe, Int.toNat_zero, Int.toNat_one, bne_self_eq_false, Nat.reduceMul, Nat.zero_mul, Nat.mul_one, Nat.one_mul, Nat.reduceSub, Int.cast_ofNat_Int, Int.toNat_natCast]
  refine Sm.loopM (M0 := [bBr 1 l]) (α := { p : Nat × Nat // p.1 ≤ l.length ∧ p.2 < 256 ∧ crcL 255 l = crcL p.2 (l.drop p.1) }) hP (fun p => [(0, true, slV 1 l.length), (3, true, I p.val.2), (4, true, I p.val.1)])
    (fun _ => [bBr 1 l]) (fun p => l.length - p.val.1) ⟨(0, 255), by simp, by simp, rfl⟩ (fun _ => hM) (fun _ => ClE.of rfl) [(1, 1)] ?_ ?_
  · exact ⟨rfl, ⟨⟨rfl, rfl⟩, trivial⟩, ⟨rfl, rfl, rfl, trivial⟩, ⟨.inr ⟨_, rfl, .inl (renV (v_u _))⟩, trivial⟩⟩
  · rintro ⟨⟨i, c⟩, hi, hc, hx⟩ J hb
    simp only at hb hi hc hx ⊢
    refine Sm.go 120 ?_
    simp (config := { maxSteps := 2000000 }) only [go_sem, Nat.reduceBEq, Nat.reduceAdd, Nat.reduceLT, Nat.reduceLeDiff, Nat.reduceEqDiff, reduceCtorEq, Int.reduceAdd, Int.reduceSub, Int.reduceNeg, Int.reduceLE, Int.reduceLT, Int.reduceToNat, Int.reduceBEq, Int.reduceBNe, Int.reduceEq, Int.reduceNe, Int.toNat_zero, Int.toNat_one, bne_self_eq_false, Nat.reduceMul, Nat.zero_mul, Nat.mul_one, Nat.one_mul, Nat.reduceSub, Int.cast_ofNat_Int, Int.toNat_natCast]
    refine mtch (fun hic => ?_) (fun hic => ?_)
    · have hic : i < l.length := by simp at hic; omega
      have hxl := getD_lt hl hic
      have hdn := drop_n hic
      rw [hdn, crcL_cons, c8_eq] at hx
      simp (config := { maxSteps := 2000000 }) only [go_sem, Nat.reduceBEq, Nat.reduceAdd, Nat.reduceLT, Nat.reduceLeDiff, Nat.reduceEqDiff, reduceCtorEq, Int.reduceAdd, Int.reduceSub, Int.reduceNeg, Int.reduceLE, Int.reduceLT, Int.reduceToNat, Int.reduceBEq, Int.reduceBNe, Int.reduceEq, Int.reduceNe, Int.toNat_zero, Int.toNat_one, bne_self_eq_false, Nat.reduceMul, Nat.zero_mul, Nat.mul_one, Nat.one_mul, Nat.reduceSub, Int.cast_ofNat_Int, Int.toNat_natCast, get_u hic]
      generalize l.getD i 0 = x at *
      refine ⟨⟨by omega, by omega⟩, ?_⟩
      have hcx := xor_lt8 hc hxl
      have wx : IntKind.i64.wrap (x : Int) = x := w64n x (by omega)
      simp only [wx]
      refine CallQ.pure 120 (rxor c x hc hxl) rfl ?_
      simp (config := { maxSteps := 2000000 }) only [go_sem, Nat.reduceBEq, Nat.reduceAdd, Nat.reduceLT, Nat.reduceLeDiff, Nat.reduceEqDiff, reduceCtorEq, Int.reduceAdd, Int.reduceSub, Int.reduceNeg, Int.reduceLE, Int.reduceLT, Int.reduceToNat, Int.reduceBEq, Int.reduceBNe, Int.reduceEq, Int.reduceNe, Int.toNat_zero, Int.toNat_one, bne_self_eq_false, Nat.reduceMul, Nat.zero_mul, Nat.mul_one, Nat.one_mul, Nat.reduceSub, Int.cast_ofNat_Int, Int.toNat_natCast]
      generalize c ^^^ x = c1 at *
      refine Sm.loopM (M0 := [bBr 1 l]) (α := { p : Nat × Nat // p.1 ≤ 8 ∧ p.2 < 256 ∧ cN 8 c1 = cN (8 - p.1) p.2 }) hP (fun p => [(0, true, slV 1 l.length), (3, true, I p.val.2), (4, true, I i), (5, true, I p.val.1)])
        (fun _ => [bBr 1 l]) (fun p => 8 - p.val.1) ⟨(0, c1), by simp, hcx, by simp only [Nat.sub_zero]⟩ (fun _ => hM) (fun _ => ClE.of rfl) [(1, 1)] ?_ ?_
      · exact ⟨rfl, ⟨⟨rfl, rfl⟩, trivial⟩, ⟨rfl, rfl, rfl, rfl, trivial⟩, ⟨.inr ⟨_, rfl, .inl (renV (v_u _))⟩, trivial⟩⟩
      · rintro ⟨⟨k, d⟩, hk, hd, hy⟩ J2 hb2
        simp only at hb2 hk hd hy ⊢
        refine Sm.go 120 ?_
        simp (config := { maxSteps := 2000000 }) only [go_sem, Nat.reduceBEq, Nat.reduceAdd, Nat.reduceLT, Nat.reduceLeDiff, Nat.reduceEqDiff, reduceCtorEq, Int.reduceAdd, Int.reduceSub, Int.reduceNeg, Int.reduceLE, Int.reduceLT, Int.reduceToNat, Int.reduceBEq, Int.reduceBNe, Int.reduceEq, Int.reduceNe, Int.toNat_zero, Int.toNat_one, bne_self_eq_false, Nat.reduceMul, Nat.zero_mul, Nat.mul_one, Nat.one_mul, Nat.reduceSub, Int.cast_ofNat_Int, Int.toNat_natCast]
        refine mtch (fun hkc => ?_) (fun hkc => ?_)
        · have hkc : k < 8 := by simp at hkc; omega
          have w1 : IntKind.i64.wrap ((k : Int) + 1) = ((k + 1 : Nat) : Int) := by rw [w64 (by omega) (by omega)]; omega
          have w2 : (IntKind.i64.wrap (2 * (d : Int))).tmod 256 = ((2 * d % 256 : Nat) : Int) := by rw [w64 (by omega) (by omega), Int.tmod_eq_emod_of_nonneg (by omega)]; omega
          have hs : cN 8 c1 = cN (8 - (k + 1)) (cstep d) := hy.trans (cN_step hkc d)
          have hcs := cstep_lt hd
          have e1 : decide ((128 : Int) ≤ (d : Int)) = decide (128 ≤ d) := by rw [decide_eq_decide]; omega
          simp only [e1, w2]
          refine mtch (fun hz => ?_) (fun hz => ?_)
          · rw [decide_eq_true_eq] at hz
            rw [cstep, if_pos hz] at hs hcs
            refine CallQ.pure 120 (rxor (2 * d % 256) 29 (by omega) (by omega)) rfl ?_
            simp (config := { maxSteps := 2000000 }) only [go_sem, Nat.reduceBEq, Nat.reduceAdd, Nat.reduceLT, Nat.reduceLeDiff, Nat.reduceEqDiff, reduceCtorEq, Int.reduceAdd, Int.reduceSub, Int.reduceNeg, Int.reduceLE, Int.reduceLT, Int.reduceToNat, Int.reduceBEq, Int.reduceBNe, Int.reduceEq, Int.reduceNe, Int.toNat_zero, Int.toNat_one, bne_self_eq_false, Nat.reduceMul, Nat.zero_mul, Nat.mul_one, Nat.one_mul, Nat.reduceSub, Int.cast_ofNat_Int, Int.toNat_natCast, w1]
            exact hb2 _ _ ⟨(k + 1, 2 * d % 256 ^^^ 29), hkc, hcs, hs⟩ [(1, 1)] (by simp only; omega) ⟨rfl, ⟨⟨rfl, rfl⟩, trivial⟩, ⟨rfl, rfl, rfl, rfl, trivial⟩, ⟨.inr ⟨_, rfl, .inl (renV (v_u _))⟩, trivial⟩⟩
          · rw [decide_eq_false_iff_not] at hz
            rw [cstep, if_neg hz] at hs hcs
            simp only [w1]
            exact hb2 _ _ ⟨(k + 1, 2 * d % 256), hkc, hcs, hs⟩ [(1, 1)] (by simp only; omega) ⟨rfl, ⟨⟨rfl, rfl⟩, trivial⟩, ⟨rfl, rfl, rfl, rfl, trivial⟩, ⟨.inr ⟨_, rfl, .inl (renV (v_u _))⟩, trivial⟩⟩
        · have hkc : k = 8 := by simp at hkc; omega
          subst hkc
          have w1 : IntKind.i64.wrap ((i : Int) + 1) = ((i + 1 : Nat) : Int) := by rw [w64 (by omega) (by omega)]; omega
          simp only [w1]
          exact hb _ _ ⟨(i + 1, d), hic, hd, hx.trans (congrArg (fun z => crcL z (l.drop (i + 1))) (hy.trans (cN_zero d)))⟩ [(1, 1)] (by simp only; omega) ⟨rfl, ⟨⟨rfl, rfl⟩, trivial⟩, ⟨rfl, rfl, rfl, trivial⟩, ⟨.inr ⟨_, rfl, .inl (renV (v_u _))⟩, trivial⟩⟩
    · have hic : i = l.length := by simp at hic; omega
      subst hic
      rw [List.drop_length, crcL_nil] at hx
      refine CallQ.pure 120 (rxor c 255 hc (by omega)) rfl ?_
      simp (config := { maxSteps := 2000000 }) only [go_sem, Nat.reduceBEq, Nat.reduceAdd, Nat.reduceLT, Nat.reduceLeDiff, Nat.reduceEqDiff, reduceCtorEq, Int.reduceAdd, Int.reduceSub, Int.reduceNeg, Int.reduceLE, Int.reduceLT, Int.reduceToNat, Int.reduceBEq, Int.reduceBNe, Int.reduceEq, Int.reduceNe, Int.toNat_zero, Int.toNat_one, bne_self_eq_false, Nat.reduceMul, Nat.zero_mul, Nat.mul_one, Nat.one_mul, Nat.reduceSub, Int.cast_ofNat_Int, Int.toNat_natCast]
      have hxx := xor_lt8 hc (show 255 < 256 by omega)
      refine RetQ.of hR rfl ⟨rfl, trivial⟩ ?_ (Sub.one rfl (.inl rfl)) hM (ClV.of rfl)
      have w2 : IntKind.u8.wrap ((c ^^^ 255 : Nat) : Int) = ((c ^^^ 255 : Nat) : Int) := by rw [IntKind.wrap_u8]; omega
      rw [crc, hx, w2]; rfl
theorem eqB : ∀ {a b : List Nat}, (∀ x ∈ a, x < 256) → (∀ x ∈ b, x < 256) → ((a.map UInt8.ofNat == b.map UInt8.ofNat) = decide (a = b))
  | [], [], _, _ => rfl
  | [], y :: b, _, _ => by simp
  | x :: a, [], _, _ => by simp
  | x :: a, y :: b, ha, hb => by
    have h := eqB (fun z hz => ha z (by simp [hz])) (fun z hz => hb z (by simp [hz])) (a := a) (b := b)
    have hx := ha x (by simp)
    have hy := hb y (by simp)
    have e : (UInt8.ofNat x == UInt8.ofNat y) = decide (x = y) := by
      rw [Bool.eq_iff_iff, beq_iff_eq, decide_eq_true_eq]
      constructor
      · intro h
        have := congrArg UInt8.toNat h
        simp only [UInt8.toNat_ofNat'] at this
        omega
      · rintro rfl; rfl
    rw [List.map_cons, List.map_cons, List.cons_beq_cons, e, h, Bool.eq_iff_iff]
    simp
theorem clB2 (l m : List Nat) : ClM [bBr 1 l, bBr 2 m] := ClM.v (by simp only [List.all_cons, v_u]; rfl)
theorem bequal (a b : List Nat) (ha : ∀ x ∈ a, x < 256) (hb : ∀ x ∈ b, x < 256) : CallOk Try.prog 17 [slV 1 a.length, slV 2 b.length] [bBr 1 a, bBr 2 b] (Bo (decide (a = b))) [] := by
  have hM := clB2 a b
  refine CallOk.mkN 100 Try.func17 rfl en17 (by simp [Try.ntmps17]) (ClA.of rfl) rfl rfl fun C hR hP => ?_
  simp (config := { maxSteps := 2000000 }) only [go_sem, Nat.reduceBEq, Nat.reduceAdd, Nat.reduceLT, Nat.reduceLeDiff, Nat.reduceEqDiff, reduceCtorEq, Int.reduceAdd, Int.reduceSub, Int.reduceNeg, Int.reduceLE, Int.reduceLT, Int.reduceToNat, Int.reduceBEq, Int.reduceBNe, Int.reduceEq, Int.reduceNe, Int.toNat_zero, Int.toNat_one, bne_self_eq_false, Nat.reduceMul, Nat.zero_mul, Nat.mul_one, Nat.one_mul, Nat.reduceSub, Int.cast_ofNat_Int, Int.toNat_natCast]
  refine Sm.opq rfl rfl ⟨[], _, fun _ => Stp.toStr a rfl rfl rfl rfl rfl rfl (by rw [List.drop_zero]; exact List.take_of_length_le (by simp)) rfl, .inr rfl, Sm.go 120 ?_⟩
  simp (config := { maxSteps := 2000000 }) only [go_sem, Nat.reduceBEq, Nat.reduceAdd, Nat.reduceLT, Nat.reduceLeDiff, Nat.reduceEqDiff, reduceCtorEq, Int.reduceAdd, Int.reduceSub, Int.reduceNeg, Int.reduceLE, Int.reduceLT, Int.reduceToNat, Int.reduceBEq, Int.reduceBNe, Int.reduceEq, Int.reduceNe, Int.toNat_zero, Int.toNat_one, bne_self_eq_false, Nat.reduceMul, Nat.zero_mul, Nat.mul_one, Nat.one_mul, Nat.reduceSub, Int.cast_ofNat_Int, Int.toNat_natCast]
  refine Sm.opq rfl rfl ⟨[], _, fun _ => Stp.toStr b rfl rfl rfl rfl rfl rfl (by rw [List.drop_zero]; exact List.take_of_length_le (by simp)) rfl, .inr rfl, Sm.go 120 ?_⟩
  simp (config := { maxSteps := 2000000 }) only [go_sem, Nat.reduceBEq, Nat.reduceAdd, Nat.reduceLT, Nat.reduceLeDiff, Nat.reduceEqDiff, reduceCtorEq, Int.reduceAdd, Int.reduceSub, Int.reduceNeg, Int.reduceLE, Int.reduceLT, Int.reduceToNat, Int.reduceBEq, Int.reduceBNe, Int.reduceEq, Int.reduceNe, Int.toNat_zero, Int.toNat_one, bne_self_eq_false, Nat.reduceMul, Nat.zero_mul, Nat.mul_one, Nat.one_mul, Nat.reduceSub, Int.cast_ofNat_Int, Int.toNat_natCast]
  exact RetQ.of hR rfl ⟨rfl, trivial⟩ (by rw [← eqB ha hb]; rfl) (Sub.refl _) hM (ClV.of rfl)
end Go.Proofs.Ytcdclmelnnbdnaa
