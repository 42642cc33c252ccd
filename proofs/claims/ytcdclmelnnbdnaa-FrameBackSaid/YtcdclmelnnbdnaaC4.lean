/- Frame: Decode. -/
import Derived.Test.YtcdclmelnnbdnaaC2
namespace Go.Proofs.Ytcdclmelnnbdnaa
open Vg Tf
set_option linter.unusedSimpArgs false
set_option linter.unusedVariables false
set_option maxRecDepth 100000
set_option maxHeartbeats 4000000
/-- The number that bytes are. -/
def numL : List Nat → Nat
  | [] => 0
  | x :: l => x + 256 * numL l
theorem numL_lt : ∀ (l : List Nat), (∀ x ∈ l, x < 256) → numL l < 2 ^ (8 * l.length)
  | [], _ => by simp [numL]
  | x :: l, h => by
    have h1 := numL_lt l (fun y hy => h y (by simp [hy]))
    have h2 := h x (by simp)
    rw [numL, List.length_cons, show 8 * (l.length + 1) = 8 * l.length + 8 by omega, Nat.pow_add]
    omega
theorem numL_bit : ∀ (l : List Nat), (∀ x ∈ l, x < 256) → ∀ b, (numL l).testBit b = (l.getD (b / 8) 0).testBit (b % 8)
  | [], _, b => by simp [numL]
  | x :: l, h, b => by
    have hx := h x (by simp)
    have ih := numL_bit l (fun y hy => h y (by simp [hy]))
    have e : numL (x :: l) = 2 ^ 8 * numL l + x := by rw [numL]; omega
    rw [e, Nat.testBit_two_pow_mul_add _ (show x < 2 ^ 8 from hx)]
    split
    · rename_i hb
      rw [Nat.div_eq_of_lt hb, Nat.mod_eq_of_lt hb]; rfl
    · rename_i hb
      rw [ih, show b / 8 = (b - 8) / 8 + 1 by omega, show b % 8 = (b - 8) % 8 by omega]; rfl
theorem numL_snoc : ∀ (l : List Nat) (x : Nat), numL (l ++ [x]) = numL l + 2 ^ (8 * l.length) * x
  | [], x => by simp [numL]
  | y :: l, x => by
    rw [List.cons_append, numL, numL_snoc l x, numL, List.length_cons, show 8 * (l.length + 1) = 8 * l.length + 8 by omega, Nat.pow_add, Nat.mul_add, ← Nat.mul_assoc, Nat.mul_comm 256 (2 ^ _), show 2 ^ 8 = 256 from rfl]
    omega
/-- The raw value of a signal in data, without a sign: bit k at place b_k. -/
def gatN (D : Nat) : Nat → List Nat → Nat
  | _, [] => 0
  | k, b :: r => (bif D.testBit b then 2 ^ k else 0) + gatN D (k + 1) r
def rawV (s : Sg) (D : Nat) : Int := bif s.sgn && decide (2 ^ (s.ln.toNat - 1) ≤ gatN D 0 (bitsL s)) then (gatN D 0 (bitsL s) : Int) - 2 ^ s.ln.toNat else gatN D 0 (bitsL s)
def decL (D : Nat) (l : List Sg) : List Int := l.map fun s => rawV s D
def decOk (D : Nat) (l : List Sg) : Bool := l.all fun s => inR (rawV s D) s.lo s.hi
def dcE (f : Fm) (u : List Nat) : Int := bif fok f then (bif decide ((u.length : Int) = f.ln) then (bif decOk (numL u) f.sgs then 0 else 2) else 3) else 1
def dcL (f : Fm) (u : List Nat) : List Int := bif dcE f u == 0 then decL (numL u) f.sgs else []
theorem gatN_lt (D : Nat) : ∀ (l : List Nat) (k : Nat), gatN D k l + 2 ^ k ≤ 2 ^ (k + l.length)
  | [], k => by simp [gatN]
  | b :: l, k => by
    have := gatN_lt D l (k + 1)
    rw [gatN, List.length_cons, show k + (l.length + 1) = k + 1 + l.length by omega]
    have h2 : 2 ^ (k + 1) = 2 ^ k + 2 ^ k := by rw [Nat.pow_succ]; omega
    rw [h2] at this
    generalize 2 ^ k = q at *
    cases D.testBit b <;> simp only [cond_true, cond_false] <;> omega
theorem gatN_snoc (D : Nat) : ∀ (l : List Nat) (k b : Nat), gatN D k (l ++ [b]) = gatN D k l + bif D.testBit b then 2 ^ (k + l.length) else 0
  | [], k, b => by simp [gatN]
  | c :: l, k, b => by rw [List.cons_append, gatN, gatN_snoc D l (k + 1) b, gatN, List.length_cons, show k + 1 + l.length = k + (l.length + 1) by omega]; omega
theorem or_add (a b i : Nat) (h : a < 2 ^ i) : a ||| 2 ^ i * b = a + 2 ^ i * b := by
  rw [Nat.or_comm, ← Nat.two_pow_add_eq_or_of_lt h]; omega
theorem or_i64 (a b : Nat) (ha : a < 2 ^ 62) (hb : b < 2 ^ 62) : bits .or .i64 (a : Int) (b : Int) = ((a ||| b : Nat) : Int) := by
  have hx : a ||| b < 2 ^ 62 := Nat.or_lt_two_pow ha hb
  have h1 : (BitVec.ofInt 64 (a : Int)).toNat = a := by
    rw [BitVec.ofInt_natCast, BitVec.toNat_ofNat]; exact Nat.mod_eq_of_lt (by omega)
  have h2 : (BitVec.ofInt 64 (b : Int)).toNat = b := by
    rw [BitVec.ofInt_natCast, BitVec.toNat_ofNat]; exact Nat.mod_eq_of_lt (by omega)
  show IntKind.i64.wrap ((BitVec.ofInt 64 (a : Int) ||| BitVec.ofInt 64 (b : Int)).toNat : Int) = _
  rw [BitVec.toNat_or, h1, h2, w64n _ (by omega)]
theorem dec_byte (u : List Nat) (hu : ∀ x ∈ u, x < 256) (hl : u.length ≤ 8) (i : Nat) (hi : i < u.length) :
    bits .or .u64 ((numL (u.take i) : Nat) : Int) (IntKind.u64.wrap (IntKind.u64.wrap ((u.getD i 0 : Nat) : Int) * 2 ^ min (8 * i) 64)) = ((numL (u.take (i + 1)) : Nat) : Int) := by
  have hx := getD_lt hu hi
  have htk : u.take (i + 1) = u.take i ++ [u.getD i 0] := by rw [List.take_succ_eq_append_getElem hi, List.getD_eq_getElem?_getD, List.getElem?_eq_getElem hi]; rfl
  have hlt := numL_lt (u.take i) (fun x hx => hu x (List.mem_of_mem_take hx))
  have hlen : (u.take i).length = i := by simp; omega
  rw [hlen] at hlt
  have hp : 2 ^ (8 * i) * 256 ≤ 2 ^ 64 := by
    rw [show (256 : Nat) = 2 ^ 8 from rfl, ← Nat.pow_add]; exact Nat.pow_le_pow_right (by omega) (by omega)
  rw [htk, numL_snoc, hlen, ← or_add _ _ _ hlt, Nat.min_eq_left (by omega), pow_nat]
  generalize u.getD i 0 = x at *
  have h3 : 2 ^ (8 * i) * x < 2 ^ 64 := Nat.lt_of_lt_of_le (Nat.mul_lt_mul_of_pos_left hx (Nat.two_pow_pos _)) hp
  have h4 : numL (u.take i) < 2 ^ 64 := Nat.lt_of_lt_of_le hlt (by have := Nat.two_pow_pos (8 * i); omega)
  rw [← bits_or_u64_nat _ _ h4 h3]
  congr 1
  have e : (x : Int) * ((2 ^ (8 * i) : Nat) : Int) = ((2 ^ (8 * i) * x : Nat) : Int) := by rw [Int.natCast_mul, Int.mul_comm]
  have e2 : IntKind.u64.wrap (x : Int) = x := by rw [IntKind.wrap_u64]; omega
  rw [e2, e]
  generalize 2 ^ (8 * i) * x = z at *
  rw [IntKind.wrap_u64]; omega
theorem dec_bit (D : Nat) (hD : D < 2 ^ 64) (l : List Nat) (k : Nat) (hk : k < l.length) (hl : l.length ≤ 32) :
    bits .or .i64 ((gatN D 0 (l.take k) : Nat) : Int) (IntKind.i64.wrap (IntKind.i64.wrap (bits .and .u64 ((D : Int).fdiv (2 ^ min (l.getD k 0) 64)) 1) * 2 ^ min k 64)) = ((gatN D 0 (l.take (k + 1)) : Nat) : Int) := by
  have htk : l.take (k + 1) = l.take k ++ [l.getD k 0] := by rw [List.take_succ_eq_append_getElem hk, List.getD_eq_getElem?_getD, List.getElem?_eq_getElem hk]; rfl
  have hlen : (l.take k).length = k := by simp; omega
  have hg := gatN_lt D (l.take k) 0
  rw [hlen, Nat.zero_add] at hg
  have hp : 2 ^ k ≤ 2 ^ 32 := Nat.pow_le_pow_right (by omega) (by omega)
  rw [and_bit D _ hD, htk, gatN_snoc, hlen, Nat.zero_add, Nat.min_eq_left (by omega), pow_nat]
  generalize l.getD k 0 = b at *
  cases D.testBit b with
  | false =>
    simp only [cond_false, Nat.add_zero, Bool.toNat_false]
    rw [show IntKind.i64.wrap (((0 : Nat) : Int)) = 0 by decide, Int.zero_mul, show IntKind.i64.wrap 0 = ((0 : Nat) : Int) by decide, or_i64 _ _ (by omega) (by omega), Nat.or_zero]
  | true =>
    simp only [cond_true, Bool.toNat_true]
    rw [show IntKind.i64.wrap (((1 : Nat) : Int)) = 1 by decide, Int.one_mul, w64n _ (by omega), or_i64 _ _ (by omega) (by omega)]
    have := or_add (gatN D 0 (l.take k)) 1 k (by omega)
    rw [Nat.mul_one] at this
    rw [this]
theorem sign_bit (g m : Nat) (hm : m ≤ 31) (hg : g + 2 ^ 0 ≤ 2 ^ (m + 1)) : (bits .and .i64 ((g : Int).fdiv (2 ^ min m 64)) 1 == 1) = decide (2 ^ m ≤ g) := by
  have h2 : 2 ^ (m + 1) = 2 ^ m + 2 ^ m := by rw [Nat.pow_succ]; omega
  have hp := Nat.two_pow_pos m
  rw [fdiv_nat, Nat.min_eq_left (by omega), and1_i64, Bool.eq_iff_iff, beq_iff_eq, decide_eq_true_eq]
  rw [h2] at hg
  generalize 2 ^ m = q at *
  rcases Nat.lt_or_ge g q with h | h
  · rw [Nat.div_eq_of_lt h]; simp; omega
  · have : g / q = 1 := by
      rw [Nat.div_eq_iff hp]; omega
    rw [this]; simp; exact h
theorem clD3 (f : Fm) (u : List Nat) (l : List Int) : ClM ([bZ 3 l] ++ [bS 1 f.sgs, bBr 2 u]) := ClM.v (by simp only [List.cons_append, List.nil_append, List.all_cons, v_ss, v_u, v_z]; rfl)
theorem fdec (f : Fm) (hf : f.ok) (u : List Nat) (hu : ∀ x ∈ u, x < 256) (hl : u.length ≤ 1000) : CallOk Try.prog 26 [fm5 1 f, slV 2 u.length] [bS 1 f.sgs, bBr 2 u] (.tup [.c (.sl 3 0 (dcL f u).length 1), Wi (dcE f u)]) [bZ 3 (dcL f u)] := by
  have hM := clSU f u
  have hk := hf.k
  refine CallOk.mkN 100 Try.func26 rfl en26 (by simp [Try.ntmps26]) (ClA.of rfl) rfl rfl fun C hR hP => ?_
  simp (config := { maxSteps := 2000000 }) only [go_sem, Nat.reduceBEq, Nat.reduceAdd, Nat.reduceLT, Nat.reduceLeDiff, Nat.reduceEqDiff, reduceCtorEq, Int.reduceAdd, Int.reduceSub, Int.reduceNeg, Int.reduceLE, Int.reduceLT, Int.reduceToNat, Int.reduceBEq, Int.reduceBNe, Int.reduceEq, Int.reduceNe, Int.toNat_zero, Int.toNat_one, bne_self_eq_false, Nat.reduceMul, Nat.zero_mul, Nat.mul_one, Nat.one_mul, Nat.reduceSub, Int.cast_ofNat_Int, Int.toNat_natCast]
  refine CallQ.ren [(1, 1)] 130 (fvalid f hf) (clS _) rfl rfl ⟨⟨_, rfl, wkS _ _ _⟩, trivial⟩ rfl (.inr rfl) ?_
  simp (config := { maxSteps := 2000000 }) only [go_sem, Nat.reduceBEq, Nat.reduceAdd, Nat.reduceLT, Nat.reduceLeDiff, Nat.reduceEqDiff, reduceCtorEq, Int.reduceAdd, Int.reduceSub, Int.reduceNeg, Int.reduceLE, Int.reduceLT, Int.reduceToNat, Int.reduceBEq, Int.reduceBNe, Int.reduceEq, Int.reduceNe, Int.toNat_zero, Int.toNat_one, bne_self_eq_false, Nat.reduceMul, Nat.zero_mul, Nat.mul_one, Nat.one_mul, Nat.reduceSub, Int.cast_ofNat_Int, Int.toNat_natCast]
  refine mtch (fun hz => ?_) (fun hz => ?_)
  · have hz : fok f = false := by simpa using hz
    have he : dcE f u = 1 := by rw [dcE, hz]; rfl
    have hb : dcL f u = [] := by rw [dcL, he]; rfl
    rw [he, hb] at hR
    refine RetQ.nils 140 1 3 [4] [] rfl ?_
    simp (config := { maxSteps := 2000000 }) only [go_sem, Nat.reduceBEq, Nat.reduceAdd, Nat.reduceLT, Nat.reduceLeDiff, Nat.reduceEqDiff, reduceCtorEq, Int.reduceAdd, Int.reduceSub, Int.reduceNeg, Int.reduceLE, Int.reduceLT, Int.reduceToNat, Int.reduceBEq, Int.reduceBNe, Int.reduceEq, Int.reduceNe, Int.toNat_zero, Int.toNat_one, bne_self_eq_false, Nat.reduceMul, Nat.zero_mul, Nat.mul_one, Nat.one_mul, Nat.reduceSub, Int.cast_ofNat_Int, Int.toNat_natCast]
    exact RetQ.ren [(1, 1), (2, 2), (3, 140)] hR hP rfl ⟨rfl, rfl, trivial⟩ rfl rfl ⟨⟨rfl, rfl⟩, ⟨rfl, rfl⟩, trivial⟩ ⟨.inr ⟨_, rfl, .inl rfl⟩, .inr ⟨_, rfl, .inl (renV (v_ss _))⟩, .inr ⟨_, rfl, .inl (renV (v_u _))⟩, trivial⟩ (clD3 f u []) (ClV.of rfl)
  · have hz : fok f = true := by simpa using hz
    refine mtch (fun hln => ?_) (fun hln => ?_)
    · have hln : ¬ (u.length : Int) = f.ln := by simpa using hln
      have he : dcE f u = 3 := by rw [dcE, hz, fal_of hln]; rfl
      have hb : dcL f u = [] := by rw [dcL, he]; rfl
      rw [he, hb] at hR
      refine RetQ.nils 140 1 3 [4] [] rfl ?_
      simp (config := { maxSteps := 2000000 }) only [go_sem, Nat.reduceBEq, Nat.reduceAdd, Nat.reduceLT, Nat.reduceLeDiff, Nat.reduceEqDiff, reduceCtorEq, Int.reduceAdd, Int.reduceSub, Int.reduceNeg, Int.reduceLE, Int.reduceLT, Int.reduceToNat, Int.reduceBEq, Int.reduceBNe, Int.reduceEq, Int.reduceNe, Int.toNat_zero, Int.toNat_one, bne_self_eq_false, Nat.reduceMul, Nat.zero_mul, Nat.mul_one, Nat.one_mul, Nat.reduceSub, Int.cast_ofNat_Int, Int.toNat_natCast]
      exact RetQ.ren [(1, 1), (2, 2), (3, 140)] hR hP rfl ⟨rfl, rfl, trivial⟩ rfl rfl ⟨⟨rfl, rfl⟩, ⟨rfl, rfl⟩, trivial⟩ ⟨.inr ⟨_, rfl, .inl rfl⟩, .inr ⟨_, rfl, .inl (renV (v_ss _))⟩, .inr ⟨_, rfl, .inl (renV (v_u _))⟩, trivial⟩ (clD3 f u []) (ClV.of rfl)
    · have hln : (u.length : Int) = f.ln := by simpa using hln
      have hE : dcE f u = bif decOk (numL u) f.sgs then 0 else 2 := by rw [dcE, hz, tru_of hln]; rfl
      have hv := fok_val hz
      have hln8 := hv.ln
      refine Sm.loopM (M0 := [bS 1 f.sgs, bBr 2 u]) (α := { i : Nat // i ≤ u.length }) hP (fun i => [(2, true, .c (.p 4 0)), (6, true, U (numL (u.take i.val))), (25, true, slV 2 u.length), (26, true, I u.length), (27, true, I i.val)])
        (fun _ => [(4, ⟨false, fmL 1 f, 24⟩), bS 1 f.sgs, bBr 2 u]) (fun i => u.length - i.val) ⟨0, by omega⟩ (fun _ => ClM.of (by simp only [List.all_cons, inMV (v_ss _), inMV (v_u _)]; rfl)) (fun _ => ClE.of rfl) [(1, 1), (2, 2), (4, 100)] ?_ ?_
      · exact ⟨rfl, ⟨⟨rfl, rfl⟩, ⟨rfl, rfl⟩, trivial⟩, ⟨rfl, rfl, rfl, rfl, rfl, trivial⟩, ⟨.inr ⟨_, rfl, .inl rfl⟩, .inr ⟨_, rfl, .inl (renV (v_ss _))⟩, .inr ⟨_, rfl, .inl (renV (v_u _))⟩, trivial⟩⟩
      · rintro ⟨i, hi⟩ J hb
        simp only at hb hi ⊢
        refine Sm.go 130 ?_
        simp (config := { maxSteps := 2000000 }) only [go_sem, Nat.reduceBEq, Nat.reduceAdd, Nat.reduceLT, Nat.reduceLeDiff, Nat.reduceEqDiff, reduceCtorEq, Int.reduceAdd, Int.reduceSub, Int.reduceNeg, Int.reduceLE, Int.reduceLT, Int.reduceToNat, Int.reduceBEq, Int.reduceBNe, Int.reduceEq, Int.reduceNe, Int.toNat_zero, Int.toNat_one, bne_self_eq_false, Nat.reduceMul, Nat.zero_mul, Nat.mul_one, Nat.one_mul, Nat.reduceSub, Int.cast_ofNat_Int, Int.toNat_natCast]
        refine mtch (fun hc => ?_) (fun hc => ?_)
        · have hc : i < u.length := by simp at hc; omega
          have w8 : IntKind.i64.wrap (8 * (i : Int)) = ((8 * i : Nat) : Int) := by rw [w64 (by omega) (by omega)]; omega
          have w1 : IntKind.i64.wrap ((i : Int) + 1) = ((i + 1 : Nat) : Int) := by rw [w64 (by omega) (by omega)]; omega
          simp (config := { maxSteps := 2000000 }) only [go_sem, Nat.reduceBEq, Nat.reduceAdd, Nat.reduceLT, Nat.reduceLeDiff, Nat.reduceEqDiff, reduceCtorEq, Int.reduceAdd, Int.reduceSub, Int.reduceNeg, Int.reduceLE, Int.reduceLT, Int.reduceToNat, Int.reduceBEq, Int.reduceBNe, Int.reduceEq, Int.reduceNe, Int.toNat_zero, Int.toNat_one, bne_self_eq_false, Nat.reduceMul, Nat.zero_mul, Nat.mul_one, Nat.one_mul, Nat.reduceSub, Int.cast_ofNat_Int, Int.toNat_natCast, get_u hc, w8, w1, dec_byte u hu (by omega) i hc]
          exact ⟨⟨by omega, by omega⟩, by omega, hb _ _ ⟨i + 1, hc⟩ [(1, 1), (2, 2), (4, 4)] (by simp only; omega) ⟨rfl, ⟨⟨rfl, rfl⟩, ⟨rfl, rfl⟩, trivial⟩, ⟨rfl, rfl, rfl, rfl, rfl, trivial⟩, ⟨.inr ⟨_, rfl, .inl rfl⟩, .inr ⟨_, rfl, .inl (renV (v_ss _))⟩, .inr ⟨_, rfl, .inl (renV (v_u _))⟩, trivial⟩⟩⟩
        · have hc : i = u.length := by simp at hc; omega
          subst hc
          rw [List.take_length]
          have hD : numL u < 2 ^ 64 := Nat.lt_of_lt_of_le (numL_lt u hu) (Nat.pow_le_pow_right (by omega) (by omega))
          have hL : dcL f u = bif dcE f u == 0 then decL (numL u) f.sgs else [] := rfl
          generalize numL u = D at *
          refine Sm.nils 140 1 3 [9] [] rfl ?_
          simp (config := { maxSteps := 2000000 }) only [go_sem, Nat.reduceBEq, Nat.reduceAdd, Nat.reduceLT, Nat.reduceLeDiff, Nat.reduceEqDiff, reduceCtorEq, Int.reduceAdd, Int.reduceSub, Int.reduceNeg, Int.reduceLE, Int.reduceLT, Int.reduceToNat, Int.reduceBEq, Int.reduceBNe, Int.reduceEq, Int.reduceNe, Int.toNat_zero, Int.toNat_one, bne_self_eq_false, Nat.reduceMul, Nat.zero_mul, Nat.mul_one, Nat.one_mul, Nat.reduceSub, Int.cast_ofNat_Int, Int.toNat_natCast]
          refine Sm.loopM (M0 := [bS 1 f.sgs, bBr 2 u]) (α := { i : Nat // i ≤ f.sgs.length ∧ decOk D f.sgs = decOk D (f.sgs.drop i) }) hP (fun i => [(2, true, .c (.p 4 0)), (6, true, U D), (9, true, slV 5 i.val), (41, true, .c (.sl 1 0 f.sgs.length 10)), (42, true, I f.sgs.length), (43, true, I i.val)])
            (fun i => [(4, ⟨false, fmL 1 f, 24⟩), bZ 5 (decL D (f.sgs.take i.val)), bS 1 f.sgs, bBr 2 u]) (fun i => f.sgs.length - i.val) ⟨0, by omega, rfl⟩ (fun _ => ClM.of (by simp only [List.all_cons, inMV (v_ss _), inMV (v_u _), inMV (v_z _)]; rfl)) (fun _ => ClE.of rfl) [(1, 1), (2, 2), (4, 4), (5, 140)] ?_ ?_
          · exact ⟨rfl, ⟨⟨rfl, rfl⟩, ⟨rfl, rfl⟩, trivial⟩, ⟨rfl, rfl, rfl, rfl, rfl, rfl, trivial⟩, ⟨.inr ⟨_, rfl, .inl rfl⟩, .inr ⟨_, rfl, .inl rfl⟩, .inr ⟨_, rfl, .inl (renV (v_ss _))⟩, .inr ⟨_, rfl, .inl (renV (v_u _))⟩, trivial⟩⟩
          · rintro ⟨i, hi, hq⟩ J2 hb2
            simp only at hb2 hi hq ⊢
            refine Sm.go 150 ?_
            simp (config := { maxSteps := 2000000 }) only [go_sem, Nat.reduceBEq, Nat.reduceAdd, Nat.reduceLT, Nat.reduceLeDiff, Nat.reduceEqDiff, reduceCtorEq, Int.reduceAdd, Int.reduceSub, Int.reduceNeg, Int.reduceLE, Int.reduceLT, Int.reduceToNat, Int.reduceBEq, Int.reduceBNe, Int.reduceEq, Int.reduceNe, Int.toNat_zero, Int.toNat_one, bne_self_eq_false, Nat.reduceMul, Nat.zero_mul, Nat.mul_one, Nat.one_mul, Nat.reduceSub, Int.cast_ofNat_Int, Int.toNat_natCast]
            refine mtch (fun hc => ?_) (fun hc => ?_)
            · have hc : i < f.sgs.length := by simp at hc; omega
              have hi' : f.sgs[i] ∈ f.sgs := List.getElem_mem hc
              have htk := ss_take f.sgs i hc
              have hdr : f.sgs.drop i = f.sgs[i] :: f.sgs.drop (i + 1) := List.drop_eq_getElem_cons hc
              have htk1 : f.sgs.take (i + 1) = f.sgs.take i ++ [f.sgs[i]] := by rw [List.take_succ_eq_append_getElem hc]
              obtain ⟨g1, g2, g3⟩ := prE_0 (hv.sg i hc)
              generalize f.sgs[i] = s at *
              simp only [htk]
              refine ⟨⟨by omega, by omega⟩, by rw [ss_len]; omega, ?_⟩
              simp (config := { maxSteps := 2000000 }) only [go_sem, Nat.reduceBEq, Nat.reduceAdd, Nat.reduceLT, Nat.reduceLeDiff, Nat.reduceEqDiff, reduceCtorEq, Int.reduceAdd, Int.reduceSub, Int.reduceNeg, Int.reduceLE, Int.reduceLT, Int.reduceToNat, Int.reduceBEq, Int.reduceBNe, Int.reduceEq, Int.reduceNe, Int.toNat_zero, Int.toNat_one, bne_self_eq_false, Nat.reduceMul, Nat.zero_mul, Nat.mul_one, Nat.one_mul, Nat.reduceSub, Int.cast_ofNat_Int, Int.toNat_natCast]
              refine CallQ.ren [(1, 160)] 161 (sbits s (hf.s s hi')) (ClM.of rfl) rfl rfl trivial rfl (.inl rfl) ?_
              simp only [Mem.ren, List.map_cons, List.map_nil, Bk.ren, List.map_map, V.ren, W.ren, Cv.ren, rn, Nat.reduceBEq, cond_true, cond_false, Function.comp_def]
              simp (config := { maxSteps := 2000000 }) only [go_sem, Nat.reduceBEq, Nat.reduceAdd, Nat.reduceLT, Nat.reduceLeDiff, Nat.reduceEqDiff, reduceCtorEq, Int.reduceAdd, Int.reduceSub, Int.reduceNeg, Int.reduceLE, Int.reduceLT, Int.reduceToNat, Int.reduceBEq, Int.reduceBNe, Int.reduceEq, Int.reduceNe, Int.toNat_zero, Int.toNat_one, bne_self_eq_false, Nat.reduceMul, Nat.zero_mul, Nat.mul_one, Nat.one_mul, Nat.reduceSub, Int.cast_ofNat_Int, Int.toNat_natCast]
              have hbl := bitsL_le s
              have hlen := bitsL_length g1
              have hsb := sok_bd g1
              refine Sm.loopM (M0 := [bS 1 f.sgs, bBr 2 u]) (α := { k : Nat // k ≤ (bitsL s).length }) hP (fun k => [(2, true, .c (.p 4 0)), (6, true, U D), (9, true, slV 5 i), (11, true, .c (.p 6 0)), (12, true, I (gatN D 0 ((bitsL s).take k.val))), (41, true, .c (.sl 1 0 f.sgs.length 10)), (42, true, I f.sgs.length), (43, true, I i), (48, true, slV 7 (bitsL s).length), (49, true, I (bitsL s).length), (50, true, I k.val)])
                (fun _ => [(4, ⟨false, fmL 1 f, 24⟩), bZ 5 (decL D (f.sgs.take i)), (6, ⟨false, sgL s, 33⟩), bN 7 (bitsL s), bS 1 f.sgs, bBr 2 u]) (fun k => (bitsL s).length - k.val) ⟨0, by omega⟩ (fun _ => ClM.of (by simp only [List.all_cons, inMV (v_ss _), inMV (v_u _), inMV (v_z _), inMV (v_n _)]; rfl)) (fun _ => ClE.of rfl) [(1, 1), (2, 2), (4, 4), (5, 5), (6, 150), (7, 160)] ?_ ?_
              · exact ⟨rfl, ⟨⟨rfl, rfl⟩, ⟨rfl, rfl⟩, trivial⟩, ⟨rfl, rfl, rfl, rfl, rfl, rfl, rfl, rfl, rfl, rfl, rfl, trivial⟩, ⟨.inr ⟨_, rfl, .inl rfl⟩, .inr ⟨_, rfl, .inl (renV (v_z _))⟩, .inr ⟨_, rfl, .inl rfl⟩, .inr ⟨_, rfl, .inl (renV (v_n _))⟩, .inr ⟨_, rfl, .inl (renV (v_ss _))⟩, .inr ⟨_, rfl, .inl (renV (v_u _))⟩, trivial⟩⟩
              · rintro ⟨k, hkk⟩ J3 hb3
                simp only at hb3 hkk ⊢
                refine Sm.go 170 ?_
                simp (config := { maxSteps := 2000000 }) only [go_sem, Nat.reduceBEq, Nat.reduceAdd, Nat.reduceLT, Nat.reduceLeDiff, Nat.reduceEqDiff, reduceCtorEq, Int.reduceAdd, Int.reduceSub, Int.reduceNeg, Int.reduceLE, Int.reduceLT, Int.reduceToNat, Int.reduceBEq, Int.reduceBNe, Int.reduceEq, Int.reduceNe, Int.toNat_zero, Int.toNat_one, bne_self_eq_false, Nat.reduceMul, Nat.zero_mul, Nat.mul_one, Nat.one_mul, Nat.reduceSub, Int.cast_ofNat_Int, Int.toNat_natCast]
                refine mtch (fun hkc => ?_) (fun hkc => ?_)
                · have hkc : k < (bitsL s).length := by simp at hkc; omega
                  have w1 : IntKind.i64.wrap ((k : Int) + 1) = ((k + 1 : Nat) : Int) := by rw [w64 (by omega) (by omega)]; omega
                  simp (config := { maxSteps := 2000000 }) only [go_sem, Nat.reduceBEq, Nat.reduceAdd, Nat.reduceLT, Nat.reduceLeDiff, Nat.reduceEqDiff, reduceCtorEq, Int.reduceAdd, Int.reduceSub, Int.reduceNeg, Int.reduceLE, Int.reduceLT, Int.reduceToNat, Int.reduceBEq, Int.reduceBNe, Int.reduceEq, Int.reduceNe, Int.toNat_zero, Int.toNat_one, bne_self_eq_false, Nat.reduceMul, Nat.zero_mul, Nat.mul_one, Nat.one_mul, Nat.reduceSub, Int.cast_ofNat_Int, Int.toNat_natCast, get_n hkc, dec_bit D hD (bitsL s) k hkc hbl, w1]
                  exact ⟨⟨by omega, by omega⟩, by omega, by omega, hb3 _ _ ⟨k + 1, hkc⟩ [(1, 1), (2, 2), (4, 4), (5, 5), (6, 6), (7, 7)] (by simp only; omega) ⟨rfl, ⟨⟨rfl, rfl⟩, ⟨rfl, rfl⟩, trivial⟩, ⟨rfl, rfl, rfl, rfl, rfl, rfl, rfl, rfl, rfl, rfl, rfl, trivial⟩, ⟨.inr ⟨_, rfl, .inl rfl⟩, .inr ⟨_, rfl, .inl (renV (v_z _))⟩, .inr ⟨_, rfl, .inl rfl⟩, .inr ⟨_, rfl, .inl (renV (v_n _))⟩, .inr ⟨_, rfl, .inl (renV (v_ss _))⟩, .inr ⟨_, rfl, .inl (renV (v_u _))⟩, trivial⟩⟩⟩
                · have hkc : k = (bitsL s).length := by simp at hkc; omega
                  subst hkc
                  rw [List.take_length]
                  obtain ⟨m, hm⟩ : ∃ m, s.ln.toNat = m + 1 := ⟨s.ln.toNat - 1, by omega⟩
                  have hgl := gatN_lt D (bitsL s) 0
                  rw [Nat.zero_add, hlen, hm] at hgl
                  have hrv : rawV s D = bif s.sgn && decide (2 ^ m ≤ gatN D 0 (bitsL s)) then (gatN D 0 (bitsL s) : Int) - 2 ^ (m + 1) else gatN D 0 (bitsL s) := by rw [rawV, hm]; rfl
                  have hw : (IntKind.i64.wrap (s.ln - 1)).toNat = m := by rw [w64 (by omega) (by omega)]; omega
                  have e1 := sign_bit (gatN D 0 (bitsL s)) m (by omega) hgl
                  have hw2 : IntKind.i64.wrap ((gatN D 0 (bitsL s) : Nat) - IntKind.i64.wrap (1 * 2 ^ min s.ln.toNat 64)) = (gatN D 0 (bitsL s) : Int) - 2 ^ (m + 1) := by
                    have hp := p2 (show m + 1 ≤ 32 by omega)
                    rw [hm, Nat.min_eq_left (by omega), Int.one_mul, w64 (x := 2 ^ (m + 1)) (by omega) (by omega)]
                    have hgl2 : (gatN D 0 (bitsL s) : Int) < 2 ^ (m + 1) := by rw [pow_nat]; omega
                    exact w64 (by omega) (by omega)
                  simp only [hw, e1, hw2]
                  refine ⟨fun h => ⟨h, by rw [w64 (by omega) (by omega)]; omega⟩, ?_⟩
                  refine mtch (fun hs => ?neg) (fun hs => ?pos)
                  case' neg =>
                    have hr : (gatN D 0 (bitsL s) : Int) - 2 ^ (m + 1) = rawV s D := by rw [hrv, show (s.sgn && decide (2 ^ m ≤ gatN D 0 (bitsL s))) = true by simpa using hs]; rfl
                    simp only [hr]
                    refine ⟨by omega, ?_⟩
                  case' pos =>
                    have hr : (gatN D 0 (bitsL s) : Int) = rawV s D := by rw [hrv, show (s.sgn && decide (2 ^ m ≤ gatN D 0 (bitsL s))) = false by simpa using hs]; rfl
                    simp only [hr]
                  all_goals
                    refine CallQ.pure 170 (fperm s (rawV s D)) rfl ?_
                    simp (config := { maxSteps := 2000000 }) only [go_sem, Nat.reduceBEq, Nat.reduceAdd, Nat.reduceLT, Nat.reduceLeDiff, Nat.reduceEqDiff, reduceCtorEq, Int.reduceAdd, Int.reduceSub, Int.reduceNeg, Int.reduceLE, Int.reduceLT, Int.reduceToNat, Int.reduceBEq, Int.reduceBNe, Int.reduceEq, Int.reduceNe, Int.toNat_zero, Int.toNat_one, bne_self_eq_false, Nat.reduceMul, Nat.zero_mul, Nat.mul_one, Nat.one_mul, Nat.reduceSub, Int.cast_ofNat_Int, Int.toNat_natCast]
                    have hq2 : decOk D f.sgs = (inR (rawV s D) s.lo s.hi && decOk D (f.sgs.drop (i + 1))) := by rw [hq, hdr]; rfl
                    have w1 : IntKind.i64.wrap ((i : Int) + 1) = ((i + 1 : Nat) : Int) := by rw [w64 (by omega) (by omega)]; omega
                    refine mtch (fun hx => ?_) (fun hx => ?_)
                    · have hx : inR (rawV s D) s.lo s.hi = false := by simpa using hx
                      have he : dcE f u = 2 := by rw [hE, hq2, hx]; rfl
                      have hb4 : dcL f u = [] := by rw [hL, he]; rfl
                      rw [he, hb4] at hR
                      refine RetQ.nils 180 1 3 [4] [] rfl ?_
                      simp (config := { maxSteps := 2000000 }) only [go_sem, Nat.reduceBEq, Nat.reduceAdd, Nat.reduceLT, Nat.reduceLeDiff, Nat.reduceEqDiff, reduceCtorEq, Int.reduceAdd, Int.reduceSub, Int.reduceNeg, Int.reduceLE, Int.reduceLT, Int.reduceToNat, Int.reduceBEq, Int.reduceBNe, Int.reduceEq, Int.reduceNe, Int.toNat_zero, Int.toNat_one, bne_self_eq_false, Nat.reduceMul, Nat.zero_mul, Nat.mul_one, Nat.one_mul, Nat.reduceSub, Int.cast_ofNat_Int, Int.toNat_natCast]
                      exact RetQ.ren [(1, 1), (2, 2), (3, 180)] hR hP rfl ⟨rfl, rfl, trivial⟩ rfl rfl ⟨⟨rfl, rfl⟩, ⟨rfl, rfl⟩, trivial⟩ ⟨.inr ⟨_, rfl, .inl rfl⟩, .inr ⟨_, rfl, .inl (renV (v_ss _))⟩, .inr ⟨_, rfl, .inl (renV (v_u _))⟩, trivial⟩ (clD3 f u []) (ClV.of rfl)
                    · have hx : inR (rawV s D) s.lo s.hi = true := by simpa using hx
                      have hap : List.take i (List.map cz (decL D (f.sgs.take i))) ++ [cz (rawV s D)] = List.map cz (decL D (f.sgs.take (i + 1))) := by
                        rw [List.take_of_length_le (by simp [decL]; omega), htk1]; simp [decL]
                      simp only [hap, w1]
                      exact ⟨⟨by simp [decL]; omega, by omega, by omega⟩, hb2 _ _ ⟨i + 1, hc, by rw [hq2, hx, Bool.true_and]⟩ [(1, 1), (2, 2), (4, 4), (5, 171)] (by simp only; omega) ⟨rfl, ⟨⟨rfl, rfl⟩, ⟨rfl, rfl⟩, trivial⟩, ⟨rfl, rfl, rfl, rfl, rfl, rfl, trivial⟩, ⟨.inr ⟨_, rfl, .inl rfl⟩, .inr ⟨_, rfl, .inl (renV (v_z _))⟩, .inr ⟨_, rfl, .inl (renV (v_ss _))⟩, .inr ⟨_, rfl, .inl (renV (v_u _))⟩, trivial⟩⟩⟩
            · have hc : i = f.sgs.length := by simp at hc; omega
              subst hc
              rw [List.drop_length] at hq
              rw [List.take_length]
              have he : dcE f u = 0 := by rw [hE, hq]; rfl
              have hb3 : dcL f u = decL D f.sgs := by rw [hL, he]; rfl
              rw [he, hb3] at hR
              have hdl : (decL D f.sgs).length = f.sgs.length := by simp [decL]
              rw [hdl] at hR
              exact RetQ.ren [(1, 1), (2, 2), (3, 5)] hR hP rfl ⟨rfl, rfl, trivial⟩ rfl rfl ⟨⟨rfl, rfl⟩, ⟨rfl, rfl⟩, trivial⟩ ⟨.inr ⟨_, rfl, .inl (renV (v_z _))⟩, .inr ⟨_, rfl, .inl (renV (v_ss _))⟩, .inr ⟨_, rfl, .inl (renV (v_u _))⟩, trivial⟩ (clD3 f u _) (ClV.of rfl)
end Go.Proofs.Ytcdclmelnnbdnaa
