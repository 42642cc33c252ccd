/- Frame: Encode. -/
import Derived.Test.YtcdclmelnnbdnaaA9
namespace Go.Proofs.Ytcdclmelnnbdnaa
open Vg Tf
set_option linter.unusedSimpArgs false
set_option linter.unusedVariables false
set_option maxRecDepth 100000
set_option maxHeartbeats 4000000
abbrev cb (d : Nat) : Cv := .v (.int .u8 (d : Int))
@[reducible] def bB (nm : Nat) (l : List Nat) : Nat × Bk := (nm, ⟨false, l.map cb, 5⟩)
@[reducible] def bBr (nm : Nat) (l : List Nat) : Nat × Bk := (nm, ⟨true, l.map cb, 5⟩)
@[reducible] def bZ (nm : Nat) (l : List Int) : Nat × Bk := (nm, ⟨false, l.map cz, 3⟩)
@[reducible] def bZr (nm : Nat) (l : List Int) : Nat × Bk := (nm, ⟨true, l.map cz, 3⟩)
theorem v_u (l : List Nat) : (l.map cb).all Cv.isV = true := by simp [Cv.isV]
theorem v_z (l : List Int) : (l.map cz).all Cv.isV = true := by simp [Cv.isV]
theorem get_z {l : List Int} {i : Nat} (h : i < l.length) : (l.map cz)[i]? = some (cz (l.getD i 0)) := by
  rw [List.getElem?_map, List.getD_eq_getElem?_getD, List.getElem?_eq_getElem h]; rfl
theorem get_u {l : List Nat} {i : Nat} (h : i < l.length) : (l.map cb)[i]? = some (cb (l.getD i 0)) := by
  rw [List.getElem?_map, List.getD_eq_getElem?_getD, List.getElem?_eq_getElem h]; rfl
def xbit (x : Int) (k : Nat) : Bool := decide (x / 2 ^ k % 2 = 1)
/-- The bits of one raw value put into data. -/
def encS (x : Int) : Nat → List Nat → Nat → Nat
  | D, [], _ => D
  | D, b :: r, k => encS x (bif xbit x k then D ||| 2 ^ b else D) r (k + 1)
def encD : Nat → List Sg → List Int → Nat
  | D, s :: l, x :: r => encD (encS x D (bitsL s) 0) l r
  | D, _, _ => D
def permL : List Sg → List Int → Bool
  | s :: l, x :: r => inR x s.lo s.hi && permL l r
  | _, _ => true
def bytesOf (n D : Nat) : List Nat := (List.range n).map fun j => D / 2 ^ (8 * j) % 256
def encE (f : Fm) (raws : List Int) : Int := bif fok f && decide (raws.length = f.sgs.length) then (bif permL f.sgs raws then 0 else 2) else 1
def encB (f : Fm) (raws : List Int) : List Nat := bif encE f raws == 0 then bytesOf f.ln.toNat (encD 0 f.sgs raws) else []
theorem and1_i64 (y : Int) : bits .and .i64 y 1 = y % 2 := by
  have h1 : (BitVec.ofInt 64 y).toNat = (y % 18446744073709551616).toNat := by rw [BitVec.toNat_ofInt]; rfl
  show IntKind.i64.wrap ((BitVec.ofInt 64 y &&& BitVec.ofInt 64 1).toNat : Int) = _
  rw [BitVec.toNat_and, h1, show (BitVec.ofInt 64 1).toNat = 1 by decide, Nat.and_one_is_mod, w64 (by omega) (by omega)]
  omega
theorem fdivZ (x : Int) (k : Nat) : x.fdiv (2 ^ k) = x / 2 ^ k := Int.fdiv_eq_ediv_of_nonneg x (Int.le_of_lt (Int.pow_pos (by omega)))
theorem enc_bit (x : Int) (k b D : Nat) (hk : k ≤ 64) (hD : D < 2 ^ 64) (hb : b < 64) :
    bits .or .u64 (D : Int) (IntKind.u64.wrap (IntKind.u64.wrap (bits .and .i64 (x.fdiv (2 ^ min k 64)) 1) * 2 ^ min b 64)) = ((bif xbit x k then D ||| 2 ^ b else D : Nat) : Int) := by
  have h2 : 2 ^ b < 2 ^ 64 := Nat.pow_lt_pow_right (by omega) hb
  rw [and1_i64, fdivZ, Nat.min_eq_left hk, Nat.min_eq_left (show b ≤ 64 by omega), pow_nat b]
  unfold xbit
  by_cases h : x / 2 ^ k % 2 = 1
  · rw [h, decide_eq_true rfl, cond_true, show IntKind.u64.wrap 1 = 1 by decide, Int.one_mul, IntKind.wrap_u64, ← bits_or_u64_nat D (2 ^ b) hD h2]
    congr 1
    generalize 2 ^ b = q at *
    omega
  · have h0 : x / 2 ^ k % 2 = 0 := by omega
    rw [decide_eq_false h, cond_false, h0, show IntKind.u64.wrap 0 = 0 by decide, Int.zero_mul, show IntKind.u64.wrap 0 = ((0 : Nat) : Int) by decide, bits_or_u64_nat D 0 hD (by omega), Nat.or_zero]
theorem encS_lt (x : Int) : ∀ (l : List Nat) (D k : Nat), D < 2 ^ 64 → (∀ b ∈ l, b < 64) → encS x D l k < 2 ^ 64
  | [], D, k, h, _ => h
  | b :: l, D, k, h, hl => by
    rw [encS]
    refine encS_lt x l _ _ ?_ (fun c hc => hl c (by simp [hc]))
    cases xbit x k
    · exact h
    · exact Nat.or_lt_two_pow h (Nat.pow_lt_pow_right (by omega) (hl b (by simp)))
theorem bits64 {f : Fm} (hv : f.val) {i : Nat} (h : i < f.sgs.length) : ∀ b ∈ bitsL f.sgs[i], (b : Int) < 8 * f.ln := by
  obtain ⟨_, h2, _⟩ := prE_0 (hv.sg i h)
  intro b hb
  have := List.all_eq_true.1 h2 b hb
  rw [Bool.and_eq_true, decide_eq_true_eq] at this
  exact this.1
theorem fperm (s : Sg) (x : Int) : CallOk Try.prog 40 [sg s, I x] [] (Bo (inR x s.lo s.hi)) [] := by
  refine CallOk.mkN 100 Try.func40 rfl en40 (by simp [Try.ntmps40]) (ClA.of rfl) rfl rfl fun C hR hP => ?_
  simp (config := { maxSteps := 2000000 }) only [go_sem, Nat.reduceBEq, Nat.reduceAdd, Nat.reduceLT, Nat.reduceLeDiff, Nat.reduceEqDiff, reduceCtorEq, Int.reduceAdd, Int.reduceSub, Int.reduceNeg, Int.reduceLE, Int.reduceLT, Int.reduceToNat, Int.reduceBEq, Int.reduceBNe, Int.reduceEq, Int.reduceNe, Int.toNat_zero, Int.toNat_one, bne_self_eq_false, Nat.reduceMul, Nat.zero_mul, Nat.mul_one, Nat.one_mul, Nat.reduceSub, Int.cast_ofNat_Int, Int.toNat_natCast]
  refine CallQ.pure 110 (fwithin x s.lo s.hi) rfl ?_
  simp (config := { maxSteps := 2000000 }) only [go_sem, Nat.reduceBEq, Nat.reduceAdd, Nat.reduceLT, Nat.reduceLeDiff, Nat.reduceEqDiff, reduceCtorEq, Int.reduceAdd, Int.reduceSub, Int.reduceNeg, Int.reduceLE, Int.reduceLT, Int.reduceToNat, Int.reduceBEq, Int.reduceBNe, Int.reduceEq, Int.reduceNe, Int.toNat_zero, Int.toNat_one, bne_self_eq_false, Nat.reduceMul, Nat.zero_mul, Nat.mul_one, Nat.one_mul, Nat.reduceSub, Int.cast_ofNat_Int, Int.toNat_natCast]
  exact RetQ.bool hR rfl ⟨rfl, trivial⟩ rfl
theorem rperm (s : Sg) (x : Int) : CallOk Try.prog 16 [sg s, I x] [] (Bo (inR x s.lo s.hi)) [] := by
  refine CallOk.mkN 100 Try.func16 rfl en16 (by simp [Try.ntmps16]) (ClA.of rfl) rfl rfl fun C hR hP => ?_
  simp (config := { maxSteps := 2000000 }) only [go_sem, Nat.reduceBEq, Nat.reduceAdd, Nat.reduceLT, Nat.reduceLeDiff, Nat.reduceEqDiff, reduceCtorEq, Int.reduceAdd, Int.reduceSub, Int.reduceNeg, Int.reduceLE, Int.reduceLT, Int.reduceToNat, Int.reduceBEq, Int.reduceBNe, Int.reduceEq, Int.reduceNe, Int.toNat_zero, Int.toNat_one, bne_self_eq_false, Nat.reduceMul, Nat.zero_mul, Nat.mul_one, Nat.one_mul, Nat.reduceSub, Int.cast_ofNat_Int, Int.toNat_natCast]
  refine RetQ.bool hR rfl ⟨rfl, trivial⟩ ?_
  rw [Bool.eq_iff_iff, inR_iff]
  simp only [Bool.cond_false_right, Bool.and_eq_true, decide_eq_true_eq]
theorem clE2 (f : Fm) (raws : List Int) : ClM [bS 1 f.sgs, bZr 2 raws] := ClM.v (by simp only [List.all_cons, v_ss, v_z]; rfl)
theorem clE3 (f : Fm) (raws : List Int) (l : List Nat) : ClM ([bB 3 l] ++ [bS 1 f.sgs, bZr 2 raws]) := ClM.v (by simp only [List.cons_append, List.nil_append, List.all_cons, v_ss, v_z, v_u]; rfl)
theorem permL_nil (r : List Int) : permL [] r = true := by cases r <;> rfl
theorem encD_nil (D : Nat) (r : List Int) : encD D [] r = D := by cases r <;> rfl
theorem reps_cb (n : Nat) : reps n [Cv.v (.int .u8 0)] = (List.replicate n 0).map cb := by
  rw [reps_one, List.map_replicate]; rfl
theorem set_next {α : Type} (A : List α) (z v : α) (m : Nat) : (A ++ List.replicate (m + 1) z).set A.length v = (A ++ [v]) ++ List.replicate m z := by
  rw [List.set_append_right _ _ (Nat.le_refl _), Nat.sub_self, List.replicate_succ]; simp
theorem bytesOf_succ (n D : Nat) : bytesOf (n + 1) D = bytesOf n D ++ [D / 2 ^ (8 * n) % 256] := by simp [bytesOf, List.range_succ]
theorem bytesOf_length (n D : Nat) : (bytesOf n D).length = n := by simp [bytesOf]
theorem drop_z {l : List Int} {i : Nat} (h : i < l.length) : l.drop i = l.getD i 0 :: l.drop (i + 1) := by
  rw [List.drop_eq_getElem_cons h, List.getD_eq_getElem?_getD, List.getElem?_eq_getElem h]; rfl
theorem drop_n {l : List Nat} {i : Nat} (h : i < l.length) : l.drop i = l.getD i 0 :: l.drop (i + 1) := by
  rw [List.drop_eq_getElem_cons h, List.getD_eq_getElem?_getD, List.getElem?_eq_getElem h]; rfl
theorem mem_n {l : List Nat} {i : Nat} (h : i < l.length) : l.getD i 0 ∈ l := by
  rw [List.getD_eq_getElem?_getD, List.getElem?_eq_getElem h]; exact List.getElem_mem h
theorem byte_of (D j : Nat) (hj : j < 8) : IntKind.u8.wrap ((D : Int).fdiv (2 ^ min (8 * j) 64)) = ((D / 2 ^ (8 * j) % 256 : Nat) : Int) := by
  rw [fdiv_nat, Nat.min_eq_left (by omega), IntKind.wrap_u8]; omega
theorem fenc (f : Fm) (hf : f.ok) (raws : List Int) (hl : raws.length ≤ 1000000) : CallOk Try.prog 14 [fm5 1 f, slV 2 raws.length] [bS 1 f.sgs, bZr 2 raws] (.tup [.c (.sl 3 0 (encB f raws).length 1), Wi (encE f raws)]) [bB 3 (encB f raws)] := by
  have hM := clE2 f raws
  refine CallOk.mkN 100 Try.func14 rfl en14 (by simp [Try.ntmps14]) (ClA.of rfl) rfl rfl fun C hR hP => ?_
  simp (config := { maxSteps := 2000000 }) only [go_sem, Nat.reduceBEq, Nat.reduceAdd, Nat.reduceLT, Nat.reduceLeDiff, Nat.reduceEqDiff, reduceCtorEq, Int.reduceAdd, Int.reduceSub, Int.reduceNeg, Int.reduceLE, Int.reduceLT, Int.reduceToNat, Int.reduceBEq, Int.reduceBNe, Int.reduceEq, Int.reduceNe, Int.toNat_zero, Int.toNat_one, bne_self_eq_false, Nat.reduceMul, Nat.zero_mul, Nat.mul_one, Nat.one_mul, Nat.reduceSub, Int.cast_ofNat_Int, Int.toNat_natCast]
  refine CallQ.ren [(1, 1)] 130 (fvalid f hf) (clS _) rfl rfl ⟨⟨_, rfl, .inl (renV (v_ss _))⟩, trivial⟩ rfl (.inr rfl) ?_
  simp (config := { maxSteps := 2000000 }) only [go_sem, Nat.reduceBEq, Nat.reduceAdd, Nat.reduceLT, Nat.reduceLeDiff, Nat.reduceEqDiff, reduceCtorEq, Int.reduceAdd, Int.reduceSub, Int.reduceNeg, Int.reduceLE, Int.reduceLT, Int.reduceToNat, Int.reduceBEq, Int.reduceBNe, Int.reduceEq, Int.reduceNe, Int.toNat_zero, Int.toNat_one, bne_self_eq_false, Nat.reduceMul, Nat.zero_mul, Nat.mul_one, Nat.one_mul, Nat.reduceSub, Int.cast_ofNat_Int, Int.toNat_natCast]
  have e1 : (bif !fok f then true else (raws.length : Int) != (f.sgs.length : Int)) = !(fok f && decide (raws.length = f.sgs.length)) := by
    cases fok f
    · rfl
    · rw [Bool.eq_iff_iff]; simp; omega
  simp only [e1]
  refine mtch (fun hz => ?_) (fun hz => ?_)
  · have hz : (fok f && decide (raws.length = f.sgs.length)) = false := by rw [Bool.not_eq_true'] at hz; exact hz
    have he : encE f raws = 1 := by rw [encE, hz]; rfl
    have hb : encB f raws = [] := by rw [encB, he]; rfl
    rw [he, hb] at hR
    refine RetQ.nils 140 1 5 [4] [] rfl ?_
    simp (config := { maxSteps := 2000000 }) only [go_sem, Nat.reduceBEq, Nat.reduceAdd, Nat.reduceLT, Nat.reduceLeDiff, Nat.reduceEqDiff, reduceCtorEq, Int.reduceAdd, Int.reduceSub, Int.reduceNeg, Int.reduceLE, Int.reduceLT, Int.reduceToNat, Int.reduceBEq, Int.reduceBNe, Int.reduceEq, Int.reduceNe, Int.toNat_zero, Int.toNat_one, bne_self_eq_false, Nat.reduceMul, Nat.zero_mul, Nat.mul_one, Nat.one_mul, Nat.reduceSub, Int.cast_ofNat_Int, Int.toNat_natCast]
    exact RetQ.ren [(1, 1), (2, 2), (3, 140)] hR hP rfl ⟨rfl, rfl, trivial⟩ rfl rfl ⟨⟨rfl, rfl⟩, ⟨rfl, rfl⟩, trivial⟩ ⟨.inr ⟨_, rfl, .inl rfl⟩, .inr ⟨_, rfl, .inl (renV (v_ss _))⟩, .inr ⟨_, rfl, .inl (renV (v_z _))⟩, trivial⟩ (clE3 f raws []) (ClV.of rfl)
  · have hz : (fok f && decide (raws.length = f.sgs.length)) = true := by rw [Bool.not_eq_false'] at hz; exact hz
    have hE : encE f raws = bif permL f.sgs raws then 0 else 2 := by rw [encE, hz]; rfl
    rw [Bool.and_eq_true, decide_eq_true_eq] at hz
    obtain ⟨hv, hln⟩ := hz
    have hv := fok_val hv
    refine Sm.loopM (M0 := [bS 1 f.sgs, bZr 2 raws]) (α := { p : Nat × Nat // p.1 ≤ f.sgs.length ∧ p.2 < 2 ^ 64 ∧ permL f.sgs raws = permL (f.sgs.drop p.1) (raws.drop p.1) ∧ encD 0 f.sgs raws = encD p.2 (f.sgs.drop p.1) (raws.drop p.1) }) hP (fun p => [(1, true, slV 2 raws.length), (2, true, .c (.p 4 0)), (6, true, U p.val.2), (25, true, .c (.sl 1 0 f.sgs.length 10)), (26, true, I f.sgs.length), (27, true, I p.val.1)])
      (fun _ => [(4, ⟨false, fmL 1 f, 24⟩), bS 1 f.sgs, bZr 2 raws]) (fun p => f.sgs.length - p.val.1) ⟨(0, 0), by simp, by simp, rfl, rfl⟩ (fun _ => ClM.of (by simp only [List.all_cons, inMV (v_ss _), inMV (v_z _)]; rfl)) (fun _ => ClE.of rfl) [(1, 1), (2, 2), (4, 100)] ?_ ?_
    · exact ⟨rfl, ⟨⟨rfl, rfl⟩, ⟨rfl, rfl⟩, trivial⟩, ⟨rfl, rfl, rfl, rfl, rfl, rfl, trivial⟩, ⟨.inr ⟨_, rfl, .inl rfl⟩, .inr ⟨_, rfl, .inl (renV (v_ss _))⟩, .inr ⟨_, rfl, .inl (renV (v_z _))⟩, trivial⟩⟩
    · rintro ⟨⟨i, D⟩, hi, hD, hp, he⟩ J hb
      simp only at hb hi hD hp he ⊢
      refine Sm.go 120 ?_
      simp (config := { maxSteps := 2000000 }) only [go_sem, Nat.reduceBEq, Nat.reduceAdd, Nat.reduceLT, Nat.reduceLeDiff, Nat.reduceEqDiff, reduceCtorEq, Int.reduceAdd, Int.reduceSub, Int.reduceNeg, Int.reduceLE, Int.reduceLT, Int.reduceToNat, Int.reduceBEq, Int.reduceBNe, Int.reduceEq, Int.reduceNe, Int.toNat_zero, Int.toNat_one, bne_self_eq_false, Nat.reduceMul, Nat.zero_mul, Nat.mul_one, Nat.one_mul, Nat.reduceSub, Int.cast_ofNat_Int, Int.toNat_natCast]
      refine mtch (fun hc => ?_) (fun hc => ?_)
      · have hc : i < f.sgs.length := by simp at hc; omega
        have hcr : i < raws.length := by omega
        have hi' : f.sgs[i] ∈ f.sgs := List.getElem_mem hc
        have htk := ss_take f.sgs i hc
        have hdr : f.sgs.drop i = f.sgs[i] :: f.sgs.drop (i + 1) := List.drop_eq_getElem_cons hc
        have hb64 := bits64 hv hc
        have hdz := drop_z hcr
        generalize f.sgs[i] = s at *
        simp only [htk]
        refine ⟨⟨by omega, by omega⟩, by rw [ss_len]; omega, ?_⟩
        simp (config := { maxSteps := 2000000 }) only [go_sem, Nat.reduceBEq, Nat.reduceAdd, Nat.reduceLT, Nat.reduceLeDiff, Nat.reduceEqDiff, reduceCtorEq, Int.reduceAdd, Int.reduceSub, Int.reduceNeg, Int.reduceLE, Int.reduceLT, Int.reduceToNat, Int.reduceBEq, Int.reduceBNe, Int.reduceEq, Int.reduceNe, Int.toNat_zero, Int.toNat_one, bne_self_eq_false, Nat.reduceMul, Nat.zero_mul, Nat.mul_one, Nat.one_mul, Nat.reduceSub, Int.cast_ofNat_Int, Int.toNat_natCast]
        refine Sm.dgo 140 5 mix (by decide +kernel) (by decide +kernel) ?_
        simp (config := { maxSteps := 2000000 }) only [go_sem, Nat.reduceBEq, Nat.reduceAdd, Nat.reduceLT, Nat.reduceLeDiff, Nat.reduceEqDiff, reduceCtorEq, Int.reduceAdd, Int.reduceSub, Int.reduceNeg, Int.reduceLE, Int.reduceLT, Int.reduceToNat, Int.reduceBEq, Int.reduceBNe, Int.reduceEq, Int.reduceNe, Int.toNat_zero, Int.toNat_one, bne_self_eq_false, Nat.reduceMul, Nat.zero_mul, Nat.mul_one, Nat.one_mul, Nat.reduceSub, Int.cast_ofNat_Int, Int.toNat_natCast, get_z hcr]
        generalize hxd : raws.getD i 0 = x at *
        refine ⟨⟨by omega, by omega⟩, ?_⟩
        refine CallQ.pure 140 (fperm s x) rfl ?_
        simp (config := { maxSteps := 2000000 }) only [go_sem, Nat.reduceBEq, Nat.reduceAdd, Nat.reduceLT, Nat.reduceLeDiff, Nat.reduceEqDiff, reduceCtorEq, Int.reduceAdd, Int.reduceSub, Int.reduceNeg, Int.reduceLE, Int.reduceLT, Int.reduceToNat, Int.reduceBEq, Int.reduceBNe, Int.reduceEq, Int.reduceNe, Int.toNat_zero, Int.toNat_one, bne_self_eq_false, Nat.reduceMul, Nat.zero_mul, Nat.mul_one, Nat.one_mul, Nat.reduceSub, Int.cast_ofNat_Int, Int.toNat_natCast]
        have hp' : permL f.sgs raws = (inR x s.lo s.hi && permL (f.sgs.drop (i + 1)) (raws.drop (i + 1))) := by rw [hp, hdr, hdz]; rfl
        have he' : encD 0 f.sgs raws = encD (encS x D (bitsL s) 0) (f.sgs.drop (i + 1)) (raws.drop (i + 1)) := by rw [he, hdr, hdz]; rfl
        refine mtch (fun hq => ?_) (fun hq => ?_)
        · have hq : inR x s.lo s.hi = false := by simpa using hq
          have he2 : encE f raws = 2 := by rw [hE, hp', hq]; rfl
          have hb2 : encB f raws = [] := by rw [encB, he2]; rfl
          rw [he2, hb2] at hR
          refine RetQ.nils 150 1 5 [4] [] rfl ?_
          simp (config := { maxSteps := 2000000 }) only [go_sem, Nat.reduceBEq, Nat.reduceAdd, Nat.reduceLT, Nat.reduceLeDiff, Nat.reduceEqDiff, reduceCtorEq, Int.reduceAdd, Int.reduceSub, Int.reduceNeg, Int.reduceLE, Int.reduceLT, Int.reduceToNat, Int.reduceBEq, Int.reduceBNe, Int.reduceEq, Int.reduceNe, Int.toNat_zero, Int.toNat_one, bne_self_eq_false, Nat.reduceMul, Nat.zero_mul, Nat.mul_one, Nat.one_mul, Nat.reduceSub, Int.cast_ofNat_Int, Int.toNat_natCast]
          exact RetQ.ren [(1, 1), (2, 2), (3, 150)] hR hP rfl ⟨rfl, rfl, trivial⟩ rfl rfl ⟨⟨rfl, rfl⟩, ⟨rfl, rfl⟩, trivial⟩ ⟨.inr ⟨_, rfl, .inl rfl⟩, .inr ⟨_, rfl, .inl (renV (v_ss _))⟩, .inr ⟨_, rfl, .inl (renV (v_z _))⟩, trivial⟩ (clE3 f raws []) (ClV.of rfl)
        · have hq : inR x s.lo s.hi = true := by simpa using hq
          have hbl := bitsL_le s
          refine CallQ.ren [(1, 150)] 151 (sbits s (hf.s s hi')) (ClM.of rfl) rfl rfl trivial rfl (.inl rfl) ?_
          simp only [Mem.ren, List.map_cons, List.map_nil, Bk.ren, List.map_map, V.ren, W.ren, Cv.ren, rn, Nat.reduceBEq, cond_true, cond_false, Function.comp_def]
          simp (config := { maxSteps := 2000000 }) only [go_sem, Nat.reduceBEq, Nat.reduceAdd, Nat.reduceLT, Nat.reduceLeDiff, Nat.reduceEqDiff, reduceCtorEq, Int.reduceAdd, Int.reduceSub, Int.reduceNeg, Int.reduceLE, Int.reduceLT, Int.reduceToNat, Int.reduceBEq, Int.reduceBNe, Int.reduceEq, Int.reduceNe, Int.toNat_zero, Int.toNat_one, bne_self_eq_false, Nat.reduceMul, Nat.zero_mul, Nat.mul_one, Nat.one_mul, Nat.reduceSub, Int.cast_ofNat_Int, Int.toNat_natCast]
          refine Sm.loopM (M0 := [bS 1 f.sgs, bZr 2 raws]) (α := { p : Nat × Nat // p.1 ≤ (bitsL s).length ∧ p.2 < 2 ^ 64 ∧ encS x D (bitsL s) 0 = encS x p.2 ((bitsL s).drop p.1) p.1 }) hP (fun p => [(1, true, slV 2 raws.length), (2, true, .c (.p 4 0)), (6, true, U p.val.2), (7, true, I i), (25, true, .c (.sl 1 0 f.sgs.length 10)), (26, true, I f.sgs.length), (27, true, I i), (40, true, slV 6 (bitsL s).length), (41, true, I (bitsL s).length), (42, true, I p.val.1)])
            (fun _ => [(4, ⟨false, fmL 1 f, 24⟩), bN 6 (bitsL s), bS 1 f.sgs, bZr 2 raws]) (fun p => (bitsL s).length - p.val.1) ⟨(0, D), by simp, hD, rfl⟩ (fun _ => ClM.of (by simp only [List.all_cons, inMV (v_ss _), inMV (v_z _), inMV (v_n _)]; rfl)) (fun _ => ClE.of rfl) [(1, 1), (2, 2), (4, 4), (6, 150)] ?_ ?_
          · exact ⟨rfl, ⟨⟨rfl, rfl⟩, ⟨rfl, rfl⟩, trivial⟩, ⟨rfl, rfl, rfl, rfl, rfl, rfl, rfl, rfl, rfl, rfl, trivial⟩, ⟨.inr ⟨_, rfl, .inl rfl⟩, .inr ⟨_, rfl, .inl (renV (v_n _))⟩, .inr ⟨_, rfl, .inl (renV (v_ss _))⟩, .inr ⟨_, rfl, .inl (renV (v_z _))⟩, trivial⟩⟩
          · rintro ⟨⟨k, D2⟩, hk, hD2, hx⟩ J2 hb2
            simp only at hb2 hk hD2 hx ⊢
            refine Sm.go 160 ?_
            simp (config := { maxSteps := 2000000 }) only [go_sem, Nat.reduceBEq, Nat.reduceAdd, Nat.reduceLT, Nat.reduceLeDiff, Nat.reduceEqDiff, reduceCtorEq, Int.reduceAdd, Int.reduceSub, Int.reduceNeg, Int.reduceLE, Int.reduceLT, Int.reduceToNat, Int.reduceBEq, Int.reduceBNe, Int.reduceEq, Int.reduceNe, Int.toNat_zero, Int.toNat_one, bne_self_eq_false, Nat.reduceMul, Nat.zero_mul, Nat.mul_one, Nat.one_mul, Nat.reduceSub, Int.cast_ofNat_Int, Int.toNat_natCast]
            refine mtch (fun hkc => ?_) (fun hkc => ?_)
            · have hkc : k < (bitsL s).length := by simp at hkc; omega
              have hdn := drop_n hkc
              have hbm := hb64 _ (mem_n hkc)
              simp (config := { maxSteps := 2000000 }) only [go_sem, Nat.reduceBEq, Nat.reduceAdd, Nat.reduceLT, Nat.reduceLeDiff, Nat.reduceEqDiff, reduceCtorEq, Int.reduceAdd, Int.reduceSub, Int.reduceNeg, Int.reduceLE, Int.reduceLT, Int.reduceToNat, Int.reduceBEq, Int.reduceBNe, Int.reduceEq, Int.reduceNe, Int.toNat_zero, Int.toNat_one, bne_self_eq_false, Nat.reduceMul, Nat.zero_mul, Nat.mul_one, Nat.one_mul, Nat.reduceSub, Int.cast_ofNat_Int, Int.toNat_natCast, get_n hkc, get_z hcr, hxd]
              generalize (bitsL s).getD k 0 = b at *
              rw [hdn, encS] at hx
              have hb6 : b < 64 := by have := hv.ln; omega
              have hbl2 := bitsL_le s
              have w1 : IntKind.i64.wrap ((k : Int) + 1) = ((k + 1 : Nat) : Int) := by rw [w64 (by omega) (by omega)]; omega
              simp only [enc_bit x k b D2 (by omega) hD2 hb6, w1]
              refine ⟨⟨by omega, by omega⟩, ⟨by omega, by omega⟩, by omega, by omega, ?_⟩
              refine hb2 _ _ ⟨(k + 1, bif xbit x k then D2 ||| 2 ^ b else D2), hkc, ?_, hx⟩ [(1, 1), (2, 2), (4, 4), (6, 6)] (by simp only; omega) ⟨rfl, ⟨⟨rfl, rfl⟩, ⟨rfl, rfl⟩, trivial⟩, ⟨rfl, rfl, rfl, rfl, rfl, rfl, rfl, rfl, rfl, rfl, trivial⟩, ⟨.inr ⟨_, rfl, .inl rfl⟩, .inr ⟨_, rfl, .inl (renV (v_n _))⟩, .inr ⟨_, rfl, .inl (renV (v_ss _))⟩, .inr ⟨_, rfl, .inl (renV (v_z _))⟩, trivial⟩⟩
              simp only
              cases xbit x k
              · exact hD2
              · exact Nat.or_lt_two_pow hD2 (Nat.pow_lt_pow_right (by omega) hb6)
            · have hkc : k = (bitsL s).length := by simp at hkc; omega
              subst hkc
              rw [List.drop_length, encS] at hx
              have w1 : IntKind.i64.wrap ((i : Int) + 1) = ((i + 1 : Nat) : Int) := by rw [w64 (by omega) (by omega)]; omega
              simp only [w1]
              exact hb _ _ ⟨(i + 1, D2), hc, hD2, by rw [hp', hq, Bool.true_and], by rw [he', hx]⟩ [(1, 1), (2, 2), (4, 4)] (by simp only; omega) ⟨rfl, ⟨⟨rfl, rfl⟩, ⟨rfl, rfl⟩, trivial⟩, ⟨rfl, rfl, rfl, rfl, rfl, rfl, trivial⟩, ⟨.inr ⟨_, rfl, .inl rfl⟩, .inr ⟨_, rfl, .inl (renV (v_ss _))⟩, .inr ⟨_, rfl, .inl (renV (v_z _))⟩, trivial⟩⟩
      · have hc : i = f.sgs.length := by simp at hc; omega
        subst hc
        rw [List.drop_length, encD_nil] at he
        rw [List.drop_length, permL_nil] at hp
        · have he2 : encE f raws = 0 := by rw [hE, hp]; rfl
          obtain ⟨n, hn⟩ := Int.eq_ofNat_of_zero_le (show 0 ≤ f.ln by have := hv.ln; omega)
          have hb2 : encB f raws = bytesOf n D := by rw [encB, he2, he, hn]; rfl
          have hln := hv.ln
          rw [he2, hb2, bytesOf_length] at hR
          refine ⟨⟨by omega, by omega, by omega⟩, ?_⟩
          rw [hn, Int.toNat_natCast, reps_cb]
          refine Sm.loopM (M0 := [bS 1 f.sgs, bZr 2 raws]) (α := { j : Nat // j ≤ n }) hP (fun j => [(6, true, U D), (11, true, slV 7 n), (65, true, I n), (66, true, I j.val)])
            (fun j => [bB 7 (bytesOf j.val D ++ List.replicate (n - j.val) 0), bS 1 f.sgs, bZr 2 raws]) (fun j => n - j.val) ⟨0, by omega⟩ (fun _ => ClM.v (by simp only [List.all_cons, v_ss, v_z, v_u]; rfl)) (fun _ => ClE.of rfl) [(1, 1), (2, 2), (7, 120)] ?_ ?_
          · exact ⟨rfl, ⟨⟨rfl, rfl⟩, ⟨rfl, rfl⟩, trivial⟩, ⟨rfl, rfl, rfl, rfl, trivial⟩, ⟨.inr ⟨_, rfl, .inl (renV (v_u _))⟩, .inr ⟨_, rfl, .inl (renV (v_ss _))⟩, .inr ⟨_, rfl, .inl (renV (v_z _))⟩, trivial⟩⟩
          · rintro ⟨j, hj⟩ J2 hb2
            simp only at hb2 hj ⊢
            refine Sm.go 160 ?_
            simp (config := { maxSteps := 2000000 }) only [go_sem, Nat.reduceBEq, Nat.reduceAdd, Nat.reduceLT, Nat.reduceLeDiff, Nat.reduceEqDiff, reduceCtorEq, Int.reduceAdd, Int.reduceSub, Int.reduceNeg, Int.reduceLE, Int.reduceLT, Int.reduceToNat, Int.reduceBEq, Int.reduceBNe, Int.reduceEq, Int.reduceNe, Int.toNat_zero, Int.toNat_one, bne_self_eq_false, Nat.reduceMul, Nat.zero_mul, Nat.mul_one, Nat.one_mul, Nat.reduceSub, Int.cast_ofNat_Int, Int.toNat_natCast]
            refine mtch (fun hjc => ?_) (fun hjc => ?_)
            · have hjc : j < n := by simp at hjc; omega
              have hj8 : j < 8 := by omega
              have w8 : IntKind.i64.wrap (8 * (j : Int)) = ((8 * j : Nat) : Int) := by rw [w64 (by omega) (by omega)]; omega
              have w1 : IntKind.i64.wrap ((j : Int) + 1) = ((j + 1 : Nat) : Int) := by rw [w64 (by omega) (by omega)]; omega
              have hst : (List.map cb (bytesOf j D ++ List.replicate (n - j) 0)).set j (cb (D / 2 ^ (8 * j) % 256)) = List.map cb (bytesOf (j + 1) D ++ List.replicate (n - (j + 1)) 0) := by
                have h := set_next (bytesOf j D) 0 (D / 2 ^ (8 * j) % 256) (n - (j + 1))
                rw [bytesOf_length, show n - (j + 1) + 1 = n - j by omega] at h
                rw [bytesOf_succ, ← h, List.map_set]
              simp only [w8, w1, Int.toNat_natCast, byte_of D j hj8, hst]
              exact ⟨by omega, ⟨by omega, by omega⟩, by simp [bytesOf_length]; omega, hb2 _ _ ⟨j + 1, hjc⟩ [(1, 1), (2, 2), (7, 7)] (by simp only; omega) ⟨rfl, ⟨⟨rfl, rfl⟩, ⟨rfl, rfl⟩, trivial⟩, ⟨rfl, rfl, rfl, rfl, trivial⟩, ⟨.inr ⟨_, rfl, .inl (renV (v_u _))⟩, .inr ⟨_, rfl, .inl (renV (v_ss _))⟩, .inr ⟨_, rfl, .inl (renV (v_z _))⟩, trivial⟩⟩⟩
            · have hjc : j = n := by simp at hjc; omega
              subst hjc
              exact RetQ.ren [(1, 1), (2, 2), (3, 7)] hR hP rfl ⟨rfl, rfl, trivial⟩ rfl rfl ⟨⟨rfl, rfl⟩, ⟨rfl, rfl⟩, trivial⟩ ⟨.inr ⟨_, rfl, .inl (by rw [Nat.sub_self, List.replicate_zero, List.append_nil]; exact renV (v_u _))⟩, .inr ⟨_, rfl, .inl (renV (v_ss _))⟩, .inr ⟨_, rfl, .inl (renV (v_z _))⟩, trivial⟩ (clE3 f raws _) (ClV.of rfl)
end Go.Proofs.Ytcdclmelnnbdnaa
