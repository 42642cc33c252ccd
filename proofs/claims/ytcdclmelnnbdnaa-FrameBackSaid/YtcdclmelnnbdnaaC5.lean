/- Frame: Decode of the reference; the law FrameDecodes. -/
import Derived.Test.YtcdclmelnnbdnaaC4
namespace Go.Proofs.Ytcdclmelnnbdnaa
open Vg Tf
set_option linter.unusedSimpArgs false
set_option linter.unusedVariables false
set_option maxRecDepth 100000
set_option maxHeartbeats 4000000
theorem rget (u : List Nat) (hu : ∀ x ∈ u, x < 256) (hl : u.length ≤ 1000) (b : Nat) (hb : b / 8 < u.length) : CallOk Try.prog 68 [slV 1 u.length, I b] [bBr 1 u] (I (((numL u).testBit b).toNat : Nat)) [] := by
  have hM := clB 1 u
  have hx := getD_lt hu hb
  have hg := get_u hb
  have d1 : (b : Int).tdiv 8 = ((b / 8 : Nat) : Int) := by rw [Int.tdiv_eq_ediv_of_nonneg (by omega)]; rfl
  have d2 : (b : Int).tmod 8 = ((b % 8 : Nat) : Int) := remN b 8
  have d3 : IntKind.i64.wrap ((b / 8 : Nat) : Int) = ((b / 8 : Nat) : Int) := w64n _ (by omega)
  have hnb := numL_bit u hu b
  generalize u.getD (b / 8) 0 = x at *
  have hd := Nat.div_le_self x (2 ^ (b % 8))
  have d4 : (IntKind.i64.wrap ((x : Int).fdiv (2 ^ min (b % 8) 8))).tmod 2 = ((((numL u).testBit b).toNat : Nat) : Int) := by
    rw [fdiv_nat, Nat.min_eq_left (by omega), w64n _ (by omega), rem2, hnb, Nat.testBit_eq_decide_div_mod_eq]
    rcases Nat.mod_two_eq_zero_or_one (x / 2 ^ (b % 8)) with h | h <;> rw [h] <;> rfl
  refine CallOk.mkN 100 Try.func68 rfl en68 (by simp [Try.ntmps68]) (ClA.of rfl) rfl rfl fun C hR hP => ?_
  simp (config := { maxSteps := 2000000 }) only [go_sem, Nat.reduceBEq, Nat.reduceAdd, Nat.reduceLT, Nat.reduceLeDiff, Nat.reduceEqDiff, reduceCtorEq, Int.reduceAdd, Int.reduceSub, Int.reduceNeg, Int.reduceLE, Int.reduceLT, Int.reduceToNat, Int.reduceBEq, Int.reduceBNe, Int.reduceEq, Int.reduceNe, Int.toNat_zero, Int.toNat_one, bne_self_eq_false, Nat.reduceMul, Nat.zero_mul, Nat.mul_one, Nat.one_mul, Nat.reduceSub, Int.cast_ofNat_Int, Int.toNat_natCast, d1, d2, d3, hg, d4]
  refine ⟨⟨by omega, by omega⟩, by omega, ?_⟩
  exact RetQ.of hR rfl ⟨rfl, trivial⟩ rfl (Sub.one rfl (.inl rfl)) hM (ClV.of rfl)
theorem rvalue (s : Sg) (hs : s.nm.data.toList.length ≤ 9223372036854775807) (hk : sok s = true) (u : List Nat) (hu : ∀ x ∈ u, x < 256) (hl : u.length ≤ 1000) (hb8 : ∀ b ∈ bitsL s, b / 8 < u.length) : CallOk Try.prog 53 [sg s, slV 1 u.length] [bBr 1 u] (I (rawV s (numL u))) [] := by
  have hM := clB 1 u
  have hbl := bitsL_le s
  have hlen := bitsL_length hk
  have hsb := sok_bd hk
  obtain ⟨m, hm⟩ : ∃ m, s.ln.toNat = m + 1 := ⟨s.ln.toNat - 1, by omega⟩
  have hgl := gatN_lt (numL u) (bitsL s) 0
  rw [Nat.zero_add, hlen, hm] at hgl
  have hrv : rawV s (numL u) = bif s.sgn && decide (2 ^ m ≤ gatN (numL u) 0 (bitsL s)) then (gatN (numL u) 0 (bitsL s) : Int) - 2 ^ (m + 1) else gatN (numL u) 0 (bitsL s) := by rw [rawV, hm]; rfl
  refine CallOk.mkN 100 Try.func53 rfl en53 (by simp [Try.ntmps53]) (ClA.of rfl) rfl rfl fun C hR hP => ?_
  simp (config := { maxSteps := 2000000 }) only [go_sem, Nat.reduceBEq, Nat.reduceAdd, Nat.reduceLT, Nat.reduceLeDiff, Nat.reduceEqDiff, reduceCtorEq, Int.reduceAdd, Int.reduceSub, Int.reduceNeg, Int.reduceLE, Int.reduceLT, Int.reduceToNat, Int.reduceBEq, Int.reduceBNe, Int.reduceEq, Int.reduceNe, Int.toNat_zero, Int.toNat_one, bne_self_eq_false, Nat.reduceMul, Nat.zero_mul, Nat.mul_one, Nat.one_mul, Nat.reduceSub, Int.cast_ofNat_Int, Int.toNat_natCast]
  refine CallQ.ren [(1, 110)] 111 (rbits s hs) (ClM.of rfl) rfl rfl trivial rfl (.inl rfl) ?_
  simp only [Mem.ren, List.map_cons, List.map_nil, Bk.ren, List.map_map, V.ren, W.ren, Cv.ren, rn, Nat.reduceBEq, cond_true, cond_false, Function.comp_def]
  simp (config := { maxSteps := 2000000 }) only [go_sem, Nat.reduceBEq, Nat.reduceAdd, Nat.reduceLT, Nat.reduceLeDiff, Nat.reduceEqDiff, reduceCtorEq, Int.reduceAdd, Int.reduceSub, Int.reduceNeg, Int.reduceLE, Int.reduceLT, Int.reduceToNat, Int.reduceBEq, Int.reduceBNe, Int.reduceEq, Int.reduceNe, Int.toNat_zero, Int.toNat_one, bne_self_eq_false, Nat.reduceMul, Nat.zero_mul, Nat.mul_one, Nat.one_mul, Nat.reduceSub, Int.cast_ofNat_Int, Int.toNat_natCast]
  refine Sm.loopM (M0 := [bBr 1 u]) (α := { k : Nat // k ≤ (bitsL s).length }) hP (fun k => [(1, true, slV 1 u.length), (2, true, .c (.p 4 0)), (5, true, slV 5 (bitsL s).length), (6, true, I (gatN (numL u) 0 ((bitsL s).take k.val))), (7, true, I k.val)])
    (fun _ => [(4, ⟨false, sgL s, 33⟩), bN 5 (bitsL s), bBr 1 u]) (fun k => (bitsL s).length - k.val) ⟨0, by omega⟩ (fun _ => ClM.of (by simp only [List.all_cons, inMV (v_u _), inMV (v_n _)]; rfl)) (fun _ => ClE.of rfl) [(1, 1), (4, 100), (5, 110)] ?_ ?_
  · exact ⟨rfl, ⟨⟨rfl, rfl⟩, trivial⟩, ⟨rfl, rfl, rfl, rfl, rfl, trivial⟩, ⟨.inr ⟨_, rfl, .inl rfl⟩, .inr ⟨_, rfl, .inl (renV (v_n _))⟩, .inr ⟨_, rfl, .inl (renV (v_u _))⟩, trivial⟩⟩
  · rintro ⟨k, hkk⟩ J hb
    simp only at hb hkk ⊢
    refine Sm.go 120 ?_
    simp (config := { maxSteps := 2000000 }) only [go_sem, Nat.reduceBEq, Nat.reduceAdd, Nat.reduceLT, Nat.reduceLeDiff, Nat.reduceEqDiff, reduceCtorEq, Int.reduceAdd, Int.reduceSub, Int.reduceNeg, Int.reduceLE, Int.reduceLT, Int.reduceToNat, Int.reduceBEq, Int.reduceBNe, Int.reduceEq, Int.reduceNe, Int.toNat_zero, Int.toNat_one, bne_self_eq_false, Nat.reduceMul, Nat.zero_mul, Nat.mul_one, Nat.one_mul, Nat.reduceSub, Int.cast_ofNat_Int, Int.toNat_natCast]
    refine mtch (fun hc => ?_) (fun hc => ?_)
    · have hc : k < (bitsL s).length := by simp at hc; omega
      have hbm := hb8 _ (mem_n hc)
      have htk : (bitsL s).take (k + 1) = (bitsL s).take k ++ [(bitsL s).getD k 0] := by rw [List.take_succ_eq_append_getElem hc, List.getD_eq_getElem?_getD, List.getElem?_eq_getElem hc]; rfl
      have hlk : ((bitsL s).take k).length = k := by simp; omega
      have hsn := gatN_snoc (numL u) ((bitsL s).take k) 0 ((bitsL s).getD k 0)
      rw [← htk, hlk, Nat.zero_add] at hsn
      have hgk := gatN_lt (numL u) ((bitsL s).take (k + 1)) 0
      have hlk1 : ((bitsL s).take (k + 1)).length = k + 1 := by simp; omega
      rw [hlk1, Nat.zero_add] at hgk
      have hp3 : 2 ^ (k + 1) ≤ 2 ^ 32 := Nat.pow_le_pow_right (by omega) (by omega)
      have hp4 : 2 ^ k ≤ 2 ^ 32 := Nat.pow_le_pow_right (by omega) (by omega)
      have w1 : IntKind.i64.wrap ((k : Int) + 1) = ((k + 1 : Nat) : Int) := by rw [w64 (by omega) (by omega)]; omega
      simp (config := { maxSteps := 2000000 }) only [go_sem, Nat.reduceBEq, Nat.reduceAdd, Nat.reduceLT, Nat.reduceLeDiff, Nat.reduceEqDiff, reduceCtorEq, Int.reduceAdd, Int.reduceSub, Int.reduceNeg, Int.reduceLE, Int.reduceLT, Int.reduceToNat, Int.reduceBEq, Int.reduceBNe, Int.reduceEq, Int.reduceNe, Int.toNat_zero, Int.toNat_one, bne_self_eq_false, Nat.reduceMul, Nat.zero_mul, Nat.mul_one, Nat.one_mul, Nat.reduceSub, Int.cast_ofNat_Int, Int.toNat_natCast, get_n hc]
      generalize (bitsL s).getD k 0 = b at *
      refine ⟨⟨by omega, by omega⟩, ?_⟩
      refine CallQ.ren [(1, 1)] 120 (rget u hu hl b hbm) hM rfl rfl ⟨⟨_, rfl, wkU _ _ _ _⟩, trivial⟩ rfl (.inr rfl) ?_
      simp (config := { maxSteps := 2000000 }) only [go_sem, Nat.reduceBEq, Nat.reduceAdd, Nat.reduceLT, Nat.reduceLeDiff, Nat.reduceEqDiff, reduceCtorEq, Int.reduceAdd, Int.reduceSub, Int.reduceNeg, Int.reduceLE, Int.reduceLT, Int.reduceToNat, Int.reduceBEq, Int.reduceBNe, Int.reduceEq, Int.reduceNe, Int.toNat_zero, Int.toNat_one, bne_self_eq_false, Nat.reduceMul, Nat.zero_mul, Nat.mul_one, Nat.one_mul, Nat.reduceSub, Int.cast_ofNat_Int, Int.toNat_natCast]
      refine CallQ.pure 120 (rpower k (by omega)) rfl ?_
      have w3 : IntKind.i64.wrap ((gatN (numL u) 0 ((bitsL s).take k) : Nat) + IntKind.i64.wrap ((((numL u).testBit b).toNat : Nat) * ((2 ^ k : Nat) : Int))) = ((gatN (numL u) 0 ((bitsL s).take (k + 1)) : Nat) : Int) := by
        rw [hsn] at hgk ⊢
        cases (numL u).testBit b with
        | false =>
          simp only [cond_false, Bool.toNat_false, Nat.add_zero] at hgk ⊢
          rw [show ((0 : Nat) : Int) * ((2 ^ k : Nat) : Int) = 0 by simp, show IntKind.i64.wrap 0 = 0 by decide, Int.add_zero, w64n _ (by omega)]
        | true =>
          simp only [cond_true, Bool.toNat_true] at hgk ⊢
          rw [show ((1 : Nat) : Int) * ((2 ^ k : Nat) : Int) = ((2 ^ k : Nat) : Int) by simp, w64n _ (by omega), ← Int.natCast_add, w64n _ (by omega)]
      simp (config := { maxSteps := 2000000 }) only [go_sem, Nat.reduceBEq, Nat.reduceAdd, Nat.reduceLT, Nat.reduceLeDiff, Nat.reduceEqDiff, reduceCtorEq, Int.reduceAdd, Int.reduceSub, Int.reduceNeg, Int.reduceLE, Int.reduceLT, Int.reduceToNat, Int.reduceBEq, Int.reduceBNe, Int.reduceEq, Int.reduceNe, Int.toNat_zero, Int.toNat_one, bne_self_eq_false, Nat.reduceMul, Nat.zero_mul, Nat.mul_one, Nat.one_mul, Nat.reduceSub, Int.cast_ofNat_Int, Int.toNat_natCast, w1, w3]
      exact hb _ _ ⟨k + 1, hc⟩ [(1, 1), (4, 4), (5, 5)] (by simp only; omega) ⟨rfl, ⟨⟨rfl, rfl⟩, trivial⟩, ⟨rfl, rfl, rfl, rfl, rfl, trivial⟩, ⟨.inr ⟨_, rfl, .inl rfl⟩, .inr ⟨_, rfl, .inl (renV (v_n _))⟩, .inr ⟨_, rfl, .inl (renV (v_u _))⟩, trivial⟩⟩
    · have hc : k = (bitsL s).length := by simp at hc; omega
      subst hc
      rw [List.take_length]
      have hw : IntKind.i64.wrap (s.ln - 1) = (m : Int) := by rw [w64 (by omega) (by omega)]; omega
      have hpw1 := rpower m (by omega)
      have hpw2 := rpower (m + 1) (by omega)
      have hln : s.ln = ((m + 1 : Nat) : Int) := by omega
      simp only [hw]
      refine CallQ.guard 120 (fun _ => hpw1) (fun h => by rw [h]; rfl) ?_
      simp (config := { maxSteps := 2000000 }) only [go_sem, Nat.reduceBEq, Nat.reduceAdd, Nat.reduceLT, Nat.reduceLeDiff, Nat.reduceEqDiff, reduceCtorEq, Int.reduceAdd, Int.reduceSub, Int.reduceNeg, Int.reduceLE, Int.reduceLT, Int.reduceToNat, Int.reduceBEq, Int.reduceBNe, Int.reduceEq, Int.reduceNe, Int.toNat_zero, Int.toNat_one, bne_self_eq_false, Nat.reduceMul, Nat.zero_mul, Nat.mul_one, Nat.one_mul, Nat.reduceSub, Int.cast_ofNat_Int, Int.toNat_natCast]
      have e1 : (bif s.sgn then decide (((2 ^ m : Nat) : Int) ≤ ((gatN (numL u) 0 (bitsL s) : Nat) : Int)) else false) = (s.sgn && decide (2 ^ m ≤ gatN (numL u) 0 (bitsL s))) := by
        rw [show decide (((2 ^ m : Nat) : Int) ≤ ((gatN (numL u) 0 (bitsL s) : Nat) : Int)) = decide (2 ^ m ≤ gatN (numL u) 0 (bitsL s)) by rw [decide_eq_decide]; exact Int.ofNat_le]
        cases s.sgn <;> rfl
      simp only [e1]
      refine mtch (fun hq => ?_) (fun hq => ?_)
      · rw [← hln] at hpw2
        have hp := p2 (show m + 1 ≤ 32 by omega)
        have hw2 : IntKind.i64.wrap ((gatN (numL u) 0 (bitsL s) : Nat) - ((2 ^ (m + 1) : Nat) : Int)) = rawV s (numL u) := by
          rw [hrv, hq, cond_true, ← pow_nat]
          have hgl2 : (gatN (numL u) 0 (bitsL s) : Int) < 2 ^ (m + 1) := by rw [pow_nat]; omega
          exact w64 (by omega) (by omega)
        refine CallQ.pure 120 hpw2 rfl ?_
        simp (config := { maxSteps := 2000000 }) only [go_sem, Nat.reduceBEq, Nat.reduceAdd, Nat.reduceLT, Nat.reduceLeDiff, Nat.reduceEqDiff, reduceCtorEq, Int.reduceAdd, Int.reduceSub, Int.reduceNeg, Int.reduceLE, Int.reduceLT, Int.reduceToNat, Int.reduceBEq, Int.reduceBNe, Int.reduceEq, Int.reduceNe, Int.toNat_zero, Int.toNat_one, bne_self_eq_false, Nat.reduceMul, Nat.zero_mul, Nat.mul_one, Nat.one_mul, Nat.reduceSub, Int.cast_ofNat_Int, Int.toNat_natCast, hw2]
        exact RetQ.of hR rfl ⟨rfl, trivial⟩ rfl (Sub.one rfl (.inl rfl)) hM (ClV.of rfl)
      · exact RetQ.of hR rfl ⟨rfl, trivial⟩ (by rw [hrv, hq]; rfl) (Sub.one rfl (.inl rfl)) hM (ClV.of rfl)
def rdL (f : Fm) (D : Nat) : List Int := bif decOk D f.sgs then decL D f.sgs else []
theorem rdec (f : Fm) (hf : f.ok) (hv : f.val) (u : List Nat) (hu : ∀ x ∈ u, x < 256) (hln : (u.length : Int) = f.ln) : CallOk Try.prog 27 [fm5 1 f, slV 2 u.length] [bS 1 f.sgs, bBr 2 u] (.tup [.c (.sl 3 0 (rdL f (numL u)).length 1), .c (.v (.bool (decOk (numL u) f.sgs)))]) [bZ 3 (rdL f (numL u))] := by
  have hM := clSU f u
  have hk := hf.k
  have hln8 := hv.ln
  refine CallOk.mkN 100 Try.func27 rfl en27 (by simp [Try.ntmps27]) (ClA.of rfl) rfl rfl fun C hR hP => ?_
  simp (config := { maxSteps := 2000000 }) only [go_sem, Nat.reduceBEq, Nat.reduceAdd, Nat.reduceLT, Nat.reduceLeDiff, Nat.reduceEqDiff, reduceCtorEq, Int.reduceAdd, Int.reduceSub, Int.reduceNeg, Int.reduceLE, Int.reduceLT, Int.reduceToNat, Int.reduceBEq, Int.reduceBNe, Int.reduceEq, Int.reduceNe, Int.toNat_zero, Int.toNat_one, bne_self_eq_false, Nat.reduceMul, Nat.zero_mul, Nat.mul_one, Nat.one_mul, Nat.reduceSub, Int.cast_ofNat_Int, Int.toNat_natCast]
  refine Sm.nils 140 1 3 [6] [] rfl ?_
  simp (config := { maxSteps := 2000000 }) only [go_sem, Nat.reduceBEq, Nat.reduceAdd, Nat.reduceLT, Nat.reduceLeDiff, Nat.reduceEqDiff, reduceCtorEq, Int.reduceAdd, Int.reduceSub, Int.reduceNeg, Int.reduceLE, Int.reduceLT, Int.reduceToNat, Int.reduceBEq, Int.reduceBNe, Int.reduceEq, Int.reduceNe, Int.toNat_zero, Int.toNat_one, bne_self_eq_false, Nat.reduceMul, Nat.zero_mul, Nat.mul_one, Nat.one_mul, Nat.reduceSub, Int.cast_ofNat_Int, Int.toNat_natCast]
  refine Sm.loopM (M0 := [bS 1 f.sgs, bBr 2 u]) (α := { i : Nat // i ≤ f.sgs.length ∧ decOk (numL u) f.sgs = decOk (numL u) (f.sgs.drop i) }) hP (fun i => [(1, true, slV 2 u.length), (2, true, .c (.p 4 0)), (6, true, slV 5 i.val), (7, true, I i.val)])
    (fun i => [(4, ⟨false, fmL 1 f, 24⟩), bZ 5 (decL (numL u) (f.sgs.take i.val)), bS 1 f.sgs, bBr 2 u]) (fun i => f.sgs.length - i.val) ⟨0, by omega, rfl⟩ (fun _ => ClM.of (by simp only [List.all_cons, inMV (v_ss _), inMV (v_u _), inMV (v_z _)]; rfl)) (fun _ => ClE.of rfl) [(1, 1), (2, 2), (4, 100), (5, 140)] ?_ ?_
  · exact ⟨rfl, ⟨⟨rfl, rfl⟩, ⟨rfl, rfl⟩, trivial⟩, ⟨rfl, rfl, rfl, rfl, trivial⟩, ⟨.inr ⟨_, rfl, .inl rfl⟩, .inr ⟨_, rfl, .inl rfl⟩, .inr ⟨_, rfl, .inl (renV (v_ss _))⟩, .inr ⟨_, rfl, .inl (renV (v_u _))⟩, trivial⟩⟩
  · rintro ⟨i, hi, hq⟩ J hb
    simp only at hb hi hq ⊢
    refine Sm.go 150 ?_
    simp (config := { maxSteps := 2000000 }) only [go_sem, Nat.reduceBEq, Nat.reduceAdd, Nat.reduceLT, Nat.reduceLeDiff, Nat.reduceEqDiff, reduceCtorEq, Int.reduceAdd, Int.reduceSub, Int.reduceNeg, Int.reduceLE, Int.reduceLT, Int.reduceToNat, Int.reduceBEq, Int.reduceBNe, Int.reduceEq, Int.reduceNe, Int.toNat_zero, Int.toNat_one, bne_self_eq_false, Nat.reduceMul, Nat.zero_mul, Nat.mul_one, Nat.one_mul, Nat.reduceSub, Int.cast_ofNat_Int, Int.toNat_natCast]
    refine mtch (fun hc => ?_) (fun hc => ?_)
    · have hc : i < f.sgs.length := by simp at hc; omega
      have hi' : f.sgs[i] ∈ f.sgs := List.getElem_mem hc
      have htk := ss_take f.sgs i hc
      have hdr : f.sgs.drop i = f.sgs[i] :: f.sgs.drop (i + 1) := List.drop_eq_getElem_cons hc
      have htk1 : f.sgs.take (i + 1) = f.sgs.take i ++ [f.sgs[i]] := by rw [List.take_succ_eq_append_getElem hc]
      obtain ⟨g1, g2, g3⟩ := prE_0 (hv.sg i hc)
      have hb64 := bits64 hv hc
      generalize f.sgs[i] = s at *
      have hval := rvalue s (hf.s s hi') g1 u hu (by omega) (fun b hb => by have := hb64 b hb; omega)
      simp (config := { maxSteps := 2000000 }) only [go_sem, Nat.reduceBEq, Nat.reduceAdd, Nat.reduceLT, Nat.reduceLeDiff, Nat.reduceEqDiff, reduceCtorEq, Int.reduceAdd, Int.reduceSub, Int.reduceNeg, Int.reduceLE, Int.reduceLT, Int.reduceToNat, Int.reduceBEq, Int.reduceBNe, Int.reduceEq, Int.reduceNe, Int.toNat_zero, Int.toNat_one, bne_self_eq_false, Nat.reduceMul, Nat.zero_mul, Nat.mul_one, Nat.one_mul, Nat.reduceSub, Int.cast_ofNat_Int, Int.toNat_natCast, htk]
      refine ⟨⟨by omega, by omega⟩, by rw [ss_len]; omega, ?_⟩
      refine CallQ.ren [(1, 2)] 150 hval (clB _ _) rfl rfl ⟨⟨_, rfl, wkU _ _ _ _⟩, trivial⟩ rfl (.inr rfl) ?_
      simp (config := { maxSteps := 2000000 }) only [go_sem, Nat.reduceBEq, Nat.reduceAdd, Nat.reduceLT, Nat.reduceLeDiff, Nat.reduceEqDiff, reduceCtorEq, Int.reduceAdd, Int.reduceSub, Int.reduceNeg, Int.reduceLE, Int.reduceLT, Int.reduceToNat, Int.reduceBEq, Int.reduceBNe, Int.reduceEq, Int.reduceNe, Int.toNat_zero, Int.toNat_one, bne_self_eq_false, Nat.reduceMul, Nat.zero_mul, Nat.mul_one, Nat.one_mul, Nat.reduceSub, Int.cast_ofNat_Int, Int.toNat_natCast, htk]
      refine ⟨⟨by omega, by omega⟩, by rw [ss_len]; omega, ?_⟩
      refine CallQ.pure 150 (rperm s (rawV s (numL u))) rfl ?_
      simp (config := { maxSteps := 2000000 }) only [go_sem, Nat.reduceBEq, Nat.reduceAdd, Nat.reduceLT, Nat.reduceLeDiff, Nat.reduceEqDiff, reduceCtorEq, Int.reduceAdd, Int.reduceSub, Int.reduceNeg, Int.reduceLE, Int.reduceLT, Int.reduceToNat, Int.reduceBEq, Int.reduceBNe, Int.reduceEq, Int.reduceNe, Int.toNat_zero, Int.toNat_one, bne_self_eq_false, Nat.reduceMul, Nat.zero_mul, Nat.mul_one, Nat.one_mul, Nat.reduceSub, Int.cast_ofNat_Int, Int.toNat_natCast]
      have hq2 : decOk (numL u) f.sgs = (inR (rawV s (numL u)) s.lo s.hi && decOk (numL u) (f.sgs.drop (i + 1))) := by rw [hq, hdr]; rfl
      have w1 : IntKind.i64.wrap ((i : Int) + 1) = ((i + 1 : Nat) : Int) := by rw [w64 (by omega) (by omega)]; omega
      refine mtch (fun hx => ?_) (fun hx => ?_)
      · have hx : inR (rawV s (numL u)) s.lo s.hi = false := by simpa using hx
        have he : decOk (numL u) f.sgs = false := by rw [hq2, hx]; rfl
        have hl : rdL f (numL u) = [] := by rw [rdL, he]; rfl
        rw [he, hl] at hR
        refine RetQ.nils 180 1 3 [4] [] rfl ?_
        simp (config := { maxSteps := 2000000 }) only [go_sem, Nat.reduceBEq, Nat.reduceAdd, Nat.reduceLT, Nat.reduceLeDiff, Nat.reduceEqDiff, reduceCtorEq, Int.reduceAdd, Int.reduceSub, Int.reduceNeg, Int.reduceLE, Int.reduceLT, Int.reduceToNat, Int.reduceBEq, Int.reduceBNe, Int.reduceEq, Int.reduceNe, Int.toNat_zero, Int.toNat_one, bne_self_eq_false, Nat.reduceMul, Nat.zero_mul, Nat.mul_one, Nat.one_mul, Nat.reduceSub, Int.cast_ofNat_Int, Int.toNat_natCast]
        exact RetQ.ren [(1, 1), (2, 2), (3, 180)] hR hP rfl ⟨rfl, rfl, trivial⟩ rfl rfl ⟨⟨rfl, rfl⟩, ⟨rfl, rfl⟩, trivial⟩ ⟨.inr ⟨_, rfl, .inl rfl⟩, .inr ⟨_, rfl, .inl (renV (v_ss _))⟩, .inr ⟨_, rfl, .inl (renV (v_u _))⟩, trivial⟩ (clD3 f u []) (ClV.of rfl)
      · have hx : inR (rawV s (numL u)) s.lo s.hi = true := by simpa using hx
        have hap : List.take i (List.map cz (decL (numL u) (f.sgs.take i))) ++ [cz (rawV s (numL u))] = List.map cz (decL (numL u) (f.sgs.take (i + 1))) := by
          rw [List.take_of_length_le (by simp [decL]; omega), htk1]; simp [decL]
        simp only [hap, w1]
        exact ⟨⟨by simp [decL]; omega, by omega, by omega⟩, hb _ _ ⟨i + 1, hc, by rw [hq2, hx, Bool.true_and]⟩ [(1, 1), (2, 2), (4, 4), (5, 151)] (by simp only; omega) ⟨rfl, ⟨⟨rfl, rfl⟩, ⟨rfl, rfl⟩, trivial⟩, ⟨rfl, rfl, rfl, rfl, trivial⟩, ⟨.inr ⟨_, rfl, .inl rfl⟩, .inr ⟨_, rfl, .inl (renV (v_z _))⟩, .inr ⟨_, rfl, .inl (renV (v_ss _))⟩, .inr ⟨_, rfl, .inl (renV (v_u _))⟩, trivial⟩⟩⟩
    · have hc : i = f.sgs.length := by simp at hc; omega
      subst hc
      rw [List.drop_length] at hq
      rw [List.take_length]
      have he : decOk (numL u) f.sgs = true := hq
      have hb3 : rdL f (numL u) = decL (numL u) f.sgs := by rw [rdL, he]; rfl
      rw [he, hb3] at hR
      have hdl : (decL (numL u) f.sgs).length = f.sgs.length := by simp [decL]
      rw [hdl] at hR
      exact RetQ.ren [(1, 1), (2, 2), (3, 5)] hR hP rfl ⟨rfl, rfl, trivial⟩ rfl rfl ⟨⟨rfl, rfl⟩, ⟨rfl, rfl⟩, trivial⟩ ⟨.inr ⟨_, rfl, .inl (renV (v_z _))⟩, .inr ⟨_, rfl, .inl (renV (v_ss _))⟩, .inr ⟨_, rfl, .inl (renV (v_u _))⟩, trivial⟩ (clD3 f u _) (ClV.of rfl)
theorem law_decodes (f : Fm) (hf0 : f.bd) (hs0 : f.sgs.length ≤ 9223372036854775807) (u : List Nat) (hu : ∀ x ∈ u, x < 256) (hr0 : u.length ≤ 9223372036854775807) : CallOk Try.prog 6 [fm5 1 f, slV 2 u.length] [bS 1 f.sgs, bBr 2 u] (Bo true) [] := by
  have hM := clSU f u
  refine CallOk.mkN 100 Try.func6 rfl en6 (by simp [Try.ntmps6]) (ClA.of rfl) rfl rfl fun C hR hP => ?_
  simp (config := { maxSteps := 2000000 }) only [go_sem, Nat.reduceBEq, Nat.reduceAdd, Nat.reduceLT, Nat.reduceLeDiff, Nat.reduceEqDiff, reduceCtorEq, Int.reduceAdd, Int.reduceSub, Int.reduceNeg, Int.reduceLE, Int.reduceLT, Int.reduceToNat, Int.reduceBEq, Int.reduceBNe, Int.reduceEq, Int.reduceNe, Int.toNat_zero, Int.toNat_one, bne_self_eq_false, Nat.reduceMul, Nat.zero_mul, Nat.mul_one, Nat.one_mul, Nat.reduceSub, Int.cast_ofNat_Int, Int.toNat_natCast]
  refine CallQ.pure 110 lawake rfl ?_
  simp (config := { maxSteps := 2000000 }) only [go_sem, Nat.reduceBEq, Nat.reduceAdd, Nat.reduceLT, Nat.reduceLeDiff, Nat.reduceEqDiff, reduceCtorEq, Int.reduceAdd, Int.reduceSub, Int.reduceNeg, Int.reduceLE, Int.reduceLT, Int.reduceToNat, Int.reduceBEq, Int.reduceBNe, Int.reduceEq, Int.reduceNe, Int.toNat_zero, Int.toNat_one, bne_self_eq_false, Nat.reduceMul, Nat.zero_mul, Nat.mul_one, Nat.one_mul, Nat.reduceSub, Int.cast_ofNat_Int, Int.toNat_natCast]
  refine CallQ.ren [(1, 1)] 110 (lgreat f) (clS _) rfl rfl ⟨⟨_, rfl, wkS _ _ _⟩, trivial⟩ rfl (.inr rfl) ?_
  simp (config := { maxSteps := 2000000 }) only [go_sem, Nat.reduceBEq, Nat.reduceAdd, Nat.reduceLT, Nat.reduceLeDiff, Nat.reduceEqDiff, reduceCtorEq, Int.reduceAdd, Int.reduceSub, Int.reduceNeg, Int.reduceLE, Int.reduceLT, Int.reduceToNat, Int.reduceBEq, Int.reduceBNe, Int.reduceEq, Int.reduceNe, Int.toNat_zero, Int.toNat_one, bne_self_eq_false, Nat.reduceMul, Nat.zero_mul, Nat.mul_one, Nat.one_mul, Nat.reduceSub, Int.cast_ofNat_Int, Int.toNat_natCast]
  refine mtch (fun hg => ?_) (fun hg => ?_)
  · exact RetQ.of hR rfl ⟨rfl, trivial⟩ rfl (SubS.sub ⟨⟨_, rfl, .inl rfl⟩, ⟨_, rfl, .inl rfl⟩, trivial⟩) hM (ClV.of rfl)
  · have hg : f.sgs.length ≤ 24 ∧ u.length ≤ 100 := by simp only [Bool.cond_true_left, Bool.or_eq_false_iff, decide_eq_false_iff_not] at hg; omega
    have hf := hf0.ok (by omega)
    refine CallQ.ren [(1, 1), (2, 2), (3, 130)] 131 (fdec f hf u hu (by omega)) hM rfl rfl ⟨⟨_, rfl, wkS _ _ _⟩, ⟨_, rfl, wkU _ _ _ _⟩, trivial⟩ rfl (.inl rfl) ?_
    simp only [Mem.ren, List.map_cons, List.map_nil, Bk.ren, List.map_map, V.ren, W.ren, Cv.ren, rn, Nat.reduceBEq, cond_true, cond_false, Function.comp_def]
    simp (config := { maxSteps := 2000000 }) only [go_sem, Nat.reduceBEq, Nat.reduceAdd, Nat.reduceLT, Nat.reduceLeDiff, Nat.reduceEqDiff, reduceCtorEq, Int.reduceAdd, Int.reduceSub, Int.reduceNeg, Int.reduceLE, Int.reduceLT, Int.reduceToNat, Int.reduceBEq, Int.reduceBNe, Int.reduceEq, Int.reduceNe, Int.toNat_zero, Int.toNat_one, bne_self_eq_false, Nat.reduceMul, Nat.zero_mul, Nat.mul_one, Nat.one_mul, Nat.reduceSub, Int.cast_ofNat_Int, Int.toNat_natCast]
    refine CallQ.ren [(1, 1)] 131 (rframe f hf) (clS _) rfl rfl ⟨⟨_, rfl, wkS _ _ _⟩, trivial⟩ rfl (.inr rfl) ?_
    simp (config := { maxSteps := 2000000 }) only [go_sem, Nat.reduceBEq, Nat.reduceAdd, Nat.reduceLT, Nat.reduceLeDiff, Nat.reduceEqDiff, reduceCtorEq, Int.reduceAdd, Int.reduceSub, Int.reduceNeg, Int.reduceLE, Int.reduceLT, Int.reduceToNat, Int.reduceBEq, Int.reduceBNe, Int.reduceEq, Int.reduceNe, Int.toNat_zero, Int.toNat_one, bne_self_eq_false, Nat.reduceMul, Nat.zero_mul, Nat.mul_one, Nat.one_mul, Nat.reduceSub, Int.cast_ofNat_Int, Int.toNat_natCast]
    have out : ∀ k : Int, k ≠ 0 → dcE f u = k → (dcE f u == k) = true ∧ dcL f u = [] := fun k hk h => ⟨by simpa using h, by rw [dcL, h, show (k == 0) = false by simpa using hk]; rfl⟩
    refine mtch (fun hz => ?_) (fun hz => ?_)
    · have hz : fok f = false := by simpa using hz
      obtain ⟨h1, h2⟩ := out 1 (by omega) (by rw [dcE, hz]; rfl)
      exact RetQ.of hR rfl ⟨rfl, trivial⟩ (by rw [h1, h2]; rfl) (SubS.sub ⟨⟨_, rfl, .inl rfl⟩, ⟨_, rfl, .inl rfl⟩, trivial⟩) hM (ClV.of rfl)
    · have hz : fok f = true := by simpa using hz
      refine mtch (fun hl => ?_) (fun hl => ?_)
      · have hl : ¬ (u.length : Int) = f.ln := by simpa using hl
        obtain ⟨h1, h2⟩ := out 3 (by omega) (by rw [dcE, hz, fal_of hl]; rfl)
        exact RetQ.of hR rfl ⟨rfl, trivial⟩ (by rw [h1, h2]; rfl) (SubS.sub ⟨⟨_, rfl, .inl rfl⟩, ⟨_, rfl, .inl rfl⟩, trivial⟩) hM (ClV.of rfl)
      · have hl : (u.length : Int) = f.ln := by simpa using hl
        have hv := fok_val hz
        have hE : dcE f u = bif decOk (numL u) f.sgs then 0 else 2 := by rw [dcE, hz, tru_of hl]; rfl
        refine CallQ.ren [(1, 1), (2, 2), (3, 150)] 151 (rdec f hf hv u hu hl) hM rfl rfl ⟨⟨_, rfl, wkS _ _ _⟩, ⟨_, rfl, wkU _ _ _ _⟩, trivial⟩ rfl (.inl rfl) ?_
        simp only [Mem.ren, List.map_cons, List.map_nil, Bk.ren, List.map_map, V.ren, W.ren, Cv.ren, rn, Nat.reduceBEq, cond_true, cond_false, Function.comp_def]
        simp (config := { maxSteps := 2000000 }) only [go_sem, Nat.reduceBEq, Nat.reduceAdd, Nat.reduceLT, Nat.reduceLeDiff, Nat.reduceEqDiff, reduceCtorEq, Int.reduceAdd, Int.reduceSub, Int.reduceNeg, Int.reduceLE, Int.reduceLT, Int.reduceToNat, Int.reduceBEq, Int.reduceBNe, Int.reduceEq, Int.reduceNe, Int.toNat_zero, Int.toNat_one, bne_self_eq_false, Nat.reduceMul, Nat.zero_mul, Nat.mul_one, Nat.one_mul, Nat.reduceSub, Int.cast_ofNat_Int, Int.toNat_natCast]
        refine mtch (fun hq => ?_) (fun hq => ?_)
        · have hq : decOk (numL u) f.sgs = false := by simpa using hq
          obtain ⟨h1, h2⟩ := out 2 (by omega) (by rw [hE, hq]; rfl)
          exact RetQ.of hR rfl ⟨rfl, trivial⟩ (by rw [h1, h2]; rfl) (SubS.sub ⟨⟨_, rfl, .inl rfl⟩, ⟨_, rfl, .inl rfl⟩, trivial⟩) hM (ClV.of rfl)
        · have hq : decOk (numL u) f.sgs = true := by simpa using hq
          have he : dcE f u = 0 := by rw [hE, hq]; rfl
          have hb : dcL f u = decL (numL u) f.sgs := by rw [dcL, he]; rfl
          have hb2 : rdL f (numL u) = decL (numL u) f.sgs := by rw [rdL, hq]; rfl
          have hdl : (decL (numL u) f.sgs).length = f.sgs.length := by simp [decL]
          have hbe := iequal (decL (numL u) f.sgs) (decL (numL u) f.sgs) (by omega) (by omega)
          rw [he, hb, hb2]
          simp only [hdl, decide_true] at hbe ⊢
          generalize decL (numL u) f.sgs = L at *
          simp (config := { maxSteps := 2000000 }) only [go_sem, Nat.reduceBEq, Nat.reduceAdd, Nat.reduceLT, Nat.reduceLeDiff, Nat.reduceEqDiff, reduceCtorEq, Int.reduceAdd, Int.reduceSub, Int.reduceNeg, Int.reduceLE, Int.reduceLT, Int.reduceToNat, Int.reduceBEq, Int.reduceBNe, Int.reduceEq, Int.reduceNe, Int.toNat_zero, Int.toNat_one, bne_self_eq_false, Nat.reduceMul, Nat.zero_mul, Nat.mul_one, Nat.one_mul, Nat.reduceSub, Int.cast_ofNat_Int, Int.toNat_natCast]
          refine CallQ.ren [(1, 130), (2, 150)] 151 hbe (clZZ _ _) rfl rfl ⟨⟨_, rfl, wkZ _ _ _ _⟩, ⟨_, rfl, wkZ _ _ _ _⟩, trivial⟩ rfl (.inr rfl) ?_
          simp (config := { maxSteps := 2000000 }) only [go_sem, Nat.reduceBEq, Nat.reduceAdd, Nat.reduceLT, Nat.reduceLeDiff, Nat.reduceEqDiff, reduceCtorEq, Int.reduceAdd, Int.reduceSub, Int.reduceNeg, Int.reduceLE, Int.reduceLT, Int.reduceToNat, Int.reduceBEq, Int.reduceBNe, Int.reduceEq, Int.reduceNe, Int.toNat_zero, Int.toNat_one, bne_self_eq_false, Nat.reduceMul, Nat.zero_mul, Nat.mul_one, Nat.one_mul, Nat.reduceSub, Int.cast_ofNat_Int, Int.toNat_natCast]
          exact RetQ.of hR rfl ⟨rfl, trivial⟩ rfl (SubS.sub ⟨⟨_, rfl, .inl rfl⟩, ⟨_, rfl, .inl rfl⟩, trivial⟩) hM (ClV.of rfl)
end Go.Proofs.Ytcdclmelnnbdnaa
