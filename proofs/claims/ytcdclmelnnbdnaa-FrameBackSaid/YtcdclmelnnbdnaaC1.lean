/- The law FrameOwn. -/
import Derived.Test.YtcdclmelnnbdnaaB5
namespace Go.Proofs.Ytcdclmelnnbdnaa
open Vg Tf
set_option linter.unusedSimpArgs false
set_option linter.unusedVariables false
set_option maxRecDepth 100000
set_option maxHeartbeats 4000000
theorem encS_same (x : Int) (c : Nat) : ∀ (l : List Nat) (D1 D2 k : Nat), D1.testBit c = D2.testBit c → (encS x D1 l k).testBit c = (encS x D2 l k).testBit c
  | [], _, _, _, h => h
  | b :: l, D1, D2, k, h => by
    rw [encS, encS]
    refine encS_same x c l _ _ _ ?_
    cases xbit x k
    · exact h
    · rw [cond_true, cond_true, Nat.testBit_or, Nat.testBit_or, h]
theorem encS_out (x : Int) (c : Nat) : ∀ (l : List Nat) (D k : Nat), c ∉ l → (encS x D l k).testBit c = D.testBit c
  | [], _, _, _ => rfl
  | b :: l, D, k, h => by
    rw [encS, encS_out x c l _ _ (fun hh => h (by simp [hh]))]
    cases xbit x k
    · rfl
    · rw [cond_true, Nat.testBit_or, Nat.testBit_two_pow, decide_eq_false (fun hh => h (by simp [hh])), Bool.or_false]
theorem encD_same (c : Nat) : ∀ (l : List Sg) (r : List Int) (D1 D2 : Nat), D1.testBit c = D2.testBit c → (encD D1 l r).testBit c = (encD D2 l r).testBit c
  | [], r, D1, D2, h => by rw [encD_nil, encD_nil]; exact h
  | s :: l, [], D1, D2, h => h
  | s :: l, x :: r, D1, D2, h => encD_same c l r _ _ (encS_same x c _ _ _ _ h)
theorem encD_set (c : Nat) (y : Int) : ∀ (l : List Sg) (r : List Int) (i : Nat) (D1 D2 : Nat) (hi : i < l.length), c ∉ bitsL l[i] → D1.testBit c = D2.testBit c → (encD D1 l r).testBit c = (encD D2 l (r.set i y)).testBit c
  | [], r, i, D1, D2, hi, _, _ => by simp at hi
  | s :: l, [], i, D1, D2, hi, _, h => h
  | s :: l, x :: r, 0, D1, D2, hi, hc, h => by
    rw [List.set_cons_zero, encD, encD]
    refine encD_same c l r _ _ ?_
    have hc : c ∉ bitsL s := hc
    rw [encS_out x c _ _ _ hc, encS_out y c _ _ _ hc]; exact h
  | s :: l, x :: r, i + 1, D1, D2, hi, hc, h => by
    rw [List.set_cons_succ, encD, encD]
    exact encD_set c y l r i _ _ (by simpa using hi) (by simpa using hc) (encS_same x c _ _ _ _ h)
theorem and1_u8 (a : Nat) (ha : a < 256) : bits .and .u8 (a : Int) 1 = ((a % 2 : Nat) : Int) := by
  have h1 : (BitVec.ofInt 8 (a : Int)).toNat = a := by
    rw [BitVec.ofInt_natCast, BitVec.toNat_ofNat]; exact Nat.mod_eq_of_lt (by omega)
  show IntKind.u8.wrap ((BitVec.ofInt 8 (a : Int) &&& BitVec.ofInt 8 1).toNat : Int) = _
  rw [BitVec.toNat_and, h1, show (BitVec.ofInt 8 1).toNat = 1 by decide, Nat.and_one_is_mod, IntKind.wrap_u8]
  omega
theorem bit_u8 (a i : Nat) (ha : a < 256) (hi : i < 8) : (bits .and .u8 ((a : Int).fdiv (2 ^ min i 8)) 1 == 1) = a.testBit i := by
  have hd := Nat.div_le_self a (2 ^ i)
  rw [fdiv_nat, Nat.min_eq_left (by omega), and1_u8 _ (by omega), Nat.testBit_eq_decide_div_mod_eq, Bool.eq_iff_iff, beq_iff_eq, decide_eq_true_eq]
  omega
theorem encE_0 {f : Fm} {raws : List Int} (h : encE f raws = 0) : f.val ∧ raws.length = f.sgs.length ∧ permL f.sgs raws = true ∧ encB f raws = bytesOf f.ln.toNat (encD 0 f.sgs raws) := by
  have hb : encB f raws = bytesOf f.ln.toNat (encD 0 f.sgs raws) := by rw [encB, h]; rfl
  unfold encE at h
  cases hz : (fok f && decide (raws.length = f.sgs.length)) with
  | false => rw [hz] at h; cases h
  | true =>
    rw [hz] at h
    rw [Bool.and_eq_true, decide_eq_true_eq] at hz
    cases hp : permL f.sgs raws with
    | false => rw [hp] at h; cases h
    | true => exact ⟨fok_val hz.1, hz.2, rfl, hb⟩
theorem encB_no {f : Fm} {raws : List Int} (h : encE f raws ≠ 0) : encB f raws = [] := by
  rw [encB, show (encE f raws == 0) = false by simpa using h]; rfl
theorem law_own (f : Fm) (hf0 : f.bd) (raws : List Int) (hr0 : raws.length ≤ 9223372036854775807) (hs0 : f.sgs.length ≤ 9223372036854775807) (x2 : Int) (hx2 : 0 ≤ x2 ∧ x2 ≤ 255) (y : Int) : CallOk Try.prog 4 [fm5 1 f, slV 2 raws.length, .c (.v (.int .u8 x2)), I y] [bS 1 f.sgs, bZr 2 raws] (Bo true) [] := by
  have hM := clE2 f raws
  have hin : SubS [bS 1 f.sgs, bZr 2 raws] [bS 1 f.sgs, bZr 2 raws] := ⟨⟨_, rfl, .inl rfl⟩, ⟨_, rfl, .inl rfl⟩, trivial⟩
  obtain ⟨k, rfl⟩ := Int.eq_ofNat_of_zero_le hx2.1
  refine CallOk.mkN 100 Try.func4 rfl en4 (by simp [Try.ntmps4]) (ClA.of rfl) rfl rfl fun C hR hP => ?_
  simp (config := { maxSteps := 2000000 }) only [go_sem, Nat.reduceBEq, Nat.reduceAdd, Nat.reduceLT, Nat.reduceLeDiff, Nat.reduceEqDiff, reduceCtorEq, Int.reduceAdd, Int.reduceSub, Int.reduceNeg, Int.reduceLE, Int.reduceLT, Int.reduceToNat, Int.reduceBEq, Int.reduceBNe, Int.reduceEq, Int.reduceNe, Int.toNat_zero, Int.toNat_one, bne_self_eq_false, Nat.reduceMul, Nat.zero_mul, Nat.mul_one, Nat.one_mul, Nat.reduceSub, Int.cast_ofNat_Int, Int.toNat_natCast]
  refine CallQ.pure 110 lawake rfl ?_
  simp (config := { maxSteps := 2000000 }) only [go_sem, Nat.reduceBEq, Nat.reduceAdd, Nat.reduceLT, Nat.reduceLeDiff, Nat.reduceEqDiff, reduceCtorEq, Int.reduceAdd, Int.reduceSub, Int.reduceNeg, Int.reduceLE, Int.reduceLT, Int.reduceToNat, Int.reduceBEq, Int.reduceBNe, Int.reduceEq, Int.reduceNe, Int.toNat_zero, Int.toNat_one, bne_self_eq_false, Nat.reduceMul, Nat.zero_mul, Nat.mul_one, Nat.one_mul, Nat.reduceSub, Int.cast_ofNat_Int, Int.toNat_natCast]
  refine CallQ.ren [(1, 1)] 110 (lgreat f) (clS _) rfl rfl ⟨⟨_, rfl, wkS _ _ _⟩, trivial⟩ rfl (.inr rfl) ?_
  simp (config := { maxSteps := 2000000 }) only [go_sem, Nat.reduceBEq, Nat.reduceAdd, Nat.reduceLT, Nat.reduceLeDiff, Nat.reduceEqDiff, reduceCtorEq, Int.reduceAdd, Int.reduceSub, Int.reduceNeg, Int.reduceLE, Int.reduceLT, Int.reduceToNat, Int.reduceBEq, Int.reduceBNe, Int.reduceEq, Int.reduceNe, Int.toNat_zero, Int.toNat_one, bne_self_eq_false, Nat.reduceMul, Nat.zero_mul, Nat.mul_one, Nat.one_mul, Nat.reduceSub, Int.cast_ofNat_Int, Int.toNat_natCast]
  refine mtch (fun hg => ?_) (fun hg => ?_)
  · exact RetQ.of hR rfl ⟨rfl, trivial⟩ rfl (SubS.sub ⟨⟨_, rfl, .inl rfl⟩, ⟨_, rfl, .inl rfl⟩, trivial⟩) hM (ClV.of rfl)
  · have hg : f.sgs.length ≤ 24 ∧ raws.length ≤ 24 ∧ 0 < raws.length := by simp only [Bool.cond_true_left, Bool.or_eq_false_iff, decide_eq_false_iff_not, beq_eq_false_iff_ne] at hg; omega
    have hf := hf0.ok (by omega)
    have wk : IntKind.i64.wrap (k : Int) = k := w64n k (by omega)
    have hil : k % raws.length < raws.length := Nat.mod_lt _ hg.2.2
    simp only [wk, remN]
    generalize hik : k % raws.length = i at *
    refine ⟨by omega, ?_⟩
    refine CallQ.ren [(1, 2), (2, 130)] 131 (iclone raws (by omega)) (clZ _ _) rfl rfl ⟨⟨_, rfl, wkZ _ _ _ _⟩, trivial⟩ rfl (.inl rfl) ?_
    simp only [Mem.ren, List.map_cons, List.map_nil, Bk.ren, List.map_map, V.ren, W.ren, Cv.ren, rn, Nat.reduceBEq, cond_true, cond_false, Function.comp_def]
    simp (config := { maxSteps := 2000000 }) only [go_sem, Nat.reduceBEq, Nat.reduceAdd, Nat.reduceLT, Nat.reduceLeDiff, Nat.reduceEqDiff, reduceCtorEq, Int.reduceAdd, Int.reduceSub, Int.reduceNeg, Int.reduceLE, Int.reduceLT, Int.reduceToNat, Int.reduceBEq, Int.reduceBNe, Int.reduceEq, Int.reduceNe, Int.toNat_zero, Int.toNat_one, bne_self_eq_false, Nat.reduceMul, Nat.zero_mul, Nat.mul_one, Nat.one_mul, Nat.reduceSub, Int.cast_ofNat_Int, Int.toNat_natCast]
    have hset : (List.map (fun x => Cv.v (.int .i64 x)) raws).set i (Cv.v (.int .i64 y)) = List.map cz (raws.set i y) := by rw [List.map_set]
    have hsl : (raws.set i y).length = raws.length := List.length_set
    simp only [hset]
    refine ⟨⟨by omega, by omega⟩, by simp; omega, ?_⟩
    have hen2 := fenc f hf (raws.set i y) (by omega)
    rw [hsl] at hen2
    refine CallQ.ren [(1, 1), (2, 2), (3, 131)] 132 (fenc f hf raws (by omega)) hM rfl rfl ⟨⟨_, rfl, wkS _ _ _⟩, ⟨_, rfl, wkZ _ _ _ _⟩, trivial⟩ rfl (.inl rfl) ?_
    simp only [Mem.ren, List.map_cons, List.map_nil, Bk.ren, List.map_map, V.ren, W.ren, Cv.ren, rn, Nat.reduceBEq, cond_true, cond_false, Function.comp_def]
    simp (config := { maxSteps := 2000000 }) only [go_sem, Nat.reduceBEq, Nat.reduceAdd, Nat.reduceLT, Nat.reduceLeDiff, Nat.reduceEqDiff, reduceCtorEq, Int.reduceAdd, Int.reduceSub, Int.reduceNeg, Int.reduceLE, Int.reduceLT, Int.reduceToNat, Int.reduceBEq, Int.reduceBNe, Int.reduceEq, Int.reduceNe, Int.toNat_zero, Int.toNat_one, bne_self_eq_false, Nat.reduceMul, Nat.zero_mul, Nat.mul_one, Nat.one_mul, Nat.reduceSub, Int.cast_ofNat_Int, Int.toNat_natCast]
    refine CallQ.ren [(1, 1), (2, 130), (3, 132)] 133 hen2 (clE2 _ _) rfl rfl ⟨⟨_, rfl, wkS _ _ _⟩, ⟨_, rfl, wkZ _ _ _ _⟩, trivial⟩ rfl (.inl rfl) ?_
    simp only [Mem.ren, List.map_cons, List.map_nil, Bk.ren, List.map_map, V.ren, W.ren, Cv.ren, rn, Nat.reduceBEq, cond_true, cond_false, Function.comp_def]
    simp (config := { maxSteps := 2000000 }) only [go_sem, Nat.reduceBEq, Nat.reduceAdd, Nat.reduceLT, Nat.reduceLeDiff, Nat.reduceEqDiff, reduceCtorEq, Int.reduceAdd, Int.reduceSub, Int.reduceNeg, Int.reduceLE, Int.reduceLT, Int.reduceToNat, Int.reduceBEq, Int.reduceBNe, Int.reduceEq, Int.reduceNe, Int.toNat_zero, Int.toNat_one, bne_self_eq_false, Nat.reduceMul, Nat.zero_mul, Nat.mul_one, Nat.one_mul, Nat.reduceSub, Int.cast_ofNat_Int, Int.toNat_natCast]
    refine mtch (fun hz => ?_) (fun hz => ?_)
    · exact RetQ.of hR rfl ⟨rfl, trivial⟩ rfl (SubS.sub ⟨⟨_, rfl, .inl rfl⟩, ⟨_, rfl, .inl rfl⟩, trivial⟩) hM (ClV.of rfl)
    · have hz : encE f raws = 0 ∧ encE f (raws.set i y) = 0 := by
        simp only [Bool.cond_true_left, Bool.or_eq_false_iff, bne_eq_false_iff_eq] at hz; exact hz
      obtain ⟨hv, hln, hp, hb⟩ := encE_0 hz.1
      obtain ⟨_, _, hp2, hb2⟩ := encE_0 hz.2
      have hln8 := hv.ln
      obtain ⟨n, hn⟩ := Int.eq_ofNat_of_zero_le (show 0 ≤ f.ln by omega)
      have hnn : f.ln.toNat = n := by omega
      have hsi : i < f.sgs.length := by omega
      have htk := ss_take f.sgs i hsi
      have hbs : (sok f.sgs[i]) = true := (prE_0 (hv.sg i hsi)).1
      have hfs := hf.s _ (List.getElem_mem hsi)
      have hkey : ∀ c, c ∉ bitsL f.sgs[i] → (encD 0 f.sgs raws).testBit c = (encD 0 f.sgs (raws.set i y)).testBit c := fun c hc => encD_set c y f.sgs raws i 0 0 hsi hc rfl
      generalize f.sgs[i] = s at *
      rw [hb, hb2, hnn]
      generalize encD 0 f.sgs raws = D1 at *
      generalize encD 0 f.sgs (raws.set i y) = D2 at *
      simp only [bytesOf_length]
      have e1 : (bif ((n : Int) != f.ln) then true else ((n : Int) != f.ln)) = false := by rw [hn]; simp
      simp only [e1]
      simp (config := { maxSteps := 2000000 }) only [go_sem, Nat.reduceBEq, Nat.reduceAdd, Nat.reduceLT, Nat.reduceLeDiff, Nat.reduceEqDiff, reduceCtorEq, Int.reduceAdd, Int.reduceSub, Int.reduceNeg, Int.reduceLE, Int.reduceLT, Int.reduceToNat, Int.reduceBEq, Int.reduceBNe, Int.reduceEq, Int.reduceNe, Int.toNat_zero, Int.toNat_one, bne_self_eq_false, Nat.reduceMul, Nat.zero_mul, Nat.mul_one, Nat.one_mul, Nat.reduceSub, Int.cast_ofNat_Int, Int.toNat_natCast, htk]
      refine ⟨⟨by omega, by omega⟩, by rw [ss_len]; omega, ?_⟩
      refine CallQ.ren [(1, 140)] 141 (sbits s hfs) (ClM.of rfl) rfl rfl trivial rfl (.inl rfl) ?_
      simp only [Mem.ren, List.map_cons, List.map_nil, Bk.ren, List.map_map, V.ren, W.ren, Cv.ren, rn, Nat.reduceBEq, cond_true, cond_false, Function.comp_def]
      simp (config := { maxSteps := 2000000 }) only [go_sem, Nat.reduceBEq, Nat.reduceAdd, Nat.reduceLT, Nat.reduceLeDiff, Nat.reduceEqDiff, reduceCtorEq, Int.reduceAdd, Int.reduceSub, Int.reduceNeg, Int.reduceLE, Int.reduceLT, Int.reduceToNat, Int.reduceBEq, Int.reduceBNe, Int.reduceEq, Int.reduceNe, Int.toNat_zero, Int.toNat_one, bne_self_eq_false, Nat.reduceMul, Nat.zero_mul, Nat.mul_one, Nat.one_mul, Nat.reduceSub, Int.cast_ofNat_Int, Int.toNat_natCast]
      have w8 : IntKind.i64.wrap (8 * f.ln) = ((8 * n : Nat) : Int) := by rw [w64 (by omega) (by omega)]; omega
      simp only [w8]
      refine Sm.loopM (M0 := [bS 1 f.sgs, bZr 2 raws]) (α := { c : Nat // c ≤ 8 * n }) hP (fun c => [(11, true, slV 5 n), (13, true, slV 6 n), (15, true, slV 7 (bitsL s).length), (80, true, I (8 * n : Nat)), (81, true, I c.val)])
        (fun _ => [bB 5 (bytesOf n D1), bB 6 (bytesOf n D2), bN 7 (bitsL s), bS 1 f.sgs, bZr 2 raws]) (fun c => 8 * n - c.val) ⟨0, by omega⟩ (fun _ => ClM.v (by simp only [List.all_cons, v_ss, v_z, v_u, v_n]; rfl)) (fun _ => ClE.of rfl) [(1, 1), (2, 2), (5, 131), (6, 132), (7, 140)] ?_ ?_
      · exact ⟨rfl, ⟨⟨rfl, rfl⟩, ⟨rfl, rfl⟩, trivial⟩, ⟨rfl, rfl, rfl, rfl, rfl, trivial⟩, ⟨.inr ⟨_, rfl, .inl (renV (v_u _))⟩, .inr ⟨_, rfl, .inl (renV (v_u _))⟩, .inr ⟨_, rfl, .inl (renV (v_n _))⟩, .inr ⟨_, rfl, .inl (renV (v_ss _))⟩, .inr ⟨_, rfl, .inl (renV (v_z _))⟩, trivial⟩⟩
      · rintro ⟨c, hc0⟩ J hbk
        simp only at hbk hc0 ⊢
        refine Sm.go 150 ?_
        simp (config := { maxSteps := 2000000 }) only [go_sem, Nat.reduceBEq, Nat.reduceAdd, Nat.reduceLT, Nat.reduceLeDiff, Nat.reduceEqDiff, reduceCtorEq, Int.reduceAdd, Int.reduceSub, Int.reduceNeg, Int.reduceLE, Int.reduceLT, Int.reduceToNat, Int.reduceBEq, Int.reduceBNe, Int.reduceEq, Int.reduceNe, Int.toNat_zero, Int.toNat_one, bne_self_eq_false, Nat.reduceMul, Nat.zero_mul, Nat.mul_one, Nat.one_mul, Nat.reduceSub, Int.cast_ofNat_Int, Int.toNat_natCast]
        refine mtch (fun hc => ?_) (fun hc => ?_)
        · have hc : c < 8 * n := by simp at hc; omega
          have h1 : ((bytesOf n D1).map cb)[c / 8]? = some (cb ((bytesOf n D1).getD (c / 8) 0)) := get_u (by rw [bytesOf_length]; omega)
          have h2 : ((bytesOf n D2).map cb)[c / 8]? = some (cb ((bytesOf n D2).getD (c / 8) 0)) := get_u (by rw [bytesOf_length]; omega)
          have hg1 : (bytesOf n D1).getD (c / 8) 0 = D1 / 2 ^ (8 * (c / 8)) % 256 := by simp [bytesOf, List.getD_eq_getElem?_getD, show c / 8 < n by omega]
          have hg2 : (bytesOf n D2).getD (c / 8) 0 = D2 / 2 ^ (8 * (c / 8)) % 256 := by simp [bytesOf, List.getD_eq_getElem?_getD, show c / 8 < n by omega]
          have d1 : (c : Int).tdiv 8 = ((c / 8 : Nat) : Int) := by rw [Int.tdiv_eq_ediv_of_nonneg (by omega)]; rfl
          have d2 : (c : Int).tmod 8 = ((c % 8 : Nat) : Int) := remN c 8
          have d3 : IntKind.i64.wrap ((c / 8 : Nat) : Int) = ((c / 8 : Nat) : Int) := w64n _ (by omega)
          rw [hg1] at h1
          rw [hg2] at h2
          have hx := xor_u8 (D1 / 2 ^ (8 * (c / 8)) % 256) (D2 / 2 ^ (8 * (c / 8)) % 256) (Nat.mod_lt _ (by omega)) (Nat.mod_lt _ (by omega))
          have hbt := bit_u8 (D1 / 2 ^ (8 * (c / 8)) % 256 ^^^ D2 / 2 ^ (8 * (c / 8)) % 256) (c % 8) (xor_lt8 (Nat.mod_lt _ (by omega)) (Nat.mod_lt _ (by omega))) (Nat.mod_lt _ (by omega))
          rw [Nat.testBit_xor, byte_bit _ _ _ (Nat.mod_lt _ (by omega)), byte_bit _ _ _ (Nat.mod_lt _ (by omega)), Nat.div_add_mod] at hbt
          refine Sm.dgo 150 19 mix (by decide +kernel) (by decide +kernel) ?_
          simp (config := { maxSteps := 2000000 }) only [go_sem, Nat.reduceBEq, Nat.reduceAdd, Nat.reduceLT, Nat.reduceLeDiff, Nat.reduceEqDiff, reduceCtorEq, Int.reduceAdd, Int.reduceSub, Int.reduceNeg, Int.reduceLE, Int.reduceLT, Int.reduceToNat, Int.reduceBEq, Int.reduceBNe, Int.reduceEq, Int.reduceNe, Int.toNat_zero, Int.toNat_one, bne_self_eq_false, Nat.reduceMul, Nat.zero_mul, Nat.mul_one, Nat.one_mul, Nat.reduceSub, Int.cast_ofNat_Int, Int.toNat_natCast, d1, d2, d3, h1, h2, hx, hbt]
          have hbl := bitsL_le s
          refine ⟨⟨by omega, by omega⟩, ⟨by omega, by omega⟩, by omega, ?_⟩
          refine CallQ.gmem [(1, 7)] 150 (fun _ => ncontains (bitsL s) c (by omega)) (clNr _ _) rfl (fun h => by rw [h]; rfl) ⟨⟨_, rfl, wkN _ _ _ _⟩, trivial⟩ ?_
          simp (config := { maxSteps := 2000000 }) only [go_sem, Nat.reduceBEq, Nat.reduceAdd, Nat.reduceLT, Nat.reduceLeDiff, Nat.reduceEqDiff, reduceCtorEq, Int.reduceAdd, Int.reduceSub, Int.reduceNeg, Int.reduceLE, Int.reduceLT, Int.reduceToNat, Int.reduceBEq, Int.reduceBNe, Int.reduceEq, Int.reduceNe, Int.toNat_zero, Int.toNat_one, bne_self_eq_false, Nat.reduceMul, Nat.zero_mul, Nat.mul_one, Nat.one_mul, Nat.reduceSub, Int.cast_ofNat_Int, Int.toNat_natCast]
          have w1 : IntKind.i64.wrap ((c : Int) + 1) = ((c + 1 : Nat) : Int) := by rw [w64 (by omega) (by omega)]; omega
          refine mtch (fun hz2 => ?_) (fun hz2 => ?_)
          · exfalso
            by_cases hm : c ∈ bitsL s
            · have : (bitsL s).contains c = true := by simpa using hm
              rw [this] at hz2
              cases hxx : (D1.testBit c ^^ D2.testBit c) <;> rw [hxx] at hz2 <;> cases hz2
            · rw [hkey c hm, Bool.xor_self] at hz2; cases hz2
          · simp only [w1]
            exact hbk _ _ ⟨c + 1, hc⟩ [(1, 1), (2, 2), (5, 5), (6, 6), (7, 7)] (by simp only; omega) ⟨rfl, ⟨⟨rfl, rfl⟩, ⟨rfl, rfl⟩, trivial⟩, ⟨rfl, rfl, rfl, rfl, rfl, trivial⟩, ⟨.inr ⟨_, rfl, .inl (renV (v_u _))⟩, .inr ⟨_, rfl, .inl (renV (v_u _))⟩, .inr ⟨_, rfl, .inl (renV (v_n _))⟩, .inr ⟨_, rfl, .inl (renV (v_ss _))⟩, .inr ⟨_, rfl, .inl (renV (v_z _))⟩, trivial⟩⟩
        · exact RetQ.of hR rfl ⟨rfl, trivial⟩ rfl (SubS.sub ⟨⟨_, rfl, .inl rfl⟩, ⟨_, rfl, .inl rfl⟩, trivial⟩) hM (ClV.of rfl)
end Go.Proofs.Ytcdclmelnnbdnaa
