/- Frame: Encode of the reference. -/
import Derived.Test.YtcdclmelnnbdnaaB1
namespace Go.Proofs.Ytcdclmelnnbdnaa
open Vg Tf
set_option linter.unusedSimpArgs false
set_option linter.unusedVariables false
set_option maxRecDepth 100000
set_option maxHeartbeats 4000000
theorem bitW_nodup (mot : Bool) (st n : Nat) : (bitW mot st n).Nodup := by
  unfold bitW
  refine List.Pairwise.map _ (R := (· ≠ ·)) ?_ List.nodup_range
  intro a b hab h
  cases mot
  · simp at h; omega
  · simp only [cond_true] at h
    have := congrArg fm h
    rw [fm_fm, fm_fm] at this; omega
theorem bitsL_nodup (s : Sg) : (bitsL s).Nodup := by
  unfold bitsL
  cases sok s
  · exact List.nodup_nil
  · cases s.mot
    · exact bitW_nodup _ _ _
    · exact List.pairwise_reverse.2 ((bitW_nodup _ _ _).imp Ne.symm)
theorem nodup_take {l : List Nat} (h : l.Nodup) {k : Nat} (hk : k < l.length) : l.getD k 0 ∉ l.take k := by
  intro hm
  obtain ⟨j, hj, he⟩ := List.getElem_of_mem hm
  rw [List.getElem_take] at he
  rw [List.length_take] at hj
  rw [List.getD_eq_getElem?_getD, List.getElem?_eq_getElem hk] at he
  have := (List.getElem_inj h).1 he
  omega
/-- Only bits of these signals and these bits are set. -/
def OnlyB (seen : List Sg) (cur : List Nat) (D : Nat) : Prop := ∀ c, D.testBit c = true → (∃ x ∈ seen, c ∈ bitsL x) ∨ c ∈ cur
theorem byte_or : ∀ (a i : Nat), a < 256 → i < 8 → a.testBit i = false → a ||| 2 ^ i = a + 2 ^ i ∧ a + 2 ^ i < 256 := by
  have h : ∀ a : Fin 256, ∀ i : Fin 8, a.val.testBit i.val = false → a.val ||| 2 ^ i.val = a.val + 2 ^ i.val ∧ a.val + 2 ^ i.val < 256 := by decide +kernel
  intro a i ha hi
  exact h ⟨a, ha⟩ ⟨i, hi⟩
theorem byte_bit (D j i : Nat) (hi : i < 8) : (D / 2 ^ (8 * j) % 256).testBit i = D.testBit (8 * j + i) := by
  rw [show 256 = 2 ^ 8 from rfl, Nat.testBit_mod_two_pow, Nat.testBit_div_two_pow, decide_eq_true hi, Bool.true_and, Nat.add_comm]
theorem byte_ext {a b : Nat} (ha : a < 256) (hb : b < 256) (h : ∀ i, i < 8 → a.testBit i = b.testBit i) : a = b := by
  refine Nat.eq_of_testBit_eq fun i => ?_
  rcases Nat.lt_or_ge i 8 with hi | hi
  · exact h i hi
  · rw [Nat.testBit_lt_two_pow (Nat.lt_of_lt_of_le ha (Nat.pow_le_pow_right (show 0 < 2 by omega) hi)), Nat.testBit_lt_two_pow (Nat.lt_of_lt_of_le hb (Nat.pow_le_pow_right (show 0 < 2 by omega) hi))]
theorem byte_new (D b j : Nat) (hb : D.testBit b = false) : (D ||| 2 ^ b) / 2 ^ (8 * j) % 256 = if j = b / 8 then D / 2 ^ (8 * j) % 256 + 2 ^ (b % 8) else D / 2 ^ (8 * j) % 256 := by
  have hl : ∀ x : Nat, x % 256 < 256 := fun x => Nat.mod_lt _ (by omega)
  split
  · rename_i h
    subst h
    have hbi : (D / 2 ^ (8 * (b / 8)) % 256).testBit (b % 8) = false := by rw [byte_bit _ _ _ (by omega), Nat.div_add_mod]; exact hb
    obtain ⟨h1, h2⟩ := byte_or _ (b % 8) (hl _) (by omega) hbi
    rw [← h1]
    refine byte_ext (hl _) (by rw [h1]; exact h2) fun i hi => ?_
    rw [byte_bit _ _ _ hi, Nat.testBit_or, Nat.testBit_or, byte_bit _ _ _ hi, Nat.testBit_two_pow, Nat.testBit_two_pow]
    congr 1
    rw [decide_eq_decide]; omega
  · rename_i h
    refine byte_ext (hl _) (hl _) fun i hi => ?_
    rw [byte_bit _ _ _ hi, byte_bit _ _ _ hi, Nat.testBit_or, Nat.testBit_two_pow, decide_eq_false (by omega), Bool.or_false]
theorem bytesOf_or (n D b : Nat) (hb : D.testBit b = false) (hn : b / 8 < n) : bytesOf n (D ||| 2 ^ b) = (bytesOf n D).set (b / 8) ((bytesOf n D).getD (b / 8) 0 + 2 ^ (b % 8)) ∧ (bytesOf n D).getD (b / 8) 0 + 2 ^ (b % 8) < 256 := by
  have hg : (bytesOf n D).getD (b / 8) 0 = D / 2 ^ (8 * (b / 8)) % 256 := by
    simp [bytesOf, List.getD_eq_getElem?_getD, hn]
  constructor
  · rw [hg]
    apply List.ext_getElem?
    intro j
    rw [List.getElem?_set]
    by_cases hj : b / 8 = j
    · subst hj
      simp [bytesOf, hn, byte_new D b _ hb]
    · rw [if_neg hj]
      simp only [bytesOf, List.getElem?_map]
      rcases Nat.lt_or_ge j n with h | h
      · rw [List.getElem?_range h, Option.map_some, Option.map_some, byte_new D b j hb, if_neg (by omega)]
      · rw [List.getElem?_eq_none (by simpa using h)]; rfl
  · rw [hg]
    have hbi : (D / 2 ^ (8 * (b / 8)) % 256).testBit (b % 8) = false := by rw [byte_bit _ _ _ (by omega), Nat.div_add_mod]; exact hb
    exact (byte_or _ (b % 8) (Nat.mod_lt _ (by omega)) (by omega) hbi).2
theorem rpower (n : Nat) (hn : n ≤ 62) : CallOk Try.prog 42 [I n] [] (I (2 ^ n : Nat)) [] := by
  refine CallOk.mkN 100 Try.func42 rfl en42 (by simp [Try.ntmps42]) (ClA.of rfl) rfl rfl fun C hR hP => ?_
  simp (config := { maxSteps := 2000000 }) only [go_sem, Nat.reduceBEq, Nat.reduceAdd, Nat.reduceLT, Nat.reduceLeDiff, Nat.reduceEqDiff, reduceCtorEq, Int.reduceAdd, Int.reduceSub, Int.reduceNeg, Int.reduceLE, Int.reduceLT, Int.reduceToNat, Int.reduceBEq, Int.reduceBNe, Int.reduceEq, Int.reduceNe, Int.toNat_zero, Int.toNat_one, bne_self_eq_false, Nat.reduceMul, Nat.zero_mul, Nat.mul_one, Nat.one_mul, Nat.reduceSub, Int.cast_ofNat_Int, Int.toNat_natCast]
  refine ⟨by omega, RetQ.int hR rfl ⟨rfl, trivial⟩ ?_⟩
  have h1 : 2 ^ n ≤ 2 ^ 62 := Nat.pow_le_pow_right (by omega) hn
  rw [Nat.min_eq_left (by omega), Int.one_mul, pow_nat]
  generalize 2 ^ n = q at *
  exact w64 (by omega) (by omega)
/-- A permitted raw value, as it is without a sign. -/
def uns (s : Sg) (x : Int) : Int := if x < 0 then x + 2 ^ s.ln.toNat else x
theorem uns_bd {s : Sg} (h : sok s = true) {x : Int} (hx : inR x s.lo s.hi = true) : 0 ≤ uns s x ∧ uns s x < 2 ^ s.ln.toNat := by
  have hb := sok_bd h
  have hx := inR_iff.1 hx
  obtain ⟨n, hn⟩ : ∃ n, s.ln.toNat = n + 1 := ⟨s.ln.toNat - 1, by omega⟩
  have q := (p2 (show n ≤ 32 by omega)).1
  have hl : (lims s).1 ≤ s.lo ∧ s.lo ≤ s.hi ∧ s.hi ≤ (lims s).2 := by
    unfold sok at h
    simp only [Bool.and_eq_true, decide_eq_true_eq] at h
    exact h.2.2.2.2.2.2
  have e : (2 : Int) ^ (n + 1) = 2 * 2 ^ n := by rw [Int.pow_succ]; omega
  unfold lims at hl
  unfold uns
  rw [hn] at *
  cases hs : s.sgn <;> rw [hs] at hl <;> simp only [cond_true, cond_false, Nat.add_sub_cancel] at hl <;> split <;> omega
theorem uns_bit (s : Sg) (x : Int) (k : Nat) (hk : k < s.ln.toNat) : xbit x k = decide (uns s x / 2 ^ k % 2 = 1) := by
  unfold xbit uns
  split
  · obtain ⟨m, hm⟩ : ∃ m, s.ln.toNat = k + (m + 1) := ⟨s.ln.toNat - k - 1, by omega⟩
    have e : (2 : Int) ^ s.ln.toNat = 2 ^ k * (2 * 2 ^ m) := by rw [hm, Int.pow_add, Int.pow_succ, Int.mul_comm (2 ^ m)]
    have hp : (2 : Int) ^ k ≠ 0 := by have : (0 : Int) < 2 ^ k := Int.pow_pos (by omega); omega
    rw [e, Int.add_mul_ediv_left _ _ hp, Int.add_mul_emod_self_left]
  · rfl
theorem clash_no {seen : List Sg} {s : Sg} (h : clash seen s = false) : ∀ x ∈ seen, ∀ b ∈ bitsL x, b ∉ bitsL s := by
  intro x hx b hb hc
  have h2 := List.any_eq_false.1 h x hx
  simp only [Bool.or_eq_true, not_or, Bool.not_eq_true] at h2
  have := List.any_eq_false.1 h2.2 b hb
  exact this (by simpa using hc)
theorem OnlyB.bit {seen : List Sg} {s : Sg} {k D : Nat} (h : OnlyB seen ((bitsL s).take k) D) (hc : clash seen s = false) (hk : k < (bitsL s).length) : D.testBit ((bitsL s).getD k 0) = false := by
  cases ht : D.testBit ((bitsL s).getD k 0) with
  | false => rfl
  | true =>
    rcases h _ ht with ⟨x, hx, hb⟩ | hb
    · exact absurd (mem_n hk) (clash_no hc x hx _ hb)
    · exact absurd hb (nodup_take (bitsL_nodup s) hk)
theorem OnlyB.next {seen : List Sg} {s : Sg} {k D : Nat} (h : OnlyB seen ((bitsL s).take k) D) (hk : k < (bitsL s).length) (y : Bool) : OnlyB seen ((bitsL s).take (k + 1)) (bif y then D ||| 2 ^ (bitsL s).getD k 0 else D) := by
  have htk : (bitsL s).take (k + 1) = (bitsL s).take k ++ [(bitsL s).getD k 0] := by rw [List.take_succ_eq_append_getElem hk, List.getD_eq_getElem?_getD, List.getElem?_eq_getElem hk]; rfl
  intro c hc
  rw [htk, List.mem_append, List.mem_singleton]
  cases y with
  | false => rcases h c hc with h | h
             · exact .inl h
             · exact .inr (.inl h)
  | true =>
    rw [cond_true, Nat.testBit_or, Nat.testBit_two_pow, Bool.or_eq_true, decide_eq_true_eq] at hc
    rcases hc with hc | hc
    · rcases h c hc with h | h
      · exact .inl h
      · exact .inr (.inl h)
    · exact .inr (.inr hc.symm)
theorem OnlyB.whole {seen : List Sg} {s : Sg} {D : Nat} (h : OnlyB seen (bitsL s) D) : OnlyB (seen ++ [s]) [] D := by
  intro c hc
  rcases h c hc with ⟨x, hx, hb⟩ | hb
  · exact .inl ⟨x, by simp [hx], hb⟩
  · exact .inl ⟨s, by simp, hb⟩
theorem ss_ln (l : List Sg) (i : Nat) (h : i < l.length) : (l.flatMap sgL)[i * 10 + 2]? = some (.v (.int .i64 l[i].ln)) := by
  have h1 := congrArg (fun l => l[2]?) (ss_take l i h)
  simp only [List.getElem?_take, List.getElem?_drop] at h1
  simpa [sgL] using h1
theorem renc (f : Fm) (hf : f.ok) (hv : f.val) (raws : List Int) (hln : raws.length = f.sgs.length) (hpm : permL f.sgs raws = true) : CallOk Try.prog 18 [fm5 1 f, slV 2 raws.length] [bS 1 f.sgs, bZr 2 raws] (slV 3 f.ln.toNat) [bB 3 (bytesOf f.ln.toNat (encD 0 f.sgs raws))] := by
  have hM := clE2 f raws
  have hk := hf.k
  obtain ⟨n, hn⟩ := Int.eq_ofNat_of_zero_le (show 0 ≤ f.ln by have := hv.ln; omega)
  have hln8 := hv.ln
  have hnn : f.ln.toNat = n := by omega
  rw [hnn]
  refine CallOk.mkN 100 Try.func18 rfl en18 (by simp [Try.ntmps18]) (ClA.of rfl) rfl rfl fun C hR hP => ?_
  simp (config := { maxSteps := 2000000 }) only [go_sem, Nat.reduceBEq, Nat.reduceAdd, Nat.reduceLT, Nat.reduceLeDiff, Nat.reduceEqDiff, reduceCtorEq, Int.reduceAdd, Int.reduceSub, Int.reduceNeg, Int.reduceLE, Int.reduceLT, Int.reduceToNat, Int.reduceBEq, Int.reduceBNe, Int.reduceEq, Int.reduceNe, Int.toNat_zero, Int.toNat_one, bne_self_eq_false, Nat.reduceMul, Nat.zero_mul, Nat.mul_one, Nat.one_mul, Nat.reduceSub, Int.cast_ofNat_Int, Int.toNat_natCast]
  refine ⟨⟨by omega, by omega, by omega⟩, ?_⟩
  rw [hnn, reps_cb]
  have h0 : List.replicate n 0 = bytesOf n 0 := by
    apply List.ext_getElem <;> simp [bytesOf]
  rw [h0]
  refine Sm.loopM (M0 := [bS 1 f.sgs, bZr 2 raws]) (α := { p : Nat × Nat // p.1 ≤ f.sgs.length ∧ OnlyB (f.sgs.take p.1) [] p.2 ∧ permL (f.sgs.drop p.1) (raws.drop p.1) = true ∧ encD 0 f.sgs raws = encD p.2 (f.sgs.drop p.1) (raws.drop p.1) }) hP (fun p => [(1, true, slV 2 raws.length), (2, true, .c (.p 4 0)), (5, true, slV 7 n), (6, true, I p.val.1)])
    (fun p => [(4, ⟨false, fmL 1 f, 24⟩), bB 7 (bytesOf n p.val.2), bS 1 f.sgs, bZr 2 raws]) (fun p => f.sgs.length - p.val.1) ⟨(0, 0), by simp, fun c hc => by simp at hc, hpm, rfl⟩ (fun _ => ClM.of (by simp only [List.all_cons, inMV (v_ss _), inMV (v_z _), inMV (v_u _)]; rfl)) (fun _ => ClE.of rfl) [(1, 1), (2, 2), (4, 100), (7, 101)] ?_ ?_
  · exact ⟨rfl, ⟨⟨rfl, rfl⟩, ⟨rfl, rfl⟩, trivial⟩, ⟨rfl, rfl, rfl, rfl, trivial⟩, ⟨.inr ⟨_, rfl, .inl rfl⟩, .inr ⟨_, rfl, .inl (renV (v_u _))⟩, .inr ⟨_, rfl, .inl (renV (v_ss _))⟩, .inr ⟨_, rfl, .inl (renV (v_z _))⟩, trivial⟩⟩
  · rintro ⟨⟨i, D⟩, hi, hD, hp, he⟩ J hb
    simp only at hb hi hD hp he ⊢
    refine Sm.go 120 ?_
    simp (config := { maxSteps := 2000000 }) only [go_sem, Nat.reduceBEq, Nat.reduceAdd, Nat.reduceLT, Nat.reduceLeDiff, Nat.reduceEqDiff, reduceCtorEq, Int.reduceAdd, Int.reduceSub, Int.reduceNeg, Int.reduceLE, Int.reduceLT, Int.reduceToNat, Int.reduceBEq, Int.reduceBNe, Int.reduceEq, Int.reduceNe, Int.toNat_zero, Int.toNat_one, bne_self_eq_false, Nat.reduceMul, Nat.zero_mul, Nat.mul_one, Nat.one_mul, Nat.reduceSub, Int.cast_ofNat_Int, Int.toNat_natCast]
    refine mtch (fun hc => ?_) (fun hc => ?_)
    · have hc : i < f.sgs.length := by simp at hc; omega
      have hcr : i < raws.length := by omega
      have hi' : f.sgs[i] ∈ f.sgs := List.getElem_mem hc
      have htk := ss_take f.sgs i hc
      have hsl := ss_ln f.sgs i hc
      have hdr : f.sgs.drop i = f.sgs[i] :: f.sgs.drop (i + 1) := List.drop_eq_getElem_cons hc
      have htk1 : f.sgs.take (i + 1) = f.sgs.take i ++ [f.sgs[i]] := by rw [List.take_succ_eq_append_getElem hc]
      have hb64 := bits64 hv hc
      obtain ⟨g1, g2, g3⟩ := prE_0 (hv.sg i hc)
      have hdz := drop_z hcr
      generalize f.sgs[i] = s at *
      simp (config := { maxSteps := 2000000 }) only [go_sem, Nat.reduceBEq, Nat.reduceAdd, Nat.reduceLT, Nat.reduceLeDiff, Nat.reduceEqDiff, reduceCtorEq, Int.reduceAdd, Int.reduceSub, Int.reduceNeg, Int.reduceLE, Int.reduceLT, Int.reduceToNat, Int.reduceBEq, Int.reduceBNe, Int.reduceEq, Int.reduceNe, Int.toNat_zero, Int.toNat_one, bne_self_eq_false, Nat.reduceMul, Nat.zero_mul, Nat.mul_one, Nat.one_mul, Nat.reduceSub, Int.cast_ofNat_Int, Int.toNat_natCast, get_z hcr, hsl, htk]
      generalize hxd : raws.getD i 0 = x at *
      rw [hdr, hdz, permL, Bool.and_eq_true] at hp
      obtain ⟨hq, hp'⟩ := hp
      have he' : encD 0 f.sgs raws = encD (encS x D (bitsL s) 0) (f.sgs.drop (i + 1)) (raws.drop (i + 1)) := by rw [he, hdr, hdz]; rfl
      have hun := uns_bd g1 hq
      have hsb := sok_bd g1
      have hlen := bitsL_length g1
      have hnod := bitsL_nodup s
      refine ⟨⟨by omega, by omega⟩, ?_⟩
      refine mtch (fun hneg => ?neg) (fun hneg => ?pos)
      case' neg =>
        have hneg : x < 0 := by simpa using hneg
        obtain ⟨m, hm⟩ := Int.eq_ofNat_of_zero_le (show 0 ≤ s.ln by omega)
        have hpw := rpower m (by omega)
        rw [← hm] at hpw
        have hun2 : IntKind.i64.wrap (x + ((2 ^ m : Nat) : Int)) = uns s x := by
          have e : uns s x = x + ((2 ^ m : Nat) : Int) := by rw [uns, if_pos hneg, ← pow_nat, hm, Int.toNat_natCast]
          have h2 : 2 ^ m ≤ 2 ^ 32 := Nat.pow_le_pow_right (by omega) (by omega)
          have hlo := inR_iff.1 hq
          rw [e] at hun ⊢
          generalize 2 ^ m = q at *
          exact w64 (by omega) (by omega)
        refine ⟨⟨by omega, by omega⟩, ?_⟩
        refine CallQ.pure 140 hpw rfl ?_
        simp (config := { maxSteps := 2000000 }) only [go_sem, Nat.reduceBEq, Nat.reduceAdd, Nat.reduceLT, Nat.reduceLeDiff, Nat.reduceEqDiff, reduceCtorEq, Int.reduceAdd, Int.reduceSub, Int.reduceNeg, Int.reduceLE, Int.reduceLT, Int.reduceToNat, Int.reduceBEq, Int.reduceBNe, Int.reduceEq, Int.reduceNe, Int.toNat_zero, Int.toNat_one, bne_self_eq_false, Nat.reduceMul, Nat.zero_mul, Nat.mul_one, Nat.one_mul, Nat.reduceSub, Int.cast_ofNat_Int, Int.toNat_natCast, htk]
        simp only [hun2]
        generalize hu : uns s x = u at *
      case' pos =>
        have hneg : ¬ x < 0 := by simpa using hneg
        have hu2 : x = uns s x := by rw [uns, if_neg hneg]
        generalize hu : uns s x = u at *
      all_goals
        refine ⟨⟨by omega, by omega⟩, by rw [ss_len]; omega, ?_⟩
        refine CallQ.ren [(1, 150)] 151 (rbits s (hf.s s hi')) (ClM.of rfl) rfl rfl trivial rfl (.inl rfl) ?_
        simp only [Mem.ren, List.map_cons, List.map_nil, Bk.ren, List.map_map, V.ren, W.ren, Cv.ren, rn, Nat.reduceBEq, cond_true, cond_false, Function.comp_def]
        simp (config := { maxSteps := 2000000 }) only [go_sem, Nat.reduceBEq, Nat.reduceAdd, Nat.reduceLT, Nat.reduceLeDiff, Nat.reduceEqDiff, reduceCtorEq, Int.reduceAdd, Int.reduceSub, Int.reduceNeg, Int.reduceLE, Int.reduceLT, Int.reduceToNat, Int.reduceBEq, Int.reduceBNe, Int.reduceEq, Int.reduceNe, Int.toNat_zero, Int.toNat_one, bne_self_eq_false, Nat.reduceMul, Nat.zero_mul, Nat.mul_one, Nat.one_mul, Nat.reduceSub, Int.cast_ofNat_Int, Int.toNat_natCast]
        refine Sm.loopM (M0 := [bS 1 f.sgs, bZr 2 raws]) (α := { p : Nat × Nat // p.1 ≤ (bitsL s).length ∧ OnlyB (f.sgs.take i) ((bitsL s).take p.1) p.2 ∧ encS x D (bitsL s) 0 = encS x p.2 ((bitsL s).drop p.1) p.1 }) hP (fun p => [(1, true, slV 2 raws.length), (2, true, .c (.p 4 0)), (5, true, slV 7 n), (6, true, I i), (7, true, I (u / 2 ^ p.val.1)), (8, true, slV 6 (bitsL s).length), (9, true, I p.val.1)])
          (fun p => [(4, ⟨false, fmL 1 f, 24⟩), bN 6 (bitsL s), bB 7 (bytesOf n p.val.2), bS 1 f.sgs, bZr 2 raws]) (fun p => (bitsL s).length - p.val.1) ⟨(0, D), by simp, by rw [List.take_zero]; exact hD, rfl⟩ (fun _ => ClM.of (by simp only [List.all_cons, inMV (v_ss _), inMV (v_z _), inMV (v_n _), inMV (v_u _)]; rfl)) (fun _ => ClE.of rfl) [(1, 1), (2, 2), (4, 4), (6, 150), (7, 7)] ?_ ?_
        · simp only [Int.pow_zero, Int.ediv_one]
          first | exact ⟨rfl, ⟨⟨rfl, rfl⟩, ⟨rfl, rfl⟩, trivial⟩, ⟨rfl, rfl, rfl, rfl, rfl, rfl, rfl, trivial⟩, ⟨.inr ⟨_, rfl, .inl rfl⟩, .inr ⟨_, rfl, .inl (renV (v_n _))⟩, .inr ⟨_, rfl, .inl (renV (v_u _))⟩, .inr ⟨_, rfl, .inl (renV (v_ss _))⟩, .inr ⟨_, rfl, .inl (renV (v_z _))⟩, trivial⟩⟩ | (rw [← hu2]; exact ⟨rfl, ⟨⟨rfl, rfl⟩, ⟨rfl, rfl⟩, trivial⟩, ⟨rfl, rfl, rfl, rfl, rfl, rfl, rfl, trivial⟩, ⟨.inr ⟨_, rfl, .inl rfl⟩, .inr ⟨_, rfl, .inl (renV (v_n _))⟩, .inr ⟨_, rfl, .inl (renV (v_u _))⟩, .inr ⟨_, rfl, .inl (renV (v_ss _))⟩, .inr ⟨_, rfl, .inl (renV (v_z _))⟩, trivial⟩⟩)
        · rintro ⟨⟨k, D2⟩, hk, hD2, hx⟩ J2 hb2
          simp only at hb2 hk hD2 hx ⊢
          refine Sm.go 160 ?_
          simp (config := { maxSteps := 2000000 }) only [go_sem, Nat.reduceBEq, Nat.reduceAdd, Nat.reduceLT, Nat.reduceLeDiff, Nat.reduceEqDiff, reduceCtorEq, Int.reduceAdd, Int.reduceSub, Int.reduceNeg, Int.reduceLE, Int.reduceLT, Int.reduceToNat, Int.reduceBEq, Int.reduceBNe, Int.reduceEq, Int.reduceNe, Int.toNat_zero, Int.toNat_one, bne_self_eq_false, Nat.reduceMul, Nat.zero_mul, Nat.mul_one, Nat.one_mul, Nat.reduceSub, Int.cast_ofNat_Int, Int.toNat_natCast]
          refine mtch (fun hkc => ?_) (fun hkc => ?_)
          · have hkc : k < (bitsL s).length := by simp at hkc; omega
            have hdn := drop_n hkc
            have hbm := hb64 _ (mem_n hkc)
            have hnb := hD2.bit g3 hkc
            have hnx := hD2.next hkc (xbit x k)
            have hub := uns_bit s x k (by omega)
            have hu0 : 0 ≤ u / 2 ^ k := Int.ediv_nonneg hun.1 (Int.le_of_lt (Int.pow_pos (by omega)))
            have hu1 : u / 2 ^ k ≤ u := Int.ediv_le_self _ hun.1
            have hu2' : u / 2 ^ (k + 1) = (u / 2 ^ k).tdiv 2 := by rw [Int.tdiv_eq_ediv_of_nonneg hu0, Int.pow_succ, Int.ediv_ediv_of_nonneg (Int.le_of_lt (Int.pow_pos (by omega)))]
            have e1 : ((u / 2 ^ k).tmod 2 == 1) = xbit x k := by
              rw [Int.tmod_eq_emod_of_nonneg hu0, hub, hu, Bool.eq_iff_iff, beq_iff_eq, decide_eq_true_eq]
            have hgn := get_n hkc
            rw [hdn, encS] at hx
            generalize (bitsL s).getD k 0 = b at *
            have hb8 : b / 8 < n := by omega
            obtain ⟨hbo, hbt⟩ := bytesOf_or n D2 b hnb hb8
            have hgu : ((bytesOf n D2).map cb)[b / 8]? = some (cb ((bytesOf n D2).getD (b / 8) 0)) := get_u (by rw [bytesOf_length]; exact hb8)
            have w1 : IntKind.i64.wrap ((k : Int) + 1) = ((k + 1 : Nat) : Int) := by rw [w64 (by omega) (by omega)]; omega
            have d1 : (b : Int).tdiv 8 = ((b / 8 : Nat) : Int) := by rw [Int.tdiv_eq_ediv_of_nonneg (by omega)]; rfl
            have d2 : (b : Int).tmod 8 = ((b % 8 : Nat) : Int) := by rw [Int.tmod_eq_emod_of_nonneg (by omega)]; rfl
            have d3 : IntKind.i64.wrap ((b / 8 : Nat) : Int) = ((b / 8 : Nat) : Int) := w64 (by omega) (by omega)
            have hu3 : u ≤ 4294967296 := by have := (p2 (show s.ln.toNat ≤ 32 by omega)).2; omega
            have d4 : IntKind.i64.wrap ((u / 2 ^ k).tdiv 2) = u / 2 ^ (k + 1) := by
              rw [← hu2']; exact w64 (by have : 0 ≤ u / 2 ^ (k + 1) := Int.ediv_nonneg hun.1 (Int.le_of_lt (Int.pow_pos (by omega))); omega) (by have : u / 2 ^ (k + 1) ≤ u := Int.ediv_le_self _ hun.1; omega)
            simp only [e1]
            refine mtch (fun hy => ?_) (fun hy => ?_)
            · rw [hy, cond_true] at hnx hx
              refine Sm.dgo 160 22 mix (by decide +kernel) (by decide +kernel) ?_
              simp (config := { maxSteps := 2000000 }) only [go_sem, Nat.reduceBEq, Nat.reduceAdd, Nat.reduceLT, Nat.reduceLeDiff, Nat.reduceEqDiff, reduceCtorEq, Int.reduceAdd, Int.reduceSub, Int.reduceNeg, Int.reduceLE, Int.reduceLT, Int.reduceToNat, Int.reduceBEq, Int.reduceBNe, Int.reduceEq, Int.reduceNe, Int.toNat_zero, Int.toNat_one, bne_self_eq_false, Nat.reduceMul, Nat.zero_mul, Nat.mul_one, Nat.one_mul, Nat.reduceSub, Int.cast_ofNat_Int, Int.toNat_natCast, hgn, d1, d2, d3, hgu]
              have hb7 : b % 8 < 8 := Nat.mod_lt _ (by omega)
              refine ⟨⟨by omega, by omega⟩, ⟨by omega, by omega⟩, ⟨by omega, by omega⟩, ⟨by omega, by omega⟩, ?_⟩
              refine DCallQ.pure 160 (rpower (b % 8) (by omega)) rfl ?_
              simp (config := { maxSteps := 2000000 }) only [go_sem, Nat.reduceBEq, Nat.reduceAdd, Nat.reduceLT, Nat.reduceLeDiff, Nat.reduceEqDiff, reduceCtorEq, Int.reduceAdd, Int.reduceSub, Int.reduceNeg, Int.reduceLE, Int.reduceLT, Int.reduceToNat, Int.reduceBEq, Int.reduceBNe, Int.reduceEq, Int.reduceNe, Int.toNat_zero, Int.toNat_one, bne_self_eq_false, Nat.reduceMul, Nat.zero_mul, Nat.mul_one, Nat.one_mul, Nat.reduceSub, Int.cast_ofNat_Int, Int.toNat_natCast, hgn, d1, d2, d3, hgu]
              have d5 : IntKind.u8.wrap (((bytesOf n D2).getD (b / 8) 0 : Nat) + IntKind.u8.wrap ((2 ^ (b % 8) : Nat) : Int)) = ((((bytesOf n D2).getD (b / 8) 0 + 2 ^ (b % 8) : Nat)) : Int) := by
                generalize 2 ^ (b % 8) = q at *
                rw [IntKind.wrap_u8, IntKind.wrap_u8]; omega
              have hst : (List.map cb (bytesOf n D2)).set (b / 8) (cb ((bytesOf n D2).getD (b / 8) 0 + 2 ^ (b % 8))) = List.map cb (bytesOf n (D2 ||| 2 ^ b)) := by
                rw [hbo, List.map_set]
              simp only [d4, w1, d5, hst]
              exact ⟨⟨by omega, by omega⟩, by simp [bytesOf_length]; omega, hb2 _ _ ⟨(k + 1, D2 ||| 2 ^ b), hkc, hnx, hx⟩ [(1, 1), (2, 2), (4, 4), (6, 6), (7, 7)] (by simp only; omega) ⟨rfl, ⟨⟨rfl, rfl⟩, ⟨rfl, rfl⟩, trivial⟩, ⟨rfl, rfl, rfl, rfl, rfl, rfl, rfl, trivial⟩, ⟨.inr ⟨_, rfl, .inl rfl⟩, .inr ⟨_, rfl, .inl (renV (v_n _))⟩, .inr ⟨_, rfl, .inl (renV (v_u _))⟩, .inr ⟨_, rfl, .inl (renV (v_ss _))⟩, .inr ⟨_, rfl, .inl (renV (v_z _))⟩, trivial⟩⟩⟩
            · rw [hy, cond_false] at hnx hx
              simp only [d4, w1]
              exact hb2 _ _ ⟨(k + 1, D2), hkc, hnx, hx⟩ [(1, 1), (2, 2), (4, 4), (6, 6), (7, 7)] (by simp only; omega) ⟨rfl, ⟨⟨rfl, rfl⟩, ⟨rfl, rfl⟩, trivial⟩, ⟨rfl, rfl, rfl, rfl, rfl, rfl, rfl, trivial⟩, ⟨.inr ⟨_, rfl, .inl rfl⟩, .inr ⟨_, rfl, .inl (renV (v_n _))⟩, .inr ⟨_, rfl, .inl (renV (v_u _))⟩, .inr ⟨_, rfl, .inl (renV (v_ss _))⟩, .inr ⟨_, rfl, .inl (renV (v_z _))⟩, trivial⟩⟩
          · have hkc : k = (bitsL s).length := by simp at hkc; omega
            subst hkc
            rw [List.drop_length, encS] at hx
            rw [List.take_length] at hD2
            have w1 : IntKind.i64.wrap ((i : Int) + 1) = ((i + 1 : Nat) : Int) := by rw [w64 (by omega) (by omega)]; omega
            simp only [w1]
            exact hb _ _ ⟨(i + 1, D2), hc, by rw [htk1]; exact hD2.whole, hp', by rw [he', hx]⟩ [(1, 1), (2, 2), (4, 4), (7, 7)] (by simp only; omega) ⟨rfl, ⟨⟨rfl, rfl⟩, ⟨rfl, rfl⟩, trivial⟩, ⟨rfl, rfl, rfl, rfl, trivial⟩, ⟨.inr ⟨_, rfl, .inl rfl⟩, .inr ⟨_, rfl, .inl (renV (v_u _))⟩, .inr ⟨_, rfl, .inl (renV (v_ss _))⟩, .inr ⟨_, rfl, .inl (renV (v_z _))⟩, trivial⟩⟩
    · have hc : i = f.sgs.length := by simp at hc; omega
      subst hc
      rw [List.drop_length, encD_nil] at he
      rw [he] at hR
      exact RetQ.ren [(1, 1), (2, 2), (3, 7)] hR hP rfl ⟨rfl, trivial⟩ rfl rfl ⟨⟨rfl, rfl⟩, ⟨rfl, rfl⟩, trivial⟩ ⟨.inr ⟨_, rfl, .inl (renV (v_u _))⟩, .inr ⟨_, rfl, .inl (renV (v_ss _))⟩, .inr ⟨_, rfl, .inl (renV (v_z _))⟩, trivial⟩ (clE3 f raws _) (ClV.of rfl)
end Go.Proofs.Ytcdclmelnnbdnaa
