/- Frame: what was encoded is decoded (plain law); the law FrameBack. -/
import Derived.Test.YtcdclmelnnbdnaaD2
import Derived.Test.YtcdclmelnnbdnaaC1
namespace Go.Proofs.Ytcdclmelnnbdnaa
open Vg Tf
set_option linter.unusedSimpArgs false
set_option linter.unusedVariables false
set_option maxRecDepth 100000
set_option maxHeartbeats 4000000
theorem encS_in (x : Int) : ∀ (l : List Nat) (D k0 k : Nat), l.Nodup → k < l.length → D.testBit (l.getD k 0) = false → (encS x D l k0).testBit (l.getD k 0) = xbit x (k0 + k)
  | [], _, _, _, _, h, _ => by simp at h
  | b :: r, D, k0, 0, hn, _, hD => by
    have hb : b ∉ r := (List.nodup_cons.1 hn).1
    have hD : D.testBit b = false := by simpa using hD
    show (encS x _ r (k0 + 1)).testBit b = _
    rw [encS_out x b r _ _ hb]
    cases hx : xbit x k0 with
    | true => simp [hx, Nat.testBit_or]
    | false => simpa [hx] using hD
  | b :: r, D, k0, k + 1, hn, hk, hD => by
    have hk : k < r.length := by simpa using hk
    have hn' := List.nodup_cons.1 hn
    have hD : D.testBit (r.getD k 0) = false := by simpa using hD
    have hne : r.getD k 0 ≠ b := fun h => hn'.1 (h ▸ mem_n hk)
    have ih := encS_in x r (bif xbit x k0 then D ||| 2 ^ b else D) (k0 + 1) k hn'.2 hk (by
      cases xbit x k0 with
      | true => rw [cond_true, Nat.testBit_or, hD, Nat.testBit_two_pow, decide_eq_false (Ne.symm hne)]; rfl
      | false => simpa using hD)
    show (encS x _ r (k0 + 1)).testBit (r.getD k 0) = _
    rw [ih]; congr 1; omega
theorem encD_out (c : Nat) : ∀ (l : List Sg) (r : List Int) (D : Nat), (∀ s ∈ l, c ∉ bitsL s) → (encD D l r).testBit c = D.testBit c
  | [], _, _, _ => by rw [encD_nil]
  | _ :: _, [], _, _ => rfl
  | s :: l, x :: r, D, h => by
    show (encD (encS x D (bitsL s) 0) l r).testBit c = _
    rw [encD_out c l r _ (fun t ht => h t (List.mem_cons_of_mem _ ht)), encS_out x c _ _ _ (h s List.mem_cons_self)]
/-- The signals' bits are apart. -/
def Apart : List Sg → Prop
  | [] => True
  | s :: l => (∀ t ∈ l, ∀ b ∈ bitsL s, b ∉ bitsL t) ∧ Apart l
theorem encD_in : ∀ (l : List Sg) (r : List Int) (D i k : Nat) (hi : i < l.length), Apart l → r.length = l.length → k < (bitsL l[i]).length → D.testBit ((bitsL l[i]).getD k 0) = false → (encD D l r).testBit ((bitsL l[i]).getD k 0) = xbit (r.getD i 0) k
  | [], _, _, _, _, hi, _, _, _, _ => by simp at hi
  | _ :: _, [], _, _, _, _, _, hl, _, _ => by simp at hl
  | s :: l, x :: r, D, 0, k, _, ha, _, hk, hD => by
    have hk : k < (bitsL s).length := hk
    have hD : D.testBit ((bitsL s).getD k 0) = false := hD
    show (encD (encS x D (bitsL s) 0) l r).testBit ((bitsL s).getD k 0) = xbit x k
    rw [encD_out _ l r _ (fun t ht => ha.1 t ht _ (mem_n hk)), encS_in x _ _ _ _ (bitsL_nodup s) hk hD, Nat.zero_add]
  | s :: l, x :: r, D, i + 1, k, hi, ha, hl, hk, hD => by
    have hi : i < l.length := by simpa using hi
    have hk : k < (bitsL l[i]).length := hk
    have hD : D.testBit ((bitsL l[i]).getD k 0) = false := hD
    have hn : (bitsL l[i]).getD k 0 ∉ bitsL s := fun h => ha.1 l[i] (List.getElem_mem hi) _ h (mem_n hk)
    show (encD (encS x D (bitsL s) 0) l r).testBit ((bitsL l[i]).getD k 0) = xbit (r.getD i 0) k
    exact encD_in l r _ i k hi ha.2 (by simpa using hl) hk (by rw [encS_out x _ _ _ _ hn]; exact hD)
theorem apart_of : ∀ (l : List Sg), (∀ i (h : i < l.length), ∀ x ∈ l.take i, ∀ b ∈ bitsL x, b ∉ bitsL l[i]) → Apart l
  | [], _ => trivial
  | s :: l, h => by
    refine ⟨fun t ht b hb => ?_, apart_of l fun i hi x hx => ?_⟩
    · obtain ⟨i, hi, rfl⟩ := List.mem_iff_getElem.1 ht
      exact h (i + 1) (by simpa using hi) s (by simp) b hb
    · have := h (i + 1) (by simpa using hi) x (by simp [hx])
      simpa using this
theorem Fm.val.apart {f : Fm} (hv : f.val) : Apart f.sgs := apart_of _ fun i h => clash_no (prE_0 (hv.sg i h)).2.2
theorem Fm.val.sok {f : Fm} (hv : f.val) {i : Nat} (h : i < f.sgs.length) : _root_.Go.Proofs.Ytcdclmelnnbdnaa.sok f.sgs[i] = true := (prE_0 (hv.sg i h)).1
/-- The bits of a number, gathered. -/
theorem gat_take (D n : Nat) (l : List Nat) (h : ∀ k, k < l.length → D.testBit (l.getD k 0) = n.testBit k) : ∀ k, k ≤ l.length → gatN D 0 (l.take k) = n % 2 ^ k
  | 0, _ => by simp [gatN, Nat.mod_one]
  | k + 1, hk => by
    have ih := gat_take D n l h k (by omega)
    have e : l.take (k + 1) = l.take k ++ [l.getD k 0] := by
      rw [List.take_add_one, List.getD_eq_getElem?_getD, List.getElem?_eq_getElem (by omega)]; simp
    rw [e, gatN_snoc, ih, mod_next, h k (by omega), List.length_take, Nat.min_eq_left (by omega), Nat.zero_add]
    cases n.testBit k <;> simp
theorem gat_all (D n : Nat) (l : List Nat) (h : ∀ k, k < l.length → D.testBit (l.getD k 0) = n.testBit k) (hn : n < 2 ^ l.length) : gatN D 0 l = n := by
  have := gat_take D n l h l.length (Nat.le_refl _)
  rw [List.take_length, Nat.mod_eq_of_lt hn] at this
  exact this
theorem rawV_enc {s : Sg} (h : _root_.Go.Proofs.Ytcdclmelnnbdnaa.sok s = true) {x : Int} (hx : inR x s.lo s.hi = true) (D : Nat) (hD : ∀ k, k < (bitsL s).length → D.testBit ((bitsL s).getD k 0) = xbit x k) : rawV s D = x := by
  have hu := uns_bd h hx
  have hln := bitsL_length h
  have hb := sok_bd h
  have hg : gatN D 0 (bitsL s) = (uns s x).toNat := by
    refine gat_all D _ _ (fun k hk => ?_) ?_
    · rw [hD k hk, uns_bit s x k (by omega), Nat.testBit_eq_decide_div_mod_eq, decide_eq_decide]
      have e : ((((uns s x).toNat / 2 ^ k % 2 : Nat)) : Int) = uns s x / 2 ^ k % 2 := by
        rw [Int.natCast_emod, Int.natCast_ediv, Int.toNat_of_nonneg hu.1, Int.natCast_pow]; rfl
      omega
    · rw [hln]
      have : ((2 ^ s.ln.toNat : Nat) : Int) = 2 ^ s.ln.toNat := by rw [Int.natCast_pow]; rfl
      omega
  have hgi : (gatN D 0 (bitsL s) : Int) = uns s x := by rw [hg]; omega
  have hxx := inR_iff.1 hx
  obtain ⟨n, hn⟩ : ∃ n, s.ln.toNat = n + 1 := ⟨s.ln.toNat - 1, by omega⟩
  have hs := h
  simp only [_root_.Go.Proofs.Ytcdclmelnnbdnaa.sok, Bool.and_eq_true, inR_iff, decide_eq_true_eq] at hs
  obtain ⟨_, _, _, _, _, _, h6, h7, h8⟩ := hs
  unfold lims at h6 h8
  rw [hn] at h6 h8
  have e2 : (2 : Int) ^ (n + 1) = 2 * 2 ^ n := by rw [Int.pow_succ]; omega
  have en : ((2 ^ n : Nat) : Int) = 2 ^ n := by rw [Int.natCast_pow]; rfl
  unfold rawV
  rw [hn, hgi, show n + 1 - 1 = n by omega]
  unfold uns at hgi hu ⊢
  rw [hn] at hgi hu ⊢
  rw [e2] at *
  have hp := (p2 (show n ≤ 32 by omega)).1
  cases hsg : s.sgn with
  | true =>
    rw [hsg] at h6 h8
    simp only [cond_true, show n + 1 - 1 = n by omega, Bool.true_and] at h6 h8 ⊢
    split at hgi
    · rw [if_pos (by assumption), tru_of (by omega)]; simp
    · rw [if_neg (by assumption), fal_of (by omega)]; simp
  | false =>
    rw [hsg] at h6 h8
    simp only [cond_false] at h6 h8
    simp only [Bool.false_and, cond_false]
    rw [if_neg (by omega)]
theorem permL_at : ∀ {l : List Sg} {r : List Int}, permL l r = true → r.length = l.length → ∀ i (h : i < l.length), inR (r.getD i 0) l[i].lo l[i].hi = true
  | [], _, _, _, i, h => by simp at h
  | _ :: _, [], _, hl, _, _ => by simp at hl
  | s :: l, x :: r, hp, hl, 0, _ => by
    have : (inR x s.lo s.hi && permL l r) = true := hp
    rw [Bool.and_eq_true] at this; exact this.1
  | s :: l, x :: r, hp, hl, i + 1, h => by
    have : (inR x s.lo s.hi && permL l r) = true := hp
    rw [Bool.and_eq_true] at this
    exact permL_at this.2 (by simpa using hl) i (by simpa using h)
/-- Data with the bits of the raw values give them back. -/
theorem dec_enc {f : Fm} (hv : f.val) {raws : List Int} (hl : raws.length = f.sgs.length) (hp : permL f.sgs raws = true) (D : Nat) (hD : ∀ i (h : i < f.sgs.length), ∀ b ∈ bitsL f.sgs[i], D.testBit b = (encD 0 f.sgs raws).testBit b) : decL D f.sgs = raws ∧ decOk D f.sgs = true := by
  have hr : ∀ i (h : i < f.sgs.length), rawV f.sgs[i] D = raws.getD i 0 := fun i h => by
    refine rawV_enc (hv.sok h) (permL_at hp hl i h) D fun k hk => ?_
    rw [hD i h _ (mem_n hk)]
    exact encD_in f.sgs raws 0 i k h hv.apart hl hk (by simp)
  constructor
  · refine List.ext_getElem (by simp [decL, hl]) fun i h1 h2 => ?_
    have h : i < f.sgs.length := by simpa [decL] using h1
    have := hr i h
    rw [List.getD_eq_getElem?_getD, List.getElem?_eq_getElem h2] at this
    simpa [decL] using this
  · refine List.all_eq_true.2 fun s hs => ?_
    obtain ⟨i, h, rfl⟩ := List.mem_iff_getElem.1 hs
    rw [hr i h]; exact permL_at hp hl i h
theorem bytes_bit (n D b : Nat) (hb : b / 8 < n) : (numL (bytesOf n D)).testBit b = D.testBit b := by
  rw [numL_bit _ (bytesOf_lt n D)]
  have e : (bytesOf n D).getD (b / 8) 0 = D / 2 ^ (8 * (b / 8)) % 256 := by
    rw [List.getD_eq_getElem?_getD, List.getElem?_eq_getElem (by rw [bytesOf_length]; exact hb)]
    simp [bytesOf]
  rw [e, byte_bit _ _ _ (Nat.mod_lt _ (by omega))]
  congr 1; omega
theorem nib_bit (a c i : Nat) (hc : c < 16) (hi : 4 ≤ i) : (a / 16 * 16 + c).testBit i = a.testBit i := by
  obtain ⟨j, rfl⟩ : ∃ j, i = j + 4 := ⟨i - 4, by omega⟩
  have e : ∀ x : Nat, x.testBit (j + 4) = (x / 16).testBit j := fun x => by
    rw [Nat.testBit_add]
  rw [e, e]
  congr 1; omega
theorem prot_bit (f : Fm) {u : List Nat} (hu : ∀ x ∈ u, x < 256) {c : Nat} (hc : c < 16) {b : Nat} (hb : 12 ≤ b) (h2 : 2 ≤ u.length) : (numL (prot f u c)).testBit b = (numL u).testBit b := by
  rw [numL_bit _ (prot_lt f hu hc), numL_bit _ hu]
  have e0 : (prot f u c).getD (b / 8) 0 = (prot1 u c).getD (b / 8) 0 := by
    unfold prot
    rw [List.getD_eq_getElem?_getD, List.getD_eq_getElem?_getD, List.getElem?_set_ne (by omega)]
  rw [e0]
  unfold prot1
  by_cases h : b / 8 = 1
  · rw [h, List.getD_eq_getElem?_getD, List.getElem?_set_self (by omega), Option.getD_some]
    exact nib_bit _ _ _ hc (by omega)
  · rw [List.getD_eq_getElem?_getD, List.getElem?_set_ne (by omega), ← List.getD_eq_getElem?_getD]
theorem phys_back {s : Sg} (hk : _root_.Go.Proofs.Ytcdclmelnnbdnaa.sok s = true) {x : Int} (hx : inR x s.lo s.hi = true) : phE s x = 0 ∧ phR s x = phV s x ∧ rwR s (phV s x) = (x, 0) := by
  have e1 : phE s x = 0 := by rw [phE, hk, hx]; rfl
  have ht := ty_ok hk
  have hw := ty_fin hk hx
  have hf := Fx.fok_bd ht
  have hb := Fx.fnu_bd ht hw
  have hg := Fx.gcd2_pos (Fx.fnu (tyS s) x) (tyS s).den (by omega)
  have hdv := Fx.gcd2_dvd (Fx.fnu (tyS s) x) (tyS s).den
  refine ⟨e1, by rw [phR, e1]; rfl, ?_⟩
  unfold rwR phV
  generalize hG : Fx.gcd2 (Fx.fnu (tyS s) x) (tyS s).den = g at *
  have m1 : Fx.fnu (tyS s) x / g * g = Fx.fnu (tyS s) x := Int.ediv_mul_cancel hdv.1
  have m2 : (tyS s).den / g * g = (tyS s).den := Int.ediv_mul_cancel hdv.2
  have q1 := Fx.quo_bd (Fx.fnu (tyS s) x) g hg
  have q2 := Fx.quo_bd (tyS s).den g hg
  have q3 : 0 < (tyS s).den / g := Int.ediv_pos_of_pos_of_dvd (by omega) (by omega) hdv.2
  generalize Fx.fnu (tyS s) x / g = n at *
  generalize (tyS s).den / g = d at *
  have hr : rokB (n, d) = true := by
    unfold rokB
    rw [decide_eq_true_eq]
    simp only
    omega
  have hE : exS3 s (n, d) = x := by
    unfold exS3 Fx.exV
    have e : n * (tyS s).den - (tyS s).off * d = x * (d * (tyS s).num) := by
      have : n * (tyS s).den = Fx.fnu (tyS s) x * d := by rw [← m1]; rw [← m2]; grind
      rw [this]; unfold Fx.fnu; grind
    have hp : 0 < d * (tyS s).num := Int.mul_pos (by omega) (by omega)
    simp only [e]
    unfold Fx.rnd
    rw [if_neg (by omega), if_neg (by omega)]
    refine Fx.ediv_eq (by omega) ?_ ?_
    · have : 2 * (d * (tyS s).num) * x = 2 * (x * (d * (tyS s).num)) := by grind
      omega
    · have : 2 * (d * (tyS s).num) * x = 2 * (x * (d * (tyS s).num)) := by grind
      omega
  rw [hr, hE, hk, hx]; rfl
theorem law_back (f : Fm) (hf0 : f.bd) (raws : List Int) (hr0 : raws.length ≤ 9223372036854775807) (hs0 : f.sgs.length ≤ 9223372036854775807) (c0 : Int) (hc0 : 0 ≤ c0 ∧ c0 ≤ 255) : CallOk Try.prog 11 [fm5 1 f, slV 2 raws.length, .c (.v (.int .u8 c0))] [bS 1 f.sgs, bZr 2 raws] (Bo true) [] := by
  have hM := clE2 f raws
  refine CallOk.mkN 100 Try.func11 rfl en11 (by simp [Try.ntmps11]) (ClA.of rfl) rfl rfl fun C hR hP => ?_
  simp (config := { maxSteps := 2000000 }) only [go_sem, Nat.reduceBEq, Nat.reduceAdd, Nat.reduceLT, Nat.reduceLeDiff, Nat.reduceEqDiff, reduceCtorEq, Int.reduceAdd, Int.reduceSub, Int.reduceNeg, Int.reduceLE, Int.reduceLT, Int.reduceToNat, Int.reduceBEq, Int.reduceBNe, Int.reduceEq, Int.reduceNe, Int.toNat_zero, Int.toNat_one, bne_self_eq_false, Nat.reduceMul, Nat.zero_mul, Nat.mul_one, Nat.one_mul, Nat.reduceSub, Int.cast_ofNat_Int, Int.toNat_natCast]
  refine CallQ.pure 110 lawake rfl ?_
  simp (config := { maxSteps := 2000000 }) only [go_sem, Nat.reduceBEq, Nat.reduceAdd, Nat.reduceLT, Nat.reduceLeDiff, Nat.reduceEqDiff, reduceCtorEq, Int.reduceAdd, Int.reduceSub, Int.reduceNeg, Int.reduceLE, Int.reduceLT, Int.reduceToNat, Int.reduceBEq, Int.reduceBNe, Int.reduceEq, Int.reduceNe, Int.toNat_zero, Int.toNat_one, bne_self_eq_false, Nat.reduceMul, Nat.zero_mul, Nat.mul_one, Nat.one_mul, Nat.reduceSub, Int.cast_ofNat_Int, Int.toNat_natCast]
  refine CallQ.ren [(1, 1)] 110 (lgreat f) (clS _) rfl rfl ⟨⟨_, rfl, .inl (renV (v_ss _))⟩, trivial⟩ rfl (.inr rfl) ?_
  simp (config := { maxSteps := 2000000 }) only [go_sem, Nat.reduceBEq, Nat.reduceAdd, Nat.reduceLT, Nat.reduceLeDiff, Nat.reduceEqDiff, reduceCtorEq, Int.reduceAdd, Int.reduceSub, Int.reduceNeg, Int.reduceLE, Int.reduceLT, Int.reduceToNat, Int.reduceBEq, Int.reduceBNe, Int.reduceEq, Int.reduceNe, Int.toNat_zero, Int.toNat_one, bne_self_eq_false, Nat.reduceMul, Nat.zero_mul, Nat.mul_one, Nat.one_mul, Nat.reduceSub, Int.cast_ofNat_Int, Int.toNat_natCast]
  refine mtch (fun hg => ?_) (fun hg => ?_)
  · exact RetQ.of hR rfl ⟨rfl, trivial⟩ rfl (SubS.sub ⟨⟨_, rfl, .inl rfl⟩, ⟨_, rfl, .inl rfl⟩, trivial⟩) hM (ClV.of rfl)
  · have hg : f.sgs.length ≤ 24 ∧ raws.length ≤ 24 := by simp at hg; omega
    have hf := hf0.ok (by omega)
    refine CallQ.ren [(1, 1), (2, 2), (3, 130)] 131 (fenc f hf raws (by omega)) hM rfl rfl ⟨⟨_, rfl, .inl (renV (v_ss _))⟩, ⟨_, rfl, .inl (renV (v_z _))⟩, trivial⟩ rfl (.inl rfl) ?_
    simp only [Mem.ren, List.map_cons, List.map_nil, Bk.ren, List.map_map, V.ren, W.ren, Cv.ren, rn, Nat.reduceBEq, cond_true, cond_false, Function.comp_def]
    simp (config := { maxSteps := 2000000 }) only [go_sem, Nat.reduceBEq, Nat.reduceAdd, Nat.reduceLT, Nat.reduceLeDiff, Nat.reduceEqDiff, reduceCtorEq, Int.reduceAdd, Int.reduceSub, Int.reduceNeg, Int.reduceLE, Int.reduceLT, Int.reduceToNat, Int.reduceBEq, Int.reduceBNe, Int.reduceEq, Int.reduceNe, Int.toNat_zero, Int.toNat_one, bne_self_eq_false, Nat.reduceMul, Nat.zero_mul, Nat.mul_one, Nat.one_mul, Nat.reduceSub, Int.cast_ofNat_Int, Int.toNat_natCast]
    refine mtch (fun hz => ?_) (fun hz => ?_)
    · have hz : encE f raws ≠ 0 := by simpa using hz
      have hb := encB_no hz
      exact RetQ.of hR rfl ⟨rfl, trivial⟩ (by rw [hb]; rfl) (SubS.sub ⟨⟨_, rfl, .inl rfl⟩, ⟨_, rfl, .inl rfl⟩, trivial⟩) hM (ClV.of rfl)
    · have hz : encE f raws = 0 := by simpa using hz
      obtain ⟨hv, hlr, hpm, hB⟩ := encE_0 hz
      have hfo : fok f = true := by
        cases h : fok f with
        | true => rfl
        | false => rw [encE, h] at hz; cases hz
      rw [hB]
      have hbl := bytesOf_length f.ln.toNat (encD 0 f.sgs raws)
      have hblt := bytesOf_lt f.ln.toNat (encD 0 f.sgs raws)
      have hln := hv.ln
      have hbit0 : ∀ i (h : i < f.sgs.length), ∀ b ∈ bitsL f.sgs[i], (numL (bytesOf f.ln.toNat (encD 0 f.sgs raws))).testBit b = (encD 0 f.sgs raws).testBit b := fun i h b hb => by
        have := bits64 hv h b hb
        exact bytes_bit _ _ _ (by omega)
      generalize hL : bytesOf f.ln.toNat (encD 0 f.sgs raws) = L at *
      have hlenL : (L.length : Int) = f.ln := by omega
      refine mtch (fun hgd => ?_) (fun hgd => ?_)
      · obtain ⟨c, hc⟩ : ∃ c : Nat, (IntKind.i64.wrap c0).tmod 15 = (c : Int) ∧ c < 15 := by
          rw [w64 (by omega) (by omega)]
          exact ⟨(c0.tmod 15).toNat, by rw [Int.tmod_eq_emod_of_nonneg hc0.1]; omega, by rw [Int.tmod_eq_emod_of_nonneg hc0.1]; omega⟩
        have h2 : 2 ≤ L.length := by have := hv.gd hgd; omega
        have hge : gE f L = 0 := by rw [gE, hfo, tru_of hlenL, hgd]; rfl
        have hpe : pcE f L (c : Int) = 0 := by rw [pcE, hge, show inR (c : Int) 0 14 = true from inR_iff.2 (by omega)]; rfl
        have hpb : pcB f L (c : Int) = prot f L c := by rw [pcB, hpe]; rfl
        have hpr := fprot f hf L hblt (by omega) (c : Int)
        rw [hpe, hpb] at hpr
        simp only [hc.1]
        refine CallQ.ren [(1, 1), (2, 130), (3, 140)] 141 hpr (clSU f L) rfl rfl ⟨⟨_, rfl, wkS _ _ _⟩, ⟨_, rfl, wkU _ _ _ _⟩, trivial⟩ rfl (.inl rfl) ?_
        simp only [Mem.ren, List.map_cons, List.map_nil, Bk.ren, List.map_map, V.ren, W.ren, Cv.ren, rn, Nat.reduceBEq, cond_true, cond_false, Function.comp_def]
        simp (config := { maxSteps := 2000000 }) only [go_sem, Nat.reduceBEq, Nat.reduceAdd, Nat.reduceLT, Nat.reduceLeDiff, Nat.reduceEqDiff, reduceCtorEq, Int.reduceAdd, Int.reduceSub, Int.reduceNeg, Int.reduceLE, Int.reduceLT, Int.reduceToNat, Int.reduceBEq, Int.reduceBNe, Int.reduceEq, Int.reduceNe, Int.toNat_zero, Int.toNat_one, bne_self_eq_false, Nat.reduceMul, Nat.zero_mul, Nat.mul_one, Nat.one_mul, Nat.reduceSub, Int.cast_ofNat_Int, Int.toNat_natCast]
        have hU := prot_lt f hblt (show c < 16 by omega)
        have hlenU : ((prot f L c).length : Int) = f.ln := by rw [prot_length]; exact hlenL
        have hbit : ∀ i (h : i < f.sgs.length), ∀ b ∈ bitsL f.sgs[i], (numL (prot f L c)).testBit b = (encD 0 f.sgs raws).testBit b := fun i h b hb => by
          have h12 : 12 ≤ b := by
            have := (prE_0 (hv.sg i h)).2.1
            unfold inG at this
            have := List.all_eq_true.1 this b hb
            rw [hgd] at this
            simp at this
            omega
          rw [prot_bit f hblt (by omega) h12 h2]
          exact hbit0 i h b hb
        generalize prot f L c = P at *
        have hdec := fdec f hf P hU (by omega)
        obtain ⟨hde, hdk⟩ := dec_enc hv hlr hpm (numL P) hbit
        have hdE : dcE f P = 0 := by rw [dcE, hfo, tru_of hlenU, hdk]; rfl
        have hdL : dcL f P = raws := by rw [dcL, hdE, hde]; rfl
        rw [hdE, hdL] at hdec
        refine CallQ.ren [(1, 1), (2, 140), (3, 150)] 151 hdec (clSU f P) rfl rfl ⟨⟨_, rfl, wkS _ _ _⟩, ⟨_, rfl, wkU _ _ _ _⟩, trivial⟩ rfl (.inl rfl) ?_
        simp only [Mem.ren, List.map_cons, List.map_nil, Bk.ren, List.map_map, V.ren, W.ren, Cv.ren, rn, Nat.reduceBEq, cond_true, cond_false, Function.comp_def]
        simp (config := { maxSteps := 2000000 }) only [go_sem, Nat.reduceBEq, Nat.reduceAdd, Nat.reduceLT, Nat.reduceLeDiff, Nat.reduceEqDiff, reduceCtorEq, Int.reduceAdd, Int.reduceSub, Int.reduceNeg, Int.reduceLE, Int.reduceLT, Int.reduceToNat, Int.reduceBEq, Int.reduceBNe, Int.reduceEq, Int.reduceNe, Int.toNat_zero, Int.toNat_one, bne_self_eq_false, Nat.reduceMul, Nat.zero_mul, Nat.mul_one, Nat.one_mul, Nat.reduceSub, Int.cast_ofNat_Int, Int.toNat_natCast]
        have heq := iequal raws raws (by omega) (by omega)
        simp only [decide_true] at heq
        refine CallQ.ren [(1, 150), (2, 2)] 151 heq (clZZ _ _) rfl rfl ⟨⟨_, rfl, wkZ _ _ _ _⟩, ⟨_, rfl, wkZ _ _ _ _⟩, trivial⟩ rfl (.inr rfl) ?_
        have hlq : ((P.length : Int) != f.ln) = false := by rw [hlenU]; simp
        simp (config := { maxSteps := 2000000 }) only [go_sem, Nat.reduceBEq, Nat.reduceAdd, Nat.reduceLT, Nat.reduceLeDiff, Nat.reduceEqDiff, reduceCtorEq, Int.reduceAdd, Int.reduceSub, Int.reduceNeg, Int.reduceLE, Int.reduceLT, Int.reduceToNat, Int.reduceBEq, Int.reduceBNe, Int.reduceEq, Int.reduceNe, Int.toNat_zero, Int.toNat_one, bne_self_eq_false, Nat.reduceMul, Nat.zero_mul, Nat.mul_one, Nat.one_mul, Nat.reduceSub, Int.cast_ofNat_Int, Int.toNat_natCast, hlq]
        refine Sm.loopM (M0 := [bS 1 f.sgs, bZr 2 raws]) (α := { i : Nat // i ≤ f.sgs.length }) hP (fun i => [(1, true, slV 2 raws.length), (75, true, .c (.sl 1 0 f.sgs.length 10)), (76, true, I f.sgs.length), (77, true, I i.val)])
          (fun _ => [bS 1 f.sgs, bZr 2 raws]) (fun i => f.sgs.length - i.val) ⟨0, by simp⟩ (fun _ => ClM.of (by simp only [List.all_cons, inMV (v_ss _), inMV (v_z _)]; rfl)) (fun _ => ClE.of rfl) [(1, 1), (2, 2)] ?_ ?_
        · exact ⟨rfl, ⟨⟨rfl, rfl⟩, ⟨rfl, rfl⟩, trivial⟩, ⟨rfl, rfl, rfl, rfl, trivial⟩, ⟨.inr ⟨_, rfl, .inl (renV (v_ss _))⟩, .inr ⟨_, rfl, .inl (renV (v_z _))⟩, trivial⟩⟩
        · rintro ⟨i, hi⟩ J hb
          simp only at hb hi ⊢
          refine Sm.go 140 ?_
          simp (config := { maxSteps := 2000000 }) only [go_sem, Nat.reduceBEq, Nat.reduceAdd, Nat.reduceLT, Nat.reduceLeDiff, Nat.reduceEqDiff, reduceCtorEq, Int.reduceAdd, Int.reduceSub, Int.reduceNeg, Int.reduceLE, Int.reduceLT, Int.reduceToNat, Int.reduceBEq, Int.reduceBNe, Int.reduceEq, Int.reduceNe, Int.toNat_zero, Int.toNat_one, bne_self_eq_false, Nat.reduceMul, Nat.zero_mul, Nat.mul_one, Nat.one_mul, Nat.reduceSub, Int.cast_ofNat_Int, Int.toNat_natCast]
          refine mtch (fun hc => ?_) (fun hc => ?_)
          · have hc : i < f.sgs.length := by simp at hc; omega
            have hcr : i < raws.length := by omega
            have htk := ss_take f.sgs i hc
            have hk := hv.sok hc
            have hin := permL_at hpm hlr i hc
            have hsn := hf.s f.sgs[i] (List.getElem_mem hc)
            generalize f.sgs[i] = s at *
            simp only [htk]
            refine ⟨⟨by omega, by omega⟩, by rw [ss_len]; omega, ?_⟩
            simp (config := { maxSteps := 2000000 }) only [go_sem, Nat.reduceBEq, Nat.reduceAdd, Nat.reduceLT, Nat.reduceLeDiff, Nat.reduceEqDiff, reduceCtorEq, Int.reduceAdd, Int.reduceSub, Int.reduceNeg, Int.reduceLE, Int.reduceLT, Int.reduceToNat, Int.reduceBEq, Int.reduceBNe, Int.reduceEq, Int.reduceNe, Int.toNat_zero, Int.toNat_one, bne_self_eq_false, Nat.reduceMul, Nat.zero_mul, Nat.mul_one, Nat.one_mul, Nat.reduceSub, Int.cast_ofNat_Int, Int.toNat_natCast]
            refine Sm.dgo 150 11 mix (by decide +kernel) (by decide +kernel) ?_
            have hgz := get_z hcr
            simp (config := { maxSteps := 2000000 }) only [go_sem, Nat.reduceBEq, Nat.reduceAdd, Nat.reduceLT, Nat.reduceLeDiff, Nat.reduceEqDiff, reduceCtorEq, Int.reduceAdd, Int.reduceSub, Int.reduceNeg, Int.reduceLE, Int.reduceLT, Int.reduceToNat, Int.reduceBEq, Int.reduceBNe, Int.reduceEq, Int.reduceNe, Int.toNat_zero, Int.toNat_one, bne_self_eq_false, Nat.reduceMul, Nat.zero_mul, Nat.mul_one, Nat.one_mul, Nat.reduceSub, Int.cast_ofNat_Int, Int.toNat_natCast, hgz]
            generalize raws.getD i 0 = x at *
            obtain ⟨p1, p2, p3⟩ := phys_back hk hin
            refine ⟨⟨by omega, by omega⟩, ?_⟩
            have hph := fphys s hsn x
            rw [p1, p2] at hph
            have hrw := fraw s hsn (phV s x)
            rw [p3] at hrw
            generalize phV s x = q at *
            refine DCallQ.pure 150 hph rfl ?_
            simp (config := { maxSteps := 2000000 }) only [go_sem, Nat.reduceBEq, Nat.reduceAdd, Nat.reduceLT, Nat.reduceLeDiff, Nat.reduceEqDiff, reduceCtorEq, Int.reduceAdd, Int.reduceSub, Int.reduceNeg, Int.reduceLE, Int.reduceLT, Int.reduceToNat, Int.reduceBEq, Int.reduceBNe, Int.reduceEq, Int.reduceNe, Int.toNat_zero, Int.toNat_one, bne_self_eq_false, Nat.reduceMul, Nat.zero_mul, Nat.mul_one, Nat.one_mul, Nat.reduceSub, Int.cast_ofNat_Int, Int.toNat_natCast]
            refine CallQ.pure 160 hrw rfl ?_
            simp (config := { maxSteps := 2000000 }) only [go_sem, Nat.reduceBEq, Nat.reduceAdd, Nat.reduceLT, Nat.reduceLeDiff, Nat.reduceEqDiff, reduceCtorEq, Int.reduceAdd, Int.reduceSub, Int.reduceNeg, Int.reduceLE, Int.reduceLT, Int.reduceToNat, Int.reduceBEq, Int.reduceBNe, Int.reduceEq, Int.reduceNe, Int.toNat_zero, Int.toNat_one, bne_self_eq_false, Nat.reduceMul, Nat.zero_mul, Nat.mul_one, Nat.one_mul, Nat.reduceSub, Int.cast_ofNat_Int, Int.toNat_natCast, hgz]
            have w1 : IntKind.i64.wrap ((i : Int) + 1) = ((i + 1 : Nat) : Int) := by rw [w64 (by omega) (by omega)]; omega
            simp only [w1]
            refine ⟨⟨by omega, by omega⟩, ?_⟩
            exact hb _ _ ⟨i + 1, hc⟩ [(1, 1), (2, 2)] (by simp only; omega) ⟨rfl, ⟨⟨rfl, rfl⟩, ⟨rfl, rfl⟩, trivial⟩, ⟨rfl, rfl, rfl, rfl, trivial⟩, ⟨.inr ⟨_, rfl, .inl (renV (v_ss _))⟩, .inr ⟨_, rfl, .inl (renV (v_z _))⟩, trivial⟩⟩
          · exact RetQ.of hR rfl ⟨rfl, trivial⟩ rfl (SubS.sub ⟨⟨_, rfl, .inl rfl⟩, ⟨_, rfl, .inl rfl⟩, trivial⟩) hM (ClV.of rfl)
      · have hU := hblt
        have hlenU := hlenL
        have hbit := hbit0
        have hdec := fdec f hf L hU (by omega)
        obtain ⟨hde, hdk⟩ := dec_enc hv hlr hpm (numL L) hbit
        have hdE : dcE f L = 0 := by rw [dcE, hfo, tru_of hlenU, hdk]; rfl
        have hdL : dcL f L = raws := by rw [dcL, hdE, hde]; rfl
        rw [hdE, hdL] at hdec
        refine CallQ.ren [(1, 1), (2, 130), (3, 150)] 151 hdec (clSU f L) rfl rfl ⟨⟨_, rfl, wkS _ _ _⟩, ⟨_, rfl, wkU _ _ _ _⟩, trivial⟩ rfl (.inl rfl) ?_
        simp only [Mem.ren, List.map_cons, List.map_nil, Bk.ren, List.map_map, V.ren, W.ren, Cv.ren, rn, Nat.reduceBEq, cond_true, cond_false, Function.comp_def]
        simp (config := { maxSteps := 2000000 }) only [go_sem, Nat.reduceBEq, Nat.reduceAdd, Nat.reduceLT, Nat.reduceLeDiff, Nat.reduceEqDiff, reduceCtorEq, Int.reduceAdd, Int.reduceSub, Int.reduceNeg, Int.reduceLE, Int.reduceLT, Int.reduceToNat, Int.reduceBEq, Int.reduceBNe, Int.reduceEq, Int.reduceNe, Int.toNat_zero, Int.toNat_one, bne_self_eq_false, Nat.reduceMul, Nat.zero_mul, Nat.mul_one, Nat.one_mul, Nat.reduceSub, Int.cast_ofNat_Int, Int.toNat_natCast]
        have heq := iequal raws raws (by omega) (by omega)
        simp only [decide_true] at heq
        refine CallQ.ren [(1, 150), (2, 2)] 151 heq (clZZ _ _) rfl rfl ⟨⟨_, rfl, wkZ _ _ _ _⟩, ⟨_, rfl, wkZ _ _ _ _⟩, trivial⟩ rfl (.inr rfl) ?_
        have hlq : ((L.length : Int) != f.ln) = false := by rw [hlenU]; simp
        simp (config := { maxSteps := 2000000 }) only [go_sem, Nat.reduceBEq, Nat.reduceAdd, Nat.reduceLT, Nat.reduceLeDiff, Nat.reduceEqDiff, reduceCtorEq, Int.reduceAdd, Int.reduceSub, Int.reduceNeg, Int.reduceLE, Int.reduceLT, Int.reduceToNat, Int.reduceBEq, Int.reduceBNe, Int.reduceEq, Int.reduceNe, Int.toNat_zero, Int.toNat_one, bne_self_eq_false, Nat.reduceMul, Nat.zero_mul, Nat.mul_one, Nat.one_mul, Nat.reduceSub, Int.cast_ofNat_Int, Int.toNat_natCast, hlq]
        refine Sm.loopM (M0 := [bS 1 f.sgs, bZr 2 raws]) (α := { i : Nat // i ≤ f.sgs.length }) hP (fun i => [(1, true, slV 2 raws.length), (75, true, .c (.sl 1 0 f.sgs.length 10)), (76, true, I f.sgs.length), (77, true, I i.val)])
          (fun _ => [bS 1 f.sgs, bZr 2 raws]) (fun i => f.sgs.length - i.val) ⟨0, by simp⟩ (fun _ => ClM.of (by simp only [List.all_cons, inMV (v_ss _), inMV (v_z _)]; rfl)) (fun _ => ClE.of rfl) [(1, 1), (2, 2)] ?_ ?_
        · exact ⟨rfl, ⟨⟨rfl, rfl⟩, ⟨rfl, rfl⟩, trivial⟩, ⟨rfl, rfl, rfl, rfl, trivial⟩, ⟨.inr ⟨_, rfl, .inl (renV (v_ss _))⟩, .inr ⟨_, rfl, .inl (renV (v_z _))⟩, trivial⟩⟩
        · rintro ⟨i, hi⟩ J hb
          simp only at hb hi ⊢
          refine Sm.go 140 ?_
          simp (config := { maxSteps := 2000000 }) only [go_sem, Nat.reduceBEq, Nat.reduceAdd, Nat.reduceLT, Nat.reduceLeDiff, Nat.reduceEqDiff, reduceCtorEq, Int.reduceAdd, Int.reduceSub, Int.reduceNeg, Int.reduceLE, Int.reduceLT, Int.reduceToNat, Int.reduceBEq, Int.reduceBNe, Int.reduceEq, Int.reduceNe, Int.toNat_zero, Int.toNat_one, bne_self_eq_false, Nat.reduceMul, Nat.zero_mul, Nat.mul_one, Nat.one_mul, Nat.reduceSub, Int.cast_ofNat_Int, Int.toNat_natCast]
          refine mtch (fun hc => ?_) (fun hc => ?_)
          · have hc : i < f.sgs.length := by simp at hc; omega
            have hcr : i < raws.length := by omega
            have htk := ss_take f.sgs i hc
            have hk := hv.sok hc
            have hin := permL_at hpm hlr i hc
            have hsn := hf.s f.sgs[i] (List.getElem_mem hc)
            generalize f.sgs[i] = s at *
            simp only [htk]
            refine ⟨⟨by omega, by omega⟩, by rw [ss_len]; omega, ?_⟩
            simp (config := { maxSteps := 2000000 }) only [go_sem, Nat.reduceBEq, Nat.reduceAdd, Nat.reduceLT, Nat.reduceLeDiff, Nat.reduceEqDiff, reduceCtorEq, Int.reduceAdd, Int.reduceSub, Int.reduceNeg, Int.reduceLE, Int.reduceLT, Int.reduceToNat, Int.reduceBEq, Int.reduceBNe, Int.reduceEq, Int.reduceNe, Int.toNat_zero, Int.toNat_one, bne_self_eq_false, Nat.reduceMul, Nat.zero_mul, Nat.mul_one, Nat.one_mul, Nat.reduceSub, Int.cast_ofNat_Int, Int.toNat_natCast]
            refine Sm.dgo 150 11 mix (by decide +kernel) (by decide +kernel) ?_
            have hgz := get_z hcr
            simp (config := { maxSteps := 2000000 }) only [go_sem, Nat.reduceBEq, Nat.reduceAdd, Nat.reduceLT, Nat.reduceLeDiff, Nat.reduceEqDiff, reduceCtorEq, Int.reduceAdd, Int.reduceSub, Int.reduceNeg, Int.reduceLE, Int.reduceLT, Int.reduceToNat, Int.reduceBEq, Int.reduceBNe, Int.reduceEq, Int.reduceNe, Int.toNat_zero, Int.toNat_one, bne_self_eq_false, Nat.reduceMul, Nat.zero_mul, Nat.mul_one, Nat.one_mul, Nat.reduceSub, Int.cast_ofNat_Int, Int.toNat_natCast, hgz]
            generalize raws.getD i 0 = x at *
            obtain ⟨p1, p2, p3⟩ := phys_back hk hin
            refine ⟨⟨by omega, by omega⟩, ?_⟩
            have hph := fphys s hsn x
            rw [p1, p2] at hph
            have hrw := fraw s hsn (phV s x)
            rw [p3] at hrw
            generalize phV s x = q at *
            refine DCallQ.pure 150 hph rfl ?_
            simp (config := { maxSteps := 2000000 }) only [go_sem, Nat.reduceBEq, Nat.reduceAdd, Nat.reduceLT, Nat.reduceLeDiff, Nat.reduceEqDiff, reduceCtorEq, Int.reduceAdd, Int.reduceSub, Int.reduceNeg, Int.reduceLE, Int.reduceLT, Int.reduceToNat, Int.reduceBEq, Int.reduceBNe, Int.reduceEq, Int.reduceNe, Int.toNat_zero, Int.toNat_one, bne_self_eq_false, Nat.reduceMul, Nat.zero_mul, Nat.mul_one, Nat.one_mul, Nat.reduceSub, Int.cast_ofNat_Int, Int.toNat_natCast]
            refine CallQ.pure 160 hrw rfl ?_
            simp (config := { maxSteps := 2000000 }) only [go_sem, Nat.reduceBEq, Nat.reduceAdd, Nat.reduceLT, Nat.reduceLeDiff, Nat.reduceEqDiff, reduceCtorEq, Int.reduceAdd, Int.reduceSub, Int.reduceNeg, Int.reduceLE, Int.reduceLT, Int.reduceToNat, Int.reduceBEq, Int.reduceBNe, Int.reduceEq, Int.reduceNe, Int.toNat_zero, Int.toNat_one, bne_self_eq_false, Nat.reduceMul, Nat.zero_mul, Nat.mul_one, Nat.one_mul, Nat.reduceSub, Int.cast_ofNat_Int, Int.toNat_natCast, hgz]
            have w1 : IntKind.i64.wrap ((i : Int) + 1) = ((i + 1 : Nat) : Int) := by rw [w64 (by omega) (by omega)]; omega
            simp only [w1]
            refine ⟨⟨by omega, by omega⟩, ?_⟩
            exact hb _ _ ⟨i + 1, hc⟩ [(1, 1), (2, 2)] (by simp only; omega) ⟨rfl, ⟨⟨rfl, rfl⟩, ⟨rfl, rfl⟩, trivial⟩, ⟨rfl, rfl, rfl, rfl, trivial⟩, ⟨.inr ⟨_, rfl, .inl (renV (v_ss _))⟩, .inr ⟨_, rfl, .inl (renV (v_z _))⟩, trivial⟩⟩
          · exact RetQ.of hR rfl ⟨rfl, trivial⟩ rfl (SubS.sub ⟨⟨_, rfl, .inl rfl⟩, ⟨_, rfl, .inl rfl⟩, trivial⟩) hM (ClV.of rfl)
end Go.Proofs.Ytcdclmelnnbdnaa
