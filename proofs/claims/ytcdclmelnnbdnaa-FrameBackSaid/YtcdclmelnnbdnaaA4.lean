/- Frame: the bits of a signal. -/
import Derived.Test.YtcdclmelnnbdnaaA3
import Derived.Test.YtcdclmelnnbdnaaA0
namespace Go.Proofs.Ytcdclmelnnbdnaa
open Vg Tf
set_option linter.unusedSimpArgs false
set_option linter.unusedVariables false
set_option maxRecDepth 100000
set_option maxHeartbeats 4000000
abbrev cn (d : Nat) : Cv := .v (.int .i64 (d : Int))
theorem renV {ρ : Nat → Nat} {r : Bool} {l : List Cv} {t : TypeId} (h : l.all Cv.isV = true) : (⟨r, l, t⟩ : Bk).ren ρ = ⟨r, l, t⟩ := by
  have : l.map (Cv.ren ρ) = l := by
    conv => rhs; rw [← List.map_id l]
    refine List.map_congr_left fun x hx => ?_
    have := List.all_eq_true.1 h x hx
    cases x <;> first | rfl | cases this
  simp only [Bk.ren, this]
theorem inMV {M : Mem} {l : List Cv} (h : l.all Cv.isV = true) : l.all (Cv.inM M) = true := by
  rw [List.all_eq_true] at h ⊢
  intro x hx
  have := h x hx
  cases x <;> first | rfl | cases this
theorem v_n (l : List Nat) : (l.map cn).all Cv.isV = true := by simp [Cv.isV]
theorem v_i (l : List Int) : (l.map ci).all Cv.isV = true := by simp [Cv.isV, ci]
theorem v_b (l : List UInt8) : (l.map bycell).all Cv.isV = true := by simp [Cv.isV, bycell]
theorem v_s (s : Sg) : (sgL s).all Cv.isV = true := rfl
theorem v_ss (l : List Sg) : (l.flatMap sgL).all Cv.isV = true := by
  rw [List.all_eq_true]
  intro x hx
  obtain ⟨s, _, hs⟩ := List.mem_flatMap.1 hx
  exact List.all_eq_true.1 (v_s s) x hs
theorem get_n {l : List Nat} {i : Nat} (h : i < l.length) : (l.map cn)[i]? = some (cn (l.getD i 0)) := by
  rw [List.getElem?_map, List.getD_eq_getElem?_getD, List.getElem?_eq_getElem h]; rfl
/-- The place of a bit in the order of Motorola, and back. -/
def fm (p : Nat) : Nat := 8 * (p / 8) + (7 - p % 8)
theorem fm_fm (p : Nat) : fm (fm p) = p := by unfold fm; omega
theorem fm_next (p : Nat) : fm (p + 1) = if fm p % 8 = 0 then fm p + 15 else fm p - 1 := by unfold fm; split <;> omega
theorem fm_le (p : Nat) : fm p ≤ p + 7 := by unfold fm; omega
/-- The first n bits of a signal, in the order in which they are found. -/
def bitW (mot : Bool) (st : Nat) (n : Nat) : List Nat := (List.range n).map fun i => bif mot then fm (fm st + i) else st + i
theorem bitW_succ (mot : Bool) (st n : Nat) : bitW mot st (n + 1) = bitW mot st n ++ [bif mot then fm (fm st + n) else st + n] := by
  simp [bitW, List.range_succ]
theorem bitW_length (mot : Bool) (st n : Nat) : (bitW mot st n).length = n := by simp [bitW]
def bitsL (s : Sg) : List Nat := bif sok s then (bif s.mot then (bitW true s.st.toNat s.ln.toNat).reverse else bitW false s.st.toNat s.ln.toNat) else []
theorem sok_bd {s : Sg} (h : sok s = true) : (1 ≤ s.ln ∧ s.ln ≤ 32) ∧ (0 ≤ s.st ∧ s.st ≤ 63) := by
  simp only [sok, inR, Bool.and_eq_true, decide_eq_true_eq] at h
  exact ⟨h.2.1, h.2.2.1⟩
theorem bitsL_length {s : Sg} (h : sok s = true) : (bitsL s).length = s.ln.toNat := by
  unfold bitsL
  rw [h, cond_true]
  cases s.mot <;> simp [bitW_length]
def bN (nm : Nat) (l : List Nat) : Nat × Bk := (nm, ⟨false, l.map cn, 3⟩)
def bNr (nm : Nat) (l : List Nat) : Nat × Bk := (nm, ⟨true, l.map cn, 3⟩)
attribute [reducible] bN bNr
theorem clN (nm : Nat) (l : List Nat) : ClM [bN nm l] := ClM.v (by simp only [List.all_cons, v_n]; rfl)
theorem clNr (nm : Nat) (l : List Nat) : ClM [bNr nm l] := ClM.v (by simp only [List.all_cons, v_n]; rfl)
abbrev slV (nm n : Nat) : V := .c (.sl nm 0 n 1)
theorem srev (l : List Nat) (hl : l.length ≤ 9223372036854775807) : CallOk Try.prog 45 [slV 1 l.length] [bN 1 l] (.tup []) [bN 1 l.reverse] := by
  have h := srevZ (l.map fun d : Nat => (d : Int)) (by simpa using hl)
  simpa [Function.comp_def, ← List.map_reverse] using h
@[go_sem ↓] theorem plS11 : plS 1 1 = [(0, 1)] := rfl
@[go_sem, reducible] def sbM (s : Sg) (l : List Nat) : Mem := [(4, ⟨false, sgL s, 33⟩), (5, ⟨false, l.map cn, 3⟩)]
@[go_sem, reducible] def sbE (s : Sg) (i b : Nat) : Env := [(1, true, .c (.p 4 0)), (3, true, slV 5 i), (4, true, I b), (11, true, I s.ln), (12, true, I i)]
theorem sbits (s : Sg) (hs : s.nm.data.toList.length ≤ 9223372036854775807) : CallOk Try.prog 20 [sg s] [] (slV 1 (bitsL s).length) [bN 1 (bitsL s)] := by
  refine CallOk.mkN 100 Try.func20 rfl en20 (by simp [Try.ntmps20]) (ClA.of rfl) rfl rfl fun C hR hP => ?_
  simp (config := { maxSteps := 2000000 }) only [go_sem, Nat.reduceBEq, Nat.reduceAdd, Nat.reduceLT, Nat.reduceLeDiff, Nat.reduceEqDiff, reduceCtorEq, Int.reduceAdd, Int.reduceSub, Int.reduceNeg, Int.reduceLE, Int.reduceLT, Int.reduceToNat, Int.reduceBEq, Int.reduceBNe, Int.reduceEq, Int.reduceNe, Int.toNat_zero, Int.toNat_one, bne_self_eq_false, Nat.reduceMul, Nat.zero_mul, Nat.mul_one, Nat.one_mul, Nat.reduceSub, Int.cast_ofNat_Int, Int.toNat_natCast]
  refine CallQ.pure 110 (svalid s hs) rfl ?_
  simp (config := { maxSteps := 2000000 }) only [go_sem, Nat.reduceBEq, Nat.reduceAdd, Nat.reduceLT, Nat.reduceLeDiff, Nat.reduceEqDiff, reduceCtorEq, Int.reduceAdd, Int.reduceSub, Int.reduceNeg, Int.reduceLE, Int.reduceLT, Int.reduceToNat, Int.reduceBEq, Int.reduceBNe, Int.reduceEq, Int.reduceNe, Int.toNat_zero, Int.toNat_one, bne_self_eq_false, Nat.reduceMul, Nat.zero_mul, Nat.mul_one, Nat.one_mul, Nat.reduceSub, Int.cast_ofNat_Int, Int.toNat_natCast]
  refine mtch (fun h => ?_) (fun h => ?_)
  · have e : bitsL s = [] := by unfold bitsL; rw [show sok s = false by simpa using h]; rfl
    rw [e] at hR
    refine RetQ.nils 110 1 3 [2] [] rfl ?_
    simp (config := { maxSteps := 2000000 }) only [go_sem, Nat.reduceBEq, Nat.reduceAdd, Nat.reduceLT, Nat.reduceLeDiff, Nat.reduceEqDiff, reduceCtorEq, Int.reduceAdd, Int.reduceSub, Int.reduceNeg, Int.reduceLE, Int.reduceLT, Int.reduceToNat, Int.reduceBEq, Int.reduceBNe, Int.reduceEq, Int.reduceNe, Int.toNat_zero, Int.toNat_one, bne_self_eq_false, Nat.reduceMul, Nat.zero_mul, Nat.mul_one, Nat.one_mul, Nat.reduceSub, Int.cast_ofNat_Int, Int.toNat_natCast]
    exact RetQ.ren [(1, 110)] hR hP rfl (by simp (config := { maxSteps := 2000000 }) only [go_sem, Nat.reduceBEq, Nat.reduceAdd, Nat.reduceLT, Nat.reduceLeDiff, Nat.reduceEqDiff, reduceCtorEq, Int.reduceAdd, Int.reduceSub, Int.reduceNeg, Int.reduceLE, Int.reduceLT, Int.reduceToNat, Int.reduceBEq, Int.reduceBNe, Int.reduceEq, Int.reduceNe, Int.toNat_zero, Int.toNat_one, bne_self_eq_false, Nat.reduceMul, Nat.zero_mul, Nat.mul_one, Nat.one_mul, Nat.reduceSub, Int.cast_ofNat_Int, Int.toNat_natCast]) rfl rfl trivial ⟨.inr ⟨_, rfl, .inl rfl⟩, trivial⟩ (ClM.of rfl) (ClV.of rfl)
  · have hk : sok s = true := by simpa using h
    obtain ⟨k1, k2⟩ := sok_bd hk
    obtain ⟨n, hn⟩ := Int.eq_ofNat_of_zero_le (show 0 ≤ s.ln by omega)
    obtain ⟨b0, hb0⟩ := Int.eq_ofNat_of_zero_le k2.1
    have hbl : bitsL s = bif s.mot then (bitW true b0 n).reverse else bitW false b0 n := by
      unfold bitsL; rw [hk, cond_true, hn, hb0, Int.toNat_natCast, Int.toNat_natCast]
    have hb0' : b0 ≤ 63 := by omega
    have hn' : n ≤ 32 := by omega
    refine Sm.nils 110 1 3 [3] [] rfl ?_
    simp (config := { maxSteps := 2000000 }) only [go_sem, Nat.reduceBEq, Nat.reduceAdd, Nat.reduceLT, Nat.reduceLeDiff, Nat.reduceEqDiff, reduceCtorEq, Int.reduceAdd, Int.reduceSub, Int.reduceNeg, Int.reduceLE, Int.reduceLT, Int.reduceToNat, Int.reduceBEq, Int.reduceBNe, Int.reduceEq, Int.reduceNe, Int.toNat_zero, Int.toNat_one, bne_self_eq_false, Nat.reduceMul, Nat.zero_mul, Nat.mul_one, Nat.one_mul, Nat.reduceSub, Int.cast_ofNat_Int, Int.toNat_natCast]
    refine Sm.loopM (M0 := []) (α := { i : Nat // i ≤ n }) hP (fun i => sbE s i.val (bif s.mot then fm (fm b0 + i.val) else b0 + i.val)) (fun i => sbM s (bitW s.mot b0 i.val)) (fun i => n - i.val) ⟨0, by omega⟩ (fun _ => ClM.v (by simp only [List.all_cons, v_n, v_s]; rfl)) (fun _ => ClE.of rfl) [(4, 100), (5, 110)] ?_ ?_
    · have e0 : (((bif s.mot then fm (fm b0 + 0) else b0 + 0) : Nat) : Int) = s.st := by rw [hb0]; cases s.mot <;> simp [fm_fm]
      simp only [sbE, e0]
      exact ⟨rfl, trivial, ⟨rfl, rfl, rfl, rfl, rfl, trivial⟩, ⟨.inr ⟨_, rfl, .inl rfl⟩, .inr ⟨_, rfl, .inl rfl⟩, trivial⟩⟩
    · rintro ⟨i, hi⟩ J hb
      simp only at hb ⊢
      refine Sm.go 120 ?_
      simp (config := { maxSteps := 2000000 }) only [go_sem, Nat.reduceBEq, Nat.reduceAdd, Nat.reduceLT, Nat.reduceLeDiff, Nat.reduceEqDiff, reduceCtorEq, Int.reduceAdd, Int.reduceSub, Int.reduceNeg, Int.reduceLE, Int.reduceLT, Int.reduceToNat, Int.reduceBEq, Int.reduceBNe, Int.reduceEq, Int.reduceNe, Int.toNat_zero, Int.toNat_one, bne_self_eq_false, Nat.reduceMul, Nat.zero_mul, Nat.mul_one, Nat.one_mul, Nat.reduceSub, Int.cast_ofNat_Int, Int.toNat_natCast]
      refine mtch (fun hc => ?_) (fun hc => ?_)
      · have hc : i < n := by simp at hc; omega
        have htk : List.take i (List.map cn (bitW s.mot b0 i)) = List.map cn (bitW s.mot b0 i) := List.take_of_length_le (by simp [bitW_length])
        have hap : List.map cn (bitW s.mot b0 i) ++ [cn (bif s.mot then fm (fm b0 + i) else b0 + i)] = List.map cn (bitW s.mot b0 (i + 1)) := by
          rw [bitW_succ, List.map_append]; cases s.mot <;> rfl
        have hap' : List.take i (List.map cn (bitW s.mot b0 i)) ++ [cn (bif s.mot then fm (fm b0 + i) else b0 + i)] = List.map cn (bitW s.mot b0 (i + 1)) := by rw [htk, hap]
        have w1 : IntKind.i64.wrap ((i : Int) + 1) = ((i + 1 : Nat) : Int) := by rw [w64 (by omega) (by omega)]; omega
        simp only [hap', w1]
        refine ⟨⟨by simp [bitW_length], by omega, by omega⟩, ?_⟩
        have hq : n - (i + 1) < n - i := by omega
        refine mtch (fun hm => ?_) (fun hm => ?_)
        · have hm : s.mot = false := by simpa using hm
          have e4 : IntKind.i64.wrap (((bif s.mot then fm (fm b0 + i) else b0 + i : Nat) : Int) + 1) = ((bif s.mot then fm (fm b0 + (i + 1)) else b0 + (i + 1) : Nat) : Int) := by
            rw [hm, cond_false, cond_false, w64 (by omega) (by omega)]; omega
          simp only [e4]
          exact hb _ _ ⟨i + 1, hc⟩ [(4, 4), (5, 121)] hq ⟨rfl, trivial, ⟨rfl, rfl, rfl, rfl, rfl, trivial⟩, ⟨.inr ⟨_, rfl, .inl rfl⟩, .inr ⟨_, rfl, .inl (renV (v_n _))⟩, trivial⟩⟩
        · have hm : s.mot = true := by simpa using hm
          have hx := fm_next (fm b0 + i)
          have hl := fm_le (fm b0 + i)
          have hl0 := fm_le b0
          have e3 : (((bif s.mot then fm (fm b0 + i) else b0 + i : Nat) : Int).tmod 8 == 0) = decide (fm (fm b0 + i) % 8 = 0) := by
            rw [hm, cond_true, Int.tmod_eq_emod_of_nonneg (by omega), Bool.eq_iff_iff]
            simp only [beq_iff_eq, decide_eq_true_eq]; omega
          simp only [e3]
          refine mtch (fun hz => ?_) (fun hz => ?_)
          · rw [decide_eq_true_eq] at hz
            rw [if_pos hz] at hx
            have e4 : IntKind.i64.wrap (((bif s.mot then fm (fm b0 + i) else b0 + i : Nat) : Int) + 15) = ((bif s.mot then fm (fm b0 + (i + 1)) else b0 + (i + 1) : Nat) : Int) := by
              rw [hm, cond_true, cond_true, ← Nat.add_assoc, hx, w64 (by omega) (by omega)]; omega
            simp only [e4]
            exact hb _ _ ⟨i + 1, hc⟩ [(4, 4), (5, 121)] hq ⟨rfl, trivial, ⟨rfl, rfl, rfl, rfl, rfl, trivial⟩, ⟨.inr ⟨_, rfl, .inl rfl⟩, .inr ⟨_, rfl, .inl (renV (v_n _))⟩, trivial⟩⟩
          · rw [decide_eq_false_iff_not] at hz
            rw [if_neg hz] at hx
            have e4 : IntKind.i64.wrap (((bif s.mot then fm (fm b0 + i) else b0 + i : Nat) : Int) - 1) = ((bif s.mot then fm (fm b0 + (i + 1)) else b0 + (i + 1) : Nat) : Int) := by
              rw [hm, cond_true, cond_true, ← Nat.add_assoc, hx, w64 (by omega) (by omega)]; omega
            simp only [e4]
            exact hb _ _ ⟨i + 1, hc⟩ [(4, 4), (5, 121)] hq ⟨rfl, trivial, ⟨rfl, rfl, rfl, rfl, rfl, trivial⟩, ⟨.inr ⟨_, rfl, .inl rfl⟩, .inr ⟨_, rfl, .inl (renV (v_n _))⟩, trivial⟩⟩
      · have hc : i = n := by simp at hc; omega
        subst hc
        refine mtch (fun hm => ?_) (fun hm => ?_)
        · rw [hm, cond_true] at hbl
          have hr := srev (bitW s.mot b0 i) (by rw [bitW_length]; omega)
          rw [bitW_length] at hr
          refine CallQ.ren [(1, 5)] 130 hr (clN _ _) rfl rfl ⟨⟨_, rfl, .inl (renV (v_n _))⟩, trivial⟩ rfl (.inl rfl) ?_
          simp only [Mem.ren, List.map_cons, List.map_nil, Bk.ren, List.map_map, V.ren, W.ren, Cv.ren, rn, Nat.reduceBEq, cond_true, cond_false, Function.comp_def]
          simp (config := { maxSteps := 2000000 }) only [go_sem, Nat.reduceBEq, Nat.reduceAdd, Nat.reduceLT, Nat.reduceLeDiff, Nat.reduceEqDiff, reduceCtorEq, Int.reduceAdd, Int.reduceSub, Int.reduceNeg, Int.reduceLE, Int.reduceLT, Int.reduceToNat, Int.reduceBEq, Int.reduceBNe, Int.reduceEq, Int.reduceNe, Int.toNat_zero, Int.toNat_one, bne_self_eq_false, Nat.reduceMul, Nat.zero_mul, Nat.mul_one, Nat.one_mul, Nat.reduceSub, Int.cast_ofNat_Int, Int.toNat_natCast]
          have hbl2 : (bitW s.mot b0 i).reverse = bitsL s := by rw [hbl, hm]
          have hl2 : (bitsL s).length = i := by rw [← hbl2, List.length_reverse, bitW_length]
          rw [hl2] at hR
          rw [← hbl2] at hR
          exact RetQ.ren [(1, 5)] hR hP rfl ⟨rfl, trivial⟩ rfl rfl trivial ⟨.inr ⟨_, rfl, .inl (renV (v_n _))⟩, trivial⟩ (clN _ _) (ClV.of rfl)
        · rw [hm, cond_false] at hbl
          have hbl2 : bitW s.mot b0 i = bitsL s := by rw [hbl, hm]
          have hl2 : (bitsL s).length = i := by rw [← hbl2, bitW_length]
          rw [hl2, ← hbl2] at hR
          exact RetQ.ren [(1, 5)] hR hP rfl ⟨rfl, trivial⟩ rfl rfl trivial ⟨.inr ⟨_, rfl, .inl (renV (v_n _))⟩, trivial⟩ (clN _ _) (ClV.of rfl)
theorem rbits (s : Sg) (hs : s.nm.data.toList.length ≤ 9223372036854775807) : CallOk Try.prog 43 [sg s] [] (slV 1 (bitsL s).length) [bN 1 (bitsL s)] := by
  refine CallOk.mkN 100 Try.func43 rfl en43 (by simp [Try.ntmps43]) (ClA.of rfl) rfl rfl fun C hR hP => ?_
  simp (config := { maxSteps := 2000000 }) only [go_sem, Nat.reduceBEq, Nat.reduceAdd, Nat.reduceLT, Nat.reduceLeDiff, Nat.reduceEqDiff, reduceCtorEq, Int.reduceAdd, Int.reduceSub, Int.reduceNeg, Int.reduceLE, Int.reduceLT, Int.reduceToNat, Int.reduceBEq, Int.reduceBNe, Int.reduceEq, Int.reduceNe, Int.toNat_zero, Int.toNat_one, bne_self_eq_false, Nat.reduceMul, Nat.zero_mul, Nat.mul_one, Nat.one_mul, Nat.reduceSub, Int.cast_ofNat_Int, Int.toNat_natCast]
  refine CallQ.pure 110 (rsignal s hs) rfl ?_
  simp (config := { maxSteps := 2000000 }) only [go_sem, Nat.reduceBEq, Nat.reduceAdd, Nat.reduceLT, Nat.reduceLeDiff, Nat.reduceEqDiff, reduceCtorEq, Int.reduceAdd, Int.reduceSub, Int.reduceNeg, Int.reduceLE, Int.reduceLT, Int.reduceToNat, Int.reduceBEq, Int.reduceBNe, Int.reduceEq, Int.reduceNe, Int.toNat_zero, Int.toNat_one, bne_self_eq_false, Nat.reduceMul, Nat.zero_mul, Nat.mul_one, Nat.one_mul, Nat.reduceSub, Int.cast_ofNat_Int, Int.toNat_natCast]
  refine mtch (fun h => ?_) (fun h => ?_)
  · have e : bitsL s = [] := by unfold bitsL; rw [show sok s = false by simpa using h]; rfl
    rw [e] at hR
    refine RetQ.nils 110 1 3 [2] [] rfl ?_
    simp (config := { maxSteps := 2000000 }) only [go_sem, Nat.reduceBEq, Nat.reduceAdd, Nat.reduceLT, Nat.reduceLeDiff, Nat.reduceEqDiff, reduceCtorEq, Int.reduceAdd, Int.reduceSub, Int.reduceNeg, Int.reduceLE, Int.reduceLT, Int.reduceToNat, Int.reduceBEq, Int.reduceBNe, Int.reduceEq, Int.reduceNe, Int.toNat_zero, Int.toNat_one, bne_self_eq_false, Nat.reduceMul, Nat.zero_mul, Nat.mul_one, Nat.one_mul, Nat.reduceSub, Int.cast_ofNat_Int, Int.toNat_natCast]
    exact RetQ.ren [(1, 110)] hR hP rfl (by simp (config := { maxSteps := 2000000 }) only [go_sem, Nat.reduceBEq, Nat.reduceAdd, Nat.reduceLT, Nat.reduceLeDiff, Nat.reduceEqDiff, reduceCtorEq, Int.reduceAdd, Int.reduceSub, Int.reduceNeg, Int.reduceLE, Int.reduceLT, Int.reduceToNat, Int.reduceBEq, Int.reduceBNe, Int.reduceEq, Int.reduceNe, Int.toNat_zero, Int.toNat_one, bne_self_eq_false, Nat.reduceMul, Nat.zero_mul, Nat.mul_one, Nat.one_mul, Nat.reduceSub, Int.cast_ofNat_Int, Int.toNat_natCast]) rfl rfl trivial ⟨.inr ⟨_, rfl, .inl rfl⟩, trivial⟩ (ClM.of rfl) (ClV.of rfl)
  · have hk : sok s = true := by simpa using h
    obtain ⟨k1, k2⟩ := sok_bd hk
    obtain ⟨n, hn⟩ := Int.eq_ofNat_of_zero_le (show 0 ≤ s.ln by omega)
    obtain ⟨b0, hb0⟩ := Int.eq_ofNat_of_zero_le k2.1
    have hbl : bitsL s = bif s.mot then (bitW true b0 n).reverse else bitW false b0 n := by
      unfold bitsL; rw [hk, cond_true, hn, hb0, Int.toNat_natCast, Int.toNat_natCast]
    have hb0' : b0 ≤ 63 := by omega
    have hn' : n ≤ 32 := by omega
    refine mtch (fun hm => ?_) (fun hm => ?_)
    · have hm : s.mot = false := by simpa using hm
      rw [hm, cond_false] at hbl
      refine Sm.nils 110 1 3 [3] [] rfl ?_
      simp (config := { maxSteps := 2000000 }) only [go_sem, Nat.reduceBEq, Nat.reduceAdd, Nat.reduceLT, Nat.reduceLeDiff, Nat.reduceEqDiff, reduceCtorEq, Int.reduceAdd, Int.reduceSub, Int.reduceNeg, Int.reduceLE, Int.reduceLT, Int.reduceToNat, Int.reduceBEq, Int.reduceBNe, Int.reduceEq, Int.reduceNe, Int.toNat_zero, Int.toNat_one, bne_self_eq_false, Nat.reduceMul, Nat.zero_mul, Nat.mul_one, Nat.one_mul, Nat.reduceSub, Int.cast_ofNat_Int, Int.toNat_natCast]
      refine Sm.loopM (M0 := []) (α := { i : Nat // i ≤ n }) hP (fun i => [(1, true, .c (.p 4 0)), (3, true, slV 5 i.val), (4, true, I i.val)]) (fun i => sbM s (bitW false b0 i.val)) (fun i => n - i.val) ⟨0, by omega⟩ (fun _ => ClM.v (by simp only [List.all_cons, v_n, v_s]; rfl)) (fun _ => ClE.of rfl) [(4, 100), (5, 110)] ?_ ?_
      · exact ⟨rfl, trivial, ⟨rfl, rfl, rfl, trivial⟩, ⟨.inr ⟨_, rfl, .inl rfl⟩, .inr ⟨_, rfl, .inl rfl⟩, trivial⟩⟩
      · rintro ⟨i, hi⟩ J hb
        simp only at hb ⊢
        refine Sm.go 120 ?_
        simp (config := { maxSteps := 2000000 }) only [go_sem, Nat.reduceBEq, Nat.reduceAdd, Nat.reduceLT, Nat.reduceLeDiff, Nat.reduceEqDiff, reduceCtorEq, Int.reduceAdd, Int.reduceSub, Int.reduceNeg, Int.reduceLE, Int.reduceLT, Int.reduceToNat, Int.reduceBEq, Int.reduceBNe, Int.reduceEq, Int.reduceNe, Int.toNat_zero, Int.toNat_one, bne_self_eq_false, Nat.reduceMul, Nat.zero_mul, Nat.mul_one, Nat.one_mul, Nat.reduceSub, Int.cast_ofNat_Int, Int.toNat_natCast]
        refine mtch (fun hc => ?_) (fun hc => ?_)
        · have hc : i < n := by simp at hc; omega
          have e4 : IntKind.i64.wrap (s.st + (i : Int)) = ((b0 + i : Nat) : Int) := by rw [hb0, w64 (by omega) (by omega)]; omega
          have htk : List.take i (List.map cn (bitW false b0 i)) ++ [cn (b0 + i)] = List.map cn (bitW false b0 (i + 1)) := by
            rw [List.take_of_length_le (by simp [bitW_length]), bitW_succ, List.map_append]; rfl
          have w1 : IntKind.i64.wrap ((i : Int) + 1) = ((i + 1 : Nat) : Int) := by rw [w64 (by omega) (by omega)]; omega
          simp only [e4, htk, w1]
          exact ⟨⟨by simp [bitW_length], by omega, by omega⟩, hb _ _ ⟨i + 1, hc⟩ [(4, 4), (5, 121)] (by simp only; omega) ⟨rfl, trivial, ⟨rfl, rfl, rfl, trivial⟩, ⟨.inr ⟨_, rfl, .inl rfl⟩, .inr ⟨_, rfl, .inl (renV (v_n _))⟩, trivial⟩⟩⟩
        · have hc : i = n := by simp at hc; omega
          subst hc
          have hl2 : (bitsL s).length = i := by rw [hbl, bitW_length]
          rw [hl2, hbl] at hR
          exact RetQ.ren [(1, 5)] hR hP rfl ⟨rfl, trivial⟩ rfl rfl trivial ⟨.inr ⟨_, rfl, .inl (renV (v_n _))⟩, trivial⟩ (clN _ _) (ClV.of rfl)
    · have hm : s.mot = true := by simpa using hm
      rw [hm, cond_true] at hbl
      refine Sm.nils 110 1 3 [3] [] rfl ?_
      simp (config := { maxSteps := 2000000 }) only [go_sem, Nat.reduceBEq, Nat.reduceAdd, Nat.reduceLT, Nat.reduceLeDiff, Nat.reduceEqDiff, reduceCtorEq, Int.reduceAdd, Int.reduceSub, Int.reduceNeg, Int.reduceLE, Int.reduceLT, Int.reduceToNat, Int.reduceBEq, Int.reduceBNe, Int.reduceEq, Int.reduceNe, Int.toNat_zero, Int.toNat_one, bne_self_eq_false, Nat.reduceMul, Nat.zero_mul, Nat.mul_one, Nat.one_mul, Nat.reduceSub, Int.cast_ofNat_Int, Int.toNat_natCast]
      refine Sm.loopM (M0 := []) (α := { i : Nat // i ≤ n }) hP (fun i => [(1, true, .c (.p 4 0)), (3, true, slV 5 i.val), (5, true, I (fm (fm b0 + i.val) : Nat)), (6, true, I i.val)]) (fun i => sbM s (bitW true b0 i.val).reverse) (fun i => n - i.val) ⟨0, by omega⟩ (fun _ => ClM.v (by simp only [List.all_cons, v_n, v_s]; rfl)) (fun _ => ClE.of rfl) [(4, 100), (5, 110)] ?_ ?_
      · have e0 : (((fm (fm b0 + 0) : Nat) : Int)) = s.st := by rw [hb0]; simp [fm_fm]
        simp only [e0]
        exact ⟨rfl, trivial, ⟨rfl, rfl, rfl, rfl, trivial⟩, ⟨.inr ⟨_, rfl, .inl rfl⟩, .inr ⟨_, rfl, .inl rfl⟩, trivial⟩⟩
      · rintro ⟨i, hi⟩ J hb
        simp only at hb ⊢
        refine Sm.go 120 ?_
        simp (config := { maxSteps := 2000000 }) only [go_sem, Nat.reduceBEq, Nat.reduceAdd, Nat.reduceLT, Nat.reduceLeDiff, Nat.reduceEqDiff, reduceCtorEq, Int.reduceAdd, Int.reduceSub, Int.reduceNeg, Int.reduceLE, Int.reduceLT, Int.reduceToNat, Int.reduceBEq, Int.reduceBNe, Int.reduceEq, Int.reduceNe, Int.toNat_zero, Int.toNat_one, bne_self_eq_false, Nat.reduceMul, Nat.zero_mul, Nat.mul_one, Nat.one_mul, Nat.reduceSub, Int.cast_ofNat_Int, Int.toNat_natCast]
        refine mtch (fun hc => ?_) (fun hc => ?_)
        · have hc : i < n := by simp at hc; omega
          have hx := fm_next (fm b0 + i)
          have hl := fm_le (fm b0 + i)
          have hl0 := fm_le b0
          have hap : cn (fm (fm b0 + i)) :: List.take i (List.map cn (bitW true b0 i).reverse) = List.map cn (bitW true b0 (i + 1)).reverse := by
            rw [List.take_of_length_le (by simp [bitW_length]), bitW_succ, List.reverse_append]; rfl
          have hon : (List.take i (List.map cn (bitW true b0 i).reverse)).all Cv.one = true := by
            rw [List.take_of_length_le (by simp [bitW_length])]; simp [Cv.one, Value.oneCell']
          have w1 : IntKind.i64.wrap ((i : Int) + 1) = ((i + 1 : Nat) : Int) := by rw [w64 (by omega) (by omega)]; omega
          have e3 : (((fm (fm b0 + i) : Nat) : Int).tmod 8 == 0) = decide (fm (fm b0 + i) % 8 = 0) := by
            rw [Int.tmod_eq_emod_of_nonneg (by omega), Bool.eq_iff_iff]
            simp only [beq_iff_eq, decide_eq_true_eq]; omega
          simp only [hap, w1, e3, Nat.add_comm 1 i]
          refine ⟨⟨⟨by simp [bitW_length], hon⟩, by omega, by omega⟩, ?_⟩
          refine mtch (fun hz => ?_) (fun hz => ?_)
          · rw [decide_eq_true_eq] at hz
            rw [if_pos hz] at hx
            have e4 : IntKind.i64.wrap (((fm (fm b0 + i) : Nat) : Int) + 15) = ((fm (fm b0 + (i + 1)) : Nat) : Int) := by
              rw [← Nat.add_assoc, hx, w64 (by omega) (by omega)]; omega
            simp only [e4]
            exact hb _ _ ⟨i + 1, hc⟩ [(4, 4), (5, 121)] (by simp only; omega) ⟨rfl, trivial, ⟨rfl, rfl, rfl, rfl, trivial⟩, ⟨.inr ⟨_, rfl, .inl rfl⟩, .inr ⟨_, rfl, .inl (renV (v_n _))⟩, trivial⟩⟩
          · rw [decide_eq_false_iff_not] at hz
            rw [if_neg hz] at hx
            have e4 : IntKind.i64.wrap (((fm (fm b0 + i) : Nat) : Int) - 1) = ((fm (fm b0 + (i + 1)) : Nat) : Int) := by
              rw [← Nat.add_assoc, hx, w64 (by omega) (by omega)]; omega
            simp only [e4]
            exact hb _ _ ⟨i + 1, hc⟩ [(4, 4), (5, 121)] (by simp only; omega) ⟨rfl, trivial, ⟨rfl, rfl, rfl, rfl, trivial⟩, ⟨.inr ⟨_, rfl, .inl rfl⟩, .inr ⟨_, rfl, .inl (renV (v_n _))⟩, trivial⟩⟩
        · have hc : i = n := by simp at hc; omega
          subst hc
          have hl2 : (bitsL s).length = i := by rw [hbl, List.length_reverse, bitW_length]
          rw [hl2, hbl] at hR
          exact RetQ.ren [(1, 5)] hR hP rfl ⟨rfl, trivial⟩ rfl rfl trivial ⟨.inr ⟨_, rfl, .inl (renV (v_n _))⟩, trivial⟩ (clN _ _) (ClV.of rfl)
end Go.Proofs.Ytcdclmelnnbdnaa
