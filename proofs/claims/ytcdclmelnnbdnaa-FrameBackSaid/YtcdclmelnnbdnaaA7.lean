/- Frame: which frames are valid (signaldb). -/
import Derived.Test.YtcdclmelnnbdnaaA6
namespace Go.Proofs.Ytcdclmelnnbdnaa
open Vg Tf
set_option linter.unusedSimpArgs false
set_option linter.unusedVariables false
set_option maxRecDepth 100000
set_option maxHeartbeats 4000000
@[go_sem ↓] theorem plS15 : plS 1 5 = [(0, 5)] := rfl
@[go_sem ↓] theorem plS1X : plS 1 10 = [(0, 10)] := rfl
@[go_sem ↓] theorem plS21 : plS 2 1 = [(0, 1), (1, 1)] := rfl
@[go_sem ↓] theorem plS91 : plS 9 1 = [(0, 1), (1, 1), (2, 1), (3, 1), (4, 1), (5, 1), (6, 1), (7, 1), (8, 1)] := rfl
@[go_sem ↓] theorem plS01 : plS 0 1 = [] := rfl
/-- The fault of a frame that stands alone. -/
def hdE (f : Fm) : Int := bif nmok f.nm.data.toList then (bif inR f.id 0 2047 && (inR f.ln 1 8 && !(f.gd && decide (f.ln < 2))) then (bif decide (f.sgs.length ≤ 16) then 0 else 5) else 2) else 1
def frE (f : Fm) : ByteArray × Int := bif hdE f == 0 then sgE f.gd f.ln [] f.sgs else (f.nm, hdE f)
def fok (f : Fm) : Bool := (frE f).2 == 0
@[reducible] def bF (nm B : Nat) (f : Fm) : Nat × Bk := (nm, ⟨true, fmL B f, 24⟩)
@[reducible] def dbV (nm : Nat) : V := .agg [.sl nm 0 1 5]
theorem hdE_1 {f : Fm} (h : nmok f.nm.data.toList = false) : hdE f = 1 := by unfold hdE; rw [h]; rfl
theorem clF (a b : Nat) (f : Fm) : ClM [bF a b f, bS b f.sgs] := ClM.of (by
  simp only [List.all_cons, inMV (v_ss _), bF, bS, fmL, Cv.inM, Mem.get]
  cases h : (a == b) <;> simp [h])
theorem prE_bd (gd : Bool) (ln : Int) (seen : List Sg) (s : Sg) : prE gd ln seen s = 0 ∨ prE gd ln seen s = 1 ∨ prE gd ln seen s = 2 ∨ prE gd ln seen s = 8 := by
  unfold prE
  cases sok s <;> cases inG gd ln s <;> cases clash seen s <;> simp
theorem sgE_ok (gd : Bool) (ln : Int) : ∀ (l seen : List Sg), (sgE gd ln seen l).2 = 0 → sgE gd ln seen l = (⟨#[]⟩, 0)
  | [], _, _ => rfl
  | s :: l, seen, h => by
    rw [sgE] at h ⊢
    cases hp : (prE gd ln seen s == 0) with
    | true => rw [hp] at h; exact sgE_ok gd ln l _ h
    | false =>
      rw [hp] at h
      simp only [cond_false] at h
      rw [h] at hp; cases hp
theorem sfault (f : Fm) (hf : f.ok) : CallOk Try.prog 78 [dbV 2] [bF 2 1 f, bS 1 f.sgs] (tupS (frE f)) [] := by
  have hM := clF 2 1 f
  refine CallOk.mkN 100 Try.func78 rfl en78 (by simp [Try.ntmps78]) (ClA.of rfl) rfl rfl fun C hR hP => ?_
  simp (config := { maxSteps := 2000000 }) only [go_sem, Nat.reduceBEq, Nat.reduceAdd, Nat.reduceLT, Nat.reduceLeDiff, Nat.reduceEqDiff, reduceCtorEq, Int.reduceAdd, Int.reduceSub, Int.reduceNeg, Int.reduceLE, Int.reduceLT, Int.reduceToNat, Int.reduceBEq, Int.reduceBNe, Int.reduceEq, Int.reduceNe, Int.toNat_zero, Int.toNat_one, bne_self_eq_false, Nat.reduceMul, Nat.zero_mul, Nat.mul_one, Nat.one_mul, Nat.reduceSub, Int.cast_ofNat_Int, Int.toNat_natCast]
  refine Sm.unroll 2 (Sm.go 120 ?_)
  simp (config := { maxSteps := 2000000 }) only [go_sem, Nat.reduceBEq, Nat.reduceAdd, Nat.reduceLT, Nat.reduceLeDiff, Nat.reduceEqDiff, reduceCtorEq, Int.reduceAdd, Int.reduceSub, Int.reduceNeg, Int.reduceLE, Int.reduceLT, Int.reduceToNat, Int.reduceBEq, Int.reduceBNe, Int.reduceEq, Int.reduceNe, Int.toNat_zero, Int.toNat_one, bne_self_eq_false, Nat.reduceMul, Nat.zero_mul, Nat.mul_one, Nat.one_mul, Nat.reduceSub, Int.cast_ofNat_Int, Int.toNat_natCast]
  refine CallQ.pure 130 (sname f.nm hf.n) rfl ?_
  simp (config := { maxSteps := 2000000 }) only [go_sem, Nat.reduceBEq, Nat.reduceAdd, Nat.reduceLT, Nat.reduceLeDiff, Nat.reduceEqDiff, reduceCtorEq, Int.reduceAdd, Int.reduceSub, Int.reduceNeg, Int.reduceLE, Int.reduceLT, Int.reduceToNat, Int.reduceBEq, Int.reduceBNe, Int.reduceEq, Int.reduceNe, Int.toNat_zero, Int.toNat_one, bne_self_eq_false, Nat.reduceMul, Nat.zero_mul, Nat.mul_one, Nat.one_mul, Nat.reduceSub, Int.cast_ofNat_Int, Int.toNat_natCast]
  refine mtch (fun hn => ?_) (fun hn => ?_)
  · have hn : nmok f.nm.data.toList = false := by simpa using hn
    refine RetQ.of hR rfl ⟨rfl, rfl, trivial⟩ ?_ (SubS.sub ⟨⟨_, rfl, .inl rfl⟩, ⟨_, rfl, .inl rfl⟩, trivial⟩) hM (ClV.of rfl)
    rw [frE, hdE_1 hn]; rfl
  · have hn : nmok f.nm.data.toList = true := by simpa using hn
    refine CallQ.pure 130 (sin f.id 0 2047) rfl ?_
    simp (config := { maxSteps := 2000000 }) only [go_sem, Nat.reduceBEq, Nat.reduceAdd, Nat.reduceLT, Nat.reduceLeDiff, Nat.reduceEqDiff, reduceCtorEq, Int.reduceAdd, Int.reduceSub, Int.reduceNeg, Int.reduceLE, Int.reduceLT, Int.reduceToNat, Int.reduceBEq, Int.reduceBNe, Int.reduceEq, Int.reduceNe, Int.toNat_zero, Int.toNat_one, bne_self_eq_false, Nat.reduceMul, Nat.zero_mul, Nat.mul_one, Nat.one_mul, Nat.reduceSub, Int.cast_ofNat_Int, Int.toNat_natCast]
    refine CallQ.guard 130 (fun _ => sin f.ln 1 8) (fun h => by rw [h]; rfl) ?_
    simp (config := { maxSteps := 2000000 }) only [go_sem, Nat.reduceBEq, Nat.reduceAdd, Nat.reduceLT, Nat.reduceLeDiff, Nat.reduceEqDiff, reduceCtorEq, Int.reduceAdd, Int.reduceSub, Int.reduceNeg, Int.reduceLE, Int.reduceLT, Int.reduceToNat, Int.reduceBEq, Int.reduceBNe, Int.reduceEq, Int.reduceNe, Int.toNat_zero, Int.toNat_one, bne_self_eq_false, Nat.reduceMul, Nat.zero_mul, Nat.mul_one, Nat.one_mul, Nat.reduceSub, Int.cast_ofNat_Int, Int.toNat_natCast]
    refine ⟨by intro h; simp only [h]; simp, ?_⟩
    have e1 : (bif (bif !decide (0 ≤ f.id ∧ f.id ≤ 2047) then true else !decide (1 ≤ f.ln ∧ f.ln ≤ 8)) then true else bif f.gd then decide (f.ln < 2) else false) = !(inR f.id 0 2047 && (inR f.ln 1 8 && !(f.gd && decide (f.ln < 2)))) := by
      unfold inR
      generalize decide (0 ≤ f.id ∧ f.id ≤ 2047) = a
      generalize decide (1 ≤ f.ln ∧ f.ln ≤ 8) = b
      generalize decide (f.ln < 2) = c
      cases a <;> cases b <;> cases c <;> cases f.gd <;> rfl
    simp only [e1]
    refine mtch (fun hz => ?_) (fun hz => ?_)
    · rw [Bool.not_eq_true'] at hz
      refine RetQ.of hR rfl ⟨rfl, rfl, trivial⟩ ?_ (SubS.sub ⟨⟨_, rfl, .inl rfl⟩, ⟨_, rfl, .inl rfl⟩, trivial⟩) hM (ClV.of rfl)
      rw [frE, hdE, hn, hz]; rfl
    · rw [Bool.not_eq_false'] at hz
      refine mtch (fun hk => ?_) (fun hk => ?_)
      · have hk : ¬ f.sgs.length ≤ 16 := by simp at hk; omega
        refine RetQ.of hR rfl ⟨rfl, rfl, trivial⟩ ?_ (SubS.sub ⟨⟨_, rfl, .inl rfl⟩, ⟨_, rfl, .inl rfl⟩, trivial⟩) hM (ClV.of rfl)
        rw [frE, hdE, hn, hz, fal_of hk]; rfl
      · have hk : f.sgs.length ≤ 16 := by simp at hk; omega
        have hln : 1 ≤ f.ln ∧ f.ln ≤ 8 := by
          rw [Bool.and_eq_true, Bool.and_eq_true] at hz; exact inR_iff.1 hz.2.1
        have hh : hdE f = 0 := by rw [hdE, hn, hz, tru_of hk]; rfl
        refine CallQ.ren [(1, 2), (2, 120)] 130 (fcon 24 24) (ClM.of rfl) rfl rfl ⟨⟨_, rfl, .inr ⟨rfl, _, rfl⟩⟩, ⟨_, rfl, .inr ⟨rfl, _, rfl⟩⟩, trivial⟩ rfl (.inr rfl) ?_
        simp (config := { maxSteps := 2000000 }) only [go_sem, Nat.reduceBEq, Nat.reduceAdd, Nat.reduceLT, Nat.reduceLeDiff, Nat.reduceEqDiff, reduceCtorEq, Int.reduceAdd, Int.reduceSub, Int.reduceNeg, Int.reduceLE, Int.reduceLT, Int.reduceToNat, Int.reduceBEq, Int.reduceBNe, Int.reduceEq, Int.reduceNe, Int.toNat_zero, Int.toNat_one, bne_self_eq_false, Nat.reduceMul, Nat.zero_mul, Nat.mul_one, Nat.one_mul, Nat.reduceSub, Int.cast_ofNat_Int, Int.toNat_natCast]
        refine CallQ.ren [(1, 1)] 130 (ssignals f hf hln.1 hln.2) (ClM.v (by simp only [List.all_cons, v_ss]; rfl)) rfl rfl ⟨⟨_, rfl, .inl (renV (v_ss _))⟩, trivial⟩ rfl (.inr rfl) ?_
        simp (config := { maxSteps := 2000000 }) only [go_sem, Nat.reduceBEq, Nat.reduceAdd, Nat.reduceLT, Nat.reduceLeDiff, Nat.reduceEqDiff, reduceCtorEq, Int.reduceAdd, Int.reduceSub, Int.reduceNeg, Int.reduceLE, Int.reduceLT, Int.reduceToNat, Int.reduceBEq, Int.reduceBNe, Int.reduceEq, Int.reduceNe, Int.toNat_zero, Int.toNat_one, bne_self_eq_false, Nat.reduceMul, Nat.zero_mul, Nat.mul_one, Nat.one_mul, Nat.reduceSub, Int.cast_ofNat_Int, Int.toNat_natCast]
        have hfr : frE f = sgE f.gd f.ln [] f.sgs := by rw [frE, hh]; rfl
        refine mtch (fun hz => ?_) (fun hz => ?_)
        · exact RetQ.of hR rfl ⟨rfl, rfl, trivial⟩ (by rw [hfr]) (SubS.sub ⟨⟨_, rfl, .inl rfl⟩, ⟨_, rfl, .inl rfl⟩, trivial⟩) hM (ClV.of rfl)
        · exact RetQ.of hR rfl ⟨rfl, rfl, trivial⟩ (by rw [hfr, sgE_ok _ _ _ _ (by simpa using hz)]) (SubS.sub ⟨⟨_, rfl, .inl rfl⟩, ⟨_, rfl, .inl rfl⟩, trivial⟩) hM (ClV.of rfl)
theorem svalidD (f : Fm) (hf : f.ok) : CallOk Try.prog 62 [dbV 2] [bF 2 1 f, bS 1 f.sgs] (Bo (fok f)) [] := by
  have hM := clF 2 1 f
  refine CallOk.mkN 100 Try.func62 rfl en62 (by simp [Try.ntmps62]) (ClA.of rfl) rfl rfl fun C hR hP => ?_
  simp (config := { maxSteps := 2000000 }) only [go_sem, Nat.reduceBEq, Nat.reduceAdd, Nat.reduceLT, Nat.reduceLeDiff, Nat.reduceEqDiff, reduceCtorEq, Int.reduceAdd, Int.reduceSub, Int.reduceNeg, Int.reduceLE, Int.reduceLT, Int.reduceToNat, Int.reduceBEq, Int.reduceBNe, Int.reduceEq, Int.reduceNe, Int.toNat_zero, Int.toNat_one, bne_self_eq_false, Nat.reduceMul, Nat.zero_mul, Nat.mul_one, Nat.one_mul, Nat.reduceSub, Int.cast_ofNat_Int, Int.toNat_natCast]
  refine CallQ.ren [(1, 1), (2, 2)] 130 (sfault f hf) hM rfl rfl ⟨⟨_, rfl, .inl rfl⟩, ⟨_, rfl, .inl (renV (v_ss _))⟩, trivial⟩ rfl (.inr rfl) ?_
  simp (config := { maxSteps := 2000000 }) only [go_sem, Nat.reduceBEq, Nat.reduceAdd, Nat.reduceLT, Nat.reduceLeDiff, Nat.reduceEqDiff, reduceCtorEq, Int.reduceAdd, Int.reduceSub, Int.reduceNeg, Int.reduceLE, Int.reduceLT, Int.reduceToNat, Int.reduceBEq, Int.reduceBNe, Int.reduceEq, Int.reduceNe, Int.toNat_zero, Int.toNat_one, bne_self_eq_false, Nat.reduceMul, Nat.zero_mul, Nat.mul_one, Nat.one_mul, Nat.reduceSub, Int.cast_ofNat_Int, Int.toNat_natCast]
  exact RetQ.of hR rfl ⟨rfl, trivial⟩ rfl (SubS.sub ⟨⟨_, rfl, .inl rfl⟩, ⟨_, rfl, .inl rfl⟩, trivial⟩) hM (ClV.of rfl)
theorem fvalid (f : Fm) (hf : f.ok) : CallOk Try.prog 39 [fm5 1 f] [bS 1 f.sgs] (Bo (fok f)) [] := by
  have hM : ClM [bS 1 f.sgs] := ClM.v (by simp only [List.all_cons, v_ss]; rfl)
  refine CallOk.mkN 100 Try.func39 rfl en39 (by simp [Try.ntmps39]) (ClA.of rfl) rfl rfl fun C hR hP => ?_
  simp (config := { maxSteps := 2000000 }) only [go_sem, Nat.reduceBEq, Nat.reduceAdd, Nat.reduceLT, Nat.reduceLeDiff, Nat.reduceEqDiff, reduceCtorEq, Int.reduceAdd, Int.reduceSub, Int.reduceNeg, Int.reduceLE, Int.reduceLT, Int.reduceToNat, Int.reduceBEq, Int.reduceBNe, Int.reduceEq, Int.reduceNe, Int.toNat_zero, Int.toNat_one, bne_self_eq_false, Nat.reduceMul, Nat.zero_mul, Nat.mul_one, Nat.one_mul, Nat.reduceSub, Int.cast_ofNat_Int, Int.toNat_natCast]
  refine CallQ.ren [(1, 1), (2, 101)] 130 (svalidD f hf) (clF 2 1 f) rfl rfl ⟨⟨_, rfl, .inr ⟨rfl, [], rfl⟩⟩, ⟨_, rfl, .inl (renV (v_ss _))⟩, trivial⟩ rfl (.inr rfl) ?_
  simp (config := { maxSteps := 2000000 }) only [go_sem, Nat.reduceBEq, Nat.reduceAdd, Nat.reduceLT, Nat.reduceLeDiff, Nat.reduceEqDiff, reduceCtorEq, Int.reduceAdd, Int.reduceSub, Int.reduceNeg, Int.reduceLE, Int.reduceLT, Int.reduceToNat, Int.reduceBEq, Int.reduceBNe, Int.reduceEq, Int.reduceNe, Int.toNat_zero, Int.toNat_one, bne_self_eq_false, Nat.reduceMul, Nat.zero_mul, Nat.mul_one, Nat.one_mul, Nat.reduceSub, Int.cast_ofNat_Int, Int.toNat_natCast]
  exact RetQ.of hR rfl ⟨rfl, trivial⟩ rfl (Sub.one rfl (.inl rfl)) hM (ClV.of rfl)
theorem rhas (l : List Nat) (x : Nat) (hl : l.length ≤ 1000000) : CallOk Try.prog 98 [slV 1 l.length, I x] [bNr 1 l] (Bo (l.contains x)) [] := by
  have hM := clNr 1 l
  refine CallOk.mkN 100 Try.func98 rfl en98 (by simp [Try.ntmps98]) (ClA.of rfl) rfl rfl fun C hR hP => ?_
  simp (config := { maxSteps := 2000000 }) only [go_sem, Nat.reduceBEq, Nat.reduceAdd, Nat.reduceLT, Nat.reduceLeDiff, Nat.reduceEqDiff, reduceCtorEq, Int.reduceAdd, Int.reduceSub, Int.reduceNeg, Int.reduceLE, Int.reduceLT, Int.reduceToNat, Int.reduceBEq, Int.reduceBNe, Int.reduceEq, Int.reduceNe, Int.toNat_zero, Int.toNat_one, bne_self_eq_false, Nat.reduceMul, Nat.zero_mul, Nat.mul_one, Nat.one_mul, Nat.reduceSub, Int.cast_ofNat_Int, Int.toNat_natCast]
  refine Sm.loopM (M0 := [bNr 1 l]) (α := { i : Nat // i ≤ l.length ∧ l.contains x = (l.drop i).contains x }) hP (fun i => [(0, true, slV 1 l.length), (1, true, I x), (5, true, I i.val)]) (fun _ => [bNr 1 l]) (fun i => l.length - i.val) ⟨0, by omega, rfl⟩ (fun _ => hM) (fun _ => ClE.of rfl) [(1, 1)] ?_ ?_
  · exact ⟨rfl, ⟨⟨rfl, rfl⟩, trivial⟩, ⟨rfl, rfl, rfl, trivial⟩, ⟨.inr ⟨_, rfl, .inl (renV (v_n _))⟩, trivial⟩⟩
  · rintro ⟨i, hi, hx⟩ J hb
    simp only at hb ⊢
    refine Sm.go 120 ?_
    simp (config := { maxSteps := 2000000 }) only [go_sem, Nat.reduceBEq, Nat.reduceAdd, Nat.reduceLT, Nat.reduceLeDiff, Nat.reduceEqDiff, reduceCtorEq, Int.reduceAdd, Int.reduceSub, Int.reduceNeg, Int.reduceLE, Int.reduceLT, Int.reduceToNat, Int.reduceBEq, Int.reduceBNe, Int.reduceEq, Int.reduceNe, Int.toNat_zero, Int.toNat_one, bne_self_eq_false, Nat.reduceMul, Nat.zero_mul, Nat.mul_one, Nat.one_mul, Nat.reduceSub, Int.cast_ofNat_Int, Int.toNat_natCast]
    refine mtch (fun hc => ?_) (fun hc => ?_)
    · have hc : i < l.length := by simp at hc; omega
      have hdr : l.drop i = l.getD i 0 :: l.drop (i + 1) := by rw [List.drop_eq_getElem_cons hc, List.getD_eq_getElem?_getD, List.getElem?_eq_getElem hc]; rfl
      have w1 : IntKind.i64.wrap ((i : Int) + 1) = ((i + 1 : Nat) : Int) := by rw [w64 (by omega) (by omega)]; omega
      have e1 : (((l.getD i 0 : Nat) : Int) == (x : Int)) = (x == l.getD i 0) := by rw [Bool.eq_iff_iff, beq_iff_eq, beq_iff_eq]; omega
      simp only [get_n hc]
      simp (config := { maxSteps := 2000000 }) only [go_sem, Nat.reduceBEq, Nat.reduceAdd, Nat.reduceLT, Nat.reduceLeDiff, Nat.reduceEqDiff, reduceCtorEq, Int.reduceAdd, Int.reduceSub, Int.reduceNeg, Int.reduceLE, Int.reduceLT, Int.reduceToNat, Int.reduceBEq, Int.reduceBNe, Int.reduceEq, Int.reduceNe, Int.toNat_zero, Int.toNat_one, bne_self_eq_false, Nat.reduceMul, Nat.zero_mul, Nat.mul_one, Nat.one_mul, Nat.reduceSub, Int.cast_ofNat_Int, Int.toNat_natCast]
      simp only [e1, w1]
      refine ⟨⟨by omega, by omega⟩, ?_⟩
      refine mtch (fun hz => ?_) (fun hz => ?_)
      · exact RetQ.of hR rfl ⟨rfl, trivial⟩ (by rw [hx, hdr, List.contains_cons, hz]; rfl) (Sub.one rfl (.inl rfl)) hM (ClV.of rfl)
      · exact hb _ _ ⟨i + 1, hc, by rw [hx, hdr, List.contains_cons, hz]; rfl⟩ [(1, 1)] (by simp only; omega) ⟨rfl, ⟨⟨rfl, rfl⟩, trivial⟩, ⟨rfl, rfl, rfl, trivial⟩, ⟨.inr ⟨_, rfl, .inl (renV (v_n _))⟩, trivial⟩⟩
    · have hc : i = l.length := by simp at hc; omega
      exact RetQ.of hR rfl ⟨rfl, trivial⟩ (by rw [hx, hc, List.drop_length]; rfl) (Sub.one rfl (.inl rfl)) hM (ClV.of rfl)
end Go.Proofs.Ytcdclmelnnbdnaa
