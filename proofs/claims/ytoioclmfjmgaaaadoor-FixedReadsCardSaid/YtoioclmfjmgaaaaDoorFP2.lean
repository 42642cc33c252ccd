/- fixed.decimal: a decimal number read. -/
import Derived.Test.YtoioclmfjmgaaaaDoorU1
import Derived.Test.YtoioclmfjmgaaaaDoorUD
import Derived.Test.YtoioclmfjmgaaaaDoorFP0
namespace Go.Proofs.YtoioclmfjmgaaaaDoor.Fx
open Vg Tf
set_option linter.unusedSimpArgs false
set_option linter.unusedVariables false
set_option maxRecDepth 100000
set_option maxHeartbeats 4000000
def cpf (l : List UInt8) : List UInt8 × Bool := match l with
  | [] => ([], false)
  | x :: r => if x = 45 then (r, true) else (x :: r, false)
theorem hasPre (l : List UInt8) : CallOk Tryd.prog 117 [S l, S [45]] [] (Bo (cpf l).2) [] := by
  refine CallOk.mkN 100 Tryd.func117 rfl en117 (by simp [Tryd.ntmps117]) (ClA.of rfl) rfl rfl fun C hR hP => ?_
  simp (config := { maxSteps := 2000000 }) only [go_sem, Nat.reduceBEq, Nat.reduceAdd, Nat.reduceLT, Nat.reduceLeDiff, Nat.reduceEqDiff, reduceCtorEq, Int.reduceAdd, Int.reduceSub, Int.reduceNeg, Int.reduceLE, Int.reduceLT, Int.reduceToNat, Int.reduceBEq, Int.reduceBNe, Int.reduceEq, Int.reduceNe, Int.toNat_zero, Int.toNat_one, bne_self_eq_false, Nat.reduceMul, Nat.zero_mul, Nat.mul_one, Nat.one_mul, Nat.reduceSub, Int.cast_ofNat_Int, Int.toNat_natCast, List.length_cons, List.length_nil]
  refine ⟨fun h => ⟨h, h, of_decide_eq_true h⟩, RetQ.bool hR rfl ⟨rfl, trivial⟩ ?_⟩
  cases l with
  | nil => rfl
  | cons x l =>
    have h1 : decide ((1 : Int) ≤ ((x :: l).length : Int)) = true := tru_of (by simp; omega)
    rw [h1]
    by_cases hx : x = 45
    · simp [cpf, hx]
    · simp [cpf, hx]
theorem cutPre1 (l : List UInt8) : CallOk Tryd.prog 104 [S l, S [45]] [] (.tup [Ws (cpf l).1, Wb1 (cpf l).2]) [] := by
  refine CallOk.mkN 100 Tryd.func104 rfl en104 (by simp [Tryd.ntmps104]) (ClA.of rfl) rfl rfl fun C hR hP => ?_
  simp (config := { maxSteps := 2000000 }) only [go_sem, Nat.reduceBEq, Nat.reduceAdd, Nat.reduceLT, Nat.reduceLeDiff, Nat.reduceEqDiff, reduceCtorEq, Int.reduceAdd, Int.reduceSub, Int.reduceNeg, Int.reduceLE, Int.reduceLT, Int.reduceToNat, Int.reduceBEq, Int.reduceBNe, Int.reduceEq, Int.reduceNe, Int.toNat_zero, Int.toNat_one, bne_self_eq_false, Nat.reduceMul, Nat.zero_mul, Nat.mul_one, Nat.one_mul, Nat.reduceSub, Int.cast_ofNat_Int, Int.toNat_natCast]
  refine CallQ.pure 110 (hasPre l) rfl ?_
  simp (config := { maxSteps := 2000000 }) only [go_sem, Nat.reduceBEq, Nat.reduceAdd, Nat.reduceLT, Nat.reduceLeDiff, Nat.reduceEqDiff, reduceCtorEq, Int.reduceAdd, Int.reduceSub, Int.reduceNeg, Int.reduceLE, Int.reduceLT, Int.reduceToNat, Int.reduceBEq, Int.reduceBNe, Int.reduceEq, Int.reduceNe, Int.toNat_zero, Int.toNat_one, bne_self_eq_false, Nat.reduceMul, Nat.zero_mul, Nat.mul_one, Nat.one_mul, Nat.reduceSub, Int.cast_ofNat_Int, Int.toNat_natCast]
  refine mtch (fun h => ?_) (fun h => ?_)
  · have h : (cpf l).2 = false := by simpa using h
    have e : (cpf l).1 = l := by
      cases l with
      | nil => rfl
      | cons x l =>
        unfold cpf at h ⊢
        simp only at h ⊢
        split
        · rename_i hx; rw [if_pos hx] at h; cases h
        · rfl
    rw [h, e] at hR
    exact RetQ.of hR rfl ⟨rfl, rfl, trivial⟩ rfl (Sub.nil _) ClM.nil (ClV.of rfl)
  · have h : (cpf l).2 = true := by simpa using h
    obtain ⟨x, r, rfl⟩ : ∃ x r, l = x :: r := by
      cases l with
      | nil => cases h
      | cons x r => exact ⟨x, r, rfl⟩
    have e : (cpf (x :: r)).1 = r := by
      unfold cpf at h ⊢
      simp only at h ⊢
      split
      · rfl
      · rename_i hx; rw [if_neg hx] at h; cases h
    rw [h, e] at hR
    simp (config := { maxSteps := 2000000 }) only [go_sem, Nat.reduceBEq, Nat.reduceAdd, Nat.reduceLT, Nat.reduceLeDiff, Nat.reduceEqDiff, reduceCtorEq, Int.reduceAdd, Int.reduceSub, Int.reduceNeg, Int.reduceLE, Int.reduceLT, Int.reduceToNat, Int.reduceBEq, Int.reduceBNe, Int.reduceEq, Int.reduceNe, Int.toNat_zero, Int.toNat_one, bne_self_eq_false, Nat.reduceMul, Nat.zero_mul, Nat.mul_one, Nat.one_mul, Nat.reduceSub, Int.cast_ofNat_Int, Int.toNat_natCast, List.length_cons, List.length_nil]
    refine ⟨⟨by omega, by omega⟩, ?_⟩
    refine RetQ.of hR rfl ⟨rfl, rfl, trivial⟩ ?_ (Sub.nil _) ClM.nil (ClV.of rfl)
    simp [V.toW, W.toV]
theorem cutPre (l : List UInt8) : CallOk Tryd.prog 92 [S l, S [45]] [] (.tup [Ws (cpf l).1, Wb1 (cpf l).2]) [] := by
  refine CallOk.mkN 100 Tryd.func92 rfl en92 (by simp [Tryd.ntmps92]) (ClA.of rfl) rfl rfl fun C hR hP => ?_
  simp (config := { maxSteps := 2000000 }) only [go_sem, Nat.reduceBEq, Nat.reduceAdd, Nat.reduceLT, Nat.reduceLeDiff, Nat.reduceEqDiff, reduceCtorEq, Int.reduceAdd, Int.reduceSub, Int.reduceNeg, Int.reduceLE, Int.reduceLT, Int.reduceToNat, Int.reduceBEq, Int.reduceBNe, Int.reduceEq, Int.reduceNe, Int.toNat_zero, Int.toNat_one, bne_self_eq_false, Nat.reduceMul, Nat.zero_mul, Nat.mul_one, Nat.one_mul, Nat.reduceSub, Int.cast_ofNat_Int, Int.toNat_natCast]
  refine CallQ.pure 110 (cutPre1 l) rfl ?_
  simp (config := { maxSteps := 2000000 }) only [go_sem, Nat.reduceBEq, Nat.reduceAdd, Nat.reduceLT, Nat.reduceLeDiff, Nat.reduceEqDiff, reduceCtorEq, Int.reduceAdd, Int.reduceSub, Int.reduceNeg, Int.reduceLE, Int.reduceLT, Int.reduceToNat, Int.reduceBEq, Int.reduceBNe, Int.reduceEq, Int.reduceNe, Int.toNat_zero, Int.toNat_one, bne_self_eq_false, Nat.reduceMul, Nat.zero_mul, Nat.mul_one, Nat.one_mul, Nat.reduceSub, Int.cast_ofNat_Int, Int.toNat_natCast]
  exact RetQ.of hR rfl ⟨rfl, rfl, trivial⟩ rfl (Sub.nil _) ClM.nil (ClV.of rfl)
/-! ### the number -/
def digB (c : UInt8) : Bool := decide (48 ≤ c.toNat) && decide (c.toNat ≤ 57)
def numF : Nat → List UInt8 → Option Nat
  | n, [] => some n
  | n, c :: r => if digB c = true then numF (10 * n + (c.toNat - 48)) r else none
def badF (w f : List UInt8) (b : Bool) : Bool := decide (w = []) || ((decide (1 < w.length) && decide (w.getD 0 0 = 48)) || (b && (decide (f = []) || decide (6 < f.length))))
def decQ (s : List UInt8) : Option (Int × Int) :=
  if 18 < s.length then none else
  if badF (cutB 46 (cpf s).1).1 (cutB 46 (cpf s).1).2.1 (cutB 46 (cpf s).1).2.2 = true then none else
  match numF 0 ((cutB 46 (cpf s).1).1 ++ (cutB 46 (cpf s).1).2.1) with
  | none => none
  | some n => if (cpf s).2 = true ∧ n = 0 then none else some (if (cpf s).2 = true then -(n : Int) else n, ((10 ^ (cutB 46 (cpf s).1).2.1.length : Nat) : Int))
def dcR (s : List UInt8) : Int × Int × Bool := match decQ s with
  | none => (0, 0, false)
  | some (n, d) => (n, d, true)
theorem cutB_len (c : UInt8) : ∀ l, (cutB c l).1.length + (cutB c l).2.1.length ≤ l.length
  | [] => by simp [cutB]
  | x :: l => by
    have ih := cutB_len c l
    rw [cutB_cons]
    split <;> simp <;> omega
theorem cpf_len (l : List UInt8) : (cpf l).1.length ≤ l.length := by
  cases l with
  | nil => simp [cpf]
  | cons x l => unfold cpf; simp only; split <;> simp
theorem cutB_no (c : UInt8) : ∀ l, (cutB c l).2.2 = false → (cutB c l).2.1 = []
  | [], _ => rfl
  | x :: l, h => by
    rw [cutB_cons] at h ⊢
    split at h
    · cases h
    · rename_i hx
      rw [if_neg hx]
      exact cutB_no c l h
theorem numF_lt : ∀ (l : List UInt8) (n m : Nat), numF n l = some m → m < (n + 1) * 10 ^ l.length
  | [], n, m, h => by cases h; simp
  | c :: l, n, m, h => by
    unfold numF at h
    split at h
    · rename_i hd
      have := numF_lt l _ m h
      have h9 : c.toNat - 48 ≤ 9 := by
        simp only [digB, Bool.and_eq_true, decide_eq_true_eq] at hd; omega
      have h2 : (10 * n + (c.toNat - 48) + 1) * 10 ^ l.length ≤ ((n + 1) * 10) * 10 ^ l.length := Nat.mul_le_mul_right _ (by omega)
      rw [List.length_cons, Nat.pow_succ, Nat.mul_comm (10 ^ l.length) 10, ← Nat.mul_assoc]
      omega
    · cases h
theorem eNil (w : List UInt8) : (w == []) = decide (w = []) := by cases w <;> simp
theorem eL1 (w : List UInt8) : decide ((1 : Int) < (w.length : Int)) = decide (1 < w.length) := by
  rw [decide_eq_decide]; omega
theorem eL6 (w : List UInt8) : decide ((6 : Int) < (w.length : Int)) = decide (6 < w.length) := by
  rw [decide_eq_decide]; omega
theorem e48 (w : List UInt8) : (((w.getD 0 0).toNat : Int) == 48) = decide (w.getD 0 0 = 48) := by
  by_cases h : w.getD 0 0 = 48
  · rw [h]; rfl
  · rw [fal_of h, beq_eq_false_iff_ne]
    intro h2
    exact h (UInt8.toNat_inj.1 (by show _ = 48; omega))
theorem dec_ (s : List UInt8) (hs : s.length ≤ 1000000) : CallG gsT Tryd.prog 75 [S s] (.tup [.agg [ci (dcR s).1, ci (dcR s).2.1], Wb1 (dcR s).2.2]) := by
  by_cases h18 : 18 < s.length
  · have e : dcR s = (0, 0, false) := by rw [dcR, decQ, if_pos h18]
    have h1 : decide ((18 : Int) < s.length) = true := tru_of (by omega)
    rw [e]
    refine CallG.mk 100 Tryd.func75 rfl en75 (by simp [Tryd.ntmps75]) (ClA.of rfl) fun C hR hP hG => ?_
    simp (config := { maxSteps := 2000000 }) only [go_sem, Nat.reduceBEq, Nat.reduceAdd, Nat.reduceLT, Nat.reduceLeDiff, Nat.reduceEqDiff, reduceCtorEq, Int.reduceAdd, Int.reduceSub, Int.reduceNeg, Int.reduceLE, Int.reduceLT, Int.reduceToNat, Int.reduceBEq, Int.reduceBNe, Int.reduceEq, Int.reduceNe, Int.toNat_zero, Int.toNat_one, bne_self_eq_false, Nat.reduceMul, Nat.zero_mul, Nat.mul_one, Nat.one_mul, Nat.reduceSub, Int.cast_ofNat_Int, Int.toNat_natCast, h1]
    exact RetQ.of hR rfl (by simp (config := { maxSteps := 2000000 }) only [go_sem, Nat.reduceBEq, Nat.reduceAdd, Nat.reduceLT, Nat.reduceLeDiff, Nat.reduceEqDiff, reduceCtorEq, Int.reduceAdd, Int.reduceSub, Int.reduceNeg, Int.reduceLE, Int.reduceLT, Int.reduceToNat, Int.reduceBEq, Int.reduceBNe, Int.reduceEq, Int.reduceNe, Int.toNat_zero, Int.toNat_one, bne_self_eq_false, Nat.reduceMul, Nat.zero_mul, Nat.mul_one, Nat.one_mul, Nat.reduceSub, Int.cast_ofNat_Int, Int.toNat_natCast]) (by simp (config := { maxSteps := 2000000 }) only [go_sem, Nat.reduceBEq, Nat.reduceAdd, Nat.reduceLT, Nat.reduceLeDiff, Nat.reduceEqDiff, reduceCtorEq, Int.reduceAdd, Int.reduceSub, Int.reduceNeg, Int.reduceLE, Int.reduceLT, Int.reduceToNat, Int.reduceBEq, Int.reduceBNe, Int.reduceEq, Int.reduceNe, Int.toNat_zero, Int.toNat_one, bne_self_eq_false, Nat.reduceMul, Nat.zero_mul, Nat.mul_one, Nat.one_mul, Nat.reduceSub, Int.cast_ofNat_Int, Int.toNat_natCast] <;> rfl) (Sub.nil _) ClM.nil (ClV.of rfl)
  have h1 : decide ((18 : Int) < s.length) = false := fal_of (by omega)
  have hcl := cpf_len s
  have hcut := cutB_len 46 (cpf s).1
  have hno := cutB_no 46 (cpf s).1
  have hd : dcR s = match decQ s with
    | none => (0, 0, false)
    | some (n, d) => (n, d, true) := rfl
  unfold decQ at hd
  rw [if_neg h18] at hd
  have hsc := sCut (cpf s).1 46 (by omega)
  have hcp := cutPre s
  generalize cpf s = q at *
  obtain ⟨r, neg⟩ := q
  simp only at hd hcl hcut hno hsc hcp
  generalize cutB 46 r = q at *
  obtain ⟨w, f, b⟩ := q
  simp only at hd hcl hcut hno hsc
  refine CallG.mk 100 Tryd.func75 rfl en75 (by simp [Tryd.ntmps75]) (ClA.of rfl) fun C hR hP hG => ?_
  simp (config := { maxSteps := 2000000 }) only [go_sem, Nat.reduceBEq, Nat.reduceAdd, Nat.reduceLT, Nat.reduceLeDiff, Nat.reduceEqDiff, reduceCtorEq, Int.reduceAdd, Int.reduceSub, Int.reduceNeg, Int.reduceLE, Int.reduceLT, Int.reduceToNat, Int.reduceBEq, Int.reduceBNe, Int.reduceEq, Int.reduceNe, Int.toNat_zero, Int.toNat_one, bne_self_eq_false, Nat.reduceMul, Nat.zero_mul, Nat.mul_one, Nat.one_mul, Nat.reduceSub, Int.cast_ofNat_Int, Int.toNat_natCast, h1]
  refine CallQ.pure 110 hcp rfl ?_
  simp (config := { maxSteps := 2000000 }) only [go_sem, Nat.reduceBEq, Nat.reduceAdd, Nat.reduceLT, Nat.reduceLeDiff, Nat.reduceEqDiff, reduceCtorEq, Int.reduceAdd, Int.reduceSub, Int.reduceNeg, Int.reduceLE, Int.reduceLT, Int.reduceToNat, Int.reduceBEq, Int.reduceBNe, Int.reduceEq, Int.reduceNe, Int.toNat_zero, Int.toNat_one, bne_self_eq_false, Nat.reduceMul, Nat.zero_mul, Nat.mul_one, Nat.one_mul, Nat.reduceSub, Int.cast_ofNat_Int, Int.toNat_natCast]
  refine CallQ.pure 120 hsc rfl ?_
  simp (config := { maxSteps := 2000000 }) only [go_sem, Nat.reduceBEq, Nat.reduceAdd, Nat.reduceLT, Nat.reduceLeDiff, Nat.reduceEqDiff, reduceCtorEq, Int.reduceAdd, Int.reduceSub, Int.reduceNeg, Int.reduceLE, Int.reduceLT, Int.reduceToNat, Int.reduceBEq, Int.reduceBNe, Int.reduceEq, Int.reduceNe, Int.toNat_zero, Int.toNat_one, bne_self_eq_false, Nat.reduceMul, Nat.zero_mul, Nat.mul_one, Nat.one_mul, Nat.reduceSub, Int.cast_ofNat_Int, Int.toNat_natCast]
  have hbf : badF w f b = (decide (w = []) || ((decide (1 < w.length) && decide (w.getD 0 0 = 48)) || (b && (decide (f = []) || decide (6 < f.length))))) := rfl
  have hL : decide (1 < w.length) = true → (0 : Int) < w.length := fun h => by have := of_decide_eq_true h; omega
  rw [eNil w, eNil f, e48 w, eL1 w, eL6 f]
  generalize decide (w = []) = bA at *
  generalize decide (1 < w.length) = bL at *
  generalize decide (w.getD 0 0 = 48) = bZ at *
  generalize decide (f = []) = bF at *
  refine ⟨?_, ?_, ?_, ?_, ?_⟩
  · intro h; refine ⟨h, hL ?_⟩; simp only [Bool.and_eq_true] at h; exact h.2
  · intro h; refine ⟨h, fun h2 => ?_⟩; rw [h, h2]; rfl
  · intro h; refine ⟨h, fun h2 => ?_⟩; rw [h, h2]; rfl
  · intro h; refine ⟨h, fun h2 => ?_⟩; rw [h, h2]; rfl
  have hbq : (bif bif bA then true else bif bL then bZ else false then true else bif b then bif bF then true else decide (6 < f.length) else false) = badF w f b := by
    rw [hbf]
    cases bA <;> cases bL <;> cases bZ <;> cases b <;> cases bF <;> rfl
  rw [hbq]
  clear hbf hL hbq
  refine mtch (fun h => ?_) (fun h => ?_)
  · rw [h, if_pos rfl] at hd
    rw [hd] at hR
    exact RetQ.of hR rfl (by simp (config := { maxSteps := 2000000 }) only [go_sem, Nat.reduceBEq, Nat.reduceAdd, Nat.reduceLT, Nat.reduceLeDiff, Nat.reduceEqDiff, reduceCtorEq, Int.reduceAdd, Int.reduceSub, Int.reduceNeg, Int.reduceLE, Int.reduceLT, Int.reduceToNat, Int.reduceBEq, Int.reduceBNe, Int.reduceEq, Int.reduceNe, Int.toNat_zero, Int.toNat_one, bne_self_eq_false, Nat.reduceMul, Nat.zero_mul, Nat.mul_one, Nat.one_mul, Nat.reduceSub, Int.cast_ofNat_Int, Int.toNat_natCast]) (by simp (config := { maxSteps := 2000000 }) only [go_sem, Nat.reduceBEq, Nat.reduceAdd, Nat.reduceLT, Nat.reduceLeDiff, Nat.reduceEqDiff, reduceCtorEq, Int.reduceAdd, Int.reduceSub, Int.reduceNeg, Int.reduceLE, Int.reduceLT, Int.reduceToNat, Int.reduceBEq, Int.reduceBNe, Int.reduceEq, Int.reduceNe, Int.toNat_zero, Int.toNat_one, bne_self_eq_false, Nat.reduceMul, Nat.zero_mul, Nat.mul_one, Nat.one_mul, Nat.reduceSub, Int.cast_ofNat_Int, Int.toNat_natCast] <;> rfl) (Sub.nil _) ClM.nil (ClV.of rfl)
  rw [h, if_neg (by decide)] at hd
  refine ⟨by omega, ?_⟩
  have hf6 : f.length ≤ 6 := by
    cases b with
    | false => rw [hno rfl]; simp
    | true =>
      have h : badF w f true = false := h
      unfold badF at h
      simp at h
      omega
  have hwf : (w ++ f).length ≤ 18 := by simp; omega
  have hbx : ∀ l : List UInt8, (l.map bycell).all Cv.isV = true := fun l => by simp [bycell, Cv.isV]
  generalize hl : w ++ f = l at *
  refine Sm.loopM (M0 := []) (α := { x : Nat × Nat // x.1 ≤ l.length ∧ x.2 < 10 ^ x.1 ∧ numF x.2 (l.drop x.1) = numF 0 l }) hP
    (fun x => [(2, true, .c (.p 4 0)), (5, true, Bo neg), (7, true, S f), (9, true, I x.val.2), (55, true, slV 5 l.length), (56, true, I l.length), (57, true, I x.val.1)])
    (fun _ => [(4, ⟨false, [ci 0, ci 0], 62⟩), (5, ⟨true, l.map bycell, 5⟩)]) (fun x => l.length - x.val.1) ⟨(0, 0), by simp, by simp, by rfl⟩ (fun _ => ClM.of (by simp only [List.all_cons, inMV (hbx l)]; rfl)) (fun _ => ClE.of rfl) [(4, 100), (5, 120)] ?_ ?_
  · exact ⟨rfl, trivial, ⟨rfl, rfl, rfl, rfl, rfl, rfl, rfl, trivial⟩, ⟨.inr ⟨_, rfl, .inl rfl⟩, .inr ⟨_, rfl, .inl (renV (hbx _))⟩, trivial⟩⟩
  · rintro ⟨⟨i, n⟩, hi, hn, hnum⟩ J hb
    simp only at hb hi hn hnum ⊢
    refine Sm.go 170 ?_
    simp (config := { maxSteps := 2000000 }) only [go_sem, Nat.reduceBEq, Nat.reduceAdd, Nat.reduceLT, Nat.reduceLeDiff, Nat.reduceEqDiff, reduceCtorEq, Int.reduceAdd, Int.reduceSub, Int.reduceNeg, Int.reduceLE, Int.reduceLT, Int.reduceToNat, Int.reduceBEq, Int.reduceBNe, Int.reduceEq, Int.reduceNe, Int.toNat_zero, Int.toNat_one, bne_self_eq_false, Nat.reduceMul, Nat.zero_mul, Nat.mul_one, Nat.one_mul, Nat.reduceSub, Int.cast_ofNat_Int, Int.toNat_natCast]
    refine mtch (fun hc => ?_) (fun hc => ?_)
    · have hc : i < l.length := by have := of_decide_eq_true hc; omega
      have hdr : l.drop i = l.getD i 0 :: l.drop (i + 1) := by
        rw [List.getD_eq_getElem?_getD, List.getElem?_eq_getElem hc, List.drop_eq_getElem_cons hc]; rfl
      have hg : (l.map bycell)[i]? = some (bycell (l.getD i 0)) := by
        rw [List.getElem?_map, List.getElem?_eq_getElem hc, List.getD_eq_getElem?_getD, List.getElem?_eq_getElem hc]; rfl
      rw [hdr, numF] at hnum
      generalize l.getD i 0 = c at *
      simp (config := { maxSteps := 2000000 }) only [go_sem, Nat.reduceBEq, Nat.reduceAdd, Nat.reduceLT, Nat.reduceLeDiff, Nat.reduceEqDiff, reduceCtorEq, Int.reduceAdd, Int.reduceSub, Int.reduceNeg, Int.reduceLE, Int.reduceLT, Int.reduceToNat, Int.reduceBEq, Int.reduceBNe, Int.reduceEq, Int.reduceNe, Int.toNat_zero, Int.toNat_one, bne_self_eq_false, Nat.reduceMul, Nat.zero_mul, Nat.mul_one, Nat.one_mul, Nat.reduceSub, Int.cast_ofNat_Int, Int.toNat_natCast, hg, bycell]
      have hbb : (bif decide ((c.toNat : Int) < 48) then true else decide (57 < (c.toNat : Int))) = !digB c := by
        unfold digB
        by_cases h1 : 48 ≤ c.toNat
        · rw [fal_of (by omega : ¬ (c.toNat : Int) < 48), tru_of h1]
          by_cases h2 : c.toNat ≤ 57
          · rw [fal_of (by omega : ¬ (57 : Int) < c.toNat), tru_of h2]; rfl
          · rw [tru_of (by omega : (57 : Int) < c.toNat), fal_of h2]; rfl
        · rw [tru_of (by omega : (c.toNat : Int) < 48), fal_of h1]; rfl
      rw [hbb]
      refine ⟨⟨by omega, by omega⟩, ?_⟩
      refine mtch (fun hq => ?_) (fun hq => ?_)
      · have hq : ¬ digB c = true := by simpa using hq
        rw [if_neg hq] at hnum
        rw [← hnum] at hd
        simp only at hd
        rw [hd] at hR
        exact RetQ.of hR rfl (by simp (config := { maxSteps := 2000000 }) only [go_sem, Nat.reduceBEq, Nat.reduceAdd, Nat.reduceLT, Nat.reduceLeDiff, Nat.reduceEqDiff, reduceCtorEq, Int.reduceAdd, Int.reduceSub, Int.reduceNeg, Int.reduceLE, Int.reduceLT, Int.reduceToNat, Int.reduceBEq, Int.reduceBNe, Int.reduceEq, Int.reduceNe, Int.toNat_zero, Int.toNat_one, bne_self_eq_false, Nat.reduceMul, Nat.zero_mul, Nat.mul_one, Nat.one_mul, Nat.reduceSub, Int.cast_ofNat_Int, Int.toNat_natCast]) (by simp (config := { maxSteps := 2000000 }) only [go_sem, Nat.reduceBEq, Nat.reduceAdd, Nat.reduceLT, Nat.reduceLeDiff, Nat.reduceEqDiff, reduceCtorEq, Int.reduceAdd, Int.reduceSub, Int.reduceNeg, Int.reduceLE, Int.reduceLT, Int.reduceToNat, Int.reduceBEq, Int.reduceBNe, Int.reduceEq, Int.reduceNe, Int.toNat_zero, Int.toNat_one, bne_self_eq_false, Nat.reduceMul, Nat.zero_mul, Nat.mul_one, Nat.one_mul, Nat.reduceSub, Int.cast_ofNat_Int, Int.toNat_natCast] <;> rfl) (Sub.nil _) ClM.nil (ClV.of rfl)
      · have hq : digB c = true := by simpa using hq
        rw [if_pos hq] at hnum
        have hq2 : 48 ≤ c.toNat ∧ c.toNat ≤ 57 := by simpa [digB] using hq
        have hp17 : 10 ^ i ≤ 10 ^ 17 := Nat.pow_le_pow_right (by omega) (by omega)
        have hps : 10 ^ (i + 1) = 10 * 10 ^ i := by rw [Nat.pow_succ, Nat.mul_comm]
        have w1 : IntKind.i64.wrap (10 * (n : Int)) = 10 * (n : Int) := w64 (by omega) (by omega)
        have w2 : IntKind.u8.wrap ((c.toNat : Int) - 48) = ((c.toNat - 48 : Nat) : Int) := by rw [IntKind.wrap_u8]; omega
        have w3 : IntKind.i64.wrap ((c.toNat - 48 : Nat) : Int) = ((c.toNat - 48 : Nat) : Int) := w64 (by omega) (by omega)
        have w4 : IntKind.i64.wrap (10 * (n : Int) + ((c.toNat - 48 : Nat) : Int)) = ((10 * n + (c.toNat - 48) : Nat) : Int) := by rw [w64 (by omega) (by omega)]; omega
        have w5 : IntKind.i64.wrap ((i : Int) + 1) = ((i + 1 : Nat) : Int) := by rw [w64 (by omega) (by omega)]; omega
        simp only [w1, w2, w3, w4, w5]
        refine hb _ _ ⟨(i + 1, 10 * n + (c.toNat - 48)), hc, by simp only; omega, hnum⟩ [(4, 4), (5, 5)] (by simp only; omega) ?_
        exact ⟨rfl, trivial, ⟨rfl, rfl, rfl, rfl, rfl, rfl, rfl, trivial⟩, ⟨.inr ⟨_, rfl, .inl rfl⟩, .inr ⟨_, rfl, .inl (renV (hbx _))⟩, trivial⟩⟩
    · have hc : ¬ i < l.length := by have := of_decide_eq_false hc; omega
      have hc : i = l.length := by omega
      rw [hc, List.drop_length] at hnum
      have hnum : some n = numF 0 l := hnum
      rw [← hnum] at hd
      simp only at hd
      have hp18 : 10 ^ i ≤ 10 ^ 18 := Nat.pow_le_pow_right (by omega) (by omega)
      cases neg with
      | true =>
        simp (config := { maxSteps := 2000000 }) only [go_sem, Nat.reduceBEq, Nat.reduceAdd, Nat.reduceLT, Nat.reduceLeDiff, Nat.reduceEqDiff, reduceCtorEq, Int.reduceAdd, Int.reduceSub, Int.reduceNeg, Int.reduceLE, Int.reduceLT, Int.reduceToNat, Int.reduceBEq, Int.reduceBNe, Int.reduceEq, Int.reduceNe, Int.toNat_zero, Int.toNat_one, bne_self_eq_false, Nat.reduceMul, Nat.zero_mul, Nat.mul_one, Nat.one_mul, Nat.reduceSub, Int.cast_ofNat_Int, Int.toNat_natCast]
        refine mtch (fun hq => ?_) (fun hq => ?_)
        · have hq : n = 0 := by have : ((n : Int) = 0) := by simpa using hq
                                omega
          rw [if_pos ⟨rfl, hq⟩] at hd
          simp only at hd
          rw [hd] at hR
          exact RetQ.of hR rfl (by simp (config := { maxSteps := 2000000 }) only [go_sem, Nat.reduceBEq, Nat.reduceAdd, Nat.reduceLT, Nat.reduceLeDiff, Nat.reduceEqDiff, reduceCtorEq, Int.reduceAdd, Int.reduceSub, Int.reduceNeg, Int.reduceLE, Int.reduceLT, Int.reduceToNat, Int.reduceBEq, Int.reduceBNe, Int.reduceEq, Int.reduceNe, Int.toNat_zero, Int.toNat_one, bne_self_eq_false, Nat.reduceMul, Nat.zero_mul, Nat.mul_one, Nat.one_mul, Nat.reduceSub, Int.cast_ofNat_Int, Int.toNat_natCast]) (by simp (config := { maxSteps := 2000000 }) only [go_sem, Nat.reduceBEq, Nat.reduceAdd, Nat.reduceLT, Nat.reduceLeDiff, Nat.reduceEqDiff, reduceCtorEq, Int.reduceAdd, Int.reduceSub, Int.reduceNeg, Int.reduceLE, Int.reduceLT, Int.reduceToNat, Int.reduceBEq, Int.reduceBNe, Int.reduceEq, Int.reduceNe, Int.toNat_zero, Int.toNat_one, bne_self_eq_false, Nat.reduceMul, Nat.zero_mul, Nat.mul_one, Nat.one_mul, Nat.reduceSub, Int.cast_ofNat_Int, Int.toNat_natCast] <;> rfl) (Sub.nil _) ClM.nil (ClV.of rfl)
        · have hq : n ≠ 0 := by
            intro h; rw [h] at hq; simp at hq
          rw [if_neg (fun h => hq h.2), if_pos rfl] at hd
          simp only at hd
          rw [hd] at hR
          have w9 : IntKind.i64.wrap (0 - (n : Int)) = -(n : Int) := by rw [w64 (by omega) (by omega)]; omega
          have w9' : IntKind.i64.wrap (0 - (n : Int)) = 0 - (n : Int) := w64 (by omega) (by omega)
          simp only [w9]
          refine Sm.opq rfl rfl ⟨[], _, fun _ => Stp.addrG (g := 0) (off := 0) (k := f.length) rfl rfl rfl (len := 7) (sz := 1) rfl (by omega) (by omega), .inl rfl, ?_⟩
          refine Sm.go 200 ?_
          simp (config := { maxSteps := 2000000 }) only [go_sem, Nat.reduceBEq, Nat.reduceAdd, Nat.reduceLT, Nat.reduceLeDiff, Nat.reduceEqDiff, reduceCtorEq, Int.reduceAdd, Int.reduceSub, Int.reduceNeg, Int.reduceLE, Int.reduceLT, Int.reduceToNat, Int.reduceBEq, Int.reduceBNe, Int.reduceEq, Int.reduceNe, Int.toNat_zero, Int.toNat_one, bne_self_eq_false, Nat.reduceMul, Nat.zero_mul, Nat.mul_one, Nat.one_mul, Nat.reduceSub, Int.cast_ofNat_Int, Int.toNat_natCast]
          refine Sm.opC 200 rfl rfl (.inl rfl) (fun _ => StpC.ldG hG (g := 0) (i := f.length) (cs := tensV) (List.mem_singleton.2 rfl) (tens_get hf6) rfl rfl rfl) ?_
          simp (config := { maxSteps := 2000000 }) only [go_sem, Nat.reduceBEq, Nat.reduceAdd, Nat.reduceLT, Nat.reduceLeDiff, Nat.reduceEqDiff, reduceCtorEq, Int.reduceAdd, Int.reduceSub, Int.reduceNeg, Int.reduceLE, Int.reduceLT, Int.reduceToNat, Int.reduceBEq, Int.reduceBNe, Int.reduceEq, Int.reduceNe, Int.toNat_zero, Int.toNat_one, bne_self_eq_false, Nat.reduceMul, Nat.zero_mul, Nat.mul_one, Nat.one_mul, Nat.reduceSub, Int.cast_ofNat_Int, Int.toNat_natCast]
          exact RetQ.of hR rfl (by simp (config := { maxSteps := 2000000 }) only [go_sem, Nat.reduceBEq, Nat.reduceAdd, Nat.reduceLT, Nat.reduceLeDiff, Nat.reduceEqDiff, reduceCtorEq, Int.reduceAdd, Int.reduceSub, Int.reduceNeg, Int.reduceLE, Int.reduceLT, Int.reduceToNat, Int.reduceBEq, Int.reduceBNe, Int.reduceEq, Int.reduceNe, Int.toNat_zero, Int.toNat_one, bne_self_eq_false, Nat.reduceMul, Nat.zero_mul, Nat.mul_one, Nat.one_mul, Nat.reduceSub, Int.cast_ofNat_Int, Int.toNat_natCast]) (by simp (config := { maxSteps := 2000000 }) only [go_sem, Nat.reduceBEq, Nat.reduceAdd, Nat.reduceLT, Nat.reduceLeDiff, Nat.reduceEqDiff, reduceCtorEq, Int.reduceAdd, Int.reduceSub, Int.reduceNeg, Int.reduceLE, Int.reduceLT, Int.reduceToNat, Int.reduceBEq, Int.reduceBNe, Int.reduceEq, Int.reduceNe, Int.toNat_zero, Int.toNat_one, bne_self_eq_false, Nat.reduceMul, Nat.zero_mul, Nat.mul_one, Nat.one_mul, Nat.reduceSub, Int.cast_ofNat_Int, Int.toNat_natCast] <;> rfl) (Sub.nil _) ClM.nil (ClV.of rfl)
      | false =>
        rw [if_neg (fun h => by cases h.1), if_neg (by decide)] at hd
        simp only at hd
        rw [hd] at hR
        simp (config := { maxSteps := 2000000 }) only [go_sem, Nat.reduceBEq, Nat.reduceAdd, Nat.reduceLT, Nat.reduceLeDiff, Nat.reduceEqDiff, reduceCtorEq, Int.reduceAdd, Int.reduceSub, Int.reduceNeg, Int.reduceLE, Int.reduceLT, Int.reduceToNat, Int.reduceBEq, Int.reduceBNe, Int.reduceEq, Int.reduceNe, Int.toNat_zero, Int.toNat_one, bne_self_eq_false, Nat.reduceMul, Nat.zero_mul, Nat.mul_one, Nat.one_mul, Nat.reduceSub, Int.cast_ofNat_Int, Int.toNat_natCast]
        refine Sm.opq rfl rfl ⟨[], _, fun _ => Stp.addrG (g := 0) (off := 0) (k := f.length) rfl rfl rfl (len := 7) (sz := 1) rfl (by omega) (by omega), .inl rfl, ?_⟩
        refine Sm.go 200 ?_
        simp (config := { maxSteps := 2000000 }) only [go_sem, Nat.reduceBEq, Nat.reduceAdd, Nat.reduceLT, Nat.reduceLeDiff, Nat.reduceEqDiff, reduceCtorEq, Int.reduceAdd, Int.reduceSub, Int.reduceNeg, Int.reduceLE, Int.reduceLT, Int.reduceToNat, Int.reduceBEq, Int.reduceBNe, Int.reduceEq, Int.reduceNe, Int.toNat_zero, Int.toNat_one, bne_self_eq_false, Nat.reduceMul, Nat.zero_mul, Nat.mul_one, Nat.one_mul, Nat.reduceSub, Int.cast_ofNat_Int, Int.toNat_natCast]
        refine Sm.opC 200 rfl rfl (.inl rfl) (fun _ => StpC.ldG hG (g := 0) (i := f.length) (cs := tensV) (List.mem_singleton.2 rfl) (tens_get hf6) rfl rfl rfl) ?_
        simp (config := { maxSteps := 2000000 }) only [go_sem, Nat.reduceBEq, Nat.reduceAdd, Nat.reduceLT, Nat.reduceLeDiff, Nat.reduceEqDiff, reduceCtorEq, Int.reduceAdd, Int.reduceSub, Int.reduceNeg, Int.reduceLE, Int.reduceLT, Int.reduceToNat, Int.reduceBEq, Int.reduceBNe, Int.reduceEq, Int.reduceNe, Int.toNat_zero, Int.toNat_one, bne_self_eq_false, Nat.reduceMul, Nat.zero_mul, Nat.mul_one, Nat.one_mul, Nat.reduceSub, Int.cast_ofNat_Int, Int.toNat_natCast]
        exact RetQ.of hR rfl (by simp (config := { maxSteps := 2000000 }) only [go_sem, Nat.reduceBEq, Nat.reduceAdd, Nat.reduceLT, Nat.reduceLeDiff, Nat.reduceEqDiff, reduceCtorEq, Int.reduceAdd, Int.reduceSub, Int.reduceNeg, Int.reduceLE, Int.reduceLT, Int.reduceToNat, Int.reduceBEq, Int.reduceBNe, Int.reduceEq, Int.reduceNe, Int.toNat_zero, Int.toNat_one, bne_self_eq_false, Nat.reduceMul, Nat.zero_mul, Nat.mul_one, Nat.one_mul, Nat.reduceSub, Int.cast_ofNat_Int, Int.toNat_natCast]) (by simp (config := { maxSteps := 2000000 }) only [go_sem, Nat.reduceBEq, Nat.reduceAdd, Nat.reduceLT, Nat.reduceLeDiff, Nat.reduceEqDiff, reduceCtorEq, Int.reduceAdd, Int.reduceSub, Int.reduceNeg, Int.reduceLE, Int.reduceLT, Int.reduceToNat, Int.reduceBEq, Int.reduceBNe, Int.reduceEq, Int.reduceNe, Int.toNat_zero, Int.toNat_one, bne_self_eq_false, Nat.reduceMul, Nat.zero_mul, Nat.mul_one, Nat.one_mul, Nat.reduceSub, Int.cast_ofNat_Int, Int.toNat_natCast] <;> rfl) (Sub.nil _) ClM.nil (ClV.of rfl)
end Go.Proofs.YtoioclmfjmgaaaaDoor.Fx
