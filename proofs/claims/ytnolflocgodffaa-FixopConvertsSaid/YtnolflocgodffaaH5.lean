/- Big integers: Add of the same sign. -/
import Derived.Test.YtnolflocgodffaaH4
namespace Go.Proofs.Ytnolflocgodffaa
open Vg Tf
set_option linter.unusedSimpArgs false
set_option linter.unusedVariables false
set_option maxRecDepth 100000
set_option maxHeartbeats 2000000
@[reducible] def bs (nm : Nat) (neg : Bool) (a : Nat) : V := .agg [.v (.bool neg), .sl nm 0 (dg a).length 1]
@[reducible] def adE (i c : Nat) : Env := [(2, true, .c (.p 4 0)), (3, true, .c (.p 5 0)), (4, true, .c (.p 6 0)), (5, true, sL 7 i), (6, true, I c), (7, true, I i)]
@[reducible] def adM (neg : Bool) (a b : Nat) (out : List Nat) : Mem := [(4, ⟨false, [.v (.bool neg), .sl 1 0 (dg a).length 1], 81⟩), (5, ⟨false, [.v (.bool neg), .sl 2 0 (dg b).length 1], 81⟩), (6, ⟨false, [.v (.bool false), .v (.slice none 0 0)], 81⟩), (7, ⟨false, out.map dC, 3⟩), inB 1 (dg a), inB 2 (dg b)]
structure AdI (a b : Nat) (i c : Nat) (out : List Nat) : Prop where
  len : out.length = i
  lt : ∀ d ∈ out, d < (16777216 : Nat)
  c1 : c ≤ 1
  val : bval out + (16777216 : Nat) ^ i * (c + bval ((dg a).drop i) + bval ((dg b).drop i)) = a + b
  fin : i ≤ max (dg a).length (dg b).length ∨ (i = max (dg a).length (dg b).length + 1 ∧ (16777216 : Nat) ^ max (dg a).length (dg b).length ≤ a + b ∧ c = 0)
theorem AdI.step {a b i c : Nat} {out : List Nat} (h : AdI a b i c out) (hc : i < (dg a).length ∨ i < (dg b).length ∨ 0 < c) :
    AdI a b (i + 1) (((dg a).getD i 0 + (dg b).getD i 0 + c) / (16777216 : Nat)) (out ++ [((dg a).getD i 0 + (dg b).getD i 0 + c) % (16777216 : Nat)]) := by
  have ha : (dg a).getD i 0 < (16777216 : Nat) := by
    rw [List.getD_eq_getElem?_getD]
    cases hh : (dg a)[i]? with
    | none => simp
    | some d => exact dg_lt a d (List.mem_of_getElem? hh)
  have hb : (dg b).getD i 0 < (16777216 : Nat) := by
    rw [List.getD_eq_getElem?_getD]
    cases hh : (dg b)[i]? with
    | none => simp
    | some d => exact dg_lt b d (List.mem_of_getElem? hh)
  have hv := h.val
  rw [bval_drop (dg a) i, bval_drop (dg b) i] at hv
  have hA : (dg a).length ≤ i → (dg a).getD i 0 = 0 := fun hh => by rw [List.getD_eq_getElem?_getD, List.getElem?_eq_none hh]; rfl
  have hB : (dg b).length ≤ i → (dg b).getD i 0 = 0 := fun hh => by rw [List.getD_eq_getElem?_getD, List.getElem?_eq_none hh]; rfl
  generalize (dg a).getD i 0 = x at *
  generalize (dg b).getD i 0 = y at *
  have c1 := h.c1
  refine ⟨by simp [h.len], ?_, by omega, ?_, ?_⟩
  · intro d hd
    rcases List.mem_append.1 hd with hd | hd
    · exact h.lt d hd
    · rw [List.mem_singleton.1 hd]; exact Nat.mod_lt _ (by omega)
  · rw [bval_append, h.len, ← hv]
    have e := Nat.mod_add_div (x + y + c) (16777216 : Nat)
    generalize (x + y + c) % (16777216 : Nat) = r at *
    generalize (x + y + c) / (16777216 : Nat) = q at *
    simp only [bval, Nat.pow_succ, Nat.mul_zero, Nat.add_zero]
    have e2 : c + (x + (16777216 : Nat) * bval ((dg a).drop (i + 1))) + (y + (16777216 : Nat) * bval ((dg b).drop (i + 1))) = r + (16777216 : Nat) * (q + bval ((dg a).drop (i + 1)) + bval ((dg b).drop (i + 1))) := by
      rw [Nat.mul_add, Nat.mul_add]; omega
    rw [e2, Nat.mul_add ((16777216 : Nat) ^ i), Nat.mul_assoc]
    omega
  · have hf := h.fin
    by_cases hi : i < (dg a).length ∨ i < (dg b).length
    · omega
    · have h1 := hA (by omega); have h2 := hB (by omega)
      have hi2 : i = max (dg a).length (dg b).length := by omega
      refine .inr ⟨by omega, ?_, by omega⟩
      have h3 := Nat.mul_le_mul_left ((16777216 : Nat) ^ i) (show 1 ≤ c + (x + (16777216 : Nat) * bval ((dg a).drop (i + 1))) + (y + (16777216 : Nat) * bval ((dg b).drop (i + 1))) by omega)
      rw [← hi2]
      omega
theorem AdI.done {a b i c : Nat} {out : List Nat} (h : AdI a b i c out) (hc : ¬ (i < (dg a).length ∨ i < (dg b).length ∨ 0 < c)) : bval out = a + b := by
  have hv := h.val
  rw [List.drop_eq_nil_of_le (by omega), List.drop_eq_nil_of_le (by omega), show c = 0 by omega] at hv
  simpa [bval] using hv
def adP (a b : Nat) : List Nat := List.replicate ((if a + b < (16777216 : Nat) ^ max (dg a).length (dg b).length then max (dg a).length (dg b).length else max (dg a).length (dg b).length + 1) - (dg (a + b)).length) 0
theorem AdI.out {a b i c : Nat} {out : List Nat} (h : AdI a b i c out) (hc : ¬ (i < (dg a).length ∨ i < (dg b).length ∨ 0 < c)) : out = dg (a + b) ++ adP a b := by
  obtain ⟨k, hk⟩ := dg_split out h.lt
  have hd := h.done hc
  rw [hd] at hk
  have hl := congrArg List.length hk
  rw [List.length_append, List.length_replicate, h.len] at hl
  have hlt := bval_lt out h.lt
  rw [hd, h.len] at hlt
  have hf := h.fin
  rw [adP]
  have : (if a + b < (16777216 : Nat) ^ max (dg a).length (dg b).length then max (dg a).length (dg b).length else max (dg a).length (dg b).length + 1) = i := by
    rcases hf with hf | ⟨hf, hg, _⟩
    · have e : max (dg a).length (dg b).length = i := by omega
      rw [e, if_pos hlt]
    · rw [if_neg (by omega), hf]
  rw [this, show i - (dg (a + b)).length = k by omega]
  exact hk
theorem condT {p q r : Bool} (h : p = true ∨ q = true ∨ r = true) : (bif bif p then true else q then true else r) = true := by
  cases p <;> cases q <;> cases r <;> simp_all
theorem condF {p q r : Bool} (h : ¬ (p = true ∨ q = true ∨ r = true)) : (bif bif p then true else q then true else r) = false := by
  cases p <;> cases q <;> cases r <;> simp_all
theorem dg_d (a i : Nat) : (dg a).getD i 0 < (16777216 : Nat) := by
  rw [List.getD_eq_getElem?_getD]
  cases hh : (dg a)[i]? with
  | none => simp
  | some d => exact dg_lt a d (List.mem_of_getElem? hh)
theorem zaddS (neg : Bool) (a b : Nat) (hla : (dg a).length ≤ 1000000) (hlb : (dg b).length ≤ 1000000) : CallOk Try.prog 74 [bs 1 neg a, bs 2 neg b] [inB 1 (dg a), inB 2 (dg b)] (bs 3 neg (a + b)) [(3, ⟨false, (dg (a + b) ++ adP a b).map dC, 3⟩)] := by
  refine CallOk.mkN 100 Try.func74 rfl en74 (by simp [Try.ntmps74]) (ClA.of rfl) rfl rfl fun C hR hP => ?_
  have hM0 : ClM [inB 1 (dg a), inB 2 (dg b)] := ClM.of (by simp [Cv.inM])
  simp (config := { maxSteps := 2000000 }) only [go_sem, Nat.reduceBEq, Nat.reduceAdd, Nat.reduceLT, Nat.reduceLeDiff, Nat.reduceEqDiff, reduceCtorEq, Int.reduceAdd, Int.reduceSub, Int.reduceNeg, Int.reduceLE, Int.reduceLT, Int.reduceToNat, Int.reduceBEq, Int.reduceBNe, Int.reduceEq, Int.reduceNe, Int.toNat_zero, Int.toNat_one, bne_self_eq_false, Nat.reduceMul, Nat.zero_mul, Nat.mul_one, Nat.one_mul, Nat.reduceSub, Int.cast_ofNat_Int, Int.toNat_natCast]
  refine Sm.nils 110 1 3 [5] [] rfl ?_
  simp (config := { maxSteps := 2000000 }) only [go_sem, Nat.reduceBEq, Nat.reduceAdd, Nat.reduceLT, Nat.reduceLeDiff, Nat.reduceEqDiff, reduceCtorEq, Int.reduceAdd, Int.reduceSub, Int.reduceNeg, Int.reduceLE, Int.reduceLT, Int.reduceToNat, Int.reduceBEq, Int.reduceBNe, Int.reduceEq, Int.reduceNe, Int.toNat_zero, Int.toNat_one, bne_self_eq_false, Nat.reduceMul, Nat.zero_mul, Nat.mul_one, Nat.one_mul, Nat.reduceSub, Int.cast_ofNat_Int, Int.toNat_natCast]
  refine Sm.loopM (M0 := [inB 1 (dg a), inB 2 (dg b)]) (α := { s : Nat × Nat × List Nat // AdI a b s.1 s.2.1 s.2.2 }) hP (fun s => adE s.val.1 s.val.2.1) (fun s => adM neg a b s.val.2.2) (fun s => (dg a).length + (dg b).length + 2 - s.val.1) ⟨(0, 0, []), ⟨rfl, by simp, Nat.zero_le _, by simp [bval, bval_dg], .inl (Nat.zero_le _)⟩⟩
    (fun _ => ClM.of (by simp [Cv.inM, Mem.get])) (fun _ => ClE.of rfl) [(1, 1), (2, 2), (4, 100), (5, 101), (6, 102), (7, 110)] ?_ ?_
  · exact ⟨rfl, ⟨⟨rfl, rfl⟩, ⟨rfl, rfl⟩, trivial⟩, ⟨rfl, rfl, rfl, rfl, rfl, rfl, trivial⟩, ⟨.inr ⟨_, rfl, .inl rfl⟩, .inr ⟨_, rfl, .inl rfl⟩, .inr ⟨_, rfl, .inl rfl⟩, .inr ⟨_, rfl, .inl rfl⟩, .inr ⟨_, rfl, .inl (inB_ren _ _ _ _)⟩, .inr ⟨_, rfl, .inl (inB_ren _ _ _ _)⟩, trivial⟩⟩
  · rintro ⟨⟨i, c, out⟩, hI⟩ J hb
    simp only at hb hI ⊢
    refine Sm.go 120 ?_
    simp (config := { maxSteps := 2000000 }) only [go_sem, Nat.reduceBEq, Nat.reduceAdd, Nat.reduceLT, Nat.reduceLeDiff, Nat.reduceEqDiff, reduceCtorEq, Int.reduceAdd, Int.reduceSub, Int.reduceNeg, Int.reduceLE, Int.reduceLT, Int.reduceToNat, Int.reduceBEq, Int.reduceBNe, Int.reduceEq, Int.reduceNe, Int.toNat_zero, Int.toNat_one, bne_self_eq_false, Nat.reduceMul, Nat.zero_mul, Nat.mul_one, Nat.one_mul, Nat.reduceSub, Int.cast_ofNat_Int, Int.toNat_natCast]
    by_cases hc : i < (dg a).length ∨ i < (dg b).length ∨ 0 < c
    · have e1 := condT (p := decide ((i : Int) < ((dg a).length : Int))) (q := decide ((i : Int) < ((dg b).length : Int))) (r := decide ((0 : Int) < (c : Int))) (by simp only [decide_eq_true_eq]; omega)
      simp only [e1]
      refine Sm.dgo 120 11 mix (by decide +kernel) (by decide +kernel) ?_
      simp (config := { maxSteps := 2000000 }) only [go_sem, Nat.reduceBEq, Nat.reduceAdd, Nat.reduceLT, Nat.reduceLeDiff, Nat.reduceEqDiff, reduceCtorEq, Int.reduceAdd, Int.reduceSub, Int.reduceNeg, Int.reduceLE, Int.reduceLT, Int.reduceToNat, Int.reduceBEq, Int.reduceBNe, Int.reduceEq, Int.reduceNe, Int.toNat_zero, Int.toNat_one, bne_self_eq_false, Nat.reduceMul, Nat.zero_mul, Nat.mul_one, Nat.one_mul, Nat.reduceSub, Int.cast_ofNat_Int, Int.toNat_natCast]
      refine DCallQ.ren [(1, 1)] 120 (digit_ (dg a) i) (ClM.of (by simp [Cv.inM])) rfl rfl ⟨⟨_, rfl, .inl (inB_ren _ _ _ _)⟩, trivial⟩ rfl (.inr rfl) rfl rfl ?_
      simp (config := { maxSteps := 2000000 }) only [go_sem, Nat.reduceBEq, Nat.reduceAdd, Nat.reduceLT, Nat.reduceLeDiff, Nat.reduceEqDiff, reduceCtorEq, Int.reduceAdd, Int.reduceSub, Int.reduceNeg, Int.reduceLE, Int.reduceLT, Int.reduceToNat, Int.reduceBEq, Int.reduceBNe, Int.reduceEq, Int.reduceNe, Int.toNat_zero, Int.toNat_one, bne_self_eq_false, Nat.reduceMul, Nat.zero_mul, Nat.mul_one, Nat.one_mul, Nat.reduceSub, Int.cast_ofNat_Int, Int.toNat_natCast]
      refine DCallQ.ren [(1, 2)] 120 (digit_ (dg b) i) (ClM.of (by simp [Cv.inM])) rfl rfl ⟨⟨_, rfl, .inl (inB_ren _ _ _ _)⟩, trivial⟩ rfl (.inr rfl) rfl rfl ?_
      simp (config := { maxSteps := 2000000 }) only [go_sem, Nat.reduceBEq, Nat.reduceAdd, Nat.reduceLT, Nat.reduceLeDiff, Nat.reduceEqDiff, reduceCtorEq, Int.reduceAdd, Int.reduceSub, Int.reduceNeg, Int.reduceLE, Int.reduceLT, Int.reduceToNat, Int.reduceBEq, Int.reduceBNe, Int.reduceEq, Int.reduceNe, Int.toNat_zero, Int.toNat_one, bne_self_eq_false, Nat.reduceMul, Nat.zero_mul, Nat.mul_one, Nat.one_mul, Nat.reduceSub, Int.cast_ofNat_Int, Int.toNat_natCast]
      have hx := dg_d a i
      have hy := dg_d b i
      have hst := hI.step hc
      have hlen := hI.len
      have hf := hI.fin
      have hc1 := hI.c1
      generalize (dg a).getD i 0 = x at *
      generalize (dg b).getD i 0 = y at *
      have w1 : IntKind.i64.wrap ((x : Int) + (y : Int)) = (x : Int) + y := w64 (by omega) (by omega)
      have w2 : IntKind.i64.wrap ((x : Int) + (y : Int) + c) = ((x + y + c : Nat) : Int) := by rw [w64 (by omega) (by omega)]; omega
      have w3 : ((x + y + c : Nat) : Int).tdiv 16777216 = (((x + y + c) / (16777216 : Nat) : Nat) : Int) := by rw [Int.tdiv_eq_ediv_of_nonneg (by omega)]; rfl
      have w4 : ((x + y + c : Nat) : Int).tmod 16777216 = (((x + y + c) % (16777216 : Nat) : Nat) : Int) := by rw [Int.tmod_eq_emod_of_nonneg (by omega)]; rfl
      have w5 : IntKind.i64.wrap (((x + y + c) / (16777216 : Nat) : Nat) : Int) = (((x + y + c) / (16777216 : Nat) : Nat) : Int) := w64 (by omega) (by omega)
      have w6 : IntKind.i64.wrap ((i : Int) + 1) = ((i + 1 : Nat) : Int) := by rw [w64 (by omega) (by omega)]; omega
      have htk : List.take i (List.map dC out) = List.map dC out := List.take_of_length_le (by simp; omega)
      simp only [w1, w2, w3, w4, w5, w6, htk]
      exact ⟨⟨by simp; omega, by omega, by omega⟩, hb _ _ ⟨(i + 1, (x + y + c) / (16777216 : Nat), out ++ [(x + y + c) % (16777216 : Nat)]), hst⟩ [(1, 1), (2, 2), (4, 4), (5, 5), (6, 6), (7, 121)] (by simp only; omega) ⟨rfl, ⟨⟨rfl, rfl⟩, ⟨rfl, rfl⟩, trivial⟩, ⟨rfl, rfl, rfl, rfl, rfl, rfl, trivial⟩, ⟨.inr ⟨_, rfl, .inl rfl⟩, .inr ⟨_, rfl, .inl rfl⟩, .inr ⟨_, rfl, .inl rfl⟩, .inr ⟨_, rfl, .inl (by rw [inB_ren]; simp)⟩, .inr ⟨_, rfl, .inl (inB_ren _ _ _ _)⟩, .inr ⟨_, rfl, .inl (inB_ren _ _ _ _)⟩, trivial⟩⟩⟩
    · have e1 := condF (p := decide ((i : Int) < ((dg a).length : Int))) (q := decide ((i : Int) < ((dg b).length : Int))) (r := decide ((0 : Int) < (c : Int))) (by simp only [decide_eq_true_eq]; omega)
      simp only [e1]
      have ho := hI.out hc
      have hlt := hI.lt
      have hv := hI.done hc
      have hf := hI.fin
      have hl := hI.len
      have htr := trim_ out hlt (by omega)
      rw [hl, hv] at htr
      refine Sm.dgo 120 5 mix (by decide +kernel) (by decide +kernel) ?_
      simp (config := { maxSteps := 2000000 }) only [go_sem, Nat.reduceBEq, Nat.reduceAdd, Nat.reduceLT, Nat.reduceLeDiff, Nat.reduceEqDiff, reduceCtorEq, Int.reduceAdd, Int.reduceSub, Int.reduceNeg, Int.reduceLE, Int.reduceLT, Int.reduceToNat, Int.reduceBEq, Int.reduceBNe, Int.reduceEq, Int.reduceNe, Int.toNat_zero, Int.toNat_one, bne_self_eq_false, Nat.reduceMul, Nat.zero_mul, Nat.mul_one, Nat.one_mul, Nat.reduceSub, Int.cast_ofNat_Int, Int.toNat_natCast]
      refine DCallQ.ren [(1, 7)] 120 htr (ClM.of (by simp [Cv.inM])) rfl rfl ⟨⟨_, rfl, .inr ⟨rfl, [], by simp [Bk.ren, Function.comp_def, Cv.ren]⟩⟩, trivial⟩ rfl (.inr rfl) rfl rfl ?_
      simp (config := { maxSteps := 2000000 }) only [go_sem, Nat.reduceBEq, Nat.reduceAdd, Nat.reduceLT, Nat.reduceLeDiff, Nat.reduceEqDiff, reduceCtorEq, Int.reduceAdd, Int.reduceSub, Int.reduceNeg, Int.reduceLE, Int.reduceLT, Int.reduceToNat, Int.reduceBEq, Int.reduceBNe, Int.reduceEq, Int.reduceNe, Int.toNat_zero, Int.toNat_one, bne_self_eq_false, Nat.reduceMul, Nat.zero_mul, Nat.mul_one, Nat.one_mul, Nat.reduceSub, Int.cast_ofNat_Int, Int.toNat_natCast]
      exact RetQ.ren [(1, 1), (2, 2), (3, 7)] hR hP rfl (by simp (config := { maxSteps := 2000000 }) only [go_sem, Nat.reduceBEq, Nat.reduceAdd, Nat.reduceLT, Nat.reduceLeDiff, Nat.reduceEqDiff, reduceCtorEq, Int.reduceAdd, Int.reduceSub, Int.reduceNeg, Int.reduceLE, Int.reduceLT, Int.reduceToNat, Int.reduceBEq, Int.reduceBNe, Int.reduceEq, Int.reduceNe, Int.toNat_zero, Int.toNat_one, bne_self_eq_false, Nat.reduceMul, Nat.zero_mul, Nat.mul_one, Nat.one_mul, Nat.reduceSub, Int.cast_ofNat_Int, Int.toNat_natCast]) rfl rfl ⟨⟨rfl, rfl⟩, ⟨rfl, rfl⟩, trivial⟩ ⟨.inr ⟨_, rfl, .inl (by rw [inB_ren, ho])⟩, .inr ⟨_, rfl, .inl (inB_ren _ _ _ _)⟩, .inr ⟨_, rfl, .inl (inB_ren _ _ _ _)⟩, trivial⟩ (ClM.of (by simp [Cv.inM])) (ClV.of rfl)
end Go.Proofs.Ytnolflocgodffaa
