/- Package blocklex: letters, words, kinds, names. -/
import Derived.Test.YtkciabfilokfiaaGreatQ1
namespace Go.Proofs.YtkciabfilokfiaaGreat.Fx
open Vg Tf
set_option linter.unusedSimpArgs false
set_option linter.unusedVariables false
set_option maxRecDepth 100000
set_option maxHeartbeats 4000000
@[go_sem ↓] theorem plS_7_1 : plS 7 1 = [(0, 1), (1, 1), (2, 1), (3, 1), (4, 1), (5, 1), (6, 1)] := rfl
@[go_sem ↓] theorem plS_21_4 : plS 21 4 = [(0, 4), (4, 4), (8, 4), (12, 4), (16, 4), (20, 4), (24, 4), (28, 4), (32, 4), (36, 4), (40, 4), (44, 4), (48, 4), (52, 4), (56, 4), (60, 4), (64, 4), (68, 4), (72, 4), (76, 4), (80, 4)] := rfl
theorem band_ (a b : Bool) : (bif a then b else false) = (a && b) := by cases a <;> rfl
theorem bor_ (a b : Bool) : (bif a then true else b) = (a || b) := by cases a <;> rfl
theorem letter_ (c : UInt8) : CallOk Tryz.prog 140 [Y c.toNat] [] (Bo (leB c)) [] := by
  refine CallOk.mkN 100 Tryz.func140 rfl en140 (by simp [Tryz.ntmps140]) (ClA.of rfl) rfl rfl fun C hR hP => ?_
  refine vv ?_
  refine ⟨fun h => ⟨h, fun h2 => by rw [h, h2]; rfl⟩, ?_⟩
  refine RetQ.bool hR rfl ⟨rfl, trivial⟩ ?_
  unfold leB
  simp only [band_, bor_]
  have e1 : decide ((97 : Int) ≤ (c.toNat : Int)) = decide (97 ≤ c.toNat) := by rw [decide_eq_decide]; omega
  have e2 : decide ((c.toNat : Int) ≤ 122) = decide (c.toNat ≤ 122) := by rw [decide_eq_decide]; omega
  have e3 : decide ((65 : Int) ≤ (c.toNat : Int)) = decide (65 ≤ c.toNat) := by rw [decide_eq_decide]; omega
  have e4 : decide ((c.toNat : Int) ≤ 90) = decide (c.toNat ≤ 90) := by rw [decide_eq_decide]; omega
  rw [e1, e2, e3, e4]
theorem digit_ (c : UInt8) : CallOk Tryz.prog 197 [Y c.toNat] [] (Bo (diB c)) [] := by
  refine CallOk.mkN 100 Tryz.func197 rfl en197 (by simp [Tryz.ntmps197]) (ClA.of rfl) rfl rfl fun C hR hP => ?_
  refine vv ?_
  refine RetQ.bool hR rfl ⟨rfl, trivial⟩ ?_
  unfold diB
  simp only [band_, bor_]
  have e1 : decide ((48 : Int) ≤ (c.toNat : Int)) = decide (48 ≤ c.toNat) := by rw [decide_eq_decide]; omega
  have e2 : decide ((c.toNat : Int) ≤ 57) = decide (c.toNat ≤ 57) := by rw [decide_eq_decide]; omega
  rw [e1, e2]
theorem inner_ (c : UInt8) : CallOk Tryz.prog 142 [Y c.toNat] [] (Bo (inB c)) [] := by
  refine CallOk.mkN 100 Tryz.func142 rfl en142 (by simp [Tryz.ntmps142]) (ClA.of rfl) rfl rfl fun C hR hP => ?_
  refine vv ?_
  refine CallQ.pure 110 (letter_ c) rfl ?_
  refine vv ?_
  refine CallQ.guard 110 (fun _ => digit_ c) (fun h => by rw [h]; rfl) ?_
  refine vv ?_
  refine RetQ.bool hR rfl ⟨rfl, trivial⟩ ?_
  unfold inB
  simp only [band_, bor_]
  have e1 : ((c.toNat : Int) == 95) = decide (c.toNat = 95) := by
    rw [Bool.eq_iff_iff, beq_iff_eq, decide_eq_true_eq]; omega
  rw [e1, Bool.or_assoc]
/-- How many bytes have a property, from a place on. -/
def runN (p : UInt8 → Bool) (s : Str) (k : Nat) : Nat := ((s.drop k).takeWhile p).length
theorem run_ (s : Str) (k : Nat) (hk : k ≤ s.length) (hs : s.length ≤ 1000000000000000) (g : FuncId) (p : UInt8 → Bool) (hp : ∀ c : UInt8, CallOk Tryz.prog g [Y c.toNat] [] (Bo (p c)) []) :
    CallOk Tryz.prog 141 [S s, I k, .c (.v (.func (.func g) #[] #[]))] [] (I (runN p s k)) [] := by
  refine CallOk.mkN 100 Tryz.func141 rfl en141 (by simp [Tryz.ntmps141]) (ClA.of rfl) rfl rfl fun C hR hP => ?_
  refine vv ?_
  refine Sm.loopM (M0 := []) (α := { n : Nat // n + k ≤ s.length ∧ runN p s k = n + ((s.drop (k + n)).takeWhile p).length }) hP
    (fun n => [(0, true, S s), (1, true, I k), (2, true, .c (.v (.func (.func g) #[] #[]))), (7, true, I n.val)]) (fun _ => []) (fun n => s.length - n.val) ⟨0, by omega, by rw [runN]; simp⟩ (fun _ => ClM.nil) (fun _ => ClE.of rfl) [] ?_ ?_
  · exact ⟨rfl, trivial, ⟨rfl, rfl, rfl, rfl, trivial⟩, trivial⟩
  · rintro ⟨n, hn, hx⟩ J hb
    simp only at hb hn hx ⊢
    refine Sm.go 120 ?_
    have w1 : IntKind.i64.wrap ((k : Int) + (n : Int)) = ((k + n : Nat) : Int) := by rw [w64 (by omega) (by omega)]; omega
    simp (maxSteps := 2000000) only [go_sem, Nat.reduceBEq, Nat.reduceAdd, Nat.reduceLT, Nat.reduceLeDiff, Nat.reduceEqDiff, reduceCtorEq, Int.reduceAdd, Int.reduceSub, Int.reduceNeg, Int.reduceLE, Int.reduceLT, Int.reduceToNat, Int.reduceBEq, Int.reduceBNe, Int.reduceEq, Int.reduceNe, Nat.reduceMul, Nat.reduceSub, w1]
    by_cases hlt : k + n < s.length
    · have h1 : decide (((k + n : Nat) : Int) < (s.length : Int)) = true := tru_of (by omega)
      have hd : s.drop (k + n) = s.getD (k + n) 0 :: s.drop (k + (n + 1)) := by
        rw [List.getD_eq_getElem?_getD, List.getElem?_eq_getElem hlt, List.drop_eq_getElem_cons hlt]; rfl
      rw [hd, List.takeWhile_cons] at hx
      simp (maxSteps := 2000000) only [go_sem, Nat.reduceBEq, Nat.reduceAdd, Nat.reduceLT, Nat.reduceLeDiff, Nat.reduceEqDiff, reduceCtorEq, Int.reduceAdd, Int.reduceSub, Int.reduceNeg, Int.reduceLE, Int.reduceLT, Int.reduceToNat, Int.reduceBEq, Int.reduceBNe, Int.reduceEq, Int.reduceNe, Nat.reduceMul, Nat.reduceSub, h1]
      refine ⟨⟨by omega, by omega⟩, ?_⟩
      refine CallQ.pure 130 (hp (s.getD (k + n) 0)) rfl ?_
      refine vv ?_
      refine mtch (fun hc => ?_) (fun hc => ?_)
      · rw [if_pos hc] at hx
        simp only [wS (show n ≤ 1000000000000000000 by omega)]
        exact hb _ _ ⟨n + 1, by omega, by rw [hx]; simp; omega⟩ [] (by simp only; omega) ⟨rfl, trivial, ⟨rfl, rfl, rfl, rfl, trivial⟩, trivial⟩
      · rw [if_neg (by rw [hc]; simp)] at hx
        exact RetQ.int hR rfl ⟨rfl, trivial⟩ (by rw [hx]; simp)
    · have h1 : decide (((k + n : Nat) : Int) < (s.length : Int)) = false := fal_of (by omega)
      rw [List.drop_eq_nil_of_le (by omega)] at hx
      simp (maxSteps := 2000000) only [go_sem, Nat.reduceBEq, Nat.reduceAdd, Nat.reduceLT, Nat.reduceLeDiff, Nat.reduceEqDiff, reduceCtorEq, Int.reduceAdd, Int.reduceSub, Int.reduceNeg, Int.reduceLE, Int.reduceLT, Int.reduceToNat, Int.reduceBEq, Int.reduceBNe, Int.reduceEq, Int.reduceNe, Nat.reduceMul, Nat.reduceSub, h1]
      refine CallQ.guard (xs := []) (v := Bo true) 130 (fun h => by cases h) (fun h => by cases h) ?_
      refine vv ?_
      exact RetQ.int hR rfl ⟨rfl, trivial⟩ (by rw [hx]; simp)
def kindR : List (List Value) := kindT.map fun r => [sv r.1, iv r.2.1, iv r.2.2.1, iv r.2.2.2]
@[reducible] def bKR (nm : Nat) : Nat × Bk := (nm, ⟨false, rowsC kindR, 225⟩)
theorem rows_ : CallOk Tryz.prog 199 [] [] (.c (.sl 1 0 21 4)) [bKR 1] := by
  refine CallOk.mkN 100 Tryz.func199 rfl en199 (by simp [Tryz.ntmps199]) (ClA.of rfl) rfl rfl fun C hR hP => ?_
  refine vv ?_
  exact RetQ.ren [(1, 100)] hR hP rfl (vv trivial) rfl rfl trivial ⟨.inr ⟨_, rfl, .inl rfl⟩, trivial⟩ (ClM.of rfl) (ClV.of rfl)
end Go.Proofs.YtkciabfilokfiaaGreat.Fx
