/- Package strings at one byte: Index, Cut, Count, Split; strconv.Itoa of small numbers. Units: their sums, powers, names; the reference of these. -/
import Derived.Test.YtkciabfilokfiaaGreatFC2
import Derived.Test.YtkciabfilokfiaaGreatMB
import Derived.Lib.Bytealg
import Derived.Lib.IndexLaws
namespace Go.Proofs.YtkciabfilokfiaaGreat.Fx
open Vg Tf
set_option linter.unusedSimpArgs false
set_option linter.unusedVariables false
set_option maxRecDepth 100000
set_option maxHeartbeats 4000000
abbrev S (l : List UInt8) : V := .c (.v (.string ⟨l.toArray⟩))
abbrev Ws (l : List UInt8) : W := .c (.v (.string ⟨l.toArray⟩))
abbrev Wb1 (b : Bool) : W := .c (.v (.bool b))
abbrev Y (n : Int) : V := .c (.v (.int .u8 n))
@[go_sem] theorem tol (l : List UInt8) : l.toArray.toList = l := by simp
@[go_sem ↓] theorem plS_1_1 : plS 1 1 = [(0, 1)] := rfl
@[go_sem ↓] theorem plS_5_1 : plS 5 1 = [(0, 1), (1, 1), (2, 1), (3, 1), (4, 1)] := rfl
@[go_sem ↓] theorem plS_11_1 : plS 11 1 = [(0, 1), (1, 1), (2, 1), (3, 1), (4, 1), (5, 1), (6, 1), (7, 1), (8, 1), (9, 1), (10, 1)] := rfl
@[go_sem ↓] theorem plS_11_5 : plS 11 5 = [(0, 5), (5, 5), (10, 5), (15, 5), (20, 5), (25, 5), (30, 5), (35, 5), (40, 5), (45, 5), (50, 5)] := rfl
@[go_sem ↓] theorem plS_11_6 : plS 11 6 = [(0, 6), (6, 6), (12, 6), (18, 6), (24, 6), (30, 6), (36, 6), (42, 6), (48, 6), (54, 6), (60, 6)] := rfl
@[go_sem ↓] theorem plS_10_3 : plS 10 3 = [(0, 3), (3, 3), (6, 3), (9, 3), (12, 3), (15, 3), (18, 3), (21, 3), (24, 3), (27, 3)] := rfl
theorem mtch {c : Bool} {A B : Prop} (ht : c = true → A) (hf : c = false → B) : (match (generalizing := false) c with | true => A | false => B) := by
  cases c
  · exact hf rfl
  · exact ht rfl
theorem fal_of {p : Prop} [Decidable p] (h : ¬ p) : decide p = false := by simpa using h
theorem tru_of {p : Prop} [Decidable p] (h : p) : decide p = true := by simpa using h
theorem ClA.of {M : Mem} {l : List V} (h : l.all (V.inM M) = true) : ∀ x ∈ l, ClV M x := fun x hx => ClV.of (List.all_eq_true.1 h x hx)
theorem renV {ρ : Nat → Nat} {r : Bool} {l : List Cv} {t : TypeId} (h : l.all Cv.isV = true) : (⟨r, l, t⟩ : Bk).ren ρ = ⟨r, l, t⟩ := by
  unfold Bk.ren
  congr 1
  have := List.all_eq_true.1 h
  conv => rhs; rw [← List.map_id l]
  refine List.map_congr_left fun x hx => ?_
  have := this x hx
  cases x <;> first | rfl | cases this
theorem inMV {M : Mem} {l : List Cv} (h : l.all Cv.isV = true) : l.all (Cv.inM M) = true := by
  refine List.all_eq_true.2 fun x hx => ?_
  have := List.all_eq_true.1 h x hx
  cases x <;> first | rfl | cases this
end Go.Proofs.YtkciabfilokfiaaGreat.Fx
namespace Go.Proofs.YtkciabfilokfiaaGreat.Fx
open Vg Tf
set_option linter.unusedSimpArgs false
set_option linter.unusedVariables false
set_option maxRecDepth 100000
set_option maxHeartbeats 4000000
structure Un where
  m : Int
  kg : Int
  s : Int
  a : Int
  k : Int
deriving DecidableEq
@[go_sem] def unL (u : Un) : List Cv := [.v (.int .i64 u.m), .v (.int .i64 u.kg), .v (.int .i64 u.s), .v (.int .i64 u.a), .v (.int .i64 u.k)]
@[reducible] def uu (u : Un) : V := .agg (unL u)
@[reducible] def Wuu (u : Un) : W := .agg (unL u)
def u0 : Un := ⟨0, 0, 0, 0, 0⟩
def uokU (u : Un) : Bool := uok u.m u.kg u.s u.a u.k
theorem uokU_iff {u : Un} : uokU u = true ↔ (-9 ≤ u.m ∧ u.m ≤ 9) ∧ (-9 ≤ u.kg ∧ u.kg ≤ 9) ∧ (-9 ≤ u.s ∧ u.s ≤ 9) ∧ (-9 ≤ u.a ∧ u.a ≤ 9) ∧ (-9 ≤ u.k ∧ u.k ≤ 9) := by
  unfold uokU uok; rw [decide_eq_true_eq]
theorem uvalidU (u : Un) : CallOk Tryz.prog 115 [uu u] [] (Bo (uokU u)) [] := uvalid u.m u.kg u.s u.a u.k
def uadd (a b : Un) (k : Int) : Un := ⟨a.m + k * b.m, a.kg + k * b.kg, a.s + k * b.s, a.a + k * b.a, a.k + k * b.k⟩
def cbE (a b : Un) (k : Int) : Int := bif uokU a && uokU b then (bif uokU (uadd a b k) then 0 else 2) else 1
def cbV (a b : Un) (k : Int) : Un := bif cbE a b k == 0 then uadd a b k else u0
theorem ptrs_cl (n : Nat) (cs : List Cv) (el : TypeId) (h : cs.all Cv.isV = true) : ClM [(n, ⟨true, cs, el⟩)] := ClM.of (by simp only [List.all_cons, inMV h]; rfl)
theorem one_ : CallOk Tryz.prog 202 [] [] (uu u0) [] := by
  refine CallOk.mkN 100 Tryz.func202 rfl en202 (by simp [Tryz.ntmps202]) (ClA.of rfl) rfl rfl fun C hR hP => ?_
  refine vv ?_
  exact RetQ.of hR rfl (vv trivial) rvr (Sub.nil _) ClM.nil (ClV.of rfl)
theorem combine_ (a b : Un) (k : Int) (hk : k = 1 ∨ k = -1) : CallOk Tryz.prog 237 [uu a, uu b, I k] [] (.tup [Wuu (cbV a b k), Wi (cbE a b k)]) [] := by
  refine CallOk.mkN 100 Tryz.func237 rfl en237 (by simp [Tryz.ntmps237]) (ClA.of rfl) rfl rfl fun C hR hP => ?_
  refine vv ?_
  refine CallQ.pure 110 (uvalidU a) rfl ?_
  refine vv ?_
  refine CallQ.guard 110 (fun _ => uvalidU b) (fun h => by rw [h]; rfl) ?_
  refine vv ?_
  cases ha : uokU a with
  | false =>
    have e1 : cbE a b k = 1 := by rw [cbE, ha]; rfl
    have e2 : cbV a b k = u0 := by rw [cbV, e1]; rfl
    rw [e1, e2] at hR
    refine vv ?_
    exact RetQ.of hR rfl (vv trivial) rvr (Sub.nil _) ClM.nil (ClV.of rfl)
  | true =>
  cases hb : uokU b with
  | false =>
    have e1 : cbE a b k = 1 := by rw [cbE, ha, hb]; rfl
    have e2 : cbV a b k = u0 := by rw [cbV, e1]; rfl
    rw [e1, e2] at hR
    refine vv ?_
    exact RetQ.of hR rfl (vv trivial) rvr (Sub.nil _) ClM.nil (ClV.of rfl)
  | true =>
  have ha' := uokU_iff.1 ha
  have hb' := uokU_iff.1 hb
  refine vv ?_
  refine CallQ.mem 120 (exponents 100 (unL a) 41 (ptrs_cl _ _ _ rfl) (by decide)) rfl (Sub.one (b' := ⟨false, unL a, 41⟩) rfl (.inr ⟨rfl, [], rfl⟩)) (ptrs_cl _ _ _ rfl) ?_
  refine vv ?_
  refine CallQ.mem 120 (exponents 101 (unL b) 41 (ptrs_cl _ _ _ rfl) (by decide)) rfl (Sub.one (b' := ⟨false, unL b, 41⟩) rfl (.inr ⟨rfl, [], rfl⟩)) (ptrs_cl _ _ _ rfl) ?_
  refine vv ?_
  have wr : ∀ x y : Int, -9 ≤ x ∧ x ≤ 9 → -9 ≤ y ∧ y ≤ 9 → IntKind.i64.wrap (x + IntKind.i64.wrap (k * y)) = x + k * y := by
    intro x y hx hy
    rcases hk with rfl | rfl
    · rw [w64 (x := 1 * y) (by omega) (by omega), w64 (by omega) (by omega)]
    · rw [w64 (x := -1 * y) (by omega) (by omega), w64 (by omega) (by omega)]
  refine Sm.unroll 6 (Sm.go 130 ?_)
  refine vv ?_
  refine Sm.dgo 130 12 mix (by decide +kernel) (by decide +kernel) ?_
  simp (maxSteps := 2000000) only [go_sem, Nat.reduceBEq, Nat.reduceAdd, Nat.reduceLT, Nat.reduceLeDiff, Nat.reduceEqDiff, reduceCtorEq, Int.reduceAdd, Int.reduceSub, Int.reduceNeg, Int.reduceLE, Int.reduceLT, Int.reduceToNat, Int.reduceBEq, Int.reduceBNe, Int.reduceEq, Int.reduceNe, Nat.reduceMul, Nat.reduceSub, wr _ _ ha'.1 hb'.1]
  refine Sm.dgo 130 12 mix (by decide +kernel) (by decide +kernel) ?_
  simp (maxSteps := 2000000) only [go_sem, Nat.reduceBEq, Nat.reduceAdd, Nat.reduceLT, Nat.reduceLeDiff, Nat.reduceEqDiff, reduceCtorEq, Int.reduceAdd, Int.reduceSub, Int.reduceNeg, Int.reduceLE, Int.reduceLT, Int.reduceToNat, Int.reduceBEq, Int.reduceBNe, Int.reduceEq, Int.reduceNe, Nat.reduceMul, Nat.reduceSub, wr _ _ ha'.2.1 hb'.2.1]
  refine Sm.dgo 130 12 mix (by decide +kernel) (by decide +kernel) ?_
  simp (maxSteps := 2000000) only [go_sem, Nat.reduceBEq, Nat.reduceAdd, Nat.reduceLT, Nat.reduceLeDiff, Nat.reduceEqDiff, reduceCtorEq, Int.reduceAdd, Int.reduceSub, Int.reduceNeg, Int.reduceLE, Int.reduceLT, Int.reduceToNat, Int.reduceBEq, Int.reduceBNe, Int.reduceEq, Int.reduceNe, Nat.reduceMul, Nat.reduceSub, wr _ _ ha'.2.2.1 hb'.2.2.1]
  refine Sm.dgo 130 12 mix (by decide +kernel) (by decide +kernel) ?_
  simp (maxSteps := 2000000) only [go_sem, Nat.reduceBEq, Nat.reduceAdd, Nat.reduceLT, Nat.reduceLeDiff, Nat.reduceEqDiff, reduceCtorEq, Int.reduceAdd, Int.reduceSub, Int.reduceNeg, Int.reduceLE, Int.reduceLT, Int.reduceToNat, Int.reduceBEq, Int.reduceBNe, Int.reduceEq, Int.reduceNe, Nat.reduceMul, Nat.reduceSub, wr _ _ ha'.2.2.2.1 hb'.2.2.2.1]
  refine Sm.dgo 130 12 mix (by decide +kernel) (by decide +kernel) ?_
  simp (maxSteps := 2000000) only [go_sem, Nat.reduceBEq, Nat.reduceAdd, Nat.reduceLT, Nat.reduceLeDiff, Nat.reduceEqDiff, reduceCtorEq, Int.reduceAdd, Int.reduceSub, Int.reduceNeg, Int.reduceLE, Int.reduceLT, Int.reduceToNat, Int.reduceBEq, Int.reduceBNe, Int.reduceEq, Int.reduceNe, Nat.reduceMul, Nat.reduceSub, wr _ _ ha'.2.2.2.2 hb'.2.2.2.2]
  refine CallQ.pure 140 (uvalidU (uadd a b k)) rfl ?_
  refine vv ?_
  cases hu : uokU (uadd a b k) with
  | false =>
    have e1 : cbE a b k = 2 := by rw [cbE, ha, hb, hu]; rfl
    have e2 : cbV a b k = u0 := by rw [cbV, e1]; rfl
    rw [e1, e2] at hR
    refine vv ?_
    exact RetQ.of hR rfl (vv trivial) rvr (Sub.nil _) ClM.nil (ClV.of rfl)
  | true =>
    have e1 : cbE a b k = 0 := by rw [cbE, ha, hb, hu]; rfl
    have e2 : cbV a b k = uadd a b k := by rw [cbV, e1]; rfl
    rw [e1, e2] at hR
    refine vv ?_
    exact RetQ.of hR rfl (vv trivial) rvr (Sub.nil _) ClM.nil (ClV.of rfl)
theorem mul_ (a b : Un) : CallOk Tryz.prog 205 [uu a, uu b] [] (.tup [Wuu (cbV a b 1), Wi (cbE a b 1)]) [] := by
  refine CallOk.mkN 100 Tryz.func205 rfl en205 (by simp [Tryz.ntmps205]) (ClA.of rfl) rfl rfl fun C hR hP => ?_
  refine vv ?_
  refine CallQ.pure 110 (combine_ a b 1 (.inl rfl)) rfl ?_
  refine vv ?_
  exact RetQ.of hR rfl (vv trivial) rvr (Sub.nil _) ClM.nil (ClV.of rfl)
theorem div_u (a b : Un) : CallOk Tryz.prog 206 [uu a, uu b] [] (.tup [Wuu (cbV a b (-1)), Wi (cbE a b (-1))]) [] := by
  refine CallOk.mkN 100 Tryz.func206 rfl en206 (by simp [Tryz.ntmps206]) (ClA.of rfl) rfl rfl fun C hR hP => ?_
  refine vv ?_
  refine CallQ.pure 110 (combine_ a b (-1) (.inr rfl)) rfl ?_
  refine vv ?_
  exact RetQ.of hR rfl (vv trivial) rvr (Sub.nil _) ClM.nil (ClV.of rfl)
theorem flat_len {α : Type} (f : α → List Cv) (k : Nat) (hk : ∀ x, (f x).length = k) : ∀ (l : List α), (l.flatMap f).length = l.length * k
  | [] => by simp
  | x :: l => by rw [List.flatMap_cons, List.length_append, flat_len f k hk l, hk, List.length_cons, Nat.succ_mul]; omega
end Go.Proofs.YtkciabfilokfiaaGreat.Fx
