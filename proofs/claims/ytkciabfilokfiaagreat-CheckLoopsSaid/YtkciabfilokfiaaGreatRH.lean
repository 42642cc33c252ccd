/- The law CheckLoops walked. -/
import Derived.Test.YtkciabfilokfiaaGreatRC
namespace Go.Proofs.YtkciabfilokfiaaGreat.Fx
open Vg Tf
set_option linter.unusedSimpArgs false
set_option linter.unusedVariables false
set_option maxRecDepth 100000
set_option maxHeartbeats 4000000
theorem alnS_len {d : Dg} (h : dgOk d = true) : (alnS d.bls).length ≤ 1000000 := by
  have hb : d.bls.length ≤ 200 ∧ ∀ b ∈ d.bls, b.ins.length ≤ 3 := by
    unfold dgOk at h
    simp only [Bool.and_eq_true, decide_eq_true_eq, List.all_eq_true] at h
    obtain ⟨_, _, n6, _, _, _, _, hbl, _⟩ := h
    exact ⟨n6, fun b hb => blO_in (hbl b hb)⟩
  have key : ∀ l : List Bl, (∀ b ∈ l, b.ins.length ≤ 3) → (alnS l).length ≤ l.length * 3 := by
    intro l
    induction l with
    | nil => intro _; simp [alnS]
    | cons b l ih =>
      intro hl
      have h1 := ih (fun x hx => hl x (by simp [hx]))
      have h2 := hl b (by simp)
      unfold alnS at h1 ⊢
      rw [List.flatMap_cons, List.length_append, List.length_cons]
      omega
  have := key d.bls hb.2
  omega
theorem order_ok {d : Dg} (h : (orderQ d).2.2 ≠ 1) : dgOk d = true := by
  cases hv : dgOk d with
  | true => rfl
  | false => exact absurd (by unfold orderQ; rw [hv]; rfl) h
theorem loopsL_ {H : Hp} (d : DgL) (hd : d.ok H) (hs : d.sm) (haw : CallH H Tryz.prog 11 [] (Bo true)) : CallX H Tryz.prog 7 [rowV d.r] [] (fun _ : Unit => Bo true) (fun _ => []) (fun _ _ => True) := by
  refine CallX.mkS Tryz.func7 rfl en7 (by simp [Tryz.ntmps7]) (ClA.of rfl) (fun _ => rfl) (fun _ => rfl) fun C hR hP hH hL => ?_
  have hR := hR ()
  have hz2 := rows_len (r := BlL.r) (k := 6) (fun _ => rfl) d.bls
  have hlb : (d.bls.map BlL.r).length = d.bls.length := List.length_map _
  have hnb := hs.bls.1
  refine Sm.go 100 ?_
  refine vv ?_
  refine CallQ.h 110 haw hH rfl ?_
  refine vv ?_
  refine CallQ.h 110 (great_ d hd hs) hH rfl ?_
  refine vv ?_
  refine mtch (fun hg => ?_) (fun hg => ?_)
  · exact RetQ.of (hR C hL trivial) rfl scc rvv (Sub.nil _) ClM.nil (ClV.of rfl)
  refine CallQ.hr [(1, 130)] 131 (Order_ d hd hs) hH ClM.nil rfl rfl trivial rfl (.inl rfl) ?_
  simp only [Mem.ren, List.map_cons, List.map_nil, renV (v_nC _), V.ren, Cv.ren, rn, Nat.reduceBEq, cond_true, cond_false]
  refine vv ?_
  have hlaw := lopB_ok d.c
  unfold lopB at hlaw
  have hdo : (orderQ d.c).2.2 ≠ 1 → dgOk d.c = true := order_ok
  generalize orderQ d.c = q at *
  obtain ⟨l, s, e⟩ := q
  simp only at hlaw hdo ⊢
  by_cases he : ¬ (e = 0 ∨ e = 13)
  · have e1 : (e != 0) = true := by simp; omega
    have e2 : (e != 13) = true := by simp; omega
    simp (maxSteps := 2000000) only [go_sem, Nat.reduceBEq, Nat.reduceAdd, Nat.reduceLT, Nat.reduceLeDiff, Nat.reduceEqDiff, reduceCtorEq, Int.reduceAdd, Int.reduceSub, Int.reduceNeg, Int.reduceLE, Int.reduceLT, Int.reduceToNat, Int.reduceBEq, Int.reduceBNe, Int.reduceEq, Int.reduceNe, Nat.reduceMul, Nat.reduceSub, e1, e2]
    exact RetQ.of (hR C hL trivial) rfl scc rvv (Sub.nil _) ClM.nil (ClV.of rfl)
  have he : e = 0 ∨ e = 13 := Decidable.not_not.1 he
  have hok := hdo (by omega)
  have e3 : (bif e != 0 then e != 13 else false) = false := by rcases he with rfl | rfl <;> rfl
  have e4 : (bif !(decide (e = 0)) then !(decide (e = 13)) else false) = false := by rcases he with rfl | rfl <;> rfl
  rw [e4, cond_false] at hlaw
  simp (maxSteps := 2000000) only [go_sem, Nat.reduceBEq, Nat.reduceAdd, Nat.reduceLT, Nat.reduceLeDiff, Nat.reduceEqDiff, reduceCtorEq, Int.reduceAdd, Int.reduceSub, Int.reduceNeg, Int.reduceLE, Int.reduceLT, Int.reduceToNat, Int.reduceBEq, Int.reduceBNe, Int.reduceEq, Int.reduceNe, Nat.reduceMul, Nat.reduceSub, e3]
  have hU := alnS_len hok
  refine Sm.bringR 5 53 27 (hd.bl.mono hH) rfl rfl ?_
  rw [hlb]
  have hfb : d.c.bls = d.bls.map BlL.c := rfl
  refine Sm.loopM (M0 := []) (α := { i : Nat // i ≤ d.bls.length ∧ d.c.bls.find? (fun b => bckB d.c.bls b.nm) = ((d.bls.drop i).map BlL.c).find? (fun b => bckB d.c.bls b.nm) }) hP (fun i => [(4, true, S s), (5, true, I e), (6, true, .c (.fn 25 [(1, 0)])), (27, true, .c (.sl 5 0 d.bls.length 6)), (28, true, I d.bls.length), (29, true, I i.val)])
    (fun _ => [(1, ⟨false, d.r.map .v, 29⟩), (5, ⟨true, rowsC (d.bls.map BlL.r), 53⟩)]) (fun i => d.bls.length - i.val) ⟨0, by omega, rfl⟩ (fun _ => ClM.of (by simp only [List.all_cons, inMV (rowsC_isV _), inMV (v_v _)]; rfl)) (fun _ => ClE.of rfl) [(1, 100), (5, 5)] ?_ ?_
  · exact ⟨rfl, trivial, ⟨rfl, rfl, rfl, rfl, rfl, rfl, trivial⟩, ⟨.inr ⟨_, rfl, .inl (renV (v_v _))⟩, .inr ⟨_, rfl, .inl (renV (rowsC_isV _))⟩, trivial⟩⟩
  rintro ⟨i, hi, hx⟩ J hj
  simp only at hj hi hx ⊢
  refine Sm.go 150 ?_
  refine vv ?_
  refine mtch (fun hc => ?_) (fun hc => ?_)
  · have hc := lt_of_dec hc
    have htk := rows_take (r := BlL.r) (k := 6) (fun _ => rfl) d.bls i hc
    rw [List.drop_eq_getElem_cons hc, List.map_cons, List.find?_cons] at hx
    generalize d.bls[i] = bl at *
    simp (maxSteps := 2000000) only [go_sem, Nat.reduceBEq, Nat.reduceAdd, Nat.reduceLT, Nat.reduceLeDiff, Nat.reduceEqDiff, reduceCtorEq, Int.reduceAdd, Int.reduceSub, Int.reduceNeg, Int.reduceLE, Int.reduceLT, Int.reduceToNat, Int.reduceBEq, Int.reduceBNe, Int.reduceEq, Int.reduceNe, Nat.reduceMul, Nat.reduceSub, htk, hz2]
    refine ⟨⟨by omega, by omega⟩, by omega, ?_⟩
    refine CallQ.hr [(1, 1)] 170 (back_ d hd hs bl.c.nm hU) hH (ClM.of rfl) rfl rfl ⟨⟨_, rfl, .inr ⟨rfl, [], rfl⟩⟩, trivial⟩ rfl (.inr rfl) ?_
    simp only [Mem.ren, List.map_nil, V.ren, Cv.ren]
    cases hbk : bckB d.c.bls bl.c.nm with
    | true =>
      rw [hbk] at hx
      rw [hx] at hlaw
      refine vv ?_
      refine RetQ.bool (hR C hL trivial) rfl scc ?_
      have e5 : (e == 13) = decide (e = 13) := by rcases he with rfl | rfl <;> rfl
      rw [e5]; exact hlaw
    | false =>
      rw [hbk] at hx
      simp (maxSteps := 2000000) only [go_sem, Nat.reduceBEq, Nat.reduceAdd, Nat.reduceLT, Nat.reduceLeDiff, Nat.reduceEqDiff, reduceCtorEq, Int.reduceAdd, Int.reduceSub, Int.reduceNeg, Int.reduceLE, Int.reduceLT, Int.reduceToNat, Int.reduceBEq, Int.reduceBNe, Int.reduceEq, Int.reduceNe, Nat.reduceMul, Nat.reduceSub, wS (show i ≤ 1000000000000000000 by omega)]
      exact hj _ _ ⟨i + 1, hc, hx⟩ [(1, 1), (5, 5)] (by simp only; omega) ⟨rfl, trivial, ⟨rfl, rfl, rfl, rfl, rfl, rfl, trivial⟩, ⟨.inr ⟨_, rfl, .inl (renV (v_v _))⟩, .inr ⟨_, rfl, .inl (renV (rowsC_isV _))⟩, trivial⟩⟩
  · have hc := eq_of_dec hi hc
    rw [hc, List.drop_length] at hx
    have hx : d.c.bls.find? (fun b => bckB d.c.bls b.nm) = none := hx
    rw [hx] at hlaw
    have hlaw : e = 0 := by simpa using hlaw
    subst hlaw
    exact RetQ.of (hR C hL trivial) rfl scc rvv (Sub.nil _) ClM.nil (ClV.of rfl)
end Go.Proofs.YtkciabfilokfiaaGreat.Fx
