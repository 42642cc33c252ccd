/- The law CheckBehind walked. -/
import Derived.Test.YtkciabfilokfiaaGreatQV
namespace Go.Proofs.YtkciabfilokfiaaGreat.Fx
open Vg Tf
set_option linter.unusedSimpArgs false
set_option linter.unusedVariables false
set_option maxRecDepth 100000
set_option maxHeartbeats 4000000
theorem behind_ {H : Hp} (d : DgL) (hd : d.ok H) (hs : d.sm) (haw : CallH H Tryz.prog 11 [] (Bo true)) : CallX H Tryz.prog 6 [rowV d.r] [] (fun _ : Unit => Bo true) (fun _ => []) (fun _ _ => True) := by
  refine CallX.mkS Tryz.func6 rfl en6 (by simp [Tryz.ntmps6]) (ClA.of rfl) (fun _ => rfl) (fun _ => rfl) fun C hR hP hH hL => ?_
  have hR := hR ()
  refine Sm.go 100 ?_
  refine vv ?_
  refine CallQ.h 110 haw hH rfl ?_
  refine vv ?_
  refine CallQ.h 110 (great_ d hd hs) hH rfl ?_
  refine vv ?_
  refine mtch (fun hg => ?_) (fun hg => ?_)
  · exact RetQ.of (hR C hL trivial) rfl scc rvv (Sub.nil _) ClM.nil (ClV.of rfl)
  refine CallQ.hr [(1, 130)] 131 (Order_ d hd hs) hH ClM.nil rfl rfl trivial rfl (.inl rfl) ?_
  simp only [Mem.ren, List.map_cons, List.map_nil, renV (v_nC _), V.ren, Cv.ren, rn, Nat.reduceBEq, cond_true, cond_false]
  refine vv ?_
  have hlaw := behB_ok d.c
  unfold behB at hlaw
  generalize orderQ d.c = q at *
  obtain ⟨l, s, e⟩ := q
  simp only at hlaw ⊢
  by_cases he : ¬ e = 0
  · rw [decide_eq_false he, cond_false, decide_eq_true_eq] at hlaw
    have e1 : (e != 0) = true := by simpa using he
    rw [e1]
    refine RetQ.of (hR C hL trivial) rfl scc ?_ (Sub.nil _) ClM.nil (ClV.of rfl)
    rw [hlaw]; rfl
  have he : e = 0 := Decidable.not_not.1 he
  subst he
  rw [decide_eq_true rfl, cond_true] at hlaw
  cases hse : s == [] with
  | false => rw [hse] at hlaw; cases hlaw
  | true =>
  rw [hse, cond_true] at hlaw
  have hse : s = [] := by simpa using hse
  subst hse
  cases hll : decide (l.length = d.c.bls.length) with
  | false => rw [hll] at hlaw; cases hlaw
  | true =>
  rw [hll, cond_true] at hlaw
  have hll : l.length = d.bls.length := by have := of_decide_eq_true hll; rw [this]; simp [DgL.c]
  have e2 : (((l.length : Int)) != (d.bls.length : Int)) = false := by rw [hll]; simp
  simp (maxSteps := 2000000) only [go_sem, Nat.reduceBEq, Nat.reduceAdd, Nat.reduceLT, Nat.reduceLeDiff, Nat.reduceEqDiff, reduceCtorEq, Int.reduceAdd, Int.reduceSub, Int.reduceNeg, Int.reduceLE, Int.reduceLT, Int.reduceToNat, Int.reduceBEq, Int.reduceBNe, Int.reduceEq, Int.reduceNe, Nat.reduceMul, Nat.reduceSub, e2]
  have hn1 := hs.ins.1
  have hn2 := hs.bls.1
  have hld : (d.ins.map Po.r).length = d.ins.length := List.length_map _
  have hlb : (d.bls.map BlL.r).length = d.bls.length := List.length_map _
  have hz1 := rows_len (r := Po.r) (k := 4) (fun _ => rfl) d.ins
  have hz2 := rows_len (r := BlL.r) (k := 6) (fun _ => rfl) d.bls
  refine Sm.makeMap hL rfl rfl rfl (fun mb C1 l1 k1 f1 f1' m1 => ?_)
  have hHm : ∀ b o, H b o → b ≠ mb := fun b o h => by have := Cx.hp_lt (hH b o h); omega
  refine Sm.go 150 ?_
  refine vv ?_
  refine Sm.bringR 5 51 41 (hd.i.mono (hH.trans k1)) rfl rfl ?_
  rw [hld]
  refine Sm.loopX (C := C) (Ck := C1) (M0 := []) (α := { i : Nat // i ≤ d.ins.length }) l1 hP (fun i => [(1, true, .c (.p 1 0)), (3, true, .c (.sl 3 0 l.length 1)), (6, true, .c (.v (.map (some mb)))), (41, true, .c (.sl 5 0 d.ins.length 4)), (42, true, I d.ins.length), (43, true, I i.val)])
    (fun _ => [(3, ⟨false, l.map nC, 3⟩), (1, ⟨false, d.r.map .v, 29⟩), (5, ⟨true, rowsC (d.ins.map Po.r), 51⟩)]) (fun i hp => H.le hp ∧ MpB hp mb (fillM seenF ((d.ins.take i.val).map Po.nm).reverse)) (fun i => d.ins.length - i.val) ⟨0, by omega⟩ ⟨hH.trans k1, m1⟩ (fun _ => ClM.of (by simp only [List.all_cons, inMV (rowsC_isV _), inMV (v_nC _), inMV (v_v _)]; rfl)) (fun _ => ClE.of rfl) [(3, 130), (1, 100), (5, 5)] ⟨rfl, trivial, ⟨rfl, rfl, rfl, rfl, rfl, rfl, trivial⟩, ⟨.inr ⟨_, rfl, .inl (renV (v_nC _))⟩, .inr ⟨_, rfl, .inl (renV (v_v _))⟩, .inr ⟨_, rfl, .inl (renV (rowsC_isV _))⟩, trivial⟩⟩ ?_
  rintro ⟨i, hi⟩ C2 J l2 ⟨iH, iT⟩ hj
  simp only at hj hi iT ⊢
  refine Sm.go 160 ?_
  refine vv ?_
  refine mtch (fun hc => ?_) (fun hc => ?_)
  · have hc := lt_of_dec hc
    have htk := rows_take (r := Po.r) (k := 4) (fun _ => rfl) d.ins i hc
    have hsn : ((d.ins.take (i + 1)).map Po.nm).reverse = d.ins[i].nm :: ((d.ins.take i).map Po.nm).reverse := by rw [List.take_succ_eq_append_getElem hc, List.map_append, List.reverse_append]; rfl
    generalize d.ins[i] = p at *
    simp (maxSteps := 2000000) only [go_sem, Nat.reduceBEq, Nat.reduceAdd, Nat.reduceLT, Nat.reduceLeDiff, Nat.reduceEqDiff, reduceCtorEq, Int.reduceAdd, Int.reduceSub, Int.reduceNeg, Int.reduceLE, Int.reduceLT, Int.reduceToNat, Int.reduceBEq, Int.reduceBNe, Int.reduceEq, Int.reduceNe, Nat.reduceMul, Nat.reduceSub, htk, hz1]
    refine ⟨⟨by omega, by omega⟩, by omega, ?_⟩
    refine Sm.go 170 ?_
    refine vv ?_
    refine Sm.mapUpd (u := .bool true) l2 rfl rfl rfl rfl rfl rfl rfl (fun _ => rfl) iT f1 (fun C3 l3 k3 m3 => ?_)
    refine Sm.go 180 ?_
    simp (maxSteps := 2000000) only [go_sem, Nat.reduceBEq, Nat.reduceAdd, Nat.reduceLT, Nat.reduceLeDiff, Nat.reduceEqDiff, reduceCtorEq, Int.reduceAdd, Int.reduceSub, Int.reduceNeg, Int.reduceLE, Int.reduceLT, Int.reduceToNat, Int.reduceBEq, Int.reduceBNe, Int.reduceEq, Int.reduceNe, Nat.reduceMul, Nat.reduceSub, wS (show i ≤ 1000000000000000000 by omega)]
    exact hj _ _ C3 ⟨i + 1, hc⟩ [(3, 3), (1, 1), (5, 5)] l3 ⟨fun b o h => k3 b o (hHm b o h) (iH b o h), by simp only; rw [hsn]; exact m3⟩ (by simp only; omega) ⟨rfl, trivial, ⟨rfl, rfl, rfl, rfl, rfl, rfl, trivial⟩, ⟨.inr ⟨_, rfl, .inl (renV (v_nC _))⟩, .inr ⟨_, rfl, .inl (renV (v_v _))⟩, .inr ⟨_, rfl, .inl (renV (rowsC_isV _))⟩, trivial⟩⟩
  · have hc := eq_of_dec hi hc
    have hfull : ((d.ins.take i).map Po.nm).reverse = (d.c.ins.map (·.nm)).reverse := by rw [hc, List.take_length]; rfl
    rw [hfull] at iT
    generalize (d.c.ins.map (·.nm)).reverse = dn0 at *
    clear hfull
    refine Sm.loopX (C := C) (Ck := C2) (M0 := []) (α := { q : Nat × List Str // q.1 ≤ l.length ∧ behG d.c (l.drop q.1) q.2 = true }) l2 hP (fun q => [(1, true, .c (.p 1 0)), (6, true, .c (.v (.map (some mb)))), (51, true, .c (.sl 3 0 l.length 1)), (52, true, I l.length), (53, true, I q.val.1)])
      (fun _ => [(3, ⟨false, l.map nC, 3⟩), (1, ⟨false, d.r.map .v, 29⟩)]) (fun q hp => H.le hp ∧ MpB hp mb (fillM seenF q.val.2)) (fun q => l.length - q.val.1) ⟨(0, dn0), by simp, hlaw⟩ ⟨iH, iT⟩ (fun _ => ClM.of (by simp only [List.all_cons, inMV (v_nC _), inMV (v_v _)]; rfl)) (fun _ => ClE.of rfl) [(3, 3), (1, 1)] ⟨rfl, trivial, ⟨rfl, rfl, rfl, rfl, rfl, trivial⟩, ⟨.inr ⟨_, rfl, .inl (renV (v_nC _))⟩, .inr ⟨_, rfl, .inl (renV (v_v _))⟩, trivial⟩⟩ ?_
    clear iH iT hj
    rintro ⟨⟨k, dn⟩, hk, hb⟩ C4 J2 l4 ⟨iH, iT⟩ hj
    simp only at hj hk hb iT ⊢
    refine Sm.go 190 ?_
    refine vv ?_
    refine mtch (fun hc => ?_) (fun hc => ?_)
    · have hc := lt_of_dec hc
      rw [List.drop_eq_getElem_cons hc, behG] at hb
      simp (maxSteps := 2000000) only [go_sem, Nat.reduceBEq, Nat.reduceAdd, Nat.reduceLT, Nat.reduceLeDiff, Nat.reduceEqDiff, reduceCtorEq, Int.reduceAdd, Int.reduceSub, Int.reduceNeg, Int.reduceLE, Int.reduceLT, Int.reduceToNat, Int.reduceBEq, Int.reduceBNe, Int.reduceEq, Int.reduceNe, Nat.reduceMul, Nat.reduceSub, get_nC hc]
      refine ⟨⟨by omega, by omega⟩, ?_⟩
      generalize l[k] = i at *
      by_cases hib : ¬ i < d.bls.length
      · have : d.c.bls[i]? = none := List.getElem?_eq_none (by simp [DgL.c]; omega)
        rw [this] at hb
        cases hb
      have hib : i < d.bls.length := Decidable.not_not.1 hib
      have hbi : d.c.bls[i]? = some d.bls[i].c := by simp [DgL.c, hib]
      have hbo := hd.bls d.bls[i] (List.getElem_mem hib)
      have hbs := hs.bls.2 d.bls[i] (List.getElem_mem hib)
      have htk := rows_take (r := BlL.r) (k := 6) (fun _ => rfl) d.bls i hib
      have hg0 := rowsC_get (k := 6) (d.bls.map BlL.r) (fun r hr => by obtain ⟨x, _, rfl⟩ := List.mem_map.1 hr; rfl) i 0 (by simpa using hib) (by omega)
      rw [hbi] at hb
      simp only at hb
      have e3 : decide ((i : Int) < 0) = false := decide_eq_false (by omega)
      have e4 : decide ((d.bls.length : Int) ≤ (i : Int)) = false := decide_eq_false (by omega)
      rw [List.getElem_map] at hg0
      generalize d.bls[i] = bl at *
      have hg0 : (rowsC (d.bls.map BlL.r))[i * 6]? = some (.v (sv bl.c.nm)) := by simpa [BlL.r] using hg0
      refine Sm.go 200 ?_
      simp (maxSteps := 2000000) only [go_sem, Nat.reduceBEq, Nat.reduceAdd, Nat.reduceLT, Nat.reduceLeDiff, Nat.reduceEqDiff, reduceCtorEq, Int.reduceAdd, Int.reduceSub, Int.reduceNeg, Int.reduceLE, Int.reduceLT, Int.reduceToNat, Int.reduceBEq, Int.reduceBNe, Int.reduceEq, Int.reduceNe, Nat.reduceMul, Nat.reduceSub, e3, e4]
      refine Sm.bringR 6 53 69 (hd.bl.mono iH) rfl rfl (Sm.go 210 ?_)
      rw [hlb]
      simp (maxSteps := 2000000) only [go_sem, Nat.reduceBEq, Nat.reduceAdd, Nat.reduceLT, Nat.reduceLeDiff, Nat.reduceEqDiff, reduceCtorEq, Int.reduceAdd, Int.reduceSub, Int.reduceNeg, Int.reduceLE, Int.reduceLT, Int.reduceToNat, Int.reduceBEq, Int.reduceBNe, Int.reduceEq, Int.reduceNe, Nat.reduceMul, Nat.reduceSub, htk, hz2, hg0]
      refine ⟨⟨by omega, by omega⟩, ?_⟩
      cases hdn : dn.contains bl.c.nm with
      | true => rw [hdn] at hb; cases hb
      | false =>
      rw [hdn, cond_false] at hb
      refine Sm.opC 220 rfl rfl (.inl rfl) (fun _ => StpC.lookup (v := Bo (dn.contains bl.c.nm)) rfl rfl rfl rfl rfl iT (fun β => (seen_get bl.c.nm dn).symm)) ?_
      simp (maxSteps := 2000000) only [go_sem, Nat.reduceBEq, Nat.reduceAdd, Nat.reduceLT, Nat.reduceLeDiff, Nat.reduceEqDiff, reduceCtorEq, Int.reduceAdd, Int.reduceSub, Int.reduceNeg, Int.reduceLE, Int.reduceLT, Int.reduceToNat, Int.reduceBEq, Int.reduceBNe, Int.reduceEq, Int.reduceNe, Nat.reduceMul, Nat.reduceSub, hdn]
      refine Sm.bringR 7 53 77 (hd.bl.mono iH) rfl rfl (Sm.go 230 ?_)
      rw [hlb]
      simp (maxSteps := 2000000) only [go_sem, Nat.reduceBEq, Nat.reduceAdd, Nat.reduceLT, Nat.reduceLeDiff, Nat.reduceEqDiff, reduceCtorEq, Int.reduceAdd, Int.reduceSub, Int.reduceNeg, Int.reduceLE, Int.reduceLT, Int.reduceToNat, Int.reduceBEq, Int.reduceBNe, Int.reduceEq, Int.reduceNe, Nat.reduceMul, Nat.reduceSub, htk, hz2]
      refine ⟨⟨by omega, by omega⟩, by omega, ?_⟩
      refine Sm.bringS 8 9 82 (hbo.i.mono iH) rfl rfl ?_
      have hbins : bl.c.ins.length ≤ 1000000000000000 := hbs.2.2.2.1
      cases hall : bl.c.ins.all (fun s => bif !(bl.c.kd == delS) then dn.contains s else true) with
      | false => rw [hall] at hb; cases hb
      | true =>
      rw [hall, cond_true] at hb
      rw [List.all_eq_true] at hall
      refine Sm.loopM (M0 := []) (α := { j : Nat // j ≤ bl.c.ins.length }) (l4.pins hP) (fun j => [(1, true, .c (.p 1 0)), (6, true, .c (.v (.map (some mb)))), (11, true, .c (.p 2 0)), (51, true, .c (.sl 3 0 l.length 1)), (52, true, I l.length), (53, true, I k), (82, true, .c (.sl 8 0 bl.c.ins.length 1)), (83, true, I bl.c.ins.length), (84, true, I j.val)])
        (fun _ => [(3, ⟨false, l.map nC, 3⟩), (1, ⟨false, d.r.map .v, 29⟩), (2, ⟨false, bl.r.map .v, 53⟩), (8, ⟨true, bl.c.ins.map sC, 9⟩)]) (fun j => bl.c.ins.length - j.val) ⟨0, by omega⟩ (fun _ => ClM.of (by simp only [List.all_cons, inMV (v_nC _), inMV (v_v _), inMV (v_sC _)]; rfl)) (fun _ => ClE.of rfl) [(3, 3), (1, 1), (2, 230), (8, 8)] ?_ ?_
      · exact ⟨rfl, trivial, ⟨rfl, rfl, rfl, rfl, rfl, rfl, rfl, rfl, rfl, trivial⟩, ⟨.inr ⟨_, rfl, .inl (renV (v_nC _))⟩, .inr ⟨_, rfl, .inl (renV (v_v _))⟩, .inr ⟨_, rfl, .inl (renV (v_v _))⟩, .inr ⟨_, rfl, .inl (renV (v_sC _))⟩, trivial⟩⟩
      rintro ⟨j, hj1⟩ J3 hj2
      simp only at hj1 hj2 ⊢
      refine Sm.go 240 ?_
      refine vv ?_
      refine mtch (fun hc2 => ?_) (fun hc2 => ?_)
      · have hc2 := lt_of_dec hc2
        have hs2 : (bif !(bl.c.kd == [100, 101, 108, 97, 121]) then dn.contains bl.c.ins[j] else true) = true := hall _ (List.getElem_mem hc2)
        have hgj := get_sC hc2
        generalize bl.c.ins[j] = sj at *
        cases hkd : bl.c.kd == [100, 101, 108, 97, 121] with
        | true =>
          simp (maxSteps := 2000000) only [go_sem, Nat.reduceBEq, Nat.reduceAdd, Nat.reduceLT, Nat.reduceLeDiff, Nat.reduceEqDiff, reduceCtorEq, Int.reduceAdd, Int.reduceSub, Int.reduceNeg, Int.reduceLE, Int.reduceLT, Int.reduceToNat, Int.reduceBEq, Int.reduceBNe, Int.reduceEq, Int.reduceNe, Nat.reduceMul, Nat.reduceSub, hgj, hkd]
          refine ⟨⟨by omega, by omega⟩, ?_⟩
          refine Sm.opC (g := false) (v := Bo true) (N := []) 260 rfl rfl (.inr rfl) (fun h => by cases h) ?_
          simp (maxSteps := 2000000) only [go_sem, Nat.reduceBEq, Nat.reduceAdd, Nat.reduceLT, Nat.reduceLeDiff, Nat.reduceEqDiff, reduceCtorEq, Int.reduceAdd, Int.reduceSub, Int.reduceNeg, Int.reduceLE, Int.reduceLT, Int.reduceToNat, Int.reduceBEq, Int.reduceBNe, Int.reduceEq, Int.reduceNe, Nat.reduceMul, Nat.reduceSub, wS (show j ≤ 1000000000000000000 by omega)]
          exact hj2 _ _ ⟨j + 1, hc2⟩ [(3, 3), (1, 1), (2, 2), (8, 8)] (by simp only; omega) ⟨rfl, trivial, ⟨rfl, rfl, rfl, rfl, rfl, rfl, rfl, rfl, rfl, trivial⟩, ⟨.inr ⟨_, rfl, .inl (renV (v_nC _))⟩, .inr ⟨_, rfl, .inl (renV (v_v _))⟩, .inr ⟨_, rfl, .inl (renV (v_v _))⟩, .inr ⟨_, rfl, .inl (renV (v_sC _))⟩, trivial⟩⟩
        | false =>
          rw [hkd] at hs2
          have hs2 : dn.contains sj = true := hs2
          simp (maxSteps := 2000000) only [go_sem, Nat.reduceBEq, Nat.reduceAdd, Nat.reduceLT, Nat.reduceLeDiff, Nat.reduceEqDiff, reduceCtorEq, Int.reduceAdd, Int.reduceSub, Int.reduceNeg, Int.reduceLE, Int.reduceLT, Int.reduceToNat, Int.reduceBEq, Int.reduceBNe, Int.reduceEq, Int.reduceNe, Nat.reduceMul, Nat.reduceSub, hgj, hkd]
          refine ⟨⟨by omega, by omega⟩, ?_⟩
          refine Sm.opC 250 rfl rfl (.inl rfl) (fun _ => StpC.lookup (v := Bo (dn.contains sj)) rfl rfl rfl rfl rfl iT (fun β => (seen_get sj dn).symm)) ?_
          simp (maxSteps := 2000000) only [go_sem, Nat.reduceBEq, Nat.reduceAdd, Nat.reduceLT, Nat.reduceLeDiff, Nat.reduceEqDiff, reduceCtorEq, Int.reduceAdd, Int.reduceSub, Int.reduceNeg, Int.reduceLE, Int.reduceLT, Int.reduceToNat, Int.reduceBEq, Int.reduceBNe, Int.reduceEq, Int.reduceNe, Nat.reduceMul, Nat.reduceSub, hs2, wS (show j ≤ 1000000000000000000 by omega)]
          exact hj2 _ _ ⟨j + 1, hc2⟩ [(3, 3), (1, 1), (2, 2), (8, 8)] (by simp only; omega) ⟨rfl, trivial, ⟨rfl, rfl, rfl, rfl, rfl, rfl, rfl, rfl, rfl, trivial⟩, ⟨.inr ⟨_, rfl, .inl (renV (v_nC _))⟩, .inr ⟨_, rfl, .inl (renV (v_v _))⟩, .inr ⟨_, rfl, .inl (renV (v_v _))⟩, .inr ⟨_, rfl, .inl (renV (v_sC _))⟩, trivial⟩⟩
      · refine Sm.mapUpd (u := .bool true) l4 rfl rfl rfl rfl rfl rfl rfl (fun _ => rfl) iT f1 (fun C5 l5 k5 m5 => ?_)
        refine Sm.go 250 ?_
        simp (maxSteps := 2000000) only [go_sem, Nat.reduceBEq, Nat.reduceAdd, Nat.reduceLT, Nat.reduceLeDiff, Nat.reduceEqDiff, reduceCtorEq, Int.reduceAdd, Int.reduceSub, Int.reduceNeg, Int.reduceLE, Int.reduceLT, Int.reduceToNat, Int.reduceBEq, Int.reduceBNe, Int.reduceEq, Int.reduceNe, Nat.reduceMul, Nat.reduceSub, wS (show k ≤ 1000000000000000000 by omega)]
        exact hj _ _ C5 ⟨(k + 1, bl.c.nm :: dn), hc, hb⟩ [(3, 3), (1, 1)] l5 ⟨fun b o h => k5 b o (hHm b o h) (iH b o h), m5⟩ (by simp only; omega) ⟨rfl, trivial, ⟨rfl, rfl, rfl, rfl, rfl, trivial⟩, ⟨.inr ⟨_, rfl, .inl (renV (v_nC _))⟩, .inr ⟨_, rfl, .inl (renV (v_v _))⟩, trivial⟩⟩
    · exact RetQ.of (hR C4 l4 trivial) rfl scc rvv (Sub.nil _) ClM.nil (ClV.of rfl)
end Go.Proofs.YtkciabfilokfiaaGreat.Fx
