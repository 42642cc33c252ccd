/- The law CheckLoops walked: its own search. -/
import Derived.Test.YtkciabfilokfiaaGreatRB
import Derived.Test.YtkciabfilokfiaaGreatMB
namespace Go.Proofs.YtkciabfilokfiaaGreat.Fx
open Vg Tf
set_option linter.unusedSimpArgs false
set_option linter.unusedVariables false
set_option maxRecDepth 100000
set_option maxHeartbeats 4000000
def kB (bs : List Bl) (st s : Str) (f : Nat) (r : List Bl) (q : List Str × List Str) : Bool := match blsG st s r q with
  | none => true
  | some q' => bfsG bs st f q'
def kI (bs : List Bl) (st s : Str) (f : Nat) (r : List Bl) (l : List Str) (q : List Str × List Str) : Bool := match insG st l q with
  | none => true
  | some q' => kB bs st s f r q'
theorem kB_cons (bs : List Bl) (st s : Str) (f : Nat) (b : Bl) (r : List Bl) (q : List Str × List Str) : kB bs st s f (b :: r) q = bif (bif !(b.nm == s) then true else b.kd == delS) then kB bs st s f r q else kI bs st s f r b.ins q := by
  unfold kB kI
  rw [blsG]
  cases (bif !(b.nm == s) then true else b.kd == delS) with
  | true => rfl
  | false =>
    rw [cond_false, cond_false]
    cases insG st b.ins q <;> rfl
theorem kI_nil (bs : List Bl) (st s : Str) (f : Nat) (r : List Bl) (q : List Str × List Str) : kI bs st s f r [] q = kB bs st s f r q := rfl
theorem kI_cons (bs : List Bl) (st s : Str) (f : Nat) (r : List Bl) (x : Str) (l : List Str) (q : List Str × List Str) : kI bs st s f r (x :: l) q = bif x == st then true else bif q.1.contains x then kI bs st s f r l q else kI bs st s f r l (x :: q.1, q.2 ++ [x]) := by
  unfold kI
  rw [insG]
  cases x == st with
  | true => rfl
  | false =>
    rw [cond_false, cond_false]
    cases q.1.contains x <;> rfl
theorem bfs_cons (bs : List Bl) (st : Str) (f : Nat) (seen nx : List Str) (s : Str) : bfsG bs st (f + 1) (seen, s :: nx) = kB bs st s f bs (seen, nx) := rfl
/-- What is still to come: a slice in block 6, or one that has lost its capacity. -/
def nxS : Bool → List Str → Nat → List Str
  | true, _, _ => []
  | false, cs, o => cs.drop o
@[reducible] def nxV : Bool → Nat → Nat → V
  | true, o, _ => .c (.s0 6 o)
  | false, o, n => .c (.sl 6 o n 1)
/-- s[1:] -/
theorem Sm.tail1 {nt : Nat} {C : Cx} {rg : Array Oper} {o : Oper} {l : List Oper} {r : List It} {e : Env} {M : Mem} {x : Operand} {off len : Nat} {b : Bk} (hg : gd rg e o = some true) (hd : dstOk nt o.dst = true) (ho : o.op = .slice 27 x (some (.const (.int .i64 1))) none none)
    (hx : rd e x = some (true, .c (.sl 6 off len 1))) (hb : M.get 6 = some b) (hfit : off + len ≤ b.cells.length) (h0 : 0 < len)
    (h : ∀ (z : Bool) (off' : Nat), (z = false → off' = off + 1) → (z = true → len = 1 ∧ off' = off) → Sm Tryz.prog nt C (.ops rg l :: r) (e.put o.dst true (nxV z off' (len - 1))) M) : Sm Tryz.prog nt C (.ops rg (o :: l) :: r) e M := by
  by_cases h1 : len = 1
  · subst h1
    exact Sm.sliceEnd (len := 1) (kk := .i64) hg hd ho hx rfl sl27 hb (by omega) (by omega) (h true off (fun h => by cases h) fun _ => ⟨rfl, rfl⟩) (h false (off + 1) (fun _ => rfl) fun h => by cases h)
  · have hc1 : rdV e (.const (.int .i64 1)) = some (true, .int .i64 1) := rfl
    have hop : opX Tryz.prog e M 0 o.op = some ((true = true ∧ 1 = 1 ∧ true = true ∧ True ∧ (0 : Int) ≤ 1 ∧ (1 : Int) ≤ len ∧ (len : Int) ≤ len ∧ off + len * 1 ≤ b.cells.length ∧ ((1 : Int) = 0 ∨ (1 : Int) < len)), .c (.sl 6 (off + (1 : Int).toNat * 1) ((len : Int) - 1).toNat 1), [], 0) := by
      rw [ho]
      simp only [opX, hx, sl27, bndE, hc1, hb]
    have hst := opX_ok hop ⟨rfl, rfl, rfl, trivial, by omega, by omega, by omega, by omega, by omega⟩
    have e1 : ((len : Int) - 1).toNat = len - 1 := by omega
    have e2 : off + (1 : Int).toNat * 1 = off + 1 := rfl
    rw [e1, e2] at hst
    exact Sm.op (N := []) hg (dstOk_lt hd) (.inl rfl) (fun _ => hst) (h false (off + 1) (fun _ => rfl) fun h => by cases h)
theorem srcE_sl {P : Program} {e : Env} {M : Mem} {tx : TypeId} {esz m k sz : Nat} {x : Operand} {b : Bk} {q : TypeId × Nat} (hx : rd e x = some (true, .c (.sl m 0 k sz))) (hs : slOf P tx = some q) (hb : M.get m = some b) :
    srcE P e M tx esz x = some ((true = true ∧ sz = esz ∧ q.2 = esz ∧ 0 + k * esz ≤ b.cells.length ∧ ((b.cells.drop 0).take (k * esz)).all Cv.one = true), k, (b.cells.drop 0).take (k * esz)) := by
  unfold srcE; rw [hx]; simp only [hs, hb]
theorem nxE (st : Str) (mb : Nat) (z : Bool) (o n : Nat) (b1 b6 : Bk) : ∀ p ∈ ([(0, true, S st), (1, true, .c (.p 1 0)), (3, true, Bo false), (4, true, .c (.v (.map (some mb)))), (5, true, nxV z o n)] : Env), ClV ([(1, b1), (6, b6)] : Mem) p.2.2 := by
  cases z <;> exact ClE.of rfl
theorem nxE2 (st s : Str) (mb n1 n2 i : Nat) (z : Bool) (o n : Nat) (b1 b6 b7 : Bk) : ∀ p ∈ ([(0, true, S st), (1, true, .c (.p 1 0)), (3, true, Bo false), (4, true, .c (.v (.map (some mb)))), (5, true, nxV z o n), (6, true, S s), (23, true, .c (.sl 7 0 n1 6)), (24, true, I n2), (25, true, I i)] : Env), ClV ([(1, b1), (6, b6), (7, b7)] : Mem) p.2.2 := by
  cases z <;> exact ClE.of rfl
theorem nxE3 (st s : Str) (mb n1 n2 i n3 n4 j : Nat) (z : Bool) (o n : Nat) (b1 b6 b7 b8 : Bk) : ∀ p ∈ ([(0, true, S st), (1, true, .c (.p 1 0)), (3, true, Bo false), (4, true, .c (.v (.map (some mb)))), (5, true, nxV z o n), (6, true, S s), (23, true, .c (.sl 7 0 n1 6)), (24, true, I n2), (25, true, I i), (39, true, .c (.sl 8 0 n3 1)), (40, true, I n4), (41, true, I j)] : Env), ClV ([(1, b1), (6, b6), (7, b7), (8, b8)] : Mem) p.2.2 := by
  cases z <;> exact ClE.of rfl
theorem back_ {H : Hp} (d : DgL) (hd : d.ok H) (hs : d.sm) (st : Str) (hU : (alnS d.c.bls).length ≤ 1000000) :
    CallX H Tryz.prog 25 [S st, .c (.p 1 0)] [(1, ⟨true, d.r.map .v, 29⟩)] (fun _ : Unit => Bo (bckB d.c.bls st)) (fun _ => []) (fun _ _ => True) := by
  generalize hR0 : bckB d.c.bls st = R0
  have hR1 : bfsG d.c.bls st (bckF d.c.bls) ([], [st]) = R0 := hR0
  have hf0 : bckF d.c.bls ≤ 1000002 := by unfold bckF; omega
  have hm0 : 1 + unS (alnS d.c.bls) [] < bckF d.c.bls := by
    have : unS (alnS d.c.bls) [] ≤ (alnS d.c.bls).length := List.length_filter_le _ _
    unfold bckF; omega
  generalize bckF d.c.bls = f0 at *
  refine CallX.mkS Tryz.func25 rfl en25 (by simp [Tryz.ntmps25]) (ClA.of rfl) (fun _ => rfl) (fun _ => rfl) fun C hR hP hH hL => ?_
  have hR := hR ()
  have hM1 : ClM [(1, ⟨true, d.r.map Cv.v, 29⟩)] := ClM.of rfl
  have hlb : (d.bls.map BlL.r).length = d.bls.length := List.length_map _
  have hz2 := rows_len (r := BlL.r) (k := 6) (fun _ => rfl) d.bls
  have hnb := hs.bls.1
  refine Sm.go 100 ?_
  refine vv ?_
  refine Sm.makeMap hL rfl rfl rfl (fun mb C1 l1 k1 f1 f1' m1 => ?_)
  have hHm : ∀ b o, H b o → b ≠ mb := fun b o h => by have := Cx.hp_lt (hH b o h); omega
  refine Sm.go 110 ?_
  refine vv ?_
  refine Sm.loopX (C := C) (Ck := C1) (M0 := [(1, ⟨true, d.r.map .v, 29⟩)]) (α := { q : Nat × List Str × List Str × Nat × Bool // q.2.2.2.1 ≤ q.2.2.1.length ∧ q.1 ≤ f0 ∧ bfsG d.c.bls st q.1 (q.2.1, nxS q.2.2.2.2 q.2.2.1 q.2.2.2.1) = R0 ∧ (nxS q.2.2.2.2 q.2.2.1 q.2.2.2.1).length + unS (alnS d.c.bls) q.2.1 < q.1 ∧ q.2.2.1.length + unS (alnS d.c.bls) q.2.1 ≤ 1000002 ∧ 0 < q.2.2.1.length }) l1 hP
    (fun q => [(0, true, S st), (1, true, .c (.p 1 0)), (3, true, Bo false), (4, true, .c (.v (.map (some mb)))), (5, true, nxV q.val.2.2.2.2 q.val.2.2.2.1 (q.val.2.2.1.length - q.val.2.2.2.1))])
    (fun q => [(1, ⟨true, d.r.map .v, 29⟩), (6, ⟨false, q.val.2.2.1.map sC, 9⟩)]) (fun q hp => H.le hp ∧ MpB hp mb (fillM seenF q.val.2.1)) (fun q => q.val.1) ⟨(f0, [], [st], 0, false), by simp, by simp, hR1, by simpa [nxS] using hm0, by show 1 + unS (alnS d.c.bls) [] ≤ 1000002; omega, by simp⟩ ⟨hH.trans k1, m1⟩ (fun _ => ClM.of (by simp only [List.all_cons, inMV (v_v _), inMV (v_sC _)]; rfl)) (fun q => nxE _ _ _ _ _ _ _) [(1, 1), (6, 110)] ⟨rfl, ⟨⟨rfl, rfl⟩, trivial⟩, ⟨rfl, rfl, rfl, rfl, rfl, trivial⟩, ⟨.inr ⟨_, rfl, .inl (renV (v_v _))⟩, .inr ⟨_, rfl, .inl (renV (v_sC _))⟩, trivial⟩⟩ ?_
  rintro ⟨⟨f, seen, cs, o, z⟩, ho, hf, hb, hm, hcl, hcp⟩ C2 J l2 ⟨iH, iT⟩ hj
  simp only at hj hm hb ho hf iT hcl hcp ⊢
  cases z with
  | true =>
    have hb : false = R0 := by
      cases f with
      | zero => exact hb
      | succ f => exact hb
    subst hb
    unfold nxV
    refine run_ok 4 _ _ _ 120 ?_
    refine vv ?_
    refine Sm.opq rfl rfl ⟨[], _, fun _ => Stp.lenS0 rfl sl27 rfl, .inl rfl, ?_⟩
    refine Sm.go 120 ?_
    refine vv ?_
    exact RetQ.of (hR C2 l2 trivial) rfl scc rvv (SubS.sub ⟨⟨_, rfl, .inl rfl⟩, trivial⟩) hM1 (ClV.of rfl)
  | false =>
  unfold nxV
  unfold nxS at hb hm
  simp only at hb hm ⊢
  refine run_ok 20 _ _ _ 120 ?_
  refine vv ?_
  refine mtch (fun hc => ?_) (fun hc => ?_)
  · have hc : 0 < cs.length - o := by have := of_decide_eq_true hc; omega
    have hoc : o < cs.length := by omega
    have hgo := get_sC hoc
    rw [List.drop_eq_getElem_cons hoc] at hb hm
    generalize cs[o] = s at *
    cases f with
    | zero => omega
    | succ f =>
    rw [bfs_cons] at hb
    simp (maxSteps := 2000000) only [go_sem, Nat.reduceBEq, Nat.reduceAdd, Nat.reduceLT, Nat.reduceLeDiff, Nat.reduceEqDiff, reduceCtorEq, Int.reduceAdd, Int.reduceSub, Int.reduceNeg, Int.reduceLE, Int.reduceLT, Int.reduceToNat, Int.reduceBEq, Int.reduceBNe, Int.reduceEq, Int.reduceNe, Nat.reduceMul, Nat.reduceSub, hgo]
    refine ⟨by omega, ?_⟩
    refine Sm.tail1 rfl rfl rfl rfl rfl (by simp; omega) hc (fun z o' hz1 hz2 => ?_)
    have hno : nxS z cs o' = cs.drop (o + 1) := by
      cases z with
      | true => obtain ⟨q1, q2⟩ := hz2 rfl; exact (List.drop_eq_nil_of_le (by omega)).symm
      | false => rw [hz1 rfl]; rfl
    have hon : z = false → cs.length - o - 1 = cs.length - o' := fun h => by rw [hz1 h]; omega
    have hol : o' ≤ cs.length := by
      cases z with
      | true => obtain ⟨q1, q2⟩ := hz2 rfl; omega
      | false => rw [hz1 rfl]; omega
    rw [← hno] at hb hm
    have hnv : nxV z o' (cs.length - o - 1) = nxV z o' (cs.length - o') := by
      cases z with
      | true => rfl
      | false => rw [hon rfl]
    rw [hnv]
    have hol' := hol
    generalize hV : nxV z o' (cs.length - o') = nv
    refine Sm.go 130 ?_
    refine vv ?_
    refine Sm.bringR 7 53 23 (hd.bl.mono iH) rfl rfl ?_
    rw [hlb, ← hV]
    clear hno hon hol hnv hV hz1 hz2 hc hoc hgo
    refine Sm.loopX (C := C) (Ck := C2) (M0 := [(1, ⟨true, d.r.map .v, 29⟩)]) (α := { q : Nat × List Str × List Str × Nat × Bool // q.2.2.2.1 ≤ q.2.2.1.length ∧ q.1 ≤ d.bls.length ∧ kB d.c.bls st s f ((d.bls.drop q.1).map BlL.c) (q.2.1, nxS q.2.2.2.2 q.2.2.1 q.2.2.2.1) = R0 ∧ (nxS q.2.2.2.2 q.2.2.1 q.2.2.2.1).length + unS (alnS d.c.bls) q.2.1 < f ∧ q.2.2.1.length + unS (alnS d.c.bls) q.2.1 ≤ 1000002 ∧ 0 < q.2.2.1.length }) l2 hP
      (fun q => [(0, true, S st), (1, true, .c (.p 1 0)), (3, true, Bo false), (4, true, .c (.v (.map (some mb)))), (5, true, nxV q.val.2.2.2.2 q.val.2.2.2.1 (q.val.2.2.1.length - q.val.2.2.2.1)), (6, true, S s), (23, true, .c (.sl 7 0 d.bls.length 6)), (24, true, I d.bls.length), (25, true, I q.val.1)])
      (fun q => [(1, ⟨true, d.r.map .v, 29⟩), (6, ⟨false, q.val.2.2.1.map sC, 9⟩), (7, ⟨true, rowsC (d.bls.map BlL.r), 53⟩)]) (fun q hp => H.le hp ∧ MpB hp mb (fillM seenF q.val.2.1)) (fun q => d.bls.length - q.val.1) ⟨(0, seen, cs, o', z), hol', by simp, hb, by rw [List.length_cons] at hm; show (nxS z cs o').length + unS _ seen < f; omega, hcl, hcp⟩ ⟨iH, iT⟩ (fun _ => ClM.of (by simp only [List.all_cons, inMV (v_v _), inMV (v_sC _), inMV (rowsC_isV _)]; rfl)) (fun q => nxE2 _ _ _ _ _ _ _ _ _ _ _ _) [(1, 1), (6, 6), (7, 7)] (by cases z <;> exact ⟨rfl, ⟨⟨rfl, rfl⟩, trivial⟩, ⟨rfl, rfl, rfl, rfl, rfl, rfl, rfl, rfl, rfl, trivial⟩, ⟨.inr ⟨_, rfl, .inl (renV (v_v _))⟩, .inr ⟨_, rfl, .inl (renV (v_sC _))⟩, .inr ⟨_, rfl, .inl (renV (rowsC_isV _))⟩, trivial⟩⟩) ?_
    clear hb hm iH iT hcl hcp hol'
    rintro ⟨⟨i, seen, cs, o, z⟩, ho, hi, hb, hm, hcl, hcp⟩ C3 J3 l3 ⟨iH, iT⟩ hj3
    simp only at hj3 hm hb ho hi iT hcl hcp ⊢
    refine Sm.go 140 ?_
    refine vv ?_
    refine mtch (fun hc => ?_) (fun hc => ?_)
    · have hc := lt_of_dec hc
      have htk := rows_take (r := BlL.r) (k := 6) (fun _ => rfl) d.bls i hc
      have hmem : d.bls[i] ∈ d.bls := List.getElem_mem hc
      have hbo := hd.bls d.bls[i] hmem
      have hbs := hs.bls.2 d.bls[i] hmem
      rw [List.drop_eq_getElem_cons hc, List.map_cons, kB_cons] at hb
      have hba : ∀ x ∈ d.bls[i].c.ins, x ∈ alnS d.c.bls := fun x hx => List.mem_flatMap.2 ⟨d.bls[i].c, List.mem_map.2 ⟨d.bls[i], hmem, rfl⟩, hx⟩
      generalize d.bls[i] = bl at *
      simp (maxSteps := 2000000) only [go_sem, Nat.reduceBEq, Nat.reduceAdd, Nat.reduceLT, Nat.reduceLeDiff, Nat.reduceEqDiff, reduceCtorEq, Int.reduceAdd, Int.reduceSub, Int.reduceNeg, Int.reduceLE, Int.reduceLT, Int.reduceToNat, Int.reduceBEq, Int.reduceBNe, Int.reduceEq, Int.reduceNe, Nat.reduceMul, Nat.reduceSub, htk, hz2, wS (show i ≤ 1000000000000000000 by omega)]
      refine ⟨⟨by omega, by omega⟩, by omega, ?_⟩
      refine mtch (fun hk => ?_) (fun hk => ?_)
      · have hk : (bif !(bl.c.nm == s) then true else bl.c.kd == delS) = true := hk
        rw [hk, cond_true] at hb
        exact hj3 _ _ C3 ⟨(i + 1, seen, cs, o, z), ho, hc, hb, hm, hcl, hcp⟩ [(1, 1), (6, 6), (7, 7)] l3 ⟨iH, iT⟩ (by simp only; omega) (by cases z <;> exact ⟨rfl, ⟨⟨rfl, rfl⟩, trivial⟩, ⟨rfl, rfl, rfl, rfl, rfl, rfl, rfl, rfl, rfl, trivial⟩, ⟨.inr ⟨_, rfl, .inl (renV (v_v _))⟩, .inr ⟨_, rfl, .inl (renV (v_sC _))⟩, .inr ⟨_, rfl, .inl (renV (rowsC_isV _))⟩, trivial⟩⟩)
      · have hk : (bif !(bl.c.nm == s) then true else bl.c.kd == delS) = false := hk
        rw [hk, cond_false] at hb
        have hbins : bl.c.ins.length ≤ 1000000000000000 := hbs.2.2.2.1
        refine Sm.bringS 8 9 39 (hbo.i.mono iH) rfl rfl ?_
        refine Sm.loopX (C := C) (Ck := C3) (M0 := [(1, ⟨true, d.r.map .v, 29⟩)]) (α := { q : Nat × List Str × List Str × Nat × Bool // q.2.2.2.1 ≤ q.2.2.1.length ∧ q.1 ≤ bl.c.ins.length ∧ kI d.c.bls st s f ((d.bls.drop (i + 1)).map BlL.c) (bl.c.ins.drop q.1) (q.2.1, nxS q.2.2.2.2 q.2.2.1 q.2.2.2.1) = R0 ∧ (nxS q.2.2.2.2 q.2.2.1 q.2.2.2.1).length + unS (alnS d.c.bls) q.2.1 < f ∧ q.2.2.1.length + unS (alnS d.c.bls) q.2.1 ≤ 1000002 ∧ 0 < q.2.2.1.length }) l3 hP
          (fun q => [(0, true, S st), (1, true, .c (.p 1 0)), (3, true, Bo false), (4, true, .c (.v (.map (some mb)))), (5, true, nxV q.val.2.2.2.2 q.val.2.2.2.1 (q.val.2.2.1.length - q.val.2.2.2.1)), (6, true, S s), (23, true, .c (.sl 7 0 d.bls.length 6)), (24, true, I d.bls.length), (25, true, I i), (39, true, .c (.sl 8 0 bl.c.ins.length 1)), (40, true, I bl.c.ins.length), (41, true, I q.val.1)])
          (fun q => [(1, ⟨true, d.r.map .v, 29⟩), (6, ⟨false, q.val.2.2.1.map sC, 9⟩), (7, ⟨true, rowsC (d.bls.map BlL.r), 53⟩), (8, ⟨true, bl.c.ins.map sC, 9⟩)]) (fun q hp => H.le hp ∧ MpB hp mb (fillM seenF q.val.2.1)) (fun q => bl.c.ins.length - q.val.1) ⟨(0, seen, cs, o, z), ho, by simp, hb, hm, hcl, hcp⟩ ⟨iH, iT⟩ (fun _ => ClM.of (by simp only [List.all_cons, inMV (v_v _), inMV (v_sC _), inMV (rowsC_isV _)]; rfl)) (fun q => nxE3 _ _ _ _ _ _ _ _ _ _ _ _ _ _ _ _) [(1, 1), (6, 6), (7, 7), (8, 8)] (by cases z <;> exact ⟨rfl, ⟨⟨rfl, rfl⟩, trivial⟩, ⟨rfl, rfl, rfl, rfl, rfl, rfl, rfl, rfl, rfl, rfl, rfl, rfl, trivial⟩, ⟨.inr ⟨_, rfl, .inl (renV (v_v _))⟩, .inr ⟨_, rfl, .inl (renV (v_sC _))⟩, .inr ⟨_, rfl, .inl (renV (rowsC_isV _))⟩, .inr ⟨_, rfl, .inl (renV (v_sC _))⟩, trivial⟩⟩) ?_
        clear hb hm iH iT hcl hcp ho
        rintro ⟨⟨j, seen, cs, o, z⟩, ho, hj5, hb, hm, hcl, hcp⟩ C4 J4 l4 ⟨iH, iT⟩ hj4
        simp only at hj4 hm hb ho hj5 iT hcl hcp ⊢
        refine Sm.go 160 ?_
        refine vv ?_
        refine mtch (fun hc5 => ?_) (fun hc5 => ?_)
        · have hc5 := lt_of_dec hc5
          rw [List.drop_eq_getElem_cons hc5, kI_cons] at hb
          have hxa := hba _ (List.getElem_mem hc5)
          have hgj := get_sC hc5
          generalize bl.c.ins[j] = x at *
          simp (maxSteps := 2000000) only [go_sem, Nat.reduceBEq, Nat.reduceAdd, Nat.reduceLT, Nat.reduceLeDiff, Nat.reduceEqDiff, reduceCtorEq, Int.reduceAdd, Int.reduceSub, Int.reduceNeg, Int.reduceLE, Int.reduceLT, Int.reduceToNat, Int.reduceBEq, Int.reduceBNe, Int.reduceEq, Int.reduceNe, Nat.reduceMul, Nat.reduceSub, hgj]
          refine ⟨⟨by omega, by omega⟩, ?_⟩
          refine mtch (fun hx => ?_) (fun hx => ?_)
          · have hx : (x == st) = true := hx
            rw [hx, cond_true] at hb
            subst hb
            exact RetQ.of (hR C4 l4 trivial) rfl scc rvv (SubS.sub ⟨⟨_, rfl, .inl rfl⟩, trivial⟩) hM1 (ClV.of rfl)
          · have hx : (x == st) = false := hx
            rw [hx, cond_false] at hb
            refine Sm.opC 170 rfl rfl (.inl rfl) (fun _ => StpC.lookup (v := Bo (seen.contains x)) rfl rfl rfl rfl rfl iT (fun β => (seen_get x seen).symm)) ?_
            simp (maxSteps := 2000000) only [go_sem, Nat.reduceBEq, Nat.reduceAdd, Nat.reduceLT, Nat.reduceLeDiff, Nat.reduceEqDiff, reduceCtorEq, Int.reduceAdd, Int.reduceSub, Int.reduceNeg, Int.reduceLE, Int.reduceLT, Int.reduceToNat, Int.reduceBEq, Int.reduceBNe, Int.reduceEq, Int.reduceNe, Nat.reduceMul, Nat.reduceSub, wS (show j ≤ 1000000000000000000 by omega)]
            cases hsx : seen.contains x with
            | true =>
              rw [hsx, cond_true] at hb
              simp (maxSteps := 2000000) only [go_sem, Nat.reduceBEq, Nat.reduceAdd, Nat.reduceLT, Nat.reduceLeDiff, Nat.reduceEqDiff, reduceCtorEq, Int.reduceAdd, Int.reduceSub, Int.reduceNeg, Int.reduceLE, Int.reduceLT, Int.reduceToNat, Int.reduceBEq, Int.reduceBNe, Int.reduceEq, Int.reduceNe, Nat.reduceMul, Nat.reduceSub, wS (show j ≤ 1000000000000000000 by omega)]
              exact hj4 _ _ C4 ⟨(j + 1, seen, cs, o, z), ho, hc5, hb, hm, hcl, hcp⟩ [(1, 1), (6, 6), (7, 7), (8, 8)] l4 ⟨iH, iT⟩ (by simp only; omega) (by cases z <;> exact ⟨rfl, ⟨⟨rfl, rfl⟩, trivial⟩, ⟨rfl, rfl, rfl, rfl, rfl, rfl, rfl, rfl, rfl, rfl, rfl, rfl, trivial⟩, ⟨.inr ⟨_, rfl, .inl (renV (v_v _))⟩, .inr ⟨_, rfl, .inl (renV (v_sC _))⟩, .inr ⟨_, rfl, .inl (renV (rowsC_isV _))⟩, .inr ⟨_, rfl, .inl (renV (v_sC _))⟩, trivial⟩⟩)
            | false =>
              rw [hsx, cond_false] at hb
              refine vv ?_
              refine Sm.mapUpd (u := .bool true) l4 rfl rfl rfl rfl rfl rfl rfl (fun _ => rfl) iT f1 (fun C5 l5 k5 m5 => ?_)
              have hu := unS_cons hxa hsx
              have hnl : ∀ y : Str, (nxS z cs o ++ [y]).length = (nxS z cs o).length + 1 := fun y => by simp
              have hm2 : (nxS z cs o ++ [x]).length + unS (alnS d.c.bls) (x :: seen) < f := by rw [hnl]; omega
              have hI5 : H.le C5.hp ∧ MpB C5.hp mb (fillM seenF (x :: seen)) := ⟨fun b o h => k5 b o (hHm b o h) (iH b o h), m5⟩
              cases z with
              | true =>
                unfold nxV
                refine Sm.go 180 ?_
                simp (maxSteps := 2000000) only [go_sem, Nat.reduceBEq, Nat.reduceAdd, Nat.reduceLT, Nat.reduceLeDiff, Nat.reduceEqDiff, reduceCtorEq, Int.reduceAdd, Int.reduceSub, Int.reduceNeg, Int.reduceLE, Int.reduceLT, Int.reduceToNat, Int.reduceBEq, Int.reduceBNe, Int.reduceEq, Int.reduceNe, Nat.reduceMul, Nat.reduceSub, wS (show j ≤ 1000000000000000000 by omega)]
                exact hj4 _ _ C5 ⟨(j + 1, x :: seen, [x], 0, false), by simp, hc5, hb, hm2, by show 1 + unS (alnS d.c.bls) (x :: seen) ≤ 1000002; omega, by simp⟩ [(1, 1), (6, 181), (7, 7), (8, 8)] l5 hI5 (by simp only; omega) ⟨rfl, ⟨⟨rfl, rfl⟩, trivial⟩, ⟨rfl, rfl, rfl, rfl, rfl, rfl, rfl, rfl, rfl, rfl, rfl, rfl, trivial⟩, ⟨.inr ⟨_, rfl, .inl (renV (v_v _))⟩, .inr ⟨_, rfl, .inl (renV (v_sC _))⟩, .inr ⟨_, rfl, .inl (renV (rowsC_isV _))⟩, .inr ⟨_, rfl, .inl (renV (v_sC _))⟩, trivial⟩⟩
              | false =>
                unfold nxV
                refine run_ok 5 _ _ _ 180 ?_
                refine vv ?_
                have hdl : (cs.drop o).length = cs.length - o := List.length_drop
                have hnl2 : (cs.drop o).length + 1 ≤ 1000002 := by
                  have h1 : (nxS false cs o).length + unS (alnS d.c.bls) seen < f := hm
                  have h2 : (nxS false cs o).length = (cs.drop o).length := rfl
                  omega
                refine Sm.appOff (k := 1) 181 rfl rfl rfl sl27 zr9 rfl rfl rfl rfl (by simp only [List.length_map]; omega) (by simp only [List.length_map]; omega) rfl (srcE_sl (m := 180) (k := 1) rfl sl27 rfl) ⟨rfl, rfl, rfl, by simp, rfl⟩ (by rw [by9]; omega) (by omega) ?_ ?_
                · refine Sm.go 190 ?_
                  simp (maxSteps := 2000000) only [go_sem, Nat.reduceBEq, Nat.reduceAdd, Nat.reduceLT, Nat.reduceLeDiff, Nat.reduceEqDiff, reduceCtorEq, Int.reduceAdd, Int.reduceSub, Int.reduceNeg, Int.reduceLE, Int.reduceLT, Int.reduceToNat, Int.reduceBEq, Int.reduceBNe, Int.reduceEq, Int.reduceNe, Nat.reduceMul, Nat.reduceSub, wS (show j ≤ 1000000000000000000 by omega)]
                  have ec : List.take (o + (cs.length - o)) (cs.map sC) ++ [sC x] = (cs ++ [x]).map sC := by
                    rw [List.take_of_length_le (by simp; omega), List.map_append]; rfl
                  have el : cs.length - o + 1 = (cs ++ [x]).length - o := by simp; omega
                  have ed : nxS false cs o ++ [x] = nxS false (cs ++ [x]) o := by
                    show cs.drop o ++ [x] = (cs ++ [x]).drop o
                    rw [List.drop_append_of_le_length ho]
                  rw [ec, el]
                  rw [ed] at hb hm2
                  exact hj4 _ _ C5 ⟨(j + 1, x :: seen, cs ++ [x], o, false), by simp; omega, hc5, hb, hm2, by show (cs ++ [x]).length + unS (alnS d.c.bls) (x :: seen) ≤ 1000002; rw [List.length_append]; simp only [List.length_cons, List.length_nil]; omega, by simp⟩ [(1, 1), (6, 181), (7, 7), (8, 8)] l5 hI5 (by simp only; omega) ⟨rfl, ⟨⟨rfl, rfl⟩, trivial⟩, ⟨rfl, rfl, rfl, rfl, rfl, rfl, rfl, rfl, rfl, rfl, rfl, rfl, trivial⟩, ⟨.inr ⟨_, rfl, .inl (renV (v_v _))⟩, .inr ⟨_, rfl, .inl (renV (v_sC _))⟩, .inr ⟨_, rfl, .inl (renV (rowsC_isV _))⟩, .inr ⟨_, rfl, .inl (renV (v_sC _))⟩, trivial⟩⟩
                · refine Sm.go 190 ?_
                  simp (maxSteps := 2000000) only [go_sem, Nat.reduceBEq, Nat.reduceAdd, Nat.reduceLT, Nat.reduceLeDiff, Nat.reduceEqDiff, reduceCtorEq, Int.reduceAdd, Int.reduceSub, Int.reduceNeg, Int.reduceLE, Int.reduceLT, Int.reduceToNat, Int.reduceBEq, Int.reduceBNe, Int.reduceEq, Int.reduceNe, Nat.reduceMul, Nat.reduceSub, wS (show j ≤ 1000000000000000000 by omega)]
                  have ec : List.take (cs.length - o) (List.drop o (cs.map sC)) ++ [sC x] = (cs.drop o ++ [x]).map sC := by
                    rw [List.take_of_length_le (by simp), List.map_append, List.map_drop]; rfl
                  have el : cs.length - o + 1 = (cs.drop o ++ [x]).length - 0 := by simp
                  have ed : nxS false cs o ++ [x] = nxS false (cs.drop o ++ [x]) 0 := rfl
                  rw [ec, el]
                  rw [ed] at hb hm2
                  exact hj4 _ _ C5 ⟨(j + 1, x :: seen, cs.drop o ++ [x], 0, false), by simp, hc5, hb, hm2, by show (cs.drop o ++ [x]).length + unS (alnS d.c.bls) (x :: seen) ≤ 1000002; rw [List.length_append]; simp only [List.length_cons, List.length_nil]; omega, by simp⟩ [(1, 1), (6, 181), (7, 7), (8, 8)] l5 hI5 (by simp only; omega) ⟨rfl, ⟨⟨rfl, rfl⟩, trivial⟩, ⟨rfl, rfl, rfl, rfl, rfl, rfl, rfl, rfl, rfl, rfl, rfl, rfl, trivial⟩, ⟨.inr ⟨_, rfl, .inl (renV (v_v _))⟩, .inr ⟨_, rfl, .inl (renV (v_sC _))⟩, .inr ⟨_, rfl, .inl (renV (rowsC_isV _))⟩, .inr ⟨_, rfl, .inl (renV (v_sC _))⟩, trivial⟩⟩
        · have hc5 := eq_of_dec hj5 hc5
          rw [hc5, List.drop_length, kI_nil] at hb
          simp (maxSteps := 2000000) only [go_sem, Nat.reduceBEq, Nat.reduceAdd, Nat.reduceLT, Nat.reduceLeDiff, Nat.reduceEqDiff, reduceCtorEq, Int.reduceAdd, Int.reduceSub, Int.reduceNeg, Int.reduceLE, Int.reduceLT, Int.reduceToNat, Int.reduceBEq, Int.reduceBNe, Int.reduceEq, Int.reduceNe, Nat.reduceMul, Nat.reduceSub, wS (show i ≤ 1000000000000000000 by omega)]
          exact hj3 _ _ C4 ⟨(i + 1, seen, cs, o, z), ho, hc, hb, hm, hcl, hcp⟩ [(1, 1), (6, 6), (7, 7)] l4 ⟨iH, iT⟩ (by simp only; omega) (by cases z <;> exact ⟨rfl, ⟨⟨rfl, rfl⟩, trivial⟩, ⟨rfl, rfl, rfl, rfl, rfl, rfl, rfl, rfl, rfl, trivial⟩, ⟨.inr ⟨_, rfl, .inl (renV (v_v _))⟩, .inr ⟨_, rfl, .inl (renV (v_sC _))⟩, .inr ⟨_, rfl, .inl (renV (rowsC_isV _))⟩, trivial⟩⟩)
    · have hc := eq_of_dec hi hc
      rw [hc, List.drop_length] at hb
      exact hj _ _ C3 ⟨(f, seen, cs, o, z), ho, by omega, hb, hm, hcl, hcp⟩ [(1, 1), (6, 6)] l3 ⟨iH, iT⟩ (by simp only; omega) (by cases z <;> exact ⟨rfl, ⟨⟨rfl, rfl⟩, trivial⟩, ⟨rfl, rfl, rfl, rfl, rfl, trivial⟩, ⟨.inr ⟨_, rfl, .inl (renV (v_v _))⟩, .inr ⟨_, rfl, .inl (renV (v_sC _))⟩, trivial⟩⟩)
  · have hc : ¬ 0 < cs.length - o := by have := of_decide_eq_false hc; omega
    have : cs.drop o = [] := List.drop_eq_nil_of_le (by omega)
    rw [this] at hb
    have hb : false = R0 := by
      cases f with
      | zero => exact hb
      | succ f => exact hb
    subst hb
    exact RetQ.of (hR C2 l2 trivial) rfl scc rvv (SubS.sub ⟨⟨_, rfl, .inl rfl⟩, trivial⟩) hM1 (ClV.of rfl)
end Go.Proofs.YtkciabfilokfiaaGreat.Fx
