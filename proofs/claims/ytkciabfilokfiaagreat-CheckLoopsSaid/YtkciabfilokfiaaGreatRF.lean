/- check.Signal. The example of the laws of layer 11. -/
import Derived.Test.YtkciabfilokfiaaGreatRD
namespace Go.Proofs.YtkciabfilokfiaaGreat.Fx
open Vg Tf
set_option linter.unusedSimpArgs false
set_option linter.unusedVariables false
set_option maxRecDepth 100000
set_option maxHeartbeats 4000000
def sg0 : Sg := ⟨[], ft0, (0, 0)⟩
def sgQ (l : List Sg) (s : Str) : Option Sg := l.find? (fun x => x.nm == s)
attribute [go_sem] Sg.w
@[reducible] def z13 : List Cv := [.v (.string ⟨#[]⟩), .v (.int .i64 0), .v (.bool false), .v (.int .i64 0), .v (.int .i64 0), .v (.int .i64 0), .v (.int .i64 0), .v (.int .i64 0), .v (.int .i64 0), .v (.int .i64 0), .v (.int .i64 0), .v (.int .i64 0), .v (.int .i64 0)]
theorem sgQ_cons (g : Sg) (l : List Sg) (s : Str) : sgQ (g :: l) s = bif g.nm == s then some g else sgQ l s := by
  unfold sgQ; rw [List.find?_cons]; cases g.nm == s <;> rfl
theorem Signal_ {H : Hp} (c : CkL) (hc : c.ok H) (s : Str) (hl : c.sg.length ≤ 1000000000000000) : CallH H Tryz.prog 39 [rowV c.r, S s] (.tup [W.agg (((sgQ c.sg s).getD sg0).w.map Cv.v), Wb1 (sgQ c.sg s).isSome]) := by
  have hz := rows_len (r := Sg.w) (k := 13) (fun _ => rfl) c.sg
  have hlm : (c.sg.map Sg.w).length = c.sg.length := List.length_map _
  have hcr : rowV c.r = .agg [.v (sv c.d.nm), .v (vsl c.d.ty c.d.tys.length), .v (vsl c.d.cu c.d.cus.length), .v (vsl c.d.ma c.d.mas.length), .v (vsl c.d.i c.d.ins.length), .v (vsl c.d.bl c.d.bls.length), .v (vsl c.d.ou c.d.ous.length), .v (vsl c.s c.sg.length), .v (vsl c.o c.od.length)] := rfl
  rw [hcr]
  refine CallH.mkS Tryz.func39 rfl en39 (by simp [Tryz.ntmps39]) (ClA.of rfl) fun C hR hP hH hL => ?_
  refine Sm.go 100 ?_
  refine vv ?_
  refine Sm.bringR 5 47 9 (hc.s.mono hH) rfl rfl ?_
  rw [hlm]
  refine Sm.loopM (M0 := []) (α := { i : Nat // i ≤ c.sg.length ∧ sgQ c.sg s = sgQ (c.sg.drop i) s }) hP (fun i => [(1, true, S s), (4, true, .c (.p 4 0)), (9, true, .c (.sl 5 0 c.sg.length 13)), (10, true, I c.sg.length), (11, true, I i.val)])
    (fun _ => [(4, ⟨false, z13, 47⟩), (5, ⟨true, rowsC (c.sg.map Sg.w), 47⟩)]) (fun i => c.sg.length - i.val) ⟨0, by omega, rfl⟩ (fun _ => ClM.of (by simp only [List.all_cons, inMV (rowsC_isV _)]; rfl)) (fun _ => ClE.of rfl) [(4, 101), (5, 5)] ?_ ?_
  · exact ⟨rfl, trivial, ⟨rfl, rfl, rfl, rfl, rfl, trivial⟩, ⟨.inr ⟨_, rfl, .inl rfl⟩, .inr ⟨_, rfl, .inl (renV (rowsC_isV _))⟩, trivial⟩⟩
  rintro ⟨i, hi, hx⟩ J hj
  simp only at hj hi hx ⊢
  refine Sm.go 110 ?_
  refine vv ?_
  refine mtch (fun hc2 => ?_) (fun hc2 => ?_)
  · have hc2 := lt_of_dec hc2
    have htk := rows_take (r := Sg.w) (k := 13) (fun _ => rfl) c.sg i hc2
    rw [List.drop_eq_getElem_cons hc2, sgQ_cons] at hx
    generalize c.sg[i] = g at *
    simp (maxSteps := 2000000) only [go_sem, Nat.reduceBEq, Nat.reduceAdd, Nat.reduceLT, Nat.reduceLeDiff, Nat.reduceEqDiff, reduceCtorEq, Int.reduceAdd, Int.reduceSub, Int.reduceNeg, Int.reduceLE, Int.reduceLT, Int.reduceToNat, Int.reduceBEq, Int.reduceBNe, Int.reduceEq, Int.reduceNe, Nat.reduceMul, Nat.reduceSub, htk, hz]
    refine ⟨⟨by omega, by omega⟩, by omega, ?_⟩
    refine mtch (fun hg => ?_) (fun hg => ?_)
    · rw [hg, cond_true] at hx
      rw [hx] at hR
      exact RetQ.of (hR C hL) rfl (vv trivial) rfl (Sub.nil _) ClM.nil (ClV.of rfl)
    · rw [hg, cond_false] at hx
      refine Sm.go 120 ?_
      simp (maxSteps := 2000000) only [go_sem, Nat.reduceBEq, Nat.reduceAdd, Nat.reduceLT, Nat.reduceLeDiff, Nat.reduceEqDiff, reduceCtorEq, Int.reduceAdd, Int.reduceSub, Int.reduceNeg, Int.reduceLE, Int.reduceLT, Int.reduceToNat, Int.reduceBEq, Int.reduceBNe, Int.reduceEq, Int.reduceNe, Nat.reduceMul, Nat.reduceSub, wS (show i ≤ 1000000000000000000 by omega)]
      exact hj _ _ ⟨i + 1, hc2, hx⟩ [(4, 4), (5, 5)] (by simp only; omega) ⟨rfl, trivial, ⟨rfl, rfl, rfl, rfl, rfl, trivial⟩, ⟨.inr ⟨_, rfl, .inl rfl⟩, .inr ⟨_, rfl, .inl (renV (rowsC_isV _))⟩, trivial⟩⟩
  · have hc2 := eq_of_dec hi hc2
    rw [hc2, List.drop_length] at hx
    have hx : sgQ c.sg s = none := hx
    rw [hx] at hR
    exact RetQ.of (hR C hL) rfl (vv trivial) rfl (Sub.nil _) ClM.nil (ClV.of rfl)
end Go.Proofs.YtkciabfilokfiaaGreat.Fx
namespace Go.Proofs.YtkciabfilokfiaaGreat.Fx
open Vg Tf
set_option linter.unusedSimpArgs false
set_option linter.unusedVariables false
set_option maxRecDepth 100000
set_option maxHeartbeats 4000000
@[go_sem ↓] theorem plS_1_11 : plS 1 11 = [(0, 11)] := rfl
@[go_sem ↓] theorem plS_1_4 : plS 1 4 = [(0, 4)] := rfl
@[go_sem ↓] theorem plS_3_6 : plS 3 6 = [(0, 6), (6, 6), (12, 6)] := rfl
@[go_sem ↓] theorem plS_1_6 : plS 1 6 = [(0, 6)] := rfl
def exT : Ft := ⟨8, false, 1, 0, 1, 0, 0, 0, 0, 0⟩
def exTy : Td := ⟨[116], exT⟩
def exIn : Po := ⟨[120], [116], 0, 10⟩
def exB1 : Bl := ⟨[121], [97, 100, 100], [116], [[120], [120]], [], []⟩
def exB2 : Bl := ⟨[122], [100, 101, 108, 97, 121], [116], [[122, 50]], [], [0]⟩
def exB3 : Bl := ⟨[122, 50], [97, 100, 100], [116], [[122], [120]], [], []⟩
def exD : Dg := ⟨[100], [exTy], [], [], [exIn], [exB1, exB2, exB3], []⟩
theorem example_ {H : Hp} : CallX H Tryz.prog 38 [] [] (fun x : DgL => rowV x.r) (fun _ => []) (fun x H' => x.c = exD ∧ x.ok H') := by
  refine CallX.mkS Tryz.func38 rfl en38 (by simp [Tryz.ntmps38]) (ClA.of rfl) (fun _ => rfl) (fun _ => rfl) fun C hR hP hH hL => ?_
  refine Sm.go 100 ?_
  refine vv ?_
  refine RetQ.letgo (M0 := []) [104, 105, 106, 107] hL hP rfl rfl (fun β C1 l1 k1 kn => ?_)
  obtain ⟨s4, hv4, hk4⟩ := (kn 104 _ rfl rfl rfl).vslx (sz := 1) (rows := strsR [[120], [120]]) (by simp [strsR]) rfl
  obtain ⟨s5, hv5, hk5⟩ := (kn 105 _ rfl rfl rfl).vslx (sz := 1) (rows := strsR [[122, 50]]) (by simp [strsR]) rfl
  obtain ⟨s6, hv6, hk6⟩ := (kn 106 _ rfl rfl rfl).vslx (sz := 1) (rows := intsR [0]) (by simp [intsR]) rfl
  obtain ⟨s7, hv7, hk7⟩ := (kn 107 _ rfl rfl rfl).vslx (sz := 1) (rows := strsR [[122], [120]]) (by simp [strsR]) rfl
  have hv4 : gval β (.sl 104 0 2 1) = vsl s4 2 := hv4
  have hv5 : gval β (.sl 105 0 1 1) = vsl s5 1 := hv5
  have hv6 : gval β (.sl 106 0 1 1) = vsl s6 1 := hv6
  have hv7 : gval β (.sl 107 0 2 1) = vsl s7 2 := hv7
  simp only [Mem.conc, Env.conc, Bk.conc, Cv.conc, V.conc, List.map_cons, List.map_nil, List.contains_cons, List.contains_nil, Nat.reduceBEq, Bool.or_false, Bool.or_true, cond_true, cond_false, hv4, hv5, hv6, hv7]
  have lB : ∀ b ∈ [BlL.mk exB1 s4 ⟨none, 0⟩, BlL.mk exB2 s5 s6, BlL.mk exB3 s7 ⟨none, 0⟩], b.ok C1.hp := by
    intro b hb
    simp only [List.mem_cons, List.not_mem_nil, or_false] at hb
    rcases hb with rfl | rfl | rfl
    · exact ⟨hk4, SlH.nil _⟩
    · exact ⟨hk5, hk6⟩
    · exact ⟨hk7, SlH.nil _⟩
  refine RetQ.letgo (M0 := []) [102, 103, 108] l1 hP rfl rfl (fun β' C2 l2 k2 kn2 => ?_)
  obtain ⟨s1, hv1, hk1⟩ := (kn2 102 _ rfl rfl rfl).vslx (sz := 11) (rows := [exTy].map Td.r) (fun r hr => by obtain ⟨x, _, rfl⟩ := List.mem_map.1 hr; rfl) rfl
  obtain ⟨s2, hv2, hk2⟩ := (kn2 103 _ rfl rfl rfl).vslx (sz := 4) (rows := [exIn].map Po.r) (fun r hr => by obtain ⟨x, _, rfl⟩ := List.mem_map.1 hr; rfl) rfl
  obtain ⟨s3, hv3, hk3⟩ := (kn2 108 _ rfl rfl rfl).vslx (sz := 6) (rows := [BlL.mk exB1 s4 ⟨none, 0⟩, BlL.mk exB2 s5 s6, BlL.mk exB3 s7 ⟨none, 0⟩].map BlL.r) (fun r hr => by obtain ⟨x, _, rfl⟩ := List.mem_map.1 hr; rfl) rfl
  have hv1 : gval β' (.sl 102 0 1 11) = vsl s1 1 := hv1
  have hv2 : gval β' (.sl 103 0 1 4) = vsl s2 1 := hv2
  have hv3 : gval β' (.sl 108 0 3 6) = vsl s3 3 := hv3
  simp only [Mem.conc, Env.conc, Bk.conc, Cv.conc, V.conc, List.map_cons, List.map_nil, List.contains_cons, List.contains_nil, Nat.reduceBEq, Bool.or_false, Bool.or_true, cond_true, cond_false, hv1, hv2, hv3]
  have hR' := hR (DgL.mk [100] [exTy] [] [] [exIn] [BlL.mk exB1 s4 ⟨none, 0⟩, BlL.mk exB2 s5 s6, BlL.mk exB3 s7 ⟨none, 0⟩] [] s1 ⟨none, 0⟩ ⟨none, 0⟩ s2 s3 ⟨none, 0⟩) C2 l2 ⟨rfl, ⟨hk1, SlH.nil _, SlH.nil _, hk2, hk3, SlH.nil _, by simp, by simp, fun b hb => (lB b hb).mono k2⟩⟩
  exact RetQ.of hR' rfl (vv trivial) rfl (Sub.nil _) ClM.nil (ClV.of rfl)
end Go.Proofs.YtkciabfilokfiaaGreat.Fx
