/- The numbers of blocks. -/
import Derived.Test.YtkciabfilokfiaaGreatQE
namespace Go.Proofs.YtkciabfilokfiaaGreat.Fx
open Vg Tf
set_option linter.unusedSimpArgs false
set_option linter.unusedVariables false
set_option maxRecDepth 100000
set_option maxHeartbeats 4000000
def conS : Str := [99, 111, 110, 115, 116]
def limS : Str := [108, 105, 109, 105, 116]
def lagS : Str := [108, 97, 103]
def hysS : Str := [104, 121, 115, 116, 101, 114, 101, 115, 105, 115]
@[reducible] def blC (b : BlL) : List Cv := [sC b.c.nm, sC b.c.kd, sC b.c.ty, .sl 11 0 b.c.ins.length 1, sC b.c.tb, .sl 12 0 b.c.ks.length 1]
@[reducible] def blM (b : BlL) : Mem := [(11, ⟨true, b.c.ins.map sC, 9⟩), (12, ⟨true, b.c.ks.map iC, 3⟩)]
theorem Sm.bringB {P : Program} {nt : Nat} {C : Cx} {todo : List It} {e : Env} {M : Mem} {b : BlL} (hb : b.ok C.hp) (t : Nat) {g : Bool} (hn : (M.get 11).isNone = true ∧ (M.get 12).isNone = true) (hx : e.get t = some (g, rowV b.r))
    (kk : Sm P nt C todo ((t, g, .agg (blC b)) :: e) (blM b ++ M)) : Sm P nt C todo e M := by
  obtain ⟨l1, a1, b1, _⟩ := hb.i.loc
  obtain ⟨l2, a2, b2, _⟩ := hb.k.loc
  have h1 : (strsR b.c.ins).length = b.c.ins.length := by simp [strsR]
  have h2 : (intsR b.c.ks).length = b.c.ks.length := by simp [intsR]
  rw [h1] at a1
  rw [h2] at a2
  refine Sm.brings (fun n => if n = 11 then some l1 else if n = 12 then some l2 else none) (blM b) ((t, g, .agg (blC b)) :: e) (by simp [hn.1, hn.2]) (fun n l hl => ?_) (fun β hβ => ?_) kk
  · simp only [blM, Mem.get_cons]
    by_cases hh : n = 11
    · simp [hh]
    · rw [if_neg hh] at hl ⊢
      by_cases hh2 : n = 12
      · simp [hh2]
      · rw [if_neg hh2] at hl; cases hl
  · have e1 : β 11 = l1 := hβ 11 l1 rfl
    have e2 : β 12 = l2 := hβ 12 l2 rfl
    refine ⟨fun n c hc => ?_, fun t' x hx' => ?_⟩
    · simp only [blM, Mem.get_cons] at hc
      split at hc
      · rename_i h; cases hc; subst h; rw [e1]; show LcH _ _ ((b.c.ins.map sC).map _); rw [← strsC, rowsV_g]; exact b1
      · split at hc
        · rename_i h; cases hc; subst h; rw [e2]; show LcH _ _ ((b.c.ks.map iC).map _); rw [← intsC, rowsV_g]; exact b2
        · cases hc
    · simp only [Env.get] at hx'
      cases ht : (t == t') with
      | true =>
        rw [ht] at hx'
        have : t = t' := by simpa using ht
        subst this
        simp at hx'
        subst hx'
        refine ⟨_, hx, ?_⟩
        unfold gv
        congr 1
        simp only [V.g, rowV, blC, List.map_cons, List.map_nil, a1 β 11 e1, a2 β 12 e2]
        rfl
      | false =>
        rw [ht] at hx'
        exact ⟨x, hx', rfl⟩
def numB (t : Ft) (b : Bl) : Bool :=
  if (b.kd == conS || b.kd == delS) = true then wiB t (b.ks.getD 0 0) else if (b.kd == limS) = true then wiB t (b.ks.getD 0 0) && (wiB t (b.ks.getD 1 0) && decide (b.ks.getD 0 0 ≤ b.ks.getD 1 0))
  else if (b.kd == lagS) = true then decide (0 ≤ b.ks.getD 0 0) && decide (b.ks.getD 0 0 ≤ 20) else if (b.kd == hysS) = true then decide (b.ks.getD 0 0 ≤ b.ks.getD 1 0) else true
theorem blOk_ks {b : Bl} (h : blOk b = true) {kd : Str} (hk : (b.kd == kd) = true) {a n t : Nat} (hq : kindQ kd = some (a, n, t)) : b.ins.length = a ∧ b.ks.length = n := by
  have : b.kd = kd := by simpa using hk
  unfold blOk at h
  rw [this, hq] at h
  simp only [Bool.and_eq_true, decide_eq_true_eq] at h
  exact ⟨h.1, h.2.1⟩
theorem get_iD {l : List Int} {i : Nat} (h : i < l.length) : (l.map iC)[i]? = some (iC (l.getD i 0)) := by
  rw [get_iC h, List.getD_eq_getElem?_getD, List.getElem?_eq_getElem h]; rfl
theorem numbers_ {H : Hp} {cp : Value} {d : DgL} {bT bC' bM bS : Nat} (k : Ck H cp d bT bC' bM bS) (b : BlL) (hb : b.ok H) (hok : blOk b.c = true) :
    CallH H Tryz.prog 169 [.c (.v cp), rowV b.r] (Bo (numB (tyN d.tys b.c.ty) b.c)) := by
  refine CallH.mkS Tryz.func169 rfl en169 (by simp [Tryz.ntmps169]) (ClA.of rfl) fun C hR hP hH hL => ?_
  refine Sm.bringB (hb.mono hH) 1 ⟨rfl, rfl⟩ rfl ?_
  refine Sm.bringP 1 147 0 (k.c.p.mono hH) rfl rfl (Sm.go 100 ?_)
  refine vv ?_
  refine Sm.dgo 110 8 mix (by decide +kernel) (by decide +kernel) ?_
  refine vv ?_
  refine DOpQ.ownC 120 (fun _ => lkT1 (k.c.t.mono hH) rfl rfl rfl) ?_
  refine vv ?_
  have hw := fun x => cwithin (tyN d.tys b.c.ty) x
  unfold numB at hR
  generalize tyN d.tys b.c.ty = t at *
  refine mtch (fun h1 => ?_) (fun h1 => ?_)
  · rw [h1]
    have h1 : (b.c.kd == conS) = true := h1
    rw [h1, Bool.true_or, if_pos rfl] at hR
    have hl := (blOk_ks hok h1 (by rfl)).2
    have g0 := get_iD (l := b.c.ks) (i := 0) (by omega)
    refine Sm.dgo 140 5 mix (by decide +kernel) (by decide +kernel) ?_
    simp (maxSteps := 2000000) only [go_sem, Nat.reduceBEq, Nat.reduceAdd, Nat.reduceLT, Nat.reduceLeDiff, Nat.reduceEqDiff, reduceCtorEq, Int.reduceAdd, Int.reduceSub, Int.reduceNeg, Int.reduceLE, Int.reduceLT, Int.reduceToNat, Int.reduceBEq, Int.reduceBNe, Int.reduceEq, Int.reduceNe, Nat.reduceMul, Nat.reduceSub, g0]
    refine ⟨by omega, ?_⟩
    refine CallQ.pure 150 (hw (b.c.ks.getD 0 0)) rfl ?_
    refine vv ?_
    exact RetQ.bool (hR C hL) rfl scc rfl
  refine mtch (fun h2 => ?_) (fun h2 => ?_)
  · have h1 : (b.c.kd == conS) = false := h1
    have h2 : (b.c.kd == delS) = true := h2
    rw [h1, h2, Bool.false_or, if_pos rfl] at hR
    have hl := (blOk_ks hok h2 (by rfl)).2
    have g0 := get_iD (l := b.c.ks) (i := 0) (by omega)
    refine Sm.dgo 140 5 mix (by decide +kernel) (by decide +kernel) ?_
    simp (maxSteps := 2000000) only [go_sem, Nat.reduceBEq, Nat.reduceAdd, Nat.reduceLT, Nat.reduceLeDiff, Nat.reduceEqDiff, reduceCtorEq, Int.reduceAdd, Int.reduceSub, Int.reduceNeg, Int.reduceLE, Int.reduceLT, Int.reduceToNat, Int.reduceBEq, Int.reduceBNe, Int.reduceEq, Int.reduceNe, Nat.reduceMul, Nat.reduceSub, g0]
    refine ⟨by omega, ?_⟩
    refine CallQ.pure 150 (hw (b.c.ks.getD 0 0)) rfl ?_
    refine vv ?_
    exact RetQ.bool (hR C hL) rfl scc rfl
  have h1 : (b.c.kd == conS) = false := h1
  have h2 : (b.c.kd == delS) = false := h2
  rw [h1, h2, Bool.false_or, if_neg (by decide)] at hR
  refine mtch (fun h3 => ?_) (fun h3 => ?_)
  · have h3 : (b.c.kd == limS) = true := h3
    rw [if_pos h3] at hR
    have hl := (blOk_ks hok h3 (by rfl)).2
    have g0 := get_iD (l := b.c.ks) (i := 0) (by omega)
    have g1 := get_iD (l := b.c.ks) (i := 1) (by omega)
    refine Sm.dgo 140 23 mix (by decide +kernel) (by decide +kernel) ?_
    simp (maxSteps := 2000000) only [go_sem, Nat.reduceBEq, Nat.reduceAdd, Nat.reduceLT, Nat.reduceLeDiff, Nat.reduceEqDiff, reduceCtorEq, Int.reduceAdd, Int.reduceSub, Int.reduceNeg, Int.reduceLE, Int.reduceLT, Int.reduceToNat, Int.reduceBEq, Int.reduceBNe, Int.reduceEq, Int.reduceNe, Nat.reduceMul, Nat.reduceSub, g0, g1]
    refine ⟨by omega, ?_⟩
    refine DCallQ.guard 150 (fun _ => hw (b.c.ks.getD 0 0)) (fun h => rfl) ?_
    simp (maxSteps := 2000000) only [go_sem, Nat.reduceBEq, Nat.reduceAdd, Nat.reduceLT, Nat.reduceLeDiff, Nat.reduceEqDiff, reduceCtorEq, Int.reduceAdd, Int.reduceSub, Int.reduceNeg, Int.reduceLE, Int.reduceLT, Int.reduceToNat, Int.reduceBEq, Int.reduceBNe, Int.reduceEq, Int.reduceNe, Nat.reduceMul, Nat.reduceSub, g0, g1]
    refine ⟨fun h => ⟨h, by omega⟩, ?_⟩
    refine DCallQ.guard 150 (fun _ => hw (b.c.ks.getD 1 0)) (fun h => by rw [h]; rfl) ?_
    simp (maxSteps := 2000000) only [go_sem, Nat.reduceBEq, Nat.reduceAdd, Nat.reduceLT, Nat.reduceLeDiff, Nat.reduceEqDiff, reduceCtorEq, Int.reduceAdd, Int.reduceSub, Int.reduceNeg, Int.reduceLE, Int.reduceLT, Int.reduceToNat, Int.reduceBEq, Int.reduceBNe, Int.reduceEq, Int.reduceNe, Nat.reduceMul, Nat.reduceSub, g0, g1]
    refine ⟨fun h => ⟨h, by omega⟩, fun h => ⟨h, by omega⟩, ?_⟩
    refine RetQ.bool (hR C hL) rfl scc ?_
    cases wiB t (b.c.ks.getD 0 0) <;> cases wiB t (b.c.ks.getD 1 0) <;> rfl
  have h3 : (b.c.kd == limS) = false := h3
  rw [if_neg (by rw [h3]; simp)] at hR
  refine mtch (fun h4 => ?_) (fun h4 => ?_)
  · have h4 : (b.c.kd == lagS) = true := h4
    rw [if_pos h4] at hR
    have hl := (blOk_ks hok h4 (by rfl)).2
    have g0 := get_iD (l := b.c.ks) (i := 0) (by omega)
    simp (maxSteps := 2000000) only [go_sem, Nat.reduceBEq, Nat.reduceAdd, Nat.reduceLT, Nat.reduceLeDiff, Nat.reduceEqDiff, reduceCtorEq, Int.reduceAdd, Int.reduceSub, Int.reduceNeg, Int.reduceLE, Int.reduceLT, Int.reduceToNat, Int.reduceBEq, Int.reduceBNe, Int.reduceEq, Int.reduceNe, Nat.reduceMul, Nat.reduceSub, g0]
    refine ⟨by omega, fun h => ⟨h, by omega⟩, ?_⟩
    exact RetQ.bool (hR C hL) rfl scc (band_ _ _)
  have h4 : (b.c.kd == lagS) = false := h4
  rw [if_neg (by rw [h4]; simp)] at hR
  refine mtch (fun h5 => ?_) (fun h5 => ?_)
  · have h5 : (b.c.kd == hysS) = true := h5
    rw [if_pos h5] at hR
    have hl := (blOk_ks hok h5 (by rfl)).2
    have g0 := get_iD (l := b.c.ks) (i := 0) (by omega)
    have g1 := get_iD (l := b.c.ks) (i := 1) (by omega)
    refine Sm.dgo 140 8 mix (by decide +kernel) (by decide +kernel) ?_
    simp (maxSteps := 2000000) only [go_sem, Nat.reduceBEq, Nat.reduceAdd, Nat.reduceLT, Nat.reduceLeDiff, Nat.reduceEqDiff, reduceCtorEq, Int.reduceAdd, Int.reduceSub, Int.reduceNeg, Int.reduceLE, Int.reduceLT, Int.reduceToNat, Int.reduceBEq, Int.reduceBNe, Int.reduceEq, Int.reduceNe, Nat.reduceMul, Nat.reduceSub, g0, g1]
    refine ⟨by omega, by omega, ?_⟩
    exact RetQ.bool (hR C hL) rfl scc rfl
  have h5 : (b.c.kd == hysS) = false := h5
  rw [if_neg (by rw [h5]; simp)] at hR
  exact RetQ.bool (hR C hL) rfl scc rfl
end Go.Proofs.YtkciabfilokfiaaGreat.Fx
