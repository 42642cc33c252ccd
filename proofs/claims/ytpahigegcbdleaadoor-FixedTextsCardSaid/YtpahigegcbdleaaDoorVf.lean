/- Loops in the prover's hand; what is closed is seen by a look. -/
import Derived.Test.YtpahigegcbdleaaDoorVe
namespace Go.Proofs.YtpahigegcbdleaaDoor
namespace Vg
open Go.RowKit
def Cv.inM (M : Mem) : Cv → Bool
  | .v _ => true
  | .p n _ => (M.get n).isSome
  | .sl n _ _ _ => (M.get n).isSome
  | .fn _ cs => cs.all fun c => (M.get c.1).isSome
  | .s0 n _ => (M.get n).isSome
def W.inM (M : Mem) : W → Bool
  | .c x => x.inM M
  | .agg xs => xs.all (Cv.inM M)
def V.inM (M : Mem) : V → Bool
  | .c x => x.inM M
  | .agg xs => xs.all (Cv.inM M)
  | .tup xs => xs.all (W.inM M)
theorem Cv.inM_g {M : Mem} {x : Cv} (h : x.inM M = true) {β β' : Vl} (hag : Agree M β β') : x.g β' = x.g β := by
  cases x with
  | v _ => rfl
  | p n off => simp only [Cv.g, hag n h]
  | sl n off len esz => simp only [Cv.g, hag n h]
  | s0 n off => simp only [Cv.g, hag n h]
  | fn f cs =>
    simp only [Cv.g]
    congr 2
    refine List.map_congr_left fun c hc => ?_
    have := List.all_eq_true.1 h c hc
    simp only [ptr, hag c.1 this]
theorem Cv.inM_gs {M : Mem} {xs : List Cv} (h : xs.all (Cv.inM M) = true) {β β' : Vl} (hag : Agree M β β') : xs.map (Cv.g β') = xs.map (Cv.g β) :=
  List.map_congr_left fun x hx => Cv.inM_g (List.all_eq_true.1 h x hx) hag
theorem ClV.of {M : Mem} {v : V} (h : v.inM M = true) : ClV M v := by
  intro β β' hag
  cases v with
  | c x => exact Cv.inM_g h hag
  | agg xs => simp only [V.g, Cv.inM_gs h hag]
  | tup xs =>
    simp only [V.g]
    congr 2
    refine List.map_congr_left fun x hx => ?_
    have := List.all_eq_true.1 h x hx
    cases x with
    | c x => exact Cv.inM_g this hag
    | agg xs => simp only [W.g, Cv.inM_gs this hag]
theorem ClM.of {M : Mem} (h : M.all (fun p => p.2.cells.all (Cv.inM M)) = true) : ClM M := fun _ _ hag n b hb => Cv.inM_gs (List.all_eq_true.1 h (n, b) (Mem.mem_of_get hb)) hag
theorem ClE.of {M : Mem} {e : Env} (h : e.all (fun p => p.2.2.inM M) = true) : ∀ p ∈ e, ClV M p.2.2 := fun p hp => ClV.of (List.all_eq_true.1 h p hp)
/-- The state at a loop's head, met from another one under the names of L. -/
def Met (S : Bs) (M0 : Mem) (e : Env) (M : Mem) (e' : Env) (M' : Mem) (L : List (Nat × Nat)) : Prop := rnOk L = true ∧ pinS (rn L) M M0 ∧ EnvLeR (rn L) e e' ∧ RenS (rn L) M' [] M
theorem Sm.loopM {P : Program} {nt : Nat} {C : Cx} {r : List It} {e : Env} {M M0 : Mem} {α : Type} {b : Code} (hP : Pins C.S M0) (E : α → Env) (Mm : α → Mem) (m : α → Nat) (x0 : α) (hM : ∀ x, ClM (Mm x)) (hE : ∀ x, ∀ p ∈ E x, ClV (Mm x) p.2.2)
    (L0 : List (Nat × Nat)) (h0 : Met C.S M0 (E x0) (Mm x0) e M L0)
    (round : ∀ (x : α) (J : Act → World → Prop), (∀ e' M' x' L, m x' < m x → Met C.S M0 (E x') (Mm x') e' M' L → Sm P nt C (.stop J :: r) e' M') → Sm P nt C (.code b :: .stop J :: r) (E x) (Mm x)) :
    Sm P nt C (.code (.loop b) :: r) e M :=
  have hw : ∀ x e' M' L, Met C.S M0 (E x) (Mm x) e' M' L → Wkn C.S (E x) (Mm x) e' M' := fun x _ _ L h => Wkn.ren L hP h.1 h.2.1 h.2.2.1 h.2.2.2 (hM x) (hE x)
  Sm.loop E Mm m x0 (hw _ _ _ _ h0) fun x J hb => round x J fun e' M' x' L hlt hmet => hb e' M' ⟨x', hlt, hw _ _ _ _ hmet⟩
theorem Pins.nil {S : Bs} {P : Program} {C : Cx} {fn : Func} {v : V} (hS : C.S = S) (hR : RetOk P C fn v []) : Pins S [] := fun n l h => by subst hS; exact hR.1 n l h
end Vg
end Go.Proofs.YtpahigegcbdleaaDoor
