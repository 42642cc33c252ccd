/- Walks over a known heap: their heads; places in lists. -/
import Derived.Test.YtkciabfilokfiaaGreatQ0
import Derived.Test.YtkciabfilokfiaaGreatMB
namespace Go.Proofs.YtkciabfilokfiaaGreat.Fx
open Vg Tf
set_option linter.unusedSimpArgs false
set_option linter.unusedVariables false
set_option maxRecDepth 100000
set_option maxHeartbeats 4000000
theorem _root_.Go.Proofs.YtkciabfilokfiaaGreat.Vg.CallX.mkS {H : Hp} {P : Program} {f : FuncId} {fn : Func} {body : Code} {args : List V} {M : Mem} {α : Type} {v : α → V} {N : α → Mem} {Q : α → Hp → Prop} (hf : P.funcs[f]? = some fn) (hb : fn.body = some body) (hent : Enters P f) (hnt : args.length ≤ fn.ntmps) (hcl : ∀ x ∈ args, ClV M x)
    (hN : ∀ x, (N x).all (fun p => !p.2.ro || (M.get p.1).isSome) = true) (hU : ∀ x, (N x).all (fun p => match M.get p.1 with | some b => !b.ro | none => true) = true)
    (h : ∀ C, (∀ x Cn, Lf C Cn → Q x Cn.hp → RetOk P Cn fn (v x) (N x ++ M)) → Pins C.S M → H.le C.hp → Lf C C → Sm P fn.ntmps C [.code body] (initE 0 args) M) : CallX H P f args M v N Q :=
  CallX.intro hf hb hent hnt (fun x n b h h0 => by have := List.all_eq_true.1 (hN x) (n, b) (Mem.mem_of_get h); simpa [h0] using this)
    (fun x n b b' h h' => by have := List.all_eq_true.1 (hU x) (n, b) (Mem.mem_of_get h); simp only [h'] at this; simpa using this) hcl h
theorem _root_.Go.Proofs.YtkciabfilokfiaaGreat.Vg.CallH.mkS {H : Hp} {P : Program} {f : FuncId} {fn : Func} {body : Code} {args : List V} {v : V} (hf : P.funcs[f]? = some fn) (hb : fn.body = some body) (hent : Enters P f) (hnt : args.length ≤ fn.ntmps) (hcl : ∀ x ∈ args, ClV [] x)
    (h : ∀ C, (∀ Cn, Lf C Cn → RetOk P Cn fn v []) → Pins C.S [] → H.le C.hp → Lf C C → Sm P fn.ntmps C [.code body] (initE 0 args) []) : CallH H P f args v :=
  CallX.mkS hf hb hent hnt hcl (fun _ => rfl) (fun _ => rfl) fun C hR hP hH hL => h C (fun Cn hl => hR () Cn hl trivial) hP hH hL
theorem _root_.Go.Proofs.YtkciabfilokfiaaGreat.Vg.CallOk.toX {H : Hp} {P : Program} {f : FuncId} {args : List V} {M N : Mem} {v : V} (h : CallOk P f args M v N) : CallX H P f args M (fun _ : Unit => v) (fun _ => N) (fun _ _ => True) := by
  obtain ⟨h1, h2, h3, h4⟩ := h
  refine ⟨h1, fun _ => h2, fun _ => h3, fun β w Z hm _ _ => (h4 β w hm).mono ?_⟩
  rintro en w' ⟨β', k1, k2, k3, k4, k5⟩
  exact ⟨(), β', fun _ _ => False, k1, k2, k3, k4, k5, fun _ _ h => h.elim, trivial⟩
theorem _root_.Go.Proofs.YtkciabfilokfiaaGreat.Vg.CallOk.toH {H : Hp} {P : Program} {f : FuncId} {args : List V} {v : V} (h : CallOk P f args [] v []) : CallH H P f args v := h.toX
theorem _root_.Go.Proofs.YtkciabfilokfiaaGreat.Vg.CallX.mono {H H' : Hp} {P : Program} {f : FuncId} {args : List V} {M : Mem} {α : Type} {v : α → V} {N : α → Mem} {Q : α → Hp → Prop} (h : CallX H P f args M v N Q) (hl : H.le H') : CallX H' P f args M v N Q :=
  ⟨h.1, h.2.1, h.2.2.1, fun β w Z hm hH hZ => h.2.2.2 β w Z hm (fun b o hb => hH b o (hl b o hb)) hZ⟩
theorem _root_.Go.Proofs.YtkciabfilokfiaaGreat.Vg.Sm.bringR {P : Program} {nt : Nat} {C : Cx} {todo : List It} {e : Env} {M : Mem} {v : Value} {sz : Nat} {rows : List (List Value)} (nm : Nat) (el : TypeId) (t : Nat) {g : Bool} (h : SlH C.hp v sz rows) (hn : M.get nm = none) (hx : e.get t = some (g, .c (.v v)))
    (k : Sm P nt C todo ((t, g, .c (.sl nm 0 rows.length sz)) :: e) ((nm, ⟨true, rowsC rows, el⟩) :: M)) : Sm P nt C todo e M := Sm.bring nm el t h hn hx k
theorem wS {i : Nat} (h : i ≤ 1000000000000000000) : IntKind.i64.wrap ((i : Int) + 1) = ((i + 1 : Nat) : Int) := by rw [w64 (by omega) (by omega)]; omega
theorem lt_of_dec {i n : Nat} (h : decide ((i : Int) < (n : Int)) = true) : i < n := by have := of_decide_eq_true h; omega
theorem eq_of_dec {i n : Nat} (hi : i ≤ n) (h : decide ((i : Int) < (n : Int)) = false) : i = n := by have := of_decide_eq_false h; omega
/-- The place of the first with a property. -/
def ixF {α : Type} (p : α → Bool) : List α → Int → Int
  | [], _ => -1
  | x :: l, k => bif p x then k else ixF p l (k + 1)
theorem ixF_step {α : Type} (p : α → Bool) (l : List α) (i : Nat) (h : i < l.length) (k : Int) : ixF p (l.drop i) k = bif p l[i] then k else ixF p (l.drop (i + 1)) (k + 1) := by
  rw [List.drop_eq_getElem_cons h]; rfl
theorem ixF_any {α : Type} (p : α → Bool) : ∀ (l : List α) (k : Int), 0 ≤ k → decide (0 ≤ ixF p l k) = l.any p
  | [], k, _ => by simp [ixF]
  | x :: l, k, h => by
    rw [ixF, List.any_cons]
    cases p x with
    | true => simp [h]
    | false => rw [cond_false, Bool.false_or]; exact ixF_any p l (k + 1) (by omega)
@[reducible] def sC (s : Str) : Cv := .v (.string ⟨s.toArray⟩)
@[reducible] def iC (n : Int) : Cv := .v (.int .i64 n)
theorem strsC (l : List Str) : rowsC (strsR l) = l.map sC := by
  unfold rowsC strsR
  induction l with
  | nil => rfl
  | cons x l ih => simpa using ih
theorem intsC (l : List Int) : rowsC (intsR l) = l.map iC := by
  unfold rowsC intsR
  induction l with
  | nil => rfl
  | cons x l ih => simpa using ih
theorem v_sC (l : List Str) : (l.map sC).all Cv.isV = true := by simp [Cv.isV]
theorem v_iC (l : List Int) : (l.map iC).all Cv.isV = true := by simp [Cv.isV]
theorem get_sC {l : List Str} {i : Nat} (h : i < l.length) : (l.map sC)[i]? = some (sC l[i]) := by simp [h]
theorem get_iC {l : List Int} {i : Nat} (h : i < l.length) : (l.map iC)[i]? = some (iC l[i]) := by simp [h]
/-- A known list of numbers, of names. -/
theorem _root_.Go.Proofs.YtkciabfilokfiaaGreat.Vg.Sm.bringI {P : Program} {nt : Nat} {C : Cx} {todo : List It} {e : Env} {M : Mem} {v : Value} {l : List Int} (nm : Nat) (el : TypeId) (t : Nat) {g : Bool} (h : SlH C.hp v 1 (intsR l)) (hn : M.get nm = none) (hx : e.get t = some (g, .c (.v v)))
    (k : Sm P nt C todo ((t, g, .c (.sl nm 0 l.length 1)) :: e) ((nm, ⟨true, l.map iC, el⟩) :: M)) : Sm P nt C todo e M := by
  have hlen : (intsR l).length = l.length := by simp [intsR]
  refine Sm.bringR nm el t h hn hx ?_
  rw [hlen, intsC]; exact k
theorem _root_.Go.Proofs.YtkciabfilokfiaaGreat.Vg.Sm.bringS {P : Program} {nt : Nat} {C : Cx} {todo : List It} {e : Env} {M : Mem} {v : Value} {l : List Str} (nm : Nat) (el : TypeId) (t : Nat) {g : Bool} (h : SlH C.hp v 1 (strsR l)) (hn : M.get nm = none) (hx : e.get t = some (g, .c (.v v)))
    (k : Sm P nt C todo ((t, g, .c (.sl nm 0 l.length 1)) :: e) ((nm, ⟨true, l.map sC, el⟩) :: M)) : Sm P nt C todo e M := by
  have hlen : (strsR l).length = l.length := by simp [strsR]
  refine Sm.bringR nm el t h hn hx ?_
  rw [hlen, strsC]; exact k
end Go.Proofs.YtkciabfilokfiaaGreat.Fx
