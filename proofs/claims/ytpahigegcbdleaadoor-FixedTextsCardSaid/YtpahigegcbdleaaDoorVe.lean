/- The machine in the prover's hand, where memory matters: contracts, loops and ends of bodies under other names; nil slices. -/
import Derived.Test.YtpahigegcbdleaaDoorVd
namespace Go.Proofs.YtpahigegcbdleaaDoor
namespace Vg
open Go.RowKit
/-- Names by a list; all others far away. -/
def rn : List (Nat × Nat) → Nat → Nat
  | [], k => k + 1000000
  | (a, b) :: r, k => bif a == k then b else rn r k
def rnOk : List (Nat × Nat) → Bool
  | [] => true
  | (_, b) :: r => decide (b < 1000000) && (r.all fun p => p.2 != b) && rnOk r
theorem rn_vals : ∀ (L : List (Nat × Nat)) (k : Nat), (∃ p ∈ L, rn L k = p.2) ∨ rn L k = k + 1000000
  | [], k => .inr rfl
  | (a, b) :: r, k => by
    simp only [rn]
    cases h : (a == k) with
    | true => exact .inl ⟨(a, b), by simp, rfl⟩
    | false =>
      rcases rn_vals r k with ⟨p, hp, h1⟩ | h1
      · exact .inl ⟨p, by simp [hp], by simpa using h1⟩
      · exact .inr (by simpa using h1)
theorem rnOk_lt : ∀ (L : List (Nat × Nat)), rnOk L = true → ∀ p ∈ L, p.2 < 1000000
  | [], _, p, hp => by cases hp
  | (a, b) :: r, h, p, hp => by
    simp only [rnOk, Bool.and_eq_true, decide_eq_true_eq] at h
    rcases List.mem_cons.1 hp with rfl | hp
    · exact h.1.1
    · exact rnOk_lt r h.2 p hp
theorem rn_inj : ∀ (L : List (Nat × Nat)), rnOk L = true → ∀ n m, rn L n = rn L m → n = m
  | [], _, n, m, h => by simp [rn] at h; exact h
  | (a, b) :: r, hL, n, m, h => by
    have hL' := hL
    simp only [rnOk, Bool.and_eq_true, decide_eq_true_eq, List.all_eq_true] at hL
    have key : ∀ k, rn r k ≠ b := by
      intro k hk
      rcases rn_vals r k with ⟨p, hp, h1⟩ | h1
      · have := hL.1.2 p hp
        simp at this
        exact this (by rw [← h1, hk])
      · omega
    simp only [rn] at h
    cases hn : (a == n) with
    | true =>
      cases hm : (a == m) with
      | true => simp at hn hm; omega
      | false => rw [hn, hm] at h; simp at h; exact absurd h.symm (key m)
    | false =>
      cases hm : (a == m) with
      | true => rw [hn, hm] at h; simp at h; exact absurd h (key n)
      | false => rw [hn, hm] at h; simp at h; exact rn_inj r hL.2 n m h
def SubS : Mem → Mem → Prop
  | [], _ => True
  | (n, b) :: r, M => (∃ b', M.get n = some b' ∧ Wk b b') ∧ SubS r M
theorem SubS.sub {M : Mem} : ∀ {M1 : Mem}, SubS M1 M → Sub M1 M
  | [], _, n, b, h => by cases h
  | (k, c) :: r, hs, n, b, h => by
    rw [Mem.get_cons] at h
    split at h
    · rename_i hk
      simp at h
      subst h hk
      exact hs.1
    · exact SubS.sub hs.2 n b h
theorem Fresh.of {N M1 M : Mem} (h : N.all (fun p => (M1.get p.1).isSome || (M.get p.1).isNone) = true) : Fresh N M1 M := by
  intro n hn
  obtain ⟨b, hb⟩ := Option.isSome_iff_exists.1 hn
  have := List.all_eq_true.1 h (n, b) (Mem.mem_of_get hb)
  simp at this
  rcases this with h | h
  · exact .inl h
  · exact .inr h
theorem ClM.ren {ρ : Nat → Nat} (hi : ∀ n m, ρ n = ρ m → n = m) {M : Mem} (h : ClM M) : ClM (M.ren ρ) := by
  intro β β' hag k b hb
  obtain ⟨n, c, rfl, hn, rfl⟩ := Mem.ren_some' hi hb
  have := h (fun n => β (ρ n)) (fun n => β' (ρ n)) (fun j hj => by
    obtain ⟨d, hd⟩ := Option.isSome_iff_exists.1 hj
    exact hag (ρ j) (by rw [Mem.ren_get hi, hd]; rfl)) n c hn
  simp only [Bk.ren, Cv.ren_gs]
  exact this
section
variable {P : Program} {nt : Nat} {C : Cx} {todo r : List It} {e e0 : Env} {M M0 Mf : Mem}
/-- A call under other names: what the contract calls a is here called b, for (a, b) in L. -/
theorem CallQ.ren {f : FuncId} {vs : List (Option (Bool × V))} {g : Bool} {dst : Option Nat} {xs : List V} {v : V} {M1 N : Mem} (L : List (Nat × Nat)) (nx : Nat) (hc : CallOk P f xs M1 v N) (hcl : ClM M1) (hL : rnOk L = true) (hvs : vs = (xs.map (V.ren (rn L))).map fun x => some (true, x))
    (hs : SubS (M1.ren (rn L)) M) (hfr : (N.ren (rn L)).all (fun p => ((M1.ren (rn L)).get p.1).isSome || (M.get p.1).isNone) = true) (hg : g = true ∨ N = []) (h : run P nt C 1000 todo (e.put dst g (v.ren (rn L))) (N.ren (rn L) ++ M) nx) : CallQ P nt C f vs g dst todo e M :=
  .inl ⟨M1.ren (rn L), N.ren (rn L), v.ren (rn L), xs.map (V.ren (rn L)), fun _ => hvs, fun _ => .inl (hc.ren (rn_inj L hL)), hs.sub, hcl.ren (rn_inj L hL), Fresh.of hfr, hg.imp (fun h => h) (fun h => by rw [h]; rfl), run_ok 1000 _ _ _ nx h⟩
theorem DCallQ.ren {id : Nat} {rg : Array Oper} {k : Nat} {T : List (Nat × Nat)} {i : Nat} {o : Oper} {l : List Oper} {f : FuncId} {vs : List (Option (Bool × V))} {g : Bool} {dst : Option Nat} {xs : List V} {v : V} {M1 N : Mem} (L : List (Nat × Nat)) (nx : Nat) (hc : CallOk P f xs M1 v N) (hcl : ClM M1) (hL : rnOk L = true) (hvs : vs = (xs.map (V.ren (rn L))).map fun x => some (true, x))
    (hs : SubS (M1.ren (rn L)) M0) (hfr : (N.ren (rn L)).all (fun p => ((M1.ren (rn L)).get p.1).isSome || (M0.get p.1).isNone) = true) (hg : g = true ∨ N = []) (hf2 : ownB (N.ren (rn L)) M0 M0 M = true) (hf3 : touchB T o (N.ren (rn L)) = true)
    (h : runD P nt C id rg r e0 M0 Mf k (kontW P nt C (.ops rg (rg.toList.drop k) :: r)) (touchN (N.ren (rn L)) i T) (i + 1) l (e.put dst g (v.ren (rn L))) (N.ren (rn L) ++ M) nx) : DCallQ P nt C id rg r e0 M0 Mf k T i o f vs g dst l e M :=
  ⟨M1.ren (rn L), N.ren (rn L), M0, v.ren (rn L), xs.map (V.ren (rn L)), fun _ => hvs, fun _ => .inl (hc.ren (rn_inj L hL)), hs.sub, hcl.ren (rn_inj L hL), Fresh.of hfr, hg.imp (fun h => h) (fun h => by rw [h]; rfl), ⟨fun _ _ h => .inl h, snoc_hf hf2 hf3⟩, DrS.go nx h⟩
end
def RenS (ρ : Nat → Nat) (M' : Mem) : List Nat → Mem → Prop
  | _, [] => True
  | seen, (n, b) :: r => (n ∈ seen ∨ ∃ b', M'.get (ρ n) = some b' ∧ Wk (b.ren ρ) b') ∧ RenS ρ M' (n :: seen) r
theorem RenS.sub {ρ : Nat → Nat} {M' : Mem} : ∀ {M : Mem} {seen : List Nat}, RenS ρ M' seen M → ∀ n b, n ∉ seen → M.get n = some b → ∃ b', M'.get (ρ n) = some b' ∧ Wk (b.ren ρ) b'
  | [], _, _, n, b, _, h => by cases h
  | (k, c) :: r, seen, hs, n, b, hns, h => by
    rw [Mem.get_cons] at h
    split at h
    · rename_i hk
      simp at h
      subst h hk
      rcases hs.1 with h | h
      · exact absurd h hns
      · exact h
    · rename_i hk
      exact RenS.sub hs.2 n b (by simp only [List.mem_cons, not_or]; exact ⟨hk, hns⟩) h
theorem RenS.ok {L : List (Nat × Nat)} {M M' : Mem} (hL : rnOk L = true) (h : RenS (rn L) M' [] M) : RenOk (rn L) M M' := ⟨fun n m _ _ hh => rn_inj L hL n m hh, fun n b hb => h.sub n b (by simp) hb⟩
/-- The names that stay. -/
def Pins (S : Bs) (M0 : Mem) : Prop := ∀ n l, S.pin n = some l → (M0.get n).isSome = true
def pinS (ρ : Nat → Nat) (M : Mem) : Mem → Prop
  | [] => True
  | (n, _) :: r => (ρ n = n ∧ (M.get n).isSome = true) ∧ pinS ρ M r
theorem pinS.ok {ρ : Nat → Nat} {M : Mem} : ∀ {M0 : Mem}, pinS ρ M M0 → ∀ n, (M0.get n).isSome = true → (M.get n).isSome = true ∧ ρ n = n
  | [], _, n, h => by cases h
  | (k, c) :: r, hs, n, h => by
    rw [Mem.get_cons] at h
    split at h
    · rename_i hk; subst hk; exact ⟨hs.1.2, hs.1.1⟩
    · exact pinS.ok hs.2 n h
def EnvLeR (ρ : Nat → Nat) : Env → Env → Prop
  | [], _ => True
  | (t, x) :: r, e' => e'.get t = some (x.1, x.2.ren ρ) ∧ EnvLeR ρ r e'
theorem EnvLeR.ok {ρ : Nat → Nat} {e' : Env} : ∀ {e : Env}, EnvLeR ρ e e' → ∀ t y, e.get t = some y → e'.get t = some (y.1, y.2.ren ρ)
  | [], _, t, y, h => by cases h
  | (k, x) :: r, hle, t, y, h => by
    simp only [Env.get] at h
    cases hk : (k == t) with
    | true =>
      rw [hk] at h
      have : k = t := by simpa using hk
      subst this
      simp at h
      subst h
      exact hle.1
    | false =>
      rw [hk] at h
      exact EnvLeR.ok hle.2 t y h
theorem Wkn.ren {S : Bs} {e e' : Env} {M M' M0 : Mem} (L : List (Nat × Nat)) (hP : Pins S M0) (hL : rnOk L = true) (hpin : pinS (rn L) M M0) (he : EnvLeR (rn L) e e') (hm : RenS (rn L) M' [] M) (hcm : ClM M) (hce : ∀ p ∈ e, ClV M p.2.2) : Wkn S e M e' M' := by
  intro w0 β a w hrel hen
  refine ⟨fun n => β (rn L n), hrel.ren (hm.ok hL) hcm (fun n l hl => hpin.ok n (hP n l hl)), fun β' hag t y hy => ?_⟩
  have h1 := hen β (Agree.refl _ _) t _ (he.ok t y hy)
  have h2 := hce (t, y) (Env.mem_of_get hy) _ β' hag
  simp only at h2
  rw [h1]
  unfold gv
  rw [V.ren_g, h2]
theorem RetQ.ren {P : Program} {C : Cx} {fn : Func} {v : V} {NM M0 : Mem} {e : Env} {M : Mem} (L : List (Nat × Nat)) (hR : RetOk P C fn v NM) (hP : Pins C.S M0) {sc : Prop} {r : V} (hres : resE P e M fn.results.toList = some (sc, r)) (hs : sc) (hL : rnOk L = true) (hv : r = v.ren (rn L))
    (hpin : pinS (rn L) NM M0) (hm : RenS (rn L) M [] NM) (hcm : ClM NM) (hcv : ClV NM v) : RetQ C e M := by
  intro β a w hrel hen hd
  refine hR.2.1 (fun n => β (rn L n)) a w (r.g β) (hrel.ren (hm.ok hL) hcm (fun n l hl => hpin.ok n (hP n l hl))) (fun β'' hag => ?_) hd (results_run hrel hen hres hs)
  rw [hv, V.ren_g]
  exact (hcv _ β'' hag).symm
/-! nil -/
theorem EnvOk.nil {β : Vl} {e : Env} {M : Mem} {a : Act} (h : EnvOk β M e a) {nm : Nat} {b : Bk} (hn : M.get nm = none) : EnvOk (fun k => if k = nm then ⟨0, 0, 0, true⟩ else β k) ((nm, b) :: M) e a := fun β' hag t x hx => by
  refine h β' (fun k hk => ?_) t x hx
  obtain ⟨c, hc⟩ := Option.isSome_iff_exists.1 hk
  have hne : k ≠ nm := by rintro rfl; rw [hn] at hc; cases hc
  rw [hag k (by rw [Mem.get_cons, if_neg hne]; exact hk)]
  exact if_neg hne
theorem Sm.nilName {P : Program} {nt : Nat} {C : Cx} {todo : List It} {e : Env} {M : Mem} (t nm esz : Nat) (el : TypeId) (he : e.get t = some (true, .c (.v (.slice none 0 0)))) (hn : M.get nm = none)
    (h : Sm P nt C todo ((t, true, .c (.sl nm 0 0 esz)) :: e) ((nm, ⟨false, [], el⟩) :: M)) : Sm P nt C todo e M := fun β a w h1 h2 h3 h4 => by
  refine h _ a w (h1.nil nm hn el) ?_ h3 h4
  intro β' hag t' x hx
  simp only [Env.get] at hx
  cases ht : (t == t') with
  | true =>
    rw [ht] at hx
    have : t = t' := by simpa using ht
    subst this
    simp at hx
    subst hx
    have hβ := hag nm (by rw [Mem.get_cons]; simp)
    have := h2 β (Agree.refl _ _) t _ he
    rw [this]
    simp [gv, V.g, Cv.g, hβ]
  | false =>
    rw [ht] at hx
    exact (h2.nil (b := ⟨false, [], el⟩) hn) β' hag t' x hx
theorem RetQ.nilName {C : Cx} {e : Env} {M : Mem} (t nm esz : Nat) (el : TypeId) (he : e.get t = some (true, .c (.v (.slice none 0 0)))) (hn : M.get nm = none)
    (h : RetQ C ((t, true, .c (.sl nm 0 0 esz)) :: e) ((nm, ⟨false, [], el⟩) :: M)) : RetQ C e M := fun β a w h1 h2 h4 => by
  refine h _ a w (h1.nil nm hn el) ?_ h4
  intro β' hag t' x hx
  simp only [Env.get] at hx
  cases ht : (t == t') with
  | true =>
    rw [ht] at hx
    have : t = t' := by simpa using ht
    subst this
    simp at hx
    subst hx
    have hβ := hag nm (by rw [Mem.get_cons]; simp)
    have := h2 β (Agree.refl _ _) t _ he
    rw [this]
    simp [gv, V.g, Cv.g, hβ]
  | false =>
    rw [ht] at hx
    exact (h2.nil (b := ⟨false, [], el⟩) hn) β' hag t' x hx
/-- The contract of a function that may be given memory and may make some. -/
theorem CallOk.mkN {P : Program} {f : FuncId} {fn : Func} {body : Code} {args : List V} {v : V} {M N : Mem} (nx : Nat) (hf : P.funcs[f]? = some fn) (hb : fn.body = some body) (hent : Enters P f) (hnt : args.length ≤ fn.ntmps) (hcl : ∀ x ∈ args, ClV M x)
    (hN : N.all (fun p => !p.2.ro || (M.get p.1).isSome) = true) (hU : N.all (fun p => match M.get p.1 with | some b => !b.ro | none => true) = true)
    (h : ∀ C, RetOk P C fn v (N ++ M) → Pins C.S M → run P fn.ntmps C 1000 [.code body] (initE 0 args) M nx) : CallOk P f args M v N :=
  CallOk.intro hf hb hent hnt (fun n b h h0 => by have := List.all_eq_true.1 hN (n, b) (Mem.mem_of_get h); simpa [h0] using this)
    (fun n b b' h h' => by have := List.all_eq_true.1 hU (n, b) (Mem.mem_of_get h); simp only [h'] at this; simpa using this) hcl (fun C hR hP => run_ok 1000 _ _ _ nx (h C hR hP))
attribute [go_sem] opY opZ capsE opX srcE bndE strE plS reps rn Mem.ren Bk.ren V.ren W.ren Cv.ren str dead
end Vg
end Go.Proofs.YtpahigegcbdleaaDoor
