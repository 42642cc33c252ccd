/- Nil slices of a state under one name: those in the slots of q and in the blocks of k. -/
import Derived.Test.YtpahigegcbdleaaDoorVf
namespace Go.Proofs.YtpahigegcbdleaaDoor
namespace Vg
open Go.RowKit
def Cv.nn (nm esz : Nat) : Cv → Cv
  | .v (.slice none 0 0) => .sl nm 0 0 esz
  | .v x => .v x
  | .p n o => .p n o
  | .sl n o l z => .sl n o l z
  | .fn f c => .fn f c
  | .s0 n o => .s0 n o
def W.nn (nm esz : Nat) : W → W
  | .c x => .c (x.nn nm esz)
  | .agg xs => .agg (xs.map (Cv.nn nm esz))
def V.nn (nm esz : Nat) : V → V
  | .c x => .c (x.nn nm esz)
  | .agg xs => .agg (xs.map (Cv.nn nm esz))
  | .tup xs => .tup (xs.map (W.nn nm esz))
def Env.nn (nm esz : Nat) (q : List Nat) (e : Env) : Env := e.map fun p => (p.1, p.2.1, bif q.contains p.1 then p.2.2.nn nm esz else p.2.2)
def Bk.nn (nm esz : Nat) (b : Bk) : Bk := ⟨b.ro, b.cells.map (Cv.nn nm esz), b.elem⟩
def Mem.nn (nm esz : Nat) (k : List Nat) (M : Mem) : Mem := M.map fun p => (p.1, bif k.contains p.1 then p.2.nn nm esz else p.2)
theorem Cv.nn_g {nm esz : Nat} {β : Vl} (h : (β nm).nul = true) (x : Cv) : (x.nn nm esz).g β = x.g β := by
  unfold Cv.nn
  split <;> simp [Cv.g, h]
theorem Cv.nn_gs {nm esz : Nat} {β : Vl} (h : (β nm).nul = true) (xs : List Cv) : (xs.map (Cv.nn nm esz)).map (Cv.g β) = xs.map (Cv.g β) := by
  rw [List.map_map]; exact List.map_congr_left fun x _ => Cv.nn_g h x
theorem W.nn_g {nm esz : Nat} {β : Vl} (h : (β nm).nul = true) (x : W) : (x.nn nm esz).g β = x.g β := by
  cases x with
  | c x => exact Cv.nn_g h x
  | agg xs => simp only [W.nn, W.g, Cv.nn_gs h]
theorem V.nn_g {nm esz : Nat} {β : Vl} (h : (β nm).nul = true) (x : V) : (x.nn nm esz).g β = x.g β := by
  cases x with
  | c x => exact Cv.nn_g h x
  | agg xs => simp only [V.nn, V.g, Cv.nn_gs h]
  | tup xs =>
    simp only [V.nn, V.g, List.map_map]
    rw [List.map_congr_left fun x _ => (show (W.g β ∘ W.nn nm esz) x = W.g β x from W.nn_g h x)]
theorem Mem.nn_get (nm esz : Nat) (q : List Nat) : ∀ (M : Mem) (n : Nat), (M.nn nm esz q).get n = (M.get n).map fun b => bif q.contains n then b.nn nm esz else b
  | [], n => rfl
  | (k, b) :: M, n => by
    simp only [Mem.nn, List.map_cons, Mem.get]
    cases h : (k == n) with
    | true =>
      have : k = n := by simpa using h
      subst this; rfl
    | false => exact Mem.nn_get nm esz q M n
theorem Env.nn_get (nm esz : Nat) (q : List Nat) : ∀ (e : Env) (t : Nat), (e.nn nm esz q).get t = (e.get t).map fun y => (y.1, bif q.contains t then y.2.nn nm esz else y.2)
  | [], t => rfl
  | (k, y) :: e, t => by
    simp only [Env.nn, List.map_cons, Env.get]
    cases h : (k == t) with
    | true =>
      have : k = t := by simpa using h
      subst this; rfl
    | false => exact Env.nn_get nm esz q e t
theorem BkOk.nn {nm esz : Nat} {β : Vl} (h : (β nm).nul = true) {n : Nat} {b : Bk} {w : World} (hb : BkOk β n b w) : BkOk β n (b.nn nm esz) w := by
  unfold BkOk at *
  simp only [Bk.nn, Cv.nn_gs h, List.length_map, List.map_eq_nil_iff]
  exact hb
theorem Rel.nn {S : Bs} {w0 w : World} {β : Vl} {M : Mem} (h : Rel S w0 β M w) {nm : Nat} (esz : Nat) (q : List Nat) (hn : (M.get nm).isSome = true) (hu : (β nm).nul = true) : Rel S w0 β (M.nn nm esz q) w := by
  have hg : ∀ n b', (M.nn nm esz q).get n = some b' → ∃ b, M.get n = some b ∧ b' = bif q.contains n then b.nn nm esz else b := fun n b' hb => by
    rw [Mem.nn_get] at hb
    cases hm : M.get n with
    | none => rw [hm] at hb; cases hb
    | some b => rw [hm] at hb; exact ⟨b, rfl, (Option.some.inj hb).symm⟩
  have hs : ∀ n, ((M.nn nm esz q).get n).isSome = (M.get n).isSome := fun n => by rw [Mem.nn_get]; cases M.get n <;> rfl
  have hro : ∀ (c : Bool) (b : Bk), (bif c then b.nn nm esz else b).ro = b.ro := fun c b => by cases c <;> rfl
  refine ⟨h.fr, ⟨fun β' hag n b' hb => ?_, fun n b' hb hl => ?_, fun n m b b' hb hb' hne hr hl hu1 hu2 => ?_⟩, fun n b' hb hr hl hS => ?_, fun n l hl => ?_⟩
  · obtain ⟨b, hb2, rfl⟩ := hg n b' hb
    have hag' : Agree M β β' := fun k hk => hag k (by rw [hs]; exact hk)
    have h0 := h.mem.ok β' hag' n b hb2
    cases q.contains n with
    | true => exact BkOk.nn (by rw [hag' nm hn]; exact hu) h0
    | false => exact h0
  · obtain ⟨b, hb2, rfl⟩ := hg n b' hb
    exact h.mem.there n b hb2 hl
  · obtain ⟨c, hc, rfl⟩ := hg n b hb
    obtain ⟨c', hc', rfl⟩ := hg m b' hb'
    rw [hro] at hr
    refine h.mem.apart n m c c' hc hc' hne hr ?_ hu1 hu2
    rcases hl with hl | hl
    · rw [hro] at hl; exact .inl hl
    · refine .inr fun he => hl ?_
      cases q.contains m with
      | true => simp [Bk.nn, he]
      | false => exact he
  · obtain ⟨b, hb2, rfl⟩ := hg n b' hb
    rw [hro] at hr
    exact h.own n b hb2 hr hl hS
  · have := h.pin n l hl
    exact ⟨by rw [hs]; exact this.1, this.2⟩
theorem EnvOk.nn {β : Vl} {M : Mem} {e : Env} {a : Act} (h : EnvOk β M e a) {nm : Nat} (esz : Nat) (q k : List Nat) (hn : (M.get nm).isSome = true) (hu : (β nm).nul = true) : EnvOk β (M.nn nm esz k) (e.nn nm esz q) a := fun β' hag t x hx => by
  have hs : ∀ n, ((M.nn nm esz k).get n).isSome = (M.get n).isSome := fun n => by rw [Mem.nn_get]; cases M.get n <;> rfl
  have hag' : Agree M β β' := fun k hk => hag k (by rw [hs]; exact hk)
  rw [Env.nn_get] at hx
  cases he : e.get t with
  | none => rw [he] at hx; cases hx
  | some y =>
    rw [he] at hx
    have := Option.some.inj hx
    subst this
    rw [h β' hag' t y he]
    unfold gv
    cases q.contains t with
    | true =>
      show (bif y.1 then V.g β' y.2 else undef) = bif y.1 then V.g β' (y.2.nn nm esz) else undef
      rw [V.nn_g (by rw [hag' nm hn]; exact hu)]
    | false => rfl
theorem Sm.nils {P : Program} {nt : Nat} {C : Cx} {todo : List It} {e : Env} {M : Mem} (nm esz : Nat) (el : TypeId) (q k : List Nat) (hn : M.get nm = none)
    (h : Sm P nt C todo (e.nn nm esz q) (Mem.nn nm esz k ((nm, ⟨false, [], el⟩) :: M))) : Sm P nt C todo e M := fun β a w h1 h2 h3 h4 => by
  have r := (h1.nil nm hn el).nn (nm := nm) esz k (by rw [Mem.get_cons, if_pos rfl]; rfl) (by simp)
  exact h _ a w r ((h2.nil (b := ⟨false, [], el⟩) hn).nn (nm := nm) esz q k (by rw [Mem.get_cons, if_pos rfl]; rfl) (by simp)) h3 h4
theorem RetQ.nils {C : Cx} {e : Env} {M : Mem} (nm esz : Nat) (el : TypeId) (q k : List Nat) (hn : M.get nm = none)
    (h : RetQ C (e.nn nm esz q) (Mem.nn nm esz k ((nm, ⟨false, [], el⟩) :: M))) : RetQ C e M := fun β a w h1 h2 h4 => by
  have r := (h1.nil nm hn el).nn (nm := nm) esz k (by rw [Mem.get_cons, if_pos rfl]; rfl) (by simp)
  exact h _ a w r ((h2.nil (b := ⟨false, [], el⟩) hn).nn (nm := nm) esz q k (by rw [Mem.get_cons, if_pos rfl]; rfl) (by simp)) h4
/-- Fewer names, other names: the state of a walk cut down. -/
theorem Sm.cutm {P : Program} {nt : Nat} {C : Cx} {todo : List It} {e : Env} {M M0 : Mem} (hP : Pins C.S M0) (E : Env) (Mm : Mem) (L : List (Nat × Nat)) (h0 : Met C.S M0 E Mm e M L) (hM : ClM Mm) (hE : ∀ p ∈ E, ClV Mm p.2.2) (h : Sm P nt C todo E Mm) : Sm P nt C todo e M :=
  Sm.wkn (Wkn.ren L hP h0.1 h0.2.1 h0.2.2.1 h0.2.2.2 hM hE) h
attribute [go_sem] Cv.nn W.nn V.nn Env.nn Bk.nn Mem.nn List.contains_cons List.contains_nil
end Vg
end Go.Proofs.YtpahigegcbdleaaDoor
