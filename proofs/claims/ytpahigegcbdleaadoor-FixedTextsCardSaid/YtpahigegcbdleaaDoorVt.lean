/- Calls that read what others made in the same region: they touch it. -/
import Derived.Test.YtpahigegcbdleaaDoorVn
namespace Go.Proofs.YtpahigegcbdleaaDoor
namespace Vg
open Go.RowKit
theorem CallOk.touch {P : Program} {f : FuncId} {xs : List V} {M1 M1' N K : Mem} {v : V} (h : CallOk P f xs M1 v N) (hro : ∀ n b, M1.get n = some b → b.ro = true) (hs : Sub M1 M1') (hcl : ClM M1) (hnm : ∀ n, (M1'.get n).isSome = true → (M1.get n).isSome = true)
    (hN : ∀ n, (N.get n).isSome = true → M1.get n = none) (hK : ∀ n b, K.get n = some b → M1'.get n = some b ∧ b.ro = false) : CallOk P f xs M1' v (N ++ K) := by
  obtain ⟨he, h1, h2, h3⟩ := h
  have hN' : ∀ n, (N.get n).isSome = true → M1'.get n = none := fun n hn => by
    cases hm : M1'.get n with
    | none => rfl
    | some b => have := hnm n (by rw [hm]; rfl); rw [hN n hn] at this; cases this
  have hg : ∀ n, ((N ++ K) ++ M1' : Mem).get n = (N.get n).or (M1'.get n) := fun n => by
    rw [Mem.get_append, Mem.get_append]
    cases hn : N.get n with
    | some b => rfl
    | none =>
      cases hk : K.get n with
      | none => rfl
      | some b => rw [(hK n b hk).1]; rfl
  have hnames : ∀ n, (M1.get n).isSome = true → (M1'.get n).isSome = true := fun n hn => by
    obtain ⟨b, hb⟩ := Option.isSome_iff_exists.1 hn
    obtain ⟨b', hb', _⟩ := hs n b hb
    rw [hb']; rfl
  refine ⟨he, fun n b hb _ => ?_, fun n b b' hb hb' => ?_, fun β w hm => ?_⟩
  · rw [Mem.get_append] at hb
    cases hn : N.get n with
    | some c => rw [hn] at hb; cases hb; exact h1 n _ hn (hN n (by rw [hn]; rfl))
    | none => rw [hn] at hb; exact (hK n b hb).2
  · rw [Mem.get_append] at hb
    cases hn : N.get n with
    | some c => rw [hN' n (by rw [hn]; rfl)] at hb'; cases hb'
    | none => rw [hn] at hb; have := hK n b hb; rw [this.1] at hb'; cases hb'; exact this.2
  · refine (h3 β w (hm.sub hs hcl)).mono fun en w' ⟨β', k1, k2, k3, k4, k50⟩ => ?_
    have k5 : ∀ n, (N.get n).isSome = true → M1.get n = none → (β' n).nul = false → w.heap.size ≤ (β' n).blk := fun n q1 q2 q3 => by
      rcases k50 n q1 q2 q3 with h | ⟨k, b, c, g1, g2, _⟩
      · exact h
      · rw [hro k b g1] at g2; cases g2
    have old : ∀ b, b < w.heap.size → w'.heap[b]? = w.heap[b]? := fun b hb => k4.old b (fun n c hc hr => by rw [hro n c hc] at hr; cases hr) hb
    have ag : Agree M1' β β' := fun n hn => k1 n (hnm n hn)
    have hget : ∀ n b, ((N ++ K) ++ M1' : Mem).get n = some b → (N.get n = some b) ∨ (N.get n = none ∧ M1'.get n = some b) := fun n b hb => by
      rw [hg] at hb
      cases hn : N.get n with
      | some c => rw [hn] at hb; exact .inl hb
      | none => rw [hn] at hb; exact .inr ⟨rfl, hb⟩
    have agN : ∀ β'', Agree ((N ++ K) ++ M1') β' β'' → Agree (N ++ M1) β' β'' := fun β'' ha n hn => ha n (by
      rw [hg]
      rw [Mem.get_append] at hn
      cases hh : N.get n with
      | some c => rfl
      | none => rw [hh] at hn; exact hnames n hn)
    have lt1 : ∀ n b, M1'.get n = some b → (β' n).nul = false → (β' n).blk < w.heap.size := fun n b hb hu => by
      have e := ag n (by rw [hb]; rfl)
      rw [e] at hu ⊢
      exact hm.there n b hb hu
    refine ⟨β', ag, fun β'' ha => k2 β'' (agN β'' ha), ⟨fun β'' ha n b hb => ?_, fun n b hb hu => ?_, fun n m b b' hb hb' hne hr hl hu1 hu2 => ?_⟩, ⟨k4.os, k4.tape, k4.output, k4.size, fun b _ hb => old b hb⟩, fun n hn hm1 hu => ?_⟩
    · rcases hget n b hb with hn | ⟨hn, hm1⟩
      · exact k3.ok β'' (agN β'' ha) n b (by rw [Mem.get_append, hn]; rfl)
      · have ha' : Agree M1' β β'' := fun n hn => by
          rw [ha n (by rw [hg]; cases N.get n <;> simp [hn]), ag n hn]
        have hb0 := hm.ok β'' ha' n b hm1
        have e : β'' n = β n := ha' n (by rw [hm1]; rfl)
        by_cases hu : (β'' n).nul = true
        · unfold BkOk at hb0 ⊢
          rw [if_pos hu] at hb0 ⊢
          exact hb0
        · refine hb0.same (old _ ?_)
          rw [e] at hu ⊢
          exact hm.there n b hm1 (by simpa using hu)
    · rcases hget n b hb with hn | ⟨hn, hm1⟩
      · exact k3.there n b (by rw [Mem.get_append, hn]; rfl) hu
      · exact Nat.lt_of_lt_of_le (lt1 n b hm1 hu) k4.size
    · rcases hget n b hb with hn | ⟨hn, hm1⟩
      · rcases hget m b' hb' with hn' | ⟨hn', hm1'⟩
        · exact k3.apart n m b b' (by rw [Mem.get_append, hn]; rfl) (by rw [Mem.get_append, hn']; rfl) hne hr hl hu1 hu2
        · have := k5 n (by rw [hn]; rfl) (hN n (by rw [hn]; rfl)) hu1
          have := lt1 m b' hm1' hu2
          omega
      · rcases hget m b' hb' with hn' | ⟨hn', hm1'⟩
        · have := k5 m (by rw [hn']; rfl) (hN m (by rw [hn']; rfl)) hu2
          have := lt1 n b hm1 hu1
          omega
        · have e1 := ag n (by rw [hm1]; rfl)
          have e2 := ag m (by rw [hm1']; rfl)
          rw [e1] at hu1 ⊢
          rw [e2] at hu2 ⊢
          exact hm.apart n m b b' hm1 hm1' hne hr hl hu1 hu2
    · rw [Mem.get_append] at hn
      cases hh : N.get n with
      | some c => exact .inl (k5 n (by rw [hh]; rfl) (hN n (by rw [hh]; rfl)) hu)
      | none =>
        rw [hh] at hn
        obtain ⟨b, hb⟩ := Option.isSome_iff_exists.1 hn
        rw [(hK n b (by simpa using hb)).1] at hm1; cases hm1
def touchA (rg : Array Oper) (i : Nat) (T : List (Nat × Nat)) (o : Oper) (N : Mem) : Bool := N.all fun p => T.all fun q => !(q.1 == p.1) || ancB rg i 20 q.2 o
/-- The blocks of K stand in M, and N has their names. -/
def KS (N M : Mem) : Mem → Prop
  | [] => True
  | (n, b) :: K => ((N.get n).isSome = true ∧ M.get n = some b) ∧ KS N M K
theorem KS.ok {N M : Mem} : ∀ {K : Mem}, KS N M K → ∀ n b, K.get n = some b → (N.get n).isSome = true ∧ M.get n = some b
  | [], _, n, b, h => by cases h
  | (k, c) :: K, hk, n, b, h => by
    rw [Mem.get_cons] at h
    split at h
    · rename_i he
      subst he; cases h; exact hk.1
    · exact KS.ok hk.2 n b h
theorem DCallQ.seen {P : Program} {nt : Nat} {C : Cx} {r : List It} {e e0 : Env} {M M0 Mf : Mem} {id : Nat} {rg : Array Oper} {k : Nat} {T : List (Nat × Nat)} {i : Nat} {o : Oper} {l : List Oper} {f : FuncId} {vs : List (Option (Bool × V))} {g : Bool} {dst : Option Nat} {xs : List V} {v : V} {M1 N : Mem} (L : List (Nat × Nat)) (K : Mem) (nx : Nat) (hc : CallOk P f xs M1 v N) (hcl : ClM M1) (hL : rnOk L = true) (hvs : vs = (xs.map (V.ren (rn L))).map fun x => some (true, x))
    (hs : SubS (M1.ren (rn L)) (K ++ M0)) (hfr : (N.ren (rn L)).all (fun p => ((M1.ren (rn L)).get p.1).isSome || ((K ++ M0 : Mem).get p.1).isNone) = true) (hg : g = true ∨ N = []) (hK : KS (N.ren (rn L)) M K) (hf2 : ownB (N.ren (rn L)) M0 (K ++ M0) M = true) (hf3 : touchA rg i T o (N.ren (rn L)) = true)
    (h : runD P nt C id rg r e0 M0 Mf k (kontW P nt C (.ops rg (rg.toList.drop k) :: r)) (touchN (N.ren (rn L)) i T) (i + 1) l (e.put dst g (v.ren (rn L))) (N.ren (rn L) ++ M) nx) : DCallQ P nt C id rg r e0 M0 Mf k T i o f vs g dst l e M :=
  ⟨M1.ren (rn L), N.ren (rn L), K ++ M0, v.ren (rn L), xs.map (V.ren (rn L)), fun _ => hvs, fun _ => .inl (hc.ren (rn_inj L hL)), hs.sub, hcl.ren (rn_inj L hL), Fresh.of hfr, hg.imp (fun h => h) (fun h => by rw [h]; rfl),
    ⟨fun n b hb => by
      rw [Mem.get_append] at hb
      cases hk : K.get n with
      | some c => rw [hk] at hb; cases hb; exact .inr (hK.ok n _ hk)
      | none => rw [hk] at hb; exact .inl (by simpa using hb),
    fun n hn => by
      obtain ⟨p, hp, hp1⟩ := List.mem_map.1 (Mem.mem_of_get' hn)
      subst hp1
      have k1 := List.all_eq_true.1 hf2 p hp
      have k2 := List.all_eq_true.1 hf3 p hp
      simp only [Bool.and_eq_true, Bool.or_eq_true, Option.isNone_iff_eq_none] at k1
      refine ⟨k1.1, k1.2, fun j hj => ?_⟩
      have := List.all_eq_true.1 k2 _ hj
      exact ancB_ok 20 j o (by simpa using this)⟩, DrS.go nx h⟩
end Vg
end Go.Proofs.YtpahigegcbdleaaDoor
