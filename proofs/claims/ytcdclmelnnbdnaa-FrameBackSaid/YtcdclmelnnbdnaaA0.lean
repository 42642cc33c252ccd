/- slices.Reverse at []int, from the library's contract. -/
import Derived.Test.YtcdclmelnnbdnaaSh
import Derived.Test.YtcdclmelnnbdnaaTf
import Derived.Test.YtcdclmelnnbdnaaVt
namespace Go.Proofs.Ytcdclmelnnbdnaa
open Vg Tf
set_option linter.unusedSimpArgs false
set_option linter.unusedVariables false
set_option maxRecDepth 100000
theorem Rel.drewN {S : Bs} {w0 : World} {β : Vl} {M : Mem} {w : World} (h : Rel S w0 β M w) (q : Nat) : Rel S w0 β M (w.drewN q) :=
  ⟨⟨h.fr.os, h.fr.tape, h.fr.output, h.fr.size, h.fr.old⟩, ⟨h.mem.ok, h.mem.there, h.mem.apart⟩, h.own, h.pin⟩
theorem setL_all {α : Type} : ∀ (r : List α) (l pre : List α), l.length = r.length → setL (pre ++ l) pre.length r = pre ++ r
  | [], l, pre, h => by
    have : l = [] := List.length_eq_zero_iff.1 (by simpa using h)
    subst this; rfl
  | x :: r, [], pre, h => by simp at h
  | x :: r, y :: l, pre, h => by
    rw [setL]
    have e : (pre ++ y :: l).set pre.length x = (pre ++ [x]) ++ l := by simp
    rw [e]
    have := setL_all r l (pre ++ [x]) (by simpa using h)
    rw [List.length_append, List.length_singleton] at this
    rw [this]; simp
abbrev cz (z : Int) : Cv := .v (.int .i64 z)
theorem srevZ (zs : List Int) (hl : zs.length ≤ 9223372036854775807) : CallOk Try.prog 45 [.c (.sl 1 0 zs.length 1)] [(1, ⟨false, zs.map cz, 3⟩)] (.tup []) [(1, ⟨false, zs.reverse.map cz, 3⟩)] := by
  refine ⟨en45, ?_, ?_, ?_⟩
  · intro n b h
    simp only [Mem.get] at h
    cases hk : (1 == n) <;> rw [hk] at h <;> simp at h
    subst h; rfl
  · intro n b b' h h'
    simp only [Mem.get] at h'
    cases hk : (1 == n) <;> rw [hk] at h' <;> simp at h'
    subst h'; rfl
  · intro β w hm
    have hb := hm.ok β (Agree.refl _ _) 1 _ rfl
    have hcl : ∀ b' : Vl, (zs.reverse.map cz).map (Cv.g b') = zs.reverse.map (Value.int .i64) := fun b' => by simp [Function.comp_def, Cv.g]
    let S : Bs := ⟨fun k => ∀ n b, Mem.get [(1, (⟨false, zs.map cz, 3⟩ : Bk))] n = some b → b.ro = false → (β n).nul = false → k ≠ (β n).blk, fun _ => none⟩
    have hrel : Rel S w β [(1, ⟨false, zs.map cz, 3⟩)] w := ⟨Fr.refl _ _, hm, fun n b hn hr hu hS => absurd rfl (hS n b hn hr hu), fun n l h => by cases h⟩
    by_cases hu : (β 1).nul = true
    · have hz : zs = [] := by
        have := hb.nul_cells hu
        simpa using this
      subst hz
      have h := Try.slices_Reverse_int_empty none 0 w
      have hv : (#[V.g β (.c (.sl 1 0 ([] : List Int).length 1))] : Array Value) = #[.slice none 0 0] := by simp [V.g, Cv.g, hu]
      show Calls Try.prog _ #[V.g β (.c (.sl 1 0 ([] : List Int).length 1))] w _
      rw [hv]
      refine h.mono ?_
      rintro e w' ⟨rfl, rfl⟩
      refine ⟨β, Agree.refl _ _, fun _ _ => rfl, ?_, Fr.refl _ _, fun n hn h0 => ?_⟩
      · exact hm.sub (fun n b h => by
          simp only [List.cons_append, List.nil_append, Mem.get] at h
          cases hk : (1 == n) with
          | true => rw [hk] at h; simp at h; subst h; exact ⟨_, by simp [Mem.get, hk], .inl rfl⟩
          | false => rw [hk] at h; simp at h) (fun β β' hag n b h => by
          simp only [List.cons_append, List.nil_append, Mem.get] at h
          cases hk : (1 == n) with
          | true => rw [hk] at h; simp at h; subst h; rfl
          | false => rw [hk] at h; simp at h)
      · simp only [Mem.get] at hn h0
        cases hk : (1 == n) <;> rw [hk] at hn h0 <;> simp at hn h0
    · have hu : (β 1).nul = false := by simpa using hu
      obtain ⟨ho, junk, hh, hz⟩ : (β 1).org = 0 ∧ ∃ junk : List Value, w.heap[(β 1).blk]? = some (.cells ((zs.map cz).map (Cv.g β) ++ junk).toArray 3 (0, 0)) ∧ (β 1).siz = (zs.map cz).length + junk.length := by
        have := hb
        unfold BkOk at this
        rw [hu] at this
        simpa using this
      have hv : (#[V.g β (.c (.sl 1 0 zs.length 1))] : Array Value) = #[.slice (some ⟨(β 1).blk, 0, none⟩) zs.length (((β 1).siz - 0) / 1)] := by simp [V.g, Cv.g, hu, ho]
      show Calls Try.prog _ #[V.g β (.c (.sl 1 0 zs.length 1))] w _
      rw [hv]
      have hr := hb.range
      refine (Try.slices_Reverse_int_cells (β 1).blk 0 zs.length _ zs w (Nat.le_refl _) (by omega) ?_ ?_).mono ?_
      · intro j hj
        rw [ho] at hr
        refine hr j _ ?_
        simp [Cv.g, List.getElem?_eq_getElem hj]
      · intro j hj
        simp [World.frozen?, hh]
      · rintro e w' ⟨rfl, q, rfl⟩
        have hst := (Rel.drewN hrel q).store (n := 1) rfl rfl (off := 0) (cs := zs.reverse.map cz) (by simp) hu (fun b' _ => by rw [hcl, hcl])
        rw [hcl] at hst
        rw [List.take_length]
        have hset : setL (zs.map cz) 0 (zs.reverse.map cz) = zs.reverse.map cz := by
          have := setL_all (zs.reverse.map cz) (zs.map cz) [] (by simp)
          simpa using this
        simp only [hset] at hst
        refine ⟨β, Agree.refl _ _, fun _ _ => rfl, hst.mem, hst.fr, fun n hn h0 => ?_⟩
        simp only [Mem.get] at hn h0
        cases hk : (1 == n) <;> rw [hk] at hn h0 <;> simp at hn h0
end Go.Proofs.Ytcdclmelnnbdnaa
