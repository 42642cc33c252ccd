/- Frame: checksums of frames, Protect. -/
import Derived.Test.YtcdclmelnnbdnaaB5
namespace Go.Proofs.Ytcdclmelnnbdnaa
open Vg Tf
set_option linter.unusedSimpArgs false
set_option linter.unusedVariables false
set_option maxRecDepth 100000
set_option maxHeartbeats 4000000
theorem bclone2 (l : List Nat) (off len : Nat) (hl : l.length ≤ 1000000) (hol : off + len ≤ l.length) : CallOk Try.prog 50 [.c (.sl 1 off len 1)] [bBr 1 l] (slV 2 len) [bB 2 ((l.drop off).take len)] := by
  have htk : List.take len (List.drop off (List.map cb l)) = List.map cb ((l.drop off).take len) := by rw [List.map_take, List.map_drop]
  have hlen : ((l.drop off).take len).length = len := by simp; omega
  refine CallOk.mkN 100 Try.func50 rfl en50 (by simp [Try.ntmps50]) (ClA.of rfl) rfl rfl fun C hR hP => ?_
  simp (config := { maxSteps := 2000000 }) only [go_sem, Nat.reduceBEq, Nat.reduceAdd, Nat.reduceLT, Nat.reduceLeDiff, Nat.reduceEqDiff, reduceCtorEq, Int.reduceAdd, Int.reduceSub, Int.reduceNeg, Int.reduceLE, Int.reduceLT, Int.reduceToNat, Int.reduceBEq, Int.reduceBNe, Int.reduceEq, Int.reduceNe, Int.toNat_zero, Int.toNat_one, bne_self_eq_false, Nat.reduceMul, Nat.zero_mul, Nat.mul_one, Nat.one_mul, Nat.reduceSub, Int.cast_ofNat_Int, Int.toNat_natCast]
  refine Sm.eqNil rfl rfl rfl rfl rfl rfl (fun h0 => ?_) ?_
  · subst h0
    rw [List.take_zero] at hR
    refine Sm.go 100 ?_
    simp (config := { maxSteps := 2000000 }) only [go_sem, Nat.reduceBEq, Nat.reduceAdd, Nat.reduceLT, Nat.reduceLeDiff, Nat.reduceEqDiff, reduceCtorEq, Int.reduceAdd, Int.reduceSub, Int.reduceNeg, Int.reduceLE, Int.reduceLT, Int.reduceToNat, Int.reduceBEq, Int.reduceBNe, Int.reduceEq, Int.reduceNe, Int.toNat_zero, Int.toNat_one, bne_self_eq_false, Nat.reduceMul, Nat.zero_mul, Nat.mul_one, Nat.one_mul, Nat.reduceSub, Int.cast_ofNat_Int, Int.toNat_natCast]
    refine RetQ.nils 110 1 5 [2] [] rfl ?_
    simp (config := { maxSteps := 2000000 }) only [go_sem, Nat.reduceBEq, Nat.reduceAdd, Nat.reduceLT, Nat.reduceLeDiff, Nat.reduceEqDiff, reduceCtorEq, Int.reduceAdd, Int.reduceSub, Int.reduceNeg, Int.reduceLE, Int.reduceLT, Int.reduceToNat, Int.reduceBEq, Int.reduceBNe, Int.reduceEq, Int.reduceNe, Int.toNat_zero, Int.toNat_one, bne_self_eq_false, Nat.reduceMul, Nat.zero_mul, Nat.mul_one, Nat.one_mul, Nat.reduceSub, Int.cast_ofNat_Int, Int.toNat_natCast]
    exact RetQ.ren [(1, 1), (2, 110)] hR hP rfl ⟨rfl, trivial⟩ rfl rfl ⟨⟨rfl, rfl⟩, trivial⟩ ⟨.inr ⟨_, rfl, .inl rfl⟩, .inr ⟨_, rfl, .inl (renV (v_u _))⟩, trivial⟩ (clU2 l []) (ClV.of rfl)
  · refine Sm.go 100 ?_
    simp (config := { maxSteps := 2000000 }) only [go_sem, Nat.reduceBEq, Nat.reduceAdd, Nat.reduceLT, Nat.reduceLeDiff, Nat.reduceEqDiff, reduceCtorEq, Int.reduceAdd, Int.reduceSub, Int.reduceNeg, Int.reduceLE, Int.reduceLT, Int.reduceToNat, Int.reduceBEq, Int.reduceBNe, Int.reduceEq, Int.reduceNe, Int.toNat_zero, Int.toNat_one, bne_self_eq_false, Nat.reduceMul, Nat.zero_mul, Nat.mul_one, Nat.one_mul, Nat.reduceSub, Int.cast_ofNat_Int, Int.toNat_natCast]
    simp only [htk]
    exact ⟨⟨⟨by simp; omega, one_u _⟩, by omega, by omega⟩, RetQ.ren [(1, 1), (2, 101)] hR hP rfl ⟨rfl, trivial⟩ rfl rfl ⟨⟨rfl, rfl⟩, trivial⟩ ⟨.inr ⟨_, rfl, .inl (renV (v_u _))⟩, .inr ⟨_, rfl, .inl (renV (v_u _))⟩, trivial⟩ (clU2 l _) (ClV.of rfl)⟩
/-- What a guarded frame's check says of data. -/
def gE (f : Fm) (u : List Nat) : Int := bif fok f then (bif decide ((u.length : Int) = f.ln) then (bif f.gd then 0 else 6) else 3) else 1
theorem clSU (f : Fm) (u : List Nat) : ClM [bS 1 f.sgs, bBr 2 u] := ClM.v (by simp only [List.all_cons, v_ss, v_u]; rfl)
theorem fguarded (f : Fm) (hf : f.ok) (u : List Nat) : CallOk Try.prog 48 [fm5 1 f, slV 2 u.length] [bS 1 f.sgs, bBr 2 u] (I (gE f u)) [] := by
  have hM := clSU f u
  have hsub : Sub [bS 1 f.sgs, bBr 2 u] [bS 1 f.sgs, bBr 2 u] := Sub.refl _
  refine CallOk.mkN 100 Try.func48 rfl en48 (by simp [Try.ntmps48]) (ClA.of rfl) rfl rfl fun C hR hP => ?_
  simp (config := { maxSteps := 2000000 }) only [go_sem, Nat.reduceBEq, Nat.reduceAdd, Nat.reduceLT, Nat.reduceLeDiff, Nat.reduceEqDiff, reduceCtorEq, Int.reduceAdd, Int.reduceSub, Int.reduceNeg, Int.reduceLE, Int.reduceLT, Int.reduceToNat, Int.reduceBEq, Int.reduceBNe, Int.reduceEq, Int.reduceNe, Int.toNat_zero, Int.toNat_one, bne_self_eq_false, Nat.reduceMul, Nat.zero_mul, Nat.mul_one, Nat.one_mul, Nat.reduceSub, Int.cast_ofNat_Int, Int.toNat_natCast]
  refine CallQ.ren [(1, 1)] 130 (fvalid f hf) (clS _) rfl rfl ⟨⟨_, rfl, wkS _ _ _⟩, trivial⟩ rfl (.inr rfl) ?_
  simp (config := { maxSteps := 2000000 }) only [go_sem, Nat.reduceBEq, Nat.reduceAdd, Nat.reduceLT, Nat.reduceLeDiff, Nat.reduceEqDiff, reduceCtorEq, Int.reduceAdd, Int.reduceSub, Int.reduceNeg, Int.reduceLE, Int.reduceLT, Int.reduceToNat, Int.reduceBEq, Int.reduceBNe, Int.reduceEq, Int.reduceNe, Int.toNat_zero, Int.toNat_one, bne_self_eq_false, Nat.reduceMul, Nat.zero_mul, Nat.mul_one, Nat.one_mul, Nat.reduceSub, Int.cast_ofNat_Int, Int.toNat_natCast]
  refine mtch (fun hz => ?_) (fun hz => ?_)
  · have hz : fok f = false := by simpa using hz
    exact RetQ.of hR rfl ⟨rfl, trivial⟩ (by rw [gE, hz]; rfl) (SubS.sub ⟨⟨_, rfl, .inl rfl⟩, ⟨_, rfl, .inl rfl⟩, trivial⟩) hM (ClV.of rfl)
  · have hz : fok f = true := by simpa using hz
    refine mtch (fun hl => ?_) (fun hl => ?_)
    · have hl : ¬ (u.length : Int) = f.ln := by simpa using hl
      exact RetQ.of hR rfl ⟨rfl, trivial⟩ (by rw [gE, hz, fal_of hl]; rfl) (SubS.sub ⟨⟨_, rfl, .inl rfl⟩, ⟨_, rfl, .inl rfl⟩, trivial⟩) hM (ClV.of rfl)
    · have hl : (u.length : Int) = f.ln := by simpa using hl
      refine mtch (fun hg => ?_) (fun hg => ?_)
      · have hg : f.gd = false := by simpa using hg
        exact RetQ.of hR rfl ⟨rfl, trivial⟩ (by rw [gE, hz, tru_of hl, hg]; rfl) (SubS.sub ⟨⟨_, rfl, .inl rfl⟩, ⟨_, rfl, .inl rfl⟩, trivial⟩) hM (ClV.of rfl)
      · have hg : f.gd = true := by simpa using hg
        exact RetQ.of hR rfl ⟨rfl, trivial⟩ (by rw [gE, hz, tru_of hl, hg]; rfl) (SubS.sub ⟨⟨_, rfl, .inl rfl⟩, ⟨_, rfl, .inl rfl⟩, trivial⟩) hM (ClV.of rfl)
theorem gE_0 {f : Fm} {u : List Nat} (h : gE f u = 0) : f.val ∧ (u.length : Int) = f.ln ∧ f.gd = true ∧ 2 ≤ u.length ∧ u.length ≤ 8 := by
  unfold gE at h
  cases hz : fok f with
  | false => rw [hz] at h; cases h
  | true =>
    rw [hz] at h
    by_cases hl : (u.length : Int) = f.ln
    · rw [tru_of hl] at h
      cases hg : f.gd with
      | false => rw [hg] at h; cases h
      | true =>
        have hv := fok_val hz
        have h1 := hv.ln
        have h2 := hv.gd hg
        exact ⟨hv, hl, rfl, by omega, by omega⟩
    · rw [fal_of hl] at h; cases h
def idb (f : Fm) : Nat := (f.id % 256).toNat
theorem idb_lt (f : Fm) : idb f < 256 := by unfold idb; omega
noncomputable def sumF (f : Fm) (u : List Nat) : Nat := crc (u.drop 1 ++ [idb f])
theorem fcheck (f : Fm) (u : List Nat) (hu : ∀ x ∈ u, x < 256) (h2 : 2 ≤ u.length) (h8 : u.length ≤ 1000) : CallOk Try.prog 51 [fm5 1 f, slV 2 u.length] [bS 1 f.sgs, bBr 2 u] (Yn (sumF f u)) [] := by
  have hM := clSU f u
  refine CallOk.mkN 100 Try.func51 rfl en51 (by simp [Try.ntmps51]) (ClA.of rfl) rfl rfl fun C hR hP => ?_
  simp (config := { maxSteps := 2000000 }) only [go_sem, Nat.reduceBEq, Nat.reduceAdd, Nat.reduceLT, Nat.reduceLeDiff, Nat.reduceEqDiff, reduceCtorEq, Int.reduceAdd, Int.reduceSub, Int.reduceNeg, Int.reduceLE, Int.reduceLT, Int.reduceToNat, Int.reduceBEq, Int.reduceBNe, Int.reduceEq, Int.reduceNe, Int.toNat_zero, Int.toNat_one, bne_self_eq_false, Nat.reduceMul, Nat.zero_mul, Nat.mul_one, Nat.one_mul, Nat.reduceSub, Int.cast_ofNat_Int, Int.toNat_natCast]
  refine Sm.dgo 110 7 mix (by decide +kernel) (by decide +kernel) ?_
  simp (config := { maxSteps := 2000000 }) only [go_sem, Nat.reduceBEq, Nat.reduceAdd, Nat.reduceLT, Nat.reduceLeDiff, Nat.reduceEqDiff, reduceCtorEq, Int.reduceAdd, Int.reduceSub, Int.reduceNeg, Int.reduceLE, Int.reduceLT, Int.reduceToNat, Int.reduceBEq, Int.reduceBNe, Int.reduceEq, Int.reduceNe, Int.toNat_zero, Int.toNat_one, bne_self_eq_false, Nat.reduceMul, Nat.zero_mul, Nat.mul_one, Nat.one_mul, Nat.reduceSub, Int.cast_ofNat_Int, Int.toNat_natCast]
  have hl1 : ((u.length : Int) - 1).toNat = u.length - 1 := by omega
  have hdt : (u.drop 1).take (u.length - 1) = u.drop 1 := List.take_of_length_le (by simp)
  have hcl := bclone2 u 1 (u.length - 1) (by omega) (by omega)
  rw [hdt] at hcl
  simp only [hl1]
  refine ⟨⟨by omega, by omega, by simp, by omega⟩, ?_⟩
  refine DCallQ.ren [(1, 2), (2, 120)] 121 hcl (clB _ _) rfl rfl ⟨⟨_, rfl, wkU _ _ _ _⟩, trivial⟩ rfl (.inl rfl) rfl rfl ?_
  simp only [Mem.ren, List.map_cons, List.map_nil, Bk.ren, List.map_map, V.ren, W.ren, Cv.ren, rn, Nat.reduceBEq, cond_true, cond_false, Function.comp_def]
  simp (config := { maxSteps := 2000000 }) only [go_sem, Nat.reduceBEq, Nat.reduceAdd, Nat.reduceLT, Nat.reduceLeDiff, Nat.reduceEqDiff, reduceCtorEq, Int.reduceAdd, Int.reduceSub, Int.reduceNeg, Int.reduceLE, Int.reduceLT, Int.reduceToNat, Int.reduceBEq, Int.reduceBNe, Int.reduceEq, Int.reduceNe, Int.toNat_zero, Int.toNat_one, bne_self_eq_false, Nat.reduceMul, Nat.zero_mul, Nat.mul_one, Nat.one_mul, Nat.reduceSub, Int.cast_ofNat_Int, Int.toNat_natCast]
  have hw : IntKind.u8.wrap f.id = (idb f : Int) := by rw [IntKind.wrap_u8, idb]; omega
  have hls : (u.drop 1 ++ [idb f]).length = u.length - 1 + 1 := by simp
  have hap : List.take (u.length - 1) (List.map (fun x : Nat => Cv.v (.int .u8 (x : Int))) (List.drop 1 u)) ++ [Cv.v (.int .u8 (idb f : Int))] = (u.drop 1 ++ [idb f]).map cb := by
    rw [List.take_of_length_le (by simp), List.map_append]; rfl
  have hlt : ∀ x ∈ u.drop 1 ++ [idb f], x < 256 := by
    intro x hx
    rcases List.mem_append.1 hx with hx | hx
    · exact hu x (List.mem_of_mem_drop hx)
    · rw [List.mem_singleton.1 hx]; exact idb_lt f
  have hc := fcrc (u.drop 1 ++ [idb f]) hlt (by omega)
  rw [hls] at hc
  simp only [hw, hap]
  refine ⟨⟨by simp, by omega, by omega⟩, ?_⟩
  refine CallQ.ren [(1, 122)] 130 hc (clB _ _) rfl rfl ⟨⟨_, rfl, wkU _ _ _ _⟩, trivial⟩ rfl (.inr rfl) ?_
  simp (config := { maxSteps := 2000000 }) only [go_sem, Nat.reduceBEq, Nat.reduceAdd, Nat.reduceLT, Nat.reduceLeDiff, Nat.reduceEqDiff, reduceCtorEq, Int.reduceAdd, Int.reduceSub, Int.reduceNeg, Int.reduceLE, Int.reduceLT, Int.reduceToNat, Int.reduceBEq, Int.reduceBNe, Int.reduceEq, Int.reduceNe, Int.toNat_zero, Int.toNat_one, bne_self_eq_false, Nat.reduceMul, Nat.zero_mul, Nat.mul_one, Nat.one_mul, Nat.reduceSub, Int.cast_ofNat_Int, Int.toNat_natCast]
  exact RetQ.of hR rfl ⟨rfl, trivial⟩ rfl (SubS.sub ⟨⟨_, rfl, .inl rfl⟩, ⟨_, rfl, .inl rfl⟩, trivial⟩) hM (ClV.of rfl)
theorem rsum (f : Fm) (u : List Nat) (hu : ∀ x ∈ u, x < 256) (h2 : 2 ≤ u.length) (h8 : u.length ≤ 1000) (hid : 0 ≤ f.id ∧ f.id ≤ 2047) : CallOk Try.prog 52 [fm5 1 f, slV 2 u.length] [bS 1 f.sgs, bBr 2 u] (Yn (sumF f u)) [] := by
  have hM := clSU f u
  have hl1 : ((u.length : Int) - 1).toNat = u.length - 1 := by omega
  have hdt : List.take (u.length - 1) (List.drop 1 (List.map cb u)) = List.map cb (u.drop 1) := by rw [List.take_of_length_le (by simp), List.map_drop]
  have hw : IntKind.u8.wrap (f.id.tmod 256) = (idb f : Int) := by rw [IntKind.wrap_u8, idb, Int.tmod_eq_emod_of_nonneg hid.1]; omega
  have hls : (u.drop 1 ++ [idb f]).length = u.length - 1 + 1 := by simp
  have hap : List.take (u.length - 1) (List.map cb (List.drop 1 u)) ++ [Cv.v (.int .u8 (idb f : Int))] = (u.drop 1 ++ [idb f]).map cb := by
    rw [List.take_of_length_le (by simp), List.map_append]; rfl
  have hlt : ∀ x ∈ u.drop 1 ++ [idb f], x < 256 := by
    intro x hx
    rcases List.mem_append.1 hx with hx | hx
    · exact hu x (List.mem_of_mem_drop hx)
    · rw [List.mem_singleton.1 hx]; exact idb_lt f
  have hc := rcrc (u.drop 1 ++ [idb f]) hlt (by omega)
  rw [hls] at hc
  refine CallOk.mkN 100 Try.func52 rfl en52 (by simp [Try.ntmps52]) (ClA.of rfl) rfl rfl fun C hR hP => ?_
  simp (config := { maxSteps := 2000000 }) only [go_sem, Nat.reduceBEq, Nat.reduceAdd, Nat.reduceLT, Nat.reduceLeDiff, Nat.reduceEqDiff, reduceCtorEq, Int.reduceAdd, Int.reduceSub, Int.reduceNeg, Int.reduceLE, Int.reduceLT, Int.reduceToNat, Int.reduceBEq, Int.reduceBNe, Int.reduceEq, Int.reduceNe, Int.toNat_zero, Int.toNat_one, bne_self_eq_false, Nat.reduceMul, Nat.zero_mul, Nat.mul_one, Nat.one_mul, Nat.reduceSub, Int.cast_ofNat_Int, Int.toNat_natCast, hl1, hdt, hw, hap]
  refine ⟨⟨by omega, by omega, by simp, by omega⟩, ⟨⟨by simp; omega, one_u _⟩, by omega, by omega⟩, ⟨by simp, by omega, by omega⟩, ?_⟩
  refine CallQ.ren [(1, 104)] 130 hc (clB _ _) rfl rfl ⟨⟨_, rfl, wkU _ _ _ _⟩, trivial⟩ rfl (.inr rfl) ?_
  simp (config := { maxSteps := 2000000 }) only [go_sem, Nat.reduceBEq, Nat.reduceAdd, Nat.reduceLT, Nat.reduceLeDiff, Nat.reduceEqDiff, reduceCtorEq, Int.reduceAdd, Int.reduceSub, Int.reduceNeg, Int.reduceLE, Int.reduceLT, Int.reduceToNat, Int.reduceBEq, Int.reduceBNe, Int.reduceEq, Int.reduceNe, Int.toNat_zero, Int.toNat_one, bne_self_eq_false, Nat.reduceMul, Nat.zero_mul, Nat.mul_one, Nat.one_mul, Nat.reduceSub, Int.cast_ofNat_Int, Int.toNat_natCast]
  exact RetQ.of hR rfl ⟨rfl, trivial⟩ rfl (SubS.sub ⟨⟨_, rfl, .inl rfl⟩, ⟨_, rfl, .inl rfl⟩, trivial⟩) hM (ClV.of rfl)
/-- Data protected: the counter in byte 1, the checksum in byte 0. -/
def prot1 (u : List Nat) (c : Nat) : List Nat := u.set 1 (u.getD 1 0 / 16 * 16 + c)
noncomputable def prot (f : Fm) (u : List Nat) (c : Nat) : List Nat := (prot1 u c).set 0 (sumF f (prot1 u c))
def pcE (f : Fm) (u : List Nat) (c : Int) : Int := bif gE f u == 0 then (bif inR c 0 14 then 0 else 2) else gE f u
noncomputable def pcB (f : Fm) (u : List Nat) (c : Int) : List Nat := bif pcE f u c == 0 then prot f u c.toNat else []
theorem orand (a c : Nat) (ha : a < 256) (hc : c < 16) : bits .or .u8 (bits .and .u8 (a : Int) 240) (IntKind.u8.wrap (c : Int)) = ((a / 16 * 16 + c : Nat) : Int) := by
  have h : ∀ a : Fin 256, ∀ c : Fin 16, bits .or .u8 (bits .and .u8 (a.val : Int) 240) (IntKind.u8.wrap (c.val : Int)) = ((a.val / 16 * 16 + c.val : Nat) : Int) := by decide +kernel
  exact h ⟨a, ha⟩ ⟨c, hc⟩
theorem prot1_lt {u : List Nat} (hu : ∀ x ∈ u, x < 256) {c : Nat} (hc : c < 16) : ∀ x ∈ prot1 u c, x < 256 := by
  intro x hx
  rcases List.mem_or_eq_of_mem_set hx with h | rfl
  · exact hu x h
  · have : u.getD 1 0 < 256 := by
      rw [List.getD_eq_getElem?_getD]
      cases h : u[1]? with
      | none => simp
      | some y => exact hu y (List.mem_of_getElem? h)
    omega
theorem prot1_length (u : List Nat) (c : Nat) : (prot1 u c).length = u.length := List.length_set
theorem prot_length (f : Fm) (u : List Nat) (c : Nat) : (prot f u c).length = u.length := by rw [prot, List.length_set, prot1_length]
theorem sumF_lt (f : Fm) {u : List Nat} (hu : ∀ x ∈ u, x < 256) : sumF f u < 256 := crc_lt (by
  intro x hx
  rcases List.mem_append.1 hx with hx | hx
  · exact hu x (List.mem_of_mem_drop hx)
  · rw [List.mem_singleton.1 hx]; exact idb_lt f)
theorem prot_lt (f : Fm) {u : List Nat} (hu : ∀ x ∈ u, x < 256) {c : Nat} (hc : c < 16) : ∀ x ∈ prot f u c, x < 256 := by
  intro x hx
  rcases List.mem_or_eq_of_mem_set hx with h | rfl
  · exact prot1_lt hu hc x h
  · exact sumF_lt f (prot1_lt hu hc)
theorem clP3 (f : Fm) (u l : List Nat) : ClM ([bB 3 l] ++ [bS 1 f.sgs, bBr 2 u]) := ClM.v (by simp only [List.cons_append, List.nil_append, List.all_cons, v_ss, v_u]; rfl)
theorem fprot (f : Fm) (hf : f.ok) (u : List Nat) (hu : ∀ x ∈ u, x < 256) (hl : u.length ≤ 1000) (c : Int) : CallOk Try.prog 24 [fm5 1 f, slV 2 u.length, I c] [bS 1 f.sgs, bBr 2 u] (.tup [.c (.sl 3 0 (pcB f u c).length 1), Wi (pcE f u c)]) [bB 3 (pcB f u c)] := by
  have hM := clSU f u
  refine CallOk.mkN 100 Try.func24 rfl en24 (by simp [Try.ntmps24]) (ClA.of rfl) rfl rfl fun C hR hP => ?_
  simp (config := { maxSteps := 2000000 }) only [go_sem, Nat.reduceBEq, Nat.reduceAdd, Nat.reduceLT, Nat.reduceLeDiff, Nat.reduceEqDiff, reduceCtorEq, Int.reduceAdd, Int.reduceSub, Int.reduceNeg, Int.reduceLE, Int.reduceLT, Int.reduceToNat, Int.reduceBEq, Int.reduceBNe, Int.reduceEq, Int.reduceNe, Int.toNat_zero, Int.toNat_one, bne_self_eq_false, Nat.reduceMul, Nat.zero_mul, Nat.mul_one, Nat.one_mul, Nat.reduceSub, Int.cast_ofNat_Int, Int.toNat_natCast]
  refine CallQ.ren [(1, 1), (2, 2)] 130 (fguarded f hf u) hM rfl rfl ⟨⟨_, rfl, wkS _ _ _⟩, ⟨_, rfl, wkU _ _ _ _⟩, trivial⟩ rfl (.inr rfl) ?_
  simp (config := { maxSteps := 2000000 }) only [go_sem, Nat.reduceBEq, Nat.reduceAdd, Nat.reduceLT, Nat.reduceLeDiff, Nat.reduceEqDiff, reduceCtorEq, Int.reduceAdd, Int.reduceSub, Int.reduceNeg, Int.reduceLE, Int.reduceLT, Int.reduceToNat, Int.reduceBEq, Int.reduceBNe, Int.reduceEq, Int.reduceNe, Int.toNat_zero, Int.toNat_one, bne_self_eq_false, Nat.reduceMul, Nat.zero_mul, Nat.mul_one, Nat.one_mul, Nat.reduceSub, Int.cast_ofNat_Int, Int.toNat_natCast]
  refine mtch (fun hz => ?_) (fun hz => ?_)
  · have hz : (gE f u == 0) = false := by simpa using hz
    have he : pcE f u c = gE f u := by rw [pcE, hz]; rfl
    have hb : pcB f u c = [] := by rw [pcB, he, hz]; rfl
    rw [he, hb] at hR
    refine RetQ.nils 140 1 5 [6] [] rfl ?_
    simp (config := { maxSteps := 2000000 }) only [go_sem, Nat.reduceBEq, Nat.reduceAdd, Nat.reduceLT, Nat.reduceLeDiff, Nat.reduceEqDiff, reduceCtorEq, Int.reduceAdd, Int.reduceSub, Int.reduceNeg, Int.reduceLE, Int.reduceLT, Int.reduceToNat, Int.reduceBEq, Int.reduceBNe, Int.reduceEq, Int.reduceNe, Int.toNat_zero, Int.toNat_one, bne_self_eq_false, Nat.reduceMul, Nat.zero_mul, Nat.mul_one, Nat.one_mul, Nat.reduceSub, Int.cast_ofNat_Int, Int.toNat_natCast]
    exact RetQ.ren [(1, 1), (2, 2), (3, 140)] hR hP rfl ⟨rfl, rfl, trivial⟩ rfl rfl ⟨⟨rfl, rfl⟩, ⟨rfl, rfl⟩, trivial⟩ ⟨.inr ⟨_, rfl, .inl rfl⟩, .inr ⟨_, rfl, .inl (renV (v_ss _))⟩, .inr ⟨_, rfl, .inl (renV (v_u _))⟩, trivial⟩ (clP3 f u []) (ClV.of rfl)
  · have hz : gE f u = 0 := by simpa using hz
    obtain ⟨hv, hln, hgd, h2, h8⟩ := gE_0 hz
    have hp : pcE f u c = bif inR c 0 14 then 0 else 2 := by rw [pcE, hz]; rfl
    refine CallQ.pure 130 (fwithin c 0 14) rfl ?_
    simp (config := { maxSteps := 2000000 }) only [go_sem, Nat.reduceBEq, Nat.reduceAdd, Nat.reduceLT, Nat.reduceLeDiff, Nat.reduceEqDiff, reduceCtorEq, Int.reduceAdd, Int.reduceSub, Int.reduceNeg, Int.reduceLE, Int.reduceLT, Int.reduceToNat, Int.reduceBEq, Int.reduceBNe, Int.reduceEq, Int.reduceNe, Int.toNat_zero, Int.toNat_one, bne_self_eq_false, Nat.reduceMul, Nat.zero_mul, Nat.mul_one, Nat.one_mul, Nat.reduceSub, Int.cast_ofNat_Int, Int.toNat_natCast]
    refine mtch (fun hw => ?_) (fun hw => ?_)
    · have hw : inR c 0 14 = false := by simpa only [Bool.not_eq_true', inR] using hw
      have he : pcE f u c = 2 := by rw [hp, hw]; rfl
      have hb : pcB f u c = [] := by rw [pcB, he]; rfl
      rw [he, hb] at hR
      refine RetQ.nils 140 1 5 [6] [] rfl ?_
      simp (config := { maxSteps := 2000000 }) only [go_sem, Nat.reduceBEq, Nat.reduceAdd, Nat.reduceLT, Nat.reduceLeDiff, Nat.reduceEqDiff, reduceCtorEq, Int.reduceAdd, Int.reduceSub, Int.reduceNeg, Int.reduceLE, Int.reduceLT, Int.reduceToNat, Int.reduceBEq, Int.reduceBNe, Int.reduceEq, Int.reduceNe, Int.toNat_zero, Int.toNat_one, bne_self_eq_false, Nat.reduceMul, Nat.zero_mul, Nat.mul_one, Nat.one_mul, Nat.reduceSub, Int.cast_ofNat_Int, Int.toNat_natCast]
      exact RetQ.ren [(1, 1), (2, 2), (3, 140)] hR hP rfl ⟨rfl, rfl, trivial⟩ rfl rfl ⟨⟨rfl, rfl⟩, ⟨rfl, rfl⟩, trivial⟩ ⟨.inr ⟨_, rfl, .inl rfl⟩, .inr ⟨_, rfl, .inl (renV (v_ss _))⟩, .inr ⟨_, rfl, .inl (renV (v_u _))⟩, trivial⟩ (clP3 f u []) (ClV.of rfl)
    · have hw : inR c 0 14 = true := by simpa only [Bool.not_eq_false', inR] using hw
      have he : pcE f u c = 0 := by rw [hp, hw]; rfl
      have hw := inR_iff.1 hw
      obtain ⟨m, rfl⟩ := Int.eq_ofNat_of_zero_le hw.1
      have hb : pcB f u m = prot f u m := by rw [pcB, he]; rfl
      rw [he, hb, prot_length] at hR
      have hg1 : (List.map cb u)[1]? = some (cb (u.getD 1 0)) := get_u (by omega)
      have ha : u.getD 1 0 < 256 := getD_lt hu (by omega)
      have hst : (List.map cb u).set 1 (cb (u.getD 1 0 / 16 * 16 + m)) = List.map cb (prot1 u m) := by rw [prot1, List.map_set]
      have hchk := fcheck f (prot1 u m) (prot1_lt hu (by omega)) (by rw [prot1_length]; omega) (by rw [prot1_length]; omega)
      rw [prot1_length] at hchk
      have hst2 : (List.map cb (prot1 u m)).set 0 (cb (sumF f (prot1 u m))) = List.map cb (prot f u m) := by rw [prot, List.map_set]
      refine CallQ.ren [(1, 2), (2, 130)] 131 (bclone u (by omega)) (clB _ _) rfl rfl ⟨⟨_, rfl, wkU _ _ _ _⟩, trivial⟩ rfl (.inl rfl) ?_
      simp only [Mem.ren, List.map_cons, List.map_nil, Bk.ren, List.map_map, V.ren, W.ren, Cv.ren, rn, Nat.reduceBEq, cond_true, cond_false, Function.comp_def]
      simp (config := { maxSteps := 2000000 }) only [go_sem, Nat.reduceBEq, Nat.reduceAdd, Nat.reduceLT, Nat.reduceLeDiff, Nat.reduceEqDiff, reduceCtorEq, Int.reduceAdd, Int.reduceSub, Int.reduceNeg, Int.reduceLE, Int.reduceLT, Int.reduceToNat, Int.reduceBEq, Int.reduceBNe, Int.reduceEq, Int.reduceNe, Int.toNat_zero, Int.toNat_one, bne_self_eq_false, Nat.reduceMul, Nat.zero_mul, Nat.mul_one, Nat.one_mul, Nat.reduceSub, Int.cast_ofNat_Int, Int.toNat_natCast, hg1, orand _ m ha (by omega), hst]
      refine ⟨by omega, by omega, by simp; omega, ?_⟩
      refine CallQ.ren [(1, 1), (2, 130)] 131 hchk (clSU _ _) rfl rfl ⟨⟨_, rfl, wkS _ _ _⟩, ⟨_, rfl, wkU _ _ _ _⟩, trivial⟩ rfl (.inr rfl) ?_
      simp (config := { maxSteps := 2000000 }) only [go_sem, Nat.reduceBEq, Nat.reduceAdd, Nat.reduceLT, Nat.reduceLeDiff, Nat.reduceEqDiff, reduceCtorEq, Int.reduceAdd, Int.reduceSub, Int.reduceNeg, Int.reduceLE, Int.reduceLT, Int.reduceToNat, Int.reduceBEq, Int.reduceBNe, Int.reduceEq, Int.reduceNe, Int.toNat_zero, Int.toNat_one, bne_self_eq_false, Nat.reduceMul, Nat.zero_mul, Nat.mul_one, Nat.one_mul, Nat.reduceSub, Int.cast_ofNat_Int, Int.toNat_natCast, hst2]
      exact ⟨by omega, by simp [prot1_length]; omega, RetQ.ren [(1, 1), (2, 2), (3, 130)] hR hP rfl ⟨rfl, rfl, trivial⟩ rfl rfl ⟨⟨rfl, rfl⟩, ⟨rfl, rfl⟩, trivial⟩ ⟨.inr ⟨_, rfl, .inl (renV (v_u _))⟩, .inr ⟨_, rfl, .inl (renV (v_ss _))⟩, .inr ⟨_, rfl, .inl (renV (v_u _))⟩, trivial⟩ (clP3 f u _) (ClV.of rfl)⟩
theorem rprot (f : Fm) (u : List Nat) (hu : ∀ x ∈ u, x < 256) (h2 : 2 ≤ u.length) (h8 : u.length ≤ 1000) (hid : 0 ≤ f.id ∧ f.id ≤ 2047) (m : Nat) (hm : m ≤ 14) : CallOk Try.prog 25 [fm5 1 f, slV 2 u.length, I m] [bS 1 f.sgs, bBr 2 u] (slV 3 u.length) [bB 3 (prot f u m)] := by
  have hM := clSU f u
  have hg1 : (List.map cb u)[1]? = some (cb (u.getD 1 0)) := get_u (by omega)
  have ha : u.getD 1 0 < 256 := getD_lt hu (by omega)
  have hst : (List.map cb u).set 1 (cb (u.getD 1 0 / 16 * 16 + m)) = List.map cb (prot1 u m) := by rw [prot1, List.map_set]
  have hsm := rsum f (prot1 u m) (prot1_lt hu (by omega)) (by rw [prot1_length]; omega) (by rw [prot1_length]; omega) hid
  rw [prot1_length] at hsm
  have hst2 : (List.map cb (prot1 u m)).set 0 (cb (sumF f (prot1 u m))) = List.map cb (prot f u m) := by rw [prot, List.map_set]
  have htk : List.take u.length (List.map cb u) = List.map cb u := List.take_of_length_le (by simp)
  have hv : IntKind.u8.wrap (IntKind.u8.wrap (IntKind.u8.wrap ((u.getD 1 0 : Int).tdiv 16) * 16) + IntKind.u8.wrap (m : Int)) = ((u.getD 1 0 / 16 * 16 + m : Nat) : Int) := by
    rw [Int.tdiv_eq_ediv_of_nonneg (Int.natCast_nonneg _)]
    generalize u.getD 1 0 = a at *
    simp only [IntKind.wrap_u8]; omega
  refine CallOk.mkN 100 Try.func25 rfl en25 (by simp [Try.ntmps25]) (ClA.of rfl) rfl rfl fun C hR hP => ?_
  simp (config := { maxSteps := 2000000 }) only [go_sem, Nat.reduceBEq, Nat.reduceAdd, Nat.reduceLT, Nat.reduceLeDiff, Nat.reduceEqDiff, reduceCtorEq, Int.reduceAdd, Int.reduceSub, Int.reduceNeg, Int.reduceLE, Int.reduceLT, Int.reduceToNat, Int.reduceBEq, Int.reduceBNe, Int.reduceEq, Int.reduceNe, Int.toNat_zero, Int.toNat_one, bne_self_eq_false, Nat.reduceMul, Nat.zero_mul, Nat.mul_one, Nat.one_mul, Nat.reduceSub, Int.cast_ofNat_Int, Int.toNat_natCast, htk, hg1, hv, hst]
  refine ⟨⟨⟨by simp, one_u u⟩, by omega, by omega⟩, by omega, by omega, by simp; omega, ?_⟩
  refine CallQ.ren [(1, 1), (2, 102)] 131 hsm (clSU _ _) rfl rfl ⟨⟨_, rfl, wkS _ _ _⟩, ⟨_, rfl, wkU _ _ _ _⟩, trivial⟩ rfl (.inr rfl) ?_
  simp (config := { maxSteps := 2000000 }) only [go_sem, Nat.reduceBEq, Nat.reduceAdd, Nat.reduceLT, Nat.reduceLeDiff, Nat.reduceEqDiff, reduceCtorEq, Int.reduceAdd, Int.reduceSub, Int.reduceNeg, Int.reduceLE, Int.reduceLT, Int.reduceToNat, Int.reduceBEq, Int.reduceBNe, Int.reduceEq, Int.reduceNe, Int.toNat_zero, Int.toNat_one, bne_self_eq_false, Nat.reduceMul, Nat.zero_mul, Nat.mul_one, Nat.one_mul, Nat.reduceSub, Int.cast_ofNat_Int, Int.toNat_natCast, hst2]
  exact ⟨by omega, by simp [prot1_length]; omega, RetQ.ren [(1, 1), (2, 2), (3, 102)] hR hP rfl ⟨rfl, trivial⟩ rfl rfl ⟨⟨rfl, rfl⟩, ⟨rfl, rfl⟩, trivial⟩ ⟨.inr ⟨_, rfl, .inl (renV (v_u _))⟩, .inr ⟨_, rfl, .inl (renV (v_ss _))⟩, .inr ⟨_, rfl, .inl (renV (v_u _))⟩, trivial⟩ (clP3 f u _) (ClV.of rfl)⟩
end Go.Proofs.Ytcdclmelnnbdnaa
