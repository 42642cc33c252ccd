/- From a contract of a law to the given statement: arguments of plain data opened, carried over, shut. -/
import Derived.Test.YtnolflocgodffaaC2
import Derived.Test.YtnolflocgodffaaRows
import Derived.ProofKit
import Derived.Below
import Derived.Carry
import Derived.ChangeSame
import Derived.Lib.SmallJoins
namespace Go.Proofs.Ytnolflocgodffaa
open Go.ChangeShapes Go.WideShapes Go.ChangeAt Go.RowKit
open Vg Tf
set_option linter.unusedSimpArgs false
set_option linter.unusedVariables false
set_option maxRecDepth 100000
/-- A place for the names, of no weight. -/
def b0 : Vl := fun _ => ⟨0, 0, 0, false⟩
theorem CallOk.calls {P : Program} {f : FuncId} {args : List V} {v : V} (h : CallOk P f args [] v []) (W : World) :
    Calls P f (args.map (V.g b0)).toArray W fun e W' => e = .returned (v.g b0) ∧ Below W.heap.size W W' := by
  refine (h.2.2.2 b0 W ⟨fun _ _ n b hb => by simp [Mem.get] at hb, fun n b hb => by simp [Mem.get] at hb, fun n m b b' hb => by simp [Mem.get] at hb⟩).mono ?_
  rintro e W' ⟨β', _, hen, _, hfr, _⟩
  exact ⟨hen b0 (fun n hn => by simp [Mem.get] at hn), hfr.os, hfr.tape, hfr.output, hfr.size, fun k hk => hfr.old k (fun n b hb => by simp [Mem.get] at hb) hk⟩
section
variable {H : Type} {enc : TypeId × Value → H} {P : Program}
theorem trodAll_stays (hl : laidOutB P = true) {W W' : World} {sp : Nat → Bool} (hb : Below W.heap.size W W') : ∀ {ts : List TypeId} {vs : List Value} {ds : List (DataW H)} {ps : List MemPlace},
    (∀ t ∈ ts, P.readableRec t = true ∧ t < P.types.size) → DataW.TrodAll enc P W 0 (fun _ => true) true ts vs ds ps → (∀ p ∈ ps, p.block < W.heap.size) → (∀ p ∈ ps, sp p.block = true) →
    DataW.TrodAll enc P W' 0 sp true ts vs ds ps
  | [], vs, ds, ps, _, h, _, _ => by
    cases vs <;> cases ds <;> simp_all [DataW.TrodAll]
  | t :: ts, vs, ds, ps, hr, h, hlt, hs => by
    obtain ⟨v, vs', d, ds', p, q, rfl, rfl, rfl, hd, hrest⟩ := trodAll_cons h
    refine ⟨p, q, WideElems.Trod_stays hl (hr t (by simp)).1 (hr t (by simp)).2 hd (fun x hx => hb.same (hlt x (by simp [hx]))) (fun x hx => hs x (by simp [hx])), ?_, rfl⟩
    exact trodAll_stays hl hb (fun t' ht' => hr t' (by simp [ht'])) hrest (fun x hx => hlt x (by simp [hx])) (fun x hx => hs x (by simp [hx]))
theorem post_of_below {f : Func} {s : ChangeSpec} {apart fresh handsOn again : Bool} {W W' : World} {args : Array Value} {v : Value} {ds gs : List (DataW H)} {before pa pv : List MemPlace}
    (hW : DataW.Whole enc P f.params.toList s.vars apart W args.toList ds gs before)
    (hres : ∀ (b : Nat) (sp : Nat → Bool) (hd : Bool), DataW.TrodAll enc P W' b sp hd f.resultTypes.toList (v.resultList f.resultTypes.size) (s.fn H (ds ++ gs)).results [])
    (hargs : ∀ sp : Nat → Bool, (∀ p ∈ before, sp p.block = true) → DataW.TrodAll enc P W' 0 sp true f.params.toList args.toList (s.fn H (ds ++ gs)).args pa)
    (hvars : ∀ sp : Nat → Bool, (∀ p ∈ before, sp p.block = true) → DataW.TrodVars enc P W' sp s.vars (s.fn H (ds ++ gs)).vars pv)
    (hps : before = pa ++ pv) (hb : Below W.heap.size W W')
    (hok : ∀ (j : Nat) (t : TypeId) (r : Value), f.resultTypes[j]? = some t → (v.resultList f.resultTypes.size)[j]? = some r → Value.okWide P W' .any 0 t r) :
    s.post enc P f apart fresh handsOn again W args v W' := by
  have hlt : ∀ p ∈ before, p.block < W.heap.size := fun p hp => hW.lt p hp
  have hold : ∀ p ∈ before, (fun b => decide (b < W.heap.size)) p.block = true := fun p hp => by simpa using hlt p hp
  refine ⟨ds, gs, before, [], pa, pv, hW, hres _ _ _, hargs _ hold, hvars _ hold, World.keptBut_mono (fun p hp => ⟨hp, ?_⟩) (hb.frame (· ∈ before)), fun _ => ?_⟩
  · rw [hps, List.mem_append] at hp
    exact Or.inr hp
  · obtain ⟨_, _, _, _, _, hz, hn⟩ := hW
    refine ⟨hok, _, _, ([] ++ pa) ++ pv, ⟨[] ++ pa, pv, trodAll_append (hargs _ (fun _ _ => rfl)) (hres _ _ _), hvars _ (fun _ _ => rfl), rfl, ?_, ?_⟩, ?_⟩
    · intro b off hp
      have hin : MemPlace.cell b off ∈ before := by rw [hps]; simpa using hp
      rw [hb.frozen (hlt _ hin)]
      exact hz b off hin
    · intro ha
      have := hn ha
      rw [hps] at this
      simpa using this
    · intro p hp _
      rw [hps]
      simpa using hp
/-- The last step of a law: it returned true, and nothing old has changed. -/
theorem law_post {f : Func} {s : ChangeSpec} {apart fresh handsOn again : Bool} {W W' : World} {args : Array Value} {ds gs : List (DataW H)} {before : List MemPlace} {tb : TypeId}
    (hl : laidOutB P = true) (hp : ∀ t ∈ f.params.toList, P.readableRec t = true ∧ t < P.types.size) (hr : f.resultTypes = #[tb]) (hb4 : P.underlying tb = some .bool) (hvars : s.vars = [])
    (hW : DataW.Whole enc P f.params.toList s.vars apart W args.toList ds gs before) (hfn : s.fn H ds = { results := [.lit (.bool true)], args := ds }) (hb : Below W.heap.size W W') :
    s.post enc P f apart fresh handsOn again W args (.bool true) W' := by
  have hW' := hW
  obtain ⟨p, q, hA, hV, rfl, hfz, hnd⟩ := hW
  rw [hvars] at hV
  obtain ⟨rfl, rfl⟩ := trodVars_none hV
  have hlt : ∀ x ∈ p, x.block < W.heap.size := fun x hx => hW'.lt x (by simp [hx])
  refine post_of_below (pa := p) (pv := []) hW' (fun b sp hd => ?_) (fun sp hsp => ?_) (fun sp hsp => ?_) rfl hb (ok_one hr rfl (okWide_bool_mk hb4 _))
  · rw [List.append_nil, hfn, hr]
    exact trodAll_mk1 (shut_bool hb4 _)
  · rw [List.append_nil, hfn]
    exact trodAll_stays hl hb hp hA hlt (fun x hx => hsp x (by simp [hx]))
  · rw [List.append_nil, hfn, hvars]
    rfl
end
section
variable {H : Type} {enc : TypeId × Value → H} {w : World} {base : Nat} {spare : Nat → Bool} {held : Bool} {r : Reach} {n0 : Nat} {v : Value} {d : DataW H} {p : List MemPlace}
theorem bdOf {n : Int} (h : (Lit.int .i64 n).wf = true) : -9223372036854775808 ≤ n ∧ n ≤ 9223372036854775807 := by
  simp [Lit.wf, IntKind.min, IntKind.max, IntKind.signed, IntKind.bits] at h
  omega
theorem cells23 : Try.prog.cellsOf 23 = 5 := by kernel_rfl
theorem cells25 : Try.prog.cellsOf 25 = 10 := by kernel_rfl
theorem cells51 : Try.prog.cellsOf 51 = 2 := by kernel_rfl
theorem cells3 : Try.prog.cellsOf 3 = 1 := by kernel_rfl
theorem cells4 : Try.prog.cellsOf 4 = 1 := by kernel_rfl
theorem int_at {fuel : Nat} {c : Value} {x : Option (DataW H × List MemPlace)} (h : DataW.trod enc Try.prog w base spare held fuel 3 [c] = x) (hx : x.isSome = true) : ∃ n, c = .int .i64 n ∧ -9223372036854775808 ≤ n ∧ n ≤ 9223372036854775807 := by
  obtain ⟨y, rfl⟩ := Option.isSome_iff_exists.1 hx
  obtain ⟨n, hn, _, hw⟩ := DataW.trod_int Try.underlying3 h
  exact ⟨n, by simpa using hn, bdOf hw⟩
theorem bool_at {fuel : Nat} {c : Value} {x : Option (DataW H × List MemPlace)} (h : DataW.trod enc Try.prog w base spare held fuel 4 [c] = x) (hx : x.isSome = true) : ∃ n, c = .bool n := by
  obtain ⟨y, rfl⟩ := Option.isSome_iff_exists.1 hx
  obtain ⟨n, hn, _⟩ := DataW.trod_bool Try.underlying4 h
  exact ⟨n, by simpa using hn⟩
theorem isSome_at {α : Type} {l : List α} {k n : Nat} (h : l.length = n) (hk : k < n) : (l[k]?).isSome = true := by
  rw [List.getElem?_eq_getElem (by omega)]; rfl
/-- All the numbers of a type lie in 64 bits. -/
def Ft.bd (t : Ft) : Prop := ∀ x ∈ [t.bits, t.num, t.off, t.den, t.m, t.kg, t.s, t.a, t.k], -9223372036854775808 ≤ x ∧ x ≤ 9223372036854775807
theorem open_fixed (hv : Value.okWide Try.prog w r n0 25 v) (h : DataW.Trod enc Try.prog w base spare held 25 v d p) : ∃ t : Ft, v = V.g b0 (fx t) ∧ t.bd := by
  obtain ⟨cs, rfl, hsz⟩ := okWide_struct Try.underlying25 hv
  obtain ⟨l⟩ := cs
  match l, hsz.trans cells25 with
  | [c0, c1, c2, c3, c4, c5, c6, c7, c8, c9], _ =>
    obtain ⟨fuel, hf⟩ := h
    obtain ⟨xs, n, _, hx, _, hlen, hg⟩ := DataW.trod_struct Try.underlying25 hf
    have g0 := hg 0 _ rfl
    have g1 := hg 1 _ rfl
    have g2 := hg 2 _ rfl
    have g3 := hg 3 _ rfl
    have g4 := hg 4 _ rfl
    have g5 : DataW.trod enc Try.prog w base spare held n 23 [c5, c6, c7, c8, c9] = xs[5]? := by simpa [Value.cells, cells23] using hg 5 _ rfl
    simp only [Value.cells, cells3, cells4, cells23, List.drop_succ_cons, List.drop_zero, List.take_succ_cons, List.take_zero, List.take_nil] at g0 g1 g2 g3 g4
    obtain ⟨a0, rfl, k0⟩ := int_at g0 (isSome_at hlen (by decide))
    obtain ⟨a1, rfl⟩ := bool_at g1 (isSome_at hlen (by decide))
    obtain ⟨a2, rfl, k2⟩ := int_at g2 (isSome_at hlen (by decide))
    obtain ⟨a3, rfl, k3⟩ := int_at g3 (isSome_at hlen (by decide))
    obtain ⟨a4, rfl, k4⟩ := int_at g4 (isSome_at hlen (by decide))
    obtain ⟨y, hy⟩ := Option.isSome_iff_exists.1 (isSome_at (k := 5) hlen (by decide))
    rw [hy] at g5
    obtain ⟨ys, m, _, hy', _, hlen', hg'⟩ := DataW.trod_struct Try.underlying23 g5
    have e0 : DataW.trod enc Try.prog w base spare held m 3 [c5] = ys[0]? := by simpa [cells3] using hg' 0 _ rfl
    have e1 : DataW.trod enc Try.prog w base spare held m 3 [c6] = ys[1]? := by simpa [cells3] using hg' 1 _ rfl
    have e2 : DataW.trod enc Try.prog w base spare held m 3 [c7] = ys[2]? := by simpa [cells3] using hg' 2 _ rfl
    have e3 : DataW.trod enc Try.prog w base spare held m 3 [c8] = ys[3]? := by simpa [cells3] using hg' 3 _ rfl
    have e4 : DataW.trod enc Try.prog w base spare held m 3 [c9] = ys[4]? := by simpa [cells3] using hg' 4 _ rfl
    obtain ⟨b0', rfl, l0⟩ := int_at e0 (isSome_at hlen' (by decide))
    obtain ⟨b1, rfl, l1⟩ := int_at e1 (isSome_at hlen' (by decide))
    obtain ⟨b2, rfl, l2⟩ := int_at e2 (isSome_at hlen' (by decide))
    obtain ⟨b3, rfl, l3⟩ := int_at e3 (isSome_at hlen' (by decide))
    obtain ⟨b4, rfl, l4⟩ := int_at e4 (isSome_at hlen' (by decide))
    refine ⟨⟨a0, a1, a2, a3, a4, b0', b1, b2, b3, b4⟩, rfl, ?_⟩
    intro x hx
    simp only [List.mem_cons, List.not_mem_nil, or_false] at hx
    rcases hx with rfl | rfl | rfl | rfl | rfl | rfl | rfl | rfl | rfl <;> assumption
theorem open_ratio (hv : Value.okWide Try.prog w r n0 51 v) (h : DataW.Trod enc Try.prog w base spare held 51 v d p) : ∃ a b : Int, v = V.g b0 (ra a b) ∧ (-9223372036854775808 ≤ a ∧ a ≤ 9223372036854775807) ∧ (-9223372036854775808 ≤ b ∧ b ≤ 9223372036854775807) := by
  obtain ⟨cs, rfl, hsz⟩ := okWide_struct Try.underlying51 hv
  obtain ⟨l⟩ := cs
  match l, hsz.trans cells51 with
  | [c0, c1], _ =>
    obtain ⟨fuel, hf⟩ := h
    obtain ⟨xs, n, _, hx, _, hlen, hg⟩ := DataW.trod_struct Try.underlying51 hf
    have g0 := hg 0 _ rfl
    have g1 := hg 1 _ rfl
    simp only [Value.cells, cells3, List.drop_succ_cons, List.drop_zero, List.take_succ_cons, List.take_zero, List.take_nil] at g0 g1
    obtain ⟨a0, rfl, k0⟩ := int_at g0 (isSome_at hlen (by decide))
    obtain ⟨a1, rfl, k1⟩ := int_at g1 (isSome_at hlen (by decide))
    exact ⟨a0, a1, rfl, k0, k1⟩
theorem open_i (hv : Value.okWide Try.prog w r n0 3 v) (h : DataW.Trod enc Try.prog w base spare held 3 v d p) : ∃ a : Int, v = V.g b0 (I a) ∧ (-9223372036854775808 ≤ a ∧ a ≤ 9223372036854775807) := by
  obtain ⟨n, rfl, _, _, hw⟩ := open_int Try.underlying3 hv h
  exact ⟨n, rfl, bdOf hw⟩
end
theorem own : ownKnob Try.prog.godebug = none := by kernel_rfl
theorem laidOut : laidOutB Try.prog = true := by kernel_rfl
theorem rd25 : Try.prog.readableRec 25 = true ∧ 25 < Try.prog.types.size := ⟨by kernel_rfl, by decide +kernel⟩
theorem rd51 : Try.prog.readableRec 51 = true ∧ 51 < Try.prog.types.size := ⟨by kernel_rfl, by decide +kernel⟩
theorem rd3 : Try.prog.readableRec 3 = true ∧ 3 < Try.prog.types.size := ⟨by kernel_rfl, by decide +kernel⟩
end Go.Proofs.Ytnolflocgodffaa
