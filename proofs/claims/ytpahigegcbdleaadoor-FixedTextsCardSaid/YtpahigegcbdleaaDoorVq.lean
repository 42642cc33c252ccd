/- '==' of structs, whatever their fields: cell by cell. -/
import Derived.Test.YtpahigegcbdleaaDoorVh
import Derived.Laws.StructEq
namespace Go.Proofs.YtpahigegcbdleaaDoor
namespace Vg
open Go.RowKit
inductive Lk where
  | i (k : IntKind)
  | b
  | s
def lfF (P : Program) (lf : TypeId → Option (List Lk)) : Nat → List Field → Option (List Lk)
  | _, [] => some []
  | off, f :: fs =>
    match f.name == "_" || f.offset != off with
    | true => none
    | false => match lf f.type with
      | none => none
      | some ks => match szOf P f.type == ks.length && !ks.isEmpty with
        | false => none
        | true => match lfF P lf (off + ks.length) fs with
          | some r => some (ks ++ r)
          | none => none
def lfOf (P : Program) : Nat → TypeId → Option (List Lk)
  | 0, _ => none
  | d + 1, t => match P.underlying t with
    | some (.int k) => some [.i k]
    | some .bool => some [.b]
    | some .string => some [.s]
    | some (.struct fs) => match P.stoodInHeld t with
      | true => none
      | false => lfF P (lfOf P d) 0 fs.toList
    | _ => none
def okL : List Lk → List Cv → Bool
  | [], [] => true
  | .i k :: ks, .v (.int k' _) :: cs => decide (k = k') && okL ks cs
  | .b :: ks, .v (.bool _) :: cs => okL ks cs
  | .s :: ks, .v (.string _) :: cs => okL ks cs
  | _, _ => false
theorem okL_length : ∀ {ks : List Lk} {cs : List Cv}, okL ks cs = true → cs.length = ks.length
  | [], [], _ => rfl
  | [], _ :: _, h => by simp [okL] at h
  | k :: ks, [], h => by cases k <;> simp [okL] at h
  | k :: ks, c :: cs, h => by
    have : okL ks cs = true := by
      cases c with
      | v x => cases k <;> cases x <;> simp [okL] at h <;> first | exact h | exact h.2
      | p _ _ => cases k <;> simp [okL] at h
      | sl _ _ _ _ => cases k <;> simp [okL] at h
      | fn _ _ => cases k <;> simp [okL] at h
      | s0 _ _ => cases k <;> simp [okL] at h
    simp [okL_length this]
theorem okL_append : ∀ {ks r : List Lk} {cs : List Cv}, okL (ks ++ r) cs = true → okL ks (cs.take ks.length) = true ∧ okL r (cs.drop ks.length) = true
  | [], r, cs, h => by simpa [okL] using h
  | k :: ks, r, [], h => by cases k <;> simp [okL] at h
  | k :: ks, r, c :: cs, h => by
    simp only [List.length_cons, List.take_succ_cons, List.drop_succ_cons]
    simp only [List.cons_append] at h
    cases c with
    | v x =>
      cases k <;> cases x <;> simp [okL] at h ⊢
      · obtain ⟨h1, h2⟩ := h
        have := okL_append h2
        exact ⟨⟨h1, this.1⟩, this.2⟩
      · exact okL_append h
      · exact okL_append h
    | p _ _ => cases k <;> simp [okL] at h
    | sl _ _ _ _ => cases k <;> simp [okL] at h
    | fn _ _ => cases k <;> simp [okL] at h
    | s0 _ _ => cases k <;> simp [okL] at h
theorem eqC_append : ∀ {xs ys xs' ys' : List Cv} {t t' : Bool}, eqC xs ys = some t → eqC xs' ys' = some t' → eqC (xs ++ xs') (ys ++ ys') = some (t && t')
  | [], ys, xs', ys', t, t', h, h' => by
    cases ys with
    | nil => simp [eqC] at h; subst h; simpa using h'
    | cons y ys => simp [eqC] at h
  | x :: xs, [], xs', ys', t, t', h, h' => by
    cases x with
    | v v => cases v <;> simp [eqC] at h
    | p _ _ => simp [eqC] at h
    | sl _ _ _ _ => simp [eqC] at h
    | fn _ _ => simp [eqC] at h
    | s0 _ _ => simp [eqC] at h
  | x :: xs, y :: ys, xs', ys', t, t', h, h' => by
    simp only [List.cons_append]
    unfold eqC at h ⊢
    split at h <;> first | (cases h; done) | skip
    · rename_i hx hy; simp at hx
    all_goals
      rename_i hx hy
      simp only [List.cons.injEq] at hx hy
      obtain ⟨rfl, rfl⟩ := hx
      obtain ⟨rfl, rfl⟩ := hy
      split at h <;> simp at h
      rename_i u hu
      subst h
      simp only [eqC_append hu h', Bool.and_assoc]
theorem eqC_some : ∀ {ks : List Lk} {xs ys : List Cv}, okL ks xs = true → okL ks ys = true → ∃ t, eqC xs ys = some t
  | [], [], [], _, _ => ⟨true, rfl⟩
  | [], _ :: _, _, h, _ => by simp [okL] at h
  | [], [], _ :: _, _, h => by simp [okL] at h
  | k :: ks, [], _, h, _ => by cases k <;> simp [okL] at h
  | k :: ks, _ :: _, [], _, h => by cases k <;> simp [okL] at h
  | k :: ks, x :: xs, y :: ys, h, h' => by
    cases x with
    | v x =>
      cases y with
      | v y =>
        cases k <;> cases x <;> simp [okL] at h <;> cases y <;> simp [okL] at h'
        · obtain ⟨t, ht⟩ := eqC_some h.2 h'.2
          exact ⟨_, by simp only [eqC, ht]; rfl⟩
        · obtain ⟨t, ht⟩ := eqC_some h h'
          exact ⟨_, by simp only [eqC, ht]; rfl⟩
        · obtain ⟨t, ht⟩ := eqC_some h h'
          exact ⟨_, by simp only [eqC, ht]; rfl⟩
      | p _ _ => cases k <;> simp [okL] at h'
      | sl _ _ _ _ => cases k <;> simp [okL] at h'
      | fn _ _ => cases k <;> simp [okL] at h'
      | s0 _ _ => cases k <;> simp [okL] at h'
    | p _ _ => cases k <;> simp [okL] at h
    | sl _ _ _ _ => cases k <;> simp [okL] at h
    | fn _ _ => cases k <;> simp [okL] at h
    | s0 _ _ => cases k <;> simp [okL] at h
/-- The value of a type that the cells are. -/
def mkC (P : Program) (β : Vl) (t : TypeId) (xs : List Cv) : Value :=
  match aggOf P t with
  | some true => .agg (xs.map (Cv.g β)).toArray
  | _ => match xs with
    | [x] => x.g β
    | _ => undef
theorem part_ok {P : Program} {β : Vl} {t : TypeId} {ks : List Lk} {d : Nat} (hl : lfOf P d t = some ks) (hz : szOf P t = ks.length) (h0 : ks ≠ []) {cs : List Cv} {off : Nat} (hc : okL ks ((cs.drop off).take ks.length) = true) (w : World) :
    (part t (cs.map (Cv.g β)).toArray off).run P w = .ok (mkC P β t ((cs.drop off).take ks.length)) w := by
  have hlen := okL_length hc
  cases d with
  | zero => cases hl
  | succ d =>
    simp only [lfOf] at hl
    have leaf : aggOf P t = some false → ks.length = 1 → (part t (cs.map (Cv.g β)).toArray off).run P w = .ok (mkC P β t ((cs.drop off).take ks.length)) w := by
      intro ha h1
      rw [h1] at hlen ⊢
      match hx : (cs.drop off).take 1, hlen with
      | [x], _ =>
        have hget : cs[off]? = some x := by
          have := congrArg (·[0]?) hx
          simp [List.getElem?_take, List.getElem?_drop] at this
          exact this
        simp only [part, Sem.run_bind, run_isAgg_no ha, Result.andThen_ok, Bool.false_eq_true, if_false, Sem.run_ite]
        simp [hget, mkC, ha]
    split at hl
    · simp at hl; subst hl; rename_i hu; exact leaf (by simp [aggOf, hu]) rfl
    · simp at hl; subst hl; rename_i hu; exact leaf (by simp [aggOf, hu]) rfl
    · simp at hl; subst hl; rename_i hu; exact leaf (by simp [aggOf, hu]) rfl
    · rename_i fs hu
      have ha : aggOf P t = some true := by simp [aggOf, hu]
      have hagg : (isAgg t).run P w = .ok true w := by
        unfold isAgg
        rw [Sem.run_bind, run_underlying hu w]
        rfl
      have hs := run_sizeOf' (P := P) (t := t) hz (by simpa using h0) w
      simp only [part, Sem.run_bind, hagg, Result.andThen_ok, if_true, Sem.run_ite, hs]
      simp [mkC, ha, List.extract_eq_take_drop, List.map_take, List.map_drop]
    · cases hl
theorem eqAt {P : Program} (β : Vl) : ∀ (d : Nat) (t : TypeId) (ks : List Lk), lfOf P d t = some ks → ∀ (D : Nat), d ≤ D → ∀ (xs ys : List Cv) (r : Bool) (w : World), okL ks xs = true → okL ks ys = true → eqC xs ys = some r →
    (Op.equalIn D t (mkC P β t xs) (mkC P β t ys)).run P w = .ok r w
  | 0, t, ks, h, D, _, xs, ys, r, w, _, _, _ => by cases h
  | d + 1, t, ks, h, 0, hD, xs, ys, r, w, _, _, _ => by omega
  | d + 1, t, ks, h, D + 1, hD, xs, ys, r, w, hx, hy, he => by
    simp only [lfOf] at h
    split at h
    · rename_i k hu
      simp at h; subst h
      have ha : aggOf P t = some false := by simp [aggOf, hu]
      match xs, ys, hx, hy, he with
      | [.v (.int k1 a)], [.v (.int k2 b)], hx, hy, he =>
        simp [okL] at hx hy
        subst hx hy
        simp [eqC] at he
        subst he
        simp only [mkC, ha, Cv.g]
        rw [run_equalIn_int w D t k k a b hu]
      | [], _, hx, _, _ => simp [okL] at hx
      | [.v (.int _ _)], [], _, hy, _ => simp [okL] at hy
      | _ :: _ :: _, _, hx, _, _ => have := okL_length hx; simp at this
      | [.v (.int _ _)], _ :: _ :: _, _, hy, _ => have := okL_length hy; simp at this
    · rename_i hu
      simp at h; subst h
      have ha : aggOf P t = some false := by simp [aggOf, hu]
      match xs, ys, hx, hy, he with
      | [.v (.bool a)], [.v (.bool b)], hx, hy, he =>
        simp [eqC] at he
        subst he
        simp only [mkC, ha, Cv.g]
        rw [run_equalIn_bool' w D t a b hu]
      | [], _, hx, _, _ => simp [okL] at hx
      | [.v (.bool _)], [], _, hy, _ => simp [okL] at hy
      | _ :: _ :: _, _, hx, _, _ => have := okL_length hx; simp at this
      | [.v (.bool _)], _ :: _ :: _, _, hy, _ => have := okL_length hy; simp at this
    · rename_i hu
      simp at h; subst h
      have ha : aggOf P t = some false := by simp [aggOf, hu]
      match xs, ys, hx, hy, he with
      | [.v (.string a)], [.v (.string b)], hx, hy, he =>
        simp [eqC] at he
        subst he
        simp only [mkC, ha, Cv.g]
        rw [run_equalIn_string w D t a b hu]
      | [], _, hx, _, _ => simp [okL] at hx
      | [.v (.string _)], [], _, hy, _ => simp [okL] at hy
      | _ :: _ :: _, _, hx, _, _ => have := okL_length hx; simp at this
      | [.v (.string _)], _ :: _ :: _, _, hy, _ => have := okL_length hy; simp at this
    · rename_i fs hu
      split at h <;> first | (cases h; done) | skip
      rename_i hst
      have ha : aggOf P t = some true := by simp [aggOf, hu]
      have hfo : P.fieldsOf t = fs := by simp [Program.fieldsOf, hu]
      simp only [mkC, ha]
      rw [run_equalIn_struct w D t _ _ (by rw [hfo]; exact hu) hst, hfo]
      -- field by field
      have go : ∀ (l : List Field) (off : Nat) (ks : List Lk) (r : Bool), lfF P (lfOf P d) off l = some ks → okL ks (xs.drop off) = true → okL ks (ys.drop off) = true → eqC (xs.drop off) (ys.drop off) = some r →
          (Op.eqFields D (xs.map (Cv.g β)).toArray (ys.map (Cv.g β)).toArray l).run P w = .ok r w := by
        intro l
        induction l with
        | nil =>
          intro off ks r h hx hy he
          simp [lfF] at h
          subst h
          have e1 := List.eq_nil_of_length_eq_zero (okL_length hx)
          have e2 := List.eq_nil_of_length_eq_zero (okL_length hy)
          rw [e1, e2] at he
          simp [eqC] at he
          subst he
          simp [Op.eqFields]
        | cons f l ih =>
          intro off ks r h hx hy he
          simp only [lfF] at h
          split at h <;> first | (cases h; done) | skip
          rename_i hname
          simp only [Bool.or_eq_false_iff, beq_eq_false_iff_ne, bne_eq_false_iff_eq] at hname
          obtain ⟨hnm, hoff⟩ := hname
          split at h <;> first | (cases h; done) | skip
          rename_i ks1 hk1
          split at h <;> first | (cases h; done) | skip
          rename_i hsz
          simp only [Bool.and_eq_true, beq_iff_eq, Bool.not_eq_true', List.isEmpty_eq_false_iff] at hsz
          split at h <;> simp at h
          rename_i ks2 hk2
          subst h
          obtain ⟨x1, x2⟩ := okL_append hx
          obtain ⟨y1, y2⟩ := okL_append hy
          obtain ⟨t1, ht1⟩ := eqC_some x1 y1
          obtain ⟨t2, ht2⟩ := eqC_some x2 y2
          have hap := eqC_append ht1 ht2
          rw [List.take_append_drop, List.take_append_drop, he] at hap
          simp at hap
          subst hap
          rw [List.drop_drop] at x2 y2 ht2
          rw [List.drop_drop] at ht2
          have hih := ih (off + ks1.length) ks2 t2 hk2 x2 y2 ht2
          have p1 := part_ok (β := β) hk1 hsz.1 hsz.2 x1 w
          have p2 := part_ok (β := β) hk1 hsz.1 hsz.2 y1 w
          have q := eqAt β d f.type ks1 hk1 D (by omega) _ _ t1 w x1 y1 ht1
          rw [← hoff] at p1 p2
          simp only [Op.eqFields, ne_eq, hnm, not_false_eq_true, if_true, Sem.run_bind]
          rw [hoff] at p1 p2 ⊢
          rw [p1]
          simp only [Result.andThen_ok]
          rw [p2]
          simp only [Result.andThen_ok]
          rw [q]
          simp only [Result.andThen_ok]
          cases t1 with
          | false => simp
          | true => simp [hih]
      exact go fs.toList 0 ks r h (by simpa using hx) (by simpa using hy) (by simpa using he)
    · cases h
theorem EqOk.of {P : Program} {ty : TypeId} {ks : List Lk} {xs ys : List Cv} {t : Bool} (hl : lfOf P 20 ty = some ks) (ha : aggOf P ty = some true) (hg : P.eqGuardType P.depth ty = false) (hx : okL ks xs = true) (hy : okL ks ys = true) (he : eqC xs ys = some t) : EqOk P ty xs ys t := by
  intro β w ox oy
  have h := eqAt β 20 ty ks hl 10000 (by omega) xs ys t w hx hy he
  simp only [mkC, ha] at h
  constructor
  · rw [Sem.run_bind, run_eqGuard_agg w _ _ _ _ _ _ hg]
    simp only [Result.andThen_ok]
    rw [run_eql_struct, h]
    rfl
  · rw [Sem.run_bind, run_eqGuard_agg w _ _ _ _ _ _ hg]
    simp only [Result.andThen_ok]
    rw [run_neq_struct, h]
    rfl
end Vg
end Go.Proofs.YtpahigegcbdleaaDoor
