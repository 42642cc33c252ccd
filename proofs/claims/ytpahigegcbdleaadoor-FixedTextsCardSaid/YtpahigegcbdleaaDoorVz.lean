/- The machine: function values made, strings as bytes, 's[:0:0]' and what is appended to it. -/
import Derived.Test.YtpahigegcbdleaaDoorVy
import Derived.Lib.ConvBytes
namespace Go.Proofs.YtpahigegcbdleaaDoor
namespace Vg
open Go.RowKit
/-- A generic one: a new block that is only read from now on. -/
theorem Rel.newRo {S : Bs} {w0 w w' : World} {β : Vl} {M : Mem} (h : Rel S w0 β M w) (nm : Nat) (hn : M.get nm = none) (cs : List Cv) (siz : Nat) (el : TypeId) (hcs : ∀ b', Agree M β b' → cs.map (Cv.g b') = cs.map (Cv.g β))
    (hos : w'.os = w.os) (htp : w'.tape = w.tape) (hou : w'.output = w.output) (hsz : w'.heap.size = w.heap.size + 1) (hold : ∀ i, i < w.heap.size → w'.heap[i]? = w.heap[i]?) (hr : w'.rangeAt w.heap.size 0 (cs.map (Cv.g β))) (hl : cs.length ≤ siz) :
    Rel S w0 (fun k => if k = nm then ⟨w.heap.size, 0, siz, false⟩ else β k) ((nm, ⟨true, cs, el⟩) :: M) w' := by
  have hne : ∀ k b, M.get k = some b → k ≠ nm := by rintro k b hk rfl; rw [hn] at hk; cases hk
  refine ⟨⟨hos.trans h.fr.os, htp.trans h.fr.tape, hou.trans h.fr.output, Nat.le_trans h.fr.size (by omega), fun b hS hb => ?_⟩, ⟨fun β' hag n b hb => ?_, fun n b hb hu => ?_, fun n m b b' hb hb' hnm hr hlv hu hu' => ?_⟩, fun n b hb hr hu hS => ?_, fun n l hl => ?_⟩
  · rw [hold b (Nat.lt_of_lt_of_le hb h.fr.size)]; exact h.fr.old b hS hb
  · have hag0 : Agree M β β' := fun k hk => by
      have := hag k (by rw [Mem.get_cons]; split <;> simp_all)
      obtain ⟨b, hb⟩ := Option.isSome_iff_exists.1 hk
      rw [this]; exact if_neg (hne k b hb)
    rw [Mem.get_cons] at hb
    split at hb
    · rename_i hk
      subst hk
      simp at hb
      subst hb
      have hl' : β' n = ⟨w.heap.size, 0, siz, false⟩ := by have := hag n (by rw [Mem.get_cons]; simp); simpa using this
      unfold BkOk
      rw [if_neg (by simp [hl']), if_pos (by simp), hl']
      refine ⟨?_, hl⟩
      rw [hcs β' hag0]
      exact hr
    · have hold' := h.mem.ok β' hag0 n b hb
      cases hu : (β n).nul with
      | true =>
        have hβ := hag0 n (by simp [hb])
        unfold BkOk at hold' ⊢
        rw [if_pos (by rw [hβ]; exact hu)] at hold' ⊢
        exact hold'
      | false =>
        refine hold'.same ?_
        rw [hold _ ?_]
        rw [hag0 n (by simp [hb])]
        exact h.mem.there n b hb hu
  · rw [Mem.get_cons] at hb
    split at hb
    · rename_i hk; simp only [if_pos hk]; omega
    · rename_i hk
      simp only [if_neg hk] at hu ⊢
      have := h.mem.there n b hb hu
      omega
  · rw [Mem.get_cons] at hb hb'
    split at hb
    · rename_i hk
      split at hb'
      · rename_i hk'; omega
      · rename_i hk'
        simp only [if_pos hk, if_neg hk'] at hu' ⊢
        have := h.mem.there m b' hb' hu'
        omega
    · rename_i hk
      split at hb'
      · rename_i hk'
        simp only [if_pos hk', if_neg hk] at hu ⊢
        have := h.mem.there n b hb hu
        omega
      · rename_i hk'
        simp only [if_neg hk', if_neg hk] at hu hu' ⊢
        exact h.mem.apart n m b b' hb hb' hnm hr hlv hu hu'
  · rw [Mem.get_cons] at hb
    split at hb
    · rename_i hk
      simp at hb
      subst hb
      cases hr
    · rename_i hk
      simp only [if_neg hk] at hS hu ⊢
      exact h.own n b hb hr hu hS
  · obtain ⟨p1, p2⟩ := h.pin n l hl
    have hnn : n ≠ nm := by rintro rfl; rw [hn] at p1; cases p1
    exact ⟨by rw [Mem.get_cons, if_neg hnn]; exact p1, by simp only [if_neg hnn]; exact p2⟩
theorem Stp.toBytes {P : Program} {o : Oper} {e : Env} {M : Mem} (nm : Nat) {src dst el : TypeId} {x : Operand} {s : ByteArray} (ho : o.op = .convert src dst x) (hx : rd e x = some (true, .c (.v (.string s)))) (hs : (P.underlying src).isSome = true) (hd : slOf P dst = some (el, 1)) (hk : kiOf P el = some .u8) (hn : M.get nm = none) :
    Stp P o e M (.c (.sl nm 0 s.data.toList.length 1)) [(nm, ⟨true, s.data.toList.map bycell, el⟩)] := by
  intro S w0 β M' a w hsub hfr hrel hok K Q hkk
  have hn' : M'.get nm = none := by
    rcases hfr nm (by simp [Mem.get]) with h | h
    · rw [hn] at h; cases h
    · exact h
  have hne : ∀ j b, M'.get j = some b → j ≠ nm := fun j b hj hh => by rw [hh, hn'] at hj; cases hj
  have hev := hok β (Agree.refl _ _) x (by simp [ho, Op.operands]) _ hx
  simp only [gv, V.g, Cv.g, cond_true] at hev
  obtain ⟨u, hu⟩ := Option.isSome_iff_exists.1 hs
  obtain ⟨hud, _, _⟩ := slOf_ok hd
  have hue : P.underlying el = some (.int .u8) := by
    unfold kiOf at hk
    split at hk <;> simp at hk
    rename_i k' hq
    rw [hq, hk]
  have hrun := Go.Lib.run_convert_string_bytes (P := P) w src dst el s hu hud hue
  have hge := grownCap_ge w s.size 0 el
  have hss : s.size = s.data.toList.length := rfl
  unfold Oper.wp execOp
  simp only [ho, hev, Sem.run_bind, hrun, Result.andThen_ok, Sem.run_pure]
  have hR := hrel.newRo (w' := Go.Lib.bytesWorld w el s) nm hn' (s.data.toList.map bycell) (grownCap w s.size 0 el) el (fun b' _ => by simp [bycell, Cv.g]) rfl rfl rfl (Go.Lib.bytesWorld_size w el s) (fun i hi => Go.Lib.bytesWorld_at_old w el s i hi) (fun j v hj => by
      rw [List.getElem?_map, List.getElem?_map] at hj
      cases hq : s.data.toList[j]? with
      | none => simp [hq] at hj
      | some b =>
        have hlt : j < s.size := by rw [hss]; exact (List.getElem?_eq_some_iff.1 hq).1
        simp only [hq, Option.map_some, Option.some.injEq, bycell, Cv.g] at hj
        rw [Nat.zero_add, Go.Lib.bytesWorld_cell w el s j hlt, ← hj, List.getD_eq_getElem?_getD, hq]
        rfl) (by simp only [List.length_map]; omega)
  refine hkk _ _ _ (fun j hj => ?_) hR (fun β'' hag => ?_)
  · obtain ⟨c, hc⟩ := Option.isSome_iff_exists.1 hj
    exact if_neg (hne j c hc)
  · have := hag nm (by simp [Mem.get])
    simp only [V.g, Cv.g, this, if_true, Bool.false_eq_true, false_and, if_false, Nat.sub_zero, Nat.div_one, Nat.add_zero]
    rw [hss]
theorem Stp.append0 {P : Program} {o : Oper} {e : Env} {M : Mem} (nm : Nat) {s x : Operand} {t tx el : TypeId} {sz k n off : Nat} {news : List Cv} {zs : List Value} {sc : Prop} (ho : o.op = .call { callee := .builtin .append, args := #[s, x], argTypes := #[t, tx] })
    (ht : slOf P t = some (el, sz)) (hz : zeroOf P el = some zs) (hs : rd e s = some (true, .c (.s0 n off))) (hn : M.get nm = none)
    (hsrc : srcE P e M tx sz x = some (sc, k, news)) (hsc : sc) (hk0 : k ≠ 0) (hby : k * byOf P el ≤ 140737488355328) (h63 : k ≤ 9223372036854775807) :
    Stp P o e M (.c (.sl nm 0 k sz)) [(nm, ⟨false, news, el⟩)] := by
  intro S w0 β M' a w hsub hfr hrel hok K Q hk
  have hn' : M'.get nm = none := by
    rcases hfr nm (by simp [Mem.get]) with h | h
    · rw [hn] at h; cases h
    · exact h
  have hne : ∀ j b, M'.get j = some b → j ≠ nm := fun j b hj hh => by rw [hh, hn'] at hj; cases hj
  have hev0 := hok β (Agree.refl _ _) s (by simp [ho, Op.operands, Call.operands]) _ hs
  obtain ⟨A, hev⟩ : ∃ A, a.eval s = .slice A 0 0 := by
    simp only [gv, V.g, Cv.g, cond_true] at hev0
    split at hev0
    · exact ⟨_, hev0⟩
    · exact ⟨_, hev0⟩
  obtain ⟨h1, h2, h3⟩ := srcE_ok hsrc hsc hsub hrel (a := a) (fun β' hag y hy => hok β' hag x (by simp [ho, Op.operands, Call.operands]) y hy)
  obtain ⟨hu, hsz, hsz0⟩ := slOf_ok ht
  obtain ⟨i, z, hi, hz1, hz2, hz3⟩ := zero_info hz
  have hsi : i.size = sz := by rw [← szOf_info hi]; exact hsz
  subst hsi
  have hfc : (Builtin.firstCells i.size 0 (.slice A 0 0)).run P w.drew = .ok ([] : List Value).toArray w.drew := by
    cases A with
    | none => exact run_firstCells_none w.drew i.size 0 0 0
    | some ad =>
      have hl := run_loadCells_list (P := P) w.drew ad [] (by simp)
      simp only [List.length_nil] at hl
      simp [Builtin.firstCells, hl]
  unfold Oper.wp execOp
  have hg := run_append_grow_src (P := P) w t tx o.type el i z hu hi hz1 A 0 0 [] hfc (a.eval x) k _ h1 (by omega) (by omega) (growslice_fits (by omega) (by rw [← byOf_info hi]; simpa using hby))
  simp only [Nat.zero_add, List.nil_append] at hg
  have hge := grownCap_ge w k 0 el
  have hal := (hrel.drew).allocJ nm hn' news (Builtin.zeroCells z.cells (grownCap w k 0 el - k)).toList el h2
  simp only [ho, resolve, invoke, builtin, Sem.run_bind, Sem.run_pure, Result.andThen_ok, List.map_toArray, List.map_cons, List.map_nil, hev, hg]
  have e1 : (news.map (Cv.g β)).toArray ++ Builtin.zeroCells z.cells (grownCap w k 0 el - k) = (news.map (Cv.g β) ++ (Builtin.zeroCells z.cells (grownCap w k 0 el - k)).toList).toArray := by
    apply Array.toList_inj.1
    simp
  rw [e1]
  refine hk (fun j => if j = nm then ⟨w.heap.size, 0, news.length + (Builtin.zeroCells z.cells (grownCap w k 0 el - k)).toList.length, false⟩ else β j) _ _ (fun j hj => ?_) hal (fun β'' hag => ?_)
  · obtain ⟨c, hc⟩ := Option.isSome_iff_exists.1 hj
    exact if_neg (hne j c hc)
  · have := hag nm (by simp [Mem.get])
    simp only [V.g, Cv.g, this, if_true, Bool.false_eq_true, false_and, if_false, Nat.zero_add, Nat.sub_zero]
    rw [zeroCells_len, hz2, h3, ← Nat.add_mul, Nat.mul_div_cancel _ (by omega)]
    congr 1
    omega
def capsE (e : Env) : List Operand → Option (Prop × List (Nat × Nat))
  | [] => some (True, [])
  | x :: r => match rd e x, capsE e r with
    | some (g, .c (.p n off)), some (sc, cs) => some (g = true ∧ sc, (n, off) :: cs)
    | _, _ => none
theorem capsE_ok {e : Env} {β : Vl} {a : Act} : ∀ {l : List Operand} {sc : Prop} {cs : List (Nat × Nat)}, capsE e l = some (sc, cs) → sc → (∀ x, x ∈ l → ∀ y, rd e x = some y → a.eval x = gv β y) → l.map a.eval = cs.map fun c => ptr β c.1 c.2
  | [], sc, cs, h, _, _ => by simp [capsE] at h; simp [h.2]
  | x :: r, sc, cs, h, hs, hop => by
    simp only [capsE] at h
    split at h <;> simp at h
    rename_i g n off sc' cs' hx hr
    obtain ⟨h1, rfl⟩ := h
    have hh := h1.2 hs
    obtain ⟨rfl, hs'⟩ := hh
    have := hop x (by simp) _ hx
    simp only [gv, V.g, Cv.g, cond_true] at this
    simp only [List.map_cons, this, capsE_ok hr hs' (fun y hy => hop y (by simp [hy])), ptr]
def opZ (P : Program) (e : Env) (M : Mem) (nx : Nat) : Op → Option (Prop × V × Mem × Nat)
  | .makeFunc (.func f) first captured => match first.toList, capsE e captured.toList with
    | [], some (sc, caps) => some (sc, .c (.fn f caps), [], nx)
    | _, _ => none
  | .slice ty x lo (some hi) (some mx) => match rd e x with
    | some (gx, .c (.sl n off len esz)) => match slOf P ty, bndE e 0 lo, bndE e 0 (some hi), bndE e 0 (some mx), M.get n with
      | some (_, sz), some (s1, l), some (s2, h), some (s3, m), some b => some (gx = true ∧ sz = esz ∧ s1 ∧ s2 ∧ s3 ∧ l = 0 ∧ h = 0 ∧ m = 0 ∧ off + len * esz ≤ b.cells.length, .c (.s0 n off), [], nx)
      | _, _, _, _, _ => none
    | _ => none
  | .call { callee := .builtin .append, args := as, argTypes := tys } => match as.toList, tys.toList with
    | [s, x], [t, tx] => match rd e s, slOf P t with
      | some (g, .c (.s0 _ _)), some (el, sz) => match zeroOf P el, srcE P e M tx sz x with
        | some _, some (sc, k, news) => some (g = true ∧ (M.get nx).isNone = true ∧ sc ∧ k ≠ 0 ∧ k * byOf P el ≤ 140737488355328 ∧ k ≤ 9223372036854775807, .c (.sl nx 0 k sz), [(nx, ⟨false, news, el⟩)], nx + 1)
        | _, _ => none
      | _, _ => none
    | _, _ => none
  | .convert src dst x => match rdV e x, slOf P dst with
    | some (g, .string s), some (el, sz) => match kiOf P el with
      | some .u8 => some (g = true ∧ sz = 1 ∧ (P.underlying src).isSome = true ∧ (M.get nx).isNone = true, .c (.sl nx 0 s.data.toList.length 1), [(nx, ⟨true, s.data.toList.map bycell, el⟩)], nx + 1)
      | _ => none
    | _, _ => none
  | _ => none
theorem opZ_ok {P : Program} {o : Oper} {e : Env} {M N : Mem} {nx nx' : Nat} {v : V} {sc : Prop} (h : opZ P e M nx o.op = some (sc, v, N, nx')) (hs : sc) : Stp P o e M v N := by
  cases ho : o.op <;> rw [ho] at h <;> simp only [opZ] at h <;> try (cases h; done)
  case makeFunc fn first captured =>
    cases fn <;> simp only at h <;> try (cases h; done)
    split at h <;> simp at h
    rename_i f sc' caps hf hc
    obtain ⟨h1, rfl, rfl, rfl⟩ := h
    have hsc := h1.2 hs
    exact Stp.pure fun β a hop w => by
      have hcap := capsE_ok hc hsc (a := a) (β := β) (fun y hy z hz => hop y (by simp only [ho, Op.operands]; simp at hy; simp [hy]) z hz)
      have hfe : first = #[] := by simpa using hf
      subst hfe
      have hca : captured.map a.eval = (caps.map fun c => ptr β c.1 c.2).toArray := by
        apply Array.toList_inj.1
        rw [Array.toList_map, hcap]
      unfold execOp
      simp [ho, Instr.makeFunc, hca, V.g, Cv.g]
  case slice ty x lo hi mx =>
    cases hi with
    | none => cases h
    | some hi =>
    cases mx with
    | none => cases h
    | some mx =>
    simp only at h
    split at h <;> first | (cases h; done) | skip
    rename_i gx n off len esz hx
    split at h <;> simp at h
    rename_i el sz s1 l s2 hh s3 m b hsl h1 h2 h3 hb
    obtain ⟨k1, rfl, rfl, rfl⟩ := h
    obtain ⟨rfl, rfl, c1, c2, c3, rfl, rfl, rfl, hfit⟩ := k1.2 hs
    obtain ⟨hu, hsz, hsz0⟩ := slOf_ok hsl
    refine Stp.read fun S w0 β M' a w hsub hrel hop => ?_
    have hex := hop x (by simp [ho, Op.operands]) _ hx
    simp only [gv, V.g, cond_true] at hex
    have hsi := hrel.siz hsub hb
    have hlo := bndE_ok h1 c1 (β := β) (a := a) (fun y hy z hz => hop y (by simp [ho, Op.operands, hy]) z hz)
    have hhi := bndE_ok h2 c2 (β := β) (a := a) (fun y hy z hz => hop y (by simp [ho, Op.operands]; simp at hy; simp [hy]) z hz)
    have hmx := bndE_ok h3 c3 (β := β) (a := a) (fun y hy z hz => hop y (by simp [ho, Op.operands]; simp at hy; simp [hy]) z hz)
    obtain ⟨A, cap, hv, hA⟩ : ∃ A cap, (Cv.sl n off len sz).g β = .slice A len cap ∧ ((A = none ∧ (β n).nul = true) ∨ (A = some ⟨(β n).blk, (β n).org + off, none⟩ ∧ (β n).nul = false)) := by
      by_cases hq : (β n).nul = true
      · have hl0 : len = 0 := by
          have := hsi.2 hq
          rw [this] at hfit
          simp at hfit
          rcases Nat.eq_zero_or_pos len with h | h
          · exact h
          · have := Nat.mul_pos h (Nat.pos_of_ne_zero hsz0); omega
        refine ⟨none, 0, ?_, .inl ⟨rfl, hq⟩⟩
        subst hl0
        simp only [Cv.g]
        rw [if_pos ⟨hq, trivial⟩]
      · have hq' : (β n).nul = false := by simpa using hq
        exact ⟨_, _, by simp only [Cv.g]; rw [if_neg (fun hh : (β n).nul = true ∧ len = 0 => hq hh.1)], .inr ⟨rfl, hq'⟩⟩
    rw [hv] at hex
    have z0 : ∀ kk (y : Nat) code, (Instr.sliceBound (.int kk 0) y code).run P w = .ok 0 w := fun kk y code => by
      have := run_sliceBound (P := P) w kk 0 y code (by omega) (by omega)
      simpa using this
    obtain ⟨y', kk', hy', hev'⟩ : ∃ y kk, some hi = some y ∧ a.eval y = .int kk 0 := by
      rcases hhi with ⟨h, _⟩ | h
      · cases h
      · exact h
    obtain ⟨y'', kk'', hy'', hev''⟩ : ∃ y kk, some mx = some y ∧ a.eval y = .int kk 0 := by
      rcases hmx with ⟨h, _⟩ | h
      · cases h
      · exact h
    cases hy'; cases hy''
    have hb1 : (Instr.sliceBounds true len cap (lo.map a.eval) (some (a.eval hi)) (some (a.eval mx))).run P w = .ok (0, 0, 0) w := by
      rcases hlo with ⟨rfl, _⟩ | ⟨y, kk, rfl, hy⟩
      · simp [Instr.sliceBounds, hev', hev'', z0]
      · simp [Instr.sliceBounds, hev', hev'', hy, z0]
    have hat : (Instr.sliceAt ty (a.eval x) (lo.map a.eval) (some (a.eval hi)) (some (a.eval mx))).run P w = (Instr.slice ty (a.eval x) (lo.map a.eval) (some (a.eval hi)) (some (a.eval mx))).run P w := by
      simp [Instr.sliceAt, run_underlying hu]
    unfold execOp
    simp only [ho, Option.map_some, Sem.run_bind, hat]
    rw [hex]
    simp only [Instr.slice, Sem.run_bind, run_underlying hu, Result.andThen_ok, hb1, run_sizeOf' hsz hsz0, Sem.run_pure, V.g]
    congr 2
    rcases hA with ⟨rfl, hnu⟩ | ⟨rfl, hnu⟩
    · simp [Cv.g, hnu]
    · simp [Cv.g, hnu]
  case call c =>
    obtain ⟨callee, as, tys⟩ := c
    cases callee <;> (try simp only at h) <;> try (cases h; done)
    rename_i b
    cases b <;> (try simp only at h) <;> try (cases h; done)
    split at h <;> first | (cases h; done) | skip
    rename_i s x t tx has hty
    have has' : as = #[s, x] := by cases as; simp_all
    have hty' : tys = #[t, tx] := by cases tys; simp_all
    subst has' hty'
    split at h <;> first | (cases h; done) | skip
    rename_i g n off el sz hs0 hsl
    split at h <;> simp at h
    rename_i zs sc' k news hz hsrc
    obtain ⟨h1, rfl, rfl, rfl⟩ := h
    obtain ⟨rfl, k1, k2, k3, k4, k5⟩ := h1.2 hs
    exact Stp.append0 nx ho hsl hz hs0 (by simpa using k1) hsrc k2 k3 k4 k5
  case convert src dst x =>
    split at h <;> first | (cases h; done) | skip
    rename_i g s el sz hx hsl
    split at h <;> simp at h
    rename_i hk
    obtain ⟨h1, rfl, rfl, rfl⟩ := h
    obtain ⟨rfl, rfl, k1, k2⟩ := h1.2 hs
    exact Stp.toBytes nx ho (rdV_rd hx) k1 hsl hk (by simpa using k2)
/-- All that opX knows, and that. -/
def opY (P : Program) (e : Env) (M : Mem) (nx : Nat) (op : Op) : Option (Prop × V × Mem × Nat) :=
  match opX P e M nx op with
  | some r => some r
  | none => opZ P e M nx op
theorem opY_ok {P : Program} {o : Oper} {e : Env} {M N : Mem} {nx nx' : Nat} {v : V} {sc : Prop} (h : opY P e M nx o.op = some (sc, v, N, nx')) (hs : sc) : Stp P o e M v N := by
  unfold opY at h
  split at h
  · rename_i r hr
    cases h
    exact opX_ok hr hs
  · exact opZ_ok h hs
end Vg
end Go.Proofs.YtpahigegcbdleaaDoor
