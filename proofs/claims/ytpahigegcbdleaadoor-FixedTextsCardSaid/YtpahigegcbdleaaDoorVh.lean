/- The machine's evaluator. -/
import Derived.Test.YtpahigegcbdleaaDoorVx
namespace Go.Proofs.YtpahigegcbdleaaDoor
namespace Vg
open Go.RowKit
/-! ### The pure operations -/
def pickV (t : Bool) : V → V → V
  | .c (.v (.bool p)), .c (.v (.bool q)) => .c (.v (.bool (bif t then p else q)))
  | a, b => bif t then a else b
theorem pickV_g (β : Vl) (t : Bool) (a b : V) : (pickV t a b).g β = bif t then a.g β else b.g β := by
  unfold pickV
  split
  · cases t <;> rfl
  · cases t <;> rfl

def binC (P : Program) (op : BinOp) (ty : TypeId) : Value → Value → Option (Prop × Value)
  | .int k a, .int k' b =>
    match op with
    | .shl => some (0 ≤ b, .int k (k.wrap (a * 2 ^ (min b.toNat k.bits))))
    | .shr => some (0 ≤ b, .int k (a.fdiv (2 ^ (min b.toNat k.bits))))
    | .add => some (k = k', .int k (k.wrap (a + b)))
    | .sub => some (k = k', .int k (k.wrap (a - b)))
    | .mul => some (k = k', .int k (k.wrap (a * b)))
    | .quo => some (k = k' ∧ b ≠ 0, .int k (k.wrap (a.tdiv b)))
    | .rem => some (k = k' ∧ b ≠ 0, .int k (a.tmod b))
    | .and => some (k = k', .int k (bits .and k a b))
    | .or => some (k = k', .int k (bits .or k a b))
    | .xor => some (k = k', .int k (bits .xor k a b))
    | .andNot => some (k = k', .int k (bits .andNot k a b))
    | .eql => some (k = k', .bool (a == b))
    | .neq => some (k = k', .bool (a != b))
    | .lss => some (k = k', .bool (decide (a < b)))
    | .leq => some (k = k', .bool (decide (a ≤ b)))
    | .gtr => some (k = k', .bool (decide (b < a)))
    | .geq => some (k = k', .bool (decide (b ≤ a)))
  | .bool a, .bool b =>
    match op with
    | .eql => some (P.underlying ty = some .bool, .bool (a == b))
    | .neq => some (P.underlying ty = some .bool, .bool (a != b))
    | _ => none
  | _, _ => none
theorem binC_ok {P : Program} {op : BinOp} {ty : TypeId} {x y z : Value} {sc : Prop} (h : binC P op ty x y = some (sc, z)) (hs : sc) (ox oy : Operand) (w : World) :
    ((do eqGuard op ty ox oy x y; binOp op ty x y : Sem Value)).run P w = .ok z w := by
  cases x <;> cases y <;> simp [binC] at h
  · rename_i a b
    cases op <;> simp at h
    · obtain ⟨hsc, rfl⟩ := h
      have h1 := run_equalIn_bool' (P := P) w 9999 ty a b (hsc.2 hs)
      simp only [binOp]
      simp [eqGuard, Op.equal, Op.maxDepth, h1]
    · obtain ⟨hsc, rfl⟩ := h
      have h1 := run_equalIn_bool' (P := P) w 9999 ty a b (hsc.2 hs)
      simp only [binOp]
      simp [eqGuard, Op.equal, Op.maxDepth, h1]
      cases a <;> cases b <;> rfl
  · rename_i k a k' b
    cases op <;> simp at h <;> obtain ⟨hsc, rfl⟩ := h <;> have hs := hsc.2 hs <;>
      first
        | (subst hs; simp [eqGuard, binOp, Op.intArith, Op.intCmp]; done)
        | (obtain ⟨rfl, hb⟩ := hs; simp [eqGuard, binOp, Op.intDiv, hb]; done)
        | (simp [eqGuard, binOp, Op.shift, Int.not_lt.2 hs]; done)
        | (subst hs; simp [eqGuard, binOp, Op.intBits, bits]; done)

def unC (op : UnOp) : Value → Option Value
  | .int k a => match op with | .neg => some (.int k (k.wrap (0 - a))) | .xor => some (.int k (bits .xor k (if k.signed then -1 else k.max) a)) | _ => none
  | .bool b => match op with | .not => some (.bool !b) | _ => none
  | _ => none
theorem unC_ok {P : Program} {op : UnOp} {x z : Value} (h : unC op x = some z) (w : World) : (Op.unary op x).run P w = .ok z w := by
  cases x <;> cases op <;> simp [unC] at h <;> subst h <;> simp [Op.unary, Op.intArith, Op.intBits, bits]

def minE : List Value → Option Value
  | [.int k a, .int k' b] => if k = k' then some (.int k (min a b)) else none
  | _ => none
def maxE : List Value → Option Value
  | [.int k a, .int k' b] => if k = k' then some (.int k (max a b)) else none
  | _ => none

/-- the value of a parameter that is one cell as the model has it -/
def V.val? : V → Option Value
  | .c (.v x) => some x
  | _ => none
def rdV (e : Env) (x : Operand) : Option (Bool × Value) :=
  match rd e x with
  | some (g, .c (.v y)) => some (g, y)
  | _ => none
theorem rdV_rd {e : Env} {x : Operand} {g : Bool} {y : Value} (h : rdV e x = some (g, y)) : rd e x = some (g, .c (.v y)) := by
  unfold rdV at h
  split at h
  · simp at h; obtain ⟨rfl, rfl⟩ := h; assumption
  · cases h

/-! build -/
def plOf (P : Program) (t : TypeId) : Option (List (Nat × Nat)) :=
  match P.underlying t with
  | some (.struct fs) => if fs.toList.all (fun f => (P.info? f.type).isSome) then some (fs.toList.map fun f => (f.offset, szOf P f.type)) else none
  | some (.array n el) => if szOf P el = 0 then none else some ((List.range n).map fun i => (i * szOf P el, szOf P el))
  | _ => none
def fillE (pl : List (Nat × Nat)) (e : Env) : List Cv → List (Nat × Operand) → Option (Prop × List Cv)
  | cs, [] => some (True, cs)
  | cs, (i, x) :: r =>
    match pl[i]?, rd e x with
    | some (off, sz), some (g, v) =>
      match fillE pl e (setL cs off v.cells) r with
      | some (sc, cs') => some ((g = true ∧ v.ok1 = true ∧ v.cells.length = sz ∧ off + sz ≤ cs.length) ∧ sc, cs')
      | none => none
    | _, _ => none

/-- An array type: how many elements, how many cells each; only of one-cell elements. -/
def arrOf (P : Program) (t : TypeId) : Option Nat :=
  match P.underlying t with
  | some (.array n el) => if szOf P el = 1 ∧ aggOf P el = some false then some n else none
  | _ => none
/-- A field of a struct by value: its place, its size, whether it is a struct or an array itself. -/
def fldOf (P : Program) (s : TypeId) (f : Nat) : Option (Nat × Nat × Bool) :=
  match P.underlying s with
  | some (.struct fs) => (match fs[f]? with
    | some fd => (match aggOf P fd.type with | some b => (if szOf P fd.type = 0 then none else some (fd.offset, szOf P fd.type, b)) | none => none)
    | none => none)
  | _ => none

/-- '==' of structs, cell by cell. -/
def eqC : List Cv → List Cv → Option Bool
  | [], [] => some true
  | .v (.int _ a) :: xs, .v (.int _ b) :: ys => match eqC xs ys with
    | some t => some ((a == b) && t)
    | none => none
  | .v (.bool a) :: xs, .v (.bool b) :: ys => match eqC xs ys with
    | some t => some ((a == b) && t)
    | none => none
  | .v (.string a) :: xs, .v (.string b) :: ys => match eqC xs ys with
    | some t => some ((a.toList == b.toList) && t)
    | none => none
  | _, _ => none
def EqOk (P : Program) (ty : TypeId) (xs ys : List Cv) (t : Bool) : Prop :=
  ∀ (β : Vl) (w : World) (ox oy : Operand),
    (do eqGuard .eql ty ox oy (.agg (xs.map (Cv.g β)).toArray) (.agg (ys.map (Cv.g β)).toArray); binOp .eql ty (.agg (xs.map (Cv.g β)).toArray) (.agg (ys.map (Cv.g β)).toArray) : Sem Value).run P w = .ok (.bool t) w ∧
    (do eqGuard .neq ty ox oy (.agg (xs.map (Cv.g β)).toArray) (.agg (ys.map (Cv.g β)).toArray); binOp .neq ty (.agg (xs.map (Cv.g β)).toArray) (.agg (ys.map (Cv.g β)).toArray) : Sem Value).run P w = .ok (.bool !t) w
def EqAny (P : Program) (ty : TypeId) (xs ys : List Cv) : Prop := ∀ t, eqC xs ys = some t → EqOk P ty xs ys t
def eqE (op : BinOp) (t : Bool) : Option Bool :=
  match op with
  | .eql => some t
  | .neq => some (!t)
  | _ => none

def opE (P : Program) (e : Env) (M : Mem) (nx : Nat) (noDst : Bool) : Op → Option (Prop × V × Mem × Nat)
  | .move x => match rd e x with
    | some (g, v) => some (g = true, v, [], nx)
    | none => none
  | .assign x => match rd e x with
    | some (g, v) => some (g = true, v, [], nx)
    | none => none
  | .pick c x y => match rdV e c, rd e x, rd e y with
    | some (gc, .bool t), some (gx, vx), some (gy, vy) => some (gc = true ∧ (t = true → gx = true) ∧ (t = false → gy = true), pickV t vx vy, [], nx)
    | _, _, _ => none
  | .binOp op ty x y _ => match rd e x, rd e y with
    | some (gx, .c (.v vx)), some (gy, .c (.v vy)) => match binC P op ty vx vy with
      | some (sc, v) => some ((gx = true ∧ gy = true) ∧ sc, .c (.v v), [], nx)
      | none => none
    | some (gx, .agg xs), some (gy, .agg ys) => match eqC xs ys with
      | some t => match eqE op t with
        | some u => some ((gx = true ∧ gy = true) ∧ EqAny P ty xs ys, .c (.v (.bool u)), [], nx)
        | none => none
      | none => none
    | _, _ => none
  | .unOp op _ x => match rdV e x with
    | some (g, v) => match unC op v with
      | some z => some (g = true, .c (.v z), [], nx)
      | none => none
    | none => none
  | .convert src dst x => match rdV e x, kiOf P dst with
    | some (g, .int _ n), some k => some (g = true ∧ (P.underlying src).isSome = true, .c (.v (.int k (k.wrap n))), [], nx)
    | _, _ => none
  | .extract x i => match rd e x with
    | some (g, .tup ws) => match ws[i]? with
      | some y => some (g = true, y.toV, [], nx)
      | none => none
    | _ => none
  | .nilCheck x => match rd e x with
    | some (g, .c (.p n off)) => some (g = true, .c (.p n off), [], nx)
    | _ => none
  | .fieldAddr s x f => match rd e x, offOf P s f with
    | some (g, .c (.p n off)), some k => some (g = true, .c (.p n (off + k)), [], nx)
    | _, _ => none
  | .load ty x => match rd e x with
    | some (g, .c (.p n off)) => match M.get n, aggOf P ty with
      | some b, some true => some (g = true ∧ szOf P ty ≠ 0 ∧ off + szOf P ty ≤ b.cells.length, .agg ((b.cells.drop off).take (szOf P ty)), [], nx)
      | some b, some false => match b.cells[off]? with
        | some c => some (g = true, .c c, [], nx)
        | none => none
      | _, _ => none
    | _ => none
  | .store ty x y => match rd e x, rd e y with
    | some (g, .c (.p n off)), some (g', v) => match M.get n, noDst with
      | some b, true => some ((g = true ∧ g' = true) ∧ b.ro = false ∧ v.ok1 = true ∧ v.cells.all Cv.one = true ∧ szOf P ty ≠ 0 ∧ v.cells.length = szOf P ty ∧ off + szOf P ty ≤ b.cells.length, .agg [], [(n, ⟨false, setL b.cells off v.cells, b.elem⟩)], nx)
      | _, _ => none
    | _, _ => none
  | .alloc el => match zeroOf P el with
    | some zs => some ((M.get nx).isNone = true, .c (.p nx 0), [(nx, ⟨false, zs.map .v, el⟩)], nx + 1)
    | none => none
  | .box el x => match rd e x with
    | some (g, v) => some (g = true ∧ v.ok1 = true ∧ (M.get nx).isNone = true, .c (.p nx 0), [(nx, ⟨false, v.cells, el⟩)], nx + 1)
    | none => none
  | .build ty parts => match plOf P ty, zeroOf P ty with
    | some pl, some zs => match fillE pl e (zs.map .v) parts.toList with
      | some (sc, cs) => some (sc, .agg cs, [], nx)
      | none => none
    | _, _ => none
  | .index ty x i => match rd e x, rdV e i, arrOf P ty with
    | some (gx, .agg xs), some (gi, .int _ n), some len => match xs[n.toNat]? with
      | some c => some (gx = true ∧ gi = true ∧ 0 ≤ n ∧ n.toNat < len, .c c, [], nx)
      | none => none
    | _, _, _ => none
  | .field s x f => match rd e x, fldOf P s f with
    | some (g, .agg xs), some (off, sz, true) => some (g = true ∧ off + sz ≤ xs.length, .agg ((xs.drop off).take sz), [], nx)
    | some (g, .agg xs), some (off, _, false) => match xs[off]? with
      | some c => some (g = true, .c c, [], nx)
      | none => none
    | _, _ => none
  | .call { callee := .builtin .min, args := as, .. } => match as.toList.map (rdV e) with
    | [some (g1, .int k a), some (g2, .int k' b)] => some (g1 = true ∧ g2 = true ∧ k = k', .c (.v (.int k (min a b))), [], nx)
    | _ => none
  | .call { callee := .builtin .max, args := as, .. } => match as.toList.map (rdV e) with
    | [some (g1, .int k a), some (g2, .int k' b)] => some (g1 = true ∧ g2 = true ∧ k = k', .c (.v (.int k (max a b))), [], nx)
    | _ => none
  | _ => none

theorem run_mapM_pl {P : Program} (w : World) : ∀ (l : List Field), l.all (fun f => (P.info? f.type).isSome) = true →
    (l.mapM fun f => (do Pure.pure (f.offset, ← sizeOf f.type) : Sem (Nat × Nat))).run P w = .ok (l.map fun f => (f.offset, szOf P f.type)) w
  | [], _ => by simp
  | f :: l, h => by
    simp only [List.all_cons, Bool.and_eq_true] at h
    obtain ⟨i, hi⟩ := Option.isSome_iff_exists.1 h.1
    have ih := run_mapM_pl w l h.2
    simp [List.mapM_cons, sizeOf, typeInfo, hi, szOf] at ih ⊢
    simp [ih]
theorem foldl_zipIdx_setL (l : List Value) : ∀ (off j : Nat) (cs : Array Value), (l.zipIdx j).foldl (fun (cs : Array Value) (c : Value × Nat) => cs.setIfInBounds (off + c.2) c.1) cs = (setL cs.toList (off + j) l).toArray := by
  induction l with
  | nil => intro off j cs; simp [setL]
  | cons x l ih =>
    intro off j cs
    simp only [List.zipIdx_cons, List.foldl_cons, setL]
    rw [ih]
    simp [Nat.add_assoc]
theorem fill_ok {e : Env} {pl : List (Nat × Nat)} {β : Vl} {a : Act} : ∀ (parts : List (Nat × Operand)) (cs cs' : List Cv) (sc : Prop), fillE pl e cs parts = some (sc, cs') → sc → (∀ x, x ∈ parts.map (·.2) → ∀ y, rd e x = some y → a.eval x = gv β y) →
    ∀ place : Nat → Option (Nat × Nat), (∀ i p, pl[i]? = some p → place i = some p) → Instr.fill place (cs.map (Cv.g β)).toArray (parts.map fun p => (p.1, a.eval p.2)) = some (cs'.map (Cv.g β)).toArray
  | [], cs, cs', sc, h, _, _ => by simp [fillE] at h; intro place _; simp [Instr.fill, h.2]
  | (i, x) :: r, cs, cs', sc, h, hs, hop => by
    intro place hpl
    simp only [fillE] at h
    split at h
    · rename_i off sz g v hp hx
      split at h
      · rename_i sc' cs'' hr
        simp at h
        obtain ⟨hsc, rfl⟩ := h
        obtain ⟨⟨rfl, h1, h2, h3⟩, h4⟩ := hsc.2 hs
        have he := hop x (by simp) _ hx
        simp only [gv, cond_true] at he
        have hc := V.cells_g h1 β
        have ih := fill_ok r _ _ _ hr h4 (fun y hy z hz => hop y (by simp at hy ⊢; exact .inr hy) z hz) place hpl
        simp only [List.map_cons, Instr.fill, hpl i _ hp, he, hc]
        rw [if_neg (by simp [h2]; omega)]
        rw [← Array.foldl_toList]
        simp only [Array.toList_zipIdx]
        have hf := foldl_zipIdx_setL (v.cells.map (Cv.g β)) off 0 (cs.map (Cv.g β)).toArray
        rw [Nat.add_zero] at hf
        rw [show (cs.map (Cv.g β)).toArray.toList = cs.map (Cv.g β) from rfl, setL_map] at hf
        rw [hf]
        exact ih
      · cases h
    · cases h

theorem zero_ok {P : Program} {t : TypeId} {zs : List Value} (h : zeroOf P t = some zs) (w : World) : ∃ z, (zeroValue t).run P w = .ok z w ∧ z.cells.toList = zs := by
  unfold zeroOf at h
  cases hi : P.info? t with
  | none => simp [hi] at h
  | some i =>
    simp only [hi] at h
    cases hzz : i.zero with
    | none => simp [hzz] at h
    | some z =>
      simp only [hzz] at h
      split at h <;> simp at h
      exact ⟨z, by simp [zeroValue, typeInfo, hi, hzz], h⟩
theorem Stp.build {P : Program} {o : Oper} {e : Env} {M : Mem} {ty : TypeId} {parts : Array (Nat × Operand)} {pl : List (Nat × Nat)} {zs : List Value} {sc : Prop} {cs : List Cv} (ho : o.op = .build ty parts)
    (hp : plOf P ty = some pl) (hz : zeroOf P ty = some zs) (hf : fillE pl e (zs.map .v) parts.toList = some (sc, cs)) (hs : sc) : Stp P o e M (.agg cs) [] := by
  refine Stp.pure fun β a hop w => ?_
  obtain ⟨z, hz1, hz2⟩ := zero_ok hz w
  have hfill := fun place hpl => fill_ok (a := a) (β := β) parts.toList _ _ _ hf hs (fun x hx y hy => hop x (by simp only [ho, Op.operands]; simpa using hx) y hy) place hpl
  have hcs : ((zs.map Cv.v).map (Cv.g β)).toArray = z.cells := by
    apply Array.toList_inj.1
    rw [hz2]
    simp [Function.comp_def, Cv.g]
  rw [hcs] at hfill
  have hparts : (parts.map fun (i, x) => (i, a.eval x)).toList = parts.toList.map fun p => (p.1, a.eval p.2) := by simp
  unfold plOf at hp
  unfold execOp
  simp only [ho]
  cases hu : P.underlying ty with
  | none => simp [hu] at hp
  | some d =>
    cases d <;> simp [hu] at hp
    · rename_i n el
      obtain ⟨hsz, rfl⟩ := hp
      have hpl : ∀ i p, ((List.range n).map fun i => (i * szOf P el, szOf P el))[i]? = some p → (fun i => some (i * szOf P el, szOf P el)) i = some p := by
        intro i p h
        rw [List.getElem?_map] at h
        cases hr : (List.range n)[i]? with
        | none => simp [hr] at h
        | some j =>
          have hj : j = i := by
            rw [List.getElem?_range (by have := (List.getElem?_eq_some_iff.1 hr).1; simpa using this)] at hr
            simpa using hr.symm
          simp [hr] at h
          subst hj
          simpa using h
      have := hfill _ hpl
      simp [Instr.build, hz1, run_underlying hu, run_sizeOf' (P := P) (t := el) rfl hsz, this, V.g]
    · rename_i fs
      obtain ⟨hall, rfl⟩ := hp
      have hm : (fs.mapM fun f => (do Pure.pure (f.offset, ← sizeOf f.type) : Sem (Nat × Nat))).run P w = .ok (fs.map fun f => (f.offset, szOf P f.type)) w := by
        rw [Array.mapM_eq_mapM_toList]
        have h := run_mapM_pl (P := P) w fs.toList (by simpa using hall)
        rw [Sem.run_map, h]
        simp only [Result.andThen_ok]
        rw [show (fs.toList.map fun f => (f.offset, szOf P f.type)).toArray = fs.map fun f => (f.offset, szOf P f.type) from Array.toList_inj.1 (by simp)]
      simp only [bind_pure_comp] at hm
      have hpl : ∀ i p, (fs.toList.map fun f => (f.offset, szOf P f.type))[i]? = some p → (fun j : Nat => (fs.map fun f => (f.offset, szOf P f.type))[j]?) i = some p := by
        intro i p h
        simpa using h
      have := hfill _ hpl
      simp only [Array.getElem?_map] at this
      simp [Instr.build, hz1, run_underlying hu]
      simp [hm, this, V.g]

theorem opE_ok {P : Program} {o : Oper} {e : Env} {M N : Mem} {nx nx' : Nat} {v : V} {sc : Prop} (h : opE P e M nx o.dst.isNone o.op = some (sc, v, N, nx')) (hs : sc) : Stp P o e M v N := by
  cases ho : o.op <;> rw [ho] at h <;> simp only [opE] at h <;> try (cases h; done)
  case move x =>
    split at h <;> simp at h
    rename_i g v' hx
    obtain ⟨h1, rfl, rfl, rfl⟩ := h
    have := h1.2 hs; subst this
    exact Stp.pure fun β a hop w => by
      have he := hop x (by simp [ho, Op.operands]) _ hx
      unfold execOp; simp [ho, he, gv]
  case assign x =>
    split at h <;> simp at h
    rename_i g v' hx
    obtain ⟨h1, rfl, rfl, rfl⟩ := h
    have := h1.2 hs; subst this
    exact Stp.pure fun β a hop w => by
      have he := hop x (by simp [ho, Op.operands]) _ hx
      unfold execOp; simp [ho, he, gv]
  case pick c x y =>
    split at h <;> simp at h
    rename_i gc t gx vx gy vy hc hx hy
    obtain ⟨h1, rfl, rfl, rfl⟩ := h
    obtain ⟨rfl, k1, k2⟩ := h1.2 hs
    exact Stp.pure fun β a hop w => by
      have hec := hop c (by simp [ho, Op.operands]) _ (rdV_rd hc)
      have hex := hop x (by simp [ho, Op.operands]) _ hx
      have hey := hop y (by simp [ho, Op.operands]) _ hy
      simp only [gv, V.g, Cv.g, cond_true] at hec
      unfold execOp
      simp only [ho, hec, hex, hey, pickV_g]
      cases t with
      | true => simp [asBool, gv, k1 rfl]
      | false => simp [asBool, gv, k2 rfl]
  case binOp op ty x y ty' =>
    split at h <;> first | (cases h; done) | skip
    · rename_i gx vx gy vy hx hy
      split at h <;> simp at h
      rename_i sc' z hb
      obtain ⟨h1, rfl, rfl, rfl⟩ := h
      obtain ⟨⟨rfl, rfl⟩, k3⟩ := h1.2 hs
      exact Stp.pure fun β a hop w => by
        have hex := hop x (by simp [ho, Op.operands]) _ hx
        have hey := hop y (by simp [ho, Op.operands]) _ hy
        simp only [gv, V.g, Cv.g, cond_true] at hex hey
        have := binC_ok hb k3 x y w
        unfold execOp
        simp only [ho, hex, hey]
        rw [Sem.run_bind, this]
        simp [V.g, Cv.g]
    · rename_i gx xs gy ys hx hy
      split at h <;> first | (cases h; done) | skip
      rename_i t ht
      split at h <;> simp at h
      rename_i u hu
      obtain ⟨h1, rfl, rfl, rfl⟩ := h
      obtain ⟨⟨rfl, rfl⟩, k3⟩ := h1.2 hs
      exact Stp.pure fun β a hop w => by
        have hex := hop x (by simp [ho, Op.operands]) _ hx
        have hey := hop y (by simp [ho, Op.operands]) _ hy
        simp only [gv, V.g, cond_true] at hex hey
        have hE := k3 t ht β w x y
        unfold execOp
        simp only [ho, hex, hey]
        cases op <;> simp [eqE] at hu
        · subst hu
          rw [Sem.run_bind, hE.1]
          simp [V.g, Cv.g]
        · subst hu
          rw [Sem.run_bind, hE.2]
          simp [V.g, Cv.g]
  case unOp op ty x =>
    split at h <;> first | (cases h; done) | skip
    rename_i g y hx
    split at h <;> simp at h
    rename_i z hz
    obtain ⟨h1, rfl, rfl, rfl⟩ := h
    have := h1.2 hs; subst this
    exact Stp.pure fun β a hop w => by
      have he := hop x (by simp [ho, Op.operands]) _ (rdV_rd hx)
      simp only [gv, V.g, Cv.g, cond_true] at he
      have := unC_ok (P := P) hz w
      unfold execOp
      simp [ho, he, this, V.g, Cv.g]
  case convert src dst x =>
    split at h <;> simp at h
    rename_i g k0 n k hx hk
    obtain ⟨h1, rfl, rfl, rfl⟩ := h
    obtain ⟨rfl, k3⟩ := h1.2 hs
    exact Stp.pure fun β a hop w => by
      have he := hop x (by simp [ho, Op.operands]) _ (rdV_rd hx)
      simp only [gv, V.g, Cv.g, cond_true] at he
      obtain ⟨d, hd⟩ := Option.isSome_iff_exists.1 k3
      unfold kiOf at hk
      split at hk <;> simp at hk
      rename_i k' hu
      subst hk
      unfold execOp
      simp only [ho, he, convert, Sem.run_bind, run_underlying hd, run_underlying hu, Result.andThen_ok, V.g, Cv.g]
      simp [Conv.intToInt]
  case extract x i =>
    split at h <;> first | (cases h; done) | skip
    rename_i g ws hx
    split at h <;> simp at h
    rename_i y hy
    obtain ⟨h1, rfl, rfl, rfl⟩ := h
    have := h1.2 hs; subst this
    exact Stp.pure fun β a hop w => by
      have he := hop x (by simp [ho, Op.operands]) _ hx
      simp only [gv, V.g, cond_true] at he
      unfold execOp
      simp [ho, he, Instr.extract, hy, W.toV_g]
  case nilCheck x =>
    split at h <;> simp at h
    rename_i g n off hx
    obtain ⟨h1, rfl, rfl, rfl⟩ := h
    have := h1.2 hs; subst this
    exact Stp.pure fun β a hop w => by
      have he := hop x (by simp [ho, Op.operands]) _ hx
      simp only [gv, V.g, Cv.g, cond_true] at he
      unfold execOp
      simp [ho, he, V.g, Cv.g]
  case fieldAddr s x f =>
    split at h <;> simp at h
    rename_i g n off k hx hk
    obtain ⟨h1, rfl, rfl, rfl⟩ := h
    have := h1.2 hs; subst this
    exact Stp.fieldAddr ho hx hk
  case load ty x =>
    split at h <;> simp at h
    rename_i g n off hx
    split at h
    · rename_i b hb ha
      simp at h
      obtain ⟨h1, rfl, rfl, rfl⟩ := h
      obtain ⟨rfl, k1, k2⟩ := h1.2 hs
      exact Stp.loadAgg ho hx hb ha rfl k1 k2
    · rename_i b hb ha
      split at h <;> simp at h
      rename_i c hc
      obtain ⟨h1, rfl, rfl, rfl⟩ := h
      have := h1.2 hs; subst this
      exact Stp.loadOne ho hx hb ha hc
    · cases h
  case store ty x y =>
    split at h <;> simp at h
    rename_i g n off g' v' hx hy
    split at h <;> simp at h
    rename_i b hb hd
    obtain ⟨h1, rfl, rfl, rfl⟩ := h
    obtain ⟨⟨rfl, rfl⟩, k1, k2, k3, k4, k5, k6⟩ := h1.2 hs
    exact Stp.store ho hx hy hb k1 k2 (by simpa using k3) rfl k4 k5 k6 (by simpa using hd)
  case alloc el =>
    split at h <;> simp at h
    rename_i zs hz
    obtain ⟨h1, rfl, rfl, rfl⟩ := h
    exact Stp.alloc nx ho hz (by simpa using h1.2 hs)
  case box el x =>
    split at h <;> simp at h
    rename_i g v' hx
    obtain ⟨h1, rfl, rfl, rfl⟩ := h
    obtain ⟨rfl, k1, k2⟩ := h1.2 hs
    exact Stp.box nx ho hx k1 (by simpa using k2)
  case build ty parts =>
    split at h <;> first | (cases h; done) | skip
    rename_i pl zs hp hz
    split at h <;> simp at h
    rename_i sc' cs hf
    obtain ⟨h1, rfl, rfl, rfl⟩ := h
    exact Stp.build ho hp hz hf (h1.2 hs)
  case index ty x i =>
    split at h <;> first | (cases h; done) | skip
    rename_i gx xs gi ki n len hx hi ha
    split at h <;> simp at h
    rename_i c hc
    obtain ⟨h1, rfl, rfl, rfl⟩ := h
    obtain ⟨rfl, rfl, k1, k2⟩ := h1.2 hs
    exact Stp.pure fun β a hop w => by
      have hex := hop x (by simp [ho, Op.operands]) _ hx
      have hei := hop i (by simp [ho, Op.operands]) _ (rdV_rd hi)
      simp only [gv, V.g, Cv.g, cond_true] at hex hei
      unfold arrOf at ha
      split at ha <;> first | (cases ha; done) | skip
      rename_i m el hu
      split at ha <;> simp at ha
      rename_i hsz
      subst ha
      have hcell : (xs.map (Cv.g β)).toArray[n.toNat]? = some (c.g β) := by simp [hc]
      unfold execOp
      simp only [ho, hex, hei, Instr.index, asIntOf, Sem.run_bind, Sem.run_pure, Result.andThen_ok, run_underlying hu]
      rw [if_pos ⟨k1, by omega⟩]
      simp only [Sem.run_bind, run_sizeOf' (P := P) (t := el) hsz.1 (by omega), Result.andThen_ok, Nat.mul_one, part, run_isAgg_no hsz.2, Bool.false_eq_true, if_false, Sem.run_ite]
      rw [hcell]
      simp [V.g]
  case field s x f =>
    split at h
    · rename_i g xs off sz hx hf
      simp at h
      obtain ⟨h1, rfl, rfl, rfl⟩ := h
      obtain ⟨rfl, k1⟩ := h1.2 hs
      exact Stp.pure fun β a hop w => by
        have hex := hop x (by simp [ho, Op.operands]) _ hx
        simp only [gv, V.g, cond_true] at hex
        unfold fldOf at hf
        split at hf <;> first | (cases hf; done) | skip
        rename_i fs hu
        split at hf <;> first | (cases hf; done) | skip
        rename_i fd hfd
        split at hf <;> first | (cases hf; done) | skip
        rename_i b hb
        split at hf <;> simp at hf
        rename_i hsz
        obtain ⟨rfl, rfl, rfl⟩ := hf
        have hagg : (isAgg fd.type).run P w = .ok true w := by
          unfold aggOf at hb
          cases hud : P.underlying fd.type with
          | none => simp [hud] at hb
          | some d =>
            unfold isAgg
            rw [Sem.run_bind, run_underlying hud w]
            cases d <;> simp_all
        unfold execOp
        simp only [ho, hex, Instr.field, Sem.run_bind, run_underlying hu, Result.andThen_ok, hfd, asAgg, Sem.run_pure, part, hagg, if_true, Sem.run_ite, run_sizeOf' (P := P) (t := fd.type) rfl hsz]
        simp [V.g, List.map_take, List.map_drop, List.extract_eq_take_drop]
    · rename_i g xs off sz hx hf
      split at h <;> simp at h
      rename_i c hc
      obtain ⟨h1, rfl, rfl, rfl⟩ := h
      have := h1.2 hs; subst this
      exact Stp.pure fun β a hop w => by
        have hex := hop x (by simp [ho, Op.operands]) _ hx
        simp only [gv, V.g, cond_true] at hex
        unfold fldOf at hf
        split at hf <;> first | (cases hf; done) | skip
        rename_i fs hu
        split at hf <;> first | (cases hf; done) | skip
        rename_i fd hfd
        split at hf <;> first | (cases hf; done) | skip
        rename_i b hb
        split at hf <;> simp at hf
        obtain ⟨rfl, rfl, rfl⟩ := hf
        have hcell : (xs.map (Cv.g β)).toArray[fd.offset]? = some (c.g β) := by simp [hc]
        unfold execOp
        simp only [ho, hex, Instr.field, Sem.run_bind, run_underlying hu, Result.andThen_ok, hfd, asAgg, Sem.run_pure, part, run_isAgg_no hb, Bool.false_eq_true, if_false, Sem.run_ite]
        rw [hcell]
        simp [V.g]
    · cases h
  case call c =>
    obtain ⟨callee, as, tys⟩ := c
    have two : ∀ (g1 g2 : Bool) (x y : Value), as.toList.map (rdV e) = [some (g1, x), some (g2, y)] → g1 = true → g2 = true → ∀ β (a : Act), (∀ x, x ∈ o.op.operands → ∀ y, rd e x = some y → a.eval x = gv β y) → as.map a.eval = #[x, y] := by
      intro g1 g2 x y hm hg1 hg2 β a hop
      subst hg1 hg2
      obtain ⟨l⟩ := as
      have hlen : l.length = 2 := by simpa using congrArg List.length hm
      match l, hlen with
      | [p, q], _ =>
        simp at hm
        have hp := hop p (by simp [ho, Op.operands, Call.operands]) _ (rdV_rd hm.1)
        have hq := hop q (by simp [ho, Op.operands, Call.operands]) _ (rdV_rd hm.2)
        simp only [gv, V.g, Cv.g, cond_true] at hp hq
        simp [hp, hq]
    cases callee <;> (try simp only at h) <;> try (cases h; done)
    rename_i b
    cases b <;> (try simp only at h) <;> try (cases h; done)
    · split at h <;> simp at h
      rename_i g1 k a1 g2 k' b1 hm
      obtain ⟨h1, rfl, rfl, rfl⟩ := h
      obtain ⟨k1, k2, rfl⟩ := h1.2 hs
      exact Stp.pure fun β a hop w => by
        have hv := two _ _ _ _ hm k1 k2 β a hop
        unfold execOp
        simp [ho, resolve, invoke, builtin, hv, Builtin.max_, Builtin.max2, V.g, Cv.g]
        split <;> omega
    · split at h <;> simp at h
      rename_i g1 k a1 g2 k' b1 hm
      obtain ⟨h1, rfl, rfl, rfl⟩ := h
      obtain ⟨k1, k2, rfl⟩ := h1.2 hs
      exact Stp.pure fun β a hop w => by
        have hv := two _ _ _ _ hm k1 k2 β a hop
        unfold execOp
        simp [ho, resolve, invoke, builtin, hv, Builtin.min_, Builtin.min2, V.g, Cv.g]
        split <;> omega

end Vg
end Go.Proofs.YtpahigegcbdleaaDoor
