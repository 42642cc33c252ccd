/- Frame: frames as plain data; the first fault of the signals of a frame. -/
import Derived.Test.YtcdclmelnnbdnaaA5
import Derived.Laws.Bits64b
namespace Go.Proofs.Ytcdclmelnnbdnaa
open Vg Tf
set_option linter.unusedSimpArgs false
set_option linter.unusedVariables false
set_option maxRecDepth 100000
set_option maxHeartbeats 4000000
structure Fm where
  nm : ByteArray
  id : Int
  ln : Int
  gd : Bool
  sgs : List Sg
@[go_sem] def fmL (B : Nat) (f : Fm) : List Cv := [.v (.string f.nm), .v (.int .i64 f.id), .v (.int .i64 f.ln), .v (.bool f.gd), .sl B 0 f.sgs.length 10]
@[reducible] def fm5 (B : Nat) (f : Fm) : V := .agg (fmL B f)
/-- What is asked of the numbers: they lie in 64 bits; strings and lists are not too long. -/
structure Fm.ok (f : Fm) : Prop where
  n : f.nm.data.toList.length ≤ 9223372036854775807
  l : -9223372036854775808 ≤ f.ln ∧ f.ln ≤ 9223372036854775807
  s : ∀ s ∈ f.sgs, s.nm.data.toList.length ≤ 9223372036854775807
  k : f.sgs.length ≤ 1000000
def inG (gd : Bool) (ln : Int) (s : Sg) : Bool := (bitsL s).all fun b => decide ((b : Int) < 8 * ln) && !(gd && decide (b < 12))
def clash (l : List Sg) (s : Sg) : Bool := l.any fun x => sameN x s || (bitsL x).any fun b => (bitsL s).contains b
/-- The fault of a signal behind others. -/
def prE (gd : Bool) (ln : Int) (seen : List Sg) (s : Sg) : Int := bif sok s then (bif inG gd ln s then (bif clash seen s then 8 else 0) else 2) else 1
def sgE (gd : Bool) (ln : Int) (seen : List Sg) : List Sg → ByteArray × Int
  | [] => (⟨#[]⟩, 0)
  | s :: r => bif prE gd ln seen s == 0 then sgE gd ln (seen ++ [s]) r else (s.nm, prE gd ln seen s)
/-- The mask of bits. -/
def orM (m : Nat) : List Nat → Nat
  | [] => m
  | b :: r => orM (m ||| 2 ^ b) r
theorem orM_bit : ∀ (l : List Nat) (m b : Nat), (orM m l).testBit b = (m.testBit b || l.contains b)
  | [], m, b => by simp [orM]
  | x :: l, m, b => by
    rw [orM, orM_bit l, Nat.testBit_or, Nat.testBit_two_pow, List.contains_cons, Bool.or_assoc]
    congr 2
    rw [Bool.eq_iff_iff, decide_eq_true_eq, beq_iff_eq]; exact eq_comm
theorem orM_lt {k : Nat} : ∀ (l : List Nat) (m : Nat), m < 2 ^ k → (∀ b ∈ l, b < k) → orM m l < 2 ^ k
  | [], m, h, _ => h
  | x :: l, m, h, hl => orM_lt l _ (Nat.or_lt_two_pow h (Nat.pow_lt_pow_right (by omega) (hl x (by simp)))) (fun b hb => hl b (by simp [hb]))
theorem orM_snoc (l : List Nat) (m b : Nat) : orM m (l ++ [b]) = orM m l ||| 2 ^ b := by
  induction l generalizing m with
  | nil => rfl
  | cons x l ih => exact ih _
abbrev U (n : Nat) : V := .c (.v (.int .u64 (n : Int)))
abbrev tupS (r : ByteArray × Int) : V := .tup [.c (.v (.string r.1)), .c (.v (.int .i64 r.2))]
/-- What is taken behind some signals. -/
def TkI (gd : Bool) (seen : List Sg) (T : Nat) : Prop := T < 2 ^ 64 ∧ ∀ b, T.testBit b = ((gd && decide (b < 12)) || seen.any fun x => (bitsL x).contains b)
def gM (gd : Bool) : Nat := bif gd then 4095 else 0
theorem gM_bit (gd : Bool) (b : Nat) : (gM gd).testBit b = (gd && decide (b < 12)) := by
  cases gd
  · simp [gM]
  · show (2 ^ 12 - 1).testBit b = _
    rw [Nat.testBit_two_pow_sub_one]; rfl
theorem CallQ.gmem {P : Program} {nt : Nat} {C : Cx} {todo : List It} {e : Env} {M : Mem} {f : FuncId} {vs : List (Option (Bool × V))} {g : Bool} {dst : Option Nat} {xs : List V} {v : V} {M1 : Mem} (L : List (Nat × Nat)) (nx : Nat) (hc : g = true → CallOk P f xs M1 v []) (hcl : ClM M1) (hL : rnOk L = true) (hvs : g = true → vs = (xs.map (V.ren (rn L))).map fun x => some (true, x))
    (hs : SubS (M1.ren (rn L)) M) (h : run P nt C 1000 todo (e.put dst g (v.ren (rn L))) M nx) : CallQ P nt C f vs g dst todo e M :=
  ⟨M1.ren (rn L), [], v.ren (rn L), xs.map (V.ren (rn L)), hvs, fun h => .inl ((hc h).ren (rn_inj L hL)), hs.sub, hcl.ren (rn_inj L hL), Fresh.nil _ _, .inr rfl, run_ok 1000 _ _ _ nx h⟩
theorem pow_nat (n : Nat) : (2 : Int) ^ n = ((2 ^ n : Nat) : Int) := by rw [Int.natCast_pow]; rfl
theorem fdiv_nat (g k : Nat) : (g : Int).fdiv (2 ^ k) = ((g / 2 ^ k : Nat) : Int) := by
  rw [pow_nat, Int.fdiv_eq_ediv_of_nonneg _ (Int.natCast_nonneg _)]; rfl
theorem and_bit (g b : Nat) (hg : g < 2 ^ 64) : bits .and .u64 ((g : Int).fdiv (2 ^ min b 64)) 1 = ((g.testBit b).toNat : Int) := by
  rw [fdiv_nat]
  have h1 := bits_and_u64_nat (g / 2 ^ min b 64) 1 (Nat.lt_of_le_of_lt (Nat.div_le_self _ _) hg) (by omega)
  rw [show ((1 : Nat) : Int) = 1 from rfl] at h1
  rw [h1, Nat.and_one_is_mod, Nat.testBit_eq_decide_div_mod_eq]
  have hm : g / 2 ^ min b 64 % 2 = g / 2 ^ b % 2 := by
    rcases Nat.lt_or_ge b 64 with h | h
    · rw [Nat.min_eq_left (by omega)]
    · rw [Nat.min_eq_right h, Nat.div_eq_of_lt hg, Nat.div_eq_of_lt (Nat.lt_of_lt_of_le hg (Nat.pow_le_pow_right (by omega) h))]
  rw [hm]
  by_cases h : g / 2 ^ b % 2 = 1
  · rw [h]; rfl
  · have : g / 2 ^ b % 2 = 0 := by omega
    rw [this]; rfl
theorem or_bit (m b : Nat) (hm : m < 2 ^ 64) (hb : b < 64) : bits .or .u64 (m : Int) (IntKind.u64.wrap (1 * 2 ^ min b 64)) = ((m ||| 2 ^ b : Nat) : Int) := by
  have h2 : 2 ^ b < 2 ^ 64 := Nat.pow_lt_pow_right (by omega) hb
  rw [Nat.min_eq_left (by omega), Int.one_mul, pow_nat, IntKind.wrap_u64, ← bits_or_u64_nat m (2 ^ b) hm h2]
  congr 1
  generalize 2 ^ b = q at *
  omega
theorem and_any (l : List Nat) (T : Nat) : ((orM 0 l &&& T) != 0) = l.any (fun b => T.testBit b) := by
  rw [Bool.eq_iff_iff, bne_iff_ne, List.any_eq_true]
  constructor
  · intro h
    apply Classical.byContradiction
    intro hn
    refine h (Nat.eq_of_testBit_eq fun i => ?_)
    simp only [Nat.testBit_and, orM_bit, Nat.zero_testBit, Bool.false_or]
    rw [Bool.and_eq_false_iff]
    by_cases hi : l.contains i = true
    · right
      cases ht : T.testBit i with
      | false => rfl
      | true => exact absurd ⟨i, by simpa using hi, ht⟩ hn
    · left; simpa using hi
  · rintro ⟨b, hb, ht⟩ h0
    have : (orM 0 l &&& T).testBit b = true := by
      rw [Nat.testBit_and, orM_bit, ht, Bool.and_true, Nat.zero_testBit, Bool.false_or]; simpa using hb
    rw [h0, Nat.zero_testBit] at this; cases this
theorem clash_eq {gd : Bool} {ln : Int} {seen : List Sg} {T : Nat} (hT : TkI gd seen T) (s : Sg) (hs : inG gd ln s = true) : (bif (bitsL s).any (fun b => T.testBit b) then true else seen.any fun x => sameN x s) = clash seen s := by
  rw [Bool.eq_iff_iff]
  simp only [Bool.cond_true_left, Bool.or_eq_true, clash, List.any_eq_true, List.contains_iff_mem]
  simp only [inG, List.all_eq_true, Bool.and_eq_true] at hs
  constructor
  · rintro (⟨b, hb, ht⟩ | ⟨x, hx, hn⟩)
    · rw [hT.2] at ht
      have hg := (hs b hb).2
      simp only [Bool.not_eq_true'] at hg
      rw [hg, Bool.false_or, List.any_eq_true] at ht
      obtain ⟨x, hx, hc⟩ := ht
      exact ⟨x, hx, .inr ⟨b, by simpa using hc, hb⟩⟩
    · exact ⟨x, hx, .inl hn⟩
  · rintro ⟨x, hx, hn | ⟨b, hb, hc⟩⟩
    · exact .inr ⟨x, hx, hn⟩
    · refine .inl ⟨b, hc, ?_⟩
      rw [hT.2, Bool.or_eq_true, List.any_eq_true]
      exact .inr ⟨x, hx, by simpa using hb⟩
theorem TkI.next {gd : Bool} {seen : List Sg} {T : Nat} (hT : TkI gd seen T) (s : Sg) (hb : ∀ b ∈ bitsL s, b < 64) : TkI gd (seen ++ [s]) (T ||| orM 0 (bitsL s)) := by
  refine ⟨Nat.or_lt_two_pow hT.1 (orM_lt _ _ (by omega) hb), fun b => ?_⟩
  rw [Nat.testBit_or, hT.2, orM_bit, Nat.zero_testBit, Bool.false_or, List.any_append, Bool.or_assoc]
  simp
theorem ssignals (f : Fm) (hf : f.ok) (h0 : 1 ≤ f.ln) (h8 : f.ln ≤ 8) : CallOk Try.prog 97 [fm5 1 f] [bS 1 f.sgs] (tupS (sgE f.gd f.ln [] f.sgs)) [] := by
  have hM : ClM [bS 1 f.sgs] := ClM.v (by simp only [List.all_cons, v_ss]; rfl)
  refine CallOk.mkN 100 Try.func97 rfl en97 (by simp [Try.ntmps97]) (ClA.of rfl) rfl rfl fun C hR hP => ?_
  simp (config := { maxSteps := 2000000 }) only [go_sem, Nat.reduceBEq, Nat.reduceAdd, Nat.reduceLT, Nat.reduceLeDiff, Nat.reduceEqDiff, reduceCtorEq, Int.reduceAdd, Int.reduceSub, Int.reduceNeg, Int.reduceLE, Int.reduceLT, Int.reduceToNat, Int.reduceBEq, Int.reduceBNe, Int.reduceEq, Int.reduceNe, Int.toNat_zero, Int.toNat_one, bne_self_eq_false, Nat.reduceMul, Nat.zero_mul, Nat.mul_one, Nat.one_mul, Nat.reduceSub, Int.cast_ofNat_Int, Int.toNat_natCast]
  refine mtch (fun hg => ?_) (fun hg => ?_)
  all_goals
    first | (have hgm : ((gM f.gd : Nat) : Int) = 4095 := by rw [hg]; rfl) | (have hgm : ((gM f.gd : Nat) : Int) = 0 := by rw [hg]; rfl)
    refine Sm.loopM (M0 := [bS 1 f.sgs]) (α := { p : Nat × Nat // p.1 ≤ f.sgs.length ∧ TkI f.gd (f.sgs.take p.1) p.2 ∧ sgE f.gd f.ln [] f.sgs = sgE f.gd f.ln (f.sgs.take p.1) (f.sgs.drop p.1) }) hP (fun p => [(1, true, .c (.p 4 0)), (4, true, U p.val.2), (5, true, U (gM f.gd)), (15, true, .c (.sl 1 0 f.sgs.length 10)), (16, true, I f.sgs.length), (17, true, I p.val.1)])
      (fun _ => [(4, ⟨false, fmL 1 f, 24⟩), bS 1 f.sgs]) (fun p => f.sgs.length - p.val.1) ⟨(0, gM f.gd), by simp, ⟨by cases f.gd <;> decide, fun b => by rw [gM_bit]; simp⟩, by simp⟩ (fun _ => ClM.of (by simp only [List.all_cons, inMV (v_ss _)]; rfl)) (fun _ => ClE.of rfl) [(1, 1), (4, 100)] ?_ ?_
    · simp only [U, hgm]
      exact ⟨rfl, ⟨⟨rfl, rfl⟩, trivial⟩, ⟨rfl, rfl, rfl, rfl, rfl, rfl, trivial⟩, ⟨.inr ⟨_, rfl, .inl rfl⟩, .inr ⟨_, rfl, .inl (renV (v_ss _))⟩, trivial⟩⟩
    · rintro ⟨⟨i, T⟩, hi, hT, hx⟩ J hb
      simp only at hb hi hT hx ⊢
      refine Sm.go 120 ?_
      simp (config := { maxSteps := 2000000 }) only [go_sem, Nat.reduceBEq, Nat.reduceAdd, Nat.reduceLT, Nat.reduceLeDiff, Nat.reduceEqDiff, reduceCtorEq, Int.reduceAdd, Int.reduceSub, Int.reduceNeg, Int.reduceLE, Int.reduceLT, Int.reduceToNat, Int.reduceBEq, Int.reduceBNe, Int.reduceEq, Int.reduceNe, Int.toNat_zero, Int.toNat_one, bne_self_eq_false, Nat.reduceMul, Nat.zero_mul, Nat.mul_one, Nat.one_mul, Nat.reduceSub, Int.cast_ofNat_Int, Int.toNat_natCast]
      refine mtch (fun hc => ?_) (fun hc => ?_)
      · have hc : i < f.sgs.length := by simp at hc; omega
        have hi' : f.sgs[i] ∈ f.sgs := List.getElem_mem hc
        have htk := ss_take f.sgs i hc
        simp only [htk]
        refine ⟨⟨by omega, by omega⟩, by rw [ss_len]; omega, ?_⟩
        simp (config := { maxSteps := 2000000 }) only [go_sem, Nat.reduceBEq, Nat.reduceAdd, Nat.reduceLT, Nat.reduceLeDiff, Nat.reduceEqDiff, reduceCtorEq, Int.reduceAdd, Int.reduceSub, Int.reduceNeg, Int.reduceLE, Int.reduceLT, Int.reduceToNat, Int.reduceBEq, Int.reduceBNe, Int.reduceEq, Int.reduceNe, Int.toNat_zero, Int.toNat_one, bne_self_eq_false, Nat.reduceMul, Nat.zero_mul, Nat.mul_one, Nat.one_mul, Nat.reduceSub, Int.cast_ofNat_Int, Int.toNat_natCast]
        have hdr : f.sgs.drop i = f.sgs[i] :: f.sgs.drop (i + 1) := List.drop_eq_getElem_cons hc
        have htk1 : f.sgs.take (i + 1) = f.sgs.take i ++ [f.sgs[i]] := by rw [List.take_succ_eq_append_getElem hc]
        generalize hs : f.sgs[i] = s at *
        refine CallQ.pure 130 (svalid s (hf.s s hi')) rfl ?_
        simp (config := { maxSteps := 2000000 }) only [go_sem, Nat.reduceBEq, Nat.reduceAdd, Nat.reduceLT, Nat.reduceLeDiff, Nat.reduceEqDiff, reduceCtorEq, Int.reduceAdd, Int.reduceSub, Int.reduceNeg, Int.reduceLE, Int.reduceLT, Int.reduceToNat, Int.reduceBEq, Int.reduceBNe, Int.reduceEq, Int.reduceNe, Int.toNat_zero, Int.toNat_one, bne_self_eq_false, Nat.reduceMul, Nat.zero_mul, Nat.mul_one, Nat.one_mul, Nat.reduceSub, Int.cast_ofNat_Int, Int.toNat_natCast]
        refine mtch (fun hv => ?_) (fun hv => ?_)
        · have hv : sok s = false := by simpa using hv
          refine RetQ.of hR rfl ⟨rfl, rfl, trivial⟩ ?_ (Sub.one rfl (.inl rfl)) hM (ClV.of rfl)
          rw [hx, hdr, sgE, prE, hv]; rfl
        · have hv : sok s = true := by simpa using hv
          refine CallQ.ren [(1, 130)] 131 (sbits s (hf.s s hi')) (ClM.of rfl) rfl rfl trivial rfl (.inl rfl) ?_
          simp only [Mem.ren, List.map_cons, List.map_nil, Bk.ren, List.map_map, V.ren, W.ren, Cv.ren, rn, Nat.reduceBEq, cond_true, cond_false, Function.comp_def]
          simp (config := { maxSteps := 2000000 }) only [go_sem, Nat.reduceBEq, Nat.reduceAdd, Nat.reduceLT, Nat.reduceLeDiff, Nat.reduceEqDiff, reduceCtorEq, Int.reduceAdd, Int.reduceSub, Int.reduceNeg, Int.reduceLE, Int.reduceLT, Int.reduceToNat, Int.reduceBEq, Int.reduceBNe, Int.reduceEq, Int.reduceNe, Int.toNat_zero, Int.toNat_one, bne_self_eq_false, Nat.reduceMul, Nat.zero_mul, Nat.mul_one, Nat.one_mul, Nat.reduceSub, Int.cast_ofNat_Int, Int.toNat_natCast]
          refine Sm.loopM (M0 := [bS 1 f.sgs]) (α := { k : Nat // k ≤ (bitsL s).length ∧ ∀ b ∈ (bitsL s).take k, (decide ((b : Int) < 8 * f.ln) && !(f.gd && decide (b < 12))) = true }) hP (fun k => [(1, true, .c (.p 4 0)), (4, true, U T), (5, true, U (gM f.gd)), (6, true, I i), (7, true, .c (.p 5 0)), (8, true, U (orM 0 ((bitsL s).take k.val))), (15, true, .c (.sl 1 0 f.sgs.length 10)), (16, true, I f.sgs.length), (17, true, I i), (28, true, slV 6 (bitsL s).length), (29, true, I (bitsL s).length), (30, true, I k.val)])
            (fun _ => [(4, ⟨false, fmL 1 f, 24⟩), (5, ⟨false, sgL s, 33⟩), bN 6 (bitsL s), bS 1 f.sgs]) (fun k => (bitsL s).length - k.val) ⟨0, by omega, by simp⟩ (fun _ => ClM.of (by simp only [List.all_cons, inMV (v_ss _), inMV (v_n _)]; rfl)) (fun _ => ClE.of rfl) [(1, 1), (4, 4), (5, 120), (6, 130)] ?_ ?_
          · exact ⟨rfl, ⟨⟨rfl, rfl⟩, trivial⟩, ⟨rfl, rfl, rfl, rfl, rfl, rfl, rfl, rfl, rfl, rfl, rfl, rfl, trivial⟩, ⟨.inr ⟨_, rfl, .inl rfl⟩, .inr ⟨_, rfl, .inl rfl⟩, .inr ⟨_, rfl, .inl (renV (v_n _))⟩, .inr ⟨_, rfl, .inl (renV (v_ss _))⟩, trivial⟩⟩
          · rintro ⟨k, hk, hq⟩ J' hb'
            simp only at hb' hk hq ⊢
            refine Sm.go 140 ?_
            simp (config := { maxSteps := 2000000 }) only [go_sem, Nat.reduceBEq, Nat.reduceAdd, Nat.reduceLT, Nat.reduceLeDiff, Nat.reduceEqDiff, reduceCtorEq, Int.reduceAdd, Int.reduceSub, Int.reduceNeg, Int.reduceLE, Int.reduceLT, Int.reduceToNat, Int.reduceBEq, Int.reduceBNe, Int.reduceEq, Int.reduceNe, Int.toNat_zero, Int.toNat_one, bne_self_eq_false, Nat.reduceMul, Nat.zero_mul, Nat.mul_one, Nat.one_mul, Nat.reduceSub, Int.cast_ofNat_Int, Int.toNat_natCast]
            refine mtch (fun hkc => ?_) (fun hkc => ?_)
            · have hkc : k < (bitsL s).length := by simp at hkc; omega
              have w8 : IntKind.i64.wrap (8 * f.ln) = 8 * f.ln := w64 (by omega) (by omega)
              simp only [get_n hkc]
              simp (config := { maxSteps := 2000000 }) only [go_sem, Nat.reduceBEq, Nat.reduceAdd, Nat.reduceLT, Nat.reduceLeDiff, Nat.reduceEqDiff, reduceCtorEq, Int.reduceAdd, Int.reduceSub, Int.reduceNeg, Int.reduceLE, Int.reduceLT, Int.reduceToNat, Int.reduceBEq, Int.reduceBNe, Int.reduceEq, Int.reduceNe, Int.toNat_zero, Int.toNat_one, bne_self_eq_false, Nat.reduceMul, Nat.zero_mul, Nat.mul_one, Nat.one_mul, Nat.reduceSub, Int.cast_ofNat_Int, Int.toNat_natCast]
              refine ⟨⟨by omega, by omega⟩, ?_⟩
              have hbm : (bitsL s).getD k 0 ∈ bitsL s := by rw [List.getD_eq_getElem?_getD, List.getElem?_eq_getElem hkc]; exact List.getElem_mem hkc
              have htk2 : (bitsL s).take (k + 1) = (bitsL s).take k ++ [(bitsL s).getD k 0] := by rw [List.take_succ_eq_append_getElem hkc, List.getD_eq_getElem?_getD, List.getElem?_eq_getElem hkc]; rfl
              generalize hbd : (bitsL s).getD k 0 = b at *
              have hgl : gM f.gd < 2 ^ 64 := by cases f.gd <;> decide
              have e2 : (bif decide (IntKind.i64.wrap (8 * f.ln) ≤ (b : Int)) then true else bits .and .u64 ((gM f.gd : Int).fdiv (2 ^ min b 64)) 1 == 1) = !(decide ((b : Int) < 8 * f.ln) && !(f.gd && decide (b < 12))) := by
                rw [w8, and_bit _ _ hgl, gM_bit]
                generalize (f.gd && decide (b < 12)) = z
                by_cases hlt : (b : Int) < 8 * f.ln
                · rw [tru_of hlt, fal_of (show ¬ 8 * f.ln ≤ (b : Int) by omega)]; cases z <;> rfl
                · rw [fal_of hlt, tru_of (show 8 * f.ln ≤ (b : Int) by omega)]; rfl
              simp only [e2]
              refine ⟨fun h => ⟨h, by omega⟩, ?_⟩
              refine mtch (fun hz => ?_) (fun hz => ?_)
              · refine RetQ.of hR rfl ⟨rfl, rfl, trivial⟩ ?_ (Sub.one rfl (.inl rfl)) hM (ClV.of rfl)
                have hng : inG f.gd f.ln s = false := by
                  rw [inG, List.all_eq_false]
                  exact ⟨b, hbm, by simpa only [Bool.not_eq_true'] using Bool.eq_false_iff.1 (Bool.not_eq_true' _ ▸ hz)⟩
                rw [hx, hdr, sgE, prE, hv, hng]; rfl
              · have hz : (decide ((b : Int) < 8 * f.ln) && !(f.gd && decide (b < 12))) = true := by rw [Bool.not_eq_false'] at hz; exact hz
                have hb64 : b < 64 := by rw [Bool.and_eq_true, decide_eq_true_eq] at hz; omega
                have hall : ∀ c ∈ (bitsL s).take (k + 1), (decide ((c : Int) < 8 * f.ln) && !(f.gd && decide (c < 12))) = true := by
                  intro c hcm
                  rw [htk2, List.mem_append, List.mem_singleton] at hcm
                  rcases hcm with h | rfl
                  · exact hq c h
                  · exact hz
                have ho : orM 0 ((bitsL s).take k) < 2 ^ 64 := orM_lt _ _ (by omega) (fun c hcm => by
                  have := hq c hcm
                  rw [Bool.and_eq_true, decide_eq_true_eq] at this; omega)
                have hor := or_bit _ b ho hb64
                rw [← orM_snoc, ← htk2] at hor
                have w1 : IntKind.i64.wrap ((k : Int) + 1) = ((k + 1 : Nat) : Int) := by
                  have : (bitsL s).length ≤ 32 := by rw [bitsL_length hv]; have := sok_bd hv; omega
                  rw [w64 (by omega) (by omega)]; omega
                simp only [hor, w1]
                exact ⟨by omega, hb' _ _ ⟨k + 1, hkc, hall⟩ [(1, 1), (4, 4), (5, 5), (6, 6)] (by simp only; omega) ⟨rfl, ⟨⟨rfl, rfl⟩, trivial⟩, ⟨rfl, rfl, rfl, rfl, rfl, rfl, rfl, rfl, rfl, rfl, rfl, rfl, trivial⟩, ⟨.inr ⟨_, rfl, .inl rfl⟩, .inr ⟨_, rfl, .inl rfl⟩, .inr ⟨_, rfl, .inl (renV (v_n _))⟩, .inr ⟨_, rfl, .inl (renV (v_ss _))⟩, trivial⟩⟩⟩
            · have hkc : k = (bitsL s).length := by simp at hkc; omega
              subst hkc
              rw [List.take_length] at hq
              have hin : inG f.gd f.ln s = true := by rw [inG, List.all_eq_true]; exact hq
              have hb64 : ∀ b ∈ bitsL s, b < 64 := fun b hbm => by
                have := hq b hbm
                rw [Bool.and_eq_true, decide_eq_true_eq] at this; omega
              have ho : orM 0 (bitsL s) < 2 ^ 64 := orM_lt _ _ (by omega) hb64
              simp only [List.take_length]
              have e5 : (bits .and .u64 ((orM 0 (bitsL s) : Nat) : Int) (T : Int) != 0) = (bitsL s).any (fun b => T.testBit b) := by
                rw [bits_and_u64_nat _ _ ho hT.1, ← and_any, Bool.eq_iff_iff, bne_iff_ne, bne_iff_ne]; omega
              simp only [e5]
              generalize han : (bitsL s).any (fun b => T.testBit b) = a at *
              refine ⟨by intro h; simp only [h, ss_len, true_and]; omega, ?_⟩
              refine CallQ.gmem [(1, 1), (2, 5)] 150 (fun _ => scon f.sgs i hi hf.k s) (ClM.v (by simp only [List.all_cons, v_ss, v_s]; rfl)) rfl (fun h => by rw [h]; rfl) ⟨⟨_, rfl, .inl (renV (v_ss _))⟩, ⟨_, rfl, .inr ⟨rfl, [], rfl⟩⟩, trivial⟩ ?_
              simp (config := { maxSteps := 2000000 }) only [go_sem, Nat.reduceBEq, Nat.reduceAdd, Nat.reduceLT, Nat.reduceLeDiff, Nat.reduceEqDiff, reduceCtorEq, Int.reduceAdd, Int.reduceSub, Int.reduceNeg, Int.reduceLE, Int.reduceLT, Int.reduceToNat, Int.reduceBEq, Int.reduceBNe, Int.reduceEq, Int.reduceNe, Int.toNat_zero, Int.toNat_one, bne_self_eq_false, Nat.reduceMul, Nat.zero_mul, Nat.mul_one, Nat.one_mul, Nat.reduceSub, Int.cast_ofNat_Int, Int.toNat_natCast]
              have e6 : (bif a then true else (f.sgs.take i).any fun x => sameN x s) = clash (f.sgs.take i) s := by rw [← han]; exact clash_eq hT s hin
              simp only [e6]
              refine mtch (fun hz => ?_) (fun hz => ?_)
              · refine RetQ.of hR rfl ⟨rfl, rfl, trivial⟩ ?_ (Sub.one rfl (.inl rfl)) hM (ClV.of rfl)
                rw [hx, hdr, sgE, prE, hv, hin, hz]; rfl
              · have w1 : IntKind.i64.wrap ((i : Int) + 1) = ((i + 1 : Nat) : Int) := by have := hf.k; rw [w64 (by omega) (by omega)]; omega
                simp only [bits_or_u64_nat _ _ hT.1 ho, w1]
                refine hb _ _ ⟨(i + 1, T ||| orM 0 (bitsL s)), hc, ?_, ?_⟩ [(1, 1), (4, 4)] (by simp only; omega) ⟨rfl, ⟨⟨rfl, rfl⟩, trivial⟩, ⟨rfl, rfl, rfl, rfl, rfl, rfl, trivial⟩, ⟨.inr ⟨_, rfl, .inl rfl⟩, .inr ⟨_, rfl, .inl (renV (v_ss _))⟩, trivial⟩⟩
                · simp only [htk1]; exact hT.next s hb64
                · simp only [htk1]; rw [hx, hdr, sgE, prE, hv, hin, hz]; rfl
      · have hc : i = f.sgs.length := by simp at hc; omega
        subst hc
        refine RetQ.of hR rfl ⟨rfl, rfl, trivial⟩ ?_ (Sub.one rfl (.inl rfl)) hM (ClV.of rfl)
        rw [hx, List.drop_length]; rfl
end Go.Proofs.Ytcdclmelnnbdnaa
