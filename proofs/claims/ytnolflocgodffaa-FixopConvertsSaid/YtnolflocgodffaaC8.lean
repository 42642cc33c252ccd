/- Contract of the reference's Compare (continued fractions). -/
import Derived.Test.YtnolflocgodffaaC7
namespace Go.Proofs.Ytnolflocgodffaa
open Vg Tf
set_option linter.unusedSimpArgs false
set_option linter.unusedVariables false
set_option maxRecDepth 100000
theorem rfloor (a b : Int) (ha1 : -4611686018427387904 ≤ a) (ha2 : a ≤ 4611686018427387904) (hb : 0 < b) (hb2 : b ≤ 4611686018427387904) : CallOk Try.prog 84 [I a, I b] [] (I (a / b)) [] := by
  refine CallOk.mk 100 Try.func84 rfl en84 (by simp [Try.ntmps84]) (by simp [ClV, V.g, Cv.g]) fun C hR => ?_
  simp (config := { maxSteps := 2000000 }) only [go_sem, Nat.reduceBEq, Nat.reduceAdd, Nat.reduceLT, Nat.reduceLeDiff, Nat.reduceEqDiff, reduceCtorEq, Int.reduceAdd, Int.reduceSub, Int.reduceNeg, Int.reduceLE, Int.reduceLT, Int.reduceToNat, Int.reduceBEq, Int.reduceBNe, Int.reduceEq, Int.reduceNe, Int.toNat_zero, Int.toNat_one, bne_self_eq_false, Nat.reduceMul, Nat.zero_mul, Nat.mul_one, Nat.one_mul, Nat.reduceSub, Int.cast_ofNat_Int, Int.toNat_natCast]
  refine ⟨by omega, by omega, ?_⟩
  have q := quo_bd a b hb
  have h1 := Int.mul_tdiv_add_tmod a b
  have h2 := Int.mul_ediv_add_emod a b
  have h3 := Int.emod_nonneg a (show b ≠ 0 by omega)
  have h4 := Int.emod_lt_of_pos a hb
  have h5 := Int.tmod_lt_of_pos a hb
  have key : (a.tmod b < 0 → a.tdiv b = a / b + 1) ∧ (¬ a.tmod b < 0 → a.tdiv b = a / b) := by
    rcases Int.lt_or_le a 0 with h | h
    · by_cases hz : a % b = 0
      · have hd : b ∣ a := Int.dvd_of_emod_eq_zero hz
        have e := tdiv_exact hd
        rw [e] at h1 ⊢
        exact ⟨fun hh => by omega, fun _ => rfl⟩
      · have e : a.tdiv b = a / b + 1 := by
          rw [Int.tdiv_eq_ediv]
          have : ¬ b ∣ a := fun hd => hz (Int.emod_eq_zero_of_dvd hd)
          rw [if_neg (by omega), Int.sign_eq_one_of_pos hb]
        rw [e] at h1 ⊢
        rw [Int.mul_add] at h1
        exact ⟨fun _ => rfl, fun hh => by omega⟩
    · rw [Int.tdiv_eq_ediv_of_nonneg h, Int.tmod_eq_emod_of_nonneg h]
      exact ⟨fun hh => by omega, fun _ => rfl⟩
  by_cases hm : a.tmod b < 0
  · have dm : decide (a.tmod b < 0) = true := by simpa using hm
    simp only [dm]
    refine RetQ.int hR rfl ⟨rfl, trivial⟩ ?_
    rw [key.1 hm, show IntKind.i64.wrap (a / b + 1) = a / b + 1 from w64 (by omega) (by omega), w64 (by omega) (by omega)]
    omega
  · have dm : decide (a.tmod b < 0) = false := by simpa using hm
    simp only [dm]
    refine RetQ.int hR rfl ⟨rfl, trivial⟩ ?_
    rw [key.2 hm, w64 (by omega) (by omega)]
theorem Sub.cons {M r : Mem} {n : Nat} {b : Bk} (h : M.get n = some b) (hr : Sub r M) : Sub ((n, b) :: r) M := fun k c hk => by
  simp only [Mem.get] at hk
  cases hkn : (n == k) with
  | true =>
    rw [hkn] at hk
    have : n = k := by simpa using hkn
    subst this
    simp at hk
    subst hk
    exact ⟨b, h, .inl rfl⟩
  | false => rw [hkn] at hk; exact hr k c hk
/-- The state of the loop: two ratios that compare as the first two. -/
structure Cst (s : Int) where
  an : Int
  ad : Int
  bn : Int
  bd : Int
  h1 : rok an ad
  h2 : rok bn bd
  hs : cmpF (an * bd) (bn * ad) = s
theorem cmpF_congr {x y x' y' : Int} (h : x - y = x' - y') : cmpF x y = cmpF x' y' := by
  unfold cmpF; split <;> split <;> (try split) <;> (try split) <;> omega
theorem fl_lt {an ad bn bd : Int} (h1 : 0 < ad) (h2 : 0 < bd) (h : an / ad < bn / bd) : an * bd < bn * ad := by
  have e1 := Int.mul_ediv_add_emod an ad
  have e2 := Int.emod_lt_of_pos an h1
  have e3 := Int.mul_ediv_add_emod bn bd
  have e4 := Int.emod_nonneg bn (show bd ≠ 0 by omega)
  generalize an / ad = p at *
  generalize bn / bd = q at *
  have s0 := Int.mul_le_mul_of_nonneg_left (show p + 1 ≤ q by omega) (show 0 ≤ ad by omega)
  rw [Int.mul_add] at s0
  have s1 := Int.mul_lt_mul_of_pos_right (show an < ad * q by omega) h2
  have s2 := Int.mul_le_mul_of_nonneg_right (show bd * q ≤ bn by omega) (show 0 ≤ ad by omega)
  have : ad * q * bd = bd * q * ad := by grind
  omega
def cE : Env := [(2, true, .c (.p 100 0)), (3, true, .c (.p 101 0))]
def cM (an ad bn bd : Int) : Mem := [(101, ⟨false, [ci bn, ci bd], 51⟩), (100, ⟨false, [ci an, ci ad], 51⟩)]
theorem cE_cl (an ad bn bd : Int) : ∀ p ∈ cE, ClV (cM an ad bn bd) p.2.2 := by
  intro p hp β β' h
  simp only [cE, List.mem_cons, List.not_mem_nil, or_false] at hp
  rcases hp with rfl | rfl
  · simp [V.g, Cv.g, h 100 (by simp [cM, Mem.get])]
  · simp [V.g, Cv.g, h 101 (by simp [cM, Mem.get])]
theorem rcompare (a b c d : Int) (h1 : rok a b) (h2 : rok c d) : CallOk Try.prog 51 [ra a b, ra c d] [] (I (cmpF (a * d) (c * b))) [] := by
  refine CallOk.mk 100 Try.func51 rfl en51 (by simp [Try.ntmps51]) (by simp [ClV, V.g, Cv.g, ra, ci]) fun C hR => ?_
  simp (config := { maxSteps := 2000000 }) only [go_sem, Nat.reduceBEq, Nat.reduceAdd, Nat.reduceLT, Nat.reduceLeDiff, Nat.reduceEqDiff, reduceCtorEq, Int.reduceAdd, Int.reduceSub, Int.reduceNeg, Int.reduceLE, Int.reduceLT, Int.reduceToNat, Int.reduceBEq, Int.reduceBNe, Int.reduceEq, Int.reduceNe, Int.toNat_zero, Int.toNat_one, bne_self_eq_false, Nat.reduceMul, Nat.zero_mul, Nat.mul_one, Nat.one_mul, Nat.reduceSub, Int.cast_ofNat_Int, Int.toNat_natCast]
  refine Sm.loop (α := Cst (cmpF (a * d) (c * b))) (fun _ => cE) (fun x => cM x.an x.ad x.bn x.bd) (fun x => x.ad.toNat + x.bd.toNat) ⟨a, b, c, d, h1, h2, rfl⟩
    (Wkn.mk ⟨rfl, rfl, trivial⟩ (Sub.cons rfl (Sub.cons rfl (Sub.nil _))) (ClM.v rfl) (cE_cl _ _ _ _) (fun n l h => by have := hR.1 n l h; cases this)) ?_
  rintro ⟨an, ad, bn, bd, k1, k2, hs⟩ J hb
  simp only at hb ⊢
  generalize cmpF (a * d) (c * b) = s at hR hs hb
  refine Sm.go 102 ?_
  simp only [cE, cM]
  simp (config := { maxSteps := 2000000 }) only [go_sem, Nat.reduceBEq, Nat.reduceAdd, Nat.reduceLT, Nat.reduceLeDiff, Nat.reduceEqDiff, reduceCtorEq, Int.reduceAdd, Int.reduceSub, Int.reduceNeg, Int.reduceLE, Int.reduceLT, Int.reduceToNat, Int.reduceBEq, Int.reduceBNe, Int.reduceEq, Int.reduceNe, Int.toNat_zero, Int.toNat_one, bne_self_eq_false, Nat.reduceMul, Nat.zero_mul, Nat.mul_one, Nat.one_mul, Nat.reduceSub, Int.cast_ofNat_Int, Int.toNat_natCast]
  have k1' := k1
  have k2' := k2
  unfold rok at k1 k2
  refine Sm.dgo 102 11 mix (by decide +kernel) (by decide +kernel) ?_
  simp (config := { maxSteps := 2000000 }) only [go_sem, Nat.reduceBEq, Nat.reduceAdd, Nat.reduceLT, Nat.reduceLeDiff, Nat.reduceEqDiff, reduceCtorEq, Int.reduceAdd, Int.reduceSub, Int.reduceNeg, Int.reduceLE, Int.reduceLT, Int.reduceToNat, Int.reduceBEq, Int.reduceBNe, Int.reduceEq, Int.reduceNe, Int.toNat_zero, Int.toNat_one, bne_self_eq_false, Nat.reduceMul, Nat.zero_mul, Nat.mul_one, Nat.one_mul, Nat.reduceSub, Int.cast_ofNat_Int, Int.toNat_natCast]
  refine DCallQ.pure 102 (rfloor an ad (by omega) (by omega) (by omega) (by omega)) rfl ?_
  simp (config := { maxSteps := 2000000 }) only [go_sem, Nat.reduceBEq, Nat.reduceAdd, Nat.reduceLT, Nat.reduceLeDiff, Nat.reduceEqDiff, reduceCtorEq, Int.reduceAdd, Int.reduceSub, Int.reduceNeg, Int.reduceLE, Int.reduceLT, Int.reduceToNat, Int.reduceBEq, Int.reduceBNe, Int.reduceEq, Int.reduceNe, Int.toNat_zero, Int.toNat_one, bne_self_eq_false, Nat.reduceMul, Nat.zero_mul, Nat.mul_one, Nat.one_mul, Nat.reduceSub, Int.cast_ofNat_Int, Int.toNat_natCast]
  refine DCallQ.pure 102 (rfloor bn bd (by omega) (by omega) (by omega) (by omega)) rfl ?_
  simp (config := { maxSteps := 2000000 }) only [go_sem, Nat.reduceBEq, Nat.reduceAdd, Nat.reduceLT, Nat.reduceLeDiff, Nat.reduceEqDiff, reduceCtorEq, Int.reduceAdd, Int.reduceSub, Int.reduceNeg, Int.reduceLE, Int.reduceLT, Int.reduceToNat, Int.reduceBEq, Int.reduceBNe, Int.reduceEq, Int.reduceNe, Int.toNat_zero, Int.toNat_one, bne_self_eq_false, Nat.reduceMul, Nat.zero_mul, Nat.mul_one, Nat.one_mul, Nat.reduceSub, Int.cast_ofNat_Int, Int.toNat_natCast]
  by_cases hl : an / ad < bn / bd
  · have dl : decide (an / ad < bn / bd) = true := by simpa using hl
    simp only [dl]
    have := fl_lt (by omega) (by omega) hl
    exact RetQ.int hR rfl ⟨rfl, trivial⟩ (by rw [← hs]; unfold cmpF; rw [if_pos this])
  have dl : decide (an / ad < bn / bd) = false := by simpa using hl
  simp only [dl]
  by_cases hg : bn / bd < an / ad
  · have dg : decide (bn / bd < an / ad) = true := by simpa using hg
    simp only [dg]
    have := fl_lt (by omega) (by omega) hg
    exact RetQ.int hR rfl ⟨rfl, trivial⟩ (by rw [← hs]; unfold cmpF; rw [if_neg (by omega), if_pos this])
  have dg : decide (bn / bd < an / ad) = false := by simpa using hg
  simp only [dg]
  refine Sm.dgo 102 15 mix (by decide +kernel) (by decide +kernel) ?_
  simp (config := { maxSteps := 2000000 }) only [go_sem, Nat.reduceBEq, Nat.reduceAdd, Nat.reduceLT, Nat.reduceLeDiff, Nat.reduceEqDiff, reduceCtorEq, Int.reduceAdd, Int.reduceSub, Int.reduceNeg, Int.reduceLE, Int.reduceLT, Int.reduceToNat, Int.reduceBEq, Int.reduceBNe, Int.reduceEq, Int.reduceNe, Int.toNat_zero, Int.toNat_one, bne_self_eq_false, Nat.reduceMul, Nat.zero_mul, Nat.mul_one, Nat.one_mul, Nat.reduceSub, Int.cast_ofNat_Int, Int.toNat_natCast]
  have e1 := Int.mul_ediv_add_emod an ad
  have e2 := Int.emod_nonneg an (show ad ≠ 0 by omega)
  have e3 := Int.emod_lt_of_pos an (show 0 < ad by omega)
  have f1 := Int.mul_ediv_add_emod bn bd
  have f2 := Int.emod_nonneg bn (show bd ≠ 0 by omega)
  have f3 := Int.emod_lt_of_pos bn (show 0 < bd by omega)
  have hpq : an / ad = bn / bd := by omega
  have ex : IntKind.i64.wrap (an - IntKind.i64.wrap (an / ad * ad)) = an % ad := by
    rw [show an / ad * ad = an - an % ad by rw [Int.mul_comm]; omega, show IntKind.i64.wrap (an - an % ad) = an - an % ad from w64 (by omega) (by omega), w64 (by omega) (by omega)]
    omega
  have ey : IntKind.i64.wrap (bn - IntKind.i64.wrap (bn / bd * bd)) = bn % bd := by
    rw [show bn / bd * bd = bn - bn % bd by rw [Int.mul_comm]; omega, show IntKind.i64.wrap (bn - bn % bd) = bn - bn % bd from w64 (by omega) (by omega), w64 (by omega) (by omega)]
    omega
  simp only [ex, ey]
  have hX : an * bd - bn * ad = (an % ad) * bd - (bn % bd) * ad := by
    generalize an % ad = x at *
    generalize bn % bd = y at *
    generalize an / ad = p at *
    generalize bn / bd = q at *
    subst hpq
    rw [← e1, ← f1]
    grind
  generalize an % ad = x at *
  generalize bn % bd = y at *
  by_cases hx : x = 0
  · have dx : (x == 0) = true := by simpa using hx
    have x0 : x * bd = 0 := by rw [hx]; simp
    by_cases hy : y = 0
    · have dy : (y == 0) = true := by simpa using hy
      have y0 : y * ad = 0 := by rw [hy]; simp
      simp only [dx, dy, cond_true]
      exact RetQ.int hR rfl ⟨rfl, trivial⟩ (by rw [← hs]; unfold cmpF; rw [if_neg (by omega), if_neg (by omega)])
    · have dy : (y == 0) = false := by simpa using hy
      have y0 : 0 < y * ad := Int.mul_pos (by omega) (by omega)
      simp only [dx, dy, cond_true, cond_false]
      exact RetQ.int hR rfl ⟨rfl, trivial⟩ (by rw [← hs]; unfold cmpF; rw [if_pos (by omega)])
  · have dx : (x == 0) = false := by simpa using hx
    have x0 : 0 < x * bd := Int.mul_pos (by omega) (by omega)
    by_cases hy : y = 0
    · have dy : (y == 0) = true := by simpa using hy
      have y0 : y * ad = 0 := by rw [hy]; simp
      simp only [dx, dy, cond_true, cond_false]
      exact RetQ.int hR rfl ⟨rfl, trivial⟩ (by rw [← hs]; unfold cmpF; rw [if_neg (by omega), if_pos (by omega)])
    · have dy : (y == 0) = false := by simpa using hy
      simp only [dx, dy, cond_true, cond_false]
      refine hb _ _ ⟨⟨bd, y, ad, x, by unfold rok; omega, by unfold rok; omega, ?_⟩, by simp only; omega, Wkn.mk ⟨rfl, rfl, trivial⟩ (Sub.cons rfl (Sub.cons rfl (Sub.nil _))) (ClM.v rfl) (cE_cl _ _ _ _) (fun n l h => by have := hR.1 n l h; cases this)⟩
      rw [← hs]
      refine cmpF_congr ?_
      rw [hX, Int.mul_comm bd x, Int.mul_comm ad y]
end Go.Proofs.Ytnolflocgodffaa
