/- Ranges: small functions. -/
import Derived.Test.YtkciabfilokfiaaGreatQJ
import Derived.Test.YtkciabfilokfiaaGreatXG1
import Derived.Test.YtkciabfilokfiaaGreatXI6
namespace Go.Proofs.YtkciabfilokfiaaGreat.Fx
open Vg Tf
set_option linter.unusedSimpArgs false
set_option linter.unusedVariables false
set_option maxRecDepth 100000
set_option maxHeartbeats 4000000
@[reducible] def rC (r : Int × Int) : List Cv := [.v (.int .i64 r.1), .v (.int .i64 r.2)]
@[reducible] def rA (r : Int × Int) : V := .agg (rC r)
def truR (m n : Bool) : Int × Int := (bif n then 0 else 1, bif m then 1 else 0)
theorem truth_ (m n : Bool) : CallOk Tryz.prog 218 [Bo m, Bo n] [] (rA (truR m n)) [] := by
  cases m <;> cases n <;>
  · refine CallOk.mkN 100 Tryz.func218 rfl en218 (by simp [Tryz.ntmps218]) (ClA.of rfl) rfl rfl fun C hR hP => ?_
    refine vv ?_
    exact RetQ.of hR rfl (vv trivial) rvv (Sub.nil _) ClM.nil (ClV.of rfl)
def mayQ (r : Int × Int) : Bool × Bool := (!((r.1 == 0) && (r.2 == 0)), bif decide (r.1 ≤ 0) then decide (0 ≤ r.2) else false)
theorem may_ (r : Int × Int) : CallOk Tryz.prog 215 [rA r] [] (.tup [Wb1 (mayQ r).1, Wb1 (mayQ r).2]) [] := by
  refine CallOk.mkN 100 Tryz.func215 rfl en215 (by simp [Tryz.ntmps215]) (ClA.of rfl) rfl rfl fun C hR hP => ?_
  refine vv ?_
  refine Sm.dgo 110 12 mix (by decide +kernel) (by decide +kernel) ?_
  refine vv ?_
  exact RetQ.of hR rfl scc rvv (Sub.nil _) ClM.nil (ClV.of rfl)
def hulR (a b : Int × Int) : Int × Int := (min a.1 b.1, max a.2 b.2)
theorem hull_ (a b : Int × Int) : CallOk Tryz.prog 173 [rA a, rA b] [] (rA (hulR a b)) [] := by
  refine CallOk.mkN 100 Tryz.func173 rfl en173 (by simp [Tryz.ntmps173]) (ClA.of rfl) rfl rfl fun C hR hP => ?_
  refine vv ?_
  exact RetQ.of hR rfl (vv trivial) rvv (Sub.nil _) ClM.nil (ClV.of rfl)
def limR (r : Int × Int) (lo hi : Int) : Int × Int := (min (max r.1 lo) hi, min (max r.2 lo) hi)
theorem limited_ (r : Int × Int) (lo hi : Int) : CallOk Tryz.prog 213 [rA r, I lo, I hi] [] (rA (limR r lo hi)) [] := by
  refine CallOk.mkN 100 Tryz.func213 rfl en213 (by simp [Tryz.ntmps213]) (ClA.of rfl) rfl rfl fun C hR hP => ?_
  refine vv ?_
  exact RetQ.of hR rfl (vv trivial) rvv (Sub.nil _) ClM.nil (ClV.of rfl)
theorem raw_ (t : Ft) (x e : Int) : CallOk Tryz.prog 211 [.agg (vaL t x), I e] [] (I x) [] := by
  refine CallOk.mkN 100 Tryz.func211 rfl en211 (by simp [Tryz.ntmps211]) (ClA.of rfl) rfl rfl fun C hR hP => ?_
  refine vv ?_
  exact RetQ.int hR rfl scc rfl
theorem less_ (a b : Int) (ta tb : Ft) : CallOk Tryz.prog 242 [I a, .agg (ftC ta), I b, .agg (ftC tb)] [] (Bo (lB ta a tb b)) [] := by
  refine CallOk.mkN 100 Tryz.func242 rfl en242 (by simp [Tryz.ntmps242]) (ClA.of rfl) rfl rfl fun C hR hP => ?_
  refine vv ?_
  refine CallQ.pure 110 (fless_ ta a tb b) rfl ?_
  refine vv ?_
  exact RetQ.bool hR rfl scc rfl
theorem conv1_ (x : Int) (a b : Ft) : CallOk Tryz.prog 219 [I x, .c (.p 1 0), .c (.p 2 0)] [(1, ⟨true, ftC a, 43⟩), (2, ⟨true, ftC b, 43⟩)] (I (gR 1 a x b)) [] := by
  refine CallOk.mkN 100 Tryz.func219 rfl en219 (by simp [Tryz.ntmps219]) (ClA.of rfl) rfl rfl fun C hR hP => ?_
  refine vv ?_
  refine CallQ.pure 110 (fconv_ a x b) rfl ?_
  refine vv ?_
  refine CallQ.pure 110 (raw_ (gT a x b) (gR 1 a x b) (gErr a x b)) rfl ?_
  refine vv ?_
  exact RetQ.of hR rfl scc rfl (Sub.refl _) (ClM.of rfl) (ClV.of rfl)
def cnvR (r : Int × Int) (a b : Ft) : Int × Int := (gR 1 a r.1 b, gR 1 a r.2 b)
theorem converted_ (r : Int × Int) (a b : Ft) : CallOk Tryz.prog 174 [rA r, .agg (ftC a), .agg (ftC b)] [] (rA (cnvR r a b)) [] := by
  refine CallOk.mkN 100 Tryz.func174 rfl en174 (by simp [Tryz.ntmps174]) (ClA.of rfl) rfl rfl fun C hR hP => ?_
  refine vv ?_
  refine Sm.dgo 110 7 mix (by decide +kernel) (by decide +kernel) ?_
  refine vv ?_
  refine DCallQ.ren [(1, 101), (2, 102)] 120 (conv1_ r.1 a b) (ClM.of rfl) rfl rfl ?_ rfl (.inr rfl) rfl rfl ?_
  · exact ⟨⟨⟨false, ftC a, 43⟩, rfl, .inr ⟨rfl, [], rfl⟩⟩, ⟨⟨false, ftC b, 43⟩, rfl, .inr ⟨rfl, [], rfl⟩⟩, trivial⟩
  refine vv ?_
  refine CallQ.ren [(1, 101), (2, 102)] 130 (conv1_ r.2 a b) (ClM.of rfl) rfl rfl ?_ rfl (.inr rfl) ?_
  · exact ⟨⟨⟨false, ftC a, 43⟩, rfl, .inr ⟨rfl, [], rfl⟩⟩, ⟨⟨false, ftC b, 43⟩, rfl, .inr ⟨rfl, [], rfl⟩⟩, trivial⟩
  refine vv ?_
  exact RetQ.of hR rfl (vv trivial) rvv (Sub.nil _) ClM.nil (ClV.of rfl)
end Go.Proofs.YtkciabfilokfiaaGreat.Fx
