/-  -/
import Derived.Test.YtkciabfilokfiaaGreatPS
import Derived.Test.YtkciabfilokfiaaGreatQY
namespace Go.Proofs.YtkciabfilokfiaaGreat.Fx
open Vg Tf
set_option linter.unusedSimpArgs false
set_option linter.unusedVariables false
set_option maxRecDepth 100000
set_option maxHeartbeats 4000000
def g1B (c:Cu):Bool:=decide (12<max (c.xs.length:Int) (c.ys.length:Int))
def g2B (m:Mp):Bool:=decide (12<max (max (m.xs.length:Int) (m.ys.length:Int)) (m.zs.length:Int))
def g0B (d:Dg):Bool:=bif bif bif decide (30<(d.bls.length:Int))then decide ((d.bls.length:Int)≤200)else false then true else decide (210<(d.bls.length:Int))then true
 else decide (40<max (max (max (max (d.tys.length:Int) (d.cus.length:Int)) (d.mas.length:Int)) (d.ins.length:Int)) (d.ous.length:Int))
def greatB (d:Dg):Bool:=bif g0B d then true else bif d.cus.any g1B then true else d.mas.any g2B
theorem great1 (c:CuL):CallOk Tryz.prog 40 [rowV (CuL.r c)] [] (Bo (g1B c.c)) []:=by
 refine CallOk.mkN 100 Tryz.func40 rfl en40 (by simp[Tryz.ntmps40]) (ClA.of rfl) rfl rfl fun C hR hP=>?_
 refine vv ?_
 exact RetQ.bool hR rfl scc rfl
theorem great2 (c:MpL):CallOk Tryz.prog 41 [rowV (MpL.r c)] [] (Bo (g2B c.c)) []:=by
 refine CallOk.mkN 100 Tryz.func41 rfl en41 (by simp[Tryz.ntmps41]) (ClA.of rfl) rfl rfl fun C hR hP=>?_
 refine vv ?_
 refine RetQ.bool hR rfl scc ?_
 unfold g2B MpL.c
 simp only[List.length_map]
theorem great_ {H:Hp}(d:DgL)(hd:d.ok H)(hs:d.sm):CallH H Tryz.prog 12 [rowV d.r] (Bo (greatB d.c)):=by
 refine CallH.mkS Tryz.func12 rfl en12 (by simp[Tryz.ntmps12]) (ClA.of rfl) fun C hR hP hH hL=>?_
 refine Sm.go 100 ?_
 refine vv ?_
 have e1:(d.bls.length:Int)=(d.c.bls.length:Int):=by simp[DgL.c]
 have e2:(d.cus.length:Int)=(d.c.cus.length:Int):=by simp[DgL.c]
 have e3:(d.mas.length:Int)=(d.c.mas.length:Int):=by simp[DgL.c]
 have ec:d.cus.any (fun c=>g1B c.c)=d.c.cus.any g1B:=by
  show _=(d.cus.map CuL.c).any g1B
  rw[List.any_map];rfl
 have em:d.mas.any (fun c=>g2B c.c)=d.c.mas.any g2B:=by
  show _=(d.mas.map MpL.c).any g2B
  rw[List.any_map];rfl
 refine mtch (fun h0=>?_) (fun h0=>?_)
 ·rw[e1,e2,e3]at h0
  have h0:g0B d.c=true:=h0
  refine RetQ.bool (hR C hL) rfl scc ?_
  unfold greatB;rw[h0];rfl
 ·rw[e1,e2,e3]at h0
  have h0:g0B d.c=false:=h0
  refine CallQ.h 110 (cofCu d.cu d.cus hd.cu hs.cus.1 40 #[] (fun c=>g1B c.c) (fun c _=>(great1 c).toH)) hH rfl ?_
  refine vv ?_
  refine CallQ.hg 110 (fun _=>cofMa d.ma d.mas hd.ma hs.mas.1 41 #[] (fun c=>g2B c.c) (fun c _=>(great2 c).toH)) hH (fun h=>by rw[h];rfl) ?_
  refine vv ?_
  refine RetQ.bool (hR C hL) rfl scc ?_
  unfold greatB;rw[h0,←ec,←em,cond_false]
end Go.Proofs.YtkciabfilokfiaaGreat.Fx
