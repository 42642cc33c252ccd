/-  -/
import Derived.Test.YtlnpgbnhcondjaaGreatDoorPS
import Derived.Test.YtlnpgbnhcondjaaGreatDoorQ5
namespace Go.Proofs.YtlnpgbnhcondjaaGreatDoor.Fx
open Vg Tf
set_option linter.unusedSimpArgs false
set_option linter.unusedVariables false
set_option maxRecDepth 100000
set_option maxHeartbeats 4000000
structure DgL.sm (d:DgL):Prop where
 nm:d.nm.length≤1000000000000000
 tys:d.tys.length≤1000000000000000∧∀t∈d.tys,t.nm.length≤1000000000000000
 cus:d.cus.length≤1000000000000000∧∀c∈d.cus,c.c.nm.length≤1000000000000000∧c.c.xs.length≤1000000000000000∧c.c.ys.length≤1000000000000000
 mas:d.mas.length≤1000000000000000∧∀m∈d.mas,m.nm.length≤1000000000000000∧∀v∈m.zs,v.2.length≤1000000000000000
 ins:d.ins.length≤1000000000000000∧∀p∈d.ins,p.nm.length≤1000000000000000∧p.ty.length≤1000000000000000
 bls:d.bls.length≤1000000000000000∧∀b∈d.bls,b.c.nm.length≤1000000000000000∧b.c.ty.length≤1000000000000000∧b.c.tb.length≤1000000000000000∧b.c.ins.length≤1000000000000000∧b.c.ks.length≤1000000000000000∧∀s∈b.c.ins,s.length≤1000000000000000
 ous:d.ous.length≤1000000000000000∧∀s∈d.ous,s.length≤1000000000000000
theorem dv1 (t:Td)(h:t.nm.length≤1000000000000000):CallOk Tryz.prog 105 [rowV (Td.r t)] [] (Bo (nmOk t.nm&&fok t.ty)) []:=by
 refine CallOk.mkN 100 Tryz.func105 rfl en105 (by simp[Tryz.ntmps105]) (ClA.of rfl) rfl rfl fun C hR hP=>?_
 refine vv ?_
 refine CallQ.pure 110 (name_ok t.nm h) rfl ?_
 refine vv ?_
 refine CallQ.guard 110 (fun _=>fvalid t.ty) (fun h=>by rw[h];rfl) ?_
 refine vv ?_
 refine RetQ.bool hR rfl ⟨rfl,trivial⟩ ?_
 rw[band_]
theorem dv2 {H:Hp}(c:CuL)(hc:c.ok H)(h:c.c.nm.length≤1000000000000000)(hx:c.c.xs.length≤1000000000000000)(hy:c.c.ys.length≤1000000000000000):CallH H Tryz.prog 108 [rowV (CuL.r c)] (Bo (nmOk c.c.nm&&cuOk c.c.xs c.c.ys)):=by
 refine CallH.mkS Tryz.func108 rfl en108 (by simp[Tryz.ntmps108]) (ClA.of rfl) fun C hR hP hH hL=>?_
 refine Sm.go 100 ?_
 refine vv ?_
 refine CallQ.pure 110 (name_ok c.c.nm h) rfl ?_
 refine vv ?_
 refine CallQ.hg 110 (fun _=>cvalid c.x c.y c.c.xs c.c.ys hc.x hc.y hx hy) hH (fun h=>by rw[h];rfl) ?_
 refine vv ?_
 refine RetQ.bool (hR C hL) rfl ⟨rfl,trivial⟩ ?_
 rw[band_]
theorem dv3 {H:Hp}(m:MpL)(hm:m.ok H)(h:m.nm.length≤1000000000000000)(hz:∀v∈m.zs,v.2.length≤1000000000000000):CallH H Tryz.prog 111 [rowV (MpL.r m)] (Bo (nmOk m.nm&&maOk m.xs m.ys (m.zs.map (·.2)))):=by
 refine CallH.mkS Tryz.func111 rfl en111 (by simp[Tryz.ntmps111]) (ClA.of rfl) fun C hR hP hH hL=>?_
 refine Sm.go 100 ?_
 refine vv ?_
 refine CallQ.pure 110 (name_ok m.nm h) rfl ?_
 refine vv ?_
 refine CallQ.hg 110 (fun _=>svalidM m hm hz) hH (fun h=>by rw[h];rfl) ?_
 refine vv ?_
 refine RetQ.bool (hR C hL) rfl ⟨rfl,trivial⟩ ?_
 rw[band_]
theorem vport (p:Po)(h:p.nm.length≤1000000000000000)(h2:p.ty.length≤1000000000000000):CallOk Tryz.prog 114 [rowV (Po.r p)] [] (Bo (poOk p)) []:=by
 refine CallOk.mkN 100 Tryz.func114 rfl en114 (by simp[Tryz.ntmps114]) (ClA.of rfl) rfl rfl fun C hR hP=>?_
 refine vv ?_
 refine CallQ.pure 110 (name_ok p.nm h) rfl ?_
 refine vv ?_
 refine CallQ.guard 110 (fun _=>name_ok p.ty h2) (fun h=>by rw[h];rfl) ?_
 refine vv ?_
 refine CallQ.guard 110 (fun _=>fits_ p.lo) (fun h=>by rw[h];rfl) ?_
 refine vv ?_
 refine CallQ.guard 110 (fun _=>fits_ p.hi) (fun h=>by rw[h];rfl) ?_
 refine vv ?_
 refine RetQ.bool hR rfl ⟨rfl,trivial⟩ ?_
 unfold poOk
 cases nmOk p.nm<;>cases nmOk p.ty<;>cases fitB p.lo<;>cases fitB p.hi<;>rfl
theorem vblock {H:Hp}(b:BlL)(hb:b.ok H)(h1:b.c.nm.length≤1000000000000000)(h2:b.c.ty.length≤1000000000000000)(h3:b.c.tb.length≤1000000000000000)(h4:b.c.ins.length≤1000000000000000)(h5:b.c.ks.length≤1000000000000000)(h6:∀s∈b.c.ins,s.length≤1000000000000000):
  CallH H Tryz.prog 116 [rowV (BlL.r b)] (Bo (blOk b.c)):=by
 have ha1:=allS (H:=H) b.i b.c.ins hb.i h4 98 nmOk (fun s hs=>(name_ok s (h6 s hs)).toH)
 have ha2:=allI (H:=H) b.k b.c.ks hb.k h5 216 fitB (fun n _=>(fits_ n).toH)
 refine CallH.mkS Tryz.func116 rfl en116 (by simp[Tryz.ntmps116]) (ClA.of rfl) fun C hR hP hH hL=>?_
 refine Sm.go 100 ?_
 refine vv ?_
 refine CallQ.pure 110 (kind_ b.c.kd) rfl ?_
 unfold blOk at hR
 cases hk:kindQ b.c.kd with
 |none=>
  rw[hk]at hR
  simp(maxSteps:=2000000) only[go_sem,Option.getD_none]
  refine CallQ.guard (xs:=[]) (v:=Bo true) 150 (fun h=>by cases h) (fun h=>by cases h) ?_
  refine vv ?_
  refine CallQ.guard (xs:=[]) (v:=Bo true) 150 (fun h=>by cases h) (fun h=>by cases h) ?_
  refine vv ?_
  exact RetQ.bool (hR C hL) rfl ⟨rfl,trivial⟩ rfl
 |some q=>
 obtain⟨a,k,t⟩:=q
 rw[hk]at hR
 simp only at hR
 have e1:((b.c.ins.length:Int)!=(a:Int))= !decide (b.c.ins.length=a):=by rw[Bool.eq_iff_iff,bne_iff_ne,Bool.not_eq_true',decide_eq_false_iff_not];omega
 have e2:((b.c.ks.length:Int)!=(k:Int))= !decide (b.c.ks.length=k):=by rw[Bool.eq_iff_iff,bne_iff_ne,Bool.not_eq_true',decide_eq_false_iff_not];omega
 simp(maxSteps:=2000000) only[go_sem,Option.getD_some,e1,e2]
 refine CallQ.guard 120 (fun _=>name_ok b.c.nm h1) (fun h=>by rw[h];rfl) ?_
 refine vv ?_
 refine CallQ.guard 120 (fun _=>name_ok b.c.ty h2) (fun h=>by rw[h];rfl) ?_
 refine vv ?_
 generalize hA:decide (b.c.ins.length=a)=A at*
 generalize hB:decide (b.c.ks.length=k)=B at*
 generalize hN:nmOk b.c.nm=Nn at*
 generalize hT:nmOk b.c.ty=Tt at*
 refine mtch (fun hd=>?_) (fun hd=>?_)
 ·refine RetQ.bool (hR C hL) rfl ⟨rfl,trivial⟩ ?_
  cases A<;>cases B<;>cases Nn<;>cases Tt<;>simp_all
 ·have hall:A=true∧B=true∧Nn=true∧Tt=true:=by cases A<;>cases B<;>cases Nn<;>cases Tt<;>simp_all
  obtain⟨rfl,rfl,rfl,rfl⟩:=hall
  have e3:((t:Int)!=0)= !decide (t=0):=by rw[Bool.eq_iff_iff,bne_iff_ne,Bool.not_eq_true',decide_eq_false_iff_not];omega
  have e4:((t:Int)==0)=decide (t=0):=by rw[Bool.eq_iff_iff,beq_iff_eq,decide_eq_true_eq];omega
  simp only[e3]
  refine CallQ.guard 130 (fun _=>name_ok b.c.tb h3) (fun h=>by rw[h];rfl) ?_
  simp(maxSteps:=2000000) only[go_sem,e3,e4]
  by_cases ht:t=0
  ·rw[if_pos ht]at hR
   simp(maxSteps:=2000000) only[go_sem,tru_of ht]
   generalize hE:(b.c.tb==[])=E at*
   refine mtch (fun hd=>?_) (fun hd=>?_)
   ·refine RetQ.bool (hR C hL) rfl ⟨rfl,trivial⟩ ?_
    cases E<;>simp_all
   ·refine CallQ.h 140 ha1 hH rfl ?_
    refine vv ?_
    refine CallQ.hg 140 (fun _=>ha2) hH (fun h=>by rw[h];rfl) ?_
    refine vv ?_
    refine RetQ.bool (hR C hL) rfl ⟨rfl,trivial⟩ ?_
    cases E<;>cases b.c.ins.all nmOk<;>simp_all
  ·rw[if_neg ht]at hR
   simp(maxSteps:=2000000) only[go_sem,fal_of ht]
   generalize hE:nmOk b.c.tb=E at*
   refine mtch (fun hd=>?_) (fun hd=>?_)
   ·refine RetQ.bool (hR C hL) rfl ⟨rfl,trivial⟩ ?_
    cases E<;>simp_all
   ·refine CallQ.h 140 ha1 hH rfl ?_
    refine vv ?_
    refine CallQ.hg 140 (fun _=>ha2) hH (fun h=>by rw[h];rfl) ?_
    refine vv ?_
    refine RetQ.bool (hR C hL) rfl ⟨rfl,trivial⟩ ?_
    cases E<;>cases b.c.ins.all nmOk<;>simp_all
theorem mx5 (a b c d e:Nat):decide ((30:Int)<max (max (max (max (a:Int) b) c) d) e)= !decide (a≤30∧b≤30∧c≤30∧d≤30∧e≤30):=by
 rw[←decide_not,decide_eq_decide];omega
theorem dvalid {H:Hp}(d:DgL)(hd:d.ok H)(hs:d.sm):CallH H Tryz.prog 42 [rowV d.r] (Bo (dgOk d.c)):=by
 have q1:=allTd (H:=H) d.ty d.tys hd.ty hs.tys.1 105 (fun t=>nmOk t.nm&&fok t.ty) (fun t ht=>(dv1 t (hs.tys.2 t ht)).toH)
 have q2:=allCu (H:=H) d.cu d.cus hd.cu hs.cus.1 108 (fun c=>nmOk c.c.nm&&cuOk c.c.xs c.c.ys) (fun c hc=>dv2 c (hd.cus c hc) (hs.cus.2 c hc).1 (hs.cus.2 c hc).2.1 (hs.cus.2 c hc).2.2)
 have q3:=allMa (H:=H) d.ma d.mas hd.ma hs.mas.1 111 (fun m=>nmOk m.nm&&maOk m.xs m.ys (m.zs.map (·.2))) (fun m hm=>dv3 m (hd.mas m hm) (hs.mas.2 m hm).1 (hs.mas.2 m hm).2)
 have q4:=allPo (H:=H) d.i d.ins hd.i hs.ins.1 114 poOk (fun p hp=>(vport p (hs.ins.2 p hp).1 (hs.ins.2 p hp).2).toH)
 have q5:=allBl (H:=H) d.bl d.bls hd.bl hs.bls.1 116 (fun b=>blOk b.c) (fun b hb=>by
  obtain⟨k1,k2,k3,k4,k5,k6⟩:=hs.bls.2 b hb
  exact vblock b (hd.bls b hb) k1 k2 k3 k4 k5 k6)
 have q6:=allS (H:=H) d.ou d.ous hd.ou hs.ous.1 98 nmOk (fun s hs'=>(name_ok s (hs.ous.2 s hs')).toH)
 have hdo:dgOk d.c=(nmOk d.nm&&(decide (d.tys.length≤30∧d.cus.length≤30∧d.mas.length≤30∧d.ins.length≤30∧d.ous.length≤30)&&(decide (d.bls.length≤200)&&
  (d.tys.all (fun t=>nmOk t.nm&&fok t.ty)&&(d.cus.all (fun c=>nmOk c.c.nm&&cuOk c.c.xs c.c.ys)&&(d.mas.all (fun m=>nmOk m.nm&&maOk m.xs m.ys (m.zs.map (·.2)))&&(d.ins.all poOk&&(d.bls.all (fun b=>blOk b.c)&&d.ous.all nmOk)))))))):=by
  unfold dgOk
  simp only[DgL.c,List.length_map,List.all_map]
  rfl
 rw[hdo]
 have e2:decide ((200:Int)<(d.bls.length:Int))= !decide (d.bls.length≤200):=by rw[←decide_not,decide_eq_decide];omega
 refine CallH.mkS Tryz.func42 rfl en42 (by simp[Tryz.ntmps42]) (ClA.of rfl) fun C hR hP hH hL=>?_
 refine Sm.go 100 ?_
 refine vv ?_
 refine CallQ.pure 110 (name_ok d.nm hs.nm) rfl ?_
 simp(maxSteps:=2000000) only[go_sem,mx5,e2]
 generalize nmOk d.nm=A at*
 generalize decide (d.tys.length≤30∧d.cus.length≤30∧d.mas.length≤30∧d.ins.length≤30∧d.ous.length≤30)=B at*
 generalize decide (d.bls.length≤200)=D at*
 refine mtch (fun hc=>?_) (fun hc=>?_)
 ·refine RetQ.bool (hR C hL) rfl ⟨rfl,trivial⟩ ?_
  cases A<;>cases B<;>cases D<;>simp_all
 ·have hall:A=true∧B=true∧D=true:=by cases A<;>cases B<;>cases D<;>simp_all
  obtain⟨rfl,rfl,rfl⟩:=hall
  refine CallQ.h 140 q1 hH rfl ?_
  refine vv ?_
  refine CallQ.hg 140 (fun _=>q2) hH (fun h=>by rw[h];rfl) ?_
  refine vv ?_
  refine CallQ.hg 140 (fun _=>q3) hH (fun h=>by rw[h];rfl) ?_
  refine vv ?_
  refine CallQ.hg 140 (fun _=>q4) hH (fun h=>by rw[h];rfl) ?_
  refine vv ?_
  refine CallQ.hg 140 (fun _=>q5) hH (fun h=>by rw[h];rfl) ?_
  refine vv ?_
  refine CallQ.hg 140 (fun _=>q6) hH (fun h=>by rw[h];rfl) ?_
  refine vv ?_
  refine RetQ.bool (hR C hL) rfl ⟨rfl,trivial⟩ ?_
  simp only[band_,Bool.true_and,Bool.and_assoc]
end Go.Proofs.YtlnpgbnhcondjaaGreatDoor.Fx
namespace Go.Proofs.YtlnpgbnhcondjaaGreatDoor.Fx
open Vg Tf
set_option linter.unusedSimpArgs false
set_option linter.unusedVariables false
set_option maxRecDepth 100000
set_option maxHeartbeats 4000000
theorem _root_.Go.Proofs.YtlnpgbnhcondjaaGreatDoor.Vg.RetQ.letgo {C Ck:Cx}{e:Env}{M M0:Mem}(L:List Nat)(hL:Lf C Ck)(hP:Pins C.S M0)(h0:M0.all (fun p=> !L.contains p.1)=true)(hok:concOk L e M=true)
  (h:∀β Cn,Lf C Cn→Ck.hp.le Cn.hp→(∀n b,L.contains n=true→M.get n=some b→b.ro=false→Known Cn.hp β n b)→RetQ Cn (e.conc L β) (M.conc L β)):RetQ Ck e M:=fun β a w h1 h2 h4=>by
 obtain⟨Cn,l1,l2,l3,l4,l5⟩:=seal_core L hL hP h0 hok h1 h2
 rw[hL.q,←l1.q]
 exact h β Cn l1 l2 l3 β a w l4 l5 (h4.trans (hL.df.trans l1.df.symm))
def sigs (d:Dg):List Str:=d.ins.map (·.nm)++d.bls.map (·.nm)
end Go.Proofs.YtlnpgbnhcondjaaGreatDoor.Fx
