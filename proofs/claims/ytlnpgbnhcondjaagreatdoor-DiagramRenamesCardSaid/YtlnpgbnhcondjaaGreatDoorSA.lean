/-  -/
import Derived.Test.YtlnpgbnhcondjaaGreatDoorPS
import Derived.Test.YtlnpgbnhcondjaaGreatDoorRZ
import Derived.Test.YtlnpgbnhcondjaaGreatDoorRQ
namespace Go.Proofs.YtlnpgbnhcondjaaGreatDoor.Fx
open Vg Tf
set_option linter.unusedSimpArgs false
set_option linter.unusedVariables false
set_option maxRecDepth 100000
set_option maxHeartbeats 4000000
theorem rdvalid {H:Hp}(d:DgL)(hd:d.ok H)(hs:d.sm):CallH H Tryz.prog 35 [rowV d.r] (Bo (dgOk d.c)):=by
 have hdo:dgOk d.c=(nmOk d.nm&&((decide (d.tys.length≤30)&&(decide (d.cus.length≤30)&&(decide (d.mas.length≤30)&&(decide (d.ins.length≤30)&&decide (d.ous.length≤30)))))&&(decide (d.bls.length≤200)&&
  (d.tys.all (fun t=>nmOk t.nm&&fok t.ty)&&(d.cus.all (fun c=>nmOk c.c.nm&&cuOk c.c.xs c.c.ys)&&(d.mas.all (fun m=>nmOk m.nm&&maOk m.xs m.ys (m.zs.map (·.2)))&&(d.ins.all poOk&&(d.bls.all (fun b=>blOk b.c)&&d.ous.all nmOk)))))))):=by
  unfold dgOk
  simp only[DgL.c,List.length_map,List.all_map,Bool.decide_and]
  rfl
 rw[hdo]
 have e1:∀n:Nat,decide ((30:Int)<(n:Int))= !decide (n≤30):=fun n=>by rw[←decide_not,decide_eq_decide];omega
 have e2:decide ((200:Int)<(d.bls.length:Int))= !decide (d.bls.length≤200):=by rw[←decide_not,decide_eq_decide];omega
 have n1:(d.tys.map Td.r).length=d.tys.length:=List.length_map _
 have n2:(d.cus.map CuL.r).length=d.cus.length:=List.length_map _
 have n3:(d.mas.map MpL.r).length=d.mas.length:=List.length_map _
 have n4:(d.ins.map Po.r).length=d.ins.length:=List.length_map _
 have n5:(d.bls.map BlL.r).length=d.bls.length:=List.length_map _
 have z1:=rows_len (r:=Td.r) (k:=11) (fun _=>rfl) d.tys
 have z2:=rows_len (r:=CuL.r) (k:=3) (fun _=>rfl) d.cus
 have z3:=rows_len (r:=MpL.r) (k:=4) (fun _=>rfl) d.mas
 have z4:=rows_len (r:=Po.r) (k:=4) (fun _=>rfl) d.ins
 have z5:=rows_len (r:=BlL.r) (k:=6) (fun _=>rfl) d.bls
 refine CallH.mkS Tryz.func35 rfl en35 (by simp[Tryz.ntmps35]) (ClA.of rfl) fun C hR hP hH hL=>?_
 refine Sm.go 100 ?_
 refine vv ?_
 refine CallQ.pure 110 (rName_ d.nm hs.nm) rfl ?_
 simp(maxSteps:=2000000) only[go_sem,e1,e2]
 generalize nmOk d.nm=A at*
 generalize hA1:decide (d.tys.length≤30)=A1 at*
 generalize hA2:decide (d.cus.length≤30)=A2 at*
 generalize hA3:decide (d.mas.length≤30)=A3 at*
 generalize hA4:decide (d.ins.length≤30)=A4 at*
 generalize hA5:decide (d.ous.length≤30)=A5 at*
 generalize hA6:decide (d.bls.length≤200)=A6 at*
 refine mtch (fun hc=>?_) (fun hc=>?_)
 ·refine RetQ.bool (hR C hL) rfl ⟨rfl,trivial⟩ ?_
  cases A<;>cases A1<;>cases A2<;>cases A3<;>cases A4<;>cases A5<;>cases A6<;>first|rfl|(cases hc)
 have hall:A=true∧A1=true∧A2=true∧A3=true∧A4=true∧A5=true∧A6=true:=by
  cases A<;>cases A1<;>cases A2<;>cases A3<;>cases A4<;>cases A5<;>cases A6<;>first|(and_intros<;>rfl)|(cases hc;done)
 obtain⟨rfl,rfl,rfl,rfl,rfl,rfl,rfl⟩:=hall
 simp only[decide_eq_true_eq]at hA1 hA2 hA3 hA4 hA5 hA6
 simp only[Bool.true_and]at hR
 refine vv ?_
 refine Sm.bringC 11 93 100 1 (hd.ty.mono hH) rfl rfl rfl ?_
 refine Sm.bringC 12 110 100 2 (hd.cu.mono hH) rfl rfl rfl ?_
 refine Sm.bringC 13 115 100 3 (hd.ma.mono hH) rfl rfl rfl ?_
 refine Sm.bringC 14 118 100 4 (hd.i.mono hH) rfl rfl rfl ?_
 refine Sm.bringC 15 82 100 5 (hd.bl.mono hH) rfl rfl rfl ?_
 rw[n1,n2,n3,n4,n5]
 refine Sm.loopM (M0:=[]) (α:={i:Nat//i≤d.tys.length∧d.tys.all (fun t=>nmOk t.nm&&fok t.ty)=(d.tys.drop i).all (fun t=>nmOk t.nm&&fok t.ty)}) hP (fun i=>[(1,true,.c (.p 1 0)),(3,true,I i.val)])
  (fun _=>[(1,⟨false,[.v (sv d.nm),.sl 11 0 d.tys.length 11,.sl 12 0 d.cus.length 3,.sl 13 0 d.mas.length 4,.sl 14 0 d.ins.length 4,.sl 15 0 d.bls.length 6,.v (vsl d.ou d.ous.length)],30⟩),(11,⟨true,rowsC (d.tys.map Td.r),93⟩),(12,⟨true,rowsC (d.cus.map CuL.r),110⟩),(13,⟨true,rowsC (d.mas.map MpL.r),115⟩),(14,⟨true,rowsC (d.ins.map Po.r),118⟩),(15,⟨true,rowsC (d.bls.map BlL.r),82⟩)]) (fun i=>d.tys.length-i.val) ⟨0,by omega,rfl⟩ (fun _=>ClM.of (by simp only[List.all_cons,inMV (rowsC_isV _)];rfl)) (fun _=>ClE.of rfl) [(1,100),(11,11),(12,12),(13,13),(14,14),(15,15)] ?_ ?_
 ·exact⟨rfl,trivial,⟨rfl,rfl,trivial⟩,⟨.inr ⟨_,rfl,.inl rfl⟩,.inr ⟨_,rfl,.inl (renV (rowsC_isV _))⟩,.inr ⟨_,rfl,.inl (renV (rowsC_isV _))⟩,.inr ⟨_,rfl,.inl (renV (rowsC_isV _))⟩,.inr ⟨_,rfl,.inl (renV (rowsC_isV _))⟩,.inr ⟨_,rfl,.inl (renV (rowsC_isV _))⟩,trivial⟩⟩
 rintro⟨i,hi,hx⟩ J hj
 simp only at hj hi hx⊢
 refine Sm.go 120 ?_
 refine vv ?_
 refine mtch (fun hc=>?_) (fun hc=>?_)
 ·have hc:=lt_of_dec hc
  rw[List.drop_eq_getElem_cons hc,List.all_cons]at hx
  have hmem:d.tys[i]∈d.tys:=List.getElem_mem hc
  have f0:=rows_one (r:=Td.r) (k:=11) (fun _=>rfl) d.tys i 0 hc (by omega)
  have f1:=rows_fld (r:=Td.r) (k:=11) (fun _=>rfl) d.tys i 1 10 hc (by omega)
  rw[Nat.add_zero]at f0
  generalize d.tys[i]=x at*
  simp(maxSteps:=2000000) only[go_sem,f0,f1,Td.r,List.getElem?_cons_zero,Option.map_some,List.drop_succ_cons,List.drop_zero,List.take_succ_cons,List.take_zero,Bool.not_not]
  refine⟨⟨by omega,by omega⟩,?_⟩
  refine CallQ.pure 130 (rName_ x.nm (hs.tys.2 x hmem)) rfl ?_
  simp(maxSteps:=2000000) only[go_sem,f0,f1,Td.r,List.getElem?_cons_zero,Option.map_some,List.drop_succ_cons,List.drop_zero,List.take_succ_cons,List.take_zero,Bool.not_not]
  refine⟨fun h=>⟨h,h,by omega,by omega⟩,fun h=>⟨h,by omega⟩,?_⟩
  refine CallQ.guard 140 (fun _=>rType_ x.ty) (fun h=>by rw[h];rfl) ?_
  refine vv ?_
  generalize nmOk x.nm=a at*
  generalize fok x.ty=b at*
  refine⟨fun h=>by cases a<;>first|rfl|(cases h;done),?_⟩
  refine mtch (fun hp=>?_) (fun hp=>?_)
  ·refine RetQ.bool (hR C hL) rfl ⟨rfl,trivial⟩ ?_
   rw[hx]
   cases a<;>cases b<;>first|rfl|(cases hp;done)
  ·have hq:(a&&b)=true:=by cases a<;>cases b<;>first|rfl|(cases hp;done)
   rw[hq,Bool.true_and]at hx
   simp(maxSteps:=2000000) only[go_sem,wS (show i≤1000000000000000000 by omega)]
   exact hj _ _ ⟨i+1,hc,hx⟩ [(1,1),(11,11),(12,12),(13,13),(14,14),(15,15)] (by simp only;omega) ⟨rfl,trivial,⟨rfl,rfl,trivial⟩,⟨.inr ⟨_,rfl,.inl rfl⟩,.inr ⟨_,rfl,.inl (renV (rowsC_isV _))⟩,.inr ⟨_,rfl,.inl (renV (rowsC_isV _))⟩,.inr ⟨_,rfl,.inl (renV (rowsC_isV _))⟩,.inr ⟨_,rfl,.inl (renV (rowsC_isV _))⟩,.inr ⟨_,rfl,.inl (renV (rowsC_isV _))⟩,trivial⟩⟩
 have hc:=eq_of_dec hi hc
 rw[hc,List.drop_length]at hx
 have hx:d.tys.all (fun t=>nmOk t.nm&&fok t.ty)=true:=hx
 rw[hx,Bool.true_and]at hR
 refine vv ?_
 refine Sm.loopM (M0:=[]) (α:={i:Nat//i≤d.cus.length∧d.cus.all (fun c=>nmOk c.c.nm&&cuOk c.c.xs c.c.ys)=(d.cus.drop i).all (fun c=>nmOk c.c.nm&&cuOk c.c.xs c.c.ys)}) hP (fun i=>[(1,true,.c (.p 1 0)),(4,true,I i.val)])
  (fun _=>[(1,⟨false,[.v (sv d.nm),.sl 11 0 d.tys.length 11,.sl 12 0 d.cus.length 3,.sl 13 0 d.mas.length 4,.sl 14 0 d.ins.length 4,.sl 15 0 d.bls.length 6,.v (vsl d.ou d.ous.length)],30⟩),(11,⟨true,rowsC (d.tys.map Td.r),93⟩),(12,⟨true,rowsC (d.cus.map CuL.r),110⟩),(13,⟨true,rowsC (d.mas.map MpL.r),115⟩),(14,⟨true,rowsC (d.ins.map Po.r),118⟩),(15,⟨true,rowsC (d.bls.map BlL.r),82⟩)]) (fun i=>d.cus.length-i.val) ⟨0,by omega,rfl⟩ (fun _=>ClM.of (by simp only[List.all_cons,inMV (rowsC_isV _)];rfl)) (fun _=>ClE.of rfl) [(1,1),(11,11),(12,12),(13,13),(14,14),(15,15)] ?_ ?_
 ·exact⟨rfl,trivial,⟨rfl,rfl,trivial⟩,⟨.inr ⟨_,rfl,.inl rfl⟩,.inr ⟨_,rfl,.inl (renV (rowsC_isV _))⟩,.inr ⟨_,rfl,.inl (renV (rowsC_isV _))⟩,.inr ⟨_,rfl,.inl (renV (rowsC_isV _))⟩,.inr ⟨_,rfl,.inl (renV (rowsC_isV _))⟩,.inr ⟨_,rfl,.inl (renV (rowsC_isV _))⟩,trivial⟩⟩
 rintro⟨i,hi,hx⟩ J hj
 simp only at hj hi hx⊢
 refine Sm.go 120 ?_
 refine vv ?_
 refine mtch (fun hc=>?_) (fun hc=>?_)
 ·have hc:=lt_of_dec hc
  rw[List.drop_eq_getElem_cons hc,List.all_cons]at hx
  have hmem:d.cus[i]∈d.cus:=List.getElem_mem hc
  have f0:=rows_one (r:=CuL.r) (k:=3) (fun _=>rfl) d.cus i 0 hc (by omega)
  have f1:=rows_fld (r:=CuL.r) (k:=3) (fun _=>rfl) d.cus i 1 2 hc (by omega)
  rw[Nat.add_zero]at f0
  generalize d.cus[i]=x at*
  simp(maxSteps:=2000000) only[go_sem,f0,f1,CuL.r,List.getElem?_cons_zero,Option.map_some,List.drop_succ_cons,List.drop_zero,List.take_succ_cons,List.take_zero,Bool.not_not]
  refine⟨⟨by omega,by omega⟩,?_⟩
  refine CallQ.pure 130 (rName_ x.c.nm (hs.cus.2 x hmem).1) rfl ?_
  simp(maxSteps:=2000000) only[go_sem,f0,f1,CuL.r,List.getElem?_cons_zero,Option.map_some,List.drop_succ_cons,List.drop_zero,List.take_succ_cons,List.take_zero,Bool.not_not]
  refine⟨fun h=>⟨h,h,by omega,by omega⟩,fun h=>⟨h,by omega⟩,?_⟩
  refine CallQ.hg 140 (fun _=>rcuOk_ x.x x.y x.c.xs x.c.ys (hd.cus x hmem).x (hd.cus x hmem).y (hs.cus.2 x hmem).2.2) hH (fun h=>by rw[h];rfl) ?_
  refine vv ?_
  generalize nmOk x.c.nm=a at*
  generalize cuOk x.c.xs x.c.ys=b at*
  refine⟨fun h=>by cases a<;>first|rfl|(cases h;done),?_⟩
  refine mtch (fun hp=>?_) (fun hp=>?_)
  ·refine RetQ.bool (hR C hL) rfl ⟨rfl,trivial⟩ ?_
   rw[hx]
   cases a<;>cases b<;>first|rfl|(cases hp;done)
  ·have hq:(a&&b)=true:=by cases a<;>cases b<;>first|rfl|(cases hp;done)
   rw[hq,Bool.true_and]at hx
   simp(maxSteps:=2000000) only[go_sem,wS (show i≤1000000000000000000 by omega)]
   exact hj _ _ ⟨i+1,hc,hx⟩ [(1,1),(11,11),(12,12),(13,13),(14,14),(15,15)] (by simp only;omega) ⟨rfl,trivial,⟨rfl,rfl,trivial⟩,⟨.inr ⟨_,rfl,.inl rfl⟩,.inr ⟨_,rfl,.inl (renV (rowsC_isV _))⟩,.inr ⟨_,rfl,.inl (renV (rowsC_isV _))⟩,.inr ⟨_,rfl,.inl (renV (rowsC_isV _))⟩,.inr ⟨_,rfl,.inl (renV (rowsC_isV _))⟩,.inr ⟨_,rfl,.inl (renV (rowsC_isV _))⟩,trivial⟩⟩
 have hc:=eq_of_dec hi hc
 rw[hc,List.drop_length]at hx
 have hx:d.cus.all (fun c=>nmOk c.c.nm&&cuOk c.c.xs c.c.ys)=true:=hx
 rw[hx,Bool.true_and]at hR
 refine vv ?_
 refine Sm.loopM (M0:=[]) (α:={i:Nat//i≤d.mas.length∧d.mas.all (fun m=>nmOk m.nm&&maOk m.xs m.ys (m.zs.map (·.2)))=(d.mas.drop i).all (fun m=>nmOk m.nm&&maOk m.xs m.ys (m.zs.map (·.2)))}) hP (fun i=>[(1,true,.c (.p 1 0)),(5,true,I i.val)])
  (fun _=>[(1,⟨false,[.v (sv d.nm),.sl 11 0 d.tys.length 11,.sl 12 0 d.cus.length 3,.sl 13 0 d.mas.length 4,.sl 14 0 d.ins.length 4,.sl 15 0 d.bls.length 6,.v (vsl d.ou d.ous.length)],30⟩),(11,⟨true,rowsC (d.tys.map Td.r),93⟩),(12,⟨true,rowsC (d.cus.map CuL.r),110⟩),(13,⟨true,rowsC (d.mas.map MpL.r),115⟩),(14,⟨true,rowsC (d.ins.map Po.r),118⟩),(15,⟨true,rowsC (d.bls.map BlL.r),82⟩)]) (fun i=>d.mas.length-i.val) ⟨0,by omega,rfl⟩ (fun _=>ClM.of (by simp only[List.all_cons,inMV (rowsC_isV _)];rfl)) (fun _=>ClE.of rfl) [(1,1),(11,11),(12,12),(13,13),(14,14),(15,15)] ?_ ?_
 ·exact⟨rfl,trivial,⟨rfl,rfl,trivial⟩,⟨.inr ⟨_,rfl,.inl rfl⟩,.inr ⟨_,rfl,.inl (renV (rowsC_isV _))⟩,.inr ⟨_,rfl,.inl (renV (rowsC_isV _))⟩,.inr ⟨_,rfl,.inl (renV (rowsC_isV _))⟩,.inr ⟨_,rfl,.inl (renV (rowsC_isV _))⟩,.inr ⟨_,rfl,.inl (renV (rowsC_isV _))⟩,trivial⟩⟩
 rintro⟨i,hi,hx⟩ J hj
 simp only at hj hi hx⊢
 refine Sm.go 120 ?_
 refine vv ?_
 refine mtch (fun hc=>?_) (fun hc=>?_)
 ·have hc:=lt_of_dec hc
  rw[List.drop_eq_getElem_cons hc,List.all_cons]at hx
  have hmem:d.mas[i]∈d.mas:=List.getElem_mem hc
  have f0:=rows_one (r:=MpL.r) (k:=4) (fun _=>rfl) d.mas i 0 hc (by omega)
  have f1:=rows_fld (r:=MpL.r) (k:=4) (fun _=>rfl) d.mas i 1 3 hc (by omega)
  rw[Nat.add_zero]at f0
  generalize d.mas[i]=x at*
  simp(maxSteps:=2000000) only[go_sem,f0,f1,MpL.r,List.getElem?_cons_zero,Option.map_some,List.drop_succ_cons,List.drop_zero,List.take_succ_cons,List.take_zero,Bool.not_not]
  refine⟨⟨by omega,by omega⟩,?_⟩
  refine CallQ.pure 130 (rName_ x.nm (hs.mas.2 x hmem).1) rfl ?_
  simp(maxSteps:=2000000) only[go_sem,f0,f1,MpL.r,List.getElem?_cons_zero,Option.map_some,List.drop_succ_cons,List.drop_zero,List.take_succ_cons,List.take_zero,Bool.not_not]
  refine⟨fun h=>⟨h,h,by omega,by omega⟩,fun h=>⟨h,by omega⟩,?_⟩
  refine CallQ.hg 140 (fun _=>rmaOk_ x (hd.mas x hmem) (hs.mas.2 x hmem).2) hH (fun h=>by rw[h];rfl) ?_
  refine vv ?_
  generalize nmOk x.nm=a at*
  generalize maOk x.xs x.ys (x.zs.map (·.2))=b at*
  refine⟨fun h=>by cases a<;>first|rfl|(cases h;done),?_⟩
  refine mtch (fun hp=>?_) (fun hp=>?_)
  ·refine RetQ.bool (hR C hL) rfl ⟨rfl,trivial⟩ ?_
   rw[hx]
   cases a<;>cases b<;>first|rfl|(cases hp;done)
  ·have hq:(a&&b)=true:=by cases a<;>cases b<;>first|rfl|(cases hp;done)
   rw[hq,Bool.true_and]at hx
   simp(maxSteps:=2000000) only[go_sem,wS (show i≤1000000000000000000 by omega)]
   exact hj _ _ ⟨i+1,hc,hx⟩ [(1,1),(11,11),(12,12),(13,13),(14,14),(15,15)] (by simp only;omega) ⟨rfl,trivial,⟨rfl,rfl,trivial⟩,⟨.inr ⟨_,rfl,.inl rfl⟩,.inr ⟨_,rfl,.inl (renV (rowsC_isV _))⟩,.inr ⟨_,rfl,.inl (renV (rowsC_isV _))⟩,.inr ⟨_,rfl,.inl (renV (rowsC_isV _))⟩,.inr ⟨_,rfl,.inl (renV (rowsC_isV _))⟩,.inr ⟨_,rfl,.inl (renV (rowsC_isV _))⟩,trivial⟩⟩
 have hc:=eq_of_dec hi hc
 rw[hc,List.drop_length]at hx
 have hx:d.mas.all (fun m=>nmOk m.nm&&maOk m.xs m.ys (m.zs.map (·.2)))=true:=hx
 rw[hx,Bool.true_and]at hR
 refine vv ?_
 refine Sm.loopM (M0:=[]) (α:={i:Nat//i≤d.ins.length∧d.ins.all poOk=(d.ins.drop i).all poOk}) hP (fun i=>[(1,true,.c (.p 1 0)),(6,true,I i.val)])
  (fun _=>[(1,⟨false,[.v (sv d.nm),.sl 11 0 d.tys.length 11,.sl 12 0 d.cus.length 3,.sl 13 0 d.mas.length 4,.sl 14 0 d.ins.length 4,.sl 15 0 d.bls.length 6,.v (vsl d.ou d.ous.length)],30⟩),(11,⟨true,rowsC (d.tys.map Td.r),93⟩),(12,⟨true,rowsC (d.cus.map CuL.r),110⟩),(13,⟨true,rowsC (d.mas.map MpL.r),115⟩),(14,⟨true,rowsC (d.ins.map Po.r),118⟩),(15,⟨true,rowsC (d.bls.map BlL.r),82⟩)]) (fun i=>d.ins.length-i.val) ⟨0,by omega,rfl⟩ (fun _=>ClM.of (by simp only[List.all_cons,inMV (rowsC_isV _)];rfl)) (fun _=>ClE.of rfl) [(1,1),(11,11),(12,12),(13,13),(14,14),(15,15)] ?_ ?_
 ·exact⟨rfl,trivial,⟨rfl,rfl,trivial⟩,⟨.inr ⟨_,rfl,.inl rfl⟩,.inr ⟨_,rfl,.inl (renV (rowsC_isV _))⟩,.inr ⟨_,rfl,.inl (renV (rowsC_isV _))⟩,.inr ⟨_,rfl,.inl (renV (rowsC_isV _))⟩,.inr ⟨_,rfl,.inl (renV (rowsC_isV _))⟩,.inr ⟨_,rfl,.inl (renV (rowsC_isV _))⟩,trivial⟩⟩
 rintro⟨i,hi,hx⟩ J hj
 simp only at hj hi hx⊢
 refine Sm.go 120 ?_
 refine vv ?_
 refine mtch (fun hc=>?_) (fun hc=>?_)
 ·have hc:=lt_of_dec hc
  rw[List.drop_eq_getElem_cons hc,List.all_cons]at hx
  have hmem:d.ins[i]∈d.ins:=List.getElem_mem hc
  have f0:=rows_take (r:=Po.r) (k:=4) (fun _=>rfl) d.ins i hc
  generalize d.ins[i]=x at*
  simp(maxSteps:=2000000) only[go_sem,f0,z4]
  refine⟨⟨by omega,by omega⟩,by omega,?_⟩
  refine CallQ.pure 160 (rName_ x.nm (hs.ins.2 x hmem).1) rfl ?_
  simp(maxSteps:=2000000) only[go_sem,Bool.not_not]
  refine CallQ.guard 160 (fun _=>rName_ x.ty (hs.ins.2 x hmem).2) (fun h=>by rw[h];rfl) ?_
  simp(maxSteps:=2000000) only[go_sem,Bool.not_not]
  refine⟨fun h=>by rw[←Bool.not_not (nmOk x.nm),h];rfl,?_⟩
  refine CallQ.guard 160 (fun _=>rnum_ x.lo) (fun h=>by rw[h];rfl) ?_
  refine vv ?_
  refine CallQ.guard 160 (fun _=>rnum_ x.hi) (fun h=>by rw[h];rfl) ?_
  refine vv ?_
  have hpo:poOk x=(nmOk x.nm&&(nmOk x.ty&&(fitB x.lo&&fitB x.hi))):=rfl
  rw[hpo]at hx
  refine vv ?_
  generalize nmOk x.nm=a at*
  generalize nmOk x.ty=b at*
  generalize fitB x.lo=e at*
  generalize fitB x.hi=f at*
  refine mtch (fun hp=>?_) (fun hp=>?_)
  ·refine RetQ.bool (hR C hL) rfl ⟨rfl,trivial⟩ ?_
   rw[hx]
   cases a<;>cases b<;>cases e<;>cases f<;>first|rfl|(cases hp;done)
  ·have hq:(a&&(b&&(e&&f)))=true:=by cases a<;>cases b<;>cases e<;>cases f<;>first|rfl|(cases hp;done)
   rw[hq,Bool.true_and]at hx
   simp(maxSteps:=2000000) only[go_sem,wS (show i≤1000000000000000000 by omega)]
   exact hj _ _ ⟨i+1,hc,hx⟩ [(1,1),(11,11),(12,12),(13,13),(14,14),(15,15)] (by simp only;omega) ⟨rfl,trivial,⟨rfl,rfl,trivial⟩,⟨.inr ⟨_,rfl,.inl rfl⟩,.inr ⟨_,rfl,.inl (renV (rowsC_isV _))⟩,.inr ⟨_,rfl,.inl (renV (rowsC_isV _))⟩,.inr ⟨_,rfl,.inl (renV (rowsC_isV _))⟩,.inr ⟨_,rfl,.inl (renV (rowsC_isV _))⟩,.inr ⟨_,rfl,.inl (renV (rowsC_isV _))⟩,trivial⟩⟩
 have hc:=eq_of_dec hi hc
 rw[hc,List.drop_length]at hx
 have hx:d.ins.all poOk=true:=hx
 rw[hx,Bool.true_and]at hR
 refine vv ?_
 refine Sm.loopM (M0:=[]) (α:={i:Nat//i≤d.bls.length∧d.bls.all (fun b=>blOk b.c)=(d.bls.drop i).all (fun b=>blOk b.c)}) hP (fun i=>[(1,true,.c (.p 1 0)),(8,true,I i.val)])
  (fun _=>[(1,⟨false,[.v (sv d.nm),.sl 11 0 d.tys.length 11,.sl 12 0 d.cus.length 3,.sl 13 0 d.mas.length 4,.sl 14 0 d.ins.length 4,.sl 15 0 d.bls.length 6,.v (vsl d.ou d.ous.length)],30⟩),(11,⟨true,rowsC (d.tys.map Td.r),93⟩),(12,⟨true,rowsC (d.cus.map CuL.r),110⟩),(13,⟨true,rowsC (d.mas.map MpL.r),115⟩),(14,⟨true,rowsC (d.ins.map Po.r),118⟩),(15,⟨true,rowsC (d.bls.map BlL.r),82⟩)]) (fun i=>d.bls.length-i.val) ⟨0,by omega,rfl⟩ (fun _=>ClM.of (by simp only[List.all_cons,inMV (rowsC_isV _)];rfl)) (fun _=>ClE.of rfl) [(1,1),(11,11),(12,12),(13,13),(14,14),(15,15)] ?_ ?_
 ·exact⟨rfl,trivial,⟨rfl,rfl,trivial⟩,⟨.inr ⟨_,rfl,.inl rfl⟩,.inr ⟨_,rfl,.inl (renV (rowsC_isV _))⟩,.inr ⟨_,rfl,.inl (renV (rowsC_isV _))⟩,.inr ⟨_,rfl,.inl (renV (rowsC_isV _))⟩,.inr ⟨_,rfl,.inl (renV (rowsC_isV _))⟩,.inr ⟨_,rfl,.inl (renV (rowsC_isV _))⟩,trivial⟩⟩
 rintro⟨i,hi,hx⟩ J hj
 simp only at hj hi hx⊢
 refine Sm.go 120 ?_
 refine vv ?_
 refine mtch (fun hc=>?_) (fun hc=>?_)
 ·have hc:=lt_of_dec hc
  rw[List.drop_eq_getElem_cons hc,List.all_cons]at hx
  have hmem:d.bls[i]∈d.bls:=List.getElem_mem hc
  have f0:=rows_take (r:=BlL.r) (k:=6) (fun _=>rfl) d.bls i hc
  obtain⟨k1,k2,k3,k4,k5,k6⟩:=hs.bls.2 _ hmem
  have hbo:=rblock_ _ (hd.bls _ hmem) k1 k2 k3 k4 k5 k6
  generalize d.bls[i]=x at*
  simp(maxSteps:=2000000) only[go_sem,f0,z5]
  refine⟨⟨by omega,by omega⟩,by omega,?_⟩
  refine CallQ.h 160 hbo hH rfl ?_
  refine vv ?_
  generalize blOk x.c=a at*
  refine mtch (fun hp=>?_) (fun hp=>?_)
  ·refine RetQ.bool (hR C hL) rfl ⟨rfl,trivial⟩ ?_
   rw[hx]
   cases a<;>first|rfl|(cases hp;done)
  ·have hq:a=true:=by cases a<;>first|rfl|(cases hp;done)
   rw[hq,Bool.true_and]at hx
   simp(maxSteps:=2000000) only[go_sem,wS (show i≤1000000000000000000 by omega)]
   exact hj _ _ ⟨i+1,hc,hx⟩ [(1,1),(11,11),(12,12),(13,13),(14,14),(15,15)] (by simp only;omega) ⟨rfl,trivial,⟨rfl,rfl,trivial⟩,⟨.inr ⟨_,rfl,.inl rfl⟩,.inr ⟨_,rfl,.inl (renV (rowsC_isV _))⟩,.inr ⟨_,rfl,.inl (renV (rowsC_isV _))⟩,.inr ⟨_,rfl,.inl (renV (rowsC_isV _))⟩,.inr ⟨_,rfl,.inl (renV (rowsC_isV _))⟩,.inr ⟨_,rfl,.inl (renV (rowsC_isV _))⟩,trivial⟩⟩
 have hc:=eq_of_dec hi hc
 rw[hc,List.drop_length]at hx
 have hx:d.bls.all (fun b=>blOk b.c)=true:=hx
 rw[hx,Bool.true_and]at hR
 refine vv ?_
 refine CallQ.h 160 (rnames_ d.ou d.ous hd.ou hs.ous.1 hs.ous.2) hH rfl ?_
 refine vv ?_
 exact RetQ.bool (hR C hL) rfl ⟨rfl,trivial⟩ rfl
end Go.Proofs.YtlnpgbnhcondjaaGreatDoor.Fx
