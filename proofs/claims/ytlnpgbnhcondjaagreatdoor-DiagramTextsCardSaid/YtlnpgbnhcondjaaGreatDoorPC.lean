/-  -/
import Derived.Test.YtlnpgbnhcondjaaGreatDoorTf
import Derived.Test.YtlnpgbnhcondjaaGreatDoorRW
import Derived.Test.YtlnpgbnhcondjaaGreatDoorSA
import Derived.Test.YtlnpgbnhcondjaaGreatDoorU8
import Derived.Test.YtlnpgbnhcondjaaGreatDoorX5
namespace Go.Proofs.YtlnpgbnhcondjaaGreatDoor.Fx
open Vg Tf
set_option linter.unusedSimpArgs false
set_option linter.unusedVariables false
set_option maxRecDepth 100000
set_option maxHeartbeats 4000000
theorem jn_stepE {α:Type}(P:Str)(F:α→Str)(l:List α)(i:Nat)(h:i<l.length):P++Lib.join ((l.take (i+1)).map F) []=(P++Lib.join ((l.take i).map F) [])++F l[i]:=by
 rw[jn_stepP P F [] l i h]
 split<;>simp only[List.append_nil]
def jnE {α:Type}(P:Str)(F:α→Str)(l:List α)(i:Nat):Str:=if i=0 then P else P++Lib.join ((l.take i).map F) []
theorem jnE_eq {α:Type}(P:Str)(F:α→Str)(l:List α)(i:Nat):jnE P F l i=P++Lib.join ((l.take i).map F) []:=by
 unfold jnE
 split
 ·rename_i h
  subst h
  show P=P++Lib.join [] []
  rw[jn_nil,List.append_nil]
 ·rfl
theorem jnE_step {α:Type}(P:Str)(F:α→Str)(l:List α)(i:Nat)(h:i<l.length):jnE P F l (i+1)=jnE P F l i++F l[i]:=by
 rw[jnE_eq,jnE_eq,jn_stepE P F l i h]
theorem jnE_le {α:Type}(P:Str)(F:α→Str)(l:List α)(i n:Nat)(h:∀x∈l,(F x).length≤n)(hi:i≤l.length):(jnE P F l i).length≤P.length+i*n:=by
 have:=jmap_le F n (l.take i) fun x hx=>h x (List.mem_of_mem_take hx)
 rw[List.length_take,Nat.min_eq_left hi]at this
 rw[jnE_eq,List.length_append]
 omega
def ouT (A:Str)(l:List Str)(i:Nat):Str:=if i=0 then A else A++([111,117,116,32]++Lib.join (l.take i) [44,32])
theorem ouT_step (A:Str)(l:List Str)(i:Nat)(h:i<l.length):ouT A l (i+1)=(if i=0 then ouT A l i++[111,117,116,32]else ouT A l i++[44,32])++l[i]:=by
 have hs:=jn_step (fun x:Str=>x) [44,32] l i h
 rw[List.map_id',List.map_id']at hs
 unfold ouT
 rw[if_neg (by omega),hs]
 by_cases h0:i=0
 ·subst h0
  rw[if_neg (by omega),if_pos rfl,if_pos rfl]
  show A++([111,117,116,32]++(Lib.join [] [44,32]++_))=_
  rw[jn_nil]
  simp only[List.append_assoc,List.nil_append]
 ·rw[if_pos (by omega),if_neg h0,if_neg h0]
  simp only[List.append_assoc]
def cuTx (c:CuL):Str:=curT c.c
def maTx (c:MpL):Str:=mapT c.c
def blTx (c:BlL):Str:=blT c.c
theorem cl_rt (d:DgL):ClM [(100,⟨false,[.v (sv d.nm),.sl 11 0 d.tys.length 11,.sl 12 0 d.cus.length 3,.sl 13 0 d.mas.length 4,.sl 14 0 d.ins.length 4,.sl 15 0 d.bls.length 6,.sl 16 0 d.ous.length 1],30⟩),(11,⟨true,rowsC (d.tys.map Td.r),93⟩),(12,⟨true,rowsC (d.cus.map CuL.r),110⟩),(13,⟨true,rowsC (d.mas.map MpL.r),115⟩),(14,⟨true,rowsC (d.ins.map Po.r),118⟩),(15,⟨true,rowsC (d.bls.map BlL.r),82⟩),(16,⟨true,d.ous.map sC,9⟩)]:=ClM.of (by simp only[List.all_cons,inMV (rowsC_isV _),inMV (v_sC _)];rfl)
theorem rtext_ {H:Hp}(d:DgL)(o:d.ok H)(hs:d.sm):CallH H Tryz.prog 47 [rowV d.r] (.tup [Ws (txQ d.c).1,Wi (txQ d.c).2]):=by
 have v:=rdvalid (H:=H) d o hs
 refine CallH.mkS Tryz.func47 rfl en47 (by simp[Tryz.ntmps47]) (ClA.of rfl) fun C hR hP hH hL=>?_
 refine Sm.go 100 ?_
 refine vv ?_
 refine CallQ.h 110 v hH rfl ?_
 refine vv ?_
 cases hok:dgOk d.c with
 |false=>
  have e:txQ d.c=([],1):=by unfold txQ;rw[hok];rfl
  rw[e]at hR
  refine vv ?_
  exact RetQ.of (hR C hL) rfl ⟨rfl,rfl,trivial⟩ rfl (Sub.nil _) ClM.nil (ClV.of rfl)
 |true=>
 have hO:=dgO hok
 obtain⟨b1,b2,b3,b4,b5,b6⟩:=hdT_le hO
 have b0:=nmLe hO.nm
 have z2:d.c.cus.map curT=d.cus.map cuTx:=by show(d.cus.map CuL.c).map curT=_;rw[List.map_map];rfl
 have z3:d.c.mas.map mapT=d.mas.map maTx:=by show(d.mas.map MpL.c).map mapT=_;rw[List.map_map];rfl
 have z5:d.c.bls.map blT=d.bls.map blTx:=by show(d.bls.map BlL.c).map blT=_;rw[List.map_map];rfl
 have i1:d.tys.length≤30:=hO.l1
 have i2:d.cus.length≤30:=by have:=hO.l2;rwa [show d.c.cus=d.cus.map CuL.c from rfl,List.length_map]at this
 have i3:d.mas.length≤30:=by have:=hO.l3;rwa [show d.c.mas=d.mas.map MpL.c from rfl,List.length_map]at this
 have i4:d.ins.length≤30:=hO.l4
 have i5:d.bls.length≤200:=by have:=hO.l5;rwa [show d.c.bls=d.bls.map BlL.c from rfl,List.length_map]at this
 have i6:d.ous.length≤30:=hO.l6
 have m2:∀x∈d.cus,x.c∈d.c.cus:=fun x hx=>List.mem_map.2 ⟨x,hx,rfl⟩
 have m3:∀x∈d.mas,x.c∈d.c.mas:=fun x hx=>List.mem_map.2 ⟨x,hx,rfl⟩
 have m5:∀x∈d.bls,x.c∈d.c.bls:=fun x hx=>List.mem_map.2 ⟨x,hx,rfl⟩
 have hD:hdT d.c=[100,105,97,103,114,97,109,32]++d.nm++[10]++Lib.join (d.tys.map typT) []++Lib.join (d.c.cus.map curT) []++Lib.join (d.c.mas.map mapT) []++Lib.join (d.ins.map inpT) []++Lib.join (d.c.bls.map blT) []:=rfl
 rw[z2,z3,z5]at hD
 rw[z2]at b2
 rw[z3]at b3
 rw[z5]at b5
 have b0:d.nm.length≤24:=b0
 have b1:(Lib.join (d.tys.map typT) []).length≤12000:=b1
 have b4:(Lib.join (d.ins.map inpT) []).length≤6000:=b4
 have b6:(Lib.join d.ous [44,32]).length≤780:=b6
 have n1:(d.tys.map Td.r).length=d.tys.length:=List.length_map _
 have n2:(d.cus.map CuL.r).length=d.cus.length:=List.length_map _
 have n3:(d.mas.map MpL.r).length=d.mas.length:=List.length_map _
 have n4:(d.ins.map Po.r).length=d.ins.length:=List.length_map _
 have n5:(d.bls.map BlL.r).length=d.bls.length:=List.length_map _
 have n6:(strsR d.ous).length=d.ous.length:=List.length_map _
 refine vv ?_
 refine⟨by first|omega|(simp only[List.length_append,List.length_cons,List.length_nil];omega),by first|omega|(simp only[List.length_append,List.length_cons,List.length_nil];omega),?_⟩
 refine Sm.bringC 11 93 100 1 (o.ty.mono hH) rfl rfl rfl ?_
 refine Sm.bringC 12 110 100 2 (o.cu.mono hH) rfl rfl rfl ?_
 refine Sm.bringC 13 115 100 3 (o.ma.mono hH) rfl rfl rfl ?_
 refine Sm.bringC 14 118 100 4 (o.i.mono hH) rfl rfl rfl ?_
 refine Sm.bringC 15 82 100 5 (o.bl.mono hH) rfl rfl rfl ?_
 refine Sm.bringC 16 9 100 6 (o.ou.mono hH) rfl rfl rfl ?_
 rw[n1,n2,n3,n4,n5,n6,strsC]
 obtain⟨P0,hP0⟩:∃P,P=[100,105,97,103,114,97,109,32]++d.nm++[10]:=⟨_,rfl⟩
 rw[←hP0]at hD
 have p0:P0.length≤40:=by rw[hP0];first|omega|(simp only[List.length_append,List.length_cons,List.length_nil];omega)
 have f1:∀x∈d.tys,(typT x).length≤400:=fun x hm=>typT_le (hO.t _ hm).1 (hO.t _ hm).2
 have g1:∀x∈d.tys,CallH H Tryz.prog 142 [rowV (Td.r x)] (S (typT x)):=fun x hm=>(rtyp_ x (hO.t _ hm).1 (hO.t _ hm).2)
 refine Sm.loopM (M0:=[]) (α:={i:Nat//i≤d.tys.length}) hP (fun i=>[(1,true,.c (.p 100 0)),(4,true,S (jnE P0 typT d.tys i.val)),(5,true,I i.val)])
  (fun _=>[(100,⟨false,[.v (sv d.nm),.sl 11 0 d.tys.length 11,.sl 12 0 d.cus.length 3,.sl 13 0 d.mas.length 4,.sl 14 0 d.ins.length 4,.sl 15 0 d.bls.length 6,.sl 16 0 d.ous.length 1],30⟩),(11,⟨true,rowsC (d.tys.map Td.r),93⟩),(12,⟨true,rowsC (d.cus.map CuL.r),110⟩),(13,⟨true,rowsC (d.mas.map MpL.r),115⟩),(14,⟨true,rowsC (d.ins.map Po.r),118⟩),(15,⟨true,rowsC (d.bls.map BlL.r),82⟩),(16,⟨true,d.ous.map sC,9⟩)]) (fun i=>d.tys.length-i.val) ⟨0,by omega⟩ (fun _=>cl_rt d) (fun _=>ClE.of rfl) [(100,100),(11,11),(12,12),(13,13),(14,14),(15,15),(16,16)] ?_ ?_
 ·subst hP0;exact⟨rfl,trivial,⟨rfl,rfl,rfl,trivial⟩,⟨oR,oV (renV (rowsC_isV _)),oV (renV (rowsC_isV _)),oV (renV (rowsC_isV _)),oV (renV (rowsC_isV _)),oV (renV (rowsC_isV _)),oV (renV (v_sC _)),trivial⟩⟩
 rintro⟨i,hi⟩ J hj
 simp only at hj hi⊢
 refine Sm.go 140 ?_
 refine vv ?_
 refine mtch (fun hc=>?_) (fun hc=>?_)
 ·have hc:=lt_of_dec hc
  have hst:=jnE_step P0 typT d.tys i hc
  have hle:=jnE_le P0 typT d.tys i 400 f1 hi
  have hml:i*400≤30*400:=Nat.mul_le_mul_right _ (by omega)
  have q:=g1 _ (List.getElem_mem hc)
  have hfl:=f1 _ (List.getElem_mem hc)
  have ga:=rows_take (r:=Td.r) (k:=11) (fun _=>rfl) d.tys i hc
  have za:=rows_len (r:=Td.r) (k:=11) (fun _=>rfl) d.tys
  generalize jnE P0 typT d.tys i=A at*
  generalize d.tys[i]=x at*
  simp(maxSteps:=2000000) only[go_sem,ga,za]
  refine⟨⟨by omega,by omega⟩,by omega,?_⟩
  refine CallQ.h 145 q hH rfl ?_
  simp(maxSteps:=2000000) only[go_sem,←hst,wS (show i≤1000000000000000000 by omega)]
  refine⟨by first|omega|(simp only[List.length_append,List.length_cons,List.length_nil];omega),?_⟩
  exact hj _ _ ⟨i+1,hc⟩ [(100,100),(11,11),(12,12),(13,13),(14,14),(15,15),(16,16)] (by simp only;omega) ⟨rfl,trivial,⟨rfl,rfl,rfl,trivial⟩,⟨oR,oV (renV (rowsC_isV _)),oV (renV (rowsC_isV _)),oV (renV (rowsC_isV _)),oV (renV (rowsC_isV _)),oV (renV (rowsC_isV _)),oV (renV (v_sC _)),trivial⟩⟩
 have hc:=eq_of_dec hi hc
 subst hc
 clear hj
 have p1:=jnE_le P0 typT d.tys d.tys.length 400 f1 (Nat.le_refl _)
 have e1:=jnE_eq P0 typT d.tys d.tys.length
 rw[List.take_length]at e1
 have hml:d.tys.length*400≤30*400:=Nat.mul_le_mul_right _ (by omega)
 generalize jnE P0 typT d.tys d.tys.length=P1 at*
 have p1:P1.length≤12040:=by omega
 clear hml
 refine vv ?_
 have f2:∀x∈d.cus,(cuTx x).length≤2000:=fun x hm=>curT_le (hO.c _ (m2 x hm)).1 (hO.c _ (m2 x hm)).2
 have g2:∀x∈d.cus,CallH H Tryz.prog 143 [rowV (CuL.r x)] (S (cuTx x)):=fun x hm=>(rcur_ x (o.cus x hm) (hO.c _ (m2 x hm)).1 (hO.c _ (m2 x hm)).2)
 refine Sm.loopM (M0:=[]) (α:={i:Nat//i≤d.cus.length}) hP (fun i=>[(1,true,.c (.p 100 0)),(4,true,S (jnE P1 cuTx d.cus i.val)),(6,true,I i.val)])
  (fun _=>[(100,⟨false,[.v (sv d.nm),.sl 11 0 d.tys.length 11,.sl 12 0 d.cus.length 3,.sl 13 0 d.mas.length 4,.sl 14 0 d.ins.length 4,.sl 15 0 d.bls.length 6,.sl 16 0 d.ous.length 1],30⟩),(11,⟨true,rowsC (d.tys.map Td.r),93⟩),(12,⟨true,rowsC (d.cus.map CuL.r),110⟩),(13,⟨true,rowsC (d.mas.map MpL.r),115⟩),(14,⟨true,rowsC (d.ins.map Po.r),118⟩),(15,⟨true,rowsC (d.bls.map BlL.r),82⟩),(16,⟨true,d.ous.map sC,9⟩)]) (fun i=>d.cus.length-i.val) ⟨0,by omega⟩ (fun _=>cl_rt d) (fun _=>ClE.of rfl) [(100,100),(11,11),(12,12),(13,13),(14,14),(15,15),(16,16)] ?_ ?_
 ·exact⟨rfl,trivial,⟨rfl,rfl,rfl,trivial⟩,⟨oR,oV (renV (rowsC_isV _)),oV (renV (rowsC_isV _)),oV (renV (rowsC_isV _)),oV (renV (rowsC_isV _)),oV (renV (rowsC_isV _)),oV (renV (v_sC _)),trivial⟩⟩
 rintro⟨i,hi⟩ J hj
 simp only at hj hi⊢
 refine Sm.go 150 ?_
 refine vv ?_
 refine mtch (fun hc=>?_) (fun hc=>?_)
 ·have hc:=lt_of_dec hc
  have hst:=jnE_step P1 cuTx d.cus i hc
  have hle:=jnE_le P1 cuTx d.cus i 2000 f2 hi
  have hml:i*2000≤30*2000:=Nat.mul_le_mul_right _ (by omega)
  have q:=g2 _ (List.getElem_mem hc)
  have hfl:=f2 _ (List.getElem_mem hc)
  have ga:=rows_take (r:=CuL.r) (k:=3) (fun _=>rfl) d.cus i hc
  have za:=rows_len (r:=CuL.r) (k:=3) (fun _=>rfl) d.cus
  generalize jnE P1 cuTx d.cus i=A at*
  generalize d.cus[i]=x at*
  simp(maxSteps:=2000000) only[go_sem,ga,za]
  refine⟨⟨by omega,by omega⟩,by omega,?_⟩
  refine CallQ.h 155 q hH rfl ?_
  simp(maxSteps:=2000000) only[go_sem,←hst,wS (show i≤1000000000000000000 by omega)]
  refine⟨by first|omega|(simp only[List.length_append,List.length_cons,List.length_nil];omega),?_⟩
  exact hj _ _ ⟨i+1,hc⟩ [(100,100),(11,11),(12,12),(13,13),(14,14),(15,15),(16,16)] (by simp only;omega) ⟨rfl,trivial,⟨rfl,rfl,rfl,trivial⟩,⟨oR,oV (renV (rowsC_isV _)),oV (renV (rowsC_isV _)),oV (renV (rowsC_isV _)),oV (renV (rowsC_isV _)),oV (renV (rowsC_isV _)),oV (renV (v_sC _)),trivial⟩⟩
 have hc:=eq_of_dec hi hc
 subst hc
 clear hj
 have p2:=jnE_le P1 cuTx d.cus d.cus.length 2000 f2 (Nat.le_refl _)
 have e2:=jnE_eq P1 cuTx d.cus d.cus.length
 rw[List.take_length]at e2
 have hml:d.cus.length*2000≤30*2000:=Nat.mul_le_mul_right _ (by omega)
 generalize jnE P1 cuTx d.cus d.cus.length=P2 at*
 have p2:P2.length≤72040:=by omega
 clear hml
 refine vv ?_
 have f3:∀x∈d.mas,(maTx x).length≤25000:=fun x hm=>mapT_le (hO.m _ (m3 x hm)).1 (hO.m _ (m3 x hm)).2
 have g3:∀x∈d.mas,CallH H Tryz.prog 144 [rowV (MpL.r x)] (S (maTx x)):=fun x hm=>(rmap_ x (o.mas x hm) (hO.m _ (m3 x hm)).1 (hO.m _ (m3 x hm)).2)
 refine Sm.loopM (M0:=[]) (α:={i:Nat//i≤d.mas.length}) hP (fun i=>[(1,true,.c (.p 100 0)),(4,true,S (jnE P2 maTx d.mas i.val)),(7,true,I i.val)])
  (fun _=>[(100,⟨false,[.v (sv d.nm),.sl 11 0 d.tys.length 11,.sl 12 0 d.cus.length 3,.sl 13 0 d.mas.length 4,.sl 14 0 d.ins.length 4,.sl 15 0 d.bls.length 6,.sl 16 0 d.ous.length 1],30⟩),(11,⟨true,rowsC (d.tys.map Td.r),93⟩),(12,⟨true,rowsC (d.cus.map CuL.r),110⟩),(13,⟨true,rowsC (d.mas.map MpL.r),115⟩),(14,⟨true,rowsC (d.ins.map Po.r),118⟩),(15,⟨true,rowsC (d.bls.map BlL.r),82⟩),(16,⟨true,d.ous.map sC,9⟩)]) (fun i=>d.mas.length-i.val) ⟨0,by omega⟩ (fun _=>cl_rt d) (fun _=>ClE.of rfl) [(100,100),(11,11),(12,12),(13,13),(14,14),(15,15),(16,16)] ?_ ?_
 ·exact⟨rfl,trivial,⟨rfl,rfl,rfl,trivial⟩,⟨oR,oV (renV (rowsC_isV _)),oV (renV (rowsC_isV _)),oV (renV (rowsC_isV _)),oV (renV (rowsC_isV _)),oV (renV (rowsC_isV _)),oV (renV (v_sC _)),trivial⟩⟩
 rintro⟨i,hi⟩ J hj
 simp only at hj hi⊢
 refine Sm.go 160 ?_
 refine vv ?_
 refine mtch (fun hc=>?_) (fun hc=>?_)
 ·have hc:=lt_of_dec hc
  have hst:=jnE_step P2 maTx d.mas i hc
  have hle:=jnE_le P2 maTx d.mas i 25000 f3 hi
  have hml:i*25000≤30*25000:=Nat.mul_le_mul_right _ (by omega)
  have q:=g3 _ (List.getElem_mem hc)
  have hfl:=f3 _ (List.getElem_mem hc)
  have ga:=rows_take (r:=MpL.r) (k:=4) (fun _=>rfl) d.mas i hc
  have za:=rows_len (r:=MpL.r) (k:=4) (fun _=>rfl) d.mas
  generalize jnE P2 maTx d.mas i=A at*
  generalize d.mas[i]=x at*
  simp(maxSteps:=2000000) only[go_sem,ga,za]
  refine⟨⟨by omega,by omega⟩,by omega,?_⟩
  refine CallQ.h 165 q hH rfl ?_
  simp(maxSteps:=2000000) only[go_sem,←hst,wS (show i≤1000000000000000000 by omega)]
  refine⟨by first|omega|(simp only[List.length_append,List.length_cons,List.length_nil];omega),?_⟩
  exact hj _ _ ⟨i+1,hc⟩ [(100,100),(11,11),(12,12),(13,13),(14,14),(15,15),(16,16)] (by simp only;omega) ⟨rfl,trivial,⟨rfl,rfl,rfl,trivial⟩,⟨oR,oV (renV (rowsC_isV _)),oV (renV (rowsC_isV _)),oV (renV (rowsC_isV _)),oV (renV (rowsC_isV _)),oV (renV (rowsC_isV _)),oV (renV (v_sC _)),trivial⟩⟩
 have hc:=eq_of_dec hi hc
 subst hc
 clear hj
 have p3:=jnE_le P2 maTx d.mas d.mas.length 25000 f3 (Nat.le_refl _)
 have e3:=jnE_eq P2 maTx d.mas d.mas.length
 rw[List.take_length]at e3
 have hml:d.mas.length*25000≤30*25000:=Nat.mul_le_mul_right _ (by omega)
 generalize jnE P2 maTx d.mas d.mas.length=P3 at*
 have p3:P3.length≤822040:=by omega
 clear hml
 refine vv ?_
 have f4:∀x∈d.ins,(inpT x).length≤200:=fun x hm=>inpT_le (hO.i _ hm)
 have g4:∀x∈d.ins,CallH H Tryz.prog 145 [rowV (Po.r x)] (S (inpT x)):=fun x hm=>(rinp_ x (hO.i _ hm))
 refine Sm.loopM (M0:=[]) (α:={i:Nat//i≤d.ins.length}) hP (fun i=>[(1,true,.c (.p 100 0)),(4,true,S (jnE P3 inpT d.ins i.val)),(8,true,I i.val)])
  (fun _=>[(100,⟨false,[.v (sv d.nm),.sl 11 0 d.tys.length 11,.sl 12 0 d.cus.length 3,.sl 13 0 d.mas.length 4,.sl 14 0 d.ins.length 4,.sl 15 0 d.bls.length 6,.sl 16 0 d.ous.length 1],30⟩),(11,⟨true,rowsC (d.tys.map Td.r),93⟩),(12,⟨true,rowsC (d.cus.map CuL.r),110⟩),(13,⟨true,rowsC (d.mas.map MpL.r),115⟩),(14,⟨true,rowsC (d.ins.map Po.r),118⟩),(15,⟨true,rowsC (d.bls.map BlL.r),82⟩),(16,⟨true,d.ous.map sC,9⟩)]) (fun i=>d.ins.length-i.val) ⟨0,by omega⟩ (fun _=>cl_rt d) (fun _=>ClE.of rfl) [(100,100),(11,11),(12,12),(13,13),(14,14),(15,15),(16,16)] ?_ ?_
 ·exact⟨rfl,trivial,⟨rfl,rfl,rfl,trivial⟩,⟨oR,oV (renV (rowsC_isV _)),oV (renV (rowsC_isV _)),oV (renV (rowsC_isV _)),oV (renV (rowsC_isV _)),oV (renV (rowsC_isV _)),oV (renV (v_sC _)),trivial⟩⟩
 rintro⟨i,hi⟩ J hj
 simp only at hj hi⊢
 refine Sm.go 170 ?_
 refine vv ?_
 refine mtch (fun hc=>?_) (fun hc=>?_)
 ·have hc:=lt_of_dec hc
  have hst:=jnE_step P3 inpT d.ins i hc
  have hle:=jnE_le P3 inpT d.ins i 200 f4 hi
  have hml:i*200≤30*200:=Nat.mul_le_mul_right _ (by omega)
  have q:=g4 _ (List.getElem_mem hc)
  have hfl:=f4 _ (List.getElem_mem hc)
  have ga:=rows_take (r:=Po.r) (k:=4) (fun _=>rfl) d.ins i hc
  have za:=rows_len (r:=Po.r) (k:=4) (fun _=>rfl) d.ins
  generalize jnE P3 inpT d.ins i=A at*
  generalize d.ins[i]=x at*
  simp(maxSteps:=2000000) only[go_sem,ga,za]
  refine⟨⟨by omega,by omega⟩,by omega,?_⟩
  refine CallQ.h 175 q hH rfl ?_
  simp(maxSteps:=2000000) only[go_sem,←hst,wS (show i≤1000000000000000000 by omega)]
  refine⟨by first|omega|(simp only[List.length_append,List.length_cons,List.length_nil];omega),?_⟩
  exact hj _ _ ⟨i+1,hc⟩ [(100,100),(11,11),(12,12),(13,13),(14,14),(15,15),(16,16)] (by simp only;omega) ⟨rfl,trivial,⟨rfl,rfl,rfl,trivial⟩,⟨oR,oV (renV (rowsC_isV _)),oV (renV (rowsC_isV _)),oV (renV (rowsC_isV _)),oV (renV (rowsC_isV _)),oV (renV (rowsC_isV _)),oV (renV (v_sC _)),trivial⟩⟩
 have hc:=eq_of_dec hi hc
 subst hc
 clear hj
 have p4:=jnE_le P3 inpT d.ins d.ins.length 200 f4 (Nat.le_refl _)
 have e4:=jnE_eq P3 inpT d.ins d.ins.length
 rw[List.take_length]at e4
 have hml:d.ins.length*200≤30*200:=Nat.mul_le_mul_right _ (by omega)
 generalize jnE P3 inpT d.ins d.ins.length=P4 at*
 have p4:P4.length≤828040:=by omega
 clear hml
 refine vv ?_
 have f5:∀x∈d.bls,(blTx x).length≤1000:=fun x hm=>blT_le (hO.b _ (m5 x hm))
 have g5:∀x∈d.bls,CallH H Tryz.prog 146 [rowV (BlL.r x)] (S (blTx x)):=fun x hm=>(rblk_ x (o.bls x hm) (hO.b _ (m5 x hm)))
 refine Sm.loopM (M0:=[]) (α:={i:Nat//i≤d.bls.length}) hP (fun i=>[(1,true,.c (.p 100 0)),(4,true,S (jnE P4 blTx d.bls i.val)),(9,true,I i.val)])
  (fun _=>[(100,⟨false,[.v (sv d.nm),.sl 11 0 d.tys.length 11,.sl 12 0 d.cus.length 3,.sl 13 0 d.mas.length 4,.sl 14 0 d.ins.length 4,.sl 15 0 d.bls.length 6,.sl 16 0 d.ous.length 1],30⟩),(11,⟨true,rowsC (d.tys.map Td.r),93⟩),(12,⟨true,rowsC (d.cus.map CuL.r),110⟩),(13,⟨true,rowsC (d.mas.map MpL.r),115⟩),(14,⟨true,rowsC (d.ins.map Po.r),118⟩),(15,⟨true,rowsC (d.bls.map BlL.r),82⟩),(16,⟨true,d.ous.map sC,9⟩)]) (fun i=>d.bls.length-i.val) ⟨0,by omega⟩ (fun _=>cl_rt d) (fun _=>ClE.of rfl) [(100,100),(11,11),(12,12),(13,13),(14,14),(15,15),(16,16)] ?_ ?_
 ·exact⟨rfl,trivial,⟨rfl,rfl,rfl,trivial⟩,⟨oR,oV (renV (rowsC_isV _)),oV (renV (rowsC_isV _)),oV (renV (rowsC_isV _)),oV (renV (rowsC_isV _)),oV (renV (rowsC_isV _)),oV (renV (v_sC _)),trivial⟩⟩
 rintro⟨i,hi⟩ J hj
 simp only at hj hi⊢
 refine Sm.go 180 ?_
 refine vv ?_
 refine mtch (fun hc=>?_) (fun hc=>?_)
 ·have hc:=lt_of_dec hc
  have hst:=jnE_step P4 blTx d.bls i hc
  have hle:=jnE_le P4 blTx d.bls i 1000 f5 hi
  have hml:i*1000≤200*1000:=Nat.mul_le_mul_right _ (by omega)
  have q:=g5 _ (List.getElem_mem hc)
  have hfl:=f5 _ (List.getElem_mem hc)
  have ga:=rows_take (r:=BlL.r) (k:=6) (fun _=>rfl) d.bls i hc
  have za:=rows_len (r:=BlL.r) (k:=6) (fun _=>rfl) d.bls
  generalize jnE P4 blTx d.bls i=A at*
  generalize d.bls[i]=x at*
  simp(maxSteps:=2000000) only[go_sem,ga,za]
  refine⟨⟨by omega,by omega⟩,by omega,?_⟩
  refine CallQ.h 185 q hH rfl ?_
  simp(maxSteps:=2000000) only[go_sem,←hst,wS (show i≤1000000000000000000 by omega)]
  refine⟨by first|omega|(simp only[List.length_append,List.length_cons,List.length_nil];omega),?_⟩
  exact hj _ _ ⟨i+1,hc⟩ [(100,100),(11,11),(12,12),(13,13),(14,14),(15,15),(16,16)] (by simp only;omega) ⟨rfl,trivial,⟨rfl,rfl,rfl,trivial⟩,⟨oR,oV (renV (rowsC_isV _)),oV (renV (rowsC_isV _)),oV (renV (rowsC_isV _)),oV (renV (rowsC_isV _)),oV (renV (rowsC_isV _)),oV (renV (v_sC _)),trivial⟩⟩
 have hc:=eq_of_dec hi hc
 subst hc
 clear hj
 have p5:=jnE_le P4 blTx d.bls d.bls.length 1000 f5 (Nat.le_refl _)
 have e5:=jnE_eq P4 blTx d.bls d.bls.length
 rw[List.take_length]at e5
 have hml:d.bls.length*1000≤200*1000:=Nat.mul_le_mul_right _ (by omega)
 generalize jnE P4 blTx d.bls d.bls.length=P5 at*
 have p5:P5.length≤1028040:=by omega
 clear hml
 refine vv ?_
 have hp5:hdT d.c=P5:=by rw[hD,e5,e4,e3,e2,e1]
 have hT:txtD d.c=bif decide (0<d.ous.length)then hdT d.c++([111,117,116,32]++Lib.join d.ous [44,32]++[10])else hdT d.c:=rfl
 rw[hp5]at hT
 have fo:∀x∈d.ous,x.length≤24:=fun x hx=>nmLe (hO.o x hx)
 refine Sm.loopM (M0:=[]) (α:={i:Nat//i≤d.ous.length}) hP (fun i=>[(1,true,.c (.p 100 0)),(4,true,S (ouT P5 d.ous i.val)),(10,true,I i.val)])
  (fun _=>[(100,⟨false,[.v (sv d.nm),.sl 11 0 d.tys.length 11,.sl 12 0 d.cus.length 3,.sl 13 0 d.mas.length 4,.sl 14 0 d.ins.length 4,.sl 15 0 d.bls.length 6,.sl 16 0 d.ous.length 1],30⟩),(11,⟨true,rowsC (d.tys.map Td.r),93⟩),(12,⟨true,rowsC (d.cus.map CuL.r),110⟩),(13,⟨true,rowsC (d.mas.map MpL.r),115⟩),(14,⟨true,rowsC (d.ins.map Po.r),118⟩),(15,⟨true,rowsC (d.bls.map BlL.r),82⟩),(16,⟨true,d.ous.map sC,9⟩)]) (fun i=>d.ous.length-i.val) ⟨0,by omega⟩ (fun _=>cl_rt d) (fun _=>ClE.of rfl) [(100,100),(11,11),(12,12),(13,13),(14,14),(15,15),(16,16)] ?_ ?_
 ·exact⟨rfl,trivial,⟨rfl,rfl,rfl,trivial⟩,⟨oR,oV (renV (rowsC_isV _)),oV (renV (rowsC_isV _)),oV (renV (rowsC_isV _)),oV (renV (rowsC_isV _)),oV (renV (rowsC_isV _)),oV (renV (v_sC _)),trivial⟩⟩
 rintro⟨i,hi⟩ J hj
 simp only at hj hi⊢
 have hle:(ouT P5 d.ous i).length≤P5.length+790:=by
  have:=jnS_le (l:=d.ous.take i) (by rw[List.length_take];omega) fun x hx=>fo x (List.mem_of_mem_take hx)
  unfold ouT
  split
  ·omega
  ·simp only[List.length_append,List.length_cons,List.length_nil]
   omega
 refine Sm.go 240 ?_
 refine vv ?_
 refine mtch (fun hc=>?_) (fun hc=>?_)
 ·have hc:=lt_of_dec hc
  have hst:=ouT_step P5 d.ous i hc
  have hx6:=fo _ (List.getElem_mem hc)
  have gx:(d.ous.map sC)[i]?=some (sC d.ous[i]):=get_sC hc
  generalize d.ous[i]=x at*
  generalize ouT P5 d.ous i=A at*
  refine mtch (fun h0=>?_) (fun h0=>?_)
  ·have h0:i=0:=by have:=eq_of_beq h0;omega
   rw[if_pos h0]at hst
   simp(maxSteps:=2000000) only[go_sem,gx,←hst,wS (show i≤1000000000000000000 by omega)]
   refine⟨by first|omega|(simp only[List.length_append,List.length_cons,List.length_nil];omega),⟨by omega,by omega⟩,by first|omega|(simp only[List.length_append,List.length_cons,List.length_nil];omega),?_⟩
   exact hj _ _ ⟨i+1,hc⟩ [(100,100),(11,11),(12,12),(13,13),(14,14),(15,15),(16,16)] (by simp only;omega) ⟨rfl,trivial,⟨rfl,rfl,rfl,trivial⟩,⟨oR,oV (renV (rowsC_isV _)),oV (renV (rowsC_isV _)),oV (renV (rowsC_isV _)),oV (renV (rowsC_isV _)),oV (renV (rowsC_isV _)),oV (renV (v_sC _)),trivial⟩⟩
  ·have h0:¬i=0:=fun h=>by rw[h]at h0;cases h0
   rw[if_neg h0]at hst
   simp(maxSteps:=2000000) only[go_sem,gx,←hst,wS (show i≤1000000000000000000 by omega)]
   refine⟨by first|omega|(simp only[List.length_append,List.length_cons,List.length_nil];omega),⟨by omega,by omega⟩,by first|omega|(simp only[List.length_append,List.length_cons,List.length_nil];omega),?_⟩
   exact hj _ _ ⟨i+1,hc⟩ [(100,100),(11,11),(12,12),(13,13),(14,14),(15,15),(16,16)] (by simp only;omega) ⟨rfl,trivial,⟨rfl,rfl,rfl,trivial⟩,⟨oR,oV (renV (rowsC_isV _)),oV (renV (rowsC_isV _)),oV (renV (rowsC_isV _)),oV (renV (rowsC_isV _)),oV (renV (rowsC_isV _)),oV (renV (v_sC _)),trivial⟩⟩
 have hc:=eq_of_dec hi hc
 subst hc
 clear hj
 have ho:ouT P5 d.ous d.ous.length=if d.ous.length=0 then P5 else P5++([111,117,116,32]++Lib.join d.ous [44,32]):=by unfold ouT;rw[List.take_length]
 generalize Lib.join d.ous [44,32]=J6 at*
 refine vv ?_
 refine mtch (fun h0=>?_) (fun h0=>?_)
 ·have h0':decide (0<d.ous.length)=true:=decide_eq_true (by simpa using h0)
  rw[if_neg (by have:=of_decide_eq_true h0';omega)]at ho
  rw[h0']at hT
  have hT:txtD d.c=ouT P5 d.ous d.ous.length++[10]:=by rw[ho,hT];simp only[cond_true,List.append_assoc]
  generalize ouT P5 d.ous d.ous.length=A at*
  refine vv ?_
  refine⟨by first|omega|(simp only[List.length_append,List.length_cons,List.length_nil];omega),?_⟩
  refine mtch (fun hd=>?_) (fun hd=>?_)
  ·have hd':decide (16384<(txtD d.c).length)=true:=decide_eq_true (by rw[hT];have:=of_decide_eq_true hd;first|omega|(simp only[List.length_append,List.length_cons,List.length_nil]at this⊢;omega))
   have hq:txQ d.c=([],5):=by unfold txQ;rw[hok,hd'];rfl
   rw[hq]at hR
   refine vv ?_
   exact RetQ.of (hR C hL) rfl ⟨rfl,rfl,trivial⟩ rfl (Sub.nil _) ClM.nil (ClV.of rfl)
  ·have hd':decide (16384<(txtD d.c).length)=false:=decide_eq_false (by rw[hT];have:=of_decide_eq_false hd;first|omega|(simp only[List.length_append,List.length_cons,List.length_nil]at this⊢;omega))
   have hq:txQ d.c=(txtD d.c,0):=by unfold txQ;rw[hok,hd'];rfl
   rw[hq,hT]at hR
   refine vv ?_
   exact RetQ.of (hR C hL) rfl ⟨rfl,rfl,trivial⟩ rfl (Sub.nil _) ClM.nil (ClV.of rfl)
 ·have h0':decide (0<d.ous.length)=false:=decide_eq_false (by simpa using h0)
  rw[if_pos (by have:=of_decide_eq_false h0';omega)]at ho
  rw[h0']at hT
  have hT:txtD d.c=ouT P5 d.ous d.ous.length:=by rw[ho,hT];rfl
  generalize ouT P5 d.ous d.ous.length=A at*
  refine vv ?_
  refine mtch (fun hd=>?_) (fun hd=>?_)
  ·have hd':decide (16384<(txtD d.c).length)=true:=decide_eq_true (by rw[hT];have:=of_decide_eq_true hd;first|omega|(simp only[List.length_append,List.length_cons,List.length_nil]at this⊢;omega))
   have hq:txQ d.c=([],5):=by unfold txQ;rw[hok,hd'];rfl
   rw[hq]at hR
   refine vv ?_
   exact RetQ.of (hR C hL) rfl ⟨rfl,rfl,trivial⟩ rfl (Sub.nil _) ClM.nil (ClV.of rfl)
  ·have hd':decide (16384<(txtD d.c).length)=false:=decide_eq_false (by rw[hT];have:=of_decide_eq_false hd;first|omega|(simp only[List.length_append,List.length_cons,List.length_nil]at this⊢;omega))
   have hq:txQ d.c=(txtD d.c,0):=by unfold txQ;rw[hok,hd'];rfl
   rw[hq,hT]at hR
   refine vv ?_
   exact RetQ.of (hR C hL) rfl ⟨rfl,rfl,trivial⟩ rfl (Sub.nil _) ClM.nil (ClV.of rfl)
theorem tk_step {α:Type}{la lb:List α}{i:Nat}(h:i<la.length)(h2:i<lb.length)(ht:la.take i=lb.take i)(he:la[i]=lb[i]):la.take (i+1)=lb.take (i+1):=by
 rw[List.take_succ_eq_append_getElem h,List.take_succ_eq_append_getElem h2,ht,he]
theorem tk_ne {α:Type}{la lb:List α}{i:Nat}(h:i<la.length)(h2:i<lb.length)(he:la[i]≠lb[i]):la≠lb:=fun e=>by subst e;exact he rfl
theorem tk_all {α:Type}{la lb:List α}(hl:la.length=lb.length)(ht:la.take la.length=lb.take la.length):la=lb:=by
 rw[List.take_length,hl,List.take_length]at ht
 exact ht
theorem len_ne {α β:Type}{la:List α}{lb:List α}{m n:Nat}(h:((la.length:Int)!=(lb.length:Int))=true):la≠lb:=fun e=>by subst e;simp at h
theorem gtexts_ {H:Hp}(a b:Sv)(la lb:List Str)(ha:SlH H (vsl a la.length) 1 (strsR la))(hb:SlH H (vsl b lb.length) 1 (strsR lb))(hl:la.length≤1000000000000000):CallH H Tryz.prog 57 [.c (.v (vsl a la.length)),.c (.v (vsl b lb.length))] (Bo (decide (la=lb))):=by
 refine CallH.mkS Tryz.func57 rfl en57 (by simp[Tryz.ntmps57]) (ClA.of rfl) fun C hR hP hH hL=>?_
 refine Sm.bringS 1 9 0 (ha.mono hH) rfl rfl ?_
 refine Sm.bringS 2 9 1 (hb.mono hH) rfl rfl (Sm.go 100 ?_)
 refine vv ?_
 refine mtch (fun hc=>?_) (fun hc=>?_)
 ·refine RetQ.bool (hR C hL) rfl scc ?_
  exact(decide_eq_false (len_ne (β:=Nat) (m:=0) (n:=0) hc)).symm
 have hll:la.length=lb.length:=by simp at hc;omega
 refine Sm.loopM (M0:=[]) (α:={i:Nat//i≤la.length∧la.take i=lb.take i}) hP (fun i=>[(0,true,.c (.sl 1 0 la.length 1)),(1,true,.c (.sl 2 0 lb.length 1)),(5,true,I i.val)])
  (fun _=>[(1,⟨true,la.map sC,9⟩),(2,⟨true,lb.map sC,9⟩)]) (fun i=>la.length-i.val) ⟨0,by omega,rfl⟩ (fun _=>ClM.of (by simp only[List.all_cons,inMV (v_sC _)];rfl)) (fun _=>ClE.of rfl) [(1,1),(2,2)] ?_ ?_
 ·exact⟨rfl,trivial,⟨rfl,rfl,rfl,trivial⟩,⟨oV (renV (v_sC _)),oV (renV (v_sC _)),trivial⟩⟩
 rintro⟨i,hi,ht⟩ J hj
 simp only at hj hi ht⊢
 refine Sm.go 110 ?_
 refine vv ?_
 refine mtch (fun hc=>?_) (fun hc=>?_)
 ·have hc:=lt_of_dec hc
  have gi:=get_sC hc
  have hc2:i<lb.length:=by omega
  have gj:=get_sC hc2
  have hs:=tk_step hc hc2 ht
  have hne:=tk_ne hc hc2
  refine Sm.dg 110 8 mix ?_
  generalize la[i]=x at*
  generalize lb[i]=y at*
  simp(maxSteps:=2000000) only[go_sem,gi,gj]
  refine⟨⟨by omega,by omega⟩,⟨by omega,by omega⟩,?_⟩
  refine mtch (fun hd=>?_) (fun hd=>?_)
  ·refine RetQ.bool (hR C hL) rfl scc ?_
   exact(decide_eq_false (hne (by simpa using hd))).symm
  ·simp(maxSteps:=2000000) only[go_sem,wS (show i≤1000000000000000000 by omega)]
   exact hj _ _ ⟨i+1,hc,hs (by simpa using hd)⟩ [(1,1),(2,2)] (by simp only;omega) ⟨rfl,trivial,⟨rfl,rfl,rfl,trivial⟩,⟨oV (renV (v_sC _)),oV (renV (v_sC _)),trivial⟩⟩
 ·have hc:=eq_of_dec hi hc
  subst hc
  refine RetQ.bool (hR C hL) rfl scc ?_
  exact(decide_eq_true (tk_all hll ht)).symm
theorem gsame6_ {H:Hp}(a b:Sv)(la lb:List Int)(ha:SlH H (vsl a la.length) 1 (intsR la))(hb:SlH H (vsl b lb.length) 1 (intsR lb))(hl:la.length≤1000000000000000):CallH H Tryz.prog 168 [.c (.v (vsl a la.length)),.c (.v (vsl b lb.length))] (Bo (decide (la=lb))):=by
 refine CallH.mkS Tryz.func168 rfl en168 (by simp[Tryz.ntmps168]) (ClA.of rfl) fun C hR hP hH hL=>?_
 refine Sm.bringI 1 3 0 (ha.mono hH) rfl rfl ?_
 refine Sm.bringI 2 3 1 (hb.mono hH) rfl rfl (Sm.go 100 ?_)
 refine vv ?_
 refine mtch (fun hc=>?_) (fun hc=>?_)
 ·refine RetQ.bool (hR C hL) rfl scc ?_
  exact(decide_eq_false (len_ne (β:=Nat) (m:=0) (n:=0) hc)).symm
 have hll:la.length=lb.length:=by simp at hc;omega
 refine Sm.loopM (M0:=[]) (α:={i:Nat//i≤la.length∧la.take i=lb.take i}) hP (fun i=>[(0,true,.c (.sl 1 0 la.length 1)),(1,true,.c (.sl 2 0 lb.length 1)),(5,true,I i.val)])
  (fun _=>[(1,⟨true,la.map iC,3⟩),(2,⟨true,lb.map iC,3⟩)]) (fun i=>la.length-i.val) ⟨0,by omega,rfl⟩ (fun _=>ClM.of (by simp only[List.all_cons,inMV (v_iC _)];rfl)) (fun _=>ClE.of rfl) [(1,1),(2,2)] ?_ ?_
 ·exact⟨rfl,trivial,⟨rfl,rfl,rfl,trivial⟩,⟨oV (renV (v_iC _)),oV (renV (v_iC _)),trivial⟩⟩
 rintro⟨i,hi,ht⟩ J hj
 simp only at hj hi ht⊢
 refine Sm.go 110 ?_
 refine vv ?_
 refine mtch (fun hc=>?_) (fun hc=>?_)
 ·have hc:=lt_of_dec hc
  have gi:=get_iC hc
  have hc2:i<lb.length:=by omega
  have gj:=get_iC hc2
  have hs:=tk_step hc hc2 ht
  have hne:=tk_ne hc hc2
  refine Sm.dg 110 8 mix ?_
  generalize la[i]=x at*
  generalize lb[i]=y at*
  simp(maxSteps:=2000000) only[go_sem,gi,gj]
  refine⟨⟨by omega,by omega⟩,⟨by omega,by omega⟩,?_⟩
  refine mtch (fun hd=>?_) (fun hd=>?_)
  ·refine RetQ.bool (hR C hL) rfl scc ?_
   exact(decide_eq_false (hne (by simpa using hd))).symm
  ·simp(maxSteps:=2000000) only[go_sem,wS (show i≤1000000000000000000 by omega)]
   exact hj _ _ ⟨i+1,hc,hs (by simpa using hd)⟩ [(1,1),(2,2)] (by simp only;omega) ⟨rfl,trivial,⟨rfl,rfl,rfl,trivial⟩,⟨oV (renV (v_iC _)),oV (renV (v_iC _)),trivial⟩⟩
 ·have hc:=eq_of_dec hi hc
  subst hc
  refine RetQ.bool (hR C hL) rfl scc ?_
  exact(decide_eq_true (tk_all hll ht)).symm
theorem gnums_ {H:Hp}(a b:Sv)(la lb:List Int)(ha:SlH H (vsl a la.length) 1 (intsR la))(hb:SlH H (vsl b lb.length) 1 (intsR lb))(hl:la.length≤1000000000000000):CallH H Tryz.prog 169 [.c (.v (vsl a la.length)),.c (.v (vsl b lb.length))] (Bo (decide (la=lb))):=by
 refine CallH.mkS Tryz.func169 rfl en169 (by simp[Tryz.ntmps169]) (ClA.of rfl) fun C hR hP hH hL=>?_
 refine Sm.bringI 1 3 0 (ha.mono hH) rfl rfl ?_
 refine Sm.bringI 2 3 1 (hb.mono hH) rfl rfl (Sm.go 100 ?_)
 refine vv ?_
 refine mtch (fun hc=>?_) (fun hc=>?_)
 ·refine RetQ.bool (hR C hL) rfl scc ?_
  exact(decide_eq_false (len_ne (β:=Nat) (m:=0) (n:=0) hc)).symm
 have hll:la.length=lb.length:=by simp at hc;omega
 refine Sm.loopM (M0:=[]) (α:={i:Nat//i≤la.length∧la.take i=lb.take i}) hP (fun i=>[(0,true,.c (.sl 1 0 la.length 1)),(1,true,.c (.sl 2 0 lb.length 1)),(5,true,I i.val)])
  (fun _=>[(1,⟨true,la.map iC,3⟩),(2,⟨true,lb.map iC,3⟩)]) (fun i=>la.length-i.val) ⟨0,by omega,rfl⟩ (fun _=>ClM.of (by simp only[List.all_cons,inMV (v_iC _)];rfl)) (fun _=>ClE.of rfl) [(1,1),(2,2)] ?_ ?_
 ·exact⟨rfl,trivial,⟨rfl,rfl,rfl,trivial⟩,⟨oV (renV (v_iC _)),oV (renV (v_iC _)),trivial⟩⟩
 rintro⟨i,hi,ht⟩ J hj
 simp only at hj hi ht⊢
 refine Sm.go 110 ?_
 refine vv ?_
 refine mtch (fun hc=>?_) (fun hc=>?_)
 ·have hc:=lt_of_dec hc
  have gi:=get_iC hc
  have hc2:i<lb.length:=by omega
  have gj:=get_iC hc2
  have hs:=tk_step hc hc2 ht
  have hne:=tk_ne hc hc2
  refine Sm.dg 110 8 mix ?_
  generalize la[i]=x at*
  generalize lb[i]=y at*
  simp(maxSteps:=2000000) only[go_sem,gi,gj]
  refine⟨⟨by omega,by omega⟩,⟨by omega,by omega⟩,?_⟩
  refine mtch (fun hd=>?_) (fun hd=>?_)
  ·refine RetQ.bool (hR C hL) rfl scc ?_
   exact(decide_eq_false (hne (by simpa using hd))).symm
  ·simp(maxSteps:=2000000) only[go_sem,wS (show i≤1000000000000000000 by omega)]
   exact hj _ _ ⟨i+1,hc,hs (by simpa using hd)⟩ [(1,1),(2,2)] (by simp only;omega) ⟨rfl,trivial,⟨rfl,rfl,rfl,trivial⟩,⟨oV (renV (v_iC _)),oV (renV (v_iC _)),trivial⟩⟩
 ·have hc:=eq_of_dec hi hc
  subst hc
  refine RetQ.bool (hR C hL) rfl scc ?_
  exact(decide_eq_true (tk_all hll ht)).symm
theorem gsame5_ {H:Hp}(a b:CuL)(ha:a.ok H)(hb:b.ok H)(hlx:a.c.xs.length≤1000000000000000)(hly:a.c.ys.length≤1000000000000000):CallH H Tryz.prog 58 [.agg (cuV a),.agg (cuV b)] (Bo (decide (a.c.xs=b.c.xs)&&decide (a.c.ys=b.c.ys))):=by
 have ax:=ha.x
 have ay:=ha.y
 have hil:∀l:List Int,(intsR l).length=l.length:=fun l=>by simp[intsR]
 unfold cuV
 have bx:=hb.x
 have by1:=hb.y
 generalize a.c.xs=xs at*
 generalize a.c.ys=ys at*
 generalize b.c.xs=xs' at*
 generalize b.c.ys=ys' at*
 refine CallH.mkS Tryz.func58 rfl en58 (by simp[Tryz.ntmps58]) (ClA.of rfl) fun C hR hP hH hL=>?_
 refine Sm.go 100 ?_
 refine vv ?_
 refine mtch (fun hc=>?_) (fun hc=>?_)
 ·refine RetQ.bool (hR C hL) rfl scc ?_
  cases h1:((xs.length:Int)!=(xs'.length:Int))with
  |true=>rw[decide_eq_false (len_ne (β:=Nat) (m:=0) (n:=0) h1)];rfl
  |false=>
   rw[h1]at hc
   rw[decide_eq_false (p:=ys=ys') (len_ne (β:=Nat) (m:=0) (n:=0) hc),Bool.and_false]
 have hxl:xs.length=xs'.length:=by
  cases h1:((xs.length:Int)!=(xs'.length:Int))with
  |true=>rw[h1]at hc;cases hc
  |false=>simp at h1;omega
 have hyl:ys.length=ys'.length:=by
  have h1:((xs.length:Int)!=(xs'.length:Int))=false:=by rw[hxl];exact bne_self_eq_false _
  rw[h1]at hc
  have hc:((ys.length:Int)!=(ys'.length:Int))=false:=hc
  simp at hc;omega
 refine Sm.bringC 1 3 100 0 (ax.mono hH) rfl rfl rfl ?_
 refine Sm.bringC 2 3 100 1 (ay.mono hH) rfl rfl rfl ?_
 refine Sm.bringC 3 3 101 0 (bx.mono hH) rfl rfl rfl ?_
 refine Sm.bringC 4 3 101 1 (by1.mono hH) rfl rfl rfl ?_
 rw[hil,hil,hil,hil,intsC,intsC,intsC,intsC]
 refine Sm.loopM (M0:=[]) (α:={i:Nat//i≤xs.length∧xs.take i=xs'.take i}) hP (fun i=>[(2,true,.c (.p 5 0)),(3,true,.c (.p 6 0)),(5,true,I i.val)])
  (fun _=>[(1,⟨true,xs.map iC,3⟩),(2,⟨true,ys.map iC,3⟩),(3,⟨true,xs'.map iC,3⟩),(4,⟨true,ys'.map iC,3⟩),(5,⟨false,[.sl 1 0 xs.length 1,.sl 2 0 ys.length 1],108⟩),(6,⟨false,[.sl 3 0 xs'.length 1,.sl 4 0 ys'.length 1],108⟩)]) (fun i=>xs.length-i.val) ⟨0,by omega,rfl⟩ (fun _=>ClM.of (by simp only[List.all_cons,inMV (v_iC _)];rfl)) (fun _=>ClE.of rfl) [(1,1),(2,2),(3,3),(4,4),(5,100),(6,101)] ?_ ?_
 ·exact⟨rfl,trivial,⟨rfl,rfl,rfl,trivial⟩,⟨oV (renV (v_iC _)),oV (renV (v_iC _)),oV (renV (v_iC _)),oV (renV (v_iC _)),oR,oR,trivial⟩⟩
 rintro⟨i,hi,ht⟩ J hj
 simp only at hj hi ht⊢
 refine Sm.go 110 ?_
 refine vv ?_
 refine mtch (fun hc=>?_) (fun hc=>?_)
 ·have hc:=lt_of_dec hc
  have hc2:i<xs'.length:=by omega
  have gi:=get_iC hc
  have gj:=get_iC hc2
  have hs:=tk_step hc hc2 ht
  have hne:=tk_ne hc hc2
  refine Sm.dg 110 10 mix ?_
  generalize xs[i]=x at*
  generalize xs'[i]=y at*
  simp(maxSteps:=2000000) only[go_sem,gi,gj]
  refine⟨⟨by omega,by omega⟩,⟨by omega,by omega⟩,?_⟩
  refine mtch (fun hd=>?_) (fun hd=>?_)
  ·refine RetQ.bool (hR C hL) rfl scc ?_
   rw[decide_eq_false (p:=xs=xs') (hne (by simpa using hd))];rfl
  ·simp(maxSteps:=2000000) only[go_sem,wS (show i≤1000000000000000000 by omega)]
   exact hj _ _ ⟨i+1,hc,hs (by simpa using hd)⟩ [(1,1),(2,2),(3,3),(4,4),(5,5),(6,6)] (by simp only;omega) ⟨rfl,trivial,⟨rfl,rfl,rfl,trivial⟩,⟨oV (renV (v_iC _)),oV (renV (v_iC _)),oV (renV (v_iC _)),oV (renV (v_iC _)),oR,oR,trivial⟩⟩
 have hc:=eq_of_dec hi hc
 subst hc
 have hxe:=tk_all hxl ht
 clear hj
 rw[decide_eq_true hxe]at hR
 refine Sm.loopM (M0:=[]) (α:={i:Nat//i≤ys.length∧ys.take i=ys'.take i}) hP (fun i=>[(2,true,.c (.p 5 0)),(3,true,.c (.p 6 0)),(6,true,I i.val)])
  (fun _=>[(1,⟨true,xs.map iC,3⟩),(2,⟨true,ys.map iC,3⟩),(3,⟨true,xs'.map iC,3⟩),(4,⟨true,ys'.map iC,3⟩),(5,⟨false,[.sl 1 0 xs.length 1,.sl 2 0 ys.length 1],108⟩),(6,⟨false,[.sl 3 0 xs'.length 1,.sl 4 0 ys'.length 1],108⟩)]) (fun i=>ys.length-i.val) ⟨0,by omega,rfl⟩ (fun _=>ClM.of (by simp only[List.all_cons,inMV (v_iC _)];rfl)) (fun _=>ClE.of rfl) [(1,1),(2,2),(3,3),(4,4),(5,5),(6,6)] ?_ ?_
 ·exact⟨rfl,trivial,⟨rfl,rfl,rfl,trivial⟩,⟨oV (renV (v_iC _)),oV (renV (v_iC _)),oV (renV (v_iC _)),oV (renV (v_iC _)),oR,oR,trivial⟩⟩
 rintro⟨j,hk,ht2⟩ J2 hj2
 simp only at hj2 hk ht2⊢
 refine Sm.go 110 ?_
 refine vv ?_
 refine mtch (fun hc=>?_) (fun hc=>?_)
 ·have hc:=lt_of_dec hc
  have hc2:j<ys'.length:=by omega
  have gi:=get_iC hc
  have gj:=get_iC hc2
  have hs:=tk_step hc hc2 ht2
  have hne:=tk_ne hc hc2
  refine Sm.dg 110 10 mix ?_
  generalize ys[j]=x at*
  generalize ys'[j]=y at*
  simp(maxSteps:=2000000) only[go_sem,gi,gj]
  refine⟨⟨by omega,by omega⟩,⟨by omega,by omega⟩,?_⟩
  refine mtch (fun hd=>?_) (fun hd=>?_)
  ·refine RetQ.bool (hR C hL) rfl scc ?_
   rw[decide_eq_false (p:=ys=ys') (hne (by simpa using hd))];rfl
  ·simp(maxSteps:=2000000) only[go_sem,wS (show j≤1000000000000000000 by omega)]
   exact hj2 _ _ ⟨j+1,hc,hs (by simpa using hd)⟩ [(1,1),(2,2),(3,3),(4,4),(5,5),(6,6)] (by simp only;omega) ⟨rfl,trivial,⟨rfl,rfl,rfl,trivial⟩,⟨oV (renV (v_iC _)),oV (renV (v_iC _)),oV (renV (v_iC _)),oV (renV (v_iC _)),oR,oR,trivial⟩⟩
 ·have hc:=eq_of_dec hk hc
  subst hc
  refine RetQ.bool (hR C hL) rfl scc ?_
  rw[decide_eq_true (p:=ys=ys') (tk_all hyl ht2)];rfl
theorem gsame6m_ {H:Hp}(a b:MpL)(ha:a.ok H)(hb:b.ok H)(hlx:a.xs.length≤1000000000000000)(hly:a.ys.length≤1000000000000000)(hlz:a.zs.length≤1000000000000000)(hlr:∀v∈a.zs,v.2.length≤1000000000000000):
  CallH H Tryz.prog 59 [.agg (maV a),.agg (maV b)] (Bo (decide (a.xs=b.xs)&&(decide (a.ys=b.ys)&&decide (a.zs.map (·.2)=b.zs.map (·.2))))):=by
 unfold maV
 have q1:=gsame6_ a.x b.x a.xs b.xs ha.x hb.x hlx
 have q2:=gsame6_ a.y b.y a.ys b.ys ha.y hb.y hly
 have hla:(a.zs.map zR).length=a.zs.length:=List.length_map _
 have hlb:(b.zs.map zR).length=b.zs.length:=List.length_map _
 have za:(a.zs.map (·.2)).length=a.zs.length:=List.length_map _
 have zb:(b.zs.map (·.2)).length=b.zs.length:=List.length_map _
 generalize decide (a.xs=b.xs)=A1 at*
 generalize decide (a.ys=b.ys)=A2 at*
 refine CallH.mkS Tryz.func59 rfl en59 (by simp[Tryz.ntmps59]) (ClA.of rfl) fun C hR hP hH hL=>?_
 refine Sm.go 100 ?_
 refine vv ?_
 refine CallQ.h 110 q1 hH rfl ?_
 refine vv ?_
 refine CallQ.hg 110 (fun _=>q2) hH (fun h=>by rw[h];rfl) ?_
 refine vv ?_
 cases A1 with
 |false=>
  refine vv ?_
  exact RetQ.bool (hR C hL) rfl scc rfl
 |true=>
 cases A2 with
 |false=>
  refine vv ?_
  exact RetQ.bool (hR C hL) rfl scc rfl
 |true=>
 refine vv ?_
 refine mtch (fun hc=>?_) (fun hc=>?_)
 ·refine RetQ.bool (hR C hL) rfl scc ?_
  rw[decide_eq_false (fun e=>by have:=congrArg List.length e;rw[za,zb]at this;rw[this]at hc;simp at hc)];rfl
 have hzl:a.zs.length=b.zs.length:=by simp at hc;omega
 refine Sm.bringC 1 73 100 2 (rows:=a.zs.map zR) (by have:=ha.z.mono hH;exact this) rfl rfl rfl ?_
 refine Sm.bringC 2 73 101 2 (rows:=b.zs.map zR) (by have:=hb.z.mono hH;exact this) rfl rfl rfl ?_
 rw[hla,hlb]
 refine Sm.loopM (M0:=[]) (α:={i:Nat//i≤a.zs.length∧(a.zs.map (·.2)).take i=(b.zs.map (·.2)).take i}) hP (fun i=>[(2,true,.c (.p 5 0)),(3,true,.c (.p 6 0)),(5,true,I i.val)])
  (fun _=>[(1,⟨true,rowsC (a.zs.map zR),73⟩),(2,⟨true,rowsC (b.zs.map zR),73⟩),(5,⟨false,[.v (vsl a.x a.xs.length),.v (vsl a.y a.ys.length),.sl 1 0 a.zs.length 1],113⟩),(6,⟨false,[.v (vsl b.x b.xs.length),.v (vsl b.y b.ys.length),.sl 2 0 b.zs.length 1],113⟩)]) (fun i=>a.zs.length-i.val) ⟨0,by omega,rfl⟩ (fun _=>ClM.of (by simp only[List.all_cons,inMV (rowsC_isV _)];rfl)) (fun _=>ClE.of rfl) [(1,1),(2,2),(5,100),(6,101)] ?_ ?_
 ·exact⟨rfl,trivial,⟨rfl,rfl,rfl,trivial⟩,⟨oV (renV (rowsC_isV _)),oV (renV (rowsC_isV _)),oR,oR,trivial⟩⟩
 rintro⟨i,hi,ht⟩ J hj
 simp only at hj hi ht⊢
 refine Sm.go 110 ?_
 refine vv ?_
 refine mtch (fun hc=>?_) (fun hc=>?_)
 ·have hc:=lt_of_dec hc
  have hc2:i<b.zs.length:=by omega
  have ga:=zget (v:=a.z) hc
  have gb:=zget (v:=a.z) hc2
  have hs:=tk_step (by rw[za];exact hc) (by rw[zb];exact hc2) ht
  have hne:=tk_ne (la:=a.zs.map (·.2)) (lb:=b.zs.map (·.2)) (by rw[za];exact hc) (by rw[zb];exact hc2)
  rw[List.getElem_map,List.getElem_map]at hs hne
  have qa:=ha.e _ (List.getElem_mem hc)
  have qb:=hb.e _ (List.getElem_mem hc2)
  have q3:=gsame6_ a.zs[i].1 b.zs[i].1 a.zs[i].2 b.zs[i].2 qa qb (hlr _ (List.getElem_mem hc))
  refine Sm.dg 110 10 mix ?_
  simp(maxSteps:=2000000) only[go_sem,ga,gb]
  refine⟨⟨by omega,by omega⟩,⟨by omega,by omega⟩,?_⟩
  refine CallQ.h 120 q3 hH rfl ?_
  by_cases he:a.zs[i].2=b.zs[i].2
  ·rw[decide_eq_true he]
   simp(maxSteps:=2000000) only[go_sem,wS (show i≤1000000000000000000 by omega)]
   exact hj _ _ ⟨i+1,hc,hs he⟩ [(1,1),(2,2),(5,5),(6,6)] (by simp only;omega) ⟨rfl,trivial,⟨rfl,rfl,rfl,trivial⟩,⟨oV (renV (rowsC_isV _)),oV (renV (rowsC_isV _)),oR,oR,trivial⟩⟩
  ·rw[decide_eq_false he]
   refine vv ?_
   refine RetQ.bool (hR C hL) rfl scc ?_
   rw[decide_eq_false (hne he)];rfl
 ·have hc:=eq_of_dec hi hc
  subst hc
  refine RetQ.bool (hR C hL) rfl scc ?_
  rw[decide_eq_true (tk_all (by rw[za,zb];exact hzl) (by rw[za];exact ht))];rfl
theorem gsameB_ {H:Hp}(a b:BlL)(ha:a.ok H)(hb:b.ok H)(hl1:a.c.ins.length≤1000000000000000)(hl2:a.c.ks.length≤1000000000000000):CallH H Tryz.prog 60 [rowV a.r,rowV b.r] (Bo (bEq a.c b.c)):=by
 have q1:=gtexts_ a.i b.i a.c.ins b.c.ins ha.i hb.i hl1
 have q2:=gnums_ a.k b.k a.c.ks b.c.ks ha.k hb.k hl2
 unfold bEq
 generalize decide (a.c.ins=b.c.ins)=A1 at*
 generalize decide (a.c.ks=b.c.ks)=A2 at*
 refine CallH.mkS Tryz.func60 rfl en60 (by simp[Tryz.ntmps60]) (ClA.of rfl) fun C hR hP hH hL=>?_
 refine Sm.go 100 ?_
 refine vv ?_
 refine CallQ.hg 110 (fun _=>q1) hH (fun h=>by rw[h];rfl) ?_
 refine vv ?_
 refine CallQ.hg 110 (fun _=>q2) hH (fun h=>by rw[h];rfl) ?_
 refine vv ?_
 have h9:∀x1 x2 x3 x4 x5 x6:Bool,(bif bif bif bif bif x1 then x2 else false then x3 else false then x4 else false then x5 else false then x6 else false)=(x1&&(x2&&(x3&&(x4&&(x5&&x6))))):=by decide
 exact RetQ.bool (hR C hL) rfl scc (h9 _ _ _ _ _ _)
end Go.Proofs.YtlnpgbnhcondjaaGreatDoor.Fx
