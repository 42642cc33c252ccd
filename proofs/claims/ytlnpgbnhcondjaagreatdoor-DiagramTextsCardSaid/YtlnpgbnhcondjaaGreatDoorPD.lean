/-  -/
import Derived.Test.YtlnpgbnhcondjaaGreatDoorTf
import Derived.Test.YtlnpgbnhcondjaaGreatDoorPC
import Derived.Test.YtlnpgbnhcondjaaGreatDoorP8
namespace Go.Proofs.YtlnpgbnhcondjaaGreatDoor.Fx
open Vg Tf
set_option linter.unusedSimpArgs false
set_option linter.unusedVariables false
set_option maxRecDepth 100000
set_option maxHeartbeats 8000000
theorem cl_gs (a b:DgL):ClM [(1,⟨true,rowsC (a.tys.map Td.r),93⟩),(2,⟨true,rowsC (a.cus.map CuL.r),110⟩),(3,⟨true,rowsC (a.mas.map MpL.r),115⟩),(4,⟨true,rowsC (a.ins.map Po.r),118⟩),(5,⟨true,rowsC (a.bls.map BlL.r),82⟩),(6,⟨true,rowsC (b.tys.map Td.r),93⟩),(7,⟨true,rowsC (b.cus.map CuL.r),110⟩),(8,⟨true,rowsC (b.mas.map MpL.r),115⟩),(9,⟨true,rowsC (b.ins.map Po.r),118⟩),(10,⟨true,rowsC (b.bls.map BlL.r),82⟩),(11,⟨false,[.v (sv a.nm),.sl 1 0 a.tys.length 11,.sl 2 0 a.cus.length 3,.sl 3 0 a.mas.length 4,.sl 4 0 a.ins.length 4,.sl 5 0 a.bls.length 6,.v (vsl a.ou a.ous.length)],30⟩),(12,⟨false,[.v (sv b.nm),.sl 6 0 b.tys.length 11,.sl 7 0 b.cus.length 3,.sl 8 0 b.mas.length 4,.sl 9 0 b.ins.length 4,.sl 10 0 b.bls.length 6,.v (vsl b.ou b.ous.length)],30⟩)]:=ClM.of (by simp only[List.all_cons,inMV (rowsC_isV _)];rfl)
theorem gsame_ {H:Hp}(a b:DgL)(ha:a.ok H)(hb:b.ok H)(sa:a.sm)(hm:∀m∈a.mas,m.xs.length≤1000000000000000∧m.ys.length≤1000000000000000∧m.zs.length≤1000000000000000)(e:Bool)(he:e=true↔a.c=b.c):
  CallH H Tryz.prog 22 [rowV a.r,rowV b.r] (Bo e):=by
 have hF:a.c≠b.c→e=false:=fun hq=>by
  cases h:e with
  |false=>rfl
  |true=>exact absurd (he.1 h) hq
 have q0:=gtexts_ a.ou b.ou a.ous b.ous ha.ou hb.ou sa.ous.1
 have na_tys:(a.tys.map Td.r).length=a.tys.length:=List.length_map _
 have ya_tys:=rows_len (r:=Td.r) (k:=11) (fun _=>rfl) a.tys
 have nb_tys:(b.tys.map Td.r).length=b.tys.length:=List.length_map _
 have yb_tys:=rows_len (r:=Td.r) (k:=11) (fun _=>rfl) b.tys
 have na_cus:(a.cus.map CuL.r).length=a.cus.length:=List.length_map _
 have ya_cus:=rows_len (r:=CuL.r) (k:=3) (fun _=>rfl) a.cus
 have nb_cus:(b.cus.map CuL.r).length=b.cus.length:=List.length_map _
 have yb_cus:=rows_len (r:=CuL.r) (k:=3) (fun _=>rfl) b.cus
 have na_mas:(a.mas.map MpL.r).length=a.mas.length:=List.length_map _
 have ya_mas:=rows_len (r:=MpL.r) (k:=4) (fun _=>rfl) a.mas
 have nb_mas:(b.mas.map MpL.r).length=b.mas.length:=List.length_map _
 have yb_mas:=rows_len (r:=MpL.r) (k:=4) (fun _=>rfl) b.mas
 have na_ins:(a.ins.map Po.r).length=a.ins.length:=List.length_map _
 have ya_ins:=rows_len (r:=Po.r) (k:=4) (fun _=>rfl) a.ins
 have nb_ins:(b.ins.map Po.r).length=b.ins.length:=List.length_map _
 have yb_ins:=rows_len (r:=Po.r) (k:=4) (fun _=>rfl) b.ins
 have na_bls:(a.bls.map BlL.r).length=a.bls.length:=List.length_map _
 have ya_bls:=rows_len (r:=BlL.r) (k:=6) (fun _=>rfl) a.bls
 have nb_bls:(b.bls.map BlL.r).length=b.bls.length:=List.length_map _
 have yb_bls:=rows_len (r:=BlL.r) (k:=6) (fun _=>rfl) b.bls
 have la_cus:(a.cus.map CuL.c).length=a.cus.length:=List.length_map _
 have lb_cus:(b.cus.map CuL.c).length=b.cus.length:=List.length_map _
 have la_mas:(a.mas.map MpL.c).length=a.mas.length:=List.length_map _
 have lb_mas:(b.mas.map MpL.c).length=b.mas.length:=List.length_map _
 have la_bls:(a.bls.map BlL.c).length=a.bls.length:=List.length_map _
 have lb_bls:(b.bls.map BlL.c).length=b.bls.length:=List.length_map _
 refine CallH.mkS Tryz.func22 rfl en22 (by simp[Tryz.ntmps22]) (ClA.of rfl) fun C hR hP hH hL=>?_
 refine Sm.go 100 ?_
 refine vv ?_
 refine CallQ.hg 110 (fun _=>q0) hH (fun h=>by rw[h];rfl) ?_
 refine vv ?_
 have h7:∀x1 x2 x3 x4 x5 x6 x7:Bool,(bif bif bif bif bif bif x1 then true else x2 then true else x3 then true else x4 then true else x5 then true else x6 then true else x7)=(x1||(x2||(x3||(x4||(x5||(x6||x7)))))):=by decide
 refine mtch (fun hc=>?_) (fun hc=>?_)
 ·rw[h7]at hc
  have hef:=hF (fun hq=>by
   unfold DgL.c at hq
   injection hq with e1 e2 e3 e4 e5 e6 e7
   have c2:=congrArg List.length e2
   have c3:=congrArg List.length e3
   have c4:=congrArg List.length e4
   have c5:=congrArg List.length e5
   have c6:=congrArg List.length e6
   rw[la_cus,lb_cus]at c3
   rw[la_mas,lb_mas]at c4
   rw[la_bls,lb_bls]at c6
   rw[e1,c2,c3,c4,c5,c6,e7]at hc
   simp at hc)
  subst hef
  exact RetQ.bool (hR C hL) rfl scc rfl
 rw[h7]at hc
 simp only[Bool.or_eq_false_iff]at hc
 obtain⟨d1,d2,d3,d4,d5,d6,d7⟩:=hc
 have d1:a.nm=b.nm:=by simpa using d1
 have d2:a.tys.length=b.tys.length:=by simp at d2;omega
 have d3:a.cus.length=b.cus.length:=by simp at d3;omega
 have d4:a.mas.length=b.mas.length:=by simp at d4;omega
 have d5:a.ins.length=b.ins.length:=by simp at d5;omega
 have d6:a.bls.length=b.bls.length:=by simp at d6;omega
 have d7:a.ous=b.ous:=by simpa using d7
 refine Sm.bringC 1 93 100 1 (ha.ty.mono hH) rfl rfl rfl ?_
 refine Sm.bringC 2 110 100 2 (ha.cu.mono hH) rfl rfl rfl ?_
 refine Sm.bringC 3 115 100 3 (ha.ma.mono hH) rfl rfl rfl ?_
 refine Sm.bringC 4 118 100 4 (ha.i.mono hH) rfl rfl rfl ?_
 refine Sm.bringC 5 82 100 5 (ha.bl.mono hH) rfl rfl rfl ?_
 refine Sm.bringC 6 93 101 1 (hb.ty.mono hH) rfl rfl rfl ?_
 refine Sm.bringC 7 110 101 2 (hb.cu.mono hH) rfl rfl rfl ?_
 refine Sm.bringC 8 115 101 3 (hb.ma.mono hH) rfl rfl rfl ?_
 refine Sm.bringC 9 118 101 4 (hb.i.mono hH) rfl rfl rfl ?_
 refine Sm.bringC 10 82 101 5 (hb.bl.mono hH) rfl rfl rfl ?_
 rw[na_tys,nb_tys,na_cus,nb_cus,na_mas,nb_mas,na_ins,nb_ins,na_bls,nb_bls]
 refine Sm.loopM (M0:=[]) (α:={i:Nat//i≤a.tys.length∧a.tys.take i=b.tys.take i}) hP (fun i=>[(2,true,.c (.p 11 0)),(3,true,.c (.p 12 0)),(5,true,I i.val)])
  (fun _=>[(1,⟨true,rowsC (a.tys.map Td.r),93⟩),(2,⟨true,rowsC (a.cus.map CuL.r),110⟩),(3,⟨true,rowsC (a.mas.map MpL.r),115⟩),(4,⟨true,rowsC (a.ins.map Po.r),118⟩),(5,⟨true,rowsC (a.bls.map BlL.r),82⟩),(6,⟨true,rowsC (b.tys.map Td.r),93⟩),(7,⟨true,rowsC (b.cus.map CuL.r),110⟩),(8,⟨true,rowsC (b.mas.map MpL.r),115⟩),(9,⟨true,rowsC (b.ins.map Po.r),118⟩),(10,⟨true,rowsC (b.bls.map BlL.r),82⟩),(11,⟨false,[.v (sv a.nm),.sl 1 0 a.tys.length 11,.sl 2 0 a.cus.length 3,.sl 3 0 a.mas.length 4,.sl 4 0 a.ins.length 4,.sl 5 0 a.bls.length 6,.v (vsl a.ou a.ous.length)],30⟩),(12,⟨false,[.v (sv b.nm),.sl 6 0 b.tys.length 11,.sl 7 0 b.cus.length 3,.sl 8 0 b.mas.length 4,.sl 9 0 b.ins.length 4,.sl 10 0 b.bls.length 6,.v (vsl b.ou b.ous.length)],30⟩)]) (fun i=>a.tys.length-i.val) ⟨0,by omega,rfl⟩ (fun _=>cl_gs a b) (fun _=>ClE.of rfl) [(1,1),(2,2),(3,3),(4,4),(5,5),(6,6),(7,7),(8,8),(9,9),(10,10),(11,100),(12,101)] ?_ ?_
 ·exact⟨rfl,trivial,⟨rfl,rfl,rfl,trivial⟩,⟨oV (renV (rowsC_isV _)),oV (renV (rowsC_isV _)),oV (renV (rowsC_isV _)),oV (renV (rowsC_isV _)),oV (renV (rowsC_isV _)),oV (renV (rowsC_isV _)),oV (renV (rowsC_isV _)),oV (renV (rowsC_isV _)),oV (renV (rowsC_isV _)),oV (renV (rowsC_isV _)),oR,oR,trivial⟩⟩
 rintro⟨i0,hi0,ht0⟩ J0 hj0
 simp only at hj0 hi0 ht0⊢
 refine Sm.go 110 ?_
 refine vv ?_
 refine mtch (fun hc=>?_) (fun hc=>?_)
 ·have hc:=lt_of_dec hc
  have hcb:i0<b.tys.length:=by omega
  have ga:=rows_take (r:=Td.r) (k:=11) (fun _=>rfl) a.tys i0 hc
  have gb:=rows_take (r:=Td.r) (k:=11) (fun _=>rfl) b.tys i0 hcb
  have hs:=tk_step hc hcb ht0
  have hne:=tk_ne hc hcb
  generalize a.tys[i0]=x at*
  generalize b.tys[i0]=y at*
  refine Sm.dg 110 10 mix ?_
  simp(maxSteps:=2000000) only[go_sem,ga,gb,ya_tys,yb_tys,wS (show i0≤1000000000000000000 by have:=sa.tys.1;omega)]
  refine⟨⟨by omega,by omega⟩,by omega,⟨by omega,by omega⟩,by omega,?_⟩
  refine mtch (fun hq=>?_) (fun hq=>?_)
  ·have hxy:x≠y:=by
    rintro rfl
    simp at hq
   have hef:=hF (fun h=>hne hxy (congrArg Dg.tys h))
   subst hef
   exact RetQ.bool (hR C hL) rfl scc rfl
  ·have hxy:x=y:=by
    obtain⟨xn,xt⟩:=x
    obtain⟨yn,yt⟩:=y
    obtain⟨x0,x1,x2,x3,x4,x5,x6,x7,x8,x9⟩:=xt
    obtain⟨y0,y1,y2,y3,y4,y5,y6,y7,y8,y9⟩:=yt
    simp at hq
    simp[hq]
   exact hj0 _ _ ⟨i0+1,hc,hs hxy⟩ [(1,1),(2,2),(3,3),(4,4),(5,5),(6,6),(7,7),(8,8),(9,9),(10,10),(11,11),(12,12)] (by simp only;omega) ⟨rfl,trivial,⟨rfl,rfl,rfl,trivial⟩,⟨oV (renV (rowsC_isV _)),oV (renV (rowsC_isV _)),oV (renV (rowsC_isV _)),oV (renV (rowsC_isV _)),oV (renV (rowsC_isV _)),oV (renV (rowsC_isV _)),oV (renV (rowsC_isV _)),oV (renV (rowsC_isV _)),oV (renV (rowsC_isV _)),oV (renV (rowsC_isV _)),oR,oR,trivial⟩⟩
 have hc:=eq_of_dec hi0 hc
 subst hc
 clear hj0
 have t0:=tk_all d2 ht0
 refine Sm.loopM (M0:=[]) (α:={i:Nat//i≤a.cus.length∧(a.cus.map CuL.c).take i=(b.cus.map CuL.c).take i}) hP (fun i=>[(2,true,.c (.p 11 0)),(3,true,.c (.p 12 0)),(6,true,I i.val)])
  (fun _=>[(1,⟨true,rowsC (a.tys.map Td.r),93⟩),(2,⟨true,rowsC (a.cus.map CuL.r),110⟩),(3,⟨true,rowsC (a.mas.map MpL.r),115⟩),(4,⟨true,rowsC (a.ins.map Po.r),118⟩),(5,⟨true,rowsC (a.bls.map BlL.r),82⟩),(6,⟨true,rowsC (b.tys.map Td.r),93⟩),(7,⟨true,rowsC (b.cus.map CuL.r),110⟩),(8,⟨true,rowsC (b.mas.map MpL.r),115⟩),(9,⟨true,rowsC (b.ins.map Po.r),118⟩),(10,⟨true,rowsC (b.bls.map BlL.r),82⟩),(11,⟨false,[.v (sv a.nm),.sl 1 0 a.tys.length 11,.sl 2 0 a.cus.length 3,.sl 3 0 a.mas.length 4,.sl 4 0 a.ins.length 4,.sl 5 0 a.bls.length 6,.v (vsl a.ou a.ous.length)],30⟩),(12,⟨false,[.v (sv b.nm),.sl 6 0 b.tys.length 11,.sl 7 0 b.cus.length 3,.sl 8 0 b.mas.length 4,.sl 9 0 b.ins.length 4,.sl 10 0 b.bls.length 6,.v (vsl b.ou b.ous.length)],30⟩)]) (fun i=>a.cus.length-i.val) ⟨0,by omega,rfl⟩ (fun _=>cl_gs a b) (fun _=>ClE.of rfl) [(1,1),(2,2),(3,3),(4,4),(5,5),(6,6),(7,7),(8,8),(9,9),(10,10),(11,11),(12,12)] ?_ ?_
 ·exact⟨rfl,trivial,⟨rfl,rfl,rfl,trivial⟩,⟨oV (renV (rowsC_isV _)),oV (renV (rowsC_isV _)),oV (renV (rowsC_isV _)),oV (renV (rowsC_isV _)),oV (renV (rowsC_isV _)),oV (renV (rowsC_isV _)),oV (renV (rowsC_isV _)),oV (renV (rowsC_isV _)),oV (renV (rowsC_isV _)),oV (renV (rowsC_isV _)),oR,oR,trivial⟩⟩
 rintro⟨i1,hi1,ht1⟩ J1 hj1
 simp only at hj1 hi1 ht1⊢
 refine Sm.go 110 ?_
 refine vv ?_
 refine mtch (fun hc=>?_) (fun hc=>?_)
 ·have hc:=lt_of_dec hc
  have hcb:i1<b.cus.length:=by omega
  have hs:=tk_step (by rw[la_cus];exact hc) (by rw[lb_cus];exact hcb) ht1
  have hne:=tk_ne (la:=a.cus.map CuL.c) (lb:=b.cus.map CuL.c) (by rw[la_cus];exact hc) (by rw[lb_cus];exact hcb)
  rw[List.getElem_map,List.getElem_map]at hs hne
  have hef:CuL.c a.cus[i1]≠CuL.c b.cus[i1]→e=false:=fun hq=>hF (fun h=>hne hq (congrArg Dg.cus h))
  have ga:=rows_one (r:=CuL.r) (k:=3) (fun _=>rfl) a.cus i1 0 hc (by omega)
  have gb:=rows_one (r:=CuL.r) (k:=3) (fun _=>rfl) b.cus i1 0 hcb (by omega)
  have fa:=rows_fld (r:=CuL.r) (k:=3) (fun _=>rfl) a.cus i1 1 2 hc (by omega)
  have fb:=rows_fld (r:=CuL.r) (k:=3) (fun _=>rfl) b.cus i1 1 2 hcb (by omega)
  have oka:=ha.cus _ (List.getElem_mem hc)
  have okb:=hb.cus _ (List.getElem_mem hcb)
  have sm:=sa.cus.2 _ (List.getElem_mem hc)
  generalize a.cus[i1]=x at*
  generalize b.cus[i1]=y at*
  have q:=gsame5_ x y oka okb sm.2.1 sm.2.2
  have gx:(CuL.r x)[0]?=some (sv x.c.nm):=rfl
  have gy:(CuL.r y)[0]?=some (sv y.c.nm):=rfl
  rw[gx,Option.map_some]at ga
  rw[gy,Option.map_some]at gb
  have e1:((CuL.r x).drop 1).take 2=[vsl x.x x.c.xs.length,vsl x.y x.c.ys.length]:=rfl
  have e2:((CuL.r y).drop 1).take 2=[vsl y.x y.c.xs.length,vsl y.y y.c.ys.length]:=rfl
  rw[e1]at fa
  rw[e2]at fb
  rw[Nat.add_zero]at ga gb
  refine Sm.dg 110 26 mix ?_
  by_cases hn:x.c.nm=y.c.nm
  ·rw[hn]at ga
   simp(maxSteps:=2000000) only[go_sem,ga,gb,fa,fb,ya_cus,yb_cus,bne_self_eq_false,beq_self_eq_true]
   refine⟨⟨by omega,by omega⟩,⟨by omega,by omega⟩,⟨by omega,by omega⟩,by omega,⟨by omega,by omega⟩,by omega,?_⟩
   refine CallQ.hg 120 (fun _=>q) hH (fun _=>rfl) ?_
   generalize hE:(decide (x.c.xs=y.c.xs)&&decide (x.c.ys=y.c.ys))=E at*
   cases E with
   |true=>
    simp(maxSteps:=2000000) only[go_sem,wS (show i1≤1000000000000000000 by have:=sa.cus.1;omega)]
    have hxy:CuL.c x=CuL.c y:=by
     simp only[Bool.and_eq_true,decide_eq_true_eq]at hE
     obtain⟨k1,k2⟩:=hE
     obtain⟨x,_,_⟩:=x
     obtain⟨y,_,_⟩:=y
     obtain⟨xn,xx,xy⟩:=x
     obtain⟨yn,yx,yy⟩:=y
     simp only at hn k1 k2
     subst hn;subst k1;subst k2
     rfl
    exact hj1 _ _ ⟨i1+1,hc,hs hxy⟩ [(1,1),(2,2),(3,3),(4,4),(5,5),(6,6),(7,7),(8,8),(9,9),(10,10),(11,11),(12,12)] (by simp only;omega) ⟨rfl,trivial,⟨rfl,rfl,rfl,trivial⟩,⟨oV (renV (rowsC_isV _)),oV (renV (rowsC_isV _)),oV (renV (rowsC_isV _)),oV (renV (rowsC_isV _)),oV (renV (rowsC_isV _)),oV (renV (rowsC_isV _)),oV (renV (rowsC_isV _)),oV (renV (rowsC_isV _)),oV (renV (rowsC_isV _)),oV (renV (rowsC_isV _)),oR,oR,trivial⟩⟩
   |false=>
    have hef:=hef (fun h=>by
     have:(decide (x.c.xs=y.c.xs)&&decide (x.c.ys=y.c.ys))=true:=by
      simp only[Bool.and_eq_true,decide_eq_true_eq]
      exact⟨congrArg Cu.xs h,congrArg Cu.ys h⟩
     rw[this]at hE;cases hE)
    subst hef
    refine vv ?_
    exact RetQ.bool (hR C hL) rfl scc rfl
  ·have hnb:(x.c.nm==y.c.nm)=false:=beq_eq_false_iff_ne.2 hn
   have hef:=hef (fun h=>hn (congrArg Cu.nm h))
   subst hef
   simp(maxSteps:=2000000) only[go_sem,ga,gb,fa,fb,ya_cus,yb_cus,hnb]
   refine⟨⟨by omega,by omega⟩,⟨by omega,by omega⟩,?_⟩
   refine CallQ.hg 120 (fun _=>q) hH (fun h=>by cases h) ?_
   refine vv ?_
   exact RetQ.bool (hR C hL) rfl scc rfl
 have hc:=eq_of_dec hi1 hc
 subst hc
 clear hj1
 have t1:=tk_all (la:=a.cus.map CuL.c) (lb:=b.cus.map CuL.c) (by rw[la_cus,lb_cus];exact d3) (by rw[la_cus];exact ht1)
 refine Sm.loopM (M0:=[]) (α:={i:Nat//i≤a.mas.length∧(a.mas.map MpL.c).take i=(b.mas.map MpL.c).take i}) hP (fun i=>[(2,true,.c (.p 11 0)),(3,true,.c (.p 12 0)),(7,true,I i.val)])
  (fun _=>[(1,⟨true,rowsC (a.tys.map Td.r),93⟩),(2,⟨true,rowsC (a.cus.map CuL.r),110⟩),(3,⟨true,rowsC (a.mas.map MpL.r),115⟩),(4,⟨true,rowsC (a.ins.map Po.r),118⟩),(5,⟨true,rowsC (a.bls.map BlL.r),82⟩),(6,⟨true,rowsC (b.tys.map Td.r),93⟩),(7,⟨true,rowsC (b.cus.map CuL.r),110⟩),(8,⟨true,rowsC (b.mas.map MpL.r),115⟩),(9,⟨true,rowsC (b.ins.map Po.r),118⟩),(10,⟨true,rowsC (b.bls.map BlL.r),82⟩),(11,⟨false,[.v (sv a.nm),.sl 1 0 a.tys.length 11,.sl 2 0 a.cus.length 3,.sl 3 0 a.mas.length 4,.sl 4 0 a.ins.length 4,.sl 5 0 a.bls.length 6,.v (vsl a.ou a.ous.length)],30⟩),(12,⟨false,[.v (sv b.nm),.sl 6 0 b.tys.length 11,.sl 7 0 b.cus.length 3,.sl 8 0 b.mas.length 4,.sl 9 0 b.ins.length 4,.sl 10 0 b.bls.length 6,.v (vsl b.ou b.ous.length)],30⟩)]) (fun i=>a.mas.length-i.val) ⟨0,by omega,rfl⟩ (fun _=>cl_gs a b) (fun _=>ClE.of rfl) [(1,1),(2,2),(3,3),(4,4),(5,5),(6,6),(7,7),(8,8),(9,9),(10,10),(11,11),(12,12)] ?_ ?_
 ·exact⟨rfl,trivial,⟨rfl,rfl,rfl,trivial⟩,⟨oV (renV (rowsC_isV _)),oV (renV (rowsC_isV _)),oV (renV (rowsC_isV _)),oV (renV (rowsC_isV _)),oV (renV (rowsC_isV _)),oV (renV (rowsC_isV _)),oV (renV (rowsC_isV _)),oV (renV (rowsC_isV _)),oV (renV (rowsC_isV _)),oV (renV (rowsC_isV _)),oR,oR,trivial⟩⟩
 rintro⟨i2,hi2,ht2⟩ J2 hj2
 simp only at hj2 hi2 ht2⊢
 refine Sm.go 110 ?_
 refine vv ?_
 refine mtch (fun hc=>?_) (fun hc=>?_)
 ·have hc:=lt_of_dec hc
  have hcb:i2<b.mas.length:=by omega
  have hs:=tk_step (by rw[la_mas];exact hc) (by rw[lb_mas];exact hcb) ht2
  have hne:=tk_ne (la:=a.mas.map MpL.c) (lb:=b.mas.map MpL.c) (by rw[la_mas];exact hc) (by rw[lb_mas];exact hcb)
  rw[List.getElem_map,List.getElem_map]at hs hne
  have hef:MpL.c a.mas[i2]≠MpL.c b.mas[i2]→e=false:=fun hq=>hF (fun h=>hne hq (congrArg Dg.mas h))
  have ga:=rows_one (r:=MpL.r) (k:=4) (fun _=>rfl) a.mas i2 0 hc (by omega)
  have gb:=rows_one (r:=MpL.r) (k:=4) (fun _=>rfl) b.mas i2 0 hcb (by omega)
  have fa:=rows_fld (r:=MpL.r) (k:=4) (fun _=>rfl) a.mas i2 1 3 hc (by omega)
  have fb:=rows_fld (r:=MpL.r) (k:=4) (fun _=>rfl) b.mas i2 1 3 hcb (by omega)
  have oka:=ha.mas _ (List.getElem_mem hc)
  have okb:=hb.mas _ (List.getElem_mem hcb)
  have sm:=sa.mas.2 _ (List.getElem_mem hc)
  have hmy:=hm _ (List.getElem_mem hc)
  generalize a.mas[i2]=x at*
  generalize b.mas[i2]=y at*
  have q:=gsame6m_ x y oka okb hmy.1 hmy.2.1 hmy.2.2 sm.2
  have gx:(MpL.r x)[0]?=some (sv x.nm):=rfl
  have gy:(MpL.r y)[0]?=some (sv y.nm):=rfl
  rw[gx,Option.map_some]at ga
  rw[gy,Option.map_some]at gb
  have e1:((MpL.r x).drop 1).take 3=[vsl x.x x.xs.length,vsl x.y x.ys.length,vsl x.z x.zs.length]:=rfl
  have e2:((MpL.r y).drop 1).take 3=[vsl y.x y.xs.length,vsl y.y y.ys.length,vsl y.z y.zs.length]:=rfl
  rw[e1]at fa
  rw[e2]at fb
  rw[Nat.add_zero]at ga gb
  refine Sm.dg 110 26 mix ?_
  by_cases hn:x.nm=y.nm
  ·rw[hn]at ga
   simp(maxSteps:=2000000) only[go_sem,ga,gb,fa,fb,ya_mas,yb_mas,bne_self_eq_false,beq_self_eq_true]
   refine⟨⟨by omega,by omega⟩,⟨by omega,by omega⟩,⟨by omega,by omega⟩,by omega,⟨by omega,by omega⟩,by omega,?_⟩
   refine CallQ.hg 120 (fun _=>q) hH (fun _=>rfl) ?_
   generalize hE:(decide (x.xs=y.xs)&&(decide (x.ys=y.ys)&&decide (x.zs.map (·.2)=y.zs.map (·.2))))=E at*
   cases E with
   |true=>
    simp(maxSteps:=2000000) only[go_sem,wS (show i2≤1000000000000000000 by have:=sa.mas.1;omega)]
    have hxy:MpL.c x=MpL.c y:=by
     simp only[Bool.and_eq_true,decide_eq_true_eq]at hE
     obtain⟨k1,k2,k3⟩:=hE
     obtain⟨xn,xx,xy,xz,_,_,_⟩:=x
     obtain⟨yn,yx,yy,yz,_,_,_⟩:=y
     simp only at hn k1 k2 k3
     unfold MpL.c
     simp only[hn,k1,k2,k3]
    exact hj2 _ _ ⟨i2+1,hc,hs hxy⟩ [(1,1),(2,2),(3,3),(4,4),(5,5),(6,6),(7,7),(8,8),(9,9),(10,10),(11,11),(12,12)] (by simp only;omega) ⟨rfl,trivial,⟨rfl,rfl,rfl,trivial⟩,⟨oV (renV (rowsC_isV _)),oV (renV (rowsC_isV _)),oV (renV (rowsC_isV _)),oV (renV (rowsC_isV _)),oV (renV (rowsC_isV _)),oV (renV (rowsC_isV _)),oV (renV (rowsC_isV _)),oV (renV (rowsC_isV _)),oV (renV (rowsC_isV _)),oV (renV (rowsC_isV _)),oR,oR,trivial⟩⟩
   |false=>
    have hef:=hef (fun h=>by
     have:(decide (x.xs=y.xs)&&(decide (x.ys=y.ys)&&decide (x.zs.map (·.2)=y.zs.map (·.2))))=true:=by
      simp only[Bool.and_eq_true,decide_eq_true_eq]
      exact⟨congrArg Mp.xs h,congrArg Mp.ys h,congrArg Mp.zs h⟩
     rw[this]at hE;cases hE)
    subst hef
    refine vv ?_
    exact RetQ.bool (hR C hL) rfl scc rfl
  ·have hnb:(x.nm==y.nm)=false:=beq_eq_false_iff_ne.2 hn
   have hef:=hef (fun h=>hn (congrArg Mp.nm h))
   subst hef
   simp(maxSteps:=2000000) only[go_sem,ga,gb,fa,fb,ya_mas,yb_mas,hnb]
   refine⟨⟨by omega,by omega⟩,⟨by omega,by omega⟩,?_⟩
   refine CallQ.hg 120 (fun _=>q) hH (fun h=>by cases h) ?_
   refine vv ?_
   exact RetQ.bool (hR C hL) rfl scc rfl
 have hc:=eq_of_dec hi2 hc
 subst hc
 clear hj2
 have t2:=tk_all (la:=a.mas.map MpL.c) (lb:=b.mas.map MpL.c) (by rw[la_mas,lb_mas];exact d4) (by rw[la_mas];exact ht2)
 refine Sm.loopM (M0:=[]) (α:={i:Nat//i≤a.ins.length∧a.ins.take i=b.ins.take i}) hP (fun i=>[(2,true,.c (.p 11 0)),(3,true,.c (.p 12 0)),(8,true,I i.val)])
  (fun _=>[(1,⟨true,rowsC (a.tys.map Td.r),93⟩),(2,⟨true,rowsC (a.cus.map CuL.r),110⟩),(3,⟨true,rowsC (a.mas.map MpL.r),115⟩),(4,⟨true,rowsC (a.ins.map Po.r),118⟩),(5,⟨true,rowsC (a.bls.map BlL.r),82⟩),(6,⟨true,rowsC (b.tys.map Td.r),93⟩),(7,⟨true,rowsC (b.cus.map CuL.r),110⟩),(8,⟨true,rowsC (b.mas.map MpL.r),115⟩),(9,⟨true,rowsC (b.ins.map Po.r),118⟩),(10,⟨true,rowsC (b.bls.map BlL.r),82⟩),(11,⟨false,[.v (sv a.nm),.sl 1 0 a.tys.length 11,.sl 2 0 a.cus.length 3,.sl 3 0 a.mas.length 4,.sl 4 0 a.ins.length 4,.sl 5 0 a.bls.length 6,.v (vsl a.ou a.ous.length)],30⟩),(12,⟨false,[.v (sv b.nm),.sl 6 0 b.tys.length 11,.sl 7 0 b.cus.length 3,.sl 8 0 b.mas.length 4,.sl 9 0 b.ins.length 4,.sl 10 0 b.bls.length 6,.v (vsl b.ou b.ous.length)],30⟩)]) (fun i=>a.ins.length-i.val) ⟨0,by omega,rfl⟩ (fun _=>cl_gs a b) (fun _=>ClE.of rfl) [(1,1),(2,2),(3,3),(4,4),(5,5),(6,6),(7,7),(8,8),(9,9),(10,10),(11,11),(12,12)] ?_ ?_
 ·exact⟨rfl,trivial,⟨rfl,rfl,rfl,trivial⟩,⟨oV (renV (rowsC_isV _)),oV (renV (rowsC_isV _)),oV (renV (rowsC_isV _)),oV (renV (rowsC_isV _)),oV (renV (rowsC_isV _)),oV (renV (rowsC_isV _)),oV (renV (rowsC_isV _)),oV (renV (rowsC_isV _)),oV (renV (rowsC_isV _)),oV (renV (rowsC_isV _)),oR,oR,trivial⟩⟩
 rintro⟨i3,hi3,ht3⟩ J3 hj3
 simp only at hj3 hi3 ht3⊢
 refine Sm.go 110 ?_
 refine vv ?_
 refine mtch (fun hc=>?_) (fun hc=>?_)
 ·have hc:=lt_of_dec hc
  have hcb:i3<b.ins.length:=by omega
  have ga:=rows_take (r:=Po.r) (k:=4) (fun _=>rfl) a.ins i3 hc
  have gb:=rows_take (r:=Po.r) (k:=4) (fun _=>rfl) b.ins i3 hcb
  have hs:=tk_step hc hcb ht3
  have hne:=tk_ne hc hcb
  generalize a.ins[i3]=x at*
  generalize b.ins[i3]=y at*
  refine Sm.dg 110 10 mix ?_
  simp(maxSteps:=2000000) only[go_sem,ga,gb,ya_ins,yb_ins,wS (show i3≤1000000000000000000 by have:=sa.ins.1;omega)]
  refine⟨⟨by omega,by omega⟩,by omega,⟨by omega,by omega⟩,by omega,?_⟩
  refine mtch (fun hq=>?_) (fun hq=>?_)
  ·have hxy:x≠y:=by
    rintro rfl
    simp at hq
   have hef:=hF (fun h=>hne hxy (congrArg Dg.ins h))
   subst hef
   exact RetQ.bool (hR C hL) rfl scc rfl
  ·have hxy:x=y:=by
    obtain⟨x0,x1,x2,x3⟩:=x
    obtain⟨y0,y1,y2,y3⟩:=y
    simp at hq
    simp[hq]
   exact hj3 _ _ ⟨i3+1,hc,hs hxy⟩ [(1,1),(2,2),(3,3),(4,4),(5,5),(6,6),(7,7),(8,8),(9,9),(10,10),(11,11),(12,12)] (by simp only;omega) ⟨rfl,trivial,⟨rfl,rfl,rfl,trivial⟩,⟨oV (renV (rowsC_isV _)),oV (renV (rowsC_isV _)),oV (renV (rowsC_isV _)),oV (renV (rowsC_isV _)),oV (renV (rowsC_isV _)),oV (renV (rowsC_isV _)),oV (renV (rowsC_isV _)),oV (renV (rowsC_isV _)),oV (renV (rowsC_isV _)),oV (renV (rowsC_isV _)),oR,oR,trivial⟩⟩
 have hc:=eq_of_dec hi3 hc
 subst hc
 clear hj3
 have t3:=tk_all d5 ht3
 refine Sm.loopM (M0:=[]) (α:={i:Nat//i≤a.bls.length∧(a.bls.map BlL.c).take i=(b.bls.map BlL.c).take i}) hP (fun i=>[(2,true,.c (.p 11 0)),(3,true,.c (.p 12 0)),(9,true,I i.val)])
  (fun _=>[(1,⟨true,rowsC (a.tys.map Td.r),93⟩),(2,⟨true,rowsC (a.cus.map CuL.r),110⟩),(3,⟨true,rowsC (a.mas.map MpL.r),115⟩),(4,⟨true,rowsC (a.ins.map Po.r),118⟩),(5,⟨true,rowsC (a.bls.map BlL.r),82⟩),(6,⟨true,rowsC (b.tys.map Td.r),93⟩),(7,⟨true,rowsC (b.cus.map CuL.r),110⟩),(8,⟨true,rowsC (b.mas.map MpL.r),115⟩),(9,⟨true,rowsC (b.ins.map Po.r),118⟩),(10,⟨true,rowsC (b.bls.map BlL.r),82⟩),(11,⟨false,[.v (sv a.nm),.sl 1 0 a.tys.length 11,.sl 2 0 a.cus.length 3,.sl 3 0 a.mas.length 4,.sl 4 0 a.ins.length 4,.sl 5 0 a.bls.length 6,.v (vsl a.ou a.ous.length)],30⟩),(12,⟨false,[.v (sv b.nm),.sl 6 0 b.tys.length 11,.sl 7 0 b.cus.length 3,.sl 8 0 b.mas.length 4,.sl 9 0 b.ins.length 4,.sl 10 0 b.bls.length 6,.v (vsl b.ou b.ous.length)],30⟩)]) (fun i=>a.bls.length-i.val) ⟨0,by omega,rfl⟩ (fun _=>cl_gs a b) (fun _=>ClE.of rfl) [(1,1),(2,2),(3,3),(4,4),(5,5),(6,6),(7,7),(8,8),(9,9),(10,10),(11,11),(12,12)] ?_ ?_
 ·exact⟨rfl,trivial,⟨rfl,rfl,rfl,trivial⟩,⟨oV (renV (rowsC_isV _)),oV (renV (rowsC_isV _)),oV (renV (rowsC_isV _)),oV (renV (rowsC_isV _)),oV (renV (rowsC_isV _)),oV (renV (rowsC_isV _)),oV (renV (rowsC_isV _)),oV (renV (rowsC_isV _)),oV (renV (rowsC_isV _)),oV (renV (rowsC_isV _)),oR,oR,trivial⟩⟩
 rintro⟨i4,hi4,ht4⟩ J4 hj4
 simp only at hj4 hi4 ht4⊢
 refine Sm.go 110 ?_
 refine vv ?_
 refine mtch (fun hc=>?_) (fun hc=>?_)
 ·have hc:=lt_of_dec hc
  have hcb:i4<b.bls.length:=by omega
  have hs:=tk_step (by rw[la_bls];exact hc) (by rw[lb_bls];exact hcb) ht4
  have hne:=tk_ne (la:=a.bls.map BlL.c) (lb:=b.bls.map BlL.c) (by rw[la_bls];exact hc) (by rw[lb_bls];exact hcb)
  rw[List.getElem_map,List.getElem_map]at hs hne
  have hef:BlL.c a.bls[i4]≠BlL.c b.bls[i4]→e=false:=fun hq=>hF (fun h=>hne hq (congrArg Dg.bls h))
  have ga:=rows_take (r:=BlL.r) (k:=6) (fun _=>rfl) a.bls i4 hc
  have gb:=rows_take (r:=BlL.r) (k:=6) (fun _=>rfl) b.bls i4 hcb
  have q:=gsameB_ _ _ (ha.bls _ (List.getElem_mem hc)) (hb.bls _ (List.getElem_mem hcb)) (sa.bls.2 _ (List.getElem_mem hc)).2.2.2.1 (sa.bls.2 _ (List.getElem_mem hc)).2.2.2.2.1
  generalize a.bls[i4]=x at*
  generalize b.bls[i4]=y at*
  refine Sm.dg 110 10 mix ?_
  simp(maxSteps:=2000000) only[go_sem,ga,gb,ya_bls,yb_bls]
  refine⟨⟨by omega,by omega⟩,by omega,⟨by omega,by omega⟩,by omega,?_⟩
  refine CallQ.h 120 q hH rfl ?_
  generalize hE:bEq x.c y.c=E at*
  cases E with
  |true=>
   simp(maxSteps:=2000000) only[go_sem,wS (show i4≤1000000000000000000 by have:=sa.bls.1;omega)]
   have hxy:BlL.c x=BlL.c y:=by
    unfold bEq at hE
    simp only[Bool.and_eq_true,decide_eq_true_eq,beq_iff_eq]at hE
    obtain⟨k1,k2,k3,k4,k5,k6⟩:=hE
    obtain⟨x,_,_⟩:=x
    obtain⟨y,_,_⟩:=y
    obtain⟨x0,x1,x2,x3,x4,x5⟩:=x
    obtain⟨y0,y1,y2,y3,y4,y5⟩:=y
    simp only at k1 k2 k3 k4 k5 k6
    subst k1;subst k2;subst k3;subst k4;subst k5;subst k6
    rfl
   exact hj4 _ _ ⟨i4+1,hc,hs hxy⟩ [(1,1),(2,2),(3,3),(4,4),(5,5),(6,6),(7,7),(8,8),(9,9),(10,10),(11,11),(12,12)] (by simp only;omega) ⟨rfl,trivial,⟨rfl,rfl,rfl,trivial⟩,⟨oV (renV (rowsC_isV _)),oV (renV (rowsC_isV _)),oV (renV (rowsC_isV _)),oV (renV (rowsC_isV _)),oV (renV (rowsC_isV _)),oV (renV (rowsC_isV _)),oV (renV (rowsC_isV _)),oV (renV (rowsC_isV _)),oV (renV (rowsC_isV _)),oV (renV (rowsC_isV _)),oR,oR,trivial⟩⟩
  |false=>
   have hef:=hef (fun h=>by
    have:bEq x.c y.c=true:=by
     have h:x.c=y.c:=h
     rw[h];unfold bEq;simp
    rw[this]at hE;cases hE)
   subst hef
   refine vv ?_
   exact RetQ.bool (hR C hL) rfl scc rfl
 have hc:=eq_of_dec hi4 hc
 subst hc
 clear hj4
 have t4:=tk_all (la:=a.bls.map BlL.c) (lb:=b.bls.map BlL.c) (by rw[la_bls,lb_bls];exact d6) (by rw[la_bls];exact ht4)
 have hall:a.c=b.c:=by
  unfold DgL.c
  rw[d1,t0,t1,t2,t3,t4,d7]
 have hee:=he.2 hall
 subst hee
 refine vv ?_
 exact RetQ.bool (hR C hL) rfl scc rfl
end Go.Proofs.YtlnpgbnhcondjaaGreatDoor.Fx
