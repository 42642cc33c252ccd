/-  -/
import Derived.Test.YtlnpgbnhcondjaaGreatDoorPS
import Derived.Test.YtlnpgbnhcondjaaGreatDoorRP
namespace Go.Proofs.YtlnpgbnhcondjaaGreatDoor.Fx
open Vg Tf
set_option linter.unusedSimpArgs false
set_option linter.unusedVariables false
set_option maxRecDepth 100000
set_option maxHeartbeats 4000000
theorem rows_fld {α:Type}{r:α→List Value}{k:Nat}(hk:∀x,(r x).length=k)(l:List α)(i j m:Nat)(h:i<l.length)(hm:j+m≤k):((rowsC (l.map r)).drop (i*k+j)).take m=(((r l[i]).drop j).take m).map Cv.v:=by
 have h1:=rows_take hk l i h
 have e:((rowsC (l.map r)).drop (i*k+j)).take m=((((rowsC (l.map r)).drop (i*k)).take k).drop j).take m:=by rw[List.drop_take,List.take_take,Nat.min_eq_left (by omega),List.drop_drop]
 rw[e,h1,List.map_take,List.map_drop]
theorem rows_one {α:Type}{r:α→List Value}{k:Nat}(hk:∀x,(r x).length=k)(l:List α)(i j:Nat)(h:i<l.length)(hj:j<k):(rowsC (l.map r))[i*k+j]?=((r l[i])[j]?).map Cv.v:=by
 have h1:=rows_take hk l i h
 have:(rowsC (l.map r))[i*k+j]?=(((rowsC (l.map r)).drop (i*k)).take k)[j]?:=by rw[List.getElem?_take_of_lt hj,List.getElem?_drop]
 rw[this,h1,List.getElem?_map]
theorem map_at {α β:Type}{f:α→β}{l m:List α}(h:l.map f=m.map f)(i:Nat)(hi:i<l.length)(hm:i<m.length):f l[i]=f m[i]:=by
 have h1:(l.map f)[i]?=(m.map f)[i]?:=by rw[h]
 rw[List.getElem?_map,List.getElem?_map,List.getElem?_eq_getElem hi,List.getElem?_eq_getElem hm]at h1
 simpa using h1
theorem same_ {H:Hp}(a b:DgL)(ha:a.ok H)(hb:b.ok H)(h:a.c=b.c)(hs:b.sm)(hm:∀m∈b.mas,m.xs.length≤1000000000000000∧m.ys.length≤1000000000000000∧m.zs.length≤1000000000000000):CallH H Tryz.prog 22 [rowV a.r,rowV b.r] (Bo true):=by
 unfold DgL.c at h
 injection h with hnm htys hcus hmas hins hbls hous
 have lc:a.cus.length=b.cus.length:=by have:=congrArg List.length hcus;simpa using this
 have lm:a.mas.length=b.mas.length:=by have:=congrArg List.length hmas;simpa using this
 have lb:a.bls.length=b.bls.length:=by have:=congrArg List.length hbls;simpa using this
 have lt:a.tys.length=b.tys.length:=by rw[htys]
 have li:a.ins.length=b.ins.length:=by rw[hins]
 have er:rowV a.r= .agg [.v (sv b.nm),.v (vsl a.ty b.tys.length),.v (vsl a.cu b.cus.length),.v (vsl a.ma b.mas.length),.v (vsl a.i b.ins.length),.v (vsl a.bl b.bls.length),.v (vsl a.ou b.ous.length)]:=by rw[←hnm,←lt,←lc,←lm,←li,←lb,←hous];rfl
 have er2:rowV b.r= .agg [.v (sv b.nm),.v (vsl b.ty b.tys.length),.v (vsl b.cu b.cus.length),.v (vsl b.ma b.mas.length),.v (vsl b.i b.ins.length),.v (vsl b.bl b.bls.length),.v (vsl b.ou b.ous.length)]:=rfl
 rw[er,er2]
 have k_tys:SlH H (vsl a.ty b.tys.length) 11 (a.tys.map Td.r):=by have:=ha.ty;rwa [lt]at this
 have m_tys:(a.tys.map Td.r).length=b.tys.length:=by rw[List.length_map];exact lt
 have n_tys:(b.tys.map Td.r).length=b.tys.length:=List.length_map _
 have ya_tys:=rows_len (r:=Td.r) (k:=11) (fun _=>rfl) a.tys
 have yb_tys:=rows_len (r:=Td.r) (k:=11) (fun _=>rfl) b.tys
 have k_cus:SlH H (vsl a.cu b.cus.length) 3 (a.cus.map CuL.r):=by have:=ha.cu;rwa [lc]at this
 have m_cus:(a.cus.map CuL.r).length=b.cus.length:=by rw[List.length_map];exact lc
 have n_cus:(b.cus.map CuL.r).length=b.cus.length:=List.length_map _
 have ya_cus:=rows_len (r:=CuL.r) (k:=3) (fun _=>rfl) a.cus
 have yb_cus:=rows_len (r:=CuL.r) (k:=3) (fun _=>rfl) b.cus
 have k_mas:SlH H (vsl a.ma b.mas.length) 4 (a.mas.map MpL.r):=by have:=ha.ma;rwa [lm]at this
 have m_mas:(a.mas.map MpL.r).length=b.mas.length:=by rw[List.length_map];exact lm
 have n_mas:(b.mas.map MpL.r).length=b.mas.length:=List.length_map _
 have ya_mas:=rows_len (r:=MpL.r) (k:=4) (fun _=>rfl) a.mas
 have yb_mas:=rows_len (r:=MpL.r) (k:=4) (fun _=>rfl) b.mas
 have k_ins:SlH H (vsl a.i b.ins.length) 4 (a.ins.map Po.r):=by have:=ha.i;rwa [li]at this
 have m_ins:(a.ins.map Po.r).length=b.ins.length:=by rw[List.length_map];exact li
 have n_ins:(b.ins.map Po.r).length=b.ins.length:=List.length_map _
 have ya_ins:=rows_len (r:=Po.r) (k:=4) (fun _=>rfl) a.ins
 have yb_ins:=rows_len (r:=Po.r) (k:=4) (fun _=>rfl) b.ins
 have k_bls:SlH H (vsl a.bl b.bls.length) 6 (a.bls.map BlL.r):=by have:=ha.bl;rwa [lb]at this
 have m_bls:(a.bls.map BlL.r).length=b.bls.length:=by rw[List.length_map];exact lb
 have n_bls:(b.bls.map BlL.r).length=b.bls.length:=List.length_map _
 have ya_bls:=rows_len (r:=BlL.r) (k:=6) (fun _=>rfl) a.bls
 have yb_bls:=rows_len (r:=BlL.r) (k:=6) (fun _=>rfl) b.bls
 have hou:SlH H (vsl a.ou b.ous.length) 1 (strsR b.ous):=by have:=ha.ou;rwa [hous]at this
 have q0:=rtexts_ a.ou b.ou b.ous hou hb.ou hs.ous.1
 refine CallH.mkS Tryz.func22 rfl en22 (by simp[Tryz.ntmps22]) (ClA.of rfl) fun C hR hP hH hL=>?_
 refine Sm.go 100 ?_
 simp(maxSteps:=2000000) only[go_sem,bne_self_eq_false]
 refine CallQ.hg 110 (fun _=>q0) hH (fun _=>rfl) ?_
 refine vv ?_
 refine Sm.bringC 1 93 100 1 (k_tys.mono hH) rfl rfl rfl ?_
 refine Sm.bringC 2 110 100 2 (k_cus.mono hH) rfl rfl rfl ?_
 refine Sm.bringC 3 115 100 3 (k_mas.mono hH) rfl rfl rfl ?_
 refine Sm.bringC 4 118 100 4 (k_ins.mono hH) rfl rfl rfl ?_
 refine Sm.bringC 5 82 100 5 (k_bls.mono hH) rfl rfl rfl ?_
 refine Sm.bringC 6 93 101 1 (hb.ty.mono hH) rfl rfl rfl ?_
 refine Sm.bringC 7 110 101 2 (hb.cu.mono hH) rfl rfl rfl ?_
 refine Sm.bringC 8 115 101 3 (hb.ma.mono hH) rfl rfl rfl ?_
 refine Sm.bringC 9 118 101 4 (hb.i.mono hH) rfl rfl rfl ?_
 refine Sm.bringC 10 82 101 5 (hb.bl.mono hH) rfl rfl rfl ?_
 rw[m_tys,m_cus,m_mas,m_ins,m_bls,n_tys,n_cus,n_mas,n_ins,n_bls]
 refine Sm.loopM (M0:=[]) (α:={i:Nat//i≤b.tys.length}) hP (fun i=>[(2,true,.c (.p 11 0)),(3,true,.c (.p 12 0)),(5,true,I i.val)])
  (fun _=>[(1,⟨true,rowsC (a.tys.map Td.r),93⟩),(2,⟨true,rowsC (a.cus.map CuL.r),110⟩),(3,⟨true,rowsC (a.mas.map MpL.r),115⟩),(4,⟨true,rowsC (a.ins.map Po.r),118⟩),(5,⟨true,rowsC (a.bls.map BlL.r),82⟩),(6,⟨true,rowsC (b.tys.map Td.r),93⟩),(7,⟨true,rowsC (b.cus.map CuL.r),110⟩),(8,⟨true,rowsC (b.mas.map MpL.r),115⟩),(9,⟨true,rowsC (b.ins.map Po.r),118⟩),(10,⟨true,rowsC (b.bls.map BlL.r),82⟩),(11,⟨false,[.v (sv b.nm),.sl 1 0 b.tys.length 11,.sl 2 0 b.cus.length 3,.sl 3 0 b.mas.length 4,.sl 4 0 b.ins.length 4,.sl 5 0 b.bls.length 6,.v (vsl a.ou b.ous.length)],30⟩),(12,⟨false,[.v (sv b.nm),.sl 6 0 b.tys.length 11,.sl 7 0 b.cus.length 3,.sl 8 0 b.mas.length 4,.sl 9 0 b.ins.length 4,.sl 10 0 b.bls.length 6,.v (vsl b.ou b.ous.length)],30⟩)]) (fun i=>b.tys.length-i.val) ⟨0,by omega⟩ (fun _=>ClM.of (by simp only[List.all_cons,inMV (rowsC_isV _)];rfl)) (fun _=>ClE.of rfl) [(1,1),(2,2),(3,3),(4,4),(5,5),(6,6),(7,7),(8,8),(9,9),(10,10),(11,100),(12,101)] ?_ ?_
 ·exact⟨rfl,trivial,⟨rfl,rfl,rfl,trivial⟩,⟨.inr ⟨_,rfl,.inl (renV (rowsC_isV _))⟩,.inr ⟨_,rfl,.inl (renV (rowsC_isV _))⟩,.inr ⟨_,rfl,.inl (renV (rowsC_isV _))⟩,.inr ⟨_,rfl,.inl (renV (rowsC_isV _))⟩,.inr ⟨_,rfl,.inl (renV (rowsC_isV _))⟩,.inr ⟨_,rfl,.inl (renV (rowsC_isV _))⟩,.inr ⟨_,rfl,.inl (renV (rowsC_isV _))⟩,.inr ⟨_,rfl,.inl (renV (rowsC_isV _))⟩,.inr ⟨_,rfl,.inl (renV (rowsC_isV _))⟩,.inr ⟨_,rfl,.inl (renV (rowsC_isV _))⟩,.inr ⟨_,rfl,.inl rfl⟩,.inr ⟨_,rfl,.inl rfl⟩,trivial⟩⟩
 rintro⟨i0,hi0⟩ J0 hj0
 simp only at hj0 hi0⊢
 refine Sm.go 110 ?_
 refine vv ?_
 refine mtch (fun hc=>?_) (fun hc=>?_)
 ·have hc:=lt_of_dec hc
  have hca:i0<a.tys.length:=by omega
  have ga:=rows_take (r:=Td.r) (k:=11) (fun _=>rfl) a.tys i0 hca
  have gb:=rows_take (r:=Td.r) (k:=11) (fun _=>rfl) b.tys i0 hc
  have he:a.tys[i0]=b.tys[i0]:=by simp only[htys]
  rw[he]at ga
  generalize b.tys[i0]=x at*
  refine Sm.dg 110 10 mix ?_
  simp(maxSteps:=2000000) only[go_sem,ga,gb,ya_tys,yb_tys,bne_self_eq_false,beq_self_eq_true,wS (show i0≤1000000000000000000 by have:=hs.tys.1;omega)]
  refine⟨⟨by omega,by omega⟩,by omega,⟨by omega,by omega⟩,by omega,?_⟩
  exact hj0 _ _ ⟨i0+1,hc⟩ [(1,1),(2,2),(3,3),(4,4),(5,5),(6,6),(7,7),(8,8),(9,9),(10,10),(11,11),(12,12)] (by simp only;omega) ⟨rfl,trivial,⟨rfl,rfl,rfl,trivial⟩,⟨.inr ⟨_,rfl,.inl (renV (rowsC_isV _))⟩,.inr ⟨_,rfl,.inl (renV (rowsC_isV _))⟩,.inr ⟨_,rfl,.inl (renV (rowsC_isV _))⟩,.inr ⟨_,rfl,.inl (renV (rowsC_isV _))⟩,.inr ⟨_,rfl,.inl (renV (rowsC_isV _))⟩,.inr ⟨_,rfl,.inl (renV (rowsC_isV _))⟩,.inr ⟨_,rfl,.inl (renV (rowsC_isV _))⟩,.inr ⟨_,rfl,.inl (renV (rowsC_isV _))⟩,.inr ⟨_,rfl,.inl (renV (rowsC_isV _))⟩,.inr ⟨_,rfl,.inl (renV (rowsC_isV _))⟩,.inr ⟨_,rfl,.inl rfl⟩,.inr ⟨_,rfl,.inl rfl⟩,trivial⟩⟩
 refine Sm.loopM (M0:=[]) (α:={i:Nat//i≤b.cus.length}) hP (fun i=>[(2,true,.c (.p 11 0)),(3,true,.c (.p 12 0)),(6,true,I i.val)])
  (fun _=>[(1,⟨true,rowsC (a.tys.map Td.r),93⟩),(2,⟨true,rowsC (a.cus.map CuL.r),110⟩),(3,⟨true,rowsC (a.mas.map MpL.r),115⟩),(4,⟨true,rowsC (a.ins.map Po.r),118⟩),(5,⟨true,rowsC (a.bls.map BlL.r),82⟩),(6,⟨true,rowsC (b.tys.map Td.r),93⟩),(7,⟨true,rowsC (b.cus.map CuL.r),110⟩),(8,⟨true,rowsC (b.mas.map MpL.r),115⟩),(9,⟨true,rowsC (b.ins.map Po.r),118⟩),(10,⟨true,rowsC (b.bls.map BlL.r),82⟩),(11,⟨false,[.v (sv b.nm),.sl 1 0 b.tys.length 11,.sl 2 0 b.cus.length 3,.sl 3 0 b.mas.length 4,.sl 4 0 b.ins.length 4,.sl 5 0 b.bls.length 6,.v (vsl a.ou b.ous.length)],30⟩),(12,⟨false,[.v (sv b.nm),.sl 6 0 b.tys.length 11,.sl 7 0 b.cus.length 3,.sl 8 0 b.mas.length 4,.sl 9 0 b.ins.length 4,.sl 10 0 b.bls.length 6,.v (vsl b.ou b.ous.length)],30⟩)]) (fun i=>b.cus.length-i.val) ⟨0,by omega⟩ (fun _=>ClM.of (by simp only[List.all_cons,inMV (rowsC_isV _)];rfl)) (fun _=>ClE.of rfl) [(1,1),(2,2),(3,3),(4,4),(5,5),(6,6),(7,7),(8,8),(9,9),(10,10),(11,11),(12,12)] ?_ ?_
 ·exact⟨rfl,trivial,⟨rfl,rfl,rfl,trivial⟩,⟨.inr ⟨_,rfl,.inl (renV (rowsC_isV _))⟩,.inr ⟨_,rfl,.inl (renV (rowsC_isV _))⟩,.inr ⟨_,rfl,.inl (renV (rowsC_isV _))⟩,.inr ⟨_,rfl,.inl (renV (rowsC_isV _))⟩,.inr ⟨_,rfl,.inl (renV (rowsC_isV _))⟩,.inr ⟨_,rfl,.inl (renV (rowsC_isV _))⟩,.inr ⟨_,rfl,.inl (renV (rowsC_isV _))⟩,.inr ⟨_,rfl,.inl (renV (rowsC_isV _))⟩,.inr ⟨_,rfl,.inl (renV (rowsC_isV _))⟩,.inr ⟨_,rfl,.inl (renV (rowsC_isV _))⟩,.inr ⟨_,rfl,.inl rfl⟩,.inr ⟨_,rfl,.inl rfl⟩,trivial⟩⟩
 rintro⟨i1,hi1⟩ J1 hj1
 simp only at hj1 hi1⊢
 refine Sm.go 110 ?_
 refine vv ?_
 refine mtch (fun hc=>?_) (fun hc=>?_)
 ·have hc:=lt_of_dec hc
  have hca:i1<a.cus.length:=by omega
  have he:=map_at hcus i1 hca hc
  have ga:=rows_one (r:=CuL.r) (k:=3) (fun _=>rfl) a.cus i1 0 hca (by omega)
  have gb:=rows_one (r:=CuL.r) (k:=3) (fun _=>rfl) b.cus i1 0 hc (by omega)
  have fa:=rows_fld (r:=CuL.r) (k:=3) (fun _=>rfl) a.cus i1 1 2 hca (by omega)
  have fb:=rows_fld (r:=CuL.r) (k:=3) (fun _=>rfl) b.cus i1 1 2 hc (by omega)
  have oka:=ha.cus _ (List.getElem_mem hca)
  have okb:=hb.cus _ (List.getElem_mem hc)
  have sm:=hs.cus.2 _ (List.getElem_mem hc)
  generalize a.cus[i1]=x at*
  generalize b.cus[i1]=y at*
  have hn:x.c.nm=y.c.nm:=congrArg Cu.nm he
  have hx:x.c.xs=y.c.xs:=congrArg Cu.xs he
  have hy:x.c.ys=y.c.ys:=congrArg Cu.ys he
  have q:=rsame5_ x y oka okb hx hy sm.2.1 sm.2.2
  have gx:(CuL.r x)[0]?=some (sv y.c.nm):=by rw[←hn];rfl
  have gy:(CuL.r y)[0]?=some (sv y.c.nm):=rfl
  rw[gx,Option.map_some]at ga
  rw[gy,Option.map_some]at gb
  have e1:((CuL.r x).drop 1).take 2=[vsl x.x x.c.xs.length,vsl x.y x.c.ys.length]:=rfl
  have e2:((CuL.r y).drop 1).take 2=[vsl y.x y.c.xs.length,vsl y.y y.c.ys.length]:=rfl
  rw[e1]at fa
  rw[e2]at fb
  rw[Nat.add_zero]at ga gb
  refine Sm.dg 110 26 mix ?_
  simp(maxSteps:=2000000) only[go_sem,ga,gb,fa,fb,ya_cus,yb_cus,bne_self_eq_false,beq_self_eq_true]
  refine⟨⟨by omega,by omega⟩,⟨by omega,by omega⟩,⟨by omega,by omega⟩,by omega,⟨by omega,by omega⟩,by omega,?_⟩
  refine CallQ.hg 120 (fun _=>q) hH (fun _=>rfl) ?_
  simp(maxSteps:=2000000) only[go_sem,wS (show i1≤1000000000000000000 by have:=hs.cus.1;omega)]
  exact hj1 _ _ ⟨i1+1,hc⟩ [(1,1),(2,2),(3,3),(4,4),(5,5),(6,6),(7,7),(8,8),(9,9),(10,10),(11,11),(12,12)] (by simp only;omega) ⟨rfl,trivial,⟨rfl,rfl,rfl,trivial⟩,⟨.inr ⟨_,rfl,.inl (renV (rowsC_isV _))⟩,.inr ⟨_,rfl,.inl (renV (rowsC_isV _))⟩,.inr ⟨_,rfl,.inl (renV (rowsC_isV _))⟩,.inr ⟨_,rfl,.inl (renV (rowsC_isV _))⟩,.inr ⟨_,rfl,.inl (renV (rowsC_isV _))⟩,.inr ⟨_,rfl,.inl (renV (rowsC_isV _))⟩,.inr ⟨_,rfl,.inl (renV (rowsC_isV _))⟩,.inr ⟨_,rfl,.inl (renV (rowsC_isV _))⟩,.inr ⟨_,rfl,.inl (renV (rowsC_isV _))⟩,.inr ⟨_,rfl,.inl (renV (rowsC_isV _))⟩,.inr ⟨_,rfl,.inl rfl⟩,.inr ⟨_,rfl,.inl rfl⟩,trivial⟩⟩
 refine Sm.loopM (M0:=[]) (α:={i:Nat//i≤b.mas.length}) hP (fun i=>[(2,true,.c (.p 11 0)),(3,true,.c (.p 12 0)),(7,true,I i.val)])
  (fun _=>[(1,⟨true,rowsC (a.tys.map Td.r),93⟩),(2,⟨true,rowsC (a.cus.map CuL.r),110⟩),(3,⟨true,rowsC (a.mas.map MpL.r),115⟩),(4,⟨true,rowsC (a.ins.map Po.r),118⟩),(5,⟨true,rowsC (a.bls.map BlL.r),82⟩),(6,⟨true,rowsC (b.tys.map Td.r),93⟩),(7,⟨true,rowsC (b.cus.map CuL.r),110⟩),(8,⟨true,rowsC (b.mas.map MpL.r),115⟩),(9,⟨true,rowsC (b.ins.map Po.r),118⟩),(10,⟨true,rowsC (b.bls.map BlL.r),82⟩),(11,⟨false,[.v (sv b.nm),.sl 1 0 b.tys.length 11,.sl 2 0 b.cus.length 3,.sl 3 0 b.mas.length 4,.sl 4 0 b.ins.length 4,.sl 5 0 b.bls.length 6,.v (vsl a.ou b.ous.length)],30⟩),(12,⟨false,[.v (sv b.nm),.sl 6 0 b.tys.length 11,.sl 7 0 b.cus.length 3,.sl 8 0 b.mas.length 4,.sl 9 0 b.ins.length 4,.sl 10 0 b.bls.length 6,.v (vsl b.ou b.ous.length)],30⟩)]) (fun i=>b.mas.length-i.val) ⟨0,by omega⟩ (fun _=>ClM.of (by simp only[List.all_cons,inMV (rowsC_isV _)];rfl)) (fun _=>ClE.of rfl) [(1,1),(2,2),(3,3),(4,4),(5,5),(6,6),(7,7),(8,8),(9,9),(10,10),(11,11),(12,12)] ?_ ?_
 ·exact⟨rfl,trivial,⟨rfl,rfl,rfl,trivial⟩,⟨.inr ⟨_,rfl,.inl (renV (rowsC_isV _))⟩,.inr ⟨_,rfl,.inl (renV (rowsC_isV _))⟩,.inr ⟨_,rfl,.inl (renV (rowsC_isV _))⟩,.inr ⟨_,rfl,.inl (renV (rowsC_isV _))⟩,.inr ⟨_,rfl,.inl (renV (rowsC_isV _))⟩,.inr ⟨_,rfl,.inl (renV (rowsC_isV _))⟩,.inr ⟨_,rfl,.inl (renV (rowsC_isV _))⟩,.inr ⟨_,rfl,.inl (renV (rowsC_isV _))⟩,.inr ⟨_,rfl,.inl (renV (rowsC_isV _))⟩,.inr ⟨_,rfl,.inl (renV (rowsC_isV _))⟩,.inr ⟨_,rfl,.inl rfl⟩,.inr ⟨_,rfl,.inl rfl⟩,trivial⟩⟩
 rintro⟨i2,hi2⟩ J2 hj2
 simp only at hj2 hi2⊢
 refine Sm.go 110 ?_
 refine vv ?_
 refine mtch (fun hc=>?_) (fun hc=>?_)
 ·have hc:=lt_of_dec hc
  have hca:i2<a.mas.length:=by omega
  have he:=map_at hmas i2 hca hc
  have ga:=rows_one (r:=MpL.r) (k:=4) (fun _=>rfl) a.mas i2 0 hca (by omega)
  have gb:=rows_one (r:=MpL.r) (k:=4) (fun _=>rfl) b.mas i2 0 hc (by omega)
  have fa:=rows_fld (r:=MpL.r) (k:=4) (fun _=>rfl) a.mas i2 1 3 hca (by omega)
  have fb:=rows_fld (r:=MpL.r) (k:=4) (fun _=>rfl) b.mas i2 1 3 hc (by omega)
  have oka:=ha.mas _ (List.getElem_mem hca)
  have okb:=hb.mas _ (List.getElem_mem hc)
  have sm:=hs.mas.2 _ (List.getElem_mem hc)
  have hmy:=hm _ (List.getElem_mem hc)
  generalize a.mas[i2]=x at*
  generalize b.mas[i2]=y at*
  have hn:x.nm=y.nm:=congrArg Mp.nm he
  have hx:x.xs=y.xs:=congrArg Mp.xs he
  have hy:x.ys=y.ys:=congrArg Mp.ys he
  have hz:x.zs.map (·.2)=y.zs.map (·.2):=congrArg Mp.zs he
  have q:=rsame6m_ x y oka okb hx hy hz hmy.1 hmy.2.1 hmy.2.2 sm.2
  have gx:(MpL.r x)[0]?=some (sv y.nm):=by rw[←hn];rfl
  have gy:(MpL.r y)[0]?=some (sv y.nm):=rfl
  rw[gx,Option.map_some]at ga
  rw[gy,Option.map_some]at gb
  have e1:((MpL.r x).drop 1).take 3=[vsl x.x x.xs.length,vsl x.y x.ys.length,vsl x.z x.zs.length]:=rfl
  have e2:((MpL.r y).drop 1).take 3=[vsl y.x y.xs.length,vsl y.y y.ys.length,vsl y.z y.zs.length]:=rfl
  rw[e1]at fa
  rw[e2]at fb
  rw[Nat.add_zero]at ga gb
  refine Sm.dg 110 26 mix ?_
  simp(maxSteps:=2000000) only[go_sem,ga,gb,fa,fb,ya_mas,yb_mas,bne_self_eq_false,beq_self_eq_true]
  refine⟨⟨by omega,by omega⟩,⟨by omega,by omega⟩,⟨by omega,by omega⟩,by omega,⟨by omega,by omega⟩,by omega,?_⟩
  refine CallQ.hg 120 (fun _=>q) hH (fun _=>rfl) ?_
  simp(maxSteps:=2000000) only[go_sem,wS (show i2≤1000000000000000000 by have:=hs.mas.1;omega)]
  exact hj2 _ _ ⟨i2+1,hc⟩ [(1,1),(2,2),(3,3),(4,4),(5,5),(6,6),(7,7),(8,8),(9,9),(10,10),(11,11),(12,12)] (by simp only;omega) ⟨rfl,trivial,⟨rfl,rfl,rfl,trivial⟩,⟨.inr ⟨_,rfl,.inl (renV (rowsC_isV _))⟩,.inr ⟨_,rfl,.inl (renV (rowsC_isV _))⟩,.inr ⟨_,rfl,.inl (renV (rowsC_isV _))⟩,.inr ⟨_,rfl,.inl (renV (rowsC_isV _))⟩,.inr ⟨_,rfl,.inl (renV (rowsC_isV _))⟩,.inr ⟨_,rfl,.inl (renV (rowsC_isV _))⟩,.inr ⟨_,rfl,.inl (renV (rowsC_isV _))⟩,.inr ⟨_,rfl,.inl (renV (rowsC_isV _))⟩,.inr ⟨_,rfl,.inl (renV (rowsC_isV _))⟩,.inr ⟨_,rfl,.inl (renV (rowsC_isV _))⟩,.inr ⟨_,rfl,.inl rfl⟩,.inr ⟨_,rfl,.inl rfl⟩,trivial⟩⟩
 refine Sm.loopM (M0:=[]) (α:={i:Nat//i≤b.ins.length}) hP (fun i=>[(2,true,.c (.p 11 0)),(3,true,.c (.p 12 0)),(8,true,I i.val)])
  (fun _=>[(1,⟨true,rowsC (a.tys.map Td.r),93⟩),(2,⟨true,rowsC (a.cus.map CuL.r),110⟩),(3,⟨true,rowsC (a.mas.map MpL.r),115⟩),(4,⟨true,rowsC (a.ins.map Po.r),118⟩),(5,⟨true,rowsC (a.bls.map BlL.r),82⟩),(6,⟨true,rowsC (b.tys.map Td.r),93⟩),(7,⟨true,rowsC (b.cus.map CuL.r),110⟩),(8,⟨true,rowsC (b.mas.map MpL.r),115⟩),(9,⟨true,rowsC (b.ins.map Po.r),118⟩),(10,⟨true,rowsC (b.bls.map BlL.r),82⟩),(11,⟨false,[.v (sv b.nm),.sl 1 0 b.tys.length 11,.sl 2 0 b.cus.length 3,.sl 3 0 b.mas.length 4,.sl 4 0 b.ins.length 4,.sl 5 0 b.bls.length 6,.v (vsl a.ou b.ous.length)],30⟩),(12,⟨false,[.v (sv b.nm),.sl 6 0 b.tys.length 11,.sl 7 0 b.cus.length 3,.sl 8 0 b.mas.length 4,.sl 9 0 b.ins.length 4,.sl 10 0 b.bls.length 6,.v (vsl b.ou b.ous.length)],30⟩)]) (fun i=>b.ins.length-i.val) ⟨0,by omega⟩ (fun _=>ClM.of (by simp only[List.all_cons,inMV (rowsC_isV _)];rfl)) (fun _=>ClE.of rfl) [(1,1),(2,2),(3,3),(4,4),(5,5),(6,6),(7,7),(8,8),(9,9),(10,10),(11,11),(12,12)] ?_ ?_
 ·exact⟨rfl,trivial,⟨rfl,rfl,rfl,trivial⟩,⟨.inr ⟨_,rfl,.inl (renV (rowsC_isV _))⟩,.inr ⟨_,rfl,.inl (renV (rowsC_isV _))⟩,.inr ⟨_,rfl,.inl (renV (rowsC_isV _))⟩,.inr ⟨_,rfl,.inl (renV (rowsC_isV _))⟩,.inr ⟨_,rfl,.inl (renV (rowsC_isV _))⟩,.inr ⟨_,rfl,.inl (renV (rowsC_isV _))⟩,.inr ⟨_,rfl,.inl (renV (rowsC_isV _))⟩,.inr ⟨_,rfl,.inl (renV (rowsC_isV _))⟩,.inr ⟨_,rfl,.inl (renV (rowsC_isV _))⟩,.inr ⟨_,rfl,.inl (renV (rowsC_isV _))⟩,.inr ⟨_,rfl,.inl rfl⟩,.inr ⟨_,rfl,.inl rfl⟩,trivial⟩⟩
 rintro⟨i3,hi3⟩ J3 hj3
 simp only at hj3 hi3⊢
 refine Sm.go 110 ?_
 refine vv ?_
 refine mtch (fun hc=>?_) (fun hc=>?_)
 ·have hc:=lt_of_dec hc
  have hca:i3<a.ins.length:=by omega
  have ga:=rows_take (r:=Po.r) (k:=4) (fun _=>rfl) a.ins i3 hca
  have gb:=rows_take (r:=Po.r) (k:=4) (fun _=>rfl) b.ins i3 hc
  have he:a.ins[i3]=b.ins[i3]:=by simp only[hins]
  rw[he]at ga
  generalize b.ins[i3]=x at*
  refine Sm.dg 110 10 mix ?_
  simp(maxSteps:=2000000) only[go_sem,ga,gb,ya_ins,yb_ins,bne_self_eq_false,beq_self_eq_true,wS (show i3≤1000000000000000000 by have:=hs.ins.1;omega)]
  refine⟨⟨by omega,by omega⟩,by omega,⟨by omega,by omega⟩,by omega,?_⟩
  exact hj3 _ _ ⟨i3+1,hc⟩ [(1,1),(2,2),(3,3),(4,4),(5,5),(6,6),(7,7),(8,8),(9,9),(10,10),(11,11),(12,12)] (by simp only;omega) ⟨rfl,trivial,⟨rfl,rfl,rfl,trivial⟩,⟨.inr ⟨_,rfl,.inl (renV (rowsC_isV _))⟩,.inr ⟨_,rfl,.inl (renV (rowsC_isV _))⟩,.inr ⟨_,rfl,.inl (renV (rowsC_isV _))⟩,.inr ⟨_,rfl,.inl (renV (rowsC_isV _))⟩,.inr ⟨_,rfl,.inl (renV (rowsC_isV _))⟩,.inr ⟨_,rfl,.inl (renV (rowsC_isV _))⟩,.inr ⟨_,rfl,.inl (renV (rowsC_isV _))⟩,.inr ⟨_,rfl,.inl (renV (rowsC_isV _))⟩,.inr ⟨_,rfl,.inl (renV (rowsC_isV _))⟩,.inr ⟨_,rfl,.inl (renV (rowsC_isV _))⟩,.inr ⟨_,rfl,.inl rfl⟩,.inr ⟨_,rfl,.inl rfl⟩,trivial⟩⟩
 refine Sm.loopM (M0:=[]) (α:={i:Nat//i≤b.bls.length}) hP (fun i=>[(2,true,.c (.p 11 0)),(3,true,.c (.p 12 0)),(9,true,I i.val)])
  (fun _=>[(1,⟨true,rowsC (a.tys.map Td.r),93⟩),(2,⟨true,rowsC (a.cus.map CuL.r),110⟩),(3,⟨true,rowsC (a.mas.map MpL.r),115⟩),(4,⟨true,rowsC (a.ins.map Po.r),118⟩),(5,⟨true,rowsC (a.bls.map BlL.r),82⟩),(6,⟨true,rowsC (b.tys.map Td.r),93⟩),(7,⟨true,rowsC (b.cus.map CuL.r),110⟩),(8,⟨true,rowsC (b.mas.map MpL.r),115⟩),(9,⟨true,rowsC (b.ins.map Po.r),118⟩),(10,⟨true,rowsC (b.bls.map BlL.r),82⟩),(11,⟨false,[.v (sv b.nm),.sl 1 0 b.tys.length 11,.sl 2 0 b.cus.length 3,.sl 3 0 b.mas.length 4,.sl 4 0 b.ins.length 4,.sl 5 0 b.bls.length 6,.v (vsl a.ou b.ous.length)],30⟩),(12,⟨false,[.v (sv b.nm),.sl 6 0 b.tys.length 11,.sl 7 0 b.cus.length 3,.sl 8 0 b.mas.length 4,.sl 9 0 b.ins.length 4,.sl 10 0 b.bls.length 6,.v (vsl b.ou b.ous.length)],30⟩)]) (fun i=>b.bls.length-i.val) ⟨0,by omega⟩ (fun _=>ClM.of (by simp only[List.all_cons,inMV (rowsC_isV _)];rfl)) (fun _=>ClE.of rfl) [(1,1),(2,2),(3,3),(4,4),(5,5),(6,6),(7,7),(8,8),(9,9),(10,10),(11,11),(12,12)] ?_ ?_
 ·exact⟨rfl,trivial,⟨rfl,rfl,rfl,trivial⟩,⟨.inr ⟨_,rfl,.inl (renV (rowsC_isV _))⟩,.inr ⟨_,rfl,.inl (renV (rowsC_isV _))⟩,.inr ⟨_,rfl,.inl (renV (rowsC_isV _))⟩,.inr ⟨_,rfl,.inl (renV (rowsC_isV _))⟩,.inr ⟨_,rfl,.inl (renV (rowsC_isV _))⟩,.inr ⟨_,rfl,.inl (renV (rowsC_isV _))⟩,.inr ⟨_,rfl,.inl (renV (rowsC_isV _))⟩,.inr ⟨_,rfl,.inl (renV (rowsC_isV _))⟩,.inr ⟨_,rfl,.inl (renV (rowsC_isV _))⟩,.inr ⟨_,rfl,.inl (renV (rowsC_isV _))⟩,.inr ⟨_,rfl,.inl rfl⟩,.inr ⟨_,rfl,.inl rfl⟩,trivial⟩⟩
 rintro⟨i4,hi4⟩ J4 hj4
 simp only at hj4 hi4⊢
 refine Sm.go 110 ?_
 refine vv ?_
 refine mtch (fun hc=>?_) (fun hc=>?_)
 ·have hc:=lt_of_dec hc
  have hca:i4<a.bls.length:=by omega
  have he:=map_at hbls i4 hca hc
  have ga:=rows_take (r:=BlL.r) (k:=6) (fun _=>rfl) a.bls i4 hca
  have gb:=rows_take (r:=BlL.r) (k:=6) (fun _=>rfl) b.bls i4 hc
  have q:=sameB_ _ _ (ha.bls _ (List.getElem_mem hca)) (hb.bls _ (List.getElem_mem hc)) he (hs.bls.2 _ (List.getElem_mem hc)).2.2.2.1 (hs.bls.2 _ (List.getElem_mem hc)).2.2.2.2.1
  generalize a.bls[i4]=x at*
  generalize b.bls[i4]=y at*
  refine Sm.dg 110 10 mix ?_
  simp(maxSteps:=2000000) only[go_sem,ga,gb,ya_bls,yb_bls,bne_self_eq_false]
  refine⟨⟨by omega,by omega⟩,by omega,⟨by omega,by omega⟩,by omega,?_⟩
  refine CallQ.h 120 q hH rfl ?_
  simp(maxSteps:=2000000) only[go_sem,wS (show i4≤1000000000000000000 by have:=hs.bls.1;omega)]
  exact hj4 _ _ ⟨i4+1,hc⟩ [(1,1),(2,2),(3,3),(4,4),(5,5),(6,6),(7,7),(8,8),(9,9),(10,10),(11,11),(12,12)] (by simp only;omega) ⟨rfl,trivial,⟨rfl,rfl,rfl,trivial⟩,⟨.inr ⟨_,rfl,.inl (renV (rowsC_isV _))⟩,.inr ⟨_,rfl,.inl (renV (rowsC_isV _))⟩,.inr ⟨_,rfl,.inl (renV (rowsC_isV _))⟩,.inr ⟨_,rfl,.inl (renV (rowsC_isV _))⟩,.inr ⟨_,rfl,.inl (renV (rowsC_isV _))⟩,.inr ⟨_,rfl,.inl (renV (rowsC_isV _))⟩,.inr ⟨_,rfl,.inl (renV (rowsC_isV _))⟩,.inr ⟨_,rfl,.inl (renV (rowsC_isV _))⟩,.inr ⟨_,rfl,.inl (renV (rowsC_isV _))⟩,.inr ⟨_,rfl,.inl (renV (rowsC_isV _))⟩,.inr ⟨_,rfl,.inl rfl⟩,.inr ⟨_,rfl,.inl rfl⟩,trivial⟩⟩
 exact RetQ.bool (hR C hL) rfl scc rfl
end Go.Proofs.YtlnpgbnhcondjaaGreatDoor.Fx
