/-  -/
import Derived.Test.YtkciabfilokfiaaGreatPS
import Derived.Test.YtkciabfilokfiaaGreatQH
namespace Go.Proofs.YtkciabfilokfiaaGreat.Fx
open Vg Tf
set_option linter.unusedSimpArgs false
set_option linter.unusedVariables false
set_option maxRecDepth 100000
set_option maxHeartbeats 4000000
def fitE (d:Dg)(b:Bl):Option (Str×Int):=if uniB b.kd (unT (tyN d.tys b.ty)) (usOf d b)=false then some (b.nm,12)else if numB (tyN d.tys b.ty) b=false then some (b.nm,2)else none
theorem fits_all {H:Hp}{cp:Value}{d:DgL}{bT bC' bM bS:Nat}(k:Ck H cp d bT bC' bM bS)(hok:∀b∈d.bls,blOk b.c=true)(hin:∀b∈d.bls,∀s∈b.c.ins,sgB (sigs d.c) s=true):
  CallH H Tryz.prog 103 [.c (.v cp)] (flT (firstF (fun b:BlL=>fitE d.c b.c) d.bls)):=by
 have hn2:=k.n2
 have hsz:=rows_len (r:=BlL.r) (k:=6) (fun _=>rfl) d.bls
 generalize hF:(fun b:BlL=>fitE d.c b.c)=F
 obtain⟨b0,o0,rfl,c0,el0,mk0,hc0,hcc⟩:=PtH.at k.c.p
 refine CallH.mkS Tryz.func103 rfl en103 (by simp[Tryz.ntmps103]) (ClA.of rfl) fun C hR hP hH hL=>?_
 have hpt:=k.c.p.mono hH
 refine Sm.go 100 ?_
 refine vv ?_
 refine Sm.bringP 1 147 6 hpt rfl rfl (Sm.go 100 ?_)
 refine vv ?_
 refine Sm.bringR 5 53 10 (k.o.bl.mono hH) rfl rfl ?_
 have hl2:(d.bls.map BlL.r).length=d.bls.length:=List.length_map _
 rw[hl2]
 refine Sm.loopM (M0:=[]) (α:={i:Nat//i≤d.bls.length∧firstF F d.bls=firstF F (d.bls.drop i)}) hP (fun i=>[(0,true,.c (.v (.pointer (some ⟨b0,o0,none⟩)))),(10,true,.c (.sl 5 0 d.bls.length 6)),(11,true,I d.bls.length),(12,true,I i.val)])
  (fun _=>[(5,⟨true,rowsC (d.bls.map BlL.r),53⟩)]) (fun i=>d.bls.length-i.val) ⟨0,by omega,rfl⟩ (fun _=>ClM.of (by simp only[List.all_cons,inMV (rowsC_isV _)];rfl)) (fun _=>ClE.of rfl) [(5,5)] ?_ ?_
 ·exact⟨rfl,trivial,⟨rfl,rfl,rfl,rfl,trivial⟩,⟨.inr ⟨_,rfl,.inl (renV (rowsC_isV _))⟩,trivial⟩⟩
 ·rintro⟨i,hi,hx⟩ J hj
  simp only at hj hi hx⊢
  refine Sm.go 120 ?_
  refine vv ?_
  refine mtch (fun hc=>?_) (fun hc=>?_)
  ·have hc:=lt_of_dec hc
   have htk:=rows_take (r:=BlL.r) (k:=6) (fun _=>rfl) d.bls i hc
   rw[List.drop_eq_getElem_cons hc,firstF_cons]at hx
   have hmem:d.bls[i]∈d.bls:=List.getElem_mem hc
   simp only[htk,hsz]
   refine⟨⟨by omega,by omega⟩,by omega,?_⟩
   have hbo:=k.o.bls _ hmem
   have hun:=units_ k d.bls[i] hbo (hok _ hmem) (by omega) (hin _ hmem)
   have hnu:=numbers_ k d.bls[i] hbo (hok _ hmem)
   have hFb:F d.bls[i]=fitE d.c d.bls[i].c:=by rw[←hF]
   unfold fitE at hFb
   have hty:d.c.tys=d.tys:=rfl
   rw[hty]at hFb
   generalize d.bls[i]=b at*
   refine vv ?_
   refine CallQ.h 140 hun hH rfl ?_
   refine vv ?_
   cases hu:uniB b.c.kd (unT (tyN d.tys b.c.ty)) (usOf d.c b.c)with
   |false=>
    rw[if_pos hu]at hFb
    rw[hFb]at hx
    rw[hx]at hR
    exact RetQ.of (hR C hL) rfl scc rvv (Sub.nil _) ClM.nil (ClV.of rfl)
   |true=>
    rw[if_neg (by rw[hu];simp)]at hFb
    refine CallQ.h 150 hnu hH rfl ?_
    refine vv ?_
    cases hv:numB (tyN d.tys b.c.ty) b.c with
    |false=>
     rw[if_pos hv]at hFb
     rw[hFb]at hx
     rw[hx]at hR
     exact RetQ.of (hR C hL) rfl scc rvv (Sub.nil _) ClM.nil (ClV.of rfl)
    |true=>
     rw[if_neg (by rw[hv];simp)]at hFb
     rw[hFb]at hx
     refine Sm.go 160 ?_
     simp(maxSteps:=2000000) only[go_sem,wS (show i≤1000000000000000000 by omega)]
     exact hj _ _ ⟨i+1,hc,hx⟩ [(5,5)] (by simp only;omega) ⟨rfl,trivial,⟨rfl,rfl,rfl,rfl,trivial⟩,⟨.inr ⟨_,rfl,.inl (renV (rowsC_isV _))⟩,trivial⟩⟩
  ·have hc:=eq_of_dec hi hc
   rw[hc,List.drop_length]at hx
   rw[hx]at hR
   exact RetQ.of (hR C hL) rfl scc rvv (Sub.nil _) ClM.nil (ClV.of rfl)
end Go.Proofs.YtkciabfilokfiaaGreat.Fx
