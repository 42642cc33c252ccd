/-  -/
import Derived.Test.YtlnpgbnhcondjaaGreatDoorPS
import Derived.Test.YtlnpgbnhcondjaaGreatDoorQ3
namespace Go.Proofs.YtlnpgbnhcondjaaGreatDoor.Fx
open Vg Tf
set_option linter.unusedSimpArgs false
set_option linter.unusedVariables false
set_option maxRecDepth 100000
set_option maxHeartbeats 4000000
@[go_sem] def unR (u:Un):List Value:=[.int .i64 u.m,.int .i64 u.kg,.int .i64 u.s,.int .i64 u.a,.int .i64 u.k]
theorem rows_take {α:Type}{r:α→List Value}{k:Nat}(hk:∀x,(r x).length=k)(l:List α)(i:Nat)(h:i<l.length):((rowsC (l.map r)).drop (i*k)).take k=(r l[i]).map Cv.v:=by
 rw[rowsC_take (l.map r) (fun x hx=>by obtain⟨y,_,rfl⟩:=List.mem_map.1 hx;exact hk y) i (by simpa using h)]
 simp
theorem rows_len {α:Type}{r:α→List Value}{k:Nat}(hk:∀x,(r x).length=k)(l:List α):(rowsC (l.map r)).length=l.length*k:=by
 rw[rowsC_len (k:=k) (l.map r) (fun x hx=>by obtain⟨y,_,rfl⟩:=List.mem_map.1 hx;exact hk y)]
 simp
theorem caps_ok (x:V)(caps:List Value):[some (true,x)]++caps.map (fun c=>some (true,cst c))=(x::caps.map cst).map fun x=>some (true,x):=by simp
theorem CallH.fn {H:Hp}{P:Program}{f:FuncId}{args:List V}{v v':V}(h:CallH H P f args v)(e:v=v'):CallH H P f args v':=e▸h
abbrev Fv (g:FuncId)(caps:Array Value):V:= .c (.v (.func (.func g) #[] caps))
theorem ixfPo {H:Hp}(s:Sv)(l:List Po)(hs:SlH H (vsl s l.length) 4 (l.map Po.r))(hl:l.length≤1000000000000000)(g:FuncId)(caps:Array Value)(p:Po→Bool)(hp:∀x∈l,CallH H Tryz.prog g ((rowV (Po.r x))::caps.toList.map cst) (Bo (p x))):
  CallH H Tryz.prog 87 [.c (.v (vsl s l.length)),Fv g caps] (I (ixF p l 0)):=by
 have hlen:(l.map Po.r).length=l.length:=List.length_map _
 have hsz:=rows_len (r:=Po.r) (k:=4) (fun _=>rfl) l
 refine CallH.mkS Tryz.func87 rfl en87 (by simp[Tryz.ntmps87]) (ClA.of rfl) fun C hR hP hH hL=>?_
 refine Sm.go 100 ?_
 refine vv ?_
 refine Sm.bringR 1 118 0 (hs.mono hH) rfl rfl ?_
 simp only[hlen]
 refine Sm.loopM (M0:=[]) (α:={i:Nat//i≤l.length∧ixF p l 0=ixF p (l.drop i) i}) hP (fun i=>[(0,true,.c (.sl 1 0 l.length 4)),(1,true,Fv g caps),(7,true,I l.length),(8,true,I i.val)]) (fun _=>[(1,⟨true,rowsC (l.map Po.r),118⟩)]) (fun i=>l.length-i.val) ⟨0,by omega,rfl⟩ (fun _=>ClM.v (by simp only[List.all_cons,rowsC_isV];rfl)) (fun _=>ClE.of rfl) [(1,1)] ?_ ?_
 ·exact⟨rfl,trivial,⟨rfl,rfl,rfl,rfl,trivial⟩,⟨.inr ⟨_,rfl,.inl (renV (rowsC_isV _))⟩,trivial⟩⟩
 ·rintro⟨i,hi,hx⟩ J hb
  simp only at hb hi hx⊢
  refine Sm.go 110 ?_
  refine vv ?_
  refine mtch (fun hc=>?_) (fun hc=>?_)
  ·have hc:=lt_of_dec hc
   rw[ixF_step p l i hc]at hx
   have htk:=rows_take (r:=Po.r) (k:=4) (fun _=>rfl) l i hc
   simp only[htk,hsz]
   refine⟨⟨by omega,by omega⟩,by omega,?_⟩
   refine CallQ.h 120 (hp l[i] (List.getElem_mem hc)) hH (caps_ok _ _) ?_
   refine vv ?_
   refine mtch (fun hd=>?_) (fun hd=>?_)
   ·rw[hd,cond_true]at hx
    exact RetQ.int (hR C hL) rfl ⟨rfl,trivial⟩ hx.symm
   ·rw[hd,cond_false]at hx
    simp only[wS (show i≤1000000000000000000 by omega)]
    exact hb _ _ ⟨i+1,hc,hx⟩ [(1,1)] (by simp only;omega) ⟨rfl,trivial,⟨rfl,rfl,rfl,rfl,trivial⟩,⟨.inr ⟨_,rfl,.inl (renV (rowsC_isV _))⟩,trivial⟩⟩
  ·have hc:=eq_of_dec hi hc
   rw[hc,List.drop_length]at hx
   exact RetQ.int (hR C hL) rfl ⟨rfl,trivial⟩ hx.symm
theorem ixfBl {H:Hp}(s:Sv)(l:List BlL)(hs:SlH H (vsl s l.length) 6 (l.map BlL.r))(hl:l.length≤1000000000000000)(g:FuncId)(caps:Array Value)(p:BlL→Bool)(hp:∀x∈l,CallH H Tryz.prog g ((rowV (BlL.r x))::caps.toList.map cst) (Bo (p x))):
  CallH H Tryz.prog 89 [.c (.v (vsl s l.length)),Fv g caps] (I (ixF p l 0)):=by
 have hlen:(l.map BlL.r).length=l.length:=List.length_map _
 have hsz:=rows_len (r:=BlL.r) (k:=6) (fun _=>rfl) l
 refine CallH.mkS Tryz.func89 rfl en89 (by simp[Tryz.ntmps89]) (ClA.of rfl) fun C hR hP hH hL=>?_
 refine Sm.go 100 ?_
 refine vv ?_
 refine Sm.bringR 1 82 0 (hs.mono hH) rfl rfl ?_
 simp only[hlen]
 refine Sm.loopM (M0:=[]) (α:={i:Nat//i≤l.length∧ixF p l 0=ixF p (l.drop i) i}) hP (fun i=>[(0,true,.c (.sl 1 0 l.length 6)),(1,true,Fv g caps),(7,true,I l.length),(8,true,I i.val)]) (fun _=>[(1,⟨true,rowsC (l.map BlL.r),82⟩)]) (fun i=>l.length-i.val) ⟨0,by omega,rfl⟩ (fun _=>ClM.v (by simp only[List.all_cons,rowsC_isV];rfl)) (fun _=>ClE.of rfl) [(1,1)] ?_ ?_
 ·exact⟨rfl,trivial,⟨rfl,rfl,rfl,rfl,trivial⟩,⟨.inr ⟨_,rfl,.inl (renV (rowsC_isV _))⟩,trivial⟩⟩
 ·rintro⟨i,hi,hx⟩ J hb
  simp only at hb hi hx⊢
  refine Sm.go 110 ?_
  refine vv ?_
  refine mtch (fun hc=>?_) (fun hc=>?_)
  ·have hc:=lt_of_dec hc
   rw[ixF_step p l i hc]at hx
   have htk:=rows_take (r:=BlL.r) (k:=6) (fun _=>rfl) l i hc
   simp only[htk,hsz]
   refine⟨⟨by omega,by omega⟩,by omega,?_⟩
   refine CallQ.h 120 (hp l[i] (List.getElem_mem hc)) hH (caps_ok _ _) ?_
   refine vv ?_
   refine mtch (fun hd=>?_) (fun hd=>?_)
   ·rw[hd,cond_true]at hx
    exact RetQ.int (hR C hL) rfl ⟨rfl,trivial⟩ hx.symm
   ·rw[hd,cond_false]at hx
    simp only[wS (show i≤1000000000000000000 by omega)]
    exact hb _ _ ⟨i+1,hc,hx⟩ [(1,1)] (by simp only;omega) ⟨rfl,trivial,⟨rfl,rfl,rfl,rfl,trivial⟩,⟨.inr ⟨_,rfl,.inl (renV (rowsC_isV _))⟩,trivial⟩⟩
  ·have hc:=eq_of_dec hi hc
   rw[hc,List.drop_length]at hx
   exact RetQ.int (hR C hL) rfl ⟨rfl,trivial⟩ hx.symm
theorem ixfI {H:Hp}(s:Sv)(l:List Int)(hs:SlH H (vsl s l.length) 1 (intsR l))(hl:l.length≤1000000000000000)(g:FuncId)(caps:Array Value)(p:Int→Bool)(hp:∀x∈l,CallH H Tryz.prog g ((.c (iC x))::caps.toList.map cst) (Bo (p x))):
  CallH H Tryz.prog 255 [.c (.v (vsl s l.length)),Fv g caps] (I (ixF p l 0)):=by
 refine CallH.mkS Tryz.func255 rfl en255 (by simp[Tryz.ntmps255]) (ClA.of rfl) fun C hR hP hH hL=>?_
 refine Sm.go 100 ?_
 refine vv ?_
 refine Sm.bringI 1 3 0 (hs.mono hH) rfl rfl ?_
 refine Sm.loopM (M0:=[]) (α:={i:Nat//i≤l.length∧ixF p l 0=ixF p (l.drop i) i}) hP (fun i=>[(0,true,.c (.sl 1 0 l.length 1)),(1,true,Fv g caps),(7,true,I l.length),(8,true,I i.val)]) (fun _=>[(1,⟨true,l.map iC,3⟩)]) (fun i=>l.length-i.val) ⟨0,by omega,rfl⟩ (fun _=>ClM.v (by simp only[List.all_cons,v_iC];rfl)) (fun _=>ClE.of rfl) [(1,1)] ?_ ?_
 ·exact⟨rfl,trivial,⟨rfl,rfl,rfl,rfl,trivial⟩,⟨.inr ⟨_,rfl,.inl (renV (v_iC _))⟩,trivial⟩⟩
 ·rintro⟨i,hi,hx⟩ J hb
  simp only at hb hi hx⊢
  refine Sm.go 110 ?_
  refine vv ?_
  refine mtch (fun hc=>?_) (fun hc=>?_)
  ·have hc:=lt_of_dec hc
   rw[ixF_step p l i hc]at hx
   simp(maxSteps:=2000000) only[go_sem,get_iC hc]
   refine⟨⟨by omega,by omega⟩,?_⟩
   refine CallQ.h 120 (hp l[i] (List.getElem_mem hc)) hH (caps_ok _ _) ?_
   refine vv ?_
   refine mtch (fun hd=>?_) (fun hd=>?_)
   ·rw[hd,cond_true]at hx
    exact RetQ.int (hR C hL) rfl ⟨rfl,trivial⟩ hx.symm
   ·rw[hd,cond_false]at hx
    simp only[wS (show i≤1000000000000000000 by omega)]
    exact hb _ _ ⟨i+1,hc,hx⟩ [(1,1)] (by simp only;omega) ⟨rfl,trivial,⟨rfl,rfl,rfl,rfl,trivial⟩,⟨.inr ⟨_,rfl,.inl (renV (v_iC _))⟩,trivial⟩⟩
  ·have hc:=eq_of_dec hi hc
   rw[hc,List.drop_length]at hx
   exact RetQ.int (hR C hL) rfl ⟨rfl,trivial⟩ hx.symm
theorem cofI {H:Hp}(s:Sv)(l:List Int)(hs:SlH H (vsl s l.length) 1 (intsR l))(hl:l.length≤1000000000000000)(g:FuncId)(caps:Array Value)(p:Int→Bool)(hp:∀x∈l,CallH H Tryz.prog g ((.c (iC x))::caps.toList.map cst) (Bo (p x))):
  CallH H Tryz.prog 209 [.c (.v (vsl s l.length)),Fv g caps] (Bo (l.any p)):=by
 refine CallH.mkS Tryz.func209 rfl en209 (by simp[Tryz.ntmps209]) (ClA.of rfl) fun C hR hP hH hL=>?_
 refine Sm.go 100 ?_
 refine vv ?_
 refine CallQ.h 110 (ixfI s l hs hl g caps p hp) hH rfl ?_
 refine vv ?_
 exact RetQ.bool (hR C hL) rfl ⟨rfl,trivial⟩ (ixF_any p l 0 (by omega))
end Go.Proofs.YtlnpgbnhcondjaaGreatDoor.Fx
