/-  -/
import Derived.Test.YtlnpgbnhcondjaaGreatDoorTf
import Derived.Test.YtlnpgbnhcondjaaGreatDoorQ3
namespace Go.Proofs.YtlnpgbnhcondjaaGreatDoor.Fx
open Vg Tf
set_option linter.unusedSimpArgs false
set_option linter.unusedVariables false
set_option maxRecDepth 100000
set_option maxHeartbeats 4000000
@[go_sem] def unR (u:Un):List Value:=[.int .i64 u.m,.int .i64 u.kg,.int .i64 u.s,.int .i64 u.a,.int .i64 u.k]
theorem rows_take {α:Type}{r:α→List Value}{k:Nat}(hk:∀x,(r x).length=k)(l:List α)(i:Nat)(h:i<l.length):((rowsC (l.map r)).drop (i*k)).take k=(r l[i]).map Cv.v:=by
 rw[rowsC_take (l.map r) (fun x hx=>by obtain⟨y,_,rfl⟩:=List.mem_map.1 hx;exact hk y) i (by simpa using h)]
 simp
theorem rows_len {α:Type}{r:α→List Value}{k:Nat}(hk:∀x,(r x).length=k)(l:List α):(rowsC (l.map r)).length=l.length*k:=by
 rw[rowsC_len (k:=k) (l.map r) (fun x hx=>by obtain⟨y,_,rfl⟩:=List.mem_map.1 hx;exact hk y)]
 simp
theorem caps_ok (x:V)(caps:List Value):[some (true,x)]++caps.map (fun c=>some (true,cst c))=(x::caps.map cst).map fun x=>some (true,x):=by simp
abbrev Fv (g:FuncId)(caps:Array Value):V:= .c (.v (.func (.func g) #[] caps))
theorem ixfTd {H:Hp}(s:Sv)(l:List Td)(hs:SlH H (vsl s l.length) 11 (l.map Td.r))(hl:l.length≤1000000000000000)(g:FuncId)(caps:Array Value)(p:Td→Bool)(hp:∀x∈l,CallH H Tryz.prog g ((rowV (Td.r x))::caps.toList.map cst) (Bo (p x))):
  CallH H Tryz.prog 194 [.c (.v (vsl s l.length)),Fv g caps] (I (ixF p l 0)):=by
 have hlen:(l.map Td.r).length=l.length:=List.length_map _
 have hsz:=rows_len (r:=Td.r) (k:=11) (fun _=>rfl) l
 refine CallH.mkS Tryz.func194 rfl en194 (by simp[Tryz.ntmps194]) (ClA.of rfl) fun C hR hP hH hL=>?_
 refine Sm.go 100 ?_
 refine vv ?_
 refine Sm.bringR 1 93 0 (hs.mono hH) rfl rfl ?_
 simp only[hlen]
 refine Sm.loopM (M0:=[]) (α:={i:Nat//i≤l.length∧ixF p l 0=ixF p (l.drop i) i}) hP (fun i=>[(0,true,.c (.sl 1 0 l.length 11)),(1,true,Fv g caps),(7,true,I l.length),(8,true,I i.val)]) (fun _=>[(1,⟨true,rowsC (l.map Td.r),93⟩)]) (fun i=>l.length-i.val) ⟨0,by omega,rfl⟩ (fun _=>ClM.v (by simp only[List.all_cons,rowsC_isV];rfl)) (fun _=>ClE.of rfl) [(1,1)] ?_ ?_
 ·exact⟨rfl,trivial,⟨rfl,rfl,rfl,rfl,trivial⟩,⟨oV (renV (rowsC_isV _)),trivial⟩⟩
 ·rintro⟨i,hi,hx⟩ J hb
  simp only at hb hi hx⊢
  refine Sm.go 110 ?_
  refine vv ?_
  refine mtch (fun hc=>?_) (fun hc=>?_)
  ·have hc:=lt_of_dec hc
   rw[ixF_step p l i hc]at hx
   have htk:=rows_take (r:=Td.r) (k:=11) (fun _=>rfl) l i hc
   simp only[htk,hsz]
   refine⟨⟨by omega,by omega⟩,by omega,?_⟩
   refine CallQ.h 120 (hp l[i] (List.getElem_mem hc)) hH (caps_ok _ _) ?_
   refine vv ?_
   refine mtch (fun hd=>?_) (fun hd=>?_)
   ·rw[hd,cond_true]at hx
    exact RetQ.int (hR C hL) rfl ⟨rfl,trivial⟩ hx.symm
   ·rw[hd,cond_false]at hx
    simp only[wS (show i≤1000000000000000000 by omega)]
    exact hb _ _ ⟨i+1,hc,hx⟩ [(1,1)] (by simp only;omega) ⟨rfl,trivial,⟨rfl,rfl,rfl,rfl,trivial⟩,⟨oV (renV (rowsC_isV _)),trivial⟩⟩
  ·have hc:=eq_of_dec hi hc
   rw[hc,List.drop_length]at hx
   exact RetQ.int (hR C hL) rfl ⟨rfl,trivial⟩ hx.symm
theorem cofTd {H:Hp}(s:Sv)(l:List Td)(hs:SlH H (vsl s l.length) 11 (l.map Td.r))(hl:l.length≤1000000000000000)(g:FuncId)(caps:Array Value)(p:Td→Bool)(hp:∀x∈l,CallH H Tryz.prog g ((rowV (Td.r x))::caps.toList.map cst) (Bo (p x))):
  CallH H Tryz.prog 77 [.c (.v (vsl s l.length)),Fv g caps] (Bo (l.any p)):=by
 refine CallH.mkS Tryz.func77 rfl en77 (by simp[Tryz.ntmps77]) (ClA.of rfl) fun C hR hP hH hL=>?_
 refine Sm.go 100 ?_
 refine vv ?_
 refine CallQ.h 110 (ixfTd s l hs hl g caps p hp) hH rfl ?_
 refine vv ?_
 exact RetQ.bool (hR C hL) rfl ⟨rfl,trivial⟩ (ixF_any p l 0 (by omega))
theorem nalTd {H:Hp}(x:Td)(g:FuncId)(b:Bool)(hg:CallH H Tryz.prog g [(rowV (Td.r x))] (Bo b))(pv:Value)(hpv:PtH H pv [.func (.func g) #[] #[]]):CallH H Tryz.prog 205 [(rowV (Td.r x)),.c (.v pv)] (Bo (!b)):=by
 refine CallH.mkS Tryz.func205 rfl en205 (by simp[Tryz.ntmps205]) (ClA.of rfl) fun C hR hP hH hL=>?_
 refine Sm.bringP 1 138 1 (hpv.mono hH) rfl rfl (Sm.go 100 ?_)
 refine vv ?_
 refine CallQ.h 110 hg hH rfl ?_
 refine vv ?_
 exact RetQ.bool (hR C hL) rfl ⟨rfl,trivial⟩ rfl
theorem allTd {H:Hp}(s:Sv)(l:List Td)(hs:SlH H (vsl s l.length) 11 (l.map Td.r))(hl:l.length≤1000000000000000)(g:FuncId)(p:Td→Bool)(hp:∀x∈l,CallH H Tryz.prog g [(rowV (Td.r x))] (Bo (p x))):
  CallH H Tryz.prog 104 [.c (.v (vsl s l.length)),Fv g #[]] (Bo (l.all p)):=by
 refine CallH.mkS Tryz.func104 rfl en104 (by simp[Tryz.ntmps104]) (ClA.of rfl) fun C hR hP hH hL=>?_
 refine Sm.go 100 ?_
 refine vv ?_
 refine CallQ.letgo (xs:=[_,_]) [100] hL hP rfl rfl rfl en77 rfl rfl (fun β Cn l1 l2 l3=>?_)
 have hpt:=(l3 100 _ rfl rfl rfl).pt (by simp)
 refine CallW.h 110 l1 (cofTd s l (hs.mono (hH.trans l2)) hl 205 #[ptr β 100 0] (fun x=> !p x) (fun x hx=>nalTd x g (p x) ((hp x hx).mono (hH.trans l2)) _ hpt)) (Hp.le.refl _) rfl (fun Cm m1 m2=>?_)
 refine vv ?_
 refine RetQ.bool (hR Cm m1) rfl ⟨rfl,trivial⟩ ?_
 rw[List.all_eq_not_any_not]
theorem ixfCu {H:Hp}(s:Sv)(l:List CuL)(hs:SlH H (vsl s l.length) 3 (l.map CuL.r))(hl:l.length≤1000000000000000)(g:FuncId)(caps:Array Value)(p:CuL→Bool)(hp:∀x∈l,CallH H Tryz.prog g ((rowV (CuL.r x))::caps.toList.map cst) (Bo (p x))):
  CallH H Tryz.prog 195 [.c (.v (vsl s l.length)),Fv g caps] (I (ixF p l 0)):=by
 have hlen:(l.map CuL.r).length=l.length:=List.length_map _
 have hsz:=rows_len (r:=CuL.r) (k:=3) (fun _=>rfl) l
 refine CallH.mkS Tryz.func195 rfl en195 (by simp[Tryz.ntmps195]) (ClA.of rfl) fun C hR hP hH hL=>?_
 refine Sm.go 100 ?_
 refine vv ?_
 refine Sm.bringR 1 110 0 (hs.mono hH) rfl rfl ?_
 simp only[hlen]
 refine Sm.loopM (M0:=[]) (α:={i:Nat//i≤l.length∧ixF p l 0=ixF p (l.drop i) i}) hP (fun i=>[(0,true,.c (.sl 1 0 l.length 3)),(1,true,Fv g caps),(7,true,I l.length),(8,true,I i.val)]) (fun _=>[(1,⟨true,rowsC (l.map CuL.r),110⟩)]) (fun i=>l.length-i.val) ⟨0,by omega,rfl⟩ (fun _=>ClM.v (by simp only[List.all_cons,rowsC_isV];rfl)) (fun _=>ClE.of rfl) [(1,1)] ?_ ?_
 ·exact⟨rfl,trivial,⟨rfl,rfl,rfl,rfl,trivial⟩,⟨oV (renV (rowsC_isV _)),trivial⟩⟩
 ·rintro⟨i,hi,hx⟩ J hb
  simp only at hb hi hx⊢
  refine Sm.go 110 ?_
  refine vv ?_
  refine mtch (fun hc=>?_) (fun hc=>?_)
  ·have hc:=lt_of_dec hc
   rw[ixF_step p l i hc]at hx
   have htk:=rows_take (r:=CuL.r) (k:=3) (fun _=>rfl) l i hc
   simp only[htk,hsz]
   refine⟨⟨by omega,by omega⟩,by omega,?_⟩
   refine CallQ.h 120 (hp l[i] (List.getElem_mem hc)) hH (caps_ok _ _) ?_
   refine vv ?_
   refine mtch (fun hd=>?_) (fun hd=>?_)
   ·rw[hd,cond_true]at hx
    exact RetQ.int (hR C hL) rfl ⟨rfl,trivial⟩ hx.symm
   ·rw[hd,cond_false]at hx
    simp only[wS (show i≤1000000000000000000 by omega)]
    exact hb _ _ ⟨i+1,hc,hx⟩ [(1,1)] (by simp only;omega) ⟨rfl,trivial,⟨rfl,rfl,rfl,rfl,trivial⟩,⟨oV (renV (rowsC_isV _)),trivial⟩⟩
  ·have hc:=eq_of_dec hi hc
   rw[hc,List.drop_length]at hx
   exact RetQ.int (hR C hL) rfl ⟨rfl,trivial⟩ hx.symm
theorem cofCu {H:Hp}(s:Sv)(l:List CuL)(hs:SlH H (vsl s l.length) 3 (l.map CuL.r))(hl:l.length≤1000000000000000)(g:FuncId)(caps:Array Value)(p:CuL→Bool)(hp:∀x∈l,CallH H Tryz.prog g ((rowV (CuL.r x))::caps.toList.map cst) (Bo (p x))):
  CallH H Tryz.prog 79 [.c (.v (vsl s l.length)),Fv g caps] (Bo (l.any p)):=by
 refine CallH.mkS Tryz.func79 rfl en79 (by simp[Tryz.ntmps79]) (ClA.of rfl) fun C hR hP hH hL=>?_
 refine Sm.go 100 ?_
 refine vv ?_
 refine CallQ.h 110 (ixfCu s l hs hl g caps p hp) hH rfl ?_
 refine vv ?_
 exact RetQ.bool (hR C hL) rfl ⟨rfl,trivial⟩ (ixF_any p l 0 (by omega))
theorem nalCu {H:Hp}(x:CuL)(g:FuncId)(b:Bool)(hg:CallH H Tryz.prog g [(rowV (CuL.r x))] (Bo b))(pv:Value)(hpv:PtH H pv [.func (.func g) #[] #[]]):CallH H Tryz.prog 207 [(rowV (CuL.r x)),.c (.v pv)] (Bo (!b)):=by
 refine CallH.mkS Tryz.func207 rfl en207 (by simp[Tryz.ntmps207]) (ClA.of rfl) fun C hR hP hH hL=>?_
 refine Sm.bringP 1 140 1 (hpv.mono hH) rfl rfl (Sm.go 100 ?_)
 refine vv ?_
 refine CallQ.h 110 hg hH rfl ?_
 refine vv ?_
 exact RetQ.bool (hR C hL) rfl ⟨rfl,trivial⟩ rfl
theorem allCu {H:Hp}(s:Sv)(l:List CuL)(hs:SlH H (vsl s l.length) 3 (l.map CuL.r))(hl:l.length≤1000000000000000)(g:FuncId)(p:CuL→Bool)(hp:∀x∈l,CallH H Tryz.prog g [(rowV (CuL.r x))] (Bo (p x))):
  CallH H Tryz.prog 107 [.c (.v (vsl s l.length)),Fv g #[]] (Bo (l.all p)):=by
 refine CallH.mkS Tryz.func107 rfl en107 (by simp[Tryz.ntmps107]) (ClA.of rfl) fun C hR hP hH hL=>?_
 refine Sm.go 100 ?_
 refine vv ?_
 refine CallQ.letgo (xs:=[_,_]) [100] hL hP rfl rfl rfl en79 rfl rfl (fun β Cn l1 l2 l3=>?_)
 have hpt:=(l3 100 _ rfl rfl rfl).pt (by simp)
 refine CallW.h 110 l1 (cofCu s l (hs.mono (hH.trans l2)) hl 207 #[ptr β 100 0] (fun x=> !p x) (fun x hx=>nalCu x g (p x) ((hp x hx).mono (hH.trans l2)) _ hpt)) (Hp.le.refl _) rfl (fun Cm m1 m2=>?_)
 refine vv ?_
 refine RetQ.bool (hR Cm m1) rfl ⟨rfl,trivial⟩ ?_
 rw[List.all_eq_not_any_not]
theorem ixfMa {H:Hp}(s:Sv)(l:List MpL)(hs:SlH H (vsl s l.length) 4 (l.map MpL.r))(hl:l.length≤1000000000000000)(g:FuncId)(caps:Array Value)(p:MpL→Bool)(hp:∀x∈l,CallH H Tryz.prog g ((rowV (MpL.r x))::caps.toList.map cst) (Bo (p x))):
  CallH H Tryz.prog 196 [.c (.v (vsl s l.length)),Fv g caps] (I (ixF p l 0)):=by
 have hlen:(l.map MpL.r).length=l.length:=List.length_map _
 have hsz:=rows_len (r:=MpL.r) (k:=4) (fun _=>rfl) l
 refine CallH.mkS Tryz.func196 rfl en196 (by simp[Tryz.ntmps196]) (ClA.of rfl) fun C hR hP hH hL=>?_
 refine Sm.go 100 ?_
 refine vv ?_
 refine Sm.bringR 1 115 0 (hs.mono hH) rfl rfl ?_
 simp only[hlen]
 refine Sm.loopM (M0:=[]) (α:={i:Nat//i≤l.length∧ixF p l 0=ixF p (l.drop i) i}) hP (fun i=>[(0,true,.c (.sl 1 0 l.length 4)),(1,true,Fv g caps),(7,true,I l.length),(8,true,I i.val)]) (fun _=>[(1,⟨true,rowsC (l.map MpL.r),115⟩)]) (fun i=>l.length-i.val) ⟨0,by omega,rfl⟩ (fun _=>ClM.v (by simp only[List.all_cons,rowsC_isV];rfl)) (fun _=>ClE.of rfl) [(1,1)] ?_ ?_
 ·exact⟨rfl,trivial,⟨rfl,rfl,rfl,rfl,trivial⟩,⟨oV (renV (rowsC_isV _)),trivial⟩⟩
 ·rintro⟨i,hi,hx⟩ J hb
  simp only at hb hi hx⊢
  refine Sm.go 110 ?_
  refine vv ?_
  refine mtch (fun hc=>?_) (fun hc=>?_)
  ·have hc:=lt_of_dec hc
   rw[ixF_step p l i hc]at hx
   have htk:=rows_take (r:=MpL.r) (k:=4) (fun _=>rfl) l i hc
   simp only[htk,hsz]
   refine⟨⟨by omega,by omega⟩,by omega,?_⟩
   refine CallQ.h 120 (hp l[i] (List.getElem_mem hc)) hH (caps_ok _ _) ?_
   refine vv ?_
   refine mtch (fun hd=>?_) (fun hd=>?_)
   ·rw[hd,cond_true]at hx
    exact RetQ.int (hR C hL) rfl ⟨rfl,trivial⟩ hx.symm
   ·rw[hd,cond_false]at hx
    simp only[wS (show i≤1000000000000000000 by omega)]
    exact hb _ _ ⟨i+1,hc,hx⟩ [(1,1)] (by simp only;omega) ⟨rfl,trivial,⟨rfl,rfl,rfl,rfl,trivial⟩,⟨oV (renV (rowsC_isV _)),trivial⟩⟩
  ·have hc:=eq_of_dec hi hc
   rw[hc,List.drop_length]at hx
   exact RetQ.int (hR C hL) rfl ⟨rfl,trivial⟩ hx.symm
theorem cofMa {H:Hp}(s:Sv)(l:List MpL)(hs:SlH H (vsl s l.length) 4 (l.map MpL.r))(hl:l.length≤1000000000000000)(g:FuncId)(caps:Array Value)(p:MpL→Bool)(hp:∀x∈l,CallH H Tryz.prog g ((rowV (MpL.r x))::caps.toList.map cst) (Bo (p x))):
  CallH H Tryz.prog 81 [.c (.v (vsl s l.length)),Fv g caps] (Bo (l.any p)):=by
 refine CallH.mkS Tryz.func81 rfl en81 (by simp[Tryz.ntmps81]) (ClA.of rfl) fun C hR hP hH hL=>?_
 refine Sm.go 100 ?_
 refine vv ?_
 refine CallQ.h 110 (ixfMa s l hs hl g caps p hp) hH rfl ?_
 refine vv ?_
 exact RetQ.bool (hR C hL) rfl ⟨rfl,trivial⟩ (ixF_any p l 0 (by omega))
theorem nalMa {H:Hp}(x:MpL)(g:FuncId)(b:Bool)(hg:CallH H Tryz.prog g [(rowV (MpL.r x))] (Bo b))(pv:Value)(hpv:PtH H pv [.func (.func g) #[] #[]]):CallH H Tryz.prog 211 [(rowV (MpL.r x)),.c (.v pv)] (Bo (!b)):=by
 refine CallH.mkS Tryz.func211 rfl en211 (by simp[Tryz.ntmps211]) (ClA.of rfl) fun C hR hP hH hL=>?_
 refine Sm.bringP 1 142 1 (hpv.mono hH) rfl rfl (Sm.go 100 ?_)
 refine vv ?_
 refine CallQ.h 110 hg hH rfl ?_
 refine vv ?_
 exact RetQ.bool (hR C hL) rfl ⟨rfl,trivial⟩ rfl
theorem allMa {H:Hp}(s:Sv)(l:List MpL)(hs:SlH H (vsl s l.length) 4 (l.map MpL.r))(hl:l.length≤1000000000000000)(g:FuncId)(p:MpL→Bool)(hp:∀x∈l,CallH H Tryz.prog g [(rowV (MpL.r x))] (Bo (p x))):
  CallH H Tryz.prog 110 [.c (.v (vsl s l.length)),Fv g #[]] (Bo (l.all p)):=by
 refine CallH.mkS Tryz.func110 rfl en110 (by simp[Tryz.ntmps110]) (ClA.of rfl) fun C hR hP hH hL=>?_
 refine Sm.go 100 ?_
 refine vv ?_
 refine CallQ.letgo (xs:=[_,_]) [100] hL hP rfl rfl rfl en81 rfl rfl (fun β Cn l1 l2 l3=>?_)
 have hpt:=(l3 100 _ rfl rfl rfl).pt (by simp)
 refine CallW.h 110 l1 (cofMa s l (hs.mono (hH.trans l2)) hl 211 #[ptr β 100 0] (fun x=> !p x) (fun x hx=>nalMa x g (p x) ((hp x hx).mono (hH.trans l2)) _ hpt)) (Hp.le.refl _) rfl (fun Cm m1 m2=>?_)
 refine vv ?_
 refine RetQ.bool (hR Cm m1) rfl ⟨rfl,trivial⟩ ?_
 rw[List.all_eq_not_any_not]
theorem ixfPo {H:Hp}(s:Sv)(l:List Po)(hs:SlH H (vsl s l.length) 4 (l.map Po.r))(hl:l.length≤1000000000000000)(g:FuncId)(caps:Array Value)(p:Po→Bool)(hp:∀x∈l,CallH H Tryz.prog g ((rowV (Po.r x))::caps.toList.map cst) (Bo (p x))):
  CallH H Tryz.prog 87 [.c (.v (vsl s l.length)),Fv g caps] (I (ixF p l 0)):=by
 have hlen:(l.map Po.r).length=l.length:=List.length_map _
 have hsz:=rows_len (r:=Po.r) (k:=4) (fun _=>rfl) l
 refine CallH.mkS Tryz.func87 rfl en87 (by simp[Tryz.ntmps87]) (ClA.of rfl) fun C hR hP hH hL=>?_
 refine Sm.go 100 ?_
 refine vv ?_
 refine Sm.bringR 1 118 0 (hs.mono hH) rfl rfl ?_
 simp only[hlen]
 refine Sm.loopM (M0:=[]) (α:={i:Nat//i≤l.length∧ixF p l 0=ixF p (l.drop i) i}) hP (fun i=>[(0,true,.c (.sl 1 0 l.length 4)),(1,true,Fv g caps),(7,true,I l.length),(8,true,I i.val)]) (fun _=>[(1,⟨true,rowsC (l.map Po.r),118⟩)]) (fun i=>l.length-i.val) ⟨0,by omega,rfl⟩ (fun _=>ClM.v (by simp only[List.all_cons,rowsC_isV];rfl)) (fun _=>ClE.of rfl) [(1,1)] ?_ ?_
 ·exact⟨rfl,trivial,⟨rfl,rfl,rfl,rfl,trivial⟩,⟨oV (renV (rowsC_isV _)),trivial⟩⟩
 ·rintro⟨i,hi,hx⟩ J hb
  simp only at hb hi hx⊢
  refine Sm.go 110 ?_
  refine vv ?_
  refine mtch (fun hc=>?_) (fun hc=>?_)
  ·have hc:=lt_of_dec hc
   rw[ixF_step p l i hc]at hx
   have htk:=rows_take (r:=Po.r) (k:=4) (fun _=>rfl) l i hc
   simp only[htk,hsz]
   refine⟨⟨by omega,by omega⟩,by omega,?_⟩
   refine CallQ.h 120 (hp l[i] (List.getElem_mem hc)) hH (caps_ok _ _) ?_
   refine vv ?_
   refine mtch (fun hd=>?_) (fun hd=>?_)
   ·rw[hd,cond_true]at hx
    exact RetQ.int (hR C hL) rfl ⟨rfl,trivial⟩ hx.symm
   ·rw[hd,cond_false]at hx
    simp only[wS (show i≤1000000000000000000 by omega)]
    exact hb _ _ ⟨i+1,hc,hx⟩ [(1,1)] (by simp only;omega) ⟨rfl,trivial,⟨rfl,rfl,rfl,rfl,trivial⟩,⟨oV (renV (rowsC_isV _)),trivial⟩⟩
  ·have hc:=eq_of_dec hi hc
   rw[hc,List.drop_length]at hx
   exact RetQ.int (hR C hL) rfl ⟨rfl,trivial⟩ hx.symm
theorem cofPo {H:Hp}(s:Sv)(l:List Po)(hs:SlH H (vsl s l.length) 4 (l.map Po.r))(hl:l.length≤1000000000000000)(g:FuncId)(caps:Array Value)(p:Po→Bool)(hp:∀x∈l,CallH H Tryz.prog g ((rowV (Po.r x))::caps.toList.map cst) (Bo (p x))):
  CallH H Tryz.prog 83 [.c (.v (vsl s l.length)),Fv g caps] (Bo (l.any p)):=by
 refine CallH.mkS Tryz.func83 rfl en83 (by simp[Tryz.ntmps83]) (ClA.of rfl) fun C hR hP hH hL=>?_
 refine Sm.go 100 ?_
 refine vv ?_
 refine CallQ.h 110 (ixfPo s l hs hl g caps p hp) hH rfl ?_
 refine vv ?_
 exact RetQ.bool (hR C hL) rfl ⟨rfl,trivial⟩ (ixF_any p l 0 (by omega))
theorem nalPo {H:Hp}(x:Po)(g:FuncId)(b:Bool)(hg:CallH H Tryz.prog g [(rowV (Po.r x))] (Bo b))(pv:Value)(hpv:PtH H pv [.func (.func g) #[] #[]]):CallH H Tryz.prog 215 [(rowV (Po.r x)),.c (.v pv)] (Bo (!b)):=by
 refine CallH.mkS Tryz.func215 rfl en215 (by simp[Tryz.ntmps215]) (ClA.of rfl) fun C hR hP hH hL=>?_
 refine Sm.bringP 1 144 1 (hpv.mono hH) rfl rfl (Sm.go 100 ?_)
 refine vv ?_
 refine CallQ.h 110 hg hH rfl ?_
 refine vv ?_
 exact RetQ.bool (hR C hL) rfl ⟨rfl,trivial⟩ rfl
theorem allPo {H:Hp}(s:Sv)(l:List Po)(hs:SlH H (vsl s l.length) 4 (l.map Po.r))(hl:l.length≤1000000000000000)(g:FuncId)(p:Po→Bool)(hp:∀x∈l,CallH H Tryz.prog g [(rowV (Po.r x))] (Bo (p x))):
  CallH H Tryz.prog 113 [.c (.v (vsl s l.length)),Fv g #[]] (Bo (l.all p)):=by
 refine CallH.mkS Tryz.func113 rfl en113 (by simp[Tryz.ntmps113]) (ClA.of rfl) fun C hR hP hH hL=>?_
 refine Sm.go 100 ?_
 refine vv ?_
 refine CallQ.letgo (xs:=[_,_]) [100] hL hP rfl rfl rfl en83 rfl rfl (fun β Cn l1 l2 l3=>?_)
 have hpt:=(l3 100 _ rfl rfl rfl).pt (by simp)
 refine CallW.h 110 l1 (cofPo s l (hs.mono (hH.trans l2)) hl 215 #[ptr β 100 0] (fun x=> !p x) (fun x hx=>nalPo x g (p x) ((hp x hx).mono (hH.trans l2)) _ hpt)) (Hp.le.refl _) rfl (fun Cm m1 m2=>?_)
 refine vv ?_
 refine RetQ.bool (hR Cm m1) rfl ⟨rfl,trivial⟩ ?_
 rw[List.all_eq_not_any_not]
theorem ixfBl {H:Hp}(s:Sv)(l:List BlL)(hs:SlH H (vsl s l.length) 6 (l.map BlL.r))(hl:l.length≤1000000000000000)(g:FuncId)(caps:Array Value)(p:BlL→Bool)(hp:∀x∈l,CallH H Tryz.prog g ((rowV (BlL.r x))::caps.toList.map cst) (Bo (p x))):
  CallH H Tryz.prog 89 [.c (.v (vsl s l.length)),Fv g caps] (I (ixF p l 0)):=by
 have hlen:(l.map BlL.r).length=l.length:=List.length_map _
 have hsz:=rows_len (r:=BlL.r) (k:=6) (fun _=>rfl) l
 refine CallH.mkS Tryz.func89 rfl en89 (by simp[Tryz.ntmps89]) (ClA.of rfl) fun C hR hP hH hL=>?_
 refine Sm.go 100 ?_
 refine vv ?_
 refine Sm.bringR 1 82 0 (hs.mono hH) rfl rfl ?_
 simp only[hlen]
 refine Sm.loopM (M0:=[]) (α:={i:Nat//i≤l.length∧ixF p l 0=ixF p (l.drop i) i}) hP (fun i=>[(0,true,.c (.sl 1 0 l.length 6)),(1,true,Fv g caps),(7,true,I l.length),(8,true,I i.val)]) (fun _=>[(1,⟨true,rowsC (l.map BlL.r),82⟩)]) (fun i=>l.length-i.val) ⟨0,by omega,rfl⟩ (fun _=>ClM.v (by simp only[List.all_cons,rowsC_isV];rfl)) (fun _=>ClE.of rfl) [(1,1)] ?_ ?_
 ·exact⟨rfl,trivial,⟨rfl,rfl,rfl,rfl,trivial⟩,⟨oV (renV (rowsC_isV _)),trivial⟩⟩
 ·rintro⟨i,hi,hx⟩ J hb
  simp only at hb hi hx⊢
  refine Sm.go 110 ?_
  refine vv ?_
  refine mtch (fun hc=>?_) (fun hc=>?_)
  ·have hc:=lt_of_dec hc
   rw[ixF_step p l i hc]at hx
   have htk:=rows_take (r:=BlL.r) (k:=6) (fun _=>rfl) l i hc
   simp only[htk,hsz]
   refine⟨⟨by omega,by omega⟩,by omega,?_⟩
   refine CallQ.h 120 (hp l[i] (List.getElem_mem hc)) hH (caps_ok _ _) ?_
   refine vv ?_
   refine mtch (fun hd=>?_) (fun hd=>?_)
   ·rw[hd,cond_true]at hx
    exact RetQ.int (hR C hL) rfl ⟨rfl,trivial⟩ hx.symm
   ·rw[hd,cond_false]at hx
    simp only[wS (show i≤1000000000000000000 by omega)]
    exact hb _ _ ⟨i+1,hc,hx⟩ [(1,1)] (by simp only;omega) ⟨rfl,trivial,⟨rfl,rfl,rfl,rfl,trivial⟩,⟨oV (renV (rowsC_isV _)),trivial⟩⟩
  ·have hc:=eq_of_dec hi hc
   rw[hc,List.drop_length]at hx
   exact RetQ.int (hR C hL) rfl ⟨rfl,trivial⟩ hx.symm
theorem cofBl {H:Hp}(s:Sv)(l:List BlL)(hs:SlH H (vsl s l.length) 6 (l.map BlL.r))(hl:l.length≤1000000000000000)(g:FuncId)(caps:Array Value)(p:BlL→Bool)(hp:∀x∈l,CallH H Tryz.prog g ((rowV (BlL.r x))::caps.toList.map cst) (Bo (p x))):
  CallH H Tryz.prog 85 [.c (.v (vsl s l.length)),Fv g caps] (Bo (l.any p)):=by
 refine CallH.mkS Tryz.func85 rfl en85 (by simp[Tryz.ntmps85]) (ClA.of rfl) fun C hR hP hH hL=>?_
 refine Sm.go 100 ?_
 refine vv ?_
 refine CallQ.h 110 (ixfBl s l hs hl g caps p hp) hH rfl ?_
 refine vv ?_
 exact RetQ.bool (hR C hL) rfl ⟨rfl,trivial⟩ (ixF_any p l 0 (by omega))
theorem nalBl {H:Hp}(x:BlL)(g:FuncId)(b:Bool)(hg:CallH H Tryz.prog g [(rowV (BlL.r x))] (Bo b))(pv:Value)(hpv:PtH H pv [.func (.func g) #[] #[]]):CallH H Tryz.prog 217 [(rowV (BlL.r x)),.c (.v pv)] (Bo (!b)):=by
 refine CallH.mkS Tryz.func217 rfl en217 (by simp[Tryz.ntmps217]) (ClA.of rfl) fun C hR hP hH hL=>?_
 refine Sm.bringP 1 146 1 (hpv.mono hH) rfl rfl (Sm.go 100 ?_)
 refine vv ?_
 refine CallQ.h 110 hg hH rfl ?_
 refine vv ?_
 exact RetQ.bool (hR C hL) rfl ⟨rfl,trivial⟩ rfl
theorem allBl {H:Hp}(s:Sv)(l:List BlL)(hs:SlH H (vsl s l.length) 6 (l.map BlL.r))(hl:l.length≤1000000000000000)(g:FuncId)(p:BlL→Bool)(hp:∀x∈l,CallH H Tryz.prog g [(rowV (BlL.r x))] (Bo (p x))):
  CallH H Tryz.prog 115 [.c (.v (vsl s l.length)),Fv g #[]] (Bo (l.all p)):=by
 refine CallH.mkS Tryz.func115 rfl en115 (by simp[Tryz.ntmps115]) (ClA.of rfl) fun C hR hP hH hL=>?_
 refine Sm.go 100 ?_
 refine vv ?_
 refine CallQ.letgo (xs:=[_,_]) [100] hL hP rfl rfl rfl en85 rfl rfl (fun β Cn l1 l2 l3=>?_)
 have hpt:=(l3 100 _ rfl rfl rfl).pt (by simp)
 refine CallW.h 110 l1 (cofBl s l (hs.mono (hH.trans l2)) hl 217 #[ptr β 100 0] (fun x=> !p x) (fun x hx=>nalBl x g (p x) ((hp x hx).mono (hH.trans l2)) _ hpt)) (Hp.le.refl _) rfl (fun Cm m1 m2=>?_)
 refine vv ?_
 refine RetQ.bool (hR Cm m1) rfl ⟨rfl,trivial⟩ ?_
 rw[List.all_eq_not_any_not]
theorem ixfS {H:Hp}(s:Sv)(l:List Str)(hs:SlH H (vsl s l.length) 1 (strsR l))(hl:l.length≤1000000000000000)(g:FuncId)(caps:Array Value)(p:Str→Bool)(hp:∀x∈l,CallH H Tryz.prog g ((.c (sC x))::caps.toList.map cst) (Bo (p x))):
  CallH H Tryz.prog 192 [.c (.v (vsl s l.length)),Fv g caps] (I (ixF p l 0)):=by
 refine CallH.mkS Tryz.func192 rfl en192 (by simp[Tryz.ntmps192]) (ClA.of rfl) fun C hR hP hH hL=>?_
 refine Sm.go 100 ?_
 refine vv ?_
 refine Sm.bringS 1 9 0 (hs.mono hH) rfl rfl ?_
 refine Sm.loopM (M0:=[]) (α:={i:Nat//i≤l.length∧ixF p l 0=ixF p (l.drop i) i}) hP (fun i=>[(0,true,.c (.sl 1 0 l.length 1)),(1,true,Fv g caps),(7,true,I l.length),(8,true,I i.val)]) (fun _=>[(1,⟨true,l.map sC,9⟩)]) (fun i=>l.length-i.val) ⟨0,by omega,rfl⟩ (fun _=>ClM.v (by simp only[List.all_cons,v_sC];rfl)) (fun _=>ClE.of rfl) [(1,1)] ?_ ?_
 ·exact⟨rfl,trivial,⟨rfl,rfl,rfl,rfl,trivial⟩,⟨oV (renV (v_sC _)),trivial⟩⟩
 ·rintro⟨i,hi,hx⟩ J hb
  simp only at hb hi hx⊢
  refine Sm.go 110 ?_
  refine vv ?_
  refine mtch (fun hc=>?_) (fun hc=>?_)
  ·have hc:=lt_of_dec hc
   rw[ixF_step p l i hc]at hx
   simp(maxSteps:=2000000) only[go_sem,get_sC hc]
   refine⟨⟨by omega,by omega⟩,?_⟩
   refine CallQ.h 120 (hp l[i] (List.getElem_mem hc)) hH (caps_ok _ _) ?_
   refine vv ?_
   refine mtch (fun hd=>?_) (fun hd=>?_)
   ·rw[hd,cond_true]at hx
    exact RetQ.int (hR C hL) rfl ⟨rfl,trivial⟩ hx.symm
   ·rw[hd,cond_false]at hx
    simp only[wS (show i≤1000000000000000000 by omega)]
    exact hb _ _ ⟨i+1,hc,hx⟩ [(1,1)] (by simp only;omega) ⟨rfl,trivial,⟨rfl,rfl,rfl,rfl,trivial⟩,⟨oV (renV (v_sC _)),trivial⟩⟩
  ·have hc:=eq_of_dec hi hc
   rw[hc,List.drop_length]at hx
   exact RetQ.int (hR C hL) rfl ⟨rfl,trivial⟩ hx.symm
theorem cofS {H:Hp}(s:Sv)(l:List Str)(hs:SlH H (vsl s l.length) 1 (strsR l))(hl:l.length≤1000000000000000)(g:FuncId)(caps:Array Value)(p:Str→Bool)(hp:∀x∈l,CallH H Tryz.prog g ((.c (sC x))::caps.toList.map cst) (Bo (p x))):
  CallH H Tryz.prog 72 [.c (.v (vsl s l.length)),Fv g caps] (Bo (l.any p)):=by
 refine CallH.mkS Tryz.func72 rfl en72 (by simp[Tryz.ntmps72]) (ClA.of rfl) fun C hR hP hH hL=>?_
 refine Sm.go 100 ?_
 refine vv ?_
 refine CallQ.h 110 (ixfS s l hs hl g caps p hp) hH rfl ?_
 refine vv ?_
 exact RetQ.bool (hR C hL) rfl ⟨rfl,trivial⟩ (ixF_any p l 0 (by omega))
theorem nalS {H:Hp}(x:Str)(g:FuncId)(b:Bool)(hg:CallH H Tryz.prog g [(.c (sC x))] (Bo b))(pv:Value)(hpv:PtH H pv [.func (.func g) #[] #[]]):CallH H Tryz.prog 220 [(.c (sC x)),.c (.v pv)] (Bo (!b)):=by
 refine CallH.mkS Tryz.func220 rfl en220 (by simp[Tryz.ntmps220]) (ClA.of rfl) fun C hR hP hH hL=>?_
 refine Sm.bringP 1 48 1 (hpv.mono hH) rfl rfl (Sm.go 100 ?_)
 refine vv ?_
 refine CallQ.h 110 hg hH rfl ?_
 refine vv ?_
 exact RetQ.bool (hR C hL) rfl ⟨rfl,trivial⟩ rfl
theorem allS {H:Hp}(s:Sv)(l:List Str)(hs:SlH H (vsl s l.length) 1 (strsR l))(hl:l.length≤1000000000000000)(g:FuncId)(p:Str→Bool)(hp:∀x∈l,CallH H Tryz.prog g [(.c (sC x))] (Bo (p x))):
  CallH H Tryz.prog 117 [.c (.v (vsl s l.length)),Fv g #[]] (Bo (l.all p)):=by
 refine CallH.mkS Tryz.func117 rfl en117 (by simp[Tryz.ntmps117]) (ClA.of rfl) fun C hR hP hH hL=>?_
 refine Sm.go 100 ?_
 refine vv ?_
 refine CallQ.letgo (xs:=[_,_]) [100] hL hP rfl rfl rfl en72 rfl rfl (fun β Cn l1 l2 l3=>?_)
 have hpt:=(l3 100 _ rfl rfl rfl).pt (by simp)
 refine CallW.h 110 l1 (cofS s l (hs.mono (hH.trans l2)) hl 220 #[ptr β 100 0] (fun x=> !p x) (fun x hx=>nalS x g (p x) ((hp x hx).mono (hH.trans l2)) _ hpt)) (Hp.le.refl _) rfl (fun Cm m1 m2=>?_)
 refine vv ?_
 refine RetQ.bool (hR Cm m1) rfl ⟨rfl,trivial⟩ ?_
 rw[List.all_eq_not_any_not]
theorem ixfI {H:Hp}(s:Sv)(l:List Int)(hs:SlH H (vsl s l.length) 1 (intsR l))(hl:l.length≤1000000000000000)(g:FuncId)(caps:Array Value)(p:Int→Bool)(hp:∀x∈l,CallH H Tryz.prog g ((.c (iC x))::caps.toList.map cst) (Bo (p x))):
  CallH H Tryz.prog 255 [.c (.v (vsl s l.length)),Fv g caps] (I (ixF p l 0)):=by
 refine CallH.mkS Tryz.func255 rfl en255 (by simp[Tryz.ntmps255]) (ClA.of rfl) fun C hR hP hH hL=>?_
 refine Sm.go 100 ?_
 refine vv ?_
 refine Sm.bringI 1 3 0 (hs.mono hH) rfl rfl ?_
 refine Sm.loopM (M0:=[]) (α:={i:Nat//i≤l.length∧ixF p l 0=ixF p (l.drop i) i}) hP (fun i=>[(0,true,.c (.sl 1 0 l.length 1)),(1,true,Fv g caps),(7,true,I l.length),(8,true,I i.val)]) (fun _=>[(1,⟨true,l.map iC,3⟩)]) (fun i=>l.length-i.val) ⟨0,by omega,rfl⟩ (fun _=>ClM.v (by simp only[List.all_cons,v_iC];rfl)) (fun _=>ClE.of rfl) [(1,1)] ?_ ?_
 ·exact⟨rfl,trivial,⟨rfl,rfl,rfl,rfl,trivial⟩,⟨oV (renV (v_iC _)),trivial⟩⟩
 ·rintro⟨i,hi,hx⟩ J hb
  simp only at hb hi hx⊢
  refine Sm.go 110 ?_
  refine vv ?_
  refine mtch (fun hc=>?_) (fun hc=>?_)
  ·have hc:=lt_of_dec hc
   rw[ixF_step p l i hc]at hx
   simp(maxSteps:=2000000) only[go_sem,get_iC hc]
   refine⟨⟨by omega,by omega⟩,?_⟩
   refine CallQ.h 120 (hp l[i] (List.getElem_mem hc)) hH (caps_ok _ _) ?_
   refine vv ?_
   refine mtch (fun hd=>?_) (fun hd=>?_)
   ·rw[hd,cond_true]at hx
    exact RetQ.int (hR C hL) rfl ⟨rfl,trivial⟩ hx.symm
   ·rw[hd,cond_false]at hx
    simp only[wS (show i≤1000000000000000000 by omega)]
    exact hb _ _ ⟨i+1,hc,hx⟩ [(1,1)] (by simp only;omega) ⟨rfl,trivial,⟨rfl,rfl,rfl,rfl,trivial⟩,⟨oV (renV (v_iC _)),trivial⟩⟩
  ·have hc:=eq_of_dec hi hc
   rw[hc,List.drop_length]at hx
   exact RetQ.int (hR C hL) rfl ⟨rfl,trivial⟩ hx.symm
theorem cofI {H:Hp}(s:Sv)(l:List Int)(hs:SlH H (vsl s l.length) 1 (intsR l))(hl:l.length≤1000000000000000)(g:FuncId)(caps:Array Value)(p:Int→Bool)(hp:∀x∈l,CallH H Tryz.prog g ((.c (iC x))::caps.toList.map cst) (Bo (p x))):
  CallH H Tryz.prog 209 [.c (.v (vsl s l.length)),Fv g caps] (Bo (l.any p)):=by
 refine CallH.mkS Tryz.func209 rfl en209 (by simp[Tryz.ntmps209]) (ClA.of rfl) fun C hR hP hH hL=>?_
 refine Sm.go 100 ?_
 refine vv ?_
 refine CallQ.h 110 (ixfI s l hs hl g caps p hp) hH rfl ?_
 refine vv ?_
 exact RetQ.bool (hR C hL) rfl ⟨rfl,trivial⟩ (ixF_any p l 0 (by omega))
theorem nalI {H:Hp}(x:Int)(g:FuncId)(b:Bool)(hg:CallH H Tryz.prog g [(.c (iC x))] (Bo b))(pv:Value)(hpv:PtH H pv [.func (.func g) #[] #[]]):CallH H Tryz.prog 257 [(.c (iC x)),.c (.v pv)] (Bo (!b)):=by
 refine CallH.mkS Tryz.func257 rfl en257 (by simp[Tryz.ntmps257]) (ClA.of rfl) fun C hR hP hH hL=>?_
 refine Sm.bringP 1 152 1 (hpv.mono hH) rfl rfl (Sm.go 100 ?_)
 refine vv ?_
 refine CallQ.h 110 hg hH rfl ?_
 refine vv ?_
 exact RetQ.bool (hR C hL) rfl ⟨rfl,trivial⟩ rfl
theorem allI {H:Hp}(s:Sv)(l:List Int)(hs:SlH H (vsl s l.length) 1 (intsR l))(hl:l.length≤1000000000000000)(g:FuncId)(p:Int→Bool)(hp:∀x∈l,CallH H Tryz.prog g [(.c (iC x))] (Bo (p x))):
  CallH H Tryz.prog 219 [.c (.v (vsl s l.length)),Fv g #[]] (Bo (l.all p)):=by
 refine CallH.mkS Tryz.func219 rfl en219 (by simp[Tryz.ntmps219]) (ClA.of rfl) fun C hR hP hH hL=>?_
 refine Sm.go 100 ?_
 refine vv ?_
 refine CallQ.letgo (xs:=[_,_]) [100] hL hP rfl rfl rfl en209 rfl rfl (fun β Cn l1 l2 l3=>?_)
 have hpt:=(l3 100 _ rfl rfl rfl).pt (by simp)
 refine CallW.h 110 l1 (cofI s l (hs.mono (hH.trans l2)) hl 257 #[ptr β 100 0] (fun x=> !p x) (fun x hx=>nalI x g (p x) ((hp x hx).mono (hH.trans l2)) _ hpt)) (Hp.le.refl _) rfl (fun Cm m1 m2=>?_)
 refine vv ?_
 refine RetQ.bool (hR Cm m1) rfl ⟨rfl,trivial⟩ ?_
 rw[List.all_eq_not_any_not]
end Go.Proofs.YtlnpgbnhcondjaaGreatDoor.Fx
