/-  -/
import Derived.Test.YtlnpgbnhcondjaaGreatDoorTf
import Derived.Test.YtlnpgbnhcondjaaGreatDoorQ7
import Derived.Test.YtlnpgbnhcondjaaGreatDoorXD2
import Derived.Test.YtlnpgbnhcondjaaGreatDoorP5
namespace Go.Proofs.YtlnpgbnhcondjaaGreatDoor.Fx
open Vg Tf
set_option linter.unusedSimpArgs false
set_option linter.unusedVariables false
set_option maxRecDepth 100000
set_option maxHeartbeats 4000000
theorem take_eq_succ {α:Type}{la lb:List α}{i:Nat}(ha:i<la.length)(hb:i<lb.length)(h:la.take i=lb.take i)(he:la[i]=lb[i]):la.take (i+1)=lb.take (i+1):=by
 rw[List.take_succ_eq_append_getElem ha,List.take_succ_eq_append_getElem hb,h,he]
theorem eq_of_take {α:Type}{la lb:List α}(h:la.take la.length=lb.take la.length)(hl:la.length=lb.length):la=lb:=by
 rw[List.take_length,hl,List.take_length]at h;exact h
theorem eqG_td {H:Hp}(a b:Sv)(la lb:List Td)(ha:SlH H (vsl a la.length) 11 (la.map Td.r))(hb:SlH H (vsl b lb.length) 11 (lb.map Td.r))(hl:la.length≤1000000000000000)(e:Bool)(he:e=true↔la=lb):
  CallH H Tryz.prog 119 [.c (.v (vsl a la.length)),.c (.v (vsl b lb.length))] (Bo e):=by
 refine CallH.mkS Tryz.func119 rfl en119 (by simp[Tryz.ntmps119]) (ClA.of rfl) fun C hR hP hH hL=>?_
 refine Sm.bringR 1 93 0 (ha.mono hH) rfl rfl ?_
 refine Sm.bringR 2 93 1 (hb.mono hH) rfl rfl ?_
 have n1:(la.map Td.r).length=la.length:=List.length_map _
 have n2:(lb.map Td.r).length=lb.length:=List.length_map _
 rw[n1,n2]
 refine Sm.go 100 ?_
 have e0:((la.length:Int)!=(lb.length:Int))= !decide (la.length=lb.length):=by rw[Bool.eq_iff_iff,bne_iff_ne,Bool.not_eq_true',decide_eq_false_iff_not];omega
 simp(maxSteps:=2000000) only[go_sem,e0]
 cases hd:decide (la.length=lb.length)with
 |false=>
  have hd:=of_decide_eq_false hd
  have hef:e=false:=by
   cases h:e with
   |false=>rfl
   |true=>exact absurd (congrArg List.length (he.1 h)) hd
  subst hef
  refine vv ?_
  exact RetQ.bool (hR C hL) rfl ⟨rfl,trivial⟩ rfl
 |true=>
 have hd:=of_decide_eq_true hd
 refine vv ?_
 refine Sm.loopM (M0:=[]) (α:={i:Nat//i≤la.length∧la.take i=lb.take i}) hP (fun i=>[(0,true,.c (.sl 1 0 la.length 11)),(1,true,.c (.sl 2 0 lb.length 11)),(12,true,I la.length),(13,true,I i.val)])
  (fun _=>[(1,⟨true,rowsC (la.map Td.r),93⟩),(2,⟨true,rowsC (lb.map Td.r),93⟩)]) (fun i=>la.length-i.val) ⟨0,by omega,rfl⟩ (fun _=>ClM.of (by simp only[List.all_cons,inMV (rowsC_isV _),inMV (v_sC _),inMV (v_iC _)];rfl)) (fun _=>ClE.of rfl) [(1,1),(2,2)] ?_ ?_
 ·exact⟨rfl,trivial,⟨rfl,rfl,rfl,rfl,trivial⟩,⟨oV (renV (rowsC_isV _)),oV (renV (rowsC_isV _)),trivial⟩⟩
 rintro⟨i,hi,hx⟩ J hj
 simp only at hj hi hx⊢
 refine Sm.go 110 ?_
 refine vv ?_
 refine mtch (fun hc=>?_) (fun hc=>?_)
 ·have hc:=lt_of_dec hc
  have hcb:i<lb.length:=by omega
  have ga:=rows_take (r:=Td.r) (k:=11) (fun _=>rfl) la i hc
  have gb:=rows_take (r:=Td.r) (k:=11) (fun _=>rfl) lb i hcb
  have za:=rows_len (r:=Td.r) (k:=11) (fun _=>rfl) la
  have zb:=rows_len (r:=Td.r) (k:=11) (fun _=>rfl) lb
  have hne:la[i]≠lb[i]→e=false:=fun hq=>by
   cases h:e with
   |false=>rfl
   |true=>
    have:=he.1 h
    subst this
    exact absurd rfl hq
  have hnx:=take_eq_succ hc hcb hx
  generalize la[i]=x at*
  generalize lb[i]=y at*
  refine Sm.dg 110 8 mix ?_
  simp(maxSteps:=2000000) only[go_sem,ga,gb,za,zb,wS (show i≤1000000000000000000 by omega)]
  refine⟨⟨by omega,by omega⟩,by omega,⟨by omega,by omega⟩,by omega,?_⟩
  refine mtch (fun hq=>?_) (fun hq=>?_)
  ·have hxy:x≠y:=by
    rintro rfl
    simp at hq
   have hef:=hne hxy
   subst hef
   exact RetQ.bool (hR C hL) rfl ⟨rfl,trivial⟩ rfl
  ·have hxy:x=y:=by
    obtain⟨xn,xt⟩:=x
    obtain⟨yn,yt⟩:=y
    obtain⟨x0,x1,x2,x3,x4,x5,x6,x7,x8,x9⟩:=xt
    obtain⟨y0,y1,y2,y3,y4,y5,y6,y7,y8,y9⟩:=yt
    simp at hq
    simp[hq]
   exact hj _ _ ⟨i+1,hc,hnx hxy⟩ [(1,1),(2,2)] (by simp only;omega) ⟨rfl,trivial,⟨rfl,rfl,rfl,rfl,trivial⟩,⟨oV (renV (rowsC_isV _)),oV (renV (rowsC_isV _)),trivial⟩⟩
 ·have hc:=eq_of_dec hi hc
  subst hc
  have het:=he.2 (eq_of_take hx hd)
  subst het
  exact RetQ.bool (hR C hL) rfl ⟨rfl,trivial⟩ rfl
theorem eqG_po {H:Hp}(a b:Sv)(la lb:List Po)(ha:SlH H (vsl a la.length) 4 (la.map Po.r))(hb:SlH H (vsl b lb.length) 4 (lb.map Po.r))(hl:la.length≤1000000000000000)(e:Bool)(he:e=true↔la=lb):
  CallH H Tryz.prog 120 [.c (.v (vsl a la.length)),.c (.v (vsl b lb.length))] (Bo e):=by
 refine CallH.mkS Tryz.func120 rfl en120 (by simp[Tryz.ntmps120]) (ClA.of rfl) fun C hR hP hH hL=>?_
 refine Sm.bringR 1 118 0 (ha.mono hH) rfl rfl ?_
 refine Sm.bringR 2 118 1 (hb.mono hH) rfl rfl ?_
 have n1:(la.map Po.r).length=la.length:=List.length_map _
 have n2:(lb.map Po.r).length=lb.length:=List.length_map _
 rw[n1,n2]
 refine Sm.go 100 ?_
 have e0:((la.length:Int)!=(lb.length:Int))= !decide (la.length=lb.length):=by rw[Bool.eq_iff_iff,bne_iff_ne,Bool.not_eq_true',decide_eq_false_iff_not];omega
 simp(maxSteps:=2000000) only[go_sem,e0]
 cases hd:decide (la.length=lb.length)with
 |false=>
  have hd:=of_decide_eq_false hd
  have hef:e=false:=by
   cases h:e with
   |false=>rfl
   |true=>exact absurd (congrArg List.length (he.1 h)) hd
  subst hef
  refine vv ?_
  exact RetQ.bool (hR C hL) rfl ⟨rfl,trivial⟩ rfl
 |true=>
 have hd:=of_decide_eq_true hd
 refine vv ?_
 refine Sm.loopM (M0:=[]) (α:={i:Nat//i≤la.length∧la.take i=lb.take i}) hP (fun i=>[(0,true,.c (.sl 1 0 la.length 4)),(1,true,.c (.sl 2 0 lb.length 4)),(12,true,I la.length),(13,true,I i.val)])
  (fun _=>[(1,⟨true,rowsC (la.map Po.r),118⟩),(2,⟨true,rowsC (lb.map Po.r),118⟩)]) (fun i=>la.length-i.val) ⟨0,by omega,rfl⟩ (fun _=>ClM.of (by simp only[List.all_cons,inMV (rowsC_isV _),inMV (v_sC _),inMV (v_iC _)];rfl)) (fun _=>ClE.of rfl) [(1,1),(2,2)] ?_ ?_
 ·exact⟨rfl,trivial,⟨rfl,rfl,rfl,rfl,trivial⟩,⟨oV (renV (rowsC_isV _)),oV (renV (rowsC_isV _)),trivial⟩⟩
 rintro⟨i,hi,hx⟩ J hj
 simp only at hj hi hx⊢
 refine Sm.go 110 ?_
 refine vv ?_
 refine mtch (fun hc=>?_) (fun hc=>?_)
 ·have hc:=lt_of_dec hc
  have hcb:i<lb.length:=by omega
  have ga:=rows_take (r:=Po.r) (k:=4) (fun _=>rfl) la i hc
  have gb:=rows_take (r:=Po.r) (k:=4) (fun _=>rfl) lb i hcb
  have za:=rows_len (r:=Po.r) (k:=4) (fun _=>rfl) la
  have zb:=rows_len (r:=Po.r) (k:=4) (fun _=>rfl) lb
  have hne:la[i]≠lb[i]→e=false:=fun hq=>by
   cases h:e with
   |false=>rfl
   |true=>
    have:=he.1 h
    subst this
    exact absurd rfl hq
  have hnx:=take_eq_succ hc hcb hx
  generalize la[i]=x at*
  generalize lb[i]=y at*
  refine Sm.dg 110 8 mix ?_
  simp(maxSteps:=2000000) only[go_sem,ga,gb,za,zb,wS (show i≤1000000000000000000 by omega)]
  refine⟨⟨by omega,by omega⟩,by omega,⟨by omega,by omega⟩,by omega,?_⟩
  refine mtch (fun hq=>?_) (fun hq=>?_)
  ·have hxy:x≠y:=by
    rintro rfl
    simp at hq
   have hef:=hne hxy
   subst hef
   exact RetQ.bool (hR C hL) rfl ⟨rfl,trivial⟩ rfl
  ·have hxy:x=y:=by
    obtain⟨x0,x1,x2,x3⟩:=x
    obtain⟨y0,y1,y2,y3⟩:=y
    simp at hq
    simp[hq]
   exact hj _ _ ⟨i+1,hc,hnx hxy⟩ [(1,1),(2,2)] (by simp only;omega) ⟨rfl,trivial,⟨rfl,rfl,rfl,rfl,trivial⟩,⟨oV (renV (rowsC_isV _)),oV (renV (rowsC_isV _)),trivial⟩⟩
 ·have hc:=eq_of_dec hi hc
  subst hc
  have het:=he.2 (eq_of_take hx hd)
  subst het
  exact RetQ.bool (hR C hL) rfl ⟨rfl,trivial⟩ rfl
theorem eqG_st {H:Hp}(a b:Sv)(la lb:List Str)(ha:SlH H (vsl a la.length) 1 (strsR la))(hb:SlH H (vsl b lb.length) 1 (strsR lb))(hl:la.length≤1000000000000000)(e:Bool)(he:e=true↔la=lb):
  CallH H Tryz.prog 121 [.c (.v (vsl a la.length)),.c (.v (vsl b lb.length))] (Bo e):=by
 refine CallH.mkS Tryz.func121 rfl en121 (by simp[Tryz.ntmps121]) (ClA.of rfl) fun C hR hP hH hL=>?_
 refine Sm.bringS 1 9 0 (ha.mono hH) rfl rfl ?_
 refine Sm.bringS 2 9 1 (hb.mono hH) rfl rfl ?_
 refine Sm.go 100 ?_
 have e0:((la.length:Int)!=(lb.length:Int))= !decide (la.length=lb.length):=by rw[Bool.eq_iff_iff,bne_iff_ne,Bool.not_eq_true',decide_eq_false_iff_not];omega
 simp(maxSteps:=2000000) only[go_sem,e0]
 cases hd:decide (la.length=lb.length)with
 |false=>
  have hd:=of_decide_eq_false hd
  have hef:e=false:=by
   cases h:e with
   |false=>rfl
   |true=>exact absurd (congrArg List.length (he.1 h)) hd
  subst hef
  refine vv ?_
  exact RetQ.bool (hR C hL) rfl ⟨rfl,trivial⟩ rfl
 |true=>
 have hd:=of_decide_eq_true hd
 refine vv ?_
 refine Sm.loopM (M0:=[]) (α:={i:Nat//i≤la.length∧la.take i=lb.take i}) hP (fun i=>[(0,true,.c (.sl 1 0 la.length 1)),(1,true,.c (.sl 2 0 lb.length 1)),(12,true,I la.length),(13,true,I i.val)])
  (fun _=>[(1,⟨true,la.map sC,9⟩),(2,⟨true,lb.map sC,9⟩)]) (fun i=>la.length-i.val) ⟨0,by omega,rfl⟩ (fun _=>ClM.of (by simp only[List.all_cons,inMV (rowsC_isV _),inMV (v_sC _),inMV (v_iC _)];rfl)) (fun _=>ClE.of rfl) [(1,1),(2,2)] ?_ ?_
 ·exact⟨rfl,trivial,⟨rfl,rfl,rfl,rfl,trivial⟩,⟨oV (renV (v_sC _)),oV (renV (v_sC _)),trivial⟩⟩
 rintro⟨i,hi,hx⟩ J hj
 simp only at hj hi hx⊢
 refine Sm.go 110 ?_
 refine vv ?_
 refine mtch (fun hc=>?_) (fun hc=>?_)
 ·have hc:=lt_of_dec hc
  have hcb:i<lb.length:=by omega
  have ga:=get_sC hc
  have gb:=get_sC hcb
  have hne:la[i]≠lb[i]→e=false:=fun hq=>by
   cases h:e with
   |false=>rfl
   |true=>
    have:=he.1 h
    subst this
    exact absurd rfl hq
  have hnx:=take_eq_succ hc hcb hx
  generalize la[i]=x at*
  generalize lb[i]=y at*
  refine Sm.dg 110 8 mix ?_
  simp(maxSteps:=2000000) only[go_sem,ga,gb,wS (show i≤1000000000000000000 by omega)]
  refine⟨⟨by omega,by omega⟩,⟨by omega,by omega⟩,?_⟩
  refine mtch (fun hq=>?_) (fun hq=>?_)
  ·have hxy:x≠y:=by
    rintro rfl
    simp at hq
   have hef:=hne hxy
   subst hef
   exact RetQ.bool (hR C hL) rfl ⟨rfl,trivial⟩ rfl
  ·have hxy:x=y:=by
    simpa using hq
   exact hj _ _ ⟨i+1,hc,hnx hxy⟩ [(1,1),(2,2)] (by simp only;omega) ⟨rfl,trivial,⟨rfl,rfl,rfl,rfl,trivial⟩,⟨oV (renV (v_sC _)),oV (renV (v_sC _)),trivial⟩⟩
 ·have hc:=eq_of_dec hi hc
  subst hc
  have het:=he.2 (eq_of_take hx hd)
  subst het
  exact RetQ.bool (hR C hL) rfl ⟨rfl,trivial⟩ rfl
theorem eqG_in {H:Hp}(a b:Sv)(la lb:List Int)(ha:SlH H (vsl a la.length) 1 (intsR la))(hb:SlH H (vsl b lb.length) 1 (intsR lb))(hl:la.length≤1000000000000000)(e:Bool)(he:e=true↔la=lb):
  CallH H Tryz.prog 39 [.c (.v (vsl a la.length)),.c (.v (vsl b lb.length))] (Bo e):=by
 refine CallH.mkS Tryz.func39 rfl en39 (by simp[Tryz.ntmps39]) (ClA.of rfl) fun C hR hP hH hL=>?_
 refine Sm.bringI 1 3 0 (ha.mono hH) rfl rfl ?_
 refine Sm.bringI 2 3 1 (hb.mono hH) rfl rfl ?_
 refine Sm.go 100 ?_
 have e0:((la.length:Int)!=(lb.length:Int))= !decide (la.length=lb.length):=by rw[Bool.eq_iff_iff,bne_iff_ne,Bool.not_eq_true',decide_eq_false_iff_not];omega
 simp(maxSteps:=2000000) only[go_sem,e0]
 cases hd:decide (la.length=lb.length)with
 |false=>
  have hd:=of_decide_eq_false hd
  have hef:e=false:=by
   cases h:e with
   |false=>rfl
   |true=>exact absurd (congrArg List.length (he.1 h)) hd
  subst hef
  refine vv ?_
  exact RetQ.bool (hR C hL) rfl ⟨rfl,trivial⟩ rfl
 |true=>
 have hd:=of_decide_eq_true hd
 refine vv ?_
 refine Sm.loopM (M0:=[]) (α:={i:Nat//i≤la.length∧la.take i=lb.take i}) hP (fun i=>[(0,true,.c (.sl 1 0 la.length 1)),(1,true,.c (.sl 2 0 lb.length 1)),(12,true,I la.length),(13,true,I i.val)])
  (fun _=>[(1,⟨true,la.map iC,3⟩),(2,⟨true,lb.map iC,3⟩)]) (fun i=>la.length-i.val) ⟨0,by omega,rfl⟩ (fun _=>ClM.of (by simp only[List.all_cons,inMV (rowsC_isV _),inMV (v_sC _),inMV (v_iC _)];rfl)) (fun _=>ClE.of rfl) [(1,1),(2,2)] ?_ ?_
 ·exact⟨rfl,trivial,⟨rfl,rfl,rfl,rfl,trivial⟩,⟨oV (renV (v_iC _)),oV (renV (v_iC _)),trivial⟩⟩
 rintro⟨i,hi,hx⟩ J hj
 simp only at hj hi hx⊢
 refine Sm.go 110 ?_
 refine vv ?_
 refine mtch (fun hc=>?_) (fun hc=>?_)
 ·have hc:=lt_of_dec hc
  have hcb:i<lb.length:=by omega
  have ga:=get_iC hc
  have gb:=get_iC hcb
  have hne:la[i]≠lb[i]→e=false:=fun hq=>by
   cases h:e with
   |false=>rfl
   |true=>
    have:=he.1 h
    subst this
    exact absurd rfl hq
  have hnx:=take_eq_succ hc hcb hx
  generalize la[i]=x at*
  generalize lb[i]=y at*
  refine Sm.dg 110 8 mix ?_
  simp(maxSteps:=2000000) only[go_sem,ga,gb,wS (show i≤1000000000000000000 by omega)]
  refine⟨⟨by omega,by omega⟩,⟨by omega,by omega⟩,?_⟩
  refine mtch (fun hq=>?_) (fun hq=>?_)
  ·have hxy:x≠y:=by
    rintro rfl
    simp at hq
   have hef:=hne hxy
   subst hef
   exact RetQ.bool (hR C hL) rfl ⟨rfl,trivial⟩ rfl
  ·have hxy:x=y:=by
    simpa using hq
   exact hj _ _ ⟨i+1,hc,hnx hxy⟩ [(1,1),(2,2)] (by simp only;omega) ⟨rfl,trivial,⟨rfl,rfl,rfl,rfl,trivial⟩,⟨oV (renV (v_iC _)),oV (renV (v_iC _)),trivial⟩⟩
 ·have hc:=eq_of_dec hi hc
  subst hc
  have het:=he.2 (eq_of_take hx hd)
  subst het
  exact RetQ.bool (hR C hL) rfl ⟨rfl,trivial⟩ rfl
def eqlB {α:Type}(p:α→α→Bool)(la lb:List α):Bool:=decide (la.length=lb.length)&&(la.zip lb).all fun q=>p q.1 q.2
theorem zip_drop {α:Type}{la lb:List α}{i:Nat}(ha:i<la.length)(hb:i<lb.length):(la.zip lb).drop i=(la[i],lb[i])::(la.zip lb).drop (i+1):=by
 rw[List.drop_eq_getElem_cons (by rw[List.length_zip];omega),List.getElem_zip]
theorem eqF_bl {H:Hp}(a b:Sv)(la lb:List BlL)(ha:SlH H (vsl a la.length) 6 (la.map BlL.r))(hb:SlH H (vsl b lb.length) 6 (lb.map BlL.r))(hl:la.length≤1000000000000000)(g:FuncId)(p:BlL→BlL→Bool)
  (hg:∀x,x∈la→∀y,y∈lb→CallH H Tryz.prog g [rowV x.r,rowV y.r] (Bo (p x y))):
  CallH H Tryz.prog 122 [.c (.v (vsl a la.length)),.c (.v (vsl b lb.length)),Fv g #[]] (Bo (eqlB p la lb)):=by
 refine CallH.mkS Tryz.func122 rfl en122 (by simp[Tryz.ntmps122]) (ClA.of rfl) fun C hR hP hH hL=>?_
 refine Sm.bringR 1 82 0 (ha.mono hH) rfl rfl ?_
 refine Sm.bringR 2 82 1 (hb.mono hH) rfl rfl ?_
 have n1:(la.map BlL.r).length=la.length:=List.length_map _
 have n2:(lb.map BlL.r).length=lb.length:=List.length_map _
 rw[n1,n2]
 refine Sm.go 100 ?_
 have e0:((la.length:Int)!=(lb.length:Int))= !decide (la.length=lb.length):=by rw[Bool.eq_iff_iff,bne_iff_ne,Bool.not_eq_true',decide_eq_false_iff_not];omega
 simp(maxSteps:=2000000) only[go_sem,e0]
 unfold eqlB at hR
 cases hd:decide (la.length=lb.length)with
 |false=>
  rw[hd]at hR
  refine vv ?_
  exact RetQ.bool (hR C hL) rfl ⟨rfl,trivial⟩ rfl
 |true=>
 rw[hd,Bool.true_and]at hR
 have hd:=of_decide_eq_true hd
 refine vv ?_
 refine Sm.loopM (M0:=[]) (α:={i:Nat//i≤la.length∧((la.zip lb).all fun q=>p q.1 q.2)=((la.zip lb).drop i).all fun q=>p q.1 q.2}) hP (fun i=>[(1,true,.c (.sl 2 0 lb.length 6)),(2,true,Fv g #[]),(15,true,.c (.sl 1 0 la.length 6)),(16,true,I la.length),(17,true,I i.val)])
  (fun _=>[(1,⟨true,rowsC (la.map BlL.r),82⟩),(2,⟨true,rowsC (lb.map BlL.r),82⟩)]) (fun i=>la.length-i.val) ⟨0,by omega,rfl⟩ (fun _=>ClM.v (by simp only[List.all_cons,rowsC_isV];rfl)) (fun _=>ClE.of rfl) [(1,1),(2,2)] ?_ ?_
 ·exact⟨rfl,trivial,⟨rfl,rfl,rfl,rfl,rfl,trivial⟩,⟨oV (renV (rowsC_isV _)),oV (renV (rowsC_isV _)),trivial⟩⟩
 rintro⟨i,hi,hx⟩ J hj
 simp only at hj hi hx⊢
 refine Sm.go 110 ?_
 refine vv ?_
 refine mtch (fun hc=>?_) (fun hc=>?_)
 ·have hc:=lt_of_dec hc
  have hcb:i<lb.length:=by omega
  have ga:=rows_take (r:=BlL.r) (k:=6) (fun _=>rfl) la i hc
  have gb:=rows_take (r:=BlL.r) (k:=6) (fun _=>rfl) lb i hcb
  have za:=rows_len (r:=BlL.r) (k:=6) (fun _=>rfl) la
  have zb:=rows_len (r:=BlL.r) (k:=6) (fun _=>rfl) lb
  rw[zip_drop hc hcb,List.all_cons]at hx
  have hgx:=hg _ (List.getElem_mem hc) _ (List.getElem_mem hcb)
  generalize la[i]=x at*
  generalize lb[i]=y at*
  simp(maxSteps:=2000000) only[go_sem,ga,gb,za,zb]
  refine⟨⟨by omega,by omega⟩,by omega,⟨by omega,by omega⟩,by omega,?_⟩
  refine CallQ.h 120 hgx hH rfl ?_
  cases hp:p x y with
  |false=>
   rw[hp,Bool.false_and]at hx
   refine vv ?_
   exact RetQ.bool (hR C hL) rfl ⟨rfl,trivial⟩ hx.symm
  |true=>
   rw[hp,Bool.true_and]at hx
   simp(maxSteps:=2000000) only[go_sem,wS (show i≤1000000000000000000 by omega)]
   exact hj _ _ ⟨i+1,hc,hx⟩ [(1,1),(2,2)] (by simp only;omega) ⟨rfl,trivial,⟨rfl,rfl,rfl,rfl,rfl,trivial⟩,⟨oV (renV (rowsC_isV _)),oV (renV (rowsC_isV _)),trivial⟩⟩
 ·have hc:=eq_of_dec hi hc
  have:(la.zip lb).drop i=[]:=List.drop_eq_nil_of_le (by rw[List.length_zip];omega)
  rw[this]at hx
  exact RetQ.bool (hR C hL) rfl ⟨rfl,trivial⟩ hx.symm
theorem eqF_cu {H:Hp}(a b:Sv)(la lb:List CuL)(ha:SlH H (vsl a la.length) 3 (la.map CuL.r))(hb:SlH H (vsl b lb.length) 3 (lb.map CuL.r))(hl:la.length≤1000000000000000)(g:FuncId)(p:CuL→CuL→Bool)
  (hg:∀x,x∈la→∀y,y∈lb→CallH H Tryz.prog g [rowV x.r,rowV y.r] (Bo (p x y))):
  CallH H Tryz.prog 124 [.c (.v (vsl a la.length)),.c (.v (vsl b lb.length)),Fv g #[]] (Bo (eqlB p la lb)):=by
 refine CallH.mkS Tryz.func124 rfl en124 (by simp[Tryz.ntmps124]) (ClA.of rfl) fun C hR hP hH hL=>?_
 refine Sm.bringR 1 110 0 (ha.mono hH) rfl rfl ?_
 refine Sm.bringR 2 110 1 (hb.mono hH) rfl rfl ?_
 have n1:(la.map CuL.r).length=la.length:=List.length_map _
 have n2:(lb.map CuL.r).length=lb.length:=List.length_map _
 rw[n1,n2]
 refine Sm.go 100 ?_
 have e0:((la.length:Int)!=(lb.length:Int))= !decide (la.length=lb.length):=by rw[Bool.eq_iff_iff,bne_iff_ne,Bool.not_eq_true',decide_eq_false_iff_not];omega
 simp(maxSteps:=2000000) only[go_sem,e0]
 unfold eqlB at hR
 cases hd:decide (la.length=lb.length)with
 |false=>
  rw[hd]at hR
  refine vv ?_
  exact RetQ.bool (hR C hL) rfl ⟨rfl,trivial⟩ rfl
 |true=>
 rw[hd,Bool.true_and]at hR
 have hd:=of_decide_eq_true hd
 refine vv ?_
 refine Sm.loopM (M0:=[]) (α:={i:Nat//i≤la.length∧((la.zip lb).all fun q=>p q.1 q.2)=((la.zip lb).drop i).all fun q=>p q.1 q.2}) hP (fun i=>[(1,true,.c (.sl 2 0 lb.length 3)),(2,true,Fv g #[]),(15,true,.c (.sl 1 0 la.length 3)),(16,true,I la.length),(17,true,I i.val)])
  (fun _=>[(1,⟨true,rowsC (la.map CuL.r),110⟩),(2,⟨true,rowsC (lb.map CuL.r),110⟩)]) (fun i=>la.length-i.val) ⟨0,by omega,rfl⟩ (fun _=>ClM.v (by simp only[List.all_cons,rowsC_isV];rfl)) (fun _=>ClE.of rfl) [(1,1),(2,2)] ?_ ?_
 ·exact⟨rfl,trivial,⟨rfl,rfl,rfl,rfl,rfl,trivial⟩,⟨oV (renV (rowsC_isV _)),oV (renV (rowsC_isV _)),trivial⟩⟩
 rintro⟨i,hi,hx⟩ J hj
 simp only at hj hi hx⊢
 refine Sm.go 110 ?_
 refine vv ?_
 refine mtch (fun hc=>?_) (fun hc=>?_)
 ·have hc:=lt_of_dec hc
  have hcb:i<lb.length:=by omega
  have ga:=rows_take (r:=CuL.r) (k:=3) (fun _=>rfl) la i hc
  have gb:=rows_take (r:=CuL.r) (k:=3) (fun _=>rfl) lb i hcb
  have za:=rows_len (r:=CuL.r) (k:=3) (fun _=>rfl) la
  have zb:=rows_len (r:=CuL.r) (k:=3) (fun _=>rfl) lb
  rw[zip_drop hc hcb,List.all_cons]at hx
  have hgx:=hg _ (List.getElem_mem hc) _ (List.getElem_mem hcb)
  generalize la[i]=x at*
  generalize lb[i]=y at*
  simp(maxSteps:=2000000) only[go_sem,ga,gb,za,zb]
  refine⟨⟨by omega,by omega⟩,by omega,⟨by omega,by omega⟩,by omega,?_⟩
  refine CallQ.h 120 hgx hH rfl ?_
  cases hp:p x y with
  |false=>
   rw[hp,Bool.false_and]at hx
   refine vv ?_
   exact RetQ.bool (hR C hL) rfl ⟨rfl,trivial⟩ hx.symm
  |true=>
   rw[hp,Bool.true_and]at hx
   simp(maxSteps:=2000000) only[go_sem,wS (show i≤1000000000000000000 by omega)]
   exact hj _ _ ⟨i+1,hc,hx⟩ [(1,1),(2,2)] (by simp only;omega) ⟨rfl,trivial,⟨rfl,rfl,rfl,rfl,rfl,trivial⟩,⟨oV (renV (rowsC_isV _)),oV (renV (rowsC_isV _)),trivial⟩⟩
 ·have hc:=eq_of_dec hi hc
  have:(la.zip lb).drop i=[]:=List.drop_eq_nil_of_le (by rw[List.length_zip];omega)
  rw[this]at hx
  exact RetQ.bool (hR C hL) rfl ⟨rfl,trivial⟩ hx.symm
theorem eqF_ma {H:Hp}(a b:Sv)(la lb:List MpL)(ha:SlH H (vsl a la.length) 4 (la.map MpL.r))(hb:SlH H (vsl b lb.length) 4 (lb.map MpL.r))(hl:la.length≤1000000000000000)(g:FuncId)(p:MpL→MpL→Bool)
  (hg:∀x,x∈la→∀y,y∈lb→CallH H Tryz.prog g [rowV x.r,rowV y.r] (Bo (p x y))):
  CallH H Tryz.prog 126 [.c (.v (vsl a la.length)),.c (.v (vsl b lb.length)),Fv g #[]] (Bo (eqlB p la lb)):=by
 refine CallH.mkS Tryz.func126 rfl en126 (by simp[Tryz.ntmps126]) (ClA.of rfl) fun C hR hP hH hL=>?_
 refine Sm.bringR 1 115 0 (ha.mono hH) rfl rfl ?_
 refine Sm.bringR 2 115 1 (hb.mono hH) rfl rfl ?_
 have n1:(la.map MpL.r).length=la.length:=List.length_map _
 have n2:(lb.map MpL.r).length=lb.length:=List.length_map _
 rw[n1,n2]
 refine Sm.go 100 ?_
 have e0:((la.length:Int)!=(lb.length:Int))= !decide (la.length=lb.length):=by rw[Bool.eq_iff_iff,bne_iff_ne,Bool.not_eq_true',decide_eq_false_iff_not];omega
 simp(maxSteps:=2000000) only[go_sem,e0]
 unfold eqlB at hR
 cases hd:decide (la.length=lb.length)with
 |false=>
  rw[hd]at hR
  refine vv ?_
  exact RetQ.bool (hR C hL) rfl ⟨rfl,trivial⟩ rfl
 |true=>
 rw[hd,Bool.true_and]at hR
 have hd:=of_decide_eq_true hd
 refine vv ?_
 refine Sm.loopM (M0:=[]) (α:={i:Nat//i≤la.length∧((la.zip lb).all fun q=>p q.1 q.2)=((la.zip lb).drop i).all fun q=>p q.1 q.2}) hP (fun i=>[(1,true,.c (.sl 2 0 lb.length 4)),(2,true,Fv g #[]),(15,true,.c (.sl 1 0 la.length 4)),(16,true,I la.length),(17,true,I i.val)])
  (fun _=>[(1,⟨true,rowsC (la.map MpL.r),115⟩),(2,⟨true,rowsC (lb.map MpL.r),115⟩)]) (fun i=>la.length-i.val) ⟨0,by omega,rfl⟩ (fun _=>ClM.v (by simp only[List.all_cons,rowsC_isV];rfl)) (fun _=>ClE.of rfl) [(1,1),(2,2)] ?_ ?_
 ·exact⟨rfl,trivial,⟨rfl,rfl,rfl,rfl,rfl,trivial⟩,⟨oV (renV (rowsC_isV _)),oV (renV (rowsC_isV _)),trivial⟩⟩
 rintro⟨i,hi,hx⟩ J hj
 simp only at hj hi hx⊢
 refine Sm.go 110 ?_
 refine vv ?_
 refine mtch (fun hc=>?_) (fun hc=>?_)
 ·have hc:=lt_of_dec hc
  have hcb:i<lb.length:=by omega
  have ga:=rows_take (r:=MpL.r) (k:=4) (fun _=>rfl) la i hc
  have gb:=rows_take (r:=MpL.r) (k:=4) (fun _=>rfl) lb i hcb
  have za:=rows_len (r:=MpL.r) (k:=4) (fun _=>rfl) la
  have zb:=rows_len (r:=MpL.r) (k:=4) (fun _=>rfl) lb
  rw[zip_drop hc hcb,List.all_cons]at hx
  have hgx:=hg _ (List.getElem_mem hc) _ (List.getElem_mem hcb)
  generalize la[i]=x at*
  generalize lb[i]=y at*
  simp(maxSteps:=2000000) only[go_sem,ga,gb,za,zb]
  refine⟨⟨by omega,by omega⟩,by omega,⟨by omega,by omega⟩,by omega,?_⟩
  refine CallQ.h 120 hgx hH rfl ?_
  cases hp:p x y with
  |false=>
   rw[hp,Bool.false_and]at hx
   refine vv ?_
   exact RetQ.bool (hR C hL) rfl ⟨rfl,trivial⟩ hx.symm
  |true=>
   rw[hp,Bool.true_and]at hx
   simp(maxSteps:=2000000) only[go_sem,wS (show i≤1000000000000000000 by omega)]
   exact hj _ _ ⟨i+1,hc,hx⟩ [(1,1),(2,2)] (by simp only;omega) ⟨rfl,trivial,⟨rfl,rfl,rfl,rfl,rfl,trivial⟩,⟨oV (renV (rowsC_isV _)),oV (renV (rowsC_isV _)),trivial⟩⟩
 ·have hc:=eq_of_dec hi hc
  have:(la.zip lb).drop i=[]:=List.drop_eq_nil_of_le (by rw[List.length_zip];omega)
  rw[this]at hx
  exact RetQ.bool (hR C hL) rfl ⟨rfl,trivial⟩ hx.symm
def bEq (x y:Bl):Bool:=x.nm==y.nm&&(x.kd==y.kd&&(x.ty==y.ty&&(x.tb==y.tb&&(decide (x.ins=y.ins)&&decide (x.ks=y.ks)))))
def cEq (x y:Cu):Bool:=x.nm==y.nm&&(decide (x.xs=y.xs)&&decide (x.ys=y.ys))
def mEq (x y:Mp):Bool:=x.nm==y.nm&&mtX x.xs x.ys x.zs==mtX y.xs y.ys y.zs
theorem eqBl_ {H:Hp}(a b:BlL)(ha:a.ok H)(hb:b.ok H)(h1:a.c.ins.length≤1000000000000000)(h2:a.c.ks.length≤1000000000000000):CallH H Tryz.prog 123 [rowV a.r,rowV b.r] (Bo (bEq a.c b.c)):=by
 have q1:=eqG_st (H:=H) a.i b.i a.c.ins b.c.ins ha.i hb.i h1 (decide (a.c.ins=b.c.ins)) decide_eq_true_iff
 have q2:=eqG_in (H:=H) a.k b.k a.c.ks b.c.ks ha.k hb.k h2 (decide (a.c.ks=b.c.ks)) decide_eq_true_iff
 refine CallH.mkS Tryz.func123 rfl en123 (by simp[Tryz.ntmps123]) (ClA.of rfl) fun C hR hP hH hL=>?_
 refine Sm.go 100 ?_
 refine vv ?_
 refine CallQ.hg 110 (fun _=>q1) hH (fun h=>by rw[h];rfl) ?_
 refine vv ?_
 refine CallQ.hg 120 (fun _=>q2) hH (fun h=>by rw[h];rfl) ?_
 refine vv ?_
 refine RetQ.bool (hR C hL) rfl ⟨rfl,trivial⟩ ?_
 unfold bEq
 cases a.c.nm==b.c.nm<;>cases a.c.kd==b.c.kd<;>cases a.c.ty==b.c.ty<;>cases a.c.tb==b.c.tb<;>cases decide (a.c.ins=b.c.ins)<;>rfl
theorem eqCu_ {H:Hp}(a b:CuL)(ha:a.ok H)(hb:b.ok H)(h1:a.c.xs.length≤1000000000000000)(h2:a.c.ys.length≤1000000000000000):CallH H Tryz.prog 125 [rowV a.r,rowV b.r] (Bo (cEq a.c b.c)):=by
 have q1:=eqG_in (H:=H) a.x b.x a.c.xs b.c.xs ha.x hb.x h1 (decide (a.c.xs=b.c.xs)) decide_eq_true_iff
 have q2:=eqG_in (H:=H) a.y b.y a.c.ys b.c.ys ha.y hb.y h2 (decide (a.c.ys=b.c.ys)) decide_eq_true_iff
 refine CallH.mkS Tryz.func125 rfl en125 (by simp[Tryz.ntmps125]) (ClA.of rfl) fun C hR hP hH hL=>?_
 refine Sm.go 100 ?_
 refine vv ?_
 refine CallQ.hg 110 (fun _=>q1) hH (fun h=>by rw[h];rfl) ?_
 refine vv ?_
 refine CallQ.hg 120 (fun _=>q2) hH (fun h=>by rw[h];rfl) ?_
 refine vv ?_
 refine RetQ.bool (hR C hL) rfl ⟨rfl,trivial⟩ ?_
 unfold cEq
 cases a.c.nm==b.c.nm<;>cases decide (a.c.xs=b.c.xs)<;>rfl
theorem eqMa_ {H:Hp}(hW:PwR H)(a b:MpL)(ha:a.ok H)(hb:b.ok H)(va:maOk a.xs a.ys (a.zs.map (·.2))=true)(vb:maOk b.xs b.ys (b.zs.map (·.2))=true):CallH H Tryz.prog 127 [rowV a.r,rowV b.r] (Bo (mEq a.c b.c)):=by
 have q1:=stext_ (H:=H) hW a ha va
 have q2:=stext_ (H:=H) hW b hb vb
 refine CallH.mkS Tryz.func127 rfl en127 (by simp[Tryz.ntmps127]) (ClA.of rfl) fun C hR hP hH hL=>?_
 refine Sm.go 100 ?_
 refine vv ?_
 refine Sm.dg 110 11 mix ?_
 refine vv ?_
 refine DCallQ.h 120 (fun _=>q1) hH (fun h=>by rw[h];rfl) ?_
 refine vv ?_
 refine CallQ.hg 130 (fun _=>q2) hH (fun h=>by rw[h];rfl) ?_
 refine vv ?_
 refine RetQ.bool (hR C hL) rfl ⟨rfl,trivial⟩ ?_
 unfold mEq
 have e1:a.c.nm=a.nm:=rfl
 have e2:b.c.nm=b.nm:=rfl
 rw[e1,e2]
 cases a.nm==b.nm<;>rfl
end Go.Proofs.YtlnpgbnhcondjaaGreatDoor.Fx
