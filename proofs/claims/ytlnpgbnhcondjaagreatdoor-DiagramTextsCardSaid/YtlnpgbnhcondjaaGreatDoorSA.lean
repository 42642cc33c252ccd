/-  -/
import Derived.Test.YtlnpgbnhcondjaaGreatDoorTf
import Derived.Test.YtlnpgbnhcondjaaGreatDoorY0
import Derived.Test.YtlnpgbnhcondjaaGreatDoorRW
import Derived.Test.YtlnpgbnhcondjaaGreatDoorU6
import Derived.Test.YtlnpgbnhcondjaaGreatDoorU8
namespace Go.Proofs.YtlnpgbnhcondjaaGreatDoor.Fx
open Vg Tf
set_option linter.unusedSimpArgs false
set_option linter.unusedVariables false
set_option maxRecDepth 100000
set_option maxHeartbeats 4000000
theorem rFits_ (n:Int):CallOk Tryz.prog 200 [I n] [] (Bo (nearB n)) []:=by
 refine CallOk.mkN 100 Tryz.func200 rfl en200 (by simp[Tryz.ntmps200]) (ClA.of rfl) rfl rfl fun C hR hP=>?_
 refine vv ?_
 refine RetQ.bool hR rfl ⟨rfl,trivial⟩ ?_
 unfold nearB
 rw[band_,Bool.eq_iff_iff]
 simp only[Bool.and_eq_true,decide_eq_true_eq]
theorem rfar_ (n:Int):CallOk Tryz.prog 202 [I n] [] (Bo (!nearB n)) []:=by
 refine CallOk.mkN 100 Tryz.func202 rfl en202 (by simp[Tryz.ntmps202]) (ClA.of rfl) rfl rfl fun C hR hP=>?_
 refine vv ?_
 refine RetQ.bool hR rfl ⟨rfl,trivial⟩ ?_
 unfold nearB
 rw[bor_,←Bool.not_inj_iff,Bool.not_not,Bool.not_or,←decide_not,←decide_not,Bool.eq_iff_iff]
 simp only[Bool.and_eq_true,decide_eq_true_eq];omega
theorem rnum_ (n:Int):CallOk Tryz.prog 95 [I n] [] (Bo (fitB n)) []:=by
 refine CallOk.mkN 100 Tryz.func95 rfl en95 (by simp[Tryz.ntmps95]) (ClA.of rfl) rfl rfl fun C hR hP=>?_
 refine vv ?_
 refine RetQ.bool hR rfl ⟨rfl,trivial⟩ ?_
 unfold fitB
 rw[band_,Bool.eq_iff_iff]
 simp only[Bool.and_eq_true,decide_eq_true_eq]
theorem rType_ (t:Ft):CallOk Tryz.prog 92 [fx t] [] (Bo (fok t)) []:=by
 refine CallOk.mkN 100 Tryz.func92 rfl en92 (by simp[Tryz.ntmps92]) (ClA.of rfl) rfl rfl fun C hR hP=>?_
 refine vv ?_
 refine CallQ.guard 110 (fun _=>rValid ⟨t.m,t.kg,t.s,t.a,t.k⟩) (fun h=>by rw[h];rfl) ?_
 refine vv ?_
 refine RetQ.bool hR rfl ⟨rfl,trivial⟩ ?_
 unfold fok uokU
 rw[Bool.eq_iff_iff]
 simp only[band_,bor_,Bool.and_eq_true,Bool.or_eq_true,decide_eq_true_eq,beq_iff_eq,and_assoc,or_assoc]
theorem rnames_ {H:Hp}(s:Sv)(l:List Str)(hs:SlH H (vsl s l.length) 1 (strsR l))(hl:l.length≤1000000000000000)(h6:∀x∈l,x.length≤1000000000000000):CallH H Tryz.prog 97 [.c (.v (vsl s l.length))] (Bo (l.all nmOk)):=by
 refine CallH.mkS Tryz.func97 rfl en97 (by simp[Tryz.ntmps97]) (ClA.of rfl) fun C hR hP hH hL=>?_
 refine Sm.bringS 1 9 0 (hs.mono hH) rfl rfl ?_
 refine Sm.go 100 ?_
 refine vv ?_
 refine Sm.loopM (M0:=[]) (α:={i:Nat//i≤l.length∧l.all nmOk=(l.drop i).all nmOk}) hP (fun i=>[(0,true,.c (.sl 1 0 l.length 1)),(3,true,I i.val)]) (fun _=>[(1,⟨true,l.map sC,9⟩)]) (fun i=>l.length-i.val) ⟨0,by omega,rfl⟩ (fun _=>ClM.of (by simp only[List.all_cons,inMV (v_sC _)];rfl)) (fun _=>ClE.of rfl) [(1,1)] ?_ ?_
 ·exact⟨rfl,trivial,⟨rfl,rfl,trivial⟩,⟨oV (renV (v_sC _)),trivial⟩⟩
 rintro⟨i,hi,hx⟩ J hb
 simp only at hb hi hx⊢
 refine Sm.go 120 ?_
 refine vv ?_
 refine mtch (fun hc=>?_) (fun hc=>?_)
 ·have hc:=lt_of_dec hc
  rw[List.drop_eq_getElem_cons hc,List.all_cons]at hx
  simp(maxSteps:=2000000) only[go_sem,get_sC hc]
  refine⟨⟨by omega,by omega⟩,?_⟩
  refine CallQ.pure 130 (rName_ l[i] (h6 _ (List.getElem_mem hc))) rfl ?_
  cases h5:nmOk l[i]with
  |false=>
   rw[h5]at hx
   refine vv ?_
   exact RetQ.bool (hR C hL) rfl ⟨rfl,trivial⟩ (by rw[hx];rfl)
  |true=>
   rw[h5,Bool.true_and]at hx
   simp(maxSteps:=2000000) only[go_sem,wS (show i≤1000000000000000000 by omega)]
   exact hb _ _ ⟨i+1,hc,hx⟩ [(1,1)] (by simp only;omega) ⟨rfl,trivial,⟨rfl,rfl,trivial⟩,⟨oV (renV (v_sC _)),trivial⟩⟩
 ·have hc:=eq_of_dec hi hc
  rw[hc,List.drop_length]at hx
  exact RetQ.bool (hR C hL) rfl ⟨rfl,trivial⟩ (by rw[hx];rfl)
theorem rAxis5_ {H:Hp}(s:Sv)(l:List Int)(hs:SlH H (vsl s l.length) 1 (intsR l)):CallH H Tryz.prog 199 [.c (.v (vsl s l.length))] (Bo (axOk l)):=by
 have e1:decide ((l.length:Int)<2)= !decide (2≤l.length):=by rw[←decide_not,decide_eq_decide];omega
 have e2:decide ((32:Int)<(l.length:Int))= !decide (l.length≤32):=by rw[←decide_not,decide_eq_decide];omega
 have hax:axOk l=((decide (2≤l.length)&&decide (l.length≤32))&&axG none l):=by unfold axOk;rw[axG_none,Bool.decide_and]
 rw[hax]
 refine CallH.mkS Tryz.func199 rfl en199 (by simp[Tryz.ntmps199]) (ClA.of rfl) fun C hR hP hH hL=>?_
 refine Sm.go 100 ?_
 simp(maxSteps:=2000000) only[go_sem,e1,e2]
 cases h1:decide (2≤l.length)with
 |false=>
  rw[h1]at hR
  refine vv ?_
  exact RetQ.bool (hR C hL) rfl ⟨rfl,trivial⟩ rfl
 |true=>
 cases h2:decide (l.length≤32)with
 |false=>
  rw[h1,h2]at hR
  refine vv ?_
  exact RetQ.bool (hR C hL) rfl ⟨rfl,trivial⟩ rfl
 |true=>
 rw[h1,h2]at hR
 simp only[decide_eq_true_eq]at h1 h2
 refine vv ?_
 refine Sm.bringI 1 3 0 (hs.mono hH) rfl rfl ?_
 refine Sm.loopM (M0:=[]) (α:={i:Nat//i≤l.length∧axG none l=axG (prv l i) (l.drop i)}) hP (fun i=>[(0,true,.c (.sl 1 0 l.length 1)),(3,true,I i.val)]) (fun _=>[(1,⟨true,l.map iC,3⟩)]) (fun i=>l.length-i.val) ⟨0,by omega,rfl⟩ (fun _=>ClM.of (by simp only[List.all_cons,inMV (v_iC _)];rfl)) (fun _=>ClE.of rfl) [(1,1)] ?_ ?_
 ·exact⟨rfl,trivial,⟨rfl,rfl,trivial⟩,⟨oV (renV (v_iC _)),trivial⟩⟩
 rintro⟨i,hi,hx⟩ J hb
 simp only at hb hi hx⊢
 refine Sm.go 120 ?_
 refine vv ?_
 refine mtch (fun hc=>?_) (fun hc=>?_)
 ·have hc:=lt_of_dec hc
  rw[List.drop_eq_getElem_cons hc,axG]at hx
  have e3:(l.map iC)[i]?=some (iC l[i]):=get_iC hc
  have w2:=wS (show i≤1000000000000000000 by omega)
  have hnext:axG none l=axG (some l[i]) (l.drop (i+1))→axG none l=axG (prv l (i+1)) (l.drop (i+1)):=fun h=>by
   rw[h,prv,if_neg (by omega),Nat.add_sub_cancel,List.getD_eq_getElem?_getD,List.getElem?_eq_getElem hc];rfl
  refine Sm.dg 130 19 mix ?_
  simp(maxSteps:=2000000) only[go_sem,e3]
  refine⟨⟨by omega,by omega⟩,?_⟩
  refine DCallQ.pure 140 (rFits_ l[i]) rfl ?_
  cases i with
  |zero=>
   cases h5:nearB l[0]with
   |false=>
    rw[h5]at hx
    simp(maxSteps:=2000000) only[go_sem,e3]
    refine⟨fun h=>absurd h (by decide),fun h=>absurd h (by decide),?_⟩
    exact RetQ.bool (hR C hL) rfl ⟨rfl,trivial⟩ (by rw[hx];rfl)
   |true=>
    rw[h5]at hx
    simp(maxSteps:=2000000) only[go_sem,e3]
    refine Sm.go 140 ?_
    simp(maxSteps:=2000000) only[go_sem,w2]
    exact hb _ _ ⟨1,by omega,hnext (by rw[hx];rfl)⟩ [(1,1)] (by simp only;omega) ⟨rfl,trivial,⟨rfl,rfl,trivial⟩,⟨oV (renV (v_iC _)),trivial⟩⟩
  |succ j=>
   have w3:IntKind.i64.wrap (((j+1:Nat):Int)-1)=(j:Int):=by rw[w64 (by omega) (by omega)];omega
   have e4:(l.map iC)[j]?=some (iC l[j]):=get_iC (by omega)
   have e6:decide ((0:Int)<((j+1:Nat):Int))=true:=tru_of (by omega)
   have hp:prv l (j+1)=some l[j]:=by
    rw[prv,if_neg (by omega),Nat.add_sub_cancel,List.getD_eq_getElem?_getD,List.getElem?_eq_getElem (by omega)];rfl
   rw[hp]at hx
   cases h5:nearB l[j+1]with
   |false=>
    rw[h5]at hx
    simp(maxSteps:=2000000) only[go_sem,w3,e3,e4,e6]
    exact RetQ.bool (hR C hL) rfl ⟨rfl,trivial⟩ (by rw[hx];rfl)
   |true=>
    rw[h5]at hx
    simp(maxSteps:=2000000) only[go_sem,w3,e3,e4,e6]
    refine⟨⟨by omega,by omega⟩,⟨by omega,by omega⟩,?_⟩
    refine mtch (fun hd=>?_) (fun hd=>?_)
    ·have hq:ltO (some l[j]) l[j+1]=false:=fal_of (by have:=of_decide_eq_true hd;omega)
     rw[hq]at hx
     exact RetQ.bool (hR C hL) rfl ⟨rfl,trivial⟩ (by rw[hx];rfl)
    ·have hq:ltO (some l[j]) l[j+1]=true:=tru_of (by have:=of_decide_eq_false hd;omega)
     rw[hq]at hx
     refine Sm.go 140 ?_
     simp(maxSteps:=2000000) only[go_sem,w2]
     exact hb _ _ ⟨j+1+1,by omega,hnext (by rw[hx];rfl)⟩ [(1,1)] (by simp only;omega) ⟨rfl,trivial,⟨rfl,rfl,trivial⟩,⟨oV (renV (v_iC _)),trivial⟩⟩
 ·have hc:=eq_of_dec hi hc
  rw[hc,List.drop_length]at hx
  exact RetQ.bool (hR C hL) rfl ⟨rfl,trivial⟩ (by rw[hx];rfl)
theorem rAxis6_ {H:Hp}(s:Sv)(l:List Int)(hs:SlH H (vsl s l.length) 1 (intsR l)):CallH H Tryz.prog 201 [.c (.v (vsl s l.length))] (Bo (axOk l)):=by
 have e1:decide ((l.length:Int)<2)= !decide (2≤l.length):=by rw[←decide_not,decide_eq_decide];omega
 have e2:decide ((32:Int)<(l.length:Int))= !decide (l.length≤32):=by rw[←decide_not,decide_eq_decide];omega
 have hax:axOk l=((decide (2≤l.length)&&decide (l.length≤32))&&axG none l):=by unfold axOk;rw[axG_none,Bool.decide_and]
 rw[hax]
 refine CallH.mkS Tryz.func201 rfl en201 (by simp[Tryz.ntmps201]) (ClA.of rfl) fun C hR hP hH hL=>?_
 refine Sm.go 100 ?_
 simp(maxSteps:=2000000) only[go_sem,e1,e2]
 cases h1:decide (2≤l.length)with
 |false=>
  rw[h1]at hR
  refine vv ?_
  exact RetQ.bool (hR C hL) rfl ⟨rfl,trivial⟩ rfl
 |true=>
 cases h2:decide (l.length≤32)with
 |false=>
  rw[h1,h2]at hR
  refine vv ?_
  exact RetQ.bool (hR C hL) rfl ⟨rfl,trivial⟩ rfl
 |true=>
 rw[h1,h2]at hR
 simp only[decide_eq_true_eq]at h1 h2
 refine vv ?_
 refine Sm.bringI 1 3 0 (hs.mono hH) rfl rfl ?_
 refine Sm.loopM (M0:=[]) (α:={i:Nat//i≤l.length∧axG none l=axG (prv l i) (l.drop i)}) hP (fun i=>[(0,true,.c (.sl 1 0 l.length 1)),(3,true,I i.val)]) (fun _=>[(1,⟨true,l.map iC,3⟩)]) (fun i=>l.length-i.val) ⟨0,by omega,rfl⟩ (fun _=>ClM.of (by simp only[List.all_cons,inMV (v_iC _)];rfl)) (fun _=>ClE.of rfl) [(1,1)] ?_ ?_
 ·exact⟨rfl,trivial,⟨rfl,rfl,trivial⟩,⟨oV (renV (v_iC _)),trivial⟩⟩
 rintro⟨i,hi,hx⟩ J hb
 simp only at hb hi hx⊢
 refine Sm.go 120 ?_
 refine vv ?_
 refine mtch (fun hc=>?_) (fun hc=>?_)
 ·have hc:=lt_of_dec hc
  rw[List.drop_eq_getElem_cons hc,axG]at hx
  have e3:(l.map iC)[i]?=some (iC l[i]):=get_iC hc
  have w2:=wS (show i≤1000000000000000000 by omega)
  have hnext:axG none l=axG (some l[i]) (l.drop (i+1))→axG none l=axG (prv l (i+1)) (l.drop (i+1)):=fun h=>by
   rw[h,prv,if_neg (by omega),Nat.add_sub_cancel,List.getD_eq_getElem?_getD,List.getElem?_eq_getElem hc];rfl
  refine Sm.dg 130 18 mix ?_
  simp(maxSteps:=2000000) only[go_sem,e3]
  refine⟨⟨by omega,by omega⟩,?_⟩
  refine DCallQ.pure 140 (rfar_ l[i]) rfl ?_
  cases i with
  |zero=>
   cases h5:nearB l[0]with
   |false=>
    rw[h5]at hx
    simp(maxSteps:=2000000) only[go_sem,e3]
    refine⟨fun h=>absurd h (by decide),fun h=>absurd h (by decide),?_⟩
    exact RetQ.bool (hR C hL) rfl ⟨rfl,trivial⟩ (by rw[hx];rfl)
   |true=>
    rw[h5]at hx
    simp(maxSteps:=2000000) only[go_sem,e3]
    refine Sm.go 140 ?_
    simp(maxSteps:=2000000) only[go_sem,w2]
    exact hb _ _ ⟨1,by omega,hnext (by rw[hx];rfl)⟩ [(1,1)] (by simp only;omega) ⟨rfl,trivial,⟨rfl,rfl,trivial⟩,⟨oV (renV (v_iC _)),trivial⟩⟩
  |succ j=>
   have w3:IntKind.i64.wrap (((j+1:Nat):Int)-1)=(j:Int):=by rw[w64 (by omega) (by omega)];omega
   have e4:(l.map iC)[j]?=some (iC l[j]):=get_iC (by omega)
   have e6:decide ((0:Int)<((j+1:Nat):Int))=true:=tru_of (by omega)
   have hp:prv l (j+1)=some l[j]:=by
    rw[prv,if_neg (by omega),Nat.add_sub_cancel,List.getD_eq_getElem?_getD,List.getElem?_eq_getElem (by omega)];rfl
   rw[hp]at hx
   cases h5:nearB l[j+1]with
   |false=>
    rw[h5]at hx
    simp(maxSteps:=2000000) only[go_sem,w3,e3,e4,e6]
    exact RetQ.bool (hR C hL) rfl ⟨rfl,trivial⟩ (by rw[hx];rfl)
   |true=>
    rw[h5]at hx
    simp(maxSteps:=2000000) only[go_sem,w3,e3,e4,e6]
    refine⟨⟨by omega,by omega⟩,⟨by omega,by omega⟩,?_⟩
    refine mtch (fun hd=>?_) (fun hd=>?_)
    ·have hq:ltO (some l[j]) l[j+1]=false:=fal_of (by have:=of_decide_eq_true hd;omega)
     rw[hq]at hx
     exact RetQ.bool (hR C hL) rfl ⟨rfl,trivial⟩ (by rw[hx];rfl)
    ·have hq:ltO (some l[j]) l[j+1]=true:=tru_of (by have:=of_decide_eq_false hd;omega)
     rw[hq]at hx
     refine Sm.go 140 ?_
     simp(maxSteps:=2000000) only[go_sem,w2]
     exact hb _ _ ⟨j+1+1,by omega,hnext (by rw[hx];rfl)⟩ [(1,1)] (by simp only;omega) ⟨rfl,trivial,⟨rfl,rfl,trivial⟩,⟨oV (renV (v_iC _)),trivial⟩⟩
 ·have hc:=eq_of_dec hi hc
  rw[hc,List.drop_length]at hx
  exact RetQ.bool (hR C hL) rfl ⟨rfl,trivial⟩ (by rw[hx];rfl)
theorem rcuOk_ {H:Hp}(x y:Sv)(xs ys:List Int)(hx:SlH H (vsl x xs.length) 1 (intsR xs))(hy:SlH H (vsl y ys.length) 1 (intsR ys))(hly:ys.length≤1000000000000000):
  CallH H Tryz.prog 93 [.agg [.v (vsl x xs.length),.v (vsl y ys.length)]] (Bo (cuOk xs ys)):=by
 have e1:((ys.length:Int)!=(xs.length:Int))= !decide (xs.length=ys.length):=by rw[Bool.eq_iff_iff,bne_iff_ne,Bool.not_eq_true',decide_eq_false_iff_not];omega
 refine CallH.mkS Tryz.func93 rfl en93 (by simp[Tryz.ntmps93]) (ClA.of rfl) fun C hR hP hH hL=>?_
 refine Sm.go 100 ?_
 refine vv ?_
 refine CallQ.h 110 (rAxis5_ x xs hx) hH rfl ?_
 simp(maxSteps:=2000000) only[go_sem,e1]
 unfold cuOk at hR
 cases h1:decide (xs.length=ys.length)with
 |false=>
  rw[h1]at hR
  cases axOk xs<;>(simp(maxSteps:=2000000) only[go_sem];exact RetQ.bool (hR C hL) rfl ⟨rfl,trivial⟩ rfl)
 |true=>
 rw[h1]at hR
 cases h2:axOk xs with
 |false=>
  rw[h2]at hR
  refine vv ?_
  exact RetQ.bool (hR C hL) rfl ⟨rfl,trivial⟩ rfl
 |true=>
 rw[h2]at hR
 refine vv ?_
 refine Sm.bringC 1 3 100 1 (hy.mono hH) rfl rfl rfl ?_
 rw[intsC,show(intsR ys).length=ys.length by simp[intsR]]
 refine Sm.loopM (M0:=[]) (α:={i:Nat//i≤ys.length∧ys.all nearB=(ys.drop i).all nearB}) hP (fun i=>[(1,true,.c (.p 2 0)),(3,true,I i.val)]) (fun _=>[(2,⟨false,[.v (vsl x xs.length),.sl 1 0 ys.length 1],108⟩),(1,⟨true,ys.map iC,3⟩)]) (fun i=>ys.length-i.val) ⟨0,by omega,rfl⟩ (fun _=>ClM.of (by simp only[List.all_cons,inMV (v_iC _)];rfl)) (fun _=>ClE.of rfl) [(2,100),(1,1)] ?_ ?_
 ·exact⟨rfl,trivial,⟨rfl,rfl,trivial⟩,⟨oR,oV (renV (v_iC _)),trivial⟩⟩
 rintro⟨i,hi,hx⟩ J hb
 simp only at hb hi hx⊢
 refine Sm.go 120 ?_
 refine vv ?_
 refine mtch (fun hc=>?_) (fun hc=>?_)
 ·have hc:=lt_of_dec hc
  rw[List.drop_eq_getElem_cons hc,List.all_cons]at hx
  simp(maxSteps:=2000000) only[go_sem,get_iC hc]
  refine⟨⟨by omega,by omega⟩,?_⟩
  refine CallQ.pure 130 (rFits_ ys[i]) rfl ?_
  cases h5:nearB ys[i]with
  |false=>
   rw[h5]at hx
   refine vv ?_
   exact RetQ.bool (hR C hL) rfl ⟨rfl,trivial⟩ (by rw[hx];rfl)
  |true=>
   rw[h5,Bool.true_and]at hx
   simp(maxSteps:=2000000) only[go_sem,wS (show i≤1000000000000000000 by omega)]
   exact hb _ _ ⟨i+1,hc,hx⟩ [(2,2),(1,1)] (by simp only;omega) ⟨rfl,trivial,⟨rfl,rfl,trivial⟩,⟨oR,oV (renV (v_iC _)),trivial⟩⟩
 ·have hc:=eq_of_dec hi hc
  rw[hc,List.drop_length]at hx
  exact RetQ.bool (hR C hL) rfl ⟨rfl,trivial⟩ (by rw[hx];rfl)
theorem rmaOk_ {H:Hp}(m:MpL)(hm:m.ok H)(hl:∀v∈m.zs,v.2.length≤1000000000000000):
  CallH H Tryz.prog 94 [.agg [.v (vsl m.x m.xs.length),.v (vsl m.y m.ys.length),.v (vsl m.z m.zs.length)]] (Bo (maOk m.xs m.ys (m.zs.map (·.2)))):=by
 have hmo:maOk m.xs m.ys (m.zs.map (·.2))=(axOk m.xs&&(axOk m.ys&&(decide (m.zs.length=m.xs.length)&&m.zs.all (fun z=>decide (z.2.length=m.ys.length)&&z.2.all nearB)))):=by
  unfold maOk;rw[List.length_map,List.all_map];rfl
 rw[hmo]
 have e1:((m.zs.length:Int)!=(m.xs.length:Int))= !decide (m.zs.length=m.xs.length):=by rw[Bool.eq_iff_iff,bne_iff_ne,Bool.not_eq_true',decide_eq_false_iff_not];omega
 refine CallH.mkS Tryz.func94 rfl en94 (by simp[Tryz.ntmps94]) (ClA.of rfl) fun C hR hP hH hL=>?_
 refine Sm.go 100 ?_
 refine vv ?_
 refine CallQ.h 110 (rAxis6_ m.x m.xs hm.x) hH rfl ?_
 refine vv ?_
 refine CallQ.hg 110 (fun _=>rAxis6_ m.y m.ys hm.y) hH (fun h=>by rw[←Bool.not_not (axOk m.xs),h];rfl) ?_
 simp(maxSteps:=2000000) only[go_sem,e1]
 cases h1:axOk m.xs with
 |false=>
  rw[h1]at hR
  refine vv ?_
  exact RetQ.bool (hR C hL) rfl ⟨rfl,trivial⟩ rfl
 |true=>
 cases h2:axOk m.ys with
 |false=>
  rw[h1,h2]at hR
  refine vv ?_
  exact RetQ.bool (hR C hL) rfl ⟨rfl,trivial⟩ rfl
 |true=>
 cases h3:decide (m.zs.length=m.xs.length)with
 |false=>
  rw[h1,h2,h3]at hR
  refine vv ?_
  exact RetQ.bool (hR C hL) rfl ⟨rfl,trivial⟩ rfl
 |true=>
 rw[h1,h2,h3]at hR
 have hl2:m.zs.length≤32:=by
  have h1':=h1
  unfold axOk at h1'
  rw[Bool.and_eq_true,decide_eq_true_eq]at h1'
  rw[of_decide_eq_true h3];exact h1'.1.2
 refine vv ?_
 have hzl:(zrV m).length=m.zs.length:=List.length_map _
 refine Sm.bringC 1 73 100 2 (rows:=zrV m) (hm.z.mono hH) rfl rfl rfl ?_
 rw[hzl]
 refine Sm.loopM (M0:=[]) (α:={i:Nat//i≤m.zs.length∧m.zs.all (fun z=>decide (z.2.length=m.ys.length)&&z.2.all nearB)=(m.zs.drop i).all (fun z=>decide (z.2.length=m.ys.length)&&z.2.all nearB)}) hP (fun i=>[(1,true,.c (.p 2 0)),(3,true,I i.val)])
  (fun _=>[(1,⟨true,rowsC (zrV m),73⟩),(2,⟨false,[.v (vsl m.x m.xs.length),.v (vsl m.y m.ys.length),.sl 1 0 m.zs.length 1],113⟩)]) (fun i=>m.zs.length-i.val) ⟨0,by omega,rfl⟩ (fun _=>ClM.of (by simp only[List.all_cons,inMV (rowsC_isV _)];rfl)) (fun _=>ClE.of rfl) [(1,1),(2,100)] ?_ ?_
 ·exact⟨rfl,trivial,⟨rfl,rfl,trivial⟩,⟨oV (renV (rowsC_isV _)),oR,trivial⟩⟩
 rintro⟨i,hi,hx⟩ J hb
 simp only at hb hi hx⊢
 refine Sm.go 120 ?_
 refine vv ?_
 refine mtch (fun hc=>?_) (fun hc=>?_)
 ·have hc:=lt_of_dec hc
  rw[List.drop_eq_getElem_cons hc,List.all_cons]at hx
  have e3:=zr_get hc
  have hmem:m.zs[i]∈m.zs:=List.getElem_mem hc
  generalize hz:m.zs[i]=z at*
  have e4:((z.2.length:Int)!=(m.ys.length:Int))= !decide (z.2.length=m.ys.length):=by rw[Bool.eq_iff_iff,bne_iff_ne,Bool.not_eq_true',decide_eq_false_iff_not];omega
  refine Sm.dg 130 9 mix ?_
  simp(maxSteps:=2000000) only[go_sem,e3,e4]
  refine⟨⟨by omega,by omega⟩,?_⟩
  cases h5:decide (z.2.length=m.ys.length)with
  |false=>
   rw[h5]at hx
   refine vv ?_
   exact RetQ.bool (hR C hL) rfl ⟨rfl,trivial⟩ (by rw[hx];rfl)
  |true=>
  have h5':=of_decide_eq_true h5
  rw[h5,Bool.true_and]at hx
  have hzo:=hm.e z hmem
  have hzl2:=hl z hmem
  refine Sm.go 140 ?_
  refine vv ?_
  refine Sm.loopM (M0:=[]) (α:={k:Nat//k≤z.2.length∧z.2.all nearB=(z.2.drop k).all nearB}) hP (fun k=>[(1,true,.c (.p 2 0)),(3,true,I i),(4,true,I k.val)])
   (fun _=>[(1,⟨true,rowsC (zrV m),73⟩),(2,⟨false,[.v (vsl m.x m.xs.length),.v (vsl m.y m.ys.length),.sl 1 0 m.zs.length 1],113⟩)]) (fun k=>z.2.length-k.val) ⟨0,by omega,rfl⟩ (fun _=>ClM.of (by simp only[List.all_cons,inMV (rowsC_isV _)];rfl)) (fun _=>ClE.of rfl) [(1,1),(2,2)] ?_ ?_
  ·exact⟨rfl,trivial,⟨rfl,rfl,rfl,trivial⟩,⟨oV (renV (rowsC_isV _)),oR,trivial⟩⟩
  rintro⟨k,hk,hy⟩ J2 hb2
  simp only at hb2 hk hy⊢
  refine run_ok 24 _ _ _ 150 ?_
  simp(maxSteps:=2000000) only[go_sem,e3]
  refine mtch (fun hd=>?_) (fun hd=>?_)
  ·have hd:k<z.2.length:=by have:=lt_of_dec hd;omega
   refine⟨⟨by omega,by omega⟩,?_⟩
   refine Sm.bringI 6 3 52 (hzo.mono hH) rfl rfl ?_
   rw[List.drop_eq_getElem_cons hd,List.all_cons]at hy
   refine Sm.go 160 ?_
   simp(maxSteps:=2000000) only[go_sem,get_iC hd]
   refine⟨⟨by omega,by omega⟩,?_⟩
   refine CallQ.pure 170 (rfar_ z.2[k]) rfl ?_
   cases h6:nearB z.2[k]with
   |false=>
    rw[h6]at hy
    refine vv ?_
    exact RetQ.bool (hR C hL) rfl ⟨rfl,trivial⟩ (by rw[hx,hy];rfl)
   |true=>
    rw[h6,Bool.true_and]at hy
    simp(maxSteps:=2000000) only[go_sem,wS (show k≤1000000000000000000 by omega)]
    exact hb2 _ _ ⟨k+1,hd,hy⟩ [(1,1),(2,2)] (by simp only;omega) ⟨rfl,trivial,⟨rfl,rfl,rfl,trivial⟩,⟨oV (renV (rowsC_isV _)),oR,trivial⟩⟩
  ·have hd:k=z.2.length:=by have:=of_decide_eq_false hd;omega
   rw[hd,List.drop_length]at hy
   rw[hy]at hx
   simp(maxSteps:=2000000) only[go_sem,wS (show i≤1000000000000000000 by omega)]
   exact hb _ _ ⟨i+1,hc,hx⟩ [(1,1),(2,2)] (by simp only;omega) ⟨rfl,trivial,⟨rfl,rfl,trivial⟩,⟨oV (renV (rowsC_isV _)),oR,trivial⟩⟩
 ·have hc:=eq_of_dec hi hc
  rw[hc,List.drop_length]at hx
  exact RetQ.bool (hR C hL) rfl ⟨rfl,trivial⟩ (by rw[hx];rfl)
theorem rblock_ {H:Hp}(b:BlL)(hb:b.ok H)(h1:b.c.nm.length≤1000000000000000)(h2:b.c.ty.length≤1000000000000000)(h3:b.c.tb.length≤1000000000000000)(h4:b.c.ins.length≤1000000000000000)(h5:b.c.ks.length≤1000000000000000)(h6:∀s∈b.c.ins,s.length≤1000000000000000):
  CallH H Tryz.prog 96 [rowV (BlL.r b)] (Bo (blOk b.c)):=by
 have ha1:=rnames_ (H:=H) b.i b.c.ins hb.i h4 h6
 refine CallH.mkS Tryz.func96 rfl en96 (by simp[Tryz.ntmps96]) (ClA.of rfl) fun C hR hP hH hL=>?_
 refine Sm.go 100 ?_
 refine vv ?_
 refine CallQ.pure 110 (rKind_ b.c.kd) rfl ?_
 unfold blOk at hR
 cases hk:kindQ b.c.kd with
 |none=>
  rw[hk]at hR
  simp(maxSteps:=2000000) only[go_sem,Option.getD_none]
  refine CallQ.guard (xs:=[]) (v:=Bo true) 150 (fun h=>by cases h) (fun h=>by cases h) ?_
  refine vv ?_
  refine CallQ.guard (xs:=[]) (v:=Bo true) 150 (fun h=>by cases h) (fun h=>by cases h) ?_
  refine vv ?_
  refine CallQ.hg (xs:=[]) (v:=Bo true) (H:=C.hp) 150 (fun h=>by cases h) (Hp.le.refl _) (fun h=>by cases h) ?_
  refine vv ?_
  exact RetQ.bool (hR C hL) rfl ⟨rfl,trivial⟩ rfl
 |some q=>
 obtain⟨a,k,t⟩:=q
 rw[hk]at hR
 simp only at hR
 have e1:((b.c.ins.length:Int)!=(a:Int))= !decide (b.c.ins.length=a):=by rw[Bool.eq_iff_iff,bne_iff_ne,Bool.not_eq_true',decide_eq_false_iff_not];omega
 have e2:((b.c.ks.length:Int)!=(k:Int))= !decide (b.c.ks.length=k):=by rw[Bool.eq_iff_iff,bne_iff_ne,Bool.not_eq_true',decide_eq_false_iff_not];omega
 simp(maxSteps:=2000000) only[go_sem,Option.getD_some,e1,e2]
 refine CallQ.guard 120 (fun _=>rName_ b.c.nm h1) (fun h=>by rw[h];rfl) ?_
 refine vv ?_
 refine CallQ.guard 120 (fun _=>rName_ b.c.ty h2) (fun h=>by rw[←Bool.not_not (nmOk b.c.nm),h];rfl) ?_
 simp(maxSteps:=2000000) only[go_sem,e1,e2]
 generalize hA:decide (b.c.ins.length=a)=A at*
 generalize hB:decide (b.c.ks.length=k)=B at*
 generalize hN:nmOk b.c.nm=Nn at*
 generalize hT:nmOk b.c.ty=Tt at*
 generalize hI:b.c.ins.all nmOk=Ii at*
 refine CallQ.hg 130 (fun _=>ha1) hH (fun h=>by rw[h];rfl) ?_
 refine vv ?_
 refine mtch (fun hd=>?_) (fun hd=>?_)
 ·refine RetQ.bool (hR C hL) rfl ⟨rfl,trivial⟩ ?_
  cases A<;>cases B<;>cases Nn<;>cases Tt<;>cases Ii<;>simp_all
 have hall:A=true∧B=true∧Nn=true∧Tt=true∧Ii=true:=by cases A<;>cases B<;>cases Nn<;>cases Tt<;>cases Ii<;>simp_all
 obtain⟨rfl,rfl,rfl,rfl,rfl⟩:=hall
 simp only[Bool.true_and]at hR
 refine vv ?_
 refine Sm.bringC 1 3 100 5 (hb.k.mono hH) rfl rfl rfl ?_
 rw[intsC,show(intsR b.c.ks).length=b.c.ks.length by simp[intsR]]
 refine Sm.loopM (M0:=[]) (α:={i:Nat//i≤b.c.ks.length∧b.c.ks.all fitB=(b.c.ks.drop i).all fitB}) hP (fun i=>[(1,true,.c (.p 2 0)),(5,true,I t),(7,true,I i.val)])
  (fun _=>[(2,⟨false,[.v (sv b.c.nm),.v (sv b.c.kd),.v (sv b.c.ty),.v (vsl b.i b.c.ins.length),.v (sv b.c.tb),.sl 1 0 b.c.ks.length 1],82⟩),(1,⟨true,b.c.ks.map iC,3⟩)]) (fun i=>b.c.ks.length-i.val) ⟨0,by omega,rfl⟩ (fun _=>ClM.of (by simp only[List.all_cons,inMV (v_iC _)];rfl)) (fun _=>ClE.of rfl) [(2,100),(1,1)] ?_ ?_
 ·exact⟨rfl,trivial,⟨rfl,rfl,rfl,trivial⟩,⟨oR,oV (renV (v_iC _)),trivial⟩⟩
 rintro⟨i,hi,hx⟩ J hj
 simp only at hj hi hx⊢
 refine Sm.go 120 ?_
 refine vv ?_
 refine mtch (fun hc=>?_) (fun hc=>?_)
 ·have hc:=lt_of_dec hc
  rw[List.drop_eq_getElem_cons hc,List.all_cons]at hx
  simp(maxSteps:=2000000) only[go_sem,get_iC hc]
  refine⟨⟨by omega,by omega⟩,?_⟩
  refine CallQ.pure 130 (rnum_ b.c.ks[i]) rfl ?_
  cases h7:fitB b.c.ks[i]with
  |false=>
   rw[h7]at hx
   refine vv ?_
   refine RetQ.bool (hR C hL) rfl ⟨rfl,trivial⟩ ?_
   rw[hx];simp
  |true=>
   rw[h7,Bool.true_and]at hx
   simp(maxSteps:=2000000) only[go_sem,wS (show i≤1000000000000000000 by omega)]
   exact hj _ _ ⟨i+1,hc,hx⟩ [(2,2),(1,1)] (by simp only;omega) ⟨rfl,trivial,⟨rfl,rfl,rfl,trivial⟩,⟨oR,oV (renV (v_iC _)),trivial⟩⟩
 ·have hc:=eq_of_dec hi hc
  rw[hc,List.drop_length]at hx
  have hx:b.c.ks.all fitB=true:=hx
  rw[hx]at hR
  have e4:((t:Int)==0)=decide (t=0):=by rw[Bool.eq_iff_iff,beq_iff_eq,decide_eq_true_eq];omega
  simp only[e4]
  by_cases ht:t=0
  ·rw[if_pos ht]at hR
   simp(maxSteps:=2000000) only[go_sem,tru_of ht]
   refine RetQ.bool (hR C hL) rfl ⟨rfl,trivial⟩ ?_
   simp
  ·rw[if_neg ht]at hR
   simp(maxSteps:=2000000) only[go_sem,fal_of ht]
   refine CallQ.pure 130 (rName_ b.c.tb h3) rfl ?_
   refine vv ?_
   refine RetQ.bool (hR C hL) rfl ⟨rfl,trivial⟩ ?_
   simp
theorem rdvalid {H:Hp}(d:DgL)(hd:d.ok H)(hs:d.sm):CallH H Tryz.prog 35 [rowV d.r] (Bo (dgOk d.c)):=by
 have hdo:dgOk d.c=(nmOk d.nm&&((decide (d.tys.length≤30)&&(decide (d.cus.length≤30)&&(decide (d.mas.length≤30)&&(decide (d.ins.length≤30)&&decide (d.ous.length≤30)))))&&(decide (d.bls.length≤200)&&
  (d.tys.all (fun t=>nmOk t.nm&&fok t.ty)&&(d.cus.all (fun c=>nmOk c.c.nm&&cuOk c.c.xs c.c.ys)&&(d.mas.all (fun m=>nmOk m.nm&&maOk m.xs m.ys (m.zs.map (·.2)))&&(d.ins.all poOk&&(d.bls.all (fun b=>blOk b.c)&&d.ous.all nmOk)))))))):=by
  unfold dgOk
  simp only[DgL.c,List.length_map,List.all_map,Bool.decide_and]
  rfl
 rw[hdo]
 have e1:∀n:Nat,decide ((30:Int)<(n:Int))= !decide (n≤30):=fun n=>by rw[←decide_not,decide_eq_decide];omega
 have e2:decide ((200:Int)<(d.bls.length:Int))= !decide (d.bls.length≤200):=by rw[←decide_not,decide_eq_decide];omega
 have n1:(d.tys.map Td.r).length=d.tys.length:=List.length_map _
 have n2:(d.cus.map CuL.r).length=d.cus.length:=List.length_map _
 have n3:(d.mas.map MpL.r).length=d.mas.length:=List.length_map _
 have n4:(d.ins.map Po.r).length=d.ins.length:=List.length_map _
 have n5:(d.bls.map BlL.r).length=d.bls.length:=List.length_map _
 have z1:=rows_len (r:=Td.r) (k:=11) (fun _=>rfl) d.tys
 have z2:=rows_len (r:=CuL.r) (k:=3) (fun _=>rfl) d.cus
 have z3:=rows_len (r:=MpL.r) (k:=4) (fun _=>rfl) d.mas
 have z4:=rows_len (r:=Po.r) (k:=4) (fun _=>rfl) d.ins
 have z5:=rows_len (r:=BlL.r) (k:=6) (fun _=>rfl) d.bls
 refine CallH.mkS Tryz.func35 rfl en35 (by simp[Tryz.ntmps35]) (ClA.of rfl) fun C hR hP hH hL=>?_
 refine Sm.go 100 ?_
 refine vv ?_
 refine CallQ.pure 110 (rName_ d.nm hs.nm) rfl ?_
 simp(maxSteps:=2000000) only[go_sem,e1,e2]
 generalize nmOk d.nm=A at*
 generalize hA1:decide (d.tys.length≤30)=A1 at*
 generalize hA2:decide (d.cus.length≤30)=A2 at*
 generalize hA3:decide (d.mas.length≤30)=A3 at*
 generalize hA4:decide (d.ins.length≤30)=A4 at*
 generalize hA5:decide (d.ous.length≤30)=A5 at*
 generalize hA6:decide (d.bls.length≤200)=A6 at*
 refine mtch (fun hc=>?_) (fun hc=>?_)
 ·refine RetQ.bool (hR C hL) rfl ⟨rfl,trivial⟩ ?_
  cases A<;>cases A1<;>cases A2<;>cases A3<;>cases A4<;>cases A5<;>cases A6<;>first|rfl|(cases hc)
 have hall:A=true∧A1=true∧A2=true∧A3=true∧A4=true∧A5=true∧A6=true:=by
  cases A<;>cases A1<;>cases A2<;>cases A3<;>cases A4<;>cases A5<;>cases A6<;>first|(and_intros<;>rfl)|(cases hc;done)
 obtain⟨rfl,rfl,rfl,rfl,rfl,rfl,rfl⟩:=hall
 simp only[decide_eq_true_eq]at hA1 hA2 hA3 hA4 hA5 hA6
 simp only[Bool.true_and]at hR
 refine vv ?_
 refine Sm.bringC 11 93 100 1 (hd.ty.mono hH) rfl rfl rfl ?_
 refine Sm.bringC 12 110 100 2 (hd.cu.mono hH) rfl rfl rfl ?_
 refine Sm.bringC 13 115 100 3 (hd.ma.mono hH) rfl rfl rfl ?_
 refine Sm.bringC 14 118 100 4 (hd.i.mono hH) rfl rfl rfl ?_
 refine Sm.bringC 15 82 100 5 (hd.bl.mono hH) rfl rfl rfl ?_
 rw[n1,n2,n3,n4,n5]
 refine Sm.loopM (M0:=[]) (α:={i:Nat//i≤d.tys.length∧d.tys.all (fun t=>nmOk t.nm&&fok t.ty)=(d.tys.drop i).all (fun t=>nmOk t.nm&&fok t.ty)}) hP (fun i=>[(1,true,.c (.p 1 0)),(3,true,I i.val)])
  (fun _=>[(1,⟨false,[.v (sv d.nm),.sl 11 0 d.tys.length 11,.sl 12 0 d.cus.length 3,.sl 13 0 d.mas.length 4,.sl 14 0 d.ins.length 4,.sl 15 0 d.bls.length 6,.v (vsl d.ou d.ous.length)],30⟩),(11,⟨true,rowsC (d.tys.map Td.r),93⟩),(12,⟨true,rowsC (d.cus.map CuL.r),110⟩),(13,⟨true,rowsC (d.mas.map MpL.r),115⟩),(14,⟨true,rowsC (d.ins.map Po.r),118⟩),(15,⟨true,rowsC (d.bls.map BlL.r),82⟩)]) (fun i=>d.tys.length-i.val) ⟨0,by omega,rfl⟩ (fun _=>ClM.of (by simp only[List.all_cons,inMV (rowsC_isV _)];rfl)) (fun _=>ClE.of rfl) [(1,100),(11,11),(12,12),(13,13),(14,14),(15,15)] ?_ ?_
 ·exact⟨rfl,trivial,⟨rfl,rfl,trivial⟩,⟨oR,oV (renV (rowsC_isV _)),oV (renV (rowsC_isV _)),oV (renV (rowsC_isV _)),oV (renV (rowsC_isV _)),oV (renV (rowsC_isV _)),trivial⟩⟩
 rintro⟨i,hi,hx⟩ J hj
 simp only at hj hi hx⊢
 refine Sm.go 120 ?_
 refine vv ?_
 refine mtch (fun hc=>?_) (fun hc=>?_)
 ·have hc:=lt_of_dec hc
  rw[List.drop_eq_getElem_cons hc,List.all_cons]at hx
  have hmem:d.tys[i]∈d.tys:=List.getElem_mem hc
  have f0:=rows_one (r:=Td.r) (k:=11) (fun _=>rfl) d.tys i 0 hc (by omega)
  have f1:=rows_fld (r:=Td.r) (k:=11) (fun _=>rfl) d.tys i 1 10 hc (by omega)
  rw[Nat.add_zero]at f0
  generalize d.tys[i]=x at*
  simp(maxSteps:=2000000) only[go_sem,f0,f1,Td.r,List.getElem?_cons_zero,Option.map_some,List.drop_succ_cons,List.drop_zero,List.take_succ_cons,List.take_zero,Bool.not_not]
  refine⟨⟨by omega,by omega⟩,?_⟩
  refine CallQ.pure 130 (rName_ x.nm (hs.tys.2 x hmem)) rfl ?_
  simp(maxSteps:=2000000) only[go_sem,f0,f1,Td.r,List.getElem?_cons_zero,Option.map_some,List.drop_succ_cons,List.drop_zero,List.take_succ_cons,List.take_zero,Bool.not_not]
  refine⟨fun h=>⟨h,h,by omega,by omega⟩,fun h=>⟨h,by omega⟩,?_⟩
  refine CallQ.guard 140 (fun _=>rType_ x.ty) (fun h=>by rw[h];rfl) ?_
  refine vv ?_
  generalize nmOk x.nm=a at*
  generalize fok x.ty=b at*
  refine⟨fun h=>by cases a<;>first|rfl|(cases h;done),?_⟩
  refine mtch (fun hp=>?_) (fun hp=>?_)
  ·refine RetQ.bool (hR C hL) rfl ⟨rfl,trivial⟩ ?_
   rw[hx]
   cases a<;>cases b<;>first|rfl|(cases hp;done)
  ·have hq:(a&&b)=true:=by cases a<;>cases b<;>first|rfl|(cases hp;done)
   rw[hq,Bool.true_and]at hx
   simp(maxSteps:=2000000) only[go_sem,wS (show i≤1000000000000000000 by omega)]
   exact hj _ _ ⟨i+1,hc,hx⟩ [(1,1),(11,11),(12,12),(13,13),(14,14),(15,15)] (by simp only;omega) ⟨rfl,trivial,⟨rfl,rfl,trivial⟩,⟨oR,oV (renV (rowsC_isV _)),oV (renV (rowsC_isV _)),oV (renV (rowsC_isV _)),oV (renV (rowsC_isV _)),oV (renV (rowsC_isV _)),trivial⟩⟩
 have hc:=eq_of_dec hi hc
 rw[hc,List.drop_length]at hx
 have hx:d.tys.all (fun t=>nmOk t.nm&&fok t.ty)=true:=hx
 rw[hx,Bool.true_and]at hR
 refine vv ?_
 refine Sm.loopM (M0:=[]) (α:={i:Nat//i≤d.cus.length∧d.cus.all (fun c=>nmOk c.c.nm&&cuOk c.c.xs c.c.ys)=(d.cus.drop i).all (fun c=>nmOk c.c.nm&&cuOk c.c.xs c.c.ys)}) hP (fun i=>[(1,true,.c (.p 1 0)),(4,true,I i.val)])
  (fun _=>[(1,⟨false,[.v (sv d.nm),.sl 11 0 d.tys.length 11,.sl 12 0 d.cus.length 3,.sl 13 0 d.mas.length 4,.sl 14 0 d.ins.length 4,.sl 15 0 d.bls.length 6,.v (vsl d.ou d.ous.length)],30⟩),(11,⟨true,rowsC (d.tys.map Td.r),93⟩),(12,⟨true,rowsC (d.cus.map CuL.r),110⟩),(13,⟨true,rowsC (d.mas.map MpL.r),115⟩),(14,⟨true,rowsC (d.ins.map Po.r),118⟩),(15,⟨true,rowsC (d.bls.map BlL.r),82⟩)]) (fun i=>d.cus.length-i.val) ⟨0,by omega,rfl⟩ (fun _=>ClM.of (by simp only[List.all_cons,inMV (rowsC_isV _)];rfl)) (fun _=>ClE.of rfl) [(1,1),(11,11),(12,12),(13,13),(14,14),(15,15)] ?_ ?_
 ·exact⟨rfl,trivial,⟨rfl,rfl,trivial⟩,⟨oR,oV (renV (rowsC_isV _)),oV (renV (rowsC_isV _)),oV (renV (rowsC_isV _)),oV (renV (rowsC_isV _)),oV (renV (rowsC_isV _)),trivial⟩⟩
 rintro⟨i,hi,hx⟩ J hj
 simp only at hj hi hx⊢
 refine Sm.go 120 ?_
 refine vv ?_
 refine mtch (fun hc=>?_) (fun hc=>?_)
 ·have hc:=lt_of_dec hc
  rw[List.drop_eq_getElem_cons hc,List.all_cons]at hx
  have hmem:d.cus[i]∈d.cus:=List.getElem_mem hc
  have f0:=rows_one (r:=CuL.r) (k:=3) (fun _=>rfl) d.cus i 0 hc (by omega)
  have f1:=rows_fld (r:=CuL.r) (k:=3) (fun _=>rfl) d.cus i 1 2 hc (by omega)
  rw[Nat.add_zero]at f0
  generalize d.cus[i]=x at*
  simp(maxSteps:=2000000) only[go_sem,f0,f1,CuL.r,List.getElem?_cons_zero,Option.map_some,List.drop_succ_cons,List.drop_zero,List.take_succ_cons,List.take_zero,Bool.not_not]
  refine⟨⟨by omega,by omega⟩,?_⟩
  refine CallQ.pure 130 (rName_ x.c.nm (hs.cus.2 x hmem).1) rfl ?_
  simp(maxSteps:=2000000) only[go_sem,f0,f1,CuL.r,List.getElem?_cons_zero,Option.map_some,List.drop_succ_cons,List.drop_zero,List.take_succ_cons,List.take_zero,Bool.not_not]
  refine⟨fun h=>⟨h,h,by omega,by omega⟩,fun h=>⟨h,by omega⟩,?_⟩
  refine CallQ.hg 140 (fun _=>rcuOk_ x.x x.y x.c.xs x.c.ys (hd.cus x hmem).x (hd.cus x hmem).y (hs.cus.2 x hmem).2.2) hH (fun h=>by rw[h];rfl) ?_
  refine vv ?_
  generalize nmOk x.c.nm=a at*
  generalize cuOk x.c.xs x.c.ys=b at*
  refine⟨fun h=>by cases a<;>first|rfl|(cases h;done),?_⟩
  refine mtch (fun hp=>?_) (fun hp=>?_)
  ·refine RetQ.bool (hR C hL) rfl ⟨rfl,trivial⟩ ?_
   rw[hx]
   cases a<;>cases b<;>first|rfl|(cases hp;done)
  ·have hq:(a&&b)=true:=by cases a<;>cases b<;>first|rfl|(cases hp;done)
   rw[hq,Bool.true_and]at hx
   simp(maxSteps:=2000000) only[go_sem,wS (show i≤1000000000000000000 by omega)]
   exact hj _ _ ⟨i+1,hc,hx⟩ [(1,1),(11,11),(12,12),(13,13),(14,14),(15,15)] (by simp only;omega) ⟨rfl,trivial,⟨rfl,rfl,trivial⟩,⟨oR,oV (renV (rowsC_isV _)),oV (renV (rowsC_isV _)),oV (renV (rowsC_isV _)),oV (renV (rowsC_isV _)),oV (renV (rowsC_isV _)),trivial⟩⟩
 have hc:=eq_of_dec hi hc
 rw[hc,List.drop_length]at hx
 have hx:d.cus.all (fun c=>nmOk c.c.nm&&cuOk c.c.xs c.c.ys)=true:=hx
 rw[hx,Bool.true_and]at hR
 refine vv ?_
 refine Sm.loopM (M0:=[]) (α:={i:Nat//i≤d.mas.length∧d.mas.all (fun m=>nmOk m.nm&&maOk m.xs m.ys (m.zs.map (·.2)))=(d.mas.drop i).all (fun m=>nmOk m.nm&&maOk m.xs m.ys (m.zs.map (·.2)))}) hP (fun i=>[(1,true,.c (.p 1 0)),(5,true,I i.val)])
  (fun _=>[(1,⟨false,[.v (sv d.nm),.sl 11 0 d.tys.length 11,.sl 12 0 d.cus.length 3,.sl 13 0 d.mas.length 4,.sl 14 0 d.ins.length 4,.sl 15 0 d.bls.length 6,.v (vsl d.ou d.ous.length)],30⟩),(11,⟨true,rowsC (d.tys.map Td.r),93⟩),(12,⟨true,rowsC (d.cus.map CuL.r),110⟩),(13,⟨true,rowsC (d.mas.map MpL.r),115⟩),(14,⟨true,rowsC (d.ins.map Po.r),118⟩),(15,⟨true,rowsC (d.bls.map BlL.r),82⟩)]) (fun i=>d.mas.length-i.val) ⟨0,by omega,rfl⟩ (fun _=>ClM.of (by simp only[List.all_cons,inMV (rowsC_isV _)];rfl)) (fun _=>ClE.of rfl) [(1,1),(11,11),(12,12),(13,13),(14,14),(15,15)] ?_ ?_
 ·exact⟨rfl,trivial,⟨rfl,rfl,trivial⟩,⟨oR,oV (renV (rowsC_isV _)),oV (renV (rowsC_isV _)),oV (renV (rowsC_isV _)),oV (renV (rowsC_isV _)),oV (renV (rowsC_isV _)),trivial⟩⟩
 rintro⟨i,hi,hx⟩ J hj
 simp only at hj hi hx⊢
 refine Sm.go 120 ?_
 refine vv ?_
 refine mtch (fun hc=>?_) (fun hc=>?_)
 ·have hc:=lt_of_dec hc
  rw[List.drop_eq_getElem_cons hc,List.all_cons]at hx
  have hmem:d.mas[i]∈d.mas:=List.getElem_mem hc
  have f0:=rows_one (r:=MpL.r) (k:=4) (fun _=>rfl) d.mas i 0 hc (by omega)
  have f1:=rows_fld (r:=MpL.r) (k:=4) (fun _=>rfl) d.mas i 1 3 hc (by omega)
  rw[Nat.add_zero]at f0
  generalize d.mas[i]=x at*
  simp(maxSteps:=2000000) only[go_sem,f0,f1,MpL.r,List.getElem?_cons_zero,Option.map_some,List.drop_succ_cons,List.drop_zero,List.take_succ_cons,List.take_zero,Bool.not_not]
  refine⟨⟨by omega,by omega⟩,?_⟩
  refine CallQ.pure 130 (rName_ x.nm (hs.mas.2 x hmem).1) rfl ?_
  simp(maxSteps:=2000000) only[go_sem,f0,f1,MpL.r,List.getElem?_cons_zero,Option.map_some,List.drop_succ_cons,List.drop_zero,List.take_succ_cons,List.take_zero,Bool.not_not]
  refine⟨fun h=>⟨h,h,by omega,by omega⟩,fun h=>⟨h,by omega⟩,?_⟩
  refine CallQ.hg 140 (fun _=>rmaOk_ x (hd.mas x hmem) (hs.mas.2 x hmem).2) hH (fun h=>by rw[h];rfl) ?_
  refine vv ?_
  generalize nmOk x.nm=a at*
  generalize maOk x.xs x.ys (x.zs.map (·.2))=b at*
  refine⟨fun h=>by cases a<;>first|rfl|(cases h;done),?_⟩
  refine mtch (fun hp=>?_) (fun hp=>?_)
  ·refine RetQ.bool (hR C hL) rfl ⟨rfl,trivial⟩ ?_
   rw[hx]
   cases a<;>cases b<;>first|rfl|(cases hp;done)
  ·have hq:(a&&b)=true:=by cases a<;>cases b<;>first|rfl|(cases hp;done)
   rw[hq,Bool.true_and]at hx
   simp(maxSteps:=2000000) only[go_sem,wS (show i≤1000000000000000000 by omega)]
   exact hj _ _ ⟨i+1,hc,hx⟩ [(1,1),(11,11),(12,12),(13,13),(14,14),(15,15)] (by simp only;omega) ⟨rfl,trivial,⟨rfl,rfl,trivial⟩,⟨oR,oV (renV (rowsC_isV _)),oV (renV (rowsC_isV _)),oV (renV (rowsC_isV _)),oV (renV (rowsC_isV _)),oV (renV (rowsC_isV _)),trivial⟩⟩
 have hc:=eq_of_dec hi hc
 rw[hc,List.drop_length]at hx
 have hx:d.mas.all (fun m=>nmOk m.nm&&maOk m.xs m.ys (m.zs.map (·.2)))=true:=hx
 rw[hx,Bool.true_and]at hR
 refine vv ?_
 refine Sm.loopM (M0:=[]) (α:={i:Nat//i≤d.ins.length∧d.ins.all poOk=(d.ins.drop i).all poOk}) hP (fun i=>[(1,true,.c (.p 1 0)),(6,true,I i.val)])
  (fun _=>[(1,⟨false,[.v (sv d.nm),.sl 11 0 d.tys.length 11,.sl 12 0 d.cus.length 3,.sl 13 0 d.mas.length 4,.sl 14 0 d.ins.length 4,.sl 15 0 d.bls.length 6,.v (vsl d.ou d.ous.length)],30⟩),(11,⟨true,rowsC (d.tys.map Td.r),93⟩),(12,⟨true,rowsC (d.cus.map CuL.r),110⟩),(13,⟨true,rowsC (d.mas.map MpL.r),115⟩),(14,⟨true,rowsC (d.ins.map Po.r),118⟩),(15,⟨true,rowsC (d.bls.map BlL.r),82⟩)]) (fun i=>d.ins.length-i.val) ⟨0,by omega,rfl⟩ (fun _=>ClM.of (by simp only[List.all_cons,inMV (rowsC_isV _)];rfl)) (fun _=>ClE.of rfl) [(1,1),(11,11),(12,12),(13,13),(14,14),(15,15)] ?_ ?_
 ·exact⟨rfl,trivial,⟨rfl,rfl,trivial⟩,⟨oR,oV (renV (rowsC_isV _)),oV (renV (rowsC_isV _)),oV (renV (rowsC_isV _)),oV (renV (rowsC_isV _)),oV (renV (rowsC_isV _)),trivial⟩⟩
 rintro⟨i,hi,hx⟩ J hj
 simp only at hj hi hx⊢
 refine Sm.go 120 ?_
 refine vv ?_
 refine mtch (fun hc=>?_) (fun hc=>?_)
 ·have hc:=lt_of_dec hc
  rw[List.drop_eq_getElem_cons hc,List.all_cons]at hx
  have hmem:d.ins[i]∈d.ins:=List.getElem_mem hc
  have f0:=rows_take (r:=Po.r) (k:=4) (fun _=>rfl) d.ins i hc
  generalize d.ins[i]=x at*
  simp(maxSteps:=2000000) only[go_sem,f0,z4]
  refine⟨⟨by omega,by omega⟩,by omega,?_⟩
  refine CallQ.pure 160 (rName_ x.nm (hs.ins.2 x hmem).1) rfl ?_
  simp(maxSteps:=2000000) only[go_sem,Bool.not_not]
  refine CallQ.guard 160 (fun _=>rName_ x.ty (hs.ins.2 x hmem).2) (fun h=>by rw[h];rfl) ?_
  simp(maxSteps:=2000000) only[go_sem,Bool.not_not]
  refine⟨fun h=>by rw[←Bool.not_not (nmOk x.nm),h];rfl,?_⟩
  refine CallQ.guard 160 (fun _=>rnum_ x.lo) (fun h=>by rw[h];rfl) ?_
  refine vv ?_
  refine CallQ.guard 160 (fun _=>rnum_ x.hi) (fun h=>by rw[h];rfl) ?_
  refine vv ?_
  have hpo:poOk x=(nmOk x.nm&&(nmOk x.ty&&(fitB x.lo&&fitB x.hi))):=rfl
  rw[hpo]at hx
  refine vv ?_
  generalize nmOk x.nm=a at*
  generalize nmOk x.ty=b at*
  generalize fitB x.lo=e at*
  generalize fitB x.hi=f at*
  refine mtch (fun hp=>?_) (fun hp=>?_)
  ·refine RetQ.bool (hR C hL) rfl ⟨rfl,trivial⟩ ?_
   rw[hx]
   cases a<;>cases b<;>cases e<;>cases f<;>first|rfl|(cases hp;done)
  ·have hq:(a&&(b&&(e&&f)))=true:=by cases a<;>cases b<;>cases e<;>cases f<;>first|rfl|(cases hp;done)
   rw[hq,Bool.true_and]at hx
   simp(maxSteps:=2000000) only[go_sem,wS (show i≤1000000000000000000 by omega)]
   exact hj _ _ ⟨i+1,hc,hx⟩ [(1,1),(11,11),(12,12),(13,13),(14,14),(15,15)] (by simp only;omega) ⟨rfl,trivial,⟨rfl,rfl,trivial⟩,⟨oR,oV (renV (rowsC_isV _)),oV (renV (rowsC_isV _)),oV (renV (rowsC_isV _)),oV (renV (rowsC_isV _)),oV (renV (rowsC_isV _)),trivial⟩⟩
 have hc:=eq_of_dec hi hc
 rw[hc,List.drop_length]at hx
 have hx:d.ins.all poOk=true:=hx
 rw[hx,Bool.true_and]at hR
 refine vv ?_
 refine Sm.loopM (M0:=[]) (α:={i:Nat//i≤d.bls.length∧d.bls.all (fun b=>blOk b.c)=(d.bls.drop i).all (fun b=>blOk b.c)}) hP (fun i=>[(1,true,.c (.p 1 0)),(8,true,I i.val)])
  (fun _=>[(1,⟨false,[.v (sv d.nm),.sl 11 0 d.tys.length 11,.sl 12 0 d.cus.length 3,.sl 13 0 d.mas.length 4,.sl 14 0 d.ins.length 4,.sl 15 0 d.bls.length 6,.v (vsl d.ou d.ous.length)],30⟩),(11,⟨true,rowsC (d.tys.map Td.r),93⟩),(12,⟨true,rowsC (d.cus.map CuL.r),110⟩),(13,⟨true,rowsC (d.mas.map MpL.r),115⟩),(14,⟨true,rowsC (d.ins.map Po.r),118⟩),(15,⟨true,rowsC (d.bls.map BlL.r),82⟩)]) (fun i=>d.bls.length-i.val) ⟨0,by omega,rfl⟩ (fun _=>ClM.of (by simp only[List.all_cons,inMV (rowsC_isV _)];rfl)) (fun _=>ClE.of rfl) [(1,1),(11,11),(12,12),(13,13),(14,14),(15,15)] ?_ ?_
 ·exact⟨rfl,trivial,⟨rfl,rfl,trivial⟩,⟨oR,oV (renV (rowsC_isV _)),oV (renV (rowsC_isV _)),oV (renV (rowsC_isV _)),oV (renV (rowsC_isV _)),oV (renV (rowsC_isV _)),trivial⟩⟩
 rintro⟨i,hi,hx⟩ J hj
 simp only at hj hi hx⊢
 refine Sm.go 120 ?_
 refine vv ?_
 refine mtch (fun hc=>?_) (fun hc=>?_)
 ·have hc:=lt_of_dec hc
  rw[List.drop_eq_getElem_cons hc,List.all_cons]at hx
  have hmem:d.bls[i]∈d.bls:=List.getElem_mem hc
  have f0:=rows_take (r:=BlL.r) (k:=6) (fun _=>rfl) d.bls i hc
  obtain⟨k1,k2,k3,k4,k5,k6⟩:=hs.bls.2 _ hmem
  have hbo:=rblock_ _ (hd.bls _ hmem) k1 k2 k3 k4 k5 k6
  generalize d.bls[i]=x at*
  simp(maxSteps:=2000000) only[go_sem,f0,z5]
  refine⟨⟨by omega,by omega⟩,by omega,?_⟩
  refine CallQ.h 160 hbo hH rfl ?_
  refine vv ?_
  generalize blOk x.c=a at*
  refine mtch (fun hp=>?_) (fun hp=>?_)
  ·refine RetQ.bool (hR C hL) rfl ⟨rfl,trivial⟩ ?_
   rw[hx]
   cases a<;>first|rfl|(cases hp;done)
  ·have hq:a=true:=by cases a<;>first|rfl|(cases hp;done)
   rw[hq,Bool.true_and]at hx
   simp(maxSteps:=2000000) only[go_sem,wS (show i≤1000000000000000000 by omega)]
   exact hj _ _ ⟨i+1,hc,hx⟩ [(1,1),(11,11),(12,12),(13,13),(14,14),(15,15)] (by simp only;omega) ⟨rfl,trivial,⟨rfl,rfl,trivial⟩,⟨oR,oV (renV (rowsC_isV _)),oV (renV (rowsC_isV _)),oV (renV (rowsC_isV _)),oV (renV (rowsC_isV _)),oV (renV (rowsC_isV _)),trivial⟩⟩
 have hc:=eq_of_dec hi hc
 rw[hc,List.drop_length]at hx
 have hx:d.bls.all (fun b=>blOk b.c)=true:=hx
 rw[hx,Bool.true_and]at hR
 refine vv ?_
 refine CallQ.h 160 (rnames_ d.ou d.ous hd.ou hs.ous.1 hs.ous.2) hH rfl ?_
 refine vv ?_
 exact RetQ.bool (hR C hL) rfl ⟨rfl,trivial⟩ rfl
end Go.Proofs.YtlnpgbnhcondjaaGreatDoor.Fx
