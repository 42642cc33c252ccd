/-  -/
import Derived.Test.YtlnpgbnhcondjaaGreatDoorPS
import Derived.Test.YtlnpgbnhcondjaaGreatDoorQ7
import Derived.Test.YtlnpgbnhcondjaaGreatDoorRW
import Derived.Test.YtlnpgbnhcondjaaGreatDoorU5
import Derived.Test.YtlnpgbnhcondjaaGreatDoorRI
namespace Go.Proofs.YtlnpgbnhcondjaaGreatDoor.Fx
open Vg Tf
set_option linter.unusedSimpArgs false
set_option linter.unusedVariables false
set_option maxRecDepth 100000
set_option maxHeartbeats 4000000
theorem rFits_ (n:Int):CallOk Tryz.prog 200 [I n] [] (Bo (nearB n)) []:=by
 refine CallOk.mkN 100 Tryz.func200 rfl en200 (by simp[Tryz.ntmps200]) (ClA.of rfl) rfl rfl fun C hR hP=>?_
 refine vv ?_
 refine RetQ.bool hR rfl ⟨rfl,trivial⟩ ?_
 unfold nearB
 rw[band_,Bool.eq_iff_iff]
 simp only[Bool.and_eq_true,decide_eq_true_eq]
theorem rfar_ (n:Int):CallOk Tryz.prog 202 [I n] [] (Bo (!nearB n)) []:=by
 refine CallOk.mkN 100 Tryz.func202 rfl en202 (by simp[Tryz.ntmps202]) (ClA.of rfl) rfl rfl fun C hR hP=>?_
 refine vv ?_
 refine RetQ.bool hR rfl ⟨rfl,trivial⟩ ?_
 unfold nearB
 rw[bor_,←Bool.not_inj_iff,Bool.not_not,Bool.not_or,←decide_not,←decide_not,Bool.eq_iff_iff]
 simp only[Bool.and_eq_true,decide_eq_true_eq];omega
theorem rnum_ (n:Int):CallOk Tryz.prog 95 [I n] [] (Bo (fitB n)) []:=by
 refine CallOk.mkN 100 Tryz.func95 rfl en95 (by simp[Tryz.ntmps95]) (ClA.of rfl) rfl rfl fun C hR hP=>?_
 refine vv ?_
 refine RetQ.bool hR rfl ⟨rfl,trivial⟩ ?_
 unfold fitB
 rw[band_,Bool.eq_iff_iff]
 simp only[Bool.and_eq_true,decide_eq_true_eq]
theorem rType_ (t:Ft):CallOk Tryz.prog 92 [fx t] [] (Bo (fok t)) []:=by
 refine CallOk.mkN 100 Tryz.func92 rfl en92 (by simp[Tryz.ntmps92]) (ClA.of rfl) rfl rfl fun C hR hP=>?_
 refine vv ?_
 refine CallQ.guard 110 (fun _=>rValid ⟨t.m,t.kg,t.s,t.a,t.k⟩) (fun h=>by rw[h];rfl) ?_
 refine vv ?_
 refine RetQ.bool hR rfl ⟨rfl,trivial⟩ ?_
 unfold fok uokU
 rw[Bool.eq_iff_iff]
 simp only[band_,bor_,Bool.and_eq_true,Bool.or_eq_true,decide_eq_true_eq,beq_iff_eq,and_assoc,or_assoc]
theorem rnames_ {H:Hp}(s:Sv)(l:List Str)(hs:SlH H (vsl s l.length) 1 (strsR l))(hl:l.length≤1000000000000000)(h6:∀x∈l,x.length≤1000000000000000):CallH H Tryz.prog 97 [.c (.v (vsl s l.length))] (Bo (l.all nmOk)):=by
 refine CallH.mkS Tryz.func97 rfl en97 (by simp[Tryz.ntmps97]) (ClA.of rfl) fun C hR hP hH hL=>?_
 refine Sm.bringS 1 9 0 (hs.mono hH) rfl rfl ?_
 refine Sm.go 100 ?_
 refine vv ?_
 refine Sm.loopM (M0:=[]) (α:={i:Nat//i≤l.length∧l.all nmOk=(l.drop i).all nmOk}) hP (fun i=>[(0,true,.c (.sl 1 0 l.length 1)),(3,true,I i.val)]) (fun _=>[(1,⟨true,l.map sC,9⟩)]) (fun i=>l.length-i.val) ⟨0,by omega,rfl⟩ (fun _=>ClM.of (by simp only[List.all_cons,inMV (v_sC _)];rfl)) (fun _=>ClE.of rfl) [(1,1)] ?_ ?_
 ·exact⟨rfl,trivial,⟨rfl,rfl,trivial⟩,⟨.inr ⟨_,rfl,.inl (renV (v_sC _))⟩,trivial⟩⟩
 rintro⟨i,hi,hx⟩ J hb
 simp only at hb hi hx⊢
 refine Sm.go 120 ?_
 refine vv ?_
 refine mtch (fun hc=>?_) (fun hc=>?_)
 ·have hc:=lt_of_dec hc
  rw[List.drop_eq_getElem_cons hc,List.all_cons]at hx
  simp(maxSteps:=2000000) only[go_sem,get_sC hc]
  refine⟨⟨by omega,by omega⟩,?_⟩
  refine CallQ.pure 130 (rName_ l[i] (h6 _ (List.getElem_mem hc))) rfl ?_
  cases h5:nmOk l[i]with
  |false=>
   rw[h5]at hx
   refine vv ?_
   exact RetQ.bool (hR C hL) rfl ⟨rfl,trivial⟩ (by rw[hx];rfl)
  |true=>
   rw[h5,Bool.true_and]at hx
   simp(maxSteps:=2000000) only[go_sem,wS (show i≤1000000000000000000 by omega)]
   exact hb _ _ ⟨i+1,hc,hx⟩ [(1,1)] (by simp only;omega) ⟨rfl,trivial,⟨rfl,rfl,trivial⟩,⟨.inr ⟨_,rfl,.inl (renV (v_sC _))⟩,trivial⟩⟩
 ·have hc:=eq_of_dec hi hc
  rw[hc,List.drop_length]at hx
  exact RetQ.bool (hR C hL) rfl ⟨rfl,trivial⟩ (by rw[hx];rfl)
theorem rAxis5_ {H:Hp}(s:Sv)(l:List Int)(hs:SlH H (vsl s l.length) 1 (intsR l)):CallH H Tryz.prog 199 [.c (.v (vsl s l.length))] (Bo (axOk l)):=by
 have e1:decide ((l.length:Int)<2)= !decide (2≤l.length):=by rw[←decide_not,decide_eq_decide];omega
 have e2:decide ((32:Int)<(l.length:Int))= !decide (l.length≤32):=by rw[←decide_not,decide_eq_decide];omega
 have hax:axOk l=((decide (2≤l.length)&&decide (l.length≤32))&&axG none l):=by unfold axOk;rw[axG_none,Bool.decide_and]
 rw[hax]
 refine CallH.mkS Tryz.func199 rfl en199 (by simp[Tryz.ntmps199]) (ClA.of rfl) fun C hR hP hH hL=>?_
 refine Sm.go 100 ?_
 simp(maxSteps:=2000000) only[go_sem,e1,e2]
 cases h1:decide (2≤l.length)with
 |false=>
  rw[h1]at hR
  refine vv ?_
  exact RetQ.bool (hR C hL) rfl ⟨rfl,trivial⟩ rfl
 |true=>
 cases h2:decide (l.length≤32)with
 |false=>
  rw[h1,h2]at hR
  refine vv ?_
  exact RetQ.bool (hR C hL) rfl ⟨rfl,trivial⟩ rfl
 |true=>
 rw[h1,h2]at hR
 simp only[decide_eq_true_eq]at h1 h2
 refine vv ?_
 refine Sm.bringI 1 3 0 (hs.mono hH) rfl rfl ?_
 refine Sm.loopM (M0:=[]) (α:={i:Nat//i≤l.length∧axG none l=axG (prv l i) (l.drop i)}) hP (fun i=>[(0,true,.c (.sl 1 0 l.length 1)),(3,true,I i.val)]) (fun _=>[(1,⟨true,l.map iC,3⟩)]) (fun i=>l.length-i.val) ⟨0,by omega,rfl⟩ (fun _=>ClM.of (by simp only[List.all_cons,inMV (v_iC _)];rfl)) (fun _=>ClE.of rfl) [(1,1)] ?_ ?_
 ·exact⟨rfl,trivial,⟨rfl,rfl,trivial⟩,⟨.inr ⟨_,rfl,.inl (renV (v_iC _))⟩,trivial⟩⟩
 rintro⟨i,hi,hx⟩ J hb
 simp only at hb hi hx⊢
 refine Sm.go 120 ?_
 refine vv ?_
 refine mtch (fun hc=>?_) (fun hc=>?_)
 ·have hc:=lt_of_dec hc
  rw[List.drop_eq_getElem_cons hc,axG]at hx
  have e3:(l.map iC)[i]?=some (iC l[i]):=get_iC hc
  have w2:=wS (show i≤1000000000000000000 by omega)
  have hnext:axG none l=axG (some l[i]) (l.drop (i+1))→axG none l=axG (prv l (i+1)) (l.drop (i+1)):=fun h=>by
   rw[h,prv,if_neg (by omega),Nat.add_sub_cancel,List.getD_eq_getElem?_getD,List.getElem?_eq_getElem hc];rfl
  refine Sm.dg 130 19 mix ?_
  simp(maxSteps:=2000000) only[go_sem,e3]
  refine⟨⟨by omega,by omega⟩,?_⟩
  refine DCallQ.pure 140 (rFits_ l[i]) rfl ?_
  cases i with
  |zero=>
   cases h5:nearB l[0]with
   |false=>
    rw[h5]at hx
    simp(maxSteps:=2000000) only[go_sem,e3]
    refine⟨fun h=>absurd h (by decide),fun h=>absurd h (by decide),?_⟩
    exact RetQ.bool (hR C hL) rfl ⟨rfl,trivial⟩ (by rw[hx];rfl)
   |true=>
    rw[h5]at hx
    simp(maxSteps:=2000000) only[go_sem,e3]
    refine Sm.go 140 ?_
    simp(maxSteps:=2000000) only[go_sem,w2]
    exact hb _ _ ⟨1,by omega,hnext (by rw[hx];rfl)⟩ [(1,1)] (by simp only;omega) ⟨rfl,trivial,⟨rfl,rfl,trivial⟩,⟨.inr ⟨_,rfl,.inl (renV (v_iC _))⟩,trivial⟩⟩
  |succ j=>
   have w3:IntKind.i64.wrap (((j+1:Nat):Int)-1)=(j:Int):=by rw[w64 (by omega) (by omega)];omega
   have e4:(l.map iC)[j]?=some (iC l[j]):=get_iC (by omega)
   have e6:decide ((0:Int)<((j+1:Nat):Int))=true:=tru_of (by omega)
   have hp:prv l (j+1)=some l[j]:=by
    rw[prv,if_neg (by omega),Nat.add_sub_cancel,List.getD_eq_getElem?_getD,List.getElem?_eq_getElem (by omega)];rfl
   rw[hp]at hx
   cases h5:nearB l[j+1]with
   |false=>
    rw[h5]at hx
    simp(maxSteps:=2000000) only[go_sem,w3,e3,e4,e6]
    exact RetQ.bool (hR C hL) rfl ⟨rfl,trivial⟩ (by rw[hx];rfl)
   |true=>
    rw[h5]at hx
    simp(maxSteps:=2000000) only[go_sem,w3,e3,e4,e6]
    refine⟨⟨by omega,by omega⟩,⟨by omega,by omega⟩,?_⟩
    refine mtch (fun hd=>?_) (fun hd=>?_)
    ·have hq:ltO (some l[j]) l[j+1]=false:=fal_of (by have:=of_decide_eq_true hd;omega)
     rw[hq]at hx
     exact RetQ.bool (hR C hL) rfl ⟨rfl,trivial⟩ (by rw[hx];rfl)
    ·have hq:ltO (some l[j]) l[j+1]=true:=tru_of (by have:=of_decide_eq_false hd;omega)
     rw[hq]at hx
     refine Sm.go 140 ?_
     simp(maxSteps:=2000000) only[go_sem,w2]
     exact hb _ _ ⟨j+1+1,by omega,hnext (by rw[hx];rfl)⟩ [(1,1)] (by simp only;omega) ⟨rfl,trivial,⟨rfl,rfl,trivial⟩,⟨.inr ⟨_,rfl,.inl (renV (v_iC _))⟩,trivial⟩⟩
 ·have hc:=eq_of_dec hi hc
  rw[hc,List.drop_length]at hx
  exact RetQ.bool (hR C hL) rfl ⟨rfl,trivial⟩ (by rw[hx];rfl)
theorem rAxis6_ {H:Hp}(s:Sv)(l:List Int)(hs:SlH H (vsl s l.length) 1 (intsR l)):CallH H Tryz.prog 201 [.c (.v (vsl s l.length))] (Bo (axOk l)):=by
 have e1:decide ((l.length:Int)<2)= !decide (2≤l.length):=by rw[←decide_not,decide_eq_decide];omega
 have e2:decide ((32:Int)<(l.length:Int))= !decide (l.length≤32):=by rw[←decide_not,decide_eq_decide];omega
 have hax:axOk l=((decide (2≤l.length)&&decide (l.length≤32))&&axG none l):=by unfold axOk;rw[axG_none,Bool.decide_and]
 rw[hax]
 refine CallH.mkS Tryz.func201 rfl en201 (by simp[Tryz.ntmps201]) (ClA.of rfl) fun C hR hP hH hL=>?_
 refine Sm.go 100 ?_
 simp(maxSteps:=2000000) only[go_sem,e1,e2]
 cases h1:decide (2≤l.length)with
 |false=>
  rw[h1]at hR
  refine vv ?_
  exact RetQ.bool (hR C hL) rfl ⟨rfl,trivial⟩ rfl
 |true=>
 cases h2:decide (l.length≤32)with
 |false=>
  rw[h1,h2]at hR
  refine vv ?_
  exact RetQ.bool (hR C hL) rfl ⟨rfl,trivial⟩ rfl
 |true=>
 rw[h1,h2]at hR
 simp only[decide_eq_true_eq]at h1 h2
 refine vv ?_
 refine Sm.bringI 1 3 0 (hs.mono hH) rfl rfl ?_
 refine Sm.loopM (M0:=[]) (α:={i:Nat//i≤l.length∧axG none l=axG (prv l i) (l.drop i)}) hP (fun i=>[(0,true,.c (.sl 1 0 l.length 1)),(3,true,I i.val)]) (fun _=>[(1,⟨true,l.map iC,3⟩)]) (fun i=>l.length-i.val) ⟨0,by omega,rfl⟩ (fun _=>ClM.of (by simp only[List.all_cons,inMV (v_iC _)];rfl)) (fun _=>ClE.of rfl) [(1,1)] ?_ ?_
 ·exact⟨rfl,trivial,⟨rfl,rfl,trivial⟩,⟨.inr ⟨_,rfl,.inl (renV (v_iC _))⟩,trivial⟩⟩
 rintro⟨i,hi,hx⟩ J hb
 simp only at hb hi hx⊢
 refine Sm.go 120 ?_
 refine vv ?_
 refine mtch (fun hc=>?_) (fun hc=>?_)
 ·have hc:=lt_of_dec hc
  rw[List.drop_eq_getElem_cons hc,axG]at hx
  have e3:(l.map iC)[i]?=some (iC l[i]):=get_iC hc
  have w2:=wS (show i≤1000000000000000000 by omega)
  have hnext:axG none l=axG (some l[i]) (l.drop (i+1))→axG none l=axG (prv l (i+1)) (l.drop (i+1)):=fun h=>by
   rw[h,prv,if_neg (by omega),Nat.add_sub_cancel,List.getD_eq_getElem?_getD,List.getElem?_eq_getElem hc];rfl
  refine Sm.dg 130 18 mix ?_
  simp(maxSteps:=2000000) only[go_sem,e3]
  refine⟨⟨by omega,by omega⟩,?_⟩
  refine DCallQ.pure 140 (rfar_ l[i]) rfl ?_
  cases i with
  |zero=>
   cases h5:nearB l[0]with
   |false=>
    rw[h5]at hx
    simp(maxSteps:=2000000) only[go_sem,e3]
    refine⟨fun h=>absurd h (by decide),fun h=>absurd h (by decide),?_⟩
    exact RetQ.bool (hR C hL) rfl ⟨rfl,trivial⟩ (by rw[hx];rfl)
   |true=>
    rw[h5]at hx
    simp(maxSteps:=2000000) only[go_sem,e3]
    refine Sm.go 140 ?_
    simp(maxSteps:=2000000) only[go_sem,w2]
    exact hb _ _ ⟨1,by omega,hnext (by rw[hx];rfl)⟩ [(1,1)] (by simp only;omega) ⟨rfl,trivial,⟨rfl,rfl,trivial⟩,⟨.inr ⟨_,rfl,.inl (renV (v_iC _))⟩,trivial⟩⟩
  |succ j=>
   have w3:IntKind.i64.wrap (((j+1:Nat):Int)-1)=(j:Int):=by rw[w64 (by omega) (by omega)];omega
   have e4:(l.map iC)[j]?=some (iC l[j]):=get_iC (by omega)
   have e6:decide ((0:Int)<((j+1:Nat):Int))=true:=tru_of (by omega)
   have hp:prv l (j+1)=some l[j]:=by
    rw[prv,if_neg (by omega),Nat.add_sub_cancel,List.getD_eq_getElem?_getD,List.getElem?_eq_getElem (by omega)];rfl
   rw[hp]at hx
   cases h5:nearB l[j+1]with
   |false=>
    rw[h5]at hx
    simp(maxSteps:=2000000) only[go_sem,w3,e3,e4,e6]
    exact RetQ.bool (hR C hL) rfl ⟨rfl,trivial⟩ (by rw[hx];rfl)
   |true=>
    rw[h5]at hx
    simp(maxSteps:=2000000) only[go_sem,w3,e3,e4,e6]
    refine⟨⟨by omega,by omega⟩,⟨by omega,by omega⟩,?_⟩
    refine mtch (fun hd=>?_) (fun hd=>?_)
    ·have hq:ltO (some l[j]) l[j+1]=false:=fal_of (by have:=of_decide_eq_true hd;omega)
     rw[hq]at hx
     exact RetQ.bool (hR C hL) rfl ⟨rfl,trivial⟩ (by rw[hx];rfl)
    ·have hq:ltO (some l[j]) l[j+1]=true:=tru_of (by have:=of_decide_eq_false hd;omega)
     rw[hq]at hx
     refine Sm.go 140 ?_
     simp(maxSteps:=2000000) only[go_sem,w2]
     exact hb _ _ ⟨j+1+1,by omega,hnext (by rw[hx];rfl)⟩ [(1,1)] (by simp only;omega) ⟨rfl,trivial,⟨rfl,rfl,trivial⟩,⟨.inr ⟨_,rfl,.inl (renV (v_iC _))⟩,trivial⟩⟩
 ·have hc:=eq_of_dec hi hc
  rw[hc,List.drop_length]at hx
  exact RetQ.bool (hR C hL) rfl ⟨rfl,trivial⟩ (by rw[hx];rfl)
theorem rcuOk_ {H:Hp}(x y:Sv)(xs ys:List Int)(hx:SlH H (vsl x xs.length) 1 (intsR xs))(hy:SlH H (vsl y ys.length) 1 (intsR ys))(hly:ys.length≤1000000000000000):
  CallH H Tryz.prog 93 [.agg [.v (vsl x xs.length),.v (vsl y ys.length)]] (Bo (cuOk xs ys)):=by
 have e1:((ys.length:Int)!=(xs.length:Int))= !decide (xs.length=ys.length):=by rw[Bool.eq_iff_iff,bne_iff_ne,Bool.not_eq_true',decide_eq_false_iff_not];omega
 refine CallH.mkS Tryz.func93 rfl en93 (by simp[Tryz.ntmps93]) (ClA.of rfl) fun C hR hP hH hL=>?_
 refine Sm.go 100 ?_
 refine vv ?_
 refine CallQ.h 110 (rAxis5_ x xs hx) hH rfl ?_
 simp(maxSteps:=2000000) only[go_sem,e1]
 unfold cuOk at hR
 cases h1:decide (xs.length=ys.length)with
 |false=>
  rw[h1]at hR
  cases axOk xs<;>(simp(maxSteps:=2000000) only[go_sem];exact RetQ.bool (hR C hL) rfl ⟨rfl,trivial⟩ rfl)
 |true=>
 rw[h1]at hR
 cases h2:axOk xs with
 |false=>
  rw[h2]at hR
  refine vv ?_
  exact RetQ.bool (hR C hL) rfl ⟨rfl,trivial⟩ rfl
 |true=>
 rw[h2]at hR
 refine vv ?_
 refine Sm.bringC 1 3 100 1 (hy.mono hH) rfl rfl rfl ?_
 rw[intsC,show(intsR ys).length=ys.length by simp[intsR]]
 refine Sm.loopM (M0:=[]) (α:={i:Nat//i≤ys.length∧ys.all nearB=(ys.drop i).all nearB}) hP (fun i=>[(1,true,.c (.p 2 0)),(3,true,I i.val)]) (fun _=>[(2,⟨false,[.v (vsl x xs.length),.sl 1 0 ys.length 1],108⟩),(1,⟨true,ys.map iC,3⟩)]) (fun i=>ys.length-i.val) ⟨0,by omega,rfl⟩ (fun _=>ClM.of (by simp only[List.all_cons,inMV (v_iC _)];rfl)) (fun _=>ClE.of rfl) [(2,100),(1,1)] ?_ ?_
 ·exact⟨rfl,trivial,⟨rfl,rfl,trivial⟩,⟨.inr ⟨_,rfl,.inl rfl⟩,.inr ⟨_,rfl,.inl (renV (v_iC _))⟩,trivial⟩⟩
 rintro⟨i,hi,hx⟩ J hb
 simp only at hb hi hx⊢
 refine Sm.go 120 ?_
 refine vv ?_
 refine mtch (fun hc=>?_) (fun hc=>?_)
 ·have hc:=lt_of_dec hc
  rw[List.drop_eq_getElem_cons hc,List.all_cons]at hx
  simp(maxSteps:=2000000) only[go_sem,get_iC hc]
  refine⟨⟨by omega,by omega⟩,?_⟩
  refine CallQ.pure 130 (rFits_ ys[i]) rfl ?_
  cases h5:nearB ys[i]with
  |false=>
   rw[h5]at hx
   refine vv ?_
   exact RetQ.bool (hR C hL) rfl ⟨rfl,trivial⟩ (by rw[hx];rfl)
  |true=>
   rw[h5,Bool.true_and]at hx
   simp(maxSteps:=2000000) only[go_sem,wS (show i≤1000000000000000000 by omega)]
   exact hb _ _ ⟨i+1,hc,hx⟩ [(2,2),(1,1)] (by simp only;omega) ⟨rfl,trivial,⟨rfl,rfl,trivial⟩,⟨.inr ⟨_,rfl,.inl rfl⟩,.inr ⟨_,rfl,.inl (renV (v_iC _))⟩,trivial⟩⟩
 ·have hc:=eq_of_dec hi hc
  rw[hc,List.drop_length]at hx
  exact RetQ.bool (hR C hL) rfl ⟨rfl,trivial⟩ (by rw[hx];rfl)
theorem rmaOk_ {H:Hp}(m:MpL)(hm:m.ok H)(hl:∀v∈m.zs,v.2.length≤1000000000000000):
  CallH H Tryz.prog 94 [.agg [.v (vsl m.x m.xs.length),.v (vsl m.y m.ys.length),.v (vsl m.z m.zs.length)]] (Bo (maOk m.xs m.ys (m.zs.map (·.2)))):=by
 have hmo:maOk m.xs m.ys (m.zs.map (·.2))=(axOk m.xs&&(axOk m.ys&&(decide (m.zs.length=m.xs.length)&&m.zs.all (fun z=>decide (z.2.length=m.ys.length)&&z.2.all nearB)))):=by
  unfold maOk;rw[List.length_map,List.all_map];rfl
 rw[hmo]
 have e1:((m.zs.length:Int)!=(m.xs.length:Int))= !decide (m.zs.length=m.xs.length):=by rw[Bool.eq_iff_iff,bne_iff_ne,Bool.not_eq_true',decide_eq_false_iff_not];omega
 refine CallH.mkS Tryz.func94 rfl en94 (by simp[Tryz.ntmps94]) (ClA.of rfl) fun C hR hP hH hL=>?_
 refine Sm.go 100 ?_
 refine vv ?_
 refine CallQ.h 110 (rAxis6_ m.x m.xs hm.x) hH rfl ?_
 refine vv ?_
 refine CallQ.hg 110 (fun _=>rAxis6_ m.y m.ys hm.y) hH (fun h=>by rw[←Bool.not_not (axOk m.xs),h];rfl) ?_
 simp(maxSteps:=2000000) only[go_sem,e1]
 cases h1:axOk m.xs with
 |false=>
  rw[h1]at hR
  refine vv ?_
  exact RetQ.bool (hR C hL) rfl ⟨rfl,trivial⟩ rfl
 |true=>
 cases h2:axOk m.ys with
 |false=>
  rw[h1,h2]at hR
  refine vv ?_
  exact RetQ.bool (hR C hL) rfl ⟨rfl,trivial⟩ rfl
 |true=>
 cases h3:decide (m.zs.length=m.xs.length)with
 |false=>
  rw[h1,h2,h3]at hR
  refine vv ?_
  exact RetQ.bool (hR C hL) rfl ⟨rfl,trivial⟩ rfl
 |true=>
 rw[h1,h2,h3]at hR
 have hl2:m.zs.length≤32:=by
  have h1':=h1
  unfold axOk at h1'
  rw[Bool.and_eq_true,decide_eq_true_eq]at h1'
  rw[of_decide_eq_true h3];exact h1'.1.2
 refine vv ?_
 have hzl:(zrV m).length=m.zs.length:=List.length_map _
 refine Sm.bringC 1 73 100 2 (rows:=zrV m) (hm.z.mono hH) rfl rfl rfl ?_
 rw[hzl]
 refine Sm.loopM (M0:=[]) (α:={i:Nat//i≤m.zs.length∧m.zs.all (fun z=>decide (z.2.length=m.ys.length)&&z.2.all nearB)=(m.zs.drop i).all (fun z=>decide (z.2.length=m.ys.length)&&z.2.all nearB)}) hP (fun i=>[(1,true,.c (.p 2 0)),(3,true,I i.val)])
  (fun _=>[(1,⟨true,rowsC (zrV m),73⟩),(2,⟨false,[.v (vsl m.x m.xs.length),.v (vsl m.y m.ys.length),.sl 1 0 m.zs.length 1],113⟩)]) (fun i=>m.zs.length-i.val) ⟨0,by omega,rfl⟩ (fun _=>ClM.of (by simp only[List.all_cons,inMV (rowsC_isV _)];rfl)) (fun _=>ClE.of rfl) [(1,1),(2,100)] ?_ ?_
 ·exact⟨rfl,trivial,⟨rfl,rfl,trivial⟩,⟨.inr ⟨_,rfl,.inl (renV (rowsC_isV _))⟩,.inr ⟨_,rfl,.inl rfl⟩,trivial⟩⟩
 rintro⟨i,hi,hx⟩ J hb
 simp only at hb hi hx⊢
 refine Sm.go 120 ?_
 refine vv ?_
 refine mtch (fun hc=>?_) (fun hc=>?_)
 ·have hc:=lt_of_dec hc
  rw[List.drop_eq_getElem_cons hc,List.all_cons]at hx
  have e3:=zr_get hc
  have hmem:m.zs[i]∈m.zs:=List.getElem_mem hc
  generalize hz:m.zs[i]=z at*
  have e4:((z.2.length:Int)!=(m.ys.length:Int))= !decide (z.2.length=m.ys.length):=by rw[Bool.eq_iff_iff,bne_iff_ne,Bool.not_eq_true',decide_eq_false_iff_not];omega
  refine Sm.dg 130 9 mix ?_
  simp(maxSteps:=2000000) only[go_sem,e3,e4]
  refine⟨⟨by omega,by omega⟩,?_⟩
  cases h5:decide (z.2.length=m.ys.length)with
  |false=>
   rw[h5]at hx
   refine vv ?_
   exact RetQ.bool (hR C hL) rfl ⟨rfl,trivial⟩ (by rw[hx];rfl)
  |true=>
  have h5':=of_decide_eq_true h5
  rw[h5,Bool.true_and]at hx
  have hzo:=hm.e z hmem
  have hzl2:=hl z hmem
  refine Sm.go 140 ?_
  refine vv ?_
  refine Sm.loopM (M0:=[]) (α:={k:Nat//k≤z.2.length∧z.2.all nearB=(z.2.drop k).all nearB}) hP (fun k=>[(1,true,.c (.p 2 0)),(3,true,I i),(4,true,I k.val)])
   (fun _=>[(1,⟨true,rowsC (zrV m),73⟩),(2,⟨false,[.v (vsl m.x m.xs.length),.v (vsl m.y m.ys.length),.sl 1 0 m.zs.length 1],113⟩)]) (fun k=>z.2.length-k.val) ⟨0,by omega,rfl⟩ (fun _=>ClM.of (by simp only[List.all_cons,inMV (rowsC_isV _)];rfl)) (fun _=>ClE.of rfl) [(1,1),(2,2)] ?_ ?_
  ·exact⟨rfl,trivial,⟨rfl,rfl,rfl,trivial⟩,⟨.inr ⟨_,rfl,.inl (renV (rowsC_isV _))⟩,.inr ⟨_,rfl,.inl rfl⟩,trivial⟩⟩
  rintro⟨k,hk,hy⟩ J2 hb2
  simp only at hb2 hk hy⊢
  refine run_ok 24 _ _ _ 150 ?_
  simp(maxSteps:=2000000) only[go_sem,e3]
  refine mtch (fun hd=>?_) (fun hd=>?_)
  ·have hd:k<z.2.length:=by have:=lt_of_dec hd;omega
   refine⟨⟨by omega,by omega⟩,?_⟩
   refine Sm.bringI 6 3 52 (hzo.mono hH) rfl rfl ?_
   rw[List.drop_eq_getElem_cons hd,List.all_cons]at hy
   refine Sm.go 160 ?_
   simp(maxSteps:=2000000) only[go_sem,get_iC hd]
   refine⟨⟨by omega,by omega⟩,?_⟩
   refine CallQ.pure 170 (rfar_ z.2[k]) rfl ?_
   cases h6:nearB z.2[k]with
   |false=>
    rw[h6]at hy
    refine vv ?_
    exact RetQ.bool (hR C hL) rfl ⟨rfl,trivial⟩ (by rw[hx,hy];rfl)
   |true=>
    rw[h6,Bool.true_and]at hy
    simp(maxSteps:=2000000) only[go_sem,wS (show k≤1000000000000000000 by omega)]
    exact hb2 _ _ ⟨k+1,hd,hy⟩ [(1,1),(2,2)] (by simp only;omega) ⟨rfl,trivial,⟨rfl,rfl,rfl,trivial⟩,⟨.inr ⟨_,rfl,.inl (renV (rowsC_isV _))⟩,.inr ⟨_,rfl,.inl rfl⟩,trivial⟩⟩
  ·have hd:k=z.2.length:=by have:=of_decide_eq_false hd;omega
   rw[hd,List.drop_length]at hy
   rw[hy]at hx
   simp(maxSteps:=2000000) only[go_sem,wS (show i≤1000000000000000000 by omega)]
   exact hb _ _ ⟨i+1,hc,hx⟩ [(1,1),(2,2)] (by simp only;omega) ⟨rfl,trivial,⟨rfl,rfl,trivial⟩,⟨.inr ⟨_,rfl,.inl (renV (rowsC_isV _))⟩,.inr ⟨_,rfl,.inl rfl⟩,trivial⟩⟩
 ·have hc:=eq_of_dec hi hc
  rw[hc,List.drop_length]at hx
  exact RetQ.bool (hR C hL) rfl ⟨rfl,trivial⟩ (by rw[hx];rfl)
end Go.Proofs.YtlnpgbnhcondjaaGreatDoor.Fx
