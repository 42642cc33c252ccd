/-  -/
import Derived.Test.YtlnpgbnhcondjaaGreatDoorPS
import Derived.Test.YtlnpgbnhcondjaaGreatDoorQ4
namespace Go.Proofs.YtlnpgbnhcondjaaGreatDoor.Fx
open Vg Tf
set_option linter.unusedSimpArgs false
set_option linter.unusedVariables false
set_option maxRecDepth 100000
set_option maxHeartbeats 4000000
theorem far_ (n:Int):CallOk Tryz.prog 210 [I n] [] (Bo (!nearB n)) []:=by
 refine CallOk.mkN 100 Tryz.func210 rfl en210 (by simp[Tryz.ntmps210]) (ClA.of rfl) rfl rfl fun C hR hP=>?_
 refine vv ?_
 refine RetQ.bool hR rfl ⟨rfl,trivial⟩ ?_
 unfold nearB
 rw[bor_,←Bool.not_inj_iff,Bool.not_not,Bool.not_or,←decide_not,←decide_not,Bool.eq_iff_iff]
 simp only[Bool.and_eq_true,decide_eq_true_eq];omega
theorem element_ (n:Int):CallOk Tryz.prog 214 [I n] [] (Bo (nearB n)) []:=by
 refine CallOk.mkN 100 Tryz.func214 rfl en214 (by simp[Tryz.ntmps214]) (ClA.of rfl) rfl rfl fun C hR hP=>?_
 refine vv ?_
 refine RetQ.bool hR rfl ⟨rfl,trivial⟩ ?_
 unfold nearB
 rw[band_,Bool.eq_iff_iff]
 simp only[Bool.and_eq_true,decide_eq_true_eq]
theorem fits_ (n:Int):CallOk Tryz.prog 216 [I n] [] (Bo (fitB n)) []:=by
 refine CallOk.mkN 100 Tryz.func216 rfl en216 (by simp[Tryz.ntmps216]) (ClA.of rfl) rfl rfl fun C hR hP=>?_
 refine vv ?_
 refine RetQ.bool hR rfl ⟨rfl,trivial⟩ ?_
 unfold fitB
 rw[band_,Bool.eq_iff_iff]
 simp only[Bool.and_eq_true,decide_eq_true_eq]
theorem svd1 (n:Int):CallOk Tryz.prog 213 [I n] [] (Bo (!nearB n)) []:=by
 refine CallOk.mkN 100 Tryz.func213 rfl en213 (by simp[Tryz.ntmps213]) (ClA.of rfl) rfl rfl fun C hR hP=>?_
 refine vv ?_
 refine CallQ.pure 110 (element_ n) rfl ?_
 refine vv ?_
 exact RetQ.bool hR rfl ⟨rfl,trivial⟩ rfl
theorem any_far (l:List Int):l.any (fun n=> !nearB n)= !(l.all nearB):=by
 rw[List.all_eq_not_any_not,Bool.not_not]
theorem caxis {H:Hp}(s:Sv)(l:List Int)(hs:SlH H (vsl s l.length) 1 (intsR l))(hl:l.length≤1000000000000000):CallH H Tryz.prog 208 [.c (.v (vsl s l.length))] (Bo (axOk l)):=by
 have hcon:=cofI (H:=H) s l hs hl 210 #[] (fun n=> !nearB n) (fun x _=>(far_ x).toH)
 rw[any_far]at hcon
 have e1:decide ((l.length:Int)<2)= !decide (2≤l.length):=by rw[←decide_not,decide_eq_decide];omega
 have e2:decide ((32:Int)<(l.length:Int))= !decide (l.length≤32):=by rw[←decide_not,decide_eq_decide];omega
 refine CallH.mkS Tryz.func208 rfl en208 (by simp[Tryz.ntmps208]) (ClA.of rfl) fun C hR hP hH hL=>?_
 refine Sm.go 100 ?_
 simp(maxSteps:=2000000) only[go_sem,e1,e2]
 refine CallQ.hg 110 (fun _=>hcon) hH (fun h=>by rw[h];rfl) ?_
 refine vv ?_
 have hax:axOk l=((decide (2≤l.length)&&decide (l.length≤32))&&(l.all nearB&&incB l)):=by unfold axOk;rw[Bool.decide_and]
 rw[hax]at hR
 cases h1:decide (2≤l.length)with
 |false=>
  rw[h1]at hR
  refine vv ?_
  exact RetQ.bool (hR C hL) rfl ⟨rfl,trivial⟩ rfl
 |true=>
 cases h2:decide (l.length≤32)with
 |false=>
  rw[h1,h2]at hR
  refine vv ?_
  exact RetQ.bool (hR C hL) rfl ⟨rfl,trivial⟩ rfl
 |true=>
 cases h3:l.all nearB with
 |false=>
  rw[h1,h2,h3]at hR
  refine vv ?_
  exact RetQ.bool (hR C hL) rfl ⟨rfl,trivial⟩ rfl
 |true=>
 rw[h1,h2,h3]at hR
 simp only[decide_eq_true_eq]at h1 h2
 have w1:IntKind.i64.wrap ((l.length:Int)-1)=((l.length-1:Nat):Int):=by rw[w64 (by omega) (by omega)];omega
 simp(maxSteps:=2000000) only[go_sem,w1]
 refine Sm.bringI 1 3 0 (hs.mono hH) rfl rfl ?_
 refine Sm.loopM (M0:=[]) (α:={i:Nat//i≤l.length-1∧incB l=incB (l.drop i)}) hP (fun i=>[(0,true,.c (.sl 1 0 l.length 1)),(18,true,I ((l.length-1:Nat):Int)),(19,true,I i.val)]) (fun _=>[(1,⟨true,l.map iC,3⟩)]) (fun i=>l.length-i.val) ⟨0,by omega,rfl⟩ (fun _=>ClM.v (by simp only[List.all_cons,v_iC];rfl)) (fun _=>ClE.of rfl) [(1,1)] ?_ ?_
 ·exact⟨rfl,trivial,⟨rfl,rfl,rfl,trivial⟩,⟨.inr ⟨_,rfl,.inl (renV (v_iC _))⟩,trivial⟩⟩
 ·rintro⟨i,hi,hx⟩ J hb
  simp only at hb hi hx⊢
  refine Sm.go 120 ?_
  refine vv ?_
  refine mtch (fun hc=>?_) (fun hc=>?_)
  ·have hc:=lt_of_dec hc
   have hi1:i+1<l.length:=by omega
   have hd:l.drop i=l[i]::l[i+1]::l.drop (i+2):=by
    rw[List.drop_eq_getElem_cons (by omega),List.drop_eq_getElem_cons hi1]
   have hd1:l.drop (i+1)=l[i+1]::l.drop (i+2):=List.drop_eq_getElem_cons hi1
   rw[hd,incB,←hd1]at hx
   have w2:=wS (show i≤1000000000000000000 by omega)
   have e3:(l.map iC)[i]?=some (iC l[i]):=get_iC (by omega)
   have e4:(l.map iC)[i+1]?=some (iC l[i+1]):=get_iC hi1
   refine Sm.dg 130 9 mix ?_
   simp(maxSteps:=2000000) only[go_sem,w2,e3,e4]
   refine⟨⟨by omega,by omega⟩,⟨by omega,by omega⟩,?_⟩
   refine mtch (fun hd=>?_) (fun hd=>?_)
   ·have hq:decide (l[i]<l[i+1])=false:=fal_of (by have:=of_decide_eq_true hd;omega)
    rw[hq]at hx
    exact RetQ.bool (hR C hL) rfl ⟨rfl,trivial⟩ (by rw[hx];rfl)
   ·have hq:decide (l[i]<l[i+1])=true:=tru_of (by have:=of_decide_eq_false hd;omega)
    rw[hq,Bool.true_and]at hx
    refine Sm.go 130 ?_
    simp(maxSteps:=2000000) only[go_sem,w2]
    exact hb _ _ ⟨i+1,by omega,hx⟩ [(1,1)] (by simp only;omega) ⟨rfl,trivial,⟨rfl,rfl,rfl,trivial⟩,⟨.inr ⟨_,rfl,.inl (renV (v_iC _))⟩,trivial⟩⟩
  ·have hc:=eq_of_dec hi hc
   have hd:l.drop i=[l[i]]:=by
    rw[List.drop_eq_getElem_cons (by omega),List.drop_eq_nil_of_le (by omega)]
   rw[hd]at hx
   exact RetQ.bool (hR C hL) rfl ⟨rfl,trivial⟩ (by rw[hx];rfl)
theorem cvalid {H:Hp}(x y:Sv)(xs ys:List Int)(hx:SlH H (vsl x xs.length) 1 (intsR xs))(hy:SlH H (vsl y ys.length) 1 (intsR ys))(hlx:xs.length≤1000000000000000)(hly:ys.length≤1000000000000000):
  CallH H Tryz.prog 109 [.agg [.v (vsl x xs.length),.v (vsl y ys.length)]] (Bo (cuOk xs ys)):=by
 have hcon:=cofI (H:=H) y ys hy hly 210 #[] (fun n=> !nearB n) (fun x _=>(far_ x).toH)
 rw[any_far]at hcon
 have e1:((xs.length:Int)==(ys.length:Int))=decide (xs.length=ys.length):=by rw[Bool.eq_iff_iff,beq_iff_eq,decide_eq_true_eq];omega
 refine CallH.mkS Tryz.func109 rfl en109 (by simp[Tryz.ntmps109]) (ClA.of rfl) fun C hR hP hH hL=>?_
 refine Sm.go 100 ?_
 simp(maxSteps:=2000000) only[go_sem,e1]
 refine CallQ.hg 110 (fun _=>caxis x xs hx hlx) hH (fun h=>by rw[h];rfl) ?_
 refine vv ?_
 refine CallQ.hg 110 (fun _=>hcon) hH (fun h=>by rw[h];rfl) ?_
 refine vv ?_
 refine RetQ.bool (hR C hL) rfl ⟨rfl,trivial⟩ ?_
 unfold cuOk
 cases decide (xs.length=ys.length)<;>cases axOk xs<;>cases ys.all nearB<;>rfl
def ltO:Option Int→Int→Bool
 |none,_=>true
 |some q,x=>decide (q<x)
def axG:Option Int→List Int→Bool
 |_,[]=>true
 |p,x::r=>(nearB x&&ltO p x)&&axG (some x) r
theorem axG_some:∀(l:List Int) (q:Int),axG (some q) l=(l.all nearB&&incB (q::l))
 |[],q=>rfl
 |x::r,q=>by
  rw[axG,axG_some r x,incB,List.all_cons]
  show(nearB x&&decide (q<x)&&_)=_
  cases nearB x<;>cases decide (q<x)<;>cases r.all nearB<;>rfl
theorem axG_none (l:List Int):axG none l=(l.all nearB&&incB l):=by
 cases l with
 |nil=>rfl
 |cons x r=>
  rw[axG,axG_some r x,List.all_cons]
  cases nearB x<;>cases r.all nearB<;>rfl
def prv (l:List Int)(i:Nat):Option Int:=if i=0 then none else some (l.getD (i-1) 0)
theorem saxis {H:Hp}(s:Sv)(l:List Int)(hs:SlH H (vsl s l.length) 1 (intsR l)):CallH H Tryz.prog 212 [.c (.v (vsl s l.length))] (Bo (axOk l)):=by
 have e1:decide ((l.length:Int)<2)= !decide (2≤l.length):=by rw[←decide_not,decide_eq_decide];omega
 have e2:decide ((32:Int)<(l.length:Int))= !decide (l.length≤32):=by rw[←decide_not,decide_eq_decide];omega
 have hax:axOk l=((decide (2≤l.length)&&decide (l.length≤32))&&axG none l):=by unfold axOk;rw[axG_none,Bool.decide_and]
 rw[hax]
 refine CallH.mkS Tryz.func212 rfl en212 (by simp[Tryz.ntmps212]) (ClA.of rfl) fun C hR hP hH hL=>?_
 refine Sm.go 100 ?_
 simp(maxSteps:=2000000) only[go_sem,e1,e2]
 cases h1:decide (2≤l.length)with
 |false=>
  rw[h1]at hR
  refine vv ?_
  exact RetQ.bool (hR C hL) rfl ⟨rfl,trivial⟩ rfl
 |true=>
 cases h2:decide (l.length≤32)with
 |false=>
  rw[h1,h2]at hR
  refine vv ?_
  exact RetQ.bool (hR C hL) rfl ⟨rfl,trivial⟩ rfl
 |true=>
 rw[h1,h2]at hR
 simp only[decide_eq_true_eq]at h1 h2
 refine vv ?_
 refine Sm.bringI 1 3 0 (hs.mono hH) rfl rfl ?_
 refine Sm.bringI 2 3 13 (hs.mono hH) rfl rfl ?_
 refine Sm.loopM (M0:=[]) (α:={i:Nat//i≤l.length∧axG none l=axG (prv l i) (l.drop i)}) hP (fun i=>[(0,true,.c (.sl 1 0 l.length 1)),(13,true,.c (.sl 2 0 l.length 1)),(14,true,I l.length),(15,true,I i.val)]) (fun _=>[(1,⟨true,l.map iC,3⟩),(2,⟨true,l.map iC,3⟩)]) (fun i=>l.length-i.val) ⟨0,by omega,rfl⟩ (fun _=>ClM.v (by simp only[List.all_cons,v_iC];rfl)) (fun _=>ClE.of rfl) [(1,1),(2,2)] ?_ ?_
 ·exact⟨rfl,trivial,⟨rfl,rfl,rfl,rfl,trivial⟩,⟨.inr ⟨_,rfl,.inl (renV (v_iC _))⟩,.inr ⟨_,rfl,.inl (renV (v_iC _))⟩,trivial⟩⟩
 ·rintro⟨i,hi,hx⟩ J hb
  simp only at hb hi hx⊢
  refine Sm.go 120 ?_
  refine vv ?_
  refine mtch (fun hc=>?_) (fun hc=>?_)
  ·have hc:=lt_of_dec hc
   rw[List.drop_eq_getElem_cons hc,axG]at hx
   have e3:(l.map iC)[i]?=some (iC l[i]):=get_iC hc
   simp(maxSteps:=2000000) only[go_sem,e3]
   refine⟨⟨by omega,by omega⟩,?_⟩
   refine CallQ.pure 130 (element_ l[i]) rfl ?_
   have w2:=wS (show i≤1000000000000000000 by omega)
   have hnext:axG none l=axG (some l[i]) (l.drop (i+1))→axG none l=axG (prv l (i+1)) (l.drop (i+1)):=fun h=>by
    rw[h,prv,if_neg (by omega),Nat.add_sub_cancel,List.getD_eq_getElem?_getD,List.getElem?_eq_getElem hc];rfl
   cases i with
   |zero=>
    cases h5:nearB l[0]with
    |false=>
     rw[h5]at hx
     simp(maxSteps:=2000000) only[go_sem,e3]
     refine⟨fun h=>(by cases h),?_⟩
     exact RetQ.bool (hR C hL) rfl ⟨rfl,trivial⟩ (by rw[hx];rfl)
    |true=>
     rw[h5]at hx
     simp(maxSteps:=2000000) only[go_sem,e3,w2]
     exact hb _ _ ⟨1,by omega,hnext (by rw[hx];rfl)⟩ [(1,1),(2,2)] (by simp only;omega) ⟨rfl,trivial,⟨rfl,rfl,rfl,rfl,trivial⟩,⟨.inr ⟨_,rfl,.inl (renV (v_iC _))⟩,.inr ⟨_,rfl,.inl (renV (v_iC _))⟩,trivial⟩⟩
   |succ j=>
    have w3:IntKind.i64.wrap (((j+1:Nat):Int)-1)=(j:Int):=by rw[w64 (by omega) (by omega)];omega
    have e4:(l.map iC)[j]?=some (iC l[j]):=get_iC (by omega)
    have e6:decide ((0:Int)<((j+1:Nat):Int))=true:=tru_of (by omega)
    have hp:prv l (j+1)=some l[j]:=by
     rw[prv,if_neg (by omega),Nat.add_sub_cancel,List.getD_eq_getElem?_getD,List.getElem?_eq_getElem (by omega)];rfl
    rw[hp]at hx
    cases h5:nearB l[j+1]with
    |false=>
     rw[h5]at hx
     simp(maxSteps:=2000000) only[go_sem,w3,e4,e6]
     exact RetQ.bool (hR C hL) rfl ⟨rfl,trivial⟩ (by rw[hx];rfl)
    |true=>
     rw[h5]at hx
     simp(maxSteps:=2000000) only[go_sem,w3,e4,e6]
     refine⟨⟨by omega,by omega⟩,?_⟩
     refine mtch (fun hd=>?_) (fun hd=>?_)
     ·have hq:ltO (some l[j]) l[j+1]=false:=fal_of (by have:=of_decide_eq_true hd;omega)
      rw[hq]at hx
      exact RetQ.bool (hR C hL) rfl ⟨rfl,trivial⟩ (by rw[hx];rfl)
     ·have hq:ltO (some l[j]) l[j+1]=true:=tru_of (by have:=of_decide_eq_false hd;omega)
      rw[hq]at hx
      refine Sm.go 130 ?_
      simp(maxSteps:=2000000) only[go_sem,w2]
      exact hb _ _ ⟨j+1+1,by omega,hnext (by rw[hx];rfl)⟩ [(1,1),(2,2)] (by simp only;omega) ⟨rfl,trivial,⟨rfl,rfl,rfl,rfl,trivial⟩,⟨.inr ⟨_,rfl,.inl (renV (v_iC _))⟩,.inr ⟨_,rfl,.inl (renV (v_iC _))⟩,trivial⟩⟩
  ·have hc:=eq_of_dec hi hc
   rw[hc,List.drop_length]at hx
   exact RetQ.bool (hR C hL) rfl ⟨rfl,trivial⟩ (by rw[hx];rfl)
def zrV (m:MpL):List (List Value):=m.zs.map fun v=>[vsl v.1 v.2.length]
theorem zr_get {m:MpL}{i:Nat}(h:i<m.zs.length):(rowsC (zrV m))[i]?=some (.v (.slice m.zs[i].1.o m.zs[i].2.length m.zs[i].1.c)):=by
 have:=rowsC_get (k:=1) (zrV m) (fun r hr=>by obtain⟨x,_,rfl⟩:=List.mem_map.1 hr;rfl) i 0 (by simpa[zrV]using h) (by omega)
 rw[Nat.mul_one,Nat.add_zero]at this
 rw[this]
 simp[zrV]
theorem svalidM {H:Hp}(m:MpL)(hm:m.ok H)(hl:∀v∈m.zs,v.2.length≤1000000000000000):
  CallH H Tryz.prog 112 [.agg [.v (vsl m.x m.xs.length),.v (vsl m.y m.ys.length),.v (vsl m.z m.zs.length)]] (Bo (maOk m.xs m.ys (m.zs.map (·.2)))):=by
 have hmo:maOk m.xs m.ys (m.zs.map (·.2))=(axOk m.xs&&(axOk m.ys&&(decide (m.zs.length=m.xs.length)&&m.zs.all (fun z=>decide (z.2.length=m.ys.length)&&z.2.all nearB)))):=by
  unfold maOk;rw[List.length_map,List.all_map];rfl
 rw[hmo]
 have e1:((m.zs.length:Int)!=(m.xs.length:Int))= !decide (m.zs.length=m.xs.length):=by rw[Bool.eq_iff_iff,bne_iff_ne,Bool.not_eq_true',decide_eq_false_iff_not];omega
 refine CallH.mkS Tryz.func112 rfl en112 (by simp[Tryz.ntmps112]) (ClA.of rfl) fun C hR hP hH hL=>?_
 refine Sm.go 100 ?_
 refine vv ?_
 refine CallQ.h 110 (saxis m.x m.xs hm.x) hH rfl ?_
 refine vv ?_
 refine CallQ.hg 110 (fun _=>saxis m.y m.ys hm.y) hH (fun h=>by rw[h];rfl) ?_
 simp(maxSteps:=2000000) only[go_sem,e1]
 cases h1:axOk m.xs with
 |false=>
  rw[h1]at hR
  refine vv ?_
  exact RetQ.bool (hR C hL) rfl ⟨rfl,trivial⟩ rfl
 |true=>
 cases h2:axOk m.ys with
 |false=>
  rw[h1,h2]at hR
  refine vv ?_
  exact RetQ.bool (hR C hL) rfl ⟨rfl,trivial⟩ rfl
 |true=>
 cases h3:decide (m.zs.length=m.xs.length)with
 |false=>
  rw[h1,h2,h3]at hR
  refine vv ?_
  exact RetQ.bool (hR C hL) rfl ⟨rfl,trivial⟩ rfl
 |true=>
 rw[h1,h2,h3]at hR
 have h3:m.zs.length=m.xs.length:=of_decide_eq_true h3
 have hx32:m.xs.length≤32:=by
  have h1':=h1
  unfold axOk at h1'
  rw[Bool.and_eq_true,decide_eq_true_eq]at h1';exact h1'.1.2
 refine vv ?_
 refine Sm.bringR 1 73 25 (rows:=zrV m) (by have:=hm.z.mono hH;exact this) rfl rfl ?_
 have hzl:(zrV m).length=m.zs.length:=List.length_map _
 rw[hzl]
 refine Sm.loopM (M0:=[]) (α:={i:Nat//i≤m.zs.length∧m.zs.all (fun z=>decide (z.2.length=m.ys.length)&&z.2.all nearB)=(m.zs.drop i).all (fun z=>decide (z.2.length=m.ys.length)&&z.2.all nearB)}) hP (fun i=>[(1,true,.c (.p 5 0)),(25,true,.c (.sl 1 0 m.zs.length 1)),(26,true,I m.zs.length),(27,true,I i.val)])
  (fun _=>[(1,⟨true,rowsC (zrV m),73⟩),(5,⟨false,[.v (vsl m.x m.xs.length),.v (vsl m.y m.ys.length),.v (vsl m.z m.zs.length)],113⟩)]) (fun i=>m.zs.length-i.val) ⟨0,by omega,rfl⟩ (fun _=>ClM.of (by simp only[List.all_cons,inMV (rowsC_isV _)];rfl)) (fun _=>ClE.of rfl) [(1,1),(5,100)] ?_ ?_
 ·exact⟨rfl,trivial,⟨rfl,rfl,rfl,rfl,trivial⟩,⟨.inr ⟨_,rfl,.inl (renV (rowsC_isV _))⟩,.inr ⟨_,rfl,.inl rfl⟩,trivial⟩⟩
 ·rintro⟨i,hi,hx⟩ J hb
  simp only at hb hi hx⊢
  refine Sm.go 120 ?_
  refine vv ?_
  refine mtch (fun hc=>?_) (fun hc=>?_)
  ·have hc:=lt_of_dec hc
   rw[List.drop_eq_getElem_cons hc,List.all_cons]at hx
   have e3:=zr_get hc
   have hmem:m.zs[i]∈m.zs:=List.getElem_mem hc
   have e4:((m.zs[i].2.length:Int)!=(m.ys.length:Int))= !decide (m.zs[i].2.length=m.ys.length):=by rw[Bool.eq_iff_iff,bne_iff_ne,Bool.not_eq_true',decide_eq_false_iff_not];omega
   have hcon:=cofI (H:=H) m.zs[i].1 m.zs[i].2 (hm.e _ hmem) (hl _ hmem) 213 #[] (fun n=> !nearB n) (fun x _=>(svd1 x).toH)
   rw[any_far]at hcon
   simp(maxSteps:=2000000) only[go_sem,e3,e4]
   refine⟨⟨by omega,by omega⟩,?_⟩
   refine CallQ.hg 130 (fun _=>hcon) hH (fun h=>by rw[h];rfl) ?_
   refine vv ?_
   refine mtch (fun hd=>?_) (fun hd=>?_)
   ·refine RetQ.bool (hR C hL) rfl ⟨rfl,trivial⟩ ?_
    rw[hx]
    generalize decide (m.zs[i].2.length=m.ys.length)=a at*
    generalize m.zs[i].2.all nearB=b at*
    cases a<;>cases b<;>simp_all
   ·simp only[wS (show i≤1000000000000000000 by omega)]
    refine hb _ _ ⟨i+1,hc,?_⟩ [(1,1),(5,5)] (by simp only;omega) ⟨rfl,trivial,⟨rfl,rfl,rfl,rfl,trivial⟩,⟨.inr ⟨_,rfl,.inl (renV (rowsC_isV _))⟩,.inr ⟨_,rfl,.inl rfl⟩,trivial⟩⟩
    rw[hx]
    generalize decide (m.zs[i].2.length=m.ys.length)=a at*
    generalize m.zs[i].2.all nearB=b at*
    cases a<;>cases b<;>simp_all
  ·have hc:=eq_of_dec hi hc
   rw[hc,List.drop_length]at hx
   exact RetQ.bool (hR C hL) rfl ⟨rfl,trivial⟩ (by rw[hx];rfl)
end Go.Proofs.YtlnpgbnhcondjaaGreatDoor.Fx
