/-  -/
import Derived.Test.YtlnpgbnhcondjaaGreatDoorTf
import Derived.Test.YtlnpgbnhcondjaaGreatDoorQ4
namespace Go.Proofs.YtlnpgbnhcondjaaGreatDoor.Fx
open Vg Tf
set_option linter.unusedSimpArgs false
set_option linter.unusedVariables false
set_option maxRecDepth 100000
set_option maxHeartbeats 4000000
theorem far_ (n:Int):CallOk Tryz.prog 210 [I n] [] (Bo (!nearB n)) []:=by
 refine CallOk.mkN 100 Tryz.func210 rfl en210 (by simp[Tryz.ntmps210]) (ClA.of rfl) rfl rfl fun C hR hP=>?_
 refine vv ?_
 refine RetQ.bool hR rfl ⟨rfl,trivial⟩ ?_
 unfold nearB
 rw[bor_,←Bool.not_inj_iff,Bool.not_not,Bool.not_or,←decide_not,←decide_not,Bool.eq_iff_iff]
 simp only[Bool.and_eq_true,decide_eq_true_eq];omega
theorem element_ (n:Int):CallOk Tryz.prog 214 [I n] [] (Bo (nearB n)) []:=by
 refine CallOk.mkN 100 Tryz.func214 rfl en214 (by simp[Tryz.ntmps214]) (ClA.of rfl) rfl rfl fun C hR hP=>?_
 refine vv ?_
 refine RetQ.bool hR rfl ⟨rfl,trivial⟩ ?_
 unfold nearB
 rw[band_,Bool.eq_iff_iff]
 simp only[Bool.and_eq_true,decide_eq_true_eq]
theorem fits_ (n:Int):CallOk Tryz.prog 216 [I n] [] (Bo (fitB n)) []:=by
 refine CallOk.mkN 100 Tryz.func216 rfl en216 (by simp[Tryz.ntmps216]) (ClA.of rfl) rfl rfl fun C hR hP=>?_
 refine vv ?_
 refine RetQ.bool hR rfl ⟨rfl,trivial⟩ ?_
 unfold fitB
 rw[band_,Bool.eq_iff_iff]
 simp only[Bool.and_eq_true,decide_eq_true_eq]
theorem svd1 (n:Int):CallOk Tryz.prog 213 [I n] [] (Bo (!nearB n)) []:=by
 refine CallOk.mkN 100 Tryz.func213 rfl en213 (by simp[Tryz.ntmps213]) (ClA.of rfl) rfl rfl fun C hR hP=>?_
 refine vv ?_
 refine CallQ.pure 110 (element_ n) rfl ?_
 refine vv ?_
 exact RetQ.bool hR rfl ⟨rfl,trivial⟩ rfl
theorem any_far (l:List Int):l.any (fun n=> !nearB n)= !(l.all nearB):=by
 rw[List.all_eq_not_any_not,Bool.not_not]
theorem caxis {H:Hp}(s:Sv)(l:List Int)(hs:SlH H (vsl s l.length) 1 (intsR l))(hl:l.length≤1000000000000000):CallH H Tryz.prog 208 [.c (.v (vsl s l.length))] (Bo (axOk l)):=by
 have hcon:=cofI (H:=H) s l hs hl 210 #[] (fun n=> !nearB n) (fun x _=>(far_ x).toH)
 rw[any_far]at hcon
 have e1:decide ((l.length:Int)<2)= !decide (2≤l.length):=by rw[←decide_not,decide_eq_decide];omega
 have e2:decide ((32:Int)<(l.length:Int))= !decide (l.length≤32):=by rw[←decide_not,decide_eq_decide];omega
 refine CallH.mkS Tryz.func208 rfl en208 (by simp[Tryz.ntmps208]) (ClA.of rfl) fun C hR hP hH hL=>?_
 refine Sm.go 100 ?_
 simp(maxSteps:=2000000) only[go_sem,e1,e2]
 refine CallQ.hg 110 (fun _=>hcon) hH (fun h=>by rw[h];rfl) ?_
 refine vv ?_
 have hax:axOk l=((decide (2≤l.length)&&decide (l.length≤32))&&(l.all nearB&&incB l)):=by unfold axOk;rw[Bool.decide_and]
 rw[hax]at hR
 cases h1:decide (2≤l.length)with
 |false=>
  rw[h1]at hR
  refine vv ?_
  exact RetQ.bool (hR C hL) rfl ⟨rfl,trivial⟩ rfl
 |true=>
 cases h2:decide (l.length≤32)with
 |false=>
  rw[h1,h2]at hR
  refine vv ?_
  exact RetQ.bool (hR C hL) rfl ⟨rfl,trivial⟩ rfl
 |true=>
 cases h3:l.all nearB with
 |false=>
  rw[h1,h2,h3]at hR
  refine vv ?_
  exact RetQ.bool (hR C hL) rfl ⟨rfl,trivial⟩ rfl
 |true=>
 rw[h1,h2,h3]at hR
 simp only[decide_eq_true_eq]at h1 h2
 have w1:IntKind.i64.wrap ((l.length:Int)-1)=((l.length-1:Nat):Int):=by rw[w64 (by omega) (by omega)];omega
 simp(maxSteps:=2000000) only[go_sem,w1]
 refine Sm.bringI 1 3 0 (hs.mono hH) rfl rfl ?_
 refine Sm.loopM (M0:=[]) (α:={i:Nat//i≤l.length-1∧incB l=incB (l.drop i)}) hP (fun i=>[(0,true,.c (.sl 1 0 l.length 1)),(18,true,I ((l.length-1:Nat):Int)),(19,true,I i.val)]) (fun _=>[(1,⟨true,l.map iC,3⟩)]) (fun i=>l.length-i.val) ⟨0,by omega,rfl⟩ (fun _=>ClM.v (by simp only[List.all_cons,v_iC];rfl)) (fun _=>ClE.of rfl) [(1,1)] ?_ ?_
 ·exact⟨rfl,trivial,⟨rfl,rfl,rfl,trivial⟩,⟨oV (renV (v_iC _)),trivial⟩⟩
 ·rintro⟨i,hi,hx⟩ J hb
  simp only at hb hi hx⊢
  refine Sm.go 120 ?_
  refine vv ?_
  refine mtch (fun hc=>?_) (fun hc=>?_)
  ·have hc:=lt_of_dec hc
   have hi1:i+1<l.length:=by omega
   have hd:l.drop i=l[i]::l[i+1]::l.drop (i+2):=by
    rw[List.drop_eq_getElem_cons (by omega),List.drop_eq_getElem_cons hi1]
   have hd1:l.drop (i+1)=l[i+1]::l.drop (i+2):=List.drop_eq_getElem_cons hi1
   rw[hd,incB,←hd1]at hx
   have w2:=wS (show i≤1000000000000000000 by omega)
   have e3:(l.map iC)[i]?=some (iC l[i]):=get_iC (by omega)
   have e4:(l.map iC)[i+1]?=some (iC l[i+1]):=get_iC hi1
   refine Sm.dg 130 9 mix ?_
   simp(maxSteps:=2000000) only[go_sem,w2,e3,e4]
   refine⟨⟨by omega,by omega⟩,⟨by omega,by omega⟩,?_⟩
   refine mtch (fun hd=>?_) (fun hd=>?_)
   ·have hq:decide (l[i]<l[i+1])=false:=fal_of (by have:=of_decide_eq_true hd;omega)
    rw[hq]at hx
    exact RetQ.bool (hR C hL) rfl ⟨rfl,trivial⟩ (by rw[hx];rfl)
   ·have hq:decide (l[i]<l[i+1])=true:=tru_of (by have:=of_decide_eq_false hd;omega)
    rw[hq,Bool.true_and]at hx
    refine Sm.go 130 ?_
    simp(maxSteps:=2000000) only[go_sem,w2]
    exact hb _ _ ⟨i+1,by omega,hx⟩ [(1,1)] (by simp only;omega) ⟨rfl,trivial,⟨rfl,rfl,rfl,trivial⟩,⟨oV (renV (v_iC _)),trivial⟩⟩
  ·have hc:=eq_of_dec hi hc
   have hd:l.drop i=[l[i]]:=by
    rw[List.drop_eq_getElem_cons (by omega),List.drop_eq_nil_of_le (by omega)]
   rw[hd]at hx
   exact RetQ.bool (hR C hL) rfl ⟨rfl,trivial⟩ (by rw[hx];rfl)
theorem cvalid {H:Hp}(x y:Sv)(xs ys:List Int)(hx:SlH H (vsl x xs.length) 1 (intsR xs))(hy:SlH H (vsl y ys.length) 1 (intsR ys))(hlx:xs.length≤1000000000000000)(hly:ys.length≤1000000000000000):
  CallH H Tryz.prog 109 [.agg [.v (vsl x xs.length),.v (vsl y ys.length)]] (Bo (cuOk xs ys)):=by
 have hcon:=cofI (H:=H) y ys hy hly 210 #[] (fun n=> !nearB n) (fun x _=>(far_ x).toH)
 rw[any_far]at hcon
 have e1:((xs.length:Int)==(ys.length:Int))=decide (xs.length=ys.length):=by rw[Bool.eq_iff_iff,beq_iff_eq,decide_eq_true_eq];omega
 refine CallH.mkS Tryz.func109 rfl en109 (by simp[Tryz.ntmps109]) (ClA.of rfl) fun C hR hP hH hL=>?_
 refine Sm.go 100 ?_
 simp(maxSteps:=2000000) only[go_sem,e1]
 refine CallQ.hg 110 (fun _=>caxis x xs hx hlx) hH (fun h=>by rw[h];rfl) ?_
 refine vv ?_
 refine CallQ.hg 110 (fun _=>hcon) hH (fun h=>by rw[h];rfl) ?_
 refine vv ?_
 refine RetQ.bool (hR C hL) rfl ⟨rfl,trivial⟩ ?_
 unfold cuOk
 cases decide (xs.length=ys.length)<;>cases axOk xs<;>cases ys.all nearB<;>rfl
def ltO:Option Int→Int→Bool
 |none,_=>true
 |some q,x=>decide (q<x)
def axG:Option Int→List Int→Bool
 |_,[]=>true
 |p,x::r=>(nearB x&&ltO p x)&&axG (some x) r
theorem axG_some:∀(l:List Int) (q:Int),axG (some q) l=(l.all nearB&&incB (q::l))
 |[],q=>rfl
 |x::r,q=>by
  rw[axG,axG_some r x,incB,List.all_cons]
  show(nearB x&&decide (q<x)&&_)=_
  cases nearB x<;>cases decide (q<x)<;>cases r.all nearB<;>rfl
theorem axG_none (l:List Int):axG none l=(l.all nearB&&incB l):=by
 cases l with
 |nil=>rfl
 |cons x r=>
  rw[axG,axG_some r x,List.all_cons]
  cases nearB x<;>cases r.all nearB<;>rfl
def prv (l:List Int)(i:Nat):Option Int:=if i=0 then none else some (l.getD (i-1) 0)
theorem saxis {H:Hp}(s:Sv)(l:List Int)(hs:SlH H (vsl s l.length) 1 (intsR l)):CallH H Tryz.prog 212 [.c (.v (vsl s l.length))] (Bo (axOk l)):=by
 have e1:decide ((l.length:Int)<2)= !decide (2≤l.length):=by rw[←decide_not,decide_eq_decide];omega
 have e2:decide ((32:Int)<(l.length:Int))= !decide (l.length≤32):=by rw[←decide_not,decide_eq_decide];omega
 have hax:axOk l=((decide (2≤l.length)&&decide (l.length≤32))&&axG none l):=by unfold axOk;rw[axG_none,Bool.decide_and]
 rw[hax]
 refine CallH.mkS Tryz.func212 rfl en212 (by simp[Tryz.ntmps212]) (ClA.of rfl) fun C hR hP hH hL=>?_
 refine Sm.go 100 ?_
 simp(maxSteps:=2000000) only[go_sem,e1,e2]
 cases h1:decide (2≤l.length)with
 |false=>
  rw[h1]at hR
  refine vv ?_
  exact RetQ.bool (hR C hL) rfl ⟨rfl,trivial⟩ rfl
 |true=>
 cases h2:decide (l.length≤32)with
 |false=>
  rw[h1,h2]at hR
  refine vv ?_
  exact RetQ.bool (hR C hL) rfl ⟨rfl,trivial⟩ rfl
 |true=>
 rw[h1,h2]at hR
 simp only[decide_eq_true_eq]at h1 h2
 refine vv ?_
 refine Sm.bringI 1 3 0 (hs.mono hH) rfl rfl ?_
 refine Sm.bringI 2 3 13 (hs.mono hH) rfl rfl ?_
 refine Sm.loopM (M0:=[]) (α:={i:Nat//i≤l.length∧axG none l=axG (prv l i) (l.drop i)}) hP (fun i=>[(0,true,.c (.sl 1 0 l.length 1)),(13,true,.c (.sl 2 0 l.length 1)),(14,true,I l.length),(15,true,I i.val)]) (fun _=>[(1,⟨true,l.map iC,3⟩),(2,⟨true,l.map iC,3⟩)]) (fun i=>l.length-i.val) ⟨0,by omega,rfl⟩ (fun _=>ClM.v (by simp only[List.all_cons,v_iC];rfl)) (fun _=>ClE.of rfl) [(1,1),(2,2)] ?_ ?_
 ·exact⟨rfl,trivial,⟨rfl,rfl,rfl,rfl,trivial⟩,⟨oV (renV (v_iC _)),oV (renV (v_iC _)),trivial⟩⟩
 ·rintro⟨i,hi,hx⟩ J hb
  simp only at hb hi hx⊢
  refine Sm.go 120 ?_
  refine vv ?_
  refine mtch (fun hc=>?_) (fun hc=>?_)
  ·have hc:=lt_of_dec hc
   rw[List.drop_eq_getElem_cons hc,axG]at hx
   have e3:(l.map iC)[i]?=some (iC l[i]):=get_iC hc
   simp(maxSteps:=2000000) only[go_sem,e3]
   refine⟨⟨by omega,by omega⟩,?_⟩
   refine CallQ.pure 130 (element_ l[i]) rfl ?_
   have w2:=wS (show i≤1000000000000000000 by omega)
   have hnext:axG none l=axG (some l[i]) (l.drop (i+1))→axG none l=axG (prv l (i+1)) (l.drop (i+1)):=fun h=>by
    rw[h,prv,if_neg (by omega),Nat.add_sub_cancel,List.getD_eq_getElem?_getD,List.getElem?_eq_getElem hc];rfl
   cases i with
   |zero=>
    cases h5:nearB l[0]with
    |false=>
     rw[h5]at hx
     simp(maxSteps:=2000000) only[go_sem,e3]
     refine⟨fun h=>(by cases h),?_⟩
     exact RetQ.bool (hR C hL) rfl ⟨rfl,trivial⟩ (by rw[hx];rfl)
    |true=>
     rw[h5]at hx
     simp(maxSteps:=2000000) only[go_sem,e3,w2]
     exact hb _ _ ⟨1,by omega,hnext (by rw[hx];rfl)⟩ [(1,1),(2,2)] (by simp only;omega) ⟨rfl,trivial,⟨rfl,rfl,rfl,rfl,trivial⟩,⟨oV (renV (v_iC _)),oV (renV (v_iC _)),trivial⟩⟩
   |succ j=>
    have w3:IntKind.i64.wrap (((j+1:Nat):Int)-1)=(j:Int):=by rw[w64 (by omega) (by omega)];omega
    have e4:(l.map iC)[j]?=some (iC l[j]):=get_iC (by omega)
    have e6:decide ((0:Int)<((j+1:Nat):Int))=true:=tru_of (by omega)
    have hp:prv l (j+1)=some l[j]:=by
     rw[prv,if_neg (by omega),Nat.add_sub_cancel,List.getD_eq_getElem?_getD,List.getElem?_eq_getElem (by omega)];rfl
    rw[hp]at hx
    cases h5:nearB l[j+1]with
    |false=>
     rw[h5]at hx
     simp(maxSteps:=2000000) only[go_sem,w3,e4,e6]
     exact RetQ.bool (hR C hL) rfl ⟨rfl,trivial⟩ (by rw[hx];rfl)
    |true=>
     rw[h5]at hx
     simp(maxSteps:=2000000) only[go_sem,w3,e4,e6]
     refine⟨⟨by omega,by omega⟩,?_⟩
     refine mtch (fun hd=>?_) (fun hd=>?_)
     ·have hq:ltO (some l[j]) l[j+1]=false:=fal_of (by have:=of_decide_eq_true hd;omega)
      rw[hq]at hx
      exact RetQ.bool (hR C hL) rfl ⟨rfl,trivial⟩ (by rw[hx];rfl)
     ·have hq:ltO (some l[j]) l[j+1]=true:=tru_of (by have:=of_decide_eq_false hd;omega)
      rw[hq]at hx
      refine Sm.go 130 ?_
      simp(maxSteps:=2000000) only[go_sem,w2]
      exact hb _ _ ⟨j+1+1,by omega,hnext (by rw[hx];rfl)⟩ [(1,1),(2,2)] (by simp only;omega) ⟨rfl,trivial,⟨rfl,rfl,rfl,rfl,trivial⟩,⟨oV (renV (v_iC _)),oV (renV (v_iC _)),trivial⟩⟩
  ·have hc:=eq_of_dec hi hc
   rw[hc,List.drop_length]at hx
   exact RetQ.bool (hR C hL) rfl ⟨rfl,trivial⟩ (by rw[hx];rfl)
def zrV (m:MpL):List (List Value):=m.zs.map fun v=>[vsl v.1 v.2.length]
theorem zr_get {m:MpL}{i:Nat}(h:i<m.zs.length):(rowsC (zrV m))[i]?=some (.v (.slice m.zs[i].1.o m.zs[i].2.length m.zs[i].1.c)):=by
 have:=rowsC_get (k:=1) (zrV m) (fun r hr=>by obtain⟨x,_,rfl⟩:=List.mem_map.1 hr;rfl) i 0 (by simpa[zrV]using h) (by omega)
 rw[Nat.mul_one,Nat.add_zero]at this
 rw[this]
 simp[zrV]
theorem svalidM {H:Hp}(m:MpL)(hm:m.ok H)(hl:∀v∈m.zs,v.2.length≤1000000000000000):
  CallH H Tryz.prog 112 [.agg [.v (vsl m.x m.xs.length),.v (vsl m.y m.ys.length),.v (vsl m.z m.zs.length)]] (Bo (maOk m.xs m.ys (m.zs.map (·.2)))):=by
 have hmo:maOk m.xs m.ys (m.zs.map (·.2))=(axOk m.xs&&(axOk m.ys&&(decide (m.zs.length=m.xs.length)&&m.zs.all (fun z=>decide (z.2.length=m.ys.length)&&z.2.all nearB)))):=by
  unfold maOk;rw[List.length_map,List.all_map];rfl
 rw[hmo]
 have e1:((m.zs.length:Int)!=(m.xs.length:Int))= !decide (m.zs.length=m.xs.length):=by rw[Bool.eq_iff_iff,bne_iff_ne,Bool.not_eq_true',decide_eq_false_iff_not];omega
 refine CallH.mkS Tryz.func112 rfl en112 (by simp[Tryz.ntmps112]) (ClA.of rfl) fun C hR hP hH hL=>?_
 refine Sm.go 100 ?_
 refine vv ?_
 refine CallQ.h 110 (saxis m.x m.xs hm.x) hH rfl ?_
 refine vv ?_
 refine CallQ.hg 110 (fun _=>saxis m.y m.ys hm.y) hH (fun h=>by rw[h];rfl) ?_
 simp(maxSteps:=2000000) only[go_sem,e1]
 cases h1:axOk m.xs with
 |false=>
  rw[h1]at hR
  refine vv ?_
  exact RetQ.bool (hR C hL) rfl ⟨rfl,trivial⟩ rfl
 |true=>
 cases h2:axOk m.ys with
 |false=>
  rw[h1,h2]at hR
  refine vv ?_
  exact RetQ.bool (hR C hL) rfl ⟨rfl,trivial⟩ rfl
 |true=>
 cases h3:decide (m.zs.length=m.xs.length)with
 |false=>
  rw[h1,h2,h3]at hR
  refine vv ?_
  exact RetQ.bool (hR C hL) rfl ⟨rfl,trivial⟩ rfl
 |true=>
 rw[h1,h2,h3]at hR
 have h3:m.zs.length=m.xs.length:=of_decide_eq_true h3
 have hx32:m.xs.length≤32:=by
  have h1':=h1
  unfold axOk at h1'
  rw[Bool.and_eq_true,decide_eq_true_eq]at h1';exact h1'.1.2
 refine vv ?_
 refine Sm.bringR 1 73 25 (rows:=zrV m) (by have:=hm.z.mono hH;exact this) rfl rfl ?_
 have hzl:(zrV m).length=m.zs.length:=List.length_map _
 rw[hzl]
 refine Sm.loopM (M0:=[]) (α:={i:Nat//i≤m.zs.length∧m.zs.all (fun z=>decide (z.2.length=m.ys.length)&&z.2.all nearB)=(m.zs.drop i).all (fun z=>decide (z.2.length=m.ys.length)&&z.2.all nearB)}) hP (fun i=>[(1,true,.c (.p 5 0)),(25,true,.c (.sl 1 0 m.zs.length 1)),(26,true,I m.zs.length),(27,true,I i.val)])
  (fun _=>[(1,⟨true,rowsC (zrV m),73⟩),(5,⟨false,[.v (vsl m.x m.xs.length),.v (vsl m.y m.ys.length),.v (vsl m.z m.zs.length)],113⟩)]) (fun i=>m.zs.length-i.val) ⟨0,by omega,rfl⟩ (fun _=>ClM.of (by simp only[List.all_cons,inMV (rowsC_isV _)];rfl)) (fun _=>ClE.of rfl) [(1,1),(5,100)] ?_ ?_
 ·exact⟨rfl,trivial,⟨rfl,rfl,rfl,rfl,trivial⟩,⟨oV (renV (rowsC_isV _)),oR,trivial⟩⟩
 ·rintro⟨i,hi,hx⟩ J hb
  simp only at hb hi hx⊢
  refine Sm.go 120 ?_
  refine vv ?_
  refine mtch (fun hc=>?_) (fun hc=>?_)
  ·have hc:=lt_of_dec hc
   rw[List.drop_eq_getElem_cons hc,List.all_cons]at hx
   have e3:=zr_get hc
   have hmem:m.zs[i]∈m.zs:=List.getElem_mem hc
   have e4:((m.zs[i].2.length:Int)!=(m.ys.length:Int))= !decide (m.zs[i].2.length=m.ys.length):=by rw[Bool.eq_iff_iff,bne_iff_ne,Bool.not_eq_true',decide_eq_false_iff_not];omega
   have hcon:=cofI (H:=H) m.zs[i].1 m.zs[i].2 (hm.e _ hmem) (hl _ hmem) 213 #[] (fun n=> !nearB n) (fun x _=>(svd1 x).toH)
   rw[any_far]at hcon
   simp(maxSteps:=2000000) only[go_sem,e3,e4]
   refine⟨⟨by omega,by omega⟩,?_⟩
   refine CallQ.hg 130 (fun _=>hcon) hH (fun h=>by rw[h];rfl) ?_
   refine vv ?_
   refine mtch (fun hd=>?_) (fun hd=>?_)
   ·refine RetQ.bool (hR C hL) rfl ⟨rfl,trivial⟩ ?_
    rw[hx]
    generalize decide (m.zs[i].2.length=m.ys.length)=a at*
    generalize m.zs[i].2.all nearB=b at*
    cases a<;>cases b<;>simp_all
   ·simp only[wS (show i≤1000000000000000000 by omega)]
    refine hb _ _ ⟨i+1,hc,?_⟩ [(1,1),(5,5)] (by simp only;omega) ⟨rfl,trivial,⟨rfl,rfl,rfl,rfl,trivial⟩,⟨oV (renV (rowsC_isV _)),oR,trivial⟩⟩
    rw[hx]
    generalize decide (m.zs[i].2.length=m.ys.length)=a at*
    generalize m.zs[i].2.all nearB=b at*
    cases a<;>cases b<;>simp_all
  ·have hc:=eq_of_dec hi hc
   rw[hc,List.drop_length]at hx
   exact RetQ.bool (hR C hL) rfl ⟨rfl,trivial⟩ (by rw[hx];rfl)
structure DgL.sm (d:DgL):Prop where
 nm:d.nm.length≤1000000000000000
 tys:d.tys.length≤1000000000000000∧∀t∈d.tys,t.nm.length≤1000000000000000
 cus:d.cus.length≤1000000000000000∧∀c∈d.cus,c.c.nm.length≤1000000000000000∧c.c.xs.length≤1000000000000000∧c.c.ys.length≤1000000000000000
 mas:d.mas.length≤1000000000000000∧∀m∈d.mas,m.nm.length≤1000000000000000∧∀v∈m.zs,v.2.length≤1000000000000000
 ins:d.ins.length≤1000000000000000∧∀p∈d.ins,p.nm.length≤1000000000000000∧p.ty.length≤1000000000000000
 bls:d.bls.length≤1000000000000000∧∀b∈d.bls,b.c.nm.length≤1000000000000000∧b.c.ty.length≤1000000000000000∧b.c.tb.length≤1000000000000000∧b.c.ins.length≤1000000000000000∧b.c.ks.length≤1000000000000000∧∀s∈b.c.ins,s.length≤1000000000000000
 ous:d.ous.length≤1000000000000000∧∀s∈d.ous,s.length≤1000000000000000
theorem dv1 (t:Td)(h:t.nm.length≤1000000000000000):CallOk Tryz.prog 105 [rowV (Td.r t)] [] (Bo (nmOk t.nm&&fok t.ty)) []:=by
 refine CallOk.mkN 100 Tryz.func105 rfl en105 (by simp[Tryz.ntmps105]) (ClA.of rfl) rfl rfl fun C hR hP=>?_
 refine vv ?_
 refine CallQ.pure 110 (name_ok t.nm h) rfl ?_
 refine vv ?_
 refine CallQ.guard 110 (fun _=>fvalid t.ty) (fun h=>by rw[h];rfl) ?_
 refine vv ?_
 refine RetQ.bool hR rfl ⟨rfl,trivial⟩ ?_
 rw[band_]
theorem dv2 {H:Hp}(c:CuL)(hc:c.ok H)(h:c.c.nm.length≤1000000000000000)(hx:c.c.xs.length≤1000000000000000)(hy:c.c.ys.length≤1000000000000000):CallH H Tryz.prog 108 [rowV (CuL.r c)] (Bo (nmOk c.c.nm&&cuOk c.c.xs c.c.ys)):=by
 refine CallH.mkS Tryz.func108 rfl en108 (by simp[Tryz.ntmps108]) (ClA.of rfl) fun C hR hP hH hL=>?_
 refine Sm.go 100 ?_
 refine vv ?_
 refine CallQ.pure 110 (name_ok c.c.nm h) rfl ?_
 refine vv ?_
 refine CallQ.hg 110 (fun _=>cvalid c.x c.y c.c.xs c.c.ys hc.x hc.y hx hy) hH (fun h=>by rw[h];rfl) ?_
 refine vv ?_
 refine RetQ.bool (hR C hL) rfl ⟨rfl,trivial⟩ ?_
 rw[band_]
theorem dv3 {H:Hp}(m:MpL)(hm:m.ok H)(h:m.nm.length≤1000000000000000)(hz:∀v∈m.zs,v.2.length≤1000000000000000):CallH H Tryz.prog 111 [rowV (MpL.r m)] (Bo (nmOk m.nm&&maOk m.xs m.ys (m.zs.map (·.2)))):=by
 refine CallH.mkS Tryz.func111 rfl en111 (by simp[Tryz.ntmps111]) (ClA.of rfl) fun C hR hP hH hL=>?_
 refine Sm.go 100 ?_
 refine vv ?_
 refine CallQ.pure 110 (name_ok m.nm h) rfl ?_
 refine vv ?_
 refine CallQ.hg 110 (fun _=>svalidM m hm hz) hH (fun h=>by rw[h];rfl) ?_
 refine vv ?_
 refine RetQ.bool (hR C hL) rfl ⟨rfl,trivial⟩ ?_
 rw[band_]
theorem vport (p:Po)(h:p.nm.length≤1000000000000000)(h2:p.ty.length≤1000000000000000):CallOk Tryz.prog 114 [rowV (Po.r p)] [] (Bo (poOk p)) []:=by
 refine CallOk.mkN 100 Tryz.func114 rfl en114 (by simp[Tryz.ntmps114]) (ClA.of rfl) rfl rfl fun C hR hP=>?_
 refine vv ?_
 refine CallQ.pure 110 (name_ok p.nm h) rfl ?_
 refine vv ?_
 refine CallQ.guard 110 (fun _=>name_ok p.ty h2) (fun h=>by rw[h];rfl) ?_
 refine vv ?_
 refine CallQ.guard 110 (fun _=>fits_ p.lo) (fun h=>by rw[h];rfl) ?_
 refine vv ?_
 refine CallQ.guard 110 (fun _=>fits_ p.hi) (fun h=>by rw[h];rfl) ?_
 refine vv ?_
 refine RetQ.bool hR rfl ⟨rfl,trivial⟩ ?_
 unfold poOk
 cases nmOk p.nm<;>cases nmOk p.ty<;>cases fitB p.lo<;>cases fitB p.hi<;>rfl
theorem vblock {H:Hp}(b:BlL)(hb:b.ok H)(h1:b.c.nm.length≤1000000000000000)(h2:b.c.ty.length≤1000000000000000)(h3:b.c.tb.length≤1000000000000000)(h4:b.c.ins.length≤1000000000000000)(h5:b.c.ks.length≤1000000000000000)(h6:∀s∈b.c.ins,s.length≤1000000000000000):
  CallH H Tryz.prog 116 [rowV (BlL.r b)] (Bo (blOk b.c)):=by
 have ha1:=allS (H:=H) b.i b.c.ins hb.i h4 98 nmOk (fun s hs=>(name_ok s (h6 s hs)).toH)
 have ha2:=allI (H:=H) b.k b.c.ks hb.k h5 216 fitB (fun n _=>(fits_ n).toH)
 refine CallH.mkS Tryz.func116 rfl en116 (by simp[Tryz.ntmps116]) (ClA.of rfl) fun C hR hP hH hL=>?_
 refine Sm.go 100 ?_
 refine vv ?_
 refine CallQ.pure 110 (kind_ b.c.kd) rfl ?_
 unfold blOk at hR
 cases hk:kindQ b.c.kd with
 |none=>
  rw[hk]at hR
  simp(maxSteps:=2000000) only[go_sem,Option.getD_none]
  refine CallQ.guard (xs:=[]) (v:=Bo true) 150 (fun h=>by cases h) (fun h=>by cases h) ?_
  refine vv ?_
  refine CallQ.guard (xs:=[]) (v:=Bo true) 150 (fun h=>by cases h) (fun h=>by cases h) ?_
  refine vv ?_
  exact RetQ.bool (hR C hL) rfl ⟨rfl,trivial⟩ rfl
 |some q=>
 obtain⟨a,k,t⟩:=q
 rw[hk]at hR
 simp only at hR
 have e1:((b.c.ins.length:Int)!=(a:Int))= !decide (b.c.ins.length=a):=by rw[Bool.eq_iff_iff,bne_iff_ne,Bool.not_eq_true',decide_eq_false_iff_not];omega
 have e2:((b.c.ks.length:Int)!=(k:Int))= !decide (b.c.ks.length=k):=by rw[Bool.eq_iff_iff,bne_iff_ne,Bool.not_eq_true',decide_eq_false_iff_not];omega
 simp(maxSteps:=2000000) only[go_sem,Option.getD_some,e1,e2]
 refine CallQ.guard 120 (fun _=>name_ok b.c.nm h1) (fun h=>by rw[h];rfl) ?_
 refine vv ?_
 refine CallQ.guard 120 (fun _=>name_ok b.c.ty h2) (fun h=>by rw[h];rfl) ?_
 refine vv ?_
 generalize hA:decide (b.c.ins.length=a)=A at*
 generalize hB:decide (b.c.ks.length=k)=B at*
 generalize hN:nmOk b.c.nm=Nn at*
 generalize hT:nmOk b.c.ty=Tt at*
 refine mtch (fun hd=>?_) (fun hd=>?_)
 ·refine RetQ.bool (hR C hL) rfl ⟨rfl,trivial⟩ ?_
  cases A<;>cases B<;>cases Nn<;>cases Tt<;>simp_all
 ·have hall:A=true∧B=true∧Nn=true∧Tt=true:=by cases A<;>cases B<;>cases Nn<;>cases Tt<;>simp_all
  obtain⟨rfl,rfl,rfl,rfl⟩:=hall
  have e3:((t:Int)!=0)= !decide (t=0):=by rw[Bool.eq_iff_iff,bne_iff_ne,Bool.not_eq_true',decide_eq_false_iff_not];omega
  have e4:((t:Int)==0)=decide (t=0):=by rw[Bool.eq_iff_iff,beq_iff_eq,decide_eq_true_eq];omega
  simp only[e3]
  refine CallQ.guard 130 (fun _=>name_ok b.c.tb h3) (fun h=>by rw[h];rfl) ?_
  simp(maxSteps:=2000000) only[go_sem,e3,e4]
  by_cases ht:t=0
  ·rw[if_pos ht]at hR
   simp(maxSteps:=2000000) only[go_sem,tru_of ht]
   generalize hE:(b.c.tb==[])=E at*
   refine mtch (fun hd=>?_) (fun hd=>?_)
   ·refine RetQ.bool (hR C hL) rfl ⟨rfl,trivial⟩ ?_
    cases E<;>simp_all
   ·refine CallQ.h 140 ha1 hH rfl ?_
    refine vv ?_
    refine CallQ.hg 140 (fun _=>ha2) hH (fun h=>by rw[h];rfl) ?_
    refine vv ?_
    refine RetQ.bool (hR C hL) rfl ⟨rfl,trivial⟩ ?_
    cases E<;>cases b.c.ins.all nmOk<;>simp_all
  ·rw[if_neg ht]at hR
   simp(maxSteps:=2000000) only[go_sem,fal_of ht]
   generalize hE:nmOk b.c.tb=E at*
   refine mtch (fun hd=>?_) (fun hd=>?_)
   ·refine RetQ.bool (hR C hL) rfl ⟨rfl,trivial⟩ ?_
    cases E<;>simp_all
   ·refine CallQ.h 140 ha1 hH rfl ?_
    refine vv ?_
    refine CallQ.hg 140 (fun _=>ha2) hH (fun h=>by rw[h];rfl) ?_
    refine vv ?_
    refine RetQ.bool (hR C hL) rfl ⟨rfl,trivial⟩ ?_
    cases E<;>cases b.c.ins.all nmOk<;>simp_all
theorem mx5 (a b c d e:Nat):decide ((30:Int)<max (max (max (max (a:Int) b) c) d) e)= !decide (a≤30∧b≤30∧c≤30∧d≤30∧e≤30):=by
 rw[←decide_not,decide_eq_decide];omega
theorem dvalid {H:Hp}(d:DgL)(hd:d.ok H)(hs:d.sm):CallH H Tryz.prog 42 [rowV d.r] (Bo (dgOk d.c)):=by
 have q1:=allTd (H:=H) d.ty d.tys hd.ty hs.tys.1 105 (fun t=>nmOk t.nm&&fok t.ty) (fun t ht=>(dv1 t (hs.tys.2 t ht)).toH)
 have q2:=allCu (H:=H) d.cu d.cus hd.cu hs.cus.1 108 (fun c=>nmOk c.c.nm&&cuOk c.c.xs c.c.ys) (fun c hc=>dv2 c (hd.cus c hc) (hs.cus.2 c hc).1 (hs.cus.2 c hc).2.1 (hs.cus.2 c hc).2.2)
 have q3:=allMa (H:=H) d.ma d.mas hd.ma hs.mas.1 111 (fun m=>nmOk m.nm&&maOk m.xs m.ys (m.zs.map (·.2))) (fun m hm=>dv3 m (hd.mas m hm) (hs.mas.2 m hm).1 (hs.mas.2 m hm).2)
 have q4:=allPo (H:=H) d.i d.ins hd.i hs.ins.1 114 poOk (fun p hp=>(vport p (hs.ins.2 p hp).1 (hs.ins.2 p hp).2).toH)
 have q5:=allBl (H:=H) d.bl d.bls hd.bl hs.bls.1 116 (fun b=>blOk b.c) (fun b hb=>by
  obtain⟨k1,k2,k3,k4,k5,k6⟩:=hs.bls.2 b hb
  exact vblock b (hd.bls b hb) k1 k2 k3 k4 k5 k6)
 have q6:=allS (H:=H) d.ou d.ous hd.ou hs.ous.1 98 nmOk (fun s hs'=>(name_ok s (hs.ous.2 s hs')).toH)
 have hdo:dgOk d.c=(nmOk d.nm&&(decide (d.tys.length≤30∧d.cus.length≤30∧d.mas.length≤30∧d.ins.length≤30∧d.ous.length≤30)&&(decide (d.bls.length≤200)&&
  (d.tys.all (fun t=>nmOk t.nm&&fok t.ty)&&(d.cus.all (fun c=>nmOk c.c.nm&&cuOk c.c.xs c.c.ys)&&(d.mas.all (fun m=>nmOk m.nm&&maOk m.xs m.ys (m.zs.map (·.2)))&&(d.ins.all poOk&&(d.bls.all (fun b=>blOk b.c)&&d.ous.all nmOk)))))))):=by
  unfold dgOk
  simp only[DgL.c,List.length_map,List.all_map]
  rfl
 rw[hdo]
 have e2:decide ((200:Int)<(d.bls.length:Int))= !decide (d.bls.length≤200):=by rw[←decide_not,decide_eq_decide];omega
 refine CallH.mkS Tryz.func42 rfl en42 (by simp[Tryz.ntmps42]) (ClA.of rfl) fun C hR hP hH hL=>?_
 refine Sm.go 100 ?_
 refine vv ?_
 refine CallQ.pure 110 (name_ok d.nm hs.nm) rfl ?_
 simp(maxSteps:=2000000) only[go_sem,mx5,e2]
 generalize nmOk d.nm=A at*
 generalize decide (d.tys.length≤30∧d.cus.length≤30∧d.mas.length≤30∧d.ins.length≤30∧d.ous.length≤30)=B at*
 generalize decide (d.bls.length≤200)=D at*
 refine mtch (fun hc=>?_) (fun hc=>?_)
 ·refine RetQ.bool (hR C hL) rfl ⟨rfl,trivial⟩ ?_
  cases A<;>cases B<;>cases D<;>simp_all
 ·have hall:A=true∧B=true∧D=true:=by cases A<;>cases B<;>cases D<;>simp_all
  obtain⟨rfl,rfl,rfl⟩:=hall
  refine CallQ.h 140 q1 hH rfl ?_
  refine vv ?_
  refine CallQ.hg 140 (fun _=>q2) hH (fun h=>by rw[h];rfl) ?_
  refine vv ?_
  refine CallQ.hg 140 (fun _=>q3) hH (fun h=>by rw[h];rfl) ?_
  refine vv ?_
  refine CallQ.hg 140 (fun _=>q4) hH (fun h=>by rw[h];rfl) ?_
  refine vv ?_
  refine CallQ.hg 140 (fun _=>q5) hH (fun h=>by rw[h];rfl) ?_
  refine vv ?_
  refine CallQ.hg 140 (fun _=>q6) hH (fun h=>by rw[h];rfl) ?_
  refine vv ?_
  refine RetQ.bool (hR C hL) rfl ⟨rfl,trivial⟩ ?_
  simp only[band_,Bool.true_and,Bool.and_assoc]
theorem _root_.Go.Proofs.YtlnpgbnhcondjaaGreatDoor.Vg.RetQ.letgo {C Ck:Cx}{e:Env}{M M0:Mem}(L:List Nat)(hL:Lf C Ck)(hP:Pins C.S M0)(h0:M0.all (fun p=> !L.contains p.1)=true)(hok:concOk L e M=true)
  (h:∀β Cn,Lf C Cn→Ck.hp.le Cn.hp→(∀n b,L.contains n=true→M.get n=some b→b.ro=false→Known Cn.hp β n b)→RetQ Cn (e.conc L β) (M.conc L β)):RetQ Ck e M:=fun β a w h1 h2 h4=>by
 obtain⟨Cn,l1,l2,l3,l4,l5⟩:=seal_core L hL hP h0 hok h1 h2
 rw[hL.q,←l1.q]
 exact h β Cn l1 l2 l3 β a w l4 l5 (h4.trans (hL.df.trans l1.df.symm))
def sigs (d:Dg):List Str:=d.ins.map (·.nm)++d.bls.map (·.nm)
end Go.Proofs.YtlnpgbnhcondjaaGreatDoor.Fx
