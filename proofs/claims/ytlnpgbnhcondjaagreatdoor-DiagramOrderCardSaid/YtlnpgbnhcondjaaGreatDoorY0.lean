/-  -/
import Derived.Test.YtlnpgbnhcondjaaGreatDoorTf
import Derived.Test.YtlnpgbnhcondjaaGreatDoorQ4
namespace Go.Proofs.YtlnpgbnhcondjaaGreatDoor.Fx
open Vg Tf
set_option linter.unusedSimpArgs false
set_option linter.unusedVariables false
set_option maxRecDepth 100000
set_option maxHeartbeats 4000000
theorem far_ (n:Int):CallOk Tryz.prog 210 [I n] [] (Bo (!nearB n)) []:=by
 refine CallOk.mkN 100 Tryz.func210 rfl en210 (by simp[Tryz.ntmps210]) (ClA.of rfl) rfl rfl fun C hR hP=>?_
 refine vv ?_
 refine RetQ.bool hR rfl ⟨rfl,trivial⟩ ?_
 unfold nearB
 rw[bor_,←Bool.not_inj_iff,Bool.not_not,Bool.not_or,←decide_not,←decide_not,Bool.eq_iff_iff]
 simp only[Bool.and_eq_true,decide_eq_true_eq];omega
theorem element_ (n:Int):CallOk Tryz.prog 214 [I n] [] (Bo (nearB n)) []:=by
 refine CallOk.mkN 100 Tryz.func214 rfl en214 (by simp[Tryz.ntmps214]) (ClA.of rfl) rfl rfl fun C hR hP=>?_
 refine vv ?_
 refine RetQ.bool hR rfl ⟨rfl,trivial⟩ ?_
 unfold nearB
 rw[band_,Bool.eq_iff_iff]
 simp only[Bool.and_eq_true,decide_eq_true_eq]
theorem svd1 (n:Int):CallOk Tryz.prog 213 [I n] [] (Bo (!nearB n)) []:=by
 refine CallOk.mkN 100 Tryz.func213 rfl en213 (by simp[Tryz.ntmps213]) (ClA.of rfl) rfl rfl fun C hR hP=>?_
 refine vv ?_
 refine CallQ.pure 110 (element_ n) rfl ?_
 refine vv ?_
 exact RetQ.bool hR rfl ⟨rfl,trivial⟩ rfl
theorem any_far (l:List Int):l.any (fun n=> !nearB n)= !(l.all nearB):=by
 rw[List.all_eq_not_any_not,Bool.not_not]
theorem caxis {H:Hp}(s:Sv)(l:List Int)(hs:SlH H (vsl s l.length) 1 (intsR l))(hl:l.length≤1000000000000000):CallH H Tryz.prog 208 [.c (.v (vsl s l.length))] (Bo (axOk l)):=by
 have hcon:=cofI (H:=H) s l hs hl 210 #[] (fun n=> !nearB n) (fun x _=>(far_ x).toH)
 rw[any_far]at hcon
 have e1:decide ((l.length:Int)<2)= !decide (2≤l.length):=by rw[←decide_not,decide_eq_decide];omega
 have e2:decide ((32:Int)<(l.length:Int))= !decide (l.length≤32):=by rw[←decide_not,decide_eq_decide];omega
 refine CallH.mkS Tryz.func208 rfl en208 (by simp[Tryz.ntmps208]) (ClA.of rfl) fun C hR hP hH hL=>?_
 refine Sm.go 100 ?_
 simp(maxSteps:=2000000) only[go_sem,e1,e2]
 refine CallQ.hg 110 (fun _=>hcon) hH (fun h=>by rw[h];rfl) ?_
 refine vv ?_
 have hax:axOk l=((decide (2≤l.length)&&decide (l.length≤32))&&(l.all nearB&&incB l)):=by unfold axOk;rw[Bool.decide_and]
 rw[hax]at hR
 cases h1:decide (2≤l.length)with
 |false=>
  rw[h1]at hR
  refine vv ?_
  exact RetQ.bool (hR C hL) rfl ⟨rfl,trivial⟩ rfl
 |true=>
 cases h2:decide (l.length≤32)with
 |false=>
  rw[h1,h2]at hR
  refine vv ?_
  exact RetQ.bool (hR C hL) rfl ⟨rfl,trivial⟩ rfl
 |true=>
 cases h3:l.all nearB with
 |false=>
  rw[h1,h2,h3]at hR
  refine vv ?_
  exact RetQ.bool (hR C hL) rfl ⟨rfl,trivial⟩ rfl
 |true=>
 rw[h1,h2,h3]at hR
 simp only[decide_eq_true_eq]at h1 h2
 have w1:IntKind.i64.wrap ((l.length:Int)-1)=((l.length-1:Nat):Int):=by rw[w64 (by omega) (by omega)];omega
 simp(maxSteps:=2000000) only[go_sem,w1]
 refine Sm.bringI 1 3 0 (hs.mono hH) rfl rfl ?_
 refine Sm.loopM (M0:=[]) (α:={i:Nat//i≤l.length-1∧incB l=incB (l.drop i)}) hP (fun i=>[(0,true,.c (.sl 1 0 l.length 1)),(18,true,I ((l.length-1:Nat):Int)),(19,true,I i.val)]) (fun _=>[(1,⟨true,l.map iC,3⟩)]) (fun i=>l.length-i.val) ⟨0,by omega,rfl⟩ (fun _=>ClM.v (by simp only[List.all_cons,v_iC];rfl)) (fun _=>ClE.of rfl) [(1,1)] ?_ ?_
 ·exact⟨rfl,trivial,⟨rfl,rfl,rfl,trivial⟩,⟨oV (renV (v_iC _)),trivial⟩⟩
 ·rintro⟨i,hi,hx⟩ J hb
  simp only at hb hi hx⊢
  refine Sm.go 120 ?_
  refine vv ?_
  refine mtch (fun hc=>?_) (fun hc=>?_)
  ·have hc:=lt_of_dec hc
   have hi1:i+1<l.length:=by omega
   have hd:l.drop i=l[i]::l[i+1]::l.drop (i+2):=by
    rw[List.drop_eq_getElem_cons (by omega),List.drop_eq_getElem_cons hi1]
   have hd1:l.drop (i+1)=l[i+1]::l.drop (i+2):=List.drop_eq_getElem_cons hi1
   rw[hd,incB,←hd1]at hx
   have w2:=wS (show i≤1000000000000000000 by omega)
   have e3:(l.map iC)[i]?=some (iC l[i]):=get_iC (by omega)
   have e4:(l.map iC)[i+1]?=some (iC l[i+1]):=get_iC hi1
   refine Sm.dg 130 9 mix ?_
   simp(maxSteps:=2000000) only[go_sem,w2,e3,e4]
   refine⟨⟨by omega,by omega⟩,⟨by omega,by omega⟩,?_⟩
   refine mtch (fun hd=>?_) (fun hd=>?_)
   ·have hq:decide (l[i]<l[i+1])=false:=fal_of (by have:=of_decide_eq_true hd;omega)
    rw[hq]at hx
    exact RetQ.bool (hR C hL) rfl ⟨rfl,trivial⟩ (by rw[hx];rfl)
   ·have hq:decide (l[i]<l[i+1])=true:=tru_of (by have:=of_decide_eq_false hd;omega)
    rw[hq,Bool.true_and]at hx
    refine Sm.go 130 ?_
    simp(maxSteps:=2000000) only[go_sem,w2]
    exact hb _ _ ⟨i+1,by omega,hx⟩ [(1,1)] (by simp only;omega) ⟨rfl,trivial,⟨rfl,rfl,rfl,trivial⟩,⟨oV (renV (v_iC _)),trivial⟩⟩
  ·have hc:=eq_of_dec hi hc
   have hd:l.drop i=[l[i]]:=by
    rw[List.drop_eq_getElem_cons (by omega),List.drop_eq_nil_of_le (by omega)]
   rw[hd]at hx
   exact RetQ.bool (hR C hL) rfl ⟨rfl,trivial⟩ (by rw[hx];rfl)
theorem cvalid {H:Hp}(x y:Sv)(xs ys:List Int)(hx:SlH H (vsl x xs.length) 1 (intsR xs))(hy:SlH H (vsl y ys.length) 1 (intsR ys))(hlx:xs.length≤1000000000000000)(hly:ys.length≤1000000000000000):
  CallH H Tryz.prog 109 [.agg [.v (vsl x xs.length),.v (vsl y ys.length)]] (Bo (cuOk xs ys)):=by
 have hcon:=cofI (H:=H) y ys hy hly 210 #[] (fun n=> !nearB n) (fun x _=>(far_ x).toH)
 rw[any_far]at hcon
 have e1:((xs.length:Int)==(ys.length:Int))=decide (xs.length=ys.length):=by rw[Bool.eq_iff_iff,beq_iff_eq,decide_eq_true_eq];omega
 refine CallH.mkS Tryz.func109 rfl en109 (by simp[Tryz.ntmps109]) (ClA.of rfl) fun C hR hP hH hL=>?_
 refine Sm.go 100 ?_
 simp(maxSteps:=2000000) only[go_sem,e1]
 refine CallQ.hg 110 (fun _=>caxis x xs hx hlx) hH (fun h=>by rw[h];rfl) ?_
 refine vv ?_
 refine CallQ.hg 110 (fun _=>hcon) hH (fun h=>by rw[h];rfl) ?_
 refine vv ?_
 refine RetQ.bool (hR C hL) rfl ⟨rfl,trivial⟩ ?_
 unfold cuOk
 cases decide (xs.length=ys.length)<;>cases axOk xs<;>cases ys.all nearB<;>rfl
def ltO:Option Int→Int→Bool
 |none,_=>true
 |some q,x=>decide (q<x)
def axG:Option Int→List Int→Bool
 |_,[]=>true
 |p,x::r=>(nearB x&&ltO p x)&&axG (some x) r
theorem axG_some:∀(l:List Int) (q:Int),axG (some q) l=(l.all nearB&&incB (q::l))
 |[],q=>rfl
 |x::r,q=>by
  rw[axG,axG_some r x,incB,List.all_cons]
  show(nearB x&&decide (q<x)&&_)=_
  cases nearB x<;>cases decide (q<x)<;>cases r.all nearB<;>rfl
theorem axG_none (l:List Int):axG none l=(l.all nearB&&incB l):=by
 cases l with
 |nil=>rfl
 |cons x r=>
  rw[axG,axG_some r x,List.all_cons]
  cases nearB x<;>cases r.all nearB<;>rfl
def prv (l:List Int)(i:Nat):Option Int:=if i=0 then none else some (l.getD (i-1) 0)
theorem saxis {H:Hp}(s:Sv)(l:List Int)(hs:SlH H (vsl s l.length) 1 (intsR l)):CallH H Tryz.prog 212 [.c (.v (vsl s l.length))] (Bo (axOk l)):=by
 have e1:decide ((l.length:Int)<2)= !decide (2≤l.length):=by rw[←decide_not,decide_eq_decide];omega
 have e2:decide ((32:Int)<(l.length:Int))= !decide (l.length≤32):=by rw[←decide_not,decide_eq_decide];omega
 have hax:axOk l=((decide (2≤l.length)&&decide (l.length≤32))&&axG none l):=by unfold axOk;rw[axG_none,Bool.decide_and]
 rw[hax]
 refine CallH.mkS Tryz.func212 rfl en212 (by simp[Tryz.ntmps212]) (ClA.of rfl) fun C hR hP hH hL=>?_
 refine Sm.go 100 ?_
 simp(maxSteps:=2000000) only[go_sem,e1,e2]
 cases h1:decide (2≤l.length)with
 |false=>
  rw[h1]at hR
  refine vv ?_
  exact RetQ.bool (hR C hL) rfl ⟨rfl,trivial⟩ rfl
 |true=>
 cases h2:decide (l.length≤32)with
 |false=>
  rw[h1,h2]at hR
  refine vv ?_
  exact RetQ.bool (hR C hL) rfl ⟨rfl,trivial⟩ rfl
 |true=>
 rw[h1,h2]at hR
 simp only[decide_eq_true_eq]at h1 h2
 refine vv ?_
 refine Sm.bringI 1 3 0 (hs.mono hH) rfl rfl ?_
 refine Sm.bringI 2 3 13 (hs.mono hH) rfl rfl ?_
 refine Sm.loopM (M0:=[]) (α:={i:Nat//i≤l.length∧axG none l=axG (prv l i) (l.drop i)}) hP (fun i=>[(0,true,.c (.sl 1 0 l.length 1)),(13,true,.c (.sl 2 0 l.length 1)),(14,true,I l.length),(15,true,I i.val)]) (fun _=>[(1,⟨true,l.map iC,3⟩),(2,⟨true,l.map iC,3⟩)]) (fun i=>l.length-i.val) ⟨0,by omega,rfl⟩ (fun _=>ClM.v (by simp only[List.all_cons,v_iC];rfl)) (fun _=>ClE.of rfl) [(1,1),(2,2)] ?_ ?_
 ·exact⟨rfl,trivial,⟨rfl,rfl,rfl,rfl,trivial⟩,⟨oV (renV (v_iC _)),oV (renV (v_iC _)),trivial⟩⟩
 ·rintro⟨i,hi,hx⟩ J hb
  simp only at hb hi hx⊢
  refine Sm.go 120 ?_
  refine vv ?_
  refine mtch (fun hc=>?_) (fun hc=>?_)
  ·have hc:=lt_of_dec hc
   rw[List.drop_eq_getElem_cons hc,axG]at hx
   have e3:(l.map iC)[i]?=some (iC l[i]):=get_iC hc
   simp(maxSteps:=2000000) only[go_sem,e3]
   refine⟨⟨by omega,by omega⟩,?_⟩
   refine CallQ.pure 130 (element_ l[i]) rfl ?_
   have w2:=wS (show i≤1000000000000000000 by omega)
   have hnext:axG none l=axG (some l[i]) (l.drop (i+1))→axG none l=axG (prv l (i+1)) (l.drop (i+1)):=fun h=>by
    rw[h,prv,if_neg (by omega),Nat.add_sub_cancel,List.getD_eq_getElem?_getD,List.getElem?_eq_getElem hc];rfl
   cases i with
   |zero=>
    cases h5:nearB l[0]with
    |false=>
     rw[h5]at hx
     simp(maxSteps:=2000000) only[go_sem,e3]
     refine⟨fun h=>(by cases h),?_⟩
     exact RetQ.bool (hR C hL) rfl ⟨rfl,trivial⟩ (by rw[hx];rfl)
    |true=>
     rw[h5]at hx
     simp(maxSteps:=2000000) only[go_sem,e3,w2]
     exact hb _ _ ⟨1,by omega,hnext (by rw[hx];rfl)⟩ [(1,1),(2,2)] (by simp only;omega) ⟨rfl,trivial,⟨rfl,rfl,rfl,rfl,trivial⟩,⟨oV (renV (v_iC _)),oV (renV (v_iC _)),trivial⟩⟩
   |succ j=>
    have w3:IntKind.i64.wrap (((j+1:Nat):Int)-1)=(j:Int):=by rw[w64 (by omega) (by omega)];omega
    have e4:(l.map iC)[j]?=some (iC l[j]):=get_iC (by omega)
    have e6:decide ((0:Int)<((j+1:Nat):Int))=true:=tru_of (by omega)
    have hp:prv l (j+1)=some l[j]:=by
     rw[prv,if_neg (by omega),Nat.add_sub_cancel,List.getD_eq_getElem?_getD,List.getElem?_eq_getElem (by omega)];rfl
    rw[hp]at hx
    cases h5:nearB l[j+1]with
    |false=>
     rw[h5]at hx
     simp(maxSteps:=2000000) only[go_sem,w3,e4,e6]
     exact RetQ.bool (hR C hL) rfl ⟨rfl,trivial⟩ (by rw[hx];rfl)
    |true=>
     rw[h5]at hx
     simp(maxSteps:=2000000) only[go_sem,w3,e4,e6]
     refine⟨⟨by omega,by omega⟩,?_⟩
     refine mtch (fun hd=>?_) (fun hd=>?_)
     ·have hq:ltO (some l[j]) l[j+1]=false:=fal_of (by have:=of_decide_eq_true hd;omega)
      rw[hq]at hx
      exact RetQ.bool (hR C hL) rfl ⟨rfl,trivial⟩ (by rw[hx];rfl)
     ·have hq:ltO (some l[j]) l[j+1]=true:=tru_of (by have:=of_decide_eq_false hd;omega)
      rw[hq]at hx
      refine Sm.go 130 ?_
      simp(maxSteps:=2000000) only[go_sem,w2]
      exact hb _ _ ⟨j+1+1,by omega,hnext (by rw[hx];rfl)⟩ [(1,1),(2,2)] (by simp only;omega) ⟨rfl,trivial,⟨rfl,rfl,rfl,rfl,trivial⟩,⟨oV (renV (v_iC _)),oV (renV (v_iC _)),trivial⟩⟩
  ·have hc:=eq_of_dec hi hc
   rw[hc,List.drop_length]at hx
   exact RetQ.bool (hR C hL) rfl ⟨rfl,trivial⟩ (by rw[hx];rfl)
def zrV (m:MpL):List (List Value):=m.zs.map fun v=>[vsl v.1 v.2.length]
theorem zr_get {m:MpL}{i:Nat}(h:i<m.zs.length):(rowsC (zrV m))[i]?=some (.v (.slice m.zs[i].1.o m.zs[i].2.length m.zs[i].1.c)):=by
 have:=rowsC_get (k:=1) (zrV m) (fun r hr=>by obtain⟨x,_,rfl⟩:=List.mem_map.1 hr;rfl) i 0 (by simpa[zrV]using h) (by omega)
 rw[Nat.mul_one,Nat.add_zero]at this
 rw[this]
 simp[zrV]
theorem svalidM {H:Hp}(m:MpL)(hm:m.ok H)(hl:∀v∈m.zs,v.2.length≤1000000000000000):
  CallH H Tryz.prog 112 [.agg [.v (vsl m.x m.xs.length),.v (vsl m.y m.ys.length),.v (vsl m.z m.zs.length)]] (Bo (maOk m.xs m.ys (m.zs.map (·.2)))):=by
 have hmo:maOk m.xs m.ys (m.zs.map (·.2))=(axOk m.xs&&(axOk m.ys&&(decide (m.zs.length=m.xs.length)&&m.zs.all (fun z=>decide (z.2.length=m.ys.length)&&z.2.all nearB)))):=by
  unfold maOk;rw[List.length_map,List.all_map];rfl
 rw[hmo]
 have e1:((m.zs.length:Int)!=(m.xs.length:Int))= !decide (m.zs.length=m.xs.length):=by rw[Bool.eq_iff_iff,bne_iff_ne,Bool.not_eq_true',decide_eq_false_iff_not];omega
 refine CallH.mkS Tryz.func112 rfl en112 (by simp[Tryz.ntmps112]) (ClA.of rfl) fun C hR hP hH hL=>?_
 refine Sm.go 100 ?_
 refine vv ?_
 refine CallQ.h 110 (saxis m.x m.xs hm.x) hH rfl ?_
 refine vv ?_
 refine CallQ.hg 110 (fun _=>saxis m.y m.ys hm.y) hH (fun h=>by rw[h];rfl) ?_
 simp(maxSteps:=2000000) only[go_sem,e1]
 cases h1:axOk m.xs with
 |false=>
  rw[h1]at hR
  refine vv ?_
  exact RetQ.bool (hR C hL) rfl ⟨rfl,trivial⟩ rfl
 |true=>
 cases h2:axOk m.ys with
 |false=>
  rw[h1,h2]at hR
  refine vv ?_
  exact RetQ.bool (hR C hL) rfl ⟨rfl,trivial⟩ rfl
 |true=>
 cases h3:decide (m.zs.length=m.xs.length)with
 |false=>
  rw[h1,h2,h3]at hR
  refine vv ?_
  exact RetQ.bool (hR C hL) rfl ⟨rfl,trivial⟩ rfl
 |true=>
 rw[h1,h2,h3]at hR
 have h3:m.zs.length=m.xs.length:=of_decide_eq_true h3
 have hx32:m.xs.length≤32:=by
  have h1':=h1
  unfold axOk at h1'
  rw[Bool.and_eq_true,decide_eq_true_eq]at h1';exact h1'.1.2
 refine vv ?_
 refine Sm.bringR 1 73 25 (rows:=zrV m) (by have:=hm.z.mono hH;exact this) rfl rfl ?_
 have hzl:(zrV m).length=m.zs.length:=List.length_map _
 rw[hzl]
 refine Sm.loopM (M0:=[]) (α:={i:Nat//i≤m.zs.length∧m.zs.all (fun z=>decide (z.2.length=m.ys.length)&&z.2.all nearB)=(m.zs.drop i).all (fun z=>decide (z.2.length=m.ys.length)&&z.2.all nearB)}) hP (fun i=>[(1,true,.c (.p 5 0)),(25,true,.c (.sl 1 0 m.zs.length 1)),(26,true,I m.zs.length),(27,true,I i.val)])
  (fun _=>[(1,⟨true,rowsC (zrV m),73⟩),(5,⟨false,[.v (vsl m.x m.xs.length),.v (vsl m.y m.ys.length),.v (vsl m.z m.zs.length)],113⟩)]) (fun i=>m.zs.length-i.val) ⟨0,by omega,rfl⟩ (fun _=>ClM.of (by simp only[List.all_cons,inMV (rowsC_isV _)];rfl)) (fun _=>ClE.of rfl) [(1,1),(5,100)] ?_ ?_
 ·exact⟨rfl,trivial,⟨rfl,rfl,rfl,rfl,trivial⟩,⟨oV (renV (rowsC_isV _)),oR,trivial⟩⟩
 ·rintro⟨i,hi,hx⟩ J hb
  simp only at hb hi hx⊢
  refine Sm.go 120 ?_
  refine vv ?_
  refine mtch (fun hc=>?_) (fun hc=>?_)
  ·have hc:=lt_of_dec hc
   rw[List.drop_eq_getElem_cons hc,List.all_cons]at hx
   have e3:=zr_get hc
   have hmem:m.zs[i]∈m.zs:=List.getElem_mem hc
   have e4:((m.zs[i].2.length:Int)!=(m.ys.length:Int))= !decide (m.zs[i].2.length=m.ys.length):=by rw[Bool.eq_iff_iff,bne_iff_ne,Bool.not_eq_true',decide_eq_false_iff_not];omega
   have hcon:=cofI (H:=H) m.zs[i].1 m.zs[i].2 (hm.e _ hmem) (hl _ hmem) 213 #[] (fun n=> !nearB n) (fun x _=>(svd1 x).toH)
   rw[any_far]at hcon
   simp(maxSteps:=2000000) only[go_sem,e3,e4]
   refine⟨⟨by omega,by omega⟩,?_⟩
   refine CallQ.hg 130 (fun _=>hcon) hH (fun h=>by rw[h];rfl) ?_
   refine vv ?_
   refine mtch (fun hd=>?_) (fun hd=>?_)
   ·refine RetQ.bool (hR C hL) rfl ⟨rfl,trivial⟩ ?_
    rw[hx]
    generalize decide (m.zs[i].2.length=m.ys.length)=a at*
    generalize m.zs[i].2.all nearB=b at*
    cases a<;>cases b<;>simp_all
   ·simp only[wS (show i≤1000000000000000000 by omega)]
    refine hb _ _ ⟨i+1,hc,?_⟩ [(1,1),(5,5)] (by simp only;omega) ⟨rfl,trivial,⟨rfl,rfl,rfl,rfl,trivial⟩,⟨oV (renV (rowsC_isV _)),oR,trivial⟩⟩
    rw[hx]
    generalize decide (m.zs[i].2.length=m.ys.length)=a at*
    generalize m.zs[i].2.all nearB=b at*
    cases a<;>cases b<;>simp_all
  ·have hc:=eq_of_dec hi hc
   rw[hc,List.drop_length]at hx
   exact RetQ.bool (hR C hL) rfl ⟨rfl,trivial⟩ (by rw[hx];rfl)
structure DgL.sm (d:DgL):Prop where
 nm:d.nm.length≤1000000000000000
 tys:d.tys.length≤1000000000000000∧∀t∈d.tys,t.nm.length≤1000000000000000
 cus:d.cus.length≤1000000000000000∧∀c∈d.cus,c.c.nm.length≤1000000000000000∧c.c.xs.length≤1000000000000000∧c.c.ys.length≤1000000000000000
 mas:d.mas.length≤1000000000000000∧∀m∈d.mas,m.nm.length≤1000000000000000∧∀v∈m.zs,v.2.length≤1000000000000000
 ins:d.ins.length≤1000000000000000∧∀p∈d.ins,p.nm.length≤1000000000000000∧p.ty.length≤1000000000000000
 bls:d.bls.length≤1000000000000000∧∀b∈d.bls,b.c.nm.length≤1000000000000000∧b.c.ty.length≤1000000000000000∧b.c.tb.length≤1000000000000000∧b.c.ins.length≤1000000000000000∧b.c.ks.length≤1000000000000000∧∀s∈b.c.ins,s.length≤1000000000000000
 ous:d.ous.length≤1000000000000000∧∀s∈d.ous,s.length≤1000000000000000
theorem _root_.Go.Proofs.YtlnpgbnhcondjaaGreatDoor.Vg.RetQ.letgo {C Ck:Cx}{e:Env}{M M0:Mem}(L:List Nat)(hL:Lf C Ck)(hP:Pins C.S M0)(h0:M0.all (fun p=> !L.contains p.1)=true)(hok:concOk L e M=true)
  (h:∀β Cn,Lf C Cn→Ck.hp.le Cn.hp→(∀n b,L.contains n=true→M.get n=some b→b.ro=false→Known Cn.hp β n b)→RetQ Cn (e.conc L β) (M.conc L β)):RetQ Ck e M:=fun β a w h1 h2 h4=>by
 obtain⟨Cn,l1,l2,l3,l4,l5⟩:=seal_core L hL hP h0 hok h1 h2
 rw[hL.q,←l1.q]
 exact h β Cn l1 l2 l3 β a w l4 l5 (h4.trans (hL.df.trans l1.df.symm))
def sigs (d:Dg):List Str:=d.ins.map (·.nm)++d.bls.map (·.nm)
end Go.Proofs.YtlnpgbnhcondjaaGreatDoor.Fx
namespace Go.Proofs.YtlnpgbnhcondjaaGreatDoor.Fx
set_option linter.unusedVariables false
structure Tk where
 k:Nat
 s:Str
 l:Nat
 c:Nat
def tk0:Tk:=⟨0,[],0,0⟩
def ngB (s:Str):Bool:=s.getD 0 0==45
def dgT (s:Str):Str:=bif ngB s then s.drop 1 else s
def canQ (s:Str):Bool:= !(dgT s==[])&&(!((dgT s).getD 0 0==48)||(decide ((dgT s).length=1)&& !ngB s))
def digV (l:Str):Nat:=l.foldl (fun a c=>a*10+(c.toNat-48)) 0
def numV (s:Str):Int:=bif ngB s then-(digV (dgT s):Int)else(digV (dgT s):Int)
def aprQ (s:Str):Int×Int:=
 if 24<s.length then(0,5)else if (dgT s==[]||((dgT s).getD 0 0==48&&decide (1<s.length)))=true then(0,3)else if (dgT s).all diB=false then(0,3)
 else if-9223372036854775808≤numV s∧numV s≤9223372036854775807 then(numV s,0)else(0,9)
def grtQ (s:Str):Bool:= !((aprQ s).2==0)||(decide (1099511627776<(aprQ s).1)||decide ((aprQ s).1< -1099511627776))
def nmbQ (s:Str):Int×Int:=if (aprQ s).2≠0 then(0,(aprQ s).2)else if 1099511627776<(aprQ s).1∨(aprQ s).1< -1099511627776 then(0,2)else((aprQ s).1,0)
def run1 (p:UInt8→Bool)(s:Str)(k:Nat):Nat:=((s.drop k).takeWhile p).length
def symL:Str:=[40,41,44,61,58,59,42,47,94]
def subS2 (s:Str)(at_ n:Nat):Str:=(s.drop at_).take n
def scnQ (l:Str)(at_:Nat):Nat×Nat×Int:=
 let c:=l.getD at_ 0
 if c=32∨c=9 then(0,1,0)
 else if leB c=true then(if 24<run1 inB l at_ then(0,0,5)else(1,run1 inB l at_,0))
 else if (diB c||(c==45&&(decide (at_+1<l.length)&&diB (l.getD (at_+1) 0))))=true then
  let n:=1+run1 diB l (at_+1)
  if ((decide (at_+n<l.length)&&(leB (l.getD (at_+n) 0)||l.getD (at_+n) 0==95))|| !canQ (subS2 l at_ n))=true then(0,0,3)
  else if grtQ (subS2 l at_ n)=true then(0,0,9)else(2,n,0)
 else if symL.contains c=true then(3,1,0)else(0,0,3)
def badB (c:UInt8):Bool:=decide (126<c.toNat)||(decide (c.toNat<32)&& !(c==9))
def badK (l:Str):Nat→Nat→Option Nat
 |0,_=>none
 |f+1,k=>if k<l.length then(if badB (l.getD k 0)=true then some k else badK l f (k+1))else none
def linQ (ln:Nat)(l:Str):Nat→Nat→List Tk×Option (Nat×Int)
 |0,_=>([],none)
 |f+1,k=>
  if l.length≤k then([],none)
  else if l.getD k 0=35 then(match badK l (l.length+1) k with
   |some j=>([],some (j,3))
   |none=>([],none))
  else if (scnQ l k).2.2≠0 then([],some (k,(scnQ l k).2.2))
  else((if (scnQ l k).1=0 then[]else[⟨(scnQ l k).1,subS2 l k (scnQ l k).2.1,ln,k+1⟩])++(linQ ln l f (k+(scnQ l k).2.1)).1,(linQ ln l f (k+(scnQ l k).2.1)).2)
def lnsQ:Nat→List Str→List Tk×(Nat×Nat)×Int
 |_,[]=>([],(0,0),0)
 |i,l::ls=>match (linQ (i+1) l (l.length+1) 0).2 with
  |some (k,e)=>([],(i+1,k+1),e)
  |none=>if (lnsQ (i+1) ls).2.2≠0 then([],(lnsQ (i+1) ls).2)else
   ((linQ (i+1) l (l.length+1) 0).1++(if (linQ (i+1) l (l.length+1) 0).1.isEmpty=true then[]else[⟨4,[],i+1,l.length+1⟩])++(lnsQ (i+1) ls).1,(0,0),0)
def tokQ (s:Str):List Tk×(Nat×Nat)×Int:=if 16384<s.length then([],(0,0),5)else lnsQ 0 (splB 10 s)
structure Ps where
 at_:Nat
 e:Int
 l:Nat
 c:Nat
section
variable (T:List Tk)
def hereP (p:Ps):Tk:=T.getD p.at_ tk0
def stopP (p:Ps)(l c:Nat)(e:Int):Ps:=bif p.e==0 then⟨p.at_,e,l,c⟩else p
def wrnP (p:Ps):Ps:=stopP p (hereP T p).l (hereP T p).c (bif (hereP T p).k==4 then 4 else 3)
def isP (s:Str)(p:Ps):Bool:=((hereP T p).k==1||(hereP T p).k==3)&&(hereP T p).s==s
def advP (p:Ps):Ps:={p with at_:=p.at_+1}
def takP (s:Str)(p:Ps):Bool×Ps:=bif isP T s p then(true,advP p)else(false,wrnP T p)
def namP (p:Ps):Option Str×Ps:=bif (hereP T p).k==1&&nmOk (hereP T p).s then(some (hereP T p).s,advP p)else(none,wrnP T p)
def intP (p:Ps):Option Int×Ps:=bif (hereP T p).k==2 then(some (nmbQ (hereP T p).s).1,advP p)else(none,wrnP T p)
def endP (p:Ps):Bool×Ps:=bif (hereP T p).k==4 then(true,advP p)else(false,stopP p (hereP T p).l (hereP T p).c 3)
def fulP (f:Tk)(many limit:Nat)(p:Ps):Bool×Ps:=bif decide (limit≤many)then(false,stopP p f.l f.c 5)else(true,p)
def bnd {α β:Type}(x:Option α×Ps)(f:α→Ps→Option β×Ps):Option β×Ps:=match x with
 |(none,p)=>(none,p)
 |(some a,p)=>f a p
def bndB {β:Type}(x:Bool×Ps)(f:Ps→Option β×Ps):Option β×Ps:=match x with
 |(false,p)=>(none,p)
 |(true,p)=>f p
def itsP (a b:Str):Nat→List Int→Ps→Option (List Int)×Ps
 |0,_,p=>(none,p)
 |f+1,l,p=>bif !l.isEmpty&&(isP T a p||isP T b p)then(some l,p)else bnd (intP T p) fun n q=>itsP a b f (l++[n]) q
def colP:Nat→Str→Ps→Str×Ps
 |0,s,p=>(s,p)
 |f+1,s,p=>bif (hereP T p).k==4 then(s,p)else colP f (s++(hereP T p).s) (advP p)
def untP (p:Ps):Option Un×Ps:=
 bif (hereP T p).k==4 then(none,wrnP T p)else
 bif (prs (colP T 40000 [] p).1).2==0 then(some (prs (colP T 40000 [] p).1).1,(colP T 40000 [] p).2)else(none,stopP (colP T 40000 [] p).2 (hereP T p).l (hereP T p).c 3)
def sgnT:Str:=[115,105,103,110,101,100]
def usgT:Str:=[117,110,115,105,103,110,101,100]
def mkFt (bits:Int)(sg:Bool)(num off den:Int)(u:Un):Ft:=⟨bits,sg,num,off,den,u.m,u.kg,u.s,u.a,u.k⟩
def typP (f:Tk)(m:Nat)(p:Ps):Option Td×Ps:=
 bnd (namP T p) fun nm p=>bndB (takP T [61] p) fun p=>bnd (intP T p) fun bits p=>
 bif !isP T sgnT p&& !isP T usgT p then(none,wrnP T p)else
 let sg:=isP T sgnT p
 bnd (intP T (advP p)) fun num p=>bnd (intP T p) fun off p=>bnd (intP T p) fun den p=>bnd (untP T p) fun u p=>
 bif !fok (mkFt bits sg num off den u)then(none,stopP p f.l f.c 1)else bndB (fulP f m 30 p) fun p=>(some ⟨nm,mkFt bits sg num off den u⟩,p)
def prsP:Nat→List Int→List Int→Ps→Option (List Int×List Int)×Ps
 |0,_,_,p=>(none,p)
 |f+1,xs,ys,p=>bnd (intP T p) fun x p=>bnd (intP T p) fun y p=>bif isP T [44] p then prsP f (xs++[x]) (ys++[y]) (advP p)else(some (xs++[x],ys++[y]),p)
def nolP (p:Ps):Ps:=bif p.e==0 then(endP T p).2 else p
def clsP {α:Type}(p:Ps)(f:Ps→Option α×Ps):Option α×Ps:=
 bif !(takP T [41] p).1 then(none,nolP T (takP T [41] p).2)else bif !((hereP T (takP T [41] p).2).k==4)then(none,nolP T (takP T [41] p).2)else f (takP T [41] p).2
def curP (f:Tk)(m:Nat)(p:Ps):Option Cu×Ps:=
 bnd (namP T p) fun nm p=>bndB (takP T [61] p) fun p=>bndB (takP T [40] p) fun p=>bnd (prsP T 40000 [] [] p) fun xy p=>clsP T p fun p=>
 bif !cuOk xy.1 xy.2 then(none,stopP p f.l f.c 1)else bndB (fulP f m 30 p) fun p=>(some ⟨nm,xy.1,xy.2⟩,p)
def rwsP:Nat→List (List Int)→Ps→Option (List (List Int))×Ps
 |0,_,p=>(none,p)
 |f+1,zs,p=>bnd (itsP T [44] [41] 40000 [] p) fun z p=>bif isP T [44] p then rwsP f (zs++[z]) (advP p)else(some (zs++[z]),p)
def mapP (f:Tk)(m:Nat)(p:Ps):Option Mp×Ps:=
 bnd (namP T p) fun nm p=>bndB (takP T [61] p) fun p=>bndB (takP T [40] p) fun p=>bnd (itsP T [59] [59] 40000 [] p) fun xs p=>bndB (takP T [59] p) fun p=>
 bnd (itsP T [59] [59] 40000 [] p) fun ys p=>bndB (takP T [59] p) fun p=>bnd (rwsP T 40000 [] p) fun zs p=>clsP T p fun p=>
 bif !maOk xs ys zs then(none,stopP p f.l f.c 1)else bndB (fulP f m 30 p) fun p=>(some ⟨nm,xs,ys,zs⟩,p)
def inpP (f:Tk)(m:Nat)(p:Ps):Option Po×Ps:=
 bnd (namP T p) fun nm p=>bndB (takP T [58] p) fun p=>bnd (namP T p) fun ty p=>bnd (intP T p) fun lo p=>bnd (intP T p) fun hi p=>
 bif !((hereP T p).k==4)then(none,(endP T p).2)else bndB (fulP f m 30 p) fun p=>(some ⟨nm,ty,lo,hi⟩,p)
def nmsP (a b:Str):Nat→List Str→Ps→Option (List Str)×Ps
 |0,_,p=>(none,p)
 |f+1,l,p=>bnd (namP T p) fun s p=>bif isP T a p||isP T b p then(some (l++[s]),p)else bndB (takP T [44] p) fun p=>nmsP a b f (l++[s]) p
def cmsP:Nat→List Int→Ps→Option (List Int)×Ps
 |0,_,p=>(none,p)
 |f+1,l,p=>bnd (intP T p) fun n p=>bif isP T [44] p then cmsP f (l++[n]) (advP p)else(some (l++[n]),p)
def arsP (p:Ps):Option (List Str)×Ps:=bif isP T [41] p||isP T [59] p then(some [],p)else nmsP T [59] [41] 40000 [] p
def ksP (p:Ps):Option (List Int)×Ps:=bif isP T [59] p then cmsP T 40000 [] (advP p)else(some [],p)
def bk2P (f kd:Tk)(a k t:Nat)(nm:Str)(m:Nat)(p:Ps):Option Bl×Ps:=
 bndB (takP T [40] p) fun p=>bnd (arsP T p) fun ins p=>bnd (ksP T p) fun ks p=>bndB (takP T [41] p) fun p=>bndB (takP T [58] p) fun p=>bnd (namP T p) fun ty p=>
 bif !((hereP T p).k==4)then(none,(endP T p).2)else
 bif !(decide (ins.length=a+min t 1))|| !(decide (ks.length=k))then(none,stopP p kd.l kd.c 1)else bndB (fulP f m 200 p) fun p=>
 (some ⟨nm,kd.s,ty,ins.take a,bif decide (1≤t)then ins.getD a []else[],ks⟩,p)
def blkP (f:Tk)(m:Nat)(p:Ps):Option Bl×Ps:=
 bnd (namP T p) fun nm p=>bndB (takP T [61] p) fun p=>
 bif !((hereP T p).k==1)|| !(kindQ (hereP T p).s).isSome then(none,wrnP T p)else
 bk2P T f (hereP T p) ((kindQ (hereP T p).s).getD (0,0,0)).1 ((kindQ (hereP T p).s).getD (0,0,0)).2.1 ((kindQ (hereP T p).s).getD (0,0,0)).2.2 nm m (advP p)
def ousP:Nat→List Str→Ps→Option (List Str)×Ps
 |0,_,p=>(none,p)
 |f+1,l,p=>bnd (namP T p) fun s p=>bif isP T [44] p then ousP f (l++[s]) (advP p)else(some (l++[s]),p)
def outP (f:Tk)(m:Nat)(p:Ps):Option (List Str)×Ps:=
 bnd (ousP T 40000 [] p) fun l p=>bif !((hereP T p).k==4)then(none,(endP T p).2)else bif decide (30<m+l.length)then(none,stopP p f.l f.c 5)else(some l,p)
def d0:Dg:=⟨[],[],[],[],[],[],[]⟩
def redP (f:Tk)(d:Dg)(p:Ps):Option (Option Dg×Ps):=
 if f.s=[116,121,112,101]then some ((typP T f d.tys.length p).1.map fun x=>{d with tys:=d.tys++[x]},(typP T f d.tys.length p).2)
 else if f.s=[99,117,114,118,101]then some ((curP T f d.cus.length p).1.map fun x=>{d with cus:=d.cus++[x]},(curP T f d.cus.length p).2)
 else if f.s=[109,97,112]then some ((mapP T f d.mas.length p).1.map fun x=>{d with mas:=d.mas++[x]},(mapP T f d.mas.length p).2)
 else if f.s=[105,110]then some ((inpP T f d.ins.length p).1.map fun x=>{d with ins:=d.ins++[x]},(inpP T f d.ins.length p).2)
 else if f.s=[98,108,111,99,107]then some ((blkP T f d.bls.length p).1.map fun x=>{d with bls:=d.bls++[x]},(blkP T f d.bls.length p).2)
 else if f.s=[111,117,116]then some ((outP T f d.ous.length p).1.map fun x=>{d with ous:=d.ous++x},(outP T f d.ous.length p).2)
 else none
def diaT:Str:=[100,105,97,103,114,97,109]
def lneP (beg:Bool)(d:Dg)(p:Ps):Option Dg×Ps:=
 bif beg then(bndB (takP T diaT p) fun p=>bnd (namP T p) fun nm p=>bndB (endP T p) fun p=>(some {d with nm:=nm},p))
 else bif !((hereP T p).k==1)then(none,wrnP T p)else match redP T (hereP T p) d (advP p)with
 |none=>(none,wrnP T p)
 |some x=>bnd x fun d p=>bndB (endP T p) fun p=>(some d,p)
def parL:Nat→Dg→Ps→Dg×(Nat×Nat)×Int
 |0,d,p=>(d,(0,0),0)
 |f+1,d,p=>if p.at_<T.length then(match (lneP T (p.at_==0) d p).1 with
  |none=>(d0,((lneP T (p.at_==0) d p).2.l,(lneP T (p.at_==0) d p).2.c),(lneP T (p.at_==0) d p).2.e)
  |some d'=>parL f d' (lneP T (p.at_==0) d p).2)else(d,(0,0),0)
end
def parD (s:Str):Dg×(Nat×Nat)×Int:=
 if (tokQ s).2.2≠0 then(d0,(tokQ s).2.1,(tokQ s).2.2)else if (tokQ s).1=[]then(d0,(0,0),4)else parL (tokQ s).1 40000 d0 ⟨0,0,0,0⟩
def awT:Str:=[100,105,97,103,114,97,109,32,100,10,116,121,112,101,32,116,32,61,32,49,54,32,115,105,103,110,101,100,32,49,32,48,32,52,32,49,47,115,10,105,110,32,110,32,58,32,116,32,48,32,52,48,48,48,10,98,108,111,99,107,32,104,97,108,102,32,61,32,100,105,118,40,110,44,32,116,119,111,41,32,58,32,116,10,98,108,111,99,107,32,116,119,111,32,61,32,99,111,110,115,116,40,59,32,50,41,32,58,32,117,10]
def awD:Dg:=⟨[100],[⟨[116],⟨16,true,1,0,4,0,0, -1,0,0⟩⟩],[],[],[⟨[110],[116],0,4000⟩],[⟨[104,97,108,102],[100,105,118],[116],[[110],[116,119,111]],[],[]⟩,⟨[116,119,111],[99,111,110,115,116],[117],[],[],[2]⟩],[]⟩
set_option linter.unusedSimpArgs false
set_option linter.unusedVariables false
set_option maxRecDepth 100000
theorem awP:parD awT=(awD,(0,0),0):=by rfl
end Go.Proofs.YtlnpgbnhcondjaaGreatDoor.Fx
