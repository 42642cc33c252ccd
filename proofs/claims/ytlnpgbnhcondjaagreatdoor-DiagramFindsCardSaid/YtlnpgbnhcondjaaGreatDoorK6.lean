/-  -/
import Derived.Test.YtlnpgbnhcondjaaGreatDoorPS
import Derived.Test.YtlnpgbnhcondjaaGreatDoorZ4
import Derived.Test.YtlnpgbnhcondjaaGreatDoorSA
import Derived.Test.YtlnpgbnhcondjaaGreatDoorMB
import Derived.Test.YtlnpgbnhcondjaaGreatDoorTf
import Derived.Test.YtlnpgbnhcondjaaGreatDoorRows
import Derived.Test.YtlnpgbnhcondjaaGreatDoorY9
import Derived.LaidMore
import Derived.LaidSub
import Derived.LaidLaws
import Derived.Lib.LaidTab
import Derived.Lay
namespace Go.Proofs.YtlnpgbnhcondjaaGreatDoor.Fx
open Vg Tf
set_option linter.unusedSimpArgs false
set_option linter.unusedVariables false
set_option maxRecDepth 100000
set_option maxHeartbeats 4000000
theorem eqJs_ {H:Hp}(a b:Sv)(l:List Int)(ha:SlH H (vsl a l.length) 1 (intsR l))(hb:SlH H (vsl b l.length) 1 (intsR l))(hl:l.length≤1000000000000000):CallH H Tryz.prog 39 [.c (.v (vsl a l.length)),.c (.v (vsl b l.length))] (Bo true):=by
 refine CallH.mkS Tryz.func39 rfl en39 (by simp[Tryz.ntmps39]) (ClA.of rfl) fun C hR hP hH hL=>?_
 refine Sm.bringI 1 3 0 (ha.mono hH) rfl rfl ?_
 refine Sm.bringI 2 3 1 (hb.mono hH) rfl rfl ?_
 refine Sm.go 100 ?_
 simp(maxSteps:=2000000) only[go_sem,bne_self_eq_false]
 refine Sm.loopM (M0:=[]) (α:={i:Nat//i≤l.length}) hP (fun i=>[(0,true,.c (.sl 1 0 l.length 1)),(1,true,.c (.sl 2 0 l.length 1)),(12,true,I l.length),(13,true,I i.val)])
  (fun _=>[(1,⟨true,l.map iC,3⟩),(2,⟨true,l.map iC,3⟩)]) (fun i=>l.length-i.val) ⟨0,by omega⟩ (fun _=>ClM.of (by simp only[List.all_cons,inMV (v_iC _)];rfl)) (fun _=>ClE.of rfl) [(1,1),(2,2)] ?_ ?_
 ·exact⟨rfl,trivial,⟨rfl,rfl,rfl,rfl,trivial⟩,⟨.inr ⟨_,rfl,.inl (renV (v_iC _))⟩,.inr ⟨_,rfl,.inl (renV (v_iC _))⟩,trivial⟩⟩
 rintro⟨i,hi⟩ J hj
 simp only at hj hi⊢
 refine Sm.go 110 ?_
 refine vv ?_
 refine mtch (fun hc=>?_) (fun hc=>?_)
 ·have hc:=lt_of_dec hc
  have gi:=get_iC hc
  refine Sm.dg 110 8 mix ?_
  simp(maxSteps:=2000000) only[go_sem,gi,bne_self_eq_false,beq_self_eq_true,wS (show i≤1000000000000000000 by omega)]
  exact⟨⟨by omega,by omega⟩,⟨by omega,by omega⟩,hj _ _ ⟨i+1,hc⟩ [(1,1),(2,2)] (by simp only;omega) ⟨rfl,trivial,⟨rfl,rfl,rfl,rfl,trivial⟩,⟨.inr ⟨_,rfl,.inl (renV (v_iC _))⟩,.inr ⟨_,rfl,.inl (renV (v_iC _))⟩,trivial⟩⟩⟩
 ·exact RetQ.bool (hR C hL) rfl scc rfl
theorem fin1_ {H:Hp}(a b:Sv)(l:List Int)(ha:SlH H (vsl a l.length) 1 (intsR l))(hb:SlH H (vsl b l.length) 1 (intsR l))(hl:l.length≤1000000000000000):CallH H Tryz.prog 38 [.c (.v (vsl a l.length)),.c (.v (vsl b l.length))] (Bo true):=by
 refine CallH.mkS Tryz.func38 rfl en38 (by simp[Tryz.ntmps38]) (ClA.of rfl) fun C hR hP hH hL=>?_
 refine Sm.go 100 ?_
 refine vv ?_
 refine CallQ.h 110 (eqJs_ a b l ha hb hl) hH rfl ?_
 refine vv ?_
 exact RetQ.bool (hR C hL) rfl ⟨rfl,trivial⟩ rfl
theorem usq_bd {d:Dg}:∀l∈usQ d,l.length≤3:=fun l hl=>by
 unfold usQ at hl
 cases h:dgOk d with
 |false=>rw[h]at hl;cases hl
 |true=>
  rw[h]at hl
  obtain⟨b,hb,rfl⟩:=List.mem_map.1 hl
  unfold dgOk at h
  simp only[Bool.and_eq_true,decide_eq_true_eq,List.all_eq_true]at h
  obtain⟨_,_,_,_,_,_,_,h6,_⟩:=h
  rw[List.length_map];exact blO_in (h6 b hb)
theorem usq_len {d:Dg}:(usQ d).length≤200:=by
 unfold usQ
 cases h:dgOk d with
 |false=>exact Nat.zero_le _
 |true=>
  unfold dgOk at h
  simp only[Bool.and_eq_true,decide_eq_true_eq,List.all_eq_true]at h
  show((d.bls.map _).length)≤200
  rw[List.length_map];exact h.2.2.1
theorem finds_ {H:Hp}(hE:ErR H)(d:DgL)(o:d.ok H)(hs:d.sm)(s:Str):CallH H Tryz.prog 7 [rowV d.r,S s] (Bo true):=by
 have hr:∀{f:FuncId} {l:List V} {v:V},CallH H Tryz.prog f (rowV d.r::l) v→CallH H Tryz.prog f (.agg (d.r.map Cv.v)::l) v:=fun h=>h
 refine CallH.mkS Tryz.func7 rfl en7 (by simp[Tryz.ntmps7]) (ClA.of rfl) fun C hR hP hH hL=>?_
 refine Sm.go 100 ?_
 refine vv ?_
 refine CallQ.h 110 (awake_ hE) hH rfl ?_
 refine vv ?_
 refine CallQ.h 120 (few_ d o hs) hH rfl ?_
 refine vv ?_
 generalize fewB d=B0 at*
 refine mtch (fun hc=>?_) (fun hc=>?_)
 ·exact RetQ.bool (hR C hL) rfl ⟨rfl,trivial⟩ rfl
 have hc2:s.length≤60:=by
  cases B0 with
  |false=>cases hc
  |true=>
   have:decide (60<(s.length:Int))=false:=hc
   have:=of_decide_eq_false this
   omega
 refine Sm.dg 130 5 mix ?_
 refine vv ?_
 have hil:=hs.ins.1
 have hbl:=hs.bls.1
 refine DCallQ.h 140 (fun _=>pfind_ d o s (by omega) (by omega)) hH (fun _=>rfl) ?_
 refine vv ?_
 refine CallQ.h 150 (rfind_ d o s (by omega) (by omega)) hH rfl ?_
 simp(maxSteps:=2000000) only[go_sem,bne_self_eq_false]
 refine CallQ.x 160 hL (uses_ d o hs) hH (SubS.sub trivial) ClM.nil (fun _=>Fresh.of rfl) rfl rfl rfl (fun u C1 H1 l1 k1 j1 p1=>?_)
 refine vv ?_
 have h1:=hH.trans k1
 refine CallQ.h 170 (rdvalid d o hs) h1 rfl ?_
 refine vv ?_
 refine mtch (fun hv=>?_) (fun hv=>?_)
 ·have hq:usQ d.c=[]:=by unfold usQ;have:dgOk d.c=false:=by simpa using hv
                         rw[this];rfl
  have hz:u.z=[]:=by have:=p1.1;rw[hq]at this;exact List.map_eq_nil_iff.1 this
  refine RetQ.bool (hR C1 l1) rfl ⟨rfl,trivial⟩ ?_
  rw[hz];rfl
 have hv2:dgOk d.c=true:=by simpa using hv
 refine CallQ.x 180 l1 (ruses_ d o hv2) h1 (SubS.sub trivial) ClM.nil (fun _=>Fresh.of rfl) rfl rfl rfl (fun w C2 H2 l2 k2 j2 p2=>?_)
 refine vv ?_
 have hou:=(p1.2.mono j1).mono k2
 have how:=p2.2.mono j2
 have hlu:u.z.length≤200:=by have:=congrArg List.length p1.1;simp only[ZL.c,List.length_map]at this;rw[this];exact usq_len
 refine CallQ.h 190 (eqfZ u w hou how (p1.1.trans p2.1.symm) (by omega) 38 (fun a b ha hb he=>?_)) (Hp.le.refl _) rfl ?_
 ·have e1:=hou.e a ha
  have e2:=how.e b hb
  have hl:a.2.length≤3:=usq_bd (d:=d.c) a.2 (by rw[←p1.1];exact List.mem_map.2 ⟨a,ha,rfl⟩)
  rw[←he]at e2⊢
  exact fin1_ _ _ _ e1 e2 (by omega)
 refine vv ?_
 exact RetQ.bool (hR C2 l2) rfl ⟨rfl,trivial⟩ rfl
end Go.Proofs.YtlnpgbnhcondjaaGreatDoor.Fx
namespace Go.Proofs.YtlnpgbnhcondjaaGreatDoor
open Go.ChangeShapes Go.WideShapes Go.ChangeAt Go.RowKit
open Vg Tf
set_option linter.unusedSimpArgs false
set_option linter.unusedVariables false
set_option maxRecDepth 100000
theorem own:ownKnob Tryz.prog.godebug=none:=by kernel_rfl
theorem laidOut:laidOutB Tryz.prog=true:=by kernel_rfl
theorem fmr:mapsRowed Tryz.pinned.checked.prog=true:=by kernel_rfl
theorem flo:laidOutB Tryz.pinned.checked.prog=true:=by kernel_rfl
theorem fsh:Tryz.pinned.checked.prog.stopsHeard=true:=by kernel_rfl
theorem fme:Tryz.pinned.checked.prog.mayEnter=true:=by kernel_rfl
end Go.Proofs.YtlnpgbnhcondjaaGreatDoor
namespace Go.Proofs.YtlnpgbnhcondjaaGreatDoor
open Go.ChangeShapes Go.WideShapes Go.ChangeAt Go.RowKit
open Vg Tf Fx
set_option linter.unusedSimpArgs false
set_option linter.unusedVariables false
set_option maxRecDepth 100000
theorem leafS {x:Cv}(h:okL [.s] [x]=true)(hb:bdC x):∃l:List UInt8,x= .v (.string ⟨l.toArray⟩)∧l.length≤9223372036854775807:=by
 obtain⟨n,y,e,_⟩:=okL_s h
 obtain rfl:=(List.cons.inj e).1
 refine⟨n.data.toList,?_,?_⟩
 ·simp
 ·have:n.size≤maxLen:=hb
  have e:n.data.toList.length=n.size:=by rw[Array.length_toList];rfl
  unfold maxLen at this
  omega
theorem er_of {W:World}(h:laidMetH Tryz.prog [("strconv.ErrRange",Rows.laid_strconv_ErrRange)] W):ErR (hpW W):=by
 rw[MakeChecks.laidMetH_plain _ _ _ (by kernel_rfl)]at h
 obtain⟨ps,⟨g',t',cs,fuel,p,q,hg',ht',hvar,hd,_,_⟩,_⟩:=h
 have hg:Tryz.prog.globalNamed "strconv.ErrRange" =some 6:=by kernel_rfl
 obtain rfl:=Option.some.inj (hg.symm.trans hg')
 have hty:(Tryz.prog.globals[6]?).map (·.type)=some 59:=by kernel_rfl
 obtain rfl:=Option.some.inj (hty.symm.trans ht')
 obtain⟨_,u,v,hcs,_,_⟩:=Go.iface_of_trod (Tryz.underlying59) hd
 have hcs2:cs= #[.iface u v]:=by
  apply Array.toList_inj.1
  rw[hcs]
 subst hcs2
 obtain⟨el,mk,hb⟩:=GlW.of_var (cs:=[.iface u v]) hg hvar
 exact⟨.iface u v,el,mk,hb,.inr ⟨u,v,rfl⟩⟩
end Go.Proofs.YtlnpgbnhcondjaaGreatDoor
