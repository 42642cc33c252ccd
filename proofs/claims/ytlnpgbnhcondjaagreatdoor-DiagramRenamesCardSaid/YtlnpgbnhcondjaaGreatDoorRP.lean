/-  -/
import Derived.Test.YtlnpgbnhcondjaaGreatDoorPS
import Derived.Test.YtlnpgbnhcondjaaGreatDoorRI
import Derived.Lib.AppendZeros
namespace Go.Proofs.YtlnpgbnhcondjaaGreatDoor.Fx
open Vg Tf
set_option linter.unusedSimpArgs false
set_option linter.unusedVariables false
set_option maxRecDepth 100000
set_option maxHeartbeats 4000000
end Go.Proofs.YtlnpgbnhcondjaaGreatDoor.Fx
namespace Go.Proofs.YtlnpgbnhcondjaaGreatDoor.Fx
open Vg Tf
set_option linter.unusedSimpArgs false
set_option linter.unusedVariables false
set_option maxRecDepth 100000
set_option maxHeartbeats 4000000
def nb (n:Int):Prop:= -1073741824≤n∧n≤1073741824
structure MaOk (m:Mp):Prop where
 x2:2≤m.xs.length
 x3:m.xs.length≤32
 xn:∀i,i<m.xs.length→nb (m.xs.getD i 0)
 xi:incB m.xs=true
 y2:2≤m.ys.length
 y3:m.ys.length≤32
 yn:∀i,i<m.ys.length→nb (m.ys.getD i 0)
 yi:incB m.ys=true
 zl:m.zs.length=m.xs.length
 zr:∀i,i<m.zs.length→(m.zs.getD i []).length=m.ys.length
 zn:∀i,i<m.zs.length→∀j,j<m.ys.length→nb ((m.zs.getD i []).getD j 0)
theorem MaOk.of {m:Mp}(h:maOk m.xs m.ys m.zs=true):MaOk m:=by
 unfold maOk axOk at h
 simp only[Bool.and_eq_true,decide_eq_true_eq,List.all_eq_true]at h
 obtain⟨⟨⟨x2,x3⟩,xn,xi⟩,⟨⟨y2,y3⟩,yn,yi⟩,zl,zr⟩:=h
 have gz:∀i,i<m.zs.length→m.zs.getD i []∈m.zs:=fun i hi=>by
  rw[List.getD_eq_getElem?_getD,List.getElem?_eq_getElem hi];exact List.getElem_mem hi
 exact⟨x2,x3,fun i hi=>near_bd (all_getD (List.all_eq_true.2 xn) i hi),xi,y2,y3,fun i hi=>near_bd (all_getD (List.all_eq_true.2 yn) i hi),yi,zl,
  fun i hi=>(zr _ (gz i hi)).1,fun i hi j hj=>by
   have:=zr _ (gz i hi)
   exact near_bd (all_getD (List.all_eq_true.2 this.2) j (by rw[this.1];exact hj))⟩
end Go.Proofs.YtlnpgbnhcondjaaGreatDoor.Fx
namespace Go.Proofs.YtlnpgbnhcondjaaGreatDoor.Fx
open Vg Tf
set_option linter.unusedSimpArgs false
set_option linter.unusedVariables false
set_option maxRecDepth 100000
set_option maxHeartbeats 4000000
def mxG:Int→List Int→Int
 |a,[]=>a
 |a,x::l=>mxG (max a x) l
end Go.Proofs.YtlnpgbnhcondjaaGreatDoor.Fx
namespace Go.Proofs.YtlnpgbnhcondjaaGreatDoor.Fx
open Vg Tf
set_option linter.unusedSimpArgs false
set_option linter.unusedVariables false
set_option maxRecDepth 100000
set_option maxHeartbeats 4000000
def allZ (m:Mp):List Int:=m.zs.flatten
theorem MaOk.all (m:Mp)(k:MaOk m):0<(allZ m).length∧(allZ m).length≤1024:=by
 have hlen:∀l:List (List Int),(∀z∈l,z.length=m.ys.length)→l.flatten.length=l.length*m.ys.length:=by
  intro l
  induction l with
  |nil=>intro _;simp
  |cons a l ih=>intro h;rw[List.flatten_cons,List.length_append,h a (by simp),ih fun z hz=>h z (by simp[hz]),List.length_cons,Nat.succ_mul,Nat.add_comm]
 have h1:=hlen m.zs (fun z hz=>by
  obtain⟨i,hi,rfl⟩:=List.getElem_of_mem hz
  have:=k.zr i hi
  rwa [List.getD_eq_getElem?_getD,List.getElem?_eq_getElem hi]at this)
 have h2:=k.x2
 have h3:=k.y2
 have h4:=k.x3
 have h5:=k.y3
 unfold allZ
 rw[h1,k.zl]
 have h6:2*2≤m.xs.length*m.ys.length:=Nat.mul_le_mul h2 h3
 have h7:m.xs.length*m.ys.length≤32*32:=Nat.mul_le_mul h4 h5
 omega
end Go.Proofs.YtlnpgbnhcondjaaGreatDoor.Fx
namespace Go.Proofs.YtlnpgbnhcondjaaGreatDoor.Fx
open Vg Tf
set_option linter.unusedSimpArgs false
set_option linter.unusedVariables false
set_option maxRecDepth 100000
set_option maxHeartbeats 4000000
end Go.Proofs.YtlnpgbnhcondjaaGreatDoor.Fx
namespace Go.Proofs.YtlnpgbnhcondjaaGreatDoor.Fx
open Vg Tf
set_option linter.unusedSimpArgs false
set_option linter.unusedVariables false
set_option maxRecDepth 100000
set_option maxHeartbeats 4000000
theorem rtexts_ {H:Hp}(a b:Sv)(l:List Str)(ha:SlH H (vsl a l.length) 1 (strsR l))(hb:SlH H (vsl b l.length) 1 (strsR l))(hl:l.length≤1000000000000000):CallH H Tryz.prog 57 [.c (.v (vsl a l.length)),.c (.v (vsl b l.length))] (Bo true):=by
 refine CallH.mkS Tryz.func57 rfl en57 (by simp[Tryz.ntmps57]) (ClA.of rfl) fun C hR hP hH hL=>?_
 refine Sm.bringS 1 9 0 (ha.mono hH) rfl rfl ?_
 refine Sm.bringS 2 9 1 (hb.mono hH) rfl rfl (Sm.go 100 ?_)
 simp(maxSteps:=2000000) only[go_sem,bne_self_eq_false]
 refine Sm.loopM (M0:=[]) (α:={i:Nat//i≤l.length}) hP (fun i=>[(0,true,.c (.sl 1 0 l.length 1)),(1,true,.c (.sl 2 0 l.length 1)),(5,true,I i.val)])
  (fun _=>[(1,⟨true,l.map sC,9⟩),(2,⟨true,l.map sC,9⟩)]) (fun i=>l.length-i.val) ⟨0,by omega⟩ (fun _=>ClM.of (by simp only[List.all_cons,inMV (v_sC _)];rfl)) (fun _=>ClE.of rfl) [(1,1),(2,2)] ?_ ?_
 ·exact⟨rfl,trivial,⟨rfl,rfl,rfl,trivial⟩,⟨.inr ⟨_,rfl,.inl (renV (v_sC _))⟩,.inr ⟨_,rfl,.inl (renV (v_sC _))⟩,trivial⟩⟩
 rintro⟨i,hi⟩ J hj
 simp only at hj hi⊢
 refine Sm.go 110 ?_
 refine vv ?_
 refine mtch (fun hc=>?_) (fun hc=>?_)
 ·have hc:=lt_of_dec hc
  have gi:=get_sC hc
  refine Sm.dg 110 8 mix ?_
  simp(maxSteps:=2000000) only[go_sem,gi,bne_self_eq_false,wS (show i≤1000000000000000000 by omega)]
  exact⟨⟨by omega,by omega⟩,⟨by omega,by omega⟩,hj _ _ ⟨i+1,hc⟩ [(1,1),(2,2)] (by simp only;omega) ⟨rfl,trivial,⟨rfl,rfl,rfl,trivial⟩,⟨.inr ⟨_,rfl,.inl (renV (v_sC _))⟩,.inr ⟨_,rfl,.inl (renV (v_sC _))⟩,trivial⟩⟩⟩
 ·exact RetQ.bool (hR C hL) rfl scc rfl
theorem rsame6_ {H:Hp}(a b:Sv)(l:List Int)(ha:SlH H (vsl a l.length) 1 (intsR l))(hb:SlH H (vsl b l.length) 1 (intsR l))(hl:l.length≤1000000000000000):CallH H Tryz.prog 168 [.c (.v (vsl a l.length)),.c (.v (vsl b l.length))] (Bo true):=by
 refine CallH.mkS Tryz.func168 rfl en168 (by simp[Tryz.ntmps168]) (ClA.of rfl) fun C hR hP hH hL=>?_
 refine Sm.bringI 1 3 0 (ha.mono hH) rfl rfl ?_
 refine Sm.bringI 2 3 1 (hb.mono hH) rfl rfl (Sm.go 100 ?_)
 simp(maxSteps:=2000000) only[go_sem,bne_self_eq_false]
 refine Sm.loopM (M0:=[]) (α:={i:Nat//i≤l.length}) hP (fun i=>[(0,true,.c (.sl 1 0 l.length 1)),(1,true,.c (.sl 2 0 l.length 1)),(5,true,I i.val)])
  (fun _=>[(1,⟨true,l.map iC,3⟩),(2,⟨true,l.map iC,3⟩)]) (fun i=>l.length-i.val) ⟨0,by omega⟩ (fun _=>ClM.of (by simp only[List.all_cons,inMV (v_iC _)];rfl)) (fun _=>ClE.of rfl) [(1,1),(2,2)] ?_ ?_
 ·exact⟨rfl,trivial,⟨rfl,rfl,rfl,trivial⟩,⟨.inr ⟨_,rfl,.inl (renV (v_iC _))⟩,.inr ⟨_,rfl,.inl (renV (v_iC _))⟩,trivial⟩⟩
 rintro⟨i,hi⟩ J hj
 simp only at hj hi⊢
 refine Sm.go 110 ?_
 refine vv ?_
 refine mtch (fun hc=>?_) (fun hc=>?_)
 ·have hc:=lt_of_dec hc
  have gi:=get_iC hc
  refine Sm.dg 110 8 mix ?_
  simp(maxSteps:=2000000) only[go_sem,gi,bne_self_eq_false,wS (show i≤1000000000000000000 by omega)]
  exact⟨⟨by omega,by omega⟩,⟨by omega,by omega⟩,hj _ _ ⟨i+1,hc⟩ [(1,1),(2,2)] (by simp only;omega) ⟨rfl,trivial,⟨rfl,rfl,rfl,trivial⟩,⟨.inr ⟨_,rfl,.inl (renV (v_iC _))⟩,.inr ⟨_,rfl,.inl (renV (v_iC _))⟩,trivial⟩⟩⟩
 ·exact RetQ.bool (hR C hL) rfl scc rfl
theorem rnums_ {H:Hp}(a b:Sv)(l:List Int)(ha:SlH H (vsl a l.length) 1 (intsR l))(hb:SlH H (vsl b l.length) 1 (intsR l))(hl:l.length≤1000000000000000):CallH H Tryz.prog 169 [.c (.v (vsl a l.length)),.c (.v (vsl b l.length))] (Bo true):=by
 refine CallH.mkS Tryz.func169 rfl en169 (by simp[Tryz.ntmps169]) (ClA.of rfl) fun C hR hP hH hL=>?_
 refine Sm.bringI 1 3 0 (ha.mono hH) rfl rfl ?_
 refine Sm.bringI 2 3 1 (hb.mono hH) rfl rfl (Sm.go 100 ?_)
 simp(maxSteps:=2000000) only[go_sem,bne_self_eq_false]
 refine Sm.loopM (M0:=[]) (α:={i:Nat//i≤l.length}) hP (fun i=>[(0,true,.c (.sl 1 0 l.length 1)),(1,true,.c (.sl 2 0 l.length 1)),(5,true,I i.val)])
  (fun _=>[(1,⟨true,l.map iC,3⟩),(2,⟨true,l.map iC,3⟩)]) (fun i=>l.length-i.val) ⟨0,by omega⟩ (fun _=>ClM.of (by simp only[List.all_cons,inMV (v_iC _)];rfl)) (fun _=>ClE.of rfl) [(1,1),(2,2)] ?_ ?_
 ·exact⟨rfl,trivial,⟨rfl,rfl,rfl,trivial⟩,⟨.inr ⟨_,rfl,.inl (renV (v_iC _))⟩,.inr ⟨_,rfl,.inl (renV (v_iC _))⟩,trivial⟩⟩
 rintro⟨i,hi⟩ J hj
 simp only at hj hi⊢
 refine Sm.go 110 ?_
 refine vv ?_
 refine mtch (fun hc=>?_) (fun hc=>?_)
 ·have hc:=lt_of_dec hc
  have gi:=get_iC hc
  refine Sm.dg 110 8 mix ?_
  simp(maxSteps:=2000000) only[go_sem,gi,bne_self_eq_false,wS (show i≤1000000000000000000 by omega)]
  exact⟨⟨by omega,by omega⟩,⟨by omega,by omega⟩,hj _ _ ⟨i+1,hc⟩ [(1,1),(2,2)] (by simp only;omega) ⟨rfl,trivial,⟨rfl,rfl,rfl,trivial⟩,⟨.inr ⟨_,rfl,.inl (renV (v_iC _))⟩,.inr ⟨_,rfl,.inl (renV (v_iC _))⟩,trivial⟩⟩⟩
 ·exact RetQ.bool (hR C hL) rfl scc rfl
end Go.Proofs.YtlnpgbnhcondjaaGreatDoor.Fx
namespace Go.Proofs.YtlnpgbnhcondjaaGreatDoor.Fx
open Vg Tf
set_option linter.unusedSimpArgs false
set_option linter.unusedVariables false
set_option maxRecDepth 100000
set_option maxHeartbeats 4000000
theorem rsame5_ {H:Hp}(a b:CuL)(ha:a.ok H)(hb:b.ok H)(hx:a.c.xs=b.c.xs)(hy:a.c.ys=b.c.ys)(hlx:b.c.xs.length≤1000000000000000)(hly:b.c.ys.length≤1000000000000000):CallH H Tryz.prog 58 [.agg (cuV a),.agg (cuV b)] (Bo true):=by
 have ax:=ha.x
 have ay:=ha.y
 have hil:∀l:List Int,(intsR l).length=l.length:=fun l=>by simp[intsR]
 unfold cuV
 rw[hx]at ax⊢
 rw[hy]at ay⊢
 have bx:=hb.x
 have by1:=hb.y
 generalize b.c.xs=xs at*
 generalize b.c.ys=ys at*
 refine CallH.mkS Tryz.func58 rfl en58 (by simp[Tryz.ntmps58]) (ClA.of rfl) fun C hR hP hH hL=>?_
 refine Sm.go 100 ?_
 simp(maxSteps:=2000000) only[go_sem,bne_self_eq_false]
 refine Sm.bringC 1 3 100 0 (ax.mono hH) rfl rfl rfl ?_
 refine Sm.bringC 2 3 100 1 (ay.mono hH) rfl rfl rfl ?_
 refine Sm.bringC 3 3 101 0 (bx.mono hH) rfl rfl rfl ?_
 refine Sm.bringC 4 3 101 1 (by1.mono hH) rfl rfl rfl ?_
 rw[hil,hil,intsC,intsC]
 refine Sm.loopM (M0:=[]) (α:={i:Nat//i≤xs.length}) hP (fun i=>[(2,true,.c (.p 5 0)),(3,true,.c (.p 6 0)),(5,true,I i.val)])
  (fun _=>[(1,⟨true,xs.map iC,3⟩),(2,⟨true,ys.map iC,3⟩),(3,⟨true,xs.map iC,3⟩),(4,⟨true,ys.map iC,3⟩),(5,⟨false,[.sl 1 0 xs.length 1,.sl 2 0 ys.length 1],108⟩),(6,⟨false,[.sl 3 0 xs.length 1,.sl 4 0 ys.length 1],108⟩)]) (fun i=>xs.length-i.val) ⟨0,by omega⟩ (fun _=>ClM.of (by simp only[List.all_cons,inMV (v_iC _)];rfl)) (fun _=>ClE.of rfl) [(1,1),(2,2),(3,3),(4,4),(5,100),(6,101)] ?_ ?_
 ·exact⟨rfl,trivial,⟨rfl,rfl,rfl,trivial⟩,⟨.inr ⟨_,rfl,.inl (renV (v_iC _))⟩,.inr ⟨_,rfl,.inl (renV (v_iC _))⟩,.inr ⟨_,rfl,.inl (renV (v_iC _))⟩,.inr ⟨_,rfl,.inl (renV (v_iC _))⟩,.inr ⟨_,rfl,.inl rfl⟩,.inr ⟨_,rfl,.inl rfl⟩,trivial⟩⟩
 rintro⟨i,hi⟩ J hj
 simp only at hj hi⊢
 refine Sm.go 110 ?_
 refine vv ?_
 refine mtch (fun hc=>?_) (fun hc=>?_)
 ·have hc:=lt_of_dec hc
  have gi:=get_iC hc
  refine Sm.dg 110 10 mix ?_
  simp(maxSteps:=2000000) only[go_sem,gi,bne_self_eq_false,wS (show i≤1000000000000000000 by omega)]
  exact⟨⟨by omega,by omega⟩,⟨by omega,by omega⟩,hj _ _ ⟨i+1,hc⟩ [(1,1),(2,2),(3,3),(4,4),(5,5),(6,6)] (by simp only;omega) ⟨rfl,trivial,⟨rfl,rfl,rfl,trivial⟩,⟨.inr ⟨_,rfl,.inl (renV (v_iC _))⟩,.inr ⟨_,rfl,.inl (renV (v_iC _))⟩,.inr ⟨_,rfl,.inl (renV (v_iC _))⟩,.inr ⟨_,rfl,.inl (renV (v_iC _))⟩,.inr ⟨_,rfl,.inl rfl⟩,.inr ⟨_,rfl,.inl rfl⟩,trivial⟩⟩⟩
 refine Sm.loopM (M0:=[]) (α:={i:Nat//i≤ys.length}) hP (fun i=>[(2,true,.c (.p 5 0)),(3,true,.c (.p 6 0)),(6,true,I i.val)])
  (fun _=>[(1,⟨true,xs.map iC,3⟩),(2,⟨true,ys.map iC,3⟩),(3,⟨true,xs.map iC,3⟩),(4,⟨true,ys.map iC,3⟩),(5,⟨false,[.sl 1 0 xs.length 1,.sl 2 0 ys.length 1],108⟩),(6,⟨false,[.sl 3 0 xs.length 1,.sl 4 0 ys.length 1],108⟩)]) (fun i=>ys.length-i.val) ⟨0,by omega⟩ (fun _=>ClM.of (by simp only[List.all_cons,inMV (v_iC _)];rfl)) (fun _=>ClE.of rfl) [(1,1),(2,2),(3,3),(4,4),(5,5),(6,6)] ?_ ?_
 ·exact⟨rfl,trivial,⟨rfl,rfl,rfl,trivial⟩,⟨.inr ⟨_,rfl,.inl (renV (v_iC _))⟩,.inr ⟨_,rfl,.inl (renV (v_iC _))⟩,.inr ⟨_,rfl,.inl (renV (v_iC _))⟩,.inr ⟨_,rfl,.inl (renV (v_iC _))⟩,.inr ⟨_,rfl,.inl rfl⟩,.inr ⟨_,rfl,.inl rfl⟩,trivial⟩⟩
 rintro⟨j,hk⟩ J2 hj2
 simp only at hj2 hk⊢
 refine Sm.go 110 ?_
 refine vv ?_
 refine mtch (fun hc=>?_) (fun hc=>?_)
 ·have hc:=lt_of_dec hc
  have gi:=get_iC hc
  refine Sm.dg 110 10 mix ?_
  simp(maxSteps:=2000000) only[go_sem,gi,bne_self_eq_false,wS (show j≤1000000000000000000 by omega)]
  exact⟨⟨by omega,by omega⟩,⟨by omega,by omega⟩,hj2 _ _ ⟨j+1,hc⟩ [(1,1),(2,2),(3,3),(4,4),(5,5),(6,6)] (by simp only;omega) ⟨rfl,trivial,⟨rfl,rfl,rfl,trivial⟩,⟨.inr ⟨_,rfl,.inl (renV (v_iC _))⟩,.inr ⟨_,rfl,.inl (renV (v_iC _))⟩,.inr ⟨_,rfl,.inl (renV (v_iC _))⟩,.inr ⟨_,rfl,.inl (renV (v_iC _))⟩,.inr ⟨_,rfl,.inl rfl⟩,.inr ⟨_,rfl,.inl rfl⟩,trivial⟩⟩⟩
 ·exact RetQ.bool (hR C hL) rfl scc rfl
theorem zget {v:Sv}{zs:List (Sv×List Int)}{i:Nat}(h:i<zs.length):(rowsC (zs.map zR))[i]?=some (.v (.slice zs[i].1.o zs[i].2.length zs[i].1.c)):=zr_get (m:=⟨[],[],[],zs,v,v,v⟩) h
theorem rsame6m_ {H:Hp}(a b:MpL)(ha:a.ok H)(hb:b.ok H)(hx:a.xs=b.xs)(hy:a.ys=b.ys)(hz:a.zs.map (·.2)=b.zs.map (·.2))(hlx:b.xs.length≤1000000000000000)(hly:b.ys.length≤1000000000000000)(hlz:b.zs.length≤1000000000000000)(hlr:∀v∈b.zs,v.2.length≤1000000000000000):CallH H Tryz.prog 59 [.agg (maV a),.agg (maV b)] (Bo true):=by
 have ax:=ha.x
 have ay:=ha.y
 have hzl:a.zs.length=b.zs.length:=by have:=congrArg List.length hz;simpa using this
 have az:SlH H (vsl a.z b.zs.length) 1 (a.zs.map zR):=by have:=ha.z;rwa [hzl]at this
 unfold maV
 rw[hzl]
 rw[hx]at ax⊢
 rw[hy]at ay⊢
 have q1:=rsame6_ a.x b.x b.xs ax hb.x hlx
 have q2:=rsame6_ a.y b.y b.ys ay hb.y hly
 have hla:(a.zs.map zR).length=b.zs.length:=by rw[List.length_map];exact hzl
 have hlb:(b.zs.map zR).length=b.zs.length:=List.length_map _
 refine CallH.mkS Tryz.func59 rfl en59 (by simp[Tryz.ntmps59]) (ClA.of rfl) fun C hR hP hH hL=>?_
 refine Sm.go 100 ?_
 refine vv ?_
 refine CallQ.h 110 q1 hH rfl ?_
 refine vv ?_
 refine CallQ.hg 110 (fun _=>q2) hH (fun _=>rfl) ?_
 simp(maxSteps:=2000000) only[go_sem,bne_self_eq_false]
 refine Sm.bringC 1 73 100 2 (rows:=a.zs.map zR) (az.mono hH) rfl rfl rfl ?_
 refine Sm.bringC 2 73 101 2 (rows:=b.zs.map zR) (by have:=hb.z.mono hH;exact this) rfl rfl rfl ?_
 rw[hla,hlb]
 refine Sm.loopM (M0:=[]) (α:={i:Nat//i≤b.zs.length}) hP (fun i=>[(2,true,.c (.p 5 0)),(3,true,.c (.p 6 0)),(5,true,I i.val)])
  (fun _=>[(1,⟨true,rowsC (a.zs.map zR),73⟩),(2,⟨true,rowsC (b.zs.map zR),73⟩),(5,⟨false,[.v (vsl a.x b.xs.length),.v (vsl a.y b.ys.length),.sl 1 0 b.zs.length 1],113⟩),(6,⟨false,[.v (vsl b.x b.xs.length),.v (vsl b.y b.ys.length),.sl 2 0 b.zs.length 1],113⟩)]) (fun i=>b.zs.length-i.val) ⟨0,by omega⟩ (fun _=>ClM.of (by simp only[List.all_cons,inMV (rowsC_isV _)];rfl)) (fun _=>ClE.of rfl) [(1,1),(2,2),(5,100),(6,101)] ?_ ?_
 ·exact⟨rfl,trivial,⟨rfl,rfl,rfl,trivial⟩,⟨.inr ⟨_,rfl,.inl (renV (rowsC_isV _))⟩,.inr ⟨_,rfl,.inl (renV (rowsC_isV _))⟩,.inr ⟨_,rfl,.inl rfl⟩,.inr ⟨_,rfl,.inl rfl⟩,trivial⟩⟩
 rintro⟨i,hi⟩ J hj
 simp only at hj hi⊢
 refine Sm.go 110 ?_
 refine vv ?_
 refine mtch (fun hc=>?_) (fun hc=>?_)
 ·have hc:=lt_of_dec hc
  have ga:=zget (v:=a.z) (show i<a.zs.length by omega)
  have gb:=zget (v:=a.z) hc
  have heq:a.zs[i].2=b.zs[i].2:=by
   have h1:(a.zs.map (·.2))[i]?=(b.zs.map (·.2))[i]?:=by rw[hz]
   rw[List.getElem?_map,List.getElem?_map,List.getElem?_eq_getElem hc,List.getElem?_eq_getElem (show i<a.zs.length by omega)]at h1
   simpa using h1
  have qa:=ha.e _ (List.getElem_mem (show i<a.zs.length by omega))
  have qb:=hb.e _ (List.getElem_mem hc)
  have hlz2:=hlr _ (List.getElem_mem hc)
  rw[heq]at ga qa
  have q3:=rsame6_ a.zs[i].1 b.zs[i].1 b.zs[i].2 qa qb hlz2
  refine Sm.dg 110 10 mix ?_
  simp(maxSteps:=2000000) only[go_sem,ga,gb]
  refine⟨⟨by omega,by omega⟩,⟨by omega,by omega⟩,?_⟩
  refine CallQ.h 120 q3 hH rfl ?_
  simp(maxSteps:=2000000) only[go_sem,wS (show i≤1000000000000000000 by omega)]
  exact hj _ _ ⟨i+1,hc⟩ [(1,1),(2,2),(5,5),(6,6)] (by simp only;omega) ⟨rfl,trivial,⟨rfl,rfl,rfl,trivial⟩,⟨.inr ⟨_,rfl,.inl (renV (rowsC_isV _))⟩,.inr ⟨_,rfl,.inl (renV (rowsC_isV _))⟩,.inr ⟨_,rfl,.inl rfl⟩,.inr ⟨_,rfl,.inl rfl⟩,trivial⟩⟩
 ·exact RetQ.bool (hR C hL) rfl scc rfl
theorem sameB_ {H:Hp}(a b:BlL)(ha:a.ok H)(hb:b.ok H)(h:a.c=b.c)(hl1:b.c.ins.length≤1000000000000000)(hl2:b.c.ks.length≤1000000000000000):CallH H Tryz.prog 60 [rowV a.r,rowV b.r] (Bo true):=by
 have ai:=ha.i
 have ak:=ha.k
 rw[h]at ai ak
 have q1:=rtexts_ a.i b.i b.c.ins ai hb.i hl1
 have q2:=rnums_ a.k b.k b.c.ks ak hb.k hl2
 have er:rowV a.r= .agg [.v (sv b.c.nm),.v (sv b.c.kd),.v (sv b.c.ty),.v (vsl a.i b.c.ins.length),.v (sv b.c.tb),.v (vsl a.k b.c.ks.length)]:=by rw[←h];rfl
 rw[er]
 refine CallH.mkS Tryz.func60 rfl en60 (by simp[Tryz.ntmps60]) (ClA.of rfl) fun C hR hP hH hL=>?_
 refine Sm.go 100 ?_
 simp(maxSteps:=2000000) only[go_sem,beq_self_eq_true]
 refine CallQ.hg 110 (fun _=>q1) hH (fun _=>rfl) ?_
 refine vv ?_
 refine CallQ.hg 110 (fun _=>q2) hH (fun _=>rfl) ?_
 refine vv ?_
 exact RetQ.bool (hR C hL) rfl scc rfl
end Go.Proofs.YtlnpgbnhcondjaaGreatDoor.Fx
