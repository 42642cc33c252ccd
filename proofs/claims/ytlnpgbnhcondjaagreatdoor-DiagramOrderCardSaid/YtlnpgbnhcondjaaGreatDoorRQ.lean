/-  -/
import Derived.Test.YtlnpgbnhcondjaaGreatDoorTf
import Derived.Test.YtlnpgbnhcondjaaGreatDoorRD
import Derived.Lib.AppendZeros
namespace Go.Proofs.YtlnpgbnhcondjaaGreatDoor.Fx
open Vg Tf
set_option linter.unusedSimpArgs false
set_option linter.unusedVariables false
set_option maxRecDepth 100000
set_option maxHeartbeats 4000000
theorem _root_.Go.Proofs.YtlnpgbnhcondjaaGreatDoor.Vg.Rel.bring {C:Cx}{M:Mem}{l:Vg.Loc}{cs:List Value}{β:Vl}{w:World}(nm:Nat)(el:TypeId)(h:LcH C.hp l cs)(hn:M.get nm=none)(h1:Rel C.S C.w0 β M w):Rel C.S C.w0 (fun k=>if k=nm then l else β k) ((nm,⟨true,cs.map .v,el⟩)::M) w:=by
 have hne:∀k b,M.get k=some b→k≠nm:=by rintro k b hk rfl;rw[hn]at hk;cases hk
 have hcells:∀β:Vl,(cs.map Cv.v).map (Cv.g β)=cs:=fun β=>by
  rw[List.map_map];conv=>rhs;rw[←List.map_id cs]
  exact List.map_congr_left fun _ _=>rfl
 have hag0:∀β',Agree ((nm,⟨true,cs.map .v,el⟩)::M) (fun k=>if k=nm then l else β k) β'→Agree M β β'∧β' nm=l:=fun β' hag=>by
  refine⟨fun j hj=>?_,by have:=hag nm (by rw[Mem.get_cons];simp);simpa using this⟩
  obtain⟨c,hc⟩:=Option.isSome_iff_exists.1 hj
  rw[hag j (by rw[Mem.get_cons];split<;>simp_all)]
  exact if_neg (hne j c hc)
 refine⟨h1.fr,⟨fun β' hag k b hb=>?_,fun k b hb hu=>?_,fun k m b b' hb hb' hkm hr hlv hu hu'=>?_⟩,fun k b hb hr hu hS=>?_,fun k q hq=>?_⟩
 ·obtain⟨g1,g2⟩:=hag0 β' hag
  rw[Mem.get_cons]at hb
  split at hb
  ·rename_i hk
   simp at hb;subst hb hk
   unfold BkOk
   rw[g2,hcells]
   cases hu:l.nul with
   |true=>simp only[if_true];rw[h.1 hu];exact⟨rfl,fun h=>by cases h⟩
   |false=>
    simp only[Bool.false_eq_true,if_false,if_true]
    obtain⟨c,el',mk,q1,q2⟩:=h.2.2 hu
    refine⟨fun j v hj=>?_,by simpa using h.2.1⟩
    simp[World.cell?,Cx.hp_now h1 q1,q2 j v hj]
  ·exact h1.mem.ok β' g1 k b hb
 ·rw[Mem.get_cons]at hb
  split at hb
  ·rename_i hk
   simp only[if_pos hk]at hu⊢
   obtain⟨c,el',mk,q1,q2⟩:=h.2.2 hu
   exact Nat.lt_of_lt_of_le (C.hp_lt q1) h1.fr.size
  ·rename_i hk;simp only[if_neg hk]at hu⊢;exact h1.mem.there k b hb hu
 ·rw[Mem.get_cons]at hb hb'
  split at hb
  ·simp at hb;subst hb;cases hr
  ·rename_i hk
   split at hb'
   ·rename_i hk'
    simp only[if_neg hk,if_pos hk']at hu hu'⊢
    obtain⟨c,el',mk,q1,q2⟩:=h.2.2 hu'
    exact fun hh=>Cx.hp_wrt h1 q1 ⟨k,b,hb,hr,hu,hh.symm⟩
   ·rename_i hk'
    simp only[if_neg hk,if_neg hk']at hu hu'⊢
    exact h1.mem.apart k m b b' hb hb' hkm hr hlv hu hu'
 ·rw[Mem.get_cons]at hb
  split at hb
  ·simp at hb;subst hb;cases hr
  ·rename_i hk;simp only[if_neg hk]at hu hS⊢;exact h1.own k b hb hr hu hS
 ·obtain⟨p1,p2⟩:=h1.pin k q hq
  have hkn:k≠nm:=by rintro rfl;rw[hn]at p1;cases p1
  exact⟨by rw[Mem.get_cons,if_neg hkn];exact p1,by simp only[if_neg hkn];exact p2⟩
theorem _root_.Go.Proofs.YtlnpgbnhcondjaaGreatDoor.Vg.Sm.bringC {P:Program}{nt:Nat}{C:Cx}{todo:List It}{e:Env}{M:Mem}{v:Value}{sz:Nat}{rows:List (List Value)}(nm:Nat)(el:TypeId)(n i:Nat){b:Bk}(h:SlH C.hp v sz rows)(hn:M.get nm=none)(hb:M.get n=some b)(hi:b.cells[i]?=some (.v v))
  (k:Sm P nt C todo e ((n,⟨b.ro,b.cells.set i (.sl nm 0 rows.length sz),b.elem⟩)::(nm,⟨true,rowsC rows,el⟩)::M)):Sm P nt C todo e M:=fun β a w h1 h2 h3 h4=>by
 obtain⟨l,q1,q2,q3⟩:=h
 have r0:=h1.bring nm el q3 hn
 have hne:¬n=nm:=fun hh=>by subst hh;rw[hn]at hb;cases hb
 have hbm:Mem.get ((nm,(⟨true,rows.flatten.map .v,el⟩:Bk))::M) n=some b:=by rw[Mem.get_cons,if_neg hne];exact hb
 have r:=r0.eqc (cs:=b.cells.set i (.sl nm 0 rows.length sz)) hbm (fun β' hag=>by
  have hnu:=hag nm (by rw[Mem.get_cons,if_pos rfl];rfl)
  simp only[if_true]at hnu
  have e1:(Cv.sl nm 0 rows.length sz).g β'=v:=by rw[q1,slg hnu]
  rw[List.map_set,e1]
  refine List.ext_getElem? fun k=>?_
  rw[List.getElem?_set]
  split
  ·rename_i hk
   subst hk
   have hlt:=(List.getElem?_eq_some_iff.1 hi).1
   rw[if_pos (by simpa using hlt),List.getElem?_map,hi];rfl
  ·rfl)
 refine k _ a w r (h2.on fun k hk=>?_) h3 h4
 obtain⟨c,hc⟩:=Option.isSome_iff_exists.1 hk
 have hkn:¬k=nm:=fun hh=>by subst hh;rw[hn]at hc;cases hc
 refine⟨?_,if_neg hkn⟩
 rw[Mem.get_cons]
 split
 ·rfl
 ·rw[Mem.get_cons,if_neg hkn];exact hk
def nb (n:Int):Prop:= -1073741824≤n∧n≤1073741824
def mxG:Int→List Int→Int
 |a,[]=>a
 |a,x::l=>mxG (max a x) l
theorem rtexts_ {H:Hp}(a b:Sv)(l:List Str)(ha:SlH H (vsl a l.length) 1 (strsR l))(hb:SlH H (vsl b l.length) 1 (strsR l))(hl:l.length≤1000000000000000):CallH H Tryz.prog 57 [.c (.v (vsl a l.length)),.c (.v (vsl b l.length))] (Bo true):=by
 refine CallH.mkS Tryz.func57 rfl en57 (by simp[Tryz.ntmps57]) (ClA.of rfl) fun C hR hP hH hL=>?_
 refine Sm.bringS 1 9 0 (ha.mono hH) rfl rfl ?_
 refine Sm.bringS 2 9 1 (hb.mono hH) rfl rfl (Sm.go 100 ?_)
 simp(maxSteps:=2000000) only[go_sem,bne_self_eq_false]
 refine Sm.loopM (M0:=[]) (α:={i:Nat//i≤l.length}) hP (fun i=>[(0,true,.c (.sl 1 0 l.length 1)),(1,true,.c (.sl 2 0 l.length 1)),(5,true,I i.val)])
  (fun _=>[(1,⟨true,l.map sC,9⟩),(2,⟨true,l.map sC,9⟩)]) (fun i=>l.length-i.val) ⟨0,by omega⟩ (fun _=>ClM.of (by simp only[List.all_cons,inMV (v_sC _)];rfl)) (fun _=>ClE.of rfl) [(1,1),(2,2)] ?_ ?_
 ·exact⟨rfl,trivial,⟨rfl,rfl,rfl,trivial⟩,⟨oV (renV (v_sC _)),oV (renV (v_sC _)),trivial⟩⟩
 rintro⟨i,hi⟩ J hj
 simp only at hj hi⊢
 refine Sm.go 110 ?_
 refine vv ?_
 refine mtch (fun hc=>?_) (fun hc=>?_)
 ·have hc:=lt_of_dec hc
  have gi:=get_sC hc
  refine Sm.dg 110 8 mix ?_
  simp(maxSteps:=2000000) only[go_sem,gi,bne_self_eq_false,wS (show i≤1000000000000000000 by omega)]
  exact⟨⟨by omega,by omega⟩,⟨by omega,by omega⟩,hj _ _ ⟨i+1,hc⟩ [(1,1),(2,2)] (by simp only;omega) ⟨rfl,trivial,⟨rfl,rfl,rfl,trivial⟩,⟨oV (renV (v_sC _)),oV (renV (v_sC _)),trivial⟩⟩⟩
 ·exact RetQ.bool (hR C hL) rfl scc rfl
theorem rsame6_ {H:Hp}(a b:Sv)(l:List Int)(ha:SlH H (vsl a l.length) 1 (intsR l))(hb:SlH H (vsl b l.length) 1 (intsR l))(hl:l.length≤1000000000000000):CallH H Tryz.prog 168 [.c (.v (vsl a l.length)),.c (.v (vsl b l.length))] (Bo true):=by
 refine CallH.mkS Tryz.func168 rfl en168 (by simp[Tryz.ntmps168]) (ClA.of rfl) fun C hR hP hH hL=>?_
 refine Sm.bringI 1 3 0 (ha.mono hH) rfl rfl ?_
 refine Sm.bringI 2 3 1 (hb.mono hH) rfl rfl (Sm.go 100 ?_)
 simp(maxSteps:=2000000) only[go_sem,bne_self_eq_false]
 refine Sm.loopM (M0:=[]) (α:={i:Nat//i≤l.length}) hP (fun i=>[(0,true,.c (.sl 1 0 l.length 1)),(1,true,.c (.sl 2 0 l.length 1)),(5,true,I i.val)])
  (fun _=>[(1,⟨true,l.map iC,3⟩),(2,⟨true,l.map iC,3⟩)]) (fun i=>l.length-i.val) ⟨0,by omega⟩ (fun _=>ClM.of (by simp only[List.all_cons,inMV (v_iC _)];rfl)) (fun _=>ClE.of rfl) [(1,1),(2,2)] ?_ ?_
 ·exact⟨rfl,trivial,⟨rfl,rfl,rfl,trivial⟩,⟨oV (renV (v_iC _)),oV (renV (v_iC _)),trivial⟩⟩
 rintro⟨i,hi⟩ J hj
 simp only at hj hi⊢
 refine Sm.go 110 ?_
 refine vv ?_
 refine mtch (fun hc=>?_) (fun hc=>?_)
 ·have hc:=lt_of_dec hc
  have gi:=get_iC hc
  refine Sm.dg 110 8 mix ?_
  simp(maxSteps:=2000000) only[go_sem,gi,bne_self_eq_false,wS (show i≤1000000000000000000 by omega)]
  exact⟨⟨by omega,by omega⟩,⟨by omega,by omega⟩,hj _ _ ⟨i+1,hc⟩ [(1,1),(2,2)] (by simp only;omega) ⟨rfl,trivial,⟨rfl,rfl,rfl,trivial⟩,⟨oV (renV (v_iC _)),oV (renV (v_iC _)),trivial⟩⟩⟩
 ·exact RetQ.bool (hR C hL) rfl scc rfl
theorem rnums_ {H:Hp}(a b:Sv)(l:List Int)(ha:SlH H (vsl a l.length) 1 (intsR l))(hb:SlH H (vsl b l.length) 1 (intsR l))(hl:l.length≤1000000000000000):CallH H Tryz.prog 169 [.c (.v (vsl a l.length)),.c (.v (vsl b l.length))] (Bo true):=by
 refine CallH.mkS Tryz.func169 rfl en169 (by simp[Tryz.ntmps169]) (ClA.of rfl) fun C hR hP hH hL=>?_
 refine Sm.bringI 1 3 0 (ha.mono hH) rfl rfl ?_
 refine Sm.bringI 2 3 1 (hb.mono hH) rfl rfl (Sm.go 100 ?_)
 simp(maxSteps:=2000000) only[go_sem,bne_self_eq_false]
 refine Sm.loopM (M0:=[]) (α:={i:Nat//i≤l.length}) hP (fun i=>[(0,true,.c (.sl 1 0 l.length 1)),(1,true,.c (.sl 2 0 l.length 1)),(5,true,I i.val)])
  (fun _=>[(1,⟨true,l.map iC,3⟩),(2,⟨true,l.map iC,3⟩)]) (fun i=>l.length-i.val) ⟨0,by omega⟩ (fun _=>ClM.of (by simp only[List.all_cons,inMV (v_iC _)];rfl)) (fun _=>ClE.of rfl) [(1,1),(2,2)] ?_ ?_
 ·exact⟨rfl,trivial,⟨rfl,rfl,rfl,trivial⟩,⟨oV (renV (v_iC _)),oV (renV (v_iC _)),trivial⟩⟩
 rintro⟨i,hi⟩ J hj
 simp only at hj hi⊢
 refine Sm.go 110 ?_
 refine vv ?_
 refine mtch (fun hc=>?_) (fun hc=>?_)
 ·have hc:=lt_of_dec hc
  have gi:=get_iC hc
  refine Sm.dg 110 8 mix ?_
  simp(maxSteps:=2000000) only[go_sem,gi,bne_self_eq_false,wS (show i≤1000000000000000000 by omega)]
  exact⟨⟨by omega,by omega⟩,⟨by omega,by omega⟩,hj _ _ ⟨i+1,hc⟩ [(1,1),(2,2)] (by simp only;omega) ⟨rfl,trivial,⟨rfl,rfl,rfl,trivial⟩,⟨oV (renV (v_iC _)),oV (renV (v_iC _)),trivial⟩⟩⟩
 ·exact RetQ.bool (hR C hL) rfl scc rfl
theorem rsame5_ {H:Hp}(a b:CuL)(ha:a.ok H)(hb:b.ok H)(hx:a.c.xs=b.c.xs)(hy:a.c.ys=b.c.ys)(hlx:b.c.xs.length≤1000000000000000)(hly:b.c.ys.length≤1000000000000000):CallH H Tryz.prog 58 [.agg (cuV a),.agg (cuV b)] (Bo true):=by
 have ax:=ha.x
 have ay:=ha.y
 have hil:∀l:List Int,(intsR l).length=l.length:=fun l=>by simp[intsR]
 unfold cuV
 rw[hx]at ax⊢
 rw[hy]at ay⊢
 have bx:=hb.x
 have by1:=hb.y
 generalize b.c.xs=xs at*
 generalize b.c.ys=ys at*
 refine CallH.mkS Tryz.func58 rfl en58 (by simp[Tryz.ntmps58]) (ClA.of rfl) fun C hR hP hH hL=>?_
 refine Sm.go 100 ?_
 simp(maxSteps:=2000000) only[go_sem,bne_self_eq_false]
 refine Sm.bringC 1 3 100 0 (ax.mono hH) rfl rfl rfl ?_
 refine Sm.bringC 2 3 100 1 (ay.mono hH) rfl rfl rfl ?_
 refine Sm.bringC 3 3 101 0 (bx.mono hH) rfl rfl rfl ?_
 refine Sm.bringC 4 3 101 1 (by1.mono hH) rfl rfl rfl ?_
 rw[hil,hil,intsC,intsC]
 refine Sm.loopM (M0:=[]) (α:={i:Nat//i≤xs.length}) hP (fun i=>[(2,true,.c (.p 5 0)),(3,true,.c (.p 6 0)),(5,true,I i.val)])
  (fun _=>[(1,⟨true,xs.map iC,3⟩),(2,⟨true,ys.map iC,3⟩),(3,⟨true,xs.map iC,3⟩),(4,⟨true,ys.map iC,3⟩),(5,⟨false,[.sl 1 0 xs.length 1,.sl 2 0 ys.length 1],108⟩),(6,⟨false,[.sl 3 0 xs.length 1,.sl 4 0 ys.length 1],108⟩)]) (fun i=>xs.length-i.val) ⟨0,by omega⟩ (fun _=>ClM.of (by simp only[List.all_cons,inMV (v_iC _)];rfl)) (fun _=>ClE.of rfl) [(1,1),(2,2),(3,3),(4,4),(5,100),(6,101)] ?_ ?_
 ·exact⟨rfl,trivial,⟨rfl,rfl,rfl,trivial⟩,⟨oV (renV (v_iC _)),oV (renV (v_iC _)),oV (renV (v_iC _)),oV (renV (v_iC _)),oR,oR,trivial⟩⟩
 rintro⟨i,hi⟩ J hj
 simp only at hj hi⊢
 refine Sm.go 110 ?_
 refine vv ?_
 refine mtch (fun hc=>?_) (fun hc=>?_)
 ·have hc:=lt_of_dec hc
  have gi:=get_iC hc
  refine Sm.dg 110 10 mix ?_
  simp(maxSteps:=2000000) only[go_sem,gi,bne_self_eq_false,wS (show i≤1000000000000000000 by omega)]
  exact⟨⟨by omega,by omega⟩,⟨by omega,by omega⟩,hj _ _ ⟨i+1,hc⟩ [(1,1),(2,2),(3,3),(4,4),(5,5),(6,6)] (by simp only;omega) ⟨rfl,trivial,⟨rfl,rfl,rfl,trivial⟩,⟨oV (renV (v_iC _)),oV (renV (v_iC _)),oV (renV (v_iC _)),oV (renV (v_iC _)),oR,oR,trivial⟩⟩⟩
 refine Sm.loopM (M0:=[]) (α:={i:Nat//i≤ys.length}) hP (fun i=>[(2,true,.c (.p 5 0)),(3,true,.c (.p 6 0)),(6,true,I i.val)])
  (fun _=>[(1,⟨true,xs.map iC,3⟩),(2,⟨true,ys.map iC,3⟩),(3,⟨true,xs.map iC,3⟩),(4,⟨true,ys.map iC,3⟩),(5,⟨false,[.sl 1 0 xs.length 1,.sl 2 0 ys.length 1],108⟩),(6,⟨false,[.sl 3 0 xs.length 1,.sl 4 0 ys.length 1],108⟩)]) (fun i=>ys.length-i.val) ⟨0,by omega⟩ (fun _=>ClM.of (by simp only[List.all_cons,inMV (v_iC _)];rfl)) (fun _=>ClE.of rfl) [(1,1),(2,2),(3,3),(4,4),(5,5),(6,6)] ?_ ?_
 ·exact⟨rfl,trivial,⟨rfl,rfl,rfl,trivial⟩,⟨oV (renV (v_iC _)),oV (renV (v_iC _)),oV (renV (v_iC _)),oV (renV (v_iC _)),oR,oR,trivial⟩⟩
 rintro⟨j,hk⟩ J2 hj2
 simp only at hj2 hk⊢
 refine Sm.go 110 ?_
 refine vv ?_
 refine mtch (fun hc=>?_) (fun hc=>?_)
 ·have hc:=lt_of_dec hc
  have gi:=get_iC hc
  refine Sm.dg 110 10 mix ?_
  simp(maxSteps:=2000000) only[go_sem,gi,bne_self_eq_false,wS (show j≤1000000000000000000 by omega)]
  exact⟨⟨by omega,by omega⟩,⟨by omega,by omega⟩,hj2 _ _ ⟨j+1,hc⟩ [(1,1),(2,2),(3,3),(4,4),(5,5),(6,6)] (by simp only;omega) ⟨rfl,trivial,⟨rfl,rfl,rfl,trivial⟩,⟨oV (renV (v_iC _)),oV (renV (v_iC _)),oV (renV (v_iC _)),oV (renV (v_iC _)),oR,oR,trivial⟩⟩⟩
 ·exact RetQ.bool (hR C hL) rfl scc rfl
theorem zget {v:Sv}{zs:List (Sv×List Int)}{i:Nat}(h:i<zs.length):(rowsC (zs.map zR))[i]?=some (.v (.slice zs[i].1.o zs[i].2.length zs[i].1.c)):=zr_get (m:=⟨[],[],[],zs,v,v,v⟩) h
theorem rsame6m_ {H:Hp}(a b:MpL)(ha:a.ok H)(hb:b.ok H)(hx:a.xs=b.xs)(hy:a.ys=b.ys)(hz:a.zs.map (·.2)=b.zs.map (·.2))(hlx:b.xs.length≤1000000000000000)(hly:b.ys.length≤1000000000000000)(hlz:b.zs.length≤1000000000000000)(hlr:∀v∈b.zs,v.2.length≤1000000000000000):CallH H Tryz.prog 59 [.agg (maV a),.agg (maV b)] (Bo true):=by
 have ax:=ha.x
 have ay:=ha.y
 have hzl:a.zs.length=b.zs.length:=by have:=congrArg List.length hz;simpa using this
 have az:SlH H (vsl a.z b.zs.length) 1 (a.zs.map zR):=by have:=ha.z;rwa [hzl]at this
 unfold maV
 rw[hzl]
 rw[hx]at ax⊢
 rw[hy]at ay⊢
 have q1:=rsame6_ a.x b.x b.xs ax hb.x hlx
 have q2:=rsame6_ a.y b.y b.ys ay hb.y hly
 have hla:(a.zs.map zR).length=b.zs.length:=by rw[List.length_map];exact hzl
 have hlb:(b.zs.map zR).length=b.zs.length:=List.length_map _
 refine CallH.mkS Tryz.func59 rfl en59 (by simp[Tryz.ntmps59]) (ClA.of rfl) fun C hR hP hH hL=>?_
 refine Sm.go 100 ?_
 refine vv ?_
 refine CallQ.h 110 q1 hH rfl ?_
 refine vv ?_
 refine CallQ.hg 110 (fun _=>q2) hH (fun _=>rfl) ?_
 simp(maxSteps:=2000000) only[go_sem,bne_self_eq_false]
 refine Sm.bringC 1 73 100 2 (rows:=a.zs.map zR) (az.mono hH) rfl rfl rfl ?_
 refine Sm.bringC 2 73 101 2 (rows:=b.zs.map zR) (by have:=hb.z.mono hH;exact this) rfl rfl rfl ?_
 rw[hla,hlb]
 refine Sm.loopM (M0:=[]) (α:={i:Nat//i≤b.zs.length}) hP (fun i=>[(2,true,.c (.p 5 0)),(3,true,.c (.p 6 0)),(5,true,I i.val)])
  (fun _=>[(1,⟨true,rowsC (a.zs.map zR),73⟩),(2,⟨true,rowsC (b.zs.map zR),73⟩),(5,⟨false,[.v (vsl a.x b.xs.length),.v (vsl a.y b.ys.length),.sl 1 0 b.zs.length 1],113⟩),(6,⟨false,[.v (vsl b.x b.xs.length),.v (vsl b.y b.ys.length),.sl 2 0 b.zs.length 1],113⟩)]) (fun i=>b.zs.length-i.val) ⟨0,by omega⟩ (fun _=>ClM.of (by simp only[List.all_cons,inMV (rowsC_isV _)];rfl)) (fun _=>ClE.of rfl) [(1,1),(2,2),(5,100),(6,101)] ?_ ?_
 ·exact⟨rfl,trivial,⟨rfl,rfl,rfl,trivial⟩,⟨oV (renV (rowsC_isV _)),oV (renV (rowsC_isV _)),oR,oR,trivial⟩⟩
 rintro⟨i,hi⟩ J hj
 simp only at hj hi⊢
 refine Sm.go 110 ?_
 refine vv ?_
 refine mtch (fun hc=>?_) (fun hc=>?_)
 ·have hc:=lt_of_dec hc
  have ga:=zget (v:=a.z) (show i<a.zs.length by omega)
  have gb:=zget (v:=a.z) hc
  have heq:a.zs[i].2=b.zs[i].2:=by
   have h1:(a.zs.map (·.2))[i]?=(b.zs.map (·.2))[i]?:=by rw[hz]
   rw[List.getElem?_map,List.getElem?_map,List.getElem?_eq_getElem hc,List.getElem?_eq_getElem (show i<a.zs.length by omega)]at h1
   simpa using h1
  have qa:=ha.e _ (List.getElem_mem (show i<a.zs.length by omega))
  have qb:=hb.e _ (List.getElem_mem hc)
  have hlz2:=hlr _ (List.getElem_mem hc)
  rw[heq]at ga qa
  have q3:=rsame6_ a.zs[i].1 b.zs[i].1 b.zs[i].2 qa qb hlz2
  refine Sm.dg 110 10 mix ?_
  simp(maxSteps:=2000000) only[go_sem,ga,gb]
  refine⟨⟨by omega,by omega⟩,⟨by omega,by omega⟩,?_⟩
  refine CallQ.h 120 q3 hH rfl ?_
  simp(maxSteps:=2000000) only[go_sem,wS (show i≤1000000000000000000 by omega)]
  exact hj _ _ ⟨i+1,hc⟩ [(1,1),(2,2),(5,5),(6,6)] (by simp only;omega) ⟨rfl,trivial,⟨rfl,rfl,rfl,trivial⟩,⟨oV (renV (rowsC_isV _)),oV (renV (rowsC_isV _)),oR,oR,trivial⟩⟩
 ·exact RetQ.bool (hR C hL) rfl scc rfl
theorem sameB_ {H:Hp}(a b:BlL)(ha:a.ok H)(hb:b.ok H)(h:a.c=b.c)(hl1:b.c.ins.length≤1000000000000000)(hl2:b.c.ks.length≤1000000000000000):CallH H Tryz.prog 60 [rowV a.r,rowV b.r] (Bo true):=by
 have ai:=ha.i
 have ak:=ha.k
 rw[h]at ai ak
 have q1:=rtexts_ a.i b.i b.c.ins ai hb.i hl1
 have q2:=rnums_ a.k b.k b.c.ks ak hb.k hl2
 have er:rowV a.r= .agg [.v (sv b.c.nm),.v (sv b.c.kd),.v (sv b.c.ty),.v (vsl a.i b.c.ins.length),.v (sv b.c.tb),.v (vsl a.k b.c.ks.length)]:=by rw[←h];rfl
 rw[er]
 refine CallH.mkS Tryz.func60 rfl en60 (by simp[Tryz.ntmps60]) (ClA.of rfl) fun C hR hP hH hL=>?_
 refine Sm.go 100 ?_
 simp(maxSteps:=2000000) only[go_sem,beq_self_eq_true]
 refine CallQ.hg 110 (fun _=>q1) hH (fun _=>rfl) ?_
 refine vv ?_
 refine CallQ.hg 110 (fun _=>q2) hH (fun _=>rfl) ?_
 refine vv ?_
 exact RetQ.bool (hR C hL) rfl scc rfl
theorem rows_fld {α:Type}{r:α→List Value}{k:Nat}(hk:∀x,(r x).length=k)(l:List α)(i j m:Nat)(h:i<l.length)(hm:j+m≤k):((rowsC (l.map r)).drop (i*k+j)).take m=(((r l[i]).drop j).take m).map Cv.v:=by
 have h1:=rows_take hk l i h
 have e:((rowsC (l.map r)).drop (i*k+j)).take m=((((rowsC (l.map r)).drop (i*k)).take k).drop j).take m:=by rw[List.drop_take,List.take_take,Nat.min_eq_left (by omega),List.drop_drop]
 rw[e,h1,List.map_take,List.map_drop]
theorem rows_one {α:Type}{r:α→List Value}{k:Nat}(hk:∀x,(r x).length=k)(l:List α)(i j:Nat)(h:i<l.length)(hj:j<k):(rowsC (l.map r))[i*k+j]?=((r l[i])[j]?).map Cv.v:=by
 have h1:=rows_take hk l i h
 have:(rowsC (l.map r))[i*k+j]?=(((rowsC (l.map r)).drop (i*k)).take k)[j]?:=by rw[List.getElem?_take_of_lt hj,List.getElem?_drop]
 rw[this,h1,List.getElem?_map]
theorem map_at {α β:Type}{f:α→β}{l m:List α}(h:l.map f=m.map f)(i:Nat)(hi:i<l.length)(hm:i<m.length):f l[i]=f m[i]:=by
 have h1:(l.map f)[i]?=(m.map f)[i]?:=by rw[h]
 rw[List.getElem?_map,List.getElem?_map,List.getElem?_eq_getElem hi,List.getElem?_eq_getElem hm]at h1
 simpa using h1
theorem same_ {H:Hp}(a b:DgL)(ha:a.ok H)(hb:b.ok H)(h:a.c=b.c)(hs:b.sm)(hm:∀m∈b.mas,m.xs.length≤1000000000000000∧m.ys.length≤1000000000000000∧m.zs.length≤1000000000000000):CallH H Tryz.prog 22 [rowV a.r,rowV b.r] (Bo true):=by
 unfold DgL.c at h
 injection h with hnm htys hcus hmas hins hbls hous
 have lc:a.cus.length=b.cus.length:=by have:=congrArg List.length hcus;simpa using this
 have lm:a.mas.length=b.mas.length:=by have:=congrArg List.length hmas;simpa using this
 have lb:a.bls.length=b.bls.length:=by have:=congrArg List.length hbls;simpa using this
 have lt:a.tys.length=b.tys.length:=by rw[htys]
 have li:a.ins.length=b.ins.length:=by rw[hins]
 have er:rowV a.r= .agg [.v (sv b.nm),.v (vsl a.ty b.tys.length),.v (vsl a.cu b.cus.length),.v (vsl a.ma b.mas.length),.v (vsl a.i b.ins.length),.v (vsl a.bl b.bls.length),.v (vsl a.ou b.ous.length)]:=by rw[←hnm,←lt,←lc,←lm,←li,←lb,←hous];rfl
 have er2:rowV b.r= .agg [.v (sv b.nm),.v (vsl b.ty b.tys.length),.v (vsl b.cu b.cus.length),.v (vsl b.ma b.mas.length),.v (vsl b.i b.ins.length),.v (vsl b.bl b.bls.length),.v (vsl b.ou b.ous.length)]:=rfl
 rw[er,er2]
 have k_tys:SlH H (vsl a.ty b.tys.length) 11 (a.tys.map Td.r):=by have:=ha.ty;rwa [lt]at this
 have m_tys:(a.tys.map Td.r).length=b.tys.length:=by rw[List.length_map];exact lt
 have n_tys:(b.tys.map Td.r).length=b.tys.length:=List.length_map _
 have ya_tys:=rows_len (r:=Td.r) (k:=11) (fun _=>rfl) a.tys
 have yb_tys:=rows_len (r:=Td.r) (k:=11) (fun _=>rfl) b.tys
 have k_cus:SlH H (vsl a.cu b.cus.length) 3 (a.cus.map CuL.r):=by have:=ha.cu;rwa [lc]at this
 have m_cus:(a.cus.map CuL.r).length=b.cus.length:=by rw[List.length_map];exact lc
 have n_cus:(b.cus.map CuL.r).length=b.cus.length:=List.length_map _
 have ya_cus:=rows_len (r:=CuL.r) (k:=3) (fun _=>rfl) a.cus
 have yb_cus:=rows_len (r:=CuL.r) (k:=3) (fun _=>rfl) b.cus
 have k_mas:SlH H (vsl a.ma b.mas.length) 4 (a.mas.map MpL.r):=by have:=ha.ma;rwa [lm]at this
 have m_mas:(a.mas.map MpL.r).length=b.mas.length:=by rw[List.length_map];exact lm
 have n_mas:(b.mas.map MpL.r).length=b.mas.length:=List.length_map _
 have ya_mas:=rows_len (r:=MpL.r) (k:=4) (fun _=>rfl) a.mas
 have yb_mas:=rows_len (r:=MpL.r) (k:=4) (fun _=>rfl) b.mas
 have k_ins:SlH H (vsl a.i b.ins.length) 4 (a.ins.map Po.r):=by have:=ha.i;rwa [li]at this
 have m_ins:(a.ins.map Po.r).length=b.ins.length:=by rw[List.length_map];exact li
 have n_ins:(b.ins.map Po.r).length=b.ins.length:=List.length_map _
 have ya_ins:=rows_len (r:=Po.r) (k:=4) (fun _=>rfl) a.ins
 have yb_ins:=rows_len (r:=Po.r) (k:=4) (fun _=>rfl) b.ins
 have k_bls:SlH H (vsl a.bl b.bls.length) 6 (a.bls.map BlL.r):=by have:=ha.bl;rwa [lb]at this
 have m_bls:(a.bls.map BlL.r).length=b.bls.length:=by rw[List.length_map];exact lb
 have n_bls:(b.bls.map BlL.r).length=b.bls.length:=List.length_map _
 have ya_bls:=rows_len (r:=BlL.r) (k:=6) (fun _=>rfl) a.bls
 have yb_bls:=rows_len (r:=BlL.r) (k:=6) (fun _=>rfl) b.bls
 have hou:SlH H (vsl a.ou b.ous.length) 1 (strsR b.ous):=by have:=ha.ou;rwa [hous]at this
 have q0:=rtexts_ a.ou b.ou b.ous hou hb.ou hs.ous.1
 refine CallH.mkS Tryz.func22 rfl en22 (by simp[Tryz.ntmps22]) (ClA.of rfl) fun C hR hP hH hL=>?_
 refine Sm.go 100 ?_
 simp(maxSteps:=2000000) only[go_sem,bne_self_eq_false]
 refine CallQ.hg 110 (fun _=>q0) hH (fun _=>rfl) ?_
 refine vv ?_
 refine Sm.bringC 1 93 100 1 (k_tys.mono hH) rfl rfl rfl ?_
 refine Sm.bringC 2 110 100 2 (k_cus.mono hH) rfl rfl rfl ?_
 refine Sm.bringC 3 115 100 3 (k_mas.mono hH) rfl rfl rfl ?_
 refine Sm.bringC 4 118 100 4 (k_ins.mono hH) rfl rfl rfl ?_
 refine Sm.bringC 5 82 100 5 (k_bls.mono hH) rfl rfl rfl ?_
 refine Sm.bringC 6 93 101 1 (hb.ty.mono hH) rfl rfl rfl ?_
 refine Sm.bringC 7 110 101 2 (hb.cu.mono hH) rfl rfl rfl ?_
 refine Sm.bringC 8 115 101 3 (hb.ma.mono hH) rfl rfl rfl ?_
 refine Sm.bringC 9 118 101 4 (hb.i.mono hH) rfl rfl rfl ?_
 refine Sm.bringC 10 82 101 5 (hb.bl.mono hH) rfl rfl rfl ?_
 rw[m_tys,m_cus,m_mas,m_ins,m_bls,n_tys,n_cus,n_mas,n_ins,n_bls]
 refine Sm.loopM (M0:=[]) (α:={i:Nat//i≤b.tys.length}) hP (fun i=>[(2,true,.c (.p 11 0)),(3,true,.c (.p 12 0)),(5,true,I i.val)])
  (fun _=>[(1,⟨true,rowsC (a.tys.map Td.r),93⟩),(2,⟨true,rowsC (a.cus.map CuL.r),110⟩),(3,⟨true,rowsC (a.mas.map MpL.r),115⟩),(4,⟨true,rowsC (a.ins.map Po.r),118⟩),(5,⟨true,rowsC (a.bls.map BlL.r),82⟩),(6,⟨true,rowsC (b.tys.map Td.r),93⟩),(7,⟨true,rowsC (b.cus.map CuL.r),110⟩),(8,⟨true,rowsC (b.mas.map MpL.r),115⟩),(9,⟨true,rowsC (b.ins.map Po.r),118⟩),(10,⟨true,rowsC (b.bls.map BlL.r),82⟩),(11,⟨false,[.v (sv b.nm),.sl 1 0 b.tys.length 11,.sl 2 0 b.cus.length 3,.sl 3 0 b.mas.length 4,.sl 4 0 b.ins.length 4,.sl 5 0 b.bls.length 6,.v (vsl a.ou b.ous.length)],30⟩),(12,⟨false,[.v (sv b.nm),.sl 6 0 b.tys.length 11,.sl 7 0 b.cus.length 3,.sl 8 0 b.mas.length 4,.sl 9 0 b.ins.length 4,.sl 10 0 b.bls.length 6,.v (vsl b.ou b.ous.length)],30⟩)]) (fun i=>b.tys.length-i.val) ⟨0,by omega⟩ (fun _=>ClM.of (by simp only[List.all_cons,inMV (rowsC_isV _)];rfl)) (fun _=>ClE.of rfl) [(1,1),(2,2),(3,3),(4,4),(5,5),(6,6),(7,7),(8,8),(9,9),(10,10),(11,100),(12,101)] ?_ ?_
 ·exact⟨rfl,trivial,⟨rfl,rfl,rfl,trivial⟩,⟨oV (renV (rowsC_isV _)),oV (renV (rowsC_isV _)),oV (renV (rowsC_isV _)),oV (renV (rowsC_isV _)),oV (renV (rowsC_isV _)),oV (renV (rowsC_isV _)),oV (renV (rowsC_isV _)),oV (renV (rowsC_isV _)),oV (renV (rowsC_isV _)),oV (renV (rowsC_isV _)),oR,oR,trivial⟩⟩
 rintro⟨i0,hi0⟩ J0 hj0
 simp only at hj0 hi0⊢
 refine Sm.go 110 ?_
 refine vv ?_
 refine mtch (fun hc=>?_) (fun hc=>?_)
 ·have hc:=lt_of_dec hc
  have hca:i0<a.tys.length:=by omega
  have ga:=rows_take (r:=Td.r) (k:=11) (fun _=>rfl) a.tys i0 hca
  have gb:=rows_take (r:=Td.r) (k:=11) (fun _=>rfl) b.tys i0 hc
  have he:a.tys[i0]=b.tys[i0]:=by simp only[htys]
  rw[he]at ga
  generalize b.tys[i0]=x at*
  refine Sm.dg 110 10 mix ?_
  simp(maxSteps:=2000000) only[go_sem,ga,gb,ya_tys,yb_tys,bne_self_eq_false,beq_self_eq_true,wS (show i0≤1000000000000000000 by have:=hs.tys.1;omega)]
  refine⟨⟨by omega,by omega⟩,by omega,⟨by omega,by omega⟩,by omega,?_⟩
  exact hj0 _ _ ⟨i0+1,hc⟩ [(1,1),(2,2),(3,3),(4,4),(5,5),(6,6),(7,7),(8,8),(9,9),(10,10),(11,11),(12,12)] (by simp only;omega) ⟨rfl,trivial,⟨rfl,rfl,rfl,trivial⟩,⟨oV (renV (rowsC_isV _)),oV (renV (rowsC_isV _)),oV (renV (rowsC_isV _)),oV (renV (rowsC_isV _)),oV (renV (rowsC_isV _)),oV (renV (rowsC_isV _)),oV (renV (rowsC_isV _)),oV (renV (rowsC_isV _)),oV (renV (rowsC_isV _)),oV (renV (rowsC_isV _)),oR,oR,trivial⟩⟩
 refine Sm.loopM (M0:=[]) (α:={i:Nat//i≤b.cus.length}) hP (fun i=>[(2,true,.c (.p 11 0)),(3,true,.c (.p 12 0)),(6,true,I i.val)])
  (fun _=>[(1,⟨true,rowsC (a.tys.map Td.r),93⟩),(2,⟨true,rowsC (a.cus.map CuL.r),110⟩),(3,⟨true,rowsC (a.mas.map MpL.r),115⟩),(4,⟨true,rowsC (a.ins.map Po.r),118⟩),(5,⟨true,rowsC (a.bls.map BlL.r),82⟩),(6,⟨true,rowsC (b.tys.map Td.r),93⟩),(7,⟨true,rowsC (b.cus.map CuL.r),110⟩),(8,⟨true,rowsC (b.mas.map MpL.r),115⟩),(9,⟨true,rowsC (b.ins.map Po.r),118⟩),(10,⟨true,rowsC (b.bls.map BlL.r),82⟩),(11,⟨false,[.v (sv b.nm),.sl 1 0 b.tys.length 11,.sl 2 0 b.cus.length 3,.sl 3 0 b.mas.length 4,.sl 4 0 b.ins.length 4,.sl 5 0 b.bls.length 6,.v (vsl a.ou b.ous.length)],30⟩),(12,⟨false,[.v (sv b.nm),.sl 6 0 b.tys.length 11,.sl 7 0 b.cus.length 3,.sl 8 0 b.mas.length 4,.sl 9 0 b.ins.length 4,.sl 10 0 b.bls.length 6,.v (vsl b.ou b.ous.length)],30⟩)]) (fun i=>b.cus.length-i.val) ⟨0,by omega⟩ (fun _=>ClM.of (by simp only[List.all_cons,inMV (rowsC_isV _)];rfl)) (fun _=>ClE.of rfl) [(1,1),(2,2),(3,3),(4,4),(5,5),(6,6),(7,7),(8,8),(9,9),(10,10),(11,11),(12,12)] ?_ ?_
 ·exact⟨rfl,trivial,⟨rfl,rfl,rfl,trivial⟩,⟨oV (renV (rowsC_isV _)),oV (renV (rowsC_isV _)),oV (renV (rowsC_isV _)),oV (renV (rowsC_isV _)),oV (renV (rowsC_isV _)),oV (renV (rowsC_isV _)),oV (renV (rowsC_isV _)),oV (renV (rowsC_isV _)),oV (renV (rowsC_isV _)),oV (renV (rowsC_isV _)),oR,oR,trivial⟩⟩
 rintro⟨i1,hi1⟩ J1 hj1
 simp only at hj1 hi1⊢
 refine Sm.go 110 ?_
 refine vv ?_
 refine mtch (fun hc=>?_) (fun hc=>?_)
 ·have hc:=lt_of_dec hc
  have hca:i1<a.cus.length:=by omega
  have he:=map_at hcus i1 hca hc
  have ga:=rows_one (r:=CuL.r) (k:=3) (fun _=>rfl) a.cus i1 0 hca (by omega)
  have gb:=rows_one (r:=CuL.r) (k:=3) (fun _=>rfl) b.cus i1 0 hc (by omega)
  have fa:=rows_fld (r:=CuL.r) (k:=3) (fun _=>rfl) a.cus i1 1 2 hca (by omega)
  have fb:=rows_fld (r:=CuL.r) (k:=3) (fun _=>rfl) b.cus i1 1 2 hc (by omega)
  have oka:=ha.cus _ (List.getElem_mem hca)
  have okb:=hb.cus _ (List.getElem_mem hc)
  have sm:=hs.cus.2 _ (List.getElem_mem hc)
  generalize a.cus[i1]=x at*
  generalize b.cus[i1]=y at*
  have hn:x.c.nm=y.c.nm:=congrArg Cu.nm he
  have hx:x.c.xs=y.c.xs:=congrArg Cu.xs he
  have hy:x.c.ys=y.c.ys:=congrArg Cu.ys he
  have q:=rsame5_ x y oka okb hx hy sm.2.1 sm.2.2
  have gx:(CuL.r x)[0]?=some (sv y.c.nm):=by rw[←hn];rfl
  have gy:(CuL.r y)[0]?=some (sv y.c.nm):=rfl
  rw[gx,Option.map_some]at ga
  rw[gy,Option.map_some]at gb
  have e1:((CuL.r x).drop 1).take 2=[vsl x.x x.c.xs.length,vsl x.y x.c.ys.length]:=rfl
  have e2:((CuL.r y).drop 1).take 2=[vsl y.x y.c.xs.length,vsl y.y y.c.ys.length]:=rfl
  rw[e1]at fa
  rw[e2]at fb
  rw[Nat.add_zero]at ga gb
  refine Sm.dg 110 26 mix ?_
  simp(maxSteps:=2000000) only[go_sem,ga,gb,fa,fb,ya_cus,yb_cus,bne_self_eq_false,beq_self_eq_true]
  refine⟨⟨by omega,by omega⟩,⟨by omega,by omega⟩,⟨by omega,by omega⟩,by omega,⟨by omega,by omega⟩,by omega,?_⟩
  refine CallQ.hg 120 (fun _=>q) hH (fun _=>rfl) ?_
  simp(maxSteps:=2000000) only[go_sem,wS (show i1≤1000000000000000000 by have:=hs.cus.1;omega)]
  exact hj1 _ _ ⟨i1+1,hc⟩ [(1,1),(2,2),(3,3),(4,4),(5,5),(6,6),(7,7),(8,8),(9,9),(10,10),(11,11),(12,12)] (by simp only;omega) ⟨rfl,trivial,⟨rfl,rfl,rfl,trivial⟩,⟨oV (renV (rowsC_isV _)),oV (renV (rowsC_isV _)),oV (renV (rowsC_isV _)),oV (renV (rowsC_isV _)),oV (renV (rowsC_isV _)),oV (renV (rowsC_isV _)),oV (renV (rowsC_isV _)),oV (renV (rowsC_isV _)),oV (renV (rowsC_isV _)),oV (renV (rowsC_isV _)),oR,oR,trivial⟩⟩
 refine Sm.loopM (M0:=[]) (α:={i:Nat//i≤b.mas.length}) hP (fun i=>[(2,true,.c (.p 11 0)),(3,true,.c (.p 12 0)),(7,true,I i.val)])
  (fun _=>[(1,⟨true,rowsC (a.tys.map Td.r),93⟩),(2,⟨true,rowsC (a.cus.map CuL.r),110⟩),(3,⟨true,rowsC (a.mas.map MpL.r),115⟩),(4,⟨true,rowsC (a.ins.map Po.r),118⟩),(5,⟨true,rowsC (a.bls.map BlL.r),82⟩),(6,⟨true,rowsC (b.tys.map Td.r),93⟩),(7,⟨true,rowsC (b.cus.map CuL.r),110⟩),(8,⟨true,rowsC (b.mas.map MpL.r),115⟩),(9,⟨true,rowsC (b.ins.map Po.r),118⟩),(10,⟨true,rowsC (b.bls.map BlL.r),82⟩),(11,⟨false,[.v (sv b.nm),.sl 1 0 b.tys.length 11,.sl 2 0 b.cus.length 3,.sl 3 0 b.mas.length 4,.sl 4 0 b.ins.length 4,.sl 5 0 b.bls.length 6,.v (vsl a.ou b.ous.length)],30⟩),(12,⟨false,[.v (sv b.nm),.sl 6 0 b.tys.length 11,.sl 7 0 b.cus.length 3,.sl 8 0 b.mas.length 4,.sl 9 0 b.ins.length 4,.sl 10 0 b.bls.length 6,.v (vsl b.ou b.ous.length)],30⟩)]) (fun i=>b.mas.length-i.val) ⟨0,by omega⟩ (fun _=>ClM.of (by simp only[List.all_cons,inMV (rowsC_isV _)];rfl)) (fun _=>ClE.of rfl) [(1,1),(2,2),(3,3),(4,4),(5,5),(6,6),(7,7),(8,8),(9,9),(10,10),(11,11),(12,12)] ?_ ?_
 ·exact⟨rfl,trivial,⟨rfl,rfl,rfl,trivial⟩,⟨oV (renV (rowsC_isV _)),oV (renV (rowsC_isV _)),oV (renV (rowsC_isV _)),oV (renV (rowsC_isV _)),oV (renV (rowsC_isV _)),oV (renV (rowsC_isV _)),oV (renV (rowsC_isV _)),oV (renV (rowsC_isV _)),oV (renV (rowsC_isV _)),oV (renV (rowsC_isV _)),oR,oR,trivial⟩⟩
 rintro⟨i2,hi2⟩ J2 hj2
 simp only at hj2 hi2⊢
 refine Sm.go 110 ?_
 refine vv ?_
 refine mtch (fun hc=>?_) (fun hc=>?_)
 ·have hc:=lt_of_dec hc
  have hca:i2<a.mas.length:=by omega
  have he:=map_at hmas i2 hca hc
  have ga:=rows_one (r:=MpL.r) (k:=4) (fun _=>rfl) a.mas i2 0 hca (by omega)
  have gb:=rows_one (r:=MpL.r) (k:=4) (fun _=>rfl) b.mas i2 0 hc (by omega)
  have fa:=rows_fld (r:=MpL.r) (k:=4) (fun _=>rfl) a.mas i2 1 3 hca (by omega)
  have fb:=rows_fld (r:=MpL.r) (k:=4) (fun _=>rfl) b.mas i2 1 3 hc (by omega)
  have oka:=ha.mas _ (List.getElem_mem hca)
  have okb:=hb.mas _ (List.getElem_mem hc)
  have sm:=hs.mas.2 _ (List.getElem_mem hc)
  have hmy:=hm _ (List.getElem_mem hc)
  generalize a.mas[i2]=x at*
  generalize b.mas[i2]=y at*
  have hn:x.nm=y.nm:=congrArg Mp.nm he
  have hx:x.xs=y.xs:=congrArg Mp.xs he
  have hy:x.ys=y.ys:=congrArg Mp.ys he
  have hz:x.zs.map (·.2)=y.zs.map (·.2):=congrArg Mp.zs he
  have q:=rsame6m_ x y oka okb hx hy hz hmy.1 hmy.2.1 hmy.2.2 sm.2
  have gx:(MpL.r x)[0]?=some (sv y.nm):=by rw[←hn];rfl
  have gy:(MpL.r y)[0]?=some (sv y.nm):=rfl
  rw[gx,Option.map_some]at ga
  rw[gy,Option.map_some]at gb
  have e1:((MpL.r x).drop 1).take 3=[vsl x.x x.xs.length,vsl x.y x.ys.length,vsl x.z x.zs.length]:=rfl
  have e2:((MpL.r y).drop 1).take 3=[vsl y.x y.xs.length,vsl y.y y.ys.length,vsl y.z y.zs.length]:=rfl
  rw[e1]at fa
  rw[e2]at fb
  rw[Nat.add_zero]at ga gb
  refine Sm.dg 110 26 mix ?_
  simp(maxSteps:=2000000) only[go_sem,ga,gb,fa,fb,ya_mas,yb_mas,bne_self_eq_false,beq_self_eq_true]
  refine⟨⟨by omega,by omega⟩,⟨by omega,by omega⟩,⟨by omega,by omega⟩,by omega,⟨by omega,by omega⟩,by omega,?_⟩
  refine CallQ.hg 120 (fun _=>q) hH (fun _=>rfl) ?_
  simp(maxSteps:=2000000) only[go_sem,wS (show i2≤1000000000000000000 by have:=hs.mas.1;omega)]
  exact hj2 _ _ ⟨i2+1,hc⟩ [(1,1),(2,2),(3,3),(4,4),(5,5),(6,6),(7,7),(8,8),(9,9),(10,10),(11,11),(12,12)] (by simp only;omega) ⟨rfl,trivial,⟨rfl,rfl,rfl,trivial⟩,⟨oV (renV (rowsC_isV _)),oV (renV (rowsC_isV _)),oV (renV (rowsC_isV _)),oV (renV (rowsC_isV _)),oV (renV (rowsC_isV _)),oV (renV (rowsC_isV _)),oV (renV (rowsC_isV _)),oV (renV (rowsC_isV _)),oV (renV (rowsC_isV _)),oV (renV (rowsC_isV _)),oR,oR,trivial⟩⟩
 refine Sm.loopM (M0:=[]) (α:={i:Nat//i≤b.ins.length}) hP (fun i=>[(2,true,.c (.p 11 0)),(3,true,.c (.p 12 0)),(8,true,I i.val)])
  (fun _=>[(1,⟨true,rowsC (a.tys.map Td.r),93⟩),(2,⟨true,rowsC (a.cus.map CuL.r),110⟩),(3,⟨true,rowsC (a.mas.map MpL.r),115⟩),(4,⟨true,rowsC (a.ins.map Po.r),118⟩),(5,⟨true,rowsC (a.bls.map BlL.r),82⟩),(6,⟨true,rowsC (b.tys.map Td.r),93⟩),(7,⟨true,rowsC (b.cus.map CuL.r),110⟩),(8,⟨true,rowsC (b.mas.map MpL.r),115⟩),(9,⟨true,rowsC (b.ins.map Po.r),118⟩),(10,⟨true,rowsC (b.bls.map BlL.r),82⟩),(11,⟨false,[.v (sv b.nm),.sl 1 0 b.tys.length 11,.sl 2 0 b.cus.length 3,.sl 3 0 b.mas.length 4,.sl 4 0 b.ins.length 4,.sl 5 0 b.bls.length 6,.v (vsl a.ou b.ous.length)],30⟩),(12,⟨false,[.v (sv b.nm),.sl 6 0 b.tys.length 11,.sl 7 0 b.cus.length 3,.sl 8 0 b.mas.length 4,.sl 9 0 b.ins.length 4,.sl 10 0 b.bls.length 6,.v (vsl b.ou b.ous.length)],30⟩)]) (fun i=>b.ins.length-i.val) ⟨0,by omega⟩ (fun _=>ClM.of (by simp only[List.all_cons,inMV (rowsC_isV _)];rfl)) (fun _=>ClE.of rfl) [(1,1),(2,2),(3,3),(4,4),(5,5),(6,6),(7,7),(8,8),(9,9),(10,10),(11,11),(12,12)] ?_ ?_
 ·exact⟨rfl,trivial,⟨rfl,rfl,rfl,trivial⟩,⟨oV (renV (rowsC_isV _)),oV (renV (rowsC_isV _)),oV (renV (rowsC_isV _)),oV (renV (rowsC_isV _)),oV (renV (rowsC_isV _)),oV (renV (rowsC_isV _)),oV (renV (rowsC_isV _)),oV (renV (rowsC_isV _)),oV (renV (rowsC_isV _)),oV (renV (rowsC_isV _)),oR,oR,trivial⟩⟩
 rintro⟨i3,hi3⟩ J3 hj3
 simp only at hj3 hi3⊢
 refine Sm.go 110 ?_
 refine vv ?_
 refine mtch (fun hc=>?_) (fun hc=>?_)
 ·have hc:=lt_of_dec hc
  have hca:i3<a.ins.length:=by omega
  have ga:=rows_take (r:=Po.r) (k:=4) (fun _=>rfl) a.ins i3 hca
  have gb:=rows_take (r:=Po.r) (k:=4) (fun _=>rfl) b.ins i3 hc
  have he:a.ins[i3]=b.ins[i3]:=by simp only[hins]
  rw[he]at ga
  generalize b.ins[i3]=x at*
  refine Sm.dg 110 10 mix ?_
  simp(maxSteps:=2000000) only[go_sem,ga,gb,ya_ins,yb_ins,bne_self_eq_false,beq_self_eq_true,wS (show i3≤1000000000000000000 by have:=hs.ins.1;omega)]
  refine⟨⟨by omega,by omega⟩,by omega,⟨by omega,by omega⟩,by omega,?_⟩
  exact hj3 _ _ ⟨i3+1,hc⟩ [(1,1),(2,2),(3,3),(4,4),(5,5),(6,6),(7,7),(8,8),(9,9),(10,10),(11,11),(12,12)] (by simp only;omega) ⟨rfl,trivial,⟨rfl,rfl,rfl,trivial⟩,⟨oV (renV (rowsC_isV _)),oV (renV (rowsC_isV _)),oV (renV (rowsC_isV _)),oV (renV (rowsC_isV _)),oV (renV (rowsC_isV _)),oV (renV (rowsC_isV _)),oV (renV (rowsC_isV _)),oV (renV (rowsC_isV _)),oV (renV (rowsC_isV _)),oV (renV (rowsC_isV _)),oR,oR,trivial⟩⟩
 refine Sm.loopM (M0:=[]) (α:={i:Nat//i≤b.bls.length}) hP (fun i=>[(2,true,.c (.p 11 0)),(3,true,.c (.p 12 0)),(9,true,I i.val)])
  (fun _=>[(1,⟨true,rowsC (a.tys.map Td.r),93⟩),(2,⟨true,rowsC (a.cus.map CuL.r),110⟩),(3,⟨true,rowsC (a.mas.map MpL.r),115⟩),(4,⟨true,rowsC (a.ins.map Po.r),118⟩),(5,⟨true,rowsC (a.bls.map BlL.r),82⟩),(6,⟨true,rowsC (b.tys.map Td.r),93⟩),(7,⟨true,rowsC (b.cus.map CuL.r),110⟩),(8,⟨true,rowsC (b.mas.map MpL.r),115⟩),(9,⟨true,rowsC (b.ins.map Po.r),118⟩),(10,⟨true,rowsC (b.bls.map BlL.r),82⟩),(11,⟨false,[.v (sv b.nm),.sl 1 0 b.tys.length 11,.sl 2 0 b.cus.length 3,.sl 3 0 b.mas.length 4,.sl 4 0 b.ins.length 4,.sl 5 0 b.bls.length 6,.v (vsl a.ou b.ous.length)],30⟩),(12,⟨false,[.v (sv b.nm),.sl 6 0 b.tys.length 11,.sl 7 0 b.cus.length 3,.sl 8 0 b.mas.length 4,.sl 9 0 b.ins.length 4,.sl 10 0 b.bls.length 6,.v (vsl b.ou b.ous.length)],30⟩)]) (fun i=>b.bls.length-i.val) ⟨0,by omega⟩ (fun _=>ClM.of (by simp only[List.all_cons,inMV (rowsC_isV _)];rfl)) (fun _=>ClE.of rfl) [(1,1),(2,2),(3,3),(4,4),(5,5),(6,6),(7,7),(8,8),(9,9),(10,10),(11,11),(12,12)] ?_ ?_
 ·exact⟨rfl,trivial,⟨rfl,rfl,rfl,trivial⟩,⟨oV (renV (rowsC_isV _)),oV (renV (rowsC_isV _)),oV (renV (rowsC_isV _)),oV (renV (rowsC_isV _)),oV (renV (rowsC_isV _)),oV (renV (rowsC_isV _)),oV (renV (rowsC_isV _)),oV (renV (rowsC_isV _)),oV (renV (rowsC_isV _)),oV (renV (rowsC_isV _)),oR,oR,trivial⟩⟩
 rintro⟨i4,hi4⟩ J4 hj4
 simp only at hj4 hi4⊢
 refine Sm.go 110 ?_
 refine vv ?_
 refine mtch (fun hc=>?_) (fun hc=>?_)
 ·have hc:=lt_of_dec hc
  have hca:i4<a.bls.length:=by omega
  have he:=map_at hbls i4 hca hc
  have ga:=rows_take (r:=BlL.r) (k:=6) (fun _=>rfl) a.bls i4 hca
  have gb:=rows_take (r:=BlL.r) (k:=6) (fun _=>rfl) b.bls i4 hc
  have q:=sameB_ _ _ (ha.bls _ (List.getElem_mem hca)) (hb.bls _ (List.getElem_mem hc)) he (hs.bls.2 _ (List.getElem_mem hc)).2.2.2.1 (hs.bls.2 _ (List.getElem_mem hc)).2.2.2.2.1
  generalize a.bls[i4]=x at*
  generalize b.bls[i4]=y at*
  refine Sm.dg 110 10 mix ?_
  simp(maxSteps:=2000000) only[go_sem,ga,gb,ya_bls,yb_bls,bne_self_eq_false]
  refine⟨⟨by omega,by omega⟩,by omega,⟨by omega,by omega⟩,by omega,?_⟩
  refine CallQ.h 120 q hH rfl ?_
  simp(maxSteps:=2000000) only[go_sem,wS (show i4≤1000000000000000000 by have:=hs.bls.1;omega)]
  exact hj4 _ _ ⟨i4+1,hc⟩ [(1,1),(2,2),(3,3),(4,4),(5,5),(6,6),(7,7),(8,8),(9,9),(10,10),(11,11),(12,12)] (by simp only;omega) ⟨rfl,trivial,⟨rfl,rfl,rfl,trivial⟩,⟨oV (renV (rowsC_isV _)),oV (renV (rowsC_isV _)),oV (renV (rowsC_isV _)),oV (renV (rowsC_isV _)),oV (renV (rowsC_isV _)),oV (renV (rowsC_isV _)),oV (renV (rowsC_isV _)),oV (renV (rowsC_isV _)),oV (renV (rowsC_isV _)),oV (renV (rowsC_isV _)),oR,oR,trivial⟩⟩
 exact RetQ.bool (hR C hL) rfl scc rfl
end Go.Proofs.YtlnpgbnhcondjaaGreatDoor.Fx
