/-  -/
import Derived.Test.YtlnpgbnhcondjaaGreatDoorTf
import Derived.Test.YtlnpgbnhcondjaaGreatDoorYY
import Derived.Test.YtlnpgbnhcondjaaGreatDoorY5
import Derived.Test.YtlnpgbnhcondjaaGreatDoorRD
import Derived.Test.YtlnpgbnhcondjaaGreatDoorXD2
import Derived.Test.YtlnpgbnhcondjaaGreatDoorYC
namespace Go.Proofs.YtlnpgbnhcondjaaGreatDoor.Fx
open Vg Tf
set_option linter.unusedSimpArgs false
set_option linter.unusedVariables false
set_option maxRecDepth 100000
set_option maxHeartbeats 4000000
abbrev Zv:=Sv×List Int
theorem zR_at (l:List Zv)(i:Nat)(h:i<l.length):(rowsC (l.map zR))[i]?=some (.v (vsl l[i].1 l[i].2.length)):=by
 have f0:=rows_one (r:=zR) (k:=1) (fun _=>rfl) l i 0 h (by omega)
 rw[Nat.mul_one,Nat.add_zero]at f0
 exact f0
theorem ixfZ {H:Hp}(s:Sv)(l:List Zv)(hs:SlH H (vsl s l.length) 1 (l.map zR))(hl:l.length≤1000000000000000)(g:FuncId)(caps:Array Value)(p:Zv→Bool)(hp:∀x∈l,CallH H Tryz.prog g ((.c (.v (vsl x.1 x.2.length)))::caps.toList.map cst) (Bo (p x))):
  CallH H Tryz.prog 193 [.c (.v (vsl s l.length)),Fv g caps] (I (ixF p l 0)):=by
 have hlen:(l.map zR).length=l.length:=List.length_map _
 refine CallH.mkS Tryz.func193 rfl en193 (by simp[Tryz.ntmps193]) (ClA.of rfl) fun C hR hP hH hL=>?_
 refine Sm.go 100 ?_
 refine vv ?_
 refine Sm.bringR 1 73 0 (hs.mono hH) rfl rfl ?_
 simp only[hlen]
 refine Sm.loopM (M0:=[]) (α:={i:Nat//i≤l.length∧ixF p l 0=ixF p (l.drop i) i}) hP (fun i=>[(0,true,.c (.sl 1 0 l.length 1)),(1,true,Fv g caps),(7,true,I l.length),(8,true,I i.val)]) (fun _=>[(1,⟨true,rowsC (l.map zR),73⟩)]) (fun i=>l.length-i.val) ⟨0,by omega,rfl⟩ (fun _=>ClM.v (by simp only[List.all_cons,rowsC_isV];rfl)) (fun _=>ClE.of rfl) [(1,1)] ?_ ?_
 ·exact⟨rfl,trivial,⟨rfl,rfl,rfl,rfl,trivial⟩,⟨oV (renV (rowsC_isV _)),trivial⟩⟩
 ·rintro⟨i,hi,hx⟩ J hb
  simp only at hb hi hx⊢
  refine Sm.go 110 ?_
  refine vv ?_
  refine mtch (fun hc=>?_) (fun hc=>?_)
  ·have hc:=lt_of_dec hc
   rw[ixF_step p l i hc]at hx
   simp(maxSteps:=2000000) only[go_sem,zR_at l i hc]
   refine⟨⟨by omega,by omega⟩,?_⟩
   refine CallQ.h 120 (hp l[i] (List.getElem_mem hc)) hH (caps_ok _ _) ?_
   refine vv ?_
   refine mtch (fun hd=>?_) (fun hd=>?_)
   ·rw[hd,cond_true]at hx
    exact RetQ.int (hR C hL) rfl ⟨rfl,trivial⟩ hx.symm
   ·rw[hd,cond_false]at hx
    simp only[wS (show i≤1000000000000000000 by omega)]
    exact hb _ _ ⟨i+1,hc,hx⟩ [(1,1)] (by simp only;omega) ⟨rfl,trivial,⟨rfl,rfl,rfl,rfl,trivial⟩,⟨oV (renV (rowsC_isV _)),trivial⟩⟩
  ·have hc:=eq_of_dec hi hc
   rw[hc,List.drop_length]at hx
   exact RetQ.int (hR C hL) rfl ⟨rfl,trivial⟩ hx.symm
theorem cofZ {H:Hp}(s:Sv)(l:List Zv)(hs:SlH H (vsl s l.length) 1 (l.map zR))(hl:l.length≤1000000000000000)(g:FuncId)(caps:Array Value)(p:Zv→Bool)(hp:∀x∈l,CallH H Tryz.prog g ((.c (.v (vsl x.1 x.2.length)))::caps.toList.map cst) (Bo (p x))):
  CallH H Tryz.prog 75 [.c (.v (vsl s l.length)),Fv g caps] (Bo (l.any p)):=by
 refine CallH.mkS Tryz.func75 rfl en75 (by simp[Tryz.ntmps75]) (ClA.of rfl) fun C hR hP hH hL=>?_
 refine Sm.go 100 ?_
 refine vv ?_
 refine CallQ.h 110 (ixfZ s l hs hl g caps p hp) hH rfl ?_
 refine vv ?_
 exact RetQ.bool (hR C hL) rfl ⟨rfl,trivial⟩ (ixF_any p l 0 (by omega))
def lgB (s:Str):Bool:=decide (60<(s.length:Int))
def lgQ (l:List Str):Bool:=l.any lgB
def wdB (l:List Int):Bool:=decide (40<(l.length:Int))
def wdQ (l:List (List Int)):Bool:=l.any wdB
theorem few11 {H:Hp}(s:Str):CallH H Tryz.prog 73 [.c (sC s)] (Bo (lgB s)):=by
 refine CallH.mkS Tryz.func73 rfl en73 (by simp[Tryz.ntmps73]) (ClA.of rfl) fun C hR hP hH hL=>?_
 refine Sm.go 100 ?_
 refine vv ?_
 exact RetQ.bool (hR C hL) rfl ⟨rfl,trivial⟩ rfl
theorem few1_ {H:Hp}(s:Sv)(l:List Str)(hs:SlH H (vsl s l.length) 1 (strsR l))(hl:l.length≤1000000000000000):CallH H Tryz.prog 71 [.c (.v (vsl s l.length))] (Bo (lgQ l)):=by
 refine CallH.mkS Tryz.func71 rfl en71 (by simp[Tryz.ntmps71]) (ClA.of rfl) fun C hR hP hH hL=>?_
 refine Sm.go 100 ?_
 refine vv ?_
 refine CallQ.h 110 (cofS s l hs hl 73 #[] lgB (fun x h=>few11 x)) hH rfl ?_
 refine vv ?_
 exact RetQ.bool (hR C hL) rfl ⟨rfl,trivial⟩ rfl
theorem few21 {H:Hp}(s:Sv)(n:Nat):CallH H Tryz.prog 76 [.c (.v (vsl s n))] (Bo (decide (40<(n:Int)))):=by
 refine CallH.mkS Tryz.func76 rfl en76 (by simp[Tryz.ntmps76]) (ClA.of rfl) fun C hR hP hH hL=>?_
 refine Sm.go 100 ?_
 refine vv ?_
 exact RetQ.bool (hR C hL) rfl ⟨rfl,trivial⟩ rfl
theorem few2_ {H:Hp}(s:Sv)(l:List Zv)(hs:SlH H (vsl s l.length) 1 (l.map zR))(hl:l.length≤1000000000000000):CallH H Tryz.prog 74 [.c (.v (vsl s l.length))] (Bo (wdQ (l.map (·.2)))):=by
 refine CallH.mkS Tryz.func74 rfl en74 (by simp[Tryz.ntmps74]) (ClA.of rfl) fun C hR hP hH hL=>?_
 refine Sm.go 100 ?_
 refine vv ?_
 refine CallQ.h 110 (cofZ s l hs hl 76 #[] (fun x=>wdB x.2) (fun x h=>few21 x.1 x.2.length)) hH rfl ?_
 refine vv ?_
 refine RetQ.bool (hR C hL) rfl ⟨rfl,trivial⟩ ?_
 unfold wdQ
 rw[List.any_map];rfl
abbrev fv1:Value:= .func (.func 71) #[] #[]
abbrev fv2:Value:= .func (.func 74) #[] #[]
theorem few3_ {H:Hp}(x:Td)(pv:Value)(hpv:PtH H pv [fv1]):CallH H Tryz.prog 78 [rowV x.r,.c (.v pv)] (Bo (lgQ [x.nm])):=by
 refine CallH.mkS Tryz.func78 rfl en78 (by simp[Tryz.ntmps78]) (ClA.of rfl) fun C hR hP hH hL=>?_
 refine Sm.bringP 1 133 1 (hpv.mono hH) rfl rfl (Sm.go 100 ?_)
 refine vv ?_
 refine CallQ.letgo (xs:=[_]) (M0:=[]) [101] hL hP rfl rfl rfl en71 rfl rfl (fun β C1 l1 k1 kn=>?_)
 obtain⟨sL,hv,hk⟩:=(kn 101 _ rfl rfl rfl).vslx (sz:=1) (rows:=strsR [x.nm]) (by simp[strsR]) rfl
 have hv:gval β (.sl 101 0 1 1)=vsl sL 1:=hv
 simp only[Mem.conc,Env.conc,Bk.conc,Cv.conc,V.conc,W.conc,List.map_cons,List.map_nil,List.contains_cons,List.contains_nil,List.any_cons,List.any_nil,Nat.reduceBEq,Bool.or_false,Bool.or_true,cond_true,cond_false,hv]
 refine CallW.h 110 l1 (few1_ sL [x.nm] hk (by simp)) (Hp.le.refl _) rfl (fun C2 l2 k2=>?_)
 refine vv ?_
 exact RetQ.bool (hR C2 l2) rfl ⟨rfl,trivial⟩ rfl
theorem few6_ {H:Hp}(x:Po)(pv:Value)(hpv:PtH H pv [fv1]):CallH H Tryz.prog 84 [rowV x.r,.c (.v pv)] (Bo (lgQ [x.nm,x.ty])):=by
 refine CallH.mkS Tryz.func84 rfl en84 (by simp[Tryz.ntmps84]) (ClA.of rfl) fun C hR hP hH hL=>?_
 refine Sm.bringP 1 133 1 (hpv.mono hH) rfl rfl (Sm.go 100 ?_)
 refine vv ?_
 refine CallQ.letgo (xs:=[_]) (M0:=[]) [101] hL hP rfl rfl rfl en71 rfl rfl (fun β C1 l1 k1 kn=>?_)
 obtain⟨sL,hv,hk⟩:=(kn 101 _ rfl rfl rfl).vslx (sz:=1) (rows:=strsR [x.nm,x.ty]) (by simp[strsR]) rfl
 have hv:gval β (.sl 101 0 2 1)=vsl sL 2:=hv
 simp only[Mem.conc,Env.conc,Bk.conc,Cv.conc,V.conc,W.conc,List.map_cons,List.map_nil,List.contains_cons,List.contains_nil,List.any_cons,List.any_nil,Nat.reduceBEq,Bool.or_false,Bool.or_true,cond_true,cond_false,hv]
 refine CallW.h 110 l1 (few1_ sL [x.nm,x.ty] hk (by simp)) (Hp.le.refl _) rfl (fun C2 l2 k2=>?_)
 refine vv ?_
 exact RetQ.bool (hR C2 l2) rfl ⟨rfl,trivial⟩ rfl
theorem few4_ {H:Hp}(x:CuL)(pv pw:Value)(hpv:PtH H pv [fv1])(hpw:PtH H pw [fv2]):CallH H Tryz.prog 80 [rowV x.r,.c (.v pv),.c (.v pw)] (Bo (bif lgQ [x.c.nm]then true else wdQ [x.c.xs,x.c.ys])):=by
 refine CallH.mkS Tryz.func80 rfl en80 (by simp[Tryz.ntmps80]) (ClA.of rfl) fun C hR hP hH hL=>?_
 refine Sm.bringP 1 133 1 (hpv.mono hH) rfl rfl ?_
 refine Sm.bringP 2 136 2 (hpw.mono hH) rfl rfl (Sm.go 100 ?_)
 refine vv ?_
 refine CallQ.letgo (xs:=[_]) (M0:=[]) [101] hL hP rfl rfl rfl en71 rfl rfl (fun β C1 l1 k1 kn=>?_)
 obtain⟨sL,hv,hk⟩:=(kn 101 _ rfl rfl rfl).vslx (sz:=1) (rows:=strsR [x.c.nm]) (by simp[strsR]) rfl
 have hv:gval β (.sl 101 0 1 1)=vsl sL 1:=hv
 simp only[Mem.conc,Env.conc,Bk.conc,Cv.conc,V.conc,W.conc,List.map_cons,List.map_nil,List.contains_cons,List.contains_nil,List.any_cons,List.any_nil,Nat.reduceBEq,Bool.or_false,Bool.or_true,cond_true,cond_false,hv]
 refine CallW.h 110 l1 (few1_ sL [x.c.nm] hk (by simp)) (Hp.le.refl _) rfl (fun C2 l2 k2=>?_)
 refine vv ?_
 generalize lgQ [x.c.nm]=B at*
 cases B with
 |true=>
  refine vv ?_
  refine CallQ.guard (v:=Bo false) (xs:=[]) 120 (fun h=>by cases h) (fun h=>by cases h) ?_
  refine vv ?_
  exact RetQ.bool (hR C2 l2) rfl ⟨rfl,trivial⟩ rfl
 |false=>
 refine vv ?_
 refine CallQ.letgo (xs:=[_]) (M0:=[]) [110] l2 hP rfl rfl rfl en74 rfl rfl (fun β C3 l3 k3 kn=>?_)
 obtain⟨sL,hv,hk⟩:=(kn 110 _ rfl rfl rfl).vslx (sz:=1) (rows:=[((x.x,x.c.xs):Zv),((x.y,x.c.ys):Zv)].map zR) (by simp[zR]) rfl
 have hv:gval β (.sl 110 0 2 1)=vsl sL 2:=hv
 simp only[Mem.conc,Env.conc,Bk.conc,Cv.conc,V.conc,W.conc,List.map_cons,List.map_nil,List.contains_cons,List.contains_nil,List.any_cons,List.any_nil,Nat.reduceBEq,Bool.or_false,Bool.or_true,cond_true,cond_false,hv]
 refine CallW.h 120 l3 (few2_ sL [((x.x,x.c.xs):Zv),((x.y,x.c.ys):Zv)] hk (by simp)) (Hp.le.refl _) rfl (fun C4 l4 k4=>?_)
 refine vv ?_
 exact RetQ.bool (hR C4 l4) rfl ⟨rfl,trivial⟩ rfl
theorem few5_ {H:Hp}(x:MpL)(hx:x.ok H)(pv pw:Value)(hpv:PtH H pv [fv1])(hpw:PtH H pw [fv2]):CallH H Tryz.prog 82 [rowV x.r,.c (.v pv),.c (.v pw)] (Bo (bif lgQ [x.nm]then true else bif wdQ [x.xs,x.ys]then true else bif decide (40<(x.zs.length:Int))then true else wdQ (x.zs.map (·.2)))):=by
 refine CallH.mkS Tryz.func82 rfl en82 (by simp[Tryz.ntmps82]) (ClA.of rfl) fun C hR hP hH hL=>?_
 refine Sm.bringP 1 133 1 (hpv.mono hH) rfl rfl ?_
 refine Sm.bringP 2 136 2 (hpw.mono hH) rfl rfl (Sm.go 100 ?_)
 refine vv ?_
 refine CallQ.letgo (xs:=[_]) (M0:=[]) [101] hL hP rfl rfl rfl en71 rfl rfl (fun β C1 l1 k1 kn=>?_)
 obtain⟨sL,hv,hk⟩:=(kn 101 _ rfl rfl rfl).vslx (sz:=1) (rows:=strsR [x.nm]) (by simp[strsR]) rfl
 have hv:gval β (.sl 101 0 1 1)=vsl sL 1:=hv
 simp only[Mem.conc,Env.conc,Bk.conc,Cv.conc,V.conc,W.conc,List.map_cons,List.map_nil,List.contains_cons,List.contains_nil,List.any_cons,List.any_nil,Nat.reduceBEq,Bool.or_false,Bool.or_true,cond_true,cond_false,hv]
 refine CallW.h 110 l1 (few1_ sL [x.nm] hk (by simp)) (Hp.le.refl _) rfl (fun C2 l2 k2=>?_)
 refine vv ?_
 generalize lgQ [x.nm]=B at*
 cases B with
 |true=>
  refine vv ?_
  refine CallQ.guard (v:=Bo false) (xs:=[]) 120 (fun h=>by cases h) (fun h=>by cases h) ?_
  refine vv ?_
  refine CallQ.guard (v:=Bo false) (xs:=[]) 130 (fun h=>by cases h) (fun h=>by cases h) ?_
  refine vv ?_
  exact RetQ.bool (hR C2 l2) rfl ⟨rfl,trivial⟩ rfl
 |false=>
 refine vv ?_
 refine CallQ.letgo (xs:=[_]) (M0:=[]) [110] l2 hP rfl rfl rfl en74 rfl rfl (fun β C3 l3 k3 kn=>?_)
 obtain⟨sL,hv,hk⟩:=(kn 110 _ rfl rfl rfl).vslx (sz:=1) (rows:=[((x.x,x.xs):Zv),((x.y,x.ys):Zv)].map zR) (by simp[zR]) rfl
 have hv:gval β (.sl 110 0 2 1)=vsl sL 2:=hv
 simp only[Mem.conc,Env.conc,Bk.conc,Cv.conc,V.conc,W.conc,List.map_cons,List.map_nil,List.contains_cons,List.contains_nil,List.any_cons,List.any_nil,Nat.reduceBEq,Bool.or_false,Bool.or_true,cond_true,cond_false,hv]
 refine CallW.h 120 l3 (few2_ sL [((x.x,x.xs):Zv),((x.y,x.ys):Zv)] hk (by simp)) (Hp.le.refl _) rfl (fun C4 l4 k4=>?_)
 refine vv ?_
 generalize wdQ [x.xs,x.ys]=B2 at*
 cases B2 with
 |true=>
  refine vv ?_
  refine CallQ.guard (v:=Bo false) (xs:=[]) 130 (fun h=>by cases h) (fun h=>by cases h) ?_
  refine vv ?_
  exact RetQ.bool (hR C4 l4) rfl ⟨rfl,trivial⟩ rfl
 |false=>
 refine vv ?_
 have hl:decide (40<(x.zs.length:Int))=false→x.zs.length≤1000000000000000:=fun h=>by have:=of_decide_eq_false h;omega
 generalize decide (40<(x.zs.length:Int))=B3 at*
 cases B3 with
 |true=>
  refine vv ?_
  refine CallQ.guard (v:=Bo false) (xs:=[]) 140 (fun h=>by cases h) (fun h=>by cases h) ?_
  refine vv ?_
  exact RetQ.bool (hR C4 l4) rfl ⟨rfl,trivial⟩ rfl
 |false=>
 refine vv ?_
 refine CallQ.h 140 (few2_ x.z x.zs hx.z (hl rfl)) (hH.trans (k1.trans (k2.trans (k3.trans k4)))) rfl ?_
 refine vv ?_
 exact RetQ.bool (hR C4 l4) rfl ⟨rfl,trivial⟩ rfl
theorem few7_ {H:Hp}(x:BlL)(hx:x.ok H)(hl:x.c.ins.length≤1000000000000000)(pv pw:Value)(hpv:PtH H pv [fv1])(hpw:PtH H pw [fv2]):CallH H Tryz.prog 86 [rowV x.r,.c (.v pv),.c (.v pw)] (Bo (bif lgQ [x.c.nm,x.c.kd,x.c.ty,x.c.tb]then true else bif decide (40<(x.c.ins.length:Int))then true else bif lgQ x.c.ins then true else wdQ [x.c.ks])):=by
 refine CallH.mkS Tryz.func86 rfl en86 (by simp[Tryz.ntmps86]) (ClA.of rfl) fun C hR hP hH hL=>?_
 refine Sm.bringP 1 133 1 (hpv.mono hH) rfl rfl ?_
 refine Sm.bringP 2 136 2 (hpw.mono hH) rfl rfl (Sm.go 100 ?_)
 refine vv ?_
 refine CallQ.letgo (xs:=[_]) (M0:=[]) [101] hL hP rfl rfl rfl en71 rfl rfl (fun β C1 l1 k1 kn=>?_)
 obtain⟨sL,hv,hk⟩:=(kn 101 _ rfl rfl rfl).vslx (sz:=1) (rows:=strsR [x.c.nm,x.c.kd,x.c.ty,x.c.tb]) (by simp[strsR]) rfl
 have hv:gval β (.sl 101 0 4 1)=vsl sL 4:=hv
 simp only[Mem.conc,Env.conc,Bk.conc,Cv.conc,V.conc,W.conc,List.map_cons,List.map_nil,List.contains_cons,List.contains_nil,List.any_cons,List.any_nil,Nat.reduceBEq,Bool.or_false,Bool.or_true,cond_true,cond_false,hv]
 refine CallW.h 110 l1 (few1_ sL [x.c.nm,x.c.kd,x.c.ty,x.c.tb] hk (by simp)) (Hp.le.refl _) rfl (fun C2 l2 k2=>?_)
 refine vv ?_
 generalize lgQ [x.c.nm,x.c.kd,x.c.ty,x.c.tb]=B at*
 cases B with
 |true=>
  refine vv ?_
  refine CallQ.guard (v:=Bo false) (xs:=[]) 120 (fun h=>by cases h) (fun h=>by cases h) ?_
  refine vv ?_
  refine CallQ.guard (v:=Bo false) (xs:=[]) 130 (fun h=>by cases h) (fun h=>by cases h) ?_
  refine vv ?_
  exact RetQ.bool (hR C2 l2) rfl ⟨rfl,trivial⟩ rfl
 |false=>
 refine vv ?_
 generalize decide (40<(x.c.ins.length:Int))=B2 at*
 cases B2 with
 |true=>
  refine vv ?_
  refine CallQ.guard (v:=Bo false) (xs:=[]) 120 (fun h=>by cases h) (fun h=>by cases h) ?_
  refine vv ?_
  refine CallQ.guard (v:=Bo false) (xs:=[]) 130 (fun h=>by cases h) (fun h=>by cases h) ?_
  refine vv ?_
  exact RetQ.bool (hR C2 l2) rfl ⟨rfl,trivial⟩ rfl
 |false=>
 refine vv ?_
 refine CallQ.h 120 (few1_ x.i x.c.ins hx.i hl) (hH.trans (k1.trans k2)) rfl ?_
 refine vv ?_
 generalize lgQ x.c.ins=B3 at*
 cases B3 with
 |true=>
  refine vv ?_
  refine CallQ.guard (v:=Bo false) (xs:=[]) 130 (fun h=>by cases h) (fun h=>by cases h) ?_
  refine vv ?_
  exact RetQ.bool (hR C2 l2) rfl ⟨rfl,trivial⟩ rfl
 |false=>
 refine vv ?_
 refine CallQ.letgo (xs:=[_]) (M0:=[]) [120] l2 hP rfl rfl rfl en74 rfl rfl (fun β C3 l3 k3 kn=>?_)
 obtain⟨sL,hv,hk⟩:=(kn 120 _ rfl rfl rfl).vslx (sz:=1) (rows:=[((x.k,x.c.ks):Zv)].map zR) (by simp[zR]) rfl
 have hv:gval β (.sl 120 0 1 1)=vsl sL 1:=hv
 simp only[Mem.conc,Env.conc,Bk.conc,Cv.conc,V.conc,W.conc,List.map_cons,List.map_nil,List.contains_cons,List.contains_nil,List.any_cons,List.any_nil,Nat.reduceBEq,Bool.or_false,Bool.or_true,cond_true,cond_false,hv]
 refine CallW.h 130 l3 (few2_ sL [((x.k,x.c.ks):Zv)] hk (by simp)) (Hp.le.refl _) rfl (fun C4 l4 k4=>?_)
 refine vv ?_
 exact RetQ.bool (hR C4 l4) rfl ⟨rfl,trivial⟩ rfl
def f4B (x:CuL):Bool:=bif lgQ [x.c.nm]then true else wdQ [x.c.xs,x.c.ys]
def f5B (x:MpL):Bool:=bif lgQ [x.nm]then true else bif wdQ [x.xs,x.ys]then true else bif decide (40<(x.zs.length:Int))then true else wdQ (x.zs.map (·.2))
def f7B (x:BlL):Bool:=bif lgQ [x.c.nm,x.c.kd,x.c.ty,x.c.tb]then true else bif decide (40<(x.c.ins.length:Int))then true else bif lgQ x.c.ins then true else wdQ [x.c.ks]
def fewC (d:DgL):Bool:=bif (bif (bif (bif (bif (bif lgQ [d.nm]then true else decide (40<(d.tys.length:Int)))then true else decide (40<(d.cus.length:Int)))then true else decide (40<(d.mas.length:Int)))then true else decide (40<(d.ins.length:Int)))then true else decide (210<(d.bls.length:Int)))then true else decide (40<(d.ous.length:Int))
def fewB (d:DgL):Bool:=bif fewC d then false else bif lgQ d.ous then false else bif d.tys.any (fun x=>lgQ [x.nm])then false else bif d.cus.any f4B then false else bif d.mas.any f5B then false else bif d.ins.any (fun x=>lgQ [x.nm,x.ty])then false else !d.bls.any f7B
theorem _root_.Go.Proofs.YtlnpgbnhcondjaaGreatDoor.Vg.Stp.mkF2 {P:Program}{o:Oper}{e:Env}{M:Mem}{f:FuncId}{x y:Operand}{v u:Value}(ho:o.op= .makeFunc (.func f) #[] #[x,y])(hx:rd e x=some (true,.c (.v v)))(hy:rd e y=some (true,.c (.v u))):Stp P o e M (Fv f #[v,u]) []:=
 Stp.pure fun β a hop w=>by
  have hex:=hop x (by simp[ho,Op.operands]) _ hx
  have hey:=hop y (by simp[ho,Op.operands]) _ hy
  simp only[gv,V.g,Cv.g,cond_true]at hex hey
  unfold execOp
  simp[ho,hex,hey,Instr.makeFunc,V.g,Cv.g]
theorem few_ {H:Hp}(d:DgL)(o:d.ok H)(hs:d.sm):CallH H Tryz.prog 31 [rowV d.r] (Bo (fewB d)):=by
 refine CallH.mkS Tryz.func31 rfl en31 (by simp[Tryz.ntmps31]) (ClA.of rfl) fun C hR hP hH hL=>?_
 refine Sm.go 100 ?_
 refine vv ?_
 refine CallQ.letgo (xs:=[_]) (M0:=[]) [103] hL hP rfl rfl rfl en71 rfl rfl (fun β C1 l1 k1 kn=>?_)
 obtain⟨sL,hv,hk⟩:=(kn 103 _ rfl rfl rfl).vslx (sz:=1) (rows:=strsR [d.nm]) (by simp[strsR]) rfl
 have hv:gval β (.sl 103 0 1 1)=vsl sL 1:=hv
 simp only[Mem.conc,Env.conc,Bk.conc,Cv.conc,V.conc,W.conc,List.map_cons,List.map_nil,List.contains_cons,List.contains_nil,List.any_cons,List.any_nil,Nat.reduceBEq,Bool.or_false,Bool.or_true,cond_true,cond_false,hv]
 refine CallW.h 110 l1 (few1_ sL [d.nm] hk (by simp)) (Hp.le.refl _) rfl (fun C2 l2 k2=>?_)
 refine vv ?_
 have hC:(bif (bif (bif (bif (bif (bif lgQ [d.nm]then true else decide (40<(d.tys.length:Int)))then true else decide (40<(d.cus.length:Int)))then true else decide (40<(d.mas.length:Int)))then true else decide (40<(d.ins.length:Int)))then true else decide (210<(d.bls.length:Int)))then true else decide (40<(d.ous.length:Int)))=fewC d:=rfl
 rw[hC]
 have hB:fewB d=bif fewC d then false else bif lgQ d.ous then false else bif d.tys.any (fun x=>lgQ [x.nm])then false else bif d.cus.any f4B then false else bif d.mas.any f5B then false else bif d.ins.any (fun x=>lgQ [x.nm,x.ty])then false else !d.bls.any f7B:=rfl
 rw[hB]at hR
 clear hB hC
 generalize fewC d=B0 at*
 cases B0 with
 |true=>
  refine vv ?_
  refine CallQ.guard (v:=Bo false) (xs:=[]) 120 (fun h=>by cases h) (fun h=>by cases h) ?_
  refine vv ?_
  exact RetQ.bool (hR C2 l2) rfl ⟨rfl,trivial⟩ rfl
 |false=>
 refine vv ?_
 have h2:=hH.trans (k1.trans k2)
 refine CallQ.h 120 (few1_ d.ou d.ous (o.ou) hs.ous.1) h2 rfl ?_
 refine vv ?_
 generalize lgQ d.ous=B1 at*
 refine mtch (fun hc=>?_) (fun hc=>?_)
 ·subst hc
  exact RetQ.bool (hR C2 l2) rfl ⟨rfl,trivial⟩ rfl
 subst hc
 refine CallQ.letgo (xs:=[_,_]) (M0:=[]) [101,102] l2 hP rfl rfl rfl en77 rfl rfl (fun β C3 l3 k3 kn=>?_)
 have p1:PtH C3.hp (gval β (.p 101 0)) [fv1]:=(kn 101 _ rfl rfl rfl).pt (by simp)
 have p2:PtH C3.hp (gval β (.p 102 0)) [fv2]:=(kn 102 _ rfl rfl rfl).pt (by simp)
 have h3:=h2.trans k3
 simp only[Mem.conc,Env.conc,Bk.conc,Cv.conc,V.conc,W.conc,List.map_cons,List.map_nil,List.contains_cons,List.contains_nil,List.any_cons,List.any_nil,Nat.reduceBEq,Bool.or_false,Bool.or_true,cond_true,cond_false]
 refine CallW.h 140 l3 (cofTd d.ty d.tys (o.ty.mono h3) hs.tys.1 78 #[ptr β 101 0] (fun x=>lgQ [x.nm]) (fun x hx=>few3_ x _ p1)) (Hp.le.refl _) rfl (fun C4 l4 k4=>?_)
 refine vv ?_
 have h4:=h3.trans k4
 have p1:=p1.mono k4
 have p2:=p2.mono k4
 generalize d.tys.any (fun x=>lgQ [x.nm])=B2 at*
 cases B2 with
 |true=>
  refine vv ?_
  refine Sm.opq rfl rfl ⟨[],Bo false,(fun h=>by cases h),.inr rfl,Sm.go 150 ?_⟩
  refine vv ?_
  refine CallQ.guard (v:=Bo false) (xs:=[]) 160 (fun h=>by cases h) (fun h=>by cases h) ?_
  refine vv ?_
  exact RetQ.bool (hR C4 l4) rfl ⟨rfl,trivial⟩ rfl
 |false=>
 refine vv ?_
 refine Sm.opq rfl rfl ⟨[],_,fun _=>Stp.mkF2 rfl rfl rfl,.inl rfl,Sm.go 150 ?_⟩
 refine vv ?_
 refine CallQ.h 160 (cofCu d.cu d.cus (o.cu.mono h4) hs.cus.1 80 #[ptr β 101 0,ptr β 102 0] f4B (fun x hx=>few4_ x _ _ p1 p2)) (Hp.le.refl _) rfl ?_
 refine vv ?_
 generalize d.cus.any f4B=B3 at*
 refine mtch (fun hc=>?_) (fun hc=>?_)
 ·subst hc
  exact RetQ.bool (hR C4 l4) rfl ⟨rfl,trivial⟩ rfl
 subst hc
 refine Sm.opq rfl rfl ⟨[],_,fun _=>Stp.mkF2 rfl rfl rfl,.inl rfl,Sm.go 170 ?_⟩
 refine vv ?_
 refine CallQ.h 180 (cofMa d.ma d.mas (o.ma.mono h4) hs.mas.1 82 #[ptr β 101 0,ptr β 102 0] f5B (fun x hx=>few5_ x ((o.mas x hx).mono h4) _ _ p1 p2)) (Hp.le.refl _) rfl ?_
 refine vv ?_
 generalize d.mas.any f5B=B4 at*
 refine mtch (fun hc=>?_) (fun hc=>?_)
 ·subst hc
  exact RetQ.bool (hR C4 l4) rfl ⟨rfl,trivial⟩ rfl
 subst hc
 refine Sm.opq rfl rfl ⟨[],_,fun _=>Stp.mkF rfl rfl,.inl rfl,Sm.go 190 ?_⟩
 refine vv ?_
 refine CallQ.h 200 (cofPo d.i d.ins (o.i.mono h4) hs.ins.1 84 #[ptr β 101 0] (fun x=>lgQ [x.nm,x.ty]) (fun x hx=>few6_ x _ p1)) (Hp.le.refl _) rfl ?_
 refine vv ?_
 generalize d.ins.any (fun x=>lgQ [x.nm,x.ty])=B5 at*
 cases B5 with
 |true=>
  refine vv ?_
  refine Sm.opq rfl rfl ⟨[],Bo false,(fun h=>by cases h),.inr rfl,Sm.go 210 ?_⟩
  refine vv ?_
  refine CallQ.guard (v:=Bo false) (xs:=[]) 220 (fun h=>by cases h) (fun h=>by cases h) ?_
  refine vv ?_
  exact RetQ.bool (hR C4 l4) rfl ⟨rfl,trivial⟩ rfl
 |false=>
 refine vv ?_
 refine Sm.opq rfl rfl ⟨[],_,fun _=>Stp.mkF2 rfl rfl rfl,.inl rfl,Sm.go 210 ?_⟩
 refine vv ?_
 refine CallQ.h 220 (cofBl d.bl d.bls (o.bl.mono h4) hs.bls.1 86 #[ptr β 101 0,ptr β 102 0] f7B (fun x hx=>few7_ x ((o.bls x hx).mono h4) (hs.bls.2 x hx).2.2.2.1 _ _ p1 p2)) (Hp.le.refl _) rfl ?_
 refine vv ?_
 exact RetQ.bool (hR C4 l4) rfl ⟨rfl,trivial⟩ rfl
end Go.Proofs.YtlnpgbnhcondjaaGreatDoor.Fx
namespace Go.Proofs.YtlnpgbnhcondjaaGreatDoor.Fx
set_option maxRecDepth 100000
set_option linter.unusedVariables false
set_option linter.unusedSimpArgs false
open Vg Tf
set_option maxHeartbeats 4000000
theorem lenR {α:Type}(f:α→List Value)(k:Nat)(l:List α)(h:∀a,(f a).length=k):∀r∈l.map f,r.length=k:=fun r hr=>by obtain⟨a,_,rfl⟩:=List.mem_map.1 hr;exact h a
structure ZL where
 s:Sv
 z:List Zv
def ZL.c (x:ZL):List (List Int):=x.z.map (·.2)
structure ZL.ok (H:Hp) (x:ZL):Prop where
 o:SlH H (vsl x.s x.z.length) 1 (x.z.map zR)
 e:∀v∈x.z,SlH H (vsl v.1 v.2.length) 1 (intsR v.2)
def wF {α:Type}(F:α→Str)(l:List α)(i:Nat):List Str:=(l.take i).map F++List.replicate (l.length-i) []
section
variable {α:Type} (F:α→Str)
theorem wF_len (l:List α)(i:Nat)(h:i≤l.length):(wF F l i).length=l.length:=by
 unfold wF;rw[List.length_append,List.length_map,List.length_take,List.length_replicate];omega
theorem wF_set (l:List α)(i:Nat)(h:i<l.length):((wF F l i).map sC).set i (sC (F l[i]))=(wF F l (i+1)).map sC:=by
 rw[←List.map_set]
 congr 1
 unfold wF
 have h1:((l.take i).map F).length=i:=by rw[List.length_map,List.length_take];omega
 have h2:l.length-i=(l.length-(i+1))+1:=by omega
 rw[List.set_append_right _ _ (by omega),h1,Nat.sub_self,h2,List.replicate_succ,List.set_cons_zero,List.take_succ_eq_append_getElem h,List.map_append,List.append_assoc];rfl
theorem wF_all (l:List α):wF F l l.length=l.map F:=by unfold wF;simp
theorem wF_0 (l:List α):reps l.length [Cv.v (.string ⟨#[]⟩)]=(wF F l 0).map sC:=by rw[Vg.reps_one];unfold wF;simp
end
theorem join_td {H:Hp}(s:Sv)(l:List Td)(hs:SlH H (vsl s l.length) 11 (l.map Td.r))(hl:l.length≤100000)(sep:Str)(g:FuncId)(F:Td→Str)(hg:∀x,x∈l→CallH H Tryz.prog g [rowV x.r] (S (F x)))(hj:(Lib.join (l.map F) sep).length≤140737488355328):
  CallH H Tryz.prog 129 [.c (.v (vsl s l.length)),S sep,Fv g #[]] (S (Lib.join (l.map F) sep)):=by
 have hml:(l.map F).length=l.length:=List.length_map _
 refine CallH.mkS Tryz.func129 rfl en129 (by simp[Tryz.ntmps129]) (ClA.of rfl) fun C hR hP hH hL=>?_
 refine Sm.bringR 1 93 0 (hs.mono hH) rfl rfl ?_
 have n1:(l.map Td.r).length=l.length:=List.length_map _
 rw[n1]
 refine Sm.go 100 ?_
 refine vv ?_
 refine⟨⟨by omega,by omega,by omega⟩,?_⟩
 rw[wF_0 F]
 refine Sm.loopM (M0:=[]) (α:={i:Nat//i≤l.length}) hP (fun i=>[(1,true,S sep),(2,true,Fv g #[]),(7,true,.c (.sl 5 0 l.length 1)),(13,true,.c (.sl 2 0 l.length 11)),(14,true,I l.length),(15,true,I i.val)])
  (fun i=>[(2,⟨true,rowsC (l.map Td.r),93⟩),(5,⟨false,(wF F l i.val).map sC,9⟩)]) (fun i=>l.length-i.val) ⟨0,by omega⟩ (fun i=>ClM.of (by simp only[List.all_cons,inMV (rowsC_isV _),inMV (v_iC _),inMV (v_sC _)];rfl)) (fun _=>ClE.of rfl) [(2,1),(5,100)] ?_ ?_
 ·exact⟨rfl,trivial,⟨rfl,rfl,rfl,rfl,rfl,rfl,trivial⟩,⟨oV (renV (rowsC_isV _)),oV (renV (v_sC _)),trivial⟩⟩
 rintro⟨i,hi⟩ J hb
 simp only at hb hi⊢
 refine Sm.go 110 ?_
 refine vv ?_
 refine mtch (fun hc=>?_) (fun hc=>?_)
 ·have hc:=lt_of_dec hc
  have hwl:((wF F l i).map sC).length=l.length:=by rw[List.length_map,wF_len F l i hi]
  have hgx:=hg _ (List.getElem_mem hc)
  have hws:=wF_set F l i hc
  have ga:=rows_take (r:=Td.r) (k:=11) (fun _=>rfl) l i hc
  have za:=rows_len (r:=Td.r) (k:=11) (fun _=>rfl) l
  generalize l[i]=x at*
  simp(maxSteps:=2000000) only[go_sem,ga,za]
  refine⟨⟨by omega,by omega⟩,by omega,?_⟩
  refine CallQ.h 120 hgx hH rfl ?_
  simp(maxSteps:=2000000) only[go_sem,hwl,hws,wS (show i≤1000000000000000000 by omega)]
  refine⟨⟨by omega,by omega⟩,by omega,?_⟩
  exact hb _ _ ⟨i+1,hc⟩ [(2,2),(5,5)] (by simp only;omega) ⟨rfl,trivial,⟨rfl,rfl,rfl,rfl,rfl,rfl,trivial⟩,⟨oV (renV (rowsC_isV _)),oV (renV (v_sC _)),trivial⟩⟩
 ·have hc:=eq_of_dec hi hc
  subst hc
  rw[wF_all]
  clear hb
  refine vv ?_
  refine CallQ.letgo (xs:=[_,_]) (M0:=[]) [5] hL hP rfl (by unfold concOk;simp only[List.all_cons,cokV (v_sC _),cokV (v_iC _),cokV (rowsC_isV _)];rfl) rfl en21 rfl rfl (fun β C2 l2 k2 kn=>?_)
  obtain⟨sj,hvj,hkj⟩:=(kn 5 _ rfl rfl rfl).vslx (sz:=1) (rows:=strsR (l.map F)) (fun r hr=>by obtain⟨a,_,rfl⟩:=List.mem_map.1 hr;rfl) (strsC _).symm
  have eij:(strsR (l.map F)).length=l.length:=by unfold strsR;rw[List.length_map,hml]
  rw[eij]at hvj hkj
  simp only[Mem.conc,Env.conc,Bk.conc,Cv.conc,V.conc,W.conc,List.map_cons,List.map_nil,List.contains_cons,List.contains_nil,Nat.reduceBEq,Bool.or_false,Bool.or_true,cond_true,cond_false,concV (v_sC _),concV (v_iC _),concV (rowsC_isV _),hvj]
  have hjn:=joinH (H:=C2.hp) sj (l.map F) sep (by rw[hml];exact hkj) (by rw[hml];exact hl) hj
  rw[hml]at hjn
  refine CallW.h 130 l2 hjn (Hp.le.refl _) rfl (fun C3 l3 k3=>?_)
  refine vv ?_
  exact RetQ.of (hR C3 l3) rfl ⟨rfl,trivial⟩ rfl (Sub.nil _) ClM.nil (ClV.of rfl)
theorem join_cu {H:Hp}(s:Sv)(l:List CuL)(hs:SlH H (vsl s l.length) 3 (l.map CuL.r))(hl:l.length≤100000)(sep:Str)(g:FuncId)(F:CuL→Str)(hg:∀x,x∈l→CallH H Tryz.prog g [rowV x.r] (S (F x)))(hj:(Lib.join (l.map F) sep).length≤140737488355328):
  CallH H Tryz.prog 131 [.c (.v (vsl s l.length)),S sep,Fv g #[]] (S (Lib.join (l.map F) sep)):=by
 have hml:(l.map F).length=l.length:=List.length_map _
 refine CallH.mkS Tryz.func131 rfl en131 (by simp[Tryz.ntmps131]) (ClA.of rfl) fun C hR hP hH hL=>?_
 refine Sm.bringR 1 110 0 (hs.mono hH) rfl rfl ?_
 have n1:(l.map CuL.r).length=l.length:=List.length_map _
 rw[n1]
 refine Sm.go 100 ?_
 refine vv ?_
 refine⟨⟨by omega,by omega,by omega⟩,?_⟩
 rw[wF_0 F]
 refine Sm.loopM (M0:=[]) (α:={i:Nat//i≤l.length}) hP (fun i=>[(1,true,S sep),(2,true,Fv g #[]),(7,true,.c (.sl 5 0 l.length 1)),(13,true,.c (.sl 2 0 l.length 3)),(14,true,I l.length),(15,true,I i.val)])
  (fun i=>[(2,⟨true,rowsC (l.map CuL.r),110⟩),(5,⟨false,(wF F l i.val).map sC,9⟩)]) (fun i=>l.length-i.val) ⟨0,by omega⟩ (fun i=>ClM.of (by simp only[List.all_cons,inMV (rowsC_isV _),inMV (v_iC _),inMV (v_sC _)];rfl)) (fun _=>ClE.of rfl) [(2,1),(5,100)] ?_ ?_
 ·exact⟨rfl,trivial,⟨rfl,rfl,rfl,rfl,rfl,rfl,trivial⟩,⟨oV (renV (rowsC_isV _)),oV (renV (v_sC _)),trivial⟩⟩
 rintro⟨i,hi⟩ J hb
 simp only at hb hi⊢
 refine Sm.go 110 ?_
 refine vv ?_
 refine mtch (fun hc=>?_) (fun hc=>?_)
 ·have hc:=lt_of_dec hc
  have hwl:((wF F l i).map sC).length=l.length:=by rw[List.length_map,wF_len F l i hi]
  have hgx:=hg _ (List.getElem_mem hc)
  have hws:=wF_set F l i hc
  have ga:=rows_take (r:=CuL.r) (k:=3) (fun _=>rfl) l i hc
  have za:=rows_len (r:=CuL.r) (k:=3) (fun _=>rfl) l
  generalize l[i]=x at*
  simp(maxSteps:=2000000) only[go_sem,ga,za]
  refine⟨⟨by omega,by omega⟩,by omega,?_⟩
  refine CallQ.h 120 hgx hH rfl ?_
  simp(maxSteps:=2000000) only[go_sem,hwl,hws,wS (show i≤1000000000000000000 by omega)]
  refine⟨⟨by omega,by omega⟩,by omega,?_⟩
  exact hb _ _ ⟨i+1,hc⟩ [(2,2),(5,5)] (by simp only;omega) ⟨rfl,trivial,⟨rfl,rfl,rfl,rfl,rfl,rfl,trivial⟩,⟨oV (renV (rowsC_isV _)),oV (renV (v_sC _)),trivial⟩⟩
 ·have hc:=eq_of_dec hi hc
  subst hc
  rw[wF_all]
  clear hb
  refine vv ?_
  refine CallQ.letgo (xs:=[_,_]) (M0:=[]) [5] hL hP rfl (by unfold concOk;simp only[List.all_cons,cokV (v_sC _),cokV (v_iC _),cokV (rowsC_isV _)];rfl) rfl en21 rfl rfl (fun β C2 l2 k2 kn=>?_)
  obtain⟨sj,hvj,hkj⟩:=(kn 5 _ rfl rfl rfl).vslx (sz:=1) (rows:=strsR (l.map F)) (fun r hr=>by obtain⟨a,_,rfl⟩:=List.mem_map.1 hr;rfl) (strsC _).symm
  have eij:(strsR (l.map F)).length=l.length:=by unfold strsR;rw[List.length_map,hml]
  rw[eij]at hvj hkj
  simp only[Mem.conc,Env.conc,Bk.conc,Cv.conc,V.conc,W.conc,List.map_cons,List.map_nil,List.contains_cons,List.contains_nil,Nat.reduceBEq,Bool.or_false,Bool.or_true,cond_true,cond_false,concV (v_sC _),concV (v_iC _),concV (rowsC_isV _),hvj]
  have hjn:=joinH (H:=C2.hp) sj (l.map F) sep (by rw[hml];exact hkj) (by rw[hml];exact hl) hj
  rw[hml]at hjn
  refine CallW.h 130 l2 hjn (Hp.le.refl _) rfl (fun C3 l3 k3=>?_)
  refine vv ?_
  exact RetQ.of (hR C3 l3) rfl ⟨rfl,trivial⟩ rfl (Sub.nil _) ClM.nil (ClV.of rfl)
theorem join_ma {H:Hp}(s:Sv)(l:List MpL)(hs:SlH H (vsl s l.length) 4 (l.map MpL.r))(hl:l.length≤100000)(sep:Str)(g:FuncId)(F:MpL→Str)(hg:∀x,x∈l→CallH H Tryz.prog g [rowV x.r] (S (F x)))(hj:(Lib.join (l.map F) sep).length≤140737488355328):
  CallH H Tryz.prog 133 [.c (.v (vsl s l.length)),S sep,Fv g #[]] (S (Lib.join (l.map F) sep)):=by
 have hml:(l.map F).length=l.length:=List.length_map _
 refine CallH.mkS Tryz.func133 rfl en133 (by simp[Tryz.ntmps133]) (ClA.of rfl) fun C hR hP hH hL=>?_
 refine Sm.bringR 1 115 0 (hs.mono hH) rfl rfl ?_
 have n1:(l.map MpL.r).length=l.length:=List.length_map _
 rw[n1]
 refine Sm.go 100 ?_
 refine vv ?_
 refine⟨⟨by omega,by omega,by omega⟩,?_⟩
 rw[wF_0 F]
 refine Sm.loopM (M0:=[]) (α:={i:Nat//i≤l.length}) hP (fun i=>[(1,true,S sep),(2,true,Fv g #[]),(7,true,.c (.sl 5 0 l.length 1)),(13,true,.c (.sl 2 0 l.length 4)),(14,true,I l.length),(15,true,I i.val)])
  (fun i=>[(2,⟨true,rowsC (l.map MpL.r),115⟩),(5,⟨false,(wF F l i.val).map sC,9⟩)]) (fun i=>l.length-i.val) ⟨0,by omega⟩ (fun i=>ClM.of (by simp only[List.all_cons,inMV (rowsC_isV _),inMV (v_iC _),inMV (v_sC _)];rfl)) (fun _=>ClE.of rfl) [(2,1),(5,100)] ?_ ?_
 ·exact⟨rfl,trivial,⟨rfl,rfl,rfl,rfl,rfl,rfl,trivial⟩,⟨oV (renV (rowsC_isV _)),oV (renV (v_sC _)),trivial⟩⟩
 rintro⟨i,hi⟩ J hb
 simp only at hb hi⊢
 refine Sm.go 110 ?_
 refine vv ?_
 refine mtch (fun hc=>?_) (fun hc=>?_)
 ·have hc:=lt_of_dec hc
  have hwl:((wF F l i).map sC).length=l.length:=by rw[List.length_map,wF_len F l i hi]
  have hgx:=hg _ (List.getElem_mem hc)
  have hws:=wF_set F l i hc
  have ga:=rows_take (r:=MpL.r) (k:=4) (fun _=>rfl) l i hc
  have za:=rows_len (r:=MpL.r) (k:=4) (fun _=>rfl) l
  generalize l[i]=x at*
  simp(maxSteps:=2000000) only[go_sem,ga,za]
  refine⟨⟨by omega,by omega⟩,by omega,?_⟩
  refine CallQ.h 120 hgx hH rfl ?_
  simp(maxSteps:=2000000) only[go_sem,hwl,hws,wS (show i≤1000000000000000000 by omega)]
  refine⟨⟨by omega,by omega⟩,by omega,?_⟩
  exact hb _ _ ⟨i+1,hc⟩ [(2,2),(5,5)] (by simp only;omega) ⟨rfl,trivial,⟨rfl,rfl,rfl,rfl,rfl,rfl,trivial⟩,⟨oV (renV (rowsC_isV _)),oV (renV (v_sC _)),trivial⟩⟩
 ·have hc:=eq_of_dec hi hc
  subst hc
  rw[wF_all]
  clear hb
  refine vv ?_
  refine CallQ.letgo (xs:=[_,_]) (M0:=[]) [5] hL hP rfl (by unfold concOk;simp only[List.all_cons,cokV (v_sC _),cokV (v_iC _),cokV (rowsC_isV _)];rfl) rfl en21 rfl rfl (fun β C2 l2 k2 kn=>?_)
  obtain⟨sj,hvj,hkj⟩:=(kn 5 _ rfl rfl rfl).vslx (sz:=1) (rows:=strsR (l.map F)) (fun r hr=>by obtain⟨a,_,rfl⟩:=List.mem_map.1 hr;rfl) (strsC _).symm
  have eij:(strsR (l.map F)).length=l.length:=by unfold strsR;rw[List.length_map,hml]
  rw[eij]at hvj hkj
  simp only[Mem.conc,Env.conc,Bk.conc,Cv.conc,V.conc,W.conc,List.map_cons,List.map_nil,List.contains_cons,List.contains_nil,Nat.reduceBEq,Bool.or_false,Bool.or_true,cond_true,cond_false,concV (v_sC _),concV (v_iC _),concV (rowsC_isV _),hvj]
  have hjn:=joinH (H:=C2.hp) sj (l.map F) sep (by rw[hml];exact hkj) (by rw[hml];exact hl) hj
  rw[hml]at hjn
  refine CallW.h 130 l2 hjn (Hp.le.refl _) rfl (fun C3 l3 k3=>?_)
  refine vv ?_
  exact RetQ.of (hR C3 l3) rfl ⟨rfl,trivial⟩ rfl (Sub.nil _) ClM.nil (ClV.of rfl)
theorem join_po {H:Hp}(s:Sv)(l:List Po)(hs:SlH H (vsl s l.length) 4 (l.map Po.r))(hl:l.length≤100000)(sep:Str)(g:FuncId)(F:Po→Str)(hg:∀x,x∈l→CallH H Tryz.prog g [rowV x.r] (S (F x)))(hj:(Lib.join (l.map F) sep).length≤140737488355328):
  CallH H Tryz.prog 135 [.c (.v (vsl s l.length)),S sep,Fv g #[]] (S (Lib.join (l.map F) sep)):=by
 have hml:(l.map F).length=l.length:=List.length_map _
 refine CallH.mkS Tryz.func135 rfl en135 (by simp[Tryz.ntmps135]) (ClA.of rfl) fun C hR hP hH hL=>?_
 refine Sm.bringR 1 118 0 (hs.mono hH) rfl rfl ?_
 have n1:(l.map Po.r).length=l.length:=List.length_map _
 rw[n1]
 refine Sm.go 100 ?_
 refine vv ?_
 refine⟨⟨by omega,by omega,by omega⟩,?_⟩
 rw[wF_0 F]
 refine Sm.loopM (M0:=[]) (α:={i:Nat//i≤l.length}) hP (fun i=>[(1,true,S sep),(2,true,Fv g #[]),(7,true,.c (.sl 5 0 l.length 1)),(13,true,.c (.sl 2 0 l.length 4)),(14,true,I l.length),(15,true,I i.val)])
  (fun i=>[(2,⟨true,rowsC (l.map Po.r),118⟩),(5,⟨false,(wF F l i.val).map sC,9⟩)]) (fun i=>l.length-i.val) ⟨0,by omega⟩ (fun i=>ClM.of (by simp only[List.all_cons,inMV (rowsC_isV _),inMV (v_iC _),inMV (v_sC _)];rfl)) (fun _=>ClE.of rfl) [(2,1),(5,100)] ?_ ?_
 ·exact⟨rfl,trivial,⟨rfl,rfl,rfl,rfl,rfl,rfl,trivial⟩,⟨oV (renV (rowsC_isV _)),oV (renV (v_sC _)),trivial⟩⟩
 rintro⟨i,hi⟩ J hb
 simp only at hb hi⊢
 refine Sm.go 110 ?_
 refine vv ?_
 refine mtch (fun hc=>?_) (fun hc=>?_)
 ·have hc:=lt_of_dec hc
  have hwl:((wF F l i).map sC).length=l.length:=by rw[List.length_map,wF_len F l i hi]
  have hgx:=hg _ (List.getElem_mem hc)
  have hws:=wF_set F l i hc
  have ga:=rows_take (r:=Po.r) (k:=4) (fun _=>rfl) l i hc
  have za:=rows_len (r:=Po.r) (k:=4) (fun _=>rfl) l
  generalize l[i]=x at*
  simp(maxSteps:=2000000) only[go_sem,ga,za]
  refine⟨⟨by omega,by omega⟩,by omega,?_⟩
  refine CallQ.h 120 hgx hH rfl ?_
  simp(maxSteps:=2000000) only[go_sem,hwl,hws,wS (show i≤1000000000000000000 by omega)]
  refine⟨⟨by omega,by omega⟩,by omega,?_⟩
  exact hb _ _ ⟨i+1,hc⟩ [(2,2),(5,5)] (by simp only;omega) ⟨rfl,trivial,⟨rfl,rfl,rfl,rfl,rfl,rfl,trivial⟩,⟨oV (renV (rowsC_isV _)),oV (renV (v_sC _)),trivial⟩⟩
 ·have hc:=eq_of_dec hi hc
  subst hc
  rw[wF_all]
  clear hb
  refine vv ?_
  refine CallQ.letgo (xs:=[_,_]) (M0:=[]) [5] hL hP rfl (by unfold concOk;simp only[List.all_cons,cokV (v_sC _),cokV (v_iC _),cokV (rowsC_isV _)];rfl) rfl en21 rfl rfl (fun β C2 l2 k2 kn=>?_)
  obtain⟨sj,hvj,hkj⟩:=(kn 5 _ rfl rfl rfl).vslx (sz:=1) (rows:=strsR (l.map F)) (fun r hr=>by obtain⟨a,_,rfl⟩:=List.mem_map.1 hr;rfl) (strsC _).symm
  have eij:(strsR (l.map F)).length=l.length:=by unfold strsR;rw[List.length_map,hml]
  rw[eij]at hvj hkj
  simp only[Mem.conc,Env.conc,Bk.conc,Cv.conc,V.conc,W.conc,List.map_cons,List.map_nil,List.contains_cons,List.contains_nil,Nat.reduceBEq,Bool.or_false,Bool.or_true,cond_true,cond_false,concV (v_sC _),concV (v_iC _),concV (rowsC_isV _),hvj]
  have hjn:=joinH (H:=C2.hp) sj (l.map F) sep (by rw[hml];exact hkj) (by rw[hml];exact hl) hj
  rw[hml]at hjn
  refine CallW.h 130 l2 hjn (Hp.le.refl _) rfl (fun C3 l3 k3=>?_)
  refine vv ?_
  exact RetQ.of (hR C3 l3) rfl ⟨rfl,trivial⟩ rfl (Sub.nil _) ClM.nil (ClV.of rfl)
theorem join_bl {H:Hp}(s:Sv)(l:List BlL)(hs:SlH H (vsl s l.length) 6 (l.map BlL.r))(hl:l.length≤100000)(sep:Str)(g:FuncId)(F:BlL→Str)(hg:∀x,x∈l→CallH H Tryz.prog g [rowV x.r] (S (F x)))(hj:(Lib.join (l.map F) sep).length≤140737488355328):
  CallH H Tryz.prog 138 [.c (.v (vsl s l.length)),S sep,Fv g #[]] (S (Lib.join (l.map F) sep)):=by
 have hml:(l.map F).length=l.length:=List.length_map _
 refine CallH.mkS Tryz.func138 rfl en138 (by simp[Tryz.ntmps138]) (ClA.of rfl) fun C hR hP hH hL=>?_
 refine Sm.bringR 1 82 0 (hs.mono hH) rfl rfl ?_
 have n1:(l.map BlL.r).length=l.length:=List.length_map _
 rw[n1]
 refine Sm.go 100 ?_
 refine vv ?_
 refine⟨⟨by omega,by omega,by omega⟩,?_⟩
 rw[wF_0 F]
 refine Sm.loopM (M0:=[]) (α:={i:Nat//i≤l.length}) hP (fun i=>[(1,true,S sep),(2,true,Fv g #[]),(7,true,.c (.sl 5 0 l.length 1)),(13,true,.c (.sl 2 0 l.length 6)),(14,true,I l.length),(15,true,I i.val)])
  (fun i=>[(2,⟨true,rowsC (l.map BlL.r),82⟩),(5,⟨false,(wF F l i.val).map sC,9⟩)]) (fun i=>l.length-i.val) ⟨0,by omega⟩ (fun i=>ClM.of (by simp only[List.all_cons,inMV (rowsC_isV _),inMV (v_iC _),inMV (v_sC _)];rfl)) (fun _=>ClE.of rfl) [(2,1),(5,100)] ?_ ?_
 ·exact⟨rfl,trivial,⟨rfl,rfl,rfl,rfl,rfl,rfl,trivial⟩,⟨oV (renV (rowsC_isV _)),oV (renV (v_sC _)),trivial⟩⟩
 rintro⟨i,hi⟩ J hb
 simp only at hb hi⊢
 refine Sm.go 110 ?_
 refine vv ?_
 refine mtch (fun hc=>?_) (fun hc=>?_)
 ·have hc:=lt_of_dec hc
  have hwl:((wF F l i).map sC).length=l.length:=by rw[List.length_map,wF_len F l i hi]
  have hgx:=hg _ (List.getElem_mem hc)
  have hws:=wF_set F l i hc
  have ga:=rows_take (r:=BlL.r) (k:=6) (fun _=>rfl) l i hc
  have za:=rows_len (r:=BlL.r) (k:=6) (fun _=>rfl) l
  generalize l[i]=x at*
  simp(maxSteps:=2000000) only[go_sem,ga,za]
  refine⟨⟨by omega,by omega⟩,by omega,?_⟩
  refine CallQ.h 120 hgx hH rfl ?_
  simp(maxSteps:=2000000) only[go_sem,hwl,hws,wS (show i≤1000000000000000000 by omega)]
  refine⟨⟨by omega,by omega⟩,by omega,?_⟩
  exact hb _ _ ⟨i+1,hc⟩ [(2,2),(5,5)] (by simp only;omega) ⟨rfl,trivial,⟨rfl,rfl,rfl,rfl,rfl,rfl,trivial⟩,⟨oV (renV (rowsC_isV _)),oV (renV (v_sC _)),trivial⟩⟩
 ·have hc:=eq_of_dec hi hc
  subst hc
  rw[wF_all]
  clear hb
  refine vv ?_
  refine CallQ.letgo (xs:=[_,_]) (M0:=[]) [5] hL hP rfl (by unfold concOk;simp only[List.all_cons,cokV (v_sC _),cokV (v_iC _),cokV (rowsC_isV _)];rfl) rfl en21 rfl rfl (fun β C2 l2 k2 kn=>?_)
  obtain⟨sj,hvj,hkj⟩:=(kn 5 _ rfl rfl rfl).vslx (sz:=1) (rows:=strsR (l.map F)) (fun r hr=>by obtain⟨a,_,rfl⟩:=List.mem_map.1 hr;rfl) (strsC _).symm
  have eij:(strsR (l.map F)).length=l.length:=by unfold strsR;rw[List.length_map,hml]
  rw[eij]at hvj hkj
  simp only[Mem.conc,Env.conc,Bk.conc,Cv.conc,V.conc,W.conc,List.map_cons,List.map_nil,List.contains_cons,List.contains_nil,Nat.reduceBEq,Bool.or_false,Bool.or_true,cond_true,cond_false,concV (v_sC _),concV (v_iC _),concV (rowsC_isV _),hvj]
  have hjn:=joinH (H:=C2.hp) sj (l.map F) sep (by rw[hml];exact hkj) (by rw[hml];exact hl) hj
  rw[hml]at hjn
  refine CallW.h 130 l2 hjn (Hp.le.refl _) rfl (fun C3 l3 k3=>?_)
  refine vv ?_
  exact RetQ.of (hR C3 l3) rfl ⟨rfl,trivial⟩ rfl (Sub.nil _) ClM.nil (ClV.of rfl)
theorem join_st {H:Hp}(s:Sv)(l:List Str)(hs:SlH H (vsl s l.length) 1 (strsR l))(hl:l.length≤100000)(sep:Str)(g:FuncId)(F:Str→Str)(hg:∀x,x∈l→CallH H Tryz.prog g [S x] (S (F x)))(hj:(Lib.join (l.map F) sep).length≤140737488355328):
  CallH H Tryz.prog 140 [.c (.v (vsl s l.length)),S sep,Fv g #[]] (S (Lib.join (l.map F) sep)):=by
 have hml:(l.map F).length=l.length:=List.length_map _
 refine CallH.mkS Tryz.func140 rfl en140 (by simp[Tryz.ntmps140]) (ClA.of rfl) fun C hR hP hH hL=>?_
 refine Sm.bringS 1 9 0 (hs.mono hH) rfl rfl ?_
 refine Sm.go 100 ?_
 refine vv ?_
 refine⟨⟨by omega,by omega,by omega⟩,?_⟩
 rw[wF_0 F]
 refine Sm.loopM (M0:=[]) (α:={i:Nat//i≤l.length}) hP (fun i=>[(1,true,S sep),(2,true,Fv g #[]),(7,true,.c (.sl 5 0 l.length 1)),(13,true,.c (.sl 2 0 l.length 1)),(14,true,I l.length),(15,true,I i.val)])
  (fun i=>[(2,⟨true,l.map sC,9⟩),(5,⟨false,(wF F l i.val).map sC,9⟩)]) (fun i=>l.length-i.val) ⟨0,by omega⟩ (fun i=>ClM.of (by simp only[List.all_cons,inMV (rowsC_isV _),inMV (v_iC _),inMV (v_sC _)];rfl)) (fun _=>ClE.of rfl) [(2,1),(5,100)] ?_ ?_
 ·exact⟨rfl,trivial,⟨rfl,rfl,rfl,rfl,rfl,rfl,trivial⟩,⟨oV (renV (v_sC _)),oV (renV (v_sC _)),trivial⟩⟩
 rintro⟨i,hi⟩ J hb
 simp only at hb hi⊢
 refine Sm.go 110 ?_
 refine vv ?_
 refine mtch (fun hc=>?_) (fun hc=>?_)
 ·have hc:=lt_of_dec hc
  have hwl:((wF F l i).map sC).length=l.length:=by rw[List.length_map,wF_len F l i hi]
  have hgx:=hg _ (List.getElem_mem hc)
  have hws:=wF_set F l i hc
  have ga:=get_sC hc
  generalize l[i]=x at*
  simp(maxSteps:=2000000) only[go_sem,ga]
  refine⟨⟨by omega,by omega⟩,?_⟩
  refine CallQ.h 120 hgx hH rfl ?_
  simp(maxSteps:=2000000) only[go_sem,hwl,hws,wS (show i≤1000000000000000000 by omega)]
  refine⟨⟨by omega,by omega⟩,by omega,?_⟩
  exact hb _ _ ⟨i+1,hc⟩ [(2,2),(5,5)] (by simp only;omega) ⟨rfl,trivial,⟨rfl,rfl,rfl,rfl,rfl,rfl,trivial⟩,⟨oV (renV (v_sC _)),oV (renV (v_sC _)),trivial⟩⟩
 ·have hc:=eq_of_dec hi hc
  subst hc
  rw[wF_all]
  clear hb
  refine vv ?_
  refine CallQ.letgo (xs:=[_,_]) (M0:=[]) [5] hL hP rfl (by unfold concOk;simp only[List.all_cons,cokV (v_sC _),cokV (v_iC _),cokV (rowsC_isV _)];rfl) rfl en21 rfl rfl (fun β C2 l2 k2 kn=>?_)
  obtain⟨sj,hvj,hkj⟩:=(kn 5 _ rfl rfl rfl).vslx (sz:=1) (rows:=strsR (l.map F)) (fun r hr=>by obtain⟨a,_,rfl⟩:=List.mem_map.1 hr;rfl) (strsC _).symm
  have eij:(strsR (l.map F)).length=l.length:=by unfold strsR;rw[List.length_map,hml]
  rw[eij]at hvj hkj
  simp only[Mem.conc,Env.conc,Bk.conc,Cv.conc,V.conc,W.conc,List.map_cons,List.map_nil,List.contains_cons,List.contains_nil,Nat.reduceBEq,Bool.or_false,Bool.or_true,cond_true,cond_false,concV (v_sC _),concV (v_iC _),concV (rowsC_isV _),hvj]
  have hjn:=joinH (H:=C2.hp) sj (l.map F) sep (by rw[hml];exact hkj) (by rw[hml];exact hl) hj
  rw[hml]at hjn
  refine CallW.h 130 l2 hjn (Hp.le.refl _) rfl (fun C3 l3 k3=>?_)
  refine vv ?_
  exact RetQ.of (hR C3 l3) rfl ⟨rfl,trivial⟩ rfl (Sub.nil _) ClM.nil (ClV.of rfl)
theorem join_in {H:Hp}(s:Sv)(l:List Int)(hs:SlH H (vsl s l.length) 1 (intsR l))(hl:l.length≤100000)(sep:Str)(g:FuncId)(F:Int→Str)(hg:∀x,x∈l→CallH H Tryz.prog g [I x] (S (F x)))(hj:(Lib.join (l.map F) sep).length≤140737488355328):
  CallH H Tryz.prog 225 [.c (.v (vsl s l.length)),S sep,Fv g #[]] (S (Lib.join (l.map F) sep)):=by
 have hml:(l.map F).length=l.length:=List.length_map _
 refine CallH.mkS Tryz.func225 rfl en225 (by simp[Tryz.ntmps225]) (ClA.of rfl) fun C hR hP hH hL=>?_
 refine Sm.bringI 1 3 0 (hs.mono hH) rfl rfl ?_
 refine Sm.go 100 ?_
 refine vv ?_
 refine⟨⟨by omega,by omega,by omega⟩,?_⟩
 rw[wF_0 F]
 refine Sm.loopM (M0:=[]) (α:={i:Nat//i≤l.length}) hP (fun i=>[(1,true,S sep),(2,true,Fv g #[]),(7,true,.c (.sl 5 0 l.length 1)),(13,true,.c (.sl 2 0 l.length 1)),(14,true,I l.length),(15,true,I i.val)])
  (fun i=>[(2,⟨true,l.map iC,3⟩),(5,⟨false,(wF F l i.val).map sC,9⟩)]) (fun i=>l.length-i.val) ⟨0,by omega⟩ (fun i=>ClM.of (by simp only[List.all_cons,inMV (rowsC_isV _),inMV (v_iC _),inMV (v_sC _)];rfl)) (fun _=>ClE.of rfl) [(2,1),(5,100)] ?_ ?_
 ·exact⟨rfl,trivial,⟨rfl,rfl,rfl,rfl,rfl,rfl,trivial⟩,⟨oV (renV (v_iC _)),oV (renV (v_sC _)),trivial⟩⟩
 rintro⟨i,hi⟩ J hb
 simp only at hb hi⊢
 refine Sm.go 110 ?_
 refine vv ?_
 refine mtch (fun hc=>?_) (fun hc=>?_)
 ·have hc:=lt_of_dec hc
  have hwl:((wF F l i).map sC).length=l.length:=by rw[List.length_map,wF_len F l i hi]
  have hgx:=hg _ (List.getElem_mem hc)
  have hws:=wF_set F l i hc
  have ga:=get_iC hc
  generalize l[i]=x at*
  simp(maxSteps:=2000000) only[go_sem,ga]
  refine⟨⟨by omega,by omega⟩,?_⟩
  refine CallQ.h 120 hgx hH rfl ?_
  simp(maxSteps:=2000000) only[go_sem,hwl,hws,wS (show i≤1000000000000000000 by omega)]
  refine⟨⟨by omega,by omega⟩,by omega,?_⟩
  exact hb _ _ ⟨i+1,hc⟩ [(2,2),(5,5)] (by simp only;omega) ⟨rfl,trivial,⟨rfl,rfl,rfl,rfl,rfl,rfl,trivial⟩,⟨oV (renV (v_iC _)),oV (renV (v_sC _)),trivial⟩⟩
 ·have hc:=eq_of_dec hi hc
  subst hc
  rw[wF_all]
  clear hb
  refine vv ?_
  refine CallQ.letgo (xs:=[_,_]) (M0:=[]) [5] hL hP rfl (by unfold concOk;simp only[List.all_cons,cokV (v_sC _),cokV (v_iC _),cokV (rowsC_isV _)];rfl) rfl en21 rfl rfl (fun β C2 l2 k2 kn=>?_)
  obtain⟨sj,hvj,hkj⟩:=(kn 5 _ rfl rfl rfl).vslx (sz:=1) (rows:=strsR (l.map F)) (fun r hr=>by obtain⟨a,_,rfl⟩:=List.mem_map.1 hr;rfl) (strsC _).symm
  have eij:(strsR (l.map F)).length=l.length:=by unfold strsR;rw[List.length_map,hml]
  rw[eij]at hvj hkj
  simp only[Mem.conc,Env.conc,Bk.conc,Cv.conc,V.conc,W.conc,List.map_cons,List.map_nil,List.contains_cons,List.contains_nil,Nat.reduceBEq,Bool.or_false,Bool.or_true,cond_true,cond_false,concV (v_sC _),concV (v_iC _),concV (rowsC_isV _),hvj]
  have hjn:=joinH (H:=C2.hp) sj (l.map F) sep (by rw[hml];exact hkj) (by rw[hml];exact hl) hj
  rw[hml]at hjn
  refine CallW.h 130 l2 hjn (Hp.le.refl _) rfl (fun C3 l3 k3=>?_)
  refine vv ?_
  exact RetQ.of (hR C3 l3) rfl ⟨rfl,trivial⟩ rfl (Sub.nil _) ClM.nil (ClV.of rfl)
theorem join_zz {H:Hp}(s:Sv)(l:List Zv)(hs:SlH H (vsl s l.length) 1 (l.map zR))(hl:l.length≤100000)(sep:Str)(g:FuncId)(F:Zv→Str)(hg:∀x,x∈l→CallH H Tryz.prog g [.c (.v (vsl x.1 x.2.length))] (S (F x)))(hj:(Lib.join (l.map F) sep).length≤140737488355328):
  CallH H Tryz.prog 224 [.c (.v (vsl s l.length)),S sep,Fv g #[]] (S (Lib.join (l.map F) sep)):=by
 have hml:(l.map F).length=l.length:=List.length_map _
 refine CallH.mkS Tryz.func224 rfl en224 (by simp[Tryz.ntmps224]) (ClA.of rfl) fun C hR hP hH hL=>?_
 refine Sm.bringR 1 73 0 (hs.mono hH) rfl rfl ?_
 have n1:(l.map zR).length=l.length:=List.length_map _
 rw[n1]
 refine Sm.go 100 ?_
 refine vv ?_
 refine⟨⟨by omega,by omega,by omega⟩,?_⟩
 rw[wF_0 F]
 refine Sm.loopM (M0:=[]) (α:={i:Nat//i≤l.length}) hP (fun i=>[(1,true,S sep),(2,true,Fv g #[]),(7,true,.c (.sl 5 0 l.length 1)),(13,true,.c (.sl 2 0 l.length 1)),(14,true,I l.length),(15,true,I i.val)])
  (fun i=>[(2,⟨true,rowsC (l.map zR),73⟩),(5,⟨false,(wF F l i.val).map sC,9⟩)]) (fun i=>l.length-i.val) ⟨0,by omega⟩ (fun i=>ClM.of (by simp only[List.all_cons,inMV (rowsC_isV _),inMV (v_iC _),inMV (v_sC _)];rfl)) (fun _=>ClE.of rfl) [(2,1),(5,100)] ?_ ?_
 ·exact⟨rfl,trivial,⟨rfl,rfl,rfl,rfl,rfl,rfl,trivial⟩,⟨oV (renV (rowsC_isV _)),oV (renV (v_sC _)),trivial⟩⟩
 rintro⟨i,hi⟩ J hb
 simp only at hb hi⊢
 refine Sm.go 110 ?_
 refine vv ?_
 refine mtch (fun hc=>?_) (fun hc=>?_)
 ·have hc:=lt_of_dec hc
  have hwl:((wF F l i).map sC).length=l.length:=by rw[List.length_map,wF_len F l i hi]
  have hgx:=hg _ (List.getElem_mem hc)
  have hws:=wF_set F l i hc
  have ga:=zR_at l i hc
  generalize l[i]=x at*
  simp(maxSteps:=2000000) only[go_sem,ga]
  refine⟨⟨by omega,by omega⟩,?_⟩
  refine CallQ.h 120 hgx hH rfl ?_
  simp(maxSteps:=2000000) only[go_sem,hwl,hws,wS (show i≤1000000000000000000 by omega)]
  refine⟨⟨by omega,by omega⟩,by omega,?_⟩
  exact hb _ _ ⟨i+1,hc⟩ [(2,2),(5,5)] (by simp only;omega) ⟨rfl,trivial,⟨rfl,rfl,rfl,rfl,rfl,rfl,trivial⟩,⟨oV (renV (rowsC_isV _)),oV (renV (v_sC _)),trivial⟩⟩
 ·have hc:=eq_of_dec hi hc
  subst hc
  rw[wF_all]
  clear hb
  refine vv ?_
  refine CallQ.letgo (xs:=[_,_]) (M0:=[]) [5] hL hP rfl (by unfold concOk;simp only[List.all_cons,cokV (v_sC _),cokV (v_iC _),cokV (rowsC_isV _)];rfl) rfl en21 rfl rfl (fun β C2 l2 k2 kn=>?_)
  obtain⟨sj,hvj,hkj⟩:=(kn 5 _ rfl rfl rfl).vslx (sz:=1) (rows:=strsR (l.map F)) (fun r hr=>by obtain⟨a,_,rfl⟩:=List.mem_map.1 hr;rfl) (strsC _).symm
  have eij:(strsR (l.map F)).length=l.length:=by unfold strsR;rw[List.length_map,hml]
  rw[eij]at hvj hkj
  simp only[Mem.conc,Env.conc,Bk.conc,Cv.conc,V.conc,W.conc,List.map_cons,List.map_nil,List.contains_cons,List.contains_nil,Nat.reduceBEq,Bool.or_false,Bool.or_true,cond_true,cond_false,concV (v_sC _),concV (v_iC _),concV (rowsC_isV _),hvj]
  have hjn:=joinH (H:=C2.hp) sj (l.map F) sep (by rw[hml];exact hkj) (by rw[hml];exact hl) hj
  rw[hml]at hjn
  refine CallW.h 130 l2 hjn (Hp.le.refl _) rfl (fun C3 l3 k3=>?_)
  refine vv ?_
  exact RetQ.of (hR C3 l3) rfl ⟨rfl,trivial⟩ rfl (Sub.nil _) ClM.nil (ClV.of rfl)
end Go.Proofs.YtlnpgbnhcondjaaGreatDoor.Fx
