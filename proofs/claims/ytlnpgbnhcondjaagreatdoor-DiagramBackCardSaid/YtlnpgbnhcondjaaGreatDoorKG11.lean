/-  -/
import Derived.Test.YtlnpgbnhcondjaaGreatDoorTf
import Derived.Test.YtlnpgbnhcondjaaGreatDoorPI
import Derived.Test.YtlnpgbnhcondjaaGreatDoorYU
import Derived.Test.YtlnpgbnhcondjaaGreatDoorQ3
import Derived.Test.YtlnpgbnhcondjaaGreatDoorY5
import Derived.Test.YtlnpgbnhcondjaaGreatDoorZP
import Derived.Test.YtlnpgbnhcondjaaGreatDoorYV
import Derived.Test.YtlnpgbnhcondjaaGreatDoorYE
import Derived.Test.YtlnpgbnhcondjaaGreatDoorYY
import Derived.Test.YtlnpgbnhcondjaaGreatDoorRQ
import Derived.Test.YtlnpgbnhcondjaaGreatDoorPO
import Derived.Test.YtlnpgbnhcondjaaGreatDoorMB
import Derived.Test.YtlnpgbnhcondjaaGreatDoorRows
import Derived.Test.YtlnpgbnhcondjaaGreatDoorY9
import Derived.LaidMore
import Derived.LaidSub
import Derived.LaidLaws
import Derived.Lib.LaidTab
import Derived.Lay
import Derived.Test.YtlnpgbnhcondjaaGreatDoorYC
import Derived.Test.YtlnpgbnhcondjaaGreatDoorQ7
import Derived.SevenTiedAt
import Derived.Stop.Joined
namespace Go.Proofs.YtlnpgbnhcondjaaGreatDoor.Fx
open Vg Tf
set_option linter.unusedSimpArgs false
set_option linter.unusedVariables false
set_option maxRecDepth 100000
set_option maxHeartbeats 4000000
end Go.Proofs.YtlnpgbnhcondjaaGreatDoor.Fx
namespace Go.Proofs.YtlnpgbnhcondjaaGreatDoor.Fx
set_option linter.unusedVariables false
set_option linter.unusedSimpArgs false
set_option linter.unusedSectionVars false
set_option maxRecDepth 10000
section
variable (U:List Tk)
end
def er (p:Ps):Int×Nat×Nat:=(p.e,p.l,p.c)
def TkG (t:Tk):Prop:=(t.k=4∧t.s=[])∨(TkV t.k t.s∧1≤t.k∧t.k≤3)
structure VT (U:List Tk):Prop where
 g:GTk U
 v:∀i,i<U.length→TkG (U.getD i tk0)
 n:U.length≤40000
section
variable {U:List Tk} (V:VT U)
include V in
include V in
include V in
include V in
include V in
include V
end
section
variable {U:List Tk} (V:VT U)
include V
end
open Vg Tf
set_option maxRecDepth 100000
set_option maxHeartbeats 4000000
@[reducible,go_sem] def rsC (U:List Tk)(p:Ps):List Cv:=[.sl 2 0 U.length 4,nC p.at_,nC p.l,nC p.c,.v (.int .i64 p.e)]
@[reducible,go_sem] def rM (U:List Tk)(p:Ps):Mem:=[(1,⟨false,rsC U p,124⟩),(2,⟨true,rowsC (U.map Tk.r),57⟩)]
open Vg Tf
set_option maxRecDepth 100000
set_option maxHeartbeats 4000000
section
variable {U:List Tk}
end
open Vg Tf
set_option maxRecDepth 100000
set_option maxHeartbeats 4000000
open Vg Tf
set_option maxRecDepth 100000
set_option maxHeartbeats 4000000
end Go.Proofs.YtlnpgbnhcondjaaGreatDoor.Fx
namespace Go.Proofs.YtlnpgbnhcondjaaGreatDoor
namespace Vg
open Go.RowKit
set_option linter.unusedVariables false
set_option maxHeartbeats 1000000
structure Tg (P:Program) (S:Bs) (w0:World) (rg:Array Oper) (e0:Env) (M0 Mf:Mem) (k:Nat) (F:Nat→Bool) where
 E:Nat→Env
 MM:Nat→Mem
 G:Nat→Bool
 W:Nat→V
 N:Nat→Mem
 X:Nat→List Nat
 e0:E 0=e0
 m0:MM 0=Mf
 sub:∀n b,M0.get n=some b→Mf.get n=some b
 step:∀i,i<k→∃o Ms,rg[i]?=some o∧gd rg (E i) o=some (G i)∧E (i+1)=(E i).put o.dst (G i) (W i)∧MM (i+1)=N i++MM i∧(G i=true→F i=false→StpC P S w0 o (E i) Ms (W i) (N i))∧(G i=true∨N i=[])∧
  (F i=false→∀n b,Ms.get n=some b→M0.get n=some b∨((((N i).get n).isSome=true∨n∈X i)∧(MM i).get n=some b))∧(∀n,((N i).get n).isSome=true→M0.get n=none∧(F i=false→((Ms.get n).isSome=true∨(MM i).get n=none))∧∀i',i'<i→(((N i').get n).isSome=true∨n∈X i')→Anc rg i i' o)∧(∀n,n∈X i→∀i',i'<i→((N i').get n).isSome=true→Anc rg i i' o)
section
variable {P:Program} {S:Bs} {w0:World} {rg:Array Oper} {e0:Env} {M0 Mf:Mem} {k:Nat} {F:Nat→Bool} {df:List Deferred} {lp:Option Nat}
def Tg.env (T:Tg P S w0 rg e0 M0 Mf k F)(D:Nat→Bool):Nat→Env
 |0=>e0
 |j+1=>match rg[j]? with
  |some o=>if D j then(T.env D j).put o.dst (T.G j) (T.W j)else T.env D j
  |none=>T.env D j
def Tg.mem (T:Tg P S w0 rg e0 M0 Mf k F)(D:Nat→Bool):Nat→Mem
 |0=>Mf
 |j+1=>(if D j then T.N j else[])++T.mem D j
def Tg.Inv (T:Tg P S w0 rg e0 M0 Mf k F)(S:Bs)(w0:World)(nt:Nat)(df:List Deferred)(D:Nat→Bool)(a:Act)(w:World):Prop:=
 ∃β,Rel S w0 β (T.mem D k) w∧EnvOk β (T.mem D k) (T.env D k) a∧a.tmps.size=nt∧a.defers=df
end
def runP (P:Program)(rg:Array Oper)(M0:Mem)(kont:Env→Nat→Prop):List Oper→Env→Nat→Prop
 |[],e,nx=>kont e nx
 |o::l,e,nx=>
  match gd rg e o with
  |some g=>
   match opE P e M0 nx o.dst.isNone o.op with
   |some (sc,v,N,nx')=>((g=true→sc)∧N=[])∧runP P rg M0 kont l (e.put o.dst g v) nx'
   |none=>False
  |none=>False
def runB (P:Program)(nt:Nat)(C:Cx)(rg:Array Oper)(r:List It)(l:List Oper)(ob:Oper)(e:Env)(M:Mem)(nx:Nat):Prop:=
 match opY P e [] nx ob.op with
 |some (sc,v,N,nx')=>(sc∧freshB N M=true)∧run P nt C 1000 (.ops rg l::r) (e.put ob.dst true v) (N++M) nx'
 |none=>False
def XQ (P:Program)(nt:Nat)(C:Cx)(rg:Array Oper)(r:List It)(M0:Mem)(oc ob:Oper)(l:List Oper)(f:FuncId)(vs:List (Option (Bool×V)))(e:Env)(Mf:Mem):Prop:=
 ∃(C0:Cx) (H:Hp) (α:Type) (v:α→V) (N:α→Mem) (Q:α→Hp→Prop) (M1:Mem) (xs:List V) (nx:Nat),vs=xs.map (fun x=>some (true,x))∧Lf C0 C∧CallX H P f xs M1 v N Q∧H.le C.hp∧Sub M1 Mf∧ClM M1∧(∀x,Fresh (N x) M1 Mf)∧(∀x,freshB (N x) M0=true)∧
  ∀x Cn H',Lf C0 Cn→C.hp.le Cn.hp→H'.le Cn.hp→Q x H'→runB P nt Cn rg r l ob (e.put oc.dst true (v x)) (N x++Mf) nx
def kontX (P:Program)(nt:Nat)(C:Cx)(rg:Array Oper)(r:List It)(M0 Mf:Mem)(L:List Oper)(e:Env):Prop:=
 match L with
 |oc::ob::l=>
  match callOf e oc.op with
  |some (g,f,vs)=>g=true∧XQ P nt C rg r M0 oc ob l f vs e Mf
  |none=>False
 |_=>False
attribute [go_sem] runP runB kontX freshB
end Vg
end Go.Proofs.YtlnpgbnhcondjaaGreatDoor
namespace Go.Proofs.YtlnpgbnhcondjaaGreatDoor.Fx
open Vg Tf
set_option linter.unusedSimpArgs false
set_option linter.unusedVariables false
set_option maxRecDepth 100000
set_option maxHeartbeats 4000000
end Go.Proofs.YtlnpgbnhcondjaaGreatDoor.Fx
namespace Go.Proofs.YtlnpgbnhcondjaaGreatDoor.Fx
set_option linter.unusedVariables false
set_option linter.unusedSimpArgs false
open Vg Tf
set_option maxRecDepth 100000
set_option maxHeartbeats 4000000
set_option maxHeartbeats 8000000
theorem ErR.up {H H':Hp}(k:ErR H)(h:H.le H'):ErR H':=by
 obtain⟨ev,el,mk,h1,h2⟩:=k
 exact⟨ev,el,mk,h _ _ h1,h2⟩
theorem back_ {H:Hp}(hE:ErR H)(hW:PwR H)(a:DgL)(oa:a.ok H)(sa:a.sm)(t:Str):CallH H Tryz.prog 11 [rowV a.r,S t] (Bo true):=by
 have f1:=few_ a oa sa
 have t1:=dtext_ hW a oa sa
 have v1:=dvalid (H:=H) a oa sa
 generalize fewB a=B1 at*
 refine CallH.mkS Tryz.func11 rfl en11 (by simp[Tryz.ntmps11]) (ClA.of rfl) fun C hR hP hH hL=>?_
 refine Sm.go 100 ?_
 refine vv ?_
 refine CallQ.h 110 (awake_ hE) hH rfl ?_
 refine vv ?_
 refine CallQ.h 120 f1 hH rfl ?_
 refine vv ?_
 refine mtch (fun hc=>?_) (fun hc=>?_)
 ·exact RetQ.bool (hR C hL) rfl ⟨rfl,trivial⟩ rfl
 have ht3:t.length≤3000:=by
  cases h:decide (3000<(t.length:Int))with
  |false=>have:=of_decide_eq_false h;omega
  |true=>
   rw[h]at hc
   revert hc
   cases B1<;>intro hc<;>cases hc
 cases hok:dgOk a.c with
 |false=>
  have hq:txQ a.c=([],1):=by unfold txQ;rw[hok];rfl
  rw[hq]at t1
  rw[hok]at v1
  refine CallQ.h 140 t1 hH rfl ?_
  refine vv ?_
  refine CallQ.h 150 v1 hH rfl ?_
  refine vv ?_
  refine CallQ.x 300 hL (dparse_ hE t (by omega)) hH (SubS.sub trivial) ClM.nil (fun _=>Fresh.of rfl) rfl rfl rfl (fun y C5 H5 l5 k5 j5 p5=>?_)
  have hcr5:y.r.map Cv.v=[.v (sv y.nm),.v (vsl y.ty y.tys.length),.v (vsl y.cu y.cus.length),.v (vsl y.ma y.mas.length),.v (vsl y.i y.ins.length),.v (vsl y.bl y.bls.length),.v (vsl y.ou y.ous.length)]:=rfl
  rw[hcr5]
  have hsy:=par_sm t p5.1
  have hoy:=p5.2.mono j5
  have k05:=Hp.le.trans hH k5
  by_cases he:(parD t).2.2=0
  ·rw[he]
   have hvy:dgOk y.c=true:=by rw[p5.1];exact par_valid t he
   have v5:=dvalid (H:=C5.hp) y hoy hsy.1
   rw[hvy]at v5
   have qt:=dtext_ (hW.up k05) y hoy hsy.1
   simp(maxSteps:=2000000) only[go_sem,beq_self_eq_true]
   by_cases hl:16384<(txtD y.c).length
   ·have hq:txQ y.c=([],5):=by unfold txQ;rw[hvy,decide_eq_true hl];rfl
    rw[hq]at qt
    refine CallQ.h 310 qt (Hp.le.refl _) rfl ?_
    refine vv ?_
    refine CallQ.h 320 v5 (Hp.le.refl _) rfl ?_
    refine vv ?_
    refine CallQ.h 330 v5 (Hp.le.refl _) rfl ?_
    refine vv ?_
    exact RetQ.bool (hR C5 l5) rfl ⟨rfl,trivial⟩ rfl
   ·have hq:txQ y.c=(txtD y.c,0):=by unfold txQ;rw[hvy,decide_eq_false hl];rfl
    have hpt:=par_txt hvy hl
    rw[hq]at qt
    refine CallQ.h 310 qt (Hp.le.refl _) rfl ?_
    refine vv ?_
    refine CallQ.h 320 v5 (Hp.le.refl _) rfl ?_
    refine vv ?_
    refine CallQ.x 340 l5 (dparse_ (hE.up k05) (txtD y.c) (by omega)) (Hp.le.refl _) (SubS.sub trivial) ClM.nil (fun _=>Fresh.of rfl) rfl rfl rfl (fun z C6 H6 l6 k6 j6 p6=>?_)
    have hcr6:z.r.map Cv.v=[.v (sv z.nm),.v (vsl z.ty z.tys.length),.v (vsl z.cu z.cus.length),.v (vsl z.ma z.mas.length),.v (vsl z.i z.ins.length),.v (vsl z.bl z.bls.length),.v (vsl z.ou z.ous.length)]:=rfl
    rw[hcr6]
    rw[hpt]at p6⊢
    have qs:=same_ (H:=C6.hp) y z (hoy.mono k6) (p6.2.mono j6) p6.1.symm (sm_ok (a:=z) (.inr (by rw[p6.1];exact hvy))).1 (sm_ok (a:=z) (.inr (by rw[p6.1];exact hvy))).2
    refine vv ?_
    refine CallQ.hg 350 (fun _=>qs) (Hp.le.refl _) (fun _=>rfl) ?_
    refine vv ?_
    exact RetQ.bool (hR C6 l6) rfl ⟨rfl,trivial⟩ rfl
  ·have hd:=par_d0 t he
   have hyc:y.c=d0:=by rw[p5.1,hd]
   have hnm:y.nm=[]:=congrArg Dg.nm hyc
   have hbl:y.bls.length=0:=by
    have:=congrArg (fun d=>d.bls.length) hyc
    simp only[DgL.c,List.length_map]at this
    exact this
   have hne:((parD t).2.2 !=0)=true:=bne_iff_ne.2 he
   rw[hnm,hbl]
   simp(maxSteps:=2000000) only[go_sem,hne,beq_self_eq_true]
   exact RetQ.bool (hR C5 l5) rfl ⟨rfl,trivial⟩ rfl
 |true=>
 by_cases hla:16384<(txtD a.c).length
 ·have hq:txQ a.c=([],5):=by unfold txQ;rw[hok,decide_eq_true hla];rfl
  rw[hq]at t1
  refine CallQ.h 140 t1 hH rfl ?_
  refine vv ?_
  refine CallQ.hg 150 (H:=H) (xs:=[rowV a.r]) (v:=Bo true) (fun h=>by cases h) hH (fun h=>by cases h) ?_
  refine vv ?_
  refine CallQ.x 300 hL (dparse_ hE t (by omega)) hH (SubS.sub trivial) ClM.nil (fun _=>Fresh.of rfl) rfl rfl rfl (fun y C5 H5 l5 k5 j5 p5=>?_)
  have hcr5:y.r.map Cv.v=[.v (sv y.nm),.v (vsl y.ty y.tys.length),.v (vsl y.cu y.cus.length),.v (vsl y.ma y.mas.length),.v (vsl y.i y.ins.length),.v (vsl y.bl y.bls.length),.v (vsl y.ou y.ous.length)]:=rfl
  rw[hcr5]
  have hsy:=par_sm t p5.1
  have hoy:=p5.2.mono j5
  have k05:=Hp.le.trans hH k5
  by_cases he:(parD t).2.2=0
  ·rw[he]
   have hvy:dgOk y.c=true:=by rw[p5.1];exact par_valid t he
   have v5:=dvalid (H:=C5.hp) y hoy hsy.1
   rw[hvy]at v5
   have qt:=dtext_ (hW.up k05) y hoy hsy.1
   simp(maxSteps:=2000000) only[go_sem,beq_self_eq_true]
   by_cases hl:16384<(txtD y.c).length
   ·have hq:txQ y.c=([],5):=by unfold txQ;rw[hvy,decide_eq_true hl];rfl
    rw[hq]at qt
    refine CallQ.h 310 qt (Hp.le.refl _) rfl ?_
    refine vv ?_
    refine CallQ.h 320 v5 (Hp.le.refl _) rfl ?_
    refine vv ?_
    refine CallQ.h 330 v5 (Hp.le.refl _) rfl ?_
    refine vv ?_
    exact RetQ.bool (hR C5 l5) rfl ⟨rfl,trivial⟩ rfl
   ·have hq:txQ y.c=(txtD y.c,0):=by unfold txQ;rw[hvy,decide_eq_false hl];rfl
    have hpt:=par_txt hvy hl
    rw[hq]at qt
    refine CallQ.h 310 qt (Hp.le.refl _) rfl ?_
    refine vv ?_
    refine CallQ.h 320 v5 (Hp.le.refl _) rfl ?_
    refine vv ?_
    refine CallQ.x 340 l5 (dparse_ (hE.up k05) (txtD y.c) (by omega)) (Hp.le.refl _) (SubS.sub trivial) ClM.nil (fun _=>Fresh.of rfl) rfl rfl rfl (fun z C6 H6 l6 k6 j6 p6=>?_)
    have hcr6:z.r.map Cv.v=[.v (sv z.nm),.v (vsl z.ty z.tys.length),.v (vsl z.cu z.cus.length),.v (vsl z.ma z.mas.length),.v (vsl z.i z.ins.length),.v (vsl z.bl z.bls.length),.v (vsl z.ou z.ous.length)]:=rfl
    rw[hcr6]
    rw[hpt]at p6⊢
    have qs:=same_ (H:=C6.hp) y z (hoy.mono k6) (p6.2.mono j6) p6.1.symm (sm_ok (a:=z) (.inr (by rw[p6.1];exact hvy))).1 (sm_ok (a:=z) (.inr (by rw[p6.1];exact hvy))).2
    refine vv ?_
    refine CallQ.hg 350 (fun _=>qs) (Hp.le.refl _) (fun _=>rfl) ?_
    refine vv ?_
    exact RetQ.bool (hR C6 l6) rfl ⟨rfl,trivial⟩ rfl
  ·have hd:=par_d0 t he
   have hyc:y.c=d0:=by rw[p5.1,hd]
   have hnm:y.nm=[]:=congrArg Dg.nm hyc
   have hbl:y.bls.length=0:=by
    have:=congrArg (fun d=>d.bls.length) hyc
    simp only[DgL.c,List.length_map]at this
    exact this
   have hne:((parD t).2.2 !=0)=true:=bne_iff_ne.2 he
   rw[hnm,hbl]
   simp(maxSteps:=2000000) only[go_sem,hne,beq_self_eq_true]
   exact RetQ.bool (hR C5 l5) rfl ⟨rfl,trivial⟩ rfl
 have hq:txQ a.c=(txtD a.c,0):=by unfold txQ;rw[hok,decide_eq_false hla];rfl
 have hpa:=par_txt hok hla
 rw[hq]at t1
 refine CallQ.h 140 t1 hH rfl ?_
 refine vv ?_
 refine CallQ.x 160 hL (dparse_ hE (txtD a.c) (by omega)) hH (SubS.sub trivial) ClM.nil (fun _=>Fresh.of rfl) rfl rfl rfl (fun x C1 H1 l1 k1 j1 p1=>?_)
 have hcr1:x.r.map Cv.v=[.v (sv x.nm),.v (vsl x.ty x.tys.length),.v (vsl x.cu x.cus.length),.v (vsl x.ma x.mas.length),.v (vsl x.i x.ins.length),.v (vsl x.bl x.bls.length),.v (vsl x.ou x.ous.length)]:=rfl
 rw[hcr1]
 rw[hpa]at p1⊢
 have hxs:=(sm_ok (a:=x) (.inr (by rw[p1.1];exact hok))).1
 have qe:=eqD_ (H:=C1.hp) (hW.up (hH.trans k1)) x a (p1.2.mono j1) (oa.mono (hH.trans k1)) hxs sa
 have p11:x.c=a.c:=p1.1
 rw[p11,dgEq_self hok]at qe
 simp(maxSteps:=2000000) only[go_sem,beq_self_eq_true]
 refine CallQ.hg 170 (fun _=>qe) (Hp.le.refl _) (fun _=>rfl) ?_
 refine vv ?_
 refine CallQ.x 300 l1 (dparse_ hE t (by omega)) (hH.trans k1) (SubS.sub trivial) ClM.nil (fun _=>Fresh.of rfl) rfl rfl rfl (fun y C5 H5 l5 k5 j5 p5=>?_)
 have hcr5:y.r.map Cv.v=[.v (sv y.nm),.v (vsl y.ty y.tys.length),.v (vsl y.cu y.cus.length),.v (vsl y.ma y.mas.length),.v (vsl y.i y.ins.length),.v (vsl y.bl y.bls.length),.v (vsl y.ou y.ous.length)]:=rfl
 rw[hcr5]
 have hsy:=par_sm t p5.1
 have hoy:=p5.2.mono j5
 have k05:=Hp.le.trans (hH.trans k1) k5
 by_cases he:(parD t).2.2=0
 ·rw[he]
  have hvy:dgOk y.c=true:=by rw[p5.1];exact par_valid t he
  have v5:=dvalid (H:=C5.hp) y hoy hsy.1
  rw[hvy]at v5
  have qt:=dtext_ (hW.up k05) y hoy hsy.1
  simp(maxSteps:=2000000) only[go_sem,beq_self_eq_true]
  by_cases hl:16384<(txtD y.c).length
  ·have hq:txQ y.c=([],5):=by unfold txQ;rw[hvy,decide_eq_true hl];rfl
   rw[hq]at qt
   refine CallQ.h 310 qt (Hp.le.refl _) rfl ?_
   refine vv ?_
   refine CallQ.h 320 v5 (Hp.le.refl _) rfl ?_
   refine vv ?_
   refine CallQ.h 330 v5 (Hp.le.refl _) rfl ?_
   refine vv ?_
   exact RetQ.bool (hR C5 l5) rfl ⟨rfl,trivial⟩ rfl
  ·have hq:txQ y.c=(txtD y.c,0):=by unfold txQ;rw[hvy,decide_eq_false hl];rfl
   have hpt:=par_txt hvy hl
   rw[hq]at qt
   refine CallQ.h 310 qt (Hp.le.refl _) rfl ?_
   refine vv ?_
   refine CallQ.h 320 v5 (Hp.le.refl _) rfl ?_
   refine vv ?_
   refine CallQ.x 340 l5 (dparse_ (hE.up k05) (txtD y.c) (by omega)) (Hp.le.refl _) (SubS.sub trivial) ClM.nil (fun _=>Fresh.of rfl) rfl rfl rfl (fun z C6 H6 l6 k6 j6 p6=>?_)
   have hcr6:z.r.map Cv.v=[.v (sv z.nm),.v (vsl z.ty z.tys.length),.v (vsl z.cu z.cus.length),.v (vsl z.ma z.mas.length),.v (vsl z.i z.ins.length),.v (vsl z.bl z.bls.length),.v (vsl z.ou z.ous.length)]:=rfl
   rw[hcr6]
   rw[hpt]at p6⊢
   have qs:=same_ (H:=C6.hp) y z (hoy.mono k6) (p6.2.mono j6) p6.1.symm (sm_ok (a:=z) (.inr (by rw[p6.1];exact hvy))).1 (sm_ok (a:=z) (.inr (by rw[p6.1];exact hvy))).2
   refine vv ?_
   refine CallQ.hg 350 (fun _=>qs) (Hp.le.refl _) (fun _=>rfl) ?_
   refine vv ?_
   exact RetQ.bool (hR C6 l6) rfl ⟨rfl,trivial⟩ rfl
 ·have hd:=par_d0 t he
  have hyc:y.c=d0:=by rw[p5.1,hd]
  have hnm:y.nm=[]:=congrArg Dg.nm hyc
  have hbl:y.bls.length=0:=by
   have:=congrArg (fun d=>d.bls.length) hyc
   simp only[DgL.c,List.length_map]at this
   exact this
  have hne:((parD t).2.2 !=0)=true:=bne_iff_ne.2 he
  rw[hnm,hbl]
  simp(maxSteps:=2000000) only[go_sem,hne,beq_self_eq_true]
  exact RetQ.bool (hR C5 l5) rfl ⟨rfl,trivial⟩ rfl
end Go.Proofs.YtlnpgbnhcondjaaGreatDoor.Fx
namespace Go.Proofs.YtlnpgbnhcondjaaGreatDoor
open Go.ChangeShapes Go.WideShapes Go.ChangeAt Go.RowKit
open Vg Tf
set_option linter.unusedSimpArgs false
set_option linter.unusedVariables false
set_option maxRecDepth 100000
theorem own:ownKnob Tryz.prog.godebug=none:=by kernel_rfl
theorem laidOut:laidOutB Tryz.prog=true:=by kernel_rfl
theorem fmr:mapsRowed Tryz.pinned.checked.prog=true:=by kernel_rfl
theorem flo:laidOutB Tryz.pinned.checked.prog=true:=by kernel_rfl
theorem fsh:Tryz.pinned.checked.prog.stopsHeard=true:=by kernel_rfl
theorem fme:Tryz.pinned.checked.prog.mayEnter=true:=by kernel_rfl
end Go.Proofs.YtlnpgbnhcondjaaGreatDoor
namespace Go.Proofs.YtlnpgbnhcondjaaGreatDoor
open Go.ChangeShapes Go.WideShapes Go.ChangeAt Go.RowKit
open Vg Tf Fx
set_option linter.unusedSimpArgs false
set_option linter.unusedVariables false
set_option maxRecDepth 100000
theorem leafS {x:Cv}(h:okL [.s] [x]=true)(hb:bdC x):∃l:List UInt8,x= .v (.string ⟨l.toArray⟩)∧l.length≤9223372036854775807:=by
 obtain⟨n,y,e,_⟩:=okL_s h
 obtain rfl:=(List.cons.inj e).1
 refine⟨n.data.toList,?_,?_⟩
 ·simp
 ·have:n.size≤maxLen:=hb
  have e:n.data.toList.length=n.size:=by rw[Array.length_toList];rfl
  unfold maxLen at this
  omega
theorem er_of {W:World}(h:laidMetH Tryz.prog [("strconv.ErrRange",Rows.laid_strconv_ErrRange)] W):ErR (hpW W):=by
 rw[MakeChecks.laidMetH_plain _ _ _ (by kernel_rfl)]at h
 obtain⟨ps,⟨g',t',cs,fuel,p,q,hg',ht',hvar,hd,_,_⟩,_⟩:=h
 have hg:Tryz.prog.globalNamed "strconv.ErrRange" =some 6:=by kernel_rfl
 obtain rfl:=Option.some.inj (hg.symm.trans hg')
 have hty:(Tryz.prog.globals[6]?).map (·.type)=some 59:=by kernel_rfl
 obtain rfl:=Option.some.inj (hty.symm.trans ht')
 obtain⟨_,u,v,hcs,_,_⟩:=Go.iface_of_trod (Tryz.underlying59) hd
 have hcs2:cs= #[.iface u v]:=by
  apply Array.toList_inj.1
  rw[hcs]
 subst hcs2
 obtain⟨el,mk,hb⟩:=GlW.of_var (cs:=[.iface u v]) hg hvar
 exact⟨.iface u v,el,mk,hb,.inr ⟨u,v,rfl⟩⟩
theorem pow_of {W:World}(h:laidMetH Tryz.prog [("internal/strconv.uint64pow10",Rows.laid_internal_strconv_uint64pow10)] W):PwR (hpW W):=by
 rw[MakeChecks.laidMetH_plain _ _ _ (by kernel_rfl)]at h
 have hg:Tryz.prog.globalNamed "internal/strconv.uint64pow10" =some 7:=by kernel_rfl
 have ht:Lib.TabIs Tryz.prog W "internal/strconv.uint64pow10" .u64 Lib.pow10Tab:=Lib.tabIs_of_head (rest:=[]) hg (show(Tryz.prog.globals[7]?).map (·.type)=some 315 by kernel_rfl) Tryz.underlying315 Tryz.underlying12 (by kernel_rfl) (by kernel_rfl) h
 exact GlW.of_var hg ht
end Go.Proofs.YtlnpgbnhcondjaaGreatDoor
namespace Go.Proofs.YtlnpgbnhcondjaaGreatDoor.Fx
open Go.ChangeShapes Go.WideShapes Go.ChangeAt Go.RowKit
open Vg Tf
set_option linter.unusedSimpArgs false
set_option linter.unusedVariables false
set_option maxRecDepth 100000
section
variable {H:Type} {enc:TypeId×Value→H} {w:World} {base:Nat} {spare:Nat→Bool} {held:Bool}
theorem lc_cons {k:Lc}{ks:List Lc}{r:List Value}(h:cellsLc enc Tryz.prog w base spare held (k::ks) r):∃v vs,r=v::vs∧cellLc enc Tryz.prog w base spare held k v∧cellsLc enc Tryz.prog w base spare held ks vs:=by
 cases r with
 |nil=>exact h.elim
 |cons v vs=>exact⟨v,vs,rfl,h.1,h.2⟩
theorem lc_nil {r:List Value}(h:cellsLc enc Tryz.prog w base spare held [] r):r=[]:=by
 cases r with
 |nil=>rfl
 |cons v vs=>exact h.elim
theorem lc_s {v:Value}(h:cellLc enc Tryz.prog w base spare held .s v):∃s:Str,v=sv s∧s.length≤1000000000000000:=by
 obtain⟨x,rfl,hx⟩:=h
 exact⟨x.data.toList,by simp,Nat.le_trans hx (by decide)⟩
theorem rowsEx {α:Type}{f:α→List Value}{p:α→Prop}:∀{rows:List (List Value)},(∀r∈rows,∃a,r=f a∧p a)→∃l:List α,rows=l.map f∧∀a∈l,p a
 |[],_=>⟨[],rfl,by simp⟩
 |r::rows,h=>by
  obtain⟨l,rfl,hl⟩:=rowsEx (f:=f) (p:=p) (rows:=rows) (fun x hx=>h x (List.mem_cons_of_mem _ hx))
  obtain⟨a,rfl,ha⟩:=h r (by simp)
  exact⟨a::l,rfl,fun x hx=>by rcases List.mem_cons.1 hx with rfl|hx;exact ha;exact hl x hx⟩
theorem _root_.Go.Proofs.YtlnpgbnhcondjaaGreatDoor.Vg.SlH.vsl {H:Hp}{v:Value}{sz:Nat}{rows:List (List Value)}(h:SlH H v sz rows):∃s:Sv,v=vsl s rows.length:=by
 obtain⟨l,h1,_⟩:=h
 rw[h1]
 simp only[Cv.g]
 split
 ·rename_i hh
  rw[hh.2]
  unfold Loc.emp
  split
  ·exact⟨⟨none,0⟩,rfl⟩
  ·exact⟨⟨some _,_⟩,rfl⟩
 ·exact⟨⟨some _,_⟩,rfl⟩
theorem lcI:lcOf Tryz.prog 20 3=some [.i .i64]:=by kernel_rfl
theorem lcS:lcOf Tryz.prog 20 9=some [.s]:=by kernel_rfl
theorem lcZ:lcOf Tryz.prog 20 73=some [.l 73]:=by kernel_rfl
theorem lcT:lcOf Tryz.prog 20 93=some [.s,.i .i64,.b,.i .i64,.i .i64,.i .i64,.i .i64,.i .i64,.i .i64,.i .i64,.i .i64]:=by kernel_rfl
theorem lcC:lcOf Tryz.prog 20 110=some [.s,.l 73,.l 73]:=by kernel_rfl
theorem lcM:lcOf Tryz.prog 20 115=some [.s,.l 73,.l 73,.l 70]:=by kernel_rfl
theorem lcP:lcOf Tryz.prog 20 118=some [.s,.s,.i .i64,.i .i64]:=by kernel_rfl
theorem lcB:lcOf Tryz.prog 20 82=some [.s,.s,.s,.l 28,.s,.l 73]:=by kernel_rfl
theorem lcD:lcOf Tryz.prog 20 30=some [.s,.l 23,.l 24,.l 25,.l 26,.l 27,.l 28]:=by kernel_rfl
theorem byI:1≤Tryz.prog.bytesOf 3:=by decide+kernel
theorem byS:1≤Tryz.prog.bytesOf 9:=by decide+kernel
theorem byZ:1≤Tryz.prog.bytesOf 73:=by decide+kernel
theorem byT:1≤Tryz.prog.bytesOf 93:=by decide+kernel
theorem byC:1≤Tryz.prog.bytesOf 110:=by decide+kernel
theorem byM:1≤Tryz.prog.bytesOf 115:=by decide+kernel
theorem byP:1≤Tryz.prog.bytesOf 118:=by decide+kernel
theorem byB:1≤Tryz.prog.bytesOf 82:=by decide+kernel
theorem len_of {n b:Nat}(hb:1≤b)(h:n*b≤reachBytes):n≤1000000000000000:=by
 have h1:n≤n*b:=Nat.le_mul_of_pos_right n hb
 have h2:reachBytes≤1000000000000000:=by decide
 omega
theorem op_ints {v:Value}(h:cellLc enc Tryz.prog w base spare held (.l 73) v):∃(s:Sv) (l:List Int),v=vsl s l.length∧SlH (hpW w) (vsl s l.length) 1 (intsR l)∧l.length≤1000000000000000:=by
 obtain⟨rows,h1,h2,h3⟩:=open_slW Tryz.underlying73 lcI sz3 (by simp) h
 obtain⟨l,rfl,_⟩:=rowsEx (f:=fun n:Int=>[iv n]) (p:=fun _=>True) (rows:=rows) (fun r hr=>by
  obtain⟨v,vs,rfl,⟨n,rfl,_⟩,q1⟩:=lc_cons (h2 r hr)
  obtain rfl:=lc_nil q1
  exact⟨n,rfl,trivial⟩)
 obtain⟨s,rfl⟩:=h1.vsl
 have e:(l.map fun n:Int=>[iv n]).length=l.length:=List.length_map _
 rw[e]at h1 h3
 exact⟨s,l,by rw[e],h1,len_of byI h3⟩
theorem op_strs {v:Value}(h:cellLc enc Tryz.prog w base spare held (.l 28) v):∃(s:Sv) (l:List Str),v=vsl s l.length∧SlH (hpW w) (vsl s l.length) 1 (strsR l)∧l.length≤1000000000000000∧∀x∈l,x.length≤1000000000000000:=by
 obtain⟨rows,h1,h2,h3⟩:=open_slW Tryz.underlying28 lcS sz9 (by simp) h
 obtain⟨l,rfl,hl⟩:=rowsEx (f:=fun s:Str=>[sv s]) (p:=fun s=>s.length≤1000000000000000) (rows:=rows) (fun r hr=>by
  obtain⟨v,vs,rfl,hv,q2⟩:=lc_cons (h2 r hr)
  obtain rfl:=lc_nil q2
  obtain⟨s,rfl,hs⟩:=lc_s hv
  exact⟨s,rfl,hs⟩)
 obtain⟨s,rfl⟩:=h1.vsl
 have e:(l.map fun s:Str=>[sv s]).length=l.length:=List.length_map _
 rw[e]at h1 h3
 exact⟨s,l,by rw[e],h1,len_of byS h3,hl⟩
theorem op_tys {v:Value}(h:cellLc enc Tryz.prog w base spare held (.l 23) v):∃(s:Sv) (l:List Td),v=vsl s l.length∧SlH (hpW w) (vsl s l.length) 11 (l.map Td.r)∧l.length≤1000000000000000∧∀x∈l,x.nm.length≤1000000000000000:=by
 obtain⟨rows,h1,h2,h3⟩:=open_slW Tryz.underlying23 lcT sz93 (by simp) h
 obtain⟨l,rfl,hl⟩:=rowsEx (f:=Td.r) (p:=fun s=>s.nm.length≤1000000000000000) (rows:=rows) (fun r hr=>by
  obtain⟨v,vs,rfl,hv,q3⟩:=lc_cons (h2 r hr)
  obtain⟨s,rfl,hs⟩:=lc_s hv
  obtain⟨_,vs,rfl,⟨n0,rfl,_⟩,q4⟩:=lc_cons q3
  obtain⟨_,vs,rfl,⟨n1,rfl⟩,q5⟩:=lc_cons q4
  obtain⟨_,vs,rfl,⟨n2,rfl,_⟩,q6⟩:=lc_cons q5
  obtain⟨_,vs,rfl,⟨n3,rfl,_⟩,q7⟩:=lc_cons q6
  obtain⟨_,vs,rfl,⟨n4,rfl,_⟩,q8⟩:=lc_cons q7
  obtain⟨_,vs,rfl,⟨n5,rfl,_⟩,q9⟩:=lc_cons q8
  obtain⟨_,vs,rfl,⟨n6,rfl,_⟩,q10⟩:=lc_cons q9
  obtain⟨_,vs,rfl,⟨n7,rfl,_⟩,q11⟩:=lc_cons q10
  obtain⟨_,vs,rfl,⟨n8,rfl,_⟩,q12⟩:=lc_cons q11
  obtain⟨_,vs,rfl,⟨n9,rfl,_⟩,q13⟩:=lc_cons q12
  obtain rfl:=lc_nil q13
  exact⟨⟨s,⟨n0,n1,n2,n3,n4,n5,n6,n7,n8,n9⟩⟩,rfl,hs⟩)
 obtain⟨s,rfl⟩:=h1.vsl
 have e:(l.map Td.r).length=l.length:=List.length_map _
 rw[e]at h1 h3
 exact⟨s,l,by rw[e],h1,len_of byT h3,hl⟩
theorem op_cus {v:Value}(h:cellLc enc Tryz.prog w base spare held (.l 24) v):∃(s:Sv) (l:List CuL),v=vsl s l.length∧SlH (hpW w) (vsl s l.length) 3 (l.map CuL.r)∧l.length≤1000000000000000∧∀x∈l,x.ok (hpW w)∧x.c.nm.length≤1000000000000000∧x.c.xs.length≤1000000000000000∧x.c.ys.length≤1000000000000000:=by
 obtain⟨rows,h1,h2,h3⟩:=open_slW Tryz.underlying24 lcC sz110 (by simp) h
 obtain⟨l,rfl,hl⟩:=rowsEx (f:=CuL.r) (p:=fun x=>x.ok (hpW w)∧x.c.nm.length≤1000000000000000∧x.c.xs.length≤1000000000000000∧x.c.ys.length≤1000000000000000) (rows:=rows) (fun r hr=>by
  obtain⟨v,vs,rfl,hv,q14⟩:=lc_cons (h2 r hr)
  obtain⟨s,rfl,hs⟩:=lc_s hv
  obtain⟨_,vs,rfl,hx,q15⟩:=lc_cons q14
  obtain⟨sx,xs,rfl,kx,bx⟩:=op_ints hx
  obtain⟨_,vs,rfl,hy,q16⟩:=lc_cons q15
  obtain⟨sy,ys,rfl,ky,bY⟩:=op_ints hy
  obtain rfl:=lc_nil q16
  exact⟨⟨⟨s,xs,ys⟩,sx,sy⟩,rfl,⟨kx,ky⟩,hs,bx,bY⟩)
 obtain⟨s,rfl⟩:=h1.vsl
 have e:(l.map CuL.r).length=l.length:=List.length_map _
 rw[e]at h1 h3
 exact⟨s,l,by rw[e],h1,len_of byC h3,hl⟩
theorem op_zs {v:Value}(h:cellLc enc Tryz.prog w base spare held (.l 70) v):∃(s:Sv) (l:List (Sv×List Int)),v=vsl s l.length∧SlH (hpW w) (vsl s l.length) 1 (l.map fun v=>[vsl v.1 v.2.length])∧l.length≤1000000000000000∧∀x∈l,SlH (hpW w) (vsl x.1 x.2.length) 1 (intsR x.2)∧x.2.length≤1000000000000000:=by
 obtain⟨rows,h1,h2,h3⟩:=open_slW Tryz.underlying70 lcZ sz73 (by simp) h
 obtain⟨l,rfl,hl⟩:=rowsEx (f:=fun v:Sv×List Int=>[vsl v.1 v.2.length]) (p:=fun x=>SlH (hpW w) (vsl x.1 x.2.length) 1 (intsR x.2)∧x.2.length≤1000000000000000) (rows:=rows) (fun r hr=>by
  obtain⟨v,vs,rfl,hx,q17⟩:=lc_cons (h2 r hr)
  obtain⟨sx,xs,rfl,kx,bx⟩:=op_ints hx
  obtain rfl:=lc_nil q17
  exact⟨(sx,xs),rfl,kx,bx⟩)
 obtain⟨s,rfl⟩:=h1.vsl
 have e:(l.map fun v:Sv×List Int=>[vsl v.1 v.2.length]).length=l.length:=List.length_map _
 rw[e]at h1 h3
 exact⟨s,l,by rw[e],h1,len_of byZ h3,hl⟩
theorem op_mas {v:Value}(h:cellLc enc Tryz.prog w base spare held (.l 25) v):∃(s:Sv) (l:List MpL),v=vsl s l.length∧SlH (hpW w) (vsl s l.length) 4 (l.map MpL.r)∧l.length≤1000000000000000∧∀x∈l,x.ok (hpW w)∧x.nm.length≤1000000000000000∧∀v∈x.zs,v.2.length≤1000000000000000:=by
 obtain⟨rows,h1,h2,h3⟩:=open_slW Tryz.underlying25 lcM sz115 (by simp) h
 obtain⟨l,rfl,hl⟩:=rowsEx (f:=MpL.r) (p:=fun x=>x.ok (hpW w)∧x.nm.length≤1000000000000000∧∀v∈x.zs,v.2.length≤1000000000000000) (rows:=rows) (fun r hr=>by
  obtain⟨v,vs,rfl,hv,q18⟩:=lc_cons (h2 r hr)
  obtain⟨s,rfl,hs⟩:=lc_s hv
  obtain⟨_,vs,rfl,hx,q19⟩:=lc_cons q18
  obtain⟨sx,xs,rfl,kx,bx⟩:=op_ints hx
  obtain⟨_,vs,rfl,hy,q20⟩:=lc_cons q19
  obtain⟨sy,ys,rfl,ky,bY⟩:=op_ints hy
  obtain⟨_,vs,rfl,hz,q21⟩:=lc_cons q20
  obtain⟨sz,zs,rfl,kz,bz,ez⟩:=op_zs hz
  obtain rfl:=lc_nil q21
  exact⟨⟨s,xs,ys,zs,sx,sy,sz⟩,rfl,⟨kx,ky,kz,fun v hv=>(ez v hv).1⟩,hs,fun v hv=>(ez v hv).2⟩)
 obtain⟨s,rfl⟩:=h1.vsl
 have e:(l.map MpL.r).length=l.length:=List.length_map _
 rw[e]at h1 h3
 exact⟨s,l,by rw[e],h1,len_of byM h3,hl⟩
theorem op_pos {v:Value}(h:cellLc enc Tryz.prog w base spare held (.l 26) v):∃(s:Sv) (l:List Po),v=vsl s l.length∧SlH (hpW w) (vsl s l.length) 4 (l.map Po.r)∧l.length≤1000000000000000∧∀x∈l,x.nm.length≤1000000000000000∧x.ty.length≤1000000000000000:=by
 obtain⟨rows,h1,h2,h3⟩:=open_slW Tryz.underlying26 lcP sz118 (by simp) h
 obtain⟨l,rfl,hl⟩:=rowsEx (f:=Po.r) (p:=fun x=>x.nm.length≤1000000000000000∧x.ty.length≤1000000000000000) (rows:=rows) (fun r hr=>by
  obtain⟨v,vs,rfl,hv,q22⟩:=lc_cons (h2 r hr)
  obtain⟨s,rfl,hs⟩:=lc_s hv
  obtain⟨_,vs,rfl,hv,q23⟩:=lc_cons q22
  obtain⟨s2,rfl,hs2⟩:=lc_s hv
  obtain⟨_,vs,rfl,⟨n0,rfl,_⟩,q24⟩:=lc_cons q23
  obtain⟨_,vs,rfl,⟨n1,rfl,_⟩,q25⟩:=lc_cons q24
  obtain rfl:=lc_nil q25
  exact⟨⟨s,s2,n0,n1⟩,rfl,hs,hs2⟩)
 obtain⟨s,rfl⟩:=h1.vsl
 have e:(l.map Po.r).length=l.length:=List.length_map _
 rw[e]at h1 h3
 exact⟨s,l,by rw[e],h1,len_of byP h3,hl⟩
theorem op_bls {v:Value}(h:cellLc enc Tryz.prog w base spare held (.l 27) v):∃(s:Sv) (l:List BlL),v=vsl s l.length∧SlH (hpW w) (vsl s l.length) 6 (l.map BlL.r)∧l.length≤1000000000000000∧∀b∈l,b.ok (hpW w)∧b.c.nm.length≤1000000000000000∧b.c.ty.length≤1000000000000000∧b.c.tb.length≤1000000000000000∧b.c.ins.length≤1000000000000000∧b.c.ks.length≤1000000000000000∧∀s∈b.c.ins,s.length≤1000000000000000:=by
 obtain⟨rows,h1,h2,h3⟩:=open_slW Tryz.underlying27 lcB sz82 (by simp) h
 obtain⟨l,rfl,hl⟩:=rowsEx (f:=BlL.r) (p:=fun b=>b.ok (hpW w)∧b.c.nm.length≤1000000000000000∧b.c.ty.length≤1000000000000000∧b.c.tb.length≤1000000000000000∧b.c.ins.length≤1000000000000000∧b.c.ks.length≤1000000000000000∧∀s∈b.c.ins,s.length≤1000000000000000) (rows:=rows) (fun r hr=>by
  obtain⟨v,vs,rfl,hv,q26⟩:=lc_cons (h2 r hr)
  obtain⟨s,rfl,hs⟩:=lc_s hv
  obtain⟨_,vs,rfl,hv,q27⟩:=lc_cons q26
  obtain⟨s2,rfl,_⟩:=lc_s hv
  obtain⟨_,vs,rfl,hv,q28⟩:=lc_cons q27
  obtain⟨s3,rfl,hs3⟩:=lc_s hv
  obtain⟨_,vs,rfl,hi,q29⟩:=lc_cons q28
  obtain⟨si,is,rfl,ki,bi,ei⟩:=op_strs hi
  obtain⟨_,vs,rfl,hv,q30⟩:=lc_cons q29
  obtain⟨s4,rfl,hs4⟩:=lc_s hv
  obtain⟨_,vs,rfl,hy,q31⟩:=lc_cons q30
  obtain⟨sy,ys,rfl,ky,bY⟩:=op_ints hy
  obtain rfl:=lc_nil q31
  exact⟨⟨⟨s,s2,s3,is,s4,ys⟩,si,sy⟩,rfl,⟨ki,ky⟩,hs,hs3,hs4,bi,bY,ei⟩)
 obtain⟨s,rfl⟩:=h1.vsl
 have e:(l.map BlL.r).length=l.length:=List.length_map _
 rw[e]at h1 h3
 exact⟨s,l,by rw[e],h1,len_of byB h3,hl⟩
theorem open_dg {v:Value}{d:DataW H}{p:List MemPlace}{r:Reach}{n0:Nat}(hv:Value.okWide Tryz.prog w r n0 30 v)(h:DataW.Trod enc Tryz.prog w base spare held 30 v d p)(hw:∀n∈d.weights Tryz.prog 30,n≤reachBytes):
  ∃D:DgL,v=(rowV D.r).g b0∧D.ok (hpW w)∧D.sm:=by
 obtain⟨cs,rfl,_,_⟩:∃cs,v= .agg cs∧cs.size=Tryz.prog.cellsOf 30∧Row.okWide Tryz.prog w r n0 30 cs:=by
  simpa only[Value.okWide,Tryz.underlying30]using hv
 obtain⟨fuel,hf⟩:=h
 have o:=open_lc 20 _ _ lcD sz30 fuel _ _ hf hw
 have hcs:(Value.agg cs).cells.toList=cs.toList:=rfl
 rw[hcs]at o
 obtain⟨v,vs,e1,hv,q32⟩:=lc_cons o
 obtain⟨s,rfl,hs⟩:=lc_s hv
 obtain⟨_,vs,rfl,h1,q33⟩:=lc_cons q32
 obtain⟨s1,l1,rfl,k1,b1,c1⟩:=op_tys h1
 obtain⟨_,vs,rfl,h2,q34⟩:=lc_cons q33
 obtain⟨s2,l2,rfl,k2,b2,c2⟩:=op_cus h2
 obtain⟨_,vs,rfl,h3,q35⟩:=lc_cons q34
 obtain⟨s3,l3,rfl,k3,b3,c3⟩:=op_mas h3
 obtain⟨_,vs,rfl,h4,q36⟩:=lc_cons q35
 obtain⟨s4,l4,rfl,k4,b4,c4⟩:=op_pos h4
 obtain⟨_,vs,rfl,h5,q37⟩:=lc_cons q36
 obtain⟨s5,l5,rfl,k5,b5,c5⟩:=op_bls h5
 obtain⟨_,vs,rfl,h6,q38⟩:=lc_cons q37
 obtain⟨s6,l6,rfl,k6,b6,c6⟩:=op_strs h6
 obtain rfl:=lc_nil q38
 refine⟨⟨s,l1,l2,l3,l4,l5,l6,s1,s2,s3,s4,s5,s6⟩,?_,⟨k1,k2,k3,k4,k5,k6,fun c hc=>(c2 c hc).1,fun c hc=>(c3 c hc).1,fun c hc=>(c5 c hc).1⟩,⟨hs,⟨b1,c1⟩,⟨b2,fun c hc=>(c2 c hc).2⟩,⟨b3,fun c hc=>(c3 c hc).2⟩,⟨b4,c4⟩,⟨b5,fun c hc=>(c5 c hc).2⟩,⟨b6,c6⟩⟩⟩
 rw[←Array.toArray_toList (xs:=cs),e1]
 rfl
end
end Go.Proofs.YtlnpgbnhcondjaaGreatDoor.Fx
namespace Go.Proofs.YtlnpgbnhcondjaaGreatDoor
open Go.ChangeShapes Go.WideShapes Go.ChangeAt Go.RowKit
open Vg Tf
set_option linter.unusedSimpArgs false
set_option linter.unusedVariables false
set_option maxRecDepth 100000
theorem fip:Tryz.pinned.checked.prog.inPlace 11=Rows.diagramBackRow.inPlace:=by kernel_rfl
theorem fuf:Tryz.pinned.checked.prog.unfollowed 11=Rows.diagramBackRow.unfollowed:=by kernel_rfl
theorem frc:Tryz.pinned.checked.prog.recurses 11=Rows.diagramBackRow.recurses:=by kernel_rfl
theorem fvn:Tryz.pinned.checked.prog.varsNamed 11=Rows.diagramBackRow.named:=by kernel_rfl
theorem closedF:joinedFacts Tryz.pinned.checked.prog 11 Tryz.f11 Rows.diagramBackSpec Rows.diagramBackRow=true:=by
 unfold joinedFacts
 rw[fip,fuf,frc,fvn,fmr,flo,fsh,fme]
 kernel_rfl
theorem ffn:Tryz.pinned.checked.prog.funcNamed Rows.diagramBackRow.func=some 11:=by kernel_rfl
theorem flk:true=Tryz.pinned.checked.prog.looks []:=by kernel_rfl
theorem fgo:false=Rows.diagramBackRow.goesBy Tryz.pinned.checked.prog:=by kernel_rfl
theorem fwf:Rows.diagramBackRow.wfByText (OpenSpec.ofChange Rows.diagramBackSpec)=true:=by kernel_rfl
theorem fmi:Tryz.pinned.checked.prog.mainIs=some (true,"0b6ddabf7654c0ddcdcd670975a67c572cc1ac03156ddf7d14c8e7ba494423dd".toList):=by kernel_rfl
end Go.Proofs.YtlnpgbnhcondjaaGreatDoor
