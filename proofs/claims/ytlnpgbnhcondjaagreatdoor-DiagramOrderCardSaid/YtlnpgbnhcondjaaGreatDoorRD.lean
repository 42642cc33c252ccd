/-  -/
import Derived.Test.YtlnpgbnhcondjaaGreatDoorTf
import Derived.Test.YtlnpgbnhcondjaaGreatDoorY0
import Derived.Test.YtlnpgbnhcondjaaGreatDoorMA
import Derived.Test.YtlnpgbnhcondjaaGreatDoorMB
import Derived.Test.YtlnpgbnhcondjaaGreatDoorU1
import Derived.Laws.BitsAll
import Derived.Laws.Externs
import Derived.Test.YtlnpgbnhcondjaaGreatDoorY2
import Derived.Test.YtlnpgbnhcondjaaGreatDoorQ4
namespace Go.Proofs.YtlnpgbnhcondjaaGreatDoor.Fx
open Vg Tf
set_option linter.unusedSimpArgs false
set_option linter.unusedVariables false
set_option maxRecDepth 100000
set_option maxHeartbeats 4000000
theorem _root_.Go.Proofs.YtlnpgbnhcondjaaGreatDoor.Vg.Sm.bringPS {P:Program}{nt:Nat}{C:Cx}{todo:List It}{e:Env}{M:Mem}{pv v:Value}{sz:Nat}{rows:List (List Value)}(n1 n2:Nat)(el1 el2:TypeId)(t:Nat){g:Bool}(hp:PtH C.hp pv [v])(h:SlH C.hp v sz rows)(hn1:M.get n1=none)(hn2:M.get n2=none)(hne:n1≠n2)(hx:e.get t=some (g,.c (.v pv)))
  (k:Sm P nt C todo ((t,g,.c (.p n1 0))::e) ((n1,⟨true,[.sl n2 0 rows.length sz],el1⟩)::(n2,⟨true,rowsC rows,el2⟩)::M)):Sm P nt C todo e M:=by
 obtain⟨l1,a1,a2⟩:=hp.loc
 obtain⟨l2,b1,b2,b3⟩:=h.loc
 refine Sm.brings (fun n=>if n=n1 then some l1 else if n=n2 then some l2 else none) [(n1,⟨true,[.sl n2 0 rows.length sz],el1⟩),(n2,⟨true,rowsC rows,el2⟩)] ((t,g,.c (.p n1 0))::e) (by simp[hn1,hn2]) (fun n l hl=>?_) (fun β hβ=>?_) k
 ·simp only[Mem.get_cons]
  by_cases hh:n=n1
  ·simp[hh]
  ·rw[if_neg hh]at hl⊢
   by_cases hh2:n=n2
   ·simp[hh2]
   ·rw[if_neg hh2]at hl;cases hl
 ·have e1:β n1=l1:=hβ n1 l1 (if_pos rfl)
  have e2:β n2=l2:=hβ n2 l2 (by rw[if_neg (Ne.symm hne),if_pos rfl])
  refine⟨fun n b hb=>?_,fun t' x hx'=>?_⟩
  ·simp only[Mem.get_cons]at hb
   split at hb
   ·rename_i hh
    cases hb
    rw[hh,e1]
    have:[Cv.sl n2 0 rows.length sz].map (Cv.g β)=[v]:=by rw[List.map_cons,List.map_nil,b1 β n2 e2]
    rw[this];exact a2
   ·split at hb
    ·rename_i hh
     cases hb
     rw[hh,e2]
     show LcH C.hp l2 ((rowsC rows).map (Cv.g β))
     unfold rowsC
     rw[mapV_g];exact b2
    ·cases hb
  ·simp only[Env.get]at hx'
   cases ht:(t==t')with
   |true=>
    rw[ht]at hx'
    have:t=t':=by simpa using ht
    subst this
    simp at hx'
    subst hx'
    refine⟨_,hx,?_⟩
    unfold gv
    simp only[V.g]
    rw[a1 β n1 e1]
    rfl
   |false=>
    rw[ht]at hx'
    exact⟨x,hx',rfl⟩
def fillM {α:Type}(f:α→Str×Value):List α→Al
 |[]=>[]
 |x::l=>aput (fillM f l) ⟨(f x).1.toArray⟩ (f x).2
def fillS:List Str→Nat→Al
 |[],_=>[]
 |x::l,k=>aput (fillS l (k+1)) ⟨x.toArray⟩ (iv k)
def idxS (s:Str):List Str→Nat→Option Nat
 |[],_=>none
 |x::l,k=>if x=s then some k else idxS s l (k+1)
def ftV (t:Ft):Value:= .agg (ftR t).toArray
def tdF (t:Td):Str×Value:=(t.nm,ftV t.ty)
def cuF (c:CuL):Str×Value:=(c.c.nm,.agg #[vsl c.x c.c.xs.length,vsl c.y c.c.ys.length])
def maF (m:MpL):Str×Value:=(m.nm,.agg #[vsl m.x m.xs.length,vsl m.y m.ys.length,vsl m.z m.zs.length])
structure ChkOk (H:Hp) (cp:Value) (d:DgL) (bT bC bM bS:Nat):Prop where
 p:PtH H cp (d.r++[.map (some bT),.map (some bC),.map (some bM),.map (some bS)])
 t:MpB H bT (fillM tdF d.tys)
 c:MpB H bC (fillM cuF d.cus)
 m:MpB H bM (fillM maF d.mas)
 s:MpB H bS (fillS (sigs d.c) 0)
theorem PtH.ptr {H:Hp}{v:Value}{cs:List Value}(h:PtH H v cs):∃a,v= .pointer a:=by
 obtain⟨l,h1,_⟩:=h
 exact⟨_,h1⟩
theorem cokV {L:List Nat}{cs:List Cv}(h:cs.all Cv.isV=true):cs.all (Cv.cok L)=true:=by
 rw[List.all_eq_true]at h⊢
 intro c hc
 have:=h c hc
 cases c<;>simp[Cv.isV]at this<;>rfl
end Go.Proofs.YtlnpgbnhcondjaaGreatDoor.Fx
namespace Go.Proofs.YtlnpgbnhcondjaaGreatDoor.Fx
set_option linter.unusedVariables false
set_option linter.unusedSimpArgs false
theorem getD_set {s:List Bool}{k:Nat}(j:Nat)(h:k<s.length):(s.set k true).getD j false=if k=j then true else s.getD j false:=by
 simp only[List.getD_eq_getElem?_getD,List.getElem?_set]
 by_cases hj:k=j
 ·subst hj;simp[h]
 ·simp[hj]
open Vg Tf
set_option maxRecDepth 100000
set_option maxHeartbeats 4000000
def ft0:Ft:=⟨0,false,0,0,0,0,0,0,0,0⟩
def tyQ (l:List Td)(s:Str):Option Ft:=(l.find? (fun t=>t.nm==s)).map (·.ty)
def tyN (l:List Td)(s:Str):Ft:=(tyQ l s).getD ft0
def sgN (l:List Str)(s:Str):Nat:=(idxS s l 0).getD 0
@[reducible] def cuV (c:CuL):List Cv:=[.v (.slice c.x.o c.c.xs.length c.x.c),.v (.slice c.y.o c.c.ys.length c.y.c)]
@[reducible] def maV (m:MpL):List Cv:=[.v (.slice m.x.o m.xs.length m.x.c),.v (.slice m.y.o m.ys.length m.y.c),.v (.slice m.z.o m.zs.length m.z.c)]
section
variable {C:Cx} {o:Oper} {e:Env} {M:Mem} {m x:Operand} {b:Nat} {s:Str}
end
structure Ck (H:Hp) (cp:Value) (d:DgL) (bT bC bM bS:Nat):Prop where
 o:d.ok H
 s:d.sm
 n1:d.ins.length≤1000000
 n2:d.bls.length≤1000000
 c:ChkOk H cp d bT bC bM bS
open Vg Tf
set_option maxRecDepth 100000
set_option maxHeartbeats 4000000
def delS:Str:=[100,101,108,97,121]
def nee1 (l:List Str)(n:Nat)(s:Str):List Nat:=if n≤sgN l s then[sgN l s-n]else[]
def need (l:List Str)(n:Nat)(b:Bl):List Nat:=if b.kd==delS then[]else b.ins.flatMap (nee1 l n)
@[reducible] def nC (n:Nat):Cv:= .v (.int .i64 (n:Int))
open Vg Tf
set_option maxRecDepth 100000
set_option maxHeartbeats 4000000
@[reducible] def bC (b:Bool):Cv:= .v (.bool b)
open Vg Tf
set_option maxRecDepth 100000
set_option maxHeartbeats 4000000
open Vg Tf
set_option maxRecDepth 100000
set_option maxHeartbeats 4000000
def tnAt (d:Dg)(i:Nat):Str:=if i<d.ins.length then(d.ins.map (·.ty)).getD i []else(d.bls.map (·.ty)).getD (i-d.ins.length) []
def tyAt (d:Dg)(i:Nat):Ft:=tyN d.tys (tnAt d i)
open Vg Tf
set_option maxRecDepth 100000
set_option maxHeartbeats 4000000
open Vg Tf
set_option maxRecDepth 100000
set_option maxHeartbeats 4000000
open Vg Tf
set_option maxRecDepth 100000
set_option maxHeartbeats 4000000
@[go_sem ↓] theorem plS_1_5:plS 1 5=[(0,5)]:=rfl
theorem _root_.Go.Proofs.YtlnpgbnhcondjaaGreatDoor.Vg.Known.vslx {H:Hp}{β:Vl}{n:Nat}{b:Bk}(h:Known H β n b){sz:Nat}{rows:List (List Value)}(hr:∀r∈rows,r.length=sz)(hc:b.cells=rowsC rows):∃s:Sv,gval β (.sl n 0 rows.length sz)=vsl s rows.length∧SlH H (vsl s rows.length) sz rows:=by
 have h1:=h.sl hr hc
 obtain⟨s,hs⟩:∃s:Sv,gval β (.sl n 0 rows.length sz)=vsl s rows.length:=by
  unfold gval
  simp only[Cv.g]
  split
  ·rename_i hh;rw[hh.2];unfold Loc.emp;split<;>first|exact⟨⟨none,0⟩,rfl⟩|exact⟨⟨some _,_⟩,rfl⟩
  ·exact⟨⟨_,_⟩,rfl⟩
 exact⟨s,hs,by rw[←hs];exact h1⟩
open Vg Tf
set_option maxRecDepth 100000
set_option maxHeartbeats 4000000
open Vg Tf
set_option maxRecDepth 100000
set_option maxHeartbeats 4000000
@[go_sem ↓] theorem plS_4_1:plS 4 1=[(0,1),(1,1),(2,1),(3,1)]:=rfl
open Vg Tf
set_option maxRecDepth 100000
abbrev cu (n:Int):Cv:= .v (.int .u64 n)
def wd (x:Int):V:= .agg [cu (x/18446744073709551616%18446744073709551616),cu (x%18446744073709551616)]
open Vg Tf
set_option maxRecDepth 100000
@[go_sem] def va (t:Ft)(r:Int):V:= .agg [ci t.bits,.v (.bool t.signed),ci t.num,ci t.off,ci t.den,ci t.m,ci t.kg,ci t.s,ci t.a,ci t.k,ci r]
@[go_sem] def rg (lo hi:Int):V:= .agg [ci lo,ci hi]
def fixR (t:Ft)(n d:Int):Int:=min (max (rnd 3 (n*t.den-t.off*d) (d*t.num)) (flo t)) (fhi t)
open Vg Tf
set_option maxRecDepth 100000
@[go_sem] def unF (t:Ft):V:= .agg [ci t.m,ci t.kg,ci t.s,ci t.a,ci t.k]
open Vg Tf
set_option maxRecDepth 100000
@[go_sem] def vaL (t:Ft)(r:Int):List Cv:=[ci t.bits,.v (.bool t.signed),ci t.num,ci t.off,ci t.den,ci t.m,ci t.kg,ci t.s,ci t.a,ci t.k,ci r]
def z0:Ft:=⟨0,false,0,0,0,0,0,0,0,0⟩
open Vg Tf
set_option maxRecDepth 100000
set_option maxHeartbeats 4000000
@[go_sem] def fxL (t:Ft):List Cv:=[ci t.bits,.v (.bool t.signed),ci t.num,ci t.off,ci t.den,ci t.m,ci t.kg,ci t.s,ci t.a,ci t.k]
@[go_sem ↓] theorem plS21:plS 2 1=[(0,1),(1,1)]:=rfl
@[go_sem ↓] theorem plS52:plS 5 2=[(0,2),(2,2),(4,2),(6,2),(8,2)]:=rfl
open Vg Tf
set_option maxRecDepth 100000
set_option maxHeartbeats 4000000
def uS (a b:Ft):Bool:=(a.m==b.m)&&((a.kg==b.kg)&&((a.s==b.s)&&((a.a==b.a)&&(a.k==b.k))))
def gErr (a:Ft)(x:Int)(t:Ft):Int:=if (fok a&&fin a x)=false∨fok t=false then 1 else if uS a t=false then 12 else 0
def gR (s:Int)(a:Ft)(x:Int)(t:Ft):Int:=if gErr a x t=0 then fixR t (fnu a x*s) a.den else 0
open Vg Tf
set_option maxRecDepth 100000
set_option maxHeartbeats 4000000
def hulR (a b:Int×Int):Int×Int:=(min a.1 b.1,max a.2 b.2)
def cnvR (r:Int×Int)(a b:Ft):Int×Int:=(gR 1 a r.1 b,gR 1 a r.2 b)
open Vg Tf
set_option maxRecDepth 100000
set_option maxHeartbeats 4000000
theorem _root_.Go.Proofs.YtlnpgbnhcondjaaGreatDoor.Vg.Sm.mapIns {P:Program}{nt:Nat}{C Ck:Cx}{rg:Array Oper}{o:Oper}{l:List Oper}{r:List It}{e:Env}{M:Mem}{t tk te:TypeId}{m x y:Operand}{b:Nat}{al:Al}{s:ByteArray}{v:V}{u:Value}(hL:Lf C Ck)(hg:gd rg e o=some true)(hd:o.dst=none)(ho:o.op= .insert t m x y)(ht:mpOf P t=some (tk,te))
  (hm:rd e m=some (true,.c (.v (.map (some b))))) (hx:rd e x=some (true,.c (.v (.string s)))) (hy:rd e y=some (true,v)) (hv:∀β,v.g β=u) (hb:MpB Ck.hp b al) (hf:C.w0.heap.size≤b)
  (k:∀Cn,Lf C Cn→(∀b' o,b'≠b→Ck.hp b' o→Cn.hp b' o)→MpB Cn.hp b (aput al s u)→Sm P nt Cn (.ops rg l::r) e M):Sm P nt Ck (.ops rg (o::l)::r) e M:=fun β a w h1 h2 h3 h4=>by
 have hw:Region.wanted o (yielded rg a.tmps)=true:=gd_ok (β:=β) hg (fun j want t y _ _ hy=>h2 β (Agree.refl _ _) t y hy)
 show wpListIn (fen Ck.lp) 0 P rg (cont P Ck.lp Ck.Q r) (o::l) a w
 refine wpListIn_step fun K hK=>?_
 rw[hw]
 simp only[if_true]
 refine Oper.wp_in Ck.lp (gd_nd hg).1 ?_
 obtain⟨es,clk,q1,q2⟩:=hb
 have hbw:=Cx.hp_now h1 q1
 have hnw:=Cx.hp_wrt h1 q1
 have em:=rd_ok h2 (Agree.refl _ _) hm
 have ex:=rd_ok h2 (Agree.refl _ _) hx
 have ey:=rd_ok h2 (Agree.refl _ _) hy
 simp only[gv,V.g,Cv.g,cond_true]at em ex
 simp only[gv,cond_true,hv]at ey
 obtain⟨es',clk',hrun,hes⟩:=run_updateS ht hbw q2 s u
 unfold Oper.wp execOp
 simp only[ho,em,ex,ey,Sem.run_bind,hrun,Result.andThen_ok,Sem.run_pure]
 show K _ _
 have hrelC:Rel C.S C.w0 β M w:=hL.rel h1
 -- the world behind,seen from the first view
 have hp:Rel C.S C.w0 β M {w with heap:=w.heap.setIfInBounds b (.map es' clk')}:=hrelC.hset hbw hnw (by intro c el mk hh;cases hh) (fun _=>hf)
 have hLC:Lf C C:=Lf.refl hL.zok
 obtain⟨l1,l2⟩:=hLC.at hp (s:=fun b=>¬Wrt β M b) (fun b hb=>Classical.not_not.1 hb)
 have hq:=hp.at hLC (s:=fun b=>¬Wrt β M b) (fun b hb hn=>hn hb) hp.mem (fun n l hl=>(hp.pin n l hl).1)
 have hlt:b<w.heap.size:=(Array.getElem?_eq_some_iff.1 hbw).1
 have hput:∀u,a.put o.dst u=a:=fun u=>by rw[hd];rfl
 rw[hput]
 have:=hK a {w with heap:=w.heap.setIfInBounds b (.map es' clk')} ?_
 ·simpa[hput]using this
 rw[hL.q,hL.lp]
 refine k _ l1 (fun b' o' hne ho'=>⟨Cx.hp_wrt h1 ho',?_,?_⟩) ⟨es',clk',⟨hnw,?_,?_⟩,hes⟩ β a _ hq h2 h3 (h4.trans hL.df)
 ·have:=ho'.2.1
  rw[hL.z]at this;exact this
 ·show(w.heap.setIfInBounds b _)[b']?=_
  rw[Array.getElem?_setIfInBounds_ne (Ne.symm hne)]
  exact Cx.hp_now h1 ho'
 ·intro hz
  have:=(hL.zok _ hz).2
  omega
 ·show(w.heap.setIfInBounds b _)[b]?=_
  simp[hlt]
open Vg Tf
set_option maxRecDepth 100000
set_option maxHeartbeats 4000000
open Vg Tf
set_option maxRecDepth 100000
set_option maxHeartbeats 4000000
@[go_sem ↓] theorem plS_1_2:plS 1 2=[(0,2)]:=rfl
@[go_sem ↓] theorem plS_1_10:plS 1 10=[(0,10)]:=rfl
def bl0:Bl:=⟨[],[],[],[],[],[]⟩
theorem get_sh {n:Nat}{b b':Bk}{r:Mem}(k:Nat):Mem.get ((n,b)::(n,b')::r) k=Mem.get ((n,b)::r) k:=by
 simp only[Mem.get_cons]
 by_cases h:k=n
 ·simp[h]
 ·simp[h]
theorem sub_sh {n:Nat}{b b':Bk}{r M:Mem}(h:Sub ((n,b)::r) M):Sub ((n,b)::(n,b')::r) M:=fun k c hk=>h k c (by rw[←get_sh (b':=b')];exact hk)
theorem clm_sh {n:Nat}{b b':Bk}{r:Mem}(h:ClM ((n,b)::r)):ClM ((n,b)::(n,b')::r):=fun β β' hag k c hk=>
 h β β' (fun k hn=>hag k (by rw[get_sh];exact hn)) k c (by rw[←get_sh (b':=b')];exact hk)
open Vg Tf
set_option maxRecDepth 100000
set_option maxHeartbeats 4000000
@[go_sem] def Tk.r (t:Tk):List Value:=[.int .i64 t.k,.string ⟨t.s.toArray⟩,.int .i64 t.l,.int .i64 t.c]
@[reducible,go_sem] def psC (T:List Tk)(p:Ps):List Cv:=[.sl 2 0 T.length 4,nC p.at_,.v (.int .i64 p.e),nC p.l,nC p.c]
@[reducible,go_sem] def pM (T:List Tk)(p:Ps):Mem:=[(1,⟨false,psC T p,96⟩),(2,⟨true,rowsC (T.map Tk.r),57⟩)]
theorem pM_cl (T:List Tk)(p:Ps):ClM (pM T p):=ClM.of (by simp only[List.all_cons,inMV (rowsC_isV _)];rfl)
@[reducible] def tkV (t:Tk):V:= .agg [.v (.int .i64 t.k),.v (.string ⟨t.s.toArray⟩),.v (.int .i64 t.l),.v (.int .i64 t.c)]
theorem here_get {T:List Tk}{p:Ps}(h:p.at_<T.length):hereP T p=T[p.at_]:=by unfold hereP;rw[List.getD_eq_getElem?_getD,List.getElem?_eq_getElem h];rfl
theorem here_ (T:List Tk)(hT:T.length≤100000)(p:Ps)(h:p.at_<T.length):CallOk Tryz.prog 147 [.c (.p 1 0)] (pM T p) (tkV (hereP T p)) []:=by
 have htk:=rows_take (r:=Tk.r) (k:=4) (fun _=>rfl) T p.at_ h
 have hz:=rows_len (r:=Tk.r) (k:=4) (fun _=>rfl) T
 have hM:=pM_cl T p
 rw[here_get h]
 generalize T[p.at_]=t at*
 refine CallOk.mkN 100 Tryz.func147 rfl en147 (by simp[Tryz.ntmps147]) (ClA.of rfl) rfl rfl fun C hR hP=>?_
 refine vv ?_
 refine Sm.dg 100 8 mix ?_
 simp(maxSteps:=2000000) only[go_sem,htk,hz,Tk.r]
 refine⟨⟨by omega,by omega⟩,by omega,?_⟩
 exact RetQ.of hR rfl (vv trivial) rvr (SubS.sub ⟨oS,oS,trivial⟩) hM (ClV.of rfl)
theorem stop_ (T:List Tk)(p:Ps)(l c:Nat)(e:Int):CallOk Tryz.prog 230 [.c (.p 1 0),.agg [nC l,nC c],I e] (pM T p) (Bo false) [(1,⟨false,psC T (stopP p l c e),96⟩)]:=by
 have hM:=pM_cl T p
 have hM2:=pM_cl T (stopP p l c e)
 refine CallOk.mkN 100 Tryz.func230 rfl en230 (by simp[Tryz.ntmps230]) (ClA.of rfl) rfl rfl fun C hR hP=>?_
 refine vv ?_
 unfold stopP at hR hM2
 cases he:p.e==0 with
 |true=>
  rw[he]at hR hM2
  refine vv ?_
  exact RetQ.of hR rfl scc rvv (sub_sh (SubS.sub ⟨oS,oS,trivial⟩)) (clm_sh hM2) (ClV.of rfl)
 |false=>
  rw[he]at hR hM2
  refine vv ?_
  exact RetQ.of hR rfl scc rvv (sub_sh (SubS.sub ⟨oS,oS,trivial⟩)) (clm_sh hM2) (ClV.of rfl)
theorem wrong_ (T:List Tk)(hT:T.length≤100000)(p:Ps)(h:p.at_<T.length):CallOk Tryz.prog 157 [.c (.p 1 0)] (pM T p) (Bo false) [(1,⟨false,psC T (wrnP T p),96⟩)]:=by
 have hM:=pM_cl T p
 have hM2:=pM_cl T (wrnP T p)
 have hh:=here_ T hT p h
 have hst:=stop_ T p (hereP T p).l (hereP T p).c
 refine CallOk.mkN 100 Tryz.func157 rfl en157 (by simp[Tryz.ntmps157]) (ClA.of rfl) rfl rfl fun C hR hP=>?_
 refine vv ?_
 refine CallQ.mi 100 hh hM ⟨oS,oS,trivial⟩ ?_
 refine vv ?_
 unfold wrnP at hR hM2
 cases hk:((hereP T p).k:Int)==4 with
 |true=>
  have hk2:((hereP T p).k==4)=true:=by rw[beq_iff_eq]at hk⊢;omega
  rw[hk2]at hR hM2
  refine vv ?_
  refine CallQ.mi 100 hh hM ⟨oS,oS,trivial⟩ ?_
  refine vv ?_
  refine CallQ.mi 100 (hst 4) hM ⟨oS,oS,trivial⟩ ?_
  refine vv ?_
  exact RetQ.of hR rfl scc rvv (sub_sh (SubS.sub ⟨oS,oS,trivial⟩)) (clm_sh hM2) (ClV.of rfl)
 |false=>
  have hk2:((hereP T p).k==4)=false:=by rw[beq_eq_false_iff_ne]at hk⊢;omega
  rw[hk2]at hR hM2
  refine vv ?_
  refine CallQ.mi 100 hh hM ⟨oS,oS,trivial⟩ ?_
  refine vv ?_
  refine CallQ.mi 100 (hst 3) hM ⟨oS,oS,trivial⟩ ?_
  refine vv ?_
  exact RetQ.of hR rfl scc rvv (sub_sh (SubS.sub ⟨oS,oS,trivial⟩)) (clm_sh hM2) (ClV.of rfl)
theorem kB (n m:Nat):((n:Int)==(m:Int))=(n==m):=by rw[Bool.eq_iff_iff,beq_iff_eq,beq_iff_eq];omega
theorem is_ (T:List Tk)(hT:T.length≤100000)(p:Ps)(h:p.at_<T.length)(s:Str):CallOk Tryz.prog 229 [.c (.p 1 0),S s] (pM T p) (Bo (isP T s p)) []:=by
 have hM:=pM_cl T p
 have hh:=here_ T hT p h
 have e1:((hereP T p).k==1)=(((hereP T p).k:Int)==1):=(kB _ 1).symm
 have e3:((hereP T p).k==3)=(((hereP T p).k:Int)==3):=(kB _ 3).symm
 refine CallOk.mkN 100 Tryz.func229 rfl en229 (by simp[Tryz.ntmps229]) (ClA.of rfl) rfl rfl fun C hR hP=>?_
 refine vv ?_
 refine CallQ.mi 100 hh hM ⟨oS,oS,trivial⟩ ?_
 refine vv ?_
 unfold isP at hR
 rw[e1,e3]at hR
 refine RetQ.of hR rfl scc ?_ (SubS.sub ⟨oS,oS,trivial⟩) hM (ClV.of rfl)
 cases ((hereP T p).k:Int)==1<;>cases ((hereP T p).k:Int)==3<;>cases (hereP T p).s==s<;>rfl
theorem aP {p:Ps}{T:List Tk}(hT:T.length≤100000)(h:p.at_<T.length):IntKind.i64.wrap ((p.at_:Int)+1)=((p.at_+1:Nat):Int):=wS (by omega)
theorem take_ (T:List Tk)(hT:T.length≤100000)(p:Ps)(h:p.at_<T.length)(s:Str):CallOk Tryz.prog 148 [.c (.p 1 0),S s] (pM T p) (Bo (takP T s p).1) [(1,⟨false,psC T (takP T s p).2,96⟩)]:=by
 have hM:=pM_cl T p
 have hM2:=pM_cl T (takP T s p).2
 have hi:=is_ T hT p h s
 have hw:=wrong_ T hT p h
 refine CallOk.mkN 100 Tryz.func148 rfl en148 (by simp[Tryz.ntmps148]) (ClA.of rfl) rfl rfl fun C hR hP=>?_
 refine vv ?_
 refine CallQ.mi 100 hi hM ⟨oS,oS,trivial⟩ ?_
 refine vv ?_
 unfold takP at hR hM2
 cases hb:isP T s p with
 |true=>
  rw[hb]at hR hM2
  simp(maxSteps:=2000000) only[go_sem,aP hT h]
  exact RetQ.of hR rfl scc rvv (sub_sh (SubS.sub ⟨oS,oS,trivial⟩)) (clm_sh hM2) (ClV.of rfl)
 |false=>
  rw[hb]at hR hM2
  refine vv ?_
  refine CallQ.mi 100 hw hM ⟨oS,oS,trivial⟩ ?_
  refine vv ?_
  exact RetQ.of hR rfl scc rvv (sub_sh (SubS.sub ⟨oS,oS,trivial⟩)) (clm_sh hM2) (ClV.of rfl)
theorem end_ (T:List Tk)(hT:T.length≤100000)(p:Ps)(h:p.at_<T.length):CallOk Tryz.prog 150 [.c (.p 1 0)] (pM T p) (Bo (endP T p).1) [(1,⟨false,psC T (endP T p).2,96⟩)]:=by
 have hM:=pM_cl T p
 have hM2:=pM_cl T (endP T p).2
 have hh:=here_ T hT p h
 have hst:=stop_ T p (hereP T p).l (hereP T p).c 3
 have e4:((hereP T p).k==4)=(((hereP T p).k:Int)==4):=(kB _ 4).symm
 refine CallOk.mkN 100 Tryz.func150 rfl en150 (by simp[Tryz.ntmps150]) (ClA.of rfl) rfl rfl fun C hR hP=>?_
 refine vv ?_
 refine CallQ.mi 100 hh hM ⟨oS,oS,trivial⟩ ?_
 refine vv ?_
 unfold endP at hR hM2
 rw[e4]at hR hM2
 cases hk:((hereP T p).k:Int)==4 with
 |true=>
  rw[hk]at hR hM2
  simp(maxSteps:=2000000) only[go_sem,hk,bne,aP hT h]
  exact RetQ.of hR rfl scc rvv (sub_sh (SubS.sub ⟨oS,oS,trivial⟩)) (clm_sh hM2) (ClV.of rfl)
 |false=>
  rw[hk]at hR hM2
  simp(maxSteps:=2000000) only[go_sem,hk,bne]
  refine CallQ.mi 110 hst hM ⟨oS,oS,trivial⟩ ?_
  refine vv ?_
  exact RetQ.of hR rfl scc rvv (sub_sh (SubS.sub ⟨oS,oS,trivial⟩)) (clm_sh hM2) (ClV.of rfl)
theorem full_ (T:List Tk)(p:Ps)(f:Tk)(m l:Nat):CallOk Tryz.prog 233 [.c (.p 1 0),tkV f,I m,I l] (pM T p) (Bo (fulP f m l p).1) [(1,⟨false,psC T (fulP f m l p).2,96⟩)]:=by
 have hM:=pM_cl T p
 have hM2:=pM_cl T (fulP f m l p).2
 have hst:=stop_ T p f.l f.c 5
 have e4:decide (l≤m)=decide ((l:Int)≤(m:Int)):=by rw[decide_eq_decide];omega
 refine CallOk.mkN 100 Tryz.func233 rfl en233 (by simp[Tryz.ntmps233]) (ClA.of rfl) rfl rfl fun C hR hP=>?_
 refine vv ?_
 unfold fulP at hR hM2
 rw[e4]at hR hM2
 cases hk:decide ((l:Int)≤(m:Int))with
 |true=>
  rw[hk]at hR hM2
  simp(maxSteps:=2000000) only[go_sem,hk]
  refine CallQ.mi 110 hst hM ⟨oS,oS,trivial⟩ ?_
  refine vv ?_
  exact RetQ.of hR rfl scc rvv (sub_sh (SubS.sub ⟨oS,oS,trivial⟩)) (clm_sh hM2) (ClV.of rfl)
 |false=>
  rw[hk]at hR hM2
  simp(maxSteps:=2000000) only[go_sem,hk]
  exact RetQ.of hR rfl scc rvv (sub_sh (SubS.sub ⟨oS,oS,trivial⟩)) (clm_sh hM2) (ClV.of rfl)
open Vg Tf
set_option maxRecDepth 100000
set_option maxHeartbeats 4000000
theorem _root_.Go.Proofs.YtlnpgbnhcondjaaGreatDoor.Vg.Stp.idxV {P:Program}{o:Oper}{e:Env}{M:Mem}{ty el:TypeId}{x i:Operand}{b off len c sz:Nat}{ki:IntKind}{k:Int}(ho:o.op= .indexAddr ty x i)(hx:rd e x=some (true,.c (.v (.slice (some ⟨b,off,none⟩) len c))))(hi:rd e i=some (true,.c (.v (.int ki k))))
  (hsl:slOf P ty=some (el,sz)) (h0:0≤k) (hlt:k<len):Stp P o e M (.c (.v (.pointer (some ⟨b,off+k.toNat*sz,none⟩)))) []:=by
 obtain⟨hu,hsz,hsz0⟩:=slOf_ok hsl
 exact Stp.pure fun β a hop w=>by
  have hex:=hop x (by simp[ho,Op.operands]) _ hx
  have hei:=hop i (by simp[ho,Op.operands]) _ hi
  simp only[gv,V.g,Cv.g,cond_true]at hex hei
  unfold execOp
  simp[ho,hex,hei,Instr.indexAt,asIntOf,run_underlying hu,h0,hlt,run_sizeOf' hsz hsz0,V.g,Cv.g,Addr.add_lit]
def delT:Str:=[100,101,108,97,121]
def lagT:Str:=[108,97,103]
def limT (t:Ft):Int×Int:=(bif fok t then flo t else 0,bif fok t then fhi t else 0)
def newB (d:Dg)(rs:List (Int×Int))(s:Int×Int)(i:Nat)(b:Bl):Int×Int:=
 bif b.kd==delT then hulR s (cnvR (rs.getD (sgN (sigs d) (b.ins.getD 0 [])) (0,0)) (tyAt d (sgN (sigs d) (b.ins.getD 0 []))) (tyN d.tys b.ty))
 else bif b.kd==lagT then rs.getD (d.ins.length+i) (0,0)else s
def newS (d:Dg)(rs:List (Int×Int))(s:Int×Int)(i:Nat):Int×Int:=newB d rs s i (d.bls.getD i bl0)
open Vg Tf
set_option maxRecDepth 100000
set_option maxHeartbeats 4000000
def upto (f:Nat→Int×Int)(N i:Nat):List (Int×Int):=(List.range N).map fun j=>if j<i then f j else(0,0)
def po0:Po:=⟨[],[],0,0⟩
def inF (d:Dg)(j:Nat):Int×Int:=((d.ins.getD j po0).lo,(d.ins.getD j po0).hi)
def stF (d:Dg)(j:Nat):Int×Int:=let b:=d.bls.getD j bl0;bif b.kd==delT then(b.ks.getD 0 0,b.ks.getD 0 0)else(0,0)
def r0 (d:Dg):List (Int×Int):=upto (inF d) (d.ins.length+d.bls.length) d.ins.length
def s0 (d:Dg):List (Int×Int):=upto (stF d) d.bls.length d.bls.length
set_option maxHeartbeats 4000000
theorem lim0 (t:Ft):(limT t).1≤0∧0≤(limT t).2:=by
 unfold limT
 cases h:fok t with
 |true=>have:=flo_bd t h;simp only[cond_true];omega
 |false=>simp
def gdR (t:Ft)(r:Int×Int):Prop:=(limT t).1≤r.1∧r.1≤r.2∧r.2≤(limT t).2
theorem gd0 (t:Ft):gdR t (0,0):=⟨(lim0 t).1,Int.le_refl _,(lim0 t).2⟩
open Vg Tf
set_option maxRecDepth 100000
set_option maxHeartbeats 4000000
open Vg Tf
set_option maxRecDepth 100000
set_option maxHeartbeats 4000000
open Vg Tf
set_option maxRecDepth 100000
set_option maxHeartbeats 4000000
theorem concV {L:List Nat}{β:Vl}{l:List Cv}(h:l.all Cv.isV=true):l.map (Cv.conc L β)=l:=by
 rw[List.all_eq_true]at h
 conv=>rhs;rw[←List.map_id l]
 refine List.map_congr_left fun c hc=>?_
 have:=h c hc
 cases c with
 |v x=>rfl
 |_=>cases this
@[go_sem] theorem mode_at:(Region.Mode.any==Region.Mode.text)=false:=rfl
theorem setV {cs:List Cv}{i:Nat}{v:Value}(h:cs.all Cv.isV=true):(cs.set i (.v v)).all Cv.isV=true:=by
 rw[List.all_eq_true]at h⊢
 intro x hx
 rcases List.mem_or_eq_of_mem_set hx with hx|rfl
 ·exact h x hx
 ·rfl
def zR (v:Sv×List Int):List Value:=[vsl v.1 v.2.length]
@[reducible] def z7:List Cv:=[.v (.string ⟨#[]⟩),.v (.slice none 0 0),.v (.slice none 0 0),.v (.slice none 0 0),.v (.slice none 0 0),.v (.slice none 0 0),.v (.slice none 0 0)]
open Vg Tf
set_option maxRecDepth 100000
set_option maxHeartbeats 4000000
theorem _root_.Go.Proofs.YtlnpgbnhcondjaaGreatDoor.Vg.Rel.eqc {S:Bs}{w0 w:World}{β:Vl}{M:Mem}(h:Rel S w0 β M w){n:Nat}{b:Bk}{cs:List Cv}(hb:M.get n=some b)(hg:∀β',Agree M β β'→cs.map (Cv.g β')=b.cells.map (Cv.g β')):Rel S w0 β ((n,⟨b.ro,cs,b.elem⟩)::M) w:=by
 have hl:cs.length=b.cells.length:=by have:=congrArg List.length (hg β (Agree.refl _ _));simpa using this
 have hs:∀k,(Mem.get ((n,⟨b.ro,cs,b.elem⟩)::M) k).isSome=(M.get k).isSome:=fun k=>by
  rw[Mem.get_cons]
  split
  ·rename_i hk;subst hk;rw[hb];rfl
  ·rfl
 have hq:∀k c,Mem.get ((n,⟨b.ro,cs,b.elem⟩)::M) k=some c→∃c0,M.get k=some c0∧c.ro=c0.ro∧c.elem=c0.elem∧c.cells.length=c0.cells.length∧∀β',Agree M β β'→c.cells.map (Cv.g β')=c0.cells.map (Cv.g β'):=fun k c hc=>by
  rw[Mem.get_cons]at hc
  split at hc
  ·rename_i hk;subst hk;cases hc;exact⟨b,hb,rfl,rfl,hl,hg⟩
  ·exact⟨c,hc,rfl,rfl,rfl,fun _ _=>rfl⟩
 refine⟨h.fr,⟨fun β' hag k c hc=>?_,fun k c hc hu=>?_,fun k m c c' hc hc' hne hr hv hu1 hu2=>?_⟩,fun k c hc hr hu hS=>?_,fun k l hk=>?_⟩
 ·obtain⟨c0,q1,q2,q3,q4,q5⟩:=hq k c hc
  have hag':Agree M β β':=fun j hj=>hag j (by rw[hs];exact hj)
  have h0:=h.mem.ok β' hag' k c0 q1
  unfold BkOk at h0⊢
  rw[q2,q3,q5 β' hag',q4]
  split at h0
  ·rename_i hh
   rw[if_pos hh]
   exact⟨List.length_eq_zero_iff.1 (by rw[q4,h0.1];rfl),h0.2⟩
  ·rename_i hh
   rw[if_neg hh];exact h0
 ·obtain⟨c0,q1,_⟩:=hq k c hc
  exact h.mem.there k c0 q1 hu
 ·obtain⟨c0,q1,q2,q3,q4,q5⟩:=hq k c hc
  obtain⟨d0,r1,r2,r3,r4,r5⟩:=hq m c' hc'
  refine h.mem.apart k m c0 d0 q1 r1 hne (by rw[←q2];exact hr) ?_ hu1 hu2
  rcases hv with hv|hv
  ·exact .inl (by rw[←r2];exact hv)
  ·exact .inr fun he=>hv (List.length_eq_zero_iff.1 (by rw[r4,he];rfl))
 ·obtain⟨c0,q1,q2,_⟩:=hq k c hc
  exact h.own k c0 q1 (by rw[←q2];exact hr) hu hS
 ·have:=h.pin k l hk
  exact⟨by rw[hs];exact this.1,this.2⟩
@[go_sem ↓] theorem plS_1_13:plS 1 13=[(0,13)]:=rfl
structure Sg where
 nm:Str
 ty:Ft
 r:Int×Int
def Sg.w (s:Sg):List Value:=sv s.nm::(ftR s.ty++[iv s.r.1,iv s.r.2])
structure CkR where
 d:Dg
 sg:List Sg
 od:List Nat
structure CkL where
 d:DgL
 sg:List Sg
 od:List Nat
 s:Sv
 o:Sv
def CkL.r (c:CkL):List Value:=c.d.r++[vsl c.s c.sg.length,vsl c.o c.od.length]
def CkL.c (c:CkL):CkR:=⟨c.d.c,c.sg,c.od⟩
structure CkL.ok (H:Hp) (c:CkL):Prop where
 d:c.d.ok H
 s:SlH H (vsl c.s c.sg.length) 13 (c.sg.map Sg.w)
 o:SlH H (vsl c.o c.od.length) 1 (c.od.map fun n:Nat=>[iv n])
end Go.Proofs.YtlnpgbnhcondjaaGreatDoor.Fx
