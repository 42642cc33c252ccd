/-  -/
import Derived.Test.YtlnpgbnhcondjaaGreatDoorPS
import Derived.Test.YtlnpgbnhcondjaaGreatDoorQH
import Derived.Test.YtlnpgbnhcondjaaGreatDoorFC2
import Derived.Laws.BitsAll
import Derived.Laws.Externs
import Derived.Test.YtlnpgbnhcondjaaGreatDoorMB
namespace Go.Proofs.YtlnpgbnhcondjaaGreatDoor.Fx
open Vg Tf
set_option linter.unusedSimpArgs false
set_option linter.unusedVariables false
set_option maxRecDepth 100000
set_option maxHeartbeats 4000000
def fitE (d:Dg)(b:Bl):Option (Str×Int):=if uniB b.kd (unT (tyN d.tys b.ty)) (usOf d b)=false then some (b.nm,12)else if numB (tyN d.tys b.ty) b=false then some (b.nm,2)else none
end Go.Proofs.YtlnpgbnhcondjaaGreatDoor.Fx
namespace Go.Proofs.YtlnpgbnhcondjaaGreatDoor.Fx
open Vg Tf
set_option linter.unusedSimpArgs false
set_option linter.unusedVariables false
set_option maxRecDepth 100000
set_option maxHeartbeats 4000000
theorem _root_.Go.Proofs.YtlnpgbnhcondjaaGreatDoor.Vg.StpC.callB {H:Hp}{P:Program}{C:Cx}{o:Oper}{e:Env}{M:Mem}{f:FuncId}{x:Operand}{u:Value}{v:V}{tys:Array TypeId}(hc:CallH H P f [.c (.v u)] v)(hH:H.le C.hp)(ho:o.op= .call {callee:= .value x,args:= #[],argTypes:=tys})
  (hx:rd e x=some (true,.c (.v (.func (.func f) #[u] #[])))):StpC P C.S C.w0 o e M v []:=by
 intro β M' a w hsub hfr' hrel hok K Q hk
 have he:=hok β (Agree.refl _ _) x (by simp[ho,Op.operands,Call.operands]) _ hx
 simp only[gv,V.g,Cv.g,cond_true]at he
 have hent:=hc.1
 have hrun:(execOp a.eval o).run P w= .ok (.enter f #[u]) w:=by
  unfold execOp
  simp[ho,resolve,he,Deferred.ofValue,invoke,hent #[u] w]
 unfold Oper.wp
 rw[hrun,Oper.upon_enter]
 refine((hc.kx hH).2 β w M' hrel (Sub.nil _) (fun k h=>by cases h)).mono ?_
 rintro en w' ⟨β2,u',rfl,h1,h2,h3⟩
 exact hk β2 u' w' h1 h2 h3
@[go_sem ↓] theorem plS_4_1:plS 4 1=[(0,1),(1,1),(2,1),(3,1)]:=rfl
def allN (d:Dg):List Str:=d.tys.map (·.nm)++(d.cus.map (·.nm)++d.mas.map (·.nm))++sigs d
def allE (d:Dg):Option (Str×Int):=match dupF [] (allN d)with
 |some s=>some (s,8)
 |none=>(firstF (inpE d.tys) d.ins).or ((firstF (blkE d.tys d.cus d.mas (sigs d)) d.bls).or ((outE (sigs d) [] d.ous).or (firstF (fitE d) d.bls)))
end Go.Proofs.YtlnpgbnhcondjaaGreatDoor.Fx
namespace Go.Proofs.YtlnpgbnhcondjaaGreatDoor.Fx
open Vg Tf
set_option linter.unusedSimpArgs false
set_option linter.unusedVariables false
set_option maxRecDepth 100000
abbrev cu (n:Int):Cv:= .v (.int .u64 n)
end Go.Proofs.YtlnpgbnhcondjaaGreatDoor.Fx
namespace Go.Proofs.YtlnpgbnhcondjaaGreatDoor.Fx
open Vg Tf
set_option linter.unusedSimpArgs false
set_option linter.unusedVariables false
set_option maxRecDepth 100000
@[go_sem] def va (t:Ft)(r:Int):V:= .agg [ci t.bits,.v (.bool t.signed),ci t.num,ci t.off,ci t.den,ci t.m,ci t.kg,ci t.s,ci t.a,ci t.k,ci r]
@[go_sem] def rg (lo hi:Int):V:= .agg [ci lo,ci hi]
def fixR (t:Ft)(n d:Int):Int:=min (max (rnd 3 (n*t.den-t.off*d) (d*t.num)) (flo t)) (fhi t)
end Go.Proofs.YtlnpgbnhcondjaaGreatDoor.Fx
namespace Go.Proofs.YtlnpgbnhcondjaaGreatDoor.Fx
open Vg Tf
set_option linter.unusedSimpArgs false
set_option linter.unusedVariables false
set_option maxRecDepth 100000
@[go_sem] def unF (t:Ft):V:= .agg [ci t.m,ci t.kg,ci t.s,ci t.a,ci t.k]
end Go.Proofs.YtlnpgbnhcondjaaGreatDoor.Fx
namespace Go.Proofs.YtlnpgbnhcondjaaGreatDoor.Fx
open Vg Tf
set_option linter.unusedSimpArgs false
set_option linter.unusedVariables false
set_option maxRecDepth 100000
@[go_sem] def vaL (t:Ft)(r:Int):List Cv:=[ci t.bits,.v (.bool t.signed),ci t.num,ci t.off,ci t.den,ci t.m,ci t.kg,ci t.s,ci t.a,ci t.k,ci r]
def z0:Ft:=⟨0,false,0,0,0,0,0,0,0,0⟩
end Go.Proofs.YtlnpgbnhcondjaaGreatDoor.Fx
namespace Go.Proofs.YtlnpgbnhcondjaaGreatDoor.Fx
open Vg Tf
set_option linter.unusedSimpArgs false
set_option linter.unusedVariables false
set_option maxRecDepth 100000
set_option maxHeartbeats 4000000
@[go_sem] def fxL (t:Ft):List Cv:=[ci t.bits,.v (.bool t.signed),ci t.num,ci t.off,ci t.den,ci t.m,ci t.kg,ci t.s,ci t.a,ci t.k]
theorem _root_.Go.Proofs.YtlnpgbnhcondjaaGreatDoor.Vg.Sm.cut {P:Program}{nt:Nat}{C:Cx}{todo:List It}{e:Env}{M M0:Mem}(hP:Pins C.S M0)(E:Env)(Mm:Mem)(L:List (Nat×Nat))(h0:Met C.S M0 E Mm e M L)(hM:ClM Mm)(hE:∀p∈E,ClV Mm p.2.2)(h:Sm P nt C todo E Mm):Sm P nt C todo e M:=
 Sm.wkn (Wkn.ren L hP h0.1 h0.2.1 h0.2.2.1 h0.2.2.2 hM hE) h
@[go_sem ↓] theorem plS21:plS 2 1=[(0,1),(1,1)]:=rfl
@[go_sem ↓] theorem plS52:plS 5 2=[(0,2),(2,2),(4,2),(6,2),(8,2)]:=rfl
end Go.Proofs.YtlnpgbnhcondjaaGreatDoor.Fx
namespace Go.Proofs.YtlnpgbnhcondjaaGreatDoor.Fx
open Vg Tf
set_option linter.unusedSimpArgs false
set_option linter.unusedVariables false
set_option maxRecDepth 100000
set_option maxHeartbeats 4000000
def uS (a b:Ft):Bool:=(a.m==b.m)&&((a.kg==b.kg)&&((a.s==b.s)&&((a.a==b.a)&&(a.k==b.k))))
def gErr (a:Ft)(x:Int)(t:Ft):Int:=if (fok a&&fin a x)=false∨fok t=false then 1 else if uS a t=false then 12 else 0
def gR (s:Int)(a:Ft)(x:Int)(t:Ft):Int:=if gErr a x t=0 then fixR t (fnu a x*s) a.den else 0
end Go.Proofs.YtlnpgbnhcondjaaGreatDoor.Fx
namespace Go.Proofs.YtlnpgbnhcondjaaGreatDoor.Fx
open Vg Tf
set_option linter.unusedSimpArgs false
set_option linter.unusedVariables false
set_option maxRecDepth 100000
set_option maxHeartbeats 4000000
def hulR (a b:Int×Int):Int×Int:=(min a.1 b.1,max a.2 b.2)
def cnvR (r:Int×Int)(a b:Ft):Int×Int:=(gR 1 a r.1 b,gR 1 a r.2 b)
end Go.Proofs.YtlnpgbnhcondjaaGreatDoor.Fx
namespace Go.Proofs.YtlnpgbnhcondjaaGreatDoor.Fx
open Vg Tf
set_option linter.unusedSimpArgs false
set_option linter.unusedVariables false
set_option maxRecDepth 100000
set_option maxHeartbeats 4000000
theorem _root_.Go.Proofs.YtlnpgbnhcondjaaGreatDoor.Vg.Sm.mapIns {P:Program}{nt:Nat}{C Ck:Cx}{rg:Array Oper}{o:Oper}{l:List Oper}{r:List It}{e:Env}{M:Mem}{t tk te:TypeId}{m x y:Operand}{b:Nat}{al:Al}{s:ByteArray}{v:V}{u:Value}(hL:Lf C Ck)(hg:gd rg e o=some true)(hd:o.dst=none)(ho:o.op= .insert t m x y)(ht:mpOf P t=some (tk,te))
  (hm:rd e m=some (true,.c (.v (.map (some b))))) (hx:rd e x=some (true,.c (.v (.string s)))) (hy:rd e y=some (true,v)) (hv:∀β,v.g β=u) (hb:MpB Ck.hp b al) (hf:C.w0.heap.size≤b)
  (k:∀Cn,Lf C Cn→(∀b' o,b'≠b→Ck.hp b' o→Cn.hp b' o)→MpB Cn.hp b (aput al s u)→Sm P nt Cn (.ops rg l::r) e M):Sm P nt Ck (.ops rg (o::l)::r) e M:=fun β a w h1 h2 h3 h4=>by
 have hw:Region.wanted o (yielded rg a.tmps)=true:=gd_ok (β:=β) hg (fun j want t y _ _ hy=>h2 β (Agree.refl _ _) t y hy)
 show wpListIn (fen Ck.lp) 0 P rg (cont P Ck.lp Ck.Q r) (o::l) a w
 refine wpListIn_step fun K hK=>?_
 rw[hw]
 simp only[if_true]
 refine Oper.wp_in Ck.lp (gd_nd hg).1 ?_
 obtain⟨es,clk,q1,q2⟩:=hb
 have hbw:=Cx.hp_now h1 q1
 have hnw:=Cx.hp_wrt h1 q1
 have em:=rd_ok h2 (Agree.refl _ _) hm
 have ex:=rd_ok h2 (Agree.refl _ _) hx
 have ey:=rd_ok h2 (Agree.refl _ _) hy
 simp only[gv,V.g,Cv.g,cond_true]at em ex
 simp only[gv,cond_true,hv]at ey
 obtain⟨es',clk',hrun,hes⟩:=run_updateS ht hbw q2 s u
 unfold Oper.wp execOp
 simp only[ho,em,ex,ey,Sem.run_bind,hrun,Result.andThen_ok,Sem.run_pure]
 show K _ _
 have hrelC:Rel C.S C.w0 β M w:=hL.rel h1
 -- the world behind,seen from the first view
 have hp:Rel C.S C.w0 β M {w with heap:=w.heap.setIfInBounds b (.map es' clk')}:=hrelC.hset hbw hnw (by intro c el mk hh;cases hh) (fun _=>hf)
 have hLC:Lf C C:=Lf.refl hL.zok
 obtain⟨l1,l2⟩:=hLC.at hp (s:=fun b=>¬Wrt β M b) (fun b hb=>Classical.not_not.1 hb)
 have hq:=hp.at hLC (s:=fun b=>¬Wrt β M b) (fun b hb hn=>hn hb) hp.mem (fun n l hl=>(hp.pin n l hl).1)
 have hlt:b<w.heap.size:=(Array.getElem?_eq_some_iff.1 hbw).1
 have hput:∀u,a.put o.dst u=a:=fun u=>by rw[hd];rfl
 rw[hput]
 have:=hK a {w with heap:=w.heap.setIfInBounds b (.map es' clk')} ?_
 ·simpa[hput]using this
 rw[hL.q,hL.lp]
 refine k _ l1 (fun b' o' hne ho'=>⟨Cx.hp_wrt h1 ho',?_,?_⟩) ⟨es',clk',⟨hnw,?_,?_⟩,hes⟩ β a _ hq h2 h3 (h4.trans hL.df)
 ·have:=ho'.2.1
  rw[hL.z]at this;exact this
 ·show(w.heap.setIfInBounds b _)[b']?=_
  rw[Array.getElem?_setIfInBounds_ne (Ne.symm hne)]
  exact Cx.hp_now h1 ho'
 ·intro hz
  have:=(hL.zok _ hz).2
  omega
 ·show(w.heap.setIfInBounds b _)[b]?=_
  simp[hlt]
end Go.Proofs.YtlnpgbnhcondjaaGreatDoor.Fx
namespace Go.Proofs.YtlnpgbnhcondjaaGreatDoor.Fx
open Vg Tf
set_option linter.unusedSimpArgs false
set_option linter.unusedVariables false
set_option maxRecDepth 100000
set_option maxHeartbeats 4000000
end Go.Proofs.YtlnpgbnhcondjaaGreatDoor.Fx
namespace Go.Proofs.YtlnpgbnhcondjaaGreatDoor.Fx
open Vg Tf
set_option linter.unusedSimpArgs false
set_option linter.unusedVariables false
set_option maxRecDepth 100000
set_option maxHeartbeats 4000000
@[go_sem ↓] theorem plS_1_2:plS 1 2=[(0,2)]:=rfl
@[go_sem ↓] theorem plS_1_10:plS 1 10=[(0,10)]:=rfl
def bl0:Bl:=⟨[],[],[],[],[],[]⟩
theorem get_sh {n:Nat}{b b':Bk}{r:Mem}(k:Nat):Mem.get ((n,b)::(n,b')::r) k=Mem.get ((n,b)::r) k:=by
 simp only[Mem.get_cons]
 by_cases h:k=n
 ·simp[h]
 ·simp[h]
theorem sub_sh {n:Nat}{b b':Bk}{r M:Mem}(h:Sub ((n,b)::r) M):Sub ((n,b)::(n,b')::r) M:=fun k c hk=>h k c (by rw[←get_sh (b':=b')];exact hk)
theorem clm_sh {n:Nat}{b b':Bk}{r:Mem}(h:ClM ((n,b)::r)):ClM ((n,b)::(n,b')::r):=fun β β' hag k c hk=>
 h β β' (fun k hn=>hag k (by rw[get_sh];exact hn)) k c (by rw[←get_sh (b':=b')];exact hk)
end Go.Proofs.YtlnpgbnhcondjaaGreatDoor.Fx
