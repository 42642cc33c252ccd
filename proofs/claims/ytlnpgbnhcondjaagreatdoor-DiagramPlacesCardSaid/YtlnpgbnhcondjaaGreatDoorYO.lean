/-  -/
import Derived.Test.YtlnpgbnhcondjaaGreatDoorPS
import Derived.Test.YtlnpgbnhcondjaaGreatDoorMB
namespace Go.Proofs.YtlnpgbnhcondjaaGreatDoor
namespace Vg
open Go.RowKit
set_option linter.unusedVariables false
theorem Stp.mkB {P:Program}{o:Oper}{e:Env}{M:Mem}{f:FuncId}{x:Operand}{v:Value}(ho:o.op= .makeFunc (.func f) #[x] #[])(hx:rd e x=some (true,.c (.v v))):Stp P o e M (.c (.v (.func (.func f) #[v] #[]))) []:=
 Stp.pure fun β a hop w=>by
  have hex:=hop x (by simp[ho,Op.operands]) _ hx
  simp only[gv,V.g,Cv.g,cond_true]at hex
  unfold execOp
  simp[ho,hex,Instr.makeFunc,V.g,Cv.g]
theorem call_runB {P:Program}{o:Oper}{e:Env}{M':Mem}{f:FuncId}{pv:Value}{x:Operand}{as:Array Operand}{tys:Array TypeId}{vs:List V}{β:Vl}{a:Act}{w:World}(ho:o.op= .call {callee:= .value x,args:=as,argTypes:=tys})
  (hx:rd e x=some (true,.c (.v (.func (.func f) #[pv] #[])))) (hvs:as.toList.map (rd e)=vs.map fun x=>some (true,x)) (hent:Enters P f) (hok:OpOk β M' e o a):(execOp a.eval o).run P w= .ok (.enter f (((V.c (.v pv))::vs).map (V.g β)).toArray) w:=by
 have hargs:=args_run ho hvs (hok β (Agree.refl _ _))
 have hf:a.eval x= .func (.func f) #[pv] #[]:=by
  have:=hok β (Agree.refl _ _) x (by simp[ho,Op.operands,Call.operands]) _ hx
  simpa[gv,V.g,Cv.g]using this
 have hcc:(((V.c (.v pv))::vs).map (V.g β)).toArray= #[pv]++(vs.map (V.g β)).toArray:=by
  apply Array.toList_inj.1
  simp[V.g,Cv.g]
 unfold execOp
 rw[ho]
 show((do let d ←resolve a.eval {callee:= .value x,args:=as,argTypes:=tys} o.type;invoke d.target d.args:Sem Next)).run P w=_
 simp only[resolve,hf,Deferred.ofValue,invoke,hargs,Sem.run_bind,Sem.run_pure,Result.andThen_ok]
 have happ: #[pv]++(vs.map (V.g β)).toArray++(#[]:Array Value)= #[pv]++(vs.map (V.g β)).toArray:=Array.append_empty
 rw[happ,hent,hcc]
theorem Sm.callB {P:Program}{nt:Nat}{C:Cx}{rg:Array Oper}{o:Oper}{l:List Oper}{r:List It}{e:Env}{M:Mem}{f:FuncId}{pv:Value}{x:Operand}{as:Array Operand}{tys:Array TypeId}{xs:List V}(hg:gd rg e o=some true)(ho:o.op= .call {callee:= .value x,args:=as,argTypes:=tys})
  (hx:rd e x=some (true,.c (.v (.func (.func f) #[pv] #[])))) (hvs:as.toList.map (rd e)=xs.map fun x=>some (true,x)) (hent:Enters P f) (h:CallW P nt C f (.c (.v pv)::xs) o.dst (.ops rg l::r) e M):Sm P nt C (.ops rg (o::l)::r) e M:=fun β a w h1 h2 h3 h4=>by
 have hw:Region.wanted o (yielded rg a.tmps)=true:=gd_ok (β:=β) hg (fun j want t y _ _ hy=>h2 β (Agree.refl _ _) t y hy)
 show wpListIn (fen C.lp) 0 P rg (cont P C.lp C.Q r) (o::l) a w
 refine wpListIn_step fun K hK=>?_
 rw[hw]
 simp only[if_true]
 refine Oper.wp_in C.lp (gd_nd hg).1 ?_
 unfold Oper.wp
 rw[call_runB (M':=M) ho hx hvs hent (fun β' hb x _ y hy=>rd_ok h2 hb hy),Oper.upon_enter]
 refine(h β a w h1 h2 h3 h4).mono ?_
 rintro en w' ⟨u,rfl,hc⟩
 exact hK _ _ hc
section
set_option linter.unusedSimpArgs false
variable {P:Program} {nt:Nat} {C Ck:Cx} {rg:Array Oper} {o:Oper} {l:List Oper} {r:List It} {e:Env} {M:Mem}
theorem Sm.mapIns {t tk te:TypeId}{m x y:Operand}{b:Nat}{al:Al}{s:ByteArray}{v:V}{u:Value}(hL:Lf C Ck)(hg:gd rg e o=some true)(hd:o.dst=none)(ho:o.op= .insert t m x y)(ht:mpOf P t=some (tk,te))
  (hm:rd e m=some (true,.c (.v (.map (some b))))) (hx:rd e x=some (true,.c (.v (.string s)))) (hy:rd e y=some (true,v)) (hv:∀β,v.g β=u) (hb:MpB Ck.hp b al) (hf:C.w0.heap.size≤b)
  (k:∀Cn,Lf C Cn→(∀b' o,b'≠b→Ck.hp b' o→Cn.hp b' o)→MpB Cn.hp b (aput al s u)→Sm P nt Cn (.ops rg l::r) e M):Sm P nt Ck (.ops rg (o::l)::r) e M:=fun β a w h1 h2 h3 h4=>by
 have hw:Region.wanted o (yielded rg a.tmps)=true:=gd_ok (β:=β) hg (fun j want t y _ _ hy=>h2 β (Agree.refl _ _) t y hy)
 show wpListIn (fen Ck.lp) 0 P rg (cont P Ck.lp Ck.Q r) (o::l) a w
 refine wpListIn_step fun K hK=>?_
 rw[hw]
 simp only[if_true]
 refine Oper.wp_in Ck.lp (gd_nd hg).1 ?_
 obtain⟨es,clk,q1,q2⟩:=hb
 have hbw:=Cx.hp_now h1 q1
 have hnw:=Cx.hp_wrt h1 q1
 have em:=rd_ok h2 (Agree.refl _ _) hm
 have ex:=rd_ok h2 (Agree.refl _ _) hx
 have ey:=rd_ok h2 (Agree.refl _ _) hy
 simp only[gv,V.g,Cv.g,cond_true]at em ex
 simp only[gv,cond_true,hv]at ey
 obtain⟨es',clk',hrun,hes⟩:=run_updateS ht hbw q2 s u
 unfold Oper.wp execOp
 simp only[ho,em,ex,ey,Sem.run_bind,hrun,Result.andThen_ok,Sem.run_pure]
 show K _ _
 have hrelC:Rel C.S C.w0 β M w:=hL.rel h1
 -- the world behind,seen from the first view
 have hp:Rel C.S C.w0 β M {w with heap:=w.heap.setIfInBounds b (.map es' clk')}:=hrelC.hset hbw hnw (by intro c el mk hh;cases hh) (fun _=>hf)
 have hLC:Lf C C:=Lf.refl hL.zok
 obtain⟨l1,l2⟩:=hLC.at hp (s:=fun b=>¬Wrt β M b) (fun b hb=>Classical.not_not.1 hb)
 have hq:=hp.at hLC (s:=fun b=>¬Wrt β M b) (fun b hb hn=>hn hb) hp.mem (fun n l hl=>(hp.pin n l hl).1)
 have hlt:b<w.heap.size:=(Array.getElem?_eq_some_iff.1 hbw).1
 have hput:∀u,a.put o.dst u=a:=fun u=>by rw[hd];rfl
 rw[hput]
 have:=hK a {w with heap:=w.heap.setIfInBounds b (.map es' clk')} ?_
 ·simpa[hput]using this
 rw[hL.q,hL.lp]
 refine k _ l1 (fun b' o' hne ho'=>⟨Cx.hp_wrt h1 ho',?_,?_⟩) ⟨es',clk',⟨hnw,?_,?_⟩,hes⟩ β a _ hq h2 h3 (h4.trans hL.df)
 ·have:=ho'.2.1
  rw[hL.z]at this;exact this
 ·show(w.heap.setIfInBounds b _)[b']?=_
  rw[Array.getElem?_setIfInBounds_ne (Ne.symm hne)]
  exact Cx.hp_now h1 ho'
 ·intro hz
  have:=(hL.zok _ hz).2
  omega
 ·show(w.heap.setIfInBounds b _)[b]?=_
  simp[hlt]
end
end Vg
end Go.Proofs.YtlnpgbnhcondjaaGreatDoor
