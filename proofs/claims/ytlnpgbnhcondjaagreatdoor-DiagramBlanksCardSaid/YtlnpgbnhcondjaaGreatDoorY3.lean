/-  -/
import Derived.Test.YtlnpgbnhcondjaaGreatDoorPS
import Derived.Test.YtlnpgbnhcondjaaGreatDoorFC2
import Derived.Laws.BitsAll
import Derived.Laws.Externs
import Derived.Test.YtlnpgbnhcondjaaGreatDoorMB
import Derived.Test.YtlnpgbnhcondjaaGreatDoorQJ
import Derived.Test.YtlnpgbnhcondjaaGreatDoorY2
import Derived.Test.YtlnpgbnhcondjaaGreatDoorQ4
namespace Go.Proofs.YtlnpgbnhcondjaaGreatDoor.Fx
open Vg Tf
set_option linter.unusedSimpArgs false
set_option linter.unusedVariables false
set_option maxRecDepth 100000
abbrev cu (n:Int):Cv:= .v (.int .u64 n)
end Go.Proofs.YtlnpgbnhcondjaaGreatDoor.Fx
namespace Go.Proofs.YtlnpgbnhcondjaaGreatDoor.Fx
open Vg Tf
set_option linter.unusedSimpArgs false
set_option linter.unusedVariables false
set_option maxRecDepth 100000
@[go_sem] def va (t:Ft)(r:Int):V:= .agg [ci t.bits,.v (.bool t.signed),ci t.num,ci t.off,ci t.den,ci t.m,ci t.kg,ci t.s,ci t.a,ci t.k,ci r]
@[go_sem] def rg (lo hi:Int):V:= .agg [ci lo,ci hi]
def fixR (t:Ft)(n d:Int):Int:=min (max (rnd 3 (n*t.den-t.off*d) (d*t.num)) (flo t)) (fhi t)
end Go.Proofs.YtlnpgbnhcondjaaGreatDoor.Fx
namespace Go.Proofs.YtlnpgbnhcondjaaGreatDoor.Fx
open Vg Tf
set_option linter.unusedSimpArgs false
set_option linter.unusedVariables false
set_option maxRecDepth 100000
@[go_sem] def unF (t:Ft):V:= .agg [ci t.m,ci t.kg,ci t.s,ci t.a,ci t.k]
end Go.Proofs.YtlnpgbnhcondjaaGreatDoor.Fx
namespace Go.Proofs.YtlnpgbnhcondjaaGreatDoor.Fx
open Vg Tf
set_option linter.unusedSimpArgs false
set_option linter.unusedVariables false
set_option maxRecDepth 100000
@[go_sem] def vaL (t:Ft)(r:Int):List Cv:=[ci t.bits,.v (.bool t.signed),ci t.num,ci t.off,ci t.den,ci t.m,ci t.kg,ci t.s,ci t.a,ci t.k,ci r]
def z0:Ft:=⟨0,false,0,0,0,0,0,0,0,0⟩
end Go.Proofs.YtlnpgbnhcondjaaGreatDoor.Fx
namespace Go.Proofs.YtlnpgbnhcondjaaGreatDoor.Fx
open Vg Tf
set_option linter.unusedSimpArgs false
set_option linter.unusedVariables false
set_option maxRecDepth 100000
set_option maxHeartbeats 4000000
@[go_sem] def fxL (t:Ft):List Cv:=[ci t.bits,.v (.bool t.signed),ci t.num,ci t.off,ci t.den,ci t.m,ci t.kg,ci t.s,ci t.a,ci t.k]
theorem _root_.Go.Proofs.YtlnpgbnhcondjaaGreatDoor.Vg.Sm.cut {P:Program}{nt:Nat}{C:Cx}{todo:List It}{e:Env}{M M0:Mem}(hP:Pins C.S M0)(E:Env)(Mm:Mem)(L:List (Nat×Nat))(h0:Met C.S M0 E Mm e M L)(hM:ClM Mm)(hE:∀p∈E,ClV Mm p.2.2)(h:Sm P nt C todo E Mm):Sm P nt C todo e M:=
 Sm.wkn (Wkn.ren L hP h0.1 h0.2.1 h0.2.2.1 h0.2.2.2 hM hE) h
@[go_sem ↓] theorem plS21:plS 2 1=[(0,1),(1,1)]:=rfl
@[go_sem ↓] theorem plS52:plS 5 2=[(0,2),(2,2),(4,2),(6,2),(8,2)]:=rfl
end Go.Proofs.YtlnpgbnhcondjaaGreatDoor.Fx
namespace Go.Proofs.YtlnpgbnhcondjaaGreatDoor.Fx
open Vg Tf
set_option linter.unusedSimpArgs false
set_option linter.unusedVariables false
set_option maxRecDepth 100000
set_option maxHeartbeats 4000000
def uS (a b:Ft):Bool:=(a.m==b.m)&&((a.kg==b.kg)&&((a.s==b.s)&&((a.a==b.a)&&(a.k==b.k))))
def gErr (a:Ft)(x:Int)(t:Ft):Int:=if (fok a&&fin a x)=false∨fok t=false then 1 else if uS a t=false then 12 else 0
def gR (s:Int)(a:Ft)(x:Int)(t:Ft):Int:=if gErr a x t=0 then fixR t (fnu a x*s) a.den else 0
end Go.Proofs.YtlnpgbnhcondjaaGreatDoor.Fx
namespace Go.Proofs.YtlnpgbnhcondjaaGreatDoor.Fx
open Vg Tf
set_option linter.unusedSimpArgs false
set_option linter.unusedVariables false
set_option maxRecDepth 100000
set_option maxHeartbeats 4000000
def hulR (a b:Int×Int):Int×Int:=(min a.1 b.1,max a.2 b.2)
def cnvR (r:Int×Int)(a b:Ft):Int×Int:=(gR 1 a r.1 b,gR 1 a r.2 b)
end Go.Proofs.YtlnpgbnhcondjaaGreatDoor.Fx
namespace Go.Proofs.YtlnpgbnhcondjaaGreatDoor.Fx
open Vg Tf
set_option linter.unusedSimpArgs false
set_option linter.unusedVariables false
set_option maxRecDepth 100000
set_option maxHeartbeats 4000000
theorem _root_.Go.Proofs.YtlnpgbnhcondjaaGreatDoor.Vg.Sm.mapIns {P:Program}{nt:Nat}{C Ck:Cx}{rg:Array Oper}{o:Oper}{l:List Oper}{r:List It}{e:Env}{M:Mem}{t tk te:TypeId}{m x y:Operand}{b:Nat}{al:Al}{s:ByteArray}{v:V}{u:Value}(hL:Lf C Ck)(hg:gd rg e o=some true)(hd:o.dst=none)(ho:o.op= .insert t m x y)(ht:mpOf P t=some (tk,te))
  (hm:rd e m=some (true,.c (.v (.map (some b))))) (hx:rd e x=some (true,.c (.v (.string s)))) (hy:rd e y=some (true,v)) (hv:∀β,v.g β=u) (hb:MpB Ck.hp b al) (hf:C.w0.heap.size≤b)
  (k:∀Cn,Lf C Cn→(∀b' o,b'≠b→Ck.hp b' o→Cn.hp b' o)→MpB Cn.hp b (aput al s u)→Sm P nt Cn (.ops rg l::r) e M):Sm P nt Ck (.ops rg (o::l)::r) e M:=fun β a w h1 h2 h3 h4=>by
 have hw:Region.wanted o (yielded rg a.tmps)=true:=gd_ok (β:=β) hg (fun j want t y _ _ hy=>h2 β (Agree.refl _ _) t y hy)
 show wpListIn (fen Ck.lp) 0 P rg (cont P Ck.lp Ck.Q r) (o::l) a w
 refine wpListIn_step fun K hK=>?_
 rw[hw]
 simp only[if_true]
 refine Oper.wp_in Ck.lp (gd_nd hg).1 ?_
 obtain⟨es,clk,q1,q2⟩:=hb
 have hbw:=Cx.hp_now h1 q1
 have hnw:=Cx.hp_wrt h1 q1
 have em:=rd_ok h2 (Agree.refl _ _) hm
 have ex:=rd_ok h2 (Agree.refl _ _) hx
 have ey:=rd_ok h2 (Agree.refl _ _) hy
 simp only[gv,V.g,Cv.g,cond_true]at em ex
 simp only[gv,cond_true,hv]at ey
 obtain⟨es',clk',hrun,hes⟩:=run_updateS ht hbw q2 s u
 unfold Oper.wp execOp
 simp only[ho,em,ex,ey,Sem.run_bind,hrun,Result.andThen_ok,Sem.run_pure]
 show K _ _
 have hrelC:Rel C.S C.w0 β M w:=hL.rel h1
 -- the world behind,seen from the first view
 have hp:Rel C.S C.w0 β M {w with heap:=w.heap.setIfInBounds b (.map es' clk')}:=hrelC.hset hbw hnw (by intro c el mk hh;cases hh) (fun _=>hf)
 have hLC:Lf C C:=Lf.refl hL.zok
 obtain⟨l1,l2⟩:=hLC.at hp (s:=fun b=>¬Wrt β M b) (fun b hb=>Classical.not_not.1 hb)
 have hq:=hp.at hLC (s:=fun b=>¬Wrt β M b) (fun b hb hn=>hn hb) hp.mem (fun n l hl=>(hp.pin n l hl).1)
 have hlt:b<w.heap.size:=(Array.getElem?_eq_some_iff.1 hbw).1
 have hput:∀u,a.put o.dst u=a:=fun u=>by rw[hd];rfl
 rw[hput]
 have:=hK a {w with heap:=w.heap.setIfInBounds b (.map es' clk')} ?_
 ·simpa[hput]using this
 rw[hL.q,hL.lp]
 refine k _ l1 (fun b' o' hne ho'=>⟨Cx.hp_wrt h1 ho',?_,?_⟩) ⟨es',clk',⟨hnw,?_,?_⟩,hes⟩ β a _ hq h2 h3 (h4.trans hL.df)
 ·have:=ho'.2.1
  rw[hL.z]at this;exact this
 ·show(w.heap.setIfInBounds b _)[b']?=_
  rw[Array.getElem?_setIfInBounds_ne (Ne.symm hne)]
  exact Cx.hp_now h1 ho'
 ·intro hz
  have:=(hL.zok _ hz).2
  omega
 ·show(w.heap.setIfInBounds b _)[b]?=_
  simp[hlt]
end Go.Proofs.YtlnpgbnhcondjaaGreatDoor.Fx
namespace Go.Proofs.YtlnpgbnhcondjaaGreatDoor.Fx
open Vg Tf
set_option linter.unusedSimpArgs false
set_option linter.unusedVariables false
set_option maxRecDepth 100000
set_option maxHeartbeats 4000000
end Go.Proofs.YtlnpgbnhcondjaaGreatDoor.Fx
namespace Go.Proofs.YtlnpgbnhcondjaaGreatDoor.Fx
open Vg Tf
set_option linter.unusedSimpArgs false
set_option linter.unusedVariables false
set_option maxRecDepth 100000
set_option maxHeartbeats 4000000
@[go_sem ↓] theorem plS_1_2:plS 1 2=[(0,2)]:=rfl
@[go_sem ↓] theorem plS_1_10:plS 1 10=[(0,10)]:=rfl
def bl0:Bl:=⟨[],[],[],[],[],[]⟩
theorem get_sh {n:Nat}{b b':Bk}{r:Mem}(k:Nat):Mem.get ((n,b)::(n,b')::r) k=Mem.get ((n,b)::r) k:=by
 simp only[Mem.get_cons]
 by_cases h:k=n
 ·simp[h]
 ·simp[h]
theorem sub_sh {n:Nat}{b b':Bk}{r M:Mem}(h:Sub ((n,b)::r) M):Sub ((n,b)::(n,b')::r) M:=fun k c hk=>h k c (by rw[←get_sh (b':=b')];exact hk)
theorem clm_sh {n:Nat}{b b':Bk}{r:Mem}(h:ClM ((n,b)::r)):ClM ((n,b)::(n,b')::r):=fun β β' hag k c hk=>
 h β β' (fun k hn=>hag k (by rw[get_sh];exact hn)) k c (by rw[←get_sh (b':=b')];exact hk)
end Go.Proofs.YtlnpgbnhcondjaaGreatDoor.Fx
namespace Go.Proofs.YtlnpgbnhcondjaaGreatDoor.Fx
open Vg Tf
set_option linter.unusedSimpArgs false
set_option linter.unusedVariables false
set_option maxRecDepth 100000
set_option maxHeartbeats 4000000
@[go_sem] def Tk.r (t:Tk):List Value:=[.int .i64 t.k,.string ⟨t.s.toArray⟩,.int .i64 t.l,.int .i64 t.c]
@[reducible,go_sem] def psC (T:List Tk)(p:Ps):List Cv:=[.sl 2 0 T.length 4,nC p.at_,.v (.int .i64 p.e),nC p.l,nC p.c]
@[reducible,go_sem] def pM (T:List Tk)(p:Ps):Mem:=[(1,⟨false,psC T p,96⟩),(2,⟨true,rowsC (T.map Tk.r),57⟩)]
theorem pM_cl (T:List Tk)(p:Ps):ClM (pM T p):=ClM.of (by simp only[List.all_cons,inMV (rowsC_isV _)];rfl)
@[reducible] def tkV (t:Tk):V:= .agg [.v (.int .i64 t.k),.v (.string ⟨t.s.toArray⟩),.v (.int .i64 t.l),.v (.int .i64 t.c)]
theorem here_get {T:List Tk}{p:Ps}(h:p.at_<T.length):hereP T p=T[p.at_]:=by unfold hereP;rw[List.getD_eq_getElem?_getD,List.getElem?_eq_getElem h];rfl
theorem here_ (T:List Tk)(hT:T.length≤100000)(p:Ps)(h:p.at_<T.length):CallOk Tryz.prog 147 [.c (.p 1 0)] (pM T p) (tkV (hereP T p)) []:=by
 have htk:=rows_take (r:=Tk.r) (k:=4) (fun _=>rfl) T p.at_ h
 have hz:=rows_len (r:=Tk.r) (k:=4) (fun _=>rfl) T
 have hM:=pM_cl T p
 rw[here_get h]
 generalize T[p.at_]=t at*
 refine CallOk.mkN 100 Tryz.func147 rfl en147 (by simp[Tryz.ntmps147]) (ClA.of rfl) rfl rfl fun C hR hP=>?_
 refine vv ?_
 refine Sm.dg 100 8 mix ?_
 simp(maxSteps:=2000000) only[go_sem,htk,hz,Tk.r]
 refine⟨⟨by omega,by omega⟩,by omega,?_⟩
 exact RetQ.of hR rfl (vv trivial) rvr (SubS.sub ⟨⟨_,rfl,.inl rfl⟩,⟨_,rfl,.inl rfl⟩,trivial⟩) hM (ClV.of rfl)
theorem stop_ (T:List Tk)(p:Ps)(l c:Nat)(e:Int):CallOk Tryz.prog 230 [.c (.p 1 0),.agg [nC l,nC c],I e] (pM T p) (Bo false) [(1,⟨false,psC T (stopP p l c e),96⟩)]:=by
 have hM:=pM_cl T p
 have hM2:=pM_cl T (stopP p l c e)
 refine CallOk.mkN 100 Tryz.func230 rfl en230 (by simp[Tryz.ntmps230]) (ClA.of rfl) rfl rfl fun C hR hP=>?_
 refine vv ?_
 unfold stopP at hR hM2
 cases he:p.e==0 with
 |true=>
  rw[he]at hR hM2
  refine vv ?_
  exact RetQ.of hR rfl scc rvv (sub_sh (SubS.sub ⟨⟨_,rfl,.inl rfl⟩,⟨_,rfl,.inl rfl⟩,trivial⟩)) (clm_sh hM2) (ClV.of rfl)
 |false=>
  rw[he]at hR hM2
  refine vv ?_
  exact RetQ.of hR rfl scc rvv (sub_sh (SubS.sub ⟨⟨_,rfl,.inl rfl⟩,⟨_,rfl,.inl rfl⟩,trivial⟩)) (clm_sh hM2) (ClV.of rfl)
theorem wrong_ (T:List Tk)(hT:T.length≤100000)(p:Ps)(h:p.at_<T.length):CallOk Tryz.prog 157 [.c (.p 1 0)] (pM T p) (Bo false) [(1,⟨false,psC T (wrnP T p),96⟩)]:=by
 have hM:=pM_cl T p
 have hM2:=pM_cl T (wrnP T p)
 have hh:=here_ T hT p h
 have hst:=stop_ T p (hereP T p).l (hereP T p).c
 refine CallOk.mkN 100 Tryz.func157 rfl en157 (by simp[Tryz.ntmps157]) (ClA.of rfl) rfl rfl fun C hR hP=>?_
 refine vv ?_
 refine CallQ.mio 100 hh hM rfl ⟨⟨_,rfl,.inl rfl⟩,⟨_,rfl,.inl rfl⟩,trivial⟩ rfl (.inr rfl) ?_
 refine vv ?_
 unfold wrnP at hR hM2
 cases hk:((hereP T p).k:Int)==4 with
 |true=>
  have hk2:((hereP T p).k==4)=true:=by rw[beq_iff_eq]at hk⊢;omega
  rw[hk2]at hR hM2
  refine vv ?_
  refine CallQ.mio 100 hh hM rfl ⟨⟨_,rfl,.inl rfl⟩,⟨_,rfl,.inl rfl⟩,trivial⟩ rfl (.inr rfl) ?_
  refine vv ?_
  refine CallQ.mio 100 (hst 4) hM rfl ⟨⟨_,rfl,.inl rfl⟩,⟨_,rfl,.inl rfl⟩,trivial⟩ rfl (.inl rfl) ?_
  refine vv ?_
  exact RetQ.of hR rfl scc rvv (sub_sh (SubS.sub ⟨⟨_,rfl,.inl rfl⟩,⟨_,rfl,.inl rfl⟩,trivial⟩)) (clm_sh hM2) (ClV.of rfl)
 |false=>
  have hk2:((hereP T p).k==4)=false:=by rw[beq_eq_false_iff_ne]at hk⊢;omega
  rw[hk2]at hR hM2
  refine vv ?_
  refine CallQ.mio 100 hh hM rfl ⟨⟨_,rfl,.inl rfl⟩,⟨_,rfl,.inl rfl⟩,trivial⟩ rfl (.inr rfl) ?_
  refine vv ?_
  refine CallQ.mio 100 (hst 3) hM rfl ⟨⟨_,rfl,.inl rfl⟩,⟨_,rfl,.inl rfl⟩,trivial⟩ rfl (.inl rfl) ?_
  refine vv ?_
  exact RetQ.of hR rfl scc rvv (sub_sh (SubS.sub ⟨⟨_,rfl,.inl rfl⟩,⟨_,rfl,.inl rfl⟩,trivial⟩)) (clm_sh hM2) (ClV.of rfl)
theorem kB (n m:Nat):((n:Int)==(m:Int))=(n==m):=by rw[Bool.eq_iff_iff,beq_iff_eq,beq_iff_eq];omega
theorem is_ (T:List Tk)(hT:T.length≤100000)(p:Ps)(h:p.at_<T.length)(s:Str):CallOk Tryz.prog 229 [.c (.p 1 0),S s] (pM T p) (Bo (isP T s p)) []:=by
 have hM:=pM_cl T p
 have hh:=here_ T hT p h
 have e1:((hereP T p).k==1)=(((hereP T p).k:Int)==1):=(kB _ 1).symm
 have e3:((hereP T p).k==3)=(((hereP T p).k:Int)==3):=(kB _ 3).symm
 refine CallOk.mkN 100 Tryz.func229 rfl en229 (by simp[Tryz.ntmps229]) (ClA.of rfl) rfl rfl fun C hR hP=>?_
 refine vv ?_
 refine CallQ.mio 100 hh hM rfl ⟨⟨_,rfl,.inl rfl⟩,⟨_,rfl,.inl rfl⟩,trivial⟩ rfl (.inr rfl) ?_
 refine vv ?_
 unfold isP at hR
 rw[e1,e3]at hR
 refine RetQ.of hR rfl scc ?_ (SubS.sub ⟨⟨_,rfl,.inl rfl⟩,⟨_,rfl,.inl rfl⟩,trivial⟩) hM (ClV.of rfl)
 cases ((hereP T p).k:Int)==1<;>cases ((hereP T p).k:Int)==3<;>cases (hereP T p).s==s<;>rfl
theorem aP {p:Ps}{T:List Tk}(hT:T.length≤100000)(h:p.at_<T.length):IntKind.i64.wrap ((p.at_:Int)+1)=((p.at_+1:Nat):Int):=wS (by omega)
theorem take_ (T:List Tk)(hT:T.length≤100000)(p:Ps)(h:p.at_<T.length)(s:Str):CallOk Tryz.prog 148 [.c (.p 1 0),S s] (pM T p) (Bo (takP T s p).1) [(1,⟨false,psC T (takP T s p).2,96⟩)]:=by
 have hM:=pM_cl T p
 have hM2:=pM_cl T (takP T s p).2
 have hi:=is_ T hT p h s
 have hw:=wrong_ T hT p h
 refine CallOk.mkN 100 Tryz.func148 rfl en148 (by simp[Tryz.ntmps148]) (ClA.of rfl) rfl rfl fun C hR hP=>?_
 refine vv ?_
 refine CallQ.mio 100 hi hM rfl ⟨⟨_,rfl,.inl rfl⟩,⟨_,rfl,.inl rfl⟩,trivial⟩ rfl (.inr rfl) ?_
 refine vv ?_
 unfold takP at hR hM2
 cases hb:isP T s p with
 |true=>
  rw[hb]at hR hM2
  simp(maxSteps:=2000000) only[go_sem,aP hT h]
  exact RetQ.of hR rfl scc rvv (sub_sh (SubS.sub ⟨⟨_,rfl,.inl rfl⟩,⟨_,rfl,.inl rfl⟩,trivial⟩)) (clm_sh hM2) (ClV.of rfl)
 |false=>
  rw[hb]at hR hM2
  refine vv ?_
  refine CallQ.mio 100 hw hM rfl ⟨⟨_,rfl,.inl rfl⟩,⟨_,rfl,.inl rfl⟩,trivial⟩ rfl (.inl rfl) ?_
  refine vv ?_
  exact RetQ.of hR rfl scc rvv (sub_sh (SubS.sub ⟨⟨_,rfl,.inl rfl⟩,⟨_,rfl,.inl rfl⟩,trivial⟩)) (clm_sh hM2) (ClV.of rfl)
theorem end_ (T:List Tk)(hT:T.length≤100000)(p:Ps)(h:p.at_<T.length):CallOk Tryz.prog 150 [.c (.p 1 0)] (pM T p) (Bo (endP T p).1) [(1,⟨false,psC T (endP T p).2,96⟩)]:=by
 have hM:=pM_cl T p
 have hM2:=pM_cl T (endP T p).2
 have hh:=here_ T hT p h
 have hst:=stop_ T p (hereP T p).l (hereP T p).c 3
 have e4:((hereP T p).k==4)=(((hereP T p).k:Int)==4):=(kB _ 4).symm
 refine CallOk.mkN 100 Tryz.func150 rfl en150 (by simp[Tryz.ntmps150]) (ClA.of rfl) rfl rfl fun C hR hP=>?_
 refine vv ?_
 refine CallQ.mio 100 hh hM rfl ⟨⟨_,rfl,.inl rfl⟩,⟨_,rfl,.inl rfl⟩,trivial⟩ rfl (.inr rfl) ?_
 refine vv ?_
 unfold endP at hR hM2
 rw[e4]at hR hM2
 cases hk:((hereP T p).k:Int)==4 with
 |true=>
  rw[hk]at hR hM2
  simp(maxSteps:=2000000) only[go_sem,hk,bne,aP hT h]
  exact RetQ.of hR rfl scc rvv (sub_sh (SubS.sub ⟨⟨_,rfl,.inl rfl⟩,⟨_,rfl,.inl rfl⟩,trivial⟩)) (clm_sh hM2) (ClV.of rfl)
 |false=>
  rw[hk]at hR hM2
  simp(maxSteps:=2000000) only[go_sem,hk,bne]
  refine CallQ.mio 110 hst hM rfl ⟨⟨_,rfl,.inl rfl⟩,⟨_,rfl,.inl rfl⟩,trivial⟩ rfl (.inl rfl) ?_
  refine vv ?_
  exact RetQ.of hR rfl scc rvv (sub_sh (SubS.sub ⟨⟨_,rfl,.inl rfl⟩,⟨_,rfl,.inl rfl⟩,trivial⟩)) (clm_sh hM2) (ClV.of rfl)
theorem full_ (T:List Tk)(p:Ps)(f:Tk)(m l:Nat):CallOk Tryz.prog 233 [.c (.p 1 0),tkV f,I m,I l] (pM T p) (Bo (fulP f m l p).1) [(1,⟨false,psC T (fulP f m l p).2,96⟩)]:=by
 have hM:=pM_cl T p
 have hM2:=pM_cl T (fulP f m l p).2
 have hst:=stop_ T p f.l f.c 5
 have e4:decide (l≤m)=decide ((l:Int)≤(m:Int)):=by rw[decide_eq_decide];omega
 refine CallOk.mkN 100 Tryz.func233 rfl en233 (by simp[Tryz.ntmps233]) (ClA.of rfl) rfl rfl fun C hR hP=>?_
 refine vv ?_
 unfold fulP at hR hM2
 rw[e4]at hR hM2
 cases hk:decide ((l:Int)≤(m:Int))with
 |true=>
  rw[hk]at hR hM2
  simp(maxSteps:=2000000) only[go_sem,hk]
  refine CallQ.mio 110 hst hM rfl ⟨⟨_,rfl,.inl rfl⟩,⟨_,rfl,.inl rfl⟩,trivial⟩ rfl (.inl rfl) ?_
  refine vv ?_
  exact RetQ.of hR rfl scc rvv (sub_sh (SubS.sub ⟨⟨_,rfl,.inl rfl⟩,⟨_,rfl,.inl rfl⟩,trivial⟩)) (clm_sh hM2) (ClV.of rfl)
 |false=>
  rw[hk]at hR hM2
  simp(maxSteps:=2000000) only[go_sem,hk]
  exact RetQ.of hR rfl scc rvv (sub_sh (SubS.sub ⟨⟨_,rfl,.inl rfl⟩,⟨_,rfl,.inl rfl⟩,trivial⟩)) (clm_sh hM2) (ClV.of rfl)
end Go.Proofs.YtlnpgbnhcondjaaGreatDoor.Fx
