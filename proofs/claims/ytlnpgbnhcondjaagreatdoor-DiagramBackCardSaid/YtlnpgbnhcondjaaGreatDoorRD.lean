/-  -/
import Derived.Test.YtlnpgbnhcondjaaGreatDoorTf
import Derived.Test.YtlnpgbnhcondjaaGreatDoorXD2
import Derived.Test.YtlnpgbnhcondjaaGreatDoorQ4
import Derived.Test.YtlnpgbnhcondjaaGreatDoorMB
namespace Go.Proofs.YtlnpgbnhcondjaaGreatDoor.Fx
open Vg Tf
set_option linter.unusedSimpArgs false
set_option linter.unusedVariables false
set_option maxRecDepth 100000
@[go_sem] def unF (t:Ft):V:= .agg [ci t.m,ci t.kg,ci t.s,ci t.a,ci t.k]
@[go_sem] def vaL (t:Ft)(r:Int):List Cv:=[ci t.bits,.v (.bool t.signed),ci t.num,ci t.off,ci t.den,ci t.m,ci t.kg,ci t.s,ci t.a,ci t.k,ci r]
def z0:Ft:=⟨0,false,0,0,0,0,0,0,0,0⟩
set_option maxHeartbeats 4000000
@[go_sem] def fxL (t:Ft):List Cv:=[ci t.bits,.v (.bool t.signed),ci t.num,ci t.off,ci t.den,ci t.m,ci t.kg,ci t.s,ci t.a,ci t.k]
@[go_sem ↓] theorem plS21:plS 2 1=[(0,1),(1,1)]:=rfl
@[go_sem ↓] theorem plS52:plS 5 2=[(0,2),(2,2),(4,2),(6,2),(8,2)]:=rfl
set_option maxHeartbeats 4000000
def uS (a b:Ft):Bool:=(a.m==b.m)&&((a.kg==b.kg)&&((a.s==b.s)&&((a.a==b.a)&&(a.k==b.k))))
def gErr (a:Ft)(x:Int)(t:Ft):Int:=if (fok a&&fin a x)=false∨fok t=false then 1 else if uS a t=false then 12 else 0
def gR (s:Int)(a:Ft)(x:Int)(t:Ft):Int:=if gErr a x t=0 then fixR t (fnu a x*s) a.den else 0
set_option maxHeartbeats 4000000
def hulR (a b:Int×Int):Int×Int:=(min a.1 b.1,max a.2 b.2)
def cnvR (r:Int×Int)(a b:Ft):Int×Int:=(gR 1 a r.1 b,gR 1 a r.2 b)
set_option maxHeartbeats 4000000
theorem _root_.Go.Proofs.YtlnpgbnhcondjaaGreatDoor.Vg.Sm.mapIns {P:Program}{nt:Nat}{C Ck:Cx}{rg:Array Oper}{o:Oper}{l:List Oper}{r:List It}{e:Env}{M:Mem}{t tk te:TypeId}{m x y:Operand}{b:Nat}{al:Al}{s:ByteArray}{v:V}{u:Value}(hL:Lf C Ck)(hg:gd rg e o=some true)(hd:o.dst=none)(ho:o.op= .insert t m x y)(ht:mpOf P t=some (tk,te))
  (hm:rd e m=some (true,.c (.v (.map (some b))))) (hx:rd e x=some (true,.c (.v (.string s)))) (hy:rd e y=some (true,v)) (hv:∀β,v.g β=u) (hb:MpB Ck.hp b al) (hf:C.w0.heap.size≤b)
  (k:∀Cn,Lf C Cn→(∀b' o,b'≠b→Ck.hp b' o→Cn.hp b' o)→MpB Cn.hp b (aput al s u)→Sm P nt Cn (.ops rg l::r) e M):Sm P nt Ck (.ops rg (o::l)::r) e M:=fun β a w h1 h2 h3 h4=>by
 have hw:Region.wanted o (yielded rg a.tmps)=true:=gd_ok (β:=β) hg (fun j want t y _ _ hy=>h2 β (Agree.refl _ _) t y hy)
 show wpListIn (fen Ck.lp) 0 P rg (cont P Ck.lp Ck.Q r) (o::l) a w
 refine wpListIn_step fun K hK=>?_
 rw[hw]
 simp only[if_true]
 refine Oper.wp_in Ck.lp (gd_nd hg).1 ?_
 obtain⟨es,clk,q1,q2⟩:=hb
 have hbw:=Cx.hp_now h1 q1
 have hnw:=Cx.hp_wrt h1 q1
 have em:=rd_ok h2 (Agree.refl _ _) hm
 have ex:=rd_ok h2 (Agree.refl _ _) hx
 have ey:=rd_ok h2 (Agree.refl _ _) hy
 simp only[gv,V.g,Cv.g,cond_true]at em ex
 simp only[gv,cond_true,hv]at ey
 obtain⟨es',clk',hrun,hes⟩:=run_updateS ht hbw q2 s u
 unfold Oper.wp execOp
 simp only[ho,em,ex,ey,Sem.run_bind,hrun,Result.andThen_ok,Sem.run_pure]
 show K _ _
 have hrelC:Rel C.S C.w0 β M w:=hL.rel h1
 -- the world behind,seen from the first view
 have hp:Rel C.S C.w0 β M {w with heap:=w.heap.setIfInBounds b (.map es' clk')}:=hrelC.hset hbw hnw (by intro c el mk hh;cases hh) (fun _=>hf)
 have hLC:Lf C C:=Lf.refl hL.zok
 obtain⟨l1,l2⟩:=hLC.at hp (s:=fun b=>¬Wrt β M b) (fun b hb=>Classical.not_not.1 hb)
 have hq:=hp.at hLC (s:=fun b=>¬Wrt β M b) (fun b hb hn=>hn hb) hp.mem (fun n l hl=>(hp.pin n l hl).1)
 have hlt:b<w.heap.size:=(Array.getElem?_eq_some_iff.1 hbw).1
 have hput:∀u,a.put o.dst u=a:=fun u=>by rw[hd];rfl
 rw[hput]
 have:=hK a {w with heap:=w.heap.setIfInBounds b (.map es' clk')} ?_
 ·simpa[hput]using this
 rw[hL.q,hL.lp]
 refine k _ l1 (fun b' o' hne ho'=>⟨Cx.hp_wrt h1 ho',?_,?_⟩) ⟨es',clk',⟨hnw,?_,?_⟩,hes⟩ β a _ hq h2 h3 (h4.trans hL.df)
 ·have:=ho'.2.1
  rw[hL.z]at this;exact this
 ·show(w.heap.setIfInBounds b _)[b']?=_
  rw[Array.getElem?_setIfInBounds_ne (Ne.symm hne)]
  exact Cx.hp_now h1 ho'
 ·intro hz
  have:=(hL.zok _ hz).2
  omega
 ·show(w.heap.setIfInBounds b _)[b]?=_
  simp[hlt]
set_option maxHeartbeats 4000000
set_option maxHeartbeats 4000000
@[go_sem ↓] theorem plS_1_2:plS 1 2=[(0,2)]:=rfl
@[go_sem ↓] theorem plS_1_10:plS 1 10=[(0,10)]:=rfl
def bl0:Bl:=⟨[],[],[],[],[],[]⟩
theorem get_sh {n:Nat}{b b':Bk}{r:Mem}(k:Nat):Mem.get ((n,b)::(n,b')::r) k=Mem.get ((n,b)::r) k:=by
 simp only[Mem.get_cons]
 by_cases h:k=n
 ·simp[h]
 ·simp[h]
theorem sub_sh {n:Nat}{b b':Bk}{r M:Mem}(h:Sub ((n,b)::r) M):Sub ((n,b)::(n,b')::r) M:=fun k c hk=>h k c (by rw[←get_sh (b':=b')];exact hk)
theorem clm_sh {n:Nat}{b b':Bk}{r:Mem}(h:ClM ((n,b)::r)):ClM ((n,b)::(n,b')::r):=fun β β' hag k c hk=>
 h β β' (fun k hn=>hag k (by rw[get_sh];exact hn)) k c (by rw[←get_sh (b':=b')];exact hk)
set_option maxHeartbeats 4000000
@[go_sem] def Tk.r (t:Tk):List Value:=[.int .i64 t.k,.string ⟨t.s.toArray⟩,.int .i64 t.l,.int .i64 t.c]
@[reducible,go_sem] def psC (T:List Tk)(p:Ps):List Cv:=[.sl 2 0 T.length 4,nC p.at_,.v (.int .i64 p.e),nC p.l,nC p.c]
@[reducible,go_sem] def pM (T:List Tk)(p:Ps):Mem:=[(1,⟨false,psC T p,96⟩),(2,⟨true,rowsC (T.map Tk.r),57⟩)]
theorem pM_cl (T:List Tk)(p:Ps):ClM (pM T p):=ClM.of (by simp only[List.all_cons,inMV (rowsC_isV _)];rfl)
@[reducible] def tkV (t:Tk):V:= .agg [.v (.int .i64 t.k),.v (.string ⟨t.s.toArray⟩),.v (.int .i64 t.l),.v (.int .i64 t.c)]
theorem here_get {T:List Tk}{p:Ps}(h:p.at_<T.length):hereP T p=T[p.at_]:=by unfold hereP;rw[List.getD_eq_getElem?_getD,List.getElem?_eq_getElem h];rfl
theorem here_ (T:List Tk)(hT:T.length≤100000)(p:Ps)(h:p.at_<T.length):CallOk Tryz.prog 147 [.c (.p 1 0)] (pM T p) (tkV (hereP T p)) []:=by
 have htk:=rows_take (r:=Tk.r) (k:=4) (fun _=>rfl) T p.at_ h
 have hz:=rows_len (r:=Tk.r) (k:=4) (fun _=>rfl) T
 have hM:=pM_cl T p
 rw[here_get h]
 generalize T[p.at_]=t at*
 refine CallOk.mkN 100 Tryz.func147 rfl en147 (by simp[Tryz.ntmps147]) (ClA.of rfl) rfl rfl fun C hR hP=>?_
 refine vv ?_
 refine Sm.dg 100 8 mix ?_
 simp(maxSteps:=2000000) only[go_sem,htk,hz,Tk.r]
 refine⟨⟨by omega,by omega⟩,by omega,?_⟩
 exact RetQ.of hR rfl (vv trivial) rvr (SubS.sub ⟨oS,oS,trivial⟩) hM (ClV.of rfl)
theorem stop_ (T:List Tk)(p:Ps)(l c:Nat)(e:Int):CallOk Tryz.prog 230 [.c (.p 1 0),.agg [nC l,nC c],I e] (pM T p) (Bo false) [(1,⟨false,psC T (stopP p l c e),96⟩)]:=by
 have hM:=pM_cl T p
 have hM2:=pM_cl T (stopP p l c e)
 refine CallOk.mkN 100 Tryz.func230 rfl en230 (by simp[Tryz.ntmps230]) (ClA.of rfl) rfl rfl fun C hR hP=>?_
 refine vv ?_
 unfold stopP at hR hM2
 cases he:p.e==0 with
 |true=>
  rw[he]at hR hM2
  refine vv ?_
  exact RetQ.of hR rfl scc rvv (sub_sh (SubS.sub ⟨oS,oS,trivial⟩)) (clm_sh hM2) (ClV.of rfl)
 |false=>
  rw[he]at hR hM2
  refine vv ?_
  exact RetQ.of hR rfl scc rvv (sub_sh (SubS.sub ⟨oS,oS,trivial⟩)) (clm_sh hM2) (ClV.of rfl)
theorem wrong_ (T:List Tk)(hT:T.length≤100000)(p:Ps)(h:p.at_<T.length):CallOk Tryz.prog 157 [.c (.p 1 0)] (pM T p) (Bo false) [(1,⟨false,psC T (wrnP T p),96⟩)]:=by
 have hM:=pM_cl T p
 have hM2:=pM_cl T (wrnP T p)
 have hh:=here_ T hT p h
 have hst:=stop_ T p (hereP T p).l (hereP T p).c
 refine CallOk.mkN 100 Tryz.func157 rfl en157 (by simp[Tryz.ntmps157]) (ClA.of rfl) rfl rfl fun C hR hP=>?_
 refine vv ?_
 refine CallQ.mi 100 hh hM ⟨oS,oS,trivial⟩ ?_
 refine vv ?_
 unfold wrnP at hR hM2
 cases hk:((hereP T p).k:Int)==4 with
 |true=>
  have hk2:((hereP T p).k==4)=true:=by rw[beq_iff_eq]at hk⊢;omega
  rw[hk2]at hR hM2
  refine vv ?_
  refine CallQ.mi 100 hh hM ⟨oS,oS,trivial⟩ ?_
  refine vv ?_
  refine CallQ.mi 100 (hst 4) hM ⟨oS,oS,trivial⟩ ?_
  refine vv ?_
  exact RetQ.of hR rfl scc rvv (sub_sh (SubS.sub ⟨oS,oS,trivial⟩)) (clm_sh hM2) (ClV.of rfl)
 |false=>
  have hk2:((hereP T p).k==4)=false:=by rw[beq_eq_false_iff_ne]at hk⊢;omega
  rw[hk2]at hR hM2
  refine vv ?_
  refine CallQ.mi 100 hh hM ⟨oS,oS,trivial⟩ ?_
  refine vv ?_
  refine CallQ.mi 100 (hst 3) hM ⟨oS,oS,trivial⟩ ?_
  refine vv ?_
  exact RetQ.of hR rfl scc rvv (sub_sh (SubS.sub ⟨oS,oS,trivial⟩)) (clm_sh hM2) (ClV.of rfl)
theorem kB (n m:Nat):((n:Int)==(m:Int))=(n==m):=by rw[Bool.eq_iff_iff,beq_iff_eq,beq_iff_eq];omega
theorem is_ (T:List Tk)(hT:T.length≤100000)(p:Ps)(h:p.at_<T.length)(s:Str):CallOk Tryz.prog 229 [.c (.p 1 0),S s] (pM T p) (Bo (isP T s p)) []:=by
 have hM:=pM_cl T p
 have hh:=here_ T hT p h
 have e1:((hereP T p).k==1)=(((hereP T p).k:Int)==1):=(kB _ 1).symm
 have e3:((hereP T p).k==3)=(((hereP T p).k:Int)==3):=(kB _ 3).symm
 refine CallOk.mkN 100 Tryz.func229 rfl en229 (by simp[Tryz.ntmps229]) (ClA.of rfl) rfl rfl fun C hR hP=>?_
 refine vv ?_
 refine CallQ.mi 100 hh hM ⟨oS,oS,trivial⟩ ?_
 refine vv ?_
 unfold isP at hR
 rw[e1,e3]at hR
 refine RetQ.of hR rfl scc ?_ (SubS.sub ⟨oS,oS,trivial⟩) hM (ClV.of rfl)
 cases ((hereP T p).k:Int)==1<;>cases ((hereP T p).k:Int)==3<;>cases (hereP T p).s==s<;>rfl
theorem aP {p:Ps}{T:List Tk}(hT:T.length≤100000)(h:p.at_<T.length):IntKind.i64.wrap ((p.at_:Int)+1)=((p.at_+1:Nat):Int):=wS (by omega)
theorem take_ (T:List Tk)(hT:T.length≤100000)(p:Ps)(h:p.at_<T.length)(s:Str):CallOk Tryz.prog 148 [.c (.p 1 0),S s] (pM T p) (Bo (takP T s p).1) [(1,⟨false,psC T (takP T s p).2,96⟩)]:=by
 have hM:=pM_cl T p
 have hM2:=pM_cl T (takP T s p).2
 have hi:=is_ T hT p h s
 have hw:=wrong_ T hT p h
 refine CallOk.mkN 100 Tryz.func148 rfl en148 (by simp[Tryz.ntmps148]) (ClA.of rfl) rfl rfl fun C hR hP=>?_
 refine vv ?_
 refine CallQ.mi 100 hi hM ⟨oS,oS,trivial⟩ ?_
 refine vv ?_
 unfold takP at hR hM2
 cases hb:isP T s p with
 |true=>
  rw[hb]at hR hM2
  simp(maxSteps:=2000000) only[go_sem,aP hT h]
  exact RetQ.of hR rfl scc rvv (sub_sh (SubS.sub ⟨oS,oS,trivial⟩)) (clm_sh hM2) (ClV.of rfl)
 |false=>
  rw[hb]at hR hM2
  refine vv ?_
  refine CallQ.mi 100 hw hM ⟨oS,oS,trivial⟩ ?_
  refine vv ?_
  exact RetQ.of hR rfl scc rvv (sub_sh (SubS.sub ⟨oS,oS,trivial⟩)) (clm_sh hM2) (ClV.of rfl)
theorem end_ (T:List Tk)(hT:T.length≤100000)(p:Ps)(h:p.at_<T.length):CallOk Tryz.prog 150 [.c (.p 1 0)] (pM T p) (Bo (endP T p).1) [(1,⟨false,psC T (endP T p).2,96⟩)]:=by
 have hM:=pM_cl T p
 have hM2:=pM_cl T (endP T p).2
 have hh:=here_ T hT p h
 have hst:=stop_ T p (hereP T p).l (hereP T p).c 3
 have e4:((hereP T p).k==4)=(((hereP T p).k:Int)==4):=(kB _ 4).symm
 refine CallOk.mkN 100 Tryz.func150 rfl en150 (by simp[Tryz.ntmps150]) (ClA.of rfl) rfl rfl fun C hR hP=>?_
 refine vv ?_
 refine CallQ.mi 100 hh hM ⟨oS,oS,trivial⟩ ?_
 refine vv ?_
 unfold endP at hR hM2
 rw[e4]at hR hM2
 cases hk:((hereP T p).k:Int)==4 with
 |true=>
  rw[hk]at hR hM2
  simp(maxSteps:=2000000) only[go_sem,hk,bne,aP hT h]
  exact RetQ.of hR rfl scc rvv (sub_sh (SubS.sub ⟨oS,oS,trivial⟩)) (clm_sh hM2) (ClV.of rfl)
 |false=>
  rw[hk]at hR hM2
  simp(maxSteps:=2000000) only[go_sem,hk,bne]
  refine CallQ.mi 110 hst hM ⟨oS,oS,trivial⟩ ?_
  refine vv ?_
  exact RetQ.of hR rfl scc rvv (sub_sh (SubS.sub ⟨oS,oS,trivial⟩)) (clm_sh hM2) (ClV.of rfl)
theorem full_ (T:List Tk)(p:Ps)(f:Tk)(m l:Nat):CallOk Tryz.prog 233 [.c (.p 1 0),tkV f,I m,I l] (pM T p) (Bo (fulP f m l p).1) [(1,⟨false,psC T (fulP f m l p).2,96⟩)]:=by
 have hM:=pM_cl T p
 have hM2:=pM_cl T (fulP f m l p).2
 have hst:=stop_ T p f.l f.c 5
 have e4:decide (l≤m)=decide ((l:Int)≤(m:Int)):=by rw[decide_eq_decide];omega
 refine CallOk.mkN 100 Tryz.func233 rfl en233 (by simp[Tryz.ntmps233]) (ClA.of rfl) rfl rfl fun C hR hP=>?_
 refine vv ?_
 unfold fulP at hR hM2
 rw[e4]at hR hM2
 cases hk:decide ((l:Int)≤(m:Int))with
 |true=>
  rw[hk]at hR hM2
  simp(maxSteps:=2000000) only[go_sem,hk]
  refine CallQ.mi 110 hst hM ⟨oS,oS,trivial⟩ ?_
  refine vv ?_
  exact RetQ.of hR rfl scc rvv (sub_sh (SubS.sub ⟨oS,oS,trivial⟩)) (clm_sh hM2) (ClV.of rfl)
 |false=>
  rw[hk]at hR hM2
  simp(maxSteps:=2000000) only[go_sem,hk]
  exact RetQ.of hR rfl scc rvv (sub_sh (SubS.sub ⟨oS,oS,trivial⟩)) (clm_sh hM2) (ClV.of rfl)
set_option maxHeartbeats 4000000
theorem _root_.Go.Proofs.YtlnpgbnhcondjaaGreatDoor.Vg.Stp.idxV {P:Program}{o:Oper}{e:Env}{M:Mem}{ty el:TypeId}{x i:Operand}{b off len c sz:Nat}{ki:IntKind}{k:Int}(ho:o.op= .indexAddr ty x i)(hx:rd e x=some (true,.c (.v (.slice (some ⟨b,off,none⟩) len c))))(hi:rd e i=some (true,.c (.v (.int ki k))))
  (hsl:slOf P ty=some (el,sz)) (h0:0≤k) (hlt:k<len):Stp P o e M (.c (.v (.pointer (some ⟨b,off+k.toNat*sz,none⟩)))) []:=by
 obtain⟨hu,hsz,hsz0⟩:=slOf_ok hsl
 exact Stp.pure fun β a hop w=>by
  have hex:=hop x (by simp[ho,Op.operands]) _ hx
  have hei:=hop i (by simp[ho,Op.operands]) _ hi
  simp only[gv,V.g,Cv.g,cond_true]at hex hei
  unfold execOp
  simp[ho,hex,hei,Instr.indexAt,asIntOf,run_underlying hu,h0,hlt,run_sizeOf' hsz hsz0,V.g,Cv.g,Addr.add_lit]
def delT:Str:=[100,101,108,97,121]
def lagT:Str:=[108,97,103]
def limT (t:Ft):Int×Int:=(bif fok t then flo t else 0,bif fok t then fhi t else 0)
def newB (d:Dg)(rs:List (Int×Int))(s:Int×Int)(i:Nat)(b:Bl):Int×Int:=
 bif b.kd==delT then hulR s (cnvR (rs.getD (sgN (sigs d) (b.ins.getD 0 [])) (0,0)) (tyAt d (sgN (sigs d) (b.ins.getD 0 []))) (tyN d.tys b.ty))
 else bif b.kd==lagT then rs.getD (d.ins.length+i) (0,0)else s
def newS (d:Dg)(rs:List (Int×Int))(s:Int×Int)(i:Nat):Int×Int:=newB d rs s i (d.bls.getD i bl0)
set_option maxHeartbeats 4000000
def upto (f:Nat→Int×Int)(N i:Nat):List (Int×Int):=(List.range N).map fun j=>if j<i then f j else(0,0)
def po0:Po:=⟨[],[],0,0⟩
def inF (d:Dg)(j:Nat):Int×Int:=((d.ins.getD j po0).lo,(d.ins.getD j po0).hi)
def stF (d:Dg)(j:Nat):Int×Int:=let b:=d.bls.getD j bl0;bif b.kd==delT then(b.ks.getD 0 0,b.ks.getD 0 0)else(0,0)
def r0 (d:Dg):List (Int×Int):=upto (inF d) (d.ins.length+d.bls.length) d.ins.length
def s0 (d:Dg):List (Int×Int):=upto (stF d) d.bls.length d.bls.length
end Go.Proofs.YtlnpgbnhcondjaaGreatDoor.Fx
namespace Go.Proofs.YtlnpgbnhcondjaaGreatDoor.Fx
set_option linter.unusedVariables false
set_option maxHeartbeats 4000000
theorem lim0 (t:Ft):(limT t).1≤0∧0≤(limT t).2:=by
 unfold limT
 cases h:fok t with
 |true=>have:=flo_bd t h;simp only[cond_true];omega
 |false=>simp
def gdR (t:Ft)(r:Int×Int):Prop:=(limT t).1≤r.1∧r.1≤r.2∧r.2≤(limT t).2
theorem gd0 (t:Ft):gdR t (0,0):=⟨(lim0 t).1,Int.le_refl _,(lim0 t).2⟩
open Vg Tf
set_option linter.unusedSimpArgs false
set_option maxRecDepth 100000
theorem cloSs {H:Hp}(v:Value)(rows:List (List Value))(h:SlH H v 1 rows)(h1:∀r∈rows,r.length=1)(hV:(rowsC rows).all Cv.one=true)(hl:rows.length≤1000000):
  CallX H Tryz.prog 102 [.c (.v v)] [] (fun _:Unit=> .c (.sl 2 0 rows.length 1)) (fun _=>[(2,⟨false,rowsC rows,9⟩)]) (fun _ _=>True):=by
 have hz:=rowsC_len (k:=1) rows h1
 have htk:List.take rows.length (rowsC rows)=rowsC rows:=List.take_of_length_le (by omega)
 refine CallX.mkS Tryz.func102 rfl en102 (by simp[Tryz.ntmps102]) (ClA.of rfl) (fun _=>rfl) (fun _=>rfl) fun C hR hP hH hL=>?_
 have hR:=hR () C hL trivial
 refine Sm.bringR 1 9 0 (h.mono hH) rfl rfl (Sm.go 100 ?_)
 refine vv ?_
 refine Sm.eqNil rfl rfl rfl rfl rfl rfl (fun h0=>?_) ?_
 ·have h0:rows=[]:=List.length_eq_zero_iff.1 h0
  subst h0
  refine Sm.go 100 ?_
  refine vv ?_
  refine RetQ.nils 110 1 9 [2] [] rfl ?_
  refine vv ?_
  exact RetQ.ren [(2,110)] hR hP rfl scc rfl rfl trivial ⟨oR,trivial⟩ (ClM.of rfl) (ClV.of rfl)
 ·refine Sm.go 100 ?_
  simp(maxSteps:=2000000) only[go_sem,htk,hz]
  refine⟨by first|exact hV|exact⟨⟨by omega,hV⟩,by omega,by omega⟩|exact⟨by omega,by omega,by omega⟩|skip,?_⟩
  exact RetQ.ren [(2,101)] hR hP rfl scc rfl rfl trivial ⟨oV (renV (rowsC_isV _)),trivial⟩ (ClM.of (by simp only[List.cons_append,List.nil_append,List.all_cons,inMV (rowsC_isV _)];rfl)) (ClV.of rfl)
open Vg Tf
set_option linter.unusedSimpArgs false
set_option maxRecDepth 100000
open Vg Tf
set_option linter.unusedSimpArgs false
set_option maxRecDepth 100000
theorem concV {L:List Nat}{β:Vl}{l:List Cv}(h:l.all Cv.isV=true):l.map (Cv.conc L β)=l:=by
 rw[List.all_eq_true]at h
 conv=>rhs;rw[←List.map_id l]
 refine List.map_congr_left fun c hc=>?_
 have:=h c hc
 cases c with
 |v x=>rfl
 |_=>cases this
@[go_sem] theorem mode_at:(Region.Mode.any==Region.Mode.text)=false:=rfl
theorem setV {cs:List Cv}{i:Nat}{v:Value}(h:cs.all Cv.isV=true):(cs.set i (.v v)).all Cv.isV=true:=by
 rw[List.all_eq_true]at h⊢
 intro x hx
 rcases List.mem_or_eq_of_mem_set hx with hx|rfl
 ·exact h x hx
 ·rfl
def zR (v:Sv×List Int):List Value:=[vsl v.1 v.2.length]
theorem _root_.Go.Proofs.YtlnpgbnhcondjaaGreatDoor.Vg.DCallQ.n1 {H:Hp}{P:Program}{nt:Nat}{C:Cx}{r:List It}{e e0:Env}{M M0 Mf:Mem}{id:Nat}{rg:Array Oper}{k:Nat}{T:List (Nat×Nat)}{i:Nat}{o:Oper}{l:List Oper}{f:FuncId}{vs:List (Option (Bool×V))}{dst:Option Nat}{xs:List V}{v:V}{n:Nat}{b:Bk}(nx:Nat)(hc:CallX H P f xs [] (fun _:Unit=>v) (fun _=>[(n,b)]) (fun _ _=>True))(hH:H.le C.hp)(hvs:vs=xs.map fun x=>some (true,x))
  (h0:M0.get n=none) (h1:M.get n=none) (hT:(T.all fun q=> !(q.1==n||q.1==n+1000000)||(aft o).contains q.2)=true)
  (h:runD P nt C id rg r e0 M0 Mf k (kontW P nt C (.ops rg (rg.toList.drop k)::r)) ((n,i)::T) (i+1) l (e.put dst true v) ((n,b)::M) nx):DCallQ P nt C id rg r e0 M0 Mf k T i o f vs true dst l e M:=
 ⟨[],[(n,b)],M0,v,xs,fun _=>hvs,fun _=> .inr (CallX.kx hc hH ClM.nil (fun _=>rfl) (fun _=>rfl)),Sub.nil _,ClM.nil,Fresh.of (by simp[Mem.get,h0]),.inl rfl,⟨fun _ _ h=> .inl h,snoc_hf (by simp[ownB,h0,h1]) (by simpa[touchB]using hT)⟩,DrS.go nx h⟩
@[reducible] def z7:List Cv:=[.v (.string ⟨#[]⟩),.v (.slice none 0 0),.v (.slice none 0 0),.v (.slice none 0 0),.v (.slice none 0 0),.v (.slice none 0 0),.v (.slice none 0 0)]
open Vg Tf
set_option linter.unusedSimpArgs false
set_option maxRecDepth 100000
theorem _root_.Go.Proofs.YtlnpgbnhcondjaaGreatDoor.Vg.Rel.eqc {S:Bs}{w0 w:World}{β:Vl}{M:Mem}(h:Rel S w0 β M w){n:Nat}{b:Bk}{cs:List Cv}(hb:M.get n=some b)(hg:∀β',Agree M β β'→cs.map (Cv.g β')=b.cells.map (Cv.g β')):Rel S w0 β ((n,⟨b.ro,cs,b.elem⟩)::M) w:=by
 have hl:cs.length=b.cells.length:=by have:=congrArg List.length (hg β (Agree.refl _ _));simpa using this
 have hs:∀k,(Mem.get ((n,⟨b.ro,cs,b.elem⟩)::M) k).isSome=(M.get k).isSome:=fun k=>by
  rw[Mem.get_cons]
  split
  ·rename_i hk;subst hk;rw[hb];rfl
  ·rfl
 have hq:∀k c,Mem.get ((n,⟨b.ro,cs,b.elem⟩)::M) k=some c→∃c0,M.get k=some c0∧c.ro=c0.ro∧c.elem=c0.elem∧c.cells.length=c0.cells.length∧∀β',Agree M β β'→c.cells.map (Cv.g β')=c0.cells.map (Cv.g β'):=fun k c hc=>by
  rw[Mem.get_cons]at hc
  split at hc
  ·rename_i hk;subst hk;cases hc;exact⟨b,hb,rfl,rfl,hl,hg⟩
  ·exact⟨c,hc,rfl,rfl,rfl,fun _ _=>rfl⟩
 refine⟨h.fr,⟨fun β' hag k c hc=>?_,fun k c hc hu=>?_,fun k m c c' hc hc' hne hr hv hu1 hu2=>?_⟩,fun k c hc hr hu hS=>?_,fun k l hk=>?_⟩
 ·obtain⟨c0,q1,q2,q3,q4,q5⟩:=hq k c hc
  have hag':Agree M β β':=fun j hj=>hag j (by rw[hs];exact hj)
  have h0:=h.mem.ok β' hag' k c0 q1
  unfold BkOk at h0⊢
  rw[q2,q3,q5 β' hag',q4]
  split at h0
  ·rename_i hh
   rw[if_pos hh]
   exact⟨List.length_eq_zero_iff.1 (by rw[q4,h0.1];rfl),h0.2⟩
  ·rename_i hh
   rw[if_neg hh];exact h0
 ·obtain⟨c0,q1,_⟩:=hq k c hc
  exact h.mem.there k c0 q1 hu
 ·obtain⟨c0,q1,q2,q3,q4,q5⟩:=hq k c hc
  obtain⟨d0,r1,r2,r3,r4,r5⟩:=hq m c' hc'
  refine h.mem.apart k m c0 d0 q1 r1 hne (by rw[←q2];exact hr) ?_ hu1 hu2
  rcases hv with hv|hv
  ·exact .inl (by rw[←r2];exact hv)
  ·exact .inr fun he=>hv (List.length_eq_zero_iff.1 (by rw[r4,he];rfl))
 ·obtain⟨c0,q1,q2,_⟩:=hq k c hc
  exact h.own k c0 q1 (by rw[←q2];exact hr) hu hS
 ·have:=h.pin k l hk
  exact⟨by rw[hs];exact this.1,this.2⟩
@[go_sem ↓] theorem plS_1_13:plS 1 13=[(0,13)]:=rfl
structure Sg where
 nm:Str
 ty:Ft
 r:Int×Int
def Sg.w (s:Sg):List Value:=sv s.nm::(ftR s.ty++[iv s.r.1,iv s.r.2])
structure CkR where
 d:Dg
 sg:List Sg
 od:List Nat
structure CkL where
 d:DgL
 sg:List Sg
 od:List Nat
 s:Sv
 o:Sv
def CkL.r (c:CkL):List Value:=c.d.r++[vsl c.s c.sg.length,vsl c.o c.od.length]
def CkL.c (c:CkL):CkR:=⟨c.d.c,c.sg,c.od⟩
structure CkL.ok (H:Hp) (c:CkL):Prop where
 d:c.d.ok H
 s:SlH H (vsl c.s c.sg.length) 13 (c.sg.map Sg.w)
 o:SlH H (vsl c.o c.od.length) 1 (c.od.map fun n:Nat=>[iv n])
end Go.Proofs.YtlnpgbnhcondjaaGreatDoor.Fx
