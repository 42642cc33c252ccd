/-  -/
import Derived.Test.YtkciabfilokfiaaGreatPS
import Derived.Test.YtkciabfilokfiaaGreatQK
namespace Go.Proofs.YtkciabfilokfiaaGreat.Fx
open Vg Tf
set_option linter.unusedSimpArgs false
set_option linter.unusedVariables false
set_option maxRecDepth 100000
set_option maxHeartbeats 4000000
theorem _root_.Go.Proofs.YtkciabfilokfiaaGreat.Vg.Sm.mapIns {P:Program}{nt:Nat}{C Ck:Cx}{rg:Array Oper}{o:Oper}{l:List Oper}{r:List It}{e:Env}{M:Mem}{t tk te:TypeId}{m x y:Operand}{b:Nat}{al:Al}{s:ByteArray}{v:V}{u:Value}(hL:Lf C Ck)(hg:gd rg e o=some true)(hd:o.dst=none)(ho:o.op= .insert t m x y)(ht:mpOf P t=some (tk,te))
  (hm:rd e m=some (true,.c (.v (.map (some b))))) (hx:rd e x=some (true,.c (.v (.string s)))) (hy:rd e y=some (true,v)) (hv:∀β,v.g β=u) (hb:MpB Ck.hp b al) (hf:C.w0.heap.size≤b)
  (k:∀Cn,Lf C Cn→(∀b' o,b'≠b→Ck.hp b' o→Cn.hp b' o)→MpB Cn.hp b (aput al s u)→Sm P nt Cn (.ops rg l::r) e M):Sm P nt Ck (.ops rg (o::l)::r) e M:=fun β a w h1 h2 h3 h4=>by
 have hw:Region.wanted o (yielded rg a.tmps)=true:=gd_ok (β:=β) hg (fun j want t y _ _ hy=>h2 β (Agree.refl _ _) t y hy)
 show wpListIn (fen Ck.lp) 0 P rg (cont P Ck.lp Ck.Q r) (o::l) a w
 refine wpListIn_step fun K hK=>?_
 rw[hw]
 simp only[if_true]
 refine Oper.wp_in Ck.lp (gd_nd hg).1 ?_
 obtain⟨es,clk,q1,q2⟩:=hb
 have hbw:=Cx.hp_now h1 q1
 have hnw:=Cx.hp_wrt h1 q1
 have em:=rd_ok h2 (Agree.refl _ _) hm
 have ex:=rd_ok h2 (Agree.refl _ _) hx
 have ey:=rd_ok h2 (Agree.refl _ _) hy
 simp only[gv,V.g,Cv.g,cond_true]at em ex
 simp only[gv,cond_true,hv]at ey
 obtain⟨es',clk',hrun,hes⟩:=run_updateS ht hbw q2 s u
 unfold Oper.wp execOp
 simp only[ho,em,ex,ey,Sem.run_bind,hrun,Result.andThen_ok,Sem.run_pure]
 show K _ _
 have hrelC:Rel C.S C.w0 β M w:=hL.rel h1
 -- the world behind,seen from the first view
 have hp:Rel C.S C.w0 β M {w with heap:=w.heap.setIfInBounds b (.map es' clk')}:=hrelC.hset hbw hnw (by intro c el mk hh;cases hh) (fun _=>hf)
 have hLC:Lf C C:=Lf.refl hL.zok
 obtain⟨l1,l2⟩:=hLC.at hp (s:=fun b=>¬Wrt β M b) (fun b hb=>Classical.not_not.1 hb)
 have hq:=hp.at hLC (s:=fun b=>¬Wrt β M b) (fun b hb hn=>hn hb) hp.mem (fun n l hl=>(hp.pin n l hl).1)
 have hlt:b<w.heap.size:=(Array.getElem?_eq_some_iff.1 hbw).1
 have hput:∀u,a.put o.dst u=a:=fun u=>by rw[hd];rfl
 rw[hput]
 have:=hK a {w with heap:=w.heap.setIfInBounds b (.map es' clk')} ?_
 ·simpa[hput]using this
 rw[hL.q,hL.lp]
 refine k _ l1 (fun b' o' hne ho'=>⟨Cx.hp_wrt h1 ho',?_,?_⟩) ⟨es',clk',⟨hnw,?_,?_⟩,hes⟩ β a _ hq h2 h3 (h4.trans hL.df)
 ·have:=ho'.2.1
  rw[hL.z]at this;exact this
 ·show(w.heap.setIfInBounds b _)[b']?=_
  rw[Array.getElem?_setIfInBounds_ne (Ne.symm hne)]
  exact Cx.hp_now h1 ho'
 ·intro hz
  have:=(hL.zok _ hz).2
  omega
 ·show(w.heap.setIfInBounds b _)[b]?=_
  simp[hlt]
def apB (a b:Int×Int)(ta tb:Ft):Bool:=bif lB ta a.2 tb b.1 then true else lB tb b.2 ta a.1
def cmpR (less:Bool)(a b:Int×Int)(ta tb:Ft):Int×Int:=
 bif less then truR (lB ta a.1 tb b.2) (!lB ta a.2 tb b.1)else
 truR (!apB a b ta tb) (!(bif (bif a.1==a.2 then b.1==b.2 else false)then !apB a b ta tb else false))
theorem compared_ (kd:Str)(a b:Int×Int)(ta tb:Ft):CallOk Tryz.prog 216 [S kd,rA a,rA b,.agg (ftC ta),.agg (ftC tb)] [] (rA (cmpR (kd==[108,101,115,115]) a b ta tb)) []:=by
 refine CallOk.mkN 100 Tryz.func216 rfl en216 (by simp[Tryz.ntmps216]) (ClA.of rfl) rfl rfl fun C hR hP=>?_
 refine vv ?_
 refine mtch (fun h1=>?_) (fun h1=>?_)
 ·have h1:(kd==[108,101,115,115])=true:=h1
  rw[h1]at hR
  refine Sm.dg 110 13 mix ?_
  refine vv ?_
  refine DCallQ.pure 110 (less_ a.1 b.2 ta tb) rfl ?_
  refine vv ?_
  refine CallQ.pure 120 (less_ a.2 b.1 ta tb) rfl ?_
  refine vv ?_
  refine CallQ.pure 130 (truth_ (lB ta a.1 tb b.2) (!lB ta a.2 tb b.1)) rfl ?_
  refine vv ?_
  exact RetQ.of hR rfl (vv trivial) rvv (Sub.nil _) ClM.nil (ClV.of rfl)
 ·have h1:(kd==[108,101,115,115])=false:=h1
  rw[h1]at hR
  refine CallQ.pure 110 (less_ a.2 b.1 ta tb) rfl ?_
  refine vv ?_
  refine CallQ.guard 110 (fun _=>less_ b.2 a.1 tb ta) (fun h=>by rw[h];rfl) ?_
  refine vv ?_
  refine CallQ.pure 130 (truth_ (!apB a b ta tb) (!(bif (bif a.1==a.2 then b.1==b.2 else false)then !apB a b ta tb else false))) rfl ?_
  refine vv ?_
  exact RetQ.of hR rfl (vv trivial) rvv (Sub.nil _) ClM.nil (ClV.of rfl)
def logR (k:Nat)(a b:Int×Int):Int×Int:=
 match k with
 |0=>truR (mayQ a).2 (mayQ a).1
 |1=>truR (bif (mayQ a).1 then(mayQ b).1 else false) (bif (mayQ a).2 then true else(mayQ b).2)
 |_=>truR (bif (mayQ a).1 then true else(mayQ b).1) (bif (mayQ a).2 then(mayQ b).2 else false)
theorem logic0 (r:Int×Int):CallOk Tryz.prog 217 [S [110,111,116],.c (.sl 1 0 1 2)] [(1,⟨true,rC r,45⟩)] (rA (logR 0 r (0,0))) []:=by
 refine CallOk.mkN 100 Tryz.func217 rfl en217 (by simp[Tryz.ntmps217]) (ClA.of rfl) rfl rfl fun C hR hP=>?_
 refine vv ?_
 refine CallQ.pure 130 (may_ r) rfl ?_
 refine vv ?_
 refine CallQ.pure 130 (truth_ (mayQ r).2 (mayQ r).1) rfl ?_
 refine vv ?_
 exact RetQ.of hR rfl (vv trivial) rvv (SubS.sub ⟨⟨_,rfl,.inl rfl⟩,trivial⟩) (ClM.of rfl) (ClV.of rfl)
theorem logic1 (r q:Int×Int):CallOk Tryz.prog 217 [S [97,110,100],.c (.sl 1 0 2 2)] [(1,⟨true,rC r++rC q,45⟩)] (rA (logR 1 r q)) []:=by
 refine CallOk.mkN 100 Tryz.func217 rfl en217 (by simp[Tryz.ntmps217]) (ClA.of rfl) rfl rfl fun C hR hP=>?_
 refine vv ?_
 refine CallQ.pure 130 (may_ r) rfl ?_
 refine vv ?_
 refine CallQ.pure 140 (may_ q) rfl ?_
 refine vv ?_
 refine CallQ.pure 150 (truth_ (bif (mayQ r).1 then(mayQ q).1 else false) (bif (mayQ r).2 then true else(mayQ q).2)) rfl ?_
 refine vv ?_
 exact RetQ.of hR rfl (vv trivial) rvv (SubS.sub ⟨⟨_,rfl,.inl rfl⟩,trivial⟩) (ClM.of rfl) (ClV.of rfl)
theorem logic2 (r q:Int×Int):CallOk Tryz.prog 217 [S [111,114],.c (.sl 1 0 2 2)] [(1,⟨true,rC r++rC q,45⟩)] (rA (logR 2 r q)) []:=by
 refine CallOk.mkN 100 Tryz.func217 rfl en217 (by simp[Tryz.ntmps217]) (ClA.of rfl) rfl rfl fun C hR hP=>?_
 refine vv ?_
 refine CallQ.pure 130 (may_ r) rfl ?_
 refine vv ?_
 refine CallQ.pure 140 (may_ q) rfl ?_
 refine vv ?_
 refine CallQ.pure 150 (truth_ (bif (mayQ r).1 then true else(mayQ q).1) (bif (mayQ r).2 then(mayQ q).2 else false)) rfl ?_
 refine vv ?_
 exact RetQ.of hR rfl (vv trivial) rvv (SubS.sub ⟨⟨_,rfl,.inl rfl⟩,trivial⟩) (ClM.of rfl) (ClV.of rfl)
def arQ (s:Str):Int:=bif s==[97,100,100]then 1 else bif s==[115,117,98]then 2 else bif s==[109,117,108]then 3 else bif s==[100,105,118]then 4 else 0
def vR (op:Int)(a b:Int×Int)(ta tb t:Ft):Int×Int:=(vLo op a.1 a.2 b.1 b.2 ta tb t,vHi op a.1 a.2 b.1 b.2 ta tb t)
@[reducible] def rE (r:(Int×Int)×Int):V:= .tup [.agg (rC r.1),Wi r.2]
theorem aQ (kd l:Str)(v:Value)(m:Al):aget (aput m ⟨l.toArray⟩ v) ⟨kd.toArray⟩=bif kd==l then some v else aget m ⟨kd.toArray⟩:=by
 rw[aget_aput]
 by_cases h:kd=l
 ·subst h;simp
 ·have h1:(kd==l)=false:=by simpa using h
  rw[h1,cond_false,if_neg (fun hh=>h ?_)]
  have:=congrArg (fun b:ByteArray=>b.data.toList) hh
  simpa using this
theorem arithmetic_ {H:Hp}(kd:Str)(a b:Int×Int)(ta tb t:Ft):CallH H Tryz.prog 209 [S kd,rA a,rA b,.agg (ftC ta),.agg (ftC tb),.agg (ftC t)] (rE (vR (arQ kd) a b ta tb t,vErr (arQ kd) a.1 a.2 b.1 b.2 ta tb t)):=by
 refine CallH.mkS Tryz.func209 rfl en209 (by simp[Tryz.ntmps209]) (ClA.of rfl) fun C hR hP hH hL=>?_
 refine Sm.go 100 ?_
 refine vv ?_
 refine Sm.makeMap hL rfl rfl rfl (fun b0 C1 l1 k1 f1 f1' m1=>?_)
 refine Sm.mapIns (u:=iv 1) l1 rfl rfl rfl rfl rfl rfl rfl (fun _=>rfl) m1 f1 (fun C2 l2 _ m2=>?_)
 refine Sm.mapIns (u:=iv 2) l2 rfl rfl rfl rfl rfl rfl rfl (fun _=>rfl) m2 f1 (fun C3 l3 _ m3=>?_)
 refine Sm.mapIns (u:=iv 3) l3 rfl rfl rfl rfl rfl rfl rfl (fun _=>rfl) m3 f1 (fun C4 l4 _ m4=>?_)
 refine Sm.mapIns (u:=iv 4) l4 rfl rfl rfl rfl rfl rfl rfl (fun _=>rfl) m4 f1 (fun C5 l5 _ m5=>?_)
 refine Sm.go 120 ?_
 refine vv ?_
 refine Sm.opC 130 rfl rfl (.inl rfl) (fun _=>StpC.lookup (v:=I (arQ kd)) rfl rfl rfl rfl rfl m5 (fun β=>?_)) ?_
 ·have e0:aget [] (⟨kd.toArray⟩:ByteArray)=none:=rfl
  show iv (arQ kd)=(aget (aput (aput (aput (aput [] ⟨([97,100,100]:Str).toArray⟩ (iv 1)) ⟨([115,117,98]:Str).toArray⟩ (iv 2)) ⟨([109,117,108]:Str).toArray⟩ (iv 3)) ⟨([100,105,118]:Str).toArray⟩ (iv 4)) ⟨kd.toArray⟩).getD (iv 0)
  rw[aQ,aQ,aQ,aQ,e0]
  unfold arQ
  by_cases h1:kd=[97,100,100]
  ·subst h1;rfl
  by_cases h2:kd=[115,117,98]
  ·subst h2;rfl
  by_cases h3:kd=[109,117,108]
  ·subst h3;rfl
  by_cases h4:kd=[100,105,118]
  ·subst h4;rfl
  rw[beq_false_of_ne h1,beq_false_of_ne h2,beq_false_of_ne h3,beq_false_of_ne h4];rfl
 refine vv ?_
 refine CallQ.pure 140 (fover_ (arQ kd) a.1 a.2 b.1 b.2 ta tb t) rfl ?_
 refine vv ?_
 exact RetQ.of (hR C5 l5) rfl (vv trivial) rvv (Sub.nil _) ClM.nil (ClV.of rfl)
def rgR (r:Int×Int):List Value:=[iv r.1,iv r.2]
def cvR (rs:List (Int×Int))(ts:List Ft)(t:Ft)(i:Nat):Int×Int:=cnvR (rs.getD i (0,0)) (ts.getD i ft0) t
def b1M (rs:List (Int×Int))(ts:List Ft)(t:Ft):Mem:=[(1,⟨true,[.sl 4 0 rs.length 2],104⟩),(2,⟨true,[.sl 5 0 ts.length 10],182⟩),(3,⟨true,ftC t,43⟩),(4,⟨true,rowsC (rs.map rgR),45⟩),(5,⟨true,rowsC (ts.map ftR),43⟩)]
theorem block1_ (rs:List (Int×Int))(ts:List Ft)(t:Ft)(i:Nat)(h1:i<rs.length)(h2:i<ts.length)(hb:rs.length≤1000)(hb2:ts.length≤1000):CallOk Tryz.prog 208 [I i,.c (.p 1 0),.c (.p 2 0),.c (.p 3 0)] (b1M rs ts t) (rA (cvR rs ts t i)) []:=by
 have hM:ClM (b1M rs ts t):=ClM.of (by unfold b1M;simp only[List.all_cons,inMV (rowsC_isV _)];rfl)
 have k1:=rows_take (r:=rgR) (k:=2) (fun _=>rfl) rs i h1
 have k2:=rows_take (r:=ftR) (k:=10) (fun _=>rfl) ts i h2
 have z1:=rows_len (r:=rgR) (k:=2) (fun _=>rfl) rs
 have z2:=rows_len (r:=ftR) (k:=10) (fun _=>rfl) ts
 have e1:rs.getD i (0,0)=rs[i]:=by simp[List.getD_eq_getElem?_getD,h1]
 have e2:ts.getD i ft0=ts[i]:=by simp[List.getD_eq_getElem?_getD,h2]
 unfold cvR
 rw[e1,e2]
 unfold b1M at hM⊢
 refine CallOk.mkN 100 Tryz.func208 rfl en208 (by simp[Tryz.ntmps208]) (ClA.of rfl) rfl rfl fun C hR hP=>?_
 refine vv ?_
 refine Sm.dg 110 9 mix ?_
 simp(maxSteps:=2000000) only[go_sem,k1,k2,z1,z2]
 refine⟨by omega,by omega,by omega,by omega,?_⟩
 refine CallQ.pure 120 (converted_ rs[i] ts[i] t) rfl ?_
 refine vv ?_
 exact RetQ.of hR rfl (vv trivial) rvv (SubS.sub ⟨⟨_,rfl,.inl rfl⟩,⟨_,rfl,.inl rfl⟩,⟨_,rfl,.inl rfl⟩,⟨_,rfl,.inl rfl⟩,⟨_,rfl,.inl rfl⟩,trivial⟩) hM (ClV.of rfl)
def b2M (ts:List Ft)(t:Ft):Mem:=[(1,⟨true,[.sl 3 0 ts.length 10],182⟩),(2,⟨true,ftC t,43⟩),(3,⟨true,rowsC (ts.map ftR),43⟩)]
theorem block2_ (ts:List Ft)(t:Ft)(x:Int)(h2:0<ts.length)(hb2:ts.length≤1000):CallOk Tryz.prog 210 [I x,.c (.p 1 0),.c (.p 2 0)] (b2M ts t) (I (gR (-1) (ts.getD 0 ft0) x t)) []:=by
 have hM:ClM (b2M ts t):=ClM.of (by unfold b2M;simp only[List.all_cons,inMV (rowsC_isV _)];rfl)
 have k2:=rows_take (r:=ftR) (k:=10) (fun _=>rfl) ts 0 h2
 have z2:=rows_len (r:=ftR) (k:=10) (fun _=>rfl) ts
 have e2:ts.getD 0 ft0=ts[0]:=by simp[List.getD_eq_getElem?_getD,h2]
 rw[Nat.zero_mul,List.drop_zero]at k2
 rw[e2]
 unfold b2M at hM⊢
 refine CallOk.mkN 100 Tryz.func210 rfl en210 (by simp[Tryz.ntmps210]) (ClA.of rfl) rfl rfl fun C hR hP=>?_
 refine vv ?_
 refine Sm.dg 110 9 mix ?_
 simp(maxSteps:=2000000) only[go_sem,k2,z2]
 refine⟨by omega,by omega,?_⟩
 refine DCallQ.pure 120 (fneg_ ts[0] x t) rfl ?_
 refine vv ?_
 refine CallQ.pure 130 (raw_ (gT ts[0] x t) (gR (-1) ts[0] x t) (gErr ts[0] x t)) rfl ?_
 refine vv ?_
 exact RetQ.of hR rfl scc rvv (SubS.sub ⟨⟨_,rfl,.inl rfl⟩,⟨_,rfl,.inl rfl⟩,⟨_,rfl,.inl rfl⟩,trivial⟩) hM (ClV.of rfl)
end Go.Proofs.YtkciabfilokfiaaGreat.Fx
