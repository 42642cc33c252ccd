/-  -/
import Derived.Test.YtlnpgbnhcondjaaGreatDoorPS
import Derived.Test.YtlnpgbnhcondjaaGreatDoorRQ
import Derived.Test.YtlnpgbnhcondjaaGreatDoorRD
namespace Go.Proofs.YtlnpgbnhcondjaaGreatDoor.Fx
open Vg Tf
set_option linter.unusedSimpArgs false
set_option linter.unusedVariables false
set_option maxRecDepth 100000
set_option maxHeartbeats 4000000
@[reducible,go_sem] def dvs (d:DgL):List Cv:=[.v (sv d.nm),.v (vsl d.ty d.tys.length),.v (vsl d.cu d.cus.length),.v (vsl d.ma d.mas.length),.sl 4 0 d.ins.length 4,.sl 5 0 d.bls.length 6,.v (vsl d.ou d.ous.length)]
@[reducible,go_sem] def dmm (d:DgL):Mem:=[(4,⟨true,rowsC (d.ins.map Po.r),118⟩),(5,⟨true,rowsC (d.bls.map BlL.r),82⟩)]
theorem dmm_cl (d:DgL):ClM (dmm d):=ClM.of (by simp only[List.all_cons,inMV (rowsC_isV _)];rfl)
def fndQ (l:List Str)(s:Str):Int:=match idxS s l 0 with
 |some i=>(i:Int)
 |none=> -1
theorem idxS_step (s:Str)(L:List Str)(i:Nat)(h:i<L.length):idxS s (L.drop i) i=if L.getD i []=s then some i else idxS s (L.drop (i+1)) (i+1):=by
 rw[List.drop_eq_getElem_cons h,idxS,List.getD_eq_getElem?_getD,List.getElem?_eq_getElem h];rfl
theorem sgs_in2 (d:DgL){i:Nat}(h:i<d.ins.length):(sigs d.c).getD i []=d.ins[i].nm:=by
 unfold sigs
 rw[List.getD_eq_getElem?_getD,List.getElem?_append_left (by rw[List.length_map];exact h),List.getElem?_map]
 have:d.c.ins[i]?=some d.ins[i]:=List.getElem?_eq_getElem h
 rw[this];rfl
theorem sgs_bl2 (d:DgL){i:Nat}(h:i<d.bls.length):(sigs d.c).getD (d.ins.length+i) []=d.bls[i].c.nm:=by
 unfold sigs
 have hl:(d.c.ins.map (·.nm)).length=d.ins.length:=List.length_map _
 rw[List.getD_eq_getElem?_getD,List.getElem?_append_right (by rw[hl];omega),hl,show d.ins.length+i-d.ins.length=i by omega,List.getElem?_map]
 have:d.c.bls[i]?=some d.bls[i].c:=by simp[DgL.c,h]
 rw[this];rfl
theorem find_ (d:DgL)(s:Str)(h1:d.ins.length≤1000000000000000)(h2:d.bls.length≤1000000000000000):CallOk Tryz.prog 33 [.agg (dvs d),S s] (dmm d) (I (fndQ (sigs d.c) s)) []:=by
 have hsl:=sigs_len d
 have z4:=rows_len (r:=Po.r) (k:=4) (fun _=>rfl) d.ins
 have z5:=rows_len (r:=BlL.r) (k:=6) (fun _=>rfl) d.bls
 refine CallOk.mkN 100 Tryz.func33 rfl en33 (by simp[Tryz.ntmps33]) (ClA.of rfl) rfl rfl fun C hR hP=>?_
 refine vv ?_
 refine Sm.loopM (M0:=dmm d) (α:={i:Nat//i≤d.ins.length∧idxS s (sigs d.c) 0=idxS s ((sigs d.c).drop i) i}) hP (fun i=>[(1,true,S s),(2,true,.c (.p 2 0)),(5,true,I i.val)]) (fun _=>(2,⟨false,dvs d,30⟩)::dmm d) (fun i=>d.ins.length-i.val) ⟨0,by omega,rfl⟩ (fun _=>ClM.of (by simp only[List.all_cons,inMV (rowsC_isV _)];rfl)) (fun _=>ClE.of rfl) [(2,100),(4,4),(5,5)] ?_ ?_
 ·exact⟨rfl,⟨⟨rfl,rfl⟩,⟨rfl,rfl⟩,trivial⟩,⟨rfl,rfl,rfl,trivial⟩,⟨.inr ⟨_,rfl,.inl rfl⟩,.inr ⟨_,rfl,.inl (renV (rowsC_isV _))⟩,.inr ⟨_,rfl,.inl (renV (rowsC_isV _))⟩,trivial⟩⟩
 rintro⟨i,hi,hx⟩ J hj
 simp only at hj hi hx⊢
 refine Sm.go 120 ?_
 refine vv ?_
 refine mtch (fun hc=>?_) (fun hc=>?_)
 ·have hc:=lt_of_dec hc
  rw[idxS_step s _ i (by omega),sgs_in2 d hc]at hx
  have f0:=rows_one (r:=Po.r) (k:=4) (fun _=>rfl) d.ins i 0 hc (by omega)
  rw[Nat.add_zero]at f0
  generalize d.ins[i]=x at*
  simp(maxSteps:=2000000) only[go_sem,f0,Po.r,List.getElem?_cons_zero,Option.map_some]
  refine⟨⟨by omega,by omega⟩,?_⟩
  refine mtch (fun hd=>?_) (fun hd=>?_)
  ·rw[if_pos (eq_of_beq hd)]at hx
   refine RetQ.of hR rfl ⟨rfl,trivial⟩ ?_ (SubS.sub ⟨⟨_,rfl,.inl rfl⟩,⟨_,rfl,.inl rfl⟩,trivial⟩) (dmm_cl d) (ClV.of rfl)
   unfold fndQ;rw[hx];rfl
  ·rw[if_neg (fun h=>by rw[h]at hd;simp at hd)]at hx
   simp(maxSteps:=2000000) only[go_sem,wS (show i≤1000000000000000000 by omega)]
   exact hj _ _ ⟨i+1,hc,hx⟩ [(2,2),(4,4),(5,5)] (by simp only;omega) ⟨rfl,⟨⟨rfl,rfl⟩,⟨rfl,rfl⟩,trivial⟩,⟨rfl,rfl,rfl,trivial⟩,⟨.inr ⟨_,rfl,.inl rfl⟩,.inr ⟨_,rfl,.inl (renV (rowsC_isV _))⟩,.inr ⟨_,rfl,.inl (renV (rowsC_isV _))⟩,trivial⟩⟩
 have hc:=eq_of_dec hi hc
 subst hc
 refine vv ?_
 refine Sm.loopM (M0:=dmm d) (α:={i:Nat//i≤d.bls.length∧idxS s (sigs d.c) 0=idxS s ((sigs d.c).drop (d.ins.length+i)) (d.ins.length+i)}) hP (fun i=>[(1,true,S s),(2,true,.c (.p 2 0)),(6,true,I i.val)]) (fun _=>(2,⟨false,dvs d,30⟩)::dmm d) (fun i=>d.bls.length-i.val) ⟨0,by omega,hx⟩ (fun _=>ClM.of (by simp only[List.all_cons,inMV (rowsC_isV _)];rfl)) (fun _=>ClE.of rfl) [(2,2),(4,4),(5,5)] ?_ ?_
 ·exact⟨rfl,⟨⟨rfl,rfl⟩,⟨rfl,rfl⟩,trivial⟩,⟨rfl,rfl,rfl,trivial⟩,⟨.inr ⟨_,rfl,.inl rfl⟩,.inr ⟨_,rfl,.inl (renV (rowsC_isV _))⟩,.inr ⟨_,rfl,.inl (renV (rowsC_isV _))⟩,trivial⟩⟩
 rintro⟨i,hi,hx⟩ J hj
 simp only at hj hi hx⊢
 refine Sm.go 120 ?_
 refine vv ?_
 refine mtch (fun hc=>?_) (fun hc=>?_)
 ·have hc:=lt_of_dec hc
  rw[idxS_step s _ _ (by omega),sgs_bl2 d hc]at hx
  have f0:=rows_one (r:=BlL.r) (k:=6) (fun _=>rfl) d.bls i 0 hc (by omega)
  rw[Nat.add_zero]at f0
  generalize d.bls[i]=x at*
  have ew:IntKind.i64.wrap ((d.ins.length:Int)+(i:Int))=((d.ins.length+i:Nat):Int):=by rw[w64 (by omega) (by omega)];omega
  simp(maxSteps:=2000000) only[go_sem,f0,BlL.r,List.getElem?_cons_zero,Option.map_some,ew]
  refine⟨⟨by omega,by omega⟩,?_⟩
  refine mtch (fun hd=>?_) (fun hd=>?_)
  ·rw[if_pos (eq_of_beq hd)]at hx
   refine RetQ.of hR rfl ⟨rfl,trivial⟩ ?_ (SubS.sub ⟨⟨_,rfl,.inl rfl⟩,⟨_,rfl,.inl rfl⟩,trivial⟩) (dmm_cl d) (ClV.of rfl)
   unfold fndQ;rw[hx];rfl
  ·rw[if_neg (fun h=>by rw[h]at hd;simp at hd)]at hx
   simp(maxSteps:=2000000) only[go_sem,wS (show i≤1000000000000000000 by omega)]
   exact hj _ _ ⟨i+1,hc,hx⟩ [(2,2),(4,4),(5,5)] (by simp only;omega) ⟨rfl,⟨⟨rfl,rfl⟩,⟨rfl,rfl⟩,trivial⟩,⟨rfl,rfl,rfl,trivial⟩,⟨.inr ⟨_,rfl,.inl rfl⟩,.inr ⟨_,rfl,.inl (renV (rowsC_isV _))⟩,.inr ⟨_,rfl,.inl (renV (rowsC_isV _))⟩,trivial⟩⟩
 have hc:=eq_of_dec hi hc
 subst hc
 rw[List.drop_eq_nil_of_le (by omega)]at hx
 refine vv ?_
 refine RetQ.of hR rfl ⟨rfl,trivial⟩ ?_ (SubS.sub ⟨⟨_,rfl,.inl rfl⟩,⟨_,rfl,.inl rfl⟩,trivial⟩) (dmm_cl d) (ClV.of rfl)
 unfold fndQ;rw[hx];rfl
end Go.Proofs.YtlnpgbnhcondjaaGreatDoor.Fx
namespace Go.Proofs.YtlnpgbnhcondjaaGreatDoor.Fx
open Vg Tf
set_option linter.unusedSimpArgs false
set_option linter.unusedVariables false
set_option maxRecDepth 100000
set_option maxHeartbeats 4000000
theorem _root_.Go.Proofs.YtlnpgbnhcondjaaGreatDoor.Vg.Stp.mkF {P:Program}{o:Oper}{e:Env}{M:Mem}{f:FuncId}{x:Operand}{v:Value}(ho:o.op= .makeFunc (.func f) #[] #[x])(hx:rd e x=some (true,.c (.v v))):Stp P o e M (Fv f #[v]) []:=
 Stp.pure fun β a hop w=>by
  have hex:=hop x (by simp[ho,Op.operands]) _ hx
  simp only[gv,V.g,Cv.g,cond_true]at hex
  unfold execOp
  simp[ho,hex,Instr.makeFunc,V.g,Cv.g]
theorem fnd1_ {H:Hp}(x:Po)(s:Str)(pv:Value)(hpv:PtH H pv [sv s]):CallH H Tryz.prog 88 [rowV x.r,.c (.v pv)] (Bo (x.nm==s)):=by
 refine CallH.mkS Tryz.func88 rfl en88 (by simp[Tryz.ntmps88]) (ClA.of rfl) fun C hR hP hH hL=>?_
 refine Sm.bringP 1 9 1 (hpv.mono hH) rfl rfl (Sm.go 100 ?_)
 refine vv ?_
 exact RetQ.bool (hR C hL) rfl ⟨rfl,trivial⟩ rfl
theorem fnd2_ {H:Hp}(x:BlL)(s:Str)(pv:Value)(hpv:PtH H pv [sv s]):CallH H Tryz.prog 90 [rowV x.r,.c (.v pv)] (Bo (x.c.nm==s)):=by
 refine CallH.mkS Tryz.func90 rfl en90 (by simp[Tryz.ntmps90]) (ClA.of rfl) fun C hR hP hH hL=>?_
 refine Sm.bringP 1 9 1 (hpv.mono hH) rfl rfl (Sm.go 100 ?_)
 refine vv ?_
 exact RetQ.bool (hR C hL) rfl ⟨rfl,trivial⟩ rfl
def oX (o:Option Nat):Int:=match o with
 |some j=>(j:Int)
 |none=> -1
theorem ix_idx {α:Type}(nm:α→Str)(s:Str):∀(l:List α) (k:Nat),ixF (fun x=>nm x==s) l k=oX (idxS s (l.map nm) k)
 |[],_=>rfl
 |x::l,k=>by
  have ih:=ix_idx nm s l (k+1)
  rw[ixF,List.map_cons,idxS]
  by_cases h:nm x=s
  ·rw[if_pos h,h,beq_self_eq_true];rfl
  ·rw[if_neg h,beq_eq_false_iff_ne.2 h,cond_false,←ih];rfl
theorem idxS_app (s:Str):∀(a b:List Str) (k:Nat),idxS s (a++b) k=match idxS s a k with
  |some i=>some i
  |none=>idxS s b (k+a.length)
 |[],b,k=>by simp[idxS]
 |x::a,b,k=>by
  rw[List.cons_append,idxS,idxS]
  by_cases h:x=s
  ·rw[if_pos h,if_pos h]
  ·rw[if_neg h,if_neg h,idxS_app s a b (k+1),List.length_cons,Nat.add_right_comm,Nat.add_assoc]
theorem idxS_shift (s:Str):∀(l:List Str) (k m:Nat),idxS s l (k+m)=(idxS s l k).map (· +m)
 |[],_,_=>rfl
 |x::l,k,m=>by
  rw[idxS,idxS]
  by_cases h:x=s
  ·rw[if_pos h,if_pos h];rfl
  ·rw[if_neg h,if_neg h,Nat.add_right_comm,idxS_shift s l (k+1) m]
theorem fnd_split (d:DgL)(s:Str):fndQ (sigs d.c) s=bif decide (0≤ixF (fun x:Po=>x.nm==s) d.ins 0)then ixF (fun x:Po=>x.nm==s) d.ins 0 else bif decide (0≤ixF (fun x:BlL=>x.c.nm==s) d.bls 0)then(d.ins.length:Int)+ixF (fun x:BlL=>x.c.nm==s) d.bls 0 else-1:=by
 have e1:=ix_idx (fun x:Po=>x.nm) s d.ins 0
 have e2:=ix_idx (fun x:BlL=>x.c.nm) s d.bls 0
 simp only[Int.ofNat_zero,Int.natCast_zero]at e1 e2
 rw[e1,e2]
 have es:sigs d.c=d.ins.map (·.nm)++d.bls.map (fun x=>x.c.nm):=by unfold sigs;simp[DgL.c]
 unfold fndQ
 rw[es,idxS_app,List.length_map,idxS_shift]
 cases idxS s (d.ins.map (·.nm)) 0 with
 |some i=>
  show(i:Int)=bif decide (0≤(i:Int))then(i:Int)else _
  rw[decide_eq_true (by omega)];rfl
 |none=>
  cases idxS s (d.bls.map (fun x=>x.c.nm)) 0 with
  |some j=>
   show((j+d.ins.length:Nat):Int)=bif decide (0≤(-1:Int))then(-1:Int)else bif decide (0≤(j:Int))then(d.ins.length:Int)+(j:Int)else-1
   rw[decide_eq_true (show(0:Int)≤(j:Int) by omega)]
   show((j+d.ins.length:Nat):Int)=(d.ins.length:Int)+(j:Int)
   omega
  |none=>rfl
theorem ixF_lt {α:Type}(p:α→Bool):∀(l:List α) (k:Int),0≤k→ixF p l k≤k+l.length∧ -1≤ixF p l k
 |[],k,h=>by simp[ixF];omega
 |x::l,k,h=>by
  have ih:=ixF_lt p l (k+1) (by omega)
  rw[ixF]
  cases p x with
  |true=>simp only[cond_true,List.length_cons];omega
  |false=>simp only[cond_false,List.length_cons];omega
theorem pfind_ {H:Hp}(d:DgL)(hd:d.ok H)(s:Str)(h1:d.ins.length≤1000000000000000)(h2:d.bls.length≤1000000000000000):CallH H Tryz.prog 32 [rowV d.r,S s] (I (fndQ (sigs d.c) s)):=by
 have hsp:=fnd_split d s
 have b1:=ixF_lt (fun x:Po=>x.nm==s) d.ins 0 (by omega)
 have b2:=ixF_lt (fun x:BlL=>x.c.nm==s) d.bls 0 (by omega)
 refine CallH.mkS Tryz.func32 rfl en32 (by simp[Tryz.ntmps32]) (ClA.of rfl) fun C hR hP hH hL=>?_
 refine Sm.go 100 ?_
 refine vv ?_
 refine CallQ.letgo (xs:=[_,_]) [101] hL hP rfl rfl rfl en87 rfl rfl (fun β Cn l1 l2 l3=>?_)
 have hpt:=(l3 101 _ rfl rfl rfl).pt (by simp)
 refine CallW.h 110 l1 (ixfPo _ d.ins ((hd.mono hH).i.mono l2) (by omega) 88 #[ptr β 101 0] (fun x=>x.nm==s) (fun x hx=>fnd1_ x s _ hpt)) (Hp.le.refl _) rfl (fun Cm m1 m2=>?_)
 generalize ixF (fun x:Po=>x.nm==s) d.ins 0=i1 at*
 refine vv ?_
 refine mtch (fun hc=>?_) (fun hc=>?_)
 ·refine RetQ.of (hR Cm m1) rfl scc ?_ (Sub.nil _) ClM.nil (ClV.of rfl)
  rw[hsp,hc];rfl
 refine Sm.opq rfl rfl ⟨[],_,fun _=>Stp.mkF rfl rfl,.inl rfl,Sm.go 120 ?_⟩
 refine vv ?_
 refine CallQ.h 130 (ixfBl _ d.bls ((hd.mono hH).bl.mono (l2.trans m2)) (by omega) 90 #[ptr β 101 0] (fun x=>x.c.nm==s) (fun x hx=>fnd2_ x s _ (hpt.mono m2))) (Hp.le.refl _) rfl ?_
 generalize ixF (fun x:BlL=>x.c.nm==s) d.bls 0=i2 at*
 rw[hc,cond_false]at hsp
 have w3:IntKind.i64.wrap ((d.ins.length:Int)+i2)=(d.ins.length:Int)+i2:=by rw[w64 (by omega) (by omega)]
 simp(maxSteps:=2000000) only[go_sem,w3]
 refine mtch (fun hc=>?_) (fun hc=>?_)
 ·refine RetQ.of (hR Cm m1) rfl scc ?_ (Sub.nil _) ClM.nil (ClV.of rfl)
  rw[hsp,hc];rfl
 ·refine RetQ.of (hR Cm m1) rfl scc ?_ (Sub.nil _) ClM.nil (ClV.of rfl)
  rw[hsp,hc];rfl
end Go.Proofs.YtlnpgbnhcondjaaGreatDoor.Fx
namespace Go.Proofs.YtlnpgbnhcondjaaGreatDoor.Fx
open Vg Tf
set_option linter.unusedSimpArgs false
set_option linter.unusedVariables false
set_option maxRecDepth 100000
set_option maxHeartbeats 4000000
def rnS (f t s:Str):Str:=if s=f then t else s
end Go.Proofs.YtlnpgbnhcondjaaGreatDoor.Fx
