/-  -/
import Derived.Test.YtlnpgbnhcondjaaGreatDoorPS
import Derived.Test.YtlnpgbnhcondjaaGreatDoorRI
import Derived.Test.YtlnpgbnhcondjaaGreatDoorRQ
namespace Go.Proofs.YtlnpgbnhcondjaaGreatDoor.Fx
open Vg Tf
set_option linter.unusedSimpArgs false
set_option linter.unusedVariables false
set_option maxRecDepth 100000
set_option maxHeartbeats 4000000
@[reducible,go_sem] def dvs (d:DgL):List Cv:=[.v (sv d.nm),.v (vsl d.ty d.tys.length),.v (vsl d.cu d.cus.length),.v (vsl d.ma d.mas.length),.sl 4 0 d.ins.length 4,.sl 5 0 d.bls.length 6,.v (vsl d.ou d.ous.length)]
@[reducible,go_sem] def dmm (d:DgL):Mem:=[(4,⟨true,rowsC (d.ins.map Po.r),118⟩),(5,⟨true,rowsC (d.bls.map BlL.r),82⟩)]
def fndQ (l:List Str)(s:Str):Int:=match idxS s l 0 with
 |some i=>(i:Int)
 |none=> -1
theorem idxS_step (s:Str)(L:List Str)(i:Nat)(h:i<L.length):idxS s (L.drop i) i=if L.getD i []=s then some i else idxS s (L.drop (i+1)) (i+1):=by
 rw[List.drop_eq_getElem_cons h,idxS,List.getD_eq_getElem?_getD,List.getElem?_eq_getElem h];rfl
theorem sgs_in2 (d:DgL){i:Nat}(h:i<d.ins.length):(sigs d.c).getD i []=d.ins[i].nm:=by
 unfold sigs
 rw[List.getD_eq_getElem?_getD,List.getElem?_append_left (by rw[List.length_map];exact h),List.getElem?_map]
 have:d.c.ins[i]?=some d.ins[i]:=List.getElem?_eq_getElem h
 rw[this];rfl
theorem sgs_bl2 (d:DgL){i:Nat}(h:i<d.bls.length):(sigs d.c).getD (d.ins.length+i) []=d.bls[i].c.nm:=by
 unfold sigs
 have hl:(d.c.ins.map (·.nm)).length=d.ins.length:=List.length_map _
 rw[List.getD_eq_getElem?_getD,List.getElem?_append_right (by rw[hl];omega),hl,show d.ins.length+i-d.ins.length=i by omega,List.getElem?_map]
 have:d.c.bls[i]?=some d.bls[i].c:=by simp[DgL.c,h]
 rw[this];rfl
end Go.Proofs.YtlnpgbnhcondjaaGreatDoor.Fx
namespace Go.Proofs.YtlnpgbnhcondjaaGreatDoor.Fx
open Vg Tf
set_option linter.unusedSimpArgs false
set_option linter.unusedVariables false
set_option maxRecDepth 100000
set_option maxHeartbeats 4000000
theorem _root_.Go.Proofs.YtlnpgbnhcondjaaGreatDoor.Vg.Stp.mkF {P:Program}{o:Oper}{e:Env}{M:Mem}{f:FuncId}{x:Operand}{v:Value}(ho:o.op= .makeFunc (.func f) #[] #[x])(hx:rd e x=some (true,.c (.v v))):Stp P o e M (Fv f #[v]) []:=
 Stp.pure fun β a hop w=>by
  have hex:=hop x (by simp[ho,Op.operands]) _ hx
  simp only[gv,V.g,Cv.g,cond_true]at hex
  unfold execOp
  simp[ho,hex,Instr.makeFunc,V.g,Cv.g]
theorem fnd1_ {H:Hp}(x:Po)(s:Str)(pv:Value)(hpv:PtH H pv [sv s]):CallH H Tryz.prog 88 [rowV x.r,.c (.v pv)] (Bo (x.nm==s)):=by
 refine CallH.mkS Tryz.func88 rfl en88 (by simp[Tryz.ntmps88]) (ClA.of rfl) fun C hR hP hH hL=>?_
 refine Sm.bringP 1 9 1 (hpv.mono hH) rfl rfl (Sm.go 100 ?_)
 refine vv ?_
 exact RetQ.bool (hR C hL) rfl ⟨rfl,trivial⟩ rfl
theorem fnd2_ {H:Hp}(x:BlL)(s:Str)(pv:Value)(hpv:PtH H pv [sv s]):CallH H Tryz.prog 90 [rowV x.r,.c (.v pv)] (Bo (x.c.nm==s)):=by
 refine CallH.mkS Tryz.func90 rfl en90 (by simp[Tryz.ntmps90]) (ClA.of rfl) fun C hR hP hH hL=>?_
 refine Sm.bringP 1 9 1 (hpv.mono hH) rfl rfl (Sm.go 100 ?_)
 refine vv ?_
 exact RetQ.bool (hR C hL) rfl ⟨rfl,trivial⟩ rfl
def oX (o:Option Nat):Int:=match o with
 |some j=>(j:Int)
 |none=> -1
theorem ix_idx {α:Type}(nm:α→Str)(s:Str):∀(l:List α) (k:Nat),ixF (fun x=>nm x==s) l k=oX (idxS s (l.map nm) k)
 |[],_=>rfl
 |x::l,k=>by
  have ih:=ix_idx nm s l (k+1)
  rw[ixF,List.map_cons,idxS]
  by_cases h:nm x=s
  ·rw[if_pos h,h,beq_self_eq_true];rfl
  ·rw[if_neg h,beq_eq_false_iff_ne.2 h,cond_false,←ih];rfl
theorem idxS_app (s:Str):∀(a b:List Str) (k:Nat),idxS s (a++b) k=match idxS s a k with
  |some i=>some i
  |none=>idxS s b (k+a.length)
 |[],b,k=>by simp[idxS]
 |x::a,b,k=>by
  rw[List.cons_append,idxS,idxS]
  by_cases h:x=s
  ·rw[if_pos h,if_pos h]
  ·rw[if_neg h,if_neg h,idxS_app s a b (k+1),List.length_cons,Nat.add_right_comm,Nat.add_assoc]
theorem idxS_shift (s:Str):∀(l:List Str) (k m:Nat),idxS s l (k+m)=(idxS s l k).map (· +m)
 |[],_,_=>rfl
 |x::l,k,m=>by
  rw[idxS,idxS]
  by_cases h:x=s
  ·rw[if_pos h,if_pos h];rfl
  ·rw[if_neg h,if_neg h,Nat.add_right_comm,idxS_shift s l (k+1) m]
theorem fnd_split (d:DgL)(s:Str):fndQ (sigs d.c) s=bif decide (0≤ixF (fun x:Po=>x.nm==s) d.ins 0)then ixF (fun x:Po=>x.nm==s) d.ins 0 else bif decide (0≤ixF (fun x:BlL=>x.c.nm==s) d.bls 0)then(d.ins.length:Int)+ixF (fun x:BlL=>x.c.nm==s) d.bls 0 else-1:=by
 have e1:=ix_idx (fun x:Po=>x.nm) s d.ins 0
 have e2:=ix_idx (fun x:BlL=>x.c.nm) s d.bls 0
 simp only[Int.ofNat_zero,Int.natCast_zero]at e1 e2
 rw[e1,e2]
 have es:sigs d.c=d.ins.map (·.nm)++d.bls.map (fun x=>x.c.nm):=by unfold sigs;simp[DgL.c]
 unfold fndQ
 rw[es,idxS_app,List.length_map,idxS_shift]
 cases idxS s (d.ins.map (·.nm)) 0 with
 |some i=>
  show(i:Int)=bif decide (0≤(i:Int))then(i:Int)else _
  rw[decide_eq_true (by omega)];rfl
 |none=>
  cases idxS s (d.bls.map (fun x=>x.c.nm)) 0 with
  |some j=>
   show((j+d.ins.length:Nat):Int)=bif decide (0≤(-1:Int))then(-1:Int)else bif decide (0≤(j:Int))then(d.ins.length:Int)+(j:Int)else-1
   rw[decide_eq_true (show(0:Int)≤(j:Int) by omega)]
   show((j+d.ins.length:Nat):Int)=(d.ins.length:Int)+(j:Int)
   omega
  |none=>rfl
theorem ixF_lt {α:Type}(p:α→Bool):∀(l:List α) (k:Int),0≤k→ixF p l k≤k+l.length∧ -1≤ixF p l k
 |[],k,h=>by simp[ixF];omega
 |x::l,k,h=>by
  have ih:=ixF_lt p l (k+1) (by omega)
  rw[ixF]
  cases p x with
  |true=>simp only[cond_true,List.length_cons];omega
  |false=>simp only[cond_false,List.length_cons];omega
theorem pfind_ {H:Hp}(d:DgL)(hd:d.ok H)(s:Str)(h1:d.ins.length≤1000000000000000)(h2:d.bls.length≤1000000000000000):CallH H Tryz.prog 32 [rowV d.r,S s] (I (fndQ (sigs d.c) s)):=by
 have hsp:=fnd_split d s
 have b1:=ixF_lt (fun x:Po=>x.nm==s) d.ins 0 (by omega)
 have b2:=ixF_lt (fun x:BlL=>x.c.nm==s) d.bls 0 (by omega)
 refine CallH.mkS Tryz.func32 rfl en32 (by simp[Tryz.ntmps32]) (ClA.of rfl) fun C hR hP hH hL=>?_
 refine Sm.go 100 ?_
 refine vv ?_
 refine CallQ.letgo (xs:=[_,_]) [101] hL hP rfl rfl rfl en87 rfl rfl (fun β Cn l1 l2 l3=>?_)
 have hpt:=(l3 101 _ rfl rfl rfl).pt (by simp)
 refine CallW.h 110 l1 (ixfPo _ d.ins ((hd.mono hH).i.mono l2) (by omega) 88 #[ptr β 101 0] (fun x=>x.nm==s) (fun x hx=>fnd1_ x s _ hpt)) (Hp.le.refl _) rfl (fun Cm m1 m2=>?_)
 generalize ixF (fun x:Po=>x.nm==s) d.ins 0=i1 at*
 refine vv ?_
 refine mtch (fun hc=>?_) (fun hc=>?_)
 ·refine RetQ.of (hR Cm m1) rfl scc ?_ (Sub.nil _) ClM.nil (ClV.of rfl)
  rw[hsp,hc];rfl
 refine Sm.opq rfl rfl ⟨[],_,fun _=>Stp.mkF rfl rfl,.inl rfl,Sm.go 120 ?_⟩
 refine vv ?_
 refine CallQ.h 130 (ixfBl _ d.bls ((hd.mono hH).bl.mono (l2.trans m2)) (by omega) 90 #[ptr β 101 0] (fun x=>x.c.nm==s) (fun x hx=>fnd2_ x s _ (hpt.mono m2))) (Hp.le.refl _) rfl ?_
 generalize ixF (fun x:BlL=>x.c.nm==s) d.bls 0=i2 at*
 rw[hc,cond_false]at hsp
 have w3:IntKind.i64.wrap ((d.ins.length:Int)+i2)=(d.ins.length:Int)+i2:=by rw[w64 (by omega) (by omega)]
 simp(maxSteps:=2000000) only[go_sem,w3]
 refine mtch (fun hc=>?_) (fun hc=>?_)
 ·refine RetQ.of (hR Cm m1) rfl scc ?_ (Sub.nil _) ClM.nil (ClV.of rfl)
  rw[hsp,hc];rfl
 ·refine RetQ.of (hR Cm m1) rfl scc ?_ (Sub.nil _) ClM.nil (ClV.of rfl)
  rw[hsp,hc];rfl
end Go.Proofs.YtlnpgbnhcondjaaGreatDoor.Fx
namespace Go.Proofs.YtlnpgbnhcondjaaGreatDoor.Fx
open Vg Tf
set_option linter.unusedSimpArgs false
set_option linter.unusedVariables false
set_option maxRecDepth 100000
set_option maxHeartbeats 4000000
def rnS (f t s:Str):Str:=if s=f then t else s
theorem chg_ (f t s:Str)(cs:List Cv)(hv:cs.all Cv.isV=true)(off:Nat)(ty:TypeId)(hs:cs[off]?=some (sC s)):CallOk Tryz.prog 99 [.c (.p 3 off),.c (.p 1 0),.c (.p 2 0)] [(3,⟨false,cs,ty⟩),(1,⟨true,[sC f],9⟩),(2,⟨true,[sC t],9⟩)] (.tup []) [(3,⟨false,cs.set off (sC (rnS f t s)),ty⟩)]:=by
 have hlt:off<cs.length:=by
  rcases Nat.lt_or_ge off cs.length with h|h
  ·exact h
  ·rw[List.getElem?_eq_none h]at hs;cases hs
 refine CallOk.mkN 100 Tryz.func99 rfl en99 (by simp[Tryz.ntmps99]) (ClA.of rfl) rfl rfl fun C hR hP=>?_
 have hM:∀q:List Cv,q.all Cv.isV=true→ClM [(3,⟨false,q,ty⟩),(1,⟨true,[sC f],9⟩),(2,⟨true,[sC t],9⟩)]:=fun q h=>ClM.of (by simp only[List.all_cons,inMV h];rfl)
 refine vv ?_
 refine Sm.dg 100 4 mix ?_
 simp(maxSteps:=2000000) only[go_sem,hs]
 have hset:∀x:Str,(cs.set off (sC x)).all Cv.isV=true:=fun x=>setV hv
 refine mtch (fun he=>?_) (fun he=>?_)
 ·have e:rnS f t s=t:=if_pos (eq_of_beq he)
  rw[e]at hR
  exact⟨by omega,Sm.fall hR (RetQ.of hR rfl trivial rfl (sub_sh (SubS.sub ⟨⟨_,rfl,.inl rfl⟩,⟨_,rfl,.inl rfl⟩,⟨_,rfl,.inl rfl⟩,trivial⟩)) (clm_sh (hM _ (hset t))) (ClV.of rfl))⟩
 ·have e:rnS f t s=s:=if_neg (fun h=>by rw[h]at he;simp at he)
  have e2:cs.set off (sC s)=cs:=by
   apply List.ext_getElem?
   intro j
   rw[List.getElem?_set]
   by_cases hj:off=j
   ·subst hj;rw[if_pos rfl,if_pos hlt,hs]
   ·rw[if_neg hj]
  rw[e,e2]at hR
  exact Sm.fall hR (RetQ.of hR rfl trivial rfl (sub_sh (SubS.sub ⟨⟨_,rfl,.inl rfl⟩,⟨_,rfl,.inl rfl⟩,⟨_,rfl,.inl rfl⟩,trivial⟩)) (clm_sh (hM _ hv)) (ClV.of rfl))
end Go.Proofs.YtlnpgbnhcondjaaGreatDoor.Fx
