/-  -/
import Derived.Test.YtlnpgbnhcondjaaGreatDoorTf
import Derived.Test.YtlnpgbnhcondjaaGreatDoorRQ
import Derived.Test.YtlnpgbnhcondjaaGreatDoorRD
import Derived.Test.YtlnpgbnhcondjaaGreatDoorQ4
import Derived.Test.YtlnpgbnhcondjaaGreatDoorU6
namespace Go.Proofs.YtlnpgbnhcondjaaGreatDoor.Fx
open Vg Tf
set_option linter.unusedSimpArgs false
set_option linter.unusedVariables false
set_option maxRecDepth 100000
set_option maxHeartbeats 4000000
@[reducible,go_sem] def dvs (d:DgL):List Cv:=[.v (sv d.nm),.v (vsl d.ty d.tys.length),.v (vsl d.cu d.cus.length),.v (vsl d.ma d.mas.length),.sl 4 0 d.ins.length 4,.sl 5 0 d.bls.length 6,.v (vsl d.ou d.ous.length)]
@[reducible,go_sem] def dmm (d:DgL):Mem:=[(4,⟨true,rowsC (d.ins.map Po.r),118⟩),(5,⟨true,rowsC (d.bls.map BlL.r),82⟩)]
def fndQ (l:List Str)(s:Str):Int:=match idxS s l 0 with
 |some i=>(i:Int)
 |none=> -1
theorem _root_.Go.Proofs.YtlnpgbnhcondjaaGreatDoor.Vg.Stp.mkF {P:Program}{o:Oper}{e:Env}{M:Mem}{f:FuncId}{x:Operand}{v:Value}(ho:o.op= .makeFunc (.func f) #[] #[x])(hx:rd e x=some (true,.c (.v v))):Stp P o e M (Fv f #[v]) []:=
 Stp.pure fun β a hop w=>by
  have hex:=hop x (by simp[ho,Op.operands]) _ hx
  simp only[gv,V.g,Cv.g,cond_true]at hex
  unfold execOp
  simp[ho,hex,Instr.makeFunc,V.g,Cv.g]
theorem fnd1_ {H:Hp}(x:Po)(s:Str)(pv:Value)(hpv:PtH H pv [sv s]):CallH H Tryz.prog 88 [rowV x.r,.c (.v pv)] (Bo (x.nm==s)):=by
 refine CallH.mkS Tryz.func88 rfl en88 (by simp[Tryz.ntmps88]) (ClA.of rfl) fun C hR hP hH hL=>?_
 refine Sm.bringP 1 9 1 (hpv.mono hH) rfl rfl (Sm.go 100 ?_)
 refine vv ?_
 exact RetQ.bool (hR C hL) rfl ⟨rfl,trivial⟩ rfl
theorem fnd2_ {H:Hp}(x:BlL)(s:Str)(pv:Value)(hpv:PtH H pv [sv s]):CallH H Tryz.prog 90 [rowV x.r,.c (.v pv)] (Bo (x.c.nm==s)):=by
 refine CallH.mkS Tryz.func90 rfl en90 (by simp[Tryz.ntmps90]) (ClA.of rfl) fun C hR hP hH hL=>?_
 refine Sm.bringP 1 9 1 (hpv.mono hH) rfl rfl (Sm.go 100 ?_)
 refine vv ?_
 exact RetQ.bool (hR C hL) rfl ⟨rfl,trivial⟩ rfl
def oX (o:Option Nat):Int:=match o with
 |some j=>(j:Int)
 |none=> -1
theorem ix_idx {α:Type}(nm:α→Str)(s:Str):∀(l:List α) (k:Nat),ixF (fun x=>nm x==s) l k=oX (idxS s (l.map nm) k)
 |[],_=>rfl
 |x::l,k=>by
  have ih:=ix_idx nm s l (k+1)
  rw[ixF,List.map_cons,idxS]
  by_cases h:nm x=s
  ·rw[if_pos h,h,beq_self_eq_true];rfl
  ·rw[if_neg h,beq_eq_false_iff_ne.2 h,cond_false,←ih];rfl
theorem idxS_app (s:Str):∀(a b:List Str) (k:Nat),idxS s (a++b) k=match idxS s a k with
  |some i=>some i
  |none=>idxS s b (k+a.length)
 |[],b,k=>by simp[idxS]
 |x::a,b,k=>by
  rw[List.cons_append,idxS,idxS]
  by_cases h:x=s
  ·rw[if_pos h,if_pos h]
  ·rw[if_neg h,if_neg h,idxS_app s a b (k+1),List.length_cons,Nat.add_right_comm,Nat.add_assoc]
theorem idxS_shift (s:Str):∀(l:List Str) (k m:Nat),idxS s l (k+m)=(idxS s l k).map (· +m)
 |[],_,_=>rfl
 |x::l,k,m=>by
  rw[idxS,idxS]
  by_cases h:x=s
  ·rw[if_pos h,if_pos h];rfl
  ·rw[if_neg h,if_neg h,Nat.add_right_comm,idxS_shift s l (k+1) m]
theorem fnd_split (d:DgL)(s:Str):fndQ (sigs d.c) s=bif decide (0≤ixF (fun x:Po=>x.nm==s) d.ins 0)then ixF (fun x:Po=>x.nm==s) d.ins 0 else bif decide (0≤ixF (fun x:BlL=>x.c.nm==s) d.bls 0)then(d.ins.length:Int)+ixF (fun x:BlL=>x.c.nm==s) d.bls 0 else-1:=by
 have e1:=ix_idx (fun x:Po=>x.nm) s d.ins 0
 have e2:=ix_idx (fun x:BlL=>x.c.nm) s d.bls 0
 simp only[Int.ofNat_zero,Int.natCast_zero]at e1 e2
 rw[e1,e2]
 have es:sigs d.c=d.ins.map (·.nm)++d.bls.map (fun x=>x.c.nm):=by unfold sigs;simp[DgL.c]
 unfold fndQ
 rw[es,idxS_app,List.length_map,idxS_shift]
 cases idxS s (d.ins.map (·.nm)) 0 with
 |some i=>
  show(i:Int)=bif decide (0≤(i:Int))then(i:Int)else _
  rw[decide_eq_true (by omega)];rfl
 |none=>
  cases idxS s (d.bls.map (fun x=>x.c.nm)) 0 with
  |some j=>
   show((j+d.ins.length:Nat):Int)=bif decide (0≤(-1:Int))then(-1:Int)else bif decide (0≤(j:Int))then(d.ins.length:Int)+(j:Int)else-1
   rw[decide_eq_true (show(0:Int)≤(j:Int) by omega)]
   show((j+d.ins.length:Nat):Int)=(d.ins.length:Int)+(j:Int)
   omega
  |none=>rfl
theorem ixF_lt {α:Type}(p:α→Bool):∀(l:List α) (k:Int),0≤k→ixF p l k≤k+l.length∧ -1≤ixF p l k
 |[],k,h=>by simp[ixF];omega
 |x::l,k,h=>by
  have ih:=ixF_lt p l (k+1) (by omega)
  rw[ixF]
  cases p x with
  |true=>simp only[cond_true,List.length_cons];omega
  |false=>simp only[cond_false,List.length_cons];omega
theorem pfind_ {H:Hp}(d:DgL)(hd:d.ok H)(s:Str)(h1:d.ins.length≤1000000000000000)(h2:d.bls.length≤1000000000000000):CallH H Tryz.prog 32 [rowV d.r,S s] (I (fndQ (sigs d.c) s)):=by
 have hsp:=fnd_split d s
 have b1:=ixF_lt (fun x:Po=>x.nm==s) d.ins 0 (by omega)
 have b2:=ixF_lt (fun x:BlL=>x.c.nm==s) d.bls 0 (by omega)
 refine CallH.mkS Tryz.func32 rfl en32 (by simp[Tryz.ntmps32]) (ClA.of rfl) fun C hR hP hH hL=>?_
 refine Sm.go 100 ?_
 refine vv ?_
 refine CallQ.letgo (xs:=[_,_]) [101] hL hP rfl rfl rfl en87 rfl rfl (fun β Cn l1 l2 l3=>?_)
 have hpt:=(l3 101 _ rfl rfl rfl).pt (by simp)
 refine CallW.h 110 l1 (ixfPo _ d.ins ((hd.mono hH).i.mono l2) (by omega) 88 #[ptr β 101 0] (fun x=>x.nm==s) (fun x hx=>fnd1_ x s _ hpt)) (Hp.le.refl _) rfl (fun Cm m1 m2=>?_)
 generalize ixF (fun x:Po=>x.nm==s) d.ins 0=i1 at*
 refine vv ?_
 refine mtch (fun hc=>?_) (fun hc=>?_)
 ·refine RetQ.of (hR Cm m1) rfl scc ?_ (Sub.nil _) ClM.nil (ClV.of rfl)
  rw[hsp,hc];rfl
 refine Sm.opq rfl rfl ⟨[],_,fun _=>Stp.mkF rfl rfl,.inl rfl,Sm.go 120 ?_⟩
 refine vv ?_
 refine CallQ.h 130 (ixfBl _ d.bls ((hd.mono hH).bl.mono (l2.trans m2)) (by omega) 90 #[ptr β 101 0] (fun x=>x.c.nm==s) (fun x hx=>fnd2_ x s _ (hpt.mono m2))) (Hp.le.refl _) rfl ?_
 generalize ixF (fun x:BlL=>x.c.nm==s) d.bls 0=i2 at*
 rw[hc,cond_false]at hsp
 have w3:IntKind.i64.wrap ((d.ins.length:Int)+i2)=(d.ins.length:Int)+i2:=by rw[w64 (by omega) (by omega)]
 simp(maxSteps:=2000000) only[go_sem,w3]
 refine mtch (fun hc=>?_) (fun hc=>?_)
 ·refine RetQ.of (hR Cm m1) rfl scc ?_ (Sub.nil _) ClM.nil (ClV.of rfl)
  rw[hsp,hc];rfl
 ·refine RetQ.of (hR Cm m1) rfl scc ?_ (Sub.nil _) ClM.nil (ClV.of rfl)
  rw[hsp,hc];rfl
def STk (T:List Tk):Prop:=(T.map fun t=>t.s.length).sum≤100000
theorem sum_drop {T:List Tk}{i:Nat}(h:i<T.length):((T.drop i).map fun t=>t.s.length).sum=(T.getD i tk0).s.length+((T.drop (i+1)).map fun t=>t.s.length).sum:=by
 rw[List.drop_eq_getElem_cons h,List.getD_eq_getElem?_getD,List.getElem?_eq_getElem h];rfl
theorem sum_mem:∀(T:List Tk) (i:Nat),(T.getD i tk0).s.length≤(T.map fun t=>t.s.length).sum
 |[],i=>by simp[tk0]
 |t::T,0=>by simp
 |t::T,i+1=>by have:=sum_mem T i;simp only[List.getD_cons_succ,List.map_cons,List.sum_cons];omega
theorem STk.here {T:List Tk}(h:STk T)(p:Ps):(hereP T p).s.length≤100000:=Nat.le_trans (sum_mem T p.at_) h
@[reducible,go_sem] def pD (T:List Tk)(p:Ps)(cs:List Cv)(ty:TypeId):Mem:=[(1,⟨false,psC T p,96⟩),(3,⟨false,cs,ty⟩),(2,⟨true,rowsC (T.map Tk.r),57⟩)]
theorem pD_cl (T:List Tk)(p:Ps){cs:List Cv}(hv:cs.all Cv.isV=true)(ty:TypeId):ClM (pD T p cs ty):=ClM.of (by simp only[List.all_cons,inMV (rowsC_isV _),inMV hv];rfl)
theorem get_sh2 {n m:Nat}{b b' c c':Bk}{r:Mem}(k:Nat):Mem.get ((n,b)::(m,c)::(n,b')::(m,c')::r) k=Mem.get ((n,b)::(m,c)::r) k:=by
 simp only[Mem.get_cons]
 by_cases h1:k=n
 ·simp[h1]
 ·by_cases h2:k=m<;>simp[h1,h2]
theorem sub_sh2 {n m:Nat}{b b' c c':Bk}{r M:Mem}(h:Sub ((n,b)::(m,c)::r) M):Sub ((n,b)::(m,c)::(n,b')::(m,c')::r) M:=fun k x hk=>h k x (by rw[←get_sh2 (b':=b') (c':=c')];exact hk)
theorem clm_sh2 {n m:Nat}{b b' c c':Bk}{r:Mem}(h:ClM ((n,b)::(m,c)::r)):ClM ((n,b)::(m,c)::(n,b')::(m,c')::r):=fun β β' hag k x hk=>
 h β β' (fun k hn=>hag k (by rw[get_sh2];exact hn)) k x (by rw[←get_sh2 (b':=b') (c':=c')];exact hk)
theorem name_ (T:List Tk)(hT:T.length≤100000)(sT:STk T)(p:Ps)(h:p.at_<T.length)(cs:List Cv)(hv:cs.all Cv.isV=true)(off:Nat)(ho:off<cs.length)(ty:TypeId):
  CallOk Tryz.prog 149 [.c (.p 1 0),.c (.p 3 off)] (pD T p cs ty) (Bo (namP T p).1.isSome) ((1,⟨false,psC T (namP T p).2,96⟩)::(match (namP T p).1 with|some s=>[(3,⟨false,cs.set off (sC s),ty⟩)]|none=>[])):=by
 have hM:=pM_cl T p
 have hM2:=pM_cl T (namP T p).2
 have hD:=pD_cl T p hv ty
 have hh:=here_ T hT p h
 have hw:=wrong_ T hT p h
 have hnm:=name_ok (hereP T p).s (by have:=sT.here p;omega)
 have e1:((hereP T p).k==1)=(((hereP T p).k:Int)==1):=(kB _ 1).symm
 unfold namP at hM2⊢
 rw[e1]at hM2⊢
 cases hk:((hereP T p).k:Int)==1 with
 |false=>
  rw[hk]at hM2
  simp only[Bool.false_and,cond_false,Option.isSome_none]at hM2⊢
  have hD2:=pD_cl T (wrnP T p) hv ty
  refine CallOk.mkN 100 Tryz.func149 rfl en149 (by simp[Tryz.ntmps149]) (ClA.of rfl) rfl rfl fun C hR hP=>?_
  refine vv ?_
  refine CallQ.mi 100 hh hM ⟨oS,oS,trivial⟩ ?_
  simp(maxSteps:=2000000) only[go_sem,hk,bne]
  refine CallQ.guard 110 (fun _=>hnm) (fun h=>by cases h) ?_
  simp(maxSteps:=2000000) only[go_sem,hk,bne]
  refine CallQ.mi 110 hw hM ⟨oS,oS,trivial⟩ ?_
  refine vv ?_
  exact RetQ.of hR rfl scc rvv (sub_sh (SubS.sub ⟨oS,oS,oS,trivial⟩)) (clm_sh hD2) (ClV.of rfl)
 |true=>
  cases hn:nmOk (hereP T p).s with
  |false=>
   rw[hk,hn]at hM2
   simp only[Bool.and_false,cond_false,Option.isSome_none]at hM2⊢
   have hD2:=pD_cl T (wrnP T p) hv ty
   rw[hn]at hnm
   refine CallOk.mkN 100 Tryz.func149 rfl en149 (by simp[Tryz.ntmps149]) (ClA.of rfl) rfl rfl fun C hR hP=>?_
   refine vv ?_
   refine CallQ.mi 100 hh hM ⟨oS,oS,trivial⟩ ?_
   simp(maxSteps:=2000000) only[go_sem,hk,bne]
   refine CallQ.guard 110 (fun _=>hnm) (fun h=>by rw[h];rfl) ?_
   simp(maxSteps:=2000000) only[go_sem,hk,bne]
   refine CallQ.mi 100 hw hM ⟨oS,oS,trivial⟩ ?_
   refine vv ?_
   exact RetQ.of hR rfl scc rvv (sub_sh (SubS.sub ⟨oS,oS,oS,trivial⟩)) (clm_sh hD2) (ClV.of rfl)
  |true=>
   rw[hk,hn]at hM2
   simp only[Bool.and_true,cond_true,Option.isSome_some]at hM2⊢
   rw[hn]at hnm
   have hD2:=pD_cl T (advP p) (setV (i:=off) (v:= .string ⟨(hereP T p).s.toArray⟩) hv) ty
   refine CallOk.mkN 100 Tryz.func149 rfl en149 (by simp[Tryz.ntmps149]) (ClA.of rfl) rfl rfl fun C hR hP=>?_
   refine vv ?_
   refine CallQ.mi 100 hh hM ⟨oS,oS,trivial⟩ ?_
   simp(maxSteps:=2000000) only[go_sem,hk,bne]
   refine CallQ.guard 110 (fun _=>hnm) (fun h=>by rw[h];rfl) ?_
   simp(maxSteps:=2000000) only[go_sem,hk,bne]
   refine CallQ.mi 120 hh hM ⟨oS,oS,trivial⟩ ?_
   simp(maxSteps:=2000000) only[go_sem,ho,aP hT h]
   exact⟨ho,RetQ.of hR rfl scc rvv (sub_sh2 (SubS.sub ⟨oS,oS,oS,trivial⟩)) (clm_sh2 hD2) (ClV.of rfl)⟩
theorem integer_ (T:List Tk)(hT:T.length≤100000)(p:Ps)(h:p.at_<T.length)(hN:(hereP T p).k=2→CallOk Tryz.prog 266 [S (hereP T p).s] [] (.tup [Wi (nmbQ (hereP T p).s).1,Wi (nmbQ (hereP T p).s).2]) [])(cs:List Cv)(hv:cs.all Cv.isV=true)(off:Nat)(ho:off<cs.length)(ty:TypeId):
  CallOk Tryz.prog 231 [.c (.p 1 0),.c (.p 3 off)] (pD T p cs ty) (Bo (intP T p).1.isSome) ((1,⟨false,psC T (intP T p).2,96⟩)::(match (intP T p).1 with|some s=>[(3,⟨false,cs.set off (.v (.int .i64 s)),ty⟩)]|none=>[])):=by
 have hM:=pM_cl T p
 have hM2:=pM_cl T (intP T p).2
 have hD:=pD_cl T p hv ty
 have hh:=here_ T hT p h
 have hw:=wrong_ T hT p h
 have e1:((hereP T p).k==2)=(((hereP T p).k:Int)==2):=(kB _ 2).symm
 unfold intP at hM2⊢
 rw[e1]at hM2⊢
 cases hk:((hereP T p).k:Int)==2 with
 |false=>
  rw[hk]at hM2
  simp only[cond_false,Option.isSome_none]at hM2⊢
  have hD2:=pD_cl T (wrnP T p) hv ty
  refine CallOk.mkN 100 Tryz.func231 rfl en231 (by simp[Tryz.ntmps231]) (ClA.of rfl) rfl rfl fun C hR hP=>?_
  refine vv ?_
  refine CallQ.mi 100 hh hM ⟨oS,oS,trivial⟩ ?_
  simp(maxSteps:=2000000) only[go_sem,hk,bne]
  refine CallQ.mi 110 hw hM ⟨oS,oS,trivial⟩ ?_
  refine vv ?_
  exact RetQ.of hR rfl scc rvv (sub_sh (SubS.sub ⟨oS,oS,oS,trivial⟩)) (clm_sh hD2) (ClV.of rfl)
 |true=>
  rw[hk]at hM2
  simp only[cond_true,Option.isSome_some]at hM2⊢
  have hN:=hN (by have:=eq_of_beq hk;omega)
  have hD2:=pD_cl T (advP p) (setV (i:=off) (v:= .int .i64 (nmbQ (hereP T p).s).1) hv) ty
  refine CallOk.mkN 100 Tryz.func231 rfl en231 (by simp[Tryz.ntmps231]) (ClA.of rfl) rfl rfl fun C hR hP=>?_
  refine vv ?_
  refine CallQ.mi 100 hh hM ⟨oS,oS,trivial⟩ ?_
  simp(maxSteps:=2000000) only[go_sem,hk,bne]
  refine CallQ.mi 120 hh hM ⟨oS,oS,trivial⟩ ?_
  simp(maxSteps:=2000000) only[go_sem,ho]
  refine CallQ.pure 130 hN rfl ?_
  simp(maxSteps:=2000000) only[go_sem,ho,aP hT h]
  exact⟨ho,RetQ.of hR rfl scc rvv (sub_sh2 (SubS.sub ⟨oS,oS,oS,trivial⟩)) (clm_sh2 hD2) (ClV.of rfl)⟩
def rdR (f:List UInt8):Nat×Nat×Bool:=match readF f with
 |none=>(0,0,false)
 |some (i,n)=>(i,n,true)
theorem rd5 (nm:List UInt8)(n:Nat):(match Option.map (fun i=>(i,n)) (ixU nm symT 0)with
  |none=>(0,0,false)
  |some (i,n)=>(i,n,true))=bif [109]==nm then(0,n,true)else bif [107,103]==nm then(1,n,true)else bif [115]==nm then(2,n,true)else bif [65]==nm then(3,n,true)else bif [75]==nm then(4,n,true)else((0,0,false):Nat×Nat×Bool):=by
 unfold symT
 simp only[ixU]
 by_cases h0:[109]=nm
 ·subst h0;rfl
 by_cases h1:[107,103]=nm
 ·subst h1;rfl
 by_cases h2:[115]=nm
 ·subst h2;rfl
 by_cases h3:[65]=nm
 ·subst h3;rfl
 by_cases h4:[75]=nm
 ·subst h4;rfl
 rw[beq_eq_false_iff_ne.2 h0,beq_eq_false_iff_ne.2 h1,beq_eq_false_iff_ne.2 h2,beq_eq_false_iff_ne.2 h3,beq_eq_false_iff_ne.2 h4]
 simp only[if_neg h0,if_neg h1,if_neg h2,if_neg h3,if_neg h4]
 rfl
theorem sg0:(symT.map cs1)[0]?=some (cs1 [109]):=rfl
theorem sg1:(symT.map cs1)[1]?=some (cs1 [107,103]):=rfl
theorem sg2:(symT.map cs1)[2]?=some (cs1 [115]):=rfl
theorem sg3:(symT.map cs1)[3]?=some (cs1 [65]):=rfl
theorem sg4:(symT.map cs1)[4]?=some (cs1 [75]):=rfl
theorem read_ (f:List UInt8)(hf:f.length≤1000000):CallOk Tryz.prog 281 [S f] [] (.tup [Wi (rdR f).1,Wi (rdR f).2.1,Wb1 (rdR f).2.2]) []:=by
 refine CallOk.mkN 100 Tryz.func281 rfl en281 (by simp[Tryz.ntmps281]) (ClA.of rfl) rfl rfl fun C hR hP=>?_
 refine vv ?_
 refine CallQ.pure 110 (sCut f 94 hf) rfl ?_
 have hrd:rdR f=match readF f with
  |none=>(0,0,false)
  |some (i,n)=>(i,n,true):=rfl
 unfold readF at hrd
 generalize cutB 94 f=q at*
 obtain⟨nm,d,b⟩:=q
 simp only at hrd⊢
 refine vv ?_
 cases b with
 |true=>
  refine vv ?_
  match d,hrd with
  |[],hrd=>
   rw[hrd]at hR
   refine vv ?_
   exact RetQ.of hR rfl (vv trivial) rvr (Sub.nil _) ClM.nil (ClV.of rfl)
  |x::y::d,hrd=>
   have h1:(((d.length+1+1:Nat):Int)!=1)=true:=by simp;omega
   rw[hrd]at hR
   simp(maxSteps:=2000000) only[go_sem,h1]
   exact RetQ.of hR rfl (vv trivial) rvr (Sub.nil _) ClM.nil (ClV.of rfl)
  |[x],hrd=>
   simp only[if_true]at hrd
   simp(maxSteps:=2000000) only[go_sem,show([x]:List UInt8).getD 0 0=x from rfl]
   by_cases hx:50≤x.toNat∧x.toNat≤57
   ·have h1:decide ((x.toNat:Int)<50)=false:=fal_of (by omega)
    have h2:decide (57<(x.toNat:Int))=false:=fal_of (by omega)
    have w1:IntKind.u8.wrap ((x.toNat:Int)-48)=((x.toNat-48:Nat):Int):=by rw[IntKind.wrap_u8];omega
    have w2:IntKind.i64.wrap ((x.toNat-48:Nat):Int)=((x.toNat-48:Nat):Int):=by rw[w64 (by omega) (by omega)]
    rw[if_pos hx]at hrd
    generalize x.toNat-48=n at*
    simp(maxSteps:=2000000) only[go_sem,h1,h2,w1,w2]
    refine CallQ.pure 120 symbols_ rfl ?_
    refine vv ?_
    refine Sm.unroll 6 (Sm.go 130 ?_)
    simp(maxSteps:=2000000) only[go_sem,sg0,sg1,sg2,sg3,sg4]
    rw[rd5]at hrd
    refine mtch (fun hq=>?_) (fun hq=>?_)
    ·rw[hq,cond_true]at hrd
     rw[hrd]at hR
     exact RetQ.of hR rfl (vv trivial) rvr (Sub.nil _) ClM.nil (ClV.of rfl)
    rw[hq,cond_false]at hrd
    refine mtch (fun hq=>?_) (fun hq=>?_)
    ·rw[hq,cond_true]at hrd
     rw[hrd]at hR
     exact RetQ.of hR rfl (vv trivial) rvr (Sub.nil _) ClM.nil (ClV.of rfl)
    rw[hq,cond_false]at hrd
    refine mtch (fun hq=>?_) (fun hq=>?_)
    ·rw[hq,cond_true]at hrd
     rw[hrd]at hR
     exact RetQ.of hR rfl (vv trivial) rvr (Sub.nil _) ClM.nil (ClV.of rfl)
    rw[hq,cond_false]at hrd
    refine mtch (fun hq=>?_) (fun hq=>?_)
    ·rw[hq,cond_true]at hrd
     rw[hrd]at hR
     exact RetQ.of hR rfl (vv trivial) rvr (Sub.nil _) ClM.nil (ClV.of rfl)
    rw[hq,cond_false]at hrd
    refine mtch (fun hq=>?_) (fun hq=>?_)
    ·rw[hq,cond_true]at hrd
     rw[hrd]at hR
     exact RetQ.of hR rfl (vv trivial) rvr (Sub.nil _) ClM.nil (ClV.of rfl)
    rw[hq,cond_false]at hrd
    rw[hrd]at hR
    exact RetQ.of hR rfl (vv trivial) rvr (Sub.nil _) ClM.nil (ClV.of rfl)
   ·rw[if_neg hx]at hrd
    rw[hrd]at hR
    have h1:(bif decide ((x.toNat:Int)<50)then true else decide (57<(x.toNat:Int)))=true:=by
     by_cases h:(x.toNat:Int)<50
     ·simp[h]
     ·simp[h];omega
    simp(maxSteps:=2000000) only[go_sem,h1]
    exact RetQ.of hR rfl (vv trivial) rvr (Sub.nil _) ClM.nil (ClV.of rfl)
 |false=>
  simp only[Bool.false_eq_true,if_false]at hrd
  refine vv ?_
  refine CallQ.pure 120 symbols_ rfl ?_
  refine vv ?_
  refine Sm.unroll 6 (Sm.go 130 ?_)
  simp(maxSteps:=2000000) only[go_sem,sg0,sg1,sg2,sg3,sg4]
  rw[rd5]at hrd
  refine mtch (fun hq=>?_) (fun hq=>?_)
  ·rw[hq,cond_true]at hrd
   rw[hrd]at hR
   exact RetQ.of hR rfl (vv trivial) rvr (Sub.nil _) ClM.nil (ClV.of rfl)
  rw[hq,cond_false]at hrd
  refine mtch (fun hq=>?_) (fun hq=>?_)
  ·rw[hq,cond_true]at hrd
   rw[hrd]at hR
   exact RetQ.of hR rfl (vv trivial) rvr (Sub.nil _) ClM.nil (ClV.of rfl)
  rw[hq,cond_false]at hrd
  refine mtch (fun hq=>?_) (fun hq=>?_)
  ·rw[hq,cond_true]at hrd
   rw[hrd]at hR
   exact RetQ.of hR rfl (vv trivial) rvr (Sub.nil _) ClM.nil (ClV.of rfl)
  rw[hq,cond_false]at hrd
  refine mtch (fun hq=>?_) (fun hq=>?_)
  ·rw[hq,cond_true]at hrd
   rw[hrd]at hR
   exact RetQ.of hR rfl (vv trivial) rvr (Sub.nil _) ClM.nil (ClV.of rfl)
  rw[hq,cond_false]at hrd
  refine mtch (fun hq=>?_) (fun hq=>?_)
  ·rw[hq,cond_true]at hrd
   rw[hrd]at hR
   exact RetQ.of hR rfl (vv trivial) rvr (Sub.nil _) ClM.nil (ClV.of rfl)
  rw[hq,cond_false]at hrd
  rw[hrd]at hR
  exact RetQ.of hR rfl (vv trivial) rvr (Sub.nil _) ClM.nil (ClV.of rfl)
theorem parse_named (l:List UInt8)(hl:l.length≤40)(hn:(nmd l).2=true):CallOk Tryz.prog 267 [S l] [] (.tup [Wuu (nmd l).1,Wi 0]) []:=by
 have h1:decide ((40:Int)<l.length)=false:=fal_of (by omega)
 refine CallOk.mkN 100 Tryz.func267 rfl en267 (by simp[Tryz.ntmps267]) (ClA.of rfl) rfl rfl fun C hR hP=>?_
 simp(maxSteps:=2000000) only[go_sem,h1]
 refine CallQ.pure 110 (named_ l) rfl ?_
 refine vv ?_
 rw[hn]
 refine vv ?_
 exact RetQ.of hR rfl (vv trivial) rvr (Sub.nil _) ClM.nil (ClV.of rfl)
def m2:Un:=⟨2,0,0,0,0⟩
def qt:Un:=⟨-1,1, -2,0,0⟩
theorem splB_sub (c:UInt8):∀l:List UInt8,∀x∈splB c l,x.length≤l.length
 |[],x,h=>by simp[splB]at h;simp[h]
 |y::l,x,h=>by
  have ih:=splB_sub c l
  rw[splB_cons]at h
  split at h
  ·rcases List.mem_cons.1 h with rfl|h
   ·simp
   ·have:=ih x h;simp;omega
  ·split at h
   ·rename_i he;rw[List.mem_singleton.1 h];simp
   ·rename_i a t he
    rcases List.mem_cons.1 h with rfl|h
    ·have:=ih a (by rw[he];simp);simp;omega
    ·have:=ih x (by rw[he];simp[h]);simp;omega
theorem getD_mem {L:List (List UInt8)}{i:Nat}(h:i<L.length):L.getD i []∈L:=by
 rw[List.getD_eq_getElem?_getD,List.getElem?_eq_getElem h];simp
theorem drop_getD {L:List (List UInt8)}{i:Nat}(h:i<L.length):L.drop i=L.getD i []::L.drop (i+1):=by
 rw[List.getD_eq_getElem?_getD,List.getElem?_eq_getElem h,List.drop_eq_getElem_cons h];rfl
theorem un_set (u:Un){i:Nat}(h:i<5)(v:Int):(unL u).set i (.v (.int .i64 v))=unL (uset u i v):=five (Q:=fun i=>(unL u).set i (.v (.int .i64 v))=unL (uset u i v)) rfl rfl rfl rfl rfl i h
@[reducible] def upM (u:Un)(l:List UInt8):Mem:=[(4,⟨false,unL u0,89⟩),(7,⟨false,unL u,89⟩),(8,⟨false,[.p 7 0,.p 7 1,.p 7 2,.p 7 3,.p 7 4],258⟩),bSt 5 (splB 47 l)]
theorem clUp (u:Un)(l:List UInt8):ClM (upM u l):=ClM.of (by simp only[List.all_cons,inMV (v_st _)];rfl)
theorem clUp2 (u:Un)(l:List UInt8)(P:List (List UInt8)):ClM (bSt 6 P::upM u l):=ClM.of (by simp only[List.all_cons,inMV (v_st _)];rfl)
theorem parse_ (l:List UInt8)(hl:l.length≤1000000):CallOk Tryz.prog 267 [S l] [] (.tup [Wuu (prs l).1,Wi (prs l).2]) []:=by
 by_cases h40:40<l.length
 ·have e:prs l=(u0,5):=by rw[prs,if_pos h40]
  have h1:decide ((40:Int)<l.length)=true:=tru_of (by omega)
  rw[e]
  refine CallOk.mkN 100 Tryz.func267 rfl en267 (by simp[Tryz.ntmps267]) (ClA.of rfl) rfl rfl fun C hR hP=>?_
  simp(maxSteps:=2000000) only[go_sem,h1]
  exact RetQ.of hR rfl (vv trivial) rvr (Sub.nil _) ClM.nil (ClV.of rfl)
 cases hn:(nmd l).2 with
 |true=>
  have e:prs l=((nmd l).1,0):=by rw[prs,if_neg h40,if_pos hn]
  rw[e]
  exact parse_named l (by omega) hn
 |false=>
 have e:prs l=match parseQ l with
  |none=>(u0,3)
  |some u=>if txt u=l then(u,0)else(u0,3):=by unfold prs;rw[if_neg h40,hn];rfl
 have h1:decide ((40:Int)<l.length)=false:=fal_of (by omega)
 have hsub:=splB_sub 47 l
 have hcnt:(splB 47 l).length≤41:=by
  rw[splB_len]
  have:=List.count_le_length (a:=(47:UInt8)) (l:=l)
  omega
 refine CallOk.mkN 100 Tryz.func267 rfl en267 (by simp[Tryz.ntmps267]) (ClA.of rfl) rfl rfl fun C hR hP=>?_
 simp(maxSteps:=2000000) only[go_sem,h1]
 refine CallQ.pure 110 (named_ l) rfl ?_
 refine vv ?_
 rw[hn]
 refine vv ?_
 refine CallQ.mem 130 (exponents 111 (unL u0) 89 (ptrs_cl _ _ _ rfl) (by decide)) rfl (Sub.one (b':=⟨false,unL u0,89⟩) rfl (.inr ⟨rfl,[],rfl⟩)) (ptrs_cl _ _ _ rfl) ?_
 refine vv ?_
 refine CallQ.ren [(1,150)] 160 (sSplit l 47 hl) ClM.nil rfl rfl trivial rfl (.inl rfl) ?_
 simp only[Mem.ren,List.map_cons,List.map_nil,renV (v_st _),V.ren,Cv.ren,rn,Nat.reduceBEq,cond_true]
 refine vv ?_
 refine Sm.loopM (M0:=[]) (α:={x:Nat×Un//x.1≤(splB 47 l).length∧partsF x.1 x.2 ((splB 47 l).drop x.1)=parseQ l}) hP
  (fun x=>[(0,true,S l),(2,true,.c (.p 4 0)),(6,true,.c (.p 7 0)),(7,true,.c (.p 8 0)),(32,true,slV 5 (splB 47 l).length),(33,true,I (splB 47 l).length),(34,true,I x.val.1)])
  (fun x=>upM x.val.2 l) (fun x=>(splB 47 l).length-x.val.1) ⟨(0,u0),by simp,by rfl⟩ (fun _=>clUp _ _) (fun _=>ClE.of rfl) [(4,100),(5,150),(7,111),(8,130)] ?_ ?_
 ·exact⟨rfl,trivial,⟨rfl,rfl,rfl,rfl,rfl,rfl,rfl,trivial⟩,⟨oR,oR,oR,oV (renV (v_st _)),trivial⟩⟩
 ·rintro⟨⟨i,u⟩,hi,hpt⟩ J hb
  simp only at hb hi hpt⊢
  refine Sm.go 170 ?_
  refine vv ?_
  refine mtch (fun hc=>?_) (fun hc=>?_)
  ·have hc:i<(splB 47 l).length:=by simpa using hc
   have hg:=get_st hc
   have hpl:=hsub _ (getD_mem hc)
   rw[drop_getD hc,partsF_cons]at hpt
   have w1:IntKind.i64.wrap ((i:Int)+1)=((i+1:Nat):Int):=by rw[w64 (by omega) (by omega)];omega
   generalize (splB 47 l).getD i []=p at*
   simp(maxSteps:=2000000) only[go_sem,hg]
   refine⟨⟨by omega,by omega⟩,?_⟩
   by_cases h0:i=0
   ·have hq0:((i:Int)==0)=true:=by simpa using h0
    simp(maxSteps:=2000000) only[go_sem,hq0]
    refine mtch (fun hq=>?_) (fun hq=>?_)
    ·have hq:p=[49]:=by simpa using hq
     rw[if_pos ⟨h0,hq⟩]at hpt
     simp only[w1]
     exact hb _ _ ⟨(i+1,u),hc,hpt⟩ [(4,4),(5,5),(7,7),(8,8)] (by simp only;omega) ⟨rfl,trivial,⟨rfl,rfl,rfl,rfl,rfl,rfl,rfl,trivial⟩,⟨oR,oR,oR,oV (renV (v_st _)),trivial⟩⟩
    have hq:p≠[49]:=by simpa using hq
    rw[if_neg (fun h=>hq h.2),if_pos h0,if_pos h0]at hpt
    have hstep:=hpt
    have hPl:∀x∈splB 42 p,x.length≤l.length:=fun x hx=>by have:=splB_sub 42 p x hx;omega
    have hPn:(splB 42 p).length≤41:=by
     rw[splB_len]
     have:=List.count_le_length (a:=(42:UInt8)) (l:=p)
     omega
    refine CallQ.ren [(1,220)] 230 (sSplit p 42 (by omega)) ClM.nil rfl rfl trivial rfl (.inl rfl) ?_
    simp only[Mem.ren,List.map_cons,List.map_nil,renV (v_st _),V.ren,Cv.ren,rn,Nat.reduceBEq,cond_true]
    refine vv ?_
    refine Sm.loopM (M0:=[]) (α:={x:Nat×Un//x.1≤(splB 42 p).length∧facsF (1) x.2 ((splB 42 p).drop x.1)=facsF (1) u (splB 42 p)}) hP
     (fun x=>[(0,true,S l),(2,true,.c (.p 4 0)),(6,true,.c (.p 7 0)),(7,true,.c (.p 8 0)),(32,true,slV 5 (splB 47 l).length),(33,true,I (splB 47 l).length),(34,true,I i),(11,true,I (1)),(51,true,slV 6 (splB 42 p).length),(52,true,I (splB 42 p).length),(53,true,I x.val.1)])
     (fun x=>bSt 6 (splB 42 p)::upM x.val.2 l) (fun x=>(splB 42 p).length-x.val.1) ⟨(0,u),by simp,by rfl⟩ (fun _=>clUp2 _ _ _) (fun _=>ClE.of rfl) [(4,4),(5,5),(6,220),(7,7),(8,8)] ?_ ?_
    ·exact⟨rfl,trivial,⟨rfl,rfl,rfl,rfl,rfl,rfl,rfl,rfl,rfl,rfl,rfl,trivial⟩,⟨oV (renV (v_st _)),oR,oR,oR,oV (renV (v_st _)),trivial⟩⟩
    ·rintro⟨⟨k,v⟩,hk,hf⟩ J2 hb2
     simp only at hb2 hk hf⊢
     refine Sm.go 300 ?_
     refine vv ?_
     refine mtch (fun hkc=>?_) (fun hkc=>?_)
     ·have hkc:k<(splB 42 p).length:=by have:=of_decide_eq_true hkc;omega
      have hg2:=get_st hkc
      have hml:=hPl _ (getD_mem hkc)
      rw[drop_getD hkc,facsF_cons]at hf
      have w3:IntKind.i64.wrap ((k:Int)+1)=((k+1:Nat):Int):=by rw[w64 (by omega) (by omega)];omega
      generalize (splB 42 p).getD k []=f at*
      simp(maxSteps:=2000000) only[go_sem,hg2]
      refine⟨⟨by omega,by omega⟩,?_⟩
      have hrd:=read_ f (by omega)
      cases hr:readF f with
      |none=>
       rw[hr]at hf
       simp only at hf
       rw[←hf]at hstep
       simp only at hstep
       rw[←hstep]at e
       simp only at e
       rw[e]at hR
       rw[show rdR f=(0,0,false) by rw[rdR,hr]]at hrd
       refine CallQ.pure 310 hrd rfl ?_
       refine vv ?_
       exact RetQ.of hR rfl (vv trivial) rvr (Sub.nil _) ClM.nil (ClV.of rfl)
      |some q=>
       obtain⟨j,n⟩:=q
       obtain⟨hj,hn1,hn9⟩:=readF_bd hr
       rw[hr]at hf
       simp only at hf
       rw[show rdR f=(j,n,true) by rw[rdR,hr]]at hrd
       have hp:=pt_get 7 hj
       have hx:=ex_get v hj
       have hst:[Cv.v (.int .i64 v.m),.v (.int .i64 v.kg),.v (.int .i64 v.s),.v (.int .i64 v.a),.v (.int .i64 v.k)].set j (.v (.int .i64 ((1)*(n:Int))))=unL (uset v j ((1)*(n:Int))):=un_set v hj _
       have w4:IntKind.i64.wrap ((1)*(n:Int))=(1)*(n:Int):=by rw[w64 (by omega) (by omega)]
       refine CallQ.pure 310 hrd rfl ?_
       simp(maxSteps:=2000000) only[go_sem,hp,hx]
       refine⟨by omega,?_⟩
       refine mtch (fun hq=>?_) (fun hq=>?_)
       ·have hq:ex v j≠0:=by simpa using hq
        rw[if_neg hq]at hf
        rw[←hf]at hstep
        simp only at hstep
        rw[←hstep]at e
        simp only at e
        rw[e]at hR
        exact RetQ.of hR rfl (vv trivial) rvr (Sub.nil _) ClM.nil (ClV.of rfl)
       ·have hq:ex v j=0:=by simpa using hq
        rw[if_pos hq]at hf
        simp only[w4,hst,w3]
        refine⟨⟨by omega,by omega⟩,by omega,?_⟩
        refine hb2 _ _ ⟨(k+1,uset v j ((1)*(n:Int))),hkc,hf⟩ [(4,4),(5,5),(6,6),(7,7),(8,8)] (by simp only;omega) ?_
        exact⟨rfl,trivial,⟨rfl,rfl,rfl,rfl,rfl,rfl,rfl,rfl,rfl,rfl,rfl,trivial⟩,⟨oV (renV (v_st _)),oR,oR,oR,oV (renV (v_st _)),trivial⟩⟩
     ·have hkc:¬k<(splB 42 p).length:=by have:=of_decide_eq_false hkc;omega
      have hkc:k=(splB 42 p).length:=by omega
      rw[hkc,List.drop_length]at hf
      have hf:some v=facsF (1) u (splB 42 p):=hf
      rw[←hf]at hstep
      simp only at hstep
      simp only[w1]
      refine hb _ _ ⟨(i+1,v),hc,hstep⟩ [(4,4),(5,5),(7,7),(8,8)] (by simp only;omega) ?_
      exact⟨rfl,trivial,⟨rfl,rfl,rfl,rfl,rfl,rfl,rfl,trivial⟩,⟨oR,oR,oR,oV (renV (v_st _)),trivial⟩⟩
   ·have hq0:((i:Int)==0)=false:=by simpa using h0
    simp(maxSteps:=2000000) only[go_sem,hq0]
    rw[if_neg (fun h=>h0 h.1),if_neg h0,if_neg h0]at hpt
    have hstep:=hpt
    have hPl:∀x∈[p],x.length≤l.length:=fun x hx=>by rw[List.mem_singleton.1 hx];exact hpl
    have hPn:([p]:List (List UInt8)).length≤41:=by simp
    refine Sm.loopM (M0:=[]) (α:={x:Nat×Un//x.1≤([p]).length∧facsF (-1) x.2 (([p]).drop x.1)=facsF (-1) u ([p])}) hP
     (fun x=>[(0,true,S l),(2,true,.c (.p 4 0)),(6,true,.c (.p 7 0)),(7,true,.c (.p 8 0)),(32,true,slV 5 (splB 47 l).length),(33,true,I (splB 47 l).length),(34,true,I i),(11,true,I (-1)),(51,true,slV 6 ([p]).length),(52,true,I ([p]).length),(53,true,I x.val.1)])
     (fun x=>bSt 6 ([p])::upM x.val.2 l) (fun x=>([p]).length-x.val.1) ⟨(0,u),by simp,by rfl⟩ (fun _=>clUp2 _ _ _) (fun _=>ClE.of rfl) [(4,4),(5,5),(6,170),(7,7),(8,8)] ?_ ?_
    ·exact⟨rfl,trivial,⟨rfl,rfl,rfl,rfl,rfl,rfl,rfl,rfl,rfl,rfl,rfl,trivial⟩,⟨oV (renV (v_st _)),oR,oR,oR,oV (renV (v_st _)),trivial⟩⟩
    ·rintro⟨⟨k,v⟩,hk,hf⟩ J2 hb2
     simp only at hb2 hk hf⊢
     generalize ([p]:List (List UInt8))=Ps at*
     refine Sm.go 300 ?_
     refine vv ?_
     refine mtch (fun hkc=>?_) (fun hkc=>?_)
     ·have hkc:k<(Ps).length:=by have:=of_decide_eq_true hkc;omega
      have hg2:=get_st hkc
      have hml:=hPl _ (getD_mem hkc)
      rw[drop_getD hkc,facsF_cons]at hf
      have w3:IntKind.i64.wrap ((k:Int)+1)=((k+1:Nat):Int):=by rw[w64 (by omega) (by omega)];omega
      generalize (Ps).getD k []=f at*
      simp(maxSteps:=2000000) only[go_sem,hg2]
      refine⟨⟨by omega,by omega⟩,?_⟩
      have hrd:=read_ f (by omega)
      cases hr:readF f with
      |none=>
       rw[hr]at hf
       simp only at hf
       rw[←hf]at hstep
       simp only at hstep
       rw[←hstep]at e
       simp only at e
       rw[e]at hR
       rw[show rdR f=(0,0,false) by rw[rdR,hr]]at hrd
       refine CallQ.pure 310 hrd rfl ?_
       refine vv ?_
       exact RetQ.of hR rfl (vv trivial) rvr (Sub.nil _) ClM.nil (ClV.of rfl)
      |some q=>
       obtain⟨j,n⟩:=q
       obtain⟨hj,hn1,hn9⟩:=readF_bd hr
       rw[hr]at hf
       simp only at hf
       rw[show rdR f=(j,n,true) by rw[rdR,hr]]at hrd
       have hp:=pt_get 7 hj
       have hx:=ex_get v hj
       have hst:[Cv.v (.int .i64 v.m),.v (.int .i64 v.kg),.v (.int .i64 v.s),.v (.int .i64 v.a),.v (.int .i64 v.k)].set j (.v (.int .i64 ((-1)*(n:Int))))=unL (uset v j ((-1)*(n:Int))):=un_set v hj _
       have w4:IntKind.i64.wrap ((-1)*(n:Int))=(-1)*(n:Int):=by rw[w64 (by omega) (by omega)]
       refine CallQ.pure 310 hrd rfl ?_
       simp(maxSteps:=2000000) only[go_sem,hp,hx]
       refine⟨by omega,?_⟩
       refine mtch (fun hq=>?_) (fun hq=>?_)
       ·have hq:ex v j≠0:=by simpa using hq
        rw[if_neg hq]at hf
        rw[←hf]at hstep
        simp only at hstep
        rw[←hstep]at e
        simp only at e
        rw[e]at hR
        exact RetQ.of hR rfl (vv trivial) rvr (Sub.nil _) ClM.nil (ClV.of rfl)
       ·have hq:ex v j=0:=by simpa using hq
        rw[if_pos hq]at hf
        simp only[w4,hst,w3]
        refine⟨⟨by omega,by omega⟩,by omega,?_⟩
        refine hb2 _ _ ⟨(k+1,uset v j ((-1)*(n:Int))),hkc,hf⟩ [(4,4),(5,5),(6,6),(7,7),(8,8)] (by simp only;omega) ?_
        exact⟨rfl,trivial,⟨rfl,rfl,rfl,rfl,rfl,rfl,rfl,rfl,rfl,rfl,rfl,trivial⟩,⟨oV (renV (v_st _)),oR,oR,oR,oV (renV (v_st _)),trivial⟩⟩
     ·have hkc:¬k<(Ps).length:=by have:=of_decide_eq_false hkc;omega
      have hkc:k=(Ps).length:=by omega
      rw[hkc,List.drop_length]at hf
      have hf:some v=facsF (-1) u (Ps):=hf
      rw[←hf]at hstep
      simp only at hstep
      simp only[w1]
      refine hb _ _ ⟨(i+1,v),hc,hstep⟩ [(4,4),(5,5),(7,7),(8,8)] (by simp only;omega) ?_
      exact⟨rfl,trivial,⟨rfl,rfl,rfl,rfl,rfl,rfl,rfl,trivial⟩,⟨oR,oR,oR,oV (renV (v_st _)),trivial⟩⟩
  ·have hc:¬i<(splB 47 l).length:=by simpa using hc
   have hc:i=(splB 47 l).length:=by omega
   rw[hc,List.drop_length]at hpt
   have hpt:some u=parseQ l:=hpt
   rw[←hpt]at e
   simp only at e
   refine CallQ.pure 200 (text_ u) rfl ?_
   refine vv ?_
   refine mtch (fun hq=>?_) (fun hq=>?_)
   ·have hq:txt u≠l:=by simpa using hq
    rw[if_neg hq]at e
    rw[e]at hR
    exact RetQ.of hR rfl (vv trivial) rvr (Sub.nil _) ClM.nil (ClV.of rfl)
   ·have hq:txt u=l:=by simpa using hq
    rw[if_pos hq]at e
    rw[e]at hR
    exact RetQ.of hR rfl (vv trivial) rvr (Sub.nil _) ClM.nil (ClV.of rfl)
theorem set5 (u v:Un)(c1:List Cv):∀c0:List Cv,(((((c0++unL u++c1).set c0.length (.v (.int .i64 v.m))).set (c0.length+1) (.v (.int .i64 v.kg))).set (c0.length+1+1) (.v (.int .i64 v.s))).set (c0.length+1+1+1) (.v (.int .i64 v.a))).set (c0.length+1+1+1+1) (.v (.int .i64 v.k))=c0++unL v++c1
 |[]=>rfl
 |c::c0=>by
  have ih:=set5 u v c1 c0
  simp only[List.cons_append,List.length_cons,List.set_cons_succ]
  rw[ih]
theorem unit_ (T:List Tk)(hT:T.length≤40000)(g:GTk T)(sT:STk T)(p:Ps)(h:p.at_<T.length)(c0 c1:List Cv)(v0:c0.all Cv.isV=true)(v1:c1.all Cv.isV=true)(ty:TypeId)(u0:Un):
  CallOk Tryz.prog 232 [.c (.p 1 0),.c (.p 3 c0.length)] (pD T p (c0++unL u0++c1) ty) (Bo (untP T p).1.isSome) ((1,⟨false,psC T (untP T p).2,96⟩)::(match (untP T p).1 with|some u=>[(3,⟨false,c0++unL u++c1,ty⟩)]|none=>[])):=by
 have hM:=pM_cl T p
 have hvc:∀u,(c0++unL u++c1).all Cv.isV=true:=fun u=>by rw[List.all_append,List.all_append,v0,v1];rfl
 have hh:=here_ T (by omega) p h
 have hw:=wrong_ T (by omega) p h
 have e1:((hereP T p).k==4)=(((hereP T p).k:Int)==4):=(kB _ 4).symm
 unfold untP
 rw[e1]
 cases hk:((hereP T p).k:Int)==4 with
 |true=>
  simp only[cond_true,Option.isSome_none]
  have hD2:=pD_cl T (wrnP T p) (hvc u0) ty
  refine CallOk.mkN 100 Tryz.func232 rfl en232 (by simp[Tryz.ntmps232]) (ClA.of rfl) rfl rfl fun C hR hP=>?_
  refine vv ?_
  refine CallQ.mi 100 hh hM ⟨oS,oS,trivial⟩ ?_
  simp(maxSteps:=2000000) only[go_sem,hk]
  refine CallQ.mi 110 hw hM ⟨oS,oS,trivial⟩ ?_
  refine vv ?_
  exact RetQ.of hR rfl scc rvv (sub_sh (SubS.sub ⟨oS,oS,oS,trivial⟩)) (clm_sh hD2) (ClV.of rfl)
 |false=>
  simp only[cond_false]
  have hcl:∀q,ClM ((4,⟨false,[nC (hereP T p).l,nC (hereP T p).c],32⟩)::pD T q (c0++unL u0++c1) ty):=fun q=>ClM.of (by simp only[List.all_cons,inMV (rowsC_isV _),inMV (hvc u0)];rfl)
  have hsum:([]:Str).length+((T.drop p.at_).map fun t=>t.s.length).sum≤100000:=by
   refine Nat.le_trans ?_ sT
   conv=>rhs;rw[←List.take_append_drop p.at_ T,List.map_append,List.sum_append]
   simp
  have v_tk:∀T:List Tk,(rowsC (T.map Tk.r)).all Cv.isV=true:=fun _=>rowsC_isV _
  cases hp:(prs (colP T 40000 [] p).1).2==0 with
  |true=>
   simp only[cond_true,Option.isSome_some]
   refine CallOk.mkN 100 Tryz.func232 rfl en232 (by simp[Tryz.ntmps232]) (ClA.of rfl) rfl rfl fun C hR hP=>?_
   refine vv ?_
   refine CallQ.mi 100 hh hM ⟨oS,oS,trivial⟩ ?_
   simp(maxSteps:=2000000) only[go_sem,hk]
   refine CallQ.mi 110 hh hM ⟨oS,oS,trivial⟩ ?_
   simp(maxSteps:=2000000) only[go_sem,hk]
   refine Sm.loopM (M0:=pD T p (c0++unL u0++c1) ty) (α:={x:Str×Ps//x.2.at_<T.length∧(∃f,T.length≤x.2.at_+f∧colP T f x.1 x.2=colP T 40000 [] p)∧x.1.length+((T.drop x.2.at_).map fun t=>t.s.length).sum≤100000}) hP
    (fun x=>[(0,true,.c (.p 1 0)),(1,true,.c (.p 3 c0.length)),(5,true,.c (.p 4 0)),(6,true,S x.val.1)])
    (fun x=>(4,⟨false,[nC (hereP T p).l,nC (hereP T p).c],32⟩)::pD T x.val.2 (c0++unL u0++c1) ty) (fun x=>T.length-x.val.2.at_) ⟨([],p),h,⟨40000,by omega,rfl⟩,hsum⟩ (fun x=>hcl x.val.2) (fun _=>ClE.of rfl) [(1,1),(2,2),(3,3),(4,110)] ?_ ?_
   ·exact⟨rfl,⟨⟨rfl,rfl⟩,⟨rfl,rfl⟩,⟨rfl,rfl⟩,trivial⟩,⟨rfl,rfl,rfl,rfl,trivial⟩,⟨oR,oR,oV (renV (hvc _)),oV (renV (v_tk _)),trivial⟩⟩
   ·rintro⟨⟨s,q⟩,hq,⟨f,hf1,hf2⟩,hs⟩ J hb
    simp only at hb hq hf1 hf2 hs⊢
    refine Sm.go 170 ?_
    have hhq:=here_ T (by omega) q hq
    have hMq:=pM_cl T q
    obtain⟨f,rfl⟩:∃k,f=k+1:=⟨f-1,by omega⟩
    rw[colP]at hf2
    have e2:((hereP T q).k==4)=(((hereP T q).k:Int)==4):=(kB _ 4).symm
    rw[e2]at hf2
    refine vv ?_
    refine CallQ.mi 180 hhq hMq ⟨oS,oS,trivial⟩ ?_
    refine vv ?_
    cases hkq:((hereP T q).k:Int)==4 with
    |false=>
     have hnx:=(adv_on g hq (fun e=>by rw[e]at hkq;cases hkq)).1.2
     rw[hkq,cond_false]at hf2
     rw[sum_drop hq,show T.getD q.at_ tk0=hereP T q from rfl]at hs
     simp(maxSteps:=2000000) only[go_sem,hkq,bne]
     refine CallQ.mi 190 hhq hMq ⟨oS,oS,trivial⟩ ?_
     simp(maxSteps:=2000000) only[go_sem,hkq,aP (by omega) hq]
     exact⟨by omega,hb _ _ ⟨(s++(hereP T q).s,advP q),by show q.at_+1<T.length;have:=(adv_on g hq (fun e=>by rw[e]at hkq;cases hkq)).1.2;exact this,⟨f,by show T.length≤q.at_+1+f;omega,hf2⟩,by show(s++(hereP T q).s).length+((T.drop (q.at_+1)).map fun t=>t.s.length).sum≤100000;rw[List.length_append];omega⟩ [(1,1),(2,2),(3,3),(4,4)] (by show T.length-(q.at_+1)<T.length-q.at_;omega) ⟨rfl,⟨⟨rfl,rfl⟩,⟨rfl,rfl⟩,⟨rfl,rfl⟩,trivial⟩,⟨rfl,rfl,rfl,rfl,trivial⟩,⟨oR,oR,oV (renV (hvc _)),oV (renV (v_tk _)),trivial⟩⟩⟩
    |true=>
     rw[hkq,cond_true]at hf2
     rw[←hf2]at hp hR
     simp only at hp hR
     have hpr:=parse_ s (by omega)
     simp(maxSteps:=2000000) only[go_sem,hkq,bne]
     refine CallQ.pure 200 hpr rfl ?_
     refine vv ?_
     rw[show((prs s).2 !=0)=false from by rw[bne,hp];rfl]
     refine vv ?_
     refine⟨by simp only[List.length_append,List.length_cons,List.length_nil];omega,?_⟩
     have e5:=set5 u0 (prs s).1 c1 c0
     simp only[unL]at e5
     rw[e5]
     exact RetQ.of hR rfl scc rvv (sub_sh2 (SubS.sub ⟨oS,oS,oS,trivial⟩)) (clm_sh2 (pD_cl T q (hvc (prs s).1) ty)) (ClV.of rfl)
  |false=>
   simp only[cond_false,Option.isSome_none]
   refine CallOk.mkN 100 Tryz.func232 rfl en232 (by simp[Tryz.ntmps232]) (ClA.of rfl) rfl rfl fun C hR hP=>?_
   refine vv ?_
   refine CallQ.mi 100 hh hM ⟨oS,oS,trivial⟩ ?_
   simp(maxSteps:=2000000) only[go_sem,hk]
   refine CallQ.mi 110 hh hM ⟨oS,oS,trivial⟩ ?_
   simp(maxSteps:=2000000) only[go_sem,hk]
   refine Sm.loopM (M0:=pD T p (c0++unL u0++c1) ty) (α:={x:Str×Ps//x.2.at_<T.length∧(∃f,T.length≤x.2.at_+f∧colP T f x.1 x.2=colP T 40000 [] p)∧x.1.length+((T.drop x.2.at_).map fun t=>t.s.length).sum≤100000}) hP
    (fun x=>[(0,true,.c (.p 1 0)),(1,true,.c (.p 3 c0.length)),(5,true,.c (.p 4 0)),(6,true,S x.val.1)])
    (fun x=>(4,⟨false,[nC (hereP T p).l,nC (hereP T p).c],32⟩)::pD T x.val.2 (c0++unL u0++c1) ty) (fun x=>T.length-x.val.2.at_) ⟨([],p),h,⟨40000,by omega,rfl⟩,hsum⟩ (fun x=>hcl x.val.2) (fun _=>ClE.of rfl) [(1,1),(2,2),(3,3),(4,110)] ?_ ?_
   ·exact⟨rfl,⟨⟨rfl,rfl⟩,⟨rfl,rfl⟩,⟨rfl,rfl⟩,trivial⟩,⟨rfl,rfl,rfl,rfl,trivial⟩,⟨oR,oR,oV (renV (hvc _)),oV (renV (v_tk _)),trivial⟩⟩
   ·rintro⟨⟨s,q⟩,hq,⟨f,hf1,hf2⟩,hs⟩ J hb
    simp only at hb hq hf1 hf2 hs⊢
    refine Sm.go 170 ?_
    have hhq:=here_ T (by omega) q hq
    have hMq:=pM_cl T q
    obtain⟨f,rfl⟩:∃k,f=k+1:=⟨f-1,by omega⟩
    rw[colP]at hf2
    have e2:((hereP T q).k==4)=(((hereP T q).k:Int)==4):=(kB _ 4).symm
    rw[e2]at hf2
    refine vv ?_
    refine CallQ.mi 180 hhq hMq ⟨oS,oS,trivial⟩ ?_
    refine vv ?_
    cases hkq:((hereP T q).k:Int)==4 with
    |false=>
     have hnx:=(adv_on g hq (fun e=>by rw[e]at hkq;cases hkq)).1.2
     rw[hkq,cond_false]at hf2
     rw[sum_drop hq,show T.getD q.at_ tk0=hereP T q from rfl]at hs
     simp(maxSteps:=2000000) only[go_sem,hkq,bne]
     refine CallQ.mi 190 hhq hMq ⟨oS,oS,trivial⟩ ?_
     simp(maxSteps:=2000000) only[go_sem,hkq,aP (by omega) hq]
     exact⟨by omega,hb _ _ ⟨(s++(hereP T q).s,advP q),by show q.at_+1<T.length;have:=(adv_on g hq (fun e=>by rw[e]at hkq;cases hkq)).1.2;exact this,⟨f,by show T.length≤q.at_+1+f;omega,hf2⟩,by show(s++(hereP T q).s).length+((T.drop (q.at_+1)).map fun t=>t.s.length).sum≤100000;rw[List.length_append];omega⟩ [(1,1),(2,2),(3,3),(4,4)] (by show T.length-(q.at_+1)<T.length-q.at_;omega) ⟨rfl,⟨⟨rfl,rfl⟩,⟨rfl,rfl⟩,⟨rfl,rfl⟩,trivial⟩,⟨rfl,rfl,rfl,rfl,trivial⟩,⟨oR,oR,oV (renV (hvc _)),oV (renV (v_tk _)),trivial⟩⟩⟩
    |true=>
     rw[hkq,cond_true]at hf2
     rw[←hf2]at hp hR
     simp only at hp hR
     have hpr:=parse_ s (by omega)
     simp(maxSteps:=2000000) only[go_sem,hkq,bne]
     refine CallQ.pure 200 hpr rfl ?_
     refine vv ?_
     rw[show((prs s).2 !=0)=true from by rw[bne,hp];rfl]
     refine vv ?_
     refine CallQ.mi 210 (stop_ T q (hereP T p).l (hereP T p).c 3) hMq ⟨oS,oS,trivial⟩ ?_
     refine vv ?_
     exact RetQ.of hR rfl scc rvv (sub_sh (SubS.sub ⟨oS,oS,oS,trivial⟩)) (clm_sh (pD_cl T (stopP q (hereP T p).l (hereP T p).c 3) (hvc u0) ty)) (ClV.of rfl)
end Go.Proofs.YtlnpgbnhcondjaaGreatDoor.Fx
