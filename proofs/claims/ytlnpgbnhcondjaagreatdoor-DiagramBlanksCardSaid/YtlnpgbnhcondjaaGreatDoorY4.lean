/-  -/
import Derived.Test.YtlnpgbnhcondjaaGreatDoorPS
import Derived.Test.YtlnpgbnhcondjaaGreatDoorRN
import Derived.Test.YtlnpgbnhcondjaaGreatDoorRD
import Derived.Test.YtlnpgbnhcondjaaGreatDoorRQ
import Derived.Test.YtlnpgbnhcondjaaGreatDoorY3
namespace Go.Proofs.YtlnpgbnhcondjaaGreatDoor.Fx
open Vg Tf
set_option linter.unusedSimpArgs false
set_option linter.unusedVariables false
set_option maxRecDepth 100000
set_option maxHeartbeats 4000000
@[reducible,go_sem] def dvs (d:DgL):List Cv:=[.v (sv d.nm),.v (vsl d.ty d.tys.length),.v (vsl d.cu d.cus.length),.v (vsl d.ma d.mas.length),.sl 4 0 d.ins.length 4,.sl 5 0 d.bls.length 6,.v (vsl d.ou d.ous.length)]
@[reducible,go_sem] def dmm (d:DgL):Mem:=[(4,⟨true,rowsC (d.ins.map Po.r),118⟩),(5,⟨true,rowsC (d.bls.map BlL.r),82⟩)]
def fndQ (l:List Str)(s:Str):Int:=match idxS s l 0 with
 |some i=>(i:Int)
 |none=> -1
end Go.Proofs.YtlnpgbnhcondjaaGreatDoor.Fx
namespace Go.Proofs.YtlnpgbnhcondjaaGreatDoor.Fx
open Vg Tf
set_option linter.unusedSimpArgs false
set_option linter.unusedVariables false
set_option maxRecDepth 100000
set_option maxHeartbeats 4000000
theorem _root_.Go.Proofs.YtlnpgbnhcondjaaGreatDoor.Vg.Stp.mkF {P:Program}{o:Oper}{e:Env}{M:Mem}{f:FuncId}{x:Operand}{v:Value}(ho:o.op= .makeFunc (.func f) #[] #[x])(hx:rd e x=some (true,.c (.v v))):Stp P o e M (Fv f #[v]) []:=
 Stp.pure fun β a hop w=>by
  have hex:=hop x (by simp[ho,Op.operands]) _ hx
  simp only[gv,V.g,Cv.g,cond_true]at hex
  unfold execOp
  simp[ho,hex,Instr.makeFunc,V.g,Cv.g]
theorem fnd1_ {H:Hp}(x:Po)(s:Str)(pv:Value)(hpv:PtH H pv [sv s]):CallH H Tryz.prog 88 [rowV x.r,.c (.v pv)] (Bo (x.nm==s)):=by
 refine CallH.mkS Tryz.func88 rfl en88 (by simp[Tryz.ntmps88]) (ClA.of rfl) fun C hR hP hH hL=>?_
 refine Sm.bringP 1 9 1 (hpv.mono hH) rfl rfl (Sm.go 100 ?_)
 refine vv ?_
 exact RetQ.bool (hR C hL) rfl ⟨rfl,trivial⟩ rfl
theorem fnd2_ {H:Hp}(x:BlL)(s:Str)(pv:Value)(hpv:PtH H pv [sv s]):CallH H Tryz.prog 90 [rowV x.r,.c (.v pv)] (Bo (x.c.nm==s)):=by
 refine CallH.mkS Tryz.func90 rfl en90 (by simp[Tryz.ntmps90]) (ClA.of rfl) fun C hR hP hH hL=>?_
 refine Sm.bringP 1 9 1 (hpv.mono hH) rfl rfl (Sm.go 100 ?_)
 refine vv ?_
 exact RetQ.bool (hR C hL) rfl ⟨rfl,trivial⟩ rfl
def oX (o:Option Nat):Int:=match o with
 |some j=>(j:Int)
 |none=> -1
theorem ix_idx {α:Type}(nm:α→Str)(s:Str):∀(l:List α) (k:Nat),ixF (fun x=>nm x==s) l k=oX (idxS s (l.map nm) k)
 |[],_=>rfl
 |x::l,k=>by
  have ih:=ix_idx nm s l (k+1)
  rw[ixF,List.map_cons,idxS]
  by_cases h:nm x=s
  ·rw[if_pos h,h,beq_self_eq_true];rfl
  ·rw[if_neg h,beq_eq_false_iff_ne.2 h,cond_false,←ih];rfl
theorem idxS_app (s:Str):∀(a b:List Str) (k:Nat),idxS s (a++b) k=match idxS s a k with
  |some i=>some i
  |none=>idxS s b (k+a.length)
 |[],b,k=>by simp[idxS]
 |x::a,b,k=>by
  rw[List.cons_append,idxS,idxS]
  by_cases h:x=s
  ·rw[if_pos h,if_pos h]
  ·rw[if_neg h,if_neg h,idxS_app s a b (k+1),List.length_cons,Nat.add_right_comm,Nat.add_assoc]
theorem idxS_shift (s:Str):∀(l:List Str) (k m:Nat),idxS s l (k+m)=(idxS s l k).map (· +m)
 |[],_,_=>rfl
 |x::l,k,m=>by
  rw[idxS,idxS]
  by_cases h:x=s
  ·rw[if_pos h,if_pos h];rfl
  ·rw[if_neg h,if_neg h,Nat.add_right_comm,idxS_shift s l (k+1) m]
theorem fnd_split (d:DgL)(s:Str):fndQ (sigs d.c) s=bif decide (0≤ixF (fun x:Po=>x.nm==s) d.ins 0)then ixF (fun x:Po=>x.nm==s) d.ins 0 else bif decide (0≤ixF (fun x:BlL=>x.c.nm==s) d.bls 0)then(d.ins.length:Int)+ixF (fun x:BlL=>x.c.nm==s) d.bls 0 else-1:=by
 have e1:=ix_idx (fun x:Po=>x.nm) s d.ins 0
 have e2:=ix_idx (fun x:BlL=>x.c.nm) s d.bls 0
 simp only[Int.ofNat_zero,Int.natCast_zero]at e1 e2
 rw[e1,e2]
 have es:sigs d.c=d.ins.map (·.nm)++d.bls.map (fun x=>x.c.nm):=by unfold sigs;simp[DgL.c]
 unfold fndQ
 rw[es,idxS_app,List.length_map,idxS_shift]
 cases idxS s (d.ins.map (·.nm)) 0 with
 |some i=>
  show(i:Int)=bif decide (0≤(i:Int))then(i:Int)else _
  rw[decide_eq_true (by omega)];rfl
 |none=>
  cases idxS s (d.bls.map (fun x=>x.c.nm)) 0 with
  |some j=>
   show((j+d.ins.length:Nat):Int)=bif decide (0≤(-1:Int))then(-1:Int)else bif decide (0≤(j:Int))then(d.ins.length:Int)+(j:Int)else-1
   rw[decide_eq_true (show(0:Int)≤(j:Int) by omega)]
   show((j+d.ins.length:Nat):Int)=(d.ins.length:Int)+(j:Int)
   omega
  |none=>rfl
theorem ixF_lt {α:Type}(p:α→Bool):∀(l:List α) (k:Int),0≤k→ixF p l k≤k+l.length∧ -1≤ixF p l k
 |[],k,h=>by simp[ixF];omega
 |x::l,k,h=>by
  have ih:=ixF_lt p l (k+1) (by omega)
  rw[ixF]
  cases p x with
  |true=>simp only[cond_true,List.length_cons];omega
  |false=>simp only[cond_false,List.length_cons];omega
theorem pfind_ {H:Hp}(d:DgL)(hd:d.ok H)(s:Str)(h1:d.ins.length≤1000000000000000)(h2:d.bls.length≤1000000000000000):CallH H Tryz.prog 32 [rowV d.r,S s] (I (fndQ (sigs d.c) s)):=by
 have hsp:=fnd_split d s
 have b1:=ixF_lt (fun x:Po=>x.nm==s) d.ins 0 (by omega)
 have b2:=ixF_lt (fun x:BlL=>x.c.nm==s) d.bls 0 (by omega)
 refine CallH.mkS Tryz.func32 rfl en32 (by simp[Tryz.ntmps32]) (ClA.of rfl) fun C hR hP hH hL=>?_
 refine Sm.go 100 ?_
 refine vv ?_
 refine CallQ.letgo (xs:=[_,_]) [101] hL hP rfl rfl rfl en87 rfl rfl (fun β Cn l1 l2 l3=>?_)
 have hpt:=(l3 101 _ rfl rfl rfl).pt (by simp)
 refine CallW.h 110 l1 (ixfPo _ d.ins ((hd.mono hH).i.mono l2) (by omega) 88 #[ptr β 101 0] (fun x=>x.nm==s) (fun x hx=>fnd1_ x s _ hpt)) (Hp.le.refl _) rfl (fun Cm m1 m2=>?_)
 generalize ixF (fun x:Po=>x.nm==s) d.ins 0=i1 at*
 refine vv ?_
 refine mtch (fun hc=>?_) (fun hc=>?_)
 ·refine RetQ.of (hR Cm m1) rfl scc ?_ (Sub.nil _) ClM.nil (ClV.of rfl)
  rw[hsp,hc];rfl
 refine Sm.opq rfl rfl ⟨[],_,fun _=>Stp.mkF rfl rfl,.inl rfl,Sm.go 120 ?_⟩
 refine vv ?_
 refine CallQ.h 130 (ixfBl _ d.bls ((hd.mono hH).bl.mono (l2.trans m2)) (by omega) 90 #[ptr β 101 0] (fun x=>x.c.nm==s) (fun x hx=>fnd2_ x s _ (hpt.mono m2))) (Hp.le.refl _) rfl ?_
 generalize ixF (fun x:BlL=>x.c.nm==s) d.bls 0=i2 at*
 rw[hc,cond_false]at hsp
 have w3:IntKind.i64.wrap ((d.ins.length:Int)+i2)=(d.ins.length:Int)+i2:=by rw[w64 (by omega) (by omega)]
 simp(maxSteps:=2000000) only[go_sem,w3]
 refine mtch (fun hc=>?_) (fun hc=>?_)
 ·refine RetQ.of (hR Cm m1) rfl scc ?_ (Sub.nil _) ClM.nil (ClV.of rfl)
  rw[hsp,hc];rfl
 ·refine RetQ.of (hR Cm m1) rfl scc ?_ (Sub.nil _) ClM.nil (ClV.of rfl)
  rw[hsp,hc];rfl
end Go.Proofs.YtlnpgbnhcondjaaGreatDoor.Fx
namespace Go.Proofs.YtlnpgbnhcondjaaGreatDoor.Fx
open Vg Tf
set_option linter.unusedSimpArgs false
set_option linter.unusedVariables false
set_option maxRecDepth 100000
set_option maxHeartbeats 4000000
end Go.Proofs.YtlnpgbnhcondjaaGreatDoor.Fx
namespace Go.Proofs.YtlnpgbnhcondjaaGreatDoor.Fx
open Vg Tf
set_option linter.unusedSimpArgs false
set_option linter.unusedVariables false
set_option maxRecDepth 100000
set_option maxHeartbeats 4000000
def STk (T:List Tk):Prop:=(T.map fun t=>t.s.length).sum≤100000
theorem sum_drop {T:List Tk}{i:Nat}(h:i<T.length):((T.drop i).map fun t=>t.s.length).sum=(T.getD i tk0).s.length+((T.drop (i+1)).map fun t=>t.s.length).sum:=by
 rw[List.drop_eq_getElem_cons h,List.getD_eq_getElem?_getD,List.getElem?_eq_getElem h];rfl
theorem sum_mem:∀(T:List Tk) (i:Nat),(T.getD i tk0).s.length≤(T.map fun t=>t.s.length).sum
 |[],i=>by simp[tk0]
 |t::T,0=>by simp
 |t::T,i+1=>by have:=sum_mem T i;simp only[List.getD_cons_succ,List.map_cons,List.sum_cons];omega
theorem STk.here {T:List Tk}(h:STk T)(p:Ps):(hereP T p).s.length≤100000:=Nat.le_trans (sum_mem T p.at_) h
@[reducible,go_sem] def pD (T:List Tk)(p:Ps)(cs:List Cv)(ty:TypeId):Mem:=[(1,⟨false,psC T p,96⟩),(3,⟨false,cs,ty⟩),(2,⟨true,rowsC (T.map Tk.r),57⟩)]
theorem pD_cl (T:List Tk)(p:Ps){cs:List Cv}(hv:cs.all Cv.isV=true)(ty:TypeId):ClM (pD T p cs ty):=ClM.of (by simp only[List.all_cons,inMV (rowsC_isV _),inMV hv];rfl)
theorem get_sh2 {n m:Nat}{b b' c c':Bk}{r:Mem}(k:Nat):Mem.get ((n,b)::(m,c)::(n,b')::(m,c')::r) k=Mem.get ((n,b)::(m,c)::r) k:=by
 simp only[Mem.get_cons]
 by_cases h1:k=n
 ·simp[h1]
 ·by_cases h2:k=m<;>simp[h1,h2]
theorem sub_sh2 {n m:Nat}{b b' c c':Bk}{r M:Mem}(h:Sub ((n,b)::(m,c)::r) M):Sub ((n,b)::(m,c)::(n,b')::(m,c')::r) M:=fun k x hk=>h k x (by rw[←get_sh2 (b':=b') (c':=c')];exact hk)
theorem clm_sh2 {n m:Nat}{b b' c c':Bk}{r:Mem}(h:ClM ((n,b)::(m,c)::r)):ClM ((n,b)::(m,c)::(n,b')::(m,c')::r):=fun β β' hag k x hk=>
 h β β' (fun k hn=>hag k (by rw[get_sh2];exact hn)) k x (by rw[←get_sh2 (b':=b') (c':=c')];exact hk)
theorem name_ (T:List Tk)(hT:T.length≤100000)(sT:STk T)(p:Ps)(h:p.at_<T.length)(cs:List Cv)(hv:cs.all Cv.isV=true)(off:Nat)(ho:off<cs.length)(ty:TypeId):
  CallOk Tryz.prog 149 [.c (.p 1 0),.c (.p 3 off)] (pD T p cs ty) (Bo (namP T p).1.isSome) ((1,⟨false,psC T (namP T p).2,96⟩)::(match (namP T p).1 with|some s=>[(3,⟨false,cs.set off (sC s),ty⟩)]|none=>[])):=by
 have hM:=pM_cl T p
 have hM2:=pM_cl T (namP T p).2
 have hD:=pD_cl T p hv ty
 have hh:=here_ T hT p h
 have hw:=wrong_ T hT p h
 have hnm:=name_ok (hereP T p).s (by have:=sT.here p;omega)
 have e1:((hereP T p).k==1)=(((hereP T p).k:Int)==1):=(kB _ 1).symm
 unfold namP at hM2⊢
 rw[e1]at hM2⊢
 cases hk:((hereP T p).k:Int)==1 with
 |false=>
  rw[hk]at hM2
  simp only[Bool.false_and,cond_false,Option.isSome_none]at hM2⊢
  have hD2:=pD_cl T (wrnP T p) hv ty
  refine CallOk.mkN 100 Tryz.func149 rfl en149 (by simp[Tryz.ntmps149]) (ClA.of rfl) rfl rfl fun C hR hP=>?_
  refine vv ?_
  refine CallQ.mio 100 hh hM rfl ⟨⟨_,rfl,.inl rfl⟩,⟨_,rfl,.inl rfl⟩,trivial⟩ rfl (.inr rfl) ?_
  simp(maxSteps:=2000000) only[go_sem,hk,bne]
  refine CallQ.guard 110 (fun _=>hnm) (fun h=>by cases h) ?_
  simp(maxSteps:=2000000) only[go_sem,hk,bne]
  refine CallQ.mio 110 hw hM rfl ⟨⟨_,rfl,.inl rfl⟩,⟨_,rfl,.inl rfl⟩,trivial⟩ rfl (.inl rfl) ?_
  refine vv ?_
  exact RetQ.of hR rfl scc rvv (sub_sh (SubS.sub ⟨⟨_,rfl,.inl rfl⟩,⟨_,rfl,.inl rfl⟩,⟨_,rfl,.inl rfl⟩,trivial⟩)) (clm_sh hD2) (ClV.of rfl)
 |true=>
  cases hn:nmOk (hereP T p).s with
  |false=>
   rw[hk,hn]at hM2
   simp only[Bool.and_false,cond_false,Option.isSome_none]at hM2⊢
   have hD2:=pD_cl T (wrnP T p) hv ty
   rw[hn]at hnm
   refine CallOk.mkN 100 Tryz.func149 rfl en149 (by simp[Tryz.ntmps149]) (ClA.of rfl) rfl rfl fun C hR hP=>?_
   refine vv ?_
   refine CallQ.mio 100 hh hM rfl ⟨⟨_,rfl,.inl rfl⟩,⟨_,rfl,.inl rfl⟩,trivial⟩ rfl (.inr rfl) ?_
   simp(maxSteps:=2000000) only[go_sem,hk,bne]
   refine CallQ.guard 110 (fun _=>hnm) (fun h=>by rw[h];rfl) ?_
   simp(maxSteps:=2000000) only[go_sem,hk,bne]
   refine CallQ.mio 100 hw hM rfl ⟨⟨_,rfl,.inl rfl⟩,⟨_,rfl,.inl rfl⟩,trivial⟩ rfl (.inl rfl) ?_
   refine vv ?_
   exact RetQ.of hR rfl scc rvv (sub_sh (SubS.sub ⟨⟨_,rfl,.inl rfl⟩,⟨_,rfl,.inl rfl⟩,⟨_,rfl,.inl rfl⟩,trivial⟩)) (clm_sh hD2) (ClV.of rfl)
  |true=>
   rw[hk,hn]at hM2
   simp only[Bool.and_true,cond_true,Option.isSome_some]at hM2⊢
   rw[hn]at hnm
   have hD2:=pD_cl T (advP p) (setV (i:=off) (v:= .string ⟨(hereP T p).s.toArray⟩) hv) ty
   refine CallOk.mkN 100 Tryz.func149 rfl en149 (by simp[Tryz.ntmps149]) (ClA.of rfl) rfl rfl fun C hR hP=>?_
   refine vv ?_
   refine CallQ.mio 100 hh hM rfl ⟨⟨_,rfl,.inl rfl⟩,⟨_,rfl,.inl rfl⟩,trivial⟩ rfl (.inr rfl) ?_
   simp(maxSteps:=2000000) only[go_sem,hk,bne]
   refine CallQ.guard 110 (fun _=>hnm) (fun h=>by rw[h];rfl) ?_
   simp(maxSteps:=2000000) only[go_sem,hk,bne]
   refine CallQ.mio 120 hh hM rfl ⟨⟨_,rfl,.inl rfl⟩,⟨_,rfl,.inl rfl⟩,trivial⟩ rfl (.inr rfl) ?_
   simp(maxSteps:=2000000) only[go_sem,ho,aP hT h]
   exact⟨ho,RetQ.of hR rfl scc rvv (sub_sh2 (SubS.sub ⟨⟨_,rfl,.inl rfl⟩,⟨_,rfl,.inl rfl⟩,⟨_,rfl,.inl rfl⟩,trivial⟩)) (clm_sh2 hD2) (ClV.of rfl)⟩
theorem integer_ (T:List Tk)(hT:T.length≤100000)(p:Ps)(h:p.at_<T.length)(hN:(hereP T p).k=2→CallOk Tryz.prog 266 [S (hereP T p).s] [] (.tup [Wi (nmbQ (hereP T p).s).1,Wi (nmbQ (hereP T p).s).2]) [])(cs:List Cv)(hv:cs.all Cv.isV=true)(off:Nat)(ho:off<cs.length)(ty:TypeId):
  CallOk Tryz.prog 231 [.c (.p 1 0),.c (.p 3 off)] (pD T p cs ty) (Bo (intP T p).1.isSome) ((1,⟨false,psC T (intP T p).2,96⟩)::(match (intP T p).1 with|some s=>[(3,⟨false,cs.set off (.v (.int .i64 s)),ty⟩)]|none=>[])):=by
 have hM:=pM_cl T p
 have hM2:=pM_cl T (intP T p).2
 have hD:=pD_cl T p hv ty
 have hh:=here_ T hT p h
 have hw:=wrong_ T hT p h
 have e1:((hereP T p).k==2)=(((hereP T p).k:Int)==2):=(kB _ 2).symm
 unfold intP at hM2⊢
 rw[e1]at hM2⊢
 cases hk:((hereP T p).k:Int)==2 with
 |false=>
  rw[hk]at hM2
  simp only[cond_false,Option.isSome_none]at hM2⊢
  have hD2:=pD_cl T (wrnP T p) hv ty
  refine CallOk.mkN 100 Tryz.func231 rfl en231 (by simp[Tryz.ntmps231]) (ClA.of rfl) rfl rfl fun C hR hP=>?_
  refine vv ?_
  refine CallQ.mio 100 hh hM rfl ⟨⟨_,rfl,.inl rfl⟩,⟨_,rfl,.inl rfl⟩,trivial⟩ rfl (.inr rfl) ?_
  simp(maxSteps:=2000000) only[go_sem,hk,bne]
  refine CallQ.mio 110 hw hM rfl ⟨⟨_,rfl,.inl rfl⟩,⟨_,rfl,.inl rfl⟩,trivial⟩ rfl (.inl rfl) ?_
  refine vv ?_
  exact RetQ.of hR rfl scc rvv (sub_sh (SubS.sub ⟨⟨_,rfl,.inl rfl⟩,⟨_,rfl,.inl rfl⟩,⟨_,rfl,.inl rfl⟩,trivial⟩)) (clm_sh hD2) (ClV.of rfl)
 |true=>
  rw[hk]at hM2
  simp only[cond_true,Option.isSome_some]at hM2⊢
  have hN:=hN (by have:=eq_of_beq hk;omega)
  have hD2:=pD_cl T (advP p) (setV (i:=off) (v:= .int .i64 (nmbQ (hereP T p).s).1) hv) ty
  refine CallOk.mkN 100 Tryz.func231 rfl en231 (by simp[Tryz.ntmps231]) (ClA.of rfl) rfl rfl fun C hR hP=>?_
  refine vv ?_
  refine CallQ.mio 100 hh hM rfl ⟨⟨_,rfl,.inl rfl⟩,⟨_,rfl,.inl rfl⟩,trivial⟩ rfl (.inr rfl) ?_
  simp(maxSteps:=2000000) only[go_sem,hk,bne]
  refine CallQ.mio 120 hh hM rfl ⟨⟨_,rfl,.inl rfl⟩,⟨_,rfl,.inl rfl⟩,trivial⟩ rfl (.inr rfl) ?_
  simp(maxSteps:=2000000) only[go_sem,ho]
  refine CallQ.pure 130 hN rfl ?_
  simp(maxSteps:=2000000) only[go_sem,ho,aP hT h]
  exact⟨ho,RetQ.of hR rfl scc rvv (sub_sh2 (SubS.sub ⟨⟨_,rfl,.inl rfl⟩,⟨_,rfl,.inl rfl⟩,⟨_,rfl,.inl rfl⟩,trivial⟩)) (clm_sh2 hD2) (ClV.of rfl)⟩
end Go.Proofs.YtlnpgbnhcondjaaGreatDoor.Fx
