/-  -/
import Derived.Test.YtkciabfilokfiaaGreatPS
import Derived.Test.YtkciabfilokfiaaGreatQI
namespace Go.Proofs.YtkciabfilokfiaaGreat.Fx
open Vg Tf
set_option linter.unusedSimpArgs false
set_option linter.unusedVariables false
set_option maxRecDepth 100000
set_option maxHeartbeats 4000000
theorem _root_.Go.Proofs.YtkciabfilokfiaaGreat.Vg.Stp.bound {P:Program}{o:Oper}{e:Env}{M:Mem}{f:FuncId}{x:Operand}{u:Value}(ho:o.op= .makeFunc (.func f) #[x] #[])(hx:rd e x=some (true,.c (.v u))):Stp P o e M (.c (.v (.func (.func f) #[u] #[]))) []:=by
 refine Stp.pure fun β a hop w=>?_
 have he:=hop x (by simp[ho,Op.operands]) _ hx
 simp only[gv,V.g,Cv.g,cond_true]at he
 unfold execOp
 simp[ho,Instr.makeFunc,he,V.g,Cv.g]
theorem _root_.Go.Proofs.YtkciabfilokfiaaGreat.Vg.StpC.callB {H:Hp}{P:Program}{C:Cx}{o:Oper}{e:Env}{M:Mem}{f:FuncId}{x:Operand}{u:Value}{v:V}{tys:Array TypeId}(hc:CallH H P f [.c (.v u)] v)(hH:H.le C.hp)(ho:o.op= .call {callee:= .value x,args:= #[],argTypes:=tys})
  (hx:rd e x=some (true,.c (.v (.func (.func f) #[u] #[])))):StpC P C.S C.w0 o e M v []:=by
 intro β M' a w hsub hfr' hrel hok K Q hk
 have he:=hok β (Agree.refl _ _) x (by simp[ho,Op.operands,Call.operands]) _ hx
 simp only[gv,V.g,Cv.g,cond_true]at he
 have hent:=hc.1
 have hrun:(execOp a.eval o).run P w= .ok (.enter f #[u]) w:=by
  unfold execOp
  simp[ho,resolve,he,Deferred.ofValue,invoke,hent #[u] w]
 unfold Oper.wp
 rw[hrun,Oper.upon_enter]
 refine((hc.kx hH).2 β w M' hrel (Sub.nil _) (fun k h=>by cases h)).mono ?_
 rintro en w' ⟨β2,u',rfl,h1,h2,h3⟩
 exact hk β2 u' w' h1 h2 h3
@[go_sem ↓] theorem plS_4_1:plS 4 1=[(0,1),(1,1),(2,1),(3,1)]:=rfl
def allN (d:Dg):List Str:=d.tys.map (·.nm)++(d.cus.map (·.nm)++d.mas.map (·.nm))++sigs d
theorem twice_ {H:Hp}{cp:Value}{d:DgL}{bT bC' bM bS:Nat}(k:Ck H cp d bT bC' bM bS)(h1:d.tys.length≤1000000)(h2:d.cus.length≤1000000)(h3:d.mas.length≤1000000):
  CallH H Tryz.prog 99 [.c (.v cp)] (osT (dupF [] (allN d.c))):=by
 have hn1:=k.n1
 have hn2:=k.n2
 have hsl:=sigs_len d
 have hnam:=fun(H':Hp) (hh:H.le H')=>names_ d (k.o.mono hh) cp _ (k.c.p.mono hh) hn1 hn2
 obtain⟨b0,o0,rfl,c0,el0,mk0,hc0,hcc⟩:=PtH.at k.c.p
 refine CallH.mkS Tryz.func99 rfl en99 (by simp[Tryz.ntmps99]) (ClA.of rfl) fun C hR hP hH hL=>?_
 have hpt:=k.c.p.mono hH
 refine Sm.go 100 ?_
 refine vv ?_
 refine Sm.bringP 1 147 11 hpt rfl rfl (Sm.go 100 ?_)
 refine vv ?_
 refine Sm.nils 140 1 9 [4] [] rfl ?_
 refine vv ?_
 refine Sm.bringR 2 78 15 (k.o.ty.mono hH) rfl rfl ?_
 have hl0:(d.tys.map Td.r).length=d.tys.length:=List.length_map _
 rw[hl0]
 have hz0:=rows_len (r:=Td.r) (k:=11) (fun _=>rfl) d.tys
 refine Sm.loopM (M0:=[]) (α:={i:Nat//i≤d.tys.length}) hP (fun i=>[(0,true,.c (.v (.pointer (some ⟨b0,o0,none⟩)))),(4,true,.c (.sl 6 0 i.val 1)),(15,true,.c (.sl 2 0 d.tys.length 11)),(16,true,I d.tys.length),(17,true,I i.val)])
  (fun i=>[(2,⟨true,rowsC (d.tys.map Td.r),78⟩),bNm 6 ((d.tys.take i.val).map (fun t:Td=>t.nm))]) (fun i=>d.tys.length-i.val) ⟨0,by omega⟩ (fun _=>ClM.of (by simp only[List.all_cons,inMV (rowsC_isV _),inMV (v_sC _)];rfl)) (fun _=>ClE.of rfl) [(2,2),(6,140)] ?_ ?_
 ·simp only[List.take_zero,List.map_nil,List.append_nil,Nat.add_zero]
  exact⟨rfl,trivial,⟨rfl,rfl,rfl,rfl,rfl,trivial⟩,⟨.inr ⟨_,rfl,.inl (renV (rowsC_isV _))⟩,.inr ⟨_,rfl,.inl (renV (v_sC _))⟩,trivial⟩⟩
 rintro⟨i,hi⟩ J hb
 simp only at hb hi⊢
 refine Sm.go 150 ?_
 refine vv ?_
 by_cases hc:i<d.tys.length
 ·have e1:decide ((i:Int)<(d.tys.length:Int))=true:=tru_of (by omega)
  have htk:=rows_take (r:=Td.r) (k:=11) (fun _=>rfl) d.tys i hc
  simp(maxSteps:=2000000) only[go_sem,e1,htk,hz0]
  refine⟨⟨by omega,by omega⟩,by omega,?_⟩
  try simp(maxSteps:=2000000) only[go_sem]
  have hlen:(((d.tys.take i).map (fun t:Td=>t.nm)).map sC).length=i:=by simp;omega
  have hsn:List.take i (((d.tys.take i).map (fun t:Td=>t.nm)).map sC)++[sC ((fun t:Td=>t.nm) d.tys[i])]=((d.tys.take (i+1)).map (fun t:Td=>t.nm)).map sC:=by
   have:=snoc_map (fun t:Td=>t.nm) d.tys i hc []
   rw[List.take_of_length_le (by omega)];simpa using this
  skip
  simp only[hlen,hsn,wS (show i≤1000000000000000000 by omega)]
  refine⟨⟨by omega,by omega,by omega⟩,?_⟩
  refine hb _ _ ⟨i+1,hc⟩ [(2,2),(6,152)] (by simp only;omega) ?_
  try simp only[←Nat.add_assoc]
  exact⟨rfl,trivial,⟨rfl,rfl,rfl,rfl,rfl,trivial⟩,⟨.inr ⟨_,rfl,.inl (renV (rowsC_isV _))⟩,.inr ⟨_,rfl,.inl (renV (v_sC _))⟩,trivial⟩⟩
 have e1:decide ((i:Int)<(d.tys.length:Int))=false:=fal_of (by omega)
 have hc:i=d.tys.length:=by omega
 subst hc
 clear hb
 rw[List.take_length]
 simp(maxSteps:=2000000) only[go_sem,e1]
 refine Sm.bringP 8 147 27 hpt rfl rfl (Sm.go 100 ?_)
 refine vv ?_
 refine Sm.bringR 3 84 31 (k.o.cu.mono hH) rfl rfl ?_
 have hl1:(d.cus.map CuL.r).length=d.cus.length:=List.length_map _
 rw[hl1]
 have hz1:=rows_len (r:=CuL.r) (k:=3) (fun _=>rfl) d.cus
 have hpl1:((d.tys.map (fun t:Td=>t.nm))).length=d.tys.length:=by simp
 refine Sm.loopM (M0:=[]) (α:={i:Nat//i≤d.cus.length}) hP (fun i=>[(0,true,.c (.v (.pointer (some ⟨b0,o0,none⟩)))),(4,true,.c (.sl 6 0 (d.tys.length+i.val) 1)),(31,true,.c (.sl 3 0 d.cus.length 3)),(32,true,I d.cus.length),(33,true,I i.val)])
  (fun i=>[(3,⟨true,rowsC (d.cus.map CuL.r),84⟩),bNm 6 ((d.tys.map (fun t:Td=>t.nm))++(d.cus.take i.val).map (fun c:CuL=>c.c.nm))]) (fun i=>d.cus.length-i.val) ⟨0,by omega⟩ (fun _=>ClM.of (by simp only[List.all_cons,inMV (rowsC_isV _),inMV (v_sC _)];rfl)) (fun _=>ClE.of rfl) [(3,3),(6,6)] ?_ ?_
 ·simp only[List.take_zero,List.map_nil,List.append_nil,Nat.add_zero]
  exact⟨rfl,trivial,⟨rfl,rfl,rfl,rfl,rfl,trivial⟩,⟨.inr ⟨_,rfl,.inl (renV (rowsC_isV _))⟩,.inr ⟨_,rfl,.inl (renV (v_sC _))⟩,trivial⟩⟩
 rintro⟨i,hi⟩ J hb
 simp only at hb hi⊢
 refine Sm.go 150 ?_
 refine vv ?_
 by_cases hc:i<d.cus.length
 ·have e1:decide ((i:Int)<(d.cus.length:Int))=true:=tru_of (by omega)
  have htk:=rows_take (r:=CuL.r) (k:=3) (fun _=>rfl) d.cus i hc
  simp(maxSteps:=2000000) only[go_sem,e1,htk,hz1]
  refine⟨⟨by omega,by omega⟩,by omega,?_⟩
  try simp(maxSteps:=2000000) only[go_sem]
  have hlen:(((d.tys.map (fun t:Td=>t.nm))++(d.cus.take i).map (fun c:CuL=>c.c.nm)).map sC).length=d.tys.length+i:=by rw[List.length_map,List.length_append,hpl1];simp;omega
  have hsn:List.take (d.tys.length+i) (((d.tys.map (fun t:Td=>t.nm))++(d.cus.take i).map (fun c:CuL=>c.c.nm)).map sC)++[sC ((fun c:CuL=>c.c.nm) d.cus[i])]=((d.tys.map (fun t:Td=>t.nm))++(d.cus.take (i+1)).map (fun c:CuL=>c.c.nm)).map sC:=by
   rw[List.take_of_length_le (by omega),snoc_map (fun c:CuL=>c.c.nm) d.cus i hc]
  skip
  simp only[hlen,hsn,wS (show i≤1000000000000000000 by omega)]
  refine⟨⟨by omega,by omega,by omega⟩,?_⟩
  refine hb _ _ ⟨i+1,hc⟩ [(3,3),(6,152)] (by simp only;omega) ?_
  try simp only[←Nat.add_assoc]
  exact⟨rfl,trivial,⟨rfl,rfl,rfl,rfl,rfl,trivial⟩,⟨.inr ⟨_,rfl,.inl (renV (rowsC_isV _))⟩,.inr ⟨_,rfl,.inl (renV (v_sC _))⟩,trivial⟩⟩
 have e1:decide ((i:Int)<(d.cus.length:Int))=false:=fal_of (by omega)
 have hc:i=d.cus.length:=by omega
 subst hc
 clear hb
 rw[List.take_length]
 simp(maxSteps:=2000000) only[go_sem,e1]
 refine Sm.bringP 9 147 43 hpt rfl rfl (Sm.go 100 ?_)
 refine vv ?_
 refine Sm.bringR 4 91 47 (k.o.ma.mono hH) rfl rfl ?_
 have hl2:(d.mas.map MpL.r).length=d.mas.length:=List.length_map _
 rw[hl2]
 have hz2:=rows_len (r:=MpL.r) (k:=4) (fun _=>rfl) d.mas
 have hpl2:(((d.tys.map (fun t:Td=>t.nm))++d.cus.map (fun c:CuL=>c.c.nm))).length=(d.tys.length+d.cus.length):=by simp
 refine Sm.loopM (M0:=[]) (α:={i:Nat//i≤d.mas.length}) hP (fun i=>[(0,true,.c (.v (.pointer (some ⟨b0,o0,none⟩)))),(4,true,.c (.sl 6 0 ((d.tys.length+d.cus.length)+i.val) 1)),(47,true,.c (.sl 4 0 d.mas.length 4)),(48,true,I d.mas.length),(49,true,I i.val)])
  (fun i=>[(4,⟨true,rowsC (d.mas.map MpL.r),91⟩),bNm 6 (((d.tys.map (fun t:Td=>t.nm))++d.cus.map (fun c:CuL=>c.c.nm))++(d.mas.take i.val).map (fun m:MpL=>m.nm))]) (fun i=>d.mas.length-i.val) ⟨0,by omega⟩ (fun _=>ClM.of (by simp only[List.all_cons,inMV (rowsC_isV _),inMV (v_sC _)];rfl)) (fun _=>ClE.of rfl) [(4,4),(6,6)] ?_ ?_
 ·simp only[List.take_zero,List.map_nil,List.append_nil,Nat.add_zero]
  exact⟨rfl,trivial,⟨rfl,rfl,rfl,rfl,rfl,trivial⟩,⟨.inr ⟨_,rfl,.inl (renV (rowsC_isV _))⟩,.inr ⟨_,rfl,.inl (renV (v_sC _))⟩,trivial⟩⟩
 rintro⟨i,hi⟩ J hb
 simp only at hb hi⊢
 refine Sm.go 150 ?_
 refine vv ?_
 by_cases hc:i<d.mas.length
 ·have e1:decide ((i:Int)<(d.mas.length:Int))=true:=tru_of (by omega)
  have htk:=rows_take (r:=MpL.r) (k:=4) (fun _=>rfl) d.mas i hc
  simp(maxSteps:=2000000) only[go_sem,e1,htk,hz2]
  refine⟨⟨by omega,by omega⟩,by omega,?_⟩
  try simp(maxSteps:=2000000) only[go_sem]
  have hlen:((((d.tys.map (fun t:Td=>t.nm))++d.cus.map (fun c:CuL=>c.c.nm))++(d.mas.take i).map (fun m:MpL=>m.nm)).map sC).length=(d.tys.length+d.cus.length)+i:=by rw[List.length_map,List.length_append,hpl2];simp;omega
  have hsn:List.take ((d.tys.length+d.cus.length)+i) ((((d.tys.map (fun t:Td=>t.nm))++d.cus.map (fun c:CuL=>c.c.nm))++(d.mas.take i).map (fun m:MpL=>m.nm)).map sC)++[sC ((fun m:MpL=>m.nm) d.mas[i])]=(((d.tys.map (fun t:Td=>t.nm))++d.cus.map (fun c:CuL=>c.c.nm))++(d.mas.take (i+1)).map (fun m:MpL=>m.nm)).map sC:=by
   rw[List.take_of_length_le (by omega),snoc_map (fun m:MpL=>m.nm) d.mas i hc]
  skip
  simp only[hlen,hsn,wS (show i≤1000000000000000000 by omega)]
  refine⟨⟨by omega,by omega,by omega⟩,?_⟩
  refine hb _ _ ⟨i+1,hc⟩ [(4,4),(6,152)] (by simp only;omega) ?_
  try simp only[←Nat.add_assoc]
  exact⟨rfl,trivial,⟨rfl,rfl,rfl,rfl,rfl,trivial⟩,⟨.inr ⟨_,rfl,.inl (renV (rowsC_isV _))⟩,.inr ⟨_,rfl,.inl (renV (v_sC _))⟩,trivial⟩⟩
 have e1:decide ((i:Int)<(d.mas.length:Int))=false:=fal_of (by omega)
 have hc:i=d.mas.length:=by omega
 subst hc
 clear hb
 rw[List.take_length]
 simp(maxSteps:=2000000) only[go_sem,e1]
 refine CallQ.hr [(1,160)] 161 (hnam _ hH) (Hp.le.refl _) ClM.nil rfl rfl trivial rfl (.inl rfl) ?_
 simp only[Mem.ren,List.map_cons,List.map_nil,renV (v_sC _),V.ren,Cv.ren,rn,Nat.reduceBEq,cond_true,cond_false]
 refine vv ?_
 have hlA:((d.tys.map (fun t:Td=>t.nm)++d.cus.map (fun c:CuL=>c.c.nm)++d.mas.map (fun m:MpL=>m.nm)).map sC).length=d.tys.length+d.cus.length+d.mas.length:=by simp;omega
 have hlS:((sigs d.c).map sC).length=(sigs d.c).length:=List.length_map _
 have hall:List.take (d.tys.length+d.cus.length+d.mas.length) ((d.tys.map (fun t:Td=>t.nm)++d.cus.map (fun c:CuL=>c.c.nm)++d.mas.map (fun m:MpL=>m.nm)).map sC)++List.take (sigs d.c).length ((sigs d.c).map sC)=(allN d.c).map sC:=by
  rw[List.take_of_length_le (by omega),List.take_of_length_le (by omega),←List.map_append]
  unfold allN
  congr 2
  simp[DgL.c,MpL.c]
  rfl
 have hln:d.tys.length+d.cus.length+d.mas.length+(sigs d.c).length=(allN d.c).length:=by
  have:=congrArg List.length hall
  simp only[List.length_append,List.length_take,List.length_map]at this
  simp only[List.length_append,List.length_map]at hlA
  omega
 refine⟨⟨by omega,⟨by omega,?_⟩,by omega,by omega⟩,?_⟩
 ·rw[List.take_of_length_le (by omega)];simp[Cv.one,Value.oneCell']
 simp only[hall,hln]
 refine CallQ.hr [(1,161)] 170 (again_ (H:=H) (allN d.c) (by omega)) hH (ClM.v (by simp only[List.all_cons,v_sC];rfl)) rfl rfl ⟨⟨_,rfl,wkV (v_sC _)⟩,trivial⟩ rfl (.inr rfl) ?_
 refine vv ?_
 exact RetQ.of (hR C hL) rfl scc rvv (Sub.nil _) ClM.nil (ClV.of rfl)
def allE (d:Dg):Option (Str×Int):=match dupF [] (allN d)with
 |some s=>some (s,8)
 |none=>(firstF (inpE d.tys) d.ins).or ((firstF (blkE d.tys d.cus d.mas (sigs d)) d.bls).or ((outE (sigs d) [] d.ous).or (firstF (fitE d) d.bls)))
theorem firstF_none {α:Type}{f:α→Option (Str×Int)}:∀{l:List α},firstF f l=none→∀x∈l,f x=none
 |[],_,x,h=>by cases h
 |y::l,h,x,hx=>by
  rw[firstF_cons]at h
  cases hy:f y with
  |some z=>rw[hy]at h;cases h
  |none=>
   rw[hy]at h
   rcases List.mem_cons.1 hx with rfl|hx
   ·exact hy
   ·exact firstF_none h x hx
theorem firstF_map {α β:Type}(g:α→β)(f:β→Option (Str×Int)):∀l:List α,firstF f (l.map g)=firstF (fun x=>f (g x)) l
 |[]=>rfl
 |x::l=>by rw[List.map_cons,firstF_cons,firstF_cons,firstF_map g f l]
theorem firstF_e {α:Type}{f:α→Option (Str×Int)}(h:∀x y,f x=some y→y.2≠0):∀{l:List α} {y:Str×Int},firstF f l=some y→y.2≠0
 |[],y,hy=>by cases hy
 |x::l,y,hy=>by
  rw[firstF_cons]at hy
  cases hx:f x with
  |some z=>rw[hx]at hy;cases hy;exact h x y hx
  |none=>rw[hx]at hy;exact firstF_e h hy
theorem inpE_e (l:List Td)(p:Po)(y:Str×Int)(h:inpE l p=some y):y.2≠0:=by
 unfold inpE at h
 split at h
 ·cases h;simp
 ·split at h
  ·cases h;simp
  ·cases h
theorem blkE_e (a:List Td)(b:List Cu)(c:List Mp)(s:List Str)(x:Bl)(y:Str×Int)(h:blkE a b c s x=some y):y.2≠0:=by
 unfold blkE at h
 split at h
 ·cases h;simp
 ·split at h
  ·cases h;simp
  ·split at h
   ·cases h;simp
   ·cases h
theorem fitE_e (d:Dg)(x:Bl)(y:Str×Int)(h:fitE d x=some y):y.2≠0:=by
 unfold fitE at h
 split at h
 ·cases h;simp
 ·split at h
  ·cases h;simp
  ·cases h
theorem outE_e (sg:List Str):∀(l seen:List Str) (y:Str×Int),outE sg seen l=some y→y.2≠0
 |[],_,y,h=>by cases h
 |s::l,seen,y,h=>by
  rw[outE]at h
  split at h
  ·cases h;simp
  ·split at h
   ·cases h;simp
   ·exact outE_e sg l _ y h
theorem all_ {H:Hp}{cp:Value}{d:DgL}{bT bC' bM bS:Nat}(k:Ck H cp d bT bC' bM bS)(hv:dgOk d.c=true):
  CallH H Tryz.prog 44 [.c (.v cp)] (flT (allE d.c)):=by
 have hv':=hv
 unfold dgOk at hv'
 simp only[Bool.and_eq_true,decide_eq_true_eq,List.all_eq_true]at hv'
 obtain⟨_,⟨b1,b2,b3,b4,b5⟩,b6,_,_,_,_,hbo,_⟩:=hv'
 simp only[DgL.c,List.length_map]at b1 b2 b3 b4 b5 b6
 have hbok:∀b∈d.bls,blOk b.c=true:=fun b hb=>hbo b.c (List.mem_map_of_mem hb)
 have hil:∀b∈d.bls,b.c.ins.length≤1000000:=fun b hb=>by
  have h1:=hbok b hb
  unfold blOk at h1
  cases hq:kindQ b.c.kd with
  |none=>rw[hq]at h1;cases h1
  |some q=>
   obtain⟨a,n,t⟩:=q
   rw[hq]at h1
   simp only[Bool.and_eq_true,decide_eq_true_eq]at h1
   have hm:=kind_mem hq
   have:∀r∈kindT,r.2.1≤3:=by decide
   have:=this _ hm
   simp only at this
   omega
 have c1:=twice_ k (by omega) (by omega) (by omega)
 have c2:=inputs_ k
 have c3:=blocks_ k hil
 have c4:=outputs_ k (by omega)
 have eB:firstF (blkE d.c.tys d.c.cus d.c.mas (sigs d.c)) d.c.bls=firstF (fun b:BlL=>blkE d.tys d.c.cus d.c.mas (sigs d.c) b.c) d.bls:=firstF_map BlL.c _ d.bls
 have eF:firstF (fitE d.c) d.c.bls=firstF (fun b:BlL=>fitE d.c b.c) d.bls:=firstF_map BlL.c _ d.bls
 rw[←eB]at c3
 have c5:firstF (blkE d.c.tys d.c.cus d.c.mas (sigs d.c)) d.c.bls=none→CallH H Tryz.prog 103 [.c (.v cp)] (flT (firstF (fitE d.c) d.c.bls)):=fun hn=>by
  rw[eF]
  refine fits_all k hbok fun b hb s hs=>?_
  have h1:=firstF_none hn b.c (List.mem_map_of_mem hb)
  unfold blkE at h1
  split at h1
  ·cases h1
  ·split at h1
   ·cases h1
   ·rename_i hq
    unfold argQ at hq
    rw[List.find?_eq_none]at hq
    simpa using hq s hs
 have eI:firstF (inpE d.c.tys) d.c.ins=firstF (inpE d.tys) d.ins:=rfl
 have eO:d.c.ous=d.ous:=rfl
 have hal:allE d.c=match dupF [] (allN d.c)with
  |some s=>some (s,8)
  |none=>(firstF (inpE d.tys) d.ins).or ((firstF (blkE d.c.tys d.c.cus d.c.mas (sigs d.c)) d.c.bls).or ((outE (sigs d.c) [] d.ous).or (firstF (fitE d.c) d.c.bls))):=rfl
 have n2:∀y,firstF (inpE d.tys) d.ins=some y→y.2≠0:=fun y h=>firstF_e (inpE_e d.tys) h
 have n3:∀y,firstF (blkE d.c.tys d.c.cus d.c.mas (sigs d.c)) d.c.bls=some y→y.2≠0:=fun y h=>firstF_e (blkE_e _ _ _ _) h
 have n4:∀y,outE (sigs d.c) [] d.ous=some y→y.2≠0:=fun y h=>outE_e _ _ _ y h
 have n5:∀y,firstF (fitE d.c) d.c.bls=some y→y.2≠0:=fun y h=>firstF_e (fitE_e _) h
 generalize dupF [] (allN d.c)=q1 at*
 generalize firstF (inpE d.tys) d.ins=q2 at*
 generalize firstF (blkE d.c.tys d.c.cus d.c.mas (sigs d.c)) d.c.bls=q3 at*
 generalize outE (sigs d.c) [] d.ous=q4 at*
 generalize firstF (fitE d.c) d.c.bls=q5 at*
 rw[hal]
 obtain⟨b0,o0,rfl,c0,el0,mk0,hc0,hcc⟩:=PtH.at k.c.p
 refine CallH.mkS Tryz.func44 rfl en44 (by simp[Tryz.ntmps44]) (ClA.of rfl) fun C hR hP hH hL=>?_
 refine Sm.go 100 ?_
 refine vv ?_
 refine CallQ.h 110 c1 hH rfl ?_
 refine vv ?_
 cases q1 with
 |some s=>exact RetQ.of (hR C hL) rfl scc rvv (Sub.nil _) ClM.nil (ClV.of rfl)
 |none=>
  refine Sm.go 120 ?_
  refine vv ?_
  refine Sm.opq rfl rfl ⟨[],_,fun _=>Stp.bound rfl rfl,.inl rfl,?_⟩
  refine Sm.go 120 ?_
  refine vv ?_
  refine Sm.opq rfl rfl ⟨[],_,fun _=>Stp.bound rfl rfl,.inl rfl,?_⟩
  refine Sm.go 120 ?_
  refine vv ?_
  refine Sm.opq rfl rfl ⟨[],_,fun _=>Stp.bound rfl rfl,.inl rfl,?_⟩
  refine Sm.go 120 ?_
  refine vv ?_
  refine Sm.opq rfl rfl ⟨[],_,fun _=>Stp.bound rfl rfl,.inl rfl,?_⟩
  refine Sm.go 120 ?_
  refine vv ?_
  refine Sm.unroll 5 (Sm.go 130 ?_)
  refine vv ?_
  refine Sm.opC 140 rfl rfl (.inl rfl) (fun _=>StpC.callB c2 hH rfl rfl) ?_
  refine vv ?_
  cases q2 with
  |some y=>
   obtain⟨ys,ye⟩:=y
   have hy:(ye !=0)=true:=by simpa using n2 _ rfl
   simp(maxSteps:=2000000) only[go_sem,Option.map_some,Option.getD_some,hy]
   exact RetQ.of (hR C hL) rfl scc rvv (Sub.nil _) ClM.nil (ClV.of rfl)
  |none=>
  simp(maxSteps:=2000000) only[go_sem,Option.map_none,Option.getD_none]
  refine Sm.opC 140 rfl rfl (.inl rfl) (fun _=>StpC.callB c3 hH rfl rfl) ?_
  refine vv ?_
  cases q3 with
  |some y=>
   obtain⟨ys,ye⟩:=y
   have hy:(ye !=0)=true:=by simpa using n3 _ rfl
   simp(maxSteps:=2000000) only[go_sem,Option.map_some,Option.getD_some,hy]
   exact RetQ.of (hR C hL) rfl scc rvv (Sub.nil _) ClM.nil (ClV.of rfl)
  |none=>
  simp(maxSteps:=2000000) only[go_sem,Option.map_none,Option.getD_none]
  refine Sm.opC 140 rfl rfl (.inl rfl) (fun _=>StpC.callB c4 hH rfl rfl) ?_
  refine vv ?_
  cases q4 with
  |some y=>
   obtain⟨ys,ye⟩:=y
   have hy:(ye !=0)=true:=by simpa using n4 _ rfl
   simp(maxSteps:=2000000) only[go_sem,Option.map_some,Option.getD_some,hy]
   exact RetQ.of (hR C hL) rfl scc rvv (Sub.nil _) ClM.nil (ClV.of rfl)
  |none=>
  simp(maxSteps:=2000000) only[go_sem,Option.map_none,Option.getD_none]
  refine Sm.opC 140 rfl rfl (.inl rfl) (fun _=>StpC.callB (c5 rfl) hH rfl rfl) ?_
  refine vv ?_
  cases q5 with
  |some y=>
   obtain⟨ys,ye⟩:=y
   have hy:(ye !=0)=true:=by simpa using n5 _ rfl
   simp(maxSteps:=2000000) only[go_sem,Option.map_some,Option.getD_some,hy]
   exact RetQ.of (hR C hL) rfl scc rvv (Sub.nil _) ClM.nil (ClV.of rfl)
  |none=>
  simp(maxSteps:=2000000) only[go_sem,Option.map_none,Option.getD_none]
  exact RetQ.of (hR C hL) rfl scc rvv (Sub.nil _) ClM.nil (ClV.of rfl)
end Go.Proofs.YtkciabfilokfiaaGreat.Fx
