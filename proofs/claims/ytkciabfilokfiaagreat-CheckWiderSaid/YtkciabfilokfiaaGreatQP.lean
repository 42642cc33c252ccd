/-  -/
import Derived.Test.YtkciabfilokfiaaGreatPS
import Derived.Test.YtkciabfilokfiaaGreatQO
namespace Go.Proofs.YtkciabfilokfiaaGreat.Fx
open Vg Tf
set_option linter.unusedSimpArgs false
set_option linter.unusedVariables false
set_option maxRecDepth 100000
set_option maxHeartbeats 4000000
def upto (f:Nat→Int×Int)(N i:Nat):List (Int×Int):=(List.range N).map fun j=>if j<i then f j else(0,0)
theorem upto_len (f:Nat→Int×Int)(N i:Nat):(upto f N i).length=N:=by simp[upto]
theorem upto_set {f:Nat→Int×Int}{N i:Nat}(h:i<N):(upto f N i).set i (f i)=upto f N (i+1):=by
 apply List.ext_getElem?
 intro j
 rw[List.getElem?_set,upto,upto,List.getElem?_map,List.getElem?_map,List.length_map,List.length_range]
 by_cases hj:i=j
 ·subst hj
  rw[if_pos rfl,if_pos h,List.getElem?_range h];simp
 ·rw[if_neg hj]
  by_cases hN:j<N
  ·rw[List.getElem?_range hN]
   simp only[Option.map_some]
   by_cases h1:j<i
   ·rw[if_pos h1,if_pos (by omega)]
   ·rw[if_neg h1,if_neg (by omega)]
  ·rw[List.getElem?_eq_none (by simp;omega)];rfl
theorem upto_skip {f:Nat→Int×Int}{N i:Nat}(h:f i=(0,0)):upto f N i=upto f N (i+1):=by
 unfold upto
 apply List.map_congr_left
 intro j _
 by_cases h1:j<i
 ·rw[if_pos h1,if_pos (by omega)]
 ·by_cases h2:j=i
  ·subst h2;rw[if_neg h1,if_pos (by omega),h]
  ·rw[if_neg h1,if_neg (by omega)]
theorem reps_upto (f:Nat→Int×Int):∀N:Nat,reps N [Cv.v (.int .i64 0),Cv.v (.int .i64 0)]=rowsC ((upto f N 0).map rgR):=by
 intro N
 have h:upto f N 0=List.replicate N (0,0):=by
  unfold upto
  apply List.ext_getElem?
  intro j
  rw[List.getElem?_map,List.getElem?_replicate]
  by_cases hj:j<N
  ·rw[List.getElem?_range hj,if_pos hj];rfl
  ·rw[List.getElem?_eq_none (by simp;omega),if_neg hj];rfl
 rw[h]
 clear h
 induction N with
 |zero=>rfl
 |succ n ih=>rw[reps,ih,List.replicate_succ,List.map_cons,rowsC_cons];rfl
def po0:Po:=⟨[],[],0,0⟩
def inF (d:Dg)(j:Nat):Int×Int:=((d.ins.getD j po0).lo,(d.ins.getD j po0).hi)
def stF (d:Dg)(j:Nat):Int×Int:=let b:=d.bls.getD j bl0;bif b.kd==delT then(b.ks.getD 0 0,b.ks.getD 0 0)else(0,0)
def r0 (d:Dg):List (Int×Int):=upto (inF d) (d.ins.length+d.bls.length) d.ins.length
def s0 (d:Dg):List (Int×Int):=upto (stF d) d.bls.length d.bls.length
def rngR (d:Dg)(T:Bl→List (Int×Int)→Int×Int)(od:List Nat):Nat→Int→List (Int×Int)→List (Int×Int)→Option (List (Int×Int)×Option (Str×Int))
 |0,_,_,_=>none
 |f+1,n,rs,st=>match (rndR d T st od rs).2 with
  |some e=>some ([],some e)
  |none=>bif (kpR d (decide (8≤n)) (rndR d T st od rs).1 (List.range d.bls.length) st false).2 then rngR d T od f (n+1) (rndR d T st od rs).1 (kpR d (decide (8≤n)) (rndR d T st od rs).1 (List.range d.bls.length) st false).1
   else some ((rndR d T st od rs).1,none)
theorem rndR_len (d:Dg)(T:Bl→List (Int×Int)→Int×Int)(st:List (Int×Int)):∀(l:List Nat) (rs:List (Int×Int)),(rndR d T st l rs).1.length=rs.length
 |[],rs=>rfl
 |i::l,rs=>by
  rw[rndR]
  cases (stepR d T rs st i).2==0 with
  |true=>rw[cond_true,rndR_len d T st l,List.length_set]
  |false=>rfl
theorem rndR_err (d:Dg)(T:Bl→List (Int×Int)→Int×Int)(st:List (Int×Int)):∀(l:List Nat) (rs:List (Int×Int)) (e:Str×Int),(rndR d T st l rs).2=some e→(e.2==0)=false
 |[],rs,e=>by intro h;cases h
 |i::l,rs,e=>by
  rw[rndR]
  cases h:(stepR d T rs st i).2==0 with
  |true=>rw[cond_true];exact rndR_err d T st l _ e
  |false=>intro h2;injection h2 with h2;rw[←h2];exact h
theorem kpR_len (d:Dg)(big:Bool)(rs:List (Int×Int)):∀(l:List Nat) (st:List (Int×Int)) (ch:Bool),(kpR d big rs l st ch).1.length=st.length
 |[],st,ch=>rfl
 |i::l,st,ch=>by
  rw[kpR]
  cases eqR (newS d rs (st.getD i (0,0)) i) (st.getD i (0,0))with
  |true=>rw[cond_true,kpR_len d big rs l]
  |false=>rw[cond_false,kpR_len d big rs l,List.length_set]
theorem ranges_ {H:Hp}{cp:Value}{d:DgL}{bT bC' bM bS:Nat}(k:Ck H cp d bT bC' bM bS)(hok:∀b∈d.bls,blOk b.c=true)(hin:∀b∈d.bls,∀s∈b.c.ins,sgB (sigs d.c) s=true)(T:Bl→List (Int×Int)→Int×Int)
  (hT:∀b∈d.bls,tabK b.c.kd=true→∀rs:List (Int×Int),rs.length=b.c.ins.length→CallX H Tryz.prog 214 [.c (.v cp),rowV b.r,.c (.sl 1 0 rs.length 2)] [(1,⟨true,rowsC (rs.map rgR),45⟩)] (fun _:Unit=>rA (T b.c rs)) (fun _=>[]) (fun _ _=>True))
  (od:List Nat) (h3:∀o∈od,o<d.bls.length) (h4:od.length≤1000000) (f:Nat) (hfu:f≤1000000) (rf:List (Int×Int)) (er:Option (Str×Int)) (hf:rngR d.c T od f 1 (r0 d.c) (s0 d.c)=some (rf,er)):
  CallX H Tryz.prog 47 [.c (.v cp),.c (.sl 4 0 od.length 1)] [(4,⟨true,od.map nC,3⟩)] (fun _:Unit=> .tup [.c (.sl 1 0 rf.length 2),Ws (er.getD ([],0)).1,Wi (er.getD ([],0)).2]) (fun _=>[(1,⟨false,rowsC (rf.map rgR),45⟩)]) (fun _ _=>True):=by
 have hn1:=k.n1
 have hn2:=k.n2
 obtain⟨b0,o0,rfl,c0,el0,mk0,hc0,hcc⟩:=PtH.at k.c.p
 refine CallX.mkS Tryz.func47 rfl en47 (by simp[Tryz.ntmps47]) (ClA.of rfl) (fun _=>rfl) (fun _=>rfl) fun C hR hP hH hL=>?_
 have hR:=hR () C hL trivial
 have hpt:=k.c.p.mono hH
 refine Sm.go 100 ?_
 refine vv ?_
 refine Sm.dg 110 12 mix ?_
 refine vv ?_
 refine DOpQ.own 120 (Stp.nilV rfl rfl) ?_
 refine vv ?_
 refine DOpQ.own 120 (Stp.fldV rfl rfl rfl) ?_
 refine vv ?_
 refine DOpQ.own 120 (Stp.fldV rfl rfl rfl) ?_
 refine vv ?_
 refine DOpQ.ownC 120 (fun _=>StpC.ldH (hH _ _ hc0) (hcc 4 _ rfl) rfl rfl rfl) ?_
 refine vv ?_
 refine DOpQ.own 120 (Stp.nilV rfl rfl) ?_
 refine vv ?_
 refine DOpQ.own 120 (Stp.fldV rfl rfl rfl) ?_
 refine vv ?_
 refine DOpQ.own 120 (Stp.fldV rfl rfl rfl) ?_
 refine vv ?_
 refine DOpQ.ownC 120 (fun _=>StpC.ldH (hH _ _ hc0) (hcc 5 _ rfl) rfl rfl rfl) ?_
 simp(maxSteps:=2000000) only[go_sem,reps_upto (inF d.c)]
 have e1:IntKind.i64.wrap ((d.ins.length:Int)+(d.bls.length:Int))=((d.ins.length+d.bls.length:Nat):Int):=by rw[w64 (by omega) (by omega)];omega
 simp only[e1,Int.toNat_natCast]
 refine⟨⟨by omega,by omega,by omega⟩,?_⟩
 refine Sm.bringP 1 147 30 hpt rfl rfl (Sm.go 130 ?_)
 refine vv ?_
 refine Sm.bringR 5 51 34 (k.o.i.mono hH) rfl rfl ?_
 have hl5:(d.ins.map Po.r).length=d.ins.length:=List.length_map _
 rw[hl5]
 have hz5:=rows_len (r:=Po.r) (k:=4) (fun _=>rfl) d.ins
 have hgi:∀j (h:j<d.ins.length),inF d.c j=(d.ins[j].lo,d.ins[j].hi):=fun j h=>by
  unfold inF
  have:d.c.ins.getD j po0=d.ins[j]:=by
   show d.ins.getD j po0=_
   rw[List.getD_eq_getElem?_getD,List.getElem?_eq_getElem h];rfl
  rw[this]
 have hM:ClM [(4,⟨true,od.map nC,3⟩)]:=ClM.of (by simp only[List.all_cons,inMV (v_nC _)];rfl)
 refine Sm.loopM (M0:=[(4,⟨true,od.map nC,3⟩)]) (α:={i:Nat//i≤d.ins.length}) hP (fun i=>[(0,true,.c (.v (.pointer (some ⟨b0,o0,none⟩)))),(1,true,.c (.sl 4 0 od.length 1)),(7,true,.c (.sl 2 0 (d.ins.length+d.bls.length) 2)),(34,true,.c (.sl 5 0 d.ins.length 4)),(35,true,I d.ins.length),(36,true,I i.val)])
  (fun i=>[(4,⟨true,od.map nC,3⟩),(2,⟨false,rowsC ((upto (inF d.c) (d.ins.length+d.bls.length) i.val).map rgR),45⟩),(5,⟨true,rowsC (d.ins.map Po.r),51⟩)]) (fun i=>d.ins.length-i.val) ⟨0,by omega⟩ (fun i=>ClM.of (by simp only[List.all_cons,inMV (v_nC _),inMV (rowsC_isV _)];rfl)) (fun _=>ClE.of rfl) [(4,4),(2,120),(5,5)] ?_ ?_
 ·exact⟨rfl,⟨⟨rfl,rfl⟩,trivial⟩,⟨rfl,rfl,rfl,rfl,rfl,rfl,trivial⟩,⟨.inr ⟨_,rfl,.inl (renV (v_nC _))⟩,.inr ⟨_,rfl,.inl (renV (rowsC_isV _))⟩,.inr ⟨_,rfl,.inl (renV (rowsC_isV _))⟩,trivial⟩⟩
 rintro⟨i,hi⟩ J hj
 simp only at hj hi⊢
 refine Sm.go 140 ?_
 refine vv ?_
 refine mtch (fun hc=>?_) (fun hc=>?_)
 ·have hc:=lt_of_dec hc
  have htk:=rows_take (r:=Po.r) (k:=4) (fun _=>rfl) d.ins i hc
  have hul:=rows_len (r:=rgR) (k:=2) (fun _=>rfl) (upto (inF d.c) (d.ins.length+d.bls.length) i)
  rw[upto_len]at hul
  have hst:=rgs_set (upto (inF d.c) (d.ins.length+d.bls.length) i) i (inF d.c i)
  rw[upto_set (by omega),hgi i hc]at hst
  simp(maxSteps:=2000000) only[go_sem,htk,hz5,hul]
  simp only[hst,wS (show i≤1000000000000000000 by omega)]
  refine⟨⟨by omega,by omega⟩,by omega,⟨by omega,by omega⟩,by omega,?_⟩
  refine Sm.go 150 ?_
  simp(maxSteps:=2000000) only[go_sem,wS (show i≤1000000000000000000 by omega)]
  exact hj _ _ ⟨i+1,hc⟩ [(4,4),(2,2),(5,5)] (by simp only;omega) ⟨rfl,⟨⟨rfl,rfl⟩,trivial⟩,⟨rfl,rfl,rfl,rfl,rfl,rfl,trivial⟩,⟨.inr ⟨_,rfl,.inl (renV (v_nC _))⟩,.inr ⟨_,rfl,.inl (renV (rowsC_isV _))⟩,.inr ⟨_,rfl,.inl (renV (rowsC_isV _))⟩,trivial⟩⟩
 have hc:=eq_of_dec hi hc
 subst hc
 clear hj
 have hr0:upto (inF d.c) (d.ins.length+d.bls.length) d.ins.length=r0 d.c:=by
  unfold r0
  have e1:d.c.bls.length=d.bls.length:=List.length_map _
  rw[e1];rfl
 rw[hr0]
 have hlr0:(r0 d.c).length=d.ins.length+d.bls.length:=by rw[←hr0,upto_len]
 refine Sm.bringP 1 147 50 hpt rfl rfl (Sm.go 150 ?_)
 simp(maxSteps:=2000000) only[go_sem,reps_upto (stF d.c)]
 refine⟨⟨by omega,by omega,by omega⟩,?_⟩
 refine Sm.bringP 6 147 57 hpt rfl rfl (Sm.go 160 ?_)
 refine vv ?_
 refine Sm.bringR 8 53 61 (k.o.bl.mono hH) rfl rfl ?_
 have hl8:(d.bls.map BlL.r).length=d.bls.length:=List.length_map _
 rw[hl8]
 have hz8:=rows_len (r:=BlL.r) (k:=6) (fun _=>rfl) d.bls
 refine Sm.loopM (M0:=[(4,⟨true,od.map nC,3⟩)]) (α:={i:Nat//i≤d.bls.length}) hP (fun i=>[(0,true,.c (.v (.pointer (some ⟨b0,o0,none⟩)))),(1,true,.c (.sl 4 0 od.length 1)),(7,true,.c (.sl 2 0 (d.ins.length+d.bls.length) 2)),(10,true,.c (.sl 3 0 d.bls.length 2)),(61,true,.c (.sl 8 0 d.bls.length 6)),(62,true,I d.bls.length),(63,true,I i.val)])
  (fun i=>[(4,⟨true,od.map nC,3⟩),(2,⟨false,rowsC ((r0 d.c).map rgR),45⟩),(3,⟨false,rowsC ((upto (stF d.c) d.bls.length i.val).map rgR),45⟩),(8,⟨true,rowsC (d.bls.map BlL.r),53⟩)]) (fun i=>d.bls.length-i.val) ⟨0,by omega⟩ (fun i=>ClM.of (by simp only[List.all_cons,inMV (v_nC _),inMV (rowsC_isV _)];rfl)) (fun _=>ClE.of rfl) [(4,4),(2,2),(3,150),(8,8)] ?_ ?_
 ·exact⟨rfl,⟨⟨rfl,rfl⟩,trivial⟩,⟨rfl,rfl,rfl,rfl,rfl,rfl,rfl,trivial⟩,⟨.inr ⟨_,rfl,.inl (renV (v_nC _))⟩,.inr ⟨_,rfl,.inl (renV (rowsC_isV _))⟩,.inr ⟨_,rfl,.inl (renV (rowsC_isV _))⟩,.inr ⟨_,rfl,.inl (renV (rowsC_isV _))⟩,trivial⟩⟩
 rintro⟨i,hi⟩ J hj
 simp only at hj hi⊢
 refine Sm.go 170 ?_
 refine vv ?_
 refine mtch (fun hc=>?_) (fun hc=>?_)
 ·have hc:=lt_of_dec hc
  have htk:=rows_take (r:=BlL.r) (k:=6) (fun _=>rfl) d.bls i hc
  have hul:=rows_len (r:=rgR) (k:=2) (fun _=>rfl) (upto (stF d.c) d.bls.length i)
  rw[upto_len]at hul
  have hmem:d.bls[i]∈d.bls:=List.getElem_mem hc
  have hbo:=k.o.bls _ hmem
  have hbk:=hok _ hmem
  have hgd:d.c.bls.getD i bl0=d.bls[i].c:=by
   show(d.bls.map BlL.c).getD i bl0=_
   rw[List.getD_eq_getElem?_getD,List.getElem?_map,List.getElem?_eq_getElem hc];rfl
  have hsf:stF d.c i=bif d.bls[i].c.kd==delT then(d.bls[i].c.ks.getD 0 0,d.bls[i].c.ks.getD 0 0)else(0,0):=by unfold stF;rw[hgd]
  generalize d.bls[i]=b at*
  simp(maxSteps:=2000000) only[go_sem,htk,hz8]
  refine⟨⟨by omega,by omega⟩,by omega,?_⟩
  refine mtch (fun hd=>?_) (fun hd=>?_)
  ·have hd:(b.c.kd==delT)=true:=hd
   rw[hd,cond_true]at hsf
   obtain⟨k0,hk0⟩:=ln1 (blOk_ks hbk hd (by rfl)).2
   obtain⟨bi,oi,ci',hi1,csi,eli,mki,hci,hcci⟩:=hbo.k.at (by rw[hk0];simp[intsR])
   have hio:b.k.o=some ⟨bi,oi,none⟩:=by injection hi1
   have hkl:b.c.ks.length=1:=by rw[hk0];rfl
   have hx0:csi[oi+0]?=some (iv k0):=hcci 0 _ (by rw[hk0];rfl)
   rw[hk0]at hsf
   have hsf:stF d.c i=(k0,k0):=hsf
   have hst:=rgs_set (upto (stF d.c) d.bls.length i) i (stF d.c i)
   rw[upto_set hc,hsf]at hst
   refine Sm.dg 180 11 mix ?_
   simp(maxSteps:=2000000) only[go_sem,hio]
   refine DOpQ.own 180 (Stp.idxV rfl rfl rfl rfl (by omega) (by omega)) ?_
   refine vv ?_
   refine DOpQ.ownC 180 (fun _=>StpC.ldH (hH _ _ hci) hx0 rfl rfl rfl) ?_
   refine vv ?_
   refine DOpQ.own 180 (Stp.idxV rfl rfl rfl rfl (by omega) (by omega)) ?_
   refine vv ?_
   refine DOpQ.ownC 180 (fun _=>StpC.ldH (hH _ _ hci) hx0 rfl rfl rfl) ?_
   simp(maxSteps:=2000000) only[go_sem,hul]
   simp only[hst]
   refine⟨⟨by omega,by omega⟩,by omega,?_⟩
   refine Sm.go 190 ?_
   simp(maxSteps:=2000000) only[go_sem,wS (show i≤1000000000000000000 by omega)]
   exact hj _ _ ⟨i+1,hc⟩ [(4,4),(2,2),(3,3),(8,8)] (by simp only;omega) ⟨rfl,⟨⟨rfl,rfl⟩,trivial⟩,⟨rfl,rfl,rfl,rfl,rfl,rfl,rfl,trivial⟩,⟨.inr ⟨_,rfl,.inl (renV (v_nC _))⟩,.inr ⟨_,rfl,.inl (renV (rowsC_isV _))⟩,.inr ⟨_,rfl,.inl (renV (rowsC_isV _))⟩,.inr ⟨_,rfl,.inl (renV (rowsC_isV _))⟩,trivial⟩⟩
  ·have hd:(b.c.kd==delT)=false:=hd
   rw[hd,cond_false]at hsf
   refine Sm.go 190 ?_
   simp(maxSteps:=2000000) only[go_sem,wS (show i≤1000000000000000000 by omega)]
   rw[upto_skip hsf]
   exact hj _ _ ⟨i+1,hc⟩ [(4,4),(2,2),(3,3),(8,8)] (by simp only;omega) ⟨rfl,⟨⟨rfl,rfl⟩,trivial⟩,⟨rfl,rfl,rfl,rfl,rfl,rfl,rfl,trivial⟩,⟨.inr ⟨_,rfl,.inl (renV (v_nC _))⟩,.inr ⟨_,rfl,.inl (renV (rowsC_isV _))⟩,.inr ⟨_,rfl,.inl (renV (rowsC_isV _))⟩,.inr ⟨_,rfl,.inl (renV (rowsC_isV _))⟩,trivial⟩⟩
 have hc:=eq_of_dec hi hc
 subst hc
 clear hj
 have hs0:upto (stF d.c) d.bls.length d.bls.length=s0 d.c:=by
  unfold s0
  have e1:d.c.bls.length=d.bls.length:=List.length_map _
  rw[e1]
 rw[hs0]
 have hls0:(s0 d.c).length=d.bls.length:=by rw[←hs0,upto_len]
 have hms:∀rs st:List (Int×Int),ClM [(4,⟨true,od.map nC,3⟩),(2,⟨false,rowsC (rs.map rgR),45⟩),(3,⟨false,rowsC (st.map rgR),45⟩)]:=fun rs st=>ClM.of (by simp only[List.all_cons,inMV (v_nC _),inMV (rowsC_isV _)];rfl)
 refine Sm.loopM (M0:=[(4,⟨true,od.map nC,3⟩)]) (α:={q:Nat×Nat×List (Int×Int)×List (Int×Int)//q.1+q.2.1=f+1∧q.2.2.1.length=d.ins.length+d.bls.length∧q.2.2.2.length=d.bls.length∧rngR d.c T od q.1 (q.2.1:Int) q.2.2.1 q.2.2.2=some (rf,er)}) hP (fun q=>[(0,true,.c (.v (.pointer (some ⟨b0,o0,none⟩)))),(1,true,.c (.sl 4 0 od.length 1)),(7,true,.c (.sl 2 0 (d.ins.length+d.bls.length) 2)),(10,true,.c (.sl 3 0 d.bls.length 2)),(13,true,I q.val.2.1)])
  (fun q=>[(4,⟨true,od.map nC,3⟩),(2,⟨false,rowsC (q.val.2.2.1.map rgR),45⟩),(3,⟨false,rowsC (q.val.2.2.2.map rgR),45⟩)]) (fun q=>q.val.1) ⟨(f,1,r0 d.c,s0 d.c),rfl,hlr0,hls0,hf⟩ (fun q=>hms _ _) (fun _=>ClE.of rfl) [(4,4),(2,2),(3,3)] ?_ ?_
 ·exact⟨rfl,⟨⟨rfl,rfl⟩,trivial⟩,⟨rfl,rfl,rfl,rfl,rfl,trivial⟩,⟨.inr ⟨_,rfl,.inl (renV (v_nC _))⟩,.inr ⟨_,rfl,.inl (renV (rowsC_isV _))⟩,.inr ⟨_,rfl,.inl (renV (rowsC_isV _))⟩,trivial⟩⟩
 rintro⟨⟨fu,n,rs,st⟩,hfn,hlr,hls,hx⟩ J hj
 simp only at hj hfn hlr hls hx⊢
 cases fu with
 |zero=>cases hx
 |succ fu=>
 rw[rngR]at hx
 have hrd:=round_ k hok hin T hT rs st od hlr hls h3 h4
 rw[hlr,hls]at hrd
 refine Sm.go 170 ?_
 refine vv ?_
 have hrl:=rndR_len d.c T st od rs
 have hre:=rndR_err d.c T st od rs
 refine CallQ.hr [(2,2),(3,3),(4,4)] 180 hrd hH (ClM.of (by unfold rdM;simp only[List.all_cons,inMV (v_nC _),inMV (rowsC_isV _)];rfl)) rfl rfl ⟨⟨_,rfl,.inl (renV (rowsC_isV _))⟩,⟨_,rfl,wkV (rowsC_isV _)⟩,⟨_,rfl,wkV (v_nC _)⟩,trivial⟩ rfl (.inl rfl) ?_
 simp only[Mem.ren,List.map_cons,List.map_nil,renV (rowsC_isV _),V.ren,Cv.ren,rn,Nat.reduceBEq,cond_true,cond_false]
 generalize rndR d.c T st od rs=q at*
 obtain⟨rq,e⟩:=q
 simp only at hx hrl hre⊢
 cases e with
 |some e=>
  injection hx with hx
  obtain⟨rfl,rfl⟩:=Prod.mk.inj hx
  have he:(e.2 !=0)=true:=by rw[bne,hre e rfl];rfl
  simp(maxSteps:=2000000) only[go_sem,Option.getD_some,he]
  refine RetQ.nils 200 2 45 [4] [] rfl ?_
  refine vv ?_
  refine RetQ.ren [(1,200),(4,4)] hR hP rfl scc rfl rfl ?_ ?_ ?_ (ClV.of rfl)
  ·exact⟨⟨rfl,rfl⟩,trivial⟩
  ·exact⟨.inr ⟨_,rfl,.inl rfl⟩,.inr ⟨_,rfl,.inl (renV (v_nC _))⟩,trivial⟩
  ·exact ClM.of (by simp only[List.cons_append,List.nil_append,List.all_cons,inMV (v_nC _),inMV (rowsC_isV _)];rfl)
 |none=>
 simp(maxSteps:=2000000) only[go_sem,Option.getD_none]
 have hkp:=keep_ k hok hin rq st (n:Int) (hrl.trans hlr) hls
 have hkl:=kpR_len d.c (decide (8≤(n:Int))) rq (List.range d.bls.length) st false
 rw[hrl.trans hlr,hls]at hkp
 refine CallQ.hr [(2,2),(3,3)] 200 hkp hH (ClM.of (by unfold kpM;simp only[List.all_cons,inMV (rowsC_isV _)];rfl)) rfl rfl ⟨⟨_,rfl,.inl (renV (rowsC_isV _))⟩,⟨_,rfl,wkV (rowsC_isV _)⟩,trivial⟩ rfl (.inl rfl) ?_
 simp only[Mem.ren,List.map_cons,List.map_nil,renV (rowsC_isV _),V.ren,Cv.ren,rn,Nat.reduceBEq,cond_true,cond_false]
 have hbl:d.c.bls.length=d.bls.length:=List.length_map _
 rw[hbl]at hx
 generalize kpR d.c (decide (8≤(n:Int))) rq (List.range d.bls.length) st false=q at*
 obtain⟨sq,ch⟩:=q
 simp only at hx hkl⊢
 cases ch with
 |true=>
  rw[cond_true]at hx
  refine vv ?_
  refine Sm.go 220 ?_
  simp(maxSteps:=2000000) only[go_sem,wS (show n≤1000000000000000000 by omega)]
  exact hj _ _ ⟨(fu,n+1,rq,sq),by simp only;omega,hrl.trans hlr,hkl.trans hls,by simpa using hx⟩ [(4,4),(2,2),(3,3)] (by simp only;omega) ⟨rfl,⟨⟨rfl,rfl⟩,trivial⟩,⟨rfl,rfl,rfl,rfl,rfl,trivial⟩,⟨.inr ⟨_,rfl,.inl (renV (v_nC _))⟩,.inr ⟨_,rfl,.inl (renV (rowsC_isV _))⟩,.inr ⟨_,rfl,.inl (renV (rowsC_isV _))⟩,trivial⟩⟩
 |false=>
  rw[cond_false]at hx
  injection hx with hx
  obtain⟨rfl,rfl⟩:=Prod.mk.inj hx
  refine vv ?_
  refine RetQ.ren [(1,2),(4,4)] hR hP rfl scc rfl ?_ ?_ ?_ ?_ (ClV.of rfl)
  ·rw[hrl.trans hlr];rfl
  ·exact⟨⟨rfl,rfl⟩,trivial⟩
  ·exact⟨.inr ⟨_,rfl,.inl (renV (rowsC_isV _))⟩,.inr ⟨_,rfl,.inl (renV (v_nC _))⟩,trivial⟩
  ·exact ClM.of (by simp only[List.cons_append,List.nil_append,List.all_cons,inMV (v_nC _),inMV (rowsC_isV _)];rfl)
end Go.Proofs.YtkciabfilokfiaaGreat.Fx
