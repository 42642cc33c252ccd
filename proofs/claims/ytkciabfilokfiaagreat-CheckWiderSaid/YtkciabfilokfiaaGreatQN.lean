/-  -/
import Derived.Test.YtkciabfilokfiaaGreatPS
import Derived.Test.YtkciabfilokfiaaGreatQM
namespace Go.Proofs.YtkciabfilokfiaaGreat.Fx
open Vg Tf
set_option linter.unusedSimpArgs false
set_option linter.unusedVariables false
set_option maxRecDepth 100000
set_option maxHeartbeats 4000000
@[go_sem ↓] theorem plS_1_2:plS 1 2=[(0,2)]:=rfl
@[go_sem ↓] theorem plS_1_10:plS 1 10=[(0,10)]:=rfl
def bl0:Bl:=⟨[],[],[],[],[],[]⟩
def argR (d:Dg)(rs:List (Int×Int))(b:Bl):List (Int×Int):=b.ins.map fun s=>rs.getD (sgN (sigs d) s) (0,0)
def argT (d:Dg)(b:Bl):List Ft:=b.ins.map fun s=>tyAt d (sgN (sigs d) s)
def stepR (d:Dg)(T:Bl→List (Int×Int)→Int×Int)(rs st:List (Int×Int))(i:Nat):(Int×Int)×Int:=
 blkR (tyN d.tys (d.bls.getD i bl0).ty) (d.bls.getD i bl0) (argR d rs (d.bls.getD i bl0)) (argT d (d.bls.getD i bl0)) (st.getD i (0,0)) (T (d.bls.getD i bl0) (argR d rs (d.bls.getD i bl0)))
def rndR (d:Dg)(T:Bl→List (Int×Int)→Int×Int)(st:List (Int×Int)):List Nat→List (Int×Int)→List (Int×Int)×Option (Str×Int)
 |[],rs=>(rs,none)
 |i::l,rs=>bif (stepR d T rs st i).2==0 then rndR d T st l (rs.set (d.ins.length+i) (stepR d T rs st i).1)else(rs,some ((d.bls.getD i bl0).nm,(stepR d T rs st i).2))
def rdM (rs st:List (Int×Int))(od:List Nat):Mem:=[(2,⟨false,rowsC (rs.map rgR),45⟩),(3,⟨true,rowsC (st.map rgR),45⟩),(4,⟨true,od.map nC,3⟩)]
@[reducible] def osE (r:Option (Str×Int)):V:= .tup [Ws (r.getD ([],0)).1,Wi (r.getD ([],0)).2]
theorem sgN_lt {d:DgL}{s:Str}(h:sgB (sigs d.c) s=true):sgN (sigs d.c) s<d.ins.length+d.bls.length:=by
 unfold sgB at h
 obtain⟨i,hi⟩:=Option.isSome_iff_exists.1 h
 have:=idxS_lt s _ 0 i hi
 have e:sgN (sigs d.c) s=i:=by unfold sgN;rw[hi];rfl
 rw[e,←sigs_len d];omega
theorem blOk_in {b:Bl}(h:blOk b=true):b.ins.length≤3:=by
 have hq:∃q,kindQ b.kd=some q:=by
  have h1:=h
  unfold blOk at h1
  cases hq:kindQ b.kd with
  |none=>rw[hq]at h1;cases h1
  |some q=>exact⟨q,rfl⟩
 obtain⟨q,hq⟩:=hq
 have hm:=kind_mem hq
 unfold blOk at h
 rw[hq]at h
 simp only[Bool.and_eq_true,decide_eq_true_eq]at h
 have:∀x∈kindT,x.2.1≤3:=by decide
 have:=this _ hm
 simp only at this
 omega
theorem rgs_take (l:List (Int×Int))(i:Nat)(h:i<l.length):((rowsC (l.map rgR)).drop (i*2)).take 2=[Cv.v (.int .i64 (l.getD i (0,0)).1),Cv.v (.int .i64 (l.getD i (0,0)).2)]:=by
 rw[rows_take (r:=rgR) (k:=2) (fun _=>rfl) l i h,List.getD_eq_getElem?_getD,List.getElem?_eq_getElem h];rfl
theorem rgs_set:∀(l:List (Int×Int)) (i:Nat) (a:Int×Int),((rowsC (l.map rgR)).set (i*2) (Cv.v (.int .i64 a.1))).set (i*2+1) (Cv.v (.int .i64 a.2))=rowsC ((l.set i a).map rgR)
 |[],i,a=>by simp[rowsC]
 |x::l,0,a=>by simp[rowsC,rgR]
 |x::l,i+1,a=>by
  have ih:=rgs_set l i a
  have e:∀l:List (Int×Int),rowsC ((x::l).map rgR)=[Cv.v (.int .i64 x.1),Cv.v (.int .i64 x.2)]++rowsC (l.map rgR):=fun l=>by rw[List.map_cons,rowsC_cons];rfl
  rw[List.set_cons_succ,e,e,←ih]
  have e1:(i+1)*2=i*2+1+1:=by omega
  rw[e1];rfl
theorem get_sh {n:Nat}{b b':Bk}{r:Mem}(k:Nat):Mem.get ((n,b)::(n,b')::r) k=Mem.get ((n,b)::r) k:=by
 simp only[Mem.get_cons]
 by_cases h:k=n
 ·simp[h]
 ·simp[h]
theorem sub_sh {n:Nat}{b b':Bk}{r M:Mem}(h:Sub ((n,b)::r) M):Sub ((n,b)::(n,b')::r) M:=fun k c hk=>h k c (by rw[←get_sh (b':=b')];exact hk)
theorem clm_sh {n:Nat}{b b':Bk}{r:Mem}(h:ClM ((n,b)::r)):ClM ((n,b)::(n,b')::r):=fun β β' hag k c hk=>
 h β β' (fun k hn=>hag k (by rw[get_sh];exact hn)) k c (by rw[←get_sh (b':=b')];exact hk)
theorem round_ {H:Hp}{cp:Value}{d:DgL}{bT bC' bM bS:Nat}(k:Ck H cp d bT bC' bM bS)(hok:∀b∈d.bls,blOk b.c=true)(hin:∀b∈d.bls,∀s∈b.c.ins,sgB (sigs d.c) s=true)(T:Bl→List (Int×Int)→Int×Int)
  (hT:∀b∈d.bls,tabK b.c.kd=true→∀rs:List (Int×Int),rs.length=b.c.ins.length→CallX H Tryz.prog 214 [.c (.v cp),rowV b.r,.c (.sl 1 0 rs.length 2)] [(1,⟨true,rowsC (rs.map rgR),45⟩)] (fun _:Unit=>rA (T b.c rs)) (fun _=>[]) (fun _ _=>True))
  (rs st:List (Int×Int)) (od:List Nat) (h1:rs.length=d.ins.length+d.bls.length) (h2:st.length=d.bls.length) (h3:∀o∈od,o<d.bls.length) (h4:od.length≤1000000):
  CallX H Tryz.prog 109 [.c (.v cp),.c (.sl 4 0 od.length 1),.c (.sl 2 0 rs.length 2),.c (.sl 3 0 st.length 2)] (rdM rs st od) (fun _:Unit=>osE (rndR d.c T st od rs).2) (fun _=>[(2,⟨false,rowsC ((rndR d.c T st od rs).1.map rgR),45⟩)]) (fun _ _=>True):=by
 have hn1:=k.n1
 have hn2:=k.n2
 obtain⟨ca,rfl⟩:=PtH.ptr k.c.p
 unfold rdM
 refine CallX.mkS Tryz.func109 rfl en109 (by simp[Tryz.ntmps109]) (ClA.of rfl) (fun _=>rfl) (fun _=>rfl) fun C hR hP hH hL=>?_
 have hR:=hR () C hL trivial
 have hpt:=k.c.p.mono hH
 refine Sm.go 100 ?_
 refine vv ?_
 refine Sm.bringP 1 147 21 hpt rfl rfl (Sm.go 110 ?_)
 refine vv ?_
 have hms:∀r:List (Int×Int),ClM [(2,⟨false,rowsC (r.map rgR),45⟩),(3,⟨true,rowsC (st.map rgR),45⟩),(4,⟨true,od.map nC,3⟩)]:=fun r=>ClM.of (by simp only[List.all_cons,inMV (rowsC_isV _),inMV (v_nC _)];rfl)
 refine Sm.loopM (M0:=[(2,⟨false,rowsC (rs.map rgR),45⟩),(3,⟨true,rowsC (st.map rgR),45⟩),(4,⟨true,od.map nC,3⟩)]) (α:={q:Nat×List (Int×Int)//q.1≤od.length∧q.2.length=rs.length∧rndR d.c T st od rs=rndR d.c T st (od.drop q.1) q.2}) hP (fun q=>[(0,true,.c (.v (.pointer ca))),(2,true,.c (.sl 2 0 rs.length 2)),(3,true,.c (.sl 3 0 st.length 2)),(10,true,I d.ins.length),(27,true,.c (.sl 4 0 od.length 1)),(28,true,I od.length),(29,true,I q.val.1)])
  (fun q=>[(2,⟨false,rowsC (q.val.2.map rgR),45⟩),(3,⟨true,rowsC (st.map rgR),45⟩),(4,⟨true,od.map nC,3⟩)]) (fun q=>od.length-q.val.1) ⟨(0,rs),by omega,rfl,rfl⟩ (fun q=>hms q.val.2) (fun _=>ClE.of rfl) [(2,2),(3,3),(4,4)] ?_ ?_
 ·exact⟨rfl,⟨⟨rfl,rfl⟩,⟨rfl,rfl⟩,⟨rfl,rfl⟩,trivial⟩,⟨rfl,rfl,rfl,rfl,rfl,rfl,rfl,trivial⟩,⟨.inr ⟨_,rfl,.inl (renV (rowsC_isV _))⟩,.inr ⟨_,rfl,.inl (renV (rowsC_isV _))⟩,.inr ⟨_,rfl,.inl (renV (v_nC _))⟩,trivial⟩⟩
 rintro⟨⟨i,rq⟩,hi,hlq,hx⟩ J hj
 simp only at hj hi hx hlq⊢
 refine Sm.go 120 ?_
 refine vv ?_
 refine mtch (fun hc=>?_) (fun hc=>?_)
 ·have hc:=lt_of_dec hc
  have ho:=h3 _ (List.getElem_mem hc)
  have hdr:od.drop i=od[i]::od.drop (i+1):=List.drop_eq_getElem_cons hc
  simp(maxSteps:=2000000) only[go_sem,get_nC hc]
  refine⟨⟨by omega,by omega⟩,?_⟩
  rw[hdr]at hx
  generalize od[i]=o at*
  refine Sm.bringP 1 147 33 hpt rfl rfl (Sm.go 120 ?_)
  refine vv ?_
  refine Sm.bringR 5 53 37 (k.o.bl.mono hH) rfl rfl ?_
  have hl2:(d.bls.map BlL.r).length=d.bls.length:=List.length_map _
  rw[hl2]
  refine Sm.go 120 ?_
  have htk:=rows_take (r:=BlL.r) (k:=6) (fun _=>rfl) d.bls o ho
  have hz5:=rows_len (r:=BlL.r) (k:=6) (fun _=>rfl) d.bls
  simp(maxSteps:=2000000) only[go_sem,htk,hz5]
  refine⟨⟨by omega,by omega⟩,by omega,?_⟩
  have hmem:d.bls[o]∈d.bls:=List.getElem_mem ho
  have hbo:=k.o.bls _ hmem
  have hbk:=hok _ hmem
  have hbi:=hin _ hmem
  have hTb:=hT _ hmem
  have hgd:d.c.bls.getD o bl0=d.bls[o].c:=by
   show(d.bls.map BlL.c).getD o bl0=_
   rw[List.getD_eq_getElem?_getD,List.getElem?_map,List.getElem?_eq_getElem ho];rfl
  have hst:stepR d.c T rq st o=blkR (tyN d.tys d.bls[o].c.ty) d.bls[o].c (argR d.c rq d.bls[o].c) (argT d.c d.bls[o].c) (st.getD o (0,0)) (T d.bls[o].c (argR d.c rq d.bls[o].c)):=by
   unfold stepR;rw[hgd];rfl
  rw[rndR,hst,hgd]at hx
  generalize d.bls[o]=b at*
  have hil:=blOk_in hbk
  refine Sm.bringS 11 9 42 (hbo.i.mono hH) rfl rfl ?_
  refine Sm.nils 140 2 45 [14] [] rfl ?_
  refine vv ?_
  refine Sm.nils 141 10 43 [15] [] rfl ?_
  refine vv ?_
  have htyn:=fun s hs=>typeOf_ k (sgN (sigs d.c) s) (sgN_lt (hbi s hs))
  have hlt:=fun s hs=>sgN_lt (hbi s hs)
  have hAR:argR d.c rq b.c=b.c.ins.map (fun s=>rq.getD (sgN (sigs d.c) s) (0,0)):=rfl
  have hAT:argT d.c b.c=b.c.ins.map (fun s=>tyAt d.c (sgN (sigs d.c) s)):=rfl
  have hra:=fun s hs=>rgs_take rq (sgN (sigs d.c) s) (by have:=hlt s hs;omega)
  have hrz:=rows_len (r:=rgR) (k:=2) (fun _=>rfl) rq
  refine Sm.loopM (M0:=[(2,⟨false,rowsC (rs.map rgR),45⟩),(3,⟨true,rowsC (st.map rgR),45⟩),(4,⟨true,od.map nC,3⟩)]) (α:={j:Nat//j≤b.c.ins.length}) hP (fun j=>[(0,true,.c (.v (.pointer ca))),(2,true,.c (.sl 2 0 rs.length 2)),(3,true,.c (.sl 3 0 st.length 2)),(10,true,I d.ins.length),(12,true,I o),(13,true,.c (.p 13 0)),(14,true,.c (.sl 6 0 j.val 2)),(15,true,.c (.sl 7 0 j.val 10)),(27,true,.c (.sl 4 0 od.length 1)),(28,true,I od.length),(29,true,I i),(42,true,.c (.sl 11 0 b.c.ins.length 1)),(43,true,I b.c.ins.length),(44,true,I j.val)])
   (fun j=>[(2,⟨false,rowsC (rq.map rgR),45⟩),(3,⟨true,rowsC (st.map rgR),45⟩),(4,⟨true,od.map nC,3⟩),(6,⟨false,rowsC (((argR d.c rq b.c).take j.val).map rgR),45⟩),(7,⟨false,rowsC (((argT d.c b.c).take j.val).map ftR),43⟩),(11,⟨true,b.c.ins.map sC,9⟩),(13,⟨false,b.r.map .v,53⟩)]) (fun j=>b.c.ins.length-j.val) ⟨0,by omega⟩ (fun j=>ClM.of (by simp only[List.all_cons,inMV (rowsC_isV _),inMV (v_nC _),inMV (v_sC _),inMV (v_v _)];rfl)) (fun _=>ClE.of rfl) [(2,2),(3,3),(4,4),(6,140),(7,141),(11,11),(13,120)] ?_ ?_
  ·exact⟨rfl,⟨⟨rfl,rfl⟩,⟨rfl,rfl⟩,⟨rfl,rfl⟩,trivial⟩,⟨rfl,rfl,rfl,rfl,rfl,rfl,rfl,rfl,rfl,rfl,rfl,rfl,rfl,rfl,trivial⟩,⟨.inr ⟨_,rfl,.inl (renV (rowsC_isV _))⟩,.inr ⟨_,rfl,.inl (renV (rowsC_isV _))⟩,.inr ⟨_,rfl,.inl (renV (v_nC _))⟩,.inr ⟨_,rfl,.inl rfl⟩,.inr ⟨_,rfl,.inl rfl⟩,.inr ⟨_,rfl,.inl (renV (v_sC _))⟩,.inr ⟨_,rfl,.inl rfl⟩,trivial⟩⟩
  ·rintro⟨j,hj1⟩ J2 hj2
   simp only at hj2 hj1⊢
   refine Sm.go 150 ?_
   refine vv ?_
   refine mtch (fun hc2=>?_) (fun hc2=>?_)
   ·have hc2:=lt_of_dec hc2
    have hmi:b.c.ins[j]∈b.c.ins:=List.getElem_mem hc2
    simp(maxSteps:=2000000) only[go_sem,get_sC hc2]
    refine⟨⟨by omega,by omega⟩,?_⟩
    have ht:=htyn _ hmi
    have hsl:=hlt _ hmi
    have hra2:=hra _ hmi
    have htR:(argR d.c rq b.c).take (j+1)=(argR d.c rq b.c).take j++[rq.getD (sgN (sigs d.c) b.c.ins[j]) (0,0)]:=by rw[hAR,←List.map_take,←List.map_take,List.take_succ_eq_append_getElem hc2,List.map_append];rfl
    have htT:(argT d.c b.c).take (j+1)=(argT d.c b.c).take j++[tyAt d.c (sgN (sigs d.c) b.c.ins[j])]:=by rw[hAT,←List.map_take,←List.map_take,List.take_succ_eq_append_getElem hc2,List.map_append];rfl
    have hzR:(rowsC (((argR d.c rq b.c).take j).map rgR)).length=j*2:=by
     rw[rows_len (r:=rgR) (k:=2) (fun _=>rfl),hAR];simp;omega
    have hzT:(rowsC (((argT d.c b.c).take j).map ftR)).length=j*10:=by
     rw[rows_len (r:=ftR) (k:=10) (fun _=>rfl),hAT];simp;omega
    generalize b.c.ins[j]=s at*
    refine Sm.bringP 1 147 48 hpt rfl rfl (Sm.go 150 ?_)
    refine vv ?_
    refine Sm.opC 150 rfl rfl (.inl rfl) (fun _=>lkS1 (k.c.s.mono hH) rfl rfl rfl) ?_
    generalize hsn:sgN (sigs d.c) s=sn at*
    simp(maxSteps:=2000000) only[go_sem,hra2,hrz]
    have hapR:List.take (j*2) (rowsC (((argR d.c rq b.c).take j).map rgR))++[Cv.v (.int .i64 (rq.getD sn (0,0)).1),Cv.v (.int .i64 (rq.getD sn (0,0)).2)]=rowsC (((argR d.c rq b.c).take (j+1)).map rgR):=by
     rw[List.take_of_length_le (by omega),htR]
     simp only[rowsC,List.map_append,List.flatten_append,List.map_cons,List.map_nil,List.flatten_cons,List.flatten_nil,List.append_nil]
     rfl
    simp only[hapR,hzR]
    refine⟨⟨by omega,by omega⟩,by omega,⟨by omega,by omega,by omega⟩,?_⟩
    refine CallQ.h 160 ht hH rfl ?_
    generalize tyAt d.c sn=tt at*
    refine vv ?_
    have hapT:List.take (j*10) (rowsC (((argT d.c b.c).take j).map ftR))++ftC tt=rowsC (((argT d.c b.c).take (j+1)).map ftR):=by
     rw[List.take_of_length_le (by omega),htT]
     simp only[rowsC,List.map_append,List.flatten_append,List.map_cons,List.map_nil,List.flatten_cons,List.flatten_nil,List.append_nil]
     rfl
    simp only[hapT,hzT,wS (show j≤1000000000000000000 by omega)]
    refine⟨⟨by omega,by omega,by omega⟩,?_⟩
    exact hj2 _ _ ⟨j+1,hc2⟩ [(2,2),(3,3),(4,4),(6,151),(7,161),(11,11),(13,13)] (by simp only;omega) ⟨rfl,⟨⟨rfl,rfl⟩,⟨rfl,rfl⟩,⟨rfl,rfl⟩,trivial⟩,⟨rfl,rfl,rfl,rfl,rfl,rfl,rfl,rfl,rfl,rfl,rfl,rfl,rfl,rfl,trivial⟩,⟨.inr ⟨_,rfl,.inl (renV (rowsC_isV _))⟩,.inr ⟨_,rfl,.inl (renV (rowsC_isV _))⟩,.inr ⟨_,rfl,.inl (renV (v_nC _))⟩,.inr ⟨_,rfl,.inl (renV (rowsC_isV _))⟩,.inr ⟨_,rfl,.inl (renV (rowsC_isV _))⟩,.inr ⟨_,rfl,.inl (renV (v_sC _))⟩,.inr ⟨_,rfl,.inl rfl⟩,trivial⟩⟩
   ·have hc2:=eq_of_dec hj1 hc2
    subst hc2
    clear hj2
    have hlR:(argR d.c rq b.c).length=b.c.ins.length:=by rw[hAR,List.length_map]
    have hlT:(argT d.c b.c).length=b.c.ins.length:=by rw[hAT,List.length_map]
    have hbc:=block_ k b hbo hbk (argR d.c rq b.c) (argT d.c b.c) hlR hlT (st.getD o (0,0)) (T b.c (argR d.c rq b.c)) (fun h=>hTb h _ hlR)
    unfold BlkOk at hbc
    rw[hlR,hlT]at hbc
    rw[List.take_of_length_le (show(argR d.c rq b.c).length≤b.c.ins.length by omega),List.take_of_length_le (show(argT d.c b.c).length≤b.c.ins.length by omega)]
    have hvR:=rowsC_isV ((argR d.c rq b.c).map rgR)
    have hvT:=rowsC_isV ((argT d.c b.c).map ftR)
    generalize argR d.c rq b.c=ar at*
    generalize argT d.c b.c=at_ at*
    refine Sm.dg 160 14 mix ?_
    have hsa:=rgs_take st o (by omega)
    have hsz:=rows_len (r:=rgR) (k:=2) (fun _=>rfl) st
    simp(maxSteps:=2000000) only[go_sem,hsa,hsz]
    refine⟨by omega,by omega,?_⟩
    generalize blkR (tyN d.tys b.c.ty) b.c ar at_ (st.getD o (0,0)) (T b.c ar)=q at*
    refine DCallQ.hr [(1,6),(2,7)] 170 hbc hH (ClM.of (by unfold bkM;simp only[List.all_cons,inMV hvR,inMV hvT];rfl)) rfl rfl ⟨⟨_,rfl,wkV hvR⟩,⟨_,rfl,wkV hvT⟩,trivial⟩ rfl (.inl rfl) rfl rfl ?_
    refine vv ?_
    refine mtch (fun hq=>?_) (fun hq=>?_)
    ·have hq2:(q.2==0)=false:=by simpa[bne]using hq
     rw[hq2,cond_false]at hx
     rw[hx]at hR
     exact RetQ.of hR rfl scc rvv (sub_sh (SubS.sub ⟨⟨_,rfl,.inl rfl⟩,⟨_,rfl,.inl rfl⟩,⟨_,rfl,.inl rfl⟩,trivial⟩)) (clm_sh (hms _)) (ClV.of rfl)
    ·have hq2:(q.2==0)=true:=by simpa[bne]using hq
     have hdl:d.c.ins.length=d.ins.length:=rfl
     rw[hq2,cond_true,hdl]at hx
     have e1:IntKind.i64.wrap ((d.ins.length:Int)+(o:Int))=((d.ins.length+o:Nat):Int):=by rw[w64 (by omega) (by omega)];omega
     rw[e1,Int.toNat_natCast,rgs_set]
     refine⟨⟨by omega,by omega⟩,by omega,?_⟩
     simp only[wS (show i≤1000000000000000000 by omega)]
     refine Sm.go 180 ?_
     simp(maxSteps:=2000000) only[go_sem,wS (show i≤1000000000000000000 by omega)]
     exact hj _ _ ⟨(i+1,rq.set (d.ins.length+o) q.1),hc,by rw[List.length_set];exact hlq,hx⟩ [(2,2),(3,3),(4,4)] (by simp only;omega) ⟨rfl,⟨⟨rfl,rfl⟩,⟨rfl,rfl⟩,⟨rfl,rfl⟩,trivial⟩,⟨rfl,rfl,rfl,rfl,rfl,rfl,rfl,trivial⟩,⟨.inr ⟨_,rfl,.inl (renV (rowsC_isV _))⟩,.inr ⟨_,rfl,.inl (renV (rowsC_isV _))⟩,.inr ⟨_,rfl,.inl (renV (v_nC _))⟩,trivial⟩⟩
 ·have hc:=eq_of_dec hi hc
  rw[hc,List.drop_length,rndR]at hx
  rw[hx]at hR
  exact RetQ.of hR rfl scc rvv (sub_sh (SubS.sub ⟨⟨_,rfl,.inl rfl⟩,⟨_,rfl,.inl rfl⟩,⟨_,rfl,.inl rfl⟩,trivial⟩)) (clm_sh (hms _)) (ClV.of rfl)
end Go.Proofs.YtkciabfilokfiaaGreat.Fx
