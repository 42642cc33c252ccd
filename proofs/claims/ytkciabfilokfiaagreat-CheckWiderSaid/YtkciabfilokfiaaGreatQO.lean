/-  -/
import Derived.Test.YtkciabfilokfiaaGreatPS
import Derived.Test.YtkciabfilokfiaaGreatQN
namespace Go.Proofs.YtkciabfilokfiaaGreat.Fx
open Vg Tf
set_option linter.unusedSimpArgs false
set_option linter.unusedVariables false
set_option maxRecDepth 100000
set_option maxHeartbeats 4000000
theorem _root_.Go.Proofs.YtkciabfilokfiaaGreat.Vg.Stp.idxV {P:Program}{o:Oper}{e:Env}{M:Mem}{ty el:TypeId}{x i:Operand}{b off len c sz:Nat}{ki:IntKind}{k:Int}(ho:o.op= .indexAddr ty x i)(hx:rd e x=some (true,.c (.v (.slice (some ⟨b,off,none⟩) len c))))(hi:rd e i=some (true,.c (.v (.int ki k))))
  (hsl:slOf P ty=some (el,sz)) (h0:0≤k) (hlt:k<len):Stp P o e M (.c (.v (.pointer (some ⟨b,off+k.toNat*sz,none⟩)))) []:=by
 obtain⟨hu,hsz,hsz0⟩:=slOf_ok hsl
 exact Stp.pure fun β a hop w=>by
  have hex:=hop x (by simp[ho,Op.operands]) _ hx
  have hei:=hop i (by simp[ho,Op.operands]) _ hi
  simp only[gv,V.g,Cv.g,cond_true]at hex hei
  unfold execOp
  simp[ho,hex,hei,Instr.indexAt,asIntOf,run_underlying hu,h0,hlt,run_sizeOf' hsz hsz0,V.g,Cv.g,Addr.add_lit]
theorem _root_.Go.Proofs.YtkciabfilokfiaaGreat.Vg.SlH.at {H:Hp}{v:Value}{sz:Nat}{rows:List (List Value)}(h:SlH H v sz rows)(h0:rows.flatten≠[]):∃b o c,v= .slice (some ⟨b,o,none⟩) rows.length c∧∃cs el mk,H b (.cells cs el mk)∧∀i x,rows.flatten[i]?=some x→cs[o+i]?=some x:=by
 obtain⟨l,h1,h2,h3⟩:=h
 have hn:l.nul=false:=by
  cases hq:l.nul with
  |false=>rfl
  |true=>exact absurd (h3.1 hq) h0
 obtain⟨c,el,mk,q1,q2⟩:=h3.2.2 hn
 refine⟨l.blk,l.org,(l.siz-0)/sz,?_,c,el,mk,q1,q2⟩
 rw[h1]
 simp only[Cv.g,hn,Bool.false_eq_true,false_and,if_false,Nat.add_zero]
def delT:Str:=[100,101,108,97,121]
def lagT:Str:=[108,97,103]
def limT (t:Ft):Int×Int:=(bif fok t then flo t else 0,bif fok t then fhi t else 0)
def newB (d:Dg)(rs:List (Int×Int))(s:Int×Int)(i:Nat)(b:Bl):Int×Int:=
 bif b.kd==delT then hulR s (cnvR (rs.getD (sgN (sigs d) (b.ins.getD 0 [])) (0,0)) (tyAt d (sgN (sigs d) (b.ins.getD 0 []))) (tyN d.tys b.ty))
 else bif b.kd==lagT then rs.getD (d.ins.length+i) (0,0)else s
def newS (d:Dg)(rs:List (Int×Int))(s:Int×Int)(i:Nat):Int×Int:=newB d rs s i (d.bls.getD i bl0)
def eqR (a b:Int×Int):Bool:=a.1==b.1&&a.2==b.2
def kpR (d:Dg)(big:Bool)(rs:List (Int×Int)):List Nat→List (Int×Int)→Bool→List (Int×Int)×Bool
 |[],st,ch=>(st,ch)
 |i::l,st,ch=>bif eqR (newS d rs (st.getD i (0,0)) i) (st.getD i (0,0))then kpR d big rs l st ch
  else kpR d big rs l (st.set i (bif big then limT (tyN d.tys (d.bls.getD i bl0).ty)else newS d rs (st.getD i (0,0)) i)) true
def kpM (rs st:List (Int×Int)):Mem:=[(3,⟨false,rowsC (st.map rgR),45⟩),(2,⟨true,rowsC (rs.map rgR),45⟩)]
theorem keep_ {H:Hp}{cp:Value}{d:DgL}{bT bC' bM bS:Nat}(k:Ck H cp d bT bC' bM bS)(hok:∀b∈d.bls,blOk b.c=true)(hin:∀b∈d.bls,∀s∈b.c.ins,sgB (sigs d.c) s=true)
  (rs st:List (Int×Int)) (n:Int) (h1:rs.length=d.ins.length+d.bls.length) (h2:st.length=d.bls.length):
  CallX H Tryz.prog 110 [.c (.v cp),I n,.c (.sl 2 0 rs.length 2),.c (.sl 3 0 st.length 2)] (kpM rs st) (fun _:Unit=>Bo (kpR d.c (decide (8≤n)) rs (List.range d.bls.length) st false).2) (fun _=>[(3,⟨false,rowsC ((kpR d.c (decide (8≤n)) rs (List.range d.bls.length) st false).1.map rgR),45⟩)]) (fun _ _=>True):=by
 have hn1:=k.n1
 have hn2:=k.n2
 generalize hbig:decide (8≤n)=big
 obtain⟨b0,o0,rfl,c0,el0,mk0,hc0,hcc⟩:=PtH.at k.c.p
 unfold kpM
 refine CallX.mkS Tryz.func110 rfl en110 (by simp[Tryz.ntmps110]) (ClA.of rfl) (fun _=>rfl) (fun _=>rfl) fun C hR hP hH hL=>?_
 have hR:=hR () C hL trivial
 have hpt:=k.c.p.mono hH
 refine Sm.go 100 ?_
 refine vv ?_
 refine Sm.bringP 1 147 15 hpt rfl rfl (Sm.go 110 ?_)
 refine vv ?_
 refine Sm.bringP 6 147 21 hpt rfl rfl (Sm.go 110 ?_)
 refine vv ?_
 refine Sm.bringR 5 53 25 (k.o.bl.mono hH) rfl rfl ?_
 have hl2:(d.bls.map BlL.r).length=d.bls.length:=List.length_map _
 rw[hl2]
 have hms:∀r:List (Int×Int),ClM [(3,⟨false,rowsC (r.map rgR),45⟩),(2,⟨true,rowsC (rs.map rgR),45⟩),(5,⟨true,rowsC (d.bls.map BlL.r),53⟩)]:=fun r=>ClM.of (by simp only[List.all_cons,inMV (rowsC_isV _)];rfl)
 have hM':∀r:List (Int×Int),ClM [(3,⟨false,rowsC (r.map rgR),45⟩),(2,⟨true,rowsC (rs.map rgR),45⟩)]:=fun r=>ClM.of (by simp only[List.all_cons,inMV (rowsC_isV _)];rfl)
 have hM:ClM [(3,⟨false,rowsC (st.map rgR),45⟩),(2,⟨true,rowsC (rs.map rgR),45⟩)]:=ClM.of (by simp only[List.all_cons,inMV (rowsC_isV _)];rfl)
 refine Sm.loopM (M0:=[(3,⟨false,rowsC (st.map rgR),45⟩),(2,⟨true,rowsC (rs.map rgR),45⟩)]) (α:={q:Nat×List (Int×Int)×Bool//q.1≤d.bls.length∧q.2.1.length=st.length∧kpR d.c big rs (List.range d.bls.length) st false=kpR d.c big rs ((List.range d.bls.length).drop q.1) q.2.1 q.2.2}) hP (fun q=>[(0,true,.c (.v (.pointer (some ⟨b0,o0,none⟩)))),(1,true,I n),(2,true,.c (.sl 2 0 rs.length 2)),(3,true,.c (.sl 3 0 st.length 2)),(9,true,I d.ins.length),(10,true,Bo q.val.2.2),(25,true,.c (.sl 5 0 d.bls.length 6)),(26,true,I d.bls.length),(27,true,I q.val.1)])
  (fun q=>[(3,⟨false,rowsC (q.val.2.1.map rgR),45⟩),(2,⟨true,rowsC (rs.map rgR),45⟩),(5,⟨true,rowsC (d.bls.map BlL.r),53⟩)]) (fun q=>d.bls.length-q.val.1) ⟨(0,st,false),by omega,rfl,rfl⟩ (fun q=>hms q.val.2.1) (fun _=>ClE.of rfl) [(3,3),(2,2),(5,5)] ?_ ?_
 ·exact⟨rfl,⟨⟨rfl,rfl⟩,⟨rfl,rfl⟩,trivial⟩,⟨rfl,rfl,rfl,rfl,rfl,rfl,rfl,rfl,rfl,trivial⟩,⟨.inr ⟨_,rfl,.inl (renV (rowsC_isV _))⟩,.inr ⟨_,rfl,.inl (renV (rowsC_isV _))⟩,.inr ⟨_,rfl,.inl (renV (rowsC_isV _))⟩,trivial⟩⟩
 rintro⟨⟨i,sq,ch⟩,hi,hlq,hx⟩ J hj
 simp only at hj hi hx hlq⊢
 refine Sm.go 120 ?_
 refine vv ?_
 refine mtch (fun hc=>?_) (fun hc=>?_)
 ·have hc:=lt_of_dec hc
  have htk:=rows_take (r:=BlL.r) (k:=6) (fun _=>rfl) d.bls i hc
  have hz5:=rows_len (r:=BlL.r) (k:=6) (fun _=>rfl) d.bls
  have hsa:=rgs_take sq i (by omega)
  have hsz:=rows_len (r:=rgR) (k:=2) (fun _=>rfl) sq
  have hmem:d.bls[i]∈d.bls:=List.getElem_mem hc
  have hbo:=k.o.bls _ hmem
  have hbk:=hok _ hmem
  have hbi:=hin _ hmem
  have hgd:d.c.bls.getD i bl0=d.bls[i].c:=by
   show(d.bls.map BlL.c).getD i bl0=_
   rw[List.getD_eq_getElem?_getD,List.getElem?_map,List.getElem?_eq_getElem hc];rfl
  have hdr:(List.range d.bls.length).drop i=i::(List.range d.bls.length).drop (i+1):=by
   rw[List.drop_eq_getElem_cons (by simpa using hc)];simp
  rw[hdr,kpR]at hx
  unfold newS at hx
  rw[hgd]at hx
  generalize d.bls[i]=b at*
  simp(maxSteps:=2000000) only[go_sem,htk,hz5,hsa,hsz]
  refine⟨⟨by omega,by omega⟩,by omega,⟨by omega,by omega⟩,by omega,?_⟩
  refine mtch (fun hd=>?_) (fun hd=>?_)
  ·have hd:(b.c.kd==delT)=true:=hd
   have hnb:newB d.c rs (sq.getD i (0,0)) i b.c=hulR (sq.getD i (0,0)) (cnvR (rs.getD (sgN (sigs d.c) (b.c.ins.getD 0 [])) (0,0)) (tyAt d.c (sgN (sigs d.c) (b.c.ins.getD 0 []))) (tyN d.c.tys b.c.ty)):=by unfold newB;rw[hd];rfl
   rw[hnb]at hx
   obtain⟨s0,hs0⟩:=ln1 (blOk_ks hbk hd (by rfl)).1
   obtain⟨bi,oi,ci',hi1,csi,eli,mki,hci,hcci⟩:=hbo.i.at (by rw[hs0];simp[strsR])
   have hio:b.i.o=some ⟨bi,oi,none⟩:=by injection hi1
   have hl1:b.c.ins.length=1:=by rw[hs0];rfl
   rw[hs0]at hx
   have hsb:=hbi s0 (by rw[hs0];simp)
   have hx0:csi[oi+0]?=some (sv s0):=hcci 0 _ (by rw[hs0];rfl)
   refine Sm.dg 130 8 mix ?_
   simp(maxSteps:=2000000) only[go_sem,hio]
   refine DOpQ.own 130 (Stp.nilV rfl rfl) ?_
   refine vv ?_
   refine DOpQ.own 130 (Stp.fldV rfl rfl rfl) ?_
   refine vv ?_
   refine DOpQ.ownC 130 (fun _=>StpC.ldH (hH _ _ hc0) (hcc 10 _ rfl) rfl rfl rfl) ?_
   refine vv ?_
   refine DOpQ.own 130 (Stp.idxV rfl rfl rfl rfl (by omega) (by omega)) ?_
   refine vv ?_
   refine DOpQ.ownC 130 (fun _=>StpC.ldH (hH _ _ hci) hx0 rfl rfl rfl) ?_
   refine vv ?_
   refine Sm.opC 130 rfl rfl (.inl rfl) (fun _=>lkS1 (k.c.s.mono hH) rfl rfl rfl) ?_
   have ht:=typeOf_ k (sgN (sigs d.c) s0) (sgN_lt hsb)
   have hsl:=sgN_lt hsb
   have hra:=rgs_take rs (sgN (sigs d.c) s0) (by omega)
   have hrz:=rows_len (r:=rgR) (k:=2) (fun _=>rfl) rs
   have hx:kpR d.c big rs (List.range d.bls.length) st false=_:=hx
   simp only[List.getD_cons_zero]at hx
   generalize sgN (sigs d.c) s0=sn at*
   refine vv ?_
   refine Sm.dg 140 16 mix ?_
   simp(maxSteps:=2000000) only[go_sem,hra,hrz]
   refine⟨⟨by omega,by omega⟩,by omega,?_⟩
   refine DCallQ.h 150 (fun _=>ht) hH (fun _=>rfl) ?_
   refine vv ?_
   refine DOpQ.own 150 (Stp.nilV rfl rfl) ?_
   refine vv ?_
   refine DOpQ.own 150 (Stp.fldV rfl rfl rfl) ?_
   refine vv ?_
   refine DOpQ.ownC 150 (fun _=>StpC.ldH (hH _ _ hc0) (hcc 7 _ rfl) rfl rfl rfl) ?_
   refine vv ?_
   refine DOpQ.ownC 150 (fun _=>lkT1 (k.c.t.mono hH) rfl rfl rfl) ?_
   refine vv ?_
   refine DCallQ.pure 150 (converted_ (rs.getD sn (0,0)) (tyAt d.c sn) (tyN d.tys b.c.ty)) rfl ?_
   refine vv ?_
   refine CallQ.pure 150 (hull_ (sq.getD i (0,0)) (cnvR (rs.getD sn (0,0)) (tyAt d.c sn) (tyN d.tys b.c.ty))) rfl ?_
   generalize hww:hulR (sq.getD i (0,0)) (cnvR (rs.getD sn (0,0)) (tyAt d.c sn) (tyN d.tys b.c.ty))=w
   have hww2:hulR (sq.getD i (0,0)) (cnvR (rs.getD sn (0,0)) (tyAt d.c sn) (tyN d.c.tys b.c.ty))=w:=hww
   rw[hww2]at hx
   refine vv ?_
   refine Sm.dg 140 5 mix ?_
   simp(maxSteps:=2000000) only[go_sem,hsa,hsz]
   refine⟨by omega,by omega,?_⟩
   refine mtch (fun he=>?_) (fun he=>?_)
   ·have he2:eqR w (sq.getD i (0,0))=true:=he
    rw[he2,cond_true]at hx
    refine Sm.go 150 ?_
    simp(maxSteps:=2000000) only[go_sem,wS (show i≤1000000000000000000 by omega)]
    exact hj _ _ ⟨(i+1,sq,ch),hc,hlq,hx⟩ [(3,3),(2,2),(5,5)] (by simp only;omega) ⟨rfl,⟨⟨rfl,rfl⟩,⟨rfl,rfl⟩,trivial⟩,⟨rfl,rfl,rfl,rfl,rfl,rfl,rfl,rfl,rfl,trivial⟩,⟨.inr ⟨_,rfl,.inl (renV (rowsC_isV _))⟩,.inr ⟨_,rfl,.inl (renV (rowsC_isV _))⟩,.inr ⟨_,rfl,.inl (renV (rowsC_isV _))⟩,trivial⟩⟩
   ·have he2:eqR w (sq.getD i (0,0))=false:=he
    rw[he2,cond_false]at hx
    refine mtch (fun hb8=>?_) (fun hb8=>?_)
    ·have hbt:big=true:=by rw[←hbig];exact hb8
     rw[hbt,cond_true]at hx
     rw[hbt]at hj hR
     refine Sm.dgW [121] 160 13 mix ?_
     refine vv ?_
     refine DOpQ.own 160 (Stp.nilV rfl rfl) ?_
     refine vv ?_
     refine DOpQ.own 160 (Stp.fldV rfl rfl rfl) ?_
     refine vv ?_
     refine DOpQ.ownC 160 (fun _=>StpC.ldH (hH _ _ hc0) (hcc 7 _ rfl) rfl rfl rfl) ?_
     refine vv ?_
     refine DOpQ.ownC 160 (fun _=>lkT1 (k.c.t.mono hH) rfl rfl rfl) ?_
     refine vv ?_
     refine DCallQ.pure 165 (lims (tyN d.tys b.c.ty)) rfl ?_
     refine vv ?_
     have hls:=rgs_set sq i (limT (tyN d.tys b.c.ty))
     simp only[limT]at hls
     rw[hls]
     refine⟨⟨by omega,by omega⟩,by omega,?_⟩
     refine Sm.go 170 ?_
     simp(maxSteps:=2000000) only[go_sem,wS (show i≤1000000000000000000 by omega)]
     exact hj _ _ ⟨(i+1,sq.set i (limT (tyN d.tys b.c.ty)),true),hc,by rw[List.length_set];exact hlq,hx⟩ [(3,3),(2,2),(5,5)] (by simp only;omega) ⟨rfl,⟨⟨rfl,rfl⟩,⟨rfl,rfl⟩,trivial⟩,⟨rfl,rfl,rfl,rfl,rfl,rfl,rfl,rfl,rfl,trivial⟩,⟨.inr ⟨_,rfl,.inl (renV (rowsC_isV _))⟩,.inr ⟨_,rfl,.inl (renV (rowsC_isV _))⟩,.inr ⟨_,rfl,.inl (renV (rowsC_isV _))⟩,trivial⟩⟩
    ·have hbf:big=false:=by rw[←hbig];exact hb8
     rw[hbf,cond_false]at hx
     rw[hbf]at hj hR
     rw[rgs_set]
     refine⟨⟨by omega,by omega⟩,by omega,?_⟩
     refine Sm.go 170 ?_
     simp(maxSteps:=2000000) only[go_sem,wS (show i≤1000000000000000000 by omega)]
     exact hj _ _ ⟨(i+1,sq.set i w,true),hc,by rw[List.length_set];exact hlq,hx⟩ [(3,3),(2,2),(5,5)] (by simp only;omega) ⟨rfl,⟨⟨rfl,rfl⟩,⟨rfl,rfl⟩,trivial⟩,⟨rfl,rfl,rfl,rfl,rfl,rfl,rfl,rfl,rfl,trivial⟩,⟨.inr ⟨_,rfl,.inl (renV (rowsC_isV _))⟩,.inr ⟨_,rfl,.inl (renV (rowsC_isV _))⟩,.inr ⟨_,rfl,.inl (renV (rowsC_isV _))⟩,trivial⟩⟩
  have hd:(b.c.kd==delT)=false:=hd
  refine mtch (fun hg=>?_) (fun hg=>?_)
  ·have hg:(b.c.kd==lagT)=true:=hg
   have hnb:newB d.c rs (sq.getD i (0,0)) i b.c=rs.getD (d.ins.length+i) (0,0):=by unfold newB;rw[hd,hg];rfl
   rw[hnb]at hx
   have e1:IntKind.i64.wrap ((d.ins.length:Int)+(i:Int))=((d.ins.length+i:Nat):Int):=by rw[w64 (by omega) (by omega)];omega
   have hra:=rgs_take rs (d.ins.length+i) (by omega)
   have hrz:=rows_len (r:=rgR) (k:=2) (fun _=>rfl) rs
   simp only[e1,Int.toNat_natCast,hra,hrz]
   refine⟨⟨by omega,by omega⟩,by omega,⟨rfl,rfl⟩,?_⟩
   refine Sm.dg 140 5 mix ?_
   simp(maxSteps:=2000000) only[go_sem,hsa,hsz]
   refine⟨by omega,by omega,?_⟩
   refine mtch (fun he=>?_) (fun he=>?_)
   ·have he2:eqR (rs.getD (d.ins.length+i) (0,0)) (sq.getD i (0,0))=true:=he
    rw[he2,cond_true]at hx
    refine Sm.go 150 ?_
    simp(maxSteps:=2000000) only[go_sem,wS (show i≤1000000000000000000 by omega)]
    exact hj _ _ ⟨(i+1,sq,ch),hc,hlq,hx⟩ [(3,3),(2,2),(5,5)] (by simp only;omega) ⟨rfl,⟨⟨rfl,rfl⟩,⟨rfl,rfl⟩,trivial⟩,⟨rfl,rfl,rfl,rfl,rfl,rfl,rfl,rfl,rfl,trivial⟩,⟨.inr ⟨_,rfl,.inl (renV (rowsC_isV _))⟩,.inr ⟨_,rfl,.inl (renV (rowsC_isV _))⟩,.inr ⟨_,rfl,.inl (renV (rowsC_isV _))⟩,trivial⟩⟩
   ·have he2:eqR (rs.getD (d.ins.length+i) (0,0)) (sq.getD i (0,0))=false:=he
    rw[he2,cond_false]at hx
    refine mtch (fun hb8=>?_) (fun hb8=>?_)
    ·have hbt:big=true:=by rw[←hbig];exact hb8
     rw[hbt,cond_true]at hx
     rw[hbt]at hj hR
     refine Sm.dgW [121] 160 13 mix ?_
     refine vv ?_
     refine DOpQ.own 160 (Stp.nilV rfl rfl) ?_
     refine vv ?_
     refine DOpQ.own 160 (Stp.fldV rfl rfl rfl) ?_
     refine vv ?_
     refine DOpQ.ownC 160 (fun _=>StpC.ldH (hH _ _ hc0) (hcc 7 _ rfl) rfl rfl rfl) ?_
     refine vv ?_
     refine DOpQ.ownC 160 (fun _=>lkT1 (k.c.t.mono hH) rfl rfl rfl) ?_
     refine vv ?_
     refine DCallQ.pure 165 (lims (tyN d.tys b.c.ty)) rfl ?_
     refine vv ?_
     have hls:=rgs_set sq i (limT (tyN d.tys b.c.ty))
     simp only[limT]at hls
     rw[hls]
     refine⟨⟨by omega,by omega⟩,by omega,?_⟩
     refine Sm.go 170 ?_
     simp(maxSteps:=2000000) only[go_sem,wS (show i≤1000000000000000000 by omega)]
     exact hj _ _ ⟨(i+1,sq.set i (limT (tyN d.tys b.c.ty)),true),hc,by rw[List.length_set];exact hlq,hx⟩ [(3,3),(2,2),(5,5)] (by simp only;omega) ⟨rfl,⟨⟨rfl,rfl⟩,⟨rfl,rfl⟩,trivial⟩,⟨rfl,rfl,rfl,rfl,rfl,rfl,rfl,rfl,rfl,trivial⟩,⟨.inr ⟨_,rfl,.inl (renV (rowsC_isV _))⟩,.inr ⟨_,rfl,.inl (renV (rowsC_isV _))⟩,.inr ⟨_,rfl,.inl (renV (rowsC_isV _))⟩,trivial⟩⟩
    ·have hbf:big=false:=by rw[←hbig];exact hb8
     rw[hbf,cond_false]at hx
     rw[hbf]at hj hR
     rw[rgs_set]
     refine⟨⟨by omega,by omega⟩,by omega,?_⟩
     refine Sm.go 170 ?_
     simp(maxSteps:=2000000) only[go_sem,wS (show i≤1000000000000000000 by omega)]
     exact hj _ _ ⟨(i+1,sq.set i (rs.getD (d.ins.length+i) (0,0)),true),hc,by rw[List.length_set];exact hlq,hx⟩ [(3,3),(2,2),(5,5)] (by simp only;omega) ⟨rfl,⟨⟨rfl,rfl⟩,⟨rfl,rfl⟩,trivial⟩,⟨rfl,rfl,rfl,rfl,rfl,rfl,rfl,rfl,rfl,trivial⟩,⟨.inr ⟨_,rfl,.inl (renV (rowsC_isV _))⟩,.inr ⟨_,rfl,.inl (renV (rowsC_isV _))⟩,.inr ⟨_,rfl,.inl (renV (rowsC_isV _))⟩,trivial⟩⟩
  ·have hg:(b.c.kd==lagT)=false:=hg
   have hnb:newB d.c rs (sq.getD i (0,0)) i b.c=sq.getD i (0,0):=by unfold newB;rw[hd,hg];rfl
   rw[hnb]at hx
   refine Sm.dg 140 5 mix ?_
   simp(maxSteps:=2000000) only[go_sem,hsa,hsz]
   refine⟨by omega,by omega,?_⟩
   have he2:eqR (sq.getD i (0,0)) (sq.getD i (0,0))=true:=by simp[eqR]
   rw[he2,cond_true]at hx
   refine Sm.go 150 ?_
   simp(maxSteps:=2000000) only[go_sem,wS (show i≤1000000000000000000 by omega)]
   exact hj _ _ ⟨(i+1,sq,ch),hc,hlq,hx⟩ [(3,3),(2,2),(5,5)] (by simp only;omega) ⟨rfl,⟨⟨rfl,rfl⟩,⟨rfl,rfl⟩,trivial⟩,⟨rfl,rfl,rfl,rfl,rfl,rfl,rfl,rfl,rfl,trivial⟩,⟨.inr ⟨_,rfl,.inl (renV (rowsC_isV _))⟩,.inr ⟨_,rfl,.inl (renV (rowsC_isV _))⟩,.inr ⟨_,rfl,.inl (renV (rowsC_isV _))⟩,trivial⟩⟩
 ·have hc:=eq_of_dec hi hc
  rw[hc,List.drop_of_length_le (by simp),kpR]at hx
  rw[hx]at hR
  exact RetQ.of hR rfl scc rvv (sub_sh (SubS.sub ⟨⟨_,rfl,.inl rfl⟩,⟨_,rfl,.inl rfl⟩,trivial⟩)) (clm_sh (hM' _)) (ClV.of rfl)
end Go.Proofs.YtkciabfilokfiaaGreat.Fx
