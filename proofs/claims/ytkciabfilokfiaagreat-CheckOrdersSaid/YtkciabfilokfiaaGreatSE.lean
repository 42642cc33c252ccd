/-  -/
import Derived.Test.YtkciabfilokfiaaGreatPS
import Derived.Test.YtkciabfilokfiaaGreatSD
namespace Go.Proofs.YtkciabfilokfiaaGreat.Fx
open Vg Tf
set_option linter.unusedSimpArgs false
set_option linter.unusedVariables false
set_option maxRecDepth 100000
set_option maxHeartbeats 4000000
theorem rreach_ {H:Hp}(d:DgL)(hd:d.ok H)(h1:d.ins.length≤1000000)(h2:d.bls.length≤1000000)(hlI:∀b∈d.bls,b.c.ins.length≤1000000)(hin:∀b∈d.bls,∀s∈b.c.ins,sgB (sigs d.c) s=true)(f:Nat)(hf:f<d.bls.length):
  CallX H Tryz.prog 132 [.agg (dvs d),I f] (dmm d) (fun _:Unit=> .c (.sl 1 0 d.bls.length 1)) (fun _=>[(1,⟨false,(rchL (befB d.c) d.bls.length f).map bC,4⟩)]) (fun _ _=>True):=by
 have z5:=rows_len (r:=BlL.r) (k:=6) (fun _=>rfl) d.bls
 have hBl:=befB_lt d
 refine CallX.mkS Tryz.func132 rfl en132 (by simp[Tryz.ntmps132]) (ClA.of rfl) (fun _=>rfl) (fun _=>rfl) fun C hR hP hH hL=>?_
 have hR:=hR () C hL trivial
 refine Sm.go 100 ?_
 simp(maxSteps:=2000000) only[go_sem,rep_bC,reps_bool]
 refine⟨⟨by omega,by omega,by omega⟩,?_⟩
 generalize hB:befB d.c=B at*
 let Mm:List Bool→Mem:=fun s=>(2,⟨false,dvs d,29⟩)::(1,⟨false,s.map bC,4⟩)::dmm d
 have hcl:∀s,ClM (Mm s):=fun s=>ClM.of (by simp only[Mm,List.all_cons,inMV (v_bC _),inMV (rowsC_isV _)];rfl)
 refine Sm.loopM (M0:=dmm d) (α:={x:List Bool×Bool//x.1.length=d.bls.length∧Snd B f x.1∧(x.2=false→∀i,i<d.bls.length→∀k∈B i,hitB x.1 f k=true→x.1.getD i false=true)}) hP (fun x=>[(1,true,I f),(2,true,.c (.p 2 0)),(5,true,I d.ins.length),(6,true,.c (.sl 1 0 d.bls.length 1)),(7,true,Bo x.val.2)])
  (fun x=>Mm x.val.1) (fun x=>bif x.val.2 then fre x.val.1+1 else 0) ⟨(List.replicate d.bls.length false,true),by simp,fun i h=>(by rw[List.getD_eq_getElem?_getD,List.getElem?_replicate]at h;split at h<;>cases h),fun h=>(by cases h)⟩ (fun _=>hcl _) (fun _=>ClE.of rfl) [(2,100),(1,101),(4,4),(5,5)] ?_ ?_
 ·exact⟨rfl,⟨⟨rfl,rfl⟩,⟨rfl,rfl⟩,trivial⟩,⟨rfl,rfl,rfl,rfl,rfl,trivial⟩,⟨.inr ⟨_,rfl,.inl rfl⟩,.inr ⟨_,rfl,.inl (renV (v_bC _))⟩,.inr ⟨_,rfl,.inl (renV (rowsC_isV _))⟩,.inr ⟨_,rfl,.inl (renV (rowsC_isV _))⟩,trivial⟩⟩
 rintro⟨⟨s0,ag0⟩,hl0,hs0,hc0⟩ J hj
 simp only at hj hl0 hs0 hc0⊢
 refine Sm.go 150 ?_
 cases ag0 with
 |false=>
  simp(maxSteps:=2000000) only[go_sem,Mm]
  have hfin:=rch_done hBl hl0 hs0 (hc0 rfl)
  rw[←hfin]at hR
  exact RetQ.ren [(1,1),(4,4),(5,5)] hR hP rfl scc rfl rfl ⟨⟨rfl,rfl⟩,⟨rfl,rfl⟩,trivial⟩ ⟨.inr ⟨_,rfl,.inl (renV (v_bC _))⟩,.inr ⟨_,rfl,.inl (renV (rowsC_isV _))⟩,.inr ⟨_,rfl,.inl (renV (rowsC_isV _))⟩,trivial⟩ (ClM.of (by simp only[List.cons_append,List.nil_append,List.all_cons,inMV (v_bC _),inMV (rowsC_isV _)];rfl)) (ClV.of rfl)
 |true=>
 simp(maxSteps:=2000000) only[go_sem,Mm]
 refine Sm.loopM (M0:=dmm d) (α:={x:Nat×List Bool×Bool//x.1≤d.bls.length∧x.2.1.length=d.bls.length∧Snd B f x.2.1∧pasR B f (List.range d.bls.length) (s0,false)=pasR B f ((List.range d.bls.length).drop x.1) x.2}) hP (fun x=>[(1,true,I f),(2,true,.c (.p 2 0)),(5,true,I d.ins.length),(6,true,.c (.sl 1 0 d.bls.length 1)),(7,true,Bo x.val.2.2),(8,true,I x.val.1)])
  (fun x=>Mm x.val.2.1) (fun x=>d.bls.length-x.val.1) ⟨(0,s0,false),by omega,hl0,hs0,rfl⟩ (fun _=>hcl _) (fun _=>ClE.of rfl) [(2,2),(1,1),(4,4),(5,5)] ?_ ?_
 ·exact⟨rfl,⟨⟨rfl,rfl⟩,⟨rfl,rfl⟩,trivial⟩,⟨rfl,rfl,rfl,rfl,rfl,rfl,trivial⟩,⟨.inr ⟨_,rfl,.inl rfl⟩,.inr ⟨_,rfl,.inl (renV (v_bC _))⟩,.inr ⟨_,rfl,.inl (renV (rowsC_isV _))⟩,.inr ⟨_,rfl,.inl (renV (rowsC_isV _))⟩,trivial⟩⟩
 rintro⟨⟨i,s,ag⟩,hi,hls,hss,hx⟩ J2 hj2
 simp only at hj2 hi hls hss hx⊢
 refine Sm.go 160 ?_
 simp(maxSteps:=2000000) only[go_sem,Mm]
 refine mtch (fun hc=>?_) (fun hc=>?_)
 ·have hc:=lt_of_dec hc
  have hg:(s.map bC)[i]?=some (bC (s.getD i false)):=get_bC (by omega)
  have f1:=rows_one (r:=BlL.r) (k:=6) (fun _=>rfl) d.bls i 1 hc (by omega)
  have f3:=rows_one (r:=BlL.r) (k:=6) (fun _=>rfl) d.bls i 3 hc (by omega)
  have hmem:d.bls[i]∈d.bls:=List.getElem_mem hc
  have hbo:=hd.bls _ hmem
  have hbl:=hlI _ hmem
  have hbi:=hin _ hmem
  have hnd:B i=need (sigs d.c) d.ins.length d.bls[i].c:=by rw[←hB];exact befB_get hc
  have hslt:=sigs_len d
  have hdr:(List.range d.bls.length).drop i=i::(List.range d.bls.length).drop (i+1):=by
   rw[List.drop_eq_getElem_cons (by simpa using hc)];simp
  rw[hdr,pasR]at hx
  obtain⟨n1,n2,_⟩:=stpI_ok (f:=f) hc (s,ag) hls hss
  have hst:stpI B f i (s,ag)=bif !s.getD i false&&(B i).any (hitB s f)then(s.set i true,true)else(s,ag):=rfl
  generalize d.bls[i]=b at*
  simp(maxSteps:=2000000) only[go_sem,hg,f1,f3,BlL.r,List.getElem?_cons_zero,List.getElem?_cons_succ,Option.map_some]
  have hskip:∀x,stpI B f i (s,ag)=x→x=(s,ag)→∀J':Prop,J'=J':=fun _ _ _ _=>rfl
  clear hskip
  refine⟨⟨by omega,by omega⟩,fun h=>⟨h,h,by omega,by omega⟩,?_⟩
  cases hsi:s.getD i false with
  |true=>
   rw[hsi]at hst
   have hst:stpI B f i (s,ag)=(s,ag):=hst
   rw[hst]at hx
   simp(maxSteps:=2000000) only[go_sem,wS (show i≤1000000000000000000 by omega)]
   exact hj2 _ _ ⟨(i+1,s,ag),hc,hls,hss,hx⟩ [(2,2),(1,1),(4,4),(5,5)] (by simp only;omega) ⟨rfl,⟨⟨rfl,rfl⟩,⟨rfl,rfl⟩,trivial⟩,⟨rfl,rfl,rfl,rfl,rfl,rfl,trivial⟩,⟨.inr ⟨_,rfl,.inl rfl⟩,.inr ⟨_,rfl,.inl (renV (v_bC _))⟩,.inr ⟨_,rfl,.inl (renV (rowsC_isV _))⟩,.inr ⟨_,rfl,.inl (renV (rowsC_isV _))⟩,trivial⟩⟩
  |false=>
  rw[hsi]at hst
  refine vv ?_
  refine mtch (fun hkd=>?_) (fun hkd=>?_)
  ·have hkd:(b.c.kd==delS)=true:=hkd
   have hBi:B i=[]:=by rw[hnd];unfold need;rw[if_pos hkd]
   rw[hBi]at hst
   have hst:stpI B f i (s,ag)=(s,ag):=hst
   rw[hst]at hx
   simp(maxSteps:=2000000) only[go_sem,wS (show i≤1000000000000000000 by omega)]
   exact hj2 _ _ ⟨(i+1,s,ag),hc,hls,hss,hx⟩ [(2,2),(1,1),(4,4),(5,5)] (by simp only;omega) ⟨rfl,⟨⟨rfl,rfl⟩,⟨rfl,rfl⟩,trivial⟩,⟨rfl,rfl,rfl,rfl,rfl,rfl,trivial⟩,⟨.inr ⟨_,rfl,.inl rfl⟩,.inr ⟨_,rfl,.inl (renV (v_bC _))⟩,.inr ⟨_,rfl,.inl (renV (rowsC_isV _))⟩,.inr ⟨_,rfl,.inl (renV (rowsC_isV _))⟩,trivial⟩⟩
  have hkd:(b.c.kd==delS)=false:=hkd
  have hBi:B i=ndK (sigs d.c) d.ins.length b.c.ins b.c.ins.length:=by rw[hnd];unfold need ndK;rw[if_neg (by rw[hkd];simp),List.take_length]
  have hst:stpI B f i (s,ag)=bif (B i).any (hitB s f)then(s.set i true,true)else(s,ag):=by rw[hst];rfl
  refine Sm.loopM (M0:=dmm d) (α:={k:Nat//k≤b.c.ins.length}) hP (fun k=>[(1,true,I f),(2,true,.c (.p 2 0)),(5,true,I d.ins.length),(6,true,.c (.sl 1 0 d.bls.length 1)),(7,true,Bo (bif (ndK (sigs d.c) d.ins.length b.c.ins k.val).any (hitB s f)then true else ag)),(8,true,I i),(9,true,I k.val)])
   (fun k=>Mm (bif (ndK (sigs d.c) d.ins.length b.c.ins k.val).any (hitB s f)then s.set i true else s)) (fun k=>b.c.ins.length-k.val) ⟨0,by omega⟩ (fun _=>hcl _) (fun _=>ClE.of rfl) [(2,2),(1,1),(4,4),(5,5)] ?_ ?_
  ·exact⟨rfl,⟨⟨rfl,rfl⟩,⟨rfl,rfl⟩,trivial⟩,⟨rfl,rfl,rfl,rfl,rfl,rfl,rfl,trivial⟩,⟨.inr ⟨_,rfl,.inl rfl⟩,.inr ⟨_,rfl,.inl (renV (v_bC _))⟩,.inr ⟨_,rfl,.inl (renV (rowsC_isV _))⟩,.inr ⟨_,rfl,.inl (renV (rowsC_isV _))⟩,trivial⟩⟩
  rintro⟨k,hk⟩ J3 hj3
  simp only at hj3 hk⊢
  refine Sm.go 170 ?_
  simp(maxSteps:=2000000) only[go_sem,Mm,f1,f3,BlL.r,List.getElem?_cons_zero,List.getElem?_cons_succ,Option.map_some]
  refine⟨⟨by omega,by omega⟩,?_⟩
  refine mtch (fun hk2=>?_) (fun hk2=>?_)
  ·have hk2:=lt_of_dec hk2
   obtain⟨bi,oi,ci',hi1,csi,eli,mki,hci,hcci⟩:=hbo.i.at (by
    intro h0
    have:=congrArg List.length h0
    rw[strs_fl,List.length_map]at this
    simp at this;rw[this]at hk2;simp at hk2)
   have hio:b.i.o=some ⟨bi,oi,none⟩:=by injection hi1
   have hx0:csi[oi+k]?=some (sv b.c.ins[k]):=hcci k _ (by rw[strs_fl];simp[hk2])
   have hsb:=hbi b.c.ins[k] (List.getElem_mem hk2)
   have hfe:=fnd_eq hsb
   have hsl:=sgN_lt hsb
   have hsu:=ndK_succ (sigs d.c) d.ins.length b.c.ins k hk2
   have hfd:=find_ d b.c.ins[k] (by omega) (by omega)
   refine Sm.dg 180 12 mix ?_
   simp(maxSteps:=2000000) only[go_sem,f3,BlL.r,List.getElem?_cons_zero,List.getElem?_cons_succ,Option.map_some,hio]
   refine⟨⟨by omega,by omega⟩,?_⟩
   refine DOpQ.own 180 (Stp.idxV rfl rfl rfl sl27 (by omega) (by omega)) ?_
   refine vv ?_
   refine DOpQ.ownC 180 (fun _=>StpC.ldH (hH _ _ hci) hx0 rfl rfl rfl) ?_
   refine vv ?_
   refine DCallQ.ren [(4,4),(5,5)] 190 hfd (dmm_cl d) rfl rfl ⟨⟨_,rfl,.inl (renV (rowsC_isV _))⟩,⟨_,rfl,.inl (renV (rowsC_isV _))⟩,trivial⟩ rfl (.inr rfl) rfl rfl ?_
   rw[hfe]
   generalize hsq:sgN (sigs d.c) b.c.ins[k]=sq at*
   have hnn:nee1 (sigs d.c) d.ins.length b.c.ins[k]=if d.ins.length≤sq then[sq-d.ins.length]else[]:=by unfold nee1;rw[hsq]
   have w0:IntKind.i64.wrap ((sq:Int)-(d.ins.length:Int))=(sq:Int)-(d.ins.length:Int):=by rw[w64 (by omega) (by omega)]
   simp(maxSteps:=2000000) only[go_sem,w0]
   have hskl:(bif (ndK (sigs d.c) d.ins.length b.c.ins k).any (hitB s f)then s.set i true else s).length=d.bls.length:=by
    cases (ndK (sigs d.c) d.ins.length b.c.ins k).any (hitB s f)
    ·exact hls
    ·exact(List.length_set ..).trans hls
   generalize hsk:(bif (ndK (sigs d.c) d.ins.length b.c.ins k).any (hitB s f)then s.set i true else s)=sk at*
   generalize hak:(bif (ndK (sigs d.c) d.ins.length b.c.ins k).any (hitB s f)then true else ag)=ak at*
   have hok:∀z,(ndK (sigs d.c) d.ins.length b.c.ins (k+1)).any (hitB s f)=((ndK (sigs d.c) d.ins.length b.c.ins k).any (hitB s f)||z)→z=false→
     (bif (ndK (sigs d.c) d.ins.length b.c.ins (k+1)).any (hitB s f)then s.set i true else s)=sk∧(bif (ndK (sigs d.c) d.ins.length b.c.ins (k+1)).any (hitB s f)then true else ag)=ak:=fun z h hz=>by
    subst hz
    rw[h,Bool.or_false,hsk,hak]
    exact⟨rfl,rfl⟩
   rcases Nat.lt_or_ge sq d.ins.length with hlt3|hge3
   ·have e1:((sq:Int)-(d.ins.length:Int)==(f:Int))=false:=by
     rw[beq_eq_false_iff_ne];omega
    have e2:decide (0≤(sq:Int)-(d.ins.length:Int))=false:=decide_eq_false (by omega)
    have e3:((sq:Int)-(d.ins.length:Int)).toNat=0:=by omega
    have g0:(sk.map bC)[0]?=some (bC (sk.getD 0 false)):=get_bC (by omega)
    rw[if_neg (by omega)]at hnn
    rw[hnn,List.append_nil]at hsu
    obtain⟨q1,q2⟩:=hok false (by rw[hsu,Bool.or_false]) rfl
    simp(maxSteps:=2000000) only[go_sem,e1,e2,e3,g0,wS (show k≤1000000000000000000 by omega)]
    refine hj3 _ _ ⟨k+1,hk2⟩ [(2,2),(1,1),(4,4),(5,5)] (by simp only;omega) ?_
    rw[q1,q2]
    exact⟨rfl,⟨⟨rfl,rfl⟩,⟨rfl,rfl⟩,trivial⟩,⟨rfl,rfl,rfl,rfl,rfl,rfl,rfl,trivial⟩,⟨.inr ⟨_,rfl,.inl rfl⟩,.inr ⟨_,rfl,.inl (renV (v_bC _))⟩,.inr ⟨_,rfl,.inl (renV (rowsC_isV _))⟩,.inr ⟨_,rfl,.inl (renV (rowsC_isV _))⟩,trivial⟩⟩
   ·have e0:(sq:Int)-(d.ins.length:Int)=((sq-d.ins.length:Nat):Int):=by omega
    have e2:decide (0≤((sq-d.ins.length:Nat):Int))=true:=decide_eq_true (by omega)
    have e1:(((sq-d.ins.length:Nat):Int)==(f:Int))=(sq-d.ins.length==f):=by
     rw[Bool.eq_iff_iff,beq_iff_eq,beq_iff_eq];omega
    have g0:(sk.map bC)[sq-d.ins.length]?=some (bC (sk.getD (sq-d.ins.length) false)):=get_bC (by omega)
    rw[if_pos hge3]at hnn
    rw[hnn]at hsu
    generalize hjj:sq-d.ins.length=jj at*
    have hA1:(ndK (sigs d.c) d.ins.length b.c.ins (k+1)).any (hitB s f)=((ndK (sigs d.c) d.ins.length b.c.ins k).any (hitB s f)||hitB s f jj):=by rw[hsu,List.any_append,List.any_cons,List.any_nil,Bool.or_false]
    have hno:hitB sk f jj=false→(bif (ndK (sigs d.c) d.ins.length b.c.ins (k+1)).any (hitB s f)then s.set i true else s)=sk∧(bif (ndK (sigs d.c) d.ins.length b.c.ins (k+1)).any (hitB s f)then true else ag)=ak:=fun h=>by
     cases hA:(ndK (sigs d.c) d.ins.length b.c.ins k).any (hitB s f)with
     |true=>
      refine hok false ?_ rfl
      rw[hA1,hA];rfl
     |false=>
      rw[hA,cond_false]at hsk
      subst hsk
      exact hok _ hA1 h
    have hye:hitB sk f jj=true→(bif (ndK (sigs d.c) d.ins.length b.c.ins (k+1)).any (hitB s f)then s.set i true else s)=sk.set i true∧(bif (ndK (sigs d.c) d.ins.length b.c.ins (k+1)).any (hitB s f)then true else ag)=true:=fun h=>by
     cases hA:(ndK (sigs d.c) d.ins.length b.c.ins k).any (hitB s f)with
     |true=>
      rw[hA,cond_true]at hsk
      rw[hA1,hA,Bool.true_or,cond_true,cond_true,←hsk,List.set_set]
      exact⟨rfl,rfl⟩
     |false=>
      rw[hA,cond_false]at hsk
      subst hsk
      rw[hA1,hA,h]
      exact⟨rfl,rfl⟩
    have hset:(sk.map bC).set i (bC true)=(sk.set i true).map bC:=by rw[List.map_set]
    have hfin:hitB sk f jj=true→((0≤(i:Int)∧(i:Int)<(d.bls.length:Int))∧i+1≤(sk.map bC).length):=fun _=>⟨⟨by omega,by omega⟩,by rw[List.length_map];omega⟩
    cases hjf:jj==f with
    |true=>
     rw[hjf]at e1
     obtain⟨q1,q2⟩:=hye (by unfold hitB;rw[hjf];rfl)
     simp(maxSteps:=2000000) only[go_sem,e0,e1,e2,g0,hset,wS (show k≤1000000000000000000 by omega)]
     refine⟨(hfin (by unfold hitB;rw[hjf];rfl)).1,(hfin (by unfold hitB;rw[hjf];rfl)).2,?_⟩
     refine hj3 _ _ ⟨k+1,hk2⟩ [(2,2),(1,1),(4,4),(5,5)] (by simp only;omega) ?_
     rw[q1,q2]
     exact⟨rfl,⟨⟨rfl,rfl⟩,⟨rfl,rfl⟩,trivial⟩,⟨rfl,rfl,rfl,rfl,rfl,rfl,rfl,trivial⟩,⟨.inr ⟨_,rfl,.inl rfl⟩,.inr ⟨_,rfl,.inl (renV (v_bC _))⟩,.inr ⟨_,rfl,.inl (renV (rowsC_isV _))⟩,.inr ⟨_,rfl,.inl (renV (rowsC_isV _))⟩,trivial⟩⟩
    |false=>
     rw[hjf]at e1
     cases hsj:sk.getD jj false with
     |true=>
      obtain⟨q1,q2⟩:=hye (by unfold hitB;rw[hsj,Bool.or_true])
      rw[hsj]at g0
      simp(maxSteps:=2000000) only[go_sem,e0,e1,e2,g0,hset,wS (show k≤1000000000000000000 by omega)]
      refine⟨⟨by omega,by omega⟩,(hfin (by unfold hitB;rw[hsj,Bool.or_true])).1,(hfin (by unfold hitB;rw[hsj,Bool.or_true])).2,?_⟩
      refine hj3 _ _ ⟨k+1,hk2⟩ [(2,2),(1,1),(4,4),(5,5)] (by simp only;omega) ?_
      rw[q1,q2]
      exact⟨rfl,⟨⟨rfl,rfl⟩,⟨rfl,rfl⟩,trivial⟩,⟨rfl,rfl,rfl,rfl,rfl,rfl,rfl,trivial⟩,⟨.inr ⟨_,rfl,.inl rfl⟩,.inr ⟨_,rfl,.inl (renV (v_bC _))⟩,.inr ⟨_,rfl,.inl (renV (rowsC_isV _))⟩,.inr ⟨_,rfl,.inl (renV (rowsC_isV _))⟩,trivial⟩⟩
     |false=>
      obtain⟨q1,q2⟩:=hno (by unfold hitB;rw[hjf,hsj];rfl)
      rw[hsj]at g0
      simp(maxSteps:=2000000) only[go_sem,e0,e1,e2,g0,hset,wS (show k≤1000000000000000000 by omega)]
      refine⟨⟨by omega,by omega⟩,?_⟩
      refine hj3 _ _ ⟨k+1,hk2⟩ [(2,2),(1,1),(4,4),(5,5)] (by simp only;omega) ?_
      rw[q1,q2]
      exact⟨rfl,⟨⟨rfl,rfl⟩,⟨rfl,rfl⟩,trivial⟩,⟨rfl,rfl,rfl,rfl,rfl,rfl,rfl,trivial⟩,⟨.inr ⟨_,rfl,.inl rfl⟩,.inr ⟨_,rfl,.inl (renV (v_bC _))⟩,.inr ⟨_,rfl,.inl (renV (rowsC_isV _))⟩,.inr ⟨_,rfl,.inl (renV (rowsC_isV _))⟩,trivial⟩⟩
  ·have hk2:=eq_of_dec hk hk2
   rw[←hk2]at hBi
   rw[hBi]at hst
   simp(maxSteps:=2000000) only[go_sem,wS (show i≤1000000000000000000 by omega)]
   rw[hst]at hx n1 n2
   cases hA:(ndK (sigs d.c) d.ins.length b.c.ins k).any (hitB s f)with
   |true=>
    rw[hA]at hx n1 n2
    exact hj2 _ _ ⟨(i+1,s.set i true,true),hc,n1,n2,hx⟩ [(2,2),(1,1),(4,4),(5,5)] (by simp only;omega) ⟨rfl,⟨⟨rfl,rfl⟩,⟨rfl,rfl⟩,trivial⟩,⟨rfl,rfl,rfl,rfl,rfl,rfl,trivial⟩,⟨.inr ⟨_,rfl,.inl rfl⟩,.inr ⟨_,rfl,.inl (renV (v_bC _))⟩,.inr ⟨_,rfl,.inl (renV (rowsC_isV _))⟩,.inr ⟨_,rfl,.inl (renV (rowsC_isV _))⟩,trivial⟩⟩
   |false=>
    rw[hA]at hx
    exact hj2 _ _ ⟨(i+1,s,ag),hc,hls,hss,hx⟩ [(2,2),(1,1),(4,4),(5,5)] (by simp only;omega) ⟨rfl,⟨⟨rfl,rfl⟩,⟨rfl,rfl⟩,trivial⟩,⟨rfl,rfl,rfl,rfl,rfl,rfl,trivial⟩,⟨.inr ⟨_,rfl,.inl rfl⟩,.inr ⟨_,rfl,.inl (renV (v_bC _))⟩,.inr ⟨_,rfl,.inl (renV (rowsC_isV _))⟩,.inr ⟨_,rfl,.inl (renV (rowsC_isV _))⟩,trivial⟩⟩
 ·have hc:=eq_of_dec hi hc
  subst hc
  rw[List.drop_of_length_le (by simp)]at hx
  have hx:pasR B f (List.range d.bls.length) (s0,false)=(s,ag):=hx
  have hpk:=pasR_ok (N:=d.bls.length) (List.range d.bls.length) (s0,false) (fun i hi=>List.mem_range.1 hi) hl0 hs0
  rw[hx]at hpk
  obtain⟨p1,p2,p3⟩:=hpk
  refine hj _ _ ⟨(s,ag),p1,p2,?_⟩ [(2,2),(1,1),(4,4),(5,5)] ?_ ⟨rfl,⟨⟨rfl,rfl⟩,⟨rfl,rfl⟩,trivial⟩,⟨rfl,rfl,rfl,rfl,rfl,trivial⟩,⟨.inr ⟨_,rfl,.inl rfl⟩,.inr ⟨_,rfl,.inl (renV (v_bC _))⟩,.inr ⟨_,rfl,.inl (renV (rowsC_isV _))⟩,.inr ⟨_,rfl,.inl (renV (rowsC_isV _))⟩,trivial⟩⟩
  ·intro hag
   rcases p3 with⟨a,_⟩|⟨a,q⟩
   ·rw[hag]at a;cases a
   ·injection a with a1 a2
    subst a1
    exact fun i hi=>q i (List.mem_range.2 hi)
  ·simp only
   rcases p3 with⟨a,q⟩|⟨a,_⟩
   ·have a:ag=true:=a
    rw[a];simp only[cond_true]at q⊢;omega
   ·injection a with a1 a2
    subst a2
    simp
end Go.Proofs.YtkciabfilokfiaaGreat.Fx
