/-  -/
import Derived.Test.YtkciabfilokfiaaGreatPS
import Derived.Test.YtkciabfilokfiaaGreatSB
import Derived.Test.YtkciabfilokfiaaGreatQC
import Derived.Test.YtkciabfilokfiaaGreatQG
namespace Go.Proofs.YtkciabfilokfiaaGreat.Fx
open Vg Tf
set_option linter.unusedSimpArgs false
set_option linter.unusedVariables false
set_option maxRecDepth 100000
set_option maxHeartbeats 4000000
def ndK (l:List Str)(n:Nat)(ins:List Str)(k:Nat):List Nat:=(ins.take k).flatMap (nee1 l n)
theorem ndK_succ (l:List Str)(n:Nat)(ins:List Str)(k:Nat)(h:k<ins.length):ndK l n ins (k+1)=ndK l n ins k++nee1 l n ins[k]:=by
 unfold ndK
 rw[List.take_succ_eq_append_getElem h,List.flatMap_append]
 simp
theorem fnd_eq {l:List Str}{s:Str}(h:sgB l s=true):fndQ l s=(sgN l s:Int):=by
 unfold fndQ sgN
 unfold sgB at h
 cases hq:idxS s l 0 with
 |none=>rw[hq]at h;cases h
 |some i=>rfl
theorem strs_fl (l:List Str):(strsR l).flatten=l.map sv:=by
 unfold strsR
 induction l with
 |nil=>rfl
 |cons x l ih=>simp only[List.map_cons,List.flatten_cons,ih];rfl
def oI (o:Option Nat):Int:=match o with
 |some j=>(j:Int)
 |none=> -1
theorem rorder_ {H:Hp}(d:DgL)(hd:d.ok H)(h1:d.ins.length≤1000000)(h2:d.bls.length≤1000000)(hlI:∀b∈d.bls,b.c.ins.length≤1000000)(hin:∀b∈d.bls,∀s∈b.c.ins,sgB (sigs d.c) s=true):
  CallX H Tryz.prog 65 [.agg (dvs d)] (dmm d) (fun _:Unit=> .c (.sl 1 0 (ordR (befB d.c) d.bls.length).length 1)) (fun _=>[bNt 1 (ordR (befB d.c) d.bls.length)]) (fun _ _=>True):=by
 have z5:=rows_len (r:=BlL.r) (k:=6) (fun _=>rfl) d.bls
 have hord:=ordR_ok (befB d.c) d.bls.length
 refine CallX.mkS Tryz.func65 rfl en65 (by simp[Tryz.ntmps65]) (ClA.of rfl) (fun _=>rfl) (fun _=>rfl) fun C hR hP hH hL=>?_
 have hR:=hR () C hL trivial
 refine Sm.go 100 ?_
 simp(maxSteps:=2000000) only[go_sem,reps_bool]
 refine⟨⟨by omega,by omega,by omega⟩,?_⟩
 refine Sm.nils 140 1 3 [5] [] rfl ?_
 refine vv ?_
 generalize hB:befB d.c=B at*
 let Mm:List Nat→Mem:=fun l=>(2,⟨false,dvs d,29⟩)::(1,⟨false,(tkOf d.bls.length l).map bC,4⟩)::bNt 3 l::dmm d
 have hcl:∀l,ClM (Mm l):=fun l=>ClM.of (by simp only[Mm,List.all_cons,inMV (v_bC _),inMV (v_nC _),inMV (rowsC_isV _)];rfl)
 refine Sm.loopM (M0:=dmm d) (α:={l:List Nat//OrdOk B d.bls.length l∧ordR B d.bls.length=ordGo B d.bls.length (d.bls.length-l.length) l}) hP (fun l=>[(1,true,.c (.p 2 0)),(3,true,I d.ins.length),(4,true,.c (.sl 1 0 d.bls.length 1)),(5,true,.c (.sl 3 0 l.val.length 1))])
  (fun l=>Mm l.val) (fun l=>d.bls.length-l.val.length) ⟨[],OrdOk.nil B d.bls.length,rfl⟩ (fun _=>hcl _) (fun _=>ClE.of rfl) [(2,100),(1,101),(3,140),(4,4),(5,5)] ?_ ?_
 ·exact⟨rfl,⟨⟨rfl,rfl⟩,⟨rfl,rfl⟩,trivial⟩,⟨rfl,rfl,rfl,rfl,trivial⟩,⟨.inr ⟨_,rfl,.inl rfl⟩,.inr ⟨_,rfl,.inl (renV (v_bC _))⟩,.inr ⟨_,rfl,.inl rfl⟩,.inr ⟨_,rfl,.inl (renV (rowsC_isV _))⟩,.inr ⟨_,rfl,.inl (renV (rowsC_isV _))⟩,trivial⟩⟩
 rintro⟨l,hl,hx⟩ J hj
 simp only at hj hl hx⊢
 have hle:=nodup_len d.bls.length l hl.1 hl.2.1
 refine Sm.go 150 ?_
 simp(maxSteps:=2000000) only[go_sem,Mm]
 refine Sm.loopM (M0:=dmm d) (α:={x:Nat×Option Nat//x.1≤d.bls.length∧(x.2=none→∀q,q<x.1→rdy B l q=false)∧∀j,x.2=some j→nxt B d.bls.length l=some j}) hP (fun x=>[(1,true,.c (.p 2 0)),(3,true,I d.ins.length),(4,true,.c (.sl 1 0 d.bls.length 1)),(5,true,.c (.sl 3 0 l.length 1)),(6,true,I (oI x.val.2)),(7,true,I x.val.1)])
  (fun _=>Mm l) (fun x=>d.bls.length-x.val.1) ⟨(0,none),by omega,fun _ q h=>by omega,fun j h=>by cases h⟩ (fun _=>hcl _) (fun _=>ClE.of rfl) [(2,2),(1,1),(3,3),(4,4),(5,5)] ?_ ?_
 ·exact⟨rfl,⟨⟨rfl,rfl⟩,⟨rfl,rfl⟩,trivial⟩,⟨rfl,rfl,rfl,rfl,rfl,rfl,trivial⟩,⟨.inr ⟨_,rfl,.inl rfl⟩,.inr ⟨_,rfl,.inl (renV (v_bC _))⟩,.inr ⟨_,rfl,.inl (renV (v_nC _))⟩,.inr ⟨_,rfl,.inl (renV (rowsC_isV _))⟩,.inr ⟨_,rfl,.inl (renV (rowsC_isV _))⟩,trivial⟩⟩
 rintro⟨⟨i,o⟩,hi,hno,hso⟩ J2 hj2
 simp only at hj2 hi hno hso⊢
 refine Sm.go 160 ?_
 cases o with
 |some j0=>
  have hlt:decide (oI (some j0)<0)=false:=decide_eq_false (by unfold oI;simp only;omega)
  simp(maxSteps:=2000000) only[go_sem,Mm,hlt,Bool.cond_self]
  have hnx:=hso j0 rfl
  obtain⟨hj0,hr0⟩:=nxt_some hnx
  have hge:decide (oI (some j0)<0)=false:=hlt
  have hg2:oI (some j0)=(j0:Int):=rfl
  have hset:((tkOf d.bls.length l).map bC).set j0 (bC true)=(tkOf d.bls.length (l++[j0])).map bC:=by rw[←tk_set hj0,List.map_set]
  have hlen:(l.map nC).length=l.length:=List.length_map _
  have hap:List.take l.length (l.map nC)++[nC j0]=(l++[j0]).map nC:=by rw[List.take_of_length_le (by omega),List.map_append];rfl
  have hok:=hl.snoc hj0 hr0
  have hlt2:=nodup_len d.bls.length _ hok.1 hok.2.1
  rw[List.length_append,List.length_singleton]at hlt2
  simp(maxSteps:=2000000) only[go_sem,hge,hg2,hset,hlen,hap]
  refine⟨⟨by omega,by omega⟩,by rw[List.length_map,tkOf_len];omega,⟨by omega,by omega,by omega⟩,?_⟩
  have hx2:ordR B d.bls.length=ordGo B d.bls.length (d.bls.length-(l++[j0]).length) (l++[j0]):=by
   rw[hx,List.length_append,List.length_singleton,show d.bls.length-l.length=(d.bls.length-(l.length+1))+1 by omega,ordGo,hnx]
  refine hj _ _ ⟨l++[j0],hok,hx2⟩ [(2,2),(1,1),(3,161),(4,4),(5,5)] (by simp only[List.length_append,List.length_singleton];omega) ?_
  simp only[List.length_append,List.length_singleton]
  exact⟨rfl,⟨⟨rfl,rfl⟩,⟨rfl,rfl⟩,trivial⟩,⟨rfl,rfl,rfl,rfl,trivial⟩,⟨.inr ⟨_,rfl,.inl rfl⟩,.inr ⟨_,rfl,.inl (renV (v_bC _))⟩,.inr ⟨_,rfl,.inl (renV (v_nC _))⟩,.inr ⟨_,rfl,.inl (renV (rowsC_isV _))⟩,.inr ⟨_,rfl,.inl (renV (rowsC_isV _))⟩,trivial⟩⟩
 |none=>
 have hlt:oI none= -1:=rfl
 have hno:=hno rfl
 simp(maxSteps:=2000000) only[go_sem,Mm,hlt]
 refine mtch (fun hc=>?_) (fun hc=>?_)
 ·have hc:i<d.bls.length:=by
   cases hd:decide ((i:Int)<(d.bls.length:Int))with
   |false=>rw[hd]at hc;cases hc
   |true=>exact lt_of_dec hd
  have hg:((tkOf d.bls.length l).map bC)[i]?=some (bC (l.contains i)):=by rw[get_bC (by rw[tkOf_len];exact hc),tk_get hc]
  simp(maxSteps:=2000000) only[go_sem,hg]
  refine⟨⟨by omega,by omega⟩,?_⟩
  have f1:=rows_one (r:=BlL.r) (k:=6) (fun _=>rfl) d.bls i 1 hc (by omega)
  have f3:=rows_one (r:=BlL.r) (k:=6) (fun _=>rfl) d.bls i 3 hc (by omega)
  have hmem:d.bls[i]∈d.bls:=List.getElem_mem hc
  have hbo:=hd.bls _ hmem
  have hbl:=hlI _ hmem
  have hbi:=hin _ hmem
  have hnd:B i=need (sigs d.c) d.ins.length d.bls[i].c:=by rw[←hB];exact befB_get hc
  have hslt:=sigs_len d
  have hrd:rdy B l i=(!l.contains i&&(B i).all fun k=>l.contains k):=rfl
  generalize d.bls[i]=b at*
  refine Sm.loopM (M0:=dmm d) (α:={k:Nat//k≤b.c.ins.length∧((b.c.kd==delS)=true→k=0)}) hP (fun k=>[(1,true,.c (.p 2 0)),(3,true,I d.ins.length),(4,true,.c (.sl 1 0 d.bls.length 1)),(5,true,.c (.sl 3 0 l.length 1)),(6,true,I (-1)),(7,true,I i),(8,true,Bo (bif (ndK (sigs d.c) d.ins.length b.c.ins k.val).all (fun k=>l.contains k)then !l.contains i else false)),(9,true,I k.val)])
   (fun _=>Mm l) (fun k=>b.c.ins.length-k.val) ⟨0,by omega,fun _=>rfl⟩ (fun _=>hcl _) (fun _=>ClE.of rfl) [(2,2),(1,1),(3,3),(4,4),(5,5)] ?_ ?_
  ·exact⟨rfl,⟨⟨rfl,rfl⟩,⟨rfl,rfl⟩,trivial⟩,⟨rfl,rfl,rfl,rfl,rfl,rfl,rfl,rfl,trivial⟩,⟨.inr ⟨_,rfl,.inl rfl⟩,.inr ⟨_,rfl,.inl (renV (v_bC _))⟩,.inr ⟨_,rfl,.inl (renV (v_nC _))⟩,.inr ⟨_,rfl,.inl (renV (rowsC_isV _))⟩,.inr ⟨_,rfl,.inl (renV (rowsC_isV _))⟩,trivial⟩⟩
  rintro⟨k,hk,hk0⟩ J3 hj3
  simp only at hj3 hk hk0⊢
  refine Sm.go 170 ?_
  simp(maxSteps:=2000000) only[go_sem,Mm,f1,f3,BlL.r,List.getElem?_cons_zero,List.getElem?_cons_succ,Option.map_some]
  refine⟨⟨by omega,by omega⟩,fun h=>⟨h,h,by omega,by omega⟩,?_⟩
  refine mtch (fun hq=>?_) (fun hq=>?_)
  ·obtain⟨hk2,hkd⟩:k<b.c.ins.length∧(b.c.kd==delS)=false:=by
    cases hd2:decide ((k:Int)<(b.c.ins.length:Int))with
    |false=>rw[hd2]at hq;cases hq
    |true=>rw[hd2,cond_true]at hq;exact⟨lt_of_dec hd2,by unfold delS;simpa using hq⟩
   obtain⟨bi,oi,ci',hi1,csi,eli,mki,hci,hcci⟩:=hbo.i.at (by
    intro h0
    have:=congrArg List.length h0
    rw[strs_fl,List.length_map]at this
    simp at this;rw[this]at hk2;simp at hk2)
   have hio:b.i.o=some ⟨bi,oi,none⟩:=by injection hi1
   have hx0:csi[oi+k]?=some (sv b.c.ins[k]):=hcci k _ (by rw[strs_fl];simp[hk2])
   have hsb:=hbi b.c.ins[k] (List.getElem_mem hk2)
   have hfe:=fnd_eq hsb
   have hsl:=sgN_lt hsb
   have hsu:=ndK_succ (sigs d.c) d.ins.length b.c.ins k hk2
   refine Sm.dg 180 10 mix ?_
   simp(maxSteps:=2000000) only[go_sem,f3,BlL.r,List.getElem?_cons_zero,List.getElem?_cons_succ,Option.map_some,hio]
   refine⟨⟨by omega,by omega⟩,?_⟩
   refine DOpQ.own 180 (Stp.idxV rfl rfl rfl sl27 (by omega) (by omega)) ?_
   refine vv ?_
   refine DOpQ.ownC 180 (fun _=>StpC.ldH (hH _ _ hci) hx0 rfl rfl rfl) ?_
   refine vv ?_
   refine CallQ.mem 190 (find_ d b.c.ins[k] (by omega) (by omega)) rfl ?_ (dmm_cl d) ?_
   ·exact SubS.sub ⟨⟨_,rfl,.inl rfl⟩,⟨_,rfl,.inl rfl⟩,trivial⟩
   rw[hfe]
   generalize hsq:sgN (sigs d.c) b.c.ins[k]=sq at*
   have hnn:nee1 (sigs d.c) d.ins.length b.c.ins[k]=if d.ins.length≤sq then[sq-d.ins.length]else[]:=by unfold nee1;rw[hsq]
   rcases Nat.lt_or_ge sq d.ins.length with hlt3|hge3
   ·have hdc:decide ((d.ins.length:Int)≤(sq:Int))=false:=decide_eq_false (by omega)
    have w3:(IntKind.i64.wrap ((sq:Int)-(d.ins.length:Int))).toNat=0:=by rw[w64 (by omega) (by omega)];omega
    have g0:((tkOf d.bls.length l).map bC)[0]?=some (bC (l.contains 0)):=by rw[get_bC (by rw[tkOf_len];omega),tk_get (by omega)]
    rw[if_neg (by omega)]at hnn
    rw[hnn,List.append_nil]at hsu
    simp(maxSteps:=2000000) only[go_sem,hdc,w3,g0,wS (show k≤1000000000000000000 by omega)]
    refine hj3 _ _ ⟨k+1,hk2,fun h=>(by rw[hkd]at h;cases h)⟩ [(2,2),(1,1),(3,3),(4,4),(5,5)] (by simp only;omega) ?_
    rw[hsu]
    exact⟨rfl,⟨⟨rfl,rfl⟩,⟨rfl,rfl⟩,trivial⟩,⟨rfl,rfl,rfl,rfl,rfl,rfl,rfl,rfl,trivial⟩,⟨.inr ⟨_,rfl,.inl rfl⟩,.inr ⟨_,rfl,.inl (renV (v_bC _))⟩,.inr ⟨_,rfl,.inl (renV (v_nC _))⟩,.inr ⟨_,rfl,.inl (renV (rowsC_isV _))⟩,.inr ⟨_,rfl,.inl (renV (rowsC_isV _))⟩,trivial⟩⟩
   ·have hdc:decide ((d.ins.length:Int)≤(sq:Int))=true:=decide_eq_true (by omega)
    have w3:IntKind.i64.wrap ((sq:Int)-(d.ins.length:Int))=((sq-d.ins.length:Nat):Int):=by rw[w64 (by omega) (by omega)];omega
    have g0:((tkOf d.bls.length l).map bC)[sq-d.ins.length]?=some (bC (l.contains (sq-d.ins.length))):=by rw[get_bC (by rw[tkOf_len];omega),tk_get (by omega)]
    rw[if_pos hge3]at hnn
    rw[hnn]at hsu
    have hall:(ndK (sigs d.c) d.ins.length b.c.ins (k+1)).all (fun k=>l.contains k)=((ndK (sigs d.c) d.ins.length b.c.ins k).all (fun k=>l.contains k)&&l.contains (sq-d.ins.length)):=by rw[hsu,List.all_append,List.all_cons,List.all_nil,Bool.and_true]
    simp(maxSteps:=2000000) only[go_sem,hdc,w3,g0]
    refine⟨⟨by omega,by omega⟩,?_⟩
    cases hct:l.contains (sq-d.ins.length)with
    |true=>
     rw[hct,Bool.and_true]at hall
     simp(maxSteps:=2000000) only[go_sem,wS (show k≤1000000000000000000 by omega)]
     refine hj3 _ _ ⟨k+1,hk2,fun h=>(by rw[hkd]at h;cases h)⟩ [(2,2),(1,1),(3,3),(4,4),(5,5)] (by simp only;omega) ?_
     rw[hall]
     exact⟨rfl,⟨⟨rfl,rfl⟩,⟨rfl,rfl⟩,trivial⟩,⟨rfl,rfl,rfl,rfl,rfl,rfl,rfl,rfl,trivial⟩,⟨.inr ⟨_,rfl,.inl rfl⟩,.inr ⟨_,rfl,.inl (renV (v_bC _))⟩,.inr ⟨_,rfl,.inl (renV (v_nC _))⟩,.inr ⟨_,rfl,.inl (renV (rowsC_isV _))⟩,.inr ⟨_,rfl,.inl (renV (rowsC_isV _))⟩,trivial⟩⟩
    |false=>
     rw[hct,Bool.and_false]at hall
     simp(maxSteps:=2000000) only[go_sem,wS (show k≤1000000000000000000 by omega)]
     refine hj3 _ _ ⟨k+1,hk2,fun h=>(by rw[hkd]at h;cases h)⟩ [(2,2),(1,1),(3,3),(4,4),(5,5)] (by simp only;omega) ?_
     rw[hall]
     exact⟨rfl,⟨⟨rfl,rfl⟩,⟨rfl,rfl⟩,trivial⟩,⟨rfl,rfl,rfl,rfl,rfl,rfl,rfl,rfl,trivial⟩,⟨.inr ⟨_,rfl,.inl rfl⟩,.inr ⟨_,rfl,.inl (renV (v_bC _))⟩,.inr ⟨_,rfl,.inl (renV (v_nC _))⟩,.inr ⟨_,rfl,.inl (renV (rowsC_isV _))⟩,.inr ⟨_,rfl,.inl (renV (rowsC_isV _))⟩,trivial⟩⟩
  ·have hcnt:(b.c.kd==delS)=true∨k=b.c.ins.length:=by
    cases hd2:decide ((k:Int)<(b.c.ins.length:Int))with
    |false=>exact .inr (eq_of_dec hk hd2)
    |true=>rw[hd2,cond_true]at hq;exact .inl (by unfold delS;simpa using hq)
   have hv:(bif (ndK (sigs d.c) d.ins.length b.c.ins k).all (fun k=>l.contains k)then !l.contains i else false)=rdy B l i:=by
    rw[hrd,hnd]
    unfold need ndK
    rcases hcnt with h|h
    ·rw[h,if_pos rfl,hk0 h,List.take_zero]
     simp
    ·cases hdl:b.c.kd==delS with
     |true=>
      rw[if_pos rfl,hk0 hdl,List.take_zero]
      simp
     |false=>
      rw[if_neg (by simp),h,List.take_length,Bool.and_comm]
      cases (List.flatMap (nee1 (sigs d.c) d.ins.length) b.c.ins).all (fun k=>l.contains k)<;>rfl
   rw[hv]
   cases hr:rdy B l i with
   |true=>
    simp(maxSteps:=2000000) only[go_sem,wS (show i≤1000000000000000000 by omega)]
    refine hj2 _ _ ⟨(i+1,some i),hc,fun h=>(by cases h),fun j h=>(by injection h with h;subst h;exact nxt_first hc hno hr)⟩ [(2,2),(1,1),(3,3),(4,4),(5,5)] (by simp only;omega) ?_
    exact⟨rfl,⟨⟨rfl,rfl⟩,⟨rfl,rfl⟩,trivial⟩,⟨rfl,rfl,rfl,rfl,rfl,rfl,trivial⟩,⟨.inr ⟨_,rfl,.inl rfl⟩,.inr ⟨_,rfl,.inl (renV (v_bC _))⟩,.inr ⟨_,rfl,.inl (renV (v_nC _))⟩,.inr ⟨_,rfl,.inl (renV (rowsC_isV _))⟩,.inr ⟨_,rfl,.inl (renV (rowsC_isV _))⟩,trivial⟩⟩
   |false=>
    simp(maxSteps:=2000000) only[go_sem,wS (show i≤1000000000000000000 by omega)]
    refine hj2 _ _ ⟨(i+1,none),hc,fun _ q h=>?_,fun j h=>(by cases h)⟩ [(2,2),(1,1),(3,3),(4,4),(5,5)] (by simp only;omega) ⟨rfl,⟨⟨rfl,rfl⟩,⟨rfl,rfl⟩,trivial⟩,⟨rfl,rfl,rfl,rfl,rfl,rfl,trivial⟩,⟨.inr ⟨_,rfl,.inl rfl⟩,.inr ⟨_,rfl,.inl (renV (v_bC _))⟩,.inr ⟨_,rfl,.inl (renV (v_nC _))⟩,.inr ⟨_,rfl,.inl (renV (rowsC_isV _))⟩,.inr ⟨_,rfl,.inl (renV (rowsC_isV _))⟩,trivial⟩⟩
    rcases Nat.lt_or_ge q i with h'|h'
    ·exact hno q h'
    ·rw[show q=i by omega];exact hr
 ·have hc:i=d.bls.length:=by
   cases hd:decide ((i:Int)<(d.bls.length:Int))with
   |true=>rw[hd]at hc;cases hc
   |false=>exact eq_of_dec hi hd
  subst hc
  rw[ordGo_none (nxt_nope hno)]at hx
  rw[hx]at hR
  exact RetQ.ren [(1,3),(4,4),(5,5)] hR hP rfl scc rfl rfl ⟨⟨rfl,rfl⟩,⟨rfl,rfl⟩,trivial⟩ ⟨.inr ⟨_,rfl,.inl (renV (v_nC _))⟩,.inr ⟨_,rfl,.inl (renV (rowsC_isV _))⟩,.inr ⟨_,rfl,.inl (renV (rowsC_isV _))⟩,trivial⟩ (ClM.of (by simp only[List.cons_append,List.nil_append,List.all_cons,inMV (v_nC _),inMV (rowsC_isV _)];rfl)) (ClV.of rfl)
end Go.Proofs.YtkciabfilokfiaaGreat.Fx
namespace Go.Proofs.YtkciabfilokfiaaGreat.Fx
set_option linter.unusedVariables false
set_option linter.unusedSimpArgs false
open Classical in
noncomputable def rchL (B:Nat→List Nat)(N f:Nat):List Bool:=(List.range N).map fun i=>decide (Way B i f)
theorem rchL_len (B:Nat→List Nat)(N f:Nat):(rchL B N f).length=N:=by simp[rchL]
theorem rch_get {B:Nat→List Nat}{N f i:Nat}(h:i<N):(rchL B N f).getD i false=true↔Way B i f:=by
 classical
 rw[List.getD_eq_getElem?_getD,rchL,List.getElem?_map,List.getElem?_range h]
 simp
def hitB (s:List Bool)(f k:Nat):Bool:=k==f||s.getD k false
def Snd (B:Nat→List Nat)(f:Nat)(s:List Bool):Prop:=∀i,s.getD i false=true→Way B i f
theorem rch_done {B:Nat→List Nat}{N f:Nat}{s:List Bool}(hB:∀i,i<N→∀k∈B i,k<N)(hs:s.length=N)(h1:Snd B f s)(h2:∀i,i<N→∀k∈B i,hitB s f k=true→s.getD i false=true):s=rchL B N f:=by
 have key:∀i j,Way B i j→j=f→i<N→s.getD i false=true:=by
  intro i j hw
  induction hw with
  |one hk=>exact fun hj hi=>h2 _ hi _ hk (by subst hj;simp[hitB])
  |more hk _ ih=>exact fun hj hi=>h2 _ hi _ hk (by unfold hitB;rw[ih hj (hB _ hi _ hk),Bool.or_true])
 apply List.ext_getElem (by rw[hs,rchL_len])
 intro i hi hi2
 have e1:s[i]=s.getD i false:=by rw[List.getD_eq_getElem?_getD,List.getElem?_eq_getElem hi];rfl
 have e2:(rchL B N f)[i]=(rchL B N f).getD i false:=by rw[List.getD_eq_getElem?_getD,List.getElem?_eq_getElem hi2];rfl
 rw[e1,e2,Bool.eq_iff_iff,rch_get (by omega)]
 exact⟨h1 i,fun h=>key i f h rfl (by omega)⟩
def stpI (B:Nat→List Nat)(f i:Nat)(x:List Bool×Bool):List Bool×Bool:=bif !x.1.getD i false&&(B i).any (hitB x.1 f)then(x.1.set i true,true)else x
def pasR (B:Nat→List Nat)(f:Nat):List Nat→List Bool×Bool→List Bool×Bool
 |[],x=>x
 |i::l,x=>pasR B f l (stpI B f i x)
theorem stpI_ok {B:Nat→List Nat}{N f i:Nat}(hi:i<N)(x:List Bool×Bool)(hx:x.1.length=N)(hs:Snd B f x.1):
  (stpI B f i x).1.length=N∧Snd B f (stpI B f i x).1∧(((stpI B f i x).2=true∧fre (stpI B f i x).1<fre x.1)∨(stpI B f i x=x∧∀k∈B i,hitB x.1 f k=true→x.1.getD i false=true)):=by
 unfold stpI
 cases hb:(!x.1.getD i false&&(B i).any (hitB x.1 f))with
 |true=>
  simp only[cond_true]
  rw[Bool.and_eq_true,List.any_eq_true]at hb
  obtain⟨h1,k,hk,hh⟩:=hb
  have h1:x.1.getD i false=false:=by simpa using h1
  refine⟨by rw[List.length_set];exact hx,fun j hj=>?_,.inl ⟨by trivial,?_⟩⟩
  ·rw[getD_set j (by omega)]at hj
   split at hj
   ·rename_i he
    subst he
    unfold hitB at hh
    rw[Bool.or_eq_true]at hh
    rcases hh with hh|hh
    ·have:k=f:=by simpa using hh
     subst this;exact .one hk
    ·exact .more hk (hs k hh)
   ·exact hs j hj
  ·have:=fre_set x.1 i (by omega) h1
   omega
 |false=>
  simp only[cond_false]
  refine⟨hx,hs,.inr ⟨by trivial,fun k hk hh=>?_⟩⟩
  have:(B i).any (hitB x.1 f)=true:=List.any_eq_true.2 ⟨k,hk,hh⟩
  rw[this,Bool.and_true]at hb
  simpa using hb
theorem pasR_ok {B:Nat→List Nat}{N f:Nat}:∀(l:List Nat) (x:List Bool×Bool),(∀i∈l,i<N)→x.1.length=N→Snd B f x.1→
  (pasR B f l x).1.length=N∧Snd B f (pasR B f l x).1∧(((pasR B f l x).2=true∧fre (pasR B f l x).1<fre x.1)∨(pasR B f l x=x∧∀i∈l,∀k∈B i,hitB x.1 f k=true→x.1.getD i false=true))
 |[],x,_,hx,hs=>⟨hx,hs,.inr ⟨rfl,by simp⟩⟩
 |i::l,x,hl,hx,hs=>by
  obtain⟨h1,h2,h3⟩:=stpI_ok (f:=f) (hl i (by simp)) x hx hs
  obtain⟨k1,k2,k3⟩:=pasR_ok l (stpI B f i x) (fun j hj=>hl j (by simp[hj])) h1 h2
  unfold pasR
  refine⟨k1,k2,?_⟩
  rcases h3 with⟨a,b⟩|⟨a,b⟩
  ·rcases k3 with⟨c,d⟩|⟨c,d⟩
   ·exact .inl ⟨c,by omega⟩
   ·rw[c];exact .inl ⟨a,b⟩
  ·rw[a]at k3⊢
   rcases k3 with⟨c,d⟩|⟨c,d⟩
   ·exact .inl ⟨c,d⟩
   ·exact .inr ⟨c,fun j hj=>by
     rcases List.mem_cons.1 hj with rfl|hj
     ·exact b
     ·exact d j hj⟩
theorem lop_rch {B:Nat→List Nat}{N i:Nat}(hB:∀i,i<N→∀k∈B i,k<N)(hi:i<N):(rchL B N i).getD i false=lps B N i:=by
 rw[Bool.eq_iff_iff,rch_get hi,lps_iff hB hi]
theorem lps_nil {B:Nat→List Nat}{N i:Nat}(hB:∀i,i<N→∀k∈B i,k<N)(hi:i<N)(h:B i=[]):lps B N i=false:=by
 cases hb:lps B N i with
 |false=>rfl
 |true=>
  have:=(lps_iff hB hi).1 hb
  cases this with
  |one hk=>rw[h]at hk;cases hk
  |more hk _=>rw[h]at hk;cases hk
end Go.Proofs.YtkciabfilokfiaaGreat.Fx
