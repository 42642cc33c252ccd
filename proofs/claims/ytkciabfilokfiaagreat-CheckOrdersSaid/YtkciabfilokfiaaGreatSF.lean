/-  -/
import Derived.Test.YtkciabfilokfiaaGreatPS
import Derived.Test.YtkciabfilokfiaaGreatSE
import Derived.Test.YtkciabfilokfiaaGreatSA
import Derived.Test.YtkciabfilokfiaaGreatQZ
namespace Go.Proofs.YtkciabfilokfiaaGreat.Fx
open Vg Tf
set_option linter.unusedSimpArgs false
set_option linter.unusedVariables false
set_option maxRecDepth 100000
set_option maxHeartbeats 4000000
theorem rloop_ {H:Hp}(d:DgL)(hd:d.ok H)(h1:d.ins.length≤1000000)(h2:d.bls.length≤1000000)(hlI:∀b∈d.bls,b.c.ins.length≤1000000)(hin:∀b∈d.bls,∀s∈b.c.ins,sgB (sigs d.c) s=true):
  CallX H Tryz.prog 61 [.agg (dvs d)] (dmm d) (fun _:Unit=>I (oI (lopR (befB d.c) d.bls.length))) (fun _=>[]) (fun _ _=>True):=by
 have z5:=rows_len (r:=BlL.r) (k:=6) (fun _=>rfl) d.bls
 have hBl:=befB_lt d
 have hor:=rorder_ d hd h1 h2 hlI hin
 have hre:=rreach_ d hd h1 h2 hlI hin
 have hlr:lopR (befB d.c) d.bls.length=if (ordR (befB d.c) d.bls.length).length=d.bls.length then none else(List.range d.bls.length).find? (lps (befB d.c) d.bls.length):=rfl
 refine CallX.mkS Tryz.func61 rfl en61 (by simp[Tryz.ntmps61]) (ClA.of rfl) (fun _=>rfl) (fun _=>rfl) fun C hR hP hH hL=>?_
 have hR:=hR () C hL trivial
 refine Sm.go 100 ?_
 refine vv ?_
 refine Sm.dg 110 6 mix ?_
 refine vv ?_
 refine DCallQ.hr [(4,4),(5,5),(1,130)] 131 hor hH (dmm_cl d) rfl rfl ⟨⟨_,rfl,.inl (renV (rowsC_isV _))⟩,⟨_,rfl,.inl (renV (rowsC_isV _))⟩,trivial⟩ rfl (.inl rfl) rfl rfl ?_
 simp only[Mem.ren,List.map_cons,List.map_nil,renV (v_nC _),V.ren,Cv.ren,rn,Nat.reduceBEq,cond_true,cond_false]
 refine vv ?_
 refine mtch (fun he=>?_) (fun he=>?_)
 ·have he:(ordR (befB d.c) d.bls.length).length=d.bls.length:=by have:=eq_of_beq he;omega
  rw[hlr,if_pos he]at hR
  exact RetQ.of hR rfl scc rvv (SubS.sub ⟨⟨_,rfl,.inl rfl⟩,⟨_,rfl,.inl rfl⟩,trivial⟩) (dmm_cl d) (ClV.of rfl)
 have he:(ordR (befB d.c) d.bls.length).length≠d.bls.length:=fun h=>by rw[h]at he;simp at he
 rw[if_neg he]at hlr
 generalize hB:befB d.c=B at*
 generalize (ordR B d.bls.length)=ol at*
 refine Sm.cutm hP [(1,true,.c (.p 2 0)),(3,true,I 0)] ((2,⟨false,dvs d,29⟩)::dmm d) [(2,100),(4,4),(5,5)] ⟨rfl,⟨⟨rfl,rfl⟩,⟨rfl,rfl⟩,trivial⟩,⟨rfl,rfl,trivial⟩,⟨.inr ⟨_,rfl,.inl rfl⟩,.inr ⟨_,rfl,.inl (renV (rowsC_isV _))⟩,.inr ⟨_,rfl,.inl (renV (rowsC_isV _))⟩,trivial⟩⟩ (ClM.of (by simp only[List.all_cons,inMV (rowsC_isV _)];rfl)) (ClE.of rfl) ?_
 refine Sm.loopM (M0:=dmm d) (α:={i:Nat//i≤d.bls.length∧lopR B d.bls.length=((List.range d.bls.length).drop i).find? (lps B d.bls.length)}) hP (fun i=>[(1,true,.c (.p 2 0)),(3,true,I i.val)]) (fun _=>(2,⟨false,dvs d,29⟩)::dmm d) (fun i=>d.bls.length-i.val) ⟨0,by omega,hlr⟩ (fun _=>ClM.of (by simp only[List.all_cons,inMV (rowsC_isV _)];rfl)) (fun _=>ClE.of rfl) [(2,2),(4,4),(5,5)] ?_ ?_
 ·exact⟨rfl,⟨⟨rfl,rfl⟩,⟨rfl,rfl⟩,trivial⟩,⟨rfl,rfl,trivial⟩,⟨.inr ⟨_,rfl,.inl rfl⟩,.inr ⟨_,rfl,.inl (renV (rowsC_isV _))⟩,.inr ⟨_,rfl,.inl (renV (rowsC_isV _))⟩,trivial⟩⟩
 rintro⟨i,hi,hx⟩ J hj
 simp only at hj hi hx⊢
 refine Sm.go 140 ?_
 refine vv ?_
 refine mtch (fun hc=>?_) (fun hc=>?_)
 ·have hc:=lt_of_dec hc
  have f1:=rows_one (r:=BlL.r) (k:=6) (fun _=>rfl) d.bls i 1 hc (by omega)
  have hnd:B i=need (sigs d.c) d.ins.length d.bls[i].c:=by rw[←hB];exact befB_get hc
  have hdr:(List.range d.bls.length).drop i=i::(List.range d.bls.length).drop (i+1):=by
   rw[List.drop_eq_getElem_cons (by simpa using hc)];simp
  rw[hdr,List.find?_cons]at hx
  have hlr2:=lop_rch hBl hc
  have hln:=lps_nil hBl hc
  have hre:=hre i hc
  have hrl:=rchL_len B d.bls.length i
  have hc0:=hc
  generalize d.bls[i]=b at*
  cases hkd:b.c.kd==delS with
  |true=>
   rw[hln (by rw[hnd];unfold need;rw[if_pos hkd])]at hx
   have hkd2:(b.c.kd==[100,101,108,97,121])=true:=hkd
   simp(maxSteps:=2000000) only[go_sem,f1,BlL.r,List.getElem?_cons_zero,List.getElem?_cons_succ,Option.map_some,hkd2,bne]
   refine⟨⟨by omega,by omega⟩,?_⟩
   refine CallQ.guard (xs:=[]) (v:= .c (.sl 5 0 1 6)) 150 (fun h=>by cases h) (fun h=>by cases h) ?_
   have f0:=rows_one (r:=BlL.r) (k:=6) (fun _=>rfl) d.bls i 0 hc0 (by omega)
   rw[Nat.add_zero]at f0
   simp(maxSteps:=2000000) only[go_sem,f0,BlL.r,List.getElem?_cons_zero,Option.map_some,wS (show i≤1000000000000000000 by omega)]
   exact hj _ _ ⟨i+1,hc,hx⟩ [(2,2),(4,4),(5,5)] (by simp only;omega) ⟨rfl,⟨⟨rfl,rfl⟩,⟨rfl,rfl⟩,trivial⟩,⟨rfl,rfl,trivial⟩,⟨.inr ⟨_,rfl,.inl rfl⟩,.inr ⟨_,rfl,.inl (renV (rowsC_isV _))⟩,.inr ⟨_,rfl,.inl (renV (rowsC_isV _))⟩,trivial⟩⟩
  |false=>
   have hkd2:(b.c.kd==[100,101,108,97,121])=false:=hkd
   simp(maxSteps:=2000000) only[go_sem,f1,BlL.r,List.getElem?_cons_zero,List.getElem?_cons_succ,Option.map_some,hkd2,bne]
   refine⟨⟨by omega,by omega⟩,?_⟩
   refine CallQ.hr [(4,4),(5,5),(1,150)] 151 hre hH (dmm_cl d) rfl rfl ⟨⟨_,rfl,.inl (renV (rowsC_isV _))⟩,⟨_,rfl,.inl (renV (rowsC_isV _))⟩,trivial⟩ rfl (.inl rfl) ?_
   simp only[Mem.ren,List.map_cons,List.map_nil,renV (v_bC _),V.ren,Cv.ren,rn,Nat.reduceBEq,cond_true,cond_false]
   have hg:=get_bC (l:=rchL B d.bls.length i) (i:=i) (by omega)
   simp(maxSteps:=2000000) only[go_sem,hg]
   refine⟨⟨by omega,by omega⟩,?_⟩
   rw[hlr2]
   cases hl:lps B d.bls.length i with
   |true=>
    rw[hl]at hx
    have hx:lopR B d.bls.length=some i:=hx
    rw[hx]at hR
    refine vv ?_
    exact RetQ.of hR rfl scc rvv (SubS.sub ⟨⟨_,rfl,.inl rfl⟩,⟨_,rfl,.inl rfl⟩,trivial⟩) (dmm_cl d) (ClV.of rfl)
   |false=>
    rw[hl]at hx
    simp(maxSteps:=2000000) only[go_sem,wS (show i≤1000000000000000000 by omega)]
    exact hj _ _ ⟨i+1,hc,hx⟩ [(2,2),(4,4),(5,5)] (by simp only;omega) ⟨rfl,⟨⟨rfl,rfl⟩,⟨rfl,rfl⟩,trivial⟩,⟨rfl,rfl,trivial⟩,⟨.inr ⟨_,rfl,.inl rfl⟩,.inr ⟨_,rfl,.inl (renV (rowsC_isV _))⟩,.inr ⟨_,rfl,.inl (renV (rowsC_isV _))⟩,trivial⟩⟩
 ·have hc:=eq_of_dec hi hc
  subst hc
  rw[List.drop_of_length_le (by simp)]at hx
  have hx:lopR B d.bls.length=none:=hx
  rw[hx]at hR
  exact RetQ.of hR rfl scc rvv (SubS.sub ⟨⟨_,rfl,.inl rfl⟩,⟨_,rfl,.inl rfl⟩,trivial⟩) (dmm_cl d) (ClV.of rfl)
theorem _root_.Go.Proofs.YtkciabfilokfiaaGreat.Vg.CallQ.hS {P:Program}{nt:Nat}{C:Cx}{todo:List It}{e:Env}{M:Mem}{H:Hp}{f:FuncId}{vs:List (Option (Bool×V))}{g:Bool}{dst:Option Nat}{xs:List V}{v:V}(hc:CallH H P f xs v)(hH:H.le C.hp)(hvs:vs=xs.map fun x=>some (true,x))(h:Sm P nt C todo (e.put dst g v) M):
  CallQ P nt C f vs g dst todo e M:=Or.inl ⟨[],[],v,xs,fun _=>hvs,fun _=> .inr (hc.kx hH),Sub.nil _,ClM.nil,Fresh.nil _ _,.inr rfl,h⟩
theorem eqNn_ (l:List Nat)(hl:l.length≤1000000000000000):CallOk Tryz.prog 22 [.c (.sl 1 0 l.length 1),.c (.sl 2 0 l.length 1)] [(1,⟨true,l.map nC,3⟩),(2,⟨true,l.map nC,3⟩)] (Bo true) []:=by
 have hM:ClM [(1,⟨true,l.map nC,3⟩),(2,⟨true,l.map nC,3⟩)]:=ClM.of (by simp only[List.all_cons,inMV (v_nC _)];rfl)
 refine CallOk.mkN 100 Tryz.func22 rfl en22 (by simp[Tryz.ntmps22]) (ClA.of rfl) rfl rfl fun C hR hP=>?_
 simp(maxSteps:=2000000) only[go_sem,bne_self_eq_false]
 refine Sm.loopM (M0:=[(1,⟨true,l.map nC,3⟩),(2,⟨true,l.map nC,3⟩)]) (α:={i:Nat//i≤l.length}) hP (fun i=>[(0,true,.c (.sl 1 0 l.length 1)),(1,true,.c (.sl 2 0 l.length 1)),(12,true,I l.length),(13,true,I i.val)])
  (fun _=>[(1,⟨true,l.map nC,3⟩),(2,⟨true,l.map nC,3⟩)]) (fun i=>l.length-i.val) ⟨0,by omega⟩ (fun _=>hM) (fun _=>ClE.of rfl) [(1,1),(2,2)] ?_ ?_
 ·exact⟨rfl,⟨⟨rfl,rfl⟩,⟨rfl,rfl⟩,trivial⟩,⟨rfl,rfl,rfl,rfl,trivial⟩,⟨.inr ⟨_,rfl,.inl (renV (v_nC _))⟩,.inr ⟨_,rfl,.inl (renV (v_nC _))⟩,trivial⟩⟩
 rintro⟨i,hi⟩ J hj
 simp only at hj hi⊢
 refine Sm.go 110 ?_
 refine vv ?_
 refine mtch (fun hc=>?_) (fun hc=>?_)
 ·have hc:=lt_of_dec hc
  have gi:=get_nC hc
  refine Sm.dg 110 8 mix ?_
  simp(maxSteps:=2000000) only[go_sem,gi,bne_self_eq_false,beq_self_eq_true,wS (show i≤1000000000000000000 by omega)]
  exact⟨⟨by omega,by omega⟩,⟨by omega,by omega⟩,hj _ _ ⟨i+1,hc⟩ [(1,1),(2,2)] (by simp only;omega) ⟨rfl,⟨⟨rfl,rfl⟩,⟨rfl,rfl⟩,trivial⟩,⟨rfl,rfl,rfl,rfl,trivial⟩,⟨.inr ⟨_,rfl,.inl (renV (v_nC _))⟩,.inr ⟨_,rfl,.inl (renV (v_nC _))⟩,trivial⟩⟩⟩
 ·exact RetQ.of hR rfl scc rfl (SubS.sub ⟨⟨_,rfl,.inl rfl⟩,⟨_,rfl,.inl rfl⟩,trivial⟩) hM (ClV.of rfl)
theorem fst_none {d:Dg}{l:List Bl}(h:fstA d l=none):∀b∈l,∀s∈b.ins,sgB (sigs d) s=true:=by
 intro b hb s hs
 have h1:argQ (sigs d) b.ins=none:=List.findSome?_eq_none_iff.1 h b hb
 generalize b.ins=q at*
 induction q with
 |nil=>cases hs
 |cons x q ih=>
  rw[argQ_cons]at h1
  cases hx:sgB (sigs d) x with
  |false=>rw[hx]at h1;cases h1
  |true=>
   rw[hx,cond_true]at h1
   rcases List.mem_cons.1 hs with rfl|hs
   ·exact hx
   ·exact ih hs h1
theorem rsorted_ {H:Hp}(d:DgL)(hd:d.ok H)(hs:d.sm):CallX H Tryz.prog 26 [rowV d.r] [] (fun _:Unit=> .tup [.c (.sl 1 0 (orderQ d.c).1.length 1),Ws (orderQ d.c).2.1,Wi (orderQ d.c).2.2]) (fun _=>[bNt 1 (orderQ d.c).1]) (fun _ _=>True):=by
 refine CallX.mkS Tryz.func26 rfl en26 (by simp[Tryz.ntmps26]) (ClA.of rfl) (fun _=>rfl) (fun _=>rfl) fun C hR hP hH hL=>?_
 have hR:=hR ()
 refine Sm.go 100 ?_
 refine vv ?_
 have n4:(d.ins.map Po.r).length=d.ins.length:=List.length_map _
 have n5:(d.bls.map BlL.r).length=d.bls.length:=List.length_map _
 have z5:=rows_len (r:=BlL.r) (k:=6) (fun _=>rfl) d.bls
 have hsl:=sigs_len d
 have hR:=hR C hL trivial
 refine CallQ.hS (rdvalid d hd hs) hH rfl ?_
 refine Sm.bringC 4 51 100 4 (hd.i.mono hH) rfl rfl rfl ?_
 refine Sm.bringC 5 53 100 5 (hd.bl.mono hH) rfl rfl rfl ?_
 rw[n4,n5]
 refine Sm.go 110 ?_
 refine vv ?_
 refine mtch (fun hv=>?_) (fun hv=>?_)
 ·have hq:orderQ d.c=([],[],1):=by unfold orderQ;rw[hv];rfl
  rw[hq]at hR
  refine RetQ.nils 140 1 3 [2] [] rfl ?_
  refine vv ?_
  exact RetQ.ren [(1,140)] hR hP rfl scc rfl rfl trivial ⟨.inr ⟨_,rfl,.inl rfl⟩,trivial⟩ (ClM.of rfl) (ClV.of rfl)
 have hv2:dgOk d.c=true:=by simpa using hv
 have B:=dgB hv2
 have hB1:=B.ins
 have hB2:=B.bls
 unfold orderQ at hR
 rw[hv,cond_false]at hR
 refine CallQ.ren [(4,4),(5,5),(1,120)] 121 (signals_ d (by omega) (by omega)) (dmm_cl d) rfl rfl ⟨⟨_,rfl,.inl (renV (rowsC_isV _))⟩,⟨_,rfl,.inl (renV (rowsC_isV _))⟩,trivial⟩ rfl (.inl rfl) ?_
 simp only[Mem.ren,List.map_cons,List.map_nil,renV (v_sC _),V.ren,Cv.ren,rn,Nat.reduceBEq,cond_true,cond_false]
 refine vv ?_
 refine CallQ.ren [(1,120)] 121 (rtwice_ (sigs d.c) (by omega)) (ClM.v (by simp only[List.all_cons,v_sC];rfl)) rfl rfl ⟨⟨_,rfl,wkV (v_sC _)⟩,trivial⟩ rfl (.inr rfl) ?_
 cases hdup:dupF [] (sigs d.c)with
 |some s=>
  rw[hdup]at hR
  refine vv ?_
  refine RetQ.nils 140 1 3 [2] [] rfl ?_
  refine vv ?_
  exact RetQ.ren [(1,140)] hR hP rfl scc rfl rfl trivial ⟨.inr ⟨_,rfl,.inl rfl⟩,trivial⟩ (ClM.of rfl) (ClV.of rfl)
 |none=>
 rw[hdup]at hR
 refine vv ?_
 have hfb:d.c.bls=d.bls.map BlL.c:=rfl
 refine Sm.loopM (M0:=[]) (α:={i:Nat//i≤d.bls.length∧fstA d.c d.c.bls=fstA d.c ((d.bls.drop i).map BlL.c)}) hP (fun i=>[(1,true,.c (.p 2 0)),(7,true,I i.val)]) (fun _=>(2,⟨false,dvs d,29⟩)::dmm d) (fun i=>d.bls.length-i.val) ⟨0,by omega,rfl⟩ (fun _=>ClM.of (by simp only[List.all_cons,inMV (rowsC_isV _)];rfl)) (fun _=>ClE.of rfl) [(2,100),(4,4),(5,5)] ?_ ?_
 ·exact⟨rfl,trivial,⟨rfl,rfl,trivial⟩,⟨.inr ⟨_,rfl,.inl rfl⟩,.inr ⟨_,rfl,.inl (renV (rowsC_isV _))⟩,.inr ⟨_,rfl,.inl (renV (rowsC_isV _))⟩,trivial⟩⟩
 rintro⟨i,hi,hx⟩ J hj
 simp only at hj hi hx⊢
 refine Sm.go 150 ?_
 refine vv ?_
 refine mtch (fun hc=>?_) (fun hc=>?_)
 ·have hc:=lt_of_dec hc
  have htk:=rows_take (r:=BlL.r) (k:=6) (fun _=>rfl) d.bls i hc
  have hmem:d.bls[i]∈d.bls:=List.getElem_mem hc
  have hbo:=hd.bls _ hmem
  have hbk:=blO_in (B.blO _ hmem)
  rw[List.drop_eq_getElem_cons hc,List.map_cons,fstA,fstA,List.findSome?_cons]at hx
  generalize d.bls[i]=b at*
  have harg:=rargument_ d (by omega) (by omega) b hbo (by omega)
  refine Sm.dg 160 11 mix ?_
  simp(maxSteps:=2000000) only[go_sem,htk,z5]
  refine⟨⟨by omega,by omega⟩,by omega,?_⟩
  refine DCallQ.hr [(4,4),(5,5)] 160 harg hH (dmm_cl d) rfl rfl ⟨⟨_,rfl,.inl (renV (rowsC_isV _))⟩,⟨_,rfl,.inl (renV (rowsC_isV _))⟩,trivial⟩ rfl (.inr rfl) rfl rfl ?_
  cases ha:argQ (sigs d.c) b.c.ins with
  |some s=>
   rw[ha]at hx
   have hx:fstA d.c d.c.bls=some s:=hx
   rw[hx]at hR
   refine vv ?_
   refine RetQ.nils 170 1 3 [2] [] rfl ?_
   refine vv ?_
   exact RetQ.ren [(1,170)] hR hP rfl scc rfl rfl trivial ⟨.inr ⟨_,rfl,.inl rfl⟩,trivial⟩ (ClM.of rfl) (ClV.of rfl)
  |none=>
   rw[ha]at hx
   simp(maxSteps:=2000000) only[go_sem,wS (show i≤1000000000000000000 by omega)]
   exact hj _ _ ⟨i+1,hc,hx⟩ [(2,2),(4,4),(5,5)] (by simp only;omega) ⟨rfl,trivial,⟨rfl,rfl,trivial⟩,⟨.inr ⟨_,rfl,.inl rfl⟩,.inr ⟨_,rfl,.inl (renV (rowsC_isV _))⟩,.inr ⟨_,rfl,.inl (renV (rowsC_isV _))⟩,trivial⟩⟩
 have hc:=eq_of_dec hi hc
 rw[hc,List.drop_length]at hx
 have hx:fstA d.c d.c.bls=none:=hx
 have hin:∀b∈d.bls,∀s∈b.c.ins,sgB (sigs d.c) s=true:=fun b hb s hs'=>fst_none hx b.c (List.mem_map.2 ⟨b,hb,rfl⟩) s hs'
 have hlI:∀b∈d.bls,b.c.ins.length≤1000000:=fun b hb=>by have:=blO_in (B.blO b hb);omega
 rw[hx]at hR
 refine CallQ.hr [(4,4),(5,5)] 170 (rloop_ d hd (by omega) (by omega) hlI hin) hH (dmm_cl d) rfl rfl ⟨⟨_,rfl,.inl (renV (rowsC_isV _))⟩,⟨_,rfl,.inl (renV (rowsC_isV _))⟩,trivial⟩ rfl (.inr rfl) ?_
 have hbl:d.c.bls.length=d.bls.length:=List.length_map _
 have hlN:lopN d.c=(lopR (befB d.c) d.bls.length).map fun i=>match d.c.bls[i]? with
  |some b=>b.nm
  |none=>[]:=by rw[←hbl];rfl
 have hlt:∀i,lopR (befB d.c) d.bls.length=some i→i<d.bls.length:=fun i h=>by
  unfold lopR at h
  split at h
  ·cases h
  ·exact List.mem_range.1 (List.mem_of_find?_eq_some h)
 cases hlo:lopR (befB d.c) d.bls.length with
 |some i=>
  have hc:=hlt i hlo
  rw[hlo]at hlN
  have hlN:lopN d.c=some d.bls[i].c.nm:=by
   rw[hlN]
   have:d.c.bls[i]?=some d.bls[i].c:=by simp[DgL.c,hc]
   simp only[Option.map_some,this]
  rw[hlN]at hR
  have hdc:decide (0≤(i:Int))=true:=decide_eq_true (by omega)
  have f0:=rows_one (r:=BlL.r) (k:=6) (fun _=>rfl) d.bls i 0 hc (by omega)
  rw[Nat.add_zero]at f0
  simp(maxSteps:=2000000) only[go_sem,oI,hdc]
  refine Sm.dg 180 7 mix ?_
  simp(maxSteps:=2000000) only[go_sem,f0,BlL.r,List.getElem?_cons_zero,Option.map_some]
  refine⟨⟨by omega,by omega⟩,?_⟩
  refine RetQ.nils 190 1 3 [2] [] rfl ?_
  refine vv ?_
  exact RetQ.ren [(1,190)] hR hP rfl scc rfl rfl trivial ⟨.inr ⟨_,rfl,.inl rfl⟩,trivial⟩ (ClM.of rfl) (ClV.of rfl)
 |none=>
  rw[hlo]at hlN
  have hlN:lopN d.c=none:=hlN
  rw[hlN]at hR
  rw[hbl]at hR
  simp(maxSteps:=2000000) only[go_sem,oI]
  refine CallQ.hr [(4,4),(5,5),(1,180)] 181 (rorder_ d hd (by omega) (by omega) hlI hin) hH (dmm_cl d) rfl rfl ⟨⟨_,rfl,.inl (renV (rowsC_isV _))⟩,⟨_,rfl,.inl (renV (rowsC_isV _))⟩,trivial⟩ rfl (.inl rfl) ?_
  simp only[Mem.ren,List.map_cons,List.map_nil,renV (v_nC _),V.ren,Cv.ren,rn,Nat.reduceBEq,cond_true,cond_false]
  refine vv ?_
  exact RetQ.ren [(1,180)] hR hP rfl scc rfl rfl trivial ⟨.inr ⟨_,rfl,.inl (renV (v_nC _))⟩,trivial⟩ (ClM.of (by simp only[List.cons_append,List.nil_append,List.all_cons,inMV (v_nC _)];rfl)) (ClV.of rfl)
theorem ordQ_len (d:Dg):(orderQ d).1.length≤1000:=by
 cases hv:dgOk d with
 |false=>unfold orderQ;rw[hv];simp
 |true=>
  have hb:d.bls.length≤200:=by
   unfold dgOk at hv
   simp only[Bool.and_eq_true,decide_eq_true_eq,List.all_eq_true]at hv
   exact hv.2.2.1
  have:=ordR_len (befB d) d.bls.length
  unfold orderQ
  rw[hv,Bool.not_true,cond_false]
  split
  ·simp
  ·split
   ·simp
   ·split
    ·simp
    ·simp only;omega
theorem orders_ {H:Hp}(d:DgL)(hd:d.ok H)(hs:d.sm)(haw:CallH H Tryz.prog 11 [] (Bo true)):CallX H Tryz.prog 8 [rowV d.r] [] (fun _:Unit=>Bo true) (fun _=>[]) (fun _ _=>True):=by
 have hlen:=ordQ_len d.c
 refine CallX.mkS Tryz.func8 rfl en8 (by simp[Tryz.ntmps8]) (ClA.of rfl) (fun _=>rfl) (fun _=>rfl) fun C hR hP hH hL=>?_
 have hR:=hR ()
 refine Sm.go 100 ?_
 refine vv ?_
 refine CallQ.h 110 haw hH rfl ?_
 refine vv ?_
 refine CallQ.h 110 (great_ d hd hs) hH rfl ?_
 refine vv ?_
 refine mtch (fun hg=>?_) (fun hg=>?_)
 ·exact RetQ.of (hR C hL trivial) rfl scc rvv (Sub.nil _) ClM.nil (ClV.of rfl)
 refine CallQ.hr [(1,130)] 131 (Order_ d hd hs) hH ClM.nil rfl rfl trivial rfl (.inl rfl) ?_
 simp only[Mem.ren,List.map_cons,List.map_nil,renV (v_nC _),V.ren,Cv.ren,rn,Nat.reduceBEq,cond_true,cond_false]
 refine vv ?_
 refine CallQ.hr [(1,140)] 141 (rsorted_ d hd hs) hH ClM.nil rfl rfl trivial rfl (.inl rfl) ?_
 simp only[Mem.ren,List.map_cons,List.map_nil,renV (v_nC _),V.ren,Cv.ren,rn,Nat.reduceBEq,cond_true,cond_false]
 generalize orderQ d.c=q at*
 obtain⟨l,s,e⟩:=q
 simp only at hlen⊢
 simp(maxSteps:=2000000) only[go_sem,beq_self_eq_true]
 refine CallQ.ren [(1,130),(2,140)] 150 (eqNn_ l (by omega)) (ClM.of (by simp only[List.all_cons,inMV (v_nC _)];rfl)) rfl rfl ⟨⟨_,rfl,wkV (v_nC _)⟩,⟨_,rfl,wkV (v_nC _)⟩,trivial⟩ rfl (.inr rfl) ?_
 refine vv ?_
 exact RetQ.of (hR C hL trivial) rfl scc rvv (Sub.nil _) ClM.nil (ClV.of rfl)
end Go.Proofs.YtkciabfilokfiaaGreat.Fx
