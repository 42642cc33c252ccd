/-  -/
import Derived.Test.YtkciabfilokfiaaGreatPS
import Derived.Test.YtkciabfilokfiaaGreatRJ
import Derived.Test.YtkciabfilokfiaaGreatQY
import Derived.Test.YtkciabfilokfiaaGreatRQ
namespace Go.Proofs.YtkciabfilokfiaaGreat.Fx
open Vg Tf
set_option linter.unusedSimpArgs false
set_option linter.unusedVariables false
set_option maxRecDepth 100000
set_option maxHeartbeats 4000000
@[reducible,go_sem] def dvs (d:DgL):List Cv:=[.v (sv d.nm),.v (vsl d.ty d.tys.length),.v (vsl d.cu d.cus.length),.v (vsl d.ma d.mas.length),.sl 4 0 d.ins.length 4,.sl 5 0 d.bls.length 6,.v (vsl d.ou d.ous.length)]
@[reducible,go_sem] def dmm (d:DgL):Mem:=[(4,⟨true,rowsC (d.ins.map Po.r),51⟩),(5,⟨true,rowsC (d.bls.map BlL.r),53⟩)]
theorem dmm_cl (d:DgL):ClM (dmm d):=ClM.of (by simp only[List.all_cons,inMV (rowsC_isV _)];rfl)
def fndQ (l:List Str)(s:Str):Int:=match idxS s l 0 with
 |some i=>(i:Int)
 |none=> -1
theorem idxS_step (s:Str)(L:List Str)(i:Nat)(h:i<L.length):idxS s (L.drop i) i=if L.getD i []=s then some i else idxS s (L.drop (i+1)) (i+1):=by
 rw[List.drop_eq_getElem_cons h,idxS,List.getD_eq_getElem?_getD,List.getElem?_eq_getElem h];rfl
theorem sgs_in2 (d:DgL){i:Nat}(h:i<d.ins.length):(sigs d.c).getD i []=d.ins[i].nm:=by
 unfold sigs
 rw[List.getD_eq_getElem?_getD,List.getElem?_append_left (by rw[List.length_map];exact h),List.getElem?_map]
 have:d.c.ins[i]?=some d.ins[i]:=List.getElem?_eq_getElem h
 rw[this];rfl
theorem sgs_bl2 (d:DgL){i:Nat}(h:i<d.bls.length):(sigs d.c).getD (d.ins.length+i) []=d.bls[i].c.nm:=by
 unfold sigs
 have hl:(d.c.ins.map (·.nm)).length=d.ins.length:=List.length_map _
 rw[List.getD_eq_getElem?_getD,List.getElem?_append_right (by rw[hl];omega),hl,show d.ins.length+i-d.ins.length=i by omega,List.getElem?_map]
 have:d.c.bls[i]?=some d.bls[i].c:=by simp[DgL.c,h]
 rw[this];rfl
theorem find_ (d:DgL)(s:Str)(h1:d.ins.length≤1000000000000000)(h2:d.bls.length≤1000000000000000):CallOk Tryz.prog 128 [.agg (dvs d),S s] (dmm d) (I (fndQ (sigs d.c) s)) []:=by
 have hsl:=sigs_len d
 have z4:=rows_len (r:=Po.r) (k:=4) (fun _=>rfl) d.ins
 have z5:=rows_len (r:=BlL.r) (k:=6) (fun _=>rfl) d.bls
 refine CallOk.mkN 100 Tryz.func128 rfl en128 (by simp[Tryz.ntmps128]) (ClA.of rfl) rfl rfl fun C hR hP=>?_
 refine vv ?_
 refine Sm.loopM (M0:=dmm d) (α:={i:Nat//i≤d.ins.length∧idxS s (sigs d.c) 0=idxS s ((sigs d.c).drop i) i}) hP (fun i=>[(1,true,S s),(2,true,.c (.p 2 0)),(5,true,I i.val)]) (fun _=>(2,⟨false,dvs d,29⟩)::dmm d) (fun i=>d.ins.length-i.val) ⟨0,by omega,rfl⟩ (fun _=>ClM.of (by simp only[List.all_cons,inMV (rowsC_isV _)];rfl)) (fun _=>ClE.of rfl) [(2,100),(4,4),(5,5)] ?_ ?_
 ·exact⟨rfl,⟨⟨rfl,rfl⟩,⟨rfl,rfl⟩,trivial⟩,⟨rfl,rfl,rfl,trivial⟩,⟨.inr ⟨_,rfl,.inl rfl⟩,.inr ⟨_,rfl,.inl (renV (rowsC_isV _))⟩,.inr ⟨_,rfl,.inl (renV (rowsC_isV _))⟩,trivial⟩⟩
 rintro⟨i,hi,hx⟩ J hj
 simp only at hj hi hx⊢
 refine Sm.go 120 ?_
 refine vv ?_
 refine mtch (fun hc=>?_) (fun hc=>?_)
 ·have hc:=lt_of_dec hc
  rw[idxS_step s _ i (by omega),sgs_in2 d hc]at hx
  have f0:=rows_one (r:=Po.r) (k:=4) (fun _=>rfl) d.ins i 0 hc (by omega)
  rw[Nat.add_zero]at f0
  generalize d.ins[i]=x at*
  simp(maxSteps:=2000000) only[go_sem,f0,Po.r,List.getElem?_cons_zero,Option.map_some]
  refine⟨⟨by omega,by omega⟩,?_⟩
  refine mtch (fun hd=>?_) (fun hd=>?_)
  ·rw[if_pos (eq_of_beq hd)]at hx
   refine RetQ.of hR rfl ⟨rfl,trivial⟩ ?_ (SubS.sub ⟨⟨_,rfl,.inl rfl⟩,⟨_,rfl,.inl rfl⟩,trivial⟩) (dmm_cl d) (ClV.of rfl)
   unfold fndQ;rw[hx];rfl
  ·rw[if_neg (fun h=>by rw[h]at hd;simp at hd)]at hx
   simp(maxSteps:=2000000) only[go_sem,wS (show i≤1000000000000000000 by omega)]
   exact hj _ _ ⟨i+1,hc,hx⟩ [(2,2),(4,4),(5,5)] (by simp only;omega) ⟨rfl,⟨⟨rfl,rfl⟩,⟨rfl,rfl⟩,trivial⟩,⟨rfl,rfl,rfl,trivial⟩,⟨.inr ⟨_,rfl,.inl rfl⟩,.inr ⟨_,rfl,.inl (renV (rowsC_isV _))⟩,.inr ⟨_,rfl,.inl (renV (rowsC_isV _))⟩,trivial⟩⟩
 have hc:=eq_of_dec hi hc
 subst hc
 refine vv ?_
 refine Sm.loopM (M0:=dmm d) (α:={i:Nat//i≤d.bls.length∧idxS s (sigs d.c) 0=idxS s ((sigs d.c).drop (d.ins.length+i)) (d.ins.length+i)}) hP (fun i=>[(1,true,S s),(2,true,.c (.p 2 0)),(6,true,I i.val)]) (fun _=>(2,⟨false,dvs d,29⟩)::dmm d) (fun i=>d.bls.length-i.val) ⟨0,by omega,hx⟩ (fun _=>ClM.of (by simp only[List.all_cons,inMV (rowsC_isV _)];rfl)) (fun _=>ClE.of rfl) [(2,2),(4,4),(5,5)] ?_ ?_
 ·exact⟨rfl,⟨⟨rfl,rfl⟩,⟨rfl,rfl⟩,trivial⟩,⟨rfl,rfl,rfl,trivial⟩,⟨.inr ⟨_,rfl,.inl rfl⟩,.inr ⟨_,rfl,.inl (renV (rowsC_isV _))⟩,.inr ⟨_,rfl,.inl (renV (rowsC_isV _))⟩,trivial⟩⟩
 rintro⟨i,hi,hx⟩ J hj
 simp only at hj hi hx⊢
 refine Sm.go 120 ?_
 refine vv ?_
 refine mtch (fun hc=>?_) (fun hc=>?_)
 ·have hc:=lt_of_dec hc
  rw[idxS_step s _ _ (by omega),sgs_bl2 d hc]at hx
  have f0:=rows_one (r:=BlL.r) (k:=6) (fun _=>rfl) d.bls i 0 hc (by omega)
  rw[Nat.add_zero]at f0
  generalize d.bls[i]=x at*
  have ew:IntKind.i64.wrap ((d.ins.length:Int)+(i:Int))=((d.ins.length+i:Nat):Int):=by rw[w64 (by omega) (by omega)];omega
  simp(maxSteps:=2000000) only[go_sem,f0,BlL.r,List.getElem?_cons_zero,Option.map_some,ew]
  refine⟨⟨by omega,by omega⟩,?_⟩
  refine mtch (fun hd=>?_) (fun hd=>?_)
  ·rw[if_pos (eq_of_beq hd)]at hx
   refine RetQ.of hR rfl ⟨rfl,trivial⟩ ?_ (SubS.sub ⟨⟨_,rfl,.inl rfl⟩,⟨_,rfl,.inl rfl⟩,trivial⟩) (dmm_cl d) (ClV.of rfl)
   unfold fndQ;rw[hx];rfl
  ·rw[if_neg (fun h=>by rw[h]at hd;simp at hd)]at hx
   simp(maxSteps:=2000000) only[go_sem,wS (show i≤1000000000000000000 by omega)]
   exact hj _ _ ⟨i+1,hc,hx⟩ [(2,2),(4,4),(5,5)] (by simp only;omega) ⟨rfl,⟨⟨rfl,rfl⟩,⟨rfl,rfl⟩,trivial⟩,⟨rfl,rfl,rfl,trivial⟩,⟨.inr ⟨_,rfl,.inl rfl⟩,.inr ⟨_,rfl,.inl (renV (rowsC_isV _))⟩,.inr ⟨_,rfl,.inl (renV (rowsC_isV _))⟩,trivial⟩⟩
 have hc:=eq_of_dec hi hc
 subst hc
 rw[List.drop_eq_nil_of_le (by omega)]at hx
 refine vv ?_
 refine RetQ.of hR rfl ⟨rfl,trivial⟩ ?_ (SubS.sub ⟨⟨_,rfl,.inl rfl⟩,⟨_,rfl,.inl rfl⟩,trivial⟩) (dmm_cl d) (ClV.of rfl)
 unfold fndQ;rw[hx];rfl
theorem take_snoc (L:List Str)(i:Nat)(h:i<L.length):List.take i ((L.take i).map sC)++[sC (L.getD i [])]=(L.take (i+1)).map sC:=by
 have hl:((L.take i).map sC).length=i:=by rw[List.length_map,List.length_take];omega
 rw[List.take_of_length_le (by omega),List.take_succ_eq_append_getElem h,List.map_append,List.getD_eq_getElem?_getD,List.getElem?_eq_getElem h];rfl
theorem signals_ (d:DgL)(h1:d.ins.length≤1000000)(h2:d.bls.length≤1000000):CallOk Tryz.prog 63 [.agg (dvs d)] (dmm d) (.c (.sl 1 0 (sigs d.c).length 1)) [bNm 1 (sigs d.c)]:=by
 have hsl:=sigs_len d
 have z4:=rows_len (r:=Po.r) (k:=4) (fun _=>rfl) d.ins
 have z5:=rows_len (r:=BlL.r) (k:=6) (fun _=>rfl) d.bls
 refine CallOk.mkN 100 Tryz.func63 rfl en63 (by simp[Tryz.ntmps63]) (ClA.of rfl) rfl rfl fun C hR hP=>?_
 refine vv ?_
 refine Sm.nils 140 1 9 [3] [] rfl ?_
 refine vv ?_
 refine Sm.loopM (M0:=dmm d) (α:={i:Nat//i≤d.ins.length}) hP (fun i=>[(1,true,.c (.p 2 0)),(3,true,.c (.sl 3 0 i.val 1)),(4,true,I i.val)]) (fun i=>(2,⟨false,dvs d,29⟩)::(3,⟨false,((sigs d.c).take i.val).map sC,9⟩)::dmm d) (fun i=>d.ins.length-i.val) ⟨0,by omega⟩ (fun _=>ClM.of (by simp only[List.all_cons,inMV (rowsC_isV _),inMV (v_sC _)];rfl)) (fun _=>ClE.of rfl) [(2,100),(3,140),(4,4),(5,5)] ?_ ?_
 ·exact⟨rfl,⟨⟨rfl,rfl⟩,⟨rfl,rfl⟩,trivial⟩,⟨rfl,rfl,rfl,trivial⟩,⟨.inr ⟨_,rfl,.inl rfl⟩,.inr ⟨_,rfl,.inl rfl⟩,.inr ⟨_,rfl,.inl (renV (rowsC_isV _))⟩,.inr ⟨_,rfl,.inl (renV (rowsC_isV _))⟩,trivial⟩⟩
 ·rintro⟨i,hi⟩ J hj
  simp only at hj hi⊢
  refine Sm.go 150 ?_
  refine vv ?_
  refine mtch (fun hc=>?_) (fun hc=>?_)
  ·have hc:=lt_of_dec hc
   have f0:=rows_one (r:=Po.r) (k:=4) (fun _=>rfl) d.ins i 0 hc (by omega)
   have hsn:=take_snoc (sigs d.c) i (by omega)
   have hlm:(((sigs d.c).take i).map sC).length=i:=by rw[List.length_map,List.length_take];omega
   rw[sgs_in2 d hc]at hsn
   rw[Nat.add_zero]at f0
   generalize d.ins[i]=x at*
   simp(maxSteps:=2000000) only[go_sem,f0,Po.r,List.getElem?_cons_zero,Option.map_some,hlm,hsn,wS (show i≤1000000000000000000 by omega)]
   refine⟨⟨by omega,by omega⟩,⟨by omega,by omega,by omega⟩,?_⟩
   exact hj _ _ ⟨i+1,hc⟩ [(2,2),(3,151),(4,4),(5,5)] (by simp only;omega) ⟨rfl,⟨⟨rfl,rfl⟩,⟨rfl,rfl⟩,trivial⟩,⟨rfl,rfl,rfl,trivial⟩,⟨.inr ⟨_,rfl,.inl rfl⟩,.inr ⟨_,rfl,.inl (renV (v_sC _))⟩,.inr ⟨_,rfl,.inl (renV (rowsC_isV _))⟩,.inr ⟨_,rfl,.inl (renV (rowsC_isV _))⟩,trivial⟩⟩
  have hc:=eq_of_dec hi hc
  subst hc
  refine vv ?_
  refine Sm.loopM (M0:=dmm d) (α:={i:Nat//i≤d.bls.length}) hP (fun i=>[(1,true,.c (.p 2 0)),(3,true,.c (.sl 3 0 (d.ins.length+i.val) 1)),(5,true,I i.val)]) (fun i=>(2,⟨false,dvs d,29⟩)::(3,⟨false,((sigs d.c).take (d.ins.length+i.val)).map sC,9⟩)::dmm d) (fun i=>d.bls.length-i.val) ⟨0,by omega⟩ (fun _=>ClM.of (by simp only[List.all_cons,inMV (rowsC_isV _),inMV (v_sC _)];rfl)) (fun _=>ClE.of rfl) [(2,2),(3,3),(4,4),(5,5)] ?_ ?_
  ·exact⟨rfl,⟨⟨rfl,rfl⟩,⟨rfl,rfl⟩,trivial⟩,⟨rfl,rfl,rfl,trivial⟩,⟨.inr ⟨_,rfl,.inl rfl⟩,.inr ⟨_,rfl,.inl (renV (v_sC _))⟩,.inr ⟨_,rfl,.inl (renV (rowsC_isV _))⟩,.inr ⟨_,rfl,.inl (renV (rowsC_isV _))⟩,trivial⟩⟩
  rintro⟨i,hi⟩ J hj
  simp only at hj hi⊢
  refine Sm.go 150 ?_
  refine vv ?_
  refine mtch (fun hc=>?_) (fun hc=>?_)
  ·have hc:=lt_of_dec hc
   have f0:=rows_one (r:=BlL.r) (k:=6) (fun _=>rfl) d.bls i 0 hc (by omega)
   have hsn:=take_snoc (sigs d.c) (d.ins.length+i) (by omega)
   have hlm:(((sigs d.c).take (d.ins.length+i)).map sC).length=d.ins.length+i:=by rw[List.length_map,List.length_take];omega
   rw[sgs_bl2 d hc]at hsn
   rw[Nat.add_zero]at f0
   generalize d.bls[i]=x at*
   simp(maxSteps:=2000000) only[go_sem,f0,BlL.r,List.getElem?_cons_zero,Option.map_some,hlm,hsn,wS (show i≤1000000000000000000 by omega)]
   refine⟨⟨by omega,by omega⟩,⟨by omega,by omega,by omega⟩,?_⟩
   exact hj _ _ ⟨i+1,hc⟩ [(2,2),(3,151),(4,4),(5,5)] (by simp only;omega) ⟨rfl,⟨⟨rfl,rfl⟩,⟨rfl,rfl⟩,trivial⟩,⟨rfl,rfl,rfl,trivial⟩,⟨.inr ⟨_,rfl,.inl rfl⟩,.inr ⟨_,rfl,.inl (renV (v_sC _))⟩,.inr ⟨_,rfl,.inl (renV (rowsC_isV _))⟩,.inr ⟨_,rfl,.inl (renV (rowsC_isV _))⟩,trivial⟩⟩
  have hc:=eq_of_dec hi hc
  subst hc
  rw[←hsl,List.take_length]
  exact RetQ.ren [(1,3),(4,4),(5,5)] hR hP rfl scc rfl rfl ⟨⟨rfl,rfl⟩,⟨rfl,rfl⟩,trivial⟩ ⟨.inr ⟨_,rfl,.inl (renV (v_sC _))⟩,.inr ⟨_,rfl,.inl (renV (rowsC_isV _))⟩,.inr ⟨_,rfl,.inl (renV (rowsC_isV _))⟩,trivial⟩ (ClM.of (by simp only[List.cons_append,List.nil_append,List.all_cons,inMV (v_sC _),inMV (rowsC_isV _),inMV (v_v _)];rfl)) (ClV.of rfl)
theorem dupF_at (l:List Str)(i:Nat)(h:i<l.length):dupF (l.take i).reverse (l.drop i)=bif (l.take i).contains l[i]then some l[i]else dupF (l.take (i+1)).reverse (l.drop (i+1)):=by
 rw[List.drop_eq_getElem_cons h,dupF,List.take_succ_eq_append_getElem h,List.reverse_append]
 have:(l.take i).reverse.contains l[i]=(l.take i).contains l[i]:=by rw[Bool.eq_iff_iff,List.contains_iff_mem,List.contains_iff_mem,List.mem_reverse]
 rw[this];rfl
theorem rtwice_ (l:List Str)(hl:l.length≤1000000000000000):CallOk Tryz.prog 54 [.c (.sl 1 0 l.length 1)] [bSs 1 l] (osT (dupF [] l)) []:=by
 have hM:ClM [bSs 1 l]:=ClM.of (by simp only[List.all_cons,inMV (v_sC _)];rfl)
 refine CallOk.mkN 100 Tryz.func54 rfl en54 (by simp[Tryz.ntmps54]) (ClA.of rfl) rfl rfl fun C hR hP=>?_
 refine vv ?_
 refine Sm.loopM (M0:=[bSs 1 l]) (α:={i:Nat//i≤l.length∧dupF [] l=dupF (l.take i).reverse (l.drop i)}) hP (fun i=>[(0,true,.c (.sl 1 0 l.length 1)),(4,true,I i.val)]) (fun _=>[bSs 1 l]) (fun i=>l.length-i.val) ⟨0,by omega,rfl⟩ (fun _=>hM) (fun _=>ClE.of rfl) [(1,1)] ?_ ?_
 ·exact⟨rfl,⟨⟨rfl,rfl⟩,trivial⟩,⟨rfl,rfl,trivial⟩,⟨.inr ⟨_,rfl,.inl (renV (v_sC _))⟩,trivial⟩⟩
 rintro⟨i,hi,hx⟩ J hj
 simp only at hj hi hx⊢
 refine Sm.go 120 ?_
 refine vv ?_
 refine mtch (fun hc=>?_) (fun hc=>?_)
 ·have hc:=lt_of_dec hc
  rw[dupF_at l i hc]at hx
  refine vv ?_
  refine Sm.loopM (M0:=[bSs 1 l]) (α:={k:Nat//k≤i∧(l.take k).contains l[i]=false}) hP (fun k=>[(0,true,.c (.sl 1 0 l.length 1)),(4,true,I i),(5,true,I k.val)]) (fun _=>[bSs 1 l]) (fun k=>i-k.val) ⟨0,by omega,rfl⟩ (fun _=>hM) (fun _=>ClE.of rfl) [(1,1)] ?_ ?_
  ·exact⟨rfl,⟨⟨rfl,rfl⟩,trivial⟩,⟨rfl,rfl,rfl,trivial⟩,⟨.inr ⟨_,rfl,.inl (renV (v_sC _))⟩,trivial⟩⟩
  rintro⟨k,hk,hy⟩ J2 hj2
  simp only at hj2 hk hy⊢
  refine Sm.go 130 ?_
  refine vv ?_
  refine mtch (fun hd=>?_) (fun hd=>?_)
  ·have hd:=lt_of_dec hd
   have e1:=get_sC (l:=l) (i:=k) (by omega)
   have e2:=get_sC (l:=l) (i:=i) (by omega)
   refine Sm.dg 140 8 mix ?_
   simp(maxSteps:=2000000) only[go_sem,e1,e2]
   refine⟨⟨by omega,by omega⟩,⟨by omega,by omega⟩,?_⟩
   refine mtch (fun he=>?_) (fun he=>?_)
   ·have hm:(l.take i).contains l[i]=true:=by
     rw[List.contains_iff_mem,List.mem_take_iff_getElem]
     exact⟨k,by omega,eq_of_beq he⟩
    rw[hm,cond_true]at hx
    rw[hx]at hR
    refine⟨⟨by omega,by omega⟩,?_⟩
    exact RetQ.of hR rfl scc rvv (SubS.sub ⟨⟨_,rfl,.inl rfl⟩,trivial⟩) hM (ClV.of rfl)
   ·refine Sm.go 150 ?_
    simp(maxSteps:=2000000) only[go_sem,wS (show k≤1000000000000000000 by omega)]
    refine hj2 _ _ ⟨k+1,hd,?_⟩ [(1,1)] (by simp only;omega) ⟨rfl,⟨⟨rfl,rfl⟩,trivial⟩,⟨rfl,rfl,rfl,trivial⟩,⟨.inr ⟨_,rfl,.inl (renV (v_sC _))⟩,trivial⟩⟩
    rw[List.take_succ_eq_append_getElem (by omega),List.contains_append,hy]
    simp only[Bool.false_or,List.contains_cons,List.contains_nil,Bool.or_false]
    rw[Bool.beq_comm];exact he
  ·have hd:=eq_of_dec hk hd
   rw[hd]at hy
   rw[hy,cond_false]at hx
   simp(maxSteps:=2000000) only[go_sem,wS (show i≤1000000000000000000 by omega)]
   exact hj _ _ ⟨i+1,hc,hx⟩ [(1,1)] (by simp only;omega) ⟨rfl,⟨⟨rfl,rfl⟩,trivial⟩,⟨rfl,rfl,trivial⟩,⟨.inr ⟨_,rfl,.inl (renV (v_sC _))⟩,trivial⟩⟩
 ·have hc:=eq_of_dec hi hc
  rw[hc,List.drop_length]at hx
  have hx:dupF [] l=none:=hx
  rw[hx]at hR
  exact RetQ.of hR rfl scc rvv (SubS.sub ⟨⟨_,rfl,.inl rfl⟩,trivial⟩) hM (ClV.of rfl)
theorem fnd_lt (l:List Str)(s:Str):decide (fndQ l s<0)= !sgB l s:=by
 unfold fndQ sgB
 cases idxS s l 0 with
 |none=>rfl
 |some i=>
  show decide ((i:Int)<0)=_
  rw[decide_eq_false (by omega)];rfl
theorem rargument_ {H:Hp}(d:DgL)(h1:d.ins.length≤1000000)(h2:d.bls.length≤1000000)(b:BlL)(hb:b.ok H)(hl:b.c.ins.length≤1000000000000000):
  CallX H Tryz.prog 72 [.agg (dvs d),rowV b.r] (dmm d) (fun _:Unit=>osT (argQ (sigs d.c) b.c.ins)) (fun _=>[]) (fun _ _=>True):=by
 refine CallX.mkS Tryz.func72 rfl en72 (by simp[Tryz.ntmps72]) (ClA.of rfl) (fun _=>rfl) (fun _=>rfl) fun C hR hP hH hL=>?_
 have hR:=hR () C hL trivial
 refine Sm.go 100 ?_
 refine vv ?_
 refine Sm.bringC 6 9 101 3 (hb.i.mono hH) rfl rfl rfl ?_
 rw[strsC,show(strsR b.c.ins).length=b.c.ins.length by simp[strsR]]
 refine Sm.loopM (M0:=dmm d) (α:={i:Nat//i≤b.c.ins.length∧argQ (sigs d.c) b.c.ins=argQ (sigs d.c) (b.c.ins.drop i)}) hP (fun i=>[(2,true,.c (.p 2 0)),(3,true,.c (.p 3 0)),(6,true,I i.val)])
  (fun _=>(2,⟨false,dvs d,29⟩)::(3,⟨false,[.v (sv b.c.nm),.v (sv b.c.kd),.v (sv b.c.ty),.sl 6 0 b.c.ins.length 1,.v (sv b.c.tb),.v (vsl b.k b.c.ks.length)],53⟩)::(6,⟨true,b.c.ins.map sC,9⟩)::dmm d) (fun i=>b.c.ins.length-i.val) ⟨0,by omega,rfl⟩ (fun _=>ClM.of (by simp only[List.all_cons,inMV (rowsC_isV _),inMV (v_sC _)];rfl)) (fun _=>ClE.of rfl) [(2,100),(3,101),(6,6),(4,4),(5,5)] ?_ ?_
 ·exact⟨rfl,⟨⟨rfl,rfl⟩,⟨rfl,rfl⟩,trivial⟩,⟨rfl,rfl,rfl,trivial⟩,⟨.inr ⟨_,rfl,.inl rfl⟩,.inr ⟨_,rfl,.inl rfl⟩,.inr ⟨_,rfl,.inl (renV (v_sC _))⟩,.inr ⟨_,rfl,.inl (renV (rowsC_isV _))⟩,.inr ⟨_,rfl,.inl (renV (rowsC_isV _))⟩,trivial⟩⟩
 rintro⟨i,hi,hx⟩ J hj
 simp only at hj hi hx⊢
 refine Sm.go 120 ?_
 refine vv ?_
 refine mtch (fun hc=>?_) (fun hc=>?_)
 ·have hc:=lt_of_dec hc
  rw[List.drop_eq_getElem_cons hc,argQ_cons]at hx
  have e1:=get_sC hc
  have hf:=fnd_lt (sigs d.c) b.c.ins[i]
  refine Sm.dg 130 6 mix ?_
  simp(maxSteps:=2000000) only[go_sem,e1]
  refine⟨⟨by omega,by omega⟩,?_⟩
  refine CallQ.mem 140 (find_ d b.c.ins[i] (by omega) (by omega)) rfl ?_ (dmm_cl d) ?_
  ·exact SubS.sub ⟨⟨_,rfl,.inl rfl⟩,⟨_,rfl,.inl rfl⟩,trivial⟩
  simp(maxSteps:=2000000) only[go_sem,hf,e1]
  cases hs:sgB (sigs d.c) b.c.ins[i]with
  |false=>
   rw[hs,cond_false]at hx
   rw[hx]at hR
   refine vv ?_
   refine⟨⟨by omega,by omega⟩,?_⟩
   exact RetQ.of hR rfl scc rvv (SubS.sub ⟨⟨_,rfl,.inl rfl⟩,⟨_,rfl,.inl rfl⟩,trivial⟩) (dmm_cl d) (ClV.of rfl)
  |true=>
   rw[hs,cond_true]at hx
   simp(maxSteps:=2000000) only[go_sem,wS (show i≤1000000000000000000 by omega)]
   exact hj _ _ ⟨i+1,hc,hx⟩ [(2,2),(3,3),(6,6),(4,4),(5,5)] (by simp only;omega) ⟨rfl,⟨⟨rfl,rfl⟩,⟨rfl,rfl⟩,trivial⟩,⟨rfl,rfl,rfl,trivial⟩,⟨.inr ⟨_,rfl,.inl rfl⟩,.inr ⟨_,rfl,.inl rfl⟩,.inr ⟨_,rfl,.inl (renV (v_sC _))⟩,.inr ⟨_,rfl,.inl (renV (rowsC_isV _))⟩,.inr ⟨_,rfl,.inl (renV (rowsC_isV _))⟩,trivial⟩⟩
 ·have hc:=eq_of_dec hi hc
  rw[hc,List.drop_length]at hx
  have hx:argQ (sigs d.c) b.c.ins=none:=hx
  rw[hx]at hR
  exact RetQ.of hR rfl scc rvv (SubS.sub ⟨⟨_,rfl,.inl rfl⟩,⟨_,rfl,.inl rfl⟩,trivial⟩) (dmm_cl d) (ClV.of rfl)
end Go.Proofs.YtkciabfilokfiaaGreat.Fx
