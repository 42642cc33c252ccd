/-  -/
import Derived.Test.YtkciabfilokfiaaGreatPS
import Derived.Test.YtkciabfilokfiaaGreatQ6
namespace Go.Proofs.YtkciabfilokfiaaGreat.Fx
open Vg Tf
set_option linter.unusedSimpArgs false
set_option linter.unusedVariables false
set_option maxRecDepth 100000
set_option maxHeartbeats 4000000
theorem _root_.Go.Proofs.YtkciabfilokfiaaGreat.Vg.RetQ.letgo {C Ck:Cx}{e:Env}{M M0:Mem}(L:List Nat)(hL:Lf C Ck)(hP:Pins C.S M0)(h0:M0.all (fun p=> !L.contains p.1)=true)(hok:concOk L e M=true)
  (h:∀β Cn,Lf C Cn→Ck.hp.le Cn.hp→(∀n b,L.contains n=true→M.get n=some b→b.ro=false→Known Cn.hp β n b)→RetQ Cn (e.conc L β) (M.conc L β)):RetQ Ck e M:=fun β a w h1 h2 h4=>by
 obtain⟨Cn,l1,l2,l3,l4,l5⟩:=seal_core L hL hP h0 hok h1 h2
 rw[hL.q,←l1.q]
 exact h β Cn l1 l2 l3 β a w l4 l5 (h4.trans (hL.df.trans l1.df.symm))
def isCM:Obj→Prop
 | .cells _ _ _=>True
 | .map _ _=>True
 |_=>False
def _root_.Go.Proofs.YtkciabfilokfiaaGreat.Vg.Hp.cm (H:Hp):Hp:=fun b o=>H b o∧isCM o
theorem LcH.cm {H:Hp}{l:Vg.Loc}{cs:List Value}(k:LcH H l cs):LcH H.cm l cs:=⟨k.1,k.2.1,fun hn=>by obtain⟨c,el,mk,h1,h2⟩:=k.2.2 hn;exact⟨c,el,mk,⟨h1,trivial⟩,h2⟩⟩
theorem SlH.cm {H:Hp}{v:Value}{sz:Nat}{rows:List (List Value)}(k:SlH H v sz rows):SlH H.cm v sz rows:=by obtain⟨l,h1,h2,h3⟩:=k;exact⟨l,h1,h2,LcH.cm h3⟩
theorem PtH.cm {H:Hp}{v:Value}{cs:List Value}(k:PtH H v cs):PtH H.cm v cs:=by obtain⟨l,h1,h2,h3⟩:=k;exact⟨l,h1,h2,LcH.cm h3⟩
theorem MpB.cm {H:Hp}{b:Nat}{l:Al}(k:MpB H b l):MpB H.cm b l:=by obtain⟨es,clk,h1,h2⟩:=k;exact⟨es,clk,⟨h1,trivial⟩,h2⟩
theorem CuL.ok.cm {H:Hp}{c:CuL}(k:c.ok H):c.ok H.cm:=⟨SlH.cm k.x,SlH.cm k.y⟩
theorem MpL.ok.cm {H:Hp}{c:MpL}(k:c.ok H):c.ok H.cm:=⟨SlH.cm k.x,SlH.cm k.y,SlH.cm k.z,fun v hv=>SlH.cm (k.e v hv)⟩
theorem BlL.ok.cm {H:Hp}{c:BlL}(k:c.ok H):c.ok H.cm:=⟨SlH.cm k.i,SlH.cm k.k⟩
theorem DgL.ok.cm {H:Hp}{d:DgL}(k:d.ok H):d.ok H.cm:=⟨SlH.cm k.ty,SlH.cm k.cu,SlH.cm k.ma,SlH.cm k.i,SlH.cm k.bl,SlH.cm k.ou,fun c hc=>CuL.ok.cm (k.cus c hc),fun c hc=>MpL.ok.cm (k.mas c hc),fun c hc=>BlL.ok.cm (k.bls c hc)⟩
theorem hp_fun {C:Cx}{b:Nat}{o o':Obj}(h:C.hp b o)(h':C.hp b o'):o=o':=by
 have h1:=h.2.2
 rw[h'.2.2]at h1
 exact(Option.some.inj h1).symm
theorem v_v (l:List Value):(l.map Cv.v).all Cv.isV=true:=by simp[Cv.isV]
def sigs (d:Dg):List Str:=d.ins.map (·.nm)++d.bls.map (·.nm)
@[reducible] def bNm (nm:Nat)(l:List Str):Nat×Bk:=(nm,⟨false,l.map sC,9⟩)
theorem snoc_map {α:Type}(f:α→Str)(l:List α)(i:Nat)(h:i<l.length)(p:List Str):(p++(l.take i).map f).map sC++[sC (f l[i])]=(p++(l.take (i+1)).map f).map sC:=by
 rw[List.take_succ_eq_append_getElem h]
 simp only[List.map_append,List.map_cons,List.map_nil,List.append_assoc]
theorem names_ {H:Hp}(d:DgL)(hd:d.ok H)(cp:Value)(ms:List Value)(hcp:PtH H cp (d.r++ms))(h1:d.ins.length≤1000000)(h2:d.bls.length≤1000000):
  CallX H Tryz.prog 49 [.c (.v cp)] [] (fun _:Unit=> .c (.sl 1 0 (sigs d.c).length 1)) (fun _=>[bNm 1 (sigs d.c)]) (fun _ _=>True):=by
 refine CallX.mkS Tryz.func49 rfl en49 (by simp[Tryz.ntmps49]) (ClA.of rfl) (fun _=>rfl) (fun _=>rfl) fun C hR hP hH hL=>?_
 have hR:=hR () C hL trivial
 refine Sm.bringP 1 147 0 (hcp.mono hH) rfl rfl (Sm.go 100 ?_)
 refine vv ?_
 refine Sm.nils 140 1 9 [3] [] rfl ?_
 refine vv ?_
 refine Sm.bringR 2 51 12 (hd.i.mono hH) rfl rfl ?_
 have hl1:(d.ins.map Po.r).length=d.ins.length:=List.length_map _
 rw[hl1]
 have hz1:=rows_len (r:=Po.r) (k:=4) (fun _=>rfl) d.ins
 have hz2:=rows_len (r:=BlL.r) (k:=6) (fun _=>rfl) d.bls
 have hfull:(d.ins.take d.ins.length).map Po.nm=d.ins.map Po.nm:=by rw[List.take_length]
 have hsg:sigs d.c=d.ins.map Po.nm++d.bls.map (fun b=>b.c.nm):=by simp[sigs,DgL.c]
 refine Sm.loopM (M0:=[]) (α:={i:Nat//i≤d.ins.length}) hP (fun i=>[(0,true,.c (.p 1 0)),(3,true,.c (.sl 6 0 i.val 1)),(12,true,.c (.sl 2 0 d.ins.length 4)),(13,true,I d.ins.length),(14,true,I i.val)])
  (fun i=>[(1,⟨true,(d.r++ms).map .v,147⟩),(2,⟨true,rowsC (d.ins.map Po.r),51⟩),bNm 6 ([]++(d.ins.take i.val).map Po.nm)]) (fun i=>d.ins.length-i.val) ⟨0,by omega⟩ (fun _=>ClM.of (by simp only[List.all_cons,inMV (v_v _),inMV (rowsC_isV _),inMV (v_sC _)];rfl)) (fun _=>ClE.of rfl) [(1,1),(2,2),(6,140)] ?_ ?_
 ·exact⟨rfl,trivial,⟨rfl,rfl,rfl,rfl,rfl,trivial⟩,⟨.inr ⟨_,rfl,.inl (renV (v_v _))⟩,.inr ⟨_,rfl,.inl (renV (rowsC_isV _))⟩,.inr ⟨_,rfl,.inl (renV (v_sC _))⟩,trivial⟩⟩
 ·rintro⟨i,hi⟩ J hb
  simp only at hb hi⊢
  refine Sm.go 150 ?_
  refine vv ?_
  refine mtch (fun hc=>?_) (fun hc=>?_)
  ·have hc:=lt_of_dec hc
   have htk:=rows_take (r:=Po.r) (k:=4) (fun _=>rfl) d.ins i hc
   simp only[htk,hz1]
   refine⟨⟨by omega,by omega⟩,by omega,?_⟩
   refine vv ?_
   have hlen:(([]++(d.ins.take i).map Po.nm).map sC).length=i:=by simp;omega
   have hsn:List.take i (([]++(d.ins.take i).map Po.nm).map sC)++[sC d.ins[i].nm]=([]++(d.ins.take (i+1)).map Po.nm).map sC:=by
    rw[List.take_of_length_le (by omega),snoc_map Po.nm d.ins i hc]
   simp only[List.nil_append]at hlen hsn
   simp only[hlen,hsn,wS (show i≤1000000000000000000 by omega)]
   refine⟨⟨by omega,by omega,by omega⟩,?_⟩
   exact hb _ _ ⟨i+1,hc⟩ [(1,1),(2,2),(6,152)] (by simp only;omega) ⟨rfl,trivial,⟨rfl,rfl,rfl,rfl,rfl,trivial⟩,⟨.inr ⟨_,rfl,.inl (renV (v_v _))⟩,.inr ⟨_,rfl,.inl (renV (rowsC_isV _))⟩,.inr ⟨_,rfl,.inl (renV (v_sC _))⟩,trivial⟩⟩
  ·have hc:=eq_of_dec hi hc
   subst hc
   simp only[hfull]
   refine Sm.bringR 3 53 28 (hd.bl.mono hH) rfl rfl ?_
   have hl2:(d.bls.map BlL.r).length=d.bls.length:=List.length_map _
   rw[hl2]
   refine Sm.loopM (M0:=[]) (α:={i:Nat//i≤d.bls.length}) hP (fun i=>[(3,true,.c (.sl 6 0 (d.ins.length+i.val) 1)),(28,true,.c (.sl 3 0 d.bls.length 6)),(29,true,I d.bls.length),(30,true,I i.val)])
    (fun i=>[(3,⟨true,rowsC (d.bls.map BlL.r),53⟩),bNm 6 (d.ins.map Po.nm++(d.bls.take i.val).map (fun b=>b.c.nm))]) (fun i=>d.bls.length-i.val) ⟨0,by omega⟩ (fun _=>ClM.of (by simp only[List.all_cons,inMV (rowsC_isV _),inMV (v_sC _)];rfl)) (fun _=>ClE.of rfl) [(3,3),(6,6)] ?_ ?_
   ·simp only[List.take_zero,List.map_nil,List.append_nil,Nat.add_zero]
    exact⟨rfl,trivial,⟨rfl,rfl,rfl,rfl,trivial⟩,⟨.inr ⟨_,rfl,.inl (renV (rowsC_isV _))⟩,.inr ⟨_,rfl,.inl (renV (v_sC _))⟩,trivial⟩⟩
   ·rintro⟨i,hi⟩ J hb
    simp only at hb hi⊢
    refine Sm.go 150 ?_
    refine vv ?_
    refine mtch (fun hc=>?_) (fun hc=>?_)
    ·have hc:=lt_of_dec hc
     have htk:=rows_take (r:=BlL.r) (k:=6) (fun _=>rfl) d.bls i hc
     simp only[htk,hz2]
     refine⟨⟨by omega,by omega⟩,by omega,?_⟩
     refine vv ?_
     have hlen:((d.ins.map Po.nm++(d.bls.take i).map (fun b=>b.c.nm)).map sC).length=d.ins.length+i:=by simp;omega
     have hsn:List.take (d.ins.length+i) ((d.ins.map Po.nm++(d.bls.take i).map (fun b=>b.c.nm)).map sC)++[sC d.bls[i].c.nm]=(d.ins.map Po.nm++(d.bls.take (i+1)).map (fun b=>b.c.nm)).map sC:=by
      rw[List.take_of_length_le (by omega),snoc_map (fun b:BlL=>b.c.nm) d.bls i hc]
     simp only[hlen,hsn,wS (show i≤1000000000000000000 by omega)]
     refine⟨⟨by omega,by omega,by omega⟩,?_⟩
     exact hb _ _ ⟨i+1,hc⟩ [(3,3),(6,152)] (by simp only;omega) ⟨rfl,trivial,⟨rfl,rfl,rfl,rfl,trivial⟩,⟨.inr ⟨_,rfl,.inl (renV (rowsC_isV _))⟩,.inr ⟨_,rfl,.inl (renV (v_sC _))⟩,trivial⟩⟩
    ·have hc:=eq_of_dec hi hc
     subst hc
     rw[List.take_length,←hsg]
     have hn:d.ins.length+d.bls.length=(sigs d.c).length:=by rw[hsg];simp
     rw[hn]
     exact RetQ.ren [(1,6)] hR hP rfl ⟨rfl,trivial⟩ rfl rfl trivial ⟨.inr ⟨_,rfl,.inl (renV (v_sC _))⟩,trivial⟩ (ClM.of (by simp only[List.cons_append,List.nil_append,List.append_nil,List.all_cons,inMV (v_sC _)];rfl)) (ClV.of rfl)
@[reducible] def bCk (d:DgL)(ms:List Value):Nat×Bk:=(1,⟨true,(d.r++ms).map .v,147⟩)
theorem namesM {H:Hp}(d:DgL)(hd:d.ok H)(ms:List Value)(h1:d.ins.length≤1000000)(h2:d.bls.length≤1000000):
  CallX H Tryz.prog 49 [.c (.p 1 0)] [bCk d ms] (fun _:Unit=> .c (.sl 4 0 (sigs d.c).length 1)) (fun _=>[bNm 4 (sigs d.c)]) (fun _ _=>True):=by
 refine CallX.mkS Tryz.func49 rfl en49 (by simp[Tryz.ntmps49]) (ClA.of rfl) (fun _=>rfl) (fun _=>rfl) fun C hR hP hH hL=>?_
 have hR:=hR () C hL trivial
 refine Sm.go 100 ?_
 refine vv ?_
 refine Sm.nils 140 1 9 [3] [] rfl ?_
 refine vv ?_
 refine Sm.bringR 2 51 12 (hd.i.mono hH) rfl rfl ?_
 have hl1:(d.ins.map Po.r).length=d.ins.length:=List.length_map _
 rw[hl1]
 have hz1:=rows_len (r:=Po.r) (k:=4) (fun _=>rfl) d.ins
 have hz2:=rows_len (r:=BlL.r) (k:=6) (fun _=>rfl) d.bls
 have hfull:(d.ins.take d.ins.length).map Po.nm=d.ins.map Po.nm:=by rw[List.take_length]
 have hsg:sigs d.c=d.ins.map Po.nm++d.bls.map (fun b=>b.c.nm):=by simp[sigs,DgL.c]
 refine Sm.loopM (M0:=[bCk d ms]) (α:={i:Nat//i≤d.ins.length}) hP (fun i=>[(0,true,.c (.p 1 0)),(3,true,.c (.sl 6 0 i.val 1)),(12,true,.c (.sl 2 0 d.ins.length 4)),(13,true,I d.ins.length),(14,true,I i.val)])
  (fun i=>[(1,⟨true,(d.r++ms).map .v,147⟩),(2,⟨true,rowsC (d.ins.map Po.r),51⟩),bNm 6 ([]++(d.ins.take i.val).map Po.nm)]) (fun i=>d.ins.length-i.val) ⟨0,by omega⟩ (fun _=>ClM.of (by simp only[List.all_cons,inMV (v_v _),inMV (rowsC_isV _),inMV (v_sC _)];rfl)) (fun _=>ClE.of rfl) [(1,1),(2,2),(6,140)] ?_ ?_
 ·exact⟨rfl,⟨⟨rfl,rfl⟩,trivial⟩,⟨rfl,rfl,rfl,rfl,rfl,trivial⟩,⟨.inr ⟨_,rfl,.inl (renV (v_v _))⟩,.inr ⟨_,rfl,.inl (renV (rowsC_isV _))⟩,.inr ⟨_,rfl,.inl (renV (v_sC _))⟩,trivial⟩⟩
 ·rintro⟨i,hi⟩ J hb
  simp only at hb hi⊢
  refine Sm.go 150 ?_
  refine vv ?_
  refine mtch (fun hc=>?_) (fun hc=>?_)
  ·have hc:=lt_of_dec hc
   have htk:=rows_take (r:=Po.r) (k:=4) (fun _=>rfl) d.ins i hc
   simp only[htk,hz1]
   refine⟨⟨by omega,by omega⟩,by omega,?_⟩
   refine vv ?_
   have hlen:(([]++(d.ins.take i).map Po.nm).map sC).length=i:=by simp;omega
   have hsn:List.take i (([]++(d.ins.take i).map Po.nm).map sC)++[sC d.ins[i].nm]=([]++(d.ins.take (i+1)).map Po.nm).map sC:=by
    rw[List.take_of_length_le (by omega),snoc_map Po.nm d.ins i hc]
   simp only[List.nil_append]at hlen hsn
   simp only[hlen,hsn,wS (show i≤1000000000000000000 by omega)]
   refine⟨⟨by omega,by omega,by omega⟩,?_⟩
   exact hb _ _ ⟨i+1,hc⟩ [(1,1),(2,2),(6,152)] (by simp only;omega) ⟨rfl,⟨⟨rfl,rfl⟩,trivial⟩,⟨rfl,rfl,rfl,rfl,rfl,trivial⟩,⟨.inr ⟨_,rfl,.inl (renV (v_v _))⟩,.inr ⟨_,rfl,.inl (renV (rowsC_isV _))⟩,.inr ⟨_,rfl,.inl (renV (v_sC _))⟩,trivial⟩⟩
  ·have hc:=eq_of_dec hi hc
   subst hc
   simp only[hfull]
   refine Sm.bringR 3 53 28 (hd.bl.mono hH) rfl rfl ?_
   have hl2:(d.bls.map BlL.r).length=d.bls.length:=List.length_map _
   rw[hl2]
   refine Sm.loopM (M0:=[bCk d ms]) (α:={i:Nat//i≤d.bls.length}) hP (fun i=>[(3,true,.c (.sl 6 0 (d.ins.length+i.val) 1)),(28,true,.c (.sl 3 0 d.bls.length 6)),(29,true,I d.bls.length),(30,true,I i.val)])
    (fun i=>[bCk d ms,(3,⟨true,rowsC (d.bls.map BlL.r),53⟩),bNm 6 (d.ins.map Po.nm++(d.bls.take i.val).map (fun b=>b.c.nm))]) (fun i=>d.bls.length-i.val) ⟨0,by omega⟩ (fun _=>ClM.of (by simp only[List.all_cons,inMV (v_v _),inMV (rowsC_isV _),inMV (v_sC _)];rfl)) (fun _=>ClE.of rfl) [(1,1),(3,3),(6,6)] ?_ ?_
   ·simp only[List.take_zero,List.map_nil,List.append_nil,Nat.add_zero]
    exact⟨rfl,⟨⟨rfl,rfl⟩,trivial⟩,⟨rfl,rfl,rfl,rfl,trivial⟩,⟨.inr ⟨_,rfl,.inl (renV (v_v _))⟩,.inr ⟨_,rfl,.inl (renV (rowsC_isV _))⟩,.inr ⟨_,rfl,.inl (renV (v_sC _))⟩,trivial⟩⟩
   ·rintro⟨i,hi⟩ J hb
    simp only at hb hi⊢
    refine Sm.go 150 ?_
    refine vv ?_
    refine mtch (fun hc=>?_) (fun hc=>?_)
    ·have hc:=lt_of_dec hc
     have htk:=rows_take (r:=BlL.r) (k:=6) (fun _=>rfl) d.bls i hc
     simp only[htk,hz2]
     refine⟨⟨by omega,by omega⟩,by omega,?_⟩
     refine vv ?_
     have hlen:((d.ins.map Po.nm++(d.bls.take i).map (fun b=>b.c.nm)).map sC).length=d.ins.length+i:=by simp;omega
     have hsn:List.take (d.ins.length+i) ((d.ins.map Po.nm++(d.bls.take i).map (fun b=>b.c.nm)).map sC)++[sC d.bls[i].c.nm]=(d.ins.map Po.nm++(d.bls.take (i+1)).map (fun b=>b.c.nm)).map sC:=by
      rw[List.take_of_length_le (by omega),snoc_map (fun b:BlL=>b.c.nm) d.bls i hc]
     simp only[hlen,hsn,wS (show i≤1000000000000000000 by omega)]
     refine⟨⟨by omega,by omega,by omega⟩,?_⟩
     exact hb _ _ ⟨i+1,hc⟩ [(1,1),(3,3),(6,152)] (by simp only;omega) ⟨rfl,⟨⟨rfl,rfl⟩,trivial⟩,⟨rfl,rfl,rfl,rfl,trivial⟩,⟨.inr ⟨_,rfl,.inl (renV (v_v _))⟩,.inr ⟨_,rfl,.inl (renV (rowsC_isV _))⟩,.inr ⟨_,rfl,.inl (renV (v_sC _))⟩,trivial⟩⟩
    ·have hc:=eq_of_dec hi hc
     subst hc
     rw[List.take_length,←hsg]
     have hn:d.ins.length+d.bls.length=(sigs d.c).length:=by rw[hsg];simp
     rw[hn]
     exact RetQ.ren [(1,1),(4,6)] hR hP rfl ⟨rfl,trivial⟩ rfl rfl ⟨⟨rfl,rfl⟩,trivial⟩ ⟨.inr ⟨_,rfl,.inl (renV (v_sC _))⟩,.inr ⟨_,rfl,.inl (renV (v_v _))⟩,trivial⟩ (ClM.of (by simp only[List.cons_append,List.nil_append,List.append_nil,List.all_cons,inMV (v_sC _),inMV (v_v _)];rfl)) (ClV.of rfl)
theorem bwTd {H:Hp}(s:Sv)(n:Nat):CallX H Tryz.prog 95 [.c (.v (vsl s n))] [] (fun pv:Value=>Fv 163 #[pv]) (fun _=>[]) (fun pv H'=>PtH H' pv [vsl s n]):=by
 refine CallX.mkS Tryz.func95 rfl en95 (by simp[Tryz.ntmps95]) (ClA.of rfl) (fun _=>rfl) (fun _=>rfl) fun C hR hP hH hL=>?_
 refine Sm.go 100 ?_
 refine vv ?_
 refine RetQ.letgo [100] hL hP rfl rfl (fun β Cn l1 l2 l3=>?_)
 have hpt:=(l3 100 _ rfl rfl rfl).pt (by simp)
 exact RetQ.of (hR (ptr β 100 0) Cn l1 hpt) rfl ⟨rfl,trivial⟩ rfl (Sub.nil _) ClM.nil (ClV.of rfl)
theorem bwCu {H:Hp}(s:Sv)(n:Nat):CallX H Tryz.prog 96 [.c (.v (vsl s n))] [] (fun pv:Value=>Fv 164 #[pv]) (fun _=>[]) (fun pv H'=>PtH H' pv [vsl s n]):=by
 refine CallX.mkS Tryz.func96 rfl en96 (by simp[Tryz.ntmps96]) (ClA.of rfl) (fun _=>rfl) (fun _=>rfl) fun C hR hP hH hL=>?_
 refine Sm.go 100 ?_
 refine vv ?_
 refine RetQ.letgo [100] hL hP rfl rfl (fun β Cn l1 l2 l3=>?_)
 have hpt:=(l3 100 _ rfl rfl rfl).pt (by simp)
 exact RetQ.of (hR (ptr β 100 0) Cn l1 hpt) rfl ⟨rfl,trivial⟩ rfl (Sub.nil _) ClM.nil (ClV.of rfl)
theorem bwMa {H:Hp}(s:Sv)(n:Nat):CallX H Tryz.prog 97 [.c (.v (vsl s n))] [] (fun pv:Value=>Fv 165 #[pv]) (fun _=>[]) (fun pv H'=>PtH H' pv [vsl s n]):=by
 refine CallX.mkS Tryz.func97 rfl en97 (by simp[Tryz.ntmps97]) (ClA.of rfl) (fun _=>rfl) (fun _=>rfl) fun C hR hP hH hL=>?_
 refine Sm.go 100 ?_
 refine vv ?_
 refine RetQ.letgo [100] hL hP rfl rfl (fun β Cn l1 l2 l3=>?_)
 have hpt:=(l3 100 _ rfl rfl rfl).pt (by simp)
 exact RetQ.of (hR (ptr β 100 0) Cn l1 hpt) rfl ⟨rfl,trivial⟩ rfl (Sub.nil _) ClM.nil (ClV.of rfl)
theorem bwS {H:Hp}(s:Sv)(n:Nat):CallX H Tryz.prog 98 [.c (.v (vsl s n))] [] (fun pv:Value=>Fv 166 #[pv]) (fun _=>[]) (fun pv H'=>PtH H' pv [vsl s n]):=by
 refine CallX.mkS Tryz.func98 rfl en98 (by simp[Tryz.ntmps98]) (ClA.of rfl) (fun _=>rfl) (fun _=>rfl) fun C hR hP hH hL=>?_
 refine Sm.go 100 ?_
 refine vv ?_
 refine RetQ.letgo [100] hL hP rfl rfl (fun β Cn l1 l2 l3=>?_)
 have hpt:=(l3 100 _ rfl rfl rfl).pt (by simp)
 exact RetQ.of (hR (ptr β 100 0) Cn l1 hpt) rfl ⟨rfl,trivial⟩ rfl (Sub.nil _) ClM.nil (ClV.of rfl)
end Go.Proofs.YtkciabfilokfiaaGreat.Fx
