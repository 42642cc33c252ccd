/-  -/
import Derived.Test.YtkciabfilokfiaaGreatPS
import Derived.Test.YtkciabfilokfiaaGreatQC
namespace Go.Proofs.YtkciabfilokfiaaGreat.Fx
open Vg Tf
set_option linter.unusedSimpArgs false
set_option linter.unusedVariables false
set_option maxRecDepth 100000
set_option maxHeartbeats 4000000
def fstA (d:Dg)(l:List Bl):Option Str:=l.findSome? (fun b=>argQ (sigs d) b.ins)
def orderQ (d:Dg):List Nat×Str×Int:=
 bif !dgOk d then([],[],1)else
 match dupF [] (sigs d)with
 |some s=>([],s,8)
 |none=>match fstA d d.bls with
  |some s=>([],s,7)
  |none=>match lopN d with
   |some s=>([],s,13)
   |none=>(ordR (befB d) d.bls.length,[],0)
structure DgB (d:DgL):Prop where
 tys:d.tys.length≤30
 cus:d.cus.length≤30
 mas:d.mas.length≤30
 ins:d.ins.length≤30
 bls:d.bls.length≤200
 ous:d.ous.length≤30
 cuO:∀c∈d.cus,cuOk c.c.xs c.c.ys=true
 maO:∀m∈d.mas,maOk m.xs m.ys (m.zs.map (·.2))=true
 blO:∀b∈d.bls,blOk b.c=true
 tyO:∀t∈d.tys,fok t.ty=true
theorem dgB {d:DgL}(h:dgOk d.c=true):DgB d:=by
 unfold dgOk at h
 simp only[Bool.and_eq_true,decide_eq_true_eq,List.all_eq_true]at h
 obtain⟨_,⟨n1,n2,n3,n4,n5⟩,n6,ht,hcu,hma,_,hbl,_⟩:=h
 refine⟨n1,by simpa[DgL.c]using n2,by simpa[DgL.c]using n3,n4,by simpa[DgL.c]using n6,n5,fun c hc=>(hcu c.c (List.mem_map.2 ⟨c,hc,rfl⟩)).2,fun m hm=>(hma m.c (List.mem_map.2 ⟨m,hm,rfl⟩)).2,fun b hb=>hbl b.c (List.mem_map.2 ⟨b,hb,rfl⟩),fun t h=>(ht t h).2⟩
theorem blO_in {b:Bl}(h:blOk b=true):b.ins.length≤3:=by
 have hq:∃q,kindQ b.kd=some q:=by
  have h1:=h
  unfold blOk at h1
  cases hq:kindQ b.kd with
  |none=>rw[hq]at h1;cases h1
  |some q=>exact⟨q,rfl⟩
 obtain⟨q,hq⟩:=hq
 have hm:(b.kd,q)∈kindT:=by
  have h2:=hq
  unfold kindQ at h2
  cases hf:kindT.find? (fun r=>r.1==b.kd)with
  |none=>rw[hf]at h2;cases h2
  |some r=>
   rw[hf]at h2
   have h3:=List.mem_of_find?_eq_some hf
   have h4:=List.find?_some hf
   have h5:r.1=b.kd:=by simpa using h4
   have h6:r.2=q:=by simpa using h2
   rw[←h5,←h6];exact h3
 unfold blOk at h
 rw[hq]at h
 simp only[Bool.and_eq_true,decide_eq_true_eq]at h
 have:∀x∈kindT,x.2.1≤3:=by decide
 have:=this _ hm
 simp only at this
 omega
theorem Order_ {H:Hp}(d:DgL)(hd:d.ok H)(hs:d.sm):CallX H Tryz.prog 24 [rowV d.r] [] (fun _:Unit=> .tup [.c (.sl 1 0 (orderQ d.c).1.length 1),Ws (orderQ d.c).2.1,Wi (orderQ d.c).2.2]) (fun _=>[bNt 1 (orderQ d.c).1]) (fun _ _=>True):=by
 refine CallX.mkS Tryz.func24 rfl en24 (by simp[Tryz.ntmps24]) (ClA.of rfl) (fun _=>rfl) (fun _=>rfl) fun C hR hP hH hL=>?_
 have hR:=hR ()
 refine Sm.go 100 ?_
 refine vv ?_
 refine CallQ.h 110 (dvalid d hd hs) hH rfl ?_
 refine vv ?_
 refine mtch (fun hv=>?_) (fun hv=>?_)
 ·have hq:orderQ d.c=([],[],1):=by unfold orderQ;rw[hv];rfl
  rw[hq]at hR
  refine RetQ.nils 140 1 3 [2] [] rfl ?_
  refine vv ?_
  exact RetQ.ren [(1,140)] (hR C hL trivial) hP rfl scc rfl rfl trivial ⟨.inr ⟨_,rfl,.inl rfl⟩,trivial⟩ (ClM.of rfl) (ClV.of rfl)
 have hv2:dgOk d.c=true:=by simpa using hv
 have B:=dgB hv2
 unfold orderQ at hR
 rw[hv,cond_false]at hR
 refine CallQ.x 120 hL (ofC d hd hs (by have:=B.ins;omega) (by have:=B.bls;omega)) hH (Sub.nil _) ClM.nil (fun _=>Fresh.nil _ _) rfl rfl rfl (fun x E0 H0 e0 k0 j0 p0=>?_)
 refine vv ?_
 have HH:H.le E0.hp:=hH.trans k0
 have kk:Ck E0.hp x.1 d x.2.1 x.2.2.1 x.2.2.2.1 x.2.2.2.2:=⟨hd.mono HH,hs,by have:=B.ins;omega,by have:=B.bls;omega,p0.mono j0⟩
 have hR:=hR E0 e0 trivial
 obtain⟨cp,bT,bC,bM,bS⟩:=x
 simp only at kk⊢
 have hlS:(sigs d.c).length≤1000000000000000:=by have:=sigs_len d;have:=B.ins;have:=B.bls;omega
 refine CallQ.hr [(1,130)] 131 (names_ d kk.o cp _ kk.c.p kk.n1 kk.n2) (Hp.le.refl _) ClM.nil rfl rfl trivial rfl (.inl rfl) ?_
 simp only[Mem.ren,List.map_cons,List.map_nil,renV (v_sC _),V.ren,Cv.ren,rn,Nat.reduceBEq,cond_true,cond_false]
 refine vv ?_
 refine CallQ.hr [(1,130)] 140 (again_ (sigs d.c) hlS) (fun _ _ h=>h) (ClM.v (by simp only[List.all_cons,v_sC];rfl)) rfl rfl ⟨⟨_,rfl,wkV (v_sC _)⟩,trivial⟩ rfl (.inr rfl) ?_
 cases hdup:dupF [] (sigs d.c)with
 |some s=>
  rw[hdup]at hR
  refine vv ?_
  refine RetQ.nils 140 1 3 [2] [] rfl ?_
  refine vv ?_
  exact RetQ.ren [(1,140)] hR (e0.pins hP) rfl scc rfl rfl trivial ⟨.inr ⟨_,rfl,.inl rfl⟩,trivial⟩ (ClM.of rfl) (ClV.of rfl)
 |none=>
 rw[hdup]at hR
 refine vv ?_
 refine Sm.bringR 5 53 28 (kk.o.bl) rfl rfl ?_
 have hl2:(d.bls.map BlL.r).length=d.bls.length:=List.length_map _
 rw[hl2]
 have hz5:=rows_len (r:=BlL.r) (k:=6) (fun _=>rfl) d.bls
 have hb200:=B.bls
 have hfb:d.c.bls=d.bls.map BlL.c:=rfl
 refine Sm.loopM (M0:=[]) (α:={i:Nat//i≤d.bls.length∧fstA d.c d.c.bls=fstA d.c ((d.bls.drop i).map BlL.c)}) (e0.pins hP) (fun i=>[(5,true,.c (.v cp)),(28,true,.c (.sl 5 0 d.bls.length 6)),(29,true,I d.bls.length),(30,true,I i.val)])
  (fun _=>[(5,⟨true,rowsC (d.bls.map BlL.r),53⟩)]) (fun i=>d.bls.length-i.val) ⟨0,by omega,rfl⟩ (fun _=>ClM.of (by simp only[List.all_cons,inMV (rowsC_isV _)];rfl)) (fun _=>ClE.of rfl) [(5,5)] ?_ ?_
 ·exact⟨rfl,trivial,⟨rfl,rfl,rfl,rfl,trivial⟩,⟨.inr ⟨_,rfl,.inl (renV (rowsC_isV _))⟩,trivial⟩⟩
 ·rintro⟨i,hi,hx⟩ J hj
  simp only at hj hi hx⊢
  refine Sm.go 150 ?_
  refine vv ?_
  refine mtch (fun hc=>?_) (fun hc=>?_)
  ·have hc:=lt_of_dec hc
   have htk:=rows_take (r:=BlL.r) (k:=6) (fun _=>rfl) d.bls i hc
   have hmem:d.bls[i]∈d.bls:=List.getElem_mem hc
   have hbo:=kk.o.bls _ hmem
   have hbk:=blO_in (B.blO _ hmem)
   have harg:=argument_ kk d.bls[i] hbo (by omega)
   rw[List.drop_eq_getElem_cons hc,List.map_cons,fstA,fstA,List.findSome?_cons]at hx
   generalize d.bls[i]=b at*
   simp(maxSteps:=2000000) only[go_sem,htk,hz5]
   refine⟨⟨by omega,by omega⟩,by omega,?_⟩
   refine CallQ.h 160 harg (Hp.le.refl _) rfl ?_
   cases ha:argQ (sigs d.c) b.c.ins with
   |some s=>
    rw[ha]at hx
    have hx:fstA d.c d.c.bls=some s:=hx
    rw[hx]at hR
    refine vv ?_
    refine RetQ.nils 170 1 3 [2] [] rfl ?_
    refine vv ?_
    exact RetQ.ren [(1,170)] hR (e0.pins hP) rfl scc rfl rfl trivial ⟨.inr ⟨_,rfl,.inl rfl⟩,trivial⟩ (ClM.of rfl) (ClV.of rfl)
   |none=>
    rw[ha]at hx
    refine vv ?_
    refine Sm.go 170 ?_
    simp(maxSteps:=2000000) only[go_sem,wS (show i≤1000000000000000000 by omega)]
    exact hj _ _ ⟨i+1,hc,hx⟩ [(5,5)] (by simp only;omega) ⟨rfl,trivial,⟨rfl,rfl,rfl,rfl,trivial⟩,⟨.inr ⟨_,rfl,.inl (renV (rowsC_isV _))⟩,trivial⟩⟩
  ·have hc:=eq_of_dec hi hc
   rw[hc,List.drop_length]at hx
   have hx:fstA d.c d.c.bls=none:=hx
   rw[hx]at hR
   refine CallQ.h 160 (loop_ kk (fun b hb=>by have:=blO_in (B.blO b hb);omega)) (Hp.le.refl _) rfl ?_
   cases hlo:lopN d.c with
   |some s=>
    rw[hlo]at hR
    refine vv ?_
    refine RetQ.nils 170 1 3 [2] [] rfl ?_
    refine vv ?_
    exact RetQ.ren [(1,170)] hR (e0.pins hP) rfl scc rfl rfl trivial ⟨.inr ⟨_,rfl,.inl rfl⟩,trivial⟩ (ClM.of rfl) (ClV.of rfl)
   |none=>
    rw[hlo]at hR
    refine vv ?_
    refine CallQ.hr [(1,170)] 171 (order_ kk (fun b hb=>by have:=blO_in (B.blO b hb);omega)) (Hp.le.refl _) ClM.nil rfl rfl trivial rfl (.inl rfl) ?_
    simp only[Mem.ren,List.map_cons,List.map_nil,renV (v_nC _),V.ren,Cv.ren,rn,Nat.reduceBEq,cond_true,cond_false]
    refine vv ?_
    have hbl:d.c.bls.length=d.bls.length:=List.length_map _
    rw[hbl]at hR
    refine RetQ.ren [(1,170)] hR (e0.pins hP) rfl scc rfl ?_ trivial ?_ ?_ (ClV.of rfl)
    ·rfl
    ·exact⟨.inr ⟨_,rfl,.inl (renV (v_nC _))⟩,trivial⟩
    ·exact ClM.of (by simp only[List.cons_append,List.nil_append,List.all_cons,inMV (v_nC _)];rfl)
end Go.Proofs.YtkciabfilokfiaaGreat.Fx
