/-  -/
import Derived.Test.YtlnpgbnhcondjaaGreatDoorPS
import Derived.Test.YtlnpgbnhcondjaaGreatDoorZP
namespace Go.Proofs.YtlnpgbnhcondjaaGreatDoor.Fx
open Vg Tf
set_option linter.unusedSimpArgs false
set_option linter.unusedVariables false
set_option maxRecDepth 100000
set_option maxHeartbeats 4000000
theorem renamed_ {H:Hp}(s:Sv)(l:List Str)(hs:SlH H (vsl s l.length) 1 (strsR l))(hl:l.length≤1000000)(f t:Str):CallX H Tryz.prog 103 [.c (.v (vsl s l.length)),S f,S t] [] (fun _:Unit=> .c (.sl 1 0 l.length 1)) (fun _=>[(1,⟨false,(l.map (rnS f t)).map sC,9⟩)]) (fun _ _=>True):=by
 refine CallX.mkS Tryz.func103 rfl en103 (by simp[Tryz.ntmps103]) (ClA.of rfl) (fun _=>rfl) (fun _=>rfl) fun C hR hP hH hL=>?_
 have hR:=hR () C hL trivial
 refine Sm.go 100 ?_
 refine vv ?_
 refine Sm.bringS 3 9 0 (hs.mono hH) rfl rfl ?_
 refine Sm.nils 150 1 9 [7] [] rfl ?_
 refine Sm.loopM (M0:=[]) (α:={i:Nat//i≤l.length}) hP (fun i=>[(0,true,.c (.sl 3 0 l.length 1)),(1,true,S f),(2,true,S t),(7,true,.c (.sl 150 0 i.val 1)),(8,true,I i.val)]) (fun i=>[(3,⟨true,l.map sC,9⟩),(150,⟨false,((l.take i.val).map (rnS f t)).map sC,9⟩)]) (fun i=>l.length-i.val) ⟨0,by omega⟩ (fun _=>ClM.of (by simp only[List.all_cons,inMV (v_sC _)];rfl)) (fun _=>ClE.of rfl) [(3,3),(150,150)] ?_ ?_
 ·exact⟨rfl,trivial,⟨rfl,rfl,rfl,rfl,rfl,trivial⟩,⟨.inr ⟨_,rfl,.inl (renV (v_sC _))⟩,.inr ⟨_,rfl,.inl rfl⟩,trivial⟩⟩
 rintro⟨i,hi⟩ J hj
 simp only at hj hi⊢
 refine Sm.go 160 ?_
 refine vv ?_
 refine mtch (fun hc=>?_) (fun hc=>?_)
 ·have hc:=lt_of_dec hc
  have hln:(((l.take i).map (rnS f t)).map sC).length=i:=by rw[List.length_map,List.length_map,List.length_take];omega
  have hst:((l.take (i+1)).map (rnS f t)).map sC=((l.take i).map (rnS f t)).map sC++[sC (rnS f t l[i])]:=by rw[List.take_succ_eq_append_getElem hc,List.map_append,List.map_append];rfl
  have hrn:rnS f t l[i]=if l[i]=f then t else l[i]:=rfl
  simp(maxSteps:=2000000) only[go_sem,get_sC hc]
  refine⟨⟨by omega,by omega⟩,?_⟩
  refine mtch (fun hd=>?_) (fun hd=>?_)
  ·rw[if_pos (eq_of_beq hd)]at hrn
   refine⟨⟨by omega,by omega,by omega⟩,?_⟩
   rw[List.take_of_length_le (by omega)]
   have hst2:=hst
   rw[hrn]at hst2
   simp only[sC]at hst2⊢
   rw[←hst2]
   refine Sm.go 170 ?_
   simp(maxSteps:=2000000) only[go_sem,wS (show i≤1000000000000000000 by omega)]
   exact hj _ _ ⟨i+1,hc⟩ [(3,3),(150,161)] (by simp only;omega) ⟨rfl,trivial,⟨rfl,rfl,rfl,rfl,rfl,trivial⟩,⟨.inr ⟨_,rfl,.inl (renV (v_sC _))⟩,.inr ⟨_,rfl,.inl (renV (v_sC _))⟩,trivial⟩⟩
  ·rw[if_neg (fun h=>by rw[h]at hd;simp at hd)]at hrn
   refine⟨⟨by omega,by omega⟩,⟨by omega,by omega,by omega⟩,?_⟩
   rw[List.take_of_length_le (by omega)]
   have hst2:=hst
   rw[hrn]at hst2
   simp only[sC]at hst2⊢
   rw[←hst2]
   refine Sm.go 170 ?_
   simp(maxSteps:=2000000) only[go_sem,wS (show i≤1000000000000000000 by omega)]
   exact hj _ _ ⟨i+1,hc⟩ [(3,3),(150,161)] (by simp only;omega) ⟨rfl,trivial,⟨rfl,rfl,rfl,rfl,rfl,trivial⟩,⟨.inr ⟨_,rfl,.inl (renV (v_sC _))⟩,.inr ⟨_,rfl,.inl (renV (v_sC _))⟩,trivial⟩⟩
 have hc:=eq_of_dec hi hc
 subst hc
 rw[List.take_length]
 refine vv ?_
 exact RetQ.ren [(1,150)] hR hP rfl (vv trivial) rfl rfl trivial ⟨.inr ⟨_,rfl,.inl (renV (v_sC _))⟩,trivial⟩ (ClM.of (by simp only[List.cons_append,List.nil_append,List.all_cons,inMV (v_sC _)];rfl)) (ClV.of rfl)
theorem renamed7_ {H:Hp}(s:Sv)(l:List Str)(hs:SlH H (vsl s l.length) 1 (strsR l))(hl:l.length≤1000000)(f t:Str):CallX H Tryz.prog 103 [.c (.v (vsl s l.length)),S f,S t] [] (fun _:Unit=> .c (.sl 7 0 l.length 1)) (fun _=>[(7,⟨false,(l.map (rnS f t)).map sC,9⟩)]) (fun _ _=>True):=by
 have h0:=(renamed_ s l hs hl f t).ren (rn_inj [(1,7)] rfl)
 simp only[Mem.ren,List.map_cons,List.map_nil,renV (v_sC _)]at h0
 exact h0
@[reducible,go_sem] def rnC (d:DgL)(i q:Nat):List Cv:=[.v (sv d.nm),.v (vsl d.ty d.tys.length),.v (vsl d.cu d.cus.length),.v (vsl d.ma d.mas.length),.sl 14 0 i 4,.sl 15 0 q 6,.v (vsl d.ou d.ous.length)]
@[reducible,go_sem] def rnZ:List Cv:=[.v (sv []),.v (.slice none 0 0),.v (.slice none 0 0),.v (.slice none 0 0),.v (.slice none 0 0),.v (.slice none 0 0),.v (.slice none 0 0)]
@[reducible] def rnM (d:DgL)(A:List Po)(q:List BlL):Mem:=(1,⟨false,dvs d,30⟩)::(2,⟨false,rnZ,30⟩)::(3,⟨false,rnC d A.length q.length,30⟩)::(14,⟨false,rowsC (A.map Po.r),118⟩)::(15,⟨false,rowsC (q.map BlL.r),82⟩)::dmm d
theorem rnM_cl (d:DgL)(A:List Po)(q:List BlL):ClM (rnM d A q):=ClM.of (by simp only[rnM,List.all_cons,inMV (rowsC_isV _)];rfl)
@[reducible] def rnM7 (d:DgL)(A:List Po)(q:List BlL)(b:BlL)(f t:Str):Mem:=(1,⟨false,dvs d,30⟩)::(2,⟨false,rnZ,30⟩)::(3,⟨false,rnC d A.length (q.length+1),30⟩)::(14,⟨false,rowsC (A.map Po.r),118⟩)::(15,⟨false,rowsC (q.map BlL.r)++[.v (sv (rnS f t b.c.nm)),.v (sv b.c.kd),.v (sv b.c.ty),.sl 7 0 b.c.ins.length 1,.v (sv b.c.tb),.v (vsl b.k b.c.ks.length)],82⟩)::(7,⟨false,(b.c.ins.map (rnS f t)).map sC,9⟩)::dmm d
theorem rnM7_cl (d:DgL)(A:List Po)(q:List BlL)(b:BlL)(f t:Str):ClM (rnM7 d A q b f t):=ClM.of (by simp only[rnM7,List.all_cons,List.all_append,inMV (rowsC_isV _),inMV (v_sC _)];rfl)
theorem ren_app7 {q:List BlL}{x:List Cv}{L:List (Nat×Nat)}{ty:TypeId}{x':List Cv}(h:x.map (Cv.ren (rn L))=x'):(⟨false,rowsC (q.map BlL.r)++x,ty⟩:Bk).ren (rn L)=⟨false,rowsC (q.map BlL.r)++x',ty⟩:=by
 have h1:(⟨false,rowsC (q.map BlL.r),ty⟩:Bk).ren (rn L)=⟨false,rowsC (q.map BlL.r),ty⟩:=renV (rowsC_isV _)
 unfold Bk.ren at h1⊢
 injection h1 with _ h2 _
 rw[List.map_append,h2,h]
theorem rnB_end {f t:Str}{P:Program}{nt:Nat}{C C3:Cx}{todo:List It}(d:DgL)(A:List Po)(q:List BlL)(b:BlL)(l3:Lf C C3)(hP:Pins C.S [])(hk:SlH C3.hp (vsl b.k b.c.ks.length) 1 (intsR b.c.ks))(E:Env)(hE:concOk [7] E []=true)(hEc:∀β,E.conc [7] β=E)
  (h:∀(C4:Cx) (b':BlL),Lf C C4→C3.hp.le C4.hp→b'.c=rnB f t b.c→b'.ok C4.hp→Sm P nt C4 todo E (rnM d A (q++[b']))):Sm P nt C3 todo E (rnM7 d A q b f t):=by
 have kA:(rowsC (q.map BlL.r)++([.v (sv (rnS f t b.c.nm)),.v (sv b.c.kd),.v (sv b.c.ty),.sl 7 0 b.c.ins.length 1,.v (sv b.c.tb),.v (vsl b.k b.c.ks.length)]:List Cv)).all (Cv.cok [7])=true:=by rw[List.all_append,cokV (rowsC_isV _)];rfl
 have hE2:E.all (fun p=>p.2.2.cok [7])=true:=by unfold concOk at hE;rw[Bool.and_eq_true]at hE;exact hE.1
 refine Sm.letgo (M0:=[]) [7] l3 hP rfl (by unfold concOk;simp only[hE2,List.all_cons,kA,cokV (rowsC_isV _),cokV (v_sC _)];rfl) (fun β C4 l4 k4 kn=>?_)
 obtain⟨sz,hvz,hkz⟩:=(kn 7 _ rfl rfl rfl).vslx (sz:=1) (rows:=strsR (b.c.ins.map (rnS f t))) (lenR (fun s:Str=>[sv s]) 1 _ fun _=>rfl) (strsC _).symm
 have ez:(strsR (b.c.ins.map (rnS f t))).length=b.c.ins.length:=by simp[strsR]
 rw[ez]at hvz hkz
 rw[hEc]
 have hb:=h C4 ⟨rnB f t b.c,sz,b.k⟩ l4 k4 rfl ⟨by show SlH _ (vsl sz (b.c.ins.map (rnS f t)).length) 1 (strsR (b.c.ins.map (rnS f t)));rw[List.length_map];exact hkz,hk.mono k4⟩
 have hset:rowsC (q.map BlL.r)++[.v (sv (rnS f t b.c.nm)),.v (sv b.c.kd),.v (sv b.c.ty),.v (vsl sz b.c.ins.length),.v (sv b.c.tb),.v (vsl b.k b.c.ks.length)]=rowsC (q.map BlL.r++[(⟨rnB f t b.c,sz,b.k⟩:BlL).r]):=by
  simp[rowsC,BlL.r,rnB]
 simp only[rnM7,Mem.conc,Env.conc,Bk.conc,Cv.conc,V.conc,List.map_cons,List.map_nil,List.map_append,List.contains_cons,List.contains_nil,Nat.reduceBEq,Bool.or_false,Bool.or_true,cond_true,cond_false,concV (rowsC_isV _),hvz,hset]
 simp only[rnM,List.length_append,List.length_cons,List.length_nil,Nat.zero_add,List.map_append,List.map_cons,List.map_nil]at hb
 exact hb
theorem rrename_ {H:Hp}(d:DgL)(o:d.ok H)(hs:d.sm)(f t:Str)(ht:t.length≤1000000000000000):CallX H Tryz.prog 41 [rowV d.r,S f,S t] [] (fun x:DgL=> .tup [W.agg (x.r.map Cv.v),Wi (renQ d.c f t).2]) (fun _=>[]) (fun x H'=>x.c=(renQ d.c f t).1∧x.ok H'):=by
 have n4:(d.ins.map Po.r).length=d.ins.length:=List.length_map _
 have n5:(d.bls.map BlL.r).length=d.bls.length:=List.length_map _
 have hil:=hs.ins.1
 have hbl:=hs.bls.1
 refine CallX.mkS Tryz.func41 rfl en41 (by simp[Tryz.ntmps41]) (ClA.of rfl) (fun _=>rfl) (fun _=>rfl) fun C hR hP hH hL=>?_
 refine Sm.go 100 ?_
 refine vv ?_
 refine CallQ.h 110 (rdvalid d o hs) hH rfl ?_
 refine vv ?_
 refine mtch (fun hv=>?_) (fun hv=>?_)
 ·have hq:renQ d.c f t=(dg0,1):=by unfold renQ;rw[hv];rfl
  rw[hq]at hR
  exact RetQ.of (hR dgL0 C hL ⟨rfl,dgL0_ok _⟩) rfl (vv trivial) rfl (Sub.nil _) ClM.nil (ClV.of rfl)
 have hv2:dgOk d.c=true:=by simpa using hv
 have B:=dgB hv2
 have hB1:=B.ins
 have hB2:=B.bls
 have hB3:=B.ous
 refine CallQ.pure 110 (rName_ t ht) rfl ?_
 refine vv ?_
 refine mtch (fun hv=>?_) (fun hn=>?_)
 ·have hq:renQ d.c f t=(dg0,3):=by unfold renQ;rw[hv2,hv];rfl
  rw[hq]at hR
  exact RetQ.of (hR dgL0 C hL ⟨rfl,dgL0_ok _⟩) rfl (vv trivial) rfl (Sub.nil _) ClM.nil (ClV.of rfl)
 refine CallQ.h 110 (rfind_ d o f (by omega) (by omega)) hH rfl ?_
 refine vv ?_
 refine mtch (fun hv=>?_) (fun hf=>?_)
 ·have hq:renQ d.c f t=(dg0,7):=by unfold renQ;rw[hv2,hn,hv];rfl
  rw[hq]at hR
  exact RetQ.of (hR dgL0 C hL ⟨rfl,dgL0_ok _⟩) rfl (vv trivial) rfl (Sub.nil _) ClM.nil (ClV.of rfl)
 refine CallQ.h 110 (rfind_ d o t (by omega) (by omega)) hH rfl ?_
 refine vv ?_
 refine mtch (fun hv=>?_) (fun hg=>?_)
 ·have hq:renQ d.c f t=(dg0,8):=by unfold renQ;rw[hv2,hn,hf,hv];rfl
  rw[hq]at hR
  exact RetQ.of (hR dgL0 C hL ⟨rfl,dgL0_ok _⟩) rfl (vv trivial) rfl (Sub.nil _) ClM.nil (ClV.of rfl)
 have hq:renQ d.c f t=(renD d.c f t,0):=by unfold renQ;rw[hv2,hn,hf,hg];rfl
 rw[hq]at hR
 refine vv ?_
 refine Sm.bringC 4 118 100 4 (o.i.mono hH) rfl rfl rfl ?_
 refine Sm.bringC 5 82 100 5 (o.bl.mono hH) rfl rfl rfl ?_
 rw[n4,n5]
 refine Sm.nilCell 14 4 118 110 4 rfl rfl rfl ?_
 refine Sm.nilCell 15 6 82 110 5 rfl rfl rfl ?_
 refine Sm.loopM (M0:=[]) (α:={i:Nat//i≤d.ins.length}) hP (fun i=>[(1,true,S f),(2,true,S t),(3,true,.c (.p 1 0)),(6,true,.c (.p 2 0)),(8,true,.c (.p 3 0)),(9,true,I i.val)]) (fun i=>rnM d ((d.ins.take i.val).map (rnP f t)) []) (fun i=>d.ins.length-i.val) ⟨0,by omega⟩ (fun _=>rnM_cl _ _ _) (fun _=>ClE.of rfl) [(1,100),(2,101),(3,110),(4,4),(5,5),(14,14),(15,15)] ?_ ?_
 ·exact⟨rfl,trivial,⟨rfl,rfl,rfl,rfl,rfl,rfl,trivial⟩,⟨.inr ⟨_,rfl,.inl rfl⟩,.inr ⟨_,rfl,.inl rfl⟩,.inr ⟨_,rfl,.inl rfl⟩,.inr ⟨_,rfl,.inl rfl⟩,.inr ⟨_,rfl,.inl rfl⟩,.inr ⟨_,rfl,.inl (renV (rowsC_isV _))⟩,.inr ⟨_,rfl,.inl (renV (rowsC_isV _))⟩,trivial⟩⟩
 rintro⟨i,hi⟩ J hj
 simp only at hj hi⊢
 have hln:((d.ins.take i).map (rnP f t)).length=i:=by rw[List.length_map,List.length_take];omega
 refine Sm.go 120 ?_
 refine vv ?_
 refine mtch (fun hc=>?_) (fun hc=>?_)
 ·have hc:=lt_of_dec hc
  have htk:=rows_take (r:=Po.r) (k:=4) (fun _=>rfl) d.ins i hc
  have hsz:=rows_len (r:=Po.r) (k:=4) (fun _=>rfl) d.ins
  have htc:(d.ins.take (i+1)).map (rnP f t)=(d.ins.take i).map (rnP f t)++[rnP f t d.ins[i]]:=by rw[List.take_succ_eq_append_getElem hc,List.map_append];rfl
  simp only[htk,hsz]
  generalize d.ins[i]=x at*
  generalize (d.ins.take i).map (rnP f t)=A at*
  have hA:=rows_len (r:=Po.r) (k:=4) (fun _=>rfl) A
  simp(maxSteps:=2000000) only[go_sem,Po.r,hA,hln]
  have hlA:(A++[rnP f t x]).length=i+1:=by rw[List.length_append,hln];rfl
  have hap:=rows_app Po.r (k:=4) (fun _=>rfl) A (rnP f t x)
  rw[hln]at hap
  refine⟨⟨by omega,by omega⟩,by omega,?_⟩
  refine mtch (fun hd=>?_) (fun hd=>?_)
  ·have e1:rnP f t x=⟨t,x.ty,x.lo,x.hi⟩:=by unfold rnP rnS;rw[if_pos (eq_of_beq hd)]
   have hap2:List.take (i*4) (rowsC (A.map Po.r))++[.v (.string ⟨t.toArray⟩),.v (.string ⟨x.ty.toArray⟩),.v (.int .i64 x.lo),.v (.int .i64 x.hi)]=rowsC ((A++[rnP f t x]).map Po.r):=by rw[←hap,e1];rfl
   refine⟨⟨by omega,by omega,by omega⟩,?_⟩
   rw[hap2]
   refine Sm.go 130 ?_
   simp(maxSteps:=2000000) only[go_sem,wS (show i≤1000000000000000000 by omega)]
   refine hj _ _ ⟨i+1,hc⟩ [(1,1),(2,2),(3,3),(4,4),(5,5),(14,122),(15,15)] (by simp only;omega) ?_
   simp only[htc,rnM,hlA]
   exact⟨rfl,trivial,⟨rfl,rfl,rfl,rfl,rfl,rfl,trivial⟩,⟨.inr ⟨_,rfl,.inl rfl⟩,.inr ⟨_,rfl,.inl rfl⟩,.inr ⟨_,rfl,.inl rfl⟩,.inr ⟨_,rfl,.inl (renV (rowsC_isV _))⟩,.inr ⟨_,rfl,.inl rfl⟩,.inr ⟨_,rfl,.inl (renV (rowsC_isV _))⟩,.inr ⟨_,rfl,.inl (renV (rowsC_isV _))⟩,trivial⟩⟩
  ·have e1:rnP f t x=x:=by unfold rnP rnS;rw[if_neg (fun h=>by rw[h]at hd;simp at hd)]
   have hap2:List.take (i*4) (rowsC (A.map Po.r))++[.v (.string ⟨x.nm.toArray⟩),.v (.string ⟨x.ty.toArray⟩),.v (.int .i64 x.lo),.v (.int .i64 x.hi)]=rowsC ((A++[rnP f t x]).map Po.r):=by rw[←hap,e1];rfl
   refine⟨⟨by omega,by omega,by omega⟩,?_⟩
   rw[hap2]
   refine Sm.go 130 ?_
   simp(maxSteps:=2000000) only[go_sem,wS (show i≤1000000000000000000 by omega)]
   refine hj _ _ ⟨i+1,hc⟩ [(1,1),(2,2),(3,3),(4,4),(5,5),(14,122),(15,15)] (by simp only;omega) ?_
   simp only[htc,rnM,hlA]
   exact⟨rfl,trivial,⟨rfl,rfl,rfl,rfl,rfl,rfl,trivial⟩,⟨.inr ⟨_,rfl,.inl rfl⟩,.inr ⟨_,rfl,.inl rfl⟩,.inr ⟨_,rfl,.inl rfl⟩,.inr ⟨_,rfl,.inl (renV (rowsC_isV _))⟩,.inr ⟨_,rfl,.inl rfl⟩,.inr ⟨_,rfl,.inl (renV (rowsC_isV _))⟩,.inr ⟨_,rfl,.inl (renV (rowsC_isV _))⟩,trivial⟩⟩
 have hc:=eq_of_dec hi hc
 subst hc
 rw[List.take_length]at hln⊢
 clear hj
 refine Sm.loopX (C:=C) (Ck:=C) (M0:=[]) (α:={q:List BlL//q.length≤d.bls.length∧q.map BlL.c=(d.bls.take q.length).map (fun b=>rnB f t b.c)}) hL hP (fun q=>[(1,true,S f),(2,true,S t),(3,true,.c (.p 1 0)),(6,true,.c (.p 2 0)),(8,true,.c (.p 3 0)),(11,true,I q.val.length)])
  (fun q=>rnM d (d.ins.map (rnP f t)) q.val) (fun q hp=>H.le hp∧∀b∈q.val,b.ok hp) (fun q=>d.bls.length-q.val.length) ⟨[],by simp,by simp⟩ ⟨hH,by simp⟩ (fun _=>rnM_cl _ _ _) (fun _=>ClE.of rfl) [(1,1),(2,2),(3,3),(4,4),(5,5),(14,14),(15,15)] ⟨rfl,trivial,⟨rfl,rfl,rfl,rfl,rfl,rfl,trivial⟩,⟨.inr ⟨_,rfl,.inl rfl⟩,.inr ⟨_,rfl,.inl rfl⟩,.inr ⟨_,rfl,.inl rfl⟩,.inr ⟨_,rfl,.inl (renV (rowsC_isV _))⟩,.inr ⟨_,rfl,.inl rfl⟩,.inr ⟨_,rfl,.inl (renV (rowsC_isV _))⟩,.inr ⟨_,rfl,.inl (renV (rowsC_isV _))⟩,trivial⟩⟩ ?_
 rintro⟨q,hq,hqc⟩ C2 J l2 ⟨iH,iB⟩ hj
 simp only at hj hq hqc iB⊢
 generalize hAe:d.ins.map (rnP f t)=A at*
 refine Sm.go 150 ?_
 refine vv ?_
 refine mtch (fun hc=>?_) (fun hc=>?_)
 ·have hc:=lt_of_dec hc
  have htk:=rows_take (r:=BlL.r) (k:=6) (fun _=>rfl) d.bls q.length hc
  have hsz:=rows_len (r:=BlL.r) (k:=6) (fun _=>rfl) d.bls
  have hqn:=rows_len (r:=BlL.r) (k:=6) (fun _=>rfl) q
  have hmem:d.bls[q.length]∈d.bls:=List.getElem_mem hc
  have htc:d.bls.take (q.length+1)=d.bls.take q.length++[d.bls[q.length]]:=List.take_succ_eq_append_getElem hc
  have hbo:=(o.bls _ hmem).mono iH
  have hbi:=blO_in (B.blO _ hmem)
  simp only[htk,hsz]
  generalize d.bls[q.length]=b at*
  simp(maxSteps:=2000000) only[go_sem,BlL.r]
  refine⟨⟨by omega,by omega⟩,by omega,?_⟩
  have hqt:List.take (q.length*6) (rowsC (q.map BlL.r))=rowsC (q.map BlL.r):=List.take_of_length_le (by omega)
  have hrm:=renamed7_ b.i b.c.ins hbo.i (by omega) f t
  refine mtch (fun hd=>?_) (fun hd=>?_)
  ·have e1:(rnB f t b.c).nm=t:=by show rnS f t b.c.nm=t;unfold rnS;rw[if_pos (eq_of_beq hd)]
   refine CallQ.x 160 l2 hrm (Hp.le.refl _) (SubS.sub trivial) ClM.nil (fun _=>Fresh.of rfl) rfl rfl rfl (fun _ C3 H3 l3 k3 j3 _=>?_)
   simp(maxSteps:=2000000) only[go_sem,hqn,wS (show q.length≤1000000000000000000 by omega)]
   refine⟨⟨by omega,by omega,by omega⟩,?_⟩
   rw[hqt]
   refine Sm.cutm (M0:=[]) (l3.pins hP) [(1,true,S f),(2,true,S t),(3,true,.c (.p 1 0)),(6,true,.c (.p 2 0)),(8,true,.c (.p 3 0)),(11,true,I ((q.length+1:Nat):Int))] (rnM7 d A q b f t) [(1,1),(2,2),(3,3),(14,14),(15,161),(7,7),(4,4),(5,5)] ?_ (rnM7_cl _ _ _ _ _ _) (ClE.of rfl) ?_
   ·have e2:(rnS f t b.c.nm)=t:=e1
    simp only[rnM7,e2]
    exact⟨rfl,trivial,⟨rfl,rfl,rfl,rfl,rfl,rfl,trivial⟩,⟨.inr ⟨_,rfl,.inl rfl⟩,.inr ⟨_,rfl,.inl rfl⟩,.inr ⟨_,rfl,.inl rfl⟩,.inr ⟨_,rfl,.inl (renV (rowsC_isV _))⟩,.inr ⟨_,rfl,.inl (ren_app7 rfl)⟩,.inr ⟨_,rfl,.inl (renV (v_sC _))⟩,.inr ⟨_,rfl,.inl (renV (rowsC_isV _))⟩,.inr ⟨_,rfl,.inl (renV (rowsC_isV _))⟩,trivial⟩⟩
   refine rnB_end d A q b l3 hP ((hbo.k.mono k3)) _ rfl (fun _=>rfl) (fun C4 b' l4 k4 hc4 ho4=>?_)
   have hl1:(q++[b']).length=q.length+1:=by simp
   refine hj _ _ C4 ⟨q++[b'],by rw[hl1];omega,by rw[hl1,htc,List.map_append,List.map_append,hqc];simp[hc4]⟩ [(1,1),(2,2),(3,3),(4,4),(5,5),(14,14),(15,15)] l4 ⟨iH.trans (k3.trans k4),fun c hc=>?_⟩ (by simp only[hl1];omega) ?_
   ·rcases List.mem_append.1 hc with hc|hc
    ·exact(iB c hc).mono (k3.trans k4)
    ·obtain rfl:=List.mem_singleton.1 hc
     exact ho4
   ·simp only[hl1]
    exact⟨rfl,trivial,⟨rfl,rfl,rfl,rfl,rfl,rfl,trivial⟩,⟨.inr ⟨_,rfl,.inl rfl⟩,.inr ⟨_,rfl,.inl rfl⟩,.inr ⟨_,rfl,.inl rfl⟩,.inr ⟨_,rfl,.inl (renV (rowsC_isV _))⟩,.inr ⟨_,rfl,.inl (renV (rowsC_isV _))⟩,.inr ⟨_,rfl,.inl (renV (rowsC_isV _))⟩,.inr ⟨_,rfl,.inl (renV (rowsC_isV _))⟩,trivial⟩⟩
  ·have e1:(rnB f t b.c).nm=b.c.nm:=by show rnS f t b.c.nm=b.c.nm;unfold rnS;rw[if_neg (fun h=>by rw[h]at hd;simp at hd)]
   refine CallQ.x 160 l2 hrm (Hp.le.refl _) (SubS.sub trivial) ClM.nil (fun _=>Fresh.of rfl) rfl rfl rfl (fun _ C3 H3 l3 k3 j3 _=>?_)
   simp(maxSteps:=2000000) only[go_sem,hqn,wS (show q.length≤1000000000000000000 by omega)]
   refine⟨⟨by omega,by omega,by omega⟩,?_⟩
   rw[hqt]
   refine Sm.cutm (M0:=[]) (l3.pins hP) [(1,true,S f),(2,true,S t),(3,true,.c (.p 1 0)),(6,true,.c (.p 2 0)),(8,true,.c (.p 3 0)),(11,true,I ((q.length+1:Nat):Int))] (rnM7 d A q b f t) [(1,1),(2,2),(3,3),(14,14),(15,161),(7,7),(4,4),(5,5)] ?_ (rnM7_cl _ _ _ _ _ _) (ClE.of rfl) ?_
   ·have e2:(rnS f t b.c.nm)=b.c.nm:=e1
    simp only[rnM7,e2]
    exact⟨rfl,trivial,⟨rfl,rfl,rfl,rfl,rfl,rfl,trivial⟩,⟨.inr ⟨_,rfl,.inl rfl⟩,.inr ⟨_,rfl,.inl rfl⟩,.inr ⟨_,rfl,.inl rfl⟩,.inr ⟨_,rfl,.inl (renV (rowsC_isV _))⟩,.inr ⟨_,rfl,.inl (ren_app7 rfl)⟩,.inr ⟨_,rfl,.inl (renV (v_sC _))⟩,.inr ⟨_,rfl,.inl (renV (rowsC_isV _))⟩,.inr ⟨_,rfl,.inl (renV (rowsC_isV _))⟩,trivial⟩⟩
   refine rnB_end d A q b l3 hP ((hbo.k.mono k3)) _ rfl (fun _=>rfl) (fun C4 b' l4 k4 hc4 ho4=>?_)
   have hl1:(q++[b']).length=q.length+1:=by simp
   refine hj _ _ C4 ⟨q++[b'],by rw[hl1];omega,by rw[hl1,htc,List.map_append,List.map_append,hqc];simp[hc4]⟩ [(1,1),(2,2),(3,3),(4,4),(5,5),(14,14),(15,15)] l4 ⟨iH.trans (k3.trans k4),fun c hc=>?_⟩ (by simp only[hl1];omega) ?_
   ·rcases List.mem_append.1 hc with hc|hc
    ·exact(iB c hc).mono (k3.trans k4)
    ·obtain rfl:=List.mem_singleton.1 hc
     exact ho4
   ·simp only[hl1]
    exact⟨rfl,trivial,⟨rfl,rfl,rfl,rfl,rfl,rfl,trivial⟩,⟨.inr ⟨_,rfl,.inl rfl⟩,.inr ⟨_,rfl,.inl rfl⟩,.inr ⟨_,rfl,.inl rfl⟩,.inr ⟨_,rfl,.inl (renV (rowsC_isV _))⟩,.inr ⟨_,rfl,.inl (renV (rowsC_isV _))⟩,.inr ⟨_,rfl,.inl (renV (rowsC_isV _))⟩,.inr ⟨_,rfl,.inl (renV (rowsC_isV _))⟩,trivial⟩⟩
 have hc:=eq_of_dec hq hc
 clear hj
 have iB5:=iB
 have hrm:=renamed7_ d.ou d.ous (o.ou.mono iH) (by omega) f t
 refine CallQ.x 160 l2 hrm (Hp.le.refl _) (SubS.sub trivial) ClM.nil (fun _=>Fresh.of rfl) rfl rfl rfl (fun _ C3 H3 l3 k3 j3 _=>?_)
 refine vv ?_
 refine RetQ.letgo (M0:=[]) [14,15,7] l3 hP rfl (by unfold concOk;simp only[rnM,List.all_cons,cokV (rowsC_isV _),cokV (v_sC _)];rfl) (fun β C7 l7 k7 kn=>?_)
 obtain⟨s4,hv4,hk4⟩:=(kn 14 _ rfl rfl rfl).vslx (sz:=4) (rows:=A.map Po.r) (lenR Po.r 4 _ fun _=>rfl) rfl
 obtain⟨s5,hv5,hk5⟩:=(kn 15 _ rfl rfl rfl).vslx (sz:=6) (rows:=q.map BlL.r) (lenR BlL.r 6 _ fun _=>rfl) rfl
 obtain⟨s6,hv6,hk6⟩:=(kn 7 _ rfl rfl rfl).vslx (sz:=1) (rows:=strsR (d.ous.map (rnS f t))) (lenR (fun s:Str=>[sv s]) 1 _ fun _=>rfl) (strsC _).symm
 have hll6:(strsR (d.ous.map (rnS f t))).length=d.ous.length:=by simp[strsR]
 rw[List.length_map]at hv4 hk4 hv5 hk5
 rw[hll6]at hv6 hk6
 simp only[rnM,Mem.conc,Env.conc,Bk.conc,Cv.conc,V.conc,List.map_cons,List.map_nil,List.contains_cons,List.contains_nil,Nat.reduceBEq,Bool.or_false,Bool.or_true,cond_true,cond_false,concV (rowsC_isV _),concV (v_sC _),hv4,hv5,hv6]
 have HH:=iH.trans (k3.trans k7)
 rw[hc,List.take_length]at hqc
 have hR':=hR (DgL.mk d.nm d.tys d.cus d.mas A q (d.ous.map (rnS f t)) d.ty d.cu d.ma s4 s5 s6) C7 l7 ⟨by unfold DgL.c renD;simp only[hqc,List.map_map,←hAe];rfl,⟨o.ty.mono HH,o.cu.mono HH,o.ma.mono HH,hk4,hk5,by show SlH _ (vsl s6 (d.ous.map (rnS f t)).length) 1 _;rw[List.length_map];exact hk6,fun c hc=>(o.cus c hc).mono HH,fun c hc=>(o.mas c hc).mono HH,fun c hc=>(iB c hc).mono (k3.trans k7)⟩⟩
 have hvr:(DgL.mk d.nm d.tys d.cus d.mas A q (d.ous.map (rnS f t)) d.ty d.cu d.ma s4 s5 s6).r=[sv d.nm,vsl d.ty d.tys.length,vsl d.cu d.cus.length,vsl d.ma d.mas.length,vsl s4 A.length,vsl s5 q.length,vsl s6 d.ous.length]:=by
  simp only[DgL.r,List.length_map]
 rw[hvr]at hR'
 exact RetQ.of hR' rfl (vv trivial) rfl (Sub.nil _) ClM.nil (ClV.of rfl)
theorem ren_sm {x:DgL}{d:DgL}{f t:Str}(h:x.c=(renQ d.c f t).1):x.c=d0∨dgOk x.c=true:=by
 unfold renQ at h
 cases h1:dgOk d.c with
 |false=>rw[h1]at h;exact .inl h
 |true=>
  rw[h1]at h
  cases h2:nmOk t with
  |false=>rw[h2]at h;exact .inl h
  |true=>
   rw[h2]at h
   simp only[Bool.not_true,cond_false]at h
   cases h3:decide (fndQ (sigs d.c) f<0)with
   |true=>rw[h3]at h;exact .inl h
   |false=>
    rw[h3]at h
    simp only[cond_false]at h
    cases h4:decide (0≤fndQ (sigs d.c) t)with
    |true=>rw[h4]at h;exact .inl h
    |false=>
     rw[h4]at h
     exact .inr (by rw[h];exact ren_ok h1 h2)
theorem renames_law {H:Hp}(hE:ErR H)(d:DgL)(o:d.ok H)(hs:d.sm)(f t:Str):CallH H Tryz.prog 8 [rowV d.r,S f,S t] (Bo true):=by
 refine CallH.mkS Tryz.func8 rfl en8 (by simp[Tryz.ntmps8]) (ClA.of rfl) fun C hR hP hH hL=>?_
 refine Sm.go 100 ?_
 refine vv ?_
 refine CallQ.h 110 (awake_ hE) hH rfl ?_
 refine vv ?_
 refine CallQ.h 120 (few_ d o hs) hH rfl ?_
 refine vv ?_
 generalize fewB d=B0 at*
 refine mtch (fun hc=>?_) (fun hc=>?_)
 ·exact RetQ.bool (hR C hL) rfl ⟨rfl,trivial⟩ rfl
 have hc2:t.length≤60:=by
  cases h:decide (60<(t.length:Int))with
  |false=>have:=of_decide_eq_false h;omega
  |true=>
   rw[h]at hc
   revert hc
   cases B0<;>cases decide (60<(f.length:Int))<;>intro hc<;>cases hc
 refine CallQ.x 130 hL (rename_ d o hs f t (by omega)) hH (SubS.sub trivial) ClM.nil (fun _=>Fresh.of rfl) rfl rfl rfl (fun x C1 H1 l1 k1 j1 p1=>?_)
 have hcr:x.r.map Cv.v=[.v (sv x.nm),.v (vsl x.ty x.tys.length),.v (vsl x.cu x.cus.length),.v (vsl x.ma x.mas.length),.v (vsl x.i x.ins.length),.v (vsl x.bl x.bls.length),.v (vsl x.ou x.ous.length)]:=rfl
 rw[hcr]
 refine vv ?_
 have h1:=hH.trans k1
 refine CallQ.x 140 l1 (rrename_ d o hs f t (by omega)) h1 (SubS.sub trivial) ClM.nil (fun _=>Fresh.of rfl) rfl rfl rfl (fun y C2 H2 l2 k2 j2 p2=>?_)
 have hcr2:y.r.map Cv.v=[.v (sv y.nm),.v (vsl y.ty y.tys.length),.v (vsl y.cu y.cus.length),.v (vsl y.ma y.mas.length),.v (vsl y.i y.ins.length),.v (vsl y.bl y.bls.length),.v (vsl y.ou y.ous.length)]:=rfl
 rw[hcr2]
 simp(maxSteps:=2000000) only[go_sem,beq_self_eq_true]
 have hsm:=sm_ok (ren_sm p2.1)
 have hsame:=same_ (H:=C2.hp) x y ((p1.2.mono j1).mono k2) (p2.2.mono j2) (p1.1.trans p2.1.symm) hsm.1 hsm.2
 refine CallQ.h 150 hsame (Hp.le.refl _) rfl ?_
 refine vv ?_
 exact RetQ.bool (hR C2 l2) rfl ⟨rfl,trivial⟩ rfl
end Go.Proofs.YtlnpgbnhcondjaaGreatDoor.Fx
