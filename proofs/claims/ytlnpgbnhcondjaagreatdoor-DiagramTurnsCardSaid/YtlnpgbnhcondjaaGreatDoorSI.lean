/-  -/
import Derived.Test.YtlnpgbnhcondjaaGreatDoorShB
import Derived.Test.YtlnpgbnhcondjaaGreatDoorU8
namespace Go.Proofs.YtlnpgbnhcondjaaGreatDoor.Fx
open Vg Tf
set_option linter.unusedSimpArgs false
set_option linter.unusedVariables false
set_option maxRecDepth 100000
set_option maxHeartbeats 4000000
def rnP (f t:Str)(p:Po):Po:={p with nm:=rnS f t p.nm}
def rnB (f t:Str)(b:Bl):Bl:={b with nm:=rnS f t b.nm,ins:=b.ins.map (rnS f t)}
def renD (d:Dg)(f t:Str):Dg:={d with ins:=d.ins.map (rnP f t),bls:=d.bls.map (rnB f t),ous:=d.ous.map (rnS f t)}
def renQ (d:Dg)(f t:Str):Dg×Int:=
 bif !dgOk d then(dg0,1)else bif !nmOk t then(dg0,3)else bif decide (fndQ (sigs d) f<0)then(dg0,7)else bif decide (0≤fndQ (sigs d) t)then(dg0,8)else(renD d f t,0)
def frn {α:Type}(g:α→α)(l:List α)(i:Nat):List α:=(l.take i).map g++l.drop i
theorem frn_len {α:Type}(g:α→α)(l:List α)(i:Nat):(frn g l i).length=l.length:=by simp[frn];omega
theorem frn_all {α:Type}(g:α→α)(l:List α):frn g l l.length=l.map g:=by simp[frn]
theorem frn_split {α:Type}(g:α→α)(l:List α)(i:Nat)(h:i<l.length):frn g l i=(l.take i).map g++l[i]::l.drop (i+1)∧frn g l (i+1)=(l.take i).map g++g l[i]::l.drop (i+1):=by
 unfold frn
 refine⟨by rw[←List.drop_eq_getElem_cons h],?_⟩
 rw[List.take_succ_eq_append_getElem h,List.map_append]
 simp
theorem frn_at {α:Type}(g:α→α)(l:List α)(i:Nat)(h:i<l.length):(frn g l i)[i]?=some l[i]:=by
 have hl:((l.take i).map g).length=i:=by simp;omega
 rw[(frn_split g l i h).1,List.getElem?_append_right (by omega),hl,Nat.sub_self];rfl
theorem rename_ {H:Hp}(d:DgL)(o:d.ok H)(hs:d.sm)(f t:Str)(ht:t.length≤1000000000000000):CallX H Tryz.prog 40 [rowV d.r,S f,S t] [] (fun x:DgL=> .tup [W.agg (x.r.map Cv.v),Wi (renQ d.c f t).2]) (fun _=>[]) (fun x H'=>x.c=(renQ d.c f t).1∧x.ok H'):=by
 refine CallX.mkS Tryz.func40 rfl en40 (by simp[Tryz.ntmps40]) (ClA.of rfl) (fun _=>rfl) (fun _=>rfl) fun C hR hP hH hL=>?_
 refine Sm.go 100 ?_
 refine vv ?_
 refine CallQ.h 110 (dvalid d o hs) hH rfl ?_
 refine vv ?_
 refine mtch (fun hv=>?_) (fun hv=>?_)
 ·have hq:renQ d.c f t=(dg0,1):=by unfold renQ;rw[hv];rfl
  rw[hq]at hR
  exact RetQ.of (hR dgL0 C hL ⟨rfl,dgL0_ok _⟩) rfl (vv trivial) rfl (Sub.nil _) ClM.nil (ClV.of rfl)
 have hv2:dgOk d.c=true:=by simpa using hv
 have B:=dgB hv2
 have hB1:=B.ins
 have hB2:=B.bls
 have hB3:=B.ous
 refine CallQ.pure 110 (name_ok t ht) rfl ?_
 refine vv ?_
 refine mtch (fun hv=>?_) (fun hn=>?_)
 ·have hq:renQ d.c f t=(dg0,3):=by unfold renQ;rw[hv2,hv];rfl
  rw[hq]at hR
  exact RetQ.of (hR dgL0 C hL ⟨rfl,dgL0_ok _⟩) rfl (vv trivial) rfl (Sub.nil _) ClM.nil (ClV.of rfl)
 refine CallQ.h 110 (pfind_ d o f (by omega) (by omega)) hH rfl ?_
 refine vv ?_
 refine mtch (fun hv=>?_) (fun hf=>?_)
 ·have hq:renQ d.c f t=(dg0,7):=by unfold renQ;rw[hv2,hn,hv];rfl
  rw[hq]at hR
  exact RetQ.of (hR dgL0 C hL ⟨rfl,dgL0_ok _⟩) rfl (vv trivial) rfl (Sub.nil _) ClM.nil (ClV.of rfl)
 refine CallQ.h 110 (pfind_ d o t (by omega) (by omega)) hH rfl ?_
 refine vv ?_
 refine mtch (fun hv=>?_) (fun hg=>?_)
 ·have hq:renQ d.c f t=(dg0,8):=by unfold renQ;rw[hv2,hn,hf,hv];rfl
  rw[hq]at hR
  exact RetQ.of (hR dgL0 C hL ⟨rfl,dgL0_ok _⟩) rfl (vv trivial) rfl (Sub.nil _) ClM.nil (ClV.of rfl)
 have hq:renQ d.c f t=(renD d.c f t,0):=by unfold renQ;rw[hv2,hn,hf,hg];rfl
 rw[hq]at hR
 have oneR:∀{α:Type} (f:α→List Value) (l:List α),(∀a,∀v∈f a,v.oneCell'=true)→(rowsC (l.map f)).all Cv.one=true:=fun f l h=>one_rows _ (fun r hr=>by obtain⟨a,_,rfl⟩:=List.mem_map.1 hr;exact h a)
 have lenR:∀{α:Type} (f:α→List Value) (k:Nat) (l:List α),(∀a,(f a).length=k)→∀r∈l.map f,r.length=k:=fun f k l h r hr=>by obtain⟨a,_,rfl⟩:=List.mem_map.1 hr;exact h a
 have q4:=clo_at (rowsC_isV _) (cloPo (H:=H) _ _ o.i (lenR Po.r 4 _ fun _=>rfl) (oneR Po.r _ fun a=>by simp[Po.r,Value.oneCell']) (by simp;omega))
 have q5:=clo_at (rowsC_isV _) (cloBl (H:=H) _ _ o.bl (lenR BlL.r 6 _ fun _=>rfl) (oneR BlL.r _ fun a=>by simp[BlL.r,Value.oneCell']) (by simp;omega))
 have q6:=clo_at (rowsC_isV _) (cloSs (H:=H) _ _ o.ou (lenR (fun s:Str=>[sv s]) 1 _ fun _=>rfl) (oneR (fun s:Str=>[sv s]) _ fun a=>by simp[Value.oneCell']) (by simp[strsR];omega))
 have hsl:(strsR d.ous).length=d.ous.length:=by simp[strsR]
 simp only[hsl]at q6
 simp only[List.length_map]at q4 q5
 rw[show rowsC (strsR d.ous)=d.ous.map sC from strsC _]at q6
 refine Sm.dg 120 10 mix ?_
 refine vv ?_
 refine DCallQ.n1 140 (q4 114) hH rfl rfl rfl rfl ?_
 refine vv ?_
 refine DCallQ.n1 140 (q5 115) hH rfl rfl rfl rfl ?_
 refine vv ?_
 refine DCallQ.n1 140 (q6 116) hH rfl rfl rfl rfl ?_
 refine vv ?_
 have hnP:(d.ins.map Po.r).length=d.ins.length:=List.length_map _
 refine Sm.cutm (M0:=[]) hP [(3,true,.c (.p 1 0)),(6,true,.c (.p 2 0)),(8,true,.c (.fn 99 [(3,0),(4,0)])),(51,true,I d.ins.length),(52,true,I (0:Nat))] [(1,⟨false,[.v (sv d.nm),.v (vsl d.ty d.tys.length),.v (vsl d.cu d.cus.length),.v (vsl d.ma d.mas.length),.sl 114 0 d.ins.length 4,.sl 115 0 d.bls.length 6,.sl 116 0 d.ous.length 1],30⟩),(2,⟨false,z7,30⟩),(3,⟨false,[sC f],9⟩),(4,⟨false,[sC t],9⟩),(114,⟨false,rowsC (d.ins.map Po.r),118⟩),(115,⟨false,rowsC (d.bls.map BlL.r),82⟩),(116,⟨false,d.ous.map sC,9⟩)] [(1,100),(2,103),(3,101),(4,102),(114,114),(115,115),(116,116)] ⟨rfl,trivial,⟨rfl,rfl,rfl,rfl,rfl,trivial⟩,⟨oR,oR,oR,oR,oV (renV (rowsC_isV _)),oV (renV (rowsC_isV _)),oV (renV (v_sC _)),trivial⟩⟩ (ClM.of (by simp only[List.all_cons,inMV (rowsC_isV _),inMV (v_sC _)];rfl)) (ClE.of rfl) ?_
 refine Sm.loopM (M0:=[]) (α:={i:Nat//i≤d.ins.length}) hP (fun i=>[(3,true,.c (.p 1 0)),(6,true,.c (.p 2 0)),(8,true,.c (.fn 99 [(3,0),(4,0)])),(51,true,I d.ins.length),(52,true,I i.val)]) (fun i=>[(1,⟨false,[.v (sv d.nm),.v (vsl d.ty d.tys.length),.v (vsl d.cu d.cus.length),.v (vsl d.ma d.mas.length),.sl 114 0 d.ins.length 4,.sl 115 0 d.bls.length 6,.sl 116 0 d.ous.length 1],30⟩),(2,⟨false,z7,30⟩),(3,⟨false,[sC f],9⟩),(4,⟨false,[sC t],9⟩),(114,⟨false,rowsC ((frn (rnP f t) d.ins i.val).map Po.r),118⟩),(115,⟨false,rowsC (d.bls.map BlL.r),82⟩),(116,⟨false,d.ous.map sC,9⟩)]) (fun i=>d.ins.length-i.val) ⟨0,by omega⟩ (fun _=>ClM.of (by simp only[List.all_cons,inMV (rowsC_isV _),inMV (v_sC _)];rfl)) (fun _=>ClE.of rfl) [(1,1),(2,2),(3,3),(4,4),(114,114),(115,115),(116,116)] ⟨rfl,trivial,⟨rfl,rfl,rfl,rfl,rfl,trivial⟩,⟨oR,oR,oR,oR,oV (renV (rowsC_isV _)),oV (renV (rowsC_isV _)),oV (renV (v_sC _)),trivial⟩⟩ ?_
 rintro⟨i,hi⟩ J hj
 simp only at hj hi⊢
 refine Sm.go 150 ?_
 refine vv ?_
 refine mtch (fun hc=>?_) (fun hc=>?_)
 ·have hc:=lt_of_dec hc
  have hll:=frn_len (rnP f t) d.ins i
  have hat:=frn_at (rnP f t) d.ins i hc
  obtain⟨s1,s2⟩:=frn_split (rnP f t) d.ins i hc
  have f0:=rows_one (r:=Po.r) (k:=4) (fun _=>rfl) (frn (rnP f t) d.ins i) i 0 (by omega) (by omega)
  rw[List.getElem?_eq_getElem (by omega)]at hat
  rw[Option.some.inj hat,Nat.add_zero]at f0
  refine⟨⟨by omega,by omega⟩,?_⟩
  refine CallQ.ren [(3,114),(1,3),(2,4)] 160 (chg_ f t d.ins[i].nm _ (rowsC_isV _) (i*4) 118 f0) (ClM.of (by simp only[List.all_cons,inMV (rowsC_isV _)];rfl)) rfl rfl ⟨oW (renV (rowsC_isV _)),⟨_,rfl,.inr ⟨rfl,[],rfl⟩⟩,⟨_,rfl,.inr ⟨rfl,[],rfl⟩⟩,trivial⟩ rfl (.inl rfl) ?_
  have hset:(rowsC ((frn (rnP f t) d.ins i).map Po.r)).set (i*4) (sC (rnS f t d.ins[i].nm))=rowsC ((frn (rnP f t) d.ins (i+1)).map Po.r):=by
   have hA:=lenR Po.r 4 ((d.ins.take i).map (rnP f t)) (fun _=>rfl)
   have h1:=rowsC_set (k:=4) (((d.ins.take i).map (rnP f t)).map Po.r) ((d.ins.drop (i+1)).map Po.r) (Po.r d.ins[i]) hA 0 (by simp[Po.r]) (sv (rnS f t d.ins[i].nm))
   have hln:(((d.ins.take i).map (rnP f t)).map Po.r).length=i:=by simp;omega
   rw[hln,Nat.add_zero]at h1
   rw[s1,s2,List.map_append,List.map_cons,List.map_append,List.map_cons]
   exact h1
  simp only[Mem.ren,List.map_cons,List.map_nil,renV (setV (rowsC_isV _)),V.ren,Cv.ren,rn,Nat.reduceBEq,cond_true,cond_false]
  simp only[hset]
  simp(maxSteps:=2000000) only[go_sem,wS (show i≤1000000000000000000 by omega)]
  exact hj _ _ ⟨i+1,hc⟩ [(1,1),(2,2),(3,3),(4,4),(114,114),(115,115),(116,116)] (by simp only;omega) ⟨rfl,trivial,⟨rfl,rfl,rfl,rfl,rfl,trivial⟩,⟨oR,oR,oR,oR,oV (renV (rowsC_isV _)),oV (renV (rowsC_isV _)),oV (renV (v_sC _)),trivial⟩⟩
 have hc:=eq_of_dec hi hc
 subst hc
 rw[frn_all]
 clear hj
 have hcm:∀q:List BlL,q.map BlL.c=(d.bls.take q.length).map (fun b=>rnB f t b.c)→True:=fun _ _=>trivial
 clear hcm
 refine Sm.loopX (C:=C) (Ck:=C) (M0:=[]) (α:={q:List BlL//q.length≤d.bls.length∧q.map BlL.c=(d.bls.take q.length).map (fun b=>rnB f t b.c)}) hL hP (fun q=>[(3,true,.c (.p 1 0)),(6,true,.c (.p 2 0)),(8,true,.c (.fn 99 [(3,0),(4,0)])),(65,true,I d.bls.length),(66,true,I q.val.length)])
  (fun q=>[(1,⟨false,[.v (sv d.nm),.v (vsl d.ty d.tys.length),.v (vsl d.cu d.cus.length),.v (vsl d.ma d.mas.length),.sl 114 0 d.ins.length 4,.sl 115 0 d.bls.length 6,.sl 116 0 d.ous.length 1],30⟩),(2,⟨false,z7,30⟩),(3,⟨false,[sC f],9⟩),(4,⟨false,[sC t],9⟩),(114,⟨false,rowsC ((d.ins.map (rnP f t)).map Po.r),118⟩),(115,⟨false,rowsC ((q.val++d.bls.drop q.val.length).map BlL.r),82⟩),(116,⟨false,d.ous.map sC,9⟩)])
  (fun q hp=>H.le hp∧∀b∈q.val,b.ok hp) (fun q=>d.bls.length-q.val.length) ⟨[],by simp,by simp⟩ ⟨hH,by simp⟩ (fun _=>ClM.of (by simp only[List.all_cons,inMV (rowsC_isV _),inMV (v_sC _)];rfl)) (fun _=>ClE.of rfl) [(1,1),(2,2),(3,3),(4,4),(114,114),(115,115),(116,116)] ⟨rfl,trivial,⟨rfl,rfl,rfl,rfl,rfl,trivial⟩,⟨oR,oR,oR,oR,oV (renV (rowsC_isV _)),oV (renV (rowsC_isV _)),oV (renV (v_sC _)),trivial⟩⟩ ?_
 rintro⟨q,hq,hqc⟩ C2 J l2 ⟨iH,iB⟩ hj
 simp only at hj hq hqc iB⊢
 refine Sm.go 150 ?_
 refine vv ?_
 refine mtch (fun hc=>?_) (fun hc=>?_)
 ·have hc:=lt_of_dec hc
  have hqd:(q++d.bls.drop q.length)[q.length]?=some d.bls[q.length]:=by
   rw[List.getElem?_append_right (Nat.le_refl _),Nat.sub_self,List.drop_eq_getElem_cons hc];rfl
  have hmem:d.bls[q.length]∈d.bls:=List.getElem_mem hc
  have hdc:d.bls.drop q.length=d.bls[q.length]::d.bls.drop (q.length+1):=List.drop_eq_getElem_cons hc
  have htc:d.bls.take (q.length+1)=d.bls.take q.length++[d.bls[q.length]]:=List.take_succ_eq_append_getElem hc
  have hbo:=(o.bls _ hmem).mono iH
  have hbi:=blO_in (B.blO _ hmem)
  have hll:(q++d.bls.drop q.length).length=d.bls.length:=by simp;omega
  have f0:=rows_one (r:=BlL.r) (k:=6) (fun _=>rfl) (q++d.bls.drop q.length) q.length 0 (by omega) (by omega)
  have f3:=rows_one (r:=BlL.r) (k:=6) (fun _=>rfl) (q++d.bls.drop q.length) q.length 3 (by omega) (by omega)
  rw[List.getElem?_eq_getElem (by omega)]at hqd
  rw[Option.some.inj hqd]at f0 f3
  rw[Nat.add_zero]at f0
  generalize d.bls[q.length]=bb at*
  refine⟨⟨by omega,by omega⟩,?_⟩
  refine CallQ.ren [(3,115),(1,3),(2,4)] 160 (chg_ f t bb.c.nm _ (rowsC_isV _) (q.length*6) 82 f0) (ClM.of (by simp only[List.all_cons,inMV (rowsC_isV _)];rfl)) rfl rfl ⟨oW (renV (rowsC_isV _)),⟨_,rfl,.inr ⟨rfl,[],rfl⟩⟩,⟨_,rfl,.inr ⟨rfl,[],rfl⟩⟩,trivial⟩ rfl (.inl rfl) ?_
  have hA:=lenR BlL.r 6 q (fun _=>rfl)
  have hset:(rowsC ((q++d.bls.drop q.length).map BlL.r)).set (q.length*6) (sC (rnS f t bb.c.nm))=rowsC (q.map BlL.r++(BlL.r bb).set 0 (sv (rnS f t bb.c.nm))::(d.bls.drop (q.length+1)).map BlL.r):=by
   have h1:=rowsC_set (k:=6) (q.map BlL.r) ((d.bls.drop (q.length+1)).map BlL.r) (BlL.r bb) hA 0 (by simp[BlL.r]) (sv (rnS f t bb.c.nm))
   rw[List.length_map,Nat.add_zero]at h1
   rw[hdc,List.map_append,List.map_cons]
   exact h1
  simp only[Mem.ren,List.map_cons,List.map_nil,renV (setV (rowsC_isV _)),V.ren,Cv.ren,rn,Nat.reduceBEq,cond_true,cond_false]
  simp only[hset]
  have hg3:(rowsC (q.map BlL.r++(BlL.r bb).set 0 (sv (rnS f t bb.c.nm))::(d.bls.drop (q.length+1)).map BlL.r))[q.length*6+3]?=some (.v (vsl bb.i bb.c.ins.length)):=by
   rw[←hset,List.getElem?_set_ne (by omega),f3];rfl
  have hzl:(rowsC (q.map BlL.r++(BlL.r bb).set 0 (sv (rnS f t bb.c.nm))::(d.bls.drop (q.length+1)).map BlL.r)).length=d.bls.length*6:=by
   rw[←hset,List.length_set,rows_len (r:=BlL.r) (k:=6) (fun _=>rfl),hll]
  generalize hZ:rowsC (q.map BlL.r++(BlL.r bb).set 0 (sv (rnS f t bb.c.nm))::(d.bls.drop (q.length+1)).map BlL.r)=Z at*
  have hZv:Z.all Cv.isV=true:=by rw[←hZ];exact rowsC_isV _
  have c1:=clo_at (rowsC_isV _) (cloSs (H:=C2.hp) _ _ hbo.i (lenR (fun s:Str=>[sv s]) 1 _ fun _=>rfl) (oneR (fun s:Str=>[sv s]) _ fun a=>by simp[Value.oneCell']) (by simp[strsR];omega))
  have e1:(strsR bb.c.ins).length=bb.c.ins.length:=by simp[strsR]
  simp only[e1]at c1
  rw[show rowsC (strsR bb.c.ins)=bb.c.ins.map sC from strsC _]at c1
  simp(maxSteps:=2000000) only[go_sem,hg3]
  refine CallQ.hr [(121,121)] 170 (c1 121) (Hp.le.refl _) ClM.nil rfl rfl trivial rfl (.inl rfl) ?_
  simp only[Mem.ren,List.map_cons,List.map_nil,renV (v_sC _),V.ren,Cv.ren,rn,Nat.reduceBEq,cond_true,cond_false]
  have hgs:(Z.set (q.length*6+3) (Cv.sl 121 0 bb.c.ins.length 1))[q.length*6+3]?=some (.sl 121 0 bb.c.ins.length 1):=by
   rw[List.getElem?_set_self (by omega)]
  simp(maxSteps:=2000000) only[go_sem,hgs]
  refine⟨by omega,?_⟩
  generalize hnc:bb.c.ins.length=nc at*
  have hcl:∀l:List Str,ClM [(1,⟨false,[.v (sv d.nm),.v (vsl d.ty d.tys.length),.v (vsl d.cu d.cus.length),.v (vsl d.ma d.mas.length),.sl 114 0 d.ins.length 4,.sl 115 0 d.bls.length 6,.sl 116 0 d.ous.length 1],30⟩),(2,⟨false,z7,30⟩),(3,⟨false,[sC f],9⟩),(4,⟨false,[sC t],9⟩),(114,⟨false,rowsC ((d.ins.map (rnP f t)).map Po.r),118⟩),(115,⟨false,Z.set (q.length*6+3) (Cv.sl 121 0 nc 1),82⟩),(116,⟨false,d.ous.map sC,9⟩),(121,⟨false,l.map sC,9⟩)]:=fun l=>ClM.of (by
   simp only[List.all_cons,inMV (rowsC_isV _),inMV (v_sC _)]
   rw[inM_set (inMV hZv) rfl];rfl)
  refine Sm.loopM (M0:=[]) (α:={k:Nat//k≤nc}) (l2.pins hP) (fun k=>[(3,true,.c (.p 1 0)),(6,true,.c (.p 2 0)),(8,true,.c (.fn 99 [(3,0),(4,0)])),(65,true,I d.bls.length),(66,true,I q.length),(11,true,.c (.p 115 (q.length*6))),(90,true,I nc),(91,true,I k.val)])
   (fun k=>[(1,⟨false,[.v (sv d.nm),.v (vsl d.ty d.tys.length),.v (vsl d.cu d.cus.length),.v (vsl d.ma d.mas.length),.sl 114 0 d.ins.length 4,.sl 115 0 d.bls.length 6,.sl 116 0 d.ous.length 1],30⟩),(2,⟨false,z7,30⟩),(3,⟨false,[sC f],9⟩),(4,⟨false,[sC t],9⟩),(114,⟨false,rowsC ((d.ins.map (rnP f t)).map Po.r),118⟩),(115,⟨false,Z.set (q.length*6+3) (Cv.sl 121 0 nc 1),82⟩),(116,⟨false,d.ous.map sC,9⟩),(121,⟨false,(frn (rnS f t) bb.c.ins k.val).map sC,9⟩)]) (fun k=>nc-k.val) ⟨0,by omega⟩ (fun _=>hcl _) (fun _=>ClE.of rfl) [(1,1),(2,2),(3,3),(4,4),(114,114),(115,115),(116,116),(121,121)] ⟨rfl,trivial,⟨rfl,rfl,rfl,rfl,rfl,rfl,rfl,rfl,trivial⟩,⟨oR,oR,oR,oR,oV (renV (rowsC_isV _)),.inr ⟨_,rfl,.inl (ren_set hZv rfl)⟩,oV (renV (v_sC _)),oV (renV (v_sC _)),trivial⟩⟩ ?_
  rintro⟨k,hk⟩ J3 hj3
  simp only at hj3 hk⊢
  refine Sm.go 180 ?_
  refine vv ?_
  refine mtch (fun hkc=>?_) (fun hkc=>?_)
  ·have hkc:=lt_of_dec hkc
   have hkc2:k<bb.c.ins.length:=by omega
   have hl3:=frn_len (rnS f t) bb.c.ins k
   have hat:=frn_at (rnS f t) bb.c.ins k hkc2
   obtain⟨s1,s2⟩:=frn_split (rnS f t) bb.c.ins k hkc2
   have hgk:((frn (rnS f t) bb.c.ins k).map sC)[k]?=some (sC bb.c.ins[k]):=by rw[List.getElem?_map,hat];rfl
   have hsk:((frn (rnS f t) bb.c.ins k).map sC).set k (sC (rnS f t bb.c.ins[k]))=(frn (rnS f t) bb.c.ins (k+1)).map sC:=by
    have hln:(((bb.c.ins.take k).map (rnS f t)).map sC).length=k:=by simp;omega
    rw[s1,s2,List.map_append,List.map_cons,List.map_append,List.map_cons,List.set_append_right _ _ (by omega),hln,Nat.sub_self];rfl
   simp(maxSteps:=2000000) only[go_sem,hgs]
   refine⟨⟨by omega,by omega⟩,?_⟩
   refine CallQ.ren [(3,121),(1,3),(2,4)] 190 (chg_ f t bb.c.ins[k] _ (v_sC _) k 9 hgk) (ClM.of (by simp only[List.all_cons,inMV (v_sC _)];rfl)) rfl rfl ⟨oW (renV (v_sC _)),⟨_,rfl,.inr ⟨rfl,[],rfl⟩⟩,⟨_,rfl,.inr ⟨rfl,[],rfl⟩⟩,trivial⟩ rfl (.inl rfl) ?_
   simp only[Mem.ren,List.map_cons,List.map_nil,renV (setV (v_sC _)),V.ren,Cv.ren,rn,Nat.reduceBEq,cond_true,cond_false]
   simp only[hsk]
   simp(maxSteps:=2000000) only[go_sem,wS (show k≤1000000000000000000 by omega)]
   exact hj3 _ _ ⟨k+1,hkc⟩ [(1,1),(2,2),(3,3),(4,4),(114,114),(115,115),(116,116),(121,121)] (by simp only;omega) ⟨rfl,trivial,⟨rfl,rfl,rfl,rfl,rfl,rfl,rfl,rfl,trivial⟩,⟨oR,oR,oR,oR,oV (renV (rowsC_isV _)),.inr ⟨_,rfl,.inl (ren_set hZv rfl)⟩,oV (renV (v_sC _)),oV (renV (v_sC _)),trivial⟩⟩
  have hkc:=eq_of_dec hk hkc
  clear hj3
  rw[hkc,←hnc,frn_all]
  have kA:(Z.set (q.length*6+3) (Cv.sl 121 0 bb.c.ins.length 1)).all (Cv.cok [121])=true:=cok_set (cokV hZv) rfl
  refine Sm.letgo (M0:=[]) [121] l2 hP rfl (by unfold concOk;simp only[List.all_cons,kA,cokV (rowsC_isV _),cokV (v_sC _)];rfl) (fun β C3 l3 k3 kn=>?_)
  have hll1:(strsR (bb.c.ins.map (rnS f t))).length=bb.c.ins.length:=by simp[strsR]
  obtain⟨sx,hvx,hkx⟩:=(kn 121 _ rfl rfl rfl).vslx (sz:=1) (rows:=strsR (bb.c.ins.map (rnS f t))) (lenR (fun s:Str=>[sv s]) 1 _ fun _=>rfl) (strsC _).symm
  rw[hll1]at hvx hkx
  simp only[Mem.conc,Env.conc,Bk.conc,Cv.conc,V.conc,List.map_cons,List.map_nil,List.contains_cons,List.contains_nil,Nat.reduceBEq,Bool.or_false,Bool.or_true,cond_true,cond_false,List.map_set,concV (rowsC_isV _),concV hZv,concV (v_sC _),hvx]
  have hfin:Z.set (q.length*6+3) (.v (vsl sx bb.c.ins.length))=rowsC (((q++[BlL.mk (rnB f t bb.c) sx bb.k])++d.bls.drop (q++[BlL.mk (rnB f t bb.c) sx bb.k]).length).map BlL.r):=by
   have h2:=rowsC_set (k:=6) (q.map BlL.r) ((d.bls.drop (q.length+1)).map BlL.r) ((BlL.r bb).set 0 (sv (rnS f t bb.c.nm))) hA 3 (by simp[BlL.r]) (vsl sx bb.c.ins.length)
   rw[List.length_map,hZ]at h2
   rw[h2]
   simp only[List.length_append,List.length_cons,List.length_nil,Nat.zero_add,List.map_append,List.map_cons,List.map_nil,List.append_assoc,List.cons_append,List.nil_append]
   congr 3
   simp[BlL.r,rnB]
  rw[hfin]
  simp only[wS (show q.length≤1000000000000000000 by omega)]
  refine hj _ _ C3 ⟨q++[BlL.mk (rnB f t bb.c) sx bb.k],by simp;omega,by simp only[List.map_append,List.map_cons,List.map_nil,List.length_append,List.length_cons,List.length_nil,Nat.zero_add];rw[htc,List.map_append,hqc];rfl⟩ [(1,1),(2,2),(3,3),(4,4),(114,114),(115,115),(116,116)] l3 ⟨iH.trans k3,fun c hc=>?_⟩ (by simp only[List.length_append,List.length_cons,List.length_nil];omega) ?_
  ·rcases List.mem_append.1 hc with hc|hc
   ·exact(iB c hc).mono k3
   ·obtain rfl:=List.mem_singleton.1 hc
    refine⟨?_,hbo.k.mono k3⟩
    show SlH C3.hp (vsl sx (bb.c.ins.map (rnS f t)).length) 1 (strsR (bb.c.ins.map (rnS f t)))
    rw[List.length_map]
    exact hkx
  ·simp only[List.length_append,List.length_cons,List.length_nil,Nat.zero_add]
   exact⟨rfl,trivial,⟨rfl,rfl,rfl,rfl,rfl,trivial⟩,⟨oR,oR,oR,oR,oV (renV (rowsC_isV _)),oV (renV (rowsC_isV _)),oV (renV (v_sC _)),trivial⟩⟩
 have hc:=eq_of_dec hq hc
 have hqe:q++d.bls.drop q.length=q:=by rw[hc,List.drop_length,List.append_nil]
 have hqc:q.map BlL.c=d.bls.map (fun b=>rnB f t b.c):=by rw[hqc,hc,List.take_length]
 rw[hqe]
 clear hj
 have hcl:∀l:List Str,ClM [(1,⟨false,[.v (sv d.nm),.v (vsl d.ty d.tys.length),.v (vsl d.cu d.cus.length),.v (vsl d.ma d.mas.length),.sl 114 0 d.ins.length 4,.sl 115 0 d.bls.length 6,.sl 116 0 d.ous.length 1],30⟩),(2,⟨false,z7,30⟩),(3,⟨false,[sC f],9⟩),(4,⟨false,[sC t],9⟩),(114,⟨false,rowsC ((d.ins.map (rnP f t)).map Po.r),118⟩),(115,⟨false,rowsC (q.map BlL.r),82⟩),(116,⟨false,l.map sC,9⟩)]:=fun l=>ClM.of (by simp only[List.all_cons,inMV (rowsC_isV _),inMV (v_sC _)];rfl)
 refine Sm.loopM (M0:=[]) (α:={k:Nat//k≤d.ous.length}) (l2.pins hP) (fun k=>[(3,true,.c (.p 1 0)),(6,true,.c (.p 2 0)),(8,true,.c (.fn 99 [(3,0),(4,0)])),(106,true,I d.ous.length),(107,true,I k.val)])
  (fun k=>[(1,⟨false,[.v (sv d.nm),.v (vsl d.ty d.tys.length),.v (vsl d.cu d.cus.length),.v (vsl d.ma d.mas.length),.sl 114 0 d.ins.length 4,.sl 115 0 d.bls.length 6,.sl 116 0 d.ous.length 1],30⟩),(2,⟨false,z7,30⟩),(3,⟨false,[sC f],9⟩),(4,⟨false,[sC t],9⟩),(114,⟨false,rowsC ((d.ins.map (rnP f t)).map Po.r),118⟩),(115,⟨false,rowsC (q.map BlL.r),82⟩),(116,⟨false,(frn (rnS f t) d.ous k.val).map sC,9⟩)]) (fun k=>d.ous.length-k.val) ⟨0,by omega⟩ (fun _=>hcl _) (fun _=>ClE.of rfl) [(1,1),(2,2),(3,3),(4,4),(114,114),(115,115),(116,116)] ⟨rfl,trivial,⟨rfl,rfl,rfl,rfl,rfl,trivial⟩,⟨oR,oR,oR,oR,oV (renV (rowsC_isV _)),oV (renV (rowsC_isV _)),oV (renV (v_sC _)),trivial⟩⟩ ?_
 rintro⟨k,hk⟩ J3 hj3
 simp only at hj3 hk⊢
 refine Sm.go 180 ?_
 refine vv ?_
 refine mtch (fun hkc=>?_) (fun hkc=>?_)
 ·have hkc:=lt_of_dec hkc
  have hl3:=frn_len (rnS f t) d.ous k
  have hat:=frn_at (rnS f t) d.ous k hkc
  obtain⟨s1,s2⟩:=frn_split (rnS f t) d.ous k hkc
  have hgk:((frn (rnS f t) d.ous k).map sC)[k]?=some (sC d.ous[k]):=by rw[List.getElem?_map,hat];rfl
  have hsk:((frn (rnS f t) d.ous k).map sC).set k (sC (rnS f t d.ous[k]))=(frn (rnS f t) d.ous (k+1)).map sC:=by
   have hln:(((d.ous.take k).map (rnS f t)).map sC).length=k:=by simp;omega
   rw[s1,s2,List.map_append,List.map_cons,List.map_append,List.map_cons,List.set_append_right _ _ (by omega),hln,Nat.sub_self];rfl
  refine⟨⟨by omega,by omega⟩,?_⟩
  refine CallQ.ren [(3,116),(1,3),(2,4)] 190 (chg_ f t d.ous[k] _ (v_sC _) k 9 hgk) (ClM.of (by simp only[List.all_cons,inMV (v_sC _)];rfl)) rfl rfl ⟨oW (renV (v_sC _)),⟨_,rfl,.inr ⟨rfl,[],rfl⟩⟩,⟨_,rfl,.inr ⟨rfl,[],rfl⟩⟩,trivial⟩ rfl (.inl rfl) ?_
  simp only[Mem.ren,List.map_cons,List.map_nil,renV (setV (v_sC _)),V.ren,Cv.ren,rn,Nat.reduceBEq,cond_true,cond_false]
  simp only[hsk]
  simp(maxSteps:=2000000) only[go_sem,wS (show k≤1000000000000000000 by omega)]
  exact hj3 _ _ ⟨k+1,hkc⟩ [(1,1),(2,2),(3,3),(4,4),(114,114),(115,115),(116,116)] (by simp only;omega) ⟨rfl,trivial,⟨rfl,rfl,rfl,rfl,rfl,trivial⟩,⟨oR,oR,oR,oR,oV (renV (rowsC_isV _)),oV (renV (rowsC_isV _)),oV (renV (v_sC _)),trivial⟩⟩
 have hkc:=eq_of_dec hk hkc
 subst hkc
 rw[frn_all]
 clear hj3
 refine RetQ.letgo (M0:=[]) [114,115,116] l2 hP rfl (by unfold concOk;simp only[List.all_cons,cokV (rowsC_isV _),cokV (v_sC _)];rfl) (fun β C7 l7 k7 kn=>?_)
 obtain⟨s4,hv4,hk4⟩:=(kn 114 _ rfl rfl rfl).vslx (sz:=4) (rows:=(d.ins.map (rnP f t)).map Po.r) (lenR Po.r 4 _ fun _=>rfl) rfl
 obtain⟨s5,hv5,hk5⟩:=(kn 115 _ rfl rfl rfl).vslx (sz:=6) (rows:=q.map BlL.r) (lenR BlL.r 6 _ fun _=>rfl) rfl
 obtain⟨s6,hv6,hk6⟩:=(kn 116 _ rfl rfl rfl).vslx (sz:=1) (rows:=strsR (d.ous.map (rnS f t))) (lenR (fun s:Str=>[sv s]) 1 _ fun _=>rfl) (strsC _).symm
 have hll6:(strsR (d.ous.map (rnS f t))).length=d.ous.length:=by simp[strsR]
 rw[List.length_map,List.length_map]at hv4 hk4
 rw[List.length_map,hc]at hv5 hk5
 rw[hll6]at hv6 hk6
 simp only[Mem.conc,Env.conc,Bk.conc,Cv.conc,V.conc,List.map_cons,List.map_nil,List.contains_cons,List.contains_nil,Nat.reduceBEq,Bool.or_false,Bool.or_true,cond_true,cond_false,concV (rowsC_isV _),concV (v_sC _),hv4,hv5,hv6]
 have HH:=iH.trans k7
 have hR':=hR (DgL.mk d.nm d.tys d.cus d.mas (d.ins.map (rnP f t)) q (d.ous.map (rnS f t)) d.ty d.cu d.ma s4 s5 s6) C7 l7 ⟨by unfold DgL.c renD;simp only[hqc,List.map_map];rfl,⟨o.ty.mono HH,o.cu.mono HH,o.ma.mono HH,by show SlH _ (vsl s4 (d.ins.map (rnP f t)).length) 4 _;rw[List.length_map];exact hk4,by show SlH _ (vsl s5 q.length) 6 _;rw[hc];exact hk5,by show SlH _ (vsl s6 (d.ous.map (rnS f t)).length) 1 _;rw[List.length_map];exact hk6,fun c hc=>(o.cus c hc).mono HH,fun c hc=>(o.mas c hc).mono HH,fun c hc=>(iB c hc).mono k7⟩⟩
 have hvr:(DgL.mk d.nm d.tys d.cus d.mas (d.ins.map (rnP f t)) q (d.ous.map (rnS f t)) d.ty d.cu d.ma s4 s5 s6).r=[sv d.nm,vsl d.ty d.tys.length,vsl d.cu d.cus.length,vsl d.ma d.mas.length,vsl s4 d.ins.length,vsl s5 d.bls.length,vsl s6 d.ous.length]:=by
  simp only[DgL.r,hc,List.length_map]
 rw[hvr]at hR'
 exact RetQ.of hR' rfl (vv trivial) rfl (Sub.nil _) ClM.nil (ClV.of rfl)
end Go.Proofs.YtlnpgbnhcondjaaGreatDoor.Fx
