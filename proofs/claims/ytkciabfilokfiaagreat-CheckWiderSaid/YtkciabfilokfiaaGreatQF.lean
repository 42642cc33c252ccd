/-  -/
import Derived.Test.YtkciabfilokfiaaGreatPS
import Derived.Test.YtkciabfilokfiaaGreatQD
namespace Go.Proofs.YtkciabfilokfiaaGreat.Fx
open Vg Tf
set_option linter.unusedSimpArgs false
set_option linter.unusedVariables false
set_option maxRecDepth 100000
set_option maxHeartbeats 4000000
def curS:Str:=[99,117,114,118,101]
def mapS:Str:=[109,97,112]
def tabB (cu:Bool)(ma:Bool)(kd:Str):Bool:=(kd==curS&& !cu)||(kd==mapS&& !ma)
def blkE (tys:List Td)(cus:List Cu)(mas:List Mp)(sg:List Str)(b:Bl):Option (Str×Int):=
 if tyQ tys b.ty=none then some (b.ty,7)else match argQ sg b.ins with
 |some s=>some (s,7)
 |none=>if tabB (cus.any fun c=>c.nm==b.tb) (mas.any fun m=>m.nm==b.tb) b.kd=true then some (b.tb,7)else none
theorem cuQ_any (l:List CuL)(s:Str):(cuQ l s).isSome=(l.map CuL.c).any fun c=>c.nm==s:=by
 unfold cuQ
 rw[List.any_map]
 induction l with
 |nil=>rfl
 |cons c l ih=>
  rw[List.find?_cons,List.any_cons]
  show _=((c.c.nm==s)||_)
  cases c.c.nm==s
  ·simpa using ih
  ·rfl
theorem maQ_any (l:List MpL)(s:Str):(maQ l s).isSome=(l.map MpL.c).any fun c=>c.nm==s:=by
 unfold maQ
 rw[List.any_map]
 induction l with
 |nil=>rfl
 |cons c l ih=>
  rw[List.find?_cons,List.any_cons]
  show _=((c.nm==s)||_)
  cases c.nm==s
  ·simpa using ih
  ·rfl
theorem blocks_ {H:Hp}{cp:Value}{d:DgL}{bT bC bM bS:Nat}(k:Ck H cp d bT bC bM bS)(hl:∀b∈d.bls,b.c.ins.length≤1000000):
  CallH H Tryz.prog 101 [.c (.v cp)] (flT (firstF (fun b:BlL=>blkE d.tys d.c.cus d.c.mas (sigs d.c) b.c) d.bls)):=by
 have hn2:=k.n2
 have hsz:=rows_len (r:=BlL.r) (k:=6) (fun _=>rfl) d.bls
 generalize hF:(fun b:BlL=>blkE d.tys d.c.cus d.c.mas (sigs d.c) b.c)=F
 obtain⟨b0,o0,rfl,c0,el0,mk0,hc0,hcc⟩:=PtH.at k.c.p
 refine CallH.mkS Tryz.func101 rfl en101 (by simp[Tryz.ntmps101]) (ClA.of rfl) fun C hR hP hH hL=>?_
 have hpt:=k.c.p.mono hH
 refine Sm.go 100 ?_
 refine vv ?_
 refine Sm.bringP 1 147 14 hpt rfl rfl (Sm.go 100 ?_)
 refine vv ?_
 refine Sm.bringR 5 53 18 (k.o.bl.mono hH) rfl rfl ?_
 have hl2:(d.bls.map BlL.r).length=d.bls.length:=List.length_map _
 rw[hl2]
 refine Sm.loopM (M0:=[]) (α:={i:Nat//i≤d.bls.length∧firstF F d.bls=firstF F (d.bls.drop i)}) hP (fun i=>[(0,true,.c (.v (.pointer (some ⟨b0,o0,none⟩)))),(18,true,.c (.sl 5 0 d.bls.length 6)),(19,true,I d.bls.length),(20,true,I i.val)])
  (fun _=>[(5,⟨true,rowsC (d.bls.map BlL.r),53⟩)]) (fun i=>d.bls.length-i.val) ⟨0,by omega,rfl⟩ (fun _=>ClM.of (by simp only[List.all_cons,inMV (rowsC_isV _)];rfl)) (fun _=>ClE.of rfl) [(5,5)] ?_ ?_
 ·exact⟨rfl,trivial,⟨rfl,rfl,rfl,rfl,trivial⟩,⟨.inr ⟨_,rfl,.inl (renV (rowsC_isV _))⟩,trivial⟩⟩
 ·rintro⟨i,hi,hx⟩ J hj
  simp only at hj hi hx⊢
  refine Sm.go 120 ?_
  refine vv ?_
  refine mtch (fun hc=>?_) (fun hc=>?_)
  ·have hc:=lt_of_dec hc
   have htk:=rows_take (r:=BlL.r) (k:=6) (fun _=>rfl) d.bls i hc
   rw[List.drop_eq_getElem_cons hc,firstF_cons]at hx
   have hmem:d.bls[i]∈d.bls:=List.getElem_mem hc
   simp only[htk,hsz]
   refine⟨⟨by omega,by omega⟩,by omega,?_⟩
   have hbo:=k.o.bls _ hmem
   have hbl:=hl _ hmem
   generalize d.bls[i]=b at*
   refine vv ?_
   refine Sm.dg 140 12 mix ?_
   refine vv ?_
   refine DOpQ.own 140 (Stp.nilV rfl rfl) ?_
   refine vv ?_
   refine DOpQ.own 140 (Stp.fldV rfl rfl rfl) ?_
   refine vv ?_
   refine DOpQ.ownC 140 (fun _=>StpC.ldH (hH _ _ hc0) (hcc 7 _ rfl) rfl rfl rfl) ?_
   refine vv ?_
   refine DOpQ.ownC 150 (fun _=>lkT (k.c.t.mono hH) rfl rfl rfl) ?_
   refine vv ?_
   have hFb:F b=blkE d.tys d.c.cus d.c.mas (sigs d.c) b.c:=by rw[←hF]
   unfold blkE at hFb
   cases hq:tyQ d.tys b.c.ty with
   |none=>
    rw[if_pos hq]at hFb
    rw[hFb]at hx
    rw[hx]at hR
    exact RetQ.of (hR C hL) rfl scc rvv (Sub.nil _) ClM.nil (ClV.of rfl)
   |some u=>
    rw[if_neg (by rw[hq];simp)]at hFb
    refine CallQ.h 170 (argument_ k b hbo (by omega)) hH rfl ?_
    refine vv ?_
    cases ha:argQ (sigs d.c) b.c.ins with
    |some s=>
     rw[ha]at hFb
     simp only at hFb
     rw[hFb]at hx
     rw[hx]at hR
     exact RetQ.of (hR C hL) rfl scc rvv (Sub.nil _) ClM.nil (ClV.of rfl)
    |none=>
     rw[ha]at hFb
     simp only at hFb
     refine Sm.dg 180 12 mix ?_
     refine vv ?_
     refine DOpQ.own 190 (Stp.nilV rfl rfl) ?_
     refine vv ?_
     refine DOpQ.own 190 (Stp.fldV rfl rfl rfl) ?_
     refine vv ?_
     refine DOpQ.ownC 190 (fun _=>StpC.ldH (hH _ _ hc0) (hcc 8 _ rfl) rfl rfl rfl) ?_
     refine vv ?_
     refine DOpQ.ownC 190 (fun _=>lkC (k.c.c.mono hH) rfl rfl rfl) ?_
     refine vv ?_
     refine Sm.dg 200 12 mix ?_
     refine vv ?_
     refine DOpQ.own 210 (Stp.nilV rfl rfl) ?_
     refine vv ?_
     refine DOpQ.own 210 (Stp.fldV rfl rfl rfl) ?_
     refine vv ?_
     refine DOpQ.ownC 210 (fun _=>StpC.ldH (hH _ _ hc0) (hcc 9 _ rfl) rfl rfl rfl) ?_
     refine vv ?_
     refine DOpQ.ownC 210 (fun _=>lkM (k.c.m.mono hH) rfl rfl rfl) ?_
     simp(maxSteps:=2000000) only[go_sem,cuQ_any,maQ_any]
     have hcus:d.c.cus=d.cus.map CuL.c:=rfl
     have hmas:d.c.mas=d.mas.map MpL.c:=rfl
     rw[hcus,hmas]at hFb
     generalize ((d.cus.map CuL.c).any fun c=>c.nm==b.c.tb)=cu at*
     generalize ((d.mas.map MpL.c).any fun c=>c.nm==b.c.tb)=ma at*
     have eb:(bif bif b.c.kd==[99,117,114,118,101]then !cu else false then true else bif b.c.kd==[109,97,112]then !ma else false)=tabB cu ma b.c.kd:=by
      rw[bor_,band_,band_];rfl
     refine⟨fun h=>⟨h,fun h2=>by rw[h,h2];rfl⟩,?_⟩
     rw[eb]
     refine mtch (fun hd=>?_) (fun hd=>?_)
     ·rw[if_pos hd]at hFb
      rw[hFb]at hx
      rw[hx]at hR
      exact RetQ.of (hR C hL) rfl scc rvv (Sub.nil _) ClM.nil (ClV.of rfl)
     ·rw[if_neg (by rw[hd];simp)]at hFb
      rw[hFb]at hx
      refine Sm.go 220 ?_
      simp(maxSteps:=2000000) only[go_sem,wS (show i≤1000000000000000000 by omega)]
      exact hj _ _ ⟨i+1,hc,hx⟩ [(5,5)] (by simp only;omega) ⟨rfl,trivial,⟨rfl,rfl,rfl,rfl,trivial⟩,⟨.inr ⟨_,rfl,.inl (renV (rowsC_isV _))⟩,trivial⟩⟩
  ·have hc:=eq_of_dec hi hc
   rw[hc,List.drop_length]at hx
   rw[hx]at hR
   exact RetQ.of (hR C hL) rfl scc rvv (Sub.nil _) ClM.nil (ClV.of rfl)
def outE (sg:List Str):List Str→List Str→Option (Str×Int)
 |_,[]=>none
 |seen,s::r=>if sgB sg s=false then some (s,7)else if seen.contains s=true then some (s,8)else outE sg (seen++[s]) r
theorem outputs_ {H:Hp}{cp:Value}{d:DgL}{bT bC bM bS:Nat}(k:Ck H cp d bT bC bM bS)(ho:d.ous.length≤1000000):
  CallH H Tryz.prog 102 [.c (.v cp)] (flT (outE (sigs d.c) [] d.ous)):=by
 obtain⟨b0,o0,rfl,c0,el0,mk0,hc0,hcc⟩:=PtH.at k.c.p
 refine CallH.mkS Tryz.func102 rfl en102 (by simp[Tryz.ntmps102]) (ClA.of rfl) fun C hR hP hH hL=>?_
 have hpt:=k.c.p.mono hH
 refine Sm.bringCk k hH 0 rfl (Sm.go 100 ?_)
 refine vv ?_
 refine Sm.loopM (M0:=[]) (α:={i:Nat//i≤d.ous.length∧outE (sigs d.c) [] d.ous=outE (sigs d.c) (d.ous.take i) (d.ous.drop i)}) hP (fun i=>[(0,true,.c (.p 1 0)),(12,true,.c (.sl 7 0 d.ous.length 1)),(13,true,I d.ous.length),(14,true,I i.val)])
  (fun _=>ckM d bT bC bM bS) (fun i=>d.ous.length-i.val) ⟨0,by omega,rfl⟩ (fun _=>ckM_cl d bT bC bM bS) (fun _=>ClE.of rfl) [(1,1),(2,2),(3,3),(4,4),(5,5),(6,6),(7,7)] ?_ ?_
 ·exact⟨rfl,trivial,⟨rfl,rfl,rfl,rfl,trivial⟩,⟨.inr ⟨_,rfl,.inl rfl⟩,.inr ⟨_,rfl,.inl (renV (rowsC_isV _))⟩,.inr ⟨_,rfl,.inl (renV (rowsC_isV _))⟩,.inr ⟨_,rfl,.inl (renV (rowsC_isV _))⟩,.inr ⟨_,rfl,.inl (renV (rowsC_isV _))⟩,.inr ⟨_,rfl,.inl (renV (rowsC_isV _))⟩,.inr ⟨_,rfl,.inl (renV (v_sC _))⟩,trivial⟩⟩
 ·rintro⟨i,hi,hx⟩ J hj
  simp only at hj hi hx⊢
  refine Sm.go 120 ?_
  refine vv ?_
  refine mtch (fun hc=>?_) (fun hc=>?_)
  ·have hc:=lt_of_dec hc
   have htk:d.ous.take (i+1)=d.ous.take i++[d.ous[i]]:=List.take_succ_eq_append_getElem hc
   rw[List.drop_eq_getElem_cons hc,outE]at hx
   simp(maxSteps:=2000000) only[go_sem,get_sC hc]
   refine⟨⟨by omega,by omega⟩,?_⟩
   generalize d.ous[i]=s at*
   refine Sm.opC 130 rfl rfl (.inl rfl) (fun _=>lkS (k.c.s.mono hH) rfl rfl rfl) ?_
   refine vv ?_
   cases hs:sgB (sigs d.c) s with
   |false=>
    rw[if_pos hs]at hx
    rw[hx]at hR
    refine vv ?_
    exact RetQ.of (hR C hL) rfl scc rvv (Sub.nil _) ClM.nil (ClV.of rfl)
   |true=>
    rw[if_neg (by rw[hs];simp)]at hx
    simp(maxSteps:=2000000) only[go_sem,Int.sub_zero]
    refine⟨⟨by omega,by omega,by simp⟩,?_⟩
    refine CallQ.ren [(1,7)] 140 (containsS d.ous i (by omega) (by omega) s) (ClM.v (by simp only[List.all_cons,v_sC];rfl)) rfl rfl ⟨⟨_,rfl,.inl (renV (v_sC _))⟩,trivial⟩ rfl (.inr rfl) ?_
    refine vv ?_
    cases hc2:(d.ous.take i).contains s with
    |true=>
     rw[if_pos hc2]at hx
     rw[hx]at hR
     exact RetQ.of (hR C hL) rfl scc rvv (Sub.nil _) ClM.nil (ClV.of rfl)
    |false=>
     rw[if_neg (by rw[hc2];simp),←htk]at hx
     refine Sm.go 150 ?_
     simp(maxSteps:=2000000) only[go_sem,wS (show i≤1000000000000000000 by omega)]
     exact hj _ _ ⟨i+1,hc,hx⟩ [(1,1),(2,2),(3,3),(4,4),(5,5),(6,6),(7,7)] (by simp only;omega) ⟨rfl,trivial,⟨rfl,rfl,rfl,rfl,trivial⟩,⟨.inr ⟨_,rfl,.inl rfl⟩,.inr ⟨_,rfl,.inl (renV (rowsC_isV _))⟩,.inr ⟨_,rfl,.inl (renV (rowsC_isV _))⟩,.inr ⟨_,rfl,.inl (renV (rowsC_isV _))⟩,.inr ⟨_,rfl,.inl (renV (rowsC_isV _))⟩,.inr ⟨_,rfl,.inl (renV (rowsC_isV _))⟩,.inr ⟨_,rfl,.inl (renV (v_sC _))⟩,trivial⟩⟩
  ·have hc:=eq_of_dec hi hc
   rw[hc,List.drop_length]at hx
   have hx:outE (sigs d.c) [] d.ous=none:=hx
   rw[hx]at hR
   exact RetQ.of (hR C hL) rfl scc rvv (Sub.nil _) ClM.nil (ClV.of rfl)
end Go.Proofs.YtkciabfilokfiaaGreat.Fx
namespace Go.Proofs.YtkciabfilokfiaaGreat.Fx
open Vg Tf
set_option linter.unusedSimpArgs false
set_option linter.unusedVariables false
set_option maxRecDepth 100000
set_option maxHeartbeats 4000000
def conS:Str:=[99,111,110,115,116]
def limS:Str:=[108,105,109,105,116]
def lagS:Str:=[108,97,103]
def hysS:Str:=[104,121,115,116,101,114,101,115,105,115]
@[reducible] def blC (b:BlL):List Cv:=[sC b.c.nm,sC b.c.kd,sC b.c.ty,.sl 11 0 b.c.ins.length 1,sC b.c.tb,.sl 12 0 b.c.ks.length 1]
@[reducible] def blM (b:BlL):Mem:=[(11,⟨true,b.c.ins.map sC,9⟩),(12,⟨true,b.c.ks.map iC,3⟩)]
theorem Sm.bringB {P:Program}{nt:Nat}{C:Cx}{todo:List It}{e:Env}{M:Mem}{b:BlL}(hb:b.ok C.hp)(t:Nat){g:Bool}(hn:(M.get 11).isNone=true∧(M.get 12).isNone=true)(hx:e.get t=some (g,rowV b.r))
  (kk:Sm P nt C todo ((t,g,.agg (blC b))::e) (blM b++M)):Sm P nt C todo e M:=by
 obtain⟨l1,a1,b1,_⟩:=hb.i.loc
 obtain⟨l2,a2,b2,_⟩:=hb.k.loc
 have h1:(strsR b.c.ins).length=b.c.ins.length:=by simp[strsR]
 have h2:(intsR b.c.ks).length=b.c.ks.length:=by simp[intsR]
 rw[h1]at a1
 rw[h2]at a2
 refine Sm.brings (fun n=>if n=11 then some l1 else if n=12 then some l2 else none) (blM b) ((t,g,.agg (blC b))::e) (by simp[hn.1,hn.2]) (fun n l hl=>?_) (fun β hβ=>?_) kk
 ·simp only[blM,Mem.get_cons]
  by_cases hh:n=11
  ·simp[hh]
  ·rw[if_neg hh]at hl⊢
   by_cases hh2:n=12
   ·simp[hh2]
   ·rw[if_neg hh2]at hl;cases hl
 ·have e1:β 11=l1:=hβ 11 l1 rfl
  have e2:β 12=l2:=hβ 12 l2 rfl
  refine⟨fun n c hc=>?_,fun t' x hx'=>?_⟩
  ·simp only[blM,Mem.get_cons]at hc
   split at hc
   ·rename_i h;cases hc;subst h;rw[e1];show LcH _ _ ((b.c.ins.map sC).map _);rw[←strsC,rowsV_g];exact b1
   ·split at hc
    ·rename_i h;cases hc;subst h;rw[e2];show LcH _ _ ((b.c.ks.map iC).map _);rw[←intsC,rowsV_g];exact b2
    ·cases hc
  ·simp only[Env.get]at hx'
   cases ht:(t==t')with
   |true=>
    rw[ht]at hx'
    have:t=t':=by simpa using ht
    subst this
    simp at hx'
    subst hx'
    refine⟨_,hx,?_⟩
    unfold gv
    congr 1
    simp only[V.g,rowV,blC,List.map_cons,List.map_nil,a1 β 11 e1,a2 β 12 e2]
    rfl
   |false=>
    rw[ht]at hx'
    exact⟨x,hx',rfl⟩
def numB (t:Ft)(b:Bl):Bool:=
 if (b.kd==conS||b.kd==delS)=true then wiB t (b.ks.getD 0 0)else if (b.kd==limS)=true then wiB t (b.ks.getD 0 0)&&(wiB t (b.ks.getD 1 0)&&decide (b.ks.getD 0 0≤b.ks.getD 1 0))
 else if (b.kd==lagS)=true then decide (0≤b.ks.getD 0 0)&&decide (b.ks.getD 0 0≤20)else if (b.kd==hysS)=true then decide (b.ks.getD 0 0≤b.ks.getD 1 0)else true
theorem blOk_ks {b:Bl}(h:blOk b=true){kd:Str}(hk:(b.kd==kd)=true){a n t:Nat}(hq:kindQ kd=some (a,n,t)):b.ins.length=a∧b.ks.length=n:=by
 have:b.kd=kd:=by simpa using hk
 unfold blOk at h
 rw[this,hq]at h
 simp only[Bool.and_eq_true,decide_eq_true_eq]at h
 exact⟨h.1,h.2.1⟩
theorem get_iD {l:List Int}{i:Nat}(h:i<l.length):(l.map iC)[i]?=some (iC (l.getD i 0)):=by
 rw[get_iC h,List.getD_eq_getElem?_getD,List.getElem?_eq_getElem h];rfl
theorem numbers_ {H:Hp}{cp:Value}{d:DgL}{bT bC' bM bS:Nat}(k:Ck H cp d bT bC' bM bS)(b:BlL)(hb:b.ok H)(hok:blOk b.c=true):
  CallH H Tryz.prog 169 [.c (.v cp),rowV b.r] (Bo (numB (tyN d.tys b.c.ty) b.c)):=by
 refine CallH.mkS Tryz.func169 rfl en169 (by simp[Tryz.ntmps169]) (ClA.of rfl) fun C hR hP hH hL=>?_
 refine Sm.bringB (hb.mono hH) 1 ⟨rfl,rfl⟩ rfl ?_
 refine Sm.bringP 1 147 0 (k.c.p.mono hH) rfl rfl (Sm.go 100 ?_)
 refine vv ?_
 refine Sm.dg 110 8 mix ?_
 refine vv ?_
 refine DOpQ.ownC 120 (fun _=>lkT1 (k.c.t.mono hH) rfl rfl rfl) ?_
 refine vv ?_
 have hw:=fun x=>cwithin (tyN d.tys b.c.ty) x
 unfold numB at hR
 generalize tyN d.tys b.c.ty=t at*
 refine mtch (fun h1=>?_) (fun h1=>?_)
 ·rw[h1]
  have h1:(b.c.kd==conS)=true:=h1
  rw[h1,Bool.true_or,if_pos rfl]at hR
  have hl:=(blOk_ks hok h1 (by rfl)).2
  have g0:=get_iD (l:=b.c.ks) (i:=0) (by omega)
  refine Sm.dg 140 5 mix ?_
  simp(maxSteps:=2000000) only[go_sem,g0]
  refine⟨by omega,?_⟩
  refine CallQ.pure 150 (hw (b.c.ks.getD 0 0)) rfl ?_
  refine vv ?_
  exact RetQ.bool (hR C hL) rfl scc rfl
 refine mtch (fun h2=>?_) (fun h2=>?_)
 ·have h1:(b.c.kd==conS)=false:=h1
  have h2:(b.c.kd==delS)=true:=h2
  rw[h1,h2,Bool.false_or,if_pos rfl]at hR
  have hl:=(blOk_ks hok h2 (by rfl)).2
  have g0:=get_iD (l:=b.c.ks) (i:=0) (by omega)
  refine Sm.dg 140 5 mix ?_
  simp(maxSteps:=2000000) only[go_sem,g0]
  refine⟨by omega,?_⟩
  refine CallQ.pure 150 (hw (b.c.ks.getD 0 0)) rfl ?_
  refine vv ?_
  exact RetQ.bool (hR C hL) rfl scc rfl
 have h1:(b.c.kd==conS)=false:=h1
 have h2:(b.c.kd==delS)=false:=h2
 rw[h1,h2,Bool.false_or,if_neg (by decide)]at hR
 refine mtch (fun h3=>?_) (fun h3=>?_)
 ·have h3:(b.c.kd==limS)=true:=h3
  rw[if_pos h3]at hR
  have hl:=(blOk_ks hok h3 (by rfl)).2
  have g0:=get_iD (l:=b.c.ks) (i:=0) (by omega)
  have g1:=get_iD (l:=b.c.ks) (i:=1) (by omega)
  refine Sm.dg 140 23 mix ?_
  simp(maxSteps:=2000000) only[go_sem,g0,g1]
  refine⟨by omega,?_⟩
  refine DCallQ.guard 150 (fun _=>hw (b.c.ks.getD 0 0)) (fun h=>rfl) ?_
  simp(maxSteps:=2000000) only[go_sem,g0,g1]
  refine⟨fun h=>⟨h,by omega⟩,?_⟩
  refine DCallQ.guard 150 (fun _=>hw (b.c.ks.getD 1 0)) (fun h=>by rw[h];rfl) ?_
  simp(maxSteps:=2000000) only[go_sem,g0,g1]
  refine⟨fun h=>⟨h,by omega⟩,fun h=>⟨h,by omega⟩,?_⟩
  refine RetQ.bool (hR C hL) rfl scc ?_
  cases wiB t (b.c.ks.getD 0 0)<;>cases wiB t (b.c.ks.getD 1 0)<;>rfl
 have h3:(b.c.kd==limS)=false:=h3
 rw[if_neg (by rw[h3];simp)]at hR
 refine mtch (fun h4=>?_) (fun h4=>?_)
 ·have h4:(b.c.kd==lagS)=true:=h4
  rw[if_pos h4]at hR
  have hl:=(blOk_ks hok h4 (by rfl)).2
  have g0:=get_iD (l:=b.c.ks) (i:=0) (by omega)
  simp(maxSteps:=2000000) only[go_sem,g0]
  refine⟨by omega,fun h=>⟨h,by omega⟩,?_⟩
  exact RetQ.bool (hR C hL) rfl scc (band_ _ _)
 have h4:(b.c.kd==lagS)=false:=h4
 rw[if_neg (by rw[h4];simp)]at hR
 refine mtch (fun h5=>?_) (fun h5=>?_)
 ·have h5:(b.c.kd==hysS)=true:=h5
  rw[if_pos h5]at hR
  have hl:=(blOk_ks hok h5 (by rfl)).2
  have g0:=get_iD (l:=b.c.ks) (i:=0) (by omega)
  have g1:=get_iD (l:=b.c.ks) (i:=1) (by omega)
  refine Sm.dg 140 8 mix ?_
  simp(maxSteps:=2000000) only[go_sem,g0,g1]
  refine⟨by omega,by omega,?_⟩
  exact RetQ.bool (hR C hL) rfl scc rfl
 have h5:(b.c.kd==hysS)=false:=h5
 rw[if_neg (by rw[h5];simp)]at hR
 exact RetQ.bool (hR C hL) rfl scc rfl
end Go.Proofs.YtkciabfilokfiaaGreat.Fx
