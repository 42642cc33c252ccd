/-  -/
import Derived.Test.YtkciabfilokfiaaGreatPS
import Derived.Test.YtkciabfilokfiaaGreatQC
namespace Go.Proofs.YtkciabfilokfiaaGreat.Fx
open Vg Tf
set_option linter.unusedSimpArgs false
set_option linter.unusedVariables false
set_option maxRecDepth 100000
set_option maxHeartbeats 4000000
@[reducible] def ckC (d:DgL)(bT bC bM bS:Nat):List Cv:=[sC d.nm,.sl 2 0 d.tys.length 11,.sl 3 0 d.cus.length 3,.sl 4 0 d.mas.length 4,.sl 5 0 d.ins.length 4,.sl 6 0 d.bls.length 6,.sl 7 0 d.ous.length 1,.v (.map (some bT)),.v (.map (some bC)),.v (.map (some bM)),.v (.map (some bS))]
@[reducible] def ckM (d:DgL)(bT bC bM bS:Nat):Mem:=[(1,⟨true,ckC d bT bC bM bS,147⟩),(2,⟨true,rowsC (d.tys.map Td.r),78⟩),(3,⟨true,rowsC (d.cus.map CuL.r),84⟩),(4,⟨true,rowsC (d.mas.map MpL.r),91⟩),(5,⟨true,rowsC (d.ins.map Po.r),51⟩),(6,⟨true,rowsC (d.bls.map BlL.r),53⟩),(7,⟨true,d.ous.map sC,9⟩)]
theorem ckM_cl (d:DgL)(bT bC bM bS:Nat):ClM (ckM d bT bC bM bS):=ClM.of (by simp only[List.all_cons,inMV (rowsC_isV _),inMV (v_sC _)];rfl)
theorem rowsV_g (β:Vl)(l:List (List Value)):(rowsC l).map (Cv.g β)=l.flatten:=by unfold rowsC;rw[mapV_g]
theorem Sm.bringCk {P:Program}{nt:Nat}{C:Cx}{todo:List It}{e:Env}{H:Hp}{cp:Value}{d:DgL}{bT bC bM bS:Nat}(k:Ck H cp d bT bC bM bS)(hH:H.le C.hp)(t:Nat){g:Bool}(hx:e.get t=some (g,.c (.v cp)))
  (kk:Sm P nt C todo ((t,g,.c (.p 1 0))::e) (ckM d bT bC bM bS)):Sm P nt C todo e []:=by
 have o:=(k.mono hH).o
 obtain⟨l1,a1,b1⟩:=(k.mono hH).c.p.loc
 obtain⟨l2,a2,b2,_⟩:=o.ty.loc
 obtain⟨l3,a3,b3,_⟩:=o.cu.loc
 obtain⟨l4,a4,b4,_⟩:=o.ma.loc
 obtain⟨l5,a5,b5,_⟩:=o.i.loc
 obtain⟨l6,a6,b6,_⟩:=o.bl.loc
 obtain⟨l7,a7,b7,_⟩:=o.ou.loc
 rw[List.length_map]at a2 a3 a4 a5 a6
 have hl7:(strsR d.ous).length=d.ous.length:=by simp[strsR]
 rw[hl7]at a7
 refine Sm.brings (fun n=>[none,some l1,some l2,some l3,some l4,some l5,some l6,some l7].getD n none) (ckM d bT bC bM bS) ((t,g,.c (.p 1 0))::e) rfl (fun n l hl=>?_) (fun β hβ=>?_) (by rw[List.append_nil];exact kk)
 ·match n,hl with
  |0,hl=>cases hl
  |1,_=>rfl
  |2,_=>rfl
  |3,_=>rfl
  |4,_=>rfl
  |5,_=>rfl
  |6,_=>rfl
  |7,_=>rfl
  |n+8,hl=>simp at hl
 ·have e1:β 1=l1:=hβ 1 l1 rfl
  have e2:β 2=l2:=hβ 2 l2 rfl
  have e3:β 3=l3:=hβ 3 l3 rfl
  have e4:β 4=l4:=hβ 4 l4 rfl
  have e5:β 5=l5:=hβ 5 l5 rfl
  have e6:β 6=l6:=hβ 6 l6 rfl
  have e7:β 7=l7:=hβ 7 l7 rfl
  refine⟨fun n b hb=>?_,fun t' x hx'=>?_⟩
  ·simp only[ckM,Mem.get_cons]at hb
   split at hb
   ·rename_i h;cases hb;subst h
    rw[e1]
    have hc:(ckC d bT bC bM bS).map (Cv.g β)=d.r++[Value.map (some bT),Value.map (some bC),Value.map (some bM),Value.map (some bS)]:=by
     simp only[ckC,List.map_cons,List.map_nil,a2 β 2 e2,a3 β 3 e3,a4 β 4 e4,a5 β 5 e5,a6 β 6 e6,a7 β 7 e7]
     rfl
    rw[hc];exact b1
   ·split at hb
    ·rename_i h;cases hb;subst h;rw[e2];show LcH _ _ ((rowsC _).map _);rw[rowsV_g];exact b2
    ·split at hb
     ·rename_i h;cases hb;subst h;rw[e3];show LcH _ _ ((rowsC _).map _);rw[rowsV_g];exact b3
     ·split at hb
      ·rename_i h;cases hb;subst h;rw[e4];show LcH _ _ ((rowsC _).map _);rw[rowsV_g];exact b4
      ·split at hb
       ·rename_i h;cases hb;subst h;rw[e5];show LcH _ _ ((rowsC _).map _);rw[rowsV_g];exact b5
       ·split at hb
        ·rename_i h;cases hb;subst h;rw[e6];show LcH _ _ ((rowsC _).map _);rw[rowsV_g];exact b6
        ·split at hb
         ·rename_i h;cases hb;subst h;rw[e7];show LcH _ _ ((d.ous.map sC).map _);rw[←strsC,rowsV_g];exact b7
         ·cases hb
  ·simp only[Env.get]at hx'
   cases ht:(t==t')with
   |true=>
    rw[ht]at hx'
    have:t=t':=by simpa using ht
    subst this
    simp at hx'
    subst hx'
    refine⟨_,hx,?_⟩
    unfold gv
    simp only[V.g]
    rw[a1 β 1 e1]
    rfl
   |false=>
    rw[ht]at hx'
    exact⟨x,hx',rfl⟩
def tnAt (d:Dg)(i:Nat):Str:=if i<d.ins.length then(d.ins.map (·.ty)).getD i []else(d.bls.map (·.ty)).getD (i-d.ins.length) []
def tyAt (d:Dg)(i:Nat):Ft:=tyN d.tys (tnAt d i)
theorem typeOf_ {H:Hp}{cp:Value}{d:DgL}{bT bC bM bS:Nat}(k:Ck H cp d bT bC bM bS)(i:Nat)(hi:i<d.ins.length+d.bls.length):
  CallH H Tryz.prog 50 [.c (.v cp),I i] (.agg (ftC (tyAt d.c i))):=by
 have hn1:=k.n1
 have hn2:=k.n2
 have hs1:=rows_len (r:=Po.r) (k:=4) (fun _=>rfl) d.ins
 have hs2:=rows_len (r:=BlL.r) (k:=6) (fun _=>rfl) d.bls
 refine CallH.mkS Tryz.func50 rfl en50 (by simp[Tryz.ntmps50]) (ClA.of rfl) fun C hR hP hH hL=>?_
 refine Sm.bringCk k hH 0 rfl (Sm.go 100 ?_)
 refine vv ?_
 by_cases hlt:i<d.ins.length
 ·have e1:decide ((i:Int)<(d.ins.length:Int))=true:=tru_of (by omega)
  have htn:tyAt d.c i=tyN d.tys d.ins[i].ty:=by
   unfold tyAt tnAt
   have:i<d.c.ins.length:=hlt
   rw[if_pos this]
   have:(d.c.ins.map (·.ty)).getD i []=d.ins[i].ty:=by
    rw[List.getD_eq_getElem?_getD,List.getElem?_map]
    show(Option.map _ d.ins[i]?).getD []=_
    rw[List.getElem?_eq_getElem hlt];rfl
   rw[this];rfl
  rw[htn]at hR
  have hg:(rowsC (d.ins.map Po.r))[i*4+1]?=some (sC d.ins[i].ty):=by
   rw[rowsC_get (k:=4) (d.ins.map Po.r) (fun r hr=>by obtain⟨x,_,rfl⟩:=List.mem_map.1 hr;rfl) i 1 (by simpa using hlt) (by omega)]
   simp[Po.r]
  simp(maxSteps:=2000000) only[go_sem,e1]
  refine Sm.dg 110 13 mix ?_
  simp(maxSteps:=2000000) only[go_sem,hg]
  refine⟨⟨by omega,by omega⟩,?_⟩
  refine Sm.opC 120 rfl rfl (.inl rfl) (fun _=>lkT1 (k.c.t.mono hH) rfl rfl rfl) ?_
  refine vv ?_
  exact RetQ.of (hR C hL) rfl (vv trivial) rvv (Sub.nil _) ClM.nil (ClV.of rfl)
 ·have e1:decide ((i:Int)<(d.ins.length:Int))=false:=fal_of (by omega)
  have hj:i-d.ins.length<d.bls.length:=by omega
  have htn:tyAt d.c i=tyN d.tys d.bls[i-d.ins.length].c.ty:=by
   unfold tyAt tnAt
   have:¬i<d.c.ins.length:=hlt
   rw[if_neg this]
   have:(d.c.bls.map (·.ty)).getD (i-d.c.ins.length) []=d.bls[i-d.ins.length].c.ty:=by
    rw[List.getD_eq_getElem?_getD,List.getElem?_map]
    show(Option.map _ (d.bls.map BlL.c)[i-d.ins.length]?).getD []=_
    rw[List.getElem?_map,List.getElem?_eq_getElem hj];rfl
   rw[this];rfl
  rw[htn]at hR
  have hg:(rowsC (d.bls.map BlL.r))[(i-d.ins.length)*6+2]?=some (sC d.bls[i-d.ins.length].c.ty):=by
   rw[rowsC_get (k:=6) (d.bls.map BlL.r) (fun r hr=>by obtain⟨x,_,rfl⟩:=List.mem_map.1 hr;rfl) (i-d.ins.length) 2 (by simpa using hj) (by omega)]
   simp[BlL.r]
  have w1:IntKind.i64.wrap ((i:Int)-(d.ins.length:Int))=((i-d.ins.length:Nat):Int):=by rw[w64 (by omega) (by omega)];omega
  simp(maxSteps:=2000000) only[go_sem,e1]
  refine Sm.dg 110 20 mix ?_
  simp(maxSteps:=2000000) only[go_sem,w1,hg]
  refine⟨⟨by omega,by omega⟩,?_⟩
  refine Sm.opC 120 rfl rfl (.inl rfl) (fun _=>lkT1 (k.c.t.mono hH) rfl rfl rfl) ?_
  refine vv ?_
  exact RetQ.of (hR C hL) rfl (vv trivial) rvv (Sub.nil _) ClM.nil (ClV.of rfl)
def wiB (t:Ft)(x:Int):Bool:=decide ((bif fok t then flo t else 0)≤x)&&decide (x≤(bif fok t then fhi t else 0))
theorem cwithin (t:Ft)(x:Int):CallOk Tryz.prog 167 [.agg (ftC t),I x] [] (Bo (wiB t x)) []:=by
 refine CallOk.mkN 100 Tryz.func167 rfl en167 (by simp[Tryz.ntmps167]) (ClA.of rfl) rfl rfl fun C hR hP=>?_
 refine vv ?_
 refine CallQ.pure 110 (lims t) rfl ?_
 refine vv ?_
 refine RetQ.bool hR rfl scc ?_
 unfold wiB
 rw[band_]
@[reducible] def flT (r:Option (Str×Int)):V:= .tup [Ws ((r.map (·.1)).getD []),Wi ((r.map (·.2)).getD 0)]
def inpE (l:List Td)(p:Po):Option (Str×Int):=if tyQ l p.ty=none then some (p.ty,7)else if (decide (p.hi<p.lo)||(!wiB (tyN l p.ty) p.lo|| !wiB (tyN l p.ty) p.hi))=true then some (p.nm,2)else none
def firstF {α:Type}(f:α→Option (Str×Int)):List α→Option (Str×Int)
 |[]=>none
 |x::r=>match f x with
  |some y=>some y
  |none=>firstF f r
theorem firstF_cons {α:Type}(f:α→Option (Str×Int))(x:α)(r:List α):firstF f (x::r)=(f x).or (firstF f r):=by
 rw[firstF];cases f x<;>rfl
theorem inputs_ {H:Hp}{cp:Value}{d:DgL}{bT bC bM bS:Nat}(k:Ck H cp d bT bC bM bS):
  CallH H Tryz.prog 100 [.c (.v cp)] (flT (firstF (inpE d.tys) d.ins)):=by
 have hn1:=k.n1
 have hsz:=rows_len (r:=Po.r) (k:=4) (fun _=>rfl) d.ins
 refine CallH.mkS Tryz.func100 rfl en100 (by simp[Tryz.ntmps100]) (ClA.of rfl) fun C hR hP hH hL=>?_
 refine Sm.bringP 1 147 0 (k.c.p.mono hH) rfl rfl (Sm.go 100 ?_)
 refine vv ?_
 refine Sm.bringR 5 51 12 (k.o.i.mono hH) rfl rfl ?_
 have hl2:(d.ins.map Po.r).length=d.ins.length:=List.length_map _
 rw[hl2]
 refine Sm.loopM (M0:=[]) (α:={i:Nat//i≤d.ins.length∧firstF (inpE d.tys) d.ins=firstF (inpE d.tys) (d.ins.drop i)}) hP (fun i=>[(0,true,.c (.p 1 0)),(12,true,.c (.sl 5 0 d.ins.length 4)),(13,true,I d.ins.length),(14,true,I i.val)])
  (fun _=>[(1,⟨true,(d.r++ckMs bT bC bM bS).map .v,147⟩),(5,⟨true,rowsC (d.ins.map Po.r),51⟩)]) (fun i=>d.ins.length-i.val) ⟨0,by omega,rfl⟩ (fun _=>ClM.of (by simp only[List.all_cons,inMV (v_v _),inMV (rowsC_isV _)];rfl)) (fun _=>ClE.of rfl) [(1,1),(5,5)] ?_ ?_
 ·exact⟨rfl,trivial,⟨rfl,rfl,rfl,rfl,trivial⟩,⟨.inr ⟨_,rfl,.inl (renV (v_v _))⟩,.inr ⟨_,rfl,.inl (renV (rowsC_isV _))⟩,trivial⟩⟩
 ·rintro⟨i,hi,hx⟩ J hj
  simp only at hj hi hx⊢
  refine Sm.go 120 ?_
  refine vv ?_
  refine mtch (fun hc=>?_) (fun hc=>?_)
  ·have hc:=lt_of_dec hc
   have htk:=rows_take (r:=Po.r) (k:=4) (fun _=>rfl) d.ins i hc
   rw[List.drop_eq_getElem_cons hc,firstF_cons]at hx
   simp only[htk,hsz]
   refine⟨⟨by omega,by omega⟩,by omega,?_⟩
   generalize d.ins[i]=p at*
   refine vv ?_
   refine Sm.dg 140 12 mix ?_
   refine vv ?_
   refine DOpQ.ownC 150 (fun _=>lkT (k.c.t.mono hH) rfl rfl rfl) ?_
   refine vv ?_
   cases hq:tyQ d.tys p.ty with
   |none=>
    have he:inpE d.tys p=some (p.ty,7):=by unfold inpE;rw[if_pos hq]
    rw[he]at hx
    rw[hx]at hR
    exact RetQ.of (hR C hL) rfl scc rvv (Sub.nil _) ClM.nil (ClV.of rfl)
   |some u=>
    have he:inpE d.tys p=if (decide (p.hi<p.lo)||(!wiB (tyN d.tys p.ty) p.lo|| !wiB (tyN d.tys p.ty) p.hi))=true then some (p.nm,2)else none:=by unfold inpE;rw[if_neg (by rw[hq];simp)]
    refine CallQ.guard 160 (fun _=>cwithin (tyN d.tys p.ty) p.lo) (fun h=>by rw[h];rfl) ?_
    refine vv ?_
    refine CallQ.guard 160 (fun _=>cwithin (tyN d.tys p.ty) p.hi) (fun h=>by rw[h];rfl) ?_
    refine vv ?_
    have eb:(bif bif decide (p.hi<p.lo)then true else !wiB (tyN d.tys p.ty) p.lo then true else !wiB (tyN d.tys p.ty) p.hi)=(decide (p.hi<p.lo)||(!wiB (tyN d.tys p.ty) p.lo|| !wiB (tyN d.tys p.ty) p.hi)):=by
     rw[bor_,bor_,Bool.or_assoc]
    rw[eb]
    refine mtch (fun hd=>?_) (fun hd=>?_)
    ·rw[he,if_pos hd]at hx
     rw[hx]at hR
     exact RetQ.of (hR C hL) rfl scc rvv (Sub.nil _) ClM.nil (ClV.of rfl)
    ·rw[he,if_neg (by rw[hd];simp)]at hx
     refine Sm.go 170 ?_
     simp(maxSteps:=2000000) only[go_sem,wS (show i≤1000000000000000000 by omega)]
     exact hj _ _ ⟨i+1,hc,hx⟩ [(1,1),(5,5)] (by simp only;omega) ⟨rfl,trivial,⟨rfl,rfl,rfl,rfl,trivial⟩,⟨.inr ⟨_,rfl,.inl (renV (v_v _))⟩,.inr ⟨_,rfl,.inl (renV (rowsC_isV _))⟩,trivial⟩⟩
  ·have hc:=eq_of_dec hi hc
   rw[hc,List.drop_length]at hx
   rw[hx]at hR
   exact RetQ.of (hR C hL) rfl scc rvv (Sub.nil _) ClM.nil (ClV.of rfl)
end Go.Proofs.YtkciabfilokfiaaGreat.Fx
