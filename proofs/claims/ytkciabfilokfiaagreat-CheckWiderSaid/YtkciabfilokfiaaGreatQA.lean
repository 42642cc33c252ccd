/-  -/
import Derived.Test.YtkciabfilokfiaaGreatPS
import Derived.Test.YtkciabfilokfiaaGreatQ8
import Derived.Test.YtkciabfilokfiaaGreatQG
namespace Go.Proofs.YtkciabfilokfiaaGreat.Fx
open Vg Tf
set_option linter.unusedSimpArgs false
set_option linter.unusedVariables false
set_option maxRecDepth 100000
set_option maxHeartbeats 4000000
def ft0:Ft:=⟨0,false,0,0,0,0,0,0,0,0⟩
def cu0:CuL:=⟨⟨[],[],[]⟩,⟨none,0⟩,⟨none,0⟩⟩
def ma0:MpL:=⟨[],[],[],[],⟨none,0⟩,⟨none,0⟩,⟨none,0⟩⟩
def tyQ (l:List Td)(s:Str):Option Ft:=(l.find? (fun t=>t.nm==s)).map (·.ty)
def tyN (l:List Td)(s:Str):Ft:=(tyQ l s).getD ft0
def cuQ (l:List CuL)(s:Str):Option CuL:=l.find? (fun c=>c.c.nm==s)
def maQ (l:List MpL)(s:Str):Option MpL:=l.find? (fun c=>c.nm==s)
def sgN (l:List Str)(s:Str):Nat:=(idxS s l 0).getD 0
def sgB (l:List Str)(s:Str):Bool:=(idxS s l 0).isSome
@[reducible] def cuV (c:CuL):List Cv:=[.v (.slice c.x.o c.c.xs.length c.x.c),.v (.slice c.y.o c.c.ys.length c.y.c)]
@[reducible] def maV (m:MpL):List Cv:=[.v (.slice m.x.o m.xs.length m.x.c),.v (.slice m.y.o m.ys.length m.y.c),.v (.slice m.z.o m.zs.length m.z.c)]
@[reducible] def ftC (t:Ft):List Cv:=[.v (.int .i64 t.bits),.v (.bool t.signed),.v (.int .i64 t.num),.v (.int .i64 t.off),.v (.int .i64 t.den),.v (.int .i64 t.m),.v (.int .i64 t.kg),.v (.int .i64 t.s),.v (.int .i64 t.a),.v (.int .i64 t.k)]
section
variable {C:Cx} {o:Oper} {e:Env} {M:Mem} {m x:Operand} {b:Nat} {s:Str}
theorem lkS {l:List Str}(hb:MpB C.hp b (fillS l 0))(ho:o.op= .lookup 145 m x true)(hm:rd e m=some (true,.c (.v (.map (some b)))))(hx:rd e x=some (true,S s)):StpC Tryz.prog C.S C.w0 o e M (.tup [Wi (sgN l s),Wb1 (sgB l s)]) []:=
 StpC.lookup ho rfl rfl hm hx hb (fun β=>by
  rw[fillS_get];unfold sgN sgB
  cases idxS s l 0<;>rfl)
theorem lkS1 {l:List Str}(hb:MpB C.hp b (fillS l 0))(ho:o.op= .lookup 145 m x false)(hm:rd e m=some (true,.c (.v (.map (some b)))))(hx:rd e x=some (true,S s)):StpC Tryz.prog C.S C.w0 o e M (I (sgN l s)) []:=
 StpC.lookup ho rfl rfl hm hx hb (fun β=>by
  rw[fillS_get];unfold sgN
  cases idxS s l 0<;>rfl)
theorem lkT {l:List Td}(hb:MpB C.hp b (fillM tdF l))(ho:o.op= .lookup 142 m x true)(hm:rd e m=some (true,.c (.v (.map (some b)))))(hx:rd e x=some (true,S s)):StpC Tryz.prog C.S C.w0 o e M (.tup [.agg (ftC (tyN l s)),Wb1 (tyQ l s).isSome]) []:=
 StpC.lookup ho rfl rfl hm hx hb (fun β=>by
  rw[fillM_get];unfold tyN tyQ
  show _=(if true=true then _ else _)
  have:(fun x:Td=>(tdF x).1==s)=fun t=>t.nm==s:=rfl
  rw[this]
  cases l.find? (fun t=>t.nm==s)<;>rfl)
theorem lkT1 {l:List Td}(hb:MpB C.hp b (fillM tdF l))(ho:o.op= .lookup 142 m x false)(hm:rd e m=some (true,.c (.v (.map (some b)))))(hx:rd e x=some (true,S s)):StpC Tryz.prog C.S C.w0 o e M (.agg (ftC (tyN l s))) []:=
 StpC.lookup ho rfl rfl hm hx hb (fun β=>by
  rw[fillM_get];unfold tyN tyQ
  have:(fun x:Td=>(tdF x).1==s)=fun t=>t.nm==s:=rfl
  rw[this]
  cases l.find? (fun t=>t.nm==s)<;>rfl)
theorem lkC {l:List CuL}(hb:MpB C.hp b (fillM cuF l))(ho:o.op= .lookup 143 m x true)(hm:rd e m=some (true,.c (.v (.map (some b)))))(hx:rd e x=some (true,S s)):StpC Tryz.prog C.S C.w0 o e M (.tup [.agg (cuV ((cuQ l s).getD cu0)),Wb1 (cuQ l s).isSome]) []:=
 StpC.lookup ho rfl rfl hm hx hb (fun β=>by
  rw[fillM_get];unfold cuQ
  have:(fun x:CuL=>(cuF x).1==s)=fun t=>t.c.nm==s:=rfl
  rw[this]
  cases l.find? (fun t=>t.c.nm==s)<;>rfl)
theorem lkC1 {l:List CuL}(hb:MpB C.hp b (fillM cuF l))(ho:o.op= .lookup 143 m x false)(hm:rd e m=some (true,.c (.v (.map (some b)))))(hx:rd e x=some (true,S s)):StpC Tryz.prog C.S C.w0 o e M (.agg (cuV ((cuQ l s).getD cu0))) []:=
 StpC.lookup ho rfl rfl hm hx hb (fun β=>by
  rw[fillM_get];unfold cuQ
  have:(fun x:CuL=>(cuF x).1==s)=fun t=>t.c.nm==s:=rfl
  rw[this]
  cases l.find? (fun t=>t.c.nm==s)<;>rfl)
theorem lkM {l:List MpL}(hb:MpB C.hp b (fillM maF l))(ho:o.op= .lookup 144 m x true)(hm:rd e m=some (true,.c (.v (.map (some b)))))(hx:rd e x=some (true,S s)):StpC Tryz.prog C.S C.w0 o e M (.tup [.agg (maV ((maQ l s).getD ma0)),Wb1 (maQ l s).isSome]) []:=
 StpC.lookup ho rfl rfl hm hx hb (fun β=>by
  rw[fillM_get];unfold maQ
  have:(fun x:MpL=>(maF x).1==s)=fun t=>t.nm==s:=rfl
  rw[this]
  cases l.find? (fun t=>t.nm==s)<;>rfl)
theorem lkM1 {l:List MpL}(hb:MpB C.hp b (fillM maF l))(ho:o.op= .lookup 144 m x false)(hm:rd e m=some (true,.c (.v (.map (some b)))))(hx:rd e x=some (true,S s)):StpC Tryz.prog C.S C.w0 o e M (.agg (maV ((maQ l s).getD ma0))) []:=
 StpC.lookup ho rfl rfl hm hx hb (fun β=>by
  rw[fillM_get];unfold maQ
  have:(fun x:MpL=>(maF x).1==s)=fun t=>t.nm==s:=rfl
  rw[this]
  cases l.find? (fun t=>t.nm==s)<;>rfl)
end
structure Ck (H:Hp) (cp:Value) (d:DgL) (bT bC bM bS:Nat):Prop where
 o:d.ok H
 s:d.sm
 n1:d.ins.length≤1000000
 n2:d.bls.length≤1000000
 c:ChkOk H cp d bT bC bM bS
theorem ChkOk.mono {H H':Hp}(h:H.le H'){cp:Value}{d:DgL}{bT bC bM bS:Nat}(k:ChkOk H cp d bT bC bM bS):ChkOk H' cp d bT bC bM bS:=⟨k.p.mono h,k.t.mono h,k.c.mono h,k.m.mono h,k.s.mono h⟩
theorem Ck.mono {H H':Hp}(h:H.le H'){cp:Value}{d:DgL}{bT bC bM bS:Nat}(k:Ck H cp d bT bC bM bS):Ck H' cp d bT bC bM bS:=⟨k.o.mono h,k.s,k.n1,k.n2,k.c.mono h⟩
@[reducible] def ckMs (bT bC bM bS:Nat):List Value:=[Value.map (some bT),Value.map (some bC),Value.map (some bM),Value.map (some bS)]
def argQ (l:List Str)(ins:List Str):Option Str:=ins.find? (fun s=> !sgB l s)
theorem argQ_cons (l:List Str)(s:Str)(r:List Str):argQ l (s::r)=bif sgB l s then argQ l r else some s:=by
 rw[argQ,List.find?_cons]
 cases sgB l s<;>rfl
@[reducible] def osT (r:Option Str):V:= .tup [Ws (r.getD []),Wb1 r.isSome]
theorem argument_ {H:Hp}{cp:Value}{d:DgL}{bT bC bM bS:Nat}(k:Ck H cp d bT bC bM bS)(b:BlL)(hb:b.ok H)(hl:b.c.ins.length≤1000000000000000):
  CallH H Tryz.prog 71 [.c (.v cp),rowV b.r] (osT (argQ (sigs d.c) b.c.ins)):=by
 refine CallH.mkS Tryz.func71 rfl en71 (by simp[Tryz.ntmps71]) (ClA.of rfl) fun C hR hP hH hL=>?_
 refine Sm.bringP 1 147 0 (k.c.p.mono hH) rfl rfl (Sm.go 100 ?_)
 refine vv ?_
 refine Sm.bringS 2 9 11 (hb.i.mono hH) rfl rfl ?_
 refine Sm.loopM (M0:=[]) (α:={i:Nat//i≤b.c.ins.length∧argQ (sigs d.c) b.c.ins=argQ (sigs d.c) (b.c.ins.drop i)}) hP (fun i=>[(0,true,.c (.p 1 0)),(11,true,.c (.sl 2 0 b.c.ins.length 1)),(12,true,I b.c.ins.length),(13,true,I i.val)])
  (fun _=>[(1,⟨true,(d.r++ckMs bT bC bM bS).map .v,147⟩),(2,⟨true,b.c.ins.map sC,9⟩)]) (fun i=>b.c.ins.length-i.val) ⟨0,by omega,rfl⟩ (fun _=>ClM.of (by simp only[List.all_cons,inMV (v_v _),inMV (v_sC _)];rfl)) (fun _=>ClE.of rfl) [(1,1),(2,2)] ?_ ?_
 ·exact⟨rfl,trivial,⟨rfl,rfl,rfl,rfl,trivial⟩,⟨.inr ⟨_,rfl,.inl (renV (v_v _))⟩,.inr ⟨_,rfl,.inl (renV (v_sC _))⟩,trivial⟩⟩
 ·rintro⟨i,hi,hx⟩ J hj
  simp only at hj hi hx⊢
  refine Sm.go 120 ?_
  refine vv ?_
  refine mtch (fun hc=>?_) (fun hc=>?_)
  ·have hc:=lt_of_dec hc
   rw[List.drop_eq_getElem_cons hc,argQ_cons]at hx
   simp(maxSteps:=2000000) only[go_sem,get_sC hc]
   refine⟨⟨by omega,by omega⟩,?_⟩
   generalize b.c.ins[i]=s at*
   refine Sm.opC 130 rfl rfl (.inl rfl) (fun _=>lkS (k.c.s.mono hH) rfl rfl rfl) ?_
   refine vv ?_
   cases hs:sgB (sigs d.c) s with
   |false=>
    rw[hs,cond_false]at hx
    refine vv ?_
    rw[hx]at hR
    exact RetQ.of (hR C hL) rfl scc rvv (Sub.nil _) ClM.nil (ClV.of rfl)
   |true=>
    rw[hs,cond_true]at hx
    simp(maxSteps:=2000000) only[go_sem,wS (show i≤1000000000000000000 by omega)]
    exact hj _ _ ⟨i+1,hc,hx⟩ [(1,1),(2,2)] (by simp only;omega) ⟨rfl,trivial,⟨rfl,rfl,rfl,rfl,trivial⟩,⟨.inr ⟨_,rfl,.inl (renV (v_v _))⟩,.inr ⟨_,rfl,.inl (renV (v_sC _))⟩,trivial⟩⟩
  ·have hc:=eq_of_dec hi hc
   rw[hc,List.drop_length]at hx
   rw[hx]at hR
   exact RetQ.of (hR C hL) rfl scc rvv (Sub.nil _) ClM.nil (ClV.of rfl)
def dupF:List Str→List Str→Option Str
 |_,[]=>none
 |seen,s::r=>bif seen.contains s then some s else dupF (s::seen) r
def seenF (s:Str):Str×Value:=(s,.bool true)
theorem seen_get (s:Str)(l:List Str):(aget (fillM seenF l) ⟨s.toArray⟩).getD (.bool false)= .bool (l.contains s):=by
 rw[fillM_get]
 have:(fun x:Str=>(seenF x).1==s)=fun x=>x==s:=rfl
 rw[this]
 cases hq:l.find? (fun x=>x==s)with
 |none=>
  have:l.contains s=false:=by
   rw[Bool.eq_false_iff]
   intro h
   rw[List.contains_iff_mem]at h
   rw[List.find?_eq_none]at hq
   exact hq s h (by simp)
  rw[this];rfl
 |some y=>
  have h1:=List.find?_some hq
  have h2:=List.mem_of_find?_eq_some hq
  have h3:y=s:=by simpa using h1
  subst h3
  have:l.contains y=true:=List.contains_iff_mem.2 h2
  rw[this];rfl
theorem again_ {H:Hp}(l:List Str)(hl:l.length≤1000000000000000):CallX H Tryz.prog 70 [.c (.sl 1 0 l.length 1)] [bSs 1 l] (fun _:Unit=>osT (dupF [] l)) (fun _=>[]) (fun _ _=>True):=by
 refine CallX.mkS Tryz.func70 rfl en70 (by simp[Tryz.ntmps70]) (ClA.of rfl) (fun _=>rfl) (fun _=>rfl) fun C hR hP hH hL=>?_
 have hR:=hR ()
 have hM:ClM [bSs 1 l]:=ClM.v (by simp only[List.all_cons,v_sC];rfl)
 refine Sm.go 100 ?_
 refine vv ?_
 refine Sm.makeMap hL rfl rfl rfl (fun b C1 l1 k1 f1 f1' m1=>?_)
 refine Sm.go 110 ?_
 refine vv ?_
 refine Sm.loopX (C:=C) (Ck:=C1) (M0:=[bSs 1 l]) (α:={i:Nat//i≤l.length∧dupF [] l=dupF (l.take i).reverse (l.drop i)}) l1 hP (fun i=>[(4,true,.c (.v (.map (some b)))),(8,true,.c (.sl 1 0 l.length 1)),(9,true,I l.length),(10,true,I i.val)])
  (fun _=>[bSs 1 l]) (fun i hp=>MpB hp b (fillM seenF (l.take i.val).reverse)) (fun i=>l.length-i.val) ⟨0,by omega,rfl⟩ m1 (fun _=>hM) (fun _=>ClE.of rfl) [(1,1)] ⟨rfl,⟨⟨rfl,rfl⟩,trivial⟩,⟨rfl,rfl,rfl,rfl,trivial⟩,⟨.inr ⟨_,rfl,.inl (renV (v_sC _))⟩,trivial⟩⟩ ?_
 rintro⟨i,hi,hx⟩ Cn J ln iT hb
 simp only at hb hi hx iT⊢
 refine Sm.go 120 ?_
 refine vv ?_
 refine mtch (fun hc=>?_) (fun hc=>?_)
 ·have hc:=lt_of_dec hc
  have htk:(l.take (i+1)).reverse=l[i]::(l.take i).reverse:=by rw[List.take_succ_eq_append_getElem hc,List.reverse_append];rfl
  rw[List.drop_eq_getElem_cons hc,dupF]at hx
  simp(maxSteps:=2000000) only[go_sem,get_sC hc]
  refine⟨⟨by omega,by omega⟩,?_⟩
  generalize l[i]=s at*
  refine Sm.opC 130 rfl rfl (.inl rfl) (fun _=>StpC.lookup (v:=Bo ((l.take i).reverse.contains s)) rfl rfl rfl rfl rfl iT (fun β=>(seen_get s _).symm)) ?_
  refine vv ?_
  refine mtch (fun hd=>?_) (fun hd=>?_)
  ·rw[hd,cond_true]at hx
   rw[hx]at hR
   exact RetQ.of (hR Cn ln trivial) rfl scc rvv (Sub.refl _) hM (ClV.of rfl)
  ·rw[hd,cond_false,←htk]at hx
   refine Sm.go 130 ?_
   refine vv ?_
   refine Sm.mapUpd (u:= .bool true) ln rfl rfl rfl rfl rfl rfl rfl (fun _=>rfl) iT f1 (fun Cu lu ku mu=>?_)
   refine Sm.go 140 ?_
   simp(maxSteps:=2000000) only[go_sem,wS (show i≤1000000000000000000 by omega)]
   exact hb _ _ Cu ⟨i+1,hc,hx⟩ [(1,1)] lu (by simp only;rw[htk];exact mu) (by simp only;omega) ⟨rfl,⟨⟨rfl,rfl⟩,trivial⟩,⟨rfl,rfl,rfl,rfl,trivial⟩,⟨.inr ⟨_,rfl,.inl (renV (v_sC _))⟩,trivial⟩⟩
 ·have hc:=eq_of_dec hi hc
  rw[hc,List.drop_length]at hx
  have hx:dupF [] l=none:=hx
  rw[hx]at hR
  exact RetQ.of (hR Cn ln trivial) rfl scc rvv (Sub.refl _) hM (ClV.of rfl)
end Go.Proofs.YtkciabfilokfiaaGreat.Fx
namespace Go.Proofs.YtkciabfilokfiaaGreat.Fx
open Vg Tf
set_option linter.unusedSimpArgs false
set_option linter.unusedVariables false
set_option maxRecDepth 100000
set_option maxHeartbeats 4000000
def delS:Str:=[100,101,108,97,121]
def nee1 (l:List Str)(n:Nat)(s:Str):List Nat:=if n≤sgN l s then[sgN l s-n]else[]
def need (l:List Str)(n:Nat)(b:Bl):List Nat:=if b.kd==delS then[]else b.ins.flatMap (nee1 l n)
def befB (d:Dg)(i:Nat):List Nat:=match d.bls[i]? with
 |some b=>need (sigs d) d.ins.length b
 |none=>[]
theorem idxS_lt (s:Str):∀(l:List Str) (k i:Nat),idxS s l k=some i→i<k+l.length
 |[],_,_,h=>by cases h
 |x::l,k,i,h=>by
  unfold idxS at h
  split at h
  ·cases h;simp
  ·have:=idxS_lt s l (k+1) i h
   simp;omega
theorem sgN_le (l:List Str)(s:Str):sgN l s≤l.length:=by
 unfold sgN
 cases h:idxS s l 0 with
 |none=>simp
 |some i=>have:=idxS_lt s l 0 i h;simp;omega
@[reducible] def nC (n:Nat):Cv:= .v (.int .i64 (n:Int))
@[reducible] def bNt (nm:Nat)(l:List Nat):Nat×Bk:=(nm,⟨false,l.map nC,3⟩)
theorem v_nC (l:List Nat):(l.map nC).all Cv.isV=true:=by simp[Cv.isV]
theorem get_nC {l:List Nat}{i:Nat}(h:i<l.length):(l.map nC)[i]?=some (nC l[i]):=by simp[h]
theorem sigs_len (d:DgL):(sigs d.c).length=d.ins.length+d.bls.length:=by simp[sigs,DgL.c]
theorem befB_get {d:DgL}{i:Nat}(h:i<d.bls.length):befB d.c i=need (sigs d.c) d.ins.length d.bls[i].c:=by
 unfold befB
 have:d.c.bls[i]?=some d.bls[i].c:=by simp[DgL.c,h]
 rw[this];rfl
theorem before_ {H:Hp}{cp:Value}{d:DgL}{bT bC bM bS:Nat}(k:Ck H cp d bT bC bM bS)(i:Nat)(hi:i<d.bls.length)(hl:d.bls[i].c.ins.length≤1000000):
  CallX H Tryz.prog 107 [.c (.v cp),I i] [] (fun _:Unit=> .c (.sl 1 0 (befB d.c i).length 1)) (fun _=>[bNt 1 (befB d.c i)]) (fun _ _=>True):=by
 have hn1:=k.n1
 have hn2:=k.n2
 have hsl:=sigs_len d
 have hbo:=k.o.bls d.bls[i] (List.getElem_mem hi)
 rw[befB_get hi]
 have htk:=rows_take (r:=BlL.r) (k:=6) (fun _=>rfl) d.bls i hi
 have hsz:=rows_len (r:=BlL.r) (k:=6) (fun _=>rfl) d.bls
 generalize hbb:d.bls[i]=b at*
 refine CallX.mkS Tryz.func107 rfl en107 (by simp[Tryz.ntmps107]) (ClA.of rfl) (fun _=>rfl) (fun _=>rfl) fun C hR hP hH hL=>?_
 have hR:=hR () C hL trivial
 refine Sm.bringP 1 147 0 (k.c.p.mono hH) rfl rfl (Sm.go 100 ?_)
 refine vv ?_
 refine Sm.bringR 2 53 14 (k.o.bl.mono hH) rfl rfl ?_
 have hl2:(d.bls.map BlL.r).length=d.bls.length:=List.length_map _
 rw[hl2]
 refine Sm.go 110 ?_
 simp(maxSteps:=2000000) only[go_sem,htk,hsz]
 refine⟨⟨by omega,by omega⟩,by omega,?_⟩
 refine mtch (fun hd=>?_) (fun hd=>?_)
 ·have hd:(b.c.kd==delS)=true:=hd
  have hne:need (sigs d.c) d.ins.length b.c=[]:=by rw[need,hd];rfl
  rw[hne]at hR
  refine RetQ.nils 140 1 3 [4] [] rfl ?_
  refine vv ?_
  exact RetQ.ren [(1,140)] hR hP rfl scc rfl rfl trivial ⟨.inr ⟨_,rfl,.inl rfl⟩,trivial⟩ (ClM.of rfl) (ClV.of rfl)
 ·have hd:(b.c.kd==delS)=false:=hd
  have hne:need (sigs d.c) d.ins.length b.c=b.c.ins.flatMap (nee1 (sigs d.c) d.ins.length):=by rw[need,hd];rfl
  rw[hne]at hR
  refine Sm.bringS 3 9 22 (hbo.i.mono hH) rfl rfl ?_
  refine Sm.nils 140 1 3 [6] [] rfl ?_
  refine vv ?_
  generalize hL':sigs d.c=L' at*
  have hnl:∀i,((b.c.ins.take i).flatMap (nee1 L' d.ins.length)).length≤i:=fun i=>by
   rw[List.length_flatMap]
   have:∀l:List Str,(l.map fun s=>(nee1 L' d.ins.length s).length).sum≤l.length:=fun l=>by
    induction l with
    |nil=>simp
    |cons s l ih=>
     rw[List.map_cons,List.sum_cons,List.length_cons]
     have:(nee1 L' d.ins.length s).length≤1:=by unfold nee1;split<;>simp
     omega
   exact Nat.le_trans (this _) (by rw[List.length_take];omega)
  refine Sm.loopM (M0:=[]) (α:={i:Nat//i≤b.c.ins.length}) hP (fun i=>[(0,true,.c (.p 1 0)),(6,true,.c (.sl 6 0 ((b.c.ins.take i.val).flatMap (nee1 L' d.ins.length)).length 1)),(22,true,.c (.sl 3 0 b.c.ins.length 1)),(23,true,I b.c.ins.length),(24,true,I i.val)])
   (fun i=>[(1,⟨true,(d.r++ckMs bT bC bM bS).map .v,147⟩),(3,⟨true,b.c.ins.map sC,9⟩),bNt 6 ((b.c.ins.take i.val).flatMap (nee1 L' d.ins.length))]) (fun i=>b.c.ins.length-i.val) ⟨0,by omega⟩ (fun _=>ClM.of (by simp only[List.all_cons,inMV (v_v _),inMV (v_sC _),inMV (v_nC _)];rfl)) (fun _=>ClE.of rfl) [(1,1),(3,3),(6,140)] ?_ ?_
  ·exact⟨rfl,trivial,⟨rfl,rfl,rfl,rfl,rfl,trivial⟩,⟨.inr ⟨_,rfl,.inl (renV (v_v _))⟩,.inr ⟨_,rfl,.inl (renV (v_sC _))⟩,.inr ⟨_,rfl,.inl (renV (v_nC _))⟩,trivial⟩⟩
  ·rintro⟨i,hi⟩ J hj
   simp only at hj hi⊢
   refine Sm.go 150 ?_
   refine vv ?_
   refine mtch (fun hc=>?_) (fun hc=>?_)
   ·have hc:=lt_of_dec hc
    have htk:(b.c.ins.take (i+1)).flatMap (nee1 L' d.ins.length)=(b.c.ins.take i).flatMap (nee1 L' d.ins.length)++nee1 L' d.ins.length b.c.ins[i]:=by
     rw[List.take_succ_eq_append_getElem hc,List.flatMap_append];simp
    simp(maxSteps:=2000000) only[go_sem,get_sC hc]
    refine⟨⟨by omega,by omega⟩,?_⟩
    have hsl:=sgN_le L' b.c.ins[i]
    generalize b.c.ins[i]=s at*
    refine Sm.dg 160 12 mix ?_
    refine vv ?_
    refine DOpQ.ownC 170 (fun _=>lkS1 (by have:=k.c.s.mono hH;rw[hL']at this;exact this) rfl rfl rfl) ?_
    have w3:IntKind.i64.wrap ((sgN L' s:Int)-(d.ins.length:Int))=(sgN L' s:Int)-(d.ins.length:Int):=by rw[w64 (by omega) (by omega)]
    simp(maxSteps:=2000000) only[go_sem,w3]
    have hq:=hnl i
    generalize hout:(b.c.ins.take i).flatMap (nee1 L' d.ins.length)=out at*
    by_cases hge:d.ins.length≤sgN L' s
    ·have e2:decide ((0:Int)≤(sgN L' s:Int)-(d.ins.length:Int))=true:=tru_of (by omega)
     have e3:nee1 L' d.ins.length s=[sgN L' s-d.ins.length]:=by unfold nee1;rw[if_pos hge]
     have e4:(sgN L' s:Int)-(d.ins.length:Int)=((sgN L' s-d.ins.length:Nat):Int):=by omega
     rw[e3]at htk
     have hlen:(out.map nC).length=out.length:=List.length_map _
     have hap:List.take out.length (out.map nC)++[nC (sgN L' s-d.ins.length)]=(out++[sgN L' s-d.ins.length]).map nC:=by
      rw[List.take_of_length_le (by omega),List.map_append];rfl
     simp(maxSteps:=2000000) only[go_sem,e2,e4,hap,hlen,wS (show i≤1000000000000000000 by omega)]
     refine⟨⟨by omega,by omega,by omega⟩,?_⟩
     refine hj _ _ ⟨i+1,hc⟩ [(1,1),(3,3),(6,171)] (by simp only;omega) ?_
     simp only[htk,List.length_append,List.length_cons,List.length_nil]
     exact⟨rfl,trivial,⟨rfl,rfl,rfl,rfl,rfl,trivial⟩,⟨.inr ⟨_,rfl,.inl (renV (v_v _))⟩,.inr ⟨_,rfl,.inl (renV (v_sC _))⟩,.inr ⟨_,rfl,.inl (renV (v_nC _))⟩,trivial⟩⟩
    ·have e2:decide ((0:Int)≤(sgN L' s:Int)-(d.ins.length:Int))=false:=fal_of (by omega)
     have e3:nee1 L' d.ins.length s=[]:=by unfold nee1;rw[if_neg hge]
     rw[e3,List.append_nil]at htk
     simp(maxSteps:=2000000) only[go_sem,e2,wS (show i≤1000000000000000000 by omega)]
     refine hj _ _ ⟨i+1,hc⟩ [(1,1),(3,3),(6,6)] (by simp only;omega) ?_
     simp only[htk]
     exact⟨rfl,trivial,⟨rfl,rfl,rfl,rfl,rfl,trivial⟩,⟨.inr ⟨_,rfl,.inl (renV (v_v _))⟩,.inr ⟨_,rfl,.inl (renV (v_sC _))⟩,.inr ⟨_,rfl,.inl (renV (v_nC _))⟩,trivial⟩⟩
   ·have hc:=eq_of_dec hi hc
    subst hc
    rw[List.take_length]
    exact RetQ.ren [(1,6)] hR hP rfl scc rfl rfl trivial ⟨.inr ⟨_,rfl,.inl (renV (v_nC _))⟩,trivial⟩ (ClM.of (by simp only[List.cons_append,List.nil_append,List.append_nil,List.all_cons,inMV (v_nC _)];rfl)) (ClV.of rfl)
end Go.Proofs.YtkciabfilokfiaaGreat.Fx
