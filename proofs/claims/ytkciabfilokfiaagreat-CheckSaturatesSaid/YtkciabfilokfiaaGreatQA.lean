/-  -/
import Derived.Test.YtkciabfilokfiaaGreatPS
import Derived.Test.YtkciabfilokfiaaGreatQ9
namespace Go.Proofs.YtkciabfilokfiaaGreat.Fx
open Vg Tf
set_option linter.unusedSimpArgs false
set_option linter.unusedVariables false
set_option maxRecDepth 100000
set_option maxHeartbeats 4000000
def delS:Str:=[100,101,108,97,121]
def nee1 (l:List Str)(n:Nat)(s:Str):List Nat:=if n≤sgN l s then[sgN l s-n]else[]
def need (l:List Str)(n:Nat)(b:Bl):List Nat:=if b.kd==delS then[]else b.ins.flatMap (nee1 l n)
def befB (d:Dg)(i:Nat):List Nat:=match d.bls[i]? with
 |some b=>need (sigs d) d.ins.length b
 |none=>[]
theorem idxS_lt (s:Str):∀(l:List Str) (k i:Nat),idxS s l k=some i→i<k+l.length
 |[],_,_,h=>by cases h
 |x::l,k,i,h=>by
  unfold idxS at h
  split at h
  ·cases h;simp
  ·have:=idxS_lt s l (k+1) i h
   simp;omega
theorem sgN_le (l:List Str)(s:Str):sgN l s≤l.length:=by
 unfold sgN
 cases h:idxS s l 0 with
 |none=>simp
 |some i=>have:=idxS_lt s l 0 i h;simp;omega
@[reducible] def nC (n:Nat):Cv:= .v (.int .i64 (n:Int))
@[reducible] def bNt (nm:Nat)(l:List Nat):Nat×Bk:=(nm,⟨false,l.map nC,3⟩)
theorem v_nC (l:List Nat):(l.map nC).all Cv.isV=true:=by simp[Cv.isV]
theorem get_nC {l:List Nat}{i:Nat}(h:i<l.length):(l.map nC)[i]?=some (nC l[i]):=by simp[h]
theorem sigs_len (d:DgL):(sigs d.c).length=d.ins.length+d.bls.length:=by simp[sigs,DgL.c]
theorem befB_get {d:DgL}{i:Nat}(h:i<d.bls.length):befB d.c i=need (sigs d.c) d.ins.length d.bls[i].c:=by
 unfold befB
 have:d.c.bls[i]?=some d.bls[i].c:=by simp[DgL.c,h]
 rw[this];rfl
theorem before_ {H:Hp}{cp:Value}{d:DgL}{bT bC bM bS:Nat}(k:Ck H cp d bT bC bM bS)(i:Nat)(hi:i<d.bls.length)(hl:d.bls[i].c.ins.length≤1000000):
  CallX H Tryz.prog 107 [.c (.v cp),I i] [] (fun _:Unit=> .c (.sl 1 0 (befB d.c i).length 1)) (fun _=>[bNt 1 (befB d.c i)]) (fun _ _=>True):=by
 have hn1:=k.n1
 have hn2:=k.n2
 have hsl:=sigs_len d
 have hbo:=k.o.bls d.bls[i] (List.getElem_mem hi)
 rw[befB_get hi]
 have htk:=rows_take (r:=BlL.r) (k:=6) (fun _=>rfl) d.bls i hi
 have hsz:=rows_len (r:=BlL.r) (k:=6) (fun _=>rfl) d.bls
 generalize hbb:d.bls[i]=b at*
 refine CallX.mkS Tryz.func107 rfl en107 (by simp[Tryz.ntmps107]) (ClA.of rfl) (fun _=>rfl) (fun _=>rfl) fun C hR hP hH hL=>?_
 have hR:=hR () C hL trivial
 refine Sm.bringP 1 147 0 (k.c.p.mono hH) rfl rfl (Sm.go 100 ?_)
 refine vv ?_
 refine Sm.bringR 2 53 14 (k.o.bl.mono hH) rfl rfl ?_
 have hl2:(d.bls.map BlL.r).length=d.bls.length:=List.length_map _
 rw[hl2]
 refine Sm.go 110 ?_
 simp(maxSteps:=2000000) only[go_sem,htk,hsz]
 refine⟨⟨by omega,by omega⟩,by omega,?_⟩
 refine mtch (fun hd=>?_) (fun hd=>?_)
 ·have hd:(b.c.kd==delS)=true:=hd
  have hne:need (sigs d.c) d.ins.length b.c=[]:=by rw[need,hd];rfl
  rw[hne]at hR
  refine RetQ.nils 140 1 3 [4] [] rfl ?_
  refine vv ?_
  exact RetQ.ren [(1,140)] hR hP rfl scc rfl rfl trivial ⟨.inr ⟨_,rfl,.inl rfl⟩,trivial⟩ (ClM.of rfl) (ClV.of rfl)
 ·have hd:(b.c.kd==delS)=false:=hd
  have hne:need (sigs d.c) d.ins.length b.c=b.c.ins.flatMap (nee1 (sigs d.c) d.ins.length):=by rw[need,hd];rfl
  rw[hne]at hR
  refine Sm.bringS 3 9 22 (hbo.i.mono hH) rfl rfl ?_
  refine Sm.nils 140 1 3 [6] [] rfl ?_
  refine vv ?_
  generalize hL':sigs d.c=L' at*
  have hnl:∀i,((b.c.ins.take i).flatMap (nee1 L' d.ins.length)).length≤i:=fun i=>by
   rw[List.length_flatMap]
   have:∀l:List Str,(l.map fun s=>(nee1 L' d.ins.length s).length).sum≤l.length:=fun l=>by
    induction l with
    |nil=>simp
    |cons s l ih=>
     rw[List.map_cons,List.sum_cons,List.length_cons]
     have:(nee1 L' d.ins.length s).length≤1:=by unfold nee1;split<;>simp
     omega
   exact Nat.le_trans (this _) (by rw[List.length_take];omega)
  refine Sm.loopM (M0:=[]) (α:={i:Nat//i≤b.c.ins.length}) hP (fun i=>[(0,true,.c (.p 1 0)),(6,true,.c (.sl 6 0 ((b.c.ins.take i.val).flatMap (nee1 L' d.ins.length)).length 1)),(22,true,.c (.sl 3 0 b.c.ins.length 1)),(23,true,I b.c.ins.length),(24,true,I i.val)])
   (fun i=>[(1,⟨true,(d.r++ckMs bT bC bM bS).map .v,147⟩),(3,⟨true,b.c.ins.map sC,9⟩),bNt 6 ((b.c.ins.take i.val).flatMap (nee1 L' d.ins.length))]) (fun i=>b.c.ins.length-i.val) ⟨0,by omega⟩ (fun _=>ClM.of (by simp only[List.all_cons,inMV (v_v _),inMV (v_sC _),inMV (v_nC _)];rfl)) (fun _=>ClE.of rfl) [(1,1),(3,3),(6,140)] ?_ ?_
  ·exact⟨rfl,trivial,⟨rfl,rfl,rfl,rfl,rfl,trivial⟩,⟨.inr ⟨_,rfl,.inl (renV (v_v _))⟩,.inr ⟨_,rfl,.inl (renV (v_sC _))⟩,.inr ⟨_,rfl,.inl (renV (v_nC _))⟩,trivial⟩⟩
  ·rintro⟨i,hi⟩ J hj
   simp only at hj hi⊢
   refine Sm.go 150 ?_
   refine vv ?_
   refine mtch (fun hc=>?_) (fun hc=>?_)
   ·have hc:=lt_of_dec hc
    have htk:(b.c.ins.take (i+1)).flatMap (nee1 L' d.ins.length)=(b.c.ins.take i).flatMap (nee1 L' d.ins.length)++nee1 L' d.ins.length b.c.ins[i]:=by
     rw[List.take_succ_eq_append_getElem hc,List.flatMap_append];simp
    simp(maxSteps:=2000000) only[go_sem,get_sC hc]
    refine⟨⟨by omega,by omega⟩,?_⟩
    have hsl:=sgN_le L' b.c.ins[i]
    generalize b.c.ins[i]=s at*
    refine Sm.dg 160 12 mix ?_
    refine vv ?_
    refine DOpQ.ownC 170 (fun _=>lkS1 (by have:=k.c.s.mono hH;rw[hL']at this;exact this) rfl rfl rfl) ?_
    have w3:IntKind.i64.wrap ((sgN L' s:Int)-(d.ins.length:Int))=(sgN L' s:Int)-(d.ins.length:Int):=by rw[w64 (by omega) (by omega)]
    simp(maxSteps:=2000000) only[go_sem,w3]
    have hq:=hnl i
    generalize hout:(b.c.ins.take i).flatMap (nee1 L' d.ins.length)=out at*
    by_cases hge:d.ins.length≤sgN L' s
    ·have e2:decide ((0:Int)≤(sgN L' s:Int)-(d.ins.length:Int))=true:=tru_of (by omega)
     have e3:nee1 L' d.ins.length s=[sgN L' s-d.ins.length]:=by unfold nee1;rw[if_pos hge]
     have e4:(sgN L' s:Int)-(d.ins.length:Int)=((sgN L' s-d.ins.length:Nat):Int):=by omega
     rw[e3]at htk
     have hlen:(out.map nC).length=out.length:=List.length_map _
     have hap:List.take out.length (out.map nC)++[nC (sgN L' s-d.ins.length)]=(out++[sgN L' s-d.ins.length]).map nC:=by
      rw[List.take_of_length_le (by omega),List.map_append];rfl
     simp(maxSteps:=2000000) only[go_sem,e2,e4,hap,hlen,wS (show i≤1000000000000000000 by omega)]
     refine⟨⟨by omega,by omega,by omega⟩,?_⟩
     refine hj _ _ ⟨i+1,hc⟩ [(1,1),(3,3),(6,171)] (by simp only;omega) ?_
     simp only[htk,List.length_append,List.length_cons,List.length_nil]
     exact⟨rfl,trivial,⟨rfl,rfl,rfl,rfl,rfl,trivial⟩,⟨.inr ⟨_,rfl,.inl (renV (v_v _))⟩,.inr ⟨_,rfl,.inl (renV (v_sC _))⟩,.inr ⟨_,rfl,.inl (renV (v_nC _))⟩,trivial⟩⟩
    ·have e2:decide ((0:Int)≤(sgN L' s:Int)-(d.ins.length:Int))=false:=fal_of (by omega)
     have e3:nee1 L' d.ins.length s=[]:=by unfold nee1;rw[if_neg hge]
     rw[e3,List.append_nil]at htk
     simp(maxSteps:=2000000) only[go_sem,e2,wS (show i≤1000000000000000000 by omega)]
     refine hj _ _ ⟨i+1,hc⟩ [(1,1),(3,3),(6,6)] (by simp only;omega) ?_
     simp only[htk]
     exact⟨rfl,trivial,⟨rfl,rfl,rfl,rfl,rfl,trivial⟩,⟨.inr ⟨_,rfl,.inl (renV (v_v _))⟩,.inr ⟨_,rfl,.inl (renV (v_sC _))⟩,.inr ⟨_,rfl,.inl (renV (v_nC _))⟩,trivial⟩⟩
   ·have hc:=eq_of_dec hi hc
    subst hc
    rw[List.take_length]
    exact RetQ.ren [(1,6)] hR hP rfl scc rfl rfl trivial ⟨.inr ⟨_,rfl,.inl (renV (v_nC _))⟩,trivial⟩ (ClM.of (by simp only[List.cons_append,List.nil_append,List.append_nil,List.all_cons,inMV (v_nC _)];rfl)) (ClV.of rfl)
end Go.Proofs.YtkciabfilokfiaaGreat.Fx
