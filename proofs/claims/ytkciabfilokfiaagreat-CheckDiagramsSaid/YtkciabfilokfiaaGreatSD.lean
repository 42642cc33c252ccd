/-  -/
import Derived.Test.YtkciabfilokfiaaGreatRQ
open Go.Proofs.Tryz
set_option linter.unusedSimpArgs false
set_option linter.unusedVariables false
set_option maxRecDepth 100000
set_option maxHeartbeats 4000000
namespace Go.Proofs.YtkciabfilokfiaaGreat.Fx
open Vg Tf
@[reducible,go_sem] def rk (d:DgL):List Cv:=[.v (sv d.nm),.v (vsl d.ty d.tys.length),.v (vsl d.cu d.cus.length),.v (vsl d.ma d.mas.length),.sl 4 0 d.ins.length 4,.sl 5 0 d.bls.length 6,.v (vsl d.ou d.ous.length)]
@[reducible,go_sem] def xU (d:DgL):Mem:=[(4,⟨true,zD (d.ins.map Po.r),51⟩),(5,⟨true,zD (d.bls.map BlL.r),53⟩)]
theorem zo (d:DgL):ClM (xU d):=cM
def yw (l:List Str)(s:Str):Int:=match wn s l 0 with
 |some i=>(i:Int)
 |none=> -1
theorem tB (s:Str)(L:List Str)(i:Nat)(h:i<L.length):wn s (L.drop i) i=if L.getD i []=s then some i else wn s (L.drop (i+1)) (i+1):=by
 rw[JA h,wn,Kw,Kz h];rfl
theorem fY (d:DgL){i:Nat}(h:i<d.ins.length):(zQ d.c).getD i []=d.ins[i].nm:=by
 unfold zQ
 rw[Kw,Jm (by rw[Ku];exact h),JK]
 have:d.c.ins[i]?=some d.ins[i]:=Kz h
 rw[this];rfl
theorem fZ (d:DgL){i:Nat}(h:i<d.bls.length):(zQ d.c).getD (d.ins.length+i) []=d.bls[i].c.nm:=by
 unfold zQ
 have hl:(d.c.ins.map (·.nm)).length=d.ins.length:=Ku _
 rw[Kw,IE (by rw[hl];omega),hl,show d.ins.length+i-d.ins.length=i by omega,JK]
 have:d.c.bls[i]?=some d.bls[i].c:=by simp[DgL.c,h]
 rw[this];rfl
theorem nD (d:DgL)(s:Str)(h1:d.ins.length<=1000000000000000)(h2:d.bls.length<=1000000000000000):CallOk Tryz.prog 128 [.agg (rk d),S s] (xU d) (I (yw (zQ d.c) s)) []:=by
 have hsl:=xh d
 have z4:=zP (r:=Po.r) (k:=4) (fun _=>rfl) d.ins
 have z5:=zP (r:=BlL.r) (k:=6) (fun _=>rfl) d.bls
 refine kN 100 func128 Ro ntmps128 fun C hR hP=>?_
 refine vv ?_
 refine zG (M0:=xU d) (α:={i:Nat//i<=d.ins.length/\wn s (zQ d.c) 0=wn s ((zQ d.c).drop i) i}) hP (fun i=>[(1,true,S s),(2,true,.c (.p 2 0)),(5,true,I i.val)]) (fun _=>(2,⟨false,rk d,29⟩)::xU d) (fun i=>d.ins.length-i.val) ⟨0,zA,rfl⟩ (fun _=>cM) (fun _=>zO rfl) [(2,100),(4,4),(5,5)] ?_ ?_
 ·exact z9
 rintro⟨i,hi,hx⟩ J hj
 simp only at hj hi hx⊢
 refine zB 120 (vv ?_)
 refine zU (fun hc=>?_) (fun hc=>?_)
 ·have hc:=zH hc
  rw[tB s _ i zA,fY d hc]at hx
  have f0:=zy (r:=Po.r) (k:=4) (fun _=>rfl) d.ins i 0 hc zA
  rw[JV]at f0
  generalize d.ins[i]=x at*
  simp only[go_sem,f0,Po.r,JP,JM]
  refine⟨⟨zA,zA⟩,?_⟩
  refine zU (fun hd=>?_) (fun hd=>?_)
  ·rw[if_pos (eq_of_beq hd)]at hx
   refine zX hR rfl ⟨rfl,trivial⟩ ?_ (SubS.sub ⟨oS,oS,trivial⟩) (zo d) (zI rfl)
   unfold yw;rw[hx];rfl
  ·rw[if_neg (fun h=>by rw[h]at hd;simp at hd)]at hx
   simp only[go_sem,yT (i:=i)]
   exact hj _ _ ⟨i+1,hc,hx⟩ [(2,2),(4,4),(5,5)] yF z9
 have hc:=zL hi hc
 subst hc
 refine vv ?_
 refine zG (M0:=xU d) (α:={i:Nat//i<=d.bls.length/\wn s (zQ d.c) 0=wn s ((zQ d.c).drop (d.ins.length+i)) (d.ins.length+i)}) hP (fun i=>[(1,true,S s),(2,true,.c (.p 2 0)),(6,true,I i.val)]) (fun _=>(2,⟨false,rk d,29⟩)::xU d) (fun i=>d.bls.length-i.val) ⟨0,zA,hx⟩ (fun _=>cM) (fun _=>zO rfl) [(2,2),(4,4),(5,5)] ?_ ?_
 ·exact z9
 rintro⟨i,hi,hx⟩ J hj
 simp only at hj hi hx⊢
 refine zB 120 (vv ?_)
 refine zU (fun hc=>?_) (fun hc=>?_)
 ·have hc:=zH hc
  rw[tB s _ _ zA,fZ d hc]at hx
  have f0:=zy (r:=BlL.r) (k:=6) (fun _=>rfl) d.bls i 0 hc zA
  rw[JV]at f0
  generalize d.bls[i]=x at*
  have ew:IntKind.i64.wrap ((d.ins.length:Int)+(i:Int))=((d.ins.length+i:Nat):Int):=by rw[ya zA zA];omega
  simp only[go_sem,f0,BlL.r,JP,JM,ew]
  refine⟨⟨zA,zA⟩,?_⟩
  refine zU (fun hd=>?_) (fun hd=>?_)
  ·rw[if_pos (eq_of_beq hd)]at hx
   refine zX hR rfl ⟨rfl,trivial⟩ ?_ (SubS.sub ⟨oS,oS,trivial⟩) (zo d) (zI rfl)
   unfold yw;rw[hx];rfl
  ·rw[if_neg (fun h=>by rw[h]at hd;simp at hd)]at hx
   simp only[go_sem,yT (i:=i)]
   exact hj _ _ ⟨i+1,hc,hx⟩ [(2,2),(4,4),(5,5)] yF z9
 have hc:=zL hi hc
 subst hc
 rw[Jl zA]at hx
 refine vv ?_
 refine zX hR rfl ⟨rfl,trivial⟩ ?_ (SubS.sub ⟨oS,oS,trivial⟩) (zo d) (zI rfl)
 unfold yw;rw[hx];rfl
theorem mD (L:List Str)(i:Nat)(h:i<L.length):List.take i ((L.take i).map sC)++[sC (L.getD i [])]=(L.take (i+1)).map sC:=by
 have hl:((L.take i).map sC).length=i:=by rw[Ku,Jt];omega
 rw[JH zA,JS h,JT,Kw,Kz h];rfl
theorem jF (d:DgL)(h1:d.ins.length<=1000000)(h2:d.bls.length<=1000000):CallOk Tryz.prog 63 [.agg (rk d)] (xU d) (.c (.sl 1 0 (zQ d.c).length 1)) [ZD 1 (zQ d.c)]:=by
 have hsl:=xh d
 have z4:=zP (r:=Po.r) (k:=4) (fun _=>rfl) d.ins
 have z5:=zP (r:=BlL.r) (k:=6) (fun _=>rfl) d.bls
 refine kN 100 func63 O7 ntmps63 fun C hR hP=>?_
 refine vv ?_
 refine yz 140 1 9 [3] [] rfl (vv ?_)
 refine zG (M0:=xU d) (α:={i:Nat//i<=d.ins.length}) hP (fun i=>[(1,true,.c (.p 2 0)),(3,true,.c (.sl 3 0 i.val 1)),(4,true,I i.val)]) (fun i=>(2,⟨false,rk d,29⟩)::(3,⟨false,((zQ d.c).take i.val).map sC,9⟩)::xU d) (fun i=>d.ins.length-i.val) ⟨0,zA⟩ (fun _=>zC (by simp only[Ky,iR,zh (y7 _)];rfl)) (fun _=>zO rfl) [(2,100),(3,140),(4,4),(5,5)] ?_ ?_
 ·exact z9
 ·rintro⟨i,hi⟩ J hj
  simp only at hj hi⊢
  refine zB 150 (vv ?_)
  refine zU (fun hc=>?_) (fun hc=>?_)
  ·have hc:=zH hc
   have f0:=zy (r:=Po.r) (k:=4) (fun _=>rfl) d.ins i 0 hc zA
   have hsn:=mD (zQ d.c) i zA
   have hlm:(((zQ d.c).take i).map sC).length=i:=by rw[Ku,Jt];omega
   rw[fY d hc]at hsn
   rw[JV]at f0
   generalize d.ins[i]=x at*
   simp only[go_sem,f0,Po.r,JP,JM,hlm,hsn,yT (i:=i)]
   refine⟨⟨zA,zA⟩,⟨zA,zA,zA⟩,?_⟩
   exact hj _ _ ⟨i+1,hc⟩ [(2,2),(3,151),(4,4),(5,5)] yF z9
  have hc:=zL hi hc
  subst hc
  refine vv ?_
  refine zG (M0:=xU d) (α:={i:Nat//i<=d.bls.length}) hP (fun i=>[(1,true,.c (.p 2 0)),(3,true,.c (.sl 3 0 (d.ins.length+i.val) 1)),(5,true,I i.val)]) (fun i=>(2,⟨false,rk d,29⟩)::(3,⟨false,((zQ d.c).take (d.ins.length+i.val)).map sC,9⟩)::xU d) (fun i=>d.bls.length-i.val) ⟨0,zA⟩ (fun _=>zC (by simp only[Ky,iR,zh (y7 _)];rfl)) (fun _=>zO rfl) [(2,2),(3,3),(4,4),(5,5)] ?_ ?_
  ·exact z9
  rintro⟨i,hi⟩ J hj
  simp only at hj hi⊢
  refine zB 150 (vv ?_)
  refine zU (fun hc=>?_) (fun hc=>?_)
  ·have hc:=zH hc
   have f0:=zy (r:=BlL.r) (k:=6) (fun _=>rfl) d.bls i 0 hc zA
   have hsn:=mD (zQ d.c) (d.ins.length+i) zA
   have hlm:(((zQ d.c).take (d.ins.length+i)).map sC).length=d.ins.length+i:=by rw[Ku,Jt];omega
   rw[fZ d hc]at hsn
   rw[JV]at f0
   generalize d.bls[i]=x at*
   simp only[go_sem,f0,BlL.r,JP,JM,hlm,hsn,yT (i:=i)]
   refine⟨⟨zA,zA⟩,⟨zA,zA,zA⟩,?_⟩
   exact hj _ _ ⟨i+1,hc⟩ [(2,2),(3,151),(4,4),(5,5)] yF z9
  have hc:=zL hi hc
  subst hc
  rw[<-hsl,Jh]
  exact RetQ.ren [(1,3),(4,4),(5,5)] hR hP rfl xb rfl rfl ⟨⟨rfl,rfl⟩,⟨rfl,rfl⟩,trivial⟩ ⟨oV (yO (y7 _)),oX,oX,trivial⟩ (zC (by simp only[JC,JD,Ky,zh (y7 _),iR,zh (nu _)];rfl)) (zI rfl)
theorem Y9 (l:List Str)(i:Nat)(h:i<l.length):uV (l.take i).reverse (l.drop i)=bif (l.take i).contains l[i]then some l[i]else uV (l.take (i+1)).reverse (l.drop (i+1)):=by
 rw[JA h,uV,JS h,List.reverse_append]
 have:(l.take i).reverse.contains l[i]=(l.take i).contains l[i]:=by rw[JQ,IA,IA,List.mem_reverse]
 rw[this];rfl
theorem Z4 (l:List Str)(hl:l.length<=1000000000000000):CallOk Tryz.prog 54 [.c (.sl 1 0 l.length 1)] [iY 1 l] (Vb (uV [] l)) []:=by
 have hM:ClM [iY 1 l]:=zC (by simp only[Ky,zh (y7 _)];rfl)
 refine kN 100 func54 Og ntmps54 fun C hR hP=>?_
 refine vv ?_
 refine zG (M0:=[iY 1 l]) (α:={i:Nat//i<=l.length/\uV [] l=uV (l.take i).reverse (l.drop i)}) hP (fun i=>[(0,true,.c (.sl 1 0 l.length 1)),(4,true,I i.val)]) (fun _=>[iY 1 l]) (fun i=>l.length-i.val) ⟨0,zA,rfl⟩ (fun _=>hM) (fun _=>zO rfl) [(1,1)] ?_ ?_
 ·exact z9
 rintro⟨i,hi,hx⟩ J hj
 simp only at hj hi hx⊢
 refine zB 120 (vv ?_)
 refine zU (fun hc=>?_) (fun hc=>?_)
 ·have hc:=zH hc
  rw[Y9 l i hc]at hx
  refine vv ?_
  refine zG (M0:=[iY 1 l]) (α:={k:Nat//k<=i/\(l.take k).contains l[i]=false}) hP (fun k=>[(0,true,.c (.sl 1 0 l.length 1)),(4,true,I i),(5,true,I k.val)]) (fun _=>[iY 1 l]) (fun k=>i-k.val) ⟨0,zA,rfl⟩ (fun _=>hM) (fun _=>zO rfl) [(1,1)] ?_ ?_
  ·exact z9
  rintro⟨k,hk,hy⟩ J2 hj2
  simp only at hj2 hk hy⊢
  refine zB 130 (vv ?_)
  refine zU (fun hd=>?_) (fun hd=>?_)
  ·have hd:=zH hd
   have e1:=xq (l:=l) (i:=k) zA
   have e2:=xq (l:=l) (i:=i) zA
   refine Sm.dg 140 8 ze ?_
   simp only[go_sem,e1,e2]
   refine⟨⟨zA,zA⟩,⟨zA,zA⟩,?_⟩
   refine zU (fun he=>?_) (fun he=>?_)
   ·have hm:(l.take i).contains l[i]=true:=by
     rw[IA,List.mem_take_iff_getElem]
     exact⟨k,zA,eq_of_beq he⟩
    rw[hm,cond_true]at hx
    rw[hx]at hR
    refine⟨⟨zA,zA⟩,?_⟩
    exact yI hR hM
   ·refine zB 150 ?_
    simp only[go_sem,yT (i:=k)]
    refine hj2 _ _ ⟨k+1,hd,?_⟩ [(1,1)] yF z9
    rw[JS zA,List.contains_append,hy]
    simp only[Iq,Jn,List.contains_nil,IB]
    rw[Bool.beq_comm];exact he
  ·have hd:=zL hk hd
   rw[hd]at hy
   rw[hy,cond_false]at hx
   simp only[go_sem,yT (i:=i)]
   exact hj _ _ ⟨i+1,hc,hx⟩ [(1,1)] yF z9
 ·have hc:=zL hi hc
  rw[hc,JL]at hx
  have hx:uV [] l=none:=hx
  rw[hx]at hR
  exact yI hR hM
theorem g7 (l:List Str)(s:Str):decide (yw l s<0)= !sW l s:=by
 unfold yw sW
 cases wn s l 0 with
 |none=>rfl
 |some i=>
  show decide ((i:Int)<0)=_
  rw[decide_eq_false zA];rfl
theorem io {H:Hp}(d:DgL)(h1:d.ins.length<=1000000)(h2:d.bls.length<=1000000)(b:BlL)(hb:b.ok H)(hl:b.c.ins.length<=1000000000000000):
  CallX H Tryz.prog 72 [.agg (rk d),yD b.r] (xU d) (fun _:Unit=>Vb (tq (zQ d.c) b.c.ins)) (fun _=>[]) (fun _ _=>True):=by
 refine kX func72 OY ntmps72 fun C hR hP hH hL=>?_
 have hR:=hR () C hL trivial
 refine zB 100 (vv ?_)
 refine Sm.bringC 6 9 101 3 (hb.i.mono hH) rfl rfl rfl ?_
 rw[pH,show(yH b.c.ins).length=b.c.ins.length by simp[yH]]
 refine zG (M0:=xU d) (α:={i:Nat//i<=b.c.ins.length/\tq (zQ d.c) b.c.ins=tq (zQ d.c) (b.c.ins.drop i)}) hP (fun i=>[(2,true,.c (.p 2 0)),(3,true,.c (.p 3 0)),(6,true,I i.val)])
  (fun _=>(2,⟨false,rk d,29⟩)::(3,⟨false,[.v (sv b.c.nm),.v (sv b.c.kd),.v (sv b.c.ty),.sl 6 0 b.c.ins.length 1,.v (sv b.c.tb),.v (vsl b.k b.c.ks.length)],53⟩)::(6,⟨true,b.c.ins.map sC,9⟩)::xU d) (fun i=>b.c.ins.length-i.val) ⟨0,zA,rfl⟩ (fun _=>zC (by simp only[Ky,iR,zh (y7 _)];rfl)) (fun _=>zO rfl) [(2,100),(3,101),(6,6),(4,4),(5,5)] ?_ ?_
 ·exact z9
 rintro⟨i,hi,hx⟩ J hj
 simp only at hj hi hx⊢
 refine zB 120 (vv ?_)
 refine zU (fun hc=>?_) (fun hc=>?_)
 ·have hc:=zH hc
  rw[JA hc,mg]at hx
  have e1:=xq hc
  have hf:=g7 (zQ d.c) b.c.ins[i]
  refine Sm.dg 130 6 ze ?_
  simp only[go_sem,e1]
  refine⟨⟨zA,zA⟩,?_⟩
  refine CallQ.mem 140 (nD d b.c.ins[i] zA zA) rfl ?_ (zo d) ?_
  ·exact SubS.sub ⟨oS,oS,trivial⟩
  simp only[go_sem,hf,e1]
  cases hs:sW (zQ d.c) b.c.ins[i]with
  |false=>
   rw[hs,cond_false]at hx
   rw[hx]at hR
   refine vv ?_
   refine⟨⟨zA,zA⟩,?_⟩
   exact yI hR (zo d)
  |true=>
   rw[hs,cond_true]at hx
   simp only[go_sem,yT (i:=i)]
   exact hj _ _ ⟨i+1,hc,hx⟩ [(2,2),(3,3),(6,6),(4,4),(5,5)] yF z9
 ·have hc:=zL hi hc
  rw[hc,JL]at hx
  have hx:tq (zQ d.c) b.c.ins=none:=hx
  rw[hx]at hR
  exact yI hR (zo d)
def rx (l:List Str)(n:Nat)(ins:List Str)(k:Nat):List Nat:=(ins.take k).flatMap (wq l n)
theorem ja (l:List Str)(n:Nat)(ins:List Str)(k:Nat)(h:k<ins.length):rx l n ins (k+1)=rx l n ins k++wq l n ins[k]:=by
 unfold rx
 rw[JS h,List.flatMap_append]
 simp
theorem ow {l:List Str}{s:Str}(h:sW l s=true):yw l s=(xv l s:Int):=by
 unfold yw xv
 unfold sW at h
 cases hq:wn s l 0 with
 |none=>rw[hq]at h;cases h
 |some i=>rfl
theorem uY (l:List Str):(yH l).flatten=l.map sv:=by
 unfold yH
 induction l with
 |nil=>rfl
 |cons x l ih=>simp only[Kv,List.flatten_cons,ih];rfl
def oI (o:Option Nat):Int:=match o with
 |some j=>(j:Int)
 |none=> -1
theorem lL {H:Hp}(d:DgL)(hd:d.ok H)(h1:d.ins.length<=1000000)(h2:d.bls.length<=1000000)(hlI:∀b∈d.bls,b.c.ins.length<=1000000)(hin:∀b∈d.bls,∀s∈b.c.ins,sW (zQ d.c) s=true):
  CallX H Tryz.prog 65 [.agg (rk d)] (xU d) (fun _:Unit=> .c (.sl 1 0 (xR (yS d.c) d.bls.length).length 1)) (fun _=>[XA 1 (xR (yS d.c) d.bls.length)]) (fun _ _=>True):=by
 have z5:=zP (r:=BlL.r) (k:=6) (fun _=>rfl) d.bls
 have hord:=tR (yS d.c) d.bls.length
 refine kX func65 O5 ntmps65 fun C hR hP hH hL=>?_
 have hR:=hR () C hL trivial
 refine zB 100 ?_
 simp only[go_sem,sX]
 refine⟨⟨zA,zA,zA⟩,?_⟩
 refine yz 140 1 3 [5] [] rfl (vv ?_)
 generalize hB:yS d.c=B at*
 let Mm:List Nat->Mem:=fun l=>(2,⟨false,rk d,29⟩)::(1,⟨false,(vF d.bls.length l).map bC,4⟩)::XA 3 l::xU d
 have hcl:∀l,ClM (Mm l):=fun l=>zC (by simp only[Mm,Ky,zh (uB _),zh (xK _),iR];rfl)
 refine zG (M0:=xU d) (α:={l:List Nat//OrdOk B d.bls.length l/\xR B d.bls.length=vW B d.bls.length (d.bls.length-l.length) l}) hP (fun l=>[(1,true,.c (.p 2 0)),(3,true,I d.ins.length),(4,true,.c (.sl 1 0 d.bls.length 1)),(5,true,.c (.sl 3 0 l.val.length 1))])
  (fun l=>Mm l.val) (fun l=>d.bls.length-l.val.length) ⟨[],OrdOk.nil B d.bls.length,rfl⟩ (fun _=>hcl _) (fun _=>zO rfl) [(2,100),(1,101),(3,140),(4,4),(5,5)] ?_ ?_
 ·exact z9
 rintro⟨l,hl,hx⟩ J hj
 simp only at hj hl hx⊢
 have hle:=vJ d.bls.length l hl.1 hl.2.1
 refine zB 150 ?_
 simp only[go_sem,Mm]
 refine zG (M0:=xU d) (α:={x:Nat×Option Nat//x.1<=d.bls.length/\(x.2=none->∀q,q<x.1->ka B l q=false)/\∀j,x.2=some j->iz B d.bls.length l=some j}) hP (fun x=>[(1,true,.c (.p 2 0)),(3,true,I d.ins.length),(4,true,.c (.sl 1 0 d.bls.length 1)),(5,true,.c (.sl 3 0 l.length 1)),(6,true,I (oI x.val.2)),(7,true,I x.val.1)])
  (fun _=>Mm l) (fun x=>d.bls.length-x.val.1) ⟨(0,none),zA,fun _ q h=>zA,fun j h=>by cases h⟩ (fun _=>hcl _) (fun _=>zO rfl) [(2,2),(1,1),(3,3),(4,4),(5,5)] ?_ ?_
 ·exact z9
 rintro⟨⟨i,o⟩,hi,hno,hso⟩ J2 hj2
 simp only at hj2 hi hno hso⊢
 refine zB 160 ?_
 cases o with
 |some j0=>
  have hlt:decide (oI (some j0)<0)=false:=decide_eq_false (by unfold oI;simp only;omega)
  simp only[go_sem,Mm,hlt,Bool.cond_self]
  have hnx:=hso j0 rfl
  obtain⟨hj0,hr0⟩:=j8 hnx
  have hge:decide (oI (some j0)<0)=false:=hlt
  have hg2:oI (some j0)=(j0:Int):=rfl
  have hset:((vF d.bls.length l).map bC).set j0 (bC true)=(vF d.bls.length (l++[j0])).map bC:=by rw[<-cL hj0,IU]
  have hlen:(l.map nC).length=l.length:=Ku _
  have hap:List.take l.length (l.map nC)++[nC j0]=(l++[j0]).map nC:=by rw[JH zA,JT];rfl
  have hok:=hl.snoc hj0 hr0
  have hlt2:=vJ d.bls.length _ hok.1 hok.2.1
  rw[JN,List.length_singleton]at hlt2
  simp only[go_sem,hge,hg2,hset,hlen,hap]
  refine⟨⟨zA,zA⟩,by rw[Ku,vU];omega,⟨zA,zA,zA⟩,?_⟩
  have hx2:xR B d.bls.length=vW B d.bls.length (d.bls.length-(l++[j0]).length) (l++[j0]):=by
   rw[hx,JN,List.length_singleton,show d.bls.length-l.length=(d.bls.length-(l.length+1))+1 by omega,vW,hnx]
  refine hj _ _ ⟨l++[j0],hok,hx2⟩ [(2,2),(1,1),(3,161),(4,4),(5,5)] (by simp only[JN,List.length_singleton];omega) ?_
  simp only[JN,List.length_singleton]
  exact z9
 |none=>
 have hlt:oI none= -1:=rfl
 have hno:=hno rfl
 simp only[go_sem,Mm,hlt]
 refine zU (fun hc=>?_) (fun hc=>?_)
 ·have hc:i<d.bls.length:=by
   cases hd:decide ((i:Int)<(d.bls.length:Int))with
   |false=>rw[hd]at hc;cases hc
   |true=>exact zH hd
  have hg:((vF d.bls.length l).map bC)[i]?=some (bC (l.contains i)):=by rw[uo (by rw[vU];exact hc),qX hc]
  simp only[go_sem,hg]
  refine⟨⟨zA,zA⟩,?_⟩
  have f1:=zy (r:=BlL.r) (k:=6) (fun _=>rfl) d.bls i 1 hc zA
  have f3:=zy (r:=BlL.r) (k:=6) (fun _=>rfl) d.bls i 3 hc zA
  have hmem:d.bls[i]∈d.bls:=JE hc
  have hbo:=hd.bls _ hmem
  have hbl:=hlI _ hmem
  have hbi:=hin _ hmem
  have hnd:B i=tm (zQ d.c) d.ins.length d.bls[i].c:=by rw[<-hB];exact uQ hc
  have hslt:=xh d
  have hrd:ka B l i=(!l.contains i&&(B i).all fun k=>l.contains k):=rfl
  generalize d.bls[i]=b at*
  refine zG (M0:=xU d) (α:={k:Nat//k<=b.c.ins.length/\((b.c.kd==uW)=true->k=0)}) hP (fun k=>[(1,true,.c (.p 2 0)),(3,true,I d.ins.length),(4,true,.c (.sl 1 0 d.bls.length 1)),(5,true,.c (.sl 3 0 l.length 1)),(6,true,I (-1)),(7,true,I i),(8,true,Bo (bif (rx (zQ d.c) d.ins.length b.c.ins k.val).all (fun k=>l.contains k)then !l.contains i else false)),(9,true,I k.val)])
   (fun _=>Mm l) (fun k=>b.c.ins.length-k.val) ⟨0,zA,fun _=>rfl⟩ (fun _=>hcl _) (fun _=>zO rfl) [(2,2),(1,1),(3,3),(4,4),(5,5)] ?_ ?_
  ·exact z9
  rintro⟨k,hk,hk0⟩ J3 hj3
  simp only at hj3 hk hk0⊢
  refine zB 170 ?_
  simp only[go_sem,Mm,f1,f3,BlL.r,JP,Jb,JM]
  refine⟨⟨zA,zA⟩,fun h=>⟨h,h,zA,zA⟩,?_⟩
  refine zU (fun hq=>?_) (fun hq=>?_)
  ·obtain⟨hk2,hkd⟩:k<b.c.ins.length/\(b.c.kd==uW)=false:=by
    cases hd2:decide ((k:Int)<(b.c.ins.length:Int))with
    |false=>rw[hd2]at hq;cases hq
    |true=>rw[hd2,cond_true]at hq;exact⟨zH hd2,by unfold uW;simpa using hq⟩
   obtain⟨bi,oi,ci',hi1,csi,eli,mki,hci,hcci⟩:=hbo.i.at (by
    intro h0
    have:=congrArg List.length h0
    rw[uY,Ku]at this
    simp at this;rw[this]at hk2;simp at hk2)
   have hio:b.i.o=some ⟨bi,oi,none⟩:=by injection hi1
   have hx0:csi[oi+k]?=some (sv b.c.ins[k]):=hcci k _ (by rw[uY];simp[hk2])
   have hsb:=hbi b.c.ins[k] (JE hk2)
   have hfe:=ow hsb
   have hsl:=uF hsb
   have hsu:=ja (zQ d.c) d.ins.length b.c.ins k hk2
   refine Sm.dg 180 10 ze ?_
   simp only[go_sem,f3,BlL.r,JP,Jb,JM,hio]
   refine⟨⟨zA,zA⟩,?_⟩
   refine DOpQ.own 180 (Stp.idxV rfl rfl rfl jE zA zA) (vv ?_)
   refine zE 180 (fun _=>zW (hH _ _ hci) hx0 rfl rfl rfl) (vv ?_)
   refine CallQ.mem 190 (nD d b.c.ins[k] zA zA) rfl ?_ (zo d) ?_
   ·exact SubS.sub ⟨oS,oS,trivial⟩
   rw[hfe]
   generalize hsq:xv (zQ d.c) b.c.ins[k]=sq at*
   have hnn:wq (zQ d.c) d.ins.length b.c.ins[k]=if d.ins.length<=sq then[sq-d.ins.length]else[]:=by unfold wq;rw[hsq]
   rcases I4 sq d.ins.length with hlt3|hge3
   ·have hdc:decide ((d.ins.length:Int)<=(sq:Int))=false:=decide_eq_false zA
    have w3:(IntKind.i64.wrap ((sq:Int)-(d.ins.length:Int))).toNat=0:=by rw[ya zA zA];omega
    have g0:((vF d.bls.length l).map bC)[0]?=some (bC (l.contains 0)):=by rw[uo (by rw[vU];omega),qX zA]
    rw[if_neg zA]at hnn
    rw[hnn,JB]at hsu
    simp only[go_sem,hdc,w3,g0,yT (i:=k)]
    refine hj3 _ _ ⟨k+1,hk2,fun h=>(by rw[hkd]at h;cases h)⟩ [(2,2),(1,1),(3,3),(4,4),(5,5)] yF ?_
    rw[hsu]
    exact z9
   ·have hdc:decide ((d.ins.length:Int)<=(sq:Int))=true:=decide_eq_true zA
    have w3:IntKind.i64.wrap ((sq:Int)-(d.ins.length:Int))=((sq-d.ins.length:Nat):Int):=by rw[ya zA zA];omega
    have g0:((vF d.bls.length l).map bC)[sq-d.ins.length]?=some (bC (l.contains (sq-d.ins.length))):=by rw[uo (by rw[vU];omega),qX zA]
    rw[if_pos hge3]at hnn
    rw[hnn]at hsu
    have hall:(rx (zQ d.c) d.ins.length b.c.ins (k+1)).all (fun k=>l.contains k)=((rx (zQ d.c) d.ins.length b.c.ins k).all (fun k=>l.contains k)&&l.contains (sq-d.ins.length)):=by rw[hsu,List.all_append,Ky,List.all_nil,IY]
    simp only[go_sem,hdc,w3,g0]
    refine⟨⟨zA,zA⟩,?_⟩
    cases hct:l.contains (sq-d.ins.length)with
    |true=>
     rw[hct,IY]at hall
     simp only[go_sem,yT (i:=k)]
     refine hj3 _ _ ⟨k+1,hk2,fun h=>(by rw[hkd]at h;cases h)⟩ [(2,2),(1,1),(3,3),(4,4),(5,5)] yF ?_
     rw[hall]
     exact z9
    |false=>
     rw[hct,Bool.and_false]at hall
     simp only[go_sem,yT (i:=k)]
     refine hj3 _ _ ⟨k+1,hk2,fun h=>(by rw[hkd]at h;cases h)⟩ [(2,2),(1,1),(3,3),(4,4),(5,5)] yF ?_
     rw[hall]
     exact z9
  ·have hcnt:(b.c.kd==uW)=true\/k=b.c.ins.length:=by
    cases hd2:decide ((k:Int)<(b.c.ins.length:Int))with
    |false=>exact .inr (zL hk hd2)
    |true=>rw[hd2,cond_true]at hq;exact .inl (by unfold uW;simpa using hq)
   have hv:(bif (rx (zQ d.c) d.ins.length b.c.ins k).all (fun k=>l.contains k)then !l.contains i else false)=ka B l i:=by
    rw[hrd,hnd]
    unfold tm rx
    rcases hcnt with h|h
    ·rw[h,if_pos rfl,hk0 h,List.take_zero]
     simp
    ·cases hdl:b.c.kd==uW with
     |true=>
      rw[if_pos rfl,hk0 hdl,List.take_zero]
      simp
     |false=>
      rw[if_neg zc,h,Jh,Bool.and_comm]
      cases (List.flatMap (wq (zQ d.c) d.ins.length) b.c.ins).all (fun k=>l.contains k)<;>rfl
   rw[hv]
   cases hr:ka B l i with
   |true=>
    simp only[go_sem,yT (i:=i)]
    refine hj2 _ _ ⟨(i+1,some i),hc,fun h=>(by cases h),fun j h=>(by injection h with h;subst h;exact mK hc hno hr)⟩ [(2,2),(1,1),(3,3),(4,4),(5,5)] yF ?_
    exact z9
   |false=>
    simp only[go_sem,yT (i:=i)]
    refine hj2 _ _ ⟨(i+1,none),hc,fun _ q h=>?_,fun j h=>(by cases h)⟩ [(2,2),(1,1),(3,3),(4,4),(5,5)] yF z9
    rcases I4 q i with h'|h'
    ·exact hno q h'
    ·rw[show q=i by omega];exact hr
 ·have hc:i=d.bls.length:=by
   cases hd:decide ((i:Int)<(d.bls.length:Int))with
   |true=>rw[hd]at hc;cases hc
   |false=>exact zL hi hd
  subst hc
  rw[rW (j9 hno)]at hx
  rw[hx]at hR
  exact RetQ.ren [(1,3),(4,4),(5,5)] hR hP rfl xb rfl rfl ⟨⟨rfl,rfl⟩,⟨rfl,rfl⟩,trivial⟩ ⟨oV (yO (xK _)),oX,oX,trivial⟩ (zC (by simp only[JC,JD,Ky,zh (xK _),iR];rfl)) (zI rfl)
end Go.Proofs.YtkciabfilokfiaaGreat.Fx
namespace Go.Proofs.YtkciabfilokfiaaGreat.Fx
open Classical in
noncomputable def nh (B:Nat->List Nat)(N f:Nat):List Bool:=(List.range N).map fun i=>decide (Way B i f)
theorem jV (B:Nat->List Nat)(N f:Nat):(nh B N f).length=N:=by simp[nh]
theorem fi {B:Nat->List Nat}{N f i:Nat}(h:i<N):(nh B N f).getD i false=true↔Way B i f:=by
 classical
 rw[Kw,nh,JK,Ju h]
 simp
def xV (s:List Bool)(f k:Nat):Bool:=k==f||s.getD k false
def V6 (B:Nat->List Nat)(f:Nat)(s:List Bool):Prop:=∀i,s.getD i false=true->Way B i f
theorem bJ {B:Nat->List Nat}{N f:Nat}{s:List Bool}(hB:∀i,i<N->∀k∈B i,k<N)(hs:s.length=N)(h1:V6 B f s)(h2:∀i,i<N->∀k∈B i,xV s f k=true->s.getD i false=true):s=nh B N f:=by
 have key:∀i j,Way B i j->j=f->i<N->s.getD i false=true:=by
  intro i j hw
  induction hw with
  |one hk=>exact fun hj hi=>h2 _ hi _ hk (by subst hj;simp[xV])
  |more hk _ ih=>exact fun hj hi=>h2 _ hi _ hk (by unfold xV;rw[ih hj (hB _ hi _ hk),IG])
 apply List.ext_getElem (by rw[hs,jV])
 intro i hi hi2
 have e1:s[i]=s.getD i false:=by rw[Kw,Kz hi];rfl
 have e2:(nh B N f)[i]=(nh B N f).getD i false:=by rw[Kw,Kz hi2];rfl
 rw[e1,e2,JQ,fi zA]
 exact⟨h1 i,fun h=>key i f h rfl zA⟩
def qY (B:Nat->List Nat)(f i:Nat)(x:List Bool×Bool):List Bool×Bool:=bif !x.1.getD i false&&(B i).any (xV x.1 f)then(x.1.set i true,true)else x
def oU (B:Nat->List Nat)(f:Nat):List Nat->List Bool×Bool->List Bool×Bool
 |[],x=>x
 |i::l,x=>oU B f l (qY B f i x)
theorem fR {B:Nat->List Nat}{N f i:Nat}(hi:i<N)(x:List Bool×Bool)(hx:x.1.length=N)(hs:V6 B f x.1):
  (qY B f i x).1.length=N/\V6 B f (qY B f i x).1/\(((qY B f i x).2=true/\oj (qY B f i x).1<oj x.1)\/(qY B f i x=x/\∀k∈B i,xV x.1 f k=true->x.1.getD i false=true)):=by
 unfold qY
 cases hb:(!x.1.getD i false&&(B i).any (xV x.1 f))with
 |true=>
  simp only[cond_true]
  rw[JG,Iu]at hb
  obtain⟨h1,k,hk,hh⟩:=hb
  have h1:x.1.getD i false=false:=by simpa using h1
  refine⟨by rw[Jc];exact hx,fun j hj=>?_,.inl ⟨by trivial,?_⟩⟩
  ·rw[uK j zA]at hj
   split at hj
   ·rename_i he
    subst he
    unfold xV at hh
    rw[I1]at hh
    rcases hh with hh|hh
    ·have:k=f:=by simpa using hh
     subst this;exact .one hk
    ·exact .more hk (hs k hh)
   ·exact hs j hj
  ·have:=pn x.1 i zA h1
   omega
 |false=>
  simp only[cond_false]
  refine⟨hx,hs,.inr ⟨by trivial,fun k hk hh=>?_⟩⟩
  have:(B i).any (xV x.1 f)=true:=Iu.2 ⟨k,hk,hh⟩
  rw[this,IY]at hb
  simpa using hb
theorem fo {B:Nat->List Nat}{N f:Nat}:∀(l:List Nat) (x:List Bool×Bool),(∀i∈l,i<N)->x.1.length=N->V6 B f x.1->
  (oU B f l x).1.length=N/\V6 B f (oU B f l x).1/\(((oU B f l x).2=true/\oj (oU B f l x).1<oj x.1)\/(oU B f l x=x/\∀i∈l,∀k∈B i,xV x.1 f k=true->x.1.getD i false=true))
 |[],x,_,hx,hs=>⟨hx,hs,.inr ⟨rfl,zc⟩⟩
 |i::l,x,hl,hx,hs=>by
  obtain⟨h1,h2,h3⟩:=fR (f:=f) (hl i zc) x hx hs
  obtain⟨k1,k2,k3⟩:=fo l (qY B f i x) (fun j hj=>hl j (by simp[hj])) h1 h2
  unfold oU
  refine⟨k1,k2,?_⟩
  rcases h3 with⟨a,b⟩|⟨a,b⟩
  ·rcases k3 with⟨c,d⟩|⟨c,d⟩
   ·exact .inl ⟨c,zA⟩
   ·rw[c];exact .inl ⟨a,b⟩
  ·rw[a]at k3⊢
   rcases k3 with⟨c,d⟩|⟨c,d⟩
   ·exact .inl ⟨c,d⟩
   ·exact .inr ⟨c,fun j hj=>by
     rcases JZ.1 hj with rfl|hj
     ·exact b
     ·exact d j hj⟩
theorem YI {B:Nat->List Nat}{N i:Nat}(hB:∀i,i<N->∀k∈B i,k<N)(hi:i<N):(nh B N i).getD i false=gF B N i:=by
 rw[JQ,fi hi,lS hB hi]
theorem YH {B:Nat->List Nat}{N i:Nat}(hB:∀i,i<N->∀k∈B i,k<N)(hi:i<N)(h:B i=[]):gF B N i=false:=by
 cases hb:gF B N i with
 |false=>rfl
 |true=>
  have:=(lS hB hi).1 hb
  cases this with
  |one hk=>rw[h]at hk;cases hk
  |more hk _=>rw[h]at hk;cases hk
end Go.Proofs.YtkciabfilokfiaaGreat.Fx
