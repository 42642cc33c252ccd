/-  -/
import Derived.Test.YtkciabfilokfiaaGreatXH6
open Go.Proofs.Tryz
open Go.Proofs.Tryz renaming prog→Hf
set_option linter.unusedSimpArgs false
set_option linter.unusedVariables false
set_option maxRecDepth 100000
set_option maxHeartbeats 4000000
namespace Go.Proofs.YtkciabfilokfiaaGreat.Fx
open Vg Tf
def i7 (n:Int):Prop:=(dg n.natAbs).length<=1000000
theorem ns (m n:Int)(hm:i7 m)(hn:i7 n):∃p,CallOk Hf 245 [bn 1 m,bn 2 n] [bI 1 m,bI 2 n] (bn 3 (m+n)) [bO 3 (m+n) p]:=by
 by_cases hs:(m<0↔n<0)
 ·refine⟨PO m.natAbs n.natAbs,?_⟩
  have h:=Vk (decide (m<0)) m.natAbs n.natAbs hm hn
  have e1:decide (n<0)=decide (m<0):=by rw[decide_eq_decide];exact hs.symm
  have e2:(m+n).natAbs=m.natAbs+n.natAbs:=zA
  have e3:decide (m+n<0)=decide (m<0):=by rw[decide_eq_decide];omega
  simp only[bn,bO,e1,e2,e3]
  exact h
 ·have e1:decide (n<0)= !decide (m<0):=by
   by_cases h:m<0
   ·rw[decide_eq_true h,decide_eq_false zA];rfl
   ·rw[decide_eq_false h,decide_eq_true zA];rfl
  rcases I4 m.natAbs n.natAbs with hl|hl
  ·refine⟨Va n.natAbs m.natAbs,?_⟩
   have h:=Xt (decide (m<0)) m.natAbs n.natAbs hl hm hn
   have e2:(m+n).natAbs=n.natAbs-m.natAbs:=zA
   have e3:decide (m+n<0)= !decide (m<0):=by rw[<-e1,decide_eq_decide];omega
   simp only[bn,bO,e1,e2,e3]
   exact h
  ·refine⟨Va m.natAbs n.natAbs,?_⟩
   have h:=XL (decide (m<0)) m.natAbs n.natAbs hl hm hn
   have e2:(m+n).natAbs=m.natAbs-n.natAbs:=zA
   have e3:decide (m+n<0)=(decide (m<0)&&decide (m.natAbs-n.natAbs≠0)):=by
    rw[JQ,JG,decide_eq_true_eq,decide_eq_true_eq,decide_eq_true_eq];omega
   simp only[bn,bO,e1,e2,e3]
   exact h
structure MuI (a b:Nat) (i:Nat) (out:List Nat):Prop where
 len:out.length=(dg a).length+(dg b).length+1
 lt:∀d∈out,d<(16777216:Nat)
 val:yC out+(16777216:Nat)^i*yC ((dg a).drop i)*b=a*b
 bd:yC out<(16777216:Nat)^(i+(dg b).length)
 fin:i<=(dg a).length
structure MuJ (a b:Nat) (i:Nat) (T:Nat) (k c:Nat) (out:List Nat):Prop where
 len:out.length=(dg a).length+(dg b).length+1
 lt:∀d∈out,d<(16777216:Nat)
 c1:c<(16777216:Nat)
 val:yC out+(16777216:Nat)^(i+k)*(c+(dg a).getD i 0*yC ((dg b).drop k))=T
 bd:T<(16777216:Nat)^(i+(dg b).length+1)
 k1:k<=(dg b).length+1
theorem MuJ.idx {a b i T k c:Nat}{out:List Nat}(h:MuJ a b i T k c out)(hi:i<(dg a).length)(hc:k<(dg b).length\/0<c):i+k<out.length/\k<=(dg b).length:=by
 have hl:=h.len
 rcases hc with hc|hc
 ·omega
 ·have hv:=h.val
  have hb:=h.bd
  have h1:=HK ((16777216:Nat)^(i+k)) (show 1<=c+(dg a).getD i 0*yC ((dg b).drop k) by omega)
  rcases I4 (dg b).length k with hk|hk
  ·have:(16777216:Nat)^(i+(dg b).length+1)<=(16777216:Nat)^(i+k):=HG zA zA
   omega
  ·omega
theorem MuJ.step {a b i T k c:Nat}{out:List Nat}(h:MuJ a b i T k c out)(hi:i<(dg a).length)(hc:k<(dg b).length\/0<c):
  MuJ a b i T (k+1) ((out.getD (i+k) 0+(dg a).getD i 0*(dg b).getD k 0+c)/(16777216:Nat)) (out.set (i+k) ((out.getD (i+k) 0+(dg a).getD i 0*(dg b).getD k 0+c)%(16777216:Nat))):=by
 obtain⟨hx,hk⟩:=h.idx hi hc
 have hA:=ls a i
 have hB:=ls b k
 have hO:out.getD (i+k) 0<(16777216:Nat):=by
  rw[Kw,Kz hx];exact h.lt _ (JE hx)
 have hv:=h.val
 rw[xZ (dg b) k]at hv
 have hset:=iA out (i+k) ((out.getD (i+k) 0+(dg a).getD i 0*(dg b).getD k 0+c)%(16777216:Nat)) hx
 have c1:=h.c1
 generalize out.getD (i+k) 0=o at*
 generalize hX:(dg a).getD i 0=x at hA hv hset⊢
 generalize (dg b).getD k 0=y at*
 have hxy:x*y<=((16777216:Nat)-1)*((16777216:Nat)-1):=He zA zA
 have e:=Nat.mod_add_div (o+x*y+c) (16777216:Nat)
 refine⟨by rw[Jc];exact h.len,?_,?_,?_,h.bd,zA⟩
 ·intro d hd
  rcases HF hd with hd|rfl
  ·exact h.lt d hd
  ·exact Nat.mod_lt _ zA
 ·generalize x*y=z at*
  omega
 ·generalize (o+x*y+c)%(16777216:Nat)=r at*
  generalize (o+x*y+c)/(16777216:Nat)=q at*
  generalize yC ((dg b).drop (k+1))=B at*
  rw[hX,show i+(k+1)=(i+k)+1 by omega,Nat.pow_succ]
  have e2:(16777216:Nat)^(i+k)*(r+(16777216:Nat)*q)=(16777216:Nat)^(i+k)*(o+x*y+c):=by rw[e]
  have e3:(16777216:Nat)^(i+k)*(c+x*(y+(16777216:Nat)*B))=(16777216:Nat)^(i+k)*c+(16777216:Nat)^(i+k)*(x*y)+(16777216:Nat)^(i+k)*(16777216:Nat)*(x*B):=by grind
  have e4:(16777216:Nat)^(i+k)*(16777216:Nat)*(q+x*B)=(16777216:Nat)^(i+k)*(16777216:Nat)*q+(16777216:Nat)^(i+k)*(16777216:Nat)*(x*B):=by grind
  have e5:(16777216:Nat)^(i+k)*(r+(16777216:Nat)*q)=(16777216:Nat)^(i+k)*r+(16777216:Nat)^(i+k)*(16777216:Nat)*q:=by grind
  have e6:(16777216:Nat)^(i+k)*(o+x*y+c)=(16777216:Nat)^(i+k)*o+(16777216:Nat)^(i+k)*(x*y)+(16777216:Nat)^(i+k)*c:=by grind
  rw[e3]at hv
  rw[e4]
  rw[e5,e6]at e2
  omega
theorem dj {a b i:Nat}{out:List Nat}(h:MuI a b i out)(hi:i<(dg a).length):MuJ a b i (yC out+(16777216:Nat)^i*((dg a).getD i 0*b)) 0 0 out:=by
 refine⟨h.len,h.lt,zA,by simp[vO],?_,zA⟩
 have h1:=h.bd
 have hA:=ls a i
 have h2:=sd (dg b) (nH b)
 rw[vO]at h2
 have h3:(dg a).getD i 0*b<=((16777216:Nat)-1)*(16777216:Nat)^(dg b).length:=He zA zA
 have h4:=HK ((16777216:Nat)^i) h3
 have e:(16777216:Nat)^i*(((16777216:Nat)-1)*(16777216:Nat)^(dg b).length)=((16777216:Nat)-1)*(16777216:Nat)^(i+(dg b).length):=by rw[Nat.pow_add];grind
 rw[e]at h4
 rw[Nat.pow_succ]
 omega
theorem MuJ.done {a b i T k c:Nat}{out:List Nat}(h:MuJ a b i T k c out)(hc:¬(k<(dg b).length\/0<c)):yC out=T:=by
 have hv:=h.val
 rw[Jl zA,show c=0 by omega]at hv
 simpa[yC]using hv
theorem MuI.next {a b i k c:Nat}{out out':List Nat}(h:MuI a b i out)(hi:i<(dg a).length)(h':MuJ a b i (yC out+(16777216:Nat)^i*((dg a).getD i 0*b)) k c out')(hc:¬(k<(dg b).length\/0<c)):MuI a b (i+1) out':=by
 have hd:=h'.done hc
 refine⟨h'.len,h'.lt,?_,?_,zA⟩
 ·have hv:=h.val
  rw[xZ (dg a) i]at hv
  rw[hd,Nat.pow_succ,<-hv]
  generalize (dg a).getD i 0=x
  generalize yC ((dg a).drop (i+1))=A
  grind
 ·have:=h'.bd
  rw[hd,show i+1+(dg b).length=i+(dg b).length+1 by omega]
  exact this
theorem MuI.done {a b i:Nat}{out:List Nat}(h:MuI a b i out)(hi:¬i<(dg a).length):yC out=a*b:=by
 have hv:=h.val
 have hf:=h.fin
 rw[Jl zA]at hv
 simpa[yC]using hv
def PA (a b:Nat):List Nat:=List.replicate ((dg a).length+(dg b).length+1-(dg (a*b)).length) 0
theorem MuI.out {a b i:Nat}{out:List Nat}(h:MuI a b i out)(hi:¬i<(dg a).length):out=dg (a*b)++PA a b:=by
 obtain⟨k,hk⟩:=qI out h.lt
 rw[h.done hi]at hk
 have hl:=congrArg List.length hk
 rw[JN,HU,h.len]at hl
 rw[PA,show(dg a).length+(dg b).length+1-(dg (a*b)).length=k by omega]
 exact hk
theorem dl (a b:Nat):MuI a b 0 (List.replicate ((dg a).length+(dg b).length+1) 0):=by
 refine⟨zc,fun d hd=>by rw[List.eq_of_mem_replicate hd];omega,?_,?_,zA⟩
 ·rw[r7];simp[vO]
 ·rw[r7];exact Nat.pow_pos zA
@[reducible] def L8 (n i:Nat):Env:=[(2,true,.c (.p 4 0)),(3,true,.c (.p 5 0)),(4,true,.c (.p 6 0)),(5,true,sL 7 n),(6,true,I i)]
@[reducible] def L7 (n i c k:Nat):Env:=[(2,true,.c (.p 4 0)),(3,true,.c (.p 5 0)),(4,true,.c (.p 6 0)),(5,true,sL 7 n),(6,true,I i),(7,true,I c),(8,true,I k)]
theorem Za (n:Nat):vc n [Cv.v (.int .i64 0)]=(List.replicate n 0).map dC:=by
 rw[jS,List.map_replicate];rfl
theorem Vi (neg neg':Bool)(a b:Nat)(hla:(dg a).length<=1000000)(hlb:(dg b).length<=1000000):CallOk Hf 246 [bs 1 neg a,bs 2 neg' b] [xd 1 (dg a),xd 2 (dg b)] (bs 3 ((neg !=neg')&&decide (a*b≠0)) (a*b)) [(3,⟨false,(dg (a*b)++PA a b).map dC,3⟩)]:=by
 refine kN 100 func246 SB ntmps246 fun C hR hP=>?_
 have hM0:ClM [xd 1 (dg a),xd 2 (dg b)]:=zC (by simp[Cv.inM])
 have w1:IntKind.i64.wrap (((dg a).length:Int)+((dg b).length:Int))=((dg a).length:Int)+((dg b).length:Int):=ya zA zA
 have w2:IntKind.i64.wrap (((dg a).length:Int)+((dg b).length:Int)+1)=(((dg a).length+(dg b).length+1:Nat):Int):=by rw[ya zA zA];omega
 refine vv ?_
 simp only[w1,w2,Int.toNat_natCast]
 rw[Za]
 generalize hn:(dg a).length+(dg b).length+1=n at*
 refine⟨⟨zA,zA,zA⟩,?_⟩
 refine zG (M0:=[xd 1 (dg a),xd 2 (dg b)]) (α:={s:Nat×List Nat//MuI a b s.1 s.2}) hP (fun s=>L8 n s.val.1) (fun s=>P8 neg neg' a b s.val.2) (fun s=>(dg a).length-s.val.1) ⟨(0,List.replicate n 0),hn▸dl a b⟩
  (fun _=>zC (by simp[Cv.inM,Mem.get])) (fun _=>zO rfl) [(1,1),(2,2),(4,100),(5,101),(6,102),(7,103)] ?_ ?_
 ·exact⟨rfl,⟨⟨rfl,rfl⟩,⟨rfl,rfl⟩,trivial⟩,⟨rfl,rfl,rfl,rfl,rfl,trivial⟩,⟨oR,oR,oR,.inr ⟨_,rfl,.inl (zJ _ _ _ _)⟩,.inr ⟨_,rfl,.inl (zJ _ _ _ _)⟩,.inr ⟨_,rfl,.inl (zJ _ _ _ _)⟩,trivial⟩⟩
 ·rintro⟨⟨i,out⟩,hI⟩ J hb
  simp only at hb hI⊢
  have hf:=hI.fin
  refine zB 120 (vv ?_)
  by_cases hc:i<(dg a).length
  ·simp only[yV (show(i:Int)<((dg a).length:Int) by omega)]
   have wi:IntKind.i64.wrap ((i:Int)+1)=((i+1:Nat):Int):=by rw[ya zA zA];omega
   refine zG (M0:=[xd 1 (dg a),xd 2 (dg b)]) (α:={s:Nat×Nat×List Nat//MuJ a b i (yC out+(16777216:Nat)^i*((dg a).getD i 0*b)) s.1 s.2.1 s.2.2}) hP (fun s=>L7 n i s.val.2.1 s.val.1) (fun s=>P8 neg neg' a b s.val.2.2) (fun s=>(dg b).length+1-s.val.1) ⟨(0,0,out),dj hI hc⟩
    (fun _=>zC (by simp[Cv.inM,Mem.get])) (fun _=>zO rfl) [(1,1),(2,2),(4,4),(5,5),(6,6),(7,7)] ?_ ?_
   ·exact⟨rfl,⟨⟨rfl,rfl⟩,⟨rfl,rfl⟩,trivial⟩,⟨rfl,rfl,rfl,rfl,rfl,rfl,rfl,trivial⟩,⟨oR,oR,oR,.inr ⟨_,rfl,.inl (zJ _ _ _ _)⟩,.inr ⟨_,rfl,.inl (zJ _ _ _ _)⟩,.inr ⟨_,rfl,.inl (zJ _ _ _ _)⟩,trivial⟩⟩
   ·rintro⟨⟨k,c,o2⟩,hJ⟩ J' hb'
    simp only at hb' hJ⊢
    have c1:=hJ.c1
    have hl2:=hJ.len
    refine zB 120 (vv ?_)
    by_cases hk:k<(dg b).length\/0<c
    ·obtain⟨x1,x2⟩:=hJ.idx hc hk
     have e1:(bif decide ((k:Int)<((dg b).length:Int))then true else decide ((0:Int)<(c:Int)))=true:=by
      rw[Bool.cond_true_left,I1,decide_eq_true_eq,decide_eq_true_eq];omega
     simp only[e1]
     have wik:IntKind.i64.wrap ((i:Int)+(k:Int))=((i+k:Nat):Int):=by rw[ya zA zA];omega
     refine Sm.dg 120 19 ze (vv ?_)
     simp only[wik,Int.toNat_natCast,wz x1,wz hc]
     refine vv ?_
     refine⟨⟨zA,zA⟩,⟨zA,zA⟩,?_⟩
     refine DCallQ.ren [(1,2)] 120 (fF (dg b) k) (zC (by simp[Cv.inM])) rfl rfl ⟨⟨_,rfl,.inl (zJ _ _ _ _)⟩,trivial⟩ rfl (.inr rfl) rfl rfl (vv ?_)
     have hx:=ls a i
     have hy:=ls b k
     have ho:o2.getD (i+k) 0<(16777216:Nat):=by
      rw[Kw,Kz x1];exact hJ.lt _ (JE x1)
     have hst:=hJ.step hc hk
     generalize (dg a).getD i 0=x at*
     generalize (dg b).getD k 0=y at*
     generalize o2.getD (i+k) 0=o at*
     have hxy:x*y<=16777215*16777215:=He zA zA
     have w3:IntKind.i64.wrap ((x:Int)*(y:Int))=((x*y:Nat):Int):=by rw[Int.natCast_mul];exact ya (by rw[<-Int.natCast_mul];omega) (by rw[<-Int.natCast_mul];omega)
     generalize hz:x*y=z at*
     have w4:IntKind.i64.wrap ((o:Int)+(z:Int))=(o:Int)+z:=ya zA zA
     have w5:IntKind.i64.wrap ((o:Int)+(z:Int)+c)=((o+z+c:Nat):Int):=by rw[ya zA zA];omega
     have w6:((o+z+c:Nat):Int).tdiv 16777216=(((o+z+c)/(16777216:Nat):Nat):Int):=by rw[II zA];rfl
     have w7:((o+z+c:Nat):Int).tmod 16777216=(((o+z+c)%(16777216:Nat):Nat):Int):=by rw[I5 zA];rfl
     have w8:IntKind.i64.wrap (((o+z+c)/(16777216:Nat):Nat):Int)=(((o+z+c)/(16777216:Nat):Nat):Int):=ya zA zA
     have w9:IntKind.i64.wrap ((k:Int)+1)=((k+1:Nat):Int):=by rw[ya zA zA];omega
     simp only[wik,w3,w4,w5,w6,w7,w8,w9,Int.toNat_natCast]
     have hset:(List.map dC o2).set (i+k) (Cv.v (.int .i64 ((o+z+c)%(16777216:Nat):Nat)))=(o2.set (i+k) ((o+z+c)%(16777216:Nat))).map dC:=by rw[IU]
     rw[hset]
     exact⟨⟨zA,zA⟩,by simp;omega,hb' _ _ ⟨(k+1,(o+z+c)/(16777216:Nat),o2.set (i+k) ((o+z+c)%(16777216:Nat))),hst⟩ [(1,1),(2,2),(4,4),(5,5),(6,6),(7,7)] yF ⟨rfl,⟨⟨rfl,rfl⟩,⟨rfl,rfl⟩,trivial⟩,⟨rfl,rfl,rfl,rfl,rfl,rfl,rfl,trivial⟩,⟨oR,oR,oR,.inr ⟨_,rfl,.inl (zJ _ _ _ _)⟩,.inr ⟨_,rfl,.inl (zJ _ _ _ _)⟩,.inr ⟨_,rfl,.inl (zJ _ _ _ _)⟩,trivial⟩⟩⟩
    ·have e1:(bif decide ((k:Int)<((dg b).length:Int))then true else decide ((0:Int)<(c:Int)))=false:=by
      rw[Bool.cond_true_left,Bool.or_eq_false_iff,decide_eq_false_iff_not,decide_eq_false_iff_not];omega
     simp only[e1,wi]
     have hnx:=hI.next hc hJ hk
     exact hb _ _ ⟨(i+1,o2),hnx⟩ [(1,1),(2,2),(4,4),(5,5),(6,6),(7,7)] yF ⟨rfl,⟨⟨rfl,rfl⟩,⟨rfl,rfl⟩,trivial⟩,⟨rfl,rfl,rfl,rfl,rfl,trivial⟩,⟨oR,oR,oR,.inr ⟨_,rfl,.inl (zJ _ _ _ _)⟩,.inr ⟨_,rfl,.inl (zJ _ _ _ _)⟩,.inr ⟨_,rfl,.inl (zJ _ _ _ _)⟩,trivial⟩⟩
  ·simp only[yd (show ¬(i:Int)<((dg a).length:Int) by omega)]
   have ho:=hI.out hc
   have hv:=hI.done hc
   have hl1:=hI.len
   have htr:=cI out hI.lt zA
   rw[hl1,hv,hn]at htr
   refine CallQ.ren [(1,7)] 120 htr (zC (by simp[Cv.inM])) rfl rfl ⟨⟨_,rfl,.inr ⟨rfl,[],by simp[Bk.ren,Function.comp_def,Cv.ren]⟩⟩,trivial⟩ rfl (.inr rfl) (vv ?_)
   have hz:=lr (a*b)
   have en:(bif neg !=neg' then decide ((0:Int)<((dg (a*b)).length:Int))else false)=((neg !=neg')&&decide (a*b≠0)):=by
    generalize (neg !=neg')=s
    cases s
    ·rfl
    ·show decide ((0:Int)<((dg (a*b)).length:Int))=(true&&decide (a*b≠0))
     rw[Je,decide_eq_decide]
     generalize a*b=ab at*
     omega
   simp only[en]
   exact RetQ.ren [(1,1),(2,2),(3,7)] hR hP rfl (vv trivial) rfl rfl ⟨⟨rfl,rfl⟩,⟨rfl,rfl⟩,trivial⟩ ⟨.inr ⟨_,rfl,.inl (by rw[zJ,ho])⟩,.inr ⟨_,rfl,.inl (zJ _ _ _ _)⟩,.inr ⟨_,rfl,.inl (zJ _ _ _ _)⟩,trivial⟩ (zC (by simp[Cv.inM])) (zI rfl)
theorem ur (m n:Int)(hm:i7 m)(hn:i7 n):∃p,CallOk Hf 246 [bn 1 m,bn 2 n] [bI 1 m,bI 2 n] (bn 3 (m*n)) [bO 3 (m*n) p]:=by
 refine⟨PA m.natAbs n.natAbs,?_⟩
 have h:=Vi (decide (m<0)) (decide (n<0)) m.natAbs n.natAbs hm hn
 have e2:(m*n).natAbs=m.natAbs*n.natAbs:=Int.natAbs_mul m n
 have e3:decide (m*n<0)=((decide (m<0)!=decide (n<0))&&decide (m.natAbs*n.natAbs≠0)):=by
  rw[<-e2]
  by_cases h1:m<0
  ·by_cases h2:n<0
   ·have:=Int.mul_pos_of_neg_of_neg h1 h2
    rw[decide_eq_true h1,decide_eq_true h2,decide_eq_false zA];rfl
   ·rcases HJ 0 n with h3|h3
    ·have:=Int.mul_neg_of_neg_of_pos h1 h3
     rw[decide_eq_true h1,decide_eq_false h2,decide_eq_true this,decide_eq_true zA];rfl
    ·have h0:n=0:=zA
     subst h0;simp
  ·by_cases h2:n<0
   ·rcases HJ 0 m with h3|h3
    ·have:=Int.mul_neg_of_pos_of_neg h3 h2
     rw[decide_eq_false h1,decide_eq_true h2,decide_eq_true this,decide_eq_true zA];rfl
    ·have h0:m=0:=zA
     subst h0;simp
   ·have:=Ih (show 0<=m by omega) (show 0<=n by omega)
    rw[decide_eq_false h1,decide_eq_false h2,decide_eq_false zA];rfl
 simp only[bn,bO,e2,e3]
 exact h
theorem r8 (m:Int)(p:List Nat):Wk (⟨true,(dg m.natAbs).map dC,3⟩:Bk) ⟨false,(dg m.natAbs++p).map dC,3⟩:= .inr ⟨rfl,p.map dC,zc⟩
theorem pf {f:FuncId}{m n r:Int}{p:List Nat}(p1 p2:List Nat)(h:CallOk Hf f [bn 1 m,bn 2 n] [bI 1 m,bI 2 n] (bn 3 r) [bO 3 r p]):CallOk Hf f [bn 1 m,bn 2 n] [bO 1 m p1,bO 2 n p2] (bn 3 r) [bO 3 r p,bO 1 m p1,bO 2 n p2]:=by
 refine h.touch (K:=[bO 1 m p1,bO 2 n p2]) ?_ (SubS.sub ⟨⟨_,rfl,r8 _ _⟩,⟨_,rfl,r8 _ _⟩,trivial⟩) (zC (by simp[Cv.inM])) ?_ ?_ ?_
 all_goals (intro n;simp only[Mem.get];grind)
theorem my {f:FuncId}{m n r:Int}{p:List Nat}(p1:List Nat)(h:CallOk Hf f [bn 1 m,bn 2 n] [bI 1 m,bI 2 n] (bn 3 r) [bO 3 r p]):CallOk Hf f [bn 1 m,bn 2 n] [bO 1 m p1,bI 2 n] (bn 3 r) [bO 3 r p,bO 1 m p1]:=by
 refine h.touch (K:=[bO 1 m p1]) ?_ (SubS.sub ⟨⟨_,rfl,r8 _ _⟩,oS,trivial⟩) (zC (by simp[Cv.inM])) ?_ ?_ ?_
 all_goals (intro n;simp only[Mem.get];grind)
theorem mz {f:FuncId}{m n r:Int}{p:List Nat}(p2:List Nat)(h:CallOk Hf f [bn 1 m,bn 2 n] [bI 1 m,bI 2 n] (bn 3 r) [bO 3 r p]):CallOk Hf f [bn 1 m,bn 2 n] [bI 1 m,bO 2 n p2] (bn 3 r) [bO 3 r p,bO 2 n p2]:=by
 refine h.touch (K:=[bO 2 n p2]) ?_ (SubS.sub ⟨oS,⟨_,rfl,r8 _ _⟩,trivial⟩) (zC (by simp[Cv.inM])) ?_ ?_ ?_
 all_goals (intro n;simp only[Mem.get];grind)
theorem cK {f:FuncId}{m:Int}{v:V}(p1:List Nat)(h:CallOk Hf f [bn 1 m] [bI 1 m] v []):CallOk Hf f [bn 1 m] [bO 1 m p1] v [bO 1 m p1]:=by
 refine h.touch (K:=[bO 1 m p1]) ?_ (SubS.sub ⟨⟨_,rfl,r8 _ _⟩,trivial⟩) (zC (by simp[Cv.inM])) ?_ ?_ ?_
 all_goals (intro n;simp only[Mem.get];grind)
theorem xF {m:Int}(h1: -1606938044258990275541962092341162602522202993782792835301376<=m)(h2:m<=1606938044258990275541962092341162602522202993782792835301376):i7 m:=by
 have:=jq m.natAbs 9 zA
 unfold i7
 omega
@[go_sem] def bW (nm:Nat)(n:Int):W:= .agg [.v (.bool (decide (n<0))),.sl nm 0 (dg n.natAbs).length 1]
theorem nr (t:Ft)(r:Int)(h:yE t=true)(hw:fin t r=true):CallOk Hf 226 [fx t,I r] [] (.tup [bW 1 (yq t r),bW 2 t.den]) [bO 1 (yq t r) [],bO 2 t.den []]:=by
 have hb:=xy h hw
 have hf:=xC h
 refine kN 100 func226 ST ntmps226 fun C hR hP=>?_
 refine vv ?_
 refine Sm.dg 110 10 ze (vv ?_)
 have w1:IntKind.i64.wrap (r*t.num)=r*t.num:=by unfold yq at hb;exact ya zA zA
 have w2:IntKind.i64.wrap (r*t.num+t.off)=yq t r:=by unfold yq at hb⊢;exact ya zA zA
 simp only[w1,w2]
 refine DCallQ.ren [(1,110)] 111 (kh (yq t r) zA zA) (zC (by simp[Cv.inM])) rfl rfl trivial rfl (.inl rfl) rfl rfl ?_
 simp only[Mem.ren,Kv,Kx,Bk.ren,JJ,V.ren,W.ren,Cv.ren,rn,Nat.reduceBEq,cond_true,cond_false,Function.comp_def]
 refine vv ?_
 refine CallQ.ren [(1,111)] 112 (kh t.den zA zA) (zC (by simp[Cv.inM])) rfl rfl trivial rfl (.inl rfl) ?_
 simp only[Mem.ren,Kv,Kx,Bk.ren,JJ,V.ren,W.ren,Cv.ren,rn,Nat.reduceBEq,cond_true,cond_false,Function.comp_def]
 refine vv ?_
 exact RetQ.ren [(1,110),(2,111)] hR hP rfl (vv trivial) rfl rfl trivial ⟨.inr ⟨_,rfl,.inl (zJ _ _ _ _)⟩,.inr ⟨_,rfl,.inl (zJ _ _ _ _)⟩,trivial⟩ (zC (by simp[Cv.inM])) (zI rfl)
theorem xD (L:List (Nat×Nat))(m:Int)(p:List Nat):Wk ((⟨true,(dg m.natAbs).map dC,3⟩:Bk).ren (rn L)) ⟨false,(dg m.natAbs++p).map dC,3⟩:=by rw[zJ];exact r8 m p
theorem ge (L:List (Nat×Nat))(m:Int)(p:List Nat):Wk ((⟨true,(dg (-m).natAbs).map dC,3⟩:Bk).ren (rn L)) ⟨false,(dg m.natAbs++p).map dC,3⟩:=by rw[HT];exact xD L m p
theorem xX {m:Int}(h1: -20282419275553370000000000000000<=m)(h2:m<=20282419275553370000000000000000):i7 m:=xF zA zA
def Yi (n:Int):Int:=if n=0 then 0 else if n<0 then-1 else 1
theorem eo (a:Ft)(x:Int)(b:Ft)(y:Int)(ha:yE a=true)(hx:fin a x=true)(hb:yE b=true)(hy:fin b y=true):
  CallOk Hf 243 [va a x,va b y] [] (I (Yi (yq a x*b.den-yq b y*a.den))) []:=by
 have h1:=xy ha hx
 have h2:=xy hb hy
 have hf:=xC ha
 have hg:=xC hb
 have p1:=xT (a:=yq a x) (b:=b.den) (A:=4503600701112320) (B:=1048576) zA zA zA zA
 have p2:=xT (a:=yq b y) (b:=a.den) (A:=4503600701112320) (B:=1048576) zA zA zA zA
 refine kN 100 func243 SD ntmps243 fun C hR hP=>?_
 refine vv ?_
 refine CallQ.ren [(1,110),(2,111)] 112 (nr a x ha hx) (zC (by simp[Cv.inM])) rfl rfl trivial rfl (.inl rfl) ?_
 simp only[Mem.ren,Kv,Kx,Bk.ren,JJ,V.ren,W.ren,Cv.ren,rn,Nat.reduceBEq,cond_true,cond_false,Function.comp_def]
 refine vv ?_
 refine CallQ.ren [(1,120),(2,121)] 122 (nr b y hb hy) (zC (by simp[Cv.inM])) rfl rfl trivial rfl (.inl rfl) ?_
 simp only[Mem.ren,Kv,Kx,Bk.ren,JJ,V.ren,W.ren,Cv.ren,rn,Nat.reduceBEq,cond_true,cond_false,Function.comp_def]
 refine vv ?_
 refine Sm.dg 130 5 ze (vv ?_)
 obtain⟨q1,m1⟩:=ur (yq a x) b.den (xX zA zA) (xX zA zA)
 obtain⟨q2,m2⟩:=ur (yq b y) a.den (xX zA zA) (xX zA zA)
 generalize hP1:yq a x*b.den=P1 at*
 generalize hP2:yq b y*a.den=P2 at*
 obtain⟨q3,m3⟩:=ns P1 (-P2) (xX zA zA) (xX zA zA)
 refine DCallQ.ren [(1,110),(2,121),(3,130)] 131 m1 (zC (by simp[Cv.inM])) rfl rfl ⟨⟨_,rfl,xD _ _ _⟩,⟨_,rfl,xD _ _ _⟩,trivial⟩ rfl (.inl rfl) rfl rfl ?_
 simp only[Mem.ren,Kv,Kx,Bk.ren,JJ,V.ren,W.ren,Cv.ren,rn,Nat.reduceBEq,cond_true,cond_false,Function.comp_def]
 refine vv ?_
 refine CallQ.ren [(1,120),(2,111),(3,131)] 132 m2 (zC (by simp[Cv.inM])) rfl rfl ⟨⟨_,rfl,xD _ _ _⟩,⟨_,rfl,xD _ _ _⟩,trivial⟩ rfl (.inl rfl) ?_
 simp only[Mem.ren,Kv,Kx,Bk.ren,JJ,V.ren,W.ren,Cv.ren,rn,Nat.reduceBEq,cond_true,cond_false,Function.comp_def]
 refine vv ?_
 refine CallQ.ren [(1,131)] 132 (tK P2) (zC (by simp[Cv.inM])) rfl rfl ⟨⟨_,rfl,by simp only[zJ];exact r8 _ _⟩,trivial⟩ rfl (.inl rfl) ?_
 simp only[Mem.ren,Kv,Kx,Bk.ren,JJ,V.ren,W.ren,Cv.ren,rn,Nat.reduceBEq,cond_true,cond_false,Function.comp_def]
 refine vv ?_
 refine CallQ.ren [(1,130),(2,131),(3,132)] 133 m3 (zC (by simp[Cv.inM])) rfl rfl ⟨⟨_,rfl,xD _ _ _⟩,⟨_,rfl,ge _ _ _⟩,trivial⟩ rfl (.inl rfl) ?_
 simp only[Mem.ren,Kv,Kx,Bk.ren,JJ,V.ren,W.ren,Cv.ren,rn,Nat.reduceBEq,cond_true,cond_false,Function.comp_def]
 refine vv ?_
 refine CallQ.ren [(1,132)] 133 (dx (P1+ -P2)) (zC (by simp[Cv.inM])) rfl rfl ⟨⟨_,rfl,xD _ _ _⟩,trivial⟩ rfl (.inl rfl) ?_
 simp only[Mem.ren,Kv,Kx,Bk.ren,JJ,V.ren,W.ren,Cv.ren,rn,Nat.reduceBEq,cond_true,cond_false,Function.comp_def]
 refine vv ?_
 exact RetQ.int hR rfl ⟨rfl,trivial⟩ (by rw[<-Int.sub_eq_add_neg];rfl)
theorem ZS (op p q r s:Int)(ho1:1<=op)(ho2:op<=4)(bp1: -4503600701112320<=p)(bp2:p<=4503600701112320)(bq1:1<=q)(bq2:q<=1048576)(br1: -4503600701112320<=r)(br2:r<=4503600701112320)(bs1:1<=s)(bs2:s<=1048576):
  ∃l1 l2,CallOk Hf 252 [I op,bn 1 p,bn 2 q,bn 3 r,bn 4 s] [bI 1 p,bI 2 q,bI 3 r,bI 4 s] (.tup [bW 5 (cN op p q r s),bW 6 (cD op p q r s)]) [bO 5 (cN op p q r s) l1,bO 6 (cD op p q r s) l2]:=by
 have hM0:ClM [bI 1 p,bI 2 q,bI 3 r,bI 4 s]:=zC (by simp[Cv.inM])
 obtain⟨q1,m1⟩:=ur p s (xX zA zA) (xX zA zA)
 obtain⟨q2,m2⟩:=ur r q (xX zA zA) (xX zA zA)
 obtain⟨q3,m3⟩:=ur q s (xX zA zA) (xX zA zA)
 obtain⟨q4,m4⟩:=ur p r (xX zA zA) (xX zA zA)
 obtain⟨q5,m5⟩:=ur q r (xX zA zA) (xX zA zA)
 have p1:=xT (a:=p) (b:=s) (A:=4503600701112320) (B:=1048576) zA zA zA zA
 have p2:=xT (a:=r) (b:=q) (A:=4503600701112320) (B:=1048576) zA zA zA zA
 obtain⟨q6,m6⟩:=ns (p*s) (r*q) (xX zA zA) (xX zA zA)
 obtain⟨q7,m7⟩:=ns (p*s) (-(r*q)) (xX zA zA) (xX zA zA)
 rcases(show op=1\/op=2\/op=3\/op=4 by omega)with rfl|rfl|rfl|rfl
 ·refine⟨q6,q3,?_⟩
  have eN:cN 1 p q r s=p*s+r*q:=by simp[cN]
  have eD:cD 1 p q r s=q*s:=by simp[cD]
  rw[eN,eD]
  refine kN 100 func252 jm ntmps252 fun C hR hP=>?_
  refine vv ?_
  refine Sm.dg 120 9 ze (vv ?_)
  refine DCallQ.ren [(1,1),(2,4),(3,120)] 121 m1 (zC (by simp[Cv.inM])) rfl rfl ⟨⟨_,rfl,.inl (zJ _ _ _ _)⟩,⟨_,rfl,.inl (zJ _ _ _ _)⟩,trivial⟩ rfl (.inl rfl) rfl rfl ?_
  simp only[Mem.ren,Kv,Kx,Bk.ren,JJ,V.ren,W.ren,Cv.ren,rn,Nat.reduceBEq,cond_true,cond_false,Function.comp_def]
  refine vv ?_
  refine DCallQ.ren [(1,3),(2,2),(3,121)] 122 m2 (zC (by simp[Cv.inM])) rfl rfl ⟨⟨_,rfl,.inl (zJ _ _ _ _)⟩,⟨_,rfl,.inl (zJ _ _ _ _)⟩,trivial⟩ rfl (.inl rfl) rfl rfl ?_
  simp only[Mem.ren,Kv,Kx,Bk.ren,JJ,V.ren,W.ren,Cv.ren,rn,Nat.reduceBEq,cond_true,cond_false,Function.comp_def]
  refine vv ?_
  refine yp [(1,120),(2,121),(3,122)] [bO 120 (p*s) q1,bO 121 (r*q) q2] 123 (pf q1 q2 m6) (zC (by simp[Cv.inM])) rfl rfl ⟨⟨_,rfl,.inl (zJ _ _ _ _)⟩,⟨_,rfl,.inl (zJ _ _ _ _)⟩,trivial⟩ rfl (.inl rfl) ⟨⟨rfl,rfl⟩,⟨rfl,rfl⟩,trivial⟩ rfl rfl ?_
  simp only[Mem.ren,Kv,Kx,Bk.ren,JJ,V.ren,W.ren,Cv.ren,rn,Nat.reduceBEq,cond_true,cond_false,Function.comp_def]
  refine vv ?_
  refine CallQ.ren [(1,2),(2,4),(3,123)] 124 m3 (zC (by simp[Cv.inM])) rfl rfl ⟨⟨_,rfl,.inl (zJ _ _ _ _)⟩,⟨_,rfl,.inl (zJ _ _ _ _)⟩,trivial⟩ rfl (.inl rfl) ?_
  simp only[Mem.ren,Kv,Kx,Bk.ren,JJ,V.ren,W.ren,Cv.ren,rn,Nat.reduceBEq,cond_true,cond_false,Function.comp_def]
  refine vv ?_
  exact RetQ.ren [(1,1),(2,2),(3,3),(4,4),(5,122),(6,123)] hR hP rfl (vv trivial) rfl rfl ⟨⟨rfl,rfl⟩,⟨rfl,rfl⟩,⟨rfl,rfl⟩,⟨rfl,rfl⟩,trivial⟩ ⟨.inr ⟨_,rfl,.inl (zJ _ _ _ _)⟩,.inr ⟨_,rfl,.inl (zJ _ _ _ _)⟩,.inr ⟨_,rfl,.inl (zJ _ _ _ _)⟩,.inr ⟨_,rfl,.inl (zJ _ _ _ _)⟩,.inr ⟨_,rfl,.inl (zJ _ _ _ _)⟩,.inr ⟨_,rfl,.inl (zJ _ _ _ _)⟩,trivial⟩ (zC (by simp[Cv.inM])) (zI rfl)
 ·refine⟨q7,q3,?_⟩
  have eN:cN 2 p q r s=p*s+ -(r*q):=by simp[cN];omega
  have eD:cD 2 p q r s=q*s:=by simp[cD]
  rw[eN,eD]
  refine kN 100 func252 jm ntmps252 fun C hR hP=>?_
  refine vv ?_
  refine Sm.dg 120 10 ze (vv ?_)
  refine DCallQ.ren [(1,1),(2,4),(3,120)] 121 m1 (zC (by simp[Cv.inM])) rfl rfl ⟨⟨_,rfl,.inl (zJ _ _ _ _)⟩,⟨_,rfl,.inl (zJ _ _ _ _)⟩,trivial⟩ rfl (.inl rfl) rfl rfl ?_
  simp only[Mem.ren,Kv,Kx,Bk.ren,JJ,V.ren,W.ren,Cv.ren,rn,Nat.reduceBEq,cond_true,cond_false,Function.comp_def]
  refine vv ?_
  refine DCallQ.ren [(1,3),(2,2),(3,121)] 122 m2 (zC (by simp[Cv.inM])) rfl rfl ⟨⟨_,rfl,.inl (zJ _ _ _ _)⟩,⟨_,rfl,.inl (zJ _ _ _ _)⟩,trivial⟩ rfl (.inl rfl) rfl rfl ?_
  simp only[Mem.ren,Kv,Kx,Bk.ren,JJ,V.ren,W.ren,Cv.ren,rn,Nat.reduceBEq,cond_true,cond_false,Function.comp_def]
  refine vv ?_
  refine yp [(1,121)] [bO 121 (r*q) q2] 122 (cK q2 (tK (r*q))) (zC (by simp[Cv.inM])) rfl rfl ⟨⟨_,rfl,.inl (zJ _ _ _ _)⟩,trivial⟩ rfl (.inl rfl) ⟨⟨rfl,rfl⟩,trivial⟩ rfl rfl ?_
  simp only[Mem.ren,Kv,Kx,Bk.ren,JJ,V.ren,W.ren,Cv.ren,rn,Nat.reduceBEq,cond_true,cond_false,Function.comp_def]
  refine vv ?_
  refine yp [(1,120),(2,121),(3,122)] [bO 120 (p*s) q1,bO 121 (r*q) q2] 123 (pf q1 q2 m7) (zC (by simp[Cv.inM])) rfl rfl ⟨⟨_,rfl,.inl (zJ _ _ _ _)⟩,⟨_,rfl,.inl (by rw[zJ,HT])⟩,trivial⟩ rfl (.inl rfl) ⟨⟨rfl,rfl⟩,⟨rfl,rfl⟩,trivial⟩ rfl rfl ?_
  simp only[Mem.ren,Kv,Kx,Bk.ren,JJ,V.ren,W.ren,Cv.ren,rn,Nat.reduceBEq,cond_true,cond_false,Function.comp_def]
  refine vv ?_
  refine CallQ.ren [(1,2),(2,4),(3,123)] 124 m3 (zC (by simp[Cv.inM])) rfl rfl ⟨⟨_,rfl,.inl (zJ _ _ _ _)⟩,⟨_,rfl,.inl (zJ _ _ _ _)⟩,trivial⟩ rfl (.inl rfl) ?_
  simp only[Mem.ren,Kv,Kx,Bk.ren,JJ,V.ren,W.ren,Cv.ren,rn,Nat.reduceBEq,cond_true,cond_false,Function.comp_def]
  refine vv ?_
  exact RetQ.ren [(1,1),(2,2),(3,3),(4,4),(5,122),(6,123)] hR hP rfl (vv trivial) rfl rfl ⟨⟨rfl,rfl⟩,⟨rfl,rfl⟩,⟨rfl,rfl⟩,⟨rfl,rfl⟩,trivial⟩ ⟨.inr ⟨_,rfl,.inl (zJ _ _ _ _)⟩,.inr ⟨_,rfl,.inl (zJ _ _ _ _)⟩,.inr ⟨_,rfl,.inl (zJ _ _ _ _)⟩,.inr ⟨_,rfl,.inl (zJ _ _ _ _)⟩,.inr ⟨_,rfl,.inl (zJ _ _ _ _)⟩,.inr ⟨_,rfl,.inl (zJ _ _ _ _)⟩,trivial⟩ (zC (by simp[Cv.inM])) (zI rfl)
 ·refine⟨q4,q3,?_⟩
  have eN:cN 3 p q r s=p*r:=by simp[cN]
  have eD:cD 3 p q r s=q*s:=by simp[cD]
  rw[eN,eD]
  refine kN 100 func252 jm ntmps252 fun C hR hP=>?_
  refine vv ?_
  refine Sm.dg 120 5 ze (vv ?_)
  refine DCallQ.ren [(1,1),(2,3),(3,120)] 121 m4 (zC (by simp[Cv.inM])) rfl rfl ⟨⟨_,rfl,.inl (zJ _ _ _ _)⟩,⟨_,rfl,.inl (zJ _ _ _ _)⟩,trivial⟩ rfl (.inl rfl) rfl rfl ?_
  simp only[Mem.ren,Kv,Kx,Bk.ren,JJ,V.ren,W.ren,Cv.ren,rn,Nat.reduceBEq,cond_true,cond_false,Function.comp_def]
  refine vv ?_
  refine CallQ.ren [(1,2),(2,4),(3,121)] 122 m3 (zC (by simp[Cv.inM])) rfl rfl ⟨⟨_,rfl,.inl (zJ _ _ _ _)⟩,⟨_,rfl,.inl (zJ _ _ _ _)⟩,trivial⟩ rfl (.inl rfl) ?_
  simp only[Mem.ren,Kv,Kx,Bk.ren,JJ,V.ren,W.ren,Cv.ren,rn,Nat.reduceBEq,cond_true,cond_false,Function.comp_def]
  refine vv ?_
  exact RetQ.ren [(1,1),(2,2),(3,3),(4,4),(5,120),(6,121)] hR hP rfl (vv trivial) rfl rfl ⟨⟨rfl,rfl⟩,⟨rfl,rfl⟩,⟨rfl,rfl⟩,⟨rfl,rfl⟩,trivial⟩ ⟨.inr ⟨_,rfl,.inl (zJ _ _ _ _)⟩,.inr ⟨_,rfl,.inl (zJ _ _ _ _)⟩,.inr ⟨_,rfl,.inl (zJ _ _ _ _)⟩,.inr ⟨_,rfl,.inl (zJ _ _ _ _)⟩,.inr ⟨_,rfl,.inl (zJ _ _ _ _)⟩,.inr ⟨_,rfl,.inl (zJ _ _ _ _)⟩,trivial⟩ (zC (by simp[Cv.inM])) (zI rfl)
 ·refine⟨q1,q5,?_⟩
  rw[IZ r q]at p2
  by_cases hd:q*r<0
  ·have eN:cN 4 p q r s= -(p*s):=by simp[cN,IZ r q,hd]
   have eD:cD 4 p q r s= -(q*r):=by simp[cD,IZ r q,hd]
   rw[eN,eD]
   refine kN 100 func252 jm ntmps252 fun C hR hP=>?_
   refine vv ?_
   refine Sm.dg 120 8 ze (vv ?_)
   refine DCallQ.ren [(1,1),(2,4),(3,120)] 121 m1 (zC (by simp[Cv.inM])) rfl rfl ⟨⟨_,rfl,.inl (zJ _ _ _ _)⟩,⟨_,rfl,.inl (zJ _ _ _ _)⟩,trivial⟩ rfl (.inl rfl) rfl rfl ?_
   simp only[Mem.ren,Kv,Kx,Bk.ren,JJ,V.ren,W.ren,Cv.ren,rn,Nat.reduceBEq,cond_true,cond_false,Function.comp_def]
   refine vv ?_
   refine DCallQ.ren [(1,2),(2,3),(3,121)] 122 m5 (zC (by simp[Cv.inM])) rfl rfl ⟨⟨_,rfl,.inl (zJ _ _ _ _)⟩,⟨_,rfl,.inl (zJ _ _ _ _)⟩,trivial⟩ rfl (.inl rfl) rfl rfl ?_
   simp only[Mem.ren,Kv,Kx,Bk.ren,JJ,V.ren,W.ren,Cv.ren,rn,Nat.reduceBEq,cond_true,cond_false,Function.comp_def]
   refine vv ?_
   simp only[yV hd]
   have hz:=tK (q*r)
   simp only[bn,yV hd]at hz
   refine Sm.dg 130 3 ze (vv ?_)
   refine DCallQ.ren [(1,120)] 131 (tK (p*s)) (zC (by simp[Cv.inM])) rfl rfl ⟨⟨_,rfl,xD _ _ _⟩,trivial⟩ rfl (.inl rfl) rfl rfl ?_
   simp only[Mem.ren,Kv,Kx,Bk.ren,JJ,V.ren,W.ren,Cv.ren,rn,Nat.reduceBEq,cond_true,cond_false,Function.comp_def]
   refine vv ?_
   refine CallQ.ren [(1,121)] 131 hz (zC (by simp[Cv.inM])) rfl rfl ⟨⟨_,rfl,xD _ _ _⟩,trivial⟩ rfl (.inl rfl) ?_
   simp only[Mem.ren,Kv,Kx,Bk.ren,JJ,V.ren,W.ren,Cv.ren,rn,Nat.reduceBEq,cond_true,cond_false,Function.comp_def]
   refine vv ?_
   exact RetQ.ren [(1,1),(2,2),(3,3),(4,4),(5,120),(6,121)] hR hP rfl (vv trivial) rfl rfl ⟨⟨rfl,rfl⟩,⟨rfl,rfl⟩,⟨rfl,rfl⟩,⟨rfl,rfl⟩,trivial⟩ ⟨.inr ⟨_,rfl,.inl (by rw[zJ,HT])⟩,.inr ⟨_,rfl,.inl (by rw[zJ,HT])⟩,.inr ⟨_,rfl,.inl (zJ _ _ _ _)⟩,.inr ⟨_,rfl,.inl (zJ _ _ _ _)⟩,.inr ⟨_,rfl,.inl (zJ _ _ _ _)⟩,.inr ⟨_,rfl,.inl (zJ _ _ _ _)⟩,trivial⟩ (zC (by simp[Cv.inM])) (zI rfl)
  ·have eN:cN 4 p q r s=p*s:=by simp[cN,IZ r q,hd]
   have eD:cD 4 p q r s=q*r:=by simp[cD,IZ r q,hd]
   rw[eN,eD]
   refine kN 100 func252 jm ntmps252 fun C hR hP=>?_
   refine vv ?_
   refine Sm.dg 120 8 ze (vv ?_)
   refine DCallQ.ren [(1,1),(2,4),(3,120)] 121 m1 (zC (by simp[Cv.inM])) rfl rfl ⟨⟨_,rfl,.inl (zJ _ _ _ _)⟩,⟨_,rfl,.inl (zJ _ _ _ _)⟩,trivial⟩ rfl (.inl rfl) rfl rfl ?_
   simp only[Mem.ren,Kv,Kx,Bk.ren,JJ,V.ren,W.ren,Cv.ren,rn,Nat.reduceBEq,cond_true,cond_false,Function.comp_def]
   refine vv ?_
   refine DCallQ.ren [(1,2),(2,3),(3,121)] 122 m5 (zC (by simp[Cv.inM])) rfl rfl ⟨⟨_,rfl,.inl (zJ _ _ _ _)⟩,⟨_,rfl,.inl (zJ _ _ _ _)⟩,trivial⟩ rfl (.inl rfl) rfl rfl ?_
   simp only[Mem.ren,Kv,Kx,Bk.ren,JJ,V.ren,W.ren,Cv.ren,rn,Nat.reduceBEq,cond_true,cond_false,Function.comp_def]
   refine vv ?_
   simp only[yd hd]
   simp only[bW,yd hd]at hR
   refine Sm.dgW [104] 130 3 ze (vv ?_)
   exact RetQ.ren [(1,1),(2,2),(3,3),(4,4),(5,120),(6,121)] hR hP rfl (vv trivial) rfl rfl ⟨⟨rfl,rfl⟩,⟨rfl,rfl⟩,⟨rfl,rfl⟩,⟨rfl,rfl⟩,trivial⟩ ⟨.inr ⟨_,rfl,.inl (zJ _ _ _ _)⟩,.inr ⟨_,rfl,.inl (zJ _ _ _ _)⟩,.inr ⟨_,rfl,.inl (zJ _ _ _ _)⟩,.inr ⟨_,rfl,.inl (zJ _ _ _ _)⟩,.inr ⟨_,rfl,.inl (zJ _ _ _ _)⟩,.inr ⟨_,rfl,.inl (zJ _ _ _ _)⟩,trivial⟩ (zC (by simp[Cv.inM])) (zI rfl)
end Go.Proofs.YtkciabfilokfiaaGreat.Fx
