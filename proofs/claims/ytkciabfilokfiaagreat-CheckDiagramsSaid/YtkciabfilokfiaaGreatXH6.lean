/-  -/
import Derived.Test.YtkciabfilokfiaaGreatQL
open Go.Proofs.Tryz
open Go.Proofs.Tryz renaming prog→Hf
set_option linter.unusedSimpArgs false
set_option linter.unusedVariables false
set_option maxRecDepth 100000
set_option maxHeartbeats 2000000
namespace Go.Proofs.YtkciabfilokfiaaGreat.Fx
open Vg Tf
def yC:List Nat->Nat
 |[]=>0
 |d::r=>d+(16777216:Nat)*yC r
def dg (n:Nat):List Nat:=if h:n=0 then[]else n%(16777216:Nat)::dg (n/(16777216:Nat))
termination_by n
decreasing_by exact H9 zA yg
theorem tY:dg 0=[]:=by rw[dg];rfl
theorem r6 {n:Nat}(h:n≠0):dg n=n%(16777216:Nat)::dg (n/(16777216:Nat)):=by rw[dg,dif_neg h]
theorem vO (n:Nat):yC (dg n)=n:=by
 induction n using Nat.strongRecOn with
 |ind n ih=>
  by_cases h:n=0
  ·subst h;rw[tY];rfl
  ·rw[r6 h,yC,ih _ (H9 zA yg)]
   exact Nat.mod_add_div n (16777216:Nat)
theorem nH (n:Nat):∀d∈dg n,d<(16777216:Nat):=by
 induction n using Nat.strongRecOn with
 |ind n ih=>
  by_cases h:n=0
  ·subst h;rw[tY];simp
  ·rw[r6 h]
   intro d hd
   rcases JZ.1 hd with rfl|hd
   ·exact Nat.mod_lt _ yg
   ·exact ih _ (H9 zA yg) d hd
theorem xZ (l:List Nat):∀i,yC (l.drop i)=l.getD i 0+(16777216:Nat)*yC (l.drop (i+1)):=by
 induction l with
 |nil=>intro i;simp[yC]
 |cons a l ih=>
  intro i
  cases i with
  |zero=>simp[yC]
  |succ i=>simpa using ih i
theorem wc (l r:List Nat):yC (l++r)=yC l+(16777216:Nat)^l.length*yC r:=by
 induction l with
 |nil=>simp[yC]
 |cons a l ih=>simp only[JC,yC,ih,JR,Nat.pow_succ];grind
theorem sd:∀(l:List Nat),(∀d∈l,d<(16777216:Nat))->yC l<(16777216:Nat)^l.length
 |[],_=>by simp[yC]
 |a::l,h=>by
  have h1:=sd l (fun d hd=>h d (Jy _ hd))
  have h2:=h a (Im ..)
  simp only[yC,JR,Nat.pow_succ]
  have h3:=HV (16777216:Nat) (show yC l+1<=(16777216:Nat)^l.length from h1)
  rw[HZ,Nat.one_mul]at h3
  rw[Nat.mul_comm (16777216:Nat)]
  omega
def nz (l:List Nat):Prop:=∀k,l.length=k+1->l.getD k 0≠0
theorem ac (n:Nat):nz (dg n):=by
 induction n using Nat.strongRecOn with
 |ind n ih=>
  by_cases h:n=0
  ·subst h;rw[tY];intro k hk;simp at hk
  ·rw[r6 h]
   intro k hk
   cases k with
   |zero=>
    simp at hk
    simp
    intro h0
    have:n/(16777216:Nat)=0:=by
     by_cases h1:n/(16777216:Nat)=0
     ·exact h1
     ·rw[r6 h1]at hk;cases hk
    have:=Nat.mod_add_div n (16777216:Nat)
    omega
   |succ k=>
    simp at hk
    simpa using ih _ (H9 zA yg) k hk
theorem eQ:∀(l:List Nat),(∀d∈l,d<(16777216:Nat))->nz l->dg (yC l)=l
 |[],_,_=>tY
 |a::l,h,hz=>by
  have ha:=h a (Im ..)
  have hz':nz l:=fun k hk=>by have:=hz (k+1) (by simp[hk]);simpa using this
  have ih:=eQ l (fun d hd=>h d (Jy _ hd)) hz'
  have e1:(a+(16777216:Nat)*yC l)%(16777216:Nat)=a:=by rw[Nat.add_mul_mod_self_left];exact Nat.mod_eq_of_lt ha
  have e2:(a+(16777216:Nat)*yC l)/(16777216:Nat)=yC l:=by rw[Nat.add_mul_div_left _ _ yg];rw[Nat.div_eq_of_lt ha];omega
  have hne:a+(16777216:Nat)*yC l≠0:=by
   intro h0
   cases l with
   |nil=>exact hz 0 rfl (by simp[yC]at h0;simpa using h0)
   |cons b l=>
    rw[show yC (b::l)=0 by omega,tY]at ih
    cases ih
  rw[yC,r6 hne,e1,e2,ih]
theorem r7 (k:Nat):yC (List.replicate k 0)=0:=by
 induction k with
 |zero=>rfl
 |succ k ih=>simp[List.replicate_succ,yC,ih]
theorem fU:∀(l:List Nat),∃r k,l=r++List.replicate k 0/\nz r
 |[]=>⟨[],0,rfl,fun k hk=>by simp at hk⟩
 |a::l=>by
  obtain⟨r,k,hr,hz⟩:=fU l
  by_cases h:r=[]/\a=0
  ·refine⟨[],k+1,?_,fun k hk=>by simp at hk⟩
   rw[hr,h.1,h.2];simp[List.replicate_succ]
  ·refine⟨a::r,k,by rw[hr];rfl,?_⟩
   intro j hj
   cases j with
   |zero=>simp at hj;simp;intro h0;exact h ⟨hj,h0⟩
   |succ j=>simp at hj;simpa using hz j hj
theorem qI (l:List Nat)(h:∀d∈l,d<(16777216:Nat)):∃k,l=dg (yC l)++List.replicate k 0:=by
 obtain⟨r,k,hr,hz⟩:=fU l
 refine⟨k,?_⟩
 have e:yC l=yC r:=by rw[hr,wc,r7];omega
 rw[e,eQ r (fun d hd=>h d (by rw[hr];exact HX _ hd)) hz]
 exact hr
theorem iA:∀(l:List Nat) (j x:Nat),j<l.length->yC (l.set j x)+(16777216:Nat)^j*l.getD j 0=yC l+(16777216:Nat)^j*x
 |[],j,x,h=>by simp at h
 |a::l,0,x,h=>by simp[yC];omega
 |a::l,j+1,x,h=>by
  have ih:=iA l j x (by simpa using h)
  simp only[List.set_cons_succ,yC,List.getD_cons_succ,Nat.pow_succ]
  have e1:(16777216:Nat)^j*(16777216:Nat)*l.getD j 0=(16777216:Nat)*((16777216:Nat)^j*l.getD j 0):=by grind
  have e2:(16777216:Nat)^j*(16777216:Nat)*x=(16777216:Nat)*((16777216:Nat)^j*x):=by grind
  rw[e1,e2]
  have:(16777216:Nat)*(yC (l.set j x)+(16777216:Nat)^j*l.getD j 0)=(16777216:Nat)*(yC l+(16777216:Nat)^j*x):=by rw[ih]
  rw[H7,H7]at this
  omega
theorem X2 (l:List Nat)(hz:nz l)(k:Nat)(hl:l.length=k+1):(16777216:Nat)^k<=yC l:=by
 have h1:l=l.take k++l.drop k:=(I0 k l).symm
 have h2:=wc (l.take k) (l.drop k)
 rw[<-h1,xZ,Jt,show min k l.length=k by omega]at h2
 have h3:=hz k hl
 have:1<=l.getD k 0+(16777216:Nat)*yC (l.drop (k+1)):=zA
 have:=HK ((16777216:Nat)^k) this
 omega
theorem g8 {a b:Nat}(h:(dg a).length<(dg b).length):a<b:=by
 have h1:=sd (dg a) (nH a)
 obtain⟨k,hk⟩:∃k,(dg b).length=k+1:=⟨(dg b).length-1,zA⟩
 have h2:=X2 (dg b) (ac b) k hk
 rw[vO]at h1 h2
 have h3:(16777216:Nat)^(dg a).length<=(16777216:Nat)^k:=HG yg zA
 omega
theorem jp {l r:List Nat}(hl:∀d∈l,d<(16777216:Nat))(hr:∀d∈r,d<(16777216:Nat))(he:l.length=r.length)(i:Nat)(hi:i<l.length)(hd:yC (l.drop (i+1))=yC (r.drop (i+1)))(hlt:l.getD i 0<r.getD i 0):yC l<yC r:=by
 have h1:=wc (l.take i) (l.drop i)
 have h2:=wc (r.take i) (r.drop i)
 rw[I0,Jt,show min i l.length=i by omega,xZ]at h1
 rw[I0,Jt,show min i r.length=i by omega,xZ]at h2
 have h3:=sd (l.take i) (fun d hd=>hl d (List.mem_of_mem_take hd))
 rw[Jt,show min i l.length=i by omega]at h3
 rw[hd]at h1
 have h4:=HK ((16777216:Nat)^i) (show l.getD i 0+(16777216:Nat)*yC (r.drop (i+1))+1<=r.getD i 0+(16777216:Nat)*yC (r.drop (i+1)) by omega)
 rw[H7,Jd]at h4
 omega
theorem jq (n k:Nat)(h:n<(16777216:Nat)^k):(dg n).length<=k:=by
 rcases I4 k (dg n).length with h1|h1
 ·obtain⟨j,hj⟩:∃j,(dg n).length=j+1:=⟨(dg n).length-1,zA⟩
  have h2:=X2 (dg n) (ac n) j hj
  rw[vO]at h2
  have:(16777216:Nat)^k<=(16777216:Nat)^j:=HG yg zA
  omega
 ·exact h1
abbrev dC (d:Nat):Cv:= .v (.int .i64 (d:Int))
abbrev sL (n len:Nat):V:= .c (.sl n 0 len 1)
theorem wz {ds:List Nat}{i:Nat}(h:i<ds.length):(ds.map dC)[i]?=some (dC (ds.getD i 0)):=by
 rw[JK,Kw,Kz h];rfl
theorem fF (ds:List Nat)(i:Nat):CallOk Hf 269 [sL 1 ds.length,I i] [(1,⟨true,ds.map dC,3⟩)] (I (ds.getD i 0:Nat)) []:=by
 refine kN 100 func269 Ta ntmps269 fun C hR hP=>?_
 refine vv ?_
 by_cases h:i<ds.length
 ·simp only[show decide ((i:Int)<(ds.length:Int))=true by simp;omega,wz h]
  refine vv ?_
  refine⟨⟨zA,zA⟩,?_⟩
  exact yI hR (zC (by simp[Cv.inM]))
 ·simp only[show decide ((i:Int)<(ds.length:Int))=false by simp;omega]
  refine zX hR rfl ⟨rfl,trivial⟩ ?_ (yr _) (zC (by simp[Cv.inM])) (zI rfl)
  rw[Kw,Jo zA]
  rfl
@[reducible] def LI (n:Nat):Env:=[(0,true,sL 1 n),(2,true,.c (.v (.slice none 0 0)))]
theorem cH {ds:List Nat}{k:Nat}(hk:ds=dg (yC ds)++List.replicate k 0){n:Nat}(h1:(dg (yC ds)).length<=n)(h2:n<=ds.length)(h0:0<n):ds.getD (n-1) 0=0↔(dg (yC ds)).length<n:=by
 have hz:=ac (yC ds)
 generalize dg (yC ds)=r at*
 subst hk
 rcases I4 r.length n with h|h
 ·refine⟨fun _=>h,fun _=>?_⟩
  rw[Kw,IE zA,IK]
  split<;>rfl
 ·have e:n=r.length:=zA
  subst e
  refine⟨fun hh=>?_,fun hh=>zA⟩
  have:=hz (r.length-1) zA
  rw[Kw,Jm zA,<-Kw]at hh
  exact absurd hh this
theorem cI (ds:List Nat)(h:∀d∈ds,d<(16777216:Nat))(hl:ds.length<=4611686018427387904):CallOk Hf 270 [sL 1 ds.length] [(1,⟨true,ds.map dC,3⟩)] (sL 1 (dg (yC ds)).length) []:=by
 obtain⟨k,hk⟩:=qI ds h
 refine kN 100 func270 T9 ntmps270 fun C hR hP=>?_
 have hM:ClM [(1,⟨true,ds.map dC,3⟩)]:=zC (by simp[Cv.inM])
 have hlen:=congrArg List.length hk
 simp only[JN,HU]at hlen
 have hid:(⟨true,ds.map dC,3⟩:Bk).ren (rn [(1,1)])=⟨true,ds.map dC,3⟩:=by simp[Bk.ren,Function.comp_def,Cv.ren]
 refine vv ?_
 refine zG (M0:=[(1,⟨true,ds.map dC,3⟩)]) (α:={n:Nat//(dg (yC ds)).length<=n/\n<=ds.length}) hP (fun n=>LI n.val) (fun _=>[(1,⟨true,ds.map dC,3⟩)]) (fun n=>n.val) ⟨ds.length,zA,zA⟩
  (fun _=>hM) (fun _=>zO rfl) [(1,1)] ?_ ?_
 ·exact⟨rfl,⟨⟨rfl,rfl⟩,trivial⟩,⟨rfl,rfl,trivial⟩,⟨.inr ⟨_,rfl,.inl hid⟩,trivial⟩⟩
 ·rintro⟨n,h1,h2⟩ J hb
  simp only at hb⊢
  refine zB 120 ?_
  by_cases h0:n=0
  ·subst h0
   have e0:(dg (yC ds)).length=0:=zA
   rw[e0]at hR
   refine vv ?_
   cases ds with
   |nil=>
    refine vv ?_
    refine tc rfl rfl ⟨[],I 0,fun hh=>(by cases hh),.inr rfl,zB 130 ?_⟩
    refine vv ?_
    exact yI hR hM
   |cons d r=>
    refine vv ?_
    exact yI hR hM
  ·have w1:IntKind.i64.wrap ((n:Int)-1)=((n-1:Nat):Int):=by rw[ya zA zA];omega
   have d1:decide ((0:Int)<n)=true:=by simp;omega
   refine vv ?_
   simp only[w1,d1,Int.toNat_natCast,wz (show n-1<ds.length by omega)]
   refine vv ?_
   have ht:=cH hk h1 h2 zA
   refine⟨⟨zA,zA⟩,?_⟩
   by_cases hc:(dg (yC ds)).length<n
   ·have e1:((ds.getD (n-1) 0:Nat):Int)=0:=by have:=ht.2 hc;omega
    simp only[e1]
    refine vv ?_
    simp only[Int.sub_zero,Int.toNat_natCast]
    exact⟨⟨zA,zA,by simpa using h2⟩,hb _ _ ⟨n-1,zA,zA⟩ [(1,1)] yF ⟨rfl,⟨⟨rfl,rfl⟩,trivial⟩,⟨rfl,rfl,trivial⟩,⟨.inr ⟨_,rfl,.inl hid⟩,trivial⟩⟩⟩
   ·have e1:(((ds.getD (n-1) 0:Nat):Int)==0)=false:=by simp;intro hh;exact hc (ht.1 (by simpa using hh))
    simp only[e1]
    exact zX hR rfl ⟨rfl,trivial⟩ (by rw[show(dg (yC ds)).length=n by omega];rfl) (yr _) hM (zI rfl)
@[reducible] def Lb (la lb:Nat)(i:Int):Env:=[(0,true,sL 1 la),(1,true,sL 2 lb),(5,true,I i),(4,true,Bo false)]
@[reducible] def xd (nm:Nat)(ds:List Nat):Nat×Bk:=(nm,⟨true,ds.map dC,3⟩)
theorem zJ (L:List (Nat×Nat))(r:Bool)(ds:List Nat)(t:TypeId):(⟨r,ds.map dC,t⟩:Bk).ren (rn L)=⟨r,ds.map dC,t⟩:=by simp[Bk.ren,Function.comp_def,Cv.ren]
theorem dy (a b:Nat)(hl:(dg a).length<=4611686018427387904)(hl':(dg b).length<=4611686018427387904):CallOk Hf 271 [sL 1 (dg a).length,sL 2 (dg b).length] [xd 1 (dg a),xd 2 (dg b)] (Bo (decide (a<b))) []:=by
 refine kN 100 func271 T8 ntmps271 fun C hR hP=>?_
 have hM:ClM [xd 1 (dg a),xd 2 (dg b)]:=zC (by simp[Cv.inM])
 have va:=vO a
 have vb:=vO b
 have la:=nH a
 have lb:=nH b
 refine vv ?_
 by_cases he:(dg a).length=(dg b).length
 ·have e1:(((dg a).length:Int)!=((dg b).length:Int))=false:=by simp[he]
  have w1:IntKind.i64.wrap (((dg a).length:Int)-1)=((dg a).length:Int)-1:=ya zA zA
  simp only[e1,w1]
  refine zG (M0:=[xd 1 (dg a),xd 2 (dg b)]) (α:={n:Nat//n<=(dg a).length/\yC ((dg a).drop n)=yC ((dg b).drop n)}) hP (fun n=>Lb (dg a).length (dg b).length ((n.val:Int)-1)) (fun _=>[xd 1 (dg a),xd 2 (dg b)]) (fun n=>n.val) ⟨(dg a).length,zA,by rw[JL,he,JL]⟩
   (fun _=>hM) (fun _=>zO rfl) [(1,1),(2,2)] ?_ ?_
  ·exact⟨rfl,⟨⟨rfl,rfl⟩,⟨rfl,rfl⟩,trivial⟩,⟨rfl,rfl,rfl,rfl,trivial⟩,⟨.inr ⟨_,rfl,.inl (zJ _ _ _ _)⟩,.inr ⟨_,rfl,.inl (zJ _ _ _ _)⟩,trivial⟩⟩
  ·rintro⟨n,h1,h2⟩ J hb
   simp only at hb⊢
   refine zB 120 (vv ?_)
   by_cases h0:n=0
   ·subst h0
    simp only[Jp,va,vb]at h2
    refine vv ?_
    exact zX hR rfl ⟨rfl,trivial⟩ (by rw[h2];simp;rfl) (yr _) hM (zI rfl)
   ·obtain⟨m,rfl⟩:∃m,n=m+1:=⟨n-1,zA⟩
    have e2:((m+1:Nat):Int)-1=(m:Int):=zA
    simp only[e2,yV (show(0:Int)<=(m:Int) by omega)]
    refine Sm.dg 120 9 ze (vv ?_)
    simp only[wz (show m<(dg a).length by omega),wz (show m<(dg b).length by omega)]
    refine vv ?_
    refine⟨⟨zA,zA⟩,⟨zA,zA⟩,?_⟩
    by_cases hd:(dg a).getD m 0=(dg b).getD m 0
    ·have e3:((((dg a).getD m 0:Nat):Int)!=(((dg b).getD m 0:Nat):Int))=false:=by rw[hd];simp
     have w2:IntKind.i64.wrap ((m:Int)-1)=(m:Int)-1:=ya zA zA
     simp only[e3,w2]
     have hv:yC ((dg a).drop m)=yC ((dg b).drop m):=by rw[xZ,xZ (dg b),hd,h2]
     exact hb _ _ ⟨m,zA,hv⟩ [(1,1),(2,2)] yF ⟨rfl,⟨⟨rfl,rfl⟩,⟨rfl,rfl⟩,trivial⟩,⟨rfl,rfl,rfl,rfl,trivial⟩,⟨.inr ⟨_,rfl,.inl (zJ _ _ _ _)⟩,.inr ⟨_,rfl,.inl (zJ _ _ _ _)⟩,trivial⟩⟩
    ·have e3:((((dg a).getD m 0:Nat):Int)!=(((dg b).getD m 0:Nat):Int))=true:=by rw[bne_iff_ne];omega
     simp only[e3]
     refine Sm.dg 120 9 ze (vv ?_)
     simp only[wz (show m<(dg a).length by omega),wz (show m<(dg b).length by omega)]
     refine vv ?_
     refine⟨⟨zA,zA⟩,⟨zA,zA⟩,?_⟩
     have hf:decide ((((dg a).getD m 0:Nat):Int)<(((dg b).getD m 0:Nat):Int))=decide (a<b):=by
      rw[decide_eq_decide]
      constructor
      ·intro h
       have:=jp la lb he m zA h2 zA
       rw[va,vb]at this;exact this
      ·intro h
       rcases I4 ((dg a).getD m 0) ((dg b).getD m 0)with h'|h'
       ·omega
       ·have:=jp lb la he.symm m zA h2.symm zA
        rw[va,vb]at this;omega
     exact zX hR rfl ⟨rfl,trivial⟩ (by rw[hf];rfl) (yr _) hM (zI rfl)
 ·have e1:(((dg a).length:Int)!=((dg b).length:Int))=true:=by simp;omega
  simp only[e1]
  have hi:decide (((dg a).length:Int)<((dg b).length:Int))=decide (a<b):=by
   rw[decide_eq_decide]
   constructor
   ·intro h;exact g8 zA
   ·intro h
    rcases I4 (dg a).length (dg b).length with h'|h'
    ·omega
    ·have:=g8 (a:=b) (b:=a) zA;omega
  exact zX hR rfl ⟨rfl,trivial⟩ (by rw[hi];rfl) (yr _) hM (zI rfl)
@[reducible] def bn (nm:Nat)(n:Int):V:= .agg [.v (.bool (decide (n<0))),.sl nm 0 (dg n.natAbs).length 1]
@[reducible] def bI (nm:Nat)(n:Int):Nat×Bk:=xd nm (dg n.natAbs)
@[reducible] def bO (nm:Nat)(n:Int)(p:List Nat):Nat×Bk:=(nm,⟨false,(dg n.natAbs++p).map dC,3⟩)
@[reducible] def Mo (n:Int):Env:=[(0,true,I n),(2,true,.c (.p 1 0)),(3,true,.c (.p 2 0))]
@[reducible] def Ml (neg:Bool)(ds:List Nat):Mem:=[(1,⟨false,[.v (.bool false),.v (.slice none 0 0)],249⟩),(2,⟨false,[.v (.bool neg),.sl 3 0 ds.length 1],249⟩),(3,⟨false,ds.map dC,3⟩)]
@[go_sem ↓] theorem MH:qk 1 1=[(0,1)]:=rfl
@[reducible] def sg (neg:Bool)(m:Nat):Int:=bif neg then-(m:Int)else m
theorem Z1 (neg:Bool)(m:Nat):(sg neg m).tmod 16777216=sg neg (m%(16777216:Nat)):=by
 cases neg
 ·exact I5 zc
 ·show(-(m:Int)).tmod 16777216= -((m%(16777216:Nat):Nat):Int)
  rw[Int.neg_tmod,I5 zA];rfl
theorem Z2 (neg:Bool)(m:Nat):(sg neg m).tdiv 16777216=sg neg (m/(16777216:Nat)):=by
 cases neg
 ·exact II zc
 ·show(-(m:Int)).tdiv 16777216= -((m/(16777216:Nat):Nat):Int)
  rw[Int.neg_tdiv,II zA];rfl
theorem kh (n:Int)(h1: -9223372036854775808<=n)(h2:n<=9223372036854775807):CallOk Hf 244 [I n] [] (bn 1 n) [bO 1 n []]:=by
 refine kN 100 func244 SC ntmps244 fun C hR hP=>?_
 obtain⟨N,neg,hN,hneg,hs,hNb⟩:∃(N:Nat) (neg:Bool),n.natAbs=N/\decide (n<0)=neg/\n=sg neg N/\N<=9223372036854775808:=by
  refine⟨n.natAbs,decide (n<0),rfl,rfl,?_,zA⟩
  by_cases h:n<0
  ·simp only[sg,yV h,cond_true];omega
  ·simp only[sg,yd h,cond_false];omega
 simp only[bn,bO,hN,hneg]at hR
 have hlen:=jq N 3 zA
 refine vv ?_
 refine yz 110 1 3 [] [101] rfl (vv ?_)
 simp only[hneg]
 refine zG (M0:=[]) (α:={p:Nat×List Nat//p.2++dg p.1=dg N/\p.1<=N}) hP (fun p=>Mo (sg neg p.val.1)) (fun p=>Ml neg p.val.2) (fun p=>p.val.1) ⟨(N,[]),rfl,zc⟩
  (fun _=>zC (by simp[Cv.inM,Mem.get])) (fun _=>zO rfl) [(1,100),(2,101),(3,110)] ?_ ?_
 ·rw[hs]
  exact z9
 ·rintro⟨⟨m,ds⟩,g1,g2⟩ J hb
  simp only at hb g1 g2⊢
  have hdl:=congrArg List.length g1
  rw[JN]at hdl
  refine zB 120 (vv ?_)
  by_cases h0:m=0
  ·subst h0
   rw[tY,JB]at g1
   have e0:(sg neg 0 !=0)=false:=by cases neg<;>rfl
   simp only[e0]
   subst g1
   exact RetQ.ren [(1,3)] hR hP rfl (vv trivial) rfl (vv trivial) trivial ⟨.inr ⟨_,rfl,.inl (by rw[zJ,JB])⟩,trivial⟩ (zC (by simp[Cv.inM])) (zI rfl)
  ·have e0:(sg neg m !=0)=true:=by rw[bne_iff_ne];cases neg<;>simp[sg]<;>omega
   simp only[e0,Z1,Z2]
   have wd:IntKind.i64.wrap (sg neg (m/(16777216:Nat)))=sg neg (m/(16777216:Nat)):=by cases neg<;>exact ya (by simp only[sg,cond_true,cond_false];omega) (by simp only[sg,cond_true,cond_false];omega)
   have hm1:=Nat.mod_lt m (show 0<(16777216:Nat) by omega)
   have nx:(ds++[m%(16777216:Nat)])++dg (m/(16777216:Nat))=dg N:=by rw[<-g1,r6 h0];simp
   have hl1:ds.length+1<=3:=by rw[r6 h0,JR]at hdl;omega
   have hq:m/(16777216:Nat)<m:=H9 zA yg
   have hbk:=fun e' M' L=>hb e' M' ⟨(m/(16777216:Nat),ds++[m%(16777216:Nat)]),nx,by simp only;omega⟩ L hq
   have htk:List.take ds.length (List.map dC ds)=List.map dC ds:=JH zc
   by_cases hd:sg neg (m%(16777216:Nat))<0
   ·have hw:IntKind.i64.wrap (0-sg neg (m%(16777216:Nat)))=((m%(16777216:Nat):Nat):Int):=by
     cases neg
     ·simp[sg]at hd;omega
     ·simp only[sg,cond_true];rw[ya zA zA];omega
    simp only[yV hd,hw,wd,htk]
    exact⟨⟨zc,zA,zA⟩,hbk _ _ [(1,1),(2,2),(3,121)] ⟨rfl,trivial,⟨rfl,rfl,rfl,trivial⟩,⟨oR,.inr ⟨_,rfl,.inl (by simp[Bk.ren,Cv.ren,rn])⟩,.inr ⟨_,rfl,.inl (by rw[zJ];simp)⟩,trivial⟩⟩⟩
   ·have hw:sg neg (m%(16777216:Nat))=((m%(16777216:Nat):Nat):Int):=by
     cases neg
     ·rfl
     ·simp only[sg,cond_true]at hd⊢;omega
    simp only[yd hd,wd,htk]
    simp only[hw]
    exact⟨⟨zc,zA,zA⟩,hbk _ _ [(1,1),(2,2),(3,121)] ⟨rfl,trivial,⟨rfl,rfl,rfl,trivial⟩,⟨oR,.inr ⟨_,rfl,.inl (by simp[Bk.ren,Cv.ren,rn])⟩,.inr ⟨_,rfl,.inl (by rw[zJ];simp)⟩,trivial⟩⟩⟩
theorem PH (nm:Nat)(n:Int):ClM [bI nm n]:=zC (by simp[Cv.inM])
theorem lr (n:Nat):(dg n).length=0↔n=0:=by
 constructor
 ·intro h
  have:=vO n
  rw[Ji.1 h]at this
  exact this.symm
 ·rintro rfl;rw[tY];rfl
theorem tK (n:Int):CallOk Hf 228 [bn 1 n] [bI 1 n] (bn 1 (-n)) []:=by
 refine kN 100 func228 SR ntmps228 fun C hR hP=>?_
 simp only[bn,HT]at hR
 have hz:=lr n.natAbs
 refine vv ?_
 refine zX hR rfl (vv trivial) ?_ (Sub.one rfl (.inl rfl)) (PH 1 n) (zI rfl)
 refine vv ?_
 have e:(bif !decide (n<0)then decide (0<((dg n.natAbs).length:Int))else false)=decide (-n<0):=by
  rw[JQ]
  simp only[IJ,Jr,decide_eq_false_iff_not,decide_eq_true_eq]
  split
  ·simp only[decide_eq_true_eq];omega
  ·simp only[JU,false_iff];omega
 rw[e]
theorem dx (n:Int):CallOk Hf 247 [bn 1 n] [bI 1 n] (I (if n=0 then 0 else if n<0 then-1 else 1)) []:=by
 refine kN 100 func247 SA ntmps247 fun C hR hP=>?_
 have hz:=lr n.natAbs
 refine vv ?_
 by_cases h0:n=0
 ·have e:(((dg n.natAbs).length:Int)==0)=true:=by rw[beq_iff_eq];omega
  simp only[e]
  exact zX hR rfl ⟨rfl,trivial⟩ (by rw[if_pos h0];rfl) (Sub.one rfl (.inl rfl)) (PH 1 n) (zI rfl)
 ·have e:(((dg n.natAbs).length:Int)==0)=false:=by rw[beq_eq_false_iff_ne];omega
  simp only[e]
  by_cases h1:n<0
  ·simp only[yV h1]
   exact zX hR rfl ⟨rfl,trivial⟩ (by rw[if_neg h0,if_pos h1];rfl) (Sub.one rfl (.inl rfl)) (PH 1 n) (zI rfl)
  ·simp only[yd h1]
   exact zX hR rfl ⟨rfl,trivial⟩ (by rw[if_neg h0,if_neg h1];rfl) (Sub.one rfl (.inl rfl)) (PH 1 n) (zI rfl)
@[reducible] def bs (nm:Nat)(neg:Bool)(a:Nat):V:= .agg [.v (.bool neg),.sl nm 0 (dg a).length 1]
@[reducible] def Kd (i c:Nat):Env:=[(2,true,.c (.p 4 0)),(3,true,.c (.p 5 0)),(4,true,.c (.p 6 0)),(5,true,sL 7 i),(6,true,I c),(7,true,I i)]
@[reducible] def Kc (neg:Bool)(a b:Nat)(out:List Nat):Mem:=[(4,⟨false,[.v (.bool neg),.sl 1 0 (dg a).length 1],249⟩),(5,⟨false,[.v (.bool neg),.sl 2 0 (dg b).length 1],249⟩),(6,⟨false,[.v (.bool false),.v (.slice none 0 0)],249⟩),(7,⟨false,out.map dC,3⟩),xd 1 (dg a),xd 2 (dg b)]
structure AdI (a b:Nat) (i c:Nat) (out:List Nat):Prop where
 len:out.length=i
 lt:∀d∈out,d<(16777216:Nat)
 c1:c<=1
 val:yC out+(16777216:Nat)^i*(c+yC ((dg a).drop i)+yC ((dg b).drop i))=a+b
 fin:i<=max (dg a).length (dg b).length\/(i=max (dg a).length (dg b).length+1/\(16777216:Nat)^max (dg a).length (dg b).length<=a+b/\c=0)
theorem AdI.step {a b i c:Nat}{out:List Nat}(h:AdI a b i c out)(hc:i<(dg a).length\/i<(dg b).length\/0<c):
  AdI a b (i+1) (((dg a).getD i 0+(dg b).getD i 0+c)/(16777216:Nat)) (out++[((dg a).getD i 0+(dg b).getD i 0+c)%(16777216:Nat)]):=by
 have ha:(dg a).getD i 0<(16777216:Nat):=by
  rw[Kw]
  cases hh:(dg a)[i]? with
  |none=>simp
  |some d=>exact nH a d (In hh)
 have hb:(dg b).getD i 0<(16777216:Nat):=by
  rw[Kw]
  cases hh:(dg b)[i]? with
  |none=>simp
  |some d=>exact nH b d (In hh)
 have hv:=h.val
 rw[xZ (dg a) i,xZ (dg b) i]at hv
 have hA:(dg a).length<=i->(dg a).getD i 0=0:=fun hh=>by rw[Kw,Jo hh];rfl
 have hB:(dg b).length<=i->(dg b).getD i 0=0:=fun hh=>by rw[Kw,Jo hh];rfl
 generalize (dg a).getD i 0=x at*
 generalize (dg b).getD i 0=y at*
 have c1:=h.c1
 refine⟨by simp[h.len],?_,zA,?_,?_⟩
 ·intro d hd
  rcases I2.1 hd with hd|hd
  ·exact h.lt d hd
  ·rw[ID.1 hd];exact Nat.mod_lt _ zA
 ·rw[wc,h.len,<-hv]
  have e:=Nat.mod_add_div (x+y+c) (16777216:Nat)
  generalize (x+y+c)%(16777216:Nat)=r at*
  generalize (x+y+c)/(16777216:Nat)=q at*
  simp only[yC,Nat.pow_succ,Nat.mul_zero,JV]
  have e2:c+(x+(16777216:Nat)*yC ((dg a).drop (i+1)))+(y+(16777216:Nat)*yC ((dg b).drop (i+1)))=r+(16777216:Nat)*(q+yC ((dg a).drop (i+1))+yC ((dg b).drop (i+1))):=by
   rw[H7,H7];omega
  rw[e2,H7 ((16777216:Nat)^i),Nat.mul_assoc]
  omega
 ·have hf:=h.fin
  by_cases hi:i<(dg a).length\/i<(dg b).length
  ·omega
  ·have h1:=hA zA;have h2:=hB zA
   have hi2:i=max (dg a).length (dg b).length:=zA
   refine .inr ⟨zA,?_,zA⟩
   have h3:=HK ((16777216:Nat)^i) (show 1<=c+(x+(16777216:Nat)*yC ((dg a).drop (i+1)))+(y+(16777216:Nat)*yC ((dg b).drop (i+1))) by omega)
   rw[<-hi2]
   omega
theorem AdI.done {a b i c:Nat}{out:List Nat}(h:AdI a b i c out)(hc:¬(i<(dg a).length\/i<(dg b).length\/0<c)):yC out=a+b:=by
 have hv:=h.val
 rw[Jl zA,Jl zA,show c=0 by omega]at hv
 simpa[yC]using hv
def PO (a b:Nat):List Nat:=List.replicate ((if a+b<(16777216:Nat)^max (dg a).length (dg b).length then max (dg a).length (dg b).length else max (dg a).length (dg b).length+1)-(dg (a+b)).length) 0
theorem AdI.out {a b i c:Nat}{out:List Nat}(h:AdI a b i c out)(hc:¬(i<(dg a).length\/i<(dg b).length\/0<c)):out=dg (a+b)++PO a b:=by
 obtain⟨k,hk⟩:=qI out h.lt
 have hd:=h.done hc
 rw[hd]at hk
 have hl:=congrArg List.length hk
 rw[JN,HU,h.len]at hl
 have hlt:=sd out h.lt
 rw[hd,h.len]at hlt
 have hf:=h.fin
 rw[PO]
 have:(if a+b<(16777216:Nat)^max (dg a).length (dg b).length then max (dg a).length (dg b).length else max (dg a).length (dg b).length+1)=i:=by
  rcases hf with hf|⟨hf,hg,_⟩
  ·have e:max (dg a).length (dg b).length=i:=zA
   rw[e,if_pos hlt]
  ·rw[if_neg zA,hf]
 rw[this,show i-(dg (a+b)).length=k by omega]
 exact hk
theorem QT {p q r:Bool}(h:p=true\/q=true\/r=true):(bif bif p then true else q then true else r)=true:=by
 cases p<;>cases q<;>cases r<;>simp_all
theorem QU {p q r:Bool}(h:¬(p=true\/q=true\/r=true)):(bif bif p then true else q then true else r)=false:=by
 cases p<;>cases q<;>cases r<;>simp_all
theorem ls (a i:Nat):(dg a).getD i 0<(16777216:Nat):=by
 rw[Kw]
 cases hh:(dg a)[i]? with
 |none=>simp
 |some d=>exact nH a d (In hh)
theorem Vk (neg:Bool)(a b:Nat)(hla:(dg a).length<=1000000)(hlb:(dg b).length<=1000000):CallOk Hf 245 [bs 1 neg a,bs 2 neg b] [xd 1 (dg a),xd 2 (dg b)] (bs 3 neg (a+b)) [(3,⟨false,(dg (a+b)++PO a b).map dC,3⟩)]:=by
 refine kN 100 func245 aX ntmps245 fun C hR hP=>?_
 have hM0:ClM [xd 1 (dg a),xd 2 (dg b)]:=zC (by simp[Cv.inM])
 refine vv ?_
 refine yz 110 1 3 [5] [] rfl (vv ?_)
 refine zG (M0:=[xd 1 (dg a),xd 2 (dg b)]) (α:={s:Nat×Nat×List Nat//AdI a b s.1 s.2.1 s.2.2}) hP (fun s=>Kd s.val.1 s.val.2.1) (fun s=>Kc neg a b s.val.2.2) (fun s=>(dg a).length+(dg b).length+2-s.val.1) ⟨(0,0,[]),⟨rfl,zc,I7 _,by simp[yC,vO],.inl (I7 _)⟩⟩
  (fun _=>zC (by simp[Cv.inM,Mem.get])) (fun _=>zO rfl) [(1,1),(2,2),(4,100),(5,101),(6,102),(7,110)] ?_ ?_
 ·exact⟨rfl,⟨⟨rfl,rfl⟩,⟨rfl,rfl⟩,trivial⟩,⟨rfl,rfl,rfl,rfl,rfl,rfl,trivial⟩,⟨oR,oR,oR,oR,.inr ⟨_,rfl,.inl (zJ _ _ _ _)⟩,.inr ⟨_,rfl,.inl (zJ _ _ _ _)⟩,trivial⟩⟩
 ·rintro⟨⟨i,c,out⟩,hI⟩ J hb
  simp only at hb hI⊢
  refine zB 120 (vv ?_)
  by_cases hc:i<(dg a).length\/i<(dg b).length\/0<c
  ·have e1:=QT (p:=decide ((i:Int)<((dg a).length:Int))) (q:=decide ((i:Int)<((dg b).length:Int))) (r:=decide ((0:Int)<(c:Int))) (by simp only[decide_eq_true_eq];omega)
   simp only[e1]
   refine Sm.dg 120 11 ze (vv ?_)
   refine DCallQ.ren [(1,1)] 120 (fF (dg a) i) (zC (by simp[Cv.inM])) rfl rfl ⟨⟨_,rfl,.inl (zJ _ _ _ _)⟩,trivial⟩ rfl (.inr rfl) rfl rfl (vv ?_)
   refine DCallQ.ren [(1,2)] 120 (fF (dg b) i) (zC (by simp[Cv.inM])) rfl rfl ⟨⟨_,rfl,.inl (zJ _ _ _ _)⟩,trivial⟩ rfl (.inr rfl) rfl rfl (vv ?_)
   have hx:=ls a i
   have hy:=ls b i
   have hst:=hI.step hc
   have hlen:=hI.len
   have hf:=hI.fin
   have hc1:=hI.c1
   generalize (dg a).getD i 0=x at*
   generalize (dg b).getD i 0=y at*
   have w1:IntKind.i64.wrap ((x:Int)+(y:Int))=(x:Int)+y:=ya zA zA
   have w2:IntKind.i64.wrap ((x:Int)+(y:Int)+c)=((x+y+c:Nat):Int):=by rw[ya zA zA];omega
   have w3:((x+y+c:Nat):Int).tdiv 16777216=(((x+y+c)/(16777216:Nat):Nat):Int):=by rw[II zA];rfl
   have w4:((x+y+c:Nat):Int).tmod 16777216=(((x+y+c)%(16777216:Nat):Nat):Int):=by rw[I5 zA];rfl
   have w5:IntKind.i64.wrap (((x+y+c)/(16777216:Nat):Nat):Int)=(((x+y+c)/(16777216:Nat):Nat):Int):=ya zA zA
   have w6:IntKind.i64.wrap ((i:Int)+1)=((i+1:Nat):Int):=by rw[ya zA zA];omega
   have htk:List.take i (List.map dC out)=List.map dC out:=JH (by simp;omega)
   simp only[w1,w2,w3,w4,w5,w6,htk]
   exact⟨⟨by simp;omega,zA,zA⟩,hb _ _ ⟨(i+1,(x+y+c)/(16777216:Nat),out++[(x+y+c)%(16777216:Nat)]),hst⟩ [(1,1),(2,2),(4,4),(5,5),(6,6),(7,121)] yF ⟨rfl,⟨⟨rfl,rfl⟩,⟨rfl,rfl⟩,trivial⟩,⟨rfl,rfl,rfl,rfl,rfl,rfl,trivial⟩,⟨oR,oR,oR,.inr ⟨_,rfl,.inl (by rw[zJ];simp)⟩,.inr ⟨_,rfl,.inl (zJ _ _ _ _)⟩,.inr ⟨_,rfl,.inl (zJ _ _ _ _)⟩,trivial⟩⟩⟩
  ·have e1:=QU (p:=decide ((i:Int)<((dg a).length:Int))) (q:=decide ((i:Int)<((dg b).length:Int))) (r:=decide ((0:Int)<(c:Int))) (by simp only[decide_eq_true_eq];omega)
   simp only[e1]
   have ho:=hI.out hc
   have hlt:=hI.lt
   have hv:=hI.done hc
   have hf:=hI.fin
   have hl:=hI.len
   have htr:=cI out hlt zA
   rw[hl,hv]at htr
   refine Sm.dg 120 5 ze (vv ?_)
   refine DCallQ.ren [(1,7)] 120 htr (zC (by simp[Cv.inM])) rfl rfl ⟨⟨_,rfl,.inr ⟨rfl,[],by simp[Bk.ren,Function.comp_def,Cv.ren]⟩⟩,trivial⟩ rfl (.inr rfl) rfl rfl (vv ?_)
   exact RetQ.ren [(1,1),(2,2),(3,7)] hR hP rfl (vv trivial) rfl rfl ⟨⟨rfl,rfl⟩,⟨rfl,rfl⟩,trivial⟩ ⟨.inr ⟨_,rfl,.inl (by rw[zJ,ho])⟩,.inr ⟨_,rfl,.inl (zJ _ _ _ _)⟩,.inr ⟨_,rfl,.inl (zJ _ _ _ _)⟩,trivial⟩ (zC (by simp[Cv.inM])) (zI rfl)
@[reducible] def LR (i w:Nat):Env:=[(2,true,.c (.p 4 0)),(3,true,.c (.p 5 0)),(4,true,.c (.p 6 0)),(9,true,sL 7 i),(10,true,I w),(11,true,I i)]
@[reducible] def P8 (neg neg':Bool)(a b:Nat)(out:List Nat):Mem:=[(4,⟨false,[.v (.bool neg),.sl 1 0 (dg a).length 1],249⟩),(5,⟨false,[.v (.bool neg'),.sl 2 0 (dg b).length 1],249⟩),(6,⟨false,[.v (.bool false),.v (.slice none 0 0)],249⟩),(7,⟨false,out.map dC,3⟩),xd 1 (dg a),xd 2 (dg b)]
structure SbI (a b:Nat) (i w:Nat) (out:List Nat):Prop where
 len:out.length=i
 lt:∀d∈out,d<(16777216:Nat)
 w1:w<=1
 val:yC out+(16777216:Nat)^i*yC ((dg a).drop i)+b=a+(16777216:Nat)^i*(yC ((dg b).drop i)+w)
 fin:i<=(dg a).length
theorem SbI.step {a b i w:Nat}{out:List Nat}(h:SbI a b i w out)(hi:i<(dg a).length)(d v:Nat)(he:(dg a).getD i 0+(16777216:Nat)*v=d+(dg b).getD i 0+w)(hv:v<=1)(hd:d<(16777216:Nat)):SbI a b (i+1) v (out++[d]):=by
 have hv':=h.val
 rw[xZ (dg a) i,xZ (dg b) i]at hv'
 generalize (dg a).getD i 0=x at*
 generalize (dg b).getD i 0=y at*
 refine⟨by simp[h.len],?_,hv,?_,zA⟩
 ·intro c hc
  rcases I2.1 hc with hc|hc
  ·exact h.lt c hc
  ·rw[ID.1 hc];exact hd
 ·rw[wc,h.len]
  simp only[yC,Nat.pow_succ,Nat.mul_zero,JV]
  have e2:(16777216:Nat)^i*(x+(16777216:Nat)*v)=(16777216:Nat)^i*(d+y+w):=by rw[he]
  generalize yC ((dg a).drop (i+1))=A at*
  generalize yC ((dg b).drop (i+1))=B at*
  simp only[H7,<-Nat.mul_assoc]at*
  omega
theorem QR {a b:Nat}(h:b<=a):(dg b).length<=(dg a).length:=by
 rcases I4 (dg a).length (dg b).length with h1|h1
 ·have:=g8 h1;omega
 ·exact h1
theorem SbI.done {a b i w:Nat}{out:List Nat}(h:SbI a b i w out)(hb:b<=a)(hi:¬i<(dg a).length):yC out=a-b:=by
 have hv:=h.val
 have hf:=h.fin
 have hl:=QR hb
 rw[Jl zA,Jl zA]at hv
 have h1:=sd out h.lt
 rw[h.len]at h1
 have hw:=h.w1
 simp only[yC,Nat.mul_zero,JV,Ja]at hv
 rcases(show w=0\/w=1 by omega)with rfl|rfl
 ·omega
 ·omega
def Va (a b:Nat):List Nat:=List.replicate ((dg a).length-(dg (a-b)).length) 0
theorem SbI.out {a b i w:Nat}{out:List Nat}(h:SbI a b i w out)(hb:b<=a)(hi:¬i<(dg a).length):out=dg (a-b)++Va a b:=by
 obtain⟨k,hk⟩:=qI out h.lt
 rw[h.done hb hi]at hk
 have hl:=congrArg List.length hk
 rw[JN,HU,h.len]at hl
 have hf:=h.fin
 rw[Va,show(dg a).length-(dg (a-b)).length=k by omega]
 exact hk
theorem XL (neg:Bool)(a b:Nat)(hab:b<=a)(hla:(dg a).length<=1000000)(hlb:(dg b).length<=1000000):CallOk Hf 245 [bs 1 neg a,bs 2 (!neg) b] [xd 1 (dg a),xd 2 (dg b)] (bs 3 (neg&&decide (a-b≠0)) (a-b)) [(3,⟨false,(dg (a-b)++Va a b).map dC,3⟩)]:=by
 refine kN 100 func245 aX ntmps245 fun C hR hP=>?_
 have hM0:ClM [xd 1 (dg a),xd 2 (dg b)]:=zC (by simp[Cv.inM])
 have e0:(neg== !neg)=false:=by cases neg<;>rfl
 refine vv ?_
 simp only[e0]
 refine CallQ.ren [(1,1),(2,2)] 110 (dy a b zA zA) hM0 rfl rfl ⟨⟨_,rfl,.inl (zJ _ _ _ _)⟩,⟨_,rfl,.inl (zJ _ _ _ _)⟩,trivial⟩ rfl (.inr rfl) ?_
 simp only[yd (show ¬a<b by omega)]
 refine vv ?_
 refine yz 110 1 3 [9] [] rfl (vv ?_)
 refine zG (M0:=[xd 1 (dg a),xd 2 (dg b)]) (α:={s:Nat×Nat×List Nat//SbI a b s.1 s.2.1 s.2.2}) hP (fun s=>LR s.val.1 s.val.2.1) (fun s=>P8 neg (!neg) a b s.val.2.2) (fun s=>(dg a).length-s.val.1) ⟨(0,0,[]),⟨rfl,zc,I7 _,by simp[yC,vO],I7 _⟩⟩
  (fun _=>zC (by simp[Cv.inM,Mem.get])) (fun _=>zO rfl) [(1,1),(2,2),(4,100),(5,101),(6,102),(7,110)] ?_ ?_
 ·exact⟨rfl,⟨⟨rfl,rfl⟩,⟨rfl,rfl⟩,trivial⟩,⟨rfl,rfl,rfl,rfl,rfl,rfl,trivial⟩,⟨oR,oR,oR,oR,.inr ⟨_,rfl,.inl (zJ _ _ _ _)⟩,.inr ⟨_,rfl,.inl (zJ _ _ _ _)⟩,trivial⟩⟩
 ·rintro⟨⟨i,w,out⟩,hI⟩ J hb
  simp only at hb hI⊢
  have hlen:=hI.len
  have hw1:=hI.w1
  have hf:=hI.fin
  refine zB 120 (vv ?_)
  by_cases hc:i<(dg a).length
  ·simp only[yV (show(i:Int)<((dg a).length:Int) by omega)]
   refine Sm.dg 120 12 ze (vv ?_)
   simp only[wz hc]
   refine vv ?_
   refine⟨⟨zA,zA⟩,?_⟩
   refine DCallQ.ren [(1,2)] 120 (fF (dg b) i) (zC (by simp[Cv.inM])) rfl rfl ⟨⟨_,rfl,.inl (zJ _ _ _ _)⟩,trivial⟩ rfl (.inr rfl) rfl rfl (vv ?_)
   have hx:=ls a i
   have hy:=ls b i
   have hst:=hI.step hc
   generalize (dg a).getD i 0=x at*
   generalize (dg b).getD i 0=y at*
   have w1:IntKind.i64.wrap ((x:Int)-(y:Int))=(x:Int)-y:=ya zA zA
   have w2:IntKind.i64.wrap ((x:Int)-(y:Int)-w)=(x:Int)-y-w:=ya zA zA
   have w6:IntKind.i64.wrap ((i:Int)+1)=((i+1:Nat):Int):=by rw[ya zA zA];omega
   have htk:List.take i (List.map dC out)=List.map dC out:=JH (by simp;omega)
   by_cases hd:(x:Int)-y-w<0
   ·have w3:IntKind.i64.wrap ((x:Int)-(y:Int)-w+16777216)=((x+(16777216:Nat)-y-w:Nat):Int):=by rw[ya zA zA];omega
    simp only[w1,w2,yV hd,w3,w6,htk]
    exact⟨⟨by simp;omega,zA,zA⟩,hb _ _ ⟨(i+1,1,out++[x+(16777216:Nat)-y-w]),hst _ 1 zA zA zA⟩ [(1,1),(2,2),(4,4),(5,5),(6,6),(7,121)] yF ⟨rfl,⟨⟨rfl,rfl⟩,⟨rfl,rfl⟩,trivial⟩,⟨rfl,rfl,rfl,rfl,rfl,rfl,trivial⟩,⟨oR,oR,oR,.inr ⟨_,rfl,.inl (by rw[zJ];simp)⟩,.inr ⟨_,rfl,.inl (zJ _ _ _ _)⟩,.inr ⟨_,rfl,.inl (zJ _ _ _ _)⟩,trivial⟩⟩⟩
   ·have w3:(x:Int)-(y:Int)-w=((x-y-w:Nat):Int):=zA
    simp only[w1,w2,yd hd,w6,htk]
    simp only[w3]
    exact⟨⟨by simp;omega,zA,zA⟩,hb _ _ ⟨(i+1,0,out++[x-y-w]),hst _ 0 zA zA zA⟩ [(1,1),(2,2),(4,4),(5,5),(6,6),(7,121)] yF ⟨rfl,⟨⟨rfl,rfl⟩,⟨rfl,rfl⟩,trivial⟩,⟨rfl,rfl,rfl,rfl,rfl,rfl,trivial⟩,⟨oR,oR,oR,.inr ⟨_,rfl,.inl (by rw[zJ];simp)⟩,.inr ⟨_,rfl,.inl (zJ _ _ _ _)⟩,.inr ⟨_,rfl,.inl (zJ _ _ _ _)⟩,trivial⟩⟩⟩
  ·simp only[yd (show ¬(i:Int)<((dg a).length:Int) by omega)]
   have ho:=hI.out hab hc
   have hv:=hI.done hab hc
   have htr:=cI out hI.lt zA
   rw[hlen,hv]at htr
   refine CallQ.ren [(1,7)] 120 htr (zC (by simp[Cv.inM])) rfl rfl ⟨⟨_,rfl,.inr ⟨rfl,[],by simp[Bk.ren,Function.comp_def,Cv.ren]⟩⟩,trivial⟩ rfl (.inr rfl) (vv ?_)
   have hz:=lr (a-b)
   have en:(bif neg then decide ((0:Int)<((dg (a-b)).length:Int))else false)=(neg&&decide (a-b≠0)):=by
    cases neg
    ·rfl
    ·show decide ((0:Int)<((dg (a-b)).length:Int))=(true&&decide (a-b≠0))
     rw[Je,decide_eq_decide];omega
   simp only[en]
   exact RetQ.ren [(1,1),(2,2),(3,7)] hR hP rfl (vv trivial) rfl rfl ⟨⟨rfl,rfl⟩,⟨rfl,rfl⟩,trivial⟩ ⟨.inr ⟨_,rfl,.inl (by rw[zJ,ho])⟩,.inr ⟨_,rfl,.inl (zJ _ _ _ _)⟩,.inr ⟨_,rfl,.inl (zJ _ _ _ _)⟩,trivial⟩ (zC (by simp[Cv.inM])) (zI rfl)
@[go_sem] theorem NJ (f:Nat->Nat)(l:List Nat):List.map (Cv.ren f) (List.map dC l)=List.map dC l:=by simp[Function.comp_def,Cv.ren]
theorem Xt (neg:Bool)(a b:Nat)(hab:a<b)(hla:(dg a).length<=1000000)(hlb:(dg b).length<=1000000):CallOk Hf 245 [bs 1 neg a,bs 2 (!neg) b] [xd 1 (dg a),xd 2 (dg b)] (bs 3 (!neg) (b-a)) [(3,⟨false,(dg (b-a)++Va b a).map dC,3⟩)]:=by
 refine kN 100 func245 aX ntmps245 fun C hR hP=>?_
 have hM0:ClM [xd 1 (dg a),xd 2 (dg b)]:=zC (by simp[Cv.inM])
 have hM1:ClM [xd 1 (dg b),xd 2 (dg a)]:=zC (by simp[Cv.inM])
 have e0:(neg== !neg)=false:=by cases neg<;>rfl
 have hc:=XL (!neg) b a zA hlb hla
 rw[IL,show((!neg)&&decide (b-a≠0))= !neg by rw[decide_eq_true zA,IY]]at hc
 refine vv ?_
 simp only[e0]
 refine CallQ.ren [(1,1),(2,2)] 110 (dy a b zA zA) hM0 rfl rfl ⟨⟨_,rfl,.inl (zJ _ _ _ _)⟩,⟨_,rfl,.inl (zJ _ _ _ _)⟩,trivial⟩ rfl (.inr rfl) ?_
 simp only[yV hab]
 refine vv ?_
 refine CallQ.ren [(1,2),(2,1),(3,120)] 130 hc hM1 rfl rfl ⟨⟨_,rfl,.inl (zJ _ _ _ _)⟩,⟨_,rfl,.inl (zJ _ _ _ _)⟩,trivial⟩ rfl (.inl rfl) (vv ?_)
 exact RetQ.ren [(1,1),(2,2),(3,120)] hR hP rfl (vv trivial) rfl rfl ⟨⟨rfl,rfl⟩,⟨rfl,rfl⟩,trivial⟩ ⟨.inr ⟨_,rfl,.inl (zJ _ _ _ _)⟩,.inr ⟨_,rfl,.inl (zJ _ _ _ _)⟩,.inr ⟨_,rfl,.inl (zJ _ _ _ _)⟩,trivial⟩ (zC (by simp[Cv.inM])) (zI rfl)
end Go.Proofs.YtkciabfilokfiaaGreat.Fx
