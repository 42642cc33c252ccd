/-  -/
import Derived.Test.YtkciabfilokfiaaGreatTN
open Go.Proofs.Tryz
open Go.Proofs.Tryz renaming prog→Hf
set_option linter.unusedSimpArgs false
set_option linter.unusedVariables false
set_option maxRecDepth 100000
set_option maxHeartbeats 4000000
namespace Go.Proofs.YtkciabfilokfiaaGreat.Fx
open Vg Tf
theorem UD {H:Hp}(d:DgL)(hd:d.ok H)(h0:d.tys.length<=1000000)(b:BlL)(hb:b.ok H)(hok:xI b.c=true)(hty:vk d.tys b.c.ty≠none)(hfo:yE (yB d.tys b.c.ty)=true):
  ej H d 60 [yD b.r] (Bo (rI (yB d.tys b.c.ty) b.c)):=by
 have hks:=fun kd (h:(b.c.kd==kd)=true) a n t hq=>(xW hok h (a:=a) (n:=n) (t:=t) hq).2
 have hgk:∀i,i<b.c.ks.length->(b.c.ks.map iC)[i]?=some (iC (b.c.ks.getD i 0)):=fun i h=>yR h
 have hwf:=i8 hfo
 obtain⟨q,hq1,hq2,hq3⟩:∃q,∃h:q<d.tys.length,yw (d.tys.map (·.nm)) b.c.ty=(q:Int)/\yB d.tys b.c.ty=d.tys[q].ty:=by
  rcases xa d.tys b.c.ty with⟨a,_⟩|⟨q,hq,a,e⟩
  ·exact absurd a hty
  ·exact⟨q,hq,a,by unfold yB;rw[e];rfl⟩
 obtain⟨bt,ot,hto,ct,et,mt,hbt,hct⟩:=xG hd zA
 have hx0:=hct q hq1
 have hto':=yu d hd h0 b.c.ty
 rw[hq2]at hto'
 rw[hq3]at hwf hfo⊢
 generalize d.tys[q].ty=T at*
 have hnB:rI T b.c=if (b.c.kd==[99,111,110,115,116]||b.c.kd==[100,101,108,97,121])=true then fin T (b.c.ks.getD 0 0)else if (b.c.kd==[108,105,109,105,116])=true then fin T (b.c.ks.getD 0 0)&&(fin T (b.c.ks.getD 1 0)&&decide (b.c.ks.getD 0 0<=b.c.ks.getD 1 0))
  else if (b.c.kd==[108,97,103])=true then decide (0<=b.c.ks.getD 0 0)&&decide (b.c.ks.getD 0 0<=20)else if (b.c.kd==[104,121,115,116,101,114,101,115,105,115])=true then decide (b.c.ks.getD 0 0<=b.c.ks.getD 1 0)else true:=by
  rw[<-hwf,<-hwf];rfl
 clear hwf
 generalize rI T b.c=N at*
 refine kX func60 Oa ntmps60 fun C hR hP hH hL=>?_
 have hR:=hR () C hL trivial
 have hF:∀v,N=v->xL Hf C Tryz.f60 (Bo v) ([]++xU d):=fun v hv=>by rw[<-hv];exact hR
 clear hR
 refine zB 100 ?_
 simp only[go_sem,BlL.r]
 refine Sm.bringC 12 3 101 5 (hb.k.mono hH) rfl rfl rfl ?_
 rw[vG,show(zZ b.c.ks).length=b.c.ks.length by simp[zZ]]
 refine Sm.dg 110 10 ze (vv ?_)
 refine DCallQ.dm 120 (fun _=>hto') hH (fun _=>rfl) rfl rfl (vv ?_)
 refine DOpQ.own 140 (Stp.idxV (b:=bt) (off:=ot) rfl (by rw[<-hto];rfl) rfl vm zA zA) ?_
 simp only[go_sem,Int.toNat_natCast]
 refine DOpQ.own 140 (zY (k:=1) rfl rfl rfl) (vv ?_)
 refine zE 140 (fun _=>StpC.ldA (vs:=yW T) (hH _ _ hbt) (fun j v hj=>?_) rfl rfl rfl rfl (J7 _)) ?_
 ·exact hx0 j v hj
 simp only[go_sem,yW]
 refine zU (fun hA=>?_) (fun hA=>?_)
 ·rw[if_pos (by rw[<-hA];cases (b.c.kd==[99,111,110,115,116])<;>rfl)]at hnB
  have hl:b.c.ks.length=1:=by
   cases hm:b.c.kd==[99,111,110,115,116]with
   |true=>exact hks _ hm 0 1 0 rfl
   |false=>
    rw[hm]at hA
    exact hks _ hA 1 1 0 rfl
  refine Sm.dg 150 5 ze ?_
  simp only[go_sem,hgk 0 zA]
  refine⟨zA,?_⟩
  refine CallQ.pure 160 (tO T _ hfo) rfl (vv ?_)
  exact zX (hF _ hnB) rfl xb tr (SubS.sub (yM rfl rfl)) (zo d) (zI rfl)
 rw[if_neg (by rw[Bool.not_eq_true,<-hA];cases (b.c.kd==[99,111,110,115,116])<;>rfl)]at hnB
 refine vv ?_
 refine zU (fun hB=>?_) (fun hB=>?_)
 ·rw[if_pos hB]at hnB
  have hl:=hks _ hB 1 2 0 rfl
  refine Sm.dg 150 23 ze ?_
  simp only[go_sem,hgk 0 zA,hgk 1 zA]
  refine⟨zA,?_⟩
  refine DCallQ.pure 160 (tO T _ hfo) rfl ?_
  simp only[go_sem,hgk 0 zA,hgk 1 zA]
  refine⟨fun h=>⟨h,zA⟩,?_⟩
  refine DCallQ.guard 170 (fun _=>tO T (b.c.ks.getD 1 0) hfo) (fun h=>by rw[h];rfl) ?_
  simp only[go_sem,hgk 0 zA,hgk 1 zA]
  generalize fin T (b.c.ks.getD 0 0)=f0 at*
  generalize fin T (b.c.ks.getD 1 0)=f1 at*
  refine⟨fun h=>⟨h,zA⟩,fun h=>⟨h,zA⟩,?_⟩
  refine zX (hF _ (hnB.trans ?_)) rfl xb tr (SubS.sub (yM rfl rfl)) (zo d) (zI rfl)
  cases f0<;>cases f1<;>rfl
 rw[if_neg (by rw[hB];simp)]at hnB
 refine vv ?_
 refine zU (fun hD=>?_) (fun hD=>?_)
 ·rw[if_pos hD]at hnB
  have hl:=hks _ hD 1 1 0 rfl
  simp only[go_sem,hgk 0 zA]
  refine⟨zA,fun h=>⟨h,zA⟩,?_⟩
  refine zX (hF _ (hnB.trans ?_)) rfl xb tr (SubS.sub (yM rfl rfl)) (zo d) (zI rfl)
  generalize decide (0<=b.c.ks.getD 0 0)=f0
  cases f0<;>rfl
 rw[if_neg (by rw[hD];simp)]at hnB
 refine vv ?_
 refine zU (fun hE=>?_) (fun hE=>?_)
 ·rw[if_pos hE]at hnB
  have hl:=hks _ hE 1 2 0 rfl
  refine Sm.dg 150 8 ze ?_
  simp only[go_sem,hgk 0 zA,hgk 1 zA]
  refine⟨zA,zA,?_⟩
  exact zX (hF _ hnB) rfl xb tr (SubS.sub (yM rfl rfl)) (zo d) (zI rfl)
 rw[if_neg (by rw[hE];simp)]at hnB
 exact zX (hF _ hnB) rfl xb tr (SubS.sub (yM rfl rfl)) (zo d) (zI rfl)
end Go.Proofs.YtkciabfilokfiaaGreat.Fx
namespace Go.Proofs.YtkciabfilokfiaaGreat.Fx
def iG (n:Int):Int×Int:=if n=2 then(0,1)else(n,n)
def sD (r:Int×Int):Int:=if r.1=0/\r.2=0 then 0 else if 0<r.1\/r.2<0 then 1 else 2
theorem lR (r:Int×Int):xB r=(decide (sD r≠0),decide (sD r≠1)):=by
 unfold xB sD
 by_cases h1:r.1=0/\r.2=0
 ·rw[if_pos h1,h1.1,h1.2];rfl
 ·rw[if_neg h1]
  have e1:(!((r.1==0)&&(r.2==0)))=true:=by
   rw[Jr,Bool.eq_false_iff]
   intro h
   simp only[JG,beq_iff_eq]at h
   exact h1 h
  rw[e1]
  by_cases h2:0<r.1\/r.2<0
  ·rw[if_pos h2]
   have:(bif decide (r.1<=0)then decide (0<=r.2)else false)=false:=by
    by_cases h3:r.1<=0
    ·rw[decide_eq_true h3,cond_true];exact decide_eq_false zA
    ·rw[decide_eq_false h3];rfl
   rw[this];rfl
  ·rw[if_neg h2]
   have:(bif decide (r.1<=0)then decide (0<=r.2)else false)=true:=by
    rw[decide_eq_true (show r.1<=0 by omega),cond_true];exact decide_eq_true zA
   rw[this];rfl
theorem uC (r:Int×Int):sD r=0\/sD r=1\/sD r=2:=by
 unfold sD
 split
 ·exact .inl rfl
 ·split
  ·exact .inr (.inl rfl)
  ·exact .inr (.inr rfl)
def bZ (a:Int):Int:=if a=2 then 2 else 1-a
def na (w a c:Int):Int:=if a=w\/c=w then w else if a=2\/c=2 then 2 else 1-w
theorem YK (r q:Int×Int):iG (bZ (sD r))=sK 0 r q:=by
 unfold sK
 simp only[lR]
 rcases uC r with h|h|h<;>rw[h]<;>rfl
theorem YM (r q:Int×Int):iG (na 0 (sD r) (sD q))=sK 1 r q:=by
 unfold sK
 simp only[lR]
 rcases uC r with h|h|h<;>rcases uC q with h'|h'|h'<;>rw[h,h']<;>rfl
theorem Wv (r q:Int×Int):iG (na 1 (sD r) (sD q))=sK 2 r q:=by
 unfold sK
 simp only[lR]
 rcases uC r with h|h|h<;>rcases uC q with h'|h'|h'<;>rw[h,h']<;>rfl
def dV (r:Int×Int)(k:Int):Int:=if k<=r.1 then 1 else if r.2<k then 0 else 2
theorem YL {r:Int×Int}(h:r.1<=r.2)(k:Int):iG (dV r k)=oG (decide (k<=r.2)) (decide (r.1<k)):=by
 unfold dV
 by_cases h1:k<=r.1
 ·rw[if_pos h1,decide_eq_true (show k<=r.2 by omega),decide_eq_false (show ¬r.1<k by omega)];rfl
 ·rw[if_neg h1,decide_eq_true (show r.1<k by omega)]
  by_cases h2:r.2<k
  ·rw[if_pos h2,decide_eq_false (show ¬k<=r.2 by omega)];rfl
  ·rw[if_neg h2,decide_eq_true (show k<=r.2 by omega)];rfl
def pp (a:Ft)(x:Int)(b:Ft)(y:Int):Int:=Yi (yq a x*b.den-yq b y*a.den)
theorem qx (a:Ft)(x:Int)(b:Ft)(y:Int):pp a x b y<0↔yq a x*b.den<yq b y*a.den:=by
 unfold pp Yi
 split
 ·omega
 ·split<;>omega
theorem ao (a:Ft)(x:Int)(b:Ft)(y:Int):pp a x b y=0↔yq a x*b.den=yq b y*a.den:=by
 unfold pp Yi
 split
 ·omega
 ·split<;>omega
theorem lW {a b:Ft}{x y:Int}(ha:yE a=true)(hx:fin a x=true)(hb:yE b=true)(hy:fin b y=true)(hu:uS a b=true):lB a x b y=decide (pp a x b y<0):=by
 have he:sO a x b y=0:=by
  unfold sO
  rw[if_neg (by rw[ha,hx,hb,hy];simp),if_neg (by rw[hu];simp)]
 unfold lB
 rw[if_pos he,decide_eq_decide,qx]
def dS (ta tb:Ft)(a b:Int×Int):Int:=if pp ta a.2 tb b.1<0 then 1 else if 0<=pp ta a.1 tb b.2 then 0 else 2
def dX (ta tb:Ft)(a b:Int×Int):Int:=if a.1=a.2/\b.1=b.2/\pp ta a.1 tb b.1=0 then 1 else if pp ta a.2 tb b.1<0\/pp tb b.2 ta a.1<0 then 0 else 2
section
variable {ta tb:Ft} {a b:Int×Int} (ha:yE ta=true) (hb:yE tb=true) (ga:wQ ta a) (gb:wQ tb b) (hu:uS ta tb=true)
include ha hb ga gb hu
theorem Yf:iG (dS ta tb a b)=np true a b ta tb:=by
 have fa1:=yv ga ha (JW _) ga.2.1
 have fa2:=yv ga ha ga.2.1 (JW _)
 have fb1:=yv gb hb (JW _) gb.2.1
 have fb2:=yv gb hb gb.2.1 (JW _)
 have ma:=wR ha ga.2.1
 have mb:=wR hb gb.2.1
 have pa:0<ta.den:=by have:=xC ha;omega
 have pb:0<tb.den:=by have:=xC hb;omega
 have qa:=Jk ma (Int.le_of_lt pb)
 have qb:=Jk mb (Int.le_of_lt pa)
 unfold dS np
 rw[cond_true,lW ha fa1 hb fb2 hu,lW ha fa2 hb fb1 hu]
 by_cases h1:pp ta a.2 tb b.1<0
 ·have h2:pp ta a.1 tb b.2<0:=by rw[qx]at h1⊢;omega
  rw[if_pos h1,decide_eq_true h1,decide_eq_true h2];rfl
 ·rw[if_neg h1,decide_eq_false h1]
  by_cases h2:0<=pp ta a.1 tb b.2
  ·rw[if_pos h2,decide_eq_false (show ¬pp ta a.1 tb b.2<0 by omega)];rfl
  ·rw[if_neg h2,decide_eq_true (show pp ta a.1 tb b.2<0 by omega)];rfl
theorem Yg (hu':uS tb ta=true):iG (dX ta tb a b)=np false a b ta tb:=by
 have fa1:=yv ga ha (JW _) ga.2.1
 have fa2:=yv ga ha ga.2.1 (JW _)
 have fb1:=yv gb hb (JW _) gb.2.1
 have fb2:=yv gb hb gb.2.1 (JW _)
 unfold dX np Vh
 rw[cond_false,lW ha fa2 hb fb1 hu,lW hb fb2 ha fa1 hu']
 have e1:∀p q:Prop,∀[Decidable p] [Decidable q],(bif decide p then true else decide q)=decide (p\/q):=fun p q _ _=>by
  by_cases h:p
  ·rw[decide_eq_true h,cond_true,decide_eq_true (Or.inl h)]
  ·rw[decide_eq_false h,cond_false,decide_eq_decide]
   exact⟨.inr,fun hh=>hh.resolve_left h⟩
 rw[e1]
 have e2:(bif a.1==a.2 then b.1==b.2 else false)=decide (a.1=a.2/\b.1=b.2):=by
  by_cases h:a.1=a.2
  ·rw[beq_iff_eq.2 h,cond_true]
   by_cases h2:b.1=b.2
   ·rw[beq_iff_eq.2 h2,decide_eq_true ⟨h,h2⟩]
   ·rw[beq_eq_false_iff_ne.2 h2,decide_eq_false fun hh=>h2 hh.2]
  ·rw[beq_eq_false_iff_ne.2 h,cond_false,decide_eq_false fun hh=>h hh.1]
 rw[e2]
 by_cases h1:a.1=a.2/\b.1=b.2/\pp ta a.1 tb b.1=0
 ·obtain⟨q1,q2,q3⟩:=h1
  have n1:¬(pp ta a.2 tb b.1<0\/pp tb b.2 ta a.1<0):=by
   rw[ao]at q3
   rw[qx,qx,<-q1,<-q2]
   omega
  rw[if_pos ⟨q1,q2,q3⟩,decide_eq_false n1,decide_eq_true ⟨q1,q2⟩];rfl
 ·rw[if_neg h1]
  by_cases h2:pp ta a.2 tb b.1<0\/pp tb b.2 ta a.1<0
  ·rw[if_pos h2,decide_eq_true h2]
   cases decide (a.1=a.2/\b.1=b.2)<;>rfl
  ·rw[if_neg h2,decide_eq_false h2]
   have n2:¬(a.1=a.2/\b.1=b.2):=fun⟨q1,q2⟩=>h1 ⟨q1,q2,by
    rw[ao]
    rw[qx,qx,<-q1,<-q2]at h2
    omega⟩
   rw[decide_eq_false n2];rfl
end
open Vg Tf
theorem Pv {a t:Ft}{x:Int}(ha:yE a=true)(hx:fin a x=true)(ht:yE t=true)(hu:uS a t=true):gR 1 a x t=qs t (yq a x) a.den:=by
 have:v3 a x t=0:=by
  unfold v3
  rw[if_neg (by rw[ha,hx,ht];simp),if_neg (by rw[hu];simp)]
 unfold gR
 rw[if_pos this,Int.mul_one]
theorem Pu {a t:Ft}{x:Int}(ha:yE a=true)(hx:fin a x=true)(ht:yE t=true)(hu:uS a t=true):gR (-1) a x t=qs t (-(yq a x)) a.den:=by
 have:v3 a x t=0:=by
  unfold v3
  rw[if_neg (by rw[ha,hx,ht];simp),if_neg (by rw[hu];simp)]
 unfold gR
 rw[if_pos this,IV,Int.mul_one]
section
variable {a t:Ft} (ha:yE a=true) (ht:yE t=true) (hu:uS a t=true)
include ha ht hu
theorem bH (x:Int)(hx:fin a x=true):CallOk Hf 196 [.agg (rJ a),.agg (rJ t),I x] [] (I (gR 1 a x t)) []:=by
 have h1:=xy ha hx
 have hf:=xC ha
 rw[Pv ha hx ht hu]
 refine kN 100 func196 Sl ntmps196 fun C hR hP=>?_
 refine vv ?_
 refine CallQ.ren [(1,110),(2,111)] 112 (nr a x ha hx) (zC (by simp[Cv.inM])) rfl rfl trivial rfl (.inl rfl) ?_
 simp only[Mem.ren,Kv,Kx,Bk.ren,JJ,V.ren,W.ren,Cv.ren,rn,Nat.reduceBEq,cond_true,cond_false,Function.comp_def]
 refine vv ?_
 refine CallQ.ren [(1,110),(2,111)] 140 (qS t (yq a x) a.den ht zA zA zA zA) (zC (by simp[Cv.inM])) rfl rfl ⟨⟨_,rfl,xD _ _ _⟩,⟨_,rfl,xD _ _ _⟩,trivial⟩ rfl (.inr rfl) ?_
 simp only[Mem.ren,Kv,Kx,Bk.ren,JJ,V.ren,W.ren,Cv.ren,rn,Nat.reduceBEq,cond_true,cond_false,Function.comp_def]
 refine vv ?_
 exact uT hR rfl
theorem XV (x:Int)(hx:fin a x=true):CallOk Hf 188 [.agg (rJ a),.agg (rJ t),I x] [] (I (gR (-1) a x t)) []:=by
 have h1:=xy ha hx
 have hf:=xC ha
 rw[Pu ha hx ht hu]
 refine kN 100 func188 Sw ntmps188 fun C hR hP=>?_
 refine vv ?_
 refine CallQ.ren [(1,110),(2,111)] 112 (nr a x ha hx) (zC (by simp[Cv.inM])) rfl rfl trivial rfl (.inl rfl) ?_
 simp only[Mem.ren,Kv,Kx,Bk.ren,JJ,V.ren,W.ren,Cv.ren,rn,Nat.reduceBEq,cond_true,cond_false,Function.comp_def]
 refine vv ?_
 refine Sm.dg 120 4 ze (vv ?_)
 refine DCallQ.ren [(1,110)] 132 (tK (yq a x)) (zC (by simp[Cv.inM])) rfl rfl ⟨⟨_,rfl,xD _ _ []⟩,trivial⟩ rfl (.inl rfl) rfl rfl ?_
 simp only[Mem.ren,Kv,Kx,Bk.ren,JJ,V.ren,W.ren,Cv.ren,rn,Nat.reduceBEq,cond_true,cond_false,Function.comp_def]
 refine vv ?_
 refine CallQ.ren [(1,110),(2,111)] 140 (qS t (-(yq a x)) a.den ht zA zA zA zA) (zC (by simp[Cv.inM])) rfl rfl ⟨⟨_,rfl,ge _ _ _⟩,⟨_,rfl,xD _ _ _⟩,trivial⟩ rfl (.inr rfl) ?_
 simp only[Mem.ren,Kv,Kx,Bk.ren,JJ,V.ren,W.ren,Cv.ren,rn,Nat.reduceBEq,cond_true,cond_false,Function.comp_def]
 refine vv ?_
 exact uT hR rfl
theorem ui (r:Int×Int)(gr:wQ a r):CallOk Hf 135 [.agg (rJ a),.agg (rJ t),rA r] [] (rA (xf r a t)) []:=by
 have f1:=yv gr ha (JW _) gr.2.1
 have f2:=yv gr ha gr.2.1 (JW _)
 refine kN 100 func135 Ri ntmps135 fun C hR hP=>?_
 refine vv ?_
 refine Sm.dg 110 9 ze (vv ?_)
 refine DCallQ.pure 120 (bH ha ht hu r.1 f1) rfl (vv ?_)
 refine CallQ.pure 130 (bH ha ht hu r.2 f2) rfl (vv ?_)
 exact yI hR ClM.nil
end
theorem ik (a b:Int×Int):CallOk Hf 134 [rA a,rA b] [] (rA (vp a b)) []:=by
 obtain⟨a1,a2⟩:=a
 obtain⟨b1,b2⟩:=b
 have e:vp (a1,a2) (b1,b2)=(if b1<a1 then b1 else a1,if a2<b2 then b2 else a2):=by
  unfold vp
  refine Prod.ext ?_ ?_<;>simp only<;>split<;>omega
 rw[e]
 refine kN 100 func134 Rj ntmps134 fun C hR hP=>?_
 refine vv ?_
 refine zU (fun h1=>?_) (fun h1=>?_)
 ·rw[if_pos (of_decide_eq_true h1)]at hR
  refine zU (fun h2=>?_) (fun h2=>?_)
  ·rw[if_pos (of_decide_eq_true h2)]at hR
   exact yI hR ClM.nil
  ·rw[if_neg (of_decide_eq_false h2)]at hR
   exact yI hR ClM.nil
 ·rw[if_neg (of_decide_eq_false h1)]at hR
  refine zU (fun h2=>?_) (fun h2=>?_)
  ·rw[if_pos (of_decide_eq_true h2)]at hR
   exact yI hR ClM.nil
  ·rw[if_neg (of_decide_eq_false h2)]at hR
   exact yI hR ClM.nil
theorem XW (x lo hi:Int)(h:lo<=hi):CallOk Hf 229 [I x,I lo,I hi] [] (I (min (max x lo) hi)) []:=by
 refine kN 100 func229 SQ ntmps229 fun C hR hP=>?_
 refine vv ?_
 refine zU (fun h1=>?_) (fun h1=>?_)
 ·exact RetQ.int hR rfl ⟨rfl,trivial⟩ (by have:=of_decide_eq_true h1;omega)
 refine zU (fun h2=>?_) (fun h2=>?_)
 ·exact RetQ.int hR rfl ⟨rfl,trivial⟩ (by have:=of_decide_eq_true h2;have:=of_decide_eq_false h1;omega)
 ·exact RetQ.int hR rfl ⟨rfl,trivial⟩ (by have:=of_decide_eq_false h2;have:=of_decide_eq_false h1;omega)
theorem ij (r:Int×Int)(lo hi:Int)(h:lo<=hi):CallOk Hf 189 [rA r,I lo,I hi] [] (rA (qp r lo hi)) []:=by
 refine kN 100 func189 Su ntmps189 fun C hR hP=>?_
 refine vv ?_
 refine Sm.dg 110 9 ze (vv ?_)
 refine DCallQ.pure 120 (XW r.1 lo hi h) rfl (vv ?_)
 refine CallQ.pure 130 (XW r.2 lo hi h) rfl (vv ?_)
 exact yI hR ClM.nil
theorem XX (a b:Int):CallOk Hf 193 [I a,I b] [] (I (min a b)) []:=by
 refine kN 100 func193 Sp ntmps193 fun C hR hP=>?_
 refine vv ?_
 refine zU (fun h1=>?_) (fun h1=>?_)
 ·exact RetQ.int hR rfl ⟨rfl,trivial⟩ (by have:=of_decide_eq_true h1;omega)
 ·exact RetQ.int hR rfl ⟨rfl,trivial⟩ (by have:=of_decide_eq_false h1;omega)
theorem XY (a b:Int):CallOk Hf 194 [I a,I b] [] (I (max a b)) []:=by
 refine kN 100 func194 So ntmps194 fun C hR hP=>?_
 refine vv ?_
 refine zU (fun h1=>?_) (fun h1=>?_)
 ·exact RetQ.int hR rfl ⟨rfl,trivial⟩ (by have:=of_decide_eq_true h1;omega)
 ·exact RetQ.int hR rfl ⟨rfl,trivial⟩ (by have:=of_decide_eq_false h1;omega)
theorem au {p q:Prop} [Decidable p] [Decidable q](h:(bif decide p then true else decide q)=true):p\/q:=by
 by_cases hp:p
 ·exact .inl hp
 ·rw[decide_eq_false hp,cond_false]at h;exact .inr (of_decide_eq_true h)
theorem av {p q:Prop} [Decidable p] [Decidable q](h:(bif decide p then true else decide q)=false):¬(p\/q):=by
 by_cases hp:p
 ·rw[decide_eq_true hp,cond_true]at h;cases h
 ·rw[decide_eq_false hp,cond_false]at h
  rintro(hh|hh)
  ·exact hp hh
  ·exact of_decide_eq_false h hh
theorem mG (r:Int×Int):CallOk Hf 192 [rA r] [] (I (sD r)) []:=by
 refine kN 100 func192 Sq ntmps192 fun C hR hP=>?_
 unfold sD at hR
 cases e1:(r.1==0)with
 |true=>
  cases e2:(r.2==0)with
  |true=>
   rw[if_pos ⟨eq_of_beq e1,eq_of_beq e2⟩]at hR
   simp only[go_sem,e1,e2]
   exact uT hR rfl
  |false=>
   rw[if_neg (fun h=>by rw[h.2]at e2;cases e2)]at hR
   simp only[go_sem,e1,e2]
   refine zU (fun h=>?_) (fun h=>?_)
   ·rw[if_pos (au h)]at hR
    exact uT hR rfl
   ·rw[if_neg (av h)]at hR
    exact uT hR rfl
 |false=>
  rw[if_neg (fun h=>by rw[h.1]at e1;cases e1)]at hR
  simp only[go_sem,e1]
  refine zU (fun h=>?_) (fun h=>?_)
  ·rw[if_pos (au h)]at hR
   exact uT hR rfl
  ·rw[if_neg (av h)]at hR
   exact uT hR rfl
theorem mJ (n:Int):CallOk Hf 186 [I n] [] (rA (iG n)) []:=by
 unfold iG
 refine kN 100 func186 Sx ntmps186 fun C hR hP=>?_
 refine vv ?_
 refine zU (fun h1=>?_) (fun h1=>?_)
 ·have h1:n=2:=by simpa using h1
  rw[if_pos h1]at hR
  exact yI hR ClM.nil
 ·have h1:n≠2:=by simpa using h1
  rw[if_neg h1]at hR
  exact yI hR ClM.nil
theorem jU (ta:Ft)(a:Int)(tb:Ft)(b:Int)(ha:yE ta=true)(hx:fin ta a=true)(hb:yE tb=true)(hy:fin tb b=true):CallOk Hf 225 [.agg (rJ ta),I a,.agg (rJ tb),I b] [] (I (pp ta a tb b)) []:=by
 refine kN 100 func225 SU ntmps225 fun C hR hP=>?_
 refine vv ?_
 refine CallQ.pure 130 (eo ta a tb b ha hx hb hy) rfl (vv ?_)
 exact uT hR rfl
open Vg Tf
def vt (H:Hp)(b:BlL)(rs:List (Int×Int))(ts:List Ft)(z:Int):Prop:=
 CallX H Hf 187 [yD b.r,.c (.sl 1 0 rs.length 2),.c (.sl 2 0 ts.length 10)] (y8 rs ts) (fun _:Unit=>I z) (fun _=>[]) (fun _ _=>True)
theorem bw {H:Hp}(b:BlL)(hkd:b.c.kd=[108,101,115,115])(r0 r1:Int×Int)(a0 a1:Ft)(f0:yE a0=true)(f1:yE a1=true)(g0:wQ a0 r0)(g1:wQ a1 r1):vt H b [r0,r1] [a0,a1] (dS a0 a1 r0 r1):=by
 have x0:=yv g0 f0 (JW _) g0.2.1
 have x1:=yv g0 f0 g0.2.1 (JW _)
 have y0:=yv g1 f1 (JW _) g1.2.1
 have y1:=yv g1 f1 g1.2.1 (JW _)
 unfold vt
 generalize hz:dS a0 a1 r0 r1=z
 unfold dS at hz
 have hM:ClM (y8 [r0,r1] [a0,a1]):=zC rfl
 unfold y8 at hM⊢
 simp only[zN,zT,Kv,Kx,JC,JD,JB,yN,yW]at hM⊢
 refine kX func187 mU ntmps187 fun C hR hP hH hL=>?_
 have hR:=hR () C hL trivial
 refine zB 100 ?_
 simp only[go_sem,BlL.r,hkd]
 refine Sm.dg 110 14 ze (vv ?_)
 refine CallQ.pure 120 (jU a0 r0.2 a1 r1.1 f0 x1 f1 y0) rfl (vv ?_)
 refine zU (fun h1=>?_) (fun h1=>?_)
 ·rw[if_pos (of_decide_eq_true h1)]at hz
  subst hz
  exact yI hR hM
 rw[if_neg (of_decide_eq_false h1)]at hz
 refine Sm.dg 130 14 ze (vv ?_)
 refine CallQ.pure 140 (jU a0 r0.1 a1 r1.2 f0 x0 f1 y1) rfl (vv ?_)
 refine zU (fun h2=>?_) (fun h2=>?_)
 ·rw[if_pos (of_decide_eq_true h2)]at hz
  subst hz
  exact yI hR hM
 rw[if_neg (of_decide_eq_false h2)]at hz
 subst hz
 exact yI hR hM
theorem dR {H:Hp}(b:BlL)(hkd:b.c.kd=[101,113,117,97,108])(r0 r1:Int×Int)(a0 a1:Ft)(f0:yE a0=true)(f1:yE a1=true)(g0:wQ a0 r0)(g1:wQ a1 r1):vt H b [r0,r1] [a0,a1] (dX a0 a1 r0 r1):=by
 have x0:=yv g0 f0 (JW _) g0.2.1
 have x1:=yv g0 f0 g0.2.1 (JW _)
 have y0:=yv g1 f1 (JW _) g1.2.1
 have y1:=yv g1 f1 g1.2.1 (JW _)
 unfold vt
 generalize hz:dX a0 a1 r0 r1=z
 unfold dX at hz
 have hM:ClM (y8 [r0,r1] [a0,a1]):=zC rfl
 unfold y8 at hM⊢
 simp only[zN,zT,Kv,Kx,JC,JD,JB,yN,yW]at hM⊢
 refine kX func187 mU ntmps187 fun C hR hP hH hL=>?_
 have hR:=hR () C hL trivial
 refine zB 100 ?_
 simp only[go_sem,BlL.r,hkd]
 refine Sm.dg 110 35 ze (vv ?_)
 refine CallQ.guard 120 (fun _=>jU a0 r0.1 a1 r1.1 f0 x0 f1 y0) (fun h=>by rw[h];rfl) (vv ?_)
 have ec:(bif bif r0.1==r0.2 then r1.1==r1.2 else false then pp a0 r0.1 a1 r1.1==0 else false)=decide (r0.1=r0.2/\r1.1=r1.2/\pp a0 r0.1 a1 r1.1=0):=by
  by_cases h:r0.1=r0.2
  ·rw[beq_iff_eq.2 h,cond_true]
   by_cases h2:r1.1=r1.2
   ·rw[beq_iff_eq.2 h2,cond_true]
    by_cases h3:pp a0 r0.1 a1 r1.1=0
    ·rw[beq_iff_eq.2 h3,decide_eq_true ⟨h,h2,h3⟩]
    ·rw[beq_eq_false_iff_ne.2 h3,decide_eq_false fun hh=>h3 hh.2.2]
   ·rw[beq_eq_false_iff_ne.2 h2,cond_false,decide_eq_false fun hh=>h2 hh.2.1]
  ·rw[beq_eq_false_iff_ne.2 h,cond_false,cond_false,decide_eq_false fun hh=>h hh.1]
 rw[ec]
 refine zU (fun h1=>?_) (fun h1=>?_)
 ·rw[if_pos (of_decide_eq_true h1)]at hz
  subst hz
  exact yI hR hM
 rw[if_neg (of_decide_eq_false h1)]at hz
 refine Sm.dg 130 31 ze (vv ?_)
 refine DCallQ.pure 140 (jU a0 r0.2 a1 r1.1 f0 x1 f1 y0) rfl (vv ?_)
 refine CallQ.guard 150 (fun _=>jU a1 r1.2 a0 r0.1 f1 y1 f0 x0) (fun h=>by rw[h];rfl) (vv ?_)
 refine zU (fun h2=>?_) (fun h2=>?_)
 ·rw[if_pos (au h2)]at hz
  subst hz
  exact yI hR hM
 rw[if_neg (av h2)]at hz
 subst hz
 exact yI hR hM
theorem o8 {H:Hp}(b:BlL)(hb:b.ok H)(hkd:b.c.kd=[104,121,115,116,101,114,101,115,105,115])(r0:Int×Int)(a0:Ft)(hl:b.c.ks.length=2):vt H b [r0] [a0] (dV r0 (b.c.ks.getD 1 0)):=by
 have hgk:(b.c.ks.map iC)[1]?=some (iC (b.c.ks.getD 1 0)):=yR zA
 unfold vt
 generalize hz:dV r0 (b.c.ks.getD 1 0)=z
 unfold dV at hz
 have hM:ClM (y8 [r0] [a0]):=zC rfl
 unfold y8 at hM⊢
 simp only[zN,zT,Kv,Kx,JC,JD,JB,yN,yW]at hM⊢
 refine kX func187 mU ntmps187 fun C hR hP hH hL=>?_
 have hR:=hR () C hL trivial
 refine zB 100 ?_
 simp only[go_sem,BlL.r,hkd]
 refine Sm.bringC 12 3 100 5 (hb.k.mono hH) rfl rfl rfl ?_
 rw[vG,show(zZ b.c.ks).length=b.c.ks.length by simp[zZ]]
 refine Sm.dg 110 8 ze ?_
 simp only[go_sem,hgk]
 refine⟨zA,?_⟩
 refine zU (fun h1=>?_) (fun h1=>?_)
 ·rw[if_pos (of_decide_eq_true h1)]at hz
  subst hz
  exact yI hR hM
 rw[if_neg (of_decide_eq_false h1)]at hz
 refine Sm.dg 130 8 ze ?_
 simp only[go_sem,hgk]
 refine⟨zA,?_⟩
 refine zU (fun h2=>?_) (fun h2=>?_)
 ·rw[if_pos (of_decide_eq_true h2)]at hz
  subst hz
  exact yI hR hM
 rw[if_neg (of_decide_eq_false h2)]at hz
 subst hz
 exact yI hR hM
theorem YP {H:Hp}(b:BlL)(hkd:b.c.kd=[110,111,116])(r0:Int×Int)(a0:Ft):vt H b [r0] [a0] (bZ (sD r0)):=by
 unfold vt
 generalize hz:bZ (sD r0)=z
 unfold bZ at hz
 have hM:ClM (y8 [r0] [a0]):=zC rfl
 unfold y8 at hM⊢
 simp only[zN,zT,Kv,Kx,JC,JD,JB,yN,yW]at hM⊢
 refine kX func187 mU ntmps187 fun C hR hP hH hL=>?_
 have hR:=hR () C hL trivial
 refine zB 100 ?_
 simp only[go_sem,BlL.r,hkd]
 refine CallQ.pure 120 (mG r0) rfl ?_
 have hrg:=uC r0
 generalize sD r0=t0 at*
 rcases hrg with rfl|rfl|rfl
 ·have hz2:z=1:=by rw[<-hz];rfl
  subst hz2
  simp only[go_sem,hkd]
  exact yI hR hM
 ·have hz2:z=0:=by rw[<-hz];rfl
  subst hz2
  simp only[go_sem,hkd]
  exact yI hR hM
 ·have hz2:z=2:=by rw[<-hz];rfl
  subst hz2
  simp only[go_sem,hkd]
  exact yI hR hM
theorem YQ {H:Hp}(b:BlL)(hkd:b.c.kd=[97,110,100])(r0 r1:Int×Int)(a0 a1:Ft):vt H b [r0,r1] [a0,a1] (na 0 (sD r0) (sD r1)):=by
 unfold vt
 generalize hz:na 0 (sD r0) (sD r1)=z
 unfold na at hz
 have hM:ClM (y8 [r0,r1] [a0,a1]):=zC rfl
 unfold y8 at hM⊢
 simp only[zN,zT,Kv,Kx,JC,JD,JB,yN,yW]at hM⊢
 refine kX func187 mU ntmps187 fun C hR hP hH hL=>?_
 have hR:=hR () C hL trivial
 refine zB 100 ?_
 simp only[go_sem,BlL.r,hkd]
 refine CallQ.pure 120 (mG r0) rfl ?_
 have e1:(([97,110,100]:Str)==[110,111,116])=false:=yg
 have e2:(([97,110,100]:Str)==[111,114])=false:=yg
 simp only[go_sem,hkd,e1]
 refine CallQ.pure 130 (mG r1) rfl ?_
 have hrg:=uC r0
 have hrh:=uC r1
 generalize sD r0=t0 at*
 generalize sD r1=t1 at*
 simp only[go_sem,hkd,e2]
 rcases hrg with rfl|rfl|rfl<;>rcases hrh with rfl|rfl|rfl
 ·have hz2:z=0:=by rw[<-hz];rfl
  subst hz2
  simp only[go_sem,hkd]
  exact yI hR hM
 ·have hz2:z=0:=by rw[<-hz];rfl
  subst hz2
  simp only[go_sem,hkd]
  exact yI hR hM
 ·have hz2:z=0:=by rw[<-hz];rfl
  subst hz2
  simp only[go_sem,hkd]
  exact yI hR hM
 ·have hz2:z=0:=by rw[<-hz];rfl
  subst hz2
  simp only[go_sem,hkd]
  exact yI hR hM
 ·have hz2:z=1:=by rw[<-hz];rfl
  subst hz2
  simp only[go_sem,hkd]
  exact yI hR hM
 ·have hz2:z=2:=by rw[<-hz];rfl
  subst hz2
  simp only[go_sem,hkd]
  exact yI hR hM
 ·have hz2:z=0:=by rw[<-hz];rfl
  subst hz2
  simp only[go_sem,hkd]
  exact yI hR hM
 ·have hz2:z=2:=by rw[<-hz];rfl
  subst hz2
  simp only[go_sem,hkd]
  exact yI hR hM
 ·have hz2:z=2:=by rw[<-hz];rfl
  subst hz2
  simp only[go_sem,hkd]
  exact yI hR hM
theorem Ww {H:Hp}(b:BlL)(hkd:b.c.kd=[111,114])(r0 r1:Int×Int)(a0 a1:Ft):vt H b [r0,r1] [a0,a1] (na 1 (sD r0) (sD r1)):=by
 unfold vt
 generalize hz:na 1 (sD r0) (sD r1)=z
 unfold na at hz
 have hM:ClM (y8 [r0,r1] [a0,a1]):=zC rfl
 unfold y8 at hM⊢
 simp only[zN,zT,Kv,Kx,JC,JD,JB,yN,yW]at hM⊢
 refine kX func187 mU ntmps187 fun C hR hP hH hL=>?_
 have hR:=hR () C hL trivial
 refine zB 100 ?_
 simp only[go_sem,BlL.r,hkd]
 refine CallQ.pure 120 (mG r0) rfl ?_
 have e1:(([111,114]:Str)==[110,111,116])=false:=yg
 have e2:(([111,114]:Str)==[111,114])=true:=yg
 simp only[go_sem,hkd,e1]
 refine CallQ.pure 130 (mG r1) rfl ?_
 have hrg:=uC r0
 have hrh:=uC r1
 generalize sD r0=t0 at*
 generalize sD r1=t1 at*
 simp only[go_sem,hkd,e2]
 rcases hrg with rfl|rfl|rfl<;>rcases hrh with rfl|rfl|rfl
 ·have hz2:z=0:=by rw[<-hz];rfl
  subst hz2
  simp only[go_sem,hkd]
  exact yI hR hM
 ·have hz2:z=1:=by rw[<-hz];rfl
  subst hz2
  simp only[go_sem,hkd]
  exact yI hR hM
 ·have hz2:z=2:=by rw[<-hz];rfl
  subst hz2
  simp only[go_sem,hkd]
  exact yI hR hM
 ·have hz2:z=1:=by rw[<-hz];rfl
  subst hz2
  simp only[go_sem,hkd]
  exact yI hR hM
 ·have hz2:z=1:=by rw[<-hz];rfl
  subst hz2
  simp only[go_sem,hkd]
  exact yI hR hM
 ·have hz2:z=1:=by rw[<-hz];rfl
  subst hz2
  simp only[go_sem,hkd]
  exact yI hR hM
 ·have hz2:z=2:=by rw[<-hz];rfl
  subst hz2
  simp only[go_sem,hkd]
  exact yI hR hM
 ·have hz2:z=1:=by rw[<-hz];rfl
  subst hz2
  simp only[go_sem,hkd]
  exact yI hR hM
 ·have hz2:z=2:=by rw[<-hz];rfl
  subst hz2
  simp only[go_sem,hkd]
  exact yI hR hM
theorem lg (x0 x1 y0 y1:Int):nV x0 x1 y0 y1 x0=y0:=by unfold nV;rw[Int.sub_self,Int.zero_mul,Int.zero_ediv,Int.add_zero]
theorem ld {x0 x1 y0 y1:Int}(h:x0<x1):nV x0 x1 y0 y1 x1=y1:=by unfold nV;rw[Int.mul_ediv_cancel_left _ zA];omega
theorem aJ {l:List Int}(h:vZ l=true):∀(k i:Nat),i+(k+1)<l.length->l.getD i 0<l.getD (i+(k+1)) 0
 |0,i,hi=>xE l h i hi
 |k+1,i,hi=>by
  have h1:=aJ h k i zA
  have h2:=xE l h (i+(k+1)) zA
  rw[show i+(k+1+1)=i+(k+1)+1 from by omega];omega
theorem qC {l:List Int}(h:vZ l=true){i j:Nat}(hij:i<j)(hj:j<l.length):l.getD i 0<l.getD j 0:=by
 have:=aJ h (j-i-1) i zA
 rw[show i+(j-i-1+1)=j from by omega]at this;exact this
theorem ob {l:List Int}(h:vZ l=true){i j:Nat}(hij:i<=j)(hj:j<l.length):l.getD i 0<=l.getD j 0:=by
 rcases Nat.lt_or_eq_of_le hij with h1|h1
 ·exact Int.le_of_lt (qC h h1 hj)
 ·rw[h1];exact JW _
theorem p7 {nm:Str}{xs ys:List Int}(h2:2<=xs.length)(hi:vZ xs=true){x:Int}{i:Nat}(h:i+1<xs.length)(h0:xs.getD i 0<=x)(h1:x<=xs.getD (i+1) 0):
  yk ⟨nm,xs,ys⟩ x=nV (xs.getD i 0) (xs.getD (i+1) 0) (ys.getD i 0) (ys.getD (i+1) 0) x:=by
 have hii:=xE xs hi i h
 unfold yk
 simp only
 by_cases c0:x<=xs.getD 0 0
 ·rw[decide_eq_true c0,cond_true]
  have:i=0:=Jf fun hn=>by
   have:=qC hi (show 0<i by omega) zA
   omega
  subst this
  rw[show x=xs.getD 0 0 by omega,lg]
 rw[decide_eq_false c0,cond_false]
 by_cases c1:xs.getD (xs.length-1) 0<=x
 ·rw[decide_eq_true c1,cond_true]
  have:i+1=xs.length-1:=Jf fun hn=>by
   have:=qC hi (show i+1<xs.length-1 by omega) zA
   omega
  rw[<-this]at c1⊢
  rw[show x=xs.getD (i+1) 0 by omega,ld hii]
 rw[decide_eq_false c1,cond_false]
 obtain⟨s1,s2,s3,s4⟩:=ig (x:=x) h2 zA zA
 generalize xH xs x=s at*
 by_cases hx:x=xs.getD (i+1) 0
 ·have:s-1=i+1:=by
   have a1:¬s-1<i+1:=fun hn=>by
    have:=ob hi (show s<=i+1 by omega) h
    omega
   have a2:¬i+1<s-1:=fun hn=>by
    have:=qC hi hn zA
    omega
   omega
  rw[this,hx,lg,ld hii]
 ·have:s-1=i:=by
   have a1:¬s-1<i:=fun hn=>by
    have:=ob hi (show s<=i by omega) zA
    omega
   have a2:¬i<s-1:=fun hn=>by
    have:=ob hi (show i+1<=s-1 by omega) zA
    omega
   omega
  rw[this,show s=i+1 by omega]
theorem oD {nm:Str}{xs ys:List Int}(h2:2<=xs.length)(hi:vZ xs=true){i:Nat}(h:i<xs.length):yk ⟨nm,xs,ys⟩ (xs.getD i 0)=ys.getD i 0:=by
 by_cases hl:i+1<xs.length
 ·rw[p7 h2 hi hl (JW _) (Int.le_of_lt (xE xs hi i hl)),lg]
 ·obtain⟨k,rfl⟩:∃k,i=k+1:=⟨i-1,zA⟩
  rw[p7 h2 hi h (Int.le_of_lt (xE xs hi k h)) (JW _),ld (xE xs hi k h)]
theorem Xw (nm:Str)(ys:List Int){xs:List Int}(h2:2<=xs.length)(hi:vZ xs=true)(x:Int):yk ⟨nm,xs,ys⟩ (uX xs x)=yk ⟨nm,xs,ys⟩ x:=by
 have hb:=qC hi (show 0<xs.length-1 by omega) zA
 by_cases c0:x<=xs.getD 0 0
 ·have:uX xs x=xs.getD 0 0:=by unfold uX;omega
  rw[this,oD h2 hi zA]
  unfold yk
  simp only
  rw[decide_eq_true c0,cond_true]
 by_cases c1:xs.getD (xs.length-1) 0<=x
 ·have:uX xs x=xs.getD (xs.length-1) 0:=by unfold uX;omega
  rw[this,oD h2 hi zA]
  unfold yk
  simp only
  rw[decide_eq_false c0,cond_false,decide_eq_true c1,cond_true]
 ·have:uX xs x=x:=by unfold uX;omega
  rw[this]
theorem ia (nm:Str)(ys:List Int){xs:List Int}(h2:2<=xs.length)(hi:vZ xs=true)(x:Int):nV (xs.getD (vL xs x) 0) (xs.getD (vL xs x+1) 0) (ys.getD (vL xs x) 0) (ys.getD (vL xs x+1) 0) (uX xs x)=yk ⟨nm,xs,ys⟩ x:=by
 obtain⟨_,_,q3,q4,q5⟩:=uG h2 hi x
 rw[<-p7 (nm:=nm) h2 hi q3 q4 q5,Xw nm ys h2 hi]
def t5 (m:Mp)(j:Nat):List Int:=(List.range m.xs.length).map fun i=>nZ m i j
def uP (m:Mp)(x:Int):List Int:=(List.range m.ys.length).map fun j=>yk ⟨[],m.xs,t5 m j⟩ x
theorem wa (f:Nat->Int)(n i:Nat)(h:i<n):((List.range n).map f).getD i 0=f i:=by
 rw[Kw,JK,Ju h];rfl
theorem VZ {m:Mp}(k:MaOk m)(x y:Int):r9 m x y=yk ⟨[],m.ys,uP m x⟩ y:=by
 obtain⟨_,_,q3,_,_⟩:=uG k.x2 k.xi x
 obtain⟨_,_,p3,_,_⟩:=uG k.y2 k.yi y
 have hal:∀j,j<m.ys.length->iZ m (vL m.xs x) (uX m.xs x) j=(uP m x).getD j 0:=fun j hj=>by
  unfold uP
  rw[wa _ _ _ hj,<-ia [] (t5 m j) k.x2 k.xi x]
  unfold iZ t5
  rw[wa _ _ _ zA,wa _ _ _ q3]
 unfold r9
 rw[hal _ zA,hal _ p3,ia [] (uP m x) k.y2 k.yi y]
def jO (r:Int×Int):List (Int×Int)->Int×Int->Int×Int
 |[],q=>q
 |n::l,q=>jO r l (bif (bif decide (r.1<=n.1)then decide (n.1<=r.2)else false)then vn q n.2 else q)
theorem jY {q:Int×Int}{y:Int}(h1:q.1<=y)(h2:y<=q.2):vn q y=q:=by
 unfold vn
 rw[Int.min_eq_left h1,Int.max_eq_left h2]
theorem rU (v:Int->Int)(r:Int×Int)(hr:r.1<=r.2):∀(l:List (Int×Int)) (q:Int×Int),(∀n∈l,n.2=v n.1)->q.1<=v r.1->v r.1<=q.2->q.1<=v r.2->v r.2<=q.2->jO r l q=pU r l q
 |[],q,_,_,_,_,_=>rfl
 |n::l,q,hn,h1,h2,h3,h4=>by
  have hv:=hn n (Im ..)
  have hl:=fun m hm=>hn m (Jy _ hm)
  rw[jO,pU]
  have hp:∀z:Int×Int,z=vn q n.2->z.1<=v r.1/\v r.1<=z.2/\z.1<=v r.2/\v r.2<=z.2:=fun z hz=>by
   subst hz
   unfold vn
   simp only
   omega
  by_cases a:r.1<=n.1
  ·by_cases b:n.1<=r.2
   ·rw[decide_eq_true a,cond_true,decide_eq_true b,cond_true]
    by_cases c:r.1<n.1
    ·by_cases d:n.1<r.2
     ·rw[decide_eq_true c,cond_true,decide_eq_true d,cond_true]
      obtain⟨p1,p2,p3,p4⟩:=hp _ rfl
      exact rU v r hr l _ hl p1 p2 p3 p4
     ·rw[decide_eq_true c,cond_true,decide_eq_false d,cond_false]
      rw[jY (by rw[hv,show n.1=r.2 by omega];exact h3) (by rw[hv,show n.1=r.2 by omega];exact h4)]
      exact rU v r hr l _ hl h1 h2 h3 h4
    ·rw[decide_eq_false c,cond_false,cond_false]
     rw[jY (by rw[hv,show n.1=r.1 by omega];exact h1) (by rw[hv,show n.1=r.1 by omega];exact h2)]
     exact rU v r hr l _ hl h1 h2 h3 h4
   ·rw[decide_eq_true a,cond_true,decide_eq_false b,cond_false]
    have d:¬n.1<r.2:=zA
    cases hc:decide (r.1<n.1)with
    |true=>rw[cond_true,decide_eq_false d,cond_false];exact rU v r hr l _ hl h1 h2 h3 h4
    |false=>rw[cond_false,cond_false];exact rU v r hr l _ hl h1 h2 h3 h4
  ·rw[decide_eq_false a,cond_false,cond_false,decide_eq_false (show ¬r.1<n.1 by omega),cond_false,cond_false]
   exact rU v r hr l _ hl h1 h2 h3 h4
theorem ZR {c:Cu}(k:CuOk c):∀n∈c.xs.zip c.ys,n.2=yk c n.1:=fun n hn=>by
 obtain⟨i,hi,rfl⟩:=HY.1 hn
 rw[List.length_zip]at hi
 have:=oD (nm:=c.nm) (ys:=c.ys) k.two k.inc (i:=i) zA
 rw[List.getElem_zip]
 simp only
 rw[Kw,Kw,Kz zA,Kz zA]at this
 exact this.symm
theorem dG {c:Cu}(k:CuOk c){r:Int×Int}(hr:r.1<=r.2):jO r (c.xs.zip c.ys) (min (yk c r.1) (yk c r.2),max (yk c r.1) (yk c r.2))=pU r (c.xs.zip c.ys) (vn (yk c r.1,yk c r.1) (yk c r.2)):=
 rU (yk c) r hr _ _ (ZR k) yF yF yF yF
theorem WK {m:Mp}(k:MaOk m)(r s:Int×Int):tN m (vd m.ys s) (vd m.xs r) (1073741824, -1073741824)=rF m r s:=by
 have hn:=jG k r.1 s.1
 unfold nb at hn
 unfold rF vd
 have e:∀(x y:Int) (xs ys:List Int) (q:Int×Int),tN m (y::ys) (x::xs) q=tN m (y::ys) xs (qZ m x ys (vn q (r9 m x y))):=fun _ _ _ _ _=>rfl
 rw[e r.1 s.1 _ _ (1073741824, -1073741824),e r.1 s.1 _ _ (r9 m r.1 s.1,r9 m r.1 s.1)]
 have:vn (1073741824, -1073741824) (r9 m r.1 s.1)=vn (r9 m r.1 s.1,r9 m r.1 s.1) (r9 m r.1 s.1):=by
  unfold vn
  simp only
  congr 1<;>omega
 rw[this]
theorem jd:∀(l:List Int) (a x:Int),pV a (l++[x])=min (pV a l) x
 |[],a,x=>rfl
 |y::l,a,x=>jd l (min a y) x
theorem jb:∀(l:List Int) (a x:Int),rM a (l++[x])=max (rM a l) x
 |[],a,x=>rfl
 |y::l,a,x=>jb l (max a y) x
theorem bm {l:List Int}(h:0<l.length):pV (l.getD 0 0) l=pV (l.getD 0 0) (l.drop 1):=by
 cases l with
 |nil=>cases h
 |cons x l=>
  show pV (min x x) l=pV x l
  rw[Int.min_self]
theorem bf {l:List Int}(h:0<l.length):rM (l.getD 0 0) l=rM (l.getD 0 0) (l.drop 1):=by
 cases l with
 |nil=>cases h
 |cons x l=>
  show rM (max x x) l=rM x l
  rw[Int.max_self]
open Vg Tf
theorem jX (c:UInt8):CallOk Hf 221 [Y c.toNat] [] (Bo (mN c)) []:=by
 refine kN 100 func221 SX ntmps221 fun C hR hP=>?_
 refine vv ?_
 refine⟨fun h=>⟨h,fun h2=>by rw[h,h2];rfl⟩,?_⟩
 refine yL hR ?_
 unfold mN
 simp only[xu,qJ]
 have e1:decide ((97:Int)<=(c.toNat:Int))=decide (97<=c.toNat):=by rw[decide_eq_decide];omega
 have e2:decide ((c.toNat:Int)<=122)=decide (c.toNat<=122):=by rw[decide_eq_decide];omega
 have e3:decide ((65:Int)<=(c.toNat:Int))=decide (65<=c.toNat):=by rw[decide_eq_decide];omega
 have e4:decide ((c.toNat:Int)<=90)=decide (c.toNat<=90):=by rw[decide_eq_decide];omega
 rw[e1,e2,e3,e4]
theorem Zq (c:UInt8):CallOk Hf 222 [Y c.toNat] [] (Bo (Ve c)) []:=by
 refine kN 100 func222 SW ntmps222 fun C hR hP=>?_
 refine vv ?_
 refine yL hR ?_
 unfold Ve
 simp only[xu,qJ]
 have e1:decide ((48:Int)<=(c.toNat:Int))=decide (48<=c.toNat):=by rw[decide_eq_decide];omega
 have e2:decide ((c.toNat:Int)<=57)=decide (c.toNat<=57):=by rw[decide_eq_decide];omega
 rw[e1,e2]
def cA (s:Str):Nat:=match s with
 |[]=>0
 |c::r=>if mN c=true then 1+(r.takeWhile nW).length else 0
theorem ep (s:Str)(hs:s≠[]):((cA s:Int)==(s.length:Int))=(mN (s.getD 0 0)&&s.all nW):=by
 cases s with
 |nil=>exact absurd rfl hs
 |cons c r=>
  have hi:mN c=true->nW c=true:=fun h=>by unfold nW;rw[h];rfl
  have:=jN nW r
  unfold dF at this
  rw[Jp]at this
  show((((if mN c=true then 1+(r.takeWhile nW).length else 0:Nat)):Int)==((c::r).length:Int))=(mN c&&(nW c&&r.all nW))
  cases h:mN c with
  |false=>simp;omega
  |true=>
   rw[hi h,if_pos rfl,<-this]
   simp only[JR,Je]
   rw[JQ,beq_iff_eq,beq_iff_eq];omega
theorem W1 (s:Str)(hs:s.length<=1000000000000000):CallOk Hf 176 [S s] [] (I (cA s)) []:=by
 cases s with
 |nil=>
  refine kN 100 func176 Xi ntmps176 fun C hR hP=>?_
  refine vv ?_
  refine CallQ.guard (xs:=[]) (v:=Bo true) 150 (fun h=>by cases h) (fun h=>by cases h) (vv ?_)
  exact uT hR rfl
 |cons c r=>
  have hne:((c::r)==([]:Str))=false:=rfl
  have h0:(0:Int)<((c::r).length:Int):=by simp only[JR];omega
  have hw:cA (c::r)=if mN ((c::r).getD 0 0)=true then 1+(((c::r).drop 1).takeWhile nW).length else 0:=rfl
  rw[hw]
  have h1:1<=(c::r).length:=zc
  generalize c::r=s at*
  refine kN 100 func176 Xi ntmps176 fun C hR hP=>?_
  simp only[go_sem,hne]
  refine⟨h0,?_⟩
  refine CallQ.pure 150 (jX (s.getD 0 0)) rfl (vv ?_)
  cases hl:mN (s.getD 0 0)with
  |false=>
   rw[hl]at hR
   refine vv ?_
   exact uT hR rfl
  |true=>
  rw[hl,if_pos rfl]at hR
  refine vv ?_
  refine zG (M0:=[]) (α:={n:Nat//1<=n/\n<=s.length/\1+((s.drop 1).takeWhile nW).length=n+((s.drop n).takeWhile nW).length}) hP
   (fun n=>[(0,true,S s),(3,true,I n.val)]) (fun _=>[]) (fun n=>s.length-n.val) ⟨1,zA,zA,rfl⟩ (fun _=>ClM.nil) (fun _=>zO rfl) [] ?_ ?_
  ·exact z9
  rintro⟨n,hn1,hn,hx⟩ J hb
  simp only at hb hn hn1 hx⊢
  refine zB 120 (vv ?_)
  by_cases hlt:n<s.length
  ·have h1:decide ((n:Int)<(s.length:Int))=true:=yV zA
   have hd:s.drop n=s.getD n 0::s.drop (n+1):=by
    rw[Kw,Kz hlt,JA hlt];rfl
   rw[hd,List.takeWhile_cons]at hx
   simp only[go_sem,h1]
   refine⟨⟨zA,zA⟩,?_⟩
   have e1:((((s.getD n 0).toNat:Nat):Int)==95)=decide ((s.getD n 0).toNat=95):=by
    rw[JQ,beq_iff_eq,decide_eq_true_eq];omega
   have hin:nW (s.getD n 0)=(mN (s.getD n 0)||(Ve (s.getD n 0)||decide ((s.getD n 0).toNat=95))):=rfl
   refine CallQ.pure 130 (jX (s.getD n 0)) rfl ?_
   cases g1:mN (s.getD n 0)with
   |true=>
    refine vv ?_
    refine CallQ.guard (xs:=[]) (v:=Bo true) 150 (fun h=>by cases h) (fun h=>by cases h) ?_
    simp only[go_sem,yT (i:=n)]
    rw[hin,g1]at hx
    exact hb _ _ ⟨n+1,zA,zA,by rw[hx,Bool.true_or,if_pos rfl,JR];omega⟩ [] yF z9
   |false=>
    refine vv ?_
    refine⟨⟨zA,zA⟩,?_⟩
    refine CallQ.pure 140 (Zq (s.getD n 0)) rfl ?_
    simp only[go_sem,e1]
    refine⟨fun h=>⟨h,h,zA,zA⟩,?_⟩
    rw[g1,Iq,<-qJ]at hin
    rw[hin]at hx
    refine zU (fun hc=>?_) (fun hc=>?_)
    ·rw[hc,if_pos rfl,JR]at hx
     simp only[go_sem,yT (i:=n)]
     exact hb _ _ ⟨n+1,zA,zA,by rw[hx];omega⟩ [] yF z9
    ·rw[hc]at hx
     exact RetQ.int hR rfl ⟨rfl,trivial⟩ (by rw[hx];rfl)
  ·have h1:decide ((n:Int)<(s.length:Int))=false:=yd zA
   have hx:1+((s.drop 1).takeWhile nW).length=n:=by rw[hx,Jl (show s.length<=n by omega)];simp
   simp only[go_sem,h1]
   refine CallQ.guard (xs:=[]) (v:=Bo true) 150 (fun h=>by cases h) (fun h=>by cases h) ?_
   simp only[go_sem,Bool.and_self]
   refine CallQ.guard (xs:=[]) (v:=Bo true) 150 (fun h=>by cases h) (fun h=>by cases h) ?_
   simp only[go_sem,Bool.and_self]
   exact RetQ.int hR rfl ⟨rfl,trivial⟩ (by rw[hx])
theorem gO (s:Str)(h:∀r∈kindT,(s==r.1)=false):yY s=none:=by
 unfold yY
 rw[Ia.2 (fun r hr=>by have:=h r hr;rw[Bool.beq_comm]at this;simp[this])];rfl
theorem gM (s:Str):(yY s).isSome=(kindT.map (·.1)).contains s:=by
 unfold yY
 rw[Option.isSome_map,JQ,List.find?_isSome,IA,JO]
 constructor
 ·rintro⟨r,hr,h⟩;exact⟨r,hr,eq_of_beq h⟩
 ·rintro⟨r,hr,h⟩;exact⟨r,hr,by rw[h];exact beq_self_eq_true s⟩
theorem bN (s:Str):CallOk Hf 183 [S s] [] (.tup [Wi ((yY s).getD (0,0,0)).1,Wi ((yY s).getD (0,0,0)).2.1,Wi ((yY s).getD (0,0,0)).2.2,ZG (yY s).isSome]) []:=by
 refine kN 100 func183 RA ntmps183 fun C hR hP=>?_
 refine vv ?_
 iterate 21
  refine zU (fun hc=>?_) (fun hc=>?_)
  ·have hc:=eq_of_beq hc
   subst hc
   refine vv ?_
   exact yI hR ClM.nil
  try simp only[go_sem]
 have hn:=gO s (by
  unfold kindT
  simp only[List.forall_mem_cons]
  refine⟨?_,?_,?_,?_,?_,?_,?_,?_,?_,?_,?_,?_,?_,?_,?_,?_,?_,?_,?_,?_,?_,fun r hr=>by cases hr⟩<;>assumption)
 rw[hn]at hR
 exact yI hR ClM.nil
theorem ip (s:Str):CallOk Hf 177 [S s] [] (Bo (ng s)) []:=by
 have hq:=gM s
 unfold ng
 rw[<-hq]
 have hk:=bN s
 generalize (yY s).getD (0,0,0)=K at*
 generalize (yY s).isSome=K2 at*
 refine kN 100 func177 RF ntmps177 fun C hR hP=>?_
 refine vv ?_
 refine CallQ.pure 110 hk rfl (vv ?_)
 iterate 7
  refine zU (fun hc=>?_) (fun hc=>?_)
  ·have hc:=eq_of_beq hc
   subst hc
   refine vv ?_
   exact RetQ.bool hR rfl ⟨rfl,trivial⟩ (by cases K2<;>rfl)
  try simp only[go_sem]
 have hn:bB.contains s=false:=by
  unfold bB
  simp only[Jn, *]
  rfl
 exact RetQ.bool hR rfl ⟨rfl,trivial⟩ (by rw[hn];cases K2<;>rfl)
theorem uj (s:Str)(hs:s.length<=1000000000000000):CallOk Hf 116 [S s] [] (Bo (yZ s)) []:=by
 have hne:(s !=[])= !(s==[]):=rfl
 have hlen:decide ((s.length:Int)<=24)=decide (s.length<=24):=by rw[decide_eq_decide];omega
 refine kN 100 func116 QA ntmps116 fun C hR hP=>?_
 cases s with
 |nil=>
  refine vv ?_
  refine CallQ.guard (xs:=[]) (v:=I 0) 150 (fun h=>by cases h) (fun h=>by cases h) (vv ?_)
  refine CallQ.guard (xs:=[]) (v:=Bo true) 150 (fun h=>by cases h) (fun h=>by cases h) (vv ?_)
  exact yL hR rfl
 |cons c r=>
 have hne:((c::r)==([]:Str))=false:=rfl
 have hq:=ep (c::r) zc
 have hnm:yZ (c::r)=(decide ((c::r).length<=24)&&(mN ((c::r).getD 0 0)&&((c::r).all nW&& !ng (c::r)))):=rfl
 rw[hnm]at hR
 generalize c::r=s at*
 simp only[go_sem,hne,hlen,bne,Bool.not_false]
 refine CallQ.guard 150 (fun _=>W1 s hs) (fun h=>by rw[h];rfl) ?_
 simp only[go_sem,hq]
 refine CallQ.guard 150 (fun _=>ip s) (fun h=>by rw[h];rfl) (vv ?_)
 refine yL hR ?_
 cases decide (s.length<=24)<;>cases mN (s.getD 0 0)<;>cases s.all nW<;>rfl
open Vg Tf
@[reducible] def bL (nm:Nat)(u:Un):Nat×Bk:=(nm,⟨false,WC u,3⟩)
theorem KL (nm:Nat)(u:Un):ClM [bL nm u]:=zC rfl
theorem UM (u:Un):CallOk Hf 223 [uu u] [] (LP 1 5) [bL 1 u]:=by
 refine kN 100 func223 Xd ntmps223 fun C hR hP=>?_
 refine vv ?_
 exact RetQ.ren [(1,101)] hR hP rfl (vv trivial) rfl rfl trivial ⟨oR,trivial⟩ (KL 1 u) (zI rfl)
theorem aG:∀(x:Int) (A B:Prop),(¬(-9<=x/\x<=9)->A)->((-9<=x/\x<=9)->B)->(match (bif decide (x< -9)then true else decide (9<x))with|true=>A|false=>B):=by
 intro x A B h1 h2
 by_cases hx: -9<=x/\x<=9
 ·have e1:decide (x< -9)=false:=by simp;omega
  have e2:decide (9<x)=false:=by simp;omega
  rw[e1,e2];exact h2 hx
 ·have:(bif decide (x< -9)then true else decide (9<x))=true:=by
   by_cases h3:x< -9
   ·simp[h3]
   ·simp[h3];omega
  rw[this];exact h1 hx
theorem W2 (u:Un):CallOk Hf 178 [uu u] [] (Bo (uv u)) []:=by
 refine kN 100 func178 Xh ntmps178 fun C hR hP=>?_
 refine vv ?_
 refine CallQ.ren [(1,130)] 131 (UM u) ClM.nil rfl rfl trivial rfl (.inl rfl) (vv ?_)
 refine x6 6 (zB 131 ?_)
 refine vv ?_
 refine aG u.m _ _ (fun h=>RetQ.bool hR rfl ⟨rfl,trivial⟩ (by unfold uv vI;simp[h])) fun h0=>?_
 refine aG u.kg _ _ (fun h=>RetQ.bool hR rfl ⟨rfl,trivial⟩ (by unfold uv vI;simp[h])) fun h1=>?_
 refine aG u.s _ _ (fun h=>RetQ.bool hR rfl ⟨rfl,trivial⟩ (by unfold uv vI;simp[h])) fun h2=>?_
 refine aG u.a _ _ (fun h=>RetQ.bool hR rfl ⟨rfl,trivial⟩ (by unfold uv vI;simp[h])) fun h3=>?_
 refine aG u.k _ _ (fun h=>RetQ.bool hR rfl ⟨rfl,trivial⟩ (by unfold uv vI;simp[h])) fun h4=>?_
 exact RetQ.bool hR rfl ⟨rfl,trivial⟩ (by unfold uv vI;simp[h0,h1,h2,h3,h4])
end Go.Proofs.YtkciabfilokfiaaGreat.Fx
