/-  -/
import Derived.Test.YtbnkiacicnnmkaaGreatQF
set_option linter.unusedSimpArgs false
set_option linter.unusedVariables false
set_option maxRecDepth 100000
set_option maxHeartbeats 4000000
namespace Go.Proofs.YtbnkiacicnnmkaaGreat.Fx
open Vg Tf
def m6 (t:Ft):Un:=⟨t.m,t.kg,t.s,t.a,t.k⟩
def yt (a b:Un):Bool:=(a.m==b.m)&&((a.kg==b.kg)&&((a.s==b.s)&&((a.a==b.a)&&(a.k==b.k))))
theorem bJ {H:Hp}(u t:Un)(pv:Value)(hp:PtH H pv (xI t)):CallH H Tryz.prog 249 [z3 (xI u),.c (.v pv)] (Bo (!yt u t)):=by
 refine kH Tryz.func249 TK Tryz.ntmps249 fun C hR hP hH hL=>?_
 refine zX 1 53 1 (hp.mono hH) rfl rfl (zB 100 ?_)
 refine vv ?_
 exact zp (hR C hL) rfl
theorem Qp {H:Hp}(u t:Un)(pv:Value)(hp:PtH H pv (xI t)):CallH H Tryz.prog 250 [z3 (xI u),.c (.v pv)] (Bo (!yt u t)):=by
 refine kH Tryz.func250 TJ Tryz.ntmps250 fun C hR hP hH hL=>?_
 refine zX 1 53 1 (hp.mono hH) rfl rfl (zB 100 ?_)
 refine vv ?_
 exact zp (hR C hL) rfl
def Wo:Str:=[115,119,105,116,99,104]
def NY:Str:=[97,100,100]
def Qy:Str:=[115,117,98]
def PN:Str:=[110,101,103]
def NL:Str:=[99,111,110,118,101,114,116]
def PS:Str:=[109,105,110]
def PW:Str:=[109,97,120]
def PR:Str:=[109,117,108]
def NC:Str:=[100,105,118]
def P3:Str:=[108,101,115,115]
def Pr:Str:=[101,113,117,97,108]
def NT:Str:=[97,110,100]
def Ld:Str:=[111,114]
def PM:Str:=[110,111,116]
def Yf (kd:Str)(t:Un)(us:List Un):Bool:=
 if [NY,Qy,PN,NL,PS,PW,aR,lV,aT].contains kd=true then us.all (fun u=>yt u t)
 else if (kd==Wo)=true then yt (us.getD 0 u0) u0&&(yt (us.getD 1 u0) t&&yt (us.getD 2 u0) t)
 else if (kd==PR)=true then(mP (us.getD 0 u0) (us.getD 1 u0) 1==0)&&yt (la (us.getD 0 u0) (us.getD 1 u0) 1) t
 else if (kd==NC)=true then(mP (us.getD 0 u0) (us.getD 1 u0) (-1)==0)&&yt (la (us.getD 0 u0) (us.getD 1 u0) (-1)) t
 else if (kd==P3||kd==Pr)=true then yt (us.getD 0 u0) (us.getD 1 u0)&&yt t u0
 else if (kd==NT||(kd==Ld||kd==PM))=true then yt t u0&&us.all (fun u=>yt u u0)
 else if (kd==aY)=true then yt t u0 else true
theorem vl {s:Str}{q:Nat×Nat×Nat}(h:ym s=some q):(s,q)∈kindT:=by
 unfold ym at h
 cases hf:kindT.find? (fun r=>r.1==s)with
 |none=>rw[hf]at h;cases h
 |some r=>
  rw[hf]at h
  simp only[Jj,Ji]at h
  have h1:=List.find?_some hf
  have h2:=IW hf
  have:r.1=s:=by simpa using h1
  subst this
  rw[<-h];exact h2
def bI (d:Dg)(b:Bl):List Un:=b.ins.map fun s=>m6 (xb d (wv (zU d) s))
@[go_sem ↓] theorem QZ:rm 1 5=[(0,5)]:=rfl
theorem gY (l:List Un)(i:Nat)(h:i<l.length):((zC (l.map xI)).drop (i*5)).take 5=(xI l[i]).map Cv.v:=zW (r:=xI) (k:=5) (fun _=>rfl) l i h
theorem _root_.Go.Proofs.YtbnkiacicnnmkaaGreat.Vg.Known.vslx {H:Hp}{β:Vl}{n:Nat}{b:Bk}(h:Known H β n b){sz:Nat}{rows:List (List Value)}(hr:∀r∈rows,r.length=sz)(hc:b.cells=zC rows):∃s:Sv,y7 β (.sl n 0 rows.length sz)=vsl s rows.length/\SlH H (vsl s rows.length) sz rows:=by
 have h1:=h.sl hr hc
 obtain⟨s,hs⟩:∃s:Sv,y7 β (.sl n 0 rows.length sz)=vsl s rows.length:=by
  unfold y7
  simp only[Cv.g]
  split
  ·rename_i hh;rw[hh.2];unfold Loc.emp;split<;>first|exact⟨⟨none,0⟩,rfl⟩|exact⟨⟨some _,_⟩,rfl⟩
  ·exact⟨⟨_,_⟩,rfl⟩
 exact⟨s,hs,by rw[<-hs];exact h1⟩
theorem Yc {H:Hp}{cp:Value}{d:DgL}{bT bC' bM bS:Nat}(k:Ck H cp d bT bC' bM bS)(b:BlL)(hb:b.ok H)(hok:xj b.c=true)(hne:0<d.bls.length)(hin:∀s∈b.c.ins,mb (zU d.c) s=true):
  CallH H Tryz.prog 206 [.c (.v cp),z3 b.r] (Bo (Yf b.c.kd (m6 (yG d.tys b.c.ty)) (bI d.c b.c))):=by
 have hn1:=k.n1
 have hn2:=k.n2
 have hil:b.c.ins.length<=3:=by
  have h1:=hok
  unfold xj at h1
  cases hq:ym b.c.kd with
  |none=>rw[hq]at h1;cases h1
  |some q=>
   obtain⟨a,n,t⟩:=q
   rw[hq]at h1
   simp only[JB,decide_eq_true_eq]at h1
   have hm:=vl hq
   have:∀r∈kindT,r.2.1<=3:=yp
   have:=this _ hm
   simp only at this
   omega
 obtain⟨b0,o0,rfl,c0,el0,mk0,hc0,hcc⟩:=PtH.at k.c.p
 refine kH Tryz.func206 Tv Tryz.ntmps206 fun C hR hP hH hL=>?_
 have hpt:=k.c.p.mono hH
 refine yB (hb.mono hH) 1 ⟨rfl,rfl⟩ rfl (zB 100 ?_)
 refine vv ?_
 refine Sm.dg 110 9 zi (vv ?_)
 refine DOpQ.own 120 (zg rfl rfl) (vv ?_)
 refine DOpQ.own 120 (zT rfl rfl rfl) (vv ?_)
 refine zF 120 (fun _=>zS (hH _ _ hc0) (hcc 7 _ rfl) rfl rfl rfl) (vv ?_)
 refine zF 120 (fun _=>xh (k.c.t.mono hH) rfl rfl rfl) (vv ?_)
 have htyn:=fun s hs=>qK k (wv (zU d.c) s) (by
  have h1:=hin s hs
  unfold mb at h1
  obtain⟨i,hi⟩:=JE.1 h1
  have:=sP s _ 0 i hi
  have e:wv (zU d.c) s=i:=by unfold wv;rw[hi];rfl
  rw[e,<-ve d];omega)
 generalize htu:m6 (yG d.tys b.c.ty)=tu at*
 have htu1:[Cv.v (.int .i64 (yG d.tys b.c.ty).m),Cv.v (.int .i64 (yG d.tys b.c.ty).kg),Cv.v (.int .i64 (yG d.tys b.c.ty).s),Cv.v (.int .i64 (yG d.tys b.c.ty).a),Cv.v (.int .i64 (yG d.tys b.c.ty).k)]=(xI tu).map Cv.v:=by rw[<-htu];rfl
 rw[htu1]
 refine x9 140 5 53 [6] [] rfl (vv ?_)
 have hus:bI d.c b.c=b.c.ins.map (fun s=>m6 (xb d.c (wv (zU d.c) s))):=rfl
 generalize hUF:(fun s=>m6 (xb d.c (wv (zU d.c) s)))=UF at*
 rw[hus]at hR
 refine zK (M0:=[]) (α:={i:Nat//i<=b.c.ins.length}) hP (fun i=>[(0,true,.c (.v (.pointer (some ⟨b0,o0,none⟩)))),(3,true,.c (.p 3 0)),(5,true,.c (.p 5 0)),(6,true,.c (.sl 6 0 i.val 5)),(23,true,.c (.sl 11 0 b.c.ins.length 1)),(24,true,I b.c.ins.length),(25,true,I i.val)])
  (fun i=>[(3,⟨false,Qb b,64⟩),(5,⟨false,(xI tu).map .v,53⟩),(6,⟨false,zC (((b.c.ins.take i.val).map UF).map xI),53⟩),(11,⟨true,b.c.ins.map sC,9⟩),(12,⟨true,b.c.ks.map iC,3⟩)]) (fun i=>b.c.ins.length-i.val) ⟨0,zA⟩ (fun _=>zD (by simp only[Kw,iR,z6 (kG _),z6 (y8 _),z6 (zq _)];rfl)) (fun _=>zO rfl) [(3,100),(5,120),(6,140),(11,11),(12,12)] ?_ ?_
 ·exact zh
 ·rintro⟨i,hi⟩ J hj
  simp only at hj hi⊢
  refine zB 150 (vv ?_)
  refine zV (fun hc=>?_) (fun hc=>?_)
  ·have hc:=zH hc
   simp only[go_sem,vV hc]
   refine⟨⟨zA,zA⟩,?_⟩
   have hmem:b.c.ins[i]∈b.c.ins:=JH hc
   have htk:(b.c.ins.take (i+1)).map UF=(b.c.ins.take i).map UF++[UF b.c.ins[i]]:=by rw[JR hc,JN];rfl
   have ht:=htyn _ hmem
   have huf:UF b.c.ins[i]=m6 (xb d.c (wv (zU d.c) b.c.ins[i])):=by rw[<-hUF]
   have hlen:(zC (((b.c.ins.take i).map UF).map xI)).length=i*5:=by
    rw[zQ (r:=xI) (k:=5) (fun _=>rfl)];simp;omega
   generalize b.c.ins[i]=s at*
   refine zX 1 191 31 hpt rfl rfl (zB 150 ?_)
   refine vv ?_
   refine z4 150 rfl rfl (.inl rfl) (fun _=>aP (k.c.s.mono hH) rfl rfl rfl) (vv ?_)
   refine zM 160 ht hH rfl ?_
   generalize xb d.c (wv (zU d.c) s)=tt at*
   refine vv ?_
   have hap:List.take (i*5) (zC (((b.c.ins.take i).map UF).map xI))++[Cv.v (.int .i64 tt.m),Cv.v (.int .i64 tt.kg),Cv.v (.int .i64 tt.s),Cv.v (.int .i64 tt.a),Cv.v (.int .i64 tt.k)]=zC (((b.c.ins.take (i+1)).map UF).map xI):=by
    rw[JJ zA,htk,huf]
    simp only[zC,JN,Ib,Ky,Kz,List.flatten_cons,List.flatten_nil,JK]
    rfl
   simp only[hap,hlen,yu (i:=i)]
   refine⟨⟨zA,zA,zA⟩,?_⟩
   exact hj _ _ ⟨i+1,hc⟩ [(3,3),(5,5),(6,161),(11,11),(12,12)] yL zh
  ·have hc:=zI hi hc
   subst hc
   rw[JY]
   have hq:∃q,ym b.c.kd=some q:=by
    have h1:=hok
    unfold xj at h1
    cases hq:ym b.c.kd with
    |none=>rw[hq]at h1;cases h1
    |some q=>exact⟨q,rfl⟩
   obtain⟨q,hq⟩:=hq
   have hm:=vl hq
   have hlen:=fun kd (hk:(b.c.kd==kd)=true) a n t (hq:ym kd=some (a,n,t))=>(xw hok hk hq).1
   have hul:(b.c.ins.map UF).length=b.c.ins.length:=Kv _
   have hz:=zQ (r:=xI) (k:=5) (fun _=>rfl) (b.c.ins.map UF)
   rw[hul]at hz
   have hgt:∀i,i<b.c.ins.length->((zC ((b.c.ins.map UF).map xI)).drop (i*5)).take 5=(xI ((b.c.ins.map UF).getD i u0)).map Cv.v:=fun i hi=>by
    rw[gY (b.c.ins.map UF) i zA,Kx,JA zA];rfl
   have ht0:0<b.c.ins.length->(zC ((b.c.ins.map UF).map xI)).take 5=(xI ((b.c.ins.map UF).getD 0 u0)).map Cv.v:=fun h=>hgt 0 h
   have ht1:1<b.c.ins.length->((zC ((b.c.ins.map UF).map xI)).drop 5).take 5=(xI ((b.c.ins.map UF).getD 1 u0)).map Cv.v:=fun h=>hgt 1 h
   have ht2:2<b.c.ins.length->((zC ((b.c.ins.map UF).map xI)).drop 10).take 5=(xI ((b.c.ins.map UF).getD 2 u0)).map Cv.v:=fun h=>hgt 2 h
   clear hgt
   generalize hULe:b.c.ins.map UF=UL at*
   simp only[kindT,J3,IS,or_false,I3]at hm
   rcases hm with⟨hkd,rfl⟩|⟨hkd,rfl⟩|⟨hkd,rfl⟩|⟨hkd,rfl⟩|⟨hkd,rfl⟩|⟨hkd,rfl⟩|⟨hkd,rfl⟩|⟨hkd,rfl⟩|⟨hkd,rfl⟩|⟨hkd,rfl⟩|⟨hkd,rfl⟩|⟨hkd,rfl⟩|⟨hkd,rfl⟩|⟨hkd,rfl⟩|⟨hkd,rfl⟩|⟨hkd,rfl⟩|⟨hkd,rfl⟩|⟨hkd,rfl⟩|⟨hkd,rfl⟩|⟨hkd,rfl⟩|⟨hkd,rfl⟩
   ·-- const
    obtain⟨e0,e1,e2,e3,e4,e5,e6,e7,e8,e9,e10,e11,e12,e13,e14,e15,e16,e17⟩:(b.c.kd==[97,100,100])=false/\(b.c.kd==[115,117,98])=false/\(b.c.kd==[110,101,103])=false/\(b.c.kd==[99,111,110,118,101,114,116])=false/\(b.c.kd==[109,105,110])=false/\(b.c.kd==[109,97,120])=false/\(b.c.kd==[108,105,109,105,116])=false/\(b.c.kd==[100,101,108,97,121])=false/\(b.c.kd==[108,97,103])=false/\(b.c.kd==[115,119,105,116,99,104])=false/\(b.c.kd==[109,117,108])=false/\(b.c.kd==[100,105,118])=false/\(b.c.kd==[108,101,115,115])=false/\(b.c.kd==[101,113,117,97,108])=false/\(b.c.kd==[97,110,100])=false/\(b.c.kd==[111,114])=false/\(b.c.kd==[110,111,116])=false/\(b.c.kd==[104,121,115,116,101,114,101,115,105,115])=false:=by rw[hkd];decide
    rw[hkd]at hR
    refine CallQ.pure 170 vT rfl ?_
    simp only[go_sem,e0,e1,e2,e3,e4,e5,e6,e7,e8,e9,e10,e11,e12,e13,e14,e15,e16,e17]
    exact zp (hR C hL) rfl
   ·-- add
    obtain⟨e0,e1,e2,e3,e4,e5,e6,e7,e8,e9,e10,e11,e12,e13,e14,e15,e16,e17⟩:(b.c.kd==[97,100,100])=true/\(b.c.kd==[115,117,98])=false/\(b.c.kd==[110,101,103])=false/\(b.c.kd==[99,111,110,118,101,114,116])=false/\(b.c.kd==[109,105,110])=false/\(b.c.kd==[109,97,120])=false/\(b.c.kd==[108,105,109,105,116])=false/\(b.c.kd==[100,101,108,97,121])=false/\(b.c.kd==[108,97,103])=false/\(b.c.kd==[115,119,105,116,99,104])=false/\(b.c.kd==[109,117,108])=false/\(b.c.kd==[100,105,118])=false/\(b.c.kd==[108,101,115,115])=false/\(b.c.kd==[101,113,117,97,108])=false/\(b.c.kd==[97,110,100])=false/\(b.c.kd==[111,114])=false/\(b.c.kd==[110,111,116])=false/\(b.c.kd==[104,121,115,116,101,114,101,115,105,115])=false:=by rw[hkd];decide
    rw[hkd]at hR
    refine CallQ.pure 170 vT rfl ?_
    simp only[go_sem,e0,e1,e2,e3,e4,e5,e6,e7,e8,e9,e10,e11,e12,e13,e14,e15,e16,e17]
    refine CallQ.letgo (xs:=[_,_]) (M0:=[]) [5,6] hL hP rfl (by unfold yC;simp only[Kw,yF (zJ _),yF (y8 _),yF (zq _)];rfl) rfl vr rfl rfl (fun β Cn l1 l2 l3=>?_)
    have hpt:=(l3 5 _ rfl rfl rfl).pt z9
    obtain⟨sN,hsv,hsN⟩:=(l3 6 _ rfl rfl rfl).vslx (sz:=5) (rows:=UL.map xI) (fun r hr=>by obtain⟨x,_,rfl⟩:=JL.1 hr;rfl) rfl
    have h5:(UL.map xI).length=UL.length:=Kv _
    rw[h5]at hsN hsv
    have hsv1:y7 β (.sl 6 0 b.c.ins.length 5)=vsl sN UL.length:=by rw[<-hul];exact hsv
    have hxs:List.map (V.conc [5,6] β) [V.c (Cv.sl 6 0 b.c.ins.length 5),V.c (Cv.fn 249 [(5,0)])]=[.c (.v (vsl sN UL.length)),Fv 249 #[xl β 5 0]]:=by rw[<-hsv1];rfl
    rw[hxs]
    refine yO 190 l1 (u6 sN UL hsN zA 249 #[xl β 5 0] (fun u=> !yt u tu) (fun u _=>bJ u tu _ hpt)) (Hp.le.refl _) rfl (fun Cm m1 m2=>?_)
    refine vv ?_
    refine zp (hR Cm m1) ?_
    show(!(UL.any fun u=> !yt u tu))=UL.all (fun u=>yt u tu)
    rw[JU]
   ·-- sub
    obtain⟨e0,e1,e2,e3,e4,e5,e6,e7,e8,e9,e10,e11,e12,e13,e14,e15,e16,e17⟩:(b.c.kd==[97,100,100])=false/\(b.c.kd==[115,117,98])=true/\(b.c.kd==[110,101,103])=false/\(b.c.kd==[99,111,110,118,101,114,116])=false/\(b.c.kd==[109,105,110])=false/\(b.c.kd==[109,97,120])=false/\(b.c.kd==[108,105,109,105,116])=false/\(b.c.kd==[100,101,108,97,121])=false/\(b.c.kd==[108,97,103])=false/\(b.c.kd==[115,119,105,116,99,104])=false/\(b.c.kd==[109,117,108])=false/\(b.c.kd==[100,105,118])=false/\(b.c.kd==[108,101,115,115])=false/\(b.c.kd==[101,113,117,97,108])=false/\(b.c.kd==[97,110,100])=false/\(b.c.kd==[111,114])=false/\(b.c.kd==[110,111,116])=false/\(b.c.kd==[104,121,115,116,101,114,101,115,105,115])=false:=by rw[hkd];decide
    rw[hkd]at hR
    refine CallQ.pure 170 vT rfl ?_
    simp only[go_sem,e0,e1,e2,e3,e4,e5,e6,e7,e8,e9,e10,e11,e12,e13,e14,e15,e16,e17]
    refine CallQ.letgo (xs:=[_,_]) (M0:=[]) [5,6] hL hP rfl (by unfold yC;simp only[Kw,yF (zJ _),yF (y8 _),yF (zq _)];rfl) rfl vr rfl rfl (fun β Cn l1 l2 l3=>?_)
    have hpt:=(l3 5 _ rfl rfl rfl).pt z9
    obtain⟨sN,hsv,hsN⟩:=(l3 6 _ rfl rfl rfl).vslx (sz:=5) (rows:=UL.map xI) (fun r hr=>by obtain⟨x,_,rfl⟩:=JL.1 hr;rfl) rfl
    have h5:(UL.map xI).length=UL.length:=Kv _
    rw[h5]at hsN hsv
    have hsv1:y7 β (.sl 6 0 b.c.ins.length 5)=vsl sN UL.length:=by rw[<-hul];exact hsv
    have hxs:List.map (V.conc [5,6] β) [V.c (Cv.sl 6 0 b.c.ins.length 5),V.c (Cv.fn 249 [(5,0)])]=[.c (.v (vsl sN UL.length)),Fv 249 #[xl β 5 0]]:=by rw[<-hsv1];rfl
    rw[hxs]
    refine yO 190 l1 (u6 sN UL hsN zA 249 #[xl β 5 0] (fun u=> !yt u tu) (fun u _=>bJ u tu _ hpt)) (Hp.le.refl _) rfl (fun Cm m1 m2=>?_)
    refine vv ?_
    refine zp (hR Cm m1) ?_
    show(!(UL.any fun u=> !yt u tu))=UL.all (fun u=>yt u tu)
    rw[JU]
   ·-- mul
    obtain⟨e0,e1,e2,e3,e4,e5,e6,e7,e8,e9,e10,e11,e12,e13,e14,e15,e16,e17⟩:(b.c.kd==[97,100,100])=false/\(b.c.kd==[115,117,98])=false/\(b.c.kd==[110,101,103])=false/\(b.c.kd==[99,111,110,118,101,114,116])=false/\(b.c.kd==[109,105,110])=false/\(b.c.kd==[109,97,120])=false/\(b.c.kd==[108,105,109,105,116])=false/\(b.c.kd==[100,101,108,97,121])=false/\(b.c.kd==[108,97,103])=false/\(b.c.kd==[115,119,105,116,99,104])=false/\(b.c.kd==[109,117,108])=true/\(b.c.kd==[100,105,118])=false/\(b.c.kd==[108,101,115,115])=false/\(b.c.kd==[101,113,117,97,108])=false/\(b.c.kd==[97,110,100])=false/\(b.c.kd==[111,114])=false/\(b.c.kd==[110,111,116])=false/\(b.c.kd==[104,121,115,116,101,114,101,115,105,115])=false:=by rw[hkd];decide
    rw[hkd]at hR
    refine CallQ.pure 170 vT rfl ?_
    simp only[go_sem,e0,e1,e2,e3,e4,e5,e6,e7,e8,e9,e10,e11,e12,e13,e14,e15,e16,e17]
    have hl:=hlen _ e10 2 0 0 rfl
    refine Sm.dg 180 12 zi ?_
    simp only[go_sem,ht0 zA,ht1 zA,hz,Jb]
    refine⟨zA,zA,zA,zA,?_⟩
    refine DCallQ.pure 190 (PQ (UL.getD 0 u0) (UL.getD 1 u0)) rfl (vv ?_)
    refine zp (hR C hL) ?_
    show(bif (mP (UL.getD 0 u0) (UL.getD 1 u0) 1==0)then yt (la (UL.getD 0 u0) (UL.getD 1 u0) 1) tu else false)=((mP (UL.getD 0 u0) (UL.getD 1 u0) 1==0)&&yt (la (UL.getD 0 u0) (UL.getD 1 u0) 1) tu)
    exact xg _ _
   ·-- div
    obtain⟨e0,e1,e2,e3,e4,e5,e6,e7,e8,e9,e10,e11,e12,e13,e14,e15,e16,e17⟩:(b.c.kd==[97,100,100])=false/\(b.c.kd==[115,117,98])=false/\(b.c.kd==[110,101,103])=false/\(b.c.kd==[99,111,110,118,101,114,116])=false/\(b.c.kd==[109,105,110])=false/\(b.c.kd==[109,97,120])=false/\(b.c.kd==[108,105,109,105,116])=false/\(b.c.kd==[100,101,108,97,121])=false/\(b.c.kd==[108,97,103])=false/\(b.c.kd==[115,119,105,116,99,104])=false/\(b.c.kd==[109,117,108])=false/\(b.c.kd==[100,105,118])=true/\(b.c.kd==[108,101,115,115])=false/\(b.c.kd==[101,113,117,97,108])=false/\(b.c.kd==[97,110,100])=false/\(b.c.kd==[111,114])=false/\(b.c.kd==[110,111,116])=false/\(b.c.kd==[104,121,115,116,101,114,101,115,105,115])=false:=by rw[hkd];decide
    rw[hkd]at hR
    refine CallQ.pure 170 vT rfl ?_
    simp only[go_sem,e0,e1,e2,e3,e4,e5,e6,e7,e8,e9,e10,e11,e12,e13,e14,e15,e16,e17]
    have hl:=hlen _ e11 2 0 0 rfl
    refine Sm.dg 180 12 zi ?_
    simp only[go_sem,ht0 zA,ht1 zA,hz,Jb]
    refine⟨zA,zA,zA,zA,?_⟩
    refine DCallQ.pure 190 (Re (UL.getD 0 u0) (UL.getD 1 u0)) rfl (vv ?_)
    refine zp (hR C hL) ?_
    show(bif (mP (UL.getD 0 u0) (UL.getD 1 u0) (-1)==0)then yt (la (UL.getD 0 u0) (UL.getD 1 u0) (-1)) tu else false)=((mP (UL.getD 0 u0) (UL.getD 1 u0) (-1)==0)&&yt (la (UL.getD 0 u0) (UL.getD 1 u0) (-1)) tu)
    exact xg _ _
   ·-- neg
    obtain⟨e0,e1,e2,e3,e4,e5,e6,e7,e8,e9,e10,e11,e12,e13,e14,e15,e16,e17⟩:(b.c.kd==[97,100,100])=false/\(b.c.kd==[115,117,98])=false/\(b.c.kd==[110,101,103])=true/\(b.c.kd==[99,111,110,118,101,114,116])=false/\(b.c.kd==[109,105,110])=false/\(b.c.kd==[109,97,120])=false/\(b.c.kd==[108,105,109,105,116])=false/\(b.c.kd==[100,101,108,97,121])=false/\(b.c.kd==[108,97,103])=false/\(b.c.kd==[115,119,105,116,99,104])=false/\(b.c.kd==[109,117,108])=false/\(b.c.kd==[100,105,118])=false/\(b.c.kd==[108,101,115,115])=false/\(b.c.kd==[101,113,117,97,108])=false/\(b.c.kd==[97,110,100])=false/\(b.c.kd==[111,114])=false/\(b.c.kd==[110,111,116])=false/\(b.c.kd==[104,121,115,116,101,114,101,115,105,115])=false:=by rw[hkd];decide
    rw[hkd]at hR
    refine CallQ.pure 170 vT rfl ?_
    simp only[go_sem,e0,e1,e2,e3,e4,e5,e6,e7,e8,e9,e10,e11,e12,e13,e14,e15,e16,e17]
    refine CallQ.letgo (xs:=[_,_]) (M0:=[]) [5,6] hL hP rfl (by unfold yC;simp only[Kw,yF (zJ _),yF (y8 _),yF (zq _)];rfl) rfl vr rfl rfl (fun β Cn l1 l2 l3=>?_)
    have hpt:=(l3 5 _ rfl rfl rfl).pt z9
    obtain⟨sN,hsv,hsN⟩:=(l3 6 _ rfl rfl rfl).vslx (sz:=5) (rows:=UL.map xI) (fun r hr=>by obtain⟨x,_,rfl⟩:=JL.1 hr;rfl) rfl
    have h5:(UL.map xI).length=UL.length:=Kv _
    rw[h5]at hsN hsv
    have hsv1:y7 β (.sl 6 0 b.c.ins.length 5)=vsl sN UL.length:=by rw[<-hul];exact hsv
    have hxs:List.map (V.conc [5,6] β) [V.c (Cv.sl 6 0 b.c.ins.length 5),V.c (Cv.fn 249 [(5,0)])]=[.c (.v (vsl sN UL.length)),Fv 249 #[xl β 5 0]]:=by rw[<-hsv1];rfl
    rw[hxs]
    refine yO 190 l1 (u6 sN UL hsN zA 249 #[xl β 5 0] (fun u=> !yt u tu) (fun u _=>bJ u tu _ hpt)) (Hp.le.refl _) rfl (fun Cm m1 m2=>?_)
    refine vv ?_
    refine zp (hR Cm m1) ?_
    show(!(UL.any fun u=> !yt u tu))=UL.all (fun u=>yt u tu)
    rw[JU]
   ·-- min
    obtain⟨e0,e1,e2,e3,e4,e5,e6,e7,e8,e9,e10,e11,e12,e13,e14,e15,e16,e17⟩:(b.c.kd==[97,100,100])=false/\(b.c.kd==[115,117,98])=false/\(b.c.kd==[110,101,103])=false/\(b.c.kd==[99,111,110,118,101,114,116])=false/\(b.c.kd==[109,105,110])=true/\(b.c.kd==[109,97,120])=false/\(b.c.kd==[108,105,109,105,116])=false/\(b.c.kd==[100,101,108,97,121])=false/\(b.c.kd==[108,97,103])=false/\(b.c.kd==[115,119,105,116,99,104])=false/\(b.c.kd==[109,117,108])=false/\(b.c.kd==[100,105,118])=false/\(b.c.kd==[108,101,115,115])=false/\(b.c.kd==[101,113,117,97,108])=false/\(b.c.kd==[97,110,100])=false/\(b.c.kd==[111,114])=false/\(b.c.kd==[110,111,116])=false/\(b.c.kd==[104,121,115,116,101,114,101,115,105,115])=false:=by rw[hkd];decide
    rw[hkd]at hR
    refine CallQ.pure 170 vT rfl ?_
    simp only[go_sem,e0,e1,e2,e3,e4,e5,e6,e7,e8,e9,e10,e11,e12,e13,e14,e15,e16,e17]
    refine CallQ.letgo (xs:=[_,_]) (M0:=[]) [5,6] hL hP rfl (by unfold yC;simp only[Kw,yF (zJ _),yF (y8 _),yF (zq _)];rfl) rfl vr rfl rfl (fun β Cn l1 l2 l3=>?_)
    have hpt:=(l3 5 _ rfl rfl rfl).pt z9
    obtain⟨sN,hsv,hsN⟩:=(l3 6 _ rfl rfl rfl).vslx (sz:=5) (rows:=UL.map xI) (fun r hr=>by obtain⟨x,_,rfl⟩:=JL.1 hr;rfl) rfl
    have h5:(UL.map xI).length=UL.length:=Kv _
    rw[h5]at hsN hsv
    have hsv1:y7 β (.sl 6 0 b.c.ins.length 5)=vsl sN UL.length:=by rw[<-hul];exact hsv
    have hxs:List.map (V.conc [5,6] β) [V.c (Cv.sl 6 0 b.c.ins.length 5),V.c (Cv.fn 249 [(5,0)])]=[.c (.v (vsl sN UL.length)),Fv 249 #[xl β 5 0]]:=by rw[<-hsv1];rfl
    rw[hxs]
    refine yO 190 l1 (u6 sN UL hsN zA 249 #[xl β 5 0] (fun u=> !yt u tu) (fun u _=>bJ u tu _ hpt)) (Hp.le.refl _) rfl (fun Cm m1 m2=>?_)
    refine vv ?_
    refine zp (hR Cm m1) ?_
    show(!(UL.any fun u=> !yt u tu))=UL.all (fun u=>yt u tu)
    rw[JU]
   ·-- max
    obtain⟨e0,e1,e2,e3,e4,e5,e6,e7,e8,e9,e10,e11,e12,e13,e14,e15,e16,e17⟩:(b.c.kd==[97,100,100])=false/\(b.c.kd==[115,117,98])=false/\(b.c.kd==[110,101,103])=false/\(b.c.kd==[99,111,110,118,101,114,116])=false/\(b.c.kd==[109,105,110])=false/\(b.c.kd==[109,97,120])=true/\(b.c.kd==[108,105,109,105,116])=false/\(b.c.kd==[100,101,108,97,121])=false/\(b.c.kd==[108,97,103])=false/\(b.c.kd==[115,119,105,116,99,104])=false/\(b.c.kd==[109,117,108])=false/\(b.c.kd==[100,105,118])=false/\(b.c.kd==[108,101,115,115])=false/\(b.c.kd==[101,113,117,97,108])=false/\(b.c.kd==[97,110,100])=false/\(b.c.kd==[111,114])=false/\(b.c.kd==[110,111,116])=false/\(b.c.kd==[104,121,115,116,101,114,101,115,105,115])=false:=by rw[hkd];decide
    rw[hkd]at hR
    refine CallQ.pure 170 vT rfl ?_
    simp only[go_sem,e0,e1,e2,e3,e4,e5,e6,e7,e8,e9,e10,e11,e12,e13,e14,e15,e16,e17]
    refine CallQ.letgo (xs:=[_,_]) (M0:=[]) [5,6] hL hP rfl (by unfold yC;simp only[Kw,yF (zJ _),yF (y8 _),yF (zq _)];rfl) rfl vr rfl rfl (fun β Cn l1 l2 l3=>?_)
    have hpt:=(l3 5 _ rfl rfl rfl).pt z9
    obtain⟨sN,hsv,hsN⟩:=(l3 6 _ rfl rfl rfl).vslx (sz:=5) (rows:=UL.map xI) (fun r hr=>by obtain⟨x,_,rfl⟩:=JL.1 hr;rfl) rfl
    have h5:(UL.map xI).length=UL.length:=Kv _
    rw[h5]at hsN hsv
    have hsv1:y7 β (.sl 6 0 b.c.ins.length 5)=vsl sN UL.length:=by rw[<-hul];exact hsv
    have hxs:List.map (V.conc [5,6] β) [V.c (Cv.sl 6 0 b.c.ins.length 5),V.c (Cv.fn 249 [(5,0)])]=[.c (.v (vsl sN UL.length)),Fv 249 #[xl β 5 0]]:=by rw[<-hsv1];rfl
    rw[hxs]
    refine yO 190 l1 (u6 sN UL hsN zA 249 #[xl β 5 0] (fun u=> !yt u tu) (fun u _=>bJ u tu _ hpt)) (Hp.le.refl _) rfl (fun Cm m1 m2=>?_)
    refine vv ?_
    refine zp (hR Cm m1) ?_
    show(!(UL.any fun u=> !yt u tu))=UL.all (fun u=>yt u tu)
    rw[JU]
   ·-- limit
    obtain⟨e0,e1,e2,e3,e4,e5,e6,e7,e8,e9,e10,e11,e12,e13,e14,e15,e16,e17⟩:(b.c.kd==[97,100,100])=false/\(b.c.kd==[115,117,98])=false/\(b.c.kd==[110,101,103])=false/\(b.c.kd==[99,111,110,118,101,114,116])=false/\(b.c.kd==[109,105,110])=false/\(b.c.kd==[109,97,120])=false/\(b.c.kd==[108,105,109,105,116])=true/\(b.c.kd==[100,101,108,97,121])=false/\(b.c.kd==[108,97,103])=false/\(b.c.kd==[115,119,105,116,99,104])=false/\(b.c.kd==[109,117,108])=false/\(b.c.kd==[100,105,118])=false/\(b.c.kd==[108,101,115,115])=false/\(b.c.kd==[101,113,117,97,108])=false/\(b.c.kd==[97,110,100])=false/\(b.c.kd==[111,114])=false/\(b.c.kd==[110,111,116])=false/\(b.c.kd==[104,121,115,116,101,114,101,115,105,115])=false:=by rw[hkd];decide
    rw[hkd]at hR
    refine CallQ.pure 170 vT rfl ?_
    simp only[go_sem,e0,e1,e2,e3,e4,e5,e6,e7,e8,e9,e10,e11,e12,e13,e14,e15,e16,e17]
    refine CallQ.letgo (xs:=[_,_]) (M0:=[]) [5,6] hL hP rfl (by unfold yC;simp only[Kw,yF (zJ _),yF (y8 _),yF (zq _)];rfl) rfl vr rfl rfl (fun β Cn l1 l2 l3=>?_)
    have hpt:=(l3 5 _ rfl rfl rfl).pt z9
    obtain⟨sN,hsv,hsN⟩:=(l3 6 _ rfl rfl rfl).vslx (sz:=5) (rows:=UL.map xI) (fun r hr=>by obtain⟨x,_,rfl⟩:=JL.1 hr;rfl) rfl
    have h5:(UL.map xI).length=UL.length:=Kv _
    rw[h5]at hsN hsv
    have hsv1:y7 β (.sl 6 0 b.c.ins.length 5)=vsl sN UL.length:=by rw[<-hul];exact hsv
    have hxs:List.map (V.conc [5,6] β) [V.c (Cv.sl 6 0 b.c.ins.length 5),V.c (Cv.fn 249 [(5,0)])]=[.c (.v (vsl sN UL.length)),Fv 249 #[xl β 5 0]]:=by rw[<-hsv1];rfl
    rw[hxs]
    refine yO 190 l1 (u6 sN UL hsN zA 249 #[xl β 5 0] (fun u=> !yt u tu) (fun u _=>bJ u tu _ hpt)) (Hp.le.refl _) rfl (fun Cm m1 m2=>?_)
    refine vv ?_
    refine zp (hR Cm m1) ?_
    show(!(UL.any fun u=> !yt u tu))=UL.all (fun u=>yt u tu)
    rw[JU]
   ·-- convert
    obtain⟨e0,e1,e2,e3,e4,e5,e6,e7,e8,e9,e10,e11,e12,e13,e14,e15,e16,e17⟩:(b.c.kd==[97,100,100])=false/\(b.c.kd==[115,117,98])=false/\(b.c.kd==[110,101,103])=false/\(b.c.kd==[99,111,110,118,101,114,116])=true/\(b.c.kd==[109,105,110])=false/\(b.c.kd==[109,97,120])=false/\(b.c.kd==[108,105,109,105,116])=false/\(b.c.kd==[100,101,108,97,121])=false/\(b.c.kd==[108,97,103])=false/\(b.c.kd==[115,119,105,116,99,104])=false/\(b.c.kd==[109,117,108])=false/\(b.c.kd==[100,105,118])=false/\(b.c.kd==[108,101,115,115])=false/\(b.c.kd==[101,113,117,97,108])=false/\(b.c.kd==[97,110,100])=false/\(b.c.kd==[111,114])=false/\(b.c.kd==[110,111,116])=false/\(b.c.kd==[104,121,115,116,101,114,101,115,105,115])=false:=by rw[hkd];decide
    rw[hkd]at hR
    refine CallQ.pure 170 vT rfl ?_
    simp only[go_sem,e0,e1,e2,e3,e4,e5,e6,e7,e8,e9,e10,e11,e12,e13,e14,e15,e16,e17]
    refine CallQ.letgo (xs:=[_,_]) (M0:=[]) [5,6] hL hP rfl (by unfold yC;simp only[Kw,yF (zJ _),yF (y8 _),yF (zq _)];rfl) rfl vr rfl rfl (fun β Cn l1 l2 l3=>?_)
    have hpt:=(l3 5 _ rfl rfl rfl).pt z9
    obtain⟨sN,hsv,hsN⟩:=(l3 6 _ rfl rfl rfl).vslx (sz:=5) (rows:=UL.map xI) (fun r hr=>by obtain⟨x,_,rfl⟩:=JL.1 hr;rfl) rfl
    have h5:(UL.map xI).length=UL.length:=Kv _
    rw[h5]at hsN hsv
    have hsv1:y7 β (.sl 6 0 b.c.ins.length 5)=vsl sN UL.length:=by rw[<-hul];exact hsv
    have hxs:List.map (V.conc [5,6] β) [V.c (Cv.sl 6 0 b.c.ins.length 5),V.c (Cv.fn 249 [(5,0)])]=[.c (.v (vsl sN UL.length)),Fv 249 #[xl β 5 0]]:=by rw[<-hsv1];rfl
    rw[hxs]
    refine yO 190 l1 (u6 sN UL hsN zA 249 #[xl β 5 0] (fun u=> !yt u tu) (fun u _=>bJ u tu _ hpt)) (Hp.le.refl _) rfl (fun Cm m1 m2=>?_)
    refine vv ?_
    refine zp (hR Cm m1) ?_
    show(!(UL.any fun u=> !yt u tu))=UL.all (fun u=>yt u tu)
    rw[JU]
   ·-- curve
    obtain⟨e0,e1,e2,e3,e4,e5,e6,e7,e8,e9,e10,e11,e12,e13,e14,e15,e16,e17⟩:(b.c.kd==[97,100,100])=false/\(b.c.kd==[115,117,98])=false/\(b.c.kd==[110,101,103])=false/\(b.c.kd==[99,111,110,118,101,114,116])=false/\(b.c.kd==[109,105,110])=false/\(b.c.kd==[109,97,120])=false/\(b.c.kd==[108,105,109,105,116])=false/\(b.c.kd==[100,101,108,97,121])=false/\(b.c.kd==[108,97,103])=false/\(b.c.kd==[115,119,105,116,99,104])=false/\(b.c.kd==[109,117,108])=false/\(b.c.kd==[100,105,118])=false/\(b.c.kd==[108,101,115,115])=false/\(b.c.kd==[101,113,117,97,108])=false/\(b.c.kd==[97,110,100])=false/\(b.c.kd==[111,114])=false/\(b.c.kd==[110,111,116])=false/\(b.c.kd==[104,121,115,116,101,114,101,115,105,115])=false:=by rw[hkd];decide
    rw[hkd]at hR
    refine CallQ.pure 170 vT rfl ?_
    simp only[go_sem,e0,e1,e2,e3,e4,e5,e6,e7,e8,e9,e10,e11,e12,e13,e14,e15,e16,e17]
    exact zp (hR C hL) rfl
   ·-- map
    obtain⟨e0,e1,e2,e3,e4,e5,e6,e7,e8,e9,e10,e11,e12,e13,e14,e15,e16,e17⟩:(b.c.kd==[97,100,100])=false/\(b.c.kd==[115,117,98])=false/\(b.c.kd==[110,101,103])=false/\(b.c.kd==[99,111,110,118,101,114,116])=false/\(b.c.kd==[109,105,110])=false/\(b.c.kd==[109,97,120])=false/\(b.c.kd==[108,105,109,105,116])=false/\(b.c.kd==[100,101,108,97,121])=false/\(b.c.kd==[108,97,103])=false/\(b.c.kd==[115,119,105,116,99,104])=false/\(b.c.kd==[109,117,108])=false/\(b.c.kd==[100,105,118])=false/\(b.c.kd==[108,101,115,115])=false/\(b.c.kd==[101,113,117,97,108])=false/\(b.c.kd==[97,110,100])=false/\(b.c.kd==[111,114])=false/\(b.c.kd==[110,111,116])=false/\(b.c.kd==[104,121,115,116,101,114,101,115,105,115])=false:=by rw[hkd];decide
    rw[hkd]at hR
    refine CallQ.pure 170 vT rfl ?_
    simp only[go_sem,e0,e1,e2,e3,e4,e5,e6,e7,e8,e9,e10,e11,e12,e13,e14,e15,e16,e17]
    exact zp (hR C hL) rfl
   ·-- delay
    obtain⟨e0,e1,e2,e3,e4,e5,e6,e7,e8,e9,e10,e11,e12,e13,e14,e15,e16,e17⟩:(b.c.kd==[97,100,100])=false/\(b.c.kd==[115,117,98])=false/\(b.c.kd==[110,101,103])=false/\(b.c.kd==[99,111,110,118,101,114,116])=false/\(b.c.kd==[109,105,110])=false/\(b.c.kd==[109,97,120])=false/\(b.c.kd==[108,105,109,105,116])=false/\(b.c.kd==[100,101,108,97,121])=true/\(b.c.kd==[108,97,103])=false/\(b.c.kd==[115,119,105,116,99,104])=false/\(b.c.kd==[109,117,108])=false/\(b.c.kd==[100,105,118])=false/\(b.c.kd==[108,101,115,115])=false/\(b.c.kd==[101,113,117,97,108])=false/\(b.c.kd==[97,110,100])=false/\(b.c.kd==[111,114])=false/\(b.c.kd==[110,111,116])=false/\(b.c.kd==[104,121,115,116,101,114,101,115,105,115])=false:=by rw[hkd];decide
    rw[hkd]at hR
    refine CallQ.pure 170 vT rfl ?_
    simp only[go_sem,e0,e1,e2,e3,e4,e5,e6,e7,e8,e9,e10,e11,e12,e13,e14,e15,e16,e17]
    refine CallQ.letgo (xs:=[_,_]) (M0:=[]) [5,6] hL hP rfl (by unfold yC;simp only[Kw,yF (zJ _),yF (y8 _),yF (zq _)];rfl) rfl vr rfl rfl (fun β Cn l1 l2 l3=>?_)
    have hpt:=(l3 5 _ rfl rfl rfl).pt z9
    obtain⟨sN,hsv,hsN⟩:=(l3 6 _ rfl rfl rfl).vslx (sz:=5) (rows:=UL.map xI) (fun r hr=>by obtain⟨x,_,rfl⟩:=JL.1 hr;rfl) rfl
    have h5:(UL.map xI).length=UL.length:=Kv _
    rw[h5]at hsN hsv
    have hsv1:y7 β (.sl 6 0 b.c.ins.length 5)=vsl sN UL.length:=by rw[<-hul];exact hsv
    have hxs:List.map (V.conc [5,6] β) [V.c (Cv.sl 6 0 b.c.ins.length 5),V.c (Cv.fn 249 [(5,0)])]=[.c (.v (vsl sN UL.length)),Fv 249 #[xl β 5 0]]:=by rw[<-hsv1];rfl
    rw[hxs]
    refine yO 190 l1 (u6 sN UL hsN zA 249 #[xl β 5 0] (fun u=> !yt u tu) (fun u _=>bJ u tu _ hpt)) (Hp.le.refl _) rfl (fun Cm m1 m2=>?_)
    refine vv ?_
    refine zp (hR Cm m1) ?_
    show(!(UL.any fun u=> !yt u tu))=UL.all (fun u=>yt u tu)
    rw[JU]
   ·-- lag
    obtain⟨e0,e1,e2,e3,e4,e5,e6,e7,e8,e9,e10,e11,e12,e13,e14,e15,e16,e17⟩:(b.c.kd==[97,100,100])=false/\(b.c.kd==[115,117,98])=false/\(b.c.kd==[110,101,103])=false/\(b.c.kd==[99,111,110,118,101,114,116])=false/\(b.c.kd==[109,105,110])=false/\(b.c.kd==[109,97,120])=false/\(b.c.kd==[108,105,109,105,116])=false/\(b.c.kd==[100,101,108,97,121])=false/\(b.c.kd==[108,97,103])=true/\(b.c.kd==[115,119,105,116,99,104])=false/\(b.c.kd==[109,117,108])=false/\(b.c.kd==[100,105,118])=false/\(b.c.kd==[108,101,115,115])=false/\(b.c.kd==[101,113,117,97,108])=false/\(b.c.kd==[97,110,100])=false/\(b.c.kd==[111,114])=false/\(b.c.kd==[110,111,116])=false/\(b.c.kd==[104,121,115,116,101,114,101,115,105,115])=false:=by rw[hkd];decide
    rw[hkd]at hR
    refine CallQ.pure 170 vT rfl ?_
    simp only[go_sem,e0,e1,e2,e3,e4,e5,e6,e7,e8,e9,e10,e11,e12,e13,e14,e15,e16,e17]
    refine CallQ.letgo (xs:=[_,_]) (M0:=[]) [5,6] hL hP rfl (by unfold yC;simp only[Kw,yF (zJ _),yF (y8 _),yF (zq _)];rfl) rfl vr rfl rfl (fun β Cn l1 l2 l3=>?_)
    have hpt:=(l3 5 _ rfl rfl rfl).pt z9
    obtain⟨sN,hsv,hsN⟩:=(l3 6 _ rfl rfl rfl).vslx (sz:=5) (rows:=UL.map xI) (fun r hr=>by obtain⟨x,_,rfl⟩:=JL.1 hr;rfl) rfl
    have h5:(UL.map xI).length=UL.length:=Kv _
    rw[h5]at hsN hsv
    have hsv1:y7 β (.sl 6 0 b.c.ins.length 5)=vsl sN UL.length:=by rw[<-hul];exact hsv
    have hxs:List.map (V.conc [5,6] β) [V.c (Cv.sl 6 0 b.c.ins.length 5),V.c (Cv.fn 249 [(5,0)])]=[.c (.v (vsl sN UL.length)),Fv 249 #[xl β 5 0]]:=by rw[<-hsv1];rfl
    rw[hxs]
    refine yO 190 l1 (u6 sN UL hsN zA 249 #[xl β 5 0] (fun u=> !yt u tu) (fun u _=>bJ u tu _ hpt)) (Hp.le.refl _) rfl (fun Cm m1 m2=>?_)
    refine vv ?_
    refine zp (hR Cm m1) ?_
    show(!(UL.any fun u=> !yt u tu))=UL.all (fun u=>yt u tu)
    rw[JU]
   ·-- switch
    obtain⟨e0,e1,e2,e3,e4,e5,e6,e7,e8,e9,e10,e11,e12,e13,e14,e15,e16,e17⟩:(b.c.kd==[97,100,100])=false/\(b.c.kd==[115,117,98])=false/\(b.c.kd==[110,101,103])=false/\(b.c.kd==[99,111,110,118,101,114,116])=false/\(b.c.kd==[109,105,110])=false/\(b.c.kd==[109,97,120])=false/\(b.c.kd==[108,105,109,105,116])=false/\(b.c.kd==[100,101,108,97,121])=false/\(b.c.kd==[108,97,103])=false/\(b.c.kd==[115,119,105,116,99,104])=true/\(b.c.kd==[109,117,108])=false/\(b.c.kd==[100,105,118])=false/\(b.c.kd==[108,101,115,115])=false/\(b.c.kd==[101,113,117,97,108])=false/\(b.c.kd==[97,110,100])=false/\(b.c.kd==[111,114])=false/\(b.c.kd==[110,111,116])=false/\(b.c.kd==[104,121,115,116,101,114,101,115,105,115])=false:=by rw[hkd];decide
    rw[hkd]at hR
    refine CallQ.pure 170 vT rfl ?_
    simp only[go_sem,e0,e1,e2,e3,e4,e5,e6,e7,e8,e9,e10,e11,e12,e13,e14,e15,e16,e17]
    have hl:=hlen _ e9 3 0 0 rfl
    refine Sm.dg 180 17 zi ?_
    simp only[go_sem,ht0 zA,ht1 zA,ht2 zA,hz,Jb]
    refine⟨zA,zA,fun h=>⟨h,zA⟩,fun h=>⟨h,zA⟩,fun h=>⟨h,zA⟩,fun h=>⟨h,zA⟩,?_⟩
    refine zp (hR C hL) ?_
    show(bif (bif yt (UL.getD 0 u0) u0 then yt (UL.getD 1 u0) tu else false)then yt (UL.getD 2 u0) tu else false)=(yt (UL.getD 0 u0) u0&&(yt (UL.getD 1 u0) tu&&yt (UL.getD 2 u0) tu))
    rw[xg,xg,Bool.and_assoc]
   ·-- less
    obtain⟨e0,e1,e2,e3,e4,e5,e6,e7,e8,e9,e10,e11,e12,e13,e14,e15,e16,e17⟩:(b.c.kd==[97,100,100])=false/\(b.c.kd==[115,117,98])=false/\(b.c.kd==[110,101,103])=false/\(b.c.kd==[99,111,110,118,101,114,116])=false/\(b.c.kd==[109,105,110])=false/\(b.c.kd==[109,97,120])=false/\(b.c.kd==[108,105,109,105,116])=false/\(b.c.kd==[100,101,108,97,121])=false/\(b.c.kd==[108,97,103])=false/\(b.c.kd==[115,119,105,116,99,104])=false/\(b.c.kd==[109,117,108])=false/\(b.c.kd==[100,105,118])=false/\(b.c.kd==[108,101,115,115])=true/\(b.c.kd==[101,113,117,97,108])=false/\(b.c.kd==[97,110,100])=false/\(b.c.kd==[111,114])=false/\(b.c.kd==[110,111,116])=false/\(b.c.kd==[104,121,115,116,101,114,101,115,105,115])=false:=by rw[hkd];decide
    rw[hkd]at hR
    refine CallQ.pure 170 vT rfl ?_
    simp only[go_sem,e0,e1,e2,e3,e4,e5,e6,e7,e8,e9,e10,e11,e12,e13,e14,e15,e16,e17]
    have hl:=hlen _ e12 2 0 0 rfl
    refine Sm.dg 180 10 zi ?_
    simp only[go_sem,ht0 zA,ht1 zA,hz,Jb]
    refine⟨zA,zA,zA,zA,?_⟩
    refine zp (hR C hL) ?_
    show(bif yt (UL.getD 0 u0) (UL.getD 1 u0)then yt tu u0 else false)=(yt (UL.getD 0 u0) (UL.getD 1 u0)&&yt tu u0)
    exact xg _ _
   ·-- equal
    obtain⟨e0,e1,e2,e3,e4,e5,e6,e7,e8,e9,e10,e11,e12,e13,e14,e15,e16,e17⟩:(b.c.kd==[97,100,100])=false/\(b.c.kd==[115,117,98])=false/\(b.c.kd==[110,101,103])=false/\(b.c.kd==[99,111,110,118,101,114,116])=false/\(b.c.kd==[109,105,110])=false/\(b.c.kd==[109,97,120])=false/\(b.c.kd==[108,105,109,105,116])=false/\(b.c.kd==[100,101,108,97,121])=false/\(b.c.kd==[108,97,103])=false/\(b.c.kd==[115,119,105,116,99,104])=false/\(b.c.kd==[109,117,108])=false/\(b.c.kd==[100,105,118])=false/\(b.c.kd==[108,101,115,115])=false/\(b.c.kd==[101,113,117,97,108])=true/\(b.c.kd==[97,110,100])=false/\(b.c.kd==[111,114])=false/\(b.c.kd==[110,111,116])=false/\(b.c.kd==[104,121,115,116,101,114,101,115,105,115])=false:=by rw[hkd];decide
    rw[hkd]at hR
    refine CallQ.pure 170 vT rfl ?_
    simp only[go_sem,e0,e1,e2,e3,e4,e5,e6,e7,e8,e9,e10,e11,e12,e13,e14,e15,e16,e17]
    have hl:=hlen _ e13 2 0 0 rfl
    refine Sm.dg 180 10 zi ?_
    simp only[go_sem,ht0 zA,ht1 zA,hz,Jb]
    refine⟨zA,zA,zA,zA,?_⟩
    refine zp (hR C hL) ?_
    show(bif yt (UL.getD 0 u0) (UL.getD 1 u0)then yt tu u0 else false)=(yt (UL.getD 0 u0) (UL.getD 1 u0)&&yt tu u0)
    exact xg _ _
   ·-- and
    obtain⟨e0,e1,e2,e3,e4,e5,e6,e7,e8,e9,e10,e11,e12,e13,e14,e15,e16,e17⟩:(b.c.kd==[97,100,100])=false/\(b.c.kd==[115,117,98])=false/\(b.c.kd==[110,101,103])=false/\(b.c.kd==[99,111,110,118,101,114,116])=false/\(b.c.kd==[109,105,110])=false/\(b.c.kd==[109,97,120])=false/\(b.c.kd==[108,105,109,105,116])=false/\(b.c.kd==[100,101,108,97,121])=false/\(b.c.kd==[108,97,103])=false/\(b.c.kd==[115,119,105,116,99,104])=false/\(b.c.kd==[109,117,108])=false/\(b.c.kd==[100,105,118])=false/\(b.c.kd==[108,101,115,115])=false/\(b.c.kd==[101,113,117,97,108])=false/\(b.c.kd==[97,110,100])=true/\(b.c.kd==[111,114])=false/\(b.c.kd==[110,111,116])=false/\(b.c.kd==[104,121,115,116,101,114,101,115,105,115])=false:=by rw[hkd];decide
    rw[hkd]at hR
    refine CallQ.pure 170 vT rfl ?_
    simp only[go_sem,e0,e1,e2,e3,e4,e5,e6,e7,e8,e9,e10,e11,e12,e13,e14,e15,e16,e17]
    have hg0:(tu.m==u0.m&&(tu.kg==u0.kg&&(tu.s==u0.s&&(tu.a==u0.a&&tu.k==u0.k))))=yt tu u0:=rfl
    simp only[hg0]
    cases hq:yt tu u0 with
    |false=>
     refine CallQ.guard (xs:=[]) (v:=Bo true) 180 (fun h=>by cases h) (fun h=>by cases h) (vv ?_)
     refine zp (hR C hL) ?_
     show _=(yt tu u0&&UL.all (fun u=>yt u u0))
     rw[hq];rfl
    |true=>
     refine CallQ.letgo (xs:=[_,_]) (M0:=[]) [170,6] hL hP rfl (by unfold yC;simp only[Kw,yF (zJ _),yF (y8 _),yF (zq _)];rfl) rfl vr rfl rfl (fun β Cn l1 l2 l3=>?_)
     have hpt:=(l3 170 _ rfl rfl rfl).pt z9
     obtain⟨sN,hsv,hsN⟩:=(l3 6 _ rfl rfl rfl).vslx (sz:=5) (rows:=UL.map xI) (fun r hr=>by obtain⟨x,_,rfl⟩:=JL.1 hr;rfl) rfl
     have h5:(UL.map xI).length=UL.length:=Kv _
     rw[h5]at hsN hsv
     have hsv1:y7 β (.sl 6 0 b.c.ins.length 5)=vsl sN UL.length:=by rw[<-hul];exact hsv
     have hxs:List.map (V.conc [170,6] β) [V.c (Cv.sl 6 0 b.c.ins.length 5),V.c (Cv.fn 250 [(170,0)])]=[.c (.v (vsl sN UL.length)),Fv 250 #[xl β 170 0]]:=by rw[<-hsv1];rfl
     rw[hxs]
     refine yO 190 l1 (u6 sN UL hsN zA 250 #[xl β 170 0] (fun u=> !yt u u0) (fun u _=>Qp u u0 _ hpt)) (Hp.le.refl _) rfl (fun Cm m1 m2=>?_)
     refine vv ?_
     refine zp (hR Cm m1) ?_
     show(!(UL.any fun u=> !yt u u0))=(yt tu u0&&UL.all (fun u=>yt u u0))
     rw[hq,JU];rfl
   ·-- or
    obtain⟨e0,e1,e2,e3,e4,e5,e6,e7,e8,e9,e10,e11,e12,e13,e14,e15,e16,e17⟩:(b.c.kd==[97,100,100])=false/\(b.c.kd==[115,117,98])=false/\(b.c.kd==[110,101,103])=false/\(b.c.kd==[99,111,110,118,101,114,116])=false/\(b.c.kd==[109,105,110])=false/\(b.c.kd==[109,97,120])=false/\(b.c.kd==[108,105,109,105,116])=false/\(b.c.kd==[100,101,108,97,121])=false/\(b.c.kd==[108,97,103])=false/\(b.c.kd==[115,119,105,116,99,104])=false/\(b.c.kd==[109,117,108])=false/\(b.c.kd==[100,105,118])=false/\(b.c.kd==[108,101,115,115])=false/\(b.c.kd==[101,113,117,97,108])=false/\(b.c.kd==[97,110,100])=false/\(b.c.kd==[111,114])=true/\(b.c.kd==[110,111,116])=false/\(b.c.kd==[104,121,115,116,101,114,101,115,105,115])=false:=by rw[hkd];decide
    rw[hkd]at hR
    refine CallQ.pure 170 vT rfl ?_
    simp only[go_sem,e0,e1,e2,e3,e4,e5,e6,e7,e8,e9,e10,e11,e12,e13,e14,e15,e16,e17]
    have hg0:(tu.m==u0.m&&(tu.kg==u0.kg&&(tu.s==u0.s&&(tu.a==u0.a&&tu.k==u0.k))))=yt tu u0:=rfl
    simp only[hg0]
    cases hq:yt tu u0 with
    |false=>
     refine CallQ.guard (xs:=[]) (v:=Bo true) 180 (fun h=>by cases h) (fun h=>by cases h) (vv ?_)
     refine zp (hR C hL) ?_
     show _=(yt tu u0&&UL.all (fun u=>yt u u0))
     rw[hq];rfl
    |true=>
     refine CallQ.letgo (xs:=[_,_]) (M0:=[]) [170,6] hL hP rfl (by unfold yC;simp only[Kw,yF (zJ _),yF (y8 _),yF (zq _)];rfl) rfl vr rfl rfl (fun β Cn l1 l2 l3=>?_)
     have hpt:=(l3 170 _ rfl rfl rfl).pt z9
     obtain⟨sN,hsv,hsN⟩:=(l3 6 _ rfl rfl rfl).vslx (sz:=5) (rows:=UL.map xI) (fun r hr=>by obtain⟨x,_,rfl⟩:=JL.1 hr;rfl) rfl
     have h5:(UL.map xI).length=UL.length:=Kv _
     rw[h5]at hsN hsv
     have hsv1:y7 β (.sl 6 0 b.c.ins.length 5)=vsl sN UL.length:=by rw[<-hul];exact hsv
     have hxs:List.map (V.conc [170,6] β) [V.c (Cv.sl 6 0 b.c.ins.length 5),V.c (Cv.fn 250 [(170,0)])]=[.c (.v (vsl sN UL.length)),Fv 250 #[xl β 170 0]]:=by rw[<-hsv1];rfl
     rw[hxs]
     refine yO 190 l1 (u6 sN UL hsN zA 250 #[xl β 170 0] (fun u=> !yt u u0) (fun u _=>Qp u u0 _ hpt)) (Hp.le.refl _) rfl (fun Cm m1 m2=>?_)
     refine vv ?_
     refine zp (hR Cm m1) ?_
     show(!(UL.any fun u=> !yt u u0))=(yt tu u0&&UL.all (fun u=>yt u u0))
     rw[hq,JU];rfl
   ·-- not
    obtain⟨e0,e1,e2,e3,e4,e5,e6,e7,e8,e9,e10,e11,e12,e13,e14,e15,e16,e17⟩:(b.c.kd==[97,100,100])=false/\(b.c.kd==[115,117,98])=false/\(b.c.kd==[110,101,103])=false/\(b.c.kd==[99,111,110,118,101,114,116])=false/\(b.c.kd==[109,105,110])=false/\(b.c.kd==[109,97,120])=false/\(b.c.kd==[108,105,109,105,116])=false/\(b.c.kd==[100,101,108,97,121])=false/\(b.c.kd==[108,97,103])=false/\(b.c.kd==[115,119,105,116,99,104])=false/\(b.c.kd==[109,117,108])=false/\(b.c.kd==[100,105,118])=false/\(b.c.kd==[108,101,115,115])=false/\(b.c.kd==[101,113,117,97,108])=false/\(b.c.kd==[97,110,100])=false/\(b.c.kd==[111,114])=false/\(b.c.kd==[110,111,116])=true/\(b.c.kd==[104,121,115,116,101,114,101,115,105,115])=false:=by rw[hkd];decide
    rw[hkd]at hR
    refine CallQ.pure 170 vT rfl ?_
    simp only[go_sem,e0,e1,e2,e3,e4,e5,e6,e7,e8,e9,e10,e11,e12,e13,e14,e15,e16,e17]
    have hg0:(tu.m==u0.m&&(tu.kg==u0.kg&&(tu.s==u0.s&&(tu.a==u0.a&&tu.k==u0.k))))=yt tu u0:=rfl
    simp only[hg0]
    cases hq:yt tu u0 with
    |false=>
     refine CallQ.guard (xs:=[]) (v:=Bo true) 180 (fun h=>by cases h) (fun h=>by cases h) (vv ?_)
     refine zp (hR C hL) ?_
     show _=(yt tu u0&&UL.all (fun u=>yt u u0))
     rw[hq];rfl
    |true=>
     refine CallQ.letgo (xs:=[_,_]) (M0:=[]) [170,6] hL hP rfl (by unfold yC;simp only[Kw,yF (zJ _),yF (y8 _),yF (zq _)];rfl) rfl vr rfl rfl (fun β Cn l1 l2 l3=>?_)
     have hpt:=(l3 170 _ rfl rfl rfl).pt z9
     obtain⟨sN,hsv,hsN⟩:=(l3 6 _ rfl rfl rfl).vslx (sz:=5) (rows:=UL.map xI) (fun r hr=>by obtain⟨x,_,rfl⟩:=JL.1 hr;rfl) rfl
     have h5:(UL.map xI).length=UL.length:=Kv _
     rw[h5]at hsN hsv
     have hsv1:y7 β (.sl 6 0 b.c.ins.length 5)=vsl sN UL.length:=by rw[<-hul];exact hsv
     have hxs:List.map (V.conc [170,6] β) [V.c (Cv.sl 6 0 b.c.ins.length 5),V.c (Cv.fn 250 [(170,0)])]=[.c (.v (vsl sN UL.length)),Fv 250 #[xl β 170 0]]:=by rw[<-hsv1];rfl
     rw[hxs]
     refine yO 190 l1 (u6 sN UL hsN zA 250 #[xl β 170 0] (fun u=> !yt u u0) (fun u _=>Qp u u0 _ hpt)) (Hp.le.refl _) rfl (fun Cm m1 m2=>?_)
     refine vv ?_
     refine zp (hR Cm m1) ?_
     show(!(UL.any fun u=> !yt u u0))=(yt tu u0&&UL.all (fun u=>yt u u0))
     rw[hq,JU];rfl
   ·-- hysteresis
    obtain⟨e0,e1,e2,e3,e4,e5,e6,e7,e8,e9,e10,e11,e12,e13,e14,e15,e16,e17⟩:(b.c.kd==[97,100,100])=false/\(b.c.kd==[115,117,98])=false/\(b.c.kd==[110,101,103])=false/\(b.c.kd==[99,111,110,118,101,114,116])=false/\(b.c.kd==[109,105,110])=false/\(b.c.kd==[109,97,120])=false/\(b.c.kd==[108,105,109,105,116])=false/\(b.c.kd==[100,101,108,97,121])=false/\(b.c.kd==[108,97,103])=false/\(b.c.kd==[115,119,105,116,99,104])=false/\(b.c.kd==[109,117,108])=false/\(b.c.kd==[100,105,118])=false/\(b.c.kd==[108,101,115,115])=false/\(b.c.kd==[101,113,117,97,108])=false/\(b.c.kd==[97,110,100])=false/\(b.c.kd==[111,114])=false/\(b.c.kd==[110,111,116])=false/\(b.c.kd==[104,121,115,116,101,114,101,115,105,115])=true:=by rw[hkd];decide
    rw[hkd]at hR
    refine CallQ.pure 170 vT rfl ?_
    simp only[go_sem,e0,e1,e2,e3,e4,e5,e6,e7,e8,e9,e10,e11,e12,e13,e14,e15,e16,e17]
    exact zp (hR C hL) rfl
end Go.Proofs.YtbnkiacicnnmkaaGreat.Fx
