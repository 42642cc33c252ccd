/-  -/
import Derived.Test.YtkciabfilokfiaaGreatQF
set_option linter.unusedSimpArgs false
set_option linter.unusedVariables false
set_option maxRecDepth 100000
set_option maxHeartbeats 4000000
namespace Go.Proofs.YtkciabfilokfiaaGreat.Fx
open Vg Tf
def unT (t:Ft):Un:=⟨t.m,t.kg,t.s,t.a,t.k⟩
def yb (a b:Un):Bool:=(a.m==b.m)&&((a.kg==b.kg)&&((a.s==b.s)&&((a.a==b.a)&&(a.k==b.k))))
theorem ZU {H:Hp}(u t:Un)(pv:Value)(hp:PtH H pv (wA t)):CallH H Tryz.prog 204 [yD (wA u),.c (.v pv)] (Bo (!yb u t)):=by
 refine kH Tryz.func204 Sc Tryz.ntmps204 fun C hR hP hH hL=>?_
 refine zk 1 41 1 (hp.mono hH) rfl rfl (zB 100 ?_)
 refine vv ?_
 exact yL (hR C hL) rfl
theorem PS {H:Hp}(u t:Un)(pv:Value)(hp:PtH H pv (wA t)):CallH H Tryz.prog 207 [yD (wA u),.c (.v pv)] (Bo (!yb u t)):=by
 refine kH Tryz.func207 Sb Tryz.ntmps207 fun C hR hP hH hL=>?_
 refine zk 1 41 1 (hp.mono hH) rfl rfl (zB 100 ?_)
 refine vv ?_
 exact yL (hR C hL) rfl
def fP:Str:=[115,119,105,116,99,104]
def V2:Str:=[97,100,100]
def WI:Str:=[115,117,98]
def We:Str:=[110,101,103]
def VT:Str:=[99,111,110,118,101,114,116]
def Wj:Str:=[109,105,110]
def Wl:Str:=[109,97,120]
def YF:Str:=[109,117,108]
def jo:Str:=[100,105,118]
def aA:Str:=[108,101,115,115]
def aV:Str:=[101,113,117,97,108]
def XC:Str:=[97,110,100]
def Qv:Str:=[111,114]
def YC:Str:=[110,111,116]
def nc (kd:Str)(t:Un)(us:List Un):Bool:=
 if [V2,WI,We,VT,Wj,Wl,jf,uW,dT].contains kd=true then us.all (fun u=>yb u t)
 else if (kd==fP)=true then yb (us.getD 0 u0) u0&&(yb (us.getD 1 u0) t&&yb (us.getD 2 u0) t)
 else if (kd==YF)=true then(nY (us.getD 0 u0) (us.getD 1 u0) 1==0)&&yb (mY (us.getD 0 u0) (us.getD 1 u0) 1) t
 else if (kd==jo)=true then(nY (us.getD 0 u0) (us.getD 1 u0) (-1)==0)&&yb (mY (us.getD 0 u0) (us.getD 1 u0) (-1)) t
 else if (kd==aA||kd==aV)=true then yb (us.getD 0 u0) (us.getD 1 u0)&&yb t u0
 else if (kd==XC||(kd==Qv||kd==YC))=true then yb t u0&&us.all (fun u=>yb u u0)
 else if (kd==jh)=true then yb t u0 else true
theorem vY {s:Str}{q:Nat×Nat×Nat}(h:yY s=some q):(s,q)∈kindT:=by
 unfold yY at h
 cases hf:kindT.find? (fun r=>r.1==s)with
 |none=>rw[hf]at h;cases h
 |some r=>
  rw[hf]at h
  simp only[JM,Js]at h
  have h1:=List.find?_some hf
  have h2:=Jw hf
  have:r.1=s:=by simpa using h1
  subst this
  rw[<-h];exact h2
def sw (d:Dg)(b:Bl):List Un:=b.ins.map fun s=>unT (yU d (xv (zQ d) s))
@[go_sem ↓] theorem Qp:qk 1 5=[(0,5)]:=rfl
theorem dA (l:List Un)(i:Nat)(h:i<l.length):((zD (l.map wA)).drop (i*5)).take 5=(wA l[i]).map Cv.v:=z6 (r:=wA) (k:=5) (fun _=>rfl) l i h
theorem _root_.Go.Proofs.YtkciabfilokfiaaGreat.Vg.Known.vslx {H:Hp}{β:Vl}{n:Nat}{b:Bk}(h:Known H β n b){sz:Nat}{rows:List (List Value)}(hr:∀r∈rows,r.length=sz)(hc:b.cells=zD rows):∃s:Sv,xe β (.sl n 0 rows.length sz)=vsl s rows.length/\SlH H (vsl s rows.length) sz rows:=by
 have h1:=h.sl hr hc
 obtain⟨s,hs⟩:∃s:Sv,xe β (.sl n 0 rows.length sz)=vsl s rows.length:=by
  unfold xe
  simp only[Cv.g]
  split
  ·rename_i hh;rw[hh.2];unfold Loc.emp;split<;>first|exact⟨⟨none,0⟩,rfl⟩|exact⟨⟨some _,_⟩,rfl⟩
  ·exact⟨⟨_,_⟩,rfl⟩
 exact⟨s,hs,by rw[<-hs];exact h1⟩
theorem Xy {H:Hp}{cp:Value}{d:DgL}{bT bC' bM bS:Nat}(k:Ck H cp d bT bC' bM bS)(b:BlL)(hb:b.ok H)(hok:xI b.c=true)(hne:0<d.bls.length)(hin:∀s∈b.c.ins,sW (zQ d.c) s=true):
  CallH H Tryz.prog 168 [.c (.v cp),yD b.r] (Bo (nc b.c.kd (unT (yB d.tys b.c.ty)) (sw d.c b.c))):=by
 have hn1:=k.n1
 have hn2:=k.n2
 have hil:b.c.ins.length<=3:=by
  have h1:=hok
  unfold xI at h1
  cases hq:yY b.c.kd with
  |none=>rw[hq]at h1;cases h1
  |some q=>
   obtain⟨a,n,t⟩:=q
   rw[hq]at h1
   simp only[JG,decide_eq_true_eq]at h1
   have hm:=vY hq
   have:∀r∈kindT,r.2.1<=3:=yg
   have:=this _ hm
   simp only at this
   omega
 obtain⟨b0,o0,rfl,c0,el0,mk0,hc0,hcc⟩:=PtH.at k.c.p
 refine kH Tryz.func168 RL Tryz.ntmps168 fun C hR hP hH hL=>?_
 have hpt:=k.c.p.mono hH
 refine yQ (hb.mono hH) 1 ⟨rfl,rfl⟩ rfl (zB 100 ?_)
 refine vv ?_
 refine Sm.dg 110 9 ze (vv ?_)
 refine DOpQ.own 120 (zq rfl rfl) (vv ?_)
 refine DOpQ.own 120 (zY rfl rfl rfl) (vv ?_)
 refine zE 120 (fun _=>zW (hH _ _ hc0) (hcc 7 _ rfl) rfl rfl rfl) (vv ?_)
 refine zE 120 (fun _=>wg (k.c.t.mono hH) rfl rfl rfl) (vv ?_)
 have htyn:=fun s hs=>p8 k (xv (zQ d.c) s) (by
  have h1:=hin s hs
  unfold sW at h1
  obtain⟨i,hi⟩:=JF.1 h1
  have:=qD s _ 0 i hi
  have e:xv (zQ d.c) s=i:=by unfold xv;rw[hi];rfl
  rw[e,<-xh d];omega)
 generalize htu:unT (yB d.tys b.c.ty)=tu at*
 have htu1:[Cv.v (.int .i64 (yB d.tys b.c.ty).m),Cv.v (.int .i64 (yB d.tys b.c.ty).kg),Cv.v (.int .i64 (yB d.tys b.c.ty).s),Cv.v (.int .i64 (yB d.tys b.c.ty).a),Cv.v (.int .i64 (yB d.tys b.c.ty).k)]=(wA tu).map Cv.v:=by rw[<-htu];rfl
 rw[htu1]
 refine yz 140 5 41 [6] [] rfl (vv ?_)
 have hus:sw d.c b.c=b.c.ins.map (fun s=>unT (yU d.c (xv (zQ d.c) s))):=rfl
 generalize hUF:(fun s=>unT (yU d.c (xv (zQ d.c) s)))=UF at*
 rw[hus]at hR
 refine zG (M0:=[]) (α:={i:Nat//i<=b.c.ins.length}) hP (fun i=>[(0,true,.c (.v (.pointer (some ⟨b0,o0,none⟩)))),(3,true,.c (.p 3 0)),(5,true,.c (.p 5 0)),(6,true,.c (.sl 6 0 i.val 5)),(23,true,.c (.sl 11 0 b.c.ins.length 1)),(24,true,I b.c.ins.length),(25,true,I i.val)])
  (fun i=>[(3,⟨false,PJ b,53⟩),(5,⟨false,(wA tu).map .v,41⟩),(6,⟨false,zD (((b.c.ins.take i.val).map UF).map wA),41⟩),(11,⟨true,b.c.ins.map sC,9⟩),(12,⟨true,b.c.ks.map iC,3⟩)]) (fun i=>b.c.ins.length-i.val) ⟨0,zA⟩ (fun _=>zC (by simp only[Ky,iR,zh (nu _),zh (y7 _),zh (yX _)];rfl)) (fun _=>zO rfl) [(3,100),(5,120),(6,140),(11,11),(12,12)] ?_ ?_
 ·exact z9
 ·rintro⟨i,hi⟩ J hj
  simp only at hj hi⊢
  refine zB 150 (vv ?_)
  refine zU (fun hc=>?_) (fun hc=>?_)
  ·have hc:=zH hc
   simp only[go_sem,xq hc]
   refine⟨⟨zA,zA⟩,?_⟩
   have hmem:b.c.ins[i]∈b.c.ins:=JE hc
   have htk:(b.c.ins.take (i+1)).map UF=(b.c.ins.take i).map UF++[UF b.c.ins[i]]:=by rw[JS hc,JT];rfl
   have ht:=htyn _ hmem
   have huf:UF b.c.ins[i]=unT (yU d.c (xv (zQ d.c) b.c.ins[i])):=by rw[<-hUF]
   have hlen:(zD (((b.c.ins.take i).map UF).map wA)).length=i*5:=by
    rw[zP (r:=wA) (k:=5) (fun _=>rfl)];simp;omega
   generalize b.c.ins[i]=s at*
   refine zk 1 147 31 hpt rfl rfl (zB 150 ?_)
   refine vv ?_
   refine vK 150 rfl rfl (.inl rfl) (fun _=>YN (k.c.s.mono hH) rfl rfl rfl) (vv ?_)
   refine z8 160 ht hH rfl ?_
   generalize yU d.c (xv (zQ d.c) s)=tt at*
   refine vv ?_
   have hap:List.take (i*5) (zD (((b.c.ins.take i).map UF).map wA))++[Cv.v (.int .i64 tt.m),Cv.v (.int .i64 tt.kg),Cv.v (.int .i64 tt.s),Cv.v (.int .i64 tt.a),Cv.v (.int .i64 tt.k)]=zD (((b.c.ins.take (i+1)).map UF).map wA):=by
    rw[JH zA,htk,huf]
    simp only[zD,JT,IW,Kv,Kx,List.flatten_cons,List.flatten_nil,JB]
    rfl
   simp only[hap,hlen,yT (i:=i)]
   refine⟨⟨zA,zA,zA⟩,?_⟩
   exact hj _ _ ⟨i+1,hc⟩ [(3,3),(5,5),(6,161),(11,11),(12,12)] yF z9
  ·have hc:=zL hi hc
   subst hc
   rw[Jh]
   have hq:∃q,yY b.c.kd=some q:=by
    have h1:=hok
    unfold xI at h1
    cases hq:yY b.c.kd with
    |none=>rw[hq]at h1;cases h1
    |some q=>exact⟨q,rfl⟩
   obtain⟨q,hq⟩:=hq
   have hm:=vY hq
   have hlen:=fun kd (hk:(b.c.kd==kd)=true) a n t (hq:yY kd=some (a,n,t))=>(xW hok hk hq).1
   have hul:(b.c.ins.map UF).length=b.c.ins.length:=Ku _
   have hz:=zP (r:=wA) (k:=5) (fun _=>rfl) (b.c.ins.map UF)
   rw[hul]at hz
   have hgt:∀i,i<b.c.ins.length->((zD ((b.c.ins.map UF).map wA)).drop (i*5)).take 5=(wA ((b.c.ins.map UF).getD i u0)).map Cv.v:=fun i hi=>by
    rw[dA (b.c.ins.map UF) i zA,Kw,Kz zA];rfl
   have ht0:0<b.c.ins.length->(zD ((b.c.ins.map UF).map wA)).take 5=(wA ((b.c.ins.map UF).getD 0 u0)).map Cv.v:=fun h=>hgt 0 h
   have ht1:1<b.c.ins.length->((zD ((b.c.ins.map UF).map wA)).drop 5).take 5=(wA ((b.c.ins.map UF).getD 1 u0)).map Cv.v:=fun h=>hgt 1 h
   have ht2:2<b.c.ins.length->((zD ((b.c.ins.map UF).map wA)).drop 10).take 5=(wA ((b.c.ins.map UF).getD 2 u0)).map Cv.v:=fun h=>hgt 2 h
   clear hgt
   generalize hULe:b.c.ins.map UF=UL at*
   simp only[kindT,JZ,IN,or_false,Ie]at hm
   rcases hm with⟨hkd,rfl⟩|⟨hkd,rfl⟩|⟨hkd,rfl⟩|⟨hkd,rfl⟩|⟨hkd,rfl⟩|⟨hkd,rfl⟩|⟨hkd,rfl⟩|⟨hkd,rfl⟩|⟨hkd,rfl⟩|⟨hkd,rfl⟩|⟨hkd,rfl⟩|⟨hkd,rfl⟩|⟨hkd,rfl⟩|⟨hkd,rfl⟩|⟨hkd,rfl⟩|⟨hkd,rfl⟩|⟨hkd,rfl⟩|⟨hkd,rfl⟩|⟨hkd,rfl⟩|⟨hkd,rfl⟩|⟨hkd,rfl⟩
   ·-- const
    obtain⟨e0,e1,e2,e3,e4,e5,e6,e7,e8,e9,e10,e11,e12,e13,e14,e15,e16,e17⟩:(b.c.kd==[97,100,100])=false/\(b.c.kd==[115,117,98])=false/\(b.c.kd==[110,101,103])=false/\(b.c.kd==[99,111,110,118,101,114,116])=false/\(b.c.kd==[109,105,110])=false/\(b.c.kd==[109,97,120])=false/\(b.c.kd==[108,105,109,105,116])=false/\(b.c.kd==[100,101,108,97,121])=false/\(b.c.kd==[108,97,103])=false/\(b.c.kd==[115,119,105,116,99,104])=false/\(b.c.kd==[109,117,108])=false/\(b.c.kd==[100,105,118])=false/\(b.c.kd==[108,101,115,115])=false/\(b.c.kd==[101,113,117,97,108])=false/\(b.c.kd==[97,110,100])=false/\(b.c.kd==[111,114])=false/\(b.c.kd==[110,111,116])=false/\(b.c.kd==[104,121,115,116,101,114,101,115,105,115])=false:=by rw[hkd];decide
    rw[hkd]at hR
    refine CallQ.pure 170 ul rfl ?_
    simp only[go_sem,e0,e1,e2,e3,e4,e5,e6,e7,e8,e9,e10,e11,e12,e13,e14,e15,e16,e17]
    exact yL (hR C hL) rfl
   ·-- add
    obtain⟨e0,e1,e2,e3,e4,e5,e6,e7,e8,e9,e10,e11,e12,e13,e14,e15,e16,e17⟩:(b.c.kd==[97,100,100])=true/\(b.c.kd==[115,117,98])=false/\(b.c.kd==[110,101,103])=false/\(b.c.kd==[99,111,110,118,101,114,116])=false/\(b.c.kd==[109,105,110])=false/\(b.c.kd==[109,97,120])=false/\(b.c.kd==[108,105,109,105,116])=false/\(b.c.kd==[100,101,108,97,121])=false/\(b.c.kd==[108,97,103])=false/\(b.c.kd==[115,119,105,116,99,104])=false/\(b.c.kd==[109,117,108])=false/\(b.c.kd==[100,105,118])=false/\(b.c.kd==[108,101,115,115])=false/\(b.c.kd==[101,113,117,97,108])=false/\(b.c.kd==[97,110,100])=false/\(b.c.kd==[111,114])=false/\(b.c.kd==[110,111,116])=false/\(b.c.kd==[104,121,115,116,101,114,101,115,105,115])=false:=by rw[hkd];decide
    rw[hkd]at hR
    refine CallQ.pure 170 ul rfl ?_
    simp only[go_sem,e0,e1,e2,e3,e4,e5,e6,e7,e8,e9,e10,e11,e12,e13,e14,e15,e16,e17]
    refine CallQ.letgo (xs:=[_,_]) (M0:=[]) [5,6] hL hP rfl (by unfold y9;simp only[Ky,yf (zS _),yf (y7 _),yf (yX _)];rfl) rfl tG rfl rfl (fun β Cn l1 l2 l3=>?_)
    have hpt:=(l3 5 _ rfl rfl rfl).pt zc
    obtain⟨sN,hsv,hsN⟩:=(l3 6 _ rfl rfl rfl).vslx (sz:=5) (rows:=UL.map wA) (fun r hr=>by obtain⟨x,_,rfl⟩:=JO.1 hr;rfl) rfl
    have h5:(UL.map wA).length=UL.length:=Ku _
    rw[h5]at hsN hsv
    have hsv1:xe β (.sl 6 0 b.c.ins.length 5)=vsl sN UL.length:=by rw[<-hul];exact hsv
    have hxs:List.map (V.conc [5,6] β) [V.c (Cv.sl 6 0 b.c.ins.length 5),V.c (Cv.fn 204 [(5,0)])]=[.c (.v (vsl sN UL.length)),Fv 204 #[ve β 5 0]]:=by rw[<-hsv1];rfl
    rw[hxs]
    refine xA 190 l1 (ti sN UL hsN zA 204 #[ve β 5 0] (fun u=> !yb u tu) (fun u _=>ZU u tu _ hpt)) (zV _) rfl (fun Cm m1 m2=>?_)
    refine vv ?_
    refine yL (hR Cm m1) ?_
    show(!(UL.any fun u=> !yb u tu))=UL.all (fun u=>yb u tu)
    rw[JX]
   ·-- sub
    obtain⟨e0,e1,e2,e3,e4,e5,e6,e7,e8,e9,e10,e11,e12,e13,e14,e15,e16,e17⟩:(b.c.kd==[97,100,100])=false/\(b.c.kd==[115,117,98])=true/\(b.c.kd==[110,101,103])=false/\(b.c.kd==[99,111,110,118,101,114,116])=false/\(b.c.kd==[109,105,110])=false/\(b.c.kd==[109,97,120])=false/\(b.c.kd==[108,105,109,105,116])=false/\(b.c.kd==[100,101,108,97,121])=false/\(b.c.kd==[108,97,103])=false/\(b.c.kd==[115,119,105,116,99,104])=false/\(b.c.kd==[109,117,108])=false/\(b.c.kd==[100,105,118])=false/\(b.c.kd==[108,101,115,115])=false/\(b.c.kd==[101,113,117,97,108])=false/\(b.c.kd==[97,110,100])=false/\(b.c.kd==[111,114])=false/\(b.c.kd==[110,111,116])=false/\(b.c.kd==[104,121,115,116,101,114,101,115,105,115])=false:=by rw[hkd];decide
    rw[hkd]at hR
    refine CallQ.pure 170 ul rfl ?_
    simp only[go_sem,e0,e1,e2,e3,e4,e5,e6,e7,e8,e9,e10,e11,e12,e13,e14,e15,e16,e17]
    refine CallQ.letgo (xs:=[_,_]) (M0:=[]) [5,6] hL hP rfl (by unfold y9;simp only[Ky,yf (zS _),yf (y7 _),yf (yX _)];rfl) rfl tG rfl rfl (fun β Cn l1 l2 l3=>?_)
    have hpt:=(l3 5 _ rfl rfl rfl).pt zc
    obtain⟨sN,hsv,hsN⟩:=(l3 6 _ rfl rfl rfl).vslx (sz:=5) (rows:=UL.map wA) (fun r hr=>by obtain⟨x,_,rfl⟩:=JO.1 hr;rfl) rfl
    have h5:(UL.map wA).length=UL.length:=Ku _
    rw[h5]at hsN hsv
    have hsv1:xe β (.sl 6 0 b.c.ins.length 5)=vsl sN UL.length:=by rw[<-hul];exact hsv
    have hxs:List.map (V.conc [5,6] β) [V.c (Cv.sl 6 0 b.c.ins.length 5),V.c (Cv.fn 204 [(5,0)])]=[.c (.v (vsl sN UL.length)),Fv 204 #[ve β 5 0]]:=by rw[<-hsv1];rfl
    rw[hxs]
    refine xA 190 l1 (ti sN UL hsN zA 204 #[ve β 5 0] (fun u=> !yb u tu) (fun u _=>ZU u tu _ hpt)) (zV _) rfl (fun Cm m1 m2=>?_)
    refine vv ?_
    refine yL (hR Cm m1) ?_
    show(!(UL.any fun u=> !yb u tu))=UL.all (fun u=>yb u tu)
    rw[JX]
   ·-- mul
    obtain⟨e0,e1,e2,e3,e4,e5,e6,e7,e8,e9,e10,e11,e12,e13,e14,e15,e16,e17⟩:(b.c.kd==[97,100,100])=false/\(b.c.kd==[115,117,98])=false/\(b.c.kd==[110,101,103])=false/\(b.c.kd==[99,111,110,118,101,114,116])=false/\(b.c.kd==[109,105,110])=false/\(b.c.kd==[109,97,120])=false/\(b.c.kd==[108,105,109,105,116])=false/\(b.c.kd==[100,101,108,97,121])=false/\(b.c.kd==[108,97,103])=false/\(b.c.kd==[115,119,105,116,99,104])=false/\(b.c.kd==[109,117,108])=true/\(b.c.kd==[100,105,118])=false/\(b.c.kd==[108,101,115,115])=false/\(b.c.kd==[101,113,117,97,108])=false/\(b.c.kd==[97,110,100])=false/\(b.c.kd==[111,114])=false/\(b.c.kd==[110,111,116])=false/\(b.c.kd==[104,121,115,116,101,114,101,115,105,115])=false:=by rw[hkd];decide
    rw[hkd]at hR
    refine CallQ.pure 170 ul rfl ?_
    simp only[go_sem,e0,e1,e2,e3,e4,e5,e6,e7,e8,e9,e10,e11,e12,e13,e14,e15,e16,e17]
    have hl:=hlen _ e10 2 0 0 rfl
    refine Sm.dg 180 12 ze ?_
    simp only[go_sem,ht0 zA,ht1 zA,hz,Jp]
    refine⟨zA,zA,zA,zA,?_⟩
    refine DCallQ.pure 190 (Pe (UL.getD 0 u0) (UL.getD 1 u0)) rfl (vv ?_)
    refine yL (hR C hL) ?_
    show(bif (nY (UL.getD 0 u0) (UL.getD 1 u0) 1==0)then yb (mY (UL.getD 0 u0) (UL.getD 1 u0) 1) tu else false)=((nY (UL.getD 0 u0) (UL.getD 1 u0) 1==0)&&yb (mY (UL.getD 0 u0) (UL.getD 1 u0) 1) tu)
    exact xu _ _
   ·-- div
    obtain⟨e0,e1,e2,e3,e4,e5,e6,e7,e8,e9,e10,e11,e12,e13,e14,e15,e16,e17⟩:(b.c.kd==[97,100,100])=false/\(b.c.kd==[115,117,98])=false/\(b.c.kd==[110,101,103])=false/\(b.c.kd==[99,111,110,118,101,114,116])=false/\(b.c.kd==[109,105,110])=false/\(b.c.kd==[109,97,120])=false/\(b.c.kd==[108,105,109,105,116])=false/\(b.c.kd==[100,101,108,97,121])=false/\(b.c.kd==[108,97,103])=false/\(b.c.kd==[115,119,105,116,99,104])=false/\(b.c.kd==[109,117,108])=false/\(b.c.kd==[100,105,118])=true/\(b.c.kd==[108,101,115,115])=false/\(b.c.kd==[101,113,117,97,108])=false/\(b.c.kd==[97,110,100])=false/\(b.c.kd==[111,114])=false/\(b.c.kd==[110,111,116])=false/\(b.c.kd==[104,121,115,116,101,114,101,115,105,115])=false:=by rw[hkd];decide
    rw[hkd]at hR
    refine CallQ.pure 170 ul rfl ?_
    simp only[go_sem,e0,e1,e2,e3,e4,e5,e6,e7,e8,e9,e10,e11,e12,e13,e14,e15,e16,e17]
    have hl:=hlen _ e11 2 0 0 rfl
    refine Sm.dg 180 12 ze ?_
    simp only[go_sem,ht0 zA,ht1 zA,hz,Jp]
    refine⟨zA,zA,zA,zA,?_⟩
    refine DCallQ.pure 190 (QQ (UL.getD 0 u0) (UL.getD 1 u0)) rfl (vv ?_)
    refine yL (hR C hL) ?_
    show(bif (nY (UL.getD 0 u0) (UL.getD 1 u0) (-1)==0)then yb (mY (UL.getD 0 u0) (UL.getD 1 u0) (-1)) tu else false)=((nY (UL.getD 0 u0) (UL.getD 1 u0) (-1)==0)&&yb (mY (UL.getD 0 u0) (UL.getD 1 u0) (-1)) tu)
    exact xu _ _
   ·-- neg
    obtain⟨e0,e1,e2,e3,e4,e5,e6,e7,e8,e9,e10,e11,e12,e13,e14,e15,e16,e17⟩:(b.c.kd==[97,100,100])=false/\(b.c.kd==[115,117,98])=false/\(b.c.kd==[110,101,103])=true/\(b.c.kd==[99,111,110,118,101,114,116])=false/\(b.c.kd==[109,105,110])=false/\(b.c.kd==[109,97,120])=false/\(b.c.kd==[108,105,109,105,116])=false/\(b.c.kd==[100,101,108,97,121])=false/\(b.c.kd==[108,97,103])=false/\(b.c.kd==[115,119,105,116,99,104])=false/\(b.c.kd==[109,117,108])=false/\(b.c.kd==[100,105,118])=false/\(b.c.kd==[108,101,115,115])=false/\(b.c.kd==[101,113,117,97,108])=false/\(b.c.kd==[97,110,100])=false/\(b.c.kd==[111,114])=false/\(b.c.kd==[110,111,116])=false/\(b.c.kd==[104,121,115,116,101,114,101,115,105,115])=false:=by rw[hkd];decide
    rw[hkd]at hR
    refine CallQ.pure 170 ul rfl ?_
    simp only[go_sem,e0,e1,e2,e3,e4,e5,e6,e7,e8,e9,e10,e11,e12,e13,e14,e15,e16,e17]
    refine CallQ.letgo (xs:=[_,_]) (M0:=[]) [5,6] hL hP rfl (by unfold y9;simp only[Ky,yf (zS _),yf (y7 _),yf (yX _)];rfl) rfl tG rfl rfl (fun β Cn l1 l2 l3=>?_)
    have hpt:=(l3 5 _ rfl rfl rfl).pt zc
    obtain⟨sN,hsv,hsN⟩:=(l3 6 _ rfl rfl rfl).vslx (sz:=5) (rows:=UL.map wA) (fun r hr=>by obtain⟨x,_,rfl⟩:=JO.1 hr;rfl) rfl
    have h5:(UL.map wA).length=UL.length:=Ku _
    rw[h5]at hsN hsv
    have hsv1:xe β (.sl 6 0 b.c.ins.length 5)=vsl sN UL.length:=by rw[<-hul];exact hsv
    have hxs:List.map (V.conc [5,6] β) [V.c (Cv.sl 6 0 b.c.ins.length 5),V.c (Cv.fn 204 [(5,0)])]=[.c (.v (vsl sN UL.length)),Fv 204 #[ve β 5 0]]:=by rw[<-hsv1];rfl
    rw[hxs]
    refine xA 190 l1 (ti sN UL hsN zA 204 #[ve β 5 0] (fun u=> !yb u tu) (fun u _=>ZU u tu _ hpt)) (zV _) rfl (fun Cm m1 m2=>?_)
    refine vv ?_
    refine yL (hR Cm m1) ?_
    show(!(UL.any fun u=> !yb u tu))=UL.all (fun u=>yb u tu)
    rw[JX]
   ·-- min
    obtain⟨e0,e1,e2,e3,e4,e5,e6,e7,e8,e9,e10,e11,e12,e13,e14,e15,e16,e17⟩:(b.c.kd==[97,100,100])=false/\(b.c.kd==[115,117,98])=false/\(b.c.kd==[110,101,103])=false/\(b.c.kd==[99,111,110,118,101,114,116])=false/\(b.c.kd==[109,105,110])=true/\(b.c.kd==[109,97,120])=false/\(b.c.kd==[108,105,109,105,116])=false/\(b.c.kd==[100,101,108,97,121])=false/\(b.c.kd==[108,97,103])=false/\(b.c.kd==[115,119,105,116,99,104])=false/\(b.c.kd==[109,117,108])=false/\(b.c.kd==[100,105,118])=false/\(b.c.kd==[108,101,115,115])=false/\(b.c.kd==[101,113,117,97,108])=false/\(b.c.kd==[97,110,100])=false/\(b.c.kd==[111,114])=false/\(b.c.kd==[110,111,116])=false/\(b.c.kd==[104,121,115,116,101,114,101,115,105,115])=false:=by rw[hkd];decide
    rw[hkd]at hR
    refine CallQ.pure 170 ul rfl ?_
    simp only[go_sem,e0,e1,e2,e3,e4,e5,e6,e7,e8,e9,e10,e11,e12,e13,e14,e15,e16,e17]
    refine CallQ.letgo (xs:=[_,_]) (M0:=[]) [5,6] hL hP rfl (by unfold y9;simp only[Ky,yf (zS _),yf (y7 _),yf (yX _)];rfl) rfl tG rfl rfl (fun β Cn l1 l2 l3=>?_)
    have hpt:=(l3 5 _ rfl rfl rfl).pt zc
    obtain⟨sN,hsv,hsN⟩:=(l3 6 _ rfl rfl rfl).vslx (sz:=5) (rows:=UL.map wA) (fun r hr=>by obtain⟨x,_,rfl⟩:=JO.1 hr;rfl) rfl
    have h5:(UL.map wA).length=UL.length:=Ku _
    rw[h5]at hsN hsv
    have hsv1:xe β (.sl 6 0 b.c.ins.length 5)=vsl sN UL.length:=by rw[<-hul];exact hsv
    have hxs:List.map (V.conc [5,6] β) [V.c (Cv.sl 6 0 b.c.ins.length 5),V.c (Cv.fn 204 [(5,0)])]=[.c (.v (vsl sN UL.length)),Fv 204 #[ve β 5 0]]:=by rw[<-hsv1];rfl
    rw[hxs]
    refine xA 190 l1 (ti sN UL hsN zA 204 #[ve β 5 0] (fun u=> !yb u tu) (fun u _=>ZU u tu _ hpt)) (zV _) rfl (fun Cm m1 m2=>?_)
    refine vv ?_
    refine yL (hR Cm m1) ?_
    show(!(UL.any fun u=> !yb u tu))=UL.all (fun u=>yb u tu)
    rw[JX]
   ·-- max
    obtain⟨e0,e1,e2,e3,e4,e5,e6,e7,e8,e9,e10,e11,e12,e13,e14,e15,e16,e17⟩:(b.c.kd==[97,100,100])=false/\(b.c.kd==[115,117,98])=false/\(b.c.kd==[110,101,103])=false/\(b.c.kd==[99,111,110,118,101,114,116])=false/\(b.c.kd==[109,105,110])=false/\(b.c.kd==[109,97,120])=true/\(b.c.kd==[108,105,109,105,116])=false/\(b.c.kd==[100,101,108,97,121])=false/\(b.c.kd==[108,97,103])=false/\(b.c.kd==[115,119,105,116,99,104])=false/\(b.c.kd==[109,117,108])=false/\(b.c.kd==[100,105,118])=false/\(b.c.kd==[108,101,115,115])=false/\(b.c.kd==[101,113,117,97,108])=false/\(b.c.kd==[97,110,100])=false/\(b.c.kd==[111,114])=false/\(b.c.kd==[110,111,116])=false/\(b.c.kd==[104,121,115,116,101,114,101,115,105,115])=false:=by rw[hkd];decide
    rw[hkd]at hR
    refine CallQ.pure 170 ul rfl ?_
    simp only[go_sem,e0,e1,e2,e3,e4,e5,e6,e7,e8,e9,e10,e11,e12,e13,e14,e15,e16,e17]
    refine CallQ.letgo (xs:=[_,_]) (M0:=[]) [5,6] hL hP rfl (by unfold y9;simp only[Ky,yf (zS _),yf (y7 _),yf (yX _)];rfl) rfl tG rfl rfl (fun β Cn l1 l2 l3=>?_)
    have hpt:=(l3 5 _ rfl rfl rfl).pt zc
    obtain⟨sN,hsv,hsN⟩:=(l3 6 _ rfl rfl rfl).vslx (sz:=5) (rows:=UL.map wA) (fun r hr=>by obtain⟨x,_,rfl⟩:=JO.1 hr;rfl) rfl
    have h5:(UL.map wA).length=UL.length:=Ku _
    rw[h5]at hsN hsv
    have hsv1:xe β (.sl 6 0 b.c.ins.length 5)=vsl sN UL.length:=by rw[<-hul];exact hsv
    have hxs:List.map (V.conc [5,6] β) [V.c (Cv.sl 6 0 b.c.ins.length 5),V.c (Cv.fn 204 [(5,0)])]=[.c (.v (vsl sN UL.length)),Fv 204 #[ve β 5 0]]:=by rw[<-hsv1];rfl
    rw[hxs]
    refine xA 190 l1 (ti sN UL hsN zA 204 #[ve β 5 0] (fun u=> !yb u tu) (fun u _=>ZU u tu _ hpt)) (zV _) rfl (fun Cm m1 m2=>?_)
    refine vv ?_
    refine yL (hR Cm m1) ?_
    show(!(UL.any fun u=> !yb u tu))=UL.all (fun u=>yb u tu)
    rw[JX]
   ·-- limit
    obtain⟨e0,e1,e2,e3,e4,e5,e6,e7,e8,e9,e10,e11,e12,e13,e14,e15,e16,e17⟩:(b.c.kd==[97,100,100])=false/\(b.c.kd==[115,117,98])=false/\(b.c.kd==[110,101,103])=false/\(b.c.kd==[99,111,110,118,101,114,116])=false/\(b.c.kd==[109,105,110])=false/\(b.c.kd==[109,97,120])=false/\(b.c.kd==[108,105,109,105,116])=true/\(b.c.kd==[100,101,108,97,121])=false/\(b.c.kd==[108,97,103])=false/\(b.c.kd==[115,119,105,116,99,104])=false/\(b.c.kd==[109,117,108])=false/\(b.c.kd==[100,105,118])=false/\(b.c.kd==[108,101,115,115])=false/\(b.c.kd==[101,113,117,97,108])=false/\(b.c.kd==[97,110,100])=false/\(b.c.kd==[111,114])=false/\(b.c.kd==[110,111,116])=false/\(b.c.kd==[104,121,115,116,101,114,101,115,105,115])=false:=by rw[hkd];decide
    rw[hkd]at hR
    refine CallQ.pure 170 ul rfl ?_
    simp only[go_sem,e0,e1,e2,e3,e4,e5,e6,e7,e8,e9,e10,e11,e12,e13,e14,e15,e16,e17]
    refine CallQ.letgo (xs:=[_,_]) (M0:=[]) [5,6] hL hP rfl (by unfold y9;simp only[Ky,yf (zS _),yf (y7 _),yf (yX _)];rfl) rfl tG rfl rfl (fun β Cn l1 l2 l3=>?_)
    have hpt:=(l3 5 _ rfl rfl rfl).pt zc
    obtain⟨sN,hsv,hsN⟩:=(l3 6 _ rfl rfl rfl).vslx (sz:=5) (rows:=UL.map wA) (fun r hr=>by obtain⟨x,_,rfl⟩:=JO.1 hr;rfl) rfl
    have h5:(UL.map wA).length=UL.length:=Ku _
    rw[h5]at hsN hsv
    have hsv1:xe β (.sl 6 0 b.c.ins.length 5)=vsl sN UL.length:=by rw[<-hul];exact hsv
    have hxs:List.map (V.conc [5,6] β) [V.c (Cv.sl 6 0 b.c.ins.length 5),V.c (Cv.fn 204 [(5,0)])]=[.c (.v (vsl sN UL.length)),Fv 204 #[ve β 5 0]]:=by rw[<-hsv1];rfl
    rw[hxs]
    refine xA 190 l1 (ti sN UL hsN zA 204 #[ve β 5 0] (fun u=> !yb u tu) (fun u _=>ZU u tu _ hpt)) (zV _) rfl (fun Cm m1 m2=>?_)
    refine vv ?_
    refine yL (hR Cm m1) ?_
    show(!(UL.any fun u=> !yb u tu))=UL.all (fun u=>yb u tu)
    rw[JX]
   ·-- convert
    obtain⟨e0,e1,e2,e3,e4,e5,e6,e7,e8,e9,e10,e11,e12,e13,e14,e15,e16,e17⟩:(b.c.kd==[97,100,100])=false/\(b.c.kd==[115,117,98])=false/\(b.c.kd==[110,101,103])=false/\(b.c.kd==[99,111,110,118,101,114,116])=true/\(b.c.kd==[109,105,110])=false/\(b.c.kd==[109,97,120])=false/\(b.c.kd==[108,105,109,105,116])=false/\(b.c.kd==[100,101,108,97,121])=false/\(b.c.kd==[108,97,103])=false/\(b.c.kd==[115,119,105,116,99,104])=false/\(b.c.kd==[109,117,108])=false/\(b.c.kd==[100,105,118])=false/\(b.c.kd==[108,101,115,115])=false/\(b.c.kd==[101,113,117,97,108])=false/\(b.c.kd==[97,110,100])=false/\(b.c.kd==[111,114])=false/\(b.c.kd==[110,111,116])=false/\(b.c.kd==[104,121,115,116,101,114,101,115,105,115])=false:=by rw[hkd];decide
    rw[hkd]at hR
    refine CallQ.pure 170 ul rfl ?_
    simp only[go_sem,e0,e1,e2,e3,e4,e5,e6,e7,e8,e9,e10,e11,e12,e13,e14,e15,e16,e17]
    refine CallQ.letgo (xs:=[_,_]) (M0:=[]) [5,6] hL hP rfl (by unfold y9;simp only[Ky,yf (zS _),yf (y7 _),yf (yX _)];rfl) rfl tG rfl rfl (fun β Cn l1 l2 l3=>?_)
    have hpt:=(l3 5 _ rfl rfl rfl).pt zc
    obtain⟨sN,hsv,hsN⟩:=(l3 6 _ rfl rfl rfl).vslx (sz:=5) (rows:=UL.map wA) (fun r hr=>by obtain⟨x,_,rfl⟩:=JO.1 hr;rfl) rfl
    have h5:(UL.map wA).length=UL.length:=Ku _
    rw[h5]at hsN hsv
    have hsv1:xe β (.sl 6 0 b.c.ins.length 5)=vsl sN UL.length:=by rw[<-hul];exact hsv
    have hxs:List.map (V.conc [5,6] β) [V.c (Cv.sl 6 0 b.c.ins.length 5),V.c (Cv.fn 204 [(5,0)])]=[.c (.v (vsl sN UL.length)),Fv 204 #[ve β 5 0]]:=by rw[<-hsv1];rfl
    rw[hxs]
    refine xA 190 l1 (ti sN UL hsN zA 204 #[ve β 5 0] (fun u=> !yb u tu) (fun u _=>ZU u tu _ hpt)) (zV _) rfl (fun Cm m1 m2=>?_)
    refine vv ?_
    refine yL (hR Cm m1) ?_
    show(!(UL.any fun u=> !yb u tu))=UL.all (fun u=>yb u tu)
    rw[JX]
   ·-- curve
    obtain⟨e0,e1,e2,e3,e4,e5,e6,e7,e8,e9,e10,e11,e12,e13,e14,e15,e16,e17⟩:(b.c.kd==[97,100,100])=false/\(b.c.kd==[115,117,98])=false/\(b.c.kd==[110,101,103])=false/\(b.c.kd==[99,111,110,118,101,114,116])=false/\(b.c.kd==[109,105,110])=false/\(b.c.kd==[109,97,120])=false/\(b.c.kd==[108,105,109,105,116])=false/\(b.c.kd==[100,101,108,97,121])=false/\(b.c.kd==[108,97,103])=false/\(b.c.kd==[115,119,105,116,99,104])=false/\(b.c.kd==[109,117,108])=false/\(b.c.kd==[100,105,118])=false/\(b.c.kd==[108,101,115,115])=false/\(b.c.kd==[101,113,117,97,108])=false/\(b.c.kd==[97,110,100])=false/\(b.c.kd==[111,114])=false/\(b.c.kd==[110,111,116])=false/\(b.c.kd==[104,121,115,116,101,114,101,115,105,115])=false:=by rw[hkd];decide
    rw[hkd]at hR
    refine CallQ.pure 170 ul rfl ?_
    simp only[go_sem,e0,e1,e2,e3,e4,e5,e6,e7,e8,e9,e10,e11,e12,e13,e14,e15,e16,e17]
    exact yL (hR C hL) rfl
   ·-- map
    obtain⟨e0,e1,e2,e3,e4,e5,e6,e7,e8,e9,e10,e11,e12,e13,e14,e15,e16,e17⟩:(b.c.kd==[97,100,100])=false/\(b.c.kd==[115,117,98])=false/\(b.c.kd==[110,101,103])=false/\(b.c.kd==[99,111,110,118,101,114,116])=false/\(b.c.kd==[109,105,110])=false/\(b.c.kd==[109,97,120])=false/\(b.c.kd==[108,105,109,105,116])=false/\(b.c.kd==[100,101,108,97,121])=false/\(b.c.kd==[108,97,103])=false/\(b.c.kd==[115,119,105,116,99,104])=false/\(b.c.kd==[109,117,108])=false/\(b.c.kd==[100,105,118])=false/\(b.c.kd==[108,101,115,115])=false/\(b.c.kd==[101,113,117,97,108])=false/\(b.c.kd==[97,110,100])=false/\(b.c.kd==[111,114])=false/\(b.c.kd==[110,111,116])=false/\(b.c.kd==[104,121,115,116,101,114,101,115,105,115])=false:=by rw[hkd];decide
    rw[hkd]at hR
    refine CallQ.pure 170 ul rfl ?_
    simp only[go_sem,e0,e1,e2,e3,e4,e5,e6,e7,e8,e9,e10,e11,e12,e13,e14,e15,e16,e17]
    exact yL (hR C hL) rfl
   ·-- delay
    obtain⟨e0,e1,e2,e3,e4,e5,e6,e7,e8,e9,e10,e11,e12,e13,e14,e15,e16,e17⟩:(b.c.kd==[97,100,100])=false/\(b.c.kd==[115,117,98])=false/\(b.c.kd==[110,101,103])=false/\(b.c.kd==[99,111,110,118,101,114,116])=false/\(b.c.kd==[109,105,110])=false/\(b.c.kd==[109,97,120])=false/\(b.c.kd==[108,105,109,105,116])=false/\(b.c.kd==[100,101,108,97,121])=true/\(b.c.kd==[108,97,103])=false/\(b.c.kd==[115,119,105,116,99,104])=false/\(b.c.kd==[109,117,108])=false/\(b.c.kd==[100,105,118])=false/\(b.c.kd==[108,101,115,115])=false/\(b.c.kd==[101,113,117,97,108])=false/\(b.c.kd==[97,110,100])=false/\(b.c.kd==[111,114])=false/\(b.c.kd==[110,111,116])=false/\(b.c.kd==[104,121,115,116,101,114,101,115,105,115])=false:=by rw[hkd];decide
    rw[hkd]at hR
    refine CallQ.pure 170 ul rfl ?_
    simp only[go_sem,e0,e1,e2,e3,e4,e5,e6,e7,e8,e9,e10,e11,e12,e13,e14,e15,e16,e17]
    refine CallQ.letgo (xs:=[_,_]) (M0:=[]) [5,6] hL hP rfl (by unfold y9;simp only[Ky,yf (zS _),yf (y7 _),yf (yX _)];rfl) rfl tG rfl rfl (fun β Cn l1 l2 l3=>?_)
    have hpt:=(l3 5 _ rfl rfl rfl).pt zc
    obtain⟨sN,hsv,hsN⟩:=(l3 6 _ rfl rfl rfl).vslx (sz:=5) (rows:=UL.map wA) (fun r hr=>by obtain⟨x,_,rfl⟩:=JO.1 hr;rfl) rfl
    have h5:(UL.map wA).length=UL.length:=Ku _
    rw[h5]at hsN hsv
    have hsv1:xe β (.sl 6 0 b.c.ins.length 5)=vsl sN UL.length:=by rw[<-hul];exact hsv
    have hxs:List.map (V.conc [5,6] β) [V.c (Cv.sl 6 0 b.c.ins.length 5),V.c (Cv.fn 204 [(5,0)])]=[.c (.v (vsl sN UL.length)),Fv 204 #[ve β 5 0]]:=by rw[<-hsv1];rfl
    rw[hxs]
    refine xA 190 l1 (ti sN UL hsN zA 204 #[ve β 5 0] (fun u=> !yb u tu) (fun u _=>ZU u tu _ hpt)) (zV _) rfl (fun Cm m1 m2=>?_)
    refine vv ?_
    refine yL (hR Cm m1) ?_
    show(!(UL.any fun u=> !yb u tu))=UL.all (fun u=>yb u tu)
    rw[JX]
   ·-- lag
    obtain⟨e0,e1,e2,e3,e4,e5,e6,e7,e8,e9,e10,e11,e12,e13,e14,e15,e16,e17⟩:(b.c.kd==[97,100,100])=false/\(b.c.kd==[115,117,98])=false/\(b.c.kd==[110,101,103])=false/\(b.c.kd==[99,111,110,118,101,114,116])=false/\(b.c.kd==[109,105,110])=false/\(b.c.kd==[109,97,120])=false/\(b.c.kd==[108,105,109,105,116])=false/\(b.c.kd==[100,101,108,97,121])=false/\(b.c.kd==[108,97,103])=true/\(b.c.kd==[115,119,105,116,99,104])=false/\(b.c.kd==[109,117,108])=false/\(b.c.kd==[100,105,118])=false/\(b.c.kd==[108,101,115,115])=false/\(b.c.kd==[101,113,117,97,108])=false/\(b.c.kd==[97,110,100])=false/\(b.c.kd==[111,114])=false/\(b.c.kd==[110,111,116])=false/\(b.c.kd==[104,121,115,116,101,114,101,115,105,115])=false:=by rw[hkd];decide
    rw[hkd]at hR
    refine CallQ.pure 170 ul rfl ?_
    simp only[go_sem,e0,e1,e2,e3,e4,e5,e6,e7,e8,e9,e10,e11,e12,e13,e14,e15,e16,e17]
    refine CallQ.letgo (xs:=[_,_]) (M0:=[]) [5,6] hL hP rfl (by unfold y9;simp only[Ky,yf (zS _),yf (y7 _),yf (yX _)];rfl) rfl tG rfl rfl (fun β Cn l1 l2 l3=>?_)
    have hpt:=(l3 5 _ rfl rfl rfl).pt zc
    obtain⟨sN,hsv,hsN⟩:=(l3 6 _ rfl rfl rfl).vslx (sz:=5) (rows:=UL.map wA) (fun r hr=>by obtain⟨x,_,rfl⟩:=JO.1 hr;rfl) rfl
    have h5:(UL.map wA).length=UL.length:=Ku _
    rw[h5]at hsN hsv
    have hsv1:xe β (.sl 6 0 b.c.ins.length 5)=vsl sN UL.length:=by rw[<-hul];exact hsv
    have hxs:List.map (V.conc [5,6] β) [V.c (Cv.sl 6 0 b.c.ins.length 5),V.c (Cv.fn 204 [(5,0)])]=[.c (.v (vsl sN UL.length)),Fv 204 #[ve β 5 0]]:=by rw[<-hsv1];rfl
    rw[hxs]
    refine xA 190 l1 (ti sN UL hsN zA 204 #[ve β 5 0] (fun u=> !yb u tu) (fun u _=>ZU u tu _ hpt)) (zV _) rfl (fun Cm m1 m2=>?_)
    refine vv ?_
    refine yL (hR Cm m1) ?_
    show(!(UL.any fun u=> !yb u tu))=UL.all (fun u=>yb u tu)
    rw[JX]
   ·-- switch
    obtain⟨e0,e1,e2,e3,e4,e5,e6,e7,e8,e9,e10,e11,e12,e13,e14,e15,e16,e17⟩:(b.c.kd==[97,100,100])=false/\(b.c.kd==[115,117,98])=false/\(b.c.kd==[110,101,103])=false/\(b.c.kd==[99,111,110,118,101,114,116])=false/\(b.c.kd==[109,105,110])=false/\(b.c.kd==[109,97,120])=false/\(b.c.kd==[108,105,109,105,116])=false/\(b.c.kd==[100,101,108,97,121])=false/\(b.c.kd==[108,97,103])=false/\(b.c.kd==[115,119,105,116,99,104])=true/\(b.c.kd==[109,117,108])=false/\(b.c.kd==[100,105,118])=false/\(b.c.kd==[108,101,115,115])=false/\(b.c.kd==[101,113,117,97,108])=false/\(b.c.kd==[97,110,100])=false/\(b.c.kd==[111,114])=false/\(b.c.kd==[110,111,116])=false/\(b.c.kd==[104,121,115,116,101,114,101,115,105,115])=false:=by rw[hkd];decide
    rw[hkd]at hR
    refine CallQ.pure 170 ul rfl ?_
    simp only[go_sem,e0,e1,e2,e3,e4,e5,e6,e7,e8,e9,e10,e11,e12,e13,e14,e15,e16,e17]
    have hl:=hlen _ e9 3 0 0 rfl
    refine Sm.dg 180 17 ze ?_
    simp only[go_sem,ht0 zA,ht1 zA,ht2 zA,hz,Jp]
    refine⟨zA,zA,fun h=>⟨h,zA⟩,fun h=>⟨h,zA⟩,fun h=>⟨h,zA⟩,fun h=>⟨h,zA⟩,?_⟩
    refine yL (hR C hL) ?_
    show(bif (bif yb (UL.getD 0 u0) u0 then yb (UL.getD 1 u0) tu else false)then yb (UL.getD 2 u0) tu else false)=(yb (UL.getD 0 u0) u0&&(yb (UL.getD 1 u0) tu&&yb (UL.getD 2 u0) tu))
    rw[xu,xu,Bool.and_assoc]
   ·-- less
    obtain⟨e0,e1,e2,e3,e4,e5,e6,e7,e8,e9,e10,e11,e12,e13,e14,e15,e16,e17⟩:(b.c.kd==[97,100,100])=false/\(b.c.kd==[115,117,98])=false/\(b.c.kd==[110,101,103])=false/\(b.c.kd==[99,111,110,118,101,114,116])=false/\(b.c.kd==[109,105,110])=false/\(b.c.kd==[109,97,120])=false/\(b.c.kd==[108,105,109,105,116])=false/\(b.c.kd==[100,101,108,97,121])=false/\(b.c.kd==[108,97,103])=false/\(b.c.kd==[115,119,105,116,99,104])=false/\(b.c.kd==[109,117,108])=false/\(b.c.kd==[100,105,118])=false/\(b.c.kd==[108,101,115,115])=true/\(b.c.kd==[101,113,117,97,108])=false/\(b.c.kd==[97,110,100])=false/\(b.c.kd==[111,114])=false/\(b.c.kd==[110,111,116])=false/\(b.c.kd==[104,121,115,116,101,114,101,115,105,115])=false:=by rw[hkd];decide
    rw[hkd]at hR
    refine CallQ.pure 170 ul rfl ?_
    simp only[go_sem,e0,e1,e2,e3,e4,e5,e6,e7,e8,e9,e10,e11,e12,e13,e14,e15,e16,e17]
    have hl:=hlen _ e12 2 0 0 rfl
    refine Sm.dg 180 10 ze ?_
    simp only[go_sem,ht0 zA,ht1 zA,hz,Jp]
    refine⟨zA,zA,zA,zA,?_⟩
    refine yL (hR C hL) ?_
    show(bif yb (UL.getD 0 u0) (UL.getD 1 u0)then yb tu u0 else false)=(yb (UL.getD 0 u0) (UL.getD 1 u0)&&yb tu u0)
    exact xu _ _
   ·-- equal
    obtain⟨e0,e1,e2,e3,e4,e5,e6,e7,e8,e9,e10,e11,e12,e13,e14,e15,e16,e17⟩:(b.c.kd==[97,100,100])=false/\(b.c.kd==[115,117,98])=false/\(b.c.kd==[110,101,103])=false/\(b.c.kd==[99,111,110,118,101,114,116])=false/\(b.c.kd==[109,105,110])=false/\(b.c.kd==[109,97,120])=false/\(b.c.kd==[108,105,109,105,116])=false/\(b.c.kd==[100,101,108,97,121])=false/\(b.c.kd==[108,97,103])=false/\(b.c.kd==[115,119,105,116,99,104])=false/\(b.c.kd==[109,117,108])=false/\(b.c.kd==[100,105,118])=false/\(b.c.kd==[108,101,115,115])=false/\(b.c.kd==[101,113,117,97,108])=true/\(b.c.kd==[97,110,100])=false/\(b.c.kd==[111,114])=false/\(b.c.kd==[110,111,116])=false/\(b.c.kd==[104,121,115,116,101,114,101,115,105,115])=false:=by rw[hkd];decide
    rw[hkd]at hR
    refine CallQ.pure 170 ul rfl ?_
    simp only[go_sem,e0,e1,e2,e3,e4,e5,e6,e7,e8,e9,e10,e11,e12,e13,e14,e15,e16,e17]
    have hl:=hlen _ e13 2 0 0 rfl
    refine Sm.dg 180 10 ze ?_
    simp only[go_sem,ht0 zA,ht1 zA,hz,Jp]
    refine⟨zA,zA,zA,zA,?_⟩
    refine yL (hR C hL) ?_
    show(bif yb (UL.getD 0 u0) (UL.getD 1 u0)then yb tu u0 else false)=(yb (UL.getD 0 u0) (UL.getD 1 u0)&&yb tu u0)
    exact xu _ _
   ·-- and
    obtain⟨e0,e1,e2,e3,e4,e5,e6,e7,e8,e9,e10,e11,e12,e13,e14,e15,e16,e17⟩:(b.c.kd==[97,100,100])=false/\(b.c.kd==[115,117,98])=false/\(b.c.kd==[110,101,103])=false/\(b.c.kd==[99,111,110,118,101,114,116])=false/\(b.c.kd==[109,105,110])=false/\(b.c.kd==[109,97,120])=false/\(b.c.kd==[108,105,109,105,116])=false/\(b.c.kd==[100,101,108,97,121])=false/\(b.c.kd==[108,97,103])=false/\(b.c.kd==[115,119,105,116,99,104])=false/\(b.c.kd==[109,117,108])=false/\(b.c.kd==[100,105,118])=false/\(b.c.kd==[108,101,115,115])=false/\(b.c.kd==[101,113,117,97,108])=false/\(b.c.kd==[97,110,100])=true/\(b.c.kd==[111,114])=false/\(b.c.kd==[110,111,116])=false/\(b.c.kd==[104,121,115,116,101,114,101,115,105,115])=false:=by rw[hkd];decide
    rw[hkd]at hR
    refine CallQ.pure 170 ul rfl ?_
    simp only[go_sem,e0,e1,e2,e3,e4,e5,e6,e7,e8,e9,e10,e11,e12,e13,e14,e15,e16,e17]
    have hg0:(tu.m==u0.m&&(tu.kg==u0.kg&&(tu.s==u0.s&&(tu.a==u0.a&&tu.k==u0.k))))=yb tu u0:=rfl
    simp only[hg0]
    cases hq:yb tu u0 with
    |false=>
     refine CallQ.guard (xs:=[]) (v:=Bo true) 180 (fun h=>by cases h) (fun h=>by cases h) (vv ?_)
     refine yL (hR C hL) ?_
     show _=(yb tu u0&&UL.all (fun u=>yb u u0))
     rw[hq];rfl
    |true=>
     refine CallQ.letgo (xs:=[_,_]) (M0:=[]) [170,6] hL hP rfl (by unfold y9;simp only[Ky,yf (zS _),yf (y7 _),yf (yX _)];rfl) rfl tG rfl rfl (fun β Cn l1 l2 l3=>?_)
     have hpt:=(l3 170 _ rfl rfl rfl).pt zc
     obtain⟨sN,hsv,hsN⟩:=(l3 6 _ rfl rfl rfl).vslx (sz:=5) (rows:=UL.map wA) (fun r hr=>by obtain⟨x,_,rfl⟩:=JO.1 hr;rfl) rfl
     have h5:(UL.map wA).length=UL.length:=Ku _
     rw[h5]at hsN hsv
     have hsv1:xe β (.sl 6 0 b.c.ins.length 5)=vsl sN UL.length:=by rw[<-hul];exact hsv
     have hxs:List.map (V.conc [170,6] β) [V.c (Cv.sl 6 0 b.c.ins.length 5),V.c (Cv.fn 207 [(170,0)])]=[.c (.v (vsl sN UL.length)),Fv 207 #[ve β 170 0]]:=by rw[<-hsv1];rfl
     rw[hxs]
     refine xA 190 l1 (ti sN UL hsN zA 207 #[ve β 170 0] (fun u=> !yb u u0) (fun u _=>PS u u0 _ hpt)) (zV _) rfl (fun Cm m1 m2=>?_)
     refine vv ?_
     refine yL (hR Cm m1) ?_
     show(!(UL.any fun u=> !yb u u0))=(yb tu u0&&UL.all (fun u=>yb u u0))
     rw[hq,JX];rfl
   ·-- or
    obtain⟨e0,e1,e2,e3,e4,e5,e6,e7,e8,e9,e10,e11,e12,e13,e14,e15,e16,e17⟩:(b.c.kd==[97,100,100])=false/\(b.c.kd==[115,117,98])=false/\(b.c.kd==[110,101,103])=false/\(b.c.kd==[99,111,110,118,101,114,116])=false/\(b.c.kd==[109,105,110])=false/\(b.c.kd==[109,97,120])=false/\(b.c.kd==[108,105,109,105,116])=false/\(b.c.kd==[100,101,108,97,121])=false/\(b.c.kd==[108,97,103])=false/\(b.c.kd==[115,119,105,116,99,104])=false/\(b.c.kd==[109,117,108])=false/\(b.c.kd==[100,105,118])=false/\(b.c.kd==[108,101,115,115])=false/\(b.c.kd==[101,113,117,97,108])=false/\(b.c.kd==[97,110,100])=false/\(b.c.kd==[111,114])=true/\(b.c.kd==[110,111,116])=false/\(b.c.kd==[104,121,115,116,101,114,101,115,105,115])=false:=by rw[hkd];decide
    rw[hkd]at hR
    refine CallQ.pure 170 ul rfl ?_
    simp only[go_sem,e0,e1,e2,e3,e4,e5,e6,e7,e8,e9,e10,e11,e12,e13,e14,e15,e16,e17]
    have hg0:(tu.m==u0.m&&(tu.kg==u0.kg&&(tu.s==u0.s&&(tu.a==u0.a&&tu.k==u0.k))))=yb tu u0:=rfl
    simp only[hg0]
    cases hq:yb tu u0 with
    |false=>
     refine CallQ.guard (xs:=[]) (v:=Bo true) 180 (fun h=>by cases h) (fun h=>by cases h) (vv ?_)
     refine yL (hR C hL) ?_
     show _=(yb tu u0&&UL.all (fun u=>yb u u0))
     rw[hq];rfl
    |true=>
     refine CallQ.letgo (xs:=[_,_]) (M0:=[]) [170,6] hL hP rfl (by unfold y9;simp only[Ky,yf (zS _),yf (y7 _),yf (yX _)];rfl) rfl tG rfl rfl (fun β Cn l1 l2 l3=>?_)
     have hpt:=(l3 170 _ rfl rfl rfl).pt zc
     obtain⟨sN,hsv,hsN⟩:=(l3 6 _ rfl rfl rfl).vslx (sz:=5) (rows:=UL.map wA) (fun r hr=>by obtain⟨x,_,rfl⟩:=JO.1 hr;rfl) rfl
     have h5:(UL.map wA).length=UL.length:=Ku _
     rw[h5]at hsN hsv
     have hsv1:xe β (.sl 6 0 b.c.ins.length 5)=vsl sN UL.length:=by rw[<-hul];exact hsv
     have hxs:List.map (V.conc [170,6] β) [V.c (Cv.sl 6 0 b.c.ins.length 5),V.c (Cv.fn 207 [(170,0)])]=[.c (.v (vsl sN UL.length)),Fv 207 #[ve β 170 0]]:=by rw[<-hsv1];rfl
     rw[hxs]
     refine xA 190 l1 (ti sN UL hsN zA 207 #[ve β 170 0] (fun u=> !yb u u0) (fun u _=>PS u u0 _ hpt)) (zV _) rfl (fun Cm m1 m2=>?_)
     refine vv ?_
     refine yL (hR Cm m1) ?_
     show(!(UL.any fun u=> !yb u u0))=(yb tu u0&&UL.all (fun u=>yb u u0))
     rw[hq,JX];rfl
   ·-- not
    obtain⟨e0,e1,e2,e3,e4,e5,e6,e7,e8,e9,e10,e11,e12,e13,e14,e15,e16,e17⟩:(b.c.kd==[97,100,100])=false/\(b.c.kd==[115,117,98])=false/\(b.c.kd==[110,101,103])=false/\(b.c.kd==[99,111,110,118,101,114,116])=false/\(b.c.kd==[109,105,110])=false/\(b.c.kd==[109,97,120])=false/\(b.c.kd==[108,105,109,105,116])=false/\(b.c.kd==[100,101,108,97,121])=false/\(b.c.kd==[108,97,103])=false/\(b.c.kd==[115,119,105,116,99,104])=false/\(b.c.kd==[109,117,108])=false/\(b.c.kd==[100,105,118])=false/\(b.c.kd==[108,101,115,115])=false/\(b.c.kd==[101,113,117,97,108])=false/\(b.c.kd==[97,110,100])=false/\(b.c.kd==[111,114])=false/\(b.c.kd==[110,111,116])=true/\(b.c.kd==[104,121,115,116,101,114,101,115,105,115])=false:=by rw[hkd];decide
    rw[hkd]at hR
    refine CallQ.pure 170 ul rfl ?_
    simp only[go_sem,e0,e1,e2,e3,e4,e5,e6,e7,e8,e9,e10,e11,e12,e13,e14,e15,e16,e17]
    have hg0:(tu.m==u0.m&&(tu.kg==u0.kg&&(tu.s==u0.s&&(tu.a==u0.a&&tu.k==u0.k))))=yb tu u0:=rfl
    simp only[hg0]
    cases hq:yb tu u0 with
    |false=>
     refine CallQ.guard (xs:=[]) (v:=Bo true) 180 (fun h=>by cases h) (fun h=>by cases h) (vv ?_)
     refine yL (hR C hL) ?_
     show _=(yb tu u0&&UL.all (fun u=>yb u u0))
     rw[hq];rfl
    |true=>
     refine CallQ.letgo (xs:=[_,_]) (M0:=[]) [170,6] hL hP rfl (by unfold y9;simp only[Ky,yf (zS _),yf (y7 _),yf (yX _)];rfl) rfl tG rfl rfl (fun β Cn l1 l2 l3=>?_)
     have hpt:=(l3 170 _ rfl rfl rfl).pt zc
     obtain⟨sN,hsv,hsN⟩:=(l3 6 _ rfl rfl rfl).vslx (sz:=5) (rows:=UL.map wA) (fun r hr=>by obtain⟨x,_,rfl⟩:=JO.1 hr;rfl) rfl
     have h5:(UL.map wA).length=UL.length:=Ku _
     rw[h5]at hsN hsv
     have hsv1:xe β (.sl 6 0 b.c.ins.length 5)=vsl sN UL.length:=by rw[<-hul];exact hsv
     have hxs:List.map (V.conc [170,6] β) [V.c (Cv.sl 6 0 b.c.ins.length 5),V.c (Cv.fn 207 [(170,0)])]=[.c (.v (vsl sN UL.length)),Fv 207 #[ve β 170 0]]:=by rw[<-hsv1];rfl
     rw[hxs]
     refine xA 190 l1 (ti sN UL hsN zA 207 #[ve β 170 0] (fun u=> !yb u u0) (fun u _=>PS u u0 _ hpt)) (zV _) rfl (fun Cm m1 m2=>?_)
     refine vv ?_
     refine yL (hR Cm m1) ?_
     show(!(UL.any fun u=> !yb u u0))=(yb tu u0&&UL.all (fun u=>yb u u0))
     rw[hq,JX];rfl
   ·-- hysteresis
    obtain⟨e0,e1,e2,e3,e4,e5,e6,e7,e8,e9,e10,e11,e12,e13,e14,e15,e16,e17⟩:(b.c.kd==[97,100,100])=false/\(b.c.kd==[115,117,98])=false/\(b.c.kd==[110,101,103])=false/\(b.c.kd==[99,111,110,118,101,114,116])=false/\(b.c.kd==[109,105,110])=false/\(b.c.kd==[109,97,120])=false/\(b.c.kd==[108,105,109,105,116])=false/\(b.c.kd==[100,101,108,97,121])=false/\(b.c.kd==[108,97,103])=false/\(b.c.kd==[115,119,105,116,99,104])=false/\(b.c.kd==[109,117,108])=false/\(b.c.kd==[100,105,118])=false/\(b.c.kd==[108,101,115,115])=false/\(b.c.kd==[101,113,117,97,108])=false/\(b.c.kd==[97,110,100])=false/\(b.c.kd==[111,114])=false/\(b.c.kd==[110,111,116])=false/\(b.c.kd==[104,121,115,116,101,114,101,115,105,115])=true:=by rw[hkd];decide
    rw[hkd]at hR
    refine CallQ.pure 170 ul rfl ?_
    simp only[go_sem,e0,e1,e2,e3,e4,e5,e6,e7,e8,e9,e10,e11,e12,e13,e14,e15,e16,e17]
    exact yL (hR C hL) rfl
end Go.Proofs.YtkciabfilokfiaaGreat.Fx
