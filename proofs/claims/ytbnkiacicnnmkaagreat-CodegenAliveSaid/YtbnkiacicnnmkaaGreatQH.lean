/-  -/
import Derived.Test.YtbnkiacicnnmkaaGreatQF
set_option linter.unusedSimpArgs false
set_option linter.unusedVariables false
set_option maxRecDepth 100000
set_option maxHeartbeats 4000000
namespace Go.Proofs.YtbnkiacicnnmkaaGreat.Fx
open Vg Tf
def oe (t:Ft):Un:=⟨t.m,t.kg,t.s,t.a,t.k⟩
def yr (a b:Un):Bool:=(a.m==b.m)&&((a.kg==b.kg)&&((a.s==b.s)&&((a.a==b.a)&&(a.k==b.k))))
theorem eW {H:Hp}(u t:Un)(pv:Value)(hp:PtH H pv (xG t)):CallH H Tryz.prog 249 [ze (xG u),.c (.v pv)] (Bo (!yr u t)):=by
 refine kH Tryz.func249 WX Tryz.ntmps249 fun C hR hP hH hL=>?_
 refine z3 1 53 1 (hp.mono hH) rfl rfl (zB 100 ?_)
 refine vv ?_
 exact zu (hR C hL) rfl
theorem Tj {H:Hp}(u t:Un)(pv:Value)(hp:PtH H pv (xG t)):CallH H Tryz.prog 250 [ze (xG u),.c (.v pv)] (Bo (!yr u t)):=by
 refine kH Tryz.func250 WW Tryz.ntmps250 fun C hR hP hH hL=>?_
 refine z3 1 53 1 (hp.mono hH) rfl rfl (zB 100 ?_)
 refine vv ?_
 exact zu (hR C hL) rfl
def YY:Str:=[115,119,105,116,99,104]
def Q2:Str:=[97,100,100]
def Tv:Str:=[115,117,98]
def SK:Str:=[110,101,103]
def QO:Str:=[99,111,110,118,101,114,116]
def SP:Str:=[109,105,110]
def SS:Str:=[109,97,120]
def SO:Str:=[109,117,108]
def QF:Str:=[100,105,118]
def S0:Str:=[108,101,115,115]
def Sn:Str:=[101,113,117,97,108]
def QW:Str:=[97,110,100]
def O7:Str:=[111,114]
def SJ:Str:=[110,111,116]
def aR (kd:Str)(t:Un)(us:List Un):Bool:=
 if [Q2,Tv,SK,QO,SP,SS,dT,nh,dV].contains kd=true then us.all (fun u=>yr u t)
 else if (kd==YY)=true then yr (us.getD 0 u0) u0&&(yr (us.getD 1 u0) t&&yr (us.getD 2 u0) t)
 else if (kd==SO)=true then(o4 (us.getD 0 u0) (us.getD 1 u0) 1==0)&&yr (np (us.getD 0 u0) (us.getD 1 u0) 1) t
 else if (kd==QF)=true then(o4 (us.getD 0 u0) (us.getD 1 u0) (-1)==0)&&yr (np (us.getD 0 u0) (us.getD 1 u0) (-1)) t
 else if (kd==S0||kd==Sn)=true then yr (us.getD 0 u0) (us.getD 1 u0)&&yr t u0
 else if (kd==QW||(kd==O7||kd==SJ))=true then yr t u0&&us.all (fun u=>yr u u0)
 else if (kd==d6)=true then yr t u0 else true
theorem v5 {s:Str}{q:Nat×Nat×Nat}(h:yk s=some q):(s,q)∈kindT:=by
 unfold yk at h
 cases hf:kindT.find? (fun r=>r.1==s)with
 |none=>rw[hf]at h;cases h
 |some r=>
  rw[hf]at h
  simp only[M9,M8]at h
  have h1:=List.find?_some hf
  have h2:=LS hf
  have:r.1=s:=by simpa using h1
  subst this
  rw[<-h];exact h2
def eV (d:Dg)(b:Bl):List Un:=b.ins.map fun s=>oe (x7 d (wn (zW d) s))
@[go_sem ↓] theorem TQ:rB 1 5=[(0,5)]:=rfl
theorem jU (l:List Un)(i:Nat)(h:i<l.length):((zC (l.map xG)).drop (i*5)).take 5=(xG l[i]).map Cv.v:=zX (r:=xG) (k:=5) (fun _=>rfl) l i h
theorem _root_.Go.Proofs.YtbnkiacicnnmkaaGreat.Vg.Known.vslx {H:Hp}{β:Vl}{n:Nat}{b:Bk}(h:Known H β n b){sz:Nat}{rows:List (List Value)}(hr:∀r∈rows,r.length=sz)(hc:b.cells=zC rows):∃s:Sv,yb β (.sl n 0 rows.length sz)=vsl s rows.length/\SlH H (vsl s rows.length) sz rows:=by
 have h1:=h.sl hr hc
 obtain⟨s,hs⟩:∃s:Sv,yb β (.sl n 0 rows.length sz)=vsl s rows.length:=by
  unfold yb
  simp only[Cv.g]
  split
  ·rename_i hh;rw[hh.2];unfold Loc.emp;split<;>first|exact⟨⟨none,0⟩,rfl⟩|exact⟨⟨some _,_⟩,rfl⟩
  ·exact⟨⟨_,_⟩,rfl⟩
 exact⟨s,hs,by rw[<-hs];exact h1⟩
theorem aN {H:Hp}{cp:Value}{d:DgL}{bT bC' bM bS:Nat}(k:Ck H cp d bT bC' bM bS)(b:BlL)(hb:b.ok H)(hok:xg b.c=true)(hne:0<d.bls.length)(hin:∀s∈b.c.ins,ov (zW d.c) s=true):
  CallH H Tryz.prog 206 [.c (.v cp),ze b.r] (Bo (aR b.c.kd (oe (yH d.tys b.c.ty)) (eV d.c b.c))):=by
 have hn1:=k.n1
 have hn2:=k.n2
 have hil:b.c.ins.length<=3:=by
  have h1:=hok
  unfold xg at h1
  cases hq:yk b.c.kd with
  |none=>rw[hq]at h1;cases h1
  |some q=>
   obtain⟨a,n,t⟩:=q
   rw[hq]at h1
   simp only[Ns,decide_eq_true_eq]at h1
   have hm:=v5 hq
   have:∀r∈kindT,r.2.1<=3:=xW
   have:=this _ hm
   simp only at this
   omega
 obtain⟨b0,o0,rfl,c0,el0,mk0,hc0,hcc⟩:=PtH.at k.c.p
 refine kH Tryz.func206 VC Tryz.ntmps206 fun C hR hP hH hL=>?_
 have hpt:=k.c.p.mono hH
 refine yC (hb.mono hH) 1 ⟨rfl,rfl⟩ rfl (zB 100 ?_)
 refine vv ?_
 refine Sm.dg 110 9 zw (vv ?_)
 refine DOpQ.own 120 (zm rfl rfl) (vv ?_)
 refine DOpQ.own 120 (zV rfl rfl rfl) (vv ?_)
 refine zF 120 (fun _=>zQ (hH _ _ hc0) (hcc 7 _ rfl) rfl rfl rfl) (vv ?_)
 refine zF 120 (fun _=>xf (k.c.t.mono hH) rfl rfl rfl) (vv ?_)
 have htyn:=fun s hs=>rQ k (wn (zW d.c) s) (by
  have h1:=hin s hs
  unfold ov at h1
  obtain⟨i,hi⟩:=Nq.1 h1
  have:=td s _ 0 i hi
  have e:wn (zW d.c) s=i:=by unfold wn;rw[hi];rfl
  rw[e,<-vX d];omega)
 generalize htu:oe (yH d.tys b.c.ty)=tu at*
 have htu1:[Cv.v (.int .i64 (yH d.tys b.c.ty).m),Cv.v (.int .i64 (yH d.tys b.c.ty).kg),Cv.v (.int .i64 (yH d.tys b.c.ty).s),Cv.v (.int .i64 (yH d.tys b.c.ty).a),Cv.v (.int .i64 (yH d.tys b.c.ty).k)]=(xG tu).map Cv.v:=by rw[<-htu];rfl
 rw[htu1]
 refine xN 140 5 53 [6] [] rfl (vv ?_)
 have hus:eV d.c b.c=b.c.ins.map (fun s=>oe (x7 d.c (wn (zW d.c) s))):=rfl
 generalize hUF:(fun s=>oe (x7 d.c (wn (zW d.c) s)))=UF at*
 rw[hus]at hR
 refine zL (M0:=[]) (α:={i:Nat//i<=b.c.ins.length}) hP (fun i=>[(0,true,.c (.v (.pointer (some ⟨b0,o0,none⟩)))),(3,true,.c (.p 3 0)),(5,true,.c (.p 5 0)),(6,true,.c (.sl 6 0 i.val 5)),(23,true,.c (.sl 11 0 b.c.ins.length 1)),(24,true,I b.c.ins.length),(25,true,I i.val)])
  (fun i=>[(3,⟨false,T4 b,64⟩),(5,⟨false,(xG tu).map .v,53⟩),(6,⟨false,zC (((b.c.ins.take i.val).map UF).map xG),53⟩),(11,⟨true,b.c.ins.map sC,9⟩),(12,⟨true,b.c.ks.map iC,3⟩)]) (fun i=>b.c.ins.length-i.val) ⟨0,zA⟩ (fun _=>zD (by simp only[Nj,iR,zZ (mK _),zZ (y7 _),zZ (yD _)];rfl)) (fun _=>zP rfl) [(3,100),(5,120),(6,140),(11,11),(12,12)] ?_ ?_
 ·exact zk
 ·rintro⟨i,hi⟩ J hj
  simp only at hj hi⊢
  refine zB 150 (vv ?_)
  refine zY (fun hc=>?_) (fun hc=>?_)
  ·have hc:=zI hc
   simp only[go_sem,vN hc]
   refine⟨⟨zA,zA⟩,?_⟩
   have hmem:b.c.ins[i]∈b.c.ins:=Nv hc
   have htk:(b.c.ins.take (i+1)).map UF=(b.c.ins.take i).map UF++[UF b.c.ins[i]]:=by rw[MF hc,ME];rfl
   have ht:=htyn _ hmem
   have huf:UF b.c.ins[i]=oe (x7 d.c (wn (zW d.c) b.c.ins[i])):=by rw[<-hUF]
   have hlen:(zC (((b.c.ins.take i).map UF).map xG)).length=i*5:=by
    rw[zS (r:=xG) (k:=5) (fun _=>rfl)];simp;omega
   generalize b.c.ins[i]=s at*
   refine z3 1 191 31 hpt rfl rfl (zB 150 ?_)
   refine vv ?_
   refine z6 150 rfl rfl (.inl rfl) (fun _=>dS (k.c.s.mono hH) rfl rfl rfl) (vv ?_)
   refine zO 160 ht hH rfl ?_
   generalize x7 d.c (wn (zW d.c) s)=tt at*
   refine vv ?_
   have hap:List.take (i*5) (zC (((b.c.ins.take i).map UF).map xG))++[Cv.v (.int .i64 tt.m),Cv.v (.int .i64 tt.kg),Cv.v (.int .i64 tt.s),Cv.v (.int .i64 tt.a),Cv.v (.int .i64 tt.k)]=zC (((b.c.ins.take (i+1)).map UF).map xG):=by
    rw[Nw zA,htk,huf]
    simp only[zC,ME,L7,Nk,Nm,List.flatten_cons,List.flatten_nil,Nx]
    rfl
   simp only[hap,hlen,yt (i:=i)]
   refine⟨⟨zA,zA,zA⟩,?_⟩
   exact hj _ _ ⟨i+1,hc⟩ [(3,3),(5,5),(6,161),(11,11),(12,12)] yK zk
  ·have hc:=zJ hi hc
   subst hc
   rw[MS]
   have hq:∃q,yk b.c.kd=some q:=by
    have h1:=hok
    unfold xg at h1
    cases hq:yk b.c.kd with
    |none=>rw[hq]at h1;cases h1
    |some q=>exact⟨q,rfl⟩
   obtain⟨q,hq⟩:=hq
   have hm:=v5 hq
   have hlen:=fun kd (hk:(b.c.kd==kd)=true) a n t (hq:yk kd=some (a,n,t))=>(xq hok hk hq).1
   have hul:(b.c.ins.map UF).length=b.c.ins.length:=Ni _
   have hz:=zS (r:=xG) (k:=5) (fun _=>rfl) (b.c.ins.map UF)
   rw[hul]at hz
   have hgt:∀i,i<b.c.ins.length->((zC ((b.c.ins.map UF).map xG)).drop (i*5)).take 5=(xG ((b.c.ins.map UF).getD i u0)).map Cv.v:=fun i hi=>by
    rw[jU (b.c.ins.map UF) i zA,Nl,No zA];rfl
   have ht0:0<b.c.ins.length->(zC ((b.c.ins.map UF).map xG)).take 5=(xG ((b.c.ins.map UF).getD 0 u0)).map Cv.v:=fun h=>hgt 0 h
   have ht1:1<b.c.ins.length->((zC ((b.c.ins.map UF).map xG)).drop 5).take 5=(xG ((b.c.ins.map UF).getD 1 u0)).map Cv.v:=fun h=>hgt 1 h
   have ht2:2<b.c.ins.length->((zC ((b.c.ins.map UF).map xG)).drop 10).take 5=(xG ((b.c.ins.map UF).getD 2 u0)).map Cv.v:=fun h=>hgt 2 h
   clear hgt
   generalize hULe:b.c.ins.map UF=UL at*
   simp only[kindT,MU,LQ,or_false,LV]at hm
   rcases hm with⟨hkd,rfl⟩|⟨hkd,rfl⟩|⟨hkd,rfl⟩|⟨hkd,rfl⟩|⟨hkd,rfl⟩|⟨hkd,rfl⟩|⟨hkd,rfl⟩|⟨hkd,rfl⟩|⟨hkd,rfl⟩|⟨hkd,rfl⟩|⟨hkd,rfl⟩|⟨hkd,rfl⟩|⟨hkd,rfl⟩|⟨hkd,rfl⟩|⟨hkd,rfl⟩|⟨hkd,rfl⟩|⟨hkd,rfl⟩|⟨hkd,rfl⟩|⟨hkd,rfl⟩|⟨hkd,rfl⟩|⟨hkd,rfl⟩
   ·-- const
    obtain⟨e0,e1,e2,e3,e4,e5,e6,e7,e8,e9,e10,e11,e12,e13,e14,e15,e16,e17⟩:(b.c.kd==[97,100,100])=false/\(b.c.kd==[115,117,98])=false/\(b.c.kd==[110,101,103])=false/\(b.c.kd==[99,111,110,118,101,114,116])=false/\(b.c.kd==[109,105,110])=false/\(b.c.kd==[109,97,120])=false/\(b.c.kd==[108,105,109,105,116])=false/\(b.c.kd==[100,101,108,97,121])=false/\(b.c.kd==[108,97,103])=false/\(b.c.kd==[115,119,105,116,99,104])=false/\(b.c.kd==[109,117,108])=false/\(b.c.kd==[100,105,118])=false/\(b.c.kd==[108,101,115,115])=false/\(b.c.kd==[101,113,117,97,108])=false/\(b.c.kd==[97,110,100])=false/\(b.c.kd==[111,114])=false/\(b.c.kd==[110,111,116])=false/\(b.c.kd==[104,121,115,116,101,114,101,115,105,115])=false:=by rw[hkd];decide
    rw[hkd]at hR
    refine CallQ.pure 170 vL rfl ?_
    simp only[go_sem,e0,e1,e2,e3,e4,e5,e6,e7,e8,e9,e10,e11,e12,e13,e14,e15,e16,e17]
    exact zu (hR C hL) rfl
   ·-- add
    obtain⟨e0,e1,e2,e3,e4,e5,e6,e7,e8,e9,e10,e11,e12,e13,e14,e15,e16,e17⟩:(b.c.kd==[97,100,100])=true/\(b.c.kd==[115,117,98])=false/\(b.c.kd==[110,101,103])=false/\(b.c.kd==[99,111,110,118,101,114,116])=false/\(b.c.kd==[109,105,110])=false/\(b.c.kd==[109,97,120])=false/\(b.c.kd==[108,105,109,105,116])=false/\(b.c.kd==[100,101,108,97,121])=false/\(b.c.kd==[108,97,103])=false/\(b.c.kd==[115,119,105,116,99,104])=false/\(b.c.kd==[109,117,108])=false/\(b.c.kd==[100,105,118])=false/\(b.c.kd==[108,101,115,115])=false/\(b.c.kd==[101,113,117,97,108])=false/\(b.c.kd==[97,110,100])=false/\(b.c.kd==[111,114])=false/\(b.c.kd==[110,111,116])=false/\(b.c.kd==[104,121,115,116,101,114,101,115,105,115])=false:=by rw[hkd];decide
    rw[hkd]at hR
    refine CallQ.pure 170 vL rfl ?_
    simp only[go_sem,e0,e1,e2,e3,e4,e5,e6,e7,e8,e9,e10,e11,e12,e13,e14,e15,e16,e17]
    refine CallQ.letgo (xs:=[_,_]) (M0:=[]) [5,6] hL hP rfl (by unfold yF;simp only[Nj,yJ (zK _),yJ (y7 _),yJ (yD _)];rfl) rfl v9 rfl rfl (fun β Cn l1 l2 l3=>?_)
    have hpt:=(l3 5 _ rfl rfl rfl).pt zd
    obtain⟨sN,hsv,hsN⟩:=(l3 6 _ rfl rfl rfl).vslx (sz:=5) (rows:=UL.map xG) (fun r hr=>by obtain⟨x,_,rfl⟩:=Nz.1 hr;rfl) rfl
    have h5:(UL.map xG).length=UL.length:=Ni _
    rw[h5]at hsN hsv
    have hsv1:yb β (.sl 6 0 b.c.ins.length 5)=vsl sN UL.length:=by rw[<-hul];exact hsv
    have hxs:List.map (V.conc [5,6] β) [V.c (Cv.sl 6 0 b.c.ins.length 5),V.c (Cv.fn 249 [(5,0)])]=[.c (.v (vsl sN UL.length)),Fv 249 #[xh β 5 0]]:=by rw[<-hsv1];rfl
    rw[hxs]
    refine yP 190 l1 (uE sN UL hsN zA 249 #[xh β 5 0] (fun u=> !yr u tu) (fun u _=>eW u tu _ hpt)) (zN _) rfl (fun Cm m1 m2=>?_)
    refine vv ?_
    refine zu (hR Cm m1) ?_
    show(!(UL.any fun u=> !yr u tu))=UL.all (fun u=>yr u tu)
    rw[MI]
   ·-- sub
    obtain⟨e0,e1,e2,e3,e4,e5,e6,e7,e8,e9,e10,e11,e12,e13,e14,e15,e16,e17⟩:(b.c.kd==[97,100,100])=false/\(b.c.kd==[115,117,98])=true/\(b.c.kd==[110,101,103])=false/\(b.c.kd==[99,111,110,118,101,114,116])=false/\(b.c.kd==[109,105,110])=false/\(b.c.kd==[109,97,120])=false/\(b.c.kd==[108,105,109,105,116])=false/\(b.c.kd==[100,101,108,97,121])=false/\(b.c.kd==[108,97,103])=false/\(b.c.kd==[115,119,105,116,99,104])=false/\(b.c.kd==[109,117,108])=false/\(b.c.kd==[100,105,118])=false/\(b.c.kd==[108,101,115,115])=false/\(b.c.kd==[101,113,117,97,108])=false/\(b.c.kd==[97,110,100])=false/\(b.c.kd==[111,114])=false/\(b.c.kd==[110,111,116])=false/\(b.c.kd==[104,121,115,116,101,114,101,115,105,115])=false:=by rw[hkd];decide
    rw[hkd]at hR
    refine CallQ.pure 170 vL rfl ?_
    simp only[go_sem,e0,e1,e2,e3,e4,e5,e6,e7,e8,e9,e10,e11,e12,e13,e14,e15,e16,e17]
    refine CallQ.letgo (xs:=[_,_]) (M0:=[]) [5,6] hL hP rfl (by unfold yF;simp only[Nj,yJ (zK _),yJ (y7 _),yJ (yD _)];rfl) rfl v9 rfl rfl (fun β Cn l1 l2 l3=>?_)
    have hpt:=(l3 5 _ rfl rfl rfl).pt zd
    obtain⟨sN,hsv,hsN⟩:=(l3 6 _ rfl rfl rfl).vslx (sz:=5) (rows:=UL.map xG) (fun r hr=>by obtain⟨x,_,rfl⟩:=Nz.1 hr;rfl) rfl
    have h5:(UL.map xG).length=UL.length:=Ni _
    rw[h5]at hsN hsv
    have hsv1:yb β (.sl 6 0 b.c.ins.length 5)=vsl sN UL.length:=by rw[<-hul];exact hsv
    have hxs:List.map (V.conc [5,6] β) [V.c (Cv.sl 6 0 b.c.ins.length 5),V.c (Cv.fn 249 [(5,0)])]=[.c (.v (vsl sN UL.length)),Fv 249 #[xh β 5 0]]:=by rw[<-hsv1];rfl
    rw[hxs]
    refine yP 190 l1 (uE sN UL hsN zA 249 #[xh β 5 0] (fun u=> !yr u tu) (fun u _=>eW u tu _ hpt)) (zN _) rfl (fun Cm m1 m2=>?_)
    refine vv ?_
    refine zu (hR Cm m1) ?_
    show(!(UL.any fun u=> !yr u tu))=UL.all (fun u=>yr u tu)
    rw[MI]
   ·-- mul
    obtain⟨e0,e1,e2,e3,e4,e5,e6,e7,e8,e9,e10,e11,e12,e13,e14,e15,e16,e17⟩:(b.c.kd==[97,100,100])=false/\(b.c.kd==[115,117,98])=false/\(b.c.kd==[110,101,103])=false/\(b.c.kd==[99,111,110,118,101,114,116])=false/\(b.c.kd==[109,105,110])=false/\(b.c.kd==[109,97,120])=false/\(b.c.kd==[108,105,109,105,116])=false/\(b.c.kd==[100,101,108,97,121])=false/\(b.c.kd==[108,97,103])=false/\(b.c.kd==[115,119,105,116,99,104])=false/\(b.c.kd==[109,117,108])=true/\(b.c.kd==[100,105,118])=false/\(b.c.kd==[108,101,115,115])=false/\(b.c.kd==[101,113,117,97,108])=false/\(b.c.kd==[97,110,100])=false/\(b.c.kd==[111,114])=false/\(b.c.kd==[110,111,116])=false/\(b.c.kd==[104,121,115,116,101,114,101,115,105,115])=false:=by rw[hkd];decide
    rw[hkd]at hR
    refine CallQ.pure 170 vL rfl ?_
    simp only[go_sem,e0,e1,e2,e3,e4,e5,e6,e7,e8,e9,e10,e11,e12,e13,e14,e15,e16,e17]
    have hl:=hlen _ e10 2 0 0 rfl
    refine Sm.dg 180 12 zw ?_
    simp only[go_sem,ht0 zA,ht1 zA,hz,M5]
    refine⟨zA,zA,zA,zA,?_⟩
    refine DCallQ.pure 190 (SN (UL.getD 0 u0) (UL.getD 1 u0)) rfl (vv ?_)
    refine zu (hR C hL) ?_
    show(bif (o4 (UL.getD 0 u0) (UL.getD 1 u0) 1==0)then yr (np (UL.getD 0 u0) (UL.getD 1 u0) 1) tu else false)=((o4 (UL.getD 0 u0) (UL.getD 1 u0) 1==0)&&yr (np (UL.getD 0 u0) (UL.getD 1 u0) 1) tu)
    exact xe _ _
   ·-- div
    obtain⟨e0,e1,e2,e3,e4,e5,e6,e7,e8,e9,e10,e11,e12,e13,e14,e15,e16,e17⟩:(b.c.kd==[97,100,100])=false/\(b.c.kd==[115,117,98])=false/\(b.c.kd==[110,101,103])=false/\(b.c.kd==[99,111,110,118,101,114,116])=false/\(b.c.kd==[109,105,110])=false/\(b.c.kd==[109,97,120])=false/\(b.c.kd==[108,105,109,105,116])=false/\(b.c.kd==[100,101,108,97,121])=false/\(b.c.kd==[108,97,103])=false/\(b.c.kd==[115,119,105,116,99,104])=false/\(b.c.kd==[109,117,108])=false/\(b.c.kd==[100,105,118])=true/\(b.c.kd==[108,101,115,115])=false/\(b.c.kd==[101,113,117,97,108])=false/\(b.c.kd==[97,110,100])=false/\(b.c.kd==[111,114])=false/\(b.c.kd==[110,111,116])=false/\(b.c.kd==[104,121,115,116,101,114,101,115,105,115])=false:=by rw[hkd];decide
    rw[hkd]at hR
    refine CallQ.pure 170 vL rfl ?_
    simp only[go_sem,e0,e1,e2,e3,e4,e5,e6,e7,e8,e9,e10,e11,e12,e13,e14,e15,e16,e17]
    have hl:=hlen _ e11 2 0 0 rfl
    refine Sm.dg 180 12 zw ?_
    simp only[go_sem,ht0 zA,ht1 zA,hz,M5]
    refine⟨zA,zA,zA,zA,?_⟩
    refine DCallQ.pure 190 (U4 (UL.getD 0 u0) (UL.getD 1 u0)) rfl (vv ?_)
    refine zu (hR C hL) ?_
    show(bif (o4 (UL.getD 0 u0) (UL.getD 1 u0) (-1)==0)then yr (np (UL.getD 0 u0) (UL.getD 1 u0) (-1)) tu else false)=((o4 (UL.getD 0 u0) (UL.getD 1 u0) (-1)==0)&&yr (np (UL.getD 0 u0) (UL.getD 1 u0) (-1)) tu)
    exact xe _ _
   ·-- neg
    obtain⟨e0,e1,e2,e3,e4,e5,e6,e7,e8,e9,e10,e11,e12,e13,e14,e15,e16,e17⟩:(b.c.kd==[97,100,100])=false/\(b.c.kd==[115,117,98])=false/\(b.c.kd==[110,101,103])=true/\(b.c.kd==[99,111,110,118,101,114,116])=false/\(b.c.kd==[109,105,110])=false/\(b.c.kd==[109,97,120])=false/\(b.c.kd==[108,105,109,105,116])=false/\(b.c.kd==[100,101,108,97,121])=false/\(b.c.kd==[108,97,103])=false/\(b.c.kd==[115,119,105,116,99,104])=false/\(b.c.kd==[109,117,108])=false/\(b.c.kd==[100,105,118])=false/\(b.c.kd==[108,101,115,115])=false/\(b.c.kd==[101,113,117,97,108])=false/\(b.c.kd==[97,110,100])=false/\(b.c.kd==[111,114])=false/\(b.c.kd==[110,111,116])=false/\(b.c.kd==[104,121,115,116,101,114,101,115,105,115])=false:=by rw[hkd];decide
    rw[hkd]at hR
    refine CallQ.pure 170 vL rfl ?_
    simp only[go_sem,e0,e1,e2,e3,e4,e5,e6,e7,e8,e9,e10,e11,e12,e13,e14,e15,e16,e17]
    refine CallQ.letgo (xs:=[_,_]) (M0:=[]) [5,6] hL hP rfl (by unfold yF;simp only[Nj,yJ (zK _),yJ (y7 _),yJ (yD _)];rfl) rfl v9 rfl rfl (fun β Cn l1 l2 l3=>?_)
    have hpt:=(l3 5 _ rfl rfl rfl).pt zd
    obtain⟨sN,hsv,hsN⟩:=(l3 6 _ rfl rfl rfl).vslx (sz:=5) (rows:=UL.map xG) (fun r hr=>by obtain⟨x,_,rfl⟩:=Nz.1 hr;rfl) rfl
    have h5:(UL.map xG).length=UL.length:=Ni _
    rw[h5]at hsN hsv
    have hsv1:yb β (.sl 6 0 b.c.ins.length 5)=vsl sN UL.length:=by rw[<-hul];exact hsv
    have hxs:List.map (V.conc [5,6] β) [V.c (Cv.sl 6 0 b.c.ins.length 5),V.c (Cv.fn 249 [(5,0)])]=[.c (.v (vsl sN UL.length)),Fv 249 #[xh β 5 0]]:=by rw[<-hsv1];rfl
    rw[hxs]
    refine yP 190 l1 (uE sN UL hsN zA 249 #[xh β 5 0] (fun u=> !yr u tu) (fun u _=>eW u tu _ hpt)) (zN _) rfl (fun Cm m1 m2=>?_)
    refine vv ?_
    refine zu (hR Cm m1) ?_
    show(!(UL.any fun u=> !yr u tu))=UL.all (fun u=>yr u tu)
    rw[MI]
   ·-- min
    obtain⟨e0,e1,e2,e3,e4,e5,e6,e7,e8,e9,e10,e11,e12,e13,e14,e15,e16,e17⟩:(b.c.kd==[97,100,100])=false/\(b.c.kd==[115,117,98])=false/\(b.c.kd==[110,101,103])=false/\(b.c.kd==[99,111,110,118,101,114,116])=false/\(b.c.kd==[109,105,110])=true/\(b.c.kd==[109,97,120])=false/\(b.c.kd==[108,105,109,105,116])=false/\(b.c.kd==[100,101,108,97,121])=false/\(b.c.kd==[108,97,103])=false/\(b.c.kd==[115,119,105,116,99,104])=false/\(b.c.kd==[109,117,108])=false/\(b.c.kd==[100,105,118])=false/\(b.c.kd==[108,101,115,115])=false/\(b.c.kd==[101,113,117,97,108])=false/\(b.c.kd==[97,110,100])=false/\(b.c.kd==[111,114])=false/\(b.c.kd==[110,111,116])=false/\(b.c.kd==[104,121,115,116,101,114,101,115,105,115])=false:=by rw[hkd];decide
    rw[hkd]at hR
    refine CallQ.pure 170 vL rfl ?_
    simp only[go_sem,e0,e1,e2,e3,e4,e5,e6,e7,e8,e9,e10,e11,e12,e13,e14,e15,e16,e17]
    refine CallQ.letgo (xs:=[_,_]) (M0:=[]) [5,6] hL hP rfl (by unfold yF;simp only[Nj,yJ (zK _),yJ (y7 _),yJ (yD _)];rfl) rfl v9 rfl rfl (fun β Cn l1 l2 l3=>?_)
    have hpt:=(l3 5 _ rfl rfl rfl).pt zd
    obtain⟨sN,hsv,hsN⟩:=(l3 6 _ rfl rfl rfl).vslx (sz:=5) (rows:=UL.map xG) (fun r hr=>by obtain⟨x,_,rfl⟩:=Nz.1 hr;rfl) rfl
    have h5:(UL.map xG).length=UL.length:=Ni _
    rw[h5]at hsN hsv
    have hsv1:yb β (.sl 6 0 b.c.ins.length 5)=vsl sN UL.length:=by rw[<-hul];exact hsv
    have hxs:List.map (V.conc [5,6] β) [V.c (Cv.sl 6 0 b.c.ins.length 5),V.c (Cv.fn 249 [(5,0)])]=[.c (.v (vsl sN UL.length)),Fv 249 #[xh β 5 0]]:=by rw[<-hsv1];rfl
    rw[hxs]
    refine yP 190 l1 (uE sN UL hsN zA 249 #[xh β 5 0] (fun u=> !yr u tu) (fun u _=>eW u tu _ hpt)) (zN _) rfl (fun Cm m1 m2=>?_)
    refine vv ?_
    refine zu (hR Cm m1) ?_
    show(!(UL.any fun u=> !yr u tu))=UL.all (fun u=>yr u tu)
    rw[MI]
   ·-- max
    obtain⟨e0,e1,e2,e3,e4,e5,e6,e7,e8,e9,e10,e11,e12,e13,e14,e15,e16,e17⟩:(b.c.kd==[97,100,100])=false/\(b.c.kd==[115,117,98])=false/\(b.c.kd==[110,101,103])=false/\(b.c.kd==[99,111,110,118,101,114,116])=false/\(b.c.kd==[109,105,110])=false/\(b.c.kd==[109,97,120])=true/\(b.c.kd==[108,105,109,105,116])=false/\(b.c.kd==[100,101,108,97,121])=false/\(b.c.kd==[108,97,103])=false/\(b.c.kd==[115,119,105,116,99,104])=false/\(b.c.kd==[109,117,108])=false/\(b.c.kd==[100,105,118])=false/\(b.c.kd==[108,101,115,115])=false/\(b.c.kd==[101,113,117,97,108])=false/\(b.c.kd==[97,110,100])=false/\(b.c.kd==[111,114])=false/\(b.c.kd==[110,111,116])=false/\(b.c.kd==[104,121,115,116,101,114,101,115,105,115])=false:=by rw[hkd];decide
    rw[hkd]at hR
    refine CallQ.pure 170 vL rfl ?_
    simp only[go_sem,e0,e1,e2,e3,e4,e5,e6,e7,e8,e9,e10,e11,e12,e13,e14,e15,e16,e17]
    refine CallQ.letgo (xs:=[_,_]) (M0:=[]) [5,6] hL hP rfl (by unfold yF;simp only[Nj,yJ (zK _),yJ (y7 _),yJ (yD _)];rfl) rfl v9 rfl rfl (fun β Cn l1 l2 l3=>?_)
    have hpt:=(l3 5 _ rfl rfl rfl).pt zd
    obtain⟨sN,hsv,hsN⟩:=(l3 6 _ rfl rfl rfl).vslx (sz:=5) (rows:=UL.map xG) (fun r hr=>by obtain⟨x,_,rfl⟩:=Nz.1 hr;rfl) rfl
    have h5:(UL.map xG).length=UL.length:=Ni _
    rw[h5]at hsN hsv
    have hsv1:yb β (.sl 6 0 b.c.ins.length 5)=vsl sN UL.length:=by rw[<-hul];exact hsv
    have hxs:List.map (V.conc [5,6] β) [V.c (Cv.sl 6 0 b.c.ins.length 5),V.c (Cv.fn 249 [(5,0)])]=[.c (.v (vsl sN UL.length)),Fv 249 #[xh β 5 0]]:=by rw[<-hsv1];rfl
    rw[hxs]
    refine yP 190 l1 (uE sN UL hsN zA 249 #[xh β 5 0] (fun u=> !yr u tu) (fun u _=>eW u tu _ hpt)) (zN _) rfl (fun Cm m1 m2=>?_)
    refine vv ?_
    refine zu (hR Cm m1) ?_
    show(!(UL.any fun u=> !yr u tu))=UL.all (fun u=>yr u tu)
    rw[MI]
   ·-- limit
    obtain⟨e0,e1,e2,e3,e4,e5,e6,e7,e8,e9,e10,e11,e12,e13,e14,e15,e16,e17⟩:(b.c.kd==[97,100,100])=false/\(b.c.kd==[115,117,98])=false/\(b.c.kd==[110,101,103])=false/\(b.c.kd==[99,111,110,118,101,114,116])=false/\(b.c.kd==[109,105,110])=false/\(b.c.kd==[109,97,120])=false/\(b.c.kd==[108,105,109,105,116])=true/\(b.c.kd==[100,101,108,97,121])=false/\(b.c.kd==[108,97,103])=false/\(b.c.kd==[115,119,105,116,99,104])=false/\(b.c.kd==[109,117,108])=false/\(b.c.kd==[100,105,118])=false/\(b.c.kd==[108,101,115,115])=false/\(b.c.kd==[101,113,117,97,108])=false/\(b.c.kd==[97,110,100])=false/\(b.c.kd==[111,114])=false/\(b.c.kd==[110,111,116])=false/\(b.c.kd==[104,121,115,116,101,114,101,115,105,115])=false:=by rw[hkd];decide
    rw[hkd]at hR
    refine CallQ.pure 170 vL rfl ?_
    simp only[go_sem,e0,e1,e2,e3,e4,e5,e6,e7,e8,e9,e10,e11,e12,e13,e14,e15,e16,e17]
    refine CallQ.letgo (xs:=[_,_]) (M0:=[]) [5,6] hL hP rfl (by unfold yF;simp only[Nj,yJ (zK _),yJ (y7 _),yJ (yD _)];rfl) rfl v9 rfl rfl (fun β Cn l1 l2 l3=>?_)
    have hpt:=(l3 5 _ rfl rfl rfl).pt zd
    obtain⟨sN,hsv,hsN⟩:=(l3 6 _ rfl rfl rfl).vslx (sz:=5) (rows:=UL.map xG) (fun r hr=>by obtain⟨x,_,rfl⟩:=Nz.1 hr;rfl) rfl
    have h5:(UL.map xG).length=UL.length:=Ni _
    rw[h5]at hsN hsv
    have hsv1:yb β (.sl 6 0 b.c.ins.length 5)=vsl sN UL.length:=by rw[<-hul];exact hsv
    have hxs:List.map (V.conc [5,6] β) [V.c (Cv.sl 6 0 b.c.ins.length 5),V.c (Cv.fn 249 [(5,0)])]=[.c (.v (vsl sN UL.length)),Fv 249 #[xh β 5 0]]:=by rw[<-hsv1];rfl
    rw[hxs]
    refine yP 190 l1 (uE sN UL hsN zA 249 #[xh β 5 0] (fun u=> !yr u tu) (fun u _=>eW u tu _ hpt)) (zN _) rfl (fun Cm m1 m2=>?_)
    refine vv ?_
    refine zu (hR Cm m1) ?_
    show(!(UL.any fun u=> !yr u tu))=UL.all (fun u=>yr u tu)
    rw[MI]
   ·-- convert
    obtain⟨e0,e1,e2,e3,e4,e5,e6,e7,e8,e9,e10,e11,e12,e13,e14,e15,e16,e17⟩:(b.c.kd==[97,100,100])=false/\(b.c.kd==[115,117,98])=false/\(b.c.kd==[110,101,103])=false/\(b.c.kd==[99,111,110,118,101,114,116])=true/\(b.c.kd==[109,105,110])=false/\(b.c.kd==[109,97,120])=false/\(b.c.kd==[108,105,109,105,116])=false/\(b.c.kd==[100,101,108,97,121])=false/\(b.c.kd==[108,97,103])=false/\(b.c.kd==[115,119,105,116,99,104])=false/\(b.c.kd==[109,117,108])=false/\(b.c.kd==[100,105,118])=false/\(b.c.kd==[108,101,115,115])=false/\(b.c.kd==[101,113,117,97,108])=false/\(b.c.kd==[97,110,100])=false/\(b.c.kd==[111,114])=false/\(b.c.kd==[110,111,116])=false/\(b.c.kd==[104,121,115,116,101,114,101,115,105,115])=false:=by rw[hkd];decide
    rw[hkd]at hR
    refine CallQ.pure 170 vL rfl ?_
    simp only[go_sem,e0,e1,e2,e3,e4,e5,e6,e7,e8,e9,e10,e11,e12,e13,e14,e15,e16,e17]
    refine CallQ.letgo (xs:=[_,_]) (M0:=[]) [5,6] hL hP rfl (by unfold yF;simp only[Nj,yJ (zK _),yJ (y7 _),yJ (yD _)];rfl) rfl v9 rfl rfl (fun β Cn l1 l2 l3=>?_)
    have hpt:=(l3 5 _ rfl rfl rfl).pt zd
    obtain⟨sN,hsv,hsN⟩:=(l3 6 _ rfl rfl rfl).vslx (sz:=5) (rows:=UL.map xG) (fun r hr=>by obtain⟨x,_,rfl⟩:=Nz.1 hr;rfl) rfl
    have h5:(UL.map xG).length=UL.length:=Ni _
    rw[h5]at hsN hsv
    have hsv1:yb β (.sl 6 0 b.c.ins.length 5)=vsl sN UL.length:=by rw[<-hul];exact hsv
    have hxs:List.map (V.conc [5,6] β) [V.c (Cv.sl 6 0 b.c.ins.length 5),V.c (Cv.fn 249 [(5,0)])]=[.c (.v (vsl sN UL.length)),Fv 249 #[xh β 5 0]]:=by rw[<-hsv1];rfl
    rw[hxs]
    refine yP 190 l1 (uE sN UL hsN zA 249 #[xh β 5 0] (fun u=> !yr u tu) (fun u _=>eW u tu _ hpt)) (zN _) rfl (fun Cm m1 m2=>?_)
    refine vv ?_
    refine zu (hR Cm m1) ?_
    show(!(UL.any fun u=> !yr u tu))=UL.all (fun u=>yr u tu)
    rw[MI]
   ·-- curve
    obtain⟨e0,e1,e2,e3,e4,e5,e6,e7,e8,e9,e10,e11,e12,e13,e14,e15,e16,e17⟩:(b.c.kd==[97,100,100])=false/\(b.c.kd==[115,117,98])=false/\(b.c.kd==[110,101,103])=false/\(b.c.kd==[99,111,110,118,101,114,116])=false/\(b.c.kd==[109,105,110])=false/\(b.c.kd==[109,97,120])=false/\(b.c.kd==[108,105,109,105,116])=false/\(b.c.kd==[100,101,108,97,121])=false/\(b.c.kd==[108,97,103])=false/\(b.c.kd==[115,119,105,116,99,104])=false/\(b.c.kd==[109,117,108])=false/\(b.c.kd==[100,105,118])=false/\(b.c.kd==[108,101,115,115])=false/\(b.c.kd==[101,113,117,97,108])=false/\(b.c.kd==[97,110,100])=false/\(b.c.kd==[111,114])=false/\(b.c.kd==[110,111,116])=false/\(b.c.kd==[104,121,115,116,101,114,101,115,105,115])=false:=by rw[hkd];decide
    rw[hkd]at hR
    refine CallQ.pure 170 vL rfl ?_
    simp only[go_sem,e0,e1,e2,e3,e4,e5,e6,e7,e8,e9,e10,e11,e12,e13,e14,e15,e16,e17]
    exact zu (hR C hL) rfl
   ·-- map
    obtain⟨e0,e1,e2,e3,e4,e5,e6,e7,e8,e9,e10,e11,e12,e13,e14,e15,e16,e17⟩:(b.c.kd==[97,100,100])=false/\(b.c.kd==[115,117,98])=false/\(b.c.kd==[110,101,103])=false/\(b.c.kd==[99,111,110,118,101,114,116])=false/\(b.c.kd==[109,105,110])=false/\(b.c.kd==[109,97,120])=false/\(b.c.kd==[108,105,109,105,116])=false/\(b.c.kd==[100,101,108,97,121])=false/\(b.c.kd==[108,97,103])=false/\(b.c.kd==[115,119,105,116,99,104])=false/\(b.c.kd==[109,117,108])=false/\(b.c.kd==[100,105,118])=false/\(b.c.kd==[108,101,115,115])=false/\(b.c.kd==[101,113,117,97,108])=false/\(b.c.kd==[97,110,100])=false/\(b.c.kd==[111,114])=false/\(b.c.kd==[110,111,116])=false/\(b.c.kd==[104,121,115,116,101,114,101,115,105,115])=false:=by rw[hkd];decide
    rw[hkd]at hR
    refine CallQ.pure 170 vL rfl ?_
    simp only[go_sem,e0,e1,e2,e3,e4,e5,e6,e7,e8,e9,e10,e11,e12,e13,e14,e15,e16,e17]
    exact zu (hR C hL) rfl
   ·-- delay
    obtain⟨e0,e1,e2,e3,e4,e5,e6,e7,e8,e9,e10,e11,e12,e13,e14,e15,e16,e17⟩:(b.c.kd==[97,100,100])=false/\(b.c.kd==[115,117,98])=false/\(b.c.kd==[110,101,103])=false/\(b.c.kd==[99,111,110,118,101,114,116])=false/\(b.c.kd==[109,105,110])=false/\(b.c.kd==[109,97,120])=false/\(b.c.kd==[108,105,109,105,116])=false/\(b.c.kd==[100,101,108,97,121])=true/\(b.c.kd==[108,97,103])=false/\(b.c.kd==[115,119,105,116,99,104])=false/\(b.c.kd==[109,117,108])=false/\(b.c.kd==[100,105,118])=false/\(b.c.kd==[108,101,115,115])=false/\(b.c.kd==[101,113,117,97,108])=false/\(b.c.kd==[97,110,100])=false/\(b.c.kd==[111,114])=false/\(b.c.kd==[110,111,116])=false/\(b.c.kd==[104,121,115,116,101,114,101,115,105,115])=false:=by rw[hkd];decide
    rw[hkd]at hR
    refine CallQ.pure 170 vL rfl ?_
    simp only[go_sem,e0,e1,e2,e3,e4,e5,e6,e7,e8,e9,e10,e11,e12,e13,e14,e15,e16,e17]
    refine CallQ.letgo (xs:=[_,_]) (M0:=[]) [5,6] hL hP rfl (by unfold yF;simp only[Nj,yJ (zK _),yJ (y7 _),yJ (yD _)];rfl) rfl v9 rfl rfl (fun β Cn l1 l2 l3=>?_)
    have hpt:=(l3 5 _ rfl rfl rfl).pt zd
    obtain⟨sN,hsv,hsN⟩:=(l3 6 _ rfl rfl rfl).vslx (sz:=5) (rows:=UL.map xG) (fun r hr=>by obtain⟨x,_,rfl⟩:=Nz.1 hr;rfl) rfl
    have h5:(UL.map xG).length=UL.length:=Ni _
    rw[h5]at hsN hsv
    have hsv1:yb β (.sl 6 0 b.c.ins.length 5)=vsl sN UL.length:=by rw[<-hul];exact hsv
    have hxs:List.map (V.conc [5,6] β) [V.c (Cv.sl 6 0 b.c.ins.length 5),V.c (Cv.fn 249 [(5,0)])]=[.c (.v (vsl sN UL.length)),Fv 249 #[xh β 5 0]]:=by rw[<-hsv1];rfl
    rw[hxs]
    refine yP 190 l1 (uE sN UL hsN zA 249 #[xh β 5 0] (fun u=> !yr u tu) (fun u _=>eW u tu _ hpt)) (zN _) rfl (fun Cm m1 m2=>?_)
    refine vv ?_
    refine zu (hR Cm m1) ?_
    show(!(UL.any fun u=> !yr u tu))=UL.all (fun u=>yr u tu)
    rw[MI]
   ·-- lag
    obtain⟨e0,e1,e2,e3,e4,e5,e6,e7,e8,e9,e10,e11,e12,e13,e14,e15,e16,e17⟩:(b.c.kd==[97,100,100])=false/\(b.c.kd==[115,117,98])=false/\(b.c.kd==[110,101,103])=false/\(b.c.kd==[99,111,110,118,101,114,116])=false/\(b.c.kd==[109,105,110])=false/\(b.c.kd==[109,97,120])=false/\(b.c.kd==[108,105,109,105,116])=false/\(b.c.kd==[100,101,108,97,121])=false/\(b.c.kd==[108,97,103])=true/\(b.c.kd==[115,119,105,116,99,104])=false/\(b.c.kd==[109,117,108])=false/\(b.c.kd==[100,105,118])=false/\(b.c.kd==[108,101,115,115])=false/\(b.c.kd==[101,113,117,97,108])=false/\(b.c.kd==[97,110,100])=false/\(b.c.kd==[111,114])=false/\(b.c.kd==[110,111,116])=false/\(b.c.kd==[104,121,115,116,101,114,101,115,105,115])=false:=by rw[hkd];decide
    rw[hkd]at hR
    refine CallQ.pure 170 vL rfl ?_
    simp only[go_sem,e0,e1,e2,e3,e4,e5,e6,e7,e8,e9,e10,e11,e12,e13,e14,e15,e16,e17]
    refine CallQ.letgo (xs:=[_,_]) (M0:=[]) [5,6] hL hP rfl (by unfold yF;simp only[Nj,yJ (zK _),yJ (y7 _),yJ (yD _)];rfl) rfl v9 rfl rfl (fun β Cn l1 l2 l3=>?_)
    have hpt:=(l3 5 _ rfl rfl rfl).pt zd
    obtain⟨sN,hsv,hsN⟩:=(l3 6 _ rfl rfl rfl).vslx (sz:=5) (rows:=UL.map xG) (fun r hr=>by obtain⟨x,_,rfl⟩:=Nz.1 hr;rfl) rfl
    have h5:(UL.map xG).length=UL.length:=Ni _
    rw[h5]at hsN hsv
    have hsv1:yb β (.sl 6 0 b.c.ins.length 5)=vsl sN UL.length:=by rw[<-hul];exact hsv
    have hxs:List.map (V.conc [5,6] β) [V.c (Cv.sl 6 0 b.c.ins.length 5),V.c (Cv.fn 249 [(5,0)])]=[.c (.v (vsl sN UL.length)),Fv 249 #[xh β 5 0]]:=by rw[<-hsv1];rfl
    rw[hxs]
    refine yP 190 l1 (uE sN UL hsN zA 249 #[xh β 5 0] (fun u=> !yr u tu) (fun u _=>eW u tu _ hpt)) (zN _) rfl (fun Cm m1 m2=>?_)
    refine vv ?_
    refine zu (hR Cm m1) ?_
    show(!(UL.any fun u=> !yr u tu))=UL.all (fun u=>yr u tu)
    rw[MI]
   ·-- switch
    obtain⟨e0,e1,e2,e3,e4,e5,e6,e7,e8,e9,e10,e11,e12,e13,e14,e15,e16,e17⟩:(b.c.kd==[97,100,100])=false/\(b.c.kd==[115,117,98])=false/\(b.c.kd==[110,101,103])=false/\(b.c.kd==[99,111,110,118,101,114,116])=false/\(b.c.kd==[109,105,110])=false/\(b.c.kd==[109,97,120])=false/\(b.c.kd==[108,105,109,105,116])=false/\(b.c.kd==[100,101,108,97,121])=false/\(b.c.kd==[108,97,103])=false/\(b.c.kd==[115,119,105,116,99,104])=true/\(b.c.kd==[109,117,108])=false/\(b.c.kd==[100,105,118])=false/\(b.c.kd==[108,101,115,115])=false/\(b.c.kd==[101,113,117,97,108])=false/\(b.c.kd==[97,110,100])=false/\(b.c.kd==[111,114])=false/\(b.c.kd==[110,111,116])=false/\(b.c.kd==[104,121,115,116,101,114,101,115,105,115])=false:=by rw[hkd];decide
    rw[hkd]at hR
    refine CallQ.pure 170 vL rfl ?_
    simp only[go_sem,e0,e1,e2,e3,e4,e5,e6,e7,e8,e9,e10,e11,e12,e13,e14,e15,e16,e17]
    have hl:=hlen _ e9 3 0 0 rfl
    refine Sm.dg 180 17 zw ?_
    simp only[go_sem,ht0 zA,ht1 zA,ht2 zA,hz,M5]
    refine⟨zA,zA,fun h=>⟨h,zA⟩,fun h=>⟨h,zA⟩,fun h=>⟨h,zA⟩,fun h=>⟨h,zA⟩,?_⟩
    refine zu (hR C hL) ?_
    show(bif (bif yr (UL.getD 0 u0) u0 then yr (UL.getD 1 u0) tu else false)then yr (UL.getD 2 u0) tu else false)=(yr (UL.getD 0 u0) u0&&(yr (UL.getD 1 u0) tu&&yr (UL.getD 2 u0) tu))
    rw[xe,xe,Bool.and_assoc]
   ·-- less
    obtain⟨e0,e1,e2,e3,e4,e5,e6,e7,e8,e9,e10,e11,e12,e13,e14,e15,e16,e17⟩:(b.c.kd==[97,100,100])=false/\(b.c.kd==[115,117,98])=false/\(b.c.kd==[110,101,103])=false/\(b.c.kd==[99,111,110,118,101,114,116])=false/\(b.c.kd==[109,105,110])=false/\(b.c.kd==[109,97,120])=false/\(b.c.kd==[108,105,109,105,116])=false/\(b.c.kd==[100,101,108,97,121])=false/\(b.c.kd==[108,97,103])=false/\(b.c.kd==[115,119,105,116,99,104])=false/\(b.c.kd==[109,117,108])=false/\(b.c.kd==[100,105,118])=false/\(b.c.kd==[108,101,115,115])=true/\(b.c.kd==[101,113,117,97,108])=false/\(b.c.kd==[97,110,100])=false/\(b.c.kd==[111,114])=false/\(b.c.kd==[110,111,116])=false/\(b.c.kd==[104,121,115,116,101,114,101,115,105,115])=false:=by rw[hkd];decide
    rw[hkd]at hR
    refine CallQ.pure 170 vL rfl ?_
    simp only[go_sem,e0,e1,e2,e3,e4,e5,e6,e7,e8,e9,e10,e11,e12,e13,e14,e15,e16,e17]
    have hl:=hlen _ e12 2 0 0 rfl
    refine Sm.dg 180 10 zw ?_
    simp only[go_sem,ht0 zA,ht1 zA,hz,M5]
    refine⟨zA,zA,zA,zA,?_⟩
    refine zu (hR C hL) ?_
    show(bif yr (UL.getD 0 u0) (UL.getD 1 u0)then yr tu u0 else false)=(yr (UL.getD 0 u0) (UL.getD 1 u0)&&yr tu u0)
    exact xe _ _
   ·-- equal
    obtain⟨e0,e1,e2,e3,e4,e5,e6,e7,e8,e9,e10,e11,e12,e13,e14,e15,e16,e17⟩:(b.c.kd==[97,100,100])=false/\(b.c.kd==[115,117,98])=false/\(b.c.kd==[110,101,103])=false/\(b.c.kd==[99,111,110,118,101,114,116])=false/\(b.c.kd==[109,105,110])=false/\(b.c.kd==[109,97,120])=false/\(b.c.kd==[108,105,109,105,116])=false/\(b.c.kd==[100,101,108,97,121])=false/\(b.c.kd==[108,97,103])=false/\(b.c.kd==[115,119,105,116,99,104])=false/\(b.c.kd==[109,117,108])=false/\(b.c.kd==[100,105,118])=false/\(b.c.kd==[108,101,115,115])=false/\(b.c.kd==[101,113,117,97,108])=true/\(b.c.kd==[97,110,100])=false/\(b.c.kd==[111,114])=false/\(b.c.kd==[110,111,116])=false/\(b.c.kd==[104,121,115,116,101,114,101,115,105,115])=false:=by rw[hkd];decide
    rw[hkd]at hR
    refine CallQ.pure 170 vL rfl ?_
    simp only[go_sem,e0,e1,e2,e3,e4,e5,e6,e7,e8,e9,e10,e11,e12,e13,e14,e15,e16,e17]
    have hl:=hlen _ e13 2 0 0 rfl
    refine Sm.dg 180 10 zw ?_
    simp only[go_sem,ht0 zA,ht1 zA,hz,M5]
    refine⟨zA,zA,zA,zA,?_⟩
    refine zu (hR C hL) ?_
    show(bif yr (UL.getD 0 u0) (UL.getD 1 u0)then yr tu u0 else false)=(yr (UL.getD 0 u0) (UL.getD 1 u0)&&yr tu u0)
    exact xe _ _
   ·-- and
    obtain⟨e0,e1,e2,e3,e4,e5,e6,e7,e8,e9,e10,e11,e12,e13,e14,e15,e16,e17⟩:(b.c.kd==[97,100,100])=false/\(b.c.kd==[115,117,98])=false/\(b.c.kd==[110,101,103])=false/\(b.c.kd==[99,111,110,118,101,114,116])=false/\(b.c.kd==[109,105,110])=false/\(b.c.kd==[109,97,120])=false/\(b.c.kd==[108,105,109,105,116])=false/\(b.c.kd==[100,101,108,97,121])=false/\(b.c.kd==[108,97,103])=false/\(b.c.kd==[115,119,105,116,99,104])=false/\(b.c.kd==[109,117,108])=false/\(b.c.kd==[100,105,118])=false/\(b.c.kd==[108,101,115,115])=false/\(b.c.kd==[101,113,117,97,108])=false/\(b.c.kd==[97,110,100])=true/\(b.c.kd==[111,114])=false/\(b.c.kd==[110,111,116])=false/\(b.c.kd==[104,121,115,116,101,114,101,115,105,115])=false:=by rw[hkd];decide
    rw[hkd]at hR
    refine CallQ.pure 170 vL rfl ?_
    simp only[go_sem,e0,e1,e2,e3,e4,e5,e6,e7,e8,e9,e10,e11,e12,e13,e14,e15,e16,e17]
    have hg0:(tu.m==u0.m&&(tu.kg==u0.kg&&(tu.s==u0.s&&(tu.a==u0.a&&tu.k==u0.k))))=yr tu u0:=rfl
    simp only[hg0]
    cases hq:yr tu u0 with
    |false=>
     refine CallQ.guard (xs:=[]) (v:=Bo true) 180 (fun h=>by cases h) (fun h=>by cases h) (vv ?_)
     refine zu (hR C hL) ?_
     show _=(yr tu u0&&UL.all (fun u=>yr u u0))
     rw[hq];rfl
    |true=>
     refine CallQ.letgo (xs:=[_,_]) (M0:=[]) [170,6] hL hP rfl (by unfold yF;simp only[Nj,yJ (zK _),yJ (y7 _),yJ (yD _)];rfl) rfl v9 rfl rfl (fun β Cn l1 l2 l3=>?_)
     have hpt:=(l3 170 _ rfl rfl rfl).pt zd
     obtain⟨sN,hsv,hsN⟩:=(l3 6 _ rfl rfl rfl).vslx (sz:=5) (rows:=UL.map xG) (fun r hr=>by obtain⟨x,_,rfl⟩:=Nz.1 hr;rfl) rfl
     have h5:(UL.map xG).length=UL.length:=Ni _
     rw[h5]at hsN hsv
     have hsv1:yb β (.sl 6 0 b.c.ins.length 5)=vsl sN UL.length:=by rw[<-hul];exact hsv
     have hxs:List.map (V.conc [170,6] β) [V.c (Cv.sl 6 0 b.c.ins.length 5),V.c (Cv.fn 250 [(170,0)])]=[.c (.v (vsl sN UL.length)),Fv 250 #[xh β 170 0]]:=by rw[<-hsv1];rfl
     rw[hxs]
     refine yP 190 l1 (uE sN UL hsN zA 250 #[xh β 170 0] (fun u=> !yr u u0) (fun u _=>Tj u u0 _ hpt)) (zN _) rfl (fun Cm m1 m2=>?_)
     refine vv ?_
     refine zu (hR Cm m1) ?_
     show(!(UL.any fun u=> !yr u u0))=(yr tu u0&&UL.all (fun u=>yr u u0))
     rw[hq,MI];rfl
   ·-- or
    obtain⟨e0,e1,e2,e3,e4,e5,e6,e7,e8,e9,e10,e11,e12,e13,e14,e15,e16,e17⟩:(b.c.kd==[97,100,100])=false/\(b.c.kd==[115,117,98])=false/\(b.c.kd==[110,101,103])=false/\(b.c.kd==[99,111,110,118,101,114,116])=false/\(b.c.kd==[109,105,110])=false/\(b.c.kd==[109,97,120])=false/\(b.c.kd==[108,105,109,105,116])=false/\(b.c.kd==[100,101,108,97,121])=false/\(b.c.kd==[108,97,103])=false/\(b.c.kd==[115,119,105,116,99,104])=false/\(b.c.kd==[109,117,108])=false/\(b.c.kd==[100,105,118])=false/\(b.c.kd==[108,101,115,115])=false/\(b.c.kd==[101,113,117,97,108])=false/\(b.c.kd==[97,110,100])=false/\(b.c.kd==[111,114])=true/\(b.c.kd==[110,111,116])=false/\(b.c.kd==[104,121,115,116,101,114,101,115,105,115])=false:=by rw[hkd];decide
    rw[hkd]at hR
    refine CallQ.pure 170 vL rfl ?_
    simp only[go_sem,e0,e1,e2,e3,e4,e5,e6,e7,e8,e9,e10,e11,e12,e13,e14,e15,e16,e17]
    have hg0:(tu.m==u0.m&&(tu.kg==u0.kg&&(tu.s==u0.s&&(tu.a==u0.a&&tu.k==u0.k))))=yr tu u0:=rfl
    simp only[hg0]
    cases hq:yr tu u0 with
    |false=>
     refine CallQ.guard (xs:=[]) (v:=Bo true) 180 (fun h=>by cases h) (fun h=>by cases h) (vv ?_)
     refine zu (hR C hL) ?_
     show _=(yr tu u0&&UL.all (fun u=>yr u u0))
     rw[hq];rfl
    |true=>
     refine CallQ.letgo (xs:=[_,_]) (M0:=[]) [170,6] hL hP rfl (by unfold yF;simp only[Nj,yJ (zK _),yJ (y7 _),yJ (yD _)];rfl) rfl v9 rfl rfl (fun β Cn l1 l2 l3=>?_)
     have hpt:=(l3 170 _ rfl rfl rfl).pt zd
     obtain⟨sN,hsv,hsN⟩:=(l3 6 _ rfl rfl rfl).vslx (sz:=5) (rows:=UL.map xG) (fun r hr=>by obtain⟨x,_,rfl⟩:=Nz.1 hr;rfl) rfl
     have h5:(UL.map xG).length=UL.length:=Ni _
     rw[h5]at hsN hsv
     have hsv1:yb β (.sl 6 0 b.c.ins.length 5)=vsl sN UL.length:=by rw[<-hul];exact hsv
     have hxs:List.map (V.conc [170,6] β) [V.c (Cv.sl 6 0 b.c.ins.length 5),V.c (Cv.fn 250 [(170,0)])]=[.c (.v (vsl sN UL.length)),Fv 250 #[xh β 170 0]]:=by rw[<-hsv1];rfl
     rw[hxs]
     refine yP 190 l1 (uE sN UL hsN zA 250 #[xh β 170 0] (fun u=> !yr u u0) (fun u _=>Tj u u0 _ hpt)) (zN _) rfl (fun Cm m1 m2=>?_)
     refine vv ?_
     refine zu (hR Cm m1) ?_
     show(!(UL.any fun u=> !yr u u0))=(yr tu u0&&UL.all (fun u=>yr u u0))
     rw[hq,MI];rfl
   ·-- not
    obtain⟨e0,e1,e2,e3,e4,e5,e6,e7,e8,e9,e10,e11,e12,e13,e14,e15,e16,e17⟩:(b.c.kd==[97,100,100])=false/\(b.c.kd==[115,117,98])=false/\(b.c.kd==[110,101,103])=false/\(b.c.kd==[99,111,110,118,101,114,116])=false/\(b.c.kd==[109,105,110])=false/\(b.c.kd==[109,97,120])=false/\(b.c.kd==[108,105,109,105,116])=false/\(b.c.kd==[100,101,108,97,121])=false/\(b.c.kd==[108,97,103])=false/\(b.c.kd==[115,119,105,116,99,104])=false/\(b.c.kd==[109,117,108])=false/\(b.c.kd==[100,105,118])=false/\(b.c.kd==[108,101,115,115])=false/\(b.c.kd==[101,113,117,97,108])=false/\(b.c.kd==[97,110,100])=false/\(b.c.kd==[111,114])=false/\(b.c.kd==[110,111,116])=true/\(b.c.kd==[104,121,115,116,101,114,101,115,105,115])=false:=by rw[hkd];decide
    rw[hkd]at hR
    refine CallQ.pure 170 vL rfl ?_
    simp only[go_sem,e0,e1,e2,e3,e4,e5,e6,e7,e8,e9,e10,e11,e12,e13,e14,e15,e16,e17]
    have hg0:(tu.m==u0.m&&(tu.kg==u0.kg&&(tu.s==u0.s&&(tu.a==u0.a&&tu.k==u0.k))))=yr tu u0:=rfl
    simp only[hg0]
    cases hq:yr tu u0 with
    |false=>
     refine CallQ.guard (xs:=[]) (v:=Bo true) 180 (fun h=>by cases h) (fun h=>by cases h) (vv ?_)
     refine zu (hR C hL) ?_
     show _=(yr tu u0&&UL.all (fun u=>yr u u0))
     rw[hq];rfl
    |true=>
     refine CallQ.letgo (xs:=[_,_]) (M0:=[]) [170,6] hL hP rfl (by unfold yF;simp only[Nj,yJ (zK _),yJ (y7 _),yJ (yD _)];rfl) rfl v9 rfl rfl (fun β Cn l1 l2 l3=>?_)
     have hpt:=(l3 170 _ rfl rfl rfl).pt zd
     obtain⟨sN,hsv,hsN⟩:=(l3 6 _ rfl rfl rfl).vslx (sz:=5) (rows:=UL.map xG) (fun r hr=>by obtain⟨x,_,rfl⟩:=Nz.1 hr;rfl) rfl
     have h5:(UL.map xG).length=UL.length:=Ni _
     rw[h5]at hsN hsv
     have hsv1:yb β (.sl 6 0 b.c.ins.length 5)=vsl sN UL.length:=by rw[<-hul];exact hsv
     have hxs:List.map (V.conc [170,6] β) [V.c (Cv.sl 6 0 b.c.ins.length 5),V.c (Cv.fn 250 [(170,0)])]=[.c (.v (vsl sN UL.length)),Fv 250 #[xh β 170 0]]:=by rw[<-hsv1];rfl
     rw[hxs]
     refine yP 190 l1 (uE sN UL hsN zA 250 #[xh β 170 0] (fun u=> !yr u u0) (fun u _=>Tj u u0 _ hpt)) (zN _) rfl (fun Cm m1 m2=>?_)
     refine vv ?_
     refine zu (hR Cm m1) ?_
     show(!(UL.any fun u=> !yr u u0))=(yr tu u0&&UL.all (fun u=>yr u u0))
     rw[hq,MI];rfl
   ·-- hysteresis
    obtain⟨e0,e1,e2,e3,e4,e5,e6,e7,e8,e9,e10,e11,e12,e13,e14,e15,e16,e17⟩:(b.c.kd==[97,100,100])=false/\(b.c.kd==[115,117,98])=false/\(b.c.kd==[110,101,103])=false/\(b.c.kd==[99,111,110,118,101,114,116])=false/\(b.c.kd==[109,105,110])=false/\(b.c.kd==[109,97,120])=false/\(b.c.kd==[108,105,109,105,116])=false/\(b.c.kd==[100,101,108,97,121])=false/\(b.c.kd==[108,97,103])=false/\(b.c.kd==[115,119,105,116,99,104])=false/\(b.c.kd==[109,117,108])=false/\(b.c.kd==[100,105,118])=false/\(b.c.kd==[108,101,115,115])=false/\(b.c.kd==[101,113,117,97,108])=false/\(b.c.kd==[97,110,100])=false/\(b.c.kd==[111,114])=false/\(b.c.kd==[110,111,116])=false/\(b.c.kd==[104,121,115,116,101,114,101,115,105,115])=true:=by rw[hkd];decide
    rw[hkd]at hR
    refine CallQ.pure 170 vL rfl ?_
    simp only[go_sem,e0,e1,e2,e3,e4,e5,e6,e7,e8,e9,e10,e11,e12,e13,e14,e15,e16,e17]
    exact zu (hR C hL) rfl
end Go.Proofs.YtbnkiacicnnmkaaGreat.Fx
