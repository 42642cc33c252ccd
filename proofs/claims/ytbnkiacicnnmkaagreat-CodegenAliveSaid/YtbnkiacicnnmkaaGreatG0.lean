/-  -/
import Derived.Test.YtbnkiacicnnmkaaGreatRL
import Derived.Laws.CopyRow
import Derived.Lib.Bytealg
open Go.Proofs.Tryz
open Go.Proofs.Tryz renaming prog→KI
set_option linter.unusedSimpArgs false
set_option linter.unusedVariables false
set_option maxRecDepth 100000
set_option maxHeartbeats 4000000
namespace Go.Proofs.YtbnkiacicnnmkaaGreat.Fx
open Vg Tf
theorem co {m:Mp}(k:MaOk m)(x y:Int):nb (iE m x y):=by
 obtain⟨_,_,x3,x4,x5⟩:=rp k.x2 k.xi x
 obtain⟨_,_,y3,y4,y5⟩:=rp k.y2 k.yi y
 exact fG y4 y5 (wg m.ys k.yi _ y3) (jO k x3 zA x4 x5) (jO k x3 y3 x4 x5)
def m9 (m:Mp)(x:Int):List Int->Int×Int->Int×Int
 |[],q=>q
 |y::l,q=>m9 m x l (qk q (iE m x y))
def p8 (m:Mp)(ys:List Int):List Int->Int×Int->Int×Int
 |[],q=>q
 |x::l,q=>p8 m ys l (m9 m x ys q)
def sa (m:Mp):List Int:=m.zs.flatten
def jW (m:Mp)(r s:Int×Int):Int×Int:=p8 m (sT m.ys s) (sT m.xs r) (iE m r.1 s.1,iE m r.1 s.1)
def m8 (m:Mp)(r s:Int×Int):(Int×Int)×Int:=
 bif (bif (bif !x8 m.xs m.ys m.zs then true else decide (r.2<r.1))then true else decide (s.2<s.1))then((0,0),1)
 else((max ((jW m r s).1-1) (bG ((sa m).getD 0 0) ((sa m).drop 1)),min ((jW m r s).2+1) (mo ((sa m).getD 0 0) ((sa m).drop 1))),0)
theorem lq {m:Mp}(k:MaOk m)(x:Int):∀(l:List Int) {q:Int×Int},nb q.1->nb q.2->nb (m9 m x l q).1/\nb (m9 m x l q).2
 |[],_,h1,h2=>⟨h1,h2⟩
 |y::l,q,h1,h2=>by
  have:=co k x y
  unfold nb at h1 h2 this
  exact lq k x l (by unfold qk nb;simp only;omega) (by unfold qk nb;simp only;omega)
theorem lr {m:Mp}(k:MaOk m)(ys:List Int):∀(l:List Int) {q:Int×Int},nb q.1->nb q.2->nb (p8 m ys l q).1/\nb (p8 m ys l q).2
 |[],_,h1,h2=>⟨h1,h2⟩
 |x::l,q,h1,h2=>by
  obtain⟨a,b⟩:=lq k x ys h1 h2
  exact lr k ys l a b
theorem MaOk.all (m:Mp)(k:MaOk m):0<(sa m).length/\(sa m).length<=1024:=by
 have hlen:∀l:List (List Int),(∀z∈l,z.length=m.ys.length)->l.flatten.length=l.length*m.ys.length:=by
  intro l
  induction l with
  |nil=>intro _;simp
  |cons a l ih=>intro h;rw[List.flatten_cons,MB,h a zd,ih fun z hz=>h z (by simp[hz]),MG,Lq,Nat.add_comm]
 have h1:=hlen m.zs (fun z hz=>by
  obtain⟨i,hi,rfl⟩:=List.getElem_of_mem hz
  have:=k.zr i hi
  rwa [Nl,No hi]at this)
 have h2:=k.x2
 have h3:=k.y2
 have h4:=k.x3
 have h5:=k.y3
 unfold sa
 rw[h1,k.zl]
 have h6:2*2<=m.xs.length*m.ys.length:=Nat.mul_le_mul h2 h3
 have h7:m.xs.length*m.ys.length<=32*32:=Nat.mul_le_mul h4 h5
 omega
theorem kL (l:List Int)(r:Int×Int):(sT l r).length<=l.length+2:=by
 unfold sT
 rw[MG,MG]
 have:=List.length_filter_le (fun x=>decide (r.1<x)&&decide (x<r.2)) l
 omega
theorem aa {H:Hp}(m:MpL)(hm:m.ok H)(hl:∀v∈m.zs,v.2.length<=1000000000000000)(r s:Int×Int):CallH H KI 281 [.agg (ke m),rA r,rA s] (rE (m8 m.c r s)):=by
 have hval:=pY m hm hl
 refine kH func281 Xu ntmps281 fun C hR hP hH hL=>?_
 refine zB 100 (vv ?_)
 refine zO 110 hval hH rfl (vv ?_)
 refine zY (fun h0=>?_) (fun h0=>?_)
 ·have hq:m8 m.c r s=((0,0),1):=by unfold m8;rw[show x8 m.c.xs m.c.ys m.c.zs=x8 m.xs m.ys (m.zs.map (·.2)) from rfl,h0];rfl
  rw[hq]at hR
  exact yM (hR C hL) ClM.nil
 have hok:x8 m.c.xs m.c.ys m.c.zs=true:=by
  show x8 m.xs m.ys (m.zs.map (·.2))=true
  cases hk:x8 m.xs m.ys (m.zs.map (·.2))with
  |true=>rfl
  |false=>rw[hk]at h0;cases h0
 have k:=cV hok
 have hq:m8 m.c r s=((max ((jW m.c r s).1-1) (bG ((sa m.c).getD 0 0) ((sa m.c).drop 1)),min ((jW m.c r s).2+1) (mo ((sa m.c).getD 0 0) ((sa m.c).drop 1))),0):=by unfold m8;rw[show x8 m.c.xs m.c.ys m.c.zs=x8 m.xs m.ys (m.zs.map (·.2)) from rfl,h0];rfl
 rw[hq]at hR
 have kx3:m.xs.length<=32:=k.x3
 have ky3:m.ys.length<=32:=k.y3
 obtain⟨kz0,kz1⟩:=MaOk.all m.c k
 have hat:∀x y,CallH H KI 169 [.agg (ke m),I x,I y] (I (iE m.c x y)):=fun x y=>QV m hm k x y
 have hn0:=co k r.1 s.1
 have hnR:=lr k (sT m.ys s) (sT m.xs r) (q:=(iE m.c r.1 s.1,iE m.c r.1 s.1)) hn0 hn0
 have hRR:p8 m.c (sT m.ys s) (sT m.xs r) (iE m.c r.1 s.1,iE m.c r.1 s.1)=jW m.c r s:=rfl
 rw[hRR]at hnR
 have lx:=kL m.xs r
 have ly:=kL m.ys s
 generalize jW m.c r s=R at*
 refine zO 110 (hat r.1 s.1) hH rfl (vv ?_)
 generalize iE m.c r.1 s.1=v0 at*
 refine CallQ.hr [(1,130)] 140 (kR m.x m.xs hm.x zA r) hH ClM.nil rfl rfl trivial rfl (.inl rfl) ?_
 simp only[Mem.ren,Nk,Nm,zf (yD _),V.ren,Cv.ren,rn,Nat.reduceBEq,cond_true,cond_false]
 refine vv ?_
 generalize hX:sT m.xs r=X at*
 generalize hY:sT m.ys s=Y at*
 refine zL (M0:=[]) (α:={z:Nat×(Int×Int)//z.1<=X.length/\p8 m.c Y (X.drop z.1) z.2=R}) hP (fun z=>[(3,true,.c (.p 3 0)),(4,true,.c (.p 4 0)),(5,true,.c (.p 5 0)),(6,true,.c (.p 6 0)),(9,true,.c (.p 9 0)),(46,true,.c (.sl 1 0 X.length 1)),(47,true,I X.length),(48,true,I z.val.1)])
  (fun z=>[(1,⟨false,X.map iC,3⟩),(9,⟨false,rC z.val.2,129⟩),(6,⟨false,rC (0,0),129⟩),(5,⟨false,rC s,129⟩),(4,⟨false,rC r,129⟩),(3,⟨false,ke m,82⟩)]) (fun z=>X.length-z.val.1) ⟨(0,(v0,v0)),zd,hRR⟩ (fun _=>zD (by simp only[Nj,zZ (yD _)];rfl)) (fun _=>zP rfl) [(1,130),(9,110),(6,103),(5,102),(4,101),(3,100)] ?_ ?_
 ·exact zk
 rintro⟨⟨i,q⟩,hi,hx⟩ J hj
 simp only at hj hi hx⊢
 refine zB 150 (vv ?_)
 refine zY (fun hc=>?_) (fun hc=>?_)
 ·have hc:=zI hc
  have hdz:X.drop i=X.getD i 0::X.drop (i+1):=by
   rw[Np hc,Nl,No hc];rfl
  rw[hdz,p8]at hx
  have gx:=yY hc
  generalize X.getD i 0=x at*
  simp only[go_sem,gx]
  refine⟨⟨zA,zA⟩,?_⟩
  refine CallQ.hr [(1,160)] 170 (kR m.y m.ys hm.y zA s) hH ClM.nil rfl rfl trivial rfl (.inl rfl) ?_
  rw[hY]
  simp only[Mem.ren,Nk,Nm,zf (yD _),V.ren,Cv.ren,rn,Nat.reduceBEq,cond_true,cond_false]
  refine vv ?_
  refine zL (M0:=[]) (α:={z:Nat×(Int×Int)//z.1<=Y.length/\p8 m.c Y (X.drop (i+1)) (m9 m.c x (Y.drop z.1) z.2)=R}) hP (fun z=>[(3,true,.c (.p 3 0)),(4,true,.c (.p 4 0)),(5,true,.c (.p 5 0)),(6,true,.c (.p 6 0)),(9,true,.c (.p 9 0)),(46,true,.c (.sl 1 0 X.length 1)),(47,true,I X.length),(48,true,I i),(11,true,I x),(55,true,.c (.sl 2 0 Y.length 1)),(56,true,I Y.length),(57,true,I z.val.1)])
   (fun z=>[(1,⟨false,X.map iC,3⟩),(2,⟨false,Y.map iC,3⟩),(9,⟨false,rC z.val.2,129⟩),(6,⟨false,rC (0,0),129⟩),(5,⟨false,rC s,129⟩),(4,⟨false,rC r,129⟩),(3,⟨false,ke m,82⟩)]) (fun z=>Y.length-z.val.1) ⟨(0,q),zd,hx⟩ (fun _=>zD (by simp only[Nj,zZ (yD _)];rfl)) (fun _=>zP rfl) [(1,1),(2,160),(9,9),(6,6),(5,5),(4,4),(3,3)] ?_ ?_
  ·exact zk
  rintro⟨⟨n,p⟩,hn,hy⟩ J2 hj2
  simp only at hj2 hn hy⊢
  refine zB 150 (vv ?_)
  refine zY (fun hd=>?_) (fun hd=>?_)
  ·have hd:=zI hd
   have hdy:Y.drop n=Y.getD n 0::Y.drop (n+1):=by
    rw[Np hd,Nl,No hd];rfl
   rw[hdy,m9]at hy
   have gy:=yY hd
   generalize Y.getD n 0=y at*
   simp only[go_sem,gy]
   refine⟨⟨zA,zA⟩,?_⟩
   refine zO 170 (hat x y) hH rfl ?_
   simp only[go_sem,yt (i:=n)]
   exact hj2 _ _ ⟨(n+1,qk p (iE m.c x y)),hd,hy⟩ [(1,1),(2,2),(9,9),(6,6),(5,5),(4,4),(3,3)] yK zk
  ·have hd:=zJ hn hd
   rw[hd,Ny,m9]at hy
   simp only[go_sem,yt (i:=i)]
   exact hj _ _ ⟨(i+1,p),hc,hy⟩ [(1,1),(9,9),(6,6),(5,5),(4,4),(3,3)] yK zk
 ·have hc:=zJ hi hc
  rw[hc,Ny,p8]at hx
  subst hx
  have hmz:(m.zs.map (·.2)).flatten=sa m.c:=rfl
  have hzl:m.zs.length<=1000000:=by
   have h1:=k.zl
   have e:m.c.zs.length=m.zs.length:=Ni _
   have e2:m.c.xs.length=m.xs.length:=rfl
   omega
  have hcc:=jI (H:=H) m.z m.zs hm.z hm.e (by rw[hmz];exact kz0) (by rw[hmz];omega) hzl
  rw[hmz]at hcc
  generalize sa m.c=Z at*
  refine CallQ.hr [(1,180)] 190 hcc hH ClM.nil rfl rfl trivial rfl (.inl rfl) ?_
  simp only[Mem.ren,Nk,Nm,zf (yD _),V.ren,Cv.ren,rn,Nat.reduceBEq,cond_true,cond_false]
  refine vv ?_
  obtain⟨a1,a2⟩:=hnR
  unfold nb at a1 a2
  have w1:IntKind.i64.wrap (q.1-1)=q.1-1:=y8 zA zA
  have w2:IntKind.i64.wrap (q.2+1)=q.2+1:=y8 zA zA
  have hmin:=min_ Z kz0 zA
  have hmax:=max_ Z kz0 zA
  have hZ:ClM [(1,⟨true,Z.map iC,3⟩)]:=zD (by simp only[Nj,zZ (yD _)];rfl)
  have hrn:∀ρ,(Z.map iC).map (Cv.ren ρ)=Z.map iC:=fun ρ=>by rw[MZ];rfl
  refine Sm.dg 200 12 zw ?_
  simp only[go_sem,w1,w2]
  refine DCallQ.ren [(1,180)] 210 hmin hZ rfl rfl ⟨⟨_,rfl,.inr ⟨rfl,[],by show Z.map iC=(Z.map iC).map (Cv.ren _)++[];rw[hrn,Nx]⟩⟩,trivial⟩ rfl (.inr rfl) rfl rfl ?_
  simp only[Mem.ren,Nm,V.ren,Cv.ren]
  simp only[go_sem,w1,w2]
  refine DCallQ.ren [(1,180)] 220 hmax hZ rfl rfl ⟨⟨_,rfl,.inr ⟨rfl,[],by show Z.map iC=(Z.map iC).map (Cv.ren _)++[];rw[hrn,Nx]⟩⟩,trivial⟩ rfl (.inr rfl) rfl rfl ?_
  simp only[Mem.ren,Nm,V.ren,Cv.ren]
  simp only[go_sem,w1,w2]
  exact yM (hR C hL) ClM.nil
def QJ (d:Dg)(s:Str):Cu:=(d.cus.find? (fun c=>c.nm==s)).getD ⟨[],[],[]⟩
def SU (d:Dg)(s:Str):Mp:=(d.mas.find? (fun c=>c.nm==s)).getD ⟨[],[],[],[]⟩
theorem U5 (d:DgL)(s:Str):QJ d.c s=((lP d.cus s).getD bv).c:=by
 unfold QJ lP DgL.c
 simp only[List.find?_map]
 have:((fun c:Cu=>c.nm==s) ∘ CuL.c)=fun c=>c.c.nm==s:=rfl
 rw[this]
 cases d.cus.find? (fun c=>c.c.nm==s)<;>rfl
theorem Yz (d:DgL)(s:Str):SU d.c s=((kh d.mas s).getD ZK).c:=by
 unfold SU kh DgL.c
 simp only[List.find?_map]
 have:((fun c:Mp=>c.nm==s) ∘ MpL.c)=fun c=>c.nm==s:=rfl
 rw[this]
 cases d.mas.find? (fun c=>c.nm==s)<;>rfl
def YW (d:Dg)(b:Bl)(rs:List (Int×Int)):Int×Int:=bif b.kd==[99,117,114,118,101]then(mh (QJ d b.tb) (rs.getD 0 (0,0))).1 else(m8 (SU d b.tb) (rs.getD 0 (0,0)) (rs.getD 1 (0,0))).1
def oh (d:Dg)(b:Bl)(rs:List (Int×Int)):Int×Int:=ZQ (YW d b rs) (bif fok (yH d.tys b.ty)then qh (yH d.tys b.ty)else 0) (bif fok (yH d.tys b.ty)then pD (yH d.tys b.ty)else 0)
theorem aX {H:Hp}(d:DgL):ft H d (oh d.c):=fun H' cp bT bC bM bS _ k b hb ht hok rs hrs=>by
 have hcu:((lP d.cus b.c.tb).getD bv).ok H'/\((lP d.cus b.c.tb).getD bv).c.xs.length<=1000000000000000/\((lP d.cus b.c.tb).getD bv).c.ys.length<=1000000000000000:=by
  cases hq:lP d.cus b.c.tb with
  |none=>exact⟨⟨SlH.nil 1,SlH.nil 1⟩,xW,xW⟩
  |some c=>
   have hm:=LS hq
   exact⟨k.o.cus c hm,(k.s.cus.2 c hm).2.1,(k.s.cus.2 c hm).2.2⟩
 have hma:((kh d.mas b.c.tb).getD ZK).ok H'/\∀v∈((kh d.mas b.c.tb).getD ZK).zs,v.2.length<=1000000000000000:=by
  cases hq:kh d.mas b.c.tb with
  |none=>exact⟨⟨SlH.nil 1,SlH.nil 1,SlH.nil 1,fun v hv=>by cases hv⟩,fun v hv=>by cases hv⟩
  |some c=>
   have hm:=LS hq
   exact⟨k.o.mas c hm,(k.s.mas.2 c hm).2⟩
 have hty:(yH d.c.tys b.c.ty)=yH d.tys b.c.ty:=rfl
 unfold oh YW
 rw[U5,Yz,hty]
 have hlim:=jk (yH d.tys b.c.ty)
 obtain⟨b0,o0,rfl,c0,el0,mk0,hc0,hcc⟩:=PtH.at k.c.p
 unfold jV at ht
 cases hk:b.c.kd==[99,117,114,118,101]with
 |true=>
  have hkd:b.c.kd=[99,117,114,118,101]:=by simpa using hk
  obtain⟨g1,_⟩:=xq hok hk (show yk [99,117,114,118,101]=some (1,0,1) from rfl)
  rw[g1]at hrs
  obtain⟨r0,rfl⟩:=qg hrs
  have hM:ClM [(1,⟨true,zC ([r0].map y9),129⟩)]:=zD rfl
  have hov:=Yp ((lP d.cus b.c.tb).getD bv) hcu.1 hcu.2.1 hcu.2.2 r0
  rw[cond_true,show([r0]:List (Int×Int)).getD 0 (0,0)=r0 from rfl]
  simp only[zp,zz,Nk,Nm,Nt,Nu,Nx,y9]at hM⊢
  refine kX func256 bV ntmps256 fun C hR hP hH hL=>?_
  have hR:=hR () C hL trivial
  refine zB 100 ?_
  simp only[go_sem,hk]
  refine Sm.dgW [102] 110 15 zw (vv ?_)
  refine DOpQ.own 120 (zm rfl rfl) (vv ?_)
  refine DOpQ.own 120 (zV rfl rfl rfl) (vv ?_)
  refine zF 120 (fun _=>zQ (hH _ _ hc0) (hcc 8 _ rfl) rfl rfl rfl) (vv ?_)
  refine zF 120 (fun _=>SW (k.c.c.mono hH) rfl rfl rfl) (vv ?_)
  refine yq 130 (fun _=>hov) hH (fun _=>rfl) ?_
  generalize mh ((lP d.cus b.c.tb).getD bv).c r0=q at*
  refine vv ?_
  refine Sm.dg 130 12 zw (vv ?_)
  refine DOpQ.own 140 (zm rfl rfl) (vv ?_)
  refine DOpQ.own 140 (zV rfl rfl rfl) (vv ?_)
  refine zF 140 (fun _=>zQ (hH _ _ hc0) (hcc 7 _ rfl) rfl rfl rfl) (vv ?_)
  refine zF 140 (fun _=>xf (k.c.t.mono hH) rfl rfl rfl) (vv ?_)
  refine DCallQ.pure 150 hlim rfl ?_
  generalize (bif fok (yH d.tys b.c.ty)then qh (yH d.tys b.c.ty)else 0)=lo at*
  generalize (bif fok (yH d.tys b.c.ty)then pD (yH d.tys b.c.ty)else 0)=hi at*
  refine vv ?_
  refine CallQ.pure 160 (qE q.1 lo hi) rfl (vv ?_)
  exact yM hR hM
 |false=>
  have hk2:(b.c.kd==[109,97,112])=true:=by rw[hk]at ht;simpa using ht
  have hkd:b.c.kd=[109,97,112]:=by simpa using hk2
  obtain⟨g1,_⟩:=xq hok hk2 (show yk [109,97,112]=some (2,0,2) from rfl)
  rw[g1]at hrs
  obtain⟨r0,r1,rfl⟩:=rL hrs
  have hM:ClM [(1,⟨true,zC ([r0,r1].map y9),129⟩)]:=zD rfl
  have hov:=aa ((kh d.mas b.c.tb).getD ZK) hma.1 hma.2 r0 r1
  rw[cond_false,show([r0,r1]:List (Int×Int)).getD 0 (0,0)=r0 from rfl,show([r0,r1]:List (Int×Int)).getD 1 (0,0)=r1 from rfl]
  simp only[zp,zz,Nk,Nm,Nt,Nu,Nx,y9]at hM⊢
  refine kX func256 bV ntmps256 fun C hR hP hH hL=>?_
  have hR:=hR () C hL trivial
  refine zB 100 ?_
  simp only[go_sem,hk]
  refine Sm.dgW [102] 110 18 zw (vv ?_)
  refine DOpQ.own 120 (zm rfl rfl) (vv ?_)
  refine DOpQ.own 120 (zV rfl rfl rfl) (vv ?_)
  refine zF 120 (fun _=>zQ (hH _ _ hc0) (hcc 9 _ rfl) rfl rfl rfl) (vv ?_)
  refine zF 120 (fun _=>SV (k.c.m.mono hH) rfl rfl rfl) (vv ?_)
  refine yq 130 (fun _=>hov) hH (fun _=>rfl) ?_
  generalize m8 ((kh d.mas b.c.tb).getD ZK).c r0 r1=q at*
  refine vv ?_
  refine Sm.dg 130 12 zw (vv ?_)
  refine DOpQ.own 140 (zm rfl rfl) (vv ?_)
  refine DOpQ.own 140 (zV rfl rfl rfl) (vv ?_)
  refine zF 140 (fun _=>zQ (hH _ _ hc0) (hcc 7 _ rfl) rfl rfl rfl) (vv ?_)
  refine zF 140 (fun _=>xf (k.c.t.mono hH) rfl rfl rfl) (vv ?_)
  refine DCallQ.pure 150 hlim rfl ?_
  generalize (bif fok (yH d.tys b.c.ty)then qh (yH d.tys b.c.ty)else 0)=lo at*
  generalize (bif fok (yH d.tys b.c.ty)then pD (yH d.tys b.c.ty)else 0)=hi at*
  refine vv ?_
  refine CallQ.pure 160 (qE q.1 lo hi) rfl (vv ?_)
  exact yM hR hM
end Go.Proofs.YtbnkiacicnnmkaaGreat.Fx
namespace Go.Proofs.YtbnkiacicnnmkaaGreat
namespace Vg
open Go.RowKit
end Vg
namespace Vg
theorem re {l:List Cv}{t:TypeId}{r:Bool}:Wk ⟨true,l,t⟩ ⟨r,l,t⟩:=by
 cases r
 ·exact .inr ⟨rfl,[],zd⟩
 ·exact .inl rfl
theorem DCallQ.xn {P:Program}{nt:Nat}{C:Cx}{r:List It}{e e0:Env}{M M0 Mf:Mem}{H:Hp}{id:Nat}{rg:Array Oper}{k:Nat}{T:List (Nat×Nat)}{i:Nat}{o:Oper}{l:List Oper}{f:FuncId}{vs:List (Option (Bool×V))}{g:Bool}{dst:Option Nat}{xs:List V}{v:V}{M1 N:Mem}(nx:Nat)(hc:g=true->CallX H P f xs M1 (fun _:Unit=>v) (fun _=>N) (fun _ _=>True))(hH:H.le C.hp)(hcl:ClM M1)(hvs:g=true->vs=xs.map fun x=>some (true,x))
  (hs:SubS M1 M0) (hfr:N.all (fun p=>(M1.get p.1).isSome||(M0.get p.1).isNone)=true) (hf:qm N M0 M0 M=true) (ht:ve T o N=true) (hg:g=true\/N=[])
  (h:w8 P nt C id rg r e0 M0 Mf k (xk P nt C (.ops rg (rg.toList.drop k)::r)) (w6 N i T) (i+1) l (e.put dst g v) (N++M) nx):DCallQ P nt C id rg r e0 M0 Mf k T i o f vs g dst l e M:=
 ⟨M1,N,M0,v,xs,hvs,fun h=> .inr (CallX.kx (hc h) hH hcl (fun _=>rfl) (fun _=>rfl)),hs.sub,hcl,xA hfr,hg,⟨fun _ _ h=> .inl h,vf hf ht⟩,wC nx h⟩
theorem xE {P:Program}{nt:Nat}{C:Cx}{todo:List It}{e:Env}{M:Mem}(n nx:Nat)(h:run P nt C n todo e M nx):Sm P nt C todo e M:=yR n _ _ _ nx h
end Vg
end Go.Proofs.YtbnkiacicnnmkaaGreat
namespace Go.Proofs.YtbnkiacicnnmkaaGreat.Fx
open Vg Tf
structure Ins where
 op:Int
 a:Int
 b:Int
 c:Int
 k:Int
def Ins.w (i:Ins):List Value:=[iv i.op,iv i.a,iv i.b,iv i.c,iv i.k]
@[reducible] def U8 (c:Int):V:= .c (.v (.int .u8 c))
theorem xl (i:Ins):ze i.w= .agg [.v (iv i.op),.v (iv i.a),.v (iv i.b),.v (iv i.c),.v (iv i.k)]:=rfl
theorem Sd (s:Str)(c:Int):qZ KI 283 [S s,U8 c] (I (Lib.indexByte s c.toNat.toUInt8)):=by
 intro β w
 have h:=run_callFunc_extern (e:=Extern.BytealgIndexByte.indexByte) func283 (by kernel_rfl) (by kernel_rfl) (by kernel_rfl) (by kernel_rfl) #[.string ⟨s.toArray⟩,.int .u8 c] w
 rw[Lib.run_indexByteString]at h
 exact h
theorem Z1 (s:Str)(c:Int):CallOk KI 262 [S s,U8 c] [] (I (Lib.indexByte s c.toNat.toUInt8)) []:=by
 refine kN 100 func262 WM ntmps262 fun C hR hP=>?_
 refine vv ?_
 refine CallQ.ext 110 (Sd s c) rfl (vv ?_)
 exact vK hR rfl
theorem lG (s:Str)(c:Int):CallOk KI 217 [S s,U8 c] [] (I (Lib.indexByte s c.toNat.toUInt8)) []:=by
 refine kN 100 func217 Wq ntmps217 fun C hR hP=>?_
 refine vv ?_
 refine CallQ.pure 110 (Z1 s c) rfl (vv ?_)
 exact vK hR rfl
def ya (op:Int):Str:=
 bif op==1 then[65,75]else bif op==2 then[65,75]else bif op==3 then[65,75]else bif op==4 then[65,66]else bif op==18 then[65,66]else
 bif op==5 then[65,66,67,75]else bif op==6 then[65,66,67,75]else bif op==7 then[65,66,67,75]else bif op==8 then[65,66,67,75]else bif op==13 then[65,66,67,75]else bif op==14 then[65,66,67,75]else bif op==19 then[65,66,67,75]else bif op==21 then[65,66,67,75]else
 bif op==9 then[65,66,75]else bif op==10 then[65,66,75]else bif op==20 then[65,66,75]else bif op==22 then[65,66,75]else[65,66,67]
theorem d9 (op:Int)(h:op≠1/\op≠2/\op≠3/\op≠4/\op≠18/\op≠5/\op≠6/\op≠7/\op≠8/\op≠13/\op≠14/\op≠19/\op≠21/\op≠9/\op≠10/\op≠20/\op≠22):ya op=[65,66,67]:=by
 have e:∀n:Int,op≠n->(op==n)=false:=fun n h=>by simpa using h
 obtain⟨h1,h2,h3,h4,h5,h6,h7,h8,h9,h10,h11,h12,h13,h14,h15,h16,h17⟩:=h
 unfold ya
 rw[e _ h1,e _ h2,e _ h3,e _ h4,e _ h5,e _ h6,e _ h7,e _ h8,e _ h9,e _ h10,e _ h11,e _ h12,e _ h13,e _ h14,e _ h15,e _ h16,e _ h17]
 rfl
theorem nO (op:Int):CallOk KI 89 [I op] [] (S (ya op)) []:=by
 refine kN 100 func89 Ss ntmps89 fun C hR hP=>?_
 by_cases h:op=1\/op=2\/op=3\/op=4\/op=18\/op=5\/op=6\/op=7\/op=8\/op=13\/op=14\/op=19\/op=21\/op=9\/op=10\/op=20\/op=22
 ·rcases h with rfl|rfl|rfl|rfl|rfl|rfl|rfl|rfl|rfl|rfl|rfl|rfl|rfl|rfl|rfl|rfl|rfl<;>simp only[go_sem]<;>exact RetQ.pure hR rfl y6 rfl (zH rfl)
 ·simp only[not_or]at h
  have e:∀n:Int,op≠n->(op==n)=false:=fun n h=>by simpa using h
  rw[d9 op h]at hR
  obtain⟨h1,h2,h3,h4,h5,h6,h7,h8,h9,h10,h11,h12,h13,h14,h15,h16,h17⟩:=h
  simp only[go_sem,e _ h1,e _ h2,e _ h3,e _ h4,e _ h5,e _ h6,e _ h7,e _ h8,e _ h9,e _ h10,e _ h11,e _ h12,e _ h13,e _ h14,e _ h15,e _ h16,e _ h17]
  exact RetQ.pure hR rfl y6 rfl (zH rfl)
theorem ZS (n:Int):CallOk KI 215 [I n] [] (Bo (bif decide (1<=n)then decide (n<=22)else false)) []:=by
 refine kN 100 func215 Wt ntmps215 fun C hR hP=>?_
 refine vv ?_
 exact zu hR rfl
def Sj (i:Ins)(c:Int):Int:=bif c==65 then i.a else bif c==66 then i.b else bif c==67 then i.c else i.k
theorem Zb (i:Ins)(c:Int):CallOk KI 216 [ze i.w,U8 c] [] (I (Sj i c)) []:=by
 rw[xl]
 obtain⟨F,hF⟩:∃F,F=Sj i c:=⟨_,rfl⟩
 rw[<-hF]
 unfold Sj at hF
 refine kN 100 func216 Wr ntmps216 fun C hR hP=>?_
 refine vv ?_
 cases h1:(c==65)with
 |true=>rw[h1,cond_true]at hF;exact vK hR hF.symm
 |false=>
  rw[h1,cond_false]at hF
  cases h2:(c==66)with
  |true=>rw[h2,cond_true]at hF;exact vK hR hF.symm
  |false=>
   rw[h2,cond_false]at hF
   cases h3:(c==67)with
   |true=>rw[h3,cond_true]at hF;exact vK hR hF.symm
   |false=>rw[h3,cond_false]at hF;exact vK hR hF.symm
theorem fp (y:Int):bits .and .i64 y 127=y%128:=by
 have h1:(BitVec.ofInt 64 y).toNat=(y%18446744073709551616).toNat:=by rw[BitVec.toNat_ofInt];rfl
 show IntKind.i64.wrap ((BitVec.ofInt 64 y&&& BitVec.ofInt 64 127).toNat:Int)=_
 have e:∀n:Nat,n&&& 127=n%128:=fun n=>Nat.and_two_pow_sub_one_eq_mod n 7
 rw[BitVec.toNat_and,h1,show(BitVec.ofInt 64 127).toNat=127 by decide,e,y8 zA zA]
 omega
theorem iz (k:Int):CallOk KI 220 [I k] [] (.tup [Wi (k/16384),Wi (k/128%128),Wi (k%128)]) []:=by
 refine kN 100 func220 Wn ntmps220 fun C hR hP=>?_
 refine vv ?_
 have e1:k.fdiv (2^min 14 64)=k/16384:=LC _ xW
 have e2:k.fdiv (2^min 7 64)=k/128:=LC _ xW
 exact zU hR rfl y6 (by rw[e1,e2,fp,fp]) (Sub.nil _) ClM.nil (zH rfl)
theorem kG (k:Int)(h0:0<=k)(h1:k<9223372036854775808):CallOk KI 91 [I k] [] (.tup [Wi (k/16384),Wi (k/128%128),Wi (k%128)]) []:=by
 refine kN 100 func91 Sq ntmps91 fun C hR hP=>?_
 refine vv ?_
 have e1:IntKind.i64.wrap (k.tdiv 16384)=k/16384:=by rw[Mj h0,y8 zA zA]
 have e2:(IntKind.i64.wrap (k.tdiv 128)).tmod 128=k/128%128:=by rw[Mj h0,y8 zA zA,Lg zA]
 have e3:k.tmod 128=k%128:=Lg h0
 exact zU hR rfl y6 (by rw[e1,e2,e3]) (Sub.nil _) ClM.nil (zH rfl)
def tI (n:Int):Bool:=bif bif bif decide (5<=n)then decide (n<=10)else false then true else n==13 then true else n==14
theorem iu (n:Int):CallOk KI 161 [I n] [] (Bo (tI n)) []:=by
 refine kN 100 func161 V9 ntmps161 fun C hR hP=>?_
 refine vv ?_
 exact zu hR rfl
end Go.Proofs.YtbnkiacicnnmkaaGreat.Fx
