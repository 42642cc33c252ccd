/-  -/
import Derived.Test.YtkciabfilokfiaaGreatRL
open Go.Proofs.Tryz
open Go.Proofs.Tryz renaming prog→Hf
set_option linter.unusedSimpArgs false
set_option linter.unusedVariables false
set_option maxRecDepth 100000
set_option maxHeartbeats 4000000
namespace Go.Proofs.YtkciabfilokfiaaGreat.Fx
open Vg Tf
theorem jG {m:Mp}(k:MaOk m)(x y:Int):nb (r9 m x y):=by
 obtain⟨_,_,x3,x4,x5⟩:=uG k.x2 k.xi x
 obtain⟨_,_,y3,y4,y5⟩:=uG k.y2 k.yi y
 exact gP y4 y5 (xE m.ys k.yi _ y3) (eZ k x3 zA x4 x5) (eZ k x3 y3 x4 x5)
def qZ (m:Mp)(x:Int):List Int->Int×Int->Int×Int
 |[],q=>q
 |y::l,q=>qZ m x l (vn q (r9 m x y))
def tN (m:Mp)(ys:List Int):List Int->Int×Int->Int×Int
 |[],q=>q
 |x::l,q=>tN m ys l (qZ m x ys q)
def v7 (m:Mp):List Int:=m.zs.flatten
def rF (m:Mp)(r s:Int×Int):Int×Int:=tN m (vd m.ys s) (vd m.xs r) (r9 m r.1 s.1,r9 m r.1 s.1)
def rG (m:Mp)(r s:Int×Int):(Int×Int)×Int:=
 bif (bif (bif !wD m.xs m.ys m.zs then true else decide (r.2<r.1))then true else decide (s.2<s.1))then((0,0),1)
 else((max ((rF m r s).1-1) (pV ((v7 m).getD 0 0) ((v7 m).drop 1)),min ((rF m r s).2+1) (rM ((v7 m).getD 0 0) ((v7 m).drop 1))),0)
theorem fV {m:Mp}(k:MaOk m)(x:Int):∀(l:List Int) {q:Int×Int},nb q.1->nb q.2->nb (qZ m x l q).1/\nb (qZ m x l q).2
 |[],_,h1,h2=>⟨h1,h2⟩
 |y::l,q,h1,h2=>by
  have:=jG k x y
  unfold nb at h1 h2 this
  exact fV k x l (by unfold vn nb;simp only;omega) (by unfold vn nb;simp only;omega)
theorem lG {m:Mp}(k:MaOk m)(ys:List Int):∀(l:List Int) {q:Int×Int},nb q.1->nb q.2->nb (tN m ys l q).1/\nb (tN m ys l q).2
 |[],_,h1,h2=>⟨h1,h2⟩
 |x::l,q,h1,h2=>by
  obtain⟨a,b⟩:=fV k x ys h1 h2
  exact lG k ys l a b
theorem MaOk.all (m:Mp)(k:MaOk m):0<(v7 m).length/\(v7 m).length<=1024:=by
 have hlen:∀l:List (List Int),(∀z∈l,z.length=m.ys.length)->l.flatten.length=l.length*m.ys.length:=by
  intro l
  induction l with
  |nil=>intro _;simp
  |cons a l ih=>intro h;rw[List.flatten_cons,JN,h a zc,ih fun z hz=>h z (by simp[hz]),JR,HR,Hc]
 have h1:=hlen m.zs (fun z hz=>by
  obtain⟨i,hi,rfl⟩:=List.getElem_of_mem hz
  have:=k.zr i hi
  rwa [Kw,Kz hi]at this)
 have h2:=k.x2
 have h3:=k.y2
 have h4:=k.x3
 have h5:=k.y3
 unfold v7
 rw[h1,k.zl]
 have h6:2*2<=m.xs.length*m.ys.length:=He h2 h3
 have h7:m.xs.length*m.ys.length<=32*32:=He h4 h5
 omega
theorem pi (l:List Int)(r:Int×Int):(vd l r).length<=l.length+2:=by
 unfold vd
 rw[JR,JR]
 have:=List.length_filter_le (fun x=>decide (r.1<x)&&decide (x<r.2)) l
 omega
theorem WJ {H:Hp}(m:MpL)(hm:m.ok H)(hl:∀v∈m.zs,v.2.length<=1000000000000000)(r s:Int×Int):CallH H Hf 241 [.agg (o5 m),rA r,rA s] (rE (rG m.c r s)):=by
 have hval:=fQ m hm hl
 refine kH func241 SF ntmps241 fun C hR hP hH hL=>?_
 refine zB 100 (vv ?_)
 refine z8 110 hval hH rfl (vv ?_)
 refine zU (fun h0=>?_) (fun h0=>?_)
 ·have hq:rG m.c r s=((0,0),1):=by unfold rG;rw[show wD m.c.xs m.c.ys m.c.zs=wD m.xs m.ys (m.zs.map (·.2)) from rfl,h0];rfl
  rw[hq]at hR
  exact yI (hR C hL) ClM.nil
 have hok:wD m.c.xs m.c.ys m.c.zs=true:=by
  show wD m.xs m.ys (m.zs.map (·.2))=true
  cases hk:wD m.xs m.ys (m.zs.map (·.2))with
  |true=>rfl
  |false=>rw[hk]at h0;cases h0
 have k:=pz hok
 have hq:rG m.c r s=((max ((rF m.c r s).1-1) (pV ((v7 m.c).getD 0 0) ((v7 m.c).drop 1)),min ((rF m.c r s).2+1) (rM ((v7 m.c).getD 0 0) ((v7 m.c).drop 1))),0):=by unfold rG;rw[show wD m.c.xs m.c.ys m.c.zs=wD m.xs m.ys (m.zs.map (·.2)) from rfl,h0];rfl
 rw[hq]at hR
 have kx3:m.xs.length<=32:=k.x3
 have ky3:m.ys.length<=32:=k.y3
 obtain⟨kz0,kz1⟩:=MaOk.all m.c k
 have hat:∀x y,CallH H Hf 263 [.agg (o5 m),I x,I y] (I (r9 m.c x y)):=fun x y=>PN m hm k x y
 have hn0:=jG k r.1 s.1
 have hnR:=lG k (vd m.ys s) (vd m.xs r) (q:=(r9 m.c r.1 s.1,r9 m.c r.1 s.1)) hn0 hn0
 have hRR:tN m.c (vd m.ys s) (vd m.xs r) (r9 m.c r.1 s.1,r9 m.c r.1 s.1)=rF m.c r s:=rfl
 rw[hRR]at hnR
 have lx:=pi m.xs r
 have ly:=pi m.ys s
 generalize rF m.c r s=R at*
 refine z8 110 (hat r.1 s.1) hH rfl (vv ?_)
 generalize r9 m.c r.1 s.1=v0 at*
 refine CallQ.hr [(1,130)] 140 (fl m.x m.xs hm.x zA r) hH ClM.nil rfl rfl trivial rfl (.inl rfl) ?_
 simp only[Mem.ren,Kv,Kx,yO (yX _),V.ren,Cv.ren,rn,Nat.reduceBEq,cond_true,cond_false]
 refine vv ?_
 generalize hX:vd m.xs r=X at*
 generalize hY:vd m.ys s=Y at*
 refine zG (M0:=[]) (α:={z:Nat×(Int×Int)//z.1<=X.length/\tN m.c Y (X.drop z.1) z.2=R}) hP (fun z=>[(3,true,.c (.p 3 0)),(4,true,.c (.p 4 0)),(5,true,.c (.p 5 0)),(6,true,.c (.p 6 0)),(9,true,.c (.p 9 0)),(46,true,.c (.sl 1 0 X.length 1)),(47,true,I X.length),(48,true,I z.val.1)])
  (fun z=>[(1,⟨false,X.map iC,3⟩),(9,⟨false,rC z.val.2,45⟩),(6,⟨false,rC (0,0),45⟩),(5,⟨false,rC s,45⟩),(4,⟨false,rC r,45⟩),(3,⟨false,o5 m,89⟩)]) (fun z=>X.length-z.val.1) ⟨(0,(v0,v0)),zc,hRR⟩ (fun _=>zC (by simp only[Ky,zh (yX _)];rfl)) (fun _=>zO rfl) [(1,130),(9,110),(6,103),(5,102),(4,101),(3,100)] ?_ ?_
 ·exact z9
 rintro⟨⟨i,q⟩,hi,hx⟩ J hj
 simp only at hj hi hx⊢
 refine zB 150 (vv ?_)
 refine zU (fun hc=>?_) (fun hc=>?_)
 ·have hc:=zH hc
  have hdz:X.drop i=X.getD i 0::X.drop (i+1):=by
   rw[JA hc,Kw,Kz hc];rfl
  rw[hdz,tN]at hx
  have gx:=yR hc
  generalize X.getD i 0=x at*
  simp only[go_sem,gx]
  refine⟨⟨zA,zA⟩,?_⟩
  refine CallQ.hr [(1,160)] 170 (fl m.y m.ys hm.y zA s) hH ClM.nil rfl rfl trivial rfl (.inl rfl) ?_
  rw[hY]
  simp only[Mem.ren,Kv,Kx,yO (yX _),V.ren,Cv.ren,rn,Nat.reduceBEq,cond_true,cond_false]
  refine vv ?_
  refine zG (M0:=[]) (α:={z:Nat×(Int×Int)//z.1<=Y.length/\tN m.c Y (X.drop (i+1)) (qZ m.c x (Y.drop z.1) z.2)=R}) hP (fun z=>[(3,true,.c (.p 3 0)),(4,true,.c (.p 4 0)),(5,true,.c (.p 5 0)),(6,true,.c (.p 6 0)),(9,true,.c (.p 9 0)),(46,true,.c (.sl 1 0 X.length 1)),(47,true,I X.length),(48,true,I i),(11,true,I x),(55,true,.c (.sl 2 0 Y.length 1)),(56,true,I Y.length),(57,true,I z.val.1)])
   (fun z=>[(1,⟨false,X.map iC,3⟩),(2,⟨false,Y.map iC,3⟩),(9,⟨false,rC z.val.2,45⟩),(6,⟨false,rC (0,0),45⟩),(5,⟨false,rC s,45⟩),(4,⟨false,rC r,45⟩),(3,⟨false,o5 m,89⟩)]) (fun z=>Y.length-z.val.1) ⟨(0,q),zc,hx⟩ (fun _=>zC (by simp only[Ky,zh (yX _)];rfl)) (fun _=>zO rfl) [(1,1),(2,160),(9,9),(6,6),(5,5),(4,4),(3,3)] ?_ ?_
  ·exact z9
  rintro⟨⟨n,p⟩,hn,hy⟩ J2 hj2
  simp only at hj2 hn hy⊢
  refine zB 150 (vv ?_)
  refine zU (fun hd=>?_) (fun hd=>?_)
  ·have hd:=zH hd
   have hdy:Y.drop n=Y.getD n 0::Y.drop (n+1):=by
    rw[JA hd,Kw,Kz hd];rfl
   rw[hdy,qZ]at hy
   have gy:=yR hd
   generalize Y.getD n 0=y at*
   simp only[go_sem,gy]
   refine⟨⟨zA,zA⟩,?_⟩
   refine z8 170 (hat x y) hH rfl ?_
   simp only[go_sem,yT (i:=n)]
   exact hj2 _ _ ⟨(n+1,vn p (r9 m.c x y)),hd,hy⟩ [(1,1),(2,2),(9,9),(6,6),(5,5),(4,4),(3,3)] yF z9
  ·have hd:=zL hn hd
   rw[hd,JL,qZ]at hy
   simp only[go_sem,yT (i:=i)]
   exact hj _ _ ⟨(i+1,p),hc,hy⟩ [(1,1),(9,9),(6,6),(5,5),(4,4),(3,3)] yF z9
 ·have hc:=zL hi hc
  rw[hc,JL,tN]at hx
  subst hx
  have hmz:(m.zs.map (·.2)).flatten=v7 m.c:=rfl
  have hzl:m.zs.length<=1000000:=by
   have h1:=k.zl
   have e:m.c.zs.length=m.zs.length:=Ku _
   have e2:m.c.xs.length=m.xs.length:=rfl
   omega
  have hcc:=Yd (H:=H) m.z m.zs hm.z hm.e (by rw[hmz];exact kz0) (by rw[hmz];omega) hzl
  rw[hmz]at hcc
  generalize v7 m.c=Z at*
  refine CallQ.hr [(1,180)] 190 hcc hH ClM.nil rfl rfl trivial rfl (.inl rfl) ?_
  simp only[Mem.ren,Kv,Kx,yO (yX _),V.ren,Cv.ren,rn,Nat.reduceBEq,cond_true,cond_false]
  refine vv ?_
  obtain⟨a1,a2⟩:=hnR
  unfold nb at a1 a2
  have w1:IntKind.i64.wrap (q.1-1)=q.1-1:=ya zA zA
  have w2:IntKind.i64.wrap (q.2+1)=q.2+1:=ya zA zA
  have hmin:=min_ Z kz0 zA
  have hmax:=max_ Z kz0 zA
  have hZ:ClM [(1,⟨true,Z.map iC,3⟩)]:=zC (by simp only[Ky,zh (yX _)];rfl)
  have hrn:∀ρ,(Z.map iC).map (Cv.ren ρ)=Z.map iC:=fun ρ=>by rw[JJ];rfl
  refine Sm.dg 200 12 ze ?_
  simp only[go_sem,w1,w2]
  refine DCallQ.ren [(1,180)] 210 hmin hZ rfl rfl ⟨⟨_,rfl,.inr ⟨rfl,[],by show Z.map iC=(Z.map iC).map (Cv.ren _)++[];rw[hrn,JB]⟩⟩,trivial⟩ rfl (.inr rfl) rfl rfl ?_
  simp only[Mem.ren,Kx,V.ren,Cv.ren]
  simp only[go_sem,w1,w2]
  refine DCallQ.ren [(1,180)] 220 hmax hZ rfl rfl ⟨⟨_,rfl,.inr ⟨rfl,[],by show Z.map iC=(Z.map iC).map (Cv.ren _)++[];rw[hrn,JB]⟩⟩,trivial⟩ rfl (.inr rfl) rfl rfl ?_
  simp only[Mem.ren,Kx,V.ren,Cv.ren]
  simp only[go_sem,w1,w2]
  exact yI (hR C hL) ClM.nil
def PG (d:Dg)(s:Str):Cu:=(d.cus.find? (fun c=>c.nm==s)).getD ⟨[],[],[]⟩
def PD (d:Dg)(s:Str):Mp:=(d.mas.find? (fun c=>c.nm==s)).getD ⟨[],[],[],[]⟩
theorem Xm (d:DgL)(s:Str):PG d.c s=((iX d.cus s).getD Xn).c:=by
 unfold PG iX DgL.c
 simp only[List.find?_map]
 have:((fun c:Cu=>c.nm==s) ∘ CuL.c)=fun c=>c.c.nm==s:=rfl
 rw[this]
 cases d.cus.find? (fun c=>c.c.nm==s)<;>rfl
theorem X6 (d:DgL)(s:Str):PD d.c s=((gE d.mas s).getD Wn).c:=by
 unfold PD gE DgL.c
 simp only[List.find?_map]
 have:((fun c:Mp=>c.nm==s) ∘ MpL.c)=fun c=>c.nm==s:=rfl
 rw[this]
 cases d.mas.find? (fun c=>c.nm==s)<;>rfl
def jB (d:Dg)(b:Bl)(rs:List (Int×Int)):Int×Int:=bif b.kd==[99,117,114,118,101]then(rH (PG d b.tb) (rs.getD 0 (0,0))).1 else(rG (PD d b.tb) (rs.getD 0 (0,0)) (rs.getD 1 (0,0))).1
def xo (d:Dg)(b:Bl)(rs:List (Int×Int)):Int×Int:=qp (jB d b rs) (bif yE (yB d.tys b.ty)then tC (yB d.tys b.ty)else 0) (bif yE (yB d.tys b.ty)then th (yB d.tys b.ty)else 0)
theorem cR {H:Hp}(d:DgL):ZH H d (xo d.c):=fun H' cp bT bC bM bS _ k b hb ht hok rs hrs=>by
 have hcu:((iX d.cus b.c.tb).getD Xn).ok H'/\((iX d.cus b.c.tb).getD Xn).c.xs.length<=1000000000000000/\((iX d.cus b.c.tb).getD Xn).c.ys.length<=1000000000000000:=by
  cases hq:iX d.cus b.c.tb with
  |none=>exact⟨⟨SlH.nil 1,SlH.nil 1⟩,yg,yg⟩
  |some c=>
   have hm:=Jw hq
   exact⟨k.o.cus c hm,(k.s.cus.2 c hm).2.1,(k.s.cus.2 c hm).2.2⟩
 have hma:((gE d.mas b.c.tb).getD Wn).ok H'/\∀v∈((gE d.mas b.c.tb).getD Wn).zs,v.2.length<=1000000000000000:=by
  cases hq:gE d.mas b.c.tb with
  |none=>exact⟨⟨SlH.nil 1,SlH.nil 1,SlH.nil 1,fun v hv=>by cases hv⟩,fun v hv=>by cases hv⟩
  |some c=>
   have hm:=Jw hq
   exact⟨k.o.mas c hm,(k.s.mas.2 c hm).2⟩
 have hty:(yB d.c.tys b.c.ty)=yB d.tys b.c.ty:=rfl
 unfold xo jB
 rw[Xm,X6,hty]
 have hlim:=dQ (yB d.tys b.c.ty)
 obtain⟨b0,o0,rfl,c0,el0,mk0,hc0,hcc⟩:=PtH.at k.c.p
 unfold jD at ht
 cases hk:b.c.kd==[99,117,114,118,101]with
 |true=>
  have hkd:b.c.kd=[99,117,114,118,101]:=by simpa using hk
  obtain⟨g1,_⟩:=xW hok hk (show yY [99,117,114,118,101]=some (1,0,1) from rfl)
  rw[g1]at hrs
  obtain⟨r0,rfl⟩:=um hrs
  have hM:ClM [(1,⟨true,zD ([r0].map yN),45⟩)]:=zC rfl
  have hov:=UW ((iX d.cus b.c.tb).getD Xn) hcu.1 hcu.2.1 hcu.2.2 r0
  rw[cond_true,show([r0]:List (Int×Int)).getD 0 (0,0)=r0 from rfl]
  simp only[zN,zT,Kv,Kx,JC,JD,JB,yN]at hM⊢
  refine kX func214 Xe ntmps214 fun C hR hP hH hL=>?_
  have hR:=hR () C hL trivial
  refine zB 100 ?_
  simp only[go_sem,hk]
  refine Sm.dgW [102] 110 15 ze (vv ?_)
  refine DOpQ.own 120 (zq rfl rfl) (vv ?_)
  refine DOpQ.own 120 (zY rfl rfl rfl) (vv ?_)
  refine zE 120 (fun _=>zW (hH _ _ hc0) (hcc 8 _ rfl) rfl rfl rfl) (vv ?_)
  refine zE 120 (fun _=>Pg (k.c.c.mono hH) rfl rfl rfl) (vv ?_)
  refine x7 130 (fun _=>hov) hH (fun _=>rfl) ?_
  generalize rH ((iX d.cus b.c.tb).getD Xn).c r0=q at*
  refine vv ?_
  refine Sm.dg 130 12 ze (vv ?_)
  refine DOpQ.own 140 (zq rfl rfl) (vv ?_)
  refine DOpQ.own 140 (zY rfl rfl rfl) (vv ?_)
  refine zE 140 (fun _=>zW (hH _ _ hc0) (hcc 7 _ rfl) rfl rfl rfl) (vv ?_)
  refine zE 140 (fun _=>wg (k.c.t.mono hH) rfl rfl rfl) (vv ?_)
  refine DCallQ.pure 150 hlim rfl ?_
  generalize (bif yE (yB d.tys b.c.ty)then tC (yB d.tys b.c.ty)else 0)=lo at*
  generalize (bif yE (yB d.tys b.c.ty)then th (yB d.tys b.c.ty)else 0)=hi at*
  refine vv ?_
  refine CallQ.pure 160 (o7 q.1 lo hi) rfl (vv ?_)
  exact yI hR hM
 |false=>
  have hk2:(b.c.kd==[109,97,112])=true:=by rw[hk]at ht;simpa using ht
  have hkd:b.c.kd=[109,97,112]:=by simpa using hk2
  obtain⟨g1,_⟩:=xW hok hk2 (show yY [109,97,112]=some (2,0,2) from rfl)
  rw[g1]at hrs
  obtain⟨r0,r1,rfl⟩:=vo hrs
  have hM:ClM [(1,⟨true,zD ([r0,r1].map yN),45⟩)]:=zC rfl
  have hov:=WJ ((gE d.mas b.c.tb).getD Wn) hma.1 hma.2 r0 r1
  rw[cond_false,show([r0,r1]:List (Int×Int)).getD 0 (0,0)=r0 from rfl,show([r0,r1]:List (Int×Int)).getD 1 (0,0)=r1 from rfl]
  simp only[zN,zT,Kv,Kx,JC,JD,JB,yN]at hM⊢
  refine kX func214 Xe ntmps214 fun C hR hP hH hL=>?_
  have hR:=hR () C hL trivial
  refine zB 100 ?_
  simp only[go_sem,hk]
  refine Sm.dgW [102] 110 18 ze (vv ?_)
  refine DOpQ.own 120 (zq rfl rfl) (vv ?_)
  refine DOpQ.own 120 (zY rfl rfl rfl) (vv ?_)
  refine zE 120 (fun _=>zW (hH _ _ hc0) (hcc 9 _ rfl) rfl rfl rfl) (vv ?_)
  refine zE 120 (fun _=>Pf (k.c.m.mono hH) rfl rfl rfl) (vv ?_)
  refine x7 130 (fun _=>hov) hH (fun _=>rfl) ?_
  generalize rG ((gE d.mas b.c.tb).getD Wn).c r0 r1=q at*
  refine vv ?_
  refine Sm.dg 130 12 ze (vv ?_)
  refine DOpQ.own 140 (zq rfl rfl) (vv ?_)
  refine DOpQ.own 140 (zY rfl rfl rfl) (vv ?_)
  refine zE 140 (fun _=>zW (hH _ _ hc0) (hcc 7 _ rfl) rfl rfl rfl) (vv ?_)
  refine zE 140 (fun _=>wg (k.c.t.mono hH) rfl rfl rfl) (vv ?_)
  refine DCallQ.pure 150 hlim rfl ?_
  generalize (bif yE (yB d.tys b.c.ty)then tC (yB d.tys b.c.ty)else 0)=lo at*
  generalize (bif yE (yB d.tys b.c.ty)then th (yB d.tys b.c.ty)else 0)=hi at*
  refine vv ?_
  refine CallQ.pure 160 (o7 q.1 lo hi) rfl (vv ?_)
  exact yI hR hM
theorem f7 {H:Hp}(a b:Sv)(l:List Str)(ha:SlH H (vsl a l.length) 1 (yH l))(hb:SlH H (vsl b l.length) 1 (yH l))(hl:l.length<=1000000000000000):CallH H Hf 66 [.c (.v (vsl a l.length)),.c (.v (vsl b l.length))] (Bo true):=by
 refine kH func66 O4 ntmps66 fun C hR hP hH hL=>?_
 refine Sm.bringS 1 9 0 (ha.mono hH) rfl rfl ?_
 refine Sm.bringS 2 9 1 (hb.mono hH) rfl rfl (zB 100 ?_)
 simp only[go_sem,bne_self_eq_false]
 refine zG (M0:=[]) (α:={i:Nat//i<=l.length}) hP (fun i=>[(0,true,.c (.sl 1 0 l.length 1)),(1,true,.c (.sl 2 0 l.length 1)),(5,true,I i.val)])
  (fun _=>[(1,⟨true,l.map sC,9⟩),(2,⟨true,l.map sC,9⟩)]) (fun i=>l.length-i.val) ⟨0,zA⟩ (fun _=>zC (by simp only[Ky,zh (y7 _)];rfl)) (fun _=>zO rfl) [(1,1),(2,2)] ?_ ?_
 ·exact z9
 rintro⟨i,hi⟩ J hj
 simp only at hj hi⊢
 refine zB 110 (vv ?_)
 refine zU (fun hc=>?_) (fun hc=>?_)
 ·have hc:=zH hc
  have gi:=xq hc
  refine Sm.dg 110 8 ze ?_
  simp only[go_sem,gi,bne_self_eq_false,yT (i:=i)]
  exact⟨⟨zA,zA⟩,⟨zA,zA⟩,hj _ _ ⟨i+1,hc⟩ [(1,1),(2,2)] yF z9⟩
 ·exact yL (hR C hL) rfl
theorem lK {H:Hp}(a b:Sv)(l:List Int)(ha:SlH H (vsl a l.length) 1 (zZ l))(hb:SlH H (vsl b l.length) 1 (zZ l))(hl:l.length<=1000000000000000):CallH H Hf 137 [.c (.v (vsl a l.length)),.c (.v (vsl b l.length))] (Bo true):=by
 refine kH func137 Rg ntmps137 fun C hR hP hH hL=>?_
 refine Sm.bringI 1 3 0 (ha.mono hH) rfl rfl ?_
 refine Sm.bringI 2 3 1 (hb.mono hH) rfl rfl (zB 100 ?_)
 simp only[go_sem,bne_self_eq_false]
 refine zG (M0:=[]) (α:={i:Nat//i<=l.length}) hP (fun i=>[(0,true,.c (.sl 1 0 l.length 1)),(1,true,.c (.sl 2 0 l.length 1)),(5,true,I i.val)])
  (fun _=>[(1,⟨true,l.map iC,3⟩),(2,⟨true,l.map iC,3⟩)]) (fun i=>l.length-i.val) ⟨0,zA⟩ (fun _=>zC (by simp only[Ky,zh (yX _)];rfl)) (fun _=>zO rfl) [(1,1),(2,2)] ?_ ?_
 ·exact z9
 rintro⟨i,hi⟩ J hj
 simp only at hj hi⊢
 refine zB 110 (vv ?_)
 refine zU (fun hc=>?_) (fun hc=>?_)
 ·have hc:=zH hc
  have gi:=xt hc
  refine Sm.dg 110 8 ze ?_
  simp only[go_sem,gi,bne_self_eq_false,yT (i:=i)]
  exact⟨⟨zA,zA⟩,⟨zA,zA⟩,hj _ _ ⟨i+1,hc⟩ [(1,1),(2,2)] yF z9⟩
 ·exact yL (hR C hL) rfl
theorem WU {H:Hp}(a b:Sv)(l:List Int)(ha:SlH H (vsl a l.length) 1 (zZ l))(hb:SlH H (vsl b l.length) 1 (zZ l))(hl:l.length<=1000000000000000):CallH H Hf 138 [.c (.v (vsl a l.length)),.c (.v (vsl b l.length))] (Bo true):=by
 refine kH func138 Rf ntmps138 fun C hR hP hH hL=>?_
 refine Sm.bringI 1 3 0 (ha.mono hH) rfl rfl ?_
 refine Sm.bringI 2 3 1 (hb.mono hH) rfl rfl (zB 100 ?_)
 simp only[go_sem,bne_self_eq_false]
 refine zG (M0:=[]) (α:={i:Nat//i<=l.length}) hP (fun i=>[(0,true,.c (.sl 1 0 l.length 1)),(1,true,.c (.sl 2 0 l.length 1)),(5,true,I i.val)])
  (fun _=>[(1,⟨true,l.map iC,3⟩),(2,⟨true,l.map iC,3⟩)]) (fun i=>l.length-i.val) ⟨0,zA⟩ (fun _=>zC (by simp only[Ky,zh (yX _)];rfl)) (fun _=>zO rfl) [(1,1),(2,2)] ?_ ?_
 ·exact z9
 rintro⟨i,hi⟩ J hj
 simp only at hj hi⊢
 refine zB 110 (vv ?_)
 refine zU (fun hc=>?_) (fun hc=>?_)
 ·have hc:=zH hc
  have gi:=xt hc
  refine Sm.dg 110 8 ze ?_
  simp only[go_sem,gi,bne_self_eq_false,yT (i:=i)]
  exact⟨⟨zA,zA⟩,⟨zA,zA⟩,hj _ _ ⟨i+1,hc⟩ [(1,1),(2,2)] yF z9⟩
 ·exact yL (hR C hL) rfl
theorem Z5 {H:Hp}(a b:CuL)(ha:a.ok H)(hb:b.ok H)(hx:a.c.xs=b.c.xs)(hy:a.c.ys=b.c.ys)(hlx:b.c.xs.length<=1000000000000000)(hly:b.c.ys.length<=1000000000000000):CallH H Hf 67 [.agg (kD a),.agg (kD b)] (Bo true):=by
 have ax:=ha.x
 have ay:=ha.y
 have hil:∀l:List Int,(zZ l).length=l.length:=fun l=>by simp[zZ]
 unfold kD
 rw[hx]at ax⊢
 rw[hy]at ay⊢
 have bx:=hb.x
 have by1:=hb.y
 generalize b.c.xs=xs at*
 generalize b.c.ys=ys at*
 refine kH func67 O3 ntmps67 fun C hR hP hH hL=>?_
 refine zB 100 ?_
 simp only[go_sem,bne_self_eq_false]
 refine Sm.bringC 1 3 100 0 (ax.mono hH) rfl rfl rfl ?_
 refine Sm.bringC 2 3 100 1 (ay.mono hH) rfl rfl rfl ?_
 refine Sm.bringC 3 3 101 0 (bx.mono hH) rfl rfl rfl ?_
 refine Sm.bringC 4 3 101 1 (by1.mono hH) rfl rfl rfl ?_
 rw[hil,hil,vG,vG]
 refine zG (M0:=[]) (α:={i:Nat//i<=xs.length}) hP (fun i=>[(2,true,.c (.p 5 0)),(3,true,.c (.p 6 0)),(5,true,I i.val)])
  (fun _=>[(1,⟨true,xs.map iC,3⟩),(2,⟨true,ys.map iC,3⟩),(3,⟨true,xs.map iC,3⟩),(4,⟨true,ys.map iC,3⟩),(5,⟨false,[.sl 1 0 xs.length 1,.sl 2 0 ys.length 1],82⟩),(6,⟨false,[.sl 3 0 xs.length 1,.sl 4 0 ys.length 1],82⟩)]) (fun i=>xs.length-i.val) ⟨0,zA⟩ (fun _=>zC (by simp only[Ky,zh (yX _)];rfl)) (fun _=>zO rfl) [(1,1),(2,2),(3,3),(4,4),(5,100),(6,101)] ?_ ?_
 ·exact z9
 rintro⟨i,hi⟩ J hj
 simp only at hj hi⊢
 refine zB 110 (vv ?_)
 refine zU (fun hc=>?_) (fun hc=>?_)
 ·have hc:=zH hc
  have gi:=xt hc
  refine Sm.dg 110 10 ze ?_
  simp only[go_sem,gi,bne_self_eq_false,yT (i:=i)]
  exact⟨⟨zA,zA⟩,⟨zA,zA⟩,hj _ _ ⟨i+1,hc⟩ [(1,1),(2,2),(3,3),(4,4),(5,5),(6,6)] yF z9⟩
 refine zG (M0:=[]) (α:={i:Nat//i<=ys.length}) hP (fun i=>[(2,true,.c (.p 5 0)),(3,true,.c (.p 6 0)),(6,true,I i.val)])
  (fun _=>[(1,⟨true,xs.map iC,3⟩),(2,⟨true,ys.map iC,3⟩),(3,⟨true,xs.map iC,3⟩),(4,⟨true,ys.map iC,3⟩),(5,⟨false,[.sl 1 0 xs.length 1,.sl 2 0 ys.length 1],82⟩),(6,⟨false,[.sl 3 0 xs.length 1,.sl 4 0 ys.length 1],82⟩)]) (fun i=>ys.length-i.val) ⟨0,zA⟩ (fun _=>zC (by simp only[Ky,zh (yX _)];rfl)) (fun _=>zO rfl) [(1,1),(2,2),(3,3),(4,4),(5,5),(6,6)] ?_ ?_
 ·exact z9
 rintro⟨j,hk⟩ J2 hj2
 simp only at hj2 hk⊢
 refine zB 110 (vv ?_)
 refine zU (fun hc=>?_) (fun hc=>?_)
 ·have hc:=zH hc
  have gi:=xt hc
  refine Sm.dg 110 10 ze ?_
  simp only[go_sem,gi,bne_self_eq_false,yT (i:=j)]
  exact⟨⟨zA,zA⟩,⟨zA,zA⟩,hj2 _ _ ⟨j+1,hc⟩ [(1,1),(2,2),(3,3),(4,4),(5,5),(6,6)] yF z9⟩
 ·exact yL (hR C hL) rfl
theorem Vj {v:Sv}{zs:List (Sv×List Int)}{i:Nat}(h:i<zs.length):(zD (zs.map zR))[i]?=some (.v (.slice zs[i].1.o zs[i].2.length zs[i].1.c)):=qR (m:=⟨[],[],[],zs,v,v,v⟩) h
theorem cf {H:Hp}(a b:MpL)(ha:a.ok H)(hb:b.ok H)(hx:a.xs=b.xs)(hy:a.ys=b.ys)(hz:a.zs.map (·.2)=b.zs.map (·.2))(hlx:b.xs.length<=1000000000000000)(hly:b.ys.length<=1000000000000000)(hlz:b.zs.length<=1000000000000000)(hlr:∀v∈b.zs,v.2.length<=1000000000000000):CallH H Hf 68 [.agg (o5 a),.agg (o5 b)] (Bo true):=by
 have ax:=ha.x
 have ay:=ha.y
 have hzl:a.zs.length=b.zs.length:=by have:=congrArg List.length hz;simpa using this
 have az:SlH H (vsl a.z b.zs.length) 1 (a.zs.map zR):=by have:=ha.z;rwa [hzl]at this
 unfold o5
 rw[hzl]
 rw[hx]at ax⊢
 rw[hy]at ay⊢
 have q1:=lK a.x b.x b.xs ax hb.x hlx
 have q2:=lK a.y b.y b.ys ay hb.y hly
 have hla:(a.zs.map zR).length=b.zs.length:=by rw[Ku];exact hzl
 have hlb:(b.zs.map zR).length=b.zs.length:=Ku _
 refine kH func68 O2 ntmps68 fun C hR hP hH hL=>?_
 refine zB 100 (vv ?_)
 refine z8 110 q1 hH rfl (vv ?_)
 refine zt 110 (fun _=>q2) hH (fun _=>rfl) ?_
 simp only[go_sem,bne_self_eq_false]
 refine Sm.bringC 1 33 100 2 (rows:=a.zs.map zR) (az.mono hH) rfl rfl rfl ?_
 refine Sm.bringC 2 33 101 2 (rows:=b.zs.map zR) (by have:=hb.z.mono hH;exact this) rfl rfl rfl ?_
 rw[hla,hlb]
 refine zG (M0:=[]) (α:={i:Nat//i<=b.zs.length}) hP (fun i=>[(2,true,.c (.p 5 0)),(3,true,.c (.p 6 0)),(5,true,I i.val)])
  (fun _=>[(1,⟨true,zD (a.zs.map zR),33⟩),(2,⟨true,zD (b.zs.map zR),33⟩),(5,⟨false,[.v (vsl a.x b.xs.length),.v (vsl a.y b.ys.length),.sl 1 0 b.zs.length 1],89⟩),(6,⟨false,[.v (vsl b.x b.xs.length),.v (vsl b.y b.ys.length),.sl 2 0 b.zs.length 1],89⟩)]) (fun i=>b.zs.length-i.val) ⟨0,zA⟩ (fun _=>cM) (fun _=>zO rfl) [(1,1),(2,2),(5,100),(6,101)] ?_ ?_
 ·exact z9
 rintro⟨i,hi⟩ J hj
 simp only at hj hi⊢
 refine zB 110 (vv ?_)
 refine zU (fun hc=>?_) (fun hc=>?_)
 ·have hc:=zH hc
  have ga:=Vj (v:=a.z) (show i<a.zs.length by omega)
  have gb:=Vj (v:=a.z) hc
  have heq:a.zs[i].2=b.zs[i].2:=by
   have h1:(a.zs.map (·.2))[i]?=(b.zs.map (·.2))[i]?:=by rw[hz]
   rw[JK,JK,Kz hc,Kz (show i<a.zs.length by omega)]at h1
   simpa using h1
  have qa:=ha.e _ (JE (show i<a.zs.length by omega))
  have qb:=hb.e _ (JE hc)
  have hlz2:=hlr _ (JE hc)
  rw[heq]at ga qa
  have q3:=lK a.zs[i].1 b.zs[i].1 b.zs[i].2 qa qb hlz2
  refine Sm.dg 110 10 ze ?_
  simp only[go_sem,ga,gb]
  refine⟨⟨zA,zA⟩,⟨zA,zA⟩,?_⟩
  refine z8 120 q3 hH rfl ?_
  simp only[go_sem,yT (i:=i)]
  exact hj _ _ ⟨i+1,hc⟩ [(1,1),(2,2),(5,5),(6,6)] yF z9
 ·exact yL (hR C hL) rfl
theorem WN {H:Hp}(a b:BlL)(ha:a.ok H)(hb:b.ok H)(h:a.c=b.c)(hl1:b.c.ins.length<=1000000000000000)(hl2:b.c.ks.length<=1000000000000000):CallH H Hf 69 [yD a.r,yD b.r] (Bo true):=by
 have ai:=ha.i
 have ak:=ha.k
 rw[h]at ai ak
 have q1:=f7 a.i b.i b.c.ins ai hb.i hl1
 have q2:=WU a.k b.k b.c.ks ak hb.k hl2
 have er:yD a.r= .agg [.v (sv b.c.nm),.v (sv b.c.kd),.v (sv b.c.ty),.v (vsl a.i b.c.ins.length),.v (sv b.c.tb),.v (vsl a.k b.c.ks.length)]:=by rw[<-h];rfl
 rw[er]
 refine kH func69 O1 ntmps69 fun C hR hP hH hL=>?_
 refine zB 100 ?_
 simp only[go_sem,beq_self_eq_true]
 refine zt 110 (fun _=>q1) hH (fun _=>rfl) (vv ?_)
 refine zt 110 (fun _=>q2) hH (fun _=>rfl) (vv ?_)
 exact yL (hR C hL) rfl
theorem vV {α:Type}{r:α->List Value}{k:Nat}(hk:∀x,(r x).length=k)(l:List α)(i j m:Nat)(h:i<l.length)(hm:j+m<=k):((zD (l.map r)).drop (i*k+j)).take m=(((r l[i]).drop j).take m).map Cv.v:=by
 have h1:=z6 hk l i h
 have e:((zD (l.map r)).drop (i*k+j)).take m=((((zD (l.map r)).drop (i*k)).take k).drop j).take m:=by rw[List.drop_take,List.take_take,Nat.min_eq_left zA,HQ]
 rw[e,h1,Jz,HE]
theorem zy {α:Type}{r:α->List Value}{k:Nat}(hk:∀x,(r x).length=k)(l:List α)(i j:Nat)(h:i<l.length)(hj:j<k):(zD (l.map r))[i*k+j]?=((r l[i])[j]?).map Cv.v:=by
 have h1:=z6 hk l i h
 have:(zD (l.map r))[i*k+j]?=(((zD (l.map r)).drop (i*k)).take k)[j]?:=by rw[List.getElem?_take_of_lt hj,HN]
 rw[this,h1,JK]
theorem gD {α β:Type}{f:α->β}{l m:List α}(h:l.map f=m.map f)(i:Nat)(hi:i<l.length)(hm:i<m.length):f l[i]=f m[i]:=by
 have h1:(l.map f)[i]?=(m.map f)[i]?:=by rw[h]
 rw[JK,JK,Kz hi,Kz hm]at h1
 simpa using h1
theorem XS {H:Hp}(a b:DgL)(ha:a.ok H)(hb:b.ok H)(h:a.c=b.c)(hs:b.sm)(hm:∀m∈b.mas,m.xs.length<=1000000000000000/\m.ys.length<=1000000000000000/\m.zs.length<=1000000000000000):CallH H Hf 20 [yD a.r,yD b.r] (Bo true):=by
 unfold DgL.c at h
 injection h with hnm htys hcus hmas hins hbls hous
 have lc:a.cus.length=b.cus.length:=by have:=congrArg List.length hcus;simpa using this
 have lm:a.mas.length=b.mas.length:=by have:=congrArg List.length hmas;simpa using this
 have lb:a.bls.length=b.bls.length:=by have:=congrArg List.length hbls;simpa using this
 have lt:a.tys.length=b.tys.length:=by rw[htys]
 have li:a.ins.length=b.ins.length:=by rw[hins]
 have er:yD a.r= .agg [.v (sv b.nm),.v (vsl a.ty b.tys.length),.v (vsl a.cu b.cus.length),.v (vsl a.ma b.mas.length),.v (vsl a.i b.ins.length),.v (vsl a.bl b.bls.length),.v (vsl a.ou b.ous.length)]:=by rw[<-hnm,<-lt,<-lc,<-lm,<-li,<-lb,<-hous];rfl
 have er2:yD b.r= .agg [.v (sv b.nm),.v (vsl b.ty b.tys.length),.v (vsl b.cu b.cus.length),.v (vsl b.ma b.mas.length),.v (vsl b.i b.ins.length),.v (vsl b.bl b.bls.length),.v (vsl b.ou b.ous.length)]:=rfl
 rw[er,er2]
 have k_tys:SlH H (vsl a.ty b.tys.length) 11 (a.tys.map Td.r):=by have:=ha.ty;rwa [lt]at this
 have m_tys:(a.tys.map Td.r).length=b.tys.length:=by rw[Ku];exact lt
 have n_tys:(b.tys.map Td.r).length=b.tys.length:=Ku _
 have ya_tys:=zP (r:=Td.r) (k:=11) (fun _=>rfl) a.tys
 have yb_tys:=zP (r:=Td.r) (k:=11) (fun _=>rfl) b.tys
 have k_cus:SlH H (vsl a.cu b.cus.length) 3 (a.cus.map CuL.r):=by have:=ha.cu;rwa [lc]at this
 have m_cus:(a.cus.map CuL.r).length=b.cus.length:=by rw[Ku];exact lc
 have n_cus:(b.cus.map CuL.r).length=b.cus.length:=Ku _
 have ya_cus:=zP (r:=CuL.r) (k:=3) (fun _=>rfl) a.cus
 have yb_cus:=zP (r:=CuL.r) (k:=3) (fun _=>rfl) b.cus
 have k_mas:SlH H (vsl a.ma b.mas.length) 4 (a.mas.map MpL.r):=by have:=ha.ma;rwa [lm]at this
 have m_mas:(a.mas.map MpL.r).length=b.mas.length:=by rw[Ku];exact lm
 have n_mas:(b.mas.map MpL.r).length=b.mas.length:=Ku _
 have ya_mas:=zP (r:=MpL.r) (k:=4) (fun _=>rfl) a.mas
 have yb_mas:=zP (r:=MpL.r) (k:=4) (fun _=>rfl) b.mas
 have k_ins:SlH H (vsl a.i b.ins.length) 4 (a.ins.map Po.r):=by have:=ha.i;rwa [li]at this
 have m_ins:(a.ins.map Po.r).length=b.ins.length:=by rw[Ku];exact li
 have n_ins:(b.ins.map Po.r).length=b.ins.length:=Ku _
 have ya_ins:=zP (r:=Po.r) (k:=4) (fun _=>rfl) a.ins
 have yb_ins:=zP (r:=Po.r) (k:=4) (fun _=>rfl) b.ins
 have k_bls:SlH H (vsl a.bl b.bls.length) 6 (a.bls.map BlL.r):=by have:=ha.bl;rwa [lb]at this
 have m_bls:(a.bls.map BlL.r).length=b.bls.length:=by rw[Ku];exact lb
 have n_bls:(b.bls.map BlL.r).length=b.bls.length:=Ku _
 have ya_bls:=zP (r:=BlL.r) (k:=6) (fun _=>rfl) a.bls
 have yb_bls:=zP (r:=BlL.r) (k:=6) (fun _=>rfl) b.bls
 have hou:SlH H (vsl a.ou b.ous.length) 1 (yH b.ous):=by have:=ha.ou;rwa [hous]at this
 have q0:=f7 a.ou b.ou b.ous hou hb.ou hs.ous.1
 refine kH func20 Sh ntmps20 fun C hR hP hH hL=>?_
 refine zB 100 ?_
 simp only[go_sem,bne_self_eq_false]
 refine zt 110 (fun _=>q0) hH (fun _=>rfl) (vv ?_)
 refine Sm.bringC 1 78 100 1 (k_tys.mono hH) rfl rfl rfl ?_
 refine Sm.bringC 2 84 100 2 (k_cus.mono hH) rfl rfl rfl ?_
 refine Sm.bringC 3 91 100 3 (k_mas.mono hH) rfl rfl rfl ?_
 refine Sm.bringC 4 51 100 4 (k_ins.mono hH) rfl rfl rfl ?_
 refine Sm.bringC 5 53 100 5 (k_bls.mono hH) rfl rfl rfl ?_
 refine Sm.bringC 6 78 101 1 (hb.ty.mono hH) rfl rfl rfl ?_
 refine Sm.bringC 7 84 101 2 (hb.cu.mono hH) rfl rfl rfl ?_
 refine Sm.bringC 8 91 101 3 (hb.ma.mono hH) rfl rfl rfl ?_
 refine Sm.bringC 9 51 101 4 (hb.i.mono hH) rfl rfl rfl ?_
 refine Sm.bringC 10 53 101 5 (hb.bl.mono hH) rfl rfl rfl ?_
 rw[m_tys,m_cus,m_mas,m_ins,m_bls,n_tys,n_cus,n_mas,n_ins,n_bls]
 refine zG (M0:=[]) (α:={i:Nat//i<=b.tys.length}) hP (fun i=>[(2,true,.c (.p 11 0)),(3,true,.c (.p 12 0)),(5,true,I i.val)])
  (fun _=>[(1,⟨true,zD (a.tys.map Td.r),78⟩),(2,⟨true,zD (a.cus.map CuL.r),84⟩),(3,⟨true,zD (a.mas.map MpL.r),91⟩),(4,⟨true,zD (a.ins.map Po.r),51⟩),(5,⟨true,zD (a.bls.map BlL.r),53⟩),(6,⟨true,zD (b.tys.map Td.r),78⟩),(7,⟨true,zD (b.cus.map CuL.r),84⟩),(8,⟨true,zD (b.mas.map MpL.r),91⟩),(9,⟨true,zD (b.ins.map Po.r),51⟩),(10,⟨true,zD (b.bls.map BlL.r),53⟩),(11,⟨false,[.v (sv b.nm),.sl 1 0 b.tys.length 11,.sl 2 0 b.cus.length 3,.sl 3 0 b.mas.length 4,.sl 4 0 b.ins.length 4,.sl 5 0 b.bls.length 6,.v (vsl a.ou b.ous.length)],29⟩),(12,⟨false,[.v (sv b.nm),.sl 6 0 b.tys.length 11,.sl 7 0 b.cus.length 3,.sl 8 0 b.mas.length 4,.sl 9 0 b.ins.length 4,.sl 10 0 b.bls.length 6,.v (vsl b.ou b.ous.length)],29⟩)]) (fun i=>b.tys.length-i.val) ⟨0,zA⟩ (fun _=>cM) (fun _=>zO rfl) [(1,1),(2,2),(3,3),(4,4),(5,5),(6,6),(7,7),(8,8),(9,9),(10,10),(11,100),(12,101)] ?_ ?_
 ·exact z9
 rintro⟨i0,hi0⟩ J0 hj0
 simp only at hj0 hi0⊢
 refine zB 110 (vv ?_)
 refine zU (fun hc=>?_) (fun hc=>?_)
 ·have hc:=zH hc
  have hca:i0<a.tys.length:=zA
  have ga:=z6 (r:=Td.r) (k:=11) (fun _=>rfl) a.tys i0 hca
  have gb:=z6 (r:=Td.r) (k:=11) (fun _=>rfl) b.tys i0 hc
  have he:a.tys[i0]=b.tys[i0]:=by simp only[htys]
  rw[he]at ga
  generalize b.tys[i0]=x at*
  refine Sm.dg 110 10 ze ?_
  simp only[go_sem,ga,gb,ya_tys,yb_tys,bne_self_eq_false,beq_self_eq_true,wS (show i0<=1000000000000000000 by have:=hs.tys.1;omega)]
  refine⟨⟨zA,zA⟩,zA,⟨zA,zA⟩,zA,?_⟩
  exact hj0 _ _ ⟨i0+1,hc⟩ [(1,1),(2,2),(3,3),(4,4),(5,5),(6,6),(7,7),(8,8),(9,9),(10,10),(11,11),(12,12)] yF z9
 refine zG (M0:=[]) (α:={i:Nat//i<=b.cus.length}) hP (fun i=>[(2,true,.c (.p 11 0)),(3,true,.c (.p 12 0)),(6,true,I i.val)])
  (fun _=>[(1,⟨true,zD (a.tys.map Td.r),78⟩),(2,⟨true,zD (a.cus.map CuL.r),84⟩),(3,⟨true,zD (a.mas.map MpL.r),91⟩),(4,⟨true,zD (a.ins.map Po.r),51⟩),(5,⟨true,zD (a.bls.map BlL.r),53⟩),(6,⟨true,zD (b.tys.map Td.r),78⟩),(7,⟨true,zD (b.cus.map CuL.r),84⟩),(8,⟨true,zD (b.mas.map MpL.r),91⟩),(9,⟨true,zD (b.ins.map Po.r),51⟩),(10,⟨true,zD (b.bls.map BlL.r),53⟩),(11,⟨false,[.v (sv b.nm),.sl 1 0 b.tys.length 11,.sl 2 0 b.cus.length 3,.sl 3 0 b.mas.length 4,.sl 4 0 b.ins.length 4,.sl 5 0 b.bls.length 6,.v (vsl a.ou b.ous.length)],29⟩),(12,⟨false,[.v (sv b.nm),.sl 6 0 b.tys.length 11,.sl 7 0 b.cus.length 3,.sl 8 0 b.mas.length 4,.sl 9 0 b.ins.length 4,.sl 10 0 b.bls.length 6,.v (vsl b.ou b.ous.length)],29⟩)]) (fun i=>b.cus.length-i.val) ⟨0,zA⟩ (fun _=>cM) (fun _=>zO rfl) [(1,1),(2,2),(3,3),(4,4),(5,5),(6,6),(7,7),(8,8),(9,9),(10,10),(11,11),(12,12)] ?_ ?_
 ·exact z9
 rintro⟨i1,hi1⟩ J1 hj1
 simp only at hj1 hi1⊢
 refine zB 110 (vv ?_)
 refine zU (fun hc=>?_) (fun hc=>?_)
 ·have hc:=zH hc
  have hca:i1<a.cus.length:=zA
  have he:=gD hcus i1 hca hc
  have ga:=zy (r:=CuL.r) (k:=3) (fun _=>rfl) a.cus i1 0 hca zA
  have gb:=zy (r:=CuL.r) (k:=3) (fun _=>rfl) b.cus i1 0 hc zA
  have fa:=vV (r:=CuL.r) (k:=3) (fun _=>rfl) a.cus i1 1 2 hca zA
  have fb:=vV (r:=CuL.r) (k:=3) (fun _=>rfl) b.cus i1 1 2 hc zA
  have oka:=ha.cus _ (JE hca)
  have okb:=hb.cus _ (JE hc)
  have sm:=hs.cus.2 _ (JE hc)
  generalize a.cus[i1]=x at*
  generalize b.cus[i1]=y at*
  have hn:x.c.nm=y.c.nm:=congrArg Cu.nm he
  have hx:x.c.xs=y.c.xs:=congrArg Cu.xs he
  have hy:x.c.ys=y.c.ys:=congrArg Cu.ys he
  have q:=Z5 x y oka okb hx hy sm.2.1 sm.2.2
  have gx:(CuL.r x)[0]?=some (sv y.c.nm):=by rw[<-hn];rfl
  have gy:(CuL.r y)[0]?=some (sv y.c.nm):=rfl
  rw[gx,JM]at ga
  rw[gy,JM]at gb
  have e1:((CuL.r x).drop 1).take 2=[vsl x.x x.c.xs.length,vsl x.y x.c.ys.length]:=rfl
  have e2:((CuL.r y).drop 1).take 2=[vsl y.x y.c.xs.length,vsl y.y y.c.ys.length]:=rfl
  rw[e1]at fa
  rw[e2]at fb
  rw[JV]at ga gb
  refine Sm.dg 110 26 ze ?_
  simp only[go_sem,ga,gb,fa,fb,ya_cus,yb_cus,bne_self_eq_false,beq_self_eq_true]
  refine⟨⟨zA,zA⟩,⟨zA,zA⟩,⟨zA,zA⟩,zA,⟨zA,zA⟩,zA,?_⟩
  refine zt 120 (fun _=>q) hH (fun _=>rfl) ?_
  simp only[go_sem,wS (show i1<=1000000000000000000 by have:=hs.cus.1;omega)]
  exact hj1 _ _ ⟨i1+1,hc⟩ [(1,1),(2,2),(3,3),(4,4),(5,5),(6,6),(7,7),(8,8),(9,9),(10,10),(11,11),(12,12)] yF z9
 refine zG (M0:=[]) (α:={i:Nat//i<=b.mas.length}) hP (fun i=>[(2,true,.c (.p 11 0)),(3,true,.c (.p 12 0)),(7,true,I i.val)])
  (fun _=>[(1,⟨true,zD (a.tys.map Td.r),78⟩),(2,⟨true,zD (a.cus.map CuL.r),84⟩),(3,⟨true,zD (a.mas.map MpL.r),91⟩),(4,⟨true,zD (a.ins.map Po.r),51⟩),(5,⟨true,zD (a.bls.map BlL.r),53⟩),(6,⟨true,zD (b.tys.map Td.r),78⟩),(7,⟨true,zD (b.cus.map CuL.r),84⟩),(8,⟨true,zD (b.mas.map MpL.r),91⟩),(9,⟨true,zD (b.ins.map Po.r),51⟩),(10,⟨true,zD (b.bls.map BlL.r),53⟩),(11,⟨false,[.v (sv b.nm),.sl 1 0 b.tys.length 11,.sl 2 0 b.cus.length 3,.sl 3 0 b.mas.length 4,.sl 4 0 b.ins.length 4,.sl 5 0 b.bls.length 6,.v (vsl a.ou b.ous.length)],29⟩),(12,⟨false,[.v (sv b.nm),.sl 6 0 b.tys.length 11,.sl 7 0 b.cus.length 3,.sl 8 0 b.mas.length 4,.sl 9 0 b.ins.length 4,.sl 10 0 b.bls.length 6,.v (vsl b.ou b.ous.length)],29⟩)]) (fun i=>b.mas.length-i.val) ⟨0,zA⟩ (fun _=>cM) (fun _=>zO rfl) [(1,1),(2,2),(3,3),(4,4),(5,5),(6,6),(7,7),(8,8),(9,9),(10,10),(11,11),(12,12)] ?_ ?_
 ·exact z9
 rintro⟨i2,hi2⟩ J2 hj2
 simp only at hj2 hi2⊢
 refine zB 110 (vv ?_)
 refine zU (fun hc=>?_) (fun hc=>?_)
 ·have hc:=zH hc
  have hca:i2<a.mas.length:=zA
  have he:=gD hmas i2 hca hc
  have ga:=zy (r:=MpL.r) (k:=4) (fun _=>rfl) a.mas i2 0 hca zA
  have gb:=zy (r:=MpL.r) (k:=4) (fun _=>rfl) b.mas i2 0 hc zA
  have fa:=vV (r:=MpL.r) (k:=4) (fun _=>rfl) a.mas i2 1 3 hca zA
  have fb:=vV (r:=MpL.r) (k:=4) (fun _=>rfl) b.mas i2 1 3 hc zA
  have oka:=ha.mas _ (JE hca)
  have okb:=hb.mas _ (JE hc)
  have sm:=hs.mas.2 _ (JE hc)
  have hmy:=hm _ (JE hc)
  generalize a.mas[i2]=x at*
  generalize b.mas[i2]=y at*
  have hn:x.nm=y.nm:=congrArg Mp.nm he
  have hx:x.xs=y.xs:=congrArg Mp.xs he
  have hy:x.ys=y.ys:=congrArg Mp.ys he
  have hz:x.zs.map (·.2)=y.zs.map (·.2):=congrArg Mp.zs he
  have q:=cf x y oka okb hx hy hz hmy.1 hmy.2.1 hmy.2.2 sm.2
  have gx:(MpL.r x)[0]?=some (sv y.nm):=by rw[<-hn];rfl
  have gy:(MpL.r y)[0]?=some (sv y.nm):=rfl
  rw[gx,JM]at ga
  rw[gy,JM]at gb
  have e1:((MpL.r x).drop 1).take 3=[vsl x.x x.xs.length,vsl x.y x.ys.length,vsl x.z x.zs.length]:=rfl
  have e2:((MpL.r y).drop 1).take 3=[vsl y.x y.xs.length,vsl y.y y.ys.length,vsl y.z y.zs.length]:=rfl
  rw[e1]at fa
  rw[e2]at fb
  rw[JV]at ga gb
  refine Sm.dg 110 26 ze ?_
  simp only[go_sem,ga,gb,fa,fb,ya_mas,yb_mas,bne_self_eq_false,beq_self_eq_true]
  refine⟨⟨zA,zA⟩,⟨zA,zA⟩,⟨zA,zA⟩,zA,⟨zA,zA⟩,zA,?_⟩
  refine zt 120 (fun _=>q) hH (fun _=>rfl) ?_
  simp only[go_sem,wS (show i2<=1000000000000000000 by have:=hs.mas.1;omega)]
  exact hj2 _ _ ⟨i2+1,hc⟩ [(1,1),(2,2),(3,3),(4,4),(5,5),(6,6),(7,7),(8,8),(9,9),(10,10),(11,11),(12,12)] yF z9
 refine zG (M0:=[]) (α:={i:Nat//i<=b.ins.length}) hP (fun i=>[(2,true,.c (.p 11 0)),(3,true,.c (.p 12 0)),(8,true,I i.val)])
  (fun _=>[(1,⟨true,zD (a.tys.map Td.r),78⟩),(2,⟨true,zD (a.cus.map CuL.r),84⟩),(3,⟨true,zD (a.mas.map MpL.r),91⟩),(4,⟨true,zD (a.ins.map Po.r),51⟩),(5,⟨true,zD (a.bls.map BlL.r),53⟩),(6,⟨true,zD (b.tys.map Td.r),78⟩),(7,⟨true,zD (b.cus.map CuL.r),84⟩),(8,⟨true,zD (b.mas.map MpL.r),91⟩),(9,⟨true,zD (b.ins.map Po.r),51⟩),(10,⟨true,zD (b.bls.map BlL.r),53⟩),(11,⟨false,[.v (sv b.nm),.sl 1 0 b.tys.length 11,.sl 2 0 b.cus.length 3,.sl 3 0 b.mas.length 4,.sl 4 0 b.ins.length 4,.sl 5 0 b.bls.length 6,.v (vsl a.ou b.ous.length)],29⟩),(12,⟨false,[.v (sv b.nm),.sl 6 0 b.tys.length 11,.sl 7 0 b.cus.length 3,.sl 8 0 b.mas.length 4,.sl 9 0 b.ins.length 4,.sl 10 0 b.bls.length 6,.v (vsl b.ou b.ous.length)],29⟩)]) (fun i=>b.ins.length-i.val) ⟨0,zA⟩ (fun _=>cM) (fun _=>zO rfl) [(1,1),(2,2),(3,3),(4,4),(5,5),(6,6),(7,7),(8,8),(9,9),(10,10),(11,11),(12,12)] ?_ ?_
 ·exact z9
 rintro⟨i3,hi3⟩ J3 hj3
 simp only at hj3 hi3⊢
 refine zB 110 (vv ?_)
 refine zU (fun hc=>?_) (fun hc=>?_)
 ·have hc:=zH hc
  have hca:i3<a.ins.length:=zA
  have ga:=z6 (r:=Po.r) (k:=4) (fun _=>rfl) a.ins i3 hca
  have gb:=z6 (r:=Po.r) (k:=4) (fun _=>rfl) b.ins i3 hc
  have he:a.ins[i3]=b.ins[i3]:=by simp only[hins]
  rw[he]at ga
  generalize b.ins[i3]=x at*
  refine Sm.dg 110 10 ze ?_
  simp only[go_sem,ga,gb,ya_ins,yb_ins,bne_self_eq_false,beq_self_eq_true,wS (show i3<=1000000000000000000 by have:=hs.ins.1;omega)]
  refine⟨⟨zA,zA⟩,zA,⟨zA,zA⟩,zA,?_⟩
  exact hj3 _ _ ⟨i3+1,hc⟩ [(1,1),(2,2),(3,3),(4,4),(5,5),(6,6),(7,7),(8,8),(9,9),(10,10),(11,11),(12,12)] yF z9
 refine zG (M0:=[]) (α:={i:Nat//i<=b.bls.length}) hP (fun i=>[(2,true,.c (.p 11 0)),(3,true,.c (.p 12 0)),(9,true,I i.val)])
  (fun _=>[(1,⟨true,zD (a.tys.map Td.r),78⟩),(2,⟨true,zD (a.cus.map CuL.r),84⟩),(3,⟨true,zD (a.mas.map MpL.r),91⟩),(4,⟨true,zD (a.ins.map Po.r),51⟩),(5,⟨true,zD (a.bls.map BlL.r),53⟩),(6,⟨true,zD (b.tys.map Td.r),78⟩),(7,⟨true,zD (b.cus.map CuL.r),84⟩),(8,⟨true,zD (b.mas.map MpL.r),91⟩),(9,⟨true,zD (b.ins.map Po.r),51⟩),(10,⟨true,zD (b.bls.map BlL.r),53⟩),(11,⟨false,[.v (sv b.nm),.sl 1 0 b.tys.length 11,.sl 2 0 b.cus.length 3,.sl 3 0 b.mas.length 4,.sl 4 0 b.ins.length 4,.sl 5 0 b.bls.length 6,.v (vsl a.ou b.ous.length)],29⟩),(12,⟨false,[.v (sv b.nm),.sl 6 0 b.tys.length 11,.sl 7 0 b.cus.length 3,.sl 8 0 b.mas.length 4,.sl 9 0 b.ins.length 4,.sl 10 0 b.bls.length 6,.v (vsl b.ou b.ous.length)],29⟩)]) (fun i=>b.bls.length-i.val) ⟨0,zA⟩ (fun _=>cM) (fun _=>zO rfl) [(1,1),(2,2),(3,3),(4,4),(5,5),(6,6),(7,7),(8,8),(9,9),(10,10),(11,11),(12,12)] ?_ ?_
 ·exact z9
 rintro⟨i4,hi4⟩ J4 hj4
 simp only at hj4 hi4⊢
 refine zB 110 (vv ?_)
 refine zU (fun hc=>?_) (fun hc=>?_)
 ·have hc:=zH hc
  have hca:i4<a.bls.length:=zA
  have he:=gD hbls i4 hca hc
  have ga:=z6 (r:=BlL.r) (k:=6) (fun _=>rfl) a.bls i4 hca
  have gb:=z6 (r:=BlL.r) (k:=6) (fun _=>rfl) b.bls i4 hc
  have q:=WN _ _ (ha.bls _ (JE hca)) (hb.bls _ (JE hc)) he (hs.bls.2 _ (JE hc)).2.2.2.1 (hs.bls.2 _ (JE hc)).2.2.2.2.1
  generalize a.bls[i4]=x at*
  generalize b.bls[i4]=y at*
  refine Sm.dg 110 10 ze ?_
  simp only[go_sem,ga,gb,ya_bls,yb_bls,bne_self_eq_false]
  refine⟨⟨zA,zA⟩,zA,⟨zA,zA⟩,zA,?_⟩
  refine z8 120 q hH rfl ?_
  simp only[go_sem,wS (show i4<=1000000000000000000 by have:=hs.bls.1;omega)]
  exact hj4 _ _ ⟨i4+1,hc⟩ [(1,1),(2,2),(3,3),(4,4),(5,5),(6,6),(7,7),(8,8),(9,9),(10,10),(11,11),(12,12)] yF z9
 exact yL (hR C hL) rfl
end Go.Proofs.YtkciabfilokfiaaGreat.Fx
