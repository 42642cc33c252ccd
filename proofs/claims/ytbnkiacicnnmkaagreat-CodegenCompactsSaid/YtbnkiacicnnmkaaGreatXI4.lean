/-  -/
import Derived.Test.YtbnkiacicnnmkaaGreatRL
import Derived.Laws.CopyRow
import Derived.Lib.Bytealg
open Go.Proofs.Tryz
open Go.Proofs.Tryz renaming prog→HT
set_option linter.unusedSimpArgs false
set_option linter.unusedVariables false
set_option maxRecDepth 100000
set_option maxHeartbeats 4000000
namespace Go.Proofs.YtbnkiacicnnmkaaGreat.Fx
open Vg Tf
theorem Zf {m:Mp}(k:MaOk m)(x y:Int):nb (kQ m x y):=by
 obtain⟨_,_,x3,x4,x5⟩:=qv k.x2 k.xi x
 obtain⟨_,_,y3,y4,y5⟩:=qv k.y2 k.yi y
 exact dQ y4 y5 (wl m.ys k.yi _ y3) (gM k x3 zA x4 x5) (gM k x3 y3 x4 x5)
def ke (m:Mp)(x:Int):List Int->Int×Int->Int×Int
 |[],q=>q
 |y::l,q=>ke m x l (oM q (kQ m x y))
def nR (m:Mp)(ys:List Int):List Int->Int×Int->Int×Int
 |[],q=>q
 |x::l,q=>nR m ys l (ke m x ys q)
def rQ (m:Mp):List Int:=m.zs.flatten
def g8 (m:Mp)(r s:Int×Int):Int×Int:=nR m (rF m.ys s) (rF m.xs r) (kQ m r.1 s.1,kQ m r.1 s.1)
def ka (m:Mp)(r s:Int×Int):(Int×Int)×Int:=
 bif (bif (bif !xM m.xs m.ys m.zs then true else decide (r.2<r.1))then true else decide (s.2<s.1))then((0,0),1)
 else((max ((g8 m r s).1-1) (Zs ((rQ m).getD 0 0) ((rQ m).drop 1)),min ((g8 m r s).2+1) (jG ((rQ m).getD 0 0) ((rQ m).drop 1))),0)
theorem ju {m:Mp}(k:MaOk m)(x:Int):∀(l:List Int) {q:Int×Int},nb q.1->nb q.2->nb (ke m x l q).1/\nb (ke m x l q).2
 |[],_,h1,h2=>⟨h1,h2⟩
 |y::l,q,h1,h2=>by
  have:=Zf k x y
  unfold nb at h1 h2 this
  exact ju k x l (by unfold oM nb;simp only;omega) (by unfold oM nb;simp only;omega)
theorem jv {m:Mp}(k:MaOk m)(ys:List Int):∀(l:List Int) {q:Int×Int},nb q.1->nb q.2->nb (nR m ys l q).1/\nb (nR m ys l q).2
 |[],_,h1,h2=>⟨h1,h2⟩
 |x::l,q,h1,h2=>by
  obtain⟨a,b⟩:=ju k x ys h1 h2
  exact jv k ys l a b
theorem MaOk.all (m:Mp)(k:MaOk m):0<(rQ m).length/\(rQ m).length<=1024:=by
 have hlen:∀l:List (List Int),(∀z∈l,z.length=m.ys.length)->l.flatten.length=l.length*m.ys.length:=by
  intro l
  induction l with
  |nil=>intro _;simp
  |cons a l ih=>intro h;rw[List.flatten_cons,JM,h a z9,ih fun z hz=>h z (by simp[hz]),JQ,Iz,Nat.add_comm]
 have h1:=hlen m.zs (fun z hz=>by
  obtain⟨i,hi,rfl⟩:=List.getElem_of_mem hz
  have:=k.zr i hi
  rwa [Kx,JA hi]at this)
 have h2:=k.x2
 have h3:=k.y2
 have h4:=k.x3
 have h5:=k.y3
 unfold rQ
 rw[h1,k.zl]
 have h6:2*2<=m.xs.length*m.ys.length:=Nat.mul_le_mul h2 h3
 have h7:m.xs.length*m.ys.length<=32*32:=Nat.mul_le_mul h4 h5
 omega
theorem iO (l:List Int)(r:Int×Int):(rF l r).length<=l.length+2:=by
 unfold rF
 rw[JQ,JQ]
 have:=List.length_filter_le (fun x=>decide (r.1<x)&&decide (x<r.2)) l
 omega
theorem Yo {H:Hp}(m:MpL)(hm:m.ok H)(hl:∀v∈m.zs,v.2.length<=1000000000000000)(r s:Int×Int):CallH H HT 281 [.agg (kJ m),rA r,rA s] (rE (ka m.c r s)):=by
 have hval:=qM m hm hl
 refine kH func281 Ug ntmps281 fun C hR hP hH hL=>?_
 refine zB 100 (vv ?_)
 refine zM 110 hval hH rfl (vv ?_)
 refine zV (fun h0=>?_) (fun h0=>?_)
 ·have hq:ka m.c r s=((0,0),1):=by unfold ka;rw[show xM m.c.xs m.c.ys m.c.zs=xM m.xs m.ys (m.zs.map (·.2)) from rfl,h0];rfl
  rw[hq]at hR
  exact yN (hR C hL) ClM.nil
 have hok:xM m.c.xs m.c.ys m.c.zs=true:=by
  show xM m.xs m.ys (m.zs.map (·.2))=true
  cases hk:xM m.xs m.ys (m.zs.map (·.2))with
  |true=>rfl
  |false=>rw[hk]at h0;cases h0
 have k:=gQ hok
 have hq:ka m.c r s=((max ((g8 m.c r s).1-1) (Zs ((rQ m.c).getD 0 0) ((rQ m.c).drop 1)),min ((g8 m.c r s).2+1) (jG ((rQ m.c).getD 0 0) ((rQ m.c).drop 1))),0):=by unfold ka;rw[show xM m.c.xs m.c.ys m.c.zs=xM m.xs m.ys (m.zs.map (·.2)) from rfl,h0];rfl
 rw[hq]at hR
 have kx3:m.xs.length<=32:=k.x3
 have ky3:m.ys.length<=32:=k.y3
 obtain⟨kz0,kz1⟩:=MaOk.all m.c k
 have hat:∀x y,CallH H HT 169 [.agg (kJ m),I x,I y] (I (kQ m.c x y)):=fun x y=>Qg m hm k x y
 have hn0:=Zf k r.1 s.1
 have hnR:=jv k (rF m.ys s) (rF m.xs r) (q:=(kQ m.c r.1 s.1,kQ m.c r.1 s.1)) hn0 hn0
 have hRR:nR m.c (rF m.ys s) (rF m.xs r) (kQ m.c r.1 s.1,kQ m.c r.1 s.1)=g8 m.c r s:=rfl
 rw[hRR]at hnR
 have lx:=iO m.xs r
 have ly:=iO m.ys s
 generalize g8 m.c r s=R at*
 refine zM 110 (hat r.1 s.1) hH rfl (vv ?_)
 generalize kQ m.c r.1 s.1=v0 at*
 refine CallQ.hr [(1,130)] 140 (iS m.x m.xs hm.x zA r) hH ClM.nil rfl rfl trivial rfl (.inl rfl) ?_
 simp only[Mem.ren,Ky,Kz,yD (zq _),V.ren,Cv.ren,rn,Nat.reduceBEq,cond_true,cond_false]
 refine vv ?_
 generalize hX:rF m.xs r=X at*
 generalize hY:rF m.ys s=Y at*
 refine zK (M0:=[]) (α:={z:Nat×(Int×Int)//z.1<=X.length/\nR m.c Y (X.drop z.1) z.2=R}) hP (fun z=>[(3,true,.c (.p 3 0)),(4,true,.c (.p 4 0)),(5,true,.c (.p 5 0)),(6,true,.c (.p 6 0)),(9,true,.c (.p 9 0)),(46,true,.c (.sl 1 0 X.length 1)),(47,true,I X.length),(48,true,I z.val.1)])
  (fun z=>[(1,⟨false,X.map iC,3⟩),(9,⟨false,rC z.val.2,129⟩),(6,⟨false,rC (0,0),129⟩),(5,⟨false,rC s,129⟩),(4,⟨false,rC r,129⟩),(3,⟨false,kJ m,82⟩)]) (fun z=>X.length-z.val.1) ⟨(0,(v0,v0)),z9,hRR⟩ (fun _=>zD (by simp only[Kw,z6 (zq _)];rfl)) (fun _=>zO rfl) [(1,130),(9,110),(6,103),(5,102),(4,101),(3,100)] ?_ ?_
 ·exact zh
 rintro⟨⟨i,q⟩,hi,hx⟩ J hj
 simp only at hj hi hx⊢
 refine zB 150 (vv ?_)
 refine zV (fun hc=>?_) (fun hc=>?_)
 ·have hc:=zH hc
  have hdz:X.drop i=X.getD i 0::X.drop (i+1):=by
   rw[JC hc,Kx,JA hc];rfl
  rw[hdz,nR]at hx
  have gx:=yY hc
  generalize X.getD i 0=x at*
  simp only[go_sem,gx]
  refine⟨⟨zA,zA⟩,?_⟩
  refine CallQ.hr [(1,160)] 170 (iS m.y m.ys hm.y zA s) hH ClM.nil rfl rfl trivial rfl (.inl rfl) ?_
  rw[hY]
  simp only[Mem.ren,Ky,Kz,yD (zq _),V.ren,Cv.ren,rn,Nat.reduceBEq,cond_true,cond_false]
  refine vv ?_
  refine zK (M0:=[]) (α:={z:Nat×(Int×Int)//z.1<=Y.length/\nR m.c Y (X.drop (i+1)) (ke m.c x (Y.drop z.1) z.2)=R}) hP (fun z=>[(3,true,.c (.p 3 0)),(4,true,.c (.p 4 0)),(5,true,.c (.p 5 0)),(6,true,.c (.p 6 0)),(9,true,.c (.p 9 0)),(46,true,.c (.sl 1 0 X.length 1)),(47,true,I X.length),(48,true,I i),(11,true,I x),(55,true,.c (.sl 2 0 Y.length 1)),(56,true,I Y.length),(57,true,I z.val.1)])
   (fun z=>[(1,⟨false,X.map iC,3⟩),(2,⟨false,Y.map iC,3⟩),(9,⟨false,rC z.val.2,129⟩),(6,⟨false,rC (0,0),129⟩),(5,⟨false,rC s,129⟩),(4,⟨false,rC r,129⟩),(3,⟨false,kJ m,82⟩)]) (fun z=>Y.length-z.val.1) ⟨(0,q),z9,hx⟩ (fun _=>zD (by simp only[Kw,z6 (zq _)];rfl)) (fun _=>zO rfl) [(1,1),(2,160),(9,9),(6,6),(5,5),(4,4),(3,3)] ?_ ?_
  ·exact zh
  rintro⟨⟨n,p⟩,hn,hy⟩ J2 hj2
  simp only at hj2 hn hy⊢
  refine zB 150 (vv ?_)
  refine zV (fun hd=>?_) (fun hd=>?_)
  ·have hd:=zH hd
   have hdy:Y.drop n=Y.getD n 0::Y.drop (n+1):=by
    rw[JC hd,Kx,JA hd];rfl
   rw[hdy,ke]at hy
   have gy:=yY hd
   generalize Y.getD n 0=y at*
   simp only[go_sem,gy]
   refine⟨⟨zA,zA⟩,?_⟩
   refine zM 170 (hat x y) hH rfl ?_
   simp only[go_sem,yu (i:=n)]
   exact hj2 _ _ ⟨(n+1,oM p (kQ m.c x y)),hd,hy⟩ [(1,1),(2,2),(9,9),(6,6),(5,5),(4,4),(3,3)] yL zh
  ·have hd:=zI hn hd
   rw[hd,JI,ke]at hy
   simp only[go_sem,yu (i:=i)]
   exact hj _ _ ⟨(i+1,p),hc,hy⟩ [(1,1),(9,9),(6,6),(5,5),(4,4),(3,3)] yL zh
 ·have hc:=zI hi hc
  rw[hc,JI,nR]at hx
  subst hx
  have hmz:(m.zs.map (·.2)).flatten=rQ m.c:=rfl
  have hzl:m.zs.length<=1000000:=by
   have h1:=k.zl
   have e:m.c.zs.length=m.zs.length:=Kv _
   have e2:m.c.xs.length=m.xs.length:=rfl
   omega
  have hcc:=gG (H:=H) m.z m.zs hm.z hm.e (by rw[hmz];exact kz0) (by rw[hmz];omega) hzl
  rw[hmz]at hcc
  generalize rQ m.c=Z at*
  refine CallQ.hr [(1,180)] 190 hcc hH ClM.nil rfl rfl trivial rfl (.inl rfl) ?_
  simp only[Mem.ren,Ky,Kz,yD (zq _),V.ren,Cv.ren,rn,Nat.reduceBEq,cond_true,cond_false]
  refine vv ?_
  obtain⟨a1,a2⟩:=hnR
  unfold nb at a1 a2
  have w1:IntKind.i64.wrap (q.1-1)=q.1-1:=y6 zA zA
  have w2:IntKind.i64.wrap (q.2+1)=q.2+1:=y6 zA zA
  have hmin:=min_ Z kz0 zA
  have hmax:=max_ Z kz0 zA
  have hZ:ClM [(1,⟨true,Z.map iC,3⟩)]:=zD (by simp only[Kw,z6 (zq _)];rfl)
  have hrn:∀ρ,(Z.map iC).map (Cv.ren ρ)=Z.map iC:=fun ρ=>by rw[Ja];rfl
  refine Sm.dg 200 12 zi ?_
  simp only[go_sem,w1,w2]
  refine DCallQ.ren [(1,180)] 210 hmin hZ rfl rfl ⟨⟨_,rfl,.inr ⟨rfl,[],by show Z.map iC=(Z.map iC).map (Cv.ren _)++[];rw[hrn,JK]⟩⟩,trivial⟩ rfl (.inr rfl) rfl rfl ?_
  simp only[Mem.ren,Kz,V.ren,Cv.ren]
  simp only[go_sem,w1,w2]
  refine DCallQ.ren [(1,180)] 220 hmax hZ rfl rfl ⟨⟨_,rfl,.inr ⟨rfl,[],by show Z.map iC=(Z.map iC).map (Cv.ren _)++[];rw[hrn,JK]⟩⟩,trivial⟩ rfl (.inr rfl) rfl rfl ?_
  simp only[Mem.ren,Kz,V.ren,Cv.ren]
  simp only[go_sem,w1,w2]
  exact yN (hR C hL) ClM.nil
def NG (d:Dg)(s:Str):Cu:=(d.cus.find? (fun c=>c.nm==s)).getD ⟨[],[],[]⟩
def PY (d:Dg)(s:Str):Mp:=(d.mas.find? (fun c=>c.nm==s)).getD ⟨[],[],[],[]⟩
theorem Rf (d:DgL)(s:Str):NG d.c s=((j7 d.cus s).getD YU).c:=by
 unfold NG j7 DgL.c
 simp only[List.find?_map]
 have:((fun c:Cu=>c.nm==s) ∘ CuL.c)=fun c=>c.c.nm==s:=rfl
 rw[this]
 cases d.cus.find? (fun c=>c.c.nm==s)<;>rfl
theorem V7 (d:DgL)(s:Str):PY d.c s=((ig d.mas s).getD XY).c:=by
 unfold PY ig DgL.c
 simp only[List.find?_map]
 have:((fun c:Mp=>c.nm==s) ∘ MpL.c)=fun c=>c.nm==s:=rfl
 rw[this]
 cases d.mas.find? (fun c=>c.nm==s)<;>rfl
def Wl (d:Dg)(b:Bl)(rs:List (Int×Int)):Int×Int:=bif b.kd==[99,117,114,118,101]then(jA (NG d b.tb) (rs.getD 0 (0,0))).1 else(ka (PY d b.tb) (rs.getD 0 (0,0)) (rs.getD 1 (0,0))).1
def m7 (d:Dg)(b:Bl)(rs:List (Int×Int)):Int×Int:=X6 (Wl d b rs) (bif fok (yG d.tys b.ty)then qT (yG d.tys b.ty)else 0) (bif fok (yG d.tys b.ty)then oI (yG d.tys b.ty)else 0)
theorem Yl {H:Hp}(d:DgL):cW H d (m7 d.c):=fun H' cp bT bC bM bS _ k b hb ht hok rs hrs=>by
 have hcu:((j7 d.cus b.c.tb).getD YU).ok H'/\((j7 d.cus b.c.tb).getD YU).c.xs.length<=1000000000000000/\((j7 d.cus b.c.tb).getD YU).c.ys.length<=1000000000000000:=by
  cases hq:j7 d.cus b.c.tb with
  |none=>exact⟨⟨SlH.nil 1,SlH.nil 1⟩,yp,yp⟩
  |some c=>
   have hm:=IW hq
   exact⟨k.o.cus c hm,(k.s.cus.2 c hm).2.1,(k.s.cus.2 c hm).2.2⟩
 have hma:((ig d.mas b.c.tb).getD XY).ok H'/\∀v∈((ig d.mas b.c.tb).getD XY).zs,v.2.length<=1000000000000000:=by
  cases hq:ig d.mas b.c.tb with
  |none=>exact⟨⟨SlH.nil 1,SlH.nil 1,SlH.nil 1,fun v hv=>by cases hv⟩,fun v hv=>by cases hv⟩
  |some c=>
   have hm:=IW hq
   exact⟨k.o.mas c hm,(k.s.mas.2 c hm).2⟩
 have hty:(yG d.c.tys b.c.ty)=yG d.tys b.c.ty:=rfl
 unfold m7 Wl
 rw[Rf,V7,hty]
 have hlim:=jQ (yG d.tys b.c.ty)
 obtain⟨b0,o0,rfl,c0,el0,mk0,hc0,hcc⟩:=PtH.at k.c.p
 unfold gZ at ht
 cases hk:b.c.kd==[99,117,114,118,101]with
 |true=>
  have hkd:b.c.kd=[99,117,114,118,101]:=by simpa using hk
  obtain⟨g1,_⟩:=xw hok hk (show ym [99,117,114,118,101]=some (1,0,1) from rfl)
  rw[g1]at hrs
  obtain⟨r0,rfl⟩:=oH hrs
  have hM:ClM [(1,⟨true,zC ([r0].map ya),129⟩)]:=zD rfl
  have hov:=VU ((j7 d.cus b.c.tb).getD YU) hcu.1 hcu.2.1 hcu.2.2 r0
  rw[cond_true,show([r0]:List (Int×Int)).getD 0 (0,0)=r0 from rfl]
  simp only[zj,zz,Ky,Kz,JF,JG,JK,ya]at hM⊢
  refine kX func256 YE ntmps256 fun C hR hP hH hL=>?_
  have hR:=hR () C hL trivial
  refine zB 100 ?_
  simp only[go_sem,hk]
  refine Sm.dgW [102] 110 15 zi (vv ?_)
  refine DOpQ.own 120 (zg rfl rfl) (vv ?_)
  refine DOpQ.own 120 (zT rfl rfl rfl) (vv ?_)
  refine zF 120 (fun _=>zS (hH _ _ hc0) (hcc 8 _ rfl) rfl rfl rfl) (vv ?_)
  refine zF 120 (fun _=>P0 (k.c.c.mono hH) rfl rfl rfl) (vv ?_)
  refine yV 130 (fun _=>hov) hH (fun _=>rfl) ?_
  generalize jA ((j7 d.cus b.c.tb).getD YU).c r0=q at*
  refine vv ?_
  refine Sm.dg 130 12 zi (vv ?_)
  refine DOpQ.own 140 (zg rfl rfl) (vv ?_)
  refine DOpQ.own 140 (zT rfl rfl rfl) (vv ?_)
  refine zF 140 (fun _=>zS (hH _ _ hc0) (hcc 7 _ rfl) rfl rfl rfl) (vv ?_)
  refine zF 140 (fun _=>xh (k.c.t.mono hH) rfl rfl rfl) (vv ?_)
  refine DCallQ.pure 150 hlim rfl ?_
  generalize (bif fok (yG d.tys b.c.ty)then qT (yG d.tys b.c.ty)else 0)=lo at*
  generalize (bif fok (yG d.tys b.c.ty)then oI (yG d.tys b.c.ty)else 0)=hi at*
  refine vv ?_
  refine CallQ.pure 160 (pN q.1 lo hi) rfl (vv ?_)
  exact yN hR hM
 |false=>
  have hk2:(b.c.kd==[109,97,112])=true:=by rw[hk]at ht;simpa using ht
  have hkd:b.c.kd=[109,97,112]:=by simpa using hk2
  obtain⟨g1,_⟩:=xw hok hk2 (show ym [109,97,112]=some (2,0,2) from rfl)
  rw[g1]at hrs
  obtain⟨r0,r1,rfl⟩:=qG hrs
  have hM:ClM [(1,⟨true,zC ([r0,r1].map ya),129⟩)]:=zD rfl
  have hov:=Yo ((ig d.mas b.c.tb).getD XY) hma.1 hma.2 r0 r1
  rw[cond_false,show([r0,r1]:List (Int×Int)).getD 0 (0,0)=r0 from rfl,show([r0,r1]:List (Int×Int)).getD 1 (0,0)=r1 from rfl]
  simp only[zj,zz,Ky,Kz,JF,JG,JK,ya]at hM⊢
  refine kX func256 YE ntmps256 fun C hR hP hH hL=>?_
  have hR:=hR () C hL trivial
  refine zB 100 ?_
  simp only[go_sem,hk]
  refine Sm.dgW [102] 110 18 zi (vv ?_)
  refine DOpQ.own 120 (zg rfl rfl) (vv ?_)
  refine DOpQ.own 120 (zT rfl rfl rfl) (vv ?_)
  refine zF 120 (fun _=>zS (hH _ _ hc0) (hcc 9 _ rfl) rfl rfl rfl) (vv ?_)
  refine zF 120 (fun _=>PZ (k.c.m.mono hH) rfl rfl rfl) (vv ?_)
  refine yV 130 (fun _=>hov) hH (fun _=>rfl) ?_
  generalize ka ((ig d.mas b.c.tb).getD XY).c r0 r1=q at*
  refine vv ?_
  refine Sm.dg 130 12 zi (vv ?_)
  refine DOpQ.own 140 (zg rfl rfl) (vv ?_)
  refine DOpQ.own 140 (zT rfl rfl rfl) (vv ?_)
  refine zF 140 (fun _=>zS (hH _ _ hc0) (hcc 7 _ rfl) rfl rfl rfl) (vv ?_)
  refine zF 140 (fun _=>xh (k.c.t.mono hH) rfl rfl rfl) (vv ?_)
  refine DCallQ.pure 150 hlim rfl ?_
  generalize (bif fok (yG d.tys b.c.ty)then qT (yG d.tys b.c.ty)else 0)=lo at*
  generalize (bif fok (yG d.tys b.c.ty)then oI (yG d.tys b.c.ty)else 0)=hi at*
  refine vv ?_
  refine CallQ.pure 160 (pN q.1 lo hi) rfl (vv ?_)
  exact yN hR hM
end Go.Proofs.YtbnkiacicnnmkaaGreat.Fx
namespace Go.Proofs.YtbnkiacicnnmkaaGreat
namespace Vg
open Go.RowKit
end Vg
namespace Vg
theorem qh {l:List Cv}{t:TypeId}{r:Bool}:Wk ⟨true,l,t⟩ ⟨r,l,t⟩:=by
 cases r
 ·exact .inr ⟨rfl,[],z9⟩
 ·exact .inl rfl
theorem DCallQ.xn {P:Program}{nt:Nat}{C:Cx}{r:List It}{e e0:Env}{M M0 Mf:Mem}{H:Hp}{id:Nat}{rg:Array Oper}{k:Nat}{T:List (Nat×Nat)}{i:Nat}{o:Oper}{l:List Oper}{f:FuncId}{vs:List (Option (Bool×V))}{g:Bool}{dst:Option Nat}{xs:List V}{v:V}{M1 N:Mem}(nx:Nat)(hc:g=true->CallX H P f xs M1 (fun _:Unit=>v) (fun _=>N) (fun _ _=>True))(hH:H.le C.hp)(hcl:ClM M1)(hvs:g=true->vs=xs.map fun x=>some (true,x))
  (hs:SubS M1 M0) (hfr:N.all (fun p=>(M1.get p.1).isSome||(M0.get p.1).isNone)=true) (hf:nY N M0 M0 M=true) (ht:uF T o N=true) (hg:g=true\/N=[])
  (h:wz P nt C id rg r e0 M0 Mf k (wA P nt C (.ops rg (rg.toList.drop k)::r)) (vP N i T) (i+1) l (e.put dst g v) (N++M) nx):DCallQ P nt C id rg r e0 M0 Mf k T i o f vs g dst l e M:=
 ⟨M1,N,M0,v,xs,hvs,fun h=> .inr (CallX.kx (hc h) hH hcl (fun _=>rfl) (fun _=>rfl)),hs.sub,hcl,xA hfr,hg,⟨fun _ _ h=> .inl h,uG hf ht⟩,wX nx h⟩
theorem v7 {P:Program}{nt:Nat}{C:Cx}{todo:List It}{e:Env}{M:Mem}(n nx:Nat)(h:run P nt C n todo e M nx):Sm P nt C todo e M:=yP n _ _ _ nx h
end Vg
end Go.Proofs.YtbnkiacicnnmkaaGreat
namespace Go.Proofs.YtbnkiacicnnmkaaGreat.Fx
open Vg Tf
structure Ins where
 op:Int
 a:Int
 b:Int
 c:Int
 k:Int
def Ins.w (i:Ins):List Value:=[iv i.op,iv i.a,iv i.b,iv i.c,iv i.k]
@[reducible] def U8 (c:Int):V:= .c (.v (.int .u8 c))
theorem yx (i:Ins):z3 i.w= .agg [.v (iv i.op),.v (iv i.a),.v (iv i.b),.v (iv i.c),.v (iv i.k)]:=rfl
theorem Pj (s:Str)(c:Int):pu HT 283 [S s,U8 c] (I (Lib.indexByte s c.toNat.toUInt8)):=by
 intro β w
 have h:=run_callFunc_extern (e:=Extern.BytealgIndexByte.indexByte) func283 (by kernel_rfl) (by kernel_rfl) (by kernel_rfl) (by kernel_rfl) #[.string ⟨s.toArray⟩,.int .u8 c] w
 rw[Lib.run_indexByteString]at h
 exact h
theorem Xl (s:Str)(c:Int):CallOk HT 262 [S s,U8 c] [] (I (Lib.indexByte s c.toNat.toUInt8)) []:=by
 refine kN 100 func262 Uz ntmps262 fun C hR hP=>?_
 refine vv ?_
 refine CallQ.ext 110 (Pj s c) rfl (vv ?_)
 exact ww hR rfl
theorem jT (s:Str)(c:Int):CallOk HT 217 [S s,U8 c] [] (I (Lib.indexByte s c.toNat.toUInt8)) []:=by
 refine kN 100 func217 Tj ntmps217 fun C hR hP=>?_
 refine vv ?_
 refine CallQ.pure 110 (Xl s c) rfl (vv ?_)
 exact ww hR rfl
def yb (op:Int):Str:=
 bif op==1 then[65,75]else bif op==2 then[65,75]else bif op==3 then[65,75]else bif op==4 then[65,66]else bif op==18 then[65,66]else
 bif op==5 then[65,66,67,75]else bif op==6 then[65,66,67,75]else bif op==7 then[65,66,67,75]else bif op==8 then[65,66,67,75]else bif op==13 then[65,66,67,75]else bif op==14 then[65,66,67,75]else bif op==19 then[65,66,67,75]else bif op==21 then[65,66,67,75]else
 bif op==9 then[65,66,75]else bif op==10 then[65,66,75]else bif op==20 then[65,66,75]else bif op==22 then[65,66,75]else[65,66,67]
theorem aj (op:Int)(h:op≠1/\op≠2/\op≠3/\op≠4/\op≠18/\op≠5/\op≠6/\op≠7/\op≠8/\op≠13/\op≠14/\op≠19/\op≠21/\op≠9/\op≠10/\op≠20/\op≠22):yb op=[65,66,67]:=by
 have e:∀n:Int,op≠n->(op==n)=false:=fun n h=>by simpa using h
 obtain⟨h1,h2,h3,h4,h5,h6,h7,h8,h9,h10,h11,h12,h13,h14,h15,h16,h17⟩:=h
 unfold yb
 rw[e _ h1,e _ h2,e _ h3,e _ h4,e _ h5,e _ h6,e _ h7,e _ h8,e _ h9,e _ h10,e _ h11,e _ h12,e _ h13,e _ h14,e _ h15,e _ h16,e _ h17]
 rfl
theorem eW (op:Int):CallOk HT 89 [I op] [] (S (yb op)) []:=by
 refine kN 100 func89 OB ntmps89 fun C hR hP=>?_
 by_cases h:op=1\/op=2\/op=3\/op=4\/op=18\/op=5\/op=6\/op=7\/op=8\/op=13\/op=14\/op=19\/op=21\/op=9\/op=10\/op=20\/op=22
 ·rcases h with rfl|rfl|rfl|rfl|rfl|rfl|rfl|rfl|rfl|rfl|rfl|rfl|rfl|rfl|rfl|rfl|rfl<;>simp only[go_sem]<;>exact RetQ.pure hR rfl yI rfl (zG rfl)
 ·simp only[not_or]at h
  have e:∀n:Int,op≠n->(op==n)=false:=fun n h=>by simpa using h
  rw[aj op h]at hR
  obtain⟨h1,h2,h3,h4,h5,h6,h7,h8,h9,h10,h11,h12,h13,h14,h15,h16,h17⟩:=h
  simp only[go_sem,e _ h1,e _ h2,e _ h3,e _ h4,e _ h5,e _ h6,e _ h7,e _ h8,e _ h9,e _ h10,e _ h11,e _ h12,e _ h13,e _ h14,e _ h15,e _ h16,e _ h17]
  exact RetQ.pure hR rfl yI rfl (zG rfl)
theorem X9 (n:Int):CallOk HT 215 [I n] [] (Bo (bif decide (1<=n)then decide (n<=22)else false)) []:=by
 refine kN 100 func215 Tl ntmps215 fun C hR hP=>?_
 refine vv ?_
 exact zp hR rfl
def Pn (i:Ins)(c:Int):Int:=bif c==65 then i.a else bif c==66 then i.b else bif c==67 then i.c else i.k
theorem Xv (i:Ins)(c:Int):CallOk HT 216 [z3 i.w,U8 c] [] (I (Pn i c)) []:=by
 rw[yx]
 obtain⟨F,hF⟩:∃F,F=Pn i c:=⟨_,rfl⟩
 rw[<-hF]
 unfold Pn at hF
 refine kN 100 func216 Tk ntmps216 fun C hR hP=>?_
 refine vv ?_
 cases h1:(c==65)with
 |true=>rw[h1,cond_true]at hF;exact ww hR hF.symm
 |false=>
  rw[h1,cond_false]at hF
  cases h2:(c==66)with
  |true=>rw[h2,cond_true]at hF;exact ww hR hF.symm
  |false=>
   rw[h2,cond_false]at hF
   cases h3:(c==67)with
   |true=>rw[h3,cond_true]at hF;exact ww hR hF.symm
   |false=>rw[h3,cond_false]at hF;exact ww hR hF.symm
theorem cR (y:Int):bits .and .i64 y 127=y%128:=by
 have h1:(BitVec.ofInt 64 y).toNat=(y%18446744073709551616).toNat:=by rw[BitVec.toNat_ofInt];rfl
 show IntKind.i64.wrap ((BitVec.ofInt 64 y&&& BitVec.ofInt 64 127).toNat:Int)=_
 have e:∀n:Nat,n&&& 127=n%128:=fun n=>Nat.and_two_pow_sub_one_eq_mod n 7
 rw[BitVec.toNat_and,h1,show(BitVec.ofInt 64 127).toNat=127 by decide,e,y6 zA zA]
 omega
theorem fw (k:Int):CallOk HT 220 [I k] [] (.tup [Wi (k/16384),Wi (k/128%128),Wi (k%128)]) []:=by
 refine kN 100 func220 Tg ntmps220 fun C hR hP=>?_
 refine vv ?_
 have e1:k.fdiv (2^min 14 64)=k/16384:=Js _ yp
 have e2:k.fdiv (2^min 7 64)=k/128:=Js _ yp
 exact zN hR rfl yI (by rw[e1,e2,cR,cR]) (Sub.nil _) ClM.nil (zG rfl)
theorem iJ (k:Int)(h0:0<=k)(h1:k<9223372036854775808):CallOk HT 91 [I k] [] (.tup [Wi (k/16384),Wi (k/128%128),Wi (k%128)]) []:=by
 refine kN 100 func91 Pz ntmps91 fun C hR hP=>?_
 refine vv ?_
 have e1:IntKind.i64.wrap (k.tdiv 16384)=k/16384:=by rw[IL h0,y6 zA zA]
 have e2:(IntKind.i64.wrap (k.tdiv 128)).tmod 128=k/128%128:=by rw[IL h0,y6 zA zA,Il zA]
 have e3:k.tmod 128=k%128:=Il h0
 exact zN hR rfl yI (by rw[e1,e2,e3]) (Sub.nil _) ClM.nil (zG rfl)
def wZ (n:Int):Bool:=bif bif bif decide (5<=n)then decide (n<=10)else false then true else n==13 then true else n==14
theorem ft (n:Int):CallOk HT 161 [I n] [] (Bo (wZ n)) []:=by
 refine kN 100 func161 S9 ntmps161 fun C hR hP=>?_
 refine vv ?_
 exact zp hR rfl
theorem VA (s t:Str)(hs:s.length<=9223372036854775807)(ht:t.length<=9223372036854775807):CallOk HT 263 [S s,S t] [] (Bo (bif decide (t.length<=s.length)then s.drop (s.length-t.length)==t else false)) []:=by
 refine kN 100 func263 Uy ntmps263 fun C hR hP=>?_
 refine vv ?_
 by_cases h:t.length<=s.length
 ·have e1:decide ((t.length:Int)<=(s.length:Int))=true:=yS zA
  have e2:decide (t.length<=s.length)=true:=by simpa using h
  have e3:IntKind.i64.wrap ((s.length:Int)-t.length)=((s.length-t.length:Nat):Int):=by rw[y6 zA zA];omega
  simp only[go_sem,e1,e3,Int.toNat_natCast]
  refine⟨zA,?_⟩
  refine zp hR ?_
  rw[e2,cond_true,JJ z9]
 ·have e1:decide ((t.length:Int)<=(s.length:Int))=false:=yZ zA
  have e2:decide (t.length<=s.length)=false:=by simpa using h
  simp only[go_sem,e1]
  exact RetQ.bool hR rfl yI (by rw[e2];rfl)
theorem PF (s t:Str)(hs:s.length<=9223372036854775807)(ht:t.length<=9223372036854775807):CallOk HT 218 [S s,S t] [] (Bo (bif decide (t.length<=s.length)then s.drop (s.length-t.length)==t else false)) []:=by
 refine kN 100 func218 Ti ntmps218 fun C hR hP=>?_
 refine vv ?_
 refine CallQ.pure 110 (VA s t hs ht) rfl (vv ?_)
 exact zp hR rfl
def qE:List (Str×Str×Int):=[([],[],0),([99,111,110,115,116],[65,75],1),([108,111,97,100],[65,75],2),([115,116,111,114,101],[65,75],2),([109,111,118,101],[65,66],1),([97,100,100],[65,66,67,75],3),([115,117,98],[65,66,67,75],3),([109,117,108],[65,66,67,75],4),([100,105,118],[65,66,67,75],12),([110,101,103],[65,66,75],3),([99,111,110,118,101,114,116],[65,66,75],4),([109,105,110],[65,66,67],1),([109,97,120],[65,66,67],1),([108,101,115,115],[65,66,67,75],3),([101,113,117,97,108],[65,66,67,75],4),([98,101,108,111,119],[65,66,67],1),([97,110,100],[65,66,67],1),([111,114],[65,66,67],1),([110,111,116],[65,66],1),([115,101,108,101,99,116],[65,66,67,75],2),([99,117,114,118,101],[65,66,75],20),([109,97,112],[65,66,67,75],40),([108,97,103],[65,66,75],8)]
def eP (r:Str×Str×Int):List Cv:=[.v (sv r.1),.v (sv r.2.1),.v (iv r.2.2)]
def tz:List Cv:=qE.flatMap eP
theorem dA:CallOk HT 43 [] [] (.c (.sl 1 0 23 3)) [(1,⟨false,tz,107⟩)]:=by
 refine kN 100 func43 Ob ntmps43 fun C hR hP=>?_
 simp only[go_sem,List.range_zero,JG,JF,Ky,Kz,Je,J5]
 exact RetQ.ren [(1,100)] hR hP rfl yI rfl rfl trivial ⟨oR,trivial⟩ (zD rfl) (zG rfl)
theorem pA (n:Nat)(h:n<23):(tz.drop (n*3)).take 3=eP (qE.getD n ([],[],0)):=by
 have:∀m,m<23->(tz.drop (m*3)).take 3=eP (qE.getD m ([],[],0)):=by
  intro m hm
  match m,hm with
  |0,_=>rfl
  |1,_=>rfl
  |2,_=>rfl
  |3,_=>rfl
  |4,_=>rfl
  |5,_=>rfl
  |6,_=>rfl
  |7,_=>rfl
  |8,_=>rfl
  |9,_=>rfl
  |10,_=>rfl
  |11,_=>rfl
  |12,_=>rfl
  |13,_=>rfl
  |14,_=>rfl
  |15,_=>rfl
  |16,_=>rfl
  |17,_=>rfl
  |18,_=>rfl
  |19,_=>rfl
  |20,_=>rfl
  |21,_=>rfl
  |22,_=>rfl
  |n+23,h=>exact absurd h zA
 exact this n h
theorem ga:tz.length=69:=rfl
theorem eN (n:Nat)(h1:1<=n)(h:n<23):(qE.getD n ([],[],0)).2.1=yb n:=by
 match n,h1,h with
 |1,_,_=>rfl
 |2,_,_=>rfl
 |3,_,_=>rfl
 |4,_,_=>rfl
 |5,_,_=>rfl
 |6,_,_=>rfl
 |7,_,_=>rfl
 |8,_,_=>rfl
 |9,_,_=>rfl
 |10,_,_=>rfl
 |11,_,_=>rfl
 |12,_,_=>rfl
 |13,_,_=>rfl
 |14,_,_=>rfl
 |15,_,_=>rfl
 |16,_,_=>rfl
 |17,_,_=>rfl
 |18,_,_=>rfl
 |19,_,_=>rfl
 |20,_,_=>rfl
 |21,_,_=>rfl
 |22,_,_=>rfl
 |n+23,_,h=>exact absurd h zA
def xp (op k:Int):Bool:=
 bif op==1 then decide (-1099511627776<=k/\k<=1099511627776)else
 bif op==19 then decide (0<=k/\k<16)else
 bif wZ op then decide (0<=k/\k<2097152/\(k/128%128=0\/(op≠9/\op≠10))/\(k%128=0\/(op≠13/\op≠14)))else
 bif op==22 then decide (0<=k/\k<=32767/\k%32<=20)else decide (0<=k/\k<=32767)
theorem Y0 (y:Int):bits .and .i64 y 31=y%32:=by
 have h1:(BitVec.ofInt 64 y).toNat=(y%18446744073709551616).toNat:=by rw[BitVec.toNat_ofInt];rfl
 show IntKind.i64.wrap ((BitVec.ofInt 64 y&&& BitVec.ofInt 64 31).toNat:Int)=_
 have e:∀n:Nat,n&&& 31=n%32:=fun n=>Nat.and_two_pow_sub_one_eq_mod n 5
 rw[BitVec.toNat_and,h1,show(BitVec.ofInt 64 31).toNat=31 by decide,e,y6 zA zA]
 omega
theorem fF (i:Ins):CallOk HT 219 [z3 i.w] [] (Bo (xp i.op i.k)) []:=by
 rw[yx]
 refine kN 100 func219 Th ntmps219 fun C hR hP=>?_
 refine vv ?_
 refine CallQ.pure 110 (fw i.k) rfl (vv ?_)
 cases h1:(i.op==1)with
 |true=>
  have hc:xp i.op i.k=decide (-1099511627776<=i.k/\i.k<=1099511627776):=by unfold xp;rw[h1,cond_true]
  rw[hc]at hR
  refine zp hR ?_
  rw[JP];simp only[JT,decide_eq_true_eq];grind
 |false=>
 cases h2:(i.op==19)with
 |true=>
  have hc:xp i.op i.k=decide (0<=i.k/\i.k<16):=by unfold xp;rw[h1,cond_false,h2,cond_true]
  rw[hc]at hR
  refine zp hR ?_
  rw[JP];simp only[JT,decide_eq_true_eq];grind
 |false=>
 simp only
 refine CallQ.pure 130 (ft i.op) rfl (vv ?_)
 cases h3:wZ i.op with
 |true=>
  have hc:xp i.op i.k=decide (0<=i.k/\i.k<2097152/\(i.k/128%128=0\/(i.op≠9/\i.op≠10))/\(i.k%128=0\/(i.op≠13/\i.op≠14))):=by unfold xp;rw[h1,cond_false,h2,cond_false,h3,cond_true]
  rw[hc]at hR
  show _/\_/\_/\_/\_
  have hA:(bif decide (0<=i.k)then decide (i.k<2097152)else false)=decide (0<=i.k/\i.k<2097152):=by rw[JP];simp only[JT,decide_eq_true_eq];grind
  rw[hA]
  refine⟨?_,?_,?_,?_,?_⟩
  ·intro h;simp at h⊢;exact⟨h,fun h'=>⟨h,h'⟩⟩
  ·intro h;simp at h⊢;exact⟨h,fun h'=>⟨h,h'⟩⟩
  ·intro h;simp at h⊢;exact⟨h,fun h'=>⟨h,h'⟩⟩
  ·intro h;simp at h⊢;exact⟨h,fun h'=>⟨h,h'⟩⟩
  refine zp hR ?_
  rw[JP];simp only[JT,decide_eq_true_eq,bne_iff_ne,beq_iff_eq];grind
 |false=>
 cases h4:(i.op==22)with
 |true=>
  have hc:xp i.op i.k=decide (0<=i.k/\i.k<=32767/\i.k%32<=20):=by unfold xp;rw[h1,cond_false,h2,cond_false,h3,cond_false,h4,cond_true]
  rw[hc]at hR
  refine zp hR ?_
  rw[Y0,JP];simp only[JT,decide_eq_true_eq];grind
 |false=>
  have hc:xp i.op i.k=decide (0<=i.k/\i.k<=32767):=by unfold xp;rw[h1,cond_false,h2,cond_false,h3,cond_false,h4,cond_false]
  rw[hc]at hR
  refine zp hR ?_
  rw[JP];simp only[JT,decide_eq_true_eq];grind
def fm (s:Str)(c:Int):Bool:=s.any fun b=>(b.toNat:Int)==c
theorem fk (s:Str)(c:Int)(hs:s.length<=1000):CallOk HT 90 [S s,U8 c] [] (Bo (fm s c)) []:=by
 refine kN 100 func90 OA ntmps90 fun C hR hP=>?_
 refine vv ?_
 refine zK (α:={i:Nat//i<=s.length/\(s.drop i).any (fun b=>(b.toNat:Int)==c)=fm s c}) hP (fun i=>[(0,true,S s),(1,true,U8 c),(5,true,I i.val)]) (fun _=>[]) (fun i=>s.length-i.val) ⟨0,zA,by rw[Jb];rfl⟩ (fun _=>ClM.nil) (fun _=>zO rfl) [] ?_ ?_
 ·exact zh
 rintro⟨i,hi,hd⟩ J hj
 simp only at hj hi⊢
 refine zB 200 (vv ?_)
 refine zV (fun hc=>?_) (fun hc=>?_)
 ·have hc:=zH hc
  rw[JC hc,List.any_cons]at hd
  have hg:s.getD i 0=s[i]:=by rw[Kx,JA hc];rfl
  have hwi:IntKind.i64.wrap ((i:Int)+1)=((i+1:Nat):Int):=wS zA
  simp only[go_sem,Int.toNat_natCast,hg]
  refine⟨⟨zA,zA⟩,?_⟩
  refine zV (fun he=>?_) (fun he=>?_)
  ·rw[he,Bool.true_or]at hd
   exact zp hR hd
  ·rw[he,Ip]at hd
   simp only[go_sem,hwi]
   exact hj _ _ ⟨i+1,hc,hd⟩ [] yL zh
 ·have hc:=zI hi hc
  subst hc
  rw[JI]at hd
  refine vv ?_
  exact zp hR hd
def dg (n:Nat):List Nat:=if h:n=0 then[]else n%(16777216:Nat)::dg (n/(16777216:Nat))
termination_by n
decreasing_by exact Nat.div_lt_self zA yp
abbrev dC (d:Nat):Cv:= .v (.int .i64 (d:Int))
@[reducible] def bn (nm:Nat)(n:Int):V:= .agg [.v (.bool (decide (n<0))),.sl nm 0 (dg n.natAbs).length 1]
@[go_sem ↓] theorem MQ:rm 1 1=[(0,1)]:=rfl
@[reducible] def sg (neg:Bool)(m:Nat):Int:=bif neg then-(m:Int)else m
@[reducible] def bs (nm:Nat)(neg:Bool)(a:Nat):V:= .agg [.v (.bool neg),.sl nm 0 (dg a).length 1]
@[go_sem] theorem NE (f:Nat->Nat)(l:List Nat):List.map (Cv.ren f) (List.map dC l)=List.map dC l:=by simp[Function.comp_def,Cv.ren]
@[go_sem] def bW (nm:Nat)(n:Int):W:= .agg [.v (.bool (decide (n<0))),.sl nm 0 (dg n.natAbs).length 1]
theorem Vx (x:Int):CallOk HT 166 [I x] [] (Bo (decide (-9<=x/\x<=9))) []:=by
 refine kO 100 func166 S6 ntmps166 (by simp[ClV,V.g,Cv.g]) fun C hR=>?_
 refine vv ?_
 refine zp hR ?_
 rw[JP]
 simp only[JT,decide_eq_true_eq]
 grind
theorem VE (m kg s a k:Int):CallOk HT 84 [un m kg s a k] [] (Bo (wL m kg s a k)) []:=by
 refine kO 100 func84 OG ntmps84 (by simp[ClV,V.g,Cv.g,un,ci]) fun C hR=>?_
 refine vv ?_
 refine CallQ.pure 101 (Vx m) rfl (vv ?_)
 refine CallQ.guard 101 (fun _=>Vx kg) (fun h=>by rw[h];rfl) (vv ?_)
 refine CallQ.guard 101 (fun _=>Vx s) (fun h=>by rw[h];rfl) (vv ?_)
 refine CallQ.guard 101 (fun _=>Vx a) (fun h=>by rw[h];rfl) (vv ?_)
 refine CallQ.guard 101 (fun _=>Vx k) (fun h=>by rw[h];rfl) (vv ?_)
 refine zp hR ?_
 unfold wL
 rw[JP]
 simp only[JT,decide_eq_true_eq]
 grind
theorem Yv (t:Ft):CallOk HT 34 [fx t] [] (Bo (fok t)) []:=by
 refine kO 100 func34 Oh ntmps34 (by simp[ClV,V.g,Cv.g,fx,ci]) fun C hR=>?_
 refine vv ?_
 by_cases hb:t.bits=8\/t.bits=16\/t.bits=32
 ·have e:(bif bif t.bits !=8 then t.bits !=16 else false then t.bits !=32 else false)=false:=by
   rcases hb with h|h|h<;>rw[h]<;>rfl
  simp only[e]
  refine CallQ.guard 101 (fun _=>VE t.m t.kg t.s t.a t.k) (fun h=>by rw[h];rfl) (vv ?_)
  refine zp hR ?_
  unfold fok
  rw[JP]
  simp only[JT,JB,decide_eq_true_eq,beq_iff_eq]
  generalize wL t.m t.kg t.s t.a t.k=u
  grind
 ·have e:(bif bif t.bits !=8 then t.bits !=16 else false then t.bits !=32 else false)=true:=by
   have e1:(t.bits !=8)=true:=by simp;omega
   have e2:(t.bits !=16)=true:=by simp;omega
   have e3:(t.bits !=32)=true:=by simp;omega
   rw[e1,e2,e3];rfl
  simp only[e]
  refine zp hR ?_
  unfold fok
  simp[hb]
@[go_sem ↓] theorem MO:rm 5 1=[(0,1),(1,1),(2,1),(3,1),(4,1)]:=rfl
@[reducible] def l5 (r:Bool)(nm:Nat)(m kg s a k:Int):Nat×Bk:=(nm,⟨r,[ci m,ci kg,ci s,ci a,ci k],3⟩)
theorem kV (m kg s a k:Int):CallOk HT 224 [un m kg s a k] [] (.c (.sl 1 0 5 1)) [l5 false 1 m kg s a k]:=by
 refine kN 100 func224 Tb ntmps224 fun C hR hP=>?_
 refine vv ?_
 exact RetQ.ren [(1,101)] hR hP rfl (vv trivial) rfl rfl trivial ⟨oR,trivial⟩ (zD rfl) (zG rfl)
theorem Qo (m kg s a k:Int):CallOk HT 225 [.c (.sl 1 0 5 1)] [l5 true 1 m kg s a k] (un m kg s a k) []:=by
 refine kN 100 func225 Ta ntmps225 fun C hR hP=>?_
 refine vv ?_
 refine Sm.dg 101 15 zi (vv ?_)
 exact zN hR rfl (vv trivial) rfl (Sub.one rfl (.inl rfl)) (zD rfl) (zG rfl)
theorem tZ (m kg s a k:Int):CallOk HT 223 [un m kg s a k] [] (Bo (wL m kg s a k)) []:=by
 refine kO 100 func223 Te ntmps223 (by simp[ClV,V.g,Cv.g,un,ci]) fun C hR=>?_
 refine vv ?_
 refine CallQ.ren [(1,110)] 111 (kV m kg s a k) (zD rfl) rfl rfl trivial rfl (.inl rfl) ?_
 simp only[Mem.ren,Ky,Kz,Bk.ren,Ja,V.ren,W.ren,Cv.ren,rn,Nat.reduceBEq,cond_true,cond_false,Function.comp_def]
 refine vv ?_
 refine zf 6 (zB 120 ?_)
 refine vv ?_
 have key:∀(x:Int) (A B:Prop),(¬(-9<=x/\x<=9)->A)->((-9<=x/\x<=9)->B)->(match (bif decide (x< -9)then true else decide (9<x))with|true=>A|false=>B):=by
  intro x A B h1 h2
  by_cases hx: -9<=x/\x<=9
  ·have e1:decide (x< -9)=false:=by simp;omega
   have e2:decide (9<x)=false:=by simp;omega
   rw[e1,e2];exact h2 hx
  ·have:(bif decide (x< -9)then true else decide (9<x))=true:=by
    by_cases h3:x< -9
    ·simp[h3]
    ·simp[h3];omega
   rw[this];exact h1 hx
 refine key m _ _ (fun h=>RetQ.bool hR rfl ⟨rfl,trivial⟩ (by unfold wL;simp[h])) fun h0=>?_
 refine key kg _ _ (fun h=>RetQ.bool hR rfl ⟨rfl,trivial⟩ (by unfold wL;simp[h])) fun h1=>?_
 refine key s _ _ (fun h=>RetQ.bool hR rfl ⟨rfl,trivial⟩ (by unfold wL;simp[h])) fun h2=>?_
 refine key a _ _ (fun h=>RetQ.bool hR rfl ⟨rfl,trivial⟩ (by unfold wL;simp[h])) fun h3=>?_
 refine key k _ _ (fun h=>RetQ.bool hR rfl ⟨rfl,trivial⟩ (by unfold wL;simp[h])) fun h4=>?_
 exact RetQ.bool hR rfl ⟨rfl,trivial⟩ (by unfold wL;simp[h0,h1,h2,h3,h4])
theorem oZ (t u:Ft)(s:Int)(hs:s=1\/s= -1)(h:wL t.m t.kg t.s t.a t.k=true)(hu:wL u.m u.kg u.s u.a u.k=true):
  CallOk HT 167 [sr t,sr u,I s] [] (bif qJ s t u then .tup [.agg [ci (t.m+s*u.m),ci (t.kg+s*u.kg),ci (t.s+s*u.s),ci (t.a+s*u.a),ci (t.k+s*u.k)],Wi 0]else .tup [.agg [ci 0,ci 0,ci 0,ci 0,ci 0],Wi 2]) []:=by
 have b1:=qo h
 have b2:=qo hu
 have hv:=tZ t.m t.kg t.s t.a t.k
 rw[h]at hv
 have hv2:=tZ u.m u.kg u.s u.a u.k
 rw[hu]at hv2
 have wr:∀x y:Int, -9<=x->x<=9-> -9<=y->y<=9->IntKind.i64.wrap (x+IntKind.i64.wrap (s*y))=x+s*y:=by
  intro x y h1 h2 h3 h4
  rcases hs with rfl|rfl
  ·rw[y6 (x:=1*y) zA zA,y6 zA zA]
  ·rw[y6 (x:= -1*y) zA zA,y6 zA zA]
 refine kO 100 func167 S5 ntmps167 (by simp[ClV,V.g,Cv.g,sr,ci]) fun C hR=>?_
 refine vv ?_
 refine CallQ.pure 104 hv rfl (vv ?_)
 refine CallQ.pure 104 hv2 rfl (vv ?_)
 refine Sm.dg 112 3 zi (vv ?_)
 refine DCallQ.ren [(1,110)] 112 (kV t.m t.kg t.s t.a t.k) (zD rfl) rfl rfl trivial rfl (.inl rfl) rfl rfl ?_
 simp only[Mem.ren,Ky,Kz,Bk.ren,Ja,V.ren,W.ren,Cv.ren,rn,Nat.reduceBEq,cond_true,cond_false,Function.comp_def]
 refine vv ?_
 refine CallQ.ren [(1,111)] 112 (kV u.m u.kg u.s u.a u.k) (zD rfl) rfl rfl trivial rfl (.inl rfl) ?_
 simp only[Mem.ren,Ky,Kz,Bk.ren,Ja,V.ren,W.ren,Cv.ren,rn,Nat.reduceBEq,cond_true,cond_false,Function.comp_def]
 refine vv ?_
 refine zf 6 (zB 112 ?_)
 refine vv ?_
 have w1:=wr t.m u.m zA zA zA zA
 have w2:=wr t.kg u.kg zA zA zA zA
 have w3:=wr t.s u.s zA zA zA zA
 have w4:=wr t.a u.a zA zA zA zA
 have w5:=wr t.k u.k zA zA zA zA
 refine Sm.dg 112 13 zi (vv ?_)
 simp only[w1]
 refine Sm.dg 112 13 zi (vv ?_)
 simp only[w2]
 refine Sm.dg 112 13 zi (vv ?_)
 simp only[w3]
 refine Sm.dg 112 13 zi (vv ?_)
 simp only[w4]
 refine Sm.dg 112 13 zi (vv ?_)
 simp only[w5]
 refine CallQ.ren [(1,110)] 112 (Qo (t.m+s*u.m) (t.kg+s*u.kg) (t.s+s*u.s) (t.a+s*u.a) (t.k+s*u.k)) (zD rfl) rfl rfl ⟨⟨_,rfl,.inr ⟨rfl,[],rfl⟩⟩,trivial⟩ rfl (.inr rfl) ?_
 simp only[Mem.ren,Ky,Kz,Bk.ren,Ja,V.ren,W.ren,Cv.ren,rn,Nat.reduceBEq,cond_true,cond_false,Function.comp_def]
 refine vv ?_
 refine CallQ.pure 113 (tZ (t.m+s*u.m) (t.kg+s*u.kg) (t.s+s*u.s) (t.a+s*u.a) (t.k+s*u.k)) rfl (vv ?_)
 unfold qJ at hR
 cases hc:wL (t.m+s*u.m) (t.kg+s*u.kg) (t.s+s*u.s) (t.a+s*u.a) (t.k+s*u.k)with
 |false=>
  rw[hc]at hR
  refine vv ?_
  exact RetQ.pure hR rfl (vv trivial) xz (zG rfl)
 |true=>
  rw[hc]at hR
  refine vv ?_
  exact RetQ.pure hR rfl (vv trivial) xz (zG rfl)
end Go.Proofs.YtbnkiacicnnmkaaGreat.Fx
