/-  -/
import Derived.Test.YtkciabfilokfiaaGreatRJ
import Derived.Lib.AppendZeros
open Go.Proofs.Tryz
open Go.Proofs.Tryz renaming prog→Hf
set_option linter.unusedSimpArgs false
set_option linter.unusedVariables false
set_option maxRecDepth 100000
set_option maxHeartbeats 4000000
namespace Go.Proofs.YtkciabfilokfiaaGreat.Fx
open Vg Tf
theorem u7 {H:Hp}{s:Sv}{l:List Int}(h:SlH H (vsl s l.length) 1 (zZ l))(h0:0<l.length):∃b o c,s=⟨some ⟨b,o,none⟩,c⟩/\∃cs el mk,H b (.cells cs el mk)/\∀i,i<l.length->cs[o+i]?=some (iv (l.getD i 0)):=by
 have hil:(zZ l).length=l.length:=by simp[zZ]
 have hx0:∀i,i<l.length->(zZ l).flatten[i]?=some (iv (l.getD i 0)):=fun i hi=>by
  have h1:=yy (k:=1) (zZ l) (fun r hr=>by obtain⟨z,_,rfl⟩:=JO.1 hr;rfl) i 0 zA zA
  unfold zD at h1
  rw[JK,Jd,JV]at h1
  have h2:(zZ l)[i]'(by omega)=[iv l[i]]:=by simp[zZ]
  rw[h2]at h1
  have h3:l.getD i 0=l[i]:=by rw[Kw,Kz hi];rfl
  rw[h3]
  cases hq:(zZ l).flatten[i]? with
  |none=>rw[hq]at h1;cases h1
  |some z=>rw[hq]at h1;simpa using h1
 obtain⟨b0,o0,c0,hv0,cs,el,mk,hb0,hcc⟩:=h.at (by intro h;have:=hx0 0 h0;rw[h]at this;cases this)
 have hs:s=⟨some ⟨b0,o0,none⟩,c0⟩:=by
  cases s with
  |mk o c=>
   have:o=some ⟨b0,o0,none⟩/\c=c0:=by
    simp only[vsl,Value.slice.injEq]at hv0
    exact⟨hv0.1,hv0.2.2⟩
   rw[this.1,this.2]
 exact⟨b0,o0,c0,hs,cs,el,mk,hb0,fun i hi=>hcc i _ (hx0 i hi)⟩
theorem Yk (x lo hi:Int):CallOk Hf 292 [I x,I lo,I hi] [] (I (min (max x lo) hi)) []:=by
 refine kN 100 func292 TM ntmps292 fun C hR hP=>?_
 refine vv ?_
 exact uT hR rfl
theorem WM {H:Hp}(s:Sv)(l:List Int)(h:SlH H (vsl s l.length) 1 (zZ l))(x:Int)(i:Nat)(hi:i<l.length)(hx:l.length<=1000000):CallX H Hf 293 [I i,.c (.p 1 0),.c (.p 2 0)] [(1,⟨true,[.v (vsl s l.length)],33⟩),(2,⟨true,[.v (.int .i64 x)],3⟩)] (fun _:Unit=>Bo (ne l x i)) (fun _=>[]) (fun _ _=>True):=by
 have hM:ClM [(1,⟨true,[.v (vsl s l.length)],33⟩),(2,⟨true,[.v (.int .i64 x)],3⟩)]:=zC rfl
 obtain⟨b0,o0,c0,rfl,cs,el,mk,hb0,hcc⟩:=u7 h zA
 refine kX func293 TL ntmps293 fun C hR hP hH hL=>?_
 refine zB 100 (vv ?_)
 refine Sm.dg 110 5 ze (vv ?_)
 refine DOpQ.own 120 (Stp.idxV rfl rfl rfl tj zA zA) ?_
 simp only[go_sem,Jd]
 refine zE 120 (fun _=>zW (hH _ _ hb0) (hcc i hi) rfl rfl rfl) (vv ?_)
 exact yI (hR () C hL trivial) hM
def uX (l:List Int)(x:Int):Int:=min (max x (l.getD 0 0)) (l.getD (l.length-1) 0)
def vL (l:List Int)(x:Int):Nat:=min (xH l (uX l x)-1) (l.length-2)
theorem uG {l:List Int}(h2:2<=l.length)(hinc:vZ l=true)(x:Int):1<=xH l (uX l x)/\xH l (uX l x)<=l.length/\vL l x+1<l.length/\l.getD (vL l x) 0<=uX l x/\uX l x<=l.getD (vL l x+1) 0:=by
 have hmono:∀k i,i+k<l.length->l.getD i 0<=l.getD (i+k) 0:=by
  intro k
  induction k with
  |zero=>intro i _;exact JW _
  |succ k ih=>
   intro i h
   have a1:=ih i zA
   have a2:=xE l hinc (i+k) zA
   have e:i+(k+1)=i+k+1:=zA
   rw[e];omega
 have hb:=hmono (l.length-1) 0 zA
 rw[Ja]at hb
 have c1:l.getD 0 0<=uX l x:=by unfold uX;omega
 have c2:uX l x<=l.getD (l.length-1) 0:=by unfold uX;omega
 unfold vL
 generalize uX l x=y at*
 obtain⟨q1,q2,q3⟩:=lH (ne l y) l.length
 have e:oJ (ne l y) l.length=xH l y:=rfl
 rw[e]at q1 q2 q3
 have n0:xH l y≠0:=fun hz=>by
  have:=q3 zA
  rw[hz]at this
  have:=of_decide_eq_true this
  omega
 have a1:=of_decide_eq_false (q2 zA)
 by_cases hs:xH l y=l.length
 ·have e1:min (xH l y-1) (l.length-2)=l.length-2:=zA
  have e2:l.length-2+1=l.length-1:=zA
  have a3:=xE l hinc (l.length-2) zA
  rw[hs]at a1
  rw[e1,e2]
  rw[e2]at a3
  exact⟨zA,q1,zA,zA,c2⟩
 ·have e1:min (xH l y-1) (l.length-2)=xH l y-1:=zA
  have e2:xH l y-1+1=xH l y:=zA
  have a2:=of_decide_eq_true (q3 zA)
  rw[e1,e2]
  exact⟨zA,q1,zA,zA,zA⟩
theorem mE {H:Hp}(s:Sv)(l:List Int)(h:SlH H (vsl s l.length) 1 (zZ l))(h2:2<=l.length)(h3:l.length<=32)(hinc:vZ l=true)(x:Int):CallH H Hf 282 [.c (.v (vsl s l.length)),I x] (.tup [Wi (vL l x),Wi (uX l x)]):=by
 obtain⟨k1,k2,k3,_,_⟩:=uG h2 hinc x
 have hsr:=fun y:Int=>f6 (H:=H) l.length zA 293 [.v (vsl s l.length)] 33 rfl y (ne l y) (fun i hi=>WM s l h y i hi zA)
 obtain⟨b0,o0,c0,rfl,cs,el,mk,hb0,hcc⟩:=u7 h zA
 have ew:IntKind.i64.wrap ((l.length:Int)-1)=((l.length-1:Nat):Int):=by rw[ya zA zA];omega
 have ew2:IntKind.i64.wrap ((l.length:Int)-2)=((l.length-2:Nat):Int):=by rw[ya zA zA];omega
 refine kH func282 TW ntmps282 fun C hR hP hH hL=>?_
 refine zB 100 (vv ?_)
 refine Sm.dg 110 10 ze (vv ?_)
 refine DOpQ.own 120 (Stp.idxV rfl rfl rfl tj zA zA) ?_
 simp only[go_sem,Jd]
 refine zE 120 (fun _=>zW (hH _ _ hb0) (hcc 0 zA) rfl rfl rfl) ?_
 simp only[go_sem,ew]
 refine DOpQ.own 120 (Stp.idxV rfl rfl rfl tj zA zA) ?_
 simp only[go_sem,Jd]
 refine zE 120 (fun _=>zW (hH _ _ hb0) (hcc (l.length-1) zA) rfl rfl rfl) (vv ?_)
 refine CallQ.pure 130 (Yk x (l.getD 0 0) (l.getD (l.length-1) 0)) rfl ?_
 have hcl:min (max x (l.getD 0 0)) (l.getD (l.length-1) 0)=uX l x:=rfl
 rw[hcl]
 refine vv ?_
 have hsq:=hsr (uX l x)
 have hsI:vL l x=min (xH l (uX l x)-1) (l.length-2):=rfl
 have hsN:oJ (ne l (uX l x)) l.length=xH l (uX l x):=rfl
 rw[hsN]at hsq
 rw[hsI]at hR
 generalize uX l x=y at*
 generalize xH l y=sn at*
 refine CallQ.hr [(1,100),(2,101)] 140 hsq hH (zC rfl) rfl rfl ⟨⟨_,rfl,.inr ⟨rfl,[],rfl⟩⟩,⟨_,rfl,.inr ⟨rfl,[],rfl⟩⟩,trivial⟩ rfl (.inr rfl) ?_
 simp only[Mem.ren,Kx,V.ren,Cv.ren]
 refine vv ?_
 refine Sm.dg 150 7 ze ?_
 simp only[go_sem,ew2]
 have ef:min (IntKind.i64.wrap ((sn:Int)-1)) ((l.length-2:Nat):Int)=((min (sn-1) (l.length-2):Nat):Int):=by rw[ya zA zA];omega
 rw[ef]
 exact yI (hR C hL) ClM.nil
theorem lZ {x0 x1 y0 y1 x:Int}(h0:x0<=x)(h1:x<=x1)(hx:x0<x1):min y0 y1<=nV x0 x1 y0 y1 x/\nV x0 x1 y0 y1 x<=max y0 y1:=by
 unfold nV
 by_cases hy:y0<=y1
 ·have k1:0<=(x-x0)*(y1-y0):=Ih zA zA
  have k2:(x-x0)*(y1-y0)<=(x1-x0)*(y1-y0):=Jk zA zA
  have d1:0<=(x-x0)*(y1-y0)/(x1-x0):=HB k1 zA
  have d2:(x-x0)*(y1-y0)/(x1-x0)<=y1-y0:=Il zA (by rw[IZ (y1-y0)];exact k2)
  omega
 ·have k1:0<=(x-x0)*(y0-y1):=Ih zA zA
  have k2:(x-x0)*(y0-y1)<=(x1-x0)*(y0-y1):=Jk zA zA
  have e1:(x-x0)*(y1-y0)= -((x-x0)*(y0-y1)):=by rw[<-IV];congr 1;omega
  have e2:(y1-y0)*(x1-x0)= -((x1-x0)*(y0-y1)):=by rw[IZ,<-IV];congr 1;omega
  have d1:y1-y0<=(x-x0)*(y1-y0)/(x1-x0):=by
   rw[Ix zA,e1,e2];omega
  have d2:(x-x0)*(y1-y0)/(x1-x0)<=0:=Il zA (by rw[e1];omega)
  omega
def nb (n:Int):Prop:= -1073741824<=n/\n<=1073741824
theorem gP {x0 x1 y0 y1 x:Int}(h0:x0<=x)(h1:x<=x1)(hx:x0<x1)(a:nb y0)(b:nb y1):nb (nV x0 x1 y0 y1 x):=by
 obtain⟨a1,a2⟩:=a
 obtain⟨b1,b2⟩:=b
 obtain⟨k1,k2⟩:=lZ (y0:=y0) (y1:=y1) h0 h1 hx
 exact⟨zA,zA⟩
theorem iI (x0 x1 y0 y1 x:Int)(h0:x0<=x)(h1:x<=x1)(hx:x0<x1)(a:nb x0)(b:nb x1)(c:nb y0)(d:nb y1):CallOk Hf 284 [I x0,I x1,I y0,I y1,I x] [] (I (nV x0 x1 y0 y1 x)) []:=by
 obtain⟨a1,a2⟩:=a
 obtain⟨b1,b2⟩:=b
 obtain⟨c1,c2⟩:=c
 obtain⟨d1,d2⟩:=d
 obtain⟨i1,i2⟩:=lZ (y0:=y0) (y1:=y1) h0 h1 hx
 have k:=lQ (a:=x-x0) (b:=y1-y0) (A:=2147483648) (B:=2147483648) zA zA zA zA
 have wx:IntKind.i64.wrap (x-x0)=x-x0:=ya zA zA
 have wy:IntKind.i64.wrap (y1-y0)=y1-y0:=ya zA zA
 have wd:IntKind.i64.wrap (x1-x0)=x1-x0:=ya zA zA
 have wp:IntKind.i64.wrap ((x-x0)*(y1-y0))=(x-x0)*(y1-y0):=ya zA zA
 refine kN 100 func284 TU ntmps284 fun C hR hP=>?_
 simp only[go_sem,wx,wy,wd,wp]
 refine CallQ.pure 110 (aP _ _ zA zA zA zA) rfl (vv ?_)
 refine uT hR ?_
 unfold nV at i1 i2⊢
 exact ya zA zA
structure MaOk (m:Mp):Prop where
 x2:2<=m.xs.length
 x3:m.xs.length<=32
 xn:∀i,i<m.xs.length->nb (m.xs.getD i 0)
 xi:vZ m.xs=true
 y2:2<=m.ys.length
 y3:m.ys.length<=32
 yn:∀i,i<m.ys.length->nb (m.ys.getD i 0)
 yi:vZ m.ys=true
 zl:m.zs.length=m.xs.length
 zr:∀i,i<m.zs.length->(m.zs.getD i []).length=m.ys.length
 zn:∀i,i<m.zs.length->∀j,j<m.ys.length->nb ((m.zs.getD i []).getD j 0)
theorem pz {m:Mp}(h:wD m.xs m.ys m.zs=true):MaOk m:=by
 unfold wD wK at h
 simp only[JG,decide_eq_true_eq,JI]at h
 obtain⟨⟨⟨x2,x3⟩,xn,xi⟩,⟨⟨y2,y3⟩,yn,yi⟩,zl,zr⟩:=h
 have gz:∀i,i<m.zs.length->m.zs.getD i []∈m.zs:=fun i hi=>by
  rw[Kw,Kz hi];exact JE hi
 exact⟨x2,x3,fun i hi=>wt (xz (JI.2 xn) i hi),xi,y2,y3,fun i hi=>wt (xz (JI.2 yn) i hi),yi,zl,
  fun i hi=>(zr _ (gz i hi)).1,fun i hi j hj=>by
   have:=zr _ (gz i hi)
   exact wt (xz (JI.2 this.2) j (by rw[this.1];exact hj))⟩
def nZ (m:Mp)(i j:Nat):Int:=(m.zs.getD i []).getD j 0
def iZ (m:Mp)(i:Nat)(x:Int)(j:Nat):Int:=nV (m.xs.getD i 0) (m.xs.getD (i+1) 0) (nZ m i j) (nZ m (i+1) j) x
def r9 (m:Mp)(x y:Int):Int:=nV (m.ys.getD (vL m.ys y) 0) (m.ys.getD (vL m.ys y+1) 0) (iZ m (vL m.xs x) (uX m.xs x) (vL m.ys y)) (iZ m (vL m.xs x) (uX m.xs x) (vL m.ys y+1)) (uX m.ys y)
theorem XK {H:Hp}{m:MpL}(hm:m.ok H)(h0:0<m.zs.length):∃b o c,m.z=⟨some ⟨b,o,none⟩,c⟩/\∃cs el mk,H b (.cells cs el mk)/\∀i,(h:i<m.zs.length)->cs[o+i]?=some (vsl m.zs[i].1 m.zs[i].2.length):=by
 have hil:(m.zs.map zR).length=m.zs.length:=Ku _
 have hx0:∀i,(h:i<m.zs.length)->(m.zs.map zR).flatten[i]?=some (vsl m.zs[i].1 m.zs[i].2.length):=fun i hi=>by
  have h1:=yy (k:=1) (m.zs.map zR) (fun r hr=>by obtain⟨z,_,rfl⟩:=JO.1 hr;rfl) i 0 zA zA
  unfold zD at h1
  rw[JK,Jd,JV]at h1
  have h2:(m.zs.map zR)[i]'(by omega)=zR m.zs[i]:=Iv _
  rw[h2]at h1
  cases hq:(m.zs.map zR).flatten[i]? with
  |none=>rw[hq]at h1;cases h1
  |some z=>rw[hq]at h1;simpa[zR]using h1
 obtain⟨b0,o0,c0,hv0,cs,el,mk,hb0,hcc⟩:=hm.z.at (by intro h;have:=hx0 0 h0;change (m.zs.map zR).flatten=[]at h;rw[h]at this;cases this)
 have hs:m.z=⟨some ⟨b0,o0,none⟩,c0⟩:=by
  cases hz:m.z with
  |mk o c=>
   rw[hz]at hv0
   simp only[vsl,Value.slice.injEq]at hv0
   rw[hv0.1,hv0.2.2]
 exact⟨b0,o0,c0,hs,cs,el,mk,hb0,fun i hi=>hcc i _ (hx0 i hi)⟩
theorem i5 (m:MpL)(i:Nat)(h:i<m.zs.length):m.c.zs.getD i []=m.zs[i].2:=by
 show(m.zs.map (·.2)).getD i []=_
 rw[Kw,JK,Kz h];rfl
theorem M8 {H:Hp}(m:MpL)(hm:m.ok H)(k:MaOk m.c)(i:Nat)(x:Int)(j:Nat)(hi:i+1<m.xs.length)(hj:j<m.ys.length)(h0:m.xs.getD i 0<=x)(h1:x<=m.xs.getD (i+1) 0):
  CallX H Hf 283 [I j,.c (.p 1 0),.c (.p 2 0),.c (.p 3 0)] [(1,⟨true,o5 m,89⟩),(2,⟨true,[.v (.int .i64 i)],3⟩),(3,⟨true,[.v (.int .i64 x)],3⟩)] (fun _:Unit=>I (iZ m.c i x j)) (fun _=>[]) (fun _ _=>True):=by
 have kx3:m.xs.length<=32:=k.x3
 have kz:m.zs.length=m.xs.length:=by have:=k.zl;simpa[MpL.c]using this
 have kr:∀q,(h:q<m.zs.length)->m.zs[q].2.length=m.ys.length:=fun q h=>by rw[<-i5 m q h];exact k.zr q (by simpa[MpL.c]using h)
 have hM:ClM [(1,⟨true,o5 m,89⟩),(2,⟨true,[.v (.int .i64 i)],3⟩),(3,⟨true,[.v (.int .i64 x)],3⟩)]:=zC rfl
 obtain⟨bx,ox,cx,hsx,csx,elx,mkx,hbx,hcx⟩:=u7 hm.x zA
 obtain⟨bz,oz,cz,hsz,csz,elz,mkz,hbz,hcz⟩:=XK hm zA
 have hz1:=hcz i zA
 have hz2:=hcz (i+1) zA
 have r1:=kr i zA
 have r2:=kr (i+1) zA
 obtain⟨b1,o1,c1,hs1,M5,el1,mk1,hb1,hc1⟩:=u7 (hm.e _ (JE (show i<m.zs.length by omega))) zA
 obtain⟨b2,o2,c2,hs2,cs2,el2,mk2,hb2,hc2⟩:=u7 (hm.e _ (JE (show i+1<m.zs.length by omega))) zA
 have hzi:nZ m.c i j=m.zs[i].2.getD j 0:=by unfold nZ;rw[i5 m i zA]
 have hzj:nZ m.c (i+1) j=m.zs[i+1].2.getD j 0:=by unfold nZ;rw[i5 m (i+1) zA]
 have n1:=k.zn i (by simp[MpL.c];omega) j hj
 have n2:=k.zn (i+1) (by simp[MpL.c];omega) j hj
 change nb (nZ m.c i j)at n1
 change nb (nZ m.c (i+1) j)at n2
 have n3:=k.xn i (show i<m.xs.length by omega)
 have n4:=k.xn (i+1) hi
 have n5:=xE m.xs k.xi i hi
 have hbt:=iI (m.xs.getD i 0) (m.xs.getD (i+1) 0) (nZ m.c i j) (nZ m.c (i+1) j) x h0 h1 n5 n3 n4 n1 n2
 have hres:iZ m.c i x j=nV (m.xs.getD i 0) (m.xs.getD (i+1) 0) (nZ m.c i j) (nZ m.c (i+1) j) x:=rfl
 rw[hres]
 have g1:=hc1 j zA
 have g2:=hc2 j zA
 rw[<-hzi]at g1
 rw[<-hzj]at g2
 generalize nZ m.c i j=za at*
 generalize nZ m.c (i+1) j=zb at*
 rw[hs1,r1]at hz1
 rw[hs2,r2]at hz2
 have hmv:o5 m=[.v (.slice (some ⟨bx,ox,none⟩) m.xs.length cx),.v (.slice m.y.o m.ys.length m.y.c),.v (.slice (some ⟨bz,oz,none⟩) m.zs.length cz)]:=by unfold o5;rw[hsx,hsz]
 rw[hmv]at hM⊢
 have ew:IntKind.i64.wrap ((i:Int)+1)=((i+1:Nat):Int):=wS zA
 refine kX func283 TV ntmps283 fun C hR hP hH hL=>?_
 refine zB 100 (vv ?_)
 refine Sm.dg 110 29 ze (vv ?_)
 refine DOpQ.own 120 (Stp.idxV rfl rfl rfl tj zA zA) ?_
 simp only[go_sem,Jd,ew]
 refine zE 120 (fun _=>zW (hH _ _ hbx) (hcx i zA) rfl rfl rfl) ?_
 simp only[go_sem,ew]
 refine DOpQ.own 120 (Stp.idxV rfl rfl rfl tj zA zA) ?_
 simp only[go_sem,Jd,ew]
 refine zE 120 (fun _=>zW (hH _ _ hbx) (hcx (i+1) zA) rfl rfl rfl) ?_
 simp only[go_sem,ew]
 refine DOpQ.own 120 (Stp.idxV rfl rfl rfl dE zA zA) ?_
 simp only[go_sem,Jd,ew]
 refine zE 120 (fun _=>zW (hH _ _ hbz) hz1 rfl rfl rfl) ?_
 simp only[go_sem,ew]
 refine DOpQ.own 120 (Stp.idxV rfl rfl rfl tj zA zA) ?_
 simp only[go_sem,Jd,ew]
 refine zE 120 (fun _=>zW (hH _ _ hb1) g1 rfl rfl rfl) ?_
 simp only[go_sem,ew]
 refine DOpQ.own 120 (Stp.idxV rfl rfl rfl dE zA zA) ?_
 simp only[go_sem,Jd,ew]
 refine zE 120 (fun _=>zW (hH _ _ hbz) hz2 rfl rfl rfl) ?_
 simp only[go_sem,ew]
 refine DOpQ.own 120 (Stp.idxV rfl rfl rfl tj zA zA) ?_
 simp only[go_sem,Jd,ew]
 refine zE 120 (fun _=>zW (hH _ _ hb2) g2 rfl rfl rfl) (vv ?_)
 refine CallQ.pure 130 hbt rfl (vv ?_)
 exact yI (hR () C hL trivial) hM
theorem eZ {m:Mp}(k:MaOk m){i:Nat}{x:Int}{j:Nat}(hi:i+1<m.xs.length)(hj:j<m.ys.length)(h0:m.xs.getD i 0<=x)(h1:x<=m.xs.getD (i+1) 0):nb (iZ m i x j):=
 gP h0 h1 (xE m.xs k.xi i hi) (k.zn i (by have:=k.zl;omega) j hj) (k.zn (i+1) (by have:=k.zl;omega) j hj)
theorem PN {H:Hp}(m:MpL)(hm:m.ok H)(k:MaOk m.c)(x y:Int):CallH H Hf 263 [.agg (o5 m),I x,I y] (I (r9 m.c x y)):=by
 have kx2:2<=m.xs.length:=k.x2
 have kx3:m.xs.length<=32:=k.x3
 have ky2:2<=m.ys.length:=k.y2
 have ky3:m.ys.length<=32:=k.y3
 have sx:=mE m.x m.xs hm.x kx2 kx3 k.xi x
 have sy:=mE m.y m.ys hm.y ky2 ky3 k.yi y
 obtain⟨_,_,x3,x4,x5⟩:=uG kx2 k.xi x
 obtain⟨_,_,y3,y4,y5⟩:=uG ky2 k.yi y
 have hat:r9 m.c x y=nV (m.ys.getD (vL m.ys y) 0) (m.ys.getD (vL m.ys y+1) 0) (iZ m.c (vL m.xs x) (uX m.xs x) (vL m.ys y)) (iZ m.c (vL m.xs x) (uX m.xs x) (vL m.ys y+1)) (uX m.ys y):=rfl
 rw[hat]
 have q1:=M8 m hm k (vL m.xs x) (uX m.xs x) (vL m.ys y) x3 zA x4 x5
 have q2:=M8 m hm k (vL m.xs x) (uX m.xs x) (vL m.ys y+1) x3 y3 x4 x5
 have n1:=eZ k (i:=vL m.xs x) (x:=uX m.xs x) (j:=vL m.ys y) x3 (show vL m.ys y<m.ys.length by omega) x4 x5
 have n2:=eZ k (i:=vL m.xs x) (x:=uX m.xs x) (j:=vL m.ys y+1) x3 y3 x4 x5
 have hbt:=iI (m.ys.getD (vL m.ys y) 0) (m.ys.getD (vL m.ys y+1) 0) _ _ (uX m.ys y) y4 y5 (xE m.ys k.yi _ y3) (k.yn _ (show vL m.ys y<m.ys.length by omega)) (k.yn _ y3) n1 n2
 obtain⟨by0,oy,cy,hsy,csy,ely,mky,hby,hcy⟩:=u7 hm.y zA
 have g1:=hcy (vL m.ys y) zA
 have g2:=hcy (vL m.ys y+1) zA
 generalize iZ m.c (vL m.xs x) (uX m.xs x) (vL m.ys y)=za at*
 generalize iZ m.c (vL m.xs x) (uX m.xs x) (vL m.ys y+1)=zb at*
 generalize uX m.xs x=x' at*
 generalize uX m.ys y=y' at*
 generalize vL m.xs x=i at*
 generalize vL m.ys y=j at*
 have ew:IntKind.i64.wrap ((j:Int)+1)=((j+1:Nat):Int):=wS zA
 have hmv:o5 m=[.v (.slice m.x.o m.xs.length m.x.c),.v (.slice (some ⟨by0,oy,none⟩) m.ys.length cy),.v (.slice m.z.o m.zs.length m.z.c)]:=by unfold o5;rw[hsy]
 have hM:ClM [(1,⟨true,o5 m,89⟩),(2,⟨true,[.v (.int .i64 i)],3⟩),(3,⟨true,[.v (.int .i64 x')],3⟩)]:=zC rfl
 have hsyv:vsl m.y m.ys.length= .slice (some ⟨by0,oy,none⟩) m.ys.length cy:=by rw[hsy]
 rw[hsyv]at sy
 rw[hmv]at q1 q2 hM⊢
 refine kH func263 Tj ntmps263 fun C hR hP hH hL=>?_
 refine zB 100 (vv ?_)
 refine z8 110 sx hH rfl (vv ?_)
 refine z8 120 sy hH rfl (vv ?_)
 refine Sm.dg 130 19 ze (vv ?_)
 refine DOpQ.own 140 (Stp.idxV rfl rfl rfl tj zA zA) ?_
 simp only[go_sem,Jd,ew]
 refine zE 140 (fun _=>zW (hH _ _ hby) g1 rfl rfl rfl) ?_
 simp only[go_sem,ew]
 refine DOpQ.own 140 (Stp.idxV rfl rfl rfl tj zA zA) ?_
 simp only[go_sem,Jd,ew]
 refine zE 140 (fun _=>zW (hH _ _ hby) g2 rfl rfl rfl) (vv ?_)
 refine DCallQ.hr [(1,100),(2,110),(3,101)] 150 q1 hH hM rfl rfl ⟨⟨_,rfl,.inr ⟨rfl,[],rfl⟩⟩,⟨_,rfl,.inr ⟨rfl,[],rfl⟩⟩,⟨_,rfl,.inr ⟨rfl,[],rfl⟩⟩,trivial⟩ rfl (.inr rfl) rfl rfl ?_
 simp only[Mem.ren,Kx,V.ren,Cv.ren]
 simp only[go_sem,ew]
 refine DCallQ.hr [(1,100),(2,110),(3,101)] 150 q2 hH hM rfl rfl ⟨⟨_,rfl,.inr ⟨rfl,[],rfl⟩⟩,⟨_,rfl,.inr ⟨rfl,[],rfl⟩⟩,⟨_,rfl,.inr ⟨rfl,[],rfl⟩⟩,trivial⟩ rfl (.inr rfl) rfl rfl ?_
 simp only[Mem.ren,Kx,V.ren,Cv.ren]
 refine vv ?_
 refine CallQ.pure 160 hbt rfl (vv ?_)
 exact uT (hR C hL) rfl
theorem _root_.Go.Proofs.YtkciabfilokfiaaGreat.Vg.Stp.appendZ {P:Program}{o:Oper}{e:Env}{M:Mem}(nm:Nat){s x:Operand}{t tn el:TypeId}{sz n:Nat}{k kn:IntKind}{zs:List Value}(ho:o.op= .call {callee:= .builtin .append,args:= #[s,x],argTypes:= #[t,tn]})
  (ht:xQ P t=some (el,sz)) (htn:P.underlying tn=some (.int kn)) (hz:zx P el=some zs) (hs:rd e s=some (true,.c (.v (.slice none 0 0)))) (hx:rd e x=some (true,.c (.v (.int k n)))) (hn:M.get nm=none) (h0:0<n) (hby:n*v6 P el<=140737488355328) (h63:(n:Int)<=9223372036854775807):
  ∃K:List Cv,K.all Cv.isV=true/\n*sz<=K.length/\Stp P o e M (.c (.sl nm 0 n sz)) [(nm,⟨false,K,el⟩)]:=by
 obtain⟨hu,hsz,hsz0⟩:=xJ ht
 obtain⟨i,z,hi,hz1,hz2,hz3⟩:=vu hz
 have hsi:i.size=sz:=by rw[<-vw hi];exact hsz
 subst hsi
 have hlz:((Builtin.zeroCells z.cells n).toList.map Cv.v).length=n*i.size:=by rw[Ku,wL,hz2]
 refine⟨(Builtin.zeroCells z.cells n).toList.map Cv.v,nu _,by rw[hlz];exact Jq _,?_⟩
 intro S w0 β M' a w hsub hfr hrel hok K Q hk
 have hn':M'.get nm=none:=by
  rcases hfr nm (by simp[Mem.get])with h|h
  ·rw[hn]at h;cases h
  ·exact h
 have hne:∀j b,M'.get j=some b->j≠nm:=fun j b hj hh=>by rw[hh,hn']at hj;cases hj
 have hev:=hok β (zK _ _) s (by simp[ho,Op.operands,Call.operands]) _ hs
 have hex:=hok β (zK _ _) x (by simp[ho,Op.operands,Call.operands]) _ hx
 simp only[gv,V.g,Cv.g,cond_true]at hev hex
 have hg:=Go.Lib.run_append_nil_zeros (P:=P) w t tn o.type el i z k kn hu htn hi hz1 n h0 zA h63 (by rw[<-tH hi];omega)
 have hge:=grownCap_ge w n 0 el
 have hal:=(hrel.drew).allocJ nm hn' ((Builtin.zeroCells z.cells n).toList.map Cv.v) (Builtin.zeroCells z.cells (grownCap w n 0 el-n)).toList el (fun β' _=>by rw[ql,ql])
 unfold Oper.wp execOp
 simp only[ho,resolve,invoke,builtin,Sem.run_bind,Sem.run_pure,Result.andThen_ok,HW,Kv,Kx,hev,hex,hg]
 have e1:Builtin.zeroCells z.cells n++Builtin.zeroCells z.cells (grownCap w n 0 el-n)=(((Builtin.zeroCells z.cells n).toList.map Cv.v).map (Cv.g β)++(Builtin.zeroCells z.cells (grownCap w n 0 el-n)).toList).toArray:=by
  apply Jg.1
  rw[ql]
  simp
 rw[e1]
 refine hk (fun j=>if j=nm then⟨w.heap.size,0,((Builtin.zeroCells z.cells n).toList.map Cv.v).length+(Builtin.zeroCells z.cells (grownCap w n 0 el-n)).toList.length,false,none⟩else β j) _ _ (fun j hj=>?_) hal (fun β'' hag=>?_)
 ·obtain⟨c,hc⟩:=JF.1 hj
  exact if_neg (hne j c hc)
 ·have:=hag nm (by simp[Mem.get])
  simp only[V.g,Cv.g,this,if_true,JU,false_and,if_false,Ja,Nat.sub_zero]
  rw[hlz,wL,hz2,<-HZ,Iy _ zA]
  congr 1
  omega
theorem _root_.Go.Proofs.YtkciabfilokfiaaGreat.Vg.Stp.capNil {P:Program}{o:Oper}{e:Env}{M:Mem}{x:Operand}{t el:TypeId}{sz:Nat}(ho:o.op= .call {callee:= .builtin .cap,args:= #[x],argTypes:= #[t]})(ht:xQ P t=some (el,sz))(hx:rd e x=some (true,.c (.v (.slice none 0 0)))):Stp P o e M (.c (.v (.int .i64 0))) []:=by
 obtain⟨hu,_,_⟩:=xJ ht
 exact Stp.pure fun β a hop w=>by
  have hex:=hop x (by simp[ho,Op.operands,Call.operands]) _ hx
  simp only[gv,V.g,Cv.g,cond_true]at hex
  unfold execOp
  simp[ho,resolve,invoke,builtin,hex,Builtin.cap_,V.g,Cv.g,run_underlying hu,goInt]
theorem _root_.Go.Proofs.YtkciabfilokfiaaGreat.Vg.Stp.slNil {P:Program}{o:Oper}{e:Env}{M:Mem}{x hi:Operand}{t el:TypeId}{sz:Nat}{k:IntKind}(ho:o.op= .slice t x none (some hi) none)(ht:xQ P t=some (el,sz))(hx:rd e x=some (true,.c (.v (.slice none 0 0))))(hh:rd e hi=some (true,.c (.v (.int k 0)))):Stp P o e M (.c (.v (.slice none 0 0))) []:=by
 obtain⟨hu,hsz,hsz0⟩:=xJ ht
 exact Stp.pure fun β a hop w=>by
  have hex:=hop x (by simp[ho,Op.operands]) _ hx
  have hhx:=hop hi (by simp[ho,Op.operands]) _ hh
  simp only[gv,V.g,Cv.g,cond_true]at hex hhx
  have hb:=run_sliceBound (P:=P) w k 0 0 .sliceAcap zA zA
  unfold execOp
  simp[ho,hex,hhx,Instr.sliceAt,Instr.slice,Instr.sliceBounds,run_underlying hu,V.g,Cv.g,yl hsz hsz0]
  rw[hb]
  simp
theorem _root_.Go.Proofs.YtkciabfilokfiaaGreat.Vg.Sm.appZ {P:Program}{nt:Nat}{C:Cx}{rg:Array Oper}{o:Oper}{l:List Oper}{r:List It}{e:Env}{M:Mem}(nm:Nat){s x:Operand}{t tn el:TypeId}{sz n:Nat}{k kn:IntKind}{zs:List Value}(hg:gd rg e o=some true)(hd:xj nt o.dst=true)(ho:o.op= .call {callee:= .builtin .append,args:= #[s,x],argTypes:= #[t,tn]})
  (ht:xQ P t=some (el,sz)) (htn:P.underlying tn=some (.int kn)) (hz:zx P el=some zs) (hs:rd e s=some (true,.c (.v (.slice none 0 0)))) (hx:rd e x=some (true,.c (.v (.int k n)))) (hn:M.get nm=none) (h0:0<n) (hby:n*v6 P el<=140737488355328) (h63:(n:Int)<=9223372036854775807)
  (h:∀K:List Cv,K.all Cv.isV=true->n*sz<=K.length->Sm P nt C (.ops rg l::r) (e.put o.dst true (.c (.sl nm 0 n sz))) ([(nm,⟨false,K,el⟩)]++M)):Sm P nt C (.ops rg (o::l)::r) e M:=by
 obtain⟨K,k1,k2,k3⟩:=Stp.appendZ (P:=P) (e:=e) (M:=M) nm ho ht htn hz hs hx hn h0 hby h63
 exact tc hg hd ⟨_,_,fun _=>k3,.inl rfl,h K k1 k2⟩
theorem Ul {H:Hp}(n:Nat)(h0:0<n)(hn:n<=1000000):CallX H Hf 285 [.c (.v (.slice none 0 0)),I n] [] (fun _:{K:List Cv//K.all Cv.isV=true/\n<=K.length}=> .c (.sl 1 0 0 1)) (fun K=>[(1,⟨false,K.val,3⟩)]) (fun _ _=>True):=by
 refine kX func285 TS ntmps285 fun C hR hP hH hL=>?_
 refine zB 100 ?_
 simp only[go_sem,show decide ((n:Int)<0)=false from decide_eq_false zA]
 refine tc rfl rfl ⟨[],_,fun _=>Stp.capNil rfl tj rfl,.inl rfl,zB 110 ?_⟩
 simp only[go_sem,show IntKind.i64.wrap ((n:Int)-0)=n by rw[Int.sub_zero];exact ya zA zA,show decide ((0:Int)<n)=true from decide_eq_true zA]
 refine tc rfl rfl ⟨[],_,fun _=>Stp.capNil rfl tj rfl,.inl rfl,zB 110 ?_⟩
 refine vv ?_
 refine tc rfl rfl ⟨[],_,fun _=>Stp.slNil rfl tj rfl rfl,.inl rfl,zB 110 ?_⟩
 refine vv ?_
 refine Sm.appZ 120 rfl rfl rfl tj rfl Mk rfl rfl rfl h0 (by show n*8<=_;omega) zA (fun K k1 k2=>zB 130 ?_)
 refine vv ?_
 exact⟨⟨zA,zA⟩,RetQ.ren [(1,120)] (hR ⟨K,k1,zA⟩ C hL trivial) hP rfl xb rfl rfl trivial ⟨oV (yO k1),trivial⟩ (zC (by simp only[JC,JD,Ky,zh k1];rfl)) (zI rfl)⟩
def nA (zs:List (Sv×List Int))(i:Nat):List Int:=((zs.take i).map (·.2)).flatten
theorem ji {zs:List (Sv×List Int)}{i:Nat}(h:i<zs.length):nA zs (i+1)=nA zs i++zs[i].2:=by
 unfold nA
 rw[JS h,JT,IW]
 simp
theorem eM (zs:List (Sv×List Int))(i:Nat):(nA zs i).length<=(zs.map (·.2)).flatten.length:=by
 unfold nA
 conv=>rhs;rw[<-I0 i zs]
 rw[JT,IW,JN]
 omega
theorem Yd {H:Hp}(v:Sv)(zs:List (Sv×List Int))(hz:SlH H (vsl v zs.length) 1 (zs.map zR))(he:∀z∈zs,SlH H (vsl z.1 z.2.length) 1 (zZ z.2))(h0:0<(zs.map (·.2)).flatten.length)(hn:(zs.map (·.2)).flatten.length<=1000000)(hl:zs.length<=1000000):
  CallX H Hf 265 [.c (.v (vsl v zs.length))] [] (fun _:Unit=> .c (.sl 1 0 (zs.map (·.2)).flatten.length 1)) (fun _=>[(1,⟨false,(zs.map (·.2)).flatten.map iC,3⟩)]) (fun _ _=>True):=by
 refine kX func265 Th ntmps265 fun C hR hP hH hL=>?_
 refine zB 100 (vv ?_)
 have hzl:(zs.map zR).length=zs.length:=Ku _
 have hall:nA zs zs.length=(zs.map (·.2)).flatten:=by unfold nA;rw[Jh]
 refine Sm.bringR 1 33 9 (rows:=zs.map zR) (by have:=hz.mono hH;exact this) rfl rfl ?_
 rw[hzl]
 refine zG (M0:=[]) (α:={i:Nat//i<=zs.length}) hP (fun i=>[(0,true,.c (.v (vsl v zs.length))),(3,true,I (nA zs i.val).length),(9,true,.c (.sl 1 0 zs.length 1)),(10,true,I zs.length),(11,true,I i.val)])
  (fun _=>[(1,⟨true,zD (zs.map zR),33⟩)]) (fun i=>zs.length-i.val) ⟨0,zA⟩ (fun _=>cM) (fun _=>zO rfl) [(1,1)] ?_ ?_
 ·exact z9
 rintro⟨i,hi⟩ J hb
 simp only at hb hi⊢
 refine zB 120 (vv ?_)
 refine zU (fun hc=>?_) (fun hc=>?_)
 ·have hc:=zH hc
  have hf:=ji hc
  have hlf:(nA zs (i+1)).length=(nA zs i).length+zs[i].2.length:=by rw[hf,JN]
  have hle:=eM zs (i+1)
  have e3:(zD (zs.map zR))[i]?=some (.v (vsl zs[i].1 zs[i].2.length)):=qR (m:=⟨[],[],[],zs,v,v,v⟩) hc
  simp only[go_sem,e3,show IntKind.i64.wrap (((nA zs i).length:Int)+(zs[i].2.length:Int))=((nA zs (i+1)).length:Int) by rw[ya zA zA];omega,show decide (((nA zs (i+1)).length:Int)<0)=false from decide_eq_false zA,yT (i:=i)]
  exact⟨⟨zA,zA⟩,hb _ _ ⟨i+1,hc⟩ [(1,1)] yF z9⟩
 have hc:=zL hi hc
 subst hc
 rw[hall]
 refine ZN [(1,130)] 140 hL (Ul (H:=H) _ h0 hn) hH rfl trivial ClM.nil (fun _=>rfl) rfl rfl rfl fun K C2 H2 l2 g2 _ _=>?_
 obtain⟨K,k1,k2⟩:=K
 simp only[Mem.ren,Kv,Kx,yO k1,V.ren,Cv.ren,rn,Nat.reduceBEq,cond_true,cond_false]
 refine vv ?_
 refine Sm.bringR 8 33 25 (rows:=zs.map zR) (by have:=hz.mono (hH.trans g2);exact this) rfl rfl ?_
 rw[hzl]
 have hl0:zs.length≠0:=by intro h;rw[Ji]at h;subst h;simp at h0
 refine zG (M0:=[]) (α:={z:Nat×List Cv//z.1<=zs.length/\z.2.all Cv.isV=true/\(z.1≠0->z.2=(nA zs z.1).map iC)}) (l2.pins hP) (fun z=>[(6,true,.c (.sl 130 0 (nA zs z.val.1).length 1)),(25,true,.c (.sl 8 0 zs.length 1)),(26,true,I zs.length),(27,true,I z.val.1)])
  (fun z=>[(8,⟨true,zD (zs.map zR),33⟩),(130,⟨false,z.val.2,3⟩)]) (fun z=>zs.length-z.val.1) ⟨(0,K),zc,k1,zc⟩ (fun z=>zC (by simp only[Ky,iR,zh z.2.2.1];rfl)) (fun _=>zO rfl) [(8,8),(130,130)] ?_ ?_
 ·exact⟨rfl,trivial,⟨rfl,rfl,rfl,rfl,trivial⟩,⟨oX,oV (yO k1),trivial⟩⟩
 rintro⟨⟨i,K1⟩,hi,p1,p2⟩ J hb
 simp only at hb hi p1 p2⊢
 refine xM 18 _ _ _ 150 (vv ?_)
 refine zU (fun hc=>?_) (fun hc=>?_)
 ·have hc:=zH hc
  have hf:=ji hc
  have hlf:(nA zs (i+1)).length=(nA zs i).length+zs[i].2.length:=by rw[hf,JN]
  have hle:=eM zs (i+1)
  have e3:(zD (zs.map zR))[i]?=some (.v (vsl zs[i].1 zs[i].2.length)):=qR (m:=⟨[],[],[],zs,v,v,v⟩) hc
  simp only[go_sem,e3]
  have hmem:zs[i]∈zs:=JE hc
  have htk:K1.take (nA zs i).length=(nA zs i).map iC:=by
   cases i with
   |zero=>rfl
   |succ q=>rw[p2 zA];exact JH zc
  have htl:(nA zs i).length<=K1.length:=by
   cases i with
   |zero=>exact I7 _
   |succ q=>rw[p2 zA,Ku];exact Jq _
  have hti:(zs[i].2.map iC).take zs[i].2.length=zs[i].2.map iC:=JH zc
  have hon:(zs[i].2.map iC).all Cv.one=true:=JI.2 fun c hc=>by obtain⟨n,_,rfl⟩:=JO.1 hc;rfl
  have hnew:(nA zs i).map iC++zs[i].2.map iC=(nA zs (i+1)).map iC:=by rw[hf,JT]
  refine⟨⟨zA,zA⟩,?_⟩
  refine Sm.bringI 140 3 32 (((he _ hmem).mono hH).mono g2) rfl rfl (zB 150 ?_)
  simp only[go_sem,htk,hti,hon,hnew,<-hlf,yT (i:=i)]
  exact⟨⟨htl,zc,zA,zA⟩,hb _ _ ⟨(i+1,(nA zs (i+1)).map iC),hc,yX _,fun _=>rfl⟩ [(8,8),(130,150)] yF z9⟩
 ·have hc:=zL hi hc
  subst hc
  have hK:=p2 hl0
  subst hK
  have hR:=hR () C2 l2 trivial
  rw[<-hall]at hR
  exact RetQ.ren [(1,130)] hR (l2.pins hP) rfl xb rfl rfl trivial ⟨oV (yO (yX _)),trivial⟩ (zC (by simp only[JC,JD,Ky,iR,zh (yX _)];rfl)) (zI rfl)
def pV:Int->List Int->Int
 |a,[]=>a
 |a,x::l=>pV (min a x) l
def rM:Int->List Int->Int
 |a,[]=>a
 |a,x::l=>rM (max a x) l
theorem min_ (l:List Int)(h0:0<l.length)(hl:l.length<=1000000):CallOk Hf 266 [.c (.sl 1 0 l.length 1)] [(1,⟨true,l.map iC,3⟩)] (I (pV (l.getD 0 0) (l.drop 1))) []:=by
 have g0:=yR h0
 have hM:ClM [(1,⟨true,l.map iC,3⟩)]:=zC (by simp only[Ky,zh (yX _)];rfl)
 generalize hq:pV (l.getD 0 0) (l.drop 1)=q
 refine kN 100 func266 Tg ntmps266 fun C hR hP=>?_
 simp only[go_sem,g0,show decide ((l.length:Int)<1)=false from decide_eq_false zA]
 refine⟨zA,?_⟩
 refine zG (M0:=[(1,⟨true,l.map iC,3⟩)]) (α:={z:Nat×Int//0<z.1/\z.1<=l.length/\pV z.2 (l.drop z.1)=q}) hP (fun z=>[(0,true,.c (.sl 1 0 l.length 1)),(3,true,I z.val.2),(4,true,I z.val.1)])
  (fun _=>[(1,⟨true,l.map iC,3⟩)]) (fun z=>l.length-z.val.1) ⟨(1,l.getD 0 0),zc,by simp only;omega,hq⟩ (fun _=>hM) (fun _=>zO rfl) [(1,1)] ?_ ?_
 ·exact z9
 rintro⟨⟨i,a⟩,hi0,hi,hx⟩ J hb
 simp only at hb hi hi0 hx⊢
 refine zB 120 (vv ?_)
 refine zU (fun hc=>?_) (fun hc=>?_)
 ·have hc:=zH hc
  have gi:=yR hc
  have hd:l.drop i=l.getD i 0::l.drop (i+1):=by
   rw[JA hc,Kw,Kz hc];rfl
  rw[hd,pV]at hx
  simp only[go_sem,gi,yT (i:=i)]
  exact⟨⟨zA,zA⟩,hb _ _ ⟨(i+1,min a (l.getD i 0)),by simp only;omega,hc,hx⟩ [(1,1)] yF z9⟩
 ·have hc:=zL hi hc
  rw[hc,JL,pV]at hx
  subst hx
  exact yI hR hM
theorem max_ (l:List Int)(h0:0<l.length)(hl:l.length<=1000000):CallOk Hf 267 [.c (.sl 1 0 l.length 1)] [(1,⟨true,l.map iC,3⟩)] (I (rM (l.getD 0 0) (l.drop 1))) []:=by
 have g0:=yR h0
 have hM:ClM [(1,⟨true,l.map iC,3⟩)]:=zC (by simp only[Ky,zh (yX _)];rfl)
 generalize hq:rM (l.getD 0 0) (l.drop 1)=q
 refine kN 100 func267 Te ntmps267 fun C hR hP=>?_
 simp only[go_sem,g0,show decide ((l.length:Int)<1)=false from decide_eq_false zA]
 refine⟨zA,?_⟩
 refine zG (M0:=[(1,⟨true,l.map iC,3⟩)]) (α:={z:Nat×Int//0<z.1/\z.1<=l.length/\rM z.2 (l.drop z.1)=q}) hP (fun z=>[(0,true,.c (.sl 1 0 l.length 1)),(3,true,I z.val.2),(4,true,I z.val.1)])
  (fun _=>[(1,⟨true,l.map iC,3⟩)]) (fun z=>l.length-z.val.1) ⟨(1,l.getD 0 0),zc,by simp only;omega,hq⟩ (fun _=>hM) (fun _=>zO rfl) [(1,1)] ?_ ?_
 ·exact z9
 rintro⟨⟨i,a⟩,hi0,hi,hx⟩ J hb
 simp only at hb hi hi0 hx⊢
 refine zB 120 (vv ?_)
 refine zU (fun hc=>?_) (fun hc=>?_)
 ·have hc:=zH hc
  have gi:=yR hc
  have hd:l.drop i=l.getD i 0::l.drop (i+1):=by
   rw[JA hc,Kw,Kz hc];rfl
  rw[hd,rM]at hx
  simp only[go_sem,gi,yT (i:=i)]
  exact⟨⟨zA,zA⟩,hb _ _ ⟨(i+1,max a (l.getD i 0)),by simp only;omega,hc,hx⟩ [(1,1)] yF z9⟩
 ·have hc:=zL hi hc
  rw[hc,JL,rM]at hx
  subst hx
  exact yI hR hM
def vd (l:List Int)(r:Int×Int):List Int:=r.1::r.2::l.filter fun x=>decide (r.1<x)&&decide (x<r.2)
theorem fl {H:Hp}(s:Sv)(l:List Int)(hs:SlH H (vsl s l.length) 1 (zZ l))(hl:l.length<=1000000)(r:Int×Int):CallX H Hf 264 [.c (.v (vsl s l.length)),rA r] [] (fun _:Unit=> .c (.sl 1 0 (vd l r).length 1)) (fun _=>[(1,⟨false,(vd l r).map iC,3⟩)]) (fun _ _=>True):=by
 have hil:(zZ l).length=l.length:=by simp[zZ]
 generalize hq:vd l r=q
 refine kX func264 Ti ntmps264 fun C hR hP hH hL=>?_
 have hR:=hR () C hL trivial
 refine zB 100 (vv ?_)
 refine Sm.bringI 5 3 13 (hs.mono hH) rfl rfl ?_
 refine zG (M0:=[]) (α:={z:Nat×List Int//z.1<=l.length/\z.2.length<=z.1+2/\(z.2++(l.drop z.1).filter fun x=>decide (r.1<x)&&decide (x<r.2))=q}) hP (fun z=>[(3,true,.c (.p 3 0)),(5,true,.c (.sl 6 0 z.val.2.length 1)),(13,true,.c (.sl 5 0 l.length 1)),(14,true,I l.length),(15,true,I z.val.1)])
  (fun z=>[(5,⟨true,l.map iC,3⟩),(6,⟨false,z.val.2.map iC,3⟩),(3,⟨false,rC r,45⟩)]) (fun z=>l.length-z.val.1) ⟨(0,[r.1,r.2]),zc,zc,hq⟩ (fun _=>zC (by simp only[Ky,zh (yX _)];rfl)) (fun _=>zO rfl) [(5,5),(6,101),(3,100)] ?_ ?_
 ·exact z9
 rintro⟨⟨i,a⟩,hi,hal,hx⟩ J hb
 simp only at hb hi hal hx⊢
 refine zB 120 (vv ?_)
 refine zU (fun hc=>?_) (fun hc=>?_)
 ·have hc:=zH hc
  have gi:=yR hc
  have hd:l.drop i=l.getD i 0::l.drop (i+1):=by
   rw[JA hc,Kw,Kz hc];rfl
  rw[hd,List.filter_cons]at hx
  generalize l.getD i 0=x at*
  simp only[go_sem,gi]
  refine⟨⟨zA,zA⟩,?_⟩
  cases h1:decide (r.1<x)with
  |false=>
   rw[h1,HI,if_neg zc]at hx
   simp only[go_sem,yT (i:=i)]
   exact hb _ _ ⟨(i+1,a),hc,by simp only;omega,hx⟩ [(5,5),(6,6),(3,3)] yF z9
  |true=>
   cases h2:decide (x<r.2)with
   |false=>
    rw[h1,h2,Bool.and_false,if_neg zc]at hx
    simp only[go_sem,yT (i:=i)]
    exact hb _ _ ⟨(i+1,a),hc,by simp only;omega,hx⟩ [(5,5),(6,6),(3,3)] yF z9
   |true=>
    rw[h1,h2,IY,if_pos rfl]at hx
    have htk:(a.map iC).take a.length=a.map iC:=JH zc
    have hap:a.map iC++[iC x]=(a++[x]).map iC:=zc
    have hln:a.length+1=(a++[x]).length:=by simp
    simp only[go_sem,htk,hap,yT (i:=i)]
    refine⟨⟨zc,zA,zA⟩,?_⟩
    rw[hln]
    exact hb _ _ ⟨(i+1,a++[x]),hc,by simp only;omega,by simp only[I8,List.singleton_append];exact hx⟩ [(5,5),(6,121),(3,3)] yF z9
 ·have hc:=zL hi hc
  rw[hc,JL,List.filter_nil,JB]at hx
  subst hx
  exact RetQ.ren [(1,6)] hR hP rfl xb rfl rfl trivial ⟨oV (yO (yX _)),trivial⟩ (zC (by simp only[JC,JD,Ky,zh (yX _)];rfl)) (zI rfl)
end Go.Proofs.YtkciabfilokfiaaGreat.Fx
