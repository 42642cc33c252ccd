/-  -/
import Derived.Test.YtbnkiacicnnmkaaGreatRJ
import Derived.Lib.AppendZeros
open Go.Proofs.Tryz
open Go.Proofs.Tryz renaming prog→HT
set_option linter.unusedSimpArgs false
set_option linter.unusedVariables false
set_option maxRecDepth 100000
set_option maxHeartbeats 4000000
namespace Go.Proofs.YtbnkiacicnnmkaaGreat.Fx
open Vg Tf
theorem tG {H:Hp}{s:Sv}{l:List Int}(h:SlH H (vsl s l.length) 1 (zP l))(h0:0<l.length):∃b o c,s=⟨some ⟨b,o,none⟩,c⟩/\∃cs el mk,H b (.cells cs el mk)/\∀i,i<l.length->cs[o+i]?=some (iv (l.getD i 0)):=by
 have hil:(zP l).length=l.length:=by simp[zP]
 have hx0:∀i,i<l.length->(zP l).flatten[i]?=some (iv (l.getD i 0)):=fun i hi=>by
  have h1:=yR (k:=1) (zP l) (fun r hr=>by obtain⟨z,_,rfl⟩:=JL.1 hr;rfl) i 0 zA zA
  unfold zC at h1
  rw[JO,Jr,Jx]at h1
  have h2:(zP l)[i]'(by omega)=[iv l[i]]:=by simp[zP]
  rw[h2]at h1
  have h3:l.getD i 0=l[i]:=by rw[Kx,JA hi];rfl
  rw[h3]
  cases hq:(zP l).flatten[i]? with
  |none=>rw[hq]at h1;cases h1
  |some z=>rw[hq]at h1;simpa using h1
 obtain⟨b0,o0,c0,hv0,cs,el,mk,hb0,hcc⟩:=h.at (by intro h;have:=hx0 0 h0;rw[h]at this;cases this)
 have hs:s=⟨some ⟨b0,o0,none⟩,c0⟩:=by
  cases s with
  |mk o c=>
   have:o=some ⟨b0,o0,none⟩/\c=c0:=by
    simp only[vsl,Value.slice.injEq]at hv0
    exact⟨hv0.1,hv0.2.2⟩
   rw[this.1,this.2]
 exact⟨b0,o0,c0,hs,cs,el,mk,hb0,fun i hi=>hcc i _ (hx0 i hi)⟩
theorem ZC (x lo hi:Int):CallOk HT 268 [I x,I lo,I hi] [] (I (min (max x lo) hi)) []:=by
 refine kN 100 func268 Uu ntmps268 fun C hR hP=>?_
 refine vv ?_
 exact ww hR rfl
theorem Yt {H:Hp}(s:Sv)(l:List Int)(h:SlH H (vsl s l.length) 1 (zP l))(x:Int)(i:Nat)(hi:i<l.length)(hx:l.length<=1000000):CallX H HT 269 [I i,.c (.p 1 0),.c (.p 2 0)] [(1,⟨true,[.v (vsl s l.length)],26⟩),(2,⟨true,[.v (.int .i64 x)],3⟩)] (fun _:Unit=>Bo (oJ l x i)) (fun _=>[]) (fun _ _=>True):=by
 have hM:ClM [(1,⟨true,[.v (vsl s l.length)],26⟩),(2,⟨true,[.v (.int .i64 x)],3⟩)]:=zD rfl
 obtain⟨b0,o0,c0,rfl,cs,el,mk,hb0,hcc⟩:=tG h zA
 refine kX func269 Ut ntmps269 fun C hR hP hH hL=>?_
 refine zB 100 (vv ?_)
 refine Sm.dg 110 5 zi (vv ?_)
 refine DOpQ.own 120 (Stp.idxV rfl rfl rfl tP zA zA) ?_
 simp only[go_sem,Jr]
 refine zF 120 (fun _=>zS (hH _ _ hb0) (hcc i hi) rfl rfl rfl) (vv ?_)
 exact yN (hR () C hL trivial) hM
def tY (l:List Int)(x:Int):Int:=min (max x (l.getD 0 0)) (l.getD (l.length-1) 0)
def uZ (l:List Int)(x:Int):Nat:=min (yk l (tY l x)-1) (l.length-2)
theorem qv {l:List Int}(h2:2<=l.length)(hinc:tR l=true)(x:Int):1<=yk l (tY l x)/\yk l (tY l x)<=l.length/\uZ l x+1<l.length/\l.getD (uZ l x) 0<=tY l x/\tY l x<=l.getD (uZ l x+1) 0:=by
 have hmono:∀k i,i+k<l.length->l.getD i 0<=l.getD (i+k) 0:=by
  intro k
  induction k with
  |zero=>intro i _;exact HJ _
  |succ k ih=>
   intro i h
   have a1:=ih i zA
   have a2:=wl l hinc (i+k) zA
   have e:i+(k+1)=i+k+1:=zA
   rw[e];omega
 have hb:=hmono (l.length-1) 0 zA
 rw[J4]at hb
 have c1:l.getD 0 0<=tY l x:=by unfold tY;omega
 have c2:tY l x<=l.getD (l.length-1) 0:=by unfold tY;omega
 unfold uZ
 generalize tY l x=y at*
 obtain⟨q1,q2,q3⟩:=nT (oJ l y) l.length
 have e:qy (oJ l y) l.length=yk l y:=rfl
 rw[e]at q1 q2 q3
 have n0:yk l y≠0:=fun hz=>by
  have:=q3 zA
  rw[hz]at this
  have:=of_decide_eq_true this
  omega
 have a1:=of_decide_eq_false (q2 zA)
 by_cases hs:yk l y=l.length
 ·have e1:min (yk l y-1) (l.length-2)=l.length-2:=zA
  have e2:l.length-2+1=l.length-1:=zA
  have a3:=wl l hinc (l.length-2) zA
  rw[hs]at a1
  rw[e1,e2]
  rw[e2]at a3
  exact⟨zA,q1,zA,zA,c2⟩
 ·have e1:min (yk l y-1) (l.length-2)=yk l y-1:=zA
  have e2:yk l y-1+1=yk l y:=zA
  have a2:=of_decide_eq_true (q3 zA)
  rw[e1,e2]
  exact⟨zA,q1,zA,zA,zA⟩
theorem o4 {H:Hp}(s:Sv)(l:List Int)(h:SlH H (vsl s l.length) 1 (zP l))(h2:2<=l.length)(h3:l.length<=32)(hinc:tR l=true)(x:Int):CallH H HT 228 [.c (.v (vsl s l.length)),I x] (.tup [Wi (uZ l x),Wi (tY l x)]):=by
 obtain⟨k1,k2,k3,_,_⟩:=qv h2 hinc x
 have hsr:=fun y:Int=>iA (H:=H) l.length zA 269 [.v (vsl s l.length)] 26 rfl y (oJ l y) (fun i hi=>Yt s l h y i hi zA)
 obtain⟨b0,o0,c0,rfl,cs,el,mk,hb0,hcc⟩:=tG h zA
 have ew:IntKind.i64.wrap ((l.length:Int)-1)=((l.length-1:Nat):Int):=by rw[y6 zA zA];omega
 have ew2:IntKind.i64.wrap ((l.length:Int)-2)=((l.length-2:Nat):Int):=by rw[y6 zA zA];omega
 refine kH func228 T7 ntmps228 fun C hR hP hH hL=>?_
 refine zB 100 (vv ?_)
 refine Sm.dg 110 10 zi (vv ?_)
 refine DOpQ.own 120 (Stp.idxV rfl rfl rfl tP zA zA) ?_
 simp only[go_sem,Jr]
 refine zF 120 (fun _=>zS (hH _ _ hb0) (hcc 0 zA) rfl rfl rfl) ?_
 simp only[go_sem,ew]
 refine DOpQ.own 120 (Stp.idxV rfl rfl rfl tP zA zA) ?_
 simp only[go_sem,Jr]
 refine zF 120 (fun _=>zS (hH _ _ hb0) (hcc (l.length-1) zA) rfl rfl rfl) (vv ?_)
 refine CallQ.pure 130 (ZC x (l.getD 0 0) (l.getD (l.length-1) 0)) rfl ?_
 have hcl:min (max x (l.getD 0 0)) (l.getD (l.length-1) 0)=tY l x:=rfl
 rw[hcl]
 refine vv ?_
 have hsq:=hsr (tY l x)
 have hsI:uZ l x=min (yk l (tY l x)-1) (l.length-2):=rfl
 have hsN:qy (oJ l (tY l x)) l.length=yk l (tY l x):=rfl
 rw[hsN]at hsq
 rw[hsI]at hR
 generalize tY l x=y at*
 generalize yk l y=sn at*
 refine CallQ.hr [(1,100),(2,101)] 140 hsq hH (zD rfl) rfl rfl ⟨⟨_,rfl,.inr ⟨rfl,[],rfl⟩⟩,⟨_,rfl,.inr ⟨rfl,[],rfl⟩⟩,trivial⟩ rfl (.inr rfl) ?_
 simp only[Mem.ren,Kz,V.ren,Cv.ren]
 refine vv ?_
 refine Sm.dg 150 7 zi ?_
 simp only[go_sem,ew2]
 have ef:min (IntKind.i64.wrap ((sn:Int)-1)) ((l.length-2:Nat):Int)=((min (sn-1) (l.length-2):Nat):Int):=by rw[y6 zA zA];omega
 rw[ef]
 exact yN (hR C hL) ClM.nil
theorem dR {x0 x1 y0 y1 x:Int}(h0:x0<=x)(h1:x<=x1)(hx:x0<x1):min y0 y1<=gt x0 x1 y0 y1 x/\gt x0 x1 y0 y1 x<=max y0 y1:=by
 unfold gt
 by_cases hy:y0<=y1
 ·have k1:0<=(x-x0)*(y1-y0):=Int.mul_nonneg zA zA
  have k2:(x-x0)*(y1-y0)<=(x1-x0)*(y1-y0):=IN zA zA
  have d1:0<=(x-x0)*(y1-y0)/(x1-x0):=Int.ediv_nonneg k1 zA
  have d2:(x-x0)*(y1-y0)/(x1-x0)<=y1-y0:=HB zA (by rw[HQ (y1-y0)];exact k2)
  omega
 ·have k1:0<=(x-x0)*(y0-y1):=Int.mul_nonneg zA zA
  have k2:(x-x0)*(y0-y1)<=(x1-x0)*(y0-y1):=IN zA zA
  have e1:(x-x0)*(y1-y0)= -((x-x0)*(y0-y1)):=by rw[<-IQ];congr 1;omega
  have e2:(y1-y0)*(x1-x0)= -((x1-x0)*(y0-y1)):=by rw[HQ,<-IQ];congr 1;omega
  have d1:y1-y0<=(x-x0)*(y1-y0)/(x1-x0):=by
   rw[Int.le_ediv_iff_mul_le zA,e1,e2];omega
  have d2:(x-x0)*(y1-y0)/(x1-x0)<=0:=HB zA (by rw[e1];omega)
  omega
def nb (n:Int):Prop:= -1073741824<=n/\n<=1073741824
theorem dQ {x0 x1 y0 y1 x:Int}(h0:x0<=x)(h1:x<=x1)(hx:x0<x1)(a:nb y0)(b:nb y1):nb (gt x0 x1 y0 y1 x):=by
 obtain⟨a1,a2⟩:=a
 obtain⟨b1,b2⟩:=b
 obtain⟨k1,k2⟩:=dR (y0:=y0) (y1:=y1) h0 h1 hx
 exact⟨zA,zA⟩
theorem lg (x0 x1 y0 y1 x:Int)(h0:x0<=x)(h1:x<=x1)(hx:x0<x1)(a:nb x0)(b:nb x1)(c:nb y0)(d:nb y1):CallOk HT 230 [I x0,I x1,I y0,I y1,I x] [] (I (gt x0 x1 y0 y1 x)) []:=by
 obtain⟨a1,a2⟩:=a
 obtain⟨b1,b2⟩:=b
 obtain⟨c1,c2⟩:=c
 obtain⟨d1,d2⟩:=d
 obtain⟨i1,i2⟩:=dR (y0:=y0) (y1:=y1) h0 h1 hx
 have k:=nc (a:=x-x0) (b:=y1-y0) (A:=2147483648) (B:=2147483648) zA zA zA zA
 have wx:IntKind.i64.wrap (x-x0)=x-x0:=y6 zA zA
 have wy:IntKind.i64.wrap (y1-y0)=y1-y0:=y6 zA zA
 have wd:IntKind.i64.wrap (x1-x0)=x1-x0:=y6 zA zA
 have wp:IntKind.i64.wrap ((x-x0)*(y1-y0))=(x-x0)*(y1-y0):=y6 zA zA
 refine kN 100 func230 T5 ntmps230 fun C hR hP=>?_
 simp only[go_sem,wx,wy,wd,wp]
 refine CallQ.pure 110 (di _ _ zA zA zA zA) rfl (vv ?_)
 refine ww hR ?_
 unfold gt at i1 i2⊢
 exact y6 zA zA
structure MaOk (m:Mp):Prop where
 x2:2<=m.xs.length
 x3:m.xs.length<=32
 xn:∀i,i<m.xs.length->nb (m.xs.getD i 0)
 xi:tR m.xs=true
 y2:2<=m.ys.length
 y3:m.ys.length<=32
 yn:∀i,i<m.ys.length->nb (m.ys.getD i 0)
 yi:tR m.ys=true
 zl:m.zs.length=m.xs.length
 zr:∀i,i<m.zs.length->(m.zs.getD i []).length=m.ys.length
 zn:∀i,i<m.zs.length->∀j,j<m.ys.length->nb ((m.zs.getD i []).getD j 0)
theorem gQ {m:Mp}(h:xM m.xs m.ys m.zs=true):MaOk m:=by
 unfold xM xX at h
 simp only[JB,decide_eq_true_eq,JD]at h
 obtain⟨⟨⟨x2,x3⟩,xn,xi⟩,⟨⟨y2,y3⟩,yn,yi⟩,zl,zr⟩:=h
 have gz:∀i,i<m.zs.length->m.zs.getD i []∈m.zs:=fun i hi=>by
  rw[Kx,JA hi];exact JH hi
 exact⟨x2,x3,fun i hi=>uI (wt (JD.2 xn) i hi),xi,y2,y3,fun i hi=>uI (wt (JD.2 yn) i hi),yi,zl,
  fun i hi=>(zr _ (gz i hi)).1,fun i hi j hj=>by
   have:=zr _ (gz i hi)
   exact uI (wt (JD.2 this.2) j (by rw[this.1];exact hj))⟩
def jm (m:Mp)(i j:Nat):Int:=(m.zs.getD i []).getD j 0
def ZY (m:Mp)(i:Nat)(x:Int)(j:Nat):Int:=gt (m.xs.getD i 0) (m.xs.getD (i+1) 0) (jm m i j) (jm m (i+1) j) x
def kQ (m:Mp)(x y:Int):Int:=gt (m.ys.getD (uZ m.ys y) 0) (m.ys.getD (uZ m.ys y+1) 0) (ZY m (uZ m.xs x) (tY m.xs x) (uZ m.ys y)) (ZY m (uZ m.xs x) (tY m.xs x) (uZ m.ys y+1)) (tY m.ys y)
theorem We {H:Hp}{m:MpL}(hm:m.ok H)(h0:0<m.zs.length):∃b o c,m.z=⟨some ⟨b,o,none⟩,c⟩/\∃cs el mk,H b (.cells cs el mk)/\∀i,(h:i<m.zs.length)->cs[o+i]?=some (vsl m.zs[i].1 m.zs[i].2.length):=by
 have hil:(m.zs.map zR).length=m.zs.length:=Kv _
 have hx0:∀i,(h:i<m.zs.length)->(m.zs.map zR).flatten[i]?=some (vsl m.zs[i].1 m.zs[i].2.length):=fun i hi=>by
  have h1:=yR (k:=1) (m.zs.map zR) (fun r hr=>by obtain⟨z,_,rfl⟩:=JL.1 hr;rfl) i 0 zA zA
  unfold zC at h1
  rw[JO,Jr,Jx]at h1
  have h2:(m.zs.map zR)[i]'(by omega)=zR m.zs[i]:=If _
  rw[h2]at h1
  cases hq:(m.zs.map zR).flatten[i]? with
  |none=>rw[hq]at h1;cases h1
  |some z=>rw[hq]at h1;simpa[zR]using h1
 obtain⟨b0,o0,c0,hv0,cs,el,mk,hb0,hcc⟩:=hm.z.at (by intro h;have:=hx0 0 h0;change (m.zs.map zR).flatten=[]at h;rw[h]at this;cases this)
 have hs:m.z=⟨some ⟨b0,o0,none⟩,c0⟩:=by
  cases hz:m.z with
  |mk o c=>
   rw[hz]at hv0
   simp only[vsl,Value.slice.injEq]at hv0
   rw[hv0.1,hv0.2.2]
 exact⟨b0,o0,c0,hs,cs,el,mk,hb0,fun i hi=>hcc i _ (hx0 i hi)⟩
theorem Y7 (m:MpL)(i:Nat)(h:i<m.zs.length):m.c.zs.getD i []=m.zs[i].2:=by
 show(m.zs.map (·.2)).getD i []=_
 rw[Kx,JO,JA h];rfl
theorem Mq {H:Hp}(m:MpL)(hm:m.ok H)(k:MaOk m.c)(i:Nat)(x:Int)(j:Nat)(hi:i+1<m.xs.length)(hj:j<m.ys.length)(h0:m.xs.getD i 0<=x)(h1:x<=m.xs.getD (i+1) 0):
  CallX H HT 229 [I j,.c (.p 1 0),.c (.p 2 0),.c (.p 3 0)] [(1,⟨true,kJ m,82⟩),(2,⟨true,[.v (.int .i64 i)],3⟩),(3,⟨true,[.v (.int .i64 x)],3⟩)] (fun _:Unit=>I (ZY m.c i x j)) (fun _=>[]) (fun _ _=>True):=by
 have kx3:m.xs.length<=32:=k.x3
 have kz:m.zs.length=m.xs.length:=by have:=k.zl;simpa[MpL.c]using this
 have kr:∀q,(h:q<m.zs.length)->m.zs[q].2.length=m.ys.length:=fun q h=>by rw[<-Y7 m q h];exact k.zr q (by simpa[MpL.c]using h)
 have hM:ClM [(1,⟨true,kJ m,82⟩),(2,⟨true,[.v (.int .i64 i)],3⟩),(3,⟨true,[.v (.int .i64 x)],3⟩)]:=zD rfl
 obtain⟨bx,ox,cx,hsx,csx,elx,mkx,hbx,hcx⟩:=tG hm.x zA
 obtain⟨bz,oz,cz,hsz,csz,elz,mkz,hbz,hcz⟩:=We hm zA
 have hz1:=hcz i zA
 have hz2:=hcz (i+1) zA
 have r1:=kr i zA
 have r2:=kr (i+1) zA
 obtain⟨b1,o1,c1,hs1,KO,el1,mk1,hb1,hc1⟩:=tG (hm.e _ (JH (show i<m.zs.length by omega))) zA
 obtain⟨b2,o2,c2,hs2,cs2,el2,mk2,hb2,hc2⟩:=tG (hm.e _ (JH (show i+1<m.zs.length by omega))) zA
 have hzi:jm m.c i j=m.zs[i].2.getD j 0:=by unfold jm;rw[Y7 m i zA]
 have hzj:jm m.c (i+1) j=m.zs[i+1].2.getD j 0:=by unfold jm;rw[Y7 m (i+1) zA]
 have n1:=k.zn i (by simp[MpL.c];omega) j hj
 have n2:=k.zn (i+1) (by simp[MpL.c];omega) j hj
 change nb (jm m.c i j)at n1
 change nb (jm m.c (i+1) j)at n2
 have n3:=k.xn i (show i<m.xs.length by omega)
 have n4:=k.xn (i+1) hi
 have n5:=wl m.xs k.xi i hi
 have hbt:=lg (m.xs.getD i 0) (m.xs.getD (i+1) 0) (jm m.c i j) (jm m.c (i+1) j) x h0 h1 n5 n3 n4 n1 n2
 have hres:ZY m.c i x j=gt (m.xs.getD i 0) (m.xs.getD (i+1) 0) (jm m.c i j) (jm m.c (i+1) j) x:=rfl
 rw[hres]
 have g1:=hc1 j zA
 have g2:=hc2 j zA
 rw[<-hzi]at g1
 rw[<-hzj]at g2
 generalize jm m.c i j=za at*
 generalize jm m.c (i+1) j=zb at*
 rw[hs1,r1]at hz1
 rw[hs2,r2]at hz2
 have hmv:kJ m=[.v (.slice (some ⟨bx,ox,none⟩) m.xs.length cx),.v (.slice m.y.o m.ys.length m.y.c),.v (.slice (some ⟨bz,oz,none⟩) m.zs.length cz)]:=by unfold kJ;rw[hsx,hsz]
 rw[hmv]at hM⊢
 have ew:IntKind.i64.wrap ((i:Int)+1)=((i+1:Nat):Int):=wS zA
 refine kX func229 T6 ntmps229 fun C hR hP hH hL=>?_
 refine zB 100 (vv ?_)
 refine Sm.dg 110 29 zi (vv ?_)
 refine DOpQ.own 120 (Stp.idxV rfl rfl rfl tP zA zA) ?_
 simp only[go_sem,Jr,ew]
 refine zF 120 (fun _=>zS (hH _ _ hbx) (hcx i zA) rfl rfl rfl) ?_
 simp only[go_sem,ew]
 refine DOpQ.own 120 (Stp.idxV rfl rfl rfl tP zA zA) ?_
 simp only[go_sem,Jr,ew]
 refine zF 120 (fun _=>zS (hH _ _ hbx) (hcx (i+1) zA) rfl rfl rfl) ?_
 simp only[go_sem,ew]
 refine DOpQ.own 120 (Stp.idxV rfl rfl rfl Ww zA zA) ?_
 simp only[go_sem,Jr,ew]
 refine zF 120 (fun _=>zS (hH _ _ hbz) hz1 rfl rfl rfl) ?_
 simp only[go_sem,ew]
 refine DOpQ.own 120 (Stp.idxV rfl rfl rfl tP zA zA) ?_
 simp only[go_sem,Jr,ew]
 refine zF 120 (fun _=>zS (hH _ _ hb1) g1 rfl rfl rfl) ?_
 simp only[go_sem,ew]
 refine DOpQ.own 120 (Stp.idxV rfl rfl rfl Ww zA zA) ?_
 simp only[go_sem,Jr,ew]
 refine zF 120 (fun _=>zS (hH _ _ hbz) hz2 rfl rfl rfl) ?_
 simp only[go_sem,ew]
 refine DOpQ.own 120 (Stp.idxV rfl rfl rfl tP zA zA) ?_
 simp only[go_sem,Jr,ew]
 refine zF 120 (fun _=>zS (hH _ _ hb2) g2 rfl rfl rfl) (vv ?_)
 refine CallQ.pure 130 hbt rfl (vv ?_)
 exact yN (hR () C hL trivial) hM
theorem gM {m:Mp}(k:MaOk m){i:Nat}{x:Int}{j:Nat}(hi:i+1<m.xs.length)(hj:j<m.ys.length)(h0:m.xs.getD i 0<=x)(h1:x<=m.xs.getD (i+1) 0):nb (ZY m i x j):=
 dQ h0 h1 (wl m.xs k.xi i hi) (k.zn i (by have:=k.zl;omega) j hj) (k.zn (i+1) (by have:=k.zl;omega) j hj)
theorem Qg {H:Hp}(m:MpL)(hm:m.ok H)(k:MaOk m.c)(x y:Int):CallH H HT 169 [.agg (kJ m),I x,I y] (I (kQ m.c x y)):=by
 have kx2:2<=m.xs.length:=k.x2
 have kx3:m.xs.length<=32:=k.x3
 have ky2:2<=m.ys.length:=k.y2
 have ky3:m.ys.length<=32:=k.y3
 have sx:=o4 m.x m.xs hm.x kx2 kx3 k.xi x
 have sy:=o4 m.y m.ys hm.y ky2 ky3 k.yi y
 obtain⟨_,_,x3,x4,x5⟩:=qv kx2 k.xi x
 obtain⟨_,_,y3,y4,y5⟩:=qv ky2 k.yi y
 have hat:kQ m.c x y=gt (m.ys.getD (uZ m.ys y) 0) (m.ys.getD (uZ m.ys y+1) 0) (ZY m.c (uZ m.xs x) (tY m.xs x) (uZ m.ys y)) (ZY m.c (uZ m.xs x) (tY m.xs x) (uZ m.ys y+1)) (tY m.ys y):=rfl
 rw[hat]
 have q1:=Mq m hm k (uZ m.xs x) (tY m.xs x) (uZ m.ys y) x3 zA x4 x5
 have q2:=Mq m hm k (uZ m.xs x) (tY m.xs x) (uZ m.ys y+1) x3 y3 x4 x5
 have n1:=gM k (i:=uZ m.xs x) (x:=tY m.xs x) (j:=uZ m.ys y) x3 (show uZ m.ys y<m.ys.length by omega) x4 x5
 have n2:=gM k (i:=uZ m.xs x) (x:=tY m.xs x) (j:=uZ m.ys y+1) x3 y3 x4 x5
 have hbt:=lg (m.ys.getD (uZ m.ys y) 0) (m.ys.getD (uZ m.ys y+1) 0) _ _ (tY m.ys y) y4 y5 (wl m.ys k.yi _ y3) (k.yn _ (show uZ m.ys y<m.ys.length by omega)) (k.yn _ y3) n1 n2
 obtain⟨by0,oy,cy,hsy,csy,ely,mky,hby,hcy⟩:=tG hm.y zA
 have g1:=hcy (uZ m.ys y) zA
 have g2:=hcy (uZ m.ys y+1) zA
 generalize ZY m.c (uZ m.xs x) (tY m.xs x) (uZ m.ys y)=za at*
 generalize ZY m.c (uZ m.xs x) (tY m.xs x) (uZ m.ys y+1)=zb at*
 generalize tY m.xs x=x' at*
 generalize tY m.ys y=y' at*
 generalize uZ m.xs x=i at*
 generalize uZ m.ys y=j at*
 have ew:IntKind.i64.wrap ((j:Int)+1)=((j+1:Nat):Int):=wS zA
 have hmv:kJ m=[.v (.slice m.x.o m.xs.length m.x.c),.v (.slice (some ⟨by0,oy,none⟩) m.ys.length cy),.v (.slice m.z.o m.zs.length m.z.c)]:=by unfold kJ;rw[hsy]
 have hM:ClM [(1,⟨true,kJ m,82⟩),(2,⟨true,[.v (.int .i64 i)],3⟩),(3,⟨true,[.v (.int .i64 x')],3⟩)]:=zD rfl
 have hsyv:vsl m.y m.ys.length= .slice (some ⟨by0,oy,none⟩) m.ys.length cy:=by rw[hsy]
 rw[hsyv]at sy
 rw[hmv]at q1 q2 hM⊢
 refine kH func169 S2 ntmps169 fun C hR hP hH hL=>?_
 refine zB 100 (vv ?_)
 refine zM 110 sx hH rfl (vv ?_)
 refine zM 120 sy hH rfl (vv ?_)
 refine Sm.dg 130 19 zi (vv ?_)
 refine DOpQ.own 140 (Stp.idxV rfl rfl rfl tP zA zA) ?_
 simp only[go_sem,Jr,ew]
 refine zF 140 (fun _=>zS (hH _ _ hby) g1 rfl rfl rfl) ?_
 simp only[go_sem,ew]
 refine DOpQ.own 140 (Stp.idxV rfl rfl rfl tP zA zA) ?_
 simp only[go_sem,Jr,ew]
 refine zF 140 (fun _=>zS (hH _ _ hby) g2 rfl rfl rfl) (vv ?_)
 refine DCallQ.hr [(1,100),(2,110),(3,101)] 150 q1 hH hM rfl rfl ⟨⟨_,rfl,.inr ⟨rfl,[],rfl⟩⟩,⟨_,rfl,.inr ⟨rfl,[],rfl⟩⟩,⟨_,rfl,.inr ⟨rfl,[],rfl⟩⟩,trivial⟩ rfl (.inr rfl) rfl rfl ?_
 simp only[Mem.ren,Kz,V.ren,Cv.ren]
 simp only[go_sem,ew]
 refine DCallQ.hr [(1,100),(2,110),(3,101)] 150 q2 hH hM rfl rfl ⟨⟨_,rfl,.inr ⟨rfl,[],rfl⟩⟩,⟨_,rfl,.inr ⟨rfl,[],rfl⟩⟩,⟨_,rfl,.inr ⟨rfl,[],rfl⟩⟩,trivial⟩ rfl (.inr rfl) rfl rfl ?_
 simp only[Mem.ren,Kz,V.ren,Cv.ren]
 refine vv ?_
 refine CallQ.pure 160 hbt rfl (vv ?_)
 exact ww (hR C hL) rfl
theorem _root_.Go.Proofs.YtbnkiacicnnmkaaGreat.Vg.Stp.appendZ {P:Program}{o:Oper}{e:Env}{M:Mem}(nm:Nat){s x:Operand}{t tn el:TypeId}{sz n:Nat}{k kn:IntKind}{zs:List Value}(ho:o.op= .call {callee:= .builtin .append,args:= #[s,x],argTypes:= #[t,tn]})
  (ht:yX P t=some (el,sz)) (htn:P.underlying tn=some (.int kn)) (hz:zd P el=some zs) (hs:rd e s=some (true,.c (.v (.slice none 0 0)))) (hx:rd e x=some (true,.c (.v (.int k n)))) (hn:M.get nm=none) (h0:0<n) (hby:n*wD P el<=140737488355328) (h63:(n:Int)<=9223372036854775807):
  ∃K:List Cv,K.all Cv.isV=true/\n*sz<=K.length/\Stp P o e M (.c (.sl nm 0 n sz)) [(nm,⟨false,K,el⟩)]:=by
 obtain⟨hu,hsz,hsz0⟩:=yW ht
 obtain⟨i,z,hi,hz1,hz2,hz3⟩:=wa hz
 have hsi:i.size=sz:=by rw[<-wb hi];exact hsz
 subst hsi
 have hlz:((Builtin.zeroCells z.cells n).toList.map Cv.v).length=n*i.size:=by rw[Kv,xY,hz2]
 refine⟨(Builtin.zeroCells z.cells n).toList.map Cv.v,kG _,by rw[hlz];exact JZ _,?_⟩
 intro S w0 β M' a w hsub hfr hrel hok K Q hk
 have hn':M'.get nm=none:=by
  rcases hfr nm (by simp[Mem.get])with h|h
  ·rw[hn]at h;cases h
  ·exact h
 have hne:∀j b,M'.get j=some b->j≠nm:=fun j b hj hh=>by rw[hh,hn']at hj;cases hj
 have hev:=hok β (Agree.refl _ _) s (by simp[ho,Op.operands,Call.operands]) _ hs
 have hex:=hok β (Agree.refl _ _) x (by simp[ho,Op.operands,Call.operands]) _ hx
 simp only[gv,V.g,Cv.g,cond_true]at hev hex
 have hg:=Go.Lib.run_append_nil_zeros (P:=P) w t tn o.type el i z k kn hu htn hi hz1 n h0 zA h63 (by rw[<-vu hi];omega)
 have hge:=grownCap_ge w n 0 el
 have hal:=(hrel.drew).allocJ nm hn' ((Builtin.zeroCells z.cells n).toList.map Cv.v) (Builtin.zeroCells z.cells (grownCap w n 0 el-n)).toList el (fun β' _=>by rw[pM,pM])
 unfold Oper.wp execOp
 simp only[ho,resolve,invoke,builtin,Sem.run_bind,Sem.run_pure,Result.andThen_ok,HE,Ky,Kz,hev,hex,hg]
 have e1:Builtin.zeroCells z.cells n++Builtin.zeroCells z.cells (grownCap w n 0 el-n)=(((Builtin.zeroCells z.cells n).toList.map Cv.v).map (Cv.g β)++(Builtin.zeroCells z.cells (grownCap w n 0 el-n)).toList).toArray:=by
  apply J7.1
  rw[pM]
  simp
 rw[e1]
 refine hk (fun j=>if j=nm then⟨w.heap.size,0,((Builtin.zeroCells z.cells n).toList.map Cv.v).length+(Builtin.zeroCells z.cells (grownCap w n 0 el-n)).toList.length,false,none⟩else β j) _ _ (fun j hj=>?_) hal (fun β'' hag=>?_)
 ·obtain⟨c,hc⟩:=JE.1 hj
  exact if_neg (hne j c hc)
 ·have:=hag nm (by simp[Mem.get])
  simp only[V.g,Cv.g,this,if_true,JS,false_and,if_false,J4,Nat.sub_zero]
  rw[hlz,xY,hz2,<-HS,Ih _ zA]
  congr 1
  omega
theorem _root_.Go.Proofs.YtbnkiacicnnmkaaGreat.Vg.Stp.capNil {P:Program}{o:Oper}{e:Env}{M:Mem}{x:Operand}{t el:TypeId}{sz:Nat}(ho:o.op= .call {callee:= .builtin .cap,args:= #[x],argTypes:= #[t]})(ht:yX P t=some (el,sz))(hx:rd e x=some (true,.c (.v (.slice none 0 0)))):Stp P o e M (.c (.v (.int .i64 0))) []:=by
 obtain⟨hu,_,_⟩:=yW ht
 exact Stp.pure fun β a hop w=>by
  have hex:=hop x (by simp[ho,Op.operands,Call.operands]) _ hx
  simp only[gv,V.g,Cv.g,cond_true]at hex
  unfold execOp
  simp[ho,resolve,invoke,builtin,hex,Builtin.cap_,V.g,Cv.g,run_underlying hu,goInt]
theorem _root_.Go.Proofs.YtbnkiacicnnmkaaGreat.Vg.Stp.slNil {P:Program}{o:Oper}{e:Env}{M:Mem}{x hi:Operand}{t el:TypeId}{sz:Nat}{k:IntKind}(ho:o.op= .slice t x none (some hi) none)(ht:yX P t=some (el,sz))(hx:rd e x=some (true,.c (.v (.slice none 0 0))))(hh:rd e hi=some (true,.c (.v (.int k 0)))):Stp P o e M (.c (.v (.slice none 0 0))) []:=by
 obtain⟨hu,hsz,hsz0⟩:=yW ht
 exact Stp.pure fun β a hop w=>by
  have hex:=hop x (by simp[ho,Op.operands]) _ hx
  have hhx:=hop hi (by simp[ho,Op.operands]) _ hh
  simp only[gv,V.g,Cv.g,cond_true]at hex hhx
  have hb:=run_sliceBound (P:=P) w k 0 0 .sliceAcap zA zA
  unfold execOp
  simp[ho,hex,hhx,Instr.sliceAt,Instr.slice,Instr.sliceBounds,run_underlying hu,V.g,Cv.g,yK hsz hsz0]
  rw[hb]
  simp
theorem _root_.Go.Proofs.YtbnkiacicnnmkaaGreat.Vg.Sm.appZ {P:Program}{nt:Nat}{C:Cx}{rg:Array Oper}{o:Oper}{l:List Oper}{r:List It}{e:Env}{M:Mem}(nm:Nat){s x:Operand}{t tn el:TypeId}{sz n:Nat}{k kn:IntKind}{zs:List Value}(hg:gd rg e o=some true)(hd:yy nt o.dst=true)(ho:o.op= .call {callee:= .builtin .append,args:= #[s,x],argTypes:= #[t,tn]})
  (ht:yX P t=some (el,sz)) (htn:P.underlying tn=some (.int kn)) (hz:zd P el=some zs) (hs:rd e s=some (true,.c (.v (.slice none 0 0)))) (hx:rd e x=some (true,.c (.v (.int k n)))) (hn:M.get nm=none) (h0:0<n) (hby:n*wD P el<=140737488355328) (h63:(n:Int)<=9223372036854775807)
  (h:∀K:List Cv,K.all Cv.isV=true->n*sz<=K.length->Sm P nt C (.ops rg l::r) (e.put o.dst true (.c (.sl nm 0 n sz))) ([(nm,⟨false,K,el⟩)]++M)):Sm P nt C (.ops rg (o::l)::r) e M:=by
 obtain⟨K,k1,k2,k3⟩:=Stp.appendZ (P:=P) (e:=e) (M:=M) nm ho ht htn hz hs hx hn h0 hby h63
 exact uW hg hd ⟨_,_,fun _=>k3,.inl rfl,h K k1 k2⟩
theorem Vy {H:Hp}(n:Nat)(h0:0<n)(hn:n<=1000000):CallX H HT 165 [.c (.v (.slice none 0 0)),I n] [] (fun _:{K:List Cv//K.all Cv.isV=true/\n<=K.length}=> .c (.sl 1 0 0 1)) (fun K=>[(1,⟨false,K.val,3⟩)]) (fun _ _=>True):=by
 refine kX func165 YO ntmps165 fun C hR hP hH hL=>?_
 refine zB 100 ?_
 simp only[go_sem,show decide ((n:Int)<0)=false from decide_eq_false zA]
 refine uW rfl rfl ⟨[],_,fun _=>Stp.capNil rfl tP rfl,.inl rfl,zB 110 ?_⟩
 simp only[go_sem,show IntKind.i64.wrap ((n:Int)-0)=n by rw[Int.sub_zero];exact y6 zA zA,show decide ((0:Int)<n)=true from decide_eq_true zA]
 refine uW rfl rfl ⟨[],_,fun _=>Stp.capNil rfl tP rfl,.inl rfl,zB 110 ?_⟩
 refine vv ?_
 refine uW rfl rfl ⟨[],_,fun _=>Stp.slNil rfl tP rfl rfl,.inl rfl,zB 110 ?_⟩
 refine vv ?_
 refine Sm.appZ 120 rfl rfl rfl tP rfl LG rfl rfl rfl h0 (by show n*8<=_;omega) zA (fun K k1 k2=>zB 130 ?_)
 refine vv ?_
 exact⟨⟨zA,zA⟩,RetQ.ren [(1,120)] (hR ⟨K,k1,zA⟩ C hL trivial) hP rfl yI rfl rfl trivial ⟨oV (yD k1),trivial⟩ (zD (by simp only[JF,JG,Kw,z6 k1];rfl)) (zG rfl)⟩
def pX (zs:List (Sv×List Int))(i:Nat):List Int:=((zs.take i).map (·.2)).flatten
theorem lN {zs:List (Sv×List Int)}{i:Nat}(h:i<zs.length):pX zs (i+1)=pX zs i++zs[i].2:=by
 unfold pX
 rw[JR h,JN,Ib]
 simp
theorem ix (zs:List (Sv×List Int))(i:Nat):(pX zs i).length<=(zs.map (·.2)).flatten.length:=by
 unfold pX
 conv=>rhs;rw[<-Ii i zs]
 rw[JN,Ib,JM]
 omega
theorem gG {H:Hp}(v:Sv)(zs:List (Sv×List Int))(hz:SlH H (vsl v zs.length) 1 (zs.map zR))(he:∀z∈zs,SlH H (vsl z.1 z.2.length) 1 (zP z.2))(h0:0<(zs.map (·.2)).flatten.length)(hn:(zs.map (·.2)).flatten.length<=1000000)(hl:zs.length<=1000000):
  CallX H HT 79 [.c (.v (vsl v zs.length))] [] (fun _:Unit=> .c (.sl 1 0 (zs.map (·.2)).flatten.length 1)) (fun _=>[(1,⟨false,(zs.map (·.2)).flatten.map iC,3⟩)]) (fun _ _=>True):=by
 refine kX func79 WD ntmps79 fun C hR hP hH hL=>?_
 refine zB 100 (vv ?_)
 have hzl:(zs.map zR).length=zs.length:=Kv _
 have hall:pX zs zs.length=(zs.map (·.2)).flatten:=by unfold pX;rw[JY]
 refine Sm.bringR 1 26 9 (rows:=zs.map zR) (by have:=hz.mono hH;exact this) rfl rfl ?_
 rw[hzl]
 refine zK (M0:=[]) (α:={i:Nat//i<=zs.length}) hP (fun i=>[(0,true,.c (.v (vsl v zs.length))),(3,true,I (pX zs i.val).length),(9,true,.c (.sl 1 0 zs.length 1)),(10,true,I zs.length),(11,true,I i.val)])
  (fun _=>[(1,⟨true,zC (zs.map zR),26⟩)]) (fun i=>zs.length-i.val) ⟨0,zA⟩ (fun _=>cM) (fun _=>zO rfl) [(1,1)] ?_ ?_
 ·exact zh
 rintro⟨i,hi⟩ J hb
 simp only at hb hi⊢
 refine zB 120 (vv ?_)
 refine zV (fun hc=>?_) (fun hc=>?_)
 ·have hc:=zH hc
  have hf:=lN hc
  have hlf:(pX zs (i+1)).length=(pX zs i).length+zs[i].2.length:=by rw[hf,JM]
  have hle:=ix zs (i+1)
  have e3:(zC (zs.map zR))[i]?=some (.v (vsl zs[i].1 zs[i].2.length)):=nJ (m:=⟨[],[],[],zs,v,v,v⟩) hc
  simp only[go_sem,e3,show IntKind.i64.wrap (((pX zs i).length:Int)+(zs[i].2.length:Int))=((pX zs (i+1)).length:Int) by rw[y6 zA zA];omega,show decide (((pX zs (i+1)).length:Int)<0)=false from decide_eq_false zA,yu (i:=i)]
  exact⟨⟨zA,zA⟩,hb _ _ ⟨i+1,hc⟩ [(1,1)] yL zh⟩
 have hc:=zI hi hc
 subst hc
 rw[hall]
 refine uD [(1,130)] 140 hL (Vy (H:=H) _ h0 hn) hH rfl trivial ClM.nil (fun _=>rfl) rfl rfl rfl fun K C2 H2 l2 g2 _ _=>?_
 obtain⟨K,k1,k2⟩:=K
 simp only[Mem.ren,Ky,Kz,yD k1,V.ren,Cv.ren,rn,Nat.reduceBEq,cond_true,cond_false]
 refine vv ?_
 refine Sm.bringR 8 26 25 (rows:=zs.map zR) (by have:=hz.mono (hH.trans g2);exact this) rfl rfl ?_
 rw[hzl]
 have hl0:zs.length≠0:=by intro h;rw[JX]at h;subst h;simp at h0
 refine zK (M0:=[]) (α:={z:Nat×List Cv//z.1<=zs.length/\z.2.all Cv.isV=true/\(z.1≠0->z.2=(pX zs z.1).map iC)}) (l2.pins hP) (fun z=>[(6,true,.c (.sl 130 0 (pX zs z.val.1).length 1)),(25,true,.c (.sl 8 0 zs.length 1)),(26,true,I zs.length),(27,true,I z.val.1)])
  (fun z=>[(8,⟨true,zC (zs.map zR),26⟩),(130,⟨false,z.val.2,3⟩)]) (fun z=>zs.length-z.val.1) ⟨(0,K),z9,k1,z9⟩ (fun z=>zD (by simp only[Kw,iR,z6 z.2.2.1];rfl)) (fun _=>zO rfl) [(8,8),(130,130)] ?_ ?_
 ·exact⟨rfl,trivial,⟨rfl,rfl,rfl,rfl,trivial⟩,⟨oX,oV (yD k1),trivial⟩⟩
 rintro⟨⟨i,K1⟩,hi,p1,p2⟩ J hb
 simp only at hb hi p1 p2⊢
 refine yP 18 _ _ _ 150 (vv ?_)
 refine zV (fun hc=>?_) (fun hc=>?_)
 ·have hc:=zH hc
  have hf:=lN hc
  have hlf:(pX zs (i+1)).length=(pX zs i).length+zs[i].2.length:=by rw[hf,JM]
  have hle:=ix zs (i+1)
  have e3:(zC (zs.map zR))[i]?=some (.v (vsl zs[i].1 zs[i].2.length)):=nJ (m:=⟨[],[],[],zs,v,v,v⟩) hc
  simp only[go_sem,e3]
  have hmem:zs[i]∈zs:=JH hc
  have htk:K1.take (pX zs i).length=(pX zs i).map iC:=by
   cases i with
   |zero=>rfl
   |succ q=>rw[p2 zA];exact JJ z9
  have htl:(pX zs i).length<=K1.length:=by
   cases i with
   |zero=>exact Nat.zero_le _
   |succ q=>rw[p2 zA,Kv];exact JZ _
  have hti:(zs[i].2.map iC).take zs[i].2.length=zs[i].2.map iC:=JJ z9
  have hon:(zs[i].2.map iC).all Cv.one=true:=JD.2 fun c hc=>by obtain⟨n,_,rfl⟩:=JL.1 hc;rfl
  have hnew:(pX zs i).map iC++zs[i].2.map iC=(pX zs (i+1)).map iC:=by rw[hf,JN]
  refine⟨⟨zA,zA⟩,?_⟩
  refine Sm.bringI 140 3 32 (((he _ hmem).mono hH).mono g2) rfl rfl (zB 150 ?_)
  simp only[go_sem,htk,hti,hon,hnew,<-hlf,yu (i:=i)]
  exact⟨⟨htl,z9,zA,zA⟩,hb _ _ ⟨(i+1,(pX zs (i+1)).map iC),hc,zq _,fun _=>rfl⟩ [(8,8),(130,150)] yL zh⟩
 ·have hc:=zI hi hc
  subst hc
  have hK:=p2 hl0
  subst hK
  have hR:=hR () C2 l2 trivial
  rw[<-hall]at hR
  exact RetQ.ren [(1,130)] hR (l2.pins hP) rfl yI rfl rfl trivial ⟨oV (yD (zq _)),trivial⟩ (zD (by simp only[JF,JG,Kw,iR,z6 (zq _)];rfl)) (zG rfl)
def Zs:Int->List Int->Int
 |a,[]=>a
 |a,x::l=>Zs (min a x) l
def jG:Int->List Int->Int
 |a,[]=>a
 |a,x::l=>jG (max a x) l
theorem min_ (l:List Int)(h0:0<l.length)(hl:l.length<=1000000):CallOk HT 290 [.c (.sl 1 0 l.length 1)] [(1,⟨true,l.map iC,3⟩)] (I (Zs (l.getD 0 0) (l.drop 1))) []:=by
 have g0:=yY h0
 have hM:ClM [(1,⟨true,l.map iC,3⟩)]:=zD (by simp only[Kw,z6 (zq _)];rfl)
 generalize hq:Zs (l.getD 0 0) (l.drop 1)=q
 refine kN 100 func290 U9 ntmps290 fun C hR hP=>?_
 simp only[go_sem,g0,show decide ((l.length:Int)<1)=false from decide_eq_false zA]
 refine⟨zA,?_⟩
 refine zK (M0:=[(1,⟨true,l.map iC,3⟩)]) (α:={z:Nat×Int//0<z.1/\z.1<=l.length/\Zs z.2 (l.drop z.1)=q}) hP (fun z=>[(0,true,.c (.sl 1 0 l.length 1)),(3,true,I z.val.2),(4,true,I z.val.1)])
  (fun _=>[(1,⟨true,l.map iC,3⟩)]) (fun z=>l.length-z.val.1) ⟨(1,l.getD 0 0),z9,by simp only;omega,hq⟩ (fun _=>hM) (fun _=>zO rfl) [(1,1)] ?_ ?_
 ·exact zh
 rintro⟨⟨i,a⟩,hi0,hi,hx⟩ J hb
 simp only at hb hi hi0 hx⊢
 refine zB 120 (vv ?_)
 refine zV (fun hc=>?_) (fun hc=>?_)
 ·have hc:=zH hc
  have gi:=yY hc
  have hd:l.drop i=l.getD i 0::l.drop (i+1):=by
   rw[JC hc,Kx,JA hc];rfl
  rw[hd,Zs]at hx
  simp only[go_sem,gi,yu (i:=i)]
  exact⟨⟨zA,zA⟩,hb _ _ ⟨(i+1,min a (l.getD i 0)),by simp only;omega,hc,hx⟩ [(1,1)] yL zh⟩
 ·have hc:=zI hi hc
  rw[hc,JI,Zs]at hx
  subst hx
  exact yN hR hM
theorem max_ (l:List Int)(h0:0<l.length)(hl:l.length<=1000000):CallOk HT 291 [.c (.sl 1 0 l.length 1)] [(1,⟨true,l.map iC,3⟩)] (I (jG (l.getD 0 0) (l.drop 1))) []:=by
 have g0:=yY h0
 have hM:ClM [(1,⟨true,l.map iC,3⟩)]:=zD (by simp only[Kw,z6 (zq _)];rfl)
 generalize hq:jG (l.getD 0 0) (l.drop 1)=q
 refine kN 100 func291 U7 ntmps291 fun C hR hP=>?_
 simp only[go_sem,g0,show decide ((l.length:Int)<1)=false from decide_eq_false zA]
 refine⟨zA,?_⟩
 refine zK (M0:=[(1,⟨true,l.map iC,3⟩)]) (α:={z:Nat×Int//0<z.1/\z.1<=l.length/\jG z.2 (l.drop z.1)=q}) hP (fun z=>[(0,true,.c (.sl 1 0 l.length 1)),(3,true,I z.val.2),(4,true,I z.val.1)])
  (fun _=>[(1,⟨true,l.map iC,3⟩)]) (fun z=>l.length-z.val.1) ⟨(1,l.getD 0 0),z9,by simp only;omega,hq⟩ (fun _=>hM) (fun _=>zO rfl) [(1,1)] ?_ ?_
 ·exact zh
 rintro⟨⟨i,a⟩,hi0,hi,hx⟩ J hb
 simp only at hb hi hi0 hx⊢
 refine zB 120 (vv ?_)
 refine zV (fun hc=>?_) (fun hc=>?_)
 ·have hc:=zH hc
  have gi:=yY hc
  have hd:l.drop i=l.getD i 0::l.drop (i+1):=by
   rw[JC hc,Kx,JA hc];rfl
  rw[hd,jG]at hx
  simp only[go_sem,gi,yu (i:=i)]
  exact⟨⟨zA,zA⟩,hb _ _ ⟨(i+1,max a (l.getD i 0)),by simp only;omega,hc,hx⟩ [(1,1)] yL zh⟩
 ·have hc:=zI hi hc
  rw[hc,JI,jG]at hx
  subst hx
  exact yN hR hM
def rF (l:List Int)(r:Int×Int):List Int:=r.1::r.2::l.filter fun x=>decide (r.1<x)&&decide (x<r.2)
theorem iS {H:Hp}(s:Sv)(l:List Int)(hs:SlH H (vsl s l.length) 1 (zP l))(hl:l.length<=1000000)(r:Int×Int):CallX H HT 289 [.c (.v (vsl s l.length)),rA r] [] (fun _:Unit=> .c (.sl 1 0 (rF l r).length 1)) (fun _=>[(1,⟨false,(rF l r).map iC,3⟩)]) (fun _ _=>True):=by
 have hil:(zP l).length=l.length:=by simp[zP]
 generalize hq:rF l r=q
 refine kX func289 Ua ntmps289 fun C hR hP hH hL=>?_
 have hR:=hR () C hL trivial
 refine zB 100 (vv ?_)
 refine Sm.bringI 5 3 13 (hs.mono hH) rfl rfl ?_
 refine zK (M0:=[]) (α:={z:Nat×List Int//z.1<=l.length/\z.2.length<=z.1+2/\(z.2++(l.drop z.1).filter fun x=>decide (r.1<x)&&decide (x<r.2))=q}) hP (fun z=>[(3,true,.c (.p 3 0)),(5,true,.c (.sl 6 0 z.val.2.length 1)),(13,true,.c (.sl 5 0 l.length 1)),(14,true,I l.length),(15,true,I z.val.1)])
  (fun z=>[(5,⟨true,l.map iC,3⟩),(6,⟨false,z.val.2.map iC,3⟩),(3,⟨false,rC r,129⟩)]) (fun z=>l.length-z.val.1) ⟨(0,[r.1,r.2]),z9,z9,hq⟩ (fun _=>zD (by simp only[Kw,z6 (zq _)];rfl)) (fun _=>zO rfl) [(5,5),(6,101),(3,100)] ?_ ?_
 ·exact zh
 rintro⟨⟨i,a⟩,hi,hal,hx⟩ J hb
 simp only at hb hi hal hx⊢
 refine zB 120 (vv ?_)
 refine zV (fun hc=>?_) (fun hc=>?_)
 ·have hc:=zH hc
  have gi:=yY hc
  have hd:l.drop i=l.getD i 0::l.drop (i+1):=by
   rw[JC hc,Kx,JA hc];rfl
  rw[hd,List.filter_cons]at hx
  generalize l.getD i 0=x at*
  simp only[go_sem,gi]
  refine⟨⟨zA,zA⟩,?_⟩
  cases h1:decide (r.1<x)with
  |false=>
   rw[h1,IB,if_neg z9]at hx
   simp only[go_sem,yu (i:=i)]
   exact hb _ _ ⟨(i+1,a),hc,by simp only;omega,hx⟩ [(5,5),(6,6),(3,3)] yL zh
  |true=>
   cases h2:decide (x<r.2)with
   |false=>
    rw[h1,h2,Bool.and_false,if_neg z9]at hx
    simp only[go_sem,yu (i:=i)]
    exact hb _ _ ⟨(i+1,a),hc,by simp only;omega,hx⟩ [(5,5),(6,6),(3,3)] yL zh
   |true=>
    rw[h1,h2,Bool.and_true,if_pos rfl]at hx
    have htk:(a.map iC).take a.length=a.map iC:=JJ z9
    have hap:a.map iC++[iC x]=(a++[x]).map iC:=z9
    have hln:a.length+1=(a++[x]).length:=by simp
    simp only[go_sem,htk,hap,yu (i:=i)]
    refine⟨⟨z9,zA,zA⟩,?_⟩
    rw[hln]
    exact hb _ _ ⟨(i+1,a++[x]),hc,by simp only;omega,by simp only[I1,List.singleton_append];exact hx⟩ [(5,5),(6,121),(3,3)] yL zh
 ·have hc:=zI hi hc
  rw[hc,JI,List.filter_nil,JK]at hx
  subst hx
  exact RetQ.ren [(1,6)] hR hP rfl yI rfl rfl trivial ⟨oV (yD (zq _)),trivial⟩ (zD (by simp only[JF,JG,Kw,z6 (zq _)];rfl)) (zG rfl)
end Go.Proofs.YtbnkiacicnnmkaaGreat.Fx
