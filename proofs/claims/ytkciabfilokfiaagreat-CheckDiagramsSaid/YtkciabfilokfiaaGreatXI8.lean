/-  -/
import Derived.Test.YtkciabfilokfiaaGreatTE
open Go.Proofs.Tryz
open Go.Proofs.Tryz renaming prog→Hf
set_option linter.unusedSimpArgs false
set_option linter.unusedVariables false
set_option maxRecDepth 100000
set_option maxHeartbeats 4000000
namespace Go.Proofs.YtkciabfilokfiaaGreat.Fx
open Vg Tf
theorem PT {a b:Int}(hb:0<b):(a.tmod b<0->a.tdiv b=a/b+1)/\(¬a.tmod b<0->a.tdiv b=a/b):=by
 have h1:=Int.mul_tdiv_add_tmod a b
 have h2:=IP a b
 have h3:=HA a (show b≠0 by omega)
 have h4:=Ij a hb
 have h5:=Int.tmod_lt_of_pos a hb
 rcases HJ a 0 with h|h
 ·by_cases hz:a%b=0
  ·have hd:b ∣ a:=Int.dvd_of_emod_eq_zero hz
   have e:a.tdiv b=a/b:=by rw[Int.tdiv_eq_ediv,if_pos (.inr hd),Int.add_zero]
   rw[e]at h1⊢
   exact⟨fun hh=>zA,fun _=>rfl⟩
  ·have e:a.tdiv b=a/b+1:=by
    rw[Int.tdiv_eq_ediv]
    have:¬b ∣ a:=fun hd=>hz (Int.emod_eq_zero_of_dvd hd)
    rw[if_neg zA,Int.sign_eq_one_of_pos hb]
   rw[e]at h1⊢
   rw[HO]at h1
   exact⟨fun _=>rfl,fun hh=>zA⟩
 ·rw[II h,I5 h]
  exact⟨fun hh=>zA,fun _=>rfl⟩
theorem Zu {a b:Int}(ha: -4611686018427387904<=a/\a<=4611686018427387904)(hb:0<b): -4611686018427387904<=a/b/\a/b<=4611686018427387904:=by
 constructor
 ·rw[Ix hb]
  have:=IF (show(1:Int)<=b by omega) (show(0:Int)<=4611686018427387904 by decide)
  omega
 ·refine Il hb ?_
  have:=IF (show(1:Int)<=b by omega) (show(0:Int)<=4611686018427387904 by decide)
  omega
theorem UA (a b:Int)(ha: -4611686018427387904<=a/\a<=4611686018427387904)(hb:0<b):CallOk Hf 273 [I a,I b] [] (I (a/b)) []:=by
 have key:=PT (a:=a) hb
 have q:=Zu ha hb
 refine kN 100 func273 T6 ntmps273 fun C hR hP=>?_
 cases hm:decide (a.tmod b<0)with
 |true=>
  have e:=key.1 (of_decide_eq_true hm)
  simp only[go_sem,hm,e]
  refine⟨zA,zA,?_⟩
  refine uT hR ?_
  rw[show IntKind.i64.wrap (a/b+1)=a/b+1 from ya zA zA,ya zA zA]
  omega
 |false=>
  have e:=key.2 (of_decide_eq_false hm)
  simp only[go_sem,hm,e]
  refine⟨zA,zA,?_⟩
  exact RetQ.int hR rfl ⟨rfl,trivial⟩ (by rw[ya zA zA])
@[reducible] def Vn (xs ys:List Int):Mem:=[(1,⟨true,xs.map iC,3⟩),(2,⟨true,ys.map iC,3⟩)]
theorem XT (xs ys:List Int)(hl:xs.length=ys.length)(h2:2<=xs.length)(h3:xs.length<=32)(hi:vZ xs=true)(nx:∀i,i<xs.length->nb (xs.getD i 0))(ny:∀i,i<xs.length->nb (ys.getD i 0))(x:Int):
  CallOk Hf 249 [.c (.sl 1 0 xs.length 1),.c (.sl 2 0 ys.length 1),I x] (Vn xs ys) (I (yk ⟨[],xs,ys⟩ x)) []:=by
 have ew:IntKind.i64.wrap ((xs.length:Int)-1)=((xs.length-1:Nat):Int):=by rw[ya zA zA];omega
 have hgx:∀i,i<xs.length->(xs.map iC)[i]?=some (iC (xs.getD i 0)):=fun i h=>yR h
 have hgy:∀i,i<xs.length->(ys.map iC)[i]?=some (iC (ys.getD i 0)):=fun i h=>yR zA
 have hM:ClM (Vn xs ys):=zC (by simp only[Ky,zh (yX _)];rfl)
 refine kN 100 func249 Ty ntmps249 fun C hR hP=>?_
 simp only[go_sem,hgx 0 zA,Int.toNat_zero]
 refine⟨zA,?_⟩
 refine zU (fun h0=>?_) (fun h0=>?_)
 ·simp only[go_sem,hgy 0 zA]
  refine⟨zA,?_⟩
  refine zX hR rfl xb ?_ (SubS.sub ⟨oS,oS,trivial⟩) hM (zI rfl)
  unfold yk;simp only;rw[h0];rfl
 simp only[go_sem,ew,hgx (xs.length-1) zA]
 refine⟨⟨zA,zA⟩,?_⟩
 refine zU (fun h1=>?_) (fun h1=>?_)
 ·simp only[go_sem,ew,hgy (xs.length-1) zA]
  refine⟨⟨zA,zA⟩,?_⟩
  refine zX hR rfl xb ?_ (SubS.sub ⟨oS,oS,trivial⟩) hM (zI rfl)
  unfold yk;simp only;rw[h0,h1];rfl
 have h0':=of_decide_eq_false h0
 have h1':=of_decide_eq_false h1
 refine vv ?_
 refine zG (M0:=Vn xs ys) (α:={i:Nat//i+1<xs.length/\xs.getD i 0<=x}) hP (fun i=>[(0,true,.c (.sl 1 0 xs.length 1)),(1,true,.c (.sl 2 0 ys.length 1)),(2,true,I x),(8,true,I i.val)])
  (fun _=>Vn xs ys) (fun i=>xs.length-i.val) ⟨0,zA,zA⟩ (fun _=>hM) (fun _=>zO rfl) [(1,1),(2,2)] ?_ ?_
 ·exact z9
 rintro⟨i,hii,hx⟩ J hj
 simp only at hj hii hx⊢
 have wi:IntKind.i64.wrap ((i:Int)+1)=((i+1:Nat):Int):=wS zA
 refine zB 110 ?_
 simp only[go_sem,wi,hgx (i+1) hii]
 refine⟨⟨zA,zA⟩,?_⟩
 refine zU (fun hd=>?_) (fun hd=>?_)
 ·have hd:=of_decide_eq_true hd
  have hl2:i+2<xs.length:=Jf fun hn=>by
   rw[show i+1=xs.length-1 by omega]at hd
   omega
  exact hj _ _ ⟨i+1,hl2,hd⟩ [(1,1),(2,2)] yF z9
 ·have hd:=of_decide_eq_false hd
  clear hj
  have hv:=p7 (nm:=[]) (ys:=ys) h2 hi hii hx (show x<=xs.getD (i+1) 0 by omega)
  rw[hv]at hR
  have b0:=nx i zA
  have b1:=nx (i+1) hii
  have b2:=ny i zA
  have b3:=ny (i+1) hii
  unfold nb at b0 b1 b2 b3
  obtain⟨m1,m2,m3⟩:=gQ (x:=x) hx zA b0.1 b1.2 b2 b3
  have gx0:=hgx i zA
  have gx1:=hgx (i+1) hii
  have gy0:=hgy i zA
  have gy1:=hgy (i+1) hii
  generalize xs.getD i 0=x0 at*
  generalize xs.getD (i+1) 0=x1 at*
  generalize ys.getD i 0=y0 at*
  generalize ys.getD (i+1) 0=y1 at*
  have wx:IntKind.i64.wrap (x-x0)=x-x0:=ya zA zA
  have wy:IntKind.i64.wrap (y1-y0)=y1-y0:=ya zA zA
  have wd:IntKind.i64.wrap (x1-x0)=x1-x0:=ya zA zA
  have wp:IntKind.i64.wrap ((x-x0)*(y1-y0))=(x-x0)*(y1-y0):=ya zA zA
  refine Sm.dg 120 32 ze ?_
  simp only[go_sem,gx0,gx1,gy0,gy1,wi,wx,wy,wd,wp]
  refine⟨⟨zA,zA⟩,⟨zA,zA⟩,⟨zA,zA⟩,⟨zA,zA⟩,⟨zA,zA⟩,⟨zA,zA⟩,?_⟩
  refine DCallQ.pure 130 (UA _ _ m1 zA) rfl (vv ?_)
  refine zX hR rfl xb ?_ (SubS.sub ⟨oS,oS,trivial⟩) hM (zI rfl)
  unfold nV
  rw[ya zA zA];rfl
theorem X0 {H:Hp}(s:Sv)(l:List Int)(hs:SlH H (vsl s l.length) 1 (zZ l))(hl:l.length<=1000000)(r:Int×Int):CallX H Hf 231 [.c (.v (vsl s l.length)),rA r] [] (fun _:Unit=> .c (.sl 1 0 (vd l r).length 1)) (fun _=>[(1,⟨false,(vd l r).map iC,3⟩)]) (fun _ _=>True):=by
 have hil:(zZ l).length=l.length:=by simp[zZ]
 generalize hq:vd l r=q
 refine kX func231 SO ntmps231 fun C hR hP hH hL=>?_
 have hR:=hR () C hL trivial
 refine Sm.bringI 5 3 0 (hs.mono hH) rfl rfl (zB 100 ?_)
 simp only[go_sem,List.range_zero,JD,JC,Kv,Kx,JP,Jb]
 refine zG (M0:=[]) (α:={z:Nat×List Int//z.1<=l.length/\z.2.length<=z.1+2/\(z.2++(l.drop z.1).filter fun x=>decide (r.1<x)&&decide (x<r.2))=q}) hP (fun z=>[(0,true,.c (.sl 5 0 l.length 1)),(3,true,.c (.p 3 0)),(5,true,.c (.sl 6 0 z.val.2.length 1)),(6,true,I z.val.1)])
  (fun z=>[(5,⟨true,l.map iC,3⟩),(6,⟨false,z.val.2.map iC,3⟩),(3,⟨false,rC r,45⟩)]) (fun z=>l.length-z.val.1) ⟨(0,[r.1,r.2]),zc,zc,hq⟩ (fun _=>zC (by simp only[Ky,zh (yX _)];rfl)) (fun _=>zO rfl) [(5,5),(6,101),(3,100)] ?_ ?_
 ·exact z9
 rintro⟨⟨i,a⟩,hi,hal,hx⟩ J hb
 simp only at hb hi hal hx⊢
 refine zB 120 (vv ?_)
 refine zU (fun hc=>?_) (fun hc=>?_)
 ·have hc:=zH hc
  have gi:=yR hc
  have hd:l.drop i=l.getD i 0::l.drop (i+1):=by
   rw[JA hc,Kw,Kz hc];rfl
  rw[hd,List.filter_cons]at hx
  generalize l.getD i 0=x at*
  cases h1:decide (r.1<x)with
  |false=>
   rw[h1,HI,if_neg zc]at hx
   refine Sm.dg 130 14 ze ?_
   simp only[go_sem,gi,h1]
   refine⟨⟨zA,zA⟩,?_⟩
   simp only[go_sem,yT (i:=i)]
   exact hb _ _ ⟨(i+1,a),hc,by simp only;omega,hx⟩ [(5,5),(6,6),(3,3)] yF z9
  |true=>
   cases h2:decide (x<r.2)with
   |false=>
    rw[h1,h2,Bool.and_false,if_neg zc]at hx
    refine Sm.dg 130 14 ze ?_
    simp only[go_sem,gi,h1,h2]
    refine⟨⟨zA,zA⟩,⟨zA,zA⟩,?_⟩
    simp only[go_sem,yT (i:=i)]
    exact hb _ _ ⟨(i+1,a),hc,by simp only;omega,hx⟩ [(5,5),(6,6),(3,3)] yF z9
   |true=>
    rw[h1,h2,IY,if_pos rfl]at hx
    have htk:(a.map iC).take a.length=a.map iC:=JH zc
    have hap:a.map iC++[iC x]=(a++[x]).map iC:=zc
    have hln:a.length+1=(a++[x]).length:=zc
    refine Sm.dg 130 14 ze ?_
    simp only[go_sem,gi,h1,h2]
    refine⟨⟨zA,zA⟩,⟨zA,zA⟩,?_⟩
    simp only[go_sem,gi,htk,hap,yT (i:=i)]
    refine⟨⟨zA,zA⟩,⟨zc,zA,zA⟩,?_⟩
    rw[hln]
    exact hb _ _ ⟨(i+1,a++[x]),hc,by simp only;omega,by simp only[I8,List.singleton_append];exact hx⟩ [(5,5),(6,131),(3,3)] yF z9
 ·have hc:=zL hi hc
  rw[hc,JL,List.filter_nil,JB]at hx
  subst hx
  exact RetQ.ren [(1,6)] hR hP rfl xb rfl rfl trivial ⟨oV (yO (yX _)),trivial⟩ (zC (by simp only[JC,JD,Ky,zh (yX _)];rfl)) (zI rfl)
@[reducible] def L6 (m:MpL):List Cv:=[.v (vsl m.x m.xs.length),.sl 9 0 m.ys.length 1,.v (vsl m.z m.zs.length)]
@[reducible] def MO (m:MpL):List Cv:=[.sl 5 0 m.xs.length 1,.sl 9 0 m.ys.length 1,.sl 10 0 m.zs.length 1]
theorem nJ (m:Mp)(j:Nat):(t5 m j).length=m.xs.length:=by unfold t5;rw[Ku,Ib]
theorem ju (m:Mp)(x:Int):(uP m x).length=m.ys.length:=by unfold uP;rw[Ku,Ib]
theorem cQ {V:List Int}{q:Nat}(h:q<V.length):V.take (q+1)=V.take q++[V.getD q 0]:=by
 rw[JS h,Kw,Kz h];rfl
theorem Vm (m:MpL)(i j:Nat)(h:i<m.zs.length):nZ m.c i j=m.zs[i].2.getD j 0:=by
 unfold nZ
 have:m.c.zs.getD i []=m.zs[i].2:=i5 m i h
 rw[this]
theorem WQ {H:Hp}(m:MpL)(hm:m.ok H)(k:MaOk m.c)(x:Int):CallX H Hf 250 [.agg (L6 m),I x] [(9,⟨true,m.ys.map iC,3⟩)] (fun _:Unit=> .c (.sl 1 0 (uP m.c x).length 1)) (fun _=>[(1,⟨false,(uP m.c x).map iC,3⟩)]) (fun _ _=>True):=by
 have kx2:2<=m.xs.length:=k.x2
 have kx3:m.xs.length<=32:=k.x3
 have ky2:2<=m.ys.length:=k.y2
 have ky3:m.ys.length<=32:=k.y3
 have kzl:m.zs.length=m.xs.length:=by have:=k.zl;rw[show m.c.zs.length=m.zs.length from Ku _]at this;exact this
 have hix:(zZ m.xs).length=m.xs.length:=by simp[zZ]
 have hzl:(ke m).length=m.zs.length:=Ku _
 have hrow:∀i,(h:i<m.zs.length)->m.zs[i].2.length=m.ys.length:=fun i h=>by
  have:=k.zr i (by rw[show m.c.zs.length=m.zs.length from Ku _];exact h)
  rw[i5 m i h]at this;exact this
 have hcur:∀j,j<m.ys.length->CallOk Hf 249 [.c (.sl 1 0 m.xs.length 1),.c (.sl 2 0 (t5 m.c j).length 1),I x] (Vn m.xs (t5 m.c j)) (I (yk ⟨[],m.xs,t5 m.c j⟩ x)) []:=fun j hj=>
  XT m.xs (t5 m.c j) (nJ m.c j).symm kx2 kx3 k.xi k.xn (fun i hi=>by
   unfold t5
   rw[wa _ _ _ (show i<m.c.xs.length from hi)]
   exact k.zn i (by rw[show m.c.zs.length=m.zs.length from Ku _];omega) j hj) x
 have hcl:=ju m.c x
 refine kX func250 Tx ntmps250 fun C hR hP hH hL=>?_
 have hR:=hR () C hL trivial
 have v_i:=yX
 have v_z:(zD (ke m)).all Cv.isV=true:=zS _
 refine zB 100 (vv ?_)
 refine Sm.bringC 5 3 100 0 (hm.x.mono hH) rfl rfl rfl ?_
 refine Sm.bringC 10 33 100 2 (rows:=ke m) (hm.z.mono hH) rfl rfl rfl ?_
 rw[hix,vG,hzl]
 refine yz 140 1 3 [5] [] rfl (vv ?_)
 refine zG (M0:=[(9,⟨true,m.ys.map iC,3⟩)]) (α:={j:Nat//j<=m.ys.length}) hP (fun j=>[(1,true,I x),(2,true,.c (.p 2 0)),(5,true,.c (.sl 6 0 j.val 1)),(6,true,I j.val)])
  (fun j=>[(2,⟨false,MO m,89⟩),(6,⟨false,((uP m.c x).take j.val).map iC,3⟩),(5,⟨true,m.xs.map iC,3⟩),(10,⟨true,zD (ke m),33⟩),(9,⟨true,m.ys.map iC,3⟩)]) (fun j=>m.ys.length-j.val) ⟨0,I7 _⟩ (fun _=>zC (by simp only[Ky,zh (yX _),zh v_z];rfl)) (fun _=>zO rfl) [(2,100),(6,140),(5,5),(10,10),(9,9)] ?_ ?_
 ·exact z9
 rintro⟨j,hj⟩ J hb
 simp only at hb hj⊢
 refine zB 150 (vv ?_)
 refine zU (fun hc=>?_) (fun hc=>?_)
 ·have hc:=zH hc
  have hcu:=hcur j hc
  have hzq:(uP m.c x).getD j 0=yk ⟨[],m.xs,t5 m.c j⟩ x:=wa _ _ _ hc
  have hzc:∀i,(h:i<m.zs.length)->(t5 m.c j).getD i 0=m.zs[i].2.getD j 0:=fun i h=>by
   unfold t5
   rw[wa _ _ _ (show i<m.c.xs.length by show i<m.xs.length;omega),Vm m i j h]
  have hzl2:=nJ m.c j
  have hzl2:(t5 m.c j).length=m.xs.length:=hzl2
  have hsn2:List.take j (((uP m.c x).take j).map iC)++[iC (yk ⟨[],m.xs,t5 m.c j⟩ x)]=((uP m.c x).take (j+1)).map iC:=by
   rw[JH (by rw[Ku,Jt];omega),cQ (show j<(uP m.c x).length by rw[hcl];exact hc),hzq]
   simp
  have hlm2:(((uP m.c x).take j).map iC).length=j:=by rw[Ku,Jt];have:(uP m.c x).length=m.ys.length:=hcl;omega
  generalize yk ⟨[],m.xs,t5 m.c j⟩ x=vj at*
  generalize t5 m.c j=Z at*
  refine yz 160 1 3 [7] [] rfl (vv ?_)
  refine zG (M0:=[(9,⟨true,m.ys.map iC,3⟩)]) (α:={i:Nat//i<=m.xs.length}) hP (fun i=>[(1,true,I x),(2,true,.c (.p 2 0)),(5,true,.c (.sl 6 0 j 1)),(6,true,I j),(7,true,.c (.sl 7 0 i.val 1)),(8,true,I i.val)])
   (fun i=>[(2,⟨false,MO m,89⟩),(6,⟨false,((uP m.c x).take j).map iC,3⟩),(7,⟨false,(Z.take i.val).map iC,3⟩),(5,⟨true,m.xs.map iC,3⟩),(10,⟨true,zD (ke m),33⟩),(9,⟨true,m.ys.map iC,3⟩)]) (fun i=>m.xs.length-i.val) ⟨0,I7 _⟩ (fun _=>zC (by simp only[Ky,zh (yX _),zh v_z];rfl)) (fun _=>zO rfl) [(2,2),(6,6),(7,160),(5,5),(10,10),(9,9)] ?_ ?_
  ·exact z9
  rintro⟨i,hi⟩ J2 hb2
  simp only at hb2 hi⊢
  refine zB 170 (vv ?_)
  refine zU (fun hd=>?_) (fun hd=>?_)
  ·have hd:=zH hd
   have hiz:i<m.zs.length:=zA
   have gz:=qR (m:=m) hiz
   have hmem:m.zs[i]∈m.zs:=JE hiz
   have hrl:=hrow i hiz
   have hzi:=hzc i hiz
   have hze:=hm.e _ hmem
   generalize m.zs[i]=z at*
   have gj:=yR (l:=z.2) (i:=j) zA
   have hsn:List.take i ((Z.take i).map iC)++[iC (z.2.getD j 0)]=(Z.take (i+1)).map iC:=by
    rw[JH (by rw[Ku,Jt];omega),cQ zA,hzi]
    simp
   have hlm:((Z.take i).map iC).length=i:=by rw[Ku,Jt];omega
   simp only[go_sem,gz]
   refine⟨⟨zA,zA⟩,?_⟩
   refine Sm.bringI 11 3 28 (hze.mono hH) rfl rfl (zB 180 ?_)
   simp only[go_sem,gj,hlm,hsn,yT (i:=i)]
   refine⟨⟨zA,zA⟩,⟨zA,zA,zA⟩,?_⟩
   exact hb2 _ _ ⟨i+1,hd⟩ [(2,2),(6,6),(7,181),(5,5),(10,10),(9,9)] yF z9
  ·have hd:=zL hi hd
   subst hd
   clear hb2
   rw[JH (show Z.length<=m.xs.length by omega)]
   rw[hzl2]at hcu
   refine vv ?_
   refine CallQ.ren [(1,5),(2,7)] 190 hcu (zC (by simp only[Ky,zh (yX _)];rfl)) rfl rfl ⟨oW (yO (yX _)),⟨_,rfl,fI (yX _)⟩,trivial⟩ rfl (.inr rfl) ?_
   simp only[go_sem,hlm2,hsn2,yT (i:=j)]
   refine⟨⟨zA,zA,zA⟩,?_⟩
   exact hb _ _ ⟨j+1,hc⟩ [(2,2),(6,191),(5,5),(10,10),(9,9)] yF z9
 ·have hc:=zL hj hc
  subst hc
  clear hb
  have hcl:(uP m.c x).length=m.ys.length:=hcl
  rw[JH zA]
  rw[hcl]at hR
  exact RetQ.ren [(1,6),(9,9)] hR hP rfl xb rfl rfl ⟨⟨rfl,rfl⟩,trivial⟩ ⟨oV (yO (yX _)),oV (yO (yX _)),trivial⟩ (zC (by simp only[JC,JD,Ky,zh (yX _)];rfl)) (zI rfl)
theorem Xv {xs ys:List Int}(hl:xs.length=ys.length)(h2:2<=xs.length)(hi:vZ xs=true)(ny:∀i,i<xs.length->nb (ys.getD i 0))(x:Int):nb (yk ⟨[],xs,ys⟩ x):=by
 obtain⟨_,_,q3,q4,q5⟩:=uG h2 hi x
 rw[<-ia [] ys h2 hi x]
 exact gP q4 q5 (xE xs hi _ q3) (ny _ zA) (ny _ q3)
theorem WP {H:Hp}(m:MpL)(hm:m.ok H)(k:MaOk m.c)(x y:Int):CallH H Hf 232 [.agg (o5 m),I x,I y] (I (r9 m.c x y)):=by
 have hiy:(zZ m.ys).length=m.ys.length:=by simp[zZ]
 have hcol:=WQ m hm k x
 have hcl:(uP m.c x).length=m.ys.length:=ju m.c x
 have hcu:=XT m.ys (uP m.c x) hcl.symm k.y2 k.y3 k.yi k.yn (fun j hj=>by
  rw[show(uP m.c x).getD j 0=yk ⟨[],m.xs,t5 m.c j⟩ x from wa _ _ _ hj]
  refine Xv (nJ m.c j).symm k.x2 k.xi (fun i hi=>?_) x
  unfold t5
  rw[wa _ _ _ (show i<m.c.xs.length from hi)]
  exact k.zn i (by have:=k.zl;have:m.c.xs.length=m.xs.length:=rfl;omega) j hj) y
 rw[VZ k x y]
 generalize hv:yk ⟨[],m.c.ys,uP m.c x⟩ y=v at*
 have hv2:yk ⟨[],m.ys,uP m.c x⟩ y=v:=hv
 rw[hv2]at hcu
 generalize uP m.c x=K at*
 refine kH func232 SN ntmps232 fun C hR hP hH hL=>?_
 refine zB 100 (vv ?_)
 refine Sm.bringC 9 3 100 1 (hm.y.mono hH) rfl rfl rfl ?_
 rw[hiy,vG]
 refine Sm.dg 110 6 ze (vv ?_)
 refine DCallQ.hr [(9,9),(1,120)] 121 hcol hH (zC (by simp only[Ky,zh (yX _)];rfl)) rfl rfl ⟨oW (yO (yX _)),trivial⟩ rfl (.inl rfl) rfl rfl ?_
 simp only[Mem.ren,Kv,Kx,yO (yX _),V.ren,Cv.ren,rn,Nat.reduceBEq,cond_true,cond_false]
 refine vv ?_
 refine CallQ.ren [(1,9),(2,120)] 130 hcu (zC (by simp only[Ky,zh (yX _)];rfl)) rfl rfl ⟨oW (yO (yX _)),⟨_,rfl,fI (yX _)⟩,trivial⟩ rfl (.inr rfl) (vv ?_)
 exact uT (hR C hL) rfl
theorem bp:∀(l:List Int) (a:Int),nb a->(∀x∈l,nb x)->nb (pV a l)
 |[],a,h,_=>h
 |x::l,a,h,hl=>by
  have hx:=hl x (Im ..)
  refine bp l (min a x) ?_ fun y hy=>hl y (Jy _ hy)
  unfold nb at*
  omega
theorem bj:∀(l:List Int) (a:Int),nb a->(∀x∈l,nb x)->nb (rM a l)
 |[],a,h,_=>h
 |x::l,a,h,hl=>by
  have hx:=hl x (Im ..)
  refine bj l (max a x) ?_ fun y hy=>hl y (Jy _ hy)
  unfold nb at*
  omega
def pG (m:MpL)(i:Nat):List Int:=((m.zs.take i).map (·.2)).flatten
theorem kv {m:MpL}{i:Nat}(h:i<m.zs.length):pG m (i+1)=pG m i++m.zs[i].2:=by
 unfold pG
 rw[JS h,JT,IW]
 simp
theorem Vz {H:Hp}(m:MpL)(hm:m.ok H)(k:MaOk m.c)(hq:wD m.xs m.ys (m.zs.map (·.2))=true)(r s:Int×Int)(hr:r.1<=r.2)(hs:s.1<=s.2):CallH H Hf 191 [.agg (o5 m),rA r,rA s] (rE (rG m.c r s)):=by
 have kx2:2<=m.xs.length:=k.x2
 have kx3:m.xs.length<=32:=k.x3
 have ky2:2<=m.ys.length:=k.y2
 have ky3:m.ys.length<=32:=k.y3
 have hcz:m.c.zs.length=m.zs.length:=Ku _
 have kzl:m.zs.length=m.xs.length:=by have:=k.zl;rw[hcz]at this;exact this
 have hrow:∀i,(h:i<m.zs.length)->m.zs[i].2.length=m.ys.length:=fun i h=>by
  have:=k.zr i (by rw[hcz];exact h)
  rw[i5 m i h]at this;exact this
 have hnz:∀i,(h:i<m.zs.length)->∀j,j<m.ys.length->nb (m.zs[i].2.getD j 0):=fun i h j hj=>by
  have:=k.zn i (by rw[hcz];exact h) j hj
  rw[i5 m i h]at this;exact this
 have hlz:∀v∈m.zs,v.2.length<=1000000000000000:=fun v hv=>by
  obtain⟨i,hi,rfl⟩:=HY.1 hv
  have:=hrow i hi
  omega
 have hval:=cw m hm hlz
 rw[hq]at hval
 have hzl:(ke m).length=m.zs.length:=Ku _
 have hg1:decide (r.2<r.1)=false:=decide_eq_false zA
 have hg2:decide (s.2<s.1)=false:=decide_eq_false zA
 have hcx:=X0 m.x m.xs hm.x zA r
 have hcy:=X0 m.y m.ys hm.y zA s
 have hp1:=pi m.xs r
 have hp2:=pi m.ys s
 have hv:=fun x y=>WP m hm k x y
 have hsov:=WK k r s
 have hsnb:=lG k (vd m.c.ys s) (vd m.c.xs r) (q:=(r9 m.c r.1 s.1,r9 m.c r.1 s.1)) (jG k _ _) (jG k _ _)
 have hQ:rG m.c r s=((max ((rF m.c r s).1-1) (pV ((v7 m.c).getD 0 0) ((v7 m.c).drop 1)),min ((rF m.c r s).2+1) (rM ((v7 m.c).getD 0 0) ((v7 m.c).drop 1))),0):=by
  unfold rG
  have:wD m.c.xs m.c.ys m.c.zs=true:=hq
  rw[this,hg1,hg2];rfl
 obtain⟨ha1,ha2⟩:=MaOk.all m.c k
 rw[hQ,<-bm ha1,<-bf ha1]
 have hnb:nb (rF m.c r s).1/\nb (rF m.c r s).2:=hsnb
 have hup:v7 m.c=pG m m.zs.length:=by unfold pG v7;rw[Jh];rfl
 have h00:(v7 m.c).getD 0 0=m.zs[0].2.getD 0 0:=by
  have h1:=kv (m:=m) (i:=0) zA
  have h2:pG m 1=m.zs[0].2:=by rw[h1];rfl
  rw[hup]
  have h3:∃R,pG m m.zs.length=m.zs[0].2++R:=⟨((m.zs.drop 1).map (·.2)).flatten,by
   unfold pG
   rw[Jh]
   conv=>lhs;rw[<-I0 1 m.zs]
   rw[JT,IW]
   congr 1⟩
  obtain⟨R,hR⟩:=h3
  rw[hR,Kw,Jm (by rw[hrow 0 zA];omega),<-Kw]
 have hmem:∀x∈pG m m.zs.length,nb x:=fun x hx=>by
  unfold pG at hx
  rw[Jh]at hx
  obtain⟨z,hz,hxz⟩:=List.mem_flatten.1 hx
  obtain⟨w,hw,rfl⟩:=JO.1 hz
  obtain⟨i,hi,rfl⟩:=HY.1 hw
  obtain⟨j,hj,rfl⟩:=HY.1 hxz
  have:=hnz i hi j (by rw[<-hrow i hi];exact hj)
  rw[Kw,Kz hj]at this
  exact this
 rw[hup]at h00⊢
 rw[h00]
 have hn00:=hnz 0 zA 0 zA
 have hmn:=bp _ _ hn00 hmem
 have hmx:=bj _ _ hn00 hmem
 unfold nb at hmn hmx hnb
 change tN m.c (vd m.ys s) (vd m.xs r) (1073741824, -1073741824)=rF m.c r s at hsov
 generalize hX:rF m.c r s=X at*
 generalize vd m.xs r=P at*
 generalize vd m.ys s=Q at*
 generalize hz00:m.zs[0].2.getD 0 0=z00 at*
 generalize hA:pV z00 (pG m m.zs.length)=A at*
 generalize hB:rM z00 (pG m m.zs.length)=B at*
 rw[Int.max_comm (X.1-1) A,Int.min_comm (X.2+1) B]
 have wl:IntKind.i64.wrap (X.1-1)=X.1-1:=ya zA zA
 have wh:IntKind.i64.wrap (X.2+1)=X.2+1:=ya zA zA
 obtain⟨bz,oz,cz,hsz,csz,elz,mkz,hbz,hcz⟩:=XK hm zA
 have ho:m.z.o=some ⟨bz,oz,none⟩:=by rw[hsz]
 have hme:∀i,(h:i<m.zs.length)->SlH H (vsl m.zs[i].1 m.zs[i].2.length) 1 (zZ m.zs[i].2):=fun i h=>hm.e _ (JE h)
 have hups:∀i,(h:i<m.zs.length)->pG m (i+1)=pG m i++m.zs[i].2:=fun i h=>kv h
 have v_i:=yX
 refine kH func191 Sr ntmps191 fun C hR hP hH hL=>?_
 refine zB 100 (vv ?_)
 refine z8 110 hval hH rfl ?_
 simp only[go_sem,hg1,hg2]
 refine Sm.dg 120 7 ze (vv ?_)
 refine DCallQ.hr [(1,120)] 121 hcx hH ClM.nil rfl rfl trivial rfl (.inl rfl) rfl rfl ?_
 simp only[Mem.ren,Kv,Kx,yO (yX _),V.ren,Cv.ren,rn,Nat.reduceBEq,cond_true,cond_false]
 refine vv ?_
 refine CallQ.hr [(1,121)] 122 hcy hH ClM.nil rfl rfl trivial rfl (.inl rfl) ?_
 simp only[Mem.ren,Kv,Kx,yO (yX _),V.ren,Cv.ren,rn,Nat.reduceBEq,cond_true,cond_false]
 refine vv ?_
 refine zG (M0:=[]) (α:={z:Nat×(Int×Int)//z.1<=P.length/\tN m.c Q (P.drop z.1) z.2=X}) hP (fun z=>[(3,true,.c (.p 100 0)),(6,true,.c (.p 103 0)),(8,true,.c (.sl 120 0 P.length 1)),(9,true,.c (.sl 121 0 Q.length 1)),(10,true,.c (.p 122 0)),(11,true,I z.val.1)])
  (fun z=>[(122,⟨false,rC z.val.2,45⟩),(121,⟨false,Q.map iC,3⟩),(120,⟨false,P.map iC,3⟩),(103,⟨false,rC (0,0),45⟩),(100,⟨false,o5 m,89⟩)]) (fun z=>P.length-z.val.1) ⟨(0,(1073741824, -1073741824)),I7 _,hsov⟩ (fun _=>zC (by simp only[Ky,zh (yX _)];rfl)) (fun _=>zO rfl) [(122,122),(121,121),(120,120),(103,103),(100,100)] ?_ ?_
 ·exact z9
 rintro⟨⟨i,q⟩,hi,hx⟩ J hj
 simp only at hj hi hx⊢
 refine zB 130 (vv ?_)
 refine zU (fun hd=>?_) (fun hd=>?_)
 ·have hd:=zH hd
  have gp:=yR hd
  have hdr:P.drop i=P.getD i 0::P.drop (i+1):=by
   rw[JA hd,Kw,Kz hd];rfl
  rw[hdr,tN]at hx
  generalize P.getD i 0=px at*
  refine vv ?_
  refine zG (M0:=[]) (α:={z:Nat×(Int×Int)//z.1<=Q.length/\tN m.c Q (P.drop (i+1)) (qZ m.c px (Q.drop z.1) z.2)=X}) hP (fun z=>[(3,true,.c (.p 100 0)),(6,true,.c (.p 103 0)),(8,true,.c (.sl 120 0 P.length 1)),(9,true,.c (.sl 121 0 Q.length 1)),(10,true,.c (.p 122 0)),(11,true,I i),(12,true,I z.val.1)])
   (fun z=>[(122,⟨false,rC z.val.2,45⟩),(121,⟨false,Q.map iC,3⟩),(120,⟨false,P.map iC,3⟩),(103,⟨false,rC (0,0),45⟩),(100,⟨false,o5 m,89⟩)]) (fun z=>Q.length-z.val.1) ⟨(0,q),I7 _,hx⟩ (fun _=>zC (by simp only[Ky,zh (yX _)];rfl)) (fun _=>zO rfl) [(122,122),(121,121),(120,120),(103,103),(100,100)] ?_ ?_
  ·exact z9
  rintro⟨⟨j,q'⟩,hjl,hy⟩ J2 hj2
  simp only at hj2 hjl hy⊢
  refine zB 140 (vv ?_)
  refine zU (fun he=>?_) (fun he=>?_)
  ·have he:=zH he
   have gq:=yR he
   have hdq:Q.drop j=Q.getD j 0::Q.drop (j+1):=by
    rw[JA he,Kw,Kz he];rfl
   rw[hdq,qZ]at hy
   generalize Q.getD j 0=qy at*
   refine Sm.dg 150 9 ze ?_
   simp only[go_sem,gp,gq]
   refine⟨⟨zA,zA⟩,⟨zA,zA⟩,?_⟩
   refine z8 160 (hv px qy) hH rfl ?_
   simp only[go_sem,yT (i:=j)]
   exact hj2 _ _ ⟨(j+1,vn q' (r9 m.c px qy)),he,hy⟩ [(122,122),(121,121),(120,120),(103,103),(100,100)] yF z9
  ·have he:=zL hjl he
   rw[he,JL,qZ]at hy
   clear hj2
   simp only[go_sem,yT (i:=i)]
   exact hj _ _ ⟨(i+1,q'),hd,hy⟩ [(122,122),(121,121),(120,120),(103,103),(100,100)] yF z9
 have hd:=zL hi hd
 rw[hd,JL,tN]at hx
 clear hj
 subst hx
 have hz0:=hcz 0 zA
 have r0:=hrow 0 zA
 obtain⟨b0,o0,c0,hs0,cs0,el0,mk0,hb0,hc0⟩:=u7 (hme 0 zA) zA
 rw[hs0,r0]at hz0
 have g0:=hc0 0 zA
 rw[hz00]at g0
 simp only[JV]at hz0 g0
 refine Sm.dg 170 13 ze ?_
 simp only[go_sem,ho]
 refine DOpQ.own 170 (Stp.idxV rfl rfl rfl dE zA zA) ?_
 simp only[go_sem,Jd,Int.toNat_zero,JV,ho]
 refine zE 170 (fun _=>zW (hH _ _ hbz) hz0 rfl rfl rfl) ?_
 simp only[go_sem,ho]
 refine DOpQ.own 170 (Stp.idxV rfl rfl rfl tj zA zA) ?_
 simp only[go_sem,Jd,Int.toNat_zero,JV,ho]
 refine zE 170 (fun _=>zW (hH _ _ hb0) g0 rfl rfl rfl) ?_
 simp only[go_sem,ho]
 refine DOpQ.own 170 (Stp.idxV rfl rfl rfl dE zA zA) ?_
 simp only[go_sem,Jd,Int.toNat_zero,JV,ho]
 refine zE 170 (fun _=>zW (hH _ _ hbz) hz0 rfl rfl rfl) ?_
 simp only[go_sem,ho]
 refine DOpQ.own 170 (Stp.idxV rfl rfl rfl tj zA zA) ?_
 simp only[go_sem,Jd,Int.toNat_zero,JV,ho]
 refine zE 170 (fun _=>zW (hH _ _ hb0) g0 rfl rfl rfl) ?_
 simp only[go_sem,ho]
 refine zG (M0:=[]) (α:={i:Nat//i<=m.xs.length}) hP (fun i=>[(3,true,.c (.p 100 0)),(6,true,.c (.p 103 0)),(10,true,.c (.p 122 0)),(14,true,I (pV z00 (pG m i.val))),(15,true,I (rM z00 (pG m i.val))),(16,true,I i.val)])
  (fun _=>[(122,⟨false,rC q,45⟩),(103,⟨false,rC (0,0),45⟩),(100,⟨false,o5 m,89⟩)]) (fun i=>m.xs.length-i.val) ⟨0,I7 _⟩ (fun _=>zC rfl) (fun _=>zO rfl) [(122,122),(103,103),(100,100)] ?_ ?_
 ·exact z9
 rintro⟨i2,hi2⟩ J hj
 simp only at hj hi2⊢
 refine zB 180 (vv ?_)
 refine zU (fun hd2=>?_) (fun hd2=>?_)
 ·have hd2:=zH hd2
  have hiz:i2<m.zs.length:=zA
  have hzi:=hcz i2 hiz
  have ri:=hrow i2 hiz
  have hup2:=hups i2 hiz
  obtain⟨b1,o1,c1,hs1,M5,el1,mk1,hb1,hc1⟩:=u7 (hme i2 hiz) zA
  rw[hs1,ri]at hzi
  generalize m.zs[i2].2=zr at*
  refine vv ?_
  have e0:pG m i2=pG m i2++zr.take 0:=zc
  rw[show pV z00 (pG m i2)=pV z00 (pG m i2++zr.take 0) from congrArg _ e0,show rM z00 (pG m i2)=rM z00 (pG m i2++zr.take 0) from congrArg _ e0]
  refine zG (M0:=[]) (α:={j:Nat//j<=m.ys.length}) hP (fun j=>[(3,true,.c (.p 100 0)),(6,true,.c (.p 103 0)),(10,true,.c (.p 122 0)),(14,true,I (pV z00 (pG m i2++zr.take j.val))),(15,true,I (rM z00 (pG m i2++zr.take j.val))),(16,true,I i2),(17,true,I j.val)])
   (fun _=>[(122,⟨false,rC q,45⟩),(103,⟨false,rC (0,0),45⟩),(100,⟨false,o5 m,89⟩)]) (fun j=>m.ys.length-j.val) ⟨0,I7 _⟩ (fun _=>zC rfl) (fun _=>zO rfl) [(122,122),(103,103),(100,100)] ?_ ?_
  ·exact z9
  rintro⟨j,hjl⟩ J2 hj2
  simp only at hj2 hjl⊢
  refine zB 190 (vv ?_)
  refine zU (fun he=>?_) (fun he=>?_)
  ·have he:=zH he
   have gj:=hc1 j zA
   have hn1:=jd (pG m i2++zr.take j) z00 (zr.getD j 0)
   have hx1:=jb (pG m i2++zr.take j) z00 (zr.getD j 0)
   rw[I8,<-cQ (show j<zr.length by omega)]at hn1 hx1
   generalize zr.getD j 0=zj at*
   refine Sm.dg 200 21 ze ?_
   simp only[go_sem,ho]
   refine DOpQ.own 200 (Stp.idxV rfl rfl rfl dE zA zA) ?_
   simp only[go_sem,Jd,ho]
   refine zE 200 (fun _=>zW (hH _ _ hbz) hzi rfl rfl rfl) ?_
   simp only[go_sem,ho]
   refine DOpQ.own 200 (Stp.idxV rfl rfl rfl tj zA zA) ?_
   simp only[go_sem,Jd,ho]
   refine zE 200 (fun _=>zW (hH _ _ hb1) gj rfl rfl rfl) ?_
   simp only[go_sem,ho]
   refine DOpQ.own 200 (Stp.idxV rfl rfl rfl dE zA zA) ?_
   simp only[go_sem,Jd,ho]
   refine zE 200 (fun _=>zW (hH _ _ hbz) hzi rfl rfl rfl) ?_
   simp only[go_sem,ho]
   refine DOpQ.own 200 (Stp.idxV rfl rfl rfl tj zA zA) ?_
   simp only[go_sem,Jd,ho]
   refine zE 200 (fun _=>zW (hH _ _ hb1) gj rfl rfl rfl) ?_
   simp only[go_sem,ho,yT (i:=j)]
   rw[<-hn1,<-hx1]
   exact hj2 _ _ ⟨j+1,he⟩ [(122,122),(103,103),(100,100)] yF z9
  ·have he:=zL hjl he
   subst he
   rw[JH zA,<-hup2]
   clear hj2
   simp only[go_sem,yT (i:=i2)]
   exact hj _ _ ⟨i2+1,hd2⟩ [(122,122),(103,103),(100,100)] yF z9
 ·have hd2:=zL hi2 hd2
  subst hd2
  clear hj
  rw[<-kzl,hA,hB]
  simp only[go_sem,wl,wh]
  exact yI (hR C hL) ClM.nil
theorem UC {H:Hp}(c:CuL)(hc:c.ok H)(k:CuOk c.c)(hq:vq c.c.xs c.c.ys=true)(r:Int×Int)(hr:r.1<=r.2):CallH H Hf 190 [.agg (kD c),rA r] (rE (rH c.c r)):=by
 have k1:=k.len
 have k2:=k.two
 have k3:=k.big
 have hval:=bF c.x c.y c.c.xs c.c.ys hc.x hc.y zA
 rw[hq]at hval
 have hil:(zZ c.c.xs).length=c.c.xs.length:=by simp[zZ]
 have hiy:(zZ c.c.ys).length=c.c.ys.length:=by simp[zZ]
 have hov:rH c.c r=(jO r (c.c.xs.zip c.c.ys) (min (yk c.c r.1) (yk c.c r.2),max (yk c.c r.1) (yk c.c r.2)),0):=by
  unfold rH
  rw[dG k hr,hq,decide_eq_false (show ¬r.2<r.1 by omega)];rfl
 rw[hov]
 have hgt:decide (r.2<r.1)=false:=decide_eq_false zA
 have hzl:(c.c.xs.zip c.c.ys).length=c.c.xs.length:=by rw[List.length_zip];omega
 have hzi:∀i,(h:i<c.c.xs.length)->(c.c.xs.zip c.c.ys).drop i=(c.c.xs.getD i 0,c.c.ys.getD i 0)::(c.c.xs.zip c.c.ys).drop (i+1):=fun i h=>by
  rw[JA zA,List.getElem_zip]
  congr 2
  ·rw[Kw,Kz h];rfl
  ·rw[Kw,Kz zA];rfl
 have hat1:=X1 c hc k r.1
 have hat2:=X1 c hc k r.2
 have hgx:∀i,i<c.c.xs.length->(c.c.xs.map iC)[i]?=some (iC (c.c.xs.getD i 0)):=fun i h=>yR h
 have hgy:∀i,i<c.c.xs.length->(c.c.ys.map iC)[i]?=some (iC (c.c.ys.getD i 0)):=fun i h=>yR zA
 generalize yk c.c r.1=v1 at*
 generalize yk c.c r.2=v2 at*
 generalize c.c.xs.zip c.c.ys=Z at*
 generalize hX:jO r Z (min v1 v2,max v1 v2)=X at*
 refine kH func190 Ss ntmps190 fun C hR hP hH hL=>?_
 refine zB 100 (vv ?_)
 refine z8 110 hval hH rfl ?_
 simp only[go_sem,hgt]
 refine Sm.dg 120 7 ze (vv ?_)
 refine x7 120 (fun _=>hat1) hH (fun _=>rfl) (vv ?_)
 refine CallQ.hS hat2 hH rfl ?_
 refine Sm.bringC 8 3 100 0 (hc.x.mono hH) rfl rfl rfl ?_
 refine Sm.bringC 9 3 100 1 (hc.y.mono hH) rfl rfl rfl ?_
 rw[hil,hiy,vG,vG]
 refine zB 110 (vv ?_)
 have v_i:=yX
 refine zG (M0:=[]) (α:={z:Nat×(Int×Int)//z.1<=c.c.xs.length/\jO r (Z.drop z.1) z.2=X}) hP (fun z=>[(2,true,.c (.p 100 0)),(3,true,.c (.p 101 0)),(4,true,.c (.p 102 0)),(8,true,.c (.p 110 0)),(9,true,I z.val.1)])
  (fun z=>(100,⟨false,QS c,82⟩)::(101,⟨false,rC r,45⟩)::(102,⟨false,rC (0,0),45⟩)::(110,⟨false,rC z.val.2,45⟩)::Vf c) (fun z=>c.c.xs.length-z.val.1) ⟨(0,(min v1 v2,max v1 v2)),I7 _,hX⟩ (fun _=>zC (by simp only[Ky,zh (yX _)];rfl)) (fun _=>zO rfl) [(100,100),(101,101),(102,102),(110,110),(8,8),(9,9)] ?_ ?_
 ·exact z9
 rintro⟨⟨i,q⟩,hi,hx⟩ J hj
 simp only at hj hi hx⊢
 refine zB 120 (vv ?_)
 refine zU (fun hd=>?_) (fun hd=>?_)
 ·have hd:=zH hd
  rw[hzi i hd,jO]at hx
  have gx:=hgx i hd
  have gy:=hgy i hd
  generalize c.c.xs.getD i 0=x0 at*
  generalize c.c.ys.getD i 0=y0 at*
  cases h1:decide (r.1<=x0)with
  |false=>
   rw[h1,cond_false,cond_false]at hx
   refine Sm.dg 130 16 ze ?_
   simp only[go_sem,gx,h1]
   refine⟨⟨zA,zA⟩,?_⟩
   simp only[go_sem,yT (i:=i)]
   exact hj _ _ ⟨(i+1,q),hd,hx⟩ [(100,100),(101,101),(102,102),(110,110),(8,8),(9,9)] yF z9
  |true=>
   rw[h1,cond_true]at hx
   refine Sm.dg 130 16 ze ?_
   simp only[go_sem,gx,h1]
   refine⟨⟨zA,zA⟩,⟨zA,zA⟩,?_⟩
   refine zU (fun h2=>?_) (fun h2=>?_)
   ·rw[h2,cond_true]at hx
    refine Sm.dg 140 7 ze ?_
    simp only[go_sem,gy]
    refine⟨⟨zA,zA⟩,?_⟩
    refine vv ?_
    refine Sm.dg 150 7 ze ?_
    simp only[go_sem,gy]
    refine⟨⟨zA,zA⟩,?_⟩
    simp only[go_sem,yT (i:=i)]
    exact hj _ _ ⟨(i+1,vn q y0),hd,hx⟩ [(100,100),(101,101),(102,102),(110,110),(8,8),(9,9)] yF z9
   ·rw[h2,cond_false]at hx
    simp only[go_sem,yT (i:=i)]
    exact hj _ _ ⟨(i+1,q),hd,hx⟩ [(100,100),(101,101),(102,102),(110,110),(8,8),(9,9)] yF z9
 ·have hd:=zL hi hd
  clear hj
  rw[hd,Jl zA]at hx
  have hx:q=X:=hx
  subst hx
  exact yI (hR C hL) ClM.nil
theorem fE (lo hi:Int)(t:Ft)(h:yE t=true):CallOk Hf 234 [fx t,rg lo hi] [] (Bo (decide (lo<=hi)&&(fin t lo&&fin t hi))) []:=by
 refine kO 100 func234 SL ntmps234 (by simp[ClV,V.g,Cv.g,rg,fx,ci]) fun C hR=>?_
 refine vv ?_
 cases h1:decide (lo<=hi)with
 |false=>
  rw[h1]at hR
  refine CallQ.guard 110 (fun hh=>by cases hh) (fun hh=>by cases hh) (xs:=[]) (v:=Bo true) (vv ?_)
  refine CallQ.guard 110 (fun hh=>by cases hh) (fun hh=>by cases hh) (xs:=[]) (v:=Bo true) (vv ?_)
  exact yL hR rfl
 |true=>
  rw[h1]at hR
  refine CallQ.pure 110 (tO t lo h) rfl (vv ?_)
  cases h2:fin t lo with
  |false=>
   rw[h2]at hR
   refine CallQ.guard 110 (fun hh=>by cases hh) (fun hh=>by cases hh) (xs:=[]) (v:=Bo true) (vv ?_)
   exact yL hR rfl
  |true=>
   rw[h2]at hR
   refine CallQ.pure 110 (tO t hi h) rfl (vv ?_)
   exact yL hR rfl
theorem mn (op a1 a2 b1 b2:Int)(ta tb t:Ft):CallOk Hf 195 [I op,rg a1 a2,rg b1 b2,fx ta,fx tb,fx t] [] (.tup [.agg [ci (nv op a1 a2 b1 b2 ta tb t),ci (nw op a1 a2 b1 b2 ta tb t)],Wi (wH op a1 a2 b1 b2 ta tb t)]) []:=by
 refine kO 100 func195 Sn ntmps195 (by simp[ClV,V.g,Cv.g,rg,fx,ci]) fun C hR=>?_
 have bad:(op<1\/4<op)\/((yE ta&&(decide (a1<=a2)&&(fin ta a1&&fin ta a2)))&&((yE tb&&(decide (b1<=b2)&&(fin tb b1&&fin tb b2)))&&yE t))=false->wH op a1 a2 b1 b2 ta tb t=1:=fun h=>by rw[wH,if_pos h]
 refine vv ?_
 by_cases ho:op<1\/4<op
 ·have e1:(bif decide (op<1)then true else decide (4<op))=true:=by simp[IJ];omega
  simp only[e1]
  have e:=bad (.inl ho)
  unfold nv nw at hR
  rw[e]at hR
  refine CallQ.guard 110 (fun hh=>by cases hh) (fun hh=>by cases hh) (xs:=[]) (v:=Bo true) (vv ?_)
  refine CallQ.guard 110 (fun hh=>by cases hh) (fun hh=>by cases hh) (xs:=[]) (v:=Bo true) (vv ?_)
  refine CallQ.guard 110 (fun hh=>by cases hh) (fun hh=>by cases hh) (xs:=[]) (v:=Bo true) (vv ?_)
  refine CallQ.guard 110 (fun hh=>by cases hh) (fun hh=>by cases hh) (xs:=[]) (v:=Bo true) (vv ?_)
  refine CallQ.guard 110 (fun hh=>by cases hh) (fun hh=>by cases hh) (xs:=[]) (v:=Bo true) (vv ?_)
  exact RetQ.pure hR rfl (vv trivial) vz (zI rfl)
 ·have e1:(bif decide (op<1)then true else decide (4<op))=false:=by simp[IJ];omega
  simp only[e1]
  refine CallQ.pure 110 (ii ta) rfl ?_
  cases h1:yE ta with
  |false=>
   have e:=bad (.inr (by simp[h1]))
   unfold nv nw at hR
   rw[e]at hR
   refine vv ?_
   refine CallQ.guard 110 (fun hh=>by cases hh) (fun hh=>by cases hh) (xs:=[]) (v:=Bo true) (vv ?_)
   refine CallQ.guard 110 (fun hh=>by cases hh) (fun hh=>by cases hh) (xs:=[]) (v:=Bo true) (vv ?_)
   refine CallQ.guard 110 (fun hh=>by cases hh) (fun hh=>by cases hh) (xs:=[]) (v:=Bo true) (vv ?_)
   refine CallQ.guard 110 (fun hh=>by cases hh) (fun hh=>by cases hh) (xs:=[]) (v:=Bo true) (vv ?_)
   exact RetQ.pure hR rfl (vv trivial) vz (zI rfl)
  |true=>
   refine vv ?_
   refine CallQ.pure 110 (ii tb) rfl ?_
   cases h2:yE tb with
   |false=>
    have e:=bad (.inr (by simp[h2]))
    unfold nv nw at hR
    rw[e]at hR
    refine vv ?_
    refine CallQ.guard 110 (fun hh=>by cases hh) (fun hh=>by cases hh) (xs:=[]) (v:=Bo true) (vv ?_)
    refine CallQ.guard 110 (fun hh=>by cases hh) (fun hh=>by cases hh) (xs:=[]) (v:=Bo true) (vv ?_)
    refine CallQ.guard 110 (fun hh=>by cases hh) (fun hh=>by cases hh) (xs:=[]) (v:=Bo true) (vv ?_)
    exact RetQ.pure hR rfl (vv trivial) vz (zI rfl)
   |true=>
    refine vv ?_
    refine CallQ.pure 110 (ii t) rfl ?_
    cases h3:yE t with
    |false=>
     have e:=bad (.inr (by simp[h3]))
     unfold nv nw at hR
     rw[e]at hR
     refine vv ?_
     refine CallQ.guard 110 (fun hh=>by cases hh) (fun hh=>by cases hh) (xs:=[]) (v:=Bo true) (vv ?_)
     refine CallQ.guard 110 (fun hh=>by cases hh) (fun hh=>by cases hh) (xs:=[]) (v:=Bo true) (vv ?_)
     exact RetQ.pure hR rfl (vv trivial) vz (zI rfl)
    |true=>
     refine vv ?_
     refine CallQ.pure 110 (fE a1 a2 ta h1) rfl ?_
     cases h4:(decide (a1<=a2)&&(fin ta a1&&fin ta a2))with
     |false=>
      have e:=bad (.inr (by rw[h4];simp))
      unfold nv nw at hR
      rw[e]at hR
      refine vv ?_
      refine CallQ.guard 110 (fun hh=>by cases hh) (fun hh=>by cases hh) (xs:=[]) (v:=Bo true) (vv ?_)
      exact RetQ.pure hR rfl (vv trivial) vz (zI rfl)
     |true=>
      refine vv ?_
      refine CallQ.pure 110 (fE b1 b2 tb h2) rfl ?_
      cases h5:(decide (b1<=b2)&&(fin tb b1&&fin tb b2))with
      |false=>
       have e:=bad (.inr (by rw[h5];simp))
       unfold nv nw at hR
       rw[e]at hR
       refine vv ?_
       exact RetQ.pure hR rfl (vv trivial) vz (zI rfl)
      |true=>
       refine vv ?_
       have g0:¬((op<1\/4<op)\/((yE ta&&(decide (a1<=a2)&&(fin ta a1&&fin ta a2)))&&((yE tb&&(decide (b1<=b2)&&(fin tb b1&&fin tb b2)))&&yE t))=false):=by
        rw[h1,h2,h3,h4,h5];simp;omega
       simp only[JG,decide_eq_true_eq]at h4 h5
       obtain⟨k2,k3,k4⟩:=h4
       obtain⟨l2,l3,l4⟩:=h5
       refine CallQ.pure 110 (Xz op ta tb (tg h1) (tg h2)) rfl ?_
       have hfit:=WE op ta tb t (tg h3)
       refine vv ?_
       simp only[<-u5.eq_1]
       cases h6:oF op ta tb t with
       |false=>
        have e:wH op a1 a2 b1 b2 ta tb t=12:=by rw[wH,if_neg g0,if_pos h6]
        unfold nv nw at hR
        rw[e]at hR
        rw[h6]at hfit
        have e4:(bif !uk op ta tb then true else !u5 op ta tb t)=true:=by
         revert hfit
         cases uk op ta tb<;>cases u5 op ta tb t<;>simp
        simp only[e4]
        exact RetQ.pure hR rfl (vv trivial) vz (zI rfl)
       |true=>
        rw[h6]at hfit
        have e4:(bif !uk op ta tb then true else !u5 op ta tb t)=false:=by
         revert hfit
         cases uk op ta tb<;>cases u5 op ta tb t<;>simp
        simp only[e4]
        have n1:=xy h2 l3
        have n2:=xy h2 l4
        have w1:IntKind.i64.wrap (b1*tb.num)=b1*tb.num:=by unfold yq at n1;exact ya zA zA
        have w2:IntKind.i64.wrap (b1*tb.num+tb.off)=yq tb b1:=by unfold yq at n1⊢;exact ya zA zA
        have w3:IntKind.i64.wrap (b2*tb.num)=b2*tb.num:=by unfold yq at n2;exact ya zA zA
        have w4:IntKind.i64.wrap (b2*tb.num+tb.off)=yq tb b2:=by unfold yq at n2⊢;exact ya zA zA
        simp only[w1,w2,w3,w4]
        by_cases h5:op=4/\yq tb b1<=0/\0<=yq tb b2
        ·have e:wH op a1 a2 b1 b2 ta tb t=10:=by rw[wH,if_neg g0,if_neg (by simp[h6]),if_pos h5]
         unfold nv nw at hR
         rw[e]at hR
         have e5:(bif (bif op==4 then decide (yq tb b1<=0)else false)then decide (0<=yq tb b2)else false)=true:=by simp[h5]
         simp only[e5]
         exact RetQ.pure hR rfl (vv trivial) vz (zI rfl)
        ·have e:wH op a1 a2 b1 b2 ta tb t=0:=by rw[wH,if_neg g0,if_neg (by simp[h6]),if_neg h5]
         unfold nv nw at hR
         rw[e]at hR
         have e5:(bif (bif op==4 then decide (yq tb b1<=0)else false)then decide (0<=yq tb b2)else false)=false:=by
          simp only[IJ];split<;>simp_all
         simp only[e5]
         have z1:op=4->yq tb b1≠0:=fun h hh=>by have:=wR h2 l2;omega
         have z2:op=4->yq tb b2≠0:=fun h hh=>by have:=wR h2 l2;omega
         refine CallQ.pure 120 (fD op a1 b1 ta tb t h1 k3 h2 l3 h3 zA zA z1) rfl (vv ?_)
         refine x6 4 (zB 130 ?_)
         refine vv ?_
         refine Sm.dg 130 5 ze (vv ?_)
         refine CallQ.pure 130 (fD op a2 b1 ta tb t h1 k4 h2 l3 h3 zA zA z1) rfl (vv ?_)
         refine Sm.dg 130 5 ze (vv ?_)
         refine CallQ.pure 130 (fD op a1 b2 ta tb t h1 k3 h2 l4 h3 zA zA z2) rfl (vv ?_)
         refine Sm.dg 130 5 ze (vv ?_)
         refine CallQ.pure 130 (fD op a2 b2 ta tb t h1 k4 h2 l4 h3 zA zA z2) rfl (vv ?_)
         refine RetQ.pure hR rfl (vv trivial) ?_ (zI rfl)
         refine vv ?_
         rw[if_pos trivial,if_pos trivial]
         have q1:min (min (min (xY op ta a1 tb b1 t) (xY op ta a2 tb b1 t)) (xY op ta a1 tb b2 t)) (xY op ta a2 tb b2 t)=min (min (min (xY op ta a1 tb b1 t) (xY op ta a1 tb b2 t)) (xY op ta a2 tb b1 t)) (xY op ta a2 tb b2 t):=zA
         have q2:max (max (max (xY op ta a1 tb b1 t) (xY op ta a2 tb b1 t)) (xY op ta a1 tb b2 t)) (xY op ta a2 tb b2 t)=max (max (max (xY op ta a1 tb b1 t) (xY op ta a1 tb b2 t)) (xY op ta a2 tb b1 t)) (xY op ta a2 tb b2 t):=zA
         rw[q1,q2]
end Go.Proofs.YtkciabfilokfiaaGreat.Fx
