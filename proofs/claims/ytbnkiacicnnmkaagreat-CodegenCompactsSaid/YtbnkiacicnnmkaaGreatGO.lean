/-  -/
import Derived.Test.YtbnkiacicnnmkaaGreatU3
open Go.Proofs.Tryz
set_option linter.unusedSimpArgs false
set_option linter.unusedVariables false
set_option maxRecDepth 100000
set_option maxHeartbeats 4000000
namespace Go.Proofs.YtbnkiacicnnmkaaGreat.Fx
open Vg Tf
theorem eV (n:Int):CallOk Tryz.prog 86 [I n] [] (Bo (yA n)) []:=by
 refine kN 100 func86 OE ntmps86 fun C hR hP=>?_
 refine vv ?_
 refine zp hR ?_
 unfold yA
 rw[xg,JP]
 simp only[JB,decide_eq_true_eq]
theorem Zk (n:Int):CallOk Tryz.prog 88 [I n] [] (Bo (!yA n)) []:=by
 refine kN 100 func88 OC ntmps88 fun C hR hP=>?_
 refine vv ?_
 refine zp hR ?_
 unfold yA
 rw[lc,<-Bool.not_inj_iff,HN,Bool.not_or,<-decide_not,<-decide_not,JP]
 simp only[JB,decide_eq_true_eq];omega
theorem bu {H:Hp}(s:Sv)(l:List Int)(hs:SlH H (vsl s l.length) 1 (zP l)):CallH H Tryz.prog 85 [.c (.v (vsl s l.length))] (Bo (xX l)):=by
 have e1:decide ((l.length:Int)<2)= !decide (2<=l.length):=by rw[<-decide_not,decide_eq_decide];omega
 have e2:decide ((32:Int)<(l.length:Int))= !decide (l.length<=32):=by rw[<-decide_not,decide_eq_decide];omega
 have hax:xX l=((decide (2<=l.length)&&decide (l.length<=32))&&sd none l):=by unfold xX;rw[pj,Bool.decide_and]
 rw[hax]
 refine kH func85 OF ntmps85 fun C hR hP hH hL=>?_
 refine zB 100 ?_
 simp only[go_sem,e1,e2]
 cases h1:decide (2<=l.length)with
 |false=>
  rw[h1]at hR
  refine vv ?_
  exact zp (hR C hL) rfl
 |true=>
 cases h2:decide (l.length<=32)with
 |false=>
  rw[h1,h2]at hR
  refine vv ?_
  exact zp (hR C hL) rfl
 |true=>
 rw[h1,h2]at hR
 simp only[decide_eq_true_eq]at h1 h2
 refine vv ?_
 refine Sm.bringI 1 3 0 (hs.mono hH) rfl rfl ?_
 refine zK (M0:=[]) (α:={i:Nat//i<=l.length/\sd none l=sd (kv l i) (l.drop i)}) hP (fun i=>[(0,true,.c (.sl 1 0 l.length 1)),(3,true,I i.val)]) (fun _=>[(1,⟨true,l.map iC,3⟩)]) (fun i=>l.length-i.val) ⟨0,zA,rfl⟩ (fun _=>zD (by simp only[Kw,z6 (zq _)];rfl)) (fun _=>zO rfl) [(1,1)] ?_ ?_
 ·exact zh
 rintro⟨i,hi,hx⟩ J hb
 simp only at hb hi hx⊢
 refine zB 120 (vv ?_)
 refine zV (fun hc=>?_) (fun hc=>?_)
 ·have hc:=zH hc
  rw[JC hc,sd]at hx
  have e3:(l.map iC)[i]?=some (iC l[i]):=wC hc
  have w2:=yu (i:=i)
  have hnext:sd none l=sd (some l[i]) (l.drop (i+1))->sd none l=sd (kv l (i+1)) (l.drop (i+1)):=fun h=>by
   rw[h,kv,if_neg zA,I5,Kx,JA hc];rfl
  refine Sm.dg 130 19 zi ?_
  simp only[go_sem,e3]
  refine⟨⟨zA,zA⟩,?_⟩
  refine DCallQ.pure 140 (eV l[i]) rfl ?_
  cases i with
  |zero=>
   cases h5:yA l[0]with
   |false=>
    rw[h5]at hx
    simp only[go_sem,e3]
    refine⟨fun h=>absurd h yp,fun h=>absurd h yp,?_⟩
    exact RetQ.bool (hR C hL) rfl ⟨rfl,trivial⟩ (by rw[hx];rfl)
   |true=>
    rw[h5]at hx
    simp only[go_sem,e3]
    refine zB 140 ?_
    simp only[go_sem,w2]
    exact hb _ _ ⟨1,zA,hnext (by rw[hx];rfl)⟩ [(1,1)] yL zh
  |succ j=>
   have w3:IntKind.i64.wrap (((j+1:Nat):Int)-1)=(j:Int):=by rw[y6 zA zA];omega
   have e4:(l.map iC)[j]?=some (iC l[j]):=wC zA
   have e6:decide ((0:Int)<((j+1:Nat):Int))=true:=yS zA
   have hp:kv l (j+1)=some l[j]:=by
    rw[kv,if_neg zA,I5,Kx,JA zA];rfl
   rw[hp]at hx
   cases h5:yA l[j+1]with
   |false=>
    rw[h5]at hx
    simp only[go_sem,w3,e3,e4,e6]
    exact RetQ.bool (hR C hL) rfl ⟨rfl,trivial⟩ (by rw[hx];rfl)
   |true=>
    rw[h5]at hx
    simp only[go_sem,w3,e3,e4,e6]
    refine⟨⟨zA,zA⟩,⟨zA,zA⟩,?_⟩
    refine zV (fun hd=>?_) (fun hd=>?_)
    ·have hq:XZ (some l[j]) l[j+1]=false:=yZ (by have:=of_decide_eq_true hd;omega)
     rw[hq]at hx
     exact RetQ.bool (hR C hL) rfl ⟨rfl,trivial⟩ (by rw[hx];rfl)
    ·have hq:XZ (some l[j]) l[j+1]=true:=yS (by have:=of_decide_eq_false hd;omega)
     rw[hq]at hx
     refine zB 140 ?_
     simp only[go_sem,w2]
     exact hb _ _ ⟨j+1+1,zA,hnext (by rw[hx];rfl)⟩ [(1,1)] yL zh
 ·have hc:=zI hi hc
  rw[hc,JI]at hx
  exact RetQ.bool (hR C hL) rfl ⟨rfl,trivial⟩ (by rw[hx];rfl)
theorem iL {H:Hp}(s:Sv)(l:List Int)(hs:SlH H (vsl s l.length) 1 (zP l)):CallH H Tryz.prog 87 [.c (.v (vsl s l.length))] (Bo (xX l)):=by
 have e1:decide ((l.length:Int)<2)= !decide (2<=l.length):=by rw[<-decide_not,decide_eq_decide];omega
 have e2:decide ((32:Int)<(l.length:Int))= !decide (l.length<=32):=by rw[<-decide_not,decide_eq_decide];omega
 have hax:xX l=((decide (2<=l.length)&&decide (l.length<=32))&&sd none l):=by unfold xX;rw[pj,Bool.decide_and]
 rw[hax]
 refine kH func87 OD ntmps87 fun C hR hP hH hL=>?_
 refine zB 100 ?_
 simp only[go_sem,e1,e2]
 cases h1:decide (2<=l.length)with
 |false=>
  rw[h1]at hR
  refine vv ?_
  exact zp (hR C hL) rfl
 |true=>
 cases h2:decide (l.length<=32)with
 |false=>
  rw[h1,h2]at hR
  refine vv ?_
  exact zp (hR C hL) rfl
 |true=>
 rw[h1,h2]at hR
 simp only[decide_eq_true_eq]at h1 h2
 refine vv ?_
 refine Sm.bringI 1 3 0 (hs.mono hH) rfl rfl ?_
 refine zK (M0:=[]) (α:={i:Nat//i<=l.length/\sd none l=sd (kv l i) (l.drop i)}) hP (fun i=>[(0,true,.c (.sl 1 0 l.length 1)),(3,true,I i.val)]) (fun _=>[(1,⟨true,l.map iC,3⟩)]) (fun i=>l.length-i.val) ⟨0,zA,rfl⟩ (fun _=>zD (by simp only[Kw,z6 (zq _)];rfl)) (fun _=>zO rfl) [(1,1)] ?_ ?_
 ·exact zh
 rintro⟨i,hi,hx⟩ J hb
 simp only at hb hi hx⊢
 refine zB 120 (vv ?_)
 refine zV (fun hc=>?_) (fun hc=>?_)
 ·have hc:=zH hc
  rw[JC hc,sd]at hx
  have e3:(l.map iC)[i]?=some (iC l[i]):=wC hc
  have w2:=yu (i:=i)
  have hnext:sd none l=sd (some l[i]) (l.drop (i+1))->sd none l=sd (kv l (i+1)) (l.drop (i+1)):=fun h=>by
   rw[h,kv,if_neg zA,I5,Kx,JA hc];rfl
  refine Sm.dg 130 18 zi ?_
  simp only[go_sem,e3]
  refine⟨⟨zA,zA⟩,?_⟩
  refine DCallQ.pure 140 (Zk l[i]) rfl ?_
  cases i with
  |zero=>
   cases h5:yA l[0]with
   |false=>
    rw[h5]at hx
    simp only[go_sem,e3]
    refine⟨fun h=>absurd h yp,fun h=>absurd h yp,?_⟩
    exact RetQ.bool (hR C hL) rfl ⟨rfl,trivial⟩ (by rw[hx];rfl)
   |true=>
    rw[h5]at hx
    simp only[go_sem,e3]
    refine zB 140 ?_
    simp only[go_sem,w2]
    exact hb _ _ ⟨1,zA,hnext (by rw[hx];rfl)⟩ [(1,1)] yL zh
  |succ j=>
   have w3:IntKind.i64.wrap (((j+1:Nat):Int)-1)=(j:Int):=by rw[y6 zA zA];omega
   have e4:(l.map iC)[j]?=some (iC l[j]):=wC zA
   have e6:decide ((0:Int)<((j+1:Nat):Int))=true:=yS zA
   have hp:kv l (j+1)=some l[j]:=by
    rw[kv,if_neg zA,I5,Kx,JA zA];rfl
   rw[hp]at hx
   cases h5:yA l[j+1]with
   |false=>
    rw[h5]at hx
    simp only[go_sem,w3,e3,e4,e6]
    exact RetQ.bool (hR C hL) rfl ⟨rfl,trivial⟩ (by rw[hx];rfl)
   |true=>
    rw[h5]at hx
    simp only[go_sem,w3,e3,e4,e6]
    refine⟨⟨zA,zA⟩,⟨zA,zA⟩,?_⟩
    refine zV (fun hd=>?_) (fun hd=>?_)
    ·have hq:XZ (some l[j]) l[j+1]=false:=yZ (by have:=of_decide_eq_true hd;omega)
     rw[hq]at hx
     exact RetQ.bool (hR C hL) rfl ⟨rfl,trivial⟩ (by rw[hx];rfl)
    ·have hq:XZ (some l[j]) l[j+1]=true:=yS (by have:=of_decide_eq_false hd;omega)
     rw[hq]at hx
     refine zB 140 ?_
     simp only[go_sem,w2]
     exact hb _ _ ⟨j+1+1,zA,hnext (by rw[hx];rfl)⟩ [(1,1)] yL zh
 ·have hc:=zI hi hc
  rw[hc,JI]at hx
  exact RetQ.bool (hR C hL) rfl ⟨rfl,trivial⟩ (by rw[hx];rfl)
theorem XD {H:Hp}(x y:Sv)(xs ys:List Int)(hx:SlH H (vsl x xs.length) 1 (zP xs))(hy:SlH H (vsl y ys.length) 1 (zP ys))(hly:ys.length<=1000000000000000):
  CallH H Tryz.prog 35 [.agg [.v (vsl x xs.length),.v (vsl y ys.length)]] (Bo (wN xs ys)):=by
 have e1:((ys.length:Int)!=(xs.length:Int))= !decide (xs.length=ys.length):=by rw[JP,bne_iff_ne,Jh,decide_eq_false_iff_not];omega
 refine kH func35 Og ntmps35 fun C hR hP hH hL=>?_
 refine zB 100 (vv ?_)
 refine zM 110 (bu x xs hx) hH rfl ?_
 simp only[go_sem,e1]
 unfold wN at hR
 cases h1:decide (xs.length=ys.length)with
 |false=>
  rw[h1]at hR
  cases xX xs<;>(simp only[go_sem];exact zp (hR C hL) rfl)
 |true=>
 rw[h1]at hR
 cases h2:xX xs with
 |false=>
  rw[h2]at hR
  refine vv ?_
  exact zp (hR C hL) rfl
 |true=>
 rw[h2]at hR
 refine vv ?_
 refine Sm.bringC 1 3 100 1 (hy.mono hH) rfl rfl rfl ?_
 rw[wj,show(zP ys).length=ys.length by simp[zP]]
 refine zK (M0:=[]) (α:={i:Nat//i<=ys.length/\ys.all yA=(ys.drop i).all yA}) hP (fun i=>[(1,true,.c (.p 2 0)),(3,true,I i.val)]) (fun _=>[(2,⟨false,[.v (vsl x xs.length),.sl 1 0 ys.length 1],78⟩),(1,⟨true,ys.map iC,3⟩)]) (fun i=>ys.length-i.val) ⟨0,zA,rfl⟩ (fun _=>zD (by simp only[Kw,z6 (zq _)];rfl)) (fun _=>zO rfl) [(2,100),(1,1)] ?_ ?_
 ·exact zh
 rintro⟨i,hi,hx⟩ J hb
 simp only at hb hi hx⊢
 refine zB 120 (vv ?_)
 refine zV (fun hc=>?_) (fun hc=>?_)
 ·have hc:=zH hc
  rw[JC hc,Kw]at hx
  simp only[go_sem,wC hc]
  refine⟨⟨zA,zA⟩,?_⟩
  refine CallQ.pure 130 (eV ys[i]) rfl ?_
  cases h5:yA ys[i]with
  |false=>
   rw[h5]at hx
   refine vv ?_
   exact RetQ.bool (hR C hL) rfl ⟨rfl,trivial⟩ (by rw[hx];rfl)
  |true=>
   rw[h5,Jd]at hx
   simp only[go_sem,yu (i:=i)]
   exact hb _ _ ⟨i+1,hc,hx⟩ [(2,2),(1,1)] yL zh
 ·have hc:=zI hi hc
  rw[hc,JI]at hx
  exact RetQ.bool (hR C hL) rfl ⟨rfl,trivial⟩ (by rw[hx];rfl)
theorem Yx {H:Hp}(m:MpL)(hm:m.ok H)(hl:∀v∈m.zs,v.2.length<=1000000000000000):
  CallH H Tryz.prog 36 [.agg [.v (vsl m.x m.xs.length),.v (vsl m.y m.ys.length),.v (vsl m.z m.zs.length)]] (Bo (xM m.xs m.ys (m.zs.map (·.2)))):=by
 have hmo:xM m.xs m.ys (m.zs.map (·.2))=(xX m.xs&&(xX m.ys&&(decide (m.zs.length=m.xs.length)&&m.zs.all (fun z=>decide (z.2.length=m.ys.length)&&z.2.all yA)))):=by
  unfold xM;rw[Kv,List.all_map];rfl
 rw[hmo]
 have e1:((m.zs.length:Int)!=(m.xs.length:Int))= !decide (m.zs.length=m.xs.length):=by rw[JP,bne_iff_ne,Jh,decide_eq_false_iff_not];omega
 refine kH func36 Of ntmps36 fun C hR hP hH hL=>?_
 refine zB 100 (vv ?_)
 refine zM 110 (iL m.x m.xs hm.x) hH rfl (vv ?_)
 refine zt 110 (fun _=>iL m.y m.ys hm.y) hH (fun h=>by rw[<-HN (xX m.xs),h];rfl) ?_
 simp only[go_sem,e1]
 cases h1:xX m.xs with
 |false=>
  rw[h1]at hR
  refine vv ?_
  exact zp (hR C hL) rfl
 |true=>
 cases h2:xX m.ys with
 |false=>
  rw[h1,h2]at hR
  refine vv ?_
  exact zp (hR C hL) rfl
 |true=>
 cases h3:decide (m.zs.length=m.xs.length)with
 |false=>
  rw[h1,h2,h3]at hR
  refine vv ?_
  exact zp (hR C hL) rfl
 |true=>
 rw[h1,h2,h3]at hR
 have hl2:m.zs.length<=32:=by
  have h1':=h1
  unfold xX at h1'
  rw[JB,decide_eq_true_eq]at h1'
  rw[of_decide_eq_true h3];exact h1'.1.2
 refine vv ?_
 have hzl:(fg m).length=m.zs.length:=Kv _
 refine Sm.bringC 1 26 100 2 (rows:=fg m) (hm.z.mono hH) rfl rfl rfl ?_
 rw[hzl]
 refine zK (M0:=[]) (α:={i:Nat//i<=m.zs.length/\m.zs.all (fun z=>decide (z.2.length=m.ys.length)&&z.2.all yA)=(m.zs.drop i).all (fun z=>decide (z.2.length=m.ys.length)&&z.2.all yA)}) hP (fun i=>[(1,true,.c (.p 2 0)),(3,true,I i.val)])
  (fun _=>[(1,⟨true,zC (fg m),26⟩),(2,⟨false,[.v (vsl m.x m.xs.length),.v (vsl m.y m.ys.length),.sl 1 0 m.zs.length 1],82⟩)]) (fun i=>m.zs.length-i.val) ⟨0,zA,rfl⟩ (fun _=>cM) (fun _=>zO rfl) [(1,1),(2,100)] ?_ ?_
 ·exact zh
 rintro⟨i,hi,hx⟩ J hb
 simp only at hb hi hx⊢
 refine zB 120 (vv ?_)
 refine zV (fun hc=>?_) (fun hc=>?_)
 ·have hc:=zH hc
  rw[JC hc,Kw]at hx
  have e3:=nJ hc
  have hmem:m.zs[i]∈m.zs:=JH hc
  generalize hz:m.zs[i]=z at*
  have e4:((z.2.length:Int)!=(m.ys.length:Int))= !decide (z.2.length=m.ys.length):=by rw[JP,bne_iff_ne,Jh,decide_eq_false_iff_not];omega
  refine Sm.dg 130 9 zi ?_
  simp only[go_sem,e3,e4]
  refine⟨⟨zA,zA⟩,?_⟩
  cases h5:decide (z.2.length=m.ys.length)with
  |false=>
   rw[h5]at hx
   refine vv ?_
   exact RetQ.bool (hR C hL) rfl ⟨rfl,trivial⟩ (by rw[hx];rfl)
  |true=>
  have h5':=of_decide_eq_true h5
  rw[h5,Jd]at hx
  have hzo:=hm.e z hmem
  have hzl2:=hl z hmem
  refine zB 140 (vv ?_)
  refine zK (M0:=[]) (α:={k:Nat//k<=z.2.length/\z.2.all yA=(z.2.drop k).all yA}) hP (fun k=>[(1,true,.c (.p 2 0)),(3,true,I i),(4,true,I k.val)])
   (fun _=>[(1,⟨true,zC (fg m),26⟩),(2,⟨false,[.v (vsl m.x m.xs.length),.v (vsl m.y m.ys.length),.sl 1 0 m.zs.length 1],82⟩)]) (fun k=>z.2.length-k.val) ⟨0,zA,rfl⟩ (fun _=>cM) (fun _=>zO rfl) [(1,1),(2,2)] ?_ ?_
  ·exact zh
  rintro⟨k,hk,hy⟩ J2 hb2
  simp only at hb2 hk hy⊢
  refine yP 24 _ _ _ 150 ?_
  simp only[go_sem,e3]
  refine zV (fun hd=>?_) (fun hd=>?_)
  ·have hd:k<z.2.length:=by have:=zH hd;omega
   refine⟨⟨zA,zA⟩,?_⟩
   refine Sm.bringI 6 3 52 (hzo.mono hH) rfl rfl ?_
   rw[JC hd,Kw]at hy
   refine zB 160 ?_
   simp only[go_sem,wC hd]
   refine⟨⟨zA,zA⟩,?_⟩
   refine CallQ.pure 170 (Zk z.2[k]) rfl ?_
   cases h6:yA z.2[k]with
   |false=>
    rw[h6]at hy
    refine vv ?_
    exact RetQ.bool (hR C hL) rfl ⟨rfl,trivial⟩ (by rw[hx,hy];rfl)
   |true=>
    rw[h6,Jd]at hy
    simp only[go_sem,yu (i:=k)]
    exact hb2 _ _ ⟨k+1,hd,hy⟩ [(1,1),(2,2)] yL zh
  ·have hd:k=z.2.length:=by have:=of_decide_eq_false hd;omega
   rw[hd,JI]at hy
   rw[hy]at hx
   simp only[go_sem,yu (i:=i)]
   exact hb _ _ ⟨i+1,hc,hx⟩ [(1,1),(2,2)] yL zh
 ·have hc:=zI hi hc
  rw[hc,JI]at hx
  exact RetQ.bool (hR C hL) rfl ⟨rfl,trivial⟩ (by rw[hx];rfl)
theorem nW {α:Type}{H:Hp}{s:Sv}{l:List α}{r:α->List Value}{k:Nat}(hk:∀x,(r x).length=k)(h0:0<k)(hs:SlH H (vsl s l.length) k (l.map r))(h:0<l.length):
  ∃b o,s.o=some ⟨b,o,none⟩/\∃cs el mk,H b (.cells cs el mk)/\∀q (hq:q<l.length) j v,(r l[q])[j]?=some v->cs[o+q*k+j]?=some v:=by
 have hz:=zQ (r:=r) (k:=k) hk l
 unfold zC at hz
 rw[Kv]at hz
 obtain⟨b,o,c,h1,cs,el,mk,hb,hc⟩:=hs.at (by intro h0;rw[h0]at hz;have:=Nat.mul_pos h ‹0<k›;simp at hz;omega)
 have hio:s.o=some ⟨b,o,none⟩:=by injection h1
 refine⟨b,o,hio,cs,el,mk,hb,fun q hq j v hj=>?_⟩
 have hj5:j<k:=by have:=(JW.1 hj).1;rw[hk]at this;exact this
 have:=hc (q*k+j) v (by rw[rB (r:=r) (k:=k) hk l q j hq hj5];exact hj)
 rw[IC];exact this
def W9 (p:Pg):List Cv:=[.v (vsl p.c p.code.length),.v (vsl p.t p.tys.length),.v (vsl p.u p.cus.length),.v (vsl p.m p.mas.length),.v (iv p.sz),.sl 20 0 p.f5.length 1,.sl 21 0 p.f6.length 1,.v (vsl p.s7 p.f7.length),.sl 22 0 p.f8.length 1]
theorem o5 {H:Hp}(p:Pg)(hp:p.ok H)(hc1:∀c∈p.cus,c.c.xs.length<=1000000000000000/\c.c.ys.length<=1000000000000000)(hm1:∀m∈p.mas,∀v∈m.zs,v.2.length<=1000000000000000)(h8:p.f8.length<=1000000000000000)(hki:∀i∈p.code, -9223372036854775808<=i.k/\i.k<=9223372036854775807):CallH H Tryz.prog 9 [z3 p.r] (Bo (wP p)):=by
 have hC5:=ja p p.f5 p.s5 hp.i5
 have hC7:=ja p p.f7 p.s7 hp.i7
 have hC6:=ja p p.f6 p.s6 hp.i6
 obtain⟨TY,hTY⟩:∃b,b=p.tys.all fok:=⟨_,rfl⟩
 obtain⟨CU,hCU⟩:∃b,b=p.cus.all (fun c=>wN c.c.xs c.c.ys):=⟨_,rfl⟩
 obtain⟨MA,hMA⟩:∃b,b=p.mas.all (fun m=>xM m.xs m.ys (m.zs.map (·.2))):=⟨_,rfl⟩
 obtain⟨CO,hCO⟩:∃b,b=p.code.all (ua p):=⟨_,rfl⟩
 obtain⟨B,hB⟩:∃b,b=(decide (p.f5++p.f6).Nodup&&p.f8.all (fun n=> !fb n)):=⟨_,rfl⟩
 obtain⟨A,hA⟩:∃b,b=(tS p.sz p.f5&&(tS p.sz p.f7&&(tS p.sz p.f6&&decide (p.f8.length=p.f6.length)))):=⟨_,rfl⟩
 obtain⟨L,hL0⟩:∃b,b=(decide (p.code.length<=4000)&&(decide (p.tys.length<=100)&&(decide (p.cus.length<=100)&&(decide (p.mas.length<=100)&&(decide (0<=p.sz)&&decide (p.sz<=1000)))))):=⟨_,rfl⟩
 have hV:wP p=(L&&(TY&&(CU&&(MA&&(CO&&(A&&B)))))):=by
  unfold wP iV
  rw[hTY,hCU,hMA,hCO,hB,hA,hL0]
  generalize p.tys.all fok=a1
  generalize p.cus.all (fun c=>wN c.c.xs c.c.ys)=a2
  generalize p.mas.all (fun m=>xM m.xs m.ys (m.zs.map (·.2)))=a3
  generalize p.code.all (ua p)=a4
  generalize decide (p.f5++p.f6).Nodup=a5
  generalize p.f8.all (fun n=> !fb n)=a6
  generalize tS p.sz p.f5=a7
  generalize tS p.sz p.f6=a8
  generalize tS p.sz p.f7=a9
  generalize decide (p.f8.length=p.f6.length)=b1
  generalize decide (p.code.length<=4000)=b2
  generalize decide (p.tys.length<=100)=b3
  generalize decide (p.cus.length<=100)=b4
  generalize decide (p.mas.length<=100)=b5
  generalize decide (0<=p.sz)=b6
  generalize decide (p.sz<=1000)=b7
  simp only[Bool.and_assoc,Bool.and_comm,Bool.and_left_comm]
 have hpg:z3 p.r= .agg (ul p):=rfl
 rw[x6]at hC5 hC7 hC6⊢
 refine kH func9 KD ntmps9 fun C hR hP hH hL=>?_
 have hR:=hR C hL
 refine zB 100 (vv ?_)
 refine zV (fun hc=>?_) (fun hc=>?_)
 ·have:L=false:=by
   rw[hL0,IA];intro h
   simp only[JB,decide_eq_true_eq]at h
   simp only[Jv,I8,decide_eq_true_eq]at hc
   omega
  rw[hV,this]at hR
  exact zp hR rfl
 have hlt:p.code.length<=4000/\p.tys.length<=100/\p.cus.length<=100/\p.mas.length<=100/\0<=p.sz/\p.sz<=1000:=by
  simp only[Jv,IZ,decide_eq_false_iff_not]at hc
  omega
 have hLt:L=true:=by
  rw[hL0]
  simp only[JB,decide_eq_true_eq]
  omega
 rw[hV,hLt,Jd]at hR
 clear hc hV hL0 hLt
 refine vv ?_
 -- the types
 obtain⟨R,hRd⟩:∃R,R=(TY&&(CU&&(MA&&(CO&&(A&&B))))):=⟨_,rfl⟩
 rw[<-hRd]at hR
 have hpl:(ul p).length=9:=rfl
 have hpt:List.take 9 (ul p)=ul p:=rfl
 have hpg0:(ul p)[0]?=some (.v (vsl p.c p.code.length)):=rfl
 have hpg1:(ul p)[1]?=some (.v (vsl p.t p.tys.length)):=rfl
 have hpg2:(ul p)[2]?=some (.v (vsl p.u p.cus.length)):=rfl
 have hpg3:(ul p)[3]?=some (.v (vsl p.m p.mas.length)):=rfl
 have hpg8:(ul p)[8]?=some (.v (vsl p.s8 p.f8.length)):=rfl
 refine zK (M0:=[]) (α:={i:Nat//i<=p.tys.length/\TY=(p.tys.drop i).all fok}) hP (fun i=>[(1,true,.c (.p 1 0)),(3,true,I i.val)])
  (fun _=>[(1,⟨false,ul p,28⟩)]) (fun i=>p.tys.length-i.val) ⟨0,zA,by rw[Jb];exact hTY⟩ (fun _=>zD rfl) (fun _=>zO rfl) [(1,100)] ?_ ?_
 ·exact zh
 rintro⟨i,hi,hd⟩ J hj
 simp only at hj hi hd⊢
 refine v7 14 120 ?_
 simp only[go_sem,hpg1]
 refine zV (fun hc=>?_) (fun hc=>?_)
 ·have hc:=zH hc
  obtain⟨bt,ot,hto,cs,el,mk,hbt,hct⟩:=nW (r:=xN) (fun _=>rfl) yp (hp.mono hH).t zA
  have hpg1:(ul p)[1]?=some (.v (.slice (some ⟨bt,ot,none⟩) p.tys.length p.t.c)):=by rw[<-hto];rfl
  have hwi:IntKind.i64.wrap ((i:Int)+1)=((i+1:Nat):Int):=wS zA
  have hcx:=hct i hc
  rw[JC hc,Kw]at hd
  have hrv:=Yv p.tys[i]
  generalize p.tys[i]=x at*
  refine zB 130 ?_
  simp only[go_sem,hpg1]
  refine z4 130 rfl rfl (.inl rfl) (fun _=>(Stp.idxV rfl rfl rfl m9 zA zA).toC) ?_
  simp only[go_sem,Int.toNat_natCast]
  refine z4 130 rfl rfl (.inl rfl) (fun _=>StpC.ldA (vs:=xN x) hbt (fun j v hv=>hcx j v hv) rfl rfl rfl rfl (Jw _)) (vv ?_)
  refine CallQ.pure 140 hrv rfl (vv ?_)
  cases hf:fok x with
  |false=>
   rw[hf,IB]at hd
   refine vv ?_
   exact zN hR rfl yI (by rw[hRd,hd];rfl) (Sub.nil _) ClM.nil (zG rfl)
  |true=>
   rw[hf,Jd]at hd
   simp only[go_sem,hwi]
   exact hj _ _ ⟨i+1,hc,hd⟩ [(1,1)] yL zh
 have hc:=zI hi hc
 subst hc
 rw[JI]at hd
 rw[hd]at hTY hRd
 clear hj
 have hTY:∀t∈p.tys,fok t=true:=JD.1 hTY.symm
 simp only[List.all_nil,Jd]at hRd
 refine zB 100 (vv ?_)
 refine zK (M0:=[]) (α:={i:Nat//i<=p.cus.length/\CU=(p.cus.drop i).all (fun c=>wN c.c.xs c.c.ys)}) hP (fun i=>[(1,true,.c (.p 1 0)),(4,true,I i.val)])
  (fun _=>[(1,⟨false,ul p,28⟩)]) (fun i=>p.cus.length-i.val) ⟨0,zA,by rw[Jb];exact hCU⟩ (fun _=>zD rfl) (fun _=>zO rfl) [(1,1)] ?_ ?_
 ·exact zh
 rintro⟨i,hi,hd⟩ J hj
 simp only at hj hi hd⊢
 refine v7 14 120 ?_
 simp only[go_sem,hpg2]
 refine zV (fun hc=>?_) (fun hc=>?_)
 ·have hc:=zH hc
  obtain⟨bt,ot,hto,cs,el,mk,hbt,hct⟩:=nW (r:=pf) (fun _=>rfl) yp (hp.mono hH).u zA
  have hpg2:(ul p)[2]?=some (.v (.slice (some ⟨bt,ot,none⟩) p.cus.length p.u.c)):=by rw[<-hto];rfl
  have hwi:IntKind.i64.wrap ((i:Int)+1)=((i+1:Nat):Int):=wS zA
  have hcx:=hct i hc
  rw[JC hc,Kw]at hd
  have hrv:=XD p.cus[i].x p.cus[i].y p.cus[i].c.xs p.cus[i].c.ys (hp.cu _ (JH hc)).x (hp.cu _ (JH hc)).y (hc1 _ (JH hc)).2
  generalize p.cus[i]=x at*
  refine zB 130 ?_
  simp only[go_sem,hpg2]
  refine z4 130 rfl rfl (.inl rfl) (fun _=>(Stp.idxV rfl rfl rfl PD zA zA).toC) ?_
  simp only[go_sem,Int.toNat_natCast]
  refine z4 130 rfl rfl (.inl rfl) (fun _=>StpC.ldA (vs:=pf x) hbt (fun j v hv=>hcx j v hv) rfl rfl rfl rfl (Jw _)) (vv ?_)
  refine zM 140 hrv hH rfl (vv ?_)
  cases hf:wN x.c.xs x.c.ys with
  |false=>
   rw[hf,IB]at hd
   refine vv ?_
   exact zN hR rfl yI (by rw[hRd,hd];rfl) (Sub.nil _) ClM.nil (zG rfl)
  |true=>
   rw[hf,Jd]at hd
   simp only[go_sem,hwi]
   exact hj _ _ ⟨i+1,hc,hd⟩ [(1,1)] yL zh
 have hc:=zI hi hc
 subst hc
 rw[JI]at hd
 rw[hd]at hCU hRd
 clear hj
 simp only[List.all_nil,Jd]at hRd
 refine zB 100 (vv ?_)
 refine zK (M0:=[]) (α:={i:Nat//i<=p.mas.length/\MA=(p.mas.drop i).all (fun m=>xM m.xs m.ys (m.zs.map (·.2)))}) hP (fun i=>[(1,true,.c (.p 1 0)),(5,true,I i.val)])
  (fun _=>[(1,⟨false,ul p,28⟩)]) (fun i=>p.mas.length-i.val) ⟨0,zA,by rw[Jb];exact hMA⟩ (fun _=>zD rfl) (fun _=>zO rfl) [(1,1)] ?_ ?_
 ·exact zh
 rintro⟨i,hi,hd⟩ J hj
 simp only at hj hi hd⊢
 refine v7 14 120 ?_
 simp only[go_sem,hpg3]
 refine zV (fun hc=>?_) (fun hc=>?_)
 ·have hc:=zH hc
  obtain⟨bt,ot,hto,cs,el,mk,hbt,hct⟩:=nW (r:=pK) (fun _=>rfl) yp (hp.mono hH).m zA
  have hpg3:(ul p)[3]?=some (.v (.slice (some ⟨bt,ot,none⟩) p.mas.length p.m.c)):=by rw[<-hto];rfl
  have hwi:IntKind.i64.wrap ((i:Int)+1)=((i+1:Nat):Int):=wS zA
  have hcx:=hct i hc
  rw[JC hc,Kw]at hd
  have hrv:=Yx p.mas[i] (hp.ma _ (JH hc)) (hm1 _ (JH hc))
  generalize p.mas[i]=x at*
  refine zB 130 ?_
  simp only[go_sem,hpg3]
  refine z4 130 rfl rfl (.inl rfl) (fun _=>(Stp.idxV rfl rfl rfl PC zA zA).toC) ?_
  simp only[go_sem,Int.toNat_natCast]
  refine z4 130 rfl rfl (.inl rfl) (fun _=>StpC.ldA (vs:=pK x) hbt (fun j v hv=>hcx j v hv) rfl rfl rfl rfl (Jw _)) (vv ?_)
  refine zM 140 hrv hH rfl (vv ?_)
  cases hf:xM x.xs x.ys (x.zs.map (·.2))with
  |false=>
   rw[hf,IB]at hd
   refine vv ?_
   exact zN hR rfl yI (by rw[hRd,hd];rfl) (Sub.nil _) ClM.nil (zG rfl)
  |true=>
   rw[hf,Jd]at hd
   simp only[go_sem,hwi]
   exact hj _ _ ⟨i+1,hc,hd⟩ [(1,1)] yL zh
 have hc:=zI hi hc
 subst hc
 rw[JI]at hd
 rw[hd]at hMA hRd
 clear hj
 simp only[List.all_nil,Jd]at hRd
 -- the code
 refine zB 100 (vv ?_)
 refine zK (M0:=[]) (α:={i:Nat//i<=p.code.length/\CO=(p.code.drop i).all (ua p)}) hP (fun i=>[(1,true,.c (.p 1 0)),(6,true,I i.val)])
  (fun _=>[(1,⟨false,ul p,28⟩)]) (fun i=>p.code.length-i.val) ⟨0,zA,by rw[Jb];exact hCO⟩ (fun _=>zD rfl) (fun _=>zO rfl) [(1,1)] ?_ ?_
 ·exact zh
 rintro⟨i,hi,hd⟩ J hj
 simp only at hj hi hd⊢
 refine v7 14 120 ?_
 simp only[go_sem,hpg0]
 refine zV (fun hc=>?_) (fun hc=>?_)
 ·have hc:=zH hc
  obtain⟨bt,ot,hto,cs,el,mk,hbt,hct⟩:=nW (r:=Ins.w) (fun _=>rfl) yp (hp.mono hH).c zA
  have hpg0:(ul p)[0]?=some (.v (.slice (some ⟨bt,ot,none⟩) p.code.length p.c.c)):=by rw[<-hto];rfl
  have hwi:IntKind.i64.wrap ((i:Int)+1)=((i+1:Nat):Int):=wS zA
  have hcx:=hct i hc
  have hkx:=hki _ (JH hc)
  rw[JC hc,Kw]at hd
  generalize p.code[i]=x at*
  refine zB 130 ?_
  simp only[go_sem,hpg0]
  refine Sm.dg 130 14 zi ?_
  simp only[go_sem,hpg0]
  refine DOpQ.own 130 (Stp.idxV rfl rfl rfl Yr zA zA) ?_
  simp only[go_sem,Int.toNat_natCast]
  refine zF 130 (fun _=>StpC.ldA (vs:=x.w) hbt (fun j v hv=>hcx j v hv) rfl rfl rfl rfl (Jw _)) (vv ?_)
  refine DCallQ.pure 140 (eU x hkx) rfl (vv ?_)
  cases hf:ss x with
  |false=>
   have hq:ua p x=false:=by unfold ua;rw[hf];rfl
   rw[hq,IB]at hd
   simp only[go_sem,hpg0]
   refine zF (v:= .agg []) 160 (fun h=>by cases h) (vv ?_)
   refine zF (v:= .agg []) 160 (fun h=>by cases h) (vv ?_)
   refine CallQ.guard (xs:=[]) (v:=Bo false) 170 (fun h=>by cases h) (fun h=>by cases h) (vv ?_)
   exact zN hR rfl yI (by rw[hRd,hd];rfl) (Sub.nil _) ClM.nil (zG rfl)
  |true=>
   have hq:ua p x=fA p x:=by unfold ua;rw[hf];rfl
   have hnm:=bo p hp hTY zA x hf
   rw[hpg]at hnm
   rw[hq]at hd
   simp only[go_sem,hpg0,hpl,hpt]
   refine DOpQ.own 130 (Stp.idxV rfl rfl rfl Yr zA zA) ?_
   simp only[go_sem,Int.toNat_natCast]
   refine zF 130 (fun _=>StpC.ldA (vs:=x.w) hbt (fun j v hv=>hcx j v hv) rfl rfl rfl rfl (Jw _)) (vv ?_)
   refine zM 170 hnm hH rfl (vv ?_)
   cases hg:fA p x with
   |false=>
    rw[hg,IB]at hd
    refine vv ?_
    exact zN hR rfl yI (by rw[hRd,hd];rfl) (Sub.nil _) ClM.nil (zG rfl)
   |true=>
    rw[hg,Jd]at hd
    simp only[go_sem,hwi]
    exact hj _ _ ⟨i+1,hc,hd⟩ [(1,1)] yL zh
 have hc:=zI hi hc
 subst hc
 rw[JI]at hd
 rw[hd]at hCO hRd
 clear hj
 simp only[List.all_nil,Jd]at hRd
 -- cells
 have hpg5:(ul p)[5]?=some (.v (vsl p.s5 p.f5.length)):=rfl
 have hpg6:(ul p)[6]?=some (.v (vsl p.s6 p.f6.length)):=rfl
 have hpg7:(ul p)[7]?=some (.v (vsl p.s7 p.f7.length)):=rfl
 have hpg4:(ul p)[4]?=some (.v (iv p.sz)):=rfl
 have hA5:=fun(h:tS p.sz p.f5=true)=>xt h
 have hA6:=fun(h:tS p.sz p.f6=true)=>xt h
 generalize tS p.sz p.f5=b5 at*
 generalize tS p.sz p.f7=b7 at*
 generalize tS p.sz p.f6=b6 at*
 refine zB 100 ?_
 simp only[go_sem,hpg5,hpl,hpt]
 refine zM 170 hC5 hH rfl ?_
 cases b5 with
 |false=>
  simp only[go_sem,hpg7]
  refine CallQ.guard (xs:=[]) (v:=Bo false) 170 (fun h=>by cases h) (fun h=>by cases h) ?_
  simp only[go_sem,hpg6]
  refine CallQ.guard (xs:=[]) (v:=Bo false) 170 (fun h=>by cases h) (fun h=>by cases h) ?_
  simp only[go_sem,hpg6,hpg8]
  exact zN hR rfl yI (by rw[hRd,hA];rfl) (Sub.nil _) ClM.nil (zG rfl)
 |true=>
 simp only[go_sem,hpg7,hpl,hpt]
 refine zM 170 hC7 hH rfl ?_
 cases b7 with
 |false=>
  simp only[go_sem,hpg6]
  refine CallQ.guard (xs:=[]) (v:=Bo false) 170 (fun h=>by cases h) (fun h=>by cases h) ?_
  simp only[go_sem,hpg6,hpg8]
  exact zN hR rfl yI (by rw[hRd,hA];rfl) (Sub.nil _) ClM.nil (zG rfl)
 |true=>
 simp only[go_sem,hpg6,hpl,hpt]
 refine zM 170 hC6 hH rfl ?_
 cases b6 with
 |false=>
  simp only[go_sem,hpg6,hpg8]
  exact zN hR rfl yI (by rw[hRd,hA];rfl) (Sub.nil _) ClM.nil (zG rfl)
 |true=>
 simp only[go_sem,hpg6,hpg8]
 have hA5:=hA5 rfl
 have hA6:=hA6 rfl
 refine zV (fun hc=>?_) (fun hc=>?_)
 ·have:decide (p.f8.length=p.f6.length)=false:=by
   rw[bne_iff_ne]at hc
   exact decide_eq_false zA
  rw[this]at hA
  exact zN hR rfl yI (by rw[hRd,hA];rfl) (Sub.nil _) ClM.nil (zG rfl)
 have h86:p.f8.length=p.f6.length:=by
  rw[bne_eq_false_iff_eq]at hc
  omega
 rw[decide_eq_true h86]at hA
 rw[show A=true from hA,Jd]at hRd
 have hrg:∀n∈p.f5++p.f6,0<=n/\n<p.sz:=fun n hn=>(IP.1 hn).elim (hA5.2 n) (hA6.2 n)
 have hLl:(p.f5++p.f6).length<=2000:=by rw[JM];omega
 have hKK:=vi p.sz.toNat
 simp only[go_sem,hpg4,hKK]
 refine⟨zA,?_⟩
 refine zB 180 (vv ?_)
 refine Sm.bringC 20 3 1 5 (rows:=zP p.f5) (hp.i5.mono hH) rfl rfl rfl ?_
 refine Sm.bringC 21 3 1 6 (rows:=zP p.f6) (hp.i6.mono hH) rfl rfl rfl ?_
 refine Sm.bringC 22 3 1 8 (rows:=zP p.f8) (hp.i8.mono hH) rfl rfl rfl ?_
 have il:∀l:List Int,(zP l).length=l.length:=fun l=>by unfold zP;rw[Kv]
 dsimp only
 simp only[il,wj]
 have hQ:(((ul p).set 5 (.sl 20 0 p.f5.length 1)).set 6 (.sl 21 0 p.f6.length 1)).set 8 (.sl 22 0 p.f8.length 1)=W9 p:=rfl
 have q5:(W9 p)[5]?=some (.sl 20 0 p.f5.length 1):=rfl
 have q6:(W9 p)[6]?=some (.sl 21 0 p.f6.length 1):=rfl
 have q8:(W9 p)[8]?=some (.sl 22 0 p.f8.length 1):=rfl
 rw[hQ]
 refine Sm.dg 190 6 zi ?_
 simp only[go_sem,q5,q6]
 have hon:∀l:List Int,(l.map iC).all Cv.one=true:=fun l=>JD.2 fun c hc=>by obtain⟨n,_,rfl⟩:=JL.1 hc;rfl
 have htk:∀l:List Int,List.take l.length (l.map iC)=l.map iC:=fun l=>JJ z9
 refine sj [(190,⟨false,[],3⟩)] 200 (by simp only[go_sem,htk]<;>rfl) ?_ rfl ⟨⟨rfl,rfl,rfl⟩,trivial⟩ rfl rfl ?_
 ·exact⟨⟨z9,hon _⟩,zA,zA⟩
 simp only[go_sem,q6,htk]
 have h56:p.f5.length+p.f6.length<=2000:=by rw[<-JM];exact hLl
 refine⟨⟨z9,⟨z9,hon _⟩,zA,zA⟩,?_⟩
 rw[<-JN,<-JM]
 generalize p.f5++p.f6=L at*
 have hN0:p.sz=(p.sz.toNat:Int):=zA
 generalize p.sz.toNat=N at*
 have hLc:∀i (h:i<L.length),(L.map iC)[i]?=some (iC L[i]):=fun i h=>by simp[h]
 generalize hC8:p.f8.all (fun n=> !fb n)=C8 at*
 refine zB 210 (vv ?_)
 refine zK (M0:=[]) (α:={i:Nat//i<=L.length/\(L.take i).Nodup}) hP (fun i=>[(1,true,.c (.p 1 0)),(7,true,.c (.sl 7 0 N 1)),(8,true,.c (.sl 8 0 L.length 1)),(9,true,I i.val)])
  (fun i=>[(1,⟨false,W9 p,28⟩),(22,⟨true,p.f8.map iC,3⟩),(20,⟨true,p.f5.map iC,3⟩),(21,⟨true,p.f6.map iC,3⟩),(7,⟨false,(xE N ((L.take i.val).map Int.toNat)).map bC,4⟩),(8,⟨false,L.map iC,3⟩)]) (fun i=>L.length-i.val) ⟨0,zA,z9⟩ (fun _=>zD (by simp only[Kw,z6 (yf _),z6 (zq _)];rfl)) (fun _=>zO rfl) [(1,1),(22,22),(20,20),(21,21),(7,170),(8,201)] ?_ ?_
 ·exact zh
 rintro⟨i,hi,hnd⟩ J hj
 simp only at hj hi hnd⊢
 refine v7 14 200 (vv ?_)
 refine zV (fun hc=>?_) (fun hc=>?_)
 ·have hc:=zH hc
  obtain⟨c0,c1⟩:=hrg _ (JH hc)
  have hov:=hLc i hc
  have hmk:=Zt (fun n hn=>(hrg n hn).1) hc
  obtain⟨j0,hj0⟩:∃j0:Nat,L[i]=j0:=⟨L[i].toNat,zA⟩
  have hjn:(L[i]).toNat=j0:=by rw[hj0];rfl
  have hjN:j0<N:=by rw[hj0,hN0]at c1;omega
  rw[hjn]at hmk
  have g1:((xE N ((L.take i).map Int.toNat)).map bC)[j0]?=some (bC (((L.take i).map Int.toNat).contains j0)):=by rw[rK (by rw[wM];exact hjN),qq hjN]
  have hset:((xE N ((L.take i).map Int.toNat)).map bC).set j0 (bC true)=(xE N ((L.take (i+1)).map Int.toNat)).map bC:=by
   rw[JR hc,JN,Ky,Kz,hjn,<-kZ hjN,Jy]
  have hll:((xE N ((L.take i).map Int.toNat)).map bC).length=N:=by rw[Kv,wM]
  rw[hmk]at g1
  rw[hj0]at hov
  have hwi:IntKind.i64.wrap ((i:Int)+1)=((i+1:Nat):Int):=wS zA
  by_cases hm:L[i]∈L.take i
  ·rw[show decide L.Nodup=false from decide_eq_false (Zp hc hm),IB]at hB
   rw[show decide (L[i]∈L.take i)=true from decide_eq_true hm]at g1
   refine zB 200 ?_
   simp only[go_sem,hov,g1,hset,hll,Int.toNat_natCast]
   exact⟨⟨zA,zA⟩,⟨zA,zA⟩,zN hR rfl yI (by rw[hRd,hB];rfl) (Sub.nil _) ClM.nil (zG rfl)⟩
  ·rw[show decide (L[i]∈L.take i)=false from decide_eq_false hm]at g1
   refine zB 200 ?_
   simp only[go_sem,hov,g1,hset,hll,Int.toNat_natCast,hwi]
   exact⟨⟨zA,zA⟩,⟨zA,zA⟩,⟨zA,zA⟩,⟨zA,zA⟩,zA,hj _ _ ⟨i+1,hc,i9 hc hnd hm⟩ [(1,1),(22,22),(20,20),(21,21),(7,7),(8,8)] yL zh⟩
 have hc:=zI hi hc
 subst hc
 rw[JY]at hnd
 rw[show decide L.Nodup=true from decide_eq_true hnd,Jd]at hB
 clear hj
 have hB:B=p.f8.all (fun n=> !fb n):=by rw[hB,hC8]
 clear hC8
 refine zB 200 (vv ?_)
 refine zK (M0:=[]) (α:={i:Nat//i<=p.f8.length/\B=(p.f8.drop i).all (fun n=> !fb n)}) hP (fun i=>[(1,true,.c (.p 1 0)),(10,true,I i.val)])
  (fun i=>[(1,⟨false,W9 p,28⟩),(22,⟨true,p.f8.map iC,3⟩),(20,⟨true,p.f5.map iC,3⟩),(21,⟨true,p.f6.map iC,3⟩)]) (fun i=>p.f8.length-i.val) ⟨0,zA,by rw[Jb];exact hB⟩ (fun _=>zD (by simp only[Kw,z6 (yf _),z6 (zq _)];rfl)) (fun _=>zO rfl) [(1,1),(22,22),(20,20),(21,21)] ?_ ?_
 ·exact zh
 rintro⟨i,hi,hd⟩ J hj
 simp only at hj hi hd⊢
 refine v7 14 200 ?_
 simp only[go_sem,q8]
 refine zV (fun hc=>?_) (fun hc=>?_)
 ·have hc:=zH hc
  have hov:(p.f8.map iC)[i]?=some (iC p.f8[i]):=by simp[hc]
  have hwi:IntKind.i64.wrap ((i:Int)+1)=((i+1:Nat):Int):=wS zA
  rw[JC hc,Kw]at hd
  generalize p.f8[i]=z at*
  have hcd:(bif decide (z< -1099511627776)then true else decide (1099511627776<z))=fb z:=rfl
  refine zB 200 ?_
  simp only[go_sem,q8,hov,Int.toNat_natCast,hcd]
  refine⟨⟨zA,zA⟩,fun h=>⟨h,h,zA,zA⟩,?_⟩
  cases hz:fb z with
  |true=>
   rw[hz]at hd
   exact zN hR rfl yI (by rw[hRd,hd];rfl) (Sub.nil _) ClM.nil (zG rfl)
  |false=>
   rw[hz]at hd
   simp only[Ic,Jd]at hd
   refine zB 200 ?_
   simp only[go_sem,hwi]
   exact hj _ _ ⟨i+1,hc,hd⟩ [(1,1),(22,22),(20,20),(21,21)] yL zh
 ·have hc:=zI hi hc
  subst hc
  rw[JI]at hd
  refine zB 200 (vv ?_)
  exact zN hR rfl yI (by rw[hRd,hd];rfl) (Sub.nil _) ClM.nil (zG rfl)
end Go.Proofs.YtbnkiacicnnmkaaGreat.Fx
