/-  -/
import Derived.Test.YtkciabfilokfiaaGreatU3
open Go.Proofs.Tryz
open Go.Proofs.Tryz renaming prog→Hf
set_option linter.unusedSimpArgs false
set_option linter.unusedVariables false
set_option maxRecDepth 100000
set_option maxHeartbeats 4000000
namespace Go.Proofs.YtkciabfilokfiaaGreat.Fx
open Vg Tf
theorem bP (n:Int):CallOk Hf 180 [I n] [] (Bo (yP n)) []:=by
 refine kN 100 func180 RD ntmps180 fun C hR hP=>?_
 refine vv ?_
 refine yL hR ?_
 unfold yP
 rw[xu,JQ]
 simp only[JG,decide_eq_true_eq]
theorem XZ (n:Int):CallOk Hf 182 [I n] [] (Bo (!yP n)) []:=by
 refine kN 100 func182 RB ntmps182 fun C hR hP=>?_
 refine vv ?_
 refine yL hR ?_
 unfold yP
 rw[qJ,<-Bool.not_inj_iff,IL,Bool.not_or,<-decide_not,<-decide_not,JQ]
 simp only[JG,decide_eq_true_eq];omega
theorem cn (n:Int):CallOk Hf 120 [I n] [] (Bo (tp n)) []:=by
 refine kN 100 func120 Rw ntmps120 fun C hR hP=>?_
 refine vv ?_
 refine yL hR ?_
 unfold tp
 rw[xu,JQ]
 simp only[JG,decide_eq_true_eq]
theorem W3 (t:Ft):CallOk Hf 117 [fx t] [] (Bo (yE t)) []:=by
 refine kN 100 func117 Rz ntmps117 fun C hR hP=>?_
 refine vv ?_
 refine CallQ.guard 110 (fun _=>W2 ⟨t.m,t.kg,t.s,t.a,t.k⟩) (fun h=>by rw[h];rfl) (vv ?_)
 refine yL hR ?_
 unfold yE uv
 rw[JQ]
 simp only[xu,qJ,JG,I1,decide_eq_true_eq,beq_iff_eq,and_assoc,or_assoc]
theorem fe {H:Hp}(s:Sv)(l:List Str)(hs:SlH H (vsl s l.length) 1 (yH l))(hl:l.length<=1000000000000000)(h6:∀x∈l,x.length<=1000000000000000):CallH H Hf 122 [.c (.v (vsl s l.length))] (Bo (l.all yZ)):=by
 refine kH func122 Ru ntmps122 fun C hR hP hH hL=>?_
 refine Sm.bringS 1 9 0 (hs.mono hH) rfl rfl ?_
 refine zB 100 (vv ?_)
 refine zG (M0:=[]) (α:={i:Nat//i<=l.length/\l.all yZ=(l.drop i).all yZ}) hP (fun i=>[(0,true,.c (.sl 1 0 l.length 1)),(3,true,I i.val)]) (fun _=>[(1,⟨true,l.map sC,9⟩)]) (fun i=>l.length-i.val) ⟨0,zA,rfl⟩ (fun _=>zC (by simp only[Ky,zh (y7 _)];rfl)) (fun _=>zO rfl) [(1,1)] ?_ ?_
 ·exact z9
 rintro⟨i,hi,hx⟩ J hb
 simp only at hb hi hx⊢
 refine zB 120 (vv ?_)
 refine zU (fun hc=>?_) (fun hc=>?_)
 ·have hc:=zH hc
  rw[JA hc,Ky]at hx
  simp only[go_sem,xq hc]
  refine⟨⟨zA,zA⟩,?_⟩
  refine CallQ.pure 130 (uj l[i] (h6 _ (JE hc))) rfl ?_
  cases h5:yZ l[i]with
  |false=>
   rw[h5]at hx
   refine vv ?_
   exact RetQ.bool (hR C hL) rfl ⟨rfl,trivial⟩ (by rw[hx];rfl)
  |true=>
   rw[h5,Je]at hx
   simp only[go_sem,yT (i:=i)]
   exact hb _ _ ⟨i+1,hc,hx⟩ [(1,1)] yF z9
 ·have hc:=zL hi hc
  rw[hc,JL]at hx
  exact RetQ.bool (hR C hL) rfl ⟨rfl,trivial⟩ (by rw[hx];rfl)
theorem Zs {H:Hp}(s:Sv)(l:List Int)(hs:SlH H (vsl s l.length) 1 (zZ l)):CallH H Hf 179 [.c (.v (vsl s l.length))] (Bo (wK l)):=by
 have e1:decide ((l.length:Int)<2)= !decide (2<=l.length):=by rw[<-decide_not,decide_eq_decide];omega
 have e2:decide ((32:Int)<(l.length:Int))= !decide (l.length<=32):=by rw[<-decide_not,decide_eq_decide];omega
 have hax:wK l=((decide (2<=l.length)&&decide (l.length<=32))&&qK none l):=by unfold wK;rw[nM,HL]
 rw[hax]
 refine kH func179 RE ntmps179 fun C hR hP hH hL=>?_
 refine zB 100 ?_
 simp only[go_sem,e1,e2]
 cases h1:decide (2<=l.length)with
 |false=>
  rw[h1]at hR
  refine vv ?_
  exact yL (hR C hL) rfl
 |true=>
 cases h2:decide (l.length<=32)with
 |false=>
  rw[h1,h2]at hR
  refine vv ?_
  exact yL (hR C hL) rfl
 |true=>
 rw[h1,h2]at hR
 simp only[decide_eq_true_eq]at h1 h2
 refine vv ?_
 refine Sm.bringI 1 3 0 (hs.mono hH) rfl rfl ?_
 refine zG (M0:=[]) (α:={i:Nat//i<=l.length/\qK none l=qK (iq l i) (l.drop i)}) hP (fun i=>[(0,true,.c (.sl 1 0 l.length 1)),(3,true,I i.val)]) (fun _=>[(1,⟨true,l.map iC,3⟩)]) (fun i=>l.length-i.val) ⟨0,zA,rfl⟩ (fun _=>zC (by simp only[Ky,zh (yX _)];rfl)) (fun _=>zO rfl) [(1,1)] ?_ ?_
 ·exact z9
 rintro⟨i,hi,hx⟩ J hb
 simp only at hb hi hx⊢
 refine zB 120 (vv ?_)
 refine zU (fun hc=>?_) (fun hc=>?_)
 ·have hc:=zH hc
  rw[JA hc,qK]at hx
  have e3:(l.map iC)[i]?=some (iC l[i]):=xt hc
  have w2:=yT (i:=i)
  have hnext:qK none l=qK (some l[i]) (l.drop (i+1))->qK none l=qK (iq l (i+1)) (l.drop (i+1)):=fun h=>by
   rw[h,iq,if_neg zA,Ig,Kw,Kz hc];rfl
  refine Sm.dg 130 19 ze ?_
  simp only[go_sem,e3]
  refine⟨⟨zA,zA⟩,?_⟩
  refine DCallQ.pure 140 (bP l[i]) rfl ?_
  cases i with
  |zero=>
   cases h5:yP l[0]with
   |false=>
    rw[h5]at hx
    simp only[go_sem,e3]
    refine⟨fun h=>absurd h yg,fun h=>absurd h yg,?_⟩
    exact RetQ.bool (hR C hL) rfl ⟨rfl,trivial⟩ (by rw[hx];rfl)
   |true=>
    rw[h5]at hx
    simp only[go_sem,e3]
    refine zB 140 ?_
    simp only[go_sem,w2]
    exact hb _ _ ⟨1,zA,hnext (by rw[hx];rfl)⟩ [(1,1)] yF z9
  |succ j=>
   have w3:IntKind.i64.wrap (((j+1:Nat):Int)-1)=(j:Int):=by rw[ya zA zA];omega
   have e4:(l.map iC)[j]?=some (iC l[j]):=xt zA
   have e6:decide ((0:Int)<((j+1:Nat):Int))=true:=yV zA
   have hp:iq l (j+1)=some l[j]:=by
    rw[iq,if_neg zA,Ig,Kw,Kz zA];rfl
   rw[hp]at hx
   cases h5:yP l[j+1]with
   |false=>
    rw[h5]at hx
    simp only[go_sem,w3,e3,e4,e6]
    exact RetQ.bool (hR C hL) rfl ⟨rfl,trivial⟩ (by rw[hx];rfl)
   |true=>
    rw[h5]at hx
    simp only[go_sem,w3,e3,e4,e6]
    refine⟨⟨zA,zA⟩,⟨zA,zA⟩,?_⟩
    refine zU (fun hd=>?_) (fun hd=>?_)
    ·have hq:Wo (some l[j]) l[j+1]=false:=yd (by have:=of_decide_eq_true hd;omega)
     rw[hq]at hx
     exact RetQ.bool (hR C hL) rfl ⟨rfl,trivial⟩ (by rw[hx];rfl)
    ·have hq:Wo (some l[j]) l[j+1]=true:=yV (by have:=of_decide_eq_false hd;omega)
     rw[hq]at hx
     refine zB 140 ?_
     simp only[go_sem,w2]
     exact hb _ _ ⟨j+1+1,zA,hnext (by rw[hx];rfl)⟩ [(1,1)] yF z9
 ·have hc:=zL hi hc
  rw[hc,JL]at hx
  exact RetQ.bool (hR C hL) rfl ⟨rfl,trivial⟩ (by rw[hx];rfl)
theorem fj {H:Hp}(s:Sv)(l:List Int)(hs:SlH H (vsl s l.length) 1 (zZ l)):CallH H Hf 181 [.c (.v (vsl s l.length))] (Bo (wK l)):=by
 have e1:decide ((l.length:Int)<2)= !decide (2<=l.length):=by rw[<-decide_not,decide_eq_decide];omega
 have e2:decide ((32:Int)<(l.length:Int))= !decide (l.length<=32):=by rw[<-decide_not,decide_eq_decide];omega
 have hax:wK l=((decide (2<=l.length)&&decide (l.length<=32))&&qK none l):=by unfold wK;rw[nM,HL]
 rw[hax]
 refine kH func181 RC ntmps181 fun C hR hP hH hL=>?_
 refine zB 100 ?_
 simp only[go_sem,e1,e2]
 cases h1:decide (2<=l.length)with
 |false=>
  rw[h1]at hR
  refine vv ?_
  exact yL (hR C hL) rfl
 |true=>
 cases h2:decide (l.length<=32)with
 |false=>
  rw[h1,h2]at hR
  refine vv ?_
  exact yL (hR C hL) rfl
 |true=>
 rw[h1,h2]at hR
 simp only[decide_eq_true_eq]at h1 h2
 refine vv ?_
 refine Sm.bringI 1 3 0 (hs.mono hH) rfl rfl ?_
 refine zG (M0:=[]) (α:={i:Nat//i<=l.length/\qK none l=qK (iq l i) (l.drop i)}) hP (fun i=>[(0,true,.c (.sl 1 0 l.length 1)),(3,true,I i.val)]) (fun _=>[(1,⟨true,l.map iC,3⟩)]) (fun i=>l.length-i.val) ⟨0,zA,rfl⟩ (fun _=>zC (by simp only[Ky,zh (yX _)];rfl)) (fun _=>zO rfl) [(1,1)] ?_ ?_
 ·exact z9
 rintro⟨i,hi,hx⟩ J hb
 simp only at hb hi hx⊢
 refine zB 120 (vv ?_)
 refine zU (fun hc=>?_) (fun hc=>?_)
 ·have hc:=zH hc
  rw[JA hc,qK]at hx
  have e3:(l.map iC)[i]?=some (iC l[i]):=xt hc
  have w2:=yT (i:=i)
  have hnext:qK none l=qK (some l[i]) (l.drop (i+1))->qK none l=qK (iq l (i+1)) (l.drop (i+1)):=fun h=>by
   rw[h,iq,if_neg zA,Ig,Kw,Kz hc];rfl
  refine Sm.dg 130 18 ze ?_
  simp only[go_sem,e3]
  refine⟨⟨zA,zA⟩,?_⟩
  refine DCallQ.pure 140 (XZ l[i]) rfl ?_
  cases i with
  |zero=>
   cases h5:yP l[0]with
   |false=>
    rw[h5]at hx
    simp only[go_sem,e3]
    refine⟨fun h=>absurd h yg,fun h=>absurd h yg,?_⟩
    exact RetQ.bool (hR C hL) rfl ⟨rfl,trivial⟩ (by rw[hx];rfl)
   |true=>
    rw[h5]at hx
    simp only[go_sem,e3]
    refine zB 140 ?_
    simp only[go_sem,w2]
    exact hb _ _ ⟨1,zA,hnext (by rw[hx];rfl)⟩ [(1,1)] yF z9
  |succ j=>
   have w3:IntKind.i64.wrap (((j+1:Nat):Int)-1)=(j:Int):=by rw[ya zA zA];omega
   have e4:(l.map iC)[j]?=some (iC l[j]):=xt zA
   have e6:decide ((0:Int)<((j+1:Nat):Int))=true:=yV zA
   have hp:iq l (j+1)=some l[j]:=by
    rw[iq,if_neg zA,Ig,Kw,Kz zA];rfl
   rw[hp]at hx
   cases h5:yP l[j+1]with
   |false=>
    rw[h5]at hx
    simp only[go_sem,w3,e3,e4,e6]
    exact RetQ.bool (hR C hL) rfl ⟨rfl,trivial⟩ (by rw[hx];rfl)
   |true=>
    rw[h5]at hx
    simp only[go_sem,w3,e3,e4,e6]
    refine⟨⟨zA,zA⟩,⟨zA,zA⟩,?_⟩
    refine zU (fun hd=>?_) (fun hd=>?_)
    ·have hq:Wo (some l[j]) l[j+1]=false:=yd (by have:=of_decide_eq_true hd;omega)
     rw[hq]at hx
     exact RetQ.bool (hR C hL) rfl ⟨rfl,trivial⟩ (by rw[hx];rfl)
    ·have hq:Wo (some l[j]) l[j+1]=true:=yV (by have:=of_decide_eq_false hd;omega)
     rw[hq]at hx
     refine zB 140 ?_
     simp only[go_sem,w2]
     exact hb _ _ ⟨j+1+1,zA,hnext (by rw[hx];rfl)⟩ [(1,1)] yF z9
 ·have hc:=zL hi hc
  rw[hc,JL]at hx
  exact RetQ.bool (hR C hL) rfl ⟨rfl,trivial⟩ (by rw[hx];rfl)
theorem bF {H:Hp}(x y:Sv)(xs ys:List Int)(hx:SlH H (vsl x xs.length) 1 (zZ xs))(hy:SlH H (vsl y ys.length) 1 (zZ ys))(hly:ys.length<=1000000000000000):
  CallH H Hf 118 [.agg [.v (vsl x xs.length),.v (vsl y ys.length)]] (Bo (vq xs ys)):=by
 have e1:((ys.length:Int)!=(xs.length:Int))= !decide (xs.length=ys.length):=by rw[JQ,bne_iff_ne,Jr,decide_eq_false_iff_not];omega
 refine kH func118 Ry ntmps118 fun C hR hP hH hL=>?_
 refine zB 100 (vv ?_)
 refine z8 110 (Zs x xs hx) hH rfl ?_
 simp only[go_sem,e1]
 unfold vq at hR
 cases h1:decide (xs.length=ys.length)with
 |false=>
  rw[h1]at hR
  cases wK xs<;>(simp only[go_sem];exact yL (hR C hL) rfl)
 |true=>
 rw[h1]at hR
 cases h2:wK xs with
 |false=>
  rw[h2]at hR
  refine vv ?_
  exact yL (hR C hL) rfl
 |true=>
 rw[h2]at hR
 refine vv ?_
 refine Sm.bringC 1 3 100 1 (hy.mono hH) rfl rfl rfl ?_
 rw[vG,show(zZ ys).length=ys.length by simp[zZ]]
 refine zG (M0:=[]) (α:={i:Nat//i<=ys.length/\ys.all yP=(ys.drop i).all yP}) hP (fun i=>[(1,true,.c (.p 2 0)),(3,true,I i.val)]) (fun _=>[(2,⟨false,[.v (vsl x xs.length),.sl 1 0 ys.length 1],82⟩),(1,⟨true,ys.map iC,3⟩)]) (fun i=>ys.length-i.val) ⟨0,zA,rfl⟩ (fun _=>zC (by simp only[Ky,zh (yX _)];rfl)) (fun _=>zO rfl) [(2,100),(1,1)] ?_ ?_
 ·exact z9
 rintro⟨i,hi,hx⟩ J hb
 simp only at hb hi hx⊢
 refine zB 120 (vv ?_)
 refine zU (fun hc=>?_) (fun hc=>?_)
 ·have hc:=zH hc
  rw[JA hc,Ky]at hx
  simp only[go_sem,xt hc]
  refine⟨⟨zA,zA⟩,?_⟩
  refine CallQ.pure 130 (bP ys[i]) rfl ?_
  cases h5:yP ys[i]with
  |false=>
   rw[h5]at hx
   refine vv ?_
   exact RetQ.bool (hR C hL) rfl ⟨rfl,trivial⟩ (by rw[hx];rfl)
  |true=>
   rw[h5,Je]at hx
   simp only[go_sem,yT (i:=i)]
   exact hb _ _ ⟨i+1,hc,hx⟩ [(2,2),(1,1)] yF z9
 ·have hc:=zL hi hc
  rw[hc,JL]at hx
  exact RetQ.bool (hR C hL) rfl ⟨rfl,trivial⟩ (by rw[hx];rfl)
theorem cw {H:Hp}(m:MpL)(hm:m.ok H)(hl:∀v∈m.zs,v.2.length<=1000000000000000):
  CallH H Hf 119 [.agg [.v (vsl m.x m.xs.length),.v (vsl m.y m.ys.length),.v (vsl m.z m.zs.length)]] (Bo (wD m.xs m.ys (m.zs.map (·.2)))):=by
 have hmo:wD m.xs m.ys (m.zs.map (·.2))=(wK m.xs&&(wK m.ys&&(decide (m.zs.length=m.xs.length)&&m.zs.all (fun z=>decide (z.2.length=m.ys.length)&&z.2.all yP)))):=by
  unfold wD;rw[Ku,List.all_map];rfl
 rw[hmo]
 have e1:((m.zs.length:Int)!=(m.xs.length:Int))= !decide (m.zs.length=m.xs.length):=by rw[JQ,bne_iff_ne,Jr,decide_eq_false_iff_not];omega
 refine kH func119 Rx ntmps119 fun C hR hP hH hL=>?_
 refine zB 100 (vv ?_)
 refine z8 110 (fj m.x m.xs hm.x) hH rfl (vv ?_)
 refine zt 110 (fun _=>fj m.y m.ys hm.y) hH (fun h=>by rw[<-IL (wK m.xs),h];rfl) ?_
 simp only[go_sem,e1]
 cases h1:wK m.xs with
 |false=>
  rw[h1]at hR
  refine vv ?_
  exact yL (hR C hL) rfl
 |true=>
 cases h2:wK m.ys with
 |false=>
  rw[h1,h2]at hR
  refine vv ?_
  exact yL (hR C hL) rfl
 |true=>
 cases h3:decide (m.zs.length=m.xs.length)with
 |false=>
  rw[h1,h2,h3]at hR
  refine vv ?_
  exact yL (hR C hL) rfl
 |true=>
 rw[h1,h2,h3]at hR
 have hl2:m.zs.length<=32:=by
  have h1':=h1
  unfold wK at h1'
  rw[JG,decide_eq_true_eq]at h1'
  rw[of_decide_eq_true h3];exact h1'.1.2
 refine vv ?_
 have hzl:(ke m).length=m.zs.length:=Ku _
 refine Sm.bringC 1 33 100 2 (rows:=ke m) (hm.z.mono hH) rfl rfl rfl ?_
 rw[hzl]
 refine zG (M0:=[]) (α:={i:Nat//i<=m.zs.length/\m.zs.all (fun z=>decide (z.2.length=m.ys.length)&&z.2.all yP)=(m.zs.drop i).all (fun z=>decide (z.2.length=m.ys.length)&&z.2.all yP)}) hP (fun i=>[(1,true,.c (.p 2 0)),(3,true,I i.val)])
  (fun _=>[(1,⟨true,zD (ke m),33⟩),(2,⟨false,[.v (vsl m.x m.xs.length),.v (vsl m.y m.ys.length),.sl 1 0 m.zs.length 1],89⟩)]) (fun i=>m.zs.length-i.val) ⟨0,zA,rfl⟩ (fun _=>cM) (fun _=>zO rfl) [(1,1),(2,100)] ?_ ?_
 ·exact z9
 rintro⟨i,hi,hx⟩ J hb
 simp only at hb hi hx⊢
 refine zB 120 (vv ?_)
 refine zU (fun hc=>?_) (fun hc=>?_)
 ·have hc:=zH hc
  rw[JA hc,Ky]at hx
  have e3:=qR hc
  have hmem:m.zs[i]∈m.zs:=JE hc
  generalize hz:m.zs[i]=z at*
  have e4:((z.2.length:Int)!=(m.ys.length:Int))= !decide (z.2.length=m.ys.length):=by rw[JQ,bne_iff_ne,Jr,decide_eq_false_iff_not];omega
  refine Sm.dg 130 9 ze ?_
  simp only[go_sem,e3,e4]
  refine⟨⟨zA,zA⟩,?_⟩
  cases h5:decide (z.2.length=m.ys.length)with
  |false=>
   rw[h5]at hx
   refine vv ?_
   exact RetQ.bool (hR C hL) rfl ⟨rfl,trivial⟩ (by rw[hx];rfl)
  |true=>
  have h5':=of_decide_eq_true h5
  rw[h5,Je]at hx
  have hzo:=hm.e z hmem
  have hzl2:=hl z hmem
  refine zB 140 (vv ?_)
  refine zG (M0:=[]) (α:={k:Nat//k<=z.2.length/\z.2.all yP=(z.2.drop k).all yP}) hP (fun k=>[(1,true,.c (.p 2 0)),(3,true,I i),(4,true,I k.val)])
   (fun _=>[(1,⟨true,zD (ke m),33⟩),(2,⟨false,[.v (vsl m.x m.xs.length),.v (vsl m.y m.ys.length),.sl 1 0 m.zs.length 1],89⟩)]) (fun k=>z.2.length-k.val) ⟨0,zA,rfl⟩ (fun _=>cM) (fun _=>zO rfl) [(1,1),(2,2)] ?_ ?_
  ·exact z9
  rintro⟨k,hk,hy⟩ J2 hb2
  simp only at hb2 hk hy⊢
  refine xM 24 _ _ _ 150 ?_
  simp only[go_sem,e3]
  refine zU (fun hd=>?_) (fun hd=>?_)
  ·have hd:k<z.2.length:=by have:=zH hd;omega
   refine⟨⟨zA,zA⟩,?_⟩
   refine Sm.bringI 6 3 52 (hzo.mono hH) rfl rfl ?_
   rw[JA hd,Ky]at hy
   refine zB 160 ?_
   simp only[go_sem,xt hd]
   refine⟨⟨zA,zA⟩,?_⟩
   refine CallQ.pure 170 (XZ z.2[k]) rfl ?_
   cases h6:yP z.2[k]with
   |false=>
    rw[h6]at hy
    refine vv ?_
    exact RetQ.bool (hR C hL) rfl ⟨rfl,trivial⟩ (by rw[hx,hy];rfl)
   |true=>
    rw[h6,Je]at hy
    simp only[go_sem,yT (i:=k)]
    exact hb2 _ _ ⟨k+1,hd,hy⟩ [(1,1),(2,2)] yF z9
  ·have hd:k=z.2.length:=by have:=of_decide_eq_false hd;omega
   rw[hd,JL]at hy
   rw[hy]at hx
   simp only[go_sem,yT (i:=i)]
   exact hb _ _ ⟨i+1,hc,hx⟩ [(1,1),(2,2)] yF z9
 ·have hc:=zL hi hc
  rw[hc,JL]at hx
  exact RetQ.bool (hR C hL) rfl ⟨rfl,trivial⟩ (by rw[hx];rfl)
theorem Zc {H:Hp}(b:BlL)(hb:b.ok H)(h1:b.c.nm.length<=1000000000000000)(h2:b.c.ty.length<=1000000000000000)(h3:b.c.tb.length<=1000000000000000)(h4:b.c.ins.length<=1000000000000000)(h5:b.c.ks.length<=1000000000000000)(h6:∀s∈b.c.ins,s.length<=1000000000000000):
  CallH H Hf 121 [yD (BlL.r b)] (Bo (xI b.c)):=by
 have ha1:=fe (H:=H) b.i b.c.ins hb.i h4 h6
 refine kH func121 Rv ntmps121 fun C hR hP hH hL=>?_
 refine zB 100 (vv ?_)
 refine CallQ.pure 110 (bN b.c.kd) rfl ?_
 unfold xI at hR
 cases hk:yY b.c.kd with
 |none=>
  rw[hk]at hR
  simp only[go_sem,Option.getD_none]
  refine CallQ.guard (xs:=[]) (v:=Bo true) 150 (fun h=>by cases h) (fun h=>by cases h) (vv ?_)
  refine CallQ.guard (xs:=[]) (v:=Bo true) 150 (fun h=>by cases h) (fun h=>by cases h) (vv ?_)
  refine zt (xs:=[]) (v:=Bo true) (H:=C.hp) 150 (fun h=>by cases h) (zV _) (fun h=>by cases h) (vv ?_)
  exact yL (hR C hL) rfl
 |some q=>
 obtain⟨a,k,t⟩:=q
 rw[hk]at hR
 simp only at hR
 have e1:((b.c.ins.length:Int)!=(a:Int))= !decide (b.c.ins.length=a):=by rw[JQ,bne_iff_ne,Jr,decide_eq_false_iff_not];omega
 have e2:((b.c.ks.length:Int)!=(k:Int))= !decide (b.c.ks.length=k):=by rw[JQ,bne_iff_ne,Jr,decide_eq_false_iff_not];omega
 simp only[go_sem,Option.getD_some,e1,e2]
 refine CallQ.guard 120 (fun _=>uj b.c.nm h1) (fun h=>by rw[h];rfl) (vv ?_)
 refine CallQ.guard 120 (fun _=>uj b.c.ty h2) (fun h=>by rw[<-IL (yZ b.c.nm),h];rfl) ?_
 simp only[go_sem,e1,e2]
 generalize hA:decide (b.c.ins.length=a)=A at*
 generalize hB:decide (b.c.ks.length=k)=B at*
 generalize hN:yZ b.c.nm=Nn at*
 generalize hT:yZ b.c.ty=Tt at*
 generalize hI:b.c.ins.all yZ=Ii at*
 refine zt 130 (fun _=>ha1) hH (fun h=>by rw[h];rfl) (vv ?_)
 refine zU (fun hd=>?_) (fun hd=>?_)
 ·refine yL (hR C hL) ?_
  cases A<;>cases B<;>cases Nn<;>cases Tt<;>cases Ii<;>simp_all
 have hall:A=true/\B=true/\Nn=true/\Tt=true/\Ii=true:=by cases A<;>cases B<;>cases Nn<;>cases Tt<;>cases Ii<;>simp_all
 obtain⟨rfl,rfl,rfl,rfl,rfl⟩:=hall
 simp only[Je]at hR
 refine vv ?_
 refine Sm.bringC 1 3 100 5 (hb.k.mono hH) rfl rfl rfl ?_
 rw[vG,show(zZ b.c.ks).length=b.c.ks.length by simp[zZ]]
 refine zG (M0:=[]) (α:={i:Nat//i<=b.c.ks.length/\b.c.ks.all tp=(b.c.ks.drop i).all tp}) hP (fun i=>[(1,true,.c (.p 2 0)),(5,true,I t),(7,true,I i.val)])
  (fun _=>[(2,⟨false,[.v (sv b.c.nm),.v (sv b.c.kd),.v (sv b.c.ty),.v (vsl b.i b.c.ins.length),.v (sv b.c.tb),.sl 1 0 b.c.ks.length 1],53⟩),(1,⟨true,b.c.ks.map iC,3⟩)]) (fun i=>b.c.ks.length-i.val) ⟨0,zA,rfl⟩ (fun _=>zC (by simp only[Ky,zh (yX _)];rfl)) (fun _=>zO rfl) [(2,100),(1,1)] ?_ ?_
 ·exact z9
 rintro⟨i,hi,hx⟩ J hj
 simp only at hj hi hx⊢
 refine zB 120 (vv ?_)
 refine zU (fun hc=>?_) (fun hc=>?_)
 ·have hc:=zH hc
  rw[JA hc,Ky]at hx
  simp only[go_sem,xt hc]
  refine⟨⟨zA,zA⟩,?_⟩
  refine CallQ.pure 130 (cn b.c.ks[i]) rfl ?_
  cases h7:tp b.c.ks[i]with
  |false=>
   rw[h7]at hx
   refine vv ?_
   refine yL (hR C hL) ?_
   rw[hx];simp
  |true=>
   rw[h7,Je]at hx
   simp only[go_sem,yT (i:=i)]
   exact hj _ _ ⟨i+1,hc,hx⟩ [(2,2),(1,1)] yF z9
 ·have hc:=zL hi hc
  rw[hc,JL]at hx
  have hx:b.c.ks.all tp=true:=hx
  rw[hx]at hR
  have e4:((t:Int)==0)=decide (t=0):=by rw[JQ,beq_iff_eq,decide_eq_true_eq];omega
  simp only[e4]
  by_cases ht:t=0
  ·rw[if_pos ht]at hR
   simp only[go_sem,yV ht]
   refine yL (hR C hL) ?_
   simp
  ·rw[if_neg ht]at hR
   simp only[go_sem,yd ht]
   refine CallQ.pure 130 (uj b.c.tb h3) rfl (vv ?_)
   refine yL (hR C hL) ?_
   simp
theorem Sub.cons {M r:Mem}{n:Nat}{b:Bk}(h:M.get n=some b)(hr:Sub r M):Sub ((n,b)::r) M:=fun k c hk=>by
 simp only[Mem.get]at hk
 cases hkn:(n==k)with
 |true=>
  rw[hkn]at hk
  have:n=k:=by simpa using hkn
  subst this
  simp at hk
  subst hk
  exact⟨b,h,.inl rfl⟩
 |false=>rw[hkn]at hk;exact hr k c hk
theorem jA (al ah bl bh p1 p2 p3 p4 ab:Int)(h1:0<=p1)(h2:0<=p2)(h3:0<=p3)(h4:0<=p4)(g1:p1<=18446744065119617025)(g2:p2<=18446744065119617025)(g3:p3<=18446744065119617025)(g4:p4<=18446744065119617025)
  (h:ab=p4*18446744073709551616+(p2+p3)*4294967296+p1) (hab:ab<340282366920938463463374607431768211456):
  (p4+(p2+p1/4294967296)/4294967296+(p3+(p2+p1/4294967296)%4294967296)/4294967296=ab/18446744073709551616)/\
  ((p3+(p2+p1/4294967296)%4294967296)*4294967296%18446744073709551616+p1%4294967296=ab%18446744073709551616):=by
 constructor<;>omega
theorem W4 (x y:Int)(hx0:0<=x)(hx:x<18446744073709551616)(hy0:0<=y)(hy:y<18446744073709551616):CallOk Hf 296 [U x,U y] [] (.agg [.v (.int .u64 (x*y/18446744073709551616)),.v (.int .u64 (x*y%18446744073709551616))]) []:=by
 refine kO 100 func296 TJ ntmps296 (by simp[ClV,V.g,Cv.g]) fun C hR=>?_
 refine vv ?_
 have s32:∀z:Int,z.fdiv (2^min 32 64)=z/4294967296:=XQ
 have s33:∀z:Int,z.fdiv 4294967296=z/4294967296:=fun z=>I3 z zA
 have l32:(2:Int)^min 32 64=4294967296:=rfl
 have hp:∀z:Int,0<=z%18446744073709551616/\z%18446744073709551616<18446744073709551616:=fun z=>by omega
 have xm:=rX (a:=x%4294967296) (b:=y%4294967296) (A:=4294967295) (B:=4294967295) zA zA zA zA
 have x2:=rX (a:=x/4294967296) (b:=y%4294967296) (A:=4294967295) (B:=4294967295) zA zA zA zA
 have x3:=rX (a:=x%4294967296) (b:=y/4294967296) (A:=4294967295) (B:=4294967295) zA zA zA zA
 have x4:=rX (a:=x/4294967296) (b:=y/4294967296) (A:=4294967295) (B:=4294967295) zA zA zA zA
 have n1:0<=x%4294967296*(y%4294967296):=Ih zA zA
 have n2:0<=x/4294967296*(y%4294967296):=Ih zA zA
 have n3:0<=x%4294967296*(y/4294967296):=Ih zA zA
 have n4:0<=x/4294967296*(y/4294967296):=Ih zA zA
 have hxy:x*y=x/4294967296*(y/4294967296)*18446744073709551616+(x/4294967296*(y%4294967296)+x%4294967296*(y/4294967296))*4294967296+x%4294967296*(y%4294967296):=by
  have e1:=IP x 4294967296
  have e2:=IP y 4294967296
  generalize x/4294967296=a at*
  generalize x%4294967296=b at*
  generalize y/4294967296=c at*
  generalize y%4294967296=e at*
  rw[<-e1,<-e2]
  grind
 refine RetQ.pure hR rfl ⟨⟨rfl,by simp[cU],by simp[cU]⟩,trivial⟩ ?_ (fun _ _ _=>rfl)
 simp only[cU,Jp,List.take_succ_cons,List.take_zero,List.take_nil,W.toV,s33,l32,and_low32 x hx0 hx,and_low32 y hy0 hy]
 generalize x%4294967296*(y%4294967296)=p1 at*
 generalize x/4294967296*(y%4294967296)=p2 at*
 generalize x%4294967296*(y/4294967296)=p3 at*
 generalize x/4294967296*(y/4294967296)=p4 at*
 obtain⟨t1,t2⟩:=jA 0 0 0 0 p1 p2 p3 p4 (x*y) n1 n2 n3 n4 zA zA zA zA hxy zA
 have q1:IntKind.u64.wrap p1=p1:=tL zA zA
 have q2:IntKind.u64.wrap p2=p2:=tL zA zA
 have q3:IntKind.u64.wrap p3=p3:=tL zA zA
 have q4:IntKind.u64.wrap p4=p4:=tL zA zA
 have q5:IntKind.u64.wrap (p2+p1/4294967296)=p2+p1/4294967296:=tL zA zA
 simp only[q1,q2,q3,q4,q5,and_low32 p1 zA zA,and_low32 (p2+p1/4294967296) zA zA]
 have q6:IntKind.u64.wrap (p3+(p2+p1/4294967296)%4294967296)=p3+(p2+p1/4294967296)%4294967296:=tL zA zA
 have q7:IntKind.u64.wrap (p4+(p2+p1/4294967296)/4294967296)=p4+(p2+p1/4294967296)/4294967296:=tL zA zA
 simp only[q6,q7]
 rw[t1,IntKind.wrap_u64 ((p3+(p2+p1/4294967296)%4294967296)*4294967296),t2,tL zA zA,tL zA zA]
def Qu (c rest q:Int)(k:Nat):Env:=[(1,true,U c),(2,true,.c (.p 100 0)),(7,true,U rest),(8,true,U q),(9,true,I ((k:Int)-1))]
def Qt (hi lo:Int):Mem:=[(100,⟨false,[.v (.int .u64 hi),.v (.int .u64 lo)],311⟩)]
theorem ir (hi lo c rest q:Int)(k:Nat):∀p∈Qu c rest q k,ClV (Qt hi lo) p.2.2:=by
 intro p hp β β' h
 simp only[Qu,JZ,IN,or_false]at hp
 rcases hp with rfl|rfl|rfl|rfl|rfl
 ·rfl
 ·simp[V.g,Cv.g,h 100 (by simp[Qt,Mem.get])]
 ·rfl
 ·rfl
 ·rfl
theorem NS (z:Int)(h0:0<=z)(h1:z<18446744073709551616):bits .and .u64 z 1=z%2:=by go_bits2
theorem W6 (hi lo W:Int)(j:Nat)(hj:j<64)(hW:hi*18446744073709551616+lo=W):W/2^j=2*(W/2^(j+1))+lo/2^j%2:=by
 have h1:W/2^(j+1)=W/2^j/2:=by
  rw[Int.pow_succ,Int.ediv_ediv,if_neg (by have:(0:Int)<2^j:=Int.pow_pos yg;omega)];omega
 have h2:(18446744073709551616:Int)=2*2^(63-j)*2^j:=by
  rw[HD,<-Int.pow_add,show 63-j+j=63 by omega];rfl
 have hp:(0:Int)<2^j:=Int.pow_pos yg
 have h3:W/2^j=hi*(2*2^(63-j))+lo/2^j:=by
  rw[<-hW,h2,<-HD,Int.add_comm,Int.add_mul_ediv_right _ _ zA];omega
 have h4:W/2^j%2=lo/2^j%2:=by
  rw[h3,show hi*(2*2^(63-j))=2*(hi*2^(63-j)) by grind];omega
 rw[h1];omega
theorem Zx (hi lo c:Int)(h:c<=hi):CallOk Hf 295 [.agg [.v (.int .u64 hi),.v (.int .u64 lo)],U c] [] (.tup [Wu 0,Wu 0,.c (.v (.bool false))]) []:=by
 refine kO 100 func295 Xb ntmps295 (by simp[ClV,V.g,Cv.g]) fun C hR=>?_
 have e:decide (c<=hi)=true:=by simpa using h
 refine vv ?_
 simp only[e]
 exact RetQ.pure hR rfl ⟨rfl,rfl,rfl,trivial⟩ rfl (fun _ _ _=>rfl)
theorem W5 (hi lo c:Int)(h0:0<=hi)(hc:hi<c)(hc2:c<18446744073709551616)(hl0:0<=lo)(hl:lo<18446744073709551616):
  CallOk Hf 295 [.agg [.v (.int .u64 hi),.v (.int .u64 lo)],U c] [] (.tup [Wu ((hi*18446744073709551616+lo)/c),Wu ((hi*18446744073709551616+lo)%c),.c (.v (.bool true))]) []:=by
 refine kO 100 func295 Xb ntmps295 (by simp[ClV,V.g,Cv.g]) fun C hR=>?_
 have e:decide (c<=hi)=false:=by simp;omega
 refine vv ?_
 simp only[e]
 generalize hW:hi*18446744073709551616+lo=W at hR
 have r64:W/2^64%c=hi:=by
  rw[show W/2^64=hi by omega];exact Int.emod_eq_of_lt h0 hc
 have q64:W/2^64/c=0:=by
  rw[show W/2^64=hi by omega];exact Int.ediv_eq_zero_of_lt h0 hc
 refine Sm.loop (α:={k:Nat//k<=64}) (fun k=>Qu c (W/2^k.val%c) (W/2^k.val/c) k.val) (fun _=>Qt hi lo) (fun k=>k.val) ⟨64,yg⟩ ?_ ?_
 ·simp only[r64,q64]
  exact Wkn.mk ⟨rfl,rfl,rfl,rfl,rfl,trivial⟩ (Sub.cons rfl (Sub.nil _)) (ClM.v rfl) (ir _ _ _ _ _ _) (fun n l h=>by have:=hR.1 n l h;cases this)
 rintro⟨k,hk⟩ J hb
 simp only at hb⊢
 refine zB 102 ?_
 simp only[Qu,Qt]
 refine vv ?_
 have ha0:=HA (W/2^k) (show c≠0 by omega)
 have ha1:=Ij (W/2^k) (show 0<c by omega)
 have ha2:=IP (W/2^k) c
 cases k with
 |zero=>
  have dk:decide (0<=((0:Nat):Int)-1)=false:=yg
  simp only[dk]
  exact RetQ.pure hR rfl ⟨rfl,rfl,rfl,trivial⟩ zc (fun _ _ _=>rfl)
 |succ j=>
  have dk:decide (0<=(j:Int))=true:=zc
  have hj:(((j+1:Nat):Int)-1)=j:=zA
  have wj:(IntKind.u64.wrap (j:Int)).toNat=j:=by rw[tL zA zA];omega
  have mj:min j 64=j:=zA
  have hbit:=W6 hi lo W j zA hW
  have s63:∀z:Int,z.fdiv (2^min 63 64)=z/9223372036854775808:=fun z=>I3 z yg
  have hp:(0:Int)<2^j:=Int.pow_pos yg
  have sj:lo.fdiv (2^j)=lo/2^j:=I3 lo zA
  have lj0:0<=lo/2^j:=HB hl0 zA
  have lj1:lo/2^j<=lo:=Int.ediv_le_self _ hl0
  have l1:(2:Int)^min 1 64=2:=rfl
  have aj:=NS (lo/2^j) lj0 zA
  have wi:IntKind.i64.wrap ((j:Int)-1)=(j:Int)-1:=ya zA zA
  have hWc:W<c*18446744073709551616:=zA
  have hB0:0<=W/2^j:=HB zA zA
  have hBW:W/2^j<=W:=Int.ediv_le_self _ zA
  have hq1:W/2^j/c<18446744073709551616:=Int.ediv_lt_of_lt_mul zA (by rw[IZ];omega)
  have hk0:0<=W/2^(j+1)/c:=HB zA zA
  have hB:W/2^j=c*(2*(W/2^(j+1)/c))+(2*(W/2^(j+1)%c)+lo/2^j%2):=by
   rw[hbit]
   have:c*(2*(W/2^(j+1)/c))=2*(c*(W/2^(j+1)/c)):=by grind
   omega
  have hrem:=IP (W/2^j) c
  simp only[hj,dk,wj,mj,s63,sj,l1,aj,wi]
  generalize W/2^(j+1)%c=ρ at*
  generalize W/2^(j+1)/c=κ at*
  generalize hbb:lo/2^j%2=b at*
  have hb01:0<=b/\b<=1:=zA
  have hcond:(bif ρ/9223372036854775808==1 then true else decide (c<=IntKind.u64.wrap (IntKind.u64.wrap (ρ*2)+b)))=decide (c<=2*ρ+b):=by
   by_cases hr:ρ<9223372036854775808
   ·have e1:(ρ/9223372036854775808==1)=false:=by simp;omega
    rw[e1,show IntKind.u64.wrap (ρ*2)=ρ*2 from tL zA zA,tL zA zA,IZ];rfl
   ·have e1:(ρ/9223372036854775808==1)=true:=by simp;omega
    rw[e1]
    have:decide (c<=2*ρ+b)=true:=by simp;omega
    rw[this];rfl
  simp only[hcond]
  by_cases hcc:c<=2*ρ+b
  ·have dc:decide (c<=2*ρ+b)=true:=by simpa using hcc
   have eq:W/2^j/c=2*κ+1:=wW zA (by rw[HO];omega) (by rw[HO];omega)
   have er:W/2^j%c=2*ρ+b-c:=by rw[eq,HO]at hrem;omega
   have v1:IntKind.u64.wrap (IntKind.u64.wrap (IntKind.u64.wrap (ρ*2)+b)-c)=W/2^j%c:=by
    rw[er,IntKind.wrap_u64,IntKind.wrap_u64,IntKind.wrap_u64];omega
   have v2:IntKind.u64.wrap (IntKind.u64.wrap (κ*2)+1)=W/2^j/c:=by
    rw[eq,IntKind.wrap_u64,IntKind.wrap_u64];omega
   simp only[dc,v1,v2]
   exact hb _ _ ⟨⟨j,zA⟩,zc,Wkn.mk ⟨rfl,rfl,rfl,rfl,rfl,trivial⟩ (Sub.cons rfl (Sub.nil _)) (ClM.v rfl) (ir _ _ _ _ _ _) (fun n l h=>by have:=hR.1 n l h;cases this)⟩
  ·have dc:decide (c<=2*ρ+b)=false:=by simpa using hcc
   have eq:W/2^j/c=2*κ:=wW zA zA zA
   have er:W/2^j%c=2*ρ+b:=by rw[eq]at hrem;omega
   have v1:IntKind.u64.wrap (IntKind.u64.wrap (ρ*2)+b)=W/2^j%c:=by
    rw[er,IntKind.wrap_u64,IntKind.wrap_u64];omega
   have v2:IntKind.u64.wrap (κ*2)=W/2^j/c:=by
    rw[eq,IntKind.wrap_u64];omega
   simp only[dc,v1,v2]
   exact hb _ _ ⟨⟨j,zA⟩,zc,Wkn.mk ⟨rfl,rfl,rfl,rfl,rfl,trivial⟩ (Sub.cons rfl (Sub.nil _)) (ClM.v rfl) (ir _ _ _ _ _ _) (fun n l h=>by have:=hR.1 n l h;cases this)⟩
theorem cV (x:Int)(h1: -9223372036854775808<=x)(h2:x<=9223372036854775807):CallOk Hf 294 [I x] [] (U x.natAbs) []:=by
 refine kO 100 func294 TK ntmps294 (by simp[ClV,V.g,Cv.g]) fun C hR=>?_
 refine vv ?_
 split
 ·rename_i h
  refine uT hR ?_
  simp at h
  rw[IntKind.wrap_u64,IntKind.wrap_u64]
  omega
 ·rename_i h
  refine uT hR ?_
  simp at h
  rw[IntKind.wrap_u64]
  omega
def qG (r:Int):Bool:=decide (-9223372036854775808<=r)&&decide (r<=9223372036854775807)
set_option maxHeartbeats 4000000 in
theorem Z8 (a b c m:Int)(ha1: -9223372036854775808<=a)(ha2:a<=9223372036854775807)(hb1: -9223372036854775808<=b)(hb2:b<=9223372036854775807)(hc:0<c)(hc2:c<=9223372036854775807)(hm:1<=m)(hm3:m<=3):
  CallOk Hf 286 [I a,I b,I c,I m] [] (.tup [Wi (bif qG (rnd m (a*b) c)then rnd m (a*b) c else 0),Wi (bif qG (rnd m (a*b) c)then 0 else 9)]) []:=by
 refine kO 100 func286 TR ntmps286 (by simp[ClV,V.g,Cv.g]) fun C hR=>?_
 have e3:(c==0)=false:=by simp;omega
 have e4:decide (c<0)=false:=by simp;omega
 have em:(bif bif m !=1 then m !=2 else false then m !=3 else false)=false:=by
  rcases(show m=1\/m=2\/m=3 by omega)with rfl|rfl|rfl<;>rfl
 refine vv ?_
 simp only[em,e3,e4]
 refine CallQ.pure 100 (cV c zA zA) rfl (vv ?_)
 have hab:(a.natAbs:Int)*b.natAbs=(a*b).natAbs:=by rw[Int.natAbs_mul];simp
 have hcc:(c.natAbs:Int)=c:=zA
 generalize hneg:(bif bif a !=0 then b !=0 else false then(decide (a<0)!=decide (b<0))!=false else false)=neg
 have hsg:(a*b=if neg=true then-((a*b).natAbs:Int)else((a*b).natAbs:Int))/\(neg=true->0<(a*b).natAbs):=by
  by_cases ha:a=0
  ·subst ha;rw[<-hneg];simp
  by_cases hb:b=0
  ·subst hb;rw[<-hneg];simp
  have hz:a*b≠0:=Int.mul_ne_zero ha hb
  have ea:(a !=0)=true:=by simpa using ha
  have eb:(b !=0)=true:=by simpa using hb
  rw[<-hneg,ea,eb]
  rcases HJ a 0 with h|h<;>rcases HJ b 0 with h'|h'
  ·have:0<a*b:=Int.mul_pos_of_neg_of_neg h h'
   simp[h,h'];omega
  ·have:a*b<=0:=Int.mul_nonpos_of_nonpos_of_nonneg zA h'
   simp[h,HM.2 h'];omega
  ·have:a*b<=0:=Int.mul_nonpos_of_nonneg_of_nonpos h zA
   simp[HM.2 h,h'];omega
  ·have:0<=a*b:=Ih h h'
   simp[HM.2 h,HM.2 h'];omega
 refine CallQ.pure 100 (cV a ha1 ha2) rfl (vv ?_)
 refine CallQ.pure 100 (cV b hb1 hb2) rfl (vv ?_)
 refine CallQ.pure 100 (W4 _ _ zA zA zA zA) rfl (vv ?_)
 simp only[hab,hcc]
 have hrp:=f8 m ((a*b).natAbs:Int) c hc
 have hrn:=f9 m ((a*b).natAbs:Int) c hc
 generalize a*b=ab at*
 generalize hpp:(ab.natAbs:Int)=p at*
 have hp0:0<=p:=zA
 have hfit:∀s:Int,qG s=decide (-9223372036854775808<=s/\s<=9223372036854775807):=fun s=>by
  unfold qG;rw[JQ];simp
 have hrab:rnd m ab c=if neg=true then rnd m (-p) c else rnd m p c:=by
  rw[hsg.1];cases neg<;>rfl
 rw[hrp,hrn]at hrab
 by_cases hov:c<=p/18446744073709551616
 ·have hbig:18446744073709551616<=p/c:=Int.le_ediv_of_mul_le hc zA
  have hf:qG (rnd m ab c)=false:=by
   rw[hfit,hrab]
   simp only[decide_eq_false_iff_not]
   split<;>split<;>omega
  rw[hf]at hR
  refine CallQ.pure 100 (Zx _ _ c hov) rfl (vv ?_)
  exact yJ hR rfl ⟨rfl,rfl,trivial⟩ rfl rfl
 ·have hov':=W5 (p/18446744073709551616) (p%18446744073709551616) c zA zA zA zA zA
  rw[show p/18446744073709551616*18446744073709551616+p%18446744073709551616=p by omega]at hov'
  have hq0:0<=p/c:=HB hp0 zA
  have hq1:p/c<18446744073709551616:=Int.ediv_lt_of_lt_mul hc zA
  have hr0:=HA p (show c≠0 by omega)
  have hr1:=Ij p hc
  refine CallQ.pure 100 hov' rfl ?_
  generalize p/c=q at*
  generalize p%c=r at*
  generalize rnd m ab c=R at*
  have hfR:(bif qG R then R else 0)=(if-9223372036854775808<=R/\R<=9223372036854775807 then R else 0)/\(bif qG R then(0:Int)else 9)=(if-9223372036854775808<=R/\R<=9223372036854775807 then 0 else 9):=by
   rw[hfit];constructor<;>(rw[Bool.cond_decide])
  rw[hfR.1,hfR.2]at hR
  clear hfR hfit hrp hrn hov' hov hsg hneg
  have hcr:IntKind.u64.wrap (c-r)=c-r:=tL zA zA
  have hb1:(bif decide (c-r<r)then true else bif r==c-r then true else false)=decide (c<=2*r):=by
   rw[JQ];simp[Bool.cond_eq_true_distrib];omega
  have hb2:(bif decide (c-r<r)then true else bif r==c-r then false else false)=decide (c<2*r):=by
   rw[JQ];simp[Bool.cond_eq_true_distrib];omega
  rcases(show m=1\/m=2\/m=3 by omega)with rfl|rfl|rfl<;>cases neg<;>simp only[JU,if_true,if_false,Int.reduceBEq,cond_true,cond_false]at hrab<;>simp only[go_sem]<;>(try simp only[hcr,hb1,hb2])<;>(repeat' split)
  all_goals try refine⟨fun h=>⟨h,fun h2=>by rw[h,h2];rfl⟩,?_⟩
  all_goals clear hcr hb1 hb2 e3 e4 em hab hpp
  all_goals
   (refine yJ hR rfl ⟨rfl,rfl,trivial⟩ ?_ ?_<;>
     simp only[IntKind.wrap_u64,IntKind.wrap_i64,beq_iff_eq,decide_eq_true_eq,decide_eq_false_iff_not,beq_eq_false_iff_ne,ne_eq,Bool.cond_eq_true_distrib,Bool.cond_eq_false_distrib]at* <;>(repeat' split at*)<;>omega)
end Go.Proofs.YtkciabfilokfiaaGreat.Fx
