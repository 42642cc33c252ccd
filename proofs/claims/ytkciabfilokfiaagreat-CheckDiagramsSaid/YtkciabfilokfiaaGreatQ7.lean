/-  -/
import Derived.Test.YtkciabfilokfiaaGreatQ4
open Go.Proofs.Tryz
open Go.Proofs.Tryz renaming prog→Hf
set_option linter.unusedSimpArgs false
set_option linter.unusedVariables false
set_option maxRecDepth 100000
set_option maxHeartbeats 4000000
namespace Go.Proofs.YtkciabfilokfiaaGreat.Fx
open Vg Tf
theorem Up (n:Int):CallOk Hf 150 [I n] [] (Bo (!yP n)) []:=by
 refine kN 100 func150 R3 ntmps150 fun C hR hP=>?_
 refine vv ?_
 refine yL hR ?_
 unfold yP
 rw[qJ,<-Bool.not_inj_iff,IL,Bool.not_or,<-decide_not,<-decide_not,JQ]
 simp only[JG,decide_eq_true_eq];omega
theorem jn (n:Int):CallOk Hf 154 [I n] [] (Bo (yP n)) []:=by
 refine kN 100 func154 RZ ntmps154 fun C hR hP=>?_
 refine vv ?_
 refine yL hR ?_
 unfold yP
 rw[xu,JQ]
 simp only[JG,decide_eq_true_eq]
theorem aT (n:Int):CallOk Hf 157 [I n] [] (Bo (tp n)) []:=by
 refine kN 100 func157 RX ntmps157 fun C hR hP=>?_
 refine vv ?_
 refine yL hR ?_
 unfold tp
 rw[xu,JQ]
 simp only[JG,decide_eq_true_eq]
theorem P3 (n:Int):CallOk Hf 153 [I n] [] (Bo (!yP n)) []:=by
 refine kN 100 func153 R0 ntmps153 fun C hR hP=>?_
 refine vv ?_
 refine CallQ.pure 110 (jn n) rfl (vv ?_)
 exact yL hR rfl
theorem kL (l:List Int):l.any (fun n=> !yP n)= !(l.all yP):=by
 rw[JX,IL]
theorem Q7 {H:Hp}(s:Sv)(l:List Int)(hs:SlH H (vsl s l.length) 1 (zZ l))(hl:l.length<=1000000000000000):CallH H Hf 149 [.c (.v (vsl s l.length))] (Bo (wK l)):=by
 have hcon:=Ye (H:=H) s l hs hl 150 #[] (fun n=> !yP n) (fun x _=>(Up x).toH)
 rw[kL]at hcon
 have e1:decide ((l.length:Int)<2)= !decide (2<=l.length):=by rw[<-decide_not,decide_eq_decide];omega
 have e2:decide ((32:Int)<(l.length:Int))= !decide (l.length<=32):=by rw[<-decide_not,decide_eq_decide];omega
 refine kH func149 R6 ntmps149 fun C hR hP hH hL=>?_
 refine zB 100 ?_
 simp only[go_sem,e1,e2]
 refine zt 110 (fun _=>hcon) hH (fun h=>by rw[h];rfl) (vv ?_)
 have hax:wK l=((decide (2<=l.length)&&decide (l.length<=32))&&(l.all yP&&vZ l)):=by unfold wK;rw[HL]
 rw[hax]at hR
 cases h1:decide (2<=l.length)with
 |false=>
  rw[h1]at hR
  refine vv ?_
  exact yL (hR C hL) rfl
 |true=>
 cases h2:decide (l.length<=32)with
 |false=>
  rw[h1,h2]at hR
  refine vv ?_
  exact yL (hR C hL) rfl
 |true=>
 cases h3:l.all yP with
 |false=>
  rw[h1,h2,h3]at hR
  refine vv ?_
  exact yL (hR C hL) rfl
 |true=>
 rw[h1,h2,h3]at hR
 simp only[decide_eq_true_eq]at h1 h2
 have w1:IntKind.i64.wrap ((l.length:Int)-1)=((l.length-1:Nat):Int):=by rw[ya zA zA];omega
 simp only[go_sem,w1]
 refine Sm.bringI 1 3 0 (hs.mono hH) rfl rfl ?_
 refine zG (M0:=[]) (α:={i:Nat//i<=l.length-1/\vZ l=vZ (l.drop i)}) hP (fun i=>[(0,true,.c (.sl 1 0 l.length 1)),(18,true,I ((l.length-1:Nat):Int)),(19,true,I i.val)]) (fun _=>[(1,⟨true,l.map iC,3⟩)]) (fun i=>l.length-i.val) ⟨0,zA,rfl⟩ (fun _=>ClM.v (by simp only[Ky,yX];rfl)) (fun _=>zO rfl) [(1,1)] ?_ ?_
 ·exact z9
 ·rintro⟨i,hi,hx⟩ J hb
  simp only at hb hi hx⊢
  refine zB 120 (vv ?_)
  refine zU (fun hc=>?_) (fun hc=>?_)
  ·have hc:=zH hc
   have hi1:i+1<l.length:=zA
   have hd:l.drop i=l[i]::l[i+1]::l.drop (i+2):=by
    rw[JA zA,JA hi1]
   have hd1:l.drop (i+1)=l[i+1]::l.drop (i+2):=JA hi1
   rw[hd,vZ,<-hd1]at hx
   have w2:=yT (i:=i)
   have e3:(l.map iC)[i]?=some (iC l[i]):=xt zA
   have e4:(l.map iC)[i+1]?=some (iC l[i+1]):=xt hi1
   refine Sm.dg 130 9 ze ?_
   simp only[go_sem,w2,e3,e4]
   refine⟨⟨zA,zA⟩,⟨zA,zA⟩,?_⟩
   refine zU (fun hd=>?_) (fun hd=>?_)
   ·have hq:decide (l[i]<l[i+1])=false:=yd (by have:=of_decide_eq_true hd;omega)
    rw[hq]at hx
    exact RetQ.bool (hR C hL) rfl ⟨rfl,trivial⟩ (by rw[hx];rfl)
   ·have hq:decide (l[i]<l[i+1])=true:=yV (by have:=of_decide_eq_false hd;omega)
    rw[hq,Je]at hx
    refine zB 130 ?_
    simp only[go_sem,w2]
    exact hb _ _ ⟨i+1,zA,hx⟩ [(1,1)] yF z9
  ·have hc:=zL hi hc
   have hd:l.drop i=[l[i]]:=by
    rw[JA zA,Jl zA]
   rw[hd]at hx
   exact RetQ.bool (hR C hL) rfl ⟨rfl,trivial⟩ (by rw[hx];rfl)
theorem ae {H:Hp}(x y:Sv)(xs ys:List Int)(hx:SlH H (vsl x xs.length) 1 (zZ xs))(hy:SlH H (vsl y ys.length) 1 (zZ ys))(hlx:xs.length<=1000000000000000)(hly:ys.length<=1000000000000000):
  CallH H Hf 86 [.agg [.v (vsl x xs.length),.v (vsl y ys.length)]] (Bo (vq xs ys)):=by
 have hcon:=Ye (H:=H) y ys hy hly 150 #[] (fun n=> !yP n) (fun x _=>(Up x).toH)
 rw[kL]at hcon
 have e1:((xs.length:Int)==(ys.length:Int))=decide (xs.length=ys.length):=by rw[JQ,beq_iff_eq,decide_eq_true_eq];omega
 refine kH func86 ON ntmps86 fun C hR hP hH hL=>?_
 refine zB 100 ?_
 simp only[go_sem,e1]
 refine zt 110 (fun _=>Q7 x xs hx hlx) hH (fun h=>by rw[h];rfl) (vv ?_)
 refine zt 110 (fun _=>hcon) hH (fun h=>by rw[h];rfl) (vv ?_)
 refine yL (hR C hL) ?_
 unfold vq
 cases decide (xs.length=ys.length)<;>cases wK xs<;>cases ys.all yP<;>rfl
def Wo:Option Int->Int->Bool
 |none,_=>true
 |some q,x=>decide (q<x)
def qK:Option Int->List Int->Bool
 |_,[]=>true
 |p,x::r=>(yP x&&Wo p x)&&qK (some x) r
theorem iJ:∀(l:List Int) (q:Int),qK (some q) l=(l.all yP&&vZ (q::l))
 |[],q=>rfl
 |x::r,q=>by
  rw[qK,iJ r x,vZ,Ky]
  show(yP x&&decide (q<x)&&_)=_
  cases yP x<;>cases decide (q<x)<;>cases r.all yP<;>rfl
theorem nM (l:List Int):qK none l=(l.all yP&&vZ l):=by
 cases l with
 |nil=>rfl
 |cons x r=>
  rw[qK,iJ r x,Ky]
  cases yP x<;>cases r.all yP<;>rfl
def iq (l:List Int)(i:Nat):Option Int:=if i=0 then none else some (l.getD (i-1) 0)
theorem XR {H:Hp}(s:Sv)(l:List Int)(hs:SlH H (vsl s l.length) 1 (zZ l)):CallH H Hf 152 [.c (.v (vsl s l.length))] (Bo (wK l)):=by
 have e1:decide ((l.length:Int)<2)= !decide (2<=l.length):=by rw[<-decide_not,decide_eq_decide];omega
 have e2:decide ((32:Int)<(l.length:Int))= !decide (l.length<=32):=by rw[<-decide_not,decide_eq_decide];omega
 have hax:wK l=((decide (2<=l.length)&&decide (l.length<=32))&&qK none l):=by unfold wK;rw[nM,HL]
 rw[hax]
 refine kH func152 R1 ntmps152 fun C hR hP hH hL=>?_
 refine zB 100 ?_
 simp only[go_sem,e1,e2]
 cases h1:decide (2<=l.length)with
 |false=>
  rw[h1]at hR
  refine vv ?_
  exact yL (hR C hL) rfl
 |true=>
 cases h2:decide (l.length<=32)with
 |false=>
  rw[h1,h2]at hR
  refine vv ?_
  exact yL (hR C hL) rfl
 |true=>
 rw[h1,h2]at hR
 simp only[decide_eq_true_eq]at h1 h2
 refine vv ?_
 refine Sm.bringI 1 3 0 (hs.mono hH) rfl rfl ?_
 refine Sm.bringI 2 3 13 (hs.mono hH) rfl rfl ?_
 refine zG (M0:=[]) (α:={i:Nat//i<=l.length/\qK none l=qK (iq l i) (l.drop i)}) hP (fun i=>[(0,true,.c (.sl 1 0 l.length 1)),(13,true,.c (.sl 2 0 l.length 1)),(14,true,I l.length),(15,true,I i.val)]) (fun _=>[(1,⟨true,l.map iC,3⟩),(2,⟨true,l.map iC,3⟩)]) (fun i=>l.length-i.val) ⟨0,zA,rfl⟩ (fun _=>ClM.v (by simp only[Ky,yX];rfl)) (fun _=>zO rfl) [(1,1),(2,2)] ?_ ?_
 ·exact z9
 ·rintro⟨i,hi,hx⟩ J hb
  simp only at hb hi hx⊢
  refine zB 120 (vv ?_)
  refine zU (fun hc=>?_) (fun hc=>?_)
  ·have hc:=zH hc
   rw[JA hc,qK]at hx
   have e3:(l.map iC)[i]?=some (iC l[i]):=xt hc
   simp only[go_sem,e3]
   refine⟨⟨zA,zA⟩,?_⟩
   refine CallQ.pure 130 (jn l[i]) rfl ?_
   have w2:=yT (i:=i)
   have hnext:qK none l=qK (some l[i]) (l.drop (i+1))->qK none l=qK (iq l (i+1)) (l.drop (i+1)):=fun h=>by
    rw[h,iq,if_neg zA,Ig,Kw,Kz hc];rfl
   cases i with
   |zero=>
    cases h5:yP l[0]with
    |false=>
     rw[h5]at hx
     simp only[go_sem,e3]
     refine⟨fun h=>(by cases h),?_⟩
     exact RetQ.bool (hR C hL) rfl ⟨rfl,trivial⟩ (by rw[hx];rfl)
    |true=>
     rw[h5]at hx
     simp only[go_sem,e3,w2]
     exact hb _ _ ⟨1,zA,hnext (by rw[hx];rfl)⟩ [(1,1),(2,2)] yF z9
   |succ j=>
    have w3:IntKind.i64.wrap (((j+1:Nat):Int)-1)=(j:Int):=by rw[ya zA zA];omega
    have e4:(l.map iC)[j]?=some (iC l[j]):=xt zA
    have e6:decide ((0:Int)<((j+1:Nat):Int))=true:=yV zA
    have hp:iq l (j+1)=some l[j]:=by
     rw[iq,if_neg zA,Ig,Kw,Kz zA];rfl
    rw[hp]at hx
    cases h5:yP l[j+1]with
    |false=>
     rw[h5]at hx
     simp only[go_sem,w3,e4,e6]
     exact RetQ.bool (hR C hL) rfl ⟨rfl,trivial⟩ (by rw[hx];rfl)
    |true=>
     rw[h5]at hx
     simp only[go_sem,w3,e4,e6]
     refine⟨⟨zA,zA⟩,?_⟩
     refine zU (fun hd=>?_) (fun hd=>?_)
     ·have hq:Wo (some l[j]) l[j+1]=false:=yd (by have:=of_decide_eq_true hd;omega)
      rw[hq]at hx
      exact RetQ.bool (hR C hL) rfl ⟨rfl,trivial⟩ (by rw[hx];rfl)
     ·have hq:Wo (some l[j]) l[j+1]=true:=yV (by have:=of_decide_eq_false hd;omega)
      rw[hq]at hx
      refine zB 130 ?_
      simp only[go_sem,w2]
      exact hb _ _ ⟨j+1+1,zA,hnext (by rw[hx];rfl)⟩ [(1,1),(2,2)] yF z9
  ·have hc:=zL hi hc
   rw[hc,JL]at hx
   exact RetQ.bool (hR C hL) rfl ⟨rfl,trivial⟩ (by rw[hx];rfl)
def ke (m:MpL):List (List Value):=m.zs.map fun v=>[vsl v.1 v.2.length]
theorem qR {m:MpL}{i:Nat}(h:i<m.zs.length):(zD (ke m))[i]?=some (.v (.slice m.zs[i].1.o m.zs[i].2.length m.zs[i].1.c)):=by
 have:=yy (k:=1) (ke m) (fun r hr=>by obtain⟨x,_,rfl⟩:=JO.1 hr;rfl) i 0 (by simpa[ke]using h) zA
 rw[Jd,JV]at this
 rw[this]
 simp[ke]
theorem fQ {H:Hp}(m:MpL)(hm:m.ok H)(hl:∀v∈m.zs,v.2.length<=1000000000000000):
  CallH H Hf 89 [.agg [.v (vsl m.x m.xs.length),.v (vsl m.y m.ys.length),.v (vsl m.z m.zs.length)]] (Bo (wD m.xs m.ys (m.zs.map (·.2)))):=by
 have hmo:wD m.xs m.ys (m.zs.map (·.2))=(wK m.xs&&(wK m.ys&&(decide (m.zs.length=m.xs.length)&&m.zs.all (fun z=>decide (z.2.length=m.ys.length)&&z.2.all yP)))):=by
  unfold wD;rw[Ku,List.all_map];rfl
 rw[hmo]
 have e1:((m.zs.length:Int)!=(m.xs.length:Int))= !decide (m.zs.length=m.xs.length):=by rw[JQ,bne_iff_ne,Jr,decide_eq_false_iff_not];omega
 refine kH func89 OK ntmps89 fun C hR hP hH hL=>?_
 refine zB 100 (vv ?_)
 refine z8 110 (XR m.x m.xs hm.x) hH rfl (vv ?_)
 refine zt 110 (fun _=>XR m.y m.ys hm.y) hH (fun h=>by rw[h];rfl) ?_
 simp only[go_sem,e1]
 cases h1:wK m.xs with
 |false=>
  rw[h1]at hR
  refine vv ?_
  exact yL (hR C hL) rfl
 |true=>
 cases h2:wK m.ys with
 |false=>
  rw[h1,h2]at hR
  refine vv ?_
  exact yL (hR C hL) rfl
 |true=>
 cases h3:decide (m.zs.length=m.xs.length)with
 |false=>
  rw[h1,h2,h3]at hR
  refine vv ?_
  exact yL (hR C hL) rfl
 |true=>
 rw[h1,h2,h3]at hR
 have h3:m.zs.length=m.xs.length:=of_decide_eq_true h3
 have hx32:m.xs.length<=32:=by
  have h1':=h1
  unfold wK at h1'
  rw[JG,decide_eq_true_eq]at h1';exact h1'.1.2
 refine vv ?_
 refine Sm.bringR 1 33 25 (rows:=ke m) (by have:=hm.z.mono hH;exact this) rfl rfl ?_
 have hzl:(ke m).length=m.zs.length:=Ku _
 rw[hzl]
 refine zG (M0:=[]) (α:={i:Nat//i<=m.zs.length/\m.zs.all (fun z=>decide (z.2.length=m.ys.length)&&z.2.all yP)=(m.zs.drop i).all (fun z=>decide (z.2.length=m.ys.length)&&z.2.all yP)}) hP (fun i=>[(1,true,.c (.p 5 0)),(25,true,.c (.sl 1 0 m.zs.length 1)),(26,true,I m.zs.length),(27,true,I i.val)])
  (fun _=>[(1,⟨true,zD (ke m),33⟩),(5,⟨false,[.v (vsl m.x m.xs.length),.v (vsl m.y m.ys.length),.v (vsl m.z m.zs.length)],89⟩)]) (fun i=>m.zs.length-i.val) ⟨0,zA,rfl⟩ (fun _=>cM) (fun _=>zO rfl) [(1,1),(5,100)] ?_ ?_
 ·exact z9
 ·rintro⟨i,hi,hx⟩ J hb
  simp only at hb hi hx⊢
  refine zB 120 (vv ?_)
  refine zU (fun hc=>?_) (fun hc=>?_)
  ·have hc:=zH hc
   rw[JA hc,Ky]at hx
   have e3:=qR hc
   have hmem:m.zs[i]∈m.zs:=JE hc
   have e4:((m.zs[i].2.length:Int)!=(m.ys.length:Int))= !decide (m.zs[i].2.length=m.ys.length):=by rw[JQ,bne_iff_ne,Jr,decide_eq_false_iff_not];omega
   have hcon:=Ye (H:=H) m.zs[i].1 m.zs[i].2 (hm.e _ hmem) (hl _ hmem) 153 #[] (fun n=> !yP n) (fun x _=>(P3 x).toH)
   rw[kL]at hcon
   simp only[go_sem,e3,e4]
   refine⟨⟨zA,zA⟩,?_⟩
   refine zt 130 (fun _=>hcon) hH (fun h=>by rw[h];rfl) (vv ?_)
   refine zU (fun hd=>?_) (fun hd=>?_)
   ·refine yL (hR C hL) ?_
    rw[hx]
    generalize decide (m.zs[i].2.length=m.ys.length)=a at*
    generalize m.zs[i].2.all yP=b at*
    cases a<;>cases b<;>simp_all
   ·simp only[yT (i:=i)]
    refine hb _ _ ⟨i+1,hc,?_⟩ [(1,1),(5,5)] yF z9
    rw[hx]
    generalize decide (m.zs[i].2.length=m.ys.length)=a at*
    generalize m.zs[i].2.all yP=b at*
    cases a<;>cases b<;>simp_all
  ·have hc:=zL hi hc
   rw[hc,JL]at hx
   exact RetQ.bool (hR C hL) rfl ⟨rfl,trivial⟩ (by rw[hx];rfl)
structure DgL.sm (d:DgL):Prop where
 nm:d.nm.length<=1000000000000000
 tys:d.tys.length<=1000000000000000/\∀t∈d.tys,t.nm.length<=1000000000000000
 cus:d.cus.length<=1000000000000000/\∀c∈d.cus,c.c.nm.length<=1000000000000000/\c.c.xs.length<=1000000000000000/\c.c.ys.length<=1000000000000000
 mas:d.mas.length<=1000000000000000/\∀m∈d.mas,m.nm.length<=1000000000000000/\∀v∈m.zs,v.2.length<=1000000000000000
 ins:d.ins.length<=1000000000000000/\∀p∈d.ins,p.nm.length<=1000000000000000/\p.ty.length<=1000000000000000
 bls:d.bls.length<=1000000000000000/\∀b∈d.bls,b.c.nm.length<=1000000000000000/\b.c.ty.length<=1000000000000000/\b.c.tb.length<=1000000000000000/\b.c.ins.length<=1000000000000000/\b.c.ks.length<=1000000000000000/\∀s∈b.c.ins,s.length<=1000000000000000
 ous:d.ous.length<=1000000000000000/\∀s∈d.ous,s.length<=1000000000000000
theorem KJ (t:Td)(h:t.nm.length<=1000000000000000):CallOk Hf 83 [yD (Td.r t)] [] (Bo (yZ t.nm&&yE t.ty)) []:=by
 refine kN 100 func83 OQ ntmps83 fun C hR hP=>?_
 refine vv ?_
 refine CallQ.pure 110 (wu t.nm h) rfl (vv ?_)
 refine CallQ.guard 110 (fun _=>og t.ty) (fun h=>by rw[h];rfl) (vv ?_)
 refine yL hR ?_
 rw[xu]
theorem KI {H:Hp}(c:CuL)(hc:c.ok H)(h:c.c.nm.length<=1000000000000000)(hx:c.c.xs.length<=1000000000000000)(hy:c.c.ys.length<=1000000000000000):CallH H Hf 85 [yD (CuL.r c)] (Bo (yZ c.c.nm&&vq c.c.xs c.c.ys)):=by
 refine kH func85 OO ntmps85 fun C hR hP hH hL=>?_
 refine zB 100 (vv ?_)
 refine CallQ.pure 110 (wu c.c.nm h) rfl (vv ?_)
 refine zt 110 (fun _=>ae c.x c.y c.c.xs c.c.ys hc.x hc.y hx hy) hH (fun h=>by rw[h];rfl) (vv ?_)
 refine yL (hR C hL) ?_
 rw[xu]
theorem KH {H:Hp}(m:MpL)(hm:m.ok H)(h:m.nm.length<=1000000000000000)(hz:∀v∈m.zs,v.2.length<=1000000000000000):CallH H Hf 88 [yD (MpL.r m)] (Bo (yZ m.nm&&wD m.xs m.ys (m.zs.map (·.2)))):=by
 refine kH func88 OL ntmps88 fun C hR hP hH hL=>?_
 refine zB 100 (vv ?_)
 refine CallQ.pure 110 (wu m.nm h) rfl (vv ?_)
 refine zt 110 (fun _=>fQ m hm hz) hH (fun h=>by rw[h];rfl) (vv ?_)
 refine yL (hR C hL) ?_
 rw[xu]
theorem Vp (p:Po)(h:p.nm.length<=1000000000000000)(h2:p.ty.length<=1000000000000000):CallOk Hf 91 [yD (Po.r p)] [] (Bo (nj p)) []:=by
 refine kN 100 func91 OI ntmps91 fun C hR hP=>?_
 refine vv ?_
 refine CallQ.pure 110 (wu p.nm h) rfl (vv ?_)
 refine CallQ.guard 110 (fun _=>wu p.ty h2) (fun h=>by rw[h];rfl) (vv ?_)
 refine CallQ.guard 110 (fun _=>aT p.lo) (fun h=>by rw[h];rfl) (vv ?_)
 refine CallQ.guard 110 (fun _=>aT p.hi) (fun h=>by rw[h];rfl) (vv ?_)
 refine yL hR ?_
 unfold nj
 cases yZ p.nm<;>cases yZ p.ty<;>cases tp p.lo<;>cases tp p.hi<;>rfl
theorem Xu {H:Hp}(b:BlL)(hb:b.ok H)(h1:b.c.nm.length<=1000000000000000)(h2:b.c.ty.length<=1000000000000000)(h3:b.c.tb.length<=1000000000000000)(h4:b.c.ins.length<=1000000000000000)(h5:b.c.ks.length<=1000000000000000)(h6:∀s∈b.c.ins,s.length<=1000000000000000):
  CallH H Hf 93 [yD (BlL.r b)] (Bo (xI b.c)):=by
 have ha1:=Qb (H:=H) b.i b.c.ins hb.i h4 74 yZ (fun s hs=>(wu s (h6 s hs)).toH)
 have ha2:=NU (H:=H) b.k b.c.ks hb.k h5 157 tp (fun n _=>(aT n).toH)
 refine kH func93 OG ntmps93 fun C hR hP hH hL=>?_
 refine zB 100 (vv ?_)
 refine CallQ.pure 110 (Uc b.c.kd) rfl ?_
 unfold xI at hR
 cases hk:yY b.c.kd with
 |none=>
  rw[hk]at hR
  simp only[go_sem,Option.getD_none]
  refine CallQ.guard (xs:=[]) (v:=Bo true) 150 (fun h=>by cases h) (fun h=>by cases h) (vv ?_)
  refine CallQ.guard (xs:=[]) (v:=Bo true) 150 (fun h=>by cases h) (fun h=>by cases h) (vv ?_)
  exact yL (hR C hL) rfl
 |some q=>
 obtain⟨a,k,t⟩:=q
 rw[hk]at hR
 simp only at hR
 have e1:((b.c.ins.length:Int)!=(a:Int))= !decide (b.c.ins.length=a):=by rw[JQ,bne_iff_ne,Jr,decide_eq_false_iff_not];omega
 have e2:((b.c.ks.length:Int)!=(k:Int))= !decide (b.c.ks.length=k):=by rw[JQ,bne_iff_ne,Jr,decide_eq_false_iff_not];omega
 simp only[go_sem,Option.getD_some,e1,e2]
 refine CallQ.guard 120 (fun _=>wu b.c.nm h1) (fun h=>by rw[h];rfl) (vv ?_)
 refine CallQ.guard 120 (fun _=>wu b.c.ty h2) (fun h=>by rw[h];rfl) (vv ?_)
 generalize hA:decide (b.c.ins.length=a)=A at*
 generalize hB:decide (b.c.ks.length=k)=B at*
 generalize hN:yZ b.c.nm=Nn at*
 generalize hT:yZ b.c.ty=Tt at*
 refine zU (fun hd=>?_) (fun hd=>?_)
 ·refine yL (hR C hL) ?_
  cases A<;>cases B<;>cases Nn<;>cases Tt<;>simp_all
 ·have hall:A=true/\B=true/\Nn=true/\Tt=true:=by cases A<;>cases B<;>cases Nn<;>cases Tt<;>simp_all
  obtain⟨rfl,rfl,rfl,rfl⟩:=hall
  have e3:((t:Int)!=0)= !decide (t=0):=by rw[JQ,bne_iff_ne,Jr,decide_eq_false_iff_not];omega
  have e4:((t:Int)==0)=decide (t=0):=by rw[JQ,beq_iff_eq,decide_eq_true_eq];omega
  simp only[e3]
  refine CallQ.guard 130 (fun _=>wu b.c.tb h3) (fun h=>by rw[h];rfl) ?_
  simp only[go_sem,e3,e4]
  by_cases ht:t=0
  ·rw[if_pos ht]at hR
   simp only[go_sem,yV ht]
   generalize hE:(b.c.tb==[])=E at*
   refine zU (fun hd=>?_) (fun hd=>?_)
   ·refine yL (hR C hL) ?_
    cases E<;>simp_all
   ·refine z8 140 ha1 hH rfl (vv ?_)
    refine zt 140 (fun _=>ha2) hH (fun h=>by rw[h];rfl) (vv ?_)
    refine yL (hR C hL) ?_
    cases E<;>cases b.c.ins.all yZ<;>simp_all
  ·rw[if_neg ht]at hR
   simp only[go_sem,yd ht]
   generalize hE:yZ b.c.tb=E at*
   refine zU (fun hd=>?_) (fun hd=>?_)
   ·refine yL (hR C hL) ?_
    cases E<;>simp_all
   ·refine z8 140 ha1 hH rfl (vv ?_)
    refine zt 140 (fun _=>ha2) hH (fun h=>by rw[h];rfl) (vv ?_)
    refine yL (hR C hL) ?_
    cases E<;>cases b.c.ins.all yZ<;>simp_all
theorem L5 (a b c d e:Nat):decide ((30:Int)<max (max (max (max (a:Int) b) c) d) e)= !decide (a<=30/\b<=30/\c<=30/\d<=30/\e<=30):=by
 rw[<-decide_not,decide_eq_decide];omega
theorem VP {H:Hp}(d:DgL)(hd:d.ok H)(hs:d.sm):CallH H Hf 42 [yD d.r] (Bo (wV d.c)):=by
 have q1:=Qa (H:=H) d.ty d.tys hd.ty hs.tys.1 83 (fun t=>yZ t.nm&&yE t.ty) (fun t ht=>(KJ t (hs.tys.2 t ht)).toH)
 have q2:=Qe (H:=H) d.cu d.cus hd.cu hs.cus.1 85 (fun c=>yZ c.c.nm&&vq c.c.xs c.c.ys) (fun c hc=>KI c (hd.cus c hc) (hs.cus.2 c hc).1 (hs.cus.2 c hc).2.1 (hs.cus.2 c hc).2.2)
 have q3:=Qd (H:=H) d.ma d.mas hd.ma hs.mas.1 88 (fun m=>yZ m.nm&&wD m.xs m.ys (m.zs.map (·.2))) (fun m hm=>KH m (hd.mas m hm) (hs.mas.2 m hm).1 (hs.mas.2 m hm).2)
 have q4:=Qc (H:=H) d.i d.ins hd.i hs.ins.1 91 nj (fun p hp=>(Vp p (hs.ins.2 p hp).1 (hs.ins.2 p hp).2).toH)
 have q5:=Qf (H:=H) d.bl d.bls hd.bl hs.bls.1 93 (fun b=>xI b.c) (fun b hb=>by
  obtain⟨k1,k2,k3,k4,k5,k6⟩:=hs.bls.2 b hb
  exact Xu b (hd.bls b hb) k1 k2 k3 k4 k5 k6)
 have q6:=Qb (H:=H) d.ou d.ous hd.ou hs.ous.1 74 yZ (fun s hs'=>(wu s (hs.ous.2 s hs')).toH)
 have hdo:wV d.c=(yZ d.nm&&(decide (d.tys.length<=30/\d.cus.length<=30/\d.mas.length<=30/\d.ins.length<=30/\d.ous.length<=30)&&(decide (d.bls.length<=200)&&
  (d.tys.all (fun t=>yZ t.nm&&yE t.ty)&&(d.cus.all (fun c=>yZ c.c.nm&&vq c.c.xs c.c.ys)&&(d.mas.all (fun m=>yZ m.nm&&wD m.xs m.ys (m.zs.map (·.2)))&&(d.ins.all nj&&(d.bls.all (fun b=>xI b.c)&&d.ous.all yZ)))))))):=by
  unfold wV
  simp only[DgL.c,Ku,List.all_map]
  rfl
 rw[hdo]
 have e2:decide ((200:Int)<(d.bls.length:Int))= !decide (d.bls.length<=200):=by rw[<-decide_not,decide_eq_decide];omega
 refine kH func42 Ou ntmps42 fun C hR hP hH hL=>?_
 refine zB 100 (vv ?_)
 refine CallQ.pure 110 (wu d.nm hs.nm) rfl ?_
 simp only[go_sem,L5,e2]
 generalize yZ d.nm=A at*
 generalize decide (d.tys.length<=30/\d.cus.length<=30/\d.mas.length<=30/\d.ins.length<=30/\d.ous.length<=30)=B at*
 generalize decide (d.bls.length<=200)=D at*
 refine zU (fun hc=>?_) (fun hc=>?_)
 ·refine yL (hR C hL) ?_
  cases A<;>cases B<;>cases D<;>simp_all
 ·have hall:A=true/\B=true/\D=true:=by cases A<;>cases B<;>cases D<;>simp_all
  obtain⟨rfl,rfl,rfl⟩:=hall
  refine z8 140 q1 hH rfl (vv ?_)
  refine zt 140 (fun _=>q2) hH (fun h=>by rw[h];rfl) (vv ?_)
  refine zt 140 (fun _=>q3) hH (fun h=>by rw[h];rfl) (vv ?_)
  refine zt 140 (fun _=>q4) hH (fun h=>by rw[h];rfl) (vv ?_)
  refine zt 140 (fun _=>q5) hH (fun h=>by rw[h];rfl) (vv ?_)
  refine zt 140 (fun _=>q6) hH (fun h=>by rw[h];rfl) (vv ?_)
  refine yL (hR C hL) ?_
  simp only[xu,Je,Bool.and_assoc]
theorem _root_.Go.Proofs.YtkciabfilokfiaaGreat.Vg.RetQ.letgo {C Ck:Cx}{e:Env}{M M0:Mem}(L:List Nat)(hL:Lf C Ck)(hP:Pins C.S M0)(h0:M0.all (fun p=> !L.contains p.1)=true)(hok:y9 L e M=true)
  (h:∀β Cn,Lf C Cn->Ck.hp.le Cn.hp->(∀n b,L.contains n=true->M.get n=some b->b.ro=false->Known Cn.hp β n b)->RetQ Cn (e.conc L β) (M.conc L β)):RetQ Ck e M:=fun β a w h1 h2 h4=>by
 obtain⟨Cn,l1,l2,l3,l4,l5⟩:=qd L hL hP h0 hok h1 h2
 rw[hL.q,<-l1.q]
 exact h β Cn l1 l2 l3 β a w l4 l5 (h4.trans (hL.df.trans l1.df.symm))
def Ps:Obj->Prop
 | .cells _ _ _=>True
 | .map _ _=>True
 |_=>False
def _root_.Go.Proofs.YtkciabfilokfiaaGreat.Vg.Hp.cm (H:Hp):Hp:=fun b o=>H b o/\Ps o
theorem LcH.cm {H:Hp}{l:Vg.Loc}{cs:List Value}(k:LcH H l cs):LcH H.cm l cs:=⟨k.1,k.2.1,fun hn=>by obtain⟨c,el,mk,h1,h2⟩:=k.2.2 hn;exact⟨c,el,mk,⟨h1,trivial⟩,h2⟩⟩
theorem PtH.cm {H:Hp}{v:Value}{cs:List Value}(k:PtH H v cs):PtH H.cm v cs:=by obtain⟨l,h1,h2,h3⟩:=k;exact⟨l,h1,h2,LcH.cm h3⟩
theorem MpB.cm {H:Hp}{b:Nat}{l:Al}(k:MpB H b l):MpB H.cm b l:=by obtain⟨es,clk,h1,h2⟩:=k;exact⟨es,clk,⟨h1,trivial⟩,h2⟩
theorem rY {C:Cx}{b:Nat}{o o':Obj}(h:C.hp b o)(h':C.hp b o'):o=o':=by
 have h1:=h.2.2
 rw[h'.2.2]at h1
 exact(HC h1).symm
theorem nu (l:List Value):(l.map Cv.v).all Cv.isV=true:=by simp[Cv.isV]
def zQ (d:Dg):List Str:=d.ins.map (·.nm)++d.bls.map (·.nm)
@[reducible] def ZD (nm:Nat)(l:List Str):Nat×Bk:=(nm,⟨false,l.map sC,9⟩)
theorem wN {α:Type}(f:α->Str)(l:List α)(i:Nat)(h:i<l.length)(p:List Str):(p++(l.take i).map f).map sC++[sC (f l[i])]=(p++(l.take (i+1)).map f).map sC:=by
 rw[JS h]
 simp only[JT,Kv,Kx,I8]
theorem bc {H:Hp}(d:DgL)(hd:d.ok H)(cp:Value)(ms:List Value)(hcp:PtH H cp (d.r++ms))(h1:d.ins.length<=1000000)(h2:d.bls.length<=1000000):
  CallX H Hf 49 [.c (.v cp)] [] (fun _:Unit=> .c (.sl 1 0 (zQ d.c).length 1)) (fun _=>[ZD 1 (zQ d.c)]) (fun _ _=>True):=by
 refine kX func49 TA ntmps49 fun C hR hP hH hL=>?_
 have hR:=hR () C hL trivial
 refine zk 1 147 0 (hcp.mono hH) rfl rfl (zB 100 ?_)
 refine vv ?_
 refine yz 140 1 9 [3] [] rfl (vv ?_)
 refine Sm.bringR 2 51 12 (hd.i.mono hH) rfl rfl ?_
 have hl1:(d.ins.map Po.r).length=d.ins.length:=Ku _
 rw[hl1]
 have hz1:=zP (r:=Po.r) (k:=4) (fun _=>rfl) d.ins
 have hz2:=zP (r:=BlL.r) (k:=6) (fun _=>rfl) d.bls
 have hfull:(d.ins.take d.ins.length).map Po.nm=d.ins.map Po.nm:=by rw[Jh]
 have hsg:zQ d.c=d.ins.map Po.nm++d.bls.map (fun b=>b.c.nm):=by simp[zQ,DgL.c]
 refine zG (M0:=[]) (α:={i:Nat//i<=d.ins.length}) hP (fun i=>[(0,true,.c (.p 1 0)),(3,true,.c (.sl 6 0 i.val 1)),(12,true,.c (.sl 2 0 d.ins.length 4)),(13,true,I d.ins.length),(14,true,I i.val)])
  (fun i=>[(1,⟨true,(d.r++ms).map .v,147⟩),(2,⟨true,zD (d.ins.map Po.r),51⟩),ZD 6 ([]++(d.ins.take i.val).map Po.nm)]) (fun i=>d.ins.length-i.val) ⟨0,zA⟩ (fun _=>zC (by simp only[Ky,zh (nu _),iR,zh (y7 _)];rfl)) (fun _=>zO rfl) [(1,1),(2,2),(6,140)] ?_ ?_
 ·exact z9
 ·rintro⟨i,hi⟩ J hb
  simp only at hb hi⊢
  refine zB 150 (vv ?_)
  refine zU (fun hc=>?_) (fun hc=>?_)
  ·have hc:=zH hc
   have htk:=z6 (r:=Po.r) (k:=4) (fun _=>rfl) d.ins i hc
   simp only[htk,hz1]
   refine⟨⟨zA,zA⟩,zA,?_⟩
   refine vv ?_
   have hlen:(([]++(d.ins.take i).map Po.nm).map sC).length=i:=by simp;omega
   have hsn:List.take i (([]++(d.ins.take i).map Po.nm).map sC)++[sC d.ins[i].nm]=([]++(d.ins.take (i+1)).map Po.nm).map sC:=by
    rw[JH zA,wN Po.nm d.ins i hc]
   simp only[JD]at hlen hsn
   simp only[hlen,hsn,yT (i:=i)]
   refine⟨⟨zA,zA,zA⟩,?_⟩
   exact hb _ _ ⟨i+1,hc⟩ [(1,1),(2,2),(6,152)] yF z9
  ·have hc:=zL hi hc
   subst hc
   simp only[hfull]
   refine Sm.bringR 3 53 28 (hd.bl.mono hH) rfl rfl ?_
   have hl2:(d.bls.map BlL.r).length=d.bls.length:=Ku _
   rw[hl2]
   refine zG (M0:=[]) (α:={i:Nat//i<=d.bls.length}) hP (fun i=>[(3,true,.c (.sl 6 0 (d.ins.length+i.val) 1)),(28,true,.c (.sl 3 0 d.bls.length 6)),(29,true,I d.bls.length),(30,true,I i.val)])
    (fun i=>[(3,⟨true,zD (d.bls.map BlL.r),53⟩),ZD 6 (d.ins.map Po.nm++(d.bls.take i.val).map (fun b=>b.c.nm))]) (fun i=>d.bls.length-i.val) ⟨0,zA⟩ (fun _=>zC (by simp only[Ky,iR,zh (y7 _)];rfl)) (fun _=>zO rfl) [(3,3),(6,6)] ?_ ?_
   ·simp only[List.take_zero,Kx,JB,JV]
    exact z9
   ·rintro⟨i,hi⟩ J hb
    simp only at hb hi⊢
    refine zB 150 (vv ?_)
    refine zU (fun hc=>?_) (fun hc=>?_)
    ·have hc:=zH hc
     have htk:=z6 (r:=BlL.r) (k:=6) (fun _=>rfl) d.bls i hc
     simp only[htk,hz2]
     refine⟨⟨zA,zA⟩,zA,?_⟩
     refine vv ?_
     have hlen:((d.ins.map Po.nm++(d.bls.take i).map (fun b=>b.c.nm)).map sC).length=d.ins.length+i:=by simp;omega
     have hsn:List.take (d.ins.length+i) ((d.ins.map Po.nm++(d.bls.take i).map (fun b=>b.c.nm)).map sC)++[sC d.bls[i].c.nm]=(d.ins.map Po.nm++(d.bls.take (i+1)).map (fun b=>b.c.nm)).map sC:=by
      rw[JH zA,wN (fun b:BlL=>b.c.nm) d.bls i hc]
     simp only[hlen,hsn,yT (i:=i)]
     refine⟨⟨zA,zA,zA⟩,?_⟩
     exact hb _ _ ⟨i+1,hc⟩ [(3,3),(6,152)] yF z9
    ·have hc:=zL hi hc
     subst hc
     rw[Jh,<-hsg]
     have hn:d.ins.length+d.bls.length=(zQ d.c).length:=by rw[hsg];simp
     rw[hn]
     exact RetQ.ren [(1,6)] hR hP rfl ⟨rfl,trivial⟩ rfl rfl trivial ⟨oV (yO (y7 _)),trivial⟩ (zC (by simp only[JC,JD,JB,Ky,zh (y7 _)];rfl)) (zI rfl)
@[reducible] def PK (d:DgL)(ms:List Value):Nat×Bk:=(1,⟨true,(d.r++ms).map .v,147⟩)
theorem Wf {H:Hp}(d:DgL)(hd:d.ok H)(ms:List Value)(h1:d.ins.length<=1000000)(h2:d.bls.length<=1000000):
  CallX H Hf 49 [.c (.p 1 0)] [PK d ms] (fun _:Unit=> .c (.sl 4 0 (zQ d.c).length 1)) (fun _=>[ZD 4 (zQ d.c)]) (fun _ _=>True):=by
 refine kX func49 TA ntmps49 fun C hR hP hH hL=>?_
 have hR:=hR () C hL trivial
 refine zB 100 (vv ?_)
 refine yz 140 1 9 [3] [] rfl (vv ?_)
 refine Sm.bringR 2 51 12 (hd.i.mono hH) rfl rfl ?_
 have hl1:(d.ins.map Po.r).length=d.ins.length:=Ku _
 rw[hl1]
 have hz1:=zP (r:=Po.r) (k:=4) (fun _=>rfl) d.ins
 have hz2:=zP (r:=BlL.r) (k:=6) (fun _=>rfl) d.bls
 have hfull:(d.ins.take d.ins.length).map Po.nm=d.ins.map Po.nm:=by rw[Jh]
 have hsg:zQ d.c=d.ins.map Po.nm++d.bls.map (fun b=>b.c.nm):=by simp[zQ,DgL.c]
 refine zG (M0:=[PK d ms]) (α:={i:Nat//i<=d.ins.length}) hP (fun i=>[(0,true,.c (.p 1 0)),(3,true,.c (.sl 6 0 i.val 1)),(12,true,.c (.sl 2 0 d.ins.length 4)),(13,true,I d.ins.length),(14,true,I i.val)])
  (fun i=>[(1,⟨true,(d.r++ms).map .v,147⟩),(2,⟨true,zD (d.ins.map Po.r),51⟩),ZD 6 ([]++(d.ins.take i.val).map Po.nm)]) (fun i=>d.ins.length-i.val) ⟨0,zA⟩ (fun _=>zC (by simp only[Ky,zh (nu _),iR,zh (y7 _)];rfl)) (fun _=>zO rfl) [(1,1),(2,2),(6,140)] ?_ ?_
 ·exact z9
 ·rintro⟨i,hi⟩ J hb
  simp only at hb hi⊢
  refine zB 150 (vv ?_)
  refine zU (fun hc=>?_) (fun hc=>?_)
  ·have hc:=zH hc
   have htk:=z6 (r:=Po.r) (k:=4) (fun _=>rfl) d.ins i hc
   simp only[htk,hz1]
   refine⟨⟨zA,zA⟩,zA,?_⟩
   refine vv ?_
   have hlen:(([]++(d.ins.take i).map Po.nm).map sC).length=i:=by simp;omega
   have hsn:List.take i (([]++(d.ins.take i).map Po.nm).map sC)++[sC d.ins[i].nm]=([]++(d.ins.take (i+1)).map Po.nm).map sC:=by
    rw[JH zA,wN Po.nm d.ins i hc]
   simp only[JD]at hlen hsn
   simp only[hlen,hsn,yT (i:=i)]
   refine⟨⟨zA,zA,zA⟩,?_⟩
   exact hb _ _ ⟨i+1,hc⟩ [(1,1),(2,2),(6,152)] yF z9
  ·have hc:=zL hi hc
   subst hc
   simp only[hfull]
   refine Sm.bringR 3 53 28 (hd.bl.mono hH) rfl rfl ?_
   have hl2:(d.bls.map BlL.r).length=d.bls.length:=Ku _
   rw[hl2]
   refine zG (M0:=[PK d ms]) (α:={i:Nat//i<=d.bls.length}) hP (fun i=>[(3,true,.c (.sl 6 0 (d.ins.length+i.val) 1)),(28,true,.c (.sl 3 0 d.bls.length 6)),(29,true,I d.bls.length),(30,true,I i.val)])
    (fun i=>[PK d ms,(3,⟨true,zD (d.bls.map BlL.r),53⟩),ZD 6 (d.ins.map Po.nm++(d.bls.take i.val).map (fun b=>b.c.nm))]) (fun i=>d.bls.length-i.val) ⟨0,zA⟩ (fun _=>zC (by simp only[Ky,zh (nu _),iR,zh (y7 _)];rfl)) (fun _=>zO rfl) [(1,1),(3,3),(6,6)] ?_ ?_
   ·simp only[List.take_zero,Kx,JB,JV]
    exact z9
   ·rintro⟨i,hi⟩ J hb
    simp only at hb hi⊢
    refine zB 150 (vv ?_)
    refine zU (fun hc=>?_) (fun hc=>?_)
    ·have hc:=zH hc
     have htk:=z6 (r:=BlL.r) (k:=6) (fun _=>rfl) d.bls i hc
     simp only[htk,hz2]
     refine⟨⟨zA,zA⟩,zA,?_⟩
     refine vv ?_
     have hlen:((d.ins.map Po.nm++(d.bls.take i).map (fun b=>b.c.nm)).map sC).length=d.ins.length+i:=by simp;omega
     have hsn:List.take (d.ins.length+i) ((d.ins.map Po.nm++(d.bls.take i).map (fun b=>b.c.nm)).map sC)++[sC d.bls[i].c.nm]=(d.ins.map Po.nm++(d.bls.take (i+1)).map (fun b=>b.c.nm)).map sC:=by
      rw[JH zA,wN (fun b:BlL=>b.c.nm) d.bls i hc]
     simp only[hlen,hsn,yT (i:=i)]
     refine⟨⟨zA,zA,zA⟩,?_⟩
     exact hb _ _ ⟨i+1,hc⟩ [(1,1),(3,3),(6,152)] yF z9
    ·have hc:=zL hi hc
     subst hc
     rw[Jh,<-hsg]
     have hn:d.ins.length+d.bls.length=(zQ d.c).length:=by rw[hsg];simp
     rw[hn]
     exact RetQ.ren [(1,1),(4,6)] hR hP rfl ⟨rfl,trivial⟩ rfl rfl ⟨⟨rfl,rfl⟩,trivial⟩ ⟨oV (yO (y7 _)),oV (yO (nu _)),trivial⟩ (zC (by simp only[JC,JD,JB,Ky,zh (y7 _),zh (nu _)];rfl)) (zI rfl)
theorem NO {H:Hp}(s:Sv)(n:Nat):CallX H Hf 95 [.c (.v (vsl s n))] [] (fun pv:Value=>Fv 163 #[pv]) (fun _=>[]) (fun pv H'=>PtH H' pv [vsl s n]):=by
 refine kX func95 OE ntmps95 fun C hR hP hH hL=>?_
 refine zB 100 (vv ?_)
 refine RetQ.letgo [100] hL hP rfl rfl (fun β Cn l1 l2 l3=>?_)
 have hpt:=(l3 100 _ rfl rfl rfl).pt zc
 exact yI (hR (ve β 100 0) Cn l1 hpt) ClM.nil
theorem NQ {H:Hp}(s:Sv)(n:Nat):CallX H Hf 96 [.c (.v (vsl s n))] [] (fun pv:Value=>Fv 164 #[pv]) (fun _=>[]) (fun pv H'=>PtH H' pv [vsl s n]):=by
 refine kX func96 OD ntmps96 fun C hR hP hH hL=>?_
 refine zB 100 (vv ?_)
 refine RetQ.letgo [100] hL hP rfl rfl (fun β Cn l1 l2 l3=>?_)
 have hpt:=(l3 100 _ rfl rfl rfl).pt zc
 exact yI (hR (ve β 100 0) Cn l1 hpt) ClM.nil
theorem NP {H:Hp}(s:Sv)(n:Nat):CallX H Hf 97 [.c (.v (vsl s n))] [] (fun pv:Value=>Fv 165 #[pv]) (fun _=>[]) (fun pv H'=>PtH H' pv [vsl s n]):=by
 refine kX func97 OC ntmps97 fun C hR hP hH hL=>?_
 refine zB 100 (vv ?_)
 refine RetQ.letgo [100] hL hP rfl rfl (fun β Cn l1 l2 l3=>?_)
 have hpt:=(l3 100 _ rfl rfl rfl).pt zc
 exact yI (hR (ve β 100 0) Cn l1 hpt) ClM.nil
theorem KZ {H:Hp}(s:Sv)(n:Nat):CallX H Hf 98 [.c (.v (vsl s n))] [] (fun pv:Value=>Fv 166 #[pv]) (fun _=>[]) (fun pv H'=>PtH H' pv [vsl s n]):=by
 refine kX func98 Uy ntmps98 fun C hR hP hH hL=>?_
 refine zB 100 (vv ?_)
 refine RetQ.letgo [100] hL hP rfl rfl (fun β Cn l1 l2 l3=>?_)
 have hpt:=(l3 100 _ rfl rfl rfl).pt zc
 exact yI (hR (ve β 100 0) Cn l1 hpt) ClM.nil
end Go.Proofs.YtkciabfilokfiaaGreat.Fx
