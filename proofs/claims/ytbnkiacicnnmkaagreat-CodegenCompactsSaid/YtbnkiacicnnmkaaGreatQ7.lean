/-  -/
import Derived.Test.YtbnkiacicnnmkaaGreatQ4
open Go.Proofs.Tryz
open Go.Proofs.Tryz renaming prog→HT
set_option linter.unusedSimpArgs false
set_option linter.unusedVariables false
set_option maxRecDepth 100000
set_option maxHeartbeats 4000000
namespace Go.Proofs.YtbnkiacicnnmkaaGreat.Fx
open Vg Tf
theorem UN (n:Int):CallOk HT 155 [I n] [] (Bo (!yA n)) []:=by
 refine kN 100 func155 Sh ntmps155 fun C hR hP=>?_
 refine vv ?_
 refine zp hR ?_
 unfold yA
 rw[lc,<-Bool.not_inj_iff,HN,Bool.not_or,<-decide_not,<-decide_not,JP]
 simp only[JB,decide_eq_true_eq];omega
theorem lR (n:Int):CallOk HT 158 [I n] [] (Bo (yA n)) []:=by
 refine kN 100 func158 Sd ntmps158 fun C hR hP=>?_
 refine vv ?_
 refine zp hR ?_
 unfold yA
 rw[xg,JP]
 simp only[JB,decide_eq_true_eq]
theorem dk (n:Int):CallOk HT 191 [I n] [] (Bo (vZ n)) []:=by
 refine kN 100 func191 SI ntmps191 fun C hR hP=>?_
 refine vv ?_
 refine zp hR ?_
 unfold vZ
 rw[xg,JP]
 simp only[JB,decide_eq_true_eq]
theorem Qx (n:Int):CallOk HT 157 [I n] [] (Bo (!yA n)) []:=by
 refine kN 100 func157 Se ntmps157 fun C hR hP=>?_
 refine vv ?_
 refine CallQ.pure 110 (lR n) rfl (vv ?_)
 exact zp hR rfl
theorem nz (l:List Int):l.any (fun n=> !yA n)= !(l.all yA):=by
 rw[JU,HN]
theorem Ry {H:Hp}(s:Sv)(l:List Int)(hs:SlH H (vsl s l.length) 1 (zP l))(hl:l.length<=1000000000000000):CallH H HT 154 [.c (.v (vsl s l.length))] (Bo (xX l)):=by
 have hcon:=lZ (H:=H) s l hs hl 155 #[] (fun n=> !yA n) (fun x _=>(UN x).toH)
 rw[nz]at hcon
 have e1:decide ((l.length:Int)<2)= !decide (2<=l.length):=by rw[<-decide_not,decide_eq_decide];omega
 have e2:decide ((32:Int)<(l.length:Int))= !decide (l.length<=32):=by rw[<-decide_not,decide_eq_decide];omega
 refine kH func154 Si ntmps154 fun C hR hP hH hL=>?_
 refine zB 100 ?_
 simp only[go_sem,e1,e2]
 refine zt 110 (fun _=>hcon) hH (fun h=>by rw[h];rfl) (vv ?_)
 have hax:xX l=((decide (2<=l.length)&&decide (l.length<=32))&&(l.all yA&&tR l)):=by unfold xX;rw[Bool.decide_and]
 rw[hax]at hR
 cases h1:decide (2<=l.length)with
 |false=>
  rw[h1]at hR
  refine vv ?_
  exact zp (hR C hL) rfl
 |true=>
 cases h2:decide (l.length<=32)with
 |false=>
  rw[h1,h2]at hR
  refine vv ?_
  exact zp (hR C hL) rfl
 |true=>
 cases h3:l.all yA with
 |false=>
  rw[h1,h2,h3]at hR
  refine vv ?_
  exact zp (hR C hL) rfl
 |true=>
 rw[h1,h2,h3]at hR
 simp only[decide_eq_true_eq]at h1 h2
 have w1:IntKind.i64.wrap ((l.length:Int)-1)=((l.length-1:Nat):Int):=by rw[y6 zA zA];omega
 simp only[go_sem,w1]
 refine Sm.bringI 1 3 0 (hs.mono hH) rfl rfl ?_
 refine zK (M0:=[]) (α:={i:Nat//i<=l.length-1/\tR l=tR (l.drop i)}) hP (fun i=>[(0,true,.c (.sl 1 0 l.length 1)),(18,true,I ((l.length-1:Nat):Int)),(19,true,I i.val)]) (fun _=>[(1,⟨true,l.map iC,3⟩)]) (fun i=>l.length-i.val) ⟨0,zA,rfl⟩ (fun _=>ClM.v (by simp only[Kw,zq];rfl)) (fun _=>zO rfl) [(1,1)] ?_ ?_
 ·exact zh
 ·rintro⟨i,hi,hx⟩ J hb
  simp only at hb hi hx⊢
  refine zB 120 (vv ?_)
  refine zV (fun hc=>?_) (fun hc=>?_)
  ·have hc:=zH hc
   have hi1:i+1<l.length:=zA
   have hd:l.drop i=l[i]::l[i+1]::l.drop (i+2):=by
    rw[JC zA,JC hi1]
   have hd1:l.drop (i+1)=l[i+1]::l.drop (i+2):=JC hi1
   rw[hd,tR,<-hd1]at hx
   have w2:=yu (i:=i)
   have e3:(l.map iC)[i]?=some (iC l[i]):=wC zA
   have e4:(l.map iC)[i+1]?=some (iC l[i+1]):=wC hi1
   refine Sm.dg 130 9 zi ?_
   simp only[go_sem,w2,e3,e4]
   refine⟨⟨zA,zA⟩,⟨zA,zA⟩,?_⟩
   refine zV (fun hd=>?_) (fun hd=>?_)
   ·have hq:decide (l[i]<l[i+1])=false:=yZ (by have:=of_decide_eq_true hd;omega)
    rw[hq]at hx
    exact RetQ.bool (hR C hL) rfl ⟨rfl,trivial⟩ (by rw[hx];rfl)
   ·have hq:decide (l[i]<l[i+1])=true:=yS (by have:=of_decide_eq_false hd;omega)
    rw[hq,Jd]at hx
    refine zB 130 ?_
    simp only[go_sem,w2]
    exact hb _ _ ⟨i+1,zA,hx⟩ [(1,1)] yL zh
  ·have hc:=zI hi hc
   have hd:l.drop i=[l[i]]:=by
    rw[JC zA,Iv zA]
   rw[hd]at hx
   exact RetQ.bool (hR C hL) rfl ⟨rfl,trivial⟩ (by rw[hx];rfl)
theorem nu {H:Hp}(x y:Sv)(xs ys:List Int)(hx:SlH H (vsl x xs.length) 1 (zP xs))(hy:SlH H (vsl y ys.length) 1 (zP ys))(hlx:xs.length<=1000000000000000)(hly:ys.length<=1000000000000000):
  CallH H HT 71 [.agg [.v (vsl x xs.length),.v (vsl y ys.length)]] (Bo (wN xs ys)):=by
 have hcon:=lZ (H:=H) y ys hy hly 155 #[] (fun n=> !yA n) (fun x _=>(UN x).toH)
 rw[nz]at hcon
 have e1:((xs.length:Int)==(ys.length:Int))=decide (xs.length=ys.length):=by rw[JP,beq_iff_eq,decide_eq_true_eq];omega
 refine kH func71 OQ ntmps71 fun C hR hP hH hL=>?_
 refine zB 100 ?_
 simp only[go_sem,e1]
 refine zt 110 (fun _=>Ry x xs hx hlx) hH (fun h=>by rw[h];rfl) (vv ?_)
 refine zt 110 (fun _=>hcon) hH (fun h=>by rw[h];rfl) (vv ?_)
 refine zp (hR C hL) ?_
 unfold wN
 cases decide (xs.length=ys.length)<;>cases xX xs<;>cases ys.all yA<;>rfl
def XZ:Option Int->Int->Bool
 |none,_=>true
 |some q,x=>decide (q<x)
def sd:Option Int->List Int->Bool
 |_,[]=>true
 |p,x::r=>(yA x&&XZ p x)&&sd (some x) r
theorem lh:∀(l:List Int) (q:Int),sd (some q) l=(l.all yA&&tR (q::l))
 |[],q=>rfl
 |x::r,q=>by
  rw[sd,lh r x,tR,Kw]
  show(yA x&&decide (q<x)&&_)=_
  cases yA x<;>cases decide (q<x)<;>cases r.all yA<;>rfl
theorem pj (l:List Int):sd none l=(l.all yA&&tR l):=by
 cases l with
 |nil=>rfl
 |cons x r=>
  rw[sd,lh r x,Kw]
  cases yA x<;>cases r.all yA<;>rfl
def kv (l:List Int)(i:Nat):Option Int:=if i=0 then none else some (l.getD (i-1) 0)
theorem Zg {H:Hp}(s:Sv)(l:List Int)(hs:SlH H (vsl s l.length) 1 (zP l)):CallH H HT 156 [.c (.v (vsl s l.length))] (Bo (xX l)):=by
 have e1:decide ((l.length:Int)<2)= !decide (2<=l.length):=by rw[<-decide_not,decide_eq_decide];omega
 have e2:decide ((32:Int)<(l.length:Int))= !decide (l.length<=32):=by rw[<-decide_not,decide_eq_decide];omega
 have hax:xX l=((decide (2<=l.length)&&decide (l.length<=32))&&sd none l):=by unfold xX;rw[pj,Bool.decide_and]
 rw[hax]
 refine kH func156 Sf ntmps156 fun C hR hP hH hL=>?_
 refine zB 100 ?_
 simp only[go_sem,e1,e2]
 cases h1:decide (2<=l.length)with
 |false=>
  rw[h1]at hR
  refine vv ?_
  exact zp (hR C hL) rfl
 |true=>
 cases h2:decide (l.length<=32)with
 |false=>
  rw[h1,h2]at hR
  refine vv ?_
  exact zp (hR C hL) rfl
 |true=>
 rw[h1,h2]at hR
 simp only[decide_eq_true_eq]at h1 h2
 refine vv ?_
 refine Sm.bringI 1 3 0 (hs.mono hH) rfl rfl ?_
 refine Sm.bringI 2 3 13 (hs.mono hH) rfl rfl ?_
 refine zK (M0:=[]) (α:={i:Nat//i<=l.length/\sd none l=sd (kv l i) (l.drop i)}) hP (fun i=>[(0,true,.c (.sl 1 0 l.length 1)),(13,true,.c (.sl 2 0 l.length 1)),(14,true,I l.length),(15,true,I i.val)]) (fun _=>[(1,⟨true,l.map iC,3⟩),(2,⟨true,l.map iC,3⟩)]) (fun i=>l.length-i.val) ⟨0,zA,rfl⟩ (fun _=>ClM.v (by simp only[Kw,zq];rfl)) (fun _=>zO rfl) [(1,1),(2,2)] ?_ ?_
 ·exact zh
 ·rintro⟨i,hi,hx⟩ J hb
  simp only at hb hi hx⊢
  refine zB 120 (vv ?_)
  refine zV (fun hc=>?_) (fun hc=>?_)
  ·have hc:=zH hc
   rw[JC hc,sd]at hx
   have e3:(l.map iC)[i]?=some (iC l[i]):=wC hc
   simp only[go_sem,e3]
   refine⟨⟨zA,zA⟩,?_⟩
   refine CallQ.pure 130 (lR l[i]) rfl ?_
   have w2:=yu (i:=i)
   have hnext:sd none l=sd (some l[i]) (l.drop (i+1))->sd none l=sd (kv l (i+1)) (l.drop (i+1)):=fun h=>by
    rw[h,kv,if_neg zA,I5,Kx,JA hc];rfl
   cases i with
   |zero=>
    cases h5:yA l[0]with
    |false=>
     rw[h5]at hx
     simp only[go_sem,e3]
     refine⟨fun h=>(by cases h),?_⟩
     exact RetQ.bool (hR C hL) rfl ⟨rfl,trivial⟩ (by rw[hx];rfl)
    |true=>
     rw[h5]at hx
     simp only[go_sem,e3,w2]
     exact hb _ _ ⟨1,zA,hnext (by rw[hx];rfl)⟩ [(1,1),(2,2)] yL zh
   |succ j=>
    have w3:IntKind.i64.wrap (((j+1:Nat):Int)-1)=(j:Int):=by rw[y6 zA zA];omega
    have e4:(l.map iC)[j]?=some (iC l[j]):=wC zA
    have e6:decide ((0:Int)<((j+1:Nat):Int))=true:=yS zA
    have hp:kv l (j+1)=some l[j]:=by
     rw[kv,if_neg zA,I5,Kx,JA zA];rfl
    rw[hp]at hx
    cases h5:yA l[j+1]with
    |false=>
     rw[h5]at hx
     simp only[go_sem,w3,e4,e6]
     exact RetQ.bool (hR C hL) rfl ⟨rfl,trivial⟩ (by rw[hx];rfl)
    |true=>
     rw[h5]at hx
     simp only[go_sem,w3,e4,e6]
     refine⟨⟨zA,zA⟩,?_⟩
     refine zV (fun hd=>?_) (fun hd=>?_)
     ·have hq:XZ (some l[j]) l[j+1]=false:=yZ (by have:=of_decide_eq_true hd;omega)
      rw[hq]at hx
      exact RetQ.bool (hR C hL) rfl ⟨rfl,trivial⟩ (by rw[hx];rfl)
     ·have hq:XZ (some l[j]) l[j+1]=true:=yS (by have:=of_decide_eq_false hd;omega)
      rw[hq]at hx
      refine zB 130 ?_
      simp only[go_sem,w2]
      exact hb _ _ ⟨j+1+1,zA,hnext (by rw[hx];rfl)⟩ [(1,1),(2,2)] yL zh
  ·have hc:=zI hi hc
   rw[hc,JI]at hx
   exact RetQ.bool (hR C hL) rfl ⟨rfl,trivial⟩ (by rw[hx];rfl)
def fg (m:MpL):List (List Value):=m.zs.map fun v=>[vsl v.1 v.2.length]
theorem nJ {m:MpL}{i:Nat}(h:i<m.zs.length):(zC (fg m))[i]?=some (.v (.slice m.zs[i].1.o m.zs[i].2.length m.zs[i].1.c)):=by
 have:=yR (k:=1) (fg m) (fun r hr=>by obtain⟨x,_,rfl⟩:=JL.1 hr;rfl) i 0 (by simpa[fg]using h) zA
 rw[Jr,Jx]at this
 rw[this]
 simp[fg]
theorem qM {H:Hp}(m:MpL)(hm:m.ok H)(hl:∀v∈m.zs,v.2.length<=1000000000000000):
  CallH H HT 73 [.agg [.v (vsl m.x m.xs.length),.v (vsl m.y m.ys.length),.v (vsl m.z m.zs.length)]] (Bo (xM m.xs m.ys (m.zs.map (·.2)))):=by
 have hmo:xM m.xs m.ys (m.zs.map (·.2))=(xX m.xs&&(xX m.ys&&(decide (m.zs.length=m.xs.length)&&m.zs.all (fun z=>decide (z.2.length=m.ys.length)&&z.2.all yA)))):=by
  unfold xM;rw[Kv,List.all_map];rfl
 rw[hmo]
 have e1:((m.zs.length:Int)!=(m.xs.length:Int))= !decide (m.zs.length=m.xs.length):=by rw[JP,bne_iff_ne,Jh,decide_eq_false_iff_not];omega
 refine kH func73 OO ntmps73 fun C hR hP hH hL=>?_
 refine zB 100 (vv ?_)
 refine zM 110 (Zg m.x m.xs hm.x) hH rfl (vv ?_)
 refine zt 110 (fun _=>Zg m.y m.ys hm.y) hH (fun h=>by rw[h];rfl) ?_
 simp only[go_sem,e1]
 cases h1:xX m.xs with
 |false=>
  rw[h1]at hR
  refine vv ?_
  exact zp (hR C hL) rfl
 |true=>
 cases h2:xX m.ys with
 |false=>
  rw[h1,h2]at hR
  refine vv ?_
  exact zp (hR C hL) rfl
 |true=>
 cases h3:decide (m.zs.length=m.xs.length)with
 |false=>
  rw[h1,h2,h3]at hR
  refine vv ?_
  exact zp (hR C hL) rfl
 |true=>
 rw[h1,h2,h3]at hR
 have h3:m.zs.length=m.xs.length:=of_decide_eq_true h3
 have hx32:m.xs.length<=32:=by
  have h1':=h1
  unfold xX at h1'
  rw[JB,decide_eq_true_eq]at h1';exact h1'.1.2
 refine vv ?_
 refine Sm.bringR 1 26 25 (rows:=fg m) (by have:=hm.z.mono hH;exact this) rfl rfl ?_
 have hzl:(fg m).length=m.zs.length:=Kv _
 rw[hzl]
 refine zK (M0:=[]) (α:={i:Nat//i<=m.zs.length/\m.zs.all (fun z=>decide (z.2.length=m.ys.length)&&z.2.all yA)=(m.zs.drop i).all (fun z=>decide (z.2.length=m.ys.length)&&z.2.all yA)}) hP (fun i=>[(1,true,.c (.p 5 0)),(25,true,.c (.sl 1 0 m.zs.length 1)),(26,true,I m.zs.length),(27,true,I i.val)])
  (fun _=>[(1,⟨true,zC (fg m),26⟩),(5,⟨false,[.v (vsl m.x m.xs.length),.v (vsl m.y m.ys.length),.v (vsl m.z m.zs.length)],82⟩)]) (fun i=>m.zs.length-i.val) ⟨0,zA,rfl⟩ (fun _=>cM) (fun _=>zO rfl) [(1,1),(5,100)] ?_ ?_
 ·exact zh
 ·rintro⟨i,hi,hx⟩ J hb
  simp only at hb hi hx⊢
  refine zB 120 (vv ?_)
  refine zV (fun hc=>?_) (fun hc=>?_)
  ·have hc:=zH hc
   rw[JC hc,Kw]at hx
   have e3:=nJ hc
   have hmem:m.zs[i]∈m.zs:=JH hc
   have e4:((m.zs[i].2.length:Int)!=(m.ys.length:Int))= !decide (m.zs[i].2.length=m.ys.length):=by rw[JP,bne_iff_ne,Jh,decide_eq_false_iff_not];omega
   have hcon:=lZ (H:=H) m.zs[i].1 m.zs[i].2 (hm.e _ hmem) (hl _ hmem) 157 #[] (fun n=> !yA n) (fun x _=>(Qx x).toH)
   rw[nz]at hcon
   simp only[go_sem,e3,e4]
   refine⟨⟨zA,zA⟩,?_⟩
   refine zt 130 (fun _=>hcon) hH (fun h=>by rw[h];rfl) (vv ?_)
   refine zV (fun hd=>?_) (fun hd=>?_)
   ·refine zp (hR C hL) ?_
    rw[hx]
    generalize decide (m.zs[i].2.length=m.ys.length)=a at*
    generalize m.zs[i].2.all yA=b at*
    cases a<;>cases b<;>simp_all
   ·simp only[yu (i:=i)]
    refine hb _ _ ⟨i+1,hc,?_⟩ [(1,1),(5,5)] yL zh
    rw[hx]
    generalize decide (m.zs[i].2.length=m.ys.length)=a at*
    generalize m.zs[i].2.all yA=b at*
    cases a<;>cases b<;>simp_all
  ·have hc:=zI hi hc
   rw[hc,JI]at hx
   exact RetQ.bool (hR C hL) rfl ⟨rfl,trivial⟩ (by rw[hx];rfl)
structure DgL.sm (d:DgL):Prop where
 nm:d.nm.length<=1000000000000000
 tys:d.tys.length<=1000000000000000/\∀t∈d.tys,t.nm.length<=1000000000000000
 cus:d.cus.length<=1000000000000000/\∀c∈d.cus,c.c.nm.length<=1000000000000000/\c.c.xs.length<=1000000000000000/\c.c.ys.length<=1000000000000000
 mas:d.mas.length<=1000000000000000/\∀m∈d.mas,m.nm.length<=1000000000000000/\∀v∈m.zs,v.2.length<=1000000000000000
 ins:d.ins.length<=1000000000000000/\∀p∈d.ins,p.nm.length<=1000000000000000/\p.ty.length<=1000000000000000
 bls:d.bls.length<=1000000000000000/\∀b∈d.bls,b.c.nm.length<=1000000000000000/\b.c.ty.length<=1000000000000000/\b.c.tb.length<=1000000000000000/\b.c.ins.length<=1000000000000000/\b.c.ks.length<=1000000000000000/\∀s∈b.c.ins,s.length<=1000000000000000
 ous:d.ous.length<=1000000000000000/\∀s∈d.ous,s.length<=1000000000000000
theorem KM (t:Td)(h:t.nm.length<=1000000000000000):CallOk HT 101 [z3 (Td.r t)] [] (Bo (xK t.nm&&fok t.ty)) []:=by
 refine kN 100 func101 R9 ntmps101 fun C hR hP=>?_
 refine vv ?_
 refine CallQ.pure 110 (xm t.nm h) rfl (vv ?_)
 refine CallQ.guard 110 (fun _=>td t.ty) (fun h=>by rw[h];rfl) (vv ?_)
 refine zp hR ?_
 rw[xg]
theorem KL {H:Hp}(c:CuL)(hc:c.ok H)(h:c.c.nm.length<=1000000000000000)(hx:c.c.xs.length<=1000000000000000)(hy:c.c.ys.length<=1000000000000000):CallH H HT 103 [z3 (CuL.r c)] (Bo (xK c.c.nm&&wN c.c.xs c.c.ys)):=by
 refine kH func103 R7 ntmps103 fun C hR hP hH hL=>?_
 refine zB 100 (vv ?_)
 refine CallQ.pure 110 (xm c.c.nm h) rfl (vv ?_)
 refine zt 110 (fun _=>nu c.x c.y c.c.xs c.c.ys hc.x hc.y hx hy) hH (fun h=>by rw[h];rfl) (vv ?_)
 refine zp (hR C hL) ?_
 rw[xg]
theorem KK {H:Hp}(m:MpL)(hm:m.ok H)(h:m.nm.length<=1000000000000000)(hz:∀v∈m.zs,v.2.length<=1000000000000000):CallH H HT 105 [z3 (MpL.r m)] (Bo (xK m.nm&&xM m.xs m.ys (m.zs.map (·.2)))):=by
 refine kH func105 RZ ntmps105 fun C hR hP hH hL=>?_
 refine zB 100 (vv ?_)
 refine CallQ.pure 110 (xm m.nm h) rfl (vv ?_)
 refine zt 110 (fun _=>qM m hm hz) hH (fun h=>by rw[h];rfl) (vv ?_)
 refine zp (hR C hL) ?_
 rw[xg]
theorem Wg (p:Po)(h:p.nm.length<=1000000000000000)(h2:p.ty.length<=1000000000000000):CallOk HT 107 [z3 (Po.r p)] [] (Bo (eY p)) []:=by
 refine kN 100 func107 RX ntmps107 fun C hR hP=>?_
 refine vv ?_
 refine CallQ.pure 110 (xm p.nm h) rfl (vv ?_)
 refine CallQ.guard 110 (fun _=>xm p.ty h2) (fun h=>by rw[h];rfl) (vv ?_)
 refine CallQ.guard 110 (fun _=>dk p.lo) (fun h=>by rw[h];rfl) (vv ?_)
 refine CallQ.guard 110 (fun _=>dk p.hi) (fun h=>by rw[h];rfl) (vv ?_)
 refine zp hR ?_
 unfold eY
 cases xK p.nm<;>cases xK p.ty<;>cases vZ p.lo<;>cases vZ p.hi<;>rfl
theorem Yb {H:Hp}(b:BlL)(hb:b.ok H)(h1:b.c.nm.length<=1000000000000000)(h2:b.c.ty.length<=1000000000000000)(h3:b.c.tb.length<=1000000000000000)(h4:b.c.ins.length<=1000000000000000)(h5:b.c.ks.length<=1000000000000000)(h6:∀s∈b.c.ins,s.length<=1000000000000000):
  CallH H HT 109 [z3 (BlL.r b)] (Bo (xj b.c)):=by
 have ha1:=QJ (H:=H) b.i b.c.ins hb.i h4 99 xK (fun s hs=>(xm s (h6 s hs)).toH)
 have ha2:=NV (H:=H) b.k b.c.ks hb.k h5 191 vZ (fun n _=>(dk n).toH)
 refine kH func109 RV ntmps109 fun C hR hP hH hL=>?_
 refine zB 100 (vv ?_)
 refine CallQ.pure 110 (Vj b.c.kd) rfl ?_
 unfold xj at hR
 cases hk:ym b.c.kd with
 |none=>
  rw[hk]at hR
  simp only[go_sem,Option.getD_none]
  refine CallQ.guard (xs:=[]) (v:=Bo true) 150 (fun h=>by cases h) (fun h=>by cases h) (vv ?_)
  refine CallQ.guard (xs:=[]) (v:=Bo true) 150 (fun h=>by cases h) (fun h=>by cases h) (vv ?_)
  exact zp (hR C hL) rfl
 |some q=>
 obtain⟨a,k,t⟩:=q
 rw[hk]at hR
 simp only at hR
 have e1:((b.c.ins.length:Int)!=(a:Int))= !decide (b.c.ins.length=a):=by rw[JP,bne_iff_ne,Jh,decide_eq_false_iff_not];omega
 have e2:((b.c.ks.length:Int)!=(k:Int))= !decide (b.c.ks.length=k):=by rw[JP,bne_iff_ne,Jh,decide_eq_false_iff_not];omega
 simp only[go_sem,Option.getD_some,e1,e2]
 refine CallQ.guard 120 (fun _=>xm b.c.nm h1) (fun h=>by rw[h];rfl) (vv ?_)
 refine CallQ.guard 120 (fun _=>xm b.c.ty h2) (fun h=>by rw[h];rfl) (vv ?_)
 generalize hA:decide (b.c.ins.length=a)=A at*
 generalize hB:decide (b.c.ks.length=k)=B at*
 generalize hN:xK b.c.nm=Nn at*
 generalize hT:xK b.c.ty=Tt at*
 refine zV (fun hd=>?_) (fun hd=>?_)
 ·refine zp (hR C hL) ?_
  cases A<;>cases B<;>cases Nn<;>cases Tt<;>simp_all
 ·have hall:A=true/\B=true/\Nn=true/\Tt=true:=by cases A<;>cases B<;>cases Nn<;>cases Tt<;>simp_all
  obtain⟨rfl,rfl,rfl,rfl⟩:=hall
  have e3:((t:Int)!=0)= !decide (t=0):=by rw[JP,bne_iff_ne,Jh,decide_eq_false_iff_not];omega
  have e4:((t:Int)==0)=decide (t=0):=by rw[JP,beq_iff_eq,decide_eq_true_eq];omega
  simp only[e3]
  refine CallQ.guard 130 (fun _=>xm b.c.tb h3) (fun h=>by rw[h];rfl) ?_
  simp only[go_sem,e3,e4]
  by_cases ht:t=0
  ·rw[if_pos ht]at hR
   simp only[go_sem,yS ht]
   generalize hE:(b.c.tb==[])=E at*
   refine zV (fun hd=>?_) (fun hd=>?_)
   ·refine zp (hR C hL) ?_
    cases E<;>simp_all
   ·refine zM 140 ha1 hH rfl (vv ?_)
    refine zt 140 (fun _=>ha2) hH (fun h=>by rw[h];rfl) (vv ?_)
    refine zp (hR C hL) ?_
    cases E<;>cases b.c.ins.all xK<;>simp_all
  ·rw[if_neg ht]at hR
   simp only[go_sem,yZ ht]
   generalize hE:xK b.c.tb=E at*
   refine zV (fun hd=>?_) (fun hd=>?_)
   ·refine zp (hR C hL) ?_
    cases E<;>simp_all
   ·refine zM 140 ha1 hH rfl (vv ?_)
    refine zt 140 (fun _=>ha2) hH (fun h=>by rw[h];rfl) (vv ?_)
    refine zp (hR C hL) ?_
    cases E<;>cases b.c.ins.all xK<;>simp_all
theorem Lh (a b c d e:Nat):decide ((30:Int)<max (max (max (max (a:Int) b) c) d) e)= !decide (a<=30/\b<=30/\c<=30/\d<=30/\e<=30):=by
 rw[<-decide_not,decide_eq_decide];omega
theorem WJ {H:Hp}(d:DgL)(hd:d.ok H)(hs:d.sm):CallH H HT 47 [z3 d.r] (Bo (sY d.c)):=by
 have q1:=QI (H:=H) d.ty d.tys hd.ty hs.tys.1 101 (fun t=>xK t.nm&&fok t.ty) (fun t ht=>(KM t (hs.tys.2 t ht)).toH)
 have q2:=QM (H:=H) d.cu d.cus hd.cu hs.cus.1 103 (fun c=>xK c.c.nm&&wN c.c.xs c.c.ys) (fun c hc=>KL c (hd.cus c hc) (hs.cus.2 c hc).1 (hs.cus.2 c hc).2.1 (hs.cus.2 c hc).2.2)
 have q3:=QL (H:=H) d.ma d.mas hd.ma hs.mas.1 105 (fun m=>xK m.nm&&xM m.xs m.ys (m.zs.map (·.2))) (fun m hm=>KK m (hd.mas m hm) (hs.mas.2 m hm).1 (hs.mas.2 m hm).2)
 have q4:=QK (H:=H) d.i d.ins hd.i hs.ins.1 107 eY (fun p hp=>(Wg p (hs.ins.2 p hp).1 (hs.ins.2 p hp).2).toH)
 have q5:=QN (H:=H) d.bl d.bls hd.bl hs.bls.1 109 (fun b=>xj b.c) (fun b hb=>by
  obtain⟨k1,k2,k3,k4,k5,k6⟩:=hs.bls.2 b hb
  exact Yb b (hd.bls b hb) k1 k2 k3 k4 k5 k6)
 have q6:=QJ (H:=H) d.ou d.ous hd.ou hs.ous.1 99 xK (fun s hs'=>(xm s (hs.ous.2 s hs')).toH)
 have hdo:sY d.c=(xK d.nm&&(decide (d.tys.length<=30/\d.cus.length<=30/\d.mas.length<=30/\d.ins.length<=30/\d.ous.length<=30)&&(decide (d.bls.length<=200)&&
  (d.tys.all (fun t=>xK t.nm&&fok t.ty)&&(d.cus.all (fun c=>xK c.c.nm&&wN c.c.xs c.c.ys)&&(d.mas.all (fun m=>xK m.nm&&xM m.xs m.ys (m.zs.map (·.2)))&&(d.ins.all eY&&(d.bls.all (fun b=>xj b.c)&&d.ous.all xK)))))))):=by
  unfold sY
  simp only[DgL.c,Kv,List.all_map]
  rfl
 rw[hdo]
 have e2:decide ((200:Int)<(d.bls.length:Int))= !decide (d.bls.length<=200):=by rw[<-decide_not,decide_eq_decide];omega
 refine kH func47 Oa ntmps47 fun C hR hP hH hL=>?_
 refine zB 100 (vv ?_)
 refine CallQ.pure 110 (xm d.nm hs.nm) rfl ?_
 simp only[go_sem,Lh,e2]
 generalize xK d.nm=A at*
 generalize decide (d.tys.length<=30/\d.cus.length<=30/\d.mas.length<=30/\d.ins.length<=30/\d.ous.length<=30)=B at*
 generalize decide (d.bls.length<=200)=D at*
 refine zV (fun hc=>?_) (fun hc=>?_)
 ·refine zp (hR C hL) ?_
  cases A<;>cases B<;>cases D<;>simp_all
 ·have hall:A=true/\B=true/\D=true:=by cases A<;>cases B<;>cases D<;>simp_all
  obtain⟨rfl,rfl,rfl⟩:=hall
  refine zM 140 q1 hH rfl (vv ?_)
  refine zt 140 (fun _=>q2) hH (fun h=>by rw[h];rfl) (vv ?_)
  refine zt 140 (fun _=>q3) hH (fun h=>by rw[h];rfl) (vv ?_)
  refine zt 140 (fun _=>q4) hH (fun h=>by rw[h];rfl) (vv ?_)
  refine zt 140 (fun _=>q5) hH (fun h=>by rw[h];rfl) (vv ?_)
  refine zt 140 (fun _=>q6) hH (fun h=>by rw[h];rfl) (vv ?_)
  refine zp (hR C hL) ?_
  simp only[xg,Jd,Bool.and_assoc]
theorem _root_.Go.Proofs.YtbnkiacicnnmkaaGreat.Vg.RetQ.letgo {C Ck:Cx}{e:Env}{M M0:Mem}(L:List Nat)(hL:Lf C Ck)(hP:Pins C.S M0)(h0:M0.all (fun p=> !L.contains p.1)=true)(hok:yC L e M=true)
  (h:∀β Cn,Lf C Cn->Ck.hp.le Cn.hp->(∀n b,L.contains n=true->M.get n=some b->b.ro=false->Known Cn.hp β n b)->RetQ Cn (e.conc L β) (M.conc L β)):RetQ Ck e M:=fun β a w h1 h2 h4=>by
 obtain⟨Cn,l1,l2,l3,l4,l5⟩:=tA L hL hP h0 hok h1 h2
 rw[hL.q,<-l1.q]
 exact h β Cn l1 l2 l3 β a w l4 l5 (h4.trans (hL.df.trans l1.df.symm))
def Ph:Obj->Prop
 | .cells _ _ _=>True
 | .map _ _=>True
 |_=>False
def _root_.Go.Proofs.YtbnkiacicnnmkaaGreat.Vg.Hp.cm (H:Hp):Hp:=fun b o=>H b o/\Ph o
theorem LcH.cm {H:Hp}{l:Vg.Loc}{cs:List Value}(k:LcH H l cs):LcH H.cm l cs:=⟨k.1,k.2.1,fun hn=>by obtain⟨c,el,mk,h1,h2⟩:=k.2.2 hn;exact⟨c,el,mk,⟨h1,trivial⟩,h2⟩⟩
theorem PtH.cm {H:Hp}{v:Value}{cs:List Value}(k:PtH H v cs):PtH H.cm v cs:=by obtain⟨l,h1,h2,h3⟩:=k;exact⟨l,h1,h2,LcH.cm h3⟩
theorem MpB.cm {H:Hp}{b:Nat}{l:Al}(k:MpB H b l):MpB H.cm b l:=by obtain⟨es,clk,h1,h2⟩:=k;exact⟨es,clk,⟨h1,trivial⟩,h2⟩
theorem t9 {C:Cx}{b:Nat}{o o':Obj}(h:C.hp b o)(h':C.hp b o'):o=o':=by
 have h1:=h.2.2
 rw[h'.2.2]at h1
 exact(Ik h1).symm
theorem kG (l:List Value):(l.map Cv.v).all Cv.isV=true:=by simp[Cv.isV]
def zU (d:Dg):List Str:=d.ins.map (·.nm)++d.bls.map (·.nm)
@[reducible] def ZV (nm:Nat)(l:List Str):Nat×Bk:=(nm,⟨false,l.map sC,9⟩)
theorem wg {α:Type}(f:α->Str)(l:List α)(i:Nat)(h:i<l.length)(p:List Str):(p++(l.take i).map f).map sC++[sC (f l[i])]=(p++(l.take (i+1)).map f).map sC:=by
 rw[JR h]
 simp only[JN,Ky,Kz,I1]
theorem eq {H:Hp}(d:DgL)(hd:d.ok H)(cp:Value)(ms:List Value)(hcp:PtH H cp (d.r++ms))(h1:d.ins.length<=1000000)(h2:d.bls.length<=1000000):
  CallX H HT 54 [.c (.v cp)] [] (fun _:Unit=> .c (.sl 1 0 (zU d.c).length 1)) (fun _=>[ZV 1 (zU d.c)]) (fun _ _=>True):=by
 refine kX func54 U1 ntmps54 fun C hR hP hH hL=>?_
 have hR:=hR () C hL trivial
 refine zX 1 191 0 (hcp.mono hH) rfl rfl (zB 100 ?_)
 refine vv ?_
 refine x9 140 1 9 [3] [] rfl (vv ?_)
 refine Sm.bringR 2 60 12 (hd.i.mono hH) rfl rfl ?_
 have hl1:(d.ins.map Po.r).length=d.ins.length:=Kv _
 rw[hl1]
 have hz1:=zQ (r:=Po.r) (k:=4) (fun _=>rfl) d.ins
 have hz2:=zQ (r:=BlL.r) (k:=6) (fun _=>rfl) d.bls
 have hfull:(d.ins.take d.ins.length).map Po.nm=d.ins.map Po.nm:=by rw[JY]
 have hsg:zU d.c=d.ins.map Po.nm++d.bls.map (fun b=>b.c.nm):=by simp[zU,DgL.c]
 refine zK (M0:=[]) (α:={i:Nat//i<=d.ins.length}) hP (fun i=>[(0,true,.c (.p 1 0)),(3,true,.c (.sl 6 0 i.val 1)),(12,true,.c (.sl 2 0 d.ins.length 4)),(13,true,I d.ins.length),(14,true,I i.val)])
  (fun i=>[(1,⟨true,(d.r++ms).map .v,191⟩),(2,⟨true,zC (d.ins.map Po.r),60⟩),ZV 6 ([]++(d.ins.take i.val).map Po.nm)]) (fun i=>d.ins.length-i.val) ⟨0,zA⟩ (fun _=>zD (by simp only[Kw,z6 (kG _),iR,z6 (y8 _)];rfl)) (fun _=>zO rfl) [(1,1),(2,2),(6,140)] ?_ ?_
 ·exact zh
 ·rintro⟨i,hi⟩ J hb
  simp only at hb hi⊢
  refine zB 150 (vv ?_)
  refine zV (fun hc=>?_) (fun hc=>?_)
  ·have hc:=zH hc
   have htk:=zW (r:=Po.r) (k:=4) (fun _=>rfl) d.ins i hc
   simp only[htk,hz1]
   refine⟨⟨zA,zA⟩,zA,?_⟩
   refine vv ?_
   have hlen:(([]++(d.ins.take i).map Po.nm).map sC).length=i:=by simp;omega
   have hsn:List.take i (([]++(d.ins.take i).map Po.nm).map sC)++[sC d.ins[i].nm]=([]++(d.ins.take (i+1)).map Po.nm).map sC:=by
    rw[JJ zA,wg Po.nm d.ins i hc]
   simp only[JG]at hlen hsn
   simp only[hlen,hsn,yu (i:=i)]
   refine⟨⟨zA,zA,zA⟩,?_⟩
   exact hb _ _ ⟨i+1,hc⟩ [(1,1),(2,2),(6,152)] yL zh
  ·have hc:=zI hi hc
   subst hc
   simp only[hfull]
   refine Sm.bringR 3 64 28 (hd.bl.mono hH) rfl rfl ?_
   have hl2:(d.bls.map BlL.r).length=d.bls.length:=Kv _
   rw[hl2]
   refine zK (M0:=[]) (α:={i:Nat//i<=d.bls.length}) hP (fun i=>[(3,true,.c (.sl 6 0 (d.ins.length+i.val) 1)),(28,true,.c (.sl 3 0 d.bls.length 6)),(29,true,I d.bls.length),(30,true,I i.val)])
    (fun i=>[(3,⟨true,zC (d.bls.map BlL.r),64⟩),ZV 6 (d.ins.map Po.nm++(d.bls.take i.val).map (fun b=>b.c.nm))]) (fun i=>d.bls.length-i.val) ⟨0,zA⟩ (fun _=>zD (by simp only[Kw,iR,z6 (y8 _)];rfl)) (fun _=>zO rfl) [(3,3),(6,6)] ?_ ?_
   ·simp only[List.take_zero,Kz,JK,Jx]
    exact zh
   ·rintro⟨i,hi⟩ J hb
    simp only at hb hi⊢
    refine zB 150 (vv ?_)
    refine zV (fun hc=>?_) (fun hc=>?_)
    ·have hc:=zH hc
     have htk:=zW (r:=BlL.r) (k:=6) (fun _=>rfl) d.bls i hc
     simp only[htk,hz2]
     refine⟨⟨zA,zA⟩,zA,?_⟩
     refine vv ?_
     have hlen:((d.ins.map Po.nm++(d.bls.take i).map (fun b=>b.c.nm)).map sC).length=d.ins.length+i:=by simp;omega
     have hsn:List.take (d.ins.length+i) ((d.ins.map Po.nm++(d.bls.take i).map (fun b=>b.c.nm)).map sC)++[sC d.bls[i].c.nm]=(d.ins.map Po.nm++(d.bls.take (i+1)).map (fun b=>b.c.nm)).map sC:=by
      rw[JJ zA,wg (fun b:BlL=>b.c.nm) d.bls i hc]
     simp only[hlen,hsn,yu (i:=i)]
     refine⟨⟨zA,zA,zA⟩,?_⟩
     exact hb _ _ ⟨i+1,hc⟩ [(3,3),(6,152)] yL zh
    ·have hc:=zI hi hc
     subst hc
     rw[JY,<-hsg]
     have hn:d.ins.length+d.bls.length=(zU d.c).length:=by rw[hsg];simp
     rw[hn]
     exact RetQ.ren [(1,6)] hR hP rfl ⟨rfl,trivial⟩ rfl rfl trivial ⟨oV (yD (y8 _)),trivial⟩ (zD (by simp only[JF,JG,JK,Kw,z6 (y8 _)];rfl)) (zG rfl)
@[reducible] def Qd (d:DgL)(ms:List Value):Nat×Bk:=(1,⟨true,(d.r++ms).map .v,191⟩)
theorem XN {H:Hp}(d:DgL)(hd:d.ok H)(ms:List Value)(h1:d.ins.length<=1000000)(h2:d.bls.length<=1000000):
  CallX H HT 54 [.c (.p 1 0)] [Qd d ms] (fun _:Unit=> .c (.sl 4 0 (zU d.c).length 1)) (fun _=>[ZV 4 (zU d.c)]) (fun _ _=>True):=by
 refine kX func54 U1 ntmps54 fun C hR hP hH hL=>?_
 have hR:=hR () C hL trivial
 refine zB 100 (vv ?_)
 refine x9 140 1 9 [3] [] rfl (vv ?_)
 refine Sm.bringR 2 60 12 (hd.i.mono hH) rfl rfl ?_
 have hl1:(d.ins.map Po.r).length=d.ins.length:=Kv _
 rw[hl1]
 have hz1:=zQ (r:=Po.r) (k:=4) (fun _=>rfl) d.ins
 have hz2:=zQ (r:=BlL.r) (k:=6) (fun _=>rfl) d.bls
 have hfull:(d.ins.take d.ins.length).map Po.nm=d.ins.map Po.nm:=by rw[JY]
 have hsg:zU d.c=d.ins.map Po.nm++d.bls.map (fun b=>b.c.nm):=by simp[zU,DgL.c]
 refine zK (M0:=[Qd d ms]) (α:={i:Nat//i<=d.ins.length}) hP (fun i=>[(0,true,.c (.p 1 0)),(3,true,.c (.sl 6 0 i.val 1)),(12,true,.c (.sl 2 0 d.ins.length 4)),(13,true,I d.ins.length),(14,true,I i.val)])
  (fun i=>[(1,⟨true,(d.r++ms).map .v,191⟩),(2,⟨true,zC (d.ins.map Po.r),60⟩),ZV 6 ([]++(d.ins.take i.val).map Po.nm)]) (fun i=>d.ins.length-i.val) ⟨0,zA⟩ (fun _=>zD (by simp only[Kw,z6 (kG _),iR,z6 (y8 _)];rfl)) (fun _=>zO rfl) [(1,1),(2,2),(6,140)] ?_ ?_
 ·exact zh
 ·rintro⟨i,hi⟩ J hb
  simp only at hb hi⊢
  refine zB 150 (vv ?_)
  refine zV (fun hc=>?_) (fun hc=>?_)
  ·have hc:=zH hc
   have htk:=zW (r:=Po.r) (k:=4) (fun _=>rfl) d.ins i hc
   simp only[htk,hz1]
   refine⟨⟨zA,zA⟩,zA,?_⟩
   refine vv ?_
   have hlen:(([]++(d.ins.take i).map Po.nm).map sC).length=i:=by simp;omega
   have hsn:List.take i (([]++(d.ins.take i).map Po.nm).map sC)++[sC d.ins[i].nm]=([]++(d.ins.take (i+1)).map Po.nm).map sC:=by
    rw[JJ zA,wg Po.nm d.ins i hc]
   simp only[JG]at hlen hsn
   simp only[hlen,hsn,yu (i:=i)]
   refine⟨⟨zA,zA,zA⟩,?_⟩
   exact hb _ _ ⟨i+1,hc⟩ [(1,1),(2,2),(6,152)] yL zh
  ·have hc:=zI hi hc
   subst hc
   simp only[hfull]
   refine Sm.bringR 3 64 28 (hd.bl.mono hH) rfl rfl ?_
   have hl2:(d.bls.map BlL.r).length=d.bls.length:=Kv _
   rw[hl2]
   refine zK (M0:=[Qd d ms]) (α:={i:Nat//i<=d.bls.length}) hP (fun i=>[(3,true,.c (.sl 6 0 (d.ins.length+i.val) 1)),(28,true,.c (.sl 3 0 d.bls.length 6)),(29,true,I d.bls.length),(30,true,I i.val)])
    (fun i=>[Qd d ms,(3,⟨true,zC (d.bls.map BlL.r),64⟩),ZV 6 (d.ins.map Po.nm++(d.bls.take i.val).map (fun b=>b.c.nm))]) (fun i=>d.bls.length-i.val) ⟨0,zA⟩ (fun _=>zD (by simp only[Kw,z6 (kG _),iR,z6 (y8 _)];rfl)) (fun _=>zO rfl) [(1,1),(3,3),(6,6)] ?_ ?_
   ·simp only[List.take_zero,Kz,JK,Jx]
    exact zh
   ·rintro⟨i,hi⟩ J hb
    simp only at hb hi⊢
    refine zB 150 (vv ?_)
    refine zV (fun hc=>?_) (fun hc=>?_)
    ·have hc:=zH hc
     have htk:=zW (r:=BlL.r) (k:=6) (fun _=>rfl) d.bls i hc
     simp only[htk,hz2]
     refine⟨⟨zA,zA⟩,zA,?_⟩
     refine vv ?_
     have hlen:((d.ins.map Po.nm++(d.bls.take i).map (fun b=>b.c.nm)).map sC).length=d.ins.length+i:=by simp;omega
     have hsn:List.take (d.ins.length+i) ((d.ins.map Po.nm++(d.bls.take i).map (fun b=>b.c.nm)).map sC)++[sC d.bls[i].c.nm]=(d.ins.map Po.nm++(d.bls.take (i+1)).map (fun b=>b.c.nm)).map sC:=by
      rw[JJ zA,wg (fun b:BlL=>b.c.nm) d.bls i hc]
     simp only[hlen,hsn,yu (i:=i)]
     refine⟨⟨zA,zA,zA⟩,?_⟩
     exact hb _ _ ⟨i+1,hc⟩ [(1,1),(3,3),(6,152)] yL zh
    ·have hc:=zI hi hc
     subst hc
     rw[JY,<-hsg]
     have hn:d.ins.length+d.bls.length=(zU d.c).length:=by rw[hsg];simp
     rw[hn]
     exact RetQ.ren [(1,1),(4,6)] hR hP rfl ⟨rfl,trivial⟩ rfl rfl ⟨⟨rfl,rfl⟩,trivial⟩ ⟨oV (yD (y8 _)),oV (yD (kG _)),trivial⟩ (zD (by simp only[JF,JG,JK,Kw,z6 (y8 _),z6 (kG _)];rfl)) (zG rfl)
theorem NO {H:Hp}(s:Sv)(n:Nat):CallX H HT 111 [.c (.v (vsl s n))] [] (fun pv:Value=>Fv 198 #[pv]) (fun _=>[]) (fun pv H'=>PtH H' pv [vsl s n]):=by
 refine kX func111 RT ntmps111 fun C hR hP hH hL=>?_
 refine zB 100 (vv ?_)
 refine RetQ.letgo [100] hL hP rfl rfl (fun β Cn l1 l2 l3=>?_)
 have hpt:=(l3 100 _ rfl rfl rfl).pt z9
 exact yN (hR (xl β 100 0) Cn l1 hpt) ClM.nil
theorem NQ {H:Hp}(s:Sv)(n:Nat):CallX H HT 112 [.c (.v (vsl s n))] [] (fun pv:Value=>Fv 199 #[pv]) (fun _=>[]) (fun pv H'=>PtH H' pv [vsl s n]):=by
 refine kX func112 RS ntmps112 fun C hR hP hH hL=>?_
 refine zB 100 (vv ?_)
 refine RetQ.letgo [100] hL hP rfl rfl (fun β Cn l1 l2 l3=>?_)
 have hpt:=(l3 100 _ rfl rfl rfl).pt z9
 exact yN (hR (xl β 100 0) Cn l1 hpt) ClM.nil
theorem NP {H:Hp}(s:Sv)(n:Nat):CallX H HT 113 [.c (.v (vsl s n))] [] (fun pv:Value=>Fv 200 #[pv]) (fun _=>[]) (fun pv H'=>PtH H' pv [vsl s n]):=by
 refine kX func113 RQ ntmps113 fun C hR hP hH hL=>?_
 refine zB 100 (vv ?_)
 refine RetQ.letgo [100] hL hP rfl rfl (fun β Cn l1 l2 l3=>?_)
 have hpt:=(l3 100 _ rfl rfl rfl).pt z9
 exact yN (hR (xl β 100 0) Cn l1 hpt) ClM.nil
theorem KT {H:Hp}(s:Sv)(n:Nat):CallX H HT 114 [.c (.v (vsl s n))] [] (fun pv:Value=>Fv 201 #[pv]) (fun _=>[]) (fun pv H'=>PtH H' pv [vsl s n]):=by
 refine kX func114 YR ntmps114 fun C hR hP hH hL=>?_
 refine zB 100 (vv ?_)
 refine RetQ.letgo [100] hL hP rfl rfl (fun β Cn l1 l2 l3=>?_)
 have hpt:=(l3 100 _ rfl rfl rfl).pt z9
 exact yN (hR (xl β 100 0) Cn l1 hpt) ClM.nil
end Go.Proofs.YtbnkiacicnnmkaaGreat.Fx
