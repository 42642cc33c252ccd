/-  -/
import Derived.Test.YtbnkiacicnnmkaaGreatXD2
open Go.Proofs.Tryz
open Go.Proofs.Tryz renaming prog→HT
set_option linter.unusedSimpArgs false
set_option linter.unusedVariables false
set_option maxRecDepth 100000
set_option maxHeartbeats 4000000
namespace Go.Proofs.YtbnkiacicnnmkaaGreat.Fx
open Vg Tf
def cN (op an ad bn bd:Int):Int:=if op=1 then an*bd+bn*ad else if op=2 then an*bd-bn*ad else if op=3 then an*bn else if bn*ad<0 then-(an*bd)else an*bd
def cD (op an ad bn bd:Int):Int:=if op=1\/op=2\/op=3 then ad*bd else if bn*ad<0 then-(bn*ad)else bn*ad
theorem dq (n d:Int):UP n d= .agg [cu (ni n),cu (nf n),cu (ni d),cu (nf d)]:=rfl
theorem vp (op:Int)(t u:Ft)(x y:Int)(h:fok t=true)(hx:uc t x=true)(hu:fok u=true)(hy:uc u y=true)(ho1:1<=op)(ho2:op<=4):
  CallOk HT 272 [I op,va t x,va u y] [] (UP (cN op (xG t x) t.den (xG u y) u.den) (cD op (xG t x) t.den (xG u y) u.den)) []:=by
 have hf:=vY h
 have hg:=vY hu
 have ha:=uq h hx
 have hb:=uq hu hy
 have p1:=wE (a:=xG t x) (b:=u.den) (A:=4503600701112320) (B:=1048576) zA zA zA zA
 have p2:=wE (a:=xG u y) (b:=t.den) (A:=4503600701112320) (B:=1048576) zA zA zA zA
 refine kO 100 func272 Uq ntmps272 (by simp[ClV,V.g,Cv.g,va,ci]) fun C hR=>?_
 refine vv ?_
 refine CallQ.pure 104 (vH t x h hx) rfl (vv ?_)
 refine CallQ.pure 104 (vH u y hu hy) rfl ?_
 generalize xG t x=an at*
 generalize xG u y=bn at*
 rcases(show op=1\/op=2\/op=3\/op=4 by omega)with rfl|rfl|rfl|rfl
 ·simp only[go_sem]
  refine CallQ.pure 104 (iY an zA zA) rfl (vv ?_)
  refine CallQ.pure 104 (xB an u.den zA zA zA zA) rfl (vv ?_)
  refine CallQ.pure 104 (iY bn zA zA) rfl (vv ?_)
  refine CallQ.pure 104 (xB bn t.den zA zA zA zA) rfl (vv ?_)
  refine CallQ.pure 104 (W1 (an*u.den) (bn*t.den)) rfl (vv ?_)
  refine CallQ.pure 104 (iY t.den zA zA) rfl (vv ?_)
  refine CallQ.pure 104 (xB t.den u.den zA zA zA zA) rfl ?_
  simp only[ud]
  refine vv ?_
  exact RetQ.pure hR rfl (vv trivial) xz (zG rfl)
 ·simp only[go_sem]
  refine CallQ.pure 104 (iY an zA zA) rfl (vv ?_)
  refine CallQ.pure 104 (xB an u.den zA zA zA zA) rfl (vv ?_)
  refine CallQ.pure 104 (iY bn zA zA) rfl (vv ?_)
  have e:IntKind.i64.wrap (0-t.den)= -t.den:=by rw[y6 zA zA];omega
  simp only[e]
  refine CallQ.pure 104 (xB bn (-t.den) zA zA zA zA) rfl (vv ?_)
  refine CallQ.pure 104 (W1 (an*u.den) (bn* -t.den)) rfl (vv ?_)
  refine CallQ.pure 104 (iY t.den zA zA) rfl (vv ?_)
  refine CallQ.pure 104 (xB t.den u.den zA zA zA zA) rfl ?_
  rw[show an*u.den+bn* -t.den=an*u.den-bn*t.den by rw[IQ];omega]
  simp only[ud]
  refine vv ?_
  exact RetQ.pure hR rfl (vv trivial) xz (zG rfl)
 ·simp only[go_sem]
  refine CallQ.pure 104 (iY an zA zA) rfl (vv ?_)
  refine CallQ.pure 104 (xB an bn zA zA zA zA) rfl (vv ?_)
  refine CallQ.pure 104 (iY t.den zA zA) rfl (vv ?_)
  refine CallQ.pure 104 (xB t.den u.den zA zA zA zA) rfl ?_
  simp only[ud]
  refine vv ?_
  exact RetQ.pure hR rfl (vv trivial) xz (zG rfl)
 ·simp only[go_sem]
  refine CallQ.pure 104 (iY an zA zA) rfl (vv ?_)
  refine CallQ.pure 104 (xB an u.den zA zA zA zA) rfl (vv ?_)
  refine CallQ.pure 104 (iY bn zA zA) rfl (vv ?_)
  refine CallQ.pure 104 (xB bn t.den zA zA zA zA) rfl ?_
  simp only[ud]
  refine vv ?_
  refine CallQ.pure 105 (oe (bn*t.den) zA zA) rfl (vv ?_)
  by_cases hn:bn*t.den<0
  ·have e:decide (bn*t.den<0)=true:=by simpa using hn
   simp only[e]
   refine Sm.dg 105 7 zi (vv ?_)
   refine DCallQ.pure 105 (eo (an*u.den)) rfl (vv ?_)
   refine DCallQ.pure 105 (eo (bn*t.den)) rfl ?_
   simp only[ud]
   refine vv ?_
   refine RetQ.pure hR rfl (vv trivial) ?_ (zG rfl)
   refine vv ?_
   simp[cN,cD,hn,dq]
  ·have e:decide (bn*t.den<0)=false:=by simpa using hn
   simp only[e]
   refine RetQ.pure hR rfl (vv trivial) ?_ (zG rfl)
   refine vv ?_
   simp[cN,cD,hn,dq]
theorem nK (lo hi:Int)(t:Ft):CallOk HT 273 [rg lo hi,fx t] [] (Bo (fok t&&(decide (lo<=hi)&&(uc t lo&&uc t hi)))) []:=by
 refine kO 100 func273 Up ntmps273 (by simp[ClV,V.g,Cv.g,fx,rg,ci]) fun C hR=>?_
 refine vv ?_
 refine CallQ.pure 104 (jQ t) rfl (vv ?_)
 refine CallQ.pure 104 (td t) rfl (vv ?_)
 cases h:fok t with
 |false=>
  rw[h]at hR
  refine vv ?_
  refine zp hR rfl
 |true=>
  rw[h]at hR
  refine vv ?_
  refine zp hR ?_
  rw[JP]
  simp only[uc,JT,Jd,JB,decide_eq_true_eq]
  grind
theorem ql (t:Ft)(r:Int):CallOk HT 234 [va t r] [] (Bo (fok t&&uc t r)) []:=by
 refine kO 100 func234 T1 ntmps234 (by simp[ClV,V.g,Cv.g,va,ci]) fun C hR=>?_
 refine vv ?_
 refine CallQ.pure 104 (nK r r t) rfl (vv ?_)
 refine zp hR ?_
 simp
def qJ (s:Int)(t u:Ft):Bool:=wL (t.m+s*u.m) (t.kg+s*u.kg) (t.s+s*u.s) (t.a+s*u.a) (t.k+s*u.k)
@[go_sem] def sr (t:Ft):V:= .agg [ci t.m,ci t.kg,ci t.s,ci t.a,ci t.k]
theorem qo {m kg s a k:Int}(h:wL m kg s a k=true):(-9<=m/\m<=9)/\(-9<=kg/\kg<=9)/\(-9<=s/\s<=9)/\(-9<=a/\a<=9)/\(-9<=k/\k<=9):=by
 simpa[wL]using h
theorem Z7 (t u:Ft)(s:Int)(hs:s=1\/s= -1)(h:wL t.m t.kg t.s t.a t.k=true)(hu:wL u.m u.kg u.s u.a u.k=true):
  CallOk HT 264 [sr t,sr u,I s] [] (bif qJ s t u then .tup [.agg [ci (t.m+s*u.m),ci (t.kg+s*u.kg),ci (t.s+s*u.s),ci (t.a+s*u.a),ci (t.k+s*u.k)],Wi 0]else .tup [.agg [ci 0,ci 0,ci 0,ci 0,ci 0],Wi 2]) []:=by
 have b1:=qo h
 have b2:=qo hu
 have hv:=qm t.m t.kg t.s t.a t.k
 rw[h]at hv
 have hv2:=qm u.m u.kg u.s u.a u.k
 rw[hu]at hv2
 have wr:∀x y:Int, -9<=x->x<=9-> -9<=y->y<=9->IntKind.i64.wrap (x+IntKind.i64.wrap (s*y))=x+s*y:=by
  intro x y h1 h2 h3 h4
  rcases hs with rfl|rfl
  ·rw[y6 (x:=1*y) zA zA,y6 zA zA]
  ·rw[y6 (x:= -1*y) zA zA,y6 zA zA]
 refine kO 100 func264 YD ntmps264 (by simp[ClV,V.g,Cv.g,sr,ci]) fun C hR=>?_
 refine vv ?_
 refine CallQ.pure 104 hv rfl (vv ?_)
 refine CallQ.pure 104 hv2 rfl (vv ?_)
 refine CallQ.mem 104 (vq 100 [ci t.m,ci t.kg,ci t.s,ci t.a,ci t.k] 53 (ClM.v rfl) yp) rfl (Sub.one (b':=⟨false,[ci t.m,ci t.kg,ci t.s,ci t.a,ci t.k],53⟩) rfl (.inr ⟨rfl,[],rfl⟩)) (ClM.v rfl) (vv ?_)
 refine CallQ.mem 104 (vq 101 [ci u.m,ci u.kg,ci u.s,ci u.a,ci u.k] 53 (ClM.v rfl) yp) rfl (Sub.one (b':=⟨false,[ci u.m,ci u.kg,ci u.s,ci u.a,ci u.k],53⟩) rfl (.inr ⟨rfl,[],rfl⟩)) (ClM.v rfl) (vv ?_)
 refine zf 6 (zB 106 ?_)
 refine vv ?_
 have w1:=wr t.m u.m zA zA zA zA
 have w2:=wr t.kg u.kg zA zA zA zA
 have w3:=wr t.s u.s zA zA zA zA
 have w4:=wr t.a u.a zA zA zA zA
 have w5:=wr t.k u.k zA zA zA zA
 refine Sm.dg 106 13 zi (vv ?_)
 simp only[w1]
 refine Sm.dg 106 13 zi (vv ?_)
 simp only[w2]
 refine Sm.dg 106 13 zi (vv ?_)
 simp only[w3]
 refine Sm.dg 106 13 zi (vv ?_)
 simp only[w4]
 refine Sm.dg 106 13 zi (vv ?_)
 simp only[w5]
 have hv3:=qm (t.m+s*u.m) (t.kg+s*u.kg) (t.s+s*u.s) (t.a+s*u.a) (t.k+s*u.k)
 refine CallQ.pure 106 hv3 rfl (vv ?_)
 unfold qJ at hR
 cases hc:wL (t.m+s*u.m) (t.kg+s*u.kg) (t.s+s*u.s) (t.a+s*u.a) (t.k+s*u.k)with
 |false=>
  rw[hc]at hR
  refine vv ?_
  exact RetQ.pure hR rfl (vv trivial) xz (zG rfl)
 |true=>
  rw[hc]at hR
  refine vv ?_
  exact RetQ.pure hR rfl (vv trivial) xz (zG rfl)
theorem Zy (t u:Ft)(h:wL t.m t.kg t.s t.a t.k=true)(hu:wL u.m u.kg u.s u.a u.k=true):
  CallOk HT 221 [sr t,sr u] [] (bif qJ 1 t u then .tup [.agg [ci (t.m+1*u.m),ci (t.kg+1*u.kg),ci (t.s+1*u.s),ci (t.a+1*u.a),ci (t.k+1*u.k)],Wi 0]else .tup [.agg [ci 0,ci 0,ci 0,ci 0,ci 0],Wi 2]) []:=by
 have hc:=Z7 t u 1 (.inl rfl) h hu
 refine kO 100 func221 YG ntmps221 (by simp[ClV,V.g,Cv.g,sr,ci]) fun C hR=>?_
 refine vv ?_
 refine CallQ.pure 106 hc rfl ?_
 cases h5:qJ 1 t u<;>rw[h5]at hR<;>simp only[cond_true,cond_false]at hR⊢
 ·simp only[go_sem]
  exact RetQ.pure hR rfl (vv trivial) xz (zG rfl)
 ·simp only[go_sem]
  exact RetQ.pure hR rfl (vv trivial) xz (zG rfl)
theorem Wj (t u:Ft)(h:wL t.m t.kg t.s t.a t.k=true)(hu:wL u.m u.kg u.s u.a u.k=true):
  CallOk HT 222 [sr t,sr u] [] (bif qJ (-1) t u then .tup [.agg [ci (t.m+ -1*u.m),ci (t.kg+ -1*u.kg),ci (t.s+ -1*u.s),ci (t.a+ -1*u.a),ci (t.k+ -1*u.k)],Wi 0]else .tup [.agg [ci 0,ci 0,ci 0,ci 0,ci 0],Wi 2]) []:=by
 have hc:=Z7 t u (-1) (.inr rfl) h hu
 refine kO 100 func222 YF ntmps222 (by simp[ClV,V.g,Cv.g,sr,ci]) fun C hR=>?_
 refine vv ?_
 refine CallQ.pure 106 hc rfl ?_
 cases h5:qJ (-1) t u<;>rw[h5]at hR<;>simp only[cond_true,cond_false]at hR⊢
 ·simp only[go_sem]
  exact RetQ.pure hR rfl (vv trivial) xz (zG rfl)
 ·simp only[go_sem]
  exact RetQ.pure hR rfl (vv trivial) xz (zG rfl)
def tq (op:Int)(a b t:Ft):Bool:=
 if op=3 then decide (a.m+b.m=t.m/\a.kg+b.kg=t.kg/\a.s+b.s=t.s/\a.a+b.a=t.a/\a.k+b.k=t.k)
 else if op=4 then decide (a.m-b.m=t.m/\a.kg-b.kg=t.kg/\a.s-b.s=t.s/\a.a-b.a=t.a/\a.k-b.k=t.k)
 else decide ((a.m=t.m/\a.kg=t.kg/\a.s=t.s/\a.a=t.a/\a.k=t.k)/\b.m=t.m/\b.kg=t.kg/\b.s=t.s/\b.a=t.a/\b.k=t.k)
theorem UI (op:Int)(a b t:Ft)(ha:wL a.m a.kg a.s a.a a.k=true)(hb:wL b.m b.kg b.s b.a b.k=true)(ht:wL t.m t.kg t.s t.a t.k=true):CallOk HT 271 [I op,sr a,sr b,sr t] [] (Bo (tq op a b t)) []:=by
 have b3:=qo ht
 refine kO 100 func271 Ur ntmps271 (by simp[ClV,V.g,Cv.g,sr,ci]) fun C hR=>?_
 refine vv ?_
 by_cases h3:op=3
 ·subst h3
  refine vv ?_
  refine CallQ.pure 106 (Zy a b ha hb) rfl ?_
  cases h5:qJ 1 a b<;>simp only[cond_true,cond_false]
  ·simp only[go_sem]
   refine zp hR ?_
   symm
   simp only[tq,if_true,decide_eq_false_iff_not]
   rintro⟨q1,q2,q3,q4,q5⟩
   simp only[qJ,wL,decide_eq_false_iff_not]at h5
   omega
  ·simp only[go_sem]
   refine zp hR ?_
   rw[JP]
   simp[tq]
 ·have e3:(op==3)=false:=by simpa using h3
  simp only[e3]
  by_cases h4:op=4
  ·subst h4
   refine vv ?_
   refine CallQ.pure 106 (Wj a b ha hb) rfl ?_
   cases h5:qJ (-1) a b<;>simp only[cond_true,cond_false]
   ·simp only[go_sem]
    refine zp hR ?_
    symm
    simp only[tq,Int.reduceEq,if_true,if_false,decide_eq_false_iff_not]
    rintro⟨q1,q2,q3,q4,q5⟩
    simp only[qJ,wL,decide_eq_false_iff_not]at h5
    omega
   ·simp only[go_sem]
    refine zp hR ?_
    rw[JP]
    simp[tq]
    omega
  ·have e4:(op==4)=false:=by simpa using h4
   simp only[e4]
   refine zp hR ?_
   rw[JP]
   simp[tq,h3,h4,JT]
@[go_sem] def co (t:Ft)(r:Int):List Cv:=[ci t.bits,.v (.bool t.signed),ci t.num,ci t.off,ci t.den,ci t.m,ci t.kg,ci t.s,ci t.a,ci t.k,ci r]
def z0:Ft:=⟨0,false,0,0,0,0,0,0,0,0⟩
def vA (op:Int)(a:Ft)(x:Int)(b:Ft)(y:Int)(t:Ft):Int:=
 if ((fok a&&uc a x)&&((fok b&&uc b y)&&fok t))=false then 1 else if tq op a b t=false then 12 else if op=4/\xG b y=0 then 10 else 0
def w8 (op:Int)(a:Ft)(x:Int)(b:Ft)(y:Int)(t:Ft):Int:=gw t (cN op (xG a x) a.den (xG b y) b.den) (cD op (xG a x) a.den (xG b y) b.den)
def oT (op:Int)(a:Ft)(x:Int)(b:Ft)(y:Int)(t:Ft):Ft:=if vA op a x b y t=0 then t else z0
def oRs (op:Int)(a:Ft)(x:Int)(b:Ft)(y:Int)(t:Ft):Int:=if vA op a x b y t=0 then w8 op a x b y t else 0
theorem ry {t:Ft}(h:fok t=true):wL t.m t.kg t.s t.a t.k=true:=by
 simp only[fok,JB]at h
 exact h.2
theorem cI (op:Int){a:Ft}{x:Int}{b:Ft}{y:Int}(ha:fok a=true)(hx:uc a x=true)(hb:fok b=true)(hy:uc b y=true)(ho1:1<=op)(ho2:op<=4)(h0:op=4->xG b y≠0):
  (-20282419275553370000000000000000<=cN op (xG a x) a.den (xG b y) b.den/\cN op (xG a x) a.den (xG b y) b.den<=20282419275553370000000000000000)/\(1<=cD op (xG a x) a.den (xG b y) b.den/\cD op (xG a x) a.den (xG b y) b.den<=4722367608777000000000):=by
 have hf:=vY ha
 have hg:=vY hb
 have h1:=uq ha hx
 have h2:=uq hb hy
 have p1:=wE (a:=xG a x) (b:=b.den) (A:=4503600701112320) (B:=1048576) zA zA zA zA
 have p2:=wE (a:=xG b y) (b:=a.den) (A:=4503600701112320) (B:=1048576) zA zA zA zA
 have p3:=wE (a:=xG a x) (b:=xG b y) (A:=4503600701112320) (B:=4503600701112320) zA zA zA zA
 have p4:=wE (a:=a.den) (b:=b.den) (A:=1048576) (B:=1048576) zA zA zA zA
 have p5:0<a.den*b.den:=Int.mul_pos zA zA
 have p6:op=4->xG b y*a.den≠0:=fun h hh=>by
  rcases Int.mul_eq_zero.1 hh with hh|hh
  ·exact h0 h hh
  ·omega
 unfold cN cD
 generalize xG a x*b.den=q1 at*
 generalize xG b y*a.den=q2 at*
 generalize xG a x*xG b y=q3 at*
 generalize a.den*b.den=q4 at*
 rcases(show op=1\/op=2\/op=3\/op=4 by omega)with rfl|rfl|rfl|rfl<;>simp<;>(try split)<;>(try have:=p6 rfl)<;>omega
theorem sH (op:Int)(a:Ft)(x:Int)(b:Ft)(y:Int)(t:Ft)(ho1:1<=op)(ho2:op<=4):
  CallOk HT 233 [I op,va a x,va b y,fx t] [] (.tup [.agg (co (oT op a x b y t) (oRs op a x b y t)),Wi (vA op a x b y t)]) []:=by
 refine kO 100 func233 T2 ntmps233 (by simp[ClV,V.g,Cv.g,va,fx,ci]) fun C hR=>?_
 refine vv ?_
 refine CallQ.pure 106 (ql a x) rfl ?_
 cases h1:(fok a&&uc a x)with
 |false=>
  have e:vA op a x b y t=1:=by simp[vA,h1]
  unfold oT oRs at hR
  rw[e]at hR
  refine vv ?_
  refine CallQ.guard 106 (fun hh=>by cases hh) (fun hh=>by cases hh) (xs:=[]) (v:=Bo true) (vv ?_)
  refine CallQ.guard 106 (fun hh=>by cases hh) (fun hh=>by cases hh) (xs:=[]) (v:=Bo true) (vv ?_)
  exact RetQ.pure hR rfl (vv trivial) xz (zG rfl)
 |true=>
  refine vv ?_
  refine CallQ.pure 106 (ql b y) rfl ?_
  cases h2:(fok b&&uc b y)with
  |false=>
   have e:vA op a x b y t=1:=by simp[vA,h1,h2]
   unfold oT oRs at hR
   rw[e]at hR
   refine vv ?_
   refine CallQ.guard 106 (fun hh=>by cases hh) (fun hh=>by cases hh) (xs:=[]) (v:=Bo true) (vv ?_)
   exact RetQ.pure hR rfl (vv trivial) xz (zG rfl)
  |true=>
   refine vv ?_
   refine CallQ.pure 106 (td t) rfl ?_
   cases h3:fok t with
   |false=>
    have e:vA op a x b y t=1:=by simp[vA,h1,h2,h3]
    unfold oT oRs at hR
    rw[e]at hR
    refine vv ?_
    exact RetQ.pure hR rfl (vv trivial) xz (zG rfl)
   |true=>
    simp only[JB]at h1 h2
    refine vv ?_
    refine CallQ.pure 106 (UI op a b t (ry h1.1) (ry h2.1) (ry h3)) rfl ?_
    cases h4:tq op a b t with
    |false=>
     have e:vA op a x b y t=12:=by simp[vA,h1,h2,h3,h4]
     unfold oT oRs at hR
     rw[e]at hR
     refine vv ?_
     exact RetQ.pure hR rfl (vv trivial) xz (zG rfl)
    |true=>
     refine vv ?_
     refine CallQ.pure 106 (vH b y h2.1 h2.2) rfl (vv ?_)
     by_cases h5:op=4/\xG b y=0
     ·have e:vA op a x b y t=10:=by rw[vA,if_neg (by simp[h1,h2,h3]),if_neg (by simp[h4]),if_pos h5]
      unfold oT oRs at hR
      rw[e]at hR
      have e5:(bif op==4 then xG b y==0 else false)=true:=by simp[h5]
      simp only[e5]
      exact RetQ.pure hR rfl (vv trivial) xz (zG rfl)
     ·have e:vA op a x b y t=0:=by simp[vA,h1,h2,h3,h4,h5]
      unfold oT oRs at hR
      rw[e]at hR
      have e5:(bif op==4 then xG b y==0 else false)=false:=by
       rw[JT];split<;>simp_all
      simp only[e5]
      have hb:=cI op h1.1 h1.2 h2.1 h2.2 ho1 ho2 (fun h h'=>h5 ⟨h,h'⟩)
      refine Sm.dg 106 6 zi (vv ?_)
      refine DCallQ.pure 106 (vp op a b x y h1.1 h1.2 h2.1 h2.2 ho1 ho2) rfl (vv ?_)
      refine DCallQ.pure 106 (tB t _ _ h3 zA zA zA zA) rfl (vv ?_)
      exact RetQ.pure hR rfl (vv trivial) xz (zG rfl)
@[go_sem] def Pm (t:Ft):List Cv:=[ci t.bits,.v (.bool t.signed),ci t.num,ci t.off,ci t.den,ci t.m,ci t.kg,ci t.s,ci t.a,ci t.k]
theorem _root_.Go.Proofs.YtbnkiacicnnmkaaGreat.Vg.Sm.cut {P:Program}{nt:Nat}{C:Cx}{todo:List It}{e:Env}{M M0:Mem}(hP:Pins C.S M0)(E:Env)(Mm:Mem)(L:List (Nat×Nat))(h0:Y4 C.S M0 E Mm e M L)(hM:ClM Mm)(hE:∀p∈E,ClV Mm p.2.2)(h:Sm P nt C todo E Mm):Sm P nt C todo e M:=
 cX (Wkn.ren L hP h0.1 h0.2.1 h0.2.2.1 h0.2.2.2 hM hE) h
@[go_sem ↓] theorem MP:rm 2 1=[(0,1),(1,1)]:=rfl
@[go_sem ↓] theorem MN:rm 5 2=[(0,2),(2,2),(4,2),(6,2),(8,2)]:=rfl
def uE (op a1 a2 b1 b2:Int)(ta tb t:Ft):Int:=
 if (op<1\/4<op)\/((fok ta&&(decide (a1<=a2)&&(uc ta a1&&uc ta a2)))&&((fok tb&&(decide (b1<=b2)&&(uc tb b1&&uc tb b2)))&&fok t))=false then 1
 else if tq op ta tb t=false then 12 else if op=4/\xG tb b1<=0/\0<=xG tb b2 then 10 else 0
def bG (op a1 a2 b1 b2:Int)(ta tb t:Ft):Int:=if uE op a1 a2 b1 b2 ta tb t=0 then min (min (min (w8 op ta a1 tb b1 t) (w8 op ta a1 tb b2 t)) (w8 op ta a2 tb b1 t)) (w8 op ta a2 tb b2 t)else 0
def bH (op a1 a2 b1 b2:Int)(ta tb t:Ft):Int:=if uE op a1 a2 b1 b2 ta tb t=0 then max (max (max (w8 op ta a1 tb b1 t) (w8 op ta a1 tb b2 t)) (w8 op ta a2 tb b1 t)) (w8 op ta a2 tb b2 t)else 0
theorem qQ (op:Int)(a:Ft)(x:Int)(b:Ft)(y:Int)(t:Ft)(h:fok t=true):qT t<=w8 op a x b y t/\w8 op a x b y t<=oI t:=by
 have:=pY t h
 unfold w8 gw
 omega
theorem lL {t:Ft}{x y:Int}(h:fok t=true)(hx:x<=y):xG t x<=xG t y:=by
 have:=vY h
 have:=IN hx (show 0<=t.num by omega)
 unfold xG;omega
@[reducible] def MX (op i:Int):Env:=[(101,true,I i),(100,true,I 2),(99,true,.c (.sl 111 0 2 1)),(20,true,.c (.p 110 0)),(0,true,I op),(12,true,.c (.p 105 0)),(11,true,.c (.p 104 0)),(10,true,.c (.p 103 0)),(9,true,.c (.p 102 0)),(8,true,.c (.p 101 0)),(7,true,.c (.p 100 0)),(13,true,I 0)]
@[reducible] def MW (a1 a2 b1 b2:Int)(ta tb t:Ft)(lo hi:Int):Mem:=[(111,⟨false,[ci a1,ci a2],3⟩),(110,⟨false,[ci lo,ci hi],129⟩),(105,⟨false,[ci 0,ci 0],129⟩),(104,⟨false,Pm t,55⟩),(103,⟨false,Pm tb,55⟩),(102,⟨false,Pm ta,55⟩),(101,⟨false,[ci b1,ci b2],129⟩),(100,⟨false,[ci a1,ci a2],129⟩)]
@[reducible] def Md (op i x j:Int):Env:=MX op i++[(22,true,I x),(111,true,I j),(110,true,I 2),(109,true,.c (.sl 112 0 2 1))]
@[reducible] def Mc (a1 a2 b1 b2:Int)(ta tb t:Ft)(lo hi:Int):Mem:=MW a1 a2 b1 b2 ta tb t lo hi++[(112,⟨false,[ci b1,ci b2],3⟩)]
theorem Xr (op a1 a2 b1 b2:Int)(ta tb t:Ft):CallOk HT 279 [I op,rg a1 a2,rg b1 b2,fx ta,fx tb,fx t] [] (.tup [.agg [ci (bG op a1 a2 b1 b2 ta tb t),ci (bH op a1 a2 b1 b2 ta tb t)],Wi (uE op a1 a2 b1 b2 ta tb t)]) []:=by
 refine kO 100 func279 Ui ntmps279 (by simp[ClV,V.g,Cv.g,rg,fx,ci]) fun C hR=>?_
 by_cases ho:op<1\/4<op
 ·have e:uE op a1 a2 b1 b2 ta tb t=1:=by rw[uE,if_pos (.inl ho)]
  unfold bG bH at hR
  rw[e]at hR
  refine vv ?_
  have e1:(bif decide (op<1)then true else decide (4<op))=true:=by simp[JT];omega
  simp only[e1]
  refine CallQ.guard 110 (fun hh=>by cases hh) (fun hh=>by cases hh) (xs:=[]) (v:=Bo true) (vv ?_)
  refine CallQ.guard 110 (fun hh=>by cases hh) (fun hh=>by cases hh) (xs:=[]) (v:=Bo true) (vv ?_)
  refine CallQ.guard 110 (fun hh=>by cases hh) (fun hh=>by cases hh) (xs:=[]) (v:=Bo true) (vv ?_)
  exact RetQ.pure hR rfl (vv trivial) xz (zG rfl)
 ·have e1:(bif decide (op<1)then true else decide (4<op))=false:=by simp[JT];omega
  refine vv ?_
  simp only[e1]
  refine CallQ.pure 110 (nK a1 a2 ta) rfl ?_
  cases h1:(fok ta&&(decide (a1<=a2)&&(uc ta a1&&uc ta a2)))with
  |false=>
   have e:uE op a1 a2 b1 b2 ta tb t=1:=by rw[uE,if_pos (.inr (by rw[h1];rfl))]
   unfold bG bH at hR
   rw[e]at hR
   refine vv ?_
   refine CallQ.guard 110 (fun hh=>by cases hh) (fun hh=>by cases hh) (xs:=[]) (v:=Bo true) (vv ?_)
   refine CallQ.guard 110 (fun hh=>by cases hh) (fun hh=>by cases hh) (xs:=[]) (v:=Bo true) (vv ?_)
   exact RetQ.pure hR rfl (vv trivial) xz (zG rfl)
  |true=>
   refine vv ?_
   refine CallQ.pure 110 (nK b1 b2 tb) rfl ?_
   cases h2:(fok tb&&(decide (b1<=b2)&&(uc tb b1&&uc tb b2)))with
   |false=>
    have e:uE op a1 a2 b1 b2 ta tb t=1:=by rw[uE,if_pos (.inr (by rw[h1,h2];rfl))]
    unfold bG bH at hR
    rw[e]at hR
    refine vv ?_
    refine CallQ.guard 110 (fun hh=>by cases hh) (fun hh=>by cases hh) (xs:=[]) (v:=Bo true) (vv ?_)
    exact RetQ.pure hR rfl (vv trivial) xz (zG rfl)
   |true=>
    refine vv ?_
    refine CallQ.pure 110 (td t) rfl ?_
    cases h3:fok t with
    |false=>
     have e:uE op a1 a2 b1 b2 ta tb t=1:=by rw[uE,if_pos (.inr (by rw[h1,h2,h3];rfl))]
     unfold bG bH at hR
     rw[e]at hR
     refine vv ?_
     exact RetQ.pure hR rfl (vv trivial) xz (zG rfl)
    |true=>
     have g0:¬((op<1\/4<op)\/((fok ta&&(decide (a1<=a2)&&(uc ta a1&&uc ta a2)))&&((fok tb&&(decide (b1<=b2)&&(uc tb b1&&uc tb b2)))&&fok t))=false):=by
      rw[h1,h2,h3];simp;omega
     simp only[JB,decide_eq_true_eq]at h1 h2
     obtain⟨k1,k2,k3,k4⟩:=h1
     obtain⟨l1,l2,l3,l4⟩:=h2
     refine vv ?_
     refine CallQ.pure 110 (UI op ta tb t (ry k1) (ry l1) (ry h3)) rfl ?_
     cases h4:tq op ta tb t with
     |false=>
      have e:uE op a1 a2 b1 b2 ta tb t=12:=by rw[uE,if_neg g0,if_pos h4]
      unfold bG bH at hR
      rw[e]at hR
      refine vv ?_
      exact RetQ.pure hR rfl (vv trivial) xz (zG rfl)
     |true=>
      refine vv ?_
      refine CallQ.pure 110 (vH tb b1 l1 l3) rfl (vv ?_)
      refine CallQ.pure 110 (vH tb b2 l1 l4) rfl (vv ?_)
      by_cases h5:op=4/\xG tb b1<=0/\0<=xG tb b2
      ·have e:uE op a1 a2 b1 b2 ta tb t=10:=by rw[uE,if_neg g0,if_neg (by simp[h4]),if_pos h5]
       unfold bG bH at hR
       rw[e]at hR
       have e5:(bif (bif op==4 then decide (xG tb b1<=0)else false)then decide (0<=xG tb b2)else false)=true:=by simp[h5]
       simp only[e5]
       exact RetQ.pure hR rfl (vv trivial) xz (zG rfl)
      ·have e:uE op a1 a2 b1 b2 ta tb t=0:=by rw[uE,if_neg g0,if_neg (by simp[h4]),if_neg h5]
       unfold bG bH at hR
       rw[e]at hR
       have e5:(bif (bif op==4 then decide (xG tb b1<=0)else false)then decide (0<=xG tb b2)else false)=false:=by
        simp only[JT];split<;>simp_all
       simp only[e5]
       have z1:op=4->xG tb b1≠0:=fun h hh=>by have:=lL l1 l2;omega
       have z2:op=4->xG tb b2≠0:=fun h hh=>by have:=lL l1 l2;omega
       have i11:=qQ op ta a1 tb b1 t h3
       have i12:=qQ op ta a1 tb b2 t h3
       have i21:=qQ op ta a2 tb b1 t h3
       have i22:=qQ op ta a2 tb b2 t h3
       have c11:=cI op k1 k3 l1 l3 zA zA z1
       have c12:=cI op k1 k3 l1 l4 zA zA z2
       have c21:=cI op k1 k4 l1 l3 zA zA z1
       have c22:=cI op k1 k4 l1 l4 zA zA z2
       refine CallQ.pure 110 (dI t h3) rfl (vv ?_)
       refine Sm.cut (Pins.nil rfl hR) (MX op 0) (MW a1 a2 b1 b2 ta tb t (oI t) (qT t)) [(111,111),(110,110),(105,105),(104,104),(103,103),(102,102),(101,101),(100,100)]
        zh (zD rfl) (zO rfl) ?_
       refine zf 3 (zB 120 ?_)
       refine vv ?_
       refine Sm.cut (Pins.nil rfl hR) (Md op 0 a1 0) (Mc a1 a2 b1 b2 ta tb t (oI t) (qT t)) [(111,111),(110,110),(105,105),(104,104),(103,103),(102,102),(101,101),(100,100),(112,120)]
        zh (zD rfl) (zO rfl) ?_
       refine zf 3 (zB 130 ?_)
       refine vv ?_
       refine Sm.dg 130 11 zi (vv ?_)
       refine DCallQ.pure 130 (vp op ta tb a1 b1 k1 k3 l1 l3 zA zA) rfl (vv ?_)
       refine DCallQ.pure 130 (tB t _ _ h3 c11.1.1 c11.1.2 c11.2.1 c11.2.2) rfl ?_
       simp only[<-w8.eq_1]
       refine vv ?_
       refine Sm.dg 140 11 zi (vv ?_)
       refine DCallQ.pure 140 (vp op ta tb a1 b2 k1 k3 l1 l4 zA zA) rfl (vv ?_)
       refine DCallQ.pure 140 (tB t _ _ h3 c12.1.1 c12.1.2 c12.2.1 c12.2.2) rfl ?_
       simp only[<-w8.eq_1]
       refine vv ?_
       refine Sm.cut (Pins.nil rfl hR) (Md op 1 a2 0) (Mc a1 a2 b1 b2 ta tb t (min (min (oI t) (w8 op ta a1 tb b1 t)) (w8 op ta a1 tb b2 t)) (max (max (qT t) (w8 op ta a1 tb b1 t)) (w8 op ta a1 tb b2 t))) [(111,111),(110,110),(105,105),(104,104),(103,103),(102,102),(101,101),(100,100),(112,141)]
        zh (zD rfl) (zO rfl) ?_
       refine zf 3 (zB 130 ?_)
       refine vv ?_
       refine Sm.dg 130 11 zi (vv ?_)
       refine DCallQ.pure 130 (vp op ta tb a2 b1 k1 k4 l1 l3 zA zA) rfl (vv ?_)
       refine DCallQ.pure 130 (tB t _ _ h3 c21.1.1 c21.1.2 c21.2.1 c21.2.2) rfl ?_
       simp only[<-w8.eq_1]
       refine vv ?_
       refine Sm.dg 140 11 zi (vv ?_)
       refine DCallQ.pure 140 (vp op ta tb a2 b2 k1 k4 l1 l4 zA zA) rfl (vv ?_)
       refine DCallQ.pure 140 (tB t _ _ h3 c22.1.1 c22.1.2 c22.2.1 c22.2.2) rfl ?_
       simp only[<-w8.eq_1]
       refine vv ?_
       refine RetQ.pure hR rfl (vv trivial) ?_ (zG rfl)
       refine vv ?_
       rw[if_pos trivial,if_pos trivial,show min (oI t) (w8 op ta a1 tb b1 t)=w8 op ta a1 tb b1 t by omega,show max (qT t) (w8 op ta a1 tb b1 t)=w8 op ta a1 tb b1 t by omega]
def uS (a b:Ft):Bool:=(a.m==b.m)&&((a.kg==b.kg)&&((a.s==b.s)&&((a.a==b.a)&&(a.k==b.k))))
def oP (a:Ft)(x:Int)(b:Ft)(y:Int):Int:=if (fok a&&uc a x)=false\/(fok b&&uc b y)=false then 1 else if uS a b=false then 12 else 0
def lB (a:Ft)(x:Int)(b:Ft)(y:Int):Bool:=if oP a x b y=0 then decide (xG a x*b.den<xG b y*a.den)else false
theorem pZ (a:Ft)(x:Int)(b:Ft)(y:Int):CallOk HT 178 [va a x,va b y] [] (.tup [.c (.v (.bool (lB a x b y))),Wi (oP a x b y)]) []:=by
 refine kO 100 func178 SU ntmps178 (by simp[ClV,V.g,Cv.g,va,fx,ci]) fun C hR=>?_
 refine vv ?_
 refine CallQ.pure 106 (ql a x) rfl ?_
 cases h1:(fok a&&uc a x)with
 |false=>
  have e:oP a x b y=1:=by rw[oP,if_pos (.inl h1)]
  rw[lB,e]at hR
  refine vv ?_
  refine CallQ.guard 106 (fun hh=>by cases hh) (fun hh=>by cases hh) (xs:=[]) (v:=Bo true) (vv ?_)
  exact RetQ.pure hR rfl (vv trivial) xz (zG rfl)
 |true=>
  refine vv ?_
  refine CallQ.pure 106 (ql b y) rfl ?_
  cases h2:(fok b&&uc b y)with
  |false=>
   have e:oP a x b y=1:=by rw[oP,if_pos (.inr h2)]
   rw[lB,e]at hR
   refine vv ?_
   exact RetQ.pure hR rfl (vv trivial) xz (zG rfl)
  |true=>
   refine vv ?_
   simp only[<-uS.eq_1]
   cases h3:uS a b with
   |false=>
    have e:oP a x b y=12:=by rw[oP,if_neg (by rw[h1,h2];simp),if_pos h3]
    rw[lB,e]at hR
    refine vv ?_
    exact RetQ.pure hR rfl (vv trivial) xz (zG rfl)
   |true=>
    have e:oP a x b y=0:=by rw[oP,if_neg (by rw[h1,h2];simp),if_neg (by rw[h3];simp)]
    rw[lB,e,if_pos rfl]at hR
    simp only[JB]at h1 h2
    have n1:=uq h1.1 h1.2
    have n2:=uq h2.1 h2.2
    have hf:=vY h1.1
    have hg:=vY h2.1
    have p1:=wE (a:=xG a x) (b:=b.den) (A:=4503600701112320) (B:=1048576) zA zA zA zA
    have p2:=wE (a:=xG b y) (b:=a.den) (A:=4503600701112320) (B:=1048576) zA zA zA zA
    refine vv ?_
    refine CallQ.pure 106 (vH a x h1.1 h1.2) rfl (vv ?_)
    refine CallQ.pure 106 (vH b y h2.1 h2.2) rfl (vv ?_)
    refine CallQ.pure 106 (iY (xG b y) zA zA) rfl (vv ?_)
    refine CallQ.pure 106 (xB (xG b y) a.den zA zA zA zA) rfl (vv ?_)
    refine CallQ.pure 106 (iY (xG a x) zA zA) rfl (vv ?_)
    refine CallQ.pure 106 (xB (xG a x) b.den zA zA zA zA) rfl (vv ?_)
    refine CallQ.pure 106 (cQ (xG b y*a.den) (xG a x*b.den) zA zA zA zA) rfl (vv ?_)
    refine RetQ.pure hR rfl (vv trivial) ?_ (zG rfl)
    have:(!decide (xG b y*a.den<=xG a x*b.den))=decide (xG a x*b.den<xG b y*a.den):=by
     rw[JP];simp
    rw[this]
def mT (g:Bool)(a:Ft)(b:Ft)(e:Int):Ft:=if e=0 then(bif g then b else a)else z0
def vW (a:Ft)(x:Int)(t:Ft):Int:=if (fok a&&uc a x)=false\/fok t=false then 1 else if uS a t=false then 12 else 0
def gT (a:Ft)(x:Int)(t:Ft):Ft:=if vW a x t=0 then t else z0
def gR (s:Int)(a:Ft)(x:Int)(t:Ft):Int:=if vW a x t=0 then gw t (xG a x*s) a.den else 0
theorem gJ (a:Ft)(x:Int)(t:Ft)(s:Int)(hs:s=1\/s= -1):CallOk HT 232 [va a x,fx t,I s] [] (.tup [.agg (co (gT a x t) (gR s a x t)),Wi (vW a x t)]) []:=by
 refine kO 100 func232 T3 ntmps232 (by simp[ClV,V.g,Cv.g,va,fx,ci]) fun C hR=>?_
 refine vv ?_
 refine CallQ.pure 106 (ql a x) rfl ?_
 cases h1:(fok a&&uc a x)with
 |false=>
  have e:vW a x t=1:=by rw[vW,if_pos (.inl h1)]
  rw[gT,gR,e]at hR
  refine vv ?_
  refine CallQ.guard 106 (fun hh=>by cases hh) (fun hh=>by cases hh) (xs:=[]) (v:=Bo true) (vv ?_)
  exact RetQ.pure hR rfl (vv trivial) xz (zG rfl)
 |true=>
  refine vv ?_
  refine CallQ.pure 106 (td t) rfl ?_
  cases h2:fok t with
  |false=>
   have e:vW a x t=1:=by rw[vW,if_pos (.inr h2)]
   rw[gT,gR,e]at hR
   refine vv ?_
   exact RetQ.pure hR rfl (vv trivial) xz (zG rfl)
  |true=>
   refine vv ?_
   simp only[<-uS.eq_1]
   cases h3:uS a t with
   |false=>
    have e:vW a x t=12:=by rw[vW,if_neg (by rw[h1,h2];simp),if_pos h3]
    rw[gT,gR,e]at hR
    refine vv ?_
    exact RetQ.pure hR rfl (vv trivial) xz (zG rfl)
   |true=>
    have e:vW a x t=0:=by rw[vW,if_neg (by rw[h1,h2];simp),if_neg (by rw[h3];simp)]
    rw[gT,gR,e,if_pos rfl,if_pos rfl]at hR
    simp only[JB]at h1
    have n1:=uq h1.1 h1.2
    have hf:=vY h1.1
    have p1:=wE (a:=xG a x) (b:=s) (A:=4503600701112320) (B:=1) zA zA zA zA
    refine vv ?_
    refine CallQ.pure 106 (vH a x h1.1 h1.2) rfl (vv ?_)
    refine Sm.dg 106 8 zi (vv ?_)
    refine DCallQ.pure 106 (iY (xG a x) zA zA) rfl (vv ?_)
    refine DCallQ.pure 106 (xB (xG a x) s zA zA zA zA) rfl (vv ?_)
    refine DCallQ.pure 106 (iY a.den zA zA) rfl ?_
    simp only[ud]
    refine vv ?_
    refine CallQ.pure 106 (tB t (xG a x*s) a.den h2 zA zA zA zA) rfl (vv ?_)
    exact RetQ.pure hR rfl (vv trivial) xz (zG rfl)
theorem Zz (a:Ft)(x:Int)(t:Ft):CallOk HT 172 [va a x,fx t] [] (.tup [.agg (co (gT a x t) (gR (-1) a x t)),Wi (vW a x t)]) []:=by
 refine kO 100 func172 S0 ntmps172 (by simp[ClV,V.g,Cv.g,va,fx,ci]) fun C hR=>?_
 refine vv ?_
 refine CallQ.pure 106 (gJ a x t (-1) (.inr rfl)) rfl (vv ?_)
 exact RetQ.pure hR rfl (vv trivial) xz (zG rfl)
theorem dm (a:Ft)(x:Int)(t:Ft):CallOk HT 173 [va a x,fx t] [] (.tup [.agg (co (gT a x t) (gR 1 a x t)),Wi (vW a x t)]) []:=by
 refine kO 100 func173 SZ ntmps173 (by simp[ClV,V.g,Cv.g,va,fx,ci]) fun C hR=>?_
 refine vv ?_
 refine CallQ.pure 106 (gJ a x t 1 (.inl rfl)) rfl (vv ?_)
 exact RetQ.pure hR rfl (vv trivial) xz (zG rfl)
@[reducible] def rC (r:Int×Int):List Cv:=[.v (.int .i64 r.1),.v (.int .i64 r.2)]
@[reducible] def rA (r:Int×Int):V:= .agg (rC r)
def kY (m n:Bool):Int×Int:=(bif n then 0 else 1,bif m then 1 else 0)
theorem sw (m n:Bool):CallOk HT 260 [Bo m,Bo n] [] (rA (kY m n)) []:=by
 cases m<;>cases n<;>
 ·refine kN 100 func260 TB ntmps260 fun C hR hP=>?_
  refine vv ?_
  exact yN hR ClM.nil
def xL (r:Int×Int):Bool×Bool:=(!((r.1==0)&&(r.2==0)),bif decide (r.1<=0)then decide (0<=r.2)else false)
theorem gn (r:Int×Int):CallOk HT 257 [rA r] [] (.tup [Y1 (xL r).1,Y1 (xL r).2]) []:=by
 refine kN 100 func257 TD ntmps257 fun C hR hP=>?_
 refine vv ?_
 refine Sm.dg 110 12 zi (vv ?_)
 exact yN hR ClM.nil
def sQ (a b:Int×Int):Int×Int:=(min a.1 b.1,max a.2 b.2)
theorem dV (a b:Int×Int):CallOk HT 210 [rA a,rA b] [] (rA (sQ a b)) []:=by
 refine kN 100 func210 Tq ntmps210 fun C hR hP=>?_
 refine vv ?_
 exact yN hR ClM.nil
def X6 (r:Int×Int)(lo hi:Int):Int×Int:=(min (max r.1 lo) hi,min (max r.2 lo) hi)
theorem pN (r:Int×Int)(lo hi:Int):CallOk HT 255 [rA r,I lo,I hi] [] (rA (X6 r lo hi)) []:=by
 refine kN 100 func255 TE ntmps255 fun C hR hP=>?_
 refine vv ?_
 exact yN hR ClM.nil
theorem VK (t:Ft)(x e:Int):CallOk HT 254 [.agg (co t x),I e] [] (I x) []:=by
 refine kN 100 func254 TF ntmps254 fun C hR hP=>?_
 refine vv ?_
 exact ww hR rfl
theorem im (a b:Int)(ta tb:Ft):CallOk HT 282 [I a,.agg (xT ta),I b,.agg (xT tb)] [] (Bo (lB ta a tb b)) []:=by
 refine kN 100 func282 Uf ntmps282 fun C hR hP=>?_
 refine vv ?_
 refine CallQ.pure 110 (pZ ta a tb b) rfl (vv ?_)
 exact zp hR rfl
theorem cE (x:Int)(a b:Ft):CallOk HT 261 [I x,.c (.p 1 0),.c (.p 2 0)] [(1,⟨true,xT a,55⟩),(2,⟨true,xT b,55⟩)] (I (gR 1 a x b)) []:=by
 refine kN 100 func261 TA ntmps261 fun C hR hP=>?_
 refine vv ?_
 refine CallQ.pure 110 (dm a x b) rfl (vv ?_)
 refine CallQ.pure 110 (VK (gT a x b) (gR 1 a x b) (vW a x b)) rfl (vv ?_)
 exact yN hR (zD rfl)
def oQ (r:Int×Int)(a b:Ft):Int×Int:=(gR 1 a r.1 b,gR 1 a r.2 b)
theorem pg (r:Int×Int)(a b:Ft):CallOk HT 211 [rA r,.agg (xT a),.agg (xT b)] [] (rA (oQ r a b)) []:=by
 refine kN 100 func211 Tp ntmps211 fun C hR hP=>?_
 refine vv ?_
 refine Sm.dg 110 7 zi (vv ?_)
 refine DCallQ.ren [(1,101),(2,102)] 120 (cE r.1 a b) (zD rfl) rfl rfl ?_ rfl (.inr rfl) rfl rfl ?_
 ·exact⟨⟨⟨false,xT a,55⟩,rfl,.inr ⟨rfl,[],rfl⟩⟩,⟨⟨false,xT b,55⟩,rfl,.inr ⟨rfl,[],rfl⟩⟩,trivial⟩
 refine vv ?_
 refine CallQ.ren [(1,101),(2,102)] 130 (cE r.2 a b) (zD rfl) rfl rfl ?_ rfl (.inr rfl) ?_
 ·exact⟨⟨⟨false,xT a,55⟩,rfl,.inr ⟨rfl,[],rfl⟩⟩,⟨⟨false,xT b,55⟩,rfl,.inr ⟨rfl,[],rfl⟩⟩,trivial⟩
 refine vv ?_
 exact yN hR ClM.nil
theorem _root_.Go.Proofs.YtbnkiacicnnmkaaGreat.Vg.Sm.mapIns {P:Program}{nt:Nat}{C Ck:Cx}{rg:Array Oper}{o:Oper}{l:List Oper}{r:List It}{e:Env}{M:Mem}{t tk te:TypeId}{m x y:Operand}{b:Nat}{al:Al}{s:ByteArray}{v:V}{u:Value}(hL:Lf C Ck)(hg:gd rg e o=some true)(hd:o.dst=none)(ho:o.op= .insert t m x y)(ht:jJ P t=some (tk,te))
  (hm:rd e m=some (true,.c (.v (.map (some b))))) (hx:rd e x=some (true,.c (.v (.string s)))) (hy:rd e y=some (true,v)) (hv:∀β,v.g β=u) (hb:MpB Ck.hp b al) (hf:C.w0.heap.size<=b)
  (k:∀Cn,Lf C Cn->(∀b' o,b'≠b->Ck.hp b' o->Cn.hp b' o)->MpB Cn.hp b (uU al s u)->Sm P nt Cn (.ops rg l::r) e M):Sm P nt Ck (.ops rg (o::l)::r) e M:=fun β a w h1 h2 h3 h4=>by
 have hw:Region.wanted o (yielded rg a.tmps)=true:=tV (β:=β) hg (fun j want t y _ _ hy=>h2 β (Agree.refl _ _) t y hy)
 show wpListIn (tj Ck.lp) 0 P rg (xO P Ck.lp Ck.Q r) (o::l) a w
 refine wpListIn_step fun K hK=>?_
 rw[hw]
 simp only[if_true]
 refine yw Ck.lp (tW hg).1 ?_
 obtain⟨es,clk,q1,q2⟩:=hb
 have hbw:=zy h1 q1
 have hnw:=yJ h1 q1
 have em:=wY h2 (Agree.refl _ _) hm
 have ex:=wY h2 (Agree.refl _ _) hx
 have ey:=wY h2 (Agree.refl _ _) hy
 simp only[gv,V.g,Cv.g,cond_true]at em ex
 simp only[gv,cond_true,hv]at ey
 obtain⟨es',clk',hrun,hes⟩:=rk ht hbw q2 s u
 unfold Oper.wp execOp
 simp only[ho,em,ex,ey,Sem.run_bind,hrun,Result.andThen_ok,Sem.run_pure]
 show K _ _
 have hrelC:Rel C.S C.w0 β M w:=hL.rel h1
 -- the world behind,seen from the first view
 have hp:Rel C.S C.w0 β M {w with heap:=w.heap.setIfInBounds b (.map es' clk')}:=hrelC.hset hbw hnw (by intro c el mk hh;cases hh) (fun _=>hf)
 have hLC:Lf C C:=Lf.refl hL.zok
 obtain⟨l1,l2⟩:=hLC.at hp (s:=fun b=>¬Wrt β M b) (fun b hb=>Jg.1 hb)
 have hq:=hp.at hLC (s:=fun b=>¬Wrt β M b) (fun b hb hn=>hn hb) hp.mem (fun n l hl=>(hp.pin n l hl).1)
 have hlt:b<w.heap.size:=(Jz.1 hbw).1
 have hput:∀u,a.put o.dst u=a:=fun u=>by rw[hd];rfl
 rw[hput]
 have:=hK a {w with heap:=w.heap.setIfInBounds b (.map es' clk')} ?_
 ·simpa[hput]using this
 rw[hL.q,hL.lp]
 refine k _ l1 (fun b' o' hne ho'=>⟨yJ h1 ho',?_,?_⟩) ⟨es',clk',⟨hnw,?_,?_⟩,hes⟩ β a _ hq h2 h3 (h4.trans hL.df)
 ·have:=ho'.2.1
  rw[hL.z]at this;exact this
 ·show(w.heap.setIfInBounds b _)[b']?=_
  rw[IU (Ne.symm hne)]
  exact zy h1 ho'
 ·intro hz
  have:=(hL.zok _ hz).2
  omega
 ·show(w.heap.setIfInBounds b _)[b]?=_
  simp[hlt]
def Qh (a b:Int×Int)(ta tb:Ft):Bool:=bif lB ta a.2 tb b.1 then true else lB tb b.2 ta a.1
def Rn (less:Bool)(a b:Int×Int)(ta tb:Ft):Int×Int:=
 bif less then kY (lB ta a.1 tb b.2) (!lB ta a.2 tb b.1)else
 kY (!Qh a b ta tb) (!(bif (bif a.1==a.2 then b.1==b.2 else false)then !Qh a b ta tb else false))
theorem ov (kd:Str)(a b:Int×Int)(ta tb:Ft):CallOk HT 258 [S kd,rA a,rA b,.agg (xT ta),.agg (xT tb)] [] (rA (Rn (kd==[108,101,115,115]) a b ta tb)) []:=by
 refine kN 100 func258 TC ntmps258 fun C hR hP=>?_
 refine vv ?_
 refine zV (fun h1=>?_) (fun h1=>?_)
 ·have h1:(kd==[108,101,115,115])=true:=h1
  rw[h1]at hR
  refine Sm.dg 110 13 zi (vv ?_)
  refine DCallQ.pure 110 (im a.1 b.2 ta tb) rfl (vv ?_)
  refine CallQ.pure 120 (im a.2 b.1 ta tb) rfl (vv ?_)
  refine CallQ.pure 130 (sw (lB ta a.1 tb b.2) (!lB ta a.2 tb b.1)) rfl (vv ?_)
  exact yN hR ClM.nil
 ·have h1:(kd==[108,101,115,115])=false:=h1
  rw[h1]at hR
  refine CallQ.pure 110 (im a.2 b.1 ta tb) rfl (vv ?_)
  refine CallQ.guard 110 (fun _=>im b.2 a.1 tb ta) (fun h=>by rw[h];rfl) (vv ?_)
  refine CallQ.pure 130 (sw (!Qh a b ta tb) (!(bif (bif a.1==a.2 then b.1==b.2 else false)then !Qh a b ta tb else false))) rfl (vv ?_)
  exact yN hR ClM.nil
def gr (k:Nat)(a b:Int×Int):Int×Int:=
 match k with
 |0=>kY (xL a).2 (xL a).1
 |1=>kY (bif (xL a).1 then(xL b).1 else false) (bif (xL a).2 then true else(xL b).2)
 |_=>kY (bif (xL a).1 then true else(xL b).1) (bif (xL a).2 then(xL b).2 else false)
theorem X5 (r:Int×Int):CallOk HT 259 [S [110,111,116],.c (.sl 1 0 1 2)] [(1,⟨true,rC r,129⟩)] (rA (gr 0 r (0,0))) []:=by
 refine kN 100 func259 dt ntmps259 fun C hR hP=>?_
 refine vv ?_
 refine CallQ.pure 130 (gn r) rfl (vv ?_)
 refine CallQ.pure 130 (sw (xL r).2 (xL r).1) rfl (vv ?_)
 exact yN hR (zD rfl)
theorem X4 (r q:Int×Int):CallOk HT 259 [S [97,110,100],.c (.sl 1 0 2 2)] [(1,⟨true,rC r++rC q,129⟩)] (rA (gr 1 r q)) []:=by
 refine kN 100 func259 dt ntmps259 fun C hR hP=>?_
 refine vv ?_
 refine CallQ.pure 130 (gn r) rfl (vv ?_)
 refine CallQ.pure 140 (gn q) rfl (vv ?_)
 refine CallQ.pure 150 (sw (bif (xL r).1 then(xL q).1 else false) (bif (xL r).2 then true else(xL q).2)) rfl (vv ?_)
 exact yN hR (zD rfl)
theorem X3 (r q:Int×Int):CallOk HT 259 [S [111,114],.c (.sl 1 0 2 2)] [(1,⟨true,rC r++rC q,129⟩)] (rA (gr 2 r q)) []:=by
 refine kN 100 func259 dt ntmps259 fun C hR hP=>?_
 refine vv ?_
 refine CallQ.pure 130 (gn r) rfl (vv ?_)
 refine CallQ.pure 140 (gn q) rfl (vv ?_)
 refine CallQ.pure 150 (sw (bif (xL r).1 then true else(xL q).1) (bif (xL r).2 then(xL q).2 else false)) rfl (vv ?_)
 exact yN hR (zD rfl)
def YZ (s:Str):Int:=bif s==[97,100,100]then 1 else bif s==[115,117,98]then 2 else bif s==[109,117,108]then 3 else bif s==[100,105,118]then 4 else 0
def vR (op:Int)(a b:Int×Int)(ta tb t:Ft):Int×Int:=(bG op a.1 a.2 b.1 b.2 ta tb t,bH op a.1 a.2 b.1 b.2 ta tb t)
@[reducible] def rE (r:(Int×Int)×Int):V:= .tup [.agg (rC r.1),Wi r.2]
theorem aQ (kd l:Str)(v:Value)(m:Al):w9 (uU m ⟨l.toArray⟩ v) ⟨kd.toArray⟩=bif kd==l then some v else w9 m ⟨kd.toArray⟩:=by
 rw[tM]
 by_cases h:kd=l
 ·subst h;simp
 ·have h1:(kd==l)=false:=by simpa using h
  rw[h1,cond_false,if_neg (fun hh=>h ?_)]
  have:=congrArg (fun b:ByteArray=>b.data.toList) hh
  simpa using this
theorem vK {H:Hp}(kd:Str)(a b:Int×Int)(ta tb t:Ft):CallH H HT 252 [S kd,rA a,rA b,.agg (xT ta),.agg (xT tb),.agg (xT t)] (rE (vR (YZ kd) a b ta tb t,uE (YZ kd) a.1 a.2 b.1 b.2 ta tb t)):=by
 refine kH func252 TH ntmps252 fun C hR hP hH hL=>?_
 refine zB 100 (vv ?_)
 refine Sm.makeMap hL rfl rfl rfl (fun b0 C1 l1 k1 f1 f1' m1=>?_)
 refine Sm.mapIns (u:=iv 1) l1 rfl rfl rfl rfl rfl rfl rfl (fun _=>rfl) m1 f1 (fun C2 l2 _ m2=>?_)
 refine Sm.mapIns (u:=iv 2) l2 rfl rfl rfl rfl rfl rfl rfl (fun _=>rfl) m2 f1 (fun C3 l3 _ m3=>?_)
 refine Sm.mapIns (u:=iv 3) l3 rfl rfl rfl rfl rfl rfl rfl (fun _=>rfl) m3 f1 (fun C4 l4 _ m4=>?_)
 refine Sm.mapIns (u:=iv 4) l4 rfl rfl rfl rfl rfl rfl rfl (fun _=>rfl) m4 f1 (fun C5 l5 _ m5=>?_)
 refine zB 120 (vv ?_)
 refine z4 130 rfl rfl (.inl rfl) (fun _=>StpC.lookup (v:=I (YZ kd)) rfl rfl rfl rfl rfl m5 (fun β=>?_)) ?_
 ·have e0:w9 [] (⟨kd.toArray⟩:ByteArray)=none:=rfl
  show iv (YZ kd)=(w9 (uU (uU (uU (uU [] ⟨([97,100,100]:Str).toArray⟩ (iv 1)) ⟨([115,117,98]:Str).toArray⟩ (iv 2)) ⟨([109,117,108]:Str).toArray⟩ (iv 3)) ⟨([100,105,118]:Str).toArray⟩ (iv 4)) ⟨kd.toArray⟩).getD (iv 0)
  rw[aQ,aQ,aQ,aQ,e0]
  unfold YZ
  by_cases h1:kd=[97,100,100]
  ·subst h1;rfl
  by_cases h2:kd=[115,117,98]
  ·subst h2;rfl
  by_cases h3:kd=[109,117,108]
  ·subst h3;rfl
  by_cases h4:kd=[100,105,118]
  ·subst h4;rfl
  rw[beq_false_of_ne h1,beq_false_of_ne h2,beq_false_of_ne h3,beq_false_of_ne h4];rfl
 refine vv ?_
 refine CallQ.pure 140 (Xr (YZ kd) a.1 a.2 b.1 b.2 ta tb t) rfl (vv ?_)
 exact yN (hR C5 l5) ClM.nil
def ya (r:Int×Int):List Value:=[iv r.1,iv r.2]
def pd (rs:List (Int×Int))(ts:List Ft)(t:Ft)(i:Nat):Int×Int:=oQ (rs.getD i (0,0)) (ts.getD i Xo) t
def Qf (rs:List (Int×Int))(ts:List Ft)(t:Ft):Mem:=[(1,⟨true,[.sl 4 0 rs.length 2],122⟩),(2,⟨true,[.sl 5 0 ts.length 10],23⟩),(3,⟨true,xT t,55⟩),(4,⟨true,zC (rs.map ya),129⟩),(5,⟨true,zC (ts.map xN),55⟩)]
theorem xv (rs:List (Int×Int))(ts:List Ft)(t:Ft)(i:Nat)(h1:i<rs.length)(h2:i<ts.length)(hb:rs.length<=1000)(hb2:ts.length<=1000):CallOk HT 251 [I i,.c (.p 1 0),.c (.p 2 0),.c (.p 3 0)] (Qf rs ts t) (rA (pd rs ts t i)) []:=by
 have hM:ClM (Qf rs ts t):=zD (by unfold Qf;simp only[Kw,iR];rfl)
 have k1:=zW (r:=ya) (k:=2) (fun _=>rfl) rs i h1
 have k2:=zW (r:=xN) (k:=10) (fun _=>rfl) ts i h2
 have z1:=zQ (r:=ya) (k:=2) (fun _=>rfl) rs
 have z2:=zQ (r:=xN) (k:=10) (fun _=>rfl) ts
 have e1:rs.getD i (0,0)=rs[i]:=by simp[Kx,h1]
 have e2:ts.getD i Xo=ts[i]:=by simp[Kx,h2]
 unfold pd
 rw[e1,e2]
 unfold Qf at hM⊢
 refine kN 100 func251 TI ntmps251 fun C hR hP=>?_
 refine vv ?_
 refine Sm.dg 110 9 zi ?_
 simp only[go_sem,k1,k2,z1,z2]
 refine⟨zA,zA,zA,zA,?_⟩
 refine CallQ.pure 120 (pg rs[i] ts[i] t) rfl (vv ?_)
 exact yN hR hM
def Qe (ts:List Ft)(t:Ft):Mem:=[(1,⟨true,[.sl 3 0 ts.length 10],23⟩),(2,⟨true,xT t,55⟩),(3,⟨true,zC (ts.map xN),55⟩)]
theorem gK (ts:List Ft)(t:Ft)(x:Int)(h2:0<ts.length)(hb2:ts.length<=1000):CallOk HT 253 [I x,.c (.p 1 0),.c (.p 2 0)] (Qe ts t) (I (gR (-1) (ts.getD 0 Xo) x t)) []:=by
 have hM:ClM (Qe ts t):=zD (by unfold Qe;simp only[Kw,iR];rfl)
 have k2:=zW (r:=xN) (k:=10) (fun _=>rfl) ts 0 h2
 have z2:=zQ (r:=xN) (k:=10) (fun _=>rfl) ts
 have e2:ts.getD 0 Xo=ts[0]:=by simp[Kx,h2]
 rw[HO,Jb]at k2
 rw[e2]
 unfold Qe at hM⊢
 refine kN 100 func253 TG ntmps253 fun C hR hP=>?_
 refine vv ?_
 refine Sm.dg 110 9 zi ?_
 simp only[go_sem,k2,z2]
 refine⟨zA,zA,?_⟩
 refine DCallQ.pure 120 (Zz ts[0] x t) rfl (vv ?_)
 refine CallQ.pure 130 (VK (gT ts[0] x t) (gR (-1) ts[0] x t) (vW ts[0] x t)) rfl (vv ?_)
 exact yN hR hM
end Go.Proofs.YtbnkiacicnnmkaaGreat.Fx
