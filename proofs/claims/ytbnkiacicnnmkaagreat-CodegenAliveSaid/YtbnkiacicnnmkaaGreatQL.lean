/-  -/
import Derived.Test.YtbnkiacicnnmkaaGreatXD2
open Go.Proofs.Tryz
open Go.Proofs.Tryz renaming prog→KI
set_option linter.unusedSimpArgs false
set_option linter.unusedVariables false
set_option maxRecDepth 100000
set_option maxHeartbeats 4000000
namespace Go.Proofs.YtbnkiacicnnmkaaGreat.Fx
open Vg Tf
def cN (op an ad bn bd:Int):Int:=if op=1 then an*bd+bn*ad else if op=2 then an*bd-bn*ad else if op=3 then an*bn else if bn*ad<0 then-(an*bd)else an*bd
def cD (op an ad bn bd:Int):Int:=if op=1\/op=2\/op=3 then ad*bd else if bn*ad<0 then-(bn*ad)else bn*ad
theorem fU (n d:Int):X6 n d= .agg [cu (pq n),cu (pn n),cu (pq d),cu (pn d)]:=rfl
theorem um (op:Int)(t u:Ft)(x y:Int)(h:fok t=true)(hx:tT t x=true)(hu:fok u=true)(hy:tT u y=true)(ho1:1<=op)(ho2:op<=4):
  CallOk KI 272 [I op,va t x,va u y] [] (X6 (cN op (xS t x) t.den (xS u y) u.den) (cD op (xS t x) t.den (xS u y) u.den)) []:=by
 have hf:=vO h
 have hg:=vO hu
 have ha:=uY h hx
 have hb:=uY hu hy
 have p1:=wB (a:=xS t x) (b:=u.den) (A:=4503600701112320) (B:=1048576) zA zA zA zA
 have p2:=wB (a:=xS u y) (b:=t.den) (A:=4503600701112320) (B:=1048576) zA zA zA zA
 refine kO 100 func272 WD ntmps272 (by simp[ClV,V.g,Cv.g,va,ci]) fun C hR=>?_
 refine vv ?_
 refine CallQ.pure 104 (vh t x h hx) rfl (vv ?_)
 refine CallQ.pure 104 (vh u y hu hy) rfl ?_
 generalize xS t x=an at*
 generalize xS u y=bn at*
 rcases(show op=1\/op=2\/op=3\/op=4 by omega)with rfl|rfl|rfl|rfl
 ·simp only[go_sem]
  refine CallQ.pure 104 (kY an zA zA) rfl (vv ?_)
  refine CallQ.pure 104 (xB an u.den zA zA zA zA) rfl (vv ?_)
  refine CallQ.pure 104 (kY bn zA zA) rfl (vv ?_)
  refine CallQ.pure 104 (xB bn t.den zA zA zA zA) rfl (vv ?_)
  refine CallQ.pure 104 (YC (an*u.den) (bn*t.den)) rfl (vv ?_)
  refine CallQ.pure 104 (kY t.den zA zA) rfl (vv ?_)
  refine CallQ.pure 104 (xB t.den u.den zA zA zA zA) rfl ?_
  simp only[uI]
  refine vv ?_
  exact RetQ.pure hR rfl (vv trivial) wq (zH rfl)
 ·simp only[go_sem]
  refine CallQ.pure 104 (kY an zA zA) rfl (vv ?_)
  refine CallQ.pure 104 (xB an u.den zA zA zA zA) rfl (vv ?_)
  refine CallQ.pure 104 (kY bn zA zA) rfl (vv ?_)
  have e:IntKind.i64.wrap (0-t.den)= -t.den:=by rw[y8 zA zA];omega
  simp only[e]
  refine CallQ.pure 104 (xB bn (-t.den) zA zA zA zA) rfl (vv ?_)
  refine CallQ.pure 104 (YC (an*u.den) (bn* -t.den)) rfl (vv ?_)
  refine CallQ.pure 104 (kY t.den zA zA) rfl (vv ?_)
  refine CallQ.pure 104 (xB t.den u.den zA zA zA zA) rfl ?_
  rw[show an*u.den+bn* -t.den=an*u.den-bn*t.den by rw[LN];omega]
  simp only[uI]
  refine vv ?_
  exact RetQ.pure hR rfl (vv trivial) wq (zH rfl)
 ·simp only[go_sem]
  refine CallQ.pure 104 (kY an zA zA) rfl (vv ?_)
  refine CallQ.pure 104 (xB an bn zA zA zA zA) rfl (vv ?_)
  refine CallQ.pure 104 (kY t.den zA zA) rfl (vv ?_)
  refine CallQ.pure 104 (xB t.den u.den zA zA zA zA) rfl ?_
  simp only[uI]
  refine vv ?_
  exact RetQ.pure hR rfl (vv trivial) wq (zH rfl)
 ·simp only[go_sem]
  refine CallQ.pure 104 (kY an zA zA) rfl (vv ?_)
  refine CallQ.pure 104 (xB an u.den zA zA zA zA) rfl (vv ?_)
  refine CallQ.pure 104 (kY bn zA zA) rfl (vv ?_)
  refine CallQ.pure 104 (xB bn t.den zA zA zA zA) rfl ?_
  simp only[uI]
  refine vv ?_
  refine CallQ.pure 105 (qy (bn*t.den) zA zA) rfl (vv ?_)
  by_cases hn:bn*t.den<0
  ·have e:decide (bn*t.den<0)=true:=by simpa using hn
   simp only[e]
   refine Sm.dg 105 7 zw (vv ?_)
   refine DCallQ.pure 105 (gm (an*u.den)) rfl (vv ?_)
   refine DCallQ.pure 105 (gm (bn*t.den)) rfl ?_
   simp only[uI]
   refine vv ?_
   refine RetQ.pure hR rfl (vv trivial) ?_ (zH rfl)
   refine vv ?_
   simp[cN,cD,hn,fU]
  ·have e:decide (bn*t.den<0)=false:=by simpa using hn
   simp only[e]
   refine RetQ.pure hR rfl (vv trivial) ?_ (zH rfl)
   refine vv ?_
   simp[cN,cD,hn,fU]
theorem pS (lo hi:Int)(t:Ft):CallOk KI 273 [rg lo hi,fx t] [] (Bo (fok t&&(decide (lo<=hi)&&(tT t lo&&tT t hi)))) []:=by
 refine kO 100 func273 WC ntmps273 (by simp[ClV,V.g,Cv.g,fx,rg,ci]) fun C hR=>?_
 refine vv ?_
 refine CallQ.pure 104 (jk t) rfl (vv ?_)
 refine CallQ.pure 104 (sV t) rfl (vv ?_)
 cases h:fok t with
 |false=>
  rw[h]at hR
  refine vv ?_
  refine zu hR rfl
 |true=>
  rw[h]at hR
  refine vv ?_
  refine zu hR ?_
  rw[MD]
  simp only[tT,MK,MY,Ns,decide_eq_true_eq]
  grind
theorem mX (t:Ft)(r:Int):CallOk KI 234 [va t r] [] (Bo (fok t&&tT t r)) []:=by
 refine kO 100 func234 Wb ntmps234 (by simp[ClV,V.g,Cv.g,va,ci]) fun C hR=>?_
 refine vv ?_
 refine CallQ.pure 104 (pS r r t) rfl (vv ?_)
 refine zu hR ?_
 simp
def qf (s:Int)(t u:Ft):Bool:=wI (t.m+s*u.m) (t.kg+s*u.kg) (t.s+s*u.s) (t.a+s*u.a) (t.k+s*u.k)
@[go_sem] def sL (t:Ft):V:= .agg [ci t.m,ci t.kg,ci t.s,ci t.a,ci t.k]
theorem rk {m kg s a k:Int}(h:wI m kg s a k=true):(-9<=m/\m<=9)/\(-9<=kg/\kg<=9)/\(-9<=s/\s<=9)/\(-9<=a/\a<=9)/\(-9<=k/\k<=9):=by
 simpa[wI]using h
theorem cZ (t u:Ft)(s:Int)(hs:s=1\/s= -1)(h:wI t.m t.kg t.s t.a t.k=true)(hu:wI u.m u.kg u.s u.a u.k=true):
  CallOk KI 264 [sL t,sL u,I s] [] (bif qf s t u then .tup [.agg [ci (t.m+s*u.m),ci (t.kg+s*u.kg),ci (t.s+s*u.s),ci (t.a+s*u.a),ci (t.k+s*u.k)],Wi 0]else .tup [.agg [ci 0,ci 0,ci 0,ci 0,ci 0],Wi 2]) []:=by
 have b1:=rk h
 have b2:=rk hu
 have hv:=rj t.m t.kg t.s t.a t.k
 rw[h]at hv
 have hv2:=rj u.m u.kg u.s u.a u.k
 rw[hu]at hv2
 have wr:∀x y:Int, -9<=x->x<=9-> -9<=y->y<=9->IntKind.i64.wrap (x+IntKind.i64.wrap (s*y))=x+s*y:=by
  intro x y h1 h2 h3 h4
  rcases hs with rfl|rfl
  ·rw[y8 (x:=1*y) zA zA,y8 zA zA]
  ·rw[y8 (x:= -1*y) zA zA,y8 zA zA]
 refine kO 100 func264 bU ntmps264 (by simp[ClV,V.g,Cv.g,sL,ci]) fun C hR=>?_
 refine vv ?_
 refine CallQ.pure 104 hv rfl (vv ?_)
 refine CallQ.pure 104 hv2 rfl (vv ?_)
 refine CallQ.mem 104 (v8 100 [ci t.m,ci t.kg,ci t.s,ci t.a,ci t.k] 53 (ClM.v rfl) xW) rfl (Sub.one (b':=⟨false,[ci t.m,ci t.kg,ci t.s,ci t.a,ci t.k],53⟩) rfl (.inr ⟨rfl,[],rfl⟩)) (ClM.v rfl) (vv ?_)
 refine CallQ.mem 104 (v8 101 [ci u.m,ci u.kg,ci u.s,ci u.a,ci u.k] 53 (ClM.v rfl) xW) rfl (Sub.one (b':=⟨false,[ci u.m,ci u.kg,ci u.s,ci u.a,ci u.k],53⟩) rfl (.inr ⟨rfl,[],rfl⟩)) (ClM.v rfl) (vv ?_)
 refine zi 6 (zB 106 ?_)
 refine vv ?_
 have w1:=wr t.m u.m zA zA zA zA
 have w2:=wr t.kg u.kg zA zA zA zA
 have w3:=wr t.s u.s zA zA zA zA
 have w4:=wr t.a u.a zA zA zA zA
 have w5:=wr t.k u.k zA zA zA zA
 refine Sm.dg 106 13 zw (vv ?_)
 simp only[w1]
 refine Sm.dg 106 13 zw (vv ?_)
 simp only[w2]
 refine Sm.dg 106 13 zw (vv ?_)
 simp only[w3]
 refine Sm.dg 106 13 zw (vv ?_)
 simp only[w4]
 refine Sm.dg 106 13 zw (vv ?_)
 simp only[w5]
 have hv3:=rj (t.m+s*u.m) (t.kg+s*u.kg) (t.s+s*u.s) (t.a+s*u.a) (t.k+s*u.k)
 refine CallQ.pure 106 hv3 rfl (vv ?_)
 unfold qf at hR
 cases hc:wI (t.m+s*u.m) (t.kg+s*u.kg) (t.s+s*u.s) (t.a+s*u.a) (t.k+s*u.k)with
 |false=>
  rw[hc]at hR
  refine vv ?_
  exact RetQ.pure hR rfl (vv trivial) wq (zH rfl)
 |true=>
  rw[hc]at hR
  refine vv ?_
  exact RetQ.pure hR rfl (vv trivial) wq (zH rfl)
theorem bP (t u:Ft)(h:wI t.m t.kg t.s t.a t.k=true)(hu:wI u.m u.kg u.s u.a u.k=true):
  CallOk KI 221 [sL t,sL u] [] (bif qf 1 t u then .tup [.agg [ci (t.m+1*u.m),ci (t.kg+1*u.kg),ci (t.s+1*u.s),ci (t.a+1*u.a),ci (t.k+1*u.k)],Wi 0]else .tup [.agg [ci 0,ci 0,ci 0,ci 0,ci 0],Wi 2]) []:=by
 have hc:=cZ t u 1 (.inl rfl) h hu
 refine kO 100 func221 bZ ntmps221 (by simp[ClV,V.g,Cv.g,sL,ci]) fun C hR=>?_
 refine vv ?_
 refine CallQ.pure 106 hc rfl ?_
 cases h5:qf 1 t u<;>rw[h5]at hR<;>simp only[cond_true,cond_false]at hR⊢
 ·simp only[go_sem]
  exact RetQ.pure hR rfl (vv trivial) wq (zH rfl)
 ·simp only[go_sem]
  exact RetQ.pure hR rfl (vv trivial) wq (zH rfl)
theorem YV (t u:Ft)(h:wI t.m t.kg t.s t.a t.k=true)(hu:wI u.m u.kg u.s u.a u.k=true):
  CallOk KI 222 [sL t,sL u] [] (bif qf (-1) t u then .tup [.agg [ci (t.m+ -1*u.m),ci (t.kg+ -1*u.kg),ci (t.s+ -1*u.s),ci (t.a+ -1*u.a),ci (t.k+ -1*u.k)],Wi 0]else .tup [.agg [ci 0,ci 0,ci 0,ci 0,ci 0],Wi 2]) []:=by
 have hc:=cZ t u (-1) (.inr rfl) h hu
 refine kO 100 func222 bX ntmps222 (by simp[ClV,V.g,Cv.g,sL,ci]) fun C hR=>?_
 refine vv ?_
 refine CallQ.pure 106 hc rfl ?_
 cases h5:qf (-1) t u<;>rw[h5]at hR<;>simp only[cond_true,cond_false]at hR⊢
 ·simp only[go_sem]
  exact RetQ.pure hR rfl (vv trivial) wq (zH rfl)
 ·simp only[go_sem]
  exact RetQ.pure hR rfl (vv trivial) wq (zH rfl)
def og (op:Int)(a b t:Ft):Bool:=
 if op=3 then decide (a.m+b.m=t.m/\a.kg+b.kg=t.kg/\a.s+b.s=t.s/\a.a+b.a=t.a/\a.k+b.k=t.k)
 else if op=4 then decide (a.m-b.m=t.m/\a.kg-b.kg=t.kg/\a.s-b.s=t.s/\a.a-b.a=t.a/\a.k-b.k=t.k)
 else decide ((a.m=t.m/\a.kg=t.kg/\a.s=t.s/\a.a=t.a/\a.k=t.k)/\b.m=t.m/\b.kg=t.kg/\b.s=t.s/\b.a=t.a/\b.k=t.k)
theorem Sh (op:Int)(a b t:Ft)(ha:wI a.m a.kg a.s a.a a.k=true)(hb:wI b.m b.kg b.s b.a b.k=true)(ht:wI t.m t.kg t.s t.a t.k=true):CallOk KI 271 [I op,sL a,sL b,sL t] [] (Bo (og op a b t)) []:=by
 have b3:=rk ht
 refine kO 100 func271 WE ntmps271 (by simp[ClV,V.g,Cv.g,sL,ci]) fun C hR=>?_
 refine vv ?_
 by_cases h3:op=3
 ·subst h3
  refine vv ?_
  refine CallQ.pure 106 (bP a b ha hb) rfl ?_
  cases h5:qf 1 a b<;>simp only[cond_true,cond_false]
  ·simp only[go_sem]
   refine zu hR ?_
   symm
   simp only[og,if_true,decide_eq_false_iff_not]
   rintro⟨q1,q2,q3,q4,q5⟩
   simp only[qf,wI,decide_eq_false_iff_not]at h5
   omega
  ·simp only[go_sem]
   refine zu hR ?_
   rw[MD]
   simp[og]
 ·have e3:(op==3)=false:=by simpa using h3
  simp only[e3]
  by_cases h4:op=4
  ·subst h4
   refine vv ?_
   refine CallQ.pure 106 (YV a b ha hb) rfl ?_
   cases h5:qf (-1) a b<;>simp only[cond_true,cond_false]
   ·simp only[go_sem]
    refine zu hR ?_
    symm
    simp only[og,Int.reduceEq,if_true,if_false,decide_eq_false_iff_not]
    rintro⟨q1,q2,q3,q4,q5⟩
    simp only[qf,wI,decide_eq_false_iff_not]at h5
    omega
   ·simp only[go_sem]
    refine zu hR ?_
    rw[MD]
    simp[og]
    omega
  ·have e4:(op==4)=false:=by simpa using h4
   simp only[e4]
   refine zu hR ?_
   rw[MD]
   simp[og,h3,h4,MK]
@[go_sem] def TH (t:Ft)(r:Int):List Cv:=[ci t.bits,.v (.bool t.signed),ci t.num,ci t.off,ci t.den,ci t.m,ci t.kg,ci t.s,ci t.a,ci t.k,ci r]
def z0:Ft:=⟨0,false,0,0,0,0,0,0,0,0⟩
def wc (op:Int)(a:Ft)(x:Int)(b:Ft)(y:Int)(t:Ft):Int:=jn t (cN op (xS a x) a.den (xS b y) b.den) (cD op (xS a x) a.den (xS b y) b.den)
theorem nU {t:Ft}(h:fok t=true):wI t.m t.kg t.s t.a t.k=true:=by
 simp only[fok,Ns]at h
 exact h.2
theorem dm (op:Int){a:Ft}{x:Int}{b:Ft}{y:Int}(ha:fok a=true)(hx:tT a x=true)(hb:fok b=true)(hy:tT b y=true)(ho1:1<=op)(ho2:op<=4)(h0:op=4->xS b y≠0):
  (-20282419275553370000000000000000<=cN op (xS a x) a.den (xS b y) b.den/\cN op (xS a x) a.den (xS b y) b.den<=20282419275553370000000000000000)/\(1<=cD op (xS a x) a.den (xS b y) b.den/\cD op (xS a x) a.den (xS b y) b.den<=4722367608777000000000):=by
 have hf:=vO ha
 have hg:=vO hb
 have h1:=uY ha hx
 have h2:=uY hb hy
 have p1:=wB (a:=xS a x) (b:=b.den) (A:=4503600701112320) (B:=1048576) zA zA zA zA
 have p2:=wB (a:=xS b y) (b:=a.den) (A:=4503600701112320) (B:=1048576) zA zA zA zA
 have p3:=wB (a:=xS a x) (b:=xS b y) (A:=4503600701112320) (B:=4503600701112320) zA zA zA zA
 have p4:=wB (a:=a.den) (b:=b.den) (A:=1048576) (B:=1048576) zA zA zA zA
 have p5:0<a.den*b.den:=Int.mul_pos zA zA
 have p6:op=4->xS b y*a.den≠0:=fun h hh=>by
  rcases Int.mul_eq_zero.1 hh with hh|hh
  ·exact h0 h hh
  ·omega
 unfold cN cD
 generalize xS a x*b.den=q1 at*
 generalize xS b y*a.den=q2 at*
 generalize xS a x*xS b y=q3 at*
 generalize a.den*b.den=q4 at*
 rcases(show op=1\/op=2\/op=3\/op=4 by omega)with rfl|rfl|rfl|rfl<;>simp<;>(try split)<;>(try have:=p6 rfl)<;>omega
@[go_sem] def Sf (t:Ft):List Cv:=[ci t.bits,.v (.bool t.signed),ci t.num,ci t.off,ci t.den,ci t.m,ci t.kg,ci t.s,ci t.a,ci t.k]
theorem _root_.Go.Proofs.YtbnkiacicnnmkaaGreat.Vg.Sm.cut {P:Program}{nt:Nat}{C:Cx}{todo:List It}{e:Env}{M M0:Mem}(hP:Pins C.S M0)(E:Env)(Mm:Mem)(L:List (Nat×Nat))(h0:aG C.S M0 E Mm e M L)(hM:ClM Mm)(hE:∀p∈E,ClV Mm p.2.2)(h:Sm P nt C todo E Mm):Sm P nt C todo e M:=
 fv (Wkn.ren L hP h0.1 h0.2.1 h0.2.2.1 h0.2.2.2 hM hE) h
@[go_sem ↓] theorem PQ:rB 2 1=[(0,1),(1,1)]:=rfl
@[go_sem ↓] theorem PO:rB 5 2=[(0,2),(2,2),(4,2),(6,2),(8,2)]:=rfl
def vd (op a1 a2 b1 b2:Int)(ta tb t:Ft):Int:=
 if (op<1\/4<op)\/((fok ta&&(decide (a1<=a2)&&(tT ta a1&&tT ta a2)))&&((fok tb&&(decide (b1<=b2)&&(tT tb b1&&tT tb b2)))&&fok t))=false then 1
 else if og op ta tb t=false then 12 else if op=4/\xS tb b1<=0/\0<=xS tb b2 then 10 else 0
def eT (op a1 a2 b1 b2:Int)(ta tb t:Ft):Int:=if vd op a1 a2 b1 b2 ta tb t=0 then min (min (min (wc op ta a1 tb b1 t) (wc op ta a1 tb b2 t)) (wc op ta a2 tb b1 t)) (wc op ta a2 tb b2 t)else 0
def eU (op a1 a2 b1 b2:Int)(ta tb t:Ft):Int:=if vd op a1 a2 b1 b2 ta tb t=0 then max (max (max (wc op ta a1 tb b1 t) (wc op ta a1 tb b2 t)) (wc op ta a2 tb b1 t)) (wc op ta a2 tb b2 t)else 0
theorem rW (op:Int)(a:Ft)(x:Int)(b:Ft)(y:Int)(t:Ft)(h:fok t=true):qh t<=wc op a x b y t/\wc op a x b y t<=pD t:=by
 have:=qK t h
 unfold wc jn
 omega
theorem nW {t:Ft}{x y:Int}(h:fok t=true)(hx:x<=y):xS t x<=xS t y:=by
 have:=vO h
 have:=LH hx (show 0<=t.num by omega)
 unfold xS;omega
@[reducible] def PX (op i:Int):Env:=[(101,true,I i),(100,true,I 2),(99,true,.c (.sl 111 0 2 1)),(20,true,.c (.p 110 0)),(0,true,I op),(12,true,.c (.p 105 0)),(11,true,.c (.p 104 0)),(10,true,.c (.p 103 0)),(9,true,.c (.p 102 0)),(8,true,.c (.p 101 0)),(7,true,.c (.p 100 0)),(13,true,I 0)]
@[reducible] def PW (a1 a2 b1 b2:Int)(ta tb t:Ft)(lo hi:Int):Mem:=[(111,⟨false,[ci a1,ci a2],3⟩),(110,⟨false,[ci lo,ci hi],129⟩),(105,⟨false,[ci 0,ci 0],129⟩),(104,⟨false,Sf t,55⟩),(103,⟨false,Sf tb,55⟩),(102,⟨false,Sf ta,55⟩),(101,⟨false,[ci b1,ci b2],129⟩),(100,⟨false,[ci a1,ci a2],129⟩)]
@[reducible] def P9 (op i x j:Int):Env:=PX op i++[(22,true,I x),(111,true,I j),(110,true,I 2),(109,true,.c (.sl 112 0 2 1))]
@[reducible] def P8 (a1 a2 b1 b2:Int)(ta tb t:Ft)(lo hi:Int):Mem:=PW a1 a2 b1 b2 ta tb t lo hi++[(112,⟨false,[ci b1,ci b2],3⟩)]
theorem Z7 (op a1 a2 b1 b2:Int)(ta tb t:Ft):CallOk KI 279 [I op,rg a1 a2,rg b1 b2,fx ta,fx tb,fx t] [] (.tup [.agg [ci (eT op a1 a2 b1 b2 ta tb t),ci (eU op a1 a2 b1 b2 ta tb t)],Wi (vd op a1 a2 b1 b2 ta tb t)]) []:=by
 refine kO 100 func279 Xw ntmps279 (by simp[ClV,V.g,Cv.g,rg,fx,ci]) fun C hR=>?_
 by_cases ho:op<1\/4<op
 ·have e:vd op a1 a2 b1 b2 ta tb t=1:=by rw[vd,if_pos (.inl ho)]
  unfold eT eU at hR
  rw[e]at hR
  refine vv ?_
  have e1:(bif decide (op<1)then true else decide (4<op))=true:=by simp[MK];omega
  simp only[e1]
  refine CallQ.guard 110 (fun hh=>by cases hh) (fun hh=>by cases hh) (xs:=[]) (v:=Bo true) (vv ?_)
  refine CallQ.guard 110 (fun hh=>by cases hh) (fun hh=>by cases hh) (xs:=[]) (v:=Bo true) (vv ?_)
  refine CallQ.guard 110 (fun hh=>by cases hh) (fun hh=>by cases hh) (xs:=[]) (v:=Bo true) (vv ?_)
  exact RetQ.pure hR rfl (vv trivial) wq (zH rfl)
 ·have e1:(bif decide (op<1)then true else decide (4<op))=false:=by simp[MK];omega
  refine vv ?_
  simp only[e1]
  refine CallQ.pure 110 (pS a1 a2 ta) rfl ?_
  cases h1:(fok ta&&(decide (a1<=a2)&&(tT ta a1&&tT ta a2)))with
  |false=>
   have e:vd op a1 a2 b1 b2 ta tb t=1:=by rw[vd,if_pos (.inr (by rw[h1];rfl))]
   unfold eT eU at hR
   rw[e]at hR
   refine vv ?_
   refine CallQ.guard 110 (fun hh=>by cases hh) (fun hh=>by cases hh) (xs:=[]) (v:=Bo true) (vv ?_)
   refine CallQ.guard 110 (fun hh=>by cases hh) (fun hh=>by cases hh) (xs:=[]) (v:=Bo true) (vv ?_)
   exact RetQ.pure hR rfl (vv trivial) wq (zH rfl)
  |true=>
   refine vv ?_
   refine CallQ.pure 110 (pS b1 b2 tb) rfl ?_
   cases h2:(fok tb&&(decide (b1<=b2)&&(tT tb b1&&tT tb b2)))with
   |false=>
    have e:vd op a1 a2 b1 b2 ta tb t=1:=by rw[vd,if_pos (.inr (by rw[h1,h2];rfl))]
    unfold eT eU at hR
    rw[e]at hR
    refine vv ?_
    refine CallQ.guard 110 (fun hh=>by cases hh) (fun hh=>by cases hh) (xs:=[]) (v:=Bo true) (vv ?_)
    exact RetQ.pure hR rfl (vv trivial) wq (zH rfl)
   |true=>
    refine vv ?_
    refine CallQ.pure 110 (sV t) rfl ?_
    cases h3:fok t with
    |false=>
     have e:vd op a1 a2 b1 b2 ta tb t=1:=by rw[vd,if_pos (.inr (by rw[h1,h2,h3];rfl))]
     unfold eT eU at hR
     rw[e]at hR
     refine vv ?_
     exact RetQ.pure hR rfl (vv trivial) wq (zH rfl)
    |true=>
     have g0:¬((op<1\/4<op)\/((fok ta&&(decide (a1<=a2)&&(tT ta a1&&tT ta a2)))&&((fok tb&&(decide (b1<=b2)&&(tT tb b1&&tT tb b2)))&&fok t))=false):=by
      rw[h1,h2,h3];simp;omega
     simp only[Ns,decide_eq_true_eq]at h1 h2
     obtain⟨k1,k2,k3,k4⟩:=h1
     obtain⟨l1,l2,l3,l4⟩:=h2
     refine vv ?_
     refine CallQ.pure 110 (Sh op ta tb t (nU k1) (nU l1) (nU h3)) rfl ?_
     cases h4:og op ta tb t with
     |false=>
      have e:vd op a1 a2 b1 b2 ta tb t=12:=by rw[vd,if_neg g0,if_pos h4]
      unfold eT eU at hR
      rw[e]at hR
      refine vv ?_
      exact RetQ.pure hR rfl (vv trivial) wq (zH rfl)
     |true=>
      refine vv ?_
      refine CallQ.pure 110 (vh tb b1 l1 l3) rfl (vv ?_)
      refine CallQ.pure 110 (vh tb b2 l1 l4) rfl (vv ?_)
      by_cases h5:op=4/\xS tb b1<=0/\0<=xS tb b2
      ·have e:vd op a1 a2 b1 b2 ta tb t=10:=by rw[vd,if_neg g0,if_neg (by simp[h4]),if_pos h5]
       unfold eT eU at hR
       rw[e]at hR
       have e5:(bif (bif op==4 then decide (xS tb b1<=0)else false)then decide (0<=xS tb b2)else false)=true:=by simp[h5]
       simp only[e5]
       exact RetQ.pure hR rfl (vv trivial) wq (zH rfl)
      ·have e:vd op a1 a2 b1 b2 ta tb t=0:=by rw[vd,if_neg g0,if_neg (by simp[h4]),if_neg h5]
       unfold eT eU at hR
       rw[e]at hR
       have e5:(bif (bif op==4 then decide (xS tb b1<=0)else false)then decide (0<=xS tb b2)else false)=false:=by
        simp only[MK];split<;>simp_all
       simp only[e5]
       have z1:op=4->xS tb b1≠0:=fun h hh=>by have:=nW l1 l2;omega
       have z2:op=4->xS tb b2≠0:=fun h hh=>by have:=nW l1 l2;omega
       have i11:=rW op ta a1 tb b1 t h3
       have i12:=rW op ta a1 tb b2 t h3
       have i21:=rW op ta a2 tb b1 t h3
       have i22:=rW op ta a2 tb b2 t h3
       have c11:=dm op k1 k3 l1 l3 zA zA z1
       have c12:=dm op k1 k3 l1 l4 zA zA z2
       have c21:=dm op k1 k4 l1 l3 zA zA z1
       have c22:=dm op k1 k4 l1 l4 zA zA z2
       refine CallQ.pure 110 (gu t h3) rfl (vv ?_)
       refine Sm.cut (Pins.nil rfl hR) (PX op 0) (PW a1 a2 b1 b2 ta tb t (pD t) (qh t)) [(111,111),(110,110),(105,105),(104,104),(103,103),(102,102),(101,101),(100,100)]
        zk (zD rfl) (zP rfl) ?_
       refine zi 3 (zB 120 ?_)
       refine vv ?_
       refine Sm.cut (Pins.nil rfl hR) (P9 op 0 a1 0) (P8 a1 a2 b1 b2 ta tb t (pD t) (qh t)) [(111,111),(110,110),(105,105),(104,104),(103,103),(102,102),(101,101),(100,100),(112,120)]
        zk (zD rfl) (zP rfl) ?_
       refine zi 3 (zB 130 ?_)
       refine vv ?_
       refine Sm.dg 130 11 zw (vv ?_)
       refine DCallQ.pure 130 (um op ta tb a1 b1 k1 k3 l1 l3 zA zA) rfl (vv ?_)
       refine DCallQ.pure 130 (tZ t _ _ h3 c11.1.1 c11.1.2 c11.2.1 c11.2.2) rfl ?_
       simp only[<-wc.eq_1]
       refine vv ?_
       refine Sm.dg 140 11 zw (vv ?_)
       refine DCallQ.pure 140 (um op ta tb a1 b2 k1 k3 l1 l4 zA zA) rfl (vv ?_)
       refine DCallQ.pure 140 (tZ t _ _ h3 c12.1.1 c12.1.2 c12.2.1 c12.2.2) rfl ?_
       simp only[<-wc.eq_1]
       refine vv ?_
       refine Sm.cut (Pins.nil rfl hR) (P9 op 1 a2 0) (P8 a1 a2 b1 b2 ta tb t (min (min (pD t) (wc op ta a1 tb b1 t)) (wc op ta a1 tb b2 t)) (max (max (qh t) (wc op ta a1 tb b1 t)) (wc op ta a1 tb b2 t))) [(111,111),(110,110),(105,105),(104,104),(103,103),(102,102),(101,101),(100,100),(112,141)]
        zk (zD rfl) (zP rfl) ?_
       refine zi 3 (zB 130 ?_)
       refine vv ?_
       refine Sm.dg 130 11 zw (vv ?_)
       refine DCallQ.pure 130 (um op ta tb a2 b1 k1 k4 l1 l3 zA zA) rfl (vv ?_)
       refine DCallQ.pure 130 (tZ t _ _ h3 c21.1.1 c21.1.2 c21.2.1 c21.2.2) rfl ?_
       simp only[<-wc.eq_1]
       refine vv ?_
       refine Sm.dg 140 11 zw (vv ?_)
       refine DCallQ.pure 140 (um op ta tb a2 b2 k1 k4 l1 l4 zA zA) rfl (vv ?_)
       refine DCallQ.pure 140 (tZ t _ _ h3 c22.1.1 c22.1.2 c22.2.1 c22.2.2) rfl ?_
       simp only[<-wc.eq_1]
       refine vv ?_
       refine RetQ.pure hR rfl (vv trivial) ?_ (zH rfl)
       refine vv ?_
       rw[if_pos trivial,if_pos trivial,show min (pD t) (wc op ta a1 tb b1 t)=wc op ta a1 tb b1 t by omega,show max (qh t) (wc op ta a1 tb b1 t)=wc op ta a1 tb b1 t by omega]
def uS (a b:Ft):Bool:=(a.m==b.m)&&((a.kg==b.kg)&&((a.s==b.s)&&((a.a==b.a)&&(a.k==b.k))))
def qo (a:Ft)(x:Int)(b:Ft)(y:Int):Int:=if (fok a&&tT a x)=false\/(fok b&&tT b y)=false then 1 else if uS a b=false then 12 else 0
def lB (a:Ft)(x:Int)(b:Ft)(y:Int):Bool:=if qo a x b y=0 then decide (xS a x*b.den<xS b y*a.den)else false
theorem Z8 (a:Ft)(x:Int)(b:Ft)(y:Int):CallOk KI 178 [va a x,va b y] [] (.tup [.c (.v (.bool (lB a x b y))),Wi (qo a x b y)]) []:=by
 refine kO 100 func178 VZ ntmps178 (by simp[ClV,V.g,Cv.g,va,fx,ci]) fun C hR=>?_
 refine vv ?_
 refine CallQ.pure 106 (mX a x) rfl ?_
 cases h1:(fok a&&tT a x)with
 |false=>
  have e:qo a x b y=1:=by rw[qo,if_pos (.inl h1)]
  rw[lB,e]at hR
  refine vv ?_
  refine CallQ.guard 106 (fun hh=>by cases hh) (fun hh=>by cases hh) (xs:=[]) (v:=Bo true) (vv ?_)
  exact RetQ.pure hR rfl (vv trivial) wq (zH rfl)
 |true=>
  refine vv ?_
  refine CallQ.pure 106 (mX b y) rfl ?_
  cases h2:(fok b&&tT b y)with
  |false=>
   have e:qo a x b y=1:=by rw[qo,if_pos (.inr h2)]
   rw[lB,e]at hR
   refine vv ?_
   exact RetQ.pure hR rfl (vv trivial) wq (zH rfl)
  |true=>
   refine vv ?_
   simp only[<-uS.eq_1]
   cases h3:uS a b with
   |false=>
    have e:qo a x b y=12:=by rw[qo,if_neg (by rw[h1,h2];simp),if_pos h3]
    rw[lB,e]at hR
    refine vv ?_
    exact RetQ.pure hR rfl (vv trivial) wq (zH rfl)
   |true=>
    have e:qo a x b y=0:=by rw[qo,if_neg (by rw[h1,h2];simp),if_neg (by rw[h3];simp)]
    rw[lB,e,if_pos rfl]at hR
    simp only[Ns]at h1 h2
    have n1:=uY h1.1 h1.2
    have n2:=uY h2.1 h2.2
    have hf:=vO h1.1
    have hg:=vO h2.1
    have p1:=wB (a:=xS a x) (b:=b.den) (A:=4503600701112320) (B:=1048576) zA zA zA zA
    have p2:=wB (a:=xS b y) (b:=a.den) (A:=4503600701112320) (B:=1048576) zA zA zA zA
    refine vv ?_
    refine CallQ.pure 106 (vh a x h1.1 h1.2) rfl (vv ?_)
    refine CallQ.pure 106 (vh b y h2.1 h2.2) rfl (vv ?_)
    refine CallQ.pure 106 (kY (xS b y) zA zA) rfl (vv ?_)
    refine CallQ.pure 106 (xB (xS b y) a.den zA zA zA zA) rfl (vv ?_)
    refine CallQ.pure 106 (kY (xS a x) zA zA) rfl (vv ?_)
    refine CallQ.pure 106 (xB (xS a x) b.den zA zA zA zA) rfl (vv ?_)
    refine CallQ.pure 106 (fo (xS b y*a.den) (xS a x*b.den) zA zA zA zA) rfl (vv ?_)
    refine RetQ.pure hR rfl (vv trivial) ?_ (zH rfl)
    have:(!decide (xS b y*a.den<=xS a x*b.den))=decide (xS a x*b.den<xS b y*a.den):=by
     rw[MD];simp
    rw[this]
def mT (g:Bool)(a:Ft)(b:Ft)(e:Int):Ft:=if e=0 then(bif g then b else a)else z0
def uX (a:Ft)(x:Int)(t:Ft):Int:=if (fok a&&tT a x)=false\/fok t=false then 1 else if uS a t=false then 12 else 0
def gT (a:Ft)(x:Int)(t:Ft):Ft:=if uX a x t=0 then t else z0
def gR (s:Int)(a:Ft)(x:Int)(t:Ft):Int:=if uX a x t=0 then jn t (xS a x*s) a.den else 0
theorem jK (a:Ft)(x:Int)(t:Ft)(s:Int)(hs:s=1\/s= -1):CallOk KI 232 [va a x,fx t,I s] [] (.tup [.agg (TH (gT a x t) (gR s a x t)),Wi (uX a x t)]) []:=by
 refine kO 100 func232 Wc ntmps232 (by simp[ClV,V.g,Cv.g,va,fx,ci]) fun C hR=>?_
 refine vv ?_
 refine CallQ.pure 106 (mX a x) rfl ?_
 cases h1:(fok a&&tT a x)with
 |false=>
  have e:uX a x t=1:=by rw[uX,if_pos (.inl h1)]
  rw[gT,gR,e]at hR
  refine vv ?_
  refine CallQ.guard 106 (fun hh=>by cases hh) (fun hh=>by cases hh) (xs:=[]) (v:=Bo true) (vv ?_)
  exact RetQ.pure hR rfl (vv trivial) wq (zH rfl)
 |true=>
  refine vv ?_
  refine CallQ.pure 106 (sV t) rfl ?_
  cases h2:fok t with
  |false=>
   have e:uX a x t=1:=by rw[uX,if_pos (.inr h2)]
   rw[gT,gR,e]at hR
   refine vv ?_
   exact RetQ.pure hR rfl (vv trivial) wq (zH rfl)
  |true=>
   refine vv ?_
   simp only[<-uS.eq_1]
   cases h3:uS a t with
   |false=>
    have e:uX a x t=12:=by rw[uX,if_neg (by rw[h1,h2];simp),if_pos h3]
    rw[gT,gR,e]at hR
    refine vv ?_
    exact RetQ.pure hR rfl (vv trivial) wq (zH rfl)
   |true=>
    have e:uX a x t=0:=by rw[uX,if_neg (by rw[h1,h2];simp),if_neg (by rw[h3];simp)]
    rw[gT,gR,e,if_pos rfl,if_pos rfl]at hR
    simp only[Ns]at h1
    have n1:=uY h1.1 h1.2
    have hf:=vO h1.1
    have p1:=wB (a:=xS a x) (b:=s) (A:=4503600701112320) (B:=1) zA zA zA zA
    refine vv ?_
    refine CallQ.pure 106 (vh a x h1.1 h1.2) rfl (vv ?_)
    refine Sm.dg 106 8 zw (vv ?_)
    refine DCallQ.pure 106 (kY (xS a x) zA zA) rfl (vv ?_)
    refine DCallQ.pure 106 (xB (xS a x) s zA zA zA zA) rfl (vv ?_)
    refine DCallQ.pure 106 (kY a.den zA zA) rfl ?_
    simp only[uI]
    refine vv ?_
    refine CallQ.pure 106 (tZ t (xS a x*s) a.den h2 zA zA zA zA) rfl (vv ?_)
    exact RetQ.pure hR rfl (vv trivial) wq (zH rfl)
theorem XZ (a:Ft)(x:Int)(t:Ft):CallOk KI 172 [va a x,fx t] [] (.tup [.agg (TH (gT a x t) (gR (-1) a x t)),Wi (uX a x t)]) []:=by
 refine kO 100 func172 V1 ntmps172 (by simp[ClV,V.g,Cv.g,va,fx,ci]) fun C hR=>?_
 refine vv ?_
 refine CallQ.pure 106 (jK a x t (-1) (.inr rfl)) rfl (vv ?_)
 exact RetQ.pure hR rfl (vv trivial) wq (zH rfl)
theorem Zc (a:Ft)(x:Int)(t:Ft):CallOk KI 173 [va a x,fx t] [] (.tup [.agg (TH (gT a x t) (gR 1 a x t)),Wi (uX a x t)]) []:=by
 refine kO 100 func173 V0 ntmps173 (by simp[ClV,V.g,Cv.g,va,fx,ci]) fun C hR=>?_
 refine vv ?_
 refine CallQ.pure 106 (jK a x t 1 (.inl rfl)) rfl (vv ?_)
 exact RetQ.pure hR rfl (vv trivial) wq (zH rfl)
@[reducible] def rC (r:Int×Int):List Cv:=[.v (.int .i64 r.1),.v (.int .i64 r.2)]
@[reducible] def rA (r:Int×Int):V:= .agg (rC r)
def mZ (m n:Bool):Int×Int:=(bif n then 0 else 1,bif m then 1 else 0)
theorem sO (m n:Bool):CallOk KI 260 [Bo m,Bo n] [] (rA (mZ m n)) []:=by
 cases m<;>cases n<;>
 ·refine kN 100 func260 WO ntmps260 fun C hR hP=>?_
  refine vv ?_
  exact yM hR ClM.nil
def xJ (r:Int×Int):Bool×Bool:=(!((r.1==0)&&(r.2==0)),bif decide (r.1<=0)then decide (0<=r.2)else false)
theorem jg (r:Int×Int):CallOk KI 257 [rA r] [] (.tup [aD (xJ r).1,aD (xJ r).2]) []:=by
 refine kN 100 func257 WQ ntmps257 fun C hR hP=>?_
 refine vv ?_
 refine Sm.dg 110 12 zw (vv ?_)
 exact yM hR ClM.nil
def tf (a b:Int×Int):Int×Int:=(min a.1 b.1,max a.2 b.2)
theorem fJ (a b:Int×Int):CallOk KI 210 [rA a,rA b] [] (rA (tf a b)) []:=by
 refine kN 100 func210 Wz ntmps210 fun C hR hP=>?_
 refine vv ?_
 exact yM hR ClM.nil
def ZQ (r:Int×Int)(lo hi:Int):Int×Int:=(min (max r.1 lo) hi,min (max r.2 lo) hi)
theorem qE (r:Int×Int)(lo hi:Int):CallOk KI 255 [rA r,I lo,I hi] [] (rA (ZQ r lo hi)) []:=by
 refine kN 100 func255 WR ntmps255 fun C hR hP=>?_
 refine vv ?_
 exact yM hR ClM.nil
theorem Ye (t:Ft)(x e:Int):CallOk KI 254 [.agg (TH t x),I e] [] (I x) []:=by
 refine kN 100 func254 WS ntmps254 fun C hR hP=>?_
 refine vv ?_
 exact vK hR rfl
theorem km (a b:Int)(ta tb:Ft):CallOk KI 282 [I a,.agg (xR ta),I b,.agg (xR tb)] [] (Bo (lB ta a tb b)) []:=by
 refine kN 100 func282 Xt ntmps282 fun C hR hP=>?_
 refine vv ?_
 refine CallQ.pure 110 (Z8 ta a tb b) rfl (vv ?_)
 exact zu hR rfl
theorem fe (x:Int)(a b:Ft):CallOk KI 261 [I x,.c (.p 1 0),.c (.p 2 0)] [(1,⟨true,xR a,55⟩),(2,⟨true,xR b,55⟩)] (I (gR 1 a x b)) []:=by
 refine kN 100 func261 WN ntmps261 fun C hR hP=>?_
 refine vv ?_
 refine CallQ.pure 110 (Zc a x b) rfl (vv ?_)
 refine CallQ.pure 110 (Ye (gT a x b) (gR 1 a x b) (uX a x b)) rfl (vv ?_)
 exact yM hR (zD rfl)
def qp (r:Int×Int)(a b:Ft):Int×Int:=(gR 1 a r.1 b,gR 1 a r.2 b)
theorem qP (r:Int×Int)(a b:Ft):CallOk KI 211 [rA r,.agg (xR a),.agg (xR b)] [] (rA (qp r a b)) []:=by
 refine kN 100 func211 Wy ntmps211 fun C hR hP=>?_
 refine vv ?_
 refine Sm.dg 110 7 zw (vv ?_)
 refine DCallQ.ren [(1,101),(2,102)] 120 (fe r.1 a b) (zD rfl) rfl rfl ?_ rfl (.inr rfl) rfl rfl ?_
 ·exact⟨⟨⟨false,xR a,55⟩,rfl,.inr ⟨rfl,[],rfl⟩⟩,⟨⟨false,xR b,55⟩,rfl,.inr ⟨rfl,[],rfl⟩⟩,trivial⟩
 refine vv ?_
 refine CallQ.ren [(1,101),(2,102)] 130 (fe r.2 a b) (zD rfl) rfl rfl ?_ rfl (.inr rfl) ?_
 ·exact⟨⟨⟨false,xR a,55⟩,rfl,.inr ⟨rfl,[],rfl⟩⟩,⟨⟨false,xR b,55⟩,rfl,.inr ⟨rfl,[],rfl⟩⟩,trivial⟩
 refine vv ?_
 exact yM hR ClM.nil
theorem _root_.Go.Proofs.YtbnkiacicnnmkaaGreat.Vg.Sm.mapIns {P:Program}{nt:Nat}{C Ck:Cx}{rg:Array Oper}{o:Oper}{l:List Oper}{r:List It}{e:Env}{M:Mem}{t tk te:TypeId}{m x y:Operand}{b:Nat}{al:Al}{s:ByteArray}{v:V}{u:Value}(hL:Lf C Ck)(hg:gd rg e o=some true)(hd:o.dst=none)(ho:o.op= .insert t m x y)(ht:mr P t=some (tk,te))
  (hm:rd e m=some (true,.c (.v (.map (some b))))) (hx:rd e x=some (true,.c (.v (.string s)))) (hy:rd e y=some (true,v)) (hv:∀β,v.g β=u) (hb:MpB Ck.hp b al) (hf:C.w0.heap.size<=b)
  (k:∀Cn,Lf C Cn->(∀b' o,b'≠b->Ck.hp b' o->Cn.hp b' o)->MpB Cn.hp b (vq al s u)->Sm P nt Cn (.ops rg l::r) e M):Sm P nt Ck (.ops rg (o::l)::r) e M:=fun β a w h1 h2 h3 h4=>by
 have hw:Region.wanted o (yielded rg a.tmps)=true:=tD (β:=β) hg (fun j want t y _ _ hy=>h2 β (zG _ _) t y hy)
 show wpListIn (tU Ck.lp) 0 P rg (xK P Ck.lp Ck.Q r) (o::l) a w
 refine wpListIn_step fun K hK=>?_
 rw[hw]
 simp only[if_true]
 refine yw Ck.lp (tE hg).1 ?_
 obtain⟨es,clk,q1,q2⟩:=hb
 have hbw:=zy h1 q1
 have hnw:=yL h1 q1
 have em:=wR h2 (zG _ _) hm
 have ex:=wR h2 (zG _ _) hx
 have ey:=wR h2 (zG _ _) hy
 simp only[gv,V.g,Cv.g,cond_true]at em ex
 simp only[gv,cond_true,hv]at ey
 obtain⟨es',clk',hrun,hes⟩:=su ht hbw q2 s u
 unfold Oper.wp execOp
 simp only[ho,em,ex,ey,Sem.run_bind,hrun,Result.andThen_ok,Sem.run_pure]
 show K _ _
 have hrelC:Rel C.S C.w0 β M w:=hL.rel h1
 -- the world behind,seen from the first view
 have hp:Rel C.S C.w0 β M {w with heap:=w.heap.setIfInBounds b (.map es' clk')}:=hrelC.hset hbw hnw (by intro c el mk hh;cases hh) (fun _=>hf)
 have hLC:Lf C C:=sF hL.zok
 obtain⟨l1,l2⟩:=hLC.at hp (s:=fun b=>¬Wrt β M b) (fun b hb=>M6.1 hb)
 have hq:=hp.at hLC (s:=fun b=>¬Wrt β M b) (fun b hb hn=>hn hb) hp.mem (fun n l hl=>(hp.pin n l hl).1)
 have hlt:b<w.heap.size:=(Mt.1 hbw).1
 have hput:∀u,a.put o.dst u=a:=fun u=>by rw[hd];rfl
 rw[hput]
 have:=hK a {w with heap:=w.heap.setIfInBounds b (.map es' clk')} ?_
 ·simpa[hput]using this
 rw[hL.q,hL.lp]
 refine k _ l1 (fun b' o' hne ho'=>⟨yL h1 ho',?_,?_⟩) ⟨es',clk',⟨hnw,?_,?_⟩,hes⟩ β a _ hq h2 h3 (h4.trans hL.df)
 ·have:=ho'.2.1
  rw[hL.z]at this;exact this
 ·show(w.heap.setIfInBounds b _)[b']?=_
  rw[LR (Ne.symm hne)]
  exact zy h1 ho'
 ·intro hz
  have:=(hL.zok _ hz).2
  omega
 ·show(w.heap.setIfInBounds b _)[b]?=_
  simp[hlt]
def T8 (a b:Int×Int)(ta tb:Ft):Bool:=bif lB ta a.2 tb b.1 then true else lB tb b.2 ta a.1
def Ue (less:Bool)(a b:Int×Int)(ta tb:Ft):Int×Int:=
 bif less then mZ (lB ta a.1 tb b.2) (!lB ta a.2 tb b.1)else
 mZ (!T8 a b ta tb) (!(bif (bif a.1==a.2 then b.1==b.2 else false)then !T8 a b ta tb else false))
theorem pG (kd:Str)(a b:Int×Int)(ta tb:Ft):CallOk KI 258 [S kd,rA a,rA b,.agg (xR ta),.agg (xR tb)] [] (rA (Ue (kd==[108,101,115,115]) a b ta tb)) []:=by
 refine kN 100 func258 WP ntmps258 fun C hR hP=>?_
 refine vv ?_
 refine zY (fun h1=>?_) (fun h1=>?_)
 ·have h1:(kd==[108,101,115,115])=true:=h1
  rw[h1]at hR
  refine Sm.dg 110 13 zw (vv ?_)
  refine DCallQ.pure 110 (km a.1 b.2 ta tb) rfl (vv ?_)
  refine CallQ.pure 120 (km a.2 b.1 ta tb) rfl (vv ?_)
  refine CallQ.pure 130 (sO (lB ta a.1 tb b.2) (!lB ta a.2 tb b.1)) rfl (vv ?_)
  exact yM hR ClM.nil
 ·have h1:(kd==[108,101,115,115])=false:=h1
  rw[h1]at hR
  refine CallQ.pure 110 (km a.2 b.1 ta tb) rfl (vv ?_)
  refine CallQ.guard 110 (fun _=>km b.2 a.1 tb ta) (fun h=>by rw[h];rfl) (vv ?_)
  refine CallQ.pure 130 (sO (!T8 a b ta tb) (!(bif (bif a.1==a.2 then b.1==b.2 else false)then !T8 a b ta tb else false))) rfl (vv ?_)
  exact yM hR ClM.nil
def jj (k:Nat)(a b:Int×Int):Int×Int:=
 match k with
 |0=>mZ (xJ a).2 (xJ a).1
 |1=>mZ (bif (xJ a).1 then(xJ b).1 else false) (bif (xJ a).2 then true else(xJ b).2)
 |_=>mZ (bif (xJ a).1 then true else(xJ b).1) (bif (xJ a).2 then(xJ b).2 else false)
theorem ZP (r:Int×Int):CallOk KI 259 [S [110,111,116],.c (.sl 1 0 1 2)] [(1,⟨true,rC r,129⟩)] (rA (jj 0 r (0,0))) []:=by
 refine kN 100 func259 fW ntmps259 fun C hR hP=>?_
 refine vv ?_
 refine CallQ.pure 130 (jg r) rfl (vv ?_)
 refine CallQ.pure 130 (sO (xJ r).2 (xJ r).1) rfl (vv ?_)
 exact yM hR (zD rfl)
theorem ZO (r q:Int×Int):CallOk KI 259 [S [97,110,100],.c (.sl 1 0 2 2)] [(1,⟨true,rC r++rC q,129⟩)] (rA (jj 1 r q)) []:=by
 refine kN 100 func259 fW ntmps259 fun C hR hP=>?_
 refine vv ?_
 refine CallQ.pure 130 (jg r) rfl (vv ?_)
 refine CallQ.pure 140 (jg q) rfl (vv ?_)
 refine CallQ.pure 150 (sO (bif (xJ r).1 then(xJ q).1 else false) (bif (xJ r).2 then true else(xJ q).2)) rfl (vv ?_)
 exact yM hR (zD rfl)
theorem ZN (r q:Int×Int):CallOk KI 259 [S [111,114],.c (.sl 1 0 2 2)] [(1,⟨true,rC r++rC q,129⟩)] (rA (jj 2 r q)) []:=by
 refine kN 100 func259 fW ntmps259 fun C hR hP=>?_
 refine vv ?_
 refine CallQ.pure 130 (jg r) rfl (vv ?_)
 refine CallQ.pure 140 (jg q) rfl (vv ?_)
 refine CallQ.pure 150 (sO (bif (xJ r).1 then true else(xJ q).1) (bif (xJ r).2 then(xJ q).2 else false)) rfl (vv ?_)
 exact yM hR (zD rfl)
def aC (s:Str):Int:=bif s==[97,100,100]then 1 else bif s==[115,117,98]then 2 else bif s==[109,117,108]then 3 else bif s==[100,105,118]then 4 else 0
def vR (op:Int)(a b:Int×Int)(ta tb t:Ft):Int×Int:=(eT op a.1 a.2 b.1 b.2 ta tb t,eU op a.1 a.2 b.1 b.2 ta tb t)
@[reducible] def rE (r:(Int×Int)×Int):V:= .tup [.agg (rC r.1),Wi r.2]
theorem aQ (kd l:Str)(v:Value)(m:Al):wV (vq m ⟨l.toArray⟩ v) ⟨kd.toArray⟩=bif kd==l then some v else wV m ⟨kd.toArray⟩:=by
 rw[uq]
 by_cases h:kd=l
 ·subst h;simp
 ·have h1:(kd==l)=false:=by simpa using h
  rw[h1,cond_false,if_neg (fun hh=>h ?_)]
  have:=congrArg (fun b:ByteArray=>b.data.toList) hh
  simpa using this
theorem vE {H:Hp}(kd:Str)(a b:Int×Int)(ta tb t:Ft):CallH H KI 252 [S kd,rA a,rA b,.agg (xR ta),.agg (xR tb),.agg (xR t)] (rE (vR (aC kd) a b ta tb t,vd (aC kd) a.1 a.2 b.1 b.2 ta tb t)):=by
 refine kH func252 WU ntmps252 fun C hR hP hH hL=>?_
 refine zB 100 (vv ?_)
 refine Sm.makeMap hL rfl rfl rfl (fun b0 C1 l1 k1 f1 f1' m1=>?_)
 refine Sm.mapIns (u:=iv 1) l1 rfl rfl rfl rfl rfl rfl rfl (fun _=>rfl) m1 f1 (fun C2 l2 _ m2=>?_)
 refine Sm.mapIns (u:=iv 2) l2 rfl rfl rfl rfl rfl rfl rfl (fun _=>rfl) m2 f1 (fun C3 l3 _ m3=>?_)
 refine Sm.mapIns (u:=iv 3) l3 rfl rfl rfl rfl rfl rfl rfl (fun _=>rfl) m3 f1 (fun C4 l4 _ m4=>?_)
 refine Sm.mapIns (u:=iv 4) l4 rfl rfl rfl rfl rfl rfl rfl (fun _=>rfl) m4 f1 (fun C5 l5 _ m5=>?_)
 refine zB 120 (vv ?_)
 refine z6 130 rfl rfl (.inl rfl) (fun _=>StpC.lookup (v:=I (aC kd)) rfl rfl rfl rfl rfl m5 (fun β=>?_)) ?_
 ·have e0:wV [] (⟨kd.toArray⟩:ByteArray)=none:=rfl
  show iv (aC kd)=(wV (vq (vq (vq (vq [] ⟨([97,100,100]:Str).toArray⟩ (iv 1)) ⟨([115,117,98]:Str).toArray⟩ (iv 2)) ⟨([109,117,108]:Str).toArray⟩ (iv 3)) ⟨([100,105,118]:Str).toArray⟩ (iv 4)) ⟨kd.toArray⟩).getD (iv 0)
  rw[aQ,aQ,aQ,aQ,e0]
  unfold aC
  by_cases h1:kd=[97,100,100]
  ·subst h1;rfl
  by_cases h2:kd=[115,117,98]
  ·subst h2;rfl
  by_cases h3:kd=[109,117,108]
  ·subst h3;rfl
  by_cases h4:kd=[100,105,118]
  ·subst h4;rfl
  rw[beq_false_of_ne h1,beq_false_of_ne h2,beq_false_of_ne h3,beq_false_of_ne h4];rfl
 refine vv ?_
 refine CallQ.pure 140 (Z7 (aC kd) a.1 a.2 b.1 b.2 ta tb t) rfl (vv ?_)
 exact yM (hR C5 l5) ClM.nil
def y9 (r:Int×Int):List Value:=[iv r.1,iv r.2]
def qO (rs:List (Int×Int))(ts:List Ft)(t:Ft)(i:Nat):Int×Int:=qp (rs.getD i (0,0)) (ts.getD i Z4) t
def T7 (rs:List (Int×Int))(ts:List Ft)(t:Ft):Mem:=[(1,⟨true,[.sl 4 0 rs.length 2],122⟩),(2,⟨true,[.sl 5 0 ts.length 10],23⟩),(3,⟨true,xR t,55⟩),(4,⟨true,zC (rs.map y9),129⟩),(5,⟨true,zC (ts.map xD),55⟩)]
theorem xp (rs:List (Int×Int))(ts:List Ft)(t:Ft)(i:Nat)(h1:i<rs.length)(h2:i<ts.length)(hb:rs.length<=1000)(hb2:ts.length<=1000):CallOk KI 251 [I i,.c (.p 1 0),.c (.p 2 0),.c (.p 3 0)] (T7 rs ts t) (rA (qO rs ts t i)) []:=by
 have hM:ClM (T7 rs ts t):=zD (by unfold T7;simp only[Nj,iR];rfl)
 have k1:=zX (r:=y9) (k:=2) (fun _=>rfl) rs i h1
 have k2:=zX (r:=xD) (k:=10) (fun _=>rfl) ts i h2
 have z1:=zS (r:=y9) (k:=2) (fun _=>rfl) rs
 have z2:=zS (r:=xD) (k:=10) (fun _=>rfl) ts
 have e1:rs.getD i (0,0)=rs[i]:=by simp[Nl,h1]
 have e2:ts.getD i Z4=ts[i]:=by simp[Nl,h2]
 unfold qO
 rw[e1,e2]
 unfold T7 at hM⊢
 refine kN 100 func251 WV ntmps251 fun C hR hP=>?_
 refine vv ?_
 refine Sm.dg 110 9 zw ?_
 simp only[go_sem,k1,k2,z1,z2]
 refine⟨zA,zA,zA,zA,?_⟩
 refine CallQ.pure 120 (qP rs[i] ts[i] t) rfl (vv ?_)
 exact yM hR hM
def T6 (ts:List Ft)(t:Ft):Mem:=[(1,⟨true,[.sl 3 0 ts.length 10],23⟩),(2,⟨true,xR t,55⟩),(3,⟨true,zC (ts.map xD),55⟩)]
theorem jL (ts:List Ft)(t:Ft)(x:Int)(h2:0<ts.length)(hb2:ts.length<=1000):CallOk KI 253 [I x,.c (.p 1 0),.c (.p 2 0)] (T6 ts t) (I (gR (-1) (ts.getD 0 Z4) x t)) []:=by
 have hM:ClM (T6 ts t):=zD (by unfold T6;simp only[Nj,iR];rfl)
 have k2:=zX (r:=xD) (k:=10) (fun _=>rfl) ts 0 h2
 have z2:=zS (r:=xD) (k:=10) (fun _=>rfl) ts
 have e2:ts.getD 0 Z4=ts[0]:=by simp[Nl,h2]
 rw[KD,M5]at k2
 rw[e2]
 unfold T6 at hM⊢
 refine kN 100 func253 WT ntmps253 fun C hR hP=>?_
 refine vv ?_
 refine Sm.dg 110 9 zw ?_
 simp only[go_sem,k2,z2]
 refine⟨zA,zA,?_⟩
 refine DCallQ.pure 120 (XZ ts[0] x t) rfl (vv ?_)
 refine CallQ.pure 130 (Ye (gT ts[0] x t) (gR (-1) ts[0] x t) (uX ts[0] x t)) rfl (vv ?_)
 exact yM hR hM
end Go.Proofs.YtbnkiacicnnmkaaGreat.Fx
