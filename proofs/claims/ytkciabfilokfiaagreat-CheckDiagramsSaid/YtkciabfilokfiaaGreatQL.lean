/-  -/
import Derived.Test.YtkciabfilokfiaaGreatXD2
open Go.Proofs.Tryz
open Go.Proofs.Tryz renaming prog→Hf
set_option linter.unusedSimpArgs false
set_option linter.unusedVariables false
set_option maxRecDepth 100000
set_option maxHeartbeats 4000000
namespace Go.Proofs.YtkciabfilokfiaaGreat.Fx
open Vg Tf
def cN (op an ad bn bd:Int):Int:=if op=1 then an*bd+bn*ad else if op=2 then an*bd-bn*ad else if op=3 then an*bn else if bn*ad<0 then-(an*bd)else an*bd
def cD (op an ad bn bd:Int):Int:=if op=1\/op=2\/op=3 then ad*bd else if bn*ad<0 then-(bn*ad)else bn*ad
theorem aU (n d:Int):Uq n d= .agg [cu (lj n),cu (lU n),cu (lj d),cu (lU d)]:=rfl
theorem sb (op:Int)(t u:Ft)(x y:Int)(h:yE t=true)(hx:fin t x=true)(hu:yE u=true)(hy:fin u y=true)(ho1:1<=op)(ho2:op<=4):
  CallOk Hf 257 [I op,va t x,va u y] [] (Uq (cN op (yq t x) t.den (yq u y) u.den) (cD op (yq t x) t.den (yq u y) u.den)) []:=by
 have hf:=xC h
 have hg:=xC hu
 have ha:=xy h hx
 have hb:=xy hu hy
 have p1:=xT (a:=yq t x) (b:=u.den) (A:=4503600701112320) (B:=1048576) zA zA zA zA
 have p2:=xT (a:=yq u y) (b:=t.den) (A:=4503600701112320) (B:=1048576) zA zA zA zA
 refine kO 100 func257 Tp ntmps257 (by simp[ClV,V.g,Cv.g,va,ci]) fun C hR=>?_
 refine vv ?_
 refine CallQ.pure 104 (tS t x h hx) rfl (vv ?_)
 refine CallQ.pure 104 (tS u y hu hy) rfl ?_
 generalize yq t x=an at*
 generalize yq u y=bn at*
 rcases(show op=1\/op=2\/op=3\/op=4 by omega)with rfl|rfl|rfl|rfl
 ·simp only[go_sem]
  refine CallQ.pure 104 (fv an zA zA) rfl (vv ?_)
  refine CallQ.pure 104 (xl an u.den zA zA zA zA) rfl (vv ?_)
  refine CallQ.pure 104 (fv bn zA zA) rfl (vv ?_)
  refine CallQ.pure 104 (xl bn t.den zA zA zA zA) rfl (vv ?_)
  refine CallQ.pure 104 (V1 (an*u.den) (bn*t.den)) rfl (vv ?_)
  refine CallQ.pure 104 (fv t.den zA zA) rfl (vv ?_)
  refine CallQ.pure 104 (xl t.den u.den zA zA zA zA) rfl ?_
  simp only[tz]
  refine vv ?_
  exact RetQ.pure hR rfl (vv trivial) vz (zI rfl)
 ·simp only[go_sem]
  refine CallQ.pure 104 (fv an zA zA) rfl (vv ?_)
  refine CallQ.pure 104 (xl an u.den zA zA zA zA) rfl (vv ?_)
  refine CallQ.pure 104 (fv bn zA zA) rfl (vv ?_)
  have e:IntKind.i64.wrap (0-t.den)= -t.den:=by rw[ya zA zA];omega
  simp only[e]
  refine CallQ.pure 104 (xl bn (-t.den) zA zA zA zA) rfl (vv ?_)
  refine CallQ.pure 104 (V1 (an*u.den) (bn* -t.den)) rfl (vv ?_)
  refine CallQ.pure 104 (fv t.den zA zA) rfl (vv ?_)
  refine CallQ.pure 104 (xl t.den u.den zA zA zA zA) rfl ?_
  rw[show an*u.den+bn* -t.den=an*u.den-bn*t.den by rw[IV];omega]
  simp only[tz]
  refine vv ?_
  exact RetQ.pure hR rfl (vv trivial) vz (zI rfl)
 ·simp only[go_sem]
  refine CallQ.pure 104 (fv an zA zA) rfl (vv ?_)
  refine CallQ.pure 104 (xl an bn zA zA zA zA) rfl (vv ?_)
  refine CallQ.pure 104 (fv t.den zA zA) rfl (vv ?_)
  refine CallQ.pure 104 (xl t.den u.den zA zA zA zA) rfl ?_
  simp only[tz]
  refine vv ?_
  exact RetQ.pure hR rfl (vv trivial) vz (zI rfl)
 ·simp only[go_sem]
  refine CallQ.pure 104 (fv an zA zA) rfl (vv ?_)
  refine CallQ.pure 104 (xl an u.den zA zA zA zA) rfl (vv ?_)
  refine CallQ.pure 104 (fv bn zA zA) rfl (vv ?_)
  refine CallQ.pure 104 (xl bn t.den zA zA zA zA) rfl ?_
  simp only[tz]
  refine vv ?_
  refine CallQ.pure 105 (mL (bn*t.den) zA zA) rfl (vv ?_)
  by_cases hn:bn*t.den<0
  ·have e:decide (bn*t.den<0)=true:=by simpa using hn
   simp only[e]
   refine Sm.dg 105 7 ze (vv ?_)
   refine DCallQ.pure 105 (bb (an*u.den)) rfl (vv ?_)
   refine DCallQ.pure 105 (bb (bn*t.den)) rfl ?_
   simp only[tz]
   refine vv ?_
   refine RetQ.pure hR rfl (vv trivial) ?_ (zI rfl)
   refine vv ?_
   simp[cN,cD,hn,aU]
  ·have e:decide (bn*t.den<0)=false:=by simpa using hn
   simp only[e]
   refine RetQ.pure hR rfl (vv trivial) ?_ (zI rfl)
   refine vv ?_
   simp[cN,cD,hn,aU]
theorem mo (lo hi:Int)(t:Ft):CallOk Hf 253 [rg lo hi,fx t] [] (Bo (yE t&&(decide (lo<=hi)&&(fin t lo&&fin t hi)))) []:=by
 refine kO 100 func253 Tv ntmps253 (by simp[ClV,V.g,Cv.g,fx,rg,ci]) fun C hR=>?_
 refine vv ?_
 refine CallQ.pure 104 (dQ t) rfl (vv ?_)
 refine CallQ.pure 104 (og t) rfl (vv ?_)
 cases h:yE t with
 |false=>
  rw[h]at hR
  refine vv ?_
  refine yL hR rfl
 |true=>
  rw[h]at hR
  refine vv ?_
  refine yL hR ?_
  rw[JQ]
  simp only[fin,IJ,Je,JG,decide_eq_true_eq]
  grind
theorem i9 (t:Ft)(r:Int):CallOk Hf 258 [va t r] [] (Bo (yE t&&fin t r)) []:=by
 refine kO 100 func258 To ntmps258 (by simp[ClV,V.g,Cv.g,va,ci]) fun C hR=>?_
 refine vv ?_
 refine CallQ.pure 104 (mo r r t) rfl (vv ?_)
 refine yL hR ?_
 simp
def rB (s:Int)(t u:Ft):Bool:=vI (t.m+s*u.m) (t.kg+s*u.kg) (t.s+s*u.s) (t.a+s*u.a) (t.k+s*u.k)
@[go_sem] def qV (t:Ft):V:= .agg [ci t.m,ci t.kg,ci t.s,ci t.a,ci t.k]
theorem qU {m kg s a k:Int}(h:vI m kg s a k=true):(-9<=m/\m<=9)/\(-9<=kg/\kg<=9)/\(-9<=s/\s<=9)/\(-9<=a/\a<=9)/\(-9<=k/\k<=9):=by
 simpa[vI]using h
theorem XM (t u:Ft)(s:Int)(hs:s=1\/s= -1)(h:vI t.m t.kg t.s t.a t.k=true)(hu:vI u.m u.kg u.s u.a u.k=true):
  CallOk Hf 237 [qV t,qV u,I s] [] (bif rB s t u then .tup [.agg [ci (t.m+s*u.m),ci (t.kg+s*u.kg),ci (t.s+s*u.s),ci (t.a+s*u.a),ci (t.k+s*u.k)],Wi 0]else .tup [.agg [ci 0,ci 0,ci 0,ci 0,ci 0],Wi 2]) []:=by
 have b1:=qU h
 have b2:=qU hu
 have hv:=oE t.m t.kg t.s t.a t.k
 rw[h]at hv
 have hv2:=oE u.m u.kg u.s u.a u.k
 rw[hu]at hv2
 have wr:∀x y:Int, -9<=x->x<=9-> -9<=y->y<=9->IntKind.i64.wrap (x+IntKind.i64.wrap (s*y))=x+s*y:=by
  intro x y h1 h2 h3 h4
  rcases hs with rfl|rfl
  ·rw[ya (x:=1*y) zA zA,ya zA zA]
  ·rw[ya (x:= -1*y) zA zA,ya zA zA]
 refine kO 100 func237 Xc ntmps237 (by simp[ClV,V.g,Cv.g,qV,ci]) fun C hR=>?_
 refine vv ?_
 refine CallQ.pure 104 hv rfl (vv ?_)
 refine CallQ.pure 104 hv2 rfl (vv ?_)
 refine CallQ.mem 104 (tF 100 [ci t.m,ci t.kg,ci t.s,ci t.a,ci t.k] 41 (ClM.v rfl) yg) rfl (Sub.one (b':=⟨false,[ci t.m,ci t.kg,ci t.s,ci t.a,ci t.k],41⟩) rfl (.inr ⟨rfl,[],rfl⟩)) (ClM.v rfl) (vv ?_)
 refine CallQ.mem 104 (tF 101 [ci u.m,ci u.kg,ci u.s,ci u.a,ci u.k] 41 (ClM.v rfl) yg) rfl (Sub.one (b':=⟨false,[ci u.m,ci u.kg,ci u.s,ci u.a,ci u.k],41⟩) rfl (.inr ⟨rfl,[],rfl⟩)) (ClM.v rfl) (vv ?_)
 refine x6 6 (zB 106 ?_)
 refine vv ?_
 have w1:=wr t.m u.m zA zA zA zA
 have w2:=wr t.kg u.kg zA zA zA zA
 have w3:=wr t.s u.s zA zA zA zA
 have w4:=wr t.a u.a zA zA zA zA
 have w5:=wr t.k u.k zA zA zA zA
 refine Sm.dg 106 13 ze (vv ?_)
 simp only[w1]
 refine Sm.dg 106 13 ze (vv ?_)
 simp only[w2]
 refine Sm.dg 106 13 ze (vv ?_)
 simp only[w3]
 refine Sm.dg 106 13 ze (vv ?_)
 simp only[w4]
 refine Sm.dg 106 13 ze (vv ?_)
 simp only[w5]
 have hv3:=oE (t.m+s*u.m) (t.kg+s*u.kg) (t.s+s*u.s) (t.a+s*u.a) (t.k+s*u.k)
 refine CallQ.pure 106 hv3 rfl (vv ?_)
 unfold rB at hR
 cases hc:vI (t.m+s*u.m) (t.kg+s*u.kg) (t.s+s*u.s) (t.a+s*u.a) (t.k+s*u.k)with
 |false=>
  rw[hc]at hR
  refine vv ?_
  exact RetQ.pure hR rfl (vv trivial) vz (zI rfl)
 |true=>
  rw[hc]at hR
  refine vv ?_
  exact RetQ.pure hR rfl (vv trivial) vz (zI rfl)
theorem Um (t u:Ft)(h:vI t.m t.kg t.s t.a t.k=true)(hu:vI u.m u.kg u.s u.a u.k=true):
  CallOk Hf 205 [qV t,qV u] [] (bif rB 1 t u then .tup [.agg [ci (t.m+1*u.m),ci (t.kg+1*u.kg),ci (t.s+1*u.s),ci (t.a+1*u.a),ci (t.k+1*u.k)],Wi 0]else .tup [.agg [ci 0,ci 0,ci 0,ci 0,ci 0],Wi 2]) []:=by
 have hc:=XM t u 1 (.inl rfl) h hu
 refine kO 100 func205 Xg ntmps205 (by simp[ClV,V.g,Cv.g,qV,ci]) fun C hR=>?_
 refine vv ?_
 refine CallQ.pure 106 hc rfl ?_
 cases h5:rB 1 t u<;>rw[h5]at hR<;>simp only[cond_true,cond_false]at hR⊢
 ·simp only[go_sem]
  exact RetQ.pure hR rfl (vv trivial) vz (zI rfl)
 ·simp only[go_sem]
  exact RetQ.pure hR rfl (vv trivial) vz (zI rfl)
theorem PR (t u:Ft)(h:vI t.m t.kg t.s t.a t.k=true)(hu:vI u.m u.kg u.s u.a u.k=true):
  CallOk Hf 206 [qV t,qV u] [] (bif rB (-1) t u then .tup [.agg [ci (t.m+ -1*u.m),ci (t.kg+ -1*u.kg),ci (t.s+ -1*u.s),ci (t.a+ -1*u.a),ci (t.k+ -1*u.k)],Wi 0]else .tup [.agg [ci 0,ci 0,ci 0,ci 0,ci 0],Wi 2]) []:=by
 have hc:=XM t u (-1) (.inr rfl) h hu
 refine kO 100 func206 Xf ntmps206 (by simp[ClV,V.g,Cv.g,qV,ci]) fun C hR=>?_
 refine vv ?_
 refine CallQ.pure 106 hc rfl ?_
 cases h5:rB (-1) t u<;>rw[h5]at hR<;>simp only[cond_true,cond_false]at hR⊢
 ·simp only[go_sem]
  exact RetQ.pure hR rfl (vv trivial) vz (zI rfl)
 ·simp only[go_sem]
  exact RetQ.pure hR rfl (vv trivial) vz (zI rfl)
def oF (op:Int)(a b t:Ft):Bool:=
 if op=3 then decide (a.m+b.m=t.m/\a.kg+b.kg=t.kg/\a.s+b.s=t.s/\a.a+b.a=t.a/\a.k+b.k=t.k)
 else if op=4 then decide (a.m-b.m=t.m/\a.kg-b.kg=t.kg/\a.s-b.s=t.s/\a.a-b.a=t.a/\a.k-b.k=t.k)
 else decide ((a.m=t.m/\a.kg=t.kg/\a.s=t.s/\a.a=t.a/\a.k=t.k)/\b.m=t.m/\b.kg=t.kg/\b.s=t.s/\b.a=t.a/\b.k=t.k)
theorem Pz (op:Int)(a b t:Ft)(ha:vI a.m a.kg a.s a.a a.k=true)(hb:vI b.m b.kg b.s b.a b.k=true)(ht:vI t.m t.kg t.s t.a t.k=true):CallOk Hf 254 [I op,qV a,qV b,qV t] [] (Bo (oF op a b t)) []:=by
 have b3:=qU ht
 refine kO 100 func254 Tu ntmps254 (by simp[ClV,V.g,Cv.g,qV,ci]) fun C hR=>?_
 refine vv ?_
 by_cases h3:op=3
 ·subst h3
  refine vv ?_
  refine CallQ.pure 106 (Um a b ha hb) rfl ?_
  cases h5:rB 1 a b<;>simp only[cond_true,cond_false]
  ·simp only[go_sem]
   refine yL hR ?_
   symm
   simp only[oF,if_true,decide_eq_false_iff_not]
   rintro⟨q1,q2,q3,q4,q5⟩
   simp only[rB,vI,decide_eq_false_iff_not]at h5
   omega
  ·simp only[go_sem]
   refine yL hR ?_
   rw[JQ]
   simp[oF]
 ·have e3:(op==3)=false:=by simpa using h3
  simp only[e3]
  by_cases h4:op=4
  ·subst h4
   refine vv ?_
   refine CallQ.pure 106 (PR a b ha hb) rfl ?_
   cases h5:rB (-1) a b<;>simp only[cond_true,cond_false]
   ·simp only[go_sem]
    refine yL hR ?_
    symm
    simp only[oF,Int.reduceEq,if_true,if_false,decide_eq_false_iff_not]
    rintro⟨q1,q2,q3,q4,q5⟩
    simp only[rB,vI,decide_eq_false_iff_not]at h5
    omega
   ·simp only[go_sem]
    refine yL hR ?_
    rw[JQ]
    simp[oF]
    omega
  ·have e4:(op==4)=false:=by simpa using h4
   simp only[e4]
   refine yL hR ?_
   rw[JQ]
   simp[oF,h3,h4,IJ]
@[go_sem] def Qg (t:Ft)(r:Int):List Cv:=[ci t.bits,.v (.bool t.signed),ci t.num,ci t.off,ci t.den,ci t.m,ci t.kg,ci t.s,ci t.a,ci t.k,ci r]
def z0:Ft:=⟨0,false,0,0,0,0,0,0,0,0⟩
def xY (op:Int)(a:Ft)(x:Int)(b:Ft)(y:Int)(t:Ft):Int:=qs t (cN op (yq a x) a.den (yq b y) b.den) (cD op (yq a x) a.den (yq b y) b.den)
theorem tg {t:Ft}(h:yE t=true):vI t.m t.kg t.s t.a t.k=true:=by
 simp only[yE,JG]at h
 exact h.2
theorem aq (op:Int){a:Ft}{x:Int}{b:Ft}{y:Int}(ha:yE a=true)(hx:fin a x=true)(hb:yE b=true)(hy:fin b y=true)(ho1:1<=op)(ho2:op<=4)(h0:op=4->yq b y≠0):
  (-20282419275553370000000000000000<=cN op (yq a x) a.den (yq b y) b.den/\cN op (yq a x) a.den (yq b y) b.den<=20282419275553370000000000000000)/\(1<=cD op (yq a x) a.den (yq b y) b.den/\cD op (yq a x) a.den (yq b y) b.den<=4722367608777000000000):=by
 have hf:=xC ha
 have hg:=xC hb
 have h1:=xy ha hx
 have h2:=xy hb hy
 have p1:=xT (a:=yq a x) (b:=b.den) (A:=4503600701112320) (B:=1048576) zA zA zA zA
 have p2:=xT (a:=yq b y) (b:=a.den) (A:=4503600701112320) (B:=1048576) zA zA zA zA
 have p3:=xT (a:=yq a x) (b:=yq b y) (A:=4503600701112320) (B:=4503600701112320) zA zA zA zA
 have p4:=xT (a:=a.den) (b:=b.den) (A:=1048576) (B:=1048576) zA zA zA zA
 have p5:0<a.den*b.den:=Int.mul_pos zA zA
 have p6:op=4->yq b y*a.den≠0:=fun h hh=>by
  rcases Int.mul_eq_zero.1 hh with hh|hh
  ·exact h0 h hh
  ·omega
 unfold cN cD
 generalize yq a x*b.den=q1 at*
 generalize yq b y*a.den=q2 at*
 generalize yq a x*yq b y=q3 at*
 generalize a.den*b.den=q4 at*
 rcases(show op=1\/op=2\/op=3\/op=4 by omega)with rfl|rfl|rfl|rfl<;>simp<;>(try split)<;>(try have:=p6 rfl)<;>omega
@[go_sem] def Py (t:Ft):List Cv:=[ci t.bits,.v (.bool t.signed),ci t.num,ci t.off,ci t.den,ci t.m,ci t.kg,ci t.s,ci t.a,ci t.k]
theorem _root_.Go.Proofs.YtkciabfilokfiaaGreat.Vg.Sm.cut {P:Program}{nt:Nat}{C:Cx}{todo:List It}{e:Env}{M M0:Mem}(hP:Pins C.S M0)(E:Env)(Mm:Mem)(L:List (Nat×Nat))(h0:Xs C.S M0 E Mm e M L)(hM:ClM Mm)(hE:∀p∈E,ClV Mm p.2.2)(h:Sm P nt C todo E Mm):Sm P nt C todo e M:=
 ZI (Wkn.ren L hP h0.1 h0.2.1 h0.2.2.1 h0.2.2.2 hM hE) h
@[go_sem ↓] theorem MG:qk 2 1=[(0,1),(1,1)]:=rfl
@[go_sem ↓] theorem ME:qk 5 2=[(0,2),(2,2),(4,2),(6,2),(8,2)]:=rfl
def wH (op a1 a2 b1 b2:Int)(ta tb t:Ft):Int:=
 if (op<1\/4<op)\/((yE ta&&(decide (a1<=a2)&&(fin ta a1&&fin ta a2)))&&((yE tb&&(decide (b1<=b2)&&(fin tb b1&&fin tb b2)))&&yE t))=false then 1
 else if oF op ta tb t=false then 12 else if op=4/\yq tb b1<=0/\0<=yq tb b2 then 10 else 0
def nv (op a1 a2 b1 b2:Int)(ta tb t:Ft):Int:=if wH op a1 a2 b1 b2 ta tb t=0 then min (min (min (xY op ta a1 tb b1 t) (xY op ta a1 tb b2 t)) (xY op ta a2 tb b1 t)) (xY op ta a2 tb b2 t)else 0
def nw (op a1 a2 b1 b2:Int)(ta tb t:Ft):Int:=if wH op a1 a2 b1 b2 ta tb t=0 then max (max (max (xY op ta a1 tb b1 t) (xY op ta a1 tb b2 t)) (xY op ta a2 tb b1 t)) (xY op ta a2 tb b2 t)else 0
theorem u6 (op:Int)(a:Ft)(x:Int)(b:Ft)(y:Int)(t:Ft)(h:yE t=true):tC t<=xY op a x b y t/\xY op a x b y t<=th t:=by
 have:=rZ t h
 unfold xY qs
 omega
theorem wR {t:Ft}{x y:Int}(h:yE t=true)(hx:x<=y):yq t x<=yq t y:=by
 have:=xC h
 have:=Jk hx (show 0<=t.num by omega)
 unfold yq;omega
@[reducible] def MN (op i:Int):Env:=[(101,true,I i),(100,true,I 2),(99,true,.c (.sl 111 0 2 1)),(20,true,.c (.p 110 0)),(0,true,I op),(12,true,.c (.p 105 0)),(11,true,.c (.p 104 0)),(10,true,.c (.p 103 0)),(9,true,.c (.p 102 0)),(8,true,.c (.p 101 0)),(7,true,.c (.p 100 0)),(13,true,I 0)]
@[reducible] def ML (a1 a2 b1 b2:Int)(ta tb t:Ft)(lo hi:Int):Mem:=[(111,⟨false,[ci a1,ci a2],3⟩),(110,⟨false,[ci lo,ci hi],45⟩),(105,⟨false,[ci 0,ci 0],45⟩),(104,⟨false,Py t,43⟩),(103,⟨false,Py tb,43⟩),(102,⟨false,Py ta,43⟩),(101,⟨false,[ci b1,ci b2],45⟩),(100,⟨false,[ci a1,ci a2],45⟩)]
@[reducible] def MZ (op i x j:Int):Env:=MN op i++[(22,true,I x),(111,true,I j),(110,true,I 2),(109,true,.c (.sl 112 0 2 1))]
@[reducible] def MY (a1 a2 b1 b2:Int)(ta tb t:Ft)(lo hi:Int):Mem:=ML a1 a2 b1 b2 ta tb t lo hi++[(112,⟨false,[ci b1,ci b2],3⟩)]
theorem VH (op a1 a2 b1 b2:Int)(ta tb t:Ft):CallOk Hf 238 [I op,rg a1 a2,rg b1 b2,fx ta,fx tb,fx t] [] (.tup [.agg [ci (nv op a1 a2 b1 b2 ta tb t),ci (nw op a1 a2 b1 b2 ta tb t)],Wi (wH op a1 a2 b1 b2 ta tb t)]) []:=by
 refine kO 100 func238 SI ntmps238 (by simp[ClV,V.g,Cv.g,rg,fx,ci]) fun C hR=>?_
 by_cases ho:op<1\/4<op
 ·have e:wH op a1 a2 b1 b2 ta tb t=1:=by rw[wH,if_pos (.inl ho)]
  unfold nv nw at hR
  rw[e]at hR
  refine vv ?_
  have e1:(bif decide (op<1)then true else decide (4<op))=true:=by simp[IJ];omega
  simp only[e1]
  refine CallQ.guard 110 (fun hh=>by cases hh) (fun hh=>by cases hh) (xs:=[]) (v:=Bo true) (vv ?_)
  refine CallQ.guard 110 (fun hh=>by cases hh) (fun hh=>by cases hh) (xs:=[]) (v:=Bo true) (vv ?_)
  refine CallQ.guard 110 (fun hh=>by cases hh) (fun hh=>by cases hh) (xs:=[]) (v:=Bo true) (vv ?_)
  exact RetQ.pure hR rfl (vv trivial) vz (zI rfl)
 ·have e1:(bif decide (op<1)then true else decide (4<op))=false:=by simp[IJ];omega
  refine vv ?_
  simp only[e1]
  refine CallQ.pure 110 (mo a1 a2 ta) rfl ?_
  cases h1:(yE ta&&(decide (a1<=a2)&&(fin ta a1&&fin ta a2)))with
  |false=>
   have e:wH op a1 a2 b1 b2 ta tb t=1:=by rw[wH,if_pos (.inr (by rw[h1];rfl))]
   unfold nv nw at hR
   rw[e]at hR
   refine vv ?_
   refine CallQ.guard 110 (fun hh=>by cases hh) (fun hh=>by cases hh) (xs:=[]) (v:=Bo true) (vv ?_)
   refine CallQ.guard 110 (fun hh=>by cases hh) (fun hh=>by cases hh) (xs:=[]) (v:=Bo true) (vv ?_)
   exact RetQ.pure hR rfl (vv trivial) vz (zI rfl)
  |true=>
   refine vv ?_
   refine CallQ.pure 110 (mo b1 b2 tb) rfl ?_
   cases h2:(yE tb&&(decide (b1<=b2)&&(fin tb b1&&fin tb b2)))with
   |false=>
    have e:wH op a1 a2 b1 b2 ta tb t=1:=by rw[wH,if_pos (.inr (by rw[h1,h2];rfl))]
    unfold nv nw at hR
    rw[e]at hR
    refine vv ?_
    refine CallQ.guard 110 (fun hh=>by cases hh) (fun hh=>by cases hh) (xs:=[]) (v:=Bo true) (vv ?_)
    exact RetQ.pure hR rfl (vv trivial) vz (zI rfl)
   |true=>
    refine vv ?_
    refine CallQ.pure 110 (og t) rfl ?_
    cases h3:yE t with
    |false=>
     have e:wH op a1 a2 b1 b2 ta tb t=1:=by rw[wH,if_pos (.inr (by rw[h1,h2,h3];rfl))]
     unfold nv nw at hR
     rw[e]at hR
     refine vv ?_
     exact RetQ.pure hR rfl (vv trivial) vz (zI rfl)
    |true=>
     have g0:¬((op<1\/4<op)\/((yE ta&&(decide (a1<=a2)&&(fin ta a1&&fin ta a2)))&&((yE tb&&(decide (b1<=b2)&&(fin tb b1&&fin tb b2)))&&yE t))=false):=by
      rw[h1,h2,h3];simp;omega
     simp only[JG,decide_eq_true_eq]at h1 h2
     obtain⟨k1,k2,k3,k4⟩:=h1
     obtain⟨l1,l2,l3,l4⟩:=h2
     refine vv ?_
     refine CallQ.pure 110 (Pz op ta tb t (tg k1) (tg l1) (tg h3)) rfl ?_
     cases h4:oF op ta tb t with
     |false=>
      have e:wH op a1 a2 b1 b2 ta tb t=12:=by rw[wH,if_neg g0,if_pos h4]
      unfold nv nw at hR
      rw[e]at hR
      refine vv ?_
      exact RetQ.pure hR rfl (vv trivial) vz (zI rfl)
     |true=>
      refine vv ?_
      refine CallQ.pure 110 (tS tb b1 l1 l3) rfl (vv ?_)
      refine CallQ.pure 110 (tS tb b2 l1 l4) rfl (vv ?_)
      by_cases h5:op=4/\yq tb b1<=0/\0<=yq tb b2
      ·have e:wH op a1 a2 b1 b2 ta tb t=10:=by rw[wH,if_neg g0,if_neg (by simp[h4]),if_pos h5]
       unfold nv nw at hR
       rw[e]at hR
       have e5:(bif (bif op==4 then decide (yq tb b1<=0)else false)then decide (0<=yq tb b2)else false)=true:=by simp[h5]
       simp only[e5]
       exact RetQ.pure hR rfl (vv trivial) vz (zI rfl)
      ·have e:wH op a1 a2 b1 b2 ta tb t=0:=by rw[wH,if_neg g0,if_neg (by simp[h4]),if_neg h5]
       unfold nv nw at hR
       rw[e]at hR
       have e5:(bif (bif op==4 then decide (yq tb b1<=0)else false)then decide (0<=yq tb b2)else false)=false:=by
        simp only[IJ];split<;>simp_all
       simp only[e5]
       have z1:op=4->yq tb b1≠0:=fun h hh=>by have:=wR l1 l2;omega
       have z2:op=4->yq tb b2≠0:=fun h hh=>by have:=wR l1 l2;omega
       have i11:=u6 op ta a1 tb b1 t h3
       have i12:=u6 op ta a1 tb b2 t h3
       have i21:=u6 op ta a2 tb b1 t h3
       have i22:=u6 op ta a2 tb b2 t h3
       have c11:=aq op k1 k3 l1 l3 zA zA z1
       have c12:=aq op k1 k3 l1 l4 zA zA z2
       have c21:=aq op k1 k4 l1 l3 zA zA z1
       have c22:=aq op k1 k4 l1 l4 zA zA z2
       refine CallQ.pure 110 (bv t h3) rfl (vv ?_)
       refine Sm.cut (Pins.nil rfl hR) (MN op 0) (ML a1 a2 b1 b2 ta tb t (th t) (tC t)) [(111,111),(110,110),(105,105),(104,104),(103,103),(102,102),(101,101),(100,100)]
        z9 (zC rfl) (zO rfl) ?_
       refine x6 3 (zB 120 ?_)
       refine vv ?_
       refine Sm.cut (Pins.nil rfl hR) (MZ op 0 a1 0) (MY a1 a2 b1 b2 ta tb t (th t) (tC t)) [(111,111),(110,110),(105,105),(104,104),(103,103),(102,102),(101,101),(100,100),(112,120)]
        z9 (zC rfl) (zO rfl) ?_
       refine x6 3 (zB 130 ?_)
       refine vv ?_
       refine Sm.dg 130 11 ze (vv ?_)
       refine DCallQ.pure 130 (sb op ta tb a1 b1 k1 k3 l1 l3 zA zA) rfl (vv ?_)
       refine DCallQ.pure 130 (rt t _ _ h3 c11.1.1 c11.1.2 c11.2.1 c11.2.2) rfl ?_
       simp only[<-xY.eq_1]
       refine vv ?_
       refine Sm.dg 140 11 ze (vv ?_)
       refine DCallQ.pure 140 (sb op ta tb a1 b2 k1 k3 l1 l4 zA zA) rfl (vv ?_)
       refine DCallQ.pure 140 (rt t _ _ h3 c12.1.1 c12.1.2 c12.2.1 c12.2.2) rfl ?_
       simp only[<-xY.eq_1]
       refine vv ?_
       refine Sm.cut (Pins.nil rfl hR) (MZ op 1 a2 0) (MY a1 a2 b1 b2 ta tb t (min (min (th t) (xY op ta a1 tb b1 t)) (xY op ta a1 tb b2 t)) (max (max (tC t) (xY op ta a1 tb b1 t)) (xY op ta a1 tb b2 t))) [(111,111),(110,110),(105,105),(104,104),(103,103),(102,102),(101,101),(100,100),(112,141)]
        z9 (zC rfl) (zO rfl) ?_
       refine x6 3 (zB 130 ?_)
       refine vv ?_
       refine Sm.dg 130 11 ze (vv ?_)
       refine DCallQ.pure 130 (sb op ta tb a2 b1 k1 k4 l1 l3 zA zA) rfl (vv ?_)
       refine DCallQ.pure 130 (rt t _ _ h3 c21.1.1 c21.1.2 c21.2.1 c21.2.2) rfl ?_
       simp only[<-xY.eq_1]
       refine vv ?_
       refine Sm.dg 140 11 ze (vv ?_)
       refine DCallQ.pure 140 (sb op ta tb a2 b2 k1 k4 l1 l4 zA zA) rfl (vv ?_)
       refine DCallQ.pure 140 (rt t _ _ h3 c22.1.1 c22.1.2 c22.2.1 c22.2.2) rfl ?_
       simp only[<-xY.eq_1]
       refine vv ?_
       refine RetQ.pure hR rfl (vv trivial) ?_ (zI rfl)
       refine vv ?_
       rw[if_pos trivial,if_pos trivial,show min (th t) (xY op ta a1 tb b1 t)=xY op ta a1 tb b1 t by omega,show max (tC t) (xY op ta a1 tb b1 t)=xY op ta a1 tb b1 t by omega]
def uS (a b:Ft):Bool:=(a.m==b.m)&&((a.kg==b.kg)&&((a.s==b.s)&&((a.a==b.a)&&(a.k==b.k))))
def sO (a:Ft)(x:Int)(b:Ft)(y:Int):Int:=if (yE a&&fin a x)=false\/(yE b&&fin b y)=false then 1 else if uS a b=false then 12 else 0
def lB (a:Ft)(x:Int)(b:Ft)(y:Int):Bool:=if sO a x b y=0 then decide (yq a x*b.den<yq b y*a.den)else false
theorem VI (a:Ft)(x:Int)(b:Ft)(y:Int):CallOk Hf 268 [va a x,va b y] [] (.tup [.c (.v (.bool (lB a x b y))),Wi (sO a x b y)]) []:=by
 refine kO 100 func268 Tb ntmps268 (by simp[ClV,V.g,Cv.g,va,fx,ci]) fun C hR=>?_
 refine vv ?_
 refine CallQ.pure 106 (i9 a x) rfl ?_
 cases h1:(yE a&&fin a x)with
 |false=>
  have e:sO a x b y=1:=by rw[sO,if_pos (.inl h1)]
  rw[lB,e]at hR
  refine vv ?_
  refine CallQ.guard 106 (fun hh=>by cases hh) (fun hh=>by cases hh) (xs:=[]) (v:=Bo true) (vv ?_)
  exact RetQ.pure hR rfl (vv trivial) vz (zI rfl)
 |true=>
  refine vv ?_
  refine CallQ.pure 106 (i9 b y) rfl ?_
  cases h2:(yE b&&fin b y)with
  |false=>
   have e:sO a x b y=1:=by rw[sO,if_pos (.inr h2)]
   rw[lB,e]at hR
   refine vv ?_
   exact RetQ.pure hR rfl (vv trivial) vz (zI rfl)
  |true=>
   refine vv ?_
   simp only[<-uS.eq_1]
   cases h3:uS a b with
   |false=>
    have e:sO a x b y=12:=by rw[sO,if_neg (by rw[h1,h2];simp),if_pos h3]
    rw[lB,e]at hR
    refine vv ?_
    exact RetQ.pure hR rfl (vv trivial) vz (zI rfl)
   |true=>
    have e:sO a x b y=0:=by rw[sO,if_neg (by rw[h1,h2];simp),if_neg (by rw[h3];simp)]
    rw[lB,e,if_pos rfl]at hR
    simp only[JG]at h1 h2
    have n1:=xy h1.1 h1.2
    have n2:=xy h2.1 h2.2
    have hf:=xC h1.1
    have hg:=xC h2.1
    have p1:=xT (a:=yq a x) (b:=b.den) (A:=4503600701112320) (B:=1048576) zA zA zA zA
    have p2:=xT (a:=yq b y) (b:=a.den) (A:=4503600701112320) (B:=1048576) zA zA zA zA
    refine vv ?_
    refine CallQ.pure 106 (tS a x h1.1 h1.2) rfl (vv ?_)
    refine CallQ.pure 106 (tS b y h2.1 h2.2) rfl (vv ?_)
    refine CallQ.pure 106 (fv (yq b y) zA zA) rfl (vv ?_)
    refine CallQ.pure 106 (xl (yq b y) a.den zA zA zA zA) rfl (vv ?_)
    refine CallQ.pure 106 (fv (yq a x) zA zA) rfl (vv ?_)
    refine CallQ.pure 106 (xl (yq a x) b.den zA zA zA zA) rfl (vv ?_)
    refine CallQ.pure 106 (ZE (yq b y*a.den) (yq a x*b.den) zA zA zA zA) rfl (vv ?_)
    refine RetQ.pure hR rfl (vv trivial) ?_ (zI rfl)
    have:(!decide (yq b y*a.den<=yq a x*b.den))=decide (yq a x*b.den<yq b y*a.den):=by
     rw[JQ];simp
    rw[this]
def mT (g:Bool)(a:Ft)(b:Ft)(e:Int):Ft:=if e=0 then(bif g then b else a)else z0
def v3 (a:Ft)(x:Int)(t:Ft):Int:=if (yE a&&fin a x)=false\/yE t=false then 1 else if uS a t=false then 12 else 0
def gT (a:Ft)(x:Int)(t:Ft):Ft:=if v3 a x t=0 then t else z0
def gR (s:Int)(a:Ft)(x:Int)(t:Ft):Int:=if v3 a x t=0 then qs t (yq a x*s) a.den else 0
theorem eU (a:Ft)(x:Int)(t:Ft)(s:Int)(hs:s=1\/s= -1):CallOk Hf 239 [va a x,fx t,I s] [] (.tup [.agg (Qg (gT a x t) (gR s a x t)),Wi (v3 a x t)]) []:=by
 refine kO 100 func239 SH ntmps239 (by simp[ClV,V.g,Cv.g,va,fx,ci]) fun C hR=>?_
 refine vv ?_
 refine CallQ.pure 106 (i9 a x) rfl ?_
 cases h1:(yE a&&fin a x)with
 |false=>
  have e:v3 a x t=1:=by rw[v3,if_pos (.inl h1)]
  rw[gT,gR,e]at hR
  refine vv ?_
  refine CallQ.guard 106 (fun hh=>by cases hh) (fun hh=>by cases hh) (xs:=[]) (v:=Bo true) (vv ?_)
  exact RetQ.pure hR rfl (vv trivial) vz (zI rfl)
 |true=>
  refine vv ?_
  refine CallQ.pure 106 (og t) rfl ?_
  cases h2:yE t with
  |false=>
   have e:v3 a x t=1:=by rw[v3,if_pos (.inr h2)]
   rw[gT,gR,e]at hR
   refine vv ?_
   exact RetQ.pure hR rfl (vv trivial) vz (zI rfl)
  |true=>
   refine vv ?_
   simp only[<-uS.eq_1]
   cases h3:uS a t with
   |false=>
    have e:v3 a x t=12:=by rw[v3,if_neg (by rw[h1,h2];simp),if_pos h3]
    rw[gT,gR,e]at hR
    refine vv ?_
    exact RetQ.pure hR rfl (vv trivial) vz (zI rfl)
   |true=>
    have e:v3 a x t=0:=by rw[v3,if_neg (by rw[h1,h2];simp),if_neg (by rw[h3];simp)]
    rw[gT,gR,e,if_pos rfl,if_pos rfl]at hR
    simp only[JG]at h1
    have n1:=xy h1.1 h1.2
    have hf:=xC h1.1
    have p1:=xT (a:=yq a x) (b:=s) (A:=4503600701112320) (B:=1) zA zA zA zA
    refine vv ?_
    refine CallQ.pure 106 (tS a x h1.1 h1.2) rfl (vv ?_)
    refine Sm.dg 106 8 ze (vv ?_)
    refine DCallQ.pure 106 (fv (yq a x) zA zA) rfl (vv ?_)
    refine DCallQ.pure 106 (xl (yq a x) s zA zA zA zA) rfl (vv ?_)
    refine DCallQ.pure 106 (fv a.den zA zA) rfl ?_
    simp only[tz]
    refine vv ?_
    refine CallQ.pure 106 (rt t (yq a x*s) a.den h2 zA zA zA zA) rfl (vv ?_)
    exact RetQ.pure hR rfl (vv trivial) vz (zI rfl)
theorem Uo (a:Ft)(x:Int)(t:Ft):CallOk Hf 212 [va a x,fx t] [] (.tup [.agg (Qg (gT a x t) (gR (-1) a x t)),Wi (v3 a x t)]) []:=by
 refine kO 100 func212 S6 ntmps212 (by simp[ClV,V.g,Cv.g,va,fx,ci]) fun C hR=>?_
 refine vv ?_
 refine CallQ.pure 106 (eU a x t (-1) (.inr rfl)) rfl (vv ?_)
 exact RetQ.pure hR rfl (vv trivial) vz (zI rfl)
theorem VL (a:Ft)(x:Int)(t:Ft):CallOk Hf 220 [va a x,fx t] [] (.tup [.agg (Qg (gT a x t) (gR 1 a x t)),Wi (v3 a x t)]) []:=by
 refine kO 100 func220 SY ntmps220 (by simp[ClV,V.g,Cv.g,va,fx,ci]) fun C hR=>?_
 refine vv ?_
 refine CallQ.pure 106 (eU a x t 1 (.inl rfl)) rfl (vv ?_)
 exact RetQ.pure hR rfl (vv trivial) vz (zI rfl)
@[reducible] def rC (r:Int×Int):List Cv:=[.v (.int .i64 r.1),.v (.int .i64 r.2)]
@[reducible] def rA (r:Int×Int):V:= .agg (rC r)
def oG (m n:Bool):Int×Int:=(bif n then 0 else 1,bif m then 1 else 0)
theorem qW (m n:Bool):CallOk Hf 218 [Bo m,Bo n] [] (rA (oG m n)) []:=by
 cases m<;>cases n<;>
 ·refine kN 100 func218 S1 ntmps218 fun C hR hP=>?_
  refine vv ?_
  exact yI hR ClM.nil
def xB (r:Int×Int):Bool×Bool:=(!((r.1==0)&&(r.2==0)),bif decide (r.1<=0)then decide (0<=r.2)else false)
theorem dP (r:Int×Int):CallOk Hf 215 [rA r] [] (.tup [ZG (xB r).1,ZG (xB r).2]) []:=by
 refine kN 100 func215 S4 ntmps215 fun C hR hP=>?_
 refine vv ?_
 refine Sm.dg 110 12 ze (vv ?_)
 exact yI hR ClM.nil
def vp (a b:Int×Int):Int×Int:=(min a.1 b.1,max a.2 b.2)
theorem aK (a b:Int×Int):CallOk Hf 173 [rA a,rA b] [] (rA (vp a b)) []:=by
 refine kN 100 func173 RI ntmps173 fun C hR hP=>?_
 refine vv ?_
 exact yI hR ClM.nil
def qp (r:Int×Int)(lo hi:Int):Int×Int:=(min (max r.1 lo) hi,min (max r.2 lo) hi)
theorem o7 (r:Int×Int)(lo hi:Int):CallOk Hf 213 [rA r,I lo,I hi] [] (rA (qp r lo hi)) []:=by
 refine kN 100 func213 S5 ntmps213 fun C hR hP=>?_
 refine vv ?_
 exact yI hR ClM.nil
theorem UK (t:Ft)(x e:Int):CallOk Hf 211 [.agg (Qg t x),I e] [] (I x) []:=by
 refine kN 100 func211 S7 ntmps211 fun C hR hP=>?_
 refine vv ?_
 exact uT hR rfl
theorem eC (a b:Int)(ta tb:Ft):CallOk Hf 242 [I a,.agg (rJ ta),I b,.agg (rJ tb)] [] (Bo (lB ta a tb b)) []:=by
 refine kN 100 func242 SE ntmps242 fun C hR hP=>?_
 refine vv ?_
 refine CallQ.pure 110 (VI ta a tb b) rfl (vv ?_)
 exact yL hR rfl
theorem am (x:Int)(a b:Ft):CallOk Hf 219 [I x,.c (.p 1 0),.c (.p 2 0)] [(1,⟨true,rJ a,43⟩),(2,⟨true,rJ b,43⟩)] (I (gR 1 a x b)) []:=by
 refine kN 100 func219 S0 ntmps219 fun C hR hP=>?_
 refine vv ?_
 refine CallQ.pure 110 (VL a x b) rfl (vv ?_)
 refine CallQ.pure 110 (UK (gT a x b) (gR 1 a x b) (v3 a x b)) rfl (vv ?_)
 exact yI hR (zC rfl)
def xf (r:Int×Int)(a b:Ft):Int×Int:=(gR 1 a r.1 b,gR 1 a r.2 b)
theorem nI (r:Int×Int)(a b:Ft):CallOk Hf 174 [rA r,.agg (rJ a),.agg (rJ b)] [] (rA (xf r a b)) []:=by
 refine kN 100 func174 RH ntmps174 fun C hR hP=>?_
 refine vv ?_
 refine Sm.dg 110 7 ze (vv ?_)
 refine DCallQ.ren [(1,101),(2,102)] 120 (am r.1 a b) (zC rfl) rfl rfl ?_ rfl (.inr rfl) rfl rfl ?_
 ·exact⟨⟨⟨false,rJ a,43⟩,rfl,.inr ⟨rfl,[],rfl⟩⟩,⟨⟨false,rJ b,43⟩,rfl,.inr ⟨rfl,[],rfl⟩⟩,trivial⟩
 refine vv ?_
 refine CallQ.ren [(1,101),(2,102)] 130 (am r.2 a b) (zC rfl) rfl rfl ?_ rfl (.inr rfl) ?_
 ·exact⟨⟨⟨false,rJ a,43⟩,rfl,.inr ⟨rfl,[],rfl⟩⟩,⟨⟨false,rJ b,43⟩,rfl,.inr ⟨rfl,[],rfl⟩⟩,trivial⟩
 refine vv ?_
 exact yI hR ClM.nil
theorem _root_.Go.Proofs.YtkciabfilokfiaaGreat.Vg.Sm.mapIns {P:Program}{nt:Nat}{C Ck:Cx}{rg:Array Oper}{o:Oper}{l:List Oper}{r:List It}{e:Env}{M:Mem}{t tk te:TypeId}{m x y:Operand}{b:Nat}{al:Al}{s:ByteArray}{v:V}{u:Value}(hL:Lf C Ck)(hg:gd rg e o=some true)(hd:o.dst=none)(ho:o.op= .insert t m x y)(ht:gB P t=some (tk,te))
  (hm:rd e m=some (true,.c (.v (.map (some b))))) (hx:rd e x=some (true,.c (.v (.string s)))) (hy:rd e y=some (true,v)) (hv:∀β,v.g β=u) (hb:MpB Ck.hp b al) (hf:C.w0.heap.size<=b)
  (k:∀Cn,Lf C Cn->(∀b' o,b'≠b->Ck.hp b' o->Cn.hp b' o)->MpB Cn.hp b (t8 al s u)->Sm P nt Cn (.ops rg l::r) e M):Sm P nt Ck (.ops rg (o::l)::r) e M:=fun β a w h1 h2 h3 h4=>by
 have hw:Region.wanted o (yielded rg a.tmps)=true:=rO (β:=β) hg (fun j want t y _ _ hy=>h2 β (zK _ _) t y hy)
 show wpListIn (rj Ck.lp) 0 P rg (wE P Ck.lp Ck.Q r) (o::l) a w
 refine wpListIn_step fun K hK=>?_
 rw[hw]
 simp only[if_true]
 refine xg Ck.lp (rP hg).1 ?_
 obtain⟨es,clk,q1,q2⟩:=hb
 have hbw:=yK h1 q1
 have hnw:=yj h1 q1
 have em:=vl h2 (zK _ _) hm
 have ex:=vl h2 (zK _ _) hx
 have ey:=vl h2 (zK _ _) hy
 simp only[gv,V.g,Cv.g,cond_true]at em ex
 simp only[gv,cond_true,hv]at ey
 obtain⟨es',clk',hrun,hes⟩:=pL ht hbw q2 s u
 unfold Oper.wp execOp
 simp only[ho,em,ex,ey,Sem.run_bind,hrun,Result.andThen_ok,Sem.run_pure]
 show K _ _
 have hrelC:Rel C.S C.w0 β M w:=hL.rel h1
 -- the world behind,seen from the first view
 have hp:Rel C.S C.w0 β M {w with heap:=w.heap.setIfInBounds b (.map es' clk')}:=hrelC.hset hbw hnw (by intro c el mk hh;cases hh) (fun _=>hf)
 have hLC:Lf C C:=qN hL.zok
 obtain⟨l1,l2⟩:=hLC.at hp (s:=fun b=>¬Wrt β M b) (fun b hb=>IX.1 hb)
 have hq:=hp.at hLC (s:=fun b=>¬Wrt β M b) (fun b hb hn=>hn hb) hp.mem (fun n l hl=>(hp.pin n l hl).1)
 have hlt:b<w.heap.size:=(IH.1 hbw).1
 have hput:∀u,a.put o.dst u=a:=fun u=>by rw[hd];rfl
 rw[hput]
 have:=hK a {w with heap:=w.heap.setIfInBounds b (.map es' clk')} ?_
 ·simpa[hput]using this
 rw[hL.q,hL.lp]
 refine k _ l1 (fun b' o' hne ho'=>⟨yj h1 ho',?_,?_⟩) ⟨es',clk',⟨hnw,?_,?_⟩,hes⟩ β a _ hq h2 h3 (h4.trans hL.df)
 ·have:=ho'.2.1
  rw[hL.z]at this;exact this
 ·show(w.heap.setIfInBounds b _)[b']?=_
  rw[I6 (Ne.symm hne)]
  exact yK h1 ho'
 ·intro hz
  have:=(hL.zok _ hz).2
  omega
 ·show(w.heap.setIfInBounds b _)[b]?=_
  simp[hlt]
def Vh (a b:Int×Int)(ta tb:Ft):Bool:=bif lB ta a.2 tb b.1 then true else lB tb b.2 ta a.1
def np (less:Bool)(a b:Int×Int)(ta tb:Ft):Int×Int:=
 bif less then oG (lB ta a.1 tb b.2) (!lB ta a.2 tb b.1)else
 oG (!Vh a b ta tb) (!(bif (bif a.1==a.2 then b.1==b.2 else false)then !Vh a b ta tb else false))
theorem mW (kd:Str)(a b:Int×Int)(ta tb:Ft):CallOk Hf 216 [S kd,rA a,rA b,.agg (rJ ta),.agg (rJ tb)] [] (rA (np (kd==[108,101,115,115]) a b ta tb)) []:=by
 refine kN 100 func216 S2 ntmps216 fun C hR hP=>?_
 refine vv ?_
 refine zU (fun h1=>?_) (fun h1=>?_)
 ·have h1:(kd==[108,101,115,115])=true:=h1
  rw[h1]at hR
  refine Sm.dg 110 13 ze (vv ?_)
  refine DCallQ.pure 110 (eC a.1 b.2 ta tb) rfl (vv ?_)
  refine CallQ.pure 120 (eC a.2 b.1 ta tb) rfl (vv ?_)
  refine CallQ.pure 130 (qW (lB ta a.1 tb b.2) (!lB ta a.2 tb b.1)) rfl (vv ?_)
  exact yI hR ClM.nil
 ·have h1:(kd==[108,101,115,115])=false:=h1
  rw[h1]at hR
  refine CallQ.pure 110 (eC a.2 b.1 ta tb) rfl (vv ?_)
  refine CallQ.guard 110 (fun _=>eC b.2 a.1 tb ta) (fun h=>by rw[h];rfl) (vv ?_)
  refine CallQ.pure 130 (qW (!Vh a b ta tb) (!(bif (bif a.1==a.2 then b.1==b.2 else false)then !Vh a b ta tb else false))) rfl (vv ?_)
  exact yI hR ClM.nil
def sK (k:Nat)(a b:Int×Int):Int×Int:=
 match k with
 |0=>oG (xB a).2 (xB a).1
 |1=>oG (bif (xB a).1 then(xB b).1 else false) (bif (xB a).2 then true else(xB b).2)
 |_=>oG (bif (xB a).1 then true else(xB b).1) (bif (xB a).2 then(xB b).2 else false)
theorem Wt (r:Int×Int):CallOk Hf 217 [S [110,111,116],.c (.sl 1 0 1 2)] [(1,⟨true,rC r,45⟩)] (rA (sK 0 r (0,0))) []:=by
 refine kN 100 func217 aY ntmps217 fun C hR hP=>?_
 refine vv ?_
 refine CallQ.pure 130 (dP r) rfl (vv ?_)
 refine CallQ.pure 130 (qW (xB r).2 (xB r).1) rfl (vv ?_)
 exact yI hR (zC rfl)
theorem Wr (r q:Int×Int):CallOk Hf 217 [S [97,110,100],.c (.sl 1 0 2 2)] [(1,⟨true,rC r++rC q,45⟩)] (rA (sK 1 r q)) []:=by
 refine kN 100 func217 aY ntmps217 fun C hR hP=>?_
 refine vv ?_
 refine CallQ.pure 130 (dP r) rfl (vv ?_)
 refine CallQ.pure 140 (dP q) rfl (vv ?_)
 refine CallQ.pure 150 (qW (bif (xB r).1 then(xB q).1 else false) (bif (xB r).2 then true else(xB q).2)) rfl (vv ?_)
 exact yI hR (zC rfl)
theorem Wq (r q:Int×Int):CallOk Hf 217 [S [111,114],.c (.sl 1 0 2 2)] [(1,⟨true,rC r++rC q,45⟩)] (rA (sK 2 r q)) []:=by
 refine kN 100 func217 aY ntmps217 fun C hR hP=>?_
 refine vv ?_
 refine CallQ.pure 130 (dP r) rfl (vv ?_)
 refine CallQ.pure 140 (dP q) rfl (vv ?_)
 refine CallQ.pure 150 (qW (bif (xB r).1 then true else(xB q).1) (bif (xB r).2 then(xB q).2 else false)) rfl (vv ?_)
 exact yI hR (zC rfl)
def Xr (s:Str):Int:=bif s==[97,100,100]then 1 else bif s==[115,117,98]then 2 else bif s==[109,117,108]then 3 else bif s==[100,105,118]then 4 else 0
def vR (op:Int)(a b:Int×Int)(ta tb t:Ft):Int×Int:=(nv op a.1 a.2 b.1 b.2 ta tb t,nw op a.1 a.2 b.1 b.2 ta tb t)
@[reducible] def rE (r:(Int×Int)×Int):V:= .tup [.agg (rC r.1),Wi r.2]
theorem aQ (kd l:Str)(v:Value)(m:Al):vr (t8 m ⟨l.toArray⟩ v) ⟨kd.toArray⟩=bif kd==l then some v else vr m ⟨kd.toArray⟩:=by
 rw[se]
 by_cases h:kd=l
 ·subst h;simp
 ·have h1:(kd==l)=false:=by simpa using h
  rw[h1,cond_false,if_neg (fun hh=>h ?_)]
  have:=congrArg (fun b:ByteArray=>b.data.toList) hh
  simpa using this
theorem ub {H:Hp}(kd:Str)(a b:Int×Int)(ta tb t:Ft):CallH H Hf 209 [S kd,rA a,rA b,.agg (rJ ta),.agg (rJ tb),.agg (rJ t)] (rE (vR (Xr kd) a b ta tb t,wH (Xr kd) a.1 a.2 b.1 b.2 ta tb t)):=by
 refine kH func209 S9 ntmps209 fun C hR hP hH hL=>?_
 refine zB 100 (vv ?_)
 refine Sm.makeMap hL rfl rfl rfl (fun b0 C1 l1 k1 f1 f1' m1=>?_)
 refine Sm.mapIns (u:=iv 1) l1 rfl rfl rfl rfl rfl rfl rfl (fun _=>rfl) m1 f1 (fun C2 l2 _ m2=>?_)
 refine Sm.mapIns (u:=iv 2) l2 rfl rfl rfl rfl rfl rfl rfl (fun _=>rfl) m2 f1 (fun C3 l3 _ m3=>?_)
 refine Sm.mapIns (u:=iv 3) l3 rfl rfl rfl rfl rfl rfl rfl (fun _=>rfl) m3 f1 (fun C4 l4 _ m4=>?_)
 refine Sm.mapIns (u:=iv 4) l4 rfl rfl rfl rfl rfl rfl rfl (fun _=>rfl) m4 f1 (fun C5 l5 _ m5=>?_)
 refine zB 120 (vv ?_)
 refine vK 130 rfl rfl (.inl rfl) (fun _=>StpC.lookup (v:=I (Xr kd)) rfl rfl rfl rfl rfl m5 (fun β=>?_)) ?_
 ·have e0:vr [] (⟨kd.toArray⟩:ByteArray)=none:=rfl
  show iv (Xr kd)=(vr (t8 (t8 (t8 (t8 [] ⟨([97,100,100]:Str).toArray⟩ (iv 1)) ⟨([115,117,98]:Str).toArray⟩ (iv 2)) ⟨([109,117,108]:Str).toArray⟩ (iv 3)) ⟨([100,105,118]:Str).toArray⟩ (iv 4)) ⟨kd.toArray⟩).getD (iv 0)
  rw[aQ,aQ,aQ,aQ,e0]
  unfold Xr
  by_cases h1:kd=[97,100,100]
  ·subst h1;rfl
  by_cases h2:kd=[115,117,98]
  ·subst h2;rfl
  by_cases h3:kd=[109,117,108]
  ·subst h3;rfl
  by_cases h4:kd=[100,105,118]
  ·subst h4;rfl
  rw[beq_false_of_ne h1,beq_false_of_ne h2,beq_false_of_ne h3,beq_false_of_ne h4];rfl
 refine vv ?_
 refine CallQ.pure 140 (VH (Xr kd) a.1 a.2 b.1 b.2 ta tb t) rfl (vv ?_)
 exact yI (hR C5 l5) ClM.nil
def yN (r:Int×Int):List Value:=[iv r.1,iv r.2]
def po (rs:List (Int×Int))(ts:List Ft)(t:Ft)(i:Nat):Int×Int:=xf (rs.getD i (0,0)) (ts.getD i dW) t
def PM (rs:List (Int×Int))(ts:List Ft)(t:Ft):Mem:=[(1,⟨true,[.sl 4 0 rs.length 2],104⟩),(2,⟨true,[.sl 5 0 ts.length 10],182⟩),(3,⟨true,rJ t,43⟩),(4,⟨true,zD (rs.map yN),45⟩),(5,⟨true,zD (ts.map yW),43⟩)]
theorem vB (rs:List (Int×Int))(ts:List Ft)(t:Ft)(i:Nat)(h1:i<rs.length)(h2:i<ts.length)(hb:rs.length<=1000)(hb2:ts.length<=1000):CallOk Hf 208 [I i,.c (.p 1 0),.c (.p 2 0),.c (.p 3 0)] (PM rs ts t) (rA (po rs ts t i)) []:=by
 have hM:ClM (PM rs ts t):=zC (by unfold PM;simp only[Ky,iR];rfl)
 have k1:=z6 (r:=yN) (k:=2) (fun _=>rfl) rs i h1
 have k2:=z6 (r:=yW) (k:=10) (fun _=>rfl) ts i h2
 have z1:=zP (r:=yN) (k:=2) (fun _=>rfl) rs
 have z2:=zP (r:=yW) (k:=10) (fun _=>rfl) ts
 have e1:rs.getD i (0,0)=rs[i]:=by simp[Kw,h1]
 have e2:ts.getD i dW=ts[i]:=by simp[Kw,h2]
 unfold po
 rw[e1,e2]
 unfold PM at hM⊢
 refine kN 100 func208 Sa ntmps208 fun C hR hP=>?_
 refine vv ?_
 refine Sm.dg 110 9 ze ?_
 simp only[go_sem,k1,k2,z1,z2]
 refine⟨zA,zA,zA,zA,?_⟩
 refine CallQ.pure 120 (nI rs[i] ts[i] t) rfl (vv ?_)
 exact yI hR hM
def PL (ts:List Ft)(t:Ft):Mem:=[(1,⟨true,[.sl 3 0 ts.length 10],182⟩),(2,⟨true,rJ t,43⟩),(3,⟨true,zD (ts.map yW),43⟩)]
theorem eV (ts:List Ft)(t:Ft)(x:Int)(h2:0<ts.length)(hb2:ts.length<=1000):CallOk Hf 210 [I x,.c (.p 1 0),.c (.p 2 0)] (PL ts t) (I (gR (-1) (ts.getD 0 dW) x t)) []:=by
 have hM:ClM (PL ts t):=zC (by unfold PL;simp only[Ky,iR];rfl)
 have k2:=z6 (r:=yW) (k:=10) (fun _=>rfl) ts 0 h2
 have z2:=zP (r:=yW) (k:=10) (fun _=>rfl) ts
 have e2:ts.getD 0 dW=ts[0]:=by simp[Kw,h2]
 rw[Ha,Jp]at k2
 rw[e2]
 unfold PL at hM⊢
 refine kN 100 func210 S8 ntmps210 fun C hR hP=>?_
 refine vv ?_
 refine Sm.dg 110 9 ze ?_
 simp only[go_sem,k2,z2]
 refine⟨zA,zA,?_⟩
 refine DCallQ.pure 120 (Uo ts[0] x t) rfl (vv ?_)
 refine CallQ.pure 130 (UK (gT ts[0] x t) (gR (-1) ts[0] x t) (v3 ts[0] x t)) rfl (vv ?_)
 exact yI hR hM
end Go.Proofs.YtkciabfilokfiaaGreat.Fx
