/-  -/
import Derived.Test.YtkciabfilokfiaaGreatPS
import Derived.Test.YtkciabfilokfiaaGreatXD2
namespace Go.Proofs.YtkciabfilokfiaaGreat.Fx
open Vg Tf
set_option linter.unusedSimpArgs false
set_option linter.unusedVariables false
set_option maxRecDepth 100000
def cN (op an ad bn bd:Int):Int:=if op=1 then an*bd+bn*ad else if op=2 then an*bd-bn*ad else if op=3 then an*bn else if bn*ad<0 then-(an*bd)else an*bd
def cD (op an ad bn bd:Int):Int:=if op=1∨op=2∨op=3 then ad*bd else if bn*ad<0 then-(bn*ad)else bn*ad
theorem exW_eq (n d:Int):exW n d= .agg [cu (hi64 n),cu (lo64 n),cu (hi64 d),cu (lo64 d)]:=rfl
theorem fcombine_ (op:Int)(t u:Ft)(x y:Int)(h:fok t=true)(hx:fin t x=true)(hu:fok u=true)(hy:fin u y=true)(ho1:1≤op)(ho2:op≤4):
  CallOk Tryz.prog 257 [I op,va t x,va u y] [] (exW (cN op (fnu t x) t.den (fnu u y) u.den) (cD op (fnu t x) t.den (fnu u y) u.den)) []:=by
 have hf:=fok_bd h
 have hg:=fok_bd hu
 have ha:=fnu_bd h hx
 have hb:=fnu_bd hu hy
 have p1:=bd_mul (a:=fnu t x) (b:=u.den) (A:=4503600701112320) (B:=1048576) (by omega) (by omega) (by omega) (by omega)
 have p2:=bd_mul (a:=fnu u y) (b:=t.den) (A:=4503600701112320) (B:=1048576) (by omega) (by omega) (by omega) (by omega)
 refine CallOk.mk 100 Tryz.func257 rfl en257 (by simp[Tryz.ntmps257]) (by simp[ClV,V.g,Cv.g,va,ci]) fun C hR=>?_
 refine vv ?_
 refine CallQ.pure 104 (number5 t x h hx) rfl ?_
 refine vv ?_
 refine CallQ.pure 104 (number5 u y hu hy) rfl ?_
 generalize fnu t x=an at*
 generalize fnu u y=bn at*
 rcases(show op=1∨op=2∨op=3∨op=4 by omega)with rfl|rfl|rfl|rfl
 ·simp(maxSteps:=2000000) only[go_sem]
  refine CallQ.pure 104 (of_ an (by omega) (by omega)) rfl ?_
  refine vv ?_
  refine CallQ.pure 104 (wtimes an u.den (by omega) (by omega) (by omega) (by omega)) rfl ?_
  refine vv ?_
  refine CallQ.pure 104 (of_ bn (by omega) (by omega)) rfl ?_
  refine vv ?_
  refine CallQ.pure 104 (wtimes bn t.den (by omega) (by omega) (by omega) (by omega)) rfl ?_
  refine vv ?_
  refine CallQ.pure 104 (add_ (an*u.den) (bn*t.den)) rfl ?_
  refine vv ?_
  refine CallQ.pure 104 (of_ t.den (by omega) (by omega)) rfl ?_
  refine vv ?_
  refine CallQ.pure 104 (wtimes t.den u.den (by omega) (by omega) (by omega) (by omega)) rfl ?_
  simp only[wd_def]
  refine vv ?_
  exact RetQ.pure hR rfl (vv trivial) rvr (ClV.of rfl)
 ·simp(maxSteps:=2000000) only[go_sem]
  refine CallQ.pure 104 (of_ an (by omega) (by omega)) rfl ?_
  refine vv ?_
  refine CallQ.pure 104 (wtimes an u.den (by omega) (by omega) (by omega) (by omega)) rfl ?_
  refine vv ?_
  refine CallQ.pure 104 (of_ bn (by omega) (by omega)) rfl ?_
  refine vv ?_
  have e:IntKind.i64.wrap (0-t.den)= -t.den:=by rw[w64 (by omega) (by omega)];omega
  simp only[e]
  refine CallQ.pure 104 (wtimes bn (-t.den) (by omega) (by omega) (by omega) (by omega)) rfl ?_
  refine vv ?_
  refine CallQ.pure 104 (add_ (an*u.den) (bn* -t.den)) rfl ?_
  refine vv ?_
  refine CallQ.pure 104 (of_ t.den (by omega) (by omega)) rfl ?_
  refine vv ?_
  refine CallQ.pure 104 (wtimes t.den u.den (by omega) (by omega) (by omega) (by omega)) rfl ?_
  rw[show an*u.den+bn* -t.den=an*u.den-bn*t.den by rw[Int.mul_neg];omega]
  simp only[wd_def]
  refine vv ?_
  exact RetQ.pure hR rfl (vv trivial) rvr (ClV.of rfl)
 ·simp(maxSteps:=2000000) only[go_sem]
  refine CallQ.pure 104 (of_ an (by omega) (by omega)) rfl ?_
  refine vv ?_
  refine CallQ.pure 104 (wtimes an bn (by omega) (by omega) (by omega) (by omega)) rfl ?_
  refine vv ?_
  refine CallQ.pure 104 (of_ t.den (by omega) (by omega)) rfl ?_
  refine vv ?_
  refine CallQ.pure 104 (wtimes t.den u.den (by omega) (by omega) (by omega) (by omega)) rfl ?_
  simp only[wd_def]
  refine vv ?_
  exact RetQ.pure hR rfl (vv trivial) rvr (ClV.of rfl)
 ·simp(maxSteps:=2000000) only[go_sem]
  refine CallQ.pure 104 (of_ an (by omega) (by omega)) rfl ?_
  refine vv ?_
  refine CallQ.pure 104 (wtimes an u.den (by omega) (by omega) (by omega) (by omega)) rfl ?_
  refine vv ?_
  refine CallQ.pure 104 (of_ bn (by omega) (by omega)) rfl ?_
  refine vv ?_
  refine CallQ.pure 104 (wtimes bn t.den (by omega) (by omega) (by omega) (by omega)) rfl ?_
  simp only[wd_def]
  refine vv ?_
  refine CallQ.pure 105 (negative_ (bn*t.den) (by omega) (by omega)) rfl ?_
  refine vv ?_
  by_cases hn:bn*t.den<0
  ·have e:decide (bn*t.den<0)=true:=by simpa using hn
   simp only[e]
   refine Sm.dg 105 7 mix ?_
   refine vv ?_
   refine DCallQ.pure 105 (neg_ (an*u.den)) rfl ?_
   refine vv ?_
   refine DCallQ.pure 105 (neg_ (bn*t.den)) rfl ?_
   simp only[wd_def]
   refine vv ?_
   refine RetQ.pure hR rfl (vv trivial) ?_ (ClV.of rfl)
   refine vv ?_
   simp[cN,cD,hn,exW_eq]
  ·have e:decide (bn*t.den<0)=false:=by simpa using hn
   simp only[e]
   refine RetQ.pure hR rfl (vv trivial) ?_ (ClV.of rfl)
   refine vv ?_
   simp[cN,cD,hn,exW_eq]
theorem within5 (lo hi:Int)(t:Ft):CallOk Tryz.prog 253 [rg lo hi,fx t] [] (Bo (fok t&&(decide (lo≤hi)&&(fin t lo&&fin t hi)))) []:=by
 refine CallOk.mk 100 Tryz.func253 rfl en253 (by simp[Tryz.ntmps253]) (by simp[ClV,V.g,Cv.g,fx,rg,ci]) fun C hR=>?_
 refine vv ?_
 refine CallQ.pure 104 (lims t) rfl ?_
 refine vv ?_
 refine CallQ.pure 104 (fvalid t) rfl ?_
 refine vv ?_
 cases h:fok t with
 |false=>
  rw[h]at hR
  refine vv ?_
  refine RetQ.bool hR rfl ⟨rfl,trivial⟩ rfl
 |true=>
  rw[h]at hR
  refine vv ?_
  refine RetQ.bool hR rfl ⟨rfl,trivial⟩ ?_
  rw[Bool.eq_iff_iff]
  simp only[fin,Bool.cond_eq_ite,Bool.true_and,Bool.and_eq_true,decide_eq_true_eq]
  grind
theorem valid5 (t:Ft)(r:Int):CallOk Tryz.prog 258 [va t r] [] (Bo (fok t&&fin t r)) []:=by
 refine CallOk.mk 100 Tryz.func258 rfl en258 (by simp[Tryz.ntmps258]) (by simp[ClV,V.g,Cv.g,va,ci]) fun C hR=>?_
 refine vv ?_
 refine CallQ.pure 104 (within5 r r t) rfl ?_
 refine vv ?_
 refine RetQ.bool hR rfl ⟨rfl,trivial⟩ ?_
 simp
def uo5 (s:Int)(t u:Ft):Bool:=uok (t.m+s*u.m) (t.kg+s*u.kg) (t.s+s*u.s) (t.a+s*u.a) (t.k+s*u.k)
@[go_sem] def unF (t:Ft):V:= .agg [ci t.m,ci t.kg,ci t.s,ci t.a,ci t.k]
theorem uok_bd {m kg s a k:Int}(h:uok m kg s a k=true):(-9≤m∧m≤9)∧(-9≤kg∧kg≤9)∧(-9≤s∧s≤9)∧(-9≤a∧a≤9)∧(-9≤k∧k≤9):=by
 simpa[uok]using h
theorem ucomb (t u:Ft)(s:Int)(hs:s=1∨s= -1)(h:uok t.m t.kg t.s t.a t.k=true)(hu:uok u.m u.kg u.s u.a u.k=true):
  CallOk Tryz.prog 237 [unF t,unF u,I s] [] (bif uo5 s t u then .tup [.agg [ci (t.m+s*u.m),ci (t.kg+s*u.kg),ci (t.s+s*u.s),ci (t.a+s*u.a),ci (t.k+s*u.k)],Wi 0]else .tup [.agg [ci 0,ci 0,ci 0,ci 0,ci 0],Wi 2]) []:=by
 have b1:=uok_bd h
 have b2:=uok_bd hu
 have hv:=uvalid t.m t.kg t.s t.a t.k
 rw[h]at hv
 have hv2:=uvalid u.m u.kg u.s u.a u.k
 rw[hu]at hv2
 have wr:∀x y:Int, -9≤x→x≤9→ -9≤y→y≤9→IntKind.i64.wrap (x+IntKind.i64.wrap (s*y))=x+s*y:=by
  intro x y h1 h2 h3 h4
  rcases hs with rfl|rfl
  ·rw[w64 (x:=1*y) (by omega) (by omega),w64 (by omega) (by omega)]
  ·rw[w64 (x:= -1*y) (by omega) (by omega),w64 (by omega) (by omega)]
 refine CallOk.mk 100 Tryz.func237 rfl en237 (by simp[Tryz.ntmps237]) (by simp[ClV,V.g,Cv.g,unF,ci]) fun C hR=>?_
 refine vv ?_
 refine CallQ.pure 104 hv rfl ?_
 refine vv ?_
 refine CallQ.pure 104 hv2 rfl ?_
 refine vv ?_
 refine CallQ.mem 104 (exponents 100 [ci t.m,ci t.kg,ci t.s,ci t.a,ci t.k] 41 (ClM.v rfl) (by decide)) rfl (Sub.one (b':=⟨false,[ci t.m,ci t.kg,ci t.s,ci t.a,ci t.k],41⟩) rfl (.inr ⟨rfl,[],rfl⟩)) (ClM.v rfl) ?_
 refine vv ?_
 refine CallQ.mem 104 (exponents 101 [ci u.m,ci u.kg,ci u.s,ci u.a,ci u.k] 41 (ClM.v rfl) (by decide)) rfl (Sub.one (b':=⟨false,[ci u.m,ci u.kg,ci u.s,ci u.a,ci u.k],41⟩) rfl (.inr ⟨rfl,[],rfl⟩)) (ClM.v rfl) ?_
 refine vv ?_
 refine Sm.unroll 6 (Sm.go 106 ?_)
 refine vv ?_
 have w1:=wr t.m u.m (by omega) (by omega) (by omega) (by omega)
 have w2:=wr t.kg u.kg (by omega) (by omega) (by omega) (by omega)
 have w3:=wr t.s u.s (by omega) (by omega) (by omega) (by omega)
 have w4:=wr t.a u.a (by omega) (by omega) (by omega) (by omega)
 have w5:=wr t.k u.k (by omega) (by omega) (by omega) (by omega)
 refine Sm.dg 106 13 mix ?_
 refine vv ?_
 simp only[w1]
 refine Sm.dg 106 13 mix ?_
 refine vv ?_
 simp only[w2]
 refine Sm.dg 106 13 mix ?_
 refine vv ?_
 simp only[w3]
 refine Sm.dg 106 13 mix ?_
 refine vv ?_
 simp only[w4]
 refine Sm.dg 106 13 mix ?_
 refine vv ?_
 simp only[w5]
 have hv3:=uvalid (t.m+s*u.m) (t.kg+s*u.kg) (t.s+s*u.s) (t.a+s*u.a) (t.k+s*u.k)
 refine CallQ.pure 106 hv3 rfl ?_
 refine vv ?_
 unfold uo5 at hR
 cases hc:uok (t.m+s*u.m) (t.kg+s*u.kg) (t.s+s*u.s) (t.a+s*u.a) (t.k+s*u.k)with
 |false=>
  rw[hc]at hR
  refine vv ?_
  exact RetQ.pure hR rfl (vv trivial) rvr (ClV.of rfl)
 |true=>
  rw[hc]at hR
  refine vv ?_
  exact RetQ.pure hR rfl (vv trivial) rvr (ClV.of rfl)
theorem fumul (t u:Ft)(h:uok t.m t.kg t.s t.a t.k=true)(hu:uok u.m u.kg u.s u.a u.k=true):
  CallOk Tryz.prog 205 [unF t,unF u] [] (bif uo5 1 t u then .tup [.agg [ci (t.m+1*u.m),ci (t.kg+1*u.kg),ci (t.s+1*u.s),ci (t.a+1*u.a),ci (t.k+1*u.k)],Wi 0]else .tup [.agg [ci 0,ci 0,ci 0,ci 0,ci 0],Wi 2]) []:=by
 have hc:=ucomb t u 1 (.inl rfl) h hu
 refine CallOk.mk 100 Tryz.func205 rfl en205 (by simp[Tryz.ntmps205]) (by simp[ClV,V.g,Cv.g,unF,ci]) fun C hR=>?_
 refine vv ?_
 refine CallQ.pure 106 hc rfl ?_
 cases h5:uo5 1 t u<;>rw[h5]at hR<;>simp only[cond_true,cond_false]at hR⊢
 ·simp(maxSteps:=2000000) only[go_sem]
  exact RetQ.pure hR rfl (vv trivial) rvr (ClV.of rfl)
 ·simp(maxSteps:=2000000) only[go_sem]
  exact RetQ.pure hR rfl (vv trivial) rvr (ClV.of rfl)
theorem udiv (t u:Ft)(h:uok t.m t.kg t.s t.a t.k=true)(hu:uok u.m u.kg u.s u.a u.k=true):
  CallOk Tryz.prog 206 [unF t,unF u] [] (bif uo5 (-1) t u then .tup [.agg [ci (t.m+ -1*u.m),ci (t.kg+ -1*u.kg),ci (t.s+ -1*u.s),ci (t.a+ -1*u.a),ci (t.k+ -1*u.k)],Wi 0]else .tup [.agg [ci 0,ci 0,ci 0,ci 0,ci 0],Wi 2]) []:=by
 have hc:=ucomb t u (-1) (.inr rfl) h hu
 refine CallOk.mk 100 Tryz.func206 rfl en206 (by simp[Tryz.ntmps206]) (by simp[ClV,V.g,Cv.g,unF,ci]) fun C hR=>?_
 refine vv ?_
 refine CallQ.pure 106 hc rfl ?_
 cases h5:uo5 (-1) t u<;>rw[h5]at hR<;>simp only[cond_true,cond_false]at hR⊢
 ·simp(maxSteps:=2000000) only[go_sem]
  exact RetQ.pure hR rfl (vv trivial) rvr (ClV.of rfl)
 ·simp(maxSteps:=2000000) only[go_sem]
  exact RetQ.pure hR rfl (vv trivial) rvr (ClV.of rfl)
def ufit (op:Int)(a b t:Ft):Bool:=
 if op=3 then decide (a.m+b.m=t.m∧a.kg+b.kg=t.kg∧a.s+b.s=t.s∧a.a+b.a=t.a∧a.k+b.k=t.k)
 else if op=4 then decide (a.m-b.m=t.m∧a.kg-b.kg=t.kg∧a.s-b.s=t.s∧a.a-b.a=t.a∧a.k-b.k=t.k)
 else decide ((a.m=t.m∧a.kg=t.kg∧a.s=t.s∧a.a=t.a∧a.k=t.k)∧b.m=t.m∧b.kg=t.kg∧b.s=t.s∧b.a=t.a∧b.k=t.k)
theorem fit_ (op:Int)(a b t:Ft)(ha:uok a.m a.kg a.s a.a a.k=true)(hb:uok b.m b.kg b.s b.a b.k=true)(ht:uok t.m t.kg t.s t.a t.k=true):CallOk Tryz.prog 254 [I op,unF a,unF b,unF t] [] (Bo (ufit op a b t)) []:=by
 have b3:=uok_bd ht
 refine CallOk.mk 100 Tryz.func254 rfl en254 (by simp[Tryz.ntmps254]) (by simp[ClV,V.g,Cv.g,unF,ci]) fun C hR=>?_
 refine vv ?_
 by_cases h3:op=3
 ·subst h3
  refine vv ?_
  refine CallQ.pure 106 (fumul a b ha hb) rfl ?_
  cases h5:uo5 1 a b<;>simp only[cond_true,cond_false]
  ·simp(maxSteps:=2000000) only[go_sem]
   refine RetQ.bool hR rfl ⟨rfl,trivial⟩ ?_
   symm
   simp only[ufit,if_true,decide_eq_false_iff_not]
   rintro⟨q1,q2,q3,q4,q5⟩
   simp only[uo5,uok,decide_eq_false_iff_not]at h5
   omega
  ·simp(maxSteps:=2000000) only[go_sem]
   refine RetQ.bool hR rfl ⟨rfl,trivial⟩ ?_
   rw[Bool.eq_iff_iff]
   simp[ufit]
 ·have e3:(op==3)=false:=by simpa using h3
  simp only[e3]
  by_cases h4:op=4
  ·subst h4
   refine vv ?_
   refine CallQ.pure 106 (udiv a b ha hb) rfl ?_
   cases h5:uo5 (-1) a b<;>simp only[cond_true,cond_false]
   ·simp(maxSteps:=2000000) only[go_sem]
    refine RetQ.bool hR rfl ⟨rfl,trivial⟩ ?_
    symm
    simp only[ufit,Int.reduceEq,if_true,if_false,decide_eq_false_iff_not]
    rintro⟨q1,q2,q3,q4,q5⟩
    simp only[uo5,uok,decide_eq_false_iff_not]at h5
    omega
   ·simp(maxSteps:=2000000) only[go_sem]
    refine RetQ.bool hR rfl ⟨rfl,trivial⟩ ?_
    rw[Bool.eq_iff_iff]
    simp[ufit]
    omega
  ·have e4:(op==4)=false:=by simpa using h4
   simp only[e4]
   refine RetQ.bool hR rfl ⟨rfl,trivial⟩ ?_
   rw[Bool.eq_iff_iff]
   simp[ufit,h3,h4,Bool.cond_eq_ite]
end Go.Proofs.YtkciabfilokfiaaGreat.Fx
