/-  -/
import Derived.Test.YtkciabfilokfiaaGreatPS
import Derived.Test.YtkciabfilokfiaaGreatXD1
import Derived.Test.YtkciabfilokfiaaGreatMB
namespace Go.Proofs.YtkciabfilokfiaaGreat.Fx
open Vg Tf
set_option linter.unusedSimpArgs false
set_option linter.unusedVariables false
set_option maxRecDepth 100000
@[go_sem] def va (t:Ft)(r:Int):V:= .agg [ci t.bits,.v (.bool t.signed),ci t.num,ci t.off,ci t.den,ci t.m,ci t.kg,ci t.s,ci t.a,ci t.k,ci r]
@[go_sem] def rg (lo hi:Int):V:= .agg [ci lo,ci hi]
def hi64 (x:Int):Int:=x/18446744073709551616%18446744073709551616
def lo64 (x:Int):Int:=x%18446744073709551616
theorem wd_def (x:Int):wd x= .agg [cu (hi64 x),cu (lo64 x)]:=rfl
def exW (n d:Int):V:= .agg [cu (hi64 n),cu (lo64 n),cu (hi64 d),cu (lo64 d)]
theorem number5 (t:Ft)(r:Int)(h:fok t=true)(hw:fin t r=true):CallOk Tryz.prog 255 [va t r] [] (.tup [Wi (fnu t r),Wi t.den]) []:=by
 have hb:=fnu_bd h hw
 refine CallOk.mk 100 Tryz.func255 rfl en255 (by simp[Tryz.ntmps255]) (by simp[ClV,V.g,Cv.g,va,ci]) fun C hR=>?_
 refine vv ?_
 refine Sm.dg 101 14 mix ?_
 refine vv ?_
 refine RetQ.int2 hR rfl ⟨rfl,rfl,trivial⟩ ?_ rfl
 unfold fnu at hb⊢
 rw[w64 (x:=r*t.num) (by omega) (by omega),w64 (by omega) (by omega)]
def fixR (t:Ft)(n d:Int):Int:=min (max (rnd 3 (n*t.den-t.off*d) (d*t.num)) (flo t)) (fhi t)
theorem le_rnd (X Y m:Int)(hY:0<Y):m≤rnd 3 X Y↔Y*(2*m-1)≤2*X:=by
 unfold rnd
 simp only[Int.reduceEq,if_false]
 rw[Int.le_ediv_iff_mul_le (by omega)]
 have:Y*(2*m-1)=m*(2*Y)-Y:=by grind
 omega
structure ResSt (t:Ft) (X Y:Int) where
 lo:Int
 hi:Int
 h1:lo≤hi
 h2: -2147483648≤lo
 h3:hi≤4294967295
 hr:min (max (rnd 3 X Y) lo) hi=min (max (rnd 3 X Y) (flo t)) (fhi t)
def rsE (lo hi:Int):Env:=[(7,true,I lo),(8,true,I hi),(2,true,.c (.p 100 0)),(3,true,.c (.p 101 0)),(4,true,.c (.p 102 0)),(5,true,.c (.p 103 0)),(6,true,.c (.p 104 0))]
def rsM (t:Ft)(n d X Y:Int):Mem:=[(104,⟨false,[cu (hi64 Y),cu (lo64 Y)],279⟩),(103,⟨false,[cu (hi64 (2*X)),cu (lo64 (2*X))],279⟩),(102,⟨false,[ci 0,.v (.bool false),ci 0,ci 0,ci 0,ci 0,ci 0,ci 0,ci 0,ci 0,ci 0],235⟩),(101,⟨false,[ci t.bits,.v (.bool t.signed),ci t.num,ci t.off,ci t.den,ci t.m,ci t.kg,ci t.s,ci t.a,ci t.k],43⟩),
 (100,⟨false,[cu (hi64 n),cu (lo64 n),cu (hi64 d),cu (lo64 d)],281⟩)]
theorem bd_mul {a b A B:Int}(h1: -A≤a)(h2:a≤A)(h3: -B≤b)(h4:b≤B): -(A*B)≤a*b∧a*b≤A*B:=by
 rcases Int.lt_or_le b 0 with h|h
 ·have:=mul_bd (a:=a) (b:= -b) (A:=A) (B:=B) h1 h2 (by omega) (by omega)
  rw[Int.mul_neg]at this
  omega
 ·exact mul_bd h1 h2 h h4
theorem result_ (t:Ft)(n d:Int)(h:fok t=true)(hn1: -20282419275553370000000000000000≤n)(hn2:n≤20282419275553370000000000000000)(hd1:1≤d)(hd2:d≤4722367608777000000000):CallOk Tryz.prog 256 [exW n d,fx t] [] (va t (fixR t n d)) []:=by
 have hf:=fok_bd h
 have hl:=flo_bd t h
 have hw64:IntKind.i64.wrap (0-t.off)= -t.off:=by rw[w64 (by omega) (by omega)];omega
 have b1:=bd_mul (a:=n) (b:=t.den) (A:=20282419275553370000000000000000) (B:=1048576) (by omega) (by omega) (by omega) (by omega)
 have b2:=bd_mul (a:=d) (b:= -t.off) (A:=4722367608777000000000) (B:=1073741824) (by omega) (by omega) (by omega) (by omega)
 have b3:=bd_mul (a:=d) (b:=t.num) (A:=4722367608777000000000) (B:=1048576) (by omega) (by omega) (by omega) (by omega)
 have hX:n*t.den+d* -t.off=n*t.den-t.off*d:=by rw[Int.mul_neg,Int.mul_comm d t.off];omega
 refine CallOk.mk 100 Tryz.func256 rfl en256 (by simp[Tryz.ntmps256]) (by simp[ClV,V.g,Cv.g,fx,exW,ci]) fun C hR=>?_
 simp only[exW]
 refine vv ?_
 refine Sm.dg 103 14 mix ?_
 refine vv ?_
 refine DCallQ.pure 103 (wtimes n t.den (by omega) (by omega) (by omega) (by omega)) rfl ?_
 refine vv ?_
 rw[hw64]
 refine DCallQ.pure 103 (wtimes d (-t.off) (by omega) (by omega) (by omega) (by omega)) rfl ?_
 refine vv ?_
 refine DCallQ.pure 103 (add_ (n*t.den) (d* -t.off)) rfl ?_
 refine vv ?_
 refine DCallQ.pure 103 (wtimes (n*t.den+d* -t.off) 2 (by omega) (by omega) (by omega) (by omega)) rfl ?_
 rw[hX,Int.mul_comm _ 2]
 simp only[wd_def]
 refine vv ?_
 refine CallQ.pure 104 (wtimes d t.num (by omega) (by omega) (by omega) (by omega)) rfl ?_
 simp only[wd_def]
 refine vv ?_
 refine CallQ.pure 105 (limits t h) rfl ?_
 refine vv ?_
 unfold fixR at hR
 generalize hXX:n*t.den-t.off*d=X at*
 generalize hYY:d*t.num=Y at*
 have hY:0<Y:=by rw[←hYY];exact Int.mul_pos (by omega) (by omega)
 refine Sm.loopM (M0:=[]) (α:=ResSt t X Y) (Pins.nil rfl hR) (fun x=>rsE x.lo x.hi) (fun _=>rsM t n d X Y) (fun x=>(x.hi-x.lo).toNat) ⟨flo t,fhi t,by omega,by omega,by omega,rfl⟩
  (fun _=>ClM.of rfl) (fun _=>ClE.of rfl) [(100,100),(101,101),(102,102),(103,103),(104,104)] ?_ ?_
 ·exact⟨rfl,trivial,⟨rfl,rfl,rfl,rfl,rfl,rfl,rfl,trivial⟩,⟨.inr ⟨_,rfl,.inl rfl⟩,.inr ⟨_,rfl,.inl rfl⟩,.inr ⟨_,rfl,.inl rfl⟩,.inr ⟨_,rfl,.inl rfl⟩,.inr ⟨_,rfl,.inl rfl⟩,trivial⟩⟩
 rintro⟨lo,hi,h1,h2,h3,hr⟩ J hb
 simp only at hb⊢
 refine Sm.go 105 ?_
 simp only[rsE,rsM]
 refine vv ?_
 by_cases hlt:lo<hi
 ·have e:decide (lo<hi)=true:=by simpa using hlt
  simp only[e]
  have m1:IntKind.i64.wrap (hi-lo)=hi-lo:=w64 (by omega) (by omega)
  have m2:IntKind.i64.wrap (hi-lo+1)=hi-lo+1:=w64 (by omega) (by omega)
  have m3:IntKind.i64.wrap ((hi-lo+1).tdiv 2)=(hi-lo+1)/2:=by rw[Int.tdiv_eq_ediv_of_nonneg (by omega),w64 (by omega) (by omega)]
  have m4:IntKind.i64.wrap (lo+(hi-lo+1)/2)=lo+(hi-lo+1)/2:=w64 (by omega) (by omega)
  simp only[m1,m2,m3,m4]
  generalize hmid:lo+(hi-lo+1)/2=mid
  have hm1:lo<mid:=by omega
  have hm2:mid≤hi:=by omega
  clear m1 m2 m3 m4
  refine Sm.dg 105 7 mix ?_
  refine vv ?_
  have k1:IntKind.i64.wrap (2*mid)=2*mid:=w64 (by omega) (by omega)
  have k2:IntKind.i64.wrap (2*mid-1)=2*mid-1:=w64 (by omega) (by omega)
  simp only[k1,k2]
  have b4:=bd_mul (a:=Y) (b:=2*mid-1) (A:=5000000000000000000000000000) (B:=8589934592) (by omega) (by omega) (by omega) (by omega)
  refine DCallQ.pure 105 (wtimes Y (2*mid-1) (by omega) (by omega) (by omega) (by omega)) rfl ?_
  refine vv ?_
  refine DCallQ.pure 105 (atmost (Y*(2*mid-1)) (2*X) (by omega) (by omega) (by omega) (by omega)) rfl ?_
  refine vv ?_
  have hiff:=le_rnd X Y mid hY
  by_cases hc:Y*(2*mid-1)≤2*X
  ·have e2:decide (Y*(2*mid-1)≤2*X)=true:=by simpa using hc
   simp only[e2]
   have:=hiff.2 hc
   refine hb _ _ ⟨mid,hi,by omega,by omega,by omega,by omega⟩ [(100,100),(101,101),(102,102),(103,103),(104,104)] (by simp only;omega)
    ⟨rfl,trivial,⟨rfl,rfl,rfl,rfl,rfl,rfl,rfl,trivial⟩,⟨.inr ⟨_,rfl,.inl rfl⟩,.inr ⟨_,rfl,.inl rfl⟩,.inr ⟨_,rfl,.inl rfl⟩,.inr ⟨_,rfl,.inl rfl⟩,.inr ⟨_,rfl,.inl rfl⟩,trivial⟩⟩
  ·have e2:decide (Y*(2*mid-1)≤2*X)=false:=by simpa using hc
   simp only[e2]
   have:¬mid≤rnd 3 X Y:=fun hh=>hc (hiff.1 hh)
   have k3:IntKind.i64.wrap (mid-1)=mid-1:=w64 (by omega) (by omega)
   simp only[k3]
   refine hb _ _ ⟨lo,mid-1,by omega,by omega,by omega,by omega⟩ [(100,100),(101,101),(102,102),(103,103),(104,104)] (by simp only;omega)
    ⟨rfl,trivial,⟨rfl,rfl,rfl,rfl,rfl,rfl,rfl,trivial⟩,⟨.inr ⟨_,rfl,.inl rfl⟩,.inr ⟨_,rfl,.inl rfl⟩,.inr ⟨_,rfl,.inl rfl⟩,.inr ⟨_,rfl,.inl rfl⟩,.inr ⟨_,rfl,.inl rfl⟩,trivial⟩⟩
 ·have e:decide (lo<hi)=false:=by simpa using hlt
  simp only[e]
  refine RetQ.pure hR rfl (vv trivial) ?_ (ClV.of rfl)
  refine vv ?_
  rw[show min (max (rnd 3 X Y) (flo t)) (fhi t)=lo by omega]
end Go.Proofs.YtkciabfilokfiaaGreat.Fx
