/-  -/
import Derived.Test.YtkciabfilokfiaaGreatPS
import Derived.Test.YtkciabfilokfiaaGreatQT
namespace Go.Proofs.YtkciabfilokfiaaGreat.Fx
open Vg Tf
set_option maxRecDepth 100000
set_option linter.unusedVariables false
set_option linter.unusedSimpArgs false
theorem oErr_same (op:Int)(a:Ft)(x x':Int)(b:Ft)(y:Int)(t:Ft)(hx:fin a x=true)(hx':fin a x'=true):oErr op a x' b y t=oErr op a x b y t:=by
 unfold oErr
 rw[hx,hx']
theorem oErr_ok {op:Int}{a:Ft}{x:Int}{b:Ft}{y:Int}{t:Ft}(h:oErr op a x b y t=0):(fok a=true∧fin a x=true)∧(fok b=true∧fin b y=true)∧fok t=true∧ufit op a b t=true∧(op=4→fnu b y≠0):=by
 unfold oErr at h
 split at h
 ·omega
 split at h
 ·omega
 split at h
 ·omega
 rename_i h1 h2 h3
 simp only[Bool.not_eq_false,Bool.and_eq_true]at h1 h2
 exact⟨h1.1,h1.2.1,h1.2.2,h2,fun h4 h5=>h3 ⟨h4,h5⟩⟩
theorem grow_math {op:Int}{a:Ft}{x x':Int}{b:Ft}{y:Int}{t:Ft}(ho1:1≤op)(ho2:op≤4)(h:oErr op a x b y t=0)(hx:fin a x'=true)(hxx:x≤x'):
  ((op≤2∨0≤fnu b y)→oRaw op a x b y t≤oRaw op a x' b y t)∧((2<op∧fnu b y<0)→oRaw op a x' b y t≤oRaw op a x b y t):=by
 obtain⟨⟨a1,a2⟩,⟨b1,b2⟩,t1,_,h4⟩:=oErr_ok h
 have hf:=fok_bd a1
 have hg:=fok_bd b1
 have hb:=c_bd op a1 a2 b1 b2 ho1 ho2 h4
 have hb':=c_bd op a1 hx b1 b2 ho1 ho2 h4
 have hn:fnu a x≤fnu a x':=by
  unfold fnu
  have:=Int.mul_le_mul_of_nonneg_right hxx (show 0≤a.num by omega)
  omega
 have m1:fnu a x*b.den≤fnu a x'*b.den:=Int.mul_le_mul_of_nonneg_right hn (by omega)
 unfold oRaw
 generalize fnu a x=p at*
 generalize fnu a x'=p' at*
 generalize fnu b y=q at*
 have e:cD op p' a.den q b.den=cD op p a.den q b.den:=rfl
 have m2:0≤q→p*q≤p'*q:=fun hq=>Int.mul_le_mul_of_nonneg_right hn hq
 have m3:q<0→p'*q≤p*q:=fun hq=>Int.mul_le_mul_of_nonpos_right hn (by omega)
 have s1:q<0→q*a.den<0:=fun hq=>Int.mul_neg_of_neg_of_pos hq (by omega)
 have s2:0≤q→0≤q*a.den:=fun hq=>Int.mul_nonneg hq (by omega)
 rw[e]
 constructor
 ·intro hc
  refine fixR_mono t1 (by omega) ?_
  unfold cN
  rcases(show op=1∨op=2∨op=3∨op=4 by omega)with rfl|rfl|rfl|rfl
  ·simp;omega
  ·simp;omega
  ·simp;exact m2 (by omega)
  ·have:=s2 (by omega)
   simp[show ¬q*a.den<0 by omega];exact m1
 ·intro hc
  refine fixR_mono t1 (by omega) ?_
  unfold cN
  rcases(show op=3∨op=4 by omega)with rfl|rfl
  ·simp;exact m3 (by omega)
  ·have:=s1 (by omega)
   simp[this];omega
theorem rnd_scale (X Y k:Int)(hk:0<k):rnd 3 (k*X) (k*Y)=rnd 3 X Y:=by
 unfold rnd
 simp only[Int.reduceEq,if_false]
 rw[show 2*(k*X)+k*Y=k*(2*X+Y) by grind,show 2*(k*Y)=k*(2*Y) by grind,Int.mul_ediv_mul_of_pos _ _ hk]
theorem fixR_scale (t:Ft)(N D k:Int)(hk:0<k):fixR t (k*N) (k*D)=fixR t N D:=by
 unfold fixR
 rw[show k*N*t.den-t.off*(k*D)=k*(N*t.den-t.off*D) by grind,show k*D*t.num=k*(D*t.num) by grind,rnd_scale _ _ _ hk]
theorem fixR_le {t:Ft}{N D N' D':Int}(h:fok t=true)(hD:0<D)(hD':0<D')(hN:N*D'≤N'*D):fixR t N D≤fixR t N' D':=by
 rw[←fixR_scale t N D D' hD',←fixR_scale t N' D' D hD,Int.mul_comm D' D]
 exact fixR_mono h (Int.mul_pos hD hD') (by rw[Int.mul_comm D' N,Int.mul_comm D N'];exact hN)
theorem grow_y {op:Int}{a:Ft}{x:Int}{b:Ft}{y y':Int}{t:Ft}(ho1:1≤op)(ho2:op≤4)(ha:fok a=true)(hx:fin a x=true)(hb:fok b=true)(hy:fin b y=true)(hy':fin b y'=true)(ht:fok t=true)(hyy:y≤y')
  (h4:op=4→0<fnu b y∨fnu b y'<0):
  ((op=1∨(op=3∧0≤fnu a x)∨(op=4∧fnu a x≤0))→oRaw op a x b y t≤oRaw op a x b y' t)∧((op=2∨(op=3∧fnu a x≤0)∨(op=4∧0≤fnu a x))→oRaw op a x b y' t≤oRaw op a x b y t):=by
 have hf:=fok_bd ha
 have hg:=fok_bd hb
 have hn:fnu b y≤fnu b y':=by
  unfold fnu
  have:=Int.mul_le_mul_of_nonneg_right hyy (show 0≤b.num by omega)
  omega
 unfold oRaw
 generalize fnu a x=p at*
 generalize fnu b y=q at*
 generalize fnu b y'=q' at*
 have m1:q*a.den≤q'*a.den:=Int.mul_le_mul_of_nonneg_right hn (by omega)
 have pD:0<a.den*b.den:=Int.mul_pos (by omega) (by omega)
 have m2:0≤p→p*q≤p*q':=fun hq=>Int.mul_le_mul_of_nonneg_left hn hq
 have m3:p≤0→p*q'≤p*q:=fun hq=>by
  have:=Int.mul_le_mul_of_nonneg_left hn (show 0≤ -p by omega);rw[Int.neg_mul,Int.neg_mul]at this;omega
 have n2:0≤p→p*b.den*(q*a.den)≤p*b.den*(q'*a.den):=fun hq=>Int.mul_le_mul_of_nonneg_left m1 (Int.mul_nonneg hq (by omega))
 have n3:p≤0→p*b.den*(q'*a.den)≤p*b.den*(q*a.den):=fun hq=>by
  have:=Int.mul_le_mul_of_nonneg_left m1 (Int.mul_nonneg (show 0≤ -p by omega) (show 0≤b.den by omega))
  rw[Int.neg_mul,Int.neg_mul,Int.neg_mul]at this;omega
 have s0:op=4→(0<q*a.den∧0<q'*a.den)∨(q*a.den<0∧q'*a.den<0):=fun h=>by
  rcases h4 h with h|h
  ·exact .inl ⟨Int.mul_pos h (by omega),Int.mul_pos (by omega) (by omega)⟩
  ·exact .inr ⟨Int.mul_neg_of_neg_of_pos (by omega) (by omega),Int.mul_neg_of_neg_of_pos (by omega) (by omega)⟩
 unfold cN cD
 constructor
 ·rintro(rfl|⟨rfl,h⟩|⟨rfl,h⟩)
  ·simp only[if_true,true_or];exact fixR_mono ht pD (by omega)
  ·simp only[Int.reduceEq,if_true,if_false,or_true];exact fixR_mono ht pD (m2 h)
  ·have:=n3 h
   rcases s0 rfl with⟨s1,s2⟩|⟨s1,s2⟩
   ·simp only[Int.reduceEq,if_false,or_false,show ¬q*a.den<0 by omega,show ¬q'*a.den<0 by omega]
    exact fixR_le ht s1 s2 (by omega)
   ·simp only[Int.reduceEq,if_true,if_false,or_false,s1,s2]
    exact fixR_le ht (by omega) (by omega) (by rw[Int.neg_mul_neg,Int.neg_mul_neg];omega)
 ·rintro(rfl|⟨rfl,h⟩|⟨rfl,h⟩)
  ·simp only[Int.reduceEq,if_true,if_false,true_or,or_true];exact fixR_mono ht pD (by omega)
  ·simp only[Int.reduceEq,if_true,if_false,or_true];exact fixR_mono ht pD (m3 h)
  ·have:=n2 h
   rcases s0 rfl with⟨s1,s2⟩|⟨s1,s2⟩
   ·simp only[Int.reduceEq,if_false,or_false,show ¬q*a.den<0 by omega,show ¬q'*a.den<0 by omega]
    exact fixR_le ht s2 s1 (by omega)
   ·simp only[Int.reduceEq,if_true,if_false,or_false,s1,s2]
    exact fixR_le ht (by omega) (by omega) (by rw[Int.neg_mul_neg,Int.neg_mul_neg];omega)
theorem between_y {op:Int}{a:Ft}{x:Int}{b:Ft}{y y1 y2:Int}{t:Ft}(ho1:1≤op)(ho2:op≤4)(ha:fok a=true)(hx:fin a x=true)(hb:fok b=true)(hy:fin b y=true)(hy1:fin b y1=true)(hy2:fin b y2=true)(ht:fok t=true)(h1:y1≤y)(h2:y≤y2)
  (h4:op=4→0<fnu b y1∨fnu b y2<0) (hn1:fnu b y1≤fnu b y) (hn2:fnu b y≤fnu b y2):
  min (oRaw op a x b y1 t) (oRaw op a x b y2 t)≤oRaw op a x b y t∧oRaw op a x b y t≤max (oRaw op a x b y1 t) (oRaw op a x b y2 t):=by
 have g1:=grow_y ho1 ho2 ha hx hb hy1 hy ht h1 (fun h=>by have:=h4 h;omega)
 have g2:=grow_y ho1 ho2 ha hx hb hy hy2 ht h2 (fun h=>by have:=h4 h;omega)
 by_cases hc:op=1∨(op=3∧0≤fnu a x)∨(op=4∧fnu a x≤0)
 ·have:=g1.1 hc;have:=g2.1 hc;omega
 ·have hc':op=2∨(op=3∧fnu a x≤0)∨(op=4∧0≤fnu a x):=by omega
  have:=g1.2 hc';have:=g2.2 hc';omega
theorem between_x {op:Int}{a:Ft}{x x1 x2:Int}{b:Ft}{y:Int}{t:Ft}(ho1:1≤op)(ho2:op≤4)(h:oErr op a x1 b y t=0)(hx:fin a x=true)(hx2:fin a x2=true)(h1:x1≤x)(h2:x≤x2):
  min (oRaw op a x1 b y t) (oRaw op a x2 b y t)≤oRaw op a x b y t∧oRaw op a x b y t≤max (oRaw op a x1 b y t) (oRaw op a x2 b y t):=by
 have hk:=oErr_ok h
 have g1:=grow_math ho1 ho2 h hx h1
 have g2:=grow_math ho1 ho2 ((oErr_same op a x1 x b y t hk.1.2 hx).trans h) hx2 h2
 by_cases hc:op≤2∨0≤fnu b y
 ·have:=g1.1 hc;have:=g2.1 hc;omega
 ·have:=g1.2 (by omega);have:=g2.2 (by omega);omega
theorem vErr_ok {op a1 a2 b1 b2:Int}{ta tb t:Ft}(h:vErr op a1 a2 b1 b2 ta tb t=0):(1≤op∧op≤4)∧(fok ta=true∧a1≤a2∧fin ta a1=true∧fin ta a2=true)∧(fok tb=true∧b1≤b2∧fin tb b1=true∧fin tb b2=true)∧fok t=true∧ufit op ta tb t=true∧(op=4→0<fnu tb b1∨fnu tb b2<0):=by
 unfold vErr at h
 split at h
 ·omega
 split at h
 ·omega
 split at h
 ·omega
 rename_i h1 h2 h3
 simp only[not_or,Bool.not_eq_false,Bool.and_eq_true,decide_eq_true_eq]at h1 h2
 exact⟨by omega,h1.2.1,h1.2.2.1,h1.2.2.2,h2,fun h=>by omega⟩
theorem fin_mid {t:Ft}{x y z:Int}(hx:fin t x=true)(hz:fin t z=true)(h1:x≤y)(h2:y≤z):fin t y=true:=by
 simp only[fin,Bool.and_eq_true,decide_eq_true_eq]at*
 omega
def inR (a b:Int×Int):Prop:=b.1≤a.1∧a.2≤b.2
theorem vR_in {op:Int}{a b:Int×Int}{ta tb t:Ft}{x y:Int}(h:vErr op a.1 a.2 b.1 b.2 ta tb t=0)(x1:a.1≤x)(x2:x≤a.2)(y1:b.1≤y)(y2:y≤b.2):
  vLo op a.1 a.2 b.1 b.2 ta tb t≤oRaw op ta x tb y t∧oRaw op ta x tb y t≤vHi op a.1 a.2 b.1 b.2 ta tb t:=by
 obtain⟨ho,⟨ka,kl,k1,k2⟩,⟨la,ll,l1,l2⟩,t1,hu,h4⟩:=vErr_ok h
 have nb:=fnu_mono la ll
 have fp:=fin_mid k1 k2 x1 x2
 have fq:=fin_mid l1 l2 y1 y2
 have nq1:=fnu_mono la y1
 have nq2:=fnu_mono la y2
 have er:oErr op ta a.1 tb y t=0:=by
  rw[oErr,if_neg (by simp[ka,k1,la,fq,t1]),if_neg (by simp[hu]),if_neg (by omega)]
 have z1:=between_y ho.1 ho.2 ka k1 la fq l1 l2 t1 y1 y2 h4 nq1 nq2
 have z2:=between_y ho.1 ho.2 ka k2 la fq l1 l2 t1 y1 y2 h4 nq1 nq2
 have z3:=between_x ho.1 ho.2 er fp k2 x1 x2
 simp only[vLo,vHi,h,if_true]
 omega
theorem vErr_wide {op:Int}{a b a' b':Int×Int}{ta tb t:Ft}(h:vErr op a.1 a.2 b.1 b.2 ta tb t=0)(ga:gdR ta a')(gb:gdR tb b'):vErr op a'.1 a'.2 b'.1 b'.2 ta tb t=0∨vErr op a'.1 a'.2 b'.1 b'.2 ta tb t=10:=by
 obtain⟨ho,⟨ka,kl,k1,k2⟩,⟨la,ll,l1,l2⟩,t1,hu,h4⟩:=vErr_ok h
 have f1:=fin_of ga ka (Int.le_refl _) ga.2.1
 have f2:=fin_of ga ka ga.2.1 (Int.le_refl _)
 have f3:=fin_of gb la (Int.le_refl _) gb.2.1
 have f4:=fin_of gb la gb.2.1 (Int.le_refl _)
 unfold vErr
 rw[if_neg (by simp[ka,la,t1,f1,f2,f3,f4,ga.2.1,gb.2.1];omega),if_neg (by simp[hu])]
 split
 ·exact .inr rfl
 ·exact .inl rfl
theorem vR_mono {op:Int}{a b a' b':Int×Int}{ta tb t:Ft}(h:vErr op a.1 a.2 b.1 b.2 ta tb t=0)(h':vErr op a'.1 a'.2 b'.1 b'.2 ta tb t=0)(ha:inR a a')(hb:inR b b'):
  vLo op a'.1 a'.2 b'.1 b'.2 ta tb t≤vLo op a.1 a.2 b.1 b.2 ta tb t∧vHi op a.1 a.2 b.1 b.2 ta tb t≤vHi op a'.1 a'.2 b'.1 b'.2 ta tb t:=by
 obtain⟨ho,⟨ka,kl,k1,k2⟩,⟨la,ll,l1,l2⟩,t1,hu,h4⟩:=vErr_ok h
 obtain⟨a1,a2⟩:=ha
 obtain⟨b1,b2⟩:=hb
 have c1:=vR_in h' (x:=a.1) (y:=b.1) a1 (by omega) b1 (by omega)
 have c2:=vR_in h' (x:=a.1) (y:=b.2) a1 (by omega) (by omega) b2
 have c3:=vR_in h' (x:=a.2) (y:=b.1) (by omega) a2 b1 (by omega)
 have c4:=vR_in h' (x:=a.2) (y:=b.2) (by omega) a2 (by omega) b2
 have e1:vLo op a.1 a.2 b.1 b.2 ta tb t=min (min (min (oRaw op ta a.1 tb b.1 t) (oRaw op ta a.1 tb b.2 t)) (oRaw op ta a.2 tb b.1 t)) (oRaw op ta a.2 tb b.2 t):=by unfold vLo;rw[if_pos h]
 have e2:vHi op a.1 a.2 b.1 b.2 ta tb t=max (max (max (oRaw op ta a.1 tb b.1 t) (oRaw op ta a.1 tb b.2 t)) (oRaw op ta a.2 tb b.1 t)) (oRaw op ta a.2 tb b.2 t):=by unfold vHi;rw[if_pos h]
 rw[e1,e2]
 omega
end Go.Proofs.YtkciabfilokfiaaGreat.Fx
