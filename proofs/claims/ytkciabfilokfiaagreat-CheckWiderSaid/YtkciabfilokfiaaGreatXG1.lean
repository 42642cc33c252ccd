/-  -/
import Derived.Test.YtkciabfilokfiaaGreatPS
import Derived.Test.YtkciabfilokfiaaGreatXD3
namespace Go.Proofs.YtkciabfilokfiaaGreat.Fx
open Vg Tf
set_option linter.unusedSimpArgs false
set_option linter.unusedVariables false
set_option maxRecDepth 100000
@[go_sem] def vaL (t:Ft)(r:Int):List Cv:=[ci t.bits,.v (.bool t.signed),ci t.num,ci t.off,ci t.den,ci t.m,ci t.kg,ci t.s,ci t.a,ci t.k,ci r]
def z0:Ft:=⟨0,false,0,0,0,0,0,0,0,0⟩
def oErr (op:Int)(a:Ft)(x:Int)(b:Ft)(y:Int)(t:Ft):Int:=
 if ((fok a&&fin a x)&&((fok b&&fin b y)&&fok t))=false then 1 else if ufit op a b t=false then 12 else if op=4∧fnu b y=0 then 10 else 0
def oRaw (op:Int)(a:Ft)(x:Int)(b:Ft)(y:Int)(t:Ft):Int:=fixR t (cN op (fnu a x) a.den (fnu b y) b.den) (cD op (fnu a x) a.den (fnu b y) b.den)
theorem fok_u {t:Ft}(h:fok t=true):uok t.m t.kg t.s t.a t.k=true:=by
 simp only[fok,Bool.and_eq_true]at h
 exact h.2
theorem c_bd (op:Int){a:Ft}{x:Int}{b:Ft}{y:Int}(ha:fok a=true)(hx:fin a x=true)(hb:fok b=true)(hy:fin b y=true)(ho1:1≤op)(ho2:op≤4)(h0:op=4→fnu b y≠0):
  (-20282419275553370000000000000000≤cN op (fnu a x) a.den (fnu b y) b.den∧cN op (fnu a x) a.den (fnu b y) b.den≤20282419275553370000000000000000)∧(1≤cD op (fnu a x) a.den (fnu b y) b.den∧cD op (fnu a x) a.den (fnu b y) b.den≤4722367608777000000000):=by
 have hf:=fok_bd ha
 have hg:=fok_bd hb
 have h1:=fnu_bd ha hx
 have h2:=fnu_bd hb hy
 have p1:=bd_mul (a:=fnu a x) (b:=b.den) (A:=4503600701112320) (B:=1048576) (by omega) (by omega) (by omega) (by omega)
 have p2:=bd_mul (a:=fnu b y) (b:=a.den) (A:=4503600701112320) (B:=1048576) (by omega) (by omega) (by omega) (by omega)
 have p3:=bd_mul (a:=fnu a x) (b:=fnu b y) (A:=4503600701112320) (B:=4503600701112320) (by omega) (by omega) (by omega) (by omega)
 have p4:=bd_mul (a:=a.den) (b:=b.den) (A:=1048576) (B:=1048576) (by omega) (by omega) (by omega) (by omega)
 have p5:0<a.den*b.den:=Int.mul_pos (by omega) (by omega)
 have p6:op=4→fnu b y*a.den≠0:=fun h hh=>by
  rcases Int.mul_eq_zero.1 hh with hh|hh
  ·exact h0 h hh
  ·omega
 unfold cN cD
 generalize fnu a x*b.den=q1 at*
 generalize fnu b y*a.den=q2 at*
 generalize fnu a x*fnu b y=q3 at*
 generalize a.den*b.den=q4 at*
 rcases(show op=1∨op=2∨op=3∨op=4 by omega)with rfl|rfl|rfl|rfl<;>simp<;>(try split)<;>(try have:=p6 rfl)<;>omega
end Go.Proofs.YtkciabfilokfiaaGreat.Fx
namespace Go.Proofs.YtkciabfilokfiaaGreat.Fx
open Vg Tf
set_option linter.unusedSimpArgs false
set_option linter.unusedVariables false
set_option maxRecDepth 100000
set_option maxHeartbeats 4000000
@[go_sem] def fxL (t:Ft):List Cv:=[ci t.bits,.v (.bool t.signed),ci t.num,ci t.off,ci t.den,ci t.m,ci t.kg,ci t.s,ci t.a,ci t.k]
theorem _root_.Go.Proofs.YtkciabfilokfiaaGreat.Vg.Sm.cut {P:Program}{nt:Nat}{C:Cx}{todo:List It}{e:Env}{M M0:Mem}(hP:Pins C.S M0)(E:Env)(Mm:Mem)(L:List (Nat×Nat))(h0:Met C.S M0 E Mm e M L)(hM:ClM Mm)(hE:∀p∈E,ClV Mm p.2.2)(h:Sm P nt C todo E Mm):Sm P nt C todo e M:=
 Sm.wkn (Wkn.ren L hP h0.1 h0.2.1 h0.2.2.1 h0.2.2.2 hM hE) h
@[go_sem ↓] theorem plS21:plS 2 1=[(0,1),(1,1)]:=rfl
@[go_sem ↓] theorem plS52:plS 5 2=[(0,2),(2,2),(4,2),(6,2),(8,2)]:=rfl
def vErr (op a1 a2 b1 b2:Int)(ta tb t:Ft):Int:=
 if (op<1∨4<op)∨((fok ta&&(decide (a1≤a2)&&(fin ta a1&&fin ta a2)))&&((fok tb&&(decide (b1≤b2)&&(fin tb b1&&fin tb b2)))&&fok t))=false then 1
 else if ufit op ta tb t=false then 12 else if op=4∧fnu tb b1≤0∧0≤fnu tb b2 then 10 else 0
def vLo (op a1 a2 b1 b2:Int)(ta tb t:Ft):Int:=if vErr op a1 a2 b1 b2 ta tb t=0 then min (min (min (oRaw op ta a1 tb b1 t) (oRaw op ta a1 tb b2 t)) (oRaw op ta a2 tb b1 t)) (oRaw op ta a2 tb b2 t)else 0
def vHi (op a1 a2 b1 b2:Int)(ta tb t:Ft):Int:=if vErr op a1 a2 b1 b2 ta tb t=0 then max (max (max (oRaw op ta a1 tb b1 t) (oRaw op ta a1 tb b2 t)) (oRaw op ta a2 tb b1 t)) (oRaw op ta a2 tb b2 t)else 0
theorem oRaw_in (op:Int)(a:Ft)(x:Int)(b:Ft)(y:Int)(t:Ft)(h:fok t=true):flo t≤oRaw op a x b y t∧oRaw op a x b y t≤fhi t:=by
 have:=flo_bd t h
 unfold oRaw fixR
 omega
theorem fnu_mono {t:Ft}{x y:Int}(h:fok t=true)(hx:x≤y):fnu t x≤fnu t y:=by
 have:=fok_bd h
 have:=Int.mul_le_mul_of_nonneg_right hx (show 0≤t.num by omega)
 unfold fnu;omega
@[reducible] def ouE (op i:Int):Env:=[(101,true,I i),(100,true,I 2),(99,true,.c (.sl 111 0 2 1)),(20,true,.c (.p 110 0)),(0,true,I op),(12,true,.c (.p 105 0)),(11,true,.c (.p 104 0)),(10,true,.c (.p 103 0)),(9,true,.c (.p 102 0)),(8,true,.c (.p 101 0)),(7,true,.c (.p 100 0)),(13,true,I 0)]
@[reducible] def ouM (a1 a2 b1 b2:Int)(ta tb t:Ft)(lo hi:Int):Mem:=[(111,⟨false,[ci a1,ci a2],3⟩),(110,⟨false,[ci lo,ci hi],45⟩),(105,⟨false,[ci 0,ci 0],45⟩),(104,⟨false,fxL t,43⟩),(103,⟨false,fxL tb,43⟩),(102,⟨false,fxL ta,43⟩),(101,⟨false,[ci b1,ci b2],45⟩),(100,⟨false,[ci a1,ci a2],45⟩)]
@[reducible] def ivE (op i x j:Int):Env:=ouE op i++[(22,true,I x),(111,true,I j),(110,true,I 2),(109,true,.c (.sl 112 0 2 1))]
@[reducible] def ivM (a1 a2 b1 b2:Int)(ta tb t:Ft)(lo hi:Int):Mem:=ouM a1 a2 b1 b2 ta tb t lo hi++[(112,⟨false,[ci b1,ci b2],3⟩)]
theorem fover_ (op a1 a2 b1 b2:Int)(ta tb t:Ft):CallOk Tryz.prog 238 [I op,rg a1 a2,rg b1 b2,fx ta,fx tb,fx t] [] (.tup [.agg [ci (vLo op a1 a2 b1 b2 ta tb t),ci (vHi op a1 a2 b1 b2 ta tb t)],Wi (vErr op a1 a2 b1 b2 ta tb t)]) []:=by
 refine CallOk.mk 100 Tryz.func238 rfl en238 (by simp[Tryz.ntmps238]) (by simp[ClV,V.g,Cv.g,rg,fx,ci]) fun C hR=>?_
 by_cases ho:op<1∨4<op
 ·have e:vErr op a1 a2 b1 b2 ta tb t=1:=by rw[vErr,if_pos (.inl ho)]
  unfold vLo vHi at hR
  rw[e]at hR
  refine vv ?_
  have e1:(bif decide (op<1)then true else decide (4<op))=true:=by simp[Bool.cond_eq_ite];omega
  simp only[e1]
  refine CallQ.guard 110 (fun hh=>by cases hh) (fun hh=>by cases hh) (xs:=[]) (v:=Bo true) ?_
  refine vv ?_
  refine CallQ.guard 110 (fun hh=>by cases hh) (fun hh=>by cases hh) (xs:=[]) (v:=Bo true) ?_
  refine vv ?_
  refine CallQ.guard 110 (fun hh=>by cases hh) (fun hh=>by cases hh) (xs:=[]) (v:=Bo true) ?_
  refine vv ?_
  exact RetQ.pure hR rfl (vv trivial) rvr (ClV.of rfl)
 ·have e1:(bif decide (op<1)then true else decide (4<op))=false:=by simp[Bool.cond_eq_ite];omega
  refine vv ?_
  simp only[e1]
  refine CallQ.pure 110 (within5 a1 a2 ta) rfl ?_
  cases h1:(fok ta&&(decide (a1≤a2)&&(fin ta a1&&fin ta a2)))with
  |false=>
   have e:vErr op a1 a2 b1 b2 ta tb t=1:=by rw[vErr,if_pos (.inr (by rw[h1];rfl))]
   unfold vLo vHi at hR
   rw[e]at hR
   refine vv ?_
   refine CallQ.guard 110 (fun hh=>by cases hh) (fun hh=>by cases hh) (xs:=[]) (v:=Bo true) ?_
   refine vv ?_
   refine CallQ.guard 110 (fun hh=>by cases hh) (fun hh=>by cases hh) (xs:=[]) (v:=Bo true) ?_
   refine vv ?_
   exact RetQ.pure hR rfl (vv trivial) rvr (ClV.of rfl)
  |true=>
   refine vv ?_
   refine CallQ.pure 110 (within5 b1 b2 tb) rfl ?_
   cases h2:(fok tb&&(decide (b1≤b2)&&(fin tb b1&&fin tb b2)))with
   |false=>
    have e:vErr op a1 a2 b1 b2 ta tb t=1:=by rw[vErr,if_pos (.inr (by rw[h1,h2];rfl))]
    unfold vLo vHi at hR
    rw[e]at hR
    refine vv ?_
    refine CallQ.guard 110 (fun hh=>by cases hh) (fun hh=>by cases hh) (xs:=[]) (v:=Bo true) ?_
    refine vv ?_
    exact RetQ.pure hR rfl (vv trivial) rvr (ClV.of rfl)
   |true=>
    refine vv ?_
    refine CallQ.pure 110 (fvalid t) rfl ?_
    cases h3:fok t with
    |false=>
     have e:vErr op a1 a2 b1 b2 ta tb t=1:=by rw[vErr,if_pos (.inr (by rw[h1,h2,h3];rfl))]
     unfold vLo vHi at hR
     rw[e]at hR
     refine vv ?_
     exact RetQ.pure hR rfl (vv trivial) rvr (ClV.of rfl)
    |true=>
     have g0:¬((op<1∨4<op)∨((fok ta&&(decide (a1≤a2)&&(fin ta a1&&fin ta a2)))&&((fok tb&&(decide (b1≤b2)&&(fin tb b1&&fin tb b2)))&&fok t))=false):=by
      rw[h1,h2,h3];simp;omega
     simp only[Bool.and_eq_true,decide_eq_true_eq]at h1 h2
     obtain⟨k1,k2,k3,k4⟩:=h1
     obtain⟨l1,l2,l3,l4⟩:=h2
     refine vv ?_
     refine CallQ.pure 110 (fit_ op ta tb t (fok_u k1) (fok_u l1) (fok_u h3)) rfl ?_
     cases h4:ufit op ta tb t with
     |false=>
      have e:vErr op a1 a2 b1 b2 ta tb t=12:=by rw[vErr,if_neg g0,if_pos h4]
      unfold vLo vHi at hR
      rw[e]at hR
      refine vv ?_
      exact RetQ.pure hR rfl (vv trivial) rvr (ClV.of rfl)
     |true=>
      refine vv ?_
      refine CallQ.pure 110 (number5 tb b1 l1 l3) rfl ?_
      refine vv ?_
      refine CallQ.pure 110 (number5 tb b2 l1 l4) rfl ?_
      refine vv ?_
      by_cases h5:op=4∧fnu tb b1≤0∧0≤fnu tb b2
      ·have e:vErr op a1 a2 b1 b2 ta tb t=10:=by rw[vErr,if_neg g0,if_neg (by simp[h4]),if_pos h5]
       unfold vLo vHi at hR
       rw[e]at hR
       have e5:(bif (bif op==4 then decide (fnu tb b1≤0)else false)then decide (0≤fnu tb b2)else false)=true:=by simp[h5]
       simp only[e5]
       exact RetQ.pure hR rfl (vv trivial) rvr (ClV.of rfl)
      ·have e:vErr op a1 a2 b1 b2 ta tb t=0:=by rw[vErr,if_neg g0,if_neg (by simp[h4]),if_neg h5]
       unfold vLo vHi at hR
       rw[e]at hR
       have e5:(bif (bif op==4 then decide (fnu tb b1≤0)else false)then decide (0≤fnu tb b2)else false)=false:=by
        simp only[Bool.cond_eq_ite];split<;>simp_all
       simp only[e5]
       have z1:op=4→fnu tb b1≠0:=fun h hh=>by have:=fnu_mono l1 l2;omega
       have z2:op=4→fnu tb b2≠0:=fun h hh=>by have:=fnu_mono l1 l2;omega
       have i11:=oRaw_in op ta a1 tb b1 t h3
       have i12:=oRaw_in op ta a1 tb b2 t h3
       have i21:=oRaw_in op ta a2 tb b1 t h3
       have i22:=oRaw_in op ta a2 tb b2 t h3
       have c11:=c_bd op k1 k3 l1 l3 (by omega) (by omega) z1
       have c12:=c_bd op k1 k3 l1 l4 (by omega) (by omega) z2
       have c21:=c_bd op k1 k4 l1 l3 (by omega) (by omega) z1
       have c22:=c_bd op k1 k4 l1 l4 (by omega) (by omega) z2
       refine CallQ.pure 110 (limits t h3) rfl ?_
       refine vv ?_
       refine Sm.cut (Pins.nil rfl hR) (ouE op 0) (ouM a1 a2 b1 b2 ta tb t (fhi t) (flo t)) [(111,111),(110,110),(105,105),(104,104),(103,103),(102,102),(101,101),(100,100)]
        ⟨rfl,trivial,⟨rfl,rfl,rfl,rfl,rfl,rfl,rfl,rfl,rfl,rfl,rfl,rfl,trivial⟩,⟨.inr ⟨_,rfl,.inl rfl⟩,.inr ⟨_,rfl,.inl rfl⟩,.inr ⟨_,rfl,.inl rfl⟩,.inr ⟨_,rfl,.inl rfl⟩,.inr ⟨_,rfl,.inl rfl⟩,.inr ⟨_,rfl,.inl rfl⟩,.inr ⟨_,rfl,.inl rfl⟩,.inr ⟨_,rfl,.inl rfl⟩,trivial⟩⟩ (ClM.of rfl) (ClE.of rfl) ?_
       refine Sm.unroll 3 (Sm.go 120 ?_)
       refine vv ?_
       refine Sm.cut (Pins.nil rfl hR) (ivE op 0 a1 0) (ivM a1 a2 b1 b2 ta tb t (fhi t) (flo t)) [(111,111),(110,110),(105,105),(104,104),(103,103),(102,102),(101,101),(100,100),(112,120)]
        ⟨rfl,trivial,⟨rfl,rfl,rfl,rfl,rfl,rfl,rfl,rfl,rfl,rfl,rfl,rfl,rfl,rfl,rfl,rfl,trivial⟩,⟨.inr ⟨_,rfl,.inl rfl⟩,.inr ⟨_,rfl,.inl rfl⟩,.inr ⟨_,rfl,.inl rfl⟩,.inr ⟨_,rfl,.inl rfl⟩,.inr ⟨_,rfl,.inl rfl⟩,.inr ⟨_,rfl,.inl rfl⟩,.inr ⟨_,rfl,.inl rfl⟩,.inr ⟨_,rfl,.inl rfl⟩,.inr ⟨_,rfl,.inl rfl⟩,trivial⟩⟩ (ClM.of rfl) (ClE.of rfl) ?_
       refine Sm.unroll 3 (Sm.go 130 ?_)
       refine vv ?_
       refine Sm.dg 130 11 mix ?_
       refine vv ?_
       refine DCallQ.pure 130 (fcombine_ op ta tb a1 b1 k1 k3 l1 l3 (by omega) (by omega)) rfl ?_
       refine vv ?_
       refine DCallQ.pure 130 (result_ t _ _ h3 c11.1.1 c11.1.2 c11.2.1 c11.2.2) rfl ?_
       simp only[←oRaw.eq_1]
       refine vv ?_
       refine Sm.dg 140 11 mix ?_
       refine vv ?_
       refine DCallQ.pure 140 (fcombine_ op ta tb a1 b2 k1 k3 l1 l4 (by omega) (by omega)) rfl ?_
       refine vv ?_
       refine DCallQ.pure 140 (result_ t _ _ h3 c12.1.1 c12.1.2 c12.2.1 c12.2.2) rfl ?_
       simp only[←oRaw.eq_1]
       refine vv ?_
       refine Sm.cut (Pins.nil rfl hR) (ivE op 1 a2 0) (ivM a1 a2 b1 b2 ta tb t (min (min (fhi t) (oRaw op ta a1 tb b1 t)) (oRaw op ta a1 tb b2 t)) (max (max (flo t) (oRaw op ta a1 tb b1 t)) (oRaw op ta a1 tb b2 t))) [(111,111),(110,110),(105,105),(104,104),(103,103),(102,102),(101,101),(100,100),(112,141)]
        ⟨rfl,trivial,⟨rfl,rfl,rfl,rfl,rfl,rfl,rfl,rfl,rfl,rfl,rfl,rfl,rfl,rfl,rfl,rfl,trivial⟩,⟨.inr ⟨_,rfl,.inl rfl⟩,.inr ⟨_,rfl,.inl rfl⟩,.inr ⟨_,rfl,.inl rfl⟩,.inr ⟨_,rfl,.inl rfl⟩,.inr ⟨_,rfl,.inl rfl⟩,.inr ⟨_,rfl,.inl rfl⟩,.inr ⟨_,rfl,.inl rfl⟩,.inr ⟨_,rfl,.inl rfl⟩,.inr ⟨_,rfl,.inl rfl⟩,trivial⟩⟩ (ClM.of rfl) (ClE.of rfl) ?_
       refine Sm.unroll 3 (Sm.go 130 ?_)
       refine vv ?_
       refine Sm.dg 130 11 mix ?_
       refine vv ?_
       refine DCallQ.pure 130 (fcombine_ op ta tb a2 b1 k1 k4 l1 l3 (by omega) (by omega)) rfl ?_
       refine vv ?_
       refine DCallQ.pure 130 (result_ t _ _ h3 c21.1.1 c21.1.2 c21.2.1 c21.2.2) rfl ?_
       simp only[←oRaw.eq_1]
       refine vv ?_
       refine Sm.dg 140 11 mix ?_
       refine vv ?_
       refine DCallQ.pure 140 (fcombine_ op ta tb a2 b2 k1 k4 l1 l4 (by omega) (by omega)) rfl ?_
       refine vv ?_
       refine DCallQ.pure 140 (result_ t _ _ h3 c22.1.1 c22.1.2 c22.2.1 c22.2.2) rfl ?_
       simp only[←oRaw.eq_1]
       refine vv ?_
       refine RetQ.pure hR rfl (vv trivial) ?_ (ClV.of rfl)
       refine vv ?_
       rw[if_pos trivial,if_pos trivial,show min (fhi t) (oRaw op ta a1 tb b1 t)=oRaw op ta a1 tb b1 t by omega,show max (flo t) (oRaw op ta a1 tb b1 t)=oRaw op ta a1 tb b1 t by omega]
end Go.Proofs.YtkciabfilokfiaaGreat.Fx
