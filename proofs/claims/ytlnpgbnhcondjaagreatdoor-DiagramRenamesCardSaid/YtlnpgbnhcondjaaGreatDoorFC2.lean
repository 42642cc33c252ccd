/-  -/
import Derived.Test.YtlnpgbnhcondjaaGreatDoorPS
import Derived.Test.YtlnpgbnhcondjaaGreatDoorTf
namespace Go.Proofs.YtlnpgbnhcondjaaGreatDoor.Fx
open Vg Tf
abbrev I (n:Int):V:= .c (.v (.int .i64 n))
abbrev U (n:Int):V:= .c (.v (.int .u64 n))
abbrev Bo (b:Bool):V:= .c (.v (.bool b))
abbrev Wi (n:Int):W:= .c (.v (.int .i64 n))
theorem w64 {x:Int}(h1: -9223372036854775808≤x)(h2:x≤9223372036854775807):IntKind.i64.wrap x=x:=IntWalk.i64_in x ⟨h1,h2⟩
set_option linter.unusedSimpArgs false
set_option linter.unusedVariables false
set_option maxRecDepth 100000
def rnd (m p c:Int):Int:=if m=1 then p/c else if m=2 then-((-p)/c)else(2*p+c)/(2*c)
end Go.Proofs.YtlnpgbnhcondjaaGreatDoor.Fx
namespace Go.Proofs.YtlnpgbnhcondjaaGreatDoor.Fx
open Vg Tf
set_option linter.unusedSimpArgs false
set_option linter.unusedVariables false
set_option maxRecDepth 100000
structure Ft where
 bits:Int
 signed:Bool
 num:Int
 off:Int
 den:Int
 m:Int
 kg:Int
 s:Int
 a:Int
 k:Int
@[go_sem] def ci (n:Int):Cv:= .v (.int .i64 n)
@[go_sem] def un (m kg s a k:Int):V:= .agg [ci m,ci kg,ci s,ci a,ci k]
@[go_sem] def fx (t:Ft):V:= .agg [ci t.bits,.v (.bool t.signed),ci t.num,ci t.off,ci t.den,ci t.m,ci t.kg,ci t.s,ci t.a,ci t.k]
def uok (m kg s a k:Int):Bool:=decide ((-9≤m∧m≤9)∧(-9≤kg∧kg≤9)∧(-9≤s∧s≤9)∧(-9≤a∧a≤9)∧(-9≤k∧k≤9))
theorem exponents (n:Nat)(cs:List Cv)(el:TypeId)(hc:ClM [(n,⟨true,cs,el⟩)])(hn:n≠1000):CallOk Tryz.prog 254 [.c (.p n 0)] [(n,⟨true,cs,el⟩)] (.agg [.p n 0,.p n 1,.p n 2,.p n 3,.p n 4]) []:=by
 have hcl:∀off,∀β β',Agree [(n,⟨true,cs,el⟩)] β β'→Cv.g β' (.p n off)=Cv.g β (.p n off):=fun off β β' h=>by simp[Cv.g,h n (by simp[Mem.get])]
 refine CallOk.mkM 1000 Tryz.func254 rfl en254 (by simp[Tryz.ntmps254]) (by simp[ClV,V.g];intro β β' h;exact hcl 0 β β' h) fun C hR=>?_
 have hn':(n==1000)=false:=by simpa using hn
 refine vv ?_
 simp only[hn',cond_false]
 refine⟨trivial,Sm.dg 1001 16 mix ?_⟩
 refine vv ?_
 have hn2:(1000==n)=false:=by simp;omega
 refine RetQ.of hR rfl ⟨⟨rfl,by simp[sz258],by simp[sz258]⟩,trivial⟩ ?_ (Sub.one (b':=⟨true,cs,el⟩) (by simp[Mem.get,hn2]) (Wk.refl _)) hc ?_
 ·rfl
 ·intro β β' h
  simp[V.g,hcl _ β β' h]
theorem uvalid (m kg s a k:Int):CallOk Tryz.prog 206 [un m kg s a k] [] (Bo (uok m kg s a k)) []:=by
 refine CallOk.mk 100 Tryz.func206 rfl en206 (by simp[Tryz.ntmps206]) (by simp[ClV,V.g,Cv.g,un,ci]) fun C hR=>?_
 refine vv ?_
 refine CallQ.mem 101 (exponents 100 [ci m,ci kg,ci s,ci a,ci k] 23 (ClM.v rfl) (by decide)) rfl (Sub.one (b':=⟨false,[ci m,ci kg,ci s,ci a,ci k],89⟩) rfl (.inr ⟨rfl,[],rfl⟩)) (ClM.v rfl) ?_
 refine vv ?_
 refine Sm.unroll 6 (Sm.go 101 ?_)
 refine vv ?_
 have key:∀(x:Int) (A B:Prop),(¬(-9≤x∧x≤9)→A)→((-9≤x∧x≤9)→B)→(match (bif decide (x< -9)then true else decide (9<x))with|true=>A|false=>B):=by
  intro x A B h1 h2
  by_cases hx: -9≤x∧x≤9
  ·have e1:decide (x< -9)=false:=by simp;omega
   have e2:decide (9<x)=false:=by simp;omega
   rw[e1,e2];exact h2 hx
  ·have:(bif decide (x< -9)then true else decide (9<x))=true:=by
    by_cases h3:x< -9
    ·simp[h3]
    ·simp[h3];omega
   rw[this];exact h1 hx
 refine key m _ _ (fun h=>RetQ.bool hR rfl ⟨rfl,trivial⟩ (by unfold uok;simp[h])) fun h0=>?_
 refine key kg _ _ (fun h=>RetQ.bool hR rfl ⟨rfl,trivial⟩ (by unfold uok;simp[h])) fun h1=>?_
 refine key s _ _ (fun h=>RetQ.bool hR rfl ⟨rfl,trivial⟩ (by unfold uok;simp[h])) fun h2=>?_
 refine key a _ _ (fun h=>RetQ.bool hR rfl ⟨rfl,trivial⟩ (by unfold uok;simp[h])) fun h3=>?_
 refine key k _ _ (fun h=>RetQ.bool hR rfl ⟨rfl,trivial⟩ (by unfold uok;simp[h])) fun h4=>?_
 exact RetQ.bool hR rfl ⟨rfl,trivial⟩ (by unfold uok;simp[h0,h1,h2,h3,h4])
def fok (t:Ft):Bool:=decide (t.bits=8∨t.bits=16∨t.bits=32)&&decide (1≤t.num∧t.num≤1048576)&&decide (1≤t.den∧t.den≤1048576)&&decide (-1073741824≤t.off∧t.off≤1073741824)&&uok t.m t.kg t.s t.a t.k
theorem fvalid (t:Ft):CallOk Tryz.prog 106 [fx t] [] (Bo (fok t)) []:=by
 refine CallOk.mk 100 Tryz.func106 rfl en106 (by simp[Tryz.ntmps106]) (by simp[ClV,V.g,Cv.g,fx,ci]) fun C hR=>?_
 refine vv ?_
 refine CallQ.guard 101 (fun _=>uvalid t.m t.kg t.s t.a t.k) (fun h=>by rw[h];rfl) ?_
 refine vv ?_
 refine RetQ.bool hR rfl ⟨rfl,trivial⟩ ?_
 unfold fok
 rw[Bool.eq_iff_iff]
 simp only[Bool.cond_eq_ite,Bool.and_eq_true,decide_eq_true_eq,beq_iff_eq]
 generalize uok t.m t.kg t.s t.a t.k=u
 grind
def flo (t:Ft):Int:=bif t.signed then-(2^(t.bits.toNat-1))else 0
def fhi (t:Ft):Int:=bif t.signed then 2^(t.bits.toNat-1)-1 else 2^t.bits.toNat-1
theorem fok_bits {t:Ft}(h:fok t=true):t.bits=8∨t.bits=16∨t.bits=32:=by
 unfold fok at h;simp at h;exact h.1.1.1.1
def fin (t:Ft)(raw:Int):Bool:=decide (flo t≤raw)&&decide (raw≤fhi t)
@[go_sem] def ra (n d:Int):V:= .agg [ci n,ci d]
theorem flo_bd (t:Ft)(h:fok t=true): -2147483648≤flo t∧flo t≤0∧0<fhi t∧fhi t≤4294967295:=by
 have hb:=fok_bits h
 unfold flo fhi
 rcases hb with hb|hb|hb<;>rw[hb]<;>cases t.signed<;>decide
def fnu (t:Ft)(raw:Int):Int:=raw*t.num+t.off
end Go.Proofs.YtlnpgbnhcondjaaGreatDoor.Fx
