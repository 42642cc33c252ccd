/-  -/
import Derived.Test.YtkciabfilokfiaaGreatPS
import Derived.Test.YtkciabfilokfiaaGreatFC1
import Derived.Test.YtkciabfilokfiaaGreatMB
import Derived.Lib.Bytealg
import Derived.Lib.IndexLaws
namespace Go.Proofs.YtkciabfilokfiaaGreat.Fx
open Vg Tf
set_option linter.unusedSimpArgs false
set_option linter.unusedVariables false
set_option maxRecDepth 100000
structure Ft where
 bits:Int
 signed:Bool
 num:Int
 off:Int
 den:Int
 m:Int
 kg:Int
 s:Int
 a:Int
 k:Int
@[go_sem] def ci (n:Int):Cv:= .v (.int .i64 n)
@[go_sem] def un (m kg s a k:Int):V:= .agg [ci m,ci kg,ci s,ci a,ci k]
@[go_sem] def fx (t:Ft):V:= .agg [ci t.bits,.v (.bool t.signed),ci t.num,ci t.off,ci t.den,ci t.m,ci t.kg,ci t.s,ci t.a,ci t.k]
def uok (m kg s a k:Int):Bool:=decide ((-9≤m∧m≤9)∧(-9≤kg∧kg≤9)∧(-9≤s∧s≤9)∧(-9≤a∧a≤9)∧(-9≤k∧k≤9))
theorem exponents (n:Nat)(cs:List Cv)(el:TypeId)(hc:ClM [(n,⟨true,cs,el⟩)])(hn:n≠1000):CallOk Tryz.prog 175 [.c (.p n 0)] [(n,⟨true,cs,el⟩)] (.agg [.p n 0,.p n 1,.p n 2,.p n 3,.p n 4]) []:=by
 have hcl:∀off,∀β β',Agree [(n,⟨true,cs,el⟩)] β β'→Cv.g β' (.p n off)=Cv.g β (.p n off):=fun off β β' h=>by simp[Cv.g,h n (by simp[Mem.get])]
 refine CallOk.mkM 1000 Tryz.func175 rfl en175 (by simp[Tryz.ntmps175]) (by simp[ClV,V.g];intro β β' h;exact hcl 0 β β' h) fun C hR=>?_
 have hn':(n==1000)=false:=by simpa using hn
 refine vv ?_
 simp only[hn',cond_false]
 refine⟨trivial,Sm.dg 1001 16 mix ?_⟩
 refine vv ?_
 have hn2:(1000==n)=false:=by simp;omega
 refine RetQ.of hR rfl ⟨⟨rfl,by simp[sz206],by simp[sz206]⟩,trivial⟩ ?_ (Sub.one (b':=⟨true,cs,el⟩) (by simp[Mem.get,hn2]) (Wk.refl _)) hc ?_
 ·rfl
 ·intro β β' h
  simp[V.g,hcl _ β β' h]
theorem uvalid (m kg s a k:Int):CallOk Tryz.prog 115 [un m kg s a k] [] (Bo (uok m kg s a k)) []:=by
 refine CallOk.mk 100 Tryz.func115 rfl en115 (by simp[Tryz.ntmps115]) (by simp[ClV,V.g,Cv.g,un,ci]) fun C hR=>?_
 refine vv ?_
 refine CallQ.mem 101 (exponents 100 [ci m,ci kg,ci s,ci a,ci k] 23 (ClM.v rfl) (by decide)) rfl (Sub.one (b':=⟨false,[ci m,ci kg,ci s,ci a,ci k],41⟩) rfl (.inr ⟨rfl,[],rfl⟩)) (ClM.v rfl) ?_
 refine vv ?_
 refine Sm.unroll 6 (Sm.go 101 ?_)
 refine vv ?_
 have key:∀(x:Int) (A B:Prop),(¬(-9≤x∧x≤9)→A)→((-9≤x∧x≤9)→B)→(match (bif decide (x< -9)then true else decide (9<x))with|true=>A|false=>B):=by
  intro x A B h1 h2
  by_cases hx: -9≤x∧x≤9
  ·have e1:decide (x< -9)=false:=by simp;omega
   have e2:decide (9<x)=false:=by simp;omega
   rw[e1,e2];exact h2 hx
  ·have:(bif decide (x< -9)then true else decide (9<x))=true:=by
    by_cases h3:x< -9
    ·simp[h3]
    ·simp[h3];omega
   rw[this];exact h1 hx
 refine key m _ _ (fun h=>RetQ.bool hR rfl ⟨rfl,trivial⟩ (by unfold uok;simp[h])) fun h0=>?_
 refine key kg _ _ (fun h=>RetQ.bool hR rfl ⟨rfl,trivial⟩ (by unfold uok;simp[h])) fun h1=>?_
 refine key s _ _ (fun h=>RetQ.bool hR rfl ⟨rfl,trivial⟩ (by unfold uok;simp[h])) fun h2=>?_
 refine key a _ _ (fun h=>RetQ.bool hR rfl ⟨rfl,trivial⟩ (by unfold uok;simp[h])) fun h3=>?_
 refine key k _ _ (fun h=>RetQ.bool hR rfl ⟨rfl,trivial⟩ (by unfold uok;simp[h])) fun h4=>?_
 exact RetQ.bool hR rfl ⟨rfl,trivial⟩ (by unfold uok;simp[h0,h1,h2,h3,h4])
def fok (t:Ft):Bool:=decide (t.bits=8∨t.bits=16∨t.bits=32)&&decide (1≤t.num∧t.num≤1048576)&&decide (1≤t.den∧t.den≤1048576)&&decide (-1073741824≤t.off∧t.off≤1073741824)&&uok t.m t.kg t.s t.a t.k
theorem fvalid (t:Ft):CallOk Tryz.prog 51 [fx t] [] (Bo (fok t)) []:=by
 refine CallOk.mk 100 Tryz.func51 rfl en51 (by simp[Tryz.ntmps51]) (by simp[ClV,V.g,Cv.g,fx,ci]) fun C hR=>?_
 refine vv ?_
 refine CallQ.guard 101 (fun _=>uvalid t.m t.kg t.s t.a t.k) (fun h=>by rw[h];rfl) ?_
 refine vv ?_
 refine RetQ.bool hR rfl ⟨rfl,trivial⟩ ?_
 unfold fok
 rw[Bool.eq_iff_iff]
 simp only[Bool.cond_eq_ite,Bool.and_eq_true,decide_eq_true_eq,beq_iff_eq]
 generalize uok t.m t.kg t.s t.a t.k=u
 grind
def flo (t:Ft):Int:=bif t.signed then-(2^(t.bits.toNat-1))else 0
def fhi (t:Ft):Int:=bif t.signed then 2^(t.bits.toNat-1)-1 else 2^t.bits.toNat-1
theorem fok_bits {t:Ft}(h:fok t=true):t.bits=8∨t.bits=16∨t.bits=32:=by
 unfold fok at h;simp at h;exact h.1.1.1.1
theorem lims (t:Ft):CallOk Tryz.prog 15 [fx t] [] (.tup [Wi (bif fok t then flo t else 0),Wi (bif fok t then fhi t else 0)]) []:=by
 refine CallOk.mk 100 Tryz.func15 rfl en15 (by simp[Tryz.ntmps15]) (by simp[ClV,V.g,Cv.g,fx,ci]) fun C hR=>?_
 refine vv ?_
 refine CallQ.pure 101 (fvalid t) rfl ?_
 refine vv ?_
 cases h:fok t with
 |false=>
  simp only[h,cond_false,Bool.not_false]at hR⊢
  exact RetQ.int2 hR rfl ⟨rfl,rfl,trivial⟩ rfl rfl
 |true=>
  simp only[h,cond_true,Bool.not_true]at hR⊢
  have hb:=fok_bits h
  clear h
  obtain⟨bits,signed,num,off,den,m,kg,s,a,k⟩:=t
  simp only at hb hR⊢
  cases signed with
  |true=>
   refine Sm.dg 101 10 mix ?_
   refine vv ?_
   rcases hb with rfl|rfl|rfl
   ·exact⟨by decide,by decide,RetQ.int2 hR rfl ⟨rfl,rfl,trivial⟩ rfl rfl⟩
   ·exact⟨by decide,by decide,RetQ.int2 hR rfl ⟨rfl,rfl,trivial⟩ rfl rfl⟩
   ·exact⟨by decide,by decide,RetQ.int2 hR rfl ⟨rfl,rfl,trivial⟩ rfl rfl⟩
  |false=>
   refine Sm.dg 101 5 mix ?_
   refine vv ?_
   rcases hb with rfl|rfl|rfl
   ·exact⟨by decide,RetQ.int2 hR rfl ⟨rfl,rfl,trivial⟩ rfl rfl⟩
   ·exact⟨by decide,RetQ.int2 hR rfl ⟨rfl,rfl,trivial⟩ rfl rfl⟩
   ·exact⟨by decide,RetQ.int2 hR rfl ⟨rfl,rfl,trivial⟩ rfl rfl⟩
theorem limits (t:Ft)(h:fok t=true):CallOk Tryz.prog 15 [fx t] [] (.tup [Wi (flo t),Wi (fhi t)]) []:=by
 have:=lims t
 rw[h]at this
 exact this
def fin (t:Ft)(raw:Int):Bool:=decide (flo t≤raw)&&decide (raw≤fhi t)
@[go_sem] def ra (n d:Int):V:= .agg [ci n,ci d]
theorem flo_bd (t:Ft)(h:fok t=true): -2147483648≤flo t∧flo t≤0∧0<fhi t∧fhi t≤4294967295:=by
 have hb:=fok_bits h
 unfold flo fhi
 rcases hb with hb|hb|hb<;>rw[hb]<;>cases t.signed<;>decide
theorem fok_bd {t:Ft}(h:fok t=true):1≤t.num∧t.num≤1048576∧1≤t.den∧t.den≤1048576∧ -1073741824≤t.off∧t.off≤1073741824:=by
 unfold fok at h;simp at h;omega
theorem fin_bd {t:Ft}{raw:Int}(h:fok t=true)(hw:fin t raw=true): -2147483648≤raw∧raw≤4294967295:=by
 have:=flo_bd t h
 unfold fin at hw;simp at hw;omega
theorem mul_bd {a b A B:Int}(h1: -A≤a)(h2:a≤A)(h3:0≤b)(h4:b≤B): -(A*B)≤a*b∧a*b≤A*B:=by
 have hA:0≤A:=by omega
 constructor
 ·have e1:=Int.mul_le_mul_of_nonneg_right h1 h3
  have e2:=Int.mul_le_mul_of_nonneg_left h4 hA
  rw[Int.neg_mul]at e1;omega
 ·have e1:=Int.mul_le_mul_of_nonneg_right h2 h3
  have e2:=Int.mul_le_mul_of_nonneg_left h4 hA
  omega
def fnu (t:Ft)(raw:Int):Int:=raw*t.num+t.off
theorem fnu_bd {t:Ft}{raw:Int}(h:fok t=true)(hw:fin t raw=true): -4503600701112320≤fnu t raw∧fnu t raw≤4503600701112320∧ -4503599627370496≤raw*t.num∧raw*t.num≤4503599627370496:=by
 have h1:=fin_bd h hw
 have h2:=fok_bd h
 have h3:=mul_bd (a:=raw) (b:=t.num) (A:=4294967296) (B:=1048576) (by omega) (by omega) (by omega) (by omega)
 unfold fnu
 omega
end Go.Proofs.YtkciabfilokfiaaGreat.Fx
namespace Go.Proofs.YtkciabfilokfiaaGreat.Fx
open Vg Tf
set_option linter.unusedSimpArgs false
set_option linter.unusedVariables false
set_option maxRecDepth 100000
set_option maxHeartbeats 4000000
abbrev S (l:List UInt8):V:= .c (.v (.string ⟨l.toArray⟩))
abbrev Ws (l:List UInt8):W:= .c (.v (.string ⟨l.toArray⟩))
abbrev Wb1 (b:Bool):W:= .c (.v (.bool b))
abbrev Y (n:Int):V:= .c (.v (.int .u8 n))
@[go_sem] theorem tol (l:List UInt8):l.toArray.toList=l:=by simp
@[go_sem ↓] theorem plS_1_1:plS 1 1=[(0,1)]:=rfl
@[go_sem ↓] theorem plS_5_1:plS 5 1=[(0,1),(1,1),(2,1),(3,1),(4,1)]:=rfl
@[go_sem ↓] theorem plS_11_1:plS 11 1=[(0,1),(1,1),(2,1),(3,1),(4,1),(5,1),(6,1),(7,1),(8,1),(9,1),(10,1)]:=rfl
@[go_sem ↓] theorem plS_11_5:plS 11 5=[(0,5),(5,5),(10,5),(15,5),(20,5),(25,5),(30,5),(35,5),(40,5),(45,5),(50,5)]:=rfl
@[go_sem ↓] theorem plS_11_6:plS 11 6=[(0,6),(6,6),(12,6),(18,6),(24,6),(30,6),(36,6),(42,6),(48,6),(54,6),(60,6)]:=rfl
@[go_sem ↓] theorem plS_10_3:plS 10 3=[(0,3),(3,3),(6,3),(9,3),(12,3),(15,3),(18,3),(21,3),(24,3),(27,3)]:=rfl
theorem mtch {c:Bool}{A B:Prop}(ht:c=true→A)(hf:c=false→B):(match (generalizing:=false) c with|true=>A|false=>B):=by
 cases c
 ·exact hf rfl
 ·exact ht rfl
theorem fal_of {p:Prop} [Decidable p](h:¬p):decide p=false:=by simpa using h
theorem tru_of {p:Prop} [Decidable p](h:p):decide p=true:=by simpa using h
theorem ClA.of {M:Mem}{l:List V}(h:l.all (V.inM M)=true):∀x∈l,ClV M x:=fun x hx=>ClV.of (List.all_eq_true.1 h x hx)
abbrev cs1 (l:List UInt8):Cv:= .v (.string ⟨l.toArray⟩)
theorem renV {ρ:Nat→Nat}{r:Bool}{l:List Cv}{t:TypeId}(h:l.all Cv.isV=true):(⟨r,l,t⟩:Bk).ren ρ=⟨r,l,t⟩:=by
 unfold Bk.ren
 congr 1
 have:=List.all_eq_true.1 h
 conv=>rhs;rw[←List.map_id l]
 refine List.map_congr_left fun x hx=>?_
 have:=this x hx
 cases x<;>first|rfl|cases this
theorem inMV {M:Mem}{l:List Cv}(h:l.all Cv.isV=true):l.all (Cv.inM M)=true:=by
 refine List.all_eq_true.2 fun x hx=>?_
 have:=List.all_eq_true.1 h x hx
 cases x<;>first|rfl|cases this
end Go.Proofs.YtkciabfilokfiaaGreat.Fx
namespace Go.Proofs.YtkciabfilokfiaaGreat.Fx
open Vg Tf
set_option linter.unusedSimpArgs false
set_option linter.unusedVariables false
set_option maxRecDepth 100000
set_option maxHeartbeats 4000000
structure Un where
 m:Int
 kg:Int
 s:Int
 a:Int
 k:Int
deriving DecidableEq
@[go_sem] def unL (u:Un):List Cv:=[.v (.int .i64 u.m),.v (.int .i64 u.kg),.v (.int .i64 u.s),.v (.int .i64 u.a),.v (.int .i64 u.k)]
@[reducible] def uu (u:Un):V:= .agg (unL u)
@[reducible] def Wuu (u:Un):W:= .agg (unL u)
def u0:Un:=⟨0,0,0,0,0⟩
def uokU (u:Un):Bool:=uok u.m u.kg u.s u.a u.k
theorem uokU_iff {u:Un}:uokU u=true↔(-9≤u.m∧u.m≤9)∧(-9≤u.kg∧u.kg≤9)∧(-9≤u.s∧u.s≤9)∧(-9≤u.a∧u.a≤9)∧(-9≤u.k∧u.k≤9):=by
 unfold uokU uok;rw[decide_eq_true_eq]
theorem uvalidU (u:Un):CallOk Tryz.prog 115 [uu u] [] (Bo (uokU u)) []:=uvalid u.m u.kg u.s u.a u.k
def uadd (a b:Un)(k:Int):Un:=⟨a.m+k*b.m,a.kg+k*b.kg,a.s+k*b.s,a.a+k*b.a,a.k+k*b.k⟩
def cbE (a b:Un)(k:Int):Int:=bif uokU a&&uokU b then(bif uokU (uadd a b k)then 0 else 2)else 1
def cbV (a b:Un)(k:Int):Un:=bif cbE a b k==0 then uadd a b k else u0
theorem ptrs_cl (n:Nat)(cs:List Cv)(el:TypeId)(h:cs.all Cv.isV=true):ClM [(n,⟨true,cs,el⟩)]:=ClM.of (by simp only[List.all_cons,inMV h];rfl)
theorem one_:CallOk Tryz.prog 202 [] [] (uu u0) []:=by
 refine CallOk.mkN 100 Tryz.func202 rfl en202 (by simp[Tryz.ntmps202]) (ClA.of rfl) rfl rfl fun C hR hP=>?_
 refine vv ?_
 exact RetQ.of hR rfl (vv trivial) rvr (Sub.nil _) ClM.nil (ClV.of rfl)
theorem combine_ (a b:Un)(k:Int)(hk:k=1∨k= -1):CallOk Tryz.prog 237 [uu a,uu b,I k] [] (.tup [Wuu (cbV a b k),Wi (cbE a b k)]) []:=by
 refine CallOk.mkN 100 Tryz.func237 rfl en237 (by simp[Tryz.ntmps237]) (ClA.of rfl) rfl rfl fun C hR hP=>?_
 refine vv ?_
 refine CallQ.pure 110 (uvalidU a) rfl ?_
 refine vv ?_
 refine CallQ.guard 110 (fun _=>uvalidU b) (fun h=>by rw[h];rfl) ?_
 refine vv ?_
 cases ha:uokU a with
 |false=>
  have e1:cbE a b k=1:=by rw[cbE,ha];rfl
  have e2:cbV a b k=u0:=by rw[cbV,e1];rfl
  rw[e1,e2]at hR
  refine vv ?_
  exact RetQ.of hR rfl (vv trivial) rvr (Sub.nil _) ClM.nil (ClV.of rfl)
 |true=>
 cases hb:uokU b with
 |false=>
  have e1:cbE a b k=1:=by rw[cbE,ha,hb];rfl
  have e2:cbV a b k=u0:=by rw[cbV,e1];rfl
  rw[e1,e2]at hR
  refine vv ?_
  exact RetQ.of hR rfl (vv trivial) rvr (Sub.nil _) ClM.nil (ClV.of rfl)
 |true=>
 have ha':=uokU_iff.1 ha
 have hb':=uokU_iff.1 hb
 refine vv ?_
 refine CallQ.mem 120 (exponents 100 (unL a) 41 (ptrs_cl _ _ _ rfl) (by decide)) rfl (Sub.one (b':=⟨false,unL a,41⟩) rfl (.inr ⟨rfl,[],rfl⟩)) (ptrs_cl _ _ _ rfl) ?_
 refine vv ?_
 refine CallQ.mem 120 (exponents 101 (unL b) 41 (ptrs_cl _ _ _ rfl) (by decide)) rfl (Sub.one (b':=⟨false,unL b,41⟩) rfl (.inr ⟨rfl,[],rfl⟩)) (ptrs_cl _ _ _ rfl) ?_
 refine vv ?_
 have wr:∀x y:Int, -9≤x∧x≤9→ -9≤y∧y≤9→IntKind.i64.wrap (x+IntKind.i64.wrap (k*y))=x+k*y:=by
  intro x y hx hy
  rcases hk with rfl|rfl
  ·rw[w64 (x:=1*y) (by omega) (by omega),w64 (by omega) (by omega)]
  ·rw[w64 (x:= -1*y) (by omega) (by omega),w64 (by omega) (by omega)]
 refine Sm.unroll 6 (Sm.go 130 ?_)
 refine vv ?_
 refine Sm.dg 130 12 mix ?_
 simp(maxSteps:=2000000) only[go_sem,wr _ _ ha'.1 hb'.1]
 refine Sm.dg 130 12 mix ?_
 simp(maxSteps:=2000000) only[go_sem,wr _ _ ha'.2.1 hb'.2.1]
 refine Sm.dg 130 12 mix ?_
 simp(maxSteps:=2000000) only[go_sem,wr _ _ ha'.2.2.1 hb'.2.2.1]
 refine Sm.dg 130 12 mix ?_
 simp(maxSteps:=2000000) only[go_sem,wr _ _ ha'.2.2.2.1 hb'.2.2.2.1]
 refine Sm.dg 130 12 mix ?_
 simp(maxSteps:=2000000) only[go_sem,wr _ _ ha'.2.2.2.2 hb'.2.2.2.2]
 refine CallQ.pure 140 (uvalidU (uadd a b k)) rfl ?_
 refine vv ?_
 cases hu:uokU (uadd a b k)with
 |false=>
  have e1:cbE a b k=2:=by rw[cbE,ha,hb,hu];rfl
  have e2:cbV a b k=u0:=by rw[cbV,e1];rfl
  rw[e1,e2]at hR
  refine vv ?_
  exact RetQ.of hR rfl (vv trivial) rvr (Sub.nil _) ClM.nil (ClV.of rfl)
 |true=>
  have e1:cbE a b k=0:=by rw[cbE,ha,hb,hu];rfl
  have e2:cbV a b k=uadd a b k:=by rw[cbV,e1];rfl
  rw[e1,e2]at hR
  refine vv ?_
  exact RetQ.of hR rfl (vv trivial) rvr (Sub.nil _) ClM.nil (ClV.of rfl)
theorem mul_ (a b:Un):CallOk Tryz.prog 205 [uu a,uu b] [] (.tup [Wuu (cbV a b 1),Wi (cbE a b 1)]) []:=by
 refine CallOk.mkN 100 Tryz.func205 rfl en205 (by simp[Tryz.ntmps205]) (ClA.of rfl) rfl rfl fun C hR hP=>?_
 refine vv ?_
 refine CallQ.pure 110 (combine_ a b 1 (.inl rfl)) rfl ?_
 refine vv ?_
 exact RetQ.of hR rfl (vv trivial) rvr (Sub.nil _) ClM.nil (ClV.of rfl)
theorem div_u (a b:Un):CallOk Tryz.prog 206 [uu a,uu b] [] (.tup [Wuu (cbV a b (-1)),Wi (cbE a b (-1))]) []:=by
 refine CallOk.mkN 100 Tryz.func206 rfl en206 (by simp[Tryz.ntmps206]) (ClA.of rfl) rfl rfl fun C hR hP=>?_
 refine vv ?_
 refine CallQ.pure 110 (combine_ a b (-1) (.inr rfl)) rfl ?_
 refine vv ?_
 exact RetQ.of hR rfl (vv trivial) rvr (Sub.nil _) ClM.nil (ClV.of rfl)
theorem flat_len {α:Type}(f:α→List Cv)(k:Nat)(hk:∀x,(f x).length=k):∀(l:List α),(l.flatMap f).length=l.length*k
 |[]=>by simp
 |x::l=>by rw[List.flatMap_cons,List.length_append,flat_len f k hk l,hk,List.length_cons,Nat.succ_mul];omega
end Go.Proofs.YtkciabfilokfiaaGreat.Fx
