/-  -/
import Derived.Test.YtlnpgbnhcondjaaGreatDoorTf
import Derived.Test.YtlnpgbnhcondjaaGreatDoorMB
import Derived.Lib.Bytealg
import Derived.Lib.IndexLaws
namespace Go.Proofs.YtlnpgbnhcondjaaGreatDoor.Fx
open Vg Tf
abbrev I (n:Int):V:= .c (.v (.int .i64 n))
abbrev U (n:Int):V:= .c (.v (.int .u64 n))
abbrev Bo (b:Bool):V:= .c (.v (.bool b))
abbrev Wi (n:Int):W:= .c (.v (.int .i64 n))
theorem w64 {x:Int}(h1: -9223372036854775808≤x)(h2:x≤9223372036854775807):IntKind.i64.wrap x=x:=IntWalk.i64_in x ⟨h1,h2⟩
theorem wu64 {x:Int}(h1:0≤x)(h2:x<18446744073709551616):IntKind.u64.wrap x=x:=by rw[IntKind.wrap_u64];omega
set_option linter.unusedSimpArgs false
set_option linter.unusedVariables false
set_option maxRecDepth 100000
def rnd (m p c:Int):Int:=if m=1 then p/c else if m=2 then-((-p)/c)else(2*p+c)/(2*c)
set_option linter.unusedSimpArgs false
set_option linter.unusedVariables false
set_option maxRecDepth 100000
structure Ft where
 bits:Int
 signed:Bool
 num:Int
 off:Int
 den:Int
 m:Int
 kg:Int
 s:Int
 a:Int
 k:Int
@[go_sem] def ci (n:Int):Cv:= .v (.int .i64 n)
@[go_sem] def un (m kg s a k:Int):V:= .agg [ci m,ci kg,ci s,ci a,ci k]
@[go_sem] def fx (t:Ft):V:= .agg [ci t.bits,.v (.bool t.signed),ci t.num,ci t.off,ci t.den,ci t.m,ci t.kg,ci t.s,ci t.a,ci t.k]
def uok (m kg s a k:Int):Bool:=decide ((-9≤m∧m≤9)∧(-9≤kg∧kg≤9)∧(-9≤s∧s≤9)∧(-9≤a∧a≤9)∧(-9≤k∧k≤9))
theorem exponents (n:Nat)(cs:List Cv)(el:TypeId)(hc:ClM [(n,⟨true,cs,el⟩)])(hn:n≠1000):CallOk Tryz.prog 254 [.c (.p n 0)] [(n,⟨true,cs,el⟩)] (.agg [.p n 0,.p n 1,.p n 2,.p n 3,.p n 4]) []:=by
 have hcl:∀off,∀β β',Agree [(n,⟨true,cs,el⟩)] β β'→Cv.g β' (.p n off)=Cv.g β (.p n off):=fun off β β' h=>by simp[Cv.g,h n (by simp[Mem.get])]
 refine CallOk.mkM 1000 Tryz.func254 rfl en254 (by simp[Tryz.ntmps254]) (by simp[ClV,V.g];intro β β' h;exact hcl 0 β β' h) fun C hR=>?_
 have hn':(n==1000)=false:=by simpa using hn
 refine vv ?_
 simp only[hn',cond_false]
 refine⟨trivial,Sm.dg 1001 16 mix ?_⟩
 refine vv ?_
 have hn2:(1000==n)=false:=by simp;omega
 refine RetQ.of hR rfl ⟨⟨rfl,by simp[sz258],by simp[sz258]⟩,trivial⟩ ?_ (Sub.one (b':=⟨true,cs,el⟩) (by simp[Mem.get,hn2]) (Wk.refl _)) hc ?_
 ·rfl
 ·intro β β' h
  simp[V.g,hcl _ β β' h]
theorem uvalid (m kg s a k:Int):CallOk Tryz.prog 206 [un m kg s a k] [] (Bo (uok m kg s a k)) []:=by
 refine CallOk.mk 100 Tryz.func206 rfl en206 (by simp[Tryz.ntmps206]) (by simp[ClV,V.g,Cv.g,un,ci]) fun C hR=>?_
 refine vv ?_
 refine CallQ.mem 101 (exponents 100 [ci m,ci kg,ci s,ci a,ci k] 23 (ClM.v rfl) (by decide)) rfl (Sub.one (b':=⟨false,[ci m,ci kg,ci s,ci a,ci k],89⟩) rfl (.inr ⟨rfl,[],rfl⟩)) (ClM.v rfl) ?_
 refine vv ?_
 refine Sm.unroll 6 (Sm.go 101 ?_)
 refine vv ?_
 have key:∀(x:Int) (A B:Prop),(¬(-9≤x∧x≤9)→A)→((-9≤x∧x≤9)→B)→(match (bif decide (x< -9)then true else decide (9<x))with|true=>A|false=>B):=by
  intro x A B h1 h2
  by_cases hx: -9≤x∧x≤9
  ·have e1:decide (x< -9)=false:=by simp;omega
   have e2:decide (9<x)=false:=by simp;omega
   rw[e1,e2];exact h2 hx
  ·have:(bif decide (x< -9)then true else decide (9<x))=true:=by
    by_cases h3:x< -9
    ·simp[h3]
    ·simp[h3];omega
   rw[this];exact h1 hx
 refine key m _ _ (fun h=>RetQ.bool hR rfl ⟨rfl,trivial⟩ (by unfold uok;simp[h])) fun h0=>?_
 refine key kg _ _ (fun h=>RetQ.bool hR rfl ⟨rfl,trivial⟩ (by unfold uok;simp[h])) fun h1=>?_
 refine key s _ _ (fun h=>RetQ.bool hR rfl ⟨rfl,trivial⟩ (by unfold uok;simp[h])) fun h2=>?_
 refine key a _ _ (fun h=>RetQ.bool hR rfl ⟨rfl,trivial⟩ (by unfold uok;simp[h])) fun h3=>?_
 refine key k _ _ (fun h=>RetQ.bool hR rfl ⟨rfl,trivial⟩ (by unfold uok;simp[h])) fun h4=>?_
 exact RetQ.bool hR rfl ⟨rfl,trivial⟩ (by unfold uok;simp[h0,h1,h2,h3,h4])
def fok (t:Ft):Bool:=decide (t.bits=8∨t.bits=16∨t.bits=32)&&decide (1≤t.num∧t.num≤1048576)&&decide (1≤t.den∧t.den≤1048576)&&decide (-1073741824≤t.off∧t.off≤1073741824)&&uok t.m t.kg t.s t.a t.k
theorem fvalid (t:Ft):CallOk Tryz.prog 106 [fx t] [] (Bo (fok t)) []:=by
 refine CallOk.mk 100 Tryz.func106 rfl en106 (by simp[Tryz.ntmps106]) (by simp[ClV,V.g,Cv.g,fx,ci]) fun C hR=>?_
 refine vv ?_
 refine CallQ.guard 101 (fun _=>uvalid t.m t.kg t.s t.a t.k) (fun h=>by rw[h];rfl) ?_
 refine vv ?_
 refine RetQ.bool hR rfl ⟨rfl,trivial⟩ ?_
 unfold fok
 rw[Bool.eq_iff_iff]
 simp only[Bool.cond_eq_ite,Bool.and_eq_true,decide_eq_true_eq,beq_iff_eq]
 generalize uok t.m t.kg t.s t.a t.k=u
 grind
def flo (t:Ft):Int:=bif t.signed then-(2^(t.bits.toNat-1))else 0
def fhi (t:Ft):Int:=bif t.signed then 2^(t.bits.toNat-1)-1 else 2^t.bits.toNat-1
theorem fok_bits {t:Ft}(h:fok t=true):t.bits=8∨t.bits=16∨t.bits=32:=by
 unfold fok at h;simp at h;exact h.1.1.1.1
def fin (t:Ft)(raw:Int):Bool:=decide (flo t≤raw)&&decide (raw≤fhi t)
@[go_sem] def ra (n d:Int):V:= .agg [ci n,ci d]
theorem flo_bd (t:Ft)(h:fok t=true): -2147483648≤flo t∧flo t≤0∧0<fhi t∧fhi t≤4294967295:=by
 have hb:=fok_bits h
 unfold flo fhi
 rcases hb with hb|hb|hb<;>rw[hb]<;>cases t.signed<;>decide
def fnu (t:Ft)(raw:Int):Int:=raw*t.num+t.off
set_option linter.unusedSimpArgs false
set_option linter.unusedVariables false
set_option maxRecDepth 100000
set_option maxHeartbeats 4000000
abbrev S (l:List UInt8):V:= .c (.v (.string ⟨l.toArray⟩))
abbrev Ws (l:List UInt8):W:= .c (.v (.string ⟨l.toArray⟩))
abbrev Wb1 (b:Bool):W:= .c (.v (.bool b))
abbrev Y (n:Int):V:= .c (.v (.int .u8 n))
@[go_sem] theorem tol (l:List UInt8):l.toArray.toList=l:=by simp
@[go_sem ↓] theorem plS_1_1:plS 1 1=[(0,1)]:=rfl
@[go_sem ↓] theorem plS_5_1:plS 5 1=[(0,1),(1,1),(2,1),(3,1),(4,1)]:=rfl
@[go_sem ↓] theorem plS_11_1:plS 11 1=[(0,1),(1,1),(2,1),(3,1),(4,1),(5,1),(6,1),(7,1),(8,1),(9,1),(10,1)]:=rfl
@[go_sem ↓] theorem plS_11_5:plS 11 5=[(0,5),(5,5),(10,5),(15,5),(20,5),(25,5),(30,5),(35,5),(40,5),(45,5),(50,5)]:=rfl
@[go_sem ↓] theorem plS_11_6:plS 11 6=[(0,6),(6,6),(12,6),(18,6),(24,6),(30,6),(36,6),(42,6),(48,6),(54,6),(60,6)]:=rfl
@[go_sem ↓] theorem plS_10_3:plS 10 3=[(0,3),(3,3),(6,3),(9,3),(12,3),(15,3),(18,3),(21,3),(24,3),(27,3)]:=rfl
theorem mtch {c:Bool}{A B:Prop}(ht:c=true→A)(hf:c=false→B):(match (generalizing:=false) c with|true=>A|false=>B):=by
 cases c
 ·exact hf rfl
 ·exact ht rfl
theorem fal_of {p:Prop} [Decidable p](h:¬p):decide p=false:=by simpa using h
theorem tru_of {p:Prop} [Decidable p](h:p):decide p=true:=by simpa using h
theorem ClA.of {M:Mem}{l:List V}(h:l.all (V.inM M)=true):∀x∈l,ClV M x:=fun x hx=>ClV.of (List.all_eq_true.1 h x hx)
theorem digs (n:Nat)(h:n<10):(([48,49,50,51,52,53,54,55,56,57,97,98,99,100,101,102,103,104,105,106,107,108,109,110,111,112,113,114,115,116,117,118,119,120,121,122]:List UInt8).drop n).take 1=[UInt8.ofNat (48+n)]:=by
 have:∀n:Fin 10,(([48,49,50,51,52,53,54,55,56,57,97,98,99,100,101,102,103,104,105,106,107,108,109,110,111,112,113,114,115,116,117,118,119,120,121,122]:List UInt8).drop n.val).take 1=[UInt8.ofNat (48+n.val)]:=by decide+kernel
 exact this ⟨n,h⟩
theorem small_ (n:Nat)(h:n<10):CallOk Tryz.prog 295 [I n] [] (S [UInt8.ofNat (48+n)]) []:=by
 have h1:decide ((n:Int)<10)=true:=tru_of (by omega)
 have w1:IntKind.i64.wrap ((n:Int)+1)=((n+1:Nat):Int):=by rw[w64 (by omega) (by omega)];omega
 refine CallOk.mkN 100 Tryz.func295 rfl en295 (by simp[Tryz.ntmps295]) (ClA.of rfl) rfl rfl fun C hR hP=>?_
 simp(maxSteps:=2000000) only[go_sem,h1,w1]
 refine⟨by simp;omega,?_⟩
 refine RetQ.of hR rfl ⟨rfl,trivial⟩ ?_ (Sub.nil _) ClM.nil (ClV.of rfl)
 have e1:(((n+1:Nat):Int)-(n:Int)).toNat=1:=by omega
 simp only[e1,digs n h]
 rfl
theorem fmtInt_ (n:Nat)(h:n<10):CallOk Tryz.prog 287 [I n,I 10] [] (S [UInt8.ofNat (48+n)]) []:=by
 have h1:decide ((n:Int)<100)=true:=tru_of (by omega)
 have h2:decide ((0:Int)≤n)=true:=tru_of (by omega)
 refine CallOk.mkN 100 Tryz.func287 rfl en287 (by simp[Tryz.ntmps287]) (ClA.of rfl) rfl rfl fun C hR hP=>?_
 simp(maxSteps:=2000000) only[go_sem,h1,h2]
 refine CallQ.pure 110 (small_ n h) rfl ?_
 refine vv ?_
 exact RetQ.of hR rfl ⟨rfl,trivial⟩ rfl (Sub.nil _) ClM.nil (ClV.of rfl)
theorem itoaI (n:Nat)(h:n<10):CallOk Tryz.prog 278 [I n] [] (S [UInt8.ofNat (48+n)]) []:=by
 refine CallOk.mkN 100 Tryz.func278 rfl en278 (by simp[Tryz.ntmps278]) (ClA.of rfl) rfl rfl fun C hR hP=>?_
 refine vv ?_
 refine CallQ.pure 110 (fmtInt_ n h) rfl ?_
 refine vv ?_
 exact RetQ.of hR rfl ⟨rfl,trivial⟩ rfl (Sub.nil _) ClM.nil (ClV.of rfl)
theorem itoa_ (n:Nat)(h:n<10):CallOk Tryz.prog 259 [I n] [] (S [UInt8.ofNat (48+n)]) []:=by
 refine CallOk.mkN 100 Tryz.func259 rfl en259 (by simp[Tryz.ntmps259]) (ClA.of rfl) rfl rfl fun C hR hP=>?_
 refine vv ?_
 refine CallQ.pure 110 (itoaI n h) rfl ?_
 refine vv ?_
 exact RetQ.of hR rfl ⟨rfl,trivial⟩ rfl (Sub.nil _) ClM.nil (ClV.of rfl)
theorem ixStr (l:List UInt8)(c:UInt8):ExtOk Tryz.prog 191 [S l,Y c.toNat] (I (Lib.indexByte l c)):=by
 intro β w
 have h:=run_callFunc_extern (e:=Extern.BytealgIndexByte.indexByte) Tryz.func191 (by kernel_rfl) (by kernel_rfl) (by kernel_rfl) (by kernel_rfl) #[str l,.int .u8 c.toNat] w
 rw[show str l= .string ⟨l.toArray⟩ from rfl,Lib.run_indexByteString]at h
 rw[show((c.toNat:Int)).toNat.toUInt8=c by simp,show(⟨l.toArray⟩:ByteArray).data.toList=l by simp]at h
 exact h
theorem cntStr (l:List UInt8)(c:UInt8):ExtOk Tryz.prog 237 [S l,Y c.toNat] (I (l.count c:Nat)):=by
 intro β w
 have h:=run_callFunc_extern (e:=Extern.BytealgCount.count) Tryz.func237 (by kernel_rfl) (by kernel_rfl) (by kernel_rfl) (by kernel_rfl) #[str l,.int .u8 c.toNat] w
 rw[show str l= .string ⟨l.toArray⟩ from rfl,Lib.run_countString]at h
 rw[show((c.toNat:Int)).toNat.toUInt8=c by simp,show(⟨l.toArray⟩:ByteArray).data.toList=l by simp]at h
 exact h
theorem ixByte (l:List UInt8)(c:UInt8):CallOk Tryz.prog 70 [S l,Y c.toNat] [] (I (Lib.indexByte l c)) []:=by
 refine CallOk.mkN 100 Tryz.func70 rfl en70 (by simp[Tryz.ntmps70]) (ClA.of rfl) rfl rfl fun C hR hP=>?_
 refine vv ?_
 refine CallQ.ext 110 (ixStr l c) rfl ?_
 refine vv ?_
 exact RetQ.of hR rfl ⟨rfl,trivial⟩ rfl (Sub.nil _) ClM.nil (ClV.of rfl)
theorem ix1 (l:List UInt8)(c:UInt8):CallOk Tryz.prog 238 [S l,S [c]] [] (I (Lib.indexByte l c)) []:=by
 refine CallOk.mkN 100 Tryz.func238 rfl en238 (by simp[Tryz.ntmps238]) (ClA.of rfl) rfl rfl fun C hR hP=>?_
 simp(maxSteps:=2000000) only[go_sem,List.length_cons,List.length_nil]
 refine mtch (fun h=>?_) (fun h=>?_)
 ·have h:l=[c]:=by have:=beq_iff_eq.1 h;exact this.symm
  subst h
  exact RetQ.of hR rfl ⟨rfl,trivial⟩ (by simp[Lib.indexByte];rfl) (Sub.nil _) ClM.nil (ClV.of rfl)
 ·refine CallQ.pure 110 (ixByte l c) rfl ?_
  refine vv ?_
  exact RetQ.of hR rfl ⟨rfl,trivial⟩ rfl (Sub.nil _) ClM.nil (ClV.of rfl)
theorem sIndex (l:List UInt8)(c:UInt8):CallOk Tryz.prog 160 [S l,S [c]] [] (I (Lib.indexByte l c)) []:=by
 refine CallOk.mkN 100 Tryz.func160 rfl en160 (by simp[Tryz.ntmps160]) (ClA.of rfl) rfl rfl fun C hR hP=>?_
 refine vv ?_
 refine CallQ.pure 110 (ix1 l c) rfl ?_
 refine vv ?_
 exact RetQ.of hR rfl ⟨rfl,trivial⟩ rfl (Sub.nil _) ClM.nil (ClV.of rfl)
def cutB (c:UInt8):List UInt8→List UInt8×List UInt8×Bool
 |[]=>([],[],false)
 |x::l=>if x=c then([],l,true)else(x::(cutB c l).1,(cutB c l).2.1,(cutB c l).2.2)
theorem cutB_ix (c:UInt8):∀l:List UInt8,(Lib.indexByte l c= -1→cutB c l=(l,[],false))∧(∀i:Nat,Lib.indexByte l c=i→i<l.length∧cutB c l=(l.take i,l.drop (i+1),true))
 |[]=>⟨fun _=>rfl,fun i h=>by simp[Lib.indexByte]at h⟩
 |x::l=>by
  have ih:=cutB_ix c l
  have hge:=Lib.indexByte_ge l c
  unfold Lib.indexByte cutB
  by_cases hx:x=c
  ·rw[if_pos (by simpa using hx),if_pos hx]
   exact⟨fun h=>absurd h (by decide),fun i h=>by obtain rfl:i=0:=by omega
                                                 simp⟩
  ·rw[if_neg (by simpa using hx),if_neg hx]
   by_cases hm:Lib.indexByte l c= -1
   ·rw[if_pos (by simpa using hm),ih.1 hm]
    exact⟨fun _=>rfl,fun i h=>by omega⟩
   ·rw[if_neg (by simpa using hm)]
    refine⟨fun h=>by omega,fun i h=>?_⟩
    obtain⟨j,rfl⟩:∃j,i=j+1:=⟨i-1,by omega⟩
    obtain⟨h1,h2⟩:=ih.2 j (by omega)
    rw[h2]
    exact⟨by simpa using h1,by simp⟩
theorem cut1 (l:List UInt8)(c:UInt8)(hl:l.length≤1000000):CallOk Tryz.prog 299 [S l,S [c]] [] (.tup [Ws (cutB c l).1,Ws (cutB c l).2.1,Wb1 (cutB c l).2.2]) []:=by
 have hx:=cutB_ix c l
 have hge:=Lib.indexByte_ge l c
 refine CallOk.mkN 100 Tryz.func299 rfl en299 (by simp[Tryz.ntmps299]) (ClA.of rfl) rfl rfl fun C hR hP=>?_
 refine vv ?_
 refine CallQ.pure 110 (ix1 l c) rfl ?_
 generalize Lib.indexByte l c=m at*
 refine vv ?_
 refine mtch (fun h=>?_) (fun h=>?_)
 ·have h:0≤m:=by simpa using h
  obtain⟨i,rfl⟩:∃i:Nat,m=i:=⟨m.toNat,by omega⟩
  obtain⟨h1,h2⟩:=hx.2 i rfl
  rw[h2]at hR
  refine Sm.dg 110 10 mix ?_
  have w1:IntKind.i64.wrap ((i:Int)+1)=((i+1:Nat):Int):=by rw[w64 (by omega) (by omega)];omega
  simp(maxSteps:=2000000) only[go_sem,List.length_cons,List.length_nil,w1]
  refine⟨⟨by omega,by omega⟩,⟨by omega,by omega,by omega⟩,?_⟩
  refine RetQ.of hR rfl ⟨rfl,rfl,rfl,trivial⟩ ?_ (Sub.nil _) ClM.nil (ClV.of rfl)
  have e1:((i:Int)-0).toNat=i:=by omega
  have e2:((i+1:Nat):Int).toNat=i+1:=by omega
  have e3:((l.length:Int)-((i+1:Nat):Int)).toNat=l.length-(i+1):=by omega
  have e4:(l.drop (i+1)).take (l.length-(i+1))=l.drop (i+1):=List.take_of_length_le (by simp)
  have e5:((l.length:Int)-((i:Int)+1)).toNat=l.length-(i+1):=by omega
  simp[V.toW,W.toV,str,e1,e2,e5,e4]
 ·have h:m= -1:=by have:¬0≤m:=by simpa using h
                   omega
  subst h
  rw[hx.1 rfl]at hR
  exact RetQ.of hR rfl ⟨rfl,rfl,rfl,trivial⟩ rfl (Sub.nil _) ClM.nil (ClV.of rfl)
theorem sCut (l:List UInt8)(c:UInt8)(hl:l.length≤1000000):CallOk Tryz.prog 289 [S l,S [c]] [] (.tup [Ws (cutB c l).1,Ws (cutB c l).2.1,Wb1 (cutB c l).2.2]) []:=by
 refine CallOk.mkN 100 Tryz.func289 rfl en289 (by simp[Tryz.ntmps289]) (ClA.of rfl) rfl rfl fun C hR hP=>?_
 refine vv ?_
 refine CallQ.pure 110 (cut1 l c hl) rfl ?_
 refine vv ?_
 exact RetQ.of hR rfl ⟨rfl,rfl,rfl,trivial⟩ rfl (Sub.nil _) ClM.nil (ClV.of rfl)
theorem sCount (l:List UInt8)(c:UInt8):CallOk Tryz.prog 159 [S l,S [c]] [] (I (l.count c:Nat)) []:=by
 refine CallOk.mkN 100 Tryz.func159 rfl en159 (by simp[Tryz.ntmps159]) (ClA.of rfl) rfl rfl fun C hR hP=>?_
 simp(maxSteps:=2000000) only[go_sem,List.length_cons,List.length_nil]
 refine CallQ.ext 110 (cntStr l c) rfl ?_
 refine vv ?_
 exact RetQ.of hR rfl ⟨rfl,trivial⟩ rfl (Sub.nil _) ClM.nil (ClV.of rfl)
def splB (c:UInt8):List UInt8→List (List UInt8)
 |[]=>[[]]
 |x::l=>if x=c then[]::splB c l else match splB c l with
  |[]=>[[x]]
  |h::t=>(x::h)::t
theorem splB_ne (c:UInt8):∀l,splB c l≠[]
 |[]=>by simp[splB]
 |x::l=>by
  unfold splB
  split
  ·simp
  ·cases splB c l<;>simp
theorem splB_len (c:UInt8):∀l:List UInt8,(splB c l).length=l.count c+1
 |[]=>rfl
 |x::l=>by
  have ih:=splB_len c l
  unfold splB
  by_cases hx:x=c
  ·subst hx;simp[ih]
  ·rw[if_neg hx]
   rw[List.count_cons_of_ne (by simpa using hx)]
   cases h:splB c l with
   |nil=>exact absurd h (splB_ne c l)
   |cons a t=>rw[h]at ih;simpa using ih
theorem splB_cons (c x:UInt8)(l:List UInt8):splB c (x::l)=if x=c then[]::splB c l else match splB c l with
  |[]=>[[x]]
  |h::t=>(x::h)::t:=rfl
theorem cutB_cons (c x:UInt8)(l:List UInt8):cutB c (x::l)=if x=c then([],l,true)else(x::(cutB c l).1,(cutB c l).2.1,(cutB c l).2.2):=rfl
theorem splB_cut (c:UInt8):∀l:List UInt8,splB c l=if (cutB c l).2.2 then(cutB c l).1::splB c (cutB c l).2.1 else[l]
 |[]=>rfl
 |x::l=>by
  have ih:=splB_cut c l
  rw[splB_cons,cutB_cons]
  by_cases hx:x=c
  ·rw[if_pos hx,if_pos hx];rfl
  ·rw[if_neg hx,if_neg hx,ih]
   cases h:(cutB c l).2.2<;>rfl
theorem cut_count (c:UInt8):∀l:List UInt8,(cutB c l).2.2=decide (0<l.count c)∧((cutB c l).2.2=true→(cutB c l).2.1.count c+1=l.count c∧(cutB c l).2.1.length<l.length)
 |[]=>by simp[cutB]
 |x::l=>by
  have ih:=cut_count c l
  unfold cutB
  by_cases hx:x=c
  ·simp[hx]
  ·simp only[if_neg hx]
   rw[List.count_cons_of_ne (by simpa using hx)]
   exact⟨ih.1,fun h=>⟨(ih.2 h).1,by have:=(ih.2 h).2;simp;omega⟩⟩
abbrev cs1 (l:List UInt8):Cv:= .v (.string ⟨l.toArray⟩)
@[reducible] def bSt (nm:Nat)(ls:List (List UInt8)):Nat×Bk:=(nm,⟨false,ls.map cs1,9⟩)
theorem renV {ρ:Nat→Nat}{r:Bool}{l:List Cv}{t:TypeId}(h:l.all Cv.isV=true):(⟨r,l,t⟩:Bk).ren ρ=⟨r,l,t⟩:=by
 unfold Bk.ren
 congr 1
 have:=List.all_eq_true.1 h
 conv=>rhs;rw[←List.map_id l]
 refine List.map_congr_left fun x hx=>?_
 have:=this x hx
 cases x<;>first|rfl|cases this
theorem inMV {M:Mem}{l:List Cv}(h:l.all Cv.isV=true):l.all (Cv.inM M)=true:=by
 refine List.all_eq_true.2 fun x hx=>?_
 have:=List.all_eq_true.1 h x hx
 cases x<;>first|rfl|cases this
theorem v_st (ls:List (List UInt8)):(ls.map cs1).all Cv.isV=true:=by simp[Cv.isV]
theorem get_st {ls:List (List UInt8)}{i:Nat}(h:i<ls.length):(ls.map cs1)[i]?=some (cs1 (ls.getD i [])):=by
 simp[List.getElem?_map,List.getElem?_eq_getElem h]
abbrev slV (nm n:Nat):V:= .c (.sl nm 0 n 1)
theorem clSt (nm:Nat)(ls:List (List UInt8)):ClM [bSt nm ls]:=ClM.of (by simp only[List.all_cons,inMV (v_st ls)];rfl)
theorem reps_st (n:Nat):reps n [Cv.v (.string ⟨#[]⟩)]=(List.replicate n []).map cs1:=by
 rw[reps_one,List.map_replicate]
theorem set_next {α:Type}(A:List α)(z v:α)(m:Nat):(A++List.replicate (m+1) z).set A.length v=(A++[v])++List.replicate m z:=by
 rw[List.set_append_right _ _ (Nat.le_refl _),Nat.sub_self,List.replicate_succ]
 simp
theorem gsplit (l:List UInt8)(c:UInt8)(hl:l.length≤1000000):CallOk Tryz.prog 49 [S l,S [c],I 0,I (-1)] [] (slV 1 (splB c l).length) [bSt 1 (splB c l)]:=by
 have hcl:=List.count_le_length (a:=c) (l:=l)
 have hlen:=splB_len c l
 refine CallOk.mkN 100 Tryz.func49 rfl en49 (by simp[Tryz.ntmps49]) (ClA.of rfl) rfl rfl fun C hR hP=>?_
 refine vv ?_
 refine CallQ.pure 110 (sCount l c) rfl ?_
 obtain⟨n,hn⟩:∃n,n=l.count c+1:=⟨_,rfl⟩
 have w1:IntKind.i64.wrap (((l.count c:Nat):Int)+1)=(n:Int):=by rw[w64 (by omega) (by omega)];omega
 have w2:IntKind.i64.wrap ((l.length:Int)+1)=((l.length+1:Nat):Int):=by rw[w64 (by omega) (by omega)];omega
 have w3:min (n:Int) ((l.length+1:Nat):Int)=(n:Int):=by omega
 have w4:IntKind.i64.wrap ((n:Int)-1)=((l.count c:Nat):Int):=by rw[w64 (by omega) (by omega)];omega
 simp(maxSteps:=2000000) only[go_sem,w1,w2,w3,w4,reps_st]
 refine⟨⟨by omega,by omega,by omega⟩,?_⟩
 refine Sm.loopM (M0:=[]) (α:={x:Nat×List UInt8×List (List UInt8)//x.1≤l.count c∧x.2.2.length=x.1∧splB c l=x.2.2++splB c x.2.1∧x.2.1.count c+x.1=l.count c∧x.2.1.length≤l.length}) hP
  (fun x=>[(0,true,S x.val.2.1),(1,true,S [c]),(2,true,I 0),(3,true,I (l.count c:Nat)),(9,true,slV 5 n),(10,true,I x.val.1)])
  (fun x=>[bSt 5 (x.val.2.2++List.replicate (n-x.val.1) [])]) (fun x=>l.count c-x.val.1) ⟨(0,l,[]),by simp,rfl,rfl,rfl,Nat.le_refl _⟩ (fun _=>clSt _ _) (fun _=>ClE.of rfl) [(5,110)] ?_ ?_
 ·exact⟨rfl,trivial,⟨rfl,rfl,rfl,rfl,rfl,rfl,trivial⟩,⟨oV (renV (v_st _)),trivial⟩⟩
 ·rintro⟨⟨i,rest,ps⟩,h1,h2,h3,h4,h5⟩ J hb
  simp only at hb h1 h2 h3 h4 h5⊢
  refine Sm.go 140 ?_
  refine vv ?_
  refine mtch (fun hc=>?_) (fun hc=>?_)
  ·have hc:i<l.count c:=by simp at hc;omega
   refine CallQ.pure 140 (sIndex rest c) rfl ?_
   have hx:=cutB_ix c rest
   have hcc:=cut_count c rest
   have hge:=Lib.indexByte_ge rest c
   generalize Lib.indexByte rest c=m at*
   have hct:(cutB c rest).2.2=true:=by rw[hcc.1,decide_eq_true_eq];omega
   have hm0:m≠ -1:=fun h=>by rw[hx.1 h]at hct;cases hct
   obtain⟨j,rfl⟩:∃j:Nat,m=j:=⟨m.toNat,by omega⟩
   obtain⟨g1,g2⟩:=hx.2 j rfl
   obtain⟨g3,g4⟩:=hcc.2 hct
   have g5:=splB_cut c rest
   rw[hct,if_pos rfl]at g5
   rw[g2]at g3 g4 g5
   simp only at g3 g4 g5
   have q1:decide ((j:Int)<0)=false:=fal_of (by omega)
   have q2:IntKind.i64.wrap ((j:Int)+0)=((j:Nat):Int):=by rw[w64 (by omega) (by omega)];omega
   have q3:IntKind.i64.wrap ((j:Int)+1)=((j+1:Nat):Int):=by rw[w64 (by omega) (by omega)];omega
   have q4:IntKind.i64.wrap ((i:Int)+1)=((i+1:Nat):Int):=by rw[w64 (by omega) (by omega)];omega
   simp(maxSteps:=2000000) only[go_sem,q1,q2,q3,q4,List.length_cons,List.length_nil]
   have e1:((j:Int)-0).toNat=j:=by omega
   have e2:((j+1:Nat):Int).toNat=j+1:=by omega
   have e3:((rest.length:Int)-((j+1:Nat):Int)).toNat=rest.length-(j+1):=by omega
   have e4:(rest.drop (j+1)).take (rest.length-(j+1))=rest.drop (j+1):=List.take_of_length_le (by simp)
   have e5:(List.map cs1 (ps++List.replicate (n-i) [])).set i (cs1 (rest.take j))=List.map cs1 ((ps++[rest.take j])++List.replicate (n-(i+1)) []):=by
    subst h2
    rw[show n-ps.length=(n-(ps.length+1))+1 by omega]
    have:=set_next ps [] (rest.take j) (n-(ps.length+1))
    rw[←this,List.map_set]
   simp only[e1,e2,e3,e4,e5]
   refine⟨⟨by omega,by omega⟩,⟨by omega,by omega⟩,by simp;omega,⟨by omega,by omega,by omega⟩,?_⟩
   refine hb _ _ ⟨(i+1,rest.drop (j+1),ps++[rest.take j]),hc,by simp[h2],by simp[h3,g5],by simp only;omega,by simp only;omega⟩ [(5,5)] (by simp only;omega) ?_
   exact⟨rfl,trivial,⟨rfl,rfl,rfl,rfl,rfl,rfl,trivial⟩,⟨oV (renV (v_st _)),trivial⟩⟩
  ·have hc:i=l.count c:=by simp at hc;omega
   have hr0:rest.count c=0:=by omega
   have hps:(cutB c rest).2.2=false:=by rw[(cut_count c rest).1,hr0];rfl
   have g5:=splB_cut c rest
   rw[hps,if_neg (by simp)]at g5
   rw[g5]at h3
   have q4:IntKind.i64.wrap ((i:Int)+1)=((i+1:Nat):Int):=by rw[w64 (by omega) (by omega)];omega
   have e5:(List.map cs1 (ps++List.replicate (n-i) [])).set i (cs1 rest)=List.map cs1 (splB c l):=by
    rw[show n-i=1 by omega,h3]
    subst h2
    have:=set_next ps [] rest 0
    rw[List.map_set.symm,this]
    simp
   simp(maxSteps:=2000000) only[go_sem,q4,e5]
   refine⟨⟨by omega,by omega⟩,by simp;omega,⟨by omega,by omega,by simp;omega⟩,?_⟩
   have e6:(((i+1:Nat):Int)-0).toNat=(splB c l).length:=by omega
   refine RetQ.ren [(1,5)] hR hP rfl (vv trivial) rfl ?_ trivial ⟨oV (renV (v_st _)),trivial⟩ (clSt _ _) (ClV.of rfl)
   simp only[e6]
   rfl
theorem sSplit (l:List UInt8)(c:UInt8)(hl:l.length≤1000000):CallOk Tryz.prog 14 [S l,S [c]] [] (slV 1 (splB c l).length) [bSt 1 (splB c l)]:=by
 refine CallOk.mkN 100 Tryz.func14 rfl en14 (by simp[Tryz.ntmps14]) (ClA.of rfl) rfl rfl fun C hR hP=>?_
 refine vv ?_
 refine CallQ.ren [(1,130)] 131 (gsplit l c hl) ClM.nil rfl rfl trivial rfl (.inl rfl) ?_
 simp only[Mem.ren,List.map_cons,List.map_nil,renV (v_st _),V.ren,Cv.ren,rn,Nat.reduceBEq,cond_true]
 refine vv ?_
 exact RetQ.ren [(1,130)] hR hP rfl (vv trivial) rfl rfl trivial ⟨oV (renV (v_st _)),trivial⟩ (clSt _ _) (ClV.of rfl)
end Go.Proofs.YtlnpgbnhcondjaaGreatDoor.Fx
