/-  -/
import Derived.Test.YtlnpgbnhcondjaaGreatDoorPS
import Derived.Test.YtlnpgbnhcondjaaGreatDoorY9
import Derived.Test.YtlnpgbnhcondjaaGreatDoorU1
import Derived.Test.YtlnpgbnhcondjaaGreatDoorQ2
namespace Go.Proofs.YtlnpgbnhcondjaaGreatDoor.Fx
open Vg Tf
set_option linter.unusedSimpArgs false
set_option linter.unusedVariables false
set_option maxRecDepth 100000
set_option maxHeartbeats 4000000
def cpf (l:List UInt8):List UInt8×Bool:=match l with
 |[]=>([],false)
 |x::r=>if x=45 then(r,true)else(x::r,false)
theorem hasPre (l:List UInt8):CallOk Tryz.prog 52 [S l,S [45]] [] (Bo (cpf l).2) []:=by
 refine CallOk.mkN 100 Tryz.func52 rfl en52 (by simp[Tryz.ntmps52]) (ClA.of rfl) rfl rfl fun C hR hP=>?_
 simp(maxSteps:=2000000) only[go_sem,List.length_cons,List.length_nil]
 refine⟨fun h=>⟨h,h,of_decide_eq_true h⟩,RetQ.bool hR rfl ⟨rfl,trivial⟩ ?_⟩
 cases l with
 |nil=>rfl
 |cons x l=>
  have h1:decide ((1:Int)≤((x::l).length:Int))=true:=tru_of (by simp;omega)
  rw[h1]
  by_cases hx:x=45
  ·simp[cpf,hx]
  ·simp[cpf,hx]
theorem cutPre1 (l:List UInt8):CallOk Tryz.prog 276 [S l,S [45]] [] (.tup [Ws (cpf l).1,Wb1 (cpf l).2]) []:=by
 refine CallOk.mkN 100 Tryz.func276 rfl en276 (by simp[Tryz.ntmps276]) (ClA.of rfl) rfl rfl fun C hR hP=>?_
 refine vv ?_
 refine CallQ.pure 110 (hasPre l) rfl ?_
 refine vv ?_
 refine mtch (fun h=>?_) (fun h=>?_)
 ·have h:(cpf l).2=false:=by simpa using h
  have e:(cpf l).1=l:=by
   cases l with
   |nil=>rfl
   |cons x l=>
    unfold cpf at h⊢
    simp only at h⊢
    split
    ·rename_i hx;rw[if_pos hx]at h;cases h
    ·rfl
  rw[h,e]at hR
  exact RetQ.of hR rfl ⟨rfl,rfl,trivial⟩ rfl (Sub.nil _) ClM.nil (ClV.of rfl)
 ·have h:(cpf l).2=true:=by simpa using h
  obtain⟨x,r,rfl⟩:∃x r,l=x::r:=by
   cases l with
   |nil=>cases h
   |cons x r=>exact⟨x,r,rfl⟩
  have e:(cpf (x::r)).1=r:=by
   unfold cpf at h⊢
   simp only at h⊢
   split
   ·rfl
   ·rename_i hx;rw[if_neg hx]at h;cases h
  rw[h,e]at hR
  simp(maxSteps:=2000000) only[go_sem,List.length_cons,List.length_nil]
  refine⟨⟨by omega,by omega⟩,?_⟩
  refine RetQ.of hR rfl ⟨rfl,rfl,trivial⟩ ?_ (Sub.nil _) ClM.nil (ClV.of rfl)
  simp[V.toW,W.toV]
theorem cutPre (l:List UInt8):CallOk Tryz.prog 250 [S l,S [45]] [] (.tup [Ws (cpf l).1,Wb1 (cpf l).2]) []:=by
 refine CallOk.mkN 100 Tryz.func250 rfl en250 (by simp[Tryz.ntmps250]) (ClA.of rfl) rfl rfl fun C hR hP=>?_
 refine vv ?_
 refine CallQ.pure 110 (cutPre1 l) rfl ?_
 refine vv ?_
 exact RetQ.of hR rfl ⟨rfl,rfl,trivial⟩ rfl (Sub.nil _) ClM.nil (ClV.of rfl)
theorem cpf_eq (s:Str):cpf s=(dgT s,ngB s):=by
 cases s with
 |nil=>rfl
 |cons c r=>
  unfold cpf dgT ngB
  by_cases h:c=45
  ·subst h;rfl
  ·have:(c==45)=false:=by rw[beq_eq_false_iff_ne];exact h
   show(if c=45 then _ else _)=_
   rw[if_neg h]
   show _=(bif c==45 then _ else _,c==45)
   rw[this];rfl
theorem canon_ (s:Str):CallOk Tryz.prog 188 [S s] [] (Bo (canQ s)) []:=by
 have hc:=cutPre s
 rw[cpf_eq]at hc
 refine CallOk.mkN 100 Tryz.func188 rfl en188 (by simp[Tryz.ntmps188]) (ClA.of rfl) rfl rfl fun C hR hP=>?_
 refine vv ?_
 refine CallQ.pure 110 hc rfl ?_
 refine vv ?_
 refine⟨fun h=>⟨h,hlp _ h⟩,fun h=>⟨h,fun h2=>by rw[h,h2];rfl⟩,fun h=>⟨h,fun h2=>by rw[h,h2];rfl⟩,RetQ.bool hR rfl ⟨rfl,trivial⟩ ?_⟩
 unfold canQ
 have e1:((dgT s).getD 0 0==48)=((((dgT s).getD 0 0).toNat:Int)==48):=by
  rw[Bool.eq_iff_iff,beq_iff_eq,beq_iff_eq]
  constructor
  ·intro h;rw[h];rfl
  ·intro h;exact UInt8.toNat_inj.1 (by show _=48;omega)
 have e2:decide ((dgT s).length=1)=(((dgT s).length:Int)==1):=by
  rw[Bool.eq_iff_iff,beq_iff_eq,decide_eq_true_eq];omega
 rw[e1,e2,bne]
 cases dgT s==[]<;>cases (((dgT s).getD 0 0).toNat:Int)==48<;>cases ((dgT s).length:Int)==1<;>cases ngB s<;>rfl
theorem great_ {H:Hp}(s:Str)(hE:¬(-9223372036854775808≤numV s∧numV s≤9223372036854775807)→ErR H)(hs:s.length≤1000000):CallH H Tryz.prog 189 [S s] (Bo (grtQ s)):=by
 have ha:=arp_ s hE hs
 refine CallH.mkS Tryz.func189 rfl en189 (by simp[Tryz.ntmps189]) (ClA.of rfl) fun C hR hP hH hL=>?_
 have hR:=hR C hL
 unfold grtQ at hR
 generalize aprQ s=r at*
 obtain⟨n,e⟩:=r
 simp only at ha hR
 refine Sm.go 100 ?_
 refine vv ?_
 refine CallQ.h 110 ha hH rfl ?_
 refine vv ?_
 refine RetQ.bool hR rfl ⟨rfl,trivial⟩ ?_
 rw[bne]
 cases e==0<;>cases decide (1099511627776<n)<;>cases decide (n< -1099511627776)<;>rfl
end Go.Proofs.YtlnpgbnhcondjaaGreatDoor.Fx
namespace Go.Proofs.YtlnpgbnhcondjaaGreatDoor.Fx
open Vg Tf
set_option linter.unusedSimpArgs false
set_option linter.unusedVariables false
set_option maxRecDepth 100000
set_option maxHeartbeats 4000000
theorem symB8:∀n:Fin 256,decide ((0:Int)≤Lib.indexByte symL (UInt8.ofNat n.val))=symL.contains (UInt8.ofNat n.val):=by decide+kernel
theorem symB (c:UInt8):decide ((0:Int)≤Lib.indexByte symL c)=symL.contains c:=by
 have h:=symB8 ⟨c.toNat,c.toNat_lt⟩
 simpa using h
theorem ixB (l:Str)(c:UInt8):CallOk Tryz.prog 30 [S l,Y c.toNat] [] (I (Lib.indexByte l c)) []:=by
 refine CallOk.mkN 100 Tryz.func30 rfl en30 (by simp[Tryz.ntmps30]) (ClA.of rfl) rfl rfl fun C hR hP=>?_
 refine vv ?_
 refine CallQ.pure 110 (ixByte l c) rfl ?_
 refine vv ?_
 exact RetQ.of hR rfl ⟨rfl,trivial⟩ rfl (Sub.nil _) ClM.nil (ClV.of rfl)
theorem run_eq (p:UInt8→Bool)(s:Str)(k:Nat):runN p s k=run1 p s k:=rfl
theorem u8e (c:UInt8)(n:Nat)(h:n<256):((c.toNat:Int)==(n:Int))=(c==UInt8.ofNat n):=by
 rw[Bool.eq_iff_iff,beq_iff_eq,beq_iff_eq]
 constructor
 ·intro e
  apply UInt8.toNat_inj.1
  rw[UInt8.toNat_ofNat_of_lt' h];omega
 ·intro e;rw[e,UInt8.toNat_ofNat_of_lt' h]
theorem scan_ {H:Hp}(hE:ErR H)(l:Str)(hl:l.length≤100000)(k:Nat)(hk:k<l.length):CallH H Tryz.prog 67 [S l,I k] (.tup [Wi ((scnQ l k).1:Int),Wi ((scnQ l k).2.1:Int),Wi (scnQ l k).2.2]):=by
 refine CallH.mkS Tryz.func67 rfl en67 (by simp[Tryz.ntmps67]) (ClA.of rfl) fun C hR hP hH hL=>?_
 have hR:=hR C hL
 unfold scnQ at hR
 have hle:=letter_ (l.getD k 0)
 have hdi:=digit_ (l.getD k 0)
 have hix:=ixB symL (l.getD k 0)
 have hri:=run_ l k (by omega) (by omega) 186 inB inner_
 rw[run_eq]at hri
 have hb:=u8e (l.getD k 0) 32 (by decide)
 have ht:=u8e (l.getD k 0) 9 (by decide)
 have hm:=u8e (l.getD k 0) 45 (by decide)
 generalize hc:l.getD k 0=c at*
 refine Sm.go 100 ?_
 simp(maxSteps:=2000000) only[go_sem,hc]
 refine⟨⟨by omega,by omega⟩,?_⟩
 refine mtch (fun hq=>?_) (fun hq=>?_)
 ·have h0:c=32∨c=9:=by
   have q1:((c.toNat:Int)==32)=(c==32):=hb
   have q2:((c.toNat:Int)==9)=(c==9):=ht
   rw[q1,q2]at hq
   cases h1:c==32 with
   |true=>exact .inl (eq_of_beq h1)
   |false=>rw[h1,cond_false]at hq;exact .inr (eq_of_beq hq)
  simp only[if_pos h0]at hR
  exact RetQ.of hR rfl scc rvv (Sub.nil _) ClM.nil (ClV.of rfl)
 have h0:¬(c=32∨c=9):=by
  have q1:((c.toNat:Int)==32)=(c==32):=hb
  have q2:((c.toNat:Int)==9)=(c==9):=ht
  rw[q1,q2]at hq
  rintro(rfl|rfl)<;>cases hq
 simp only[if_neg h0]at hR
 refine CallQ.pure 110 hle rfl ?_
 simp(maxSteps:=2000000) only[go_sem,hc]
 cases hlc:leB c with
 |true=>
  simp only[hlc,if_true]at hR
  simp(maxSteps:=2000000) only[go_sem,hc]
  refine CallQ.pure 120 hri rfl ?_
  simp(maxSteps:=2000000) only[go_sem,hc]
  refine mtch (fun hq=>?_) (fun hq=>?_)
  ·have h1:24<run1 inB l k:=by have:=of_decide_eq_true hq;omega
   simp only[if_pos h1]at hR
   exact RetQ.of hR rfl scc rvv (Sub.nil _) ClM.nil (ClV.of rfl)
  ·have h1:¬24<run1 inB l k:=by have:=of_decide_eq_false hq;omega
   simp only[if_neg h1]at hR
   exact RetQ.of hR rfl scc rvv (Sub.nil _) ClM.nil (ClV.of rfl)
 |false=>
  simp only[hlc,Bool.false_eq_true,if_false]at hR
  simp(maxSteps:=2000000) only[go_sem,hc]
  have w1:IntKind.i64.wrap ((k:Int)+1)=((k+1:Nat):Int):=wS (by omega)
  refine CallQ.pure 120 hdi rfl ?_
  simp(maxSteps:=2000000) only[go_sem,hc,w1]
  have hg:∀b d e:Bool,(!b&&bif d then e else false)=true→b=false∧d=true∧e=true:=by decide
  refine⟨fun h=>⟨h,fun h2=>by rw[h,h2];rfl⟩,fun h=>⟨h,h,by omega,of_decide_eq_true (hg _ _ _ h).2.2⟩,?_⟩
  refine CallQ.guard 130 (fun _=>digit_ (l.getD (k+1) 0)) (fun h=>by rw[h];rfl) ?_
  simp(maxSteps:=2000000) only[go_sem,hc,w1]
  have hcond:(diB c||(c==45&&(decide (k+1<l.length)&&diB (l.getD (k+1) 0))))=(bif diB c then true else bif (bif ((c.toNat:Int)==45)then decide (((k+1:Nat):Int)<(l.length:Int))else false)then diB (l.getD (k+1) 0)else false):=by
   have q1:((c.toNat:Int)==45)=(c==45):=hm
   have q2:decide (((k+1:Nat):Int)<(l.length:Int))=decide (k+1<l.length):=by rw[decide_eq_decide];omega
   rw[q1,q2]
   cases diB c<;>cases c==45<;>cases decide (k+1<l.length)<;>rfl
  rw[hcond]at hR
  refine⟨fun h=>⟨h,fun h2=>by rw[h,h2];rfl⟩,?_⟩
  refine mtch (fun hq=>?_) (fun hq=>?_)
  ·simp only[hq,if_true]at hR
   have hrd:=run_ l (k+1) (by omega) (by omega) 187 diB digit_
   rw[run_eq]at hrd
   have hrn:run1 diB l (k+1)+(k+1)≤l.length:=by
    unfold run1
    have:=(List.takeWhile_prefix (l:=l.drop (k+1)) diB).length_le
    rw[List.length_drop]at this;omega
   refine CallQ.pure 140 hrd rfl ?_
   generalize run1 diB l (k+1)=n at*
   have w2:IntKind.i64.wrap (1+(n:Int))=((1+n:Nat):Int):=by rw[w64 (by omega) (by omega)];omega
   have w3:IntKind.i64.wrap ((k:Int)+((1+n:Nat):Int))=((k+(1+n):Nat):Int):=by rw[w64 (by omega) (by omega)];omega
   simp(maxSteps:=2000000) only[go_sem,hc,w1,w2,w3]
   refine⟨⟨by omega,by omega,by omega⟩,fun h=>⟨h,h,by omega,of_decide_eq_true h⟩,?_⟩
   refine CallQ.guard 150 (fun _=>letter_ (l.getD (k+(1+n)) 0)) (fun h=>by rw[h];rfl) ?_
   have e4:List.take (((k+(1+n):Nat):Int)-(k:Int)).toNat (List.drop k l)=subS2 l k (1+n):=by
    rw[show(((k+(1+n):Nat):Int)-(k:Int)).toNat=1+n by omega];rfl
   simp(maxSteps:=2000000) only[go_sem,hc,w1,w2,w3,e4]
   have hA:∀b d:Bool,(b&&d)=true→b=true:=by decide
   refine⟨fun h=>⟨h,h,by omega,of_decide_eq_true (hA _ _ h)⟩,fun h=>⟨h,fun h2=>by rw[h,h2];rfl⟩,?_⟩
   refine CallQ.guard 160 (fun _=>canon_ (subS2 l k (1+n))) (fun h=>by rw[h];rfl) ?_
   simp(maxSteps:=2000000) only[go_sem,hc,w1,w2,w3,e4]
   have h95:=u8e (l.getD (k+(1+n)) 0) 95 (by decide)
   have hcond2:((decide (k+(1+n)<l.length)&&(leB (l.getD (k+(1+n)) 0)||l.getD (k+(1+n)) 0==95))|| !canQ (subS2 l k (1+n)))=(bif (bif decide (((k+(1+n):Nat):Int)<(l.length:Int))then bif leB (l.getD (k+(1+n)) 0)then true else((l.getD (k+(1+n)) 0).toNat:Int)==95 else false)then true else !canQ (subS2 l k (1+n))):=by
    have q1:(((l.getD (k+(1+n)) 0).toNat:Int)==95)=(l.getD (k+(1+n)) 0==95):=h95
    have q2:decide (((k+(1+n):Nat):Int)<(l.length:Int))=decide (k+(1+n)<l.length):=by rw[decide_eq_decide];omega
    rw[q1,q2]
    cases decide (k+(1+n)<l.length)<;>cases leB (l.getD (k+(1+n)) 0)<;>cases l.getD (k+(1+n)) 0==95<;>cases canQ (subS2 l k (1+n))<;>rfl
   rw[hcond2]at hR
   refine mtch (fun hq2=>?_) (fun hq2=>?_)
   ·simp only[hq2,if_true]at hR
    exact RetQ.of hR rfl scc rvv (Sub.nil _) ClM.nil (ClV.of rfl)
   ·simp only[hq2,Bool.false_eq_true,if_false]at hR
    refine CallQ.h 170 (great_ (subS2 l k (1+n)) (fun _=>hE) (by unfold subS2;rw[List.length_take];omega)) hH rfl ?_
    refine vv ?_
    cases hgr:grtQ (subS2 l k (1+n))with
    |true=>
     simp only[hgr,if_true]at hR
     refine vv ?_
     exact RetQ.of hR rfl scc rvv (Sub.nil _) ClM.nil (ClV.of rfl)
    |false=>
     simp only[hgr,Bool.false_eq_true,if_false]at hR
     refine vv ?_
     exact RetQ.of hR rfl scc rvv (Sub.nil _) ClM.nil (ClV.of rfl)
  ·simp only[hq,Bool.false_eq_true,if_false]at hR
   refine CallQ.pure 140 hix rfl ?_
   simp(maxSteps:=2000000) only[go_sem,hc]
   rw[symB]
   cases hs:symL.contains c with
   |true=>
    simp only[hs,if_true]at hR
    simp(maxSteps:=2000000) only[go_sem,hc]
    exact RetQ.of hR rfl scc rvv (Sub.nil _) ClM.nil (ClV.of rfl)
   |false=>
    simp only[hs,Bool.false_eq_true,if_false]at hR
    simp(maxSteps:=2000000) only[go_sem,hc]
    exact RetQ.of hR rfl scc rvv (Sub.nil _) ClM.nil (ClV.of rfl)
end Go.Proofs.YtlnpgbnhcondjaaGreatDoor.Fx
namespace Go.Proofs.YtlnpgbnhcondjaaGreatDoor.Fx
set_option linter.unusedVariables false
theorem run1_le (p:UInt8→Bool)(s:Str)(k:Nat):run1 p s k≤s.length-k:=by
 unfold run1
 have:=(List.takeWhile_prefix (l:=s.drop k) p).length_le
 rw[List.length_drop]at this;exact this
theorem run1_pos {p:UInt8→Bool}{s:Str}{k:Nat}(h:k<s.length)(hp:p (s.getD k 0)=true):1≤run1 p s k:=by
 unfold run1
 rw[List.drop_eq_getElem_cons h,List.takeWhile_cons]
 rw[List.getD_eq_getElem?_getD,List.getElem?_eq_getElem h]at hp
 have hp:p s[k]=true:=hp
 rw[if_pos hp];simp
theorem leB_inB {c:UInt8}(h:leB c=true):inB c=true:=by unfold inB;rw[h];rfl
theorem scn_ok {l:Str}{k:Nat}(h:k<l.length)(he:(scnQ l k).2.2=0):1≤(scnQ l k).2.1∧k+(scnQ l k).2.1≤l.length∧(scnQ l k).1≤3:=by
 unfold scnQ at he⊢
 simp only at he⊢
 by_cases h1:l.getD k 0=32∨l.getD k 0=9
 ·simp only[if_pos h1]at he⊢;omega
 simp only[if_neg h1]at he⊢
 by_cases h2:leB (l.getD k 0)=true
 ·simp only[if_pos h2]at he⊢
  by_cases h3:24<run1 inB l k
  ·simp only[if_pos h3]at he;cases he
  ·simp only[if_neg h3]at he⊢
   have a:=run1_pos h (leB_inB h2)
   have b:=run1_le inB l k
   omega
 simp only[if_neg h2]at he⊢
 by_cases h4:(diB (l.getD k 0)||(l.getD k 0==45&&(decide (k+1<l.length)&&diB (l.getD (k+1) 0))))=true
 ·simp only[if_pos h4]at he⊢
  have b:=run1_le diB l (k+1)
  split at he
  ·cases he
  ·rename_i h5
   rw[if_neg h5]
   split at he
   ·cases he
   ·rename_i h6
    rw[if_neg h6]
    simp only
    omega
 simp only[if_neg h4]at he⊢
 by_cases h7:symL.contains (l.getD k 0)=true
 ·simp only[if_pos h7]at he⊢;omega
 ·simp only[if_neg h7]at he;cases he
theorem scn_num {l:Str}(hl:l.length≤100000){k:Nat}(h:k<l.length)(he:(scnQ l k).2.2=0)(h2:(scnQ l k).1=2):gdN (subS2 l k (scnQ l k).2.1):=by
 have hg:grtQ (subS2 l k (scnQ l k).2.1)=false:=by
  unfold scnQ at he h2⊢
  simp only at he h2⊢
  by_cases h1:l.getD k 0=32∨l.getD k 0=9
  ·simp only[if_pos h1]at h2;cases h2
  simp only[if_neg h1]at he h2⊢
  by_cases h3:leB (l.getD k 0)=true
  ·simp only[if_pos h3]at h2
   split at h2<;>cases h2
  simp only[if_neg h3]at he h2⊢
  by_cases h4:(diB (l.getD k 0)||(l.getD k 0==45&&(decide (k+1<l.length)&&diB (l.getD (k+1) 0))))=true
  ·simp only[if_pos h4]at he h2⊢
   split at he
   ·cases he
   ·rename_i h5
    rw[if_neg h5]
    split at he
    ·cases he
    ·rename_i h6
     rw[if_neg h6]
     simpa using h6
  simp only[if_neg h4]at h2
  split at h2<;>cases h2
 have hlen:(subS2 l k (scnQ l k).2.1).length≤1000000:=by unfold subS2;rw[List.length_take,List.length_drop];omega
 generalize subS2 l k (scnQ l k).2.1=t at*
 refine⟨hlen,?_⟩
 unfold grtQ at hg
 rw[Bool.or_eq_false_iff]at hg
 have ha:(aprQ t).2=0:=by
  have:=hg.1
  simpa using this
 unfold aprQ at ha
 split at ha
 ·cases ha
 ·split at ha
  ·cases ha
  ·split at ha
   ·cases ha
   ·split at ha
    ·rename_i hh;exact hh
    ·cases ha
end Go.Proofs.YtlnpgbnhcondjaaGreatDoor.Fx
