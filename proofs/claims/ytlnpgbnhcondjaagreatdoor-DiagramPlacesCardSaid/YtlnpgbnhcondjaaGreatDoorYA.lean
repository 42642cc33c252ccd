/-  -/
import Derived.Test.YtlnpgbnhcondjaaGreatDoorPS
import Derived.Test.YtlnpgbnhcondjaaGreatDoorY9
import Derived.Test.YtlnpgbnhcondjaaGreatDoorU1
namespace Go.Proofs.YtlnpgbnhcondjaaGreatDoor.Fx
open Vg Tf
set_option linter.unusedSimpArgs false
set_option linter.unusedVariables false
set_option linter.unusedSectionVars false
set_option maxRecDepth 100000
set_option maxHeartbeats 4000000
def cpf (l:List UInt8):List UInt8×Bool:=match l with
 |[]=>([],false)
 |x::r=>if x=45 then(r,true)else(x::r,false)
theorem hasPre (l:List UInt8):CallOk Tryz.prog 52 [S l,S [45]] [] (Bo (cpf l).2) []:=by
 refine CallOk.mkN 100 Tryz.func52 rfl en52 (by simp[Tryz.ntmps52]) (ClA.of rfl) rfl rfl fun C hR hP=>?_
 simp(maxSteps:=2000000) only[go_sem,List.length_cons,List.length_nil]
 refine⟨fun h=>⟨h,h,of_decide_eq_true h⟩,RetQ.bool hR rfl ⟨rfl,trivial⟩ ?_⟩
 cases l with
 |nil=>rfl
 |cons x l=>
  have h1:decide ((1:Int)≤((x::l).length:Int))=true:=tru_of (by simp;omega)
  rw[h1]
  by_cases hx:x=45
  ·simp[cpf,hx]
  ·simp[cpf,hx]
theorem cutPre1 (l:List UInt8):CallOk Tryz.prog 276 [S l,S [45]] [] (.tup [Ws (cpf l).1,Wb1 (cpf l).2]) []:=by
 refine CallOk.mkN 100 Tryz.func276 rfl en276 (by simp[Tryz.ntmps276]) (ClA.of rfl) rfl rfl fun C hR hP=>?_
 refine vv ?_
 refine CallQ.pure 110 (hasPre l) rfl ?_
 refine vv ?_
 refine mtch (fun h=>?_) (fun h=>?_)
 ·have h:(cpf l).2=false:=by simpa using h
  have e:(cpf l).1=l:=by
   cases l with
   |nil=>rfl
   |cons x l=>
    unfold cpf at h⊢
    simp only at h⊢
    split
    ·rename_i hx;rw[if_pos hx]at h;cases h
    ·rfl
  rw[h,e]at hR
  exact RetQ.of hR rfl ⟨rfl,rfl,trivial⟩ rfl (Sub.nil _) ClM.nil (ClV.of rfl)
 ·have h:(cpf l).2=true:=by simpa using h
  obtain⟨x,r,rfl⟩:∃x r,l=x::r:=by
   cases l with
   |nil=>cases h
   |cons x r=>exact⟨x,r,rfl⟩
  have e:(cpf (x::r)).1=r:=by
   unfold cpf at h⊢
   simp only at h⊢
   split
   ·rfl
   ·rename_i hx;rw[if_neg hx]at h;cases h
  rw[h,e]at hR
  simp(maxSteps:=2000000) only[go_sem,List.length_cons,List.length_nil]
  refine⟨⟨by omega,by omega⟩,?_⟩
  refine RetQ.of hR rfl ⟨rfl,rfl,trivial⟩ ?_ (Sub.nil _) ClM.nil (ClV.of rfl)
  simp[V.toW,W.toV]
theorem cutPre (l:List UInt8):CallOk Tryz.prog 250 [S l,S [45]] [] (.tup [Ws (cpf l).1,Wb1 (cpf l).2]) []:=by
 refine CallOk.mkN 100 Tryz.func250 rfl en250 (by simp[Tryz.ntmps250]) (ClA.of rfl) rfl rfl fun C hR hP=>?_
 refine vv ?_
 refine CallQ.pure 110 (cutPre1 l) rfl ?_
 refine vv ?_
 exact RetQ.of hR rfl ⟨rfl,rfl,trivial⟩ rfl (Sub.nil _) ClM.nil (ClV.of rfl)
theorem cpf_eq (s:Str):cpf s=(dgT s,ngB s):=by
 cases s with
 |nil=>rfl
 |cons c r=>
  unfold cpf dgT ngB
  by_cases h:c=45
  ·subst h;rfl
  ·have:(c==45)=false:=by rw[beq_eq_false_iff_ne];exact h
   show(if c=45 then _ else _)=_
   rw[if_neg h]
   show _=(bif c==45 then _ else _,c==45)
   rw[this];rfl
theorem canon_ (s:Str):CallOk Tryz.prog 188 [S s] [] (Bo (canQ s)) []:=by
 have hc:=cutPre s
 rw[cpf_eq]at hc
 refine CallOk.mkN 100 Tryz.func188 rfl en188 (by simp[Tryz.ntmps188]) (ClA.of rfl) rfl rfl fun C hR hP=>?_
 refine vv ?_
 refine CallQ.pure 110 hc rfl ?_
 refine vv ?_
 refine⟨fun h=>⟨h,hlp _ h⟩,fun h=>⟨h,fun h2=>by rw[h,h2];rfl⟩,fun h=>⟨h,fun h2=>by rw[h,h2];rfl⟩,RetQ.bool hR rfl ⟨rfl,trivial⟩ ?_⟩
 unfold canQ
 have e1:((dgT s).getD 0 0==48)=((((dgT s).getD 0 0).toNat:Int)==48):=by
  rw[Bool.eq_iff_iff,beq_iff_eq,beq_iff_eq]
  constructor
  ·intro h;rw[h];rfl
  ·intro h;exact UInt8.toNat_inj.1 (by show _=48;omega)
 have e2:decide ((dgT s).length=1)=(((dgT s).length:Int)==1):=by
  rw[Bool.eq_iff_iff,beq_iff_eq,decide_eq_true_eq];omega
 rw[e1,e2,bne]
 cases dgT s==[]<;>cases (((dgT s).getD 0 0).toNat:Int)==48<;>cases ((dgT s).length:Int)==1<;>cases ngB s<;>rfl
theorem great_ {H:Hp}(s:Str)(hE:¬(-9223372036854775808≤numV s∧numV s≤9223372036854775807)→ErR H)(hs:s.length≤1000000):CallH H Tryz.prog 189 [S s] (Bo (grtQ s)):=by
 have ha:=arp_ s hE hs
 refine CallH.mkS Tryz.func189 rfl en189 (by simp[Tryz.ntmps189]) (ClA.of rfl) fun C hR hP hH hL=>?_
 have hR:=hR C hL
 unfold grtQ at hR
 generalize aprQ s=r at*
 obtain⟨n,e⟩:=r
 simp only at ha hR
 refine Sm.go 100 ?_
 refine vv ?_
 refine CallQ.h 110 ha hH rfl ?_
 refine vv ?_
 refine RetQ.bool hR rfl ⟨rfl,trivial⟩ ?_
 rw[bne]
 cases e==0<;>cases decide (1099511627776<n)<;>cases decide (n< -1099511627776)<;>rfl
end Go.Proofs.YtlnpgbnhcondjaaGreatDoor.Fx
