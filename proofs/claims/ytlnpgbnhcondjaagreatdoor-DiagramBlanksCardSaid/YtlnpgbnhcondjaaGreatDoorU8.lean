/-  -/
import Derived.Test.YtlnpgbnhcondjaaGreatDoorPS
import Derived.Test.YtlnpgbnhcondjaaGreatDoorQ0
import Derived.Test.YtlnpgbnhcondjaaGreatDoorU6
namespace Go.Proofs.YtlnpgbnhcondjaaGreatDoor.Fx
open Vg Tf
set_option linter.unusedSimpArgs false
set_option linter.unusedVariables false
set_option maxRecDepth 100000
set_option maxHeartbeats 4000000
def rdR (f:List UInt8):Nat×Nat×Bool:=match readF f with
 |none=>(0,0,false)
 |some (i,n)=>(i,n,true)
theorem rd5 (nm:List UInt8)(n:Nat):(match Option.map (fun i=>(i,n)) (ixU nm symT 0)with
  |none=>(0,0,false)
  |some (i,n)=>(i,n,true))=bif [109]==nm then(0,n,true)else bif [107,103]==nm then(1,n,true)else bif [115]==nm then(2,n,true)else bif [65]==nm then(3,n,true)else bif [75]==nm then(4,n,true)else((0,0,false):Nat×Nat×Bool):=by
 unfold symT
 simp only[ixU]
 by_cases h0:[109]=nm
 ·subst h0;rfl
 by_cases h1:[107,103]=nm
 ·subst h1;rfl
 by_cases h2:[115]=nm
 ·subst h2;rfl
 by_cases h3:[65]=nm
 ·subst h3;rfl
 by_cases h4:[75]=nm
 ·subst h4;rfl
 rw[beq_eq_false_iff_ne.2 h0,beq_eq_false_iff_ne.2 h1,beq_eq_false_iff_ne.2 h2,beq_eq_false_iff_ne.2 h3,beq_eq_false_iff_ne.2 h4]
 simp only[if_neg h0,if_neg h1,if_neg h2,if_neg h3,if_neg h4]
 rfl
theorem sg0:(symT.map cs1)[0]?=some (cs1 [109]):=rfl
theorem sg1:(symT.map cs1)[1]?=some (cs1 [107,103]):=rfl
theorem sg2:(symT.map cs1)[2]?=some (cs1 [115]):=rfl
theorem sg3:(symT.map cs1)[3]?=some (cs1 [65]):=rfl
theorem sg4:(symT.map cs1)[4]?=some (cs1 [75]):=rfl
theorem read_ (f:List UInt8)(hf:f.length≤1000000):CallOk Tryz.prog 281 [S f] [] (.tup [Wi (rdR f).1,Wi (rdR f).2.1,Wb1 (rdR f).2.2]) []:=by
 refine CallOk.mkN 100 Tryz.func281 rfl en281 (by simp[Tryz.ntmps281]) (ClA.of rfl) rfl rfl fun C hR hP=>?_
 refine vv ?_
 refine CallQ.pure 110 (sCut f 94 hf) rfl ?_
 have hrd:rdR f=match readF f with
  |none=>(0,0,false)
  |some (i,n)=>(i,n,true):=rfl
 unfold readF at hrd
 generalize cutB 94 f=q at*
 obtain⟨nm,d,b⟩:=q
 simp only at hrd⊢
 refine vv ?_
 cases b with
 |true=>
  refine vv ?_
  match d,hrd with
  |[],hrd=>
   rw[hrd]at hR
   refine vv ?_
   exact RetQ.of hR rfl (vv trivial) rvr (Sub.nil _) ClM.nil (ClV.of rfl)
  |x::y::d,hrd=>
   have h1:(((d.length+1+1:Nat):Int)!=1)=true:=by simp;omega
   rw[hrd]at hR
   simp(maxSteps:=2000000) only[go_sem,h1]
   exact RetQ.of hR rfl (vv trivial) rvr (Sub.nil _) ClM.nil (ClV.of rfl)
  |[x],hrd=>
   simp only[if_true]at hrd
   simp(maxSteps:=2000000) only[go_sem,show([x]:List UInt8).getD 0 0=x from rfl]
   by_cases hx:50≤x.toNat∧x.toNat≤57
   ·have h1:decide ((x.toNat:Int)<50)=false:=fal_of (by omega)
    have h2:decide (57<(x.toNat:Int))=false:=fal_of (by omega)
    have w1:IntKind.u8.wrap ((x.toNat:Int)-48)=((x.toNat-48:Nat):Int):=by rw[IntKind.wrap_u8];omega
    have w2:IntKind.i64.wrap ((x.toNat-48:Nat):Int)=((x.toNat-48:Nat):Int):=by rw[w64 (by omega) (by omega)]
    rw[if_pos hx]at hrd
    generalize x.toNat-48=n at*
    simp(maxSteps:=2000000) only[go_sem,h1,h2,w1,w2]
    refine CallQ.pure 120 symbols_ rfl ?_
    refine vv ?_
    refine Sm.unroll 6 (Sm.go 130 ?_)
    simp(maxSteps:=2000000) only[go_sem,sg0,sg1,sg2,sg3,sg4]
    rw[rd5]at hrd
    refine mtch (fun hq=>?_) (fun hq=>?_)
    ·rw[hq,cond_true]at hrd
     rw[hrd]at hR
     exact RetQ.of hR rfl (vv trivial) rvr (Sub.nil _) ClM.nil (ClV.of rfl)
    rw[hq,cond_false]at hrd
    refine mtch (fun hq=>?_) (fun hq=>?_)
    ·rw[hq,cond_true]at hrd
     rw[hrd]at hR
     exact RetQ.of hR rfl (vv trivial) rvr (Sub.nil _) ClM.nil (ClV.of rfl)
    rw[hq,cond_false]at hrd
    refine mtch (fun hq=>?_) (fun hq=>?_)
    ·rw[hq,cond_true]at hrd
     rw[hrd]at hR
     exact RetQ.of hR rfl (vv trivial) rvr (Sub.nil _) ClM.nil (ClV.of rfl)
    rw[hq,cond_false]at hrd
    refine mtch (fun hq=>?_) (fun hq=>?_)
    ·rw[hq,cond_true]at hrd
     rw[hrd]at hR
     exact RetQ.of hR rfl (vv trivial) rvr (Sub.nil _) ClM.nil (ClV.of rfl)
    rw[hq,cond_false]at hrd
    refine mtch (fun hq=>?_) (fun hq=>?_)
    ·rw[hq,cond_true]at hrd
     rw[hrd]at hR
     exact RetQ.of hR rfl (vv trivial) rvr (Sub.nil _) ClM.nil (ClV.of rfl)
    rw[hq,cond_false]at hrd
    rw[hrd]at hR
    exact RetQ.of hR rfl (vv trivial) rvr (Sub.nil _) ClM.nil (ClV.of rfl)
   ·rw[if_neg hx]at hrd
    rw[hrd]at hR
    have h1:(bif decide ((x.toNat:Int)<50)then true else decide (57<(x.toNat:Int)))=true:=by
     by_cases h:(x.toNat:Int)<50
     ·simp[h]
     ·simp[h];omega
    simp(maxSteps:=2000000) only[go_sem,h1]
    exact RetQ.of hR rfl (vv trivial) rvr (Sub.nil _) ClM.nil (ClV.of rfl)
 |false=>
  simp only[Bool.false_eq_true,if_false]at hrd
  refine vv ?_
  refine CallQ.pure 120 symbols_ rfl ?_
  refine vv ?_
  refine Sm.unroll 6 (Sm.go 130 ?_)
  simp(maxSteps:=2000000) only[go_sem,sg0,sg1,sg2,sg3,sg4]
  rw[rd5]at hrd
  refine mtch (fun hq=>?_) (fun hq=>?_)
  ·rw[hq,cond_true]at hrd
   rw[hrd]at hR
   exact RetQ.of hR rfl (vv trivial) rvr (Sub.nil _) ClM.nil (ClV.of rfl)
  rw[hq,cond_false]at hrd
  refine mtch (fun hq=>?_) (fun hq=>?_)
  ·rw[hq,cond_true]at hrd
   rw[hrd]at hR
   exact RetQ.of hR rfl (vv trivial) rvr (Sub.nil _) ClM.nil (ClV.of rfl)
  rw[hq,cond_false]at hrd
  refine mtch (fun hq=>?_) (fun hq=>?_)
  ·rw[hq,cond_true]at hrd
   rw[hrd]at hR
   exact RetQ.of hR rfl (vv trivial) rvr (Sub.nil _) ClM.nil (ClV.of rfl)
  rw[hq,cond_false]at hrd
  refine mtch (fun hq=>?_) (fun hq=>?_)
  ·rw[hq,cond_true]at hrd
   rw[hrd]at hR
   exact RetQ.of hR rfl (vv trivial) rvr (Sub.nil _) ClM.nil (ClV.of rfl)
  rw[hq,cond_false]at hrd
  refine mtch (fun hq=>?_) (fun hq=>?_)
  ·rw[hq,cond_true]at hrd
   rw[hrd]at hR
   exact RetQ.of hR rfl (vv trivial) rvr (Sub.nil _) ClM.nil (ClV.of rfl)
  rw[hq,cond_false]at hrd
  rw[hrd]at hR
  exact RetQ.of hR rfl (vv trivial) rvr (Sub.nil _) ClM.nil (ClV.of rfl)
end Go.Proofs.YtlnpgbnhcondjaaGreatDoor.Fx
namespace Go.Proofs.YtlnpgbnhcondjaaGreatDoor.Fx
open Vg Tf
set_option linter.unusedSimpArgs false
set_option linter.unusedVariables false
set_option maxRecDepth 100000
set_option maxHeartbeats 4000000
end Go.Proofs.YtlnpgbnhcondjaaGreatDoor.Fx
namespace Go.Proofs.YtlnpgbnhcondjaaGreatDoor.Fx
open Vg Tf
set_option linter.unusedSimpArgs false
set_option linter.unusedVariables false
set_option maxRecDepth 100000
set_option maxHeartbeats 4000000
theorem parse_named (l:List UInt8)(hl:l.length≤40)(hn:(nmd l).2=true):CallOk Tryz.prog 267 [S l] [] (.tup [Wuu (nmd l).1,Wi 0]) []:=by
 have h1:decide ((40:Int)<l.length)=false:=fal_of (by omega)
 refine CallOk.mkN 100 Tryz.func267 rfl en267 (by simp[Tryz.ntmps267]) (ClA.of rfl) rfl rfl fun C hR hP=>?_
 simp(maxSteps:=2000000) only[go_sem,h1]
 refine CallQ.pure 110 (named_ l) rfl ?_
 refine vv ?_
 rw[hn]
 refine vv ?_
 exact RetQ.of hR rfl (vv trivial) rvr (Sub.nil _) ClM.nil (ClV.of rfl)
def m2:Un:=⟨2,0,0,0,0⟩
def qt:Un:=⟨-1,1, -2,0,0⟩
end Go.Proofs.YtlnpgbnhcondjaaGreatDoor.Fx
