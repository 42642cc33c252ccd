/-  -/
import Derived.Test.YtlnpgbnhcondjaaGreatDoorPS
import Derived.Test.YtlnpgbnhcondjaaGreatDoorRY
namespace Go.Proofs.YtlnpgbnhcondjaaGreatDoor.Fx
open Vg Tf
set_option linter.unusedSimpArgs false
set_option linter.unusedVariables false
set_option maxRecDepth 100000
set_option maxHeartbeats 4000000
theorem rblock_ {H:Hp}(b:BlL)(hb:b.ok H)(h1:b.c.nm.length≤1000000000000000)(h2:b.c.ty.length≤1000000000000000)(h3:b.c.tb.length≤1000000000000000)(h4:b.c.ins.length≤1000000000000000)(h5:b.c.ks.length≤1000000000000000)(h6:∀s∈b.c.ins,s.length≤1000000000000000):
  CallH H Tryz.prog 96 [rowV (BlL.r b)] (Bo (blOk b.c)):=by
 have ha1:=rnames_ (H:=H) b.i b.c.ins hb.i h4 h6
 refine CallH.mkS Tryz.func96 rfl en96 (by simp[Tryz.ntmps96]) (ClA.of rfl) fun C hR hP hH hL=>?_
 refine Sm.go 100 ?_
 refine vv ?_
 refine CallQ.pure 110 (rKind_ b.c.kd) rfl ?_
 unfold blOk at hR
 cases hk:kindQ b.c.kd with
 |none=>
  rw[hk]at hR
  simp(maxSteps:=2000000) only[go_sem,Option.getD_none]
  refine CallQ.guard (xs:=[]) (v:=Bo true) 150 (fun h=>by cases h) (fun h=>by cases h) ?_
  refine vv ?_
  refine CallQ.guard (xs:=[]) (v:=Bo true) 150 (fun h=>by cases h) (fun h=>by cases h) ?_
  refine vv ?_
  refine CallQ.hg (xs:=[]) (v:=Bo true) (H:=C.hp) 150 (fun h=>by cases h) (Hp.le.refl _) (fun h=>by cases h) ?_
  refine vv ?_
  exact RetQ.bool (hR C hL) rfl ⟨rfl,trivial⟩ rfl
 |some q=>
 obtain⟨a,k,t⟩:=q
 rw[hk]at hR
 simp only at hR
 have e1:((b.c.ins.length:Int)!=(a:Int))= !decide (b.c.ins.length=a):=by rw[Bool.eq_iff_iff,bne_iff_ne,Bool.not_eq_true',decide_eq_false_iff_not];omega
 have e2:((b.c.ks.length:Int)!=(k:Int))= !decide (b.c.ks.length=k):=by rw[Bool.eq_iff_iff,bne_iff_ne,Bool.not_eq_true',decide_eq_false_iff_not];omega
 simp(maxSteps:=2000000) only[go_sem,Option.getD_some,e1,e2]
 refine CallQ.guard 120 (fun _=>rName_ b.c.nm h1) (fun h=>by rw[h];rfl) ?_
 refine vv ?_
 refine CallQ.guard 120 (fun _=>rName_ b.c.ty h2) (fun h=>by rw[←Bool.not_not (nmOk b.c.nm),h];rfl) ?_
 simp(maxSteps:=2000000) only[go_sem,e1,e2]
 generalize hA:decide (b.c.ins.length=a)=A at*
 generalize hB:decide (b.c.ks.length=k)=B at*
 generalize hN:nmOk b.c.nm=Nn at*
 generalize hT:nmOk b.c.ty=Tt at*
 generalize hI:b.c.ins.all nmOk=Ii at*
 refine CallQ.hg 130 (fun _=>ha1) hH (fun h=>by rw[h];rfl) ?_
 refine vv ?_
 refine mtch (fun hd=>?_) (fun hd=>?_)
 ·refine RetQ.bool (hR C hL) rfl ⟨rfl,trivial⟩ ?_
  cases A<;>cases B<;>cases Nn<;>cases Tt<;>cases Ii<;>simp_all
 have hall:A=true∧B=true∧Nn=true∧Tt=true∧Ii=true:=by cases A<;>cases B<;>cases Nn<;>cases Tt<;>cases Ii<;>simp_all
 obtain⟨rfl,rfl,rfl,rfl,rfl⟩:=hall
 simp only[Bool.true_and]at hR
 refine vv ?_
 refine Sm.bringC 1 3 100 5 (hb.k.mono hH) rfl rfl rfl ?_
 rw[intsC,show(intsR b.c.ks).length=b.c.ks.length by simp[intsR]]
 refine Sm.loopM (M0:=[]) (α:={i:Nat//i≤b.c.ks.length∧b.c.ks.all fitB=(b.c.ks.drop i).all fitB}) hP (fun i=>[(1,true,.c (.p 2 0)),(5,true,I t),(7,true,I i.val)])
  (fun _=>[(2,⟨false,[.v (sv b.c.nm),.v (sv b.c.kd),.v (sv b.c.ty),.v (vsl b.i b.c.ins.length),.v (sv b.c.tb),.sl 1 0 b.c.ks.length 1],82⟩),(1,⟨true,b.c.ks.map iC,3⟩)]) (fun i=>b.c.ks.length-i.val) ⟨0,by omega,rfl⟩ (fun _=>ClM.of (by simp only[List.all_cons,inMV (v_iC _)];rfl)) (fun _=>ClE.of rfl) [(2,100),(1,1)] ?_ ?_
 ·exact⟨rfl,trivial,⟨rfl,rfl,rfl,trivial⟩,⟨.inr ⟨_,rfl,.inl rfl⟩,.inr ⟨_,rfl,.inl (renV (v_iC _))⟩,trivial⟩⟩
 rintro⟨i,hi,hx⟩ J hj
 simp only at hj hi hx⊢
 refine Sm.go 120 ?_
 refine vv ?_
 refine mtch (fun hc=>?_) (fun hc=>?_)
 ·have hc:=lt_of_dec hc
  rw[List.drop_eq_getElem_cons hc,List.all_cons]at hx
  simp(maxSteps:=2000000) only[go_sem,get_iC hc]
  refine⟨⟨by omega,by omega⟩,?_⟩
  refine CallQ.pure 130 (rnum_ b.c.ks[i]) rfl ?_
  cases h7:fitB b.c.ks[i]with
  |false=>
   rw[h7]at hx
   refine vv ?_
   refine RetQ.bool (hR C hL) rfl ⟨rfl,trivial⟩ ?_
   rw[hx];simp
  |true=>
   rw[h7,Bool.true_and]at hx
   simp(maxSteps:=2000000) only[go_sem,wS (show i≤1000000000000000000 by omega)]
   exact hj _ _ ⟨i+1,hc,hx⟩ [(2,2),(1,1)] (by simp only;omega) ⟨rfl,trivial,⟨rfl,rfl,rfl,trivial⟩,⟨.inr ⟨_,rfl,.inl rfl⟩,.inr ⟨_,rfl,.inl (renV (v_iC _))⟩,trivial⟩⟩
 ·have hc:=eq_of_dec hi hc
  rw[hc,List.drop_length]at hx
  have hx:b.c.ks.all fitB=true:=hx
  rw[hx]at hR
  have e4:((t:Int)==0)=decide (t=0):=by rw[Bool.eq_iff_iff,beq_iff_eq,decide_eq_true_eq];omega
  simp only[e4]
  by_cases ht:t=0
  ·rw[if_pos ht]at hR
   simp(maxSteps:=2000000) only[go_sem,tru_of ht]
   refine RetQ.bool (hR C hL) rfl ⟨rfl,trivial⟩ ?_
   simp
  ·rw[if_neg ht]at hR
   simp(maxSteps:=2000000) only[go_sem,fal_of ht]
   refine CallQ.pure 130 (rName_ b.c.tb h3) rfl ?_
   refine vv ?_
   refine RetQ.bool (hR C hL) rfl ⟨rfl,trivial⟩ ?_
   simp
end Go.Proofs.YtlnpgbnhcondjaaGreatDoor.Fx
