/-  -/
import Derived.Test.YtlnpgbnhcondjaaGreatDoorPS
import Derived.Test.YtlnpgbnhcondjaaGreatDoorQ3
namespace Go.Proofs.YtlnpgbnhcondjaaGreatDoor.Fx
open Vg Tf
set_option linter.unusedSimpArgs false
set_option linter.unusedVariables false
set_option maxRecDepth 100000
set_option maxHeartbeats 4000000
theorem rLetter_ (c:UInt8):CallOk Tryz.prog 170 [Y c.toNat] [] (Bo (leB c)) []:=by
 refine CallOk.mkN 100 Tryz.func170 rfl en170 (by simp[Tryz.ntmps170]) (ClA.of rfl) rfl rfl fun C hR hP=>?_
 refine vv ?_
 refine⟨fun h=>⟨h,fun h2=>by rw[h,h2];rfl⟩,?_⟩
 refine RetQ.bool hR rfl ⟨rfl,trivial⟩ ?_
 unfold leB
 simp only[band_,bor_]
 have e1:decide ((97:Int)≤(c.toNat:Int))=decide (97≤c.toNat):=by rw[decide_eq_decide];omega
 have e2:decide ((c.toNat:Int)≤122)=decide (c.toNat≤122):=by rw[decide_eq_decide];omega
 have e3:decide ((65:Int)≤(c.toNat:Int))=decide (65≤c.toNat):=by rw[decide_eq_decide];omega
 have e4:decide ((c.toNat:Int)≤90)=decide (c.toNat≤90):=by rw[decide_eq_decide];omega
 rw[e1,e2,e3,e4]
theorem rDigit_ (c:UInt8):CallOk Tryz.prog 172 [Y c.toNat] [] (Bo (diB c)) []:=by
 refine CallOk.mkN 100 Tryz.func172 rfl en172 (by simp[Tryz.ntmps172]) (ClA.of rfl) rfl rfl fun C hR hP=>?_
 refine vv ?_
 refine RetQ.bool hR rfl ⟨rfl,trivial⟩ ?_
 unfold diB
 simp only[band_,bor_]
 have e1:decide ((48:Int)≤(c.toNat:Int))=decide (48≤c.toNat):=by rw[decide_eq_decide];omega
 have e2:decide ((c.toNat:Int)≤57)=decide (c.toNat≤57):=by rw[decide_eq_decide];omega
 rw[e1,e2]
def wordQ (s:Str):Nat:=match s with
 |[]=>0
 |c::r=>if leB c=true then 1+(r.takeWhile inB).length else 0
theorem wordQ_all (s:Str)(hs:s≠[]):((wordQ s:Int)==(s.length:Int))=(leB (s.getD 0 0)&&s.all inB):=by
 cases s with
 |nil=>exact absurd rfl hs
 |cons c r=>
  have hi:leB c=true→inB c=true:=fun h=>by unfold inB;rw[h];rfl
  have:=runN_all inB r
  unfold runN at this
  rw[List.drop_zero]at this
  show((((if leB c=true then 1+(r.takeWhile inB).length else 0:Nat)):Int)==((c::r).length:Int))=(leB c&&(inB c&&r.all inB))
  cases h:leB c with
  |false=>simp;omega
  |true=>
   rw[hi h,if_pos rfl,←this]
   simp only[List.length_cons,Bool.true_and]
   rw[Bool.eq_iff_iff,beq_iff_eq,beq_iff_eq];omega
theorem rWord_ (s:Str)(hs:s.length≤1000000000000000):CallOk Tryz.prog 171 [S s] [] (I (wordQ s)) []:=by
 cases s with
 |nil=>
  refine CallOk.mkN 100 Tryz.func171 rfl en171 (by simp[Tryz.ntmps171]) (ClA.of rfl) rfl rfl fun C hR hP=>?_
  refine vv ?_
  refine CallQ.guard (xs:=[]) (v:=Bo true) 150 (fun h=>by cases h) (fun h=>by cases h) ?_
  refine vv ?_
  exact RetQ.int hR rfl ⟨rfl,trivial⟩ rfl
 |cons c r=>
  have hne:((c::r)==([]:Str))=false:=rfl
  have h0:(0:Int)<((c::r).length:Int):=by simp only[List.length_cons];omega
  have hw:wordQ (c::r)=if leB ((c::r).getD 0 0)=true then 1+(((c::r).drop 1).takeWhile inB).length else 0:=rfl
  rw[hw]
  have h1:1≤(c::r).length:=by simp
  generalize c::r=s at*
  refine CallOk.mkN 100 Tryz.func171 rfl en171 (by simp[Tryz.ntmps171]) (ClA.of rfl) rfl rfl fun C hR hP=>?_
  simp(maxSteps:=2000000) only[go_sem,hne]
  refine⟨h0,?_⟩
  refine CallQ.pure 150 (rLetter_ (s.getD 0 0)) rfl ?_
  refine vv ?_
  cases hl:leB (s.getD 0 0)with
  |false=>
   rw[hl]at hR
   refine vv ?_
   exact RetQ.int hR rfl ⟨rfl,trivial⟩ rfl
  |true=>
  rw[hl,if_pos rfl]at hR
  refine vv ?_
  refine Sm.loopM (M0:=[]) (α:={n:Nat//1≤n∧n≤s.length∧1+((s.drop 1).takeWhile inB).length=n+((s.drop n).takeWhile inB).length}) hP
   (fun n=>[(0,true,S s),(3,true,I n.val)]) (fun _=>[]) (fun n=>s.length-n.val) ⟨1,by omega,by omega,rfl⟩ (fun _=>ClM.nil) (fun _=>ClE.of rfl) [] ?_ ?_
  ·exact⟨rfl,trivial,⟨rfl,rfl,trivial⟩,trivial⟩
  rintro⟨n,hn1,hn,hx⟩ J hb
  simp only at hb hn hn1 hx⊢
  refine Sm.go 120 ?_
  refine vv ?_
  by_cases hlt:n<s.length
  ·have h1:decide ((n:Int)<(s.length:Int))=true:=tru_of (by omega)
   have hd:s.drop n=s.getD n 0::s.drop (n+1):=by
    rw[List.getD_eq_getElem?_getD,List.getElem?_eq_getElem hlt,List.drop_eq_getElem_cons hlt];rfl
   rw[hd,List.takeWhile_cons]at hx
   simp(maxSteps:=2000000) only[go_sem,h1]
   refine⟨⟨by omega,by omega⟩,?_⟩
   have e1:((((s.getD n 0).toNat:Nat):Int)==95)=decide ((s.getD n 0).toNat=95):=by
    rw[Bool.eq_iff_iff,beq_iff_eq,decide_eq_true_eq];omega
   have hin:inB (s.getD n 0)=(leB (s.getD n 0)||(diB (s.getD n 0)||decide ((s.getD n 0).toNat=95))):=rfl
   refine CallQ.pure 130 (rLetter_ (s.getD n 0)) rfl ?_
   cases g1:leB (s.getD n 0)with
   |true=>
    refine vv ?_
    refine CallQ.guard (xs:=[]) (v:=Bo true) 150 (fun h=>by cases h) (fun h=>by cases h) ?_
    simp(maxSteps:=2000000) only[go_sem,wS (show n≤1000000000000000000 by omega)]
    rw[hin,g1]at hx
    exact hb _ _ ⟨n+1,by omega,by omega,by rw[hx,Bool.true_or,if_pos rfl,List.length_cons];omega⟩ [] (by simp only;omega) ⟨rfl,trivial,⟨rfl,rfl,trivial⟩,trivial⟩
   |false=>
    refine vv ?_
    refine⟨⟨by omega,by omega⟩,?_⟩
    refine CallQ.pure 140 (rDigit_ (s.getD n 0)) rfl ?_
    simp(maxSteps:=2000000) only[go_sem,e1]
    refine⟨fun h=>⟨h,h,by omega,by omega⟩,?_⟩
    rw[g1,Bool.false_or,←bor_]at hin
    rw[hin]at hx
    refine mtch (fun hc=>?_) (fun hc=>?_)
    ·rw[hc,if_pos rfl,List.length_cons]at hx
     simp(maxSteps:=2000000) only[go_sem,wS (show n≤1000000000000000000 by omega)]
     exact hb _ _ ⟨n+1,by omega,by omega,by rw[hx];omega⟩ [] (by simp only;omega) ⟨rfl,trivial,⟨rfl,rfl,trivial⟩,trivial⟩
    ·rw[hc]at hx
     exact RetQ.int hR rfl ⟨rfl,trivial⟩ (by rw[hx];rfl)
  ·have h1:decide ((n:Int)<(s.length:Int))=false:=fal_of (by omega)
   have hx:1+((s.drop 1).takeWhile inB).length=n:=by rw[hx,List.drop_eq_nil_of_le (show s.length≤n by omega)];simp
   simp(maxSteps:=2000000) only[go_sem,h1]
   refine CallQ.guard (xs:=[]) (v:=Bo true) 150 (fun h=>by cases h) (fun h=>by cases h) ?_
   simp(maxSteps:=2000000) only[go_sem,Bool.and_self]
   refine CallQ.guard (xs:=[]) (v:=Bo true) 150 (fun h=>by cases h) (fun h=>by cases h) ?_
   simp(maxSteps:=2000000) only[go_sem,Bool.and_self]
   exact RetQ.int hR rfl ⟨rfl,trivial⟩ (by rw[hx])
theorem kindQ_none (s:Str)(h:∀r∈kindT,(s==r.1)=false):kindQ s=none:=by
 unfold kindQ
 rw[List.find?_eq_none.2 (fun r hr=>by have:=h r hr;rw[Bool.beq_comm]at this;simp[this])];rfl
theorem kindQ_some (s:Str):(kindQ s).isSome=(kindT.map (·.1)).contains s:=by
 unfold kindQ
 rw[Option.isSome_map,Bool.eq_iff_iff,List.find?_isSome,List.contains_iff_mem,List.mem_map]
 constructor
 ·rintro⟨r,hr,h⟩;exact⟨r,hr,eq_of_beq h⟩
 ·rintro⟨r,hr,h⟩;exact⟨r,hr,by rw[h];exact beq_self_eq_true s⟩
theorem rKind_ (s:Str):CallOk Tryz.prog 203 [S s] [] (.tup [Wi ((kindQ s).getD (0,0,0)).1,Wi ((kindQ s).getD (0,0,0)).2.1,Wi ((kindQ s).getD (0,0,0)).2.2,Wb1 (kindQ s).isSome]) []:=by
 refine CallOk.mkN 100 Tryz.func203 rfl en203 (by simp[Tryz.ntmps203]) (ClA.of rfl) rfl rfl fun C hR hP=>?_
 refine vv ?_
 iterate 21
  refine mtch (fun hc=>?_) (fun hc=>?_)
  ·have hc:=eq_of_beq hc
   subst hc
   refine vv ?_
   exact RetQ.of hR rfl scc rvv (Sub.nil _) ClM.nil (ClV.of rfl)
  try simp(maxSteps:=2000000) only[go_sem]
 have hn:=kindQ_none s (by
  unfold kindT
  simp only[List.forall_mem_cons]
  refine⟨?_,?_,?_,?_,?_,?_,?_,?_,?_,?_,?_,?_,?_,?_,?_,?_,?_,?_,?_,?_,?_,fun r hr=>by cases hr⟩<;>assumption)
 rw[hn]at hR
 exact RetQ.of hR rfl scc rvv (Sub.nil _) ClM.nil (ClV.of rfl)
theorem rReserved_ (s:Str):CallOk Tryz.prog 197 [S s] [] (Bo (resQ s)) []:=by
 have hq:=kindQ_some s
 unfold resQ
 rw[←hq]
 have hk:=rKind_ s
 generalize (kindQ s).getD (0,0,0)=K at*
 generalize (kindQ s).isSome=K2 at*
 refine CallOk.mkN 100 Tryz.func197 rfl en197 (by simp[Tryz.ntmps197]) (ClA.of rfl) rfl rfl fun C hR hP=>?_
 refine vv ?_
 refine CallQ.pure 110 hk rfl ?_
 refine vv ?_
 iterate 7
  refine mtch (fun hc=>?_) (fun hc=>?_)
  ·have hc:=eq_of_beq hc
   subst hc
   refine vv ?_
   exact RetQ.bool hR rfl ⟨rfl,trivial⟩ (by cases K2<;>rfl)
  try simp(maxSteps:=2000000) only[go_sem]
 have hn:resT.contains s=false:=by
  unfold resT
  simp only[List.contains_cons, *]
  rfl
 exact RetQ.bool hR rfl ⟨rfl,trivial⟩ (by rw[hn];cases K2<;>rfl)
theorem rName_ (s:Str)(hs:s.length≤1000000000000000):CallOk Tryz.prog 91 [S s] [] (Bo (nmOk s)) []:=by
 have hne:(s !=[])= !(s==[]):=rfl
 have hlen:decide ((s.length:Int)≤24)=decide (s.length≤24):=by rw[decide_eq_decide];omega
 refine CallOk.mkN 100 Tryz.func91 rfl en91 (by simp[Tryz.ntmps91]) (ClA.of rfl) rfl rfl fun C hR hP=>?_
 cases s with
 |nil=>
  refine vv ?_
  refine CallQ.guard (xs:=[]) (v:=I 0) 150 (fun h=>by cases h) (fun h=>by cases h) ?_
  refine vv ?_
  refine CallQ.guard (xs:=[]) (v:=Bo true) 150 (fun h=>by cases h) (fun h=>by cases h) ?_
  refine vv ?_
  exact RetQ.bool hR rfl ⟨rfl,trivial⟩ rfl
 |cons c r=>
 have hne:((c::r)==([]:Str))=false:=rfl
 have hq:=wordQ_all (c::r) (by simp)
 have hnm:nmOk (c::r)=(decide ((c::r).length≤24)&&(leB ((c::r).getD 0 0)&&((c::r).all inB&& !resQ (c::r)))):=rfl
 rw[hnm]at hR
 generalize c::r=s at*
 simp(maxSteps:=2000000) only[go_sem,hne,hlen,bne,Bool.not_false]
 refine CallQ.guard 150 (fun _=>rWord_ s hs) (fun h=>by rw[h];rfl) ?_
 simp(maxSteps:=2000000) only[go_sem,hq]
 refine CallQ.guard 150 (fun _=>rReserved_ s) (fun h=>by rw[h];rfl) ?_
 refine vv ?_
 refine RetQ.bool hR rfl ⟨rfl,trivial⟩ ?_
 cases decide (s.length≤24)<;>cases leB (s.getD 0 0)<;>cases s.all inB<;>rfl
end Go.Proofs.YtlnpgbnhcondjaaGreatDoor.Fx
