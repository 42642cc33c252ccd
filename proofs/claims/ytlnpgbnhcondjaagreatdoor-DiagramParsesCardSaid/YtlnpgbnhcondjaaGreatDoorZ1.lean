/-  -/
import Derived.Test.YtlnpgbnhcondjaaGreatDoorTf
import Derived.Test.YtlnpgbnhcondjaaGreatDoorYX
import Derived.Test.YtlnpgbnhcondjaaGreatDoorY5
import Derived.Test.YtlnpgbnhcondjaaGreatDoorRD
import Derived.Test.YtlnpgbnhcondjaaGreatDoorQ4
import Derived.Test.YtlnpgbnhcondjaaGreatDoorY2
import Derived.Test.YtlnpgbnhcondjaaGreatDoorU5
import Derived.Test.YtlnpgbnhcondjaaGreatDoorRQ
import Derived.Test.YtlnpgbnhcondjaaGreatDoorYU
namespace Go.Proofs.YtlnpgbnhcondjaaGreatDoor.Fx
open Vg Tf
set_option linter.unusedSimpArgs false
set_option linter.unusedVariables false
set_option maxRecDepth 100000
set_option maxHeartbeats 4000000
theorem awake_ {H:Hp}(hE:ErR H):CallH H Tryz.prog 12 [] (Bo true):=by
 have hp:=dparse_ hE awT (by decide)
 rw[awP]at hp
 refine CallH.mkS Tryz.func12 rfl en12 (by simp[Tryz.ntmps12]) (ClA.of rfl) fun C hR hP hH hL=>?_
 refine Sm.go 100 ?_
 refine vv ?_
 refine CallQ.x 110 hL hp hH (Sub.nil _) ClM.nil (fun _=>Fresh.nil _ _) rfl rfl rfl (fun x C1 H1 l1 k1 j1 p1=>?_)
 obtain⟨px,ox⟩:=p1
 have ox:=ox.mono j1
 have hcr:x.r.map Cv.v=[.v (sv x.nm),.v (vsl x.ty x.tys.length),.v (vsl x.cu x.cus.length),.v (vsl x.ma x.mas.length),.v (vsl x.i x.ins.length),.v (vsl x.bl x.bls.length),.v (vsl x.ou x.ous.length)]:=rfl
 rw[hcr]
 have hb:x.bls.map BlL.c=awD.bls:=congrArg Dg.bls px
 have ht:x.tys=awD.tys:=congrArg Dg.tys px
 have hi:x.ins=awD.ins:=congrArg Dg.ins px
 have hbl:x.bls.length=2:=by have:=congrArg List.length hb;rw[List.length_map]at this;exact this
 have htl:x.tys.length=1:=by rw[ht];rfl
 have hfd:=pfind_ x ox [116,119,111] (by rw[hi];decide) (by rw[hbl];decide)
 rw[px]at hfd
 have hfv:fndQ (sigs awD) [116,119,111]=2:=by rfl
 rw[hfv]at hfd
 have hfd:CallH C1.hp Tryz.prog 32 [.agg [.v (sv x.nm),.v (vsl x.ty x.tys.length),.v (vsl x.cu x.cus.length),.v (vsl x.ma x.mas.length),.v (vsl x.i x.ins.length),.v (vsl x.bl x.bls.length),.v (vsl x.ou x.ous.length)],S [116,119,111]] (I 2):=hfd
 rw[hbl,htl]at hfd
 simp only[hbl,htl]
 refine vv ?_
 refine CallQ.h 120 hfd (Hp.le.refl _) rfl ?_
 refine vv ?_
 obtain⟨b0,b1,hb2⟩:∃b0 b1,x.bls=[b0,b1]:=by
  cases h1:x.bls with
  |nil=>rw[h1]at hbl;cases hbl
  |cons b0 r=>
   cases r with
   |nil=>rw[h1]at hbl;cases hbl
   |cons b1 r=>
    cases r with
    |nil=>exact⟨b0,b1,rfl⟩
    |cons b2 r=>rw[h1]at hbl;simp at hbl
 have hk:b1.c.kd=[99,111,110,115,116]:=by
  rw[hb2]at hb
  have h2:b1.c=⟨[116,119,111],[99,111,110,115,116],[117],[],[],[2]⟩:=(List.cons.inj (List.cons.inj hb).2).1
  rw[h2]
 refine Sm.bringR 211 82 24 (v:= .slice x.bl.o 2 x.bl.c) (sz:=6) (rows:=[b0.r,b1.r]) (by have:=ox.bl;rw[hb2]at this;exact this) rfl rfl ?_
 refine Sm.go 220 ?_
 simp(maxSteps:=2000000) only[go_sem,rowsC,List.flatten_cons,List.flatten_nil,List.append_nil,List.cons_append,List.nil_append,List.map_cons,List.map_nil,hk]
 refine Sm.bringR 212 93 38 (v:= .slice x.ty.o 1 x.ty.c) (sz:=11) (rows:=awD.tys.map Td.r) (by have:=ox.ty;rw[ht]at this;exact this) rfl rfl ?_
 have e1:rowsC (awD.tys.map Td.r)=[sC [116],iC 16,.v (.bool true),iC 1,iC 0,iC 4,iC 0,iC 0,iC (-1),iC 0,iC 0]:=rfl
 rw[e1]
 refine Sm.go 230 ?_
 refine vv ?_
 exact⟨by decide,RetQ.of (hR C1 l1) rfl ⟨rfl,trivial⟩ rfl (Sub.nil _) ClM.nil (ClV.of rfl)⟩
abbrev Zv:=Sv×List Int
end Go.Proofs.YtlnpgbnhcondjaaGreatDoor.Fx
namespace Go.Proofs.YtlnpgbnhcondjaaGreatDoor.Fx
set_option maxRecDepth 100000
set_option linter.unusedVariables false
set_option linter.unusedSimpArgs false
open Vg Tf
set_option maxHeartbeats 4000000
structure ZL where
 s:Sv
 z:List Zv
def ZL.c (x:ZL):List (List Int):=x.z.map (·.2)
structure ZL.ok (H:Hp) (x:ZL):Prop where
 o:SlH H (vsl x.s x.z.length) 1 (x.z.map zR)
 e:∀v∈x.z,SlH H (vsl v.1 v.2.length) 1 (intsR v.2)
theorem rLetter_ (c:UInt8):CallOk Tryz.prog 170 [Y c.toNat] [] (Bo (leB c)) []:=by
 refine CallOk.mkN 100 Tryz.func170 rfl en170 (by simp[Tryz.ntmps170]) (ClA.of rfl) rfl rfl fun C hR hP=>?_
 refine vv ?_
 refine⟨fun h=>⟨h,fun h2=>by rw[h,h2];rfl⟩,?_⟩
 refine RetQ.bool hR rfl ⟨rfl,trivial⟩ ?_
 unfold leB
 simp only[band_,bor_]
 have e1:decide ((97:Int)≤(c.toNat:Int))=decide (97≤c.toNat):=by rw[decide_eq_decide];omega
 have e2:decide ((c.toNat:Int)≤122)=decide (c.toNat≤122):=by rw[decide_eq_decide];omega
 have e3:decide ((65:Int)≤(c.toNat:Int))=decide (65≤c.toNat):=by rw[decide_eq_decide];omega
 have e4:decide ((c.toNat:Int)≤90)=decide (c.toNat≤90):=by rw[decide_eq_decide];omega
 rw[e1,e2,e3,e4]
theorem rDigit_ (c:UInt8):CallOk Tryz.prog 172 [Y c.toNat] [] (Bo (diB c)) []:=by
 refine CallOk.mkN 100 Tryz.func172 rfl en172 (by simp[Tryz.ntmps172]) (ClA.of rfl) rfl rfl fun C hR hP=>?_
 refine vv ?_
 refine RetQ.bool hR rfl ⟨rfl,trivial⟩ ?_
 unfold diB
 simp only[band_,bor_]
 have e1:decide ((48:Int)≤(c.toNat:Int))=decide (48≤c.toNat):=by rw[decide_eq_decide];omega
 have e2:decide ((c.toNat:Int)≤57)=decide (c.toNat≤57):=by rw[decide_eq_decide];omega
 rw[e1,e2]
def wordQ (s:Str):Nat:=match s with
 |[]=>0
 |c::r=>if leB c=true then 1+(r.takeWhile inB).length else 0
theorem wordQ_all (s:Str)(hs:s≠[]):((wordQ s:Int)==(s.length:Int))=(leB (s.getD 0 0)&&s.all inB):=by
 cases s with
 |nil=>exact absurd rfl hs
 |cons c r=>
  have hi:leB c=true→inB c=true:=fun h=>by unfold inB;rw[h];rfl
  have:=runN_all inB r
  unfold runN at this
  rw[List.drop_zero]at this
  show((((if leB c=true then 1+(r.takeWhile inB).length else 0:Nat)):Int)==((c::r).length:Int))=(leB c&&(inB c&&r.all inB))
  cases h:leB c with
  |false=>simp;omega
  |true=>
   rw[hi h,if_pos rfl,←this]
   simp only[List.length_cons,Bool.true_and]
   rw[Bool.eq_iff_iff,beq_iff_eq,beq_iff_eq];omega
theorem rWord_ (s:Str)(hs:s.length≤1000000000000000):CallOk Tryz.prog 171 [S s] [] (I (wordQ s)) []:=by
 cases s with
 |nil=>
  refine CallOk.mkN 100 Tryz.func171 rfl en171 (by simp[Tryz.ntmps171]) (ClA.of rfl) rfl rfl fun C hR hP=>?_
  refine vv ?_
  refine CallQ.guard (xs:=[]) (v:=Bo true) 150 (fun h=>by cases h) (fun h=>by cases h) ?_
  refine vv ?_
  exact RetQ.int hR rfl ⟨rfl,trivial⟩ rfl
 |cons c r=>
  have hne:((c::r)==([]:Str))=false:=rfl
  have h0:(0:Int)<((c::r).length:Int):=by simp only[List.length_cons];omega
  have hw:wordQ (c::r)=if leB ((c::r).getD 0 0)=true then 1+(((c::r).drop 1).takeWhile inB).length else 0:=rfl
  rw[hw]
  have h1:1≤(c::r).length:=by simp
  generalize c::r=s at*
  refine CallOk.mkN 100 Tryz.func171 rfl en171 (by simp[Tryz.ntmps171]) (ClA.of rfl) rfl rfl fun C hR hP=>?_
  simp(maxSteps:=2000000) only[go_sem,hne]
  refine⟨h0,?_⟩
  refine CallQ.pure 150 (rLetter_ (s.getD 0 0)) rfl ?_
  refine vv ?_
  cases hl:leB (s.getD 0 0)with
  |false=>
   rw[hl]at hR
   refine vv ?_
   exact RetQ.int hR rfl ⟨rfl,trivial⟩ rfl
  |true=>
  rw[hl,if_pos rfl]at hR
  refine vv ?_
  refine Sm.loopM (M0:=[]) (α:={n:Nat//1≤n∧n≤s.length∧1+((s.drop 1).takeWhile inB).length=n+((s.drop n).takeWhile inB).length}) hP
   (fun n=>[(0,true,S s),(3,true,I n.val)]) (fun _=>[]) (fun n=>s.length-n.val) ⟨1,by omega,by omega,rfl⟩ (fun _=>ClM.nil) (fun _=>ClE.of rfl) [] ?_ ?_
  ·exact⟨rfl,trivial,⟨rfl,rfl,trivial⟩,trivial⟩
  rintro⟨n,hn1,hn,hx⟩ J hb
  simp only at hb hn hn1 hx⊢
  refine Sm.go 120 ?_
  refine vv ?_
  by_cases hlt:n<s.length
  ·have h1:decide ((n:Int)<(s.length:Int))=true:=tru_of (by omega)
   have hd:s.drop n=s.getD n 0::s.drop (n+1):=by
    rw[List.getD_eq_getElem?_getD,List.getElem?_eq_getElem hlt,List.drop_eq_getElem_cons hlt];rfl
   rw[hd,List.takeWhile_cons]at hx
   simp(maxSteps:=2000000) only[go_sem,h1]
   refine⟨⟨by omega,by omega⟩,?_⟩
   have e1:((((s.getD n 0).toNat:Nat):Int)==95)=decide ((s.getD n 0).toNat=95):=by
    rw[Bool.eq_iff_iff,beq_iff_eq,decide_eq_true_eq];omega
   have hin:inB (s.getD n 0)=(leB (s.getD n 0)||(diB (s.getD n 0)||decide ((s.getD n 0).toNat=95))):=rfl
   refine CallQ.pure 130 (rLetter_ (s.getD n 0)) rfl ?_
   cases g1:leB (s.getD n 0)with
   |true=>
    refine vv ?_
    refine CallQ.guard (xs:=[]) (v:=Bo true) 150 (fun h=>by cases h) (fun h=>by cases h) ?_
    simp(maxSteps:=2000000) only[go_sem,wS (show n≤1000000000000000000 by omega)]
    rw[hin,g1]at hx
    exact hb _ _ ⟨n+1,by omega,by omega,by rw[hx,Bool.true_or,if_pos rfl,List.length_cons];omega⟩ [] (by simp only;omega) ⟨rfl,trivial,⟨rfl,rfl,trivial⟩,trivial⟩
   |false=>
    refine vv ?_
    refine⟨⟨by omega,by omega⟩,?_⟩
    refine CallQ.pure 140 (rDigit_ (s.getD n 0)) rfl ?_
    simp(maxSteps:=2000000) only[go_sem,e1]
    refine⟨fun h=>⟨h,h,by omega,by omega⟩,?_⟩
    rw[g1,Bool.false_or,←bor_]at hin
    rw[hin]at hx
    refine mtch (fun hc=>?_) (fun hc=>?_)
    ·rw[hc,if_pos rfl,List.length_cons]at hx
     simp(maxSteps:=2000000) only[go_sem,wS (show n≤1000000000000000000 by omega)]
     exact hb _ _ ⟨n+1,by omega,by omega,by rw[hx];omega⟩ [] (by simp only;omega) ⟨rfl,trivial,⟨rfl,rfl,trivial⟩,trivial⟩
    ·rw[hc]at hx
     exact RetQ.int hR rfl ⟨rfl,trivial⟩ (by rw[hx];rfl)
  ·have h1:decide ((n:Int)<(s.length:Int))=false:=fal_of (by omega)
   have hx:1+((s.drop 1).takeWhile inB).length=n:=by rw[hx,List.drop_eq_nil_of_le (show s.length≤n by omega)];simp
   simp(maxSteps:=2000000) only[go_sem,h1]
   refine CallQ.guard (xs:=[]) (v:=Bo true) 150 (fun h=>by cases h) (fun h=>by cases h) ?_
   simp(maxSteps:=2000000) only[go_sem,Bool.and_self]
   refine CallQ.guard (xs:=[]) (v:=Bo true) 150 (fun h=>by cases h) (fun h=>by cases h) ?_
   simp(maxSteps:=2000000) only[go_sem,Bool.and_self]
   exact RetQ.int hR rfl ⟨rfl,trivial⟩ (by rw[hx])
theorem kindQ_none (s:Str)(h:∀r∈kindT,(s==r.1)=false):kindQ s=none:=by
 unfold kindQ
 rw[List.find?_eq_none.2 (fun r hr=>by have:=h r hr;rw[Bool.beq_comm]at this;simp[this])];rfl
theorem kindQ_some (s:Str):(kindQ s).isSome=(kindT.map (·.1)).contains s:=by
 unfold kindQ
 rw[Option.isSome_map,Bool.eq_iff_iff,List.find?_isSome,List.contains_iff_mem,List.mem_map]
 constructor
 ·rintro⟨r,hr,h⟩;exact⟨r,hr,eq_of_beq h⟩
 ·rintro⟨r,hr,h⟩;exact⟨r,hr,by rw[h];exact beq_self_eq_true s⟩
theorem rKind_ (s:Str):CallOk Tryz.prog 203 [S s] [] (.tup [Wi ((kindQ s).getD (0,0,0)).1,Wi ((kindQ s).getD (0,0,0)).2.1,Wi ((kindQ s).getD (0,0,0)).2.2,Wb1 (kindQ s).isSome]) []:=by
 refine CallOk.mkN 100 Tryz.func203 rfl en203 (by simp[Tryz.ntmps203]) (ClA.of rfl) rfl rfl fun C hR hP=>?_
 refine vv ?_
 iterate 21
  refine mtch (fun hc=>?_) (fun hc=>?_)
  ·have hc:=eq_of_beq hc
   subst hc
   refine vv ?_
   exact RetQ.of hR rfl scc rvv (Sub.nil _) ClM.nil (ClV.of rfl)
  try simp(maxSteps:=2000000) only[go_sem]
 have hn:=kindQ_none s (by
  unfold kindT
  simp only[List.forall_mem_cons]
  refine⟨?_,?_,?_,?_,?_,?_,?_,?_,?_,?_,?_,?_,?_,?_,?_,?_,?_,?_,?_,?_,?_,fun r hr=>by cases hr⟩<;>assumption)
 rw[hn]at hR
 exact RetQ.of hR rfl scc rvv (Sub.nil _) ClM.nil (ClV.of rfl)
theorem rReserved_ (s:Str):CallOk Tryz.prog 197 [S s] [] (Bo (resQ s)) []:=by
 have hq:=kindQ_some s
 unfold resQ
 rw[←hq]
 have hk:=rKind_ s
 generalize (kindQ s).getD (0,0,0)=K at*
 generalize (kindQ s).isSome=K2 at*
 refine CallOk.mkN 100 Tryz.func197 rfl en197 (by simp[Tryz.ntmps197]) (ClA.of rfl) rfl rfl fun C hR hP=>?_
 refine vv ?_
 refine CallQ.pure 110 hk rfl ?_
 refine vv ?_
 iterate 7
  refine mtch (fun hc=>?_) (fun hc=>?_)
  ·have hc:=eq_of_beq hc
   subst hc
   refine vv ?_
   exact RetQ.bool hR rfl ⟨rfl,trivial⟩ (by cases K2<;>rfl)
  try simp(maxSteps:=2000000) only[go_sem]
 have hn:resT.contains s=false:=by
  unfold resT
  simp only[List.contains_cons, *]
  rfl
 exact RetQ.bool hR rfl ⟨rfl,trivial⟩ (by rw[hn];cases K2<;>rfl)
theorem rName_ (s:Str)(hs:s.length≤1000000000000000):CallOk Tryz.prog 91 [S s] [] (Bo (nmOk s)) []:=by
 have hne:(s !=[])= !(s==[]):=rfl
 have hlen:decide ((s.length:Int)≤24)=decide (s.length≤24):=by rw[decide_eq_decide];omega
 refine CallOk.mkN 100 Tryz.func91 rfl en91 (by simp[Tryz.ntmps91]) (ClA.of rfl) rfl rfl fun C hR hP=>?_
 cases s with
 |nil=>
  refine vv ?_
  refine CallQ.guard (xs:=[]) (v:=I 0) 150 (fun h=>by cases h) (fun h=>by cases h) ?_
  refine vv ?_
  refine CallQ.guard (xs:=[]) (v:=Bo true) 150 (fun h=>by cases h) (fun h=>by cases h) ?_
  refine vv ?_
  exact RetQ.bool hR rfl ⟨rfl,trivial⟩ rfl
 |cons c r=>
 have hne:((c::r)==([]:Str))=false:=rfl
 have hq:=wordQ_all (c::r) (by simp)
 have hnm:nmOk (c::r)=(decide ((c::r).length≤24)&&(leB ((c::r).getD 0 0)&&((c::r).all inB&& !resQ (c::r)))):=rfl
 rw[hnm]at hR
 generalize c::r=s at*
 simp(maxSteps:=2000000) only[go_sem,hne,hlen,bne,Bool.not_false]
 refine CallQ.guard 150 (fun _=>rWord_ s hs) (fun h=>by rw[h];rfl) ?_
 simp(maxSteps:=2000000) only[go_sem,hq]
 refine CallQ.guard 150 (fun _=>rReserved_ s) (fun h=>by rw[h];rfl) ?_
 refine vv ?_
 refine RetQ.bool hR rfl ⟨rfl,trivial⟩ ?_
 cases decide (s.length≤24)<;>cases leB (s.getD 0 0)<;>cases s.all inB<;>rfl
theorem rFits_ (n:Int):CallOk Tryz.prog 200 [I n] [] (Bo (nearB n)) []:=by
 refine CallOk.mkN 100 Tryz.func200 rfl en200 (by simp[Tryz.ntmps200]) (ClA.of rfl) rfl rfl fun C hR hP=>?_
 refine vv ?_
 refine RetQ.bool hR rfl ⟨rfl,trivial⟩ ?_
 unfold nearB
 rw[band_,Bool.eq_iff_iff]
 simp only[Bool.and_eq_true,decide_eq_true_eq]
theorem rfar_ (n:Int):CallOk Tryz.prog 202 [I n] [] (Bo (!nearB n)) []:=by
 refine CallOk.mkN 100 Tryz.func202 rfl en202 (by simp[Tryz.ntmps202]) (ClA.of rfl) rfl rfl fun C hR hP=>?_
 refine vv ?_
 refine RetQ.bool hR rfl ⟨rfl,trivial⟩ ?_
 unfold nearB
 rw[bor_,←Bool.not_inj_iff,Bool.not_not,Bool.not_or,←decide_not,←decide_not,Bool.eq_iff_iff]
 simp only[Bool.and_eq_true,decide_eq_true_eq];omega
theorem rType_ (t:Ft):CallOk Tryz.prog 92 [fx t] [] (Bo (fok t)) []:=by
 refine CallOk.mkN 100 Tryz.func92 rfl en92 (by simp[Tryz.ntmps92]) (ClA.of rfl) rfl rfl fun C hR hP=>?_
 refine vv ?_
 refine CallQ.guard 110 (fun _=>rValid ⟨t.m,t.kg,t.s,t.a,t.k⟩) (fun h=>by rw[h];rfl) ?_
 refine vv ?_
 refine RetQ.bool hR rfl ⟨rfl,trivial⟩ ?_
 unfold fok uokU
 rw[Bool.eq_iff_iff]
 simp only[band_,bor_,Bool.and_eq_true,Bool.or_eq_true,decide_eq_true_eq,beq_iff_eq,and_assoc,or_assoc]
theorem rAxis5_ {H:Hp}(s:Sv)(l:List Int)(hs:SlH H (vsl s l.length) 1 (intsR l)):CallH H Tryz.prog 199 [.c (.v (vsl s l.length))] (Bo (axOk l)):=by
 have e1:decide ((l.length:Int)<2)= !decide (2≤l.length):=by rw[←decide_not,decide_eq_decide];omega
 have e2:decide ((32:Int)<(l.length:Int))= !decide (l.length≤32):=by rw[←decide_not,decide_eq_decide];omega
 have hax:axOk l=((decide (2≤l.length)&&decide (l.length≤32))&&axG none l):=by unfold axOk;rw[axG_none,Bool.decide_and]
 rw[hax]
 refine CallH.mkS Tryz.func199 rfl en199 (by simp[Tryz.ntmps199]) (ClA.of rfl) fun C hR hP hH hL=>?_
 refine Sm.go 100 ?_
 simp(maxSteps:=2000000) only[go_sem,e1,e2]
 cases h1:decide (2≤l.length)with
 |false=>
  rw[h1]at hR
  refine vv ?_
  exact RetQ.bool (hR C hL) rfl ⟨rfl,trivial⟩ rfl
 |true=>
 cases h2:decide (l.length≤32)with
 |false=>
  rw[h1,h2]at hR
  refine vv ?_
  exact RetQ.bool (hR C hL) rfl ⟨rfl,trivial⟩ rfl
 |true=>
 rw[h1,h2]at hR
 simp only[decide_eq_true_eq]at h1 h2
 refine vv ?_
 refine Sm.bringI 1 3 0 (hs.mono hH) rfl rfl ?_
 refine Sm.loopM (M0:=[]) (α:={i:Nat//i≤l.length∧axG none l=axG (prv l i) (l.drop i)}) hP (fun i=>[(0,true,.c (.sl 1 0 l.length 1)),(3,true,I i.val)]) (fun _=>[(1,⟨true,l.map iC,3⟩)]) (fun i=>l.length-i.val) ⟨0,by omega,rfl⟩ (fun _=>ClM.of (by simp only[List.all_cons,inMV (v_iC _)];rfl)) (fun _=>ClE.of rfl) [(1,1)] ?_ ?_
 ·exact⟨rfl,trivial,⟨rfl,rfl,trivial⟩,⟨oV (renV (v_iC _)),trivial⟩⟩
 rintro⟨i,hi,hx⟩ J hb
 simp only at hb hi hx⊢
 refine Sm.go 120 ?_
 refine vv ?_
 refine mtch (fun hc=>?_) (fun hc=>?_)
 ·have hc:=lt_of_dec hc
  rw[List.drop_eq_getElem_cons hc,axG]at hx
  have e3:(l.map iC)[i]?=some (iC l[i]):=get_iC hc
  have w2:=wS (show i≤1000000000000000000 by omega)
  have hnext:axG none l=axG (some l[i]) (l.drop (i+1))→axG none l=axG (prv l (i+1)) (l.drop (i+1)):=fun h=>by
   rw[h,prv,if_neg (by omega),Nat.add_sub_cancel,List.getD_eq_getElem?_getD,List.getElem?_eq_getElem hc];rfl
  refine Sm.dg 130 19 mix ?_
  simp(maxSteps:=2000000) only[go_sem,e3]
  refine⟨⟨by omega,by omega⟩,?_⟩
  refine DCallQ.pure 140 (rFits_ l[i]) rfl ?_
  cases i with
  |zero=>
   cases h5:nearB l[0]with
   |false=>
    rw[h5]at hx
    simp(maxSteps:=2000000) only[go_sem,e3]
    refine⟨fun h=>absurd h (by decide),fun h=>absurd h (by decide),?_⟩
    exact RetQ.bool (hR C hL) rfl ⟨rfl,trivial⟩ (by rw[hx];rfl)
   |true=>
    rw[h5]at hx
    simp(maxSteps:=2000000) only[go_sem,e3]
    refine Sm.go 140 ?_
    simp(maxSteps:=2000000) only[go_sem,w2]
    exact hb _ _ ⟨1,by omega,hnext (by rw[hx];rfl)⟩ [(1,1)] (by simp only;omega) ⟨rfl,trivial,⟨rfl,rfl,trivial⟩,⟨oV (renV (v_iC _)),trivial⟩⟩
  |succ j=>
   have w3:IntKind.i64.wrap (((j+1:Nat):Int)-1)=(j:Int):=by rw[w64 (by omega) (by omega)];omega
   have e4:(l.map iC)[j]?=some (iC l[j]):=get_iC (by omega)
   have e6:decide ((0:Int)<((j+1:Nat):Int))=true:=tru_of (by omega)
   have hp:prv l (j+1)=some l[j]:=by
    rw[prv,if_neg (by omega),Nat.add_sub_cancel,List.getD_eq_getElem?_getD,List.getElem?_eq_getElem (by omega)];rfl
   rw[hp]at hx
   cases h5:nearB l[j+1]with
   |false=>
    rw[h5]at hx
    simp(maxSteps:=2000000) only[go_sem,w3,e3,e4,e6]
    exact RetQ.bool (hR C hL) rfl ⟨rfl,trivial⟩ (by rw[hx];rfl)
   |true=>
    rw[h5]at hx
    simp(maxSteps:=2000000) only[go_sem,w3,e3,e4,e6]
    refine⟨⟨by omega,by omega⟩,⟨by omega,by omega⟩,?_⟩
    refine mtch (fun hd=>?_) (fun hd=>?_)
    ·have hq:ltO (some l[j]) l[j+1]=false:=fal_of (by have:=of_decide_eq_true hd;omega)
     rw[hq]at hx
     exact RetQ.bool (hR C hL) rfl ⟨rfl,trivial⟩ (by rw[hx];rfl)
    ·have hq:ltO (some l[j]) l[j+1]=true:=tru_of (by have:=of_decide_eq_false hd;omega)
     rw[hq]at hx
     refine Sm.go 140 ?_
     simp(maxSteps:=2000000) only[go_sem,w2]
     exact hb _ _ ⟨j+1+1,by omega,hnext (by rw[hx];rfl)⟩ [(1,1)] (by simp only;omega) ⟨rfl,trivial,⟨rfl,rfl,trivial⟩,⟨oV (renV (v_iC _)),trivial⟩⟩
 ·have hc:=eq_of_dec hi hc
  rw[hc,List.drop_length]at hx
  exact RetQ.bool (hR C hL) rfl ⟨rfl,trivial⟩ (by rw[hx];rfl)
theorem rAxis6_ {H:Hp}(s:Sv)(l:List Int)(hs:SlH H (vsl s l.length) 1 (intsR l)):CallH H Tryz.prog 201 [.c (.v (vsl s l.length))] (Bo (axOk l)):=by
 have e1:decide ((l.length:Int)<2)= !decide (2≤l.length):=by rw[←decide_not,decide_eq_decide];omega
 have e2:decide ((32:Int)<(l.length:Int))= !decide (l.length≤32):=by rw[←decide_not,decide_eq_decide];omega
 have hax:axOk l=((decide (2≤l.length)&&decide (l.length≤32))&&axG none l):=by unfold axOk;rw[axG_none,Bool.decide_and]
 rw[hax]
 refine CallH.mkS Tryz.func201 rfl en201 (by simp[Tryz.ntmps201]) (ClA.of rfl) fun C hR hP hH hL=>?_
 refine Sm.go 100 ?_
 simp(maxSteps:=2000000) only[go_sem,e1,e2]
 cases h1:decide (2≤l.length)with
 |false=>
  rw[h1]at hR
  refine vv ?_
  exact RetQ.bool (hR C hL) rfl ⟨rfl,trivial⟩ rfl
 |true=>
 cases h2:decide (l.length≤32)with
 |false=>
  rw[h1,h2]at hR
  refine vv ?_
  exact RetQ.bool (hR C hL) rfl ⟨rfl,trivial⟩ rfl
 |true=>
 rw[h1,h2]at hR
 simp only[decide_eq_true_eq]at h1 h2
 refine vv ?_
 refine Sm.bringI 1 3 0 (hs.mono hH) rfl rfl ?_
 refine Sm.loopM (M0:=[]) (α:={i:Nat//i≤l.length∧axG none l=axG (prv l i) (l.drop i)}) hP (fun i=>[(0,true,.c (.sl 1 0 l.length 1)),(3,true,I i.val)]) (fun _=>[(1,⟨true,l.map iC,3⟩)]) (fun i=>l.length-i.val) ⟨0,by omega,rfl⟩ (fun _=>ClM.of (by simp only[List.all_cons,inMV (v_iC _)];rfl)) (fun _=>ClE.of rfl) [(1,1)] ?_ ?_
 ·exact⟨rfl,trivial,⟨rfl,rfl,trivial⟩,⟨oV (renV (v_iC _)),trivial⟩⟩
 rintro⟨i,hi,hx⟩ J hb
 simp only at hb hi hx⊢
 refine Sm.go 120 ?_
 refine vv ?_
 refine mtch (fun hc=>?_) (fun hc=>?_)
 ·have hc:=lt_of_dec hc
  rw[List.drop_eq_getElem_cons hc,axG]at hx
  have e3:(l.map iC)[i]?=some (iC l[i]):=get_iC hc
  have w2:=wS (show i≤1000000000000000000 by omega)
  have hnext:axG none l=axG (some l[i]) (l.drop (i+1))→axG none l=axG (prv l (i+1)) (l.drop (i+1)):=fun h=>by
   rw[h,prv,if_neg (by omega),Nat.add_sub_cancel,List.getD_eq_getElem?_getD,List.getElem?_eq_getElem hc];rfl
  refine Sm.dg 130 18 mix ?_
  simp(maxSteps:=2000000) only[go_sem,e3]
  refine⟨⟨by omega,by omega⟩,?_⟩
  refine DCallQ.pure 140 (rfar_ l[i]) rfl ?_
  cases i with
  |zero=>
   cases h5:nearB l[0]with
   |false=>
    rw[h5]at hx
    simp(maxSteps:=2000000) only[go_sem,e3]
    refine⟨fun h=>absurd h (by decide),fun h=>absurd h (by decide),?_⟩
    exact RetQ.bool (hR C hL) rfl ⟨rfl,trivial⟩ (by rw[hx];rfl)
   |true=>
    rw[h5]at hx
    simp(maxSteps:=2000000) only[go_sem,e3]
    refine Sm.go 140 ?_
    simp(maxSteps:=2000000) only[go_sem,w2]
    exact hb _ _ ⟨1,by omega,hnext (by rw[hx];rfl)⟩ [(1,1)] (by simp only;omega) ⟨rfl,trivial,⟨rfl,rfl,trivial⟩,⟨oV (renV (v_iC _)),trivial⟩⟩
  |succ j=>
   have w3:IntKind.i64.wrap (((j+1:Nat):Int)-1)=(j:Int):=by rw[w64 (by omega) (by omega)];omega
   have e4:(l.map iC)[j]?=some (iC l[j]):=get_iC (by omega)
   have e6:decide ((0:Int)<((j+1:Nat):Int))=true:=tru_of (by omega)
   have hp:prv l (j+1)=some l[j]:=by
    rw[prv,if_neg (by omega),Nat.add_sub_cancel,List.getD_eq_getElem?_getD,List.getElem?_eq_getElem (by omega)];rfl
   rw[hp]at hx
   cases h5:nearB l[j+1]with
   |false=>
    rw[h5]at hx
    simp(maxSteps:=2000000) only[go_sem,w3,e3,e4,e6]
    exact RetQ.bool (hR C hL) rfl ⟨rfl,trivial⟩ (by rw[hx];rfl)
   |true=>
    rw[h5]at hx
    simp(maxSteps:=2000000) only[go_sem,w3,e3,e4,e6]
    refine⟨⟨by omega,by omega⟩,⟨by omega,by omega⟩,?_⟩
    refine mtch (fun hd=>?_) (fun hd=>?_)
    ·have hq:ltO (some l[j]) l[j+1]=false:=fal_of (by have:=of_decide_eq_true hd;omega)
     rw[hq]at hx
     exact RetQ.bool (hR C hL) rfl ⟨rfl,trivial⟩ (by rw[hx];rfl)
    ·have hq:ltO (some l[j]) l[j+1]=true:=tru_of (by have:=of_decide_eq_false hd;omega)
     rw[hq]at hx
     refine Sm.go 140 ?_
     simp(maxSteps:=2000000) only[go_sem,w2]
     exact hb _ _ ⟨j+1+1,by omega,hnext (by rw[hx];rfl)⟩ [(1,1)] (by simp only;omega) ⟨rfl,trivial,⟨rfl,rfl,trivial⟩,⟨oV (renV (v_iC _)),trivial⟩⟩
 ·have hc:=eq_of_dec hi hc
  rw[hc,List.drop_length]at hx
  exact RetQ.bool (hR C hL) rfl ⟨rfl,trivial⟩ (by rw[hx];rfl)
theorem rcuOk_ {H:Hp}(x y:Sv)(xs ys:List Int)(hx:SlH H (vsl x xs.length) 1 (intsR xs))(hy:SlH H (vsl y ys.length) 1 (intsR ys))(hly:ys.length≤1000000000000000):
  CallH H Tryz.prog 93 [.agg [.v (vsl x xs.length),.v (vsl y ys.length)]] (Bo (cuOk xs ys)):=by
 have e1:((ys.length:Int)!=(xs.length:Int))= !decide (xs.length=ys.length):=by rw[Bool.eq_iff_iff,bne_iff_ne,Bool.not_eq_true',decide_eq_false_iff_not];omega
 refine CallH.mkS Tryz.func93 rfl en93 (by simp[Tryz.ntmps93]) (ClA.of rfl) fun C hR hP hH hL=>?_
 refine Sm.go 100 ?_
 refine vv ?_
 refine CallQ.h 110 (rAxis5_ x xs hx) hH rfl ?_
 simp(maxSteps:=2000000) only[go_sem,e1]
 unfold cuOk at hR
 cases h1:decide (xs.length=ys.length)with
 |false=>
  rw[h1]at hR
  cases axOk xs<;>(simp(maxSteps:=2000000) only[go_sem];exact RetQ.bool (hR C hL) rfl ⟨rfl,trivial⟩ rfl)
 |true=>
 rw[h1]at hR
 cases h2:axOk xs with
 |false=>
  rw[h2]at hR
  refine vv ?_
  exact RetQ.bool (hR C hL) rfl ⟨rfl,trivial⟩ rfl
 |true=>
 rw[h2]at hR
 refine vv ?_
 refine Sm.bringC 1 3 100 1 (hy.mono hH) rfl rfl rfl ?_
 rw[intsC,show(intsR ys).length=ys.length by simp[intsR]]
 refine Sm.loopM (M0:=[]) (α:={i:Nat//i≤ys.length∧ys.all nearB=(ys.drop i).all nearB}) hP (fun i=>[(1,true,.c (.p 2 0)),(3,true,I i.val)]) (fun _=>[(2,⟨false,[.v (vsl x xs.length),.sl 1 0 ys.length 1],108⟩),(1,⟨true,ys.map iC,3⟩)]) (fun i=>ys.length-i.val) ⟨0,by omega,rfl⟩ (fun _=>ClM.of (by simp only[List.all_cons,inMV (v_iC _)];rfl)) (fun _=>ClE.of rfl) [(2,100),(1,1)] ?_ ?_
 ·exact⟨rfl,trivial,⟨rfl,rfl,trivial⟩,⟨oR,oV (renV (v_iC _)),trivial⟩⟩
 rintro⟨i,hi,hx⟩ J hb
 simp only at hb hi hx⊢
 refine Sm.go 120 ?_
 refine vv ?_
 refine mtch (fun hc=>?_) (fun hc=>?_)
 ·have hc:=lt_of_dec hc
  rw[List.drop_eq_getElem_cons hc,List.all_cons]at hx
  simp(maxSteps:=2000000) only[go_sem,get_iC hc]
  refine⟨⟨by omega,by omega⟩,?_⟩
  refine CallQ.pure 130 (rFits_ ys[i]) rfl ?_
  cases h5:nearB ys[i]with
  |false=>
   rw[h5]at hx
   refine vv ?_
   exact RetQ.bool (hR C hL) rfl ⟨rfl,trivial⟩ (by rw[hx];rfl)
  |true=>
   rw[h5,Bool.true_and]at hx
   simp(maxSteps:=2000000) only[go_sem,wS (show i≤1000000000000000000 by omega)]
   exact hb _ _ ⟨i+1,hc,hx⟩ [(2,2),(1,1)] (by simp only;omega) ⟨rfl,trivial,⟨rfl,rfl,trivial⟩,⟨oR,oV (renV (v_iC _)),trivial⟩⟩
 ·have hc:=eq_of_dec hi hc
  rw[hc,List.drop_length]at hx
  exact RetQ.bool (hR C hL) rfl ⟨rfl,trivial⟩ (by rw[hx];rfl)
theorem rmaOk_ {H:Hp}(m:MpL)(hm:m.ok H)(hl:∀v∈m.zs,v.2.length≤1000000000000000):
  CallH H Tryz.prog 94 [.agg [.v (vsl m.x m.xs.length),.v (vsl m.y m.ys.length),.v (vsl m.z m.zs.length)]] (Bo (maOk m.xs m.ys (m.zs.map (·.2)))):=by
 have hmo:maOk m.xs m.ys (m.zs.map (·.2))=(axOk m.xs&&(axOk m.ys&&(decide (m.zs.length=m.xs.length)&&m.zs.all (fun z=>decide (z.2.length=m.ys.length)&&z.2.all nearB)))):=by
  unfold maOk;rw[List.length_map,List.all_map];rfl
 rw[hmo]
 have e1:((m.zs.length:Int)!=(m.xs.length:Int))= !decide (m.zs.length=m.xs.length):=by rw[Bool.eq_iff_iff,bne_iff_ne,Bool.not_eq_true',decide_eq_false_iff_not];omega
 refine CallH.mkS Tryz.func94 rfl en94 (by simp[Tryz.ntmps94]) (ClA.of rfl) fun C hR hP hH hL=>?_
 refine Sm.go 100 ?_
 refine vv ?_
 refine CallQ.h 110 (rAxis6_ m.x m.xs hm.x) hH rfl ?_
 refine vv ?_
 refine CallQ.hg 110 (fun _=>rAxis6_ m.y m.ys hm.y) hH (fun h=>by rw[←Bool.not_not (axOk m.xs),h];rfl) ?_
 simp(maxSteps:=2000000) only[go_sem,e1]
 cases h1:axOk m.xs with
 |false=>
  rw[h1]at hR
  refine vv ?_
  exact RetQ.bool (hR C hL) rfl ⟨rfl,trivial⟩ rfl
 |true=>
 cases h2:axOk m.ys with
 |false=>
  rw[h1,h2]at hR
  refine vv ?_
  exact RetQ.bool (hR C hL) rfl ⟨rfl,trivial⟩ rfl
 |true=>
 cases h3:decide (m.zs.length=m.xs.length)with
 |false=>
  rw[h1,h2,h3]at hR
  refine vv ?_
  exact RetQ.bool (hR C hL) rfl ⟨rfl,trivial⟩ rfl
 |true=>
 rw[h1,h2,h3]at hR
 have hl2:m.zs.length≤32:=by
  have h1':=h1
  unfold axOk at h1'
  rw[Bool.and_eq_true,decide_eq_true_eq]at h1'
  rw[of_decide_eq_true h3];exact h1'.1.2
 refine vv ?_
 have hzl:(zrV m).length=m.zs.length:=List.length_map _
 refine Sm.bringC 1 73 100 2 (rows:=zrV m) (hm.z.mono hH) rfl rfl rfl ?_
 rw[hzl]
 refine Sm.loopM (M0:=[]) (α:={i:Nat//i≤m.zs.length∧m.zs.all (fun z=>decide (z.2.length=m.ys.length)&&z.2.all nearB)=(m.zs.drop i).all (fun z=>decide (z.2.length=m.ys.length)&&z.2.all nearB)}) hP (fun i=>[(1,true,.c (.p 2 0)),(3,true,I i.val)])
  (fun _=>[(1,⟨true,rowsC (zrV m),73⟩),(2,⟨false,[.v (vsl m.x m.xs.length),.v (vsl m.y m.ys.length),.sl 1 0 m.zs.length 1],113⟩)]) (fun i=>m.zs.length-i.val) ⟨0,by omega,rfl⟩ (fun _=>ClM.of (by simp only[List.all_cons,inMV (rowsC_isV _)];rfl)) (fun _=>ClE.of rfl) [(1,1),(2,100)] ?_ ?_
 ·exact⟨rfl,trivial,⟨rfl,rfl,trivial⟩,⟨oV (renV (rowsC_isV _)),oR,trivial⟩⟩
 rintro⟨i,hi,hx⟩ J hb
 simp only at hb hi hx⊢
 refine Sm.go 120 ?_
 refine vv ?_
 refine mtch (fun hc=>?_) (fun hc=>?_)
 ·have hc:=lt_of_dec hc
  rw[List.drop_eq_getElem_cons hc,List.all_cons]at hx
  have e3:=zr_get hc
  have hmem:m.zs[i]∈m.zs:=List.getElem_mem hc
  generalize hz:m.zs[i]=z at*
  have e4:((z.2.length:Int)!=(m.ys.length:Int))= !decide (z.2.length=m.ys.length):=by rw[Bool.eq_iff_iff,bne_iff_ne,Bool.not_eq_true',decide_eq_false_iff_not];omega
  refine Sm.dg 130 9 mix ?_
  simp(maxSteps:=2000000) only[go_sem,e3,e4]
  refine⟨⟨by omega,by omega⟩,?_⟩
  cases h5:decide (z.2.length=m.ys.length)with
  |false=>
   rw[h5]at hx
   refine vv ?_
   exact RetQ.bool (hR C hL) rfl ⟨rfl,trivial⟩ (by rw[hx];rfl)
  |true=>
  have h5':=of_decide_eq_true h5
  rw[h5,Bool.true_and]at hx
  have hzo:=hm.e z hmem
  have hzl2:=hl z hmem
  refine Sm.go 140 ?_
  refine vv ?_
  refine Sm.loopM (M0:=[]) (α:={k:Nat//k≤z.2.length∧z.2.all nearB=(z.2.drop k).all nearB}) hP (fun k=>[(1,true,.c (.p 2 0)),(3,true,I i),(4,true,I k.val)])
   (fun _=>[(1,⟨true,rowsC (zrV m),73⟩),(2,⟨false,[.v (vsl m.x m.xs.length),.v (vsl m.y m.ys.length),.sl 1 0 m.zs.length 1],113⟩)]) (fun k=>z.2.length-k.val) ⟨0,by omega,rfl⟩ (fun _=>ClM.of (by simp only[List.all_cons,inMV (rowsC_isV _)];rfl)) (fun _=>ClE.of rfl) [(1,1),(2,2)] ?_ ?_
  ·exact⟨rfl,trivial,⟨rfl,rfl,rfl,trivial⟩,⟨oV (renV (rowsC_isV _)),oR,trivial⟩⟩
  rintro⟨k,hk,hy⟩ J2 hb2
  simp only at hb2 hk hy⊢
  refine run_ok 24 _ _ _ 150 ?_
  simp(maxSteps:=2000000) only[go_sem,e3]
  refine mtch (fun hd=>?_) (fun hd=>?_)
  ·have hd:k<z.2.length:=by have:=lt_of_dec hd;omega
   refine⟨⟨by omega,by omega⟩,?_⟩
   refine Sm.bringI 6 3 52 (hzo.mono hH) rfl rfl ?_
   rw[List.drop_eq_getElem_cons hd,List.all_cons]at hy
   refine Sm.go 160 ?_
   simp(maxSteps:=2000000) only[go_sem,get_iC hd]
   refine⟨⟨by omega,by omega⟩,?_⟩
   refine CallQ.pure 170 (rfar_ z.2[k]) rfl ?_
   cases h6:nearB z.2[k]with
   |false=>
    rw[h6]at hy
    refine vv ?_
    exact RetQ.bool (hR C hL) rfl ⟨rfl,trivial⟩ (by rw[hx,hy];rfl)
   |true=>
    rw[h6,Bool.true_and]at hy
    simp(maxSteps:=2000000) only[go_sem,wS (show k≤1000000000000000000 by omega)]
    exact hb2 _ _ ⟨k+1,hd,hy⟩ [(1,1),(2,2)] (by simp only;omega) ⟨rfl,trivial,⟨rfl,rfl,rfl,trivial⟩,⟨oV (renV (rowsC_isV _)),oR,trivial⟩⟩
  ·have hd:k=z.2.length:=by have:=of_decide_eq_false hd;omega
   rw[hd,List.drop_length]at hy
   rw[hy]at hx
   simp(maxSteps:=2000000) only[go_sem,wS (show i≤1000000000000000000 by omega)]
   exact hb _ _ ⟨i+1,hc,hx⟩ [(1,1),(2,2)] (by simp only;omega) ⟨rfl,trivial,⟨rfl,rfl,trivial⟩,⟨oV (renV (rowsC_isV _)),oR,trivial⟩⟩
 ·have hc:=eq_of_dec hi hc
  rw[hc,List.drop_length]at hx
  exact RetQ.bool (hR C hL) rfl ⟨rfl,trivial⟩ (by rw[hx];rfl)
end Go.Proofs.YtlnpgbnhcondjaaGreatDoor.Fx
namespace Go.Proofs.YtlnpgbnhcondjaaGreatDoor.Fx
set_option linter.unusedVariables false
set_option linter.unusedSimpArgs false
open Vg Tf
set_option maxRecDepth 100000
set_option maxHeartbeats 4000000
theorem lnsU_sm (s:Str)(he:(tokQ s).2.2=0):(tokQ s).1=(lnsU 0 (splB 10 s)).flatten∧∀U∈lnsU 0 (splB 10 s),LnT U∧U.length≤40000:=by
 have h16:¬16384<s.length:=fun h=>by unfold tokQ at he;rw[if_pos h]at he;cases he
 have hfa:=tok_facts s
 have hq:(lnsQ 0 (splB 10 s)).2.2=0:=by unfold tokQ at he;rw[if_neg h16]at he;exact he
 have hq1:(tokQ s).1=(lnsU 0 (splB 10 s)).flatten:=by unfold tokQ;rw[if_neg h16];exact(lns_lines _ _ hq).1
 refine⟨hq1,fun U hU=>⟨lnsU_ok _ _ U hU,?_⟩⟩
 have:U.length≤(lnsU 0 (splB 10 s)).flatten.length:=by
  obtain⟨A,B,h⟩:=List.append_of_mem hU
  rw[h];simp;omega
 rw[←hq1]at this
 omega
end Go.Proofs.YtlnpgbnhcondjaaGreatDoor.Fx
