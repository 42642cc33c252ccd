/-  -/
import Derived.Test.YtlnpgbnhcondjaaGreatDoorTf
import Derived.Test.YtlnpgbnhcondjaaGreatDoorWI
import Derived.Test.YtlnpgbnhcondjaaGreatDoorYI
namespace Go.Proofs.YtlnpgbnhcondjaaGreatDoor.Fx
open Vg Tf
set_option linter.unusedSimpArgs false
set_option linter.unusedVariables false
set_option maxRecDepth 100000
set_option maxHeartbeats 4000000
theorem run1_at {p:UInt8→Bool}{s:Str}{n:Nat}(h:n<s.length):run1 p s n=if p (s.getD n 0)=true then 1+run1 p s (n+1)else 0:=by
 have hd:s.drop n=s.getD n 0::s.drop (n+1):=by
  rw[List.getD_eq_getElem?_getD,List.getElem?_eq_getElem h,List.drop_eq_getElem_cons h];rfl
 unfold run1
 rw[hd,List.takeWhile_cons]
 split
 ·rw[List.length_cons];omega
 ·rfl
theorem rdigits_ (s:Str)(h0:1≤s.length)(hs:s.length≤100000):CallOk Tryz.prog 173 [S s] [] (I (rdgQ s)) []:=by
 have hne:(s==([]:Str))=false:=by
  cases s with
  |nil=>cases h0
  |cons a b=>rfl
 have h45:(((s.getD 0 0).toNat:Int)==45)=ngB s:=u8e (s.getD 0 0) 45 (by decide)
 refine CallOk.mkN 100 Tryz.func173 rfl en173 (by simp[Tryz.ntmps173]) (ClA.of rfl) rfl rfl fun C hR hP=>?_
 simp(maxSteps:=2000000) only[go_sem,hne,h45,bne]
 refine⟨by omega,?_⟩
 cases hng:ngB s with
 |true=>
  refine vv ?_
  have hw:∀n:Nat,n≤s.length→1+run1 diB s 1=n+run1 diB s n→n<s.length→diB (s.getD n 0)=true→1+run1 diB s 1=(n+1)+run1 diB s (n+1):=fun n hn hx hlt hd=>by
   rw[hx,run1_at hlt,if_pos hd];omega
  refine Sm.loopM (M0:=[]) (α:={n:Nat//1≤n∧n≤s.length∧1+run1 diB s 1=n+run1 diB s n}) hP
   (fun n=>[(0,true,S s),(3,true,I n.val),(4,true,I 1)]) (fun _=>[]) (fun n=>s.length-n.val) ⟨1,by omega,by omega,rfl⟩ (fun _=>ClM.nil) (fun _=>ClE.of rfl) [] ?_ ?_
  ·exact⟨rfl,trivial,⟨rfl,rfl,rfl,trivial⟩,trivial⟩
  rintro⟨n,hn1,hn,hx⟩ J hb
  simp only at hb hn hn1 hx⊢
  refine Sm.go 120 ?_
  refine vv ?_
  by_cases hlt:n<s.length
  ·have h1:decide ((n:Int)<(s.length:Int))=true:=tru_of (by omega)
   simp(maxSteps:=2000000) only[go_sem,h1]
   refine⟨⟨by omega,by omega⟩,?_⟩
   refine CallQ.pure 130 (rDigit_ (s.getD n 0)) rfl ?_
   cases g1:diB (s.getD n 0)with
   |true=>
    simp(maxSteps:=2000000) only[go_sem,wS (show n≤1000000000000000000 by omega)]
    exact hb _ _ ⟨n+1,by omega,by omega,hw n hn hx hlt g1⟩ [] (by simp only;omega) ⟨rfl,trivial,⟨rfl,rfl,rfl,trivial⟩,trivial⟩
   |false=>
    have hz:run1 diB s n=0:=by rw[run1_at hlt,g1];rfl
    have hx:n=1+run1 diB s 1:=by omega
    have e1:((n:Int)==1)=(run1 diB s 1==0):=by rw[Bool.eq_iff_iff,beq_iff_eq,beq_iff_eq];omega
    simp(maxSteps:=2000000) only[go_sem,e1]
    cases h0:run1 diB s 1==0 with
    |true=>
     refine vv ?_
     exact RetQ.int hR rfl ⟨rfl,trivial⟩ (by unfold rdgQ;rw[hng];rw[cond_true,h0,cond_true];rfl)
    |false=>
     refine vv ?_
     exact RetQ.int hR rfl ⟨rfl,trivial⟩ (by unfold rdgQ;rw[hng];rw[cond_true,h0,hx,cond_false])
  ·have h1:decide ((n:Int)<(s.length:Int))=false:=fal_of (by omega)
   have hz:run1 diB s n=0:=by unfold run1;rw[List.drop_eq_nil_of_le (by omega)];rfl
   have hx:n=1+run1 diB s 1:=by omega
   have e1:((n:Int)==1)=(run1 diB s 1==0):=by rw[Bool.eq_iff_iff,beq_iff_eq,beq_iff_eq];omega
   simp(maxSteps:=2000000) only[go_sem,h1]
   refine CallQ.guard (xs:=[]) (v:=Bo true) 150 (fun h=>by cases h) (fun h=>by cases h) ?_
   simp(maxSteps:=2000000) only[go_sem,Bool.and_self,e1]
   cases h0:run1 diB s 1==0 with
   |true=>
    refine vv ?_
    exact RetQ.int hR rfl ⟨rfl,trivial⟩ (by unfold rdgQ;rw[hng];rw[cond_true,h0,cond_true];rfl)
   |false=>
    refine vv ?_
    exact RetQ.int hR rfl ⟨rfl,trivial⟩ (by unfold rdgQ;rw[hng];rw[cond_true,h0,hx,cond_false])
 |false=>
  refine vv ?_
  have hw:∀n:Nat,n≤s.length→0+run1 diB s 0=n+run1 diB s n→n<s.length→diB (s.getD n 0)=true→0+run1 diB s 0=(n+1)+run1 diB s (n+1):=fun n hn hx hlt hd=>by
   rw[hx,run1_at hlt,if_pos hd];omega
  refine Sm.loopM (M0:=[]) (α:={n:Nat//0≤n∧n≤s.length∧0+run1 diB s 0=n+run1 diB s n}) hP
   (fun n=>[(0,true,S s),(3,true,I n.val),(4,true,I 0)]) (fun _=>[]) (fun n=>s.length-n.val) ⟨0,by omega,by omega,rfl⟩ (fun _=>ClM.nil) (fun _=>ClE.of rfl) [] ?_ ?_
  ·exact⟨rfl,trivial,⟨rfl,rfl,rfl,trivial⟩,trivial⟩
  rintro⟨n,hn1,hn,hx⟩ J hb
  simp only at hb hn hn1 hx⊢
  refine Sm.go 120 ?_
  refine vv ?_
  by_cases hlt:n<s.length
  ·have h1:decide ((n:Int)<(s.length:Int))=true:=tru_of (by omega)
   simp(maxSteps:=2000000) only[go_sem,h1]
   refine⟨⟨by omega,by omega⟩,?_⟩
   refine CallQ.pure 130 (rDigit_ (s.getD n 0)) rfl ?_
   cases g1:diB (s.getD n 0)with
   |true=>
    simp(maxSteps:=2000000) only[go_sem,wS (show n≤1000000000000000000 by omega)]
    exact hb _ _ ⟨n+1,by omega,by omega,hw n hn hx hlt g1⟩ [] (by simp only;omega) ⟨rfl,trivial,⟨rfl,rfl,rfl,trivial⟩,trivial⟩
   |false=>
    have hz:run1 diB s n=0:=by rw[run1_at hlt,g1];rfl
    have hx:n=0+run1 diB s 0:=by omega
    have e1:((n:Int)==0)=(run1 diB s 0==0):=by rw[Bool.eq_iff_iff,beq_iff_eq,beq_iff_eq];omega
    simp(maxSteps:=2000000) only[go_sem,e1]
    cases h0:run1 diB s 0==0 with
    |true=>
     refine vv ?_
     exact RetQ.int hR rfl ⟨rfl,trivial⟩ (by unfold rdgQ;rw[hng];rw[cond_false,eq_of_beq h0];rfl)
    |false=>
     refine vv ?_
     exact RetQ.int hR rfl ⟨rfl,trivial⟩ (by unfold rdgQ;rw[hng];rw[cond_false,hx,Nat.zero_add])
  ·have h1:decide ((n:Int)<(s.length:Int))=false:=fal_of (by omega)
   have hz:run1 diB s n=0:=by unfold run1;rw[List.drop_eq_nil_of_le (by omega)];rfl
   have hx:n=0+run1 diB s 0:=by omega
   have e1:((n:Int)==0)=(run1 diB s 0==0):=by rw[Bool.eq_iff_iff,beq_iff_eq,beq_iff_eq];omega
   simp(maxSteps:=2000000) only[go_sem,h1]
   refine CallQ.guard (xs:=[]) (v:=Bo true) 150 (fun h=>by cases h) (fun h=>by cases h) ?_
   simp(maxSteps:=2000000) only[go_sem,Bool.and_self,e1]
   cases h0:run1 diB s 0==0 with
   |true=>
    refine vv ?_
    exact RetQ.int hR rfl ⟨rfl,trivial⟩ (by unfold rdgQ;rw[hng];rw[cond_false,eq_of_beq h0];rfl)
   |false=>
    refine vv ?_
    exact RetQ.int hR rfl ⟨rfl,trivial⟩ (by unfold rdgQ;rw[hng];rw[cond_false,hx,Nat.zero_add])
theorem rsymbol_ (c:UInt8):CallOk Tryz.prog 175 [Y c.toNat] [] (Bo (symL.contains c)) []:=by
 have e:∀n:Nat,n<256→((c.toNat:Int)==(n:Int))=(c==UInt8.ofNat n):=fun n h=>u8e c n h
 have hc:symL.contains c=((c==40)||((c==41)||((c==44)||((c==61)||((c==58)||((c==59)||((c==42)||((c==47)||(c==94))))))))):=by
  unfold symL
  simp only[List.contains_cons,List.contains_nil,Bool.or_false]
 rw[hc]
 have e1:((c.toNat:Int)==40)=(c==40):=e 40 (by decide)
 have e2:((c.toNat:Int)==41)=(c==41):=e 41 (by decide)
 have e3:((c.toNat:Int)==44)=(c==44):=e 44 (by decide)
 have e4:((c.toNat:Int)==61)=(c==61):=e 61 (by decide)
 have e5:((c.toNat:Int)==58)=(c==58):=e 58 (by decide)
 have e6:((c.toNat:Int)==59)=(c==59):=e 59 (by decide)
 have e7:((c.toNat:Int)==42)=(c==42):=e 42 (by decide)
 have e8:((c.toNat:Int)==47)=(c==47):=e 47 (by decide)
 have e9:((c.toNat:Int)==94)=(c==94):=e 94 (by decide)
 refine CallOk.mkN 100 Tryz.func175 rfl en175 (by simp[Tryz.ntmps175]) (ClA.of rfl) rfl rfl fun C hR hP=>?_
 simp(maxSteps:=2000000) only[go_sem,e1]
 cases g40:c==40 with
 |true=>
  simp(maxSteps:=2000000) only[go_sem,g40]
  exact RetQ.bool hR rfl ⟨rfl,trivial⟩ (by simp only[g40,Bool.true_or,Bool.or_true])
 |false=>
  simp(maxSteps:=2000000) only[go_sem,g40,e2]
  cases g41:c==41 with
  |true=>
   simp(maxSteps:=2000000) only[go_sem,g41]
   exact RetQ.bool hR rfl ⟨rfl,trivial⟩ (by simp only[g41,g40,Bool.true_or,Bool.or_true])
  |false=>
   simp(maxSteps:=2000000) only[go_sem,g41,e3]
   cases g44:c==44 with
   |true=>
    simp(maxSteps:=2000000) only[go_sem,g44]
    exact RetQ.bool hR rfl ⟨rfl,trivial⟩ (by simp only[g44,g40,g41,Bool.true_or,Bool.or_true])
   |false=>
    simp(maxSteps:=2000000) only[go_sem,g44,e4]
    cases g61:c==61 with
    |true=>
     simp(maxSteps:=2000000) only[go_sem,g61]
     exact RetQ.bool hR rfl ⟨rfl,trivial⟩ (by simp only[g61,g40,g41,g44,Bool.true_or,Bool.or_true])
    |false=>
     simp(maxSteps:=2000000) only[go_sem,g61,e5]
     cases g58:c==58 with
     |true=>
      simp(maxSteps:=2000000) only[go_sem,g58]
      exact RetQ.bool hR rfl ⟨rfl,trivial⟩ (by simp only[g58,g40,g41,g44,g61,Bool.true_or,Bool.or_true])
     |false=>
      simp(maxSteps:=2000000) only[go_sem,g58,e6]
      cases g59:c==59 with
      |true=>
       simp(maxSteps:=2000000) only[go_sem,g59]
       exact RetQ.bool hR rfl ⟨rfl,trivial⟩ (by simp only[g59,g40,g41,g44,g61,g58,Bool.true_or,Bool.or_true])
      |false=>
       simp(maxSteps:=2000000) only[go_sem,g59,e7]
       cases g42:c==42 with
       |true=>
        simp(maxSteps:=2000000) only[go_sem,g42]
        exact RetQ.bool hR rfl ⟨rfl,trivial⟩ (by simp only[g42,g40,g41,g44,g61,g58,g59,Bool.true_or,Bool.or_true])
       |false=>
        simp(maxSteps:=2000000) only[go_sem,g42,e8]
        cases g47:c==47 with
        |true=>
         simp(maxSteps:=2000000) only[go_sem,g47]
         exact RetQ.bool hR rfl ⟨rfl,trivial⟩ (by simp only[g47,g40,g41,g44,g61,g58,g59,g42,Bool.true_or,Bool.or_true])
        |false=>
         simp(maxSteps:=2000000) only[go_sem,g47,e9]
         cases g94:c==94 with
         |true=>
          simp(maxSteps:=2000000) only[go_sem,g94]
          exact RetQ.bool hR rfl ⟨rfl,trivial⟩ (by simp only[g94,g40,g41,g44,g61,g58,g59,g42,g47,Bool.true_or,Bool.or_true])
         |false=>
          simp(maxSteps:=2000000) only[go_sem,g94]
          exact RetQ.bool hR rfl ⟨rfl,trivial⟩ (by simp only[g40,g41,g44,g61,g58,g59,g42,g47,g94,Bool.or_false])
theorem rnumber9_ (s r:Str)(h0:1≤s.length)(h1:(dgT s==[])=false)(hs:s.length≤100000)(hr:r.length≤100000):CallOk Tryz.prog 174 [S s,S r] [] (I (rnmQ s r)) []:=by
 have h45:(((s.getD 0 0).toNat:Int)==45)=ngB s:=u8e (s.getD 0 0) 45 (by decide)
 have h48:((((dgT s).getD 0 0).toNat:Int)==48)=((dgT s).getD 0 0==48):=u8e ((dgT s).getD 0 0) 48 (by decide)
 have h95:(((r.getD 0 0).toNat:Int)==95)=(r.getD 0 0==95):=u8e (r.getD 0 0) 95 (by decide)
 have hdl:0<(dgT s).length:=List.length_pos_iff.2 (by simpa using h1)
 have hap:=rap_ s
 have hl1:decide ((1:Int)<(s.length:Int))=decide (1<s.length):=by rw[decide_eq_decide];omega
 have hl20:decide ((20:Int)<(s.length:Int))=decide (20<s.length):=by rw[decide_eq_decide];omega
 have hdt:ngB s=true→List.take ((s.length:Int)-1).toNat (s.drop 1)=dgT s:=fun h=>by
  unfold dgT
  rw[h,cond_true]
  exact List.take_of_length_le (by rw[List.length_drop];omega)
 have hdf:ngB s=false→dgT s=s:=fun h=>by unfold dgT;rw[h,cond_false]
 have q1:(!(r==([]:Str))&&(leB (r.getD 0 0)||r.getD 0 0==95))=(bif !(r==([]:Str))then bif leB (r.getD 0 0)then true else r.getD 0 0==95 else false):=by
  cases r==([]:Str)<;>cases leB (r.getD 0 0)<;>rfl
 refine CallOk.mkN 100 Tryz.func174 rfl en174 (by simp[Tryz.ntmps174]) (ClA.of rfl) rfl rfl fun C hR hP=>?_
 simp(maxSteps:=2000000) only[go_sem,h95,bne]
 unfold rnmQ at hR
 rw[q1]at hR
 have hrl:(r==([]:Str))=false→0<(r.length:Int):=fun h=>by
  have:r≠[]:=by simpa using h
  have:=List.length_pos_iff.2 this
  omega
 refine⟨fun h=>⟨h,hrl h⟩,?_⟩
 refine CallQ.guard 150 (fun _=>rLetter_ (r.getD 0 0)) (fun h=>by rw[h];rfl) ?_
 simp(maxSteps:=2000000) only[go_sem,h95,bne]
 refine⟨fun h=>⟨h,hrl (by cases hq:r==([]:Str)with
  |false=>rfl
  |true=>rw[hq]at h;cases h)⟩,fun h=>⟨h,fun h2=>by rw[h,h2];rfl⟩,?_⟩
 refine mtch (fun hc=>?_) (fun hc=>?_)
 ·rw[if_pos hc]at hR
  exact RetQ.int hR rfl ⟨rfl,trivial⟩ rfl
 rw[if_neg (by rw[hc];decide)]at hR
 cases hn:ngB s with
 |true=>
  have hd:=hdt hn
  simp(maxSteps:=2000000) only[go_sem,h45,hn,hd,h48,hl1,hl20]
  refine⟨by omega,⟨by omega,by omega⟩,by omega,?_⟩
  have q2:((dgT s).getD 0 0==48&&decide (1<s.length))=(bif (dgT s).getD 0 0==48 then decide (1<s.length)else false):=(band_ _ _).symm
  rw[q2]at hR
  refine mtch (fun hc2=>?_) (fun hc2=>?_)
  ·rw[if_pos hc2]at hR
   exact RetQ.int hR rfl ⟨rfl,trivial⟩ rfl
  rw[if_neg (by rw[hc2];decide)]at hR
  refine mtch (fun hc3=>?_) (fun hc3=>?_)
  ·rw[if_pos (of_decide_eq_true hc3)]at hR
   exact RetQ.int hR rfl ⟨rfl,trivial⟩ rfl
  rw[if_neg (of_decide_eq_false hc3)]at hR
  refine CallQ.pure 160 hap rfl ?_
  generalize aprQ s=z at*
  simp(maxSteps:=2000000) only[go_sem,bne]
  refine mtch (fun hc4=>?_) (fun hc4=>?_)
  ·rw[if_pos (by simpa using hc4)]at hR
   exact RetQ.int hR rfl ⟨rfl,trivial⟩ rfl
  rw[if_neg (by simpa using hc4)]at hR
  refine mtch (fun hd=>?_) (fun hd=>?_)
  ·have hd2:1099511627776<z.1∨z.1< -1099511627776:=by
    by_cases h1:1099511627776<z.1
    ·exact .inl h1
    ·rw[decide_eq_false h1,cond_false]at hd
     exact .inr (of_decide_eq_true hd)
   rw[if_pos hd2]at hR
   exact RetQ.int hR rfl ⟨rfl,trivial⟩ rfl
  ·have hd2:¬(1099511627776<z.1∨z.1< -1099511627776):=by
    rintro(h1|h1)
    ·rw[decide_eq_true h1]at hd;cases hd
    ·rw[decide_eq_true h1]at hd
     cases hq:decide (1099511627776<z.1)<;>rw[hq]at hd<;>cases hd
   rw[if_neg hd2]at hR
   exact RetQ.int hR rfl ⟨rfl,trivial⟩ rfl
 |false=>
  have hd:=hdf hn
  rw[hd]at h48 hR hdl
  simp(maxSteps:=2000000) only[go_sem,h45,hn,h48,hl1,hl20]
  refine⟨by omega,by omega,?_⟩
  have q2:(s.getD 0 0==48&&decide (1<s.length))=(bif s.getD 0 0==48 then decide (1<s.length)else false):=(band_ _ _).symm
  rw[q2]at hR
  refine mtch (fun hc2=>?_) (fun hc2=>?_)
  ·rw[if_pos hc2]at hR
   exact RetQ.int hR rfl ⟨rfl,trivial⟩ rfl
  rw[if_neg (by rw[hc2];decide)]at hR
  refine mtch (fun hc3=>?_) (fun hc3=>?_)
  ·rw[if_pos (of_decide_eq_true hc3)]at hR
   exact RetQ.int hR rfl ⟨rfl,trivial⟩ rfl
  rw[if_neg (of_decide_eq_false hc3)]at hR
  refine CallQ.pure 160 hap rfl ?_
  generalize aprQ s=z at*
  simp(maxSteps:=2000000) only[go_sem,bne]
  refine mtch (fun hc4=>?_) (fun hc4=>?_)
  ·rw[if_pos (by simpa using hc4)]at hR
   exact RetQ.int hR rfl ⟨rfl,trivial⟩ rfl
  rw[if_neg (by simpa using hc4)]at hR
  refine mtch (fun hd=>?_) (fun hd=>?_)
  ·have hd2:1099511627776<z.1∨z.1< -1099511627776:=by
    by_cases h1:1099511627776<z.1
    ·exact .inl h1
    ·rw[decide_eq_false h1,cond_false]at hd
     exact .inr (of_decide_eq_true hd)
   rw[if_pos hd2]at hR
   exact RetQ.int hR rfl ⟨rfl,trivial⟩ rfl
  ·have hd2:¬(1099511627776<z.1∨z.1< -1099511627776):=by
    rintro(h1|h1)
    ·rw[decide_eq_true h1]at hd;cases hd
    ·rw[decide_eq_true h1]at hd
     cases hq:decide (1099511627776<z.1)<;>rw[hq]at hd<;>cases hd
   rw[if_neg hd2]at hR
   exact RetQ.int hR rfl ⟨rfl,trivial⟩ rfl
@[reducible] def bPos (nm l c:Nat):Nat×Bk:=(nm,⟨false,[nC l,nC c],32⟩)
theorem wordQ_le (x:Str):wordQ x≤x.length:=by
 cases x with
 |nil=>exact Nat.le_refl _
 |cons c r=>
  show(if leB c=true then 1+(r.takeWhile inB).length else 0)≤r.length+1
  have:=(List.takeWhile_prefix (l:=r) inB).length_le
  split<;>omega
theorem wordQ_pos {x:Str}(h:leB (x.getD 0 0)=true)(hx:x≠[]):1≤wordQ x:=by
 cases x with
 |nil=>exact absurd rfl hx
 |cons c r=>
  show 1≤(if leB c=true then 1+(r.takeWhile inB).length else 0)
  have h:leB c=true:=h
  rw[if_pos h];omega
theorem rdgQ_le (x:Str):rdgQ x≤x.length:=by
 unfold rdgQ
 have h0:=run1_le diB x 0
 have h1:=run1_le diB x 1
 cases ngB x with
 |false=>exact h0
 |true=>
  simp only[cond_true]
  cases hz:run1 diB x 1==0 with
  |true=>exact Nat.zero_le _
  |false=>
   have:=beq_eq_false_iff_ne.1 hz
   simp only[cond_false];omega
theorem rdgQ_dg {x:Str}(hc:(diB (x.getD 0 0)||x.getD 0 0==45)=true)(h:rdgQ x≠0):(dgT (x.take (rdgQ x))==[])=false:=by
 have hl:=rdgQ_le x
 unfold dgT
 have hg:ngB (x.take (rdgQ x))=ngB x:=by
  unfold ngB
  have:(x.take (rdgQ x)).getD 0 0=x.getD 0 0:=by rw[List.getD_eq_getElem?_getD,List.getElem?_take_of_lt (by omega),←List.getD_eq_getElem?_getD]
  rw[this]
 rw[hg]
 rw[beq_eq_false_iff_ne]
 intro hh
 cases hn:ngB x with
 |false=>
  rw[hn,cond_false]at hh
  have:=congrArg List.length hh
  rw[List.length_take,List.length_nil]at this
  omega
 |true=>
  rw[hn,cond_true]at hh
  have:=congrArg List.length hh
  rw[List.length_drop,List.length_take]at this
  simp only[List.length_nil]at this
  have h2:2≤rdgQ x:=by
   unfold rdgQ at h⊢
   rw[hn]at h⊢
   simp only[cond_true]at h⊢
   cases hz:run1 diB x 1==0 with
   |true=>rw[hz]at h;exact absurd rfl h
   |false=>
    have:=beq_eq_false_iff_ne.1 hz
    simp only[cond_false];omega
  omega
theorem rtokens_ {H:Hp}(s:Str)(hs:s.length≤1000000):
  CallX H Tryz.prog 61 [S s] [] (fun _:Unit=> .tup [.c (.sl 1 0 (tokQ s).1.length 4),.agg [nC (tokQ s).2.1.1,nC (tokQ s).2.1.2],Wi (tokQ s).2.2]) (fun _=>[bTkn 1 (tokQ s).1]) (fun _ _=>True):=by
 rw[←rtk_tok]
 refine CallX.mkS Tryz.func61 rfl en61 (by simp[Tryz.ntmps61]) (ClA.of rfl) (fun _=>rfl) (fun _=>rfl) fun C hR hP hH hL=>?_
 have hR:=hR () C hL trivial
 unfold rtkQ at hR
 refine Sm.go 100 ?_
 by_cases h0:16384<s.length
 ·have h1:decide ((16384:Int)<(s.length:Int))=true:=tru_of (by omega)
  rw[if_pos h0]at hR
  simp(maxSteps:=2000000) only[go_sem,h1]
  refine RetQ.nils 120 4 57 [2] [] rfl ?_
  refine vv ?_
  refine RetQ.ren [(1,120)] hR hP rfl (vv trivial) rfl rfl trivial ⟨oR,trivial⟩ (ClM.of rfl) (ClV.of rfl)
 have h1:decide ((16384:Int)<(s.length:Int))=false:=fal_of (by omega)
 rw[if_neg h0]at hR
 simp(maxSteps:=2000000) only[go_sem,h1]
 refine Sm.nils 150 4 57 [5] [] rfl ?_
 generalize hX0:rtk s (s.length+2) 0 1 0 false false []=X0 at*
 have v_tk:∀T:List Tk,(rowsC (T.map Tk.r)).all Cv.isV=true:=fun _=>rowsC_isV _
 have hcl:∀T,ClM [bPos 3 0 0,bTkn 5 T]:=fun T=>ClM.of (by simp only[List.all_cons,inMV (rowsC_isV _)];rfl)
 have hcl2:∀T l c,ClM [bPos 3 0 0,bTkn 5 T,bPos 200 l c]:=fun T l c=>ClM.of (by simp only[List.all_cons,inMV (rowsC_isV _)];rfl)
 refine Sm.loopM (M0:=[]) (α:={x:Nat×Nat×Nat×Bool×Bool×List Tk//x.1≤s.length+1∧x.2.2.1≤x.1∧x.2.1≤x.1+1∧x.2.2.2.2.2.length≤x.1∧∃f,s.length+2≤x.1+f∧rtk s f x.1 x.2.1 x.2.2.1 x.2.2.2.1 x.2.2.2.2.1 x.2.2.2.2.2=X0}) hP
  (fun x=>[(0,true,S s),(3,true,.c (.p 3 0)),(5,true,.c (.sl 5 0 x.val.2.2.2.2.2.length 4)),(6,true,I x.val.2.1),(7,true,I x.val.2.2.1),(8,true,Bo x.val.2.2.2.1),(9,true,Bo x.val.2.2.2.2.1),(10,true,I x.val.1)])
  (fun x=>[bPos 3 0 0,bTkn 5 x.val.2.2.2.2.2]) (fun x=>s.length+1-x.val.1) ⟨(0,1,0,false,false,[]),by simp only;omega,Nat.le_refl _,Nat.le_refl _,Nat.le_refl _,s.length+2,by simp only;omega,hX0⟩ (fun x=>hcl _) (fun _=>ClE.of rfl) [(3,100),(5,150)] ?_ ?_
 ·exact⟨rfl,trivial,⟨rfl,rfl,rfl,rfl,rfl,rfl,rfl,rfl,trivial⟩,⟨oR,oR,trivial⟩⟩
 rintro⟨⟨i,ln,st,sm,cm,acc⟩,hi,hst,hln,hac,f,hf,hx⟩ J hb
 simp only at hb hi hst hln hac hf hx⊢
 refine Sm.go 200 ?_
 refine vv ?_
 refine mtch (fun hc=>?_) (fun hc=>?_)
 ·have hc:i≤s.length:=by have:=of_decide_eq_true hc;omega
  obtain⟨f,rfl⟩:∃g,f=g+1:=⟨f-1,by omega⟩
  rw[rtk,if_neg (by omega)]at hx
  have w0:IntKind.i64.wrap ((i:Int)-(st:Int))=((i-st:Nat):Int):=by rw[w64 (by omega) (by omega)];omega
  have u10:(((s.getD i 0).toNat:Int)==10)=(s.getD i 0==10):=u8e (s.getD i 0) 10 (by decide)
  have e1:((i:Int)==(s.length:Int))=decide (i=s.length):=by rw[Bool.eq_iff_iff,beq_iff_eq,decide_eq_true_eq];omega
  have hrl:=rows_len (r:=Tk.r) (k:=4) (fun _=>rfl) acc
  simp(maxSteps:=2000000) only[go_sem,w0,wS (show i-st≤1000000000000000000 by omega),e1,u10]
  refine⟨fun h=>⟨h,h,by omega,?_⟩,?_⟩
  ·have h:=of_decide_eq_false (by simpa using h);omega
  refine mtch (fun hc2=>?_) (fun hc2=>?_)
  ·have hnl:i=s.length∨s.getD i 0=10:=by
    cases hq:decide (i=s.length)with
    |true=>exact .inl (of_decide_eq_true hq)
    |false=>rw[hq,cond_false]at hc2;exact .inr (eq_of_beq hc2)
   rw[if_pos hnl]at hx
   cases sm with
   |true=>
    have hap:List.take (acc.length*4) (rowsC (acc.map Tk.r))++[.v (.int .i64 4),.v (.string ⟨#[]⟩),.v (.int .i64 (ln:Int)),.v (.int .i64 ((i-st+1:Nat):Int))]=rowsC ((acc++[(⟨4,[],ln,i-st+1⟩:Tk)]).map Tk.r):=tk_app acc ⟨4,[],ln,i-st+1⟩
    have hTl:(acc++[(⟨4,[],ln,i-st+1⟩:Tk)]).length=acc.length+1:=by rw[List.length_append];rfl
    simp(maxSteps:=2000000) only[go_sem,hrl,hap,wS (show ln≤1000000000000000000 by omega),wS (show i≤1000000000000000000 by omega)]
    refine⟨⟨by omega,by omega,by omega⟩,?_⟩
    refine hb _ _ ⟨(i+1,ln+1,i+1,false,false,acc++[⟨4,[],ln,i-st+1⟩]),by simp only;omega,Nat.le_refl _,by simp only;omega,by simp only[hTl];omega,f,by simp only;omega,hx⟩ [(3,3),(5,202)] (by simp only;omega) ?_
    simp only[hTl]
    exact⟨rfl,trivial,⟨rfl,rfl,rfl,rfl,rfl,rfl,rfl,rfl,trivial⟩,⟨oR,oV (renV (v_tk _)),trivial⟩⟩
   |false=>
    simp(maxSteps:=2000000) only[go_sem,wS (show ln≤1000000000000000000 by omega),wS (show i≤1000000000000000000 by omega)]
    exact hb _ _ ⟨(i+1,ln+1,i+1,false,false,acc),by simp only;omega,Nat.le_refl _,by simp only;omega,by simp only;omega,f,by simp only;omega,hx⟩ [(3,3),(5,5)] (by simp only;omega) ⟨rfl,trivial,⟨rfl,rfl,rfl,rfl,rfl,rfl,rfl,rfl,trivial⟩,⟨oR,oV (renV (v_tk _)),trivial⟩⟩
  have hq1:decide (i=s.length)=false:=by
   cases hq:decide (i=s.length)with
   |true=>rw[hq]at hc2;cases hc2
   |false=>rfl
  rw[hq1,cond_false]at hc2
  have hq1:=of_decide_eq_false hq1
  have hq2:s.getD i 0≠10:=beq_eq_false_iff_ne.1 hc2
  rw[if_neg (by rintro(h|h);exact hq1 h;exact hq2 h)]at hx
  have hil:i<s.length:=by omega
  refine vv ?_
  refine⟨⟨by omega,by omega⟩,?_⟩
  have hdl:(s.drop i).length=s.length-i:=List.length_drop
  have hd0:(s.drop i).getD 0 0=s.getD i 0:=by rw[List.getD_eq_getElem?_getD,List.getElem?_drop,Nat.add_zero,←List.getD_eq_getElem?_getD]
  have hne:s.drop i≠[]:=fun h=>by rw[h]at hdl;simp at hdl;omega
  have hdt:List.take ((s.length:Int)-(i:Int)).toNat (s.drop i)=s.drop i:=List.take_of_length_le (by omega)
  apply cutT (T:=fun todo=>∀(n kd:Nat),1≤kd→1≤n→i+n≤s.length→rtk s f (i+n) ln st true false (acc++[⟨kd,subS2 s i n,ln,i-st+1⟩])=X0→Sm Tryz.prog 141 C todo [(0,true,S s),(3,true,.c (.p 3 0)),(5,true,.c (.sl 5 0 acc.length 4)),(6,true,I ln),(7,true,I st),(8,true,Bo sm),(9,true,Bo false),(10,true,I i),(11,true,.c (.p 200 0)),(13,true,I n),(14,true,I kd)] [bPos 3 0 0,bTkn 5 acc,bPos 200 ln (i-st+1)])
  ·intro tail
   cases cm with
   |true=>
    rw[if_pos rfl]at hx
    refine vv ?_
    have hbd:badB (s.getD i 0)=(bif (bif decide (((s.getD i 0).toNat:Int)<32)then((s.getD i 0).toNat:Int)!=9 else false)then true else decide (126<((s.getD i 0).toNat:Int))):=by
     have q1:(((s.getD i 0).toNat:Int)!=9)= !(s.getD i 0==9):=by rw[bne];exact congrArg (! ·) (u8e (s.getD i 0) 9 (by decide))
     have q2:decide (126<((s.getD i 0).toNat:Int))=decide (126<(s.getD i 0).toNat):=by rw[decide_eq_decide];omega
     have q3:decide (((s.getD i 0).toNat:Int)<32)=decide ((s.getD i 0).toNat<32):=by rw[decide_eq_decide];omega
     rw[q1,q2,q3]
     unfold badB
     cases decide (126<(s.getD i 0).toNat)<;>cases decide ((s.getD i 0).toNat<32)<;>cases s.getD i 0==9<;>rfl
    refine mtch (fun hq=>?_) (fun hq=>?_)
    ·rw[if_pos (hbd.trans hq)]at hx
     subst hx
     refine vv ?_
     refine Sm.dg 420 2 mix ?_
     refine vv ?_
     refine RetQ.nils 430 4 57 [2] [] rfl ?_
     refine vv ?_
     exact RetQ.ren [(1,430)] hR hP rfl (vv trivial) rfl rfl trivial ⟨oR,trivial⟩ (ClM.of rfl) (ClV.of rfl)
    ·rw[if_neg (by rw[hbd.trans hq];simp)]at hx
     refine vv ?_
     simp(maxSteps:=2000000) only[go_sem,wS (show i≤1000000000000000000 by omega)]
     exact hb _ _ ⟨(i+1,ln,st,sm,true,acc),by simp only;omega,by simp only;omega,by simp only;omega,by simp only;omega,f,by simp only;omega,hx⟩ [(3,3),(5,5)] (by simp only;omega) ⟨rfl,trivial,⟨rfl,rfl,rfl,rfl,rfl,rfl,rfl,rfl,trivial⟩,⟨oR,oV (renV (v_tk _)),trivial⟩⟩
   |false=>
    rw[if_neg (by decide)]at hx
    have u32:(((s.getD i 0).toNat:Int)==32)=(s.getD i 0==32):=u8e (s.getD i 0) 32 (by decide)
    have u9:(((s.getD i 0).toNat:Int)==9)=(s.getD i 0==9):=u8e (s.getD i 0) 9 (by decide)
    have u35:(((s.getD i 0).toNat:Int)==35)=(s.getD i 0==35):=u8e (s.getD i 0) 35 (by decide)
    have u45:(((s.getD i 0).toNat:Int)==45)=(s.getD i 0==45):=u8e (s.getD i 0) 45 (by decide)
    simp(maxSteps:=2000000) only[go_sem,u32,u9]
    refine mtch (fun hq=>?_) (fun hq=>?_)
    ·have hbl:s.getD i 0=32∨s.getD i 0=9:=by
      cases h1:s.getD i 0==32 with
      |true=>exact .inl (eq_of_beq h1)
      |false=>rw[h1,cond_false]at hq;exact .inr (eq_of_beq hq)
     have hS:rtS (s.drop i)=(0,1,0):=by unfold rtS;rw[hd0,if_pos hbl]
     rw[if_neg (by rcases hbl with h|h<;>rw[h]<;>decide),hS,if_neg (by decide)]at hx
     refine vv ?_
     simp(maxSteps:=2000000) only[go_sem,wS (show i≤1000000000000000000 by omega)]
     exact hb _ _ ⟨(i+1,ln,st,sm,false,acc),by simp only;omega,by simp only;omega,by simp only;omega,by simp only;omega,f,by simp only;omega,(by have h2:=hx;simp only[show(0==0)=true from rfl,Bool.not_true,Bool.or_false,cond_true]at h2;exact h2)⟩ [(3,3),(5,5)] (by simp only;omega) ⟨rfl,trivial,⟨rfl,rfl,rfl,rfl,rfl,rfl,rfl,rfl,trivial⟩,⟨oR,oV (renV (v_tk _)),trivial⟩⟩
    have hbl:¬(s.getD i 0=32∨s.getD i 0=9):=by
     rintro(h|h)<;>rw[h]at hq<;>cases hq
    simp(maxSteps:=2000000) only[go_sem,u35]
    cases h35:s.getD i 0==35 with
    |true=>
     rw[if_pos (eq_of_beq h35)]at hx
     refine vv ?_
     simp(maxSteps:=2000000) only[go_sem,wS (show i≤1000000000000000000 by omega)]
     exact hb _ _ ⟨(i+1,ln,st,sm,true,acc),by simp only;omega,by simp only;omega,by simp only;omega,by simp only;omega,f,by simp only;omega,hx⟩ [(3,3),(5,5)] (by simp only;omega) ⟨rfl,trivial,⟨rfl,rfl,rfl,rfl,rfl,rfl,rfl,rfl,trivial⟩,⟨oR,oV (renV (v_tk _)),trivial⟩⟩
    |false=>
     rw[if_neg (beq_eq_false_iff_ne.1 h35)]at hx
     refine vv ?_
     refine CallQ.pure 300 (rLetter_ (s.getD i 0)) rfl ?_
     cases hle:leB (s.getD i 0)with
     |true=>
      simp(maxSteps:=2000000) only[go_sem,hdt]
      refine⟨⟨by omega,by omega⟩,?_⟩
      refine CallQ.pure 310 (rWord_ (s.drop i) (by omega)) rfl ?_
      refine vv ?_
      refine mtch (fun hw=>?_) (fun hw=>?_)
      ·have hS:rtS (s.drop i)=(0,0,5):=by unfold rtS;rw[hd0,if_neg hbl,if_pos hle,if_pos (by have:=of_decide_eq_true hw;omega)]
       rw[hS,if_pos (by decide)]at hx
       subst hx
       refine vv ?_
       refine Sm.dg 420 2 mix ?_
       refine vv ?_
       refine RetQ.nils 430 4 57 [2] [] rfl ?_
       refine vv ?_
       exact RetQ.ren [(1,430)] hR hP rfl (vv trivial) rfl rfl trivial ⟨oR,trivial⟩ (ClM.of rfl) (ClV.of rfl)
      ·have hS:rtS (s.drop i)=(1,wordQ (s.drop i),0):=by unfold rtS;rw[hd0,if_neg hbl,if_pos hle,if_neg (by have:=of_decide_eq_false hw;omega)]
       rw[hS,if_neg (fun h=>h rfl)]at hx
       have hw1:=wordQ_le (s.drop i)
       have hw2:=wordQ_pos (x:=s.drop i) (by rw[hd0];exact hle) hne
       refine vv ?_
       refine Sm.cutm (M0:=[]) hP [(0,true,S s),(3,true,.c (.p 3 0)),(5,true,.c (.sl 5 0 acc.length 4)),(6,true,I ln),(7,true,I st),(8,true,Bo sm),(9,true,Bo false),(10,true,I i),(11,true,.c (.p 200 0)),(13,true,I (wordQ (s.drop i))),(14,true,I 1)] [bPos 3 0 0,bTkn 5 acc,bPos 200 ln (i-st+1)] [(3,3),(5,5),(200,200)] ⟨rfl,trivial,⟨rfl,rfl,rfl,rfl,rfl,rfl,rfl,rfl,rfl,rfl,rfl,trivial⟩,⟨oR,oV (renV (v_tk _)),oR,trivial⟩⟩ (hcl2 _ _ _) (ClE.of rfl) ?_
       exact tail (wordQ (s.drop i)) 1 (by decide) hw2 (by omega) (by have h2:=hx;simp only[show(1==0)=false from rfl,Bool.not_false,Bool.or_true,cond_false]at h2;exact h2)
     |false=>
      refine vv ?_
      refine CallQ.pure 310 (rDigit_ (s.getD i 0)) rfl ?_
      simp(maxSteps:=2000000) only[go_sem,u45]
      refine mtch (fun hdg=>?_) (fun hdg=>?_)
      ·have hdg2:(diB ((s.drop i).getD 0 0)||(s.drop i).getD 0 0==45)=true:=by
        rw[hd0,←bor_];exact hdg
       simp(maxSteps:=2000000) only[go_sem,hdt]
       refine⟨⟨by omega,by omega⟩,?_⟩
       refine CallQ.pure 320 (rdigits_ (s.drop i) (by omega) (by omega)) rfl ?_
       have hrl2:=rdgQ_le (s.drop i)
       have hS0:rtS (s.drop i)=if rdgQ (s.drop i)=0 then(0,0,3)else if rnmQ ((s.drop i).take (rdgQ (s.drop i))) ((s.drop i).drop (rdgQ (s.drop i)))≠0 then(0,0,rnmQ ((s.drop i).take (rdgQ (s.drop i))) ((s.drop i).drop (rdgQ (s.drop i))))else(2,rdgQ (s.drop i),0):=by
        unfold rtS
        rw[if_neg (by rw[hd0];exact hbl),if_neg (by rw[hd0,hle];decide),if_pos hdg2]
       have hdg3:=rdgQ_dg hdg2
       generalize rdgQ (s.drop i)=n at*
       refine vv ?_
       cases hz:(n:Int)==0 with
       |true=>
        have hz:=eq_of_beq hz
        rw[if_pos (by omega)]at hS0
        rw[hS0,if_pos (by decide)]at hx
        subst hx
        refine vv ?_
        refine Sm.dg 420 2 mix ?_
        refine vv ?_
        refine RetQ.nils 430 4 57 [2] [] rfl ?_
        refine vv ?_
        exact RetQ.ren [(1,430)] hR hP rfl (vv trivial) rfl rfl trivial ⟨oR,trivial⟩ (ClM.of rfl) (ClV.of rfl)
       |false=>
        have hz:=beq_eq_false_iff_ne.1 hz
        have hz:n≠0:=by omega
        rw[if_neg hz]at hS0
        have wn:IntKind.i64.wrap ((i:Int)+(n:Int))=((i+n:Nat):Int):=by rw[w64 (by omega) (by omega)];omega
        refine Sm.dg 330 11 mix ?_
        have e4:List.take (((i+n:Nat):Int)-(i:Int)).toNat (List.drop i s)=(s.drop i).take n:=by
         rw[show(((i+n:Nat):Int)-(i:Int)).toNat=n by omega]
        have e5:List.take ((s.length:Int)-((i+n:Nat):Int)).toNat (List.drop (i+n) s)=(s.drop i).drop n:=by
         rw[List.drop_drop]
         exact List.take_of_length_le (by rw[List.length_drop];omega)
        simp(maxSteps:=2000000) only[go_sem,wn,e4,e5]
        refine⟨⟨by omega,by omega,by omega⟩,⟨by omega,by omega,by omega⟩,?_⟩
        refine CallQ.pure 340 (rnumber9_ ((s.drop i).take n) ((s.drop i).drop n) (by rw[List.length_take];omega) (hdg3 hz) (by rw[List.length_take];omega) (by rw[List.length_drop];omega)) rfl ?_
        generalize rnmQ ((s.drop i).take n) ((s.drop i).drop n)=e at*
        simp(maxSteps:=2000000) only[go_sem,bne]
        cases he:e==0 with
        |true=>
         obtain rfl:=eq_of_beq he
         rw[if_neg (fun h=>h rfl)]at hS0
         rw[hS0,if_neg (fun h=>h rfl)]at hx
         refine vv ?_
         refine Sm.cutm (M0:=[]) hP [(0,true,S s),(3,true,.c (.p 3 0)),(5,true,.c (.sl 5 0 acc.length 4)),(6,true,I ln),(7,true,I st),(8,true,Bo sm),(9,true,Bo false),(10,true,I i),(11,true,.c (.p 200 0)),(13,true,I n),(14,true,I 2)] [bPos 3 0 0,bTkn 5 acc,bPos 200 ln (i-st+1)] [(3,3),(5,5),(200,200)] ⟨rfl,trivial,⟨rfl,rfl,rfl,rfl,rfl,rfl,rfl,rfl,rfl,rfl,rfl,trivial⟩,⟨oR,oV (renV (v_tk _)),oR,trivial⟩⟩ (hcl2 _ _ _) (ClE.of rfl) ?_
         exact tail n 2 (by decide) (by omega) (by omega) (by have h2:=hx;simp only[show(2==0)=false from rfl,Bool.not_false,Bool.or_true,cond_false]at h2;exact h2)
        |false=>
         have he:=beq_eq_false_iff_ne.1 he
         rw[if_pos he]at hS0
         rw[hS0,if_pos he]at hx
         subst hx
         refine vv ?_
         refine Sm.dgW [3] 420 4 mix ?_
         simp(maxSteps:=2000000) only[go_sem,Mem.wo]
         refine RetQ.nils 430 4 57 [2] [] rfl ?_
         refine vv ?_
         exact RetQ.ren [(1,430)] hR hP rfl (vv trivial) rfl rfl trivial ⟨oR,trivial⟩ (ClM.of rfl) (ClV.of rfl)
      ·have hdg2:¬(diB ((s.drop i).getD 0 0)||(s.drop i).getD 0 0==45)=true:=by
        rw[hd0,←bor_,hdg];decide
       refine vv ?_
       refine CallQ.pure 320 (rsymbol_ (s.getD i 0)) rfl ?_
       have hS0:rtS (s.drop i)=if symL.contains (s.getD i 0)=true then(3,1,0)else(0,0,3):=by
        unfold rtS
        rw[if_neg (by rw[hd0];exact hbl),if_neg (by rw[hd0,hle];decide),if_neg hdg2,hd0]
       cases hsy:symL.contains (s.getD i 0)with
       |true=>
        rw[hsy,if_pos rfl]at hS0
        rw[hS0,if_neg (fun h=>h rfl)]at hx
        refine vv ?_
        refine Sm.cutm (M0:=[]) hP [(0,true,S s),(3,true,.c (.p 3 0)),(5,true,.c (.sl 5 0 acc.length 4)),(6,true,I ln),(7,true,I st),(8,true,Bo sm),(9,true,Bo false),(10,true,I i),(11,true,.c (.p 200 0)),(13,true,I 1),(14,true,I 3)] [bPos 3 0 0,bTkn 5 acc,bPos 200 ln (i-st+1)] [(3,3),(5,5),(200,200)] ⟨rfl,trivial,⟨rfl,rfl,rfl,rfl,rfl,rfl,rfl,rfl,rfl,rfl,rfl,trivial⟩,⟨oR,oV (renV (v_tk _)),oR,trivial⟩⟩ (hcl2 _ _ _) (ClE.of rfl) ?_
        exact tail 1 3 (by decide) (by decide) (by omega) (by have h2:=hx;simp only[show(3==0)=false from rfl,Bool.not_false,Bool.or_true,cond_false]at h2;exact h2)
       |false=>
        rw[hsy,if_neg (by decide)]at hS0
        rw[hS0,if_pos (by decide)]at hx
        subst hx
        refine vv ?_
        refine Sm.dg 420 2 mix ?_
        refine vv ?_
        refine RetQ.nils 430 4 57 [2] [] rfl ?_
        refine vv ?_
        exact RetQ.ren [(1,430)] hR hP rfl (vv trivial) rfl rfl trivial ⟨oR,trivial⟩ (ClM.of rfl) (ClV.of rfl)
  ·intro n kd hkd hn1 hn2 hx
   have wn:IntKind.i64.wrap ((i:Int)+(n:Int))=((i+n:Nat):Int):=by rw[w64 (by omega) (by omega)];omega
   refine Sm.dgW [5] 220 11 mix ?_
   have e4:List.take (((i+n:Nat):Int)-(i:Int)).toNat (List.drop i s)=subS2 s i n:=by
    rw[show(((i+n:Nat):Int)-(i:Int)).toNat=n by omega];rfl
   have hap:List.take (acc.length*4) (rowsC (acc.map Tk.r))++[.v (.int .i64 (kd:Int)),.v (.string ⟨(subS2 s i n).toArray⟩),.v (.int .i64 (ln:Int)),.v (.int .i64 ((i-st+1:Nat):Int))]=rowsC ((acc++[(⟨kd,subS2 s i n,ln,i-st+1⟩:Tk)]).map Tk.r):=tk_app acc ⟨kd,subS2 s i n,ln,i-st+1⟩
   have hTl:(acc++[(⟨kd,subS2 s i n,ln,i-st+1⟩:Tk)]).length=acc.length+1:=by rw[List.length_append];rfl
   simp(maxSteps:=2000000) only[go_sem,Mem.wo,wn,e4,hrl,hap]
   refine⟨⟨by omega,by omega,by omega⟩,⟨by omega,by omega,by omega⟩,?_⟩
   refine hb _ _ ⟨(i+n,ln,st,true,false,acc++[⟨kd,subS2 s i n,ln,i-st+1⟩]),by simp only;omega,by simp only;omega,by simp only;omega,by simp only[hTl];omega,f,by simp only;omega,hx⟩ [(3,3),(5,221)] (by simp only;omega) ?_
   simp only[hTl]
   exact⟨rfl,trivial,⟨rfl,rfl,rfl,rfl,rfl,rfl,rfl,rfl,trivial⟩,⟨oR,oV (renV (v_tk _)),trivial⟩⟩
 ·have hc:i=s.length+1:=by have:=of_decide_eq_false hc;omega
  have hx:(acc,(0,0),0)=X0:=by
   cases f with
   |zero=>exact hx
   |succ f=>rw[rtk,if_pos (by omega)]at hx;exact hx
  subst hx
  refine vv ?_
  exact RetQ.ren [(1,5)] hR hP rfl (vv trivial) rfl rfl trivial ⟨oV (renV (v_tk _)),trivial⟩ (ClM.of (by simp only[List.cons_append,List.nil_append,List.all_cons,inMV (rowsC_isV _)];rfl)) (ClV.of rfl)
end Go.Proofs.YtlnpgbnhcondjaaGreatDoor.Fx
