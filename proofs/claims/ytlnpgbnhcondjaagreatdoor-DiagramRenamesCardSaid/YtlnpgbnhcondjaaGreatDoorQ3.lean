/-  -/
import Derived.Test.YtlnpgbnhcondjaaGreatDoorPS
import Derived.Test.YtlnpgbnhcondjaaGreatDoorQ2
namespace Go.Proofs.YtlnpgbnhcondjaaGreatDoor.Fx
open Vg Tf
set_option linter.unusedSimpArgs false
set_option linter.unusedVariables false
set_option maxRecDepth 100000
set_option maxHeartbeats 4000000
def kindN:List Str:=kindT.map (·.1)
theorem kindR_sz:∀r∈kindR,r.length=4:=by
 intro r hr
 obtain⟨x,_,rfl⟩:=List.mem_map.1 hr
 rfl
def kdT (i:Nat):Str×Nat×Nat×Nat:=kindT.getD i ([],0,0,0)
theorem kdT_get {i:Nat}(h:i<kindT.length):kindT[i]=kdT i:=by
 rw[kdT,List.getD_eq_getElem?_getD,List.getElem?_eq_getElem h];rfl
theorem kindR_take (i:Nat)(h:i<21):((rowsC kindR).drop (i*4)).take 4=[sC (kdT i).1,iC (kdT i).2.1,iC (kdT i).2.2.1,iC (kdT i).2.2.2]:=by
 rw[rowsC_take kindR kindR_sz i (by simpa[kindR,kindT]using h),←kdT_get (show i<kindT.length from h)]
 simp only[kindR,List.getElem_map]
 rfl
theorem kindR_len:(rowsC kindR).length=84:=rfl
theorem v_kR:(rowsC kindR).all Cv.isV=true:=rowsC_isV _
@[reducible] def bKN (nm:Nat):Nat×Bk:=(nm,⟨false,kindN.map sC,9⟩)
theorem kinds_:CallOk Tryz.prog 253 [] [] (.c (.sl 1 0 21 1)) [bKN 1]:=by
 refine CallOk.mkN 100 Tryz.func253 rfl en253 (by simp[Tryz.ntmps253]) (ClA.of rfl) rfl rfl fun C hR hP=>?_
 refine vv ?_
 refine CallQ.ren [(1,130)] 131 rows_ ClM.nil rfl rfl trivial rfl (.inl rfl) ?_
 simp only[Mem.ren,List.map_cons,List.map_nil,renV v_kR,V.ren,Cv.ren,rn,Nat.reduceBEq,cond_true]
 refine vv ?_
 refine Sm.nils 140 1 9 [1] [] rfl ?_
 refine vv ?_
 refine Sm.loopM (M0:=[]) (α:={i:Nat//i≤21}) hP (fun i=>[(1,true,.c (.sl 6 0 i.val 1)),(4,true,.c (.sl 5 0 21 4)),(5,true,I 21),(6,true,I i.val)])
  (fun i=>[bKR 5,(6,⟨false,(kindN.take i.val).map sC,9⟩)]) (fun i=>21-i.val) ⟨0,by omega⟩ (fun _=>ClM.of (by simp only[List.all_cons,inMV v_kR,inMV (v_sC _)];rfl)) (fun _=>ClE.of rfl) [(5,130),(6,140)] ?_ ?_
 ·exact⟨rfl,trivial,⟨rfl,rfl,rfl,rfl,trivial⟩,⟨.inr ⟨_,rfl,.inl (renV v_kR)⟩,.inr ⟨_,rfl,.inl rfl⟩,trivial⟩⟩
 ·rintro⟨i,hi⟩ J hb
  simp only at hb hi⊢
  refine Sm.go 150 ?_
  refine vv ?_
  refine mtch (fun hc=>?_) (fun hc=>?_)
  ·have hc:i<21:=by have:=of_decide_eq_true hc;omega
   simp only[kindR_take i hc,kindR_len]
   refine⟨⟨by omega,by omega⟩,by omega,?_⟩
   refine vv ?_
   have hlen:((kindN.take i).map sC).length=i:=by simp[kindN,kindT];omega
   have htk:List.take i ((kindN.take i).map sC)++[sC (kdT i).1]=(kindN.take (i+1)).map sC:=by
    rw[List.take_of_length_le (by omega),List.take_succ_eq_append_getElem (by simpa[kindN,kindT]using hc),List.map_append,←kdT_get (show i<kindT.length from hc)]
    simp only[kindN,List.getElem_map];rfl
   simp only[htk,hlen,wS (show i≤1000000000000000000 by omega)]
   refine⟨⟨by omega,by omega,by omega⟩,?_⟩
   exact hb _ _ ⟨i+1,hc⟩ [(5,5),(6,152)] (by simp only;omega) ⟨rfl,trivial,⟨rfl,rfl,rfl,rfl,trivial⟩,⟨.inr ⟨_,rfl,.inl (renV v_kR)⟩,.inr ⟨_,rfl,.inl (renV (v_sC _))⟩,trivial⟩⟩
  ·have hc:i=21:=by have:=of_decide_eq_false hc;omega
   subst hc
   exact RetQ.ren [(1,6)] hR hP rfl (vv trivial) rfl rfl trivial ⟨.inr ⟨_,rfl,.inl rfl⟩,trivial⟩ (ClM.of rfl) (ClV.of rfl)
def kindF (s:Str):List (Str×Nat×Nat×Nat)→Option (Nat×Nat×Nat)
 |[]=>none
 |r::l=>bif r.1==s then some r.2 else kindF s l
theorem kindF_eq (s:Str):∀l,kindF s l=(l.find? (fun r=>r.1==s)).map (·.2)
 |[]=>rfl
 |r::l=>by
  rw[kindF,List.find?_cons,kindF_eq s l]
  cases r.1==s<;>rfl
theorem kind_ (s:Str):CallOk Tryz.prog 218 [S s] [] (.tup [Wi ((kindQ s).getD (0,0,0)).1,Wi ((kindQ s).getD (0,0,0)).2.1,Wi ((kindQ s).getD (0,0,0)).2.2,Wb1 (kindQ s).isSome]) []:=by
 have hq:kindQ s=kindF s kindT:=(kindF_eq s kindT).symm
 rw[hq]
 refine CallOk.mkN 100 Tryz.func218 rfl en218 (by simp[Tryz.ntmps218]) (ClA.of rfl) rfl rfl fun C hR hP=>?_
 refine vv ?_
 refine CallQ.ren [(1,130)] 131 rows_ ClM.nil rfl rfl trivial rfl (.inl rfl) ?_
 simp only[Mem.ren,List.map_cons,List.map_nil,renV v_kR,V.ren,Cv.ren,rn,Nat.reduceBEq,cond_true]
 refine vv ?_
 refine Sm.loopM (M0:=[]) (α:={i:Nat//i≤21∧kindF s kindT=kindF s (kindT.drop i)}) hP (fun i=>[(0,true,S s),(8,true,.c (.sl 5 0 21 4)),(9,true,I 21),(10,true,I i.val)])
  (fun i=>[bKR 5]) (fun i=>21-i.val) ⟨0,by omega,rfl⟩ (fun _=>ClM.of (by simp only[List.all_cons,inMV v_kR];rfl)) (fun _=>ClE.of rfl) [(5,130)] ?_ ?_
 ·exact⟨rfl,trivial,⟨rfl,rfl,rfl,rfl,trivial⟩,⟨.inr ⟨_,rfl,.inl (renV v_kR)⟩,trivial⟩⟩
 ·rintro⟨i,hi,hx⟩ J hb
  simp only at hb hi hx⊢
  refine Sm.go 150 ?_
  refine vv ?_
  refine mtch (fun hc=>?_) (fun hc=>?_)
  ·have hc:i<21:=by have:=of_decide_eq_true hc;omega
   have hc':i<kindT.length:=hc
   rw[List.drop_eq_getElem_cons hc',kindF,kdT_get]at hx
   simp only[kindR_take i hc,kindR_len]
   refine⟨⟨by omega,by omega⟩,by omega,?_⟩
   refine vv ?_
   refine mtch (fun hs=>?_) (fun hs=>?_)
   ·rw[hs,cond_true]at hx
    rw[hx]at hR
    refine Sm.dg 160 8 mix ?_
    refine vv ?_
    exact RetQ.of hR rfl (vv trivial) rvr (Sub.nil _) ClM.nil (ClV.of rfl)
   ·rw[hs,cond_false]at hx
    simp only[wS (show i≤1000000000000000000 by omega)]
    exact hb _ _ ⟨i+1,hc,hx⟩ [(5,5)] (by simp only;omega) ⟨rfl,trivial,⟨rfl,rfl,rfl,rfl,trivial⟩,⟨.inr ⟨_,rfl,.inl (renV v_kR)⟩,trivial⟩⟩
  ·have hc:i=21:=by have:=of_decide_eq_false hc;omega
   subst hc
   have hx:kindF s kindT=none:=hx
   rw[hx]at hR
   exact RetQ.of hR rfl (vv trivial) rvr (Sub.nil _) ClM.nil (ClV.of rfl)
@[reducible] def bSs (nm:Nat)(l:List Str):Nat×Bk:=(nm,⟨true,l.map sC,9⟩)
theorem indexS (l:List Str)(n:Nat)(hn:n≤l.length)(hl:n≤1000000000000000)(x:Str):CallOk Tryz.prog 118 [.c (.sl 1 0 n 1),S x] [bSs 1 l] (I (ixF (fun y=>x==y) (l.take n) 0)) []:=by
 have hM:ClM [bSs 1 l]:=ClM.v (by simp only[List.all_cons,v_sC];rfl)
 refine CallOk.mkN 100 Tryz.func118 rfl en118 (by simp[Tryz.ntmps118]) (ClA.of rfl) rfl rfl fun C hR hP=>?_
 refine vv ?_
 refine Sm.loopM (M0:=[bSs 1 l]) (α:={i:Nat//i≤n∧ixF (fun y=>x==y) (l.take n) 0=ixF (fun y=>x==y) ((l.take n).drop i) i}) hP (fun i=>[(0,true,.c (.sl 1 0 n 1)),(1,true,S x),(7,true,I n),(8,true,I i.val)]) (fun _=>[bSs 1 l]) (fun i=>n-i.val) ⟨0,by omega,rfl⟩ (fun _=>hM) (fun _=>ClE.of rfl) [(1,1)] ?_ ?_
 ·exact⟨rfl,⟨⟨rfl,rfl⟩,trivial⟩,⟨rfl,rfl,rfl,rfl,trivial⟩,⟨.inr ⟨_,rfl,.inl (renV (v_sC _))⟩,trivial⟩⟩
 ·rintro⟨i,hi,hx⟩ J hb
  simp only at hb hi hx⊢
  refine Sm.go 120 ?_
  refine vv ?_
  refine mtch (fun hc=>?_) (fun hc=>?_)
  ·have hc:=lt_of_dec hc
   have hx':=ixF_step (fun y=>x==y) (l.take n) i (by simp;omega) (i:Int)
   rw[List.getElem_take]at hx'
   simp(maxSteps:=2000000) only[go_sem,get_sC (show i<l.length by omega)]
   refine⟨⟨by omega,by omega⟩,?_⟩
   refine mtch (fun hd=>?_) (fun hd=>?_)
   ·refine RetQ.of hR rfl ⟨rfl,trivial⟩ ?_ (Sub.refl _) hM (ClV.of rfl)
    rw[hx,hx',hd];rfl
   ·simp only[wS (show i≤1000000000000000000 by omega)]
    refine hb _ _ ⟨i+1,hc,?_⟩ [(1,1)] (by simp only;omega) ⟨rfl,⟨⟨rfl,rfl⟩,trivial⟩,⟨rfl,rfl,rfl,rfl,trivial⟩,⟨.inr ⟨_,rfl,.inl (renV (v_sC _))⟩,trivial⟩⟩
    rw[hx,hx',hd];rfl
  ·have hc:=eq_of_dec hi hc
   refine RetQ.of hR rfl ⟨rfl,trivial⟩ ?_ (Sub.refl _) hM (ClV.of rfl)
   rw[hx,List.drop_eq_nil_of_le (by simp;omega)];rfl
theorem any_contains (l:List Str)(x:Str):(l.any fun y=>x==y)=l.contains x:=by
 induction l with
 |nil=>rfl
 |cons y l ih=>rw[List.any_cons,List.contains_cons,ih]
theorem containsS (l:List Str)(n:Nat)(hn:n≤l.length)(hl:n≤1000000000000000)(x:Str):CallOk Tryz.prog 43 [.c (.sl 1 0 n 1),S x] [bSs 1 l] (Bo ((l.take n).contains x)) []:=by
 have hM:ClM [bSs 1 l]:=ClM.v (by simp only[List.all_cons,v_sC];rfl)
 refine CallOk.mkN 100 Tryz.func43 rfl en43 (by simp[Tryz.ntmps43]) (ClA.of rfl) rfl rfl fun C hR hP=>?_
 refine vv ?_
 refine CallQ.ren [(1,1)] 120 (indexS l n hn hl x) hM rfl rfl ⟨⟨_,rfl,.inl (renV (v_sC _))⟩,trivial⟩ rfl (.inr rfl) ?_
 refine vv ?_
 refine RetQ.of hR rfl ⟨rfl,trivial⟩ ?_ (Sub.refl _) hM (ClV.of rfl)
 rw[←any_contains,←ixF_any (fun y=>x==y) (l.take n) 0 (by omega)];rfl
theorem reserved_ (s:Str):CallOk Tryz.prog 204 [S s] [] (Bo (resQ s)) []:=by
 have hc:=containsS kindN 21 (by decide) (by decide) s
 have e1:(kindN.take 21).contains s=(kindT.map (·.1)).contains s:=rfl
 rw[e1]at hc
 refine CallOk.mkN 100 Tryz.func204 rfl en204 (by simp[Tryz.ntmps204]) (ClA.of rfl) rfl rfl fun C hR hP=>?_
 refine vv ?_
 refine CallQ.ren [(1,130)] 131 kinds_ ClM.nil rfl rfl trivial rfl (.inl rfl) ?_
 simp only[Mem.ren,List.map_cons,List.map_nil,Bk.ren,List.map_map,V.ren,W.ren,Cv.ren,rn,Nat.reduceBEq,cond_true,cond_false,Function.comp_def]
 refine vv ?_
 cases hk:(kindT.map (·.1)).contains s with
 |true=>
  have e2:resQ s=true:=by rw[resQ,hk];rfl
  rw[hk]at hc
  refine CallQ.ren [(1,130)] 140 hc (ClM.v rfl) rfl rfl ⟨⟨_,rfl,.inr ⟨rfl,[],rfl⟩⟩,trivial⟩ rfl (.inr rfl) ?_
  refine vv ?_
  refine CallQ.guard (xs:=[]) (v:=Bo true) 150 (fun h=>by cases h) (fun h=>by cases h) ?_
  refine vv ?_
  exact RetQ.bool hR rfl ⟨rfl,trivial⟩ e2.symm
 |false=>
  have e2:resQ s=resT.contains s:=by rw[resQ,hk];rfl
  rw[hk]at hc
  refine CallQ.ren [(1,130)] 140 hc (ClM.v rfl) rfl rfl ⟨⟨_,rfl,.inr ⟨rfl,[],rfl⟩⟩,trivial⟩ rfl (.inr rfl) ?_
  refine vv ?_
  refine CallQ.ren [(1,140)] 150 (containsS resT 7 (by decide) (by decide) s) (ClM.v rfl) rfl rfl ⟨⟨_,rfl,.inr ⟨rfl,[],rfl⟩⟩,trivial⟩ rfl (.inr rfl) ?_
  refine vv ?_
  exact RetQ.bool hR rfl ⟨rfl,trivial⟩ e2.symm
theorem runN_all (p:UInt8→Bool)(s:Str):((runN p s 0:Int)==(s.length:Int))=s.all p:=by
 unfold runN
 rw[List.drop_zero,Bool.eq_iff_iff,beq_iff_eq]
 induction s with
 |nil=>simp
 |cons c s ih=>
  rw[List.takeWhile_cons,List.all_cons]
  cases hp:p c with
  |false=>simp;omega
  |true=>simp only[if_true,List.length_cons,Bool.true_and];rw[←ih];omega
theorem name_ok (s:Str)(hs:s.length≤1000000000000000):CallOk Tryz.prog 98 [S s] [] (Bo (nmOk s)) []:=by
 cases s with
 |nil=>
  refine CallOk.mkN 100 Tryz.func98 rfl en98 (by simp[Tryz.ntmps98]) (ClA.of rfl) rfl rfl fun C hR hP=>?_
  refine vv ?_
  refine CallQ.guard (xs:=[]) (v:=Bo true) 150 (fun h=>by cases h) (fun h=>by cases h) ?_
  refine vv ?_
  refine CallQ.guard (xs:=[]) (v:=I 0) 150 (fun h=>by cases h) (fun h=>by cases h) ?_
  refine vv ?_
  refine CallQ.guard (xs:=[]) (v:=Bo true) 150 (fun h=>by cases h) (fun h=>by cases h) ?_
  refine vv ?_
  exact RetQ.bool hR rfl ⟨rfl,trivial⟩ rfl
 |cons c r=>
  have hne:((c::r)==([]:Str))=false:=rfl
  have hlen:decide (((c::r).length:Int)≤24)=decide ((c::r).length≤24):=by rw[decide_eq_decide];omega
  have h0:(0:Int)<((c::r).length:Int):=by simp only[List.length_cons];omega
  have hnm:nmOk (c::r)=(decide ((c::r).length≤24)&&(leB ((c::r).getD 0 0)&&((c::r).all inB&& !resQ (c::r)))):=rfl
  rw[hnm]
  generalize c::r=s at*
  refine CallOk.mkN 100 Tryz.func98 rfl en98 (by simp[Tryz.ntmps98]) (ClA.of rfl) rfl rfl fun C hR hP=>?_
  simp(maxSteps:=2000000) only[go_sem,hlen,hne,bne]
  refine⟨fun h=>⟨h,h0⟩,?_⟩
  have hrn:=runN_all inB s
  cases hl:decide (s.length≤24)with
  |false=>
   rw[hl]at hR
   refine CallQ.guard (xs:=[]) (v:=Bo true) 150 (fun h=>by cases h) (fun h=>by cases h) ?_
   refine vv ?_
   refine CallQ.guard (xs:=[]) (v:=I 0) 150 (fun h=>by cases h) (fun h=>by cases h) ?_
   refine vv ?_
   refine CallQ.guard (xs:=[]) (v:=Bo true) 150 (fun h=>by cases h) (fun h=>by cases h) ?_
   refine vv ?_
   exact RetQ.bool hR rfl ⟨rfl,trivial⟩ rfl
  |true=>
   rw[hl]at hR
   refine CallQ.pure 150 (letter_ (s.getD 0 0)) rfl ?_
   refine vv ?_
   refine CallQ.guard 150 (fun _=>run_ s 0 (by omega) hs 186 inB inner_) (fun h=>by rw[h];rfl) ?_
   simp(maxSteps:=2000000) only[go_sem,hrn]
   refine CallQ.guard 150 (fun _=>reserved_ s) (fun h=>by rw[h];rfl) ?_
   refine vv ?_
   refine RetQ.bool hR rfl ⟨rfl,trivial⟩ ?_
   cases leB (s.getD 0 0)<;>cases s.all inB<;>rfl
end Go.Proofs.YtlnpgbnhcondjaaGreatDoor.Fx
