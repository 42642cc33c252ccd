/-  -/
import Derived.Test.YtlnpgbnhcondjaaGreatDoorPS
import Derived.Test.YtlnpgbnhcondjaaGreatDoorU1
namespace Go.Proofs.YtlnpgbnhcondjaaGreatDoor.Fx
open Vg Tf
set_option linter.unusedSimpArgs false
set_option linter.unusedVariables false
set_option maxRecDepth 100000
set_option maxHeartbeats 4000000
structure Un where
 m:Int
 kg:Int
 s:Int
 a:Int
 k:Int
deriving DecidableEq
@[go_sem] def unL (u:Un):List Cv:=[.v (.int .i64 u.m),.v (.int .i64 u.kg),.v (.int .i64 u.s),.v (.int .i64 u.a),.v (.int .i64 u.k)]
@[reducible] def uu (u:Un):V:= .agg (unL u)
@[reducible] def Wuu (u:Un):W:= .agg (unL u)
def u0:Un:=⟨0,0,0,0,0⟩
def uokU (u:Un):Bool:=uok u.m u.kg u.s u.a u.k
theorem uokU_iff {u:Un}:uokU u=true↔(-9≤u.m∧u.m≤9)∧(-9≤u.kg∧u.kg≤9)∧(-9≤u.s∧u.s≤9)∧(-9≤u.a∧u.a≤9)∧(-9≤u.k∧u.k≤9):=by
 unfold uokU uok;rw[decide_eq_true_eq]
theorem uvalidU (u:Un):CallOk Tryz.prog 206 [uu u] [] (Bo (uokU u)) []:=uvalid u.m u.kg u.s u.a u.k
def uadd (a b:Un)(k:Int):Un:=⟨a.m+k*b.m,a.kg+k*b.kg,a.s+k*b.s,a.a+k*b.a,a.k+k*b.k⟩
def cbE (a b:Un)(k:Int):Int:=bif uokU a&&uokU b then(bif uokU (uadd a b k)then 0 else 2)else 1
def cbV (a b:Un)(k:Int):Un:=bif cbE a b k==0 then uadd a b k else u0
theorem ptrs_cl (n:Nat)(cs:List Cv)(el:TypeId)(h:cs.all Cv.isV=true):ClM [(n,⟨true,cs,el⟩)]:=ClM.of (by simp only[List.all_cons,inMV h];rfl)
theorem one_:CallOk Tryz.prog 260 [] [] (uu u0) []:=by
 refine CallOk.mkN 100 Tryz.func260 rfl en260 (by simp[Tryz.ntmps260]) (ClA.of rfl) rfl rfl fun C hR hP=>?_
 refine vv ?_
 exact RetQ.of hR rfl (vv trivial) rvr (Sub.nil _) ClM.nil (ClV.of rfl)
def derTab:List (List UInt8×Un):=[([72,122],⟨0,0, -1,0,0⟩),([78],⟨1,1, -2,0,0⟩),([80,97],⟨-1,1, -2,0,0⟩),([74],⟨2,1, -2,0,0⟩),([87],⟨2,1, -3,0,0⟩),([67],⟨0,0,1,1,0⟩),([86],⟨2,1, -3, -1,0⟩),([70],⟨-2, -1,4,2,0⟩),([79,104,109],⟨2,1, -3, -2,0⟩),([87,98],⟨2,1, -2, -1,0⟩),([72],⟨2,1, -2, -2,0⟩)]
def rowC (d:List UInt8×Un):List Cv:=cs1 d.1::unL d.2
theorem flat_take {α:Type}(f:α→List Cv)(k:Nat)(hk:∀x,(f x).length=k):∀(l:List α) (i:Nat) (h:i<l.length),((l.flatMap f).drop (i*k)).take k=f l[i]
 |x::l,0,_=>by
  have:=hk x
  simp[List.flatMap_cons,List.take_append,this]
 |x::l,i+1,h=>by
  have h':i<l.length:=by simpa using h
  rw[List.flatMap_cons,show(i+1)*k=(f x).length+i*k by rw[hk,Nat.succ_mul];omega,List.drop_append,List.drop_of_length_le (by omega),List.nil_append,Nat.add_sub_cancel_left,flat_take f k hk l i h']
  rfl
theorem flat_len {α:Type}(f:α→List Cv)(k:Nat)(hk:∀x,(f x).length=k):∀(l:List α),(l.flatMap f).length=l.length*k
 |[]=>by simp
 |x::l=>by rw[List.flatMap_cons,List.length_append,flat_len f k hk l,hk,List.length_cons,Nat.succ_mul];omega
theorem row_len (d:List UInt8×Un):(rowC d).length=6:=rfl
theorem row_take {i:Nat}(h:i<derTab.length):((derTab.flatMap rowC).drop (i*6)).take 6=[cs1 derTab[i].1,.v (.int .i64 derTab[i].2.m),.v (.int .i64 derTab[i].2.kg),.v (.int .i64 derTab[i].2.s),.v (.int .i64 derTab[i].2.a),.v (.int .i64 derTab[i].2.k)]:=flat_take rowC 6 row_len derTab i h
theorem tab_len:(derTab.flatMap rowC).length=66:=rfl
@[reducible] def bTb (nm:Nat):Nat×Bk:=(nm,⟨false,derTab.flatMap rowC,295⟩)
theorem v_tb:(derTab.flatMap rowC).all Cv.isV=true:=rfl
theorem clTb (nm:Nat):ClM [bTb nm]:=ClM.of (by simp only[List.all_cons,inMV v_tb];rfl)
theorem table_:CallOk Tryz.prog 288 [] [] (.c (.sl 1 0 11 6)) [bTb 1]:=by
 refine CallOk.mkN 100 Tryz.func288 rfl en288 (by simp[Tryz.ntmps288]) (ClA.of rfl) rfl rfl fun C hR hP=>?_
 refine vv ?_
 exact RetQ.ren [(1,100)] hR hP rfl (vv trivial) rfl rfl trivial ⟨.inr ⟨_,rfl,.inl rfl⟩,trivial⟩ (clTb 1) (ClV.of rfl)
def namedF (l:List UInt8):List (List UInt8×Un)→Un×Bool
 |[]=>(u0,false)
 |d::r=>bif d.1==l then(d.2,true)else namedF l r
def ueq (a b:Un):Bool:=a.m==b.m&&(a.kg==b.kg&&(a.s==b.s&&(a.a==b.a&&a.k==b.k)))
def nmd (l:List UInt8):Un×Bool:=namedF l derTab
theorem named_ (l:List UInt8):CallOk Tryz.prog 280 [S l] [] (.tup [Wuu (nmd l).1,Wb1 (nmd l).2]) []:=by
 refine CallOk.mkN 100 Tryz.func280 rfl en280 (by simp[Tryz.ntmps280]) (ClA.of rfl) rfl rfl fun C hR hP=>?_
 refine vv ?_
 refine CallQ.ren [(1,130)] 131 table_ ClM.nil rfl rfl trivial rfl (.inl rfl) ?_
 simp only[Mem.ren,List.map_cons,List.map_nil,renV v_tb,V.ren,Cv.ren,rn,Nat.reduceBEq,cond_true]
 refine vv ?_
 refine Sm.loopM (M0:=[]) (α:={i:Nat//i≤11∧nmd l=namedF l (derTab.drop i)}) hP
  (fun i=>[(0,true,S l),(2,true,.c (.p 4 0)),(6,true,.c (.sl 5 0 11 6)),(7,true,I 11),(8,true,I i.val)])
  (fun _=>[(4,⟨false,unL u0,89⟩),bTb 5]) (fun i=>11-i.val) ⟨0,by omega,rfl⟩ (fun _=>ClM.of (by simp only[List.all_cons,inMV v_tb];rfl)) (fun _=>ClE.of rfl) [(4,100),(5,130)] ?_ ?_
 ·exact⟨rfl,trivial,⟨rfl,rfl,rfl,rfl,rfl,trivial⟩,⟨.inr ⟨_,rfl,.inl rfl⟩,.inr ⟨_,rfl,.inl (renV v_tb)⟩,trivial⟩⟩
 ·rintro⟨i,hi,hn⟩ J hb
  simp only at hb hi hn⊢
  refine Sm.go 140 ?_
  refine vv ?_
  refine mtch (fun hc=>?_) (fun hc=>?_)
  ·have hc:i<11:=by simp at hc;omega
   have hd:derTab.drop i=derTab[i]'hc::derTab.drop (i+1):=List.drop_eq_getElem_cons hc
   have htk:=row_take hc
   rw[hd,namedF]at hn
   generalize derTab[i]'hc=d at*
   simp only[htk,tab_len]
   refine⟨⟨by omega,by omega⟩,by omega,?_⟩
   refine vv ?_
   refine mtch (fun hq=>?_) (fun hq=>?_)
   ·rw[hq,cond_true]at hn
    rw[hn]at hR
    exact RetQ.of hR rfl (vv trivial) rvr (Sub.nil _) ClM.nil (ClV.of rfl)
   ·rw[hq,cond_false]at hn
    have w1:IntKind.i64.wrap ((i:Int)+1)=((i+1:Nat):Int):=by rw[w64 (by omega) (by omega)];omega
    simp only[w1]
    exact hb _ _ ⟨i+1,hc,hn⟩ [(4,4),(5,5)] (by simp only;omega) ⟨rfl,trivial,⟨rfl,rfl,rfl,rfl,rfl,trivial⟩,⟨.inr ⟨_,rfl,.inl rfl⟩,.inr ⟨_,rfl,.inl (renV v_tb)⟩,trivial⟩⟩
  ·have hc:i=11:=by simp at hc;omega
   subst hc
   have hn:nmd l=(u0,false):=hn
   rw[hn]at hR
   exact RetQ.of hR rfl (vv trivial) rvr (Sub.nil _) ClM.nil (ClV.of rfl)
end Go.Proofs.YtlnpgbnhcondjaaGreatDoor.Fx
namespace Go.Proofs.YtlnpgbnhcondjaaGreatDoor.Fx
open Vg Tf
set_option linter.unusedSimpArgs false
set_option linter.unusedVariables false
set_option maxRecDepth 100000
set_option maxHeartbeats 4000000
@[reducible] def bL (nm:Nat)(u:Un):Nat×Bk:=(nm,⟨false,unL u,3⟩)
theorem clL (nm:Nat)(u:Un):ClM [bL nm u]:=ClM.of rfl
theorem rList (u:Un):CallOk Tryz.prog 252 [uu u] [] (slV 1 5) [bL 1 u]:=by
 refine CallOk.mkN 100 Tryz.func252 rfl en252 (by simp[Tryz.ntmps252]) (ClA.of rfl) rfl rfl fun C hR hP=>?_
 refine vv ?_
 exact RetQ.ren [(1,101)] hR hP rfl (vv trivial) rfl rfl trivial ⟨.inr ⟨_,rfl,.inl rfl⟩,trivial⟩ (clL 1 u) (ClV.of rfl)
theorem key9:∀(x:Int) (A B:Prop),(¬(-9≤x∧x≤9)→A)→((-9≤x∧x≤9)→B)→(match (bif decide (x< -9)then true else decide (9<x))with|true=>A|false=>B):=by
 intro x A B h1 h2
 by_cases hx: -9≤x∧x≤9
 ·have e1:decide (x< -9)=false:=by simp;omega
  have e2:decide (9<x)=false:=by simp;omega
  rw[e1,e2];exact h2 hx
 ·have:(bif decide (x< -9)then true else decide (9<x))=true:=by
   by_cases h3:x< -9
   ·simp[h3]
   ·simp[h3];omega
  rw[this];exact h1 hx
theorem rValid (u:Un):CallOk Tryz.prog 198 [uu u] [] (Bo (uokU u)) []:=by
 refine CallOk.mkN 100 Tryz.func198 rfl en198 (by simp[Tryz.ntmps198]) (ClA.of rfl) rfl rfl fun C hR hP=>?_
 refine vv ?_
 refine CallQ.ren [(1,130)] 131 (rList u) ClM.nil rfl rfl trivial rfl (.inl rfl) ?_
 refine vv ?_
 refine Sm.unroll 6 (Sm.go 131 ?_)
 refine vv ?_
 refine key9 u.m _ _ (fun h=>RetQ.bool hR rfl ⟨rfl,trivial⟩ (by unfold uokU uok;simp[h])) fun h0=>?_
 refine key9 u.kg _ _ (fun h=>RetQ.bool hR rfl ⟨rfl,trivial⟩ (by unfold uokU uok;simp[h])) fun h1=>?_
 refine key9 u.s _ _ (fun h=>RetQ.bool hR rfl ⟨rfl,trivial⟩ (by unfold uokU uok;simp[h])) fun h2=>?_
 refine key9 u.a _ _ (fun h=>RetQ.bool hR rfl ⟨rfl,trivial⟩ (by unfold uokU uok;simp[h])) fun h3=>?_
 refine key9 u.k _ _ (fun h=>RetQ.bool hR rfl ⟨rfl,trivial⟩ (by unfold uokU uok;simp[h])) fun h4=>?_
 exact RetQ.bool hR rfl ⟨rfl,trivial⟩ (by unfold uokU uok;simp[h0,h1,h2,h3,h4])
end Go.Proofs.YtlnpgbnhcondjaaGreatDoor.Fx
namespace Go.Proofs.YtlnpgbnhcondjaaGreatDoor.Fx
open Vg Tf
set_option linter.unusedSimpArgs false
set_option linter.unusedVariables false
set_option maxRecDepth 100000
set_option maxHeartbeats 4000000
theorem ueq_iff {a b:Un}:ueq a b=true↔a=b:=by
 cases a;cases b
 simp[ueq]
end Go.Proofs.YtlnpgbnhcondjaaGreatDoor.Fx
namespace Go.Proofs.YtlnpgbnhcondjaaGreatDoor.Fx
open Vg Tf
set_option linter.unusedSimpArgs false
set_option linter.unusedVariables false
set_option maxRecDepth 100000
set_option maxHeartbeats 4000000
def adr (nm:Nat)(l:List UInt8):Cv:=match l with
 |[]=> .v (.pointer none)
 |_::_=> .p nm 0
@[go_sem] theorem adr_nil (nm:Nat):adr nm []= .v (.pointer none):=rfl
@[go_sem] theorem adr_cons (nm:Nat)(x:UInt8)(l:List UInt8):adr nm (x::l)= .p nm 0:=rfl
@[reducible] def bBd (nm nb:Nat)(l:List UInt8):Nat×Bk:=(nm,⟨false,[adr nm l,.sl nb 0 l.length 1],55⟩)
@[reducible] def bBu (nb:Nat)(l:List UInt8):Nat×Bk:=(nb,⟨false,l.map bycell,5⟩)
theorem v_by (l:List UInt8):(l.map bycell).all Cv.isV=true:=by simp[bycell,Cv.isV]
theorem dep0:Tryz.prog.depth≠0:=by decide+kernel
theorem cellsB:Tryz.prog.cellsOf 55=2:=by kernel_rfl
theorem cellsY:Tryz.prog.cellsOf 5=1:=by kernel_rfl
theorem layB:sameLayout Tryz.prog Tryz.prog.depth 55 55=true:=by kernel_rfl
theorem noEsc (n off:Nat):ExtOk Tryz.prog 190 [.c (.p n off)] (.c (.p n off)):=noEscape Tryz.func190 (by kernel_rfl) (by kernel_rfl) (by kernel_rfl) (by kernel_rfl) n off
theorem clB2 (a:Cv)(ha:a= .v (.pointer none)∨a= .p 1 0)(n:Nat)(l:List UInt8):ClM [(1,⟨false,[a,.sl 2 0 n 1],55⟩),bBu 2 l]:=ClM.of (by
 simp only[List.all_cons,inMV (v_by l)]
 rcases ha with rfl|rfl<;>rfl)
theorem ccFresh (l:List UInt8):CallOk Tryz.prog 68 [.c (.p 1 0)] [(1,⟨false,[.v (.pointer none),.sl 2 0 0 1],55⟩),bBu 2 l] (.tup []) [(1,⟨false,[.p 1 0,.sl 2 0 0 1],55⟩)]:=by
 refine CallOk.mkN 100 Tryz.func68 rfl en68 (by simp[Tryz.ntmps68]) (ClA.of rfl) rfl rfl fun C hR hP=>?_
 refine vv ?_
 refine Sm.opq rfl rfl ⟨[],_,fun _=>Stp.ptrNil rfl rfl rfl pt53,.inl rfl,?_⟩
 refine Sm.go 110 ?_
 refine vv ?_
 refine Sm.opq rfl rfl ⟨[],_,fun _=>Stp.toUns (n:=1) (b:=⟨false,[.v (.pointer none),.sl 2 0 0 1],55⟩) rfl rfl rfl rfl (by simp) pt53 up208 (by rw[sz55];decide),.inl rfl,?_⟩
 refine Sm.go 110 ?_
 refine vv ?_
 refine CallQ.ext 110 (noEsc 1 0) rfl ?_
 refine vv ?_
 refine Sm.opq rfl rfl ⟨[],_,fun _=>Stp.ofUns (n:=1) (b:=⟨false,[.v (.pointer none),.sl 2 0 0 1],55⟩) rfl rfl rfl rfl (by rw[cellsB];decide) up208 pt53 rfl dep0 (by rw[cellsB];decide) layB,.inl rfl,?_⟩
 refine Sm.go 110 ?_
 refine vv ?_
 exact Sm.fall hR (RetQ.ren [(1,1),(2,2)] hR hP rfl trivial rfl rfl ⟨⟨rfl,rfl⟩,⟨rfl,rfl⟩,trivial⟩ ⟨.inr ⟨_,rfl,.inl rfl⟩,.inl (by simp),.inr ⟨_,rfl,.inl (renV (v_by _))⟩,trivial⟩ (ClM.of (by simp only[List.cons_append,List.nil_append,List.all_cons,inMV (v_by l)];rfl)) (ClV.of rfl))
theorem ccUsed (n:Nat)(l:List UInt8):CallOk Tryz.prog 68 [.c (.p 1 0)] [(1,⟨false,[.p 1 0,.sl 2 0 n 1],55⟩),bBu 2 l] (.tup []) []:=by
 refine CallOk.mkN 100 Tryz.func68 rfl en68 (by simp[Tryz.ntmps68]) (ClA.of rfl) rfl rfl fun C hR hP=>?_
 refine vv ?_
 refine Sm.opq rfl rfl ⟨[],_,fun _=>Stp.ptrNil' rfl rfl rfl pt53,.inl rfl,?_⟩
 refine Sm.go 110 ?_
 refine vv ?_
 refine Sm.opq rfl rfl ⟨[],_,fun _=>Stp.ptrSame rfl rfl rfl pt53,.inl rfl,?_⟩
 refine Sm.go 110 ?_
 refine vv ?_
 exact Sm.fall hR (RetQ.of hR rfl trivial rfl (SubS.sub ⟨⟨_,rfl,.inl rfl⟩,⟨_,rfl,.inl rfl⟩,trivial⟩) (clB2 _ (.inr rfl) n l) (ClV.of rfl))
theorem clBd (nm nb:Nat)(l:List UInt8)(h:nm≠nb):ClM [bBd nm nb l,bBu nb l]:=ClM.of (by
 have h1:(nm==nb)=false:=by simpa using h
 simp only[List.all_cons,inMV (v_by l)]
 cases l<;>simp[adr,Cv.inM,Mem.get,h1])
theorem clW (l m:List UInt8):ClM ([bBd 1 3 m,bBu 3 m,(2,dead 5)]++[bBd 1 2 l,bBu 2 l]):=ClM.of (by
 simp only[List.cons_append,List.nil_append,List.all_cons,inMV (v_by l),inMV (v_by m)]
 cases l<;>cases m<;>rfl)
theorem bWS (l t:List UInt8)(ht:t≠[])(hl:l.length≤1000000)(htl:t.length≤1000000):CallOk Tryz.prog 25 [.c (.p 1 0),S t] [bBd 1 2 l,bBu 2 l] (.tup [Wi t.length,.c (.v .nilIface)]) [bBd 1 3 (l++t),bBu 3 (l++t),(2,dead 5)]:=by
 obtain⟨x,t',rfl⟩:∃x t',t=x::t':=by cases t;exact absurd rfl ht;exact⟨_,_,rfl⟩
 refine CallOk.mkN 100 Tryz.func25 rfl en25 (by simp[Tryz.ntmps25]) (ClA.of rfl) rfl rfl fun C hR hP=>?_
 cases l with
 |nil=>
  refine vv ?_
  refine CallQ.ren [(1,1),(2,2)] 110 (ccFresh []) (clB2 _ (.inl rfl) 0 []) rfl rfl ⟨⟨_,rfl,.inl rfl⟩,⟨_,rfl,.inl rfl⟩,trivial⟩ rfl (.inl rfl) ?_
  simp only[Mem.ren,List.map_cons,List.map_nil,Bk.ren,List.map_map,V.ren,W.ren,Cv.ren,rn,Nat.reduceBEq,cond_true,cond_false,Function.comp_def]
  refine vv ?_
  have htl:t'.length+1≤1000000:=htl
  refine⟨⟨by omega,by omega⟩,?_⟩
  exact RetQ.ren [(1,1),(2,2),(3,110)] hR hP rfl (vv trivial) rfl rfl ⟨⟨rfl,rfl⟩,⟨rfl,rfl⟩,trivial⟩ ⟨.inr ⟨_,rfl,.inl rfl⟩,.inr ⟨_,rfl,.inl (renV (v_by (x::t')))⟩,.inr ⟨_,rfl,.inl rfl⟩,.inl (by simp),.inl (by simp),trivial⟩ (clW _ _) (ClV.of rfl)
 |cons y l=>
  refine vv ?_
  refine CallQ.ren [(1,1),(2,2)] 110 (ccUsed (y::l).length (y::l)) (clB2 _ (.inr rfl) _ _) rfl rfl ⟨⟨_,rfl,.inl rfl⟩,⟨_,rfl,.inl (renV (v_by (y::l)))⟩,trivial⟩ rfl (.inl rfl) ?_
  refine vv ?_
  have htl:t'.length+1≤1000000:=htl
  have hl:l.length+1≤1000000:=hl
  have e1:List.take l.length (List.map bycell l)=List.map bycell l:=List.take_of_length_le (by simp)
  have e2:bycell y::(List.map bycell l++bycell x::List.map bycell t')=List.map bycell (y::l++x::t'):=by simp
  have e3:l.length+1+(t'.length+1)=(y::l++x::t').length:=by simp;omega
  simp only[e1,e2,e3]
  refine⟨⟨by simp,by rw[←e3];omega,by rw[←e3];omega⟩,?_⟩
  exact RetQ.ren [(1,1),(2,2),(3,110)] hR hP rfl (vv trivial) rfl rfl ⟨⟨rfl,rfl⟩,⟨rfl,rfl⟩,trivial⟩ ⟨.inr ⟨_,rfl,.inl rfl⟩,.inr ⟨_,rfl,.inl (renV (v_by _))⟩,.inr ⟨_,rfl,.inl rfl⟩,.inl (by simp),.inl (by simp),trivial⟩ (clW _ _) (ClV.of rfl)
theorem bWB (l:List UInt8)(c:UInt8)(hl:l.length≤1000000):CallOk Tryz.prog 263 [.c (.p 1 0),Y c.toNat] [bBd 1 2 l,bBu 2 l] (.c (.v .nilIface)) [bBd 1 3 (l++[c]),bBu 3 (l++[c]),(2,dead 5)]:=by
 refine CallOk.mkN 100 Tryz.func263 rfl en263 (by simp[Tryz.ntmps263]) (ClA.of rfl) rfl rfl fun C hR hP=>?_
 cases l with
 |nil=>
  refine vv ?_
  refine CallQ.ren [(1,1),(2,2)] 110 (ccFresh []) (clB2 _ (.inl rfl) 0 []) rfl rfl ⟨⟨_,rfl,.inl rfl⟩,⟨_,rfl,.inl rfl⟩,trivial⟩ rfl (.inl rfl) ?_
  simp only[Mem.ren,List.map_cons,List.map_nil,Bk.ren,List.map_map,V.ren,W.ren,Cv.ren,rn,Nat.reduceBEq,cond_true,cond_false,Function.comp_def]
  refine vv ?_
  exact RetQ.ren [(1,1),(2,2),(3,111)] hR hP rfl (vv trivial) rfl rfl ⟨⟨rfl,rfl⟩,⟨rfl,rfl⟩,trivial⟩ ⟨.inr ⟨_,rfl,.inl rfl⟩,.inr ⟨_,rfl,.inl (renV (v_by [c]))⟩,.inr ⟨_,rfl,.inl rfl⟩,.inl (by simp),.inl (by simp),trivial⟩ (clW _ _) (ClV.of rfl)
 |cons y l=>
  refine vv ?_
  refine CallQ.ren [(1,1),(2,2)] 110 (ccUsed (y::l).length (y::l)) (clB2 _ (.inr rfl) _ _) rfl rfl ⟨⟨_,rfl,.inl rfl⟩,⟨_,rfl,.inl (renV (v_by (y::l)))⟩,trivial⟩ rfl (.inl rfl) ?_
  refine vv ?_
  have hl:l.length+1≤1000000:=hl
  have e1:List.take l.length (List.map bycell l)=List.map bycell l:=List.take_of_length_le (by simp)
  have e2:bycell y::(List.map bycell l++[Cv.v (.int .u8 (c.toNat:Int))])=List.map bycell (y::l++[c]):=by simp[bycell]
  have e3:l.length+1+1=(y::l++[c]).length:=by simp
  simp only[e1,e2,e3]
  refine⟨⟨by simp,by omega,by omega⟩,?_⟩
  exact RetQ.ren [(1,1),(2,2),(3,111)] hR hP rfl (vv trivial) rfl rfl ⟨⟨rfl,rfl⟩,⟨rfl,rfl⟩,trivial⟩ ⟨.inr ⟨_,rfl,.inl rfl⟩,.inr ⟨_,rfl,.inl (renV (v_by _))⟩,.inr ⟨_,rfl,.inl rfl⟩,.inl (by simp),.inl (by simp),trivial⟩ (clW _ _) (ClV.of rfl)
theorem bLen (l:List UInt8):CallOk Tryz.prog 26 [.c (.p 1 0)] [bBd 1 2 l,bBu 2 l] (I l.length) []:=by
 refine CallOk.mkN 100 Tryz.func26 rfl en26 (by simp[Tryz.ntmps26]) (ClA.of rfl) rfl rfl fun C hR hP=>?_
 cases l with
 |nil=>
  refine vv ?_
  exact RetQ.of hR rfl ⟨rfl,trivial⟩ rfl (SubS.sub ⟨⟨_,rfl,.inl rfl⟩,⟨_,rfl,.inl rfl⟩,trivial⟩) (clBd 1 2 _ (by decide)) (ClV.of rfl)
 |cons y l=>
  refine vv ?_
  exact RetQ.of hR rfl ⟨rfl,trivial⟩ rfl (SubS.sub ⟨⟨_,rfl,.inl rfl⟩,⟨_,rfl,.inl rfl⟩,trivial⟩) (clBd 1 2 _ (by decide)) (ClV.of rfl)
theorem clStr (l:List UInt8):ClM ([(2,dead 5)]++[bBd 1 2 l,bBu 2 l]):=ClM.of (by
 simp only[List.cons_append,List.nil_append,List.all_cons,inMV (v_by l)]
 cases l<;>rfl)
theorem bString (l:List UInt8)(h0:l≠[])(hl:l.length≤1000000):CallOk Tryz.prog 27 [.c (.p 1 0)] [bBd 1 2 l,bBu 2 l] (S l) [(2,dead 5)]:=by
 obtain⟨y,l',rfl⟩:∃y l',l=y::l':=by cases l;exact absurd rfl h0;exact⟨_,_,rfl⟩
 refine CallOk.mkN 100 Tryz.func27 rfl en27 (by simp[Tryz.ntmps27]) (ClA.of rfl) rfl rfl fun C hR hP=>?_
 refine vv ?_
 refine Sm.dg 110 10 mix ?_
 refine vv ?_
 refine DOpQ.own 110 (Stp.sliceData (n:=2) (b:=⟨false,(y::l').map bycell,5⟩) rfl rfl rfl (by decide) (by simp)) ?_
 refine vv ?_
 refine Sm.opq rfl rfl ⟨_,_,fun _=>Stp.unsString 120 (n:=2) (b:=⟨false,(y::l').map bycell,5⟩) (y::l') rfl rfl rfl rfl rfl h0 rfl (by omega) pt130 rfl cellsY rfl,.inl rfl,?_⟩
 refine Sm.go 130 ?_
 refine vv ?_
 exact RetQ.ren [(1,1),(2,2)] hR hP rfl (vv trivial) rfl rfl ⟨⟨rfl,rfl⟩,⟨rfl,rfl⟩,trivial⟩ ⟨.inr ⟨_,rfl,.inl rfl⟩,.inr ⟨_,rfl,.inl rfl⟩,.inl (by simp),trivial⟩ (clStr _) (ClV.of rfl)
end Go.Proofs.YtlnpgbnhcondjaaGreatDoor.Fx
