/-  -/
import Derived.Test.YtlnpgbnhcondjaaGreatDoorPS
import Derived.Test.YtlnpgbnhcondjaaGreatDoorU4
namespace Go.Proofs.YtlnpgbnhcondjaaGreatDoor.Fx
open Vg Tf
set_option linter.unusedSimpArgs false
set_option linter.unusedVariables false
set_option maxRecDepth 100000
set_option maxHeartbeats 4000000
def adr (nm:Nat)(l:List UInt8):Cv:=match l with
 |[]=> .v (.pointer none)
 |_::_=> .p nm 0
@[go_sem] theorem adr_nil (nm:Nat):adr nm []= .v (.pointer none):=rfl
@[go_sem] theorem adr_cons (nm:Nat)(x:UInt8)(l:List UInt8):adr nm (x::l)= .p nm 0:=rfl
@[reducible] def bBd (nm nb:Nat)(l:List UInt8):Nat×Bk:=(nm,⟨false,[adr nm l,.sl nb 0 l.length 1],55⟩)
@[reducible] def bBu (nb:Nat)(l:List UInt8):Nat×Bk:=(nb,⟨false,l.map bycell,5⟩)
theorem v_by (l:List UInt8):(l.map bycell).all Cv.isV=true:=by simp[bycell,Cv.isV]
theorem dep0:Tryz.prog.depth≠0:=by decide+kernel
theorem cellsB:Tryz.prog.cellsOf 55=2:=by kernel_rfl
theorem cellsY:Tryz.prog.cellsOf 5=1:=by kernel_rfl
theorem layB:sameLayout Tryz.prog Tryz.prog.depth 55 55=true:=by kernel_rfl
theorem noEsc (n off:Nat):ExtOk Tryz.prog 190 [.c (.p n off)] (.c (.p n off)):=noEscape Tryz.func190 (by kernel_rfl) (by kernel_rfl) (by kernel_rfl) (by kernel_rfl) n off
theorem clB2 (a:Cv)(ha:a= .v (.pointer none)∨a= .p 1 0)(n:Nat)(l:List UInt8):ClM [(1,⟨false,[a,.sl 2 0 n 1],55⟩),bBu 2 l]:=ClM.of (by
 simp only[List.all_cons,inMV (v_by l)]
 rcases ha with rfl|rfl<;>rfl)
theorem ccFresh (l:List UInt8):CallOk Tryz.prog 68 [.c (.p 1 0)] [(1,⟨false,[.v (.pointer none),.sl 2 0 0 1],55⟩),bBu 2 l] (.tup []) [(1,⟨false,[.p 1 0,.sl 2 0 0 1],55⟩)]:=by
 refine CallOk.mkN 100 Tryz.func68 rfl en68 (by simp[Tryz.ntmps68]) (ClA.of rfl) rfl rfl fun C hR hP=>?_
 refine vv ?_
 refine Sm.opq rfl rfl ⟨[],_,fun _=>Stp.ptrNil rfl rfl rfl pt53,.inl rfl,?_⟩
 refine Sm.go 110 ?_
 refine vv ?_
 refine Sm.opq rfl rfl ⟨[],_,fun _=>Stp.toUns (n:=1) (b:=⟨false,[.v (.pointer none),.sl 2 0 0 1],55⟩) rfl rfl rfl rfl (by simp) pt53 up208 (by rw[sz55];decide),.inl rfl,?_⟩
 refine Sm.go 110 ?_
 refine vv ?_
 refine CallQ.ext 110 (noEsc 1 0) rfl ?_
 refine vv ?_
 refine Sm.opq rfl rfl ⟨[],_,fun _=>Stp.ofUns (n:=1) (b:=⟨false,[.v (.pointer none),.sl 2 0 0 1],55⟩) rfl rfl rfl rfl (by rw[cellsB];decide) up208 pt53 rfl dep0 (by rw[cellsB];decide) layB,.inl rfl,?_⟩
 refine Sm.go 110 ?_
 refine vv ?_
 exact Sm.fall hR (RetQ.ren [(1,1),(2,2)] hR hP rfl trivial rfl rfl ⟨⟨rfl,rfl⟩,⟨rfl,rfl⟩,trivial⟩ ⟨.inr ⟨_,rfl,.inl rfl⟩,.inl (by simp),.inr ⟨_,rfl,.inl (renV (v_by _))⟩,trivial⟩ (ClM.of (by simp only[List.cons_append,List.nil_append,List.all_cons,inMV (v_by l)];rfl)) (ClV.of rfl))
theorem ccUsed (n:Nat)(l:List UInt8):CallOk Tryz.prog 68 [.c (.p 1 0)] [(1,⟨false,[.p 1 0,.sl 2 0 n 1],55⟩),bBu 2 l] (.tup []) []:=by
 refine CallOk.mkN 100 Tryz.func68 rfl en68 (by simp[Tryz.ntmps68]) (ClA.of rfl) rfl rfl fun C hR hP=>?_
 refine vv ?_
 refine Sm.opq rfl rfl ⟨[],_,fun _=>Stp.ptrNil' rfl rfl rfl pt53,.inl rfl,?_⟩
 refine Sm.go 110 ?_
 refine vv ?_
 refine Sm.opq rfl rfl ⟨[],_,fun _=>Stp.ptrSame rfl rfl rfl pt53,.inl rfl,?_⟩
 refine Sm.go 110 ?_
 refine vv ?_
 exact Sm.fall hR (RetQ.of hR rfl trivial rfl (SubS.sub ⟨⟨_,rfl,.inl rfl⟩,⟨_,rfl,.inl rfl⟩,trivial⟩) (clB2 _ (.inr rfl) n l) (ClV.of rfl))
theorem clBd (nm nb:Nat)(l:List UInt8)(h:nm≠nb):ClM [bBd nm nb l,bBu nb l]:=ClM.of (by
 have h1:(nm==nb)=false:=by simpa using h
 simp only[List.all_cons,inMV (v_by l)]
 cases l<;>simp[adr,Cv.inM,Mem.get,h1])
theorem clW (l m:List UInt8):ClM ([bBd 1 3 m,bBu 3 m,(2,dead 5)]++[bBd 1 2 l,bBu 2 l]):=ClM.of (by
 simp only[List.cons_append,List.nil_append,List.all_cons,inMV (v_by l),inMV (v_by m)]
 cases l<;>cases m<;>rfl)
theorem bWS (l t:List UInt8)(ht:t≠[])(hl:l.length≤1000000)(htl:t.length≤1000000):CallOk Tryz.prog 25 [.c (.p 1 0),S t] [bBd 1 2 l,bBu 2 l] (.tup [Wi t.length,.c (.v .nilIface)]) [bBd 1 3 (l++t),bBu 3 (l++t),(2,dead 5)]:=by
 obtain⟨x,t',rfl⟩:∃x t',t=x::t':=by cases t;exact absurd rfl ht;exact⟨_,_,rfl⟩
 refine CallOk.mkN 100 Tryz.func25 rfl en25 (by simp[Tryz.ntmps25]) (ClA.of rfl) rfl rfl fun C hR hP=>?_
 cases l with
 |nil=>
  refine vv ?_
  refine CallQ.ren [(1,1),(2,2)] 110 (ccFresh []) (clB2 _ (.inl rfl) 0 []) rfl rfl ⟨⟨_,rfl,.inl rfl⟩,⟨_,rfl,.inl rfl⟩,trivial⟩ rfl (.inl rfl) ?_
  simp only[Mem.ren,List.map_cons,List.map_nil,Bk.ren,List.map_map,V.ren,W.ren,Cv.ren,rn,Nat.reduceBEq,cond_true,cond_false,Function.comp_def]
  refine vv ?_
  have htl:t'.length+1≤1000000:=htl
  refine⟨⟨by omega,by omega⟩,?_⟩
  exact RetQ.ren [(1,1),(2,2),(3,110)] hR hP rfl (vv trivial) rfl rfl ⟨⟨rfl,rfl⟩,⟨rfl,rfl⟩,trivial⟩ ⟨.inr ⟨_,rfl,.inl rfl⟩,.inr ⟨_,rfl,.inl (renV (v_by (x::t')))⟩,.inr ⟨_,rfl,.inl rfl⟩,.inl (by simp),.inl (by simp),trivial⟩ (clW _ _) (ClV.of rfl)
 |cons y l=>
  refine vv ?_
  refine CallQ.ren [(1,1),(2,2)] 110 (ccUsed (y::l).length (y::l)) (clB2 _ (.inr rfl) _ _) rfl rfl ⟨⟨_,rfl,.inl rfl⟩,⟨_,rfl,.inl (renV (v_by (y::l)))⟩,trivial⟩ rfl (.inl rfl) ?_
  refine vv ?_
  have htl:t'.length+1≤1000000:=htl
  have hl:l.length+1≤1000000:=hl
  have e1:List.take l.length (List.map bycell l)=List.map bycell l:=List.take_of_length_le (by simp)
  have e2:bycell y::(List.map bycell l++bycell x::List.map bycell t')=List.map bycell (y::l++x::t'):=by simp
  have e3:l.length+1+(t'.length+1)=(y::l++x::t').length:=by simp;omega
  simp only[e1,e2,e3]
  refine⟨⟨by simp,by rw[←e3];omega,by rw[←e3];omega⟩,?_⟩
  exact RetQ.ren [(1,1),(2,2),(3,110)] hR hP rfl (vv trivial) rfl rfl ⟨⟨rfl,rfl⟩,⟨rfl,rfl⟩,trivial⟩ ⟨.inr ⟨_,rfl,.inl rfl⟩,.inr ⟨_,rfl,.inl (renV (v_by _))⟩,.inr ⟨_,rfl,.inl rfl⟩,.inl (by simp),.inl (by simp),trivial⟩ (clW _ _) (ClV.of rfl)
theorem bWB (l:List UInt8)(c:UInt8)(hl:l.length≤1000000):CallOk Tryz.prog 263 [.c (.p 1 0),Y c.toNat] [bBd 1 2 l,bBu 2 l] (.c (.v .nilIface)) [bBd 1 3 (l++[c]),bBu 3 (l++[c]),(2,dead 5)]:=by
 refine CallOk.mkN 100 Tryz.func263 rfl en263 (by simp[Tryz.ntmps263]) (ClA.of rfl) rfl rfl fun C hR hP=>?_
 cases l with
 |nil=>
  refine vv ?_
  refine CallQ.ren [(1,1),(2,2)] 110 (ccFresh []) (clB2 _ (.inl rfl) 0 []) rfl rfl ⟨⟨_,rfl,.inl rfl⟩,⟨_,rfl,.inl rfl⟩,trivial⟩ rfl (.inl rfl) ?_
  simp only[Mem.ren,List.map_cons,List.map_nil,Bk.ren,List.map_map,V.ren,W.ren,Cv.ren,rn,Nat.reduceBEq,cond_true,cond_false,Function.comp_def]
  refine vv ?_
  exact RetQ.ren [(1,1),(2,2),(3,111)] hR hP rfl (vv trivial) rfl rfl ⟨⟨rfl,rfl⟩,⟨rfl,rfl⟩,trivial⟩ ⟨.inr ⟨_,rfl,.inl rfl⟩,.inr ⟨_,rfl,.inl (renV (v_by [c]))⟩,.inr ⟨_,rfl,.inl rfl⟩,.inl (by simp),.inl (by simp),trivial⟩ (clW _ _) (ClV.of rfl)
 |cons y l=>
  refine vv ?_
  refine CallQ.ren [(1,1),(2,2)] 110 (ccUsed (y::l).length (y::l)) (clB2 _ (.inr rfl) _ _) rfl rfl ⟨⟨_,rfl,.inl rfl⟩,⟨_,rfl,.inl (renV (v_by (y::l)))⟩,trivial⟩ rfl (.inl rfl) ?_
  refine vv ?_
  have hl:l.length+1≤1000000:=hl
  have e1:List.take l.length (List.map bycell l)=List.map bycell l:=List.take_of_length_le (by simp)
  have e2:bycell y::(List.map bycell l++[Cv.v (.int .u8 (c.toNat:Int))])=List.map bycell (y::l++[c]):=by simp[bycell]
  have e3:l.length+1+1=(y::l++[c]).length:=by simp
  simp only[e1,e2,e3]
  refine⟨⟨by simp,by omega,by omega⟩,?_⟩
  exact RetQ.ren [(1,1),(2,2),(3,111)] hR hP rfl (vv trivial) rfl rfl ⟨⟨rfl,rfl⟩,⟨rfl,rfl⟩,trivial⟩ ⟨.inr ⟨_,rfl,.inl rfl⟩,.inr ⟨_,rfl,.inl (renV (v_by _))⟩,.inr ⟨_,rfl,.inl rfl⟩,.inl (by simp),.inl (by simp),trivial⟩ (clW _ _) (ClV.of rfl)
theorem bLen (l:List UInt8):CallOk Tryz.prog 26 [.c (.p 1 0)] [bBd 1 2 l,bBu 2 l] (I l.length) []:=by
 refine CallOk.mkN 100 Tryz.func26 rfl en26 (by simp[Tryz.ntmps26]) (ClA.of rfl) rfl rfl fun C hR hP=>?_
 cases l with
 |nil=>
  refine vv ?_
  exact RetQ.of hR rfl ⟨rfl,trivial⟩ rfl (SubS.sub ⟨⟨_,rfl,.inl rfl⟩,⟨_,rfl,.inl rfl⟩,trivial⟩) (clBd 1 2 _ (by decide)) (ClV.of rfl)
 |cons y l=>
  refine vv ?_
  exact RetQ.of hR rfl ⟨rfl,trivial⟩ rfl (SubS.sub ⟨⟨_,rfl,.inl rfl⟩,⟨_,rfl,.inl rfl⟩,trivial⟩) (clBd 1 2 _ (by decide)) (ClV.of rfl)
theorem clStr (l:List UInt8):ClM ([(2,dead 5)]++[bBd 1 2 l,bBu 2 l]):=ClM.of (by
 simp only[List.cons_append,List.nil_append,List.all_cons,inMV (v_by l)]
 cases l<;>rfl)
theorem bString (l:List UInt8)(h0:l≠[])(hl:l.length≤1000000):CallOk Tryz.prog 27 [.c (.p 1 0)] [bBd 1 2 l,bBu 2 l] (S l) [(2,dead 5)]:=by
 obtain⟨y,l',rfl⟩:∃y l',l=y::l':=by cases l;exact absurd rfl h0;exact⟨_,_,rfl⟩
 refine CallOk.mkN 100 Tryz.func27 rfl en27 (by simp[Tryz.ntmps27]) (ClA.of rfl) rfl rfl fun C hR hP=>?_
 refine vv ?_
 refine Sm.dg 110 10 mix ?_
 refine vv ?_
 refine DOpQ.own 110 (Stp.sliceData (n:=2) (b:=⟨false,(y::l').map bycell,5⟩) rfl rfl rfl (by decide) (by simp)) ?_
 refine vv ?_
 refine Sm.opq rfl rfl ⟨_,_,fun _=>Stp.unsString 120 (n:=2) (b:=⟨false,(y::l').map bycell,5⟩) (y::l') rfl rfl rfl rfl rfl h0 rfl (by omega) pt130 rfl cellsY rfl,.inl rfl,?_⟩
 refine Sm.go 130 ?_
 refine vv ?_
 exact RetQ.ren [(1,1),(2,2)] hR hP rfl (vv trivial) rfl rfl ⟨⟨rfl,rfl⟩,⟨rfl,rfl⟩,trivial⟩ ⟨.inr ⟨_,rfl,.inl rfl⟩,.inr ⟨_,rfl,.inl rfl⟩,.inl (by simp),trivial⟩ (clStr _) (ClV.of rfl)
end Go.Proofs.YtlnpgbnhcondjaaGreatDoor.Fx
