/-  -/
import Derived.Test.YtlnpgbnhcondjaaGreatDoorTf
import Derived.Test.YtlnpgbnhcondjaaGreatDoorU1
namespace Go.Proofs.YtlnpgbnhcondjaaGreatDoor.Fx
open Vg Tf
set_option linter.unusedSimpArgs false
set_option linter.unusedVariables false
set_option maxRecDepth 100000
set_option maxHeartbeats 4000000
structure Un where
 m:Int
 kg:Int
 s:Int
 a:Int
 k:Int
deriving DecidableEq
@[go_sem] def unL (u:Un):List Cv:=[.v (.int .i64 u.m),.v (.int .i64 u.kg),.v (.int .i64 u.s),.v (.int .i64 u.a),.v (.int .i64 u.k)]
@[reducible] def uu (u:Un):V:= .agg (unL u)
@[reducible] def Wuu (u:Un):W:= .agg (unL u)
def u0:Un:=⟨0,0,0,0,0⟩
def uokU (u:Un):Bool:=uok u.m u.kg u.s u.a u.k
theorem uokU_iff {u:Un}:uokU u=true↔(-9≤u.m∧u.m≤9)∧(-9≤u.kg∧u.kg≤9)∧(-9≤u.s∧u.s≤9)∧(-9≤u.a∧u.a≤9)∧(-9≤u.k∧u.k≤9):=by
 unfold uokU uok;rw[decide_eq_true_eq]
theorem uvalidU (u:Un):CallOk Tryz.prog 206 [uu u] [] (Bo (uokU u)) []:=uvalid u.m u.kg u.s u.a u.k
theorem ptrs_cl (n:Nat)(cs:List Cv)(el:TypeId)(h:cs.all Cv.isV=true):ClM [(n,⟨true,cs,el⟩)]:=ClM.of (by simp only[List.all_cons,inMV h];rfl)
theorem one_:CallOk Tryz.prog 260 [] [] (uu u0) []:=by
 refine CallOk.mkN 100 Tryz.func260 rfl en260 (by simp[Tryz.ntmps260]) (ClA.of rfl) rfl rfl fun C hR hP=>?_
 refine vv ?_
 exact RetQ.of hR rfl (vv trivial) rvr (Sub.nil _) ClM.nil (ClV.of rfl)
def derTab:List (List UInt8×Un):=[([72,122],⟨0,0, -1,0,0⟩),([78],⟨1,1, -2,0,0⟩),([80,97],⟨-1,1, -2,0,0⟩),([74],⟨2,1, -2,0,0⟩),([87],⟨2,1, -3,0,0⟩),([67],⟨0,0,1,1,0⟩),([86],⟨2,1, -3, -1,0⟩),([70],⟨-2, -1,4,2,0⟩),([79,104,109],⟨2,1, -3, -2,0⟩),([87,98],⟨2,1, -2, -1,0⟩),([72],⟨2,1, -2, -2,0⟩)]
def rowC (d:List UInt8×Un):List Cv:=cs1 d.1::unL d.2
theorem flat_take {α:Type}(f:α→List Cv)(k:Nat)(hk:∀x,(f x).length=k):∀(l:List α) (i:Nat) (h:i<l.length),((l.flatMap f).drop (i*k)).take k=f l[i]
 |x::l,0,_=>by
  have:=hk x
  simp[List.flatMap_cons,List.take_append,this]
 |x::l,i+1,h=>by
  have h':i<l.length:=by simpa using h
  rw[List.flatMap_cons,show(i+1)*k=(f x).length+i*k by rw[hk,Nat.succ_mul];omega,List.drop_append,List.drop_of_length_le (by omega),List.nil_append,Nat.add_sub_cancel_left,flat_take f k hk l i h']
  rfl
theorem row_len (d:List UInt8×Un):(rowC d).length=6:=rfl
theorem row_take {i:Nat}(h:i<derTab.length):((derTab.flatMap rowC).drop (i*6)).take 6=[cs1 derTab[i].1,.v (.int .i64 derTab[i].2.m),.v (.int .i64 derTab[i].2.kg),.v (.int .i64 derTab[i].2.s),.v (.int .i64 derTab[i].2.a),.v (.int .i64 derTab[i].2.k)]:=flat_take rowC 6 row_len derTab i h
theorem tab_len:(derTab.flatMap rowC).length=66:=rfl
@[reducible] def bTb (nm:Nat):Nat×Bk:=(nm,⟨false,derTab.flatMap rowC,295⟩)
theorem v_tb:(derTab.flatMap rowC).all Cv.isV=true:=rfl
theorem clTb (nm:Nat):ClM [bTb nm]:=ClM.of (by simp only[List.all_cons,inMV v_tb];rfl)
theorem table_:CallOk Tryz.prog 288 [] [] (.c (.sl 1 0 11 6)) [bTb 1]:=by
 refine CallOk.mkN 100 Tryz.func288 rfl en288 (by simp[Tryz.ntmps288]) (ClA.of rfl) rfl rfl fun C hR hP=>?_
 refine vv ?_
 exact RetQ.ren [(1,100)] hR hP rfl (vv trivial) rfl rfl trivial ⟨oR,trivial⟩ (clTb 1) (ClV.of rfl)
def namedF (l:List UInt8):List (List UInt8×Un)→Un×Bool
 |[]=>(u0,false)
 |d::r=>bif d.1==l then(d.2,true)else namedF l r
def ueq (a b:Un):Bool:=a.m==b.m&&(a.kg==b.kg&&(a.s==b.s&&(a.a==b.a&&a.k==b.k)))
def nmd (l:List UInt8):Un×Bool:=namedF l derTab
theorem named_ (l:List UInt8):CallOk Tryz.prog 280 [S l] [] (.tup [Wuu (nmd l).1,Wb1 (nmd l).2]) []:=by
 refine CallOk.mkN 100 Tryz.func280 rfl en280 (by simp[Tryz.ntmps280]) (ClA.of rfl) rfl rfl fun C hR hP=>?_
 refine vv ?_
 refine CallQ.ren [(1,130)] 131 table_ ClM.nil rfl rfl trivial rfl (.inl rfl) ?_
 simp only[Mem.ren,List.map_cons,List.map_nil,renV v_tb,V.ren,Cv.ren,rn,Nat.reduceBEq,cond_true]
 refine vv ?_
 refine Sm.loopM (M0:=[]) (α:={i:Nat//i≤11∧nmd l=namedF l (derTab.drop i)}) hP
  (fun i=>[(0,true,S l),(2,true,.c (.p 4 0)),(6,true,.c (.sl 5 0 11 6)),(7,true,I 11),(8,true,I i.val)])
  (fun _=>[(4,⟨false,unL u0,89⟩),bTb 5]) (fun i=>11-i.val) ⟨0,by omega,rfl⟩ (fun _=>ClM.of (by simp only[List.all_cons,inMV v_tb];rfl)) (fun _=>ClE.of rfl) [(4,100),(5,130)] ?_ ?_
 ·exact⟨rfl,trivial,⟨rfl,rfl,rfl,rfl,rfl,trivial⟩,⟨oR,oV (renV v_tb),trivial⟩⟩
 ·rintro⟨i,hi,hn⟩ J hb
  simp only at hb hi hn⊢
  refine Sm.go 140 ?_
  refine vv ?_
  refine mtch (fun hc=>?_) (fun hc=>?_)
  ·have hc:i<11:=by simp at hc;omega
   have hd:derTab.drop i=derTab[i]'hc::derTab.drop (i+1):=List.drop_eq_getElem_cons hc
   have htk:=row_take hc
   rw[hd,namedF]at hn
   generalize derTab[i]'hc=d at*
   simp only[htk,tab_len]
   refine⟨⟨by omega,by omega⟩,by omega,?_⟩
   refine vv ?_
   refine mtch (fun hq=>?_) (fun hq=>?_)
   ·rw[hq,cond_true]at hn
    rw[hn]at hR
    exact RetQ.of hR rfl (vv trivial) rvr (Sub.nil _) ClM.nil (ClV.of rfl)
   ·rw[hq,cond_false]at hn
    have w1:IntKind.i64.wrap ((i:Int)+1)=((i+1:Nat):Int):=by rw[w64 (by omega) (by omega)];omega
    simp only[w1]
    exact hb _ _ ⟨i+1,hc,hn⟩ [(4,4),(5,5)] (by simp only;omega) ⟨rfl,trivial,⟨rfl,rfl,rfl,rfl,rfl,trivial⟩,⟨oR,oV (renV v_tb),trivial⟩⟩
  ·have hc:i=11:=by simp at hc;omega
   subst hc
   have hn:nmd l=(u0,false):=hn
   rw[hn]at hR
   exact RetQ.of hR rfl (vv trivial) rvr (Sub.nil _) ClM.nil (ClV.of rfl)
theorem ueq_iff {a b:Un}:ueq a b=true↔a=b:=by
 cases a;cases b
 simp[ueq]
def adr (nm:Nat)(l:List UInt8):Cv:=match l with
 |[]=> .v (.pointer none)
 |_::_=> .p nm 0
@[go_sem] theorem adr_nil (nm:Nat):adr nm []= .v (.pointer none):=rfl
@[go_sem] theorem adr_cons (nm:Nat)(x:UInt8)(l:List UInt8):adr nm (x::l)= .p nm 0:=rfl
@[reducible] def bBd (nm nb:Nat)(l:List UInt8):Nat×Bk:=(nm,⟨false,[adr nm l,.sl nb 0 l.length 1],55⟩)
@[reducible] def bBu (nb:Nat)(l:List UInt8):Nat×Bk:=(nb,⟨false,l.map bycell,5⟩)
theorem v_by (l:List UInt8):(l.map bycell).all Cv.isV=true:=by simp[bycell,Cv.isV]
theorem dep0:Tryz.prog.depth≠0:=by decide+kernel
theorem cellsB:Tryz.prog.cellsOf 55=2:=by kernel_rfl
theorem cellsY:Tryz.prog.cellsOf 5=1:=by kernel_rfl
theorem layB:sameLayout Tryz.prog Tryz.prog.depth 55 55=true:=by kernel_rfl
theorem noEsc (n off:Nat):ExtOk Tryz.prog 190 [.c (.p n off)] (.c (.p n off)):=noEscape Tryz.func190 (by kernel_rfl) (by kernel_rfl) (by kernel_rfl) (by kernel_rfl) n off
theorem clB2 (a:Cv)(ha:a= .v (.pointer none)∨a= .p 1 0)(n:Nat)(l:List UInt8):ClM [(1,⟨false,[a,.sl 2 0 n 1],55⟩),bBu 2 l]:=ClM.of (by
 simp only[List.all_cons,inMV (v_by l)]
 rcases ha with rfl|rfl<;>rfl)
theorem ccFresh (l:List UInt8):CallOk Tryz.prog 68 [.c (.p 1 0)] [(1,⟨false,[.v (.pointer none),.sl 2 0 0 1],55⟩),bBu 2 l] (.tup []) [(1,⟨false,[.p 1 0,.sl 2 0 0 1],55⟩)]:=by
 refine CallOk.mkN 100 Tryz.func68 rfl en68 (by simp[Tryz.ntmps68]) (ClA.of rfl) rfl rfl fun C hR hP=>?_
 refine vv ?_
 refine Sm.opq rfl rfl ⟨[],_,fun _=>Stp.ptrNil rfl rfl rfl pt53,.inl rfl,?_⟩
 refine Sm.go 110 ?_
 refine vv ?_
 refine Sm.opq rfl rfl ⟨[],_,fun _=>Stp.toUns (n:=1) (b:=⟨false,[.v (.pointer none),.sl 2 0 0 1],55⟩) rfl rfl rfl rfl (by simp) pt53 up208 (by rw[sz55];decide),.inl rfl,?_⟩
 refine Sm.go 110 ?_
 refine vv ?_
 refine CallQ.ext 110 (noEsc 1 0) rfl ?_
 refine vv ?_
 refine Sm.opq rfl rfl ⟨[],_,fun _=>Stp.ofUns (n:=1) (b:=⟨false,[.v (.pointer none),.sl 2 0 0 1],55⟩) rfl rfl rfl rfl (by rw[cellsB];decide) up208 pt53 rfl dep0 (by rw[cellsB];decide) layB,.inl rfl,?_⟩
 refine Sm.go 110 ?_
 refine vv ?_
 exact Sm.fall hR (RetQ.ren [(1,1),(2,2)] hR hP rfl trivial rfl rfl ⟨⟨rfl,rfl⟩,⟨rfl,rfl⟩,trivial⟩ ⟨oR,oL,oV (renV (v_by _)),trivial⟩ (ClM.of (by simp only[List.cons_append,List.nil_append,List.all_cons,inMV (v_by l)];rfl)) (ClV.of rfl))
theorem ccUsed (n:Nat)(l:List UInt8):CallOk Tryz.prog 68 [.c (.p 1 0)] [(1,⟨false,[.p 1 0,.sl 2 0 n 1],55⟩),bBu 2 l] (.tup []) []:=by
 refine CallOk.mkN 100 Tryz.func68 rfl en68 (by simp[Tryz.ntmps68]) (ClA.of rfl) rfl rfl fun C hR hP=>?_
 refine vv ?_
 refine Sm.opq rfl rfl ⟨[],_,fun _=>Stp.ptrNil' rfl rfl rfl pt53,.inl rfl,?_⟩
 refine Sm.go 110 ?_
 refine vv ?_
 refine Sm.opq rfl rfl ⟨[],_,fun _=>Stp.ptrSame rfl rfl rfl pt53,.inl rfl,?_⟩
 refine Sm.go 110 ?_
 refine vv ?_
 exact Sm.fall hR (RetQ.of hR rfl trivial rfl (SubS.sub ⟨oS,oS,trivial⟩) (clB2 _ (.inr rfl) n l) (ClV.of rfl))
theorem clBd (nm nb:Nat)(l:List UInt8)(h:nm≠nb):ClM [bBd nm nb l,bBu nb l]:=ClM.of (by
 have h1:(nm==nb)=false:=by simpa using h
 simp only[List.all_cons,inMV (v_by l)]
 cases l<;>simp[adr,Cv.inM,Mem.get,h1])
theorem clW (l m:List UInt8):ClM ([bBd 1 3 m,bBu 3 m,(2,dead 5)]++[bBd 1 2 l,bBu 2 l]):=ClM.of (by
 simp only[List.cons_append,List.nil_append,List.all_cons,inMV (v_by l),inMV (v_by m)]
 cases l<;>cases m<;>rfl)
theorem bWS (l t:List UInt8)(ht:t≠[])(hl:l.length≤1000000)(htl:t.length≤1000000):CallOk Tryz.prog 25 [.c (.p 1 0),S t] [bBd 1 2 l,bBu 2 l] (.tup [Wi t.length,.c (.v .nilIface)]) [bBd 1 3 (l++t),bBu 3 (l++t),(2,dead 5)]:=by
 obtain⟨x,t',rfl⟩:∃x t',t=x::t':=by cases t;exact absurd rfl ht;exact⟨_,_,rfl⟩
 refine CallOk.mkN 100 Tryz.func25 rfl en25 (by simp[Tryz.ntmps25]) (ClA.of rfl) rfl rfl fun C hR hP=>?_
 cases l with
 |nil=>
  refine vv ?_
  refine CallQ.ren [(1,1),(2,2)] 110 (ccFresh []) (clB2 _ (.inl rfl) 0 []) rfl rfl ⟨oS,oS,trivial⟩ rfl (.inl rfl) ?_
  simp only[Mem.ren,List.map_cons,List.map_nil,Bk.ren,List.map_map,V.ren,W.ren,Cv.ren,rn,Nat.reduceBEq,cond_true,cond_false,Function.comp_def]
  refine vv ?_
  have htl:t'.length+1≤1000000:=htl
  refine⟨⟨by omega,by omega⟩,?_⟩
  exact RetQ.ren [(1,1),(2,2),(3,110)] hR hP rfl (vv trivial) rfl rfl ⟨⟨rfl,rfl⟩,⟨rfl,rfl⟩,trivial⟩ ⟨oR,oV (renV (v_by (x::t'))),oR,oL,oL,trivial⟩ (clW _ _) (ClV.of rfl)
 |cons y l=>
  refine vv ?_
  refine CallQ.ren [(1,1),(2,2)] 110 (ccUsed (y::l).length (y::l)) (clB2 _ (.inr rfl) _ _) rfl rfl ⟨oS,oW (renV (v_by (y::l))),trivial⟩ rfl (.inl rfl) ?_
  refine vv ?_
  have htl:t'.length+1≤1000000:=htl
  have hl:l.length+1≤1000000:=hl
  have e1:List.take l.length (List.map bycell l)=List.map bycell l:=List.take_of_length_le (by simp)
  have e2:bycell y::(List.map bycell l++bycell x::List.map bycell t')=List.map bycell (y::l++x::t'):=by simp
  have e3:l.length+1+(t'.length+1)=(y::l++x::t').length:=by simp;omega
  simp only[e1,e2,e3]
  refine⟨⟨by simp,by rw[←e3];omega,by rw[←e3];omega⟩,?_⟩
  exact RetQ.ren [(1,1),(2,2),(3,110)] hR hP rfl (vv trivial) rfl rfl ⟨⟨rfl,rfl⟩,⟨rfl,rfl⟩,trivial⟩ ⟨oR,oV (renV (v_by _)),oR,oL,oL,trivial⟩ (clW _ _) (ClV.of rfl)
theorem bWB (l:List UInt8)(c:UInt8)(hl:l.length≤1000000):CallOk Tryz.prog 263 [.c (.p 1 0),Y c.toNat] [bBd 1 2 l,bBu 2 l] (.c (.v .nilIface)) [bBd 1 3 (l++[c]),bBu 3 (l++[c]),(2,dead 5)]:=by
 refine CallOk.mkN 100 Tryz.func263 rfl en263 (by simp[Tryz.ntmps263]) (ClA.of rfl) rfl rfl fun C hR hP=>?_
 cases l with
 |nil=>
  refine vv ?_
  refine CallQ.ren [(1,1),(2,2)] 110 (ccFresh []) (clB2 _ (.inl rfl) 0 []) rfl rfl ⟨oS,oS,trivial⟩ rfl (.inl rfl) ?_
  simp only[Mem.ren,List.map_cons,List.map_nil,Bk.ren,List.map_map,V.ren,W.ren,Cv.ren,rn,Nat.reduceBEq,cond_true,cond_false,Function.comp_def]
  refine vv ?_
  exact RetQ.ren [(1,1),(2,2),(3,111)] hR hP rfl (vv trivial) rfl rfl ⟨⟨rfl,rfl⟩,⟨rfl,rfl⟩,trivial⟩ ⟨oR,oV (renV (v_by [c])),oR,oL,oL,trivial⟩ (clW _ _) (ClV.of rfl)
 |cons y l=>
  refine vv ?_
  refine CallQ.ren [(1,1),(2,2)] 110 (ccUsed (y::l).length (y::l)) (clB2 _ (.inr rfl) _ _) rfl rfl ⟨oS,oW (renV (v_by (y::l))),trivial⟩ rfl (.inl rfl) ?_
  refine vv ?_
  have hl:l.length+1≤1000000:=hl
  have e1:List.take l.length (List.map bycell l)=List.map bycell l:=List.take_of_length_le (by simp)
  have e2:bycell y::(List.map bycell l++[Cv.v (.int .u8 (c.toNat:Int))])=List.map bycell (y::l++[c]):=by simp[bycell]
  have e3:l.length+1+1=(y::l++[c]).length:=by simp
  simp only[e1,e2,e3]
  refine⟨⟨by simp,by omega,by omega⟩,?_⟩
  exact RetQ.ren [(1,1),(2,2),(3,111)] hR hP rfl (vv trivial) rfl rfl ⟨⟨rfl,rfl⟩,⟨rfl,rfl⟩,trivial⟩ ⟨oR,oV (renV (v_by _)),oR,oL,oL,trivial⟩ (clW _ _) (ClV.of rfl)
theorem bLen (l:List UInt8):CallOk Tryz.prog 26 [.c (.p 1 0)] [bBd 1 2 l,bBu 2 l] (I l.length) []:=by
 refine CallOk.mkN 100 Tryz.func26 rfl en26 (by simp[Tryz.ntmps26]) (ClA.of rfl) rfl rfl fun C hR hP=>?_
 cases l with
 |nil=>
  refine vv ?_
  exact RetQ.of hR rfl ⟨rfl,trivial⟩ rfl (SubS.sub ⟨oS,oS,trivial⟩) (clBd 1 2 _ (by decide)) (ClV.of rfl)
 |cons y l=>
  refine vv ?_
  exact RetQ.of hR rfl ⟨rfl,trivial⟩ rfl (SubS.sub ⟨oS,oS,trivial⟩) (clBd 1 2 _ (by decide)) (ClV.of rfl)
theorem clStr (l:List UInt8):ClM ([(2,dead 5)]++[bBd 1 2 l,bBu 2 l]):=ClM.of (by
 simp only[List.cons_append,List.nil_append,List.all_cons,inMV (v_by l)]
 cases l<;>rfl)
theorem bString (l:List UInt8)(h0:l≠[])(hl:l.length≤1000000):CallOk Tryz.prog 27 [.c (.p 1 0)] [bBd 1 2 l,bBu 2 l] (S l) [(2,dead 5)]:=by
 obtain⟨y,l',rfl⟩:∃y l',l=y::l':=by cases l;exact absurd rfl h0;exact⟨_,_,rfl⟩
 refine CallOk.mkN 100 Tryz.func27 rfl en27 (by simp[Tryz.ntmps27]) (ClA.of rfl) rfl rfl fun C hR hP=>?_
 refine vv ?_
 refine Sm.dg 110 10 mix ?_
 refine vv ?_
 refine DOpQ.own 110 (Stp.sliceData (n:=2) (b:=⟨false,(y::l').map bycell,5⟩) rfl rfl rfl (by decide) (by simp)) ?_
 refine vv ?_
 refine Sm.opq rfl rfl ⟨_,_,fun _=>Stp.unsString 120 (n:=2) (b:=⟨false,(y::l').map bycell,5⟩) (y::l') rfl rfl rfl rfl rfl h0 rfl (by omega) pt130 rfl cellsY rfl,.inl rfl,?_⟩
 refine Sm.go 130 ?_
 refine vv ?_
 exact RetQ.ren [(1,1),(2,2)] hR hP rfl (vv trivial) rfl rfl ⟨⟨rfl,rfl⟩,⟨rfl,rfl⟩,trivial⟩ ⟨oR,oR,oL,trivial⟩ (clStr _) (ClV.of rfl)
def symT:List (List UInt8):=[[109],[107,103],[115],[65],[75]]
def sy (i:Nat):List UInt8:=symT.getD i []
def ex (u:Un)(i:Nat):Int:=[u.m,u.kg,u.s,u.a,u.k].getD i 0
def facT (i n:Nat):List UInt8:=sy i++(if n=1 then[]else[94,UInt8.ofNat (48+n)])
def posT (u:Un):Nat→List UInt8
 |0=>[]
 |i+1=>if 0<ex u i then(if posT u i=[]then[]else posT u i++[42])++facT i (ex u i).toNat else posT u i
def midT (u:Un):List UInt8:=if posT u 5=[]then[49]else posT u 5
def negT (u:Un):Nat→List UInt8
 |0=>midT u
 |i+1=>if ex u i<0 then(negT u i++[47])++facT i (-ex u i).toNat else negT u i
def txt (u:Un):List UInt8:=bif uokU u then negT u 5 else[]
theorem sy_len (i:Nat)(h:i<5):1≤(sy i).length∧(sy i).length≤2:=by
 have:∀i:Fin 5,1≤(sy i.val).length∧(sy i.val).length≤2:=by decide
 exact this ⟨i,h⟩
theorem sy_ne (i:Nat)(h:i<5):sy i≠[]:=fun e=>by have:=(sy_len i h).1;rw[e]at this;simp at this
theorem facT_len (i n:Nat)(h:i<5):(facT i n).length≤4:=by
 have:=sy_len i h
 unfold facT
 split<;>simp<;>omega
theorem posT_len (u:Un):∀i,i≤5→(posT u i).length≤5*i
 |0,_=>by simp[posT]
 |i+1,h=>by
  have ih:=posT_len u i (by omega)
  have hf:=facT_len i (ex u i).toNat (by omega)
  unfold posT
  split
  ·split<;>simp<;>omega
  ·omega
theorem midT_len (u:Un):(midT u).length≤25:=by
 have:=posT_len u 5 (by omega)
 unfold midT
 split
 ·simp
 ·omega
theorem midT_ne (u:Un):midT u≠[]:=by
 unfold midT
 split
 ·simp
 ·assumption
theorem negT_len (u:Un):∀i,i≤5→(negT u i).length≤25+5*i∧negT u i≠[]
 |0,_=>⟨midT_len u,midT_ne u⟩
 |i+1,h=>by
  have ih:=negT_len u i (by omega)
  have hf:=facT_len i (-ex u i).toNat (by omega)
  unfold negT
  split
  ·constructor
   ·simp;omega
   ·simp
  ·exact⟨by omega,ih.2⟩
theorem sy_get {i:Nat}(h:i<5):(symT.map cs1)[i]?=some (cs1 (sy i)):=get_st h
@[reducible] def bSy (nm:Nat):Nat×Bk:=(nm,⟨true,symT.map cs1,267⟩)
@[reducible] def bSyw (nm:Nat):Nat×Bk:=(nm,⟨false,symT.map cs1,267⟩)
theorem renBy {ρ:Nat→Nat}(r:Bool)(l:List UInt8)(t:TypeId):(⟨r,l.map bycell,t⟩:Bk).ren ρ=⟨r,l.map bycell,t⟩:=renV (v_by l)
theorem renBd {ρ:Nat→Nat}(r:Bool)(nm nb n:Nat)(l:List UInt8)(t:TypeId):(⟨r,[adr nm l,.sl nb 0 n 1],t⟩:Bk).ren ρ=⟨r,[adr (ρ nm) l,.sl (ρ nb) 0 n 1],t⟩:=by cases l<;>rfl
theorem renDe {ρ:Nat→Nat}(t:TypeId):(dead t).ren ρ=dead t:=rfl
theorem symbols_:CallOk Tryz.prog 261 [] [] (.agg (symT.map cs1)) []:=by
 refine CallOk.mkN 100 Tryz.func261 rfl en261 (by simp[Tryz.ntmps261]) (ClA.of rfl) rfl rfl fun C hR hP=>?_
 refine vv ?_
 exact RetQ.of hR rfl (vv trivial) rvr (Sub.nil _) ClM.nil (ClV.of rfl)
theorem clF3 (l:List UInt8):ClM [bBd 1 2 l,bBu 2 l,bSy 4]:=ClM.of (by
 simp only[List.all_cons,inMV (v_by l)]
 cases l<;>rfl)
theorem clF4 (l m:List UInt8):ClM ([bBd 1 3 m,bBu 3 m,(2,dead 5)]++[bBd 1 2 l,bBu 2 l,bSy 4]):=ClM.of (by
 simp only[List.cons_append,List.nil_append,List.all_cons,inMV (v_by l),inMV (v_by m)]
 cases l<;>cases m<;>rfl)
theorem factor_ (i n:Nat)(hi:i<5)(hn1:1≤n)(hn:n<10)(l:List UInt8)(hl:l.length≤1000):CallOk Tryz.prog 262 [I i,I n,.c (.p 1 0),.c (.p 4 0)] [bBd 1 2 l,bBu 2 l,bSy 4] (.tup []) [bBd 1 3 (l++facT i n),bBu 3 (l++facT i n),(2,dead 5)]:=by
 have hs:=sy_len i hi
 have hg:=sy_get hi
 refine CallOk.mkN 100 Tryz.func262 rfl en262 (by simp[Tryz.ntmps262]) (ClA.of rfl) rfl rfl fun C hR hP=>?_
 simp(maxSteps:=2000000) only[go_sem,hg]
 refine⟨⟨by omega,by omega⟩,?_⟩
 refine CallQ.ren [(1,1),(2,2),(3,120)] 121 (bWS l (sy i) (sy_ne i hi) (by omega) (by omega)) (clBd 1 2 _ (by decide)) rfl rfl ⟨⟨_,rfl,.inl (renBd _ _ _ _ _ _)⟩,⟨_,rfl,.inl (renBy _ _ _)⟩,trivial⟩ rfl (.inl rfl) ?_
 simp only[Mem.ren,List.map_cons,List.map_nil,renBd,renBy,renDe,V.ren,W.ren,Cv.ren,rn,Nat.reduceBEq,cond_true,cond_false]
 refine vv ?_
 refine mtch (fun h=>?_) (fun h=>?_)
 ·have h:n≠1:=by simp at h;omega
  refine CallQ.pure 121 (itoa_ n hn) rfl ?_
  refine vv ?_
  have e:facT i n=sy i++[94,UInt8.ofNat (48+n)]:=by rw[facT,if_neg h]
  rw[e,←List.append_assoc]at hR
  refine CallQ.ren [(1,1),(2,120),(3,130)] 131 (bWS (l++sy i) [94,UInt8.ofNat (48+n)] (by simp) (by simp;omega) (by simp)) (clBd 1 2 _ (by decide)) rfl rfl ⟨⟨_,rfl,.inl (renBd _ _ _ _ _ _)⟩,⟨_,rfl,.inl (renBy _ _ _)⟩,trivial⟩ rfl (.inl rfl) ?_
  simp only[Mem.ren,List.map_cons,List.map_nil,renBd,renBy,renDe,V.ren,W.ren,Cv.ren,rn,Nat.reduceBEq,cond_true,cond_false]
  refine vv ?_
  exact Sm.fall hR (RetQ.ren [(1,1),(2,2),(4,4),(3,130)] hR hP rfl trivial rfl rfl ⟨⟨rfl,rfl⟩,⟨rfl,rfl⟩,⟨rfl,rfl⟩,trivial⟩ ⟨.inr ⟨_,rfl,.inl (renBd _ _ _ _ _ _)⟩,.inr ⟨_,rfl,.inl (renBy _ _ _)⟩,oR,oL,oL,oV (renV (v_st _)),trivial⟩ (clF4 _ _) (ClV.of rfl))
 ·have h:n=1:=by simp at h;omega
  subst h
  have e:facT i 1=sy i:=by simp[facT]
  rw[e]at hR
  exact Sm.fall hR (RetQ.ren [(1,1),(2,2),(4,4),(3,120)] hR hP rfl trivial rfl rfl ⟨⟨rfl,rfl⟩,⟨rfl,rfl⟩,⟨rfl,rfl⟩,trivial⟩ ⟨.inr ⟨_,rfl,.inl (renBd _ _ _ _ _ _)⟩,.inr ⟨_,rfl,.inl (renBy _ _ _)⟩,oR,oL,oL,oV (renV (v_st _)),trivial⟩ (clF4 _ _) (ClV.of rfl))
theorem five {Q:Nat→Prop}(h0:Q 0)(h1:Q 1)(h2:Q 2)(h3:Q 3)(h4:Q 4):∀i,i<5→Q i:=fun i hi=>by
 match i,hi with
 |0,_=>exact h0
 |1,_=>exact h1
 |2,_=>exact h2
 |3,_=>exact h3
 |4,_=>exact h4
theorem ex_get (u:Un){i:Nat}(h:i<5):[Cv.v (.int .i64 u.m),.v (.int .i64 u.kg),.v (.int .i64 u.s),.v (.int .i64 u.a),.v (.int .i64 u.k)][i]?=some (.v (.int .i64 (ex u i))):=by
 revert i;exact fun{i} h=>five (Q:=fun i=>[Cv.v (.int .i64 u.m),.v (.int .i64 u.kg),.v (.int .i64 u.s),.v (.int .i64 u.a),.v (.int .i64 u.k)][i]?=some (.v (.int .i64 (ex u i)))) rfl rfl rfl rfl rfl i h
theorem pt_get (n:Nat){i:Nat}(h:i<5):[Cv.p n 0,.p n 1,.p n 2,.p n 3,.p n 4][i]?=some (.p n i):=
 five (Q:=fun i=>[Cv.p n 0,.p n 1,.p n 2,.p n 3,.p n 4][i]?=some (.p n i)) rfl rfl rfl rfl rfl i h
theorem ex_bd {u:Un}(h:uokU u=true){i:Nat}(hi:i<5): -9≤ex u i∧ex u i≤9:=by
 have h:=uokU_iff.1 h
 exact five (Q:=fun i=> -9≤ex u i∧ex u i≤9) h.1 h.2.1 h.2.2.1 h.2.2.2.1 h.2.2.2.2 i hi
@[reducible] def txE1 (i:Nat):Env:=[(1,true,.c (.p 7 0)),(3,true,.c (.p 1 0)),(5,true,.c (.fn 262 [(1,0),(4,0)])),(6,true,.c (.p 8 0)),(20,true,.agg [.p 7 0,.p 7 1,.p 7 2,.p 7 3,.p 7 4]),(21,true,I i)]
@[reducible] def txE2 (i:Nat):Env:=[(1,true,.c (.p 7 0)),(3,true,.c (.p 1 0)),(5,true,.c (.fn 262 [(1,0),(4,0)])),(42,true,.agg [.p 7 0,.p 7 1,.p 7 2,.p 7 3,.p 7 4]),(43,true,I i)]
@[reducible] def txM (u:Un)(l:List UInt8):Mem:=[bBd 1 2 l,bBu 2 l,bSyw 4,(7,⟨false,unL u,89⟩),(8,⟨false,[.p 7 0,.p 7 1,.p 7 2,.p 7 3,.p 7 4],258⟩)]
theorem clTx (u:Un)(l:List UInt8):ClM (txM u l):=ClM.of (by
 simp only[txM,List.all_cons,inMV (v_by l)]
 cases l<;>rfl)
theorem text_ (u:Un):CallOk Tryz.prog 223 [uu u] [] (S (txt u)) []:=by
 refine CallOk.mkN 100 Tryz.func223 rfl en223 (by simp[Tryz.ntmps223]) (ClA.of rfl) rfl rfl fun C hR hP=>?_
 refine vv ?_
 refine CallQ.pure 110 (uvalidU u) rfl ?_
 refine vv ?_
 cases hu:uokU u with
 |false=>
  have e:txt u=[]:=by rw[txt,hu];rfl
  rw[e]at hR
  refine vv ?_
  exact RetQ.of hR rfl ⟨rfl,trivial⟩ rfl (Sub.nil _) ClM.nil (ClV.of rfl)
 |true=>
 have et:txt u=negT u 5:=by rw[txt,hu];rfl
 rw[et]at hR
 change Sm _ _ _ _ _ _
 refine Sm.dg 110 2 mix ?_
 refine vv ?_
 refine DCallQ.pure 110 one_ rfl ?_
 refine vv ?_
 have hq0:(u.m==u0.m&&(u.kg==u0.kg&&(u.s==u0.s&&(u.a==u0.a&&u.k==u0.k))))=ueq u u0:=rfl
 simp only[hq0]
 refine mtch (fun hq=>?_) (fun hq=>?_)
 ·have hq:u=u0:=ueq_iff.1 hq
  subst hq
  exact RetQ.of hR rfl ⟨rfl,trivial⟩ rfl (Sub.nil _) ClM.nil (ClV.of rfl)
 ·refine CallQ.pure 120 symbols_ rfl ?_
  refine vv ?_
  have hset:setL [Cv.v (.string ⟨#[]⟩),.v (.string ⟨#[]⟩),.v (.string ⟨#[]⟩),.v (.string ⟨#[]⟩),.v (.string ⟨#[]⟩)] 0 (symT.map cs1)=symT.map cs1:=rfl
  simp only[hset]
  refine⟨⟨rfl,rfl⟩,?_⟩
  refine CallQ.mem 130 (exponents 100 (unL u) 89 (ptrs_cl _ _ _ rfl) (by decide)) rfl (Sub.one (b':=⟨false,unL u,89⟩) rfl (.inr ⟨rfl,[],rfl⟩)) (ptrs_cl _ _ _ rfl) ?_
  refine vv ?_
  refine Sm.nils 150 1 5 [] [110] rfl ?_
  refine Sm.loopM (M0:=[]) (α:={i:Nat//i≤5}) hP (fun i=>txE1 i.val) (fun i=>txM u (posT u i.val)) (fun i=>5-i.val) ⟨0,by omega⟩ (fun _=>clTx _ _) (fun _=>ClE.of rfl) [(1,110),(2,150),(4,120),(7,100),(8,130)] ?_ ?_
  ·exact⟨rfl,trivial,⟨rfl,rfl,rfl,rfl,rfl,rfl,trivial⟩,⟨oR,oR,oR,oR,oR,trivial⟩⟩
  ·rintro⟨i,hi⟩ J hb
   simp only at hb hi⊢
   refine Sm.go 200 ?_
   refine vv ?_
   refine mtch (fun hc=>?_) (fun hc=>?_)
   ·have hc:i<5:=by simp at hc;omega
    have hp:=pt_get 7 hc
    have hx:=ex_get u hc
    have hxb:=ex_bd hu hc
    have hpl:=posT_len u i (by omega)
    have hstep:posT u (i+1)=if 0<ex u i then(if posT u i=[]then[]else posT u i++[42])++facT i (ex u i).toNat else posT u i:=rfl
    have w1:IntKind.i64.wrap ((i:Int)+1)=((i+1:Nat):Int):=by rw[w64 (by omega) (by omega)];omega
    generalize posT u i=L at*
    simp(maxSteps:=2000000) only[go_sem,hp,hx]
    refine⟨⟨by omega,hc⟩,?_⟩
    refine mtch (fun hq=>?_) (fun hq=>?_)
    ·have hq:0<ex u i:=by simpa using hq
     obtain⟨n,hn⟩:∃n:Nat,ex u i=n:=⟨(ex u i).toNat,by omega⟩
     rw[if_pos hq]at hstep
     rw[hn]at hx hstep hxb hq
     simp only[hn]
     rw[Int.toNat_natCast]at hstep
     refine CallQ.ren [(1,1),(2,2)] 200 (bLen L) (clBd 1 2 L (by decide)) rfl rfl ⟨⟨_,rfl,.inl (renBd _ _ _ _ _ _)⟩,⟨_,rfl,.inl (renBy _ _ _)⟩,trivial⟩ rfl (.inr rfl) ?_
     refine vv ?_
     refine mtch (fun hl=>?_) (fun hl=>?_)
     ·have hl:L≠[]:=by rintro rfl;simp at hl
      have hs:posT u (i+1)=(L++[42])++facT i n:=by rw[hstep,if_neg hl]
      refine CallQ.ren [(1,1),(2,2),(3,210)] 211 (bWB L 42 (by omega)) (clBd 1 2 _ (by decide)) rfl rfl ⟨⟨_,rfl,.inl (renBd _ _ _ _ _ _)⟩,⟨_,rfl,.inl (renBy _ _ _)⟩,trivial⟩ rfl (.inl rfl) ?_
      simp only[Mem.ren,List.map_cons,List.map_nil,renBd,renBy,renDe,V.ren,W.ren,Cv.ren,rn,Nat.reduceBEq,cond_true,cond_false]
      simp(maxSteps:=2000000) only[go_sem,hx]
      refine CallQ.ren [(1,1),(2,210),(4,4),(3,220)] 221 (factor_ i n hc (by omega) (by omega) (L++[42]) (by simp<;>omega)) (clF3 _) rfl rfl ⟨⟨_,rfl,.inl (renBd _ _ _ _ _ _)⟩,⟨_,rfl,.inl (renBy _ _ _)⟩,⟨_,rfl,.inr ⟨rfl,[],rfl⟩⟩,trivial⟩ rfl (.inl rfl) ?_
      simp only[Mem.ren,List.map_cons,List.map_nil,renBd,renBy,renDe,V.ren,W.ren,Cv.ren,rn,Nat.reduceBEq,cond_true,cond_false]
      refine vv ?_
      simp only[w1]
      refine hb _ _ ⟨i+1,hc⟩ [(1,1),(2,220),(4,4),(7,7),(8,8)] (by simp only;omega) ?_
      simp only[hs]
      exact⟨rfl,trivial,⟨rfl,rfl,rfl,rfl,rfl,rfl,trivial⟩,⟨.inr ⟨_,rfl,.inl (renBd _ _ _ _ _ _)⟩,.inr ⟨_,rfl,.inl (renBy _ _ _)⟩,oR,oR,oR,trivial⟩⟩
     ·have hl:L=[]:=by cases L;rfl;simp at hl
      subst hl
      have hs:posT u (i+1)=[]++facT i n:=by rw[hstep];rfl
      simp(maxSteps:=2000000) only[go_sem,hx]
      refine CallQ.ren [(1,1),(2,2),(4,4),(3,220)] 221 (factor_ i n hc (by omega) (by omega) ([]) (by simp<;>omega)) (clF3 _) rfl rfl ⟨⟨_,rfl,.inl (renBd _ _ _ _ _ _)⟩,⟨_,rfl,.inl (renBy _ _ _)⟩,⟨_,rfl,.inr ⟨rfl,[],rfl⟩⟩,trivial⟩ rfl (.inl rfl) ?_
      simp only[Mem.ren,List.map_cons,List.map_nil,renBd,renBy,renDe,V.ren,W.ren,Cv.ren,rn,Nat.reduceBEq,cond_true,cond_false]
      refine vv ?_
      simp only[w1]
      refine hb _ _ ⟨i+1,hc⟩ [(1,1),(2,220),(4,4),(7,7),(8,8)] (by simp only;omega) ?_
      simp only[hs]
      exact⟨rfl,trivial,⟨rfl,rfl,rfl,rfl,rfl,rfl,trivial⟩,⟨.inr ⟨_,rfl,.inl (renBd _ _ _ _ _ _)⟩,.inr ⟨_,rfl,.inl (renBy _ _ _)⟩,oR,oR,oR,trivial⟩⟩
    ·have hq:¬0<ex u i:=by simpa using hq
     have hs:posT u (i+1)=L:=by rw[hstep,if_neg hq]
     simp only[w1]
     refine hb _ _ ⟨i+1,hc⟩ [(1,1),(2,2),(4,4),(7,7),(8,8)] (by simp only;omega) ?_
     simp only[hs]
     exact⟨rfl,trivial,⟨rfl,rfl,rfl,rfl,rfl,rfl,trivial⟩,⟨.inr ⟨_,rfl,.inl (renBd _ _ _ _ _ _)⟩,.inr ⟨_,rfl,.inl (renBy _ _ _)⟩,oR,oR,oR,trivial⟩⟩
   ·have hc:i=5:=by simp at hc;omega
    subst hc
    have hpl:=posT_len u 5 (by omega)
    have hmid:midT u=if posT u 5=[]then[49]else posT u 5:=rfl
    have hml:=midT_len u
    generalize posT u 5=L at*
    refine CallQ.ren [(1,1),(2,2)] 200 (bLen L) (clBd 1 2 L (by decide)) rfl rfl ⟨⟨_,rfl,.inl (renBd _ _ _ _ _ _)⟩,⟨_,rfl,.inl (renBy _ _ _)⟩,trivial⟩ rfl (.inr rfl) ?_
    refine vv ?_
    refine mtch (fun hl=>?_) (fun hl=>?_)
    ·have hl:L=[]:=by cases L;rfl;simp at hl;omega
     subst hl
     refine CallQ.ren [(1,1),(2,2),(3,210)] 211 (bWB [] 49 (by omega)) (clBd 1 2 _ (by decide)) rfl rfl ⟨⟨_,rfl,.inl (renBd _ _ _ _ _ _)⟩,⟨_,rfl,.inl (renBy _ _ _)⟩,trivial⟩ rfl (.inl rfl) ?_
     simp only[Mem.ren,List.map_cons,List.map_nil,renBd,renBy,renDe,V.ren,W.ren,Cv.ren,rn,Nat.reduceBEq,cond_true,cond_false]
     refine vv ?_
     refine Sm.loopM (M0:=[]) (α:={i:Nat//i≤5}) hP (fun i=>txE2 i.val) (fun i=>txM u (negT u i.val)) (fun i=>5-i.val) ⟨0,by omega⟩ (fun _=>clTx _ _) (fun _=>ClE.of rfl) [(1,1),(2,210),(4,4),(7,7),(8,8)] ?_ ?_
     ·have hs:negT u 0=[49]:=by show midT u=_;rw[hmid];simp[hl]
      simp only[hs]
      exact⟨rfl,trivial,⟨rfl,rfl,rfl,rfl,rfl,trivial⟩,⟨.inr ⟨_,rfl,.inl (renBd _ _ _ _ _ _)⟩,.inr ⟨_,rfl,.inl (renBy _ _ _)⟩,oR,oR,oR,trivial⟩⟩
     ·rintro⟨i,hi⟩ J hb
      simp only at hb hi⊢
      refine Sm.go 300 ?_
      refine vv ?_
      refine mtch (fun hc=>?_) (fun hc=>?_)
      ·have hc:i<5:=by simp at hc;omega
       have hp:=pt_get 7 hc
       have hx:=ex_get u hc
       have hxb:=ex_bd hu hc
       have hnl:=negT_len u i (by omega)
       have hstep:negT u (i+1)=if ex u i<0 then(negT u i++[47])++facT i (-ex u i).toNat else negT u i:=rfl
       have w1:IntKind.i64.wrap ((i:Int)+1)=((i+1:Nat):Int):=by rw[w64 (by omega) (by omega)];omega
       generalize negT u i=R at*
       simp(maxSteps:=2000000) only[go_sem,hp,hx]
       refine⟨⟨by omega,hc⟩,?_⟩
       refine mtch (fun hq=>?_) (fun hq=>?_)
       ·have hq:ex u i<0:=by simpa using hq
        obtain⟨n,hn⟩:∃n:Nat,ex u i= -(n:Int):=⟨(-ex u i).toNat,by omega⟩
        have hn2:(-ex u i).toNat=n:=by omega
        rw[if_pos hq,hn2]at hstep
        rw[hn]at hx hxb hq
        simp only[hn]
        have w2:IntKind.i64.wrap (0- -(n:Int))=(n:Int):=by rw[w64 (by omega) (by omega)];omega
        have hs:negT u (i+1)=(R++[47])++facT i n:=hstep
        refine CallQ.ren [(1,1),(2,2),(3,310)] 311 (bWB R 47 (by omega)) (clBd 1 2 _ (by decide)) rfl rfl ⟨⟨_,rfl,.inl (renBd _ _ _ _ _ _)⟩,⟨_,rfl,.inl (renBy _ _ _)⟩,trivial⟩ rfl (.inl rfl) ?_
        simp only[Mem.ren,List.map_cons,List.map_nil,renBd,renBy,renDe,V.ren,W.ren,Cv.ren,rn,Nat.reduceBEq,cond_true,cond_false]
        simp(maxSteps:=2000000) only[go_sem,hx,w2]
        refine CallQ.ren [(1,1),(2,310),(4,4),(3,320)] 321 (factor_ i n hc (by omega) (by omega) (R++[47]) (by simp<;>omega)) (clF3 _) rfl rfl ⟨⟨_,rfl,.inl (renBd _ _ _ _ _ _)⟩,⟨_,rfl,.inl (renBy _ _ _)⟩,⟨_,rfl,.inr ⟨rfl,[],rfl⟩⟩,trivial⟩ rfl (.inl rfl) ?_
        simp only[Mem.ren,List.map_cons,List.map_nil,renBd,renBy,renDe,V.ren,W.ren,Cv.ren,rn,Nat.reduceBEq,cond_true,cond_false]
        refine vv ?_
        simp only[w1]
        refine hb _ _ ⟨i+1,hc⟩ [(1,1),(2,320),(4,4),(7,7),(8,8)] (by simp only;omega) ?_
        simp only[hs]
        exact⟨rfl,trivial,⟨rfl,rfl,rfl,rfl,rfl,trivial⟩,⟨.inr ⟨_,rfl,.inl (renBd _ _ _ _ _ _)⟩,.inr ⟨_,rfl,.inl (renBy _ _ _)⟩,oR,oR,oR,trivial⟩⟩
       ·have hq:¬ex u i<0:=by simpa using hq
        have hs:negT u (i+1)=R:=by rw[hstep,if_neg hq]
        simp only[w1]
        refine hb _ _ ⟨i+1,hc⟩ [(1,1),(2,2),(4,4),(7,7),(8,8)] (by simp only;omega) ?_
        simp only[hs]
        exact⟨rfl,trivial,⟨rfl,rfl,rfl,rfl,rfl,trivial⟩,⟨.inr ⟨_,rfl,.inl (renBd _ _ _ _ _ _)⟩,.inr ⟨_,rfl,.inl (renBy _ _ _)⟩,oR,oR,oR,trivial⟩⟩
      ·have hc:i=5:=by simp at hc;omega
       subst hc
       have hnl:=negT_len u 5 (by omega)
       generalize negT u 5=R at*
       refine CallQ.ren [(1,1),(2,2)] 330 (bString R hnl.2 (by omega)) (clBd 1 2 R (by decide)) rfl rfl ⟨⟨_,rfl,.inl (renBd _ _ _ _ _ _)⟩,⟨_,rfl,.inl (renBy _ _ _)⟩,trivial⟩ rfl (.inl rfl) ?_
       refine vv ?_
       exact RetQ.of hR rfl ⟨rfl,trivial⟩ rfl (Sub.nil _) ClM.nil (ClV.of rfl)
    ·have hl:L≠[]:=by rintro rfl;simp at hl
     refine Sm.loopM (M0:=[]) (α:={i:Nat//i≤5}) hP (fun i=>txE2 i.val) (fun i=>txM u (negT u i.val)) (fun i=>5-i.val) ⟨0,by omega⟩ (fun _=>clTx _ _) (fun _=>ClE.of rfl) [(1,1),(2,2),(4,4),(7,7),(8,8)] ?_ ?_
     ·have hs:negT u 0=L:=by show midT u=_;rw[hmid];simp[hl]
      simp only[hs]
      exact⟨rfl,trivial,⟨rfl,rfl,rfl,rfl,rfl,trivial⟩,⟨.inr ⟨_,rfl,.inl (renBd _ _ _ _ _ _)⟩,.inr ⟨_,rfl,.inl (renBy _ _ _)⟩,oR,oR,oR,trivial⟩⟩
     ·rintro⟨i,hi⟩ J hb
      simp only at hb hi⊢
      refine Sm.go 300 ?_
      refine vv ?_
      refine mtch (fun hc=>?_) (fun hc=>?_)
      ·have hc:i<5:=by simp at hc;omega
       have hp:=pt_get 7 hc
       have hx:=ex_get u hc
       have hxb:=ex_bd hu hc
       have hnl:=negT_len u i (by omega)
       have hstep:negT u (i+1)=if ex u i<0 then(negT u i++[47])++facT i (-ex u i).toNat else negT u i:=rfl
       have w1:IntKind.i64.wrap ((i:Int)+1)=((i+1:Nat):Int):=by rw[w64 (by omega) (by omega)];omega
       generalize negT u i=R at*
       simp(maxSteps:=2000000) only[go_sem,hp,hx]
       refine⟨⟨by omega,hc⟩,?_⟩
       refine mtch (fun hq=>?_) (fun hq=>?_)
       ·have hq:ex u i<0:=by simpa using hq
        obtain⟨n,hn⟩:∃n:Nat,ex u i= -(n:Int):=⟨(-ex u i).toNat,by omega⟩
        have hn2:(-ex u i).toNat=n:=by omega
        rw[if_pos hq,hn2]at hstep
        rw[hn]at hx hxb hq
        simp only[hn]
        have w2:IntKind.i64.wrap (0- -(n:Int))=(n:Int):=by rw[w64 (by omega) (by omega)];omega
        have hs:negT u (i+1)=(R++[47])++facT i n:=hstep
        refine CallQ.ren [(1,1),(2,2),(3,310)] 311 (bWB R 47 (by omega)) (clBd 1 2 _ (by decide)) rfl rfl ⟨⟨_,rfl,.inl (renBd _ _ _ _ _ _)⟩,⟨_,rfl,.inl (renBy _ _ _)⟩,trivial⟩ rfl (.inl rfl) ?_
        simp only[Mem.ren,List.map_cons,List.map_nil,renBd,renBy,renDe,V.ren,W.ren,Cv.ren,rn,Nat.reduceBEq,cond_true,cond_false]
        simp(maxSteps:=2000000) only[go_sem,hx,w2]
        refine CallQ.ren [(1,1),(2,310),(4,4),(3,320)] 321 (factor_ i n hc (by omega) (by omega) (R++[47]) (by simp<;>omega)) (clF3 _) rfl rfl ⟨⟨_,rfl,.inl (renBd _ _ _ _ _ _)⟩,⟨_,rfl,.inl (renBy _ _ _)⟩,⟨_,rfl,.inr ⟨rfl,[],rfl⟩⟩,trivial⟩ rfl (.inl rfl) ?_
        simp only[Mem.ren,List.map_cons,List.map_nil,renBd,renBy,renDe,V.ren,W.ren,Cv.ren,rn,Nat.reduceBEq,cond_true,cond_false]
        refine vv ?_
        simp only[w1]
        refine hb _ _ ⟨i+1,hc⟩ [(1,1),(2,320),(4,4),(7,7),(8,8)] (by simp only;omega) ?_
        simp only[hs]
        exact⟨rfl,trivial,⟨rfl,rfl,rfl,rfl,rfl,trivial⟩,⟨.inr ⟨_,rfl,.inl (renBd _ _ _ _ _ _)⟩,.inr ⟨_,rfl,.inl (renBy _ _ _)⟩,oR,oR,oR,trivial⟩⟩
       ·have hq:¬ex u i<0:=by simpa using hq
        have hs:negT u (i+1)=R:=by rw[hstep,if_neg hq]
        simp only[w1]
        refine hb _ _ ⟨i+1,hc⟩ [(1,1),(2,2),(4,4),(7,7),(8,8)] (by simp only;omega) ?_
        simp only[hs]
        exact⟨rfl,trivial,⟨rfl,rfl,rfl,rfl,rfl,trivial⟩,⟨.inr ⟨_,rfl,.inl (renBd _ _ _ _ _ _)⟩,.inr ⟨_,rfl,.inl (renBy _ _ _)⟩,oR,oR,oR,trivial⟩⟩
      ·have hc:i=5:=by simp at hc;omega
       subst hc
       have hnl:=negT_len u 5 (by omega)
       generalize negT u 5=R at*
       refine CallQ.ren [(1,1),(2,2)] 330 (bString R hnl.2 (by omega)) (clBd 1 2 R (by decide)) rfl rfl ⟨⟨_,rfl,.inl (renBd _ _ _ _ _ _)⟩,⟨_,rfl,.inl (renBy _ _ _)⟩,trivial⟩ rfl (.inl rfl) ?_
       refine vv ?_
       exact RetQ.of hR rfl ⟨rfl,trivial⟩ rfl (Sub.nil _) ClM.nil (ClV.of rfl)
end Go.Proofs.YtlnpgbnhcondjaaGreatDoor.Fx
