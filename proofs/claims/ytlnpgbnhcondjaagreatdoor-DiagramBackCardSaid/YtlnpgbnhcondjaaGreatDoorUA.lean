/-  -/
import Derived.Test.YtlnpgbnhcondjaaGreatDoorTf
import Derived.Test.YtlnpgbnhcondjaaGreatDoorU5
namespace Go.Proofs.YtlnpgbnhcondjaaGreatDoor.Fx
open Vg Tf
set_option linter.unusedSimpArgs false
set_option linter.unusedVariables false
set_option maxRecDepth 100000
set_option maxHeartbeats 4000000
def symT:List (List UInt8):=[[109],[107,103],[115],[65],[75]]
def sy (i:Nat):List UInt8:=symT.getD i []
def ex (u:Un)(i:Nat):Int:=[u.m,u.kg,u.s,u.a,u.k].getD i 0
def facT (i n:Nat):List UInt8:=sy i++(if n=1 then[]else[94,UInt8.ofNat (48+n)])
def posT (u:Un):Nat→List UInt8
 |0=>[]
 |i+1=>if 0<ex u i then(if posT u i=[]then[]else posT u i++[42])++facT i (ex u i).toNat else posT u i
def midT (u:Un):List UInt8:=if posT u 5=[]then[49]else posT u 5
def negT (u:Un):Nat→List UInt8
 |0=>midT u
 |i+1=>if ex u i<0 then(negT u i++[47])++facT i (-ex u i).toNat else negT u i
def txt (u:Un):List UInt8:=bif uokU u then negT u 5 else[]
theorem sy_len (i:Nat)(h:i<5):1≤(sy i).length∧(sy i).length≤2:=by
 have:∀i:Fin 5,1≤(sy i.val).length∧(sy i.val).length≤2:=by decide
 exact this ⟨i,h⟩
theorem sy_ne (i:Nat)(h:i<5):sy i≠[]:=fun e=>by have:=(sy_len i h).1;rw[e]at this;simp at this
theorem facT_len (i n:Nat)(h:i<5):(facT i n).length≤4:=by
 have:=sy_len i h
 unfold facT
 split<;>simp<;>omega
theorem posT_len (u:Un):∀i,i≤5→(posT u i).length≤5*i
 |0,_=>by simp[posT]
 |i+1,h=>by
  have ih:=posT_len u i (by omega)
  have hf:=facT_len i (ex u i).toNat (by omega)
  unfold posT
  split
  ·split<;>simp<;>omega
  ·omega
theorem midT_len (u:Un):(midT u).length≤25:=by
 have:=posT_len u 5 (by omega)
 unfold midT
 split
 ·simp
 ·omega
theorem midT_ne (u:Un):midT u≠[]:=by
 unfold midT
 split
 ·simp
 ·assumption
theorem negT_len (u:Un):∀i,i≤5→(negT u i).length≤25+5*i∧negT u i≠[]
 |0,_=>⟨midT_len u,midT_ne u⟩
 |i+1,h=>by
  have ih:=negT_len u i (by omega)
  have hf:=facT_len i (-ex u i).toNat (by omega)
  unfold negT
  split
  ·constructor
   ·simp;omega
   ·simp
  ·exact⟨by omega,ih.2⟩
theorem sy_get {i:Nat}(h:i<5):(symT.map cs1)[i]?=some (cs1 (sy i)):=get_st h
@[reducible] def bSy (nm:Nat):Nat×Bk:=(nm,⟨true,symT.map cs1,267⟩)
@[reducible] def bSyw (nm:Nat):Nat×Bk:=(nm,⟨false,symT.map cs1,267⟩)
theorem renBy {ρ:Nat→Nat}(r:Bool)(l:List UInt8)(t:TypeId):(⟨r,l.map bycell,t⟩:Bk).ren ρ=⟨r,l.map bycell,t⟩:=renV (v_by l)
theorem renBd {ρ:Nat→Nat}(r:Bool)(nm nb n:Nat)(l:List UInt8)(t:TypeId):(⟨r,[adr nm l,.sl nb 0 n 1],t⟩:Bk).ren ρ=⟨r,[adr (ρ nm) l,.sl (ρ nb) 0 n 1],t⟩:=by cases l<;>rfl
theorem renDe {ρ:Nat→Nat}(t:TypeId):(dead t).ren ρ=dead t:=rfl
theorem symbols_:CallOk Tryz.prog 261 [] [] (.agg (symT.map cs1)) []:=by
 refine CallOk.mkN 100 Tryz.func261 rfl en261 (by simp[Tryz.ntmps261]) (ClA.of rfl) rfl rfl fun C hR hP=>?_
 refine vv ?_
 exact RetQ.of hR rfl (vv trivial) rvr (Sub.nil _) ClM.nil (ClV.of rfl)
theorem clF3 (l:List UInt8):ClM [bBd 1 2 l,bBu 2 l,bSy 4]:=ClM.of (by
 simp only[List.all_cons,inMV (v_by l)]
 cases l<;>rfl)
theorem clF4 (l m:List UInt8):ClM ([bBd 1 3 m,bBu 3 m,(2,dead 5)]++[bBd 1 2 l,bBu 2 l,bSy 4]):=ClM.of (by
 simp only[List.cons_append,List.nil_append,List.all_cons,inMV (v_by l),inMV (v_by m)]
 cases l<;>cases m<;>rfl)
theorem factor_ (i n:Nat)(hi:i<5)(hn1:1≤n)(hn:n<10)(l:List UInt8)(hl:l.length≤1000):CallOk Tryz.prog 262 [I i,I n,.c (.p 1 0),.c (.p 4 0)] [bBd 1 2 l,bBu 2 l,bSy 4] (.tup []) [bBd 1 3 (l++facT i n),bBu 3 (l++facT i n),(2,dead 5)]:=by
 have hs:=sy_len i hi
 have hg:=sy_get hi
 refine CallOk.mkN 100 Tryz.func262 rfl en262 (by simp[Tryz.ntmps262]) (ClA.of rfl) rfl rfl fun C hR hP=>?_
 simp(maxSteps:=2000000) only[go_sem,hg]
 refine⟨⟨by omega,by omega⟩,?_⟩
 refine CallQ.ren [(1,1),(2,2),(3,120)] 121 (bWS l (sy i) (sy_ne i hi) (by omega) (by omega)) (clBd 1 2 _ (by decide)) rfl rfl ⟨⟨_,rfl,.inl (renBd _ _ _ _ _ _)⟩,⟨_,rfl,.inl (renBy _ _ _)⟩,trivial⟩ rfl (.inl rfl) ?_
 simp only[Mem.ren,List.map_cons,List.map_nil,renBd,renBy,renDe,V.ren,W.ren,Cv.ren,rn,Nat.reduceBEq,cond_true,cond_false]
 refine vv ?_
 refine mtch (fun h=>?_) (fun h=>?_)
 ·have h:n≠1:=by simp at h;omega
  refine CallQ.pure 121 (itoa_ n hn) rfl ?_
  refine vv ?_
  have e:facT i n=sy i++[94,UInt8.ofNat (48+n)]:=by rw[facT,if_neg h]
  rw[e,←List.append_assoc]at hR
  refine CallQ.ren [(1,1),(2,120),(3,130)] 131 (bWS (l++sy i) [94,UInt8.ofNat (48+n)] (by simp) (by simp;omega) (by simp)) (clBd 1 2 _ (by decide)) rfl rfl ⟨⟨_,rfl,.inl (renBd _ _ _ _ _ _)⟩,⟨_,rfl,.inl (renBy _ _ _)⟩,trivial⟩ rfl (.inl rfl) ?_
  simp only[Mem.ren,List.map_cons,List.map_nil,renBd,renBy,renDe,V.ren,W.ren,Cv.ren,rn,Nat.reduceBEq,cond_true,cond_false]
  refine vv ?_
  exact Sm.fall hR (RetQ.ren [(1,1),(2,2),(4,4),(3,130)] hR hP rfl trivial rfl rfl ⟨⟨rfl,rfl⟩,⟨rfl,rfl⟩,⟨rfl,rfl⟩,trivial⟩ ⟨.inr ⟨_,rfl,.inl (renBd _ _ _ _ _ _)⟩,.inr ⟨_,rfl,.inl (renBy _ _ _)⟩,oR,oL,oL,oV (renV (v_st _)),trivial⟩ (clF4 _ _) (ClV.of rfl))
 ·have h:n=1:=by simp at h;omega
  subst h
  have e:facT i 1=sy i:=by simp[facT]
  rw[e]at hR
  exact Sm.fall hR (RetQ.ren [(1,1),(2,2),(4,4),(3,120)] hR hP rfl trivial rfl rfl ⟨⟨rfl,rfl⟩,⟨rfl,rfl⟩,⟨rfl,rfl⟩,trivial⟩ ⟨.inr ⟨_,rfl,.inl (renBd _ _ _ _ _ _)⟩,.inr ⟨_,rfl,.inl (renBy _ _ _)⟩,oR,oL,oL,oV (renV (v_st _)),trivial⟩ (clF4 _ _) (ClV.of rfl))
theorem five {Q:Nat→Prop}(h0:Q 0)(h1:Q 1)(h2:Q 2)(h3:Q 3)(h4:Q 4):∀i,i<5→Q i:=fun i hi=>by
 match i,hi with
 |0,_=>exact h0
 |1,_=>exact h1
 |2,_=>exact h2
 |3,_=>exact h3
 |4,_=>exact h4
theorem ex_get (u:Un){i:Nat}(h:i<5):[Cv.v (.int .i64 u.m),.v (.int .i64 u.kg),.v (.int .i64 u.s),.v (.int .i64 u.a),.v (.int .i64 u.k)][i]?=some (.v (.int .i64 (ex u i))):=by
 revert i;exact fun{i} h=>five (Q:=fun i=>[Cv.v (.int .i64 u.m),.v (.int .i64 u.kg),.v (.int .i64 u.s),.v (.int .i64 u.a),.v (.int .i64 u.k)][i]?=some (.v (.int .i64 (ex u i)))) rfl rfl rfl rfl rfl i h
theorem pt_get (n:Nat){i:Nat}(h:i<5):[Cv.p n 0,.p n 1,.p n 2,.p n 3,.p n 4][i]?=some (.p n i):=
 five (Q:=fun i=>[Cv.p n 0,.p n 1,.p n 2,.p n 3,.p n 4][i]?=some (.p n i)) rfl rfl rfl rfl rfl i h
theorem ex_bd {u:Un}(h:uokU u=true){i:Nat}(hi:i<5): -9≤ex u i∧ex u i≤9:=by
 have h:=uokU_iff.1 h
 exact five (Q:=fun i=> -9≤ex u i∧ex u i≤9) h.1 h.2.1 h.2.2.1 h.2.2.2.1 h.2.2.2.2 i hi
@[reducible] def txE1 (i:Nat):Env:=[(1,true,.c (.p 7 0)),(3,true,.c (.p 1 0)),(5,true,.c (.fn 262 [(1,0),(4,0)])),(6,true,.c (.p 8 0)),(20,true,.agg [.p 7 0,.p 7 1,.p 7 2,.p 7 3,.p 7 4]),(21,true,I i)]
@[reducible] def txE2 (i:Nat):Env:=[(1,true,.c (.p 7 0)),(3,true,.c (.p 1 0)),(5,true,.c (.fn 262 [(1,0),(4,0)])),(42,true,.agg [.p 7 0,.p 7 1,.p 7 2,.p 7 3,.p 7 4]),(43,true,I i)]
@[reducible] def txM (u:Un)(l:List UInt8):Mem:=[bBd 1 2 l,bBu 2 l,bSyw 4,(7,⟨false,unL u,89⟩),(8,⟨false,[.p 7 0,.p 7 1,.p 7 2,.p 7 3,.p 7 4],258⟩)]
theorem clTx (u:Un)(l:List UInt8):ClM (txM u l):=ClM.of (by
 simp only[txM,List.all_cons,inMV (v_by l)]
 cases l<;>rfl)
theorem text_ (u:Un):CallOk Tryz.prog 223 [uu u] [] (S (txt u)) []:=by
 refine CallOk.mkN 100 Tryz.func223 rfl en223 (by simp[Tryz.ntmps223]) (ClA.of rfl) rfl rfl fun C hR hP=>?_
 refine vv ?_
 refine CallQ.pure 110 (uvalidU u) rfl ?_
 refine vv ?_
 cases hu:uokU u with
 |false=>
  have e:txt u=[]:=by rw[txt,hu];rfl
  rw[e]at hR
  refine vv ?_
  exact RetQ.of hR rfl ⟨rfl,trivial⟩ rfl (Sub.nil _) ClM.nil (ClV.of rfl)
 |true=>
 have et:txt u=negT u 5:=by rw[txt,hu];rfl
 rw[et]at hR
 change Sm _ _ _ _ _ _
 refine Sm.dg 110 2 mix ?_
 refine vv ?_
 refine DCallQ.pure 110 one_ rfl ?_
 refine vv ?_
 have hq0:(u.m==u0.m&&(u.kg==u0.kg&&(u.s==u0.s&&(u.a==u0.a&&u.k==u0.k))))=ueq u u0:=rfl
 simp only[hq0]
 refine mtch (fun hq=>?_) (fun hq=>?_)
 ·have hq:u=u0:=ueq_iff.1 hq
  subst hq
  exact RetQ.of hR rfl ⟨rfl,trivial⟩ rfl (Sub.nil _) ClM.nil (ClV.of rfl)
 ·refine CallQ.pure 120 symbols_ rfl ?_
  refine vv ?_
  have hset:setL [Cv.v (.string ⟨#[]⟩),.v (.string ⟨#[]⟩),.v (.string ⟨#[]⟩),.v (.string ⟨#[]⟩),.v (.string ⟨#[]⟩)] 0 (symT.map cs1)=symT.map cs1:=rfl
  simp only[hset]
  refine⟨⟨rfl,rfl⟩,?_⟩
  refine CallQ.mem 130 (exponents 100 (unL u) 89 (ptrs_cl _ _ _ rfl) (by decide)) rfl (Sub.one (b':=⟨false,unL u,89⟩) rfl (.inr ⟨rfl,[],rfl⟩)) (ptrs_cl _ _ _ rfl) ?_
  refine vv ?_
  refine Sm.nils 150 1 5 [] [110] rfl ?_
  refine Sm.loopM (M0:=[]) (α:={i:Nat//i≤5}) hP (fun i=>txE1 i.val) (fun i=>txM u (posT u i.val)) (fun i=>5-i.val) ⟨0,by omega⟩ (fun _=>clTx _ _) (fun _=>ClE.of rfl) [(1,110),(2,150),(4,120),(7,100),(8,130)] ?_ ?_
  ·exact⟨rfl,trivial,⟨rfl,rfl,rfl,rfl,rfl,rfl,trivial⟩,⟨oR,oR,oR,oR,oR,trivial⟩⟩
  ·rintro⟨i,hi⟩ J hb
   simp only at hb hi⊢
   refine Sm.go 200 ?_
   refine vv ?_
   refine mtch (fun hc=>?_) (fun hc=>?_)
   ·have hc:i<5:=by simp at hc;omega
    have hp:=pt_get 7 hc
    have hx:=ex_get u hc
    have hxb:=ex_bd hu hc
    have hpl:=posT_len u i (by omega)
    have hstep:posT u (i+1)=if 0<ex u i then(if posT u i=[]then[]else posT u i++[42])++facT i (ex u i).toNat else posT u i:=rfl
    have w1:IntKind.i64.wrap ((i:Int)+1)=((i+1:Nat):Int):=by rw[w64 (by omega) (by omega)];omega
    generalize posT u i=L at*
    simp(maxSteps:=2000000) only[go_sem,hp,hx]
    refine⟨⟨by omega,hc⟩,?_⟩
    refine mtch (fun hq=>?_) (fun hq=>?_)
    ·have hq:0<ex u i:=by simpa using hq
     obtain⟨n,hn⟩:∃n:Nat,ex u i=n:=⟨(ex u i).toNat,by omega⟩
     rw[if_pos hq]at hstep
     rw[hn]at hx hstep hxb hq
     simp only[hn]
     rw[Int.toNat_natCast]at hstep
     refine CallQ.ren [(1,1),(2,2)] 200 (bLen L) (clBd 1 2 L (by decide)) rfl rfl ⟨⟨_,rfl,.inl (renBd _ _ _ _ _ _)⟩,⟨_,rfl,.inl (renBy _ _ _)⟩,trivial⟩ rfl (.inr rfl) ?_
     refine vv ?_
     refine mtch (fun hl=>?_) (fun hl=>?_)
     ·have hl:L≠[]:=by rintro rfl;simp at hl
      have hs:posT u (i+1)=(L++[42])++facT i n:=by rw[hstep,if_neg hl]
      refine CallQ.ren [(1,1),(2,2),(3,210)] 211 (bWB L 42 (by omega)) (clBd 1 2 _ (by decide)) rfl rfl ⟨⟨_,rfl,.inl (renBd _ _ _ _ _ _)⟩,⟨_,rfl,.inl (renBy _ _ _)⟩,trivial⟩ rfl (.inl rfl) ?_
      simp only[Mem.ren,List.map_cons,List.map_nil,renBd,renBy,renDe,V.ren,W.ren,Cv.ren,rn,Nat.reduceBEq,cond_true,cond_false]
      simp(maxSteps:=2000000) only[go_sem,hx]
      refine CallQ.ren [(1,1),(2,210),(4,4),(3,220)] 221 (factor_ i n hc (by omega) (by omega) (L++[42]) (by simp<;>omega)) (clF3 _) rfl rfl ⟨⟨_,rfl,.inl (renBd _ _ _ _ _ _)⟩,⟨_,rfl,.inl (renBy _ _ _)⟩,⟨_,rfl,.inr ⟨rfl,[],rfl⟩⟩,trivial⟩ rfl (.inl rfl) ?_
      simp only[Mem.ren,List.map_cons,List.map_nil,renBd,renBy,renDe,V.ren,W.ren,Cv.ren,rn,Nat.reduceBEq,cond_true,cond_false]
      refine vv ?_
      simp only[w1]
      refine hb _ _ ⟨i+1,hc⟩ [(1,1),(2,220),(4,4),(7,7),(8,8)] (by simp only;omega) ?_
      simp only[hs]
      exact⟨rfl,trivial,⟨rfl,rfl,rfl,rfl,rfl,rfl,trivial⟩,⟨.inr ⟨_,rfl,.inl (renBd _ _ _ _ _ _)⟩,.inr ⟨_,rfl,.inl (renBy _ _ _)⟩,oR,oR,oR,trivial⟩⟩
     ·have hl:L=[]:=by cases L;rfl;simp at hl
      subst hl
      have hs:posT u (i+1)=[]++facT i n:=by rw[hstep];rfl
      simp(maxSteps:=2000000) only[go_sem,hx]
      refine CallQ.ren [(1,1),(2,2),(4,4),(3,220)] 221 (factor_ i n hc (by omega) (by omega) ([]) (by simp<;>omega)) (clF3 _) rfl rfl ⟨⟨_,rfl,.inl (renBd _ _ _ _ _ _)⟩,⟨_,rfl,.inl (renBy _ _ _)⟩,⟨_,rfl,.inr ⟨rfl,[],rfl⟩⟩,trivial⟩ rfl (.inl rfl) ?_
      simp only[Mem.ren,List.map_cons,List.map_nil,renBd,renBy,renDe,V.ren,W.ren,Cv.ren,rn,Nat.reduceBEq,cond_true,cond_false]
      refine vv ?_
      simp only[w1]
      refine hb _ _ ⟨i+1,hc⟩ [(1,1),(2,220),(4,4),(7,7),(8,8)] (by simp only;omega) ?_
      simp only[hs]
      exact⟨rfl,trivial,⟨rfl,rfl,rfl,rfl,rfl,rfl,trivial⟩,⟨.inr ⟨_,rfl,.inl (renBd _ _ _ _ _ _)⟩,.inr ⟨_,rfl,.inl (renBy _ _ _)⟩,oR,oR,oR,trivial⟩⟩
    ·have hq:¬0<ex u i:=by simpa using hq
     have hs:posT u (i+1)=L:=by rw[hstep,if_neg hq]
     simp only[w1]
     refine hb _ _ ⟨i+1,hc⟩ [(1,1),(2,2),(4,4),(7,7),(8,8)] (by simp only;omega) ?_
     simp only[hs]
     exact⟨rfl,trivial,⟨rfl,rfl,rfl,rfl,rfl,rfl,trivial⟩,⟨.inr ⟨_,rfl,.inl (renBd _ _ _ _ _ _)⟩,.inr ⟨_,rfl,.inl (renBy _ _ _)⟩,oR,oR,oR,trivial⟩⟩
   ·have hc:i=5:=by simp at hc;omega
    subst hc
    have hpl:=posT_len u 5 (by omega)
    have hmid:midT u=if posT u 5=[]then[49]else posT u 5:=rfl
    have hml:=midT_len u
    generalize posT u 5=L at*
    refine CallQ.ren [(1,1),(2,2)] 200 (bLen L) (clBd 1 2 L (by decide)) rfl rfl ⟨⟨_,rfl,.inl (renBd _ _ _ _ _ _)⟩,⟨_,rfl,.inl (renBy _ _ _)⟩,trivial⟩ rfl (.inr rfl) ?_
    refine vv ?_
    refine mtch (fun hl=>?_) (fun hl=>?_)
    ·have hl:L=[]:=by cases L;rfl;simp at hl;omega
     subst hl
     refine CallQ.ren [(1,1),(2,2),(3,210)] 211 (bWB [] 49 (by omega)) (clBd 1 2 _ (by decide)) rfl rfl ⟨⟨_,rfl,.inl (renBd _ _ _ _ _ _)⟩,⟨_,rfl,.inl (renBy _ _ _)⟩,trivial⟩ rfl (.inl rfl) ?_
     simp only[Mem.ren,List.map_cons,List.map_nil,renBd,renBy,renDe,V.ren,W.ren,Cv.ren,rn,Nat.reduceBEq,cond_true,cond_false]
     refine vv ?_
     refine Sm.loopM (M0:=[]) (α:={i:Nat//i≤5}) hP (fun i=>txE2 i.val) (fun i=>txM u (negT u i.val)) (fun i=>5-i.val) ⟨0,by omega⟩ (fun _=>clTx _ _) (fun _=>ClE.of rfl) [(1,1),(2,210),(4,4),(7,7),(8,8)] ?_ ?_
     ·have hs:negT u 0=[49]:=by show midT u=_;rw[hmid];simp[hl]
      simp only[hs]
      exact⟨rfl,trivial,⟨rfl,rfl,rfl,rfl,rfl,trivial⟩,⟨.inr ⟨_,rfl,.inl (renBd _ _ _ _ _ _)⟩,.inr ⟨_,rfl,.inl (renBy _ _ _)⟩,oR,oR,oR,trivial⟩⟩
     ·rintro⟨i,hi⟩ J hb
      simp only at hb hi⊢
      refine Sm.go 300 ?_
      refine vv ?_
      refine mtch (fun hc=>?_) (fun hc=>?_)
      ·have hc:i<5:=by simp at hc;omega
       have hp:=pt_get 7 hc
       have hx:=ex_get u hc
       have hxb:=ex_bd hu hc
       have hnl:=negT_len u i (by omega)
       have hstep:negT u (i+1)=if ex u i<0 then(negT u i++[47])++facT i (-ex u i).toNat else negT u i:=rfl
       have w1:IntKind.i64.wrap ((i:Int)+1)=((i+1:Nat):Int):=by rw[w64 (by omega) (by omega)];omega
       generalize negT u i=R at*
       simp(maxSteps:=2000000) only[go_sem,hp,hx]
       refine⟨⟨by omega,hc⟩,?_⟩
       refine mtch (fun hq=>?_) (fun hq=>?_)
       ·have hq:ex u i<0:=by simpa using hq
        obtain⟨n,hn⟩:∃n:Nat,ex u i= -(n:Int):=⟨(-ex u i).toNat,by omega⟩
        have hn2:(-ex u i).toNat=n:=by omega
        rw[if_pos hq,hn2]at hstep
        rw[hn]at hx hxb hq
        simp only[hn]
        have w2:IntKind.i64.wrap (0- -(n:Int))=(n:Int):=by rw[w64 (by omega) (by omega)];omega
        have hs:negT u (i+1)=(R++[47])++facT i n:=hstep
        refine CallQ.ren [(1,1),(2,2),(3,310)] 311 (bWB R 47 (by omega)) (clBd 1 2 _ (by decide)) rfl rfl ⟨⟨_,rfl,.inl (renBd _ _ _ _ _ _)⟩,⟨_,rfl,.inl (renBy _ _ _)⟩,trivial⟩ rfl (.inl rfl) ?_
        simp only[Mem.ren,List.map_cons,List.map_nil,renBd,renBy,renDe,V.ren,W.ren,Cv.ren,rn,Nat.reduceBEq,cond_true,cond_false]
        simp(maxSteps:=2000000) only[go_sem,hx,w2]
        refine CallQ.ren [(1,1),(2,310),(4,4),(3,320)] 321 (factor_ i n hc (by omega) (by omega) (R++[47]) (by simp<;>omega)) (clF3 _) rfl rfl ⟨⟨_,rfl,.inl (renBd _ _ _ _ _ _)⟩,⟨_,rfl,.inl (renBy _ _ _)⟩,⟨_,rfl,.inr ⟨rfl,[],rfl⟩⟩,trivial⟩ rfl (.inl rfl) ?_
        simp only[Mem.ren,List.map_cons,List.map_nil,renBd,renBy,renDe,V.ren,W.ren,Cv.ren,rn,Nat.reduceBEq,cond_true,cond_false]
        refine vv ?_
        simp only[w1]
        refine hb _ _ ⟨i+1,hc⟩ [(1,1),(2,320),(4,4),(7,7),(8,8)] (by simp only;omega) ?_
        simp only[hs]
        exact⟨rfl,trivial,⟨rfl,rfl,rfl,rfl,rfl,trivial⟩,⟨.inr ⟨_,rfl,.inl (renBd _ _ _ _ _ _)⟩,.inr ⟨_,rfl,.inl (renBy _ _ _)⟩,oR,oR,oR,trivial⟩⟩
       ·have hq:¬ex u i<0:=by simpa using hq
        have hs:negT u (i+1)=R:=by rw[hstep,if_neg hq]
        simp only[w1]
        refine hb _ _ ⟨i+1,hc⟩ [(1,1),(2,2),(4,4),(7,7),(8,8)] (by simp only;omega) ?_
        simp only[hs]
        exact⟨rfl,trivial,⟨rfl,rfl,rfl,rfl,rfl,trivial⟩,⟨.inr ⟨_,rfl,.inl (renBd _ _ _ _ _ _)⟩,.inr ⟨_,rfl,.inl (renBy _ _ _)⟩,oR,oR,oR,trivial⟩⟩
      ·have hc:i=5:=by simp at hc;omega
       subst hc
       have hnl:=negT_len u 5 (by omega)
       generalize negT u 5=R at*
       refine CallQ.ren [(1,1),(2,2)] 330 (bString R hnl.2 (by omega)) (clBd 1 2 R (by decide)) rfl rfl ⟨⟨_,rfl,.inl (renBd _ _ _ _ _ _)⟩,⟨_,rfl,.inl (renBy _ _ _)⟩,trivial⟩ rfl (.inl rfl) ?_
       refine vv ?_
       exact RetQ.of hR rfl ⟨rfl,trivial⟩ rfl (Sub.nil _) ClM.nil (ClV.of rfl)
    ·have hl:L≠[]:=by rintro rfl;simp at hl
     refine Sm.loopM (M0:=[]) (α:={i:Nat//i≤5}) hP (fun i=>txE2 i.val) (fun i=>txM u (negT u i.val)) (fun i=>5-i.val) ⟨0,by omega⟩ (fun _=>clTx _ _) (fun _=>ClE.of rfl) [(1,1),(2,2),(4,4),(7,7),(8,8)] ?_ ?_
     ·have hs:negT u 0=L:=by show midT u=_;rw[hmid];simp[hl]
      simp only[hs]
      exact⟨rfl,trivial,⟨rfl,rfl,rfl,rfl,rfl,trivial⟩,⟨.inr ⟨_,rfl,.inl (renBd _ _ _ _ _ _)⟩,.inr ⟨_,rfl,.inl (renBy _ _ _)⟩,oR,oR,oR,trivial⟩⟩
     ·rintro⟨i,hi⟩ J hb
      simp only at hb hi⊢
      refine Sm.go 300 ?_
      refine vv ?_
      refine mtch (fun hc=>?_) (fun hc=>?_)
      ·have hc:i<5:=by simp at hc;omega
       have hp:=pt_get 7 hc
       have hx:=ex_get u hc
       have hxb:=ex_bd hu hc
       have hnl:=negT_len u i (by omega)
       have hstep:negT u (i+1)=if ex u i<0 then(negT u i++[47])++facT i (-ex u i).toNat else negT u i:=rfl
       have w1:IntKind.i64.wrap ((i:Int)+1)=((i+1:Nat):Int):=by rw[w64 (by omega) (by omega)];omega
       generalize negT u i=R at*
       simp(maxSteps:=2000000) only[go_sem,hp,hx]
       refine⟨⟨by omega,hc⟩,?_⟩
       refine mtch (fun hq=>?_) (fun hq=>?_)
       ·have hq:ex u i<0:=by simpa using hq
        obtain⟨n,hn⟩:∃n:Nat,ex u i= -(n:Int):=⟨(-ex u i).toNat,by omega⟩
        have hn2:(-ex u i).toNat=n:=by omega
        rw[if_pos hq,hn2]at hstep
        rw[hn]at hx hxb hq
        simp only[hn]
        have w2:IntKind.i64.wrap (0- -(n:Int))=(n:Int):=by rw[w64 (by omega) (by omega)];omega
        have hs:negT u (i+1)=(R++[47])++facT i n:=hstep
        refine CallQ.ren [(1,1),(2,2),(3,310)] 311 (bWB R 47 (by omega)) (clBd 1 2 _ (by decide)) rfl rfl ⟨⟨_,rfl,.inl (renBd _ _ _ _ _ _)⟩,⟨_,rfl,.inl (renBy _ _ _)⟩,trivial⟩ rfl (.inl rfl) ?_
        simp only[Mem.ren,List.map_cons,List.map_nil,renBd,renBy,renDe,V.ren,W.ren,Cv.ren,rn,Nat.reduceBEq,cond_true,cond_false]
        simp(maxSteps:=2000000) only[go_sem,hx,w2]
        refine CallQ.ren [(1,1),(2,310),(4,4),(3,320)] 321 (factor_ i n hc (by omega) (by omega) (R++[47]) (by simp<;>omega)) (clF3 _) rfl rfl ⟨⟨_,rfl,.inl (renBd _ _ _ _ _ _)⟩,⟨_,rfl,.inl (renBy _ _ _)⟩,⟨_,rfl,.inr ⟨rfl,[],rfl⟩⟩,trivial⟩ rfl (.inl rfl) ?_
        simp only[Mem.ren,List.map_cons,List.map_nil,renBd,renBy,renDe,V.ren,W.ren,Cv.ren,rn,Nat.reduceBEq,cond_true,cond_false]
        refine vv ?_
        simp only[w1]
        refine hb _ _ ⟨i+1,hc⟩ [(1,1),(2,320),(4,4),(7,7),(8,8)] (by simp only;omega) ?_
        simp only[hs]
        exact⟨rfl,trivial,⟨rfl,rfl,rfl,rfl,rfl,trivial⟩,⟨.inr ⟨_,rfl,.inl (renBd _ _ _ _ _ _)⟩,.inr ⟨_,rfl,.inl (renBy _ _ _)⟩,oR,oR,oR,trivial⟩⟩
       ·have hq:¬ex u i<0:=by simpa using hq
        have hs:negT u (i+1)=R:=by rw[hstep,if_neg hq]
        simp only[w1]
        refine hb _ _ ⟨i+1,hc⟩ [(1,1),(2,2),(4,4),(7,7),(8,8)] (by simp only;omega) ?_
        simp only[hs]
        exact⟨rfl,trivial,⟨rfl,rfl,rfl,rfl,rfl,trivial⟩,⟨.inr ⟨_,rfl,.inl (renBd _ _ _ _ _ _)⟩,.inr ⟨_,rfl,.inl (renBy _ _ _)⟩,oR,oR,oR,trivial⟩⟩
      ·have hc:i=5:=by simp at hc;omega
       subst hc
       have hnl:=negT_len u 5 (by omega)
       generalize negT u 5=R at*
       refine CallQ.ren [(1,1),(2,2)] 330 (bString R hnl.2 (by omega)) (clBd 1 2 R (by decide)) rfl rfl ⟨⟨_,rfl,.inl (renBd _ _ _ _ _ _)⟩,⟨_,rfl,.inl (renBy _ _ _)⟩,trivial⟩ rfl (.inl rfl) ?_
       refine vv ?_
       exact RetQ.of hR rfl ⟨rfl,trivial⟩ rfl (Sub.nil _) ClM.nil (ClV.of rfl)
end Go.Proofs.YtlnpgbnhcondjaaGreatDoor.Fx
namespace Go.Proofs.YtlnpgbnhcondjaaGreatDoor.Fx
set_option linter.unusedSimpArgs false
set_option linter.unusedVariables false
set_option maxRecDepth 100000
set_option maxHeartbeats 4000000
def ixU (n:List UInt8):List (List UInt8)→Nat→Option Nat
 |[],_=>none
 |x::r,k=>if x=n then some k else ixU n r (k+1)
def readF (f:List UInt8):Option (Nat×Nat):=
 if (cutB 94 f).2.2=true then
  match (cutB 94 f).2.1 with
  |[d]=>if 50≤d.toNat∧d.toNat≤57 then(ixU (cutB 94 f).1 symT 0).map fun i=>(i,d.toNat-48)else none
  |_=>none
 else(ixU (cutB 94 f).1 symT 0).map fun i=>(i,1)
def uset (u:Un)(i:Nat)(v:Int):Un:=
 match i with
 |0=>{u with m:=v}
 |1=>{u with kg:=v}
 |2=>{u with s:=v}
 |3=>{u with a:=v}
 |_=>{u with k:=v}
def facsF (sg:Int):Un→List (List UInt8)→Option Un
 |u,[]=>some u
 |u,f::r=>match readF f with
  |none=>none
  |some (i,n)=>if ex u i=0 then facsF sg (uset u i (sg*n)) r else none
def partsF:Nat→Un→List (List UInt8)→Option Un
 |_,u,[]=>some u
 |k,u,p::r=>if k=0∧p=[49]then partsF (k+1) u r else
  match facsF (if k=0 then 1 else-1) u (if k=0 then splB 42 p else[p])with
  |none=>none
  |some u'=>partsF (k+1) u' r
def parseQ (l:List UInt8):Option Un:=partsF 0 u0 (splB 47 l)
theorem ex_uset (u:Un)(v:Int):∀i,i<5→∀j,j<5→ex (uset u i v) j=if j=i then v else ex u j:=
 five (Q:=fun i=>∀j,j<5→ex (uset u i v) j=if j=i then v else ex u j) (five rfl rfl rfl rfl rfl) (five rfl rfl rfl rfl rfl) (five rfl rfl rfl rfl rfl) (five rfl rfl rfl rfl rfl) (five rfl rfl rfl rfl rfl)
theorem ex_ext {a b:Un}(h:∀j,j<5→ex a j=ex b j):a=b:=by
 have h0:=h 0 (by omega);have h1:=h 1 (by omega);have h2:=h 2 (by omega);have h3:=h 3 (by omega);have h4:=h 4 (by omega)
 cases a;cases b
 simp only[ex,List.getD_cons_zero,List.getD_cons_succ]at h0 h1 h2 h3 h4
 simp only[Un.mk.injEq]
 exact⟨h0,h1,h2,h3,h4⟩
theorem ixU_lt (n:List UInt8):∀(l:List (List UInt8)) (k i:Nat),ixU n l k=some i→i<k+l.length
 |[],_,_,h=>by cases h
 |x::l,k,i,h=>by
  unfold ixU at h
  split at h
  ·cases h;simp
  ·have:=ixU_lt n l (k+1) i h
   simp;omega
theorem readF_bd {f:List UInt8}{i n:Nat}(h:readF f=some (i,n)):i<5∧1≤n∧n≤9:=by
 unfold readF at h
 split at h
 ·split at h
  ·split at h
   ·rename_i d _ hd
    cases hi:ixU (cutB 94 f).1 symT 0 with
    |none=>rw[hi]at h;cases h
    |some j=>
     rw[hi]at h
     have:=ixU_lt _ _ _ _ hi
     simp only[Option.map_some,Option.some.injEq,Prod.mk.injEq]at h
     have hl:symT.length=5:=rfl
     omega
   ·cases h
  ·cases h
 ·cases hi:ixU (cutB 94 f).1 symT 0 with
  |none=>rw[hi]at h;cases h
  |some j=>
   rw[hi]at h
   have:=ixU_lt _ _ _ _ hi
   simp only[Option.map_some,Option.some.injEq,Prod.mk.injEq]at h
   have hl:symT.length=5:=rfl
   omega
theorem fac_facts:∀i:Fin 5,∀n:Fin 9,readF (facT i.val (n.val+1))=some (i.val,n.val+1)∧47∉facT i.val (n.val+1)∧42∉facT i.val (n.val+1)∧facT i.val (n.val+1)≠[49]:=by decide
theorem fac_read {i n:Nat}(hi:i<5)(h1:1≤n)(h9:n≤9):readF (facT i n)=some (i,n)∧47∉facT i n∧42∉facT i n∧facT i n≠[49]:=by
 have:=fac_facts ⟨i,hi⟩ ⟨n-1,by omega⟩
 simp only[show n-1+1=n by omega]at this
 exact this
theorem splB_no {c:UInt8}:∀{a:List UInt8},c∉a→splB c a=[a]
 |[],_=>rfl
 |x::a,h=>by
  have hx:¬x=c:=fun e=>h (by simp[e])
  rw[splB_cons,if_neg hx,splB_no (fun e=>h (by simp[e]))]
theorem splB_app {c:UInt8}(b:List UInt8):∀{a:List UInt8},c∉a→splB c (a++c::b)=a::splB c b
 |[],_=>by rw[List.nil_append,splB_cons,if_pos rfl]
 |x::a,h=>by
  have hx:¬x=c:=fun e=>h (by simp[e])
  rw[List.cons_append,splB_cons,if_neg hx,splB_app b (fun e=>h (by simp[e]))]
theorem splB_join {c:UInt8}:∀(L:List (List UInt8)) {a:List UInt8},c∉a→(∀x∈L,c∉x)→splB c (a++L.flatMap (fun x=>c::x))=a::L
 |[],a,h,_=>by simpa using splB_no h
 |x::L,a,h,hL=>by
  rw[List.flatMap_cons,List.cons_append,splB_app _ h,splB_join L (hL x (by simp)) (fun y hy=>hL y (by simp[hy]))]
def posL (u:Un):Nat→List (List UInt8)
 |0=>[]
 |i+1=>if 0<ex u i then posL u i++[facT i (ex u i).toNat]else posL u i
def negL (u:Un):Nat→List (List UInt8)
 |0=>[]
 |i+1=>if ex u i<0 then negL u i++[facT i (-ex u i).toNat]else negL u i
def joinS:List (List UInt8)→List UInt8
 |[]=>[]
 |x::L=>x++L.flatMap (fun y=>42::y)
theorem joinS_snoc (L:List (List UInt8))(x:List UInt8):joinS (L++[x])=if L=[]then x else joinS L++42::x:=by
 cases L with
 |nil=>simp[joinS]
 |cons y L=>simp[joinS]
theorem negT_eq (u:Un):∀i,negT u i=midT u++(negL u i).flatMap (fun x=>47::x)
 |0=>by simp[negT,negL]
 |i+1=>by
  have ih:=negT_eq u i
  unfold negT negL
  split
  ·rw[ih];simp
  ·exact ih
section
variable {u:Un} (hu:uokU u=true)
include hu
theorem pos_mem:∀i,i≤5→∀x∈posL u i,∃j n,j<5∧1≤n∧n≤9∧x=facT j n
 |0,_,x,hx=>by cases hx
 |i+1,hi,x,hx=>by
  have hb:=ex_bd hu (show i<5 by omega)
  unfold posL at hx
  split at hx
  ·rcases List.mem_append.1 hx with h|h
   ·exact pos_mem i (by omega) x h
   ·rw[List.mem_singleton.1 h]
    exact⟨i,_,by omega,by omega,by omega,rfl⟩
  ·exact pos_mem i (by omega) x hx
theorem neg_mem:∀i,i≤5→∀x∈negL u i,∃j n,j<5∧1≤n∧n≤9∧x=facT j n
 |0,_,x,hx=>by cases hx
 |i+1,hi,x,hx=>by
  have hb:=ex_bd hu (show i<5 by omega)
  unfold negL at hx
  split at hx
  ·rcases List.mem_append.1 hx with h|h
   ·exact neg_mem i (by omega) x h
   ·rw[List.mem_singleton.1 h]
    exact⟨i,_,by omega,by omega,by omega,rfl⟩
  ·exact neg_mem i (by omega) x hx
omit hu in
theorem posT_eq:∀i,i≤5→posT u i=joinS (posL u i)∧(posT u i=[]↔posL u i=[])
 |0,_=>⟨rfl,by simp[posT,posL]⟩
 |i+1,hi=>by
  have ih:=posT_eq i (by omega)
  have hfl:=sy_len i (by omega)
  unfold posT posL
  split
  ·constructor
   ·rw[joinS_snoc]
    by_cases h:posL u i=[]
    ·rw[if_pos h,if_pos (ih.2.2 h)];rfl
    ·rw[if_neg h,if_neg (fun e=>h (ih.2.1 e)),ih.1];simp
   ·constructor
    ·intro h
     exfalso
     have h2:facT i (ex u i).toNat=[]:=by
      have:=congrArg List.length h
      simp at this
      exact this.2
     have:(sy i).length=0:=by
      unfold facT at h2
      have:=congrArg List.length h2
      simp only[List.length_append,List.length_nil]at this
      omega
     omega
    ·intro h;simp at h
  ·exact ih
def wP (u:Un):Nat→Un
 |0=>u0
 |i+1=>if 0<ex u i then uset (wP u i) i (ex u i)else wP u i
def wN (u:Un):Nat→Un
 |0=>wP u 5
 |i+1=>if ex u i<0 then uset (wN u i) i (ex u i)else wN u i
omit hu in
theorem ex_u0:∀j,j<5→ex u0 j=0:=five rfl rfl rfl rfl rfl
omit hu in
theorem wP_ex (u:Un):∀i,i≤5→∀j,j<5→ex (wP u i) j=if j<i∧0<ex u j then ex u j else 0
 |0,_,j,hj=>by rw[if_neg (by omega)];exact ex_u0 j hj
 |i+1,hi,j,hj=>by
  have ih:=wP_ex u i (by omega) j hj
  unfold wP
  split
  ·rw[ex_uset _ _ i (by omega) j hj]
   split
   ·rename_i h1 h2;subst h2;rw[if_pos ⟨by omega,h1⟩]
   ·rw[ih]
    by_cases h:j<i
    ·simp[h,show j<i+1 by omega]
    ·simp[h,show ¬j<i+1 by omega]
  ·rename_i h0
   rw[ih]
   by_cases h:j=i
   ·subst h;simp[h0]
   ·by_cases h2:j<i
    ·simp[h2,show j<i+1 by omega]
    ·simp[h2,show ¬j<i+1 by omega]
omit hu in
theorem wN_ex (u:Un):∀i,i≤5→∀j,j<5→ex (wN u i) j=if 0<ex u j∨(j<i∧ex u j<0)then ex u j else 0
 |0,_,j,hj=>by
  have:=wP_ex u 5 (by omega) j hj
  unfold wN
  rw[this]
  simp[hj]
 |i+1,hi,j,hj=>by
  have ih:=wN_ex u i (by omega) j hj
  unfold wN
  split
  ·rw[ex_uset _ _ i (by omega) j hj]
   split
   ·rename_i h1 h2;subst h2;rw[if_pos (.inr ⟨by omega,h1⟩)]
   ·rw[ih]
    by_cases h:j<i
    ·simp[h,show j<i+1 by omega]
    ·simp[h,show ¬j<i+1 by omega]
  ·rename_i h0
   rw[ih]
   by_cases h:j=i
   ·subst h;simp[h0]
   ·by_cases h2:j<i
    ·simp[h2,show j<i+1 by omega]
    ·simp[h2,show ¬j<i+1 by omega]
omit hu in
theorem wN_all (u:Un):wN u 5=u:=ex_ext fun j hj=>by
 rw[wN_ex u 5 (by omega) j hj]
 split
 ·rfl
 ·omega
omit hu in
theorem facsF_cons (sg:Int)(v:Un)(f:List UInt8)(r:List (List UInt8)):facsF sg v (f::r)=(match readF f with
  |none=>none
  |some (i,n)=>if ex v i=0 then facsF sg (uset v i (sg*n)) r else none):=rfl
omit hu in
theorem partsF_cons (k:Nat)(v:Un)(p:List UInt8)(r:List (List UInt8)):partsF k v (p::r)=(if k=0∧p=[49]then partsF (k+1) v r else
  match facsF (if k=0 then 1 else-1) v (if k=0 then splB 42 p else[p])with
  |none=>none
  |some u'=>partsF (k+1) u' r):=rfl
omit hu in
theorem facsF_app (sg:Int):∀(l:List (List UInt8)) (m:List (List UInt8)) (v w:Un),facsF sg v l=some w→facsF sg v (l++m)=facsF sg w m
 |[],m,v,w,h=>by cases h;rfl
 |f::l,m,v,w,h=>by
  rw[List.cons_append,facsF_cons]
  rw[facsF_cons]at h
  split at h
  ·cases h
  ·rename_i i n hr
   split at h
   ·rename_i h0
    simp only[h0,if_true]
    exact facsF_app sg l m _ w h
   ·cases h
theorem facs_pos:∀i,i≤5→facsF 1 u0 (posL u i)=some (wP u i)
 |0,_=>rfl
 |i+1,hi=>by
  have ih:=facs_pos i (by omega)
  have hb:=ex_bd hu (show i<5 by omega)
  have hw:=wP_ex u i (by omega) i (by omega)
  rw[if_neg (by omega)]at hw
  unfold posL wP
  split
  ·rw[facsF_app 1 _ _ _ _ ih]
   unfold facsF
   rw[(fac_read (show i<5 by omega) (n:=(ex u i).toNat) (by omega) (by omega)).1]
   simp only[hw,if_true]
   unfold facsF
   rw[show(1:Int)*((ex u i).toNat:Int)=ex u i by omega]
  ·exact ih
omit hu in
theorem partsF_app:∀(l m:List (List UInt8)) (k:Nat) (v w:Un),partsF k v l=some w→partsF k v (l++m)=partsF (k+l.length) w m
 |[],m,k,v,w,h=>by cases h;rfl
 |p::l,m,k,v,w,h=>by
  rw[List.cons_append,List.length_cons,show k+(l.length+1)=k+1+l.length by omega,partsF_cons]
  rw[partsF_cons]at h
  split at h
  ·rename_i h0
   rw[if_pos h0]
   exact partsF_app l m _ v w h
  ·rename_i h0
   rw[if_neg h0]
   split at h
   ·cases h
   ·rename_i u' hf
    exact partsF_app l m _ u' w h
theorem parts_neg:∀i,i≤5→partsF 1 (wP u 5) (negL u i)=some (wN u i)
 |0,_=>rfl
 |i+1,hi=>by
  have ih:=parts_neg i (by omega)
  have hb:=ex_bd hu (show i<5 by omega)
  have hw:=wN_ex u i (by omega) i (by omega)
  unfold negL wN
  split
  ·rename_i h0
   rw[if_neg (by omega)]at hw
   rw[partsF_app _ _ _ _ _ ih]
   obtain⟨q1,_⟩:=fac_read (show i<5 by omega) (n:=(-ex u i).toNat) (by omega) (by omega)
   unfold partsF
   rw[if_neg (by omega),if_neg (by omega),if_neg (by omega)]
   unfold facsF
   rw[q1]
   simp only[hw,if_true]
   unfold facsF
   simp only
   unfold partsF
   rw[show(-1:Int)*((-ex u i).toNat:Int)=ex u i by omega]
  ·exact ih
theorem txt_eq:txt u=midT u++(negL u 5).flatMap (fun x=>47::x):=by
 rw[txt,hu,cond_true,negT_eq]
theorem mid_no:47∉midT u:=by
 unfold midT
 split
 ·decide
 ·rw[(posT_eq (u:=u) 5 (by omega)).1]
  have hm:=pos_mem hu 5 (by omega)
  generalize posL u 5=L at hm
  intro h
  have key:∀x∈L,47∉x:=fun x hx=>by
   obtain⟨j,n,h1,h2,h3,rfl⟩:=hm x hx
   exact(fac_read h1 h2 h3).2.1
  cases L with
  |nil=>cases h
  |cons x L=>
   rcases List.mem_append.1 h with h|h
   ·exact key x (by simp) h
   ·obtain⟨y,hy,h⟩:=List.mem_flatMap.1 h
    rcases List.mem_cons.1 h with h|h
    ·cases h
    ·exact key y (by simp[hy]) h
theorem parse_txt:parseQ (txt u)=some u:=by
 have hneg:∀x∈negL u 5,47∉x:=fun x hx=>by
  obtain⟨j,n,h1,h2,h3,rfl⟩:=neg_mem hu 5 (by omega) x hx
  exact(fac_read h1 h2 h3).2.1
 unfold parseQ
 rw[txt_eq hu,splB_join _ (mid_no hu) hneg]
 have hp:=posT_eq (u:=u) 5 (by omega)
 have hfin:partsF 1 (wP u 5) (negL u 5)=some u:=by rw[parts_neg hu 5 (by omega),wN_all]
 unfold partsF
 by_cases h:posT u 5=[]
 ·have hm:midT u=[49]:=by rw[midT,if_pos h]
  have hw:wP u 5=u0:=by
   have:=facs_pos hu 5 (by omega)
   rw[hp.2.1 h]at this
   exact(Option.some.inj this).symm
  rw[if_pos ⟨rfl,hm⟩]
  rw[hw]at hfin
  exact hfin
 ·have hm:midT u=joinS (posL u 5):=by rw[midT,if_neg h,hp.1]
  have hL:posL u 5≠[]:=fun e=>h (hp.2.2 e)
  have hpm:=pos_mem hu 5 (by omega)
  have hsp:splB 42 (midT u)=posL u 5:=by
   rw[hm]
   cases hq:posL u 5 with
   |nil=>exact absurd hq hL
   |cons x L=>
    rw[hq]at hpm
    have key:∀y∈x::L,42∉y:=fun y hy=>by
     obtain⟨j,n,h1,h2,h3,rfl⟩:=hpm y hy
     exact(fac_read h1 h2 h3).2.2.1
    exact splB_join L (key x (by simp)) (fun y hy=>key y (by simp[hy]))
  have hne:midT u≠[49]:=by
   intro e
   have:splB 42 ([49]:List UInt8)=[[49]]:=by decide
   rw[e,this]at hsp
   obtain⟨j,n,h1,h2,h3,he⟩:=hpm [49] (by rw[←hsp];simp)
   exact(fac_read h1 h2 h3).2.2.2 he.symm
  rw[if_neg (fun e=>hne e.2),if_pos rfl,if_pos rfl,hsp,facs_pos hu 5 (by omega)]
  exact hfin
end
end Go.Proofs.YtlnpgbnhcondjaaGreatDoor.Fx
