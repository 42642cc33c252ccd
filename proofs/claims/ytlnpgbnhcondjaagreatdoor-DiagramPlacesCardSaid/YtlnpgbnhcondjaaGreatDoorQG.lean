/-  -/
import Derived.Test.YtlnpgbnhcondjaaGreatDoorPS
import Derived.Test.YtlnpgbnhcondjaaGreatDoorY0
import Derived.Test.YtlnpgbnhcondjaaGreatDoorMA
namespace Go.Proofs.YtlnpgbnhcondjaaGreatDoor.Fx
open Vg Tf
set_option linter.unusedSimpArgs false
set_option linter.unusedVariables false
set_option linter.unusedSectionVars false
set_option maxRecDepth 100000
set_option maxHeartbeats 4000000
def fillM {α:Type}(f:α→Str×Value):List α→Al
 |[]=>[]
 |x::l=>aput (fillM f l) ⟨(f x).1.toArray⟩ (f x).2
def fillS:List Str→Nat→Al
 |[],_=>[]
 |x::l,k=>aput (fillS l (k+1)) ⟨x.toArray⟩ (iv k)
def idxS (s:Str):List Str→Nat→Option Nat
 |[],_=>none
 |x::l,k=>if x=s then some k else idxS s l (k+1)
def ftV (t:Ft):Value:= .agg (ftR t).toArray
def tdF (t:Td):Str×Value:=(t.nm,ftV t.ty)
def cuF (c:CuL):Str×Value:=(c.c.nm,.agg #[vsl c.x c.c.xs.length,vsl c.y c.c.ys.length])
def maF (m:MpL):Str×Value:=(m.nm,.agg #[vsl m.x m.xs.length,vsl m.y m.ys.length,vsl m.z m.zs.length])
structure ChkOk (H:Hp) (cp:Value) (d:DgL) (bT bC bM bS:Nat):Prop where
 p:PtH H cp (d.r++[.map (some bT),.map (some bC),.map (some bM),.map (some bS)])
 t:MpB H bT (fillM tdF d.tys)
 c:MpB H bC (fillM cuF d.cus)
 m:MpB H bM (fillM maF d.mas)
 s:MpB H bS (fillS (sigs d.c) 0)
theorem PtH.ptr {H:Hp}{v:Value}{cs:List Value}(h:PtH H v cs):∃a,v= .pointer a:=by
 obtain⟨l,h1,_⟩:=h
 exact⟨_,h1⟩
theorem cokV {L:List Nat}{cs:List Cv}(h:cs.all Cv.isV=true):cs.all (Cv.cok L)=true:=by
 rw[List.all_eq_true]at h⊢
 intro c hc
 have:=h c hc
 cases c<;>simp[Cv.isV]at this<;>rfl
theorem MpB.lt {C:Cx}{b:Nat}{l:Al}(h:MpB C.hp b l):b<C.w0.heap.size:=by
 obtain⟨_,_,h,_⟩:=h
 exact Cx.hp_lt h
theorem MpB.keep {H H':Hp}{b l0:Nat}{l:Al}(h:MpB H b l)(k:∀b o,b≠l0→H b o→H' b o)(hne:b≠l0):MpB H' b l:=by
 obtain⟨es,ck,q1,q2⟩:=h
 exact⟨es,ck,k _ _ hne q1,q2⟩
end Go.Proofs.YtlnpgbnhcondjaaGreatDoor.Fx
namespace Go.Proofs.YtlnpgbnhcondjaaGreatDoor.Fx
set_option linter.unusedVariables false
set_option linter.unusedSectionVars false
set_option linter.unusedSimpArgs false
def rdy (B:Nat→List Nat)(l:List Nat)(i:Nat):Bool:= !l.contains i&&(B i).all fun k=>l.contains k
def OrdOk (B:Nat→List Nat)(N:Nat)(l:List Nat):Prop:=l.Nodup∧(∀i∈l,i<N)∧∀a i b,l=a++i::b→∀k∈B i,k∈a
theorem OrdOk.nil (B:Nat→List Nat)(N:Nat):OrdOk B N []:=⟨List.nodup_nil,by simp,fun a i b h=>by simp at h⟩
theorem OrdOk.snoc {B:Nat→List Nat}{N:Nat}{l:List Nat}{i:Nat}(h:OrdOk B N l)(hi:i<N)(hr:rdy B l i=true):OrdOk B N (l++[i]):=by
 obtain⟨h1,h2,h3⟩:=h
 simp only[rdy,Bool.and_eq_true,Bool.not_eq_true',List.all_eq_true,List.contains_iff_mem]at hr
 obtain⟨r1,r2⟩:=hr
 have r1:i∉l:=fun hh=>by rw[List.contains_iff_mem.2 hh]at r1;cases r1
 refine⟨?_,fun j hj=>?_,fun a j b hab k hk=>?_⟩
 ·rw[List.nodup_append]
  refine⟨h1,by simp,fun a ha b hb=>?_⟩
  rw[List.mem_singleton]at hb
  rintro rfl
  exact r1 (hb▸ha)
 ·rw[List.mem_append,List.mem_singleton]at hj
  rcases hj with hj|rfl
  ·exact h2 j hj
  ·exact hi
 ·rcases List.eq_nil_or_concat b with rfl|⟨b',x,rfl⟩
  ·have:=List.append_inj_right' hab rfl
   simp at this
   subst this
   have hl:=List.append_inj_left' hab rfl
   rw[←hl];exact r2 k hk
  ·have e:l++[i]=(a++j::b')++[x]:=by rw[hab];simp
   have hl:=List.append_inj_left' e rfl
   exact h3 a j b' hl k hk
inductive Way (B:Nat→List Nat):Nat→Nat→Prop
 |one {i k:Nat}:k∈B i→Way B i k
 |more {i k j:Nat}:k∈B i→Way B k j→Way B i j
theorem Way.trans {B:Nat→List Nat}{i j k:Nat}(h:Way B i j)(h2:Way B j k):Way B i k:=by
 induction h with
 |one hk=>exact .more hk h2
 |more hk _ ih=>exact .more hk (ih h2)
def Grw (s s':List Bool):Prop:=s'.length=s.length∧∀k,s.getD k false=true→s'.getD k false=true
theorem Grw.refl (s:List Bool):Grw s s:=⟨rfl,fun _ h=>h⟩
theorem Grw.trans {a b c:List Bool}(h:Grw a b)(k:Grw b c):Grw a c:=⟨k.1.trans h.1,fun i hi=>k.2 i (h.2 i hi)⟩
theorem getD_set {s:List Bool}{k:Nat}(j:Nat)(h:k<s.length):(s.set k true).getD j false=if k=j then true else s.getD j false:=by
 simp only[List.getD_eq_getElem?_getD,List.getElem?_set]
 by_cases hj:k=j
 ·subst hj;simp[h]
 ·simp[hj]
theorem Grw.set {s:List Bool}{k:Nat}(h:k<s.length):Grw s (s.set k true):=⟨by simp,fun j hj=>by rw[getD_set j h];split<;>simp_all⟩
def Cls (B:Nat→List Nat)(from_:Nat)(s s':List Bool):Prop:=∀j,s.getD j false=false→s'.getD j false=true→∀k∈B j,k≠from_∧s'.getD k false=true
theorem Cls.trans {B:Nat→List Nat}{f:Nat}{a b c:List Bool}(h:Cls B f a b)(k:Cls B f b c)(hg:Grw b c):Cls B f a c:=fun j h1 h2 x hx=>by
 cases hb:b.getD j false with
 |false=>exact k j hb h2 x hx
 |true=>
  obtain⟨q1,q2⟩:=h j h1 hb x hx
  exact⟨q1,hg.2 x q2⟩
end Go.Proofs.YtlnpgbnhcondjaaGreatDoor.Fx
