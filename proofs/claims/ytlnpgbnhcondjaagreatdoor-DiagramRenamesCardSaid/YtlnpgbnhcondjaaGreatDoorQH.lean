/-  -/
import Derived.Test.YtlnpgbnhcondjaaGreatDoorPS
import Derived.Test.YtlnpgbnhcondjaaGreatDoorQ7
import Derived.Test.YtlnpgbnhcondjaaGreatDoorMA
import Derived.Test.YtlnpgbnhcondjaaGreatDoorMB
namespace Go.Proofs.YtlnpgbnhcondjaaGreatDoor.Fx
open Vg Tf
set_option linter.unusedSimpArgs false
set_option linter.unusedVariables false
set_option maxRecDepth 100000
set_option maxHeartbeats 4000000
def fillM {α:Type}(f:α→Str×Value):List α→Al
 |[]=>[]
 |x::l=>aput (fillM f l) ⟨(f x).1.toArray⟩ (f x).2
def fillS:List Str→Nat→Al
 |[],_=>[]
 |x::l,k=>aput (fillS l (k+1)) ⟨x.toArray⟩ (iv k)
def idxS (s:Str):List Str→Nat→Option Nat
 |[],_=>none
 |x::l,k=>if x=s then some k else idxS s l (k+1)
def ftV (t:Ft):Value:= .agg (ftR t).toArray
def tdF (t:Td):Str×Value:=(t.nm,ftV t.ty)
def cuF (c:CuL):Str×Value:=(c.c.nm,.agg #[vsl c.x c.c.xs.length,vsl c.y c.c.ys.length])
def maF (m:MpL):Str×Value:=(m.nm,.agg #[vsl m.x m.xs.length,vsl m.y m.ys.length,vsl m.z m.zs.length])
structure ChkOk (H:Hp) (cp:Value) (d:DgL) (bT bC bM bS:Nat):Prop where
 p:PtH H cp (d.r++[.map (some bT),.map (some bC),.map (some bM),.map (some bS)])
 t:MpB H bT (fillM tdF d.tys)
 c:MpB H bC (fillM cuF d.cus)
 m:MpB H bM (fillM maF d.mas)
 s:MpB H bS (fillS (sigs d.c) 0)
theorem PtH.ptr {H:Hp}{v:Value}{cs:List Value}(h:PtH H v cs):∃a,v= .pointer a:=by
 obtain⟨l,h1,_⟩:=h
 exact⟨_,h1⟩
theorem cokV {L:List Nat}{cs:List Cv}(h:cs.all Cv.isV=true):cs.all (Cv.cok L)=true:=by
 rw[List.all_eq_true]at h⊢
 intro c hc
 have:=h c hc
 cases c<;>simp[Cv.isV]at this<;>rfl
theorem MpB.lt {C:Cx}{b:Nat}{l:Al}(h:MpB C.hp b l):b<C.w0.heap.size:=by
 obtain⟨_,_,h,_⟩:=h
 exact Cx.hp_lt h
theorem MpB.keep {H H':Hp}{b l0:Nat}{l:Al}(h:MpB H b l)(k:∀b o,b≠l0→H b o→H' b o)(hne:b≠l0):MpB H' b l:=by
 obtain⟨es,ck,q1,q2⟩:=h
 exact⟨es,ck,k _ _ hne q1,q2⟩
end Go.Proofs.YtlnpgbnhcondjaaGreatDoor.Fx
namespace Go.Proofs.YtlnpgbnhcondjaaGreatDoor.Fx
set_option linter.unusedVariables false
set_option linter.unusedSimpArgs false
def rdy (B:Nat→List Nat)(l:List Nat)(i:Nat):Bool:= !l.contains i&&(B i).all fun k=>l.contains k
def OrdOk (B:Nat→List Nat)(N:Nat)(l:List Nat):Prop:=l.Nodup∧(∀i∈l,i<N)∧∀a i b,l=a++i::b→∀k∈B i,k∈a
theorem OrdOk.nil (B:Nat→List Nat)(N:Nat):OrdOk B N []:=⟨List.nodup_nil,by simp,fun a i b h=>by simp at h⟩
theorem OrdOk.snoc {B:Nat→List Nat}{N:Nat}{l:List Nat}{i:Nat}(h:OrdOk B N l)(hi:i<N)(hr:rdy B l i=true):OrdOk B N (l++[i]):=by
 obtain⟨h1,h2,h3⟩:=h
 simp only[rdy,Bool.and_eq_true,Bool.not_eq_true',List.all_eq_true,List.contains_iff_mem]at hr
 obtain⟨r1,r2⟩:=hr
 have r1:i∉l:=fun hh=>by rw[List.contains_iff_mem.2 hh]at r1;cases r1
 refine⟨?_,fun j hj=>?_,fun a j b hab k hk=>?_⟩
 ·rw[List.nodup_append]
  refine⟨h1,by simp,fun a ha b hb=>?_⟩
  rw[List.mem_singleton]at hb
  rintro rfl
  exact r1 (hb▸ha)
 ·rw[List.mem_append,List.mem_singleton]at hj
  rcases hj with hj|rfl
  ·exact h2 j hj
  ·exact hi
 ·rcases List.eq_nil_or_concat b with rfl|⟨b',x,rfl⟩
  ·have:=List.append_inj_right' hab rfl
   simp at this
   subst this
   have hl:=List.append_inj_left' hab rfl
   rw[←hl];exact r2 k hk
  ·have e:l++[i]=(a++j::b')++[x]:=by rw[hab];simp
   have hl:=List.append_inj_left' e rfl
   exact h3 a j b' hl k hk
inductive Way (B:Nat→List Nat):Nat→Nat→Prop
 |one {i k:Nat}:k∈B i→Way B i k
 |more {i k j:Nat}:k∈B i→Way B k j→Way B i j
theorem Way.trans {B:Nat→List Nat}{i j k:Nat}(h:Way B i j)(h2:Way B j k):Way B i k:=by
 induction h with
 |one hk=>exact .more hk h2
 |more hk _ ih=>exact .more hk (ih h2)
def Grw (s s':List Bool):Prop:=s'.length=s.length∧∀k,s.getD k false=true→s'.getD k false=true
theorem Grw.refl (s:List Bool):Grw s s:=⟨rfl,fun _ h=>h⟩
theorem Grw.trans {a b c:List Bool}(h:Grw a b)(k:Grw b c):Grw a c:=⟨k.1.trans h.1,fun i hi=>k.2 i (h.2 i hi)⟩
theorem getD_set {s:List Bool}{k:Nat}(j:Nat)(h:k<s.length):(s.set k true).getD j false=if k=j then true else s.getD j false:=by
 simp only[List.getD_eq_getElem?_getD,List.getElem?_set]
 by_cases hj:k=j
 ·subst hj;simp[h]
 ·simp[hj]
theorem Grw.set {s:List Bool}{k:Nat}(h:k<s.length):Grw s (s.set k true):=⟨by simp,fun j hj=>by rw[getD_set j h];split<;>simp_all⟩
def Cls (B:Nat→List Nat)(from_:Nat)(s s':List Bool):Prop:=∀j,s.getD j false=false→s'.getD j false=true→∀k∈B j,k≠from_∧s'.getD k false=true
theorem Cls.trans {B:Nat→List Nat}{f:Nat}{a b c:List Bool}(h:Cls B f a b)(k:Cls B f b c)(hg:Grw b c):Cls B f a c:=fun j h1 h2 x hx=>by
 cases hb:b.getD j false with
 |false=>exact k j hb h2 x hx
 |true=>
  obtain⟨q1,q2⟩:=h j h1 hb x hx
  exact⟨q1,hg.2 x q2⟩
end Go.Proofs.YtlnpgbnhcondjaaGreatDoor.Fx
namespace Go.Proofs.YtlnpgbnhcondjaaGreatDoor.Fx
open Vg Tf
set_option linter.unusedSimpArgs false
set_option linter.unusedVariables false
set_option maxRecDepth 100000
set_option maxHeartbeats 4000000
def ft0:Ft:=⟨0,false,0,0,0,0,0,0,0,0⟩
def tyQ (l:List Td)(s:Str):Option Ft:=(l.find? (fun t=>t.nm==s)).map (·.ty)
def tyN (l:List Td)(s:Str):Ft:=(tyQ l s).getD ft0
def sgN (l:List Str)(s:Str):Nat:=(idxS s l 0).getD 0
def sgB (l:List Str)(s:Str):Bool:=(idxS s l 0).isSome
@[reducible] def cuV (c:CuL):List Cv:=[.v (.slice c.x.o c.c.xs.length c.x.c),.v (.slice c.y.o c.c.ys.length c.y.c)]
@[reducible] def maV (m:MpL):List Cv:=[.v (.slice m.x.o m.xs.length m.x.c),.v (.slice m.y.o m.ys.length m.y.c),.v (.slice m.z.o m.zs.length m.z.c)]
section
variable {C:Cx} {o:Oper} {e:Env} {M:Mem} {m x:Operand} {b:Nat} {s:Str}
end
structure Ck (H:Hp) (cp:Value) (d:DgL) (bT bC bM bS:Nat):Prop where
 o:d.ok H
 s:d.sm
 n1:d.ins.length≤1000000
 n2:d.bls.length≤1000000
 c:ChkOk H cp d bT bC bM bS
theorem ChkOk.mono {H H':Hp}(h:H.le H'){cp:Value}{d:DgL}{bT bC bM bS:Nat}(k:ChkOk H cp d bT bC bM bS):ChkOk H' cp d bT bC bM bS:=⟨k.p.mono h,k.t.mono h,k.c.mono h,k.m.mono h,k.s.mono h⟩
theorem Ck.mono {H H':Hp}(h:H.le H'){cp:Value}{d:DgL}{bT bC bM bS:Nat}(k:Ck H cp d bT bC bM bS):Ck H' cp d bT bC bM bS:=⟨k.o.mono h,k.s,k.n1,k.n2,k.c.mono h⟩
def argQ (l:List Str)(ins:List Str):Option Str:=ins.find? (fun s=> !sgB l s)
def dupF:List Str→List Str→Option Str
 |_,[]=>none
 |seen,s::r=>bif seen.contains s then some s else dupF (s::seen) r
end Go.Proofs.YtlnpgbnhcondjaaGreatDoor.Fx
namespace Go.Proofs.YtlnpgbnhcondjaaGreatDoor.Fx
open Vg Tf
set_option linter.unusedSimpArgs false
set_option linter.unusedVariables false
set_option maxRecDepth 100000
set_option maxHeartbeats 4000000
def delS:Str:=[100,101,108,97,121]
def nee1 (l:List Str)(n:Nat)(s:Str):List Nat:=if n≤sgN l s then[sgN l s-n]else[]
def need (l:List Str)(n:Nat)(b:Bl):List Nat:=if b.kd==delS then[]else b.ins.flatMap (nee1 l n)
@[reducible] def nC (n:Nat):Cv:= .v (.int .i64 (n:Int))
theorem sigs_len (d:DgL):(sigs d.c).length=d.ins.length+d.bls.length:=by simp[sigs,DgL.c]
end Go.Proofs.YtlnpgbnhcondjaaGreatDoor.Fx
namespace Go.Proofs.YtlnpgbnhcondjaaGreatDoor.Fx
open Vg Tf
set_option linter.unusedSimpArgs false
set_option linter.unusedVariables false
set_option maxRecDepth 100000
set_option maxHeartbeats 4000000
@[reducible] def bC (b:Bool):Cv:= .v (.bool b)
end Go.Proofs.YtlnpgbnhcondjaaGreatDoor.Fx
namespace Go.Proofs.YtlnpgbnhcondjaaGreatDoor.Fx
open Vg Tf
set_option linter.unusedSimpArgs false
set_option linter.unusedVariables false
set_option maxRecDepth 100000
set_option maxHeartbeats 4000000
theorem _root_.Go.Proofs.YtlnpgbnhcondjaaGreatDoor.Vg.DCallQ.hr {H:Hp}{P:Program}{nt:Nat}{C:Cx}{r:List It}{e e0:Env}{M M0 Mf:Mem}{id:Nat}{rg:Array Oper}{k:Nat}{T:List (Nat×Nat)}{i:Nat}{o:Oper}{l:List Oper}{f:FuncId}{vs:List (Option (Bool×V))}{g:Bool}{dst:Option Nat}{xs:List V}{v:V}{M1 N:Mem}(L:List (Nat×Nat))(nx:Nat)(hc:CallX H P f xs M1 (fun _:Unit=>v) (fun _=>N) (fun _ _=>True))(hH:H.le C.hp)(hcl:ClM M1)(hL:rnOk L=true)(hvs:vs=(xs.map (V.ren (rn L))).map fun x=>some (true,x))
  (hs:SubS (M1.ren (rn L)) M0) (hfr:(N.ren (rn L)).all (fun p=>((M1.ren (rn L)).get p.1).isSome||(M0.get p.1).isNone)=true) (hg:g=true∨N=[]) (hf2:ownB (N.ren (rn L)) M0 M0 M=true) (hf3:touchB T o (N.ren (rn L))=true)
  (h:runD P nt C id rg r e0 M0 Mf k (kontW P nt C (.ops rg (rg.toList.drop k)::r)) (touchN (N.ren (rn L)) i T) (i+1) l (e.put dst g (v.ren (rn L))) (N.ren (rn L)++M) nx):DCallQ P nt C id rg r e0 M0 Mf k T i o f vs g dst l e M:=
 ⟨M1.ren (rn L),N.ren (rn L),M0,v.ren (rn L),xs.map (V.ren (rn L)),fun _=>hvs,fun _=> .inr (CallX.kx (hc.ren (rn_inj L hL)) hH (hcl.ren (rn_inj L hL)) (fun _=>rfl) (fun _=>rfl)),hs.sub,hcl.ren (rn_inj L hL),Fresh.of hfr,hg.imp (fun h=>h) (fun h=>by rw[h];rfl),⟨fun _ _ h=> .inl h,snoc_hf hf2 hf3⟩,DrS.go nx h⟩
end Go.Proofs.YtlnpgbnhcondjaaGreatDoor.Fx
namespace Go.Proofs.YtlnpgbnhcondjaaGreatDoor.Fx
open Vg Tf
set_option linter.unusedSimpArgs false
set_option linter.unusedVariables false
set_option maxRecDepth 100000
set_option maxHeartbeats 4000000
def tnAt (d:Dg)(i:Nat):Str:=if i<d.ins.length then(d.ins.map (·.ty)).getD i []else(d.bls.map (·.ty)).getD (i-d.ins.length) []
def tyAt (d:Dg)(i:Nat):Ft:=tyN d.tys (tnAt d i)
def wiB (t:Ft)(x:Int):Bool:=decide ((bif fok t then flo t else 0)≤x)&&decide (x≤(bif fok t then fhi t else 0))
def inpE (l:List Td)(p:Po):Option (Str×Int):=if tyQ l p.ty=none then some (p.ty,7)else if (decide (p.hi<p.lo)||(!wiB (tyN l p.ty) p.lo|| !wiB (tyN l p.ty) p.hi))=true then some (p.nm,2)else none
def firstF {α:Type}(f:α→Option (Str×Int)):List α→Option (Str×Int)
 |[]=>none
 |x::r=>match f x with
  |some y=>some y
  |none=>firstF f r
theorem firstF_cons {α:Type}(f:α→Option (Str×Int))(x:α)(r:List α):firstF f (x::r)=(f x).or (firstF f r):=by
 rw[firstF];cases f x<;>rfl
end Go.Proofs.YtlnpgbnhcondjaaGreatDoor.Fx
namespace Go.Proofs.YtlnpgbnhcondjaaGreatDoor.Fx
open Vg Tf
set_option linter.unusedSimpArgs false
set_option linter.unusedVariables false
set_option maxRecDepth 100000
set_option maxHeartbeats 4000000
def curS:Str:=[99,117,114,118,101]
def mapS:Str:=[109,97,112]
def tabB (cu:Bool)(ma:Bool)(kd:Str):Bool:=(kd==curS&& !cu)||(kd==mapS&& !ma)
def blkE (tys:List Td)(cus:List Cu)(mas:List Mp)(sg:List Str)(b:Bl):Option (Str×Int):=
 if tyQ tys b.ty=none then some (b.ty,7)else match argQ sg b.ins with
 |some s=>some (s,7)
 |none=>if tabB (cus.any fun c=>c.nm==b.tb) (mas.any fun m=>m.nm==b.tb) b.kd=true then some (b.tb,7)else none
def outE (sg:List Str):List Str→List Str→Option (Str×Int)
 |_,[]=>none
 |seen,s::r=>if sgB sg s=false then some (s,7)else if seen.contains s=true then some (s,8)else outE sg (seen++[s]) r
end Go.Proofs.YtlnpgbnhcondjaaGreatDoor.Fx
namespace Go.Proofs.YtlnpgbnhcondjaaGreatDoor.Fx
open Vg Tf
set_option linter.unusedSimpArgs false
set_option linter.unusedVariables false
set_option maxRecDepth 100000
set_option maxHeartbeats 4000000
def conS:Str:=[99,111,110,115,116]
def limS:Str:=[108,105,109,105,116]
def lagS:Str:=[108,97,103]
def hysS:Str:=[104,121,115,116,101,114,101,115,105,115]
def numB (t:Ft)(b:Bl):Bool:=
 if (b.kd==conS||b.kd==delS)=true then wiB t (b.ks.getD 0 0)else if (b.kd==limS)=true then wiB t (b.ks.getD 0 0)&&(wiB t (b.ks.getD 1 0)&&decide (b.ks.getD 0 0≤b.ks.getD 1 0))
 else if (b.kd==lagS)=true then decide (0≤b.ks.getD 0 0)&&decide (b.ks.getD 0 0≤20)else if (b.kd==hysS)=true then decide (b.ks.getD 0 0≤b.ks.getD 1 0)else true
end Go.Proofs.YtlnpgbnhcondjaaGreatDoor.Fx
namespace Go.Proofs.YtlnpgbnhcondjaaGreatDoor.Fx
open Vg Tf
set_option linter.unusedSimpArgs false
set_option linter.unusedVariables false
set_option maxRecDepth 100000
set_option maxHeartbeats 4000000
def unT (t:Ft):Un:=⟨t.m,t.kg,t.s,t.a,t.k⟩
def uqU (a b:Un):Bool:=(a.m==b.m)&&((a.kg==b.kg)&&((a.s==b.s)&&((a.a==b.a)&&(a.k==b.k))))
def switS:Str:=[115,119,105,116,99,104]
def addS:Str:=[97,100,100]
def subS:Str:=[115,117,98]
def negS:Str:=[110,101,103]
def cnvS:Str:=[99,111,110,118,101,114,116]
def minS:Str:=[109,105,110]
def maxS:Str:=[109,97,120]
def mulS:Str:=[109,117,108]
def divS:Str:=[100,105,118]
def lesS:Str:=[108,101,115,115]
def equS:Str:=[101,113,117,97,108]
def andS:Str:=[97,110,100]
def orS:Str:=[111,114]
def notS:Str:=[110,111,116]
def uniB (kd:Str)(t:Un)(us:List Un):Bool:=
 if [addS,subS,negS,cnvS,minS,maxS,limS,delS,lagS].contains kd=true then us.all (fun u=>uqU u t)
 else if (kd==switS)=true then uqU (us.getD 0 u0) u0&&(uqU (us.getD 1 u0) t&&uqU (us.getD 2 u0) t)
 else if (kd==mulS)=true then(cbE (us.getD 0 u0) (us.getD 1 u0) 1==0)&&uqU (cbV (us.getD 0 u0) (us.getD 1 u0) 1) t
 else if (kd==divS)=true then(cbE (us.getD 0 u0) (us.getD 1 u0) (-1)==0)&&uqU (cbV (us.getD 0 u0) (us.getD 1 u0) (-1)) t
 else if (kd==lesS||kd==equS)=true then uqU (us.getD 0 u0) (us.getD 1 u0)&&uqU t u0
 else if (kd==andS||(kd==orS||kd==notS))=true then uqU t u0&&us.all (fun u=>uqU u u0)
 else if (kd==hysS)=true then uqU t u0 else true
def usOf (d:Dg)(b:Bl):List Un:=b.ins.map fun s=>unT (tyAt d (sgN (sigs d) s))
@[go_sem ↓] theorem plS_1_5:plS 1 5=[(0,5)]:=rfl
theorem _root_.Go.Proofs.YtlnpgbnhcondjaaGreatDoor.Vg.Known.vslx {H:Hp}{β:Vl}{n:Nat}{b:Bk}(h:Known H β n b){sz:Nat}{rows:List (List Value)}(hr:∀r∈rows,r.length=sz)(hc:b.cells=rowsC rows):∃s:Sv,gval β (.sl n 0 rows.length sz)=vsl s rows.length∧SlH H (vsl s rows.length) sz rows:=by
 have h1:=h.sl hr hc
 obtain⟨s,hs⟩:∃s:Sv,gval β (.sl n 0 rows.length sz)=vsl s rows.length:=by
  unfold gval
  simp only[Cv.g]
  split
  ·rename_i hh;rw[hh.2];unfold Loc.emp;split<;>first|exact⟨⟨none,0⟩,rfl⟩|exact⟨⟨some _,_⟩,rfl⟩
  ·exact⟨⟨_,_⟩,rfl⟩
 exact⟨s,hs,by rw[←hs];exact h1⟩
end Go.Proofs.YtlnpgbnhcondjaaGreatDoor.Fx
