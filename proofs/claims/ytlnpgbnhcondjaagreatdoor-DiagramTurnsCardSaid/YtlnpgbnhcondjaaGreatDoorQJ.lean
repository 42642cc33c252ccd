/-  -/
import Derived.Test.YtlnpgbnhcondjaaGreatDoorShB
import Derived.Test.YtlnpgbnhcondjaaGreatDoorY0
import Derived.Test.YtlnpgbnhcondjaaGreatDoorMA
import Derived.Test.YtlnpgbnhcondjaaGreatDoorMB
namespace Go.Proofs.YtlnpgbnhcondjaaGreatDoor.Fx
set_option linter.unusedVariables false
set_option linter.unusedSimpArgs false
def GTk (T:List Tk):Prop:=∀i,i+1=T.length→(T.getD i tk0).k=4
section
variable {T:List Tk}
def onP (T:List Tk)(p q:Ps):Prop:=p.at_≤q.at_∧q.at_<T.length
theorem onP.refl {p:Ps}(h:p.at_<T.length):onP T p p:=⟨Nat.le_refl _,h⟩
theorem onP.trans {p q r:Ps}(h:onP T p q)(k:onP T q r):onP T p r:=⟨Nat.le_trans h.1 k.1,k.2⟩
theorem stop_at (p:Ps)(l c:Nat)(e:Int):(stopP p l c e).at_=p.at_:=by unfold stopP;cases p.e==0<;>rfl
theorem wrn_at (p:Ps):(wrnP T p).at_=p.at_:=stop_at ..
theorem wrn_on {p:Ps}(h:p.at_<T.length):onP T p (wrnP T p):=by unfold onP;rw[wrn_at];omega
theorem stop_on {p:Ps}(h:p.at_<T.length)(l c:Nat)(e:Int):onP T p (stopP p l c e):=by unfold onP;rw[stop_at];omega
theorem adv_on (g:GTk T){p:Ps}(h:p.at_<T.length)(hk:(hereP T p).k≠4):onP T p (advP p)∧p.at_<(advP p).at_:=by
 have:p.at_+1≠T.length:=fun e=>hk (g _ e)
 unfold onP advP
 simp only
 omega
theorem is_k {p:Ps}{s:Str}(h:isP T s p=true):(hereP T p).k≠4:=by
 unfold isP at h
 simp only[Bool.and_eq_true,Bool.or_eq_true,beq_iff_eq]at h
 omega
theorem tak_on (g:GTk T)(s:Str){p:Ps}(h:p.at_<T.length):onP T p (takP T s p).2:=by
 unfold takP
 cases hi:isP T s p with
 |true=>exact(adv_on g h (is_k hi)).1
 |false=>exact wrn_on h
theorem nam_on (g:GTk T){p:Ps}(h:p.at_<T.length):onP T p (namP T p).2∧((namP T p).1.isSome=true→p.at_<(namP T p).2.at_):=by
 unfold namP
 cases hi:((hereP T p).k==1&&nmOk (hereP T p).s)with
 |true=>
  have hk:(hereP T p).k≠4:=by simp only[Bool.and_eq_true,beq_iff_eq]at hi;omega
  have:=adv_on g h hk
  exact⟨this.1,fun _=>this.2⟩
 |false=>exact⟨wrn_on h,fun h=>by cases h⟩
theorem int_on (g:GTk T){p:Ps}(h:p.at_<T.length):onP T p (intP T p).2∧((intP T p).1.isSome=true→p.at_<(intP T p).2.at_):=by
 unfold intP
 cases hi:((hereP T p).k==2)with
 |true=>
  have hk:(hereP T p).k≠4:=by simp only[beq_iff_eq]at hi;omega
  have:=adv_on g h hk
  exact⟨this.1,fun _=>this.2⟩
 |false=>exact⟨wrn_on h,fun h=>by cases h⟩
theorem ful_on {p:Ps}(h:p.at_<T.length)(f:Tk)(m l:Nat):onP T p (fulP f m l p).2:=by
 unfold fulP
 cases decide (l≤m)with
 |true=>exact stop_on h _ _ _
 |false=>exact onP.refl h
theorem bnd_on {α β:Type}{p:Ps}{x:Option α×Ps}{f:α→Ps→Option β×Ps}(hx:onP T p x.2)(hf:∀a q,x.1=some a→x.2=q→onP T p q→onP T q (f a q).2):onP T p (bnd x f).2:=by
 obtain⟨o,q⟩:=x
 cases o with
 |none=>exact hx
 |some a=>exact onP.trans hx (hf a q rfl rfl hx)
theorem bndB_on {β:Type}{p:Ps}{x:Bool×Ps}{f:Ps→Option β×Ps}(hx:onP T p x.2)(hf:∀q,x.1=true→x.2=q→onP T p q→onP T q (f q).2):onP T p (bndB x f).2:=by
 obtain⟨o,q⟩:=x
 cases o with
 |false=>exact hx
 |true=>exact onP.trans hx (hf q rfl rfl hx)
theorem bif_on {β:Type}{p:Ps}{c:Bool}{x y:β×Ps}(hx:c=true→onP T p x.2)(hy:c=false→onP T p y.2):onP T p (bif c then x else y).2:=by
 cases c with
 |true=>exact hx rfl
 |false=>exact hy rfl
theorem its_on (g:GTk T)(a b:Str):∀(f:Nat) (l:List Int) (p:Ps),p.at_<T.length→onP T p (itsP T a b f l p).2
 |0,l,p,h=>onP.refl h
 |f+1,l,p,h=>by
  unfold itsP
  exact bif_on (fun _=>onP.refl h) fun _=>bnd_on (int_on g h).1 fun n q _ _ hq=>its_on g a b f _ q hq.2
theorem col_on (g:GTk T):∀(f:Nat) (s:Str) (p:Ps),p.at_<T.length→onP T p (colP T f s p).2
 |0,s,p,h=>onP.refl h
 |f+1,s,p,h=>by
  unfold colP
  refine bif_on (fun _=>onP.refl h) fun hk=>?_
  have ha:=(adv_on g h (by simpa using hk)).1
  exact ha.trans (col_on g f _ _ ha.2)
theorem unt_on (g:GTk T){p:Ps}(h:p.at_<T.length):onP T p (untP T p).2:=by
 unfold untP
 have hc:=col_on g 40000 [] p h
 exact bif_on (fun _=>wrn_on h) fun _=>bif_on (fun _=>hc) fun _=>hc.trans (stop_on hc.2 _ _ _)
theorem is_on (g:GTk T){p:Ps}{s:Str}(h:p.at_<T.length)(hi:isP T s p=true):onP T p (advP p):=(adv_on g h (is_k hi)).1
theorem typ_on (g:GTk T)(f:Tk)(m:Nat){p:Ps}(h:p.at_<T.length):onP T p (typP T f m p).2:=by
 unfold typP
 refine bnd_on (nam_on g h).1 fun nm q _ _ hq=>bndB_on (tak_on g _ hq.2) fun q _ _ hq=>bnd_on (int_on g hq.2).1 fun b q _ _ hq=>bif_on (fun _=>wrn_on hq.2) fun hs=>?_
 have ha:onP T q (advP q):=by
  rw[Bool.and_eq_false_iff,Bool.not_eq_false',Bool.not_eq_false']at hs
  rcases hs with hs|hs
  ·exact is_on g hq.2 hs
  ·exact is_on g hq.2 hs
 refine ha.trans ?_
 refine bnd_on (int_on g ha.2).1 fun nm q _ _ hq=>bnd_on (int_on g hq.2).1 fun nm q _ _ hq=>bnd_on (int_on g hq.2).1 fun nm q _ _ hq=>bnd_on (unt_on g hq.2) fun u q _ _ hq=>bif_on (fun _=>stop_on hq.2 _ _ _) fun _=>bndB_on (ful_on hq.2 _ _ _) fun q _ _ hq=>onP.refl hq.2
theorem prsP_on (g:GTk T):∀(f:Nat) (xs ys:List Int) (p:Ps),p.at_<T.length→onP T p (prsP T f xs ys p).2
 |0,_,_,p,h=>onP.refl h
 |f+1,xs,ys,p,h=>by
  unfold prsP
  exact bnd_on (int_on g h).1 fun x q _ _ hq=>bnd_on (int_on g hq.2).1 fun y q _ _ hq=>bif_on (fun hi=>(is_on g hq.2 hi).trans (prsP_on g f _ _ _ (is_on g hq.2 hi).2)) fun _=>onP.refl hq.2
theorem end_at (p:Ps)(h:¬(hereP T p).k=4):(endP T p).2.at_=p.at_:=by
 unfold endP
 rw[beq_eq_false_iff_ne.2 h]
 exact stop_at ..
theorem end_on {p:Ps}(h:p.at_<T.length)(hk:¬(hereP T p).k=4):onP T p (endP T p).2:=by unfold onP;rw[end_at p hk];omega
theorem cls_on (g:GTk T){α:Type}{p:Ps}(h:p.at_<T.length){f:Ps→Option α×Ps}(hf:∀q,onP T p q→(hereP T q).k=4→onP T q (f q).2):onP T p (clsP T p f).2:=by
 have ht:=tak_on g [41] h
 have hn:∀q:Ps,q.at_<T.length→¬(hereP T q).k=4→onP T q (nolP T q):=fun q hq hk=>by
  unfold nolP
  cases q.e==0 with
  |true=>exact end_on hq hk
  |false=>exact onP.refl hq
 unfold clsP
 refine bif_on (fun hb=>?_) fun _=>bif_on (fun h4=>?_) fun h4=>?_
 ·refine ht.trans ?_
  generalize hq:takP T [41] p=x at*
  obtain⟨b,q⟩:=x
  simp only at ht hb⊢
  unfold nolP
  have hb:b=false:=by simpa using hb
  subst hb
  have hqe:q=wrnP T p:=by
   unfold takP at hq
   cases hi:isP T [41] p with
   |true=>rw[hi]at hq;cases hq
   |false=>rw[hi]at hq;exact(Prod.mk.inj hq).2.symm
  cases he:q.e==0 with
  |false=>exact onP.refl ht.2
  |true=>
   -- an error stands there
   exfalso
   rw[hqe]at he
   unfold wrnP stopP at he
   cases h0:p.e==0 with
   |false=>rw[h0]at he;simp only[cond_false]at he;rw[h0]at he;cases he
   |true=>rw[h0]at he;simp only[cond_true]at he;cases hk4:(hereP T p).k==4<;>rw[hk4]at he<;>cases he
 ·exact ht.trans (hn _ ht.2 (by simpa using h4))
 ·exact ht.trans (hf _ ht (by simpa using h4))
theorem cur_on (g:GTk T)(f:Tk)(m:Nat){p:Ps}(h:p.at_<T.length):onP T p (curP T f m p).2:=by
 unfold curP
 exact bnd_on (nam_on g h).1 fun nm q _ _ hq=>bndB_on (tak_on g _ hq.2) fun q _ _ hq=>bndB_on (tak_on g _ hq.2) fun q _ _ hq=>bnd_on (prsP_on g _ _ _ _ hq.2) fun xy q _ _ hq=>cls_on g hq.2 (fun q hq _=>bif_on (fun _=>stop_on hq.2 _ _ _) fun _=>bndB_on (ful_on hq.2 _ _ _) fun q _ _ hq=>onP.refl hq.2)
theorem rws_on (g:GTk T):∀(f:Nat) (zs:List (List Int)) (p:Ps),p.at_<T.length→onP T p (rwsP T f zs p).2
 |0,_,p,h=>onP.refl h
 |f+1,zs,p,h=>by
  unfold rwsP
  exact bnd_on (its_on g _ _ _ _ _ h) fun x q _ _ hq=>bif_on (fun hi=>(is_on g hq.2 hi).trans (rws_on g f _ _ (is_on g hq.2 hi).2)) fun _=>onP.refl hq.2
theorem map_on (g:GTk T)(f:Tk)(m:Nat){p:Ps}(h:p.at_<T.length):onP T p (mapP T f m p).2:=by
 unfold mapP
 exact bnd_on (nam_on g h).1 fun nm q _ _ hq=>bndB_on (tak_on g _ hq.2) fun q _ _ hq=>bndB_on (tak_on g _ hq.2) fun q _ _ hq=>bnd_on (its_on g _ _ _ _ _ hq.2) fun xy q _ _ hq=>bndB_on (tak_on g _ hq.2) fun q _ _ hq=>
  bnd_on (its_on g _ _ _ _ _ hq.2) fun xy q _ _ hq=>bndB_on (tak_on g _ hq.2) fun q _ _ hq=>bnd_on (rws_on g _ _ _ hq.2) fun xy q _ _ hq=>cls_on g hq.2 (fun q hq _=>bif_on (fun _=>stop_on hq.2 _ _ _) fun _=>bndB_on (ful_on hq.2 _ _ _) fun q _ _ hq=>onP.refl hq.2)
theorem inp_on (g:GTk T)(f:Tk)(m:Nat){p:Ps}(h:p.at_<T.length):onP T p (inpP T f m p).2:=by
 unfold inpP
 exact bnd_on (nam_on g h).1 fun nm q _ _ hq=>bndB_on (tak_on g _ hq.2) fun q _ _ hq=>bnd_on (nam_on g hq.2).1 fun nm q _ _ hq=>bnd_on (int_on g hq.2).1 fun nm q _ _ hq=>bnd_on (int_on g hq.2).1 fun nm q _ _ hq=>
  bif_on (fun hk=>end_on hq.2 (by simpa using hk)) fun _=>bndB_on (ful_on hq.2 _ _ _) fun q _ _ hq=>onP.refl hq.2
theorem nms_on (g:GTk T)(a b:Str):∀(f:Nat) (l:List Str) (p:Ps),p.at_<T.length→onP T p (nmsP T a b f l p).2
 |0,_,p,h=>onP.refl h
 |f+1,l,p,h=>by
  unfold nmsP
  exact bnd_on (nam_on g h).1 fun x q _ _ hq=>bif_on (fun hi=>onP.refl hq.2) fun _=>bndB_on (tak_on g _ hq.2) fun q _ _ hq=>nms_on g a b f _ _ hq.2
theorem cms_on (g:GTk T):∀(f:Nat) (l:List Int) (p:Ps),p.at_<T.length→onP T p (cmsP T f l p).2
 |0,_,p,h=>onP.refl h
 |f+1,l,p,h=>by
  unfold cmsP
  exact bnd_on (int_on g h).1 fun x q _ _ hq=>bif_on (fun hi=>(is_on g hq.2 hi).trans (cms_on g f _ _ (is_on g hq.2 hi).2)) fun _=>onP.refl hq.2
theorem ars_on (g:GTk T){p:Ps}(h:p.at_<T.length):onP T p (arsP T p).2:=by
 unfold arsP
 exact bif_on (fun _=>onP.refl h) fun _=>nms_on g _ _ _ _ _ h
theorem ks_on (g:GTk T){p:Ps}(h:p.at_<T.length):onP T p (ksP T p).2:=by
 unfold ksP
 exact bif_on (fun hi=>(is_on g h hi).trans (cms_on g _ _ _ (is_on g h hi).2)) fun _=>onP.refl h
theorem bk2_on (g:GTk T)(f kd:Tk)(a k t:Nat)(nm:Str)(m:Nat){p:Ps}(h:p.at_<T.length):onP T p (bk2P T f kd a k t nm m p).2:=by
 unfold bk2P
 exact bndB_on (tak_on g _ h) fun q _ _ hq=>bnd_on (ars_on g hq.2) fun x q _ _ hq=>bnd_on (ks_on g hq.2) fun x q _ _ hq=>bndB_on (tak_on g _ hq.2) fun q _ _ hq=>bndB_on (tak_on g _ hq.2) fun q _ _ hq=>bnd_on (nam_on g hq.2).1 fun x q _ _ hq=>
  bif_on (fun hk=>end_on hq.2 (by simpa using hk)) fun _=>bif_on (fun _=>stop_on hq.2 _ _ _) fun _=>bndB_on (ful_on hq.2 _ _ _) fun q _ _ hq=>onP.refl hq.2
theorem blk_on (g:GTk T)(f:Tk)(m:Nat){p:Ps}(h:p.at_<T.length):onP T p (blkP T f m p).2:=by
 unfold blkP
 refine bnd_on (nam_on g h).1 fun nm q _ _ hq=>bndB_on (tak_on g _ hq.2) fun q _ _ hq=>bif_on (fun _=>wrn_on hq.2) fun hs=>?_
 have hk:(hereP T q).k≠4:=by
  rw[Bool.or_eq_false_iff]at hs
  have:=hs.1
  simp only[Bool.not_eq_false',beq_iff_eq]at this
  omega
 have ha:=(adv_on g hq.2 hk).1
 exact ha.trans (bk2_on g _ _ _ _ _ _ _ ha.2)
theorem ous_on (g:GTk T):∀(f:Nat) (l:List Str) (p:Ps),p.at_<T.length→onP T p (ousP T f l p).2
 |0,_,p,h=>onP.refl h
 |f+1,l,p,h=>by
  unfold ousP
  exact bnd_on (nam_on g h).1 fun x q _ _ hq=>bif_on (fun hi=>(is_on g hq.2 hi).trans (ous_on g f _ _ (is_on g hq.2 hi).2)) fun _=>onP.refl hq.2
theorem out_on (g:GTk T)(f:Tk)(m:Nat){p:Ps}(h:p.at_<T.length):onP T p (outP T f m p).2:=by
 unfold outP
 exact bnd_on (ous_on g _ _ _ h) fun x q _ _ hq=>bif_on (fun hk=>end_on hq.2 (by simpa using hk)) fun _=>bif_on (fun _=>stop_on hq.2 _ _ _) fun _=>onP.refl hq.2
end
set_option linter.unusedSectionVars false
structure SimT (Q:Nat×Nat→Nat×Nat→Prop) (T U:List Tk) (o:Nat):Prop where
 g:GTk U
 k:∀i,i<U.length→(T.getD (i+o) tk0).k=(U.getD i tk0).k
 s:∀i,i<U.length→(T.getD (i+o) tk0).s=(U.getD i tk0).s
 q:∀i,i<U.length→Q ((T.getD (i+o) tk0).l,(T.getD (i+o) tk0).c) ((U.getD i tk0).l,(U.getD i tk0).c)
section
variable {Q:Nat×Nat→Nat×Nat→Prop} {T U:List Tk} {o:Nat} (h:SimT Q T U o)
include h
end
open Vg Tf
set_option maxRecDepth 100000
set_option maxHeartbeats 4000000
def fillM {α:Type}(f:α→Str×Value):List α→Al
 |[]=>[]
 |x::l=>aput (fillM f l) ⟨(f x).1.toArray⟩ (f x).2
def fillS:List Str→Nat→Al
 |[],_=>[]
 |x::l,k=>aput (fillS l (k+1)) ⟨x.toArray⟩ (iv k)
def idxS (s:Str):List Str→Nat→Option Nat
 |[],_=>none
 |x::l,k=>if x=s then some k else idxS s l (k+1)
def ftV (t:Ft):Value:= .agg (ftR t).toArray
def tdF (t:Td):Str×Value:=(t.nm,ftV t.ty)
def cuF (c:CuL):Str×Value:=(c.c.nm,.agg #[vsl c.x c.c.xs.length,vsl c.y c.c.ys.length])
def maF (m:MpL):Str×Value:=(m.nm,.agg #[vsl m.x m.xs.length,vsl m.y m.ys.length,vsl m.z m.zs.length])
structure ChkOk (H:Hp) (cp:Value) (d:DgL) (bT bC bM bS:Nat):Prop where
 p:PtH H cp (d.r++[.map (some bT),.map (some bC),.map (some bM),.map (some bS)])
 t:MpB H bT (fillM tdF d.tys)
 c:MpB H bC (fillM cuF d.cus)
 m:MpB H bM (fillM maF d.mas)
 s:MpB H bS (fillS (sigs d.c) 0)
theorem cokV {L:List Nat}{cs:List Cv}(h:cs.all Cv.isV=true):cs.all (Cv.cok L)=true:=by
 rw[List.all_eq_true]at h⊢
 intro c hc
 have:=h c hc
 cases c<;>simp[Cv.isV]at this<;>rfl
theorem getD_set {s:List Bool}{k:Nat}(j:Nat)(h:k<s.length):(s.set k true).getD j false=if k=j then true else s.getD j false:=by
 simp only[List.getD_eq_getElem?_getD,List.getElem?_set]
 by_cases hj:k=j
 ·subst hj;simp[h]
 ·simp[hj]
open Vg Tf
set_option maxRecDepth 100000
set_option maxHeartbeats 4000000
def ft0:Ft:=⟨0,false,0,0,0,0,0,0,0,0⟩
def tyQ (l:List Td)(s:Str):Option Ft:=(l.find? (fun t=>t.nm==s)).map (·.ty)
def tyN (l:List Td)(s:Str):Ft:=(tyQ l s).getD ft0
def sgN (l:List Str)(s:Str):Nat:=(idxS s l 0).getD 0
section
variable {C:Cx} {o:Oper} {e:Env} {M:Mem} {m x:Operand} {b:Nat} {s:Str}
end
structure Ck (H:Hp) (cp:Value) (d:DgL) (bT bC bM bS:Nat):Prop where
 o:d.ok H
 s:d.sm
 n1:d.ins.length≤1000000
 n2:d.bls.length≤1000000
 c:ChkOk H cp d bT bC bM bS
open Vg Tf
set_option maxRecDepth 100000
set_option maxHeartbeats 4000000
def delS:Str:=[100,101,108,97,121]
def nee1 (l:List Str)(n:Nat)(s:Str):List Nat:=if n≤sgN l s then[sgN l s-n]else[]
def need (l:List Str)(n:Nat)(b:Bl):List Nat:=if b.kd==delS then[]else b.ins.flatMap (nee1 l n)
@[reducible] def nC (n:Nat):Cv:= .v (.int .i64 (n:Int))
open Vg Tf
set_option maxRecDepth 100000
set_option maxHeartbeats 4000000
@[reducible] def bC (b:Bool):Cv:= .v (.bool b)
open Vg Tf
set_option maxRecDepth 100000
set_option maxHeartbeats 4000000
open Vg Tf
set_option maxRecDepth 100000
set_option maxHeartbeats 4000000
def tnAt (d:Dg)(i:Nat):Str:=if i<d.ins.length then(d.ins.map (·.ty)).getD i []else(d.bls.map (·.ty)).getD (i-d.ins.length) []
def tyAt (d:Dg)(i:Nat):Ft:=tyN d.tys (tnAt d i)
open Vg Tf
set_option maxRecDepth 100000
set_option maxHeartbeats 4000000
open Vg Tf
set_option maxRecDepth 100000
set_option maxHeartbeats 4000000
open Vg Tf
set_option maxRecDepth 100000
set_option maxHeartbeats 4000000
@[go_sem ↓] theorem plS_1_5:plS 1 5=[(0,5)]:=rfl
theorem _root_.Go.Proofs.YtlnpgbnhcondjaaGreatDoor.Vg.Known.vslx {H:Hp}{β:Vl}{n:Nat}{b:Bk}(h:Known H β n b){sz:Nat}{rows:List (List Value)}(hr:∀r∈rows,r.length=sz)(hc:b.cells=rowsC rows):∃s:Sv,gval β (.sl n 0 rows.length sz)=vsl s rows.length∧SlH H (vsl s rows.length) sz rows:=by
 have h1:=h.sl hr hc
 obtain⟨s,hs⟩:∃s:Sv,gval β (.sl n 0 rows.length sz)=vsl s rows.length:=by
  unfold gval
  simp only[Cv.g]
  split
  ·rename_i hh;rw[hh.2];unfold Loc.emp;split<;>first|exact⟨⟨none,0⟩,rfl⟩|exact⟨⟨some _,_⟩,rfl⟩
  ·exact⟨⟨_,_⟩,rfl⟩
 exact⟨s,hs,by rw[←hs];exact h1⟩
open Vg Tf
set_option maxRecDepth 100000
set_option maxHeartbeats 4000000
open Vg Tf
set_option maxRecDepth 100000
set_option maxHeartbeats 4000000
@[go_sem ↓] theorem plS_4_1:plS 4 1=[(0,1),(1,1),(2,1),(3,1)]:=rfl
end Go.Proofs.YtlnpgbnhcondjaaGreatDoor.Fx
