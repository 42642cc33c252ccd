/-  -/
import Derived.Test.YtlnpgbnhcondjaaGreatDoorTf
import Derived.Test.YtlnpgbnhcondjaaGreatDoorY0
namespace Go.Proofs.YtlnpgbnhcondjaaGreatDoor.Fx
set_option linter.unusedVariables false
set_option linter.unusedSimpArgs false
def GTk (T:List Tk):Prop:=∀i,i+1=T.length→(T.getD i tk0).k=4
section
variable {T:List Tk}
def onP (T:List Tk)(p q:Ps):Prop:=p.at_≤q.at_∧q.at_<T.length
theorem onP.refl {p:Ps}(h:p.at_<T.length):onP T p p:=⟨Nat.le_refl _,h⟩
theorem onP.trans {p q r:Ps}(h:onP T p q)(k:onP T q r):onP T p r:=⟨Nat.le_trans h.1 k.1,k.2⟩
theorem stop_at (p:Ps)(l c:Nat)(e:Int):(stopP p l c e).at_=p.at_:=by unfold stopP;cases p.e==0<;>rfl
theorem wrn_at (p:Ps):(wrnP T p).at_=p.at_:=stop_at ..
theorem wrn_on {p:Ps}(h:p.at_<T.length):onP T p (wrnP T p):=by unfold onP;rw[wrn_at];omega
theorem stop_on {p:Ps}(h:p.at_<T.length)(l c:Nat)(e:Int):onP T p (stopP p l c e):=by unfold onP;rw[stop_at];omega
theorem adv_on (g:GTk T){p:Ps}(h:p.at_<T.length)(hk:(hereP T p).k≠4):onP T p (advP p)∧p.at_<(advP p).at_:=by
 have:p.at_+1≠T.length:=fun e=>hk (g _ e)
 unfold onP advP
 simp only
 omega
theorem is_k {p:Ps}{s:Str}(h:isP T s p=true):(hereP T p).k≠4:=by
 unfold isP at h
 simp only[Bool.and_eq_true,Bool.or_eq_true,beq_iff_eq]at h
 omega
theorem tak_on (g:GTk T)(s:Str){p:Ps}(h:p.at_<T.length):onP T p (takP T s p).2:=by
 unfold takP
 cases hi:isP T s p with
 |true=>exact(adv_on g h (is_k hi)).1
 |false=>exact wrn_on h
theorem nam_on (g:GTk T){p:Ps}(h:p.at_<T.length):onP T p (namP T p).2∧((namP T p).1.isSome=true→p.at_<(namP T p).2.at_):=by
 unfold namP
 cases hi:((hereP T p).k==1&&nmOk (hereP T p).s)with
 |true=>
  have hk:(hereP T p).k≠4:=by simp only[Bool.and_eq_true,beq_iff_eq]at hi;omega
  have:=adv_on g h hk
  exact⟨this.1,fun _=>this.2⟩
 |false=>exact⟨wrn_on h,fun h=>by cases h⟩
theorem int_on (g:GTk T){p:Ps}(h:p.at_<T.length):onP T p (intP T p).2∧((intP T p).1.isSome=true→p.at_<(intP T p).2.at_):=by
 unfold intP
 cases hi:((hereP T p).k==2)with
 |true=>
  have hk:(hereP T p).k≠4:=by simp only[beq_iff_eq]at hi;omega
  have:=adv_on g h hk
  exact⟨this.1,fun _=>this.2⟩
 |false=>exact⟨wrn_on h,fun h=>by cases h⟩
theorem ful_on {p:Ps}(h:p.at_<T.length)(f:Tk)(m l:Nat):onP T p (fulP f m l p).2:=by
 unfold fulP
 cases decide (l≤m)with
 |true=>exact stop_on h _ _ _
 |false=>exact onP.refl h
theorem bnd_on {α β:Type}{p:Ps}{x:Option α×Ps}{f:α→Ps→Option β×Ps}(hx:onP T p x.2)(hf:∀a q,x.1=some a→x.2=q→onP T p q→onP T q (f a q).2):onP T p (bnd x f).2:=by
 obtain⟨o,q⟩:=x
 cases o with
 |none=>exact hx
 |some a=>exact onP.trans hx (hf a q rfl rfl hx)
theorem bndB_on {β:Type}{p:Ps}{x:Bool×Ps}{f:Ps→Option β×Ps}(hx:onP T p x.2)(hf:∀q,x.1=true→x.2=q→onP T p q→onP T q (f q).2):onP T p (bndB x f).2:=by
 obtain⟨o,q⟩:=x
 cases o with
 |false=>exact hx
 |true=>exact onP.trans hx (hf q rfl rfl hx)
theorem bif_on {β:Type}{p:Ps}{c:Bool}{x y:β×Ps}(hx:c=true→onP T p x.2)(hy:c=false→onP T p y.2):onP T p (bif c then x else y).2:=by
 cases c with
 |true=>exact hx rfl
 |false=>exact hy rfl
theorem its_on (g:GTk T)(a b:Str):∀(f:Nat) (l:List Int) (p:Ps),p.at_<T.length→onP T p (itsP T a b f l p).2
 |0,l,p,h=>onP.refl h
 |f+1,l,p,h=>by
  unfold itsP
  exact bif_on (fun _=>onP.refl h) fun _=>bnd_on (int_on g h).1 fun n q _ _ hq=>its_on g a b f _ q hq.2
theorem col_on (g:GTk T):∀(f:Nat) (s:Str) (p:Ps),p.at_<T.length→onP T p (colP T f s p).2
 |0,s,p,h=>onP.refl h
 |f+1,s,p,h=>by
  unfold colP
  refine bif_on (fun _=>onP.refl h) fun hk=>?_
  have ha:=(adv_on g h (by simpa using hk)).1
  exact ha.trans (col_on g f _ _ ha.2)
theorem unt_on (g:GTk T){p:Ps}(h:p.at_<T.length):onP T p (untP T p).2:=by
 unfold untP
 have hc:=col_on g 40000 [] p h
 exact bif_on (fun _=>wrn_on h) fun _=>bif_on (fun _=>hc) fun _=>hc.trans (stop_on hc.2 _ _ _)
theorem is_on (g:GTk T){p:Ps}{s:Str}(h:p.at_<T.length)(hi:isP T s p=true):onP T p (advP p):=(adv_on g h (is_k hi)).1
theorem typ_on (g:GTk T)(f:Tk)(m:Nat){p:Ps}(h:p.at_<T.length):onP T p (typP T f m p).2:=by
 unfold typP
 refine bnd_on (nam_on g h).1 fun nm q _ _ hq=>bndB_on (tak_on g _ hq.2) fun q _ _ hq=>bnd_on (int_on g hq.2).1 fun b q _ _ hq=>bif_on (fun _=>wrn_on hq.2) fun hs=>?_
 have ha:onP T q (advP q):=by
  rw[Bool.and_eq_false_iff,Bool.not_eq_false',Bool.not_eq_false']at hs
  rcases hs with hs|hs
  ·exact is_on g hq.2 hs
  ·exact is_on g hq.2 hs
 refine ha.trans ?_
 refine bnd_on (int_on g ha.2).1 fun nm q _ _ hq=>bnd_on (int_on g hq.2).1 fun nm q _ _ hq=>bnd_on (int_on g hq.2).1 fun nm q _ _ hq=>bnd_on (unt_on g hq.2) fun u q _ _ hq=>bif_on (fun _=>stop_on hq.2 _ _ _) fun _=>bndB_on (ful_on hq.2 _ _ _) fun q _ _ hq=>onP.refl hq.2
theorem prsP_on (g:GTk T):∀(f:Nat) (xs ys:List Int) (p:Ps),p.at_<T.length→onP T p (prsP T f xs ys p).2
 |0,_,_,p,h=>onP.refl h
 |f+1,xs,ys,p,h=>by
  unfold prsP
  exact bnd_on (int_on g h).1 fun x q _ _ hq=>bnd_on (int_on g hq.2).1 fun y q _ _ hq=>bif_on (fun hi=>(is_on g hq.2 hi).trans (prsP_on g f _ _ _ (is_on g hq.2 hi).2)) fun _=>onP.refl hq.2
theorem end_at (p:Ps)(h:¬(hereP T p).k=4):(endP T p).2.at_=p.at_:=by
 unfold endP
 rw[beq_eq_false_iff_ne.2 h]
 exact stop_at ..
theorem end_on {p:Ps}(h:p.at_<T.length)(hk:¬(hereP T p).k=4):onP T p (endP T p).2:=by unfold onP;rw[end_at p hk];omega
theorem cls_on (g:GTk T){α:Type}{p:Ps}(h:p.at_<T.length){f:Ps→Option α×Ps}(hf:∀q,onP T p q→(hereP T q).k=4→onP T q (f q).2):onP T p (clsP T p f).2:=by
 have ht:=tak_on g [41] h
 have hn:∀q:Ps,q.at_<T.length→¬(hereP T q).k=4→onP T q (nolP T q):=fun q hq hk=>by
  unfold nolP
  cases q.e==0 with
  |true=>exact end_on hq hk
  |false=>exact onP.refl hq
 unfold clsP
 refine bif_on (fun hb=>?_) fun _=>bif_on (fun h4=>?_) fun h4=>?_
 ·refine ht.trans ?_
  generalize hq:takP T [41] p=x at*
  obtain⟨b,q⟩:=x
  simp only at ht hb⊢
  unfold nolP
  have hb:b=false:=by simpa using hb
  subst hb
  have hqe:q=wrnP T p:=by
   unfold takP at hq
   cases hi:isP T [41] p with
   |true=>rw[hi]at hq;cases hq
   |false=>rw[hi]at hq;exact(Prod.mk.inj hq).2.symm
  cases he:q.e==0 with
  |false=>exact onP.refl ht.2
  |true=>
   -- an error stands there
   exfalso
   rw[hqe]at he
   unfold wrnP stopP at he
   cases h0:p.e==0 with
   |false=>rw[h0]at he;simp only[cond_false]at he;rw[h0]at he;cases he
   |true=>rw[h0]at he;simp only[cond_true]at he;cases hk4:(hereP T p).k==4<;>rw[hk4]at he<;>cases he
 ·exact ht.trans (hn _ ht.2 (by simpa using h4))
 ·exact ht.trans (hf _ ht (by simpa using h4))
theorem cur_on (g:GTk T)(f:Tk)(m:Nat){p:Ps}(h:p.at_<T.length):onP T p (curP T f m p).2:=by
 unfold curP
 exact bnd_on (nam_on g h).1 fun nm q _ _ hq=>bndB_on (tak_on g _ hq.2) fun q _ _ hq=>bndB_on (tak_on g _ hq.2) fun q _ _ hq=>bnd_on (prsP_on g _ _ _ _ hq.2) fun xy q _ _ hq=>cls_on g hq.2 (fun q hq _=>bif_on (fun _=>stop_on hq.2 _ _ _) fun _=>bndB_on (ful_on hq.2 _ _ _) fun q _ _ hq=>onP.refl hq.2)
theorem rws_on (g:GTk T):∀(f:Nat) (zs:List (List Int)) (p:Ps),p.at_<T.length→onP T p (rwsP T f zs p).2
 |0,_,p,h=>onP.refl h
 |f+1,zs,p,h=>by
  unfold rwsP
  exact bnd_on (its_on g _ _ _ _ _ h) fun x q _ _ hq=>bif_on (fun hi=>(is_on g hq.2 hi).trans (rws_on g f _ _ (is_on g hq.2 hi).2)) fun _=>onP.refl hq.2
theorem map_on (g:GTk T)(f:Tk)(m:Nat){p:Ps}(h:p.at_<T.length):onP T p (mapP T f m p).2:=by
 unfold mapP
 exact bnd_on (nam_on g h).1 fun nm q _ _ hq=>bndB_on (tak_on g _ hq.2) fun q _ _ hq=>bndB_on (tak_on g _ hq.2) fun q _ _ hq=>bnd_on (its_on g _ _ _ _ _ hq.2) fun xy q _ _ hq=>bndB_on (tak_on g _ hq.2) fun q _ _ hq=>
  bnd_on (its_on g _ _ _ _ _ hq.2) fun xy q _ _ hq=>bndB_on (tak_on g _ hq.2) fun q _ _ hq=>bnd_on (rws_on g _ _ _ hq.2) fun xy q _ _ hq=>cls_on g hq.2 (fun q hq _=>bif_on (fun _=>stop_on hq.2 _ _ _) fun _=>bndB_on (ful_on hq.2 _ _ _) fun q _ _ hq=>onP.refl hq.2)
theorem inp_on (g:GTk T)(f:Tk)(m:Nat){p:Ps}(h:p.at_<T.length):onP T p (inpP T f m p).2:=by
 unfold inpP
 exact bnd_on (nam_on g h).1 fun nm q _ _ hq=>bndB_on (tak_on g _ hq.2) fun q _ _ hq=>bnd_on (nam_on g hq.2).1 fun nm q _ _ hq=>bnd_on (int_on g hq.2).1 fun nm q _ _ hq=>bnd_on (int_on g hq.2).1 fun nm q _ _ hq=>
  bif_on (fun hk=>end_on hq.2 (by simpa using hk)) fun _=>bndB_on (ful_on hq.2 _ _ _) fun q _ _ hq=>onP.refl hq.2
theorem nms_on (g:GTk T)(a b:Str):∀(f:Nat) (l:List Str) (p:Ps),p.at_<T.length→onP T p (nmsP T a b f l p).2
 |0,_,p,h=>onP.refl h
 |f+1,l,p,h=>by
  unfold nmsP
  exact bnd_on (nam_on g h).1 fun x q _ _ hq=>bif_on (fun hi=>onP.refl hq.2) fun _=>bndB_on (tak_on g _ hq.2) fun q _ _ hq=>nms_on g a b f _ _ hq.2
theorem cms_on (g:GTk T):∀(f:Nat) (l:List Int) (p:Ps),p.at_<T.length→onP T p (cmsP T f l p).2
 |0,_,p,h=>onP.refl h
 |f+1,l,p,h=>by
  unfold cmsP
  exact bnd_on (int_on g h).1 fun x q _ _ hq=>bif_on (fun hi=>(is_on g hq.2 hi).trans (cms_on g f _ _ (is_on g hq.2 hi).2)) fun _=>onP.refl hq.2
theorem ars_on (g:GTk T){p:Ps}(h:p.at_<T.length):onP T p (arsP T p).2:=by
 unfold arsP
 exact bif_on (fun _=>onP.refl h) fun _=>nms_on g _ _ _ _ _ h
theorem ks_on (g:GTk T){p:Ps}(h:p.at_<T.length):onP T p (ksP T p).2:=by
 unfold ksP
 exact bif_on (fun hi=>(is_on g h hi).trans (cms_on g _ _ _ (is_on g h hi).2)) fun _=>onP.refl h
theorem bk2_on (g:GTk T)(f kd:Tk)(a k t:Nat)(nm:Str)(m:Nat){p:Ps}(h:p.at_<T.length):onP T p (bk2P T f kd a k t nm m p).2:=by
 unfold bk2P
 exact bndB_on (tak_on g _ h) fun q _ _ hq=>bnd_on (ars_on g hq.2) fun x q _ _ hq=>bnd_on (ks_on g hq.2) fun x q _ _ hq=>bndB_on (tak_on g _ hq.2) fun q _ _ hq=>bndB_on (tak_on g _ hq.2) fun q _ _ hq=>bnd_on (nam_on g hq.2).1 fun x q _ _ hq=>
  bif_on (fun hk=>end_on hq.2 (by simpa using hk)) fun _=>bif_on (fun _=>stop_on hq.2 _ _ _) fun _=>bndB_on (ful_on hq.2 _ _ _) fun q _ _ hq=>onP.refl hq.2
theorem blk_on (g:GTk T)(f:Tk)(m:Nat){p:Ps}(h:p.at_<T.length):onP T p (blkP T f m p).2:=by
 unfold blkP
 refine bnd_on (nam_on g h).1 fun nm q _ _ hq=>bndB_on (tak_on g _ hq.2) fun q _ _ hq=>bif_on (fun _=>wrn_on hq.2) fun hs=>?_
 have hk:(hereP T q).k≠4:=by
  rw[Bool.or_eq_false_iff]at hs
  have:=hs.1
  simp only[Bool.not_eq_false',beq_iff_eq]at this
  omega
 have ha:=(adv_on g hq.2 hk).1
 exact ha.trans (bk2_on g _ _ _ _ _ _ _ ha.2)
theorem ous_on (g:GTk T):∀(f:Nat) (l:List Str) (p:Ps),p.at_<T.length→onP T p (ousP T f l p).2
 |0,_,p,h=>onP.refl h
 |f+1,l,p,h=>by
  unfold ousP
  exact bnd_on (nam_on g h).1 fun x q _ _ hq=>bif_on (fun hi=>(is_on g hq.2 hi).trans (ous_on g f _ _ (is_on g hq.2 hi).2)) fun _=>onP.refl hq.2
theorem out_on (g:GTk T)(f:Tk)(m:Nat){p:Ps}(h:p.at_<T.length):onP T p (outP T f m p).2:=by
 unfold outP
 exact bnd_on (ous_on g _ _ _ h) fun x q _ _ hq=>bif_on (fun hk=>end_on hq.2 (by simpa using hk)) fun _=>bif_on (fun _=>stop_on hq.2 _ _ _) fun _=>onP.refl hq.2
end
set_option linter.unusedSectionVars false
structure SimT (Q:Nat×Nat→Nat×Nat→Prop) (T U:List Tk) (o:Nat):Prop where
 g:GTk U
 k:∀i,i<U.length→(T.getD (i+o) tk0).k=(U.getD i tk0).k
 s:∀i,i<U.length→(T.getD (i+o) tk0).s=(U.getD i tk0).s
 q:∀i,i<U.length→Q ((T.getD (i+o) tk0).l,(T.getD (i+o) tk0).c) ((U.getD i tk0).l,(U.getD i tk0).c)
section
variable {Q:Nat×Nat→Nat×Nat→Prop} {T U:List Tk} {o:Nat} (h:SimT Q T U o)
def SimP (Q:Nat×Nat→Nat×Nat→Prop)(U:List Tk)(o:Nat)(p q:Ps):Prop:=p.at_=q.at_+o∧q.at_<U.length∧p.e=q.e∧(p.e≠0→Q (p.l,p.c) (q.l,q.c))
def SimR (Q:Nat×Nat→Nat×Nat→Prop)(U:List Tk)(o:Nat){α:Type}(x y:α×Ps):Prop:=x.1=y.1∧SimP Q U o x.2 y.2
include h
theorem here_k {p q:Ps}(hs:SimP Q U o p q):(hereP T p).k=(hereP U q).k:=by unfold hereP;rw[hs.1];exact h.k _ hs.2.1
theorem here_s {p q:Ps}(hs:SimP Q U o p q):(hereP T p).s=(hereP U q).s:=by unfold hereP;rw[hs.1];exact h.s _ hs.2.1
theorem here_q {p q:Ps}(hs:SimP Q U o p q):Q ((hereP T p).l,(hereP T p).c) ((hereP U q).l,(hereP U q).c):=by unfold hereP;rw[hs.1];exact h.q _ hs.2.1
omit h in
theorem stop_sim {p q:Ps}(hs:SimP Q U o p q){l c l' c':Nat}(e:Int)(hq:Q (l,c) (l',c')):SimP Q U o (stopP p l c e) (stopP q l' c' e):=by
 obtain⟨a,b,c,d⟩:=hs
 unfold stopP
 rw[c]
 cases he:q.e==0 with
 |true=>exact⟨a,b,rfl,fun _=>hq⟩
 |false=>exact⟨a,b,c,d⟩
theorem wrn_sim {p q:Ps}(hs:SimP Q U o p q):SimP Q U o (wrnP T p) (wrnP U q):=by
 unfold wrnP
 rw[here_k h hs]
 exact stop_sim hs _ (here_q h hs)
theorem is_sim {p q:Ps}(hs:SimP Q U o p q)(s:Str):isP T s p=isP U s q:=by unfold isP;rw[here_k h hs,here_s h hs]
theorem adv_sim {p q:Ps}(hs:SimP Q U o p q)(hk:(hereP U q).k≠4):SimP Q U o (advP p) (advP q):=by
 obtain⟨a,b,c,d⟩:=hs
 have hlt:=(adv_on h.g b hk).1.2
 exact⟨by unfold advP;simp only;omega,hlt,c,d⟩
theorem tak_sim {p q:Ps}(hs:SimP Q U o p q)(s:Str):SimR Q U o (takP T s p) (takP U s q):=by
 unfold takP
 rw[is_sim h hs]
 cases hi:isP U s q with
 |true=>exact⟨rfl,adv_sim h hs (is_k hi)⟩
 |false=>exact⟨rfl,wrn_sim h hs⟩
theorem nam_sim {p q:Ps}(hs:SimP Q U o p q):SimR Q U o (namP T p) (namP U q):=by
 unfold namP
 rw[here_k h hs,here_s h hs]
 cases hi:((hereP U q).k==1&&nmOk (hereP U q).s)with
 |true=>exact⟨rfl,adv_sim h hs (by simp only[Bool.and_eq_true,beq_iff_eq]at hi;omega)⟩
 |false=>exact⟨rfl,wrn_sim h hs⟩
theorem int_sim {p q:Ps}(hs:SimP Q U o p q):SimR Q U o (intP T p) (intP U q):=by
 unfold intP
 rw[here_k h hs,here_s h hs]
 cases hi:((hereP U q).k==2)with
 |true=>exact⟨rfl,adv_sim h hs (by simp only[beq_iff_eq]at hi;omega)⟩
 |false=>exact⟨rfl,wrn_sim h hs⟩
omit h in
theorem bnd_sim {α β:Type}{x y:Option α×Ps}{f g:α→Ps→Option β×Ps}(hx:SimR Q U o x y)(hf:∀a p q,SimP Q U o p q→SimR Q U o (f a p) (g a q)):SimR Q U o (bnd x f) (bnd y g):=by
 obtain⟨a,p⟩:=x
 obtain⟨b,q⟩:=y
 obtain⟨h1,h2⟩:=hx
 simp only at h1 h2
 subst h1
 cases a with
 |none=>exact⟨rfl,h2⟩
 |some a=>exact hf a p q h2
omit h in
theorem bndB_sim {β:Type}{x y:Bool×Ps}{f g:Ps→Option β×Ps}(hx:SimR Q U o x y)(hf:∀p q,SimP Q U o p q→SimR Q U o (f p) (g q)):SimR Q U o (bndB x f) (bndB y g):=by
 obtain⟨a,p⟩:=x
 obtain⟨b,q⟩:=y
 obtain⟨h1,h2⟩:=hx
 simp only at h1 h2
 subst h1
 cases a with
 |false=>exact⟨rfl,h2⟩
 |true=>exact hf p q h2
omit h in
theorem bif_sim {β:Type}{c d:Bool}{x y x' y':β×Ps}(hc:c=d)(hx:d=true→SimR Q U o x x')(hy:d=false→SimR Q U o y y'):SimR Q U o (bif c then x else y) (bif d then x' else y'):=by
 subst hc
 cases c with
 |true=>exact hx rfl
 |false=>exact hy rfl
omit h in
theorem ful_sim {p q:Ps}(hs:SimP Q U o p q){f f':Tk}(hf:Q (f.l,f.c) (f'.l,f'.c))(m l:Nat):SimR Q U o (fulP f m l p) (fulP f' m l q):=by
 unfold fulP
 exact bif_sim rfl (fun _=>⟨rfl,stop_sim hs _ hf⟩) fun _=>⟨rfl,hs⟩
theorem its_sim (a b:Str):∀(f:Nat) (l:List Int) (p q:Ps),SimP Q U o p q→SimR Q U o (itsP T a b f l p) (itsP U a b f l q)
 |0,l,p,q,hs=>⟨rfl,hs⟩
 |f+1,l,p,q,hs=>by
  unfold itsP
  refine bif_sim (by rw[is_sim h hs,is_sim h hs]) (fun _=>⟨rfl,hs⟩) fun _=>bnd_sim (int_sim h hs) fun n p q hs=>its_sim a b f _ p q hs
theorem col_sim:∀(f:Nat) (s:Str) (p q:Ps),SimP Q U o p q→SimR Q U o (colP T f s p) (colP U f s q)
 |0,l,p,q,hs=>⟨rfl,hs⟩
 |f+1,l,p,q,hs=>by
  unfold colP
  rw[here_s h hs]
  exact bif_sim (by rw[here_k h hs]) (fun _=>⟨rfl,hs⟩) fun hk=>col_sim f _ _ _ (adv_sim h hs (by simpa using hk))
theorem unt_sim {p q:Ps}(hs:SimP Q U o p q):SimR Q U o (untP T p) (untP U q):=by
 have hc:=col_sim h 40000 [] p q hs
 unfold untP
 refine bif_sim (by rw[here_k h hs]) (fun _=>⟨rfl,wrn_sim h hs⟩) fun _=>?_
 rw[hc.1]
 exact bif_sim rfl (fun _=>⟨rfl,hc.2⟩) fun _=>⟨rfl,stop_sim hc.2 _ (here_q h hs)⟩
theorem typ_sim {p q:Ps}(hs:SimP Q U o p q){f f':Tk}(hf:Q (f.l,f.c) (f'.l,f'.c))(m:Nat):SimR Q U o (typP T f m p) (typP U f' m q):=by
 unfold typP
 refine bnd_sim (nam_sim h hs) fun nm p q hs=>bndB_sim (tak_sim h hs _) fun p q hs=>bnd_sim (int_sim h hs) fun b p q hs=>bif_sim (by rw[is_sim h hs,is_sim h hs]) (fun _=>⟨rfl,wrn_sim h hs⟩) fun hb=>?_
 have ha:SimP Q U o (advP p) (advP q):=by
  rw[Bool.and_eq_false_iff,Bool.not_eq_false',Bool.not_eq_false']at hb
  rcases hb with hb|hb
  ·exact adv_sim h hs (is_k hb)
  ·exact adv_sim h hs (is_k hb)
 rw[is_sim h hs]
 exact bnd_sim (int_sim h ha) fun nm p q hs=>bnd_sim (int_sim h hs) fun nm p q hs=>bnd_sim (int_sim h hs) fun nm p q hs=>bnd_sim (unt_sim h hs) fun u p q hs=>bif_sim rfl (fun _=>⟨rfl,stop_sim hs _ hf⟩) fun _=>bndB_sim (ful_sim hs hf _ _) fun p q hs=>⟨rfl,hs⟩
theorem prs_sim:∀(f:Nat) (xs ys:List Int) (p q:Ps),SimP Q U o p q→SimR Q U o (prsP T f xs ys p) (prsP U f xs ys q)
 |0,_,_,p,q,hs=>⟨rfl,hs⟩
 |f+1,xs,ys,p,q,hs=>by
  unfold prsP
  exact bnd_sim (int_sim h hs) fun x p q hs=>bnd_sim (int_sim h hs) fun y p q hs=>bif_sim (is_sim h hs _) (fun hi=>prs_sim f _ _ _ _ (adv_sim h hs (is_k hi))) fun _=>⟨rfl,hs⟩
theorem end_simF {p q:Ps}(hs:SimP Q U o p q)(hk:(hereP U q).k≠4):SimR Q U o (endP T p) (endP U q):=by
 unfold endP
 rw[here_k h hs,beq_eq_false_iff_ne.2 hk]
 exact⟨rfl,stop_sim hs _ (here_q h hs)⟩
theorem nol_sim {p q:Ps}(hs:SimP Q U o p q)(hk:q.e=0→(hereP U q).k≠4):SimP Q U o (nolP T p) (nolP U q):=by
 unfold nolP
 rw[hs.2.2.1]
 cases he:q.e==0 with
 |true=>exact(end_simF h hs (hk (eq_of_beq he))).2
 |false=>exact hs
theorem wrn_e (q:Ps):(wrnP U q).e≠0:=by
 unfold wrnP stopP
 cases h0:q.e==0 with
 |true=>simp only[cond_true];cases (hereP U q).k==4<;>decide
 |false=>simp only[cond_false];simpa using h0
theorem cls_sim {α:Type}{p q:Ps}(hs:SimP Q U o p q){f g:Ps→Option α×Ps}(hf:∀p q,SimP Q U o p q→SimR Q U o (f p) (g q)):SimR Q U o (clsP T p f) (clsP U q g):=by
 have ht:=tak_sim h hs [41]
 unfold clsP
 rw[ht.1,here_k h ht.2]
 refine bif_sim rfl (fun hb=>⟨rfl,nol_sim h ht.2 fun he=>?_⟩) fun _=>bif_sim rfl (fun h4=>⟨rfl,nol_sim h ht.2 fun _=>by simpa using h4⟩) fun _=>hf _ _ ht.2
 exfalso
 unfold takP at hb he
 cases hi:isP U [41] q with
 |true=>rw[hi]at hb;cases hb
 |false=>rw[hi]at he;exact wrn_e h q he
theorem cur_sim {p q:Ps}(hs:SimP Q U o p q){f f':Tk}(hf:Q (f.l,f.c) (f'.l,f'.c))(m:Nat):SimR Q U o (curP T f m p) (curP U f' m q):=by
 unfold curP
 exact bnd_sim (nam_sim h hs) fun nm p q hs=>bndB_sim (tak_sim h hs _) fun p q hs=>bndB_sim (tak_sim h hs _) fun p q hs=>bnd_sim (prs_sim h _ _ _ _ _ hs) fun xy p q hs=>cls_sim h hs fun p q hs=>bif_sim rfl (fun _=>⟨rfl,stop_sim hs _ hf⟩) fun _=>bndB_sim (ful_sim hs hf _ _) fun p q hs=>⟨rfl,hs⟩
theorem rws_sim:∀(f:Nat) (zs:List (List Int)) (p q:Ps),SimP Q U o p q→SimR Q U o (rwsP T f zs p) (rwsP U f zs q)
 |0,_,p,q,hs=>⟨rfl,hs⟩
 |f+1,zs,p,q,hs=>by
  unfold rwsP
  exact bnd_sim (its_sim h _ _ _ _ _ _ hs) fun x p q hs=>bif_sim (is_sim h hs _) (fun hi=>rws_sim f _ _ _ (adv_sim h hs (is_k hi))) fun _=>⟨rfl,hs⟩
theorem map_sim {p q:Ps}(hs:SimP Q U o p q){f f':Tk}(hf:Q (f.l,f.c) (f'.l,f'.c))(m:Nat):SimR Q U o (mapP T f m p) (mapP U f' m q):=by
 unfold mapP
 exact bnd_sim (nam_sim h hs) fun nm p q hs=>bndB_sim (tak_sim h hs _) fun p q hs=>bndB_sim (tak_sim h hs _) fun p q hs=>bnd_sim (its_sim h _ _ _ _ _ _ hs) fun xs p q hs=>bndB_sim (tak_sim h hs _) fun p q hs=>
  bnd_sim (its_sim h _ _ _ _ _ _ hs) fun ys p q hs=>bndB_sim (tak_sim h hs _) fun p q hs=>bnd_sim (rws_sim h _ _ _ _ hs) fun zs p q hs=>cls_sim h hs fun p q hs=>bif_sim rfl (fun _=>⟨rfl,stop_sim hs _ hf⟩) fun _=>bndB_sim (ful_sim hs hf _ _) fun p q hs=>⟨rfl,hs⟩
theorem inp_sim {p q:Ps}(hs:SimP Q U o p q){f f':Tk}(hf:Q (f.l,f.c) (f'.l,f'.c))(m:Nat):SimR Q U o (inpP T f m p) (inpP U f' m q):=by
 unfold inpP
 exact bnd_sim (nam_sim h hs) fun nm p q hs=>bndB_sim (tak_sim h hs _) fun p q hs=>bnd_sim (nam_sim h hs) fun nm p q hs=>bnd_sim (int_sim h hs) fun lo p q hs=>bnd_sim (int_sim h hs) fun hi p q hs=>
  bif_sim (by rw[here_k h hs]) (fun hk=>⟨rfl,(end_simF h hs (by simpa using hk)).2⟩) fun _=>bndB_sim (ful_sim hs hf _ _) fun p q hs=>⟨rfl,hs⟩
theorem nms_sim (a b:Str):∀(f:Nat) (l:List Str) (p q:Ps),SimP Q U o p q→SimR Q U o (nmsP T a b f l p) (nmsP U a b f l q)
 |0,_,p,q,hs=>⟨rfl,hs⟩
 |f+1,l,p,q,hs=>by
  unfold nmsP
  exact bnd_sim (nam_sim h hs) fun x p q hs=>bif_sim (by rw[is_sim h hs,is_sim h hs]) (fun _=>⟨rfl,hs⟩) fun _=>bndB_sim (tak_sim h hs _) fun p q hs=>nms_sim a b f _ _ _ hs
theorem cms_sim:∀(f:Nat) (l:List Int) (p q:Ps),SimP Q U o p q→SimR Q U o (cmsP T f l p) (cmsP U f l q)
 |0,_,p,q,hs=>⟨rfl,hs⟩
 |f+1,l,p,q,hs=>by
  unfold cmsP
  exact bnd_sim (int_sim h hs) fun x p q hs=>bif_sim (is_sim h hs _) (fun hi=>cms_sim f _ _ _ (adv_sim h hs (is_k hi))) fun _=>⟨rfl,hs⟩
theorem ars_sim {p q:Ps}(hs:SimP Q U o p q):SimR Q U o (arsP T p) (arsP U q):=by
 unfold arsP
 exact bif_sim (by rw[is_sim h hs,is_sim h hs]) (fun _=>⟨rfl,hs⟩) fun _=>nms_sim h _ _ _ _ _ _ hs
theorem ks_sim {p q:Ps}(hs:SimP Q U o p q):SimR Q U o (ksP T p) (ksP U q):=by
 unfold ksP
 exact bif_sim (is_sim h hs _) (fun hi=>cms_sim h _ _ _ _ (adv_sim h hs (is_k hi))) fun _=>⟨rfl,hs⟩
theorem bk2_sim {p q:Ps}(hs:SimP Q U o p q){f f' kd kd':Tk}(hf:Q (f.l,f.c) (f'.l,f'.c))(hk:Q (kd.l,kd.c) (kd'.l,kd'.c))(hks:kd.s=kd'.s)(a k t:Nat)(nm:Str)(m:Nat):SimR Q U o (bk2P T f kd a k t nm m p) (bk2P U f' kd' a k t nm m q):=by
 unfold bk2P
 exact bndB_sim (tak_sim h hs _) fun p q hs=>bnd_sim (ars_sim h hs) fun x p q hs=>bnd_sim (ks_sim h hs) fun x p q hs=>bndB_sim (tak_sim h hs _) fun p q hs=>bndB_sim (tak_sim h hs _) fun p q hs=>bnd_sim (nam_sim h hs) fun x p q hs=>
  bif_sim (by rw[here_k h hs]) (fun hk=>⟨rfl,(end_simF h hs (by simpa using hk)).2⟩) fun _=>bif_sim rfl (fun _=>⟨rfl,stop_sim hs _ hk⟩) fun _=>bndB_sim (ful_sim hs hf _ _) fun p q hs=>⟨by simp only[hks],hs⟩
theorem blk_sim {p q:Ps}(hs:SimP Q U o p q){f f':Tk}(hf:Q (f.l,f.c) (f'.l,f'.c))(m:Nat):SimR Q U o (blkP T f m p) (blkP U f' m q):=by
 unfold blkP
 refine bnd_sim (nam_sim h hs) fun nm p q hs=>bndB_sim (tak_sim h hs _) fun p q hs=>bif_sim (by rw[here_k h hs,here_s h hs]) (fun _=>⟨rfl,wrn_sim h hs⟩) fun hb=>?_
 have hk:(hereP U q).k≠4:=by
  rw[Bool.or_eq_false_iff]at hb
  have:=hb.1
  simp only[Bool.not_eq_false',beq_iff_eq]at this
  omega
 rw[here_s h hs]
 exact bk2_sim h (adv_sim h hs hk) hf (here_q h hs) (here_s h hs) _ _ _ _ _
theorem ous_sim:∀(f:Nat) (l:List Str) (p q:Ps),SimP Q U o p q→SimR Q U o (ousP T f l p) (ousP U f l q)
 |0,_,p,q,hs=>⟨rfl,hs⟩
 |f+1,l,p,q,hs=>by
  unfold ousP
  exact bnd_sim (nam_sim h hs) fun x p q hs=>bif_sim (is_sim h hs _) (fun hi=>ous_sim f _ _ _ (adv_sim h hs (is_k hi))) fun _=>⟨rfl,hs⟩
theorem out_sim {p q:Ps}(hs:SimP Q U o p q){f f':Tk}(hf:Q (f.l,f.c) (f'.l,f'.c))(m:Nat):SimR Q U o (outP T f m p) (outP U f' m q):=by
 unfold outP
 exact bnd_sim (ous_sim h _ _ _ _ hs) fun l p q hs=>bif_sim (by rw[here_k h hs]) (fun hk=>⟨rfl,(end_simF h hs (by simpa using hk)).2⟩) fun _=>bif_sim rfl (fun _=>⟨rfl,stop_sim hs _ hf⟩) fun _=>⟨rfl,hs⟩
end
end Go.Proofs.YtlnpgbnhcondjaaGreatDoor.Fx
