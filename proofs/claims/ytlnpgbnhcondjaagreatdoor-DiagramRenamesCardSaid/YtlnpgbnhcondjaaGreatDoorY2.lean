/-  -/
import Derived.Test.YtlnpgbnhcondjaaGreatDoorPS
import Derived.Test.YtlnpgbnhcondjaaGreatDoorY1
namespace Go.Proofs.YtlnpgbnhcondjaaGreatDoor.Fx
set_option linter.unusedVariables false
set_option linter.unusedSimpArgs false
set_option linter.unusedSectionVars false
structure SimT (Q:Nat×Nat→Nat×Nat→Prop) (T U:List Tk) (o:Nat):Prop where
 g:GTk U
 k:∀i,i<U.length→(T.getD (i+o) tk0).k=(U.getD i tk0).k
 s:∀i,i<U.length→(T.getD (i+o) tk0).s=(U.getD i tk0).s
 q:∀i,i<U.length→Q ((T.getD (i+o) tk0).l,(T.getD (i+o) tk0).c) ((U.getD i tk0).l,(U.getD i tk0).c)
section
variable {Q:Nat×Nat→Nat×Nat→Prop} {T U:List Tk} {o:Nat} (h:SimT Q T U o)
def SimP (Q:Nat×Nat→Nat×Nat→Prop)(U:List Tk)(o:Nat)(p q:Ps):Prop:=p.at_=q.at_+o∧q.at_<U.length∧p.e=q.e∧(p.e≠0→Q (p.l,p.c) (q.l,q.c))
def SimR (Q:Nat×Nat→Nat×Nat→Prop)(U:List Tk)(o:Nat){α:Type}(x y:α×Ps):Prop:=x.1=y.1∧SimP Q U o x.2 y.2
include h
theorem here_k {p q:Ps}(hs:SimP Q U o p q):(hereP T p).k=(hereP U q).k:=by unfold hereP;rw[hs.1];exact h.k _ hs.2.1
theorem here_s {p q:Ps}(hs:SimP Q U o p q):(hereP T p).s=(hereP U q).s:=by unfold hereP;rw[hs.1];exact h.s _ hs.2.1
theorem here_q {p q:Ps}(hs:SimP Q U o p q):Q ((hereP T p).l,(hereP T p).c) ((hereP U q).l,(hereP U q).c):=by unfold hereP;rw[hs.1];exact h.q _ hs.2.1
omit h in
theorem stop_sim {p q:Ps}(hs:SimP Q U o p q){l c l' c':Nat}(e:Int)(hq:Q (l,c) (l',c')):SimP Q U o (stopP p l c e) (stopP q l' c' e):=by
 obtain⟨a,b,c,d⟩:=hs
 unfold stopP
 rw[c]
 cases he:q.e==0 with
 |true=>exact⟨a,b,rfl,fun _=>hq⟩
 |false=>exact⟨a,b,c,d⟩
theorem wrn_sim {p q:Ps}(hs:SimP Q U o p q):SimP Q U o (wrnP T p) (wrnP U q):=by
 unfold wrnP
 rw[here_k h hs]
 exact stop_sim hs _ (here_q h hs)
theorem is_sim {p q:Ps}(hs:SimP Q U o p q)(s:Str):isP T s p=isP U s q:=by unfold isP;rw[here_k h hs,here_s h hs]
theorem adv_sim {p q:Ps}(hs:SimP Q U o p q)(hk:(hereP U q).k≠4):SimP Q U o (advP p) (advP q):=by
 obtain⟨a,b,c,d⟩:=hs
 have hlt:=(adv_on h.g b hk).1.2
 exact⟨by unfold advP;simp only;omega,hlt,c,d⟩
theorem tak_sim {p q:Ps}(hs:SimP Q U o p q)(s:Str):SimR Q U o (takP T s p) (takP U s q):=by
 unfold takP
 rw[is_sim h hs]
 cases hi:isP U s q with
 |true=>exact⟨rfl,adv_sim h hs (is_k hi)⟩
 |false=>exact⟨rfl,wrn_sim h hs⟩
theorem nam_sim {p q:Ps}(hs:SimP Q U o p q):SimR Q U o (namP T p) (namP U q):=by
 unfold namP
 rw[here_k h hs,here_s h hs]
 cases hi:((hereP U q).k==1&&nmOk (hereP U q).s)with
 |true=>exact⟨rfl,adv_sim h hs (by simp only[Bool.and_eq_true,beq_iff_eq]at hi;omega)⟩
 |false=>exact⟨rfl,wrn_sim h hs⟩
theorem int_sim {p q:Ps}(hs:SimP Q U o p q):SimR Q U o (intP T p) (intP U q):=by
 unfold intP
 rw[here_k h hs,here_s h hs]
 cases hi:((hereP U q).k==2)with
 |true=>exact⟨rfl,adv_sim h hs (by simp only[beq_iff_eq]at hi;omega)⟩
 |false=>exact⟨rfl,wrn_sim h hs⟩
omit h in
theorem bnd_sim {α β:Type}{x y:Option α×Ps}{f g:α→Ps→Option β×Ps}(hx:SimR Q U o x y)(hf:∀a p q,SimP Q U o p q→SimR Q U o (f a p) (g a q)):SimR Q U o (bnd x f) (bnd y g):=by
 obtain⟨a,p⟩:=x
 obtain⟨b,q⟩:=y
 obtain⟨h1,h2⟩:=hx
 simp only at h1 h2
 subst h1
 cases a with
 |none=>exact⟨rfl,h2⟩
 |some a=>exact hf a p q h2
omit h in
theorem bndB_sim {β:Type}{x y:Bool×Ps}{f g:Ps→Option β×Ps}(hx:SimR Q U o x y)(hf:∀p q,SimP Q U o p q→SimR Q U o (f p) (g q)):SimR Q U o (bndB x f) (bndB y g):=by
 obtain⟨a,p⟩:=x
 obtain⟨b,q⟩:=y
 obtain⟨h1,h2⟩:=hx
 simp only at h1 h2
 subst h1
 cases a with
 |false=>exact⟨rfl,h2⟩
 |true=>exact hf p q h2
omit h in
theorem bif_sim {β:Type}{c d:Bool}{x y x' y':β×Ps}(hc:c=d)(hx:d=true→SimR Q U o x x')(hy:d=false→SimR Q U o y y'):SimR Q U o (bif c then x else y) (bif d then x' else y'):=by
 subst hc
 cases c with
 |true=>exact hx rfl
 |false=>exact hy rfl
omit h in
theorem ful_sim {p q:Ps}(hs:SimP Q U o p q){f f':Tk}(hf:Q (f.l,f.c) (f'.l,f'.c))(m l:Nat):SimR Q U o (fulP f m l p) (fulP f' m l q):=by
 unfold fulP
 exact bif_sim rfl (fun _=>⟨rfl,stop_sim hs _ hf⟩) fun _=>⟨rfl,hs⟩
theorem its_sim (a b:Str):∀(f:Nat) (l:List Int) (p q:Ps),SimP Q U o p q→SimR Q U o (itsP T a b f l p) (itsP U a b f l q)
 |0,l,p,q,hs=>⟨rfl,hs⟩
 |f+1,l,p,q,hs=>by
  unfold itsP
  refine bif_sim (by rw[is_sim h hs,is_sim h hs]) (fun _=>⟨rfl,hs⟩) fun _=>bnd_sim (int_sim h hs) fun n p q hs=>its_sim a b f _ p q hs
theorem col_sim:∀(f:Nat) (s:Str) (p q:Ps),SimP Q U o p q→SimR Q U o (colP T f s p) (colP U f s q)
 |0,l,p,q,hs=>⟨rfl,hs⟩
 |f+1,l,p,q,hs=>by
  unfold colP
  rw[here_s h hs]
  exact bif_sim (by rw[here_k h hs]) (fun _=>⟨rfl,hs⟩) fun hk=>col_sim f _ _ _ (adv_sim h hs (by simpa using hk))
theorem unt_sim {p q:Ps}(hs:SimP Q U o p q):SimR Q U o (untP T p) (untP U q):=by
 have hc:=col_sim h 40000 [] p q hs
 unfold untP
 refine bif_sim (by rw[here_k h hs]) (fun _=>⟨rfl,wrn_sim h hs⟩) fun _=>?_
 rw[hc.1]
 exact bif_sim rfl (fun _=>⟨rfl,hc.2⟩) fun _=>⟨rfl,stop_sim hc.2 _ (here_q h hs)⟩
theorem typ_sim {p q:Ps}(hs:SimP Q U o p q){f f':Tk}(hf:Q (f.l,f.c) (f'.l,f'.c))(m:Nat):SimR Q U o (typP T f m p) (typP U f' m q):=by
 unfold typP
 refine bnd_sim (nam_sim h hs) fun nm p q hs=>bndB_sim (tak_sim h hs _) fun p q hs=>bnd_sim (int_sim h hs) fun b p q hs=>bif_sim (by rw[is_sim h hs,is_sim h hs]) (fun _=>⟨rfl,wrn_sim h hs⟩) fun hb=>?_
 have ha:SimP Q U o (advP p) (advP q):=by
  rw[Bool.and_eq_false_iff,Bool.not_eq_false',Bool.not_eq_false']at hb
  rcases hb with hb|hb
  ·exact adv_sim h hs (is_k hb)
  ·exact adv_sim h hs (is_k hb)
 rw[is_sim h hs]
 exact bnd_sim (int_sim h ha) fun nm p q hs=>bnd_sim (int_sim h hs) fun nm p q hs=>bnd_sim (int_sim h hs) fun nm p q hs=>bnd_sim (unt_sim h hs) fun u p q hs=>bif_sim rfl (fun _=>⟨rfl,stop_sim hs _ hf⟩) fun _=>bndB_sim (ful_sim hs hf _ _) fun p q hs=>⟨rfl,hs⟩
theorem prs_sim:∀(f:Nat) (xs ys:List Int) (p q:Ps),SimP Q U o p q→SimR Q U o (prsP T f xs ys p) (prsP U f xs ys q)
 |0,_,_,p,q,hs=>⟨rfl,hs⟩
 |f+1,xs,ys,p,q,hs=>by
  unfold prsP
  exact bnd_sim (int_sim h hs) fun x p q hs=>bnd_sim (int_sim h hs) fun y p q hs=>bif_sim (is_sim h hs _) (fun hi=>prs_sim f _ _ _ _ (adv_sim h hs (is_k hi))) fun _=>⟨rfl,hs⟩
theorem end_simF {p q:Ps}(hs:SimP Q U o p q)(hk:(hereP U q).k≠4):SimR Q U o (endP T p) (endP U q):=by
 unfold endP
 rw[here_k h hs,beq_eq_false_iff_ne.2 hk]
 exact⟨rfl,stop_sim hs _ (here_q h hs)⟩
theorem nol_sim {p q:Ps}(hs:SimP Q U o p q)(hk:q.e=0→(hereP U q).k≠4):SimP Q U o (nolP T p) (nolP U q):=by
 unfold nolP
 rw[hs.2.2.1]
 cases he:q.e==0 with
 |true=>exact(end_simF h hs (hk (eq_of_beq he))).2
 |false=>exact hs
theorem wrn_e (q:Ps):(wrnP U q).e≠0:=by
 unfold wrnP stopP
 cases h0:q.e==0 with
 |true=>simp only[cond_true];cases (hereP U q).k==4<;>decide
 |false=>simp only[cond_false];simpa using h0
theorem cls_sim {α:Type}{p q:Ps}(hs:SimP Q U o p q){f g:Ps→Option α×Ps}(hf:∀p q,SimP Q U o p q→SimR Q U o (f p) (g q)):SimR Q U o (clsP T p f) (clsP U q g):=by
 have ht:=tak_sim h hs [41]
 unfold clsP
 rw[ht.1,here_k h ht.2]
 refine bif_sim rfl (fun hb=>⟨rfl,nol_sim h ht.2 fun he=>?_⟩) fun _=>bif_sim rfl (fun h4=>⟨rfl,nol_sim h ht.2 fun _=>by simpa using h4⟩) fun _=>hf _ _ ht.2
 exfalso
 unfold takP at hb he
 cases hi:isP U [41] q with
 |true=>rw[hi]at hb;cases hb
 |false=>rw[hi]at he;exact wrn_e h q he
theorem cur_sim {p q:Ps}(hs:SimP Q U o p q){f f':Tk}(hf:Q (f.l,f.c) (f'.l,f'.c))(m:Nat):SimR Q U o (curP T f m p) (curP U f' m q):=by
 unfold curP
 exact bnd_sim (nam_sim h hs) fun nm p q hs=>bndB_sim (tak_sim h hs _) fun p q hs=>bndB_sim (tak_sim h hs _) fun p q hs=>bnd_sim (prs_sim h _ _ _ _ _ hs) fun xy p q hs=>cls_sim h hs fun p q hs=>bif_sim rfl (fun _=>⟨rfl,stop_sim hs _ hf⟩) fun _=>bndB_sim (ful_sim hs hf _ _) fun p q hs=>⟨rfl,hs⟩
theorem rws_sim:∀(f:Nat) (zs:List (List Int)) (p q:Ps),SimP Q U o p q→SimR Q U o (rwsP T f zs p) (rwsP U f zs q)
 |0,_,p,q,hs=>⟨rfl,hs⟩
 |f+1,zs,p,q,hs=>by
  unfold rwsP
  exact bnd_sim (its_sim h _ _ _ _ _ _ hs) fun x p q hs=>bif_sim (is_sim h hs _) (fun hi=>rws_sim f _ _ _ (adv_sim h hs (is_k hi))) fun _=>⟨rfl,hs⟩
theorem map_sim {p q:Ps}(hs:SimP Q U o p q){f f':Tk}(hf:Q (f.l,f.c) (f'.l,f'.c))(m:Nat):SimR Q U o (mapP T f m p) (mapP U f' m q):=by
 unfold mapP
 exact bnd_sim (nam_sim h hs) fun nm p q hs=>bndB_sim (tak_sim h hs _) fun p q hs=>bndB_sim (tak_sim h hs _) fun p q hs=>bnd_sim (its_sim h _ _ _ _ _ _ hs) fun xs p q hs=>bndB_sim (tak_sim h hs _) fun p q hs=>
  bnd_sim (its_sim h _ _ _ _ _ _ hs) fun ys p q hs=>bndB_sim (tak_sim h hs _) fun p q hs=>bnd_sim (rws_sim h _ _ _ _ hs) fun zs p q hs=>cls_sim h hs fun p q hs=>bif_sim rfl (fun _=>⟨rfl,stop_sim hs _ hf⟩) fun _=>bndB_sim (ful_sim hs hf _ _) fun p q hs=>⟨rfl,hs⟩
theorem inp_sim {p q:Ps}(hs:SimP Q U o p q){f f':Tk}(hf:Q (f.l,f.c) (f'.l,f'.c))(m:Nat):SimR Q U o (inpP T f m p) (inpP U f' m q):=by
 unfold inpP
 exact bnd_sim (nam_sim h hs) fun nm p q hs=>bndB_sim (tak_sim h hs _) fun p q hs=>bnd_sim (nam_sim h hs) fun nm p q hs=>bnd_sim (int_sim h hs) fun lo p q hs=>bnd_sim (int_sim h hs) fun hi p q hs=>
  bif_sim (by rw[here_k h hs]) (fun hk=>⟨rfl,(end_simF h hs (by simpa using hk)).2⟩) fun _=>bndB_sim (ful_sim hs hf _ _) fun p q hs=>⟨rfl,hs⟩
theorem nms_sim (a b:Str):∀(f:Nat) (l:List Str) (p q:Ps),SimP Q U o p q→SimR Q U o (nmsP T a b f l p) (nmsP U a b f l q)
 |0,_,p,q,hs=>⟨rfl,hs⟩
 |f+1,l,p,q,hs=>by
  unfold nmsP
  exact bnd_sim (nam_sim h hs) fun x p q hs=>bif_sim (by rw[is_sim h hs,is_sim h hs]) (fun _=>⟨rfl,hs⟩) fun _=>bndB_sim (tak_sim h hs _) fun p q hs=>nms_sim a b f _ _ _ hs
theorem cms_sim:∀(f:Nat) (l:List Int) (p q:Ps),SimP Q U o p q→SimR Q U o (cmsP T f l p) (cmsP U f l q)
 |0,_,p,q,hs=>⟨rfl,hs⟩
 |f+1,l,p,q,hs=>by
  unfold cmsP
  exact bnd_sim (int_sim h hs) fun x p q hs=>bif_sim (is_sim h hs _) (fun hi=>cms_sim f _ _ _ (adv_sim h hs (is_k hi))) fun _=>⟨rfl,hs⟩
theorem ars_sim {p q:Ps}(hs:SimP Q U o p q):SimR Q U o (arsP T p) (arsP U q):=by
 unfold arsP
 exact bif_sim (by rw[is_sim h hs,is_sim h hs]) (fun _=>⟨rfl,hs⟩) fun _=>nms_sim h _ _ _ _ _ _ hs
theorem ks_sim {p q:Ps}(hs:SimP Q U o p q):SimR Q U o (ksP T p) (ksP U q):=by
 unfold ksP
 exact bif_sim (is_sim h hs _) (fun hi=>cms_sim h _ _ _ _ (adv_sim h hs (is_k hi))) fun _=>⟨rfl,hs⟩
theorem bk2_sim {p q:Ps}(hs:SimP Q U o p q){f f' kd kd':Tk}(hf:Q (f.l,f.c) (f'.l,f'.c))(hk:Q (kd.l,kd.c) (kd'.l,kd'.c))(hks:kd.s=kd'.s)(a k t:Nat)(nm:Str)(m:Nat):SimR Q U o (bk2P T f kd a k t nm m p) (bk2P U f' kd' a k t nm m q):=by
 unfold bk2P
 exact bndB_sim (tak_sim h hs _) fun p q hs=>bnd_sim (ars_sim h hs) fun x p q hs=>bnd_sim (ks_sim h hs) fun x p q hs=>bndB_sim (tak_sim h hs _) fun p q hs=>bndB_sim (tak_sim h hs _) fun p q hs=>bnd_sim (nam_sim h hs) fun x p q hs=>
  bif_sim (by rw[here_k h hs]) (fun hk=>⟨rfl,(end_simF h hs (by simpa using hk)).2⟩) fun _=>bif_sim rfl (fun _=>⟨rfl,stop_sim hs _ hk⟩) fun _=>bndB_sim (ful_sim hs hf _ _) fun p q hs=>⟨by simp only[hks],hs⟩
theorem blk_sim {p q:Ps}(hs:SimP Q U o p q){f f':Tk}(hf:Q (f.l,f.c) (f'.l,f'.c))(m:Nat):SimR Q U o (blkP T f m p) (blkP U f' m q):=by
 unfold blkP
 refine bnd_sim (nam_sim h hs) fun nm p q hs=>bndB_sim (tak_sim h hs _) fun p q hs=>bif_sim (by rw[here_k h hs,here_s h hs]) (fun _=>⟨rfl,wrn_sim h hs⟩) fun hb=>?_
 have hk:(hereP U q).k≠4:=by
  rw[Bool.or_eq_false_iff]at hb
  have:=hb.1
  simp only[Bool.not_eq_false',beq_iff_eq]at this
  omega
 rw[here_s h hs]
 exact bk2_sim h (adv_sim h hs hk) hf (here_q h hs) (here_s h hs) _ _ _ _ _
theorem ous_sim:∀(f:Nat) (l:List Str) (p q:Ps),SimP Q U o p q→SimR Q U o (ousP T f l p) (ousP U f l q)
 |0,_,p,q,hs=>⟨rfl,hs⟩
 |f+1,l,p,q,hs=>by
  unfold ousP
  exact bnd_sim (nam_sim h hs) fun x p q hs=>bif_sim (is_sim h hs _) (fun hi=>ous_sim f _ _ _ (adv_sim h hs (is_k hi))) fun _=>⟨rfl,hs⟩
theorem out_sim {p q:Ps}(hs:SimP Q U o p q){f f':Tk}(hf:Q (f.l,f.c) (f'.l,f'.c))(m:Nat):SimR Q U o (outP T f m p) (outP U f' m q):=by
 unfold outP
 exact bnd_sim (ous_sim h _ _ _ _ hs) fun l p q hs=>bif_sim (by rw[here_k h hs]) (fun hk=>⟨rfl,(end_simF h hs (by simpa using hk)).2⟩) fun _=>bif_sim rfl (fun _=>⟨rfl,stop_sim hs _ hf⟩) fun _=>⟨rfl,hs⟩
end
end Go.Proofs.YtlnpgbnhcondjaaGreatDoor.Fx
