/-  -/
import Derived.Test.YtlnpgbnhcondjaaGreatDoorTf
import Derived.Test.YtlnpgbnhcondjaaGreatDoorY2
import Derived.Test.YtlnpgbnhcondjaaGreatDoorYE
namespace Go.Proofs.YtlnpgbnhcondjaaGreatDoor.Fx
set_option linter.unusedVariables false
set_option linter.unusedSimpArgs false
set_option linter.unusedSectionVars false
def rdE {α:Type}(p:Ps)(x:Option α×Ps):Prop:=(x.1.isSome=true→x.2.e=p.e)∧(x.1=none→x.2.e≠0)
theorem stop_e (p:Ps)(l c:Nat){e:Int}(he:e≠0):(stopP p l c e).e≠0:=by
 unfold stopP
 cases h0:p.e==0 with
 |true=>exact he
 |false=>simpa using h0
theorem wrnE {U:List Tk}(q:Ps):(wrnP U q).e≠0:=by
 unfold wrnP
 exact stop_e q _ _ (by cases (hereP U q).k==4<;>decide)
theorem rdE.some {α:Type}{p q:Ps}{a:α}(h:q.e=p.e):rdE p (Option.some a,q):=⟨fun _=>h,fun h=>by cases h⟩
theorem rdE.none {α:Type}{p q:Ps}(h:q.e≠0):rdE p ((Option.none:Option α),q):=⟨fun h=>(by cases h),fun _=>h⟩
theorem bnd_rd {α β:Type}{p:Ps}{x:Option α×Ps}{f:α→Ps→Option β×Ps}(hx:rdE p x)(hf:∀a q,x.1=some a→x.2=q→rdE q (f a q)):rdE p (bnd x f):=by
 obtain⟨o,q⟩:=x
 cases o with
 |none=>exact rdE.none (hx.2 rfl)
 |some a=>
  have h1:=hx.1 rfl
  have h2:=hf a q rfl rfl
  exact⟨fun h=>(h2.1 h).trans h1,h2.2⟩
def rdB (p:Ps)(x:Bool×Ps):Prop:=(x.1=true→x.2.e=p.e)∧(x.1=false→x.2.e≠0)
theorem bndB_rd {β:Type}{p:Ps}{x:Bool×Ps}{f:Ps→Option β×Ps}(hx:rdB p x)(hf:∀q,x.1=true→x.2=q→rdE q (f q)):rdE p (bndB x f):=by
 obtain⟨o,q⟩:=x
 cases o with
 |false=>exact rdE.none (hx.2 rfl)
 |true=>
  have h1:=hx.1 rfl
  have h2:=hf q rfl rfl
  exact⟨fun h=>(h2.1 h).trans h1,h2.2⟩
theorem bif_rd {β:Type}{p:Ps}{c:Bool}{x y:Option β×Ps}(hx:c=true→rdE p x)(hy:c=false→rdE p y):rdE p (bif c then x else y):=by
 cases c with
 |true=>exact hx rfl
 |false=>exact hy rfl
section
variable {T:List Tk}
theorem tak_rd (s:Str)(p:Ps):rdB p (takP T s p):=by
 unfold takP
 cases isP T s p with
 |true=>exact⟨fun _=>rfl,fun h=>by cases h⟩
 |false=>exact⟨fun h=>(by cases h),fun _=>wrnE p⟩
theorem nam_rd (p:Ps):rdE p (namP T p):=by
 unfold namP
 exact bif_rd (fun _=>rdE.some rfl) fun _=>rdE.none (wrnE p)
theorem int_rd (p:Ps):rdE p (intP T p):=by
 unfold intP
 exact bif_rd (fun _=>rdE.some rfl) fun _=>rdE.none (wrnE p)
theorem ful_rd (f:Tk)(m l:Nat)(p:Ps):rdB p (fulP f m l p):=by
 unfold fulP
 cases decide (l≤m)with
 |true=>exact⟨fun h=>(by cases h),fun _=>stop_e p _ _ (by decide)⟩
 |false=>exact⟨fun _=>rfl,fun h=>by cases h⟩
theorem endF_rd {p:Ps}(hk:(!((hereP T p).k==4))=true):(endP T p).2.e≠0:=by
 unfold endP
 rw[Bool.not_eq_true']at hk
 rw[hk]
 exact stop_e p _ _ (by decide)
theorem end_rd (p:Ps):rdB p (endP T p):=by
 unfold endP
 cases (hereP T p).k==4 with
 |true=>exact⟨fun _=>rfl,fun h=>by cases h⟩
 |false=>exact⟨fun h=>(by cases h),fun _=>stop_e p _ _ (by decide)⟩
theorem its_rd (g:GTk T)(a b:Str):∀(f:Nat) (l:List Int) (p:Ps),p.at_<T.length→T.length≤p.at_+f→rdE p (itsP T a b f l p)
 |0,l,p,h,hf=>by omega
 |f+1,l,p,h,hf=>by
  unfold itsP
  refine bif_rd (fun _=>rdE.some rfl) fun _=>bnd_rd (int_rd p) fun n q h1 h2=>?_
  have ho:=int_on g h
  rw[h1,h2]at ho
  have:=ho.2 rfl
  exact its_rd g a b f _ q ho.1.2 (by omega)
theorem col_e (g:GTk T):∀(f:Nat) (s:Str) (p:Ps),(colP T f s p).2.e=p.e
 |0,s,p=>rfl
 |f+1,s,p=>by
  unfold colP
  cases (hereP T p).k==4 with
  |true=>rfl
  |false=>exact col_e g f _ (advP p)
theorem unt_rd (g:GTk T)(p:Ps):rdE p (untP T p):=by
 unfold untP
 exact bif_rd (fun _=>rdE.none (wrnE p)) fun _=>bif_rd (fun _=>rdE.some (col_e g _ _ p)) fun _=>rdE.none (stop_e _ _ _ (by decide))
theorem typ_rd (g:GTk T)(f:Tk)(m:Nat)(p:Ps):rdE p (typP T f m p):=by
 unfold typP
 exact bnd_rd (nam_rd p) fun nm q _ _=>bndB_rd (tak_rd _ q) fun q _ _=>bnd_rd (int_rd q) fun b q _ _=>bif_rd (fun _=>rdE.none (wrnE q)) fun _=>
  show rdE (advP q) _ from bnd_rd (int_rd _) fun nm q _ _=>bnd_rd (int_rd q) fun nm q _ _=>bnd_rd (int_rd q) fun nm q _ _=>bnd_rd (unt_rd g q) fun u q _ _=>bif_rd (fun _=>rdE.none (stop_e _ _ _ (by decide))) fun _=>bndB_rd (ful_rd _ _ _ q) fun q _ _=>rdE.some rfl
theorem prsP_rd (g:GTk T):∀(f:Nat) (xs ys:List Int) (p:Ps),p.at_<T.length→T.length≤p.at_+f→rdE p (prsP T f xs ys p)
 |0,_,_,p,h,hf=>by omega
 |f+1,xs,ys,p,h,hf=>by
  unfold prsP
  refine bnd_rd (int_rd p) fun x q h1 h2=>bnd_rd (int_rd q) fun y r h3 h4=>bif_rd (fun hi=>?_) fun _=>rdE.some rfl
  have ho:=int_on g h
  rw[h1,h2]at ho
  have h5:=ho.2 rfl
  have ho2:=int_on g ho.1.2
  rw[h3,h4]at ho2
  have h6:=ho2.2 rfl
  have h7:=is_on g ho2.1.2 hi
  have h8:(advP r).at_=r.at_+1:=rfl
  exact prsP_rd g f _ _ (advP r) h7.2 (by omega)
theorem nol_rd (p:Ps)(h:p.e=0→(!((hereP T p).k==4))=true):(nolP T p).e≠0:=by
 unfold nolP
 cases he:p.e==0 with
 |true=>exact endF_rd (h (eq_of_beq he))
 |false=>simpa using he
theorem cls_rd {α:Type}(p:Ps){f:Ps→Option α×Ps}(hf:∀q,rdE q (f q)):rdE p (clsP T p f):=by
 unfold clsP
 have ht:=tak_rd (T:=T) [41] p
 generalize takP T [41] p=x at*
 obtain⟨b,q⟩:=x
 cases b with
 |false=>exact rdE.none (nol_rd q fun h=>absurd h (ht.2 rfl))
 |true=>
  have e1:=ht.1 rfl
  refine bif_rd (fun h=>(by cases h)) fun _=>bif_rd (fun h=>rdE.none (nol_rd q fun _=>h)) fun _=>?_
  exact⟨fun h=>((hf q).1 h).trans e1,(hf q).2⟩
theorem cur_rd (g:GTk T)(f:Tk)(m:Nat){p:Ps}(h:p.at_<T.length)(hT:T.length≤40000):rdE p (curP T f m p):=by
 unfold curP
 refine bnd_rd (nam_rd p) fun nm q h1 h2=>bndB_rd (tak_rd _ q) fun r h3 h4=>bndB_rd (tak_rd _ r) fun s h5 h6=>bnd_rd ?_ fun xy q _ _=>cls_rd q fun q=>bif_rd (fun _=>rdE.none (stop_e _ _ _ (by decide))) fun _=>bndB_rd (ful_rd _ _ _ q) fun q _ _=>rdE.some rfl
 have a1:=(nam_on g h).1
 rw[h2]at a1
 have a2:=tak_on g [61] a1.2
 rw[h4]at a2
 have a3:=tak_on g [40] a2.2
 rw[h6]at a3
 exact prsP_rd g _ _ _ s a3.2 (by omega)
theorem rws_rd (g:GTk T)(hT:T.length≤40000):∀(f:Nat) (zs:List (List Int)) (p:Ps),p.at_<T.length→T.length≤p.at_+f→rdE p (rwsP T f zs p)
 |0,_,p,h,hf=>by omega
 |f+1,zs,p,h,hf=>by
  unfold rwsP
  refine bnd_rd (its_rd g _ _ _ _ p h (by omega)) fun z q h1 h2=>bif_rd (fun hi=>?_) fun _=>rdE.some rfl
  have ho:=its_on g [44] [41] 40000 [] p h
  rw[h2]at ho
  have h7:=is_on g ho.2 hi
  have h8:(advP q).at_=q.at_+1:=rfl
  have h9:=ho.1
  exact rws_rd g hT f _ (advP q) h7.2 (by omega)
theorem map_rd (g:GTk T)(f:Tk)(m:Nat){p:Ps}(h:p.at_<T.length)(hT:T.length≤40000):rdE p (mapP T f m p):=by
 unfold mapP
 refine bnd_rd (nam_rd p) fun nm q h1 h2=>bndB_rd (tak_rd _ q) fun r h3 h4=>bndB_rd (tak_rd _ r) fun s h5 h6=>?_
 have a1:=(nam_on g h).1
 rw[h2]at a1
 have a2:=tak_on g [61] a1.2
 rw[h4]at a2
 have a3:=tak_on g [40] a2.2
 rw[h6]at a3
 refine bnd_rd (its_rd g _ _ _ _ s a3.2 (by omega)) fun xs q h7 h8=>bndB_rd (tak_rd _ q) fun r h9 h10=>?_
 have a4:=its_on g [59] [59] 40000 [] s a3.2
 rw[h8]at a4
 have a5:=tak_on g [59] a4.2
 rw[h10]at a5
 refine bnd_rd (its_rd g _ _ _ _ r a5.2 (by omega)) fun ys q h7 h8=>bndB_rd (tak_rd _ q) fun r h9 h10=>?_
 have a6:=its_on g [59] [59] 40000 [] _ a5.2
 rw[h8]at a6
 have a7:=tak_on g [59] a6.2
 rw[h10]at a7
 exact bnd_rd (rws_rd g hT _ _ r a7.2 (by omega)) fun zs q _ _=>cls_rd q fun q=>bif_rd (fun _=>rdE.none (stop_e _ _ _ (by decide))) fun _=>bndB_rd (ful_rd _ _ _ q) fun q _ _=>rdE.some rfl
theorem inp_rd (f:Tk)(m:Nat)(p:Ps):rdE p (inpP T f m p):=by
 unfold inpP
 exact bnd_rd (nam_rd p) fun nm q _ _=>bndB_rd (tak_rd _ q) fun q _ _=>bnd_rd (nam_rd q) fun b q _ _=>bnd_rd (int_rd q) fun b q _ _=>bnd_rd (int_rd q) fun b q _ _=>
  bif_rd (fun hk=>rdE.none (endF_rd hk)) fun _=>bndB_rd (ful_rd _ _ _ q) fun q _ _=>rdE.some rfl
theorem nms_rd (g:GTk T)(a b:Str):∀(f:Nat) (l:List Str) (p:Ps),p.at_<T.length→T.length≤p.at_+f→rdE p (nmsP T a b f l p)
 |0,l,p,h,hf=>by omega
 |f+1,l,p,h,hf=>by
  unfold nmsP
  refine bnd_rd (nam_rd p) fun n q h1 h2=>bif_rd (fun _=>rdE.some rfl) fun _=>bndB_rd (tak_rd _ q) fun r h3 h4=>?_
  have ho:=nam_on g h
  rw[h1,h2]at ho
  have h5:=ho.2 rfl
  have h6:=tak_on g [44] ho.1.2
  rw[h4]at h6
  have h7:=h6.1
  exact nms_rd g a b f _ r h6.2 (by omega)
theorem cms_rd (g:GTk T):∀(f:Nat) (l:List Int) (p:Ps),p.at_<T.length→T.length≤p.at_+f→rdE p (cmsP T f l p)
 |0,l,p,h,hf=>by omega
 |f+1,l,p,h,hf=>by
  unfold cmsP
  refine bnd_rd (int_rd p) fun n q h1 h2=>bif_rd (fun hi=>?_) fun _=>rdE.some rfl
  have ho:=int_on g h
  rw[h1,h2]at ho
  have h5:=ho.2 rfl
  have h7:=is_on g ho.1.2 hi
  have h8:(advP q).at_=q.at_+1:=rfl
  exact cms_rd g f _ (advP q) h7.2 (by omega)
theorem ars_rd (g:GTk T){p:Ps}(h:p.at_<T.length)(hT:T.length≤40000):rdE p (arsP T p):=by
 unfold arsP
 exact bif_rd (fun _=>rdE.some rfl) fun _=>nms_rd g _ _ _ _ p h (by omega)
theorem ks_rd (g:GTk T){p:Ps}(h:p.at_<T.length)(hT:T.length≤40000):rdE p (ksP T p):=by
 unfold ksP
 exact bif_rd (fun hi=>show rdE (advP p) _ from cms_rd g _ _ _ (is_on g h hi).2 (by omega)) fun _=>rdE.some rfl
theorem bk2_rd (g:GTk T)(f kd:Tk)(a k t:Nat)(nm:Str)(m:Nat){p:Ps}(h:p.at_<T.length)(hT:T.length≤40000):rdE p (bk2P T f kd a k t nm m p):=by
 unfold bk2P
 refine bndB_rd (tak_rd _ p) fun q h1 h2=>?_
 have a1:=tak_on g [40] h
 rw[h2]at a1
 refine bnd_rd (ars_rd g a1.2 hT) fun x r h3 h4=>?_
 have a2:=ars_on g a1.2
 rw[h4]at a2
 exact bnd_rd (ks_rd g a2.2 hT) fun x q _ _=>bndB_rd (tak_rd _ q) fun q _ _=>bndB_rd (tak_rd _ q) fun q _ _=>bnd_rd (nam_rd q) fun x q _ _=>
  bif_rd (fun hk=>rdE.none (endF_rd hk)) fun _=>bif_rd (fun _=>rdE.none (stop_e _ _ _ (by decide))) fun _=>bndB_rd (ful_rd _ _ _ q) fun q _ _=>rdE.some rfl
theorem blk_rd (g:GTk T)(f:Tk)(m:Nat){p:Ps}(h:p.at_<T.length)(hT:T.length≤40000):rdE p (blkP T f m p):=by
 unfold blkP
 refine bnd_rd (nam_rd p) fun nm q h1 h2=>bndB_rd (tak_rd _ q) fun r h3 h4=>bif_rd (fun _=>rdE.none (wrnE r)) fun hs=>?_
 have a1:=(nam_on g h).1
 rw[h2]at a1
 have a2:=tak_on g [61] a1.2
 rw[h4]at a2
 have hk:(hereP T r).k≠4:=by
  rw[Bool.or_eq_false_iff]at hs
  have:=hs.1
  simp only[Bool.not_eq_false',beq_iff_eq]at this
  omega
 have ha:=(adv_on g a2.2 hk).1
 exact show rdE (advP r) _ from bk2_rd g _ _ _ _ _ _ _ ha.2 hT
theorem ous_rd (g:GTk T):∀(f:Nat) (l:List Str) (p:Ps),p.at_<T.length→T.length≤p.at_+f→rdE p (ousP T f l p)
 |0,l,p,h,hf=>by omega
 |f+1,l,p,h,hf=>by
  unfold ousP
  refine bnd_rd (nam_rd p) fun n q h1 h2=>bif_rd (fun hi=>?_) fun _=>rdE.some rfl
  have ho:=nam_on g h
  rw[h1,h2]at ho
  have h5:=ho.2 rfl
  have h7:=is_on g ho.1.2 hi
  have h8:(advP q).at_=q.at_+1:=rfl
  exact ous_rd g f _ (advP q) h7.2 (by omega)
theorem out_rd (g:GTk T)(f:Tk)(m:Nat){p:Ps}(h:p.at_<T.length)(hT:T.length≤40000):rdE p (outP T f m p):=by
 unfold outP
 exact bnd_rd (ous_rd g _ _ _ h (by omega)) fun l q _ _=>bif_rd (fun hk=>rdE.none (endF_rd hk)) fun _=>bif_rd (fun _=>rdE.none (stop_e _ _ _ (by decide))) fun _=>rdE.some rfl
theorem rdE.map {α β:Type}{p:Ps}{x:Option α×Ps}(h:rdE p x)(f:α→β):rdE p (x.1.map f,x.2):=by
 obtain⟨o,q⟩:=x
 cases o with
 |none=>exact rdE.none (h.2 rfl)
 |some a=>exact rdE.some (h.1 rfl)
theorem red_rd (g:GTk T)(hT:T.length≤40000)(f:Tk)(d:Dg){p:Ps}(h:p.at_<T.length):∀x,redP T f d p=some x→rdE p x:=by
 intro x hx
 unfold redP at hx
 split at hx
 ·cases hx;exact(typ_rd g f _ p).map _
 split at hx
 ·cases hx;exact(cur_rd g f _ h hT).map _
 split at hx
 ·cases hx;exact(map_rd g f _ h hT).map _
 split at hx
 ·cases hx;exact(inp_rd f _ p).map _
 split at hx
 ·cases hx;exact(blk_rd g f _ h hT).map _
 split at hx
 ·cases hx;exact(out_rd g f _ h hT).map _
 ·cases hx
theorem lne_rd (g:GTk T)(hT:T.length≤40000)(beg:Bool)(d:Dg){p:Ps}(h:p.at_<T.length):rdE p (lneP T beg d p):=by
 unfold lneP
 refine bif_rd (fun _=>bndB_rd (tak_rd _ p) fun q _ _=>bnd_rd (nam_rd q) fun nm q _ _=>bndB_rd (end_rd q) fun q _ _=>rdE.some rfl) fun _=>bif_rd (fun _=>rdE.none (wrnE p)) fun hk=>?_
 have hk:(hereP T p).k≠4:=by
  simp only[Bool.not_eq_false',beq_iff_eq]at hk
  omega
 have ha:=(adv_on g h hk).1
 cases hr:redP T (hereP T p) d (advP p)with
 |none=>exact rdE.none (wrnE p)
 |some x=>exact show rdE (advP p) _ from bnd_rd (red_rd g hT _ d ha.2 x hr) fun d q _ _=>bndB_rd (end_rd q) fun q _ _=>rdE.some rfl
end
structure LnT (U:List Tk):Prop where
 g:GTk U
 n:U≠[]
 k:∀i,i+1<U.length→(U.getD i tk0).k≠4
section
variable {Q:Nat×Nat→Nat×Nat→Prop} {T U:List Tk} {o:Nat} (h:SimT Q T U o)
include h
theorem red_sim {p q:Ps}(hs:SimP Q U o p q){f f':Tk}(hf:Q (f.l,f.c) (f'.l,f'.c))(hfs:f.s=f'.s)(d:Dg):
  (redP T f d p=none∧redP U f' d q=none)∨∃x y,redP T f d p=some x∧redP U f' d q=some y∧SimR Q U o x y:=by
 unfold redP
 rw[hfs]
 have e:∀{α β:Type} {x y:Option α×Ps} (g:α→β),SimR Q U o x y→SimR Q U o (x.1.map g,x.2) (y.1.map g,y.2):=fun g hh=>⟨by simp only[hh.1],hh.2⟩
 split
 ·exact .inr ⟨_,_,rfl,rfl,e _ (typ_sim h hs hf _)⟩
 split
 ·exact .inr ⟨_,_,rfl,rfl,e _ (cur_sim h hs hf _)⟩
 split
 ·exact .inr ⟨_,_,rfl,rfl,e _ (map_sim h hs hf _)⟩
 split
 ·exact .inr ⟨_,_,rfl,rfl,e _ (inp_sim h hs hf _)⟩
 split
 ·exact .inr ⟨_,_,rfl,rfl,e _ (blk_sim h hs hf _)⟩
 split
 ·exact .inr ⟨_,_,rfl,rfl,e _ (out_sim h hs hf _)⟩
 ·exact .inl ⟨rfl,rfl⟩
def SimE (Q:Nat×Nat→Nat×Nat→Prop)(U:List Tk)(o:Nat){α:Type}(x y:Option α×Ps):Prop:=x.1=y.1∧(x.1=none→SimP Q U o x.2 y.2)∧(x.1.isSome=true→x.2.at_=o+U.length)
omit h in
theorem bnd_simE {α β:Type}{x y:Option α×Ps}{f g:α→Ps→Option β×Ps}(hx:SimR Q U o x y)(hf:∀a p q,SimP Q U o p q→SimE Q U o (f a p) (g a q)):SimE Q U o (bnd x f) (bnd y g):=by
 obtain⟨a,p⟩:=x
 obtain⟨b,q⟩:=y
 obtain⟨h1,h2⟩:=hx
 simp only at h1 h2
 subst h1
 cases a with
 |none=>exact⟨rfl,fun _=>h2,fun h=>by cases h⟩
 |some a=>exact hf a p q h2
omit h in
theorem bndB_simE {β:Type}{x y:Bool×Ps}{f g:Ps→Option β×Ps}(hx:SimR Q U o x y)(hf:∀p q,SimP Q U o p q→SimE Q U o (f p) (g q)):SimE Q U o (bndB x f) (bndB y g):=by
 obtain⟨a,p⟩:=x
 obtain⟨b,q⟩:=y
 obtain⟨h1,h2⟩:=hx
 simp only at h1 h2
 subst h1
 cases a with
 |false=>exact⟨rfl,fun _=>h2,fun h=>by cases h⟩
 |true=>exact hf p q h2
theorem end_simE (hU:LnT U){p q:Ps}(hs:SimP Q U o p q){α:Type}(a:α):SimE Q U o (bndB (endP T p) fun p=>(some a,p)) (bndB (endP U q) fun p=>(some a,p)):=by
 have hk:=here_k h hs
 have h1:=hs.1
 have h2:=hs.2.1
 unfold endP
 rw[hk]
 cases h4:(hereP U q).k==4 with
 |true=>
  refine⟨rfl,fun h=>(by cases h),fun _=>?_⟩
  have:¬q.at_+1<U.length:=fun hh=>hU.k q.at_ hh (eq_of_beq h4)
  show p.at_+1=_
  omega
 |false=>exact⟨rfl,fun _=>stop_sim hs _ (here_q h hs),fun h=>by cases h⟩
theorem lne_sim (hU:LnT U){p q:Ps}(hs:SimP Q U o p q)(beg:Bool)(d:Dg):SimE Q U o (lneP T beg d p) (lneP U beg d q):=by
 unfold lneP
 cases beg with
 |true=>exact bndB_simE (tak_sim h hs _) fun p q hs=>bnd_simE (nam_sim h hs) fun nm p q hs=>end_simE h hU hs _
 |false=>
  simp only[cond_false]
  rw[here_k h hs]
  cases hk:(hereP U q).k==1 with
  |false=>exact⟨rfl,fun _=>wrn_sim h hs,fun h=>by cases h⟩
  |true=>
   simp only[Bool.not_true,cond_false]
   have ha:=adv_sim h hs (by rw[eq_of_beq hk];decide)
   rcases red_sim h ha (here_q h hs) (here_s h hs) d with⟨r1,r2⟩|⟨x,y,r1,r2,r3⟩
   ·rw[r1,r2];exact⟨rfl,fun _=>wrn_sim h hs,fun h=>by cases h⟩
   ·rw[r1,r2];exact bnd_simE r3 fun d p q hs=>end_simE h hU hs _
end
def ps0:Ps:=⟨0,0,0,0⟩
def parW:List (List Tk)→Bool→Dg→Dg×(Nat×Nat)×Int
 |[],_,d=>(d,(0,0),0)
 |U::Ls,beg,d=>match (lneP U beg d ps0).1 with
  |none=>(d0,((lneP U beg d ps0).2.l,(lneP U beg d ps0).2.c),(lneP U beg d ps0).2.e)
  |some d'=>parW Ls false d'
theorem getD_mid (A U R:List Tk){i:Nat}(h:i<U.length):(A++(U++R)).getD (i+A.length) tk0=U.getD i tk0:=by
 rw[List.getD_eq_getElem?_getD,List.getD_eq_getElem?_getD,List.getElem?_append_right (by omega),Nat.add_sub_cancel,List.getElem?_append_left h]
theorem gtk_lines:∀{Ls:List (List Tk)},(∀U∈Ls,LnT U)→GTk Ls.flatten
 |[],_=>fun i h=>by cases h
 |U::Ls,h=>by
  rw[List.flatten_cons]
  exact gtk_app (gtk_lines fun V hV=>h V (List.mem_cons_of_mem _ hV)) fun _=>(h U (List.mem_cons_self ..)).g
theorem par_lines (T:List Tk)(hT:T.length≤40000):∀(Ls:List (List Tk)) (A:List Tk) (f:Nat) (d:Dg) (p:Ps),T=A++Ls.flatten→(∀U∈Ls,LnT U)→p.at_=A.length→p.e=0→Ls.length<f→parL T f d p=parW Ls (A.length==0) d
 |[],A,f,d,p,h1,h2,h3,h4,h5=>by
  cases f with
  |zero=>rfl
  |succ f=>
   have:¬p.at_<T.length:=by rw[h1,h3];simp
   rw[parL,if_neg this];rfl
 |U::Ls,A,f,d,p,h1,h2,h3,h4,h5=>by
  obtain⟨f,rfl⟩:∃k,f=k+1:=⟨f-1,by omega⟩
  have hU:=h2 U (List.mem_cons_self ..)
  have hpos:0<U.length:=List.length_pos_iff.2 hU.n
  have hlt:p.at_<T.length:=by rw[h1,h3,List.flatten_cons,List.length_append,List.length_append];omega
  rw[List.flatten_cons]at h1
  have hg:∀i,i<U.length→T.getD (i+A.length) tk0=U.getD i tk0:=fun i hi=>by rw[h1];exact getD_mid A U _ hi
  have hgT:GTk T:=by
   rw[h1]
   refine gtk_app ?_ fun h=>?_
   ·have:=gtk_lines h2;rw[List.flatten_cons]at this;exact this
   ·exact absurd (List.append_eq_nil_iff.1 h).1 hU.n
  have hsim:SimT Eq T U A.length:=⟨hU.g,fun i hi=>by rw[hg i hi],fun i hi=>by rw[hg i hi],fun i hi=>by rw[hg i hi]⟩
  have hps:SimP Eq U A.length p ps0:=⟨by rw[h3];show A.length=0+A.length;omega,hpos,h4,fun h=>absurd h4 h⟩
  have hl:=lne_sim hsim hU hps (p.at_==0) d
  have hr:=lne_rd hgT hT (p.at_==0) d hlt
  have hb:(p.at_==0)=(A.length==0):=by rw[h3]
  rw[parL,if_pos hlt,parW,←hb]
  obtain⟨l1,l2,l3⟩:=hl
  rw[←l1]
  cases ho:(lneP T (p.at_==0) d p).1 with
  |none=>
   obtain⟨m1,m2,m3,m4⟩:=l2 ho
   have m5:=m4 (hr.2 ho)
   simp only
   rw[m3,(Prod.mk.inj m5).1,(Prod.mk.inj m5).2]
  |some d'=>
   simp only
   have e1:(A.length+U.length==0)=false:=beq_eq_false_iff_ne.2 (by omega)
   have:=par_lines T hT Ls (A++U) f d' (lneP T (p.at_==0) d p).2 (by rw[h1,List.append_assoc]) (fun V hV=>h2 V (List.mem_cons_of_mem _ hV)) (by rw[List.length_append];exact l3 (by rw[ho];rfl)) (by rw[hr.1 (by rw[ho];rfl)];exact h4) (by rw[List.length_cons]at h5;omega)
   rw[this,List.length_append,e1]
def lnU (i:Nat)(l:Str):List Tk:=(linQ (i+1) l (l.length+1) 0).1++[⟨4,[],i+1,l.length+1⟩]
def lnsU:Nat→List Str→List (List Tk)
 |_,[]=>[]
 |i,l::L=>(if (linQ (i+1) l (l.length+1) 0).1.isEmpty=true then[]else[lnU i l])++lnsU (i+1) L
theorem lin_k (ln:Nat)(l:Str):∀(f k:Nat),k≤l.length→∀t∈(linQ ln l f k).1,t.k≤3∧t.k≠0∧t.l=ln
 |0,k,hk=>fun t h=>by cases h
 |f+1,k,hk=>by
  rw[linQ]
  by_cases h1:l.length≤k
  ·rw[if_pos h1];exact fun t h=>by cases h
  rw[if_neg h1]
  by_cases h2:l.getD k 0=35
  ·rw[if_pos h2]
   cases badK l (l.length+1) k<;>exact fun t h=>by cases h
  rw[if_neg h2]
  by_cases h3:(scnQ l k).2.2≠0
  ·rw[if_pos h3];exact fun t h=>by cases h
  rw[if_neg h3]
  have he:(scnQ l k).2.2=0:=by omega
  obtain⟨q1,q2,q3⟩:=scn_ok (by omega) he
  intro t ht
  rcases List.mem_append.1 ht with h|h
  ·split at h
   ·cases h
   ·rename_i h0
    rw[List.mem_singleton]at h
    subst h
    exact⟨q3,h0,rfl⟩
  ·exact lin_k ln l f _ q2 t h
theorem lnU_ok (i:Nat)(l:Str):LnT (lnU i l):=by
 refine⟨?_,by unfold lnU;simp,?_⟩
 ·exact gtk_app (B:=[⟨4,[],i+1,l.length+1⟩]) (fun j hj=>by obtain rfl:j=0:=(by simpa using hj);rfl) (fun h=>by cases h)
 ·intro j hj
  unfold lnU at hj⊢
  rw[List.length_append,List.length_singleton]at hj
  have hj:j<(linQ (i+1) l (l.length+1) 0).1.length:=by omega
  rw[List.getD_eq_getElem?_getD,List.getElem?_append_left hj,List.getElem?_eq_getElem hj]
  have:=(lin_k (i+1) l (l.length+1) 0 (by omega) _ (List.getElem_mem hj)).1
  show(linQ (i+1) l (l.length+1) 0).1[j].k≠4
  omega
theorem lnsU_ok:∀(L:List Str) (i:Nat),∀U∈lnsU i L,LnT U
 |[],i=>fun U h=>by cases h
 |l::L,i=>fun U h=>by
  rw[lnsU]at h
  rcases List.mem_append.1 h with h|h
  ·split at h
   ·cases h
   ·rw[List.mem_singleton]at h;subst h;exact lnU_ok i l
  ·exact lnsU_ok L (i+1) U h
theorem lns_lines:∀(L:List Str) (i:Nat),(lnsQ i L).2.2=0→(lnsQ i L).1=(lnsU i L).flatten∧(lnsQ i L).2.1=(0,0)∧∀j l,L[j]?=some l→(linQ (i+j+1) l (l.length+1) 0).2=none
 |[],i,_=>⟨rfl,rfl,fun j l h=>by cases h⟩
 |l::L,i,h=>by
  rw[lnsQ]at h⊢
  rw[lnsU]
  cases hx:(linQ (i+1) l (l.length+1) 0).2 with
  |some x=>
   obtain⟨k,e⟩:=x
   rw[hx]at h
   exact absurd h (lin_ne _ _ _ _ _ hx)
  |none=>
   rw[hx]at h
   simp only at h⊢
   by_cases he:(lnsQ (i+1) L).2.2≠0
   ·rw[if_pos he]at h;exact absurd h he
   ·rw[if_neg he]
    obtain⟨i1,i2,i3⟩:=lns_lines L (i+1) (by omega)
    refine⟨?_,rfl,fun j m hm=>?_⟩
    ·simp only
     rw[List.flatten_append,i1]
     unfold lnU
     cases (linQ (i+1) l (l.length+1) 0).1 with
     |nil=>rfl
     |cons a A=>simp
    ·cases j with
     |zero=>cases hm;exact hx
     |succ j=>
      have:=i3 j m (by simpa using hm)
      rw[show i+(j+1)+1=i+1+j+1 from by omega];exact this
theorem lnsU_len:∀(L:List Str) (i:Nat),(lnsU i L).length≤(lnsU i L).flatten.length
 |L,i=>by
  have:∀Ls:List (List Tk),(∀U∈Ls,LnT U)→Ls.length≤Ls.flatten.length:=by
   intro Ls
   induction Ls with
   |nil=>intro _;exact Nat.le_refl _
   |cons U Ls ih=>
    intro hh
    have h1:=ih fun V hV=>hh V (List.mem_cons_of_mem _ hV)
    have h2:=List.length_pos_iff.2 (hh U (List.mem_cons_self ..)).n
    rw[List.flatten_cons,List.length_append,List.length_cons];omega
  exact this _ (lnsU_ok L i)
theorem par_eq (s:Str):parD s=if (tokQ s).2.2≠0 then(d0,(tokQ s).2.1,(tokQ s).2.2)else if lnsU 0 (splB 10 s)=[]then(d0,(0,0),4)else parW (lnsU 0 (splB 10 s)) true d0:=by
 unfold parD
 by_cases he:(tokQ s).2.2≠0
 ·rw[if_pos he,if_pos he]
 ·rw[if_neg he,if_neg he]
  have hf:=tok_facts s
  have h0:(tokQ s).2.2=0:=by omega
  have hq:(tokQ s).1=(lnsU 0 (splB 10 s)).flatten:=by
   unfold tokQ at h0⊢
   split at h0
   ·cases h0
   ·rename_i hh
    rw[if_neg hh]
    exact(lns_lines _ _ h0).1
  have hl:=lnsU_len (splB 10 s) 0
  rw[←hq]at hl
  by_cases hn:lnsU 0 (splB 10 s)=[]
  ·rw[if_pos hn,if_pos (by rw[hq,hn];rfl)]
  ·rw[if_neg hn]
   have hne:¬(tokQ s).1=[]:=fun h=>by
    rw[h]at hl
    exact hn (List.length_eq_zero_iff.1 (Nat.le_zero.1 hl))
   rw[if_neg hne]
   have hlen:=hf.1
   have hb:(lnsU 0 (splB 10 s)).length<40000:=by
    -- the tokens are more than the lines
    have hU:=lnsU_ok (splB 10 s) 0
    by_cases hlt:(lnsU 0 (splB 10 s)).length<40000
    ·exact hlt
    ·exfalso
     have h16:s.length≤16384:=by
      unfold tokQ at h0
      split at h0
      ·cases h0
      ·omega
     have e:=splB_sum 10 s
     have:(splB 10 s).length≤s.length+1:=by
      rw[←e]
      have:∀L:List Str,L.length≤(L.map fun x=>x.length+1).sum:=by
       intro L
       induction L with
       |nil=>exact Nat.le_refl _
       |cons a L ih=>simp only[List.map_cons,List.sum_cons,List.length_cons];omega
      exact this _
     have h3:∀(L:List Str) (i:Nat),(lnsU i L).length≤L.length:=by
      intro L
      induction L with
      |nil=>intro i;exact Nat.le_refl _
      |cons a L ih=>
       intro i
       rw[lnsU,List.length_append,List.length_cons]
       have:=ih (i+1)
       split
       ·simp only[List.length_nil];omega
       ·simp only[List.length_cons,List.length_nil];omega
     have:=h3 (splB 10 s) 0
     omega
   exact par_lines (tokQ s).1 hf.1 (lnsU 0 (splB 10 s)) [] 40000 d0 ps0 (by rw[hq];rfl) (lnsU_ok _ _) rfl rfl hb
end Go.Proofs.YtlnpgbnhcondjaaGreatDoor.Fx
