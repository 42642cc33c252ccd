/-  -/
import Derived.Test.YtlnpgbnhcondjaaGreatDoorPS
import Derived.Test.YtlnpgbnhcondjaaGreatDoorYU
namespace Go.Proofs.YtlnpgbnhcondjaaGreatDoor.Fx
set_option linter.unusedVariables false
set_option linter.unusedSimpArgs false
set_option linter.unusedSectionVars false
def SM (b:Prop){α:Type}(x:Option α×Ps):Prop:=x.1.isSome=true→b
theorem bnd_sm {b:Prop}{α β:Type}{x:Option α×Ps}{f:α→Ps→Option β×Ps}(h:∀a q,SM b (f a q)):SM b (bnd x f):=by
 obtain⟨o,q⟩:=x
 cases o with
 |none=>exact fun h=>by cases h
 |some a=>exact h a q
theorem bndB_sm {b:Prop}{β:Type}{x:Bool×Ps}{f:Ps→Option β×Ps}(h:∀q,SM b (f q)):SM b (bndB x f):=by
 obtain⟨o,q⟩:=x
 cases o with
 |false=>exact fun h=>by cases h
 |true=>exact h q
theorem bif_sm {b:Prop}{β:Type}{c:Bool}{x y:Option β×Ps}(hx:c=true→SM b x)(hy:c=false→SM b y):SM b (bif c then x else y):=by
 cases c with
 |true=>exact hx rfl
 |false=>exact hy rfl
theorem none_sm {b:Prop}{β:Type}{q:Ps}:SM b ((none:Option β),q):=fun h=>by cases h
theorem ful_sm {α:Type}(f:Tk)(m l:Nat)(p:Ps)(a:α):SM (m<l) (bndB (fulP f m l p) fun p=>(some a,p)):=by
 unfold fulP
 cases h:decide (l≤m)with
 |true=>exact none_sm
 |false=>exact fun _=>Nat.lt_of_not_le (of_decide_eq_false h)
section
variable {T:List Tk}
theorem typ_sm (f:Tk)(m:Nat)(p:Ps):SM (m<30) (typP T f m p):=by
 unfold typP
 exact bnd_sm fun _ _=>bndB_sm fun _=>bnd_sm fun _ _=>bif_sm (fun _=>none_sm) fun _=>bnd_sm fun _ _=>bnd_sm fun _ _=>bnd_sm fun _ _=>bnd_sm fun _ _=>bif_sm (fun _=>none_sm) fun _=>ful_sm _ _ _ _ _
theorem cls_sm {b:Prop}{α:Type}{p:Ps}{f:Ps→Option α×Ps}(hf:∀q,SM b (f q)):SM b (clsP T p f):=by
 unfold clsP
 exact bif_sm (fun _=>none_sm) fun _=>bif_sm (fun _=>none_sm) fun _=>hf _
theorem cur_sm (f:Tk)(m:Nat)(p:Ps):SM (m<30) (curP T f m p):=by
 unfold curP
 exact bnd_sm fun _ _=>bndB_sm fun _=>bndB_sm fun _=>bnd_sm fun _ _=>cls_sm fun _=>bif_sm (fun _=>none_sm) fun _=>ful_sm _ _ _ _ _
theorem map_sm (f:Tk)(m:Nat)(p:Ps):SM (m<30) (mapP T f m p):=by
 unfold mapP
 exact bnd_sm fun _ _=>bndB_sm fun _=>bndB_sm fun _=>bnd_sm fun _ _=>bndB_sm fun _=>bnd_sm fun _ _=>bndB_sm fun _=>bnd_sm fun _ _=>cls_sm fun _=>bif_sm (fun _=>none_sm) fun _=>ful_sm _ _ _ _ _
theorem inp_sm (f:Tk)(m:Nat)(p:Ps):SM (m<30) (inpP T f m p):=by
 unfold inpP
 exact bnd_sm fun _ _=>bndB_sm fun _=>bnd_sm fun _ _=>bnd_sm fun _ _=>bnd_sm fun _ _=>bif_sm (fun _=>none_sm) fun _=>ful_sm _ _ _ _ _
theorem blk_sm (f:Tk)(m:Nat)(p:Ps):SM (m<200) (blkP T f m p):=by
 unfold blkP
 refine bnd_sm fun _ _=>bndB_sm fun _=>bif_sm (fun _=>none_sm) fun _=>?_
 unfold bk2P
 exact bndB_sm fun _=>bnd_sm fun _ _=>bnd_sm fun _ _=>bndB_sm fun _=>bndB_sm fun _=>bnd_sm fun _ _=>bif_sm (fun _=>none_sm) fun _=>bif_sm (fun _=>none_sm) fun _=>ful_sm _ _ _ _ _
theorem out_sm (f:Tk)(m:Nat)(p:Ps):∀l,(outP T f m p).1=some l→m+l.length≤30:=by
 unfold outP
 generalize ousP T 40000 [] p=r
 obtain⟨o,q⟩:=r
 cases o with
 |none=>intro l h;cases h
 |some l2=>
  intro l h
  simp only[bnd]at h
  cases hk:(!((hereP T q).k==4))with
  |true=>rw[hk]at h;cases h
  |false=>
   rw[hk]at h
   cases hc:decide (30<m+l2.length)with
   |true=>rw[hc]at h;cases h
   |false=>
    rw[hc]at h
    cases h
    have:=of_decide_eq_false hc;omega
structure Dg.bd (d:Dg):Prop where
 tys:d.tys.length≤200
 cus:d.cus.length≤200
 mas:d.mas.length≤200
 ins:d.ins.length≤200
 bls:d.bls.length≤200
 ous:d.ous.length≤200
theorem map_some' {α β:Type}{x:Option α}{f:α→β}{b:β}(h:x.map f=some b):∃a,x=some a∧b=f a:=by
 cases x with
 |none=>cases h
 |some a=>exact⟨a,rfl,(Option.some.inj h).symm⟩
theorem red_bd (f:Tk)(d:Dg)(p:Ps)(hb:d.bd):∀x,redP T f d p=some x→∀d',x.1=some d'→d'.bd:=by
 intro x hx d' hd
 obtain⟨b1,b2,b3,b4,b5,b6⟩:=hb
 unfold redP at hx
 split at hx
 ·cases hx
  obtain⟨a,h1,rfl⟩:=map_some' hd
  have:=typ_sm f d.tys.length p (by rw[h1];rfl)
  exact⟨by simp only[List.length_append,List.length_singleton];omega,b2,b3,b4,b5,b6⟩
 split at hx
 ·cases hx
  obtain⟨a,h1,rfl⟩:=map_some' hd
  have:=cur_sm f d.cus.length p (by rw[h1];rfl)
  exact⟨b1,by simp only[List.length_append,List.length_singleton];omega,b3,b4,b5,b6⟩
 split at hx
 ·cases hx
  obtain⟨a,h1,rfl⟩:=map_some' hd
  have:=map_sm f d.mas.length p (by rw[h1];rfl)
  exact⟨b1,b2,by simp only[List.length_append,List.length_singleton];omega,b4,b5,b6⟩
 split at hx
 ·cases hx
  obtain⟨a,h1,rfl⟩:=map_some' hd
  have:=inp_sm f d.ins.length p (by rw[h1];rfl)
  exact⟨b1,b2,b3,by simp only[List.length_append,List.length_singleton];omega,b5,b6⟩
 split at hx
 ·cases hx
  obtain⟨a,h1,rfl⟩:=map_some' hd
  have:=blk_sm f d.bls.length p (by rw[h1];rfl)
  exact⟨b1,b2,b3,b4,by simp only[List.length_append,List.length_singleton];omega,b6⟩
 split at hx
 ·cases hx
  obtain⟨a,h1,rfl⟩:=map_some' hd
  have:=out_sm f d.ous.length p a h1
  exact⟨b1,b2,b3,b4,b5,by simp only[List.length_append];omega⟩
 ·cases hx
theorem red_on (g:GTk T)(f:Tk)(d:Dg){p:Ps}(hp:p.at_<T.length):∀x,redP T f d p=some x→onP T p x.2:=by
 intro x hx
 unfold redP at hx
 split at hx
 ·cases hx;exact typ_on g f _ hp
 split at hx
 ·cases hx;exact cur_on g f _ hp
 split at hx
 ·cases hx;exact map_on g f _ hp
 split at hx
 ·cases hx;exact inp_on g f _ hp
 split at hx
 ·cases hx;exact blk_on g f _ hp
 split at hx
 ·cases hx;exact out_on g f _ hp
 ·cases hx
theorem endB_some {α:Type}{a b:α}{q r:Ps}(hq:q.at_<T.length)(h:(bndB (endP T q) fun p=>(some a,p))=(some b,r)):a=b∧r.at_=q.at_+1∧(hereP T q).k=4:=by
 unfold endP at h
 cases hk:(hereP T q).k==4 with
 |true=>
  rw[hk]at h
  have h:(some a,advP q)=(some b,r):=h
  obtain⟨h1,h2⟩:=Prod.mk.inj h
  exact⟨Option.some.inj h1,by rw[←h2];rfl,eq_of_beq hk⟩
 |false=>
  rw[hk]at h
  cases h
theorem lne_go (g:GTk T)(beg:Bool)(d:Dg){p:Ps}(hp:p.at_<T.length){d':Dg}{r:Ps}(h:lneP T beg d p=(some d',r))(hb:d.bd):p.at_<r.at_∧r.at_≤T.length∧d'.bd:=by
 unfold lneP at h
 cases beg with
 |true=>
  simp only[cond_true]at h
  have ht:=tak_on g diaT hp
  generalize takP T diaT p=x at h ht
  obtain⟨b,q⟩:=x
  cases b with
  |false=>cases h
  |true=>
   simp only[bndB]at h
   have hn:=(nam_on g ht.2).1
   generalize namP T q=x at h hn
   obtain⟨o,q2⟩:=x
   cases o with
   |none=>cases h
   |some s=>
    simp only[bnd]at h
    obtain⟨h1,h2,_⟩:=endB_some (T:=T) hn.2 h
    have h3:p.at_≤q.at_:=ht.1
    have h4:q.at_≤q2.at_:=hn.1
    have h5:q2.at_<T.length:=hn.2
    have h2:r.at_=q2.at_+1:=h2
    subst h1
    exact⟨by omega,by omega,⟨hb.tys,hb.cus,hb.mas,hb.ins,hb.bls,hb.ous⟩⟩
 |false=>
  simp only[cond_false]at h
  cases hk:(!((hereP T p).k==1))with
  |true=>rw[hk]at h;cases h
  |false=>
   rw[hk]at h
   simp only[cond_false]at h
   have hk4:(hereP T p).k≠4:=by simp only[Bool.not_eq_false',beq_iff_eq]at hk;omega
   have ha:=(adv_on g hp hk4).1
   have hr:=red_on g (hereP T p) d ha.2
   have hd:=red_bd (T:=T) (hereP T p) d (advP p) hb
   cases hq:redP T (hereP T p) d (advP p)with
   |none=>rw[hq]at h;cases h
   |some x=>
    rw[hq]at h hr hd
    have hr:=hr x rfl
    have hd:=hd x rfl
    obtain⟨o,q⟩:=x
    cases o with
    |none=>cases h
    |some d2=>
     simp only[bnd]at h
     obtain⟨h1,h2,_⟩:=endB_some (T:=T) hr.2 h
     have h3:(advP p).at_≤q.at_:=hr.1
     have h4:(advP p).at_=p.at_+1:=rfl
     have h5:q.at_<T.length:=hr.2
     have h2:r.at_=q.at_+1:=h2
     subst h1
     exact⟨by omega,by omega,hd d2 rfl⟩
end
end Go.Proofs.YtlnpgbnhcondjaaGreatDoor.Fx
