/-  -/
import Derived.Test.YtlnpgbnhcondjaaGreatDoorPS
import Derived.Test.YtlnpgbnhcondjaaGreatDoorYF
namespace Go.Proofs.YtlnpgbnhcondjaaGreatDoor.Fx
set_option linter.unusedVariables false
set_option linter.unusedSimpArgs false
set_option linter.unusedSectionVars false
def E4 (U:List Tk){α:Type}(x:Option α×Ps):Prop:=x.1.isSome=true→(hereP U x.2).k=4
theorem bnd_e4 {U:List Tk}{α β:Type}{x:Option α×Ps}{f:α→Ps→Option β×Ps}(h:∀a q,x.1=some a→x.2=q→E4 U (f a q)):E4 U (bnd x f):=by
 obtain⟨o,q⟩:=x
 cases o with
 |none=>exact fun h=>by cases h
 |some a=>exact h a q rfl rfl
theorem bndB_e4 {U:List Tk}{β:Type}{x:Bool×Ps}{f:Ps→Option β×Ps}(h:∀q,x.1=true→x.2=q→E4 U (f q)):E4 U (bndB x f):=by
 obtain⟨o,q⟩:=x
 cases o with
 |false=>exact fun h=>by cases h
 |true=>exact h q rfl rfl
theorem bif_e4 {U:List Tk}{β:Type}{c:Bool}{x y:Option β×Ps}(hx:c=true→E4 U x)(hy:c=false→E4 U y):E4 U (bif c then x else y):=by
 cases c with
 |true=>exact hx rfl
 |false=>exact hy rfl
theorem none_e4 {U:List Tk}{β:Type}{q:Ps}:E4 U ((none:Option β),q):=fun h=>by cases h
theorem ful_at (f:Tk)(m l:Nat)(p:Ps):(fulP f m l p).2.at_=p.at_:=by
 unfold fulP
 cases decide (l≤m)with
 |true=>exact stop_at ..
 |false=>rfl
theorem full_e4 {U:List Tk}{α:Type}{p:Ps}(h:(hereP U p).k=4)(f:Tk)(m l:Nat)(a:α):E4 U (bndB (fulP f m l p) fun p=>(some a,p)):=by
 have h1:=ful_at f m l p
 refine bndB_e4 fun q _ hq _=>?_
 rw[hq]at h1
 show(U.getD q.at_ tk0).k=4
 rw[h1];exact h
theorem col_4 {U:List Tk}(g:GTk U):∀(f:Nat) (s:Str) (p:Ps),p.at_<U.length→U.length≤p.at_+f→(hereP U (colP U f s p).2).k=4
 |0,s,p,hp,hf=>by omega
 |f+1,s,p,hp,hf=>by
  rw[colP]
  cases hk:(hereP U p).k==4 with
  |true=>exact eq_of_beq hk
  |false=>
   have ha:=adv_on g hp (by simpa using hk)
   have:(advP p).at_=p.at_+1:=rfl
   exact col_4 g f _ (advP p) ha.1.2 (by omega)
section
variable {U:List Tk}
theorem unt_4 (g:GTk U)(hn:U.length≤40000){p:Ps}(hp:p.at_<U.length):E4 U (untP U p):=by
 unfold untP
 exact bif_e4 (fun _=>none_e4) fun _=>bif_e4 (fun _ _=>col_4 g _ _ p hp (by omega)) fun _=>none_e4
theorem typ_4 (g:GTk U)(hn:U.length≤40000)(f:Tk)(m:Nat){p:Ps}(hp:p.at_<U.length):E4 U (typP U f m p):=by
 have hk:=typ_on g f m hp
 unfold typP
 refine bnd_e4 fun nm q h1 h2=>bndB_e4 fun r h3 h4=>bnd_e4 fun b s h5 h6=>bif_e4 (fun _=>none_e4) fun hs=>?_
 have a1:=(nam_on g hp).1
 rw[h2]at a1
 have a2:=tak_on g [61] a1.2
 rw[h4]at a2
 have a3:=(int_on g a2.2).1
 rw[h6]at a3
 have ha:onP U s (advP s):=by
  rw[Bool.and_eq_false_iff,Bool.not_eq_false',Bool.not_eq_false']at hs
  rcases hs with hs|hs
  ·exact is_on g a3.2 hs
  ·exact is_on g a3.2 hs
 refine bnd_e4 fun x q h7 h8=>bnd_e4 fun y r h9 h10=>bnd_e4 fun z t h11 h12=>?_
 have b1:=(int_on g ha.2).1
 rw[h8]at b1
 have b2:=(int_on g b1.2).1
 rw[h10]at b2
 have b3:=(int_on g b2.2).1
 rw[h12]at b3
 have b4:=unt_4 g hn b3.2
 refine bnd_e4 fun u w h13 h14=>bif_e4 (fun _=>none_e4) fun _=>full_e4 ?_ _ _ _ _
 have:=b4 (by rw[h13];rfl)
 rw[h14]at this;exact this
theorem cls_4 {α:Type}{p:Ps}{f:Ps→Option α×Ps}(hf:∀q,(hereP U q).k=4→E4 U (f q)):E4 U (clsP U p f):=by
 unfold clsP
 exact bif_e4 (fun _=>none_e4) fun _=>bif_e4 (fun _=>none_e4) fun hk=>hf _ (by simpa using hk)
theorem cur_4 (f:Tk)(m:Nat)(p:Ps):E4 U (curP U f m p):=by
 unfold curP
 exact bnd_e4 fun _ _ _ _=>bndB_e4 fun _ _ _=>bndB_e4 fun _ _ _=>bnd_e4 fun _ _ _ _=>cls_4 fun q hq=>bif_e4 (fun _=>none_e4) fun _=>full_e4 hq _ _ _ _
theorem map_4 (f:Tk)(m:Nat)(p:Ps):E4 U (mapP U f m p):=by
 unfold mapP
 exact bnd_e4 fun _ _ _ _=>bndB_e4 fun _ _ _=>bndB_e4 fun _ _ _=>bnd_e4 fun _ _ _ _=>bndB_e4 fun _ _ _=>bnd_e4 fun _ _ _ _=>bndB_e4 fun _ _ _=>bnd_e4 fun _ _ _ _=>cls_4 fun q hq=>bif_e4 (fun _=>none_e4) fun _=>full_e4 hq _ _ _ _
theorem inp_4 (f:Tk)(m:Nat)(p:Ps):E4 U (inpP U f m p):=by
 unfold inpP
 exact bnd_e4 fun _ _ _ _=>bndB_e4 fun _ _ _=>bnd_e4 fun _ _ _ _=>bnd_e4 fun _ _ _ _=>bnd_e4 fun _ _ _ _=>bif_e4 (fun _=>none_e4) fun hk=>full_e4 (by simpa using hk) _ _ _ _
theorem blk_4 (f:Tk)(m:Nat)(p:Ps):E4 U (blkP U f m p):=by
 unfold blkP
 refine bnd_e4 fun _ _ _ _=>bndB_e4 fun _ _ _=>bif_e4 (fun _=>none_e4) fun _=>?_
 unfold bk2P
 exact bndB_e4 fun _ _ _=>bnd_e4 fun _ _ _ _=>bnd_e4 fun _ _ _ _=>bndB_e4 fun _ _ _=>bndB_e4 fun _ _ _=>bnd_e4 fun _ _ _ _=>bif_e4 (fun _=>none_e4) fun hk=>bif_e4 (fun _=>none_e4) fun _=>full_e4 (by simpa using hk) _ _ _ _
theorem out_4 (f:Tk)(m:Nat)(p:Ps):E4 U (outP U f m p):=by
 unfold outP
 exact bnd_e4 fun _ _ _ _=>bif_e4 (fun _=>none_e4) fun hk=>bif_e4 (fun _=>none_e4) fun _=>fun _=>by simpa using hk
theorem E4.map {α β:Type}{x:Option α×Ps}(h:E4 U x)(f:α→β):E4 U (x.1.map f,x.2):=fun hh=>h (by simpa using hh)
end
theorem end_4 {U:List Tk}{q:Ps}(h:(hereP U q).k=4):endP U q=(true,advP q):=by unfold endP;rw[h];rfl
end Go.Proofs.YtlnpgbnhcondjaaGreatDoor.Fx
