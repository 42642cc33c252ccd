/-  -/
import Derived.Test.YtlnpgbnhcondjaaGreatDoorPS
import Derived.Test.YtlnpgbnhcondjaaGreatDoorYD
import Derived.Test.YtlnpgbnhcondjaaGreatDoorQH
namespace Go.Proofs.YtlnpgbnhcondjaaGreatDoor.Fx
set_option linter.unusedSimpArgs false
set_option linter.unusedVariables false
def lenS (T:List Tk):Nat:=(T.map fun t=>t.s.length).sum
theorem lenS_app (A B:List Tk):lenS (A++B)=lenS A+lenS B:=by unfold lenS;rw[List.map_append,List.sum_append]
theorem lin_facts (ln:Nat)(l:Str)(hl:l.length≤100000):∀(f k:Nat),k≤l.length→lenS (linQ ln l f k).1+k≤l.length∧(linQ ln l f k).1.length+k≤l.length∧∀t∈(linQ ln l f k).1,t.k=2→gdN t.s
 |0,k,hk=>⟨by show 0+k≤_;omega,by show 0+k≤_;omega,fun t h=>by cases h⟩
 |f+1,k,hk=>by
  have nil:lenS []+k≤l.length∧([]:List Tk).length+k≤l.length∧∀t∈([]:List Tk),t.k=2→gdN t.s:=⟨by show 0+k≤_;omega,by show 0+k≤_;omega,fun t h=>by cases h⟩
  rw[linQ]
  by_cases h1:l.length≤k
  ·rw[if_pos h1];exact nil
  rw[if_neg h1]
  by_cases h2:l.getD k 0=35
  ·rw[if_pos h2]
   cases badK l (l.length+1) k<;>exact nil
  rw[if_neg h2]
  by_cases h3:(scnQ l k).2.2≠0
  ·rw[if_pos h3];exact nil
  rw[if_neg h3]
  have he:(scnQ l k).2.2=0:=by omega
  obtain⟨q1,q2,q3⟩:=scn_ok (by omega) he
  have hg:=fun h=>scn_num hl (by omega) he h
  obtain⟨i1,i2,i3⟩:=lin_facts ln l hl f (k+(scnQ l k).2.1) q2
  simp only
  by_cases h4:(scnQ l k).1=0
  ·rw[if_pos h4,List.nil_append]
   exact⟨by omega,by omega,i3⟩
  ·rw[if_neg h4,lenS_app]
   have hs:(subS2 l k (scnQ l k).2.1).length≤(scnQ l k).2.1:=by unfold subS2;rw[List.length_take];omega
   have e1:lenS [⟨(scnQ l k).1,subS2 l k (scnQ l k).2.1,ln,k+1⟩]=(subS2 l k (scnQ l k).2.1).length:=by simp[lenS]
   refine⟨by rw[e1];omega,by rw[List.length_append];simp only[List.length_cons,List.length_nil];omega,fun t ht hk2=>?_⟩
   rcases List.mem_append.1 ht with h|h
   ·rw[List.mem_singleton]at h
    subst h
    exact hg hk2
   ·exact i3 t h hk2
theorem gtk_app {X B:List Tk}(hB:GTk B)(hX:B=[]→GTk X):GTk (X++B):=by
 cases B with
 |nil=>rw[List.append_nil];exact hX rfl
 |cons b B=>
  intro i hi
  rw[List.length_append]at hi
  simp only[List.length_cons]at hi
  have:=hB (i-X.length) (by simp only[List.length_cons];omega)
  rw[List.getD_eq_getElem?_getD]at this⊢
  rw[List.getElem?_append_right (by omega)];exact this
theorem lns_facts:∀(L:List Str) (i:Nat),(∀l∈L,l.length≤100000)→lenS (lnsQ i L).1≤(L.map List.length).sum∧(lnsQ i L).1.length≤(L.map fun l=>l.length+1).sum∧(∀t∈(lnsQ i L).1,t.k=2→gdN t.s)∧GTk (lnsQ i L).1
 |[],i,_=>⟨Nat.le_refl _,Nat.le_refl _,fun t h=>(by cases h),fun j h=>(by cases h)⟩
 |l::L,i,hL=>by
  obtain⟨i1,i2,i3,i4⟩:=lns_facts L (i+1) (fun x hx=>hL x (List.mem_cons_of_mem _ hx))
  obtain⟨j1,j2,j3⟩:=lin_facts (i+1) l (hL l (List.mem_cons_self ..)) (l.length+1) 0 (by omega)
  have nil:lenS []≤((l::L).map List.length).sum∧([]:List Tk).length≤((l::L).map fun l=>l.length+1).sum∧(∀t∈([]:List Tk),t.k=2→gdN t.s)∧GTk []:=⟨Nat.zero_le _,Nat.zero_le _,fun t h=>(by cases h),fun j h=>(by cases h)⟩
  rw[lnsQ]
  cases h:(linQ (i+1) l (l.length+1) 0).2 with
  |some x=>obtain⟨k,e⟩:=x;exact nil
  |none=>
   simp only
   by_cases he:(lnsQ (i+1) L).2.2≠0
   ·rw[if_pos he];exact nil
   ·rw[if_neg he]
    simp only
    generalize (linQ (i+1) l (l.length+1) 0).1=A at*
    generalize (lnsQ (i+1) L).1=B at*
    rw[List.map_cons,List.sum_cons,List.map_cons,List.sum_cons,lenS_app,lenS_app]
    have e1:lenS (if A.isEmpty=true then[]else[(⟨4,[],i+1,l.length+1⟩:Tk)])=0:=by split<;>rfl
    have e2:(if A.isEmpty=true then[]else[(⟨4,[],i+1,l.length+1⟩:Tk)]).length≤1:=by split<;>simp
    refine⟨by rw[e1];omega,by rw[List.length_append,List.length_append];omega,fun t ht h2=>?_,?_⟩
    ·rcases List.mem_append.1 ht with h|h
     ·rcases List.mem_append.1 h with h|h
      ·exact j3 t h h2
      ·split at h
       ·cases h
       ·rw[List.mem_singleton]at h;subst h;cases h2
     ·exact i3 t h h2
    ·refine gtk_app i4 fun _=>?_
     cases A with
     |nil=>intro j hj;cases hj
     |cons a A=>
      refine gtk_app (B:=[(⟨4,[],i+1,l.length+1⟩:Tk)]) (fun j hj=>?_) (fun h=>by cases h)
      obtain rfl:j=0:=by simpa using hj
      rfl
theorem splB_sum (c:UInt8):∀l:Str,((splB c l).map fun x=>x.length+1).sum=l.length+1
 |[]=>rfl
 |y::l=>by
  have ih:=splB_sum c l
  rw[splB_cons]
  split
  ·simp only[List.map_cons,List.sum_cons,List.length_nil,List.length_cons];omega
  ·split
   ·rename_i he;rw[he]at ih;simp at ih
   ·rename_i a t he
    rw[he]at ih
    simp only[List.map_cons,List.sum_cons,List.length_cons]at ih⊢;omega
theorem sum_le1:∀L:List Str,(L.map List.length).sum≤(L.map fun x=>x.length+1).sum
 |[]=>Nat.le_refl _
 |l::L=>by have:=sum_le1 L;simp only[List.map_cons,List.sum_cons];omega
theorem tok_facts (s:Str):(tokQ s).1.length≤40000∧STk (tokQ s).1∧GTk (tokQ s).1∧∀t∈(tokQ s).1,t.k=2→gdN t.s:=by
 unfold tokQ
 by_cases h:16384<s.length
 ·rw[if_pos h];exact⟨Nat.zero_le _,Nat.zero_le _,fun j h=>(by cases h),fun t h=>(by cases h)⟩
 ·rw[if_neg h]
  obtain⟨q1,q2,q3,q4⟩:=lns_facts (splB 10 s) 0 (fun l hl=>by have:=splB_sub 10 s l hl;omega)
  have e:=splB_sum 10 s
  have e2:=sum_le1 (splB 10 s)
  have r2:=Nat.le_trans q2 (Nat.le_of_eq e)
  have r1:lenS (lnsQ 0 (splB 10 s)).1≤s.length+1:=Nat.le_trans q1 (Nat.le_trans e2 (Nat.le_of_eq e))
  exact⟨by omega,Nat.le_trans r1 (by omega),q4,q3⟩
end Go.Proofs.YtlnpgbnhcondjaaGreatDoor.Fx
namespace Go.Proofs.YtlnpgbnhcondjaaGreatDoor.Fx
set_option linter.unusedVariables false
set_option linter.unusedSimpArgs false
set_option linter.unusedSectionVars false
def rdE {α:Type}(p:Ps)(x:Option α×Ps):Prop:=(x.1.isSome=true→x.2.e=p.e)∧(x.1=none→x.2.e≠0)
theorem rdE.some {α:Type}{p q:Ps}{a:α}(h:q.e=p.e):rdE p (Option.some a,q):=⟨fun _=>h,fun h=>by cases h⟩
theorem rdE.none {α:Type}{p q:Ps}(h:q.e≠0):rdE p ((Option.none:Option α),q):=⟨fun h=>(by cases h),fun _=>h⟩
section
variable {T:List Tk}
theorem rdE.map {α β:Type}{p:Ps}{x:Option α×Ps}(h:rdE p x)(f:α→β):rdE p (x.1.map f,x.2):=by
 obtain⟨o,q⟩:=x
 cases o with
 |none=>exact rdE.none (h.2 rfl)
 |some a=>exact rdE.some (h.1 rfl)
end
section
variable {Q:Nat×Nat→Nat×Nat→Prop} {T U:List Tk} {o:Nat} (h:SimT Q T U o)
include h
end
end Go.Proofs.YtlnpgbnhcondjaaGreatDoor.Fx
namespace Go.Proofs.YtlnpgbnhcondjaaGreatDoor.Fx
set_option linter.unusedVariables false
set_option linter.unusedSimpArgs false
set_option linter.unusedSectionVars false
def E4 (U:List Tk){α:Type}(x:Option α×Ps):Prop:=x.1.isSome=true→(hereP U x.2).k=4
theorem bnd_e4 {U:List Tk}{α β:Type}{x:Option α×Ps}{f:α→Ps→Option β×Ps}(h:∀a q,x.1=some a→x.2=q→E4 U (f a q)):E4 U (bnd x f):=by
 obtain⟨o,q⟩:=x
 cases o with
 |none=>exact fun h=>by cases h
 |some a=>exact h a q rfl rfl
theorem bndB_e4 {U:List Tk}{β:Type}{x:Bool×Ps}{f:Ps→Option β×Ps}(h:∀q,x.1=true→x.2=q→E4 U (f q)):E4 U (bndB x f):=by
 obtain⟨o,q⟩:=x
 cases o with
 |false=>exact fun h=>by cases h
 |true=>exact h q rfl rfl
theorem bif_e4 {U:List Tk}{β:Type}{c:Bool}{x y:Option β×Ps}(hx:c=true→E4 U x)(hy:c=false→E4 U y):E4 U (bif c then x else y):=by
 cases c with
 |true=>exact hx rfl
 |false=>exact hy rfl
theorem none_e4 {U:List Tk}{β:Type}{q:Ps}:E4 U ((none:Option β),q):=fun h=>by cases h
theorem ful_at (f:Tk)(m l:Nat)(p:Ps):(fulP f m l p).2.at_=p.at_:=by
 unfold fulP
 cases decide (l≤m)with
 |true=>exact stop_at ..
 |false=>rfl
theorem full_e4 {U:List Tk}{α:Type}{p:Ps}(h:(hereP U p).k=4)(f:Tk)(m l:Nat)(a:α):E4 U (bndB (fulP f m l p) fun p=>(some a,p)):=by
 have h1:=ful_at f m l p
 refine bndB_e4 fun q _ hq _=>?_
 rw[hq]at h1
 show(U.getD q.at_ tk0).k=4
 rw[h1];exact h
theorem col_4 {U:List Tk}(g:GTk U):∀(f:Nat) (s:Str) (p:Ps),p.at_<U.length→U.length≤p.at_+f→(hereP U (colP U f s p).2).k=4
 |0,s,p,hp,hf=>by omega
 |f+1,s,p,hp,hf=>by
  rw[colP]
  cases hk:(hereP U p).k==4 with
  |true=>exact eq_of_beq hk
  |false=>
   have ha:=adv_on g hp (by simpa using hk)
   have:(advP p).at_=p.at_+1:=rfl
   exact col_4 g f _ (advP p) ha.1.2 (by omega)
section
variable {U:List Tk}
theorem unt_4 (g:GTk U)(hn:U.length≤40000){p:Ps}(hp:p.at_<U.length):E4 U (untP U p):=by
 unfold untP
 exact bif_e4 (fun _=>none_e4) fun _=>bif_e4 (fun _ _=>col_4 g _ _ p hp (by omega)) fun _=>none_e4
theorem typ_4 (g:GTk U)(hn:U.length≤40000)(f:Tk)(m:Nat){p:Ps}(hp:p.at_<U.length):E4 U (typP U f m p):=by
 have hk:=typ_on g f m hp
 unfold typP
 refine bnd_e4 fun nm q h1 h2=>bndB_e4 fun r h3 h4=>bnd_e4 fun b s h5 h6=>bif_e4 (fun _=>none_e4) fun hs=>?_
 have a1:=(nam_on g hp).1
 rw[h2]at a1
 have a2:=tak_on g [61] a1.2
 rw[h4]at a2
 have a3:=(int_on g a2.2).1
 rw[h6]at a3
 have ha:onP U s (advP s):=by
  rw[Bool.and_eq_false_iff,Bool.not_eq_false',Bool.not_eq_false']at hs
  rcases hs with hs|hs
  ·exact is_on g a3.2 hs
  ·exact is_on g a3.2 hs
 refine bnd_e4 fun x q h7 h8=>bnd_e4 fun y r h9 h10=>bnd_e4 fun z t h11 h12=>?_
 have b1:=(int_on g ha.2).1
 rw[h8]at b1
 have b2:=(int_on g b1.2).1
 rw[h10]at b2
 have b3:=(int_on g b2.2).1
 rw[h12]at b3
 have b4:=unt_4 g hn b3.2
 refine bnd_e4 fun u w h13 h14=>bif_e4 (fun _=>none_e4) fun _=>full_e4 ?_ _ _ _ _
 have:=b4 (by rw[h13];rfl)
 rw[h14]at this;exact this
theorem cls_4 {α:Type}{p:Ps}{f:Ps→Option α×Ps}(hf:∀q,(hereP U q).k=4→E4 U (f q)):E4 U (clsP U p f):=by
 unfold clsP
 exact bif_e4 (fun _=>none_e4) fun _=>bif_e4 (fun _=>none_e4) fun hk=>hf _ (by simpa using hk)
theorem cur_4 (f:Tk)(m:Nat)(p:Ps):E4 U (curP U f m p):=by
 unfold curP
 exact bnd_e4 fun _ _ _ _=>bndB_e4 fun _ _ _=>bndB_e4 fun _ _ _=>bnd_e4 fun _ _ _ _=>cls_4 fun q hq=>bif_e4 (fun _=>none_e4) fun _=>full_e4 hq _ _ _ _
theorem map_4 (f:Tk)(m:Nat)(p:Ps):E4 U (mapP U f m p):=by
 unfold mapP
 exact bnd_e4 fun _ _ _ _=>bndB_e4 fun _ _ _=>bndB_e4 fun _ _ _=>bnd_e4 fun _ _ _ _=>bndB_e4 fun _ _ _=>bnd_e4 fun _ _ _ _=>bndB_e4 fun _ _ _=>bnd_e4 fun _ _ _ _=>cls_4 fun q hq=>bif_e4 (fun _=>none_e4) fun _=>full_e4 hq _ _ _ _
theorem inp_4 (f:Tk)(m:Nat)(p:Ps):E4 U (inpP U f m p):=by
 unfold inpP
 exact bnd_e4 fun _ _ _ _=>bndB_e4 fun _ _ _=>bnd_e4 fun _ _ _ _=>bnd_e4 fun _ _ _ _=>bnd_e4 fun _ _ _ _=>bif_e4 (fun _=>none_e4) fun hk=>full_e4 (by simpa using hk) _ _ _ _
theorem blk_4 (f:Tk)(m:Nat)(p:Ps):E4 U (blkP U f m p):=by
 unfold blkP
 refine bnd_e4 fun _ _ _ _=>bndB_e4 fun _ _ _=>bif_e4 (fun _=>none_e4) fun _=>?_
 unfold bk2P
 exact bndB_e4 fun _ _ _=>bnd_e4 fun _ _ _ _=>bnd_e4 fun _ _ _ _=>bndB_e4 fun _ _ _=>bndB_e4 fun _ _ _=>bnd_e4 fun _ _ _ _=>bif_e4 (fun _=>none_e4) fun hk=>bif_e4 (fun _=>none_e4) fun _=>full_e4 (by simpa using hk) _ _ _ _
theorem out_4 (f:Tk)(m:Nat)(p:Ps):E4 U (outP U f m p):=by
 unfold outP
 exact bnd_e4 fun _ _ _ _=>bif_e4 (fun _=>none_e4) fun hk=>bif_e4 (fun _=>none_e4) fun _=>fun _=>by simpa using hk
theorem E4.map {α β:Type}{x:Option α×Ps}(h:E4 U x)(f:α→β):E4 U (x.1.map f,x.2):=fun hh=>h (by simpa using hh)
end
theorem end_4 {U:List Tk}{q:Ps}(h:(hereP U q).k=4):endP U q=(true,advP q):=by unfold endP;rw[h];rfl
end Go.Proofs.YtlnpgbnhcondjaaGreatDoor.Fx
