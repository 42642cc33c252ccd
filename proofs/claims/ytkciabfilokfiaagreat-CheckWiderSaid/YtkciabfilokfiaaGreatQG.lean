/-  -/
import Derived.Test.YtkciabfilokfiaaGreatPS
import Derived.Test.YtkciabfilokfiaaGreatMA
namespace Go.Proofs.YtkciabfilokfiaaGreat.Fx
set_option linter.unusedVariables false
set_option linter.unusedSimpArgs false
def rdy (B:Nat→List Nat)(l:List Nat)(i:Nat):Bool:= !l.contains i&&(B i).all fun k=>l.contains k
def nxt (B:Nat→List Nat)(N:Nat)(l:List Nat):Option Nat:=(List.range N).find? (rdy B l)
def ordGo (B:Nat→List Nat)(N:Nat):Nat→List Nat→List Nat
 |0,l=>l
 |r+1,l=>match nxt B N l with
  |some i=>ordGo B N r (l++[i])
  |none=>l
def ordR (B:Nat→List Nat)(N:Nat):List Nat:=ordGo B N N []
def OrdOk (B:Nat→List Nat)(N:Nat)(l:List Nat):Prop:=l.Nodup∧(∀i∈l,i<N)∧∀a i b,l=a++i::b→∀k∈B i,k∈a
theorem OrdOk.nil (B:Nat→List Nat)(N:Nat):OrdOk B N []:=⟨List.nodup_nil,by simp,fun a i b h=>by simp at h⟩
theorem OrdOk.snoc {B:Nat→List Nat}{N:Nat}{l:List Nat}{i:Nat}(h:OrdOk B N l)(hi:i<N)(hr:rdy B l i=true):OrdOk B N (l++[i]):=by
 obtain⟨h1,h2,h3⟩:=h
 simp only[rdy,Bool.and_eq_true,Bool.not_eq_true',List.all_eq_true,List.contains_iff_mem]at hr
 obtain⟨r1,r2⟩:=hr
 have r1:i∉l:=fun hh=>by rw[List.contains_iff_mem.2 hh]at r1;cases r1
 refine⟨?_,fun j hj=>?_,fun a j b hab k hk=>?_⟩
 ·rw[List.nodup_append]
  refine⟨h1,by simp,fun a ha b hb=>?_⟩
  rw[List.mem_singleton]at hb
  rintro rfl
  exact r1 (hb▸ha)
 ·rw[List.mem_append,List.mem_singleton]at hj
  rcases hj with hj|rfl
  ·exact h2 j hj
  ·exact hi
 ·rcases List.eq_nil_or_concat b with rfl|⟨b',x,rfl⟩
  ·have:=List.append_inj_right' hab rfl
   simp at this
   subst this
   have hl:=List.append_inj_left' hab rfl
   rw[←hl];exact r2 k hk
  ·have e:l++[i]=(a++j::b')++[x]:=by rw[hab];simp
   have hl:=List.append_inj_left' e rfl
   exact h3 a j b' hl k hk
theorem nxt_some {B:Nat→List Nat}{N:Nat}{l:List Nat}{i:Nat}(h:nxt B N l=some i):i<N∧rdy B l i=true:=by
 unfold nxt at h
 have h1:=List.find?_some h
 have h2:=List.mem_of_find?_eq_some h
 rw[List.mem_range]at h2
 exact⟨h2,h1⟩
theorem ordGo_ok {B:Nat→List Nat}{N:Nat}:∀(r:Nat) (l:List Nat),OrdOk B N l→OrdOk B N (ordGo B N r l)
 |0,l,h=>h
 |r+1,l,h=>by
  unfold ordGo
  cases hn:nxt B N l with
  |none=>exact h
  |some i=>
   obtain⟨h1,h2⟩:=nxt_some hn
   exact ordGo_ok r _ (h.snoc h1 h2)
theorem ordR_ok (B:Nat→List Nat)(N:Nat):OrdOk B N (ordR B N):=ordGo_ok N [] (OrdOk.nil B N)
theorem ordGo_stuck {B:Nat→List Nat}{N:Nat}:∀(r:Nat) (l:List Nat),(ordGo B N r l).length<l.length+r→nxt B N (ordGo B N r l)=none
 |0,l,h=>by simp[ordGo]at h
 |r+1,l,h=>by
  unfold ordGo at h⊢
  cases hn:nxt B N l with
  |none=>simpa using hn
  |some i=>
   rw[hn]at h
   simp only at h⊢
   exact ordGo_stuck r _ (by rw[List.length_append];simp;omega)
theorem ordR_stuck {B:Nat→List Nat}{N:Nat}(h:(ordR B N).length<N):nxt B N (ordR B N)=none:=ordGo_stuck N [] (by unfold ordR at h;simpa using h)
theorem nodup_len:∀(N:Nat) (l:List Nat),l.Nodup→(∀i∈l,i<N)→l.length≤N
 |0,l,_,h=>by
  cases l with
  |nil=>simp
  |cons x l=>have:=h x (by simp);omega
 |N+1,l,hn,h=>by
  have h1:(l.erase N).length≤N:=by
   refine nodup_len N _ (hn.erase N) (fun i hi=>?_)
   have h2:=h i (List.mem_of_mem_erase hi)
   have h3:i≠N:=fun hh=>by subst hh;exact(hn.not_mem_erase) hi
   omega
  rw[List.length_erase]at h1
  split at h1<;>omega
theorem len_ge:∀(N:Nat) (l:List Nat),(∀i,i<N→i∈l)→N≤l.length
 |0,l,_=>Nat.zero_le _
 |N+1,l,h=>by
  have h1:=len_ge N (l.erase N) (fun i hi=>(List.mem_erase_of_ne (by omega)).2 (h i (by omega)))
  rw[List.length_erase,if_pos (h N (by omega))]at h1
  have:l≠[]:=fun hh=>by have:=h N (by omega);rw[hh]at this;cases this
  have:=List.length_pos_iff.2 this
  omega
theorem ordR_len (B:Nat→List Nat)(N:Nat):(ordR B N).length≤N:=nodup_len N _ (ordR_ok B N).1 (ordR_ok B N).2.1
theorem full_mem {N:Nat}{l:List Nat}(hn:l.Nodup)(h:∀i∈l,i<N)(hl:l.length=N):∀i,i<N→i∈l:=fun i hi=>by
 refine Classical.byContradiction fun hno=>?_
 have:=nodup_len N (i::l) (List.nodup_cons.2 ⟨hno,hn⟩) (fun j hj=>by
  rcases List.mem_cons.1 hj with rfl|hj
  ·exact hi
  ·exact h j hj)
 simp at this;omega
inductive Way (B:Nat→List Nat):Nat→Nat→Prop
 |one {i k:Nat}:k∈B i→Way B i k
 |more {i k j:Nat}:k∈B i→Way B k j→Way B i j
theorem Way.trans {B:Nat→List Nat}{i j k:Nat}(h:Way B i j)(h2:Way B j k):Way B i k:=by
 induction h with
 |one hk=>exact .more hk h2
 |more hk _ ih=>exact .more hk (ih h2)
theorem loop_of {B:Nat→List Nat}{N:Nat}{S:Nat→Prop}(hlt:∀i,S i→i<N)(hstep:∀i,S i→∃k∈B i,S k){i0:Nat}(h0:S i0):∃j,S j∧Way B j j:=by
 classical
 refine Classical.byContradiction fun hno=>?_
 have hno:∀j,S j→¬Way B j j:=fun j hj hw=>hno ⟨j,hj,hw⟩
 -- chains of whatever length,without repetition
 have chain:∀n:Nat,∃l:List Nat,l.length=n+1∧l.Nodup∧(∀i∈l,S i)∧∃x r,l=x::r∧∀i∈r,Way B i x:=by
  intro n
  induction n with
  |zero=>exact⟨[i0],rfl,by simp,by simpa using h0,i0,[],rfl,by simp⟩
  |succ n ih=>
   obtain⟨l,h1,h2,h3,x,r,rfl,h4⟩:=ih
   obtain⟨k,hk,hS⟩:=hstep x (h3 x (by simp))
   have hway:∀i∈x::r,Way B i k:=fun i hi=>by
    rcases List.mem_cons.1 hi with rfl|hi
    ·exact .one hk
    ·exact(h4 i hi).trans (.one hk)
   refine⟨k::x::r,by simp at h1⊢;omega,List.nodup_cons.2 ⟨fun hm=>hno k hS (hway k hm),h2⟩,fun i hi=>?_,k,x::r,rfl,hway⟩
   rcases List.mem_cons.1 hi with rfl|hi
   ·exact hS
   ·exact h3 i hi
 obtain⟨l,h1,h2,h3,_⟩:=chain N
 have:=nodup_len N l h2 (fun i hi=>hlt i (h3 i hi))
 omega
theorem nxt_none {B:Nat→List Nat}{N:Nat}{l:List Nat}(h:nxt B N l=none)(i:Nat)(hi:i<N):rdy B l i=false:=by
 unfold nxt at h
 rw[List.find?_eq_none]at h
 have:=h i (List.mem_range.2 hi)
 simpa using this
theorem ordR_loop {B:Nat→List Nat}{N:Nat}(hB:∀i,i<N→∀k∈B i,k<N)(h:(ordR B N).length<N):∃j,j<N∧Way B j j:=by
 have hst:=ordR_stuck h
 obtain⟨h1,h2,h3⟩:=ordR_ok B N
 generalize ordR B N=l at*
 have hex:∃i,i<N∧i∉l:=by
  refine Classical.byContradiction fun hno=>?_
  have hall:∀i,i<N→i∈l:=fun i hi=>Classical.byContradiction fun hn=>hno ⟨i,hi,hn⟩
  have:=len_ge N l hall
  omega
 obtain⟨i0,hi0,hn0⟩:=hex
 obtain⟨j,hj,hw⟩:=loop_of (B:=B) (N:=N) (S:=fun i=>i<N∧i∉l) (fun i hi=>hi.1) (fun i hi=>by
  have hr:=nxt_none hst i hi.1
  simp only[rdy,Bool.and_eq_false_iff,Bool.not_eq_false',List.contains_iff_mem,List.all_eq_false]at hr
  rcases hr with hr|⟨k,hk,hr⟩
  ·exact absurd hr hi.2
  ·exact⟨k,hk,hB i hi.1 k hk,fun hm=>by simp[hm]at hr⟩) ⟨hi0,hn0⟩
 exact⟨j,hj.1,hw⟩
def visK (g:Nat→List Bool→Bool×List Bool)(from_:Nat):List Nat→List Bool→Bool×List Bool
 |[],s=>(false,s)
 |k::ks,s=>if k=from_ then(true,s)else if s.getD k false=true then visK g from_ ks s else
  match g k (s.set k true)with
  |(true,s')=>(true,s')
  |(false,s')=>visK g from_ ks s'
def vis (B:Nat→List Nat)(from_:Nat):Nat→Nat→List Bool→Bool×List Bool
 |0,_,s=>(false,s)
 |f+1,i,s=>visK (vis B from_ f) from_ (B i) s
def lps (B:Nat→List Nat)(N from_:Nat):Bool:=(vis B from_ (N+1) from_ (List.replicate N false)).1
def fre (s:List Bool):Nat:=(s.filter fun b=> !b).length
theorem fre_set:∀(s:List Bool) (k:Nat),k<s.length→s.getD k false=false→fre (s.set k true)+1=fre s
 |[],k,h,_=>by simp at h
 |b::s,0,_,hb=>by
  have:b=false:=by simpa using hb
  subst this
  simp[fre]
 |b::s,k+1,h,hb=>by
  have:=fre_set s k (by simpa using h) (by simpa using hb)
  cases b<;>simp[fre]at this⊢ <;>omega
def Grw (s s':List Bool):Prop:=s'.length=s.length∧∀k,s.getD k false=true→s'.getD k false=true
theorem Grw.refl (s:List Bool):Grw s s:=⟨rfl,fun _ h=>h⟩
theorem Grw.trans {a b c:List Bool}(h:Grw a b)(k:Grw b c):Grw a c:=⟨k.1.trans h.1,fun i hi=>k.2 i (h.2 i hi)⟩
theorem getD_set {s:List Bool}{k:Nat}(j:Nat)(h:k<s.length):(s.set k true).getD j false=if k=j then true else s.getD j false:=by
 simp only[List.getD_eq_getElem?_getD,List.getElem?_set]
 by_cases hj:k=j
 ·subst hj;simp[h]
 ·simp[hj]
theorem Grw.set {s:List Bool}{k:Nat}(h:k<s.length):Grw s (s.set k true):=⟨by simp,fun j hj=>by rw[getD_set j h];split<;>simp_all⟩
theorem fre_grw {s s':List Bool}(h:Grw s s'):fre s'≤fre s:=by
 obtain⟨h1,h2⟩:=h
 induction s generalizing s' with
 |nil=>simp at h1;subst h1;exact Nat.le_refl _
 |cons b s ih=>
  cases s' with
  |nil=>simp at h1
  |cons b' s'=>
   have h3:=ih (s':=s') (by simpa using h1) (fun k hk=>by simpa using h2 (k+1) (by simpa using hk))
   have h4:=h2 0
   cases b<;>cases b'<;>simp[fre]at* <;>omega
def Cls (B:Nat→List Nat)(from_:Nat)(s s':List Bool):Prop:=∀j,s.getD j false=false→s'.getD j false=true→∀k∈B j,k≠from_∧s'.getD k false=true
theorem Cls.trans {B:Nat→List Nat}{f:Nat}{a b c:List Bool}(h:Cls B f a b)(k:Cls B f b c)(hg:Grw b c):Cls B f a c:=fun j h1 h2 x hx=>by
 cases hb:b.getD j false with
 |false=>exact k j hb h2 x hx
 |true=>
  obtain⟨q1,q2⟩:=h j h1 hb x hx
  exact⟨q1,hg.2 x q2⟩
theorem visK_grw {N from_:Nat}{g:Nat→List Bool→Bool×List Bool}(hg:∀i s,i<N→s.length=N→Grw s (g i s).2):∀(ks:List Nat) (s:List Bool),(∀k∈ks,k<N)→s.length=N→Grw s (visK g from_ ks s).2
 |[],s,_,_=>Grw.refl s
 |k::ks,s,hk,hs=>by
  unfold visK
  split
  ·exact Grw.refl s
  ·split
   ·exact visK_grw hg ks s (fun x hx=>hk x (by simp[hx])) hs
   ·have hkN:=hk k (by simp)
    have h1:Grw s (s.set k true):=Grw.set (by omega)
    have h2:=hg k (s.set k true) hkN (by simpa using hs)
    cases hq:g k (s.set k true)with
    |mk b s'=>
     rw[hq]at h2
     cases b
     ·exact(h1.trans h2).trans (visK_grw hg ks s' (fun x hx=>hk x (by simp[hx])) (by rw[(h1.trans h2).1,hs]))
     ·exact h1.trans h2
theorem vis_grw {B:Nat→List Nat}{N from_:Nat}(hB:∀i,i<N→∀k∈B i,k<N):∀(f i:Nat) (s:List Bool),i<N→s.length=N→Grw s (vis B from_ f i s).2
 |0,i,s,_,_=>Grw.refl s
 |f+1,i,s,hi,hs=>visK_grw (fun i s hi hs=>vis_grw hB f i s hi hs) (B i) s (hB i hi) hs
theorem visK_cls {B:Nat→List Nat}{N from_:Nat}{g:Nat→List Bool→Bool×List Bool}{F:Nat}(hg:∀i s,i<N→s.length=N→Grw s (g i s).2)
  (hc:∀i s,i<N→s.length=N→fre s<F→(g i s).1=false→Cls B from_ s (g i s).2∧∀k∈B i,k≠from_∧(g i s).2.getD k false=true):
  ∀(ks:List Nat) (s:List Bool),(∀k∈ks,k<N)→s.length=N→fre s<F+1→(visK g from_ ks s).1=false→Cls B from_ s (visK g from_ ks s).2∧∀k∈ks,k≠from_∧(visK g from_ ks s).2.getD k false=true
 |[],s,_,_,_,_=>⟨fun j h1 h2=>(by rw[show(visK g from_ [] s).2=s from rfl,h1]at h2;cases h2),by simp⟩
 |k::ks,s,hk,hs,hf,h=>by
  have hkN:=hk k (by simp)
  have hks:∀x∈ks,x<N:=fun x hx=>hk x (by simp[hx])
  unfold visK at h⊢
  split at h
  ·cases h
  ·rename_i hne
   rw[if_neg hne]
   split at h
   ·rename_i hm
    rw[if_pos hm]
    obtain⟨c1,c2⟩:=visK_cls hg hc ks s hks hs hf h
    refine⟨c1,fun x hx=>?_⟩
    rcases List.mem_cons.1 hx with rfl|hx
    ·exact⟨hne,(visK_grw hg ks s hks hs).2 _ hm⟩
    ·exact c2 x hx
   ·rename_i hm
    rw[if_neg hm]
    have hm:s.getD k false=false:=by simpa using hm
    have hlt:k<s.length:=by omega
    have g1:Grw s (s.set k true):=Grw.set hlt
    have g2:=hg k (s.set k true) hkN (by simpa using hs)
    have e1:=fre_set s k hlt hm
    have hcc:=hc k (s.set k true) hkN (by simpa using hs) (by omega)
    cases hq:g k (s.set k true)with
    |mk b s'=>
     rw[hq]at h g2 hcc
     cases b with
     |true=>simp at h
     |false=>
      simp only at h g2 hcc⊢
      obtain⟨c1,c2⟩:=hcc trivial
      have hs':s'.length=N:=by rw[(g1.trans g2).1,hs]
      have hf':fre s'<F+1:=by have:=fre_grw g2;omega
      obtain⟨d1,d2⟩:=visK_cls hg hc ks s' hks hs' hf' h
      have g3:=visK_grw (from_:=from_) hg ks s' hks hs'
      have hks':s'.getD k false=true:=g2.2 k (by rw[getD_set k hlt,if_pos rfl])
      refine⟨fun j j1 j2 x hx=>?_,fun x hx=>?_⟩
      ·cases hj:(s.set k true).getD j false with
       |false=>exact(c1.trans d1 g3) j hj j2 x hx
       |true=>
        rw[getD_set j hlt]at hj
        split at hj
        ·rename_i hkj
         subst hkj
         obtain⟨q1,q2⟩:=c2 x hx
         exact⟨q1,g3.2 x q2⟩
        ·rw[j1]at hj;cases hj
      ·rcases List.mem_cons.1 hx with rfl|hx
       ·exact⟨hne,g3.2 _ hks'⟩
       ·exact d2 x hx
theorem vis_cls {B:Nat→List Nat}{N from_:Nat}(hB:∀i,i<N→∀k∈B i,k<N):∀(f i:Nat) (s:List Bool),i<N→s.length=N→fre s<f→(vis B from_ f i s).1=false→
  Cls B from_ s (vis B from_ f i s).2∧∀k∈B i,k≠from_∧(vis B from_ f i s).2.getD k false=true
 |0,i,s,_,_,hf,_=>by omega
 |f+1,i,s,hi,hs,hf,h=>visK_cls (fun i s hi hs=>vis_grw hB f i s hi hs) (fun i s hi hs hf h=>vis_cls hB f i s hi hs hf h) (B i) s (hB i hi) hs (by omega) h
theorem visK_way {B:Nat→List Nat}{from_ i:Nat}{g:Nat→List Bool→Bool×List Bool}(hg:∀k s,(g k s).1=true→Way B k from_):∀(ks:List Nat) (s:List Bool),(∀k∈ks,k∈B i)→(visK g from_ ks s).1=true→Way B i from_
 |[],s,_,h=>by cases h
 |k::ks,s,hk,h=>by
  unfold visK at h
  split at h
  ·rename_i hh;rw[←hh];exact .one (hk k (by simp))
  ·split at h
   ·exact visK_way hg ks s (fun x hx=>hk x (by simp[hx])) h
   ·have hgk:=hg k (s.set k true)
    cases hq:g k (s.set k true)with
    |mk b s'=>
     rw[hq]at h hgk
     cases b
     ·exact visK_way hg ks s' (fun x hx=>hk x (by simp[hx])) h
     ·exact .more (hk k (by simp)) (hgk rfl)
theorem vis_way {B:Nat→List Nat}{from_:Nat}:∀(f i:Nat) (s:List Bool),(vis B from_ f i s).1=true→Way B i from_
 |0,i,s,h=>by cases h
 |f+1,i,s,h=>visK_way (fun k s hk=>vis_way f k s hk) (B i) s (fun _ h=>h) h
theorem fre_rep (N:Nat):fre (List.replicate N false)=N:=by simp[fre,List.filter_replicate]
theorem lps_iff {B:Nat→List Nat}{N from_:Nat}(hB:∀i,i<N→∀k∈B i,k<N)(hf:from_<N):lps B N from_=true↔Way B from_ from_:=by
 constructor
 ·exact fun h=>vis_way _ _ _ h
 ·intro hw
  cases hq:lps B N from_ with
  |true=>rfl
  |false=>
   obtain⟨c1,c2⟩:=vis_cls hB (N+1) from_ (List.replicate N false) hf (by simp) (by rw[fre_rep];omega) hq
   generalize (vis B from_ (N+1) from_ (List.replicate N false)).2=s' at*
   have h0:∀j,(List.replicate N false).getD j false=false:=fun j=>by
    rw[List.getD_eq_getElem?_getD,List.getElem?_replicate];split<;>rfl
   have key:∀i k,Way B i k→k=from_→(i=from_∨s'.getD i false=true)→False:=by
    intro i k hik
    induction hik with
    |one hk=>
     intro hkf hi
     rcases hi with rfl|hi
     ·exact(c2 _ hk).1 hkf
     ·exact(c1 _ (h0 _) hi _ hk).1 hkf
    |more hk _ ih=>
     intro hkf hi
     rcases hi with rfl|hi
     ·exact ih hkf (.inr (c2 _ hk).2)
     ·exact ih hkf (.inr (c1 _ (h0 _) hi _ hk).2)
   exact(key _ _ hw rfl (.inl rfl)).elim
def lopR (B:Nat→List Nat)(N:Nat):Option Nat:=if (ordR B N).length=N then none else(List.range N).find? (lps B N)
theorem lopR_none {B:Nat→List Nat}{N:Nat}(hB:∀i,i<N→∀k∈B i,k<N):lopR B N=none↔(ordR B N).length=N:=by
 unfold lopR
 constructor
 ·intro h
  split at h
  ·assumption
  ·rename_i hne
   obtain⟨j,hj,hw⟩:=ordR_loop hB (Nat.lt_of_le_of_ne (ordR_len B N) hne)
   rw[List.find?_eq_none]at h
   exact absurd ((lps_iff hB hj).2 hw) (h j (List.mem_range.2 hj))
 ·intro h
  rw[if_pos h]
end Go.Proofs.YtkciabfilokfiaaGreat.Fx
