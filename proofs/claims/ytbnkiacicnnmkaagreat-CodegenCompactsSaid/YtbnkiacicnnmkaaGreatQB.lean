/-  -/
import Derived.Test.YtbnkiacicnnmkaaGreatQ8
open Go.Proofs.Tryz
open Go.Proofs.Tryz renaming prog→HT
set_option linter.unusedVariables false
set_option linter.unusedSimpArgs false
set_option maxRecDepth 100000
set_option maxHeartbeats 4000000
namespace Go.Proofs.YtbnkiacicnnmkaaGreat.Fx
def iI (B:Nat->List Nat)(l:List Nat)(i:Nat):Bool:= !l.contains i&&(B i).all fun k=>l.contains k
def iZ (B:Nat->List Nat)(N:Nat)(l:List Nat):Option Nat:=(List.range N).find? (iI B l)
def vG (B:Nat->List Nat)(N:Nat):Nat->List Nat->List Nat
 |0,l=>l
 |r+1,l=>match iZ B N l with
  |some i=>vG B N r (l++[i])
  |none=>l
def wU (B:Nat->List Nat)(N:Nat):List Nat:=vG B N N []
def OrdOk (B:Nat->List Nat)(N:Nat)(l:List Nat):Prop:=l.Nodup/\(∀i∈l,i<N)/\∀a i b,l=a++i::b->∀k∈B i,k∈a
theorem OrdOk.nil (B:Nat->List Nat)(N:Nat):OrdOk B N []:=⟨List.nodup_nil,z9,fun a i b h=>by simp at h⟩
theorem OrdOk.snoc {B:Nat->List Nat}{N:Nat}{l:List Nat}{i:Nat}(h:OrdOk B N l)(hi:i<N)(hr:iI B l i=true):OrdOk B N (l++[i]):=by
 obtain⟨h1,h2,h3⟩:=h
 simp only[iI,JB,Jh,JD,IG]at hr
 obtain⟨r1,r2⟩:=hr
 have r1:i∉l:=fun hh=>by rw[IG.2 hh]at r1;cases r1
 refine⟨?_,fun j hj=>?_,fun a j b hab k hk=>?_⟩
 ·rw[List.nodup_append]
  refine⟨h1,z9,fun a ha b hb=>?_⟩
  rw[IM]at hb
  rintro rfl
  exact r1 (hb▸ha)
 ·rw[IP,IM]at hj
  rcases hj with hj|rfl
  ·exact h2 j hj
  ·exact hi
 ·rcases List.eq_nil_or_concat b with rfl|⟨b',x,rfl⟩
  ·have:=List.append_inj_right' hab rfl
   simp at this
   subst this
   have hl:=List.append_inj_left' hab rfl
   rw[<-hl];exact r2 k hk
  ·have e:l++[i]=(a++j::b')++[x]:=by rw[hab];simp
   have hl:=List.append_inj_left' e rfl
   exact h3 a j b' hl k hk
theorem eh {B:Nat->List Nat}{N:Nat}{l:List Nat}{i:Nat}(h:iZ B N l=some i):i<N/\iI B l i=true:=by
 unfold iZ at h
 have h1:=List.find?_some h
 have h2:=IW h
 rw[Jo]at h2
 exact⟨h2,h1⟩
theorem my {B:Nat->List Nat}{N:Nat}:∀(r:Nat) (l:List Nat),OrdOk B N l->OrdOk B N (vG B N r l)
 |0,l,h=>h
 |r+1,l,h=>by
  unfold vG
  cases hn:iZ B N l with
  |none=>exact h
  |some i=>
   obtain⟨h1,h2⟩:=eh hn
   exact my r _ (h.snoc h1 h2)
theorem qP (B:Nat->List Nat)(N:Nat):OrdOk B N (wU B N):=my N [] (OrdOk.nil B N)
theorem rp {B:Nat->List Nat}{N:Nat}:∀(r:Nat) (l:List Nat),(vG B N r l).length<l.length+r->iZ B N (vG B N r l)=none
 |0,l,h=>by simp[vG]at h
 |r+1,l,h=>by
  unfold vG at h⊢
  cases hn:iZ B N l with
  |none=>simpa using hn
  |some i=>
   rw[hn]at h
   simp only at h⊢
   exact rp r _ (by rw[JM];simp;omega)
theorem jB {B:Nat->List Nat}{N:Nat}(h:(wU B N).length<N):iZ B N (wU B N)=none:=rp N [] (by unfold wU at h;simpa using h)
theorem tD:∀(N:Nat) (l:List Nat),l.Nodup->(∀i∈l,i<N)->l.length<=N
 |0,l,_,h=>by
  cases l with
  |nil=>simp
  |cons x l=>have:=h x z9;omega
 |N+1,l,hn,h=>by
  have h1:(l.erase N).length<=N:=by
   refine tD N _ (hn.erase N) (fun i hi=>?_)
   have h2:=h i (List.mem_of_mem_erase hi)
   have h3:i≠N:=fun hh=>by subst hh;exact(hn.not_mem_erase) hi
   omega
  rw[List.length_erase]at h1
  split at h1<;>omega
theorem dK:∀(N:Nat) (l:List Nat),(∀i,i<N->i∈l)->N<=l.length
 |0,l,_=>Nat.zero_le _
 |N+1,l,h=>by
  have h1:=dK N (l.erase N) (fun i hi=>(List.mem_erase_of_ne zA).2 (h i zA))
  rw[List.length_erase,if_pos (h N zA)]at h1
  have:l≠[]:=fun hh=>by have:=h N zA;rw[hh]at this;cases this
  have:=List.length_pos_iff.2 this
  omega
theorem ee (B:Nat->List Nat)(N:Nat):(wU B N).length<=N:=tD N _ (qP B N).1 (qP B N).2.1
theorem dh {N:Nat}{l:List Nat}(hn:l.Nodup)(h:∀i∈l,i<N)(hl:l.length=N):∀i,i<N->i∈l:=fun i hi=>by
 refine Jl fun hno=>?_
 have:=tD N (i::l) (I9.2 ⟨hno,hn⟩) (fun j hj=>by
  rcases J3.1 hj with rfl|hj
  ·exact hi
  ·exact h j hj)
 simp at this;omega
inductive Way (B:Nat->List Nat):Nat->Nat->Prop
 |one {i k:Nat}:k∈B i->Way B i k
 |more {i k j:Nat}:k∈B i->Way B k j->Way B i j
theorem Way.trans {B:Nat->List Nat}{i j k:Nat}(h:Way B i j)(h2:Way B j k):Way B i k:=by
 induction h with
 |one hk=>exact .more hk h2
 |more hk _ ih=>exact .more hk (ih h2)
theorem aO {B:Nat->List Nat}{N:Nat}{S:Nat->Prop}(hlt:∀i,S i->i<N)(hstep:∀i,S i->∃k∈B i,S k){i0:Nat}(h0:S i0):∃j,S j/\Way B j j:=by
 classical
 refine Jl fun hno=>?_
 have hno:∀j,S j->¬Way B j j:=fun j hj hw=>hno ⟨j,hj,hw⟩
 -- chains of whatever length,without repetition
 have chain:∀n:Nat,∃l:List Nat,l.length=n+1/\l.Nodup/\(∀i∈l,S i)/\∃x r,l=x::r/\∀i∈r,Way B i x:=by
  intro n
  induction n with
  |zero=>exact⟨[i0],rfl,z9,by simpa using h0,i0,[],rfl,z9⟩
  |succ n ih=>
   obtain⟨l,h1,h2,h3,x,r,rfl,h4⟩:=ih
   obtain⟨k,hk,hS⟩:=hstep x (h3 x z9)
   have hway:∀i∈x::r,Way B i k:=fun i hi=>by
    rcases J3.1 hi with rfl|hi
    ·exact .one hk
    ·exact(h4 i hi).trans (.one hk)
   refine⟨k::x::r,by simp at h1⊢;omega,I9.2 ⟨fun hm=>hno k hS (hway k hm),h2⟩,fun i hi=>?_,k,x::r,rfl,hway⟩
   rcases J3.1 hi with rfl|hi
   ·exact hS
   ·exact h3 i hi
 obtain⟨l,h1,h2,h3,_⟩:=chain N
 have:=tD N l h2 (fun i hi=>hlt i (h3 i hi))
 omega
theorem ej {B:Nat->List Nat}{N:Nat}{l:List Nat}(h:iZ B N l=none)(i:Nat)(hi:i<N):iI B l i=false:=by
 unfold iZ at h
 rw[I7]at h
 have:=h i (Jo.2 hi)
 simpa using this
theorem gk {B:Nat->List Nat}{N:Nat}(hB:∀i,i<N->∀k∈B i,k<N)(h:(wU B N).length<N):∃j,j<N/\Way B j j:=by
 have hst:=jB h
 obtain⟨h1,h2,h3⟩:=qP B N
 generalize wU B N=l at*
 have hex:∃i,i<N/\i∉l:=by
  refine Jl fun hno=>?_
  have hall:∀i,i<N->i∈l:=fun i hi=>Jl fun hn=>hno ⟨i,hi,hn⟩
  have:=dK N l hall
  omega
 obtain⟨i0,hi0,hn0⟩:=hex
 obtain⟨j,hj,hw⟩:=aO (B:=B) (N:=N) (S:=fun i=>i<N/\i∉l) (fun i hi=>hi.1) (fun i hi=>by
  have hr:=ej hst i hi.1
  simp only[iI,Bool.and_eq_false_iff,Bool.not_eq_false',IG,List.all_eq_false]at hr
  rcases hr with hr|⟨k,hk,hr⟩
  ·exact absurd hr hi.2
  ·exact⟨k,hk,hB i hi.1 k hk,fun hm=>by simp[hm]at hr⟩) ⟨hi0,hn0⟩
 exact⟨j,hj.1,hw⟩
def vb (g:Nat->List Bool->Bool×List Bool)(from_:Nat):List Nat->List Bool->Bool×List Bool
 |[],s=>(false,s)
 |k::ks,s=>if k=from_ then(true,s)else if s.getD k false=true then vb g from_ ks s else
  match g k (s.set k true)with
  |(true,s')=>(true,s')
  |(false,s')=>vb g from_ ks s'
def jq (B:Nat->List Nat)(from_:Nat):Nat->Nat->List Bool->Bool×List Bool
 |0,_,s=>(false,s)
 |f+1,i,s=>vb (jq B from_ f) from_ (B i) s
def aN (B:Nat->List Nat)(N from_:Nat):Bool:=(jq B from_ (N+1) from_ (List.replicate N false)).1
def mN (s:List Bool):Nat:=(s.filter fun b=> !b).length
theorem nk:∀(s:List Bool) (k:Nat),k<s.length->s.getD k false=false->mN (s.set k true)+1=mN s
 |[],k,h,_=>by simp at h
 |b::s,0,_,hb=>by
  have:b=false:=by simpa using hb
  subst this
  simp[mN]
 |b::s,k+1,h,hb=>by
  have:=nk s k (by simpa using h) (by simpa using hb)
  cases b<;>simp[mN]at this⊢ <;>omega
def Grw (s s':List Bool):Prop:=s'.length=s.length/\∀k,s.getD k false=true->s'.getD k false=true
theorem Grw.refl (s:List Bool):Grw s s:=⟨rfl,fun _ h=>h⟩
theorem Grw.trans {a b c:List Bool}(h:Grw a b)(k:Grw b c):Grw a c:=⟨k.1.trans h.1,fun i hi=>k.2 i (h.2 i hi)⟩
theorem vm {s:List Bool}{k:Nat}(j:Nat)(h:k<s.length):(s.set k true).getD j false=if k=j then true else s.getD j false:=by
 simp only[Kx,IJ]
 by_cases hj:k=j
 ·subst hj;simp[h]
 ·simp[hj]
theorem Grw.set {s:List Bool}{k:Nat}(h:k<s.length):Grw s (s.set k true):=⟨z9,fun j hj=>by rw[vm j h];split<;>simp_all⟩
theorem iu {s s':List Bool}(h:Grw s s'):mN s'<=mN s:=by
 obtain⟨h1,h2⟩:=h
 induction s generalizing s' with
 |nil=>simp at h1;subst h1;exact JZ _
 |cons b s ih=>
  cases s' with
  |nil=>simp at h1
  |cons b' s'=>
   have h3:=ih (s':=s') (by simpa using h1) (fun k hk=>by simpa using h2 (k+1) (by simpa using hk))
   have h4:=h2 0
   cases b<;>cases b'<;>simp[mN]at* <;>omega
def Cls (B:Nat->List Nat)(from_:Nat)(s s':List Bool):Prop:=∀j,s.getD j false=false->s'.getD j false=true->∀k∈B j,k≠from_/\s'.getD k false=true
theorem Cls.trans {B:Nat->List Nat}{f:Nat}{a b c:List Bool}(h:Cls B f a b)(k:Cls B f b c)(hg:Grw b c):Cls B f a c:=fun j h1 h2 x hx=>by
 cases hb:b.getD j false with
 |false=>exact k j hb h2 x hx
 |true=>
  obtain⟨q1,q2⟩:=h j h1 hb x hx
  exact⟨q1,hg.2 x q2⟩
theorem ue {N from_:Nat}{g:Nat->List Bool->Bool×List Bool}(hg:∀i s,i<N->s.length=N->Grw s (g i s).2):∀(ks:List Nat) (s:List Bool),(∀k∈ks,k<N)->s.length=N->Grw s (vb g from_ ks s).2
 |[],s,_,_=>Grw.refl s
 |k::ks,s,hk,hs=>by
  unfold vb
  split
  ·exact Grw.refl s
  ·split
   ·exact ue hg ks s (fun x hx=>hk x (by simp[hx])) hs
   ·have hkN:=hk k z9
    have h1:Grw s (s.set k true):=Grw.set zA
    have h2:=hg k (s.set k true) hkN (by simpa using hs)
    cases hq:g k (s.set k true)with
    |mk b s'=>
     rw[hq]at h2
     cases b
     ·exact(h1.trans h2).trans (ue hg ks s' (fun x hx=>hk x (by simp[hx])) (by rw[(h1.trans h2).1,hs]))
     ·exact h1.trans h2
theorem nL {B:Nat->List Nat}{N from_:Nat}(hB:∀i,i<N->∀k∈B i,k<N):∀(f i:Nat) (s:List Bool),i<N->s.length=N->Grw s (jq B from_ f i s).2
 |0,i,s,_,_=>Grw.refl s
 |f+1,i,s,hi,hs=>ue (fun i s hi hs=>nL hB f i s hi hs) (B i) s (hB i hi) hs
theorem qk {B:Nat->List Nat}{N from_:Nat}{g:Nat->List Bool->Bool×List Bool}{F:Nat}(hg:∀i s,i<N->s.length=N->Grw s (g i s).2)
  (hc:∀i s,i<N->s.length=N->mN s<F->(g i s).1=false->Cls B from_ s (g i s).2/\∀k∈B i,k≠from_/\(g i s).2.getD k false=true):
  ∀(ks:List Nat) (s:List Bool),(∀k∈ks,k<N)->s.length=N->mN s<F+1->(vb g from_ ks s).1=false->Cls B from_ s (vb g from_ ks s).2/\∀k∈ks,k≠from_/\(vb g from_ ks s).2.getD k false=true
 |[],s,_,_,_,_=>⟨fun j h1 h2=>(by rw[show(vb g from_ [] s).2=s from rfl,h1]at h2;cases h2),z9⟩
 |k::ks,s,hk,hs,hf,h=>by
  have hkN:=hk k z9
  have hks:∀x∈ks,x<N:=fun x hx=>hk x (by simp[hx])
  unfold vb at h⊢
  split at h
  ·cases h
  ·rename_i hne
   rw[if_neg hne]
   split at h
   ·rename_i hm
    rw[if_pos hm]
    obtain⟨c1,c2⟩:=qk hg hc ks s hks hs hf h
    refine⟨c1,fun x hx=>?_⟩
    rcases J3.1 hx with rfl|hx
    ·exact⟨hne,(ue hg ks s hks hs).2 _ hm⟩
    ·exact c2 x hx
   ·rename_i hm
    rw[if_neg hm]
    have hm:s.getD k false=false:=by simpa using hm
    have hlt:k<s.length:=zA
    have g1:Grw s (s.set k true):=Grw.set hlt
    have g2:=hg k (s.set k true) hkN (by simpa using hs)
    have e1:=nk s k hlt hm
    have hcc:=hc k (s.set k true) hkN (by simpa using hs) zA
    cases hq:g k (s.set k true)with
    |mk b s'=>
     rw[hq]at h g2 hcc
     cases b with
     |true=>simp at h
     |false=>
      simp only at h g2 hcc⊢
      obtain⟨c1,c2⟩:=hcc trivial
      have hs':s'.length=N:=by rw[(g1.trans g2).1,hs]
      have hf':mN s'<F+1:=by have:=iu g2;omega
      obtain⟨d1,d2⟩:=qk hg hc ks s' hks hs' hf' h
      have g3:=ue (from_:=from_) hg ks s' hks hs'
      have hks':s'.getD k false=true:=g2.2 k (by rw[vm k hlt,if_pos rfl])
      refine⟨fun j j1 j2 x hx=>?_,fun x hx=>?_⟩
      ·cases hj:(s.set k true).getD j false with
       |false=>exact(c1.trans d1 g3) j hj j2 x hx
       |true=>
        rw[vm j hlt]at hj
        split at hj
        ·rename_i hkj
         subst hkj
         obtain⟨q1,q2⟩:=c2 x hx
         exact⟨q1,g3.2 x q2⟩
        ·rw[j1]at hj;cases hj
      ·rcases J3.1 hx with rfl|hx
       ·exact⟨hne,g3.2 _ hks'⟩
       ·exact d2 x hx
theorem jp {B:Nat->List Nat}{N from_:Nat}(hB:∀i,i<N->∀k∈B i,k<N):∀(f i:Nat) (s:List Bool),i<N->s.length=N->mN s<f->(jq B from_ f i s).1=false->
  Cls B from_ s (jq B from_ f i s).2/\∀k∈B i,k≠from_/\(jq B from_ f i s).2.getD k false=true
 |0,i,s,_,_,hf,_=>by omega
 |f+1,i,s,hi,hs,hf,h=>qk (fun i s hi hs=>nL hB f i s hi hs) (fun i s hi hs hf h=>jp hB f i s hi hs hf h) (B i) s (hB i hi) hs zA h
theorem qj {B:Nat->List Nat}{from_ i:Nat}{g:Nat->List Bool->Bool×List Bool}(hg:∀k s,(g k s).1=true->Way B k from_):∀(ks:List Nat) (s:List Bool),(∀k∈ks,k∈B i)->(vb g from_ ks s).1=true->Way B i from_
 |[],s,_,h=>by cases h
 |k::ks,s,hk,h=>by
  unfold vb at h
  split at h
  ·rename_i hh;rw[<-hh];exact .one (hk k z9)
  ·split at h
   ·exact qj hg ks s (fun x hx=>hk x (by simp[hx])) h
   ·have hgk:=hg k (s.set k true)
    cases hq:g k (s.set k true)with
    |mk b s'=>
     rw[hq]at h hgk
     cases b
     ·exact qj hg ks s' (fun x hx=>hk x (by simp[hx])) h
     ·exact .more (hk k z9) (hgk rfl)
theorem jo {B:Nat->List Nat}{from_:Nat}:∀(f i:Nat) (s:List Bool),(jq B from_ f i s).1=true->Way B i from_
 |0,i,s,h=>by cases h
 |f+1,i,s,h=>qj (fun k s hk=>jo f k s hk) (B i) s (fun _ h=>h) h
theorem ir (N:Nat):mN (List.replicate N false)=N:=by simp[mN,List.filter_replicate]
theorem aM {B:Nat->List Nat}{N from_:Nat}(hB:∀i,i<N->∀k∈B i,k<N)(hf:from_<N):aN B N from_=true↔Way B from_ from_:=by
 constructor
 ·exact fun h=>jo _ _ _ h
 ·intro hw
  cases hq:aN B N from_ with
  |true=>rfl
  |false=>
   obtain⟨c1,c2⟩:=jp hB (N+1) from_ (List.replicate N false) hf z9 (by rw[ir];omega) hq
   generalize (jq B from_ (N+1) from_ (List.replicate N false)).2=s' at*
   have h0:∀j,(List.replicate N false).getD j false=false:=fun j=>by
    rw[Kx,IR];split<;>rfl
   have key:∀i k,Way B i k->k=from_->(i=from_\/s'.getD i false=true)->False:=by
    intro i k hik
    induction hik with
    |one hk=>
     intro hkf hi
     rcases hi with rfl|hi
     ·exact(c2 _ hk).1 hkf
     ·exact(c1 _ (h0 _) hi _ hk).1 hkf
    |more hk _ ih=>
     intro hkf hi
     rcases hi with rfl|hi
     ·exact ih hkf (.inr (c2 _ hk).2)
     ·exact ih hkf (.inr (c1 _ (h0 _) hi _ hk).2)
   exact(key _ _ hw rfl (.inl rfl)).elim
def ne (B:Nat->List Nat)(N:Nat):Option Nat:=if (wU B N).length=N then none else(List.range N).find? (aN B N)
theorem gp {B:Nat->List Nat}{N:Nat}(hB:∀i,i<N->∀k∈B i,k<N):ne B N=none↔(wU B N).length=N:=by
 unfold ne
 constructor
 ·intro h
  split at h
  ·assumption
  ·rename_i hne
   obtain⟨j,hj,hw⟩:=gk hB (Nat.lt_of_le_of_ne (ee B N) hne)
   rw[I7]at h
   exact absurd ((aM hB hj).2 hw) (h j (Jo.2 hj))
 ·intro h
  rw[if_pos h]
open Vg Tf
def Xo:Ft:=⟨0,false,0,0,0,0,0,0,0,0⟩
def YU:CuL:=⟨⟨[],[],[]⟩,⟨none,0⟩,⟨none,0⟩⟩
def XY:MpL:=⟨[],[],[],[],⟨none,0⟩,⟨none,0⟩,⟨none,0⟩⟩
def Z8 (l:List Td)(s:Str):Option Ft:=(l.find? (fun t=>t.nm==s)).map (·.ty)
def yG (l:List Td)(s:Str):Ft:=(Z8 l s).getD Xo
def j7 (l:List CuL)(s:Str):Option CuL:=l.find? (fun c=>c.c.nm==s)
def ig (l:List MpL)(s:Str):Option MpL:=l.find? (fun c=>c.nm==s)
def wv (l:List Str)(s:Str):Nat:=(pS s l 0).getD 0
def mb (l:List Str)(s:Str):Bool:=(pS s l 0).isSome
@[reducible] def gF (c:CuL):List Cv:=[.v (.slice c.x.o c.c.xs.length c.x.c),.v (.slice c.y.o c.c.ys.length c.y.c)]
@[reducible] def kJ (m:MpL):List Cv:=[.v (.slice m.x.o m.xs.length m.x.c),.v (.slice m.y.o m.ys.length m.y.c),.v (.slice m.z.o m.zs.length m.z.c)]
@[reducible] def xT (t:Ft):List Cv:=[.v (.int .i64 t.bits),.v (.bool t.signed),.v (.int .i64 t.num),.v (.int .i64 t.off),.v (.int .i64 t.den),.v (.int .i64 t.m),.v (.int .i64 t.kg),.v (.int .i64 t.s),.v (.int .i64 t.a),.v (.int .i64 t.k)]
section
variable {C:Cx} {o:Oper} {e:Env} {M:Mem} {m x:Operand} {b:Nat} {s:Str}
theorem M4 {l:List Str}(hb:MpB C.hp b (tX l 0))(ho:o.op= .lookup 141 m x true)(hm:rd e m=some (true,.c (.v (.map (some b)))))(hx:rd e x=some (true,S s)):StpC HT C.S C.w0 o e M (.tup [Wi (wv l s),Y1 (mb l s)]) []:=
 StpC.lookup ho rfl rfl hm hx hb (fun β=>by
  rw[rL];unfold wv mb
  cases pS s l 0<;>rfl)
theorem aP {l:List Str}(hb:MpB C.hp b (tX l 0))(ho:o.op= .lookup 141 m x false)(hm:rd e m=some (true,.c (.v (.map (some b)))))(hx:rd e x=some (true,S s)):StpC HT C.S C.w0 o e M (I (wv l s)) []:=
 StpC.lookup ho rfl rfl hm hx hb (fun β=>by
  rw[rL];unfold wv
  cases pS s l 0<;>rfl)
theorem MZ {l:List Td}(hb:MpB C.hp b (yd fv l))(ho:o.op= .lookup 187 m x true)(hm:rd e m=some (true,.c (.v (.map (some b)))))(hx:rd e x=some (true,S s)):StpC HT C.S C.w0 o e M (.tup [.agg (xT (yG l s)),Y1 (Z8 l s).isSome]) []:=
 StpC.lookup ho rfl rfl hm hx hb (fun β=>by
  rw[xe];unfold yG Z8
  show _=(if true=true then _ else _)
  have:(fun x:Td=>(fv x).1==s)=fun t=>t.nm==s:=rfl
  rw[this]
  cases l.find? (fun t=>t.nm==s)<;>rfl)
theorem xh {l:List Td}(hb:MpB C.hp b (yd fv l))(ho:o.op= .lookup 187 m x false)(hm:rd e m=some (true,.c (.v (.map (some b)))))(hx:rd e x=some (true,S s)):StpC HT C.S C.w0 o e M (.agg (xT (yG l s))) []:=
 StpC.lookup ho rfl rfl hm hx hb (fun β=>by
  rw[xe];unfold yG Z8
  have:(fun x:Td=>(fv x).1==s)=fun t=>t.nm==s:=rfl
  rw[this]
  cases l.find? (fun t=>t.nm==s)<;>rfl)
theorem Lj {l:List CuL}(hb:MpB C.hp b (yd cB l))(ho:o.op= .lookup 188 m x true)(hm:rd e m=some (true,.c (.v (.map (some b)))))(hx:rd e x=some (true,S s)):StpC HT C.S C.w0 o e M (.tup [.agg (gF ((j7 l s).getD YU)),Y1 (j7 l s).isSome]) []:=
 StpC.lookup ho rfl rfl hm hx hb (fun β=>by
  rw[xe];unfold j7
  have:(fun x:CuL=>(cB x).1==s)=fun t=>t.c.nm==s:=rfl
  rw[this]
  cases l.find? (fun t=>t.c.nm==s)<;>rfl)
theorem P0 {l:List CuL}(hb:MpB C.hp b (yd cB l))(ho:o.op= .lookup 188 m x false)(hm:rd e m=some (true,.c (.v (.map (some b)))))(hx:rd e x=some (true,S s)):StpC HT C.S C.w0 o e M (.agg (gF ((j7 l s).getD YU))) []:=
 StpC.lookup ho rfl rfl hm hx hb (fun β=>by
  rw[xe];unfold j7
  have:(fun x:CuL=>(cB x).1==s)=fun t=>t.c.nm==s:=rfl
  rw[this]
  cases l.find? (fun t=>t.c.nm==s)<;>rfl)
theorem Li {l:List MpL}(hb:MpB C.hp b (yd ct l))(ho:o.op= .lookup 189 m x true)(hm:rd e m=some (true,.c (.v (.map (some b)))))(hx:rd e x=some (true,S s)):StpC HT C.S C.w0 o e M (.tup [.agg (kJ ((ig l s).getD XY)),Y1 (ig l s).isSome]) []:=
 StpC.lookup ho rfl rfl hm hx hb (fun β=>by
  rw[xe];unfold ig
  have:(fun x:MpL=>(ct x).1==s)=fun t=>t.nm==s:=rfl
  rw[this]
  cases l.find? (fun t=>t.nm==s)<;>rfl)
theorem PZ {l:List MpL}(hb:MpB C.hp b (yd ct l))(ho:o.op= .lookup 189 m x false)(hm:rd e m=some (true,.c (.v (.map (some b)))))(hx:rd e x=some (true,S s)):StpC HT C.S C.w0 o e M (.agg (kJ ((ig l s).getD XY))) []:=
 StpC.lookup ho rfl rfl hm hx hb (fun β=>by
  rw[xe];unfold ig
  have:(fun x:MpL=>(ct x).1==s)=fun t=>t.nm==s:=rfl
  rw[this]
  cases l.find? (fun t=>t.nm==s)<;>rfl)
end
structure Ck (H:Hp) (cp:Value) (d:DgL) (bT bC bM bS:Nat):Prop where
 o:d.ok H
 s:d.sm
 n1:d.ins.length<=1000000
 n2:d.bls.length<=1000000
 c:ChkOk H cp d bT bC bM bS
theorem ChkOk.mono {H H':Hp}(h:H.le H'){cp:Value}{d:DgL}{bT bC bM bS:Nat}(k:ChkOk H cp d bT bC bM bS):ChkOk H' cp d bT bC bM bS:=⟨k.p.mono h,k.t.mono h,k.c.mono h,k.m.mono h,k.s.mono h⟩
theorem Ck.mono {H H':Hp}(h:H.le H'){cp:Value}{d:DgL}{bT bC bM bS:Nat}(k:Ck H cp d bT bC bM bS):Ck H' cp d bT bC bM bS:=⟨k.o.mono h,k.s,k.n1,k.n2,k.c.mono h⟩
@[reducible] def WN (bT bC bM bS:Nat):List Value:=[Value.map (some bT),Value.map (some bC),Value.map (some bM),Value.map (some bS)]
def rP (l:List Str)(ins:List Str):Option Str:=ins.find? (fun s=> !mb l s)
theorem fO (l:List Str)(s:Str)(r:List Str):rP l (s::r)=bif mb l s then rP l r else some s:=by
 rw[rP,List.find?_cons]
 cases mb l s<;>rfl
@[reducible] def Q3 (r:Option Str):V:= .tup [Ws (r.getD []),Y1 r.isSome]
theorem fN {H:Hp}{cp:Value}{d:DgL}{bT bC bM bS:Nat}(k:Ck H cp d bT bC bM bS)(b:BlL)(hb:b.ok H)(hl:b.c.ins.length<=1000000000000000):
  CallH H HT 204 [.c (.v cp),z3 b.r] (Q3 (rP (zU d.c) b.c.ins)):=by
 refine kH func204 Tx ntmps204 fun C hR hP hH hL=>?_
 refine zX 1 191 0 (k.c.p.mono hH) rfl rfl (zB 100 ?_)
 refine vv ?_
 refine Sm.bringS 2 9 11 (hb.i.mono hH) rfl rfl ?_
 refine zK (M0:=[]) (α:={i:Nat//i<=b.c.ins.length/\rP (zU d.c) b.c.ins=rP (zU d.c) (b.c.ins.drop i)}) hP (fun i=>[(0,true,.c (.p 1 0)),(11,true,.c (.sl 2 0 b.c.ins.length 1)),(12,true,I b.c.ins.length),(13,true,I i.val)])
  (fun _=>[(1,⟨true,(d.r++WN bT bC bM bS).map .v,191⟩),(2,⟨true,b.c.ins.map sC,9⟩)]) (fun i=>b.c.ins.length-i.val) ⟨0,zA,rfl⟩ (fun _=>zD (by simp only[Kw,z6 (kG _),z6 (y8 _)];rfl)) (fun _=>zO rfl) [(1,1),(2,2)] ?_ ?_
 ·exact zh
 ·rintro⟨i,hi,hx⟩ J hj
  simp only at hj hi hx⊢
  refine zB 120 (vv ?_)
  refine zV (fun hc=>?_) (fun hc=>?_)
  ·have hc:=zH hc
   rw[JC hc,fO]at hx
   simp only[go_sem,vV hc]
   refine⟨⟨zA,zA⟩,?_⟩
   generalize b.c.ins[i]=s at*
   refine z4 130 rfl rfl (.inl rfl) (fun _=>M4 (k.c.s.mono hH) rfl rfl rfl) (vv ?_)
   cases hs:mb (zU d.c) s with
   |false=>
    rw[hs,cond_false]at hx
    refine vv ?_
    rw[hx]at hR
    exact yN (hR C hL) ClM.nil
   |true=>
    rw[hs,cond_true]at hx
    simp only[go_sem,yu (i:=i)]
    exact hj _ _ ⟨i+1,hc,hx⟩ [(1,1),(2,2)] yL zh
  ·have hc:=zI hi hc
   rw[hc,JI]at hx
   rw[hx]at hR
   exact yN (hR C hL) ClM.nil
def rN:List Str->List Str->Option Str
 |_,[]=>none
 |seen,s::r=>bif seen.contains s then some s else rN (s::seen) r
def eE (s:Str):Str×Value:=(s,.bool true)
theorem eC (s:Str)(l:List Str):(w9 (yd eE l) ⟨s.toArray⟩).getD (.bool false)= .bool (l.contains s):=by
 rw[xe]
 have:(fun x:Str=>(eE x).1==s)=fun x=>x==s:=rfl
 rw[this]
 cases hq:l.find? (fun x=>x==s)with
 |none=>
  have:l.contains s=false:=by
   rw[IA]
   intro h
   rw[IG]at h
   rw[I7]at hq
   exact hq s h z9
  rw[this];rfl
 |some y=>
  have h1:=List.find?_some hq
  have h2:=IW hq
  have h3:y=s:=by simpa using h1
  subst h3
  have:l.contains y=true:=IG.2 h2
  rw[this];rfl
theorem W0 {H:Hp}(l:List Str)(hl:l.length<=1000000000000000):CallX H HT 202 [.c (.sl 1 0 l.length 1)] [bA 1 l] (fun _:Unit=>Q3 (rN [] l)) (fun _=>[]) (fun _ _=>True):=by
 refine kX func202 Tz ntmps202 fun C hR hP hH hL=>?_
 have hR:=hR ()
 have hM:ClM [bA 1 l]:=ClM.v (by simp only[Kw,y8];rfl)
 refine zB 100 (vv ?_)
 refine Sm.makeMap hL rfl rfl rfl (fun b C1 l1 k1 f1 f1' m1=>?_)
 refine zB 110 (vv ?_)
 refine xH (C:=C) (Ck:=C1) (M0:=[bA 1 l]) (α:={i:Nat//i<=l.length/\rN [] l=rN (l.take i).reverse (l.drop i)}) l1 hP (fun i=>[(4,true,.c (.v (.map (some b)))),(8,true,.c (.sl 1 0 l.length 1)),(9,true,I l.length),(10,true,I i.val)])
  (fun _=>[bA 1 l]) (fun i hp=>MpB hp b (yd eE (l.take i.val).reverse)) (fun i=>l.length-i.val) ⟨0,zA,rfl⟩ m1 (fun _=>hM) (fun _=>zO rfl) [(1,1)] zh ?_
 rintro⟨i,hi,hx⟩ Cn J ln iT hb
 simp only at hb hi hx iT⊢
 refine zB 120 (vv ?_)
 refine zV (fun hc=>?_) (fun hc=>?_)
 ·have hc:=zH hc
  have htk:(l.take (i+1)).reverse=l[i]::(l.take i).reverse:=by rw[JR hc,List.reverse_append];rfl
  rw[JC hc,rN]at hx
  simp only[go_sem,vV hc]
  refine⟨⟨zA,zA⟩,?_⟩
  generalize l[i]=s at*
  refine z4 130 rfl rfl (.inl rfl) (fun _=>StpC.lookup (v:=Bo ((l.take i).reverse.contains s)) rfl rfl rfl rfl rfl iT (fun β=>(eC s _).symm)) (vv ?_)
  refine zV (fun hd=>?_) (fun hd=>?_)
  ·rw[hd,cond_true]at hx
   rw[hx]at hR
   exact yN (hR Cn ln trivial) hM
  ·rw[hd,cond_false,<-htk]at hx
   refine zB 130 (vv ?_)
   refine vz (u:= .bool true) ln rfl rfl rfl rfl rfl rfl rfl (fun _=>rfl) iT f1 (fun Cu lu ku mu=>?_)
   refine zB 140 ?_
   simp only[go_sem,yu (i:=i)]
   exact hb _ _ Cu ⟨i+1,hc,hx⟩ [(1,1)] lu (by simp only;rw[htk];exact mu) yL zh
 ·have hc:=zI hi hc
  rw[hc,JI]at hx
  have hx:rN [] l=none:=hx
  rw[hx]at hR
  exact yN (hR Cn ln trivial) hM
open Vg Tf
def lV:Str:=[100,101,108,97,121]
def vU (l:List Str)(n:Nat)(s:Str):List Nat:=if n<=wv l s then[wv l s-n]else[]
def oO (l:List Str)(n:Nat)(b:Bl):List Nat:=if b.kd==lV then[]else b.ins.flatMap (vU l n)
def xF (d:Dg)(i:Nat):List Nat:=match d.bls[i]? with
 |some b=>oO (zU d) d.ins.length b
 |none=>[]
theorem sP (s:Str):∀(l:List Str) (k i:Nat),pS s l k=some i->i<k+l.length
 |[],_,_,h=>by cases h
 |x::l,k,i,h=>by
  unfold pS at h
  split at h
  ·cases h;simp
  ·have:=sP s l (k+1) i h
   simp;omega
theorem Ys (l:List Str)(s:Str):wv l s<=l.length:=by
 unfold wv
 cases h:pS s l 0 with
 |none=>simp
 |some i=>have:=sP s l 0 i h;simp;omega
@[reducible] def nC (n:Nat):Cv:= .v (.int .i64 (n:Int))
@[reducible] def QG (nm:Nat)(l:List Nat):Nat×Bk:=(nm,⟨false,l.map nC,3⟩)
theorem xU (l:List Nat):(l.map nC).all Cv.isV=true:=by simp[Cv.isV]
theorem jX {l:List Nat}{i:Nat}(h:i<l.length):(l.map nC)[i]?=some (nC l[i]):=by simp[h]
theorem ve (d:DgL):(zU d.c).length=d.ins.length+d.bls.length:=by simp[zU,DgL.c]
theorem s9 {d:DgL}{i:Nat}(h:i<d.bls.length):xF d.c i=oO (zU d.c) d.ins.length d.bls[i].c:=by
 unfold xF
 have:d.c.bls[i]?=some d.bls[i].c:=by simp[DgL.c,h]
 rw[this];rfl
theorem gL {H:Hp}{cp:Value}{d:DgL}{bT bC bM bS:Nat}(k:Ck H cp d bT bC bM bS)(i:Nat)(hi:i<d.bls.length)(hl:d.bls[i].c.ins.length<=1000000):
  CallX H HT 122 [.c (.v cp),I i] [] (fun _:Unit=> .c (.sl 1 0 (xF d.c i).length 1)) (fun _=>[QG 1 (xF d.c i)]) (fun _ _=>True):=by
 have hn1:=k.n1
 have hn2:=k.n2
 have hsl:=ve d
 have hbo:=k.o.bls d.bls[i] (JH hi)
 rw[s9 hi]
 have htk:=zW (r:=BlL.r) (k:=6) (fun _=>rfl) d.bls i hi
 have hsz:=zQ (r:=BlL.r) (k:=6) (fun _=>rfl) d.bls
 generalize hbb:d.bls[i]=b at*
 refine kX func122 RI ntmps122 fun C hR hP hH hL=>?_
 have hR:=hR () C hL trivial
 refine zX 1 191 0 (k.c.p.mono hH) rfl rfl (zB 100 ?_)
 refine vv ?_
 refine Sm.bringR 2 64 14 (k.o.bl.mono hH) rfl rfl ?_
 have hl2:(d.bls.map BlL.r).length=d.bls.length:=Kv _
 rw[hl2]
 refine zB 110 ?_
 simp only[go_sem,htk,hsz]
 refine⟨⟨zA,zA⟩,zA,?_⟩
 refine zV (fun hd=>?_) (fun hd=>?_)
 ·have hd:(b.c.kd==lV)=true:=hd
  have hne:oO (zU d.c) d.ins.length b.c=[]:=by rw[oO,hd];rfl
  rw[hne]at hR
  refine yq 140 1 3 [4] [] rfl (vv ?_)
  exact RetQ.ren [(1,140)] hR hP rfl yI rfl rfl trivial ⟨oR,trivial⟩ (zD rfl) (zG rfl)
 ·have hd:(b.c.kd==lV)=false:=hd
  have hne:oO (zU d.c) d.ins.length b.c=b.c.ins.flatMap (vU (zU d.c) d.ins.length):=by rw[oO,hd];rfl
  rw[hne]at hR
  refine Sm.bringS 3 9 22 (hbo.i.mono hH) rfl rfl ?_
  refine x9 140 1 3 [6] [] rfl (vv ?_)
  generalize hL':zU d.c=L' at*
  have hnl:∀i,((b.c.ins.take i).flatMap (vU L' d.ins.length)).length<=i:=fun i=>by
   rw[List.length_flatMap]
   have:∀l:List Str,(l.map fun s=>(vU L' d.ins.length s).length).sum<=l.length:=fun l=>by
    induction l with
    |nil=>simp
    |cons s l ih=>
     rw[Ky,List.sum_cons,JQ]
     have:(vU L' d.ins.length s).length<=1:=by unfold vU;split<;>simp
     omega
   exact IE (this _) (by rw[IY];omega)
  refine zK (M0:=[]) (α:={i:Nat//i<=b.c.ins.length}) hP (fun i=>[(0,true,.c (.p 1 0)),(6,true,.c (.sl 6 0 ((b.c.ins.take i.val).flatMap (vU L' d.ins.length)).length 1)),(22,true,.c (.sl 3 0 b.c.ins.length 1)),(23,true,I b.c.ins.length),(24,true,I i.val)])
   (fun i=>[(1,⟨true,(d.r++WN bT bC bM bS).map .v,191⟩),(3,⟨true,b.c.ins.map sC,9⟩),QG 6 ((b.c.ins.take i.val).flatMap (vU L' d.ins.length))]) (fun i=>b.c.ins.length-i.val) ⟨0,zA⟩ (fun _=>zD (by simp only[Kw,z6 (kG _),z6 (y8 _),z6 (xU _)];rfl)) (fun _=>zO rfl) [(1,1),(3,3),(6,140)] ?_ ?_
  ·exact zh
  ·rintro⟨i,hi⟩ J hj
   simp only at hj hi⊢
   refine zB 150 (vv ?_)
   refine zV (fun hc=>?_) (fun hc=>?_)
   ·have hc:=zH hc
    have htk:(b.c.ins.take (i+1)).flatMap (vU L' d.ins.length)=(b.c.ins.take i).flatMap (vU L' d.ins.length)++vU L' d.ins.length b.c.ins[i]:=by
     rw[JR hc,List.flatMap_append];simp
    simp only[go_sem,vV hc]
    refine⟨⟨zA,zA⟩,?_⟩
    have hsl:=Ys L' b.c.ins[i]
    generalize b.c.ins[i]=s at*
    refine Sm.dg 160 12 zi (vv ?_)
    refine zF 170 (fun _=>aP (by have:=k.c.s.mono hH;rw[hL']at this;exact this) rfl rfl rfl) ?_
    have w3:IntKind.i64.wrap ((wv L' s:Int)-(d.ins.length:Int))=(wv L' s:Int)-(d.ins.length:Int):=by rw[y6 zA zA]
    simp only[go_sem,w3]
    have hq:=hnl i
    generalize hout:(b.c.ins.take i).flatMap (vU L' d.ins.length)=out at*
    by_cases hge:d.ins.length<=wv L' s
    ·have e2:decide ((0:Int)<=(wv L' s:Int)-(d.ins.length:Int))=true:=yS zA
     have e3:vU L' d.ins.length s=[wv L' s-d.ins.length]:=by unfold vU;rw[if_pos hge]
     have e4:(wv L' s:Int)-(d.ins.length:Int)=((wv L' s-d.ins.length:Nat):Int):=zA
     rw[e3]at htk
     have hlen:(out.map nC).length=out.length:=Kv _
     have hap:List.take out.length (out.map nC)++[nC (wv L' s-d.ins.length)]=(out++[wv L' s-d.ins.length]).map nC:=by
      rw[JJ zA,JN];rfl
     simp only[go_sem,e2,e4,hap,hlen,yu (i:=i)]
     refine⟨⟨zA,zA,zA⟩,?_⟩
     refine hj _ _ ⟨i+1,hc⟩ [(1,1),(3,3),(6,171)] yL ?_
     simp only[htk,JM,JQ,J9]
     exact zh
    ·have e2:decide ((0:Int)<=(wv L' s:Int)-(d.ins.length:Int))=false:=yZ zA
     have e3:vU L' d.ins.length s=[]:=by unfold vU;rw[if_neg hge]
     rw[e3,JK]at htk
     simp only[go_sem,e2,yu (i:=i)]
     refine hj _ _ ⟨i+1,hc⟩ [(1,1),(3,3),(6,6)] yL ?_
     simp only[htk]
     exact zh
   ·have hc:=zI hi hc
    subst hc
    rw[JY]
    exact RetQ.ren [(1,6)] hR hP rfl yI rfl rfl trivial ⟨oV (yD (xU _)),trivial⟩ (zD (by simp only[JF,JG,JK,Kw,z6 (xU _)];rfl)) (zG rfl)
open Vg Tf
theorem aG {l:List Str}{n N:Nat}(hl:l.length=n+N)(hN:0<N)(b:Bl):∀k∈oO l n b,k<N:=by
 intro k hk
 unfold oO at hk
 split at hk
 ·cases hk
 ·obtain⟨s,_,hs⟩:=List.mem_flatMap.1 hk
  unfold vU at hs
  split at hs
  ·rw[IM]at hs
   unfold wv at hs
   cases hq:pS s l 0 with
   |none=>rw[hq]at hs;simp at hs;omega
   |some i=>
    rw[hq]at hs
    have:=sP s l 0 i hq
    simp at hs;omega
  ·cases hs
theorem tL (d:DgL):∀i,i<d.bls.length->∀k∈xF d.c i,k<d.bls.length:=fun i hi k hk=>by
 rw[s9 hi]at hk
 exact aG (ve d) zA _ k hk
@[reducible] def bC (b:Bool):Cv:= .v (.bool b)
def xE (N:Nat)(l:List Nat):List Bool:=(List.range N).map fun i=>l.contains i
theorem wM (N:Nat)(l:List Nat):(xE N l).length=N:=by simp[xE]
theorem yf (l:List Bool):(l.map bC).all Cv.isV=true:=by simp[Cv.isV]
theorem rK {l:List Bool}{i:Nat}(h:i<l.length):(l.map bC)[i]?=some (bC (l.getD i false)):=by
 rw[JO,Kx,JA h];rfl
theorem qq {N:Nat}{l:List Nat}{i:Nat}(h:i<N):(xE N l).getD i false=l.contains i:=by
 rw[Kx,xE,JO,Jp h];rfl
theorem kZ {N:Nat}{l:List Nat}{i:Nat}(h:i<N):(xE N l).set i true=xE N (l++[i]):=by
 apply Jn
 intro j
 rw[IJ]
 simp only[xE,Kv,Im,JO]
 by_cases hj:i=j
 ·subst hj
  rw[if_pos rfl,if_pos h,Jp h]
  simp
 ·rw[if_neg hj]
  by_cases hjN:j<N
  ·rw[Jp hjN]
   simp only[Jj,Ji]
   rw[JP,IG,IG,IP,IM]
   exact⟨.inl,fun hh=>by rcases hh with hh|hh;exact hh;exact absurd hh.symm hj⟩
  ·rw[Jc (by simp;omega)];rfl
theorem fi {ρ:Nat->Nat}{l:List Cv}{t u:TypeId}{r:Bool}(h:l.all Cv.isV=true):Wk ((⟨true,l,t⟩:Bk).ren ρ) ⟨r,l,u⟩:= .inr ⟨by rw[yD h],[],by rw[yD h];simp⟩
@[reducible] def fe (nm:Nat)(tk:List Bool):Nat×Bk:=(nm,⟨true,tk.map bC,4⟩)
@[reducible] def fc (nm t N:Nat):Nat×Bk:=(nm,⟨true,[.sl t 0 N 1],86⟩)
theorem Lg (tk:List Bool)(k:Nat)(h:k<tk.length):CallOk HT 123 [I k,.c (.p 1 0)] [fc 1 2 tk.length,fe 2 tk] (Bo (!tk.getD k false)) []:=by
 have hM:ClM [fc 1 2 tk.length,fe 2 tk]:=zD (by simp only[Kw,z6 (yf _)];rfl)
 refine kN 100 func123 RH ntmps123 fun C hR hP=>?_
 simp only[go_sem,rK h]
 refine⟨⟨zA,zA⟩,?_⟩
 exact yN hR hM
theorem Pf (ks:List Nat)(hks:ks.length<=1000000000000000)(tk:List Bool)(hk:∀k∈ks,k<tk.length):CallOk HT 164 [.c (.sl 1 0 ks.length 1),.c (.fn 123 [(2,0)])] [(1,⟨true,ks.map nC,3⟩),fc 2 3 tk.length,fe 3 tk] (I (xy (fun k=> !tk.getD k false) ks 0)) []:=by
 have hM:ClM [(1,⟨true,ks.map nC,3⟩),fc 2 3 tk.length,fe 3 tk]:=zD (by simp only[Kw,z6 (yf _),z6 (xU _)];rfl)
 have hM1:ClM [fc 1 2 tk.length,fe 2 tk]:=zD (by simp only[Kw,z6 (yf _)];rfl)
 refine kN 100 func164 YP ntmps164 fun C hR hP=>?_
 refine vv ?_
 refine zK (M0:=[(1,⟨true,ks.map nC,3⟩),fc 2 3 tk.length,fe 3 tk]) (α:={i:Nat//i<=ks.length/\xy (fun k=> !tk.getD k false) ks 0=xy (fun k=> !tk.getD k false) (ks.drop i) i}) hP (fun i=>[(0,true,.c (.sl 1 0 ks.length 1)),(1,true,.c (.fn 123 [(2,0)])),(7,true,I ks.length),(8,true,I i.val)])
  (fun _=>[(1,⟨true,ks.map nC,3⟩),fc 2 3 tk.length,fe 3 tk]) (fun i=>ks.length-i.val) ⟨0,zA,rfl⟩ (fun _=>hM) (fun _=>zO rfl) [(1,1),(2,2),(3,3)] ?_ ?_
 ·exact zh
 ·rintro⟨i,hi,hx⟩ J hb
  simp only at hb hi hx⊢
  refine zB 120 (vv ?_)
  refine zV (fun hc=>?_) (fun hc=>?_)
  ·have hc:=zH hc
   rw[yU _ ks i hc]at hx
   simp only[go_sem,jX hc]
   refine⟨⟨zA,zA⟩,?_⟩
   have hk':=hk ks[i] (JH hc)
   generalize ks[i]=k at*
   refine CallQ.ren [(1,2),(2,3)] 120 (Lg tk k hk') hM1 rfl rfl ⟨oS,oW (yD (yf _)),trivial⟩ rfl (.inr rfl) (vv ?_)
   refine zV (fun hd=>?_) (fun hd=>?_)
   ·rw[hd,cond_true]at hx
    exact zN hR rfl yI (by rw[hx];rfl) (Sub.refl _) hM (zG rfl)
   ·rw[hd,cond_false]at hx
    simp only[yu (i:=i)]
    exact hb _ _ ⟨i+1,hc,hx⟩ [(1,1),(2,2),(3,3)] yL zh
  ·have hc:=zI hi hc
   rw[hc,JI]at hx
   exact zN hR rfl yI (by rw[hx];rfl) (Sub.refl _) hM (zG rfl)
theorem NK (ks:List Nat)(hks:ks.length<=1000000000000000)(tk:List Bool)(hk:∀k∈ks,k<tk.length):CallOk HT 77 [.c (.sl 1 0 ks.length 1),.c (.fn 123 [(2,0)])] [(1,⟨true,ks.map nC,3⟩),fc 2 3 tk.length,fe 3 tk] (Bo (ks.any fun k=> !tk.getD k false)) []:=by
 have hM:ClM [(1,⟨true,ks.map nC,3⟩),fc 2 3 tk.length,fe 3 tk]:=zD (by simp only[Kw,z6 (yf _),z6 (xU _)];rfl)
 refine kN 100 func77 WE ntmps77 fun C hR hP=>?_
 refine vv ?_
 refine CallQ.ren [(1,1),(2,2),(3,3)] 120 (Pf ks hks tk hk) hM rfl rfl ⟨oW (yD (xU _)),oS,oW (yD (yf _)),trivial⟩ rfl (.inr rfl) (vv ?_)
 refine zN hR rfl yI ?_ (Sub.refl _) hM (zG rfl)
 rw[<-yj _ ks 0 zA];rfl
theorem XC {H:Hp}{cp:Value}{d:DgL}{bT bC' bM bS:Nat}(k:Ck H cp d bT bC' bM bS)(l:List Nat)(i:Nat)(hi:i<d.bls.length)(hl:d.bls[i].c.ins.length<=1000000):
  CallX H HT 121 [I i,.c (.p 1 0),.c (.p 2 0)] [fc 1 3 d.bls.length,fe 3 (xE d.bls.length l),(2,⟨true,[.v cp],115⟩)] (fun _:Unit=>Bo (iI (xF d.c) l i)) (fun _=>[]) (fun _ _=>True):=by
 have hM:ClM [fc 1 3 d.bls.length,fe 3 (xE d.bls.length l),(2,⟨true,[.v cp],115⟩)]:=zD (by simp only[Kw,z6 (yf _)];rfl)
 have hg:((xE d.bls.length l).map bC)[i]?=some (bC (l.contains i)):=by rw[rK (by rw[wM];exact hi),qq hi]
 have hbl:(xF d.c i).length<=1000000:=by
  rw[s9 hi]
  unfold oO
  split
  ·simp
  ·refine IE ?_ hl
   rw[List.length_flatMap]
   generalize d.bls[i].c.ins=q
   induction q with
   |nil=>simp
   |cons s q ih=>
    rw[Ky,List.sum_cons,JQ]
    have:(vU (zU d.c) d.ins.length s).length<=1:=by unfold vU;split<;>simp
    omega
 refine kX func121 RJ ntmps121 fun C hR hP hH hL=>?_
 have hR:=hR () C hL trivial
 have hrd:iI (xF d.c) l i=(!l.contains i&&(xF d.c i).all fun k=>l.contains k):=rfl
 refine zB 100 ?_
 cases hb:l.contains i with
 |true=>
  rw[hrd,hb]at hR
  rw[hb]at hg
  simp only[go_sem,hg]
  refine⟨⟨zA,zA⟩,?_⟩
  refine CallQ.guard (xs:=[]) (v:= .c (.v (.slice none 0 0))) 110 (fun h=>by cases h) (fun h=>by cases h) (vv ?_)
  refine CallQ.guard (xs:=[]) (v:=Bo true) 110 (fun h=>by cases h) (fun h=>by cases h) (vv ?_)
  exact yN hR hM
 |false=>
  rw[hrd,hb]at hR
  rw[hb]at hg
  simp only[go_sem,hg]
  refine⟨⟨zA,zA⟩,?_⟩
  refine CallQ.hr [(1,130)] 131 (gL k i hi hl) hH ClM.nil rfl rfl trivial rfl (.inl rfl) ?_
  simp only[Mem.ren,Ky,Kz,yD (xU _),V.ren,Cv.ren,rn,Nat.reduceBEq,cond_true,cond_false]
  refine vv ?_
  refine CallQ.ren [(1,130),(2,1),(3,3)] 140 (NK (xF d.c i) zA (xE d.bls.length l) (fun k hk=>by rw[wM];exact tL d i hi k hk)) (zD (by simp only[Kw,z6 (yf _),z6 (xU _)];rfl)) rfl rfl ⟨⟨_,rfl,fi (xU _)⟩,⟨_,rfl,.inl (by rw[wM];rfl)⟩,oW (yD (yf _)),trivial⟩ rfl (.inr rfl) (vv ?_)
  refine zN hR rfl yI ?_ (SubS.sub ⟨oS,oS,oS,trivial⟩) hM (zG rfl)
  have hall:((xF d.c i).any fun k=> !(xE d.bls.length l).getD k false)= !((xF d.c i).all fun k=>l.contains k):=by
   rw[JU,HN]
   rw[JP,HF,HF]
   constructor
   ·rintro⟨x,hx,h⟩
    exact⟨x,hx,by rw[qq (tL d i hi x hx)]at h;exact h⟩
   ·rintro⟨x,hx,h⟩
    exact⟨x,hx,by rw[qq (tL d i hi x hx)];exact h⟩
  rw[hall,HN]
  rfl
theorem gl {B:Nat->List Nat}{N:Nat}{l:List Nat}{i:Nat}(hi:i<N)(h:∀j,j<i->iI B l j=false)(hr:iI B l i=true):iZ B N l=some i:=by
 unfold iZ
 rw[List.find?_range_eq_some]
 exact⟨hr,Jo.2 hi,fun j hj=>by rw[h j hj];rfl⟩
theorem ei {B:Nat->List Nat}{N:Nat}{l:List Nat}(h:∀j,j<N->iI B l j=false):iZ B N l=none:=by
 unfold iZ
 rw[I7]
 intro j hj
 rw[h j (Jo.1 hj)];simp
theorem pI {B:Nat->List Nat}{N:Nat}{l:List Nat}(h:iZ B N l=none):∀r,vG B N r l=l
 |0=>rfl
 |r+1=>by rw[vG,h]
theorem vi:∀N:Nat,wR N [Cv.v (.bool false)]=(xE N []).map bC:=by
 intro N
 have h:(xE N [])=List.replicate N false:=by
  apply Jn
  intro j
  rw[xE,JO,IR]
  by_cases hj:j<N
  ·rw[Jp hj,if_pos hj];rfl
  ·rw[Jc (by simp;omega),if_neg hj];rfl
 rw[h,List.map_replicate]
 induction N with
 |zero=>rfl
 |succ n ih=>rw[wR,ih (by
   apply Jn
   intro j
   rw[xE,JO,IR]
   by_cases hj:j<n
   ·rw[Jp hj,if_pos hj];rfl
   ·rw[Jc (by simp;omega),if_neg hj];rfl),List.replicate_succ];rfl
theorem ed {H:Hp}{cp:Value}{d:DgL}{bT bC' bM bS:Nat}(k:Ck H cp d bT bC' bM bS)(hl:∀b∈d.bls,b.c.ins.length<=1000000):
  CallX H HT 51 [.c (.v cp)] [] (fun _:Unit=> .c (.sl 1 0 (wU (xF d.c) d.bls.length).length 1)) (fun _=>[QG 1 (wU (xF d.c) d.bls.length)]) (fun _ _=>True):=by
 have hn2:=k.n2
 obtain⟨ca,rfl⟩:=uX k.c.p
 refine kX func51 O6 ntmps51 fun C hR hP hH hL=>?_
 have hR:=hR () C hL trivial
 have hpt:=k.c.p.mono hH
 refine zB 100 (vv ?_)
 refine zX 1 191 7 hpt rfl rfl (zB 110 ?_)
 simp only[go_sem,vi]
 refine⟨⟨zA,zA,zA⟩,?_⟩
 refine zX 2 191 15 hpt rfl rfl (zB 120 ?_)
 refine vv ?_
 refine x9 140 1 3 [3] [] rfl (vv ?_)
 generalize hB:xF d.c=B at*
 generalize hN:d.bls.length=N at*
 have hRd:∀l i,i<N->CallX H HT 121 [I i,.c (.p 1 0),.c (.p 2 0)] [fc 1 3 N,fe 3 (xE N l),(2,⟨true,[.v (.pointer ca)],115⟩)] (fun _:Unit=>Bo (iI B l i)) (fun _=>[]) (fun _ _=>True):=fun l i hi=>by
  have:=XC k l i zA (hl _ (JH _))
  rw[hB,hN]at this;exact this
 let Mm:List Nat->Mem:=fun l=>[(1,⟨false,[.v (.pointer ca)],115⟩),(4,⟨false,[.sl 5 0 N 1],86⟩),(5,⟨false,(xE N l).map bC,4⟩),QG 6 l]
 have hcl:∀l,ClM (Mm l):=fun l=>zD (by simp only[Mm,Kw,z6 (yf _),z6 (xU _)];rfl)
 refine zK (M0:=[]) (α:={x:Nat×List Nat//x.1<=N/\x.2.length<=x.1/\wU B N=vG B N (N-x.1) x.2}) hP (fun x=>[(1,true,.c (.p 1 0)),(3,true,.c (.sl 6 0 x.val.2.length 1)),(4,true,.c (.p 4 0)),(5,true,.c (.fn 121 [(4,0),(1,0)])),(20,true,I N),(21,true,I x.val.1)])
  (fun x=>Mm x.val.2) (fun x=>N-x.val.1) ⟨(0,[]),zA,z9,rfl⟩ (fun _=>hcl _) (fun _=>zO rfl) [(1,100),(4,111),(5,110),(6,140)] ?_ ?_
 ·exact zh
 ·rintro⟨⟨j,l⟩,hj,hlj,hx⟩ J hb
  simp only at hb hj hlj hx⊢
  refine zB 150 ?_
  simp only[go_sem,Mm]
  refine zV (fun hc=>?_) (fun hc=>?_)
  ·have hc:=zH hc
   refine zX 2 191 23 hpt rfl rfl (zB 160 ?_)
   simp only[go_sem,hN]
   refine zK (M0:=[]) (α:={i:Nat//i<=N/\∀q,q<i->iI B l q=false}) hP (fun i=>[(1,true,.c (.p 1 0)),(3,true,.c (.sl 6 0 l.length 1)),(4,true,.c (.p 4 0)),(5,true,.c (.fn 121 [(4,0),(1,0)])),(20,true,I N),(21,true,I j),(28,true,I N),(29,true,I i.val)])
    (fun _=>Mm l) (fun i=>N-i.val) ⟨0,zA,fun q h=>zA⟩ (fun _=>hcl _) (fun _=>zO rfl) [(1,1),(4,4),(5,5),(6,6)] ?_ ?_
   ·exact zh
   ·rintro⟨i,hi,hq⟩ J' hb'
    simp only at hb' hi hq⊢
    refine zB 170 ?_
    simp only[go_sem,Mm]
    refine zV (fun hic=>?_) (fun hic=>?_)
    ·have hic:=zH hic
     refine CallQ.hr [(1,4),(3,5),(2,1)] 180 (hRd l i hic) hH (zD (by simp only[Kw,z6 (yf _)];rfl)) rfl rfl ⟨⟨_,rfl,.inr ⟨rfl,[],rfl⟩⟩,⟨_,rfl,fi (yf _)⟩,⟨_,rfl,.inr ⟨rfl,[],rfl⟩⟩,trivial⟩ rfl (.inr rfl) (vv ?_)
     cases hr:iI B l i with
     |true=>
      have hnx:=gl hic hq hr
      refine zB 190 (vv ?_)
      refine Sm.dgW [6] 200 6 zi ?_
      simp only[go_sem,Mem.wo]
      have hlen:(l.map nC).length=l.length:=Kv _
      have hap:List.take l.length (l.map nC)++[nC i]=(l++[i]).map nC:=by rw[JJ zA,JN];rfl
      refine sj [(200,⟨false,[nC i],3⟩),(6,⟨false,l.map nC,3⟩)] 210 (by simp only[go_sem,hlen,hap]<;>rfl) ?_ rfl ⟨⟨rfl,rfl,rfl⟩,⟨rfl,rfl,rfl⟩,trivial⟩ rfl rfl ?_
      ·exact⟨zA,zA,zA⟩
      refine vv ?_
      have hst:((xE N l).map bC).set i (bC true)=(xE N (l++[i])).map bC:=by
       rw[<-kZ hic,Jy]
      simp only[Kv,wM,hst]
      refine⟨⟨zA,zA⟩,zA,?_⟩
      refine zB 220 ?_
      simp only[go_sem,yu (i:=j)]
      have hx2:wU B N=vG B N (N-(j+1)) (l++[i]):=by
       rw[hx,show N-j=(N-(j+1))+1 by omega,vG,hnx]
      refine hb _ _ ⟨(j+1,l++[i]),hc,by simp only[JM,JQ,J9];omega,hx2⟩ [(1,1),(4,4),(5,5),(6,210)] yL ?_
      simp only[JM,JQ,J9]
      exact zh
     |false=>
      simp only[go_sem,yu (i:=i)]
      refine hb' _ _ ⟨i+1,hic,fun q h=>?_⟩ [(1,1),(4,4),(5,5),(6,6)] yL zh
      rcases Nat.lt_or_ge q i with h'|h'
      ·exact hq q h'
      ·rw[show q=i by omega];exact hr
    ·have hic:=zI hi hic
     subst hic
     have hnx:=ei hq
     have hx2:wU B i=vG B i (i-(j+1)) l:=by rw[hx,pI hnx,pI hnx]
     simp only[go_sem,yu (i:=j)]
     refine hb _ _ ⟨(j+1,l),hc,by simp only;omega,hx2⟩ [(1,1),(4,4),(5,5),(6,6)] yL zh
  ·have hc:=zI hj hc
   subst hc
   rw[I2]at hx
   have hx:wU B j=l:=hx
   rw[hx]at hR
   exact RetQ.ren [(1,6)] hR hP rfl yI rfl rfl trivial ⟨oV (yD (xU _)),trivial⟩ (zD (by simp only[JF,JG,JK,Kw,z6 (xU _)];rfl)) (zG rfl)
end Go.Proofs.YtbnkiacicnnmkaaGreat.Fx
