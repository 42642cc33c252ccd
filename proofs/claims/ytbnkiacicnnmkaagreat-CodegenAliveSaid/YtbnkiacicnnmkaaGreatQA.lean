/-  -/
import Derived.Test.YtbnkiacicnnmkaaGreatQ8
open Go.Proofs.Tryz renaming prog→KI
set_option linter.unusedVariables false
set_option linter.unusedSimpArgs false
set_option maxRecDepth 100000
set_option maxHeartbeats 4000000
namespace Go.Proofs.YtbnkiacicnnmkaaGreat.Fx
def kF (B:Nat->List Nat)(l:List Nat)(i:Nat):Bool:= !l.contains i&&(B i).all fun k=>l.contains k
def kZ (B:Nat->List Nat)(N:Nat)(l:List Nat):Option Nat:=(List.range N).find? (kF B l)
def vA (B:Nat->List Nat)(N:Nat):Nat->List Nat->List Nat
 |0,l=>l
 |r+1,l=>match kZ B N l with
  |some i=>vA B N r (l++[i])
  |none=>l
def wP (B:Nat->List Nat)(N:Nat):List Nat:=vA B N N []
def OrdOk (B:Nat->List Nat)(N:Nat)(l:List Nat):Prop:=l.Nodup/\(∀i∈l,i<N)/\∀a i b,l=a++i::b->∀k∈B i,k∈a
theorem OrdOk.nil (B:Nat->List Nat)(N:Nat):OrdOk B N []:=⟨List.nodup_nil,zd,fun a i b h=>by simp at h⟩
theorem OrdOk.snoc {B:Nat->List Nat}{N:Nat}{l:List Nat}{i:Nat}(h:OrdOk B N l)(hi:i<N)(hr:kF B l i=true):OrdOk B N (l++[i]):=by
 obtain⟨h1,h2,h3⟩:=h
 simp only[kF,Ns,M7,Nr,LK]at hr
 obtain⟨r1,r2⟩:=hr
 have r1:i∉l:=fun hh=>by rw[LK.2 hh]at r1;cases r1
 refine⟨?_,fun j hj=>?_,fun a j b hab k hk=>?_⟩
 ·rw[List.nodup_append]
  refine⟨h1,zd,fun a ha b hb=>?_⟩
  rw[LG]at hb
  rintro rfl
  exact r1 (hb▸ha)
 ·rw[LM,LG]at hj
  rcases hj with hj|rfl
  ·exact h2 j hj
  ·exact hi
 ·rcases List.eq_nil_or_concat b with rfl|⟨b',x,rfl⟩
  ·have:=List.append_inj_right' hab rfl
   simp at this
   subst this
   have hl:=List.append_inj_left' hab rfl
   rw[<-hl];exact r2 k hk
  ·have e:l++[i]=(a++j::b')++[x]:=by rw[hab];simp
   have hl:=List.append_inj_left' e rfl
   exact h3 a j b' hl k hk
theorem gh {B:Nat->List Nat}{N:Nat}{l:List Nat}{i:Nat}(h:kZ B N l=some i):i<N/\kF B l i=true:=by
 unfold kZ at h
 have h1:=List.find?_some h
 have h2:=LS h
 rw[Md]at h2
 exact⟨h2,h1⟩
theorem nQ {B:Nat->List Nat}{N:Nat}:∀(r:Nat) (l:List Nat),OrdOk B N l->OrdOk B N (vA B N r l)
 |0,l,h=>h
 |r+1,l,h=>by
  unfold vA
  cases hn:kZ B N l with
  |none=>exact h
  |some i=>
   obtain⟨h1,h2⟩:=gh hn
   exact nQ r _ (h.snoc h1 h2)
theorem rV (B:Nat->List Nat)(N:Nat):OrdOk B N (wP B N):=nQ N [] (OrdOk.nil B N)
theorem rD {B:Nat->List Nat}{N:Nat}:∀(r:Nat) (l:List Nat),(vA B N r l).length<l.length+r->kZ B N (vA B N r l)=none
 |0,l,h=>by simp[vA]at h
 |r+1,l,h=>by
  unfold vA at h⊢
  cases hn:kZ B N l with
  |none=>simpa using hn
  |some i=>
   rw[hn]at h
   simp only at h⊢
   exact rD r _ (by rw[MB];simp;omega)
theorem mj {B:Nat->List Nat}{N:Nat}(h:(wP B N).length<N):kZ B N (wP B N)=none:=rD N [] (by unfold wP at h;simpa using h)
theorem ue:∀(N:Nat) (l:List Nat),l.Nodup->(∀i∈l,i<N)->l.length<=N
 |0,l,_,h=>by
  cases l with
  |nil=>simp
  |cons x l=>have:=h x zd;omega
 |N+1,l,hn,h=>by
  have h1:(l.erase N).length<=N:=by
   refine ue N _ (hn.erase N) (fun i hi=>?_)
   have h2:=h i (List.mem_of_mem_erase hi)
   have h3:i≠N:=fun hh=>by subst hh;exact(hn.not_mem_erase) hi
   omega
  rw[List.length_erase]at h1
  split at h1<;>omega
theorem fA:∀(N:Nat) (l:List Nat),(∀i,i<N->i∈l)->N<=l.length
 |0,l,_=>Nat.zero_le _
 |N+1,l,h=>by
  have h1:=fA N (l.erase N) (fun i hi=>(List.mem_erase_of_ne zA).2 (h i zA))
  rw[List.length_erase,if_pos (h N zA)]at h1
  have:l≠[]:=fun hh=>by have:=h N zA;rw[hh]at this;cases this
  have:=List.length_pos_iff.2 this
  omega
theorem gb (B:Nat->List Nat)(N:Nat):(wP B N).length<=N:=ue N _ (rV B N).1 (rV B N).2.1
theorem fN {N:Nat}{l:List Nat}(hn:l.Nodup)(h:∀i∈l,i<N)(hl:l.length=N):∀i,i<N->i∈l:=fun i hi=>by
 refine Ma fun hno=>?_
 have:=ue N (i::l) (L3.2 ⟨hno,hn⟩) (fun j hj=>by
  rcases MU.1 hj with rfl|hj
  ·exact hi
  ·exact h j hj)
 simp at this;omega
inductive Way (B:Nat->List Nat):Nat->Nat->Prop
 |one {i k:Nat}:k∈B i->Way B i k
 |more {i k j:Nat}:k∈B i->Way B k j->Way B i j
theorem Way.trans {B:Nat->List Nat}{i j k:Nat}(h:Way B i j)(h2:Way B j k):Way B i k:=by
 induction h with
 |one hk=>exact .more hk h2
 |more hk _ ih=>exact .more hk (ih h2)
theorem dR {B:Nat->List Nat}{N:Nat}{S:Nat->Prop}(hlt:∀i,S i->i<N)(hstep:∀i,S i->∃k∈B i,S k){i0:Nat}(h0:S i0):∃j,S j/\Way B j j:=by
 classical
 refine Ma fun hno=>?_
 have hno:∀j,S j->¬Way B j j:=fun j hj hw=>hno ⟨j,hj,hw⟩
 -- chains of whatever length,without repetition
 have chain:∀n:Nat,∃l:List Nat,l.length=n+1/\l.Nodup/\(∀i∈l,S i)/\∃x r,l=x::r/\∀i∈r,Way B i x:=by
  intro n
  induction n with
  |zero=>exact⟨[i0],rfl,zd,by simpa using h0,i0,[],rfl,zd⟩
  |succ n ih=>
   obtain⟨l,h1,h2,h3,x,r,rfl,h4⟩:=ih
   obtain⟨k,hk,hS⟩:=hstep x (h3 x zd)
   have hway:∀i∈x::r,Way B i k:=fun i hi=>by
    rcases MU.1 hi with rfl|hi
    ·exact .one hk
    ·exact(h4 i hi).trans (.one hk)
   refine⟨k::x::r,by simp at h1⊢;omega,L3.2 ⟨fun hm=>hno k hS (hway k hm),h2⟩,fun i hi=>?_,k,x::r,rfl,hway⟩
   rcases MU.1 hi with rfl|hi
   ·exact hS
   ·exact h3 i hi
 obtain⟨l,h1,h2,h3,_⟩:=chain N
 have:=ue N l h2 (fun i hi=>hlt i (h3 i hi))
 omega
theorem gk {B:Nat->List Nat}{N:Nat}{l:List Nat}(h:kZ B N l=none)(i:Nat)(hi:i<N):kF B l i=false:=by
 unfold kZ at h
 rw[L1]at h
 have:=h i (Md.2 hi)
 simpa using this
theorem jd {B:Nat->List Nat}{N:Nat}(hB:∀i,i<N->∀k∈B i,k<N)(h:(wP B N).length<N):∃j,j<N/\Way B j j:=by
 have hst:=mj h
 obtain⟨h1,h2,h3⟩:=rV B N
 generalize wP B N=l at*
 have hex:∃i,i<N/\i∉l:=by
  refine Ma fun hno=>?_
  have hall:∀i,i<N->i∈l:=fun i hi=>Ma fun hn=>hno ⟨i,hi,hn⟩
  have:=fA N l hall
  omega
 obtain⟨i0,hi0,hn0⟩:=hex
 obtain⟨j,hj,hw⟩:=dR (B:=B) (N:=N) (S:=fun i=>i<N/\i∉l) (fun i hi=>hi.1) (fun i hi=>by
  have hr:=gk hst i hi.1
  simp only[kF,Bool.and_eq_false_iff,Bool.not_eq_false',LK,List.all_eq_false]at hr
  rcases hr with hr|⟨k,hk,hr⟩
  ·exact absurd hr hi.2
  ·exact⟨k,hk,hB i hi.1 k hk,fun hm=>by simp[hm]at hr⟩) ⟨hi0,hn0⟩
 exact⟨j,hj.1,hw⟩
def vV (g:Nat->List Bool->Bool×List Bool)(from_:Nat):List Nat->List Bool->Bool×List Bool
 |[],s=>(false,s)
 |k::ks,s=>if k=from_ then(true,s)else if s.getD k false=true then vV g from_ ks s else
  match g k (s.set k true)with
  |(true,s')=>(true,s')
  |(false,s')=>vV g from_ ks s'
def ll (B:Nat->List Nat)(from_:Nat):Nat->Nat->List Bool->Bool×List Bool
 |0,_,s=>(false,s)
 |f+1,i,s=>vV (ll B from_ f) from_ (B i) s
def dQ (B:Nat->List Nat)(N from_:Nat):Bool:=(ll B from_ (N+1) from_ (List.replicate N false)).1
def oZ (s:List Bool):Nat:=(s.filter fun b=> !b).length
theorem pu:∀(s:List Bool) (k:Nat),k<s.length->s.getD k false=false->oZ (s.set k true)+1=oZ s
 |[],k,h,_=>by simp at h
 |b::s,0,_,hb=>by
  have:b=false:=by simpa using hb
  subst this
  simp[oZ]
 |b::s,k+1,h,hb=>by
  have:=pu s k (by simpa using h) (by simpa using hb)
  cases b<;>simp[oZ]at this⊢ <;>omega
def Grw (s s':List Bool):Prop:=s'.length=s.length/\∀k,s.getD k false=true->s'.getD k false=true
theorem qY (s:List Bool):Grw s s:=⟨rfl,fun _ h=>h⟩
theorem Grw.trans {a b c:List Bool}(h:Grw a b)(k:Grw b c):Grw a c:=⟨k.1.trans h.1,fun i hi=>k.2 i (h.2 i hi)⟩
theorem v6 {s:List Bool}{k:Nat}(j:Nat)(h:k<s.length):(s.set k true).getD j false=if k=j then true else s.getD j false:=by
 simp only[Nl,LI]
 by_cases hj:k=j
 ·subst hj;simp[h]
 ·simp[hj]
theorem Grw.set {s:List Bool}{k:Nat}(h:k<s.length):Grw s (s.set k true):=⟨zd,fun j hj=>by rw[v6 j h];split<;>simp_all⟩
theorem jA {s s':List Bool}(h:Grw s s'):oZ s'<=oZ s:=by
 obtain⟨h1,h2⟩:=h
 induction s generalizing s' with
 |nil=>simp at h1;subst h1;exact MP _
 |cons b s ih=>
  cases s' with
  |nil=>simp at h1
  |cons b' s'=>
   have h3:=ih (s':=s') (by simpa using h1) (fun k hk=>by simpa using h2 (k+1) (by simpa using hk))
   have h4:=h2 0
   cases b<;>cases b'<;>simp[oZ]at* <;>omega
def Cls (B:Nat->List Nat)(from_:Nat)(s s':List Bool):Prop:=∀j,s.getD j false=false->s'.getD j false=true->∀k∈B j,k≠from_/\s'.getD k false=true
theorem Cls.trans {B:Nat->List Nat}{f:Nat}{a b c:List Bool}(h:Cls B f a b)(k:Cls B f b c)(hg:Grw b c):Cls B f a c:=fun j h1 h2 x hx=>by
 cases hb:b.getD j false with
 |false=>exact k j hb h2 x hx
 |true=>
  obtain⟨q1,q2⟩:=h j h1 hb x hx
  exact⟨q1,hg.2 x q2⟩
theorem uJ {N from_:Nat}{g:Nat->List Bool->Bool×List Bool}(hg:∀i s,i<N->s.length=N->Grw s (g i s).2):∀(ks:List Nat) (s:List Bool),(∀k∈ks,k<N)->s.length=N->Grw s (vV g from_ ks s).2
 |[],s,_,_=>qY s
 |k::ks,s,hk,hs=>by
  unfold vV
  split
  ·exact qY s
  ·split
   ·exact uJ hg ks s (fun x hx=>hk x (by simp[hx])) hs
   ·have hkN:=hk k zd
    have h1:Grw s (s.set k true):=Grw.set zA
    have h2:=hg k (s.set k true) hkN (by simpa using hs)
    cases hq:g k (s.set k true)with
    |mk b s'=>
     rw[hq]at h2
     cases b
     ·exact(h1.trans h2).trans (uJ hg ks s' (fun x hx=>hk x (by simp[hx])) (by rw[(h1.trans h2).1,hs]))
     ·exact h1.trans h2
theorem pT {B:Nat->List Nat}{N from_:Nat}(hB:∀i,i<N->∀k∈B i,k<N):∀(f i:Nat) (s:List Bool),i<N->s.length=N->Grw s (ll B from_ f i s).2
 |0,i,s,_,_=>qY s
 |f+1,i,s,hi,hs=>uJ (fun i s hi hs=>pT hB f i s hi hs) (B i) s (hB i hi) hs
theorem ri {B:Nat->List Nat}{N from_:Nat}{g:Nat->List Bool->Bool×List Bool}{F:Nat}(hg:∀i s,i<N->s.length=N->Grw s (g i s).2)
  (hc:∀i s,i<N->s.length=N->oZ s<F->(g i s).1=false->Cls B from_ s (g i s).2/\∀k∈B i,k≠from_/\(g i s).2.getD k false=true):
  ∀(ks:List Nat) (s:List Bool),(∀k∈ks,k<N)->s.length=N->oZ s<F+1->(vV g from_ ks s).1=false->Cls B from_ s (vV g from_ ks s).2/\∀k∈ks,k≠from_/\(vV g from_ ks s).2.getD k false=true
 |[],s,_,_,_,_=>⟨fun j h1 h2=>(by rw[show(vV g from_ [] s).2=s from rfl,h1]at h2;cases h2),zd⟩
 |k::ks,s,hk,hs,hf,h=>by
  have hkN:=hk k zd
  have hks:∀x∈ks,x<N:=fun x hx=>hk x (by simp[hx])
  unfold vV at h⊢
  split at h
  ·cases h
  ·rename_i hne
   rw[if_neg hne]
   split at h
   ·rename_i hm
    rw[if_pos hm]
    obtain⟨c1,c2⟩:=ri hg hc ks s hks hs hf h
    refine⟨c1,fun x hx=>?_⟩
    rcases MU.1 hx with rfl|hx
    ·exact⟨hne,(uJ hg ks s hks hs).2 _ hm⟩
    ·exact c2 x hx
   ·rename_i hm
    rw[if_neg hm]
    have hm:s.getD k false=false:=by simpa using hm
    have hlt:k<s.length:=zA
    have g1:Grw s (s.set k true):=Grw.set hlt
    have g2:=hg k (s.set k true) hkN (by simpa using hs)
    have e1:=pu s k hlt hm
    have hcc:=hc k (s.set k true) hkN (by simpa using hs) zA
    cases hq:g k (s.set k true)with
    |mk b s'=>
     rw[hq]at h g2 hcc
     cases b with
     |true=>simp at h
     |false=>
      simp only at h g2 hcc⊢
      obtain⟨c1,c2⟩:=hcc trivial
      have hs':s'.length=N:=by rw[(g1.trans g2).1,hs]
      have hf':oZ s'<F+1:=by have:=jA g2;omega
      obtain⟨d1,d2⟩:=ri hg hc ks s' hks hs' hf' h
      have g3:=uJ (from_:=from_) hg ks s' hks hs'
      have hks':s'.getD k false=true:=g2.2 k (by rw[v6 k hlt,if_pos rfl])
      refine⟨fun j j1 j2 x hx=>?_,fun x hx=>?_⟩
      ·cases hj:(s.set k true).getD j false with
       |false=>exact(c1.trans d1 g3) j hj j2 x hx
       |true=>
        rw[v6 j hlt]at hj
        split at hj
        ·rename_i hkj
         subst hkj
         obtain⟨q1,q2⟩:=c2 x hx
         exact⟨q1,g3.2 x q2⟩
        ·rw[j1]at hj;cases hj
      ·rcases MU.1 hx with rfl|hx
       ·exact⟨hne,g3.2 _ hks'⟩
       ·exact d2 x hx
theorem lk {B:Nat->List Nat}{N from_:Nat}(hB:∀i,i<N->∀k∈B i,k<N):∀(f i:Nat) (s:List Bool),i<N->s.length=N->oZ s<f->(ll B from_ f i s).1=false->
  Cls B from_ s (ll B from_ f i s).2/\∀k∈B i,k≠from_/\(ll B from_ f i s).2.getD k false=true
 |0,i,s,_,_,hf,_=>by omega
 |f+1,i,s,hi,hs,hf,h=>ri (fun i s hi hs=>pT hB f i s hi hs) (fun i s hi hs hf h=>lk hB f i s hi hs hf h) (B i) s (hB i hi) hs zA h
theorem rh {B:Nat->List Nat}{from_ i:Nat}{g:Nat->List Bool->Bool×List Bool}(hg:∀k s,(g k s).1=true->Way B k from_):∀(ks:List Nat) (s:List Bool),(∀k∈ks,k∈B i)->(vV g from_ ks s).1=true->Way B i from_
 |[],s,_,h=>by cases h
 |k::ks,s,hk,h=>by
  unfold vV at h
  split at h
  ·rename_i hh;rw[<-hh];exact .one (hk k zd)
  ·split at h
   ·exact rh hg ks s (fun x hx=>hk x (by simp[hx])) h
   ·have hgk:=hg k (s.set k true)
    cases hq:g k (s.set k true)with
    |mk b s'=>
     rw[hq]at h hgk
     cases b
     ·exact rh hg ks s' (fun x hx=>hk x (by simp[hx])) h
     ·exact .more (hk k zd) (hgk rfl)
theorem lj {B:Nat->List Nat}{from_:Nat}:∀(f i:Nat) (s:List Bool),(ll B from_ f i s).1=true->Way B i from_
 |0,i,s,h=>by cases h
 |f+1,i,s,h=>rh (fun k s hk=>lj f k s hk) (B i) s (fun _ h=>h) h
theorem kw (N:Nat):oZ (List.replicate N false)=N:=by simp[oZ,List.filter_replicate]
theorem dP {B:Nat->List Nat}{N from_:Nat}(hB:∀i,i<N->∀k∈B i,k<N)(hf:from_<N):dQ B N from_=true↔Way B from_ from_:=by
 constructor
 ·exact fun h=>lj _ _ _ h
 ·intro hw
  cases hq:dQ B N from_ with
  |true=>rfl
  |false=>
   obtain⟨c1,c2⟩:=lk hB (N+1) from_ (List.replicate N false) hf zd (by rw[kw];omega) hq
   generalize (ll B from_ (N+1) from_ (List.replicate N false)).2=s' at*
   have h0:∀j,(List.replicate N false).getD j false=false:=fun j=>by
    rw[Nl,LO];split<;>rfl
   have key:∀i k,Way B i k->k=from_->(i=from_\/s'.getD i false=true)->False:=by
    intro i k hik
    induction hik with
    |one hk=>
     intro hkf hi
     rcases hi with rfl|hi
     ·exact(c2 _ hk).1 hkf
     ·exact(c1 _ (h0 _) hi _ hk).1 hkf
    |more hk _ ih=>
     intro hkf hi
     rcases hi with rfl|hi
     ·exact ih hkf (.inr (c2 _ hk).2)
     ·exact ih hkf (.inr (c1 _ (h0 _) hi _ hk).2)
   exact(key _ _ hw rfl (.inl rfl)).elim
def pm (B:Nat->List Nat)(N:Nat):Option Nat:=if (wP B N).length=N then none else(List.range N).find? (dQ B N)
theorem jh {B:Nat->List Nat}{N:Nat}(hB:∀i,i<N->∀k∈B i,k<N):pm B N=none↔(wP B N).length=N:=by
 unfold pm
 constructor
 ·intro h
  split at h
  ·assumption
  ·rename_i hne
   obtain⟨j,hj,hw⟩:=jd hB (Nat.lt_of_le_of_ne (gb B N) hne)
   rw[L1]at h
   exact absurd ((dP hB hj).2 hw) (h j (Md.2 hj))
 ·intro h
  rw[if_pos h]
open Vg Tf
def Z4:Ft:=⟨0,false,0,0,0,0,0,0,0,0⟩
def bv:CuL:=⟨⟨[],[],[]⟩,⟨none,0⟩,⟨none,0⟩⟩
def ZK:MpL:=⟨[],[],[],[],⟨none,0⟩,⟨none,0⟩,⟨none,0⟩⟩
def c9 (l:List Td)(s:Str):Option Ft:=(l.find? (fun t=>t.nm==s)).map (·.ty)
def yH (l:List Td)(s:Str):Ft:=(c9 l s).getD Z4
def lP (l:List CuL)(s:Str):Option CuL:=l.find? (fun c=>c.c.nm==s)
def kh (l:List MpL)(s:Str):Option MpL:=l.find? (fun c=>c.nm==s)
def wn (l:List Str)(s:Str):Nat:=(qH s l 0).getD 0
def ov (l:List Str)(s:Str):Bool:=(qH s l 0).isSome
@[reducible] def iW (c:CuL):List Cv:=[.v (.slice c.x.o c.c.xs.length c.x.c),.v (.slice c.y.o c.c.ys.length c.y.c)]
@[reducible] def ke (m:MpL):List Cv:=[.v (.slice m.x.o m.xs.length m.x.c),.v (.slice m.y.o m.ys.length m.y.c),.v (.slice m.z.o m.zs.length m.z.c)]
@[reducible] def xR (t:Ft):List Cv:=[.v (.int .i64 t.bits),.v (.bool t.signed),.v (.int .i64 t.num),.v (.int .i64 t.off),.v (.int .i64 t.den),.v (.int .i64 t.m),.v (.int .i64 t.kg),.v (.int .i64 t.s),.v (.int .i64 t.a),.v (.int .i64 t.k)]
section
variable {C:Cx} {o:Oper} {e:Env} {M:Mem} {m x:Operand} {b:Nat} {s:Str}
theorem P0 {l:List Str}(hb:MpB C.hp b (tF l 0))(ho:o.op= .lookup 141 m x true)(hm:rd e m=some (true,.c (.v (.map (some b)))))(hx:rd e x=some (true,S s)):StpC KI C.S C.w0 o e M (.tup [Wi (wn l s),aD (ov l s)]) []:=
 StpC.lookup ho rfl rfl hm hx hb (fun β=>by
  rw[sW];unfold wn ov
  cases qH s l 0<;>rfl)
theorem dS {l:List Str}(hb:MpB C.hp b (tF l 0))(ho:o.op= .lookup 141 m x false)(hm:rd e m=some (true,.c (.v (.map (some b)))))(hx:rd e x=some (true,S s)):StpC KI C.S C.w0 o e M (I (wn l s)) []:=
 StpC.lookup ho rfl rfl hm hx hb (fun β=>by
  rw[sW];unfold wn
  cases qH s l 0<;>rfl)
theorem PZ {l:List Td}(hb:MpB C.hp b (yd iy l))(ho:o.op= .lookup 187 m x true)(hm:rd e m=some (true,.c (.v (.map (some b)))))(hx:rd e x=some (true,S s)):StpC KI C.S C.w0 o e M (.tup [.agg (xR (yH l s)),aD (c9 l s).isSome]) []:=
 StpC.lookup ho rfl rfl hm hx hb (fun β=>by
  rw[xd];unfold yH c9
  show _=(if true=true then _ else _)
  have:(fun x:Td=>(iy x).1==s)=fun t=>t.nm==s:=rfl
  rw[this]
  cases l.find? (fun t=>t.nm==s)<;>rfl)
theorem xf {l:List Td}(hb:MpB C.hp b (yd iy l))(ho:o.op= .lookup 187 m x false)(hm:rd e m=some (true,.c (.v (.map (some b)))))(hx:rd e x=some (true,S s)):StpC KI C.S C.w0 o e M (.agg (xR (yH l s))) []:=
 StpC.lookup ho rfl rfl hm hx hb (fun β=>by
  rw[xd];unfold yH c9
  have:(fun x:Td=>(iy x).1==s)=fun t=>t.nm==s:=rfl
  rw[this]
  cases l.find? (fun t=>t.nm==s)<;>rfl)
theorem Oc {l:List CuL}(hb:MpB C.hp b (yd fc l))(ho:o.op= .lookup 188 m x true)(hm:rd e m=some (true,.c (.v (.map (some b)))))(hx:rd e x=some (true,S s)):StpC KI C.S C.w0 o e M (.tup [.agg (iW ((lP l s).getD bv)),aD (lP l s).isSome]) []:=
 StpC.lookup ho rfl rfl hm hx hb (fun β=>by
  rw[xd];unfold lP
  have:(fun x:CuL=>(fc x).1==s)=fun t=>t.c.nm==s:=rfl
  rw[this]
  cases l.find? (fun t=>t.c.nm==s)<;>rfl)
theorem SW {l:List CuL}(hb:MpB C.hp b (yd fc l))(ho:o.op= .lookup 188 m x false)(hm:rd e m=some (true,.c (.v (.map (some b)))))(hx:rd e x=some (true,S s)):StpC KI C.S C.w0 o e M (.agg (iW ((lP l s).getD bv))) []:=
 StpC.lookup ho rfl rfl hm hx hb (fun β=>by
  rw[xd];unfold lP
  have:(fun x:CuL=>(fc x).1==s)=fun t=>t.c.nm==s:=rfl
  rw[this]
  cases l.find? (fun t=>t.c.nm==s)<;>rfl)
theorem Ob {l:List MpL}(hb:MpB C.hp b (yd eG l))(ho:o.op= .lookup 189 m x true)(hm:rd e m=some (true,.c (.v (.map (some b)))))(hx:rd e x=some (true,S s)):StpC KI C.S C.w0 o e M (.tup [.agg (ke ((kh l s).getD ZK)),aD (kh l s).isSome]) []:=
 StpC.lookup ho rfl rfl hm hx hb (fun β=>by
  rw[xd];unfold kh
  have:(fun x:MpL=>(eG x).1==s)=fun t=>t.nm==s:=rfl
  rw[this]
  cases l.find? (fun t=>t.nm==s)<;>rfl)
theorem SV {l:List MpL}(hb:MpB C.hp b (yd eG l))(ho:o.op= .lookup 189 m x false)(hm:rd e m=some (true,.c (.v (.map (some b)))))(hx:rd e x=some (true,S s)):StpC KI C.S C.w0 o e M (.agg (ke ((kh l s).getD ZK))) []:=
 StpC.lookup ho rfl rfl hm hx hb (fun β=>by
  rw[xd];unfold kh
  have:(fun x:MpL=>(eG x).1==s)=fun t=>t.nm==s:=rfl
  rw[this]
  cases l.find? (fun t=>t.nm==s)<;>rfl)
end
structure Ck (H:Hp) (cp:Value) (d:DgL) (bT bC bM bS:Nat):Prop where
 o:d.ok H
 s:d.sm
 n1:d.ins.length<=1000000
 n2:d.bls.length<=1000000
 c:ChkOk H cp d bT bC bM bS
theorem ChkOk.mono {H H':Hp}(h:H.le H'){cp:Value}{d:DgL}{bT bC bM bS:Nat}(k:ChkOk H cp d bT bC bM bS):ChkOk H' cp d bT bC bM bS:=⟨k.p.mono h,k.t.mono h,k.c.mono h,k.m.mono h,k.s.mono h⟩
theorem Ck.mono {H H':Hp}(h:H.le H'){cp:Value}{d:DgL}{bT bC bM bS:Nat}(k:Ck H cp d bT bC bM bS):Ck H' cp d bT bC bM bS:=⟨k.o.mono h,k.s,k.n1,k.n2,k.c.mono h⟩
@[reducible] def Zq (bT bC bM bS:Nat):List Value:=[Value.map (some bT),Value.map (some bC),Value.map (some bM),Value.map (some bS)]
def s9 (l:List Str)(ins:List Str):Option Str:=ins.find? (fun s=> !ov l s)
theorem iG (l:List Str)(s:Str)(r:List Str):s9 l (s::r)=bif ov l s then s9 l r else some s:=by
 rw[s9,List.find?_cons]
 cases ov l s<;>rfl
@[reducible] def TV (r:Option Str):V:= .tup [Ws (r.getD []),aD r.isSome]
theorem iF {H:Hp}{cp:Value}{d:DgL}{bT bC bM bS:Nat}(k:Ck H cp d bT bC bM bS)(b:BlL)(hb:b.ok H)(hl:b.c.ins.length<=1000000000000000):
  CallH H KI 204 [.c (.v cp),ze b.r] (TV (s9 (zW d.c) b.c.ins)):=by
 refine kH Tryz.func204 VE Tryz.ntmps204 fun C hR hP hH hL=>?_
 refine z3 1 191 0 (k.c.p.mono hH) rfl rfl (zB 100 ?_)
 refine vv ?_
 refine Sm.bringS 2 9 11 (hb.i.mono hH) rfl rfl ?_
 refine zL (M0:=[]) (α:={i:Nat//i<=b.c.ins.length/\s9 (zW d.c) b.c.ins=s9 (zW d.c) (b.c.ins.drop i)}) hP (fun i=>[(0,true,.c (.p 1 0)),(11,true,.c (.sl 2 0 b.c.ins.length 1)),(12,true,I b.c.ins.length),(13,true,I i.val)])
  (fun _=>[(1,⟨true,(d.r++Zq bT bC bM bS).map .v,191⟩),(2,⟨true,b.c.ins.map sC,9⟩)]) (fun i=>b.c.ins.length-i.val) ⟨0,zA,rfl⟩ (fun _=>zD (by simp only[Nj,zZ (mK _),zZ (y7 _)];rfl)) (fun _=>zP rfl) [(1,1),(2,2)] ?_ ?_
 ·exact zk
 ·rintro⟨i,hi,hx⟩ J hj
  simp only at hj hi hx⊢
  refine zB 120 (vv ?_)
  refine zY (fun hc=>?_) (fun hc=>?_)
  ·have hc:=zI hc
   rw[Np hc,iG]at hx
   simp only[go_sem,vN hc]
   refine⟨⟨zA,zA⟩,?_⟩
   generalize b.c.ins[i]=s at*
   refine z6 130 rfl rfl (.inl rfl) (fun _=>P0 (k.c.s.mono hH) rfl rfl rfl) (vv ?_)
   cases hs:ov (zW d.c) s with
   |false=>
    rw[hs,cond_false]at hx
    refine vv ?_
    rw[hx]at hR
    exact yM (hR C hL) ClM.nil
   |true=>
    rw[hs,cond_true]at hx
    simp only[go_sem,yt (i:=i)]
    exact hj _ _ ⟨i+1,hc,hx⟩ [(1,1),(2,2)] yK zk
  ·have hc:=zJ hi hc
   rw[hc,Ny]at hx
   rw[hx]at hR
   exact yM (hR C hL) ClM.nil
def sY:List Str->List Str->Option Str
 |_,[]=>none
 |seen,s::r=>bif seen.contains s then some s else sY (s::seen) r
def gD (s:Str):Str×Value:=(s,.bool true)
theorem gA (s:Str)(l:List Str):(wV (yd gD l) ⟨s.toArray⟩).getD (.bool false)= .bool (l.contains s):=by
 rw[xd]
 have:(fun x:Str=>(gD x).1==s)=fun x=>x==s:=rfl
 rw[this]
 cases hq:l.find? (fun x=>x==s)with
 |none=>
  have:l.contains s=false:=by
   rw[Mu]
   intro h
   rw[LK]at h
   rw[L1]at hq
   exact hq s h zd
  rw[this];rfl
 |some y=>
  have h1:=List.find?_some hq
  have h2:=LS hq
  have h3:y=s:=by simpa using h1
  subst h3
  have:l.contains y=true:=LK.2 h2
  rw[this];rfl
theorem YB {H:Hp}(l:List Str)(hl:l.length<=1000000000000000):CallX H KI 202 [.c (.sl 1 0 l.length 1)] [eL 1 l] (fun _:Unit=>TV (sY [] l)) (fun _=>[]) (fun _ _=>True):=by
 refine kX Tryz.func202 VG Tryz.ntmps202 fun C hR hP hH hL=>?_
 have hR:=hR ()
 have hM:ClM [eL 1 l]:=ClM.v (by simp only[Nj,y7];rfl)
 refine zB 100 (vv ?_)
 refine Sm.makeMap hL rfl rfl rfl (fun b C1 l1 k1 f1 f1' m1=>?_)
 refine zB 110 (vv ?_)
 refine xX (C:=C) (Ck:=C1) (M0:=[eL 1 l]) (α:={i:Nat//i<=l.length/\sY [] l=sY (l.take i).reverse (l.drop i)}) l1 hP (fun i=>[(4,true,.c (.v (.map (some b)))),(8,true,.c (.sl 1 0 l.length 1)),(9,true,I l.length),(10,true,I i.val)])
  (fun _=>[eL 1 l]) (fun i hp=>MpB hp b (yd gD (l.take i.val).reverse)) (fun i=>l.length-i.val) ⟨0,zA,rfl⟩ m1 (fun _=>hM) (fun _=>zP rfl) [(1,1)] zk ?_
 rintro⟨i,hi,hx⟩ Cn J ln iT hb
 simp only at hb hi hx iT⊢
 refine zB 120 (vv ?_)
 refine zY (fun hc=>?_) (fun hc=>?_)
 ·have hc:=zI hc
  have htk:(l.take (i+1)).reverse=l[i]::(l.take i).reverse:=by rw[MF hc,List.reverse_append];rfl
  rw[Np hc,sY]at hx
  simp only[go_sem,vN hc]
  refine⟨⟨zA,zA⟩,?_⟩
  generalize l[i]=s at*
  refine z6 130 rfl rfl (.inl rfl) (fun _=>StpC.lookup (v:=Bo ((l.take i).reverse.contains s)) rfl rfl rfl rfl rfl iT (fun β=>(gA s _).symm)) (vv ?_)
  refine zY (fun hd=>?_) (fun hd=>?_)
  ·rw[hd,cond_true]at hx
   rw[hx]at hR
   exact yM (hR Cn ln trivial) hM
  ·rw[hd,cond_false,<-htk]at hx
   refine zB 130 (vv ?_)
   refine vc (u:= .bool true) ln rfl rfl rfl rfl rfl rfl rfl (fun _=>rfl) iT f1 (fun Cu lu ku mu=>?_)
   refine zB 140 ?_
   simp only[go_sem,yt (i:=i)]
   exact hb _ _ Cu ⟨i+1,hc,hx⟩ [(1,1)] lu (by simp only;rw[htk];exact mu) yK zk
 ·have hc:=zJ hi hc
  rw[hc,Ny]at hx
  have hx:sY [] l=none:=hx
  rw[hx]at hR
  exact yM (hR Cn ln trivial) hM
open Vg Tf
def nh:Str:=[100,101,108,97,121]
def vM (l:List Str)(n:Nat)(s:Str):List Nat:=if n<=wn l s then[wn l s-n]else[]
def qn (l:List Str)(n:Nat)(b:Bl):List Nat:=if b.kd==nh then[]else b.ins.flatMap (vM l n)
def xF (d:Dg)(i:Nat):List Nat:=match d.bls[i]? with
 |some b=>qn (zW d) d.ins.length b
 |none=>[]
theorem td (s:Str):∀(l:List Str) (k i:Nat),qH s l k=some i->i<k+l.length
 |[],_,_,h=>by cases h
 |x::l,k,i,h=>by
  unfold qH at h
  split at h
  ·cases h;simp
  ·have:=td s l (k+1) i h
   simp;omega
theorem af (l:List Str)(s:Str):wn l s<=l.length:=by
 unfold wn
 cases h:qH s l 0 with
 |none=>simp
 |some i=>have:=td s l 0 i h;simp;omega
@[reducible] def nC (n:Nat):Cv:= .v (.int .i64 (n:Int))
@[reducible] def Uw (nm:Nat)(l:List Nat):Nat×Bk:=(nm,⟨false,l.map nC,3⟩)
theorem xO (l:List Nat):(l.map nC).all Cv.isV=true:=by simp[Cv.isV]
theorem lL {l:List Nat}{i:Nat}(h:i<l.length):(l.map nC)[i]?=some (nC l[i]):=by simp[h]
theorem vX (d:DgL):(zW d.c).length=d.ins.length+d.bls.length:=by simp[zW,DgL.c]
theorem tv {d:DgL}{i:Nat}(h:i<d.bls.length):xF d.c i=qn (zW d.c) d.ins.length d.bls[i].c:=by
 unfold xF
 have:d.c.bls[i]?=some d.bls[i].c:=by simp[DgL.c,h]
 rw[this];rfl
theorem jN {H:Hp}{cp:Value}{d:DgL}{bT bC bM bS:Nat}(k:Ck H cp d bT bC bM bS)(i:Nat)(hi:i<d.bls.length)(hl:d.bls[i].c.ins.length<=1000000):
  CallX H KI 122 [.c (.v cp),I i] [] (fun _:Unit=> .c (.sl 1 0 (xF d.c i).length 1)) (fun _=>[Uw 1 (xF d.c i)]) (fun _ _=>True):=by
 have hn1:=k.n1
 have hn2:=k.n2
 have hsl:=vX d
 have hbo:=k.o.bls d.bls[i] (Nv hi)
 rw[tv hi]
 have htk:=zX (r:=BlL.r) (k:=6) (fun _=>rfl) d.bls i hi
 have hsz:=zS (r:=BlL.r) (k:=6) (fun _=>rfl) d.bls
 generalize hbb:d.bls[i]=b at*
 refine kX Tryz.func122 UG Tryz.ntmps122 fun C hR hP hH hL=>?_
 have hR:=hR () C hL trivial
 refine z3 1 191 0 (k.c.p.mono hH) rfl rfl (zB 100 ?_)
 refine vv ?_
 refine Sm.bringR 2 64 14 (k.o.bl.mono hH) rfl rfl ?_
 have hl2:(d.bls.map BlL.r).length=d.bls.length:=Ni _
 rw[hl2]
 refine zB 110 ?_
 simp only[go_sem,htk,hsz]
 refine⟨⟨zA,zA⟩,zA,?_⟩
 refine zY (fun hd=>?_) (fun hd=>?_)
 ·have hd:(b.c.kd==nh)=true:=hd
  have hne:qn (zW d.c) d.ins.length b.c=[]:=by rw[qn,hd];rfl
  rw[hne]at hR
  refine ym 140 1 3 [4] [] rfl (vv ?_)
  exact RetQ.ren [(1,140)] hR hP rfl y6 rfl rfl trivial ⟨oR,trivial⟩ (zD rfl) (zH rfl)
 ·have hd:(b.c.kd==nh)=false:=hd
  have hne:qn (zW d.c) d.ins.length b.c=b.c.ins.flatMap (vM (zW d.c) d.ins.length):=by rw[qn,hd];rfl
  rw[hne]at hR
  refine Sm.bringS 3 9 22 (hbo.i.mono hH) rfl rfl ?_
  refine xN 140 1 3 [6] [] rfl (vv ?_)
  generalize hL':zW d.c=L' at*
  have hnl:∀i,((b.c.ins.take i).flatMap (vM L' d.ins.length)).length<=i:=fun i=>by
   rw[List.length_flatMap]
   have:∀l:List Str,(l.map fun s=>(vM L' d.ins.length s).length).sum<=l.length:=fun l=>by
    induction l with
    |nil=>simp
    |cons s l ih=>
     rw[Nk,List.sum_cons,MG]
     have:(vM L' d.ins.length s).length<=1:=by unfold vM;split<;>simp
     omega
   exact LJ (this _) (by rw[LW];omega)
  refine zL (M0:=[]) (α:={i:Nat//i<=b.c.ins.length}) hP (fun i=>[(0,true,.c (.p 1 0)),(6,true,.c (.sl 6 0 ((b.c.ins.take i.val).flatMap (vM L' d.ins.length)).length 1)),(22,true,.c (.sl 3 0 b.c.ins.length 1)),(23,true,I b.c.ins.length),(24,true,I i.val)])
   (fun i=>[(1,⟨true,(d.r++Zq bT bC bM bS).map .v,191⟩),(3,⟨true,b.c.ins.map sC,9⟩),Uw 6 ((b.c.ins.take i.val).flatMap (vM L' d.ins.length))]) (fun i=>b.c.ins.length-i.val) ⟨0,zA⟩ (fun _=>zD (by simp only[Nj,zZ (mK _),zZ (y7 _),zZ (xO _)];rfl)) (fun _=>zP rfl) [(1,1),(3,3),(6,140)] ?_ ?_
  ·exact zk
  ·rintro⟨i,hi⟩ J hj
   simp only at hj hi⊢
   refine zB 150 (vv ?_)
   refine zY (fun hc=>?_) (fun hc=>?_)
   ·have hc:=zI hc
    have htk:(b.c.ins.take (i+1)).flatMap (vM L' d.ins.length)=(b.c.ins.take i).flatMap (vM L' d.ins.length)++vM L' d.ins.length b.c.ins[i]:=by
     rw[MF hc,List.flatMap_append];simp
    simp only[go_sem,vN hc]
    refine⟨⟨zA,zA⟩,?_⟩
    have hsl:=af L' b.c.ins[i]
    generalize b.c.ins[i]=s at*
    refine Sm.dg 160 12 zw (vv ?_)
    refine zF 170 (fun _=>dS (by have:=k.c.s.mono hH;rw[hL']at this;exact this) rfl rfl rfl) ?_
    have w3:IntKind.i64.wrap ((wn L' s:Int)-(d.ins.length:Int))=(wn L' s:Int)-(d.ins.length:Int):=by rw[y8 zA zA]
    simp only[go_sem,w3]
    have hq:=hnl i
    generalize hout:(b.c.ins.take i).flatMap (vM L' d.ins.length)=out at*
    by_cases hge:d.ins.length<=wn L' s
    ·have e2:decide ((0:Int)<=(wn L' s:Int)-(d.ins.length:Int))=true:=yQ zA
     have e3:vM L' d.ins.length s=[wn L' s-d.ins.length]:=by unfold vM;rw[if_pos hge]
     have e4:(wn L' s:Int)-(d.ins.length:Int)=((wn L' s-d.ins.length:Nat):Int):=zA
     rw[e3]at htk
     have hlen:(out.map nC).length=out.length:=Ni _
     have hap:List.take out.length (out.map nC)++[nC (wn L' s-d.ins.length)]=(out++[wn L' s-d.ins.length]).map nC:=by
      rw[Nw zA,ME];rfl
     simp only[go_sem,e2,e4,hap,hlen,yt (i:=i)]
     refine⟨⟨zA,zA,zA⟩,?_⟩
     refine hj _ _ ⟨i+1,hc⟩ [(1,1),(3,3),(6,171)] yK ?_
     simp only[htk,MB,MG,MW]
     exact zk
    ·have e2:decide ((0:Int)<=(wn L' s:Int)-(d.ins.length:Int))=false:=yZ zA
     have e3:vM L' d.ins.length s=[]:=by unfold vM;rw[if_neg hge]
     rw[e3,Nx]at htk
     simp only[go_sem,e2,yt (i:=i)]
     refine hj _ _ ⟨i+1,hc⟩ [(1,1),(3,3),(6,6)] yK ?_
     simp only[htk]
     exact zk
   ·have hc:=zJ hi hc
    subst hc
    rw[MS]
    exact RetQ.ren [(1,6)] hR hP rfl y6 rfl rfl trivial ⟨oV (zf (xO _)),trivial⟩ (zD (by simp only[Nt,Nu,Nx,Nj,zZ (xO _)];rfl)) (zH rfl)
end Go.Proofs.YtbnkiacicnnmkaaGreat.Fx
