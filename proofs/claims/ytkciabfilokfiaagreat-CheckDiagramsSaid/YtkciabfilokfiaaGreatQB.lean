/-  -/
import Derived.Test.YtkciabfilokfiaaGreatQ8
open Go.Proofs.Tryz
open Go.Proofs.Tryz renaming prog→Hf
set_option linter.unusedVariables false
set_option linter.unusedSimpArgs false
set_option maxRecDepth 100000
set_option maxHeartbeats 4000000
namespace Go.Proofs.YtkciabfilokfiaaGreat.Fx
def ka (B:Nat->List Nat)(l:List Nat)(i:Nat):Bool:= !l.contains i&&(B i).all fun k=>l.contains k
def iz (B:Nat->List Nat)(N:Nat)(l:List Nat):Option Nat:=(List.range N).find? (ka B l)
def vW (B:Nat->List Nat)(N:Nat):Nat->List Nat->List Nat
 |0,l=>l
 |r+1,l=>match iz B N l with
  |some i=>vW B N r (l++[i])
  |none=>l
def xR (B:Nat->List Nat)(N:Nat):List Nat:=vW B N N []
def OrdOk (B:Nat->List Nat)(N:Nat)(l:List Nat):Prop:=l.Nodup/\(∀i∈l,i<N)/\∀a i b,l=a++i::b->∀k∈B i,k∈a
theorem OrdOk.nil (B:Nat->List Nat)(N:Nat):OrdOk B N []:=⟨List.nodup_nil,zc,fun a i b h=>by simp at h⟩
theorem OrdOk.snoc {B:Nat->List Nat}{N:Nat}{l:List Nat}{i:Nat}(h:OrdOk B N l)(hi:i<N)(hr:ka B l i=true):OrdOk B N (l++[i]):=by
 obtain⟨h1,h2,h3⟩:=h
 simp only[ka,JG,Jr,JI,IA]at hr
 obtain⟨r1,r2⟩:=hr
 have r1:i∉l:=fun hh=>by rw[IA.2 hh]at r1;cases r1
 refine⟨?_,fun j hj=>?_,fun a j b hab k hk=>?_⟩
 ·rw[List.nodup_append]
  refine⟨h1,zc,fun a ha b hb=>?_⟩
  rw[ID]at hb
  rintro rfl
  exact r1 (hb▸ha)
 ·rw[I2,ID]at hj
  rcases hj with hj|rfl
  ·exact h2 j hj
  ·exact hi
 ·rcases List.eq_nil_or_concat b with rfl|⟨b',x,rfl⟩
  ·have:=List.append_inj_right' hab rfl
   simp at this
   subst this
   have hl:=List.append_inj_left' hab rfl
   rw[<-hl];exact r2 k hk
  ·have e:l++[i]=(a++j::b')++[x]:=by rw[hab];simp
   have hl:=List.append_inj_left' e rfl
   exact h3 a j b' hl k hk
theorem j8 {B:Nat->List Nat}{N:Nat}{l:List Nat}{i:Nat}(h:iz B N l=some i):i<N/\ka B l i=true:=by
 unfold iz at h
 have h1:=List.find?_some h
 have h2:=Jw h
 rw[Jj]at h2
 exact⟨h2,h1⟩
theorem j7 {B:Nat->List Nat}{N:Nat}:∀(r:Nat) (l:List Nat),OrdOk B N l->OrdOk B N (vW B N r l)
 |0,l,h=>h
 |r+1,l,h=>by
  unfold vW
  cases hn:iz B N l with
  |none=>exact h
  |some i=>
   obtain⟨h1,h2⟩:=j8 hn
   exact j7 r _ (h.snoc h1 h2)
theorem tR (B:Nat->List Nat)(N:Nat):OrdOk B N (xR B N):=j7 N [] (OrdOk.nil B N)
theorem pO {B:Nat->List Nat}{N:Nat}:∀(r:Nat) (l:List Nat),(vW B N r l).length<l.length+r->iz B N (vW B N r l)=none
 |0,l,h=>by simp[vW]at h
 |r+1,l,h=>by
  unfold vW at h⊢
  cases hn:iz B N l with
  |none=>simpa using hn
  |some i=>
   rw[hn]at h
   simp only at h⊢
   exact pO r _ (by rw[JN];simp;omega)
theorem iw {B:Nat->List Nat}{N:Nat}(h:(xR B N).length<N):iz B N (xR B N)=none:=pO N [] (by unfold xR at h;simpa using h)
theorem vJ:∀(N:Nat) (l:List Nat),l.Nodup->(∀i∈l,i<N)->l.length<=N
 |0,l,_,h=>by
  cases l with
  |nil=>simp
  |cons x l=>have:=h x zc;omega
 |N+1,l,hn,h=>by
  have h1:(l.erase N).length<=N:=by
   refine vJ N _ (hn.erase N) (fun i hi=>?_)
   have h2:=h i (List.mem_of_mem_erase hi)
   have h3:i≠N:=fun hh=>by subst hh;exact(hn.not_mem_erase) hi
   omega
  rw[List.length_erase]at h1
  split at h1<;>omega
theorem aB:∀(N:Nat) (l:List Nat),(∀i,i<N->i∈l)->N<=l.length
 |0,l,_=>I7 _
 |N+1,l,h=>by
  have h1:=aB N (l.erase N) (fun i hi=>(List.mem_erase_of_ne zA).2 (h i zA))
  rw[List.length_erase,if_pos (h N zA)]at h1
  have:l≠[]:=fun hh=>by have:=h N zA;rw[hh]at this;cases this
  have:=List.length_pos_iff.2 this
  omega
theorem oZ (B:Nat->List Nat)(N:Nat):(xR B N).length<=N:=vJ N _ (tR B N).1 (tR B N).2.1
theorem oh {N:Nat}{l:List Nat}(hn:l.Nodup)(h:∀i∈l,i<N)(hl:l.length=N):∀i,i<N->i∈l:=fun i hi=>by
 refine Jf fun hno=>?_
 have:=vJ N (i::l) (Ic.2 ⟨hno,hn⟩) (fun j hj=>by
  rcases JZ.1 hj with rfl|hj
  ·exact hi
  ·exact h j hj)
 simp at this;omega
inductive Way (B:Nat->List Nat):Nat->Nat->Prop
 |one {i k:Nat}:k∈B i->Way B i k
 |more {i k j:Nat}:k∈B i->Way B k j->Way B i j
theorem Way.trans {B:Nat->List Nat}{i j k:Nat}(h:Way B i j)(h2:Way B j k):Way B i k:=by
 induction h with
 |one hk=>exact .more hk h2
 |more hk _ ih=>exact .more hk (ih h2)
theorem YJ {B:Nat->List Nat}{N:Nat}{S:Nat->Prop}(hlt:∀i,S i->i<N)(hstep:∀i,S i->∃k∈B i,S k){i0:Nat}(h0:S i0):∃j,S j/\Way B j j:=by
 classical
 refine Jf fun hno=>?_
 have hno:∀j,S j->¬Way B j j:=fun j hj hw=>hno ⟨j,hj,hw⟩
 -- chains of whatever length,without repetition
 have chain:∀n:Nat,∃l:List Nat,l.length=n+1/\l.Nodup/\(∀i∈l,S i)/\∃x r,l=x::r/\∀i∈r,Way B i x:=by
  intro n
  induction n with
  |zero=>exact⟨[i0],rfl,zc,by simpa using h0,i0,[],rfl,zc⟩
  |succ n ih=>
   obtain⟨l,h1,h2,h3,x,r,rfl,h4⟩:=ih
   obtain⟨k,hk,hS⟩:=hstep x (h3 x zc)
   have hway:∀i∈x::r,Way B i k:=fun i hi=>by
    rcases JZ.1 hi with rfl|hi
    ·exact .one hk
    ·exact(h4 i hi).trans (.one hk)
   refine⟨k::x::r,by simp at h1⊢;omega,Ic.2 ⟨fun hm=>hno k hS (hway k hm),h2⟩,fun i hi=>?_,k,x::r,rfl,hway⟩
   rcases JZ.1 hi with rfl|hi
   ·exact hS
   ·exact h3 i hi
 obtain⟨l,h1,h2,h3,_⟩:=chain N
 have:=vJ N l h2 (fun i hi=>hlt i (h3 i hi))
 omega
theorem bV {B:Nat->List Nat}{N:Nat}{l:List Nat}(h:iz B N l=none)(i:Nat)(hi:i<N):ka B l i=false:=by
 unfold iz at h
 rw[Ia]at h
 have:=h i (Jj.2 hi)
 simpa using this
theorem dO {B:Nat->List Nat}{N:Nat}(hB:∀i,i<N->∀k∈B i,k<N)(h:(xR B N).length<N):∃j,j<N/\Way B j j:=by
 have hst:=iw h
 obtain⟨h1,h2,h3⟩:=tR B N
 generalize xR B N=l at*
 have hex:∃i,i<N/\i∉l:=by
  refine Jf fun hno=>?_
  have hall:∀i,i<N->i∈l:=fun i hi=>Jf fun hn=>hno ⟨i,hi,hn⟩
  have:=aB N l hall
  omega
 obtain⟨i0,hi0,hn0⟩:=hex
 obtain⟨j,hj,hw⟩:=YJ (B:=B) (N:=N) (S:=fun i=>i<N/\i∉l) (fun i hi=>hi.1) (fun i hi=>by
  have hr:=bV hst i hi.1
  simp only[ka,Bool.and_eq_false_iff,Bool.not_eq_false',IA,List.all_eq_false]at hr
  rcases hr with hr|⟨k,hk,hr⟩
  ·exact absurd hr hi.2
  ·exact⟨k,hk,hB i hi.1 k hk,fun hm=>by simp[hm]at hr⟩) ⟨hi0,hn0⟩
 exact⟨j,hj.1,hw⟩
def ut (g:Nat->List Bool->Bool×List Bool)(from_:Nat):List Nat->List Bool->Bool×List Bool
 |[],s=>(false,s)
 |k::ks,s=>if k=from_ then(true,s)else if s.getD k false=true then ut g from_ ks s else
  match g k (s.set k true)with
  |(true,s')=>(true,s')
  |(false,s')=>ut g from_ ks s'
def fL (B:Nat->List Nat)(from_:Nat):Nat->Nat->List Bool->Bool×List Bool
 |0,_,s=>(false,s)
 |f+1,i,s=>ut (fL B from_ f) from_ (B i) s
def gF (B:Nat->List Nat)(N from_:Nat):Bool:=(fL B from_ (N+1) from_ (List.replicate N false)).1
def oj (s:List Bool):Nat:=(s.filter fun b=> !b).length
theorem pn:∀(s:List Bool) (k:Nat),k<s.length->s.getD k false=false->oj (s.set k true)+1=oj s
 |[],k,h,_=>by simp at h
 |b::s,0,_,hb=>by
  have:b=false:=by simpa using hb
  subst this
  simp[oj]
 |b::s,k+1,h,hb=>by
  have:=pn s k (by simpa using h) (by simpa using hb)
  cases b<;>simp[oj]at this⊢ <;>omega
def Grw (s s':List Bool):Prop:=s'.length=s.length/\∀k,s.getD k false=true->s'.getD k false=true
theorem nP (s:List Bool):Grw s s:=⟨rfl,fun _ h=>h⟩
theorem Grw.trans {a b c:List Bool}(h:Grw a b)(k:Grw b c):Grw a c:=⟨k.1.trans h.1,fun i hi=>k.2 i (h.2 i hi)⟩
theorem uK {s:List Bool}{k:Nat}(j:Nat)(h:k<s.length):(s.set k true).getD j false=if k=j then true else s.getD j false:=by
 simp only[Kw,Ip]
 by_cases hj:k=j
 ·subst hj;simp[h]
 ·simp[hj]
theorem Grw.set {s:List Bool}{k:Nat}(h:k<s.length):Grw s (s.set k true):=⟨zc,fun j hj=>by rw[uK j h];split<;>simp_all⟩
theorem eL {s s':List Bool}(h:Grw s s'):oj s'<=oj s:=by
 obtain⟨h1,h2⟩:=h
 induction s generalizing s' with
 |nil=>simp at h1;subst h1;exact Jq _
 |cons b s ih=>
  cases s' with
  |nil=>simp at h1
  |cons b' s'=>
   have h3:=ih (s':=s') (by simpa using h1) (fun k hk=>by simpa using h2 (k+1) (by simpa using hk))
   have h4:=h2 0
   cases b<;>cases b'<;>simp[oj]at* <;>omega
def Cls (B:Nat->List Nat)(from_:Nat)(s s':List Bool):Prop:=∀j,s.getD j false=false->s'.getD j false=true->∀k∈B j,k≠from_/\s'.getD k false=true
theorem Cls.trans {B:Nat->List Nat}{f:Nat}{a b c:List Bool}(h:Cls B f a b)(k:Cls B f b c)(hg:Grw b c):Cls B f a c:=fun j h1 h2 x hx=>by
 cases hb:b.getD j false with
 |false=>exact k j hb h2 x hx
 |true=>
  obtain⟨q1,q2⟩:=h j h1 hb x hx
  exact⟨q1,hg.2 x q2⟩
theorem sA {N from_:Nat}{g:Nat->List Bool->Bool×List Bool}(hg:∀i s,i<N->s.length=N->Grw s (g i s).2):∀(ks:List Nat) (s:List Bool),(∀k∈ks,k<N)->s.length=N->Grw s (ut g from_ ks s).2
 |[],s,_,_=>nP s
 |k::ks,s,hk,hs=>by
  unfold ut
  split
  ·exact nP s
  ·split
   ·exact sA hg ks s (fun x hx=>hk x (by simp[hx])) hs
   ·have hkN:=hk k zc
    have h1:Grw s (s.set k true):=Grw.set zA
    have h2:=hg k (s.set k true) hkN (by simpa using hs)
    cases hq:g k (s.set k true)with
    |mk b s'=>
     rw[hq]at h2
     cases b
     ·exact(h1.trans h2).trans (sA hg ks s' (fun x hx=>hk x (by simp[hx])) (by rw[(h1.trans h2).1,hs]))
     ·exact h1.trans h2
theorem mr {B:Nat->List Nat}{N from_:Nat}(hB:∀i,i<N->∀k∈B i,k<N):∀(f i:Nat) (s:List Bool),i<N->s.length=N->Grw s (fL B from_ f i s).2
 |0,i,s,_,_=>nP s
 |f+1,i,s,hi,hs=>sA (fun i s hi hs=>mr hB f i s hi hs) (B i) s (hB i hi) hs
theorem oC {B:Nat->List Nat}{N from_:Nat}{g:Nat->List Bool->Bool×List Bool}{F:Nat}(hg:∀i s,i<N->s.length=N->Grw s (g i s).2)
  (hc:∀i s,i<N->s.length=N->oj s<F->(g i s).1=false->Cls B from_ s (g i s).2/\∀k∈B i,k≠from_/\(g i s).2.getD k false=true):
  ∀(ks:List Nat) (s:List Bool),(∀k∈ks,k<N)->s.length=N->oj s<F+1->(ut g from_ ks s).1=false->Cls B from_ s (ut g from_ ks s).2/\∀k∈ks,k≠from_/\(ut g from_ ks s).2.getD k false=true
 |[],s,_,_,_,_=>⟨fun j h1 h2=>(by rw[show(ut g from_ [] s).2=s from rfl,h1]at h2;cases h2),zc⟩
 |k::ks,s,hk,hs,hf,h=>by
  have hkN:=hk k zc
  have hks:∀x∈ks,x<N:=fun x hx=>hk x (by simp[hx])
  unfold ut at h⊢
  split at h
  ·cases h
  ·rename_i hne
   rw[if_neg hne]
   split at h
   ·rename_i hm
    rw[if_pos hm]
    obtain⟨c1,c2⟩:=oC hg hc ks s hks hs hf h
    refine⟨c1,fun x hx=>?_⟩
    rcases JZ.1 hx with rfl|hx
    ·exact⟨hne,(sA hg ks s hks hs).2 _ hm⟩
    ·exact c2 x hx
   ·rename_i hm
    rw[if_neg hm]
    have hm:s.getD k false=false:=by simpa using hm
    have hlt:k<s.length:=zA
    have g1:Grw s (s.set k true):=Grw.set hlt
    have g2:=hg k (s.set k true) hkN (by simpa using hs)
    have e1:=pn s k hlt hm
    have hcc:=hc k (s.set k true) hkN (by simpa using hs) zA
    cases hq:g k (s.set k true)with
    |mk b s'=>
     rw[hq]at h g2 hcc
     cases b with
     |true=>simp at h
     |false=>
      simp only at h g2 hcc⊢
      obtain⟨c1,c2⟩:=hcc trivial
      have hs':s'.length=N:=by rw[(g1.trans g2).1,hs]
      have hf':oj s'<F+1:=by have:=eL g2;omega
      obtain⟨d1,d2⟩:=oC hg hc ks s' hks hs' hf' h
      have g3:=sA (from_:=from_) hg ks s' hks hs'
      have hks':s'.getD k false=true:=g2.2 k (by rw[uK k hlt,if_pos rfl])
      refine⟨fun j j1 j2 x hx=>?_,fun x hx=>?_⟩
      ·cases hj:(s.set k true).getD j false with
       |false=>exact(c1.trans d1 g3) j hj j2 x hx
       |true=>
        rw[uK j hlt]at hj
        split at hj
        ·rename_i hkj
         subst hkj
         obtain⟨q1,q2⟩:=c2 x hx
         exact⟨q1,g3.2 x q2⟩
        ·rw[j1]at hj;cases hj
      ·rcases JZ.1 hx with rfl|hx
       ·exact⟨hne,g3.2 _ hks'⟩
       ·exact d2 x hx
theorem fK {B:Nat->List Nat}{N from_:Nat}(hB:∀i,i<N->∀k∈B i,k<N):∀(f i:Nat) (s:List Bool),i<N->s.length=N->oj s<f->(fL B from_ f i s).1=false->
  Cls B from_ s (fL B from_ f i s).2/\∀k∈B i,k≠from_/\(fL B from_ f i s).2.getD k false=true
 |0,i,s,_,_,hf,_=>by omega
 |f+1,i,s,hi,hs,hf,h=>oC (fun i s hi hs=>mr hB f i s hi hs) (fun i s hi hs hf h=>fK hB f i s hi hs hf h) (B i) s (hB i hi) hs zA h
theorem oB {B:Nat->List Nat}{from_ i:Nat}{g:Nat->List Bool->Bool×List Bool}(hg:∀k s,(g k s).1=true->Way B k from_):∀(ks:List Nat) (s:List Bool),(∀k∈ks,k∈B i)->(ut g from_ ks s).1=true->Way B i from_
 |[],s,_,h=>by cases h
 |k::ks,s,hk,h=>by
  unfold ut at h
  split at h
  ·rename_i hh;rw[<-hh];exact .one (hk k zc)
  ·split at h
   ·exact oB hg ks s (fun x hx=>hk x (by simp[hx])) h
   ·have hgk:=hg k (s.set k true)
    cases hq:g k (s.set k true)with
    |mk b s'=>
     rw[hq]at h hgk
     cases b
     ·exact oB hg ks s' (fun x hx=>hk x (by simp[hx])) h
     ·exact .more (hk k zc) (hgk rfl)
theorem fJ {B:Nat->List Nat}{from_:Nat}:∀(f i:Nat) (s:List Bool),(fL B from_ f i s).1=true->Way B i from_
 |0,i,s,h=>by cases h
 |f+1,i,s,h=>oB (fun k s hk=>fJ f k s hk) (B i) s (fun _ h=>h) h
theorem eK (N:Nat):oj (List.replicate N false)=N:=by simp[oj,List.filter_replicate]
theorem lS {B:Nat->List Nat}{N from_:Nat}(hB:∀i,i<N->∀k∈B i,k<N)(hf:from_<N):gF B N from_=true↔Way B from_ from_:=by
 constructor
 ·exact fun h=>fJ _ _ _ h
 ·intro hw
  cases hq:gF B N from_ with
  |true=>rfl
  |false=>
   obtain⟨c1,c2⟩:=fK hB (N+1) from_ (List.replicate N false) hf zc (by rw[eK];omega) hq
   generalize (fL B from_ (N+1) from_ (List.replicate N false)).2=s' at*
   have h0:∀j,(List.replicate N false).getD j false=false:=fun j=>by
    rw[Kw,IK];split<;>rfl
   have key:∀i k,Way B i k->k=from_->(i=from_\/s'.getD i false=true)->False:=by
    intro i k hik
    induction hik with
    |one hk=>
     intro hkf hi
     rcases hi with rfl|hi
     ·exact(c2 _ hk).1 hkf
     ·exact(c1 _ (h0 _) hi _ hk).1 hkf
    |more hk _ ih=>
     intro hkf hi
     rcases hi with rfl|hi
     ·exact ih hkf (.inr (c2 _ hk).2)
     ·exact ih hkf (.inr (c1 _ (h0 _) hi _ hk).2)
   exact(key _ _ hw rfl (.inl rfl)).elim
def uz (B:Nat->List Nat)(N:Nat):Option Nat:=if (xR B N).length=N then none else(List.range N).find? (gF B N)
theorem qn {B:Nat->List Nat}{N:Nat}(hB:∀i,i<N->∀k∈B i,k<N):uz B N=none↔(xR B N).length=N:=by
 unfold uz
 constructor
 ·intro h
  split at h
  ·assumption
  ·rename_i hne
   obtain⟨j,hj,hw⟩:=dO hB (Nat.lt_of_le_of_ne (oZ B N) hne)
   rw[Ia]at h
   exact absurd ((lS hB hj).2 hw) (h j (Jj.2 hj))
 ·intro h
  rw[if_pos h]
open Vg Tf
def dW:Ft:=⟨0,false,0,0,0,0,0,0,0,0⟩
def Xn:CuL:=⟨⟨[],[],[]⟩,⟨none,0⟩,⟨none,0⟩⟩
def Wn:MpL:=⟨[],[],[],[],⟨none,0⟩,⟨none,0⟩,⟨none,0⟩⟩
def vk (l:List Td)(s:Str):Option Ft:=(l.find? (fun t=>t.nm==s)).map (·.ty)
def yB (l:List Td)(s:Str):Ft:=(vk l s).getD dW
def iX (l:List CuL)(s:Str):Option CuL:=l.find? (fun c=>c.c.nm==s)
def gE (l:List MpL)(s:Str):Option MpL:=l.find? (fun c=>c.nm==s)
def xv (l:List Str)(s:Str):Nat:=(wn s l 0).getD 0
def sW (l:List Str)(s:Str):Bool:=(wn s l 0).isSome
@[reducible] def kD (c:CuL):List Cv:=[.v (.slice c.x.o c.c.xs.length c.x.c),.v (.slice c.y.o c.c.ys.length c.y.c)]
@[reducible] def o5 (m:MpL):List Cv:=[.v (.slice m.x.o m.xs.length m.x.c),.v (.slice m.y.o m.ys.length m.y.c),.v (.slice m.z.o m.zs.length m.z.c)]
@[reducible] def rJ (t:Ft):List Cv:=[.v (.int .i64 t.bits),.v (.bool t.signed),.v (.int .i64 t.num),.v (.int .i64 t.off),.v (.int .i64 t.den),.v (.int .i64 t.m),.v (.int .i64 t.kg),.v (.int .i64 t.s),.v (.int .i64 t.a),.v (.int .i64 t.k)]
section
variable {C:Cx} {o:Oper} {e:Env} {M:Mem} {m x:Operand} {b:Nat} {s:Str}
theorem MQ {l:List Str}(hb:MpB C.hp b (rQ l 0))(ho:o.op= .lookup 145 m x true)(hm:rd e m=some (true,.c (.v (.map (some b)))))(hx:rd e x=some (true,S s)):StpC Hf C.S C.w0 o e M (.tup [Wi (xv l s),ZG (sW l s)]) []:=
 StpC.lookup ho rfl rfl hm hx hb (fun β=>by
  rw[qt];unfold xv sW
  cases wn s l 0<;>rfl)
theorem YN {l:List Str}(hb:MpB C.hp b (rQ l 0))(ho:o.op= .lookup 145 m x false)(hm:rd e m=some (true,.c (.v (.map (some b)))))(hx:rd e x=some (true,S s)):StpC Hf C.S C.w0 o e M (I (xv l s)) []:=
 StpC.lookup ho rfl rfl hm hx hb (fun β=>by
  rw[qt];unfold xv
  cases wn s l 0<;>rfl)
theorem MP {l:List Td}(hb:MpB C.hp b (xO cO l))(ho:o.op= .lookup 142 m x true)(hm:rd e m=some (true,.c (.v (.map (some b)))))(hx:rd e x=some (true,S s)):StpC Hf C.S C.w0 o e M (.tup [.agg (rJ (yB l s)),ZG (vk l s).isSome]) []:=
 StpC.lookup ho rfl rfl hm hx hb (fun β=>by
  rw[wb];unfold yB vk
  show _=(if true=true then _ else _)
  have:(fun x:Td=>(cO x).1==s)=fun t=>t.nm==s:=rfl
  rw[this]
  cases l.find? (fun t=>t.nm==s)<;>rfl)
theorem wg {l:List Td}(hb:MpB C.hp b (xO cO l))(ho:o.op= .lookup 142 m x false)(hm:rd e m=some (true,.c (.v (.map (some b)))))(hx:rd e x=some (true,S s)):StpC Hf C.S C.w0 o e M (.agg (rJ (yB l s))) []:=
 StpC.lookup ho rfl rfl hm hx hb (fun β=>by
  rw[wb];unfold yB vk
  have:(fun x:Td=>(cO x).1==s)=fun t=>t.nm==s:=rfl
  rw[this]
  cases l.find? (fun t=>t.nm==s)<;>rfl)
theorem La {l:List CuL}(hb:MpB C.hp b (xO af l))(ho:o.op= .lookup 143 m x true)(hm:rd e m=some (true,.c (.v (.map (some b)))))(hx:rd e x=some (true,S s)):StpC Hf C.S C.w0 o e M (.tup [.agg (kD ((iX l s).getD Xn)),ZG (iX l s).isSome]) []:=
 StpC.lookup ho rfl rfl hm hx hb (fun β=>by
  rw[wb];unfold iX
  have:(fun x:CuL=>(af x).1==s)=fun t=>t.c.nm==s:=rfl
  rw[this]
  cases l.find? (fun t=>t.c.nm==s)<;>rfl)
theorem Pg {l:List CuL}(hb:MpB C.hp b (xO af l))(ho:o.op= .lookup 143 m x false)(hm:rd e m=some (true,.c (.v (.map (some b)))))(hx:rd e x=some (true,S s)):StpC Hf C.S C.w0 o e M (.agg (kD ((iX l s).getD Xn))) []:=
 StpC.lookup ho rfl rfl hm hx hb (fun β=>by
  rw[wb];unfold iX
  have:(fun x:CuL=>(af x).1==s)=fun t=>t.c.nm==s:=rfl
  rw[this]
  cases l.find? (fun t=>t.c.nm==s)<;>rfl)
theorem L9 {l:List MpL}(hb:MpB C.hp b (xO ZP l))(ho:o.op= .lookup 144 m x true)(hm:rd e m=some (true,.c (.v (.map (some b)))))(hx:rd e x=some (true,S s)):StpC Hf C.S C.w0 o e M (.tup [.agg (o5 ((gE l s).getD Wn)),ZG (gE l s).isSome]) []:=
 StpC.lookup ho rfl rfl hm hx hb (fun β=>by
  rw[wb];unfold gE
  have:(fun x:MpL=>(ZP x).1==s)=fun t=>t.nm==s:=rfl
  rw[this]
  cases l.find? (fun t=>t.nm==s)<;>rfl)
theorem Pf {l:List MpL}(hb:MpB C.hp b (xO ZP l))(ho:o.op= .lookup 144 m x false)(hm:rd e m=some (true,.c (.v (.map (some b)))))(hx:rd e x=some (true,S s)):StpC Hf C.S C.w0 o e M (.agg (o5 ((gE l s).getD Wn))) []:=
 StpC.lookup ho rfl rfl hm hx hb (fun β=>by
  rw[wb];unfold gE
  have:(fun x:MpL=>(ZP x).1==s)=fun t=>t.nm==s:=rfl
  rw[this]
  cases l.find? (fun t=>t.nm==s)<;>rfl)
end
structure Ck (H:Hp) (cp:Value) (d:DgL) (bT bC bM bS:Nat):Prop where
 o:d.ok H
 s:d.sm
 n1:d.ins.length<=1000000
 n2:d.bls.length<=1000000
 c:ChkOk H cp d bT bC bM bS
theorem ChkOk.mono {H H':Hp}(h:H.le H'){cp:Value}{d:DgL}{bT bC bM bS:Nat}(k:ChkOk H cp d bT bC bM bS):ChkOk H' cp d bT bC bM bS:=⟨k.p.mono h,k.t.mono h,k.c.mono h,k.m.mono h,k.s.mono h⟩
theorem Ck.mono {H H':Hp}(h:H.le H'){cp:Value}{d:DgL}{bT bC bM bS:Nat}(k:Ck H cp d bT bC bM bS):Ck H' cp d bT bC bM bS:=⟨k.o.mono h,k.s,k.n1,k.n2,k.c.mono h⟩
@[reducible] def VU (bT bC bM bS:Nat):List Value:=[Value.map (some bT),Value.map (some bC),Value.map (some bM),Value.map (some bS)]
def tq (l:List Str)(ins:List Str):Option Str:=ins.find? (fun s=> !sW l s)
theorem mg (l:List Str)(s:Str)(r:List Str):tq l (s::r)=bif sW l s then tq l r else some s:=by
 rw[tq,List.find?_cons]
 cases sW l s<;>rfl
@[reducible] def Vb (r:Option Str):V:= .tup [Ws (r.getD []),ZG r.isSome]
theorem da {H:Hp}{cp:Value}{d:DgL}{bT bC bM bS:Nat}(k:Ck H cp d bT bC bM bS)(b:BlL)(hb:b.ok H)(hl:b.c.ins.length<=1000000000000000):
  CallH H Hf 71 [.c (.v cp),yD b.r] (Vb (tq (zQ d.c) b.c.ins)):=by
 refine kH func71 OZ ntmps71 fun C hR hP hH hL=>?_
 refine zk 1 147 0 (k.c.p.mono hH) rfl rfl (zB 100 ?_)
 refine vv ?_
 refine Sm.bringS 2 9 11 (hb.i.mono hH) rfl rfl ?_
 refine zG (M0:=[]) (α:={i:Nat//i<=b.c.ins.length/\tq (zQ d.c) b.c.ins=tq (zQ d.c) (b.c.ins.drop i)}) hP (fun i=>[(0,true,.c (.p 1 0)),(11,true,.c (.sl 2 0 b.c.ins.length 1)),(12,true,I b.c.ins.length),(13,true,I i.val)])
  (fun _=>[(1,⟨true,(d.r++VU bT bC bM bS).map .v,147⟩),(2,⟨true,b.c.ins.map sC,9⟩)]) (fun i=>b.c.ins.length-i.val) ⟨0,zA,rfl⟩ (fun _=>zC (by simp only[Ky,zh (nu _),zh (y7 _)];rfl)) (fun _=>zO rfl) [(1,1),(2,2)] ?_ ?_
 ·exact z9
 ·rintro⟨i,hi,hx⟩ J hj
  simp only at hj hi hx⊢
  refine zB 120 (vv ?_)
  refine zU (fun hc=>?_) (fun hc=>?_)
  ·have hc:=zH hc
   rw[JA hc,mg]at hx
   simp only[go_sem,xq hc]
   refine⟨⟨zA,zA⟩,?_⟩
   generalize b.c.ins[i]=s at*
   refine vK 130 rfl rfl (.inl rfl) (fun _=>MQ (k.c.s.mono hH) rfl rfl rfl) (vv ?_)
   cases hs:sW (zQ d.c) s with
   |false=>
    rw[hs,cond_false]at hx
    refine vv ?_
    rw[hx]at hR
    exact yI (hR C hL) ClM.nil
   |true=>
    rw[hs,cond_true]at hx
    simp only[go_sem,yT (i:=i)]
    exact hj _ _ ⟨i+1,hc,hx⟩ [(1,1),(2,2)] yF z9
  ·have hc:=zL hi hc
   rw[hc,JL]at hx
   rw[hx]at hR
   exact yI (hR C hL) ClM.nil
def uV:List Str->List Str->Option Str
 |_,[]=>none
 |seen,s::r=>bif seen.contains s then some s else uV (s::seen) r
def c9 (s:Str):Str×Value:=(s,.bool true)
theorem cZ (s:Str)(l:List Str):(vr (xO c9 l) ⟨s.toArray⟩).getD (.bool false)= .bool (l.contains s):=by
 rw[wb]
 have:(fun x:Str=>(c9 x).1==s)=fun x=>x==s:=rfl
 rw[this]
 cases hq:l.find? (fun x=>x==s)with
 |none=>
  have:l.contains s=false:=by
   rw[Bool.eq_false_iff]
   intro h
   rw[IA]at h
   rw[Ia]at hq
   exact hq s h zc
  rw[this];rfl
 |some y=>
  have h1:=List.find?_some hq
  have h2:=Jw hq
  have h3:y=s:=by simpa using h1
  subst h3
  have:l.contains y=true:=IA.2 h2
  rw[this];rfl
theorem V0 {H:Hp}(l:List Str)(hl:l.length<=1000000000000000):CallX H Hf 70 [.c (.sl 1 0 l.length 1)] [iY 1 l] (fun _:Unit=>Vb (uV [] l)) (fun _=>[]) (fun _ _=>True):=by
 refine kX func70 O0 ntmps70 fun C hR hP hH hL=>?_
 have hR:=hR ()
 have hM:ClM [iY 1 l]:=ClM.v (by simp only[Ky,y7];rfl)
 refine zB 100 (vv ?_)
 refine Sm.makeMap hL rfl rfl rfl (fun b C1 l1 k1 f1 f1' m1=>?_)
 refine zB 110 (vv ?_)
 refine vC (C:=C) (Ck:=C1) (M0:=[iY 1 l]) (α:={i:Nat//i<=l.length/\uV [] l=uV (l.take i).reverse (l.drop i)}) l1 hP (fun i=>[(4,true,.c (.v (.map (some b)))),(8,true,.c (.sl 1 0 l.length 1)),(9,true,I l.length),(10,true,I i.val)])
  (fun _=>[iY 1 l]) (fun i hp=>MpB hp b (xO c9 (l.take i.val).reverse)) (fun i=>l.length-i.val) ⟨0,zA,rfl⟩ m1 (fun _=>hM) (fun _=>zO rfl) [(1,1)] z9 ?_
 rintro⟨i,hi,hx⟩ Cn J ln iT hb
 simp only at hb hi hx iT⊢
 refine zB 120 (vv ?_)
 refine zU (fun hc=>?_) (fun hc=>?_)
 ·have hc:=zH hc
  have htk:(l.take (i+1)).reverse=l[i]::(l.take i).reverse:=by rw[JS hc,List.reverse_append];rfl
  rw[JA hc,uV]at hx
  simp only[go_sem,xq hc]
  refine⟨⟨zA,zA⟩,?_⟩
  generalize l[i]=s at*
  refine vK 130 rfl rfl (.inl rfl) (fun _=>StpC.lookup (v:=Bo ((l.take i).reverse.contains s)) rfl rfl rfl rfl rfl iT (fun β=>(cZ s _).symm)) (vv ?_)
  refine zU (fun hd=>?_) (fun hd=>?_)
  ·rw[hd,cond_true]at hx
   rw[hx]at hR
   exact yI (hR Cn ln trivial) hM
  ·rw[hd,cond_false,<-htk]at hx
   refine zB 130 (vv ?_)
   refine tJ (u:= .bool true) ln rfl rfl rfl rfl rfl rfl rfl (fun _=>rfl) iT f1 (fun Cu lu ku mu=>?_)
   refine zB 140 ?_
   simp only[go_sem,yT (i:=i)]
   exact hb _ _ Cu ⟨i+1,hc,hx⟩ [(1,1)] lu (by simp only;rw[htk];exact mu) yF z9
 ·have hc:=zL hi hc
  rw[hc,JL]at hx
  have hx:uV [] l=none:=hx
  rw[hx]at hR
  exact yI (hR Cn ln trivial) hM
open Vg Tf
def uW:Str:=[100,101,108,97,121]
def wq (l:List Str)(n:Nat)(s:Str):List Nat:=if n<=xv l s then[xv l s-n]else[]
def tm (l:List Str)(n:Nat)(b:Bl):List Nat:=if b.kd==uW then[]else b.ins.flatMap (wq l n)
def yS (d:Dg)(i:Nat):List Nat:=match d.bls[i]? with
 |some b=>tm (zQ d) d.ins.length b
 |none=>[]
theorem qD (s:Str):∀(l:List Str) (k i:Nat),wn s l k=some i->i<k+l.length
 |[],_,_,h=>by cases h
 |x::l,k,i,h=>by
  unfold wn at h
  split at h
  ·cases h;simp
  ·have:=qD s l (k+1) i h
   simp;omega
theorem WL (l:List Str)(s:Str):xv l s<=l.length:=by
 unfold xv
 cases h:wn s l 0 with
 |none=>simp
 |some i=>have:=qD s l 0 i h;simp;omega
@[reducible] def nC (n:Nat):Cv:= .v (.int .i64 (n:Int))
@[reducible] def XA (nm:Nat)(l:List Nat):Nat×Bk:=(nm,⟨false,l.map nC,3⟩)
theorem xK (l:List Nat):(l.map nC).all Cv.isV=true:=by simp[Cv.isV]
theorem gX {l:List Nat}{i:Nat}(h:i<l.length):(l.map nC)[i]?=some (nC l[i]):=by simp[h]
theorem xh (d:DgL):(zQ d.c).length=d.ins.length+d.bls.length:=by simp[zQ,DgL.c]
theorem uQ {d:DgL}{i:Nat}(h:i<d.bls.length):yS d.c i=tm (zQ d.c) d.ins.length d.bls[i].c:=by
 unfold yS
 have:d.c.bls[i]?=some d.bls[i].c:=by simp[DgL.c,h]
 rw[this];rfl
theorem eW {H:Hp}{cp:Value}{d:DgL}{bT bC bM bS:Nat}(k:Ck H cp d bT bC bM bS)(i:Nat)(hi:i<d.bls.length)(hl:d.bls[i].c.ins.length<=1000000):
  CallX H Hf 107 [.c (.v cp),I i] [] (fun _:Unit=> .c (.sl 1 0 (yS d.c i).length 1)) (fun _=>[XA 1 (yS d.c i)]) (fun _ _=>True):=by
 have hn1:=k.n1
 have hn2:=k.n2
 have hsl:=xh d
 have hbo:=k.o.bls d.bls[i] (JE hi)
 rw[uQ hi]
 have htk:=z6 (r:=BlL.r) (k:=6) (fun _=>rfl) d.bls i hi
 have hsz:=zP (r:=BlL.r) (k:=6) (fun _=>rfl) d.bls
 generalize hbb:d.bls[i]=b at*
 refine kX func107 QJ ntmps107 fun C hR hP hH hL=>?_
 have hR:=hR () C hL trivial
 refine zk 1 147 0 (k.c.p.mono hH) rfl rfl (zB 100 ?_)
 refine vv ?_
 refine Sm.bringR 2 53 14 (k.o.bl.mono hH) rfl rfl ?_
 have hl2:(d.bls.map BlL.r).length=d.bls.length:=Ku _
 rw[hl2]
 refine zB 110 ?_
 simp only[go_sem,htk,hsz]
 refine⟨⟨zA,zA⟩,zA,?_⟩
 refine zU (fun hd=>?_) (fun hd=>?_)
 ·have hd:(b.c.kd==uW)=true:=hd
  have hne:tm (zQ d.c) d.ins.length b.c=[]:=by rw[tm,hd];rfl
  rw[hne]at hR
  refine zw 140 1 3 [4] [] rfl (vv ?_)
  exact RetQ.ren [(1,140)] hR hP rfl xb rfl rfl trivial ⟨oR,trivial⟩ (zC rfl) (zI rfl)
 ·have hd:(b.c.kd==uW)=false:=hd
  have hne:tm (zQ d.c) d.ins.length b.c=b.c.ins.flatMap (wq (zQ d.c) d.ins.length):=by rw[tm,hd];rfl
  rw[hne]at hR
  refine Sm.bringS 3 9 22 (hbo.i.mono hH) rfl rfl ?_
  refine yz 140 1 3 [6] [] rfl (vv ?_)
  generalize hL':zQ d.c=L' at*
  have hnl:∀i,((b.c.ins.take i).flatMap (wq L' d.ins.length)).length<=i:=fun i=>by
   rw[List.length_flatMap]
   have:∀l:List Str,(l.map fun s=>(wq L' d.ins.length s).length).sum<=l.length:=fun l=>by
    induction l with
    |nil=>simp
    |cons s l ih=>
     rw[Kv,List.sum_cons,JR]
     have:(wq L' d.ins.length s).length<=1:=by unfold wq;split<;>simp
     omega
   exact IT (this _) (by rw[Jt];omega)
  refine zG (M0:=[]) (α:={i:Nat//i<=b.c.ins.length}) hP (fun i=>[(0,true,.c (.p 1 0)),(6,true,.c (.sl 6 0 ((b.c.ins.take i.val).flatMap (wq L' d.ins.length)).length 1)),(22,true,.c (.sl 3 0 b.c.ins.length 1)),(23,true,I b.c.ins.length),(24,true,I i.val)])
   (fun i=>[(1,⟨true,(d.r++VU bT bC bM bS).map .v,147⟩),(3,⟨true,b.c.ins.map sC,9⟩),XA 6 ((b.c.ins.take i.val).flatMap (wq L' d.ins.length))]) (fun i=>b.c.ins.length-i.val) ⟨0,zA⟩ (fun _=>zC (by simp only[Ky,zh (nu _),zh (y7 _),zh (xK _)];rfl)) (fun _=>zO rfl) [(1,1),(3,3),(6,140)] ?_ ?_
  ·exact z9
  ·rintro⟨i,hi⟩ J hj
   simp only at hj hi⊢
   refine zB 150 (vv ?_)
   refine zU (fun hc=>?_) (fun hc=>?_)
   ·have hc:=zH hc
    have htk:(b.c.ins.take (i+1)).flatMap (wq L' d.ins.length)=(b.c.ins.take i).flatMap (wq L' d.ins.length)++wq L' d.ins.length b.c.ins[i]:=by
     rw[JS hc,List.flatMap_append];simp
    simp only[go_sem,xq hc]
    refine⟨⟨zA,zA⟩,?_⟩
    have hsl:=WL L' b.c.ins[i]
    generalize b.c.ins[i]=s at*
    refine Sm.dg 160 12 ze (vv ?_)
    refine zE 170 (fun _=>YN (by have:=k.c.s.mono hH;rw[hL']at this;exact this) rfl rfl rfl) ?_
    have w3:IntKind.i64.wrap ((xv L' s:Int)-(d.ins.length:Int))=(xv L' s:Int)-(d.ins.length:Int):=by rw[ya zA zA]
    simp only[go_sem,w3]
    have hq:=hnl i
    generalize hout:(b.c.ins.take i).flatMap (wq L' d.ins.length)=out at*
    by_cases hge:d.ins.length<=xv L' s
    ·have e2:decide ((0:Int)<=(xv L' s:Int)-(d.ins.length:Int))=true:=yV zA
     have e3:wq L' d.ins.length s=[xv L' s-d.ins.length]:=by unfold wq;rw[if_pos hge]
     have e4:(xv L' s:Int)-(d.ins.length:Int)=((xv L' s-d.ins.length:Nat):Int):=zA
     rw[e3]at htk
     have hlen:(out.map nC).length=out.length:=Ku _
     have hap:List.take out.length (out.map nC)++[nC (xv L' s-d.ins.length)]=(out++[xv L' s-d.ins.length]).map nC:=by
      rw[JH zA,JT];rfl
     simp only[go_sem,e2,e4,hap,hlen,yT (i:=i)]
     refine⟨⟨zA,zA,zA⟩,?_⟩
     refine hj _ _ ⟨i+1,hc⟩ [(1,1),(3,3),(6,171)] yF ?_
     simp only[htk,JN,JR,J9]
     exact z9
    ·have e2:decide ((0:Int)<=(xv L' s:Int)-(d.ins.length:Int))=false:=yd zA
     have e3:wq L' d.ins.length s=[]:=by unfold wq;rw[if_neg hge]
     rw[e3,JB]at htk
     simp only[go_sem,e2,yT (i:=i)]
     refine hj _ _ ⟨i+1,hc⟩ [(1,1),(3,3),(6,6)] yF ?_
     simp only[htk]
     exact z9
   ·have hc:=zL hi hc
    subst hc
    rw[Jh]
    exact RetQ.ren [(1,6)] hR hP rfl xb rfl rfl trivial ⟨oV (yO (xK _)),trivial⟩ (zC (by simp only[JC,JD,JB,Ky,zh (xK _)];rfl)) (zI rfl)
open Vg Tf
theorem YE {l:List Str}{n N:Nat}(hl:l.length=n+N)(hN:0<N)(b:Bl):∀k∈tm l n b,k<N:=by
 intro k hk
 unfold tm at hk
 split at hk
 ·cases hk
 ·obtain⟨s,_,hs⟩:=List.mem_flatMap.1 hk
  unfold wq at hs
  split at hs
  ·rw[ID]at hs
   unfold xv at hs
   cases hq:wn s l 0 with
   |none=>rw[hq]at hs;simp at hs;omega
   |some i=>
    rw[hq]at hs
    have:=qD s l 0 i hq
    simp at hs;omega
  ·cases hs
theorem vP (d:DgL):∀i,i<d.bls.length->∀k∈yS d.c i,k<d.bls.length:=fun i hi k hk=>by
 rw[uQ hi]at hk
 exact YE (xh d) zA _ k hk
@[reducible] def bC (b:Bool):Cv:= .v (.bool b)
def vF (N:Nat)(l:List Nat):List Bool:=(List.range N).map fun i=>l.contains i
theorem vU (N:Nat)(l:List Nat):(vF N l).length=N:=by simp[vF]
theorem uB (l:List Bool):(l.map bC).all Cv.isV=true:=by simp[Cv.isV]
theorem uo {l:List Bool}{i:Nat}(h:i<l.length):(l.map bC)[i]?=some (bC (l.getD i false)):=by
 rw[JK,Kw,Kz h];rfl
theorem qX {N:Nat}{l:List Nat}{i:Nat}(h:i<N):(vF N l).getD i false=l.contains i:=by
 rw[Kw,vF,JK,Ju h];rfl
theorem cL {N:Nat}{l:List Nat}{i:Nat}(h:i<N):(vF N l).set i true=vF N (l++[i]):=by
 apply Jx
 intro j
 rw[Ip]
 simp only[vF,Ku,Ib,JK]
 by_cases hj:i=j
 ·subst hj
  rw[if_pos rfl,if_pos h,Ju h]
  simp
 ·rw[if_neg hj]
  by_cases hjN:j<N
  ·rw[Ju hjN]
   simp only[JM,Js]
   rw[JQ,IA,IA,I2,ID]
   exact⟨.inl,fun hh=>by rcases hh with hh|hh;exact hh;exact absurd hh.symm hj⟩
  ·rw[Jo (by simp;omega)];rfl
theorem fI {ρ:Nat->Nat}{l:List Cv}{t u:TypeId}{r:Bool}(h:l.all Cv.isV=true):Wk ((⟨true,l,t⟩:Bk).ren ρ) ⟨r,l,u⟩:= .inr ⟨by rw[yO h],[],by rw[yO h];simp⟩
@[reducible] def dv (nm:Nat)(tk:List Bool):Nat×Bk:=(nm,⟨true,tk.map bC,4⟩)
@[reducible] def du (nm t N:Nat):Nat×Bk:=(nm,⟨true,[.sl t 0 N 1],162⟩)
theorem L2 (tk:List Bool)(k:Nat)(h:k<tk.length):CallOk Hf 108 [I k,.c (.p 1 0)] [du 1 2 tk.length,dv 2 tk] (Bo (!tk.getD k false)) []:=by
 have hM:ClM [du 1 2 tk.length,dv 2 tk]:=zC (by simp only[Ky,zh (uB _)];rfl)
 refine kN 100 func108 QI ntmps108 fun C hR hP=>?_
 simp only[go_sem,uo h]
 refine⟨⟨zA,zA⟩,?_⟩
 exact yI hR hM
theorem Pr (ks:List Nat)(hks:ks.length<=1000000000000000)(tk:List Bool)(hk:∀k∈ks,k<tk.length):CallOk Hf 171 [.c (.sl 1 0 ks.length 1),.c (.fn 108 [(2,0)])] [(1,⟨true,ks.map nC,3⟩),du 2 3 tk.length,dv 3 tk] (I (tw (fun k=> !tk.getD k false) ks 0)) []:=by
 have hM:ClM [(1,⟨true,ks.map nC,3⟩),du 2 3 tk.length,dv 3 tk]:=zC (by simp only[Ky,zh (uB _),zh (xK _)];rfl)
 have hM1:ClM [du 1 2 tk.length,dv 2 tk]:=zC (by simp only[Ky,zh (uB _)];rfl)
 refine kN 100 func171 Xj ntmps171 fun C hR hP=>?_
 refine vv ?_
 refine zG (M0:=[(1,⟨true,ks.map nC,3⟩),du 2 3 tk.length,dv 3 tk]) (α:={i:Nat//i<=ks.length/\tw (fun k=> !tk.getD k false) ks 0=tw (fun k=> !tk.getD k false) (ks.drop i) i}) hP (fun i=>[(0,true,.c (.sl 1 0 ks.length 1)),(1,true,.c (.fn 108 [(2,0)])),(7,true,I ks.length),(8,true,I i.val)])
  (fun _=>[(1,⟨true,ks.map nC,3⟩),du 2 3 tk.length,dv 3 tk]) (fun i=>ks.length-i.val) ⟨0,zA,rfl⟩ (fun _=>hM) (fun _=>zO rfl) [(1,1),(2,2),(3,3)] ?_ ?_
 ·exact z9
 ·rintro⟨i,hi,hx⟩ J hb
  simp only at hb hi hx⊢
  refine zB 120 (vv ?_)
  refine zU (fun hc=>?_) (fun hc=>?_)
  ·have hc:=zH hc
   rw[wO _ ks i hc]at hx
   simp only[go_sem,gX hc]
   refine⟨⟨zA,zA⟩,?_⟩
   have hk':=hk ks[i] (JE hc)
   generalize ks[i]=k at*
   refine CallQ.ren [(1,2),(2,3)] 120 (L2 tk k hk') hM1 rfl rfl ⟨oS,oW (yO (uB _)),trivial⟩ rfl (.inr rfl) (vv ?_)
   refine zU (fun hd=>?_) (fun hd=>?_)
   ·rw[hd,cond_true]at hx
    exact zX hR rfl xb (by rw[hx];rfl) (yr _) hM (zI rfl)
   ·rw[hd,cond_false]at hx
    simp only[yT (i:=i)]
    exact hb _ _ ⟨i+1,hc,hx⟩ [(1,1),(2,2),(3,3)] yF z9
  ·have hc:=zL hi hc
   rw[hc,JL]at hx
   exact zX hR rfl xb (by rw[hx];rfl) (yr _) hM (zI rfl)
theorem NL (ks:List Nat)(hks:ks.length<=1000000000000000)(tk:List Bool)(hk:∀k∈ks,k<tk.length):CallOk Hf 106 [.c (.sl 1 0 ks.length 1),.c (.fn 108 [(2,0)])] [(1,⟨true,ks.map nC,3⟩),du 2 3 tk.length,dv 3 tk] (Bo (ks.any fun k=> !tk.getD k false)) []:=by
 have hM:ClM [(1,⟨true,ks.map nC,3⟩),du 2 3 tk.length,dv 3 tk]:=zC (by simp only[Ky,zh (uB _),zh (xK _)];rfl)
 refine kN 100 func106 aa ntmps106 fun C hR hP=>?_
 refine vv ?_
 refine CallQ.ren [(1,1),(2,2),(3,3)] 120 (Pr ks hks tk hk) hM rfl rfl ⟨oW (yO (xK _)),oS,oW (yO (uB _)),trivial⟩ rfl (.inr rfl) (vv ?_)
 refine zX hR rfl xb ?_ (yr _) hM (zI rfl)
 rw[<-ww _ ks 0 zA];rfl
theorem WX {H:Hp}{cp:Value}{d:DgL}{bT bC' bM bS:Nat}(k:Ck H cp d bT bC' bM bS)(l:List Nat)(i:Nat)(hi:i<d.bls.length)(hl:d.bls[i].c.ins.length<=1000000):
  CallX H Hf 105 [I i,.c (.p 1 0),.c (.p 2 0)] [du 1 3 d.bls.length,dv 3 (vF d.bls.length l),(2,⟨true,[.v cp],97⟩)] (fun _:Unit=>Bo (ka (yS d.c) l i)) (fun _=>[]) (fun _ _=>True):=by
 have hM:ClM [du 1 3 d.bls.length,dv 3 (vF d.bls.length l),(2,⟨true,[.v cp],97⟩)]:=zC (by simp only[Ky,zh (uB _)];rfl)
 have hg:((vF d.bls.length l).map bC)[i]?=some (bC (l.contains i)):=by rw[uo (by rw[vU];exact hi),qX hi]
 have hbl:(yS d.c i).length<=1000000:=by
  rw[uQ hi]
  unfold tm
  split
  ·simp
  ·refine IT ?_ hl
   rw[List.length_flatMap]
   generalize d.bls[i].c.ins=q
   induction q with
   |nil=>simp
   |cons s q ih=>
    rw[Kv,List.sum_cons,JR]
    have:(wq (zQ d.c) d.ins.length s).length<=1:=by unfold wq;split<;>simp
    omega
 refine kX func105 QK ntmps105 fun C hR hP hH hL=>?_
 have hR:=hR () C hL trivial
 have hrd:ka (yS d.c) l i=(!l.contains i&&(yS d.c i).all fun k=>l.contains k):=rfl
 refine zB 100 ?_
 cases hb:l.contains i with
 |true=>
  rw[hrd,hb]at hR
  rw[hb]at hg
  simp only[go_sem,hg]
  refine⟨⟨zA,zA⟩,?_⟩
  refine CallQ.guard (xs:=[]) (v:= .c (.v (.slice none 0 0))) 110 (fun h=>by cases h) (fun h=>by cases h) (vv ?_)
  refine CallQ.guard (xs:=[]) (v:=Bo true) 110 (fun h=>by cases h) (fun h=>by cases h) (vv ?_)
  exact yI hR hM
 |false=>
  rw[hrd,hb]at hR
  rw[hb]at hg
  simp only[go_sem,hg]
  refine⟨⟨zA,zA⟩,?_⟩
  refine CallQ.hr [(1,130)] 131 (eW k i hi hl) hH ClM.nil rfl rfl trivial rfl (.inl rfl) ?_
  simp only[Mem.ren,Kv,Kx,yO (xK _),V.ren,Cv.ren,rn,Nat.reduceBEq,cond_true,cond_false]
  refine vv ?_
  refine CallQ.ren [(1,130),(2,1),(3,3)] 140 (NL (yS d.c i) zA (vF d.bls.length l) (fun k hk=>by rw[vU];exact vP d i hi k hk)) (zC (by simp only[Ky,zh (uB _),zh (xK _)];rfl)) rfl rfl ⟨⟨_,rfl,fI (xK _)⟩,⟨_,rfl,.inl (by rw[vU];rfl)⟩,oW (yO (uB _)),trivial⟩ rfl (.inr rfl) (vv ?_)
  refine zX hR rfl xb ?_ (SubS.sub ⟨oS,oS,oS,trivial⟩) hM (zI rfl)
  have hall:((yS d.c i).any fun k=> !(vF d.bls.length l).getD k false)= !((yS d.c i).all fun k=>l.contains k):=by
   rw[JX,IL]
   rw[JQ,Iu,Iu]
   constructor
   ·rintro⟨x,hx,h⟩
    exact⟨x,hx,by rw[qX (vP d i hi x hx)]at h;exact h⟩
   ·rintro⟨x,hx,h⟩
    exact⟨x,hx,by rw[qX (vP d i hi x hx)];exact h⟩
  rw[hall,IL]
  rfl
theorem mK {B:Nat->List Nat}{N:Nat}{l:List Nat}{i:Nat}(hi:i<N)(h:∀j,j<i->ka B l j=false)(hr:ka B l i=true):iz B N l=some i:=by
 unfold iz
 rw[List.find?_range_eq_some]
 exact⟨hr,Jj.2 hi,fun j hj=>by rw[h j hj];rfl⟩
theorem j9 {B:Nat->List Nat}{N:Nat}{l:List Nat}(h:∀j,j<N->ka B l j=false):iz B N l=none:=by
 unfold iz
 rw[Ia]
 intro j hj
 rw[h j (Jj.1 hj)];simp
theorem rW {B:Nat->List Nat}{N:Nat}{l:List Nat}(h:iz B N l=none):∀r,vW B N r l=l
 |0=>rfl
 |r+1=>by rw[vW,h]
theorem sX:∀N:Nat,vc N [Cv.v (.bool false)]=(vF N []).map bC:=by
 intro N
 have h:(vF N [])=List.replicate N false:=by
  apply Jx
  intro j
  rw[vF,JK,IK]
  by_cases hj:j<N
  ·rw[Ju hj,if_pos hj];rfl
  ·rw[Jo (by simp;omega),if_neg hj];rfl
 rw[h,List.map_replicate]
 induction N with
 |zero=>rfl
 |succ n ih=>rw[vc,ih (by
   apply Jx
   intro j
   rw[vF,JK,IK]
   by_cases hj:j<n
   ·rw[Ju hj,if_pos hj];rfl
   ·rw[Jo (by simp;omega),if_neg hj];rfl),List.replicate_succ];rfl
theorem bR {H:Hp}{cp:Value}{d:DgL}{bT bC' bM bS:Nat}(k:Ck H cp d bT bC' bM bS)(hl:∀b∈d.bls,b.c.ins.length<=1000000):
  CallX H Hf 46 [.c (.v cp)] [] (fun _:Unit=> .c (.sl 1 0 (xR (yS d.c) d.bls.length).length 1)) (fun _=>[XA 1 (xR (yS d.c) d.bls.length)]) (fun _ _=>True):=by
 have hn2:=k.n2
 obtain⟨ca,rfl⟩:=ss k.c.p
 refine kX func46 On ntmps46 fun C hR hP hH hL=>?_
 have hR:=hR () C hL trivial
 have hpt:=k.c.p.mono hH
 refine zB 100 (vv ?_)
 refine zk 1 147 7 hpt rfl rfl (zB 110 ?_)
 simp only[go_sem,sX]
 refine⟨⟨zA,zA,zA⟩,?_⟩
 refine zk 2 147 15 hpt rfl rfl (zB 120 ?_)
 refine vv ?_
 refine yz 140 1 3 [3] [] rfl (vv ?_)
 generalize hB:yS d.c=B at*
 generalize hN:d.bls.length=N at*
 have hRd:∀l i,i<N->CallX H Hf 105 [I i,.c (.p 1 0),.c (.p 2 0)] [du 1 3 N,dv 3 (vF N l),(2,⟨true,[.v (.pointer ca)],97⟩)] (fun _:Unit=>Bo (ka B l i)) (fun _=>[]) (fun _ _=>True):=fun l i hi=>by
  have:=WX k l i zA (hl _ (JE _))
  rw[hB,hN]at this;exact this
 let Mm:List Nat->Mem:=fun l=>[(1,⟨false,[.v (.pointer ca)],97⟩),(4,⟨false,[.sl 5 0 N 1],162⟩),(5,⟨false,(vF N l).map bC,4⟩),XA 6 l]
 have hcl:∀l,ClM (Mm l):=fun l=>zC (by simp only[Mm,Ky,zh (uB _),zh (xK _)];rfl)
 refine zG (M0:=[]) (α:={x:Nat×List Nat//x.1<=N/\x.2.length<=x.1/\xR B N=vW B N (N-x.1) x.2}) hP (fun x=>[(1,true,.c (.p 1 0)),(3,true,.c (.sl 6 0 x.val.2.length 1)),(4,true,.c (.p 4 0)),(5,true,.c (.fn 105 [(4,0),(1,0)])),(20,true,I N),(21,true,I x.val.1)])
  (fun x=>Mm x.val.2) (fun x=>N-x.val.1) ⟨(0,[]),zA,zc,rfl⟩ (fun _=>hcl _) (fun _=>zO rfl) [(1,100),(4,111),(5,110),(6,140)] ?_ ?_
 ·exact z9
 ·rintro⟨⟨j,l⟩,hj,hlj,hx⟩ J hb
  simp only at hb hj hlj hx⊢
  refine zB 150 ?_
  simp only[go_sem,Mm]
  refine zU (fun hc=>?_) (fun hc=>?_)
  ·have hc:=zH hc
   refine zk 2 147 23 hpt rfl rfl (zB 160 ?_)
   simp only[go_sem,hN]
   refine zG (M0:=[]) (α:={i:Nat//i<=N/\∀q,q<i->ka B l q=false}) hP (fun i=>[(1,true,.c (.p 1 0)),(3,true,.c (.sl 6 0 l.length 1)),(4,true,.c (.p 4 0)),(5,true,.c (.fn 105 [(4,0),(1,0)])),(20,true,I N),(21,true,I j),(28,true,I N),(29,true,I i.val)])
    (fun _=>Mm l) (fun i=>N-i.val) ⟨0,zA,fun q h=>zA⟩ (fun _=>hcl _) (fun _=>zO rfl) [(1,1),(4,4),(5,5),(6,6)] ?_ ?_
   ·exact z9
   ·rintro⟨i,hi,hq⟩ J' hb'
    simp only at hb' hi hq⊢
    refine zB 170 ?_
    simp only[go_sem,Mm]
    refine zU (fun hic=>?_) (fun hic=>?_)
    ·have hic:=zH hic
     refine CallQ.hr [(1,4),(3,5),(2,1)] 180 (hRd l i hic) hH (zC (by simp only[Ky,zh (uB _)];rfl)) rfl rfl ⟨⟨_,rfl,.inr ⟨rfl,[],rfl⟩⟩,⟨_,rfl,fI (uB _)⟩,⟨_,rfl,.inr ⟨rfl,[],rfl⟩⟩,trivial⟩ rfl (.inr rfl) (vv ?_)
     cases hr:ka B l i with
     |true=>
      have hnx:=mK hic hq hr
      refine zB 190 (vv ?_)
      refine Sm.dgW [6] 200 6 ze ?_
      simp only[go_sem,Mem.wo]
      have hlen:(l.map nC).length=l.length:=Ku _
      have hap:List.take l.length (l.map nC)++[nC i]=(l++[i]).map nC:=by rw[JH zA,JT];rfl
      refine ZL [(200,⟨false,[nC i],3⟩),(6,⟨false,l.map nC,3⟩)] 210 (by simp only[go_sem,hlen,hap]<;>rfl) ?_ rfl ⟨⟨rfl,rfl,rfl⟩,⟨rfl,rfl,rfl⟩,trivial⟩ rfl rfl ?_
      ·exact⟨zA,zA,zA⟩
      refine vv ?_
      have hst:((vF N l).map bC).set i (bC true)=(vF N (l++[i])).map bC:=by
       rw[<-cL hic,IU]
      simp only[Ku,vU,hst]
      refine⟨⟨zA,zA⟩,zA,?_⟩
      refine zB 220 ?_
      simp only[go_sem,yT (i:=j)]
      have hx2:xR B N=vW B N (N-(j+1)) (l++[i]):=by
       rw[hx,show N-j=(N-(j+1))+1 by omega,vW,hnx]
      refine hb _ _ ⟨(j+1,l++[i]),hc,by simp only[JN,JR,J9];omega,hx2⟩ [(1,1),(4,4),(5,5),(6,210)] yF ?_
      simp only[JN,JR,J9]
      exact z9
     |false=>
      simp only[go_sem,yT (i:=i)]
      refine hb' _ _ ⟨i+1,hic,fun q h=>?_⟩ [(1,1),(4,4),(5,5),(6,6)] yF z9
      rcases I4 q i with h'|h'
      ·exact hq q h'
      ·rw[show q=i by omega];exact hr
    ·have hic:=zL hi hic
     subst hic
     have hnx:=j9 hq
     have hx2:xR B i=vW B i (i-(j+1)) l:=by rw[hx,rW hnx,rW hnx]
     simp only[go_sem,yT (i:=j)]
     refine hb _ _ ⟨(j+1,l),hc,by simp only;omega,hx2⟩ [(1,1),(4,4),(5,5),(6,6)] yF z9
  ·have hc:=zL hj hc
   subst hc
   rw[Iz]at hx
   have hx:xR B j=l:=hx
   rw[hx]at hR
   exact RetQ.ren [(1,6)] hR hP rfl xb rfl rfl trivial ⟨oV (yO (xK _)),trivial⟩ (zC (by simp only[JC,JD,JB,Ky,zh (xK _)];rfl)) (zI rfl)
end Go.Proofs.YtkciabfilokfiaaGreat.Fx
