/-  -/
import Derived.Test.YtlnpgbnhcondjaaGreatDoorPS
import Derived.Test.YtlnpgbnhcondjaaGreatDoorRW
import Derived.Test.YtlnpgbnhcondjaaGreatDoorSA
import Derived.Test.YtlnpgbnhcondjaaGreatDoorYY
import Derived.Test.YtlnpgbnhcondjaaGreatDoorYF
import Derived.Test.YtlnpgbnhcondjaaGreatDoorRI
namespace Go.Proofs.YtlnpgbnhcondjaaGreatDoor.Fx
open Vg Tf
set_option linter.unusedSimpArgs false
set_option linter.unusedVariables false
set_option maxRecDepth 100000
set_option maxHeartbeats 4000000
end Go.Proofs.YtlnpgbnhcondjaaGreatDoor.Fx
namespace Go.Proofs.YtlnpgbnhcondjaaGreatDoor.Fx
open Vg Tf
set_option linter.unusedSimpArgs false
set_option linter.unusedVariables false
set_option maxRecDepth 100000
set_option maxHeartbeats 4000000
end Go.Proofs.YtlnpgbnhcondjaaGreatDoor.Fx
namespace Go.Proofs.YtlnpgbnhcondjaaGreatDoor.Fx
set_option linter.unusedVariables false
set_option linter.unusedSimpArgs false
theorem parW_err:∀(Ls:List (List Tk)) (beg:Bool) (d:Dg),(∀U∈Ls,LnT U∧U.length≤40000)→(parW Ls beg d).2.2≠0→
  ∃A U B,Ls=A++U::B∧(∃t∈U,(t.l,t.c)=(parW Ls beg d).2.1)∧(parW A beg d).2.2=0
 |[],_,_,_,h=>absurd rfl h
 |U::Ls,beg,d,hU,h=>by
  obtain⟨hu,hl⟩:=hU U (List.mem_cons_self ..)
  have hpos:0<U.length:=List.length_pos_iff.2 hu.n
  rw[parW]at h⊢
  cases ho:(lneP U beg d ps0).1 with
  |none=>
   rw[ho]at h
   have hm:∀i,i<U.length→∃t∈U,(t.l,t.c)=((U.getD (i+0) tk0).l,(U.getD (i+0) tk0).c):=fun i hi=>
    ⟨U[i],List.getElem_mem hi,by rw[Nat.add_zero,List.getD_eq_getElem?_getD,List.getElem?_eq_getElem hi];rfl⟩
   have hs:SimT (fun a b=>∃t∈U,(t.l,t.c)=a) U U 0:=⟨hu.g,fun _ _=>rfl,fun _ _=>rfl,hm⟩
   have hp:SimP (fun a b=>∃t∈U,(t.l,t.c)=a) U 0 ps0 ps0:=⟨rfl,hpos,rfl,fun h=>absurd rfl h⟩
   have hl2:=(lne_sim hs hu hp beg d).2.1 ho
   exact⟨[],U,Ls,rfl,hl2.2.2.2 ((lne_rd hu.g hl beg d hpos).2 ho),rfl⟩
  |some d'=>
   rw[ho]at h
   simp only at h⊢
   obtain⟨A,V,B,q1,q2,q3⟩:=parW_err Ls false d' (fun V hV=>hU V (List.mem_cons_of_mem _ hV)) h
   refine⟨U::A,V,B,by rw[q1];rfl,q2,?_⟩
   rw[parW,ho];exact q3
theorem lnsU_app:∀(L M:List Str) (i:Nat),lnsU i (L++M)=lnsU i L++lnsU (i+L.length) M
 |[],M,i=>by simp[lnsU]
 |l::L,M,i=>by
  rw[List.cons_append,lnsU,lnsU,lnsU_app L M (i+1),List.append_assoc,List.length_cons,show i+1+L.length=i+(L.length+1) from by omega]
theorem lnsU_at:∀(L:List Str) (i:Nat) (A B:List (List Tk)) (U:List Tk),lnsU i L=A++U::B→∃j l,L[j]?=some l∧U=lnU (i+j) l∧lnsU i (L.take j)=A
 |[],i,A,B,U,h=>by simp[lnsU]at h
 |l::L,i,A,B,U,h=>by
  rw[lnsU]at h
  by_cases he:(linQ (i+1) l (l.length+1) 0).1.isEmpty=true
  ·rw[if_pos he,List.nil_append]at h
   obtain⟨j,m,h1,h2,h3⟩:=lnsU_at L (i+1) A B U h
   refine⟨j+1,m,by simpa using h1,by rw[h2,show i+1+j=i+(j+1) from by omega],?_⟩
   rw[List.take_succ_cons,lnsU,if_pos he];exact h3
  ·rw[if_neg he,List.singleton_append]at h
   cases A with
   |nil=>
    have h:=(List.cons.inj h).1
    exact⟨0,l,rfl,h.symm,rfl⟩
   |cons V A=>
    obtain⟨h1,h2⟩:=List.cons.inj h
    obtain⟨j,m,h3,h4,h5⟩:=lnsU_at L (i+1) A B U h2
    refine⟨j+1,m,by simpa using h3,by rw[h4,show i+1+j=i+(j+1) from by omega],?_⟩
    rw[List.take_succ_cons,lnsU,if_neg he,h5,h1];rfl
theorem lnU_line (i:Nat)(l:Str):∀t∈lnU i l,t.l=i+1:=fun t h=>by
 unfold lnU at h
 rcases List.mem_append.1 h with h|h
 ·exact(lin_k (i+1) l _ 0 (by omega) t h).2.2
 ·rw[List.mem_singleton]at h;subst h;rfl
theorem lns_ok:∀(L:List Str) (i:Nat),(∀j l,L[j]?=some l→(linQ (i+j+1) l (l.length+1) 0).2=none)→(lnsQ i L).2.2=0
 |[],i,_=>rfl
 |l::L,i,h=>by
  have h0:=h 0 l rfl
  rw[Nat.add_zero]at h0
  rw[lnsQ,h0]
  simp only
  have h1:=lns_ok L (i+1) fun j m hm=>by
   have:=h (j+1) m (by simpa using hm)
   rw[show i+1+j+1=i+(j+1)+1 from by omega];exact this
  rw[if_neg (by rw[h1];simp)]
def nlN:Nat→Str→Option Nat
 |0,_=>some 0
 |j+1,s=>bif (cutB 10 s).2.2 then(nlN j (cutB 10 s).2.1).map (· +((cutB 10 s).1.length+1))else none
theorem cutB_eq (c:UInt8):∀s:Str,(cutB c s).2.2=true→s=(cutB c s).1++c::(cutB c s).2.1∧c∉(cutB c s).1
 |[],h=>by cases h
 |x::l,h=>by
  rw[cutB_cons]at h⊢
  by_cases hx:x=c
  ·rw[if_pos hx];exact⟨by rw[hx];rfl,by simp⟩
  ·rw[if_neg hx]at h⊢
   obtain⟨h1,h2⟩:=cutB_eq c l h
   refine⟨by simp only[List.cons_append];rw[←h1],?_⟩
   simp only[List.mem_cons,not_or]
   exact⟨fun h=>hx h.symm,h2⟩
theorem splB_mid (c:UInt8)(r:Str):∀a:Str,c∉a→splB c (a++c::r)=a::splB c r
 |[],_=>by rw[List.nil_append,splB_cons,if_pos rfl]
 |x::a,h=>by
  rw[List.cons_append,splB_cons,if_neg (fun hh=>h (by rw[hh];exact List.mem_cons_self ..)),splB_mid c r a (fun hh=>h (List.mem_cons_of_mem _ hh))]
theorem nlN_spl:∀(j:Nat) (s:Str),j<(splB 10 s).length→∃n,nlN j s=some n∧n≤s.length∧splB 10 (s.take n)=(splB 10 s).take j++[[]]
 |0,s,_=>⟨0,rfl,Nat.zero_le _,rfl⟩
 |j+1,s,h=>by
  have hc:=splB_cut 10 s
  cases hb:(cutB 10 s).2.2 with
  |false=>rw[hc,hb]at h;simp at h
  |true=>
   obtain⟨e1,e2⟩:=cutB_eq 10 s hb
   rw[hb,if_pos rfl]at hc
   rw[hc,List.length_cons]at h
   obtain⟨n,h1,h2,h3⟩:=nlN_spl j (cutB 10 s).2.1 (by omega)
   refine⟨n+((cutB 10 s).1.length+1),by rw[nlN,hb,cond_true,h1];rfl,?_,?_⟩
   ·have:=congrArg List.length e1
    rw[List.length_append,List.length_cons]at this;omega
   ·rw[hc,List.take_succ_cons,List.cons_append,←h3]
    have e3:∀a r:Str,(a++10::r).take (n+(a.length+1))=a++10::r.take n:=fun a r=>by
     rw[List.take_append,List.take_of_length_le (by omega),show n+(a.length+1)-a.length=n+1 from by omega,List.take_succ_cons]
    have e4:=e3 (cutB 10 s).1 (cutB 10 s).2.1
    rw[←e1]at e4
    rw[e4]
    exact splB_mid 10 _ _ e2
theorem places (s:Str)(he:(tokQ s).2.2=0)(hT:(tokQ s).1≠[])(hf:(parD s).2.2≠0):
  (∃t∈(tokQ s).1,(t.l,t.c)=(parD s).2.1)∧∃n,nlN ((parD s).2.1.1-1) s=some n∧n≤s.length∧1≤(parD s).2.1.1∧((parD (s.take n)).2.2=0∨((parD (s.take n)).2.2=4∧(parD (s.take n)).2.1=(0,0))):=by
 have h16:¬16384<s.length:=fun h=>by unfold tokQ at he;rw[if_pos h]at he;cases he
 have hfa:=tok_facts s
 have hq:(lnsQ 0 (splB 10 s)).2.2=0:=by unfold tokQ at he;rw[if_neg h16]at he;exact he
 have hq1:(tokQ s).1=(lnsU 0 (splB 10 s)).flatten:=by unfold tokQ;rw[if_neg h16];exact(lns_lines _ _ hq).1
 have hok:=(lns_lines _ _ hq).2.2
 have hne:¬lnsU 0 (splB 10 s)=[]:=fun h=>hT (by rw[hq1,h];rfl)
 have hlen:∀U∈lnsU 0 (splB 10 s),LnT U∧U.length≤40000:=fun U hU=>by
  refine⟨lnsU_ok _ _ U hU,?_⟩
  have:U.length≤(lnsU 0 (splB 10 s)).flatten.length:=by
   obtain⟨A,B,h⟩:=List.append_of_mem hU
   rw[h];simp;omega
  rw[←hq1]at this
  omega
 have hp:=par_eq s
 rw[if_neg (by rw[he];simp),if_neg hne]at hp
 rw[hp]at hf⊢
 obtain⟨A,U,B,q1,⟨t,ht,q2⟩,q3⟩:=parW_err _ true d0 hlen hf
 refine⟨⟨t,?_,q2⟩,?_⟩
 ·rw[hq1,q1];simp;exact .inr (.inl ht)
 ·obtain⟨j,l,r1,r2,r3⟩:=lnsU_at _ _ _ _ _ q1
  rw[Nat.zero_add]at r2
  have hl:=lnU_line j l t (by rw[←r2];exact ht)
  have hj:j<(splB 10 s).length:=(List.getElem?_eq_some_iff.1 r1).1
  obtain⟨n,n1,n2,n3⟩:=nlN_spl j s hj
  have e1:(parW (lnsU 0 (splB 10 s)) true d0).2.1.1=j+1:=by rw[←q2];exact hl
  refine⟨n,by rw[e1];exact n1,n2,by omega,?_⟩
  have ht2:(tokQ (s.take n)).2.2=0:=by
   unfold tokQ
   rw[if_neg (by rw[List.length_take];omega),n3]
   refine lns_ok _ _ fun k m hm=>?_
   rw[List.getElem?_append]at hm
   split at hm
   ·rw[List.getElem?_take]at hm
    split at hm
    ·exact hok k m hm
    ·cases hm
   ·generalize k-((splB 10 s).take j).length=z at hm
    cases z with
    |zero=>cases hm;rfl
    |succ z=>cases hm
  have hp2:=par_eq (s.take n)
  rw[if_neg (by rw[ht2];simp),n3,lnsU_app,r3]at hp2
  have e2:lnsU (0+((splB 10 s).take j).length) [[]]=[]:=rfl
  rw[e2,List.append_nil]at hp2
  rw[hp2]
  by_cases hA:A=[]
  ·rw[if_pos hA];exact .inr ⟨rfl,rfl⟩
  ·rw[if_neg hA];exact .inl q3
end Go.Proofs.YtlnpgbnhcondjaaGreatDoor.Fx
namespace Go.Proofs.YtlnpgbnhcondjaaGreatDoor.Fx
open Vg Tf
set_option linter.unusedSimpArgs false
set_option linter.unusedVariables false
set_option maxRecDepth 100000
set_option maxHeartbeats 4000000
end Go.Proofs.YtlnpgbnhcondjaaGreatDoor.Fx
namespace Go.Proofs.YtlnpgbnhcondjaaGreatDoor.Fx
set_option linter.unusedVariables false
set_option linter.unusedSimpArgs false
section
variable {T:List Tk}
structure RsO (d:Dg):Prop where
 t:d.tys.length≤30
 c:d.cus.length≤30
 m:d.mas.length≤30
 i:d.ins.length≤30
 o:d.ous.length≤30
 b:d.bls.length≤200
 tA:∀x∈d.tys,nmOk x.nm=true∧fok x.ty=true
 cA:∀x∈d.cus,nmOk x.nm=true∧cuOk x.xs x.ys=true
 mA:∀x∈d.mas,nmOk x.nm=true∧maOk x.xs x.ys x.zs=true
 iA:∀x∈d.ins,poOk x=true
 bA:∀x∈d.bls,blOk x=true
 oA:∀x∈d.ous,nmOk x=true
theorem RsO.ok {d:Dg}(h:RsO d)(hn:nmOk d.nm=true):dgOk d=true:=by
 unfold dgOk
 simp only[Bool.and_eq_true,decide_eq_true_eq,List.all_eq_true]
 exact⟨hn,⟨h.t,h.c,h.m,h.i,h.o⟩,h.b,h.tA,h.cA,h.mA,h.iA,h.bA,h.oA⟩
theorem map_some_inv {α β:Type}{o:Option α}{g:α→β}{y:β}(h:o.map g=some y):∃x,o=some x∧g x=y:=by
 cases o with
 |none=>cases h
 |some x=>exact⟨x,rfl,Option.some.inj h⟩
end
theorem d0_rs:RsO d0:=⟨by decide,by decide,by decide,by decide,by decide,by decide,(fun x h=>by cases h),(fun x h=>by cases h),(fun x h=>by cases h),(fun x h=>by cases h),(fun x h=>by cases h),(fun x h=>by cases h)⟩
theorem nmOk_len {s:Str}(h:nmOk s=true):s.length≤24:=by
 unfold nmOk at h
 simp only[Bool.and_eq_true,decide_eq_true_eq]at h
 exact h.2.1
theorem axOk_len {l:List Int}(h:axOk l=true):l.length≤32:=by
 unfold axOk at h
 simp only[Bool.and_eq_true,decide_eq_true_eq]at h
 exact h.1.2
theorem kindQ_len {s:Str}{a k t:Nat}(h:kindQ s=some (a,k,t)):a≤3∧k≤2∧t≤2:=by
 unfold kindQ at h
 obtain⟨r,hr,he⟩:=map_some_inv h
 have h1:=List.mem_of_find?_eq_some hr
 have:kindT.all (fun r=>decide (r.2.1≤3∧r.2.2.1≤2∧r.2.2.2≤2))=true:=by decide
 have h2:=of_decide_eq_true (List.all_eq_true.1 this r h1)
 rw[he]at h2;exact h2
structure BlS (b:Bl):Prop where
 nm:b.nm.length≤24
 ty:b.ty.length≤24
 tb:b.tb.length≤24
 ins:b.ins.length≤3
 ks:b.ks.length≤2
 insA:∀s∈b.ins,s.length≤24
 ksA:∀k∈b.ks,fitB k=true
 kd:(kindQ b.kd).isSome=true
theorem blOk_s {b:Bl}(h:blOk b=true):BlS b:=by
 unfold blOk at h
 cases hq:kindQ b.kd with
 |none=>rw[hq]at h;cases h
 |some x=>
  obtain⟨a,k,t⟩:=x
  rw[hq]at h
  simp only[Bool.and_eq_true,decide_eq_true_eq,List.all_eq_true]at h
  obtain⟨h1,h2,h3,h4,h5,h6,h7⟩:=h
  obtain⟨q1,q2,_⟩:=kindQ_len hq
  refine⟨nmOk_len h3,nmOk_len h4,?_,by omega,by omega,fun s hs=>nmOk_len (h6 s hs),h7,by rw[hq];rfl⟩
  split at h5
  ·rw[eq_of_beq h5];decide
  ·exact nmOk_len h5
structure MpS (m:Mp):Prop where
 xs:m.xs.length≤32
 ys:m.ys.length≤32
 zs:m.zs.length≤32
 zA:∀z∈m.zs,z.length≤32
theorem maOk_s {m:Mp}(h:maOk m.xs m.ys m.zs=true):MpS m:=by
 unfold maOk at h
 simp only[Bool.and_eq_true,decide_eq_true_eq,List.all_eq_true]at h
 obtain⟨h1,h2,h3,h4⟩:=h
 have q1:=axOk_len h1
 have q2:=axOk_len h2
 exact⟨q1,q2,by omega,fun z hz=>by rw[(h4 z hz).1];exact q2⟩
theorem cuOk_s {xs ys:List Int}(h:cuOk xs ys=true):xs.length≤32∧ys.length≤32:=by
 unfold cuOk at h
 simp only[Bool.and_eq_true,decide_eq_true_eq]at h
 have:=axOk_len h.2.1
 exact⟨this,by omega⟩
theorem sm_ok {a:DgL}(h:a.c=d0∨dgOk a.c=true):a.sm∧∀m∈a.mas,m.xs.length≤1000000000000000∧m.ys.length≤1000000000000000∧m.zs.length≤1000000000000000:=by
 have key:∀d:Dg,(d=d0∨dgOk d=true)→d.nm.length≤24∧RsO d:=by
  intro d hd
  rcases hd with rfl|hd
  ·exact⟨by decide,d0_rs⟩
  ·unfold dgOk at hd
   simp only[Bool.and_eq_true,decide_eq_true_eq,List.all_eq_true]at hd
   obtain⟨hn,⟨n1,n2,n3,n4,n5⟩,n6,ht,hcu,hma,hpo,hbl,hou⟩:=hd
   exact⟨nmOk_len hn,⟨n1,n2,n3,n4,n5,n6,ht,hcu,hma,hpo,hbl,hou⟩⟩
 obtain⟨hn,R⟩:=key a.c h
 have e2:a.c.cus.length=a.cus.length:=List.length_map _
 have e3:a.c.mas.length=a.mas.length:=List.length_map _
 have e5:a.c.bls.length=a.bls.length:=List.length_map _
 have r1:=R.t
 have r2:=R.c
 have r3:=R.m
 have r4:=R.i
 have r5:=R.b
 have r6:=R.o
 rw[e2]at r2
 rw[e3]at r3
 rw[e5]at r5
 have hm:∀m∈a.mas,MpS m.c∧m.nm.length≤24:=fun m hm=>by
  have:=R.mA m.c (List.mem_map.2 ⟨m,hm,rfl⟩)
  exact⟨maOk_s this.2,nmOk_len this.1⟩
 refine⟨⟨Nat.le_trans hn (by decide),⟨Nat.le_trans r1 (by decide),fun t ht=>Nat.le_trans (nmOk_len (R.tA t ht).1) (by decide)⟩,⟨by omega,fun c hc=>?_⟩,⟨by omega,fun m hmm=>?_⟩,⟨Nat.le_trans r4 (by decide),fun p hp=>?_⟩,⟨by omega,fun b hb=>?_⟩,⟨Nat.le_trans r6 (by decide),fun s hs=>Nat.le_trans (nmOk_len (R.oA s hs)) (by decide)⟩⟩,fun m hmm=>?_⟩
 ·obtain⟨q1,q2⟩:=R.cA c.c (List.mem_map.2 ⟨c,hc,rfl⟩)
  have:=cuOk_s q2
  have:=nmOk_len q1
  exact⟨by omega,by omega,by omega⟩
 ·obtain⟨q1,q2⟩:=hm m hmm
  refine⟨by omega,fun v hv=>?_⟩
  have:=q1.zA v.2 (List.mem_map.2 ⟨v,hv,rfl⟩)
  omega
 ·have hp:=R.iA p hp
  unfold poOk at hp
  simp only[Bool.and_eq_true]at hp
  have q1:=nmOk_len hp.1
  have q2:=nmOk_len hp.2.1
  exact⟨by omega,by omega⟩
 ·have q:=blOk_s (R.bA b.c (List.mem_map.2 ⟨b,hb,rfl⟩))
  have:=q.nm
  have:=q.ty
  have:=q.tb
  have:=q.ins
  have:=q.ks
  exact⟨by omega,by omega,by omega,by omega,by omega,fun s hs=>by have:=q.insA s hs;omega⟩
 ·obtain⟨q1,_⟩:=hm m hmm
  have h1:m.xs.length≤32:=q1.xs
  have h2:m.ys.length≤32:=q1.ys
  have h3:m.c.zs.length≤32:=q1.zs
  have h4:m.c.zs.length=m.zs.length:=List.length_map _
  exact⟨by omega,by omega,by omega⟩
end Go.Proofs.YtlnpgbnhcondjaaGreatDoor.Fx
