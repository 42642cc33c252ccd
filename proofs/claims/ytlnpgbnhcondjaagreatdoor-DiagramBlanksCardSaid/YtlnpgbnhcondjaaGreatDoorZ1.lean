/-  -/
import Derived.Test.YtlnpgbnhcondjaaGreatDoorPS
import Derived.Test.YtlnpgbnhcondjaaGreatDoorYX
import Derived.Test.YtlnpgbnhcondjaaGreatDoorY4
import Derived.Test.YtlnpgbnhcondjaaGreatDoorYF
namespace Go.Proofs.YtlnpgbnhcondjaaGreatDoor.Fx
open Vg Tf
set_option linter.unusedSimpArgs false
set_option linter.unusedVariables false
set_option maxRecDepth 100000
set_option maxHeartbeats 4000000
theorem awake_ {H:Hp}(hE:ErR H):CallH H Tryz.prog 12 [] (Bo true):=by
 have hp:=dparse_ hE awT (by decide)
 rw[awP]at hp
 refine CallH.mkS Tryz.func12 rfl en12 (by simp[Tryz.ntmps12]) (ClA.of rfl) fun C hR hP hH hL=>?_
 refine Sm.go 100 ?_
 refine vv ?_
 refine CallQ.x 110 hL hp hH (Sub.nil _) ClM.nil (fun _=>Fresh.nil _ _) rfl rfl rfl (fun x C1 H1 l1 k1 j1 p1=>?_)
 obtain⟨px,ox⟩:=p1
 have ox:=ox.mono j1
 have hcr:x.r.map Cv.v=[.v (sv x.nm),.v (vsl x.ty x.tys.length),.v (vsl x.cu x.cus.length),.v (vsl x.ma x.mas.length),.v (vsl x.i x.ins.length),.v (vsl x.bl x.bls.length),.v (vsl x.ou x.ous.length)]:=rfl
 rw[hcr]
 have hb:x.bls.map BlL.c=awD.bls:=congrArg Dg.bls px
 have ht:x.tys=awD.tys:=congrArg Dg.tys px
 have hi:x.ins=awD.ins:=congrArg Dg.ins px
 have hbl:x.bls.length=2:=by have:=congrArg List.length hb;rw[List.length_map]at this;exact this
 have htl:x.tys.length=1:=by rw[ht];rfl
 have hfd:=pfind_ x ox [116,119,111] (by rw[hi];decide) (by rw[hbl];decide)
 rw[px]at hfd
 have hfv:fndQ (sigs awD) [116,119,111]=2:=by rfl
 rw[hfv]at hfd
 have hfd:CallH C1.hp Tryz.prog 32 [.agg [.v (sv x.nm),.v (vsl x.ty x.tys.length),.v (vsl x.cu x.cus.length),.v (vsl x.ma x.mas.length),.v (vsl x.i x.ins.length),.v (vsl x.bl x.bls.length),.v (vsl x.ou x.ous.length)],S [116,119,111]] (I 2):=hfd
 rw[hbl,htl]at hfd
 simp only[hbl,htl]
 refine vv ?_
 refine CallQ.h 120 hfd (Hp.le.refl _) rfl ?_
 refine vv ?_
 obtain⟨b0,b1,hb2⟩:∃b0 b1,x.bls=[b0,b1]:=by
  cases h1:x.bls with
  |nil=>rw[h1]at hbl;cases hbl
  |cons b0 r=>
   cases r with
   |nil=>rw[h1]at hbl;cases hbl
   |cons b1 r=>
    cases r with
    |nil=>exact⟨b0,b1,rfl⟩
    |cons b2 r=>rw[h1]at hbl;simp at hbl
 have hk:b1.c.kd=[99,111,110,115,116]:=by
  rw[hb2]at hb
  have h2:b1.c=⟨[116,119,111],[99,111,110,115,116],[117],[],[],[2]⟩:=(List.cons.inj (List.cons.inj hb).2).1
  rw[h2]
 refine Sm.bringR 211 82 24 (v:= .slice x.bl.o 2 x.bl.c) (sz:=6) (rows:=[b0.r,b1.r]) (by have:=ox.bl;rw[hb2]at this;exact this) rfl rfl ?_
 refine Sm.go 220 ?_
 simp(maxSteps:=2000000) only[go_sem,rowsC,List.flatten_cons,List.flatten_nil,List.append_nil,List.cons_append,List.nil_append,List.map_cons,List.map_nil,hk]
 refine Sm.bringR 212 93 38 (v:= .slice x.ty.o 1 x.ty.c) (sz:=11) (rows:=awD.tys.map Td.r) (by have:=ox.ty;rw[ht]at this;exact this) rfl rfl ?_
 have e1:rowsC (awD.tys.map Td.r)=[sC [116],iC 16,.v (.bool true),iC 1,iC 0,iC 4,iC 0,iC 0,iC (-1),iC 0,iC 0]:=rfl
 rw[e1]
 refine Sm.go 230 ?_
 refine vv ?_
 exact⟨by decide,RetQ.of (hR C1 l1) rfl ⟨rfl,trivial⟩ rfl (Sub.nil _) ClM.nil (ClV.of rfl)⟩
end Go.Proofs.YtlnpgbnhcondjaaGreatDoor.Fx
namespace Go.Proofs.YtlnpgbnhcondjaaGreatDoor.Fx
open Vg Tf
set_option linter.unusedSimpArgs false
set_option linter.unusedVariables false
set_option maxRecDepth 100000
set_option maxHeartbeats 4000000
end Go.Proofs.YtlnpgbnhcondjaaGreatDoor.Fx
namespace Go.Proofs.YtlnpgbnhcondjaaGreatDoor.Fx
set_option linter.unusedVariables false
set_option linter.unusedSimpArgs false
theorem parW_err:∀(Ls:List (List Tk)) (beg:Bool) (d:Dg),(∀U∈Ls,LnT U∧U.length≤40000)→(parW Ls beg d).2.2≠0→
  ∃A U B,Ls=A++U::B∧(∃t∈U,(t.l,t.c)=(parW Ls beg d).2.1)∧(parW A beg d).2.2=0
 |[],_,_,_,h=>absurd rfl h
 |U::Ls,beg,d,hU,h=>by
  obtain⟨hu,hl⟩:=hU U (List.mem_cons_self ..)
  have hpos:0<U.length:=List.length_pos_iff.2 hu.n
  rw[parW]at h⊢
  cases ho:(lneP U beg d ps0).1 with
  |none=>
   rw[ho]at h
   have hm:∀i,i<U.length→∃t∈U,(t.l,t.c)=((U.getD (i+0) tk0).l,(U.getD (i+0) tk0).c):=fun i hi=>
    ⟨U[i],List.getElem_mem hi,by rw[Nat.add_zero,List.getD_eq_getElem?_getD,List.getElem?_eq_getElem hi];rfl⟩
   have hs:SimT (fun a b=>∃t∈U,(t.l,t.c)=a) U U 0:=⟨hu.g,fun _ _=>rfl,fun _ _=>rfl,hm⟩
   have hp:SimP (fun a b=>∃t∈U,(t.l,t.c)=a) U 0 ps0 ps0:=⟨rfl,hpos,rfl,fun h=>absurd rfl h⟩
   have hl2:=(lne_sim hs hu hp beg d).2.1 ho
   exact⟨[],U,Ls,rfl,hl2.2.2.2 ((lne_rd hu.g hl beg d hpos).2 ho),rfl⟩
  |some d'=>
   rw[ho]at h
   simp only at h⊢
   obtain⟨A,V,B,q1,q2,q3⟩:=parW_err Ls false d' (fun V hV=>hU V (List.mem_cons_of_mem _ hV)) h
   refine⟨U::A,V,B,by rw[q1];rfl,q2,?_⟩
   rw[parW,ho];exact q3
theorem lnsU_app:∀(L M:List Str) (i:Nat),lnsU i (L++M)=lnsU i L++lnsU (i+L.length) M
 |[],M,i=>by simp[lnsU]
 |l::L,M,i=>by
  rw[List.cons_append,lnsU,lnsU,lnsU_app L M (i+1),List.append_assoc,List.length_cons,show i+1+L.length=i+(L.length+1) from by omega]
theorem lnsU_at:∀(L:List Str) (i:Nat) (A B:List (List Tk)) (U:List Tk),lnsU i L=A++U::B→∃j l,L[j]?=some l∧U=lnU (i+j) l∧lnsU i (L.take j)=A
 |[],i,A,B,U,h=>by simp[lnsU]at h
 |l::L,i,A,B,U,h=>by
  rw[lnsU]at h
  by_cases he:(linQ (i+1) l (l.length+1) 0).1.isEmpty=true
  ·rw[if_pos he,List.nil_append]at h
   obtain⟨j,m,h1,h2,h3⟩:=lnsU_at L (i+1) A B U h
   refine⟨j+1,m,by simpa using h1,by rw[h2,show i+1+j=i+(j+1) from by omega],?_⟩
   rw[List.take_succ_cons,lnsU,if_pos he];exact h3
  ·rw[if_neg he,List.singleton_append]at h
   cases A with
   |nil=>
    have h:=(List.cons.inj h).1
    exact⟨0,l,rfl,h.symm,rfl⟩
   |cons V A=>
    obtain⟨h1,h2⟩:=List.cons.inj h
    obtain⟨j,m,h3,h4,h5⟩:=lnsU_at L (i+1) A B U h2
    refine⟨j+1,m,by simpa using h3,by rw[h4,show i+1+j=i+(j+1) from by omega],?_⟩
    rw[List.take_succ_cons,lnsU,if_neg he,h5,h1];rfl
theorem lnU_line (i:Nat)(l:Str):∀t∈lnU i l,t.l=i+1:=fun t h=>by
 unfold lnU at h
 rcases List.mem_append.1 h with h|h
 ·exact(lin_k (i+1) l _ 0 (by omega) t h).2.2
 ·rw[List.mem_singleton]at h;subst h;rfl
theorem lns_ok:∀(L:List Str) (i:Nat),(∀j l,L[j]?=some l→(linQ (i+j+1) l (l.length+1) 0).2=none)→(lnsQ i L).2.2=0
 |[],i,_=>rfl
 |l::L,i,h=>by
  have h0:=h 0 l rfl
  rw[Nat.add_zero]at h0
  rw[lnsQ,h0]
  simp only
  have h1:=lns_ok L (i+1) fun j m hm=>by
   have:=h (j+1) m (by simpa using hm)
   rw[show i+1+j+1=i+(j+1)+1 from by omega];exact this
  rw[if_neg (by rw[h1];simp)]
def nlN:Nat→Str→Option Nat
 |0,_=>some 0
 |j+1,s=>bif (cutB 10 s).2.2 then(nlN j (cutB 10 s).2.1).map (· +((cutB 10 s).1.length+1))else none
theorem cutB_eq (c:UInt8):∀s:Str,(cutB c s).2.2=true→s=(cutB c s).1++c::(cutB c s).2.1∧c∉(cutB c s).1
 |[],h=>by cases h
 |x::l,h=>by
  rw[cutB_cons]at h⊢
  by_cases hx:x=c
  ·rw[if_pos hx];exact⟨by rw[hx];rfl,by simp⟩
  ·rw[if_neg hx]at h⊢
   obtain⟨h1,h2⟩:=cutB_eq c l h
   refine⟨by simp only[List.cons_append];rw[←h1],?_⟩
   simp only[List.mem_cons,not_or]
   exact⟨fun h=>hx h.symm,h2⟩
theorem splB_mid (c:UInt8)(r:Str):∀a:Str,c∉a→splB c (a++c::r)=a::splB c r
 |[],_=>by rw[List.nil_append,splB_cons,if_pos rfl]
 |x::a,h=>by
  rw[List.cons_append,splB_cons,if_neg (fun hh=>h (by rw[hh];exact List.mem_cons_self ..)),splB_mid c r a (fun hh=>h (List.mem_cons_of_mem _ hh))]
theorem nlN_spl:∀(j:Nat) (s:Str),j<(splB 10 s).length→∃n,nlN j s=some n∧n≤s.length∧splB 10 (s.take n)=(splB 10 s).take j++[[]]
 |0,s,_=>⟨0,rfl,Nat.zero_le _,rfl⟩
 |j+1,s,h=>by
  have hc:=splB_cut 10 s
  cases hb:(cutB 10 s).2.2 with
  |false=>rw[hc,hb]at h;simp at h
  |true=>
   obtain⟨e1,e2⟩:=cutB_eq 10 s hb
   rw[hb,if_pos rfl]at hc
   rw[hc,List.length_cons]at h
   obtain⟨n,h1,h2,h3⟩:=nlN_spl j (cutB 10 s).2.1 (by omega)
   refine⟨n+((cutB 10 s).1.length+1),by rw[nlN,hb,cond_true,h1];rfl,?_,?_⟩
   ·have:=congrArg List.length e1
    rw[List.length_append,List.length_cons]at this;omega
   ·rw[hc,List.take_succ_cons,List.cons_append,←h3]
    have e3:∀a r:Str,(a++10::r).take (n+(a.length+1))=a++10::r.take n:=fun a r=>by
     rw[List.take_append,List.take_of_length_le (by omega),show n+(a.length+1)-a.length=n+1 from by omega,List.take_succ_cons]
    have e4:=e3 (cutB 10 s).1 (cutB 10 s).2.1
    rw[←e1]at e4
    rw[e4]
    exact splB_mid 10 _ _ e2
theorem places (s:Str)(he:(tokQ s).2.2=0)(hT:(tokQ s).1≠[])(hf:(parD s).2.2≠0):
  (∃t∈(tokQ s).1,(t.l,t.c)=(parD s).2.1)∧∃n,nlN ((parD s).2.1.1-1) s=some n∧n≤s.length∧1≤(parD s).2.1.1∧((parD (s.take n)).2.2=0∨((parD (s.take n)).2.2=4∧(parD (s.take n)).2.1=(0,0))):=by
 have h16:¬16384<s.length:=fun h=>by unfold tokQ at he;rw[if_pos h]at he;cases he
 have hfa:=tok_facts s
 have hq:(lnsQ 0 (splB 10 s)).2.2=0:=by unfold tokQ at he;rw[if_neg h16]at he;exact he
 have hq1:(tokQ s).1=(lnsU 0 (splB 10 s)).flatten:=by unfold tokQ;rw[if_neg h16];exact(lns_lines _ _ hq).1
 have hok:=(lns_lines _ _ hq).2.2
 have hne:¬lnsU 0 (splB 10 s)=[]:=fun h=>hT (by rw[hq1,h];rfl)
 have hlen:∀U∈lnsU 0 (splB 10 s),LnT U∧U.length≤40000:=fun U hU=>by
  refine⟨lnsU_ok _ _ U hU,?_⟩
  have:U.length≤(lnsU 0 (splB 10 s)).flatten.length:=by
   obtain⟨A,B,h⟩:=List.append_of_mem hU
   rw[h];simp;omega
  rw[←hq1]at this
  omega
 have hp:=par_eq s
 rw[if_neg (by rw[he];simp),if_neg hne]at hp
 rw[hp]at hf⊢
 obtain⟨A,U,B,q1,⟨t,ht,q2⟩,q3⟩:=parW_err _ true d0 hlen hf
 refine⟨⟨t,?_,q2⟩,?_⟩
 ·rw[hq1,q1];simp;exact .inr (.inl ht)
 ·obtain⟨j,l,r1,r2,r3⟩:=lnsU_at _ _ _ _ _ q1
  rw[Nat.zero_add]at r2
  have hl:=lnU_line j l t (by rw[←r2];exact ht)
  have hj:j<(splB 10 s).length:=(List.getElem?_eq_some_iff.1 r1).1
  obtain⟨n,n1,n2,n3⟩:=nlN_spl j s hj
  have e1:(parW (lnsU 0 (splB 10 s)) true d0).2.1.1=j+1:=by rw[←q2];exact hl
  refine⟨n,by rw[e1];exact n1,n2,by omega,?_⟩
  have ht2:(tokQ (s.take n)).2.2=0:=by
   unfold tokQ
   rw[if_neg (by rw[List.length_take];omega),n3]
   refine lns_ok _ _ fun k m hm=>?_
   rw[List.getElem?_append]at hm
   split at hm
   ·rw[List.getElem?_take]at hm
    split at hm
    ·exact hok k m hm
    ·cases hm
   ·generalize k-((splB 10 s).take j).length=z at hm
    cases z with
    |zero=>cases hm;rfl
    |succ z=>cases hm
  have hp2:=par_eq (s.take n)
  rw[if_neg (by rw[ht2];simp),n3,lnsU_app,r3]at hp2
  have e2:lnsU (0+((splB 10 s).take j).length) [[]]=[]:=rfl
  rw[e2,List.append_nil]at hp2
  rw[hp2]
  by_cases hA:A=[]
  ·rw[if_pos hA];exact .inr ⟨rfl,rfl⟩
  ·rw[if_neg hA];exact .inl q3
end Go.Proofs.YtlnpgbnhcondjaaGreatDoor.Fx
namespace Go.Proofs.YtlnpgbnhcondjaaGreatDoor.Fx
open Vg Tf
set_option linter.unusedSimpArgs false
set_option linter.unusedVariables false
set_option maxRecDepth 100000
set_option maxHeartbeats 4000000
theorem lnsU_sm (s:Str)(he:(tokQ s).2.2=0):(tokQ s).1=(lnsU 0 (splB 10 s)).flatten∧∀U∈lnsU 0 (splB 10 s),LnT U∧U.length≤40000:=by
 have h16:¬16384<s.length:=fun h=>by unfold tokQ at he;rw[if_pos h]at he;cases he
 have hfa:=tok_facts s
 have hq:(lnsQ 0 (splB 10 s)).2.2=0:=by unfold tokQ at he;rw[if_neg h16]at he;exact he
 have hq1:(tokQ s).1=(lnsU 0 (splB 10 s)).flatten:=by unfold tokQ;rw[if_neg h16];exact(lns_lines _ _ hq).1
 refine⟨hq1,fun U hU=>⟨lnsU_ok _ _ U hU,?_⟩⟩
 have:U.length≤(lnsU 0 (splB 10 s)).flatten.length:=by
  obtain⟨A,B,h⟩:=List.append_of_mem hU
  rw[h];simp;omega
 rw[←hq1]at this
 omega
end Go.Proofs.YtlnpgbnhcondjaaGreatDoor.Fx
