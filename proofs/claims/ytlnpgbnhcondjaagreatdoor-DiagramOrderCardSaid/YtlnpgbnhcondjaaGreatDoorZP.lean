/-  -/
import Derived.Test.YtlnpgbnhcondjaaGreatDoorTf
import Derived.Test.YtlnpgbnhcondjaaGreatDoorYX
import Derived.Test.YtlnpgbnhcondjaaGreatDoorY5
import Derived.Test.YtlnpgbnhcondjaaGreatDoorRD
import Derived.Test.YtlnpgbnhcondjaaGreatDoorYU
import Derived.Test.YtlnpgbnhcondjaaGreatDoorO2
namespace Go.Proofs.YtlnpgbnhcondjaaGreatDoor.Fx
open Vg Tf
set_option linter.unusedSimpArgs false
set_option linter.unusedVariables false
set_option maxRecDepth 100000
set_option maxHeartbeats 4000000
theorem awake_ {H:Hp}(hE:ErR H):CallH H Tryz.prog 12 [] (Bo true):=by
 have hp:=dparse_ hE awT (by decide)
 rw[awP]at hp
 refine CallH.mkS Tryz.func12 rfl en12 (by simp[Tryz.ntmps12]) (ClA.of rfl) fun C hR hP hH hL=>?_
 refine Sm.go 100 ?_
 refine vv ?_
 refine CallQ.x 110 hL hp hH (Sub.nil _) ClM.nil (fun _=>Fresh.nil _ _) rfl rfl rfl (fun x C1 H1 l1 k1 j1 p1=>?_)
 obtain⟨px,ox⟩:=p1
 have ox:=ox.mono j1
 have hcr:x.r.map Cv.v=[.v (sv x.nm),.v (vsl x.ty x.tys.length),.v (vsl x.cu x.cus.length),.v (vsl x.ma x.mas.length),.v (vsl x.i x.ins.length),.v (vsl x.bl x.bls.length),.v (vsl x.ou x.ous.length)]:=rfl
 rw[hcr]
 have hb:x.bls.map BlL.c=awD.bls:=congrArg Dg.bls px
 have ht:x.tys=awD.tys:=congrArg Dg.tys px
 have hi:x.ins=awD.ins:=congrArg Dg.ins px
 have hbl:x.bls.length=2:=by have:=congrArg List.length hb;rw[List.length_map]at this;exact this
 have htl:x.tys.length=1:=by rw[ht];rfl
 have hfd:=pfind_ x ox [116,119,111] (by rw[hi];decide) (by rw[hbl];decide)
 rw[px]at hfd
 have hfv:fndQ (sigs awD) [116,119,111]=2:=by rfl
 rw[hfv]at hfd
 have hfd:CallH C1.hp Tryz.prog 32 [.agg [.v (sv x.nm),.v (vsl x.ty x.tys.length),.v (vsl x.cu x.cus.length),.v (vsl x.ma x.mas.length),.v (vsl x.i x.ins.length),.v (vsl x.bl x.bls.length),.v (vsl x.ou x.ous.length)],S [116,119,111]] (I 2):=hfd
 rw[hbl,htl]at hfd
 simp only[hbl,htl]
 refine vv ?_
 refine CallQ.h 120 hfd (Hp.le.refl _) rfl ?_
 refine vv ?_
 obtain⟨b0,b1,hb2⟩:∃b0 b1,x.bls=[b0,b1]:=by
  cases h1:x.bls with
  |nil=>rw[h1]at hbl;cases hbl
  |cons b0 r=>
   cases r with
   |nil=>rw[h1]at hbl;cases hbl
   |cons b1 r=>
    cases r with
    |nil=>exact⟨b0,b1,rfl⟩
    |cons b2 r=>rw[h1]at hbl;simp at hbl
 have hk:b1.c.kd=[99,111,110,115,116]:=by
  rw[hb2]at hb
  have h2:b1.c=⟨[116,119,111],[99,111,110,115,116],[117],[],[],[2]⟩:=(List.cons.inj (List.cons.inj hb).2).1
  rw[h2]
 refine Sm.bringR 211 82 24 (v:= .slice x.bl.o 2 x.bl.c) (sz:=6) (rows:=[b0.r,b1.r]) (by have:=ox.bl;rw[hb2]at this;exact this) rfl rfl ?_
 refine Sm.go 220 ?_
 simp(maxSteps:=2000000) only[go_sem,rowsC,List.flatten_cons,List.flatten_nil,List.append_nil,List.cons_append,List.nil_append,List.map_cons,List.map_nil,hk]
 refine Sm.bringR 212 93 38 (v:= .slice x.ty.o 1 x.ty.c) (sz:=11) (rows:=awD.tys.map Td.r) (by have:=ox.ty;rw[ht]at this;exact this) rfl rfl ?_
 have e1:rowsC (awD.tys.map Td.r)=[sC [116],iC 16,.v (.bool true),iC 1,iC 0,iC 4,iC 0,iC 0,iC (-1),iC 0,iC 0]:=rfl
 rw[e1]
 refine Sm.go 230 ?_
 refine vv ?_
 exact⟨by decide,RetQ.of (hR C1 l1) rfl ⟨rfl,trivial⟩ rfl (Sub.nil _) ClM.nil (ClV.of rfl)⟩
abbrev Zv:=Sv×List Int
end Go.Proofs.YtlnpgbnhcondjaaGreatDoor.Fx
namespace Go.Proofs.YtlnpgbnhcondjaaGreatDoor.Fx
set_option maxRecDepth 100000
set_option linter.unusedVariables false
set_option linter.unusedSimpArgs false
open Vg Tf
set_option maxHeartbeats 4000000
structure ZL where
 s:Sv
 z:List Zv
def ZL.c (x:ZL):List (List Int):=x.z.map (·.2)
structure ZL.ok (H:Hp) (x:ZL):Prop where
 o:SlH H (vsl x.s x.z.length) 1 (x.z.map zR)
 e:∀v∈x.z,SlH H (vsl v.1 v.2.length) 1 (intsR v.2)
section
variable {α:Type} (F:α→Str)
end
theorem _root_.Go.Proofs.YtlnpgbnhcondjaaGreatDoor.Vg.CallX.ofSl {H:Hp}(nm:Nat){P:Program}{f:FuncId}{rest:List V}{v:V}{sz:Nat}{rows:List (List Value)}{el:TypeId}(hent:Enters P f)(hr:∀r∈rows,r.length=sz)
  (h:∀(H':Hp) (s:Sv),H.le H'→SlH H' (vsl s rows.length) sz rows→CallH H' P f (.c (.v (vsl s rows.length))::rest) v) (hrest:∀x∈rest,∀β β':Vl,x.g β=x.g β') (hv:∀β β':Vl,v.g β=v.g β'):
  CallX H P f (.c (.sl nm 0 rows.length sz)::rest) [(nm,⟨false,rowsC rows,el⟩)] (fun _:Unit=>v) (fun _=>[(nm,⟨false,rowsC rows,el⟩)]) (fun _ _=>True):=by
 have hget:∀n b,Mem.get [(nm,(⟨false,rowsC rows,el⟩:Bk))] n=some b→n=nm∧b=⟨false,rowsC rows,el⟩:=fun n b hb=>by
  rw[Mem.get_cons]at hb
  split at hb
  ·rename_i hn;cases hb;exact⟨hn,rfl⟩
  ·cases hb
 refine⟨hent,fun _ n b hn hm=>?_,fun _ n b b' hn hm=>?_,fun β w Z hm hH hZ=>?_⟩
 ·rw[hn]at hm;cases hm
 ·obtain⟨_,rfl⟩:=hget n b' hm;rfl
 have hb1:=hm.ok β (Agree.refl _ _) nm _ (by rw[Mem.get_cons,if_pos rfl])
 have kn:Known (fun b o=>H b o∨(b=(β nm).blk∧w.heap[b]?=some o)) β nm (⟨false,rowsC rows,el⟩:Bk):=by
  unfold BkOk at hb1
  cases hu:(β nm).nul with
  |true=>rw[if_pos hu]at hb1;exact .inl ⟨hu,hb1.1⟩
  |false=>
   rw[if_neg (by simp[hu]),if_neg (by simp)]at hb1
   obtain⟨k1,junk,k2,k3⟩:=hb1
   exact .inr ⟨hu,k1,junk,.inr ⟨rfl,k2⟩,k3⟩
 obtain⟨s,hvs,hs⟩:=kn.vslx (sz:=sz) (rows:=rows) hr rfl
 have hc:=h _ s (fun b o hb=> .inl hb) hs
 have hargs:((V.c (.sl nm 0 rows.length sz)::rest).map (V.g β)).toArray=((V.c (.v (vsl s rows.length))::rest).map (V.g β)).toArray:=by
  rw[List.map_cons,List.map_cons]
  congr 2
 rw[hargs]
 refine(hc.2.2.2 β w (fun _=>False) ⟨fun β' _ n b hn=>(by cases hn),fun n b hn=>(by cases hn),fun n m b b' hn=>(by cases hn)⟩ (fun b o hb=>⟨?_,fun hz=>hz,fun hw=>?_⟩) (fun b hb=>hb.elim)).mono ?_
 ·rcases hb with hb|⟨_,hb⟩
  ·exact(hH b o hb).1
  ·exact hb
 ·obtain⟨n,c,h1,_⟩:=hw;cases h1
 rintro en w' ⟨_,β',H',_,hen,_,hfr,_,_,_⟩
 have hold:∀b,b<w.heap.size→w'.heap[b]?=w.heap[b]?:=fun b hb=>hfr.old b (fun n c hn=>(by cases hn)) hb
 refine⟨(),β,fun _ _=>False,Agree.refl _ _,fun β'' _=>?_,⟨fun β'' hag n b hn=>?_,fun n b hn hu=>?_,fun n m b b' hn hm' hne=>?_⟩,⟨hfr.os,hfr.tape,hfr.output,hfr.size,fun b _ hb=>hold b hb⟩,fun n hn hm0=>?_,fun b o hb=>hb.elim,trivial⟩
 ·rw[hen β' (Agree.refl _ _),hv β' β'']
 ·have hn1:n=nm∧b=⟨false,rowsC rows,el⟩:=by
   rw[Mem.get_append]at hn
   cases hq:Mem.get [(nm,(⟨false,rowsC rows,el⟩:Bk))] n with
   |some c=>rw[hq]at hn;cases hn;exact hget n _ hq
   |none=>rw[hq]at hn;cases hn
  obtain⟨e1,rfl⟩:=hn1
  rw[e1]
  have hag1:Agree [(nm,(⟨false,rowsC rows,el⟩:Bk))] β β'':=fun n hn=>hag n (by rw[Mem.get_append];cases hq:Mem.get [(nm,(⟨false,rowsC rows,el⟩:Bk))] n<;>simp_all)
  have hb2:=hm.ok β'' hag1 nm _ (by rw[Mem.get_cons,if_pos rfl])
  cases hu:(β'' nm).nul with
  |true=>
   unfold BkOk at hb2⊢
   rw[if_pos hu]at hb2⊢
   exact hb2
  |false=>
   refine hb2.same (hold _ ?_)
   have e:=hag1 nm (by rw[Mem.get_cons,if_pos rfl];rfl)
   rw[e]at hu⊢
   exact hm.there nm _ (by rw[Mem.get_cons,if_pos rfl]) hu
 ·have hn1:n=nm:=by
   rw[Mem.get_append]at hn
   cases hq:Mem.get [(nm,(⟨false,rowsC rows,el⟩:Bk))] n with
   |some c=>exact(hget n _ hq).1
   |none=>rw[hq]at hn;cases hn
  rw[hn1]at hu⊢
  exact Nat.lt_of_lt_of_le (hm.there nm _ (by rw[Mem.get_cons,if_pos rfl]) hu) hfr.size
 ·exfalso
  have h1:n=nm:=by
   rw[Mem.get_append]at hn
   cases hq:Mem.get [(nm,(⟨false,rowsC rows,el⟩:Bk))] n with
   |some c=>exact(hget n _ hq).1
   |none=>rw[hq]at hn;cases hn
  have h2:m=nm:=by
   rw[Mem.get_append]at hm'
   cases hq:Mem.get [(nm,(⟨false,rowsC rows,el⟩:Bk))] m with
   |some c=>exact(hget m _ hq).1
   |none=>rw[hq]at hm';cases hm'
  exact hne (h1.trans h2.symm)
 ·rw[hm0]at hn;cases hn
theorem lnsU_sm (s:Str)(he:(tokQ s).2.2=0):(tokQ s).1=(lnsU 0 (splB 10 s)).flatten∧∀U∈lnsU 0 (splB 10 s),LnT U∧U.length≤40000:=by
 have h16:¬16384<s.length:=fun h=>by unfold tokQ at he;rw[if_pos h]at he;cases he
 have hfa:=tok_facts s
 have hq:(lnsQ 0 (splB 10 s)).2.2=0:=by unfold tokQ at he;rw[if_neg h16]at he;exact he
 have hq1:(tokQ s).1=(lnsU 0 (splB 10 s)).flatten:=by unfold tokQ;rw[if_neg h16];exact(lns_lines _ _ hq).1
 refine⟨hq1,fun U hU=>⟨lnsU_ok _ _ U hU,?_⟩⟩
 have:U.length≤(lnsU 0 (splB 10 s)).flatten.length:=by
  obtain⟨A,B,h⟩:=List.append_of_mem hU
  rw[h];simp;omega
 rw[←hq1]at this
 omega
end Go.Proofs.YtlnpgbnhcondjaaGreatDoor.Fx
namespace Go.Proofs.YtlnpgbnhcondjaaGreatDoor.Fx
set_option linter.unusedVariables false
set_option linter.unusedSimpArgs false
theorem bnd_some {α β:Type}{x:Option α×Ps}{f:α→Ps→Option β×Ps}{y:β}(h:(bnd x f).1=some y):∃a p,x=(some a,p)∧(f a p).1=some y:=by
 obtain⟨o,p⟩:=x
 cases o with
 |none=>cases h
 |some a=>exact⟨a,p,rfl,h⟩
theorem bndB_some {β:Type}{x:Bool×Ps}{f:Ps→Option β×Ps}{y:β}(h:(bndB x f).1=some y):∃p,x=(true,p)∧(f p).1=some y:=by
 obtain⟨o,p⟩:=x
 cases o with
 |false=>cases h
 |true=>exact⟨p,rfl,h⟩
theorem bif_none {β:Type}{c:Bool}{p:Ps}{z:Option β×Ps}{y:β}(h:(bif c then(none,p)else z).1=some y):c=false∧z.1=some y:=by
 cases c with
 |true=>cases h
 |false=>exact⟨rfl,h⟩
theorem ful_lt {f:Tk}{m lim:Nat}{p q:Ps}(h:fulP f m lim p=(true,q)):m<lim:=by
 unfold fulP at h
 cases hb:decide (lim≤m)with
 |true=>rw[hb,cond_true]at h;cases h
 |false=>have:=of_decide_eq_false hb;omega
theorem nmb_fit (s:Str):fitB (nmbQ s).1=true:=by
 unfold nmbQ
 split
 ·show fitB 0=true
  decide
 ·split
  ·show fitB 0=true
   decide
  ·rename_i h
   unfold fitB
   exact decide_eq_true (by simp only;omega)
section
variable {T:List Tk}
theorem nam_some {p q:Ps}{s:Str}(h:namP T p=(some s,q)):nmOk s=true:=by
 unfold namP at h
 cases hb:((hereP T p).k==1&&nmOk (hereP T p).s)with
 |false=>rw[hb,cond_false]at h;cases h
 |true=>
  rw[hb,cond_true]at h
  rw[←Option.some.inj (Prod.mk.inj h).1]
  exact(Bool.and_eq_true_iff.1 hb).2
theorem int_some {p q:Ps}{n:Int}(h:intP T p=(some n,q)):fitB n=true:=by
 unfold intP at h
 cases hb:((hereP T p).k==2)with
 |false=>rw[hb,cond_false]at h;cases h
 |true=>
  rw[hb,cond_true]at h
  rw[←Option.some.inj (Prod.mk.inj h).1]
  exact nmb_fit _
theorem nms_some (a b:Str):∀(f:Nat) (l:List Str) (p:Ps) (r:List Str),(∀s∈l,nmOk s=true)→(nmsP T a b f l p).1=some r→∀s∈r,nmOk s=true
 |0,_,_,_,_,h=>by cases h
 |f+1,l,p,r,hl,h=>by
  rw[nmsP]at h
  obtain⟨s,q,h1,h2⟩:=bnd_some h
  have hl2:∀x∈l++[s],nmOk x=true:=fun x hx=>by
   rcases List.mem_append.1 hx with hx|hx
   ·exact hl x hx
   ·rw[List.mem_singleton]at hx;subst hx;exact nam_some h1
  cases hb:(isP T a q||isP T b q)with
  |true=>
   rw[hb,cond_true]at h2
   rw[←Option.some.inj h2];exact hl2
  |false=>
   rw[hb,cond_false]at h2
   obtain⟨q2,_,h3⟩:=bndB_some h2
   exact nms_some a b f _ q2 r hl2 h3
theorem cms_some:∀(f:Nat) (l:List Int) (p:Ps) (r:List Int),(∀s∈l,fitB s=true)→(cmsP T f l p).1=some r→∀s∈r,fitB s=true
 |0,_,_,_,_,h=>by cases h
 |f+1,l,p,r,hl,h=>by
  rw[cmsP]at h
  obtain⟨s,q,h1,h2⟩:=bnd_some h
  have hl2:∀x∈l++[s],fitB x=true:=fun x hx=>by
   rcases List.mem_append.1 hx with hx|hx
   ·exact hl x hx
   ·rw[List.mem_singleton]at hx;subst hx;exact int_some h1
  cases hb:isP T [44] q with
  |true=>rw[hb,cond_true]at h2;exact cms_some f _ _ r hl2 h2
  |false=>
   rw[hb,cond_false]at h2
   rw[←Option.some.inj h2];exact hl2
theorem ous_some:∀(f:Nat) (l:List Str) (p:Ps) (r:List Str),(∀s∈l,nmOk s=true)→(ousP T f l p).1=some r→∀s∈r,nmOk s=true
 |0,_,_,_,_,h=>by cases h
 |f+1,l,p,r,hl,h=>by
  rw[ousP]at h
  obtain⟨s,q,h1,h2⟩:=bnd_some h
  have hl2:∀x∈l++[s],nmOk x=true:=fun x hx=>by
   rcases List.mem_append.1 hx with hx|hx
   ·exact hl x hx
   ·rw[List.mem_singleton]at hx;subst hx;exact nam_some h1
  cases hb:isP T [44] q with
  |true=>rw[hb,cond_true]at h2;exact ous_some f _ _ r hl2 h2
  |false=>
   rw[hb,cond_false]at h2
   rw[←Option.some.inj h2];exact hl2
structure RsO (d:Dg):Prop where
 t:d.tys.length≤30
 c:d.cus.length≤30
 m:d.mas.length≤30
 i:d.ins.length≤30
 o:d.ous.length≤30
 b:d.bls.length≤200
 tA:∀x∈d.tys,nmOk x.nm=true∧fok x.ty=true
 cA:∀x∈d.cus,nmOk x.nm=true∧cuOk x.xs x.ys=true
 mA:∀x∈d.mas,nmOk x.nm=true∧maOk x.xs x.ys x.zs=true
 iA:∀x∈d.ins,poOk x=true
 bA:∀x∈d.bls,blOk x=true
 oA:∀x∈d.ous,nmOk x=true
theorem RsO.ok {d:Dg}(h:RsO d)(hn:nmOk d.nm=true):dgOk d=true:=by
 unfold dgOk
 simp only[Bool.and_eq_true,decide_eq_true_eq,List.all_eq_true]
 exact⟨hn,⟨h.t,h.c,h.m,h.i,h.o⟩,h.b,h.tA,h.cA,h.mA,h.iA,h.bA,h.oA⟩
theorem allS_app {α:Type}{P:α→Prop}{l:List α}{x:α}(h:∀y∈l,P y)(hx:P x):∀y∈l++[x],P y:=fun y hy=>by
 rcases List.mem_append.1 hy with hy|hy
 ·exact h y hy
 ·rw[List.mem_singleton]at hy;subst hy;exact hx
theorem typ_some {f:Tk}{m:Nat}{p:Ps}{x:Td}(h:(typP T f m p).1=some x):m<30∧nmOk x.nm=true∧fok x.ty=true:=by
 unfold typP at h
 obtain⟨nm,p1,h1,h⟩:=bnd_some h
 obtain⟨p2,_,h⟩:=bndB_some h
 obtain⟨b,p3,_,h⟩:=bnd_some h
 obtain⟨_,h⟩:=bif_none h
 obtain⟨_,p4,_,h⟩:=bnd_some h
 obtain⟨_,p5,_,h⟩:=bnd_some h
 obtain⟨_,p6,_,h⟩:=bnd_some h
 obtain⟨_,p7,_,h⟩:=bnd_some h
 obtain⟨hf,h⟩:=bif_none h
 obtain⟨p8,h8,h⟩:=bndB_some h
 rw[←Option.some.inj h]
 exact⟨ful_lt h8,nam_some h1,by simpa using hf⟩
theorem cls_some {α:Type}{p:Ps}{f:Ps→Option α×Ps}{x:α}(h:(clsP T p f).1=some x):∃q,(f q).1=some x:=by
 unfold clsP at h
 obtain⟨_,h⟩:=bif_none h
 obtain⟨_,h⟩:=bif_none h
 exact⟨_,h⟩
theorem cur_some {f:Tk}{m:Nat}{p:Ps}{x:Cu}(h:(curP T f m p).1=some x):m<30∧nmOk x.nm=true∧cuOk x.xs x.ys=true:=by
 unfold curP at h
 obtain⟨nm,p1,h1,h⟩:=bnd_some h
 obtain⟨p2,_,h⟩:=bndB_some h
 obtain⟨p3,_,h⟩:=bndB_some h
 obtain⟨xy,p4,_,h⟩:=bnd_some h
 obtain⟨p5,h⟩:=cls_some h
 obtain⟨hf,h⟩:=bif_none h
 obtain⟨p8,h8,h⟩:=bndB_some h
 rw[←Option.some.inj h]
 exact⟨ful_lt h8,nam_some h1,by simpa using hf⟩
theorem mapP_some {f:Tk}{m:Nat}{p:Ps}{x:Mp}(h:(mapP T f m p).1=some x):m<30∧nmOk x.nm=true∧maOk x.xs x.ys x.zs=true:=by
 unfold mapP at h
 obtain⟨nm,p1,h1,h⟩:=bnd_some h
 obtain⟨p2,_,h⟩:=bndB_some h
 obtain⟨p3,_,h⟩:=bndB_some h
 obtain⟨xs,p4,_,h⟩:=bnd_some h
 obtain⟨p5,_,h⟩:=bndB_some h
 obtain⟨ys,p6,_,h⟩:=bnd_some h
 obtain⟨p7,_,h⟩:=bndB_some h
 obtain⟨zs,p9,_,h⟩:=bnd_some h
 obtain⟨p10,h⟩:=cls_some h
 obtain⟨hf,h⟩:=bif_none h
 obtain⟨p8,h8,h⟩:=bndB_some h
 rw[←Option.some.inj h]
 exact⟨ful_lt h8,nam_some h1,by simpa using hf⟩
theorem inp_some {f:Tk}{m:Nat}{p:Ps}{x:Po}(h:(inpP T f m p).1=some x):m<30∧poOk x=true:=by
 unfold inpP at h
 obtain⟨nm,p1,h1,h⟩:=bnd_some h
 obtain⟨p2,_,h⟩:=bndB_some h
 obtain⟨ty,p3,h3,h⟩:=bnd_some h
 obtain⟨lo,p4,h4,h⟩:=bnd_some h
 obtain⟨hi,p5,h5,h⟩:=bnd_some h
 obtain⟨_,h⟩:=bif_none h
 obtain⟨p8,h8,h⟩:=bndB_some h
 rw[←Option.some.inj h]
 refine⟨ful_lt h8,?_⟩
 unfold poOk
 rw[nam_some h1,nam_some h3,int_some h4,int_some h5];rfl
theorem bk2_some {f kd:Tk}{a k t:Nat}{nm:Str}{m:Nat}{p:Ps}{x:Bl}(hq:kindQ kd.s=some (a,k,t))(hn:nmOk nm=true)(h:(bk2P T f kd a k t nm m p).1=some x):m<200∧blOk x=true:=by
 unfold bk2P at h
 obtain⟨p1,_,h⟩:=bndB_some h
 obtain⟨ins,p2,h2,h⟩:=bnd_some h
 obtain⟨ks,p3,h3,h⟩:=bnd_some h
 obtain⟨p4,_,h⟩:=bndB_some h
 obtain⟨p5,_,h⟩:=bndB_some h
 obtain⟨ty,p6,h6,h⟩:=bnd_some h
 obtain⟨_,h⟩:=bif_none h
 obtain⟨hl,h⟩:=bif_none h
 obtain⟨p8,h8,h⟩:=bndB_some h
 rw[←Option.some.inj h]
 refine⟨ful_lt h8,?_⟩
 rw[Bool.or_eq_false_iff,Bool.not_eq_false',Bool.not_eq_false']at hl
 have hl1:=of_decide_eq_true hl.1
 have hl2:=of_decide_eq_true hl.2
 have hins:∀s∈ins,nmOk s=true:=by
  unfold arsP at h2
  cases hb:(isP T [41] p1||isP T [59] p1)with
  |true=>
   rw[hb,cond_true]at h2
   rw[←Option.some.inj (Prod.mk.inj h2).1];simp
  |false=>
   rw[hb,cond_false]at h2
   exact nms_some _ _ _ _ _ _ (by simp) (congrArg Prod.fst h2)
 have hks:∀s∈ks,fitB s=true:=by
  unfold ksP at h3
  cases hb:isP T [59] p2 with
  |true=>
   rw[hb,cond_true]at h3
   exact cms_some _ _ _ _ (by simp) (congrArg Prod.fst h3)
  |false=>
   rw[hb,cond_false]at h3
   rw[←Option.some.inj (Prod.mk.inj h3).1];simp
 unfold blOk
 simp only[hq,Bool.and_eq_true,decide_eq_true_eq,List.all_eq_true]
 refine⟨by rw[List.length_take];omega,hl2,hn,nam_some h6,?_,fun s hs=>hins s (List.mem_of_mem_take hs),hks⟩
 by_cases h0:t=0
 ·rw[if_pos h0,h0];rfl
 ·rw[if_neg h0]
  have ht:decide (1≤t)=true:=decide_eq_true (by omega)
  rw[ht,cond_true]
  have hlen:a<ins.length:=by omega
  rw[List.getD_eq_getElem?_getD,List.getElem?_eq_getElem hlen]
  exact hins _ (List.getElem_mem hlen)
theorem blk_some {f:Tk}{m:Nat}{p:Ps}{x:Bl}(h:(blkP T f m p).1=some x):m<200∧blOk x=true:=by
 unfold blkP at h
 obtain⟨nm,p1,h1,h⟩:=bnd_some h
 obtain⟨p2,_,h⟩:=bndB_some h
 obtain⟨hk,h⟩:=bif_none h
 rw[Bool.or_eq_false_iff,Bool.not_eq_false',Bool.not_eq_false']at hk
 obtain⟨⟨a,k,t⟩,hq⟩:=Option.isSome_iff_exists.1 hk.2
 rw[hq]at h
 exact bk2_some hq (nam_some h1) h
theorem out_some {f:Tk}{m:Nat}{p:Ps}{x:List Str}(h:(outP T f m p).1=some x):m+x.length≤30∧∀s∈x,nmOk s=true:=by
 unfold outP at h
 obtain⟨l,p1,h1,h⟩:=bnd_some h
 obtain⟨_,h⟩:=bif_none h
 obtain⟨hb,h⟩:=bif_none h
 rw[←Option.some.inj h]
 have:=of_decide_eq_false hb
 exact⟨by omega,ous_some _ _ _ _ (by simp) (congrArg Prod.fst h1)⟩
theorem map_some_inv {α β:Type}{o:Option α}{g:α→β}{y:β}(h:o.map g=some y):∃x,o=some x∧g x=y:=by
 cases o with
 |none=>cases h
 |some x=>exact⟨x,rfl,Option.some.inj h⟩
theorem len_snoc {α:Type}(l:List α)(x:α){n:Nat}(h:l.length<n):(l++[x]).length≤n:=by rw[List.length_append];exact h
theorem red_some {f:Tk}{d d':Dg}{p q:Ps}(hd:RsO d)(h:redP T f d p=some (some d',q)):RsO d'∧d'.nm=d.nm:=by
 unfold redP at h
 split at h
 ·obtain⟨x,hx,rfl⟩:=map_some_inv (Prod.mk.inj (Option.some.inj h)).1
  obtain⟨h1,h2⟩:=typ_some hx
  exact⟨{hd with t:=len_snoc _ _ h1,tA:=allS_app hd.tA h2},rfl⟩
 split at h
 ·obtain⟨x,hx,rfl⟩:=map_some_inv (Prod.mk.inj (Option.some.inj h)).1
  obtain⟨h1,h2⟩:=cur_some hx
  exact⟨{hd with c:=len_snoc _ _ h1,cA:=allS_app hd.cA h2},rfl⟩
 split at h
 ·obtain⟨x,hx,rfl⟩:=map_some_inv (Prod.mk.inj (Option.some.inj h)).1
  obtain⟨h1,h2⟩:=mapP_some hx
  exact⟨{hd with m:=len_snoc _ _ h1,mA:=allS_app hd.mA h2},rfl⟩
 split at h
 ·obtain⟨x,hx,rfl⟩:=map_some_inv (Prod.mk.inj (Option.some.inj h)).1
  obtain⟨h1,h2⟩:=inp_some hx
  exact⟨{hd with i:=len_snoc _ _ h1,iA:=allS_app hd.iA h2},rfl⟩
 split at h
 ·obtain⟨x,hx,rfl⟩:=map_some_inv (Prod.mk.inj (Option.some.inj h)).1
  obtain⟨h1,h2⟩:=blk_some hx
  exact⟨{hd with b:=len_snoc _ _ h1,bA:=allS_app hd.bA h2},rfl⟩
 split at h
 ·obtain⟨x,hx,rfl⟩:=map_some_inv (Prod.mk.inj (Option.some.inj h)).1
  obtain⟨h1,h2⟩:=out_some hx
  refine⟨{hd with o:=by rw[List.length_append];exact h1,oA:=fun y hy=>?_},rfl⟩
  rcases List.mem_append.1 hy with hy|hy
  ·exact hd.oA y hy
  ·exact h2 y hy
 ·cases h
theorem lne_some {d d':Dg}{p:Ps}(hd:RsO d)(hn:nmOk d.nm=true)(h:(lneP T false d p).1=some d'):RsO d'∧nmOk d'.nm=true:=by
 unfold lneP at h
 simp only[cond_false]at h
 obtain⟨_,h⟩:=bif_none h
 cases hr:redP T (hereP T p) d (advP p)with
 |none=>rw[hr]at h;cases h
 |some x=>
  rw[hr]at h
  obtain⟨d1,p1,rfl,h⟩:=bnd_some h
  obtain⟨p2,_,h⟩:=bndB_some h
  rw[←Option.some.inj h]
  obtain⟨h1,h2⟩:=red_some hd hr
  exact⟨h1,by rw[h2];exact hn⟩
theorem lne_some0 {d d':Dg}{p:Ps}(hd:RsO d)(h:(lneP T true d p).1=some d'):RsO d'∧nmOk d'.nm=true:=by
 unfold lneP at h
 simp only[cond_true]at h
 obtain⟨p1,_,h⟩:=bndB_some h
 obtain⟨nm,p2,h2,h⟩:=bnd_some h
 obtain⟨p3,_,h⟩:=bndB_some h
 rw[←Option.some.inj h]
 exact⟨{hd with},nam_some h2⟩
end
theorem parW_valid:∀(Ls:List (List Tk)) (beg:Bool) (d:Dg),(∀U∈Ls,LnT U∧U.length≤40000)→RsO d→(beg=true→Ls≠[])→(beg=false→nmOk d.nm=true)→(parW Ls beg d).2.2=0→dgOk (parW Ls beg d).1=true
 |[],beg,d,_,hd,hb,hn,_=>by
  cases beg with
  |true=>exact absurd rfl (hb rfl)
  |false=>exact hd.ok (hn rfl)
 |U::Ls,beg,d,hU,hd,hb,hn,h=>by
  obtain⟨hu,hl⟩:=hU U (List.mem_cons_self ..)
  rw[parW]at h⊢
  cases ho:(lneP U beg d ps0).1 with
  |none=>
   rw[ho]at h
   exact absurd h ((lne_rd hu.g hl beg d (List.length_pos_iff.2 hu.n)).2 ho)
  |some d'=>
   rw[ho]at h
   have h2:RsO d'∧nmOk d'.nm=true:=by
    cases beg with
    |true=>exact lne_some0 hd ho
    |false=>exact lne_some hd (hn rfl) ho
   exact parW_valid Ls false d' (fun V hV=>hU V (List.mem_cons_of_mem _ hV)) h2.1 (fun h=>by cases h) (fun _=>h2.2) h
theorem d0_rs:RsO d0:=⟨by decide,by decide,by decide,by decide,by decide,by decide,(fun x h=>by cases h),(fun x h=>by cases h),(fun x h=>by cases h),(fun x h=>by cases h),(fun x h=>by cases h),(fun x h=>by cases h)⟩
theorem par_valid (s:Str)(h:(parD s).2.2=0):dgOk (parD s).1=true:=by
 have hp:=par_eq s
 by_cases he:(tokQ s).2.2=0
 ·obtain⟨h1,h2⟩:=lnsU_sm s he
  rw[if_neg (by rw[he];simp)]at hp
  by_cases hn:lnsU 0 (splB 10 s)=[]
  ·rw[if_pos hn]at hp;rw[hp]at h;cases h
  ·rw[if_neg hn]at hp
   rw[hp]at h⊢
   exact parW_valid _ _ _ h2 d0_rs (fun _=>hn) (fun h=>by cases h) h
 ·rw[if_pos he]at hp;rw[hp]at h;exact absurd h he
theorem parW_d0:∀(Ls:List (List Tk)) (beg:Bool) (d:Dg),(parW Ls beg d).2.2≠0→(parW Ls beg d).1=d0
 |[],_,_,h=>absurd rfl h
 |U::Ls,beg,d,h=>by
  rw[parW]at h⊢
  cases ho:(lneP U beg d ps0).1 with
  |none=>rfl
  |some d'=>rw[ho]at h;exact parW_d0 Ls false d' h
theorem par_d0 (s:Str)(h:(parD s).2.2≠0):(parD s).1=d0:=by
 have hp:=par_eq s
 by_cases he:(tokQ s).2.2=0
 ·rw[if_neg (by rw[he];simp)]at hp
  by_cases hn:lnsU 0 (splB 10 s)=[]
  ·rw[if_pos hn]at hp;rw[hp]
  ·rw[if_neg hn]at hp
   rw[hp]at h⊢
   exact parW_d0 _ _ _ h
 ·rw[if_pos he]at hp;rw[hp]
theorem nmOk_len {s:Str}(h:nmOk s=true):s.length≤24:=by
 unfold nmOk at h
 simp only[Bool.and_eq_true,decide_eq_true_eq]at h
 exact h.2.1
theorem axOk_len {l:List Int}(h:axOk l=true):l.length≤32:=by
 unfold axOk at h
 simp only[Bool.and_eq_true,decide_eq_true_eq]at h
 exact h.1.2
theorem kindQ_len {s:Str}{a k t:Nat}(h:kindQ s=some (a,k,t)):a≤3∧k≤2∧t≤2:=by
 unfold kindQ at h
 obtain⟨r,hr,he⟩:=map_some_inv h
 have h1:=List.mem_of_find?_eq_some hr
 have:kindT.all (fun r=>decide (r.2.1≤3∧r.2.2.1≤2∧r.2.2.2≤2))=true:=by decide
 have h2:=of_decide_eq_true (List.all_eq_true.1 this r h1)
 rw[he]at h2;exact h2
structure BlS (b:Bl):Prop where
 nm:b.nm.length≤24
 ty:b.ty.length≤24
 tb:b.tb.length≤24
 ins:b.ins.length≤3
 ks:b.ks.length≤2
 insA:∀s∈b.ins,s.length≤24
 ksA:∀k∈b.ks,fitB k=true
 kd:(kindQ b.kd).isSome=true
theorem blOk_s {b:Bl}(h:blOk b=true):BlS b:=by
 unfold blOk at h
 cases hq:kindQ b.kd with
 |none=>rw[hq]at h;cases h
 |some x=>
  obtain⟨a,k,t⟩:=x
  rw[hq]at h
  simp only[Bool.and_eq_true,decide_eq_true_eq,List.all_eq_true]at h
  obtain⟨h1,h2,h3,h4,h5,h6,h7⟩:=h
  obtain⟨q1,q2,_⟩:=kindQ_len hq
  refine⟨nmOk_len h3,nmOk_len h4,?_,by omega,by omega,fun s hs=>nmOk_len (h6 s hs),h7,by rw[hq];rfl⟩
  split at h5
  ·rw[eq_of_beq h5];decide
  ·exact nmOk_len h5
structure MpS (m:Mp):Prop where
 xs:m.xs.length≤32
 ys:m.ys.length≤32
 zs:m.zs.length≤32
 zA:∀z∈m.zs,z.length≤32
theorem maOk_s {m:Mp}(h:maOk m.xs m.ys m.zs=true):MpS m:=by
 unfold maOk at h
 simp only[Bool.and_eq_true,decide_eq_true_eq,List.all_eq_true]at h
 obtain⟨h1,h2,h3,h4⟩:=h
 have q1:=axOk_len h1
 have q2:=axOk_len h2
 exact⟨q1,q2,by omega,fun z hz=>by rw[(h4 z hz).1];exact q2⟩
theorem cuOk_s {xs ys:List Int}(h:cuOk xs ys=true):xs.length≤32∧ys.length≤32:=by
 unfold cuOk at h
 simp only[Bool.and_eq_true,decide_eq_true_eq]at h
 have:=axOk_len h.2.1
 exact⟨this,by omega⟩
theorem sm_ok {a:DgL}(h:a.c=d0∨dgOk a.c=true):a.sm∧∀m∈a.mas,m.xs.length≤1000000000000000∧m.ys.length≤1000000000000000∧m.zs.length≤1000000000000000:=by
 have key:∀d:Dg,(d=d0∨dgOk d=true)→d.nm.length≤24∧RsO d:=by
  intro d hd
  rcases hd with rfl|hd
  ·exact⟨by decide,d0_rs⟩
  ·unfold dgOk at hd
   simp only[Bool.and_eq_true,decide_eq_true_eq,List.all_eq_true]at hd
   obtain⟨hn,⟨n1,n2,n3,n4,n5⟩,n6,ht,hcu,hma,hpo,hbl,hou⟩:=hd
   exact⟨nmOk_len hn,⟨n1,n2,n3,n4,n5,n6,ht,hcu,hma,hpo,hbl,hou⟩⟩
 obtain⟨hn,R⟩:=key a.c h
 have e2:a.c.cus.length=a.cus.length:=List.length_map _
 have e3:a.c.mas.length=a.mas.length:=List.length_map _
 have e5:a.c.bls.length=a.bls.length:=List.length_map _
 have r1:=R.t
 have r2:=R.c
 have r3:=R.m
 have r4:=R.i
 have r5:=R.b
 have r6:=R.o
 rw[e2]at r2
 rw[e3]at r3
 rw[e5]at r5
 have hm:∀m∈a.mas,MpS m.c∧m.nm.length≤24:=fun m hm=>by
  have:=R.mA m.c (List.mem_map.2 ⟨m,hm,rfl⟩)
  exact⟨maOk_s this.2,nmOk_len this.1⟩
 refine⟨⟨Nat.le_trans hn (by decide),⟨Nat.le_trans r1 (by decide),fun t ht=>Nat.le_trans (nmOk_len (R.tA t ht).1) (by decide)⟩,⟨by omega,fun c hc=>?_⟩,⟨by omega,fun m hmm=>?_⟩,⟨Nat.le_trans r4 (by decide),fun p hp=>?_⟩,⟨by omega,fun b hb=>?_⟩,⟨Nat.le_trans r6 (by decide),fun s hs=>Nat.le_trans (nmOk_len (R.oA s hs)) (by decide)⟩⟩,fun m hmm=>?_⟩
 ·obtain⟨q1,q2⟩:=R.cA c.c (List.mem_map.2 ⟨c,hc,rfl⟩)
  have:=cuOk_s q2
  have:=nmOk_len q1
  exact⟨by omega,by omega,by omega⟩
 ·obtain⟨q1,q2⟩:=hm m hmm
  refine⟨by omega,fun v hv=>?_⟩
  have:=q1.zA v.2 (List.mem_map.2 ⟨v,hv,rfl⟩)
  omega
 ·have hp:=R.iA p hp
  unfold poOk at hp
  simp only[Bool.and_eq_true]at hp
  have q1:=nmOk_len hp.1
  have q2:=nmOk_len hp.2.1
  exact⟨by omega,by omega⟩
 ·have q:=blOk_s (R.bA b.c (List.mem_map.2 ⟨b,hb,rfl⟩))
  have:=q.nm
  have:=q.ty
  have:=q.tb
  have:=q.ins
  have:=q.ks
  exact⟨by omega,by omega,by omega,by omega,by omega,fun s hs=>by have:=q.insA s hs;omega⟩
 ·obtain⟨q1,_⟩:=hm m hmm
  have h1:m.xs.length≤32:=q1.xs
  have h2:m.ys.length≤32:=q1.ys
  have h3:m.c.zs.length≤32:=q1.zs
  have h4:m.c.zs.length=m.zs.length:=List.length_map _
  exact⟨by omega,by omega,by omega⟩
theorem par_sm {a:DgL}(s:Str)(h:a.c=(parD s).1):a.sm∧∀m∈a.mas,m.xs.length≤1000000000000000∧m.ys.length≤1000000000000000∧m.zs.length≤1000000000000000:=by
 apply sm_ok
 rw[h]
 by_cases he:(parD s).2.2=0
 ·exact .inr (par_valid s he)
 ·exact .inl (par_d0 s he)
end Go.Proofs.YtlnpgbnhcondjaaGreatDoor.Fx
