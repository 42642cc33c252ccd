/-  -/
import Derived.Test.YtlnpgbnhcondjaaGreatDoorTf
import Derived.Test.YtlnpgbnhcondjaaGreatDoorZ1
import Derived.Test.YtlnpgbnhcondjaaGreatDoorRD
namespace Go.Proofs.YtlnpgbnhcondjaaGreatDoor.Fx
set_option linter.unusedVariables false
set_option linter.unusedSimpArgs false
theorem bnd_some {α β:Type}{x:Option α×Ps}{f:α→Ps→Option β×Ps}{y:β}(h:(bnd x f).1=some y):∃a p,x=(some a,p)∧(f a p).1=some y:=by
 obtain⟨o,p⟩:=x
 cases o with
 |none=>cases h
 |some a=>exact⟨a,p,rfl,h⟩
theorem bndB_some {β:Type}{x:Bool×Ps}{f:Ps→Option β×Ps}{y:β}(h:(bndB x f).1=some y):∃p,x=(true,p)∧(f p).1=some y:=by
 obtain⟨o,p⟩:=x
 cases o with
 |false=>cases h
 |true=>exact⟨p,rfl,h⟩
theorem bif_none {β:Type}{c:Bool}{p:Ps}{z:Option β×Ps}{y:β}(h:(bif c then(none,p)else z).1=some y):c=false∧z.1=some y:=by
 cases c with
 |true=>cases h
 |false=>exact⟨rfl,h⟩
theorem ful_lt {f:Tk}{m lim:Nat}{p q:Ps}(h:fulP f m lim p=(true,q)):m<lim:=by
 unfold fulP at h
 cases hb:decide (lim≤m)with
 |true=>rw[hb,cond_true]at h;cases h
 |false=>have:=of_decide_eq_false hb;omega
theorem nmb_fit (s:Str):fitB (nmbQ s).1=true:=by
 unfold nmbQ
 split
 ·show fitB 0=true
  decide
 ·split
  ·show fitB 0=true
   decide
  ·rename_i h
   unfold fitB
   exact decide_eq_true (by simp only;omega)
section
variable {T:List Tk}
theorem nam_some {p q:Ps}{s:Str}(h:namP T p=(some s,q)):nmOk s=true:=by
 unfold namP at h
 cases hb:((hereP T p).k==1&&nmOk (hereP T p).s)with
 |false=>rw[hb,cond_false]at h;cases h
 |true=>
  rw[hb,cond_true]at h
  rw[←Option.some.inj (Prod.mk.inj h).1]
  exact(Bool.and_eq_true_iff.1 hb).2
theorem int_some {p q:Ps}{n:Int}(h:intP T p=(some n,q)):fitB n=true:=by
 unfold intP at h
 cases hb:((hereP T p).k==2)with
 |false=>rw[hb,cond_false]at h;cases h
 |true=>
  rw[hb,cond_true]at h
  rw[←Option.some.inj (Prod.mk.inj h).1]
  exact nmb_fit _
theorem nms_some (a b:Str):∀(f:Nat) (l:List Str) (p:Ps) (r:List Str),(∀s∈l,nmOk s=true)→(nmsP T a b f l p).1=some r→∀s∈r,nmOk s=true
 |0,_,_,_,_,h=>by cases h
 |f+1,l,p,r,hl,h=>by
  rw[nmsP]at h
  obtain⟨s,q,h1,h2⟩:=bnd_some h
  have hl2:∀x∈l++[s],nmOk x=true:=fun x hx=>by
   rcases List.mem_append.1 hx with hx|hx
   ·exact hl x hx
   ·rw[List.mem_singleton]at hx;subst hx;exact nam_some h1
  cases hb:(isP T a q||isP T b q)with
  |true=>
   rw[hb,cond_true]at h2
   rw[←Option.some.inj h2];exact hl2
  |false=>
   rw[hb,cond_false]at h2
   obtain⟨q2,_,h3⟩:=bndB_some h2
   exact nms_some a b f _ q2 r hl2 h3
theorem cms_some:∀(f:Nat) (l:List Int) (p:Ps) (r:List Int),(∀s∈l,fitB s=true)→(cmsP T f l p).1=some r→∀s∈r,fitB s=true
 |0,_,_,_,_,h=>by cases h
 |f+1,l,p,r,hl,h=>by
  rw[cmsP]at h
  obtain⟨s,q,h1,h2⟩:=bnd_some h
  have hl2:∀x∈l++[s],fitB x=true:=fun x hx=>by
   rcases List.mem_append.1 hx with hx|hx
   ·exact hl x hx
   ·rw[List.mem_singleton]at hx;subst hx;exact int_some h1
  cases hb:isP T [44] q with
  |true=>rw[hb,cond_true]at h2;exact cms_some f _ _ r hl2 h2
  |false=>
   rw[hb,cond_false]at h2
   rw[←Option.some.inj h2];exact hl2
theorem ous_some:∀(f:Nat) (l:List Str) (p:Ps) (r:List Str),(∀s∈l,nmOk s=true)→(ousP T f l p).1=some r→∀s∈r,nmOk s=true
 |0,_,_,_,_,h=>by cases h
 |f+1,l,p,r,hl,h=>by
  rw[ousP]at h
  obtain⟨s,q,h1,h2⟩:=bnd_some h
  have hl2:∀x∈l++[s],nmOk x=true:=fun x hx=>by
   rcases List.mem_append.1 hx with hx|hx
   ·exact hl x hx
   ·rw[List.mem_singleton]at hx;subst hx;exact nam_some h1
  cases hb:isP T [44] q with
  |true=>rw[hb,cond_true]at h2;exact ous_some f _ _ r hl2 h2
  |false=>
   rw[hb,cond_false]at h2
   rw[←Option.some.inj h2];exact hl2
structure RsO (d:Dg):Prop where
 t:d.tys.length≤30
 c:d.cus.length≤30
 m:d.mas.length≤30
 i:d.ins.length≤30
 o:d.ous.length≤30
 b:d.bls.length≤200
 tA:∀x∈d.tys,nmOk x.nm=true∧fok x.ty=true
 cA:∀x∈d.cus,nmOk x.nm=true∧cuOk x.xs x.ys=true
 mA:∀x∈d.mas,nmOk x.nm=true∧maOk x.xs x.ys x.zs=true
 iA:∀x∈d.ins,poOk x=true
 bA:∀x∈d.bls,blOk x=true
 oA:∀x∈d.ous,nmOk x=true
theorem RsO.ok {d:Dg}(h:RsO d)(hn:nmOk d.nm=true):dgOk d=true:=by
 unfold dgOk
 simp only[Bool.and_eq_true,decide_eq_true_eq,List.all_eq_true]
 exact⟨hn,⟨h.t,h.c,h.m,h.i,h.o⟩,h.b,h.tA,h.cA,h.mA,h.iA,h.bA,h.oA⟩
theorem allS_app {α:Type}{P:α→Prop}{l:List α}{x:α}(h:∀y∈l,P y)(hx:P x):∀y∈l++[x],P y:=fun y hy=>by
 rcases List.mem_append.1 hy with hy|hy
 ·exact h y hy
 ·rw[List.mem_singleton]at hy;subst hy;exact hx
theorem typ_some {f:Tk}{m:Nat}{p:Ps}{x:Td}(h:(typP T f m p).1=some x):m<30∧nmOk x.nm=true∧fok x.ty=true:=by
 unfold typP at h
 obtain⟨nm,p1,h1,h⟩:=bnd_some h
 obtain⟨p2,_,h⟩:=bndB_some h
 obtain⟨b,p3,_,h⟩:=bnd_some h
 obtain⟨_,h⟩:=bif_none h
 obtain⟨_,p4,_,h⟩:=bnd_some h
 obtain⟨_,p5,_,h⟩:=bnd_some h
 obtain⟨_,p6,_,h⟩:=bnd_some h
 obtain⟨_,p7,_,h⟩:=bnd_some h
 obtain⟨hf,h⟩:=bif_none h
 obtain⟨p8,h8,h⟩:=bndB_some h
 rw[←Option.some.inj h]
 exact⟨ful_lt h8,nam_some h1,by simpa using hf⟩
theorem cls_some {α:Type}{p:Ps}{f:Ps→Option α×Ps}{x:α}(h:(clsP T p f).1=some x):∃q,(f q).1=some x:=by
 unfold clsP at h
 obtain⟨_,h⟩:=bif_none h
 obtain⟨_,h⟩:=bif_none h
 exact⟨_,h⟩
theorem cur_some {f:Tk}{m:Nat}{p:Ps}{x:Cu}(h:(curP T f m p).1=some x):m<30∧nmOk x.nm=true∧cuOk x.xs x.ys=true:=by
 unfold curP at h
 obtain⟨nm,p1,h1,h⟩:=bnd_some h
 obtain⟨p2,_,h⟩:=bndB_some h
 obtain⟨p3,_,h⟩:=bndB_some h
 obtain⟨xy,p4,_,h⟩:=bnd_some h
 obtain⟨p5,h⟩:=cls_some h
 obtain⟨hf,h⟩:=bif_none h
 obtain⟨p8,h8,h⟩:=bndB_some h
 rw[←Option.some.inj h]
 exact⟨ful_lt h8,nam_some h1,by simpa using hf⟩
theorem mapP_some {f:Tk}{m:Nat}{p:Ps}{x:Mp}(h:(mapP T f m p).1=some x):m<30∧nmOk x.nm=true∧maOk x.xs x.ys x.zs=true:=by
 unfold mapP at h
 obtain⟨nm,p1,h1,h⟩:=bnd_some h
 obtain⟨p2,_,h⟩:=bndB_some h
 obtain⟨p3,_,h⟩:=bndB_some h
 obtain⟨xs,p4,_,h⟩:=bnd_some h
 obtain⟨p5,_,h⟩:=bndB_some h
 obtain⟨ys,p6,_,h⟩:=bnd_some h
 obtain⟨p7,_,h⟩:=bndB_some h
 obtain⟨zs,p9,_,h⟩:=bnd_some h
 obtain⟨p10,h⟩:=cls_some h
 obtain⟨hf,h⟩:=bif_none h
 obtain⟨p8,h8,h⟩:=bndB_some h
 rw[←Option.some.inj h]
 exact⟨ful_lt h8,nam_some h1,by simpa using hf⟩
theorem inp_some {f:Tk}{m:Nat}{p:Ps}{x:Po}(h:(inpP T f m p).1=some x):m<30∧poOk x=true:=by
 unfold inpP at h
 obtain⟨nm,p1,h1,h⟩:=bnd_some h
 obtain⟨p2,_,h⟩:=bndB_some h
 obtain⟨ty,p3,h3,h⟩:=bnd_some h
 obtain⟨lo,p4,h4,h⟩:=bnd_some h
 obtain⟨hi,p5,h5,h⟩:=bnd_some h
 obtain⟨_,h⟩:=bif_none h
 obtain⟨p8,h8,h⟩:=bndB_some h
 rw[←Option.some.inj h]
 refine⟨ful_lt h8,?_⟩
 unfold poOk
 rw[nam_some h1,nam_some h3,int_some h4,int_some h5];rfl
theorem bk2_some {f kd:Tk}{a k t:Nat}{nm:Str}{m:Nat}{p:Ps}{x:Bl}(hq:kindQ kd.s=some (a,k,t))(hn:nmOk nm=true)(h:(bk2P T f kd a k t nm m p).1=some x):m<200∧blOk x=true:=by
 unfold bk2P at h
 obtain⟨p1,_,h⟩:=bndB_some h
 obtain⟨ins,p2,h2,h⟩:=bnd_some h
 obtain⟨ks,p3,h3,h⟩:=bnd_some h
 obtain⟨p4,_,h⟩:=bndB_some h
 obtain⟨p5,_,h⟩:=bndB_some h
 obtain⟨ty,p6,h6,h⟩:=bnd_some h
 obtain⟨_,h⟩:=bif_none h
 obtain⟨hl,h⟩:=bif_none h
 obtain⟨p8,h8,h⟩:=bndB_some h
 rw[←Option.some.inj h]
 refine⟨ful_lt h8,?_⟩
 rw[Bool.or_eq_false_iff,Bool.not_eq_false',Bool.not_eq_false']at hl
 have hl1:=of_decide_eq_true hl.1
 have hl2:=of_decide_eq_true hl.2
 have hins:∀s∈ins,nmOk s=true:=by
  unfold arsP at h2
  cases hb:(isP T [41] p1||isP T [59] p1)with
  |true=>
   rw[hb,cond_true]at h2
   rw[←Option.some.inj (Prod.mk.inj h2).1];simp
  |false=>
   rw[hb,cond_false]at h2
   exact nms_some _ _ _ _ _ _ (by simp) (congrArg Prod.fst h2)
 have hks:∀s∈ks,fitB s=true:=by
  unfold ksP at h3
  cases hb:isP T [59] p2 with
  |true=>
   rw[hb,cond_true]at h3
   exact cms_some _ _ _ _ (by simp) (congrArg Prod.fst h3)
  |false=>
   rw[hb,cond_false]at h3
   rw[←Option.some.inj (Prod.mk.inj h3).1];simp
 unfold blOk
 simp only[hq,Bool.and_eq_true,decide_eq_true_eq,List.all_eq_true]
 refine⟨by rw[List.length_take];omega,hl2,hn,nam_some h6,?_,fun s hs=>hins s (List.mem_of_mem_take hs),hks⟩
 by_cases h0:t=0
 ·rw[if_pos h0,h0];rfl
 ·rw[if_neg h0]
  have ht:decide (1≤t)=true:=decide_eq_true (by omega)
  rw[ht,cond_true]
  have hlen:a<ins.length:=by omega
  rw[List.getD_eq_getElem?_getD,List.getElem?_eq_getElem hlen]
  exact hins _ (List.getElem_mem hlen)
theorem blk_some {f:Tk}{m:Nat}{p:Ps}{x:Bl}(h:(blkP T f m p).1=some x):m<200∧blOk x=true:=by
 unfold blkP at h
 obtain⟨nm,p1,h1,h⟩:=bnd_some h
 obtain⟨p2,_,h⟩:=bndB_some h
 obtain⟨hk,h⟩:=bif_none h
 rw[Bool.or_eq_false_iff,Bool.not_eq_false',Bool.not_eq_false']at hk
 obtain⟨⟨a,k,t⟩,hq⟩:=Option.isSome_iff_exists.1 hk.2
 rw[hq]at h
 exact bk2_some hq (nam_some h1) h
theorem out_some {f:Tk}{m:Nat}{p:Ps}{x:List Str}(h:(outP T f m p).1=some x):m+x.length≤30∧∀s∈x,nmOk s=true:=by
 unfold outP at h
 obtain⟨l,p1,h1,h⟩:=bnd_some h
 obtain⟨_,h⟩:=bif_none h
 obtain⟨hb,h⟩:=bif_none h
 rw[←Option.some.inj h]
 have:=of_decide_eq_false hb
 exact⟨by omega,ous_some _ _ _ _ (by simp) (congrArg Prod.fst h1)⟩
theorem map_some_inv {α β:Type}{o:Option α}{g:α→β}{y:β}(h:o.map g=some y):∃x,o=some x∧g x=y:=by
 cases o with
 |none=>cases h
 |some x=>exact⟨x,rfl,Option.some.inj h⟩
theorem len_snoc {α:Type}(l:List α)(x:α){n:Nat}(h:l.length<n):(l++[x]).length≤n:=by rw[List.length_append];exact h
theorem red_some {f:Tk}{d d':Dg}{p q:Ps}(hd:RsO d)(h:redP T f d p=some (some d',q)):RsO d'∧d'.nm=d.nm:=by
 unfold redP at h
 split at h
 ·obtain⟨x,hx,rfl⟩:=map_some_inv (Prod.mk.inj (Option.some.inj h)).1
  obtain⟨h1,h2⟩:=typ_some hx
  exact⟨{hd with t:=len_snoc _ _ h1,tA:=allS_app hd.tA h2},rfl⟩
 split at h
 ·obtain⟨x,hx,rfl⟩:=map_some_inv (Prod.mk.inj (Option.some.inj h)).1
  obtain⟨h1,h2⟩:=cur_some hx
  exact⟨{hd with c:=len_snoc _ _ h1,cA:=allS_app hd.cA h2},rfl⟩
 split at h
 ·obtain⟨x,hx,rfl⟩:=map_some_inv (Prod.mk.inj (Option.some.inj h)).1
  obtain⟨h1,h2⟩:=mapP_some hx
  exact⟨{hd with m:=len_snoc _ _ h1,mA:=allS_app hd.mA h2},rfl⟩
 split at h
 ·obtain⟨x,hx,rfl⟩:=map_some_inv (Prod.mk.inj (Option.some.inj h)).1
  obtain⟨h1,h2⟩:=inp_some hx
  exact⟨{hd with i:=len_snoc _ _ h1,iA:=allS_app hd.iA h2},rfl⟩
 split at h
 ·obtain⟨x,hx,rfl⟩:=map_some_inv (Prod.mk.inj (Option.some.inj h)).1
  obtain⟨h1,h2⟩:=blk_some hx
  exact⟨{hd with b:=len_snoc _ _ h1,bA:=allS_app hd.bA h2},rfl⟩
 split at h
 ·obtain⟨x,hx,rfl⟩:=map_some_inv (Prod.mk.inj (Option.some.inj h)).1
  obtain⟨h1,h2⟩:=out_some hx
  refine⟨{hd with o:=by rw[List.length_append];exact h1,oA:=fun y hy=>?_},rfl⟩
  rcases List.mem_append.1 hy with hy|hy
  ·exact hd.oA y hy
  ·exact h2 y hy
 ·cases h
theorem lne_some {d d':Dg}{p:Ps}(hd:RsO d)(hn:nmOk d.nm=true)(h:(lneP T false d p).1=some d'):RsO d'∧nmOk d'.nm=true:=by
 unfold lneP at h
 simp only[cond_false]at h
 obtain⟨_,h⟩:=bif_none h
 cases hr:redP T (hereP T p) d (advP p)with
 |none=>rw[hr]at h;cases h
 |some x=>
  rw[hr]at h
  obtain⟨d1,p1,rfl,h⟩:=bnd_some h
  obtain⟨p2,_,h⟩:=bndB_some h
  rw[←Option.some.inj h]
  obtain⟨h1,h2⟩:=red_some hd hr
  exact⟨h1,by rw[h2];exact hn⟩
theorem lne_some0 {d d':Dg}{p:Ps}(hd:RsO d)(h:(lneP T true d p).1=some d'):RsO d'∧nmOk d'.nm=true:=by
 unfold lneP at h
 simp only[cond_true]at h
 obtain⟨p1,_,h⟩:=bndB_some h
 obtain⟨nm,p2,h2,h⟩:=bnd_some h
 obtain⟨p3,_,h⟩:=bndB_some h
 rw[←Option.some.inj h]
 exact⟨{hd with},nam_some h2⟩
end
theorem parW_valid:∀(Ls:List (List Tk)) (beg:Bool) (d:Dg),(∀U∈Ls,LnT U∧U.length≤40000)→RsO d→(beg=true→Ls≠[])→(beg=false→nmOk d.nm=true)→(parW Ls beg d).2.2=0→dgOk (parW Ls beg d).1=true
 |[],beg,d,_,hd,hb,hn,_=>by
  cases beg with
  |true=>exact absurd rfl (hb rfl)
  |false=>exact hd.ok (hn rfl)
 |U::Ls,beg,d,hU,hd,hb,hn,h=>by
  obtain⟨hu,hl⟩:=hU U (List.mem_cons_self ..)
  rw[parW]at h⊢
  cases ho:(lneP U beg d ps0).1 with
  |none=>
   rw[ho]at h
   exact absurd h ((lne_rd hu.g hl beg d (List.length_pos_iff.2 hu.n)).2 ho)
  |some d'=>
   rw[ho]at h
   have h2:RsO d'∧nmOk d'.nm=true:=by
    cases beg with
    |true=>exact lne_some0 hd ho
    |false=>exact lne_some hd (hn rfl) ho
   exact parW_valid Ls false d' (fun V hV=>hU V (List.mem_cons_of_mem _ hV)) h2.1 (fun h=>by cases h) (fun _=>h2.2) h
theorem d0_rs:RsO d0:=⟨by decide,by decide,by decide,by decide,by decide,by decide,(fun x h=>by cases h),(fun x h=>by cases h),(fun x h=>by cases h),(fun x h=>by cases h),(fun x h=>by cases h),(fun x h=>by cases h)⟩
theorem par_valid (s:Str)(h:(parD s).2.2=0):dgOk (parD s).1=true:=by
 have hp:=par_eq s
 by_cases he:(tokQ s).2.2=0
 ·obtain⟨h1,h2⟩:=lnsU_sm s he
  rw[if_neg (by rw[he];simp)]at hp
  by_cases hn:lnsU 0 (splB 10 s)=[]
  ·rw[if_pos hn]at hp;rw[hp]at h;cases h
  ·rw[if_neg hn]at hp
   rw[hp]at h⊢
   exact parW_valid _ _ _ h2 d0_rs (fun _=>hn) (fun h=>by cases h) h
 ·rw[if_pos he]at hp;rw[hp]at h;exact absurd h he
theorem parW_d0:∀(Ls:List (List Tk)) (beg:Bool) (d:Dg),(parW Ls beg d).2.2≠0→(parW Ls beg d).1=d0
 |[],_,_,h=>absurd rfl h
 |U::Ls,beg,d,h=>by
  rw[parW]at h⊢
  cases ho:(lneP U beg d ps0).1 with
  |none=>rfl
  |some d'=>rw[ho]at h;exact parW_d0 Ls false d' h
theorem par_d0 (s:Str)(h:(parD s).2.2≠0):(parD s).1=d0:=by
 have hp:=par_eq s
 by_cases he:(tokQ s).2.2=0
 ·rw[if_neg (by rw[he];simp)]at hp
  by_cases hn:lnsU 0 (splB 10 s)=[]
  ·rw[if_pos hn]at hp;rw[hp]
  ·rw[if_neg hn]at hp
   rw[hp]at h⊢
   exact parW_d0 _ _ _ h
 ·rw[if_pos he]at hp;rw[hp]
theorem nmOk_len {s:Str}(h:nmOk s=true):s.length≤24:=by
 unfold nmOk at h
 simp only[Bool.and_eq_true,decide_eq_true_eq]at h
 exact h.2.1
theorem axOk_len {l:List Int}(h:axOk l=true):l.length≤32:=by
 unfold axOk at h
 simp only[Bool.and_eq_true,decide_eq_true_eq]at h
 exact h.1.2
theorem kindQ_len {s:Str}{a k t:Nat}(h:kindQ s=some (a,k,t)):a≤3∧k≤2∧t≤2:=by
 unfold kindQ at h
 obtain⟨r,hr,he⟩:=map_some_inv h
 have h1:=List.mem_of_find?_eq_some hr
 have:kindT.all (fun r=>decide (r.2.1≤3∧r.2.2.1≤2∧r.2.2.2≤2))=true:=by decide
 have h2:=of_decide_eq_true (List.all_eq_true.1 this r h1)
 rw[he]at h2;exact h2
structure BlS (b:Bl):Prop where
 nm:b.nm.length≤24
 ty:b.ty.length≤24
 tb:b.tb.length≤24
 ins:b.ins.length≤3
 ks:b.ks.length≤2
 insA:∀s∈b.ins,s.length≤24
 ksA:∀k∈b.ks,fitB k=true
 kd:(kindQ b.kd).isSome=true
theorem blOk_s {b:Bl}(h:blOk b=true):BlS b:=by
 unfold blOk at h
 cases hq:kindQ b.kd with
 |none=>rw[hq]at h;cases h
 |some x=>
  obtain⟨a,k,t⟩:=x
  rw[hq]at h
  simp only[Bool.and_eq_true,decide_eq_true_eq,List.all_eq_true]at h
  obtain⟨h1,h2,h3,h4,h5,h6,h7⟩:=h
  obtain⟨q1,q2,_⟩:=kindQ_len hq
  refine⟨nmOk_len h3,nmOk_len h4,?_,by omega,by omega,fun s hs=>nmOk_len (h6 s hs),h7,by rw[hq];rfl⟩
  split at h5
  ·rw[eq_of_beq h5];decide
  ·exact nmOk_len h5
structure MpS (m:Mp):Prop where
 xs:m.xs.length≤32
 ys:m.ys.length≤32
 zs:m.zs.length≤32
 zA:∀z∈m.zs,z.length≤32
theorem maOk_s {m:Mp}(h:maOk m.xs m.ys m.zs=true):MpS m:=by
 unfold maOk at h
 simp only[Bool.and_eq_true,decide_eq_true_eq,List.all_eq_true]at h
 obtain⟨h1,h2,h3,h4⟩:=h
 have q1:=axOk_len h1
 have q2:=axOk_len h2
 exact⟨q1,q2,by omega,fun z hz=>by rw[(h4 z hz).1];exact q2⟩
theorem cuOk_s {xs ys:List Int}(h:cuOk xs ys=true):xs.length≤32∧ys.length≤32:=by
 unfold cuOk at h
 simp only[Bool.and_eq_true,decide_eq_true_eq]at h
 have:=axOk_len h.2.1
 exact⟨this,by omega⟩
theorem sm_ok {a:DgL}(h:a.c=d0∨dgOk a.c=true):a.sm∧∀m∈a.mas,m.xs.length≤1000000000000000∧m.ys.length≤1000000000000000∧m.zs.length≤1000000000000000:=by
 have key:∀d:Dg,(d=d0∨dgOk d=true)→d.nm.length≤24∧RsO d:=by
  intro d hd
  rcases hd with rfl|hd
  ·exact⟨by decide,d0_rs⟩
  ·unfold dgOk at hd
   simp only[Bool.and_eq_true,decide_eq_true_eq,List.all_eq_true]at hd
   obtain⟨hn,⟨n1,n2,n3,n4,n5⟩,n6,ht,hcu,hma,hpo,hbl,hou⟩:=hd
   exact⟨nmOk_len hn,⟨n1,n2,n3,n4,n5,n6,ht,hcu,hma,hpo,hbl,hou⟩⟩
 obtain⟨hn,R⟩:=key a.c h
 have e2:a.c.cus.length=a.cus.length:=List.length_map _
 have e3:a.c.mas.length=a.mas.length:=List.length_map _
 have e5:a.c.bls.length=a.bls.length:=List.length_map _
 have r1:=R.t
 have r2:=R.c
 have r3:=R.m
 have r4:=R.i
 have r5:=R.b
 have r6:=R.o
 rw[e2]at r2
 rw[e3]at r3
 rw[e5]at r5
 have hm:∀m∈a.mas,MpS m.c∧m.nm.length≤24:=fun m hm=>by
  have:=R.mA m.c (List.mem_map.2 ⟨m,hm,rfl⟩)
  exact⟨maOk_s this.2,nmOk_len this.1⟩
 refine⟨⟨Nat.le_trans hn (by decide),⟨Nat.le_trans r1 (by decide),fun t ht=>Nat.le_trans (nmOk_len (R.tA t ht).1) (by decide)⟩,⟨by omega,fun c hc=>?_⟩,⟨by omega,fun m hmm=>?_⟩,⟨Nat.le_trans r4 (by decide),fun p hp=>?_⟩,⟨by omega,fun b hb=>?_⟩,⟨Nat.le_trans r6 (by decide),fun s hs=>Nat.le_trans (nmOk_len (R.oA s hs)) (by decide)⟩⟩,fun m hmm=>?_⟩
 ·obtain⟨q1,q2⟩:=R.cA c.c (List.mem_map.2 ⟨c,hc,rfl⟩)
  have:=cuOk_s q2
  have:=nmOk_len q1
  exact⟨by omega,by omega,by omega⟩
 ·obtain⟨q1,q2⟩:=hm m hmm
  refine⟨by omega,fun v hv=>?_⟩
  have:=q1.zA v.2 (List.mem_map.2 ⟨v,hv,rfl⟩)
  omega
 ·have hp:=R.iA p hp
  unfold poOk at hp
  simp only[Bool.and_eq_true]at hp
  have q1:=nmOk_len hp.1
  have q2:=nmOk_len hp.2.1
  exact⟨by omega,by omega⟩
 ·have q:=blOk_s (R.bA b.c (List.mem_map.2 ⟨b,hb,rfl⟩))
  have:=q.nm
  have:=q.ty
  have:=q.tb
  have:=q.ins
  have:=q.ks
  exact⟨by omega,by omega,by omega,by omega,by omega,fun s hs=>by have:=q.insA s hs;omega⟩
 ·obtain⟨q1,_⟩:=hm m hmm
  have h1:m.xs.length≤32:=q1.xs
  have h2:m.ys.length≤32:=q1.ys
  have h3:m.c.zs.length≤32:=q1.zs
  have h4:m.c.zs.length=m.zs.length:=List.length_map _
  exact⟨by omega,by omega,by omega⟩
theorem par_sm {a:DgL}(s:Str)(h:a.c=(parD s).1):a.sm∧∀m∈a.mas,m.xs.length≤1000000000000000∧m.ys.length≤1000000000000000∧m.zs.length≤1000000000000000:=by
 apply sm_ok
 rw[h]
 by_cases he:(parD s).2.2=0
 ·exact .inr (par_valid s he)
 ·exact .inl (par_d0 s he)
open Vg Tf
set_option maxRecDepth 100000
set_option maxHeartbeats 4000000
@[reducible,go_sem] def rnC (d:DgL)(i q:Nat):List Cv:=[.v (sv d.nm),.v (vsl d.ty d.tys.length),.v (vsl d.cu d.cus.length),.v (vsl d.ma d.mas.length),.sl 14 0 i 4,.sl 15 0 q 6,.v (vsl d.ou d.ous.length)]
@[reducible,go_sem] def rnZ:List Cv:=[.v (sv []),.v (.slice none 0 0),.v (.slice none 0 0),.v (.slice none 0 0),.v (.slice none 0 0),.v (.slice none 0 0),.v (.slice none 0 0)]
open Vg Tf
set_option maxRecDepth 100000
set_option maxHeartbeats 4000000
theorem diB_neg (c:UInt8):(bif decide ((c.toNat:Int)<48)then true else decide (57<(c.toNat:Int)))= !diB c:=by
 unfold diB
 by_cases h1:48≤c.toNat
 ·by_cases h2:c.toNat≤57
  ·rw[decide_eq_true h1,decide_eq_true h2,decide_eq_false (show ¬(c.toNat:Int)<48 by omega),decide_eq_false (show ¬(57:Int)<c.toNat by omega)];rfl
  ·rw[decide_eq_true h1,decide_eq_false h2,decide_eq_false (show ¬(c.toNat:Int)<48 by omega),decide_eq_true (show(57:Int)<c.toNat by omega)];rfl
 ·rw[decide_eq_false h1,decide_eq_true (show(c.toNat:Int)<48 by omega)];rfl
theorem allB_getD {l:Str}{i:Nat}(h:i<l.length)(hd:diB (l.getD i 0)=false):l.all diB=false:=by
 rw[List.all_eq_false]
 refine⟨l[i],List.getElem_mem h,?_⟩
 rw[List.getD_eq_getElem?_getD,List.getElem?_eq_getElem h]at hd
 simpa using hd
theorem allB_getD2 {l:Str}(h:∀k,k<l.length→diB (l.getD k 0)=true):l.all diB=true:=by
 rw[List.all_eq_true]
 intro x hx
 obtain⟨k,hk,rfl⟩:=List.mem_iff_getElem.1 hx
 have:=h k hk
 rw[List.getD_eq_getElem?_getD,List.getElem?_eq_getElem hk]at this
 exact this
theorem digV_snoc (l:Str)(c:UInt8):digV (l++[c])=digV l*10+(c.toNat-48):=by unfold digV;rw[List.foldl_append];rfl
theorem diB_le {c:UInt8}(h:diB c=true):48≤c.toNat∧c.toNat≤57:=by
 unfold diB at h
 rw[Bool.and_eq_true]at h
 exact⟨of_decide_eq_true h.1,of_decide_eq_true h.2⟩
theorem digV_pow:∀(n:Nat) (l:Str),l.length=n→l.all diB=true→digV l<10^n
 |0,l,hl,_=>by
  obtain rfl:=List.length_eq_zero_iff.1 hl
  decide
 |n+1,l,hl,h=>by
  have hne:l≠[]:=fun h=>by rw[h]at hl;cases hl
  rw[←List.dropLast_concat_getLast hne]at h⊢
  rw[List.all_append,Bool.and_eq_true]at h
  have ih:=digV_pow n l.dropLast (by rw[List.length_dropLast];omega) h.1
  have hc:=diB_le (c:=l.getLast hne) (by simpa using h.2)
  rw[digV_snoc,Nat.pow_succ]
  omega
theorem digV_lt {l:Str}(h:l.all diB=true)(hl:l.length≤19):digV l<10000000000000000000:=by
 have:=digV_pow l.length l rfl h
 have h2:10^l.length≤10^19:=Nat.pow_le_pow_right (by decide) hl
 exact Nat.lt_of_lt_of_le this h2
theorem digV_lo (c:UInt8)(hc:49≤c.toNat):∀(n:Nat) (r:Str),r.length=n→10^n≤digV (c::r)
 |0,r,hl=>by
  obtain rfl:=List.length_eq_zero_iff.1 hl
  show 1≤0*10+(c.toNat-48)
  omega
 |n+1,r,hl=>by
  have hne:r≠[]:=fun h=>by rw[h]at hl;cases hl
  rw[←List.dropLast_concat_getLast hne,←List.cons_append]
  have ih:=digV_lo c hc n r.dropLast (by rw[List.length_dropLast];omega)
  rw[digV_snoc,Nat.pow_succ]
  omega
theorem digV_ge {c:UInt8}{r:Str}(h:(c::r).all diB=true)(hne:(c==48)=false)(hl:19≤r.length):10000000000000000000≤digV (c::r):=by
 have hc:=diB_le (c:=c) (by rw[List.all_cons,Bool.and_eq_true]at h;exact h.1)
 have hc2:c.toNat≠48:=fun h=>by
  rw[beq_eq_false_iff_ne]at hne
  exact hne (UInt8.toNat_inj.1 h)
 have:=digV_lo c (by omega) r.length r rfl
 have h2:10^19≤10^r.length:=Nat.pow_le_pow_right (by decide) hl
 exact Nat.le_trans h2 this
theorem dig_step {l:Str}(h:l.all diB=true){j:Nat}(hj:j<l.length)(hl:l.length≤19):
  IntKind.u64.wrap (10*(digV (l.take j):Int))=((10*digV (l.take j):Nat):Int)∧IntKind.u8.wrap (((l.getD j 0).toNat:Int)-48)=(((l.getD j 0).toNat-48:Nat):Int)∧
  IntKind.u64.wrap (((l.getD j 0).toNat-48:Nat):Int)=(((l.getD j 0).toNat-48:Nat):Int)∧
  IntKind.u64.wrap (((10*digV (l.take j):Nat):Int)+(((l.getD j 0).toNat-48:Nat):Int))=(digV (l.take (j+1)):Int):=by
 have e:l.getD j 0=l[j]:=by rw[List.getD_eq_getElem?_getD,List.getElem?_eq_getElem hj];rfl
 have hd:=diB_le (List.all_eq_true.1 h l[j] (List.getElem_mem hj))
 have ht:digV (l.take (j+1))=digV (l.take j)*10+(l[j].toNat-48):=by rw[List.take_succ_eq_append_getElem hj,digV_snoc]
 have hall:(l.take (j+1)).all diB=true:=by
  rw[List.all_eq_true]at h⊢
  exact fun x hx=>h x (List.mem_of_mem_take hx)
 have hlt:=digV_lt hall (by rw[List.length_take];omega)
 rw[e]
 rw[ht]at hlt⊢
 refine⟨?_,?_,?_,?_⟩
 ·rw[wu64 (by omega) (by omega)];omega
 ·rw[IntKind.wrap_u8];omega
 ·rw[wu64 (by omega) (by omega)]
 ·rw[wu64 (by omega) (by omega)];omega
theorem rap_c (a:UInt8)(s:Str)(hdgp:dgT (a::s)=a::s):((bif ((a.toNat:Int)==48)then decide ((1:Int)<((s.length+1:Nat):Int))else false)=true→(dgT (a::s)==[]||((dgT (a::s)).getD 0 0==48&&decide (1<(a::s:Str).length)))=true)∧
  ((bif ((a.toNat:Int)==48)then decide ((1:Int)<((s.length+1:Nat):Int))else false)=false→(¬(dgT (a::s)==[]||((dgT (a::s)).getD 0 0==48&&decide (1<(a::s:Str).length)))=true)∧(19≤s.length→(a==48)=false)):=by
 have h48e:((a.toNat:Int)==48)=(a==48):=by
  rw[Bool.eq_iff_iff,beq_iff_eq,beq_iff_eq,←UInt8.toNat_inj]
  show(a.toNat:Int)=48↔a.toNat=48
  omega
 have hd1:decide ((1:Int)<((s.length+1:Nat):Int))=decide (1<s.length+1):=by rw[decide_eq_decide];omega
 have hcc:(dgT (a::s)==[]||((dgT (a::s)).getD 0 0==48&&decide (1<(a::s:Str).length)))=bif ((a.toNat:Int)==48)then decide ((1:Int)<((s.length+1:Nat):Int))else false:=by
  rw[hdgp,h48e,hd1]
  show(false||((a==48)&&decide (1<s.length+1)))=_
  cases a==48<;>rfl
 refine⟨fun h=>by rw[hcc];exact h,fun h=>⟨by rw[hcc,h];simp,fun hs=>?_⟩⟩
 rw[h48e,hd1,decide_eq_true (show 1<s.length+1 by omega)]at h
 cases hq:a==48 with
 |true=>rw[hq]at h;cases h
 |false=>rfl
theorem rap_nil:CallOk Tryz.prog 246 [S []] [] (.tup [Wi (aprQ []).1,Wi (aprQ []).2]) []:=by
 have e:aprQ []=(0,3):=rfl
 rw[e]
 refine CallOk.mkN 100 Tryz.func246 rfl en246 (by simp[Tryz.ntmps246]) (ClA.of rfl) rfl rfl fun C hR hP=>?_
 refine vv ?_
 exact RetQ.of hR rfl (vv trivial) rvr (Sub.nil _) ClM.nil (ClV.of rfl)
theorem rap_neg0:CallOk Tryz.prog 246 [S [45]] [] (.tup [Wi (aprQ [45]).1,Wi (aprQ [45]).2]) []:=by
 have h45:(((45:UInt8).toNat:Int)==45)=true:=rfl
 have e:aprQ [45]=(0,3):=rfl
 rw[e]
 refine CallOk.mkN 100 Tryz.func246 rfl en246 (by simp[Tryz.ntmps246]) (ClA.of rfl) rfl rfl fun C hR hP=>?_
 simp(maxSteps:=2000000) only[go_sem,h45,List.getD_cons_zero]
 exact RetQ.of hR rfl (vv trivial) rvr (Sub.nil _) ClM.nil (ClV.of rfl)
theorem rap_neg (c:UInt8)(r:Str):CallOk Tryz.prog 246 [S (45::c::r)] [] (.tup [Wi (aprQ (45::c::r)).1,Wi (aprQ (45::c::r)).2]) []:=by
 have hp0:decide ((0:Int)<((r.length+1+1:Nat):Int))=true:=decide_eq_true (by omega)
 have htk:List.take (((r.length+1+1:Nat):Int)-1).toNat (c::r)=c::r:=List.take_of_length_le (by simp)
 have hz:(((r.length+1:Nat):Int)==0)=false:=by rw[beq_eq_false_iff_ne];omega
 have h45:(((45:UInt8).toNat:Int)==45)=true:=rfl
 have hll:(45::c::r:Str).length=r.length+1+1:=rfl
 refine CallOk.mkN 100 Tryz.func246 rfl en246 (by simp[Tryz.ntmps246]) (ClA.of rfl) rfl rfl fun C hR hP=>?_
 simp(maxSteps:=2000000) only[go_sem,List.length_cons]
 unfold aprQ at hR
 refine mtch (fun hc=>?_) (fun hc=>?_)
 ·have hc:=of_decide_eq_true hc
  rw[if_pos (by rw[hll];omega)]at hR
  exact RetQ.of hR rfl (vv trivial) rvr (Sub.nil _) ClM.nil (ClV.of rfl)
 have hc:=of_decide_eq_false hc
 rw[if_neg (by rw[hll];omega)]at hR
 have hln:r.length≤22:=by omega
 simp(maxSteps:=2000000) only[go_sem,hp0,htk,hz,h45,List.getD_cons_zero]
 refine⟨by omega,⟨by omega,by omega⟩,by omega,?_⟩
 refine mtch (fun h48=>?_) (fun h48=>?_)
 ·have h48:c=48:=UInt8.toNat_inj.1 (by have:(c.toNat:Int)=48:=by {cases hq:((c.toNat:Int)==48)with|true=>exact eq_of_beq hq|false=>rw[hq]at h48;cases h48};rw[show(48:UInt8).toNat=48 from rfl];omega)
  have hz3:(dgT (45::c::r)==[]||((dgT (45::c::r)).getD 0 0==48&&decide (1<(45::c::r:Str).length)))=true:=by subst h48;show(false||(true&&decide (1<r.length+1+1)))=true;rw[decide_eq_true (by omega)];rfl
  rw[if_pos hz3]at hR
  exact RetQ.of hR rfl (vv trivial) rvr (Sub.nil _) ClM.nil (ClV.of rfl)
 have h48:((c.toNat:Int)==48)=false:=by {cases hq:((c.toNat:Int)==48)with|true=>rw[hq]at h48;cases h48|false=>rfl}
 have hne:(c==48)=false:=by rw[beq_eq_false_iff_ne]at h48⊢;intro h;exact h48 (by rw[h];rfl)
 have hz3:¬(dgT (45::c::r)==[]||((dgT (45::c::r)).getD 0 0==48&&decide (1<(45::c::r:Str).length)))=true:=by show ¬(false||((c==48)&&_))=true;rw[hne];simp
 rw[if_neg hz3]at hR
 have hdg:dgT (45::c::r)=c::r:=rfl
 rw[hdg]at hR
 refine vv ?_
 refine Sm.loopM (M0:=[]) (α:={i:Nat//i≤r.length+1∧∀k,k<i→diB ((c::r).getD k 0)=true}) hP (fun i=>[(4,true,Bo true),(5,true,S (c::r)),(6,true,I i.val)]) (fun _=>[]) (fun i=>r.length+1-i.val) ⟨0,Nat.zero_le _,fun k hk=>by omega⟩ (fun _=>ClM.nil) (fun _=>ClE.of rfl) [] ?_ ?_
 ·exact⟨rfl,trivial,⟨rfl,rfl,rfl,trivial⟩,trivial⟩
 rintro⟨i,hi,hx⟩ J hb
 simp only at hb hi hx⊢
 refine Sm.go 120 ?_
 simp(maxSteps:=2000000) only[go_sem,List.length_cons]
 refine mtch (fun hc2=>?_) (fun hc2=>?_)
 ·have hc2:i<r.length+1:=by have:=of_decide_eq_true hc2;omega
  have hdi:(bif decide ((((c::r).getD i 0).toNat:Int)<48)then true else decide (57<(((c::r).getD i 0).toNat:Int)))= !diB ((c::r).getD i 0):=diB_neg _
  refine⟨⟨by omega,by omega⟩,(fun h=>⟨h,h,by omega,by omega⟩),?_⟩
  rw[hdi]
  refine mtch (fun hd=>?_) (fun hd=>?_)
  ·have hall:(c::r).all diB=false:=allB_getD (i:=i) (by simpa using hc2) (by simpa using hd)
   rw[if_pos hall]at hR
   exact RetQ.of hR rfl (vv trivial) rvr (Sub.nil _) ClM.nil (ClV.of rfl)
  ·simp(maxSteps:=2000000) only[go_sem,wS (show i≤1000000000000000000 by omega)]
   refine hb _ _ ⟨i+1,by omega,fun k hk=>?_⟩ [] (by simp only;omega) ⟨rfl,trivial,⟨rfl,rfl,rfl,trivial⟩,trivial⟩
   rcases Nat.lt_succ_iff_lt_or_eq.1 hk with h|h
   ·exact hx k h
   ·subst h;simpa using hd
 have hc2:i=r.length+1:=by have:=of_decide_eq_false hc2;omega
 clear hb
 have hall:(c::r).all diB=true:=allB_getD2 (fun k hk=>hx k (by rw[hc2];simpa using hk))
 rw[if_neg (by rw[hall];simp)]at hR
 have hnv:numV (45::c::r)= -(digV (c::r):Int):=rfl
 rw[hnv]at hR
 refine vv ?_
 refine mtch (fun h19=>?_) (fun h19=>?_)
 ·have h19:=of_decide_eq_true h19
  have hge:=digV_ge (hall) (r:=r) (c:=c) hne (by omega)
  rw[if_neg (by omega)]at hR
  exact RetQ.of hR rfl (vv trivial) rvr (Sub.nil _) ClM.nil (ClV.of rfl)
 have h19:=of_decide_eq_false h19
 refine vv ?_
 refine Sm.loopM (M0:=[]) (α:={i:Nat//i≤r.length+1}) hP (fun i=>[(4,true,Bo true),(5,true,S (c::r)),(7,true,.c (.v (.int .u64 (digV ((c::r).take i.val):Nat)))),(8,true,I i.val)]) (fun _=>[]) (fun i=>r.length+1-i.val) ⟨0,Nat.zero_le _⟩ (fun _=>ClM.nil) (fun _=>ClE.of rfl) [] ?_ ?_
 ·exact⟨rfl,trivial,⟨rfl,rfl,rfl,rfl,trivial⟩,trivial⟩
 rintro⟨j,hj⟩ J2 hb2
 simp only at hb2 hj⊢
 rcases Nat.lt_or_ge j (r.length+1)with hc3|hc3
 ·have hd3:decide ((j:Int)<((r.length+1:Nat):Int))=true:=decide_eq_true (by omega)
  obtain⟨hu1,hu2,hu3,hu4⟩:=dig_step hall (j:=j) (by simpa using hc3) (by simp only[List.length_cons];omega)
  refine Sm.go 130 ?_
  simp(maxSteps:=2000000) only[go_sem,List.length_cons,hd3,hu1,hu2,hu3,hu4,wS (show j≤1000000000000000000 by omega)]
  refine⟨⟨by omega,by omega⟩,?_⟩
  exact hb2 _ _ ⟨j+1,by omega⟩ [] (by simp only;omega) ⟨rfl,trivial,⟨rfl,rfl,rfl,rfl,trivial⟩,trivial⟩
 obtain rfl:j=r.length+1:=by omega
 clear hb2
 have hd3:decide (((r.length+1:Nat):Int)<((r.length+1:Nat):Int))=false:=decide_eq_false (by omega)
 have htk:(c::r).take (r.length+1)=c::r:=List.take_of_length_le (by simp only[List.length_cons];omega)
 rw[htk]
 have hlt:=digV_lt hall (by simp only[List.length_cons];omega)
 generalize digV (c::r)=v at*
 refine Sm.go 130 ?_
 by_cases hv:v≤9223372036854775808
 ·have hq:decide ((v:Int)≤9223372036854775808)=true:=decide_eq_true (by omega)
  have hw:IntKind.i64.wrap (IntKind.u64.wrap (0-(v:Int)))= -(v:Int):=by rw[IntKind.wrap_u64,IntKind.wrap_i64];omega
  simp(maxSteps:=2000000) only[go_sem,List.length_cons,hd3,hq,hw]
  rw[if_pos (by omega)]at hR
  exact RetQ.of hR rfl (vv trivial) rvr (Sub.nil _) ClM.nil (ClV.of rfl)
 ·have hq:decide ((v:Int)≤9223372036854775808)=false:=decide_eq_false (by omega)
  simp(maxSteps:=2000000) only[go_sem,List.length_cons,hd3,hq]
  rw[if_neg (by omega)]at hR
  exact RetQ.of hR rfl (vv trivial) rvr (Sub.nil _) ClM.nil (ClV.of rfl)
theorem rap_pos (a:UInt8)(s:Str)(ha:a≠45):CallOk Tryz.prog 246 [S (a::s)] [] (.tup [Wi (aprQ (a::s)).1,Wi (aprQ (a::s)).2]) []:=by
 have ha2:((a.toNat:Int)==45)=false:=by
  rw[beq_eq_false_iff_ne];intro h;exact ha (UInt8.toNat_inj.1 (by rw[show(45:UInt8).toNat=45 from rfl];omega))
 have hp0:decide ((0:Int)<((s.length+1:Nat):Int))=true:=decide_eq_true (by omega)
 have hz:(((s.length+1:Nat):Int)==0)=false:=by rw[beq_eq_false_iff_ne];omega
 have hng:ngB (a::s)=false:=by unfold ngB;rw[List.getD_cons_zero,beq_eq_false_iff_ne];exact ha
 have hdgp:dgT (a::s)=a::s:=by unfold dgT;rw[hng];rfl
 have hnvp:numV (a::s)=(digV (a::s):Int):=by unfold numV;rw[hng,hdgp];rfl
 obtain⟨hzp,hzn⟩:=rap_c a s hdgp
 have hll:(a::s:Str).length=s.length+1:=rfl
 refine CallOk.mkN 100 Tryz.func246 rfl en246 (by simp[Tryz.ntmps246]) (ClA.of rfl) rfl rfl fun C hR hP=>?_
 simp(maxSteps:=2000000) only[go_sem,List.length_cons]
 unfold aprQ at hR
 refine mtch (fun hc=>?_) (fun hc=>?_)
 ·have hc:=of_decide_eq_true hc
  rw[if_pos (by rw[hll];omega)]at hR
  exact RetQ.of hR rfl (vv trivial) rvr (Sub.nil _) ClM.nil (ClV.of rfl)
 have hc:=of_decide_eq_false hc
 rw[if_neg (by rw[hll];omega)]at hR
 have hln:s.length≤23:=by omega
 simp(maxSteps:=2000000) only[go_sem,ha2,hp0,hz,List.getD_cons_zero]
 refine⟨by omega,by omega,?_⟩
 refine mtch (fun h48=>?_) (fun h48=>?_)
 ·have hz3:(dgT (a::s)==[]||((dgT (a::s)).getD 0 0==48&&decide (1<(a::s:Str).length)))=true:=hzp h48
  rw[if_pos hz3]at hR
  exact RetQ.of hR rfl (vv trivial) rvr (Sub.nil _) ClM.nil (ClV.of rfl)
 have hnz:=hzn h48
 have hz3:¬(dgT (a::s)==[]||((dgT (a::s)).getD 0 0==48&&decide (1<(a::s:Str).length)))=true:=hnz.1
 rw[if_neg hz3]at hR
 have hdg:dgT (a::s)=a::s:=hdgp
 rw[hdg]at hR
 refine vv ?_
 refine Sm.loopM (M0:=[]) (α:={i:Nat//i≤s.length+1∧∀k,k<i→diB ((a::s).getD k 0)=true}) hP (fun i=>[(4,true,Bo false),(5,true,S (a::s)),(6,true,I i.val)]) (fun _=>[]) (fun i=>s.length+1-i.val) ⟨0,Nat.zero_le _,fun k hk=>by omega⟩ (fun _=>ClM.nil) (fun _=>ClE.of rfl) [] ?_ ?_
 ·exact⟨rfl,trivial,⟨rfl,rfl,rfl,trivial⟩,trivial⟩
 rintro⟨i,hi,hx⟩ J hb
 simp only at hb hi hx⊢
 refine Sm.go 120 ?_
 simp(maxSteps:=2000000) only[go_sem,List.length_cons]
 refine mtch (fun hc2=>?_) (fun hc2=>?_)
 ·have hc2:i<s.length+1:=by have:=of_decide_eq_true hc2;omega
  have hdi:(bif decide ((((a::s).getD i 0).toNat:Int)<48)then true else decide (57<(((a::s).getD i 0).toNat:Int)))= !diB ((a::s).getD i 0):=diB_neg _
  refine⟨⟨by omega,by omega⟩,(fun h=>⟨h,h,by omega,by omega⟩),?_⟩
  rw[hdi]
  refine mtch (fun hd=>?_) (fun hd=>?_)
  ·have hall:(a::s).all diB=false:=allB_getD (i:=i) (by simpa using hc2) (by simpa using hd)
   rw[if_pos hall]at hR
   exact RetQ.of hR rfl (vv trivial) rvr (Sub.nil _) ClM.nil (ClV.of rfl)
  ·simp(maxSteps:=2000000) only[go_sem,wS (show i≤1000000000000000000 by omega)]
   refine hb _ _ ⟨i+1,by omega,fun k hk=>?_⟩ [] (by simp only;omega) ⟨rfl,trivial,⟨rfl,rfl,rfl,trivial⟩,trivial⟩
   rcases Nat.lt_succ_iff_lt_or_eq.1 hk with h|h
   ·exact hx k h
   ·subst h;simpa using hd
 have hc2:i=s.length+1:=by have:=of_decide_eq_false hc2;omega
 clear hb
 have hall:(a::s).all diB=true:=allB_getD2 (fun k hk=>hx k (by rw[hc2];simpa using hk))
 rw[if_neg (by rw[hall];simp)]at hR
 have hnv:numV (a::s)=(digV (a::s):Int):=hnvp
 rw[hnv]at hR
 refine vv ?_
 refine mtch (fun h19=>?_) (fun h19=>?_)
 ·have h19:=of_decide_eq_true h19
  have hge:=digV_ge (hall) (r:=s) (c:=a) (hnz.2 (by omega)) (by omega)
  rw[if_neg (by omega)]at hR
  exact RetQ.of hR rfl (vv trivial) rvr (Sub.nil _) ClM.nil (ClV.of rfl)
 have h19:=of_decide_eq_false h19
 refine vv ?_
 refine Sm.loopM (M0:=[]) (α:={i:Nat//i≤s.length+1}) hP (fun i=>[(4,true,Bo false),(5,true,S (a::s)),(7,true,.c (.v (.int .u64 (digV ((a::s).take i.val):Nat)))),(8,true,I i.val)]) (fun _=>[]) (fun i=>s.length+1-i.val) ⟨0,Nat.zero_le _⟩ (fun _=>ClM.nil) (fun _=>ClE.of rfl) [] ?_ ?_
 ·exact⟨rfl,trivial,⟨rfl,rfl,rfl,rfl,trivial⟩,trivial⟩
 rintro⟨j,hj⟩ J2 hb2
 simp only at hb2 hj⊢
 rcases Nat.lt_or_ge j (s.length+1)with hc3|hc3
 ·have hd3:decide ((j:Int)<((s.length+1:Nat):Int))=true:=decide_eq_true (by omega)
  obtain⟨hu1,hu2,hu3,hu4⟩:=dig_step hall (j:=j) (by simpa using hc3) (by simp only[List.length_cons];omega)
  refine Sm.go 130 ?_
  simp(maxSteps:=2000000) only[go_sem,List.length_cons,hd3,hu1,hu2,hu3,hu4,wS (show j≤1000000000000000000 by omega)]
  refine⟨⟨by omega,by omega⟩,?_⟩
  exact hb2 _ _ ⟨j+1,by omega⟩ [] (by simp only;omega) ⟨rfl,trivial,⟨rfl,rfl,rfl,rfl,trivial⟩,trivial⟩
 obtain rfl:j=s.length+1:=by omega
 clear hb2
 have hd3:decide (((s.length+1:Nat):Int)<((s.length+1:Nat):Int))=false:=decide_eq_false (by omega)
 have htk:(a::s).take (s.length+1)=a::s:=List.take_of_length_le (by simp only[List.length_cons];omega)
 rw[htk]
 have hlt:=digV_lt hall (by simp only[List.length_cons];omega)
 generalize digV (a::s)=v at*
 obtain⟨w,hw0⟩:∃w:Int,w=(v:Int):=⟨_,rfl⟩
 rw[←hw0]at hR⊢
 refine Sm.go 130 ?_
 by_cases hv:w<9223372036854775808
 ·have hq:decide (w<9223372036854775808)=true:=decide_eq_true (by omega)
  have hw:IntKind.i64.wrap w=w:=by rw[IntKind.wrap_i64];omega
  simp(maxSteps:=2000000) only[go_sem,List.length_cons,hd3,hq,hw]
  rw[if_pos (by omega)]at hR
  exact RetQ.of hR rfl (vv trivial) rvr (Sub.nil _) ClM.nil (ClV.of rfl)
 ·have hq:decide (w<9223372036854775808)=false:=decide_eq_false (by omega)
  simp(maxSteps:=2000000) only[go_sem,List.length_cons,hd3,hq]
  rw[if_neg (by omega)]at hR
  exact RetQ.of hR rfl (vv trivial) rvr (Sub.nil _) ClM.nil (ClV.of rfl)
theorem rap_:∀(s:Str),CallOk Tryz.prog 246 [S s] [] (.tup [Wi (aprQ s).1,Wi (aprQ s).2]) []
 |[]=>rap_nil
 |a::s=>by
  by_cases ha:a=45
  ·subst ha
   cases s with
   |nil=>exact rap_neg0
   |cons c r=>exact rap_neg c r
  ·exact rap_pos a s ha
def nxB (r:Str):Prop:=∀c,r.head?=some c→inB c=false
theorem getD_pre (pre x:Str)(i:Nat):(pre++x).getD (pre.length+i) 0=x.getD i 0:=by
 rw[List.getD_eq_getElem?_getD,List.getD_eq_getElem?_getD,List.getElem?_append_right (by omega),Nat.add_sub_cancel_left]
theorem run1_pre (p:UInt8→Bool)(pre x:Str)(i:Nat):run1 p (pre++x) (pre.length+i)=run1 p x i:=by
 unfold run1
 rw[List.drop_append,List.drop_eq_nil_of_le (by omega),List.nil_append,Nat.add_sub_cancel_left]
theorem sub_pre (pre x:Str)(n:Nat):subS2 (pre++x) pre.length n=subS2 x 0 n:=by
 unfold subS2
 rw[List.drop_left];rfl
theorem dec_pre (pre x:Str)(n:Nat):decide (pre.length+n<(pre++x).length)=decide (0+n<x.length):=by
 rw[decide_eq_decide,List.length_append];omega
theorem scn_pre (pre x:Str):scnQ (pre++x) pre.length=scnQ x 0:=by
 have g0:(pre++x).getD pre.length 0=x.getD 0 0:=getD_pre pre x 0
 have r0:∀p,run1 p (pre++x) pre.length=run1 p x 0:=fun p=>run1_pre p pre x 0
 have r1:∀p,run1 p (pre++x) (pre.length+1)=run1 p x (0+1):=fun p=>run1_pre p pre x 1
 have g1:(pre++x).getD (pre.length+1) 0=x.getD (0+1) 0:=getD_pre pre x 1
 have gn:∀n,(pre++x).getD (pre.length+n) 0=x.getD (0+n) 0:=fun n=>by rw[getD_pre,Nat.zero_add]
 unfold scnQ
 simp only[g0,r0,r1,g1,gn,sub_pre,dec_pre]
theorem tw_app (p:UInt8→Bool)(r:Str)(hr:∀c,r.head?=some c→p c=false):∀w:Str,(∀c∈w,p c=true)→(w++r).takeWhile p=w
 |[],_=>by
  cases r with
  |nil=>rfl
  |cons c r=>rw[List.nil_append,List.takeWhile_cons,hr c rfl];rfl
 |c::w,h=>by
  rw[List.cons_append,List.takeWhile_cons,h c (List.mem_cons_self ..),if_pos rfl,tw_app p r hr w fun x hx=>h x (List.mem_cons_of_mem _ hx)]
theorem tw_mem (p:UInt8→Bool):∀(l:Str),∀c∈l.takeWhile p,p c=true
 |[],c,h=>by cases h
 |x::l,c,h=>by
  rw[List.takeWhile_cons]at h
  split at h
  ·rcases List.mem_cons.1 h with h|h
   ·subst h;assumption
   ·exact tw_mem p l c h
  ·cases h
theorem tw_take (p:UInt8→Bool):∀l:Str,l.take (l.takeWhile p).length=l.takeWhile p
 |[]=>rfl
 |x::l=>by
  rw[List.takeWhile_cons]
  split
  ·rw[List.length_cons,List.take_succ_cons,tw_take p l]
  ·rfl
theorem diB_inB {c:UInt8}(h:inB c=false):diB c=false∧leB c=false∧(c==95)=false:=by
 unfold inB at h
 rw[Bool.or_eq_false_iff,Bool.or_eq_false_iff]at h
 refine⟨h.2.1,h.1,?_⟩
 have:=of_decide_eq_false h.2.2
 rw[beq_eq_false_iff_ne]
 rintro rfl
 exact this rfl
structure TkV (k:Nat) (t:Str):Prop where
 n:t≠[]
 h:∀pre r,nxB r→scnQ (pre++(t++r)) pre.length=(k,t.length,0)
theorem scn_tkv {l:Str}{k:Nat}(hk:k<l.length)(he:(scnQ l k).2.2=0)(h0:(scnQ l k).1≠0):TkV (scnQ l k).1 (subS2 l k (scnQ l k).2.1):=by
 have hs:scnQ l k=scnQ (l.drop k) 0:=by
  have:=scn_pre (l.take k) (l.drop k)
  rw[List.take_append_drop,List.length_take,Nat.min_eq_left (by omega)]at this
  exact this
 have hsub:∀n,subS2 l k n=(l.drop k).take n:=fun n=>rfl
 have hne:l.drop k≠[]:=fun h=>by have:=congrArg List.length h;rw[List.length_drop]at this;simp at this;omega
 rw[hsub,hs]
 rw[hs]at he h0
 generalize l.drop k=x at*
 cases x with
 |nil=>exact absurd rfl hne
 |cons c x=>
  have hx0:(c::x).getD 0 0=c:=rfl
  unfold scnQ at he h0⊢
  simp only[hx0]at he h0⊢
  by_cases h1:c=32∨c=9
  ·simp only[if_pos h1]at h0;exact absurd rfl h0
  simp only[if_neg h1]at he h0⊢
  by_cases h2:leB c=true
  ·simp only[if_pos h2]at he h0⊢
   by_cases h3:24<run1 inB (c::x) 0
   ·simp only[if_pos h3]at he;cases he
   ·simp only[if_neg h3]at he h0⊢
    have e0:run1 inB (c::x) 0=((c::x).takeWhile inB).length:=rfl
    have ht:(c::x).take (run1 inB (c::x) 0)=c::x.takeWhile inB:=by rw[e0,tw_take,List.takeWhile_cons,leB_inB h2];rfl
    rw[ht]
    refine⟨by simp,fun pre r hr=>?_⟩
    rw[scn_pre]
    have ew:((c::x.takeWhile inB)++r).takeWhile inB=c::x.takeWhile inB:=tw_app inB r hr _ fun y hy=>by
     rcases List.mem_cons.1 hy with h|h
     ·subst h;exact leB_inB h2
     ·exact tw_mem _ _ _ h
    have er:run1 inB ((c::x.takeWhile inB)++r) 0=(c::x.takeWhile inB).length:=by
     show(((c::x.takeWhile inB)++r).takeWhile inB).length=_
     rw[ew]
    have e1:run1 inB (c::x) 0=(c::x.takeWhile inB).length:=by rw[e0,List.takeWhile_cons,leB_inB h2];rfl
    rw[e1]at h3
    have hg:((c::x.takeWhile inB)++r).getD 0 0=c:=rfl
    unfold scnQ
    simp only[hg,if_neg h1,if_pos h2,er,if_neg h3]
  simp only[if_neg h2]at he h0⊢
  by_cases h4:(diB c||(c==45&&(decide (0+1<(c::x).length)&&diB ((c::x).getD (0+1) 0))))=true
  ·simp only[if_pos h4]at he h0⊢
   split at he
   ·cases he
   ·rename_i h5
    split at he
    ·cases he
    ·rename_i h6
     simp only[if_neg h5,if_neg h6]
     have e0:run1 diB (c::x) (0+1)=(x.takeWhile diB).length:=rfl
     have ht:(c::x).take (1+run1 diB (c::x) (0+1))=c::x.takeWhile diB:=by rw[e0,Nat.add_comm,List.take_succ_cons,tw_take]
     have hsb:subS2 (c::x) 0 (1+run1 diB (c::x) (0+1))=c::x.takeWhile diB:=ht
     rw[hsb]at h5 h6
     rw[ht]
     refine⟨by simp,fun pre r hr=>?_⟩
     rw[scn_pre]
     have ew:(x.takeWhile diB++r).takeWhile diB=x.takeWhile diB:=tw_app diB r (fun y hy=>(diB_inB (hr y hy)).1) _ (tw_mem _ _)
     have er:run1 diB ((c::x.takeWhile diB)++r) (0+1)=(x.takeWhile diB).length:=by
      show((x.takeWhile diB++r).takeWhile diB).length=_
      rw[ew]
     have hg:((c::x.takeWhile diB)++r).getD 0 0=c:=rfl
     have h4':(diB c||(c==45&&(decide (0+1<((c::x.takeWhile diB)++r).length)&&diB (((c::x.takeWhile diB)++r).getD (0+1) 0))))=true:=by
      cases hd:diB c with
      |true=>rfl
      |false=>
       rw[hd,Bool.false_or,Bool.and_eq_true,Bool.and_eq_true]at h4
       obtain⟨q1,q2,q3⟩:=h4
       rw[q1]
       cases x with
       |nil=>exact absurd (of_decide_eq_true q2) (by simp)
       |cons y x=>
        have q3:diB y=true:=q3
        rw[List.takeWhile_cons,q3]
        simp[q3]
     have hsb2:subS2 ((c::x.takeWhile diB)++r) 0 (1+(x.takeWhile diB).length)=c::x.takeWhile diB:=by
      show((c::x.takeWhile diB)++r).take _=_
      rw[Nat.add_comm,List.cons_append,List.take_succ_cons,List.take_left]
     have h5':¬((decide (0+(1+(x.takeWhile diB).length)<((c::x.takeWhile diB)++r).length)&&(leB (((c::x.takeWhile diB)++r).getD (0+(1+(x.takeWhile diB).length)) 0)||((c::x.takeWhile diB)++r).getD (0+(1+(x.takeWhile diB).length)) 0==95))|| !canQ (c::x.takeWhile diB))=true:=by
      intro hh
      apply h5
      rw[Bool.or_eq_true]at hh⊢
      right
      rcases hh with hh|hh
      ·exfalso
       have e9:((c::x.takeWhile diB)++r).getD (0+(1+(x.takeWhile diB).length)) 0=r.getD 0 0:=by
        have:=getD_pre (c::x.takeWhile diB) r 0
        rw[List.length_cons]at this
        rw[show 0+(1+(x.takeWhile diB).length)=(x.takeWhile diB).length+1+0 from by omega];exact this
       rw[e9]at hh
       cases r with
       |nil=>simp at hh;exact absurd hh.1 (by omega)
       |cons y r=>
        have:=diB_inB (hr y rfl)
        have e8:(y::r).getD 0 0=y:=rfl
        rw[e8,this.2.1,this.2.2]at hh
        simp at hh
      ·exact hh
     unfold scnQ
     simp only[hg,if_neg h1,if_neg h2,if_pos h4',er,hsb2,if_neg h5',if_neg h6]
     rw[List.length_cons,Nat.add_comm]
  simp only[if_neg h4]at he h0⊢
  by_cases h7:symL.contains c=true
  ·simp only[if_pos h7]at he h0⊢
   have ht:(c::x).take 1=[c]:=rfl
   rw[ht]
   refine⟨by simp,fun pre r hr=>?_⟩
   rw[scn_pre]
   have hg:([c]++r).getD 0 0=c:=rfl
   have h4':¬(diB c||(c==45&&(decide (0+1<([c]++r).length)&&diB (([c]++r).getD (0+1) 0))))=true:=by
    intro hh
    rw[Bool.or_eq_true]at hh
    rcases hh with hh|hh
    ·exact h4 (by rw[hh];rfl)
    ·rw[Bool.and_eq_true]at hh
     have:=eq_of_beq hh.1
     subst this
     exact absurd h7 (by decide)
   unfold scnQ
   simp only[hg,if_neg h1,if_neg h2,if_neg h4',if_pos h7]
   rfl
  ·simp only[if_neg h7]at he;cases he
theorem lin_tkv (ln:Nat)(l:Str):∀(f k:Nat),k≤l.length→∀t∈(linQ ln l f k).1,TkV t.k t.s∧∀c∈t.s,c∈l
 |0,k,hk=>fun t h=>by cases h
 |f+1,k,hk=>by
  rw[linQ]
  by_cases h1:l.length≤k
  ·rw[if_pos h1];exact fun t h=>by cases h
  rw[if_neg h1]
  by_cases h2:l.getD k 0=35
  ·rw[if_pos h2]
   cases badK l (l.length+1) k<;>exact fun t h=>by cases h
  rw[if_neg h2]
  by_cases h3:(scnQ l k).2.2≠0
  ·rw[if_pos h3];exact fun t h=>by cases h
  rw[if_neg h3]
  have he:(scnQ l k).2.2=0:=by omega
  obtain⟨q1,q2,q3⟩:=scn_ok (by omega) he
  intro t ht
  rcases List.mem_append.1 ht with h|h
  ·split at h
   ·cases h
   ·rename_i h0
    rw[List.mem_singleton]at h
    subst h
    exact⟨scn_tkv (by omega) he h0,fun c hc=>List.mem_of_mem_drop (List.mem_of_mem_take hc)⟩
  ·exact lin_tkv ln l f _ q2 t h
def lay:List (Str×Nat×Str)→Str→Str
 |[],tl=>tl
 |(sp,_,t)::ps,tl=>sp++(t++lay ps tl)
theorem splB_nl (c:UInt8):∀(s:Str),∀l∈splB c s,c∉l
 |[],l,h=>by
  have:l∈[([]:Str)]:=h
  rw[List.mem_singleton]at this;subst this;simp
 |x::s,l,h=>by
  have ih:=splB_nl c s
  rw[splB_cons]at h
  split at h
  ·rcases List.mem_cons.1 h with h|h
   ·subst h;simp
   ·exact ih l h
  ·rename_i hx
   cases hq:splB c s with
   |nil=>exact absurd hq (splB_ne c s)
   |cons a t=>
    rw[hq]at h ih
    rcases List.mem_cons.1 h with h|h
    ·subst h
     have:=ih a (List.mem_cons_self ..)
     simp only[List.mem_cons,not_or]
     exact⟨fun hh=>hx hh.symm,this⟩
    ·exact ih l (List.mem_cons_of_mem _ h)
end Go.Proofs.YtlnpgbnhcondjaaGreatDoor.Fx
