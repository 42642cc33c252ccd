/-  -/
import Derived.Test.YtlnpgbnhcondjaaGreatDoorTf
import Derived.Test.YtlnpgbnhcondjaaGreatDoorZP
import Derived.Test.YtlnpgbnhcondjaaGreatDoorP1
namespace Go.Proofs.YtlnpgbnhcondjaaGreatDoor.Fx
open Vg Tf
set_option linter.unusedSimpArgs false
set_option linter.unusedVariables false
set_option maxRecDepth 100000
set_option maxHeartbeats 4000000
@[reducible,go_sem] def rnC (d:DgL)(i q:Nat):List Cv:=[.v (sv d.nm),.v (vsl d.ty d.tys.length),.v (vsl d.cu d.cus.length),.v (vsl d.ma d.mas.length),.sl 14 0 i 4,.sl 15 0 q 6,.v (vsl d.ou d.ous.length)]
@[reducible,go_sem] def rnZ:List Cv:=[.v (sv []),.v (.slice none 0 0),.v (.slice none 0 0),.v (.slice none 0 0),.v (.slice none 0 0),.v (.slice none 0 0),.v (.slice none 0 0)]
end Go.Proofs.YtlnpgbnhcondjaaGreatDoor.Fx
namespace Go.Proofs.YtlnpgbnhcondjaaGreatDoor.Fx
set_option linter.unusedVariables false
set_option linter.unusedSimpArgs false
def nxB (r:Str):Prop:=∀c,r.head?=some c→inB c=false
theorem getD_pre (pre x:Str)(i:Nat):(pre++x).getD (pre.length+i) 0=x.getD i 0:=by
 rw[List.getD_eq_getElem?_getD,List.getD_eq_getElem?_getD,List.getElem?_append_right (by omega),Nat.add_sub_cancel_left]
theorem run1_pre (p:UInt8→Bool)(pre x:Str)(i:Nat):run1 p (pre++x) (pre.length+i)=run1 p x i:=by
 unfold run1
 rw[List.drop_append,List.drop_eq_nil_of_le (by omega),List.nil_append,Nat.add_sub_cancel_left]
theorem sub_pre (pre x:Str)(n:Nat):subS2 (pre++x) pre.length n=subS2 x 0 n:=by
 unfold subS2
 rw[List.drop_left];rfl
theorem dec_pre (pre x:Str)(n:Nat):decide (pre.length+n<(pre++x).length)=decide (0+n<x.length):=by
 rw[decide_eq_decide,List.length_append];omega
theorem scn_pre (pre x:Str):scnQ (pre++x) pre.length=scnQ x 0:=by
 have g0:(pre++x).getD pre.length 0=x.getD 0 0:=getD_pre pre x 0
 have r0:∀p,run1 p (pre++x) pre.length=run1 p x 0:=fun p=>run1_pre p pre x 0
 have r1:∀p,run1 p (pre++x) (pre.length+1)=run1 p x (0+1):=fun p=>run1_pre p pre x 1
 have g1:(pre++x).getD (pre.length+1) 0=x.getD (0+1) 0:=getD_pre pre x 1
 have gn:∀n,(pre++x).getD (pre.length+n) 0=x.getD (0+n) 0:=fun n=>by rw[getD_pre,Nat.zero_add]
 unfold scnQ
 simp only[g0,r0,r1,g1,gn,sub_pre,dec_pre]
theorem tw_app (p:UInt8→Bool)(r:Str)(hr:∀c,r.head?=some c→p c=false):∀w:Str,(∀c∈w,p c=true)→(w++r).takeWhile p=w
 |[],_=>by
  cases r with
  |nil=>rfl
  |cons c r=>rw[List.nil_append,List.takeWhile_cons,hr c rfl];rfl
 |c::w,h=>by
  rw[List.cons_append,List.takeWhile_cons,h c (List.mem_cons_self ..),if_pos rfl,tw_app p r hr w fun x hx=>h x (List.mem_cons_of_mem _ hx)]
theorem diB_inB {c:UInt8}(h:inB c=false):diB c=false∧leB c=false∧(c==95)=false:=by
 unfold inB at h
 rw[Bool.or_eq_false_iff,Bool.or_eq_false_iff]at h
 refine⟨h.2.1,h.1,?_⟩
 have:=of_decide_eq_false h.2.2
 rw[beq_eq_false_iff_ne]
 rintro rfl
 exact this rfl
structure TkV (k:Nat) (t:Str):Prop where
 n:t≠[]
 h:∀pre r,nxB r→scnQ (pre++(t++r)) pre.length=(k,t.length,0)
def Bls (sp:Str):Prop:=∀c∈sp,c=32∨c=9
theorem drop_pre (pre x:Str):¬(pre++x).length≤pre.length↔x≠[]:=by
 rw[List.length_append]
 cases x with
 |nil=>simp
 |cons c x=>simp
theorem lin_bl (ln:Nat)(x:Str)(R:List Tk×Option (Nat×Int)):∀(sp pre:Str) (f:Nat),Bls sp→(∀g,x.length<g→linQ ln ((pre++sp)++x) g (pre++sp).length=R)→(sp++x).length<f→linQ ln (pre++(sp++x)) f pre.length=R
 |[],pre,f,_,h,hf=>by
  have:=h f hf
  rw[List.append_nil]at this;exact this
 |c::sp,pre,f,hb,h,hf=>by
  obtain⟨f,rfl⟩:∃k,f=k+1:=⟨f-1,by omega⟩
  have hc:=hb c (List.mem_cons_self ..)
  have hg:(pre++(c::sp++x)).getD pre.length 0=c:=getD_pre pre _ 0
  have hs:scnQ (pre++(c::sp++x)) pre.length=(0,1,0):=by
   unfold scnQ
   simp only[hg,if_pos hc]
  have h35:¬c=35:=by rintro rfl;rcases hc with h|h<;>exact absurd h (by decide)
  rw[linQ,if_neg ((drop_pre _ _).2 (by simp)),hg,if_neg h35,hs]
  simp only[ne_eq,not_true_eq_false,if_false,if_true,List.nil_append]
  have ih:=lin_bl ln x R sp (pre++[c]) f (fun y hy=>hb y (List.mem_cons_of_mem _ hy)) (fun g hg=>by
   have:=h g hg
   rw[List.append_assoc pre [c] sp];exact this) (by simp at hf⊢;omega)
  have e1:pre++[c]++(sp++x)=pre++(c::sp++x):=by simp
  have e2:(pre++[c]).length=pre.length+1:=by simp
  rw[e1,e2]at ih
  rw[ih]
def lay:List (Str×Nat×Str)→Str→Str
 |[],tl=>tl
 |(sp,_,t)::ps,tl=>sp++(t++lay ps tl)
def layT (ln:Nat):Nat→List (Str×Nat×Str)→List Tk
 |_,[]=>[]
 |o,(sp,k,t)::ps=>⟨k,t,ln,o+sp.length+1⟩::layT ln (o+sp.length+t.length) ps
theorem layT_ks (ln:Nat):∀(ps:List (Str×Nat×Str)) (o:Nat),(layT ln o ps).map (fun t=>(t.k,t.s))=ps.map (fun p=>(p.2.1,p.2.2))
 |[],_=>rfl
 |(sp,k,t)::ps,o=>by rw[layT,List.map_cons,List.map_cons,layT_ks ln ps]
def ksT (U:List Tk):List (Nat×Str):=U.map fun t=>(t.k,t.s)
set_option maxRecDepth 100000
structure TkR (k:Nat) (t r:Str):Prop where
 n:t≠[]
 p:t.head?≠some 35
 h:scnQ (t++r) 0=(k,t.length,0)
theorem lin_tokR (ln:Nat){k:Nat}{t x:Str}(ht:TkR k t x)(hk:k≠0)(pre:Str)(f:Nat)(T:List Tk)(h:∀g,x.length<g→linQ ln ((pre++t)++x) g (pre++t).length=(T,none))(hf:(t++x).length<f):
  linQ ln (pre++(t++x)) f pre.length=(⟨k,t,ln,pre.length+1⟩::T,none):=by
 obtain⟨f,rfl⟩:∃k,f=k+1:=⟨f-1,by omega⟩
 have hn:=ht.n
 have hpos:0<t.length:=List.length_pos_iff.2 hn
 have hs:scnQ (pre++(t++x)) pre.length=(k,t.length,0):=by rw[scn_pre];exact ht.h
 have hg:(pre++(t++x)).getD pre.length 0=(t++x).getD 0 0:=getD_pre pre _ 0
 have h35:¬(t++x).getD 0 0=35:=by
  have hp:=ht.p
  cases t with
  |nil=>exact absurd rfl hn
  |cons c t=>intro h;exact hp (by rw[←h];rfl)
 have ih:=h f (by rw[List.length_append]at hf;omega)
 rw[List.append_assoc,List.length_append]at ih
 have hsub:subS2 (pre++(t++x)) pre.length t.length=t:=by rw[sub_pre];show(t++x).take _=t;rw[List.take_left]
 rw[linQ,if_neg ((drop_pre _ _).2 (by simp[hn])),hg,if_neg h35,hs]
 simp only[ne_eq,not_true_eq_false,if_false,if_neg hk,hsub,ih]
 rfl
def layR:List (Str×Nat×Str)→Prop
 |[]=>True
 |(sp,k,t)::ps=>Bls sp∧TkR k t (lay ps [])∧k≠0∧layR ps
theorem lin_layR (ln:Nat):∀(ps:List (Str×Nat×Str)) (pre:Str) (f:Nat),layR ps→(lay ps []).length<f→linQ ln (pre++lay ps []) f pre.length=(layT ln pre.length ps,none)
 |[],pre,f,_,hf=>by
  obtain⟨g,rfl⟩:∃k,f=k+1:=⟨f-1,by omega⟩
  show linQ ln (pre++[]) (g+1) pre.length=([],none)
  rw[linQ,if_pos (by simp)]
 |(sp,k,t)::ps,pre,f,h,hf=>by
  obtain⟨h1,h2,h3,h5⟩:=h
  rw[layT]
  refine lin_bl ln (t++lay ps []) _ sp pre f h1 (fun g hg=>?_) hf
  have e1:pre.length+sp.length=(pre++sp).length:=by rw[List.length_append]
  rw[e1]
  refine lin_tokR ln h2 h3 (pre++sp) g _ (fun g hg=>?_) hg
  have:=lin_layR ln ps (pre++sp++t) g h5 hg
  rw[show(pre++sp++t).length=(pre++sp).length+t.length from List.length_append]at this⊢
  exact this
theorem leB_in {c:UInt8}(h:leB c=true):c≠32∧c≠9∧c≠35:=by
 refine⟨?_,?_,?_⟩<;> · rintro rfl;exact absurd h (by decide)
theorem tk_word {w r:Str}(hn:w≠[])(hl:leB (w.getD 0 0)=true)(ha:w.all inB=true)(hm:w.length≤24)(hr:nxB r):TkR 1 w r:=by
 obtain⟨c,w,rfl⟩:∃c v,w=c::v:=by cases w with
  |nil=>exact absurd rfl hn
  |cons c v=>exact⟨c,v,rfl⟩
 have hl:leB c=true:=hl
 have hc:=leB_in hl
 refine⟨hn,fun h=>hc.2.2 (Option.some.inj h),?_⟩
 have hg:((c::w)++r).getD 0 0=c:=rfl
 have ew:((c::w)++r).takeWhile inB=c::w:=tw_app inB r hr _ (List.all_eq_true.1 ha)
 have er:run1 inB ((c::w)++r) 0=(c::w).length:=by
  show(((c::w)++r).takeWhile inB).length=_
  rw[ew]
 unfold scnQ
 simp only[hg,if_neg (show ¬(c=32∨c=9) from fun h=>h.elim hc.1 hc.2.1),if_pos hl,er,if_neg (show ¬24<(c::w).length by omega)]
theorem nmOk_w {s:Str}(h:nmOk s=true):s≠[]∧leB (s.getD 0 0)=true∧s.all inB=true∧s.length≤24∧resQ s=false:=by
 unfold nmOk at h
 simp only[Bool.and_eq_true,decide_eq_true_eq,Bool.not_eq_true']at h
 exact⟨fun e=>by rw[e]at h;simp at h,h.2.2.1,h.2.2.2.1,h.2.1,h.2.2.2.2⟩
theorem tk_name {s r:Str}(h:nmOk s=true)(hr:nxB r):TkR 1 s r:=by
 obtain⟨h1,h2,h3,h4,_⟩:=nmOk_w h
 exact tk_word h1 h2 h3 h4 hr
theorem tk_sym {c:UInt8}{r:Str}(h:(!(c==32||c==9)&&(!leB c&&(!diB c&&(!(c==45)&&(!(c==35)&&symL.contains c)))))=true):TkR 3 [c] r:=by
 simp only[Bool.and_eq_true,Bool.not_eq_true',Bool.or_eq_false_iff,beq_eq_false_iff_ne]at h
 obtain⟨⟨h1,h2⟩,h3,h4,h5,h6,h7⟩:=h
 refine⟨by simp,fun h=>h6 (Option.some.inj h),?_⟩
 have hg:([c]++r).getD 0 0=c:=rfl
 have hb:(c==45)=false:=beq_eq_false_iff_ne.2 h5
 unfold scnQ
 simp only[hg,if_neg (show ¬(c=32∨c=9) from fun h=>h.elim h1 h2),h3,h4,hb,Bool.false_and,Bool.or_false,if_neg (show ¬(false=true) by simp),if_pos h7,List.length_singleton]
theorem dd_di (n:Nat):∀c∈Lib.decDigits n,diB c=true:=by
 induction n using Nat.strongRecOn with
 |_ n ih=>
  intro c hc
  have hd:∀m,m<10→diB (UInt8.ofNat (48+m))=true:=fun m hm=>by
   unfold diB
   rw[ddOne hm,Bool.and_eq_true,decide_eq_true_eq,decide_eq_true_eq];omega
  by_cases h:n<10
  ·rw[Lib.decDigits_one h]at hc
   rw[List.mem_singleton.1 hc];exact hd n h
  ·rw[Lib.decDigits,dif_neg h]at hc
   rcases List.mem_append.1 hc with hc|hc
   ·exact ih (n/10) (by omega) c hc
   ·rw[List.mem_singleton.1 hc];exact hd _ (by omega)
theorem dd_hd (n:Nat)(hn:0<n):(Lib.decDigits n).getD 0 0≠48:=by
 induction n using Nat.strongRecOn with
 |_ n ih=>
  by_cases h:n<10
  ·rw[Lib.decDigits_one h]
   intro e
   have e:UInt8.ofNat (48+n)=48:=e
   have:=ddOne h
   rw[e]at this
   have:(48:UInt8).toNat=48:=rfl
   omega
  ·rw[Lib.decDigits,dif_neg h]
   have:=ih (n/10) (by omega) (by omega)
   cases hd:Lib.decDigits (n/10)with
   |nil=>exact absurd hd (dd_ne _)
   |cons c l=>rw[hd]at this;exact this
theorem fit_u {n:Int}(h:fitB n=true): -1099511627776≤n∧n≤1099511627776:=by
 unfold fitB at h
 exact of_decide_eq_true h
theorem itoa_len {n:Int}(h:fitB n=true):(Lib.itoa n).length≤21:=by
 obtain⟨h1,h2⟩:=fit_u h
 exact Lib.itoa_length_le n (by omega) (by omega)
theorem itoa_cs (n:Int):(n<0∧Lib.itoa n=45::Lib.decDigits n.natAbs)∨(0≤n∧Lib.itoa n=Lib.decDigits n.natAbs):=by
 unfold Lib.itoa
 by_cases h:n<0
 ·exact .inl ⟨h,if_pos h⟩
 ·refine .inr ⟨by omega,?_⟩
  rw[if_neg h];congr 1;omega
theorem dd_ng (n:Nat):ngB (Lib.decDigits n)=false:=by
 unfold ngB
 cases hd:Lib.decDigits n with
 |nil=>exact absurd hd (dd_ne _)
 |cons c l=>
  have:=dd_di n c (by rw[hd];exact List.mem_cons_self ..)
  show(c==45)=false
  rw[beq_eq_false_iff_ne]
  rintro rfl
  exact absurd this (by decide)
theorem itoa_dgT (n:Int):dgT (Lib.itoa n)=Lib.decDigits n.natAbs∧numV (Lib.itoa n)=n:=by
 rcases itoa_cs n with⟨h,e⟩|⟨h,e⟩
 ·have hb:ngB (45::Lib.decDigits n.natAbs)=true:=rfl
  have hd:dgT (45::Lib.decDigits n.natAbs)=Lib.decDigits n.natAbs:=by unfold dgT;rw[hb];rfl
  rw[e]
  refine⟨hd,?_⟩
  unfold numV
  rw[hb,hd,dd_val]
  simp only[cond_true];omega
 ·have hb:=dd_ng n.natAbs
  have hd:dgT (Lib.decDigits n.natAbs)=Lib.decDigits n.natAbs:=by unfold dgT;rw[hb];rfl
  rw[e]
  refine⟨hd,?_⟩
  unfold numV
  rw[hb,hd,dd_val]
  simp only[cond_false];omega
theorem itoa0:Lib.itoa 0=[48]:=by
 unfold Lib.itoa
 rw[if_neg (by decide)]
 exact Lib.decDigits_one (by decide)
theorem itoa_zero {n:Int}(hz:(dgT (Lib.itoa n)).getD 0 0=48):n=0:=by
 rw[(itoa_dgT n).1]at hz
 by_cases h:0<n.natAbs
 ·exact absurd hz (dd_hd _ h)
 ·omega
theorem apr_itoa {n:Int}(h:fitB n=true):aprQ (Lib.itoa n)=(n,0):=by
 have hl:=itoa_len h
 obtain⟨h1,h2⟩:=fit_u h
 obtain⟨hd,hv⟩:=itoa_dgT n
 have hz:((dgT (Lib.itoa n)).getD 0 0==48&&decide (1<(Lib.itoa n).length))=false:=by
  cases hq:(dgT (Lib.itoa n)).getD 0 0==48 with
  |false=>rfl
  |true=>
   have:=itoa_zero (eq_of_beq hq)
   subst this
   rw[itoa0];rfl
 have hne:(dgT (Lib.itoa n)==[])=false:=by rw[hd,beq_eq_false_iff_ne];exact dd_ne _
 have hall:(dgT (Lib.itoa n)).all diB=true:=by rw[hd,List.all_eq_true];exact dd_di _
 unfold aprQ
 rw[if_neg (by omega),hz,hne,if_neg (by simp),hall,if_neg (by simp),hv,if_pos ⟨by omega,by omega⟩]
theorem nmb_itoa {n:Int}(h:fitB n=true):nmbQ (Lib.itoa n)=(n,0):=by
 obtain⟨h1,h2⟩:=fit_u h
 unfold nmbQ
 rw[apr_itoa h,if_neg (by simp),if_neg (by simp only;omega)]
theorem tk_num {n:Int}{r:Str}(h:fitB n=true)(hr:nxB r):TkR 2 (Lib.itoa n) r:=by
 have hg:grtQ (Lib.itoa n)=false:=by
  obtain⟨h1,h2⟩:=fit_u h
  unfold grtQ
  rw[apr_itoa h]
  simp;omega
 obtain⟨hd,_⟩:=itoa_dgT n
 have hc:canQ (Lib.itoa n)=true:=by
  have hne:(dgT (Lib.itoa n)==[])=false:=by rw[hd,beq_eq_false_iff_ne];exact dd_ne _
  unfold canQ
  rw[hne]
  cases hq:(dgT (Lib.itoa n)).getD 0 0==48 with
  |false=>rfl
  |true=>
   have:=itoa_zero (eq_of_beq hq)
   subst this
   rw[itoa0];rfl
 have hrd:∀c,r.head?=some c→diB c=false:=fun c hc=>(diB_inB (hr c hc)).1
 obtain⟨c,w,e,hdi,hc5,hw⟩:∃c w,Lib.itoa n=c::w∧(diB c||(c==45&&(decide (0+1<((c::w)++r).length)&&diB (((c::w)++r).getD (0+1) 0))))=true∧c≠35∧∀x∈w,diB x=true:=by
  rcases itoa_cs n with⟨h,e⟩|⟨h,e⟩
  ·refine⟨45,_,e,?_,by decide,dd_di _⟩
   cases hq:Lib.decDigits n.natAbs with
   |nil=>exact absurd hq (dd_ne _)
   |cons x l=>
    have:=dd_di n.natAbs x (by rw[hq];exact List.mem_cons_self ..)
    have h1:((45::x::l)++r).getD (0+1) 0=x:=rfl
    rw[h1,this]
    simp
  ·cases hq:Lib.decDigits n.natAbs with
   |nil=>exact absurd hq (dd_ne _)
   |cons x l=>
    have hx:=dd_di n.natAbs x (by rw[hq];exact List.mem_cons_self ..)
    refine⟨x,l,by rw[e,hq],by rw[hx];rfl,?_,fun y hy=>dd_di n.natAbs y (by rw[hq];exact List.mem_cons_of_mem _ hy)⟩
    rintro rfl
    exact absurd hx (by decide)
 rw[e]at hg hc⊢
 have hcl:leB c=false∧¬(c=32∨c=9):=by
  have:∀c:UInt8,(diB c||c==45)=true→leB c=false∧¬(c=32∨c=9):=by
   intro c hc
   rw[Bool.or_eq_true]at hc
   rcases hc with h|h
   ·unfold diB at h
    simp only[Bool.and_eq_true,decide_eq_true_eq]at h
    refine⟨?_,?_⟩
    ·unfold leB
     rw[Bool.or_eq_false_iff,Bool.and_eq_false_iff,Bool.and_eq_false_iff]
     exact⟨.inl (decide_eq_false (by omega)),.inl (decide_eq_false (by omega))⟩
    ·rintro(rfl|rfl)<;>revert h<;>decide
   ·rw[eq_of_beq h];decide
  refine this c ?_
  cases hq:diB c with
  |true=>rfl
  |false=>
   rw[hq]at hdi
   cases hq2:c==45 with
   |true=>rfl
   |false=>rw[hq2]at hdi;cases hdi
 refine⟨by simp,fun h=>hc5 (Option.some.inj h),?_⟩
 have hg0:((c::w)++r).getD 0 0=c:=rfl
 have er:run1 diB ((c::w)++r) (0+1)=w.length:=by
  show(((w++r)).takeWhile diB).length=_
  rw[tw_app diB r hrd w hw]
 have es:subS2 ((c::w)++r) 0 (1+w.length)=c::w:=by
  show((c::w)++r).take (1+w.length)=_
  rw[Nat.add_comm,List.take_left' (by rfl)]
 have en:(decide (0+(1+w.length)<((c::w)++r).length)&&(leB (((c::w)++r).getD (0+(1+w.length)) 0)||((c::w)++r).getD (0+(1+w.length)) 0==95))=false:=by
  have e1:((c::w)++r).getD (0+(1+w.length)) 0=r.getD 0 0:=by
   have:=getD_pre (c::w) r 0
   rw[Nat.add_zero]at this
   rw[show 0+(1+w.length)=(c::w).length by simp;omega];exact this
  rw[e1]
  cases r with
  |nil=>
   rw[decide_eq_false (by simp;omega)];rfl
  |cons x r=>
   have hx:=diB_inB (hr x rfl)
   show(_&&(leB x||x==95))=false
   rw[hx.2.1,hx.2.2];simp
 unfold scnQ
 simp only[hg0,if_neg hcl.2,hcl.1,if_neg (show ¬(false=true) by simp),if_pos hdi,er,es,en,hc,hg,Bool.not_true,Bool.or_self]
 show(2,1+w.length,0)=(2,w.length+1,0)
 rw[Nat.add_comm]
set_option maxRecDepth 100000
abbrev Wd:=List (Nat×Str)
def At (U:List Tk)(p:Ps)(ws:Wd):Prop:=p.e=0∧ksT (U.drop p.at_)=ws
section
variable {U:List Tk} {p:Ps} {k:Nat} {s:Str} {ws:Wd}
theorem At.here (h:At U p ((k,s)::ws)):(hereP U p).k=k∧(hereP U p).s=s:=by
 obtain⟨_,h⟩:=h
 unfold hereP
 cases hd:U.drop p.at_ with
 |nil=>rw[hd]at h;cases h
 |cons t r=>
  rw[hd]at h
  have hg:U.getD p.at_ tk0=t:=by
   have:=congrArg (fun l=>l[0]?) hd
   simp only[List.getElem?_drop,List.getElem?_cons_zero,Nat.add_zero]at this
   rw[List.getD_eq_getElem?_getD,this];rfl
  rw[hg]
  have h:=(List.cons.inj h).1
  exact⟨congrArg Prod.fst h,congrArg Prod.snd h⟩
theorem At.adv (h:At U p ((k,s)::ws)):At U (advP p) ws:=by
 obtain⟨h0,h⟩:=h
 refine⟨h0,?_⟩
 show ksT (U.drop (p.at_+1))=ws
 rw[←List.drop_drop]
 cases hd:U.drop p.at_ with
 |nil=>rw[hd]at h;cases h
 |cons t r=>
  rw[hd]at h
  exact(List.cons.inj h).2
theorem At.nam (h:At U p ((1,s)::ws))(hn:nmOk s=true):namP U p=(some s,advP p):=by
 obtain⟨h1,h2⟩:=h.here
 unfold namP
 rw[h1,h2,hn];rfl
theorem At.int {n:Int}(h:At U p ((2,Lib.itoa n)::ws))(hn:fitB n=true):intP U p=(some n,advP p):=by
 obtain⟨h1,h2⟩:=h.here
 unfold intP
 rw[h1,h2,nmb_itoa hn];rfl
theorem At.is (h:At U p ((k,s)::ws))(a:Str):isP U a p=((k==1||k==3)&&s==a):=by
 obtain⟨h1,h2⟩:=h.here
 unfold isP
 rw[h1,h2]
theorem At.tak (h:At U p ((k,s)::ws))(hk:(k==1||k==3)=true):takP U s p=(true,advP p):=by
 unfold takP
 rw[h.is s,hk,beq_self_eq_true];rfl
theorem At.k4 (h:At U p ((k,s)::ws)):((hereP U p).k==4)=(k==4):=by rw[h.here.1]
theorem At.fin (h:At U p ((4,s)::ws)):endP U p=(true,advP p):=by
 unfold endP
 rw[h.here.1];rfl
theorem ful_ok {f:Tk}{m l:Nat}(h:m<l)(p:Ps):fulP f m l p=(true,p):=by
 unfold fulP
 rw[decide_eq_false (by omega)];rfl
theorem At.col:∀(uk:Wd) (p:Ps) (f:Nat) (s:Str),At U p (uk++[(4,[])])→(∀x∈uk,x.1≠4)→uk.length<f→∃q,colP U f s p=(s++(uk.map (·.2)).flatten,q)∧At U q [(4,[])]
 |[],p,f,s,h,_,hf=>by
  obtain⟨f,rfl⟩:∃g,f=g+1:=⟨f-1,by omega⟩
  refine⟨p,?_,h⟩
  rw[colP,At.k4 h]
  show(s,p)=_
  rw[List.map_nil,List.flatten_nil,List.append_nil]
 |(k,t)::uk,p,f,s,h,hk,hf=>by
  obtain⟨f,rfl⟩:∃g,f=g+1:=⟨f-1,by omega⟩
  have h:At U p ((k,t)::(uk++[(4,[])])):=h
  have hk4:(k==4)=false:=beq_eq_false_iff_ne.2 (hk _ (List.mem_cons_self ..))
  obtain⟨q,h1,h2⟩:=At.col uk (advP p) f (s++t) h.adv (fun x hx=>hk x (List.mem_cons_of_mem _ hx)) (by rw[List.length_cons]at hf;omega)
  refine⟨q,?_,h2⟩
  rw[colP,At.k4 h,hk4,h.here.2]
  show colP U f (s++t) (advP p)=_
  rw[h1,List.map_cons,List.flatten_cons,List.append_assoc]
theorem At.unt {uk:Wd}{u:Un}(h:At U p (uk++[(4,[])]))(hn:uk≠[])(hk:∀x∈uk,x.1≠4)(hl:uk.length<40000)(hu:uokU u=true)(ht:(uk.map (·.2)).flatten=txt u):∃q,untP U p=(some u,q)∧At U q [(4,[])]:=by
 obtain⟨q,h1,h2⟩:=At.col uk p 40000 [] h hk hl
 refine⟨q,?_,h2⟩
 have h4:((hereP U p).k==4)=false:=by
  cases uk with
  |nil=>exact absurd rfl hn
  |cons x uk=>
   obtain⟨k,s⟩:=x
   have h:At U p ((k,s)::(uk++[(4,[])])):=h
   rw[h.k4]
   exact beq_eq_false_iff_ne.2 (hk _ (List.mem_cons_self ..))
 have hp:prs (colP U 40000 [] p).1=(u,0):=by rw[h1,List.nil_append,ht,prs_txt hu]
 unfold untP
 rw[h4,hp,h1];rfl
end
theorem fok_fit {t:Ft}(h:fok t=true):fitB t.bits=true∧fitB t.num=true∧fitB t.off=true∧fitB t.den=true∧uokU (ftU t)=true:=by
 unfold fok at h
 simp only[Bool.and_eq_true,decide_eq_true_eq]at h
 obtain⟨⟨⟨⟨h1,h2⟩,h3⟩,h4⟩,h5⟩:=h
 refine⟨decide_eq_true (by omega),decide_eq_true (by omega),decide_eq_true (by omega),decide_eq_true (by omega),h5⟩
def typW (t:Td)(uk:Wd):Wd:=(1,t.nm)::(3,[61])::(2,Lib.itoa t.ty.bits)::(1,bif t.ty.signed then sgnT else usgT)::(2,Lib.itoa t.ty.num)::(2,Lib.itoa t.ty.off)::(2,Lib.itoa t.ty.den)::uk
theorem At.typ {U:List Tk}{p:Ps}{f:Tk}{m:Nat}{t:Td}{uk:Wd}(h:At U p (typW t uk++[(4,[])]))(hn:nmOk t.nm=true)(hf:fok t.ty=true)(hm:m<30)(hk:uk≠[])(hk4:∀x∈uk,x.1≠4)(hl:uk.length<40000)(ht:(uk.map (·.2)).flatten=txt (ftU t.ty)):∃q,typP U f m p=(some t,q)∧At U q [(4,[])]:=by
 obtain⟨f1,f2,f3,f4,f5⟩:=fok_fit hf
 have h:At U p ((1,t.nm)::(3,[61])::(2,Lib.itoa t.ty.bits)::(1,bif t.ty.signed then sgnT else usgT)::(2,Lib.itoa t.ty.num)::(2,Lib.itoa t.ty.off)::(2,Lib.itoa t.ty.den)::(uk++[(4,[])])):=h
 have h1:=h.adv
 have h2:=h1.adv
 have h3:=h2.adv
 have h4:=h3.adv
 have h5:=h4.adv
 have h6:=h5.adv
 have h7:=h6.adv
 obtain⟨q,hq,ha⟩:=h7.unt hk hk4 hl f5 ht
 refine⟨q,?_,ha⟩
 have i1:isP U sgnT (advP (advP (advP p)))=t.ty.signed:=by rw[h3.is];cases t.ty.signed<;>rfl
 have i2:isP U usgT (advP (advP (advP p)))= !t.ty.signed:=by rw[h3.is];cases t.ty.signed<;>rfl
 have hmk:mkFt t.ty.bits t.ty.signed t.ty.num t.ty.off t.ty.den (ftU t.ty)=t.ty:=by obtain⟨_,⟨⟩⟩:=t;rfl
 unfold typP
 rw[h.nam hn]
 simp only[bnd]
 rw[h1.tak rfl]
 simp only[bndB]
 rw[h2.int f1]
 simp only[i1,i2]
 have hb:(!t.ty.signed&& !!t.ty.signed)=false:=by cases t.ty.signed<;>rfl
 rw[hb]
 simp only[cond_false]
 rw[h4.int f2]
 simp only
 rw[h5.int f3]
 simp only
 rw[h6.int f4]
 simp only
 rw[hq]
 simp only[hmk,hf,Bool.not_true,cond_false]
 rw[ful_ok hm]
theorem At.inp {U:List Tk}{p:Ps}{f:Tk}{m:Nat}{x:Po}(h:At U p [(1,x.nm),(3,[58]),(1,x.ty),(2,Lib.itoa x.lo),(2,Lib.itoa x.hi),(4,[])])(ho:poOk x=true)(hm:m<30):∃q,inpP U f m p=(some x,q)∧At U q [(4,[])]:=by
 unfold poOk at ho
 simp only[Bool.and_eq_true]at ho
 have h1:=h.adv
 have h2:=h1.adv
 have h3:=h2.adv
 have h4:=h3.adv
 have h5:=h4.adv
 refine⟨_,?_,h5⟩
 unfold inpP
 rw[h.nam ho.1]
 simp only[bnd]
 rw[h1.tak rfl]
 simp only[bndB]
 rw[h2.nam ho.2.1]
 simp only
 rw[h3.int ho.2.2.1]
 simp only
 rw[h4.int ho.2.2.2]
 simp only
 rw[h5.k4]
 simp only[beq_self_eq_true,Bool.not_true,cond_false]
 rw[ful_ok hm]
set_option maxRecDepth 100000
def nuW (l:List Int):Wd:=l.map fun n=>(2,Lib.itoa n)
def cmW {α:Type}(F:α→Wd):List α→Wd
 |[]=>[]
 |[x]=>F x
 |x::y::r=>F x++(3,[44])::cmW F (y::r)
def prF (q:Int×Int):Wd:=[(2,Lib.itoa q.1),(2,Lib.itoa q.2)]
section
variable {U:List Tk}
theorem At.prs:∀(l:List (Int×Int)) (f:Nat) (xs ys:List Int) (p:Ps) (ws:Wd),l≠[]→At U p (cmW prF l++(3,[41])::ws)→l.length≤f→(∀x∈l,fitB x.1=true∧fitB x.2=true)→
  ∃q,prsP U f xs ys p=(some (xs++l.map (·.1),ys++l.map (·.2)),q)∧At U q ((3,[41])::ws)
 |[],_,_,_,_,_,h,_,_,_=>absurd rfl h
 |[(x,y)],f,xs,ys,p,ws,_,h,hf,hb=>by
  obtain⟨f,rfl⟩:∃g,f=g+1:=⟨f-1,by simp at hf;omega⟩
  obtain⟨b1,b2⟩:=hb _ (List.mem_cons_self ..)
  have h:At U p ((2,Lib.itoa x)::(2,Lib.itoa y)::(3,[41])::ws):=h
  have h1:=h.adv
  have h2:=h1.adv
  refine⟨_,?_,h2⟩
  rw[prsP,h.int b1]
  simp only[bnd]
  rw[h1.int b2]
  simp only
  rw[h2.is];rfl
 |(x,y)::z::l,f,xs,ys,p,ws,_,h,hf,hb=>by
  obtain⟨f,rfl⟩:∃g,f=g+1:=⟨f-1,by simp at hf;omega⟩
  obtain⟨b1,b2⟩:=hb _ (List.mem_cons_self ..)
  have h:At U p ((2,Lib.itoa x)::(2,Lib.itoa y)::(3,[44])::(cmW prF (z::l)++(3,[41])::ws)):=h
  have h1:=h.adv
  have h2:=h1.adv
  have h3:=h2.adv
  obtain⟨q,e,ha⟩:=At.prs (z::l) f (xs++[x]) (ys++[y]) _ ws (by simp) h3 (by simp at hf⊢;omega) (fun x hx=>hb x (List.mem_cons_of_mem _ hx))
  refine⟨q,?_,ha⟩
  rw[prsP,h.int b1]
  simp only[bnd]
  rw[h1.int b2]
  simp only
  rw[h2.is]
  show prsP U f (xs++[x]) (ys++[y]) _=_
  rw[e]
  simp
theorem At.its {a b c:Str}(hc:c=a∨c=b):∀(l l0:List Int) (f:Nat) (p:Ps) (ws:Wd),(l0≠[]∨l≠[])→At U p (nuW l++(3,c)::ws)→l.length<f→(∀n∈l,fitB n=true)→
  ∃q,itsP U a b f l0 p=(some (l0++l),q)∧At U q ((3,c)::ws)
 |[],l0,f,p,ws,hn,h,hf,_=>by
  obtain⟨f,rfl⟩:∃g,f=g+1:=⟨f-1,by omega⟩
  have h:At U p ((3,c)::ws):=h
  have hn:l0≠[]:=hn.elim id (fun h=>absurd rfl h)
  refine⟨p,?_,h⟩
  have he:l0.isEmpty=false:=by cases l0 with
   |nil=>exact absurd rfl hn
   |cons _ _=>rfl
  have hi:(isP U a p||isP U b p)=true:=by
   rw[h.is,h.is]
   rcases hc with rfl|rfl
   ·simp
   ·simp
  rw[itsP,he,hi,List.append_nil];rfl
 |n::l,l0,f,p,ws,_,h,hf,hb=>by
  obtain⟨f,rfl⟩:∃g,f=g+1:=⟨f-1,by omega⟩
  have h:At U p ((2,Lib.itoa n)::(nuW l++(3,c)::ws)):=h
  obtain⟨q,e,ha⟩:=At.its hc l (l0++[n]) f _ ws (.inl (by simp)) h.adv (by rw[List.length_cons]at hf;omega) (fun x hx=>hb x (List.mem_cons_of_mem _ hx))
  refine⟨q,?_,ha⟩
  have hi:(!l0.isEmpty&&(isP U a p||isP U b p))=false:=by
   rw[h.is,h.is];simp
  rw[itsP,hi]
  simp only[cond_false]
  rw[h.int (hb _ (List.mem_cons_self ..))]
  simp only[bnd]
  rw[e,List.append_assoc];rfl
theorem At.rws:∀(l:List (List Int)) (f:Nat) (zs:List (List Int)) (p:Ps) (ws:Wd),l≠[]→At U p (cmW nuW l++(3,[41])::ws)→l.length≤f→(∀z∈l,z≠[]∧z.length<40000∧∀n∈z,fitB n=true)→
  ∃q,rwsP U f zs p=(some (zs++l),q)∧At U q ((3,[41])::ws)
 |[],_,_,_,_,h,_,_,_=>absurd rfl h
 |[z],f,zs,p,ws,_,h,hf,hb=>by
  obtain⟨f,rfl⟩:∃g,f=g+1:=⟨f-1,by simp at hf;omega⟩
  obtain⟨b1,b2,b3⟩:=hb _ (List.mem_cons_self ..)
  obtain⟨q,e,ha⟩:=At.its (U:=U) (a:=[44]) (b:=[41]) (c:=[41]) (.inr rfl) z [] 40000 p ws (.inr b1) h b2 b3
  refine⟨q,?_,ha⟩
  rw[rwsP,e]
  simp only[bnd]
  rw[ha.is];rfl
 |z::y::l,f,zs,p,ws,_,h,hf,hb=>by
  obtain⟨f,rfl⟩:∃g,f=g+1:=⟨f-1,by simp at hf;omega⟩
  obtain⟨b1,b2,b3⟩:=hb _ (List.mem_cons_self ..)
  have h:At U p (nuW z++(3,[44])::(cmW nuW (y::l)++(3,[41])::ws)):=by
   have e:cmW nuW (z::y::l)++(3,[41])::ws=nuW z++(3,[44])::(cmW nuW (y::l)++(3,[41])::ws):=by rw[cmW,List.append_assoc];rfl
   rwa [e]at h
  obtain⟨q,e,ha⟩:=At.its (U:=U) (a:=[44]) (b:=[41]) (c:=[44]) (.inl rfl) z [] 40000 p _ (.inr b1) h b2 b3
  obtain⟨q2,e2,ha2⟩:=At.rws (y::l) f (zs++[z]) _ ws (by simp) ha.adv (by simp at hf⊢;omega) (fun x hx=>hb x (List.mem_cons_of_mem _ hx))
  refine⟨q2,?_,ha2⟩
  rw[rwsP,e]
  simp only[bnd]
  rw[ha.is]
  show rwsP U f (zs++([]++z::[])) _=_
  rw[List.nil_append,e2,List.append_assoc];rfl
def naF (s:Str):Wd:=[(1,s)]
theorem At.nms {a b c:Str}(hc:c=a∨c=b)(h44:a≠[44]∧b≠[44]):∀(l:List Str) (f:Nat) (l0:List Str) (p:Ps) (ws:Wd),l≠[]→At U p (cmW naF l++(3,c)::ws)→l.length≤f→(∀s∈l,nmOk s=true)→
  ∃q,nmsP U a b f l0 p=(some (l0++l),q)∧At U q ((3,c)::ws)
 |[],_,_,_,_,h,_,_,_=>absurd rfl h
 |[s],f,l0,p,ws,_,h,hf,hb=>by
  obtain⟨f,rfl⟩:∃g,f=g+1:=⟨f-1,by simp at hf;omega⟩
  have h:At U p ((1,s)::(3,c)::ws):=h
  have h1:=h.adv
  have hi:(isP U a (advP p)||isP U b (advP p))=true:=by
   rw[h1.is,h1.is]
   rcases hc with rfl|rfl<;>simp
  refine⟨_,?_,h1⟩
  rw[nmsP,h.nam (hb _ (List.mem_cons_self ..))]
  simp only[bnd,hi,cond_true]
 |s::t::l,f,l0,p,ws,_,h,hf,hb=>by
  obtain⟨f,rfl⟩:∃g,f=g+1:=⟨f-1,by simp at hf;omega⟩
  have h:At U p ((1,s)::(3,[44])::(cmW naF (t::l)++(3,c)::ws)):=h
  have h1:=h.adv
  have hi:(isP U a (advP p)||isP U b (advP p))=false:=by
   rw[h1.is,h1.is]
   simp[Ne.symm h44.1,Ne.symm h44.2]
  obtain⟨q,e,ha⟩:=At.nms hc h44 (t::l) f (l0++[s]) _ ws (by simp) h1.adv (by simp at hf⊢;omega) (fun x hx=>hb x (List.mem_cons_of_mem _ hx))
  refine⟨q,?_,ha⟩
  rw[nmsP,h.nam (hb _ (List.mem_cons_self ..))]
  simp only[bnd,hi,cond_false]
  rw[h1.tak rfl]
  simp only[bndB]
  rw[e,List.append_assoc];rfl
def nF (n:Int):Wd:=[(2,Lib.itoa n)]
theorem At.cms:∀(l:List Int) (f:Nat) (l0:List Int) (p:Ps) (ws:Wd),l≠[]→At U p (cmW nF l++(3,[41])::ws)→l.length≤f→(∀n∈l,fitB n=true)→
  ∃q,cmsP U f l0 p=(some (l0++l),q)∧At U q ((3,[41])::ws)
 |[],_,_,_,_,h,_,_,_=>absurd rfl h
 |[n],f,l0,p,ws,_,h,hf,hb=>by
  obtain⟨f,rfl⟩:∃g,f=g+1:=⟨f-1,by simp at hf;omega⟩
  have h:At U p ((2,Lib.itoa n)::(3,[41])::ws):=h
  have h1:=h.adv
  refine⟨_,?_,h1⟩
  rw[cmsP,h.int (hb _ (List.mem_cons_self ..))]
  simp only[bnd]
  rw[h1.is];rfl
 |n::t::l,f,l0,p,ws,_,h,hf,hb=>by
  obtain⟨f,rfl⟩:∃g,f=g+1:=⟨f-1,by simp at hf;omega⟩
  have h:At U p ((2,Lib.itoa n)::(3,[44])::(cmW nF (t::l)++(3,[41])::ws)):=h
  have h1:=h.adv
  obtain⟨q,e,ha⟩:=At.cms (t::l) f (l0++[n]) _ ws (by simp) h1.adv (by simp at hf⊢;omega) (fun x hx=>hb x (List.mem_cons_of_mem _ hx))
  refine⟨q,?_,ha⟩
  rw[cmsP,h.int (hb _ (List.mem_cons_self ..))]
  simp only[bnd]
  rw[h1.is]
  show cmsP U f (l0++[n]) _=_
  rw[e,List.append_assoc];rfl
theorem At.ous:∀(l:List Str) (f:Nat) (l0:List Str) (p:Ps),l≠[]→At U p (cmW naF l++[(4,[])])→l.length≤f→(∀s∈l,nmOk s=true)→
  ∃q,ousP U f l0 p=(some (l0++l),q)∧At U q [(4,[])]
 |[],_,_,_,h,_,_,_=>absurd rfl h
 |[s],f,l0,p,_,h,hf,hb=>by
  obtain⟨f,rfl⟩:∃g,f=g+1:=⟨f-1,by simp at hf;omega⟩
  have h:At U p [(1,s),(4,[])]:=h
  have h1:=h.adv
  refine⟨_,?_,h1⟩
  rw[ousP,h.nam (hb _ (List.mem_cons_self ..))]
  simp only[bnd]
  rw[h1.is];rfl
 |s::t::l,f,l0,p,_,h,hf,hb=>by
  obtain⟨f,rfl⟩:∃g,f=g+1:=⟨f-1,by simp at hf;omega⟩
  have h:At U p ((1,s)::(3,[44])::(cmW naF (t::l)++[(4,[])])):=h
  have h1:=h.adv
  obtain⟨q,e,ha⟩:=At.ous (t::l) f (l0++[s]) _ (by simp) h1.adv (by simp at hf⊢;omega) (fun x hx=>hb x (List.mem_cons_of_mem _ hx))
  refine⟨q,?_,ha⟩
  rw[ousP,h.nam (hb _ (List.mem_cons_self ..))]
  simp only[bnd]
  rw[h1.is]
  show ousP U f (l0++[s]) _=_
  rw[e,List.append_assoc];rfl
theorem near_fit {l:List Int}(h:l.all nearB=true):∀n∈l,fitB n=true:=fun n hn=>by
 have:=List.all_eq_true.1 h n hn
 unfold nearB at this
 have:=of_decide_eq_true this
 unfold fitB
 exact decide_eq_true (by omega)
theorem At.cls {α:Type}{p:Ps}{F:Ps→Option α×Ps}(h:At U p [(3,[41]),(4,[])]):clsP U p F=F (advP p):=by
 unfold clsP
 rw[h.tak rfl]
 simp only[Bool.not_true,cond_false]
 rw[h.adv.k4];rfl
theorem At.cur {p:Ps}{f:Tk}{m:Nat}{c:Cu}(h:At U p ((1,c.nm)::(3,[61])::(3,[40])::(cmW prF (c.xs.zip c.ys)++[(3,[41]),(4,[])])))(hn:nmOk c.nm=true)(hv:cuOk c.xs c.ys=true)(hm:m<30):∃q,curP U f m p=(some c,q)∧At U q [(4,[])]:=by
 have hv0:=hv
 unfold cuOk at hv
 simp only[Bool.and_eq_true,decide_eq_true_eq]at hv
 obtain⟨hxy,hv1,hv2⟩:=hv
 unfold axOk at hv1
 rw[Bool.and_eq_true,decide_eq_true_eq,Bool.and_eq_true]at hv1
 obtain⟨⟨hl1,hl2⟩,hv3,_⟩:=hv1
 have h1:=h.adv
 have h2:=h1.adv
 have h3:=h2.adv
 have hzl:(c.xs.zip c.ys).length=c.xs.length:=by rw[List.length_zip];omega
 obtain⟨q,e,ha⟩:=At.prs (c.xs.zip c.ys) 40000 [] [] _ [(4,[])] (fun e=>by rw[e]at hzl;simp at hzl;omega) h3 (by omega) (fun x hx=>⟨near_fit hv3 _ (List.of_mem_zip hx).1,near_fit hv2 _ (List.of_mem_zip hx).2⟩)
 refine⟨_,?_,ha.adv⟩
 have z1:(c.xs.zip c.ys).map (·.1)=c.xs:=List.map_fst_zip (by omega)
 have z2:(c.xs.zip c.ys).map (·.2)=c.ys:=List.map_snd_zip (by omega)
 rw[z1,z2]at e
 unfold curP
 rw[h.nam hn]
 simp only[bnd]
 rw[h1.tak rfl]
 simp only[bndB]
 rw[h2.tak rfl]
 simp only
 rw[e]
 simp only[List.nil_append]
 rw[ha.cls,hv0]
 simp only[Bool.not_true,cond_false]
 rw[ful_ok hm]
theorem At.map {p:Ps}{f:Tk}{m:Nat}{c:Mp}(h:At U p ((1,c.nm)::(3,[61])::(3,[40])::(nuW c.xs++(3,[59])::(nuW c.ys++(3,[59])::(cmW nuW c.zs++[(3,[41]),(4,[])])))))(hn:nmOk c.nm=true)(hv:maOk c.xs c.ys c.zs=true)(hm:m<30):∃q,mapP U f m p=(some c,q)∧At U q [(4,[])]:=by
 have hv0:=hv
 unfold maOk at hv
 simp only[Bool.and_eq_true,decide_eq_true_eq,List.all_eq_true]at hv
 obtain⟨hv1,hv2,hv3,hv4⟩:=hv
 unfold axOk at hv1 hv2
 rw[Bool.and_eq_true,decide_eq_true_eq,Bool.and_eq_true]at hv1 hv2
 obtain⟨⟨x1,x2⟩,x3,_⟩:=hv1
 obtain⟨⟨y1,y2⟩,y3,_⟩:=hv2
 have ne:∀l:List Int,2≤l.length→l≠[]:=fun l hl e=>by rw[e]at hl;simp at hl
 have h1:=h.adv
 have h2:=h1.adv
 have h3:=h2.adv
 obtain⟨q1,e1,a1⟩:=At.its (U:=U) (a:=[59]) (b:=[59]) (c:=[59]) (.inl rfl) c.xs [] 40000 _ _ (.inr (ne _ x1)) h3 (by omega) (near_fit x3)
 obtain⟨q2,e2,a2⟩:=At.its (U:=U) (a:=[59]) (b:=[59]) (c:=[59]) (.inl rfl) c.ys [] 40000 _ _ (.inr (ne _ y1)) a1.adv (by omega) (near_fit y3)
 obtain⟨q3,e3,a3⟩:=At.rws c.zs 40000 [] _ [(4,[])] (fun e=>by rw[e]at hv3;simp at hv3;omega) a2.adv (by omega) (fun z hz=>⟨ne _ (by have:=(hv4 z hz).1;omega),by have:=(hv4 z hz).1;omega,near_fit (List.all_eq_true.2 (hv4 z hz).2)⟩)
 refine⟨_,?_,a3.adv⟩
 unfold mapP
 rw[h.nam hn]
 simp only[bnd]
 rw[h1.tak rfl]
 simp only[bndB]
 rw[h2.tak rfl]
 simp only
 rw[e1]
 simp only
 rw[a1.tak rfl]
 simp only
 rw[e2]
 simp only
 rw[a2.tak rfl]
 simp only
 rw[e3]
 simp only[List.nil_append]
 rw[a3.cls,hv0]
 simp only[Bool.not_true,cond_false]
 rw[ful_ok hm]
theorem At.out {p:Ps}{f:Tk}{l:List Str}(h:At U p (cmW naF l++[(4,[])]))(hn:l≠[])(hl:l.length≤30)(hb:∀s∈l,nmOk s=true):∃q,outP U f 0 p=(some l,q)∧At U q [(4,[])]:=by
 obtain⟨q,e,ha⟩:=At.ous l 40000 [] p hn h (by omega) hb
 refine⟨q,?_,ha⟩
 unfold outP
 rw[e]
 simp only[bnd,List.nil_append]
 rw[ha.k4,decide_eq_false (by omega)];rfl
end
end Go.Proofs.YtlnpgbnhcondjaaGreatDoor.Fx
