/-  -/
import Derived.Test.YtlnpgbnhcondjaaGreatDoorPS
import Derived.Test.YtlnpgbnhcondjaaGreatDoorZ1
namespace Go.Proofs.YtlnpgbnhcondjaaGreatDoor.Fx
set_option linter.unusedVariables false
set_option linter.unusedSimpArgs false
def nxB (r:Str):Prop:=∀c,r.head?=some c→inB c=false
theorem getD_pre (pre x:Str)(i:Nat):(pre++x).getD (pre.length+i) 0=x.getD i 0:=by
 rw[List.getD_eq_getElem?_getD,List.getD_eq_getElem?_getD,List.getElem?_append_right (by omega),Nat.add_sub_cancel_left]
theorem run1_pre (p:UInt8→Bool)(pre x:Str)(i:Nat):run1 p (pre++x) (pre.length+i)=run1 p x i:=by
 unfold run1
 rw[List.drop_append,List.drop_eq_nil_of_le (by omega),List.nil_append,Nat.add_sub_cancel_left]
theorem sub_pre (pre x:Str)(n:Nat):subS2 (pre++x) pre.length n=subS2 x 0 n:=by
 unfold subS2
 rw[List.drop_left];rfl
theorem dec_pre (pre x:Str)(n:Nat):decide (pre.length+n<(pre++x).length)=decide (0+n<x.length):=by
 rw[decide_eq_decide,List.length_append];omega
theorem scn_pre (pre x:Str):scnQ (pre++x) pre.length=scnQ x 0:=by
 have g0:(pre++x).getD pre.length 0=x.getD 0 0:=getD_pre pre x 0
 have r0:∀p,run1 p (pre++x) pre.length=run1 p x 0:=fun p=>run1_pre p pre x 0
 have r1:∀p,run1 p (pre++x) (pre.length+1)=run1 p x (0+1):=fun p=>run1_pre p pre x 1
 have g1:(pre++x).getD (pre.length+1) 0=x.getD (0+1) 0:=getD_pre pre x 1
 have gn:∀n,(pre++x).getD (pre.length+n) 0=x.getD (0+n) 0:=fun n=>by rw[getD_pre,Nat.zero_add]
 unfold scnQ
 simp only[g0,r0,r1,g1,gn,sub_pre,dec_pre]
theorem tw_app (p:UInt8→Bool)(r:Str)(hr:∀c,r.head?=some c→p c=false):∀w:Str,(∀c∈w,p c=true)→(w++r).takeWhile p=w
 |[],_=>by
  cases r with
  |nil=>rfl
  |cons c r=>rw[List.nil_append,List.takeWhile_cons,hr c rfl];rfl
 |c::w,h=>by
  rw[List.cons_append,List.takeWhile_cons,h c (List.mem_cons_self ..),if_pos rfl,tw_app p r hr w fun x hx=>h x (List.mem_cons_of_mem _ hx)]
theorem tw_mem (p:UInt8→Bool):∀(l:Str),∀c∈l.takeWhile p,p c=true
 |[],c,h=>by cases h
 |x::l,c,h=>by
  rw[List.takeWhile_cons]at h
  split at h
  ·rcases List.mem_cons.1 h with h|h
   ·subst h;assumption
   ·exact tw_mem p l c h
  ·cases h
theorem tw_take (p:UInt8→Bool):∀l:Str,l.take (l.takeWhile p).length=l.takeWhile p
 |[]=>rfl
 |x::l=>by
  rw[List.takeWhile_cons]
  split
  ·rw[List.length_cons,List.take_succ_cons,tw_take p l]
  ·rfl
theorem diB_inB {c:UInt8}(h:inB c=false):diB c=false∧leB c=false∧(c==95)=false:=by
 unfold inB at h
 rw[Bool.or_eq_false_iff,Bool.or_eq_false_iff]at h
 refine⟨h.2.1,h.1,?_⟩
 have:=of_decide_eq_false h.2.2
 rw[beq_eq_false_iff_ne]
 rintro rfl
 exact this rfl
structure TkV (k:Nat) (t:Str):Prop where
 n:t≠[]
 h:∀pre r,nxB r→scnQ (pre++(t++r)) pre.length=(k,t.length,0)
theorem scn_tkv {l:Str}{k:Nat}(hk:k<l.length)(he:(scnQ l k).2.2=0)(h0:(scnQ l k).1≠0):TkV (scnQ l k).1 (subS2 l k (scnQ l k).2.1):=by
 have hs:scnQ l k=scnQ (l.drop k) 0:=by
  have:=scn_pre (l.take k) (l.drop k)
  rw[List.take_append_drop,List.length_take,Nat.min_eq_left (by omega)]at this
  exact this
 have hsub:∀n,subS2 l k n=(l.drop k).take n:=fun n=>rfl
 have hne:l.drop k≠[]:=fun h=>by have:=congrArg List.length h;rw[List.length_drop]at this;simp at this;omega
 rw[hsub,hs]
 rw[hs]at he h0
 generalize l.drop k=x at*
 cases x with
 |nil=>exact absurd rfl hne
 |cons c x=>
  have hx0:(c::x).getD 0 0=c:=rfl
  unfold scnQ at he h0⊢
  simp only[hx0]at he h0⊢
  by_cases h1:c=32∨c=9
  ·simp only[if_pos h1]at h0;exact absurd rfl h0
  simp only[if_neg h1]at he h0⊢
  by_cases h2:leB c=true
  ·simp only[if_pos h2]at he h0⊢
   by_cases h3:24<run1 inB (c::x) 0
   ·simp only[if_pos h3]at he;cases he
   ·simp only[if_neg h3]at he h0⊢
    have e0:run1 inB (c::x) 0=((c::x).takeWhile inB).length:=rfl
    have ht:(c::x).take (run1 inB (c::x) 0)=c::x.takeWhile inB:=by rw[e0,tw_take,List.takeWhile_cons,leB_inB h2];rfl
    rw[ht]
    refine⟨by simp,fun pre r hr=>?_⟩
    rw[scn_pre]
    have ew:((c::x.takeWhile inB)++r).takeWhile inB=c::x.takeWhile inB:=tw_app inB r hr _ fun y hy=>by
     rcases List.mem_cons.1 hy with h|h
     ·subst h;exact leB_inB h2
     ·exact tw_mem _ _ _ h
    have er:run1 inB ((c::x.takeWhile inB)++r) 0=(c::x.takeWhile inB).length:=by
     show(((c::x.takeWhile inB)++r).takeWhile inB).length=_
     rw[ew]
    have e1:run1 inB (c::x) 0=(c::x.takeWhile inB).length:=by rw[e0,List.takeWhile_cons,leB_inB h2];rfl
    rw[e1]at h3
    have hg:((c::x.takeWhile inB)++r).getD 0 0=c:=rfl
    unfold scnQ
    simp only[hg,if_neg h1,if_pos h2,er,if_neg h3]
  simp only[if_neg h2]at he h0⊢
  by_cases h4:(diB c||(c==45&&(decide (0+1<(c::x).length)&&diB ((c::x).getD (0+1) 0))))=true
  ·simp only[if_pos h4]at he h0⊢
   split at he
   ·cases he
   ·rename_i h5
    split at he
    ·cases he
    ·rename_i h6
     simp only[if_neg h5,if_neg h6]
     have e0:run1 diB (c::x) (0+1)=(x.takeWhile diB).length:=rfl
     have ht:(c::x).take (1+run1 diB (c::x) (0+1))=c::x.takeWhile diB:=by rw[e0,Nat.add_comm,List.take_succ_cons,tw_take]
     have hsb:subS2 (c::x) 0 (1+run1 diB (c::x) (0+1))=c::x.takeWhile diB:=ht
     rw[hsb]at h5 h6
     rw[ht]
     refine⟨by simp,fun pre r hr=>?_⟩
     rw[scn_pre]
     have ew:(x.takeWhile diB++r).takeWhile diB=x.takeWhile diB:=tw_app diB r (fun y hy=>(diB_inB (hr y hy)).1) _ (tw_mem _ _)
     have er:run1 diB ((c::x.takeWhile diB)++r) (0+1)=(x.takeWhile diB).length:=by
      show((x.takeWhile diB++r).takeWhile diB).length=_
      rw[ew]
     have hg:((c::x.takeWhile diB)++r).getD 0 0=c:=rfl
     have h4':(diB c||(c==45&&(decide (0+1<((c::x.takeWhile diB)++r).length)&&diB (((c::x.takeWhile diB)++r).getD (0+1) 0))))=true:=by
      cases hd:diB c with
      |true=>rfl
      |false=>
       rw[hd,Bool.false_or,Bool.and_eq_true,Bool.and_eq_true]at h4
       obtain⟨q1,q2,q3⟩:=h4
       rw[q1]
       cases x with
       |nil=>exact absurd (of_decide_eq_true q2) (by simp)
       |cons y x=>
        have q3:diB y=true:=q3
        rw[List.takeWhile_cons,q3]
        simp[q3]
     have hsb2:subS2 ((c::x.takeWhile diB)++r) 0 (1+(x.takeWhile diB).length)=c::x.takeWhile diB:=by
      show((c::x.takeWhile diB)++r).take _=_
      rw[Nat.add_comm,List.cons_append,List.take_succ_cons,List.take_left]
     have h5':¬((decide (0+(1+(x.takeWhile diB).length)<((c::x.takeWhile diB)++r).length)&&(leB (((c::x.takeWhile diB)++r).getD (0+(1+(x.takeWhile diB).length)) 0)||((c::x.takeWhile diB)++r).getD (0+(1+(x.takeWhile diB).length)) 0==95))|| !canQ (c::x.takeWhile diB))=true:=by
      intro hh
      apply h5
      rw[Bool.or_eq_true]at hh⊢
      right
      rcases hh with hh|hh
      ·exfalso
       have e9:((c::x.takeWhile diB)++r).getD (0+(1+(x.takeWhile diB).length)) 0=r.getD 0 0:=by
        have:=getD_pre (c::x.takeWhile diB) r 0
        rw[List.length_cons]at this
        rw[show 0+(1+(x.takeWhile diB).length)=(x.takeWhile diB).length+1+0 from by omega];exact this
       rw[e9]at hh
       cases r with
       |nil=>simp at hh;exact absurd hh.1 (by omega)
       |cons y r=>
        have:=diB_inB (hr y rfl)
        have e8:(y::r).getD 0 0=y:=rfl
        rw[e8,this.2.1,this.2.2]at hh
        simp at hh
      ·exact hh
     unfold scnQ
     simp only[hg,if_neg h1,if_neg h2,if_pos h4',er,hsb2,if_neg h5',if_neg h6]
     rw[List.length_cons,Nat.add_comm]
  simp only[if_neg h4]at he h0⊢
  by_cases h7:symL.contains c=true
  ·simp only[if_pos h7]at he h0⊢
   have ht:(c::x).take 1=[c]:=rfl
   rw[ht]
   refine⟨by simp,fun pre r hr=>?_⟩
   rw[scn_pre]
   have hg:([c]++r).getD 0 0=c:=rfl
   have h4':¬(diB c||(c==45&&(decide (0+1<([c]++r).length)&&diB (([c]++r).getD (0+1) 0))))=true:=by
    intro hh
    rw[Bool.or_eq_true]at hh
    rcases hh with hh|hh
    ·exact h4 (by rw[hh];rfl)
    ·rw[Bool.and_eq_true]at hh
     have:=eq_of_beq hh.1
     subst this
     exact absurd h7 (by decide)
   unfold scnQ
   simp only[hg,if_neg h1,if_neg h2,if_neg h4',if_pos h7]
   rfl
  ·simp only[if_neg h7]at he;cases he
theorem TkV.h35 {k:Nat}{t:Str}(h:TkV k t)(r:Str):(t++r).getD 0 0≠35:=fun hh=>by
 have h1:=h.h [] [] (fun c hc=>by cases hc)
 have hn:=h.n
 cases t with
 |nil=>exact hn rfl
 |cons c t=>
  have hh:c=35:=hh
  subst hh
  rw[List.append_nil,List.nil_append]at h1
  have:scnQ (35::t) 0=(0,0,3):=by
   unfold scnQ
   have hg:((35:UInt8)::t).getD 0 0=35:=rfl
   simp only[hg]
   rw[if_neg (by decide),if_neg (by decide),if_neg (by simp[diB]),if_neg (by decide)]
  rw[List.length_nil,this]at h1
  exact absurd (show(3:Int)=0 from congrArg (fun z=>z.2.2) h1) (by decide)
theorem lin_tkv (ln:Nat)(l:Str):∀(f k:Nat),k≤l.length→∀t∈(linQ ln l f k).1,TkV t.k t.s∧∀c∈t.s,c∈l
 |0,k,hk=>fun t h=>by cases h
 |f+1,k,hk=>by
  rw[linQ]
  by_cases h1:l.length≤k
  ·rw[if_pos h1];exact fun t h=>by cases h
  rw[if_neg h1]
  by_cases h2:l.getD k 0=35
  ·rw[if_pos h2]
   cases badK l (l.length+1) k<;>exact fun t h=>by cases h
  rw[if_neg h2]
  by_cases h3:(scnQ l k).2.2≠0
  ·rw[if_pos h3];exact fun t h=>by cases h
  rw[if_neg h3]
  have he:(scnQ l k).2.2=0:=by omega
  obtain⟨q1,q2,q3⟩:=scn_ok (by omega) he
  intro t ht
  rcases List.mem_append.1 ht with h|h
  ·split at h
   ·cases h
   ·rename_i h0
    rw[List.mem_singleton]at h
    subst h
    exact⟨scn_tkv (by omega) he h0,fun c hc=>List.mem_of_mem_drop (List.mem_of_mem_take hc)⟩
  ·exact lin_tkv ln l f _ q2 t h
def Bls (sp:Str):Prop:=∀c∈sp,c=32∨c=9
theorem drop_pre (pre x:Str):¬(pre++x).length≤pre.length↔x≠[]:=by
 rw[List.length_append]
 cases x with
 |nil=>simp
 |cons c x=>simp
theorem lin_bl (ln:Nat)(x:Str)(R:List Tk×Option (Nat×Int)):∀(sp pre:Str) (f:Nat),Bls sp→(∀g,x.length<g→linQ ln ((pre++sp)++x) g (pre++sp).length=R)→(sp++x).length<f→linQ ln (pre++(sp++x)) f pre.length=R
 |[],pre,f,_,h,hf=>by
  have:=h f hf
  rw[List.append_nil]at this;exact this
 |c::sp,pre,f,hb,h,hf=>by
  obtain⟨f,rfl⟩:∃k,f=k+1:=⟨f-1,by omega⟩
  have hc:=hb c (List.mem_cons_self ..)
  have hg:(pre++(c::sp++x)).getD pre.length 0=c:=getD_pre pre _ 0
  have hs:scnQ (pre++(c::sp++x)) pre.length=(0,1,0):=by
   unfold scnQ
   simp only[hg,if_pos hc]
  have h35:¬c=35:=by rintro rfl;rcases hc with h|h<;>exact absurd h (by decide)
  rw[linQ,if_neg ((drop_pre _ _).2 (by simp)),hg,if_neg h35,hs]
  simp only[ne_eq,not_true_eq_false,if_false,if_true,List.nil_append]
  have ih:=lin_bl ln x R sp (pre++[c]) f (fun y hy=>hb y (List.mem_cons_of_mem _ hy)) (fun g hg=>by
   have:=h g hg
   rw[List.append_assoc pre [c] sp];exact this) (by simp at hf⊢;omega)
  have e1:pre++[c]++(sp++x)=pre++(c::sp++x):=by simp
  have e2:(pre++[c]).length=pre.length+1:=by simp
  rw[e1,e2]at ih
  rw[ih]
theorem lin_tok (ln:Nat){k:Nat}{t:Str}(ht:TkV k t)(hk:k≠0)(x pre:Str)(hx:nxB x)(f:Nat)(T:List Tk)(h:∀g,x.length<g→linQ ln ((pre++t)++x) g (pre++t).length=(T,none))(hf:(t++x).length<f):
  linQ ln (pre++(t++x)) f pre.length=(⟨k,t,ln,pre.length+1⟩::T,none):=by
 obtain⟨f,rfl⟩:∃k,f=k+1:=⟨f-1,by omega⟩
 have hn:=ht.n
 have hpos:0<t.length:=List.length_pos_iff.2 hn
 have hs:=ht.h pre x hx
 have hg:(pre++(t++x)).getD pre.length 0=(t++x).getD 0 0:=getD_pre pre _ 0
 have ih:=h f (by rw[List.length_append]at hf;omega)
 rw[List.append_assoc,List.length_append]at ih
 have hsub:subS2 (pre++(t++x)) pre.length t.length=t:=by rw[sub_pre];show(t++x).take _=t;rw[List.take_left]
 rw[linQ,if_neg ((drop_pre _ _).2 (by simp[hn])),hg,if_neg (ht.h35 x),hs]
 simp only[ne_eq,not_true_eq_false,if_false,if_neg hk,hsub,ih]
 rfl
def lay:List (Str×Nat×Str)→Str→Str
 |[],tl=>tl
 |(sp,_,t)::ps,tl=>sp++(t++lay ps tl)
def layT (ln:Nat):Nat→List (Str×Nat×Str)→List Tk
 |_,[]=>[]
 |o,(sp,k,t)::ps=>⟨k,t,ln,o+sp.length+1⟩::layT ln (o+sp.length+t.length) ps
def layOk:List (Str×Nat×Str)→Str→Prop
 |[],tl=>∃sp cm,Bls sp∧(tl=sp∨(tl=sp++35::cm∧∀c∈cm,badB c=false))
 |(sp,k,t)::ps,tl=>Bls sp∧TkV k t∧k≠0∧nxB (lay ps tl)∧layOk ps tl
theorem badK_none (l:Str):∀(f k:Nat),(∀j,k≤j→j<l.length→badB (l.getD j 0)=false)→badK l f k=none
 |0,_,_=>rfl
 |f+1,k,h=>by
  rw[badK]
  split
  ·rename_i hk
   rw[if_neg (by rw[h k (Nat.le_refl _) hk];simp)]
   exact badK_none l f (k+1) fun j hj=>h j (by omega)
  ·rfl
theorem lin_lay (ln:Nat)(tl:Str):∀(ps:List (Str×Nat×Str)) (pre:Str) (f:Nat),layOk ps tl→(lay ps tl).length<f→linQ ln (pre++lay ps tl) f pre.length=(layT ln pre.length ps,none)
 |[],pre,f,h,hf=>by
  obtain⟨sp,cm,hb,h⟩:=h
  show linQ ln (pre++tl) f pre.length=([],none)
  have hf:tl.length<f:=hf
  rcases h with rfl|⟨rfl,hcm⟩
  ·have:=lin_bl ln [] ([],none) tl pre f hb (fun g hg=>by
    obtain⟨g,rfl⟩:∃k,g=k+1:=⟨g-1,by omega⟩
    rw[linQ,if_pos (by simp)]) (by simpa using hf)
   rw[List.append_nil]at this;exact this
  ·refine lin_bl ln (35::cm) ([],none) sp pre f hb (fun g hg=>?_) hf
   obtain⟨g,rfl⟩:∃k,g=k+1:=⟨g-1,by omega⟩
   generalize pre++sp=q
   rw[linQ,if_neg ((drop_pre _ _).2 (by simp)),show(q++35::cm).getD q.length 0=35 from getD_pre q _ 0,if_pos rfl,badK_none]
   intro j h1 h2
   obtain⟨i,rfl⟩:∃i,j=q.length+i:=⟨j-q.length,by omega⟩
   rw[getD_pre]
   cases i with
   |zero=>rfl
   |succ i=>
    rw[List.getD_cons_succ,List.getD_eq_getElem?_getD]
    have hi:i<cm.length:=by rw[List.length_append,List.length_cons]at h2;omega
    rw[List.getElem?_eq_getElem hi]
    exact hcm _ (List.getElem_mem hi)
 |(sp,k,t)::ps,pre,f,h,hf=>by
  obtain⟨h1,h2,h3,h4,h5⟩:=h
  rw[layT]
  refine lin_bl ln (t++lay ps tl) _ sp pre f h1 (fun g hg=>?_) hf
  have e1:pre.length+sp.length=(pre++sp).length:=by rw[List.length_append]
  rw[e1]
  refine lin_tok ln h2 h3 (lay ps tl) (pre++sp) h4 g _ (fun g hg=>?_) hg
  have:=lin_lay ln tl ps (pre++sp++t) g h5 hg
  rw[show(pre++sp++t).length=(pre++sp).length+t.length from List.length_append]at this⊢
  exact this
theorem layT_ks (ln:Nat):∀(ps:List (Str×Nat×Str)) (o:Nat),(layT ln o ps).map (fun t=>(t.k,t.s))=ps.map (fun p=>(p.2.1,p.2.2))
 |[],_=>rfl
 |(sp,k,t)::ps,o=>by rw[layT,List.map_cons,List.map_cons,layT_ks ln ps]
def ksT (U:List Tk):List (Nat×Str):=U.map fun t=>(t.k,t.s)
theorem ksT_sim {T U:List Tk}(g:GTk U)(h:ksT T=ksT U):SimT (fun _ _=>True) T U 0:=by
 have hg:∀i,i<U.length→((T.getD (i+0) tk0).k,(T.getD (i+0) tk0).s)=((U.getD i tk0).k,(U.getD i tk0).s):=fun i hi=>by
  have:=congrArg (fun l=>l[i]?) h
  have hl:=congrArg List.length h
  unfold ksT at this hl
  rw[List.length_map,List.length_map]at hl
  simp only[List.getElem?_map]at this
  rw[List.getElem?_eq_getElem hi,List.getElem?_eq_getElem (by omega)]at this
  rw[Nat.add_zero,List.getD_eq_getElem?_getD,List.getD_eq_getElem?_getD,List.getElem?_eq_getElem hi,List.getElem?_eq_getElem (by omega)]
  exact Option.some.inj this
 exact⟨g,fun i hi=>(Prod.mk.inj (hg i hi)).1,fun i hi=>(Prod.mk.inj (hg i hi)).2,fun _ _=>trivial⟩
theorem parW_sim:∀(Ls Ms:List (List Tk)) (beg:Bool) (d:Dg),Ls.map ksT=Ms.map ksT→(∀U∈Ms,LnT U)→(parW Ls beg d).1=(parW Ms beg d).1∧(parW Ls beg d).2.2=(parW Ms beg d).2.2
 |[],[],_,_,_,_=>⟨rfl,rfl⟩
 |[],_::_,_,_,h,_=>by cases h
 |_::_,[],_,_,h,_=>by cases h
 |U::Ls,V::Ms,beg,d,h,hM=>by
  obtain⟨h1,h2⟩:=List.cons.inj h
  have hV:=hM V (List.mem_cons_self ..)
  have hs:=ksT_sim hV.g h1
  have hl:=lne_sim hs hV (p:=ps0) (q:=ps0) ⟨rfl,List.length_pos_iff.2 hV.n,rfl,fun _=>trivial⟩ beg d
  rw[parW,parW,←hl.1]
  cases ho:(lneP U beg d ps0).1 with
  |none=>exact⟨rfl,(hl.2.1 ho).2.2.1⟩
  |some d'=>exact parW_sim Ls Ms false d' h2 fun W hW=>hM W (List.mem_cons_of_mem _ hW)
end Go.Proofs.YtlnpgbnhcondjaaGreatDoor.Fx
