/-  -/
import Derived.Test.YtkciabfilokfiaaGreatQT
open Go.Proofs.Tryz
set_option linter.unusedVariables false
set_option linter.unusedSimpArgs false
set_option maxRecDepth 100000
set_option maxHeartbeats 4000000
namespace Go.Proofs.YtkciabfilokfiaaGreat.Fx
theorem tX {a b:Int×Int}:nF a b=true↔a=b:=by
 unfold nF
 rw[JG,beq_iff_eq,beq_iff_eq]
 exact⟨fun h=>Prod.ext h.1 h.2,fun h=>by rw[h];exact⟨rfl,rfl⟩⟩
def gL (d:Dg)(i:Nat):Int×Int:=x9 (yB d.tys (d.bls.getD i vh).ty)
theorem pm (d:Dg)(rs:List (Int×Int)):∀(l:List Nat) (st:List (Int×Int)) (ch:Bool) (i:Nat),i<st.length->l.Nodup->
  (rh d true rs l st ch).1.getD i (0,0)=if i∈l/\tT d rs (st.getD i (0,0)) i≠st.getD i (0,0)then gL d i else st.getD i (0,0)
 |[],st,ch,i,hi,hn=>by simp[rh]
 |j::l,st,ch,i,hi,hn=>by
  obtain⟨hj,hn⟩:=Ic.1 hn
  unfold rh
  cases he:nF (tT d rs (st.getD j (0,0)) j) (st.getD j (0,0))with
  |true=>
   have he:=tX.1 he
   rw[cond_true,pm d rs l st ch i hi hn]
   by_cases hij:i=j
   ·subst hij
    rw[if_neg (fun h=>hj h.1),if_neg (fun h=>h.2 he)]
   ·have:(i∈j::l)↔i∈l:=by rw[JZ];exact⟨fun h=>h.resolve_left hij,.inr⟩
    simp only[this]
  |false=>
   have he:¬tT d rs (st.getD j (0,0)) j=st.getD j (0,0):=fun h=>by rw[tX.2 h]at he;cases he
   rw[cond_false,pm d rs l _ true i (by simpa using hi) hn,cond_true]
   by_cases hij:i=j
   ·subst hij
    rw[if_neg (fun h=>hj h.1),if_pos ⟨zc,he⟩]
    rw[Kw,Iw hi];rfl
   ·have:(i∈j::l)↔i∈l:=by rw[JZ];exact⟨fun h=>h.resolve_left hij,.inr⟩
    have hg:∀x,(st.set j x).getD i (0,0)=st.getD i (0,0):=fun x=>by
     rw[Kw,Kw,Io (fun h=>hij h.symm)]
    simp only[this,hg]
theorem aE (d:Dg)(rs:List (Int×Int)):∀(l:List Nat) (st:List (Int×Int)) (ch:Bool),l.Nodup->(rh d true rs l st ch).2=true->ch=true\/∃i∈l,tT d rs (st.getD i (0,0)) i≠st.getD i (0,0)
 |[],st,ch,hn,h=> .inl h
 |j::l,st,ch,hn,h=>by
  obtain⟨hj,hn⟩:=Ic.1 hn
  unfold rh at h
  cases he:nF (tT d rs (st.getD j (0,0)) j) (st.getD j (0,0))with
  |true=>
   rw[he,cond_true]at h
   rcases aE d rs l st ch hn h with h1|⟨i,hi,h1⟩
   ·exact .inl h1
   ·exact .inr ⟨i,by simp[hi],h1⟩
  |false=>exact .inr ⟨j,zc,fun h=>by rw[tX.2 h]at he;cases he⟩
def YB (d:Dg)(st:List (Int×Int)):Nat:=((List.range d.bls.length).filter fun i=> !nF (st.getD i (0,0)) (gL d i)).length
theorem mQ {α:Type}{p q:α->Bool}:∀{l:List α},(∀x∈l,q x=true->p x=true)->(∃x∈l,p x=true/\q x=false)->(l.filter q).length<(l.filter p).length
 |[],_,h=>by obtain⟨x,hx,_⟩:=h;cases hx
 |y::l,h1,h2=>by
  have hle:(l.filter q).length<=(l.filter p).length:=by
   have h1:∀x∈l,q x=true->p x=true:=fun x hx=>h1 x (by simp[hx])
   clear h2
   induction l with
   |nil=>exact Jq _
   |cons z l ih=>
    have:=ih (fun x hx=>(by assumption:∀x∈y::z::l,q x=true->p x=true) x (by rcases JZ.1 hx with rfl|hx<;>simp[*])) (fun x hx=>h1 x (by simp[hx]))
    have hz:=h1 z zc
    simp only[List.filter_cons]
    cases hq:q z with
    |true=>rw[hz hq];simp;omega
    |false=>cases hp:p z<;>simp<;>omega
  have hy:=h1 y zc
  obtain⟨x,hx,hp,hq⟩:=h2
  simp only[List.filter_cons]
  rcases JZ.1 hx with rfl|hx
  ·rw[hp,hq];simp;omega
  ·have ih:=mQ (l:=l) (fun x hx=>h1 x (by simp[hx])) ⟨x,hx,hp,hq⟩
   cases hq:q y with
   |true=>rw[hy hq];simp;omega
   |false=>cases hp:p y<;>simp<;>omega
def XG (d:Dg)(rs st:List (Int×Int)):Prop:=∀i,i<d.bls.length->st.getD i (0,0)=gL d i->tT d rs (st.getD i (0,0)) i=st.getD i (0,0)
theorem Zz {d:Dg}{rs st:List (Int×Int)}(hl:st.length=d.bls.length)(hs:XG d rs st)(hc:(rh d true rs (List.range d.bls.length) st false).2=true):
  YB d (rh d true rs (List.range d.bls.length) st false).1<YB d st:=by
 have hn:(List.range d.bls.length).Nodup:=List.nodup_range
 refine mQ (fun i hi hq=>?_) ?_
 ·have hi:i<d.bls.length:=Jj.1 hi
  rw[pm d rs _ st false i zA hn]at hq
  cases hp:nF (st.getD i (0,0)) (gL d i)with
  |false=>rfl
  |true=>
   have hp:=tX.1 hp
   rw[if_neg (fun h=>h.2 (hs i hi hp)),tX.2 hp]at hq
   cases hq
 ·rcases aE d rs _ st false hn hc with h|⟨i,hi,h⟩
  ·cases h
  ·have hi':i<d.bls.length:=Jj.1 hi
   refine⟨i,hi,?_,?_⟩
   ·cases hp:nF (st.getD i (0,0)) (gL d i)with
    |false=>rfl
    |true=>exact absurd (hs i hi' (tX.1 hp)) h
   ·rw[pm d rs _ st false i zA hn,if_pos ⟨hi,h⟩,tX.2 rfl];rfl
theorem mH {d:Dg}{T:Bl->List (Int×Int)->Int×Int}{od:List Nat}(hs:∀rs st,rs.length=d.ins.length+d.bls.length->st.length=d.bls.length->(yh d T st od rs).2=none->XG d (yh d T st od rs).1 st):
  ∀(m:Nat) (n:Int) (rs st:List (Int×Int)),8<=n->rs.length=d.ins.length+d.bls.length->st.length=d.bls.length->YB d st<=m->∃r,uU d T od (m+1) n rs st=some r
 |m,n,rs,st,hn,h1,h2,hm=>by
  unfold uU
  cases he:(yh d T st od rs).2 with
  |some e=>exact⟨_,rfl⟩
  |none=>
   simp only
   rw[decide_eq_true hn]
   cases hc:(rh d true (yh d T st od rs).1 (List.range d.bls.length) st false).2 with
   |false=>exact⟨_,rfl⟩
   |true=>
    have hlt:=Zz h2 (hs rs st h1 h2 he) hc
    rw[cond_true]
    cases m with
    |zero=>omega
    |succ m=>exact mH hs m (n+1) _ _ zA (by rw[uw];exact h1) (by rw[tV];exact h2) zA
theorem YA (d:Dg)(st:List (Int×Int)):YB d st<=d.bls.length:=by
 have:=List.length_filter_le (fun i=> !nF (st.getD i (0,0)) (gL d i)) (List.range d.bls.length)
 rwa [Ib]at this
theorem oM {d:Dg}{T:Bl->List (Int×Int)->Int×Int}{od:List Nat}(hs:∀rs st,rs.length=d.ins.length+d.bls.length->st.length=d.bls.length->(yh d T st od rs).2=none->XG d (yh d T st od rs).1 st):
  ∀(k:Nat) (n:Int) (rs st:List (Int×Int)),8<=n+k->rs.length=d.ins.length+d.bls.length->st.length=d.bls.length->∃r,uU d T od (d.bls.length+1+k) n rs st=some r
 |0,n,rs,st,hn,h1,h2=>mH hs d.bls.length n rs st zA h1 h2 (YA d st)
 |k+1,n,rs,st,hn,h1,h2=>by
  show ∃r,uU d T od ((d.bls.length+1+k)+1) n rs st=some r
  unfold uU
  cases he:(yh d T st od rs).2 with
  |some e=>exact⟨_,rfl⟩
  |none=>
   simp only
   cases hc:(rh d (decide (8<=n)) (yh d T st od rs).1 (List.range d.bls.length) st false).2 with
   |false=>exact⟨_,rfl⟩
   |true=>
    rw[cond_true]
    exact oM hs k (n+1) _ _ zA (by rw[uw];exact h1) (by rw[tV];exact h2)
theorem oN (d:Dg)(T:Bl->List (Int×Int)->Int×Int)(st:List (Int×Int)):∀(l:List Nat) (rs:List (Int×Int)),l.Nodup->(∀i∈l,d.ins.length+i<rs.length)->(yh d T st l rs).2=none->∀i,
  (i∈l->∃rq,rq.length=rs.length/\(yh d T st l rs).1.getD (d.ins.length+i) (0,0)=(wM d T rq st i).1/\(wM d T rq st i).2=0)/\(i∉l->(yh d T st l rs).1.getD (d.ins.length+i) (0,0)=rs.getD (d.ins.length+i) (0,0))
 |[],rs,hn,hl,he,i=>⟨zc,fun _=>rfl⟩
 |j::l,rs,hn,hl,he,i=>by
  obtain⟨hj,hn⟩:=Ic.1 hn
  unfold yh at he⊢
  cases hc:(wM d T rs st j).2==0 with
  |false=>rw[hc]at he;cases he
  |true=>
   rw[hc,cond_true]at he
   rw[cond_true]
   have hc0:(wM d T rs st j).2=0:=by simpa using hc
   have ih:=oN d T st l (rs.set (d.ins.length+j) (wM d T rs st j).1) hn (fun i hi=>by rw[Jc];exact hl i (by simp[hi])) he i
   by_cases hij:i=j
   ·subst hij
    refine⟨fun _=>⟨rs,rfl,?_,hc0⟩,fun h=>absurd zc h⟩
    rw[ih.2 hj,Kw,Iw (hl i zc)];rfl
   ·refine⟨fun h=>?_,fun h=>?_⟩
    ·obtain⟨rq,q1,q2,q3⟩:=ih.1 (by rcases JZ.1 h with h|h;exact absurd h hij;exact h)
     exact⟨rq,by rw[q1,Jc],q2,q3⟩
    ·rw[ih.2 (fun hm=>h (by simp[hm])),Kw,Kw,Io zA]
theorem eH {r:Int×Int}{a t:Ft}:vp (x9 t) (xf r a t)=x9 t:=by
 have h1:=ll a r.1 t
 have h2:=ll a r.2 t
 unfold vp xf
 refine Prod.ext ?_ ?_
 ·show min (x9 t).1 (gR 1 a r.1 t)=_;omega
 ·show max (x9 t).2 (gR 1 a r.2 t)=_;omega
theorem ZZ {d:Dg}{T:Bl->List (Int×Int)->Int×Int}{od:List Nat}(hn:od.Nodup)(hlt:∀i∈od,i<d.bls.length)(hall:∀i,i<d.bls.length->i∈od)(rs st:List (Int×Int))(h1:rs.length=d.ins.length+d.bls.length)(h2:st.length=d.bls.length)
  (he:(yh d T st od rs).2=none):XG d (yh d T st od rs).1 st:=by
 intro i hi hst
 obtain⟨rq,q1,q2,q3⟩:=(oN d T st od rs hn (fun j hj=>by have:=hlt j hj;omega) he i).1 (hall i hi)
 rw[hst]
 unfold tT
 unfold nl
 rw[q2]
 unfold wM
 rw[hst]
 unfold gL
 generalize d.bls.getD i vh=b
 cases hk:b.kd==tZ with
 |true=>rw[cond_true];exact eH
 |false=>
  rw[cond_false]
  cases hl:b.kd==qq with
  |false=>rfl
  |true=>
   rw[cond_true,iD (by simpa using hl)]
   exact eH
theorem qf {d:Dg}(T:Bl->List (Int×Int)->Int×Int){od:List Nat}(hn:od.Nodup)(hlt:∀i∈od,i<d.bls.length)(hall:∀i,i<d.bls.length->i∈od):∃r,uU d T od (d.bls.length+8) 1 (r0 d) (s0 d)=some r:=
 oM (fun rs st h1 h2 he=>ZZ hn hlt hall rs st h1 h2 he) 7 1 (r0 d) (s0 d) zA (by simp[r0,x8]) (by simp[s0,x8])
theorem s9 {α:Type}{f:α->Option (Str×Int)}:∀{l:List α},zg f l=none↔∀x∈l,f x=none
 |[]=>by simp[zg]
 |y::l=>by
  rw[ym]
  cases hy:f y with
  |some z=>simp[hy]
  |none=>rw[Option.none_or,s9];simp[hy]
structure Chkd (d:Dg):Prop where
 ok:wV d=true
 dup:uV [] (tI d)=none
 inp:∀p∈d.ins,wP d.tys p=none
 blk:∀b∈d.bls,wG d.tys d.cus d.mas (zQ d) b=none
 out:vf (zQ d) [] d.ous=none
 fit:∀b∈d.bls,uL d b=none
theorem kU {d:Dg}(h:wV d=true)(h2:pY d=none):Chkd d:=by
 unfold pY at h2
 cases hd:uV [] (tI d)with
 |some s=>rw[hd]at h2;cases h2
 |none=>
  rw[hd]at h2
  simp only[Option.or_eq_none_iff]at h2
  obtain⟨h3,h4,h5,h6⟩:=h2
  exact⟨h,hd,s9.1 h3,s9.1 h4,h5,s9.1 h6⟩
theorem fN {d:Dg}(k:Chkd d){s:Str}(h:vk d.tys s≠none):yE (yB d.tys s)=true:=by
 have hk:=k.ok
 unfold wV at hk
 simp only[JG,decide_eq_true_eq,JI]at hk
 obtain⟨_,_,_,ht,_⟩:=hk
 unfold yB
 unfold vk at h⊢
 cases hf:d.tys.find? (fun t=>t.nm==s)with
 |none=>rw[hf]at h;exact absurd rfl h
 |some t=>exact(ht t (Jw hf)).2
theorem Chkd.bty {d:Dg}(k:Chkd d){b:Bl}(hb:b∈d.bls):yE (yB d.tys b.ty)=true:=by
 refine fN k fun h=>?_
 have:=k.blk b hb
 unfold wG at this
 rw[if_pos h]at this
 cases this
theorem Chkd.num {d:Dg}(k:Chkd d){b:Bl}(hb:b∈d.bls):rI (yB d.tys b.ty) b=true:=by
 have:=k.fit b hb
 unfold uL at this
 split at this
 ·cases this
 ·split at this
  ·cases this
  ·rename_i h;simpa using h
theorem Chkd.arg {d:Dg}(k:Chkd d){b:Bl}(hb:b∈d.bls):tq (zQ d) b.ins=none:=by
 have:=k.blk b hb
 unfold wG at this
 split at this
 ·cases this
 ·cases ha:tq (zQ d) b.ins with
  |none=>rfl
  |some s=>rw[ha]at this;cases this
theorem Chkd.inr {d:Dg}(k:Chkd d){p:Po}(hp:p∈d.ins):wQ (yB d.tys p.ty) (p.lo,p.hi):=by
 have:=k.inp p hp
 unfold wP at this
 split at this
 ·cases this
 ·split at this
  ·cases this
  ·rename_i h
   simp only[I1,decide_eq_true_eq,Jr,not_or,Bool.not_eq_false]at h
   obtain⟨h1,h2,h3⟩:=h
   exact⟨(qT h2).1,by show p.lo<=p.hi;omega,(qT h3).2⟩
theorem cr (d:Dg)(T:Bl->List (Int×Int)->Int×Int)(st:List (Int×Int)):∀(l:List Nat) (rs:List (Int×Int)) (i:Nat),i<d.ins.length->(yh d T st l rs).1.getD i (0,0)=rs.getD i (0,0)
 |[],rs,i,_=>rfl
 |j::l,rs,i,hi=>by
  unfold yh
  cases (wM d T rs st j).2==0 with
  |false=>rfl
  |true=>
   rw[cond_true,cr d T st l _ i hi,Kw,Kw,Io zA]
def cg (d:Dg)(rs:List (Int×Int)):Prop:=∀i,wQ (yU d i) (rs.getD i (0,0))
def V9 (d:Dg)(st:List (Int×Int)):Prop:=∀i,wQ (yB d.tys (d.bls.getD i vh).ty) (st.getD i (0,0))
theorem iL {d:Dg}{rs:List (Int×Int)}(h:cg d rs)(b:Bl)(i:Nat):wQ ((xw d b).getD i dW) ((xP d rs b).getD i (0,0)):=by
 unfold xw xP
 rw[Kw,Kw,JK,JK]
 cases b.ins[i]? with
 |none=>exact dt _
 |some s=>exact h _
theorem p9 (d:Dg)(i:Nat)(h:i<d.bls.length):yU d (d.ins.length+i)=yB d.tys (d.bls.getD i vh).ty:=by
 unfold yU
 congr 1
 unfold rD
 rw[if_neg zA,show d.ins.length+i-d.ins.length=i by omega,Kw,Kw,JK,Kz h]
 rfl
def Mc (d:Dg)(T:Bl->List (Int×Int)->Int×Int):Prop:=∀b∈d.bls,jD b.kd=true->∀rs,cg d rs->wQ (yB d.tys b.ty) (T b (xP d rs b))
theorem dD {d:Dg}(k:Chkd d){T:Bl->List (Int×Int)->Int×Int}(hT:Mc d T){rs st:List (Int×Int)}(h1:cg d rs)(h2:V9 d st)(i:Nat)(hi:i<d.bls.length):wQ (yB d.tys (d.bls.getD i vh).ty) (wM d T rs st i).1:=by
 have hm:d.bls.getD i vh∈d.bls:=by rw[Kw,Kz hi];exact JE hi
 exact ZA (k.bty hm) (k.num hm) (iL h1 _) (h2 i) fun ht=>hT _ hm ht rs h1
theorem WR {d:Dg}{rs:List (Int×Int)}(h:cg d rs){j:Nat}{r:Int×Int}(hr:wQ (yU d j) r):cg d (rs.set j r):=fun i=>by
 rw[Kw,Ip]
 split
 ·rename_i hij
  subst hij
  split
  ·exact hr
  ·exact dt _
 ·rw[<-Kw];exact h i
theorem ba {d:Dg}{rs st:List (Int×Int)}(h1:cg d rs)(h2:V9 d st)(i:Nat)(hi:i<d.bls.length):wQ (yB d.tys (d.bls.getD i vh).ty) (tT d rs (st.getD i (0,0)) i):=by
 have:=h2 i
 unfold tT nl
 cases (d.bls.getD i vh).kd==tZ with
 |true=>exact gZ this (aM (h1 _))
 |false=>
  rw[cond_false]
  cases (d.bls.getD i vh).kd==qq with
  |true=>rw[cond_true,<-p9 d i hi];exact h1 _
  |false=>exact this
theorem lX {d:Dg}{big:Bool}{rs:List (Int×Int)}(h1:cg d rs):∀(l:List Nat) (st:List (Int×Int)) (ch:Bool),(∀i∈l,i<d.bls.length)->V9 d st->V9 d (rh d big rs l st ch).1
 |[],st,ch,_,h=>h
 |j::l,st,ch,hl,h=>by
  unfold rh
  cases nF (tT d rs (st.getD j (0,0)) j) (st.getD j (0,0))with
  |true=>exact lX h1 l st ch (fun i hi=>hl i (by simp[hi])) h
  |false=>
   rw[cond_false]
   refine lX h1 l _ true (fun i hi=>hl i (by simp[hi])) (fun i=>?_)
   have eg:∀x:Int×Int,(st.set j x).getD i (0,0)=((st.set j x)[i]?).getD (0,0):=fun x=>Kw ..
   rw[eg,Ip]
   split
   ·rename_i hij
    subst hij
    split
    ·cases big with
     |true=>exact YV _
     |false=>exact ba h1 h j (hl j zc)
    ·exact dt _
   ·rw[<-Kw];exact h i
theorem jP {d:Dg}{T:Bl->List (Int×Int)->Int×Int}{od:List Nat}{Q:List (Int×Int)->List (Int×Int)->Prop}
  (h:∀rs st big,Q rs st->(yh d T st od rs).2=none->Q (yh d T st od rs).1 (rh d big (yh d T st od rs).1 (List.range d.bls.length) st false).1):
  ∀(f:Nat) (n:Int) (rs st rf:List (Int×Int)),Q rs st->uU d T od f n rs st=some (rf,none)->∃rs' st',Q rs' st'/\(yh d T st' od rs').2=none/\rf=(yh d T st' od rs').1
 |0,_,_,_,_,_,h=>by cases h
 |f+1,n,rs,st,rf,hq,hr=>by
  unfold uU at hr
  cases he:(yh d T st od rs).2 with
  |some e=>rw[he]at hr;cases hr
  |none=>
   rw[he]at hr
   simp only at hr
   cases hc:(rh d (decide (8<=n)) (yh d T st od rs).1 (List.range d.bls.length) st false).2 with
   |false=>
    rw[hc,cond_false]at hr
    have:(yh d T st od rs).1=rf:=by injection hr with hr;exact(Prod.mk.inj hr).1
    exact⟨rs,st,hq,he,this.symm⟩
   |true=>
    rw[hc,cond_true]at hr
    exact jP h f (n+1) _ _ rf (h rs st _ hq he) hr
theorem kp (f:Nat->Int×Int)(N i:Nat)(j:Nat):(x8 f N i).getD j (0,0)=if j<N/\j<i then f j else(0,0):=by
 unfold x8
 rw[Kw,JK]
 by_cases h:j<N
 ·rw[Ju h]
  by_cases h2:j<i
  ·simp[h,h2]
  ·simp[h2]
 ·rw[Jo (by simpa using h)]
  simp[h]
theorem mw (d:Dg)(i:Nat)(h:i<d.ins.length):yU d i=yB d.tys (d.ins.getD i ZO).ty:=by
 unfold yU
 congr 1
 unfold rD
 rw[if_pos h,Kw,Kw,JK,Kz h]
 rfl
theorem Zt {d:Dg}(k:Chkd d):cg d (r0 d):=fun i=>by
 unfold r0
 rw[kp]
 split
 ·rename_i h
  have hm:d.ins.getD i ZO∈d.ins:=by rw[Kw,Kz h.2];exact JE h.2
  rw[mw d i h.2]
  exact k.inr hm
 ·exact dt _
theorem Z3 {d:Dg}(k:Chkd d):V9 d (s0 d):=fun i=>by
 unfold s0
 rw[kp]
 split
 ·rename_i h
  have hm:d.bls.getD i vh∈d.bls:=by rw[Kw,Kz h.2];exact JE h.2
  unfold nd
  simp only
  cases hk:(d.bls.getD i vh).kd==tZ with
  |false=>exact dt _
  |true=>
   have hn:=k.num hm
   have hk:(d.bls.getD i vh).kd=uW:=by simpa[tZ,uW]using hk
   unfold rI at hn
   rw[if_pos (by rw[hk];decide)]at hn
   have:=qT hn
   exact⟨this.1,JW _,this.2⟩
 ·exact dt _
open Vg Tf
theorem Q0 {H:Hp}(v:Value)(rows:List (List Value))(h:SlH H v 11 rows)(h1:∀r∈rows,r.length=11)(hV:(zD rows).all Cv.one=true)(hl:rows.length<=1000000):
  CallX H Tryz.prog 111 [.c (.v v)] [] (fun _:Unit=> .c (.sl 2 0 rows.length 11)) (fun _=>[(2,⟨false,zD rows,78⟩)]) (fun _ _=>True):=by
 have hz:=yx (k:=11) rows h1
 have htk:List.take (rows.length*11) (zD rows)=zD rows:=JH zA
 refine kX func111 QF ntmps111 fun C hR hP hH hL=>?_
 have hR:=hR () C hL trivial
 refine Sm.bringR 1 78 0 (h.mono hH) rfl rfl (zB 100 ?_)
 refine vv ?_
 refine v8 rfl rfl rfl rfl rfl rfl (fun h0=>?_) ?_
 ·have h0:rows=[]:=Ji.1 h0
  subst h0
  refine zB 100 (vv ?_)
  refine zw 110 11 78 [2] [] rfl (vv ?_)
  exact RetQ.ren [(2,110)] hR hP rfl xb rfl rfl trivial ⟨oR,trivial⟩ (zC rfl) (zI rfl)
 ·refine zB 100 ?_
  simp only[go_sem,htk,hz]
  refine⟨by first|exact hV|exact⟨⟨zA,hV⟩,zA,zA⟩|exact⟨zA,zA,zA⟩|skip,?_⟩
  exact RetQ.ren [(2,101)] hR hP rfl xb rfl rfl trivial ⟨oX,trivial⟩ cM (zI rfl)
theorem Q3 {H:Hp}(v:Value)(rows:List (List Value))(h:SlH H v 3 rows)(h1:∀r∈rows,r.length=3)(hV:(zD rows).all Cv.one=true)(hl:rows.length<=1000000):
  CallX H Tryz.prog 112 [.c (.v v)] [] (fun _:Unit=> .c (.sl 2 0 rows.length 3)) (fun _=>[(2,⟨false,zD rows,84⟩)]) (fun _ _=>True):=by
 have hz:=yx (k:=3) rows h1
 have htk:List.take (rows.length*3) (zD rows)=zD rows:=JH zA
 refine kX func112 QE ntmps112 fun C hR hP hH hL=>?_
 have hR:=hR () C hL trivial
 refine Sm.bringR 1 84 0 (h.mono hH) rfl rfl (zB 100 ?_)
 refine vv ?_
 refine v8 rfl rfl rfl rfl rfl rfl (fun h0=>?_) ?_
 ·have h0:rows=[]:=Ji.1 h0
  subst h0
  refine zB 100 (vv ?_)
  refine zw 110 3 84 [2] [] rfl (vv ?_)
  exact RetQ.ren [(2,110)] hR hP rfl xb rfl rfl trivial ⟨oR,trivial⟩ (zC rfl) (zI rfl)
 ·refine zB 100 ?_
  simp only[go_sem,htk,hz]
  refine⟨by first|exact hV|exact⟨⟨zA,hV⟩,zA,zA⟩|exact⟨zA,zA,zA⟩|skip,?_⟩
  exact RetQ.ren [(2,101)] hR hP rfl xb rfl rfl trivial ⟨oX,trivial⟩ cM (zI rfl)
theorem Q2 {H:Hp}(v:Value)(rows:List (List Value))(h:SlH H v 4 rows)(h1:∀r∈rows,r.length=4)(hV:(zD rows).all Cv.one=true)(hl:rows.length<=1000000):
  CallX H Tryz.prog 113 [.c (.v v)] [] (fun _:Unit=> .c (.sl 2 0 rows.length 4)) (fun _=>[(2,⟨false,zD rows,91⟩)]) (fun _ _=>True):=by
 have hz:=yx (k:=4) rows h1
 have htk:List.take (rows.length*4) (zD rows)=zD rows:=JH zA
 refine kX func113 QD ntmps113 fun C hR hP hH hL=>?_
 have hR:=hR () C hL trivial
 refine Sm.bringR 1 91 0 (h.mono hH) rfl rfl (zB 100 ?_)
 refine vv ?_
 refine v8 rfl rfl rfl rfl rfl rfl (fun h0=>?_) ?_
 ·have h0:rows=[]:=Ji.1 h0
  subst h0
  refine zB 100 (vv ?_)
  refine zw 110 4 91 [2] [] rfl (vv ?_)
  exact RetQ.ren [(2,110)] hR hP rfl xb rfl rfl trivial ⟨oR,trivial⟩ (zC rfl) (zI rfl)
 ·refine zB 100 ?_
  simp only[go_sem,htk,hz]
  refine⟨by first|exact hV|exact⟨⟨zA,hV⟩,zA,zA⟩|exact⟨zA,zA,zA⟩|skip,?_⟩
  exact RetQ.ren [(2,101)] hR hP rfl xb rfl rfl trivial ⟨oX,trivial⟩ cM (zI rfl)
theorem Q1 {H:Hp}(v:Value)(rows:List (List Value))(h:SlH H v 4 rows)(h1:∀r∈rows,r.length=4)(hV:(zD rows).all Cv.one=true)(hl:rows.length<=1000000):
  CallX H Tryz.prog 18 [.c (.v v)] [] (fun _:Unit=> .c (.sl 2 0 rows.length 4)) (fun _=>[(2,⟨false,zD rows,51⟩)]) (fun _ _=>True):=by
 have hz:=yx (k:=4) rows h1
 have htk:List.take (rows.length*4) (zD rows)=zD rows:=JH zA
 refine kX func18 ND ntmps18 fun C hR hP hH hL=>?_
 have hR:=hR () C hL trivial
 refine Sm.bringR 1 51 0 (h.mono hH) rfl rfl (zB 100 ?_)
 refine vv ?_
 refine v8 rfl rfl rfl rfl rfl rfl (fun h0=>?_) ?_
 ·have h0:rows=[]:=Ji.1 h0
  subst h0
  refine zB 100 (vv ?_)
  refine zw 110 4 51 [2] [] rfl (vv ?_)
  exact RetQ.ren [(2,110)] hR hP rfl xb rfl rfl trivial ⟨oR,trivial⟩ (zC rfl) (zI rfl)
 ·refine zB 100 ?_
  simp only[go_sem,htk,hz]
  refine⟨by first|exact hV|exact⟨⟨zA,hV⟩,zA,zA⟩|exact⟨zA,zA,zA⟩|skip,?_⟩
  exact RetQ.ren [(2,101)] hR hP rfl xb rfl rfl trivial ⟨oX,trivial⟩ cM (zI rfl)
theorem Q4 {H:Hp}(v:Value)(rows:List (List Value))(h:SlH H v 6 rows)(h1:∀r∈rows,r.length=6)(hV:(zD rows).all Cv.one=true)(hl:rows.length<=1000000):
  CallX H Tryz.prog 77 [.c (.v v)] [] (fun _:Unit=> .c (.sl 2 0 rows.length 6)) (fun _=>[(2,⟨false,zD rows,53⟩)]) (fun _ _=>True):=by
 have hz:=yx (k:=6) rows h1
 have htk:List.take (rows.length*6) (zD rows)=zD rows:=JH zA
 refine kX func77 OW ntmps77 fun C hR hP hH hL=>?_
 have hR:=hR () C hL trivial
 refine Sm.bringR 1 53 0 (h.mono hH) rfl rfl (zB 100 ?_)
 refine vv ?_
 refine v8 rfl rfl rfl rfl rfl rfl (fun h0=>?_) ?_
 ·have h0:rows=[]:=Ji.1 h0
  subst h0
  refine zB 100 (vv ?_)
  refine zw 110 6 53 [2] [] rfl (vv ?_)
  exact RetQ.ren [(2,110)] hR hP rfl xb rfl rfl trivial ⟨oR,trivial⟩ (zC rfl) (zI rfl)
 ·refine zB 100 ?_
  simp only[go_sem,htk,hz]
  refine⟨by first|exact hV|exact⟨⟨zA,hV⟩,zA,zA⟩|exact⟨zA,zA,zA⟩|skip,?_⟩
  exact RetQ.ren [(2,101)] hR hP rfl xb rfl rfl trivial ⟨oX,trivial⟩ cM (zI rfl)
theorem Xq {H:Hp}(v:Value)(rows:List (List Value))(h:SlH H v 1 rows)(h1:∀r∈rows,r.length=1)(hV:(zD rows).all Cv.one=true)(hl:rows.length<=1000000):
  CallX H Tryz.prog 78 [.c (.v v)] [] (fun _:Unit=> .c (.sl 2 0 rows.length 1)) (fun _=>[(2,⟨false,zD rows,9⟩)]) (fun _ _=>True):=by
 have hz:=yx (k:=1) rows h1
 have htk:List.take rows.length (zD rows)=zD rows:=JH zA
 refine kX func78 OV ntmps78 fun C hR hP hH hL=>?_
 have hR:=hR () C hL trivial
 refine Sm.bringR 1 9 0 (h.mono hH) rfl rfl (zB 100 ?_)
 refine vv ?_
 refine v8 rfl rfl rfl rfl rfl rfl (fun h0=>?_) ?_
 ·have h0:rows=[]:=Ji.1 h0
  subst h0
  refine zB 100 (vv ?_)
  refine zw 110 1 9 [2] [] rfl (vv ?_)
  exact RetQ.ren [(2,110)] hR hP rfl xb rfl rfl trivial ⟨oR,trivial⟩ (zC rfl) (zI rfl)
 ·refine zB 100 ?_
  simp only[go_sem,htk,hz]
  refine⟨by first|exact hV|exact⟨⟨zA,hV⟩,zA,zA⟩|exact⟨zA,zA,zA⟩|skip,?_⟩
  exact RetQ.ren [(2,101)] hR hP rfl xb rfl rfl trivial ⟨oX,trivial⟩ cM (zI rfl)
theorem mX {H:Hp}(v:Value)(rows:List (List Value))(h:SlH H v 1 rows)(h1:∀r∈rows,r.length=1)(hV:(zD rows).all Cv.one=true)(hl:rows.length<=1000000):
  CallX H Tryz.prog 29 [.c (.v v)] [] (fun _:Unit=> .c (.sl 2 0 rows.length 1)) (fun _=>[(2,⟨false,zD rows,3⟩)]) (fun _ _=>True):=by
 have hz:=yx (k:=1) rows h1
 have htk:List.take rows.length (zD rows)=zD rows:=JH zA
 refine kX func29 Oz ntmps29 fun C hR hP hH hL=>?_
 have hR:=hR () C hL trivial
 refine Sm.bringR 1 3 0 (h.mono hH) rfl rfl (zB 100 ?_)
 refine vv ?_
 refine v8 rfl rfl rfl rfl rfl rfl (fun h0=>?_) ?_
 ·have h0:rows=[]:=Ji.1 h0
  subst h0
  refine zB 100 (vv ?_)
  refine zw 110 1 3 [2] [] rfl (vv ?_)
  exact RetQ.ren [(2,110)] hR hP rfl xb rfl rfl trivial ⟨oR,trivial⟩ (zC rfl) (zI rfl)
 ·refine zB 100 ?_
  simp only[go_sem,htk,hz]
  refine⟨by first|exact hV|exact⟨⟨zA,hV⟩,zA,zA⟩|exact⟨zA,zA,zA⟩|skip,?_⟩
  exact RetQ.ren [(2,101)] hR hP rfl xb rfl rfl trivial ⟨oX,trivial⟩ cM (zI rfl)
theorem QZ {H:Hp}(v:Value)(rows:List (List Value))(h:SlH H v 1 rows)(h1:∀r∈rows,r.length=1)(hV:(zD rows).all Cv.one=true)(hl:rows.length<=1000000):
  CallX H Tryz.prog 114 [.c (.v v)] [] (fun _:Unit=> .c (.sl 2 0 rows.length 1)) (fun _=>[(2,⟨false,zD rows,33⟩)]) (fun _ _=>True):=by
 have hz:=yx (k:=1) rows h1
 have htk:List.take rows.length (zD rows)=zD rows:=JH zA
 refine kX func114 QC ntmps114 fun C hR hP hH hL=>?_
 have hR:=hR () C hL trivial
 refine Sm.bringR 1 33 0 (h.mono hH) rfl rfl (zB 100 ?_)
 refine vv ?_
 refine v8 rfl rfl rfl rfl rfl rfl (fun h0=>?_) ?_
 ·have h0:rows=[]:=Ji.1 h0
  subst h0
  refine zB 100 (vv ?_)
  refine zw 110 1 33 [2] [] rfl (vv ?_)
  exact RetQ.ren [(2,110)] hR hP rfl xb rfl rfl trivial ⟨oR,trivial⟩ (zC rfl) (zI rfl)
 ·refine zB 100 ?_
  simp only[go_sem,htk,hz]
  refine⟨by first|exact hV|exact⟨⟨zA,hV⟩,zA,zA⟩|exact⟨zA,zA,zA⟩|skip,?_⟩
  exact RetQ.ren [(2,101)] hR hP rfl xb rfl rfl trivial ⟨oX,trivial⟩ cM (zI rfl)
open Vg Tf
structure DgB (d:DgL):Prop where
 tys:d.tys.length<=30
 cus:d.cus.length<=30
 mas:d.mas.length<=30
 ins:d.ins.length<=30
 bls:d.bls.length<=200
 ous:d.ous.length<=30
 cuO:∀c∈d.cus,vq c.c.xs c.c.ys=true
 maO:∀m∈d.mas,wD m.xs m.ys (m.zs.map (·.2))=true
 blO:∀b∈d.bls,xI b.c=true
 tyO:∀t∈d.tys,yE t.ty=true
theorem PF {d:DgL}(h:wV d.c=true):DgB d:=by
 unfold wV at h
 simp only[JG,decide_eq_true_eq,JI]at h
 obtain⟨_,⟨n1,n2,n3,n4,n5⟩,n6,ht,hcu,hma,_,hbl,_⟩:=h
 refine⟨n1,by simpa[DgL.c]using n2,by simpa[DgL.c]using n3,n4,by simpa[DgL.c]using n6,n5,fun c hc=>(hcu c.c (JO.2 ⟨c,hc,rfl⟩)).2,fun m hm=>(hma m.c (JO.2 ⟨m,hm,rfl⟩)).2,fun b hb=>hbl b.c (JO.2 ⟨b,hb,rfl⟩),fun t h=>(ht t h).2⟩
theorem kK {b:Bl}(h:xI b=true):b.ins.length<=3:=by
 have hq:∃q,yY b.kd=some q:=by
  have h1:=h
  unfold xI at h1
  cases hq:yY b.kd with
  |none=>rw[hq]at h1;cases h1
  |some q=>exact⟨q,rfl⟩
 obtain⟨q,hq⟩:=hq
 have hm:(b.kd,q)∈kindT:=by
  have h2:=hq
  unfold yY at h2
  cases hf:kindT.find? (fun r=>r.1==b.kd)with
  |none=>rw[hf]at h2;cases h2
  |some r=>
   rw[hf]at h2
   have h3:=Jw hf
   have h4:=List.find?_some hf
   have h5:r.1=b.kd:=by simpa using h4
   have h6:r.2=q:=by simpa using h2
   rw[<-h5,<-h6];exact h3
 unfold xI at h
 rw[hq]at h
 simp only[JG,decide_eq_true_eq]at h
 have:∀x∈kindT,x.2.1<=3:=yg
 have:=this _ hm
 simp only at this
 omega
end Go.Proofs.YtkciabfilokfiaaGreat.Fx
