/-  -/
import Derived.Test.YtkciabfilokfiaaGreatPS
import Derived.Test.YtkciabfilokfiaaGreatQT
namespace Go.Proofs.YtkciabfilokfiaaGreat.Fx
set_option linter.unusedVariables false
theorem eqR_iff {a b:Int×Int}:eqR a b=true↔a=b:=by
 unfold eqR
 rw[Bool.and_eq_true,beq_iff_eq,beq_iff_eq]
 exact⟨fun h=>Prod.ext h.1 h.2,fun h=>by rw[h];exact⟨rfl,rfl⟩⟩
def limD (d:Dg)(i:Nat):Int×Int:=limT (tyN d.tys (d.bls.getD i bl0).ty)
theorem kpR_get (d:Dg)(rs:List (Int×Int)):∀(l:List Nat) (st:List (Int×Int)) (ch:Bool) (i:Nat),i<st.length→l.Nodup→
  (kpR d true rs l st ch).1.getD i (0,0)=if i∈l∧newS d rs (st.getD i (0,0)) i≠st.getD i (0,0)then limD d i else st.getD i (0,0)
 |[],st,ch,i,hi,hn=>by simp[kpR]
 |j::l,st,ch,i,hi,hn=>by
  obtain⟨hj,hn⟩:=List.nodup_cons.1 hn
  unfold kpR
  cases he:eqR (newS d rs (st.getD j (0,0)) j) (st.getD j (0,0))with
  |true=>
   have he:=eqR_iff.1 he
   rw[cond_true,kpR_get d rs l st ch i hi hn]
   by_cases hij:i=j
   ·subst hij
    rw[if_neg (fun h=>hj h.1),if_neg (fun h=>h.2 he)]
   ·have:(i∈j::l)↔i∈l:=by rw[List.mem_cons];exact⟨fun h=>h.resolve_left hij,.inr⟩
    simp only[this]
  |false=>
   have he:¬newS d rs (st.getD j (0,0)) j=st.getD j (0,0):=fun h=>by rw[eqR_iff.2 h]at he;cases he
   rw[cond_false,kpR_get d rs l _ true i (by simpa using hi) hn,cond_true]
   by_cases hij:i=j
   ·subst hij
    rw[if_neg (fun h=>hj h.1),if_pos ⟨by simp,he⟩]
    rw[List.getD_eq_getElem?_getD,List.getElem?_set_self hi];rfl
   ·have:(i∈j::l)↔i∈l:=by rw[List.mem_cons];exact⟨fun h=>h.resolve_left hij,.inr⟩
    have hg:∀x,(st.set j x).getD i (0,0)=st.getD i (0,0):=fun x=>by
     rw[List.getD_eq_getElem?_getD,List.getD_eq_getElem?_getD,List.getElem?_set_ne (fun h=>hij h.symm)]
    simp only[this,hg]
theorem kpR_ch (d:Dg)(rs:List (Int×Int)):∀(l:List Nat) (st:List (Int×Int)) (ch:Bool),l.Nodup→(kpR d true rs l st ch).2=true→ch=true∨∃i∈l,newS d rs (st.getD i (0,0)) i≠st.getD i (0,0)
 |[],st,ch,hn,h=> .inl h
 |j::l,st,ch,hn,h=>by
  obtain⟨hj,hn⟩:=List.nodup_cons.1 hn
  unfold kpR at h
  cases he:eqR (newS d rs (st.getD j (0,0)) j) (st.getD j (0,0))with
  |true=>
   rw[he,cond_true]at h
   rcases kpR_ch d rs l st ch hn h with h1|⟨i,hi,h1⟩
   ·exact .inl h1
   ·exact .inr ⟨i,by simp[hi],h1⟩
  |false=>exact .inr ⟨j,by simp,fun h=>by rw[eqR_iff.2 h]at he;cases he⟩
def offP (d:Dg)(st:List (Int×Int)):Nat:=((List.range d.bls.length).filter fun i=> !eqR (st.getD i (0,0)) (limD d i)).length
theorem filter_lt {α:Type}{p q:α→Bool}:∀{l:List α},(∀x∈l,q x=true→p x=true)→(∃x∈l,p x=true∧q x=false)→(l.filter q).length<(l.filter p).length
 |[],_,h=>by obtain⟨x,hx,_⟩:=h;cases hx
 |y::l,h1,h2=>by
  have hle:(l.filter q).length≤(l.filter p).length:=by
   have h1:∀x∈l,q x=true→p x=true:=fun x hx=>h1 x (by simp[hx])
   clear h2
   induction l with
   |nil=>exact Nat.le_refl _
   |cons z l ih=>
    have:=ih (fun x hx=>(by assumption:∀x∈y::z::l,q x=true→p x=true) x (by rcases List.mem_cons.1 hx with rfl|hx<;>simp[*])) (fun x hx=>h1 x (by simp[hx]))
    have hz:=h1 z (by simp)
    simp only[List.filter_cons]
    cases hq:q z with
    |true=>rw[hz hq];simp;omega
    |false=>cases hp:p z<;>simp<;>omega
  have hy:=h1 y (by simp)
  obtain⟨x,hx,hp,hq⟩:=h2
  simp only[List.filter_cons]
  rcases List.mem_cons.1 hx with rfl|hx
  ·rw[hp,hq];simp;omega
  ·have ih:=filter_lt (l:=l) (fun x hx=>h1 x (by simp[hx])) ⟨x,hx,hp,hq⟩
   cases hq:q y with
   |true=>rw[hy hq];simp;omega
   |false=>cases hp:p y<;>simp<;>omega
def Stay (d:Dg)(rs st:List (Int×Int)):Prop:=∀i,i<d.bls.length→st.getD i (0,0)=limD d i→newS d rs (st.getD i (0,0)) i=st.getD i (0,0)
theorem offP_lt {d:Dg}{rs st:List (Int×Int)}(hl:st.length=d.bls.length)(hs:Stay d rs st)(hc:(kpR d true rs (List.range d.bls.length) st false).2=true):
  offP d (kpR d true rs (List.range d.bls.length) st false).1<offP d st:=by
 have hn:(List.range d.bls.length).Nodup:=List.nodup_range
 refine filter_lt (fun i hi hq=>?_) ?_
 ·have hi:i<d.bls.length:=List.mem_range.1 hi
  rw[kpR_get d rs _ st false i (by omega) hn]at hq
  cases hp:eqR (st.getD i (0,0)) (limD d i)with
  |false=>rfl
  |true=>
   have hp:=eqR_iff.1 hp
   rw[if_neg (fun h=>h.2 (hs i hi hp)),eqR_iff.2 hp]at hq
   cases hq
 ·rcases kpR_ch d rs _ st false hn hc with h|⟨i,hi,h⟩
  ·cases h
  ·have hi':i<d.bls.length:=List.mem_range.1 hi
   refine⟨i,hi,?_,?_⟩
   ·cases hp:eqR (st.getD i (0,0)) (limD d i)with
    |false=>rfl
    |true=>exact absurd (hs i hi' (eqR_iff.1 hp)) h
   ·rw[kpR_get d rs _ st false i (by omega) hn,if_pos ⟨hi,h⟩,eqR_iff.2 rfl];rfl
theorem rngR_ends {d:Dg}{T:Bl→List (Int×Int)→Int×Int}{od:List Nat}(hs:∀rs st,rs.length=d.ins.length+d.bls.length→st.length=d.bls.length→(rndR d T st od rs).2=none→Stay d (rndR d T st od rs).1 st):
  ∀(m:Nat) (n:Int) (rs st:List (Int×Int)),8≤n→rs.length=d.ins.length+d.bls.length→st.length=d.bls.length→offP d st≤m→∃r,rngR d T od (m+1) n rs st=some r
 |m,n,rs,st,hn,h1,h2,hm=>by
  unfold rngR
  cases he:(rndR d T st od rs).2 with
  |some e=>exact⟨_,rfl⟩
  |none=>
   simp only
   rw[decide_eq_true hn]
   cases hc:(kpR d true (rndR d T st od rs).1 (List.range d.bls.length) st false).2 with
   |false=>exact⟨_,rfl⟩
   |true=>
    have hlt:=offP_lt h2 (hs rs st h1 h2 he) hc
    rw[cond_true]
    cases m with
    |zero=>omega
    |succ m=>exact rngR_ends hs m (n+1) _ _ (by omega) (by rw[rndR_len];exact h1) (by rw[kpR_len];exact h2) (by omega)
theorem offP_le (d:Dg)(st:List (Int×Int)):offP d st≤d.bls.length:=by
 have:=List.length_filter_le (fun i=> !eqR (st.getD i (0,0)) (limD d i)) (List.range d.bls.length)
 rwa [List.length_range]at this
theorem rngR_ends8 {d:Dg}{T:Bl→List (Int×Int)→Int×Int}{od:List Nat}(hs:∀rs st,rs.length=d.ins.length+d.bls.length→st.length=d.bls.length→(rndR d T st od rs).2=none→Stay d (rndR d T st od rs).1 st):
  ∀(k:Nat) (n:Int) (rs st:List (Int×Int)),8≤n+k→rs.length=d.ins.length+d.bls.length→st.length=d.bls.length→∃r,rngR d T od (d.bls.length+1+k) n rs st=some r
 |0,n,rs,st,hn,h1,h2=>rngR_ends hs d.bls.length n rs st (by omega) h1 h2 (offP_le d st)
 |k+1,n,rs,st,hn,h1,h2=>by
  show ∃r,rngR d T od ((d.bls.length+1+k)+1) n rs st=some r
  unfold rngR
  cases he:(rndR d T st od rs).2 with
  |some e=>exact⟨_,rfl⟩
  |none=>
   simp only
   cases hc:(kpR d (decide (8≤n)) (rndR d T st od rs).1 (List.range d.bls.length) st false).2 with
   |false=>exact⟨_,rfl⟩
   |true=>
    rw[cond_true]
    exact rngR_ends8 hs k (n+1) _ _ (by omega) (by rw[rndR_len];exact h1) (by rw[kpR_len];exact h2)
theorem rndR_get (d:Dg)(T:Bl→List (Int×Int)→Int×Int)(st:List (Int×Int)):∀(l:List Nat) (rs:List (Int×Int)),l.Nodup→(∀i∈l,d.ins.length+i<rs.length)→(rndR d T st l rs).2=none→∀i,
  (i∈l→∃rq,rq.length=rs.length∧(rndR d T st l rs).1.getD (d.ins.length+i) (0,0)=(stepR d T rq st i).1∧(stepR d T rq st i).2=0)∧(i∉l→(rndR d T st l rs).1.getD (d.ins.length+i) (0,0)=rs.getD (d.ins.length+i) (0,0))
 |[],rs,hn,hl,he,i=>⟨by simp,fun _=>rfl⟩
 |j::l,rs,hn,hl,he,i=>by
  obtain⟨hj,hn⟩:=List.nodup_cons.1 hn
  unfold rndR at he⊢
  cases hc:(stepR d T rs st j).2==0 with
  |false=>rw[hc]at he;cases he
  |true=>
   rw[hc,cond_true]at he
   rw[cond_true]
   have hc0:(stepR d T rs st j).2=0:=by simpa using hc
   have ih:=rndR_get d T st l (rs.set (d.ins.length+j) (stepR d T rs st j).1) hn (fun i hi=>by rw[List.length_set];exact hl i (by simp[hi])) he i
   by_cases hij:i=j
   ·subst hij
    refine⟨fun _=>⟨rs,rfl,?_,hc0⟩,fun h=>absurd (by simp) h⟩
    rw[ih.2 hj,List.getD_eq_getElem?_getD,List.getElem?_set_self (hl i (by simp))];rfl
   ·refine⟨fun h=>?_,fun h=>?_⟩
    ·obtain⟨rq,q1,q2,q3⟩:=ih.1 (by rcases List.mem_cons.1 h with h|h;exact absurd h hij;exact h)
     exact⟨rq,by rw[q1,List.length_set],q2,q3⟩
    ·rw[ih.2 (fun hm=>h (by simp[hm])),List.getD_eq_getElem?_getD,List.getD_eq_getElem?_getD,List.getElem?_set_ne (by omega)]
theorem hul_lim {r:Int×Int}{a t:Ft}:hulR (limT t) (cnvR r a t)=limT t:=by
 have h1:=gR_lim a r.1 t
 have h2:=gR_lim a r.2 t
 unfold hulR cnvR
 refine Prod.ext ?_ ?_
 ·show min (limT t).1 (gR 1 a r.1 t)=_;omega
 ·show max (limT t).2 (gR 1 a r.2 t)=_;omega
theorem stay_ok {d:Dg}{T:Bl→List (Int×Int)→Int×Int}{od:List Nat}(hn:od.Nodup)(hlt:∀i∈od,i<d.bls.length)(hall:∀i,i<d.bls.length→i∈od)(rs st:List (Int×Int))(h1:rs.length=d.ins.length+d.bls.length)(h2:st.length=d.bls.length)
  (he:(rndR d T st od rs).2=none):Stay d (rndR d T st od rs).1 st:=by
 intro i hi hst
 obtain⟨rq,q1,q2,q3⟩:=(rndR_get d T st od rs hn (fun j hj=>by have:=hlt j hj;omega) he i).1 (hall i hi)
 rw[hst]
 unfold newS
 unfold newB
 rw[q2]
 unfold stepR
 rw[hst]
 unfold limD
 generalize d.bls.getD i bl0=b
 cases hk:b.kd==delT with
 |true=>rw[cond_true];exact hul_lim
 |false=>
  rw[cond_false]
  cases hl:b.kd==lagT with
  |false=>rfl
  |true=>
   rw[cond_true,blk_lagR (by simpa using hl)]
   exact hul_lim
theorem rngR_some {d:Dg}(T:Bl→List (Int×Int)→Int×Int){od:List Nat}(hn:od.Nodup)(hlt:∀i∈od,i<d.bls.length)(hall:∀i,i<d.bls.length→i∈od):∃r,rngR d T od (d.bls.length+8) 1 (r0 d) (s0 d)=some r:=
 rngR_ends8 (fun rs st h1 h2 he=>stay_ok hn hlt hall rs st h1 h2 he) 7 1 (r0 d) (s0 d) (by omega) (by simp[r0,upto]) (by simp[s0,upto])
end Go.Proofs.YtkciabfilokfiaaGreat.Fx
namespace Go.Proofs.YtkciabfilokfiaaGreat.Fx
set_option linter.unusedVariables false
theorem firstF_no {α:Type}{f:α→Option (Str×Int)}:∀{l:List α},firstF f l=none↔∀x∈l,f x=none
 |[]=>by simp[firstF]
 |y::l=>by
  rw[firstF_cons]
  cases hy:f y with
  |some z=>simp[hy]
  |none=>rw[Option.none_or,firstF_no];simp[hy]
structure Chkd (d:Dg):Prop where
 ok:dgOk d=true
 dup:dupF [] (allN d)=none
 inp:∀p∈d.ins,inpE d.tys p=none
 blk:∀b∈d.bls,blkE d.tys d.cus d.mas (sigs d) b=none
 out:outE (sigs d) [] d.ous=none
 fit:∀b∈d.bls,fitE d b=none
theorem Chkd.of {d:Dg}(h:dgOk d=true)(h2:allE d=none):Chkd d:=by
 unfold allE at h2
 cases hd:dupF [] (allN d)with
 |some s=>rw[hd]at h2;cases h2
 |none=>
  rw[hd]at h2
  simp only[Option.or_eq_none_iff]at h2
  obtain⟨h3,h4,h5,h6⟩:=h2
  exact⟨h,hd,firstF_no.1 h3,firstF_no.1 h4,h5,firstF_no.1 h6⟩
theorem tyQ_fok {d:Dg}(k:Chkd d){s:Str}(h:tyQ d.tys s≠none):fok (tyN d.tys s)=true:=by
 have hk:=k.ok
 unfold dgOk at hk
 simp only[Bool.and_eq_true,decide_eq_true_eq,List.all_eq_true]at hk
 obtain⟨_,_,_,ht,_⟩:=hk
 unfold tyN
 unfold tyQ at h⊢
 cases hf:d.tys.find? (fun t=>t.nm==s)with
 |none=>rw[hf]at h;exact absurd rfl h
 |some t=>exact(ht t (List.mem_of_find?_eq_some hf)).2
theorem Chkd.bty {d:Dg}(k:Chkd d){b:Bl}(hb:b∈d.bls):fok (tyN d.tys b.ty)=true:=by
 refine tyQ_fok k fun h=>?_
 have:=k.blk b hb
 unfold blkE at this
 rw[if_pos h]at this
 cases this
theorem Chkd.num {d:Dg}(k:Chkd d){b:Bl}(hb:b∈d.bls):numB (tyN d.tys b.ty) b=true:=by
 have:=k.fit b hb
 unfold fitE at this
 split at this
 ·cases this
 ·split at this
  ·cases this
  ·rename_i h;simpa using h
theorem Chkd.arg {d:Dg}(k:Chkd d){b:Bl}(hb:b∈d.bls):argQ (sigs d) b.ins=none:=by
 have:=k.blk b hb
 unfold blkE at this
 split at this
 ·cases this
 ·cases ha:argQ (sigs d) b.ins with
  |none=>rfl
  |some s=>rw[ha]at this;cases this
theorem Chkd.inr {d:Dg}(k:Chkd d){p:Po}(hp:p∈d.ins):gdR (tyN d.tys p.ty) (p.lo,p.hi):=by
 have:=k.inp p hp
 unfold inpE at this
 split at this
 ·cases this
 ·split at this
  ·cases this
  ·rename_i h
   simp only[Bool.or_eq_true,decide_eq_true_eq,Bool.not_eq_true',not_or,Bool.not_eq_false]at h
   obtain⟨h1,h2,h3⟩:=h
   exact⟨(wi_lim h2).1,by show p.lo≤p.hi;omega,(wi_lim h3).2⟩
theorem rnd_in (d:Dg)(T:Bl→List (Int×Int)→Int×Int)(st:List (Int×Int)):∀(l:List Nat) (rs:List (Int×Int)) (i:Nat),i<d.ins.length→(rndR d T st l rs).1.getD i (0,0)=rs.getD i (0,0)
 |[],rs,i,_=>rfl
 |j::l,rs,i,hi=>by
  unfold rndR
  cases (stepR d T rs st j).2==0 with
  |false=>rfl
  |true=>
   rw[cond_true,rnd_in d T st l _ i hi,List.getD_eq_getElem?_getD,List.getD_eq_getElem?_getD,List.getElem?_set_ne (by omega)]
def rsG (d:Dg)(rs:List (Int×Int)):Prop:=∀i,gdR (tyAt d i) (rs.getD i (0,0))
def stG (d:Dg)(st:List (Int×Int)):Prop:=∀i,gdR (tyN d.tys (d.bls.getD i bl0).ty) (st.getD i (0,0))
theorem arg_good {d:Dg}{rs:List (Int×Int)}(h:rsG d rs)(b:Bl)(i:Nat):gdR ((argT d b).getD i ft0) ((argR d rs b).getD i (0,0)):=by
 unfold argT argR
 rw[List.getD_eq_getElem?_getD,List.getD_eq_getElem?_getD,List.getElem?_map,List.getElem?_map]
 cases b.ins[i]? with
 |none=>exact gd0 _
 |some s=>exact h _
theorem tyAt_bl (d:Dg)(i:Nat)(h:i<d.bls.length):tyAt d (d.ins.length+i)=tyN d.tys (d.bls.getD i bl0).ty:=by
 unfold tyAt
 congr 1
 unfold tnAt
 rw[if_neg (by omega),show d.ins.length+i-d.ins.length=i by omega,List.getD_eq_getElem?_getD,List.getD_eq_getElem?_getD,List.getElem?_map,List.getElem?_eq_getElem h]
 rfl
def TGd (d:Dg)(T:Bl→List (Int×Int)→Int×Int):Prop:=∀b∈d.bls,tabK b.kd=true→∀rs,rsG d rs→gdR (tyN d.tys b.ty) (T b (argR d rs b))
theorem step_good {d:Dg}(k:Chkd d){T:Bl→List (Int×Int)→Int×Int}(hT:TGd d T){rs st:List (Int×Int)}(h1:rsG d rs)(h2:stG d st)(i:Nat)(hi:i<d.bls.length):gdR (tyN d.tys (d.bls.getD i bl0).ty) (stepR d T rs st i).1:=by
 have hm:d.bls.getD i bl0∈d.bls:=by rw[List.getD_eq_getElem?_getD,List.getElem?_eq_getElem hi];exact List.getElem_mem hi
 exact blk_good (k.bty hm) (k.num hm) (arg_good h1 _) (h2 i) fun ht=>hT _ hm ht rs h1
theorem rs_set {d:Dg}{rs:List (Int×Int)}(h:rsG d rs){j:Nat}{r:Int×Int}(hr:gdR (tyAt d j) r):rsG d (rs.set j r):=fun i=>by
 rw[List.getD_eq_getElem?_getD,List.getElem?_set]
 split
 ·rename_i hij
  subst hij
  split
  ·exact hr
  ·exact gd0 _
 ·rw[←List.getD_eq_getElem?_getD];exact h i
theorem rnd_good {d:Dg}(k:Chkd d){T:Bl→List (Int×Int)→Int×Int}(hT:TGd d T){st:List (Int×Int)}(h2:stG d st):∀(l:List Nat) (rs:List (Int×Int)),(∀i∈l,i<d.bls.length)→rsG d rs→rsG d (rndR d T st l rs).1
 |[],rs,_,h=>h
 |i::l,rs,hl,h=>by
  unfold rndR
  cases (stepR d T rs st i).2==0 with
  |false=>exact h
  |true=>
   rw[cond_true]
   refine rnd_good k hT h2 l _ (fun j hj=>hl j (by simp[hj])) (rs_set h ?_)
   rw[tyAt_bl d i (hl i (by simp))]
   exact step_good k hT h h2 i (hl i (by simp))
theorem new_good {d:Dg}{rs st:List (Int×Int)}(h1:rsG d rs)(h2:stG d st)(i:Nat)(hi:i<d.bls.length):gdR (tyN d.tys (d.bls.getD i bl0).ty) (newS d rs (st.getD i (0,0)) i):=by
 have:=h2 i
 unfold newS newB
 cases (d.bls.getD i bl0).kd==delT with
 |true=>exact gd_hul this (gd_cnv (h1 _))
 |false=>
  rw[cond_false]
  cases (d.bls.getD i bl0).kd==lagT with
  |true=>rw[cond_true,←tyAt_bl d i hi];exact h1 _
  |false=>exact this
theorem kp_good {d:Dg}{big:Bool}{rs:List (Int×Int)}(h1:rsG d rs):∀(l:List Nat) (st:List (Int×Int)) (ch:Bool),(∀i∈l,i<d.bls.length)→stG d st→stG d (kpR d big rs l st ch).1
 |[],st,ch,_,h=>h
 |j::l,st,ch,hl,h=>by
  unfold kpR
  cases eqR (newS d rs (st.getD j (0,0)) j) (st.getD j (0,0))with
  |true=>exact kp_good h1 l st ch (fun i hi=>hl i (by simp[hi])) h
  |false=>
   rw[cond_false]
   refine kp_good h1 l _ true (fun i hi=>hl i (by simp[hi])) (fun i=>?_)
   have eg:∀x:Int×Int,(st.set j x).getD i (0,0)=((st.set j x)[i]?).getD (0,0):=fun x=>List.getD_eq_getElem?_getD ..
   rw[eg,List.getElem?_set]
   split
   ·rename_i hij
    subst hij
    split
    ·cases big with
     |true=>exact gd_limT _
     |false=>exact new_good h1 h j (hl j (by simp))
    ·exact gd0 _
   ·rw[←List.getD_eq_getElem?_getD];exact h i
theorem rngR_out {d:Dg}{T:Bl→List (Int×Int)→Int×Int}{od:List Nat}{Q:List (Int×Int)→List (Int×Int)→Prop}
  (h:∀rs st big,Q rs st→(rndR d T st od rs).2=none→Q (rndR d T st od rs).1 (kpR d big (rndR d T st od rs).1 (List.range d.bls.length) st false).1):
  ∀(f:Nat) (n:Int) (rs st rf:List (Int×Int)),Q rs st→rngR d T od f n rs st=some (rf,none)→∃rs' st',Q rs' st'∧(rndR d T st' od rs').2=none∧rf=(rndR d T st' od rs').1
 |0,_,_,_,_,_,h=>by cases h
 |f+1,n,rs,st,rf,hq,hr=>by
  unfold rngR at hr
  cases he:(rndR d T st od rs).2 with
  |some e=>rw[he]at hr;cases hr
  |none=>
   rw[he]at hr
   simp only at hr
   cases hc:(kpR d (decide (8≤n)) (rndR d T st od rs).1 (List.range d.bls.length) st false).2 with
   |false=>
    rw[hc,cond_false]at hr
    have:(rndR d T st od rs).1=rf:=by injection hr with hr;exact(Prod.mk.inj hr).1
    exact⟨rs,st,hq,he,this.symm⟩
   |true=>
    rw[hc,cond_true]at hr
    exact rngR_out h f (n+1) _ _ rf (h rs st _ hq he) hr
theorem upto_get (f:Nat→Int×Int)(N i:Nat)(j:Nat):(upto f N i).getD j (0,0)=if j<N∧j<i then f j else(0,0):=by
 unfold upto
 rw[List.getD_eq_getElem?_getD,List.getElem?_map]
 by_cases h:j<N
 ·rw[List.getElem?_range h]
  by_cases h2:j<i
  ·simp[h,h2]
  ·simp[h2]
 ·rw[List.getElem?_eq_none (by simpa using h)]
  simp[h]
theorem tyAt_in (d:Dg)(i:Nat)(h:i<d.ins.length):tyAt d i=tyN d.tys (d.ins.getD i po0).ty:=by
 unfold tyAt
 congr 1
 unfold tnAt
 rw[if_pos h,List.getD_eq_getElem?_getD,List.getD_eq_getElem?_getD,List.getElem?_map,List.getElem?_eq_getElem h]
 rfl
theorem r0_good {d:Dg}(k:Chkd d):rsG d (r0 d):=fun i=>by
 unfold r0
 rw[upto_get]
 split
 ·rename_i h
  have hm:d.ins.getD i po0∈d.ins:=by rw[List.getD_eq_getElem?_getD,List.getElem?_eq_getElem h.2];exact List.getElem_mem h.2
  rw[tyAt_in d i h.2]
  exact k.inr hm
 ·exact gd0 _
theorem s0_good {d:Dg}(k:Chkd d):stG d (s0 d):=fun i=>by
 unfold s0
 rw[upto_get]
 split
 ·rename_i h
  have hm:d.bls.getD i bl0∈d.bls:=by rw[List.getD_eq_getElem?_getD,List.getElem?_eq_getElem h.2];exact List.getElem_mem h.2
  unfold stF
  simp only
  cases hk:(d.bls.getD i bl0).kd==delT with
  |false=>exact gd0 _
  |true=>
   have hn:=k.num hm
   have hk:(d.bls.getD i bl0).kd=delS:=by simpa[delT,delS]using hk
   unfold numB at hn
   rw[if_pos (by rw[hk];decide)]at hn
   have:=wi_lim hn
   exact⟨this.1,Int.le_refl _,this.2⟩
 ·exact gd0 _
theorem rng_good {d:Dg}(k:Chkd d){T:Bl→List (Int×Int)→Int×Int}(hT:TGd d T){od:List Nat}(hn:od.Nodup)(hlt:∀i∈od,i<d.bls.length)(hall:∀i,i<d.bls.length→i∈od){f:Nat}{rf:List (Int×Int)}(h:rngR d T od f 1 (r0 d) (s0 d)=some (rf,none)):
  rsG d rf∧rf.length=d.ins.length+d.bls.length∧(∀i,i<d.ins.length→rf.getD i (0,0)=inF d i)∧∀i,i<d.bls.length→∃rs st,rf.getD (d.ins.length+i) (0,0)=(stepR d T rs st i).1:=by
 obtain⟨rs,st,⟨q1,q2,q3,q4,q5⟩,q6,rfl⟩:=rngR_out (Q:=fun rs st=>rsG d rs∧stG d st∧rs.length=d.ins.length+d.bls.length∧st.length=d.bls.length∧∀i,i<d.ins.length→rs.getD i (0,0)=inF d i) (fun rs st big ⟨q1,q2,q3,q4,q5⟩ he=>by
  have g1:=rnd_good k hT q2 od rs hlt q1
  refine⟨g1,kp_good g1 _ _ _ (fun i hi=>List.mem_range.1 hi) q2,by rw[rndR_len];exact q3,by rw[kpR_len];exact q4,fun i hi=>?_⟩
  rw[rnd_in d T st od rs i hi];exact q5 i hi) f 1 _ _ rf ⟨r0_good k,s0_good k,by simp[r0,upto],by simp[s0,upto],fun i hi=>by unfold r0;rw[upto_get,if_pos ⟨by omega,hi⟩]⟩ h
 refine⟨rnd_good k hT q2 od rs hlt q1,by rw[rndR_len];exact q3,fun i hi=>by rw[rnd_in d T st od rs i hi];exact q5 i hi,fun i hi=>?_⟩
 obtain⟨rq,_,h2,_⟩:=(rndR_get d T st od rs hn (fun j hj=>by have:=hlt j hj;omega) q6 i).1 (hall i hi)
 exact⟨rq,st,h2⟩
end Go.Proofs.YtkciabfilokfiaaGreat.Fx
