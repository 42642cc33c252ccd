/-  -/
import Derived.Test.YtkciabfilokfiaaGreatPS
import Derived.Test.YtkciabfilokfiaaGreatQW
namespace Go.Proofs.YtkciabfilokfiaaGreat.Fx
set_option linter.unusedVariables false
theorem firstF_no {α:Type}{f:α→Option (Str×Int)}:∀{l:List α},firstF f l=none↔∀x∈l,f x=none
 |[]=>by simp[firstF]
 |y::l=>by
  rw[firstF_cons]
  cases hy:f y with
  |some z=>simp[hy]
  |none=>rw[Option.none_or,firstF_no];simp[hy]
structure Chkd (d:Dg):Prop where
 ok:dgOk d=true
 dup:dupF [] (allN d)=none
 inp:∀p∈d.ins,inpE d.tys p=none
 blk:∀b∈d.bls,blkE d.tys d.cus d.mas (sigs d) b=none
 out:outE (sigs d) [] d.ous=none
 fit:∀b∈d.bls,fitE d b=none
theorem Chkd.of {d:Dg}(h:dgOk d=true)(h2:allE d=none):Chkd d:=by
 unfold allE at h2
 cases hd:dupF [] (allN d)with
 |some s=>rw[hd]at h2;cases h2
 |none=>
  rw[hd]at h2
  simp only[Option.or_eq_none_iff]at h2
  obtain⟨h3,h4,h5,h6⟩:=h2
  exact⟨h,hd,firstF_no.1 h3,firstF_no.1 h4,h5,firstF_no.1 h6⟩
theorem tyQ_fok {d:Dg}(k:Chkd d){s:Str}(h:tyQ d.tys s≠none):fok (tyN d.tys s)=true:=by
 have hk:=k.ok
 unfold dgOk at hk
 simp only[Bool.and_eq_true,decide_eq_true_eq,List.all_eq_true]at hk
 obtain⟨_,_,_,ht,_⟩:=hk
 unfold tyN
 unfold tyQ at h⊢
 cases hf:d.tys.find? (fun t=>t.nm==s)with
 |none=>rw[hf]at h;exact absurd rfl h
 |some t=>exact(ht t (List.mem_of_find?_eq_some hf)).2
theorem Chkd.bty {d:Dg}(k:Chkd d){b:Bl}(hb:b∈d.bls):fok (tyN d.tys b.ty)=true:=by
 refine tyQ_fok k fun h=>?_
 have:=k.blk b hb
 unfold blkE at this
 rw[if_pos h]at this
 cases this
theorem Chkd.num {d:Dg}(k:Chkd d){b:Bl}(hb:b∈d.bls):numB (tyN d.tys b.ty) b=true:=by
 have:=k.fit b hb
 unfold fitE at this
 split at this
 ·cases this
 ·split at this
  ·cases this
  ·rename_i h;simpa using h
theorem Chkd.arg {d:Dg}(k:Chkd d){b:Bl}(hb:b∈d.bls):argQ (sigs d) b.ins=none:=by
 have:=k.blk b hb
 unfold blkE at this
 split at this
 ·cases this
 ·cases ha:argQ (sigs d) b.ins with
  |none=>rfl
  |some s=>rw[ha]at this;cases this
theorem Chkd.inr {d:Dg}(k:Chkd d){p:Po}(hp:p∈d.ins):gdR (tyN d.tys p.ty) (p.lo,p.hi):=by
 have:=k.inp p hp
 unfold inpE at this
 split at this
 ·cases this
 ·split at this
  ·cases this
  ·rename_i h
   simp only[Bool.or_eq_true,decide_eq_true_eq,Bool.not_eq_true',not_or,Bool.not_eq_false]at h
   obtain⟨h1,h2,h3⟩:=h
   exact⟨(wi_lim h2).1,by show p.lo≤p.hi;omega,(wi_lim h3).2⟩
theorem rnd_in (d:Dg)(T:Bl→List (Int×Int)→Int×Int)(st:List (Int×Int)):∀(l:List Nat) (rs:List (Int×Int)) (i:Nat),i<d.ins.length→(rndR d T st l rs).1.getD i (0,0)=rs.getD i (0,0)
 |[],rs,i,_=>rfl
 |j::l,rs,i,hi=>by
  unfold rndR
  cases (stepR d T rs st j).2==0 with
  |false=>rfl
  |true=>
   rw[cond_true,rnd_in d T st l _ i hi,List.getD_eq_getElem?_getD,List.getD_eq_getElem?_getD,List.getElem?_set_ne (by omega)]
def rsG (d:Dg)(rs:List (Int×Int)):Prop:=∀i,gdR (tyAt d i) (rs.getD i (0,0))
def stG (d:Dg)(st:List (Int×Int)):Prop:=∀i,gdR (tyN d.tys (d.bls.getD i bl0).ty) (st.getD i (0,0))
theorem arg_good {d:Dg}{rs:List (Int×Int)}(h:rsG d rs)(b:Bl)(i:Nat):gdR ((argT d b).getD i ft0) ((argR d rs b).getD i (0,0)):=by
 unfold argT argR
 rw[List.getD_eq_getElem?_getD,List.getD_eq_getElem?_getD,List.getElem?_map,List.getElem?_map]
 cases b.ins[i]? with
 |none=>exact gd0 _
 |some s=>exact h _
theorem tyAt_bl (d:Dg)(i:Nat)(h:i<d.bls.length):tyAt d (d.ins.length+i)=tyN d.tys (d.bls.getD i bl0).ty:=by
 unfold tyAt
 congr 1
 unfold tnAt
 rw[if_neg (by omega),show d.ins.length+i-d.ins.length=i by omega,List.getD_eq_getElem?_getD,List.getD_eq_getElem?_getD,List.getElem?_map,List.getElem?_eq_getElem h]
 rfl
def TGd (d:Dg)(T:Bl→List (Int×Int)→Int×Int):Prop:=∀b∈d.bls,tabK b.kd=true→∀rs,rsG d rs→gdR (tyN d.tys b.ty) (T b (argR d rs b))
theorem step_good {d:Dg}(k:Chkd d){T:Bl→List (Int×Int)→Int×Int}(hT:TGd d T){rs st:List (Int×Int)}(h1:rsG d rs)(h2:stG d st)(i:Nat)(hi:i<d.bls.length):gdR (tyN d.tys (d.bls.getD i bl0).ty) (stepR d T rs st i).1:=by
 have hm:d.bls.getD i bl0∈d.bls:=by rw[List.getD_eq_getElem?_getD,List.getElem?_eq_getElem hi];exact List.getElem_mem hi
 exact blk_good (k.bty hm) (k.num hm) (arg_good h1 _) (h2 i) fun ht=>hT _ hm ht rs h1
theorem rs_set {d:Dg}{rs:List (Int×Int)}(h:rsG d rs){j:Nat}{r:Int×Int}(hr:gdR (tyAt d j) r):rsG d (rs.set j r):=fun i=>by
 rw[List.getD_eq_getElem?_getD,List.getElem?_set]
 split
 ·rename_i hij
  subst hij
  split
  ·exact hr
  ·exact gd0 _
 ·rw[←List.getD_eq_getElem?_getD];exact h i
theorem rnd_good {d:Dg}(k:Chkd d){T:Bl→List (Int×Int)→Int×Int}(hT:TGd d T){st:List (Int×Int)}(h2:stG d st):∀(l:List Nat) (rs:List (Int×Int)),(∀i∈l,i<d.bls.length)→rsG d rs→rsG d (rndR d T st l rs).1
 |[],rs,_,h=>h
 |i::l,rs,hl,h=>by
  unfold rndR
  cases (stepR d T rs st i).2==0 with
  |false=>exact h
  |true=>
   rw[cond_true]
   refine rnd_good k hT h2 l _ (fun j hj=>hl j (by simp[hj])) (rs_set h ?_)
   rw[tyAt_bl d i (hl i (by simp))]
   exact step_good k hT h h2 i (hl i (by simp))
theorem new_good {d:Dg}{rs st:List (Int×Int)}(h1:rsG d rs)(h2:stG d st)(i:Nat)(hi:i<d.bls.length):gdR (tyN d.tys (d.bls.getD i bl0).ty) (newS d rs (st.getD i (0,0)) i):=by
 have:=h2 i
 unfold newS newB
 cases (d.bls.getD i bl0).kd==delT with
 |true=>exact gd_hul this (gd_cnv (h1 _))
 |false=>
  rw[cond_false]
  cases (d.bls.getD i bl0).kd==lagT with
  |true=>rw[cond_true,←tyAt_bl d i hi];exact h1 _
  |false=>exact this
theorem kp_good {d:Dg}{big:Bool}{rs:List (Int×Int)}(h1:rsG d rs):∀(l:List Nat) (st:List (Int×Int)) (ch:Bool),(∀i∈l,i<d.bls.length)→stG d st→stG d (kpR d big rs l st ch).1
 |[],st,ch,_,h=>h
 |j::l,st,ch,hl,h=>by
  unfold kpR
  cases eqR (newS d rs (st.getD j (0,0)) j) (st.getD j (0,0))with
  |true=>exact kp_good h1 l st ch (fun i hi=>hl i (by simp[hi])) h
  |false=>
   rw[cond_false]
   refine kp_good h1 l _ true (fun i hi=>hl i (by simp[hi])) (fun i=>?_)
   have eg:∀x:Int×Int,(st.set j x).getD i (0,0)=((st.set j x)[i]?).getD (0,0):=fun x=>List.getD_eq_getElem?_getD ..
   rw[eg,List.getElem?_set]
   split
   ·rename_i hij
    subst hij
    split
    ·cases big with
     |true=>exact gd_limT _
     |false=>exact new_good h1 h j (hl j (by simp))
    ·exact gd0 _
   ·rw[←List.getD_eq_getElem?_getD];exact h i
theorem rngR_out {d:Dg}{T:Bl→List (Int×Int)→Int×Int}{od:List Nat}{Q:List (Int×Int)→List (Int×Int)→Prop}
  (h:∀rs st big,Q rs st→(rndR d T st od rs).2=none→Q (rndR d T st od rs).1 (kpR d big (rndR d T st od rs).1 (List.range d.bls.length) st false).1):
  ∀(f:Nat) (n:Int) (rs st rf:List (Int×Int)),Q rs st→rngR d T od f n rs st=some (rf,none)→∃rs' st',Q rs' st'∧(rndR d T st' od rs').2=none∧rf=(rndR d T st' od rs').1
 |0,_,_,_,_,_,h=>by cases h
 |f+1,n,rs,st,rf,hq,hr=>by
  unfold rngR at hr
  cases he:(rndR d T st od rs).2 with
  |some e=>rw[he]at hr;cases hr
  |none=>
   rw[he]at hr
   simp only at hr
   cases hc:(kpR d (decide (8≤n)) (rndR d T st od rs).1 (List.range d.bls.length) st false).2 with
   |false=>
    rw[hc,cond_false]at hr
    have:(rndR d T st od rs).1=rf:=by injection hr with hr;exact(Prod.mk.inj hr).1
    exact⟨rs,st,hq,he,this.symm⟩
   |true=>
    rw[hc,cond_true]at hr
    exact rngR_out h f (n+1) _ _ rf (h rs st _ hq he) hr
theorem upto_get (f:Nat→Int×Int)(N i:Nat)(j:Nat):(upto f N i).getD j (0,0)=if j<N∧j<i then f j else(0,0):=by
 unfold upto
 rw[List.getD_eq_getElem?_getD,List.getElem?_map]
 by_cases h:j<N
 ·rw[List.getElem?_range h]
  by_cases h2:j<i
  ·simp[h,h2]
  ·simp[h2]
 ·rw[List.getElem?_eq_none (by simpa using h)]
  simp[h]
theorem tyAt_in (d:Dg)(i:Nat)(h:i<d.ins.length):tyAt d i=tyN d.tys (d.ins.getD i po0).ty:=by
 unfold tyAt
 congr 1
 unfold tnAt
 rw[if_pos h,List.getD_eq_getElem?_getD,List.getD_eq_getElem?_getD,List.getElem?_map,List.getElem?_eq_getElem h]
 rfl
theorem r0_good {d:Dg}(k:Chkd d):rsG d (r0 d):=fun i=>by
 unfold r0
 rw[upto_get]
 split
 ·rename_i h
  have hm:d.ins.getD i po0∈d.ins:=by rw[List.getD_eq_getElem?_getD,List.getElem?_eq_getElem h.2];exact List.getElem_mem h.2
  rw[tyAt_in d i h.2]
  exact k.inr hm
 ·exact gd0 _
theorem s0_good {d:Dg}(k:Chkd d):stG d (s0 d):=fun i=>by
 unfold s0
 rw[upto_get]
 split
 ·rename_i h
  have hm:d.bls.getD i bl0∈d.bls:=by rw[List.getD_eq_getElem?_getD,List.getElem?_eq_getElem h.2];exact List.getElem_mem h.2
  unfold stF
  simp only
  cases hk:(d.bls.getD i bl0).kd==delT with
  |false=>exact gd0 _
  |true=>
   have hn:=k.num hm
   have hk:(d.bls.getD i bl0).kd=delS:=by simpa[delT,delS]using hk
   unfold numB at hn
   rw[if_pos (by rw[hk];decide)]at hn
   have:=wi_lim hn
   exact⟨this.1,Int.le_refl _,this.2⟩
 ·exact gd0 _
theorem rng_good {d:Dg}(k:Chkd d){T:Bl→List (Int×Int)→Int×Int}(hT:TGd d T){od:List Nat}(hn:od.Nodup)(hlt:∀i∈od,i<d.bls.length)(hall:∀i,i<d.bls.length→i∈od){f:Nat}{rf:List (Int×Int)}(h:rngR d T od f 1 (r0 d) (s0 d)=some (rf,none)):
  rsG d rf∧rf.length=d.ins.length+d.bls.length∧(∀i,i<d.ins.length→rf.getD i (0,0)=inF d i)∧∀i,i<d.bls.length→∃rs st,rf.getD (d.ins.length+i) (0,0)=(stepR d T rs st i).1:=by
 obtain⟨rs,st,⟨q1,q2,q3,q4,q5⟩,q6,rfl⟩:=rngR_out (Q:=fun rs st=>rsG d rs∧stG d st∧rs.length=d.ins.length+d.bls.length∧st.length=d.bls.length∧∀i,i<d.ins.length→rs.getD i (0,0)=inF d i) (fun rs st big ⟨q1,q2,q3,q4,q5⟩ he=>by
  have g1:=rnd_good k hT q2 od rs hlt q1
  refine⟨g1,kp_good g1 _ _ _ (fun i hi=>List.mem_range.1 hi) q2,by rw[rndR_len];exact q3,by rw[kpR_len];exact q4,fun i hi=>?_⟩
  rw[rnd_in d T st od rs i hi];exact q5 i hi) f 1 _ _ rf ⟨r0_good k,s0_good k,by simp[r0,upto],by simp[s0,upto],fun i hi=>by unfold r0;rw[upto_get,if_pos ⟨by omega,hi⟩]⟩ h
 refine⟨rnd_good k hT q2 od rs hlt q1,by rw[rndR_len];exact q3,fun i hi=>by rw[rnd_in d T st od rs i hi];exact q5 i hi,fun i hi=>?_⟩
 obtain⟨rq,_,h2,_⟩:=(rndR_get d T st od rs hn (fun j hj=>by have:=hlt j hj;omega) q6 i).1 (hall i hi)
 exact⟨rq,st,h2⟩
end Go.Proofs.YtkciabfilokfiaaGreat.Fx
