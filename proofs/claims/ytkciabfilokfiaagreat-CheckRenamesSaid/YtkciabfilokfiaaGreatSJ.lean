/-  -/
import Derived.Test.YtkciabfilokfiaaGreatPS
import Derived.Test.YtkciabfilokfiaaGreatSI
import Derived.Test.YtkciabfilokfiaaGreatRO
import Derived.Test.YtkciabfilokfiaaGreatRS
namespace Go.Proofs.YtkciabfilokfiaaGreat.Fx
set_option maxRecDepth 100000
set_option linter.unusedVariables false
set_option linter.unusedSimpArgs false
theorem ne_of_not {t s:Str}{l:List Str}(ht:t∉l)(h:s∈l):s≠t:=by
 rintro rfl;exact ht h
theorem idxS_ren {f t s:Str}(hs:s≠t):∀(l:List Str) (k:Nat),t∉l→idxS (rnS f t s) (l.map (rnS f t)) k=idxS s l k
 |[],_,_=>rfl
 |x::l,k,h=>by
  have hx:x≠t:=fun e=>h (by simp[e])
  have ih:=idxS_ren (f:=f) hs l (k+1) (fun e=>h (by simp[e]))
  rw[List.map_cons,idxS,idxS,ih]
  have:rnS f t x=rnS f t s↔x=s:=by
   unfold rnS
   by_cases h1:x=f
   ·by_cases h2:s=f
    ·simp[h1,h2]
    ·rw[if_pos h1,if_neg h2]
     exact⟨fun e=>absurd e.symm hs,fun e=>absurd (by rw[←e,h1]) h2⟩
   ·by_cases h2:s=f
    ·rw[if_neg h1,if_pos h2]
     exact⟨fun e=>absurd e hx,fun e=>absurd (by rw[e,h2]) h1⟩
    ·rw[if_neg h1,if_neg h2]
  by_cases he:x=s
  ·rw[if_pos he,if_pos (this.2 he)]
  ·rw[if_neg he,if_neg (fun e=>he (this.1 e))]
theorem idxS_nomem {s:Str}:∀(l:List Str) (k:Nat),idxS s l k=none→s∉l
 |[],_,_=>by simp
 |x::l,k,h=>by
  rw[idxS]at h
  split at h
  ·cases h
  ·rename_i hx
   simp only[List.mem_cons,not_or]
   exact⟨fun e=>hx e.symm,idxS_nomem l (k+1) h⟩
theorem sgB_mem {l:List Str}{s:Str}(h:sgB l s=true):s∈l:=by
 unfold sgB at h
 cases hq:idxS s l 0 with
 |none=>rw[hq]at h;cases h
 |some i=>
  obtain⟨j,_,hj⟩:=idxS_get s l 0 i hq
  exact List.mem_of_getElem? hj
theorem dupF_of_nodup:∀(l seen:List Str),l.Nodup→(∀x∈l,x∉seen)→dupF seen l=none
 |[],_,_,_=>rfl
 |x::l,seen,h,hs=>by
  obtain⟨h1,h2⟩:=List.nodup_cons.1 h
  rw[dupF]
  have:seen.contains x=false:=by
   cases hb:seen.contains x with
   |false=>rfl
   |true=>exact absurd (List.contains_iff_mem.1 hb) (hs x (by simp))
  rw[this,cond_false]
  refine dupF_of_nodup l (x::seen) h2 (fun y hy hm=>?_)
  rcases List.mem_cons.1 hm with rfl|hm
  ·exact h1 hy
  ·exact hs y (by simp[hy]) hm
structure RnOk (d:Dg) (f t:Str):Prop where
 t:t∉sigs d
 ins:∀b∈d.bls,∀s∈b.ins,sgB (sigs d) s=true
 ous:∀s∈d.ous,sgB (sigs d) s=true
 dl:∀b∈d.bls,(b.kd==delT)=true→b.ins≠[]
section
variable {d:Dg} {f t:Str}
theorem sigs_ren:sigs (renD d f t)=(sigs d).map (rnS f t):=by
 unfold sigs renD
 simp only[List.map_append,List.map_map]
 rfl
theorem RnOk.sN (k:RnOk d f t){s:Str}(h:sgB (sigs d) s=true):sgN (sigs (renD d f t)) (rnS f t s)=sgN (sigs d) s:=by
 unfold sgN
 rw[sigs_ren,idxS_ren (ne_of_not k.t (sgB_mem h)) _ _ k.t]
theorem RnOk.sB (k:RnOk d f t){s:Str}(h:sgB (sigs d) s=true):sgB (sigs (renD d f t)) (rnS f t s)=true:=by
 unfold sgB at h⊢
 rw[sigs_ren,idxS_ren (ne_of_not k.t (sgB_mem h)) _ _ k.t]
 exact h
theorem ren_bl (i:Nat):(renD d f t).bls[i]?=(d.bls[i]?).map (rnB f t):=by unfold renD;rw[List.getElem?_map]
theorem ren_gd (i:Nat):(∃b∈d.bls,d.bls.getD i bl0=b∧(renD d f t).bls.getD i bl0=rnB f t b)∨(d.bls.getD i bl0=bl0∧(renD d f t).bls.getD i bl0=bl0):=by
 rw[List.getD_eq_getElem?_getD,List.getD_eq_getElem?_getD,ren_bl]
 cases h:d.bls[i]? with
 |none=>exact .inr ⟨rfl,rfl⟩
 |some b=>exact .inl ⟨b,List.mem_of_getElem? h,rfl,rfl⟩
theorem RnOk.bef (k:RnOk d f t):befB (renD d f t)=befB d:=by
 funext i
 unfold befB
 rw[ren_bl]
 cases h:d.bls[i]? with
 |none=>rfl
 |some b=>
  have hm:=List.mem_of_getElem? h
  show need (sigs (renD d f t)) (renD d f t).ins.length (rnB f t b)=need (sigs d) d.ins.length b
  have hl:(renD d f t).ins.length=d.ins.length:=by unfold renD;simp
  unfold need
  rw[hl]
  show(if b.kd==delS then[]else(b.ins.map (rnS f t)).flatMap _)=_
  split
  ·rfl
  ·rw[List.flatMap_map]
   have hi:=k.ins b hm
   generalize b.ins=q at*
   induction q with
   |nil=>rfl
   |cons x q ih=>
    rw[List.flatMap_cons,List.flatMap_cons,ih (fun s hs=>hi s (by simp[hs]))]
    congr 1
    unfold nee1
    rw[k.sN (hi x (by simp))]
theorem ren_tn (i:Nat):tnAt (renD d f t) i=tnAt d i:=by
 unfold tnAt renD
 simp only[List.length_map,List.map_map]
 rfl
theorem ren_ty (i:Nat):tyAt (renD d f t) i=tyAt d i:=by
 unfold tyAt
 rw[ren_tn];rfl
theorem RnOk.argR (k:RnOk d f t)(rs:List (Int×Int)){b:Bl}(hb:b∈d.bls):Fx.argR (renD d f t) rs (rnB f t b)=Fx.argR d rs b:=by
 unfold Fx.argR
 show(b.ins.map (rnS f t)).map _=_
 rw[List.map_map]
 exact List.map_congr_left fun s hs=>by
  show rs.getD (sgN (sigs (renD d f t)) (rnS f t s)) (0,0)=_
  rw[k.sN (k.ins b hb s hs)]
theorem RnOk.argT (k:RnOk d f t){b:Bl}(hb:b∈d.bls):Fx.argT (renD d f t) (rnB f t b)=Fx.argT d b:=by
 unfold Fx.argT
 show(b.ins.map (rnS f t)).map _=_
 rw[List.map_map]
 exact List.map_congr_left fun s hs=>by
  show tyAt (renD d f t) (sgN (sigs (renD d f t)) (rnS f t s))=_
  rw[k.sN (k.ins b hb s hs),ren_ty]
theorem RnOk.step (k:RnOk d f t)(rs st:List (Int×Int))(i:Nat):stepR (renD d f t) (tblQ (renD d f t)) rs st i=stepR d (tblQ d) rs st i:=by
 unfold stepR
 rcases ren_gd (d:=d) (f:=f) (t:=t) i with⟨b,hb,e1,e2⟩|⟨e1,e2⟩
 ·rw[e1,e2,k.argR rs hb,k.argT hb];rfl
 ·rw[e1,e2];rfl
theorem RnOk.rnd (k:RnOk d f t)(st:List (Int×Int)):∀(l:List Nat) (rs:List (Int×Int)),(rndR d (tblQ d) st l rs).2=none→rndR (renD d f t) (tblQ (renD d f t)) st l rs=rndR d (tblQ d) st l rs
 |[],rs,_=>rfl
 |i::l,rs,h=>by
  have hl:(renD d f t).ins.length=d.ins.length:=by unfold renD;simp
  unfold rndR at h⊢
  rw[k.step,hl]
  cases hq:(stepR d (tblQ d) rs st i).2==0 with
  |true=>
   rw[hq,cond_true]at h
   rw[cond_true,cond_true]
   exact k.rnd st l _ h
  |false=>rw[hq]at h;cases h
theorem RnOk.newS (k:RnOk d f t)(rs:List (Int×Int))(s:Int×Int)(i:Nat):Fx.newS (renD d f t) rs s i=Fx.newS d rs s i:=by
 have hl:(renD d f t).ins.length=d.ins.length:=by unfold renD;simp
 unfold Fx.newS newB
 rcases ren_gd (d:=d) (f:=f) (t:=t) i with⟨b,hb,e1,e2⟩|⟨e1,e2⟩
 ·rw[e1,e2,hl]
  show(bif b.kd==delT then _ else bif b.kd==lagT then _ else s)=(bif b.kd==delT then _ else bif b.kd==lagT then _ else s)
  cases hk:b.kd==delT with
  |false=>rfl
  |true=>
   simp only[cond_true]
   have hne:=k.dl b hb hk
   have e4:(rnB f t b).ins=b.ins.map (rnS f t):=rfl
   rw[e4]
   cases hins:b.ins with
   |nil=>exact absurd hins hne
   |cons x q=>
    have hx:=k.ins b hb x (by rw[hins];simp)
    show hulR s (cnvR (rs.getD (sgN (sigs (renD d f t)) (rnS f t x)) (0,0)) (tyAt (renD d f t) (sgN (sigs (renD d f t)) (rnS f t x))) _)=_
    rw[k.sN hx,ren_ty];rfl
 ·rw[e1,e2];rfl
theorem RnOk.kp (k:RnOk d f t)(big:Bool)(rs:List (Int×Int)):∀(l:List Nat) (st:List (Int×Int)) (ch:Bool),kpR (renD d f t) big rs l st ch=kpR d big rs l st ch
 |[],_,_=>rfl
 |i::l,st,ch=>by
  have hty:tyN (renD d f t).tys ((renD d f t).bls.getD i bl0).ty=tyN d.tys (d.bls.getD i bl0).ty:=by
   rcases ren_gd (d:=d) (f:=f) (t:=t) i with⟨b,hb,e1,e2⟩|⟨e1,e2⟩
   ·rw[e1,e2];rfl
   ·rw[e1,e2];rfl
  unfold kpR
  rw[k.newS,hty,k.kp big rs l,k.kp big rs l]
theorem RnOk.rng (k:RnOk d f t)(od:List Nat):∀(m:Nat) (n:Int) (rs st rf:List (Int×Int)),rngR d (tblQ d) od m n rs st=some (rf,none)→rngR (renD d f t) (tblQ (renD d f t)) od m n rs st=some (rf,none)
 |0,_,_,_,_,h=>by cases h
 |m+1,n,rs,st,rf,h=>by
  have hl:(renD d f t).bls.length=d.bls.length:=by unfold renD;simp
  rw[rngR]at h⊢
  cases hq:(rndR d (tblQ d) st od rs).2 with
  |some e=>rw[hq]at h;cases h
  |none=>
   rw[k.rnd st od rs hq,hq]
   rw[hq]at h
   simp only at h⊢
   rw[k.kp,hl]
   cases hk:(kpR d (decide (8≤n)) (rndR d (tblQ d) st od rs).1 (List.range d.bls.length) st false).2 with
   |false=>rw[hk]at h;exact h
   |true=>
    rw[hk,cond_true]at h
    rw[cond_true]
    exact k.rng od m _ _ _ _ h
theorem ren_r0:r0 (renD d f t)=r0 d:=by
 have h1:inF (renD d f t)=inF d:=by
  funext j
  unfold inF renD
  simp only[List.getD_eq_getElem?_getD,List.getElem?_map]
  cases d.ins[j]?<;>rfl
 unfold r0
 rw[h1]
 unfold renD
 simp only[List.length_map]
theorem ren_s0:s0 (renD d f t)=s0 d:=by
 have h1:stF (renD d f t)=stF d:=by
  funext j
  unfold stF
  rcases ren_gd (d:=d) (f:=f) (t:=t) j with⟨b,hb,e1,e2⟩|⟨e1,e2⟩
  ·rw[e1,e2];rfl
  ·rw[e1,e2]
 unfold s0
 rw[h1]
 unfold renD
 simp only[List.length_map]
theorem rn_inj {x y:Str}(hx:x≠t)(hy:y≠t)(h:rnS f t x=rnS f t y):x=y:=by
 unfold rnS at h
 by_cases h1:x=f
 ·by_cases h2:y=f
  ·rw[h1,h2]
  ·rw[if_pos h1,if_neg h2]at h;exact absurd h.symm hy
 ·by_cases h2:y=f
  ·rw[if_neg h1,if_pos h2]at h;exact absurd h hx
  ·rw[if_neg h1,if_neg h2]at h;exact h
theorem RnOk.out (k:RnOk d f t):∀(l seen:List Str),(∀s∈l,sgB (sigs d) s=true)→(∀s∈seen,sgB (sigs d) s=true)→outE (sigs d) seen l=none→outE (sigs (renD d f t)) (seen.map (rnS f t)) (l.map (rnS f t))=none
 |[],_,_,_,_=>rfl
 |s::l,seen,hl,hs,h=>by
  have h1:=hl s (by simp)
  rw[outE,if_neg (by rw[h1];simp)]at h
  rw[List.map_cons,outE,if_neg (by rw[k.sB h1];simp)]
  split at h
  ·cases h
  ·rename_i hc
   have hc2:¬(seen.map (rnS f t)).contains (rnS f t s)=true:=fun hh=>by
    obtain⟨y,hy,he⟩:=List.mem_map.1 (List.contains_iff_mem.1 hh)
    have:=rn_inj (ne_of_not k.t (sgB_mem (hs y hy))) (ne_of_not k.t (sgB_mem h1)) he
    subst this
    exact hc (List.contains_iff_mem.2 hy)
   rw[if_neg hc2]
   have:=k.out l (seen++[s]) (fun x hx=>hl x (by simp[hx])) (fun x hx=>by
    rcases List.mem_append.1 hx with hx|hx
    ·exact hs x hx
    ·obtain rfl:=List.mem_singleton.1 hx;exact h1) h
   rw[List.map_append]at this
   exact this
theorem frF_map {α β:Type}(g:α→β)(F:β→Option (Str×Int))(G:α→Option (Str×Int))(h:∀a,G a=none→F (g a)=none):∀l:List α,firstF G l=none→firstF F (l.map g)=none
 |[],_=>rfl
 |x::l,hl=>by
  rw[firstF]at hl
  rw[List.map_cons,firstF]
  cases hx:G x with
  |some y=>rw[hx]at hl;cases hl
  |none=>
   rw[hx]at hl
   rw[h x hx]
   exact frF_map g F G h l hl
theorem frF_mapm {α β:Type}(g:α→β)(F:β→Option (Str×Int))(G:α→Option (Str×Int)):∀l:List α,(∀a∈l,G a=none→F (g a)=none)→firstF G l=none→firstF F (l.map g)=none
 |[],_,_=>rfl
 |x::l,h,hl=>by
  rw[firstF]at hl
  rw[List.map_cons,firstF]
  cases hx:G x with
  |some y=>rw[hx]at hl;cases hl
  |none=>
   rw[hx]at hl
   rw[h x (by simp) hx]
   exact frF_mapm g F G l (fun a ha=>h a (by simp[ha])) hl
theorem RnOk.fit (k:RnOk d f t){b:Bl}(hb:b∈d.bls)(h:fitE d b=none):fitE (renD d f t) (rnB f t b)=none:=by
 have hu:usOf (renD d f t) (rnB f t b)=usOf d b:=by
  unfold usOf
  show(b.ins.map (rnS f t)).map _=_
  rw[List.map_map]
  exact List.map_congr_left fun s hs=>by
   show unT (tyAt (renD d f t) (sgN (sigs (renD d f t)) (rnS f t s)))=_
   rw[k.sN (k.ins b hb s hs),ren_ty]
 unfold fitE at h⊢
 rw[hu]
 show(if uniB b.kd (unT (tyN d.tys b.ty)) (usOf d b)=false then _ else if numB (tyN d.tys b.ty) (rnB f t b)=false then _ else none)=none
 split at h
 ·cases h
 ·rename_i h1
  rw[if_neg h1]
  split at h
  ·cases h
  ·rename_i h2
   exact if_neg h2
theorem RnOk.allN (k:RnOk d f t)(hn:dupF [] (Fx.allN d)=none)(h1:t∉d.tys.map (·.nm))(h2:t∉d.cus.map (·.nm))(h3:t∉d.mas.map (·.nm)):dupF [] (Fx.allN (renD d f t))=none:=by
 obtain⟨hnd,_⟩:=nodup_of_dupF _ _ hn
 refine dupF_of_nodup _ _ ?_ (fun _ _=>by simp)
 have e:Fx.allN (renD d f t)=d.tys.map (·.nm)++(d.cus.map (·.nm)++d.mas.map (·.nm))++(sigs d).map (rnS f t):=by
  unfold Fx.allN
  rw[sigs_ren];rfl
 unfold Fx.allN at hnd
 rw[e]
 rw[List.nodup_append]at hnd⊢
 obtain⟨n1,n2,n3⟩:=hnd
 refine⟨n1,?_,fun a ha b hb=>?_⟩
 ·have key:∀l:List Str,l.Nodup→(∀x∈l,x≠t)→(l.map (rnS f t)).Nodup:=by
   intro l
   induction l with
   |nil=>intro _ _;simp
   |cons x l ih=>
    intro hl hx
    obtain⟨q1,q2⟩:=List.nodup_cons.1 hl
    rw[List.map_cons,List.nodup_cons]
    refine⟨fun hm=>?_,ih q2 (fun y hy=>hx y (by simp[hy]))⟩
    obtain⟨y,hy,he⟩:=List.mem_map.1 hm
    have:=rn_inj (hx y (by simp[hy])) (hx x (by simp)) he
    subst this
    exact q1 hy
  exact key _ n2 (fun x hx=>ne_of_not k.t hx)
 ·obtain⟨x,hx,rfl⟩:=List.mem_map.1 hb
  intro he
  unfold rnS at he
  split at he
  ·subst he
   simp only[List.mem_append]at ha
   rcases ha with ha|ha|ha
   ·exact h1 ha
   ·exact h2 ha
   ·exact h3 ha
  ·exact n3 a ha x hx he
theorem RnOk.allE (k:RnOk d f t)(h:Fx.allE d=none)(h1:t∉d.tys.map (·.nm))(h2:t∉d.cus.map (·.nm))(h3:t∉d.mas.map (·.nm)):Fx.allE (renD d f t)=none:=by
 unfold Fx.allE at h⊢
 cases hd:dupF [] (Fx.allN d)with
 |some s=>rw[hd]at h;cases h
 |none=>
  rw[hd]at h
  rw[k.allN hd h1 h2 h3]
  simp only[Option.or_eq_none_iff]at h⊢
  obtain⟨a1,a2,a3,a4⟩:=h
  refine⟨frF_map (rnP f t) _ (inpE d.tys) (fun p hp=>?_) _ a1,frF_mapm (rnB f t) _ (blkE d.tys d.cus d.mas (sigs d)) _ (fun b hb hp=>?_) a2,?_,frF_mapm (rnB f t) _ (fitE d) _ (fun b hb hp=>k.fit hb hp) a4⟩
  ·unfold inpE at hp⊢
   show(if tyQ d.tys p.ty=none then _ else if (decide (p.hi<p.lo)||(!wiB (tyN d.tys p.ty) p.lo|| !wiB (tyN d.tys p.ty) p.hi))=true then _ else none)=none
   split at hp
   ·cases hp
   ·rename_i q1
    rw[if_neg q1]
    split at hp
    ·cases hp
    ·rename_i q2
     exact if_neg q2
  ·unfold blkE at hp⊢
   show(if tyQ d.tys b.ty=none then _ else match argQ (sigs (renD d f t)) (b.ins.map (rnS f t))with
    |some s=>_
    |none=>if tabB _ _ b.kd=true then _ else none)=none
   have ha:argQ (sigs (renD d f t)) (b.ins.map (rnS f t))=none:=by
    unfold argQ
    rw[List.find?_eq_none]
    intro x hx
    obtain⟨s,hs,rfl⟩:=List.mem_map.1 hx
    rw[k.sB (k.ins b hb s hs)];simp
   split at hp
   ·cases hp
   ·rename_i q1
    rw[if_neg q1,ha]
    split at hp
    ·cases hp
    ·simp only
     split at hp
     ·cases hp
     ·rename_i q2
      exact if_neg q2
  ·exact k.out d.ous [] k.ous (by simp) a3
end
theorem rn_ok {f t s:Str}(ht:nmOk t=true)(hs:nmOk s=true):nmOk (rnS f t s)=true:=by
 unfold rnS;split<;>assumption
theorem ren_ok {d:Dg}{f t:Str}(h:dgOk d=true)(ht:nmOk t=true):dgOk (renD d f t)=true:=by
 unfold dgOk at h⊢
 simp only[Bool.and_eq_true,decide_eq_true_eq,List.all_eq_true]at h⊢
 obtain⟨h1,⟨n1,n2,n3,n4,n5⟩,n6,h2,h3,h4,h5,h6,h7⟩:=h
 refine⟨h1,⟨n1,n2,n3,by simpa[renD]using n4,by simpa[renD]using n5⟩,by simpa[renD]using n6,h2,h3,h4,fun p hp=>?_,fun b hb=>?_,fun s hs=>?_⟩
 ·obtain⟨q,hq,rfl⟩:=List.mem_map.1 hp
  have:=h5 q hq
  unfold poOk at this⊢
  simp only[Bool.and_eq_true]at this⊢
  exact⟨rn_ok ht this.1,this.2⟩
 ·obtain⟨q,hq,rfl⟩:=List.mem_map.1 hb
  have:=h6 q hq
  unfold blOk at this⊢
  show(match kindQ q.kd with
   |none=>false
   |some (a,k,t')=>_)=true
  cases hk:kindQ q.kd with
  |none=>rw[hk]at this;cases this
  |some w=>
   obtain⟨a,k,t'⟩:=w
   rw[hk]at this
   simp only[Bool.and_eq_true,decide_eq_true_eq,List.all_eq_true]at this⊢
   obtain⟨a1,a2,a3,a4,a5,a6,a7⟩:=this
   refine⟨by simpa[rnB]using a1,a2,rn_ok ht a3,a4,a5,fun s hs=>?_,a7⟩
   obtain⟨y,hy,rfl⟩:=List.mem_map.1 hs
   exact rn_ok ht (a6 y hy)
 ·obtain⟨y,hy,rfl⟩:=List.mem_map.1 hs
  exact rn_ok ht (h7 y hy)
theorem outE_ok {sg:List Str}:∀(l seen:List Str),outE sg seen l=none→∀s∈l,sgB sg s=true
 |[],_,_,s,hs=>by cases hs
 |x::l,seen,h,s,hs=>by
  rw[outE]at h
  split at h
  ·cases h
  ·rename_i h1
   split at h
   ·cases h
   ·rcases List.mem_cons.1 hs with rfl|hs
    ·simpa using h1
    ·exact outE_ok l _ h s hs
theorem RnOk.of {d:Dg}{f t:Str}{rf:List (Int×Int)}(g:ChkG d (tblQ d) rf)(ht:t∉sigs d):RnOk d f t:=by
 refine⟨ht,fun b hb s hs=>?_,fun s hs=>outE_ok _ _ g.ck.out s hs,fun b hb hk he=>?_⟩
 ·have h:=g.ck.blk b hb
  unfold blkE at h
  split at h
  ·cases h
  ·split at h
   ·cases h
   ·rename_i ha
    unfold argQ at ha
    rw[List.find?_eq_none]at ha
    simpa using ha s hs
 ·have hbk:blOk b=true:=by
   have h:=g.ok
   unfold dgOk at h
   simp only[Bool.and_eq_true,decide_eq_true_eq,List.all_eq_true]at h
   exact h.2.2.2.2.2.2.2.1 b hb
  have:=(blOk_ks hbk hk (by rfl)).1
  rw[he]at this
  cases this
theorem ChkG.ren {d:Dg}{f t:Str}{rf:List (Int×Int)}(g:ChkG d (tblQ d) rf)(hn:nmOk t=true)(ht:t∉sigs d)(h1:t∉d.tys.map (·.nm))(h2:t∉d.cus.map (·.nm))(h3:t∉d.mas.map (·.nm)):ChkG (renD d f t) (tblQ (renD d f t)) rf:=by
 have k:RnOk d f t:=RnOk.of g ht
 have hall:allE d=none:=by
  have hq:=g.q
  unfold chkQ at hq
  rw[g.ok]at hq
  simp only[Bool.not_true,cond_false]at hq
  cases he:allE d with
  |none=>rfl
  |some e=>
   rw[he]at hq
   have:=congrArg (fun x=>x.2.2) hq
   exact absurd this (allE_ne he)
 have hl:(renD d f t).bls.length=d.bls.length:=by simp[renD]
 have e1:=ren_ok (f:=f) g.ok hn
 have e2:=k.allE hall h1 h2 h3
 have e3:lopR (befB (renD d f t)) (renD d f t).bls.length=none:=by rw[k.bef,hl];exact g.od
 have e4:rngR (renD d f t) (tblQ (renD d f t)) (ordR (befB (renD d f t)) (renD d f t).bls.length) ((renD d f t).bls.length+8) 1 (r0 (renD d f t)) (s0 (renD d f t))=some (rf,none):=by
  rw[k.bef,hl,ren_r0,ren_s0]
  exact k.rng _ _ _ _ _ _ g.rg
 refine⟨e1,Chkd.of e1 e2,e3,e4,?_⟩
 have hlo:lopN (renD d f t)=none:=by unfold lopN;rw[e3];rfl
 unfold chkQ
 rw[e1,Bool.not_true,cond_false,e2,hlo]
 simp only[e4]
def rnG (f t:Str)(s:Sg):Sg:={s with nm:=rnS f t s.nm}
theorem sgs_ren (d:Dg)(f t:Str)(rf:List (Int×Int))(n:Nat)(hn:n≤(sigs d).length):sgsR (renD d f t) rf n=(sgsR d rf n).map (rnG f t):=by
 unfold sgsR
 rw[List.map_map]
 refine List.map_congr_left fun i hi=>?_
 have hi:=List.mem_range.1 hi
 show sgF (renD d f t) rf i=rnG f t (sgF d rf i)
 unfold sgF rnG
 rw[ren_ty,sigs_ren]
 simp only[List.getD_eq_getElem?_getD,List.getElem?_map]
 rw[List.getElem?_eq_getElem (by omega)]
 rfl
end Go.Proofs.YtkciabfilokfiaaGreat.Fx
