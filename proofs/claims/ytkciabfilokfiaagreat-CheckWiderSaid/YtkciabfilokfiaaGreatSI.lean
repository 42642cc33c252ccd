/-  -/
import Derived.Test.YtkciabfilokfiaaGreatPS
import Derived.Test.YtkciabfilokfiaaGreatSM
import Derived.Test.YtkciabfilokfiaaGreatRO
import Derived.Test.YtkciabfilokfiaaGreatRS
import Derived.Test.YtkciabfilokfiaaGreatRI
import Derived.Test.YtkciabfilokfiaaGreatQY
import Derived.Test.YtkciabfilokfiaaGreatRQ
import Derived.Test.YtkciabfilokfiaaGreatQS
import Derived.Test.YtkciabfilokfiaaGreatRD
namespace Go.Proofs.YtkciabfilokfiaaGreat.Fx
set_option linter.unusedVariables false
set_option linter.unusedSimpArgs false
def widI (d:Dg)(u:Int)(p:Po):Po:={p with lo:=max (limT (tyN d.tys p.ty)).1 (p.lo-u),hi:=min (limT (tyN d.tys p.ty)).2 (p.hi+u)}
def widD (d:Dg)(u:Int):Dg:={d with ins:=d.ins.map (widI d u)}
def NoK (d:Dg):Prop:=∀b∈d.bls,(b.kd==delT)=false∧(b.kd==lagT)=false∧(b.kd==mapS)=false
section
variable {d:Dg} {u:Int}
theorem wid_sigs:sigs (widD d u)=sigs d:=by
 unfold sigs widD
 simp only[List.map_map]
 rfl
theorem wid_len:(widD d u).ins.length=d.ins.length:=by unfold widD;simp
theorem wid_bef:befB (widD d u)=befB d:=by
 funext i
 unfold befB
 rw[wid_sigs,wid_len]
 rfl
theorem wid_ty (i:Nat):tyAt (widD d u) i=tyAt d i:=by
 unfold tyAt tnAt
 rw[wid_len]
 have:(widD d u).ins.map (·.ty)=d.ins.map (·.ty):=by unfold widD;simp only[List.map_map];rfl
 rw[this]
 rfl
theorem wid_argR (rs:List (Int×Int))(b:Bl):argR (widD d u) rs b=argR d rs b:=by unfold argR;rw[wid_sigs]
theorem wid_argT (b:Bl):argT (widD d u) b=argT d b:=by
 unfold argT
 rw[wid_sigs]
 exact List.map_congr_left fun s _=>wid_ty _
theorem wid_step (rs st:List (Int×Int))(i:Nat):stepR (widD d u) (tblQ (widD d u)) rs st i=stepR d (tblQ d) rs st i:=by
 unfold stepR
 show blkR (tyN d.tys (d.bls.getD i bl0).ty) (d.bls.getD i bl0) (argR (widD d u) rs (d.bls.getD i bl0)) (argT (widD d u) (d.bls.getD i bl0)) (st.getD i (0,0)) (tblQ (widD d u) (d.bls.getD i bl0) (argR (widD d u) rs (d.bls.getD i bl0)))=_
 rw[wid_argR,wid_argT]
 rfl
theorem kp_no (hk:NoK d)(big:Bool)(rs:List (Int×Int)):∀(l:List Nat) (st:List (Int×Int)) (ch:Bool),(∀i∈l,i<d.bls.length)→kpR d big rs l st ch=(st,ch)
 |[],_,_,_=>rfl
 |i::l,st,ch,hl=>by
  have hi:=hl i (by simp)
  have hm:d.bls.getD i bl0∈d.bls:=by rw[List.getD_eq_getElem?_getD,List.getElem?_eq_getElem hi];exact List.getElem_mem hi
  obtain⟨k1,k2,_⟩:=hk _ hm
  have hn:newS d rs (st.getD i (0,0)) i=st.getD i (0,0):=by unfold newS newB;rw[k1,k2];rfl
  unfold kpR
  rw[hn]
  have:eqR (st.getD i (0,0)) (st.getD i (0,0))=true:=by unfold eqR;simp
  rw[this,cond_true]
  exact kp_no hk big rs l st ch (fun j hj=>hl j (by simp[hj]))
theorem rng_no (hk:NoK d)(T:Bl→List (Int×Int)→Int×Int)(od:List Nat)(f:Nat)(n:Int)(rs st:List (Int×Int)):rngR d T od (f+1) n rs st=match (rndR d T st od rs).2 with
  |some e=>some ([],some e)
  |none=>some ((rndR d T st od rs).1,none):=by
 unfold rngR
 cases (rndR d T st od rs).2 with
 |some e=>rfl
 |none=>
  simp only
  rw[kp_no hk _ _ _ _ _ (fun i hi=>List.mem_range.1 hi)]
  rfl
theorem in_set {rs rs':List (Int×Int)}{r r':Int×Int}(hl:rs.length=rs'.length)(h:∀i,inR (rs.getD i (0,0)) (rs'.getD i (0,0)))(hr:inR r r')(j:Nat):∀i,inR ((rs.set j r).getD i (0,0)) ((rs'.set j r').getD i (0,0)):=fun i=>by
 have:=h i
 simp only[List.getD_eq_getElem?_getD,List.getElem?_set]at this⊢
 by_cases hij:j=i
 ·subst hij
  by_cases hj:j<rs.length
  ·rw[if_pos rfl,if_pos hj,if_pos rfl,if_pos (by omega)];exact hr
  ·rw[if_pos rfl,if_neg hj,if_pos rfl,if_neg (by omega)];exact⟨Int.le_refl _,Int.le_refl _⟩
 ·rw[if_neg hij,if_neg hij];exact this
theorem args_in {rs rs':List (Int×Int)}(h:∀i,inR (rs.getD i (0,0)) (rs'.getD i (0,0)))(b:Bl)(i:Nat):inR ((argR d rs b).getD i (0,0)) ((argR d rs' b).getD i (0,0)):=by
 unfold argR
 simp only[List.getD_eq_getElem?_getD,List.getElem?_map]
 cases b.ins[i]? with
 |none=>exact⟨Int.le_refl _,Int.le_refl _⟩
 |some s=>
  have:=h (sgN (sigs d) s)
  simpa[List.getD_eq_getElem?_getD]using this
theorem rnd_mono2 (k:Chkd d)(hk:NoK d){st:List (Int×Int)}(hst:stG d st):∀(l:List Nat) (rs rs':List (Int×Int)),(∀i∈l,i<d.bls.length)→rsG d rs→rsG d rs'→rs.length=rs'.length→(∀i,inR (rs.getD i (0,0)) (rs'.getD i (0,0)))→(rndR d (tblQ d) st l rs).2=none→
  (∃nm,(rndR (widD d u) (tblQ (widD d u)) st l rs').2=some (nm,10))∨((rndR (widD d u) (tblQ (widD d u)) st l rs').2=none∧∀i,inR ((rndR d (tblQ d) st l rs).1.getD i (0,0)) ((rndR (widD d u) (tblQ (widD d u)) st l rs').1.getD i (0,0)))
 |[],rs,rs',_,_,_,_,hi,_=> .inr ⟨rfl,hi⟩
 |j::l,rs,rs',hl,g,g',hlen,hi,h=>by
  have hj:=hl j (by simp)
  have hm:d.bls.getD j bl0∈d.bls:=by rw[List.getD_eq_getElem?_getD,List.getElem?_eq_getElem hj];exact List.getElem_mem hj
  obtain⟨_,_,k3⟩:=hk _ hm
  have hT:=tbl_good d
  have s1:=step_good k hT g hst j hj
  have s2:=step_good k hT g' hst j hj
  unfold rndR at h⊢
  rw[wid_step,wid_len]
  cases hq:(stepR d (tblQ d) rs st j).2==0 with
  |false=>rw[hq]at h;cases h
  |true=>
   rw[hq,cond_true]at h
   have h0:=eq_of_beq hq
   have hb:(stepR d (tblQ d) rs' st j).2=10∨((stepR d (tblQ d) rs' st j).2=0∧inR (stepR d (tblQ d) rs st j).1 (stepR d (tblQ d) rs' st j).1):=by
    refine blk_mono (arg_good g _) (arg_good g' _) (args_in hi _) (fun ht=>?_) h0
    unfold tblQ
    refine in_lim _ _ ?_
    have hcv:((d.bls.getD j bl0).kd==[99,117,114,118,101])=true:=by
     unfold tabK at ht
     rw[Bool.or_eq_true]at ht
     rcases ht with ht|ht
     ·exact ht
     ·exact absurd (show((d.bls.getD j bl0).kd==mapS)=true from ht) (by rw[k3];simp)
    unfold tblR
    rw[hcv,cond_true,cond_true]
    exact ovr_mono (arg_good g _ 0).2.1 (args_in hi _ 0)
   rcases hb with hb|⟨hb,hin⟩
   ·left
    rw[hb]
    exact⟨_,rfl⟩
   ·rw[hb]
    simp only[beq_self_eq_true,cond_true]
    refine rnd_mono2 k hk hst l _ _ (fun i hi=>hl i (by simp[hi])) (rs_set g ?_) (rs_set g' ?_) (by simp[hlen]) (in_set hlen hi hin _) h
    ·rw[tyAt_bl d j hj];exact s1
    ·rw[tyAt_bl d j hj];exact s2
theorem wid_p (k:Chkd d)(hu:0≤u){p:Po}(hp:p∈d.ins):gdR (tyN d.tys p.ty) ((widI d u p).lo,(widI d u p).hi)∧inR (p.lo,p.hi) ((widI d u p).lo,(widI d u p).hi):=by
 obtain⟨a,b,c⟩:=k.inr hp
 simp only at a b c
 unfold gdR inR widI
 simp only
 omega
theorem lim_bd (t:Ft): -4294967296≤(limT t).1∧(limT t).2≤4294967296:=by
 unfold limT
 cases h:fok t with
 |true=>have:=flo_bd t h;simp only[cond_true];omega
 |false=>simp
theorem wid_ok (k:Chkd d)(hu:0≤u):dgOk (widD d u)=true:=by
 have h:=k.ok
 unfold dgOk at h⊢
 simp only[Bool.and_eq_true,decide_eq_true_eq,List.all_eq_true]at h⊢
 obtain⟨h1,⟨n1,n2,n3,n4,n5⟩,n6,h2,h3,h4,h5,h6,h7⟩:=h
 refine⟨h1,⟨n1,n2,n3,by rw[wid_len];exact n4,n5⟩,n6,h2,h3,h4,fun p hp=>?_,h6,h7⟩
 obtain⟨q,hq,rfl⟩:=List.mem_map.1 hp
 have:=h5 q hq
 obtain⟨⟨a,b,c⟩,_⟩:=wid_p k hu hq
 have lb:=lim_bd (tyN d.tys q.ty)
 simp only at a b c
 unfold poOk at this⊢
 simp only[Bool.and_eq_true]at this⊢
 refine⟨this.1,this.2.1,?_,?_⟩
 ·unfold fitB;exact decide_eq_true (by omega)
 ·unfold fitB;exact decide_eq_true (by omega)
theorem wi_of {t:Ft}{x:Int}(h1:(limT t).1≤x)(h2:x≤(limT t).2):wiB t x=true:=by
 unfold wiB
 unfold limT at h1 h2
 rw[Bool.and_eq_true,decide_eq_true_eq,decide_eq_true_eq]
 exact⟨h1,h2⟩
theorem wid_all (k:Chkd d)(hu:0≤u):allE (widD d u)=none:=by
 unfold allE
 have e1:allN (widD d u)=allN d:=by unfold allN;rw[wid_sigs];rfl
 rw[e1,k.dup]
 simp only[Option.or_eq_none_iff]
 refine⟨firstF_no.2 fun p hp=>?_,firstF_no.2 fun b hb=>?_,?_,firstF_no.2 fun b hb=>?_⟩
 ·obtain⟨q,hq,rfl⟩:=List.mem_map.1 hp
  have:=k.inp q hq
  obtain⟨⟨a,b,c⟩,_⟩:=wid_p k hu hq
  simp only at a b c
  unfold inpE at this⊢
  show(if tyQ d.tys q.ty=none then _ else if (decide ((widI d u q).hi<(widI d u q).lo)||(!wiB (tyN d.tys q.ty) (widI d u q).lo|| !wiB (tyN d.tys q.ty) (widI d u q).hi))=true then _ else none)=none
  split at this
  ·cases this
  ·rename_i q1
   rw[if_neg q1,if_neg]
   rw[wi_of a (by omega),wi_of (by omega) c,decide_eq_false (by omega)]
   simp
 ·have:=k.blk b hb
  rw[wid_sigs]
  exact this
 ·rw[wid_sigs];exact k.out
 ·have:=k.fit b hb
  have hu:usOf (widD d u) b=usOf d b:=by
   unfold usOf
   rw[wid_sigs]
   exact List.map_congr_left fun s _=>by rw[wid_ty]
  unfold fitE at this⊢
  rw[hu]
  exact this
theorem wid_r0 (k:Chkd d)(hu:0≤u):rsG d (r0 (widD d u))∧(r0 d).length=(r0 (widD d u)).length∧∀i,inR ((r0 d).getD i (0,0)) ((r0 (widD d u)).getD i (0,0)):=by
 have key:∀i,i<d.ins.length→∃p∈d.ins,d.ins.getD i po0=p∧(widD d u).ins.getD i po0=widI d u p:=fun i hi=>by
  refine⟨d.ins[i],List.getElem_mem hi,?_,?_⟩
  ·rw[List.getD_eq_getElem?_getD,List.getElem?_eq_getElem hi];rfl
  ·unfold widD
   rw[List.getD_eq_getElem?_getD,List.getElem?_map,List.getElem?_eq_getElem hi];rfl
 refine⟨fun i=>?_,?_,fun i=>?_⟩
 ·unfold r0
  rw[upto_get]
  split
  ·rename_i h
   have hi:i<d.ins.length:=by rw[←wid_len (u:=u)];exact h.2
   obtain⟨p,hp,e1,e2⟩:=key i hi
   have:=(wid_p k hu hp).1
   rw[tyAt_in d i hi,e1]
   unfold inF
   rw[e2]
   exact this
  ·exact gd0 _
 ·unfold r0
  rw[upto_len,upto_len,wid_len]
  rfl
 ·unfold r0
  rw[upto_get,upto_get,wid_len]
  have hbl:(widD d u).bls.length=d.bls.length:=rfl
  rw[hbl]
  split
  ·rename_i h
   obtain⟨p,hp,e1,e2⟩:=key i h.2
   have:=(wid_p k hu hp).2
   unfold inF
   rw[e1,e2]
   exact this
  ·exact⟨Int.le_refl _,Int.le_refl _⟩
end
theorem ChkG.wid {d:Dg}{u:Int}{rf:List (Int×Int)}(g:ChkG d (tblQ d) rf)(hk:NoK d)(hu:0≤u)(hod:∀i∈ordR (befB d) d.bls.length,i<d.bls.length):
  (chkQ (widD d u) (tblQ (widD d u))).2.2=10∨∃rf',(chkQ (widD d u) (tblQ (widD d u)))=(⟨widD d u,sgsR (widD d u) rf' (d.ins.length+d.bls.length),ordR (befB d) d.bls.length⟩,[],0)∧∀i,inR (rf.getD i (0,0)) (rf'.getD i (0,0)):=by
 have hr:=g.rg
 rw[show d.bls.length+8=(d.bls.length+7)+1 by omega,rng_no hk]at hr
 obtain⟨q1,q2,q3⟩:=wid_r0 g.ck hu
 have hs0:s0 (widD d u)=s0 d:=rfl
 have hlo:lopN (widD d u)=none:=by
  unfold lopN
  rw[wid_bef]
  show(lopR (befB d) d.bls.length).map _=none
  rw[g.od];rfl
 have hkw:NoK (widD d u):=hk
 have hrw:rngR (widD d u) (tblQ (widD d u)) (ordR (befB (widD d u)) (widD d u).bls.length) ((widD d u).bls.length+8) 1 (r0 (widD d u)) (s0 (widD d u))=_:=rng_no (d:=widD d u) hkw (tblQ (widD d u)) (ordR (befB (widD d u)) (widD d u).bls.length) ((widD d u).bls.length+7) 1 (r0 (widD d u)) (s0 (widD d u))
 have hq:chkQ (widD d u) (tblQ (widD d u))=match rngR (widD d u) (tblQ (widD d u)) (ordR (befB (widD d u)) (widD d u).bls.length) ((widD d u).bls.length+8) 1 (r0 (widD d u)) (s0 (widD d u))with
   |none=>(ck0,[],0)
   |some (_,some e)=>(ck0,e.1,e.2)
   |some (rf,none)=>(⟨widD d u,sgsR (widD d u) rf ((widD d u).ins.length+(widD d u).bls.length),ordR (befB (widD d u)) (widD d u).bls.length⟩,[],0):=by
  conv=>lhs;unfold chkQ
  rw[wid_ok g.ck hu,wid_all g.ck hu,hlo]
  rfl
 rw[hrw,wid_bef,hs0]at hq
 have hbl:(widD d u).bls.length=d.bls.length:=rfl
 rw[hbl,wid_len]at hq
 cases hn:(rndR d (tblQ d) (s0 d) (ordR (befB d) d.bls.length) (r0 d)).2 with
 |some e=>rw[hn]at hr;cases hr
 |none=>
  rw[hn]at hr
  have hrf:(rndR d (tblQ d) (s0 d) (ordR (befB d) d.bls.length) (r0 d)).1=rf:=by injection hr with hr;exact(Prod.mk.inj hr).1
  rcases rnd_mono2 (u:=u) g.ck hk (s0_good g.ck) _ _ _ hod (r0_good g.ck) q1 q2 q3 hn with⟨nm,h⟩|⟨h,hin⟩
  ·rw[h]at hq
   exact .inl (by rw[hq])
  ·rw[h]at hq
   refine .inr ⟨_,hq,fun i=>?_⟩
   have:=hin i
   rw[hrf]at this
   exact this
end Go.Proofs.YtkciabfilokfiaaGreat.Fx
namespace Go.Proofs.YtkciabfilokfiaaGreat.Fx
open Vg Tf
set_option linter.unusedSimpArgs false
set_option linter.unusedVariables false
set_option maxRecDepth 100000
set_option maxHeartbeats 4000000
end Go.Proofs.YtkciabfilokfiaaGreat.Fx
namespace Go.Proofs.YtkciabfilokfiaaGreat.Fx
open Vg Tf
set_option linter.unusedSimpArgs false
set_option linter.unusedVariables false
set_option maxRecDepth 100000
set_option maxHeartbeats 4000000
@[reducible,go_sem] def dvs (d:DgL):List Cv:=[.v (sv d.nm),.v (vsl d.ty d.tys.length),.v (vsl d.cu d.cus.length),.v (vsl d.ma d.mas.length),.sl 4 0 d.ins.length 4,.sl 5 0 d.bls.length 6,.v (vsl d.ou d.ous.length)]
@[reducible,go_sem] def dmm (d:DgL):Mem:=[(4,⟨true,rowsC (d.ins.map Po.r),51⟩),(5,⟨true,rowsC (d.bls.map BlL.r),53⟩)]
end Go.Proofs.YtkciabfilokfiaaGreat.Fx
namespace Go.Proofs.YtkciabfilokfiaaGreat.Fx
open Vg Tf
set_option linter.unusedSimpArgs false
set_option linter.unusedVariables false
set_option maxRecDepth 100000
set_option maxHeartbeats 4000000
end Go.Proofs.YtkciabfilokfiaaGreat.Fx
namespace Go.Proofs.YtkciabfilokfiaaGreat.Fx
open Vg Tf
set_option linter.unusedSimpArgs false
set_option linter.unusedVariables false
set_option maxRecDepth 100000
set_option maxHeartbeats 4000000
end Go.Proofs.YtkciabfilokfiaaGreat.Fx
namespace Go.Proofs.YtkciabfilokfiaaGreat.Fx
open Vg Tf
set_option linter.unusedSimpArgs false
set_option linter.unusedVariables false
set_option maxRecDepth 100000
set_option maxHeartbeats 4000000
def frn {α:Type}(g:α→α)(l:List α)(i:Nat):List α:=(l.take i).map g++l.drop i
theorem frn_len {α:Type}(g:α→α)(l:List α)(i:Nat):(frn g l i).length=l.length:=by simp[frn];omega
theorem frn_all {α:Type}(g:α→α)(l:List α):frn g l l.length=l.map g:=by simp[frn]
theorem frn_split {α:Type}(g:α→α)(l:List α)(i:Nat)(h:i<l.length):frn g l i=(l.take i).map g++l[i]::l.drop (i+1)∧frn g l (i+1)=(l.take i).map g++g l[i]::l.drop (i+1):=by
 unfold frn
 refine⟨by rw[←List.drop_eq_getElem_cons h],?_⟩
 rw[List.take_succ_eq_append_getElem h,List.map_append]
 simp
theorem frn_at {α:Type}(g:α→α)(l:List α)(i:Nat)(h:i<l.length):(frn g l i)[i]?=some l[i]:=by
 have hl:((l.take i).map g).length=i:=by simp;omega
 rw[(frn_split g l i h).1,List.getElem?_append_right (by omega),hl,Nat.sub_self];rfl
end Go.Proofs.YtkciabfilokfiaaGreat.Fx
