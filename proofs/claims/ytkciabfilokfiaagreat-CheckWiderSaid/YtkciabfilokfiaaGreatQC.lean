/-  -/
import Derived.Test.YtkciabfilokfiaaGreatPS
import Derived.Test.YtkciabfilokfiaaGreatQB
namespace Go.Proofs.YtkciabfilokfiaaGreat.Fx
open Vg Tf
set_option linter.unusedSimpArgs false
set_option linter.unusedVariables false
set_option maxRecDepth 100000
set_option maxHeartbeats 4000000
theorem _root_.Go.Proofs.YtkciabfilokfiaaGreat.Vg.DCallQ.hr {H:Hp}{P:Program}{nt:Nat}{C:Cx}{r:List It}{e e0:Env}{M M0 Mf:Mem}{id:Nat}{rg:Array Oper}{k:Nat}{T:List (Nat×Nat)}{i:Nat}{o:Oper}{l:List Oper}{f:FuncId}{vs:List (Option (Bool×V))}{g:Bool}{dst:Option Nat}{xs:List V}{v:V}{M1 N:Mem}(L:List (Nat×Nat))(nx:Nat)(hc:CallX H P f xs M1 (fun _:Unit=>v) (fun _=>N) (fun _ _=>True))(hH:H.le C.hp)(hcl:ClM M1)(hL:rnOk L=true)(hvs:vs=(xs.map (V.ren (rn L))).map fun x=>some (true,x))
  (hs:SubS (M1.ren (rn L)) M0) (hfr:(N.ren (rn L)).all (fun p=>((M1.ren (rn L)).get p.1).isSome||(M0.get p.1).isNone)=true) (hg:g=true∨N=[]) (hf2:ownB (N.ren (rn L)) M0 M0 M=true) (hf3:touchB T o (N.ren (rn L))=true)
  (h:runD P nt C id rg r e0 M0 Mf k (kontW P nt C (.ops rg (rg.toList.drop k)::r)) (touchN (N.ren (rn L)) i T) (i+1) l (e.put dst g (v.ren (rn L))) (N.ren (rn L)++M) nx):DCallQ P nt C id rg r e0 M0 Mf k T i o f vs g dst l e M:=
 ⟨M1.ren (rn L),N.ren (rn L),M0,v.ren (rn L),xs.map (V.ren (rn L)),fun _=>hvs,fun _=> .inr (CallX.kx (hc.ren (rn_inj L hL)) hH (hcl.ren (rn_inj L hL)) (fun _=>rfl) (fun _=>rfl)),hs.sub,hcl.ren (rn_inj L hL),Fresh.of hfr,hg.imp (fun h=>h) (fun h=>by rw[h];rfl),⟨fun _ _ h=> .inl h,snoc_hf hf2 hf3⟩,DrS.go nx h⟩
theorem befB_len {d:DgL}(hl:∀b∈d.bls,b.c.ins.length≤1000000)(i:Nat)(hi:i<d.bls.length):(befB d.c i).length≤1000000:=by
 have hl:=hl _ (List.getElem_mem hi)
 rw[befB_get hi]
 unfold need
 split
 ·simp
 ·refine Nat.le_trans ?_ hl
  rw[List.length_flatMap]
  generalize d.bls[i].c.ins=q
  induction q with
  |nil=>simp
  |cons s q ih=>
   rw[List.map_cons,List.sum_cons,List.length_cons]
   have:(nee1 (sigs d.c) d.ins.length s).length≤1:=by unfold nee1;split<;>simp
   omega
def lpM (ca:Option Addr)(from_ N:Nat)(s:List Bool):Mem:=[(1,⟨true,[.v (.pointer ca)],97⟩),(2,⟨true,[nC from_],3⟩),(3,⟨true,[.sl 5 0 N 1],162⟩),(5,⟨false,s.map bC,4⟩),(4,⟨true,[.fn 170 [(1,0),(2,0),(3,0),(4,0)]],161⟩)]
theorem lpM_cl (ca:Option Addr)(from_ N:Nat)(s:List Bool):ClM (lpM ca from_ N s):=ClM.of (by simp only[lpM,List.all_cons,inMV (v_bC _)];rfl)
theorem lp_get (ca:Option Addr)(from_ N:Nat)(s t:List Bool)(n:Nat):Mem.get ([(5,⟨false,t.map bC,4⟩)]++lpM ca from_ N s) n=(lpM ca from_ N t).get n:=by
 simp only[lpM,List.cons_append,List.nil_append,Mem.get_cons]
 by_cases h5:n=5
 ·subst h5;rfl
 ·simp only[if_neg h5]
theorem lp_cl2 (ca:Option Addr)(from_ N:Nat)(s t:List Bool):ClM ([(5,⟨false,t.map bC,4⟩)]++lpM ca from_ N s):=fun β β' hag n b hb=>
 lpM_cl ca from_ N t β β' (fun n hn=>hag n (by rw[lp_get];exact hn)) n b (by rw[←lp_get ca from_ N s t];exact hb)
theorem lp_sub {ca:Option Addr}{from_ N:Nat}{s t:List Bool}{M:Mem}(h:Sub (lpM ca from_ N t) M):Sub ([(5,⟨false,t.map bC,4⟩)]++lpM ca from_ N s) M:=fun n b hb=>h n b (by rw[←lp_get ca from_ N s t];exact hb)
theorem visK_step (g:Nat→List Bool→Bool×List Bool)(from_:Nat)(ks:List Nat)(q:Nat)(h:q<ks.length)(s:List Bool):
  visK g from_ (ks.drop q) s=if ks[q]=from_ then(true,s)else if s.getD ks[q] false=true then visK g from_ (ks.drop (q+1)) s else bif (g ks[q] (s.set ks[q] true)).1 then(true,(g ks[q] (s.set ks[q] true)).2)else visK g from_ (ks.drop (q+1)) (g ks[q] (s.set ks[q] true)).2:=by
 rw[List.drop_eq_getElem_cons h,visK]
 cases hq:g ks[q] (s.set ks[q] true)with
 |mk b s'=>cases b<;>rfl
theorem loopV {H:Hp}{ca:Option Addr}{d:DgL}{bT bC' bM bS:Nat}(k:Ck H (.pointer ca) d bT bC' bM bS)(hl:∀b∈d.bls,b.c.ins.length≤1000000)(from_:Nat)(hf:from_<d.bls.length):∀(f i:Nat) (s:List Bool),i<d.bls.length→s.length=d.bls.length→fre s<f→
  CallX H Tryz.prog 170 [I i,.c (.p 1 0),.c (.p 2 0),.c (.p 3 0),.c (.p 4 0)] (lpM ca from_ d.bls.length s) (fun _:Unit=>Bo (vis (befB d.c) from_ f i s).1) (fun _=>[(5,⟨false,(vis (befB d.c) from_ f i s).2.map bC,4⟩)]) (fun _ _=>True)
 |0,i,s,_,_,h=>by omega
 |f+1,i,s,hi,hs,hfr=>by
  have ih:=loopV k hl from_ hf f
  have hbl:=befB_len hl i hi
  have hblt:=befB_lt d i hi
  have hbv:vis (befB d.c) from_ (f+1) i s=visK (vis (befB d.c) from_ f) from_ (befB d.c i) s:=rfl
  have hgrw:∀k s,k<d.bls.length→s.length=d.bls.length→Grw s (vis (befB d.c) from_ f k s).2:=fun k s hk hs=>vis_grw (befB_lt d) f k s hk hs
  have hbc:=before_ k i hi (hl _ (List.getElem_mem hi))
  generalize hB:befB d.c=B at*
  generalize hN:d.bls.length=N at*
  rw[hbv]
  generalize hg:vis B from_ f=g at*
  refine CallX.mkS Tryz.func170 rfl en170 (by simp[Tryz.ntmps170]) (ClA.of rfl) (fun _=>rfl) (fun _=>rfl) fun C hR hP hH hL=>?_
  have hR:=hR () C hL trivial
  refine Sm.go 100 ?_
  simp(maxSteps:=2000000) only[go_sem,lpM]
  refine CallQ.hr [(1,130)] 131 hbc hH ClM.nil rfl rfl trivial rfl (.inl rfl) ?_
  simp only[Mem.ren,List.map_cons,List.map_nil,renV (v_nC _),V.ren,Cv.ren,rn,Nat.reduceBEq,cond_true,cond_false]
  simp(maxSteps:=2000000) only[go_sem,lpM]
  refine Sm.loopM (M0:=lpM ca from_ N s) (α:={x:Nat×List Bool//x.1≤(B i).length∧x.2.length=N∧fre x.2≤fre s∧visK g from_ (B i) s=visK g from_ ((B i).drop x.1) x.2}) hP (fun x=>[(1,true,.c (.p 1 0)),(2,true,.c (.p 2 0)),(3,true,.c (.p 3 0)),(4,true,.c (.p 4 0)),(11,true,.c (.sl 6 0 (B i).length 1)),(12,true,I (B i).length),(13,true,I x.val.1)])
   (fun x=>bNt 6 (B i)::lpM ca from_ N x.val.2) (fun x=>(B i).length-x.val.1) ⟨(0,s),by simp,hs,Nat.le_refl _,rfl⟩ (fun _=>ClM.of (by simp only[lpM,List.all_cons,inMV (v_bC _),inMV (v_nC _)];rfl)) (fun _=>ClE.of rfl) [(1,1),(2,2),(3,3),(4,4),(5,5),(6,130)] ?_ ?_
  ·exact⟨rfl,⟨⟨rfl,rfl⟩,⟨rfl,rfl⟩,⟨rfl,rfl⟩,⟨rfl,rfl⟩,⟨rfl,rfl⟩,trivial⟩,⟨rfl,rfl,rfl,rfl,rfl,rfl,rfl,trivial⟩,⟨.inr ⟨_,rfl,.inl (renV (v_nC _))⟩,.inr ⟨_,rfl,.inl rfl⟩,.inr ⟨_,rfl,.inl rfl⟩,.inr ⟨_,rfl,.inl rfl⟩,.inr ⟨_,rfl,.inl (renV (v_bC _))⟩,.inr ⟨_,rfl,.inl rfl⟩,trivial⟩⟩
  ·rintro⟨⟨q,t⟩,hq,ht,hfq,hx⟩ J hb
   simp only at hb hq ht hfq hx⊢
   refine Sm.go 150 ?_
   simp(maxSteps:=2000000) only[go_sem,lpM]
   refine mtch (fun hc=>?_) (fun hc=>?_)
   ·have hc:=lt_of_dec hc
    rw[visK_step g from_ (B i) q hc t]at hx
    simp(maxSteps:=2000000) only[go_sem,get_nC hc]
    refine⟨⟨by omega,by omega⟩,?_⟩
    have hk:=hblt (B i)[q] (List.getElem_mem hc)
    generalize (B i)[q]=kk at*
    refine mtch (fun he=>?_) (fun he=>?_)
    ·have he:kk=from_:=by simp at he;omega
     rw[if_pos he]at hx
     rw[hx]at hR
     exact RetQ.of hR rfl scc rvv (lp_sub (SubS.sub ⟨⟨_,rfl,.inl rfl⟩,⟨_,rfl,.inl rfl⟩,⟨_,rfl,.inl rfl⟩,⟨_,rfl,.inl rfl⟩,⟨_,rfl,.inl rfl⟩,trivial⟩)) (lp_cl2 ca from_ N s t) (ClV.of rfl)
    ·have he:¬kk=from_:=by simp at he;omega
     rw[if_neg he]at hx
     have hget:(t.map bC)[kk]?=some (bC (t.getD kk false)):=get_bC (by omega)
     simp(maxSteps:=2000000) only[go_sem,hget]
     refine⟨⟨by omega,by omega⟩,?_⟩
     cases hm:t.getD kk false with
     |true=>
      rw[if_pos hm]at hx
      refine Sm.go 160 ?_
      simp(maxSteps:=2000000) only[go_sem,wS (show q≤1000000000000000000 by omega)]
      exact hb _ _ ⟨(q+1,t),hc,ht,hfq,hx⟩ [(1,1),(2,2),(3,3),(4,4),(5,5),(6,6)] (by simp only;omega) ⟨rfl,⟨⟨rfl,rfl⟩,⟨rfl,rfl⟩,⟨rfl,rfl⟩,⟨rfl,rfl⟩,⟨rfl,rfl⟩,trivial⟩,⟨rfl,rfl,rfl,rfl,rfl,rfl,rfl,trivial⟩,⟨.inr ⟨_,rfl,.inl (renV (v_nC _))⟩,.inr ⟨_,rfl,.inl rfl⟩,.inr ⟨_,rfl,.inl rfl⟩,.inr ⟨_,rfl,.inl rfl⟩,.inr ⟨_,rfl,.inl (renV (v_bC _))⟩,.inr ⟨_,rfl,.inl rfl⟩,trivial⟩⟩
     |false=>
      rw[if_neg (by rw[hm];simp)]at hx
      have hset:(t.map bC).set kk (bC true)=(t.set kk true).map bC:=by rw[List.map_set]
      have hfs:=fre_set t kk (by omega) hm
      have hih:=ih kk (t.set kk true) hk (by rw[List.length_set];exact ht) (by omega)
      have hgr:=hgrw kk (t.set kk true) hk (by rw[List.length_set];exact ht)
      simp(maxSteps:=2000000) only[go_sem,hset,capV]
      have htl:(t.set kk true).length=N:=by rw[List.length_set];exact ht
      have hlt:kk+1≤t.length:=by omega
      refine⟨⟨by omega,by omega⟩,by simp only[List.length_map];omega,?_⟩
      generalize t.set kk true=t' at*
      refine CallQ.hr [(1,1),(2,2),(3,3),(4,4),(5,5)] 170 hih hH (lpM_cl ca from_ N t') rfl rfl ⟨⟨_,rfl,.inl rfl⟩,⟨_,rfl,.inl rfl⟩,⟨_,rfl,.inl rfl⟩,⟨_,rfl,.inl (renV (v_bC _))⟩,⟨_,rfl,.inl rfl⟩,trivial⟩ rfl (.inl rfl) ?_
      simp only[Mem.ren,List.map_cons,List.map_nil,renV (v_bC _),V.ren,Cv.ren,rn,Nat.reduceBEq,cond_true,cond_false]
      refine vv ?_
      have hgl:(g kk t').2.length=N:=by rw[hgr.1];exact htl
      have hgf:=fre_grw hgr
      cases hb2:(g kk t').1 with
      |true=>
       rw[hb2,cond_true]at hx
       rw[hx]at hR
       exact RetQ.of hR rfl scc rvv (lp_sub (SubS.sub ⟨⟨_,rfl,.inl rfl⟩,⟨_,rfl,.inl rfl⟩,⟨_,rfl,.inl rfl⟩,⟨_,rfl,.inl rfl⟩,⟨_,rfl,.inl rfl⟩,trivial⟩)) (lp_cl2 ca from_ N s _) (ClV.of rfl)
      |false=>
       rw[hb2,cond_false]at hx
       refine Sm.go 180 ?_
       simp(maxSteps:=2000000) only[go_sem,wS (show q≤1000000000000000000 by omega)]
       exact hb _ _ ⟨(q+1,(g kk t').2),hc,hgl,by show fre (g kk t').2≤fre s;omega,hx⟩ [(1,1),(2,2),(3,3),(4,4),(5,5),(6,6)] (by simp only;omega) ⟨rfl,⟨⟨rfl,rfl⟩,⟨rfl,rfl⟩,⟨rfl,rfl⟩,⟨rfl,rfl⟩,⟨rfl,rfl⟩,trivial⟩,⟨rfl,rfl,rfl,rfl,rfl,rfl,rfl,trivial⟩,⟨.inr ⟨_,rfl,.inl (renV (v_nC _))⟩,.inr ⟨_,rfl,.inl rfl⟩,.inr ⟨_,rfl,.inl rfl⟩,.inr ⟨_,rfl,.inl rfl⟩,.inr ⟨_,rfl,.inl (renV (v_bC _))⟩,.inr ⟨_,rfl,.inl rfl⟩,trivial⟩⟩
   ·have hc:=eq_of_dec hq hc
    rw[hc,List.drop_length]at hx
    have hx:visK g from_ (B i) s=(false,t):=hx
    rw[hx]at hR
    exact RetQ.of hR rfl scc rvv (lp_sub (SubS.sub ⟨⟨_,rfl,.inl rfl⟩,⟨_,rfl,.inl rfl⟩,⟨_,rfl,.inl rfl⟩,⟨_,rfl,.inl rfl⟩,⟨_,rfl,.inl rfl⟩,trivial⟩)) (lp_cl2 ca from_ N s t) (ClV.of rfl)
theorem rep_bC (N:Nat):(tkOf N []).map bC=(List.replicate N false).map bC:=by
 congr 1
 apply List.ext_getElem?
 intro j
 rw[tkOf,List.getElem?_map,List.getElem?_replicate]
 by_cases hj:j<N
 ·rw[List.getElem?_range hj,if_pos hj];rfl
 ·rw[List.getElem?_eq_none (by simp;omega),if_neg hj];rfl
theorem loops_ {H:Hp}{ca:Option Addr}{d:DgL}{bT bC' bM bS:Nat}(k:Ck H (.pointer ca) d bT bC' bM bS)(hl:∀b∈d.bls,b.c.ins.length≤1000000)(i:Nat)(hi:i<d.bls.length):
  CallH H Tryz.prog 104 [.c (.v (.pointer ca)),I i] (Bo (lps (befB d.c) d.bls.length i)):=by
 have hv:=loopV k hl i hi (d.bls.length+1) i (List.replicate d.bls.length false) hi (by simp) (by rw[fre_rep];omega)
 have hn2:=k.n2
 refine CallH.mkS Tryz.func104 rfl en104 (by simp[Tryz.ntmps104]) (ClA.of rfl) fun C hR hP hH hL=>?_
 have hpt:=k.c.p.mono hH
 refine Sm.go 100 ?_
 refine vv ?_
 refine Sm.bringP 1 147 7 hpt rfl rfl (Sm.go 110 ?_)
 simp(maxSteps:=2000000) only[go_sem,reps_bool,rep_bC]
 refine⟨⟨by omega,by omega,by omega⟩,?_⟩
 refine CallQ.hr [(1,100),(2,101),(3,111),(4,112),(5,110)] 170 hv hH (lpM_cl _ _ _ _) rfl rfl ⟨⟨_,rfl,.inr ⟨rfl,[],rfl⟩⟩,⟨_,rfl,.inr ⟨rfl,[],rfl⟩⟩,⟨_,rfl,.inr ⟨rfl,[],rfl⟩⟩,⟨_,rfl,.inl (renV (v_bC _))⟩,⟨_,rfl,.inr ⟨rfl,[],rfl⟩⟩,trivial⟩ rfl (.inl rfl) ?_
 simp only[Mem.ren,List.map_cons,List.map_nil,renV (v_bC _),V.ren,Cv.ren,rn,Nat.reduceBEq,cond_true,cond_false]
 refine vv ?_
 exact RetQ.bool (hR C hL) rfl scc rfl
def lopN (d:Dg):Option Str:=(lopR (befB d) d.bls.length).map fun i=>match d.bls[i]? with
 |some b=>b.nm
 |none=>[]
theorem loop_ {H:Hp}{cp:Value}{d:DgL}{bT bC' bM bS:Nat}(k:Ck H cp d bT bC' bM bS)(hl:∀b∈d.bls,b.c.ins.length≤1000000):
  CallH H Tryz.prog 45 [.c (.v cp)] (osT (lopN d.c)):=by
 have hn2:=k.n2
 have hord:=order_ k hl
 obtain⟨b0,o0,rfl,c0,el0,mk0,hc0,hcc⟩:=PtH.at k.c.p
 have hlps:=fun i hi=>loops_ k hl i hi
 have hbl:d.c.bls.length=d.bls.length:=by simp[DgL.c]
 have hlN:lopN d.c=(lopR (befB d.c) d.bls.length).map fun i=>(d.bls.map (fun b=>b.c.nm)).getD i []:=by
  unfold lopN
  rw[hbl]
  congr 1
  funext i
  have e1:d.c.bls[i]?=(d.bls[i]?).map BlL.c:=by simp[DgL.c]
  rw[e1,List.getD_eq_getElem?_getD,List.getElem?_map]
  cases d.bls[i]?<;>rfl
 rw[hlN]
 have hsz:=rows_len (r:=BlL.r) (k:=6) (fun _=>rfl) d.bls
 generalize befB d.c=B at*
 refine CallH.mkS Tryz.func45 rfl en45 (by simp[Tryz.ntmps45]) (ClA.of rfl) fun C hR hP hH hL=>?_
 have hpt:=k.c.p.mono hH
 refine Sm.go 100 ?_
 refine vv ?_
 refine Sm.dg 100 9 mix ?_
 refine vv ?_
 refine DCallQ.hr [(1,130)] 131 hord hH ClM.nil rfl rfl trivial rfl (.inl rfl) rfl rfl ?_
 simp only[Mem.ren,List.map_cons,List.map_nil,renV (v_nC _),V.ren,Cv.ren,rn,Nat.reduceBEq,cond_true,cond_false]
 refine vv ?_
 refine DOpQ.own 140 (Stp.nilV rfl rfl) ?_
 refine vv ?_
 refine DOpQ.own 140 (Stp.fldV rfl rfl rfl) ?_
 refine vv ?_
 refine DOpQ.own 140 (Stp.fldV rfl rfl rfl) ?_
 refine vv ?_
 refine DOpQ.ownC 140 (fun _=>StpC.ldH (hH _ _ hc0) (hcc 5 _ rfl) rfl rfl rfl) ?_
 have e1:(((ordR B d.bls.length).length:Int)==(d.bls.length:Int))=decide ((ordR B d.bls.length).length=d.bls.length):=by rw[Bool.eq_iff_iff,beq_iff_eq,decide_eq_true_eq];omega
 simp(maxSteps:=2000000) only[go_sem,e1]
 by_cases he:(ordR B d.bls.length).length=d.bls.length
 ·have hno:lopR B d.bls.length=none:=by unfold lopR;rw[if_pos he]
  rw[hno]at hR
  simp(maxSteps:=2000000) only[go_sem,tru_of he]
  exact RetQ.of (hR C hL) rfl scc rvv (Sub.nil _) ClM.nil (ClV.of rfl)
 ·have hno:lopR B d.bls.length=(List.range d.bls.length).find? (lps B d.bls.length):=by unfold lopR;rw[if_neg he]
  rw[hno]at hR
  simp(maxSteps:=2000000) only[go_sem,fal_of he]
  refine Sm.bringP 1 147 16 hpt rfl rfl (Sm.go 150 ?_)
  refine vv ?_
  refine Sm.bringR 2 53 20 (k.o.bl.mono hH) rfl rfl ?_
  have hl2:(d.bls.map BlL.r).length=d.bls.length:=List.length_map _
  rw[hl2]
  refine Sm.loopM (M0:=[]) (α:={i:Nat//i≤d.bls.length∧∀q,q<i→lps B d.bls.length q=false}) hP (fun i=>[(0,true,.c (.v (.pointer (some ⟨b0,o0,none⟩)))),(20,true,.c (.sl 2 0 d.bls.length 6)),(21,true,I d.bls.length),(22,true,I i.val)])
   (fun _=>[(2,⟨true,rowsC (d.bls.map BlL.r),53⟩)]) (fun i=>d.bls.length-i.val) ⟨0,by omega,fun q h=>by omega⟩ (fun _=>ClM.of (by simp only[List.all_cons,inMV (rowsC_isV _)];rfl)) (fun _=>ClE.of rfl) [(2,2)] ?_ ?_
  ·exact⟨rfl,trivial,⟨rfl,rfl,rfl,rfl,trivial⟩,⟨.inr ⟨_,rfl,.inl (renV (rowsC_isV _))⟩,trivial⟩⟩
  ·rintro⟨i,hi,hq⟩ J hb
   simp only at hb hi hq⊢
   refine Sm.go 160 ?_
   refine vv ?_
   refine mtch (fun hc=>?_) (fun hc=>?_)
   ·have hc:=lt_of_dec hc
    have htk:=rows_take (r:=BlL.r) (k:=6) (fun _=>rfl) d.bls i hc
    simp only[htk,hsz]
    refine⟨⟨by omega,by omega⟩,by omega,?_⟩
    refine vv ?_
    refine CallQ.h 170 (hlps i hc) hH rfl ?_
    refine vv ?_
    cases hlp:lps B d.bls.length i with
    |true=>
     have hfd:(List.range d.bls.length).find? (lps B d.bls.length)=some i:=by
      rw[List.find?_range_eq_some]
      exact⟨hlp,List.mem_range.2 hc,fun j hj=>by rw[hq j hj];rfl⟩
     have hget:(d.bls.map (fun b=>b.c.nm)).getD i []=d.bls[i].c.nm:=by
      rw[List.getD_eq_getElem?_getD,List.getElem?_map,List.getElem?_eq_getElem hc];rfl
     rw[hfd,Option.map_some,hget]at hR
     exact RetQ.of (hR C hL) rfl scc rvv (Sub.nil _) ClM.nil (ClV.of rfl)
    |false=>
     refine Sm.go 180 ?_
     simp(maxSteps:=2000000) only[go_sem,wS (show i≤1000000000000000000 by omega)]
     refine hb _ _ ⟨i+1,hc,fun q h=>?_⟩ [(2,2)] (by simp only;omega) ⟨rfl,trivial,⟨rfl,rfl,rfl,rfl,trivial⟩,⟨.inr ⟨_,rfl,.inl (renV (rowsC_isV _))⟩,trivial⟩⟩
     rcases Nat.lt_or_ge q i with h'|h'
     ·exact hq q h'
     ·rw[show q=i by omega];exact hlp
   ·have hc:=eq_of_dec hi hc
    have hfd:(List.range d.bls.length).find? (lps B d.bls.length)=none:=by
     rw[List.find?_eq_none]
     intro j hj
     rw[hq j (by rw[hc];exact List.mem_range.1 hj)];simp
    rw[hfd]at hR
    exact RetQ.of (hR C hL) rfl scc rvv (Sub.nil _) ClM.nil (ClV.of rfl)
end Go.Proofs.YtkciabfilokfiaaGreat.Fx
