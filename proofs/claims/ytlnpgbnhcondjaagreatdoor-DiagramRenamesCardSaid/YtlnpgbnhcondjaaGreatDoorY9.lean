/-  -/
import Derived.Test.YtlnpgbnhcondjaaGreatDoorPS
import Derived.Test.YtlnpgbnhcondjaaGreatDoorY8
namespace Go.Proofs.YtlnpgbnhcondjaaGreatDoor.Fx
open Vg Tf
set_option linter.unusedSimpArgs false
set_option linter.unusedVariables false
set_option maxRecDepth 100000
set_option maxHeartbeats 4000000
theorem callX_below {H:Hp}{P:Program}{f:FuncId}{args:List V}{α:Type}{v:α→V}{Q:α→Prop}(he:Enters P f)
  (h:∀β w,(∀b o,H b o→w.heap[b]?=some o)→Calls P f (args.map (V.g β)).toArray w fun en w'=>∃x,(∀β'',en= .returned ((v x).g β''))∧RowKit.Below w.heap.size w w'∧Q x):CallX H P f args [] v (fun _=>[]) (fun x _=>Q x):=by
 refine⟨he,fun _ n b hn=>(by cases hn),fun _ n b b' hn=>(by cases hn),fun β w Z hm hH hZ=>(h β w fun b o hb=>(hH b o hb).1).mono ?_⟩
 rintro en w' ⟨x,hx,hb,hq⟩
 refine⟨x,β,fun _ _=>False,Agree.refl _ _,fun β'' _=>hx β'',⟨fun β' _ n b hn=>(by cases hn),fun n b hn=>(by cases hn),fun n m b b' hn=>(by cases hn)⟩,⟨hb.os,hb.tape,hb.output,hb.size,fun k _ hk=>hb.block k hk⟩,fun n hn=>(by cases hn),fun _ _ hf=>hf.elim,hq⟩
theorem below_bytes (w:World)(e:TypeId)(s:ByteArray):RowKit.Below w.heap.size w (Lib.bytesWorld w e s):=
 ⟨rfl,rfl,rfl,by rw[Lib.bytesWorld_size];omega,fun k hk=>Lib.bytesWorld_at_old w e s k hk⟩
theorem _root_.Go.Proofs.YtlnpgbnhcondjaaGreatDoor.Vg.Sm.neqI {P:Program}{nt:Nat}{C:Cx}{rg:Array Oper}{o:Oper}{l:List Oper}{r:List It}{e:Env}{M:Mem}{x:Operand}{t1 t2:TypeId}{v:Value}(b:Bool)(hg:gd rg e o=some true)(hd:dstOk nt o.dst=true)(ho:o.op= .binOp .neq t1 x (.const .nilIface) t2)
  (hx:rd e x=some (true,.c (.v v))) (hu:P.underlying t1=some (.interface (P.methodsAt t1))) (hv:(b=false∧v= .nilIface)∨(b=true∧∃u z,v= .iface u z))
  (h:Sm P nt C (.ops rg l::r) (e.put o.dst true (.c (.v (.bool b)))) M):Sm P nt C (.ops rg (o::l)::r) e M:=fun β a w h1 h2 h3 h4=>by
 have hw:Region.wanted o (yielded rg a.tmps)=true:=gd_ok (β:=β) hg (fun j want t y _ _ hy=>h2 β (Agree.refl _ _) t y hy)
 have ex:a.eval x=v:=by
  have:=rd_ok h2 (Agree.refl _ _) hx
  simpa[gv,V.g,Cv.g]using this
 have ey:a.eval (.const .nilIface)= .nilIface:=rfl
 have hrun:(execOp a.eval o).run P w= .ok (.value (.bool b)) w:=by
  rcases hv with⟨rfl,rfl⟩|⟨rfl,u,z,rfl⟩
  ·unfold execOp
   have hq:=fun w=>run_equal_nil_nil (P:=P) w t1 hu
   simp[ho,ex,ey,eqGuard,binOp,hq]
  ·unfold execOp
   have hq:=fun w=>run_equal_held_nil (P:=P) w t1 u z hu
   simp[ho,ex,ey,eqGuard,binOp,hq]
 show wpListIn (fen C.lp) 0 P rg (cont P C.lp C.Q r) (o::l) a w
 refine wpListIn_step fun K hK=>?_
 rw[hw]
 simp only[if_true]
 refine Oper.wp_in C.lp (gd_nd hg).1 ?_
 unfold Oper.wp
 rw[hrun]
 refine hK _ _ (h β _ w h1 ?_ ?_ ?_)
 ·exact h2.put (N:=[]) (Agree.refl _ _) h3 (dstOk_lt hd) (fun β'' _=>rfl)
 ·cases o.dst<;>simp[Act.put,h3]
 ·cases o.dst<;>simp[Act.put,h4]
abbrev Wv (v:Value):W:= .c (.v v)
theorem atoi_ok {H:Hp}(s:Str)(hs:s.length≤1000000)(h0:dgT s≠[])(h:(dgT s).all diB=true)(hv: -9223372036854775808≤numV s∧numV s≤9223372036854775807):CallH H Tryz.prog 277 [S s] (.tup [Wi (numV s),Wv .nilIface]):=by
 refine callX_below (Q:=fun _=>True) en277 fun β w _=>?_
 refine(Tryz.strconv_Atoi_ok ⟨s.toArray⟩ (by show s.toArray.size≤_;rw[List.size_toArray];omega) (numV s) (by show Lib.atoiAll s=_;rw[atoi_num h0 h,if_pos hv]) w).mono ?_
 rintro e w' ⟨rfl,hw⟩
 refine⟨(),fun _=>rfl,?_,trivial⟩
 rcases hw with rfl|⟨t,rfl⟩
 ·exact RowKit.Below.refl _ _
 ·exact below_bytes _ _ _
def ErR (H:Hp):Prop:=∃ev el mk,H 6 (.cells #[ev] el mk)∧(ev= .nilIface∨∃te pe,ev= .iface te pe)
theorem atoi_rg {H:Hp}(hE:ErR H)(s:Str)(hs:s.length≤1000000)(h0:dgT s≠[])(h:(dgT s).all diB=true)(hv:¬(-9223372036854775808≤numV s∧numV s≤9223372036854775807)):
  CallX H Tryz.prog 277 [S s] [] (fun x:Nat=> .tup [Wi (Lib.atoiSat s),Wv (.iface 301 (.pointer (some ⟨x,0,none⟩)))]) (fun _=>[]) (fun _ _=>True):=by
 obtain⟨ev,el,mk,hc,hev⟩:=hE
 refine callX_below (Q:=fun _=>True) en277 fun β w hw=>?_
 refine(Tryz.strconv_Atoi_range ⟨s.toArray⟩ (by show s.toArray.size≤_;rw[List.size_toArray];omega) (by show Lib.atoiAll s=_;rw[atoi_num h0 h,if_neg hv]) ev w (by simp[World.cell?,hw _ _ hc]) hev).mono ?_
 rintro e w' ⟨N,rfl,_,_,hb⟩
 exact⟨N,fun _=>rfl,hb,trivial⟩
theorem hlp (l:Str)(h:(l==[])=false):(0:Int)<(l.length:Int):=by
 cases l with
 |nil=>cases h
 |cons a b=>simp only[List.length_cons];omega
theorem apz (s d:Str)(hd:dgT s=d):(dgT s==[]||((dgT s).getD 0 0==48&&decide (1<s.length)))=(bif d==[]then true else bif ((d.getD 0 0).toNat:Int)==48 then decide ((1:Int)<(s.length:Int))else false):=by
 rw[hd]
 have e1:(d.getD 0 0==48)=(((d.getD 0 0).toNat:Int)==48):=by
  rw[Bool.eq_iff_iff,beq_iff_eq,beq_iff_eq]
  constructor
  ·intro h;rw[h];rfl
  ·intro h;exact UInt8.toNat_inj.1 (by show _=48;omega)
 have e2:decide (1<s.length)=decide ((1:Int)<(s.length:Int)):=by rw[decide_eq_decide];omega
 rw[e1,e2]
 cases d==[]<;>cases ((d.getD 0 0).toNat:Int)==48<;>rfl
theorem arp_ {H:Hp}(s:Str)(hE:¬(-9223372036854775808≤numV s∧numV s≤9223372036854775807)→ErR H)(hs:s.length≤1000000):CallH H Tryz.prog 251 [S s] (.tup [Wi (aprQ s).1,Wi (aprQ s).2]):=by
 refine CallH.mkS Tryz.func251 rfl en251 (by simp[Tryz.ntmps251]) (ClA.of rfl) fun C hR hP hH hL=>?_
 have hR0:=hR
 unfold aprQ at hR0
 have hR:=hR0 C hL
 by_cases h24:24<s.length
 ·have h1:decide ((24:Int)<(s.length:Int))=true:=tru_of (by omega)
  rw[if_pos h24]at hR
  refine Sm.go 100 ?_
  simp(maxSteps:=2000000) only[go_sem,h1]
  exact RetQ.of hR rfl scc rvv (Sub.nil _) ClM.nil (ClV.of rfl)
 have h1:decide ((24:Int)<(s.length:Int))=false:=fal_of (by omega)
 simp only[if_neg h24]at hR hR0
 refine Sm.go 100 ?_
 simp(maxSteps:=2000000) only[go_sem,h1]
 have hng:ngB s=bif !s==[]then((s.getD 0 0).toNat:Int)==45 else false:=by
  unfold ngB
  cases s with
  |nil=>rfl
  |cons c r=>
   show(c==45)=((c.toNat:Int)==45)
   rw[Bool.eq_iff_iff,beq_iff_eq,beq_iff_eq]
   constructor
   ·intro h;rw[h];rfl
   ·intro h;exact UInt8.toNat_inj.1 (by show _=45;omega)
 refine⟨fun h=>⟨h,hlp s h⟩,?_⟩
 refine mtch (fun hg=>?_) (fun hg=>?_)
 ·have hng:=hng.trans hg
  have hd:dgT s=s.drop 1:=by unfold dgT;rw[hng];rfl
  have hne:(s==[])=false:=by cases s with|nil=>cases hg|cons=>rfl
  have hl0:=hlp s hne
  have htk:List.take ((s.length:Int)-1).toNat (List.drop 1 s)=s.drop 1:=List.take_of_length_le (by rw[List.length_drop];omega)
  simp only[htk]
  have hz3:=apz s _ hd
  have hdl:(s.drop 1).length≤1000000:=by rw[List.length_drop];omega
  have hnv:numV s=numV s:=rfl
  generalize s.drop 1=d at*
  refine⟨⟨by omega,by omega⟩,?_⟩
  refine⟨fun h=>⟨h,hlp d h⟩,fun h=>⟨h,fun h2=>by rw[h,h2];rfl⟩,?_⟩
  refine mtch (fun hz=>?_) (fun hz=>?_)
  ·rw[if_pos (hz3.trans hz)]at hR
   exact RetQ.of hR rfl scc rvv (Sub.nil _) ClM.nil (ClV.of rfl)
  ·have hdne:dgT s≠[]:=by
    intro e
    have:=hz3.trans hz
    rw[e]at this;cases this
   rw[hd]at hdne
   simp only[if_neg (show ¬(dgT s==[]||((dgT s).getD 0 0==48&&decide (1<s.length)))=true by rw[hz3.trans hz];simp)]at hR hR0
   simp only[hd]at hR hR0
   refine Sm.loopM (M0:=[]) (α:={i:Nat//i≤d.length∧(d.take i).all diB=true}) hP (fun i=>[(0,true,S s),(4,true,S d),(34,true,I d.length),(35,true,I i.val)]) (fun _=>[]) (fun i=>d.length-i.val) ⟨0,by omega,rfl⟩ (fun _=>ClM.nil) (fun _=>ClE.of rfl) [] ?_ ?_
   ·exact⟨rfl,trivial,⟨rfl,rfl,rfl,rfl,trivial⟩,trivial⟩
   ·rintro⟨i,hi,hx⟩ J hb
    simp only at hb hi hx⊢
    refine Sm.go 120 ?_
    refine vv ?_
    refine mtch (fun hc=>?_) (fun hc=>?_)
    ·have hc:=lt_of_dec hc
     have htk:d.take (i+1)=d.take i++[d.getD i 0]:=by rw[List.take_succ_eq_append_getElem hc,List.getD_eq_getElem?_getD,List.getElem?_eq_getElem hc];rfl
     have hmem:d.getD i 0∈d:=by rw[List.getD_eq_getElem?_getD,List.getElem?_eq_getElem hc];exact List.getElem_mem hc
     refine⟨⟨by omega,by omega⟩,fun h=>⟨h,by omega,by omega⟩,?_⟩
     refine mtch (fun hq=>?_) (fun hq=>?_)
     ·have hbad:diB (d.getD i 0)=false:=by
       unfold diB
       generalize (d.getD i 0).toNat=c at hq
       by_cases h48:48≤c
       ·have e1:decide ((c:Int)<48)=false:=fal_of (by omega)
        rw[e1,cond_false]at hq
        have:=of_decide_eq_true hq
        rw[decide_eq_true h48,decide_eq_false (by omega)];rfl
       ·rw[decide_eq_false h48];rfl
      have hall:d.all diB=false:=by rw[List.all_eq_false];exact⟨_,hmem,by rw[hbad];simp⟩
      simp only[hall,if_true]at hR
      exact RetQ.of hR rfl scc rvv (Sub.nil _) ClM.nil (ClV.of rfl)
     ·have hgood:diB (d.getD i 0)=true:=by
       unfold diB
       generalize (d.getD i 0).toNat=c at hq
       by_cases h48:48≤c
       ·have e1:decide ((c:Int)<48)=false:=fal_of (by omega)
        rw[e1,cond_false]at hq
        have:=of_decide_eq_false hq
        rw[decide_eq_true h48,decide_eq_true (by omega)];rfl
       ·have e1:decide ((c:Int)<48)=true:=tru_of (by omega)
        rw[e1,cond_true]at hq;cases hq
      simp only[wS (show i≤1000000000000000000 by omega)]
      exact hb _ _ ⟨i+1,hc,by rw[htk,List.all_append,hx,List.all_cons,hgood];rfl⟩ [] (by simp only;omega) ⟨rfl,trivial,⟨rfl,rfl,rfl,rfl,trivial⟩,trivial⟩
    ·have hc:=eq_of_dec hi hc
     subst hc
     rw[List.take_length]at hx
     simp only[hx,Bool.true_eq_false,if_false]at hR hR0
     by_cases hv: -9223372036854775808≤numV s∧numV s≤9223372036854775807
     ·simp only[if_pos hv]at hR
      refine CallQ.h 130 (atoi_ok (H:=H) s hs (by rw[hd];exact hdne) (by rw[hd];exact hx) hv) hH rfl ?_
      refine vv ?_
      refine Sm.neqI false rfl rfl rfl rfl Tryz.underlying59 (.inl ⟨rfl,rfl⟩) (Sm.go 140 ?_)
      refine vv ?_
      exact RetQ.of hR rfl scc rvv (Sub.nil _) ClM.nil (ClV.of rfl)
     ·simp only[if_neg hv]at hR0
      refine CallQ.x 130 hL (atoi_rg (hE hv) s hs (by rw[hd];exact hdne) (by rw[hd];exact hx) hv) hH (Sub.nil _) ClM.nil (fun _=>Fresh.nil _ _) rfl rfl rfl (fun N Cn H' l1 _ _ _=>?_)
      have hR:=hR0 Cn l1
      refine vv ?_
      refine Sm.neqI true rfl rfl rfl rfl Tryz.underlying59 (.inr ⟨rfl,_,_,rfl⟩) (Sm.go 140 ?_)
      refine vv ?_
      exact RetQ.of hR rfl scc rvv (Sub.nil _) ClM.nil (ClV.of rfl)
 ·have hng:=hng.trans hg
  have hd:dgT s=s:=by unfold dgT;rw[hng];rfl
  have hz3:=apz s _ hd
  have hdl:=hs
  refine⟨fun h=>⟨h,hlp s h⟩,fun h=>⟨h,fun h2=>by rw[h,h2];rfl⟩,?_⟩
  refine mtch (fun hz=>?_) (fun hz=>?_)
  ·rw[if_pos (hz3.trans hz)]at hR
   exact RetQ.of hR rfl scc rvv (Sub.nil _) ClM.nil (ClV.of rfl)
  ·have hdne:dgT s≠[]:=by
    intro e
    have:=hz3.trans hz
    rw[e]at this;cases this
   rw[hd]at hdne
   simp only[if_neg (show ¬(dgT s==[]||((dgT s).getD 0 0==48&&decide (1<s.length)))=true by rw[hz3.trans hz];simp)]at hR hR0
   simp only[hd]at hR hR0
   refine Sm.loopM (M0:=[]) (α:={i:Nat//i≤s.length∧(s.take i).all diB=true}) hP (fun i=>[(0,true,S s),(4,true,S s),(34,true,I s.length),(35,true,I i.val)]) (fun _=>[]) (fun i=>s.length-i.val) ⟨0,by omega,rfl⟩ (fun _=>ClM.nil) (fun _=>ClE.of rfl) [] ?_ ?_
   ·exact⟨rfl,trivial,⟨rfl,rfl,rfl,rfl,trivial⟩,trivial⟩
   ·rintro⟨i,hi,hx⟩ J hb
    simp only at hb hi hx⊢
    refine Sm.go 120 ?_
    refine vv ?_
    refine mtch (fun hc=>?_) (fun hc=>?_)
    ·have hc:=lt_of_dec hc
     have htk:s.take (i+1)=s.take i++[s.getD i 0]:=by rw[List.take_succ_eq_append_getElem hc,List.getD_eq_getElem?_getD,List.getElem?_eq_getElem hc];rfl
     have hmem:s.getD i 0∈s:=by rw[List.getD_eq_getElem?_getD,List.getElem?_eq_getElem hc];exact List.getElem_mem hc
     refine⟨⟨by omega,by omega⟩,fun h=>⟨h,by omega,by omega⟩,?_⟩
     refine mtch (fun hq=>?_) (fun hq=>?_)
     ·have hbad:diB (s.getD i 0)=false:=by
       unfold diB
       generalize (s.getD i 0).toNat=c at hq
       by_cases h48:48≤c
       ·have e1:decide ((c:Int)<48)=false:=fal_of (by omega)
        rw[e1,cond_false]at hq
        have:=of_decide_eq_true hq
        rw[decide_eq_true h48,decide_eq_false (by omega)];rfl
       ·rw[decide_eq_false h48];rfl
      have hall:s.all diB=false:=by rw[List.all_eq_false];exact⟨_,hmem,by rw[hbad];simp⟩
      simp only[hall,if_true]at hR
      exact RetQ.of hR rfl scc rvv (Sub.nil _) ClM.nil (ClV.of rfl)
     ·have hgood:diB (s.getD i 0)=true:=by
       unfold diB
       generalize (s.getD i 0).toNat=c at hq
       by_cases h48:48≤c
       ·have e1:decide ((c:Int)<48)=false:=fal_of (by omega)
        rw[e1,cond_false]at hq
        have:=of_decide_eq_false hq
        rw[decide_eq_true h48,decide_eq_true (by omega)];rfl
       ·have e1:decide ((c:Int)<48)=true:=tru_of (by omega)
        rw[e1,cond_true]at hq;cases hq
      simp only[wS (show i≤1000000000000000000 by omega)]
      exact hb _ _ ⟨i+1,hc,by rw[htk,List.all_append,hx,List.all_cons,hgood];rfl⟩ [] (by simp only;omega) ⟨rfl,trivial,⟨rfl,rfl,rfl,rfl,trivial⟩,trivial⟩
    ·have hc:=eq_of_dec hi hc
     subst hc
     rw[List.take_length]at hx
     simp only[hx,Bool.true_eq_false,if_false]at hR hR0
     by_cases hv: -9223372036854775808≤numV s∧numV s≤9223372036854775807
     ·simp only[if_pos hv]at hR
      refine CallQ.h 130 (atoi_ok (H:=H) s hs (by rw[hd];exact hdne) (by rw[hd];exact hx) hv) hH rfl ?_
      refine vv ?_
      refine Sm.neqI false rfl rfl rfl rfl Tryz.underlying59 (.inl ⟨rfl,rfl⟩) (Sm.go 140 ?_)
      refine vv ?_
      exact RetQ.of hR rfl scc rvv (Sub.nil _) ClM.nil (ClV.of rfl)
     ·simp only[if_neg hv]at hR0
      refine CallQ.x 130 hL (atoi_rg (hE hv) s hs (by rw[hd];exact hdne) (by rw[hd];exact hx) hv) hH (Sub.nil _) ClM.nil (fun _=>Fresh.nil _ _) rfl rfl rfl (fun N Cn H' l1 _ _ _=>?_)
      have hR:=hR0 Cn l1
      refine vv ?_
      refine Sm.neqI true rfl rfl rfl rfl Tryz.underlying59 (.inr ⟨rfl,_,_,rfl⟩) (Sm.go 140 ?_)
      refine vv ?_
      exact RetQ.of hR rfl scc rvv (Sub.nil _) ClM.nil (ClV.of rfl)
theorem num_ {H:Hp}(s:Str)(hE:¬(-9223372036854775808≤numV s∧numV s≤9223372036854775807)→ErR H)(hs:s.length≤1000000):CallH H Tryz.prog 266 [S s] (.tup [Wi (nmbQ s).1,Wi (nmbQ s).2]):=by
 have ha:=arp_ s hE hs
 refine CallH.mkS Tryz.func266 rfl en266 (by simp[Tryz.ntmps266]) (ClA.of rfl) fun C hR hP hH hL=>?_
 have hR:=hR C hL
 unfold nmbQ at hR
 generalize aprQ s=r at*
 obtain⟨n,e⟩:=r
 simp only at ha hR
 refine Sm.go 100 ?_
 refine vv ?_
 refine CallQ.h 110 ha hH rfl ?_
 refine vv ?_
 cases he:e==0 with
 |false=>
  have hne:e≠0:=fun h=>by rw[h]at he;cases he
  simp only[hne,ne_eq,not_false_eq_true,if_true]at hR
  simp(maxSteps:=2000000) only[go_sem,he,bne]
  exact RetQ.of hR rfl scc rvv (Sub.nil _) ClM.nil (ClV.of rfl)
 |true=>
  have h0:e=0:=eq_of_beq he
  simp only[h0,ne_eq,not_true_eq_false,if_false]at hR
  simp(maxSteps:=2000000) only[go_sem,he,bne]
  refine mtch (fun hq=>?_) (fun hq=>?_)
  ·have hb:1099511627776<n∨n< -1099511627776:=by
    by_cases h1:1099511627776<n
    ·exact .inl h1
    ·rw[decide_eq_false h1,cond_false]at hq;exact .inr (of_decide_eq_true hq)
   simp only[if_pos hb]at hR
   exact RetQ.of hR rfl scc rvv (Sub.nil _) ClM.nil (ClV.of rfl)
  ·have hb:¬(1099511627776<n∨n< -1099511627776):=by
    by_cases h1:1099511627776<n
    ·rw[decide_eq_true h1,cond_true]at hq;cases hq
    ·rw[decide_eq_false h1,cond_false]at hq
     have:=of_decide_eq_false hq
     omega
   simp only[if_neg hb]at hR
   exact RetQ.of hR rfl scc rvv (Sub.nil _) ClM.nil (ClV.of rfl)
def gdN (s:Str):Prop:=s.length≤1000000∧ -9223372036854775808≤numV s∧numV s≤9223372036854775807
theorem _root_.Go.Proofs.YtlnpgbnhcondjaaGreatDoor.Vg.CallX.toOk {P:Program}{f:FuncId}{args:List V}{M N:Mem}{v:V}{Q:Unit→Hp→Prop}(h:CallX (fun _ _=>False) P f args M (fun _:Unit=>v) (fun _=>N) Q):CallOk P f args M v N:=by
 obtain⟨h1,h2,h3,h4⟩:=h
 refine⟨h1,h2 (),h3 (),fun β w hm=>(h4 β w (fun _=>False) hm (fun _ _ h=>h.elim) (fun _ h=>h.elim)).mono ?_⟩
 rintro en w' ⟨_,β',H',k1,k2,k3,k4,k5,_⟩
 exact⟨β',k1,k2,k3,k4,k5⟩
theorem numG_ {s:Str}(h:gdN s):CallOk Tryz.prog 266 [S s] [] (.tup [Wi (nmbQ s).1,Wi (nmbQ s).2]) []:=(num_ s (fun hn=>absurd h.2 hn) h.1).toOk
end Go.Proofs.YtlnpgbnhcondjaaGreatDoor.Fx
