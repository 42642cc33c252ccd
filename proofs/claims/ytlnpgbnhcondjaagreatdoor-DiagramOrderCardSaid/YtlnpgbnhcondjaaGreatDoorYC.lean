/-  -/
import Derived.Test.YtlnpgbnhcondjaaGreatDoorTf
import Derived.Test.YtlnpgbnhcondjaaGreatDoorY8
import Derived.Test.YtlnpgbnhcondjaaGreatDoorU1
import Derived.Test.YtlnpgbnhcondjaaGreatDoorQ4
namespace Go.Proofs.YtlnpgbnhcondjaaGreatDoor.Fx
open Vg Tf
set_option linter.unusedSimpArgs false
set_option linter.unusedVariables false
set_option maxRecDepth 100000
set_option maxHeartbeats 4000000
theorem callX_below {H:Hp}{P:Program}{f:FuncId}{args:List V}{α:Type}{v:α→V}{Q:α→Prop}(he:Enters P f)
  (h:∀β w,(∀b o,H b o→w.heap[b]?=some o)→Calls P f (args.map (V.g β)).toArray w fun en w'=>∃x,(∀β'',en= .returned ((v x).g β''))∧RowKit.Below w.heap.size w w'∧Q x):CallX H P f args [] v (fun _=>[]) (fun x _=>Q x):=by
 refine⟨he,fun _ n b hn=>(by cases hn),fun _ n b b' hn=>(by cases hn),fun β w Z hm hH hZ=>(h β w fun b o hb=>(hH b o hb).1).mono ?_⟩
 rintro en w' ⟨x,hx,hb,hq⟩
 refine⟨x,β,fun _ _=>False,Agree.refl _ _,fun β'' _=>hx β'',⟨fun β' _ n b hn=>(by cases hn),fun n b hn=>(by cases hn),fun n m b b' hn=>(by cases hn)⟩,⟨hb.os,hb.tape,hb.output,hb.size,fun k _ hk=>hb.block k hk⟩,fun n hn=>(by cases hn),fun _ _ hf=>hf.elim,hq⟩
theorem below_bytes (w:World)(e:TypeId)(s:ByteArray):RowKit.Below w.heap.size w (Lib.bytesWorld w e s):=
 ⟨rfl,rfl,rfl,by rw[Lib.bytesWorld_size];omega,fun k hk=>Lib.bytesWorld_at_old w e s k hk⟩
theorem _root_.Go.Proofs.YtlnpgbnhcondjaaGreatDoor.Vg.Sm.neqI {P:Program}{nt:Nat}{C:Cx}{rg:Array Oper}{o:Oper}{l:List Oper}{r:List It}{e:Env}{M:Mem}{x:Operand}{t1 t2:TypeId}{v:Value}(b:Bool)(hg:gd rg e o=some true)(hd:dstOk nt o.dst=true)(ho:o.op= .binOp .neq t1 x (.const .nilIface) t2)
  (hx:rd e x=some (true,.c (.v v))) (hu:P.underlying t1=some (.interface (P.methodsAt t1))) (hv:(b=false∧v= .nilIface)∨(b=true∧∃u z,v= .iface u z))
  (h:Sm P nt C (.ops rg l::r) (e.put o.dst true (.c (.v (.bool b)))) M):Sm P nt C (.ops rg (o::l)::r) e M:=fun β a w h1 h2 h3 h4=>by
 have hw:Region.wanted o (yielded rg a.tmps)=true:=gd_ok (β:=β) hg (fun j want t y _ _ hy=>h2 β (Agree.refl _ _) t y hy)
 have ex:a.eval x=v:=by
  have:=rd_ok h2 (Agree.refl _ _) hx
  simpa[gv,V.g,Cv.g]using this
 have ey:a.eval (.const .nilIface)= .nilIface:=rfl
 have hrun:(execOp a.eval o).run P w= .ok (.value (.bool b)) w:=by
  rcases hv with⟨rfl,rfl⟩|⟨rfl,u,z,rfl⟩
  ·unfold execOp
   have hq:=fun w=>run_equal_nil_nil (P:=P) w t1 hu
   simp[ho,ex,ey,eqGuard,binOp,hq]
  ·unfold execOp
   have hq:=fun w=>run_equal_held_nil (P:=P) w t1 u z hu
   simp[ho,ex,ey,eqGuard,binOp,hq]
 show wpListIn (fen C.lp) 0 P rg (cont P C.lp C.Q r) (o::l) a w
 refine wpListIn_step fun K hK=>?_
 rw[hw]
 simp only[if_true]
 refine Oper.wp_in C.lp (gd_nd hg).1 ?_
 unfold Oper.wp
 rw[hrun]
 refine hK _ _ (h β _ w h1 ?_ ?_ ?_)
 ·exact h2.put (N:=[]) (Agree.refl _ _) h3 (dstOk_lt hd) (fun β'' _=>rfl)
 ·cases o.dst<;>simp[Act.put,h3]
 ·cases o.dst<;>simp[Act.put,h4]
abbrev Wv (v:Value):W:= .c (.v v)
theorem atoi_ok {H:Hp}(s:Str)(hs:s.length≤1000000)(h0:dgT s≠[])(h:(dgT s).all diB=true)(hv: -9223372036854775808≤numV s∧numV s≤9223372036854775807):CallH H Tryz.prog 277 [S s] (.tup [Wi (numV s),Wv .nilIface]):=by
 refine callX_below (Q:=fun _=>True) en277 fun β w _=>?_
 refine(Tryz.strconv_Atoi_ok ⟨s.toArray⟩ (by show s.toArray.size≤_;rw[List.size_toArray];omega) (numV s) (by show Lib.atoiAll s=_;rw[atoi_num h0 h,if_pos hv]) w).mono ?_
 rintro e w' ⟨rfl,hw⟩
 refine⟨(),fun _=>rfl,?_,trivial⟩
 rcases hw with rfl|⟨t,rfl⟩
 ·exact RowKit.Below.refl _ _
 ·exact below_bytes _ _ _
def ErR (H:Hp):Prop:=∃ev el mk,H 6 (.cells #[ev] el mk)∧(ev= .nilIface∨∃te pe,ev= .iface te pe)
theorem atoi_rg {H:Hp}(hE:ErR H)(s:Str)(hs:s.length≤1000000)(h0:dgT s≠[])(h:(dgT s).all diB=true)(hv:¬(-9223372036854775808≤numV s∧numV s≤9223372036854775807)):
  CallX H Tryz.prog 277 [S s] [] (fun x:Nat=> .tup [Wi (Lib.atoiSat s),Wv (.iface 301 (.pointer (some ⟨x,0,none⟩)))]) (fun _=>[]) (fun _ _=>True):=by
 obtain⟨ev,el,mk,hc,hev⟩:=hE
 refine callX_below (Q:=fun _=>True) en277 fun β w hw=>?_
 refine(Tryz.strconv_Atoi_range ⟨s.toArray⟩ (by show s.toArray.size≤_;rw[List.size_toArray];omega) (by show Lib.atoiAll s=_;rw[atoi_num h0 h,if_neg hv]) ev w (by simp[World.cell?,hw _ _ hc]) hev).mono ?_
 rintro e w' ⟨N,rfl,_,_,hb⟩
 exact⟨N,fun _=>rfl,hb,trivial⟩
theorem hlp (l:Str)(h:(l==[])=false):(0:Int)<(l.length:Int):=by
 cases l with
 |nil=>cases h
 |cons a b=>simp only[List.length_cons];omega
theorem apz (s d:Str)(hd:dgT s=d):(dgT s==[]||((dgT s).getD 0 0==48&&decide (1<s.length)))=(bif d==[]then true else bif ((d.getD 0 0).toNat:Int)==48 then decide ((1:Int)<(s.length:Int))else false):=by
 rw[hd]
 have e1:(d.getD 0 0==48)=(((d.getD 0 0).toNat:Int)==48):=by
  rw[Bool.eq_iff_iff,beq_iff_eq,beq_iff_eq]
  constructor
  ·intro h;rw[h];rfl
  ·intro h;exact UInt8.toNat_inj.1 (by show _=48;omega)
 have e2:decide (1<s.length)=decide ((1:Int)<(s.length:Int)):=by rw[decide_eq_decide];omega
 rw[e1,e2]
 cases d==[]<;>cases ((d.getD 0 0).toNat:Int)==48<;>rfl
theorem arp_ {H:Hp}(s:Str)(hE:¬(-9223372036854775808≤numV s∧numV s≤9223372036854775807)→ErR H)(hs:s.length≤1000000):CallH H Tryz.prog 251 [S s] (.tup [Wi (aprQ s).1,Wi (aprQ s).2]):=by
 refine CallH.mkS Tryz.func251 rfl en251 (by simp[Tryz.ntmps251]) (ClA.of rfl) fun C hR hP hH hL=>?_
 have hR0:=hR
 unfold aprQ at hR0
 have hR:=hR0 C hL
 by_cases h24:24<s.length
 ·have h1:decide ((24:Int)<(s.length:Int))=true:=tru_of (by omega)
  rw[if_pos h24]at hR
  refine Sm.go 100 ?_
  simp(maxSteps:=2000000) only[go_sem,h1]
  exact RetQ.of hR rfl scc rvv (Sub.nil _) ClM.nil (ClV.of rfl)
 have h1:decide ((24:Int)<(s.length:Int))=false:=fal_of (by omega)
 simp only[if_neg h24]at hR hR0
 refine Sm.go 100 ?_
 simp(maxSteps:=2000000) only[go_sem,h1]
 have hng:ngB s=bif !s==[]then((s.getD 0 0).toNat:Int)==45 else false:=by
  unfold ngB
  cases s with
  |nil=>rfl
  |cons c r=>
   show(c==45)=((c.toNat:Int)==45)
   rw[Bool.eq_iff_iff,beq_iff_eq,beq_iff_eq]
   constructor
   ·intro h;rw[h];rfl
   ·intro h;exact UInt8.toNat_inj.1 (by show _=45;omega)
 refine⟨fun h=>⟨h,hlp s h⟩,?_⟩
 refine mtch (fun hg=>?_) (fun hg=>?_)
 ·have hng:=hng.trans hg
  have hd:dgT s=s.drop 1:=by unfold dgT;rw[hng];rfl
  have hne:(s==[])=false:=by cases s with|nil=>cases hg|cons=>rfl
  have hl0:=hlp s hne
  have htk:List.take ((s.length:Int)-1).toNat (List.drop 1 s)=s.drop 1:=List.take_of_length_le (by rw[List.length_drop];omega)
  simp only[htk]
  have hz3:=apz s _ hd
  have hdl:(s.drop 1).length≤1000000:=by rw[List.length_drop];omega
  have hnv:numV s=numV s:=rfl
  generalize s.drop 1=d at*
  refine⟨⟨by omega,by omega⟩,?_⟩
  refine⟨fun h=>⟨h,hlp d h⟩,fun h=>⟨h,fun h2=>by rw[h,h2];rfl⟩,?_⟩
  refine mtch (fun hz=>?_) (fun hz=>?_)
  ·rw[if_pos (hz3.trans hz)]at hR
   exact RetQ.of hR rfl scc rvv (Sub.nil _) ClM.nil (ClV.of rfl)
  ·have hdne:dgT s≠[]:=by
    intro e
    have:=hz3.trans hz
    rw[e]at this;cases this
   rw[hd]at hdne
   simp only[if_neg (show ¬(dgT s==[]||((dgT s).getD 0 0==48&&decide (1<s.length)))=true by rw[hz3.trans hz];simp)]at hR hR0
   simp only[hd]at hR hR0
   refine Sm.loopM (M0:=[]) (α:={i:Nat//i≤d.length∧(d.take i).all diB=true}) hP (fun i=>[(0,true,S s),(4,true,S d),(34,true,I d.length),(35,true,I i.val)]) (fun _=>[]) (fun i=>d.length-i.val) ⟨0,by omega,rfl⟩ (fun _=>ClM.nil) (fun _=>ClE.of rfl) [] ?_ ?_
   ·exact⟨rfl,trivial,⟨rfl,rfl,rfl,rfl,trivial⟩,trivial⟩
   ·rintro⟨i,hi,hx⟩ J hb
    simp only at hb hi hx⊢
    refine Sm.go 120 ?_
    refine vv ?_
    refine mtch (fun hc=>?_) (fun hc=>?_)
    ·have hc:=lt_of_dec hc
     have htk:d.take (i+1)=d.take i++[d.getD i 0]:=by rw[List.take_succ_eq_append_getElem hc,List.getD_eq_getElem?_getD,List.getElem?_eq_getElem hc];rfl
     have hmem:d.getD i 0∈d:=by rw[List.getD_eq_getElem?_getD,List.getElem?_eq_getElem hc];exact List.getElem_mem hc
     refine⟨⟨by omega,by omega⟩,fun h=>⟨h,by omega,by omega⟩,?_⟩
     refine mtch (fun hq=>?_) (fun hq=>?_)
     ·have hbad:diB (d.getD i 0)=false:=by
       unfold diB
       generalize (d.getD i 0).toNat=c at hq
       by_cases h48:48≤c
       ·have e1:decide ((c:Int)<48)=false:=fal_of (by omega)
        rw[e1,cond_false]at hq
        have:=of_decide_eq_true hq
        rw[decide_eq_true h48,decide_eq_false (by omega)];rfl
       ·rw[decide_eq_false h48];rfl
      have hall:d.all diB=false:=by rw[List.all_eq_false];exact⟨_,hmem,by rw[hbad];simp⟩
      simp only[hall,if_true]at hR
      exact RetQ.of hR rfl scc rvv (Sub.nil _) ClM.nil (ClV.of rfl)
     ·have hgood:diB (d.getD i 0)=true:=by
       unfold diB
       generalize (d.getD i 0).toNat=c at hq
       by_cases h48:48≤c
       ·have e1:decide ((c:Int)<48)=false:=fal_of (by omega)
        rw[e1,cond_false]at hq
        have:=of_decide_eq_false hq
        rw[decide_eq_true h48,decide_eq_true (by omega)];rfl
       ·have e1:decide ((c:Int)<48)=true:=tru_of (by omega)
        rw[e1,cond_true]at hq;cases hq
      simp only[wS (show i≤1000000000000000000 by omega)]
      exact hb _ _ ⟨i+1,hc,by rw[htk,List.all_append,hx,List.all_cons,hgood];rfl⟩ [] (by simp only;omega) ⟨rfl,trivial,⟨rfl,rfl,rfl,rfl,trivial⟩,trivial⟩
    ·have hc:=eq_of_dec hi hc
     subst hc
     rw[List.take_length]at hx
     simp only[hx,Bool.true_eq_false,if_false]at hR hR0
     by_cases hv: -9223372036854775808≤numV s∧numV s≤9223372036854775807
     ·simp only[if_pos hv]at hR
      refine CallQ.h 130 (atoi_ok (H:=H) s hs (by rw[hd];exact hdne) (by rw[hd];exact hx) hv) hH rfl ?_
      refine vv ?_
      refine Sm.neqI false rfl rfl rfl rfl Tryz.underlying59 (.inl ⟨rfl,rfl⟩) (Sm.go 140 ?_)
      refine vv ?_
      exact RetQ.of hR rfl scc rvv (Sub.nil _) ClM.nil (ClV.of rfl)
     ·simp only[if_neg hv]at hR0
      refine CallQ.x 130 hL (atoi_rg (hE hv) s hs (by rw[hd];exact hdne) (by rw[hd];exact hx) hv) hH (Sub.nil _) ClM.nil (fun _=>Fresh.nil _ _) rfl rfl rfl (fun N Cn H' l1 _ _ _=>?_)
      have hR:=hR0 Cn l1
      refine vv ?_
      refine Sm.neqI true rfl rfl rfl rfl Tryz.underlying59 (.inr ⟨rfl,_,_,rfl⟩) (Sm.go 140 ?_)
      refine vv ?_
      exact RetQ.of hR rfl scc rvv (Sub.nil _) ClM.nil (ClV.of rfl)
 ·have hng:=hng.trans hg
  have hd:dgT s=s:=by unfold dgT;rw[hng];rfl
  have hz3:=apz s _ hd
  have hdl:=hs
  refine⟨fun h=>⟨h,hlp s h⟩,fun h=>⟨h,fun h2=>by rw[h,h2];rfl⟩,?_⟩
  refine mtch (fun hz=>?_) (fun hz=>?_)
  ·rw[if_pos (hz3.trans hz)]at hR
   exact RetQ.of hR rfl scc rvv (Sub.nil _) ClM.nil (ClV.of rfl)
  ·have hdne:dgT s≠[]:=by
    intro e
    have:=hz3.trans hz
    rw[e]at this;cases this
   rw[hd]at hdne
   simp only[if_neg (show ¬(dgT s==[]||((dgT s).getD 0 0==48&&decide (1<s.length)))=true by rw[hz3.trans hz];simp)]at hR hR0
   simp only[hd]at hR hR0
   refine Sm.loopM (M0:=[]) (α:={i:Nat//i≤s.length∧(s.take i).all diB=true}) hP (fun i=>[(0,true,S s),(4,true,S s),(34,true,I s.length),(35,true,I i.val)]) (fun _=>[]) (fun i=>s.length-i.val) ⟨0,by omega,rfl⟩ (fun _=>ClM.nil) (fun _=>ClE.of rfl) [] ?_ ?_
   ·exact⟨rfl,trivial,⟨rfl,rfl,rfl,rfl,trivial⟩,trivial⟩
   ·rintro⟨i,hi,hx⟩ J hb
    simp only at hb hi hx⊢
    refine Sm.go 120 ?_
    refine vv ?_
    refine mtch (fun hc=>?_) (fun hc=>?_)
    ·have hc:=lt_of_dec hc
     have htk:s.take (i+1)=s.take i++[s.getD i 0]:=by rw[List.take_succ_eq_append_getElem hc,List.getD_eq_getElem?_getD,List.getElem?_eq_getElem hc];rfl
     have hmem:s.getD i 0∈s:=by rw[List.getD_eq_getElem?_getD,List.getElem?_eq_getElem hc];exact List.getElem_mem hc
     refine⟨⟨by omega,by omega⟩,fun h=>⟨h,by omega,by omega⟩,?_⟩
     refine mtch (fun hq=>?_) (fun hq=>?_)
     ·have hbad:diB (s.getD i 0)=false:=by
       unfold diB
       generalize (s.getD i 0).toNat=c at hq
       by_cases h48:48≤c
       ·have e1:decide ((c:Int)<48)=false:=fal_of (by omega)
        rw[e1,cond_false]at hq
        have:=of_decide_eq_true hq
        rw[decide_eq_true h48,decide_eq_false (by omega)];rfl
       ·rw[decide_eq_false h48];rfl
      have hall:s.all diB=false:=by rw[List.all_eq_false];exact⟨_,hmem,by rw[hbad];simp⟩
      simp only[hall,if_true]at hR
      exact RetQ.of hR rfl scc rvv (Sub.nil _) ClM.nil (ClV.of rfl)
     ·have hgood:diB (s.getD i 0)=true:=by
       unfold diB
       generalize (s.getD i 0).toNat=c at hq
       by_cases h48:48≤c
       ·have e1:decide ((c:Int)<48)=false:=fal_of (by omega)
        rw[e1,cond_false]at hq
        have:=of_decide_eq_false hq
        rw[decide_eq_true h48,decide_eq_true (by omega)];rfl
       ·have e1:decide ((c:Int)<48)=true:=tru_of (by omega)
        rw[e1,cond_true]at hq;cases hq
      simp only[wS (show i≤1000000000000000000 by omega)]
      exact hb _ _ ⟨i+1,hc,by rw[htk,List.all_append,hx,List.all_cons,hgood];rfl⟩ [] (by simp only;omega) ⟨rfl,trivial,⟨rfl,rfl,rfl,rfl,trivial⟩,trivial⟩
    ·have hc:=eq_of_dec hi hc
     subst hc
     rw[List.take_length]at hx
     simp only[hx,Bool.true_eq_false,if_false]at hR hR0
     by_cases hv: -9223372036854775808≤numV s∧numV s≤9223372036854775807
     ·simp only[if_pos hv]at hR
      refine CallQ.h 130 (atoi_ok (H:=H) s hs (by rw[hd];exact hdne) (by rw[hd];exact hx) hv) hH rfl ?_
      refine vv ?_
      refine Sm.neqI false rfl rfl rfl rfl Tryz.underlying59 (.inl ⟨rfl,rfl⟩) (Sm.go 140 ?_)
      refine vv ?_
      exact RetQ.of hR rfl scc rvv (Sub.nil _) ClM.nil (ClV.of rfl)
     ·simp only[if_neg hv]at hR0
      refine CallQ.x 130 hL (atoi_rg (hE hv) s hs (by rw[hd];exact hdne) (by rw[hd];exact hx) hv) hH (Sub.nil _) ClM.nil (fun _=>Fresh.nil _ _) rfl rfl rfl (fun N Cn H' l1 _ _ _=>?_)
      have hR:=hR0 Cn l1
      refine vv ?_
      refine Sm.neqI true rfl rfl rfl rfl Tryz.underlying59 (.inr ⟨rfl,_,_,rfl⟩) (Sm.go 140 ?_)
      refine vv ?_
      exact RetQ.of hR rfl scc rvv (Sub.nil _) ClM.nil (ClV.of rfl)
theorem num_ {H:Hp}(s:Str)(hE:¬(-9223372036854775808≤numV s∧numV s≤9223372036854775807)→ErR H)(hs:s.length≤1000000):CallH H Tryz.prog 266 [S s] (.tup [Wi (nmbQ s).1,Wi (nmbQ s).2]):=by
 have ha:=arp_ s hE hs
 refine CallH.mkS Tryz.func266 rfl en266 (by simp[Tryz.ntmps266]) (ClA.of rfl) fun C hR hP hH hL=>?_
 have hR:=hR C hL
 unfold nmbQ at hR
 generalize aprQ s=r at*
 obtain⟨n,e⟩:=r
 simp only at ha hR
 refine Sm.go 100 ?_
 refine vv ?_
 refine CallQ.h 110 ha hH rfl ?_
 refine vv ?_
 cases he:e==0 with
 |false=>
  have hne:e≠0:=fun h=>by rw[h]at he;cases he
  simp only[hne,ne_eq,not_false_eq_true,if_true]at hR
  simp(maxSteps:=2000000) only[go_sem,he,bne]
  exact RetQ.of hR rfl scc rvv (Sub.nil _) ClM.nil (ClV.of rfl)
 |true=>
  have h0:e=0:=eq_of_beq he
  simp only[h0,ne_eq,not_true_eq_false,if_false]at hR
  simp(maxSteps:=2000000) only[go_sem,he,bne]
  refine mtch (fun hq=>?_) (fun hq=>?_)
  ·have hb:1099511627776<n∨n< -1099511627776:=by
    by_cases h1:1099511627776<n
    ·exact .inl h1
    ·rw[decide_eq_false h1,cond_false]at hq;exact .inr (of_decide_eq_true hq)
   simp only[if_pos hb]at hR
   exact RetQ.of hR rfl scc rvv (Sub.nil _) ClM.nil (ClV.of rfl)
  ·have hb:¬(1099511627776<n∨n< -1099511627776):=by
    by_cases h1:1099511627776<n
    ·rw[decide_eq_true h1,cond_true]at hq;cases hq
    ·rw[decide_eq_false h1,cond_false]at hq
     have:=of_decide_eq_false hq
     omega
   simp only[if_neg hb]at hR
   exact RetQ.of hR rfl scc rvv (Sub.nil _) ClM.nil (ClV.of rfl)
def gdN (s:Str):Prop:=s.length≤1000000∧ -9223372036854775808≤numV s∧numV s≤9223372036854775807
theorem _root_.Go.Proofs.YtlnpgbnhcondjaaGreatDoor.Vg.CallX.toOk {P:Program}{f:FuncId}{args:List V}{M N:Mem}{v:V}{Q:Unit→Hp→Prop}(h:CallX (fun _ _=>False) P f args M (fun _:Unit=>v) (fun _=>N) Q):CallOk P f args M v N:=by
 obtain⟨h1,h2,h3,h4⟩:=h
 refine⟨h1,h2 (),h3 (),fun β w hm=>(h4 β w (fun _=>False) hm (fun _ _ h=>h.elim) (fun _ h=>h.elim)).mono ?_⟩
 rintro en w' ⟨_,β',H',k1,k2,k3,k4,k5,_⟩
 exact⟨β',k1,k2,k3,k4,k5⟩
theorem numG_ {s:Str}(h:gdN s):CallOk Tryz.prog 266 [S s] [] (.tup [Wi (nmbQ s).1,Wi (nmbQ s).2]) []:=(num_ s (fun hn=>absurd h.2 hn) h.1).toOk
def cpf (l:List UInt8):List UInt8×Bool:=match l with
 |[]=>([],false)
 |x::r=>if x=45 then(r,true)else(x::r,false)
theorem hasPre (l:List UInt8):CallOk Tryz.prog 52 [S l,S [45]] [] (Bo (cpf l).2) []:=by
 refine CallOk.mkN 100 Tryz.func52 rfl en52 (by simp[Tryz.ntmps52]) (ClA.of rfl) rfl rfl fun C hR hP=>?_
 simp(maxSteps:=2000000) only[go_sem,List.length_cons,List.length_nil]
 refine⟨fun h=>⟨h,h,of_decide_eq_true h⟩,RetQ.bool hR rfl ⟨rfl,trivial⟩ ?_⟩
 cases l with
 |nil=>rfl
 |cons x l=>
  have h1:decide ((1:Int)≤((x::l).length:Int))=true:=tru_of (by simp;omega)
  rw[h1]
  by_cases hx:x=45
  ·simp[cpf,hx]
  ·simp[cpf,hx]
theorem cutPre1 (l:List UInt8):CallOk Tryz.prog 276 [S l,S [45]] [] (.tup [Ws (cpf l).1,Wb1 (cpf l).2]) []:=by
 refine CallOk.mkN 100 Tryz.func276 rfl en276 (by simp[Tryz.ntmps276]) (ClA.of rfl) rfl rfl fun C hR hP=>?_
 refine vv ?_
 refine CallQ.pure 110 (hasPre l) rfl ?_
 refine vv ?_
 refine mtch (fun h=>?_) (fun h=>?_)
 ·have h:(cpf l).2=false:=by simpa using h
  have e:(cpf l).1=l:=by
   cases l with
   |nil=>rfl
   |cons x l=>
    unfold cpf at h⊢
    simp only at h⊢
    split
    ·rename_i hx;rw[if_pos hx]at h;cases h
    ·rfl
  rw[h,e]at hR
  exact RetQ.of hR rfl ⟨rfl,rfl,trivial⟩ rfl (Sub.nil _) ClM.nil (ClV.of rfl)
 ·have h:(cpf l).2=true:=by simpa using h
  obtain⟨x,r,rfl⟩:∃x r,l=x::r:=by
   cases l with
   |nil=>cases h
   |cons x r=>exact⟨x,r,rfl⟩
  have e:(cpf (x::r)).1=r:=by
   unfold cpf at h⊢
   simp only at h⊢
   split
   ·rfl
   ·rename_i hx;rw[if_neg hx]at h;cases h
  rw[h,e]at hR
  simp(maxSteps:=2000000) only[go_sem,List.length_cons,List.length_nil]
  refine⟨⟨by omega,by omega⟩,?_⟩
  refine RetQ.of hR rfl ⟨rfl,rfl,trivial⟩ ?_ (Sub.nil _) ClM.nil (ClV.of rfl)
  simp[V.toW,W.toV]
theorem cutPre (l:List UInt8):CallOk Tryz.prog 250 [S l,S [45]] [] (.tup [Ws (cpf l).1,Wb1 (cpf l).2]) []:=by
 refine CallOk.mkN 100 Tryz.func250 rfl en250 (by simp[Tryz.ntmps250]) (ClA.of rfl) rfl rfl fun C hR hP=>?_
 refine vv ?_
 refine CallQ.pure 110 (cutPre1 l) rfl ?_
 refine vv ?_
 exact RetQ.of hR rfl ⟨rfl,rfl,trivial⟩ rfl (Sub.nil _) ClM.nil (ClV.of rfl)
theorem cpf_eq (s:Str):cpf s=(dgT s,ngB s):=by
 cases s with
 |nil=>rfl
 |cons c r=>
  unfold cpf dgT ngB
  by_cases h:c=45
  ·subst h;rfl
  ·have:(c==45)=false:=by rw[beq_eq_false_iff_ne];exact h
   show(if c=45 then _ else _)=_
   rw[if_neg h]
   show _=(bif c==45 then _ else _,c==45)
   rw[this];rfl
theorem canon_ (s:Str):CallOk Tryz.prog 188 [S s] [] (Bo (canQ s)) []:=by
 have hc:=cutPre s
 rw[cpf_eq]at hc
 refine CallOk.mkN 100 Tryz.func188 rfl en188 (by simp[Tryz.ntmps188]) (ClA.of rfl) rfl rfl fun C hR hP=>?_
 refine vv ?_
 refine CallQ.pure 110 hc rfl ?_
 refine vv ?_
 refine⟨fun h=>⟨h,hlp _ h⟩,fun h=>⟨h,fun h2=>by rw[h,h2];rfl⟩,fun h=>⟨h,fun h2=>by rw[h,h2];rfl⟩,RetQ.bool hR rfl ⟨rfl,trivial⟩ ?_⟩
 unfold canQ
 have e1:((dgT s).getD 0 0==48)=((((dgT s).getD 0 0).toNat:Int)==48):=by
  rw[Bool.eq_iff_iff,beq_iff_eq,beq_iff_eq]
  constructor
  ·intro h;rw[h];rfl
  ·intro h;exact UInt8.toNat_inj.1 (by show _=48;omega)
 have e2:decide ((dgT s).length=1)=(((dgT s).length:Int)==1):=by
  rw[Bool.eq_iff_iff,beq_iff_eq,decide_eq_true_eq];omega
 rw[e1,e2,bne]
 cases dgT s==[]<;>cases (((dgT s).getD 0 0).toNat:Int)==48<;>cases ((dgT s).length:Int)==1<;>cases ngB s<;>rfl
theorem great_ {H:Hp}(s:Str)(hE:¬(-9223372036854775808≤numV s∧numV s≤9223372036854775807)→ErR H)(hs:s.length≤1000000):CallH H Tryz.prog 189 [S s] (Bo (grtQ s)):=by
 have ha:=arp_ s hE hs
 refine CallH.mkS Tryz.func189 rfl en189 (by simp[Tryz.ntmps189]) (ClA.of rfl) fun C hR hP hH hL=>?_
 have hR:=hR C hL
 unfold grtQ at hR
 generalize aprQ s=r at*
 obtain⟨n,e⟩:=r
 simp only at ha hR
 refine Sm.go 100 ?_
 refine vv ?_
 refine CallQ.h 110 ha hH rfl ?_
 refine vv ?_
 refine RetQ.bool hR rfl ⟨rfl,trivial⟩ ?_
 rw[bne]
 cases e==0<;>cases decide (1099511627776<n)<;>cases decide (n< -1099511627776)<;>rfl
theorem symB8:∀n:Fin 256,decide ((0:Int)≤Lib.indexByte symL (UInt8.ofNat n.val))=symL.contains (UInt8.ofNat n.val):=by decide+kernel
theorem symB (c:UInt8):decide ((0:Int)≤Lib.indexByte symL c)=symL.contains c:=by
 have h:=symB8 ⟨c.toNat,c.toNat_lt⟩
 simpa using h
theorem ixB (l:Str)(c:UInt8):CallOk Tryz.prog 30 [S l,Y c.toNat] [] (I (Lib.indexByte l c)) []:=by
 refine CallOk.mkN 100 Tryz.func30 rfl en30 (by simp[Tryz.ntmps30]) (ClA.of rfl) rfl rfl fun C hR hP=>?_
 refine vv ?_
 refine CallQ.pure 110 (ixByte l c) rfl ?_
 refine vv ?_
 exact RetQ.of hR rfl ⟨rfl,trivial⟩ rfl (Sub.nil _) ClM.nil (ClV.of rfl)
theorem run_eq (p:UInt8→Bool)(s:Str)(k:Nat):runN p s k=run1 p s k:=rfl
theorem u8e (c:UInt8)(n:Nat)(h:n<256):((c.toNat:Int)==(n:Int))=(c==UInt8.ofNat n):=by
 rw[Bool.eq_iff_iff,beq_iff_eq,beq_iff_eq]
 constructor
 ·intro e
  apply UInt8.toNat_inj.1
  rw[UInt8.toNat_ofNat_of_lt' h];omega
 ·intro e;rw[e,UInt8.toNat_ofNat_of_lt' h]
theorem scan_ {H:Hp}(hE:ErR H)(l:Str)(hl:l.length≤100000)(k:Nat)(hk:k<l.length):CallH H Tryz.prog 67 [S l,I k] (.tup [Wi ((scnQ l k).1:Int),Wi ((scnQ l k).2.1:Int),Wi (scnQ l k).2.2]):=by
 refine CallH.mkS Tryz.func67 rfl en67 (by simp[Tryz.ntmps67]) (ClA.of rfl) fun C hR hP hH hL=>?_
 have hR:=hR C hL
 unfold scnQ at hR
 have hle:=letter_ (l.getD k 0)
 have hdi:=digit_ (l.getD k 0)
 have hix:=ixB symL (l.getD k 0)
 have hri:=run_ l k (by omega) (by omega) 186 inB inner_
 rw[run_eq]at hri
 have hb:=u8e (l.getD k 0) 32 (by decide)
 have ht:=u8e (l.getD k 0) 9 (by decide)
 have hm:=u8e (l.getD k 0) 45 (by decide)
 generalize hc:l.getD k 0=c at*
 refine Sm.go 100 ?_
 simp(maxSteps:=2000000) only[go_sem,hc]
 refine⟨⟨by omega,by omega⟩,?_⟩
 refine mtch (fun hq=>?_) (fun hq=>?_)
 ·have h0:c=32∨c=9:=by
   have q1:((c.toNat:Int)==32)=(c==32):=hb
   have q2:((c.toNat:Int)==9)=(c==9):=ht
   rw[q1,q2]at hq
   cases h1:c==32 with
   |true=>exact .inl (eq_of_beq h1)
   |false=>rw[h1,cond_false]at hq;exact .inr (eq_of_beq hq)
  simp only[if_pos h0]at hR
  exact RetQ.of hR rfl scc rvv (Sub.nil _) ClM.nil (ClV.of rfl)
 have h0:¬(c=32∨c=9):=by
  have q1:((c.toNat:Int)==32)=(c==32):=hb
  have q2:((c.toNat:Int)==9)=(c==9):=ht
  rw[q1,q2]at hq
  rintro(rfl|rfl)<;>cases hq
 simp only[if_neg h0]at hR
 refine CallQ.pure 110 hle rfl ?_
 simp(maxSteps:=2000000) only[go_sem,hc]
 cases hlc:leB c with
 |true=>
  simp only[hlc,if_true]at hR
  simp(maxSteps:=2000000) only[go_sem,hc]
  refine CallQ.pure 120 hri rfl ?_
  simp(maxSteps:=2000000) only[go_sem,hc]
  refine mtch (fun hq=>?_) (fun hq=>?_)
  ·have h1:24<run1 inB l k:=by have:=of_decide_eq_true hq;omega
   simp only[if_pos h1]at hR
   exact RetQ.of hR rfl scc rvv (Sub.nil _) ClM.nil (ClV.of rfl)
  ·have h1:¬24<run1 inB l k:=by have:=of_decide_eq_false hq;omega
   simp only[if_neg h1]at hR
   exact RetQ.of hR rfl scc rvv (Sub.nil _) ClM.nil (ClV.of rfl)
 |false=>
  simp only[hlc,Bool.false_eq_true,if_false]at hR
  simp(maxSteps:=2000000) only[go_sem,hc]
  have w1:IntKind.i64.wrap ((k:Int)+1)=((k+1:Nat):Int):=wS (by omega)
  refine CallQ.pure 120 hdi rfl ?_
  simp(maxSteps:=2000000) only[go_sem,hc,w1]
  have hg:∀b d e:Bool,(!b&&bif d then e else false)=true→b=false∧d=true∧e=true:=by decide
  refine⟨fun h=>⟨h,fun h2=>by rw[h,h2];rfl⟩,fun h=>⟨h,h,by omega,of_decide_eq_true (hg _ _ _ h).2.2⟩,?_⟩
  refine CallQ.guard 130 (fun _=>digit_ (l.getD (k+1) 0)) (fun h=>by rw[h];rfl) ?_
  simp(maxSteps:=2000000) only[go_sem,hc,w1]
  have hcond:(diB c||(c==45&&(decide (k+1<l.length)&&diB (l.getD (k+1) 0))))=(bif diB c then true else bif (bif ((c.toNat:Int)==45)then decide (((k+1:Nat):Int)<(l.length:Int))else false)then diB (l.getD (k+1) 0)else false):=by
   have q1:((c.toNat:Int)==45)=(c==45):=hm
   have q2:decide (((k+1:Nat):Int)<(l.length:Int))=decide (k+1<l.length):=by rw[decide_eq_decide];omega
   rw[q1,q2]
   cases diB c<;>cases c==45<;>cases decide (k+1<l.length)<;>rfl
  rw[hcond]at hR
  refine⟨fun h=>⟨h,fun h2=>by rw[h,h2];rfl⟩,?_⟩
  refine mtch (fun hq=>?_) (fun hq=>?_)
  ·simp only[hq,if_true]at hR
   have hrd:=run_ l (k+1) (by omega) (by omega) 187 diB digit_
   rw[run_eq]at hrd
   have hrn:run1 diB l (k+1)+(k+1)≤l.length:=by
    unfold run1
    have:=(List.takeWhile_prefix (l:=l.drop (k+1)) diB).length_le
    rw[List.length_drop]at this;omega
   refine CallQ.pure 140 hrd rfl ?_
   generalize run1 diB l (k+1)=n at*
   have w2:IntKind.i64.wrap (1+(n:Int))=((1+n:Nat):Int):=by rw[w64 (by omega) (by omega)];omega
   have w3:IntKind.i64.wrap ((k:Int)+((1+n:Nat):Int))=((k+(1+n):Nat):Int):=by rw[w64 (by omega) (by omega)];omega
   simp(maxSteps:=2000000) only[go_sem,hc,w1,w2,w3]
   refine⟨⟨by omega,by omega,by omega⟩,fun h=>⟨h,h,by omega,of_decide_eq_true h⟩,?_⟩
   refine CallQ.guard 150 (fun _=>letter_ (l.getD (k+(1+n)) 0)) (fun h=>by rw[h];rfl) ?_
   have e4:List.take (((k+(1+n):Nat):Int)-(k:Int)).toNat (List.drop k l)=subS2 l k (1+n):=by
    rw[show(((k+(1+n):Nat):Int)-(k:Int)).toNat=1+n by omega];rfl
   simp(maxSteps:=2000000) only[go_sem,hc,w1,w2,w3,e4]
   have hA:∀b d:Bool,(b&&d)=true→b=true:=by decide
   refine⟨fun h=>⟨h,h,by omega,of_decide_eq_true (hA _ _ h)⟩,fun h=>⟨h,fun h2=>by rw[h,h2];rfl⟩,?_⟩
   refine CallQ.guard 160 (fun _=>canon_ (subS2 l k (1+n))) (fun h=>by rw[h];rfl) ?_
   simp(maxSteps:=2000000) only[go_sem,hc,w1,w2,w3,e4]
   have h95:=u8e (l.getD (k+(1+n)) 0) 95 (by decide)
   have hcond2:((decide (k+(1+n)<l.length)&&(leB (l.getD (k+(1+n)) 0)||l.getD (k+(1+n)) 0==95))|| !canQ (subS2 l k (1+n)))=(bif (bif decide (((k+(1+n):Nat):Int)<(l.length:Int))then bif leB (l.getD (k+(1+n)) 0)then true else((l.getD (k+(1+n)) 0).toNat:Int)==95 else false)then true else !canQ (subS2 l k (1+n))):=by
    have q1:(((l.getD (k+(1+n)) 0).toNat:Int)==95)=(l.getD (k+(1+n)) 0==95):=h95
    have q2:decide (((k+(1+n):Nat):Int)<(l.length:Int))=decide (k+(1+n)<l.length):=by rw[decide_eq_decide];omega
    rw[q1,q2]
    cases decide (k+(1+n)<l.length)<;>cases leB (l.getD (k+(1+n)) 0)<;>cases l.getD (k+(1+n)) 0==95<;>cases canQ (subS2 l k (1+n))<;>rfl
   rw[hcond2]at hR
   refine mtch (fun hq2=>?_) (fun hq2=>?_)
   ·simp only[hq2,if_true]at hR
    exact RetQ.of hR rfl scc rvv (Sub.nil _) ClM.nil (ClV.of rfl)
   ·simp only[hq2,Bool.false_eq_true,if_false]at hR
    refine CallQ.h 170 (great_ (subS2 l k (1+n)) (fun _=>hE) (by unfold subS2;rw[List.length_take];omega)) hH rfl ?_
    refine vv ?_
    cases hgr:grtQ (subS2 l k (1+n))with
    |true=>
     simp only[hgr,if_true]at hR
     refine vv ?_
     exact RetQ.of hR rfl scc rvv (Sub.nil _) ClM.nil (ClV.of rfl)
    |false=>
     simp only[hgr,Bool.false_eq_true,if_false]at hR
     refine vv ?_
     exact RetQ.of hR rfl scc rvv (Sub.nil _) ClM.nil (ClV.of rfl)
  ·simp only[hq,Bool.false_eq_true,if_false]at hR
   refine CallQ.pure 140 hix rfl ?_
   simp(maxSteps:=2000000) only[go_sem,hc]
   rw[symB]
   cases hs:symL.contains c with
   |true=>
    simp only[hs,if_true]at hR
    simp(maxSteps:=2000000) only[go_sem,hc]
    exact RetQ.of hR rfl scc rvv (Sub.nil _) ClM.nil (ClV.of rfl)
   |false=>
    simp only[hs,Bool.false_eq_true,if_false]at hR
    simp(maxSteps:=2000000) only[go_sem,hc]
    exact RetQ.of hR rfl scc rvv (Sub.nil _) ClM.nil (ClV.of rfl)
end Go.Proofs.YtlnpgbnhcondjaaGreatDoor.Fx
namespace Go.Proofs.YtlnpgbnhcondjaaGreatDoor.Fx
set_option linter.unusedVariables false
theorem run1_le (p:UInt8→Bool)(s:Str)(k:Nat):run1 p s k≤s.length-k:=by
 unfold run1
 have:=(List.takeWhile_prefix (l:=s.drop k) p).length_le
 rw[List.length_drop]at this;exact this
theorem run1_pos {p:UInt8→Bool}{s:Str}{k:Nat}(h:k<s.length)(hp:p (s.getD k 0)=true):1≤run1 p s k:=by
 unfold run1
 rw[List.drop_eq_getElem_cons h,List.takeWhile_cons]
 rw[List.getD_eq_getElem?_getD,List.getElem?_eq_getElem h]at hp
 have hp:p s[k]=true:=hp
 rw[if_pos hp];simp
theorem leB_inB {c:UInt8}(h:leB c=true):inB c=true:=by unfold inB;rw[h];rfl
theorem scn_ok {l:Str}{k:Nat}(h:k<l.length)(he:(scnQ l k).2.2=0):1≤(scnQ l k).2.1∧k+(scnQ l k).2.1≤l.length∧(scnQ l k).1≤3:=by
 unfold scnQ at he⊢
 simp only at he⊢
 by_cases h1:l.getD k 0=32∨l.getD k 0=9
 ·simp only[if_pos h1]at he⊢;omega
 simp only[if_neg h1]at he⊢
 by_cases h2:leB (l.getD k 0)=true
 ·simp only[if_pos h2]at he⊢
  by_cases h3:24<run1 inB l k
  ·simp only[if_pos h3]at he;cases he
  ·simp only[if_neg h3]at he⊢
   have a:=run1_pos h (leB_inB h2)
   have b:=run1_le inB l k
   omega
 simp only[if_neg h2]at he⊢
 by_cases h4:(diB (l.getD k 0)||(l.getD k 0==45&&(decide (k+1<l.length)&&diB (l.getD (k+1) 0))))=true
 ·simp only[if_pos h4]at he⊢
  have b:=run1_le diB l (k+1)
  split at he
  ·cases he
  ·rename_i h5
   rw[if_neg h5]
   split at he
   ·cases he
   ·rename_i h6
    rw[if_neg h6]
    simp only
    omega
 simp only[if_neg h4]at he⊢
 by_cases h7:symL.contains (l.getD k 0)=true
 ·simp only[if_pos h7]at he⊢;omega
 ·simp only[if_neg h7]at he;cases he
theorem scn_num {l:Str}(hl:l.length≤100000){k:Nat}(h:k<l.length)(he:(scnQ l k).2.2=0)(h2:(scnQ l k).1=2):gdN (subS2 l k (scnQ l k).2.1):=by
 have hg:grtQ (subS2 l k (scnQ l k).2.1)=false:=by
  unfold scnQ at he h2⊢
  simp only at he h2⊢
  by_cases h1:l.getD k 0=32∨l.getD k 0=9
  ·simp only[if_pos h1]at h2;cases h2
  simp only[if_neg h1]at he h2⊢
  by_cases h3:leB (l.getD k 0)=true
  ·simp only[if_pos h3]at h2
   split at h2<;>cases h2
  simp only[if_neg h3]at he h2⊢
  by_cases h4:(diB (l.getD k 0)||(l.getD k 0==45&&(decide (k+1<l.length)&&diB (l.getD (k+1) 0))))=true
  ·simp only[if_pos h4]at he h2⊢
   split at he
   ·cases he
   ·rename_i h5
    rw[if_neg h5]
    split at he
    ·cases he
    ·rename_i h6
     rw[if_neg h6]
     simpa using h6
  simp only[if_neg h4]at h2
  split at h2<;>cases h2
 have hlen:(subS2 l k (scnQ l k).2.1).length≤1000000:=by unfold subS2;rw[List.length_take,List.length_drop];omega
 generalize subS2 l k (scnQ l k).2.1=t at*
 refine⟨hlen,?_⟩
 unfold grtQ at hg
 rw[Bool.or_eq_false_iff]at hg
 have ha:(aprQ t).2=0:=by
  have:=hg.1
  simpa using this
 unfold aprQ at ha
 split at ha
 ·cases ha
 ·split at ha
  ·cases ha
  ·split at ha
   ·cases ha
   ·split at ha
    ·rename_i hh;exact hh
    ·cases ha
end Go.Proofs.YtlnpgbnhcondjaaGreatDoor.Fx
