/-  -/
import Derived.Test.YtlnpgbnhcondjaaGreatDoorPS
import Derived.Test.YtlnpgbnhcondjaaGreatDoorZP
import Derived.Test.YtlnpgbnhcondjaaGreatDoorKU
import Derived.Test.YtlnpgbnhcondjaaGreatDoorU5
namespace Go.Proofs.YtlnpgbnhcondjaaGreatDoor.Fx
open Vg Tf
set_option linter.unusedSimpArgs false
set_option linter.unusedVariables false
set_option maxRecDepth 100000
set_option maxHeartbeats 4000000
def pcB (cm:Str)(fs:List Nat)(i:Nat)(t:Tk):Str:=bif t.k==4 then[32,35]++cm++[10,10,9,35,32]++cm++[10]else filB fs i++t.s
theorem blkT_snoc (cm:Str)(fs:List Nat)(t:Tk):∀(A:List Tk) (k:Nat),blkT cm fs k (A++[t])=blkT cm fs k A++pcB cm fs (k+A.length) t
 |[],k=>by rw[List.nil_append,blkT,blkT,blkT,List.append_nil];rfl
 |a::A,k=>by
  rw[List.cons_append,blkT,blkT_snoc cm fs t A (k+1),blkT,List.length_cons,show k+(A.length+1)=k+1+A.length from by omega]
  simp only[List.append_assoc]
theorem fil_len (fs:List Nat)(i:Nat):1≤(filB fs i).length∧(filB fs i).length≤3:=by
 unfold filB
 have h:fs.getD i 0%4<4:=Nat.mod_lt _ (by decide)
 generalize fs.getD i 0%4=n at h
 match n,h with
 |0,_=>decide
 |1,_=>decide
 |2,_=>decide
 |3,_=>decide
theorem pcB_len (cm:Str)(fs:List Nat)(i:Nat)(t:Tk):(pcB cm fs i t).length≤t.s.length+2*cm.length+8:=by
 unfold pcB
 have:=(fil_len fs i).2
 cases t.k==4 with
 |true=>simp;omega
 |false=>simp;omega
theorem pcB_ne (cm:Str)(fs:List Nat)(i:Nat)(t:Tk):pcB cm fs i t≠[]:=fun h=>by
 unfold pcB at h
 cases hk:t.k==4 with
 |true=>rw[hk]at h;simp at h
 |false=>
  rw[hk]at h
  have:=congrArg List.length h
  have h1:=(fil_len fs i).1
  simp only[cond_false,List.length_append,List.length_nil]at this
  omega
theorem blkT_len (cm:Str)(fs:List Nat):∀(T:List Tk) (k:Nat),(blkT cm fs k T).length≤lenS T+T.length*(2*cm.length+8)
 |[],k=>Nat.zero_le _
 |t::T,k=>by
  have ih:=blkT_len cm fs T (k+1)
  have h1:=pcB_len cm fs k t
  have e:blkT cm fs k (t::T)=pcB cm fs k t++blkT cm fs (k+1) T:=rfl
  have e2:lenS (t::T)=t.s.length+lenS T:=rfl
  rw[e,List.length_append,e2,List.length_cons,Nat.succ_mul]
  omega
theorem lenS_le (A B:List Tk):lenS A≤lenS (A++B):=by rw[lenS_app];omega
theorem tok_len (s:Str):(tokQ s).1.length≤s.length+1∧lenS (tokQ s).1≤s.length+1:=by
 unfold tokQ
 by_cases h:16384<s.length
 ·rw[if_pos h];exact⟨Nat.zero_le _,Nat.zero_le _⟩
 ·rw[if_neg h]
  obtain⟨q1,q2,q3,q4⟩:=lns_facts (splB 10 s) 0 (fun l hl=>by have:=splB_sub 10 s l hl;omega)
  have e:=splB_sum 10 s
  have e2:=sum_le1 (splB 10 s)
  exact⟨Nat.le_trans q2 (Nat.le_of_eq e),Nat.le_trans q1 (Nat.le_trans e2 (Nat.le_of_eq e))⟩
theorem blk_take (cm:Str)(fs:List Nat)(T:List Tk)(i:Nat)(h:i<T.length):blkT cm fs 0 (T.take (i+1))=blkT cm fs 0 (T.take i)++pcB cm fs i T[i]:=by
 rw[List.take_succ_eq_append_getElem h,blkT_snoc,List.length_take,Nat.min_eq_left (by omega),Nat.zero_add]
theorem blk_bd {cm:Str}(hcm:cm.length≤40)(fs:List Nat){T:List Tk}(h1:T.length≤3001)(h2:lenS T≤3001)(i:Nat):(blkT cm fs 0 (T.take i)).length≤300000:=by
 have h:=blkT_len cm fs (T.take i) 0
 have h3:lenS (T.take i)≤lenS T:=by have:=lenS_le (T.take i) (T.drop i);rwa [List.take_append_drop]at this
 have h4:(T.take i).length≤T.length:=by rw[List.length_take];omega
 have h5:(T.take i).length*(2*cm.length+8)≤3001*88:=Nat.mul_le_mul (by omega) (by omega)
 omega
theorem _root_.Go.Proofs.YtlnpgbnhcondjaaGreatDoor.Vg.Stp.sliceData0 {P:Program}{o:Oper}{e:Env}{M:Mem}{x:Operand}{tys:Array TypeId}{n c:Nat}(ho:o.op= .call {callee:= .builtin .unsafeSliceData,args:= #[x],argTypes:=tys})(hx:rd e x=some (true,.c (.v (.slice none n c)))):
  Stp P o e M (.c (.v (.pointer none))) []:=by
 refine Stp.read fun S w0 β M' a w hsub hrel hop=>?_
 have hex:=hop x (by simp[ho,Op.operands,Call.operands]) _ hx
 simp only[gv,V.g,cond_true]at hex
 have hex':a.eval x= .slice none n c:=by rw[hex];simp[Cv.g]
 have h:=Lib.run_unsafeSliceData_nil (P:=P) (w:=w) tys o.type n c
 unfold execOp
 simp only[ho,resolve,invoke,builtin,Sem.run_bind,Sem.run_pure,Result.andThen_ok,List.map_toArray,List.map_cons,List.map_nil,hex',h]
 rfl
theorem _root_.Go.Proofs.YtlnpgbnhcondjaaGreatDoor.Vg.Stp.unsString0 {P:Program}{o:Oper}{e:Env}{M:Mem}{x y:Operand}{pt it:TypeId}{p:Option Addr}(ho:o.op= .call {callee:= .builtin .unsafeString,args:= #[x,y],argTypes:= #[pt,it]})(hx:rd e x=some (true,.c (.v (.pointer p))))(hy:rd e y=some (true,.c (.v (.int .i64 0)))):
  Stp P o e M (.c (.v (.string ⟨#[]⟩))) []:=by
 refine Stp.read fun S w0 β M' a w hsub hrel hop=>?_
 have hex:=hop x (by simp[ho,Op.operands,Call.operands]) _ hx
 have hey:=hop y (by simp[ho,Op.operands,Call.operands]) _ hy
 simp only[gv,V.g,cond_true]at hex hey
 have hex':a.eval x= .pointer p:=by rw[hex];simp[Cv.g]
 have hey':a.eval y= .int .i64 0:=by rw[hey];simp[Cv.g]
 have h:=Lib.run_unsafeString_none (P:=P) (w:=w) pt it o.type p
 unfold execOp
 simp only[ho,resolve,invoke,builtin,Sem.run_bind,Sem.run_pure,Result.andThen_ok,List.map_toArray,List.map_cons,List.map_nil,hex',hey',h]
 rfl
theorem bString0:CallOk Tryz.prog 27 [.c (.p 1 0)] [(1,⟨false,[.v (.pointer none),.v (.slice none 0 0)],55⟩)] (S []) []:=by
 refine CallOk.mkN 100 Tryz.func27 rfl en27 (by simp[Tryz.ntmps27]) (ClA.of rfl) rfl rfl fun C hR hP=>?_
 refine vv ?_
 refine Sm.dg 110 10 mix ?_
 refine vv ?_
 refine DOpQ.own 110 (Stp.sliceData0 rfl rfl) ?_
 refine vv ?_
 refine Sm.opq rfl rfl ⟨_,_,fun _=>Stp.unsString0 rfl rfl rfl,.inl rfl,?_⟩
 refine Sm.go 130 ?_
 refine vv ?_
 exact RetQ.of hR rfl ⟨rfl,trivial⟩ rfl (SubS.sub ⟨⟨_,rfl,.inl rfl⟩,trivial⟩) (ClM.of rfl) (ClV.of rfl)
theorem bLen0:CallOk Tryz.prog 26 [.c (.p 1 0)] [(1,⟨false,[.v (.pointer none),.v (.slice none 0 0)],55⟩)] (I 0) []:=by
 refine CallOk.mkN 100 Tryz.func26 rfl en26 (by simp[Tryz.ntmps26]) (ClA.of rfl) rfl rfl fun C hR hP=>?_
 refine vv ?_
 exact RetQ.of hR rfl ⟨rfl,trivial⟩ rfl (SubS.sub ⟨⟨_,rfl,.inl rfl⟩,trivial⟩) (ClM.of rfl) (ClV.of rfl)
theorem clBl (T:List Tk)(fs:List Nat)(K:List Cv)(hK:K.all Cv.isV=true)(L:Str):ClM [(2,⟨false,rowsC (T.map Tk.r),57⟩),(3,⟨true,rowsC (u8R fs),5⟩),(131,⟨false,K,9⟩),bBd 132 150 L,bBu 150 L]:=ClM.of (by
 simp only[List.all_cons,inMV (v_by L),inMV (rowsC_isV _),inMV hK]
 cases L<;>rfl)
def kinK:List Cv:=fil4.map sC
theorem blanks_ {H:Hp}(hE:ErR H)(s cm:Str)(sf:Sv)(fs:List Nat)(hf:SlH H (vsl sf fs.length) 1 (u8R fs))(hfl:fs.length≤1000000000000000)(h8:∀n∈fs,n<256):CallH H Tryz.prog 5 [S s,S cm,.c (.v (vsl sf fs.length))] (Bo true):=by
 refine CallH.mkS Tryz.func5 rfl en5 (by simp[Tryz.ntmps5]) (ClA.of rfl) fun C hR hP hH hL=>?_
 refine Sm.go 100 ?_
 refine vv ?_
 refine CallQ.h 110 (awake_ hE) hH rfl ?_
 refine vv ?_
 refine mtch (fun hc=>?_) (fun hc=>?_)
 ·exact RetQ.bool (hR C hL) rfl ⟨rfl,trivial⟩ rfl
 have hs3:s.length≤3000∧cm.length≤40:=by
  by_cases h:(3000:Int)<(s.length:Int)
  ·rw[decide_eq_true h]at hc;cases hc
  ·rw[decide_eq_false h]at hc
   have:=of_decide_eq_false hc
   omega
 obtain⟨hs3,hcl⟩:=hs3
 refine vv ?_
 refine Sm.loopM (M0:=[]) (α:={i:Nat//i≤cm.length∧∀k,k<i→32≤(cm.getD k 0).toNat∧(cm.getD k 0).toNat≤126}) hP (fun i=>[(0,true,S s),(1,true,S cm),(2,true,.c (.v (vsl sf fs.length))),(33,true,I cm.length),(34,true,I i.val)]) (fun _=>[]) (fun i=>cm.length-i.val) ⟨0,Nat.zero_le _,fun k hk=>by omega⟩ (fun _=>ClM.nil) (fun _=>ClE.of rfl) [] ?_ ?_
 ·exact⟨rfl,trivial,⟨rfl,rfl,rfl,rfl,rfl,trivial⟩,trivial⟩
 rintro⟨i,hi,hx⟩ J hb
 simp only at hb hi hx⊢
 refine Sm.go 120 ?_
 refine vv ?_
 refine mtch (fun hc2=>?_) (fun hc2=>?_)
 ·have hc2:=lt_of_dec hc2
  refine⟨⟨by omega,by omega⟩,(fun h=>⟨h,h,by omega,by omega⟩),?_⟩
  refine mtch (fun hd=>?_) (fun hd=>?_)
  ·exact RetQ.bool (hR C hL) rfl ⟨rfl,trivial⟩ rfl
  ·have hd2:32≤(cm.getD i 0).toNat∧(cm.getD i 0).toNat≤126:=by
    by_cases h:((cm.getD i 0).toNat:Int)<32
    ·rw[decide_eq_true h]at hd;cases hd
    ·rw[decide_eq_false h]at hd
     have:=of_decide_eq_false hd
     omega
   simp(maxSteps:=2000000) only[go_sem,wS (show i≤1000000000000000000 by omega)]
   refine hb _ _ ⟨i+1,hc2,fun k hk=>?_⟩ [] (by simp only;omega) ⟨rfl,trivial,⟨rfl,rfl,rfl,rfl,rfl,trivial⟩,trivial⟩
   rcases Nat.lt_succ_iff_lt_or_eq.1 hk with h|h
   ·exact hx k h
   ·subst h;exact hd2
 have hc2:=eq_of_dec hi hc2
 subst hc2
 clear hb
 have hcm:cmOk cm:=fun c hc=>by
  obtain⟨k,hk,rfl⟩:=List.mem_iff_getElem.1 hc
  have:=hx k hk
  rw[List.getD_eq_getElem?_getD,List.getElem?_eq_getElem hk]at this
  exact this
 clear hx hc
 have hfa:=tok_len s
 have hbl:=blanks s cm fs
 have htk:=tokens2_ hE s (by omega)
 refine CallQ.x 130 hL htk hH (SubS.sub trivial) ClM.nil (fun _=>Fresh.of rfl) rfl rfl rfl (fun _ C1 H1 l1 k1 _ _=>?_)
 refine vv ?_
 refine mtch (fun hc=>?_) (fun hc=>?_)
 ·exact RetQ.bool (hR C1 l1) rfl ⟨rfl,trivial⟩ rfl
 have he:(tokQ s).2.2=0:=by simpa using hc
 have hbl:=hbl he hcm
 generalize (tokQ s).1=T at*
 obtain⟨hT1,hT2⟩:=hfa
 generalize hP2:(tokQ s).2.1=P2 at*
 by_cases hTn:T=[]
 ·subst hTn
  simp only[List.length_nil]
  refine Sm.loopM (M0:=[]) (α:=Unit) (l1.pins hP) (fun _=>[(0,true,S s),(12,true,.c (.p 132 0)),(58,true,I 0),(59,true,I 0)])
   (fun _=>[(132,⟨false,[.v (.pointer none),.v (.slice none 0 0)],55⟩)]) (fun _=>0) () (fun _=>ClM.of rfl) (fun _=>ClE.of rfl) [(132,132)] ?_ ?_
  ·exact⟨rfl,trivial,⟨rfl,rfl,rfl,rfl,trivial⟩,⟨.inr ⟨_,rfl,.inl rfl⟩,trivial⟩⟩
  rintro _ J hb
  clear hb
  refine Sm.go 150 ?_
  refine vv ?_
  obtain⟨hb1,hb2⟩:=hbl (Nat.zero_le _)
  have e0:blkT cm fs 0 []=[]:=rfl
  rw[e0]at hb1 hb2
  refine CallQ.ren [(1,132)] 160 bLen0 (ClM.of rfl) rfl rfl ⟨⟨_,rfl,.inl rfl⟩,trivial⟩ rfl (.inr rfl) ?_
  refine vv ?_
  refine CallQ.x 170 l1 (dparse_ hE s (by omega)) (hH.trans k1) (SubS.sub trivial) ClM.nil (fun _=>Fresh.of rfl) rfl rfl rfl (fun x C2 H2 l2 k2 j2 p2=>?_)
  have hcr:x.r.map Cv.v=[.v (sv x.nm),.v (vsl x.ty x.tys.length),.v (vsl x.cu x.cus.length),.v (vsl x.ma x.mas.length),.v (vsl x.i x.ins.length),.v (vsl x.bl x.bls.length),.v (vsl x.ou x.ous.length)]:=rfl
  rw[hcr]
  refine vv ?_
  refine CallQ.ren [(1,132)] 180 bString0 (ClM.of rfl) rfl rfl ⟨⟨_,rfl,.inl rfl⟩,trivial⟩ rfl (.inr rfl) ?_
  refine vv ?_
  have hH2:=(hH.trans k1).trans k2
  refine CallQ.x 190 l2 (dparse_ hE [] (by decide)) hH2 (SubS.sub trivial) ClM.nil (fun _=>Fresh.of rfl) rfl rfl rfl (fun y C3 H3 l3 k3 j3 p3=>?_)
  have hcr2:y.r.map Cv.v=[.v (sv y.nm),.v (vsl y.ty y.tys.length),.v (vsl y.cu y.cus.length),.v (vsl y.ma y.mas.length),.v (vsl y.i y.ins.length),.v (vsl y.bl y.bls.length),.v (vsl y.ou y.ous.length)]:=rfl
  rw[hcr2]
  have hee:((parD s).2.2==(parD []).2.2)=true:=by rw[hb2];exact beq_self_eq_true _
  simp(maxSteps:=2000000) only[go_sem,hee]
  obtain⟨px,ox⟩:=p2
  obtain⟨py,oy⟩:=p3
  have hsm:=par_sm [] py
  have hsame:=same_ (H:=C3.hp) x y ((ox.mono j2).mono k3) (oy.mono j3) (by rw[px,py,hb1]) hsm.1 hsm.2
  refine CallQ.h 210 hsame (Hp.le.refl _) rfl ?_
  refine vv ?_
  exact RetQ.bool (hR C3 l3) rfl ⟨rfl,trivial⟩ rfl
 refine Sm.bringR 3 5 2 (hf.mono (hH.trans k1)) rfl rfl ?_
 have e3:(u8R fs).length=fs.length:=List.length_map _
 rw[e3]
 refine Sm.nils 150 1 5 [] [132] rfl ?_
 refine Sm.loopM (M0:=[]) (α:={i:Nat//i≤T.length}) (l1.pins hP) (fun i=>[(0,true,S s),(1,true,S cm),(2,true,.c (.sl 3 0 fs.length 1)),(11,true,.c (.sl 131 0 4 1)),(12,true,.c (.p 132 0)),(57,true,.c (.sl 2 0 T.length 4)),(58,true,I T.length),(59,true,I i.val)])
  (fun i=>[(2,⟨false,rowsC (T.map Tk.r),57⟩),(3,⟨true,rowsC (u8R fs),5⟩),(131,⟨false,kinK,9⟩),bBd 132 150 (blkT cm fs 0 (T.take i.val)),bBu 150 (blkT cm fs 0 (T.take i.val))]) (fun i=>T.length-i.val) ⟨0,Nat.zero_le _⟩ (fun i=>clBl T fs kinK rfl _) (fun _=>ClE.of rfl) [(2,2),(3,3),(131,131),(132,132),(150,150)] ?_ ?_
 ·exact⟨rfl,trivial,⟨rfl,rfl,rfl,rfl,rfl,rfl,rfl,rfl,trivial⟩,⟨.inr ⟨_,rfl,.inl (renV (rowsC_isV _))⟩,.inr ⟨_,rfl,.inl (renV (rowsC_isV _))⟩,.inr ⟨_,rfl,.inl rfl⟩,.inr ⟨_,rfl,.inl rfl⟩,.inr ⟨_,rfl,.inl rfl⟩,trivial⟩⟩
 rintro⟨i,hi⟩ J hb
 simp only at hb hi⊢
 refine Sm.go 160 ?_
 refine vv ?_
 refine mtch (fun hc2=>?_) (fun hc2=>?_)
 ·have hc2:=lt_of_dec hc2
  have htk:=rows_take (r:=Tk.r) (k:=4) (fun _=>rfl) T i hc2
  have hsz:=rows_len (r:=Tk.r) (k:=4) (fun _=>rfl) T
  have hbd:=blk_bd hcl fs (T:=T) (by omega) (by omega) i
  have hst:=blk_take cm fs T i hc2
  simp only[htk,hsz]
  refine⟨⟨by omega,by omega⟩,by omega,?_⟩
  have hts:T[i].s.length≤3001:=by
   have:=lenS_le (T.take (i+1)) (T.drop (i+1))
   rw[List.take_append_drop,List.take_succ_eq_append_getElem hc2,lenS_app]at this
   have e:lenS [T[i]]=T[i].s.length:=by simp[lenS]
   omega
  generalize T[i]=t at*
  generalize blkT cm fs 0 (T.take i)=L at*
  have hpl:=pcB_len cm fs i t
  have hpn:=pcB_ne cm fs i t
  have hkB:((t.k:Int)==4)=(t.k==4):=kB _ 4
  cases hk4:t.k==4 with
  |true=>
   have ep:32::35::(cm++[10,10,9,35,32]++cm++[10])=pcB cm fs i t:=by unfold pcB;rw[hk4];simp
   rw[hk4]at hkB
   simp(maxSteps:=2000000) only[go_sem,Tk.r,hkB]
   rw[ep]
   refine⟨by omega,by omega,by simp;omega,by simp;omega,?_⟩
   refine CallQ.ren [(1,132),(2,150),(3,170)] 171 (bWS L (pcB cm fs i t) hpn (by omega) (by omega)) (clBd 1 2 _ (by decide)) rfl rfl ⟨⟨_,rfl,.inl (renBd _ _ _ _ _ _)⟩,⟨_,rfl,.inl (renBy _ _ _)⟩,trivial⟩ rfl (.inl rfl) ?_
   simp only[Mem.ren,List.map_cons,List.map_nil,renBd,renBy,renDe,V.ren,W.ren,Cv.ren,rn,Nat.reduceBEq,cond_true,cond_false]
   refine vv ?_
   refine Sm.go 180 ?_
   simp(maxSteps:=2000000) only[go_sem,wS (show i≤1000000000000000000 by omega)]
   refine hb _ _ ⟨i+1,hc2⟩ [(2,2),(3,3),(131,131),(132,132),(150,170)] (by simp only;omega) ?_
   simp only[hst]
   exact⟨rfl,trivial,⟨rfl,rfl,rfl,rfl,rfl,rfl,rfl,rfl,trivial⟩,⟨.inr ⟨_,rfl,.inl (renV (rowsC_isV _))⟩,.inr ⟨_,rfl,.inl (renV (rowsC_isV _))⟩,.inr ⟨_,rfl,.inl rfl⟩,.inr ⟨_,rfl,.inl (renBd _ _ _ _ _ _)⟩,.inr ⟨_,rfl,.inl (renBy _ _ _)⟩,trivial⟩⟩
  |false=>
   have ep:filB fs i++t.s=pcB cm fs i t:=by unfold pcB;rw[hk4];rfl
   rw[hk4]at hkB
   have hfn:∃n,n<4∧filB fs i=fil4.getD n []∧kinK[n]?=some (sC (filB fs i))∧((i<fs.length→∃m:Nat,m<256∧m%4=n∧(rowsC (u8R fs))[i]?=some (.v (.int .u8 (m:Int))))∧(¬i<fs.length→n=0)):=by
    have h4:fs.getD i 0%4<4:=Nat.mod_lt _ (by decide)
    refine⟨fs.getD i 0%4,h4,rfl,?_,fun hif=>?_,fun hif=>?_⟩
    ·unfold filB
     generalize fs.getD i 0%4=n at h4
     match n,h4 with
     |0,_=>rfl
     |1,_=>rfl
     |2,_=>rfl
     |3,_=>rfl
    ·have eg:fs.getD i 0=fs[i]:=by rw[List.getD_eq_getElem?_getD,List.getElem?_eq_getElem hif];rfl
     refine⟨fs[i],h8 _ (List.getElem_mem hif),by rw[eg],?_⟩
     have f0:=rows_one (r:=fun n:Nat=>[Value.int .u8 (n:Int)]) (k:=1) (fun _=>rfl) fs i 0 hif (by omega)
     rw[Nat.mul_one,Nat.add_zero]at f0
     exact f0
    ·rw[List.getD_eq_getElem?_getD,List.getElem?_eq_none (by omega)];rfl
   obtain⟨n,hn4,hn1,hn2,hn3,hn5⟩:=hfn
   by_cases hif:i<fs.length
   ·obtain⟨m,hm,hmn,hget⟩:=hn3 hif
    have hd1:decide ((i:Int)<(fs.length:Int))=true:=decide_eq_true (by omega)
    have hw:IntKind.i64.wrap (m:Int)=(m:Int):=by rw[w64 (by omega) (by omega)]
    have hmod:(m:Int).tmod 4=(n:Int):=by rw[Int.tmod_eq_emod_of_nonneg (by omega)];omega
    simp(maxSteps:=2000000) only[go_sem,Tk.r,hkB,hd1,hget,hw,hmod]
    refine⟨⟨by omega,by omega⟩,?_⟩
    refine Sm.dg 170 6 mix ?_
    simp(maxSteps:=2000000) only[go_sem,hn2,ep]
    have hfl1:=(fil_len fs i).2
    refine⟨⟨by omega,by omega⟩,by omega,?_⟩
    refine CallQ.ren [(1,132),(2,150),(3,180)] 181 (bWS L (pcB cm fs i t) hpn (by omega) (by omega)) (clBd 1 2 _ (by decide)) rfl rfl ⟨⟨_,rfl,.inl (renBd _ _ _ _ _ _)⟩,⟨_,rfl,.inl (renBy _ _ _)⟩,trivial⟩ rfl (.inl rfl) ?_
    simp only[Mem.ren,List.map_cons,List.map_nil,renBd,renBy,renDe,V.ren,W.ren,Cv.ren,rn,Nat.reduceBEq,cond_true,cond_false]
    refine vv ?_
    refine Sm.go 190 ?_
    simp(maxSteps:=2000000) only[go_sem,wS (show i≤1000000000000000000 by omega)]
    refine hb _ _ ⟨i+1,hc2⟩ [(2,2),(3,3),(131,131),(132,132),(150,180)] (by simp only;omega) ?_
    simp only[hst]
    exact⟨rfl,trivial,⟨rfl,rfl,rfl,rfl,rfl,rfl,rfl,rfl,trivial⟩,⟨.inr ⟨_,rfl,.inl (renV (rowsC_isV _))⟩,.inr ⟨_,rfl,.inl (renV (rowsC_isV _))⟩,.inr ⟨_,rfl,.inl rfl⟩,.inr ⟨_,rfl,.inl (renBd _ _ _ _ _ _)⟩,.inr ⟨_,rfl,.inl (renBy _ _ _)⟩,trivial⟩⟩
   ·have hd1:decide ((i:Int)<(fs.length:Int))=false:=decide_eq_false (by omega)
    obtain rfl:=hn5 hif
    simp(maxSteps:=2000000) only[go_sem,Tk.r,hkB,hd1]
    refine Sm.dg 170 6 mix ?_
    simp(maxSteps:=2000000) only[go_sem,hn2,ep]
    have hfl1:=(fil_len fs i).2
    refine⟨by omega,?_⟩
    refine CallQ.ren [(1,132),(2,150),(3,180)] 181 (bWS L (pcB cm fs i t) hpn (by omega) (by omega)) (clBd 1 2 _ (by decide)) rfl rfl ⟨⟨_,rfl,.inl (renBd _ _ _ _ _ _)⟩,⟨_,rfl,.inl (renBy _ _ _)⟩,trivial⟩ rfl (.inl rfl) ?_
    simp only[Mem.ren,List.map_cons,List.map_nil,renBd,renBy,renDe,V.ren,W.ren,Cv.ren,rn,Nat.reduceBEq,cond_true,cond_false]
    refine vv ?_
    refine Sm.go 190 ?_
    simp(maxSteps:=2000000) only[go_sem,wS (show i≤1000000000000000000 by omega)]
    refine hb _ _ ⟨i+1,hc2⟩ [(2,2),(3,3),(131,131),(132,132),(150,180)] (by simp only;omega) ?_
    simp only[hst]
    exact⟨rfl,trivial,⟨rfl,rfl,rfl,rfl,rfl,rfl,rfl,rfl,trivial⟩,⟨.inr ⟨_,rfl,.inl (renV (rowsC_isV _))⟩,.inr ⟨_,rfl,.inl (renV (rowsC_isV _))⟩,.inr ⟨_,rfl,.inl rfl⟩,.inr ⟨_,rfl,.inl (renBd _ _ _ _ _ _)⟩,.inr ⟨_,rfl,.inl (renBy _ _ _)⟩,trivial⟩⟩
 have hc2:=eq_of_dec hi hc2
 subst hc2
 rw[List.take_length]
 have hL1:=blk_bd hcl fs (T:=T) (by omega) (by omega) T.length
 rw[List.take_length]at hL1
 have hLn:blkT cm fs 0 T≠[]:=fun h=>by
  cases T with
  |nil=>exact hTn rfl
  |cons t T=>
   have e:blkT cm fs 0 (t::T)=pcB cm fs 0 t++blkT cm fs 1 T:=rfl
   rw[e]at h
   exact pcB_ne cm fs 0 t (List.append_eq_nil_iff.1 h).1
 generalize hL:blkT cm fs 0 T=L at*
 refine vv ?_
 refine CallQ.ren [(1,132),(2,150)] 160 (bLen L) (clBd 1 2 L (by decide)) rfl rfl ⟨⟨_,rfl,.inl (renBd _ _ _ _ _ _)⟩,⟨_,rfl,.inl (renBy _ _ _)⟩,trivial⟩ rfl (.inr rfl) ?_
 refine vv ?_
 refine mtch (fun hc3=>?_) (fun hc3=>?_)
 ·exact RetQ.bool (hR C1 l1) rfl ⟨rfl,trivial⟩ rfl
 have hc3:=of_decide_eq_false hc3
 obtain⟨hb1,hb2⟩:=hbl (by omega)
 refine CallQ.x 170 l1 (dparse_ hE s (by omega)) (hH.trans k1) (SubS.sub trivial) ClM.nil (fun _=>Fresh.of rfl) rfl rfl rfl (fun x C2 H2 l2 k2 j2 p2=>?_)
 have hcr:x.r.map Cv.v=[.v (sv x.nm),.v (vsl x.ty x.tys.length),.v (vsl x.cu x.cus.length),.v (vsl x.ma x.mas.length),.v (vsl x.i x.ins.length),.v (vsl x.bl x.bls.length),.v (vsl x.ou x.ous.length)]:=rfl
 rw[hcr]
 refine vv ?_
 refine CallQ.ren [(1,132),(2,150)] 180 (bString L hLn (by omega)) (clBd 1 2 L (by decide)) rfl rfl ⟨⟨_,rfl,.inl (renBd _ _ _ _ _ _)⟩,⟨_,rfl,.inl (renBy _ _ _)⟩,trivial⟩ rfl (.inl rfl) ?_
 simp only[Mem.ren,List.map_cons,List.map_nil,renDe,V.ren,rn,Nat.reduceBEq,cond_true,cond_false]
 refine vv ?_
 have hH2:=(hH.trans k1).trans k2
 refine CallQ.x 190 l2 (dparse_ hE L (by omega)) hH2 (SubS.sub trivial) ClM.nil (fun _=>Fresh.of rfl) rfl rfl rfl (fun y C3 H3 l3 k3 j3 p3=>?_)
 have hcr2:y.r.map Cv.v=[.v (sv y.nm),.v (vsl y.ty y.tys.length),.v (vsl y.cu y.cus.length),.v (vsl y.ma y.mas.length),.v (vsl y.i y.ins.length),.v (vsl y.bl y.bls.length),.v (vsl y.ou y.ous.length)]:=rfl
 rw[hcr2]
 have hee:((parD s).2.2==(parD L).2.2)=true:=by rw[hb2];exact beq_self_eq_true _
 simp(maxSteps:=2000000) only[go_sem,hee]
 obtain⟨px,ox⟩:=p2
 obtain⟨py,oy⟩:=p3
 have hsm:=par_sm L py
 have hsame:=same_ (H:=C3.hp) x y ((ox.mono j2).mono k3) (oy.mono j3) (by rw[px,py,hb1]) hsm.1 hsm.2
 refine CallQ.h 210 hsame (Hp.le.refl _) rfl ?_
 refine vv ?_
 exact RetQ.bool (hR C3 l3) rfl ⟨rfl,trivial⟩ rfl
end Go.Proofs.YtlnpgbnhcondjaaGreatDoor.Fx
