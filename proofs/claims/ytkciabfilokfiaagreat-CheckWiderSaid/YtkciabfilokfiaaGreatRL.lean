/-  -/
import Derived.Test.YtkciabfilokfiaaGreatPS
import Derived.Test.YtkciabfilokfiaaGreatRK
import Derived.Lib.AppendZeros
namespace Go.Proofs.YtkciabfilokfiaaGreat.Fx
open Vg Tf
set_option linter.unusedSimpArgs false
set_option linter.unusedVariables false
set_option maxRecDepth 100000
set_option maxHeartbeats 4000000
theorem _root_.Go.Proofs.YtkciabfilokfiaaGreat.Vg.Stp.appendZ {P:Program}{o:Oper}{e:Env}{M:Mem}(nm:Nat){s x:Operand}{t tn el:TypeId}{sz n:Nat}{k kn:IntKind}{zs:List Value}(ho:o.op= .call {callee:= .builtin .append,args:= #[s,x],argTypes:= #[t,tn]})
  (ht:slOf P t=some (el,sz)) (htn:P.underlying tn=some (.int kn)) (hz:zeroOf P el=some zs) (hs:rd e s=some (true,.c (.v (.slice none 0 0)))) (hx:rd e x=some (true,.c (.v (.int k n)))) (hn:M.get nm=none) (h0:0<n) (hby:n*byOf P el≤140737488355328) (h63:(n:Int)≤9223372036854775807):
  ∃K:List Cv,K.all Cv.isV=true∧n*sz≤K.length∧Stp P o e M (.c (.sl nm 0 n sz)) [(nm,⟨false,K,el⟩)]:=by
 obtain⟨hu,hsz,hsz0⟩:=slOf_ok ht
 obtain⟨i,z,hi,hz1,hz2,hz3⟩:=zero_info hz
 have hsi:i.size=sz:=by rw[←szOf_info hi];exact hsz
 subst hsi
 have hlz:((Builtin.zeroCells z.cells n).toList.map Cv.v).length=n*i.size:=by rw[List.length_map,zeroCells_len,hz2]
 refine⟨(Builtin.zeroCells z.cells n).toList.map Cv.v,v_v _,by rw[hlz];exact Nat.le_refl _,?_⟩
 intro S w0 β M' a w hsub hfr hrel hok K Q hk
 have hn':M'.get nm=none:=by
  rcases hfr nm (by simp[Mem.get])with h|h
  ·rw[hn]at h;cases h
  ·exact h
 have hne:∀j b,M'.get j=some b→j≠nm:=fun j b hj hh=>by rw[hh,hn']at hj;cases hj
 have hev:=hok β (Agree.refl _ _) s (by simp[ho,Op.operands,Call.operands]) _ hs
 have hex:=hok β (Agree.refl _ _) x (by simp[ho,Op.operands,Call.operands]) _ hx
 simp only[gv,V.g,Cv.g,cond_true]at hev hex
 have hg:=Go.Lib.run_append_nil_zeros (P:=P) w t tn o.type el i z k kn hu htn hi hz1 n h0 (by omega) h63 (by rw[←byOf_info hi];omega)
 have hge:=grownCap_ge w n 0 el
 have hal:=(hrel.drew).allocJ nm hn' ((Builtin.zeroCells z.cells n).toList.map Cv.v) (Builtin.zeroCells z.cells (grownCap w n 0 el-n)).toList el (fun β' _=>by rw[mapV_g,mapV_g])
 unfold Oper.wp execOp
 simp only[ho,resolve,invoke,builtin,Sem.run_bind,Sem.run_pure,Result.andThen_ok,List.map_toArray,List.map_cons,List.map_nil,hev,hex,hg]
 have e1:Builtin.zeroCells z.cells n++Builtin.zeroCells z.cells (grownCap w n 0 el-n)=(((Builtin.zeroCells z.cells n).toList.map Cv.v).map (Cv.g β)++(Builtin.zeroCells z.cells (grownCap w n 0 el-n)).toList).toArray:=by
  apply Array.toList_inj.1
  rw[mapV_g]
  simp
 rw[e1]
 refine hk (fun j=>if j=nm then⟨w.heap.size,0,((Builtin.zeroCells z.cells n).toList.map Cv.v).length+(Builtin.zeroCells z.cells (grownCap w n 0 el-n)).toList.length,false,none⟩else β j) _ _ (fun j hj=>?_) hal (fun β'' hag=>?_)
 ·obtain⟨c,hc⟩:=Option.isSome_iff_exists.1 hj
  exact if_neg (hne j c hc)
 ·have:=hag nm (by simp[Mem.get])
  simp only[V.g,Cv.g,this,if_true,Bool.false_eq_true,false_and,if_false,Nat.zero_add,Nat.sub_zero]
  rw[hlz,zeroCells_len,hz2,←Nat.add_mul,Nat.mul_div_cancel _ (by omega)]
  congr 1
  omega
theorem _root_.Go.Proofs.YtkciabfilokfiaaGreat.Vg.Stp.capNil {P:Program}{o:Oper}{e:Env}{M:Mem}{x:Operand}{t el:TypeId}{sz:Nat}(ho:o.op= .call {callee:= .builtin .cap,args:= #[x],argTypes:= #[t]})(ht:slOf P t=some (el,sz))(hx:rd e x=some (true,.c (.v (.slice none 0 0)))):Stp P o e M (.c (.v (.int .i64 0))) []:=by
 obtain⟨hu,_,_⟩:=slOf_ok ht
 exact Stp.pure fun β a hop w=>by
  have hex:=hop x (by simp[ho,Op.operands,Call.operands]) _ hx
  simp only[gv,V.g,Cv.g,cond_true]at hex
  unfold execOp
  simp[ho,resolve,invoke,builtin,hex,Builtin.cap_,V.g,Cv.g,run_underlying hu,goInt]
theorem _root_.Go.Proofs.YtkciabfilokfiaaGreat.Vg.Stp.slNil {P:Program}{o:Oper}{e:Env}{M:Mem}{x hi:Operand}{t el:TypeId}{sz:Nat}{k:IntKind}(ho:o.op= .slice t x none (some hi) none)(ht:slOf P t=some (el,sz))(hx:rd e x=some (true,.c (.v (.slice none 0 0))))(hh:rd e hi=some (true,.c (.v (.int k 0)))):Stp P o e M (.c (.v (.slice none 0 0))) []:=by
 obtain⟨hu,hsz,hsz0⟩:=slOf_ok ht
 exact Stp.pure fun β a hop w=>by
  have hex:=hop x (by simp[ho,Op.operands]) _ hx
  have hhx:=hop hi (by simp[ho,Op.operands]) _ hh
  simp only[gv,V.g,Cv.g,cond_true]at hex hhx
  have hb:=run_sliceBound (P:=P) w k 0 0 .sliceAcap (by omega) (by omega)
  unfold execOp
  simp[ho,hex,hhx,Instr.sliceAt,Instr.slice,Instr.sliceBounds,run_underlying hu,V.g,Cv.g,run_sizeOf' hsz hsz0]
  rw[hb]
  simp
theorem _root_.Go.Proofs.YtkciabfilokfiaaGreat.Vg.Sm.appZ {P:Program}{nt:Nat}{C:Cx}{rg:Array Oper}{o:Oper}{l:List Oper}{r:List It}{e:Env}{M:Mem}(nm:Nat){s x:Operand}{t tn el:TypeId}{sz n:Nat}{k kn:IntKind}{zs:List Value}(hg:gd rg e o=some true)(hd:dstOk nt o.dst=true)(ho:o.op= .call {callee:= .builtin .append,args:= #[s,x],argTypes:= #[t,tn]})
  (ht:slOf P t=some (el,sz)) (htn:P.underlying tn=some (.int kn)) (hz:zeroOf P el=some zs) (hs:rd e s=some (true,.c (.v (.slice none 0 0)))) (hx:rd e x=some (true,.c (.v (.int k n)))) (hn:M.get nm=none) (h0:0<n) (hby:n*byOf P el≤140737488355328) (h63:(n:Int)≤9223372036854775807)
  (h:∀K:List Cv,K.all Cv.isV=true→n*sz≤K.length→Sm P nt C (.ops rg l::r) (e.put o.dst true (.c (.sl nm 0 n sz))) ([(nm,⟨false,K,el⟩)]++M)):Sm P nt C (.ops rg (o::l)::r) e M:=by
 obtain⟨K,k1,k2,k3⟩:=Stp.appendZ (P:=P) (e:=e) (M:=M) nm ho ht htn hz hs hx hn h0 hby h63
 exact Sm.opq hg hd ⟨_,_,fun _=>k3,.inl rfl,h K k1 k2⟩
theorem grow_ {H:Hp}(n:Nat)(h0:0<n)(hn:n≤1000000):CallX H Tryz.prog 285 [.c (.v (.slice none 0 0)),I n] [] (fun _:{K:List Cv//K.all Cv.isV=true∧n≤K.length}=> .c (.sl 1 0 0 1)) (fun K=>[(1,⟨false,K.val,3⟩)]) (fun _ _=>True):=by
 refine CallX.mkS Tryz.func285 rfl en285 (by simp[Tryz.ntmps285]) (ClA.of rfl) (fun _=>rfl) (fun _=>rfl) fun C hR hP hH hL=>?_
 refine Sm.go 100 ?_
 simp(maxSteps:=2000000) only[go_sem,show decide ((n:Int)<0)=false from decide_eq_false (by omega)]
 refine Sm.opq rfl rfl ⟨[],_,fun _=>Stp.capNil rfl sl33 rfl,.inl rfl,Sm.go 110 ?_⟩
 simp(maxSteps:=2000000) only[go_sem,show IntKind.i64.wrap ((n:Int)-0)=n by rw[Int.sub_zero];exact w64 (by omega) (by omega),show decide ((0:Int)<n)=true from decide_eq_true (by omega)]
 refine Sm.opq rfl rfl ⟨[],_,fun _=>Stp.capNil rfl sl33 rfl,.inl rfl,Sm.go 110 ?_⟩
 refine vv ?_
 refine Sm.opq rfl rfl ⟨[],_,fun _=>Stp.slNil rfl sl33 rfl rfl,.inl rfl,Sm.go 110 ?_⟩
 refine vv ?_
 refine Sm.appZ 120 rfl rfl rfl sl33 rfl zr3 rfl rfl rfl h0 (by show n*8≤_;omega) (by omega) (fun K k1 k2=>Sm.go 130 ?_)
 refine vv ?_
 exact⟨⟨by omega,by omega⟩,RetQ.ren [(1,120)] (hR ⟨K,k1,by omega⟩ C hL trivial) hP rfl scc rfl rfl trivial ⟨.inr ⟨_,rfl,.inl (renV k1)⟩,trivial⟩ (ClM.of (by simp only[List.cons_append,List.nil_append,List.all_cons,inMV k1];rfl)) (ClV.of rfl)⟩
def flt (zs:List (Sv×List Int))(i:Nat):List Int:=((zs.take i).map (·.2)).flatten
theorem flt_succ {zs:List (Sv×List Int)}{i:Nat}(h:i<zs.length):flt zs (i+1)=flt zs i++zs[i].2:=by
 unfold flt
 rw[List.take_succ_eq_append_getElem h,List.map_append,List.flatten_append]
 simp
theorem flt_len (zs:List (Sv×List Int))(i:Nat):(flt zs i).length≤(zs.map (·.2)).flatten.length:=by
 unfold flt
 conv=>rhs;rw[←List.take_append_drop i zs]
 rw[List.map_append,List.flatten_append,List.length_append]
 omega
theorem concat_ {H:Hp}(v:Sv)(zs:List (Sv×List Int))(hz:SlH H (vsl v zs.length) 1 (zs.map zR))(he:∀z∈zs,SlH H (vsl z.1 z.2.length) 1 (intsR z.2))(h0:0<(zs.map (·.2)).flatten.length)(hn:(zs.map (·.2)).flatten.length≤1000000)(hl:zs.length≤1000000):
  CallX H Tryz.prog 265 [.c (.v (vsl v zs.length))] [] (fun _:Unit=> .c (.sl 1 0 (zs.map (·.2)).flatten.length 1)) (fun _=>[(1,⟨false,(zs.map (·.2)).flatten.map iC,3⟩)]) (fun _ _=>True):=by
 refine CallX.mkS Tryz.func265 rfl en265 (by simp[Tryz.ntmps265]) (ClA.of rfl) (fun _=>rfl) (fun _=>rfl) fun C hR hP hH hL=>?_
 refine Sm.go 100 ?_
 refine vv ?_
 have hzl:(zs.map zR).length=zs.length:=List.length_map _
 have hall:flt zs zs.length=(zs.map (·.2)).flatten:=by unfold flt;rw[List.take_length]
 refine Sm.bringR 1 33 9 (rows:=zs.map zR) (by have:=hz.mono hH;exact this) rfl rfl ?_
 rw[hzl]
 refine Sm.loopM (M0:=[]) (α:={i:Nat//i≤zs.length}) hP (fun i=>[(0,true,.c (.v (vsl v zs.length))),(3,true,I (flt zs i.val).length),(9,true,.c (.sl 1 0 zs.length 1)),(10,true,I zs.length),(11,true,I i.val)])
  (fun _=>[(1,⟨true,rowsC (zs.map zR),33⟩)]) (fun i=>zs.length-i.val) ⟨0,by omega⟩ (fun _=>ClM.of (by simp only[List.all_cons,inMV (rowsC_isV _)];rfl)) (fun _=>ClE.of rfl) [(1,1)] ?_ ?_
 ·exact⟨rfl,trivial,⟨rfl,rfl,rfl,rfl,rfl,trivial⟩,⟨.inr ⟨_,rfl,.inl (renV (rowsC_isV _))⟩,trivial⟩⟩
 rintro⟨i,hi⟩ J hb
 simp only at hb hi⊢
 refine Sm.go 120 ?_
 refine vv ?_
 refine mtch (fun hc=>?_) (fun hc=>?_)
 ·have hc:=lt_of_dec hc
  have hf:=flt_succ hc
  have hlf:(flt zs (i+1)).length=(flt zs i).length+zs[i].2.length:=by rw[hf,List.length_append]
  have hle:=flt_len zs (i+1)
  have e3:(rowsC (zs.map zR))[i]?=some (.v (vsl zs[i].1 zs[i].2.length)):=zr_get (m:=⟨[],[],[],zs,v,v,v⟩) hc
  simp(maxSteps:=2000000) only[go_sem,e3,show IntKind.i64.wrap (((flt zs i).length:Int)+(zs[i].2.length:Int))=((flt zs (i+1)).length:Int) by rw[w64 (by omega) (by omega)];omega,show decide (((flt zs (i+1)).length:Int)<0)=false from decide_eq_false (by omega),wS (show i≤1000000000000000000 by omega)]
  exact⟨⟨by omega,by omega⟩,hb _ _ ⟨i+1,hc⟩ [(1,1)] (by simp only;omega) ⟨rfl,trivial,⟨rfl,rfl,rfl,rfl,rfl,trivial⟩,⟨.inr ⟨_,rfl,.inl (renV (rowsC_isV _))⟩,trivial⟩⟩⟩
 have hc:=eq_of_dec hi hc
 subst hc
 rw[hall]
 refine CallQ.xr [(1,130)] 140 hL (grow_ (H:=H) _ h0 hn) hH rfl trivial ClM.nil (fun _=>rfl) rfl rfl rfl fun K C2 H2 l2 g2 _ _=>?_
 obtain⟨K,k1,k2⟩:=K
 simp only[Mem.ren,List.map_cons,List.map_nil,renV k1,V.ren,Cv.ren,rn,Nat.reduceBEq,cond_true,cond_false]
 refine vv ?_
 refine Sm.bringR 8 33 25 (rows:=zs.map zR) (by have:=hz.mono (hH.trans g2);exact this) rfl rfl ?_
 rw[hzl]
 have hl0:zs.length≠0:=by intro h;rw[List.length_eq_zero_iff]at h;subst h;simp at h0
 refine Sm.loopM (M0:=[]) (α:={z:Nat×List Cv//z.1≤zs.length∧z.2.all Cv.isV=true∧(z.1≠0→z.2=(flt zs z.1).map iC)}) (l2.pins hP) (fun z=>[(6,true,.c (.sl 130 0 (flt zs z.val.1).length 1)),(25,true,.c (.sl 8 0 zs.length 1)),(26,true,I zs.length),(27,true,I z.val.1)])
  (fun z=>[(8,⟨true,rowsC (zs.map zR),33⟩),(130,⟨false,z.val.2,3⟩)]) (fun z=>zs.length-z.val.1) ⟨(0,K),by simp,k1,by simp⟩ (fun z=>ClM.of (by simp only[List.all_cons,inMV (rowsC_isV _),inMV z.2.2.1];rfl)) (fun _=>ClE.of rfl) [(8,8),(130,130)] ?_ ?_
 ·exact⟨rfl,trivial,⟨rfl,rfl,rfl,rfl,trivial⟩,⟨.inr ⟨_,rfl,.inl (renV (rowsC_isV _))⟩,.inr ⟨_,rfl,.inl (renV k1)⟩,trivial⟩⟩
 rintro⟨⟨i,K1⟩,hi,p1,p2⟩ J hb
 simp only at hb hi p1 p2⊢
 refine run_ok 18 _ _ _ 150 ?_
 refine vv ?_
 refine mtch (fun hc=>?_) (fun hc=>?_)
 ·have hc:=lt_of_dec hc
  have hf:=flt_succ hc
  have hlf:(flt zs (i+1)).length=(flt zs i).length+zs[i].2.length:=by rw[hf,List.length_append]
  have hle:=flt_len zs (i+1)
  have e3:(rowsC (zs.map zR))[i]?=some (.v (vsl zs[i].1 zs[i].2.length)):=zr_get (m:=⟨[],[],[],zs,v,v,v⟩) hc
  simp(maxSteps:=2000000) only[go_sem,e3]
  have hmem:zs[i]∈zs:=List.getElem_mem hc
  have htk:K1.take (flt zs i).length=(flt zs i).map iC:=by
   cases i with
   |zero=>rfl
   |succ q=>rw[p2 (by omega)];exact List.take_of_length_le (by simp)
  have htl:(flt zs i).length≤K1.length:=by
   cases i with
   |zero=>exact Nat.zero_le _
   |succ q=>rw[p2 (by omega),List.length_map];exact Nat.le_refl _
  have hti:(zs[i].2.map iC).take zs[i].2.length=zs[i].2.map iC:=List.take_of_length_le (by simp)
  have hon:(zs[i].2.map iC).all Cv.one=true:=List.all_eq_true.2 fun c hc=>by obtain⟨n,_,rfl⟩:=List.mem_map.1 hc;rfl
  have hnew:(flt zs i).map iC++zs[i].2.map iC=(flt zs (i+1)).map iC:=by rw[hf,List.map_append]
  refine⟨⟨by omega,by omega⟩,?_⟩
  refine Sm.bringI 140 3 32 (((he _ hmem).mono hH).mono g2) rfl rfl (Sm.go 150 ?_)
  simp(maxSteps:=2000000) only[go_sem,htk,hti,hon,hnew,←hlf,wS (show i≤1000000000000000000 by omega)]
  exact⟨⟨htl,by simp,by omega,by omega⟩,hb _ _ ⟨(i+1,(flt zs (i+1)).map iC),hc,v_iC _,fun _=>rfl⟩ [(8,8),(130,150)] (by simp only;omega) ⟨rfl,trivial,⟨rfl,rfl,rfl,rfl,trivial⟩,⟨.inr ⟨_,rfl,.inl (renV (rowsC_isV _))⟩,.inr ⟨_,rfl,.inl (renV (v_iC _))⟩,trivial⟩⟩⟩
 ·have hc:=eq_of_dec hi hc
  subst hc
  have hK:=p2 hl0
  subst hK
  have hR:=hR () C2 l2 trivial
  rw[←hall]at hR
  exact RetQ.ren [(1,130)] hR (l2.pins hP) rfl scc rfl rfl trivial ⟨.inr ⟨_,rfl,.inl (renV (v_iC _))⟩,trivial⟩ (ClM.of (by simp only[List.cons_append,List.nil_append,List.all_cons,inMV (rowsC_isV _),inMV (v_iC _)];rfl)) (ClV.of rfl)
def mnG:Int→List Int→Int
 |a,[]=>a
 |a,x::l=>mnG (min a x) l
def mxG:Int→List Int→Int
 |a,[]=>a
 |a,x::l=>mxG (max a x) l
theorem min_ (l:List Int)(h0:0<l.length)(hl:l.length≤1000000):CallOk Tryz.prog 266 [.c (.sl 1 0 l.length 1)] [(1,⟨true,l.map iC,3⟩)] (I (mnG (l.getD 0 0) (l.drop 1))) []:=by
 have g0:=get_iD h0
 have hM:ClM [(1,⟨true,l.map iC,3⟩)]:=ClM.of (by simp only[List.all_cons,inMV (v_iC _)];rfl)
 generalize hq:mnG (l.getD 0 0) (l.drop 1)=q
 refine CallOk.mkN 100 Tryz.func266 rfl en266 (by simp[Tryz.ntmps266]) (ClA.of rfl) rfl rfl fun C hR hP=>?_
 simp(maxSteps:=2000000) only[go_sem,g0,show decide ((l.length:Int)<1)=false from decide_eq_false (by omega)]
 refine⟨by omega,?_⟩
 refine Sm.loopM (M0:=[(1,⟨true,l.map iC,3⟩)]) (α:={z:Nat×Int//0<z.1∧z.1≤l.length∧mnG z.2 (l.drop z.1)=q}) hP (fun z=>[(0,true,.c (.sl 1 0 l.length 1)),(3,true,I z.val.2),(4,true,I z.val.1)])
  (fun _=>[(1,⟨true,l.map iC,3⟩)]) (fun z=>l.length-z.val.1) ⟨(1,l.getD 0 0),by simp,by simp only;omega,hq⟩ (fun _=>hM) (fun _=>ClE.of rfl) [(1,1)] ?_ ?_
 ·exact⟨rfl,⟨⟨rfl,rfl⟩,trivial⟩,⟨rfl,rfl,rfl,trivial⟩,⟨.inr ⟨_,rfl,.inl (renV (v_iC _))⟩,trivial⟩⟩
 rintro⟨⟨i,a⟩,hi0,hi,hx⟩ J hb
 simp only at hb hi hi0 hx⊢
 refine Sm.go 120 ?_
 refine vv ?_
 refine mtch (fun hc=>?_) (fun hc=>?_)
 ·have hc:=lt_of_dec hc
  have gi:=get_iD hc
  have hd:l.drop i=l.getD i 0::l.drop (i+1):=by
   rw[List.drop_eq_getElem_cons hc,List.getD_eq_getElem?_getD,List.getElem?_eq_getElem hc];rfl
  rw[hd,mnG]at hx
  simp(maxSteps:=2000000) only[go_sem,gi,wS (show i≤1000000000000000000 by omega)]
  exact⟨⟨by omega,by omega⟩,hb _ _ ⟨(i+1,min a (l.getD i 0)),by simp only;omega,hc,hx⟩ [(1,1)] (by simp only;omega) ⟨rfl,⟨⟨rfl,rfl⟩,trivial⟩,⟨rfl,rfl,rfl,trivial⟩,⟨.inr ⟨_,rfl,.inl (renV (v_iC _))⟩,trivial⟩⟩⟩
 ·have hc:=eq_of_dec hi hc
  rw[hc,List.drop_length,mnG]at hx
  subst hx
  exact RetQ.of hR rfl scc rfl (SubS.sub ⟨⟨_,rfl,.inl rfl⟩,trivial⟩) hM (ClV.of rfl)
theorem max_ (l:List Int)(h0:0<l.length)(hl:l.length≤1000000):CallOk Tryz.prog 267 [.c (.sl 1 0 l.length 1)] [(1,⟨true,l.map iC,3⟩)] (I (mxG (l.getD 0 0) (l.drop 1))) []:=by
 have g0:=get_iD h0
 have hM:ClM [(1,⟨true,l.map iC,3⟩)]:=ClM.of (by simp only[List.all_cons,inMV (v_iC _)];rfl)
 generalize hq:mxG (l.getD 0 0) (l.drop 1)=q
 refine CallOk.mkN 100 Tryz.func267 rfl en267 (by simp[Tryz.ntmps267]) (ClA.of rfl) rfl rfl fun C hR hP=>?_
 simp(maxSteps:=2000000) only[go_sem,g0,show decide ((l.length:Int)<1)=false from decide_eq_false (by omega)]
 refine⟨by omega,?_⟩
 refine Sm.loopM (M0:=[(1,⟨true,l.map iC,3⟩)]) (α:={z:Nat×Int//0<z.1∧z.1≤l.length∧mxG z.2 (l.drop z.1)=q}) hP (fun z=>[(0,true,.c (.sl 1 0 l.length 1)),(3,true,I z.val.2),(4,true,I z.val.1)])
  (fun _=>[(1,⟨true,l.map iC,3⟩)]) (fun z=>l.length-z.val.1) ⟨(1,l.getD 0 0),by simp,by simp only;omega,hq⟩ (fun _=>hM) (fun _=>ClE.of rfl) [(1,1)] ?_ ?_
 ·exact⟨rfl,⟨⟨rfl,rfl⟩,trivial⟩,⟨rfl,rfl,rfl,trivial⟩,⟨.inr ⟨_,rfl,.inl (renV (v_iC _))⟩,trivial⟩⟩
 rintro⟨⟨i,a⟩,hi0,hi,hx⟩ J hb
 simp only at hb hi hi0 hx⊢
 refine Sm.go 120 ?_
 refine vv ?_
 refine mtch (fun hc=>?_) (fun hc=>?_)
 ·have hc:=lt_of_dec hc
  have gi:=get_iD hc
  have hd:l.drop i=l.getD i 0::l.drop (i+1):=by
   rw[List.drop_eq_getElem_cons hc,List.getD_eq_getElem?_getD,List.getElem?_eq_getElem hc];rfl
  rw[hd,mxG]at hx
  simp(maxSteps:=2000000) only[go_sem,gi,wS (show i≤1000000000000000000 by omega)]
  exact⟨⟨by omega,by omega⟩,hb _ _ ⟨(i+1,max a (l.getD i 0)),by simp only;omega,hc,hx⟩ [(1,1)] (by simp only;omega) ⟨rfl,⟨⟨rfl,rfl⟩,trivial⟩,⟨rfl,rfl,rfl,trivial⟩,⟨.inr ⟨_,rfl,.inl (renV (v_iC _))⟩,trivial⟩⟩⟩
 ·have hc:=eq_of_dec hi hc
  rw[hc,List.drop_length,mxG]at hx
  subst hx
  exact RetQ.of hR rfl scc rfl (SubS.sub ⟨⟨_,rfl,.inl rfl⟩,trivial⟩) hM (ClV.of rfl)
def ptsQ (l:List Int)(r:Int×Int):List Int:=r.1::r.2::l.filter fun x=>decide (r.1<x)&&decide (x<r.2)
theorem points_ {H:Hp}(s:Sv)(l:List Int)(hs:SlH H (vsl s l.length) 1 (intsR l))(hl:l.length≤1000000)(r:Int×Int):CallX H Tryz.prog 264 [.c (.v (vsl s l.length)),rA r] [] (fun _:Unit=> .c (.sl 1 0 (ptsQ l r).length 1)) (fun _=>[(1,⟨false,(ptsQ l r).map iC,3⟩)]) (fun _ _=>True):=by
 have hil:(intsR l).length=l.length:=by simp[intsR]
 generalize hq:ptsQ l r=q
 refine CallX.mkS Tryz.func264 rfl en264 (by simp[Tryz.ntmps264]) (ClA.of rfl) (fun _=>rfl) (fun _=>rfl) fun C hR hP hH hL=>?_
 have hR:=hR () C hL trivial
 refine Sm.go 100 ?_
 refine vv ?_
 refine Sm.bringI 5 3 13 (hs.mono hH) rfl rfl ?_
 refine Sm.loopM (M0:=[]) (α:={z:Nat×List Int//z.1≤l.length∧z.2.length≤z.1+2∧(z.2++(l.drop z.1).filter fun x=>decide (r.1<x)&&decide (x<r.2))=q}) hP (fun z=>[(3,true,.c (.p 3 0)),(5,true,.c (.sl 6 0 z.val.2.length 1)),(13,true,.c (.sl 5 0 l.length 1)),(14,true,I l.length),(15,true,I z.val.1)])
  (fun z=>[(5,⟨true,l.map iC,3⟩),(6,⟨false,z.val.2.map iC,3⟩),(3,⟨false,rC r,45⟩)]) (fun z=>l.length-z.val.1) ⟨(0,[r.1,r.2]),by simp,by simp,hq⟩ (fun _=>ClM.of (by simp only[List.all_cons,inMV (v_iC _)];rfl)) (fun _=>ClE.of rfl) [(5,5),(6,101),(3,100)] ?_ ?_
 ·exact⟨rfl,trivial,⟨rfl,rfl,rfl,rfl,rfl,trivial⟩,⟨.inr ⟨_,rfl,.inl (renV (v_iC _))⟩,.inr ⟨_,rfl,.inl (renV (v_iC _))⟩,.inr ⟨_,rfl,.inl rfl⟩,trivial⟩⟩
 rintro⟨⟨i,a⟩,hi,hal,hx⟩ J hb
 simp only at hb hi hal hx⊢
 refine Sm.go 120 ?_
 refine vv ?_
 refine mtch (fun hc=>?_) (fun hc=>?_)
 ·have hc:=lt_of_dec hc
  have gi:=get_iD hc
  have hd:l.drop i=l.getD i 0::l.drop (i+1):=by
   rw[List.drop_eq_getElem_cons hc,List.getD_eq_getElem?_getD,List.getElem?_eq_getElem hc];rfl
  rw[hd,List.filter_cons]at hx
  generalize l.getD i 0=x at*
  simp(maxSteps:=2000000) only[go_sem,gi]
  refine⟨⟨by omega,by omega⟩,?_⟩
  cases h1:decide (r.1<x)with
  |false=>
   rw[h1,Bool.false_and,if_neg (by simp)]at hx
   simp(maxSteps:=2000000) only[go_sem,wS (show i≤1000000000000000000 by omega)]
   exact hb _ _ ⟨(i+1,a),hc,by simp only;omega,hx⟩ [(5,5),(6,6),(3,3)] (by simp only;omega) ⟨rfl,trivial,⟨rfl,rfl,rfl,rfl,rfl,trivial⟩,⟨.inr ⟨_,rfl,.inl (renV (v_iC _))⟩,.inr ⟨_,rfl,.inl (renV (v_iC _))⟩,.inr ⟨_,rfl,.inl rfl⟩,trivial⟩⟩
  |true=>
   cases h2:decide (x<r.2)with
   |false=>
    rw[h1,h2,Bool.and_false,if_neg (by simp)]at hx
    simp(maxSteps:=2000000) only[go_sem,wS (show i≤1000000000000000000 by omega)]
    exact hb _ _ ⟨(i+1,a),hc,by simp only;omega,hx⟩ [(5,5),(6,6),(3,3)] (by simp only;omega) ⟨rfl,trivial,⟨rfl,rfl,rfl,rfl,rfl,trivial⟩,⟨.inr ⟨_,rfl,.inl (renV (v_iC _))⟩,.inr ⟨_,rfl,.inl (renV (v_iC _))⟩,.inr ⟨_,rfl,.inl rfl⟩,trivial⟩⟩
   |true=>
    rw[h1,h2,Bool.and_true,if_pos rfl]at hx
    have htk:(a.map iC).take a.length=a.map iC:=List.take_of_length_le (by simp)
    have hap:a.map iC++[iC x]=(a++[x]).map iC:=by simp
    have hln:a.length+1=(a++[x]).length:=by simp
    simp(maxSteps:=2000000) only[go_sem,htk,hap,wS (show i≤1000000000000000000 by omega)]
    refine⟨⟨by simp,by omega,by omega⟩,?_⟩
    rw[hln]
    exact hb _ _ ⟨(i+1,a++[x]),hc,by simp only;omega,by simp only[List.append_assoc,List.singleton_append];exact hx⟩ [(5,5),(6,121),(3,3)] (by simp only;omega) ⟨rfl,trivial,⟨rfl,rfl,rfl,rfl,rfl,trivial⟩,⟨.inr ⟨_,rfl,.inl (renV (v_iC _))⟩,.inr ⟨_,rfl,.inl (renV (v_iC _))⟩,.inr ⟨_,rfl,.inl rfl⟩,trivial⟩⟩
 ·have hc:=eq_of_dec hi hc
  rw[hc,List.drop_length,List.filter_nil,List.append_nil]at hx
  subst hx
  exact RetQ.ren [(1,6)] hR hP rfl scc rfl rfl trivial ⟨.inr ⟨_,rfl,.inl (renV (v_iC _))⟩,trivial⟩ (ClM.of (by simp only[List.cons_append,List.nil_append,List.all_cons,inMV (v_iC _)];rfl)) (ClV.of rfl)
end Go.Proofs.YtkciabfilokfiaaGreat.Fx
