/-  -/
import Derived.Test.YtlnpgbnhcondjaaGreatDoorTf
import Derived.Test.YtlnpgbnhcondjaaGreatDoorWH
import Derived.Test.YtlnpgbnhcondjaaGreatDoorYV
import Derived.Test.YtlnpgbnhcondjaaGreatDoorYI
import Derived.Test.YtlnpgbnhcondjaaGreatDoorYE
import Derived.Test.YtlnpgbnhcondjaaGreatDoorZ1
namespace Go.Proofs.YtlnpgbnhcondjaaGreatDoor.Fx
open Vg Tf
set_option linter.unusedSimpArgs false
set_option linter.unusedVariables false
set_option maxRecDepth 100000
set_option maxHeartbeats 4000000
@[reducible] def bRs (U:List Tk)(p:Ps):Nat×Bk:=(1,⟨false,rsC U p,124⟩)
@[reducible] def rX (U:List Tk)(p:Ps)(d:DgL):Mem:=[bRs U p,(2,⟨true,rowsC (U.map Tk.r),57⟩),bRw 10 Td.r 93 d.tys,bRw 11 CuL.r 110 d.cus,bRw 12 MpL.r 115 d.mas,bRw 13 Po.r 118 d.ins,bRw 14 BlL.r 82 d.bls,(15,⟨false,d.ous.map sC,9⟩)]
def lnR:Nat→DgL→Mem
 |0,x=>[bRw 20 Td.r 93 x.tys,bDd 10 93]
 |1,x=>[bRw 21 CuL.r 110 x.cus,bDd 11 110]
 |2,x=>[bRw 22 MpL.r 115 x.mas,bDd 12 115]
 |3,x=>[bRw 23 Po.r 118 x.ins,bDd 13 118]
 |4,x=>[bRw 24 BlL.r 82 x.bls,bDd 14 82]
 |5,x=>[(25,⟨false,x.ous.map sC,9⟩),bDd 15 9]
 |_,_=>[]
abbrev ps1:Ps:=⟨1,0,0,0⟩
theorem rFl_c (U:List Tk)(m:Nat)(p:Ps):rFl U m p=bif decide ((30:Int)<((m+1:Nat):Int))then rRef U 0 5 p else p:=by
 unfold rFl
 have:decide (30<m+1)=decide ((30:Int)<((m+1:Nat):Int)):=by rw[decide_eq_decide];omega
 rw[this]
theorem rBf_c (U:List Tk)(m:Nat)(p:Ps):rBf U m p=bif decide ((30:Int)<(((m+1:Nat):Int)-200+30))then rRef U 0 5 p else p:=by
 unfold rBf
 have:decide (200<m+1)=decide ((30:Int)<(((m+1:Nat):Int)-200+30)):=by rw[decide_eq_decide];omega
 rw[this]
theorem radd0_ {H:Hp}(U:List Tk)(V:VT U)(hS:StU U)(h:1<U.length)(d:DgL)(hb:d.bd)(hd:d.inn H)(ht:(U.getD 0 tk0).s=[116,121,112,101]):
  CallX H Tryz.prog 65 [.c (.p 1 0),.agg (dgC d)] (rX U ps0 d) (fun x:DgL=> .agg (dgN 0 x)) (fun x=>bRs U (rAdd U d.c).2::lnR 0 x) (fun x H'=>x.c=(rAdd U d.c).1∧x.inn H'∧lnE 0 d x):=by
 have hn:=V.n
 have hU:U.length≤100000:=by omega
 obtain⟨_,t1,_⟩:=tk_at U 0 (by omega)
 rw[ht]at t1
 refine CallX.mk 16 Tryz.func65 rfl en65 (by simp[Tryz.ntmps65]) (ClA.of rfl) (fun _=>rfl) (fun _=>rfl) fun C hR hP hH hL=>?_
 rw[rAdd,if_pos ht]at hR
 simp(maxSteps:=2000000) only[go_sem,t1]
 refine⟨by omega,?_⟩
 have hlen:=rows_len (r:=Td.r) (k:=11) (fun _=>rfl) d.tys
 have hbd:=hb.tys
 unfold rbd at hR
 dsimp only at hR
 have hcl:d.c.tys.length=d.tys.length:=rfl
 rw[hcl]at hR
 have c1:=rtyped_ U V hS ps1 h
 generalize rTyp U ps1=X at*
 have hap:=rows_app Td.r (k:=11) (fun _=>rfl) d.tys X.1
 simp only[Td.r,ftR,List.map_cons,List.map_nil]at hap
 refine Sm.dgW [1] 18 5 mix ?_
 simp(maxSteps:=2000000) only[go_sem,Mem.wo]
 refine DCallQ.mio 19 c1 (rM_cl U ps1) rfl ⟨.inr ⟨rfl,rfl⟩,.inl rfl,trivial⟩ rfl rfl (.inl rfl) ?_
 simp(maxSteps:=2000000) only[go_sem,Mem.wo,hlen,hap]
 refine⟨⟨by omega,by omega,by omega⟩,?_⟩
 have hln:(d.tys++[X.1]).length=d.tys.length+1:=List.length_append
 have hdm:=hd.mono hH
 rw[rFl_c]at hR
 refine mtch (fun hc=>?_) (fun hc=>?_)
 ·rw[hc,cond_true]at hR
  refine CallQ.mi 30 (refuse_ U hU X.2 0 (by omega) 5) (rM_cl U X.2) ⟨oS,oS,trivial⟩ ?_
  refine vv ?_
  have hR2:=hR ({d with tys:=d.tys++[X.1]}:DgL) C hL ⟨rfl,⟨hdm.cus,hdm.mas,hdm.bls⟩,fun h=>absurd rfl h,fun _=>rfl,fun _=>rfl,fun _=>rfl,fun _=>rfl,fun _=>rfl⟩
  simp only[lnR,dgN,nm6,Nat.reduceBEq,Nat.reduceAdd,cond_true,cond_false,hln]at hR2
  exact RetQ.of hR2 rfl (vv trivial) rfl (SubV.sub0 ⟨oR,oR,oR,oL,oR,oL,oR,oR,oR,oR,oR,trivial⟩) (ClM.of (by simp only[List.cons_append,List.nil_append,List.all_cons,inMV (rowsC_isV _),inMV (v_sC _)];rfl)) (ClV.of rfl)
 ·rw[hc,cond_false]at hR
  have hR2:=hR ({d with tys:=d.tys++[X.1]}:DgL) C hL ⟨rfl,⟨hdm.cus,hdm.mas,hdm.bls⟩,fun h=>absurd rfl h,fun _=>rfl,fun _=>rfl,fun _=>rfl,fun _=>rfl,fun _=>rfl⟩
  simp only[lnR,dgN,nm6,Nat.reduceBEq,Nat.reduceAdd,cond_true,cond_false,hln]at hR2
  exact RetQ.of hR2 rfl (vv trivial) rfl (SubV.sub0 ⟨oR,oR,oR,oL,oR,oL,oR,oR,oR,oR,oR,trivial⟩) (ClM.of (by simp only[List.cons_append,List.nil_append,List.all_cons,inMV (rowsC_isV _),inMV (v_sC _)];rfl)) (ClV.of rfl)
theorem radd1_ {H:Hp}(U:List Tk)(V:VT U)(hS:StU U)(h:1<U.length)(d:DgL)(hb:d.bd)(hd:d.inn H)(ht:(U.getD 0 tk0).s=[99,117,114,118,101]):
  CallX H Tryz.prog 65 [.c (.p 1 0),.agg (dgC d)] (rX U ps0 d) (fun x:DgL=> .agg (dgN 1 x)) (fun x=>bRs U (rAdd U d.c).2::lnR 1 x) (fun x H'=>x.c=(rAdd U d.c).1∧x.inn H'∧lnE 1 d x):=by
 have hn:=V.n
 have hU:U.length≤100000:=by omega
 obtain⟨_,t1,_⟩:=tk_at U 0 (by omega)
 rw[ht]at t1
 refine CallX.mk 16 Tryz.func65 rfl en65 (by simp[Tryz.ntmps65]) (ClA.of rfl) (fun _=>rfl) (fun _=>rfl) fun C hR hP hH hL=>?_
 rw[rAdd,if_neg (by rw[ht];decide),if_pos ht]at hR
 have n0:(([99,117,114,118,101]:Str)==[116,121,112,101])=false:=by decide
 simp(maxSteps:=2000000) only[go_sem,t1,n0]
 refine⟨by omega,?_⟩
 have hlen:=rows_len (r:=CuL.r) (k:=3) (fun _=>rfl) d.cus
 have hbd:=hb.cus
 unfold rbd at hR
 dsimp only at hR
 have hcl:d.c.cus.length=d.cus.length:=List.length_map _
 rw[hcl]at hR
 have c1:=rcurved_ (H:=C.hp) U V hS ps1 h
 generalize rCur U ps1=X at*
 refine Sm.dgoX [1] 18 3 mix (by decide+kernel) (by decide+kernel) ?_
 simp(maxSteps:=2000000) only[go_sem,Mem.wo]
 refine XQ.x 20 hL c1 (Hp.le.refl _) ⟨oS,oS,trivial⟩ (rM_cl U ps1) rfl (fun _=>rfl) (fun _=>rfl) (fun x Cn H' l1 l2 l3 hQ=>?_)
 obtain⟨hxc,hxo⟩:=hQ
 have hxo:=hxo.mono l3
 have hap:=rows_app CuL.r (k:=3) (fun _=>rfl) d.cus x
 simp only[CuL.r,List.map_cons,List.map_nil]at hap
 simp(maxSteps:=2000000) only[go_sem,Mem.wo,hlen,hap]
 refine⟨⟨by omega,by omega,by omega⟩,?_⟩
 have hln:(d.cus++[x]).length=d.cus.length+1:=List.length_append
 have hdm:=hd.mono (hH.trans l2)
 rw[rFl_c]at hR
 refine mtch (fun hc=>?_) (fun hc=>?_)
 ·rw[hc,cond_true]at hR
  refine CallQ.mi 30 (refuse_ U hU X.2 0 (by omega) 5) (rM_cl U X.2) ⟨oS,oS,trivial⟩ ?_
  refine vv ?_
  have hR2:=hR ({d with cus:=d.cus++[x]}:DgL) Cn l1 ⟨by simp[DgL.c,hxc],⟨(fun c hc=>(List.mem_append.1 hc).elim (hdm.cus c) (fun hc=>(List.mem_singleton.1 hc)▸hxo)),hdm.mas,hdm.bls⟩,fun _=>rfl,fun h=>absurd rfl h,fun _=>rfl,fun _=>rfl,fun _=>rfl,fun _=>rfl⟩
  simp only[lnR,dgN,nm6,Nat.reduceBEq,Nat.reduceAdd,cond_true,cond_false,hln]at hR2
  exact RetQ.of hR2 rfl (vv trivial) rfl (SubV.sub0 ⟨oR,oR,oR,oL,oR,oR,oL,oR,oR,oR,oR,trivial⟩) (ClM.of (by simp only[List.cons_append,List.nil_append,List.all_cons,inMV (rowsC_isV _),inMV (v_sC _)];rfl)) (ClV.of rfl)
 ·rw[hc,cond_false]at hR
  have hR2:=hR ({d with cus:=d.cus++[x]}:DgL) Cn l1 ⟨by simp[DgL.c,hxc],⟨(fun c hc=>(List.mem_append.1 hc).elim (hdm.cus c) (fun hc=>(List.mem_singleton.1 hc)▸hxo)),hdm.mas,hdm.bls⟩,fun _=>rfl,fun h=>absurd rfl h,fun _=>rfl,fun _=>rfl,fun _=>rfl,fun _=>rfl⟩
  simp only[lnR,dgN,nm6,Nat.reduceBEq,Nat.reduceAdd,cond_true,cond_false,hln]at hR2
  exact RetQ.of hR2 rfl (vv trivial) rfl (SubV.sub0 ⟨oR,oR,oR,oL,oR,oR,oL,oR,oR,oR,oR,trivial⟩) (ClM.of (by simp only[List.cons_append,List.nil_append,List.all_cons,inMV (rowsC_isV _),inMV (v_sC _)];rfl)) (ClV.of rfl)
theorem radd2_ {H:Hp}(U:List Tk)(V:VT U)(hS:StU U)(h:1<U.length)(d:DgL)(hb:d.bd)(hd:d.inn H)(ht:(U.getD 0 tk0).s=[109,97,112]):
  CallX H Tryz.prog 65 [.c (.p 1 0),.agg (dgC d)] (rX U ps0 d) (fun x:DgL=> .agg (dgN 2 x)) (fun x=>bRs U (rAdd U d.c).2::lnR 2 x) (fun x H'=>x.c=(rAdd U d.c).1∧x.inn H'∧lnE 2 d x):=by
 have hn:=V.n
 have hU:U.length≤100000:=by omega
 obtain⟨_,t1,_⟩:=tk_at U 0 (by omega)
 rw[ht]at t1
 refine CallX.mk 16 Tryz.func65 rfl en65 (by simp[Tryz.ntmps65]) (ClA.of rfl) (fun _=>rfl) (fun _=>rfl) fun C hR hP hH hL=>?_
 rw[rAdd,if_neg (by rw[ht];decide),if_neg (by rw[ht];decide),if_pos ht]at hR
 have n0:(([109,97,112]:Str)==[116,121,112,101])=false:=by decide
 have n1:(([109,97,112]:Str)==[99,117,114,118,101])=false:=by decide
 simp(maxSteps:=2000000) only[go_sem,t1,n0,n1]
 refine⟨by omega,?_⟩
 have hlen:=rows_len (r:=MpL.r) (k:=4) (fun _=>rfl) d.mas
 have hbd:=hb.mas
 unfold rbd at hR
 dsimp only at hR
 have hcl:d.c.mas.length=d.mas.length:=List.length_map _
 rw[hcl]at hR
 have c1:=rmapped_ (H:=C.hp) U V hS ps1 h
 generalize rMap U ps1=X at*
 refine Sm.dgoX [1] 18 3 mix (by decide+kernel) (by decide+kernel) ?_
 simp(maxSteps:=2000000) only[go_sem,Mem.wo]
 refine XQ.x 21 hL c1 (Hp.le.refl _) ⟨oS,oS,trivial⟩ (rM_cl U ps1) rfl (fun _=>rfl) (fun _=>rfl) (fun x Cn H' l1 l2 l3 hQ=>?_)
 obtain⟨hxc,hxo⟩:=hQ
 have hxo:=hxo.mono l3
 have hap:=rows_app MpL.r (k:=4) (fun _=>rfl) d.mas x
 simp only[MpL.r,List.map_cons,List.map_nil]at hap
 simp(maxSteps:=2000000) only[go_sem,Mem.wo,hlen,hap]
 refine⟨⟨by omega,by omega,by omega⟩,?_⟩
 have hln:(d.mas++[x]).length=d.mas.length+1:=List.length_append
 have hdm:=hd.mono (hH.trans l2)
 rw[rFl_c]at hR
 refine mtch (fun hc=>?_) (fun hc=>?_)
 ·rw[hc,cond_true]at hR
  refine CallQ.mi 30 (refuse_ U hU X.2 0 (by omega) 5) (rM_cl U X.2) ⟨oS,oS,trivial⟩ ?_
  refine vv ?_
  have hR2:=hR ({d with mas:=d.mas++[x]}:DgL) Cn l1 ⟨by simp[DgL.c,hxc],⟨hdm.cus,(fun c hc=>(List.mem_append.1 hc).elim (hdm.mas c) (fun hc=>(List.mem_singleton.1 hc)▸hxo)),hdm.bls⟩,fun _=>rfl,fun _=>rfl,fun h=>absurd rfl h,fun _=>rfl,fun _=>rfl,fun _=>rfl⟩
  simp only[lnR,dgN,nm6,Nat.reduceBEq,Nat.reduceAdd,cond_true,cond_false,hln]at hR2
  exact RetQ.of hR2 rfl (vv trivial) rfl (SubV.sub0 ⟨oR,oR,oR,oL,oR,oR,oR,oL,oR,oR,oR,trivial⟩) (ClM.of (by simp only[List.cons_append,List.nil_append,List.all_cons,inMV (rowsC_isV _),inMV (v_sC _)];rfl)) (ClV.of rfl)
 ·rw[hc,cond_false]at hR
  have hR2:=hR ({d with mas:=d.mas++[x]}:DgL) Cn l1 ⟨by simp[DgL.c,hxc],⟨hdm.cus,(fun c hc=>(List.mem_append.1 hc).elim (hdm.mas c) (fun hc=>(List.mem_singleton.1 hc)▸hxo)),hdm.bls⟩,fun _=>rfl,fun _=>rfl,fun h=>absurd rfl h,fun _=>rfl,fun _=>rfl,fun _=>rfl⟩
  simp only[lnR,dgN,nm6,Nat.reduceBEq,Nat.reduceAdd,cond_true,cond_false,hln]at hR2
  exact RetQ.of hR2 rfl (vv trivial) rfl (SubV.sub0 ⟨oR,oR,oR,oL,oR,oR,oR,oL,oR,oR,oR,trivial⟩) (ClM.of (by simp only[List.cons_append,List.nil_append,List.all_cons,inMV (rowsC_isV _),inMV (v_sC _)];rfl)) (ClV.of rfl)
theorem radd3_ {H:Hp}(U:List Tk)(V:VT U)(hS:StU U)(h:1<U.length)(d:DgL)(hb:d.bd)(hd:d.inn H)(ht:(U.getD 0 tk0).s=[105,110]):
  CallX H Tryz.prog 65 [.c (.p 1 0),.agg (dgC d)] (rX U ps0 d) (fun x:DgL=> .agg (dgN 3 x)) (fun x=>bRs U (rAdd U d.c).2::lnR 3 x) (fun x H'=>x.c=(rAdd U d.c).1∧x.inn H'∧lnE 3 d x):=by
 have hn:=V.n
 have hU:U.length≤100000:=by omega
 obtain⟨_,t1,_⟩:=tk_at U 0 (by omega)
 rw[ht]at t1
 refine CallX.mk 16 Tryz.func65 rfl en65 (by simp[Tryz.ntmps65]) (ClA.of rfl) (fun _=>rfl) (fun _=>rfl) fun C hR hP hH hL=>?_
 rw[rAdd,if_neg (by rw[ht];decide),if_neg (by rw[ht];decide),if_neg (by rw[ht];decide),if_pos ht]at hR
 have n0:(([105,110]:Str)==[116,121,112,101])=false:=by decide
 have n1:(([105,110]:Str)==[99,117,114,118,101])=false:=by decide
 have n2:(([105,110]:Str)==[109,97,112])=false:=by decide
 simp(maxSteps:=2000000) only[go_sem,t1,n0,n1,n2]
 refine⟨by omega,?_⟩
 have hlen:=rows_len (r:=Po.r) (k:=4) (fun _=>rfl) d.ins
 have hbd:=hb.ins
 unfold rbd at hR
 dsimp only at hR
 have hcl:d.c.ins.length=d.ins.length:=rfl
 rw[hcl]at hR
 have c1:=rinput_ U V hS ps1 h
 generalize rInp U ps1=X at*
 have hap:=rows_app Po.r (k:=4) (fun _=>rfl) d.ins X.1
 simp only[Po.r,List.map_cons,List.map_nil]at hap
 refine Sm.dgW [1] 18 5 mix ?_
 simp(maxSteps:=2000000) only[go_sem,Mem.wo]
 refine DCallQ.mio 22 c1 (rM_cl U ps1) rfl ⟨.inr ⟨rfl,rfl⟩,.inl rfl,trivial⟩ rfl rfl (.inl rfl) ?_
 simp(maxSteps:=2000000) only[go_sem,Mem.wo,hlen,hap]
 refine⟨⟨by omega,by omega,by omega⟩,?_⟩
 have hln:(d.ins++[X.1]).length=d.ins.length+1:=List.length_append
 have hdm:=hd.mono hH
 rw[rFl_c]at hR
 refine mtch (fun hc=>?_) (fun hc=>?_)
 ·rw[hc,cond_true]at hR
  refine CallQ.mi 30 (refuse_ U hU X.2 0 (by omega) 5) (rM_cl U X.2) ⟨oS,oS,trivial⟩ ?_
  refine vv ?_
  have hR2:=hR ({d with ins:=d.ins++[X.1]}:DgL) C hL ⟨rfl,⟨hdm.cus,hdm.mas,hdm.bls⟩,fun _=>rfl,fun _=>rfl,fun _=>rfl,fun h=>absurd rfl h,fun _=>rfl,fun _=>rfl⟩
  simp only[lnR,dgN,nm6,Nat.reduceBEq,Nat.reduceAdd,cond_true,cond_false,hln]at hR2
  exact RetQ.of hR2 rfl (vv trivial) rfl (SubV.sub0 ⟨oR,oR,oR,oL,oR,oR,oR,oR,oL,oR,oR,trivial⟩) (ClM.of (by simp only[List.cons_append,List.nil_append,List.all_cons,inMV (rowsC_isV _),inMV (v_sC _)];rfl)) (ClV.of rfl)
 ·rw[hc,cond_false]at hR
  have hR2:=hR ({d with ins:=d.ins++[X.1]}:DgL) C hL ⟨rfl,⟨hdm.cus,hdm.mas,hdm.bls⟩,fun _=>rfl,fun _=>rfl,fun _=>rfl,fun h=>absurd rfl h,fun _=>rfl,fun _=>rfl⟩
  simp only[lnR,dgN,nm6,Nat.reduceBEq,Nat.reduceAdd,cond_true,cond_false,hln]at hR2
  exact RetQ.of hR2 rfl (vv trivial) rfl (SubV.sub0 ⟨oR,oR,oR,oL,oR,oR,oR,oR,oL,oR,oR,trivial⟩) (ClM.of (by simp only[List.cons_append,List.nil_append,List.all_cons,inMV (rowsC_isV _),inMV (v_sC _)];rfl)) (ClV.of rfl)
theorem radd4_ {H:Hp}(U:List Tk)(V:VT U)(hS:StU U)(h:1<U.length)(d:DgL)(hb:d.bd)(hd:d.inn H)(ht:(U.getD 0 tk0).s=[98,108,111,99,107]):
  CallX H Tryz.prog 65 [.c (.p 1 0),.agg (dgC d)] (rX U ps0 d) (fun x:DgL=> .agg (dgN 4 x)) (fun x=>bRs U (rAdd U d.c).2::lnR 4 x) (fun x H'=>x.c=(rAdd U d.c).1∧x.inn H'∧lnE 4 d x):=by
 have hn:=V.n
 have hU:U.length≤100000:=by omega
 obtain⟨_,t1,_⟩:=tk_at U 0 (by omega)
 rw[ht]at t1
 refine CallX.mk 16 Tryz.func65 rfl en65 (by simp[Tryz.ntmps65]) (ClA.of rfl) (fun _=>rfl) (fun _=>rfl) fun C hR hP hH hL=>?_
 rw[rAdd,if_neg (by rw[ht];decide),if_neg (by rw[ht];decide),if_neg (by rw[ht];decide),if_neg (by rw[ht];decide),if_pos ht]at hR
 have n0:(([98,108,111,99,107]:Str)==[116,121,112,101])=false:=by decide
 have n1:(([98,108,111,99,107]:Str)==[99,117,114,118,101])=false:=by decide
 have n2:(([98,108,111,99,107]:Str)==[109,97,112])=false:=by decide
 have n3:(([98,108,111,99,107]:Str)==[105,110])=false:=by decide
 simp(maxSteps:=2000000) only[go_sem,t1,n0,n1,n2,n3]
 refine⟨by omega,?_⟩
 have hlen:=rows_len (r:=BlL.r) (k:=6) (fun _=>rfl) d.bls
 have hbd:=hb.bls
 unfold rbd at hR
 dsimp only at hR
 have hcl:d.c.bls.length=d.bls.length:=List.length_map _
 rw[hcl]at hR
 have hbd:d.bls.length≤1000000:=hbd
 have wm:IntKind.i64.wrap ((IntKind.i64.wrap (((d.bls.length+1:Nat):Int)-200))+30)=((d.bls.length+1:Nat):Int)-200+30:=by rw[w64 (x:=((d.bls.length+1:Nat):Int)-200) (by omega) (by omega),w64 (by omega) (by omega)]
 have c1:=rdblock_ (H:=C.hp) U V hS ps1 h
 generalize rBlk U ps1=X at*
 refine Sm.dgoX [1] 18 3 mix (by decide+kernel) (by decide+kernel) ?_
 simp(maxSteps:=2000000) only[go_sem,Mem.wo]
 refine XQ.x 23 hL c1 (Hp.le.refl _) ⟨oS,oS,trivial⟩ (rM_cl U ps1) rfl (fun _=>rfl) (fun _=>rfl) (fun x Cn H' l1 l2 l3 hQ=>?_)
 obtain⟨hxc,hxo⟩:=hQ
 have hxo:=hxo.mono l3
 have hap:=rows_app BlL.r (k:=6) (fun _=>rfl) d.bls x
 simp only[BlL.r,List.map_cons,List.map_nil]at hap
 simp(maxSteps:=2000000) only[go_sem,Mem.wo,hlen,hap,wm]
 refine⟨⟨by omega,by omega,by omega⟩,?_⟩
 have hln:(d.bls++[x]).length=d.bls.length+1:=List.length_append
 have hdm:=hd.mono (hH.trans l2)
 rw[rBf_c]at hR
 refine mtch (fun hc=>?_) (fun hc=>?_)
 ·rw[hc,cond_true]at hR
  refine CallQ.mi 30 (refuse_ U hU X.2 0 (by omega) 5) (rM_cl U X.2) ⟨oS,oS,trivial⟩ ?_
  refine vv ?_
  have hR2:=hR ({d with bls:=d.bls++[x]}:DgL) Cn l1 ⟨by simp[DgL.c,hxc],⟨hdm.cus,hdm.mas,(fun c hc=>(List.mem_append.1 hc).elim (hdm.bls c) (fun hc=>(List.mem_singleton.1 hc)▸hxo))⟩,fun _=>rfl,fun _=>rfl,fun _=>rfl,fun _=>rfl,fun h=>absurd rfl h,fun _=>rfl⟩
  simp only[lnR,dgN,nm6,Nat.reduceBEq,Nat.reduceAdd,cond_true,cond_false,hln]at hR2
  exact RetQ.of hR2 rfl (vv trivial) rfl (SubV.sub0 ⟨oR,oR,oR,oL,oR,oR,oR,oR,oR,oL,oR,trivial⟩) (ClM.of (by simp only[List.cons_append,List.nil_append,List.all_cons,inMV (rowsC_isV _),inMV (v_sC _)];rfl)) (ClV.of rfl)
 ·rw[hc,cond_false]at hR
  have hR2:=hR ({d with bls:=d.bls++[x]}:DgL) Cn l1 ⟨by simp[DgL.c,hxc],⟨hdm.cus,hdm.mas,(fun c hc=>(List.mem_append.1 hc).elim (hdm.bls c) (fun hc=>(List.mem_singleton.1 hc)▸hxo))⟩,fun _=>rfl,fun _=>rfl,fun _=>rfl,fun _=>rfl,fun h=>absurd rfl h,fun _=>rfl⟩
  simp only[lnR,dgN,nm6,Nat.reduceBEq,Nat.reduceAdd,cond_true,cond_false,hln]at hR2
  exact RetQ.of hR2 rfl (vv trivial) rfl (SubV.sub0 ⟨oR,oR,oR,oL,oR,oR,oR,oR,oR,oL,oR,trivial⟩) (ClM.of (by simp only[List.cons_append,List.nil_append,List.all_cons,inMV (rowsC_isV _),inMV (v_sC _)];rfl)) (ClV.of rfl)
theorem radd5_ {H:Hp}(U:List Tk)(V:VT U)(hS:StU U)(h:1<U.length)(d:DgL)(hb:d.bd)(hd:d.inn H)(ht:(U.getD 0 tk0).s=[111,117,116]):
  CallX H Tryz.prog 65 [.c (.p 1 0),.agg (dgC d)] (rX U ps0 d) (fun x:DgL=> .agg (dgN 5 x)) (fun x=>bRs U (rAdd U d.c).2::lnR 5 x) (fun x H'=>x.c=(rAdd U d.c).1∧x.inn H'∧lnE 5 d x):=by
 have hn:=V.n
 have hU:U.length≤100000:=by omega
 obtain⟨_,t1,_⟩:=tk_at U 0 (by omega)
 rw[ht]at t1
 refine CallX.mk 16 Tryz.func65 rfl en65 (by simp[Tryz.ntmps65]) (ClA.of rfl) (fun _=>rfl) (fun _=>rfl) fun C hR hP hH hL=>?_
 rw[rAdd,if_neg (by rw[ht];decide),if_neg (by rw[ht];decide),if_neg (by rw[ht];decide),if_neg (by rw[ht];decide),if_neg (by rw[ht];decide),if_pos ht]at hR
 have n0:(([111,117,116]:Str)==[116,121,112,101])=false:=by decide
 have n1:(([111,117,116]:Str)==[99,117,114,118,101])=false:=by decide
 have n2:(([111,117,116]:Str)==[109,97,112])=false:=by decide
 have n3:(([111,117,116]:Str)==[105,110])=false:=by decide
 have n4:(([111,117,116]:Str)==[98,108,111,99,107])=false:=by decide
 simp(maxSteps:=2000000) only[go_sem,t1,n0,n1,n2,n3,n4]
 refine⟨by omega,?_⟩
 have hbd:=hb.ous
 unfold rbd rOut rbd at hR
 dsimp only at hR
 have hdo:d.c.ous=d.ous:=rfl
 rw[hdo]at hR
 refine Sm.loopM (M0:=rX U ps0 d) (α:={x:Bool×List Str×Ps//x.2.2.at_<U.length∧x.2.1.length≤x.2.2.at_∧∃f,U.length≤x.2.2.at_+f∧rNms U f x.2.1 x.2.2=rNms U 40000 [] ps1}) hP
  (fun x=>[(0,true,.c (.p 1 0)),(3,true,.c (.p 16 0)),(4,true,.c (.p 17 0))])
  (fun x=>match x.val.1 with|true=>[bRs U x.val.2.2,(2,⟨true,rowsC (U.map Tk.r),57⟩),(16,⟨false,[.v (sv d.nm),.sl 10 0 d.tys.length 11,.sl 11 0 d.cus.length 3,.sl 12 0 d.mas.length 4,.sl 13 0 d.ins.length 4,.sl 14 0 d.bls.length 6,.sl 15 0 (d.ous++x.val.2.1).length 1],30⟩),(17,⟨false,[.v (sv []),.v (.slice none 0 0),.v (.slice none 0 0),.v (.slice none 0 0),.v (.slice none 0 0),.v (.slice none 0 0),.v (.slice none 0 0)],30⟩),bRw 10 Td.r 93 d.tys,bRw 11 CuL.r 110 d.cus,bRw 12 MpL.r 115 d.mas,bRw 13 Po.r 118 d.ins,bRw 14 BlL.r 82 d.bls,(15,⟨false,(d.ous++x.val.2.1).map sC,9⟩)]|false=>[bRs U x.val.2.2,(2,⟨true,rowsC (U.map Tk.r),57⟩),(16,⟨false,[.v (sv d.nm),.sl 10 0 d.tys.length 11,.sl 11 0 d.cus.length 3,.sl 12 0 d.mas.length 4,.sl 13 0 d.ins.length 4,.sl 14 0 d.bls.length 6,.sl 25 0 (d.ous++x.val.2.1).length 1],30⟩),(17,⟨false,[.v (sv []),.v (.slice none 0 0),.v (.slice none 0 0),.v (.slice none 0 0),.v (.slice none 0 0),.v (.slice none 0 0),.v (.slice none 0 0)],30⟩),bRw 10 Td.r 93 d.tys,bRw 11 CuL.r 110 d.cus,bRw 12 MpL.r 115 d.mas,bRw 13 Po.r 118 d.ins,bRw 14 BlL.r 82 d.bls,(15,dead 9),(25,⟨false,(d.ous++x.val.2.1).map sC,9⟩)]) (fun x=>U.length-x.val.2.2.at_) ⟨(true,[],ps1),h,Nat.zero_le _,40000,by simp only;omega,rfl⟩
  (fun x=>by obtain⟨⟨b,l,q⟩,_⟩:=x;cases b<;>exact ClM.of (by simp only[List.all_cons,inMV (rowsC_isV _),inMV (v_sC _)];rfl)) (fun x=>by obtain⟨⟨b,l,q⟩,_⟩:=x;cases b<;>exact ClE.of rfl) [(1,1),(2,2),(10,10),(11,11),(12,12),(13,13),(14,14),(15,15),(16,16),(17,17)] ?_ ?_
 ·simp only[List.append_nil]
  exact⟨rfl,⟨⟨rfl,rfl⟩,⟨rfl,rfl⟩,⟨rfl,rfl⟩,⟨rfl,rfl⟩,⟨rfl,rfl⟩,⟨rfl,rfl⟩,⟨rfl,rfl⟩,⟨rfl,rfl⟩,trivial⟩,⟨rfl,rfl,rfl,trivial⟩,⟨oR,oV (renV (rowsC_isV _)),oR,oR,oV (renV (rowsC_isV _)),oV (renV (rowsC_isV _)),oV (renV (rowsC_isV _)),oV (renV (rowsC_isV _)),oV (renV (rowsC_isV _)),oV (renV (v_sC _)),trivial⟩⟩
 rintro⟨⟨fi,l,q⟩,hq,hle,f',hf1,hf2⟩ J hb
 simp only at hb hq hle hf1 hf2⊢
 obtain⟨f',rfl⟩:∃k,f'=k+1:=⟨f'-1,by omega⟩
 rw[rNms]at hf2
 unfold rbd at hf2
 dsimp only at hf2
 have n1:=rNam_lt V hq
 have d1:=rname_ U hU q hq (hS.h q) n1
 have hnle:=rNam_le (U:=U) q
 generalize rNam U q=z at*
 have hlx:((d.ous++l).map sC).length=(d.ous++l).length:=List.length_map _
 have hax:List.take (d.ous++l).length ((d.ous++l).map sC)++[sC z.1]=(d.ous++(l++[z.1])).map sC:=by rw[List.take_of_length_le (by omega),←List.append_assoc,List.map_append (l₁:=d.ous++l)];rfl
 have hLx:(d.ous++(l++[z.1])).length=(d.ous++l).length+1:=by simp only[List.length_append,List.length_cons,List.length_nil];omega
 have hLd:(d.ous++l).length=d.ous.length+l.length:=List.length_append
 have his:=ris_ U hU z.2 n1 3 [44]
 have c6:=rend_ U hU z.2 n1
 have hbo:d.ous.length≤1000000:=hbd
 have hse:rNms U 40000 [] ps1=(l++[z.1],z.2)→∀x0:DgL,x0={d with ous:=d.ous++(l++[z.1])}→∀Cn,Lf C Cn→H.le Cn.hp→RetOk Tryz.prog Cn Tryz.f65 (.agg (dgN 5 x0)) (bRs U (bif decide ((30:Int)<(((d.ous++l).length+1:Nat):Int))then rRef U 0 5 (rEnd U z.2)else rEnd U z.2)::lnR 5 x0++rX U ps0 d):=fun hy x0 h0 Cn hl hhp=>by
  subst h0
  rw[hy]at hR
  have hdm:=hd.mono hhp
  have hR2:=hR ({d with ous:=d.ous++(l++[z.1])}:DgL) Cn hl ⟨rfl,⟨hdm.cus,hdm.mas,hdm.bls⟩,fun _=>rfl,fun _=>rfl,fun _=>rfl,fun _=>rfl,fun _=>rfl,fun h=>absurd rfl h⟩
  have:decide (30<d.ous.length+(l++[z.1]).length)=decide ((30:Int)<(((d.ous++l).length+1:Nat):Int)):=by rw[decide_eq_decide,List.length_append,hLd];simp only[List.length_cons,List.length_nil];omega
  dsimp only at hR2
  rw[this]at hR2
  exact hR2
 cases fi with
 |true=>
  refine Sm.go 200 ?_
  refine vv ?_
  refine Sm.dgW [1] 200 5 mix ?_
  simp(maxSteps:=2000000) only[go_sem,Mem.wo]
  refine DCallQ.mio 210 d1 (rM_cl U q) rfl ⟨.inr ⟨rfl,rfl⟩,.inl rfl,trivial⟩ rfl rfl (.inl rfl) ?_
  simp(maxSteps:=2000000) only[go_sem,Mem.wo,hlx,hax]
  refine⟨⟨by omega,by omega,by omega⟩,?_⟩
  refine CallQ.mi 220 his (rM_cl U z.2) ⟨oS,oS,trivial⟩ ?_
  cases hi44:rIs U 3 [44] z.2 with
  |true=>
   rw[hi44]at hf2
   simp only[cond_true]at hf2
   have hadv:=rIs_lt V (by decide) n1 hi44
   simp(maxSteps:=2000000) only[go_sem,aP hU n1]
   refine hb _ _ ⟨(false,l++[z.1],advP z.2),hadv,by show(l++[z.1]).length≤z.2.at_+1;rw[List.length_append];simp only[List.length_cons,List.length_nil];omega,f',by show U.length≤z.2.at_+1+f';omega,hf2⟩ [(1,1),(2,2),(10,10),(11,11),(12,12),(13,13),(14,14),(15,15),(16,16),(17,17),(25,211)] (by show U.length-(z.2.at_+1)<_;omega) ?_
   simp only[hLx]
   exact⟨rfl,⟨⟨rfl,rfl⟩,⟨rfl,rfl⟩,⟨rfl,rfl⟩,⟨rfl,rfl⟩,⟨rfl,rfl⟩,⟨rfl,rfl⟩,⟨rfl,rfl⟩,⟨rfl,rfl⟩,trivial⟩,⟨rfl,rfl,rfl,trivial⟩,⟨oR,oV (renV (rowsC_isV _)),oR,oR,oV (renV (rowsC_isV _)),oV (renV (rowsC_isV _)),oV (renV (rowsC_isV _)),oV (renV (rowsC_isV _)),oV (renV (rowsC_isV _)),oR,oV (renV (v_sC _)),trivial⟩⟩
  |false=>
   rw[hi44]at hf2
   simp only[cond_false]at hf2
   clear hb
   refine vv ?_
   refine CallQ.mi 230 c6 (rM_cl U z.2) ⟨oS,oS,trivial⟩ ?_
   have hR2:=hse hf2.symm _ rfl C hL hH
   refine vv ?_
   refine mtch (fun hc=>?_) (fun hc=>?_)
   ·rw[hc,cond_true]at hR2
    refine CallQ.mi 240 (refuse_ U hU (rEnd U z.2) 0 (by omega) 5) (rM_cl U (rEnd U z.2)) ⟨oS,oS,trivial⟩ ?_
    refine vv ?_
    simp only[lnR,dgN,nm6,Nat.reduceBEq,Nat.reduceAdd,cond_true,cond_false,hLx]at hR2
    exact RetQ.ren [(1,1),(2,2),(10,10),(11,11),(12,12),(13,13),(14,14),(15,15),(25,211)] hR2 hP rfl (vv trivial) rfl rfl ⟨⟨rfl,rfl⟩,⟨rfl,rfl⟩,⟨rfl,rfl⟩,⟨rfl,rfl⟩,⟨rfl,rfl⟩,⟨rfl,rfl⟩,⟨rfl,rfl⟩,⟨rfl,rfl⟩,trivial⟩ ⟨oR,oV (renV (v_sC _)),oR,oL,oV (renV (rowsC_isV _)),oV (renV (rowsC_isV _)),oV (renV (rowsC_isV _)),oV (renV (rowsC_isV _)),oV (renV (rowsC_isV _)),oV (renV (rowsC_isV _)),oL,trivial⟩ (ClM.of (by simp only[List.cons_append,List.nil_append,List.all_cons,inMV (rowsC_isV _),inMV (v_sC _)];rfl)) (ClV.of rfl)
   ·rw[hc,cond_false]at hR2
    simp only[lnR,dgN,nm6,Nat.reduceBEq,Nat.reduceAdd,cond_true,cond_false,hLx]at hR2
    exact RetQ.ren [(1,1),(2,2),(10,10),(11,11),(12,12),(13,13),(14,14),(15,15),(25,211)] hR2 hP rfl (vv trivial) rfl rfl ⟨⟨rfl,rfl⟩,⟨rfl,rfl⟩,⟨rfl,rfl⟩,⟨rfl,rfl⟩,⟨rfl,rfl⟩,⟨rfl,rfl⟩,⟨rfl,rfl⟩,⟨rfl,rfl⟩,trivial⟩ ⟨oR,oV (renV (v_sC _)),oR,oL,oV (renV (rowsC_isV _)),oV (renV (rowsC_isV _)),oV (renV (rowsC_isV _)),oV (renV (rowsC_isV _)),oV (renV (rowsC_isV _)),oV (renV (rowsC_isV _)),oL,trivial⟩ (ClM.of (by simp only[List.cons_append,List.nil_append,List.all_cons,inMV (rowsC_isV _),inMV (v_sC _)];rfl)) (ClV.of rfl)
 |false=>
  refine Sm.go 200 ?_
  refine vv ?_
  refine Sm.dgW [1] 200 5 mix ?_
  simp(maxSteps:=2000000) only[go_sem,Mem.wo]
  refine DCallQ.mio 210 d1 (rM_cl U q) rfl ⟨.inr ⟨rfl,rfl⟩,.inl rfl,trivial⟩ rfl rfl (.inl rfl) ?_
  simp(maxSteps:=2000000) only[go_sem,Mem.wo,hlx,hax]
  refine⟨⟨by omega,by omega,by omega⟩,?_⟩
  refine CallQ.mi 220 his (rM_cl U z.2) ⟨oS,oS,trivial⟩ ?_
  cases hi44:rIs U 3 [44] z.2 with
  |true=>
   rw[hi44]at hf2
   simp only[cond_true]at hf2
   have hadv:=rIs_lt V (by decide) n1 hi44
   simp(maxSteps:=2000000) only[go_sem,aP hU n1]
   refine hb _ _ ⟨(false,l++[z.1],advP z.2),hadv,by show(l++[z.1]).length≤z.2.at_+1;rw[List.length_append];simp only[List.length_cons,List.length_nil];omega,f',by show U.length≤z.2.at_+1+f';omega,hf2⟩ [(1,1),(2,2),(10,10),(11,11),(12,12),(13,13),(14,14),(15,15),(16,16),(17,17),(25,211)] (by show U.length-(z.2.at_+1)<_;omega) ?_
   simp only[hLx]
   exact⟨rfl,⟨⟨rfl,rfl⟩,⟨rfl,rfl⟩,⟨rfl,rfl⟩,⟨rfl,rfl⟩,⟨rfl,rfl⟩,⟨rfl,rfl⟩,⟨rfl,rfl⟩,⟨rfl,rfl⟩,trivial⟩,⟨rfl,rfl,rfl,trivial⟩,⟨oR,oV (renV (rowsC_isV _)),oR,oR,oV (renV (rowsC_isV _)),oV (renV (rowsC_isV _)),oV (renV (rowsC_isV _)),oV (renV (rowsC_isV _)),oV (renV (rowsC_isV _)),oR,oV (renV (v_sC _)),trivial⟩⟩
  |false=>
   rw[hi44]at hf2
   simp only[cond_false]at hf2
   clear hb
   refine vv ?_
   refine CallQ.mi 230 c6 (rM_cl U z.2) ⟨oS,oS,trivial⟩ ?_
   have hR2:=hse hf2.symm _ rfl C hL hH
   refine vv ?_
   refine mtch (fun hc=>?_) (fun hc=>?_)
   ·rw[hc,cond_true]at hR2
    refine CallQ.mi 240 (refuse_ U hU (rEnd U z.2) 0 (by omega) 5) (rM_cl U (rEnd U z.2)) ⟨oS,oS,trivial⟩ ?_
    refine vv ?_
    simp only[lnR,dgN,nm6,Nat.reduceBEq,Nat.reduceAdd,cond_true,cond_false,hLx]at hR2
    exact RetQ.ren [(1,1),(2,2),(10,10),(11,11),(12,12),(13,13),(14,14),(15,15),(25,211)] hR2 hP rfl (vv trivial) rfl rfl ⟨⟨rfl,rfl⟩,⟨rfl,rfl⟩,⟨rfl,rfl⟩,⟨rfl,rfl⟩,⟨rfl,rfl⟩,⟨rfl,rfl⟩,⟨rfl,rfl⟩,⟨rfl,rfl⟩,trivial⟩ ⟨oR,oV (renV (v_sC _)),oR,oL,oV (renV (rowsC_isV _)),oV (renV (rowsC_isV _)),oV (renV (rowsC_isV _)),oV (renV (rowsC_isV _)),oV (renV (rowsC_isV _)),oV (renV (rowsC_isV _)),oL,trivial⟩ (ClM.of (by simp only[List.cons_append,List.nil_append,List.all_cons,inMV (rowsC_isV _),inMV (v_sC _)];rfl)) (ClV.of rfl)
   ·rw[hc,cond_false]at hR2
    simp only[lnR,dgN,nm6,Nat.reduceBEq,Nat.reduceAdd,cond_true,cond_false,hLx]at hR2
    exact RetQ.ren [(1,1),(2,2),(10,10),(11,11),(12,12),(13,13),(14,14),(15,15),(25,211)] hR2 hP rfl (vv trivial) rfl rfl ⟨⟨rfl,rfl⟩,⟨rfl,rfl⟩,⟨rfl,rfl⟩,⟨rfl,rfl⟩,⟨rfl,rfl⟩,⟨rfl,rfl⟩,⟨rfl,rfl⟩,⟨rfl,rfl⟩,trivial⟩ ⟨oR,oV (renV (v_sC _)),oR,oL,oV (renV (rowsC_isV _)),oV (renV (rowsC_isV _)),oV (renV (rowsC_isV _)),oV (renV (rowsC_isV _)),oV (renV (rowsC_isV _)),oV (renV (rowsC_isV _)),oL,trivial⟩ (ClM.of (by simp only[List.cons_append,List.nil_append,List.all_cons,inMV (rowsC_isV _),inMV (v_sC _)];rfl)) (ClV.of rfl)
theorem radd6_ {H:Hp}(U:List Tk)(V:VT U)(hS:StU U)(h:1<U.length)(d:DgL)(hb:d.bd)(hd:d.inn H)(h0:(U.getD 0 tk0).s≠[116,121,112,101])(h1:(U.getD 0 tk0).s≠[99,117,114,118,101])(h2:(U.getD 0 tk0).s≠[109,97,112])(h3:(U.getD 0 tk0).s≠[105,110])(h4:(U.getD 0 tk0).s≠[98,108,111,99,107])(h5:(U.getD 0 tk0).s≠[111,117,116]):
  CallX H Tryz.prog 65 [.c (.p 1 0),.agg (dgC d)] (rX U ps0 d) (fun x:DgL=> .agg (dgN 6 x)) (fun x=>bRs U (rAdd U d.c).2::lnR 6 x) (fun x H'=>x.c=(rAdd U d.c).1∧x.inn H'∧lnE 6 d x):=by
 have hn:=V.n
 have hU:U.length≤100000:=by omega
 obtain⟨_,t1,_⟩:=tk_at U 0 (by omega)
 refine CallX.mk 16 Tryz.func65 rfl en65 (by simp[Tryz.ntmps65]) (ClA.of rfl) (fun _=>rfl) (fun _=>rfl) fun C hR hP hH hL=>?_
 rw[rAdd,if_neg h0,if_neg h1,if_neg h2,if_neg h3,if_neg h4,if_neg h5]at hR
 have n0:((U.getD 0 tk0).s==[116,121,112,101])=false:=beq_eq_false_iff_ne.2 h0
 have n1:((U.getD 0 tk0).s==[99,117,114,118,101])=false:=beq_eq_false_iff_ne.2 h1
 have n2:((U.getD 0 tk0).s==[109,97,112])=false:=beq_eq_false_iff_ne.2 h2
 have n3:((U.getD 0 tk0).s==[105,110])=false:=beq_eq_false_iff_ne.2 h3
 have n4:((U.getD 0 tk0).s==[98,108,111,99,107])=false:=beq_eq_false_iff_ne.2 h4
 have n5:((U.getD 0 tk0).s==[111,117,116])=false:=beq_eq_false_iff_ne.2 h5
 generalize (U.getD 0 tk0).s=S0 at*
 simp(maxSteps:=2000000) only[go_sem,t1,n0,n1,n2,n3,n4,n5]
 refine⟨by omega,?_⟩
 refine CallQ.mi 30 (rfail_ U hU ps0 (show 0<U.length by omega)) (rM_cl U ps0) ⟨oS,oS,trivial⟩ ?_
 refine vv ?_
 have hdm:=hd.mono hH
 have hR2:=hR d C hL ⟨rfl,⟨hdm.cus,hdm.mas,hdm.bls⟩,fun _=>rfl,fun _=>rfl,fun _=>rfl,fun _=>rfl,fun _=>rfl,fun _=>rfl⟩
 simp only[lnR,dgN,nm6,Nat.reduceBEq,Nat.reduceAdd,cond_true,cond_false]at hR2
 exact RetQ.of hR2 rfl (vv trivial) rfl (SubV.sub0 ⟨oR,oL,oR,oR,oR,oR,oR,oR,oR,trivial⟩) (ClM.of (by simp only[List.cons_append,List.nil_append,List.all_cons,inMV (rowsC_isV _),inMV (v_sC _)];rfl)) (ClV.of rfl)
theorem radd_ {H:Hp}(U:List Tk)(V:VT U)(hS:StU U)(h:1<U.length)(d:DgL)(hb:d.bd)(hd:d.inn H):
  CallX H Tryz.prog 65 [.c (.p 1 0),.agg (dgC d)] (rX U ps0 d) (fun x:DgL=> .agg (dgN (srt (U.getD 0 tk0).s) x)) (fun x=>bRs U (rAdd U d.c).2::lnR (srt (U.getD 0 tk0).s) x) (fun x H'=>x.c=(rAdd U d.c).1∧x.inn H'∧lnE (srt (U.getD 0 tk0).s) d x):=by
 by_cases h0:(U.getD 0 tk0).s=[116,121,112,101]
 ·have e:srt (U.getD 0 tk0).s=0:=by rw[h0];decide
  rw[e]
  exact radd0_ U V hS h d hb hd h0
 by_cases h1:(U.getD 0 tk0).s=[99,117,114,118,101]
 ·have e:srt (U.getD 0 tk0).s=1:=by rw[h1];decide
  rw[e]
  exact radd1_ U V hS h d hb hd h1
 by_cases h2:(U.getD 0 tk0).s=[109,97,112]
 ·have e:srt (U.getD 0 tk0).s=2:=by rw[h2];decide
  rw[e]
  exact radd2_ U V hS h d hb hd h2
 by_cases h3:(U.getD 0 tk0).s=[105,110]
 ·have e:srt (U.getD 0 tk0).s=3:=by rw[h3];decide
  rw[e]
  exact radd3_ U V hS h d hb hd h3
 by_cases h4:(U.getD 0 tk0).s=[98,108,111,99,107]
 ·have e:srt (U.getD 0 tk0).s=4:=by rw[h4];decide
  rw[e]
  exact radd4_ U V hS h d hb hd h4
 by_cases h5:(U.getD 0 tk0).s=[111,117,116]
 ·have e:srt (U.getD 0 tk0).s=5:=by rw[h5];decide
  rw[e]
  exact radd5_ U V hS h d hb hd h5
 have e:srt (U.getD 0 tk0).s=6:=by unfold srt;rw[if_neg h0,if_neg h1,if_neg h2,if_neg h3,if_neg h4,if_neg h5]
 rw[e]
 exact radd6_ U V hS h d hb hd h0 h1 h2 h3 h4 h5
end Go.Proofs.YtlnpgbnhcondjaaGreatDoor.Fx
namespace Go.Proofs.YtlnpgbnhcondjaaGreatDoor.Fx
set_option linter.unusedVariables false
set_option linter.unusedSimpArgs false
def rdgQ (x:Str):Nat:=bif ngB x then(bif run1 diB x 1==0 then 0 else 1+run1 diB x 1)else run1 diB x 0
def rnmQ (s r:Str):Int:=if (!(r==[])&&(leB (r.getD 0 0)||r.getD 0 0==95))=true then 3 else if ((dgT s).getD 0 0==48&&decide (1<s.length))=true then 3 else if 20<s.length then 9
 else if (aprQ s).2≠0 then(aprQ s).2 else if 1099511627776<(aprQ s).1∨(aprQ s).1< -1099511627776 then 9 else 0
def rtS (x:Str):Nat×Nat×Int:=
 if x.getD 0 0=32∨x.getD 0 0=9 then(0,1,0)
 else if leB (x.getD 0 0)=true then(if 24<wordQ x then(0,0,5)else(1,wordQ x,0))
 else if (diB (x.getD 0 0)||x.getD 0 0==45)=true then(if rdgQ x=0 then(0,0,3)else if rnmQ (x.take (rdgQ x)) (x.drop (rdgQ x))≠0 then(0,0,rnmQ (x.take (rdgQ x)) (x.drop (rdgQ x)))else(2,rdgQ x,0))
 else if symL.contains (x.getD 0 0)=true then(3,1,0)else(0,0,3)
def rtk (s:Str):Nat→Nat→Nat→Nat→Bool→Bool→List Tk→List Tk×(Nat×Nat)×Int
 |0,_,_,_,_,_,acc=>(acc,(0,0),0)
 |f+1,i,ln,st,sm,cm,acc=>
  if s.length<i then(acc,(0,0),0)
  else if i=s.length∨s.getD i 0=10 then rtk s f (i+1) (ln+1) (i+1) false false (bif sm then acc++[⟨4,[],ln,i-st+1⟩]else acc)
  else if cm=true then(if badB (s.getD i 0)=true then([],(ln,i-st+1),3)else rtk s f (i+1) ln st sm true acc)
  else if s.getD i 0=35 then rtk s f (i+1) ln st sm true acc
  else if (rtS (s.drop i)).2.2≠0 then([],(ln,i-st+1),(rtS (s.drop i)).2.2)
  else rtk s f (i+(rtS (s.drop i)).2.1) ln st (sm|| !((rtS (s.drop i)).1==0)) false (bif (rtS (s.drop i)).1==0 then acc else acc++[⟨(rtS (s.drop i)).1,subS2 s i (rtS (s.drop i)).2.1,ln,i-st+1⟩])
def rtkQ (s:Str):List Tk×(Nat×Nat)×Int:=if 16384<s.length then([],(0,0),5)else rtk s (s.length+2) 0 1 0 false false []
theorem digF_ge:∀(l:Str) (a:Nat),a*10^l.length≤l.foldl (fun a c=>a*10+(c.toNat-48)) a
 |[],a=>by simp
 |c::l,a=>by
  rw[List.foldl_cons,List.length_cons]
  refine Nat.le_trans ?_ (digF_ge l _)
  rw[Nat.pow_succ,Nat.mul_comm (10^l.length) 10,←Nat.mul_assoc]
  exact Nat.mul_le_mul_right _ (by omega)
theorem digW_ge {l:Str}(h:l.all diB=true)(h0:(l.getD 0 0==48)=false)(hl:l≠[]):10^(l.length-1)≤digV l:=by
 cases l with
 |nil=>exact absurd rfl hl
 |cons c l=>
  unfold digV
  rw[List.foldl_cons]
  refine Nat.le_trans ?_ (digF_ge l _)
  have hc:diB c=true:=List.all_eq_true.1 h c (List.mem_cons_self ..)
  unfold diB at hc
  rw[Bool.and_eq_true,decide_eq_true_eq,decide_eq_true_eq]at hc
  have hn:c.toNat≠48:=fun e=>by
   have:c=48:=UInt8.toNat_inj.1 e
   subst this
   cases h0
  show 10^(l.length+1-1)≤_
  rw[Nat.add_sub_cancel]
  exact Nat.le_mul_of_pos_left _ (by omega)
theorem apr_all {s:Str}(h:(dgT s).all diB=true)(hn:(dgT s==[])=false)(hz:((dgT s).getD 0 0==48&&decide (1<s.length))=false):
  aprQ s=if 24<s.length then(0,5)else if-9223372036854775808≤numV s∧numV s≤9223372036854775807 then(numV s,0)else(0,9):=by
 unfold aprQ
 rw[hn,hz,h]
 rfl
theorem dgT_len {s:Str}(hn:(dgT s==[])=false):s.length=(dgT s).length+(bif ngB s then 1 else 0):=by
 unfold dgT at*
 cases h:ngB s with
 |false=>rfl
 |true=>
  rw[h]at hn
  simp only[cond_true]at hn⊢
  rw[List.length_drop]
  have:s.drop 1≠[]:=by simpa using hn
  have:0<(s.drop 1).length:=List.length_pos_iff.2 this
  rw[List.length_drop]at this;omega
theorem dgT_long {s:Str}(hn:(dgT s==[])=false)(hl:20<s.length):20≤(dgT s).length:=by
 have:=dgT_len hn
 cases hg:ngB s<;>rw[hg]at this
 ·have this:s.length=(dgT s).length+0:=this
  omega
 ·have this:s.length=(dgT s).length+1:=this
  omega
theorem num_far {s:Str}(h:(dgT s).all diB=true)(hn:(dgT s==[])=false)(h0:((dgT s).getD 0 0==48)=false)(hl:20<s.length):¬(-9223372036854775808≤numV s∧numV s≤9223372036854775807):=by
 have h2:=digW_ge h h0 (by simpa using hn)
 have h3:=dgT_long hn hl
 have h4:10^19≤digV (dgT s):=Nat.le_trans (Nat.pow_le_pow_right (by decide) (by omega)) h2
 have h5:(10:Nat)^19=10000000000000000000:=by decide
 rw[h5]at h4
 unfold numV
 generalize digV (dgT s)=v at*
 cases ngB s
 ·show ¬(-9223372036854775808≤(v:Int)∧(v:Int)≤9223372036854775807);omega
 ·show ¬(-9223372036854775808≤ -(v:Int)∧ -(v:Int)≤9223372036854775807);omega
theorem rnm_eq {w r:Str}(h:(dgT w).all diB=true)(hn:(dgT w==[])=false):
  rnmQ w r=if ((!(r==[])&&(leB (r.getD 0 0)||r.getD 0 0==95))|| !canQ w)=true then 3 else if grtQ w=true then 9 else 0:=by
 unfold rnmQ
 cases hr:(!(r==[])&&(leB (r.getD 0 0)||r.getD 0 0==95))with
 |true=>rfl
 |false=>
  have hc:(!canQ w)=((dgT w).getD 0 0==48&&decide (1<w.length)):=by
   unfold canQ
   rw[hn]
   have hl:=dgT_len hn
   have hp:0<(dgT w).length:=List.length_pos_iff.2 (by simpa using hn)
   cases hg:ngB w with
   |true=>
    rw[hg]at hl
    simp only[cond_true]at hl
    have:decide (1<w.length)=true:=decide_eq_true (by omega)
    rw[this]
    cases (dgT w).getD 0 0==48<;>simp
   |false=>
    rw[hg]at hl
    simp only[cond_false]at hl
    have:decide (1<w.length)= !decide ((dgT w).length=1):=by rw[←decide_not,decide_eq_decide];omega
    rw[this]
    cases (dgT w).getD 0 0==48<;>cases decide ((dgT w).length=1)<;>rfl
  rw[Bool.false_or,hc]
  cases hz:((dgT w).getD 0 0==48&&decide (1<w.length))with
  |true=>rfl
  |false=>
   simp only[Bool.false_eq_true,if_false]
   have ha:=apr_all h hn hz
   by_cases hl:20<w.length
   ·rw[if_pos hl]
    have h0:((dgT w).getD 0 0==48)=false:=by
     have:decide (1<w.length)=true:=decide_eq_true (by omega)
     rw[this,Bool.and_true]at hz
     exact hz
    have hf:=num_far h hn h0 hl
    rw[if_neg hf]at ha
    have:grtQ w=true:=by
     unfold grtQ
     rw[ha]
     split<;>rfl
    rw[if_pos this]
   ·rw[if_neg hl]
    rw[if_neg (show ¬24<w.length by omega)]at ha
    unfold grtQ
    rw[ha]
    split
    ·rename_i hv
     simp only[ne_eq,not_true_eq_false,if_false]
     have:((!((0:Int)==0))||(decide (1099511627776<numV w)||decide (numV w< -1099511627776)))=decide (1099511627776<numV w∨numV w< -1099511627776):=by
      rw[Bool.decide_or];rfl
     rw[this]
     by_cases hq:1099511627776<numV w∨numV w< -1099511627776
     ·rw[if_pos hq,if_pos (decide_eq_true hq)]
     ·rw[if_neg hq,if_neg (by rw[decide_eq_true_eq];exact hq)]
    ·rfl
theorem run1_cons (p:UInt8→Bool)(c:UInt8)(x:Str):run1 p (c::x) 0=if p c=true then 1+run1 p (c::x) 1 else 0:=by
 unfold run1
 rw[List.drop_zero,List.drop_succ_cons,List.drop_zero,List.takeWhile_cons]
 split
 ·rw[List.length_cons];omega
 ·rfl
theorem run1_0 (p:UInt8→Bool)(c:UInt8)(x:Str):(run1 p (c::x) 1==0)= !(decide (0+1<(c::x).length)&&p ((c::x).getD (0+1) 0)):=by
 unfold run1
 rw[List.drop_succ_cons,List.drop_zero]
 cases x with
 |nil=>rfl
 |cons d x=>
  rw[List.takeWhile_cons]
  have:decide (0+1<(c::d::x).length)=true:=decide_eq_true (by simp)
  rw[this]
  show((if p d=true then d::List.takeWhile p x else[]).length==0)= !(true&&p d)
  cases p d<;>rfl
theorem tw_all (p:UInt8→Bool)(l:Str):(l.takeWhile p).all p=true:=List.all_eq_true.2 (tw_mem p l)
theorem rtS_eq {x:Str}(hx:x≠[]):rtS x=scnQ x 0:=by
 obtain⟨c,y,rfl⟩:=List.exists_cons_of_ne_nil hx
 unfold rtS scnQ
 simp only
 have hc:(c::y).getD 0 0=c:=rfl
 rw[hc]
 by_cases h1:c=32∨c=9
 ·rw[if_pos h1,if_pos h1]
 rw[if_neg h1,if_neg h1]
 cases h2:leB c with
 |true=>
  have:wordQ (c::y)=run1 inB (c::y) 0:=by
   rw[run1_cons,if_pos (leB_inB h2)]
   show(if leB c=true then _ else _)=_
   rw[if_pos h2];rfl
  rw[this];rfl
 |false=>
 simp only[Bool.false_eq_true,if_false]
 have hng:ngB (c::y)=(c==45):=rfl
 have hrd:diB c=true→rdgQ (c::y)=1+run1 diB (c::y) 1:=fun h=>by
  have h45:(c==45)=false:=by
   cases hq:c==45 with
   |false=>rfl
   |true=>rw[eq_of_beq hq]at h;cases h
  unfold rdgQ
  rw[hng,h45,run1_cons,if_pos h];rfl
 -- the number's text
 have key:∀n,n=1+run1 diB (c::y) 1→(diB c=true∨((c==45)=true∧(run1 diB (c::y) 1==0)=false))→
   (if rnmQ ((c::y).take n) ((c::y).drop n)≠0 then(0,0,rnmQ ((c::y).take n) ((c::y).drop n))else(2,n,0))=
   (if ((decide (0+n<(c::y).length)&&(leB ((c::y).getD (0+n) 0)||(c::y).getD (0+n) 0==95))|| !canQ (subS2 (c::y) 0 n))=true then((0,0,3):Nat×Nat×Int)else if grtQ (subS2 (c::y) 0 n)=true then(0,0,9)else(2,n,0)):=by
  intro n hn hor
  have hsub:subS2 (c::y) 0 n=(c::y).take n:=rfl
  rw[hsub,Nat.zero_add]
  have htw:(c::y).take n=c::y.takeWhile diB:=by
   rw[hn,Nat.add_comm 1,List.take_succ_cons]
   show c::y.take (y.takeWhile diB).length=_
   rw[tw_take]
  have hdg:(dgT ((c::y).take n)).all diB=true∧(dgT ((c::y).take n)==[])=false:=by
   rw[htw]
   unfold dgT
   show((bif c==45 then y.takeWhile diB else c::y.takeWhile diB).all diB=true)∧((bif c==45 then y.takeWhile diB else c::y.takeWhile diB)==[])=false
   rcases hor with h|⟨h,h0⟩
   ·have h45:(c==45)=false:=by
     cases hq:c==45 with
     |false=>rfl
     |true=>rw[eq_of_beq hq]at h;cases h
    rw[h45]
    simp only[cond_false]
    exact⟨by rw[List.all_cons,h,tw_all];rfl,rfl⟩
   ·rw[h]
    simp only[cond_true]
    refine⟨tw_all _ _,?_⟩
    have h0:((y.takeWhile diB).length==0)=false:=h0
    cases hq:y.takeWhile diB with
    |nil=>rw[hq]at h0;cases h0
    |cons a b=>rfl
  rw[rnm_eq hdg.1 hdg.2]
  have hr:((!((c::y).drop n==[]))&&(leB (((c::y).drop n).getD 0 0)||((c::y).drop n).getD 0 0==95))=(decide (n<(c::y).length)&&(leB ((c::y).getD n 0)||(c::y).getD n 0==95)):=by
   have e1:((c::y).drop n).getD 0 0=(c::y).getD n 0:=by rw[List.getD_eq_getElem?_getD,List.getElem?_drop,Nat.add_zero,←List.getD_eq_getElem?_getD]
   have e2:(!((c::y).drop n==[]))=decide (n<(c::y).length):=by
    rw[Bool.eq_iff_iff,decide_eq_true_eq,Bool.not_eq_true',beq_eq_false_iff_ne,ne_eq,List.drop_eq_nil_iff];omega
   rw[e1,e2]
  rw[hr]
  split
  ·rfl
  ·split<;>rfl
 cases h3:diB c with
 |true=>
  rw[Bool.true_or,if_pos rfl,Bool.true_or,if_pos rfl,hrd h3,if_neg (by omega)]
  exact key _ rfl (.inl h3)
 |false=>
  rw[Bool.false_or,Bool.false_or]
  cases h4:c==45 with
  |false=>
   simp only[Bool.false_and,Bool.false_eq_true,if_false]
  |true=>
   rw[if_pos rfl,Bool.true_and]
   have h0:=run1_0 diB c y
   unfold rdgQ
   rw[hng,h4]
   simp only[cond_true]
   cases h5:run1 diB (c::y) 1==0 with
   |true=>
    rw[h5]at h0
    have:(decide (0+1<(c::y).length)&&diB ((c::y).getD (0+1) 0))=false:=by
     revert h0
     cases (decide (0+1<(c::y).length)&&diB ((c::y).getD (0+1) 0))<;>decide
    rw[this,eq_of_beq h4]
    rfl
   |false=>
    rw[h5]at h0
    have:(decide (0+1<(c::y).length)&&diB ((c::y).getD (0+1) 0))=true:=by
     revert h0
     cases (decide (0+1<(c::y).length)&&diB ((c::y).getD (0+1) 0))<;>decide
    rw[this,if_pos rfl]
    simp only[cond_false]
    rw[if_neg (by omega)]
    exact key _ rfl (.inr ⟨h4,h5⟩)
def NlT (t:Str):Prop:=t=[]∨∃u,t=10::u
theorem tw_nl {p:UInt8→Bool}(hp:p 10=false){t:Str}(ht:NlT t):∀y:Str,(y++t).takeWhile p=y.takeWhile p
 |[]=>by
  rcases ht with rfl|⟨u,rfl⟩
  ·rfl
  ·rw[List.nil_append,List.takeWhile_cons,hp];rfl
 |c::y=>by
  rw[List.cons_append,List.takeWhile_cons,List.takeWhile_cons,tw_nl hp ht y]
theorem run1_nl {p:UInt8→Bool}(hp:p 10=false){t:Str}(ht:NlT t)(y:Str)(k:Nat)(hk:k≤y.length):run1 p (y++t) k=run1 p y k:=by
 unfold run1
 rw[List.drop_append_of_le_length hk,tw_nl hp ht]
theorem at_nl {p:UInt8→Bool}(hp:p 10=false){t:Str}(ht:NlT t)(y:Str)(k:Nat)(hk:k≤y.length):(decide (k<(y++t).length)&&p ((y++t).getD k 0))=(decide (k<y.length)&&p (y.getD k 0)):=by
 by_cases h:k<y.length
 ·have e:(y++t).getD k 0=y.getD k 0:=by rw[List.getD_eq_getElem?_getD,List.getElem?_append_left h,←List.getD_eq_getElem?_getD]
  rw[e,decide_eq_true h,decide_eq_true (show k<(y++t).length by rw[List.length_append];omega)]
 ·obtain rfl:k=y.length:=by omega
  rw[decide_eq_false h,Bool.false_and]
  rcases ht with rfl|⟨u,rfl⟩
  ·rw[List.append_nil,decide_eq_false h];rfl
  ·have e:(y++10::u).getD y.length 0=10:=by rw[List.getD_eq_getElem?_getD,List.getElem?_append_right (Nat.le_refl _),Nat.sub_self];rfl
   rw[e,hp,Bool.and_false]
theorem scn_nl {t:Str}(ht:NlT t){y:Str}(hy:y≠[]):scnQ (y++t) 0=scnQ y 0:=by
 obtain⟨c,y,rfl⟩:=List.exists_cons_of_ne_nil hy
 have hl:1≤(c::y).length:=by simp
 have e0:((c::y)++t).getD 0 0=(c::y).getD 0 0:=rfl
 have r0:=run1_nl (p:=inB) (by decide) ht (c::y) 0 (Nat.zero_le _)
 have r1:=run1_nl (p:=diB) (by decide) ht (c::y) (0+1) hl
 have a1:=at_nl (p:=diB) (by decide) ht (c::y) (0+1) hl
 have hle:=run1_le diB (c::y) (0+1)
 have a2:=at_nl (p:=fun c=>leB c||c==95) (by decide) ht (c::y) (0+(1+run1 diB (c::y) (0+1))) (by omega)
 have s1:subS2 ((c::y)++t) 0 (1+run1 diB (c::y) (0+1))=subS2 (c::y) 0 (1+run1 diB (c::y) (0+1)):=by
  unfold subS2
  rw[List.drop_zero,List.drop_zero,List.take_append_of_le_length (by omega)]
 unfold scnQ
 simp only
 rw[e0,r0,r1,a1,s1]
 rw[a2]
theorem splB_hd:∀(u l:Str) (R:List Str),splB 10 u=l::R→(u=l∧R=[])∨∃u',u=l++10::u'∧splB 10 u'=R
 |[],l,R,h=>by
  have h:[([]:Str)]=l::R:=h
  cases h
  exact .inl ⟨rfl,rfl⟩
 |x::u,l,R,h=>by
  rw[splB_cons]at h
  split at h
  ·rename_i hx
   cases h
   exact .inr ⟨u,by rw[hx];rfl,rfl⟩
  ·split at h
   ·rename_i he;exact absurd he (splB_ne 10 u)
   ·rename_i a b he
    cases h
    rcases splB_hd u a R he with⟨h1,h2⟩|⟨u',h1,h2⟩
    ·exact .inl ⟨by rw[h1],h2⟩
    ·exact .inr ⟨u',by rw[h1];rfl,h2⟩
def cmtQ (l:Str)(g k:Nat):List Tk×Option (Nat×Int):=match badK l g k with|some j=>([],some (j,3))|none=>([],none)
def finQ (ln:Nat)(l:Str)(sm:Bool)(acc:List Tk)(R:List Str)(r:List Tk×Option (Nat×Int)):List Tk×(Nat×Nat)×Int:=match r.2 with
 |some (k,e)=>([],(ln,k+1),e)
 |none=>cmb (acc++r.1++(bif sm|| !r.1.isEmpty then[⟨4,[],ln,l.length+1⟩]else[])) (lnsQ ln R)
theorem fin_0 (ln:Nat)(l:Str)(acc:List Tk)(R:List Str):finQ (ln+1) l false acc R (linQ (ln+1) l (l.length+1) 0)=cmb acc (lnsQ ln (l::R)):=by
 unfold finQ
 cases h:(linQ (ln+1) l (l.length+1) 0).2 with
 |some x=>obtain⟨k,e⟩:=x;exact(lns_err acc h).symm
 |none=>
  rw[lns_step acc h]
  simp only[Bool.false_or]
  cases (linQ (ln+1) l (l.length+1) 0).1.isEmpty<;>rfl
theorem fin_tok (ln:Nat)(l:Str)(sm:Bool)(acc:List Tk)(R:List Str)(k:Nat)(t:Tk)(L:List Tk×Option (Nat×Int)):
  finQ ln l (sm|| !(k==0)) (bif k==0 then acc else acc++[t]) R L=finQ ln l sm acc R ((if k=0 then[]else[t])++L.1,L.2):=by
 unfold finQ
 obtain⟨a,b⟩:=L
 cases b with
 |some x=>rfl
 |none=>
  simp only
  by_cases hk:k=0
  ·subst hk
   rw[if_pos rfl]
   have e:(0==0)=true:=rfl
   rw[e,cond_true,Bool.not_true,Bool.or_false,List.nil_append]
  ·rw[if_neg hk,beq_eq_false_iff_ne.2 hk,cond_false,Bool.not_false,Bool.or_true,Bool.true_or]
   have e:([t]++a).isEmpty=false:=rfl
   rw[e,Bool.not_false,Bool.or_true,List.append_assoc acc]
theorem rtk_eq (s:Str):∀(f i ln st:Nat) (sm cm:Bool) (acc:List Tk) (l:Str) (R:List Str) (g g':Nat),splB 10 (s.drop st)=l::R→st≤s.length→st≤i→i≤st+l.length→s.length+2≤i+f→l.length<(i-st)+g→l.length<(i-st)+g'→
  rtk s f i ln st sm cm acc=finQ ln l sm acc R (bif cm then cmtQ l g' (i-st)else linQ ln l g (i-st))
 |0,i,ln,st,sm,cm,acc,l,R,g,g',h,hst,h1,h2,h3,h4,h5=>by
  exfalso
  have:(s.drop st).length≥l.length:=by
   rcases splB_hd _ _ _ h with⟨e,_⟩|⟨u',e,_⟩<;>rw[e]<;>simp
  rw[List.length_drop]at this;omega
 |f+1,i,ln,st,sm,cm,acc,l,R,g,g',h,hst,h1,h2,h3,h4,h5=>by
  obtain⟨k,rfl⟩:∃k,i=st+k:=⟨i-st,by omega⟩
  have ek:st+k-st=k:=by omega
  rw[ek]at h4 h5⊢
  obtain⟨g,rfl⟩:∃q,g=q+1:=⟨g-1,by omega⟩
  obtain⟨g',rfl⟩:∃q,g'=q+1:=⟨g'-1,by omega⟩
  have hkl:k≤l.length:=by omega
  obtain⟨t,ht,hd⟩:∃t,NlT t∧s.drop st=l++t:=by
   rcases splB_hd _ _ _ h with⟨e,_⟩|⟨u',e,_⟩
   ·exact⟨[],.inl rfl,by rw[e,List.append_nil]⟩
   ·exact⟨_,.inr ⟨u',rfl⟩,e⟩
  have hlen:s.length-st=l.length+t.length:=by have:=congrArg List.length hd;rwa [List.length_drop,List.length_append]at this
  rw[rtk,if_neg (by omega),ek]
  by_cases hk:k=l.length
  ·-- the end of the line
   subst hk
   have hcnd:st+l.length=s.length∨s.getD (st+l.length) 0=10:=by
    rcases ht with rfl|⟨u,rfl⟩
    ·left;simp at hlen;omega
    ·right
     have:s.getD (st+l.length) 0=(s.drop st).getD l.length 0:=by rw[List.getD_eq_getElem?_getD,List.getD_eq_getElem?_getD,List.getElem?_drop]
     rw[this,hd,List.getD_eq_getElem?_getD,List.getElem?_append_right (Nat.le_refl _),Nat.sub_self];rfl
   rw[if_pos hcnd]
   have hr:(bif cm then cmtQ l (g'+1) l.length else linQ ln l (g+1) l.length)=(([],none):List Tk×Option (Nat×Int)):=by
    cases cm with
    |true=>show cmtQ l (g'+1) l.length=_;unfold cmtQ badK;rw[if_neg (by omega)]
    |false=>show linQ ln l (g+1) l.length=_;unfold linQ;rw[if_pos (Nat.le_refl _)]
   rw[hr]
   have hacc:(bif sm then acc++[(⟨4,[],ln,l.length+1⟩:Tk)]else acc)=acc++[]++(bif sm|| !([]:List Tk).isEmpty then[⟨4,[],ln,l.length+1⟩]else[]):=by
    cases sm<;>simp
   have hfin:finQ ln l sm acc R ([],none)=cmb (bif sm then acc++[(⟨4,[],ln,l.length+1⟩:Tk)]else acc) (lnsQ ln R):=by rw[hacc];rfl
   rw[hfin]
   generalize (bif sm then acc++[(⟨4,[],ln,l.length+1⟩:Tk)]else acc)=acc'
   rcases splB_hd _ _ _ h with⟨e,hR⟩|⟨u',e,hR⟩
   ·subst hR
    have hs:st+l.length=s.length:=by have:=congrArg List.length e;rw[List.length_drop]at this;omega
    cases f with
    |zero=>omega
    |succ f=>
     rw[rtk,if_pos (by omega)]
     unfold cmb lnsQ
     simp
   ·have hd2:s.drop (st+l.length+1)=u':=by
     have:s.drop (st+l.length+1)=(s.drop st).drop (l.length+1):=by rw[List.drop_drop];congr 1
     rw[this,e,List.drop_append]
     simp
    obtain⟨l2,R2,hR2⟩:=List.exists_cons_of_ne_nil (splB_ne 10 u')
    rw[hR]at hR2
    have hs2:st+l.length+1≤s.length:=by have:=congrArg List.length e;rw[List.length_drop,List.length_append,List.length_cons]at this;omega
    have ih:=rtk_eq s f (st+l.length+1) (ln+1) (st+l.length+1) false false acc' l2 R2 (l2.length+1) (l2.length+1) (by rw[hd2,hR,hR2]) hs2 (Nat.le_refl _) (by omega) (by omega) (by omega) (by omega)
    rw[ih,Nat.sub_self,cond_false,fin_0,hR2]
  ·have hk2:k<l.length:=by omega
   have hg:s.getD (st+k) 0=l.getD k 0:=by
    have:s.getD (st+k) 0=(s.drop st).getD k 0:=by rw[List.getD_eq_getElem?_getD,List.getD_eq_getElem?_getD,List.getElem?_drop]
    rw[this,hd,List.getD_eq_getElem?_getD,List.getElem?_append_left hk2,←List.getD_eq_getElem?_getD]
   have h10:l.getD k 0≠10:=fun hh=>by
    have:=splB_nl 10 (s.drop st) l (by rw[h];exact List.mem_cons_self ..)
    refine this ?_
    rw[←hh,List.getD_eq_getElem?_getD,List.getElem?_eq_getElem hk2]
    exact List.getElem_mem hk2
   rw[hg,if_neg (by rintro(h|h);omega;exact h10 h)]
   cases cm with
   |true=>
    rw[if_pos rfl,cond_true]
    unfold cmtQ
    rw[badK,if_pos hk2]
    cases hb:badB (l.getD k 0)with
    |true=>rfl
    |false=>
     rw[if_neg (by decide),if_neg (by decide)]
     have ih:=rtk_eq s f (st+k+1) ln st sm true acc l R g g' h hst (by omega) (by omega) (by omega) (by omega) (by omega)
     rw[ih,show st+k+1-st=k+1 by omega,cond_true];rfl
   |false=>
    rw[if_neg (by decide),cond_false]
    by_cases h35:l.getD k 0=35
    ·rw[if_pos h35]
     have ih:=rtk_eq s f (st+k+1) ln st sm true acc l R g l.length h hst (by omega) (by omega) (by omega) (by omega) (by omega)
     rw[ih,show st+k+1-st=k+1 by omega,cond_true,linQ,if_neg (by omega),if_pos h35]
     have hb:badK l (l.length+1) k=badK l l.length (k+1):=by
      rw[badK,if_pos hk2,h35,if_neg (by decide)]
     rw[hb];rfl
    ·rw[if_neg h35]
     have hdr:s.drop (st+k)=l.drop k++t:=by
      have:s.drop (st+k)=(s.drop st).drop k:=by rw[List.drop_drop]
      rw[this,hd,List.drop_append_of_le_length hkl]
     have hne:l.drop k≠[]:=fun hh=>by rw[List.drop_eq_nil_iff]at hh;omega
     have hsc:rtS (s.drop (st+k))=scnQ l k:=by
      rw[hdr,rtS_eq (by simp[hne]),scn_nl ht hne]
      have:=scn_pre (l.take k) (l.drop k)
      rw[List.take_append_drop,List.length_take,Nat.min_eq_left hkl]at this
      exact this.symm
     rw[hsc]
     have hu:linQ ln l (g+1) k=if (scnQ l k).2.2≠0 then([],some (k,(scnQ l k).2.2))else((if (scnQ l k).1=0 then[]else[⟨(scnQ l k).1,subS2 l k (scnQ l k).2.1,ln,k+1⟩])++(linQ ln l g (k+(scnQ l k).2.1)).1,(linQ ln l g (k+(scnQ l k).2.1)).2):=by
      rw[linQ,if_neg (by omega),if_neg h35]
     rw[hu]
     by_cases he:(scnQ l k).2.2≠0
     ·rw[if_pos he,if_pos he];rfl
     ·rw[if_neg he,if_neg he]
      obtain⟨n1,n2,_⟩:=scn_ok hk2 (Decidable.of_not_not he)
      have hsub:subS2 s (st+k) (scnQ l k).2.1=subS2 l k (scnQ l k).2.1:=by
       unfold subS2
       rw[hdr,List.take_append_of_le_length (by rw[List.length_drop];omega)]
      rw[hsub]
      have ih:=rtk_eq s f (st+k+(scnQ l k).2.1) ln st (sm|| !((scnQ l k).1==0)) false (bif (scnQ l k).1==0 then acc else acc++[⟨(scnQ l k).1,subS2 l k (scnQ l k).2.1,ln,k+1⟩]) l R g (l.length+1) h hst (by omega) (by omega) (by omega) (by omega) (by omega)
      rw[ih,show st+k+(scnQ l k).2.1-st=k+(scnQ l k).2.1 by omega,cond_false,fin_tok]
theorem rtk_tok (s:Str):rtkQ s=tokQ s:=by
 unfold rtkQ tokQ
 by_cases h:16384<s.length
 ·rw[if_pos h,if_pos h]
 ·rw[if_neg h,if_neg h]
  obtain⟨l,R,hl⟩:=List.exists_cons_of_ne_nil (splB_ne 10 s)
  have:=rtk_eq s (s.length+2) 0 1 0 false false [] l R (l.length+1) (l.length+1) hl (Nat.zero_le _) (Nat.le_refl _) (by omega) (by omega) (by omega) (by omega)
  rw[this,Nat.sub_self,cond_false,fin_0,lns_nf,←hl]
end Go.Proofs.YtlnpgbnhcondjaaGreatDoor.Fx
