/-  -/
import Derived.Test.YtlnpgbnhcondjaaGreatDoorTf
import Derived.Test.YtlnpgbnhcondjaaGreatDoorWI
import Derived.Test.YtlnpgbnhcondjaaGreatDoorWL
import Derived.Test.YtlnpgbnhcondjaaGreatDoorYX
import Derived.Test.YtlnpgbnhcondjaaGreatDoorYI
import Derived.Test.YtlnpgbnhcondjaaGreatDoorZ1
import Derived.Test.YtlnpgbnhcondjaaGreatDoorRQ
import Derived.Test.YtlnpgbnhcondjaaGreatDoorMB
import Derived.Test.YtlnpgbnhcondjaaGreatDoorRows
import Derived.Test.YtlnpgbnhcondjaaGreatDoorY9
import Derived.LaidMore
import Derived.LaidSub
import Derived.LaidLaws
import Derived.Lib.LaidTab
import Derived.Lay
import Derived.SevenTiedAt
import Derived.Stop.Joined
namespace Go.Proofs.YtlnpgbnhcondjaaGreatDoor.Fx
open Vg Tf
set_option linter.unusedSimpArgs false
set_option linter.unusedVariables false
set_option maxRecDepth 100000
set_option maxHeartbeats 4000000
theorem lnsU_tk:∀(L:List Str) (i:Nat),∀U∈lnsU i L,(∀t∈U,TkG t)∧1<U.length
 |[],_,U,h=>by cases h
 |l::L,i,U,h=>by
  rw[lnsU]at h
  rcases List.mem_append.1 h with h|h
  ·split at h
   ·cases h
   ·rename_i hne
    rw[List.mem_singleton]at h
    subst h
    unfold lnU
    refine⟨fun t ht=>?_,?_⟩
    ·rcases List.mem_append.1 ht with ht|ht
     ·have h1:=(lin_tkv (i+1) l (l.length+1) 0 (Nat.zero_le _) t ht).1
      have h2:=lin_k (i+1) l (l.length+1) 0 (Nat.zero_le _) t ht
      exact .inr ⟨h1,by omega,h2.1⟩
     ·rw[List.mem_singleton]at ht
      subst ht
      exact .inl ⟨rfl,rfl⟩
    ·rw[List.length_append]
     have:(linQ (i+1) l (l.length+1) 0).1≠[]:=fun h=>hne (by rw[h];rfl)
     have:=List.length_pos_iff.2 this
     simp only[List.length_cons,List.length_nil];omega
  ·exact lnsU_tk L (i+1) U h
theorem flat_mem {U:List Tk}{Ls:List (List Tk)}(h:U∈Ls):U.length≤Ls.flatten.length∧lenS U≤lenS Ls.flatten:=by
 obtain⟨A,B,rfl⟩:=List.append_of_mem h
 rw[List.flatten_append,List.flatten_cons,List.length_append,List.length_append,lenS_app,lenS_app]
 omega
structure LnR (U:List Tk):Prop where
 v:VT U
 n:1<U.length
 s:StU U
 l:LnT U
theorem lnsU_r (s:Str)(h:(tokQ s).2.2=0):(tokQ s).1=(lnsU 0 (splB 10 s)).flatten∧∀U∈lnsU 0 (splB 10 s),LnR U:=by
 obtain⟨f1,f2,f3,f4⟩:=tok_facts s
 have hT:(tokQ s).1=(lnsU 0 (splB 10 s)).flatten:=by
  unfold tokQ at h⊢
  by_cases hl:16384<s.length
  ·rw[if_pos hl]at h;cases h
  ·rw[if_neg hl]at h⊢
   exact(lns_lines _ _ h).1
 refine⟨hT,fun U hU=>?_⟩
 obtain⟨q1,q2⟩:=flat_mem hU
 obtain⟨q3,q4⟩:=lnsU_tk _ _ U hU
 rw[←hT]at q1 q2
 have hl:=lnsU_ok _ _ U hU
 refine⟨⟨hl.g,fun i hi=>?_,by omega⟩,q4,?_,hl⟩
 ·rw[List.getD_eq_getElem?_getD,List.getElem?_eq_getElem hi]
  exact q3 _ (List.getElem_mem hi)
 ·unfold StU
  have:lenS (tokQ s).1≤100000:=f2
  omega
theorem _root_.Go.Proofs.YtlnpgbnhcondjaaGreatDoor.Vg.Stp.slice2 {P:Program}{o:Oper}{e:Env}{M:Mem}{ty el:TypeId}{x lo hi:Operand} {b off len c sz i j:Nat}{k1 k2:IntKind}(ho:o.op= .slice ty x (some lo) (some hi) none)(hx:rd e x=some (true,.c (.v (.slice (some ⟨b,off,none⟩) len c))))(hl:rd e lo=some (true,.c (.v (.int k1 (i:Int)))))(hh:rd e hi=some (true,.c (.v (.int k2 (j:Int)))))
  (hsl:slOf P ty=some (el,sz)) (hij:i<j) (hk:j≤c):Stp P o e M (.c (.v (.slice (some ⟨b,off+i*sz,none⟩) (j-i) (c-i)))) []:=by
 obtain⟨hu,hsz,hsz0⟩:=slOf_ok hsl
 exact Stp.pure fun β a hop w=>by
  have hex:=hop x (by simp[ho,Op.operands]) _ hx
  have hel:=hop lo (by simp[ho,Op.operands]) _ hl
  have heh:=hop hi (by simp[ho,Op.operands]) _ hh
  simp only[gv,V.g,Cv.g,cond_true]at hex heh hel
  have hb1:(Instr.sliceBounds true len c (some (a.eval lo)) (some (a.eval hi)) none).run P w= .ok (i,j,c) w:=by
   simp[Instr.sliceBounds,heh,hel,run_sliceBound (P:=P) w k2 j c .sliceAcap (by omega) (by omega),run_sliceBound (P:=P) w k1 i j .sliceB (by omega) (by omega)]
  have hat:(Instr.sliceAt ty (a.eval x) (some (a.eval lo)) (some (a.eval hi)) none).run P w=(Instr.slice ty (a.eval x) (some (a.eval lo)) (some (a.eval hi)) none).run P w:=by
   simp[Instr.sliceAt,run_underlying hu]
  unfold execOp
  simp only[ho,Sem.run_bind,Option.map_some,Option.map_none,hat]
  rw[hex]
  simp only[Instr.slice,Sem.run_bind,run_underlying hu,Result.andThen_ok,hb1,run_sizeOf' hsz hsz0,Sem.run_pure,Option.map_some,Addr.add_lit]
  congr 2
  rw[if_neg (by omega)];rfl
theorem flatN_ {sz:Nat}:∀{rows:List (List Value)},(∀r∈rows,r.length=sz)→rows.flatten.length=rows.length*sz
 |[],_=>by simp
 |r::l,h=>by
  rw[List.flatten_cons,List.length_append,h r (List.mem_cons_self ..),flatN_ fun x hx=>h x (List.mem_cons_of_mem _ hx),List.length_cons,Nat.succ_mul];omega
theorem flatD_ {sz:Nat}:∀(i:Nat) {rows:List (List Value)},(∀r∈rows,r.length=sz)→(rows.drop i).flatten=rows.flatten.drop (i*sz)
 |0,rows,_=>by simp
 |i+1,[],_=>by simp
 |i+1,r::l,h=>by
  have h0:=h r (List.mem_cons_self ..)
  have e:r.drop ((i+1)*sz)=[]:=List.drop_eq_nil_of_le (by rw[h0,Nat.succ_mul];omega)
  rw[List.drop_succ_cons,flatD_ i (fun x hx=>h x (List.mem_cons_of_mem _ hx)),List.flatten_cons,List.drop_append,e,List.nil_append,h0]
  congr 1
  rw[Nat.succ_mul];omega
theorem flatT_ {sz:Nat}:∀(i:Nat) {rows:List (List Value)},(∀r∈rows,r.length=sz)→∃q,rows.flatten=(rows.take i).flatten++q:=fun i rows _=>⟨(rows.drop i).flatten,by rw[←List.flatten_append,List.take_append_drop]⟩
theorem SlH.cut2 {H:Hp}{v:Value}{sz:Nat}{rows:List (List Value)}(h:SlH H v sz rows)(h0:0<sz){i j:Nat}(hij:i<j)(hj:j≤rows.length):∃b o c,v= .slice (some ⟨b,o,none⟩) rows.length c∧j≤c∧SlH H (.slice (some ⟨b,o+i*sz,none⟩) (j-i) (c-i)) sz ((rows.drop i).take (j-i)):=by
 obtain⟨lc,h1,h2,h3⟩:=h
 have hfl:=flatN_ h2
 have hr:0<rows.length:=by omega
 have hp:0<rows.length*sz:=Nat.mul_pos hr h0
 have hn:lc.nul=false:=by
  cases hq:lc.nul with
  |false=>rfl
  |true=>
   have:=congrArg List.length (h3.1 hq)
   rw[hfl]at this
   simp at this
   omega
 obtain⟨c,el,mk,q1,q2⟩:=h3.2.2 hn
 have hs:=h3.2.1
 rw[hfl]at hs
 have hcc:rows.length≤(lc.siz-0)/sz:=by rw[Nat.le_div_iff_mul_le h0];simpa using hs
 have hsub:∀r∈(rows.drop i).take (j-i),r.length=sz:=fun r hr=>h2 r (List.mem_of_mem_drop (List.mem_of_mem_take hr))
 have hlt:((rows.drop i).take (j-i)).length=j-i:=by rw[List.length_take,List.length_drop];omega
 refine⟨lc.blk,lc.org,(lc.siz-0)/sz,?_,by omega,⟨⟨lc.blk,lc.org+i*sz,((lc.siz-0)/sz-i)*sz,false,none⟩,?_,hsub,fun h=>(by cases h),?_,fun _=>⟨c,el,mk,q1,fun k x hx=>?_⟩⟩⟩
 ·rw[h1]
  simp only[Cv.g,hn,Bool.false_eq_true,false_and,if_false,Nat.add_zero]
 ·rw[hlt]
  simp only[Cv.g,Bool.false_eq_true,false_and,if_false,Nat.add_zero,Nat.sub_zero]
  rw[Nat.mul_div_cancel _ h0]
 ·rw[flatN_ hsub,hlt]
  exact Nat.mul_le_mul_right _ (by omega)
 ·obtain⟨q,hq⟩:=flatT_ (j-i) (rows:=rows.drop i) (fun r hr=>h2 r (List.mem_of_mem_drop hr))
  have hk:k<((rows.drop i).take (j-i)).flatten.length:=by
   rcases Nat.lt_or_ge k ((rows.drop i).take (j-i)).flatten.length with h|h
   ·exact h
   ·rw[List.getElem?_eq_none h]at hx;cases hx
  have:=q2 (i*sz+k) x (by rw[←List.getElem?_drop,←flatD_ i h2,hq,List.getElem?_append_left hk];exact hx)
  rw[←this]
  congr 1
  show lc.org+i*sz+k=_
  omega
theorem rtok_ {H:Hp}(s:Str)(hs:s.length≤1000000):
  CallX H Tryz.prog 61 [S s] [] (fun _:Unit=> .tup [.c (.sl 50 0 (tokQ s).1.length 4),.agg [nC (tokQ s).2.1.1,nC (tokQ s).2.1.2],Wi (tokQ s).2.2]) (fun _=>[(50,⟨false,rowsC ((tokQ s).1.map Tk.r),57⟩)]) (fun _ _=>True):=by
 have h0:=(rtokens_ (H:=H) s hs).ren (rn_inj [(1,50)] rfl)
 simp only[Mem.ren,List.map_cons,List.map_nil,renV (rowsC_isV _)]at h0
 exact h0
theorem refW_par (s:Str)(h:(tokQ s).2.2=0):parD s=if (tokQ s).1=[]then(d0,(0,0),4)else refW (lnsU 0 (splB 10 s)) true d0:=by
 obtain⟨h1,h2⟩:=lnsU_r s h
 rw[par_eq,if_neg (by rw[h];simp),h1]
 have hi:(lnsU 0 (splB 10 s)).flatten=[]↔lnsU 0 (splB 10 s)=[]:=by
  refine⟨fun hh=>?_,fun hh=>by rw[hh];rfl⟩
  cases hq:lnsU 0 (splB 10 s)with
  |nil=>rfl
  |cons U R=>
   have hU:=h2 U (by rw[hq];exact List.mem_cons_self ..)
   rw[hq,List.flatten_cons]at hh
   have:=(List.append_eq_nil_iff.1 hh).1
   have:=hU.n
   rw[‹U=[]›]at this;cases this
 by_cases hq:lnsU 0 (splB 10 s)=[]
 ·rw[if_pos hq,if_pos (hi.2 hq)]
 ·rw[if_neg hq,if_neg (fun hh=>hq (hi.1 hh)),refW_eq _ _ _ fun U hU=>⟨(h2 U hU).v,(h2 U hU).n⟩]
theorem rparse_ {H:Hp}(s:Str)(hs:s.length≤1000000):
  CallX H Tryz.prog 23 [S s] [] (fun x:DgL=> .tup [W.agg (x.r.map Cv.v),.agg [nC (parD s).2.1.1,nC (parD s).2.1.2],Wi (parD s).2.2]) (fun _=>[]) (fun x H'=>x.c=(parD s).1∧x.ok H'):=by
 have hf:=tok_facts s
 have htk:=rtok_ (H:=H) s hs
 have hln:=lnsU_r s
 have hpw:=refW_par s
 have hpe:(tokQ s).2.2≠0→parD s=(d0,(tokQ s).2.1,(tokQ s).2.2):=fun h=>by rw[par_eq,if_pos h]
 refine CallX.mkS Tryz.func23 rfl en23 (by simp[Tryz.ntmps23]) (ClA.of rfl) (fun _=>rfl) (fun _=>rfl) fun C hR hP hH hL=>?_
 refine Sm.go 100 ?_
 refine vv ?_
 generalize hX:parD s=X at*
 generalize lnsU 0 (splB 10 s)=Ls at*
 generalize tokQ s=tq at*
 obtain⟨T,⟨el,ec⟩,ee⟩:=tq
 obtain⟨hT,sT,g,hgd⟩:=hf
 simp only at hT sT g hgd htk hln hpw hpe
 refine CallQ.x 102 hL htk hH (SubS.sub trivial) ClM.nil (fun _=>Fresh.of rfl) rfl rfl rfl (fun _ C1 H1 l1 k1 _ _=>?_)
 refine vv ?_
 refine mtch (fun hc=>?_) (fun hc=>?_)
 ·have he:ee≠0:=by simpa using hc
  rw[hpe he]at hR
  refine Sm.dgW [100,101] 110 5 mix ?_
  simp(maxSteps:=2000000) only[go_sem,Mem.wo]
  exact RetQ.of (hR dgZ C1 l1 ⟨rfl,dgZ_ok _⟩) rfl (vv trivial) rfl (Sub.nil _) ClM.nil (ClV.of rfl)
 have he:ee=0:=by simpa using hc
 subst he
 obtain⟨hTf,hLs⟩:=hln rfl
 have hpw:=hpw rfl
 cases hT0:((T.length:Int)==0)with
 |true=>
  have hTn:T=[]:=by
   have:=eq_of_beq hT0
   exact List.length_eq_zero_iff.1 (by omega)
  rw[hpw,if_pos hTn]at hR
  simp(maxSteps:=2000000) only[go_sem,hT0]
  exact RetQ.of (hR dgZ C1 l1 ⟨rfl,dgZ_ok _⟩) rfl (vv trivial) rfl (Sub.nil _) ClM.nil (ClV.of rfl)
 |false=>
 have hTn:¬T=[]:=fun h=>by rw[h]at hT0;cases hT0
 have hTp:0<T.length:=List.length_pos_iff.2 hTn
 rw[if_neg hTn]at hpw
 simp(maxSteps:=2000000) only[go_sem,hT0]
 refine Sm.nilCell 10 11 93 103 1 rfl rfl rfl ?_
 refine Sm.nilCell 11 3 110 103 2 rfl rfl rfl ?_
 refine Sm.nilCell 12 4 115 103 3 rfl rfl rfl ?_
 refine Sm.nilCell 13 4 118 103 4 rfl rfl rfl ?_
 refine Sm.nilCell 14 6 82 103 5 rfl rfl rfl ?_
 refine Sm.nilCell 15 1 9 103 6 rfl rfl rfl ?_
 refine Sm.cutm (M0:=[]) (l1.pins hP) [(2,true,.c (.p 100 0)),(3,true,.c (.p 101 0)),(5,true,.c (.sl 50 0 T.length 4)),(8,true,.c (.p 103 0)),(9,true,I 0),(10,true,I 0)]
  [(100,⟨false,z7,30⟩),(101,⟨false,[nC 0,nC 0],32⟩),(103,⟨false,dgC dgZ,30⟩),(50,⟨false,rowsC (T.map Tk.r),57⟩),bRw 10 Td.r 93 [],bRw 11 CuL.r 110 [],bRw 12 MpL.r 115 [],bRw 13 Po.r 118 [],bRw 14 BlL.r 82 [],(15,⟨false,([]:List Str).map sC,9⟩)]
  [(100,100),(101,101),(103,103),(50,50),(10,10),(11,11),(12,12),(13,13),(14,14),(15,15)] ⟨rfl,trivial,⟨rfl,rfl,rfl,rfl,rfl,rfl,trivial⟩,⟨oR,oR,oR,oV (renV (rowsC_isV _)),oR,oR,oR,oR,oR,oR,trivial⟩⟩ (ClM.of (by simp only[List.all_cons,inMV (rowsC_isV _)];rfl)) (ClE.of rfl) ?_
 refine Sm.letgo (M0:=[]) [50] l1 hP rfl (by unfold concOk;simp only[List.all_cons,cokV (rowsC_isV _)];rfl) (fun β C2 l2 k2 kn=>?_)
 obtain⟨sT,hvT,hkT⟩:=(kn 50 _ rfl rfl rfl).vslx (sz:=4) (rows:=T.map Tk.r) (fun r hr=>by obtain⟨a,_,rfl⟩:=List.mem_map.1 hr;rfl) rfl
 have eiT:(T.map Tk.r).length=T.length:=List.length_map _
 rw[eiT]at hvT hkT
 simp only[Mem.conc,Env.conc,Bk.conc,Cv.conc,V.conc,List.map_cons,List.map_nil,List.contains_cons,List.contains_nil,Nat.reduceBEq,Bool.or_false,Bool.or_true,cond_true,cond_false,concV (rowsC_isV _),concV (v_sC _),hvT]
 clear kn hvT
 refine Sm.loopX (C:=C) (M0:=[]) (α:={x:DgL×List (List Tk)×Nat×Nat//T.drop x.2.2.1=x.2.1.flatten∧x.2.2.1+x.2.2.2≤T.length∧(∀U∈x.2.1,LnR U)∧(x.2.1=[]→x.2.2.2=0)∧(∀U R,x.2.1=U::R→x.2.2.2<U.length)∧x.1.c.bd∧refW x.2.1 (x.2.2.1==0) x.1.c=X}) l2 hP
  (fun x=>[(2,true,.c (.p 100 0)),(3,true,.c (.p 101 0)),(5,true,.c (.v (vsl sT T.length))),(8,true,.c (.p 103 0)),(9,true,I x.val.2.2.1),(10,true,I ((x.val.2.2.1+x.val.2.2.2:Nat):Int))])
  (fun x=>[(100,⟨false,z7,30⟩),(101,⟨false,[nC 0,nC 0],32⟩),(103,⟨false,dgC x.val.1,30⟩),bRw 10 Td.r 93 x.val.1.tys,bRw 11 CuL.r 110 x.val.1.cus,bRw 12 MpL.r 115 x.val.1.mas,bRw 13 Po.r 118 x.val.1.ins,bRw 14 BlL.r 82 x.val.1.bls,(15,⟨false,x.val.1.ous.map sC,9⟩)])
  (fun x hp=>x.val.1.inn hp∧SlH hp (vsl sT T.length) 4 (T.map Tk.r)) (fun x=>T.length-(x.val.2.2.1+x.val.2.2.2)) ⟨(dgZ,Ls,0,0),hTf,Nat.zero_le _,hLs,fun _=>rfl,fun U R h=>by have:=(hLs U (by simp only at h;rw[h];exact List.mem_cons_self ..)).n;simp only;omega,⟨Nat.zero_le _,Nat.zero_le _,Nat.zero_le _,Nat.zero_le _,Nat.zero_le _,Nat.zero_le _⟩,hpw.symm⟩ ⟨⟨(fun c h=>by cases h),(fun c h=>by cases h),(fun c h=>by cases h)⟩,hkT⟩
  (fun x=>ClM.of (by simp only[List.all_cons,inMV (rowsC_isV _),inMV (v_sC _)];rfl)) (fun _=>ClE.of rfl) [(100,100),(101,101),(103,103),(10,10),(11,11),(12,12),(13,13),(14,14),(15,15)] ⟨rfl,trivial,⟨rfl,rfl,rfl,rfl,rfl,rfl,trivial⟩,⟨oR,oR,oR,oR,oR,oR,oR,oR,oR,trivial⟩⟩ ?_
 clear hpw hLs hkT
 rintro⟨⟨d,rest,fr,j⟩,hdr,hfj,hLs,hj0,hjl,hbd,hx⟩ C3 J l3 hI hj
 simp only at hj hdr hfj hLs hj0 hjl hbd hx hI⊢
 obtain⟨hI,hkT⟩:=hI
 refine Sm.go 104 ?_
 refine vv ?_
 refine mtch (fun hlt=>?_) (fun hge=>?_)
 ·have hlt:=lt_of_dec hlt
  obtain⟨U,R,rfl⟩:∃U R,rest=U::R:=by
   cases rest with
   |nil=>
    exfalso
    have:=congrArg List.length hdr
    rw[List.length_drop]at this
    have h0:=hj0 rfl
    simp at this
    omega
   |cons U R=>exact⟨U,R,rfl⟩
  have hjU:=hjl U R rfl
  have hUr:=hLs U (List.mem_cons_self ..)
  have hLR:∀V∈R,LnR V:=fun V hV=>hLs V (List.mem_cons_of_mem _ hV)
  rw[List.flatten_cons]at hdr
  have hlT:T.length=fr+(U.length+R.flatten.length):=by
   have:=congrArg List.length hdr
   rw[List.length_drop,List.length_append]at this
   omega
  have hTU:T.getD (fr+j) tk0=U.getD j tk0:=by
   have:T.getD (fr+j) tk0=(T.drop fr).getD j tk0:=by rw[List.getD_eq_getElem?_getD,List.getD_eq_getElem?_getD,List.getElem?_drop]
   rw[this,hdr,List.getD_eq_getElem?_getD,List.getElem?_append_left hjU,←List.getD_eq_getElem?_getD]
  obtain⟨t0,_⟩:=tk_at T (fr+j) hlt
  rw[hTU]at t0
  have ek:(((U.getD j tk0).k:Int)==4)=((U.getD j tk0).k==4):=kB _ 4
  have ekt:(rowsC (T.map Tk.r)).length=T.length*4:=rows_len (r:=Tk.r) (k:=4) (fun _=>rfl) T
  refine Sm.bringR 50 57 34 hkT rfl rfl ?_
  refine Sm.go 120 ?_
  simp(maxSteps:=2000000) only[go_sem,eiT,t0,ek,bne]
  refine⟨⟨by omega,by omega⟩,?_⟩
  cases hk:(U.getD j tk0).k==4 with
  |false=>
   have hj1:j+1<U.length:=by
    have:=hUr.l.g j
    rcases Nat.lt_or_ge (j+1) U.length with h|h
    ·exact h
    ·have:=this (by omega)
     rw[this]at hk;cases hk
   simp(maxSteps:=2000000) only[go_sem,wS (show fr+j≤1000000000000000000 by omega)]
   exact hj _ _ C3 ⟨(d,U::R,fr,j+1),by rw[List.flatten_cons];exact hdr,by simp only;omega,hLs,fun h=>(by cases h),fun V Q h=>(by cases h;exact hj1),hbd,hx⟩ [(100,100),(101,101),(103,103),(10,10),(11,11),(12,12),(13,13),(14,14),(15,15)] l3 ⟨hI,hkT⟩ (by simp only;omega) ⟨rfl,trivial,⟨rfl,rfl,rfl,rfl,rfl,rfl,trivial⟩,⟨oR,oR,oR,oV (renV (rowsC_isV _)),oV (renV (rowsC_isV _)),oV (renV (rowsC_isV _)),oV (renV (rowsC_isV _)),oV (renV (rowsC_isV _)),oV (renV (v_sC _)),trivial⟩⟩
  |true=>
   have hj1:j+1=U.length:=by
    rcases Nat.lt_or_ge (j+1) U.length with h|h
    ·have:=hUr.l.k j h
     rw[eq_of_beq hk]at this;exact absurd rfl this
    ·omega
   obtain⟨b0,o0,c0,hvs,hjc,hcut⟩:=SlH.cut2 hkT (by decide) (i:=fr) (j:=fr+j+1) (by omega) (by rw[eiT];omega)
   rw[eiT]at hvs
   have hrw:List.take (fr+j+1-fr) (List.drop fr (T.map Tk.r))=U.map Tk.r:=by
    rw[←List.map_drop,hdr,List.map_append,List.take_left' (by rw[List.length_map];omega)]
   rw[hrw]at hcut
   have eiU:(U.map Tk.r).length=U.length:=List.length_map _
   simp(maxSteps:=2000000) only[go_sem,wS (show fr+j≤1000000000000000000 by omega)]
   refine Sm.opq rfl rfl ⟨[],_,fun _=>Stp.slice2 rfl (by rw[←hvs];rfl) rfl rfl sl50 (by omega) hjc,.inl rfl,?_⟩
   refine Sm.bringR 2 57 44 hcut rfl rfl ?_
   refine Sm.go 1 ?_
   simp(maxSteps:=2000000) only[go_sem,eiU]
   have hdr2:T.drop (fr+(j+1))=R.flatten:=by
    have:T.drop (fr+(j+1))=(T.drop fr).drop (j+1):=by rw[List.drop_drop]
    rw[this,hdr,hj1,List.drop_left]
   have e0:(fr+(j+1)==0)=false:=by rw[beq_eq_false_iff_ne];omega
   have hV:=hUr.v
   have hS:=hUr.s
   have hn1:=hUr.n
   have hU:U.length≤100000:=by omega
   have hp0:ps0.at_<U.length:=show 0<U.length by omega
   cases h0:((fr:Int)==0)with
   |true=>
    have hb0:(fr==0)=true:=by rw[←kB fr 0];exact h0
    rw[hb0,refW]at hx
    simp only[cond_true]at hx
    unfold rBeg rbd at hx
    dsimp only at hx
    have n1:=rTak_lt hV (k:=1) (s:=diaT) (by decide) hp0
    have c1:=rtake_ U hU ps0 hp0 1 diaT
    generalize rTak U 1 diaT ps0=p1 at*
    have n2:=rNam_lt hV n1
    have c2:=rname_ U hU p1 n1 (hS.h p1) n2
    generalize rNam U p1=y2 at*
    have c3:=rend_ U hU y2.2 n2
    refine CallQ.mi 130 c1 (rM_cl U ps0) ⟨oS,oS,trivial⟩ ?_
    refine vv ?_
    refine CallQ.mi 140 c2 (rM_cl U p1) ⟨oS,oS,trivial⟩ ?_
    refine vv ?_
    refine CallQ.mi 150 c3 (rM_cl U y2.2) ⟨oS,oS,trivial⟩ ?_
    refine vv ?_
    refine mtch (fun hc=>?_) (fun hc=>?_)
    ·rw[if_pos (by simpa using hc)]at hx
     rw[←hx]at hR
     refine Sm.dgW [100,101] 160 11 mix ?_
     simp(maxSteps:=2000000) only[go_sem,Mem.wo]
     exact RetQ.of (hR dgZ C3 l3 ⟨rfl,dgZ_ok _⟩) rfl (vv trivial) rfl (Sub.nil _) ClM.nil (ClV.of rfl)
    ·rw[if_neg (by simpa using hc)]at hx
     simp(maxSteps:=2000000) only[go_sem,wS (show fr+j≤1000000000000000000 by omega)]
     exact hj _ _ C3 ⟨({d with nm:=y2.1},R,fr+(j+1),0),hdr2,by simp only;omega,hLR,fun _=>rfl,fun V Q h=>by have:=(hLR V (by simp only at h;rw[h];exact List.mem_cons_self ..)).n;simp only;omega,⟨hbd.tys,hbd.cus,hbd.mas,hbd.ins,hbd.bls,hbd.ous⟩,by simp only;rw[e0];exact hx⟩ [(100,100),(101,101),(103,103),(10,10),(11,11),(12,12),(13,13),(14,14),(15,15)] l3 ⟨⟨hI.cus,hI.mas,hI.bls⟩,hkT⟩ (by simp only;omega) ⟨rfl,trivial,⟨rfl,rfl,rfl,rfl,rfl,rfl,trivial⟩,⟨oR,oR,oR,oV (renV (rowsC_isV _)),oV (renV (rowsC_isV _)),oV (renV (rowsC_isV _)),oV (renV (rowsC_isV _)),oV (renV (rowsC_isV _)),oV (renV (v_sC _)),trivial⟩⟩
   |false=>
    have hb0:(fr==0)=false:=by rw[←kB fr 0];exact h0
    rw[hb0,refW]at hx
    simp only[cond_false]at hx
    have hc:=radd_ (H:=C3.hp) U hV hS hn1 d (DgL.bd_of hbd) hI
    have hpd:=add_ref hV hn1 d.c
    have hgo:(rAdd U d.c).2.e=0→(rAdd U d.c).1.bd:=fun he=>by
     unfold PD at hpd
     cases ho:(lneP U false d.c ps0).1 with
     |none=>rw[ho]at hpd;exact absurd he hpd.1
     |some d'=>
      rw[ho]at hpd
      rw[hpd.1]
      exact(lne_go hUr.l.g false d.c hp0 (d':=d') (r:=(lneP U false d.c ps0).2) (Prod.ext ho rfl) hbd).2.2
    have h6:srt (U.getD 0 tk0).s=6→(rAdd U d.c).2.e≠0:=fun h=>by
     unfold srt at h
     split at h;· cases h
     split at h;· cases h
     split at h;· cases h
     split at h;· cases h
     split at h;· cases h
     split at h;· cases h
     rename_i g0 g1 g2 g3 g4 g5
     rw[rAdd,if_neg g0,if_neg g1,if_neg g2,if_neg g3,if_neg g4,if_neg g5]
     exact wrnE ps0
    have hk7:srt (U.getD 0 tk0).s≤6:=by
     unfold srt
     repeat' split
     all_goals omega
    have clX:ClM (rX U ps0 d):=ClM.of (by simp only[List.all_cons,inMV (rowsC_isV _),inMV (v_sC _)];rfl)
    generalize srt (U.getD 0 tk0).s=k at hc h6 hk7
    generalize rAdd U d.c=y at*
    have hk:k=0∨k=1∨k=2∨k=3∨k=4∨k=5∨k=6:=by omega
    rcases hk with rfl|rfl|rfl|rfl|rfl|rfl|rfl
    ·refine CallQ.x 130 l3 hc (Hp.le.refl _) (SubS.sub ⟨oS,oS,oS,oS,oS,oS,oS,oS,trivial⟩) clX (fun _=>Fresh.of rfl) rfl rfl rfl (fun x C4 H4 l4 k4 kH hq=>?_)
     obtain⟨hxc,hxi,hx0,hx1,hx2,hx3,hx4,hx5⟩:=hq
     simp only[lnR,dgN,nm6,Nat.reduceBEq,Nat.reduceAdd,cond_true,cond_false]
     refine vv ?_
     refine mtch (fun hc=>?_) (fun hc=>?_)
     ·rw[if_pos (by simpa using hc)]at hx
      rw[←hx]at hR
      refine Sm.dgW [100,101] 160 11 mix ?_
      simp(maxSteps:=2000000) only[go_sem,Mem.wo]
      exact RetQ.of (hR dgZ C4 l4 ⟨rfl,dgZ_ok _⟩) rfl (vv trivial) rfl (Sub.nil _) ClM.nil (ClV.of rfl)
     ·have he:y.2.e=0:=by simpa using hc
      rw[if_neg (by simpa using hc)]at hx
      have hbx:x.c.bd:=hxc▸hgo he
      simp(maxSteps:=2000000) only[go_sem,wS (show fr+j≤1000000000000000000 by omega)]
      refine hj _ _ C4 ⟨(x,R,fr+(j+1),0),hdr2,by simp only;omega,hLR,fun _=>rfl,fun V Q h=>by have:=(hLR V (by simp only at h;rw[h];exact List.mem_cons_self ..)).n;simp only;omega,hbx,by simp only;rw[e0,hxc];exact hx⟩ [(100,100),(101,101),(103,103),(10,20),(11,11),(12,12),(13,13),(14,14),(15,15)] l4 ⟨hxi.mono kH,hkT.mono k4⟩ (by simp only;omega) ⟨rfl,trivial,⟨rfl,rfl,rfl,rfl,rfl,rfl,trivial⟩,⟨oR,oR,oR,oV (renV (rowsC_isV _)),oV (renE (hx1 (by decide))),oV (renE (hx2 (by decide))),oV (renE (hx3 (by decide))),oV (renE (hx4 (by decide))),oV (renES (hx5 (by decide))),trivial⟩⟩
    ·refine CallQ.x 130 l3 hc (Hp.le.refl _) (SubS.sub ⟨oS,oS,oS,oS,oS,oS,oS,oS,trivial⟩) clX (fun _=>Fresh.of rfl) rfl rfl rfl (fun x C4 H4 l4 k4 kH hq=>?_)
     obtain⟨hxc,hxi,hx0,hx1,hx2,hx3,hx4,hx5⟩:=hq
     simp only[lnR,dgN,nm6,Nat.reduceBEq,Nat.reduceAdd,cond_true,cond_false]
     refine vv ?_
     refine mtch (fun hc=>?_) (fun hc=>?_)
     ·rw[if_pos (by simpa using hc)]at hx
      rw[←hx]at hR
      refine Sm.dgW [100,101] 160 11 mix ?_
      simp(maxSteps:=2000000) only[go_sem,Mem.wo]
      exact RetQ.of (hR dgZ C4 l4 ⟨rfl,dgZ_ok _⟩) rfl (vv trivial) rfl (Sub.nil _) ClM.nil (ClV.of rfl)
     ·have he:y.2.e=0:=by simpa using hc
      rw[if_neg (by simpa using hc)]at hx
      have hbx:x.c.bd:=hxc▸hgo he
      simp(maxSteps:=2000000) only[go_sem,wS (show fr+j≤1000000000000000000 by omega)]
      refine hj _ _ C4 ⟨(x,R,fr+(j+1),0),hdr2,by simp only;omega,hLR,fun _=>rfl,fun V Q h=>by have:=(hLR V (by simp only at h;rw[h];exact List.mem_cons_self ..)).n;simp only;omega,hbx,by simp only;rw[e0,hxc];exact hx⟩ [(100,100),(101,101),(103,103),(10,10),(11,21),(12,12),(13,13),(14,14),(15,15)] l4 ⟨hxi.mono kH,hkT.mono k4⟩ (by simp only;omega) ⟨rfl,trivial,⟨rfl,rfl,rfl,rfl,rfl,rfl,trivial⟩,⟨oR,oR,oR,oV (renE (hx0 (by decide))),oV (renV (rowsC_isV _)),oV (renE (hx2 (by decide))),oV (renE (hx3 (by decide))),oV (renE (hx4 (by decide))),oV (renES (hx5 (by decide))),trivial⟩⟩
    ·refine CallQ.x 130 l3 hc (Hp.le.refl _) (SubS.sub ⟨oS,oS,oS,oS,oS,oS,oS,oS,trivial⟩) clX (fun _=>Fresh.of rfl) rfl rfl rfl (fun x C4 H4 l4 k4 kH hq=>?_)
     obtain⟨hxc,hxi,hx0,hx1,hx2,hx3,hx4,hx5⟩:=hq
     simp only[lnR,dgN,nm6,Nat.reduceBEq,Nat.reduceAdd,cond_true,cond_false]
     refine vv ?_
     refine mtch (fun hc=>?_) (fun hc=>?_)
     ·rw[if_pos (by simpa using hc)]at hx
      rw[←hx]at hR
      refine Sm.dgW [100,101] 160 11 mix ?_
      simp(maxSteps:=2000000) only[go_sem,Mem.wo]
      exact RetQ.of (hR dgZ C4 l4 ⟨rfl,dgZ_ok _⟩) rfl (vv trivial) rfl (Sub.nil _) ClM.nil (ClV.of rfl)
     ·have he:y.2.e=0:=by simpa using hc
      rw[if_neg (by simpa using hc)]at hx
      have hbx:x.c.bd:=hxc▸hgo he
      simp(maxSteps:=2000000) only[go_sem,wS (show fr+j≤1000000000000000000 by omega)]
      refine hj _ _ C4 ⟨(x,R,fr+(j+1),0),hdr2,by simp only;omega,hLR,fun _=>rfl,fun V Q h=>by have:=(hLR V (by simp only at h;rw[h];exact List.mem_cons_self ..)).n;simp only;omega,hbx,by simp only;rw[e0,hxc];exact hx⟩ [(100,100),(101,101),(103,103),(10,10),(11,11),(12,22),(13,13),(14,14),(15,15)] l4 ⟨hxi.mono kH,hkT.mono k4⟩ (by simp only;omega) ⟨rfl,trivial,⟨rfl,rfl,rfl,rfl,rfl,rfl,trivial⟩,⟨oR,oR,oR,oV (renE (hx0 (by decide))),oV (renE (hx1 (by decide))),oV (renV (rowsC_isV _)),oV (renE (hx3 (by decide))),oV (renE (hx4 (by decide))),oV (renES (hx5 (by decide))),trivial⟩⟩
    ·refine CallQ.x 130 l3 hc (Hp.le.refl _) (SubS.sub ⟨oS,oS,oS,oS,oS,oS,oS,oS,trivial⟩) clX (fun _=>Fresh.of rfl) rfl rfl rfl (fun x C4 H4 l4 k4 kH hq=>?_)
     obtain⟨hxc,hxi,hx0,hx1,hx2,hx3,hx4,hx5⟩:=hq
     simp only[lnR,dgN,nm6,Nat.reduceBEq,Nat.reduceAdd,cond_true,cond_false]
     refine vv ?_
     refine mtch (fun hc=>?_) (fun hc=>?_)
     ·rw[if_pos (by simpa using hc)]at hx
      rw[←hx]at hR
      refine Sm.dgW [100,101] 160 11 mix ?_
      simp(maxSteps:=2000000) only[go_sem,Mem.wo]
      exact RetQ.of (hR dgZ C4 l4 ⟨rfl,dgZ_ok _⟩) rfl (vv trivial) rfl (Sub.nil _) ClM.nil (ClV.of rfl)
     ·have he:y.2.e=0:=by simpa using hc
      rw[if_neg (by simpa using hc)]at hx
      have hbx:x.c.bd:=hxc▸hgo he
      simp(maxSteps:=2000000) only[go_sem,wS (show fr+j≤1000000000000000000 by omega)]
      refine hj _ _ C4 ⟨(x,R,fr+(j+1),0),hdr2,by simp only;omega,hLR,fun _=>rfl,fun V Q h=>by have:=(hLR V (by simp only at h;rw[h];exact List.mem_cons_self ..)).n;simp only;omega,hbx,by simp only;rw[e0,hxc];exact hx⟩ [(100,100),(101,101),(103,103),(10,10),(11,11),(12,12),(13,23),(14,14),(15,15)] l4 ⟨hxi.mono kH,hkT.mono k4⟩ (by simp only;omega) ⟨rfl,trivial,⟨rfl,rfl,rfl,rfl,rfl,rfl,trivial⟩,⟨oR,oR,oR,oV (renE (hx0 (by decide))),oV (renE (hx1 (by decide))),oV (renE (hx2 (by decide))),oV (renV (rowsC_isV _)),oV (renE (hx4 (by decide))),oV (renES (hx5 (by decide))),trivial⟩⟩
    ·refine CallQ.x 130 l3 hc (Hp.le.refl _) (SubS.sub ⟨oS,oS,oS,oS,oS,oS,oS,oS,trivial⟩) clX (fun _=>Fresh.of rfl) rfl rfl rfl (fun x C4 H4 l4 k4 kH hq=>?_)
     obtain⟨hxc,hxi,hx0,hx1,hx2,hx3,hx4,hx5⟩:=hq
     simp only[lnR,dgN,nm6,Nat.reduceBEq,Nat.reduceAdd,cond_true,cond_false]
     refine vv ?_
     refine mtch (fun hc=>?_) (fun hc=>?_)
     ·rw[if_pos (by simpa using hc)]at hx
      rw[←hx]at hR
      refine Sm.dgW [100,101] 160 11 mix ?_
      simp(maxSteps:=2000000) only[go_sem,Mem.wo]
      exact RetQ.of (hR dgZ C4 l4 ⟨rfl,dgZ_ok _⟩) rfl (vv trivial) rfl (Sub.nil _) ClM.nil (ClV.of rfl)
     ·have he:y.2.e=0:=by simpa using hc
      rw[if_neg (by simpa using hc)]at hx
      have hbx:x.c.bd:=hxc▸hgo he
      simp(maxSteps:=2000000) only[go_sem,wS (show fr+j≤1000000000000000000 by omega)]
      refine hj _ _ C4 ⟨(x,R,fr+(j+1),0),hdr2,by simp only;omega,hLR,fun _=>rfl,fun V Q h=>by have:=(hLR V (by simp only at h;rw[h];exact List.mem_cons_self ..)).n;simp only;omega,hbx,by simp only;rw[e0,hxc];exact hx⟩ [(100,100),(101,101),(103,103),(10,10),(11,11),(12,12),(13,13),(14,24),(15,15)] l4 ⟨hxi.mono kH,hkT.mono k4⟩ (by simp only;omega) ⟨rfl,trivial,⟨rfl,rfl,rfl,rfl,rfl,rfl,trivial⟩,⟨oR,oR,oR,oV (renE (hx0 (by decide))),oV (renE (hx1 (by decide))),oV (renE (hx2 (by decide))),oV (renE (hx3 (by decide))),oV (renV (rowsC_isV _)),oV (renES (hx5 (by decide))),trivial⟩⟩
    ·refine CallQ.x 130 l3 hc (Hp.le.refl _) (SubS.sub ⟨oS,oS,oS,oS,oS,oS,oS,oS,trivial⟩) clX (fun _=>Fresh.of rfl) rfl rfl rfl (fun x C4 H4 l4 k4 kH hq=>?_)
     obtain⟨hxc,hxi,hx0,hx1,hx2,hx3,hx4,hx5⟩:=hq
     simp only[lnR,dgN,nm6,Nat.reduceBEq,Nat.reduceAdd,cond_true,cond_false]
     refine vv ?_
     refine mtch (fun hc=>?_) (fun hc=>?_)
     ·rw[if_pos (by simpa using hc)]at hx
      rw[←hx]at hR
      refine Sm.dgW [100,101] 160 11 mix ?_
      simp(maxSteps:=2000000) only[go_sem,Mem.wo]
      exact RetQ.of (hR dgZ C4 l4 ⟨rfl,dgZ_ok _⟩) rfl (vv trivial) rfl (Sub.nil _) ClM.nil (ClV.of rfl)
     ·have he:y.2.e=0:=by simpa using hc
      rw[if_neg (by simpa using hc)]at hx
      have hbx:x.c.bd:=hxc▸hgo he
      simp(maxSteps:=2000000) only[go_sem,wS (show fr+j≤1000000000000000000 by omega)]
      refine hj _ _ C4 ⟨(x,R,fr+(j+1),0),hdr2,by simp only;omega,hLR,fun _=>rfl,fun V Q h=>by have:=(hLR V (by simp only at h;rw[h];exact List.mem_cons_self ..)).n;simp only;omega,hbx,by simp only;rw[e0,hxc];exact hx⟩ [(100,100),(101,101),(103,103),(10,10),(11,11),(12,12),(13,13),(14,14),(15,25)] l4 ⟨hxi.mono kH,hkT.mono k4⟩ (by simp only;omega) ⟨rfl,trivial,⟨rfl,rfl,rfl,rfl,rfl,rfl,trivial⟩,⟨oR,oR,oR,oV (renE (hx0 (by decide))),oV (renE (hx1 (by decide))),oV (renE (hx2 (by decide))),oV (renE (hx3 (by decide))),oV (renE (hx4 (by decide))),oV (renV (v_sC _)),trivial⟩⟩
    ·refine CallQ.x 130 l3 hc (Hp.le.refl _) (SubS.sub ⟨oS,oS,oS,oS,oS,oS,oS,oS,trivial⟩) clX (fun _=>Fresh.of rfl) rfl rfl rfl (fun x C4 H4 l4 k4 kH hq=>?_)
     obtain⟨hxc,hxi,hx0,hx1,hx2,hx3,hx4,hx5⟩:=hq
     simp only[lnR,dgN,nm6,Nat.reduceBEq,Nat.reduceAdd,cond_true,cond_false]
     refine vv ?_
     refine mtch (fun hc=>?_) (fun hc=>?_)
     ·rw[if_pos (by simpa using hc)]at hx
      rw[←hx]at hR
      refine Sm.dgW [100,101] 160 11 mix ?_
      simp(maxSteps:=2000000) only[go_sem,Mem.wo]
      exact RetQ.of (hR dgZ C4 l4 ⟨rfl,dgZ_ok _⟩) rfl (vv trivial) rfl (Sub.nil _) ClM.nil (ClV.of rfl)
     ·exact absurd (by simpa using hc) (h6 rfl)
 ·have hge2:¬fr+j<T.length:=fun h=>by have:=of_decide_eq_false hge;omega
  have hrn:rest=[]:=by
   cases rest with
   |nil=>rfl
   |cons U R=>
    exfalso
    have h1:=hjl U R rfl
    have:=congrArg List.length hdr
    rw[List.length_drop,List.flatten_cons,List.length_append]at this
    omega
  subst hrn
  have hfx:(d.c,((0,0):Nat×Nat),(0:Int))=X:=hx
  subst hfx
  refine RetQ.letgo (M0:=[]) [10,11,12,13,14,15] l3 hP rfl (by unfold concOk;simp only[List.all_cons,cokV (rowsC_isV _),cokV (v_sC _)];rfl) (fun β C9 l9 k9 kn=>?_)
  obtain⟨s0,hv0,hk0⟩:=(kn 10 _ rfl rfl rfl).vslx (sz:=11) (rows:=d.tys.map Td.r) (fun r hr=>by obtain⟨a,_,rfl⟩:=List.mem_map.1 hr;rfl) rfl
  have ei0:(d.tys.map Td.r).length=d.tys.length:=List.length_map _
  rw[ei0]at hv0 hk0
  obtain⟨s1,hv1,hk1⟩:=(kn 11 _ rfl rfl rfl).vslx (sz:=3) (rows:=d.cus.map CuL.r) (fun r hr=>by obtain⟨a,_,rfl⟩:=List.mem_map.1 hr;rfl) rfl
  have ei1:(d.cus.map CuL.r).length=d.cus.length:=List.length_map _
  rw[ei1]at hv1 hk1
  obtain⟨s2,hv2,hk2⟩:=(kn 12 _ rfl rfl rfl).vslx (sz:=4) (rows:=d.mas.map MpL.r) (fun r hr=>by obtain⟨a,_,rfl⟩:=List.mem_map.1 hr;rfl) rfl
  have ei2:(d.mas.map MpL.r).length=d.mas.length:=List.length_map _
  rw[ei2]at hv2 hk2
  obtain⟨s3,hv3,hk3⟩:=(kn 13 _ rfl rfl rfl).vslx (sz:=4) (rows:=d.ins.map Po.r) (fun r hr=>by obtain⟨a,_,rfl⟩:=List.mem_map.1 hr;rfl) rfl
  have ei3:(d.ins.map Po.r).length=d.ins.length:=List.length_map _
  rw[ei3]at hv3 hk3
  obtain⟨s4,hv4,hk4⟩:=(kn 14 _ rfl rfl rfl).vslx (sz:=6) (rows:=d.bls.map BlL.r) (fun r hr=>by obtain⟨a,_,rfl⟩:=List.mem_map.1 hr;rfl) rfl
  have ei4:(d.bls.map BlL.r).length=d.bls.length:=List.length_map _
  rw[ei4]at hv4 hk4
  obtain⟨s5,hv5,hk5⟩:=(kn 15 _ rfl rfl rfl).vslx (sz:=1) (rows:=strsR d.ous) (fun r hr=>by obtain⟨a,_,rfl⟩:=List.mem_map.1 hr;rfl) (strsC _).symm
  have ei5:(strsR d.ous).length=d.ous.length:=List.length_map _
  rw[ei5]at hv5 hk5
  simp only[Mem.conc,Env.conc,Bk.conc,Cv.conc,V.conc,List.map_cons,List.map_nil,List.contains_cons,List.contains_nil,Nat.reduceBEq,Bool.or_false,Bool.or_true,cond_true,cond_false,concV (rowsC_isV _),concV (v_sC _),hv0,hv1,hv2,hv3,hv4,hv5]
  have hI3:=hI.mono k9
  exact RetQ.of (hR ⟨d.nm,d.tys,d.cus,d.mas,d.ins,d.bls,d.ous,s0,s1,s2,s3,s4,s5⟩ C9 l9 ⟨rfl,⟨hk0,hk1,hk2,hk3,hk4,hk5,hI3.cus,hI3.mas,hI3.bls⟩⟩) rfl (vv trivial) rfl (Sub.nil _) ClM.nil (ClV.of rfl)
theorem parses_ {H:Hp}(hE:ErR H)(s:Str):CallH H Tryz.prog 4 [S s] (Bo true):=by
 refine CallH.mkS Tryz.func4 rfl en4 (by simp[Tryz.ntmps4]) (ClA.of rfl) fun C hR hP hH hL=>?_
 refine Sm.go 100 ?_
 refine vv ?_
 refine CallQ.h 110 (awake_ hE) hH rfl ?_
 refine vv ?_
 refine mtch (fun hc=>?_) (fun hc=>?_)
 ·exact RetQ.bool (hR C hL) rfl ⟨rfl,trivial⟩ rfl
 have hs3:s.length≤3000:=by have:=of_decide_eq_false hc;omega
 refine CallQ.x 120 hL (dparse_ hE s (by omega)) hH (SubS.sub trivial) ClM.nil (fun _=>Fresh.of rfl) rfl rfl rfl (fun x C1 H1 l1 k1 j1 p1=>?_)
 have hcr:x.r.map Cv.v=[.v (sv x.nm),.v (vsl x.ty x.tys.length),.v (vsl x.cu x.cus.length),.v (vsl x.ma x.mas.length),.v (vsl x.i x.ins.length),.v (vsl x.bl x.bls.length),.v (vsl x.ou x.ous.length)]:=rfl
 rw[hcr]
 refine vv ?_
 have h1:=hH.trans k1
 refine CallQ.x 140 l1 (rparse_ s (by omega)) h1 (SubS.sub trivial) ClM.nil (fun _=>Fresh.of rfl) rfl rfl rfl (fun y C2 H2 l2 k2 j2 p2=>?_)
 have hcr2:y.r.map Cv.v=[.v (sv y.nm),.v (vsl y.ty y.tys.length),.v (vsl y.cu y.cus.length),.v (vsl y.ma y.mas.length),.v (vsl y.i y.ins.length),.v (vsl y.bl y.bls.length),.v (vsl y.ou y.ous.length)]:=rfl
 rw[hcr2]
 simp(maxSteps:=2000000) only[go_sem,beq_self_eq_true]
 have hsm:=par_sm s p2.1
 have hsame:=same_ (H:=C2.hp) x y ((p1.2.mono j1).mono k2) (p2.2.mono j2) (p1.1.trans p2.1.symm) hsm.1 hsm.2
 refine CallQ.h 160 hsame (Hp.le.refl _) rfl ?_
 simp(maxSteps:=2000000) only[go_sem,beq_self_eq_true]
 exact RetQ.bool (hR C2 l2) rfl ⟨rfl,trivial⟩ rfl
end Go.Proofs.YtlnpgbnhcondjaaGreatDoor.Fx
namespace Go.Proofs.YtlnpgbnhcondjaaGreatDoor
open Go.ChangeShapes Go.WideShapes Go.ChangeAt Go.RowKit
open Vg Tf
set_option linter.unusedSimpArgs false
set_option linter.unusedVariables false
set_option maxRecDepth 100000
theorem own:ownKnob Tryz.prog.godebug=none:=by kernel_rfl
theorem laidOut:laidOutB Tryz.prog=true:=by kernel_rfl
theorem fmr:mapsRowed Tryz.pinned.checked.prog=true:=by kernel_rfl
theorem flo:laidOutB Tryz.pinned.checked.prog=true:=by kernel_rfl
theorem fsh:Tryz.pinned.checked.prog.stopsHeard=true:=by kernel_rfl
theorem fme:Tryz.pinned.checked.prog.mayEnter=true:=by kernel_rfl
end Go.Proofs.YtlnpgbnhcondjaaGreatDoor
namespace Go.Proofs.YtlnpgbnhcondjaaGreatDoor
open Go.ChangeShapes Go.WideShapes Go.ChangeAt Go.RowKit
open Vg Tf Fx
set_option linter.unusedSimpArgs false
set_option linter.unusedVariables false
set_option maxRecDepth 100000
theorem leafS {x:Cv}(h:okL [.s] [x]=true)(hb:bdC x):∃l:List UInt8,x= .v (.string ⟨l.toArray⟩)∧l.length≤9223372036854775807:=by
 obtain⟨n,y,e,_⟩:=okL_s h
 obtain rfl:=(List.cons.inj e).1
 refine⟨n.data.toList,?_,?_⟩
 ·simp
 ·have:n.size≤maxLen:=hb
  have e:n.data.toList.length=n.size:=by rw[Array.length_toList];rfl
  unfold maxLen at this
  omega
theorem er_of {W:World}(h:laidMetH Tryz.prog [("strconv.ErrRange",Rows.laid_strconv_ErrRange)] W):ErR (hpW W):=by
 rw[MakeChecks.laidMetH_plain _ _ _ (by kernel_rfl)]at h
 obtain⟨ps,⟨g',t',cs,fuel,p,q,hg',ht',hvar,hd,_,_⟩,_⟩:=h
 have hg:Tryz.prog.globalNamed "strconv.ErrRange" =some 6:=by kernel_rfl
 obtain rfl:=Option.some.inj (hg.symm.trans hg')
 have hty:(Tryz.prog.globals[6]?).map (·.type)=some 59:=by kernel_rfl
 obtain rfl:=Option.some.inj (hty.symm.trans ht')
 obtain⟨_,u,v,hcs,_,_⟩:=Go.iface_of_trod (Tryz.underlying59) hd
 have hcs2:cs= #[.iface u v]:=by
  apply Array.toList_inj.1
  rw[hcs]
 subst hcs2
 obtain⟨el,mk,hb⟩:=GlW.of_var (cs:=[.iface u v]) hg hvar
 exact⟨.iface u v,el,mk,hb,.inr ⟨u,v,rfl⟩⟩
end Go.Proofs.YtlnpgbnhcondjaaGreatDoor
namespace Go.Proofs.YtlnpgbnhcondjaaGreatDoor
open Go.ChangeShapes Go.WideShapes Go.ChangeAt Go.RowKit
open Vg Tf
set_option linter.unusedSimpArgs false
set_option linter.unusedVariables false
set_option maxRecDepth 100000
theorem fip:Tryz.pinned.checked.prog.inPlace 4=Rows.diagramParsesRow.inPlace:=by kernel_rfl
theorem fuf:Tryz.pinned.checked.prog.unfollowed 4=Rows.diagramParsesRow.unfollowed:=by kernel_rfl
theorem frc:Tryz.pinned.checked.prog.recurses 4=Rows.diagramParsesRow.recurses:=by kernel_rfl
theorem fvn:Tryz.pinned.checked.prog.varsNamed 4=Rows.diagramParsesRow.named:=by kernel_rfl
theorem closedF:joinedFacts Tryz.pinned.checked.prog 4 Tryz.f4 Rows.diagramParsesSpec Rows.diagramParsesRow=true:=by
 unfold joinedFacts
 rw[fip,fuf,frc,fvn,fmr,flo,fsh,fme]
 kernel_rfl
theorem ffn:Tryz.pinned.checked.prog.funcNamed Rows.diagramParsesRow.func=some 4:=by kernel_rfl
theorem flk:true=Tryz.pinned.checked.prog.looks []:=by kernel_rfl
theorem fgo:false=Rows.diagramParsesRow.goesBy Tryz.pinned.checked.prog:=by kernel_rfl
theorem fwf:Rows.diagramParsesRow.wfByText (OpenSpec.ofChange Rows.diagramParsesSpec)=true:=by kernel_rfl
theorem fmi:Tryz.pinned.checked.prog.mainIs=some (true,"0b6ddabf7654c0ddcdcd670975a67c572cc1ac03156ddf7d14c8e7ba494423dd".toList):=by kernel_rfl
end Go.Proofs.YtlnpgbnhcondjaaGreatDoor
