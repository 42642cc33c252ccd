/-  -/
import Derived.Test.YtlnpgbnhcondjaaGreatDoorPS
import Derived.Test.YtlnpgbnhcondjaaGreatDoorYG
namespace Go.Proofs.YtlnpgbnhcondjaaGreatDoor.Fx
open Vg Tf
set_option linter.unusedSimpArgs false
set_option linter.unusedVariables false
set_option linter.unusedSectionVars false
set_option maxRecDepth 100000
set_option maxHeartbeats 4000000
theorem plc1_ {H:Hp}(t:Tk)(l c:Nat)(pv:Value)(hpv:PtH H pv [iv l,iv c]):CallH H Tryz.prog 29 [rowV t.r,.c (.v pv)] (Bo (t.l==l&&t.c==c)):=by
 refine CallH.mkS Tryz.func29 rfl en29 (by simp[Tryz.ntmps29]) (ClA.of rfl) fun C hR hP hH hL=>?_
 refine Sm.bringP 1 32 1 (hpv.mono hH) rfl rfl (Sm.go 100 ?_)
 simp(maxSteps:=2000000) only[go_sem,Tk.r]
 refine RetQ.bool (hR C hL) rfl ⟨rfl,trivial⟩ ?_
 rw[kB,kB]
theorem parW_ok:∀(Ls:List (List Tk)) (beg:Bool) (d:Dg),(∀U∈Ls,LnT U∧U.length≤40000)→(parW Ls beg d).2.2=0→(parW Ls beg d).2.1=(0,0)
 |[],_,_,_,_=>rfl
 |U::Ls,beg,d,hU,h=>by
  obtain⟨hu,hl⟩:=hU U (List.mem_cons_self ..)
  rw[parW]at h⊢
  cases ho:(lneP U beg d ps0).1 with
  |none=>
   rw[ho]at h
   exact absurd h ((lne_rd hu.g hl beg d (List.length_pos_iff.2 hu.n)).2 ho)
  |some d'=>
   rw[ho]at h
   exact parW_ok Ls false d' (fun V hV=>hU V (List.mem_cons_of_mem _ hV)) h
theorem lnsU_sm (s:Str)(he:(tokQ s).2.2=0):(tokQ s).1=(lnsU 0 (splB 10 s)).flatten∧∀U∈lnsU 0 (splB 10 s),LnT U∧U.length≤40000:=by
 have h16:¬16384<s.length:=fun h=>by unfold tokQ at he;rw[if_pos h]at he;cases he
 have hfa:=tok_facts s
 have hq:(lnsQ 0 (splB 10 s)).2.2=0:=by unfold tokQ at he;rw[if_neg h16]at he;exact he
 have hq1:(tokQ s).1=(lnsU 0 (splB 10 s)).flatten:=by unfold tokQ;rw[if_neg h16];exact(lns_lines _ _ hq).1
 refine⟨hq1,fun U hU=>⟨lnsU_ok _ _ U hU,?_⟩⟩
 have:U.length≤(lnsU 0 (splB 10 s)).flatten.length:=by
  obtain⟨A,B,h⟩:=List.append_of_mem hU
  rw[h];simp;omega
 rw[←hq1]at this
 omega
theorem par_ok (s:Str)(h:(parD s).2.2=0):(parD s).2.1=(0,0)∧(tokQ s).1≠[]:=by
 have hp:=par_eq s
 by_cases he:(tokQ s).2.2=0
 ·obtain⟨h1,h2⟩:=lnsU_sm s he
  rw[if_neg (by rw[he];simp)]at hp
  by_cases hn:lnsU 0 (splB 10 s)=[]
  ·rw[if_pos hn]at hp;rw[hp]at h;cases h
  ·rw[if_neg hn]at hp
   rw[hp]at h⊢
   refine⟨parW_ok _ _ _ h2 h,fun h0=>?_⟩
   rw[h1]at h0
   have hl:=lnsU_len (splB 10 s) 0
   rw[h0]at hl
   exact hn (List.length_eq_zero_iff.1 (Nat.le_zero.1 hl))
 ·rw[if_pos he]at hp;rw[hp]at h;exact absurd h he
theorem par_nil (s:Str)(he:(tokQ s).2.2=0)(h:(tokQ s).1=[]):parD s=(d0,(0,0),4):=by
 unfold parD
 rw[if_neg (by rw[he];simp),if_pos h]
theorem nlN_le:∀(j:Nat) (s:Str) (n:Nat),nlN j s=some n→j≤n
 |0,_,_,_=>Nat.zero_le _
 |j+1,s,n,h=>by
  rw[nlN]at h
  cases hb:(cutB 10 s).2.2 with
  |false=>rw[hb]at h;cases h
  |true=>
   rw[hb,cond_true]at h
   cases hm:nlN j (cutB 10 s).2.1 with
   |none=>rw[hm]at h;cases h
   |some m=>
    rw[hm]at h
    have:=nlN_le j _ m hm
    have h:m+((cutB 10 s).1.length+1)=n:=Option.some.inj h
    omega
theorem places_ {H:Hp}(hE:ErR H)(s:Str):CallH H Tryz.prog 6 [S s] (Bo true):=by
 refine CallH.mkS Tryz.func6 rfl en6 (by simp[Tryz.ntmps6]) (ClA.of rfl) fun C hR hP hH hL=>?_
 refine Sm.go 100 ?_
 refine vv ?_
 refine CallQ.h 110 (awake_ hE) hH rfl ?_
 refine vv ?_
 refine mtch (fun hc=>?_) (fun hc=>?_)
 ·exact RetQ.bool (hR C hL) rfl ⟨rfl,trivial⟩ rfl
 have hs3:s.length≤3000:=by have:=of_decide_eq_false hc;omega
 have hpl:=places s
 have hok:=par_ok s
 have hnil:=par_nil s
 refine CallQ.x 120 hL (tokens2_ hE s (by omega)) hH (SubS.sub trivial) ClM.nil (fun _=>Fresh.of rfl) rfl rfl rfl (fun _ C1 H1 l1 k1 _ _=>?_)
 refine vv ?_
 have hH1:=hH.trans k1
 refine CallQ.x 130 l1 (dparse_ hE s (by omega)) hH1 (SubS.sub trivial) ClM.nil (fun _=>Fresh.of rfl) rfl rfl rfl (fun x C2 H2 l2 k2 _ _=>?_)
 have hH2:=hH1.trans k2
 have hcr:x.r.map Cv.v=[.v (sv x.nm),.v (vsl x.ty x.tys.length),.v (vsl x.cu x.cus.length),.v (vsl x.ma x.mas.length),.v (vsl x.i x.ins.length),.v (vsl x.bl x.bls.length),.v (vsl x.ou x.ous.length)]:=rfl
 rw[hcr]
 refine vv ?_
 refine mtch (fun hc=>?_) (fun hc=>?_)
 ·have he:(tokQ s).2.2≠0:=by simpa using hc
  have hpd:parD s=(d0,(tokQ s).2.1,(tokQ s).2.2):=by unfold parD;rw[if_pos he]
  simp only[hpd]
  exact RetQ.bool (hR C2 l2) rfl ⟨rfl,trivial⟩ (by simp)
 have he:(tokQ s).2.2=0:=by simpa using hc
 cases hf0:((parD s).2.2==0)with
 |true=>
  obtain⟨h1,h2⟩:=hok (eq_of_beq hf0)
  have h3:decide ((0:Int)<((tokQ s).1.length:Int))=true:=tru_of (by have:=List.length_pos_iff.2 h2;omega)
  simp(maxSteps:=2000000) only[go_sem,hf0,h1,h3]
  exact RetQ.bool (hR C2 l2) rfl ⟨rfl,trivial⟩ rfl
 |false=>
 have hf1:(parD s).2.2≠0:=by simpa using hf0
 cases hT0:(((tokQ s).1.length:Int)==0)with
 |true=>
  have hTn:(tokQ s).1=[]:=List.length_eq_zero_iff.1 (by have:=eq_of_beq hT0;omega)
  have hpd:=hnil he hTn
  have h0:decide ((0:Int)<((tokQ s).1.length:Int))=false:=by rw[hTn];rfl
  simp(maxSteps:=2000000) only[go_sem,hf0,hT0,hpd,h0]
  exact RetQ.bool (hR C2 l2) rfl ⟨rfl,trivial⟩ rfl
 |false=>
 have hTn:(tokQ s).1≠[]:=fun h=>by rw[h]at hT0;cases hT0
 obtain⟨⟨t,ht,hte⟩,n,hn1,hn2,hn3,hn4⟩:=hpl he hTn hf1
 simp(maxSteps:=2000000) only[go_sem,hf0,hT0]
 have hTl:=(tok_facts s).1
 generalize hT:(tokQ s).1=T at*
 generalize parD s=X at*
 obtain⟨D,⟨a,b⟩,f⟩:=X
 simp only at hte hn1 hn3
 refine CallQ.letgo (xs:=[_,_]) (M0:=[]) [2,131] l2 hP rfl (by unfold concOk;simp only[List.all_cons,cokV (rowsC_isV _)];rfl) rfl en28 rfl rfl (fun β C3 l3 k3 kn=>?_)
 obtain⟨sT,hvT,hkT⟩:=(kn 2 _ rfl rfl rfl).vslx (sz:=4) (rows:=T.map Tk.r) (fun r hr=>by obtain⟨a,_,rfl⟩:=List.mem_map.1 hr;rfl) rfl
 rw[List.length_map]at hvT hkT
 have hpt:PtH C3.hp (gval β (.p 131 0)) [iv a,iv b]:=(kn 131 _ rfl rfl rfl).pt (by simp)
 simp only[Mem.conc,Env.conc,Bk.conc,Cv.conc,V.conc,W.conc,List.map_cons,List.map_nil,List.contains_cons,List.contains_nil,List.any_cons,List.any_nil,Nat.reduceBEq,Bool.or_false,Bool.or_true,cond_true,cond_false,concV (rowsC_isV _),hvT]
 have hany:T.any (fun t=>t.l==a&&t.c==b)=true:=List.any_eq_true.2 ⟨t,ht,by
  obtain⟨q1,q2⟩:=Prod.mk.inj hte
  rw[q1,q2];simp⟩
 have hcf:=cofTk (H:=C3.hp) sT T hkT (by omega) 29 #[ptr β 131 0] (fun t=>t.l==a&&t.c==b) (fun x hx=>plc1_ x a b _ hpt)
 rw[hany]at hcf
 refine CallW.h 140 l3 hcf (Hp.le.refl _) rfl (fun C4 l4 k4=>?_)
 refine vv ?_
 refine Sm.bringP 231 32 7 (hpt.mono k4) rfl rfl ?_
 have han:=nlN_le _ _ _ hn1
 obtain⟨m,rfl⟩:∃m,a=m+1:=⟨a-1,by omega⟩
 simp only[Nat.add_sub_cancel]at hn1 han
 have hwa:IntKind.i64.wrap (((m+1:Nat):Int)-1)=(m:Int):=by rw[w64 (by omega) (by omega)];omega
 refine Sm.go 240 ?_
 simp(maxSteps:=2000000) only[go_sem,hwa]
 refine Sm.loopM (M0:=[]) (α:={x:Nat×Nat//x.1≤m∧x.2≤s.length∧(nlN (m-x.1) (s.drop x.2)).map (· +x.2)=some n}) (l4.pins hP) (fun x=>[(0,true,S s),(66,true,I m),(67,true,I x.val.1),(9,true,I x.val.2)]) (fun _=>[]) (fun x=>m-x.val.1) ⟨(0,0),Nat.zero_le _,Nat.zero_le _,by simp only[Nat.sub_zero,List.drop_zero];rw[hn1];rfl⟩ (fun _=>ClM.nil) (fun _=>ClE.of rfl) [] ?_ ?_
 ·exact⟨rfl,trivial,⟨rfl,rfl,rfl,rfl,trivial⟩,trivial⟩
 rintro⟨⟨i,o⟩,hi,ho,hx⟩ J hb
 simp only at hb hi ho hx⊢
 refine Sm.go 250 ?_
 refine vv ?_
 refine mtch (fun hc=>?_) (fun hc=>?_)
 ·have hc:=lt_of_dec hc
  refine⟨by omega,?_⟩
  have hdr:List.take ((s.length:Int)-(o:Int)).toNat (s.drop o)=s.drop o:=List.take_of_length_le (by rw[List.length_drop];omega)
  rw[hdr]
  obtain⟨j,hj2⟩:∃j,m-i=j+1:=⟨m-i-1,by omega⟩
  rw[hj2,nlN]at hx
  have hcx:=cutB_ix 10 (s.drop o)
  have hge:=Lib.indexByte_ge (s.drop o) 10
  have hne:Lib.indexByte (s.drop o) 10≠ -1:=fun h=>by rw[hcx.1 h]at hx;cases hx
  obtain⟨k0,hk0⟩:∃k0:Nat,Lib.indexByte (s.drop o) 10=k0:=⟨(Lib.indexByte (s.drop o) 10).toNat,by omega⟩
  obtain⟨q1,q2⟩:=hcx.2 k0 hk0
  rw[q2,cond_true]at hx
  rw[List.length_drop]at q1
  have htl:(List.take k0 (s.drop o)).length=k0:=by rw[List.length_take,List.length_drop];omega
  simp only[htl,List.drop_drop]at hx
  have hix:=ixB (s.drop o) 10
  rw[hk0]at hix
  have hng:decide ((k0:Int)<0)=false:=decide_eq_false (by omega)
  have hw1:IntKind.i64.wrap ((k0:Int)+1)=((k0+1:Nat):Int):=wS (by omega)
  have hw2:IntKind.i64.wrap ((o:Int)+((k0+1:Nat):Int))=((o+(k0+1):Nat):Int):=by rw[w64 (by omega) (by omega)];omega
  refine CallQ.pure 260 hix rfl ?_
  simp(maxSteps:=2000000) only[go_sem,hng,hw1,hw2,wS (show i≤1000000000000000000 by omega)]
  refine hb _ _ ⟨(i+1,o+(k0+1)),by simp only;omega,by simp only;omega,?_⟩ [] (by simp only;omega) ⟨rfl,trivial,⟨rfl,rfl,rfl,rfl,trivial⟩,trivial⟩
  simp only
  rw[show m-(i+1)=j from by omega]
  cases hz:nlN j (s.drop (o+(k0+1)))with
  |none=>rw[hz]at hx;cases hx
  |some z=>
   rw[hz]at hx
   have hx:z+(k0+1)+o=n:=Option.some.inj hx
   show some (z+(o+(k0+1)))=some n
   congr 1
   omega
 ·have hc:=eq_of_dec hi hc
  subst hc
  rw[Nat.sub_self]at hx
  have hx:0+o=n:=Option.some.inj hx
  obtain rfl:o=n:=by omega
  refine⟨⟨by omega,by omega⟩,?_⟩
  have htk:(List.take ((o:Int)-0).toNat s)=s.take o:=by rw[show((o:Int)-0).toNat=o from by omega]
  rw[htk]
  have hH4:=hH2.trans (k3.trans k4)
  refine CallQ.x 270 l4 (dparse_ hE (s.take o) (by rw[List.length_take];omega)) hH4 (SubS.sub trivial) ClM.nil (fun _=>Fresh.of rfl) rfl rfl rfl (fun y C5 H5 l5 k5 _ _=>?_)
  have hcy:y.r.map Cv.v=[.v (sv y.nm),.v (vsl y.ty y.tys.length),.v (vsl y.cu y.cus.length),.v (vsl y.ma y.mas.length),.v (vsl y.i y.ins.length),.v (vsl y.bl y.bls.length),.v (vsl y.ou y.ous.length)]:=rfl
  rw[hcy]
  rcases hn4 with h5|⟨h5,h6⟩
  ·simp(maxSteps:=2000000) only[go_sem,h5]
   exact RetQ.bool (hR C5 l5) rfl ⟨rfl,trivial⟩ rfl
  ·simp(maxSteps:=2000000) only[go_sem,h5,h6]
   exact RetQ.bool (hR C5 l5) rfl ⟨rfl,trivial⟩ rfl
end Go.Proofs.YtlnpgbnhcondjaaGreatDoor.Fx
