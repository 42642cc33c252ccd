/-  -/
import Derived.Test.YtkciabfilokfiaaGreatPS
import Derived.Test.YtkciabfilokfiaaGreatRR
import Derived.Test.YtkciabfilokfiaaGreatRG
namespace Go.Proofs.YtkciabfilokfiaaGreat.Fx
open Vg Tf
set_option linter.unusedSimpArgs false
set_option linter.unusedVariables false
set_option maxRecDepth 100000
set_option maxHeartbeats 4000000
structure ChkG (d:Dg) (T:Bl→List (Int×Int)→Int×Int) (rf:List (Int×Int)):Prop where
 ok:dgOk d=true
 ck:Chkd d
 od:lopR (befB d) d.bls.length=none
 rg:rngR d T (ordR (befB d) d.bls.length) (d.bls.length+8) 1 (r0 d) (s0 d)=some (rf,none)
 q:chkQ d T=(⟨d,sgsR d rf (d.ins.length+d.bls.length),ordR (befB d) d.bls.length⟩,[],0)
theorem chk_cases (d:DgL)(T:Bl→List (Int×Int)→Int×Int):((chkQ d.c T).2.2≠0∧(chkQ d.c T).1=ck0)∨∃rf,ChkG d.c T rf:=by
 have hbl:d.c.bls.length=d.bls.length:=List.length_map _
 cases hv:dgOk d.c with
 |false=>
  have hq:chkQ d.c T=(ck0,[],1):=by unfold chkQ;rw[hv];rfl
  rw[hq];exact .inl ⟨by show(1:Int)≠0;decide,rfl⟩
 |true=>
 have hdv:(!dgOk d.c)=false:=by rw[hv];rfl
 cases hall:allE d.c with
 |some e=>
  have hq:chkQ d.c T=(ck0,e.1,e.2):=by unfold chkQ;rw[hdv,cond_false,hall]
  rw[hq];exact .inl ⟨allE_ne hall,rfl⟩
 |none=>
 cases hlo:lopN d.c with
 |some s=>
  have hq:chkQ d.c T=(ck0,s,13):=by unfold chkQ;rw[hdv,cond_false,hall,hlo]
  rw[hq];exact .inl ⟨by show(13:Int)≠0;decide,rfl⟩
 |none=>
 have hlop:lopR (befB d.c) d.c.bls.length=none:=by
  unfold lopN at hlo
  rw[Option.map_eq_none_iff]at hlo
  exact hlo
 have hodl:=(lopR_none (befB_lt d)).1 (by rw[←hbl];exact hlop)
 have hodk:=ordR_ok (befB d.c) d.bls.length
 have hodf:=full_mem hodk.1 hodk.2.1 hodl
 rw[←hbl]at hodl hodk hodf
 obtain⟨⟨rf,er⟩,hrg⟩:=rngR_some (d:=d.c) T (od:=ordR (befB d.c) d.c.bls.length) hodk.1 hodk.2.1 hodf
 cases er with
 |some e=>
  have hq:chkQ d.c T=(ck0,e.1,e.2):=by unfold chkQ;rw[hdv,cond_false,hall,hlo];simp only[hrg]
  rw[hq];exact .inl ⟨rngR_err hrg,rfl⟩
 |none=>
  refine .inr ⟨rf,hv,Chkd.of hv hall,hlop,hrg,?_⟩
  unfold chkQ;rw[hdv,cond_false,hall,hlo];simp only[hrg]
theorem sgs_len (d:Dg)(rf:List (Int×Int))(n:Nat):(sgsR d rf n).length=n:=by unfold sgsR;rw[List.length_map,List.length_range]
theorem sgs_get {d:Dg}{rf:List (Int×Int)}{n i:Nat}(h:i<n):(sgsR d rf n)[i]?=some (sgF d rf i):=by
 unfold sgsR
 rw[List.getElem?_map,List.getElem?_range h];rfl
theorem ChkG.good {d:DgL}{T:Bl→List (Int×Int)→Int×Int}{rf:List (Int×Int)}(g:ChkG d.c T rf)(hT:TGd d.c T):rsG d.c rf∧rf.length=d.c.ins.length+d.c.bls.length∧(∀i,i<d.c.ins.length→rf.getD i (0,0)=inF d.c i)∧∀i,i<d.c.bls.length→∃rs st,rf.getD (d.c.ins.length+i) (0,0)=(stepR d.c T rs st i).1:=by
 have hbl:d.c.bls.length=d.bls.length:=List.length_map _
 have hod:=g.od
 have hodl:=(lopR_none (befB_lt d)).1 (by rw[←hbl];exact hod)
 have hodk:=ordR_ok (befB d.c) d.bls.length
 have hodf:=full_mem hodk.1 hodk.2.1 hodl
 rw[←hbl]at hodl hodk hodf
 exact rng_good g.ck hT hodk.1 hodk.2.1 hodf g.rg
theorem sigs_in (d:DgL){i:Nat}(h:i<d.ins.length):(sigs d.c).getD i []=d.ins[i].nm:=by
 unfold sigs
 rw[List.getD_eq_getElem?_getD,List.getElem?_append_left (by rw[List.length_map];exact h),List.getElem?_map]
 have:d.c.ins[i]?=some d.ins[i]:=List.getElem?_eq_getElem h
 rw[this];rfl
theorem sigs_bl (d:DgL){i:Nat}(h:i<d.bls.length):(sigs d.c).getD (d.ins.length+i) []=d.bls[i].c.nm:=by
 unfold sigs
 have hl:(d.c.ins.map (·.nm)).length=d.ins.length:=List.length_map _
 rw[List.getD_eq_getElem?_getD,List.getElem?_append_right (by rw[hl];omega),hl,show d.ins.length+i-d.ins.length=i by omega,List.getElem?_map]
 have:d.c.bls[i]?=some d.bls[i].c:=by simp[DgL.c,h]
 rw[this];rfl
theorem step_const {d:DgL}{T:Bl→List (Int×Int)→Int×Int}{rs st:List (Int×Int)}{i:Nat}(h:i<d.bls.length)(hk:(d.bls[i].c.kd==[99,111,110,115,116])=true):(stepR d.c T rs st i).1.1=(stepR d.c T rs st i).1.2:=by
 have hb:d.c.bls.getD i bl0=d.bls[i].c:=by
  rw[List.getD_eq_getElem?_getD]
  have:d.c.bls[i]?=some d.bls[i].c:=by simp[DgL.c,h]
  rw[this];rfl
 unfold stepR blkR
 rw[hb]
 simp only[hk,cond_true]
theorem within_ {H:Hp}(d:DgL)(hd:d.ok H)(hs:d.sm)(haw:CallH H Tryz.prog 11 [] (Bo true)):CallX H Tryz.prog 3 [rowV d.r] [] (fun _:Unit=>Bo true) (fun _=>[]) (fun _ _=>True):=by
 refine CallX.mkS Tryz.func3 rfl en3 (by simp[Tryz.ntmps3]) (ClA.of rfl) (fun _=>rfl) (fun _=>rfl) fun C hR hP hH hL=>?_
 have hR:=hR ()
 refine Sm.go 100 ?_
 refine vv ?_
 refine CallQ.h 110 haw hH rfl ?_
 refine vv ?_
 refine CallQ.h 110 (great_ d hd hs) hH rfl ?_
 refine vv ?_
 refine mtch (fun hg=>?_) (fun hg=>?_)
 ·exact RetQ.of (hR C hL trivial) rfl scc rvv (Sub.nil _) ClM.nil (ClV.of rfl)
 refine CallQ.x 120 hL (Check_ d hd hs (tblQ d.c) (table_ d)) hH (Sub.nil _) ClM.nil (fun _=>Fresh.nil _ _) rfl rfl rfl (fun x C1 H1 l1 k1 j1 p1=>?_)
 obtain⟨px,ox⟩:=p1
 have ox:=CkL.ok.mono j1 ox
 have hcr:x.r.map Cv.v=[.v (sv x.d.nm),.v (vsl x.d.ty x.d.tys.length),.v (vsl x.d.cu x.d.cus.length),.v (vsl x.d.ma x.d.mas.length),.v (vsl x.d.i x.d.ins.length),.v (vsl x.d.bl x.d.bls.length),.v (vsl x.d.ou x.d.ous.length),.v (vsl x.s x.sg.length),.v (vsl x.o x.od.length)]:=rfl
 have hcr2:rowV x.r= .agg [.v (sv x.d.nm),.v (vsl x.d.ty x.d.tys.length),.v (vsl x.d.cu x.d.cus.length),.v (vsl x.d.ma x.d.mas.length),.v (vsl x.d.i x.d.ins.length),.v (vsl x.d.bl x.d.bls.length),.v (vsl x.d.ou x.d.ous.length),.v (vsl x.s x.sg.length),.v (vsl x.o x.od.length)]:=rfl
 rcases chk_cases d (tblQ d.c)with⟨he,hq⟩|⟨rf,G⟩
 ·have hn:=none_ x ox (by rw[px,hq])
  rw[hcr2]at hn
  have he2:((chkQ d.c (tblQ d.c)).2.2 !=0)=true:=by simpa using he
  rw[hcr]
  simp(maxSteps:=2000000) only[go_sem,he2]
  refine CallQ.h 130 hn (Hp.le.refl _) rfl ?_
  refine vv ?_
  exact RetQ.of (hR C1 l1 trivial) rfl scc rvv (Sub.nil _) ClM.nil (ClV.of rfl)
 have hq:=G.q
 rw[hq]at px⊢
 rw[hcr]
 have B:=dgB G.ok
 obtain⟨G1,G2,G3,G4⟩:=G.good (tbl_good d.c)
 have hbl:d.c.bls.length=d.bls.length:=List.length_map _
 have hil:d.c.ins=d.ins:=rfl
 have hsg:x.sg=sgsR d.c rf (d.ins.length+d.bls.length):=by have:=congrArg CkR.sg px;rw[←hbl];exact this
 have hsl:x.sg.length=d.ins.length+d.bls.length:=by rw[hsg,sgs_len]
 have B1:=B.ins
 have B2:=B.bls
 rw[hsl]
 have ew:IntKind.i64.wrap ((d.ins.length:Int)+(d.bls.length:Int))=((d.ins.length+d.bls.length:Nat):Int):=by rw[w64 (by omega) (by omega)];omega
 simp(maxSteps:=2000000) only[go_sem,ew,bne_self_eq_false]
 have hsm:(x.sg.map Sg.w).length=d.ins.length+d.bls.length:=by rw[List.length_map,hsl]
 have hss:=ox.s
 rw[hsl]at hss
 refine Sm.bringR 5 47 38 hss rfl rfl ?_
 rw[hsm]
 have hi1:(d.ins.map Po.r).length=d.ins.length:=List.length_map _
 have hb1:(d.bls.map BlL.r).length=d.bls.length:=List.length_map _
 refine Sm.bringC 2 51 100 4 ((hd.i.mono hH).mono k1) rfl rfl rfl ?_
 refine Sm.bringC 3 53 100 5 ((hd.bl.mono hH).mono k1) rfl rfl rfl ?_
 rw[hi1,hb1]
 have zs:=rows_len (r:=Sg.w) (k:=13) (fun _=>rfl) x.sg
 rw[hsl]at zs
 have zi:=rows_len (r:=Po.r) (k:=4) (fun _=>rfl) d.ins
 have zb:=rows_len (r:=BlL.r) (k:=6) (fun _=>rfl) d.bls
 refine Sm.loopM (M0:=[]) (α:={i:Nat//i≤d.ins.length+d.bls.length}) (l1.pins hP) (fun i=>[(1,true,.c (.p 1 0)),(6,true,I d.ins.length),(38,true,.c (.sl 5 0 (d.ins.length+d.bls.length) 13)),(39,true,I (d.ins.length+d.bls.length:Nat)),(40,true,I i.val)])
  (fun _=>[(1,⟨false,[.v (sv d.nm),.v (vsl d.ty d.tys.length),.v (vsl d.cu d.cus.length),.v (vsl d.ma d.mas.length),.sl 2 0 d.ins.length 4,.sl 3 0 d.bls.length 6,.v (vsl d.ou d.ous.length)],29⟩),(2,⟨true,rowsC (d.ins.map Po.r),51⟩),(3,⟨true,rowsC (d.bls.map BlL.r),53⟩),(5,⟨true,rowsC (x.sg.map Sg.w),47⟩)]) (fun i=>d.ins.length+d.bls.length-i.val) ⟨0,by omega⟩ (fun _=>ClM.of (by simp only[List.all_cons,inMV (rowsC_isV _)];rfl)) (fun _=>ClE.of rfl) [(1,100),(2,2),(3,3),(5,5)] ?_ ?_
 ·exact⟨rfl,trivial,⟨rfl,rfl,rfl,rfl,rfl,trivial⟩,⟨.inr ⟨_,rfl,.inl rfl⟩,.inr ⟨_,rfl,.inl (renV (rowsC_isV _))⟩,.inr ⟨_,rfl,.inl (renV (rowsC_isV _))⟩,.inr ⟨_,rfl,.inl (renV (rowsC_isV _))⟩,trivial⟩⟩
 rintro⟨i,hi⟩ J hj
 simp only at hj hi⊢
 refine Sm.go 150 ?_
 refine vv ?_
 refine mtch (fun hc=>?_) (fun hc=>?_)
 ·have hc:=lt_of_dec hc
  have hcs:i<x.sg.length:=by omega
  have htk:=rows_take (r:=Sg.w) (k:=13) (fun _=>rfl) x.sg i hcs
  have hg0:x.sg[i]=sgF d.c rf i:=by
   have h1:=sgs_get (d:=d.c) (rf:=rf) hc
   rw[←hsg,List.getElem?_eq_getElem hcs]at h1
   exact Option.some.inj h1
  rw[hg0]at htk
  have hty:(sgF d.c rf i).ty=tyAt d.c i:=rfl
  have hrr:(sgF d.c rf i).r=rf.getD i (0,0):=rfl
  have hnn:(sgF d.c rf i).nm=(sigs d.c).getD i []:=rfl
  have gi:=G1 i
  rw[←hty,←hrr]at gi
  generalize sgF d.c rf i=g at*
  have hlim:=lims g.ty
  unfold gdR limT at gi
  obtain⟨gi1,gi2,gi3⟩:=gi
  simp only at gi1 gi2 gi3
  have d1:decide (g.r.1<bif fok g.ty then flo g.ty else 0)=false:=decide_eq_false (by omega)
  have d2:decide (g.r.2<g.r.1)=false:=decide_eq_false (by omega)
  have d3:decide ((bif fok g.ty then fhi g.ty else 0)<g.r.2)=false:=decide_eq_false (by omega)
  simp(maxSteps:=2000000) only[go_sem,htk,zs]
  refine⟨⟨by omega,by omega⟩,by omega,?_⟩
  refine CallQ.pure 160 hlim rfl ?_
  simp(maxSteps:=2000000) only[go_sem,d1,d2,d3]
  rcases Nat.lt_or_ge i d.ins.length with hlt|hge
  ·have l1:decide ((i:Int)<(d.ins.length:Int))=true:=decide_eq_true (by omega)
   have n1:=rows_one (r:=Po.r) (k:=4) (fun _=>rfl) d.ins i 0 hlt (by omega)
   have n2:=rows_one (r:=Po.r) (k:=4) (fun _=>rfl) d.ins i 2 hlt (by omega)
   have n3:=rows_one (r:=Po.r) (k:=4) (fun _=>rfl) d.ins i 3 hlt (by omega)
   have hin:=G3 i hlt
   rw[←hrr]at hin
   rw[Nat.add_zero]at n1
   have hnm:g.nm=d.ins[i].nm:=by rw[hnn];exact sigs_in d hlt
   have hpo:d.c.ins.getD i po0=d.ins[i]:=by
    rw[List.getD_eq_getElem?_getD]
    have:d.c.ins[i]?=some d.ins[i]:=List.getElem?_eq_getElem hlt
    rw[this];rfl
   have hr1:g.r.1=d.ins[i].lo:=by rw[hin];unfold inF;rw[hpo]
   have hr2:g.r.2=d.ins[i].hi:=by rw[hin];unfold inF;rw[hpo]
   have l2:decide ((d.ins.length:Int)≤(i:Int))=false:=decide_eq_false (by omega)
   refine Sm.dg 170 29 mix ?_
   simp(maxSteps:=2000000) only[go_sem,l1,n1,n2,n3,Po.r,List.getElem?_cons_zero,List.getElem?_cons_succ,Option.map_some,hnm,hr1,hr2,beq_self_eq_true]
   refine⟨⟨by omega,by omega⟩,⟨by omega,by omega⟩,⟨by omega,by omega⟩,?_⟩
   refine Sm.dg 170 32 mix ?_
   have ez:(IntKind.i64.wrap ((i:Int)-(d.ins.length:Int))).toNat=0:=by rw[w64 (by omega) (by omega)];omega
   rcases Nat.eq_zero_or_pos d.bls.length with hb0|hb0
   ·have hbe:d.bls=[]:=List.length_eq_zero_iff.1 hb0
    have k0:(rowsC (d.bls.map BlL.r))[0*6]?=none:=by rw[hbe];rfl
    have k1:(rowsC (d.bls.map BlL.r))[0*6+1]?=none:=by rw[hbe];rfl
    simp only[Nat.zero_mul,Nat.zero_add]at k0 k1
    simp(maxSteps:=2000000) only[go_sem,Bool.false_and,l2,ez,k0,k1,Nat.zero_mul,Nat.zero_add]
    refine DOpQ.ownC (v:=S []) 170 (fun h=>by cases h) ?_
    simp(maxSteps:=2000000) only[go_sem,Bool.false_and,l2,ez,k0,k1,Nat.zero_mul,Nat.zero_add]
    refine DOpQ.ownC (v:=S []) 170 (fun h=>by cases h) ?_
    simp(maxSteps:=2000000) only[go_sem,Bool.false_and,l2,ez,k0,k1,wS (show i≤1000000000000000000 by omega)]
    exact hj _ _ ⟨i+1,hc⟩ [(1,1),(2,2),(3,3),(5,5)] (by simp only;omega) ⟨rfl,trivial,⟨rfl,rfl,rfl,rfl,rfl,trivial⟩,⟨.inr ⟨_,rfl,.inl rfl⟩,.inr ⟨_,rfl,.inl (renV (rowsC_isV _))⟩,.inr ⟨_,rfl,.inl (renV (rowsC_isV _))⟩,.inr ⟨_,rfl,.inl (renV (rowsC_isV _))⟩,trivial⟩⟩
   ·have k0:=rows_one (r:=BlL.r) (k:=6) (fun _=>rfl) d.bls 0 0 hb0 (by omega)
    have k1:=rows_one (r:=BlL.r) (k:=6) (fun _=>rfl) d.bls 0 1 hb0 (by omega)
    rw[Nat.zero_mul,Nat.zero_add]at k0 k1
    simp(maxSteps:=2000000) only[go_sem,Bool.false_and,l2,ez,k0,k1,Nat.zero_mul,Nat.zero_add,BlL.r,List.getElem?_cons_zero,List.getElem?_cons_succ,Option.map_some,wS (show i≤1000000000000000000 by omega)]
    exact hj _ _ ⟨i+1,hc⟩ [(1,1),(2,2),(3,3),(5,5)] (by simp only;omega) ⟨rfl,trivial,⟨rfl,rfl,rfl,rfl,rfl,trivial⟩,⟨.inr ⟨_,rfl,.inl rfl⟩,.inr ⟨_,rfl,.inl (renV (rowsC_isV _))⟩,.inr ⟨_,rfl,.inl (renV (rowsC_isV _))⟩,.inr ⟨_,rfl,.inl (renV (rowsC_isV _))⟩,trivial⟩⟩
  ·obtain⟨n,rfl⟩:∃n,i=d.ins.length+n:=⟨i-d.ins.length,by omega⟩
   have hn:n<d.bls.length:=by omega
   have l1:decide (((d.ins.length+n:Nat):Int)<(d.ins.length:Int))=false:=decide_eq_false (by omega)
   have l2:decide ((d.ins.length:Int)≤((d.ins.length+n:Nat):Int))=true:=decide_eq_true (by omega)
   have n1:=rows_one (r:=BlL.r) (k:=6) (fun _=>rfl) d.bls n 0 hn (by omega)
   have n2:=rows_one (r:=BlL.r) (k:=6) (fun _=>rfl) d.bls n 1 hn (by omega)
   have hnm:g.nm=d.bls[n].c.nm:=by rw[hnn];exact sigs_bl d hn
   obtain⟨rs,st,hst⟩:=G4 n (by rw[hbl];exact hn)
   rw[hil,←hrr]at hst
   have hct:=step_const (T:=tblQ d.c) (rs:=rs) (st:=st) hn
   rw[←hst]at hct
   rw[Nat.add_zero]at n1
   have ej:IntKind.i64.wrap (((d.ins.length+n:Nat):Int)-(d.ins.length:Int))=(n:Int):=by rw[w64 (by omega) (by omega)];omega
   have hil4:(rowsC (d.ins.map Po.r)).length≤(d.ins.length+n)*4:=by rw[zi];omega
   have k0:(rowsC (d.ins.map Po.r))[(d.ins.length+n)*4]?=none:=List.getElem?_eq_none (by omega)
   have k2:(rowsC (d.ins.map Po.r))[(d.ins.length+n)*4+2]?=none:=List.getElem?_eq_none (by omega)
   have k3:(rowsC (d.ins.map Po.r))[(d.ins.length+n)*4+3]?=none:=List.getElem?_eq_none (by omega)
   refine Sm.dg 170 29 mix ?_
   simp(maxSteps:=2000000) only[go_sem,Bool.false_and,l1,k0,k2,k3]
   refine DOpQ.ownC (v:=S []) 170 (fun h=>by cases h) ?_
   simp(maxSteps:=2000000) only[go_sem,Bool.false_and,l1,k0,k2,k3]
   refine DOpQ.ownC (v:=I 0) 170 (fun h=>by cases h) ?_
   simp(maxSteps:=2000000) only[go_sem,Bool.false_and,l1,k0,k2,k3]
   refine DOpQ.ownC (v:=I 0) 170 (fun h=>by cases h) ?_
   simp(maxSteps:=2000000) only[go_sem,Bool.false_and,l1,k0,k2,k3]
   refine Sm.dg 170 32 mix ?_
   simp(maxSteps:=2000000) only[go_sem,l2,ej,n1,n2,BlL.r,List.getElem?_cons_zero,List.getElem?_cons_succ,Option.map_some,hnm,beq_self_eq_true]
   refine⟨⟨by omega,by omega⟩,?_⟩
   have hcf:(bif d.bls[n].c.kd==[99,111,110,115,116]then g.r.1 !=g.r.2 else false)=false:=by
    cases hk:d.bls[n].c.kd==[99,111,110,115,116]with
    |false=>rfl
    |true=>rw[hct hk,cond_true];simp
   simp(maxSteps:=2000000) only[go_sem,hcf,wS (show d.ins.length+n≤1000000000000000000 by omega)]
   exact⟨⟨by omega,by omega⟩,hj _ _ ⟨d.ins.length+n+1,hc⟩ [(1,1),(2,2),(3,3),(5,5)] (by simp only;omega) ⟨rfl,trivial,⟨rfl,rfl,rfl,rfl,rfl,trivial⟩,⟨.inr ⟨_,rfl,.inl rfl⟩,.inr ⟨_,rfl,.inl (renV (rowsC_isV _))⟩,.inr ⟨_,rfl,.inl (renV (rowsC_isV _))⟩,.inr ⟨_,rfl,.inl (renV (rowsC_isV _))⟩,trivial⟩⟩⟩
 ·exact RetQ.of (hR C1 l1 trivial) rfl scc rvv (Sub.nil _) ClM.nil (ClV.of rfl)
end Go.Proofs.YtkciabfilokfiaaGreat.Fx
