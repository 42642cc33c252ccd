/-  -/
import Derived.Test.YtkciabfilokfiaaGreatPS
import Derived.Test.YtkciabfilokfiaaGreatRF
namespace Go.Proofs.YtkciabfilokfiaaGreat.Fx
open Vg Tf
set_option linter.unusedSimpArgs false
set_option linter.unusedVariables false
set_option maxRecDepth 100000
set_option maxHeartbeats 4000000
theorem _root_.Go.Proofs.YtkciabfilokfiaaGreat.Vg.Known.vslg {H:Hp}{β:Vl}{n:Nat}{b:Bk}(h:Known H β n b){sz:Nat}{rows:List (List Value)}(hr:∀r∈rows,r.length=sz)(hc:b.cells.map (Cv.g β)=rows.flatten):∃s:Sv,gval β (.sl n 0 rows.length sz)=vsl s rows.length∧SlH H (vsl s rows.length) sz rows:=by
 have h2:Known H β n ⟨b.ro,(b.cells.map (Cv.g β)).map .v,b.elem⟩:=by
  unfold Known at h⊢
  simp only[List.length_map,List.map_eq_nil_iff,mapV_g]at h⊢
  exact h
 exact h2.vslx hr (by show(b.cells.map (Cv.g β)).map Cv.v=rowsC rows;rw[hc];rfl)
structure Dg.smP (d:Dg):Prop where
 nm:d.nm.length≤1000000000000000
 tys:d.tys.length≤1000000000000000∧∀t∈d.tys,t.nm.length≤1000000000000000
 cus:d.cus.length≤1000000000000000∧∀c∈d.cus,c.nm.length≤1000000000000000∧c.xs.length≤1000000000000000∧c.ys.length≤1000000000000000
 mas:d.mas.length≤1000000000000000∧∀m∈d.mas,m.nm.length≤1000000000000000∧∀v∈m.zs,v.length≤1000000000000000
 ins:d.ins.length≤1000000000000000∧∀p∈d.ins,p.nm.length≤1000000000000000∧p.ty.length≤1000000000000000
 bls:d.bls.length≤1000000000000000∧∀b∈d.bls,b.nm.length≤1000000000000000∧b.ty.length≤1000000000000000∧b.tb.length≤1000000000000000∧b.ins.length≤1000000000000000∧b.ks.length≤1000000000000000∧∀s∈b.ins,s.length≤1000000000000000
 ous:d.ous.length≤1000000000000000∧∀s∈d.ous,s.length≤1000000000000000
theorem sm_of {d:DgL}(h:Dg.smP d.c):d.sm:=
 ⟨h.nm,h.tys,⟨by have:=h.cus.1;simpa[DgL.c]using this,fun c hc=>h.cus.2 c.c (List.mem_map.2 ⟨c,hc,rfl⟩)⟩,
  ⟨by have:=h.mas.1;simpa[DgL.c]using this,fun m hm=>by
   have:=h.mas.2 m.c (List.mem_map.2 ⟨m,hm,rfl⟩)
   exact⟨this.1,fun v hv=>this.2 v.2 (List.mem_map.2 ⟨v,hv,rfl⟩)⟩⟩,h.ins,
  ⟨by have:=h.bls.1;simpa[DgL.c]using this,fun b hb=>h.bls.2 b.c (List.mem_map.2 ⟨b,hb,rfl⟩)⟩,h.ous⟩
theorem CkL.ok.mono {H H':Hp}(h:H.le H'){c:CkL}(k:c.ok H):c.ok H':=⟨k.d.mono h,k.s.mono h,k.o.mono h⟩
def exB4:Bl:=⟨[97],[97,100,100],[116],[[97],[120]],[],[]⟩
def exE:Dg:=⟨[100],[exTy],[],[],[exIn],[exB4],[]⟩
theorem exD_sm:Dg.smP exD:=⟨by decide,by decide,by decide,by decide,by decide,by decide,by decide⟩
theorem exE_sm:Dg.smP exE:=⟨by decide,by decide,by decide,by decide,by decide,by decide,by decide⟩
def T0:Bl→List (Int×Int)→Int×Int:=fun _ _=>(0,0)
theorem tab_no {H:Hp}{d:DgL}(h:d.c.bls.all (fun b=> !tabK b.kd)=true):TabOk H d T0:=fun H' cp bT bC bM bS _ _ b hb ht=>by
 have:=List.all_eq_true.1 h b.c (List.mem_map.2 ⟨b,hb,rfl⟩)
 rw[ht]at this;cases this
theorem exD_chk:(chkQ exD T0).2=([],0)∧sgQ (chkQ exD T0).1.sg [121]=some ⟨[121],exT,(0,20)⟩∧sgQ (chkQ exD T0).1.sg [122]=some ⟨[122],exT,(0,255)⟩∧(chkQ exD T0).1.sg.length=4:=by
 refine⟨?_,?_,?_,?_⟩<;>rfl
theorem exE_chk:(chkQ exE T0).2=([97],13):=by rfl
theorem awake_ {H:Hp}:CallH H Tryz.prog 11 [] (Bo true):=by
 have hchk:=fun{H':Hp} (x:DgL) (hx:x.c=exD) (o:x.ok H')=>Check_ x o (sm_of (by rw[hx];exact exD_sm)) T0 (tab_no (by rw[hx];rfl))
 have hchk2:=fun{H':Hp} (x:DgL) (hx:x.c=exE) (o:x.ok H')=>Check_ x o (sm_of (by rw[hx];exact exE_sm)) T0 (tab_no (by rw[hx];rfl))
 obtain⟨q1,q2,q3,q4⟩:=exD_chk
 refine CallH.mkS Tryz.func11 rfl en11 (by simp[Tryz.ntmps11]) (ClA.of rfl) fun C hR hP hH hL=>?_
 refine Sm.go 100 ?_
 refine vv ?_
 refine CallQ.x 110 hL example_ (Hp.le.refl _) (Sub.nil _) ClM.nil (fun _=>Fresh.nil _ _) rfl rfl rfl (fun x C1 H1 l1 k1 j1 p1=>?_)
 obtain⟨px,ox⟩:=p1
 have ox:=ox.mono j1
 refine vv ?_
 refine CallQ.x 120 l1 (hchk x px ox) (Hp.le.refl _) (Sub.nil _) ClM.nil (fun _=>Fresh.nil _ _) rfl rfl rfl (fun c C2 H2 l2 k2 j2 p2=>?_)
 obtain⟨pc,oc⟩:=p2
 have oc:=CkL.ok.mono j2 oc
 rw[px]at pc⊢
 rw[q1]
 have hsg:c.sg=(chkQ exD T0).1.sg:=congrArg CkR.sg pc
 have hcr:c.r.map Cv.v=[.v (sv c.d.nm),.v (vsl c.d.ty c.d.tys.length),.v (vsl c.d.cu c.d.cus.length),.v (vsl c.d.ma c.d.mas.length),.v (vsl c.d.i c.d.ins.length),.v (vsl c.d.bl c.d.bls.length),.v (vsl c.d.ou c.d.ous.length),.v (vsl c.s c.sg.length),.v (vsl c.o c.od.length)]:=rfl
 have hcr2:rowV c.r= .agg [.v (sv c.d.nm),.v (vsl c.d.ty c.d.tys.length),.v (vsl c.d.cu c.d.cus.length),.v (vsl c.d.ma c.d.mas.length),.v (vsl c.d.i c.d.ins.length),.v (vsl c.d.bl c.d.bls.length),.v (vsl c.d.ou c.d.ous.length),.v (vsl c.s c.sg.length),.v (vsl c.o c.od.length)]:=rfl
 rw[hcr]
 have hS1:=Signal_ c oc [121] (by rw[hsg,q4];decide)
 have hS2:=Signal_ c oc [122] (by rw[hsg,q4];decide)
 have hy:sgQ c.sg [121]=some ⟨[121],exT,(0,20)⟩:=by rw[hsg];exact q2
 have hz:sgQ c.sg [122]=some ⟨[122],exT,(0,255)⟩:=by rw[hsg];exact q3
 rw[hy,hcr2]at hS1
 rw[hz,hcr2]at hS2
 simp only[Option.getD_some,Option.isSome_some]at hS1 hS2
 refine vv ?_
 refine CallQ.h 130 hS1 (Hp.le.refl _) rfl ?_
 refine vv ?_
 refine CallQ.h 140 hS2 (Hp.le.refl _) rfl ?_
 refine vv ?_
 refine CallQ.x 150 l2 example_ (Hp.le.refl _) (Sub.nil _) ClM.nil (fun _=>Fresh.nil _ _) rfl rfl rfl (fun x3 C3 H3 l3 k3 j3 p3=>?_)
 obtain⟨px3,ox3⟩:=p3
 have ox3:=ox3.mono j3
 refine vv ?_
 have ex1:x3.tys=exD.tys:=congrArg Dg.tys px3
 have ex2:x3.ins=exD.ins:=congrArg Dg.ins px3
 have ex3:x3.nm=exD.nm:=congrArg Dg.nm px3
 have ex4:x3.ous=exD.ous:=congrArg Dg.ous px3
 have ex5:x3.cus=[]:=by have:=congrArg Dg.cus px3;simpa[DgL.c,exD]using this
 have ex6:x3.mas=[]:=by have:=congrArg Dg.mas px3;simpa[DgL.c,exD]using this
 refine CallQ.letgo (xs:=[_]) (M0:=[]) [151,152] l3 hP rfl rfl rfl en13 rfl rfl (fun β C4 l4 k4 kn=>?_)
 obtain⟨s1,hv1,hk1⟩:=(kn 151 _ rfl rfl rfl).vslx (sz:=1) (rows:=strsR [[97],[120]]) (by simp[strsR]) rfl
 have hv1:gval β (.sl 151 0 2 1)=vsl s1 2:=hv1
 obtain⟨s2,hv2,hk2⟩:=(kn 152 _ rfl rfl rfl).vslg (sz:=6) (rows:=[BlL.r (BlL.mk exB4 s1 ⟨none,0⟩)]) (fun r hr=>by rw[List.mem_singleton.1 hr];rfl) (by
  show[sv [97],sv [97,100,100],sv [116],gval β (.sl 151 0 2 1),sv [],.slice none 0 0]=_
  rw[hv1];rfl)
 have hv2:gval β (.sl 152 0 1 6)=vsl s2 1:=hv2
 simp only[Mem.conc,Env.conc,Bk.conc,Cv.conc,V.conc,W.conc,List.map_cons,List.map_nil,List.contains_cons,List.contains_nil,Nat.reduceBEq,Bool.or_false,Bool.or_true,cond_true,cond_false,hv1,hv2]
 let d4:DgL:=DgL.mk x3.nm x3.tys x3.cus x3.mas x3.ins [BlL.mk exB4 s1 ⟨none,0⟩] x3.ous x3.ty x3.cu x3.ma x3.i s2 x3.ou
 have hd4:d4.c=exE:=by
  show Dg.mk x3.nm x3.tys (x3.cus.map CuL.c) (x3.mas.map MpL.c) x3.ins [exB4] x3.ous=_
  rw[ex1,ex2,ex3,ex4,ex5,ex6];rfl
 have hok4:d4.ok C4.hp:=⟨(ox3.mono k4).ty,(ox3.mono k4).cu,(ox3.mono k4).ma,(ox3.mono k4).i,hk2,(ox3.mono k4).ou,(ox3.mono k4).cus,(ox3.mono k4).mas,fun b hb=>by rw[List.mem_singleton.1 hb];exact⟨hk1,SlH.nil _⟩⟩
 refine CallW.x 160 l4 (hchk2 d4 hd4 hok4) (Hp.le.refl _) (Sub.nil _) ClM.nil (fun _=>Fresh.nil _ _) rfl (fun c5 C5 H5 l5 k5 j5 p5=>?_)
 rw[hd4,exE_chk]
 have hcr5:c5.r.map Cv.v=[.v (sv c5.d.nm),.v (vsl c5.d.ty c5.d.tys.length),.v (vsl c5.d.cu c5.d.cus.length),.v (vsl c5.d.ma c5.d.mas.length),.v (vsl c5.d.i c5.d.ins.length),.v (vsl c5.d.bl c5.d.bls.length),.v (vsl c5.d.ou c5.d.ous.length),.v (vsl c5.s c5.sg.length),.v (vsl c5.o c5.od.length)]:=rfl
 rw[hcr5]
 refine vv ?_
 exact RetQ.bool (hR C5 l5) rfl scc rfl
end Go.Proofs.YtkciabfilokfiaaGreat.Fx
namespace Go.Proofs.YtkciabfilokfiaaGreat.Fx
open Vg Tf
set_option linter.unusedSimpArgs false
set_option linter.unusedVariables false
set_option maxRecDepth 100000
set_option maxHeartbeats 4000000
structure ChkG (d:Dg) (T:Bl→List (Int×Int)→Int×Int) (rf:List (Int×Int)):Prop where
 ok:dgOk d=true
 ck:Chkd d
 od:lopR (befB d) d.bls.length=none
 rg:rngR d T (ordR (befB d) d.bls.length) (d.bls.length+8) 1 (r0 d) (s0 d)=some (rf,none)
 q:chkQ d T=(⟨d,sgsR d rf (d.ins.length+d.bls.length),ordR (befB d) d.bls.length⟩,[],0)
theorem chk_cases (d:DgL)(T:Bl→List (Int×Int)→Int×Int):((chkQ d.c T).2.2≠0∧(chkQ d.c T).1=ck0)∨∃rf,ChkG d.c T rf:=by
 have hbl:d.c.bls.length=d.bls.length:=List.length_map _
 cases hv:dgOk d.c with
 |false=>
  have hq:chkQ d.c T=(ck0,[],1):=by unfold chkQ;rw[hv];rfl
  rw[hq];exact .inl ⟨by show(1:Int)≠0;decide,rfl⟩
 |true=>
 have hdv:(!dgOk d.c)=false:=by rw[hv];rfl
 cases hall:allE d.c with
 |some e=>
  have hq:chkQ d.c T=(ck0,e.1,e.2):=by unfold chkQ;rw[hdv,cond_false,hall]
  rw[hq];exact .inl ⟨allE_ne hall,rfl⟩
 |none=>
 cases hlo:lopN d.c with
 |some s=>
  have hq:chkQ d.c T=(ck0,s,13):=by unfold chkQ;rw[hdv,cond_false,hall,hlo]
  rw[hq];exact .inl ⟨by show(13:Int)≠0;decide,rfl⟩
 |none=>
 have hlop:lopR (befB d.c) d.c.bls.length=none:=by
  unfold lopN at hlo
  rw[Option.map_eq_none_iff]at hlo
  exact hlo
 have hodl:=(lopR_none (befB_lt d)).1 (by rw[←hbl];exact hlop)
 have hodk:=ordR_ok (befB d.c) d.bls.length
 have hodf:=full_mem hodk.1 hodk.2.1 hodl
 rw[←hbl]at hodl hodk hodf
 obtain⟨⟨rf,er⟩,hrg⟩:=rngR_some (d:=d.c) T (od:=ordR (befB d.c) d.c.bls.length) hodk.1 hodk.2.1 hodf
 cases er with
 |some e=>
  have hq:chkQ d.c T=(ck0,e.1,e.2):=by unfold chkQ;rw[hdv,cond_false,hall,hlo];simp only[hrg]
  rw[hq];exact .inl ⟨rngR_err hrg,rfl⟩
 |none=>
  refine .inr ⟨rf,hv,Chkd.of hv hall,hlop,hrg,?_⟩
  unfold chkQ;rw[hdv,cond_false,hall,hlo];simp only[hrg]
theorem sgs_len (d:Dg)(rf:List (Int×Int))(n:Nat):(sgsR d rf n).length=n:=by unfold sgsR;rw[List.length_map,List.length_range]
theorem sgs_get {d:Dg}{rf:List (Int×Int)}{n i:Nat}(h:i<n):(sgsR d rf n)[i]?=some (sgF d rf i):=by
 unfold sgsR
 rw[List.getElem?_map,List.getElem?_range h];rfl
theorem ChkG.good {d:DgL}{T:Bl→List (Int×Int)→Int×Int}{rf:List (Int×Int)}(g:ChkG d.c T rf)(hT:TGd d.c T):rsG d.c rf∧rf.length=d.c.ins.length+d.c.bls.length∧(∀i,i<d.c.ins.length→rf.getD i (0,0)=inF d.c i)∧∀i,i<d.c.bls.length→∃rs st,rf.getD (d.c.ins.length+i) (0,0)=(stepR d.c T rs st i).1:=by
 have hbl:d.c.bls.length=d.bls.length:=List.length_map _
 have hod:=g.od
 have hodl:=(lopR_none (befB_lt d)).1 (by rw[←hbl];exact hod)
 have hodk:=ordR_ok (befB d.c) d.bls.length
 have hodf:=full_mem hodk.1 hodk.2.1 hodl
 rw[←hbl]at hodl hodk hodf
 exact rng_good g.ck hT hodk.1 hodk.2.1 hodf g.rg
end Go.Proofs.YtkciabfilokfiaaGreat.Fx
