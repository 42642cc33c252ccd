/-  -/
import Derived.Test.YtkciabfilokfiaaGreatPS
import Derived.Test.YtkciabfilokfiaaGreatRD
namespace Go.Proofs.YtkciabfilokfiaaGreat.Fx
open Vg Tf
set_option linter.unusedSimpArgs false
set_option linter.unusedVariables false
set_option maxRecDepth 100000
set_option maxHeartbeats 4000000
def sg0:Sg:=⟨[],ft0,(0,0)⟩
def sgQ (l:List Sg)(s:Str):Option Sg:=l.find? (fun x=>x.nm==s)
attribute [go_sem] Sg.w
@[reducible] def z13:List Cv:=[.v (.string ⟨#[]⟩),.v (.int .i64 0),.v (.bool false),.v (.int .i64 0),.v (.int .i64 0),.v (.int .i64 0),.v (.int .i64 0),.v (.int .i64 0),.v (.int .i64 0),.v (.int .i64 0),.v (.int .i64 0),.v (.int .i64 0),.v (.int .i64 0)]
theorem sgQ_cons (g:Sg)(l:List Sg)(s:Str):sgQ (g::l) s=bif g.nm==s then some g else sgQ l s:=by
 unfold sgQ;rw[List.find?_cons];cases g.nm==s<;>rfl
theorem Signal_ {H:Hp}(c:CkL)(hc:c.ok H)(s:Str)(hl:c.sg.length≤1000000000000000):CallH H Tryz.prog 39 [rowV c.r,S s] (.tup [W.agg (((sgQ c.sg s).getD sg0).w.map Cv.v),Wb1 (sgQ c.sg s).isSome]):=by
 have hz:=rows_len (r:=Sg.w) (k:=13) (fun _=>rfl) c.sg
 have hlm:(c.sg.map Sg.w).length=c.sg.length:=List.length_map _
 have hcr:rowV c.r= .agg [.v (sv c.d.nm),.v (vsl c.d.ty c.d.tys.length),.v (vsl c.d.cu c.d.cus.length),.v (vsl c.d.ma c.d.mas.length),.v (vsl c.d.i c.d.ins.length),.v (vsl c.d.bl c.d.bls.length),.v (vsl c.d.ou c.d.ous.length),.v (vsl c.s c.sg.length),.v (vsl c.o c.od.length)]:=rfl
 rw[hcr]
 refine CallH.mkS Tryz.func39 rfl en39 (by simp[Tryz.ntmps39]) (ClA.of rfl) fun C hR hP hH hL=>?_
 refine Sm.go 100 ?_
 refine vv ?_
 refine Sm.bringR 5 47 9 (hc.s.mono hH) rfl rfl ?_
 rw[hlm]
 refine Sm.loopM (M0:=[]) (α:={i:Nat//i≤c.sg.length∧sgQ c.sg s=sgQ (c.sg.drop i) s}) hP (fun i=>[(1,true,S s),(4,true,.c (.p 4 0)),(9,true,.c (.sl 5 0 c.sg.length 13)),(10,true,I c.sg.length),(11,true,I i.val)])
  (fun _=>[(4,⟨false,z13,47⟩),(5,⟨true,rowsC (c.sg.map Sg.w),47⟩)]) (fun i=>c.sg.length-i.val) ⟨0,by omega,rfl⟩ (fun _=>ClM.of (by simp only[List.all_cons,inMV (rowsC_isV _)];rfl)) (fun _=>ClE.of rfl) [(4,101),(5,5)] ?_ ?_
 ·exact⟨rfl,trivial,⟨rfl,rfl,rfl,rfl,rfl,trivial⟩,⟨.inr ⟨_,rfl,.inl rfl⟩,.inr ⟨_,rfl,.inl (renV (rowsC_isV _))⟩,trivial⟩⟩
 rintro⟨i,hi,hx⟩ J hj
 simp only at hj hi hx⊢
 refine Sm.go 110 ?_
 refine vv ?_
 refine mtch (fun hc2=>?_) (fun hc2=>?_)
 ·have hc2:=lt_of_dec hc2
  have htk:=rows_take (r:=Sg.w) (k:=13) (fun _=>rfl) c.sg i hc2
  rw[List.drop_eq_getElem_cons hc2,sgQ_cons]at hx
  generalize c.sg[i]=g at*
  simp(maxSteps:=2000000) only[go_sem,htk,hz]
  refine⟨⟨by omega,by omega⟩,by omega,?_⟩
  refine mtch (fun hg=>?_) (fun hg=>?_)
  ·rw[hg,cond_true]at hx
   rw[hx]at hR
   exact RetQ.of (hR C hL) rfl (vv trivial) rfl (Sub.nil _) ClM.nil (ClV.of rfl)
  ·rw[hg,cond_false]at hx
   refine Sm.go 120 ?_
   simp(maxSteps:=2000000) only[go_sem,wS (show i≤1000000000000000000 by omega)]
   exact hj _ _ ⟨i+1,hc2,hx⟩ [(4,4),(5,5)] (by simp only;omega) ⟨rfl,trivial,⟨rfl,rfl,rfl,rfl,rfl,trivial⟩,⟨.inr ⟨_,rfl,.inl rfl⟩,.inr ⟨_,rfl,.inl (renV (rowsC_isV _))⟩,trivial⟩⟩
 ·have hc2:=eq_of_dec hi hc2
  rw[hc2,List.drop_length]at hx
  have hx:sgQ c.sg s=none:=hx
  rw[hx]at hR
  exact RetQ.of (hR C hL) rfl (vv trivial) rfl (Sub.nil _) ClM.nil (ClV.of rfl)
end Go.Proofs.YtkciabfilokfiaaGreat.Fx
namespace Go.Proofs.YtkciabfilokfiaaGreat.Fx
open Vg Tf
set_option linter.unusedSimpArgs false
set_option linter.unusedVariables false
set_option maxRecDepth 100000
set_option maxHeartbeats 4000000
@[go_sem ↓] theorem plS_1_11:plS 1 11=[(0,11)]:=rfl
@[go_sem ↓] theorem plS_1_4:plS 1 4=[(0,4)]:=rfl
@[go_sem ↓] theorem plS_3_6:plS 3 6=[(0,6),(6,6),(12,6)]:=rfl
@[go_sem ↓] theorem plS_1_6:plS 1 6=[(0,6)]:=rfl
def exT:Ft:=⟨8,false,1,0,1,0,0,0,0,0⟩
def exTy:Td:=⟨[116],exT⟩
def exIn:Po:=⟨[120],[116],0,10⟩
def exB1:Bl:=⟨[121],[97,100,100],[116],[[120],[120]],[],[]⟩
def exB2:Bl:=⟨[122],[100,101,108,97,121],[116],[[122,50]],[],[0]⟩
def exB3:Bl:=⟨[122,50],[97,100,100],[116],[[122],[120]],[],[]⟩
def exD:Dg:=⟨[100],[exTy],[],[],[exIn],[exB1,exB2,exB3],[]⟩
theorem example_ {H:Hp}:CallX H Tryz.prog 38 [] [] (fun x:DgL=>rowV x.r) (fun _=>[]) (fun x H'=>x.c=exD∧x.ok H'):=by
 refine CallX.mkS Tryz.func38 rfl en38 (by simp[Tryz.ntmps38]) (ClA.of rfl) (fun _=>rfl) (fun _=>rfl) fun C hR hP hH hL=>?_
 refine Sm.go 100 ?_
 refine vv ?_
 refine RetQ.letgo (M0:=[]) [104,105,106,107] hL hP rfl rfl (fun β C1 l1 k1 kn=>?_)
 obtain⟨s4,hv4,hk4⟩:=(kn 104 _ rfl rfl rfl).vslx (sz:=1) (rows:=strsR [[120],[120]]) (by simp[strsR]) rfl
 obtain⟨s5,hv5,hk5⟩:=(kn 105 _ rfl rfl rfl).vslx (sz:=1) (rows:=strsR [[122,50]]) (by simp[strsR]) rfl
 obtain⟨s6,hv6,hk6⟩:=(kn 106 _ rfl rfl rfl).vslx (sz:=1) (rows:=intsR [0]) (by simp[intsR]) rfl
 obtain⟨s7,hv7,hk7⟩:=(kn 107 _ rfl rfl rfl).vslx (sz:=1) (rows:=strsR [[122],[120]]) (by simp[strsR]) rfl
 have hv4:gval β (.sl 104 0 2 1)=vsl s4 2:=hv4
 have hv5:gval β (.sl 105 0 1 1)=vsl s5 1:=hv5
 have hv6:gval β (.sl 106 0 1 1)=vsl s6 1:=hv6
 have hv7:gval β (.sl 107 0 2 1)=vsl s7 2:=hv7
 simp only[Mem.conc,Env.conc,Bk.conc,Cv.conc,V.conc,List.map_cons,List.map_nil,List.contains_cons,List.contains_nil,Nat.reduceBEq,Bool.or_false,Bool.or_true,cond_true,cond_false,hv4,hv5,hv6,hv7]
 have lB:∀b∈[BlL.mk exB1 s4 ⟨none,0⟩,BlL.mk exB2 s5 s6,BlL.mk exB3 s7 ⟨none,0⟩],b.ok C1.hp:=by
  intro b hb
  simp only[List.mem_cons,List.not_mem_nil,or_false]at hb
  rcases hb with rfl|rfl|rfl
  ·exact⟨hk4,SlH.nil _⟩
  ·exact⟨hk5,hk6⟩
  ·exact⟨hk7,SlH.nil _⟩
 refine RetQ.letgo (M0:=[]) [102,103,108] l1 hP rfl rfl (fun β' C2 l2 k2 kn2=>?_)
 obtain⟨s1,hv1,hk1⟩:=(kn2 102 _ rfl rfl rfl).vslx (sz:=11) (rows:=[exTy].map Td.r) (fun r hr=>by obtain⟨x,_,rfl⟩:=List.mem_map.1 hr;rfl) rfl
 obtain⟨s2,hv2,hk2⟩:=(kn2 103 _ rfl rfl rfl).vslx (sz:=4) (rows:=[exIn].map Po.r) (fun r hr=>by obtain⟨x,_,rfl⟩:=List.mem_map.1 hr;rfl) rfl
 obtain⟨s3,hv3,hk3⟩:=(kn2 108 _ rfl rfl rfl).vslx (sz:=6) (rows:=[BlL.mk exB1 s4 ⟨none,0⟩,BlL.mk exB2 s5 s6,BlL.mk exB3 s7 ⟨none,0⟩].map BlL.r) (fun r hr=>by obtain⟨x,_,rfl⟩:=List.mem_map.1 hr;rfl) rfl
 have hv1:gval β' (.sl 102 0 1 11)=vsl s1 1:=hv1
 have hv2:gval β' (.sl 103 0 1 4)=vsl s2 1:=hv2
 have hv3:gval β' (.sl 108 0 3 6)=vsl s3 3:=hv3
 simp only[Mem.conc,Env.conc,Bk.conc,Cv.conc,V.conc,List.map_cons,List.map_nil,List.contains_cons,List.contains_nil,Nat.reduceBEq,Bool.or_false,Bool.or_true,cond_true,cond_false,hv1,hv2,hv3]
 have hR':=hR (DgL.mk [100] [exTy] [] [] [exIn] [BlL.mk exB1 s4 ⟨none,0⟩,BlL.mk exB2 s5 s6,BlL.mk exB3 s7 ⟨none,0⟩] [] s1 ⟨none,0⟩ ⟨none,0⟩ s2 s3 ⟨none,0⟩) C2 l2 ⟨rfl,⟨hk1,SlH.nil _,SlH.nil _,hk2,hk3,SlH.nil _,by simp,by simp,fun b hb=>(lB b hb).mono k2⟩⟩
 exact RetQ.of hR' rfl (vv trivial) rfl (Sub.nil _) ClM.nil (ClV.of rfl)
end Go.Proofs.YtkciabfilokfiaaGreat.Fx
namespace Go.Proofs.YtkciabfilokfiaaGreat.Fx
open Vg Tf
set_option linter.unusedSimpArgs false
set_option linter.unusedVariables false
set_option maxRecDepth 100000
set_option maxHeartbeats 4000000
theorem _root_.Go.Proofs.YtkciabfilokfiaaGreat.Vg.Known.vslg {H:Hp}{β:Vl}{n:Nat}{b:Bk}(h:Known H β n b){sz:Nat}{rows:List (List Value)}(hr:∀r∈rows,r.length=sz)(hc:b.cells.map (Cv.g β)=rows.flatten):∃s:Sv,gval β (.sl n 0 rows.length sz)=vsl s rows.length∧SlH H (vsl s rows.length) sz rows:=by
 have h2:Known H β n ⟨b.ro,(b.cells.map (Cv.g β)).map .v,b.elem⟩:=by
  unfold Known at h⊢
  simp only[List.length_map,List.map_eq_nil_iff,mapV_g]at h⊢
  exact h
 exact h2.vslx hr (by show(b.cells.map (Cv.g β)).map Cv.v=rowsC rows;rw[hc];rfl)
structure Dg.smP (d:Dg):Prop where
 nm:d.nm.length≤1000000000000000
 tys:d.tys.length≤1000000000000000∧∀t∈d.tys,t.nm.length≤1000000000000000
 cus:d.cus.length≤1000000000000000∧∀c∈d.cus,c.nm.length≤1000000000000000∧c.xs.length≤1000000000000000∧c.ys.length≤1000000000000000
 mas:d.mas.length≤1000000000000000∧∀m∈d.mas,m.nm.length≤1000000000000000∧∀v∈m.zs,v.length≤1000000000000000
 ins:d.ins.length≤1000000000000000∧∀p∈d.ins,p.nm.length≤1000000000000000∧p.ty.length≤1000000000000000
 bls:d.bls.length≤1000000000000000∧∀b∈d.bls,b.nm.length≤1000000000000000∧b.ty.length≤1000000000000000∧b.tb.length≤1000000000000000∧b.ins.length≤1000000000000000∧b.ks.length≤1000000000000000∧∀s∈b.ins,s.length≤1000000000000000
 ous:d.ous.length≤1000000000000000∧∀s∈d.ous,s.length≤1000000000000000
theorem sm_of {d:DgL}(h:Dg.smP d.c):d.sm:=
 ⟨h.nm,h.tys,⟨by have:=h.cus.1;simpa[DgL.c]using this,fun c hc=>h.cus.2 c.c (List.mem_map.2 ⟨c,hc,rfl⟩)⟩,
  ⟨by have:=h.mas.1;simpa[DgL.c]using this,fun m hm=>by
   have:=h.mas.2 m.c (List.mem_map.2 ⟨m,hm,rfl⟩)
   exact⟨this.1,fun v hv=>this.2 v.2 (List.mem_map.2 ⟨v,hv,rfl⟩)⟩⟩,h.ins,
  ⟨by have:=h.bls.1;simpa[DgL.c]using this,fun b hb=>h.bls.2 b.c (List.mem_map.2 ⟨b,hb,rfl⟩)⟩,h.ous⟩
theorem CkL.ok.mono {H H':Hp}(h:H.le H'){c:CkL}(k:c.ok H):c.ok H':=⟨k.d.mono h,k.s.mono h,k.o.mono h⟩
def exB4:Bl:=⟨[97],[97,100,100],[116],[[97],[120]],[],[]⟩
def exE:Dg:=⟨[100],[exTy],[],[],[exIn],[exB4],[]⟩
theorem exD_sm:Dg.smP exD:=⟨by decide,by decide,by decide,by decide,by decide,by decide,by decide⟩
theorem exE_sm:Dg.smP exE:=⟨by decide,by decide,by decide,by decide,by decide,by decide,by decide⟩
def T0:Bl→List (Int×Int)→Int×Int:=fun _ _=>(0,0)
theorem tab_no {H:Hp}{d:DgL}(h:d.c.bls.all (fun b=> !tabK b.kd)=true):TabOk H d T0:=fun H' cp bT bC bM bS _ _ b hb ht=>by
 have:=List.all_eq_true.1 h b.c (List.mem_map.2 ⟨b,hb,rfl⟩)
 rw[ht]at this;cases this
theorem exD_chk:(chkQ exD T0).2=([],0)∧sgQ (chkQ exD T0).1.sg [121]=some ⟨[121],exT,(0,20)⟩∧sgQ (chkQ exD T0).1.sg [122]=some ⟨[122],exT,(0,255)⟩∧(chkQ exD T0).1.sg.length=4:=by
 refine⟨?_,?_,?_,?_⟩<;>rfl
theorem exE_chk:(chkQ exE T0).2=([97],13):=by rfl
theorem awake_ {H:Hp}:CallH H Tryz.prog 11 [] (Bo true):=by
 have hchk:=fun{H':Hp} (x:DgL) (hx:x.c=exD) (o:x.ok H')=>Check_ x o (sm_of (by rw[hx];exact exD_sm)) T0 (tab_no (by rw[hx];rfl))
 have hchk2:=fun{H':Hp} (x:DgL) (hx:x.c=exE) (o:x.ok H')=>Check_ x o (sm_of (by rw[hx];exact exE_sm)) T0 (tab_no (by rw[hx];rfl))
 obtain⟨q1,q2,q3,q4⟩:=exD_chk
 refine CallH.mkS Tryz.func11 rfl en11 (by simp[Tryz.ntmps11]) (ClA.of rfl) fun C hR hP hH hL=>?_
 refine Sm.go 100 ?_
 refine vv ?_
 refine CallQ.x 110 hL example_ (Hp.le.refl _) (Sub.nil _) ClM.nil (fun _=>Fresh.nil _ _) rfl rfl rfl (fun x C1 H1 l1 k1 j1 p1=>?_)
 obtain⟨px,ox⟩:=p1
 have ox:=ox.mono j1
 refine vv ?_
 refine CallQ.x 120 l1 (hchk x px ox) (Hp.le.refl _) (Sub.nil _) ClM.nil (fun _=>Fresh.nil _ _) rfl rfl rfl (fun c C2 H2 l2 k2 j2 p2=>?_)
 obtain⟨pc,oc⟩:=p2
 have oc:=CkL.ok.mono j2 oc
 rw[px]at pc⊢
 rw[q1]
 have hsg:c.sg=(chkQ exD T0).1.sg:=congrArg CkR.sg pc
 have hcr:c.r.map Cv.v=[.v (sv c.d.nm),.v (vsl c.d.ty c.d.tys.length),.v (vsl c.d.cu c.d.cus.length),.v (vsl c.d.ma c.d.mas.length),.v (vsl c.d.i c.d.ins.length),.v (vsl c.d.bl c.d.bls.length),.v (vsl c.d.ou c.d.ous.length),.v (vsl c.s c.sg.length),.v (vsl c.o c.od.length)]:=rfl
 have hcr2:rowV c.r= .agg [.v (sv c.d.nm),.v (vsl c.d.ty c.d.tys.length),.v (vsl c.d.cu c.d.cus.length),.v (vsl c.d.ma c.d.mas.length),.v (vsl c.d.i c.d.ins.length),.v (vsl c.d.bl c.d.bls.length),.v (vsl c.d.ou c.d.ous.length),.v (vsl c.s c.sg.length),.v (vsl c.o c.od.length)]:=rfl
 rw[hcr]
 have hS1:=Signal_ c oc [121] (by rw[hsg,q4];decide)
 have hS2:=Signal_ c oc [122] (by rw[hsg,q4];decide)
 have hy:sgQ c.sg [121]=some ⟨[121],exT,(0,20)⟩:=by rw[hsg];exact q2
 have hz:sgQ c.sg [122]=some ⟨[122],exT,(0,255)⟩:=by rw[hsg];exact q3
 rw[hy,hcr2]at hS1
 rw[hz,hcr2]at hS2
 simp only[Option.getD_some,Option.isSome_some]at hS1 hS2
 refine vv ?_
 refine CallQ.h 130 hS1 (Hp.le.refl _) rfl ?_
 refine vv ?_
 refine CallQ.h 140 hS2 (Hp.le.refl _) rfl ?_
 refine vv ?_
 refine CallQ.x 150 l2 example_ (Hp.le.refl _) (Sub.nil _) ClM.nil (fun _=>Fresh.nil _ _) rfl rfl rfl (fun x3 C3 H3 l3 k3 j3 p3=>?_)
 obtain⟨px3,ox3⟩:=p3
 have ox3:=ox3.mono j3
 refine vv ?_
 have ex1:x3.tys=exD.tys:=congrArg Dg.tys px3
 have ex2:x3.ins=exD.ins:=congrArg Dg.ins px3
 have ex3:x3.nm=exD.nm:=congrArg Dg.nm px3
 have ex4:x3.ous=exD.ous:=congrArg Dg.ous px3
 have ex5:x3.cus=[]:=by have:=congrArg Dg.cus px3;simpa[DgL.c,exD]using this
 have ex6:x3.mas=[]:=by have:=congrArg Dg.mas px3;simpa[DgL.c,exD]using this
 refine CallQ.letgo (xs:=[_]) (M0:=[]) [151,152] l3 hP rfl rfl rfl en13 rfl rfl (fun β C4 l4 k4 kn=>?_)
 obtain⟨s1,hv1,hk1⟩:=(kn 151 _ rfl rfl rfl).vslx (sz:=1) (rows:=strsR [[97],[120]]) (by simp[strsR]) rfl
 have hv1:gval β (.sl 151 0 2 1)=vsl s1 2:=hv1
 obtain⟨s2,hv2,hk2⟩:=(kn 152 _ rfl rfl rfl).vslg (sz:=6) (rows:=[BlL.r (BlL.mk exB4 s1 ⟨none,0⟩)]) (fun r hr=>by rw[List.mem_singleton.1 hr];rfl) (by
  show[sv [97],sv [97,100,100],sv [116],gval β (.sl 151 0 2 1),sv [],.slice none 0 0]=_
  rw[hv1];rfl)
 have hv2:gval β (.sl 152 0 1 6)=vsl s2 1:=hv2
 simp only[Mem.conc,Env.conc,Bk.conc,Cv.conc,V.conc,W.conc,List.map_cons,List.map_nil,List.contains_cons,List.contains_nil,Nat.reduceBEq,Bool.or_false,Bool.or_true,cond_true,cond_false,hv1,hv2]
 let d4:DgL:=DgL.mk x3.nm x3.tys x3.cus x3.mas x3.ins [BlL.mk exB4 s1 ⟨none,0⟩] x3.ous x3.ty x3.cu x3.ma x3.i s2 x3.ou
 have hd4:d4.c=exE:=by
  show Dg.mk x3.nm x3.tys (x3.cus.map CuL.c) (x3.mas.map MpL.c) x3.ins [exB4] x3.ous=_
  rw[ex1,ex2,ex3,ex4,ex5,ex6];rfl
 have hok4:d4.ok C4.hp:=⟨(ox3.mono k4).ty,(ox3.mono k4).cu,(ox3.mono k4).ma,(ox3.mono k4).i,hk2,(ox3.mono k4).ou,(ox3.mono k4).cus,(ox3.mono k4).mas,fun b hb=>by rw[List.mem_singleton.1 hb];exact⟨hk1,SlH.nil _⟩⟩
 refine CallW.x 160 l4 (hchk2 d4 hd4 hok4) (Hp.le.refl _) (Sub.nil _) ClM.nil (fun _=>Fresh.nil _ _) rfl (fun c5 C5 H5 l5 k5 j5 p5=>?_)
 rw[hd4,exE_chk]
 have hcr5:c5.r.map Cv.v=[.v (sv c5.d.nm),.v (vsl c5.d.ty c5.d.tys.length),.v (vsl c5.d.cu c5.d.cus.length),.v (vsl c5.d.ma c5.d.mas.length),.v (vsl c5.d.i c5.d.ins.length),.v (vsl c5.d.bl c5.d.bls.length),.v (vsl c5.d.ou c5.d.ous.length),.v (vsl c5.s c5.sg.length),.v (vsl c5.o c5.od.length)]:=rfl
 rw[hcr5]
 refine vv ?_
 exact RetQ.bool (hR C5 l5) rfl scc rfl
end Go.Proofs.YtkciabfilokfiaaGreat.Fx
