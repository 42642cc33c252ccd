/-  -/
import Derived.Test.YtkciabfilokfiaaGreatPS
import Derived.Test.YtkciabfilokfiaaGreatRS
import Derived.Test.YtkciabfilokfiaaGreatSJ
import Derived.Test.YtkciabfilokfiaaGreatRF
namespace Go.Proofs.YtkciabfilokfiaaGreat.Fx
open Vg Tf
set_option linter.unusedSimpArgs false
set_option linter.unusedVariables false
set_option maxRecDepth 100000
set_option maxHeartbeats 4000000
theorem eqIs_ {H:Hp}(a b:Sv)(l:List Int)(ha:SlH H (vsl a l.length) 1 (intsR l))(hb:SlH H (vsl b l.length) 1 (intsR l))(hl:l.length≤1000000000000000):CallH H Tryz.prog 22 [.c (.v (vsl a l.length)),.c (.v (vsl b l.length))] (Bo true):=by
 refine CallH.mkS Tryz.func22 rfl en22 (by simp[Tryz.ntmps22]) (ClA.of rfl) fun C hR hP hH hL=>?_
 refine Sm.bringI 1 3 0 (ha.mono hH) rfl rfl ?_
 refine Sm.bringI 2 3 1 (hb.mono hH) rfl rfl ?_
 refine Sm.go 100 ?_
 simp(maxSteps:=2000000) only[go_sem,bne_self_eq_false]
 refine Sm.loopM (M0:=[]) (α:={i:Nat//i≤l.length}) hP (fun i=>[(0,true,.c (.sl 1 0 l.length 1)),(1,true,.c (.sl 2 0 l.length 1)),(12,true,I l.length),(13,true,I i.val)])
  (fun _=>[(1,⟨true,l.map iC,3⟩),(2,⟨true,l.map iC,3⟩)]) (fun i=>l.length-i.val) ⟨0,by omega⟩ (fun _=>ClM.of (by simp only[List.all_cons,inMV (v_iC _)];rfl)) (fun _=>ClE.of rfl) [(1,1),(2,2)] ?_ ?_
 ·exact⟨rfl,trivial,⟨rfl,rfl,rfl,rfl,trivial⟩,⟨.inr ⟨_,rfl,.inl (renV (v_iC _))⟩,.inr ⟨_,rfl,.inl (renV (v_iC _))⟩,trivial⟩⟩
 rintro⟨i,hi⟩ J hj
 simp only at hj hi⊢
 refine Sm.go 110 ?_
 refine vv ?_
 refine mtch (fun hc=>?_) (fun hc=>?_)
 ·have hc:=lt_of_dec hc
  have gi:=get_iC hc
  refine Sm.dg 110 8 mix ?_
  simp(maxSteps:=2000000) only[go_sem,gi,bne_self_eq_false,beq_self_eq_true,wS (show i≤1000000000000000000 by omega)]
  exact⟨⟨by omega,by omega⟩,⟨by omega,by omega⟩,hj _ _ ⟨i+1,hc⟩ [(1,1),(2,2)] (by simp only;omega) ⟨rfl,trivial,⟨rfl,rfl,rfl,rfl,trivial⟩,⟨.inr ⟨_,rfl,.inl (renV (v_iC _))⟩,.inr ⟨_,rfl,.inl (renV (v_iC _))⟩,trivial⟩⟩⟩
 ·exact RetQ.bool (hR C hL) rfl scc rfl
end Go.Proofs.YtkciabfilokfiaaGreat.Fx
namespace Go.Proofs.YtkciabfilokfiaaGreat.Fx
open Vg Tf
set_option linter.unusedSimpArgs false
set_option linter.unusedVariables false
set_option maxRecDepth 100000
set_option maxHeartbeats 4000000
theorem c1_ {H:Hp}(x:Td):CallH H Tryz.prog 33 [rowV x.r] (Bo (x.nm==[114,101,110,97,109,101,100,95,102,111,114,95,116,104,105,115,95,99,104,101,99,107])):=by
 refine CallH.mkS Tryz.func33 rfl en33 (by simp[Tryz.ntmps33]) (ClA.of rfl) fun C hR hP hH hL=>?_
 refine Sm.go 100 ?_
 refine vv ?_
 exact RetQ.bool (hR C hL) rfl ⟨rfl,trivial⟩ rfl
theorem c2_ {H:Hp}(x:CuL):CallH H Tryz.prog 35 [rowV x.r] (Bo (x.c.nm==[114,101,110,97,109,101,100,95,102,111,114,95,116,104,105,115,95,99,104,101,99,107])):=by
 refine CallH.mkS Tryz.func35 rfl en35 (by simp[Tryz.ntmps35]) (ClA.of rfl) fun C hR hP hH hL=>?_
 refine Sm.go 100 ?_
 refine vv ?_
 exact RetQ.bool (hR C hL) rfl ⟨rfl,trivial⟩ rfl
theorem c3_ {H:Hp}(x:MpL):CallH H Tryz.prog 37 [rowV x.r] (Bo (x.nm==[114,101,110,97,109,101,100,95,102,111,114,95,116,104,105,115,95,99,104,101,99,107])):=by
 refine CallH.mkS Tryz.func37 rfl en37 (by simp[Tryz.ntmps37]) (ClA.of rfl) fun C hR hP hH hL=>?_
 refine Sm.go 100 ?_
 refine vv ?_
 exact RetQ.bool (hR C hL) rfl ⟨rfl,trivial⟩ rfl
theorem smP_of {d:DgL}(h:d.sm):Dg.smP d.c:=
 ⟨h.nm,h.tys,⟨by have:=h.cus.1;simpa[DgL.c]using this,fun c hc=>by obtain⟨x,hx,rfl⟩:=List.mem_map.1 hc;exact h.cus.2 x hx⟩,
  ⟨by have:=h.mas.1;simpa[DgL.c]using this,fun m hm=>by
   obtain⟨x,hx,rfl⟩:=List.mem_map.1 hm
   exact⟨(h.mas.2 x hx).1,fun v hv=>by obtain⟨y,hy,rfl⟩:=List.mem_map.1 hv;exact(h.mas.2 x hx).2 y hy⟩⟩,h.ins,
  ⟨by have:=h.bls.1;simpa[DgL.c]using this,fun b hb=>by obtain⟨x,hx,rfl⟩:=List.mem_map.1 hb;exact h.bls.2 x hx⟩,h.ous⟩
theorem rn_sm {f t s:Str}(ht:t.length≤1000000000000000)(hs:s.length≤1000000000000000):(rnS f t s).length≤1000000000000000:=by
 unfold rnS;split<;>assumption
theorem smP_ren {d:Dg}{f t:Str}(h:Dg.smP d)(ht:t.length≤1000000000000000):Dg.smP (renD d f t):=
 ⟨h.nm,h.tys,h.cus,h.mas,⟨by simpa[renD]using h.ins.1,fun p hp=>by obtain⟨x,hx,rfl⟩:=List.mem_map.1 hp;exact⟨rn_sm ht (h.ins.2 x hx).1,(h.ins.2 x hx).2⟩⟩,
  ⟨by simpa[renD]using h.bls.1,fun b hb=>by
   obtain⟨x,hx,rfl⟩:=List.mem_map.1 hb
   obtain⟨a1,a2,a3,a4,a5,a6⟩:=h.bls.2 x hx
   exact⟨rn_sm ht a1,a2,a3,by simpa[rnB]using a4,a5,fun s hs=>by obtain⟨y,hy,rfl⟩:=List.mem_map.1 hs;exact rn_sm ht (a6 y hy)⟩⟩,
  ⟨by simpa[renD]using h.ous.1,fun s hs=>by obtain⟨x,hx,rfl⟩:=List.mem_map.1 hs;exact rn_sm ht (h.ous.2 x hx)⟩⟩
def rnT:Str:=[114,101,110,97,109,101,100,95,102,111,114,95,116,104,105,115,95,99,104,101,99,107]
theorem renQ_cases (d:Dg)(f t:Str):(renQ d f t).2≠0∨(renQ d f t=(renD d f t,0)∧nmOk t=true∧t∉sigs d):=by
 unfold renQ
 cases dgOk d with
 |false=>exact .inl (by simp)
 |true=>
 cases h2:nmOk t with
 |false=>exact .inl (by simp)
 |true=>
 cases h3:decide (fndQ (sigs d) f<0)with
 |true=>exact .inl (by simp)
 |false=>
 cases h4:decide (0≤fndQ (sigs d) t)with
 |true=>exact .inl (by simp)
 |false=>
  refine .inr ⟨rfl,rfl,?_⟩
  have h4:=of_decide_eq_false h4
  unfold fndQ at h4
  cases hi:idxS t (sigs d) 0 with
  |none=>exact idxS_nomem _ _ hi
  |some i=>rw[hi]at h4;simp only at h4;omega
theorem any_not {α:Type}{l:List α}{g:α→Str}{t:Str}(h:l.any (fun x=>g x==t)=false):t∉l.map g:=fun hm=>by
 obtain⟨x,hx,he⟩:=List.mem_map.1 hm
 have:=List.any_eq_false.1 h x hx
 rw[he]at this;simp at this
theorem renames_ {H:Hp}(d:DgL)(hd:d.ok H)(hs:d.sm)(u:Int)(hu:0≤u∧u≤255)(haw:CallH H Tryz.prog 11 [] (Bo true)):CallX H Tryz.prog 10 [rowV d.r,.c (.v (.int .u8 u))] [] (fun _:Unit=>Bo true) (fun _=>[]) (fun _ _=>True):=by
 refine CallX.mkS Tryz.func10 rfl en10 (by simp[Tryz.ntmps10]) (ClA.of rfl) (fun _=>rfl) (fun _=>rfl) fun C hR hP hH hL=>?_
 have hR:=hR ()
 refine Sm.go 100 ?_
 refine vv ?_
 refine CallQ.h 110 haw hH rfl ?_
 refine vv ?_
 refine CallQ.h 110 (great_ d hd hs) hH rfl ?_
 refine vv ?_
 cases hg:greatB d.c with
 |true=>
  refine vv ?_
  exact RetQ.of (hR C hL trivial) rfl scc rvv (Sub.nil _) ClM.nil (ClV.of rfl)
 |false=>
 refine vv ?_
 have hd2:=hs.ins.1
 have hd3:=hs.bls.1
 have ew:IntKind.i64.wrap ((d.ins.length:Int)+(d.bls.length:Int))=((d.ins.length+d.bls.length:Nat):Int):=by rw[w64 (by omega) (by omega)];omega
 simp(maxSteps:=2000000) only[go_sem,ew]
 refine mtch (fun hz=>?_) (fun hz=>?_)
 ·exact RetQ.of (hR C hL trivial) rfl scc rvv (Sub.nil _) ClM.nil (ClV.of rfl)
 have hz:d.ins.length+d.bls.length≠0:=fun h=>by rw[h]at hz;simp at hz
 refine CallQ.x 120 hL (Check_ d hd hs (tblQ d.c) (table_ d)) hH (Sub.nil _) ClM.nil (fun _=>Fresh.nil _ _) rfl rfl rfl (fun x C1 H1 l1 k1 j1 p1=>?_)
 obtain⟨px,ox⟩:=p1
 have ox:=CkL.ok.mono j1 ox
 have hcr:x.r.map Cv.v=[.v (sv x.d.nm),.v (vsl x.d.ty x.d.tys.length),.v (vsl x.d.cu x.d.cus.length),.v (vsl x.d.ma x.d.mas.length),.v (vsl x.d.i x.d.ins.length),.v (vsl x.d.bl x.d.bls.length),.v (vsl x.d.ou x.d.ous.length),.v (vsl x.s x.sg.length),.v (vsl x.o x.od.length)]:=rfl
 have hcr2:rowV x.r= .agg [.v (sv x.d.nm),.v (vsl x.d.ty x.d.tys.length),.v (vsl x.d.cu x.d.cus.length),.v (vsl x.d.ma x.d.mas.length),.v (vsl x.d.i x.d.ins.length),.v (vsl x.d.bl x.d.bls.length),.v (vsl x.d.ou x.d.ous.length),.v (vsl x.s x.sg.length),.v (vsl x.o x.od.length)]:=rfl
 rcases chk_cases d (tblQ d.c)with⟨he,hq⟩|⟨rf,G⟩
 ·have hn:=none_ x ox (by rw[px,hq])
  rw[hcr2]at hn
  have he2:((chkQ d.c (tblQ d.c)).2.2 !=0)=true:=by simpa using he
  rw[hcr]
  simp(maxSteps:=2000000) only[go_sem,he2]
  refine CallQ.h 130 hn (Hp.le.refl _) rfl ?_
  refine vv ?_
  exact RetQ.of (hR C1 l1 trivial) rfl scc rvv (Sub.nil _) ClM.nil (ClV.of rfl)
 have hq:=G.q
 rw[hq]at px⊢
 rw[hcr]
 have B:=dgB G.ok
 have hbl:d.c.bls.length=d.bls.length:=List.length_map _
 have hil:d.c.ins=d.ins:=rfl
 have hsg:x.sg=sgsR d.c rf (d.ins.length+d.bls.length):=by have:=congrArg CkR.sg px;rw[←hbl];exact this
 have hsl:x.sg.length=d.ins.length+d.bls.length:=by rw[hsg,sgs_len]
 have hz2:(((d.ins.length+d.bls.length:Nat):Int)==0)=false:=by rw[beq_eq_false_iff_ne];omega
 rw[hsl]
 simp(maxSteps:=2000000) only[go_sem,hz2]
 have hsm:(x.sg.map Sg.w).length=d.ins.length+d.bls.length:=by rw[List.length_map,hsl]
 have hss:=ox.s
 rw[hsl]at hss
 have zs:=rows_len (r:=Sg.w) (k:=13) (fun _=>rfl) x.sg
 rw[hsl]at zs
 have B1:=B.ins
 have B2:=B.bls
 have hpin:=l1.pins hP
 refine Sm.cutm (M0:=[]) hpin [(1,true,.c (.v (.int .u8 u))),(2,true,.c (.p 1 0)),(5,true,.c (.p 2 0))] [(1,⟨false,d.r.map .v,29⟩),(2,⟨false,[.v (sv x.d.nm),.v (vsl x.d.ty x.d.tys.length),.v (vsl x.d.cu x.d.cus.length),.v (vsl x.d.ma x.d.mas.length),.v (vsl x.d.i x.d.ins.length),.v (vsl x.d.bl x.d.bls.length),.v (vsl x.d.ou x.d.ous.length),.v (vsl x.s (d.ins.length+d.bls.length)),.v (vsl x.o x.od.length)],35⟩)] [(1,100),(2,120)] ⟨rfl,trivial,⟨rfl,rfl,rfl,trivial⟩,⟨.inr ⟨_,rfl,.inl rfl⟩,.inr ⟨_,rfl,.inl rfl⟩,trivial⟩⟩ (ClM.of rfl) (ClE.of rfl) ?_
 refine Sm.bringC 5 47 2 7 hss rfl rfl rfl ?_
 rw[hsm]
 generalize hn:d.ins.length+d.bls.length=n at*
 have hu2:u=(u.toNat:Int):=by omega
 have hrm:(u.tmod (n:Int))=((u.toNat%n:Nat):Int):=by rw[hu2];rfl
 have hri:u.toNat%n<n:=Nat.mod_lt _ (by omega)
 generalize u.toNat%n=r at*
 have f0:=rows_one (r:=Sg.w) (k:=13) (fun _=>rfl) x.sg r 0 (by omega) (by omega)
 rw[Nat.add_zero]at f0
 have hnmI:x.sg[r].nm=(sigs d.c).getD r []:=by
  have h1:=sgs_get (d:=d.c) (rf:=rf) (i:=r) (n:=n) hri
  rw[←hsg,List.getElem?_eq_getElem (by omega)]at h1
  rw[Option.some.inj h1];rfl
 refine Sm.dg 140 8 mix ?_
 have hwk:IntKind.i64.wrap u=u:=by rw[w64 (by omega) (by omega)]
 simp(maxSteps:=2000000) only[go_sem,hwk,hrm,f0,Sg.w,List.getElem?_cons_zero,Option.map_some]
 refine⟨by omega,⟨by omega,by omega⟩,?_⟩
 have hdC:d.ok C1.hp:=(hd.mono hH).mono k1
 refine CallQ.x 150 l1 (rename_ d hdC hs x.sg[r].nm rnT (by decide)) (Hp.le.refl _) (Sub.nil _) ClM.nil (fun _=>Fresh.nil _ _) rfl rfl rfl (fun y C2 H2 l2 k2 j2 p2=>?_)
 obtain⟨py,oy⟩:=p2
 have oy:=DgL.ok.mono j2 oy
 have hyr:y.r.map Cv.v=[.v (sv y.nm),.v (vsl y.ty y.tys.length),.v (vsl y.cu y.cus.length),.v (vsl y.ma y.mas.length),.v (vsl y.i y.ins.length),.v (vsl y.bl y.bls.length),.v (vsl y.ou y.ous.length)]:=rfl
 rw[hyr]
 generalize hf:x.sg[r].nm=f at*
 rcases renQ_cases d.c f rnT with he|⟨hq2,hnt,hts⟩
 ·have he2:((renQ d.c f rnT).2 !=0)=true:=by simpa using he
  simp(maxSteps:=2000000) only[go_sem,he2]
  refine CallQ.guard (xs:=[]) (v:=Bo true) 160 (fun h=>by cases h) (fun h=>by cases h) ?_
  refine vv ?_
  refine CallQ.guard (xs:=[]) (v:=Bo true) 160 (fun h=>by cases h) (fun h=>by cases h) ?_
  refine vv ?_
  refine CallQ.guard (xs:=[]) (v:=Bo true) 160 (fun h=>by cases h) (fun h=>by cases h) ?_
  refine vv ?_
  exact RetQ.of (hR C2 l2 trivial) rfl scc rvv (Sub.nil _) ClM.nil (ClV.of rfl)
 rw[hq2]at py⊢
 have py:y.c=renD d.c f rnT:=py
 have hdC2:d.ok C2.hp:=hdC.mono k2
 refine vv ?_
 refine CallQ.h 160 (cofTd _ d.tys hdC2.ty (by have:=B.tys;omega) 33 #[] _ (fun x hx=>c1_ x)) (Hp.le.refl _) rfl ?_
 cases ht1:d.tys.any (fun x=>x.nm==rnT)with
 |true=>
  have ht1:d.tys.any (fun x=>x.nm==[114,101,110,97,109,101,100,95,102,111,114,95,116,104,105,115,95,99,104,101,99,107])=true:=ht1
  rw[ht1]
  refine vv ?_
  refine CallQ.guard (xs:=[]) (v:=Bo true) 160 (fun h=>by cases h) (fun h=>by cases h) ?_
  refine vv ?_
  refine CallQ.guard (xs:=[]) (v:=Bo true) 160 (fun h=>by cases h) (fun h=>by cases h) ?_
  refine vv ?_
  exact RetQ.of (hR C2 l2 trivial) rfl scc rvv (Sub.nil _) ClM.nil (ClV.of rfl)
 |false=>
 have hT1:=any_not ht1
 have ht1:d.tys.any (fun x=>x.nm==[114,101,110,97,109,101,100,95,102,111,114,95,116,104,105,115,95,99,104,101,99,107])=false:=ht1
 rw[ht1]
 refine vv ?_
 refine CallQ.h 160 (cofCu _ d.cus hdC2.cu (by have:=B.cus;omega) 35 #[] _ (fun x hx=>c2_ x)) (Hp.le.refl _) rfl ?_
 cases ht2:d.cus.any (fun x=>x.c.nm==rnT)with
 |true=>
  have ht2:d.cus.any (fun x=>x.c.nm==[114,101,110,97,109,101,100,95,102,111,114,95,116,104,105,115,95,99,104,101,99,107])=true:=ht2
  rw[ht2]
  refine vv ?_
  refine CallQ.guard (xs:=[]) (v:=Bo true) 160 (fun h=>by cases h) (fun h=>by cases h) ?_
  refine vv ?_
  exact RetQ.of (hR C2 l2 trivial) rfl scc rvv (Sub.nil _) ClM.nil (ClV.of rfl)
 |false=>
 have hT2:=any_not ht2
 have ht2:d.cus.any (fun x=>x.c.nm==[114,101,110,97,109,101,100,95,102,111,114,95,116,104,105,115,95,99,104,101,99,107])=false:=ht2
 rw[ht2]
 refine vv ?_
 refine CallQ.h 160 (cofMa _ d.mas hdC2.ma (by have:=B.mas;omega) 37 #[] _ (fun x hx=>c3_ x)) (Hp.le.refl _) rfl ?_
 cases ht3:d.mas.any (fun x=>x.nm==rnT)with
 |true=>
  have ht3:d.mas.any (fun x=>x.nm==[114,101,110,97,109,101,100,95,102,111,114,95,116,104,105,115,95,99,104,101,99,107])=true:=ht3
  rw[ht3]
  refine vv ?_
  exact RetQ.of (hR C2 l2 trivial) rfl scc rvv (Sub.nil _) ClM.nil (ClV.of rfl)
 |false=>
 have hT3:=any_not ht3
 have ht3:d.mas.any (fun x=>x.nm==[114,101,110,97,109,101,100,95,102,111,114,95,116,104,105,115,95,99,104,101,99,107])=false:=ht3
 rw[ht3]
 refine vv ?_
 have hysm:y.sm:=sm_of (by rw[py];exact smP_ren (smP_of hs) (by decide))
 have hT2':rnT∉d.c.cus.map (·.nm):=by
  have:d.c.cus.map (·.nm)=d.cus.map (fun x=>x.c.nm):=by show(d.cus.map CuL.c).map _=_;rw[List.map_map];rfl
  rw[this];exact hT2
 have hT3':rnT∉d.c.mas.map (·.nm):=by
  have:d.c.mas.map (·.nm)=d.mas.map (fun x=>x.nm):=by show(d.mas.map MpL.c).map _=_;rw[List.map_map];rfl
  rw[this];exact hT3
 have GR:=G.ren (f:=f) hnt hts hT1 hT2' hT3'
 rw[←py]at GR
 refine CallQ.x 170 l2 (Check_ y oy hysm (tblQ y.c) (table_ y)) (Hp.le.refl _) (Sub.nil _) ClM.nil (fun _=>Fresh.nil _ _) rfl rfl rfl (fun z C3 H3 l3 k3 j3 p3=>?_)
 obtain⟨pz,oz⟩:=p3
 have oz:=CkL.ok.mono j3 oz
 have hzr:z.r.map Cv.v=[.v (sv z.d.nm),.v (vsl z.d.ty z.d.tys.length),.v (vsl z.d.cu z.d.cus.length),.v (vsl z.d.ma z.d.mas.length),.v (vsl z.d.i z.d.ins.length),.v (vsl z.d.bl z.d.bls.length),.v (vsl z.d.ou z.d.ous.length),.v (vsl z.s z.sg.length),.v (vsl z.o z.od.length)]:=rfl
 rw[hzr]
 have hq3:=GR.q
 rw[hq3]at pz⊢
 have hyl:y.c.ins.length+y.c.bls.length=n:=by rw[py,←hn,←hbl];simp[renD];rfl
 have hzs:z.sg=x.sg.map (rnG f rnT):=by
  have h1:z.sg=sgsR y.c rf (y.c.ins.length+y.c.bls.length):=congrArg CkR.sg pz
  rw[h1,hyl,py,sgs_ren _ _ _ _ _ (by rw[sigs_len];omega),hsg]
 have hzo:z.od=x.od:=by
  have h1:z.od=ordR (befB y.c) y.c.bls.length:=congrArg CkR.od pz
  have h2:x.od=ordR (befB d.c) d.c.bls.length:=congrArg CkR.od px
  rw[h1,h2,py,(RnOk.of G hts).bef];simp[renD]
 have hol:x.od.length≤1000000:=by
  have h2:x.od=ordR (befB d.c) d.c.bls.length:=congrArg CkR.od px
  have:=ordR_len (befB d.c) d.c.bls.length
  rw[h2];omega
 have hir:intsR (x.od.map fun k:Nat=>(k:Int))=x.od.map fun k:Nat=>[iv k]:=by unfold intsR;rw[List.map_map];rfl
 have heq:=eqIs_ (H:=C3.hp) z.o x.o (x.od.map fun k:Nat=>(k:Int)) (by rw[hir,List.length_map,←hzo];exact oz.o) (by rw[hir,List.length_map];exact((ox.mono k2).mono k3).o) (by rw[List.length_map];omega)
 rw[List.length_map]at heq
 have hzl:z.sg.length=n:=by rw[hzs,List.length_map,hsl]
 rw[hzo,hzl]
 simp(maxSteps:=2000000) only[go_sem,bne_self_eq_false]
 refine CallQ.h 180 heq (Hp.le.refl _) rfl ?_
 simp(maxSteps:=2000000) only[go_sem,bne_self_eq_false]
 have hsz:=oz.s
 rw[hzl]at hsz
 have hsmz:(z.sg.map Sg.w).length=n:=by rw[List.length_map,hzl]
 have zz:=rows_len (r:=Sg.w) (k:=13) (fun _=>rfl) z.sg
 rw[hzl]at zz
 refine Sm.cutm (M0:=[]) (l3.pins hP) [(8,true,S f),(11,true,.c (.p 3 0)),(108,true,.c (.sl 5 0 n 13)),(109,true,I n),(110,true,I (0:Nat))] [(3,⟨false,[.v (sv z.d.nm),.v (vsl z.d.ty z.d.tys.length),.v (vsl z.d.cu z.d.cus.length),.v (vsl z.d.ma z.d.mas.length),.v (vsl z.d.i z.d.ins.length),.v (vsl z.d.bl z.d.bls.length),.v (vsl z.d.ou z.d.ous.length),.v (vsl z.s n),.v (vsl z.o x.od.length)],35⟩),(5,⟨true,rowsC (x.sg.map Sg.w),47⟩)] [(3,170),(5,5)] ⟨rfl,trivial,⟨rfl,rfl,rfl,rfl,rfl,trivial⟩,⟨.inr ⟨_,rfl,.inl rfl⟩,.inr ⟨_,rfl,.inl (renV (rowsC_isV _))⟩,trivial⟩⟩ (ClM.of (by simp only[List.all_cons,inMV (rowsC_isV _)];rfl)) (ClE.of rfl) ?_
 refine Sm.bringC 6 47 3 7 hsz rfl rfl rfl ?_
 rw[hsmz]
 refine Sm.loopM (M0:=[]) (α:={i:Nat//i≤n}) (l3.pins hP) (fun i=>[(8,true,S f),(11,true,.c (.p 3 0)),(108,true,.c (.sl 5 0 n 13)),(109,true,I n),(110,true,I i.val)]) (fun _=>[(3,⟨false,[.v (sv z.d.nm),.v (vsl z.d.ty z.d.tys.length),.v (vsl z.d.cu z.d.cus.length),.v (vsl z.d.ma z.d.mas.length),.v (vsl z.d.i z.d.ins.length),.v (vsl z.d.bl z.d.bls.length),.v (vsl z.d.ou z.d.ous.length),.sl 6 0 n 13,.v (vsl z.o x.od.length)],35⟩),(5,⟨true,rowsC (x.sg.map Sg.w),47⟩),(6,⟨true,rowsC (z.sg.map Sg.w),47⟩)]) (fun i=>n-i.val) ⟨0,by omega⟩ (fun _=>ClM.of (by simp only[List.all_cons,inMV (rowsC_isV _)];rfl)) (fun _=>ClE.of rfl) [(3,3),(5,5),(6,6)] ?_ ?_
 ·exact⟨rfl,trivial,⟨rfl,rfl,rfl,rfl,rfl,trivial⟩,⟨.inr ⟨_,rfl,.inl rfl⟩,.inr ⟨_,rfl,.inl (renV (rowsC_isV _))⟩,.inr ⟨_,rfl,.inl (renV (rowsC_isV _))⟩,trivial⟩⟩
 rintro⟨i,hi⟩ J hj
 simp only at hj hi⊢
 refine Sm.go 190 ?_
 refine vv ?_
 refine mtch (fun hc=>?_) (fun hc=>?_)
 ·have hc:=lt_of_dec hc
  have t1:=rows_take (r:=Sg.w) (k:=13) (fun _=>rfl) x.sg i (by omega)
  have t2:=rows_take (r:=Sg.w) (k:=13) (fun _=>rfl) z.sg i (by omega)
  have hzi:z.sg[i]'(by omega)=rnG f rnT (x.sg[i]'(by omega)):=by simp only[hzs,List.getElem_map]
  rw[hzi]at t2
  generalize x.sg[i]'(by omega)=s at*
  simp(maxSteps:=2000000) only[go_sem,t1,zs]
  refine⟨⟨by omega,by omega⟩,by omega,?_⟩
  have ert:rnT=[114,101,110,97,109,101,100,95,102,111,114,95,116,104,105,115,95,99,104,101,99,107]:=rfl
  cases hnf:s.nm==f with
  |true=>
   have hr:rnG f rnT s={s with nm:=rnT}:=by unfold rnG rnS;rw[if_pos (eq_of_beq hnf)]
   rw[hr]at t2
   refine Sm.dg 200 6 mix ?_
   simp(maxSteps:=2000000) only[go_sem,t2,zz,Sg.w,ert]
   simp only[wS (show i≤1000000000000000000 by omega)]
   exact⟨⟨by omega,by omega⟩,by omega,hj _ _ ⟨i+1,hc⟩ [(3,3),(5,5),(6,6)] (by simp only;omega) ⟨rfl,trivial,⟨rfl,rfl,rfl,rfl,rfl,trivial⟩,⟨.inr ⟨_,rfl,.inl rfl⟩,.inr ⟨_,rfl,.inl (renV (rowsC_isV _))⟩,.inr ⟨_,rfl,.inl (renV (rowsC_isV _))⟩,trivial⟩⟩⟩
  |false=>
   have hr:rnG f rnT s=s:=by unfold rnG rnS;rw[if_neg (fun h=>by rw[h]at hnf;simp at hnf)]
   rw[hr]at t2
   refine Sm.dg 200 6 mix ?_
   simp(maxSteps:=2000000) only[go_sem,t2,zz,Sg.w]
   simp only[wS (show i≤1000000000000000000 by omega)]
   exact⟨⟨by omega,by omega⟩,by omega,hj _ _ ⟨i+1,hc⟩ [(3,3),(5,5),(6,6)] (by simp only;omega) ⟨rfl,trivial,⟨rfl,rfl,rfl,rfl,rfl,trivial⟩,⟨.inr ⟨_,rfl,.inl rfl⟩,.inr ⟨_,rfl,.inl (renV (rowsC_isV _))⟩,.inr ⟨_,rfl,.inl (renV (rowsC_isV _))⟩,trivial⟩⟩⟩
 ·exact RetQ.of (hR C3 l3 trivial) rfl scc rvv (Sub.nil _) ClM.nil (ClV.of rfl)
end Go.Proofs.YtkciabfilokfiaaGreat.Fx
