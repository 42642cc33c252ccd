/-  -/
import Derived.Test.YtkciabfilokfiaaGreatPS
import Derived.Test.YtkciabfilokfiaaGreatSI
import Derived.Test.YtkciabfilokfiaaGreatRF
namespace Go.Proofs.YtkciabfilokfiaaGreat.Fx
open Vg Tf
set_option linter.unusedSimpArgs false
set_option linter.unusedVariables false
set_option maxRecDepth 100000
set_option maxHeartbeats 4000000
theorem w1_ {H:Hp}(x:BlL):CallH H Tryz.prog 17 [rowV x.r] (Bo (bif bif x.c.kd==[100,101,108,97,121]then true else x.c.kd==[108,97,103]then true else x.c.kd==[109,97,112])):=by
 refine CallH.mkS Tryz.func17 rfl en17 (by simp[Tryz.ntmps17]) (ClA.of rfl) fun C hR hP hH hL=>?_
 refine Sm.go 100 ?_
 refine vv ?_
 exact RetQ.bool (hR C hL) rfl ⟨rfl,trivial⟩ rfl
theorem wider_ {H:Hp}(d:DgL)(hd:d.ok H)(hs:d.sm)(u:Int)(hu:0≤u∧u≤65535)(haw:CallH H Tryz.prog 11 [] (Bo true)):CallX H Tryz.prog 4 [rowV d.r,.c (.v (.int .u16 u))] [] (fun _:Unit=>Bo true) (fun _=>[]) (fun _ _=>True):=by
 refine CallX.mkS Tryz.func4 rfl en4 (by simp[Tryz.ntmps4]) (ClA.of rfl) (fun _=>rfl) (fun _=>rfl) fun C hR hP hH hL=>?_
 have hR:=hR ()
 have hd2:=hs.ins.1
 have hd3:=hs.bls.1
 refine Sm.go 100 ?_
 refine vv ?_
 refine CallQ.h 110 haw hH rfl ?_
 refine vv ?_
 refine CallQ.h 110 (great_ d hd hs) hH rfl ?_
 refine vv ?_
 cases hg:greatB d.c with
 |true=>
  refine vv ?_
  refine CallQ.guard (xs:=[]) (v:=Bo true) 160 (fun h=>by cases h) (fun h=>by cases h) ?_
  refine vv ?_
  exact RetQ.of (hR C hL trivial) rfl scc rvv (Sub.nil _) ClM.nil (ClV.of rfl)
 |false=>
 refine vv ?_
 refine CallQ.h 160 (cofBl _ d.bls (hd.bl.mono hH) (by omega) 17 #[] _ (fun x hx=>w1_ x)) (Hp.le.refl _) rfl ?_
 refine vv ?_
 refine mtch (fun hz=>?_) (fun hz=>?_)
 ·exact RetQ.of (hR C hL trivial) rfl scc rvv (Sub.nil _) ClM.nil (ClV.of rfl)
 have hno:NoK d.c:=fun b hb=>by
  obtain⟨x,hx,rfl⟩:=List.mem_map.1 hb
  have:=List.any_eq_false.1 hz x hx
  have e1:(x.c.kd==[100,101,108,97,121])=(x.c.kd==delT):=rfl
  have e2:(x.c.kd==[108,97,103])=(x.c.kd==lagT):=rfl
  have e3:(x.c.kd==[109,97,112])=(x.c.kd==mapS):=rfl
  rw[e1,e2,e3]at this
  cases k1:x.c.kd==delT<;>cases k2:x.c.kd==lagT<;>cases k3:x.c.kd==mapS<;>rw[k1,k2,k3]at this<;>first|exact⟨rfl,rfl,rfl⟩|(exact absurd rfl this;done)
 refine CallQ.x 120 hL (Check_ d hd hs (tblQ d.c) (table_ d)) hH (Sub.nil _) ClM.nil (fun _=>Fresh.nil _ _) rfl rfl rfl (fun x C1 H1 l1 k1 j1 p1=>?_)
 obtain⟨px,ox⟩:=p1
 have ox:=CkL.ok.mono j1 ox
 have hcr:x.r.map Cv.v=[.v (sv x.d.nm),.v (vsl x.d.ty x.d.tys.length),.v (vsl x.d.cu x.d.cus.length),.v (vsl x.d.ma x.d.mas.length),.v (vsl x.d.i x.d.ins.length),.v (vsl x.d.bl x.d.bls.length),.v (vsl x.d.ou x.d.ous.length),.v (vsl x.s x.sg.length),.v (vsl x.o x.od.length)]:=rfl
 have hcr2:rowV x.r= .agg [.v (sv x.d.nm),.v (vsl x.d.ty x.d.tys.length),.v (vsl x.d.cu x.d.cus.length),.v (vsl x.d.ma x.d.mas.length),.v (vsl x.d.i x.d.ins.length),.v (vsl x.d.bl x.d.bls.length),.v (vsl x.d.ou x.d.ous.length),.v (vsl x.s x.sg.length),.v (vsl x.o x.od.length)]:=rfl
 rcases chk_cases d (tblQ d.c)with⟨he,hq⟩|⟨rf,G⟩
 ·have hn:=none_ x ox (by rw[px,hq])
  rw[hcr2]at hn
  have he2:((chkQ d.c (tblQ d.c)).2.2 !=0)=true:=by simpa using he
  rw[hcr]
  simp(maxSteps:=2000000) only[go_sem,he2]
  refine CallQ.h 130 hn (Hp.le.refl _) rfl ?_
  refine vv ?_
  exact RetQ.of (hR C1 l1 trivial) rfl scc rvv (Sub.nil _) ClM.nil (ClV.of rfl)
 have hq:=G.q
 rw[hq]at px⊢
 rw[hcr]
 have B:=dgB G.ok
 have B1:=B.ins
 have B2:=B.bls
 have hbl:d.c.bls.length=d.bls.length:=List.length_map _
 have hil:d.c.ins=d.ins:=rfl
 have hsg:x.sg=sgsR d.c rf (d.ins.length+d.bls.length):=by have:=congrArg CkR.sg px;rw[←hbl];exact this
 have hsl:x.sg.length=d.ins.length+d.bls.length:=by rw[hsg,sgs_len]
 have ew:IntKind.i64.wrap ((d.ins.length:Int)+(d.bls.length:Int))=((d.ins.length+d.bls.length:Nat):Int):=by rw[w64 (by omega) (by omega)];omega
 rw[hsl]
 have lenR:∀{α:Type} (f:α→List Value) (k:Nat) (l:List α),(∀a,(f a).length=k)→∀r∈l.map f,r.length=k:=fun f k l h r hr=>by obtain⟨a,_,rfl⟩:=List.mem_map.1 hr;exact h a
 have oneR:∀{α:Type} (f:α→List Value) (l:List α),(∀a,∀v∈f a,v.oneCell'=true)→(rowsC (l.map f)).all Cv.one=true:=fun f l h=>one_rows _ (fun r hr=>by obtain⟨a,_,rfl⟩:=List.mem_map.1 hr;exact h a)
 have q4:=clo_at (rowsC_isV _) (cloPo (H:=C1.hp) _ _ ((hd.i.mono hH).mono k1) (lenR Po.r 4 _ fun _=>rfl) (oneR Po.r _ fun a=>by simp[Po.r,Value.oneCell']) (by simp;omega))
 simp only[List.length_map]at q4
 simp(maxSteps:=2000000) only[go_sem,ew,bne_self_eq_false]
 refine CallQ.hr [(114,114)] 140 (q4 114) (Hp.le.refl _) ClM.nil rfl rfl trivial rfl (.inl rfl) ?_
 simp only[Mem.ren,List.map_cons,List.map_nil,renV (rowsC_isV _),V.ren,Cv.ren,rn,Nat.reduceBEq,cond_true,cond_false]
 refine vv ?_
 have hpin:=l1.pins hP
 have hsm:(x.sg.map Sg.w).length=d.ins.length+d.bls.length:=by rw[List.length_map,hsl]
 have hss:=ox.s
 rw[hsl]at hss
 have zs:=rows_len (r:=Sg.w) (k:=13) (fun _=>rfl) x.sg
 rw[hsl]at zs
 generalize hn:d.ins.length+d.bls.length=n at*
 refine Sm.cutm (M0:=[]) hpin [(1,true,.c (.v (.int .u16 u))),(5,true,.c (.p 2 0)),(8,true,.c (.p 1 0)),(57,true,I d.ins.length),(58,true,I (0:Nat))] [(1,⟨false,[.v (sv d.nm),.v (vsl d.ty d.tys.length),.v (vsl d.cu d.cus.length),.v (vsl d.ma d.mas.length),.sl 114 0 d.ins.length 4,.v (vsl d.bl d.bls.length),.v (vsl d.ou d.ous.length)],29⟩),(2,⟨false,[.v (sv x.d.nm),.v (vsl x.d.ty x.d.tys.length),.v (vsl x.d.cu x.d.cus.length),.v (vsl x.d.ma x.d.mas.length),.v (vsl x.d.i x.d.ins.length),.v (vsl x.d.bl x.d.bls.length),.v (vsl x.d.ou x.d.ous.length),.v (vsl x.s n),.v (vsl x.o x.od.length)],35⟩),(114,⟨false,rowsC (d.ins.map Po.r),51⟩)] [(1,121),(2,120),(114,114)] ⟨rfl,trivial,⟨rfl,rfl,rfl,rfl,rfl,trivial⟩,⟨.inr ⟨_,rfl,.inl rfl⟩,.inr ⟨_,rfl,.inl rfl⟩,.inr ⟨_,rfl,.inl (renV (rowsC_isV _))⟩,trivial⟩⟩ (ClM.of (by simp only[List.all_cons,inMV (rowsC_isV _)];rfl)) (ClE.of rfl) ?_
 refine Sm.bringC 5 47 2 7 hss rfl rfl rfl ?_
 rw[hsm]
 refine Sm.loopM (M0:=[]) (α:={i:Nat//i≤d.ins.length}) hpin (fun i=>[(1,true,.c (.v (.int .u16 u))),(5,true,.c (.p 2 0)),(8,true,.c (.p 1 0)),(57,true,I d.ins.length),(58,true,I i.val)]) (fun i=>[(1,⟨false,[.v (sv d.nm),.v (vsl d.ty d.tys.length),.v (vsl d.cu d.cus.length),.v (vsl d.ma d.mas.length),.sl 114 0 d.ins.length 4,.v (vsl d.bl d.bls.length),.v (vsl d.ou d.ous.length)],29⟩),(2,⟨false,[.v (sv x.d.nm),.v (vsl x.d.ty x.d.tys.length),.v (vsl x.d.cu x.d.cus.length),.v (vsl x.d.ma x.d.mas.length),.v (vsl x.d.i x.d.ins.length),.v (vsl x.d.bl x.d.bls.length),.v (vsl x.d.ou x.d.ous.length),.sl 5 0 n 13,.v (vsl x.o x.od.length)],35⟩),(5,⟨true,rowsC (x.sg.map Sg.w),47⟩),(114,⟨false,rowsC ((frn (widI d.c u) d.ins i.val).map Po.r),51⟩)]) (fun i=>d.ins.length-i.val) ⟨0,by omega⟩ (fun _=>ClM.of (by simp only[List.all_cons,inMV (rowsC_isV _)];rfl)) (fun _=>ClE.of rfl) [(1,1),(2,2),(5,5),(114,114)] ?_ ?_
 ·exact⟨rfl,trivial,⟨rfl,rfl,rfl,rfl,rfl,trivial⟩,⟨.inr ⟨_,rfl,.inl rfl⟩,.inr ⟨_,rfl,.inl rfl⟩,.inr ⟨_,rfl,.inl (renV (rowsC_isV _))⟩,.inr ⟨_,rfl,.inl (renV (rowsC_isV _))⟩,trivial⟩⟩
 rintro⟨i,hi⟩ J hj
 simp only at hj hi⊢
 refine Sm.go 150 ?_
 refine vv ?_
 refine mtch (fun hc=>?_) (fun hc=>?_)
 ·have hc:=lt_of_dec hc
  have hll:=frn_len (widI d.c u) d.ins i
  have hat:=frn_at (widI d.c u) d.ins i hc
  obtain⟨s1,s2⟩:=frn_split (widI d.c u) d.ins i hc
  have f2:=rows_one (r:=Po.r) (k:=4) (fun _=>rfl) (frn (widI d.c u) d.ins i) i 2 (by omega) (by omega)
  have f3:=rows_one (r:=Po.r) (k:=4) (fun _=>rfl) (frn (widI d.c u) d.ins i) i 3 (by omega) (by omega)
  have z4:=rows_len (r:=Po.r) (k:=4) (fun _=>rfl) (frn (widI d.c u) d.ins i)
  rw[List.getElem?_eq_getElem (by omega)]at hat
  rw[Option.some.inj hat]at f2 f3
  have g1:=rows_fld (r:=Sg.w) (k:=13) (fun _=>rfl) x.sg i 1 10 (by omega) (by omega)
  have hty:(x.sg[i]'(by omega)).ty=tyN d.c.tys d.ins[i].ty:=by
   have h1:=sgs_get (d:=d.c) (rf:=rf) (i:=i) (n:=n) (by omega)
   rw[←hsg,List.getElem?_eq_getElem (by omega)]at h1
   rw[Option.some.inj h1]
   show tyAt d.c i=_
   rw[tyAt_in d.c i hc,List.getD_eq_getElem?_getD,show d.c.ins[i]?=some d.ins[i] from List.getElem?_eq_getElem hc];rfl
  have hin:=G.ck.inr (show d.ins[i]∈d.c.ins from List.getElem_mem hc)
  have hwi:widI d.c u d.ins[i]={d.ins[i]with lo:=max (limT (tyN d.c.tys d.ins[i].ty)).1 (d.ins[i].lo-u),hi:=min (limT (tyN d.c.tys d.ins[i].ty)).2 (d.ins[i].hi+u)}:=rfl
  have lb:=lim_bd (tyN d.c.tys d.ins[i].ty)
  rw[←hty]at hin hwi lb
  generalize x.sg[i]'(by omega)=g at*
  generalize hpi:d.ins[i]=pi at*
  have hlim:=lims g.ty
  simp(maxSteps:=2000000) only[go_sem,g1,zs]
  refine⟨⟨by omega,by omega⟩,by omega,?_⟩
  refine CallQ.pure 160 hlim rfl ?_
  refine vv ?_
  refine⟨⟨by omega,by omega⟩,?_⟩
  refine Sm.dgW [114] 170 23 mix ?_
  refine vv ?_
  have wu:IntKind.i64.wrap u=u:=by rw[w64 (by omega) (by omega)]
  have hin1:=hin.1
  have hin2:=hin.2.1
  have hin3:=hin.2.2
  simp only at hin1 hin2 hin3
  have w1:IntKind.i64.wrap (pi.lo-u)=pi.lo-u:=by rw[w64 (by omega) (by omega)]
  have w2:IntKind.i64.wrap (pi.hi+u)=pi.hi+u:=by rw[w64 (by omega) (by omega)]
  refine DOpQ.look (nx':=170) (sc:=True) (v:= .c (.v (.int .i64 pi.lo))) [(114,⟨false,rowsC ((frn (widI d.c u) d.ins i).map Po.r),51⟩)] 170 ?_ trivial ⟨rfl,trivial⟩ rfl ?_
  ·simp(maxSteps:=2000000) only[go_sem,f2,Po.r,List.getElem?_cons_zero,List.getElem?_cons_succ,Option.map_some]
  simp(maxSteps:=2000000) only[go_sem,wu,w1]
  refine DOpQ.look (nx':=170) (sc:=True) (v:= .c (.v (.int .i64 pi.hi))) [(114,⟨false,rowsC ((frn (widI d.c u) d.ins i).map Po.r),51⟩)] 170 ?_ trivial ⟨rfl,trivial⟩ rfl ?_
  ·simp(maxSteps:=2000000) only[go_sem,f3,Po.r,List.getElem?_cons_zero,List.getElem?_cons_succ,Option.map_some]
  simp(maxSteps:=2000000) only[go_sem,wu,w2]
  have hset:((rowsC ((frn (widI d.c u) d.ins i).map Po.r)).set (i*4+2) (.v (.int .i64 (max (bif fok g.ty then flo g.ty else 0) (pi.lo-u))))).set (i*4+3) (.v (.int .i64 (min (bif fok g.ty then fhi g.ty else 0) (pi.hi+u))))=rowsC ((frn (widI d.c u) d.ins (i+1)).map Po.r):=by
   have hA:=lenR Po.r 4 ((d.ins.take i).map (widI d.c u)) (fun _=>rfl)
   have hln:(((d.ins.take i).map (widI d.c u)).map Po.r).length=i:=by simp;omega
   have h1:=rowsC_set (k:=4) (((d.ins.take i).map (widI d.c u)).map Po.r) ((d.ins.drop (i+1)).map Po.r) (Po.r pi) hA 2 (by simp[Po.r]) (.int .i64 (max (bif fok g.ty then flo g.ty else 0) (pi.lo-u)))
   have h2:=rowsC_set (k:=4) (((d.ins.take i).map (widI d.c u)).map Po.r) ((d.ins.drop (i+1)).map Po.r) ((Po.r pi).set 2 (.int .i64 (max (bif fok g.ty then flo g.ty else 0) (pi.lo-u)))) hA 3 (by simp[Po.r]) (.int .i64 (min (bif fok g.ty then fhi g.ty else 0) (pi.hi+u)))
   rw[hln]at h1 h2
   rw[s1,s2,List.map_append,List.map_cons,List.map_append,List.map_cons,h1,h2,hwi]
   rfl
  have hz1:(rowsC ((frn (widI d.c u) d.ins i).map Po.r)).length=d.ins.length*4:=by rw[z4,hll]
  refine⟨by rw[hz1];omega,by rw[List.length_set,hz1];omega,?_⟩
  rw[hset]
  simp only[wS (show i≤1000000000000000000 by omega)]
  exact hj _ _ ⟨i+1,hc⟩ [(1,1),(2,2),(5,5),(114,114)] (by simp only;omega) ⟨rfl,trivial,⟨rfl,rfl,rfl,rfl,rfl,trivial⟩,⟨.inr ⟨_,rfl,.inl rfl⟩,.inr ⟨_,rfl,.inl rfl⟩,.inr ⟨_,rfl,.inl (renV (rowsC_isV _))⟩,.inr ⟨_,rfl,.inl (renV (rowsC_isV _))⟩,trivial⟩⟩
 have hc:=eq_of_dec hi hc
 subst hc
 rw[frn_all]
 refine CallQ.letgo (xs:=[_]) (M0:=[]) [114] l1 hP rfl (by unfold concOk;simp only[List.all_cons,cokV (rowsC_isV _)];rfl) rfl en13 rfl rfl (fun β C2 l2 k2 kn=>?_)
 obtain⟨s4,hv4,hk4⟩:=(kn 114 _ rfl rfl rfl).vslx (sz:=4) (rows:=(d.ins.map (widI d.c u)).map Po.r) (lenR Po.r 4 _ fun _=>rfl) rfl
 rw[List.length_map,List.length_map]at hv4 hk4
 have HH:H.le C2.hp:=(hH.trans k1).trans k2
 have hyo:(DgL.mk d.nm d.tys d.cus d.mas (d.ins.map (widI d.c u)) d.bls d.ous d.ty d.cu d.ma s4 d.bl d.ou).ok C2.hp:=⟨hd.ty.mono HH,hd.cu.mono HH,hd.ma.mono HH,by show SlH _ (vsl s4 (d.ins.map (widI d.c u)).length) 4 _;rw[List.length_map];exact hk4,hd.bl.mono HH,hd.ou.mono HH,fun c hc=>(hd.cus c hc).mono HH,fun c hc=>(hd.mas c hc).mono HH,fun c hc=>(hd.bls c hc).mono HH⟩
 have hyc:(DgL.mk d.nm d.tys d.cus d.mas (d.ins.map (widI d.c u)) d.bls d.ous d.ty d.cu d.ma s4 d.bl d.ou).c=widD d.c u:=rfl
 have hys:(DgL.mk d.nm d.tys d.cus d.mas (d.ins.map (widI d.c u)) d.bls d.ous d.ty d.cu d.ma s4 d.bl d.ou).sm:=⟨hs.nm,hs.tys,hs.cus,hs.mas,⟨by show(d.ins.map (widI d.c u)).length≤_;rw[List.length_map];exact hs.ins.1,fun p hp=>by obtain⟨q,hq,rfl⟩:=List.mem_map.1 hp;exact hs.ins.2 q hq⟩,hs.bls,hs.ous⟩
 have hyr:rowV (DgL.mk d.nm d.tys d.cus d.mas (d.ins.map (widI d.c u)) d.bls d.ous d.ty d.cu d.ma s4 d.bl d.ou).r= .agg [.v (sv d.nm),.v (vsl d.ty d.tys.length),.v (vsl d.cu d.cus.length),.v (vsl d.ma d.mas.length),.v (vsl s4 d.ins.length),.v (vsl d.bl d.bls.length),.v (vsl d.ou d.ous.length)]:=by
  simp only[rowV,DgL.r,List.length_map];rfl
 generalize DgL.mk d.nm d.tys d.cus d.mas (d.ins.map (widI d.c u)) d.bls d.ous d.ty d.cu d.ma s4 d.bl d.ou=y at*
 have hxs:List.map (V.conc [114] β) [V.agg [Cv.v (sv d.nm),Cv.v (vsl d.ty d.tys.length),Cv.v (vsl d.cu d.cus.length),Cv.v (vsl d.ma d.mas.length),Cv.sl 114 0 d.ins.length 4,Cv.v (vsl d.bl d.bls.length),Cv.v (vsl d.ou d.ous.length)]]=[rowV y.r]:=by
  rw[hyr]
  simp only[List.map_cons,List.map_nil,V.conc,Cv.conc,List.contains_cons,List.contains_nil,Nat.reduceBEq,Bool.or_false,cond_true,hv4]
 have hck:=Check_ y hyo hys (tblQ y.c) (table_ y)
 rw[←hxs]at hck
 refine CallW.x 180 l2 hck (Hp.le.refl _) (Sub.nil _) ClM.nil (fun _=>Fresh.nil _ _) rfl (fun z C3 H3 l3 k3 j3 p3=>?_)
 obtain⟨pz,oz⟩:=p3
 have oz:=CkL.ok.mono j3 oz
 have hzr:z.r.map Cv.v=[.v (sv z.d.nm),.v (vsl z.d.ty z.d.tys.length),.v (vsl z.d.cu z.d.cus.length),.v (vsl z.d.ma z.d.mas.length),.v (vsl z.d.i z.d.ins.length),.v (vsl z.d.bl z.d.bls.length),.v (vsl z.d.ou z.d.ous.length),.v (vsl z.s z.sg.length),.v (vsl z.o z.od.length)]:=rfl
 rw[hzr]
 have hodk:=ordR_ok (befB d.c) d.c.bls.length
 have hw:=G.wid hno hu.1 hodk.2.1
 rw[hyc]at pz⊢
 rw[hil,hbl,hn]at hw
 simp only[Mem.conc,Env.conc,Bk.conc,Cv.conc,V.conc,List.map_cons,List.map_nil,List.contains_cons,List.contains_nil,Nat.reduceBEq,Bool.or_false,Bool.or_true,cond_true,cond_false,concV (rowsC_isV _),hv4]
 rcases hw with hw|⟨rf',hw,hin⟩
 ·rw[hw]
  refine vv ?_
  exact RetQ.of (hR C3 l3 trivial) rfl scc rvv (Sub.nil _) ClM.nil (ClV.of rfl)
 ·rw[hw]at pz⊢
  refine vv ?_
  have hzs:z.sg=sgsR (widD d.c u) rf' n:=congrArg CkR.sg pz
  have hzl:z.sg.length=n:=by rw[hzs,sgs_len]
  have hsz:=oz.s
  rw[hzl]at hsz
  have hsmz:(z.sg.map Sg.w).length=n:=by rw[List.length_map,hzl]
  have zz:=rows_len (r:=Sg.w) (k:=13) (fun _=>rfl) z.sg
  rw[hzl]at zz⊢
  simp(maxSteps:=2000000) only[go_sem,bne_self_eq_false]
  refine Sm.cutm (M0:=[]) (l3.pins hP) [(13,true,.c (.p 3 0)),(120,true,.c (.sl 5 0 n 13)),(121,true,I n),(122,true,I (0:Nat))] [(3,⟨false,[.v (sv z.d.nm),.v (vsl z.d.ty z.d.tys.length),.v (vsl z.d.cu z.d.cus.length),.v (vsl z.d.ma z.d.mas.length),.v (vsl z.d.i z.d.ins.length),.v (vsl z.d.bl z.d.bls.length),.v (vsl z.d.ou z.d.ous.length),.v (vsl z.s n),.v (vsl z.o z.od.length)],35⟩),(5,⟨true,rowsC (x.sg.map Sg.w),47⟩)] [(3,180),(5,5)] ⟨rfl,trivial,⟨rfl,rfl,rfl,rfl,trivial⟩,⟨.inr ⟨_,rfl,.inl rfl⟩,.inr ⟨_,rfl,.inl (renV (rowsC_isV _))⟩,trivial⟩⟩ (ClM.of (by simp only[List.all_cons,inMV (rowsC_isV _)];rfl)) (ClE.of rfl) ?_
  refine Sm.bringC 6 47 3 7 hsz rfl rfl rfl ?_
  rw[hsmz]
  refine Sm.loopM (M0:=[]) (α:={i:Nat//i≤n}) (l3.pins hP) (fun i=>[(13,true,.c (.p 3 0)),(120,true,.c (.sl 5 0 n 13)),(121,true,I n),(122,true,I i.val)]) (fun _=>[(3,⟨false,[.v (sv z.d.nm),.v (vsl z.d.ty z.d.tys.length),.v (vsl z.d.cu z.d.cus.length),.v (vsl z.d.ma z.d.mas.length),.v (vsl z.d.i z.d.ins.length),.v (vsl z.d.bl z.d.bls.length),.v (vsl z.d.ou z.d.ous.length),.sl 6 0 n 13,.v (vsl z.o z.od.length)],35⟩),(5,⟨true,rowsC (x.sg.map Sg.w),47⟩),(6,⟨true,rowsC (z.sg.map Sg.w),47⟩)]) (fun i=>n-i.val) ⟨0,by omega⟩ (fun _=>ClM.of (by simp only[List.all_cons,inMV (rowsC_isV _)];rfl)) (fun _=>ClE.of rfl) [(3,3),(5,5),(6,6)] ?_ ?_
  ·exact⟨rfl,trivial,⟨rfl,rfl,rfl,rfl,trivial⟩,⟨.inr ⟨_,rfl,.inl rfl⟩,.inr ⟨_,rfl,.inl (renV (rowsC_isV _))⟩,.inr ⟨_,rfl,.inl (renV (rowsC_isV _))⟩,trivial⟩⟩
  rintro⟨i,hi⟩ J hj
  simp only at hj hi⊢
  refine Sm.go 190 ?_
  refine vv ?_
  refine mtch (fun hc=>?_) (fun hc=>?_)
  ·have hc:=lt_of_dec hc
   have t1:=rows_take (r:=Sg.w) (k:=13) (fun _=>rfl) x.sg i (by omega)
   have t2:=rows_one (r:=Sg.w) (k:=13) (fun _=>rfl) z.sg i 11 (by omega) (by omega)
   have t3:=rows_one (r:=Sg.w) (k:=13) (fun _=>rfl) z.sg i 12 (by omega) (by omega)
   have hx2:(x.sg[i]'(by omega)).r=rf.getD i (0,0):=by
    have h1:=sgs_get (d:=d.c) (rf:=rf) (i:=i) (n:=n) hc
    rw[←hsg,List.getElem?_eq_getElem (by omega)]at h1
    rw[Option.some.inj h1];rfl
   have hz2:(z.sg[i]'(by omega)).r=rf'.getD i (0,0):=by
    have h1:=sgs_get (d:=widD d.c u) (rf:=rf') (i:=i) (n:=n) hc
    rw[←hzs,List.getElem?_eq_getElem (by omega)]at h1
    rw[Option.some.inj h1];rfl
   have hii:=hin i
   rw[←hx2,←hz2]at hii
   generalize x.sg[i]'(by omega)=g at*
   generalize z.sg[i]'(by omega)=g2 at*
   have d1:decide (g.r.1<g2.r.1)=false:=decide_eq_false (by have:=hii.1;omega)
   have d2:decide (g2.r.2<g.r.2)=false:=decide_eq_false (by have:=hii.2;omega)
   simp(maxSteps:=2000000) only[go_sem,t1,zs]
   refine⟨⟨by omega,by omega⟩,by omega,?_⟩
   refine Sm.dg 200 22 mix ?_
   simp(maxSteps:=2000000) only[go_sem,t2,t3,zz,Sg.w,ftR,List.cons_append,List.nil_append,List.getElem?_cons_zero,List.getElem?_cons_succ,Option.map_some,d1,d2]
   simp only[wS (show i≤1000000000000000000 by omega)]
   exact⟨⟨by omega,by omega⟩,⟨by omega,by omega⟩,hj _ _ ⟨i+1,hc⟩ [(3,3),(5,5),(6,6)] (by simp only;omega) ⟨rfl,trivial,⟨rfl,rfl,rfl,rfl,trivial⟩,⟨.inr ⟨_,rfl,.inl rfl⟩,.inr ⟨_,rfl,.inl (renV (rowsC_isV _))⟩,.inr ⟨_,rfl,.inl (renV (rowsC_isV _))⟩,trivial⟩⟩⟩
  ·exact RetQ.of (hR C3 l3 trivial) rfl scc rvv (Sub.nil _) ClM.nil (ClV.of rfl)
end Go.Proofs.YtkciabfilokfiaaGreat.Fx
