/-  -/
import Derived.Test.YtkciabfilokfiaaGreatPS
import Derived.Test.YtkciabfilokfiaaGreatRV
import Derived.Test.YtkciabfilokfiaaGreatRT
namespace Go.Proofs.YtkciabfilokfiaaGreat.Fx
open Vg Tf
set_option linter.unusedSimpArgs false
set_option linter.unusedVariables false
set_option maxRecDepth 100000
set_option maxHeartbeats 4000000
theorem arith_ (s:Str):CallOk Tryz.prog 28 [S s] [] (Bo (arL.contains s)) []:=by
 refine CallOk.mkN 100 Tryz.func28 rfl en28 (by simp[Tryz.ntmps28]) (ClA.of rfl) rfl rfl fun C hR hP=>?_
 refine vv ?_
 refine RetQ.bool hR rfl ⟨rfl,trivial⟩ ?_
 unfold arL
 simp only[List.contains_cons,bor_,List.contains_nil,Bool.or_false,Bool.or_assoc]
theorem sm_c {a b:DgL}(h:a.c=b.c)(hs:b.sm):a.sm:=by
 unfold DgL.c at h
 injection h with h1 h2 h3 h4 h5 h6 h7
 have l3:a.cus.length=b.cus.length:=by have:=congrArg List.length h3;simpa using this
 have l4:a.mas.length=b.mas.length:=by have:=congrArg List.length h4;simpa using this
 have l6:a.bls.length=b.bls.length:=by have:=congrArg List.length h6;simpa using this
 refine⟨h1▸hs.nm,h2▸hs.tys,⟨l3▸hs.cus.1,fun c hc=>?_⟩,⟨l4▸hs.mas.1,fun m hm=>?_⟩,h5▸hs.ins,⟨l6▸hs.bls.1,fun q hq=>?_⟩,h7▸hs.ous⟩
 ·have:c.c∈b.cus.map (·.c):=h3▸List.mem_map.2 ⟨c,hc,rfl⟩
  obtain⟨c',hc',e⟩:=List.mem_map.1 this
  rw[←e];exact hs.cus.2 c' hc'
 ·have:m.c∈b.mas.map MpL.c:=h4▸List.mem_map.2 ⟨m,hm,rfl⟩
  obtain⟨m',hm',e⟩:=List.mem_map.1 this
  unfold MpL.c at e
  injection e with e1 e2 e3 e4
  have:=hs.mas.2 m' hm'
  refine⟨e1▸this.1,fun v hv=>?_⟩
  have:v.2∈m'.zs.map (·.2):=e4▸List.mem_map.2 ⟨v,hv,rfl⟩
  obtain⟨v',hv',e5⟩:=List.mem_map.1 this
  rw[←e5];exact(hs.mas.2 m' hm').2 v' hv'
 ·have:q.c∈b.bls.map BlL.c:=h6▸List.mem_map.2 ⟨q,hq,rfl⟩
  obtain⟨q',hq',e⟩:=List.mem_map.1 this
  rw[←e];exact hs.bls.2 q' hq'
theorem sgQ_at {d:Dg}{rf:List (Int×Int)}{N k:Nat}(nd:(sigs d).Nodup)(hk:k<N)(hN:N≤(sigs d).length):sgQ (sgsR d rf N) ((sigs d).getD k [])=some (sgF d rf k):=by
 have hg:∀{i},i<N→(sigs d)[i]?=some ((sigs d).getD i []):=fun{i} hi=>by
  rw[List.getD_eq_getElem?_getD,List.getElem?_eq_getElem (show i<(sigs d).length by omega)];rfl
 unfold sgQ sgsR
 rw[List.find?_map]
 have:(List.range N).find? ((fun x:Sg=>x.nm==(sigs d).getD k []) ∘ sgF d rf)=some k:=by
  rw[List.find?_range_eq_some]
  refine⟨beq_self_eq_true _,List.mem_range.2 hk,fun j hj=>?_⟩
  have h1:(sigs d).getD j []≠(sigs d).getD k []:=fun h=>by
   have:=(List.getElem?_inj (show j<(sigs d).length by omega) nd).1 ((hg (show j<N by omega)).trans ((congrArg some h).trans (hg hk).symm))
   omega
  show(!((sigs d).getD j []==(sigs d).getD k []))=true
  rw[Bool.not_eq_true',beq_eq_false_iff_ne];exact h1
 rw[this];rfl
theorem saturates_ {H:Hp}(d:DgL)(hd:d.ok H)(hs:d.sm)(haw:CallH H Tryz.prog 11 [] (Bo true)):CallX H Tryz.prog 9 [rowV d.r] [] (fun _:Unit=>Bo true) (fun _=>[]) (fun _ _=>True):=by
 refine CallX.mkS Tryz.func9 rfl en9 (by simp[Tryz.ntmps9]) (ClA.of rfl) (fun _=>rfl) (fun _=>rfl) fun C hR hP hH hL=>?_
 have hR:=hR ()
 refine Sm.go 100 ?_
 refine vv ?_
 refine CallQ.h 110 haw hH rfl ?_
 refine vv ?_
 refine CallQ.h 110 (great_ d hd hs) hH rfl ?_
 refine vv ?_
 refine mtch (fun hg=>?_) (fun hg=>?_)
 ·exact RetQ.of (hR C hL trivial) rfl scc rvv (Sub.nil _) ClM.nil (ClV.of rfl)
 refine CallQ.x 120 hL (Check_ d hd hs (tblQ d.c) (table_ d)) hH (Sub.nil _) ClM.nil (fun _=>Fresh.nil _ _) rfl rfl rfl (fun x C1 H1 l1 k1 j1 p1=>?_)
 obtain⟨px,ox⟩:=p1
 have ox:=CkL.ok.mono j1 ox
 have hcr:x.r.map Cv.v=[.v (sv x.d.nm),.v (vsl x.d.ty x.d.tys.length),.v (vsl x.d.cu x.d.cus.length),.v (vsl x.d.ma x.d.mas.length),.v (vsl x.d.i x.d.ins.length),.v (vsl x.d.bl x.d.bls.length),.v (vsl x.d.ou x.d.ous.length),.v (vsl x.s x.sg.length),.v (vsl x.o x.od.length)]:=rfl
 have hcr2:∀x:CkL,rowV x.r= .agg [.v (sv x.d.nm),.v (vsl x.d.ty x.d.tys.length),.v (vsl x.d.cu x.d.cus.length),.v (vsl x.d.ma x.d.mas.length),.v (vsl x.d.i x.d.ins.length),.v (vsl x.d.bl x.d.bls.length),.v (vsl x.d.ou x.d.ous.length),.v (vsl x.s x.sg.length),.v (vsl x.o x.od.length)]:=fun _=>rfl
 rcases chk_cases d (tblQ d.c)with⟨he,hq⟩|⟨rf,G⟩
 ·have px:=px.trans hq
  have hn:=satNo_ x (Valid_ x ox (sm_c (b:=dgL0) (congrArg CkR.d px) ⟨by decide,by simp[dgL0],by simp[dgL0],by simp[dgL0],by simp[dgL0],by simp[dgL0],by simp[dgL0]⟩) (by rw[show x.sg=[] from congrArg CkR.sg px];simp) (by rw[show x.od=[] from congrArg CkR.od px];simp) false (.bad (by rw[show x.c.d=dgL0.c from congrArg CkR.d px,show x.d.c=dgL0.c from congrArg CkR.d px];have:(chkQ dgL0.c (tblQ dgL0.c)).2.2=1:=rfl;rw[this];decide)))
  rw[hcr2]at hn
  have he2:((chkQ d.c (tblQ d.c)).2.2 !=0)=true:=by simpa using he
  rw[hcr]
  simp(maxSteps:=2000000) only[go_sem,he2]
  refine CallQ.h 130 hn (Hp.le.refl _) rfl ?_
  simp(maxSteps:=2000000) only[go_sem,he2]
  exact RetQ.of (hR C1 l1 trivial) rfl scc rvv (Sub.nil _) ClM.nil (ClV.of rfl)
 have hq:=G.q
 rw[hq]at px⊢
 rw[hcr]
 have B:=dgB G.ok
 have hbl:d.c.bls.length=d.bls.length:=List.length_map _
 have hil:d.c.ins=d.ins:=rfl
 have hsg:x.sg=sgsR d.c rf (d.ins.length+d.bls.length):=by have:=congrArg CkR.sg px;rw[←hbl];exact this
 have hod:x.od=ordR (befB d.c) d.c.bls.length:=congrArg CkR.od px
 have hxd:x.d.c=d.c:=congrArg CkR.d px
 have hxd2:x.c.d=d.c:=hxd
 have hsl:x.sg.length=d.ins.length+d.bls.length:=by rw[hsg,sgs_len]
 have hol:x.od.length≤d.bls.length:=by rw[hod,hbl];exact ordR_len _ _
 have B1:=B.ins
 have B2:=B.bls
 have hxb:x.d.bls.map BlL.c=d.bls.map BlL.c:=congrArg Dg.bls hxd
 have hxbl:x.d.bls.length=d.bls.length:=by have:=congrArg List.length hxb;simpa using this
 have smx:=sm_c hxd hs
 have hV:=Valid_ x ox smx (by omega) (by omega) true (.good (by rw[hxd2,hxd,hq]) (by rw[hxd2,hxd,hq];rw[←hbl]at hsg;exact hsg.symm) (by rw[hxd2,hxd,hq];exact hod.symm))
 have hS:=sat_ x ox (by omega) (by omega) hV
 have hcb:x.d.c.bls=d.c.bls:=congrArg Dg.bls hxd
 rw[hcr2,hcb]at hS
 have hwl:=satG_len x.sg d.c.bls
 generalize hw:satG x.sg d.c.bls=W at*
 refine vv ?_
 refine CallQ.hr [(1,140)] 150 hS (Hp.le.refl _) ClM.nil rfl rfl trivial rfl (.inl rfl) ?_
 simp only[Mem.ren,List.map_cons,List.map_nil,renV (v_sC _),V.ren,Cv.ren,rn,Nat.reduceBEq,cond_true,cond_false]
 rw[hsl]
 have ew:IntKind.i64.wrap ((d.ins.length:Int)+(d.bls.length:Int))=((d.ins.length+d.bls.length:Nat):Int):=by rw[w64 (by omega) (by omega)];omega
 simp(maxSteps:=2000000) only[go_sem,ew,bne_self_eq_false]
 refine Sm.nils 160 1 9 [7] [] rfl ?_
 have zb:=rows_len (r:=BlL.r) (k:=6) (fun _=>rfl) d.bls
 have lb:(d.bls.map BlL.r).length=d.bls.length:=List.length_map _
 have nd:(sigs d.c).Nodup:=by
  have h:=(nodup_of_dupF _ _ G.ck.dup).1
  unfold allN at h
  simp only[List.nodup_append]at h
  simp_all
 have hsgl:=sigs_len d
 refine Sm.bringR 5 53 48 ((hd.bl.mono hH).mono k1) rfl rfl ?_
 rw[lb]
 have hss:=ox.s
 rw[hsl]at hss
 have hsm:(x.sg.map Sg.w).length=d.ins.length+d.bls.length:=by rw[List.length_map,hsl]
 refine Sm.loopM (M0:=[]) (α:={z:Nat×List Str//z.1≤d.bls.length∧z.2.length≤z.1∧z.2++satG x.sg ((d.bls.drop z.1).map BlL.c)=W}) (l1.pins hP) (fun z=>[(1,true,.c (.p 1 0)),(3,true,.c (.p 3 0)),(6,true,.c (.sl 6 0 W.length 1)),(7,true,.c (.sl 7 0 z.val.2.length 1)),(48,true,.c (.sl 5 0 d.bls.length 6)),(49,true,I d.bls.length),(50,true,I z.val.1)])
  (fun z=>[(1,⟨false,[.v (sv d.nm),.v (vsl d.ty d.tys.length),.v (vsl d.cu d.cus.length),.v (vsl d.ma d.mas.length),.v (vsl d.i d.ins.length),.v (vsl d.bl d.bls.length),.v (vsl d.ou d.ous.length)],29⟩),(3,⟨false,[.v (sv x.d.nm),.v (vsl x.d.ty x.d.tys.length),.v (vsl x.d.cu x.d.cus.length),.v (vsl x.d.ma x.d.mas.length),.v (vsl x.d.i x.d.ins.length),.v (vsl x.d.bl x.d.bls.length),.v (vsl x.d.ou x.d.ous.length),.v (vsl x.s (d.ins.length+d.bls.length)),.v (vsl x.o x.od.length)],35⟩),(6,⟨false,W.map sC,9⟩),(7,⟨false,z.val.2.map sC,9⟩),(5,⟨true,rowsC (d.bls.map BlL.r),53⟩)]) (fun z=>d.bls.length-z.val.1) ⟨(0,[]),by simp,by simp,hw⟩ (fun _=>ClM.of (by simp only[List.all_cons,inMV (rowsC_isV _),inMV (v_sC _),inMV (v_v _)];rfl)) (fun _=>ClE.of rfl) [(1,100),(3,120),(6,140),(7,160),(5,5)] ?_ ?_
 ·exact⟨rfl,trivial,⟨rfl,rfl,rfl,rfl,rfl,rfl,rfl,trivial⟩,⟨.inr ⟨_,rfl,.inl rfl⟩,.inr ⟨_,rfl,.inl rfl⟩,.inr ⟨_,rfl,.inl (renV (v_sC _))⟩,.inr ⟨_,rfl,.inl rfl⟩,.inr ⟨_,rfl,.inl (renV (rowsC_isV _))⟩,trivial⟩⟩
 rintro⟨⟨i,a⟩,hi,hal,hxx⟩ J hj
 simp only at hj hi hal hxx⊢
 refine run_ok 16 _ _ _ 150 ?_
 refine vv ?_
 refine mtch (fun hc=>?_) (fun hc=>?_)
 ·have hc:=lt_of_dec hc
  have htk:=rows_take (r:=BlL.r) (k:=6) (fun _=>rfl) d.bls i hc
  have htk2:=rows_take (r:=Sg.w) (k:=13) (fun _=>rfl) x.sg (d.ins.length+i) (by omega)
  rw[List.drop_eq_getElem_cons hc,List.map_cons,satG]at hxx
  simp(maxSteps:=2000000) only[go_sem,htk,zb]
  refine⟨⟨by omega,by omega⟩,by omega,?_⟩
  generalize hb:d.bls[i]=b at*
  refine run_ok 6 _ _ _ 160 ?_
  refine vv ?_
  refine Sm.bringR 170 47 56 hss rfl rfl ?_
  rw[hsm]
  have hnm:(sigs d.c).getD (d.ins.length+i) []=b.c.nm:=by rw[←hb];exact sigs_bl d hc
  have hat:=sgQ_at (d:=d.c) (rf:=rf) (N:=d.ins.length+d.bls.length) (k:=d.ins.length+i) nd (by omega) (by omega)
  rw[hnm,←hsg]at hat
  have hcs:d.ins.length+i<x.sg.length:=by omega
  have hg0:x.sg[d.ins.length+i]=sgF d.c rf (d.ins.length+i):=by
   have h1:=sgs_get (d:=d.c) (rf:=rf) (n:=d.ins.length+d.bls.length) (i:=d.ins.length+i) (by omega)
   rw[←hsg,List.getElem?_eq_getElem hcs]at h1
   exact Option.some.inj h1
  rw[hg0]at htk2
  rw[hat,Option.getD_some]at hxx
  generalize sgF d.c rf (d.ins.length+i)=g at*
  have zs:=rows_len (r:=Sg.w) (k:=13) (fun _=>rfl) x.sg
  rw[hsl]at zs
  have ei:IntKind.i64.wrap ((d.ins.length:Int)+(i:Int))=((d.ins.length+i:Nat):Int):=by rw[w64 (by omega) (by omega)];omega
  refine Sm.go 180 ?_
  simp(maxSteps:=2000000) only[go_sem,ei,htk2,zs]
  refine⟨⟨by omega,by omega⟩,by omega,?_⟩
  refine CallQ.pure 190 (lims g.ty) rfl ?_
  have hsb:satB g=(bif decide (g.r.1≤(bif fok g.ty then flo g.ty else 0))then true else decide ((bif fok g.ty then fhi g.ty else 0)≤g.r.2)):=rfl
  rw[hsb]at hxx
  generalize (bif fok g.ty then flo g.ty else 0)=lo at*
  generalize (bif fok g.ty then fhi g.ty else 0)=hi2 at*
  refine vv ?_
  refine CallQ.pure 200 (arith_ b.c.kd) rfl ?_
  have hak:(BlL.c b).kd=b.c.kd:=rfl
  rw[hak]at hxx
  refine vv ?_
  refine⟨fun h=>⟨h,fun h2=>by rw[h,h2];rfl⟩,?_⟩
  refine mtch (fun hd=>?_) (fun hd=>?_)
  ·rw[hd,cond_true]at hxx
   have hlm:(a.map sC).length=a.length:=List.length_map _
   have hta:List.take a.length (a.map sC)++[sC b.c.nm]=(a++[b.c.nm]).map sC:=by
    rw[List.take_of_length_le (by omega),List.map_append];rfl
   simp(maxSteps:=2000000) only[go_sem,hta,hlm,wS (show i≤1000000000000000000 by omega)]
   refine⟨⟨by omega,by omega,by omega⟩,?_⟩
   refine Sm.go 220 ?_
   simp(maxSteps:=2000000) only[go_sem,hta,hlm,wS (show i≤1000000000000000000 by omega)]
   rw[show a.length+1=(a++[b.c.nm]).length by simp]
   exact hj _ _ ⟨(i+1,a++[b.c.nm]),hc,by simp only[List.length_append,List.length_cons,List.length_nil];omega,by rw[List.append_assoc];exact hxx⟩ [(1,1),(3,3),(6,6),(7,201),(5,5)] (by simp only;omega) ⟨rfl,trivial,⟨rfl,rfl,rfl,rfl,rfl,rfl,rfl,trivial⟩,⟨.inr ⟨_,rfl,.inl rfl⟩,.inr ⟨_,rfl,.inl rfl⟩,.inr ⟨_,rfl,.inl (renV (v_sC _))⟩,.inr ⟨_,rfl,.inl (renV (v_sC _))⟩,.inr ⟨_,rfl,.inl (renV (rowsC_isV _))⟩,trivial⟩⟩
  ·rw[hd,cond_false]at hxx
   simp(maxSteps:=2000000) only[go_sem,wS (show i≤1000000000000000000 by omega)]
   exact hj _ _ ⟨(i+1,a),hc,by simp only;omega,hxx⟩ [(1,1),(3,3),(6,6),(7,7),(5,5)] (by simp only;omega) ⟨rfl,trivial,⟨rfl,rfl,rfl,rfl,rfl,rfl,rfl,trivial⟩,⟨.inr ⟨_,rfl,.inl rfl⟩,.inr ⟨_,rfl,.inl rfl⟩,.inr ⟨_,rfl,.inl (renV (v_sC _))⟩,.inr ⟨_,rfl,.inl (renV (v_sC _))⟩,.inr ⟨_,rfl,.inl (renV (rowsC_isV _))⟩,trivial⟩⟩
 ·have hc:=eq_of_dec hi hc
  rw[hc,List.drop_length]at hxx
  have hxx:a++[]=W:=hxx
  rw[List.append_nil]at hxx
  subst hxx
  have hoo:((x.od.map fun n:Nat=>[iv n]).length)=x.od.length:=List.length_map _
  have hcl:=cloIs (H:=C1.hp) (vsl x.o x.od.length) (x.od.map fun n:Nat=>[iv n]) ox.o (fun r hr=>by obtain⟨z,_,rfl⟩:=List.mem_map.1 hr;rfl) (one_rows _ fun r hr v hv=>by obtain⟨z,_,rfl⟩:=List.mem_map.1 hr;simp at hv;subst hv;simp[Value.oneCell']) (by rw[hoo];omega)
  rw[hoo]at hcl
  refine CallQ.hr [(2,210)] 220 hcl (Hp.le.refl _) ClM.nil rfl rfl trivial rfl (.inl rfl) ?_
  simp only[Mem.ren,List.map_cons,List.map_nil,renV (rowsC_isV _),V.ren,Cv.ren,rn,Nat.reduceBEq,cond_true,cond_false]
  have zo:=rows_len (r:=fun n:Nat=>[iv n]) (k:=1) (fun _=>rfl) x.od
  rw[Nat.mul_one]at zo
  have hto:List.take x.od.length (rowsC (x.od.map fun n:Nat=>[iv n]))++[.v (.int .i64 0)]=rowsC ((x.od++[0]).map fun n:Nat=>[iv n]):=by
   rw[List.take_of_length_le (by omega),List.map_append];unfold rowsC;simp
  have hw6:a.length≤200:=by omega
  simp(maxSteps:=2000000) only[go_sem,zo,hto]
  refine⟨⟨by omega,by omega,by omega⟩,?_⟩
  refine CallQ.ren [(1,6),(2,7)] 230 (eqSs_ a (by omega)) (ClM.of (by simp only[List.all_cons,inMV (v_sC _)];rfl)) rfl rfl ⟨⟨_,rfl,wkV (v_sC _)⟩,⟨_,rfl,wkV (v_sC _)⟩,trivial⟩ rfl (.inr rfl) ?_
  refine vv ?_
  refine CallQ.letgo (xs:=[_]) (M0:=[]) [221] l1 hP rfl (by unfold concOk;simp only[List.all_cons,cokV (rowsC_isV _),cokV (v_sC _),cokV (v_v _)];rfl) rfl en27 rfl rfl (fun β C2 l2 k2 kn=>?_)
  obtain⟨so,hvo,hko⟩:=(kn 221 _ rfl rfl rfl).vslx (sz:=1) (rows:=(x.od++[0]).map fun n:Nat=>[iv n]) (fun r hr=>by obtain⟨z,_,rfl⟩:=List.mem_map.1 hr;rfl) rfl
  have hyl:(x.od++[0]).length=x.od.length+1:=by simp
  rw[List.length_map,hyl]at hvo hko
  have oy:CkL.ok C2.hp ⟨x.d,x.sg,x.od++[0],x.s,so⟩:=⟨ox.d.mono k2,ox.s.mono k2,by show SlH _ (vsl so (x.od++[0]).length) 1 _;rw[hyl];exact hko⟩
  have hn:=satNo_ ⟨x.d,x.sg,x.od++[0],x.s,so⟩ (Valid_ ⟨x.d,x.sg,x.od++[0],x.s,so⟩ oy smx (by show x.sg.length≤_;omega) (by show(x.od++[0]).length≤_;omega) false (.len (by show(chkQ x.d.c (tblQ x.d.c)).2.2=0;rw[hxd,hq]) (by show(chkQ x.d.c (tblQ x.d.c)).1.sg=x.sg;rw[hxd,hq];rw[←hbl]at hsg;exact hsg.symm) (by show(chkQ x.d.c (tblQ x.d.c)).1.od.length≠(x.od++[0]).length;rw[hxd,hq,hyl,hod];show(ordR _ _).length≠_;omega)))
  rw[hcr2]at hn
  have hxs:∀z:V,List.map (V.conc [221] β) [V.agg [Cv.v (sv x.d.nm),Cv.v (vsl x.d.ty x.d.tys.length),Cv.v (vsl x.d.cu x.d.cus.length),Cv.v (vsl x.d.ma x.d.mas.length),Cv.v (vsl x.d.i x.d.ins.length),Cv.v (vsl x.d.bl x.d.bls.length),Cv.v (vsl x.d.ou x.d.ous.length),Cv.v (vsl x.s (d.ins.length+d.bls.length)),Cv.sl 221 0 (x.od.length+1) 1]]=[V.agg [Cv.v (sv x.d.nm),Cv.v (vsl x.d.ty x.d.tys.length),Cv.v (vsl x.d.cu x.d.cus.length),Cv.v (vsl x.d.ma x.d.mas.length),Cv.v (vsl x.d.i x.d.ins.length),Cv.v (vsl x.d.bl x.d.bls.length),Cv.v (vsl x.d.ou x.d.ous.length),Cv.v (vsl x.s x.sg.length),Cv.v (vsl so (x.od++[0]).length)]]:=fun _=>by
   rw[hyl,←hvo,hsl];rfl
  rw[hxs (.c (.v (.bool true)))]
  refine CallW.h 240 l2 hn (Hp.le.refl _) rfl (fun Cm m1 m2=>?_)
  refine vv ?_
  exact RetQ.bool (hR Cm (m1) trivial) rfl scc rfl
end Go.Proofs.YtkciabfilokfiaaGreat.Fx
