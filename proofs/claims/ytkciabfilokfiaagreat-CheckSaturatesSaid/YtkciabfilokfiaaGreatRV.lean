/-  -/
import Derived.Test.YtkciabfilokfiaaGreatPS
import Derived.Test.YtkciabfilokfiaaGreatRT
namespace Go.Proofs.YtkciabfilokfiaaGreat.Fx
open Vg Tf
set_option linter.unusedSimpArgs false
set_option linter.unusedVariables false
set_option maxRecDepth 100000
set_option maxHeartbeats 4000000
inductive VldC (x:CkR) (T:Bl→List (Int×Int)→Int×Int):Bool→Prop
 |bad (h:(chkQ x.d T).2.2≠0):VldC x T false
 |good (h:(chkQ x.d T).2.2=0) (h1:(chkQ x.d T).1.sg=x.sg) (h2:(chkQ x.d T).1.od=x.od):VldC x T true
 |len (h:(chkQ x.d T).2.2=0) (h1:(chkQ x.d T).1.sg=x.sg) (h2:(chkQ x.d T).1.od.length≠x.od.length):VldC x T false
theorem ordI (l:List Nat):intsR (l.map fun n:Nat=>(n:Int))=l.map fun n:Nat=>[iv n]:=by unfold intsR;rw[List.map_map];rfl
theorem Valid_ {H:Hp}(x:CkL)(hx:x.ok H)(hs:x.d.sm)(hl1:x.sg.length≤1000000000000000)(hl2:x.od.length≤1000000000000000)(v:Bool)(hv:VldC x.c (tblQ x.d.c) v):CallH H Tryz.prog 23 [rowV x.r] (Bo v):=by
 have hcr:∀x:CkL,x.r.map Cv.v=[.v (sv x.d.nm),.v (vsl x.d.ty x.d.tys.length),.v (vsl x.d.cu x.d.cus.length),.v (vsl x.d.ma x.d.mas.length),.v (vsl x.d.i x.d.ins.length),.v (vsl x.d.bl x.d.bls.length),.v (vsl x.d.ou x.d.ous.length),.v (vsl x.s x.sg.length),.v (vsl x.o x.od.length)]:=fun _=>rfl
 have hcr2:∀x:CkL,rowV x.r= .agg [.v (sv x.d.nm),.v (vsl x.d.ty x.d.tys.length),.v (vsl x.d.cu x.d.cus.length),.v (vsl x.d.ma x.d.mas.length),.v (vsl x.d.i x.d.ins.length),.v (vsl x.d.bl x.d.bls.length),.v (vsl x.d.ou x.d.ous.length),.v (vsl x.s x.sg.length),.v (vsl x.o x.od.length)]:=fun _=>rfl
 have hchk:=fun{H':Hp} (o:x.d.ok H')=>Check_ x.d o hs (tblQ x.d.c) (table_ x.d)
 have hcd:x.c.d=x.d.c:=rfl
 rw[hcr2]
 refine CallH.mkS Tryz.func23 rfl en23 (by simp[Tryz.ntmps23]) (ClA.of rfl) fun C hR hP hH hL=>?_
 refine Sm.go 100 ?_
 refine vv ?_
 refine CallQ.x 120 hL (hchk (hx.d.mono hH)) (Hp.le.refl _) (Sub.nil _) ClM.nil (fun _=>Fresh.nil _ _) rfl rfl rfl (fun y C1 H1 l1 k1 j1 p1=>?_)
 obtain⟨py,oy⟩:=p1
 have oy:=CkL.ok.mono j1 oy
 have ysg:y.sg=(chkQ x.d.c (tblQ x.d.c)).1.sg:=congrArg CkR.sg py
 have yod:y.od=(chkQ x.d.c (tblQ x.d.c)).1.od:=congrArg CkR.od py
 rw[hcr]
 have os:=(hx.s.mono hH).mono k1
 have oo:=(hx.o.mono hH).mono k1
 cases hv with
 |bad h=>
  have h2:((chkQ x.d.c (tblQ x.d.c)).2.2==0)=false:=by simpa[hcd]using h
  simp(maxSteps:=2000000) only[go_sem,h2]
  refine CallQ.hg (xs:=[]) (v:=Bo false) (H:=C1.hp) 130 (fun h=>by cases h) (Hp.le.refl _) (fun h=>by cases h) ?_
  refine vv ?_
  refine CallQ.hg (xs:=[]) (v:=Bo false) (H:=C1.hp) 130 (fun h=>by cases h) (Hp.le.refl _) (fun h=>by cases h) ?_
  refine vv ?_
  exact RetQ.bool (hR C1 l1) rfl scc rfl
 |good h h1 h2=>
  rw[hcd]at h h1 h2
  rw[h1]at ysg
  rw[h2]at yod
  have e1:x.c.sg=x.sg:=rfl
  have e2:x.c.od=x.od:=rfl
  rw[e1]at ysg
  rw[e2]at yod
  have ys:=oy.s
  have yo:=oy.o
  rw[ysg]at ys
  rw[yod]at yo
  have q1:=eqSg_ y.s x.s x.sg ys os hl1
  rw[h,ysg,yod]
  refine vv ?_
  refine CallQ.hg 130 (fun _=>q1) (Hp.le.refl _) (fun _=>rfl) ?_
  refine vv ?_
  have q2:=eqIs_ y.o x.o (x.od.map fun n:Nat=>(n:Int)) (by rw[List.length_map,ordI];exact yo) (by rw[List.length_map,ordI];exact oo) (by rw[List.length_map];exact hl2)
  rw[List.length_map]at q2
  refine CallQ.hg 140 (fun _=>q2) (Hp.le.refl _) (fun _=>rfl) ?_
  refine vv ?_
  exact RetQ.bool (hR C1 l1) rfl scc rfl
 |len h h1 h2=>
  rw[hcd]at h h1 h2
  rw[h1]at ysg
  have e1:x.c.sg=x.sg:=rfl
  have e2:x.c.od=x.od:=rfl
  rw[e1]at ysg
  rw[e2,←yod]at h2
  have ys:=oy.s
  rw[ysg]at ys
  have q1:=eqSg_ y.s x.s x.sg ys os hl1
  have q2:=eqIsN_ (H:=C1.hp) y.o x.o y.od.length x.od.length h2
  rw[h,ysg]
  refine vv ?_
  refine CallQ.hg 130 (fun _=>q1) (Hp.le.refl _) (fun _=>rfl) ?_
  refine vv ?_
  refine CallQ.hg 140 (fun _=>q2) (Hp.le.refl _) (fun _=>rfl) ?_
  refine vv ?_
  exact RetQ.bool (hR C1 l1) rfl scc rfl
end Go.Proofs.YtkciabfilokfiaaGreat.Fx
namespace Go.Proofs.YtkciabfilokfiaaGreat.Fx
open Vg Tf
set_option linter.unusedSimpArgs false
set_option linter.unusedVariables false
set_option maxRecDepth 100000
set_option maxHeartbeats 4000000
theorem satNo_ {H:Hp}(x:CkL)(hv:CallH H Tryz.prog 23 [rowV x.r] (Bo false)):CallH H Tryz.prog 27 [rowV x.r] (.c (.v (.slice none 0 0))):=by
 have hcr2:rowV x.r= .agg [.v (sv x.d.nm),.v (vsl x.d.ty x.d.tys.length),.v (vsl x.d.cu x.d.cus.length),.v (vsl x.d.ma x.d.mas.length),.v (vsl x.d.i x.d.ins.length),.v (vsl x.d.bl x.d.bls.length),.v (vsl x.d.ou x.d.ous.length),.v (vsl x.s x.sg.length),.v (vsl x.o x.od.length)]:=rfl
 rw[hcr2]at hv⊢
 refine CallH.mkS Tryz.func27 rfl en27 (by simp[Tryz.ntmps27]) (ClA.of rfl) fun C hR hP hH hL=>?_
 refine Sm.go 100 ?_
 refine vv ?_
 refine CallQ.h 110 hv hH rfl ?_
 refine vv ?_
 exact RetQ.of (hR C hL) rfl scc rvv (Sub.nil _) ClM.nil (ClV.of rfl)
@[go_sem ↓] theorem plS_8_1:plS 8 1=[(0,1),(1,1),(2,1),(3,1),(4,1),(5,1),(6,1),(7,1)]:=rfl
def arL:List Str:=[[97,100,100],[115,117,98],[109,117,108],[100,105,118],[110,101,103],[99,111,110,118,101,114,116],[99,117,114,118,101],[109,97,112]]
def satB (g:Sg):Bool:=bif decide (g.r.1≤(bif fok g.ty then flo g.ty else 0))then true else decide ((bif fok g.ty then fhi g.ty else 0)≤g.r.2)
def satG (sg:List Sg):List Bl→List Str
 |[]=>[]
 |b::l=>bif (bif arL.contains b.kd then satB ((sgQ sg b.nm).getD sg0)else false)then b.nm::satG sg l else satG sg l
theorem satG_len (sg:List Sg):∀l:List Bl,(satG sg l).length≤l.length
 |[]=>Nat.le_refl _
 |b::l=>by
  have:=satG_len sg l
  unfold satG
  cases (bif arL.contains b.kd then satB ((sgQ sg b.nm).getD sg0)else false)with
  |true=>simp only[cond_true,List.length_cons];omega
  |false=>simp only[cond_false,List.length_cons];omega
theorem sat_ {H:Hp}(x:CkL)(hx:x.ok H)(hl:x.sg.length≤1000000000000000)(hb:x.d.bls.length≤1000000)(hv:CallH H Tryz.prog 23 [rowV x.r] (Bo true)):CallX H Tryz.prog 27 [rowV x.r] [] (fun _:Unit=> .c (.sl 1 0 (satG x.sg x.d.c.bls).length 1)) (fun _=>[(1,⟨false,(satG x.sg x.d.c.bls).map sC,9⟩)]) (fun _ _=>True):=by
 have hcr2:rowV x.r= .agg [.v (sv x.d.nm),.v (vsl x.d.ty x.d.tys.length),.v (vsl x.d.cu x.d.cus.length),.v (vsl x.d.ma x.d.mas.length),.v (vsl x.d.i x.d.ins.length),.v (vsl x.d.bl x.d.bls.length),.v (vsl x.d.ou x.d.ous.length),.v (vsl x.s x.sg.length),.v (vsl x.o x.od.length)]:=rfl
 have hcr:x.r.map Cv.v=[.v (sv x.d.nm),.v (vsl x.d.ty x.d.tys.length),.v (vsl x.d.cu x.d.cus.length),.v (vsl x.d.ma x.d.mas.length),.v (vsl x.d.i x.d.ins.length),.v (vsl x.d.bl x.d.bls.length),.v (vsl x.d.ou x.d.ous.length),.v (vsl x.s x.sg.length),.v (vsl x.o x.od.length)]:=rfl
 have hsig:=fun s=>Signal_ (H:=H) x hx s hl
 rw[hcr2]at hv⊢
 rw[hcr2]at hsig
 have zb:=rows_len (r:=BlL.r) (k:=6) (fun _=>rfl) x.d.bls
 have lb:(x.d.bls.map BlL.r).length=x.d.bls.length:=List.length_map _
 have hcb:x.d.c.bls=x.d.bls.map BlL.c:=rfl
 rw[hcb]
 generalize hq:satG x.sg (x.d.bls.map BlL.c)=Q at*
 refine CallX.mkS Tryz.func27 rfl en27 (by simp[Tryz.ntmps27]) (ClA.of rfl) (fun _=>rfl) (fun _=>rfl) fun C hR hP hH hL=>?_
 have hR:=hR () C hL trivial
 refine Sm.go 100 ?_
 refine vv ?_
 refine CallQ.h 110 hv hH rfl ?_
 refine vv ?_
 refine Sm.nils 140 1 9 [3] [] rfl ?_
 refine vv ?_
 refine Sm.bringR 5 53 15 (hx.d.bl.mono hH) rfl rfl ?_
 rw[lb]
 refine Sm.loopM (M0:=[]) (α:={z:Nat×List Str//z.1≤x.d.bls.length∧z.2.length≤z.1∧z.2++satG x.sg ((x.d.bls.drop z.1).map BlL.c)=Q}) hP (fun z=>[(1,true,.c (.p 1 0)),(3,true,.c (.sl 3 0 z.val.2.length 1)),(15,true,.c (.sl 5 0 x.d.bls.length 6)),(16,true,I x.d.bls.length),(17,true,I z.val.1)])
  (fun z=>[(1,⟨false,x.r.map .v,35⟩),(3,⟨false,z.val.2.map sC,9⟩),(5,⟨true,rowsC (x.d.bls.map BlL.r),53⟩)]) (fun z=>x.d.bls.length-z.val.1) ⟨(0,[]),by simp,by simp,hq⟩ (fun _=>ClM.of (by simp only[List.all_cons,inMV (rowsC_isV _),inMV (v_sC _),inMV (v_v _)];rfl)) (fun _=>ClE.of rfl) [(1,100),(3,140),(5,5)] ?_ ?_
 ·exact⟨rfl,trivial,⟨rfl,rfl,rfl,rfl,rfl,trivial⟩,⟨.inr ⟨_,rfl,.inl (renV (v_v _))⟩,.inr ⟨_,rfl,.inl rfl⟩,.inr ⟨_,rfl,.inl (renV (rowsC_isV _))⟩,trivial⟩⟩
 rintro⟨⟨i,a⟩,hi,hal,hxx⟩ J hj
 simp only at hj hi hal hxx⊢
 refine Sm.go 150 ?_
 refine vv ?_
 refine mtch (fun hc=>?_) (fun hc=>?_)
 ·have hc:=lt_of_dec hc
  have htk:=rows_take (r:=BlL.r) (k:=6) (fun _=>rfl) x.d.bls i hc
  rw[List.drop_eq_getElem_cons hc,List.map_cons,satG]at hxx
  generalize x.d.bls[i]=b at*
  simp(maxSteps:=2000000) only[go_sem,htk,zb]
  refine⟨⟨by omega,by omega⟩,by omega,?_⟩
  have hcon:=containsS arL 8 (by decide) (by decide) b.c.kd
  rw[show arL.take 8=arL from rfl]at hcon
  refine CallQ.ren [(1,151)] 160 hcon (ClM.v rfl) rfl rfl ⟨⟨_,rfl,.inr ⟨rfl,[],rfl⟩⟩,trivial⟩ rfl (.inr rfl) ?_
  cases hk:arL.contains b.c.kd with
  |false=>
   rw[hk,cond_false,cond_false]at hxx
   simp(maxSteps:=2000000) only[go_sem,wS (show i≤1000000000000000000 by omega)]
   exact hj _ _ ⟨(i+1,a),hc,by simp only;omega,hxx⟩ [(1,1),(3,3),(5,5)] (by simp only;omega) ⟨rfl,trivial,⟨rfl,rfl,rfl,rfl,rfl,trivial⟩,⟨.inr ⟨_,rfl,.inl (renV (v_v _))⟩,.inr ⟨_,rfl,.inl (renV (v_sC _))⟩,.inr ⟨_,rfl,.inl (renV (rowsC_isV _))⟩,trivial⟩⟩
  |true=>
  rw[hk,cond_true]at hxx
  refine vv ?_
  rw[hcr]
  refine vv ?_
  refine CallQ.h 170 (hsig b.c.nm) hH rfl ?_
  generalize hg:(sgQ x.sg b.c.nm).getD sg0=g at*
  have hlim:=lims g.ty
  refine vv ?_
  refine CallQ.pure 180 hlim rfl ?_
  have hsb:satB g=(bif decide (g.r.1≤(bif fok g.ty then flo g.ty else 0))then true else decide ((bif fok g.ty then fhi g.ty else 0)≤g.r.2)):=rfl
  rw[hsb]at hxx
  generalize (bif fok g.ty then flo g.ty else 0)=lo at*
  generalize (bif fok g.ty then fhi g.ty else 0)=hi2 at*
  refine vv ?_
  refine mtch (fun hd=>?_) (fun hd=>?_)
  ·rw[hd,cond_true]at hxx
   have hlm:(a.map sC).length=a.length:=List.length_map _
   have hta:List.take a.length (a.map sC)++[sC b.c.nm]=(a++[b.c.nm]).map sC:=by
    rw[List.take_of_length_le (by omega),List.map_append];rfl
   simp(maxSteps:=2000000) only[go_sem,hta,hlm,wS (show i≤1000000000000000000 by omega)]
   refine⟨⟨by omega,by omega,by omega⟩,?_⟩
   refine Sm.go 200 ?_
   simp(maxSteps:=2000000) only[go_sem,hta,hlm,wS (show i≤1000000000000000000 by omega)]
   rw[show a.length+1=(a++[b.c.nm]).length by simp]
   exact hj _ _ ⟨(i+1,a++[b.c.nm]),hc,by simp only[List.length_append,List.length_cons,List.length_nil];omega,by rw[List.append_assoc];exact hxx⟩ [(1,1),(3,181),(5,5)] (by simp only;omega) ⟨rfl,trivial,⟨rfl,rfl,rfl,rfl,rfl,trivial⟩,⟨.inr ⟨_,rfl,.inl (renV (v_v _))⟩,.inr ⟨_,rfl,.inl (renV (v_sC _))⟩,.inr ⟨_,rfl,.inl (renV (rowsC_isV _))⟩,trivial⟩⟩
  ·rw[hd,cond_false]at hxx
   simp(maxSteps:=2000000) only[go_sem,wS (show i≤1000000000000000000 by omega)]
   exact hj _ _ ⟨(i+1,a),hc,by simp only;omega,hxx⟩ [(1,1),(3,3),(5,5)] (by simp only;omega) ⟨rfl,trivial,⟨rfl,rfl,rfl,rfl,rfl,trivial⟩,⟨.inr ⟨_,rfl,.inl (renV (v_v _))⟩,.inr ⟨_,rfl,.inl (renV (v_sC _))⟩,.inr ⟨_,rfl,.inl (renV (rowsC_isV _))⟩,trivial⟩⟩
 ·have hc:=eq_of_dec hi hc
  rw[hc,List.drop_length]at hxx
  have hxx:a++[]=Q:=hxx
  rw[List.append_nil]at hxx
  subst hxx
  exact RetQ.ren [(1,3)] hR hP rfl scc rfl rfl trivial ⟨.inr ⟨_,rfl,.inl (renV (v_sC _))⟩,trivial⟩ (ClM.of (by simp only[List.cons_append,List.nil_append,List.all_cons,inMV (v_sC _),inMV (rowsC_isV _),inMV (v_v _)];rfl)) (ClV.of rfl)
end Go.Proofs.YtkciabfilokfiaaGreat.Fx
