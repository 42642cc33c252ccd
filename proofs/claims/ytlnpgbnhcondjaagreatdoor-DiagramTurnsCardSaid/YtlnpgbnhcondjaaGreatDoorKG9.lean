/-  -/
import Derived.Test.YtlnpgbnhcondjaaGreatDoorShB
import Derived.Test.YtlnpgbnhcondjaaGreatDoorYC
import Derived.Test.YtlnpgbnhcondjaaGreatDoorX7
import Derived.Test.YtlnpgbnhcondjaaGreatDoorWD
import Derived.Test.YtlnpgbnhcondjaaGreatDoorMB
import Derived.Test.YtlnpgbnhcondjaaGreatDoorTf
import Derived.Test.YtlnpgbnhcondjaaGreatDoorRows
import Derived.Test.YtlnpgbnhcondjaaGreatDoorY9
import Derived.LaidMore
import Derived.LaidSub
import Derived.LaidLaws
import Derived.Lib.LaidTab
import Derived.Lay
import Derived.Test.YtlnpgbnhcondjaaGreatDoorX5
import Derived.Test.YtlnpgbnhcondjaaGreatDoorY0
import Derived.SevenTiedAt
import Derived.Stop.Joined
namespace Go.Proofs.YtlnpgbnhcondjaaGreatDoor.Fx
open Vg Tf
set_option linter.unusedSimpArgs false
set_option linter.unusedVariables false
set_option maxRecDepth 100000
set_option maxHeartbeats 4000000
theorem containsH {H:Hp}(s:Sv)(l:List Str)(hs:SlH H (vsl s l.length) 1 (strsR l))(hl:l.length≤1000000000000000)(x:Str):CallH H Tryz.prog 43 [.c (.v (vsl s l.length)),S x] (Bo (l.contains x)):=by
 have hM:ClM [bSs 1 l]:=ClM.v (by simp only[List.all_cons,v_sC];rfl)
 refine CallH.mkS Tryz.func43 rfl en43 (by simp[Tryz.ntmps43]) (ClA.of rfl) fun C hR hP hH hL=>?_
 refine Sm.bringS 1 9 0 (hs.mono hH) rfl rfl ?_
 refine Sm.go 110 ?_
 refine vv ?_
 refine CallQ.mi 120 (indexS l l.length (Nat.le_refl _) hl x) hM ⟨oS,trivial⟩ ?_
 refine vv ?_
 refine RetQ.bool (hR C hL) rfl ⟨rfl,trivial⟩ ?_
 rw[List.take_length,←any_contains,←ixF_any (fun y=>x==y) l 0 (by omega)]
theorem turns1_ {H:Hp}(a b:Sv)(l:List Int)(ha:SlH H (vsl a l.length) 1 (intsR l))(hb:SlH H (vsl b l.length) 1 (intsR l))(hl:l.length≤1000000000000000):CallH H Tryz.prog 44 [.c (.v (vsl a l.length)),.c (.v (vsl b l.length))] (Bo true):=by
 refine CallH.mkS Tryz.func44 rfl en44 (by simp[Tryz.ntmps44]) (ClA.of rfl) fun C hR hP hH hL=>?_
 refine Sm.go 100 ?_
 refine vv ?_
 refine CallQ.h 110 (eqJs_ a b l ha hb hl) hH rfl ?_
 refine vv ?_
 exact RetQ.bool (hR C hL) rfl ⟨rfl,trivial⟩ rfl
theorem PwR.mono {H H':Hp}(h:H.le H')(k:PwR H):PwR H':=by
 obtain⟨el,mk,hc⟩:=k
 exact⟨el,mk,h _ _ hc⟩
theorem d0_bad:dgOk d0=false:=by decide
theorem turns_ {H:Hp}(hE:ErR H)(hW:PwR H)(d:DgL)(o:d.ok H)(hs:d.sm)(f t:Str):CallH H Tryz.prog 9 [rowV d.r,S f,S t] (Bo true):=by
 refine CallH.mkS Tryz.func9 rfl en9 (by simp[Tryz.ntmps9]) (ClA.of rfl) fun C hR hP hH hL=>?_
 refine Sm.go 100 ?_
 refine vv ?_
 refine CallQ.h 110 (awake_ hE) hH rfl ?_
 refine vv ?_
 refine CallQ.h 120 (few_ d o hs) hH rfl ?_
 refine vv ?_
 generalize fewB d=B0 at*
 refine mtch (fun hc=>?_) (fun hc=>?_)
 ·exact RetQ.bool (hR C hL) rfl ⟨rfl,trivial⟩ rfl
 have hc2:t.length≤60∧f.length≤60:=by
  cases h:decide (60<(t.length:Int))with
  |false=>
   cases h2:decide (60<(f.length:Int))with
   |false=>have:=of_decide_eq_false h;have:=of_decide_eq_false h2;omega
   |true=>
    rw[h2]at hc
    revert hc
    cases B0<;>intro hc<;>cases hc
  |true=>
   rw[h]at hc
   revert hc
   cases B0<;>cases decide (60<(f.length:Int))<;>intro hc<;>cases hc
 refine CallQ.x 130 hL (rename_ d o hs f t (by omega)) hH (SubS.sub trivial) ClM.nil (fun _=>Fresh.of rfl) rfl rfl rfl (fun x C1 H1 l1 k1 j1 p1=>?_)
 have hcr:x.r.map Cv.v=[.v (sv x.nm),.v (vsl x.ty x.tys.length),.v (vsl x.cu x.cus.length),.v (vsl x.ma x.mas.length),.v (vsl x.i x.ins.length),.v (vsl x.bl x.bls.length),.v (vsl x.ou x.ous.length)]:=rfl
 rw[hcr]
 have h1:=hH.trans k1
 have hsx:=(sm_ok (ren_sm p1.1)).1
 have hox:=p1.2.mono j1
 simp(maxSteps:=2000000) only[go_sem,bne]
 rcases ren_cases d.c f t with⟨hr1,hr2⟩|⟨hr1,hr2,hr3,hr4,hr5⟩
 ·have hxe:((renQ d.c f t).2==0)=false:=beq_eq_false_iff_ne.2 hr1
  have hxc:x.c=d0:=by rw[p1.1,hr2];rfl
  have hv:=dvalid (H:=C1.hp) x hox hsx
  rw[hxc,d0_bad]at hv
  simp(maxSteps:=2000000) only[go_sem,hxe]
  refine CallQ.h 140 hv (Hp.le.refl _) rfl ?_
  refine vv ?_
  exact RetQ.bool (hR C1 l1) rfl ⟨rfl,trivial⟩ rfl
 have hxe:((renQ d.c f t).2==0)=true:=by rw[hr1];rfl
 have hxc:x.c=renD d.c f t:=by rw[p1.1,hr1]
 rw[hr1]
 simp(maxSteps:=2000000) only[go_sem,hxe,beq_self_eq_true]
 refine Sm.bringR 5 82 43 (o.bl.mono h1) rfl rfl ?_
 have nb:(d.bls.map BlL.r).length=d.bls.length:=List.length_map _
 rw[nb]
 have hbl:=hs.bls.1
 have cD:∀y:DgL,(([.v (sv y.nm),.v (vsl y.ty y.tys.length),.v (vsl y.cu y.cus.length),.v (vsl y.ma y.mas.length),.v (vsl y.i y.ins.length),.v (vsl y.bl y.bls.length),.v (vsl y.ou y.ous.length)]:List Cv)).all Cv.isV=true:=fun y=>rfl
 refine Sm.loopM (M0:=[]) (α:={i:Nat//i≤d.bls.length∧∀b∈d.bls.take i,t∉b.c.ins}) (l1.pins hP) (fun i=>[(1,true,S f),(2,true,S t),(3,true,.c (.p 100 0)),(7,true,.c (.p 130 0)),(43,true,.c (.sl 5 0 d.bls.length 6)),(44,true,I d.bls.length),(45,true,I i.val)])
  (fun _=>[(100,⟨false,[.v (sv d.nm),.v (vsl d.ty d.tys.length),.v (vsl d.cu d.cus.length),.v (vsl d.ma d.mas.length),.v (vsl d.i d.ins.length),.v (vsl d.bl d.bls.length),.v (vsl d.ou d.ous.length)],30⟩),(130,⟨false,[.v (sv x.nm),.v (vsl x.ty x.tys.length),.v (vsl x.cu x.cus.length),.v (vsl x.ma x.mas.length),.v (vsl x.i x.ins.length),.v (vsl x.bl x.bls.length),.v (vsl x.ou x.ous.length)],30⟩),(5,⟨true,rowsC (d.bls.map BlL.r),82⟩)])
  (fun i=>d.bls.length-i.val) ⟨0,by omega,fun b hb=>by simp at hb⟩ (fun _=>ClM.of (by simp only[List.all_cons,inMV (rowsC_isV _)];rfl)) (fun _=>ClE.of rfl) [(100,100),(130,130),(5,5)] ?_ ?_
 ·exact⟨rfl,trivial,⟨rfl,rfl,rfl,rfl,rfl,rfl,rfl,trivial⟩,⟨oR,oR,oV (renV (rowsC_isV _)),trivial⟩⟩
 rintro⟨i,hi,hx⟩ J hj
 simp only at hj hi hx⊢
 refine Sm.go 150 ?_
 refine vv ?_
 refine mtch (fun hc=>?_) (fun hc=>?_)
 ·have hc:=lt_of_dec hc
  have ga:=rows_take (r:=BlL.r) (k:=6) (fun _=>rfl) d.bls i hc
  have za:=rows_len (r:=BlL.r) (k:=6) (fun _=>rfl) d.bls
  have hmem:d.bls[i]∈d.bls:=List.getElem_mem hc
  have hbi:=(o.bls _ hmem).i
  have hbn:=(hs.bls.2 _ hmem).2.2.2.1
  have hnx:d.bls[i].c.ins.contains t=false→∀b∈d.bls.take (i+1),t∉b.c.ins:=fun hq b hb=>by
   rw[List.take_succ_eq_append_getElem hc]at hb
   rcases List.mem_append.1 hb with hb|hb
   ·exact hx b hb
   ·rw[List.mem_singleton]at hb
    subst hb
    intro hm
    rw[List.contains_iff_mem.2 hm]at hq;cases hq
  generalize d.bls[i]=b at*
  simp(maxSteps:=2000000) only[go_sem,ga,za]
  refine⟨⟨by omega,by omega⟩,by omega,?_⟩
  refine CallQ.h 160 (containsH b.i b.c.ins hbi hbn t) h1 rfl ?_
  cases hct:b.c.ins.contains t with
  |true=>
   refine vv ?_
   exact RetQ.bool (hR C1 l1) rfl ⟨rfl,trivial⟩ rfl
  |false=>
   simp(maxSteps:=2000000) only[go_sem,wS (show i≤1000000000000000000 by omega)]
   exact hj _ _ ⟨i+1,hc,hnx hct⟩ [(100,100),(130,130),(5,5)] (by simp only;omega) ⟨rfl,trivial,⟨rfl,rfl,rfl,rfl,rfl,rfl,rfl,trivial⟩,⟨oR,oR,oV (renV (rowsC_isV _)),trivial⟩⟩
 have hc:=eq_of_dec hi hc
 rw[hc,List.take_length]at hx
 clear hj
 refine vv ?_
 refine CallQ.h 170 (containsH d.ou d.ous o.ou hs.ous.1 t) h1 rfl ?_
 cases hct:d.ous.contains t with
 |true=>
  refine vv ?_
  exact RetQ.bool (hR C1 l1) rfl ⟨rfl,trivial⟩ rfl
 |false=>
 have K:TnOk d.c f t:=⟨hr2,hr3,hr4,hr5,fun b hb=>by
  obtain⟨b0,hb0,rfl⟩:=List.mem_map.1 hb
  exact hx b0 hb0,fun hm=>by
  have hm:t∈d.ous:=hm
  rw[List.contains_iff_mem.2 hm]at hct;cases hct⟩
 refine vv ?_
 refine Sm.dgoY [] 180 1 mix (by decide+kernel) (by decide+kernel) ?_
 simp(maxSteps:=2000000) only[go_sem,Mem.wo]
 refine XY.x 190 l1 (uses_ d o hs) h1 trivial ClM.nil rfl (fun _=>rfl) (fun _=>rfl) (fun u C2 H2 l2 k2 j2 p2=>?_)
 refine vv ?_
 refine CallQ.x 200 l2 (uses_ x hox hsx) k2 (SubS.sub trivial) ClM.nil (fun _=>Fresh.of rfl) rfl rfl rfl (fun w C3 H3 l3 k3 j3 p3=>?_)
 refine vv ?_
 refine CallQ.x 210 l3 (rename_ x hox hsx t f (by omega)) (k2.trans k3) (SubS.sub trivial) ClM.nil (fun _=>Fresh.of rfl) rfl rfl rfl (fun y C4 H4 l4 k4 j4 p4=>?_)
 have hcr2:y.r.map Cv.v=[.v (sv y.nm),.v (vsl y.ty y.tys.length),.v (vsl y.cu y.cus.length),.v (vsl y.ma y.mas.length),.v (vsl y.i y.ins.length),.v (vsl y.bl y.bls.length),.v (vsl y.ou y.ous.length)]:=rfl
 have hrb:renQ x.c t f=(d.c,0):=by rw[hxc];exact K.renB
 rw[hcr2,hrb]
 rw[hrb]at p4
 have hyc:y.c=d.c:=p4.1
 have hoy:=p4.2.mono j4
 have hsy:=(sm_ok (a:=y) (.inr (by rw[hyc];exact hr2))).1
 have kx:C1.hp.le C4.hp:=(k2.trans k3).trans k4
 have kd:H.le C4.hp:=h1.trans kx
 have hxk:dgOk x.c=true:=by rw[hxc];exact ren_ok hr2 hr3
 have q1:=dvalid (H:=C1.hp) x hox hsx
 rw[hxk]at q1
 have hou:=((p2.2.mono j2).mono k3).mono k4
 have how:=(p3.2.mono j3).mono k4
 have huw:u.c=w.c:=by
  rw[p2.1,p3.1]
  unfold usQ
  rw[hr2,hxk,hxc,K.uses]
 have hlu:u.z.length≤200:=by have:=congrArg List.length p2.1;simp only[ZL.c,List.length_map]at this;rw[this];exact usq_len
 have q2:=eqfZ u w hou how huw (by omega) 44 (fun a b ha hb he=>by
  have e1:=hou.e a ha
  have e2:=how.e b hb
  have hl:a.2.length≤3:=usq_bd (d:=d.c) a.2 (by rw[←p2.1];exact List.mem_map.2 ⟨a,ha,rfl⟩)
  rw[←he]at e2⊢
  exact turns1_ _ _ _ e1 e2 (by omega))
 have q3:=pfind_ (H:=C1.hp) x hox t (by have:=hsx.ins.1;omega) (by have:=hsx.bls.1;omega)
 have q4:=pfind_ (H:=H) d o f (by have:=hs.ins.1;omega) (by have:=hs.bls.1;omega)
 have q5:=pfind_ (H:=C1.hp) x hox f (by have:=hsx.ins.1;omega) (by have:=hsx.bls.1;omega)
 rw[hxc,K.find]at q3
 rw[hxc,K.gone]at q5
 have q6:=eqD_ (H:=C4.hp) (hW.mono kd) y d hoy (o.mono kd) hsy hs
 rw[hyc,dgEq_self hr2]at q6
 refine vv ?_
 refine Sm.dg 220 29 mix ?_
 refine vv ?_
 refine DCallQ.h 230 (fun _=>q1) kx (fun _=>rfl) ?_
 refine vv ?_
 refine DCallQ.h 240 (fun _=>q2) (Hp.le.refl _) (fun _=>rfl) ?_
 refine vv ?_
 refine DCallQ.h 250 (fun _=>q3) kx (fun _=>rfl) ?_
 refine vv ?_
 refine DCallQ.h 260 (fun _=>q4) kd (fun _=>rfl) ?_
 simp(maxSteps:=2000000) only[go_sem,beq_self_eq_true]
 refine DCallQ.h 270 (fun _=>q5) kx (fun _=>rfl) ?_
 simp(maxSteps:=2000000) only[go_sem,beq_self_eq_true]
 refine CallQ.h 280 q6 (Hp.le.refl _) rfl ?_
 refine vv ?_
 exact RetQ.bool (hR C4 (l4)) rfl ⟨rfl,trivial⟩ rfl
end Go.Proofs.YtlnpgbnhcondjaaGreatDoor.Fx
namespace Go.Proofs.YtlnpgbnhcondjaaGreatDoor
open Go.ChangeShapes Go.WideShapes Go.ChangeAt Go.RowKit
open Vg Tf
set_option linter.unusedSimpArgs false
set_option linter.unusedVariables false
set_option maxRecDepth 100000
theorem own:ownKnob Tryz.prog.godebug=none:=by kernel_rfl
theorem laidOut:laidOutB Tryz.prog=true:=by kernel_rfl
theorem fmr:mapsRowed Tryz.pinned.checked.prog=true:=by kernel_rfl
theorem flo:laidOutB Tryz.pinned.checked.prog=true:=by kernel_rfl
theorem fsh:Tryz.pinned.checked.prog.stopsHeard=true:=by kernel_rfl
theorem fme:Tryz.pinned.checked.prog.mayEnter=true:=by kernel_rfl
end Go.Proofs.YtlnpgbnhcondjaaGreatDoor
namespace Go.Proofs.YtlnpgbnhcondjaaGreatDoor
open Go.ChangeShapes Go.WideShapes Go.ChangeAt Go.RowKit
open Vg Tf Fx
set_option linter.unusedSimpArgs false
set_option linter.unusedVariables false
set_option maxRecDepth 100000
theorem leafS {x:Cv}(h:okL [.s] [x]=true)(hb:bdC x):∃l:List UInt8,x= .v (.string ⟨l.toArray⟩)∧l.length≤9223372036854775807:=by
 obtain⟨n,y,e,_⟩:=okL_s h
 obtain rfl:=(List.cons.inj e).1
 refine⟨n.data.toList,?_,?_⟩
 ·simp
 ·have:n.size≤maxLen:=hb
  have e:n.data.toList.length=n.size:=by rw[Array.length_toList];rfl
  unfold maxLen at this
  omega
theorem er_of {W:World}(h:laidMetH Tryz.prog [("strconv.ErrRange",Rows.laid_strconv_ErrRange)] W):ErR (hpW W):=by
 rw[MakeChecks.laidMetH_plain _ _ _ (by kernel_rfl)]at h
 obtain⟨ps,⟨g',t',cs,fuel,p,q,hg',ht',hvar,hd,_,_⟩,_⟩:=h
 have hg:Tryz.prog.globalNamed "strconv.ErrRange" =some 6:=by kernel_rfl
 obtain rfl:=Option.some.inj (hg.symm.trans hg')
 have hty:(Tryz.prog.globals[6]?).map (·.type)=some 59:=by kernel_rfl
 obtain rfl:=Option.some.inj (hty.symm.trans ht')
 obtain⟨_,u,v,hcs,_,_⟩:=Go.iface_of_trod (Tryz.underlying59) hd
 have hcs2:cs= #[.iface u v]:=by
  apply Array.toList_inj.1
  rw[hcs]
 subst hcs2
 obtain⟨el,mk,hb⟩:=GlW.of_var (cs:=[.iface u v]) hg hvar
 exact⟨.iface u v,el,mk,hb,.inr ⟨u,v,rfl⟩⟩
theorem pow_of {W:World}(h:laidMetH Tryz.prog [("internal/strconv.uint64pow10",Rows.laid_internal_strconv_uint64pow10)] W):PwR (hpW W):=by
 rw[MakeChecks.laidMetH_plain _ _ _ (by kernel_rfl)]at h
 have hg:Tryz.prog.globalNamed "internal/strconv.uint64pow10" =some 7:=by kernel_rfl
 have ht:Lib.TabIs Tryz.prog W "internal/strconv.uint64pow10" .u64 Lib.pow10Tab:=Lib.tabIs_of_head (rest:=[]) hg (show(Tryz.prog.globals[7]?).map (·.type)=some 315 by kernel_rfl) Tryz.underlying315 Tryz.underlying12 (by kernel_rfl) (by kernel_rfl) h
 exact GlW.of_var hg ht
end Go.Proofs.YtlnpgbnhcondjaaGreatDoor
namespace Go.Proofs.YtlnpgbnhcondjaaGreatDoor.Fx
open Go.ChangeShapes Go.WideShapes Go.ChangeAt Go.RowKit
open Vg Tf
set_option linter.unusedSimpArgs false
set_option linter.unusedVariables false
set_option maxRecDepth 100000
section
variable {H:Type} {enc:TypeId×Value→H} {w:World} {base:Nat} {spare:Nat→Bool} {held:Bool}
theorem lc_cons {k:Lc}{ks:List Lc}{r:List Value}(h:cellsLc enc Tryz.prog w base spare held (k::ks) r):∃v vs,r=v::vs∧cellLc enc Tryz.prog w base spare held k v∧cellsLc enc Tryz.prog w base spare held ks vs:=by
 cases r with
 |nil=>exact h.elim
 |cons v vs=>exact⟨v,vs,rfl,h.1,h.2⟩
theorem lc_nil {r:List Value}(h:cellsLc enc Tryz.prog w base spare held [] r):r=[]:=by
 cases r with
 |nil=>rfl
 |cons v vs=>exact h.elim
theorem lc_s {v:Value}(h:cellLc enc Tryz.prog w base spare held .s v):∃s:Str,v=sv s∧s.length≤1000000000000000:=by
 obtain⟨x,rfl,hx⟩:=h
 exact⟨x.data.toList,by simp,Nat.le_trans hx (by decide)⟩
theorem rowsEx {α:Type}{f:α→List Value}{p:α→Prop}:∀{rows:List (List Value)},(∀r∈rows,∃a,r=f a∧p a)→∃l:List α,rows=l.map f∧∀a∈l,p a
 |[],_=>⟨[],rfl,by simp⟩
 |r::rows,h=>by
  obtain⟨l,rfl,hl⟩:=rowsEx (f:=f) (p:=p) (rows:=rows) (fun x hx=>h x (List.mem_cons_of_mem _ hx))
  obtain⟨a,rfl,ha⟩:=h r (by simp)
  exact⟨a::l,rfl,fun x hx=>by rcases List.mem_cons.1 hx with rfl|hx;exact ha;exact hl x hx⟩
theorem _root_.Go.Proofs.YtlnpgbnhcondjaaGreatDoor.Vg.SlH.vsl {H:Hp}{v:Value}{sz:Nat}{rows:List (List Value)}(h:SlH H v sz rows):∃s:Sv,v=vsl s rows.length:=by
 obtain⟨l,h1,_⟩:=h
 rw[h1]
 simp only[Cv.g]
 split
 ·rename_i hh
  rw[hh.2]
  unfold Loc.emp
  split
  ·exact⟨⟨none,0⟩,rfl⟩
  ·exact⟨⟨some _,_⟩,rfl⟩
 ·exact⟨⟨some _,_⟩,rfl⟩
theorem lcI:lcOf Tryz.prog 20 3=some [.i .i64]:=by kernel_rfl
theorem lcS:lcOf Tryz.prog 20 9=some [.s]:=by kernel_rfl
theorem lcZ:lcOf Tryz.prog 20 73=some [.l 73]:=by kernel_rfl
theorem lcT:lcOf Tryz.prog 20 93=some [.s,.i .i64,.b,.i .i64,.i .i64,.i .i64,.i .i64,.i .i64,.i .i64,.i .i64,.i .i64]:=by kernel_rfl
theorem lcC:lcOf Tryz.prog 20 110=some [.s,.l 73,.l 73]:=by kernel_rfl
theorem lcM:lcOf Tryz.prog 20 115=some [.s,.l 73,.l 73,.l 70]:=by kernel_rfl
theorem lcP:lcOf Tryz.prog 20 118=some [.s,.s,.i .i64,.i .i64]:=by kernel_rfl
theorem lcB:lcOf Tryz.prog 20 82=some [.s,.s,.s,.l 28,.s,.l 73]:=by kernel_rfl
theorem lcD:lcOf Tryz.prog 20 30=some [.s,.l 23,.l 24,.l 25,.l 26,.l 27,.l 28]:=by kernel_rfl
theorem byI:1≤Tryz.prog.bytesOf 3:=by decide+kernel
theorem byS:1≤Tryz.prog.bytesOf 9:=by decide+kernel
theorem byZ:1≤Tryz.prog.bytesOf 73:=by decide+kernel
theorem byT:1≤Tryz.prog.bytesOf 93:=by decide+kernel
theorem byC:1≤Tryz.prog.bytesOf 110:=by decide+kernel
theorem byM:1≤Tryz.prog.bytesOf 115:=by decide+kernel
theorem byP:1≤Tryz.prog.bytesOf 118:=by decide+kernel
theorem byB:1≤Tryz.prog.bytesOf 82:=by decide+kernel
theorem len_of {n b:Nat}(hb:1≤b)(h:n*b≤reachBytes):n≤1000000000000000:=by
 have h1:n≤n*b:=Nat.le_mul_of_pos_right n hb
 have h2:reachBytes≤1000000000000000:=by decide
 omega
theorem op_ints {v:Value}(h:cellLc enc Tryz.prog w base spare held (.l 73) v):∃(s:Sv) (l:List Int),v=vsl s l.length∧SlH (hpW w) (vsl s l.length) 1 (intsR l)∧l.length≤1000000000000000:=by
 obtain⟨rows,h1,h2,h3⟩:=open_slW Tryz.underlying73 lcI sz3 (by simp) h
 obtain⟨l,rfl,_⟩:=rowsEx (f:=fun n:Int=>[iv n]) (p:=fun _=>True) (rows:=rows) (fun r hr=>by
  obtain⟨v,vs,rfl,⟨n,rfl,_⟩,q1⟩:=lc_cons (h2 r hr)
  obtain rfl:=lc_nil q1
  exact⟨n,rfl,trivial⟩)
 obtain⟨s,rfl⟩:=h1.vsl
 have e:(l.map fun n:Int=>[iv n]).length=l.length:=List.length_map _
 rw[e]at h1 h3
 exact⟨s,l,by rw[e],h1,len_of byI h3⟩
theorem op_strs {v:Value}(h:cellLc enc Tryz.prog w base spare held (.l 28) v):∃(s:Sv) (l:List Str),v=vsl s l.length∧SlH (hpW w) (vsl s l.length) 1 (strsR l)∧l.length≤1000000000000000∧∀x∈l,x.length≤1000000000000000:=by
 obtain⟨rows,h1,h2,h3⟩:=open_slW Tryz.underlying28 lcS sz9 (by simp) h
 obtain⟨l,rfl,hl⟩:=rowsEx (f:=fun s:Str=>[sv s]) (p:=fun s=>s.length≤1000000000000000) (rows:=rows) (fun r hr=>by
  obtain⟨v,vs,rfl,hv,q2⟩:=lc_cons (h2 r hr)
  obtain rfl:=lc_nil q2
  obtain⟨s,rfl,hs⟩:=lc_s hv
  exact⟨s,rfl,hs⟩)
 obtain⟨s,rfl⟩:=h1.vsl
 have e:(l.map fun s:Str=>[sv s]).length=l.length:=List.length_map _
 rw[e]at h1 h3
 exact⟨s,l,by rw[e],h1,len_of byS h3,hl⟩
theorem op_tys {v:Value}(h:cellLc enc Tryz.prog w base spare held (.l 23) v):∃(s:Sv) (l:List Td),v=vsl s l.length∧SlH (hpW w) (vsl s l.length) 11 (l.map Td.r)∧l.length≤1000000000000000∧∀x∈l,x.nm.length≤1000000000000000:=by
 obtain⟨rows,h1,h2,h3⟩:=open_slW Tryz.underlying23 lcT sz93 (by simp) h
 obtain⟨l,rfl,hl⟩:=rowsEx (f:=Td.r) (p:=fun s=>s.nm.length≤1000000000000000) (rows:=rows) (fun r hr=>by
  obtain⟨v,vs,rfl,hv,q3⟩:=lc_cons (h2 r hr)
  obtain⟨s,rfl,hs⟩:=lc_s hv
  obtain⟨_,vs,rfl,⟨n0,rfl,_⟩,q4⟩:=lc_cons q3
  obtain⟨_,vs,rfl,⟨n1,rfl⟩,q5⟩:=lc_cons q4
  obtain⟨_,vs,rfl,⟨n2,rfl,_⟩,q6⟩:=lc_cons q5
  obtain⟨_,vs,rfl,⟨n3,rfl,_⟩,q7⟩:=lc_cons q6
  obtain⟨_,vs,rfl,⟨n4,rfl,_⟩,q8⟩:=lc_cons q7
  obtain⟨_,vs,rfl,⟨n5,rfl,_⟩,q9⟩:=lc_cons q8
  obtain⟨_,vs,rfl,⟨n6,rfl,_⟩,q10⟩:=lc_cons q9
  obtain⟨_,vs,rfl,⟨n7,rfl,_⟩,q11⟩:=lc_cons q10
  obtain⟨_,vs,rfl,⟨n8,rfl,_⟩,q12⟩:=lc_cons q11
  obtain⟨_,vs,rfl,⟨n9,rfl,_⟩,q13⟩:=lc_cons q12
  obtain rfl:=lc_nil q13
  exact⟨⟨s,⟨n0,n1,n2,n3,n4,n5,n6,n7,n8,n9⟩⟩,rfl,hs⟩)
 obtain⟨s,rfl⟩:=h1.vsl
 have e:(l.map Td.r).length=l.length:=List.length_map _
 rw[e]at h1 h3
 exact⟨s,l,by rw[e],h1,len_of byT h3,hl⟩
theorem op_cus {v:Value}(h:cellLc enc Tryz.prog w base spare held (.l 24) v):∃(s:Sv) (l:List CuL),v=vsl s l.length∧SlH (hpW w) (vsl s l.length) 3 (l.map CuL.r)∧l.length≤1000000000000000∧∀x∈l,x.ok (hpW w)∧x.c.nm.length≤1000000000000000∧x.c.xs.length≤1000000000000000∧x.c.ys.length≤1000000000000000:=by
 obtain⟨rows,h1,h2,h3⟩:=open_slW Tryz.underlying24 lcC sz110 (by simp) h
 obtain⟨l,rfl,hl⟩:=rowsEx (f:=CuL.r) (p:=fun x=>x.ok (hpW w)∧x.c.nm.length≤1000000000000000∧x.c.xs.length≤1000000000000000∧x.c.ys.length≤1000000000000000) (rows:=rows) (fun r hr=>by
  obtain⟨v,vs,rfl,hv,q14⟩:=lc_cons (h2 r hr)
  obtain⟨s,rfl,hs⟩:=lc_s hv
  obtain⟨_,vs,rfl,hx,q15⟩:=lc_cons q14
  obtain⟨sx,xs,rfl,kx,bx⟩:=op_ints hx
  obtain⟨_,vs,rfl,hy,q16⟩:=lc_cons q15
  obtain⟨sy,ys,rfl,ky,bY⟩:=op_ints hy
  obtain rfl:=lc_nil q16
  exact⟨⟨⟨s,xs,ys⟩,sx,sy⟩,rfl,⟨kx,ky⟩,hs,bx,bY⟩)
 obtain⟨s,rfl⟩:=h1.vsl
 have e:(l.map CuL.r).length=l.length:=List.length_map _
 rw[e]at h1 h3
 exact⟨s,l,by rw[e],h1,len_of byC h3,hl⟩
theorem op_zs {v:Value}(h:cellLc enc Tryz.prog w base spare held (.l 70) v):∃(s:Sv) (l:List (Sv×List Int)),v=vsl s l.length∧SlH (hpW w) (vsl s l.length) 1 (l.map fun v=>[vsl v.1 v.2.length])∧l.length≤1000000000000000∧∀x∈l,SlH (hpW w) (vsl x.1 x.2.length) 1 (intsR x.2)∧x.2.length≤1000000000000000:=by
 obtain⟨rows,h1,h2,h3⟩:=open_slW Tryz.underlying70 lcZ sz73 (by simp) h
 obtain⟨l,rfl,hl⟩:=rowsEx (f:=fun v:Sv×List Int=>[vsl v.1 v.2.length]) (p:=fun x=>SlH (hpW w) (vsl x.1 x.2.length) 1 (intsR x.2)∧x.2.length≤1000000000000000) (rows:=rows) (fun r hr=>by
  obtain⟨v,vs,rfl,hx,q17⟩:=lc_cons (h2 r hr)
  obtain⟨sx,xs,rfl,kx,bx⟩:=op_ints hx
  obtain rfl:=lc_nil q17
  exact⟨(sx,xs),rfl,kx,bx⟩)
 obtain⟨s,rfl⟩:=h1.vsl
 have e:(l.map fun v:Sv×List Int=>[vsl v.1 v.2.length]).length=l.length:=List.length_map _
 rw[e]at h1 h3
 exact⟨s,l,by rw[e],h1,len_of byZ h3,hl⟩
theorem op_mas {v:Value}(h:cellLc enc Tryz.prog w base spare held (.l 25) v):∃(s:Sv) (l:List MpL),v=vsl s l.length∧SlH (hpW w) (vsl s l.length) 4 (l.map MpL.r)∧l.length≤1000000000000000∧∀x∈l,x.ok (hpW w)∧x.nm.length≤1000000000000000∧∀v∈x.zs,v.2.length≤1000000000000000:=by
 obtain⟨rows,h1,h2,h3⟩:=open_slW Tryz.underlying25 lcM sz115 (by simp) h
 obtain⟨l,rfl,hl⟩:=rowsEx (f:=MpL.r) (p:=fun x=>x.ok (hpW w)∧x.nm.length≤1000000000000000∧∀v∈x.zs,v.2.length≤1000000000000000) (rows:=rows) (fun r hr=>by
  obtain⟨v,vs,rfl,hv,q18⟩:=lc_cons (h2 r hr)
  obtain⟨s,rfl,hs⟩:=lc_s hv
  obtain⟨_,vs,rfl,hx,q19⟩:=lc_cons q18
  obtain⟨sx,xs,rfl,kx,bx⟩:=op_ints hx
  obtain⟨_,vs,rfl,hy,q20⟩:=lc_cons q19
  obtain⟨sy,ys,rfl,ky,bY⟩:=op_ints hy
  obtain⟨_,vs,rfl,hz,q21⟩:=lc_cons q20
  obtain⟨sz,zs,rfl,kz,bz,ez⟩:=op_zs hz
  obtain rfl:=lc_nil q21
  exact⟨⟨s,xs,ys,zs,sx,sy,sz⟩,rfl,⟨kx,ky,kz,fun v hv=>(ez v hv).1⟩,hs,fun v hv=>(ez v hv).2⟩)
 obtain⟨s,rfl⟩:=h1.vsl
 have e:(l.map MpL.r).length=l.length:=List.length_map _
 rw[e]at h1 h3
 exact⟨s,l,by rw[e],h1,len_of byM h3,hl⟩
theorem op_pos {v:Value}(h:cellLc enc Tryz.prog w base spare held (.l 26) v):∃(s:Sv) (l:List Po),v=vsl s l.length∧SlH (hpW w) (vsl s l.length) 4 (l.map Po.r)∧l.length≤1000000000000000∧∀x∈l,x.nm.length≤1000000000000000∧x.ty.length≤1000000000000000:=by
 obtain⟨rows,h1,h2,h3⟩:=open_slW Tryz.underlying26 lcP sz118 (by simp) h
 obtain⟨l,rfl,hl⟩:=rowsEx (f:=Po.r) (p:=fun x=>x.nm.length≤1000000000000000∧x.ty.length≤1000000000000000) (rows:=rows) (fun r hr=>by
  obtain⟨v,vs,rfl,hv,q22⟩:=lc_cons (h2 r hr)
  obtain⟨s,rfl,hs⟩:=lc_s hv
  obtain⟨_,vs,rfl,hv,q23⟩:=lc_cons q22
  obtain⟨s2,rfl,hs2⟩:=lc_s hv
  obtain⟨_,vs,rfl,⟨n0,rfl,_⟩,q24⟩:=lc_cons q23
  obtain⟨_,vs,rfl,⟨n1,rfl,_⟩,q25⟩:=lc_cons q24
  obtain rfl:=lc_nil q25
  exact⟨⟨s,s2,n0,n1⟩,rfl,hs,hs2⟩)
 obtain⟨s,rfl⟩:=h1.vsl
 have e:(l.map Po.r).length=l.length:=List.length_map _
 rw[e]at h1 h3
 exact⟨s,l,by rw[e],h1,len_of byP h3,hl⟩
theorem op_bls {v:Value}(h:cellLc enc Tryz.prog w base spare held (.l 27) v):∃(s:Sv) (l:List BlL),v=vsl s l.length∧SlH (hpW w) (vsl s l.length) 6 (l.map BlL.r)∧l.length≤1000000000000000∧∀b∈l,b.ok (hpW w)∧b.c.nm.length≤1000000000000000∧b.c.ty.length≤1000000000000000∧b.c.tb.length≤1000000000000000∧b.c.ins.length≤1000000000000000∧b.c.ks.length≤1000000000000000∧∀s∈b.c.ins,s.length≤1000000000000000:=by
 obtain⟨rows,h1,h2,h3⟩:=open_slW Tryz.underlying27 lcB sz82 (by simp) h
 obtain⟨l,rfl,hl⟩:=rowsEx (f:=BlL.r) (p:=fun b=>b.ok (hpW w)∧b.c.nm.length≤1000000000000000∧b.c.ty.length≤1000000000000000∧b.c.tb.length≤1000000000000000∧b.c.ins.length≤1000000000000000∧b.c.ks.length≤1000000000000000∧∀s∈b.c.ins,s.length≤1000000000000000) (rows:=rows) (fun r hr=>by
  obtain⟨v,vs,rfl,hv,q26⟩:=lc_cons (h2 r hr)
  obtain⟨s,rfl,hs⟩:=lc_s hv
  obtain⟨_,vs,rfl,hv,q27⟩:=lc_cons q26
  obtain⟨s2,rfl,_⟩:=lc_s hv
  obtain⟨_,vs,rfl,hv,q28⟩:=lc_cons q27
  obtain⟨s3,rfl,hs3⟩:=lc_s hv
  obtain⟨_,vs,rfl,hi,q29⟩:=lc_cons q28
  obtain⟨si,is,rfl,ki,bi,ei⟩:=op_strs hi
  obtain⟨_,vs,rfl,hv,q30⟩:=lc_cons q29
  obtain⟨s4,rfl,hs4⟩:=lc_s hv
  obtain⟨_,vs,rfl,hy,q31⟩:=lc_cons q30
  obtain⟨sy,ys,rfl,ky,bY⟩:=op_ints hy
  obtain rfl:=lc_nil q31
  exact⟨⟨⟨s,s2,s3,is,s4,ys⟩,si,sy⟩,rfl,⟨ki,ky⟩,hs,hs3,hs4,bi,bY,ei⟩)
 obtain⟨s,rfl⟩:=h1.vsl
 have e:(l.map BlL.r).length=l.length:=List.length_map _
 rw[e]at h1 h3
 exact⟨s,l,by rw[e],h1,len_of byB h3,hl⟩
theorem open_dg {v:Value}{d:DataW H}{p:List MemPlace}{r:Reach}{n0:Nat}(hv:Value.okWide Tryz.prog w r n0 30 v)(h:DataW.Trod enc Tryz.prog w base spare held 30 v d p)(hw:∀n∈d.weights Tryz.prog 30,n≤reachBytes):
  ∃D:DgL,v=(rowV D.r).g b0∧D.ok (hpW w)∧D.sm:=by
 obtain⟨cs,rfl,_,_⟩:∃cs,v= .agg cs∧cs.size=Tryz.prog.cellsOf 30∧Row.okWide Tryz.prog w r n0 30 cs:=by
  simpa only[Value.okWide,Tryz.underlying30]using hv
 obtain⟨fuel,hf⟩:=h
 have o:=open_lc 20 _ _ lcD sz30 fuel _ _ hf hw
 have hcs:(Value.agg cs).cells.toList=cs.toList:=rfl
 rw[hcs]at o
 obtain⟨v,vs,e1,hv,q32⟩:=lc_cons o
 obtain⟨s,rfl,hs⟩:=lc_s hv
 obtain⟨_,vs,rfl,h1,q33⟩:=lc_cons q32
 obtain⟨s1,l1,rfl,k1,b1,c1⟩:=op_tys h1
 obtain⟨_,vs,rfl,h2,q34⟩:=lc_cons q33
 obtain⟨s2,l2,rfl,k2,b2,c2⟩:=op_cus h2
 obtain⟨_,vs,rfl,h3,q35⟩:=lc_cons q34
 obtain⟨s3,l3,rfl,k3,b3,c3⟩:=op_mas h3
 obtain⟨_,vs,rfl,h4,q36⟩:=lc_cons q35
 obtain⟨s4,l4,rfl,k4,b4,c4⟩:=op_pos h4
 obtain⟨_,vs,rfl,h5,q37⟩:=lc_cons q36
 obtain⟨s5,l5,rfl,k5,b5,c5⟩:=op_bls h5
 obtain⟨_,vs,rfl,h6,q38⟩:=lc_cons q37
 obtain⟨s6,l6,rfl,k6,b6,c6⟩:=op_strs h6
 obtain rfl:=lc_nil q38
 refine⟨⟨s,l1,l2,l3,l4,l5,l6,s1,s2,s3,s4,s5,s6⟩,?_,⟨k1,k2,k3,k4,k5,k6,fun c hc=>(c2 c hc).1,fun c hc=>(c3 c hc).1,fun c hc=>(c5 c hc).1⟩,⟨hs,⟨b1,c1⟩,⟨b2,fun c hc=>(c2 c hc).2⟩,⟨b3,fun c hc=>(c3 c hc).2⟩,⟨b4,c4⟩,⟨b5,fun c hc=>(c5 c hc).2⟩,⟨b6,c6⟩⟩⟩
 rw[←Array.toArray_toList (xs:=cs),e1]
 rfl
end
end Go.Proofs.YtlnpgbnhcondjaaGreatDoor.Fx
namespace Go.Proofs.YtlnpgbnhcondjaaGreatDoor
open Go.ChangeShapes Go.WideShapes Go.ChangeAt Go.RowKit
open Vg Tf
set_option linter.unusedSimpArgs false
set_option linter.unusedVariables false
set_option maxRecDepth 100000
theorem fip:Tryz.pinned.checked.prog.inPlace 9=Rows.diagramTurnsRow.inPlace:=by kernel_rfl
theorem fuf:Tryz.pinned.checked.prog.unfollowed 9=Rows.diagramTurnsRow.unfollowed:=by kernel_rfl
theorem frc:Tryz.pinned.checked.prog.recurses 9=Rows.diagramTurnsRow.recurses:=by kernel_rfl
theorem fvn:Tryz.pinned.checked.prog.varsNamed 9=Rows.diagramTurnsRow.named:=by kernel_rfl
theorem closedF:joinedFacts Tryz.pinned.checked.prog 9 Tryz.f9 Rows.diagramTurnsSpec Rows.diagramTurnsRow=true:=by
 unfold joinedFacts
 rw[fip,fuf,frc,fvn,fmr,flo,fsh,fme]
 kernel_rfl
theorem ffn:Tryz.pinned.checked.prog.funcNamed Rows.diagramTurnsRow.func=some 9:=by kernel_rfl
theorem flk:true=Tryz.pinned.checked.prog.looks []:=by kernel_rfl
theorem fgo:false=Rows.diagramTurnsRow.goesBy Tryz.pinned.checked.prog:=by kernel_rfl
theorem fwf:Rows.diagramTurnsRow.wfByText (OpenSpec.ofChange Rows.diagramTurnsSpec)=true:=by kernel_rfl
theorem fmi:Tryz.pinned.checked.prog.mainIs=some (true,"0b6ddabf7654c0ddcdcd670975a67c572cc1ac03156ddf7d14c8e7ba494423dd".toList):=by kernel_rfl
end Go.Proofs.YtlnpgbnhcondjaaGreatDoor
