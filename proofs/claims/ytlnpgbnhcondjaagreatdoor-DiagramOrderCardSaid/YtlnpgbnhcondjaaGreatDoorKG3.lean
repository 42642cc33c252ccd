/-  -/
import Derived.Test.YtlnpgbnhcondjaaGreatDoorTf
import Derived.Test.YtlnpgbnhcondjaaGreatDoorYU
import Derived.Test.YtlnpgbnhcondjaaGreatDoorZP
import Derived.Test.YtlnpgbnhcondjaaGreatDoorRQ
import Derived.Test.YtlnpgbnhcondjaaGreatDoorMB
import Derived.Test.YtlnpgbnhcondjaaGreatDoorRows
import Derived.Test.YtlnpgbnhcondjaaGreatDoorYC
import Derived.LaidMore
import Derived.LaidSub
import Derived.LaidLaws
import Derived.Lib.LaidTab
import Derived.Lay
import Derived.Test.YtlnpgbnhcondjaaGreatDoorOA
import Derived.SevenTiedAt
import Derived.Stop.Joined
namespace Go.Proofs.YtlnpgbnhcondjaaGreatDoor.Fx
open Vg Tf
set_option linter.unusedSimpArgs false
set_option linter.unusedVariables false
set_option maxRecDepth 100000
set_option maxHeartbeats 4000000
theorem badK_out (l:Str):∀(f k:Nat),l.length<k+f→badK l f k=none→∀j,k≤j→j<l.length→badB (l.getD j 0)=false
 |0,k,hf,_,j,h1,h2=>by omega
 |f+1,k,hf,h,j,h1,h2=>by
  rw[badK,if_pos (by omega)]at h
  cases hb:badB (l.getD k 0)with
  |true=>rw[hb,if_pos rfl]at h;cases h
  |false=>
   rw[hb,if_neg (by simp)]at h
   by_cases hj:j=k
   ·rw[hj];exact hb
   ·exact badK_out l f (k+1) (by omega) h j (by omega) h2
theorem inB_asc {c:UInt8}(h:inB c=true):c.toNat<128:=by
 unfold inB leB diB at h
 simp only[Bool.or_eq_true,Bool.and_eq_true,decide_eq_true_eq]at h
 omega
theorem diB_asc {c:UInt8}(h:diB c=true):c.toNat<128:=by
 unfold diB at h
 simp only[Bool.and_eq_true,decide_eq_true_eq]at h
 omega
theorem scn_asc {c:UInt8}{x:Str}(he:(scnQ (c::x) 0).2.2=0):Asc ((c::x).take (scnQ (c::x) 0).2.1):=by
 have hg:(c::x).getD 0 0=c:=rfl
 unfold scnQ at he⊢
 simp only[hg]at he⊢
 by_cases h1:c=32∨c=9
 ·rw[if_pos h1]
  intro d hd
  have hd:d∈[c]:=hd
  rw[List.mem_singleton.1 hd]
  rcases h1 with h|h<;>rw[h]<;>decide
 rw[if_neg h1]at he⊢
 by_cases h2:leB c=true
 ·rw[if_pos h2]at he⊢
  split at he
  ·cases he
  ·rename_i h3
   rw[if_neg h3]
   intro d hd
   have hd:d∈(c::x).take ((c::x).takeWhile inB).length:=hd
   rw[tw_take]at hd
   exact inB_asc (tw_mem inB _ d hd)
 rw[if_neg h2]at he⊢
 split at he
 ·rename_i h4
  rw[if_pos h4]
  split at he
  ·cases he
  ·rename_i h5
   rw[if_neg h5]
   split at he
   ·cases he
   ·rename_i h6
    rw[if_neg h6]
    intro d hd
    have hd:d∈(c::x).take (1+(x.takeWhile diB).length):=hd
    rw[Nat.add_comm,List.take_succ_cons,tw_take]at hd
    rcases List.mem_cons.1 hd with rfl|hd
    ·rw[Bool.or_eq_true]at h4
     rcases h4 with h4|h4
     ·exact diB_asc h4
     ·rw[Bool.and_eq_true]at h4
      rw[eq_of_beq h4.1];decide
    ·exact diB_asc (tw_mem diB _ d hd)
 ·rename_i h4
  rw[if_neg h4]
  split at he
  ·rename_i h7
   rw[if_pos h7]
   intro d hd
   have hd:d∈[c]:=hd
   rw[List.mem_singleton.1 hd]
   have h8:∀y∈symL,y.toNat<128:=by decide
   exact h8 c (List.contains_iff_mem.1 h7)
  ·cases he
theorem lin_asc (ln:Nat):∀(f:Nat) (x pre:Str),x.length<f→(linQ ln (pre++x) f pre.length).2=none→Asc x
 |0,x,pre,hf,_=>by omega
 |f+1,[],pre,hf,he=>fun d hd=>by cases hd
 |f+1,c::x,pre,hf,he=>by
  rw[linQ]at he
  rw[if_neg (by rw[List.length_append,List.length_cons];omega)]at he
  have g0:(pre++c::x).getD pre.length 0=c:=getD_pre pre (c::x) 0
  by_cases h2:(pre++c::x).getD pre.length 0=35
  ·rw[if_pos h2]at he
   cases hb:badK (pre++c::x) ((pre++c::x).length+1) pre.length with
   |some j=>rw[hb]at he;cases he
   |none=>
    intro d hd
    obtain⟨i,hi,rfl⟩:=List.mem_iff_getElem.1 hd
    have:=badK_out _ _ _ (by omega) hb (pre.length+i) (by omega) (by rw[List.length_append];omega)
    rw[getD_pre,List.getD_eq_getElem?_getD,List.getElem?_eq_getElem hi]at this
    unfold badB at this
    rw[Bool.or_eq_false_iff]at this
    have:=of_decide_eq_false this.1
    have:¬126<((c::x)[i]).toNat:=this
    omega
  rw[if_neg h2]at he
  by_cases h3:(scnQ (pre++c::x) pre.length).2.2≠0
  ·rw[if_pos h3]at he;cases he
  rw[if_neg h3]at he
  rw[scn_pre]at he h3
  have hse:(scnQ (c::x) 0).2.2=0:=by omega
  have h4:=scn_asc hse
  obtain⟨q1,q2,q3⟩:=scn_ok (l:=c::x) (k:=0) (by simp) hse
  simp only at he
  generalize (scnQ (c::x) 0).2.1=n at*
  have hsp:c::x=(c::x).take n++(c::x).drop n:=(List.take_append_drop _ _).symm
  have hlt:((c::x).take n).length=n:=by rw[List.length_take];omega
  have hp:pre++c::x=(pre++(c::x).take n)++(c::x).drop n:=by rw[List.append_assoc,←hsp]
  have hpl:pre.length+n=(pre++(c::x).take n).length:=by rw[List.length_append,hlt]
  rw[hp,hpl]at he
  have h5:=lin_asc ln f ((c::x).drop n) (pre++(c::x).take n) (by rw[List.length_drop];omega) he
  rw[hsp]
  intro d hd
  rcases List.mem_append.1 hd with hd|hd
  ·exact h4 d hd
  ·exact h5 d hd
theorem par_asc (s:Str)(he:(parD s).2.2=0):∀l∈splB 10 s,Asc l:=by
 have hp:=par_eq s
 have ht:(tokQ s).2.2=0:=by
  by_cases h:(tokQ s).2.2=0
  ·exact h
  ·rw[if_pos h]at hp;rw[hp]at he;exact absurd he h
 have h16:¬16384<s.length:=fun h=>by unfold tokQ at ht;rw[if_pos h]at ht;cases ht
 have hq:(lnsQ 0 (splB 10 s)).2.2=0:=by unfold tokQ at ht;rw[if_neg h16]at ht;exact ht
 have hlx:=(lns_lines _ _ hq).2.2
 intro l hl
 obtain⟨j,hj,rfl⟩:=List.mem_iff_getElem.1 hl
 have:=hlx j _ (List.getElem?_eq_getElem hj)
 exact lin_asc (0+j+1) _ _ [] (by omega) this
def cmtB (l:Str):Bool:=Lib.hasPrefix (Lib.trimSpace l) [35]
theorem cmtB_of {l:Str}(h:cmtB l=false):¬∃r,Lib.trimSpace l=35::r:=by
 rintro⟨r,hr⟩
 unfold cmtB at h
 rw[hr]at h
 cases h
theorem joinX {H:Hp}(K:List Str)(sep:Str)(hK:K.length≤100000)(hj:(Lib.join K sep).length≤1000000):CallX H Tryz.prog 21 [.c (.sl 1 0 K.length 1),S sep] [sB K] (fun _:Unit=>S (Lib.join K sep)) (fun _=>[sB K]) (fun _ _=>True):=by
 have e:(strsR K).length=K.length:=List.length_map _
 have:=CallX.ofSl (H:=H) (P:=Tryz.prog) 1 (sz:=1) (rows:=strsR K) (el:=9) (rest:=[S sep]) (v:=S (Lib.join K sep)) en21 (fun r hr=>by obtain⟨a,_,rfl⟩:=List.mem_map.1 hr;rfl) (fun H' s hle hs=>by
  rw[e]at hs⊢
  exact joinH s K sep hs hK (by omega)) (fun x hx=>by rw[List.mem_singleton.1 hx];exact fun _ _=>rfl) (fun _ _=>rfl)
 rw[e,strsC]at this
 exact this
theorem sorted_ {H:Hp}(hE:ErR H)(hS:SpR H)(s:Str)(x:Int)(hx:0≤x∧x≤255):CallH H Tryz.prog 3 [S s,Y x] (Bo true):=by
 obtain⟨t,rfl⟩:∃t:Nat,x=t:=⟨x.toNat,by omega⟩
 have ht:t<256:=by omega
 refine CallH.mkS Tryz.func3 rfl en3 (by simp[Tryz.ntmps3]) (ClA.of rfl) fun C hR hP hH hL=>?_
 refine Sm.go 100 ?_
 refine vv ?_
 refine CallQ.h 110 (awake_ hE) hH rfl ?_
 refine vv ?_
 refine mtch (fun hc=>?_) (fun hc=>?_)
 ·exact RetQ.bool (hR C hL) rfl ⟨rfl,trivial⟩ rfl
 have hs3:s.length≤3000:=by have:=of_decide_eq_false hc;omega
 refine CallQ.x 120 hL (dparse_ hE s (by omega)) hH (SubS.sub trivial) ClM.nil (fun _=>Fresh.of rfl) rfl rfl rfl (fun x C1 H1 l1 k1 j1 p1=>?_)
 have hcr:x.r.map Cv.v=[.v (sv x.nm),.v (vsl x.ty x.tys.length),.v (vsl x.cu x.cus.length),.v (vsl x.ma x.mas.length),.v (vsl x.i x.ins.length),.v (vsl x.bl x.bls.length),.v (vsl x.ou x.ous.length)]:=rfl
 rw[hcr]
 refine vv ?_
 refine mtch (fun hc=>?_) (fun hc=>?_)
 ·exact RetQ.bool (hR C1 l1) rfl ⟨rfl,trivial⟩ rfl
 have he:(parD s).2.2=0:=by simpa using hc
 have h1:=hH.trans k1
 have hspl:CallOk Tryz.prog 14 [S s,S [10]] [] (slV 1 (splB 10 s).length) [sB (splB 10 s)]:=sSplit s 10 (by omega)
 have hasc:=par_asc s he
 have hsub:=splB_sub 10 s
 have hord:=ordered s t he
 generalize hLL:splB 10 s=L at*
 refine CallQ.mio 140 hspl ClM.nil rfl trivial rfl (.inl rfl) ?_
 simp(maxSteps:=2000000) only[go_sem,List.range_zero,List.nil_append,List.cons_append,List.map_cons,List.map_nil,List.getElem?_cons_zero,List.getElem?_cons_succ]
 have hcn:∀l∈L,LnA l:=fun l hl=>⟨hasc l hl,by have:=hsub l hl;omega⟩
 have hLn:L.length≤3001:=by
  have:=splB_sum 10 s
  rw[hLL]at this
  have h2:∀M:List Str,M.length≤(M.map fun x=>x.length+1).sum:=fun M=>by
   induction M with
   |nil=>exact Nat.le_refl _
   |cons a M ih=>simp only[List.map_cons,List.sum_cons,List.length_cons];omega
  have h3:L.length≤s.length+1:=Nat.le_trans (h2 L) (Nat.le_of_eq this)
  omega
 have v_s:=v_sC
 refine Sm.loopM (M0:=[]) (α:={i:Nat//i≤L.length∧∀l∈L.take i,cmtB l=false}) (l1.pins hP) (fun i=>[(5,true,.c (.p 120 0)),(8,true,.c (.sl 1 0 L.length 1)),(10,true,.c (.p 142 0)),(33,true,.c (.sl 1 0 L.length 1)),(34,true,I L.length),(35,true,I i.val)])
  (fun _=>[(142,⟨false,[.fn 15 [(141,0),(100,0)]],39⟩),(141,⟨false,[.sl 140 0 6 1],28⟩),(140,⟨false,srtW.map sC,9⟩),sB L,(120,⟨false,[.v (sv x.nm),.v (vsl x.ty x.tys.length),.v (vsl x.cu x.cus.length),.v (vsl x.ma x.mas.length),.v (vsl x.i x.ins.length),.v (vsl x.bl x.bls.length),.v (vsl x.ou x.ous.length)],30⟩),(100,⟨false,[.v (.int .u8 t)],5⟩)]) (fun i=>L.length-i.val) ⟨0,Nat.zero_le _,fun l hl=>by rw[List.take_zero]at hl;cases hl⟩ (fun _=>ClM.of (by simp only[List.all_cons,inMV (v_sC _)];rfl)) (fun _=>ClE.of rfl) [(142,142),(141,141),(140,140),(1,1),(120,120),(100,100)] ?_ ?_
 ·exact⟨rfl,trivial,⟨rfl,rfl,rfl,rfl,rfl,rfl,trivial⟩,⟨oR,oR,oR,oV (renV (v_sC _)),oR,oR,trivial⟩⟩
 rintro⟨i,hi,hcm⟩ J hj
 simp only at hj hi hcm⊢
 refine Sm.go 150 ?_
 refine vv ?_
 refine mtch (fun hd=>?_) (fun hd=>?_)
 ·have hd:=lt_of_dec hd
  have gi:=get_sC hd
  have hln:=hcn L[i] (List.getElem_mem hd)
  have htk:∀l∈L.take (i+1),l∈L.take i∨l=L[i]:=fun l hl=>by
   rw[List.take_succ_eq_append_getElem hd]at hl
   rcases List.mem_append.1 hl with h|h
   ·exact .inl h
   ·exact .inr (List.mem_singleton.1 h)
  generalize L[i]=l at*
  simp(maxSteps:=2000000) only[go_sem,gi]
  refine⟨⟨by omega,by omega⟩,?_⟩
  refine CallQ.h 160 (trimH hS l hln.1 hln.2) h1 rfl ?_
  refine vv ?_
  refine CallQ.h 170 (prefH (H:=H) (Lib.trimSpace l) [35]) h1 rfl ?_
  refine vv ?_
  refine mtch (fun hq=>?_) (fun hq=>?_)
  ·exact RetQ.bool (hR C1 l1) rfl ⟨rfl,trivial⟩ rfl
  ·simp(maxSteps:=2000000) only[go_sem,wS (show i≤1000000000000000000 by omega)]
   exact hj _ _ ⟨i+1,hd,fun m hm=>by
    rcases htk m hm with h|h
    ·exact hcm m h
    ·rw[h];exact hq⟩ [(142,142),(141,141),(140,140),(1,1),(120,120),(100,100)] (by simp only;omega) ⟨rfl,trivial,⟨rfl,rfl,rfl,rfl,rfl,rfl,trivial⟩,⟨oR,oR,oR,oV (renV (v_sC _)),oR,oR,trivial⟩⟩
 have hd:i=L.length:=eq_of_dec hi hd
 subst hd
 clear hj
 rw[List.take_length]at hcm
 obtain⟨o1,o2⟩:=hord fun l hl=>cmtB_of (hcm l hl)
 refine CallQ.letgo (xs:=[_,_]) (M0:=[]) [142,141,140,100] l1 hP rfl (by unfold concOk;simp only[List.all_cons,cokV (v_sC _)];rfl) rfl en19 rfl rfl (fun β C2 l2 k2 kn=>?_)
 have h2:=h1.trans k2
 obtain⟨ss,hvS,hkS⟩:=(kn 140 _ rfl rfl rfl).vslx (sz:=1) (rows:=strsR srtW) (fun r hr=>by obtain⟨a,_,rfl⟩:=List.mem_map.1 hr;rfl) (strsC srtW).symm
 have hvS:gval β (.sl 140 0 6 1)=vsl ss 6:=hvS
 have hkS:SlH C2.hp (vsl ss 6) 1 (strsR srtW):=hkS
 have hpv:PtH C2.hp (gval β (.p 141 0)) [vsl ss 6]:=by
  have:=(kn 141 _ rfl rfl rfl).pt (by simp)
  rw[←hvS];exact this
 have hpt:PtH C2.hp (gval β (.p 100 0)) [.int .u8 t]:=(kn 100 _ rfl rfl rfl).pt (by simp)
 have hpr:PtH C2.hp (gval β (.p 142 0)) [.func (.func 15) #[] #[gval β (.p 141 0),gval β (.p 100 0)]]:=(kn 142 _ rfl rfl rfl).pt (by simp)
 have hck:=cmpK_ (hS.mono h2) t ht _ _ _ ss hpv hkS hpt hpr
 have hfv:gval β (.fn 20 [(142,0)])= .func (.func 20) #[] #[gval β (.p 142 0)]:=rfl
 have hso:=sortS_ hck L L.length rfl (by omega) hcn
 have hlen:(isr (rkQ t) L).length=L.length:=isr_len L
 have hjl:(Lib.join (isr (rkQ t) L) [10]).length=s.length:=by
  have h9:=(spl_join (isr (rkQ t) L) (fun h0=>by
   have:=splB_ne 10 s
   rw[hLL]at this
   rw[h0]at hlen
   exact this (List.length_eq_zero_iff.1 hlen.symm)) fun z hz=>splB_nl 10 s z (by rw[hLL];exact isr_mem.1 hz)).2
  have h8:=splB_sum 10 s
  rw[hLL]at h8
  rw[isr_sum]at h9
  have h7:(Lib.join (isr (rkQ t) L) [10]).length+1=s.length+1:=h9.trans h8
  omega
 simp only[Mem.conc,Env.conc,Bk.conc,Cv.conc,V.conc,W.conc,List.map_cons,List.map_nil,List.contains_cons,List.contains_nil,List.any_cons,List.any_nil,Nat.reduceBEq,Bool.or_false,Bool.or_true,cond_true,cond_false,concV (v_sC _),hfv]
 refine CallW.x 160 l2 hso (Hp.le.refl _) (SubS.sub ⟨oS,trivial⟩) (sB_cl _) (fun _=>Fresh.of rfl) rfl (fun _ C3 H3 l3 k3 _ _=>?_)
 rw[←hlen]
 generalize isr (rkQ t) L=K at*
 refine vv ?_
 have h3:=h2.trans k3
 refine CallQ.xio 170 (joinX (H:=C3.hp) K [10] (by omega) (by omega)) (Hp.le.refl _) (sB_cl _) rfl ⟨oS,trivial⟩ rfl (.inl rfl) ?_
 generalize Lib.join K [10]=s2 at*
 refine vv ?_
 refine CallQ.x 180 l3 (dparse_ hE s2 (by omega)) h3 (SubS.sub trivial) ClM.nil (fun _=>Fresh.of rfl) rfl rfl rfl (fun y C4 H4 l4 k4 j4 p4=>?_)
 have hcr2:y.r.map Cv.v=[.v (sv y.nm),.v (vsl y.ty y.tys.length),.v (vsl y.cu y.cus.length),.v (vsl y.ma y.mas.length),.v (vsl y.i y.ins.length),.v (vsl y.bl y.bls.length),.v (vsl y.ou y.ous.length)]:=rfl
 rw[hcr2]
 simp(maxSteps:=2000000) only[go_sem,o2,beq_self_eq_true]
 have hsm:=par_sm s2 p4.1
 have hsame:=same_ (H:=C4.hp) x y ((((p1.2.mono j1).mono k2).mono k3).mono k4) (p4.2.mono j4) (p1.1.trans (o1.symm.trans p4.1.symm)) hsm.1 hsm.2
 refine CallQ.h 190 hsame (Hp.le.refl _) rfl ?_
 simp(maxSteps:=2000000) only[go_sem,o2,beq_self_eq_true]
 exact RetQ.bool (hR C4 l4) rfl ⟨rfl,trivial⟩ rfl
end Go.Proofs.YtlnpgbnhcondjaaGreatDoor.Fx
namespace Go.Proofs.YtlnpgbnhcondjaaGreatDoor
open Go.ChangeShapes Go.WideShapes Go.ChangeAt Go.RowKit
open Vg Tf
set_option linter.unusedSimpArgs false
set_option linter.unusedVariables false
set_option maxRecDepth 100000
theorem own:ownKnob Tryz.prog.godebug=none:=by kernel_rfl
theorem laidOut:laidOutB Tryz.prog=true:=by kernel_rfl
theorem fmr:mapsRowed Tryz.pinned.checked.prog=true:=by kernel_rfl
theorem flo:laidOutB Tryz.pinned.checked.prog=true:=by kernel_rfl
theorem fsh:Tryz.pinned.checked.prog.stopsHeard=true:=by kernel_rfl
theorem fme:Tryz.pinned.checked.prog.mayEnter=true:=by kernel_rfl
theorem leafI {k:IntKind}{x:Cv}(h:okL [.i k] [x]=true):∃n,x= .v (.int k n):=by
 obtain⟨n,y,e,_⟩:=okL_i h
 exact⟨n,(List.cons.inj e).1⟩
end Go.Proofs.YtlnpgbnhcondjaaGreatDoor
namespace Go.Proofs.YtlnpgbnhcondjaaGreatDoor
open Go.ChangeShapes Go.WideShapes Go.ChangeAt Go.RowKit
open Vg Tf Fx
set_option linter.unusedSimpArgs false
set_option linter.unusedVariables false
set_option maxRecDepth 100000
theorem leafS {x:Cv}(h:okL [.s] [x]=true)(hb:bdC x):∃l:List UInt8,x= .v (.string ⟨l.toArray⟩)∧l.length≤9223372036854775807:=by
 obtain⟨n,y,e,_⟩:=okL_s h
 obtain rfl:=(List.cons.inj e).1
 refine⟨n.data.toList,?_,?_⟩
 ·simp
 ·have:n.size≤maxLen:=hb
  have e:n.data.toList.length=n.size:=by rw[Array.length_toList];rfl
  unfold maxLen at this
  omega
theorem er_of {W:World}(h:laidMetH Tryz.prog [("strconv.ErrRange",Rows.laid_strconv_ErrRange)] W):ErR (hpW W):=by
 rw[MakeChecks.laidMetH_plain _ _ _ (by kernel_rfl)]at h
 obtain⟨ps,⟨g',t',cs,fuel,p,q,hg',ht',hvar,hd,_,_⟩,_⟩:=h
 have hg:Tryz.prog.globalNamed "strconv.ErrRange" =some 6:=by kernel_rfl
 obtain rfl:=Option.some.inj (hg.symm.trans hg')
 have hty:(Tryz.prog.globals[6]?).map (·.type)=some 59:=by kernel_rfl
 obtain rfl:=Option.some.inj (hty.symm.trans ht')
 obtain⟨_,u,v,hcs,_,_⟩:=Go.iface_of_trod (Tryz.underlying59) hd
 have hcs2:cs= #[.iface u v]:=by
  apply Array.toList_inj.1
  rw[hcs]
 subst hcs2
 obtain⟨el,mk,hb⟩:=GlW.of_var (cs:=[.iface u v]) hg hvar
 exact⟨.iface u v,el,mk,hb,.inr ⟨u,v,rfl⟩⟩
theorem sp_of {W:World}(h:laidMetH Tryz.prog [("strings.asciiSpace",Rows.laid_strings_asciiSpace)] W):SpR (hpW W):=by
 rw[MakeChecks.laidMetH_plain _ _ _ (by kernel_rfl)]at h
 have hg:Tryz.prog.globalNamed "strings.asciiSpace" =some 0:=by kernel_rfl
 have ht:Lib.TabIs Tryz.prog W "strings.asciiSpace" .u8 Lib.asciiSpaceTab:=Lib.tabIs_of_head (rest:=[]) hg (show(Tryz.prog.globals[0]?).map (·.type)=some 100 by kernel_rfl) Tryz.underlying100 Tryz.underlying5 (by kernel_rfl) (by kernel_rfl) h
 exact GlW.of_var hg ht
end Go.Proofs.YtlnpgbnhcondjaaGreatDoor
namespace Go.Proofs.YtlnpgbnhcondjaaGreatDoor
open Go.ChangeShapes Go.WideShapes Go.ChangeAt Go.RowKit
open Vg Tf
set_option linter.unusedSimpArgs false
set_option linter.unusedVariables false
set_option maxRecDepth 100000
theorem fip:Tryz.pinned.checked.prog.inPlace 3=Rows.diagramOrderRow.inPlace:=by kernel_rfl
theorem fuf:Tryz.pinned.checked.prog.unfollowed 3=Rows.diagramOrderRow.unfollowed:=by kernel_rfl
theorem frc:Tryz.pinned.checked.prog.recurses 3=Rows.diagramOrderRow.recurses:=by kernel_rfl
theorem fvn:Tryz.pinned.checked.prog.varsNamed 3=Rows.diagramOrderRow.named:=by kernel_rfl
theorem closedF:joinedFacts Tryz.pinned.checked.prog 3 Tryz.f3 Rows.diagramOrderSpec Rows.diagramOrderRow=true:=by
 unfold joinedFacts
 rw[fip,fuf,frc,fvn,fmr,flo,fsh,fme]
 kernel_rfl
theorem ffn:Tryz.pinned.checked.prog.funcNamed Rows.diagramOrderRow.func=some 3:=by kernel_rfl
theorem flk:true=Tryz.pinned.checked.prog.looks []:=by kernel_rfl
theorem fgo:false=Rows.diagramOrderRow.goesBy Tryz.pinned.checked.prog:=by kernel_rfl
theorem fwf:Rows.diagramOrderRow.wfByText (OpenSpec.ofChange Rows.diagramOrderSpec)=true:=by kernel_rfl
theorem fmi:Tryz.pinned.checked.prog.mainIs=some (true,"0b6ddabf7654c0ddcdcd670975a67c572cc1ac03156ddf7d14c8e7ba494423dd".toList):=by kernel_rfl
end Go.Proofs.YtlnpgbnhcondjaaGreatDoor
