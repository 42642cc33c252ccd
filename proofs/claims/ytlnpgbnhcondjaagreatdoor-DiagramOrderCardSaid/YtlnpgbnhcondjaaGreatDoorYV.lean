/-  -/
import Derived.Test.YtlnpgbnhcondjaaGreatDoorTf
import Derived.Test.YtlnpgbnhcondjaaGreatDoorYU
namespace Go.Proofs.YtlnpgbnhcondjaaGreatDoor.Fx
open Vg Tf
set_option linter.unusedSimpArgs false
set_option linter.unusedVariables false
set_option maxRecDepth 100000
set_option maxHeartbeats 4000000
theorem _root_.Go.Proofs.YtlnpgbnhcondjaaGreatDoor.Vg.Sm.pcT {P:Program}{nt:Nat}{C:Cx}{todo:List It}{e:Env}{M:Mem}{L:List Nat}{β0:Vl}(hp:Pnd C L β0)(t:Nat){g:Bool}{x:Cv}(hx:e.get t=some (g,.c x))(hok:x.cok L=true)
  (h:Sm P nt C todo ((t,g,.c (x.conc L β0))::e) M):Sm P nt C todo e M:=fun β a w h1 h2 h3 h4=>by
 refine h β a w h1 (fun β' hag s y hy=>?_) h3 h4
 have hm:∀n,L.contains n=true→β0 n=β' n:=fun n hn=>by
  obtain⟨q1,q2⟩:=h1.pin n _ (hp n hn)
  rw[hag n q1,q2]
 simp only[Env.get]at hy
 cases hts:t==s with
 |true=>
  rw[hts]at hy
  simp only[cond_true]at hy
  have:=eq_of_beq hts
  subst this
  cases hy
  rw[h2 β' hag t _ hx]
  unfold gv
  cases g with
  |true=>
   show x.g β'=(x.conc L β0).g β'
   rw[Cv.conc_g hok,mix_pin hm]
  |false=>rfl
 |false=>
  rw[hts]at hy
  exact h2 β' hag s y hy
def srt (s:Str):Nat:=if s=[116,121,112,101]then 0 else if s=[99,117,114,118,101]then 1 else if s=[109,97,112]then 2 else if s=[105,110]then 3 else if s=[98,108,111,99,107]then 4 else if s=[111,117,116]then 5 else 6
@[reducible,go_sem] def dgN (k:Nat)(d:DgL):List Cv:=[.v (sv d.nm),.sl (nm6 k 0) 0 d.tys.length 11,.sl (nm6 k 1) 0 d.cus.length 3,.sl (nm6 k 2) 0 d.mas.length 4,.sl (nm6 k 3) 0 d.ins.length 4,.sl (nm6 k 4) 0 d.bls.length 6,.sl (nm6 k 5) 0 d.ous.length 1]
def lnN:Nat→DgL→Mem
 |0,x=>[bDg (dgN 0 x),bRw 20 Td.r 93 x.tys,bDd 10 93]
 |1,x=>[bDg (dgN 1 x),bRw 21 CuL.r 110 x.cus,bDd 11 110]
 |2,x=>[bDg (dgN 2 x),bRw 22 MpL.r 115 x.mas,bDd 12 115]
 |3,x=>[bDg (dgN 3 x),bRw 23 Po.r 118 x.ins,bDd 13 118]
 |4,x=>[bDg (dgN 4 x),bRw 24 BlL.r 82 x.bls,bDd 14 82]
 |_,x=>[bDg (dgN 5 x),(25,⟨false,x.ous.map sC,9⟩),bDd 15 9]
@[reducible] def pX (T:List Tk)(p:Ps)(d:DgL):Mem:=[bPs T p,bDg (dgC d),bTkT T,bRw 10 Td.r 93 d.tys,bRw 11 CuL.r 110 d.cus,bRw 12 MpL.r 115 d.mas,bRw 13 Po.r 118 d.ins,bRw 14 BlL.r 82 d.bls,(15,⟨false,d.ous.map sC,9⟩)]
theorem ag_cons (k s:Str)(v:Value)(r:Al):aget ((⟨k.toArray⟩,v)::r) ⟨s.toArray⟩=if k=s then some v else aget r ⟨s.toArray⟩:=by
 have:((⟨k.toArray⟩:ByteArray)=⟨s.toArray⟩)↔k=s:=⟨fun h=>List.toArray_inj (ByteArray.mk.inj h),fun h=>by rw[h]⟩
 rw[aget]
 by_cases h:k=s
 ·rw[if_pos h,if_pos (this.2 h)]
 ·rw[if_neg h,if_neg (fun hh=>h (this.1 hh))]
theorem ap_ne (k s:Str)(v u:Value)(r:Al)(h:k≠s):aput ((⟨k.toArray⟩,v)::r) ⟨s.toArray⟩ u=(⟨k.toArray⟩,v)::aput r ⟨s.toArray⟩ u:=by
 have:¬((⟨k.toArray⟩:ByteArray)=⟨s.toArray⟩):=fun hh=>h (List.toArray_inj (ByteArray.mk.inj hh))
 rw[aput,if_neg this]
abbrev fB (f:FuncId)(pv:Value):Value:= .func (.func f) #[pv] #[]
def lnM (pv:Value):Al:=[(⟨([116,121,112,101]:Str).toArray⟩,fB 151 pv),(⟨([99,117,114,118,101]:Str).toArray⟩,fB 152 pv),(⟨([109,97,112]:Str).toArray⟩,fB 153 pv),(⟨([105,110]:Str).toArray⟩,fB 154 pv),(⟨([98,108,111,99,107]:Str).toArray⟩,fB 155 pv),(⟨([111,117,116]:Str).toArray⟩,fB 156 pv)]
theorem lnM_put (pv:Value):aput (aput (aput (aput (aput (aput ([]) ⟨([116,121,112,101]:Str).toArray⟩ (fB 151 pv)) ⟨([99,117,114,118,101]:Str).toArray⟩ (fB 152 pv)) ⟨([109,97,112]:Str).toArray⟩ (fB 153 pv)) ⟨([105,110]:Str).toArray⟩ (fB 154 pv)) ⟨([98,108,111,99,107]:Str).toArray⟩ (fB 155 pv)) ⟨([111,117,116]:Str).toArray⟩ (fB 156 pv)=lnM pv:=by
 unfold lnM
 rw[show aput ([]:Al) ⟨([116,121,112,101]:Str).toArray⟩ (fB 151 pv)=[(⟨([116,121,112,101]:Str).toArray⟩,fB 151 pv)] from rfl]
 rw[ap_ne [116,121,112,101] [99,117,114,118,101] _ _ _ (by decide),show aput ([]:Al) ⟨([99,117,114,118,101]:Str).toArray⟩ (fB 152 pv)=[(⟨([99,117,114,118,101]:Str).toArray⟩,fB 152 pv)] from rfl]
 rw[ap_ne [116,121,112,101] [109,97,112] _ _ _ (by decide),ap_ne [99,117,114,118,101] [109,97,112] _ _ _ (by decide),show aput ([]:Al) ⟨([109,97,112]:Str).toArray⟩ (fB 153 pv)=[(⟨([109,97,112]:Str).toArray⟩,fB 153 pv)] from rfl]
 rw[ap_ne [116,121,112,101] [105,110] _ _ _ (by decide),ap_ne [99,117,114,118,101] [105,110] _ _ _ (by decide),ap_ne [109,97,112] [105,110] _ _ _ (by decide),show aput ([]:Al) ⟨([105,110]:Str).toArray⟩ (fB 154 pv)=[(⟨([105,110]:Str).toArray⟩,fB 154 pv)] from rfl]
 rw[ap_ne [116,121,112,101] [98,108,111,99,107] _ _ _ (by decide),ap_ne [99,117,114,118,101] [98,108,111,99,107] _ _ _ (by decide),ap_ne [109,97,112] [98,108,111,99,107] _ _ _ (by decide),ap_ne [105,110] [98,108,111,99,107] _ _ _ (by decide),show aput ([]:Al) ⟨([98,108,111,99,107]:Str).toArray⟩ (fB 155 pv)=[(⟨([98,108,111,99,107]:Str).toArray⟩,fB 155 pv)] from rfl]
 rw[ap_ne [116,121,112,101] [111,117,116] _ _ _ (by decide),ap_ne [99,117,114,118,101] [111,117,116] _ _ _ (by decide),ap_ne [109,97,112] [111,117,116] _ _ _ (by decide),ap_ne [105,110] [111,117,116] _ _ _ (by decide),ap_ne [98,108,111,99,107] [111,117,116] _ _ _ (by decide),show aput ([]:Al) ⟨([111,117,116]:Str).toArray⟩ (fB 156 pv)=[(⟨([111,117,116]:Str).toArray⟩,fB 156 pv)] from rfl]
structure DgL.bd (d:DgL):Prop where
 tys:d.tys.length≤1000000
 cus:d.cus.length≤1000000
 mas:d.mas.length≤1000000
 ins:d.ins.length≤1000000
 bls:d.bls.length≤1000000
 ous:d.ous.length≤1000000
def lnE (k:Nat)(d x:DgL):Prop:=(k≠0→x.tys=d.tys)∧(k≠1→x.cus=d.cus)∧(k≠2→x.mas=d.mas)∧(k≠3→x.ins=d.ins)∧(k≠4→x.bls=d.bls)∧(k≠5→x.ous=d.ous)
theorem lnN_ro (T:List Tk)(p:Ps)(d x:DgL):∀k,(lnN k x).all (fun q=> !q.2.ro||((pX T p d).get q.1).isSome)=true:=fun k=>by
 unfold lnN
 split<;>rfl
theorem lnN_u (T:List Tk)(p:Ps)(d x:DgL):∀k,(lnN k x).all (fun q=>match (pX T p d).get q.1 with|some b=> !b.ro|none=>true)=true:=fun k=>by
 unfold lnN
 split<;>rfl
theorem line_ {H:Hp}(T:List Tk)(hT:T.length≤40000)(g:GTk T)(sT:STk T)(hN:hNum T)(p:Ps)(h:p.at_<T.length)(d:DgL)(hb:d.bd)(hd:d.inn H):
  CallX H Tryz.prog 48 [.c (.p 1 0),.c (.p 4 0),Bo false] (pX T p d) (fun _:DgL=>Bo (lneP T false d.c p).1.isSome)
   (fun x=>bPs T (lneP T false d.c p).2::(match (lneP T false d.c p).1 with|some _=>lnN (srt (hereP T p).s) x|none=>[])) (fun x H'=>∀d',(lneP T false d.c p).1=some d'→x.c=d'∧x.inn H'∧lnE (srt (hereP T p).s) d x):=by
 have clF:∀q,ClM (bPs T q::pX T p d):=fun q=>ClM.of (by simp only[List.all_cons,inMV (rowsC_isV _),inMV (v_sC _)];rfl)
 refine CallX.mkP Tryz.func48 rfl en48 (by simp[Tryz.ntmps48]) (ClA.of rfl) (fun x=>by cases (lneP T false d.c p).1 with|none=>rfl|some _=>exact(Bool.and_eq_true _ _).mpr ⟨rfl,lnN_ro T p d x _⟩) (fun x=>by cases (lneP T false d.c p).1 with|none=>rfl|some _=>exact(Bool.and_eq_true _ _).mpr ⟨rfl,lnN_u T p d x _⟩) fun C hR hP hH hL hpin=>?_
 obtain⟨l1,hl1⟩:=hpin 1 rfl
 obtain⟨β0,hβ⟩:∃β0:Vl,β0 1=l1:=⟨fun _=>l1,rfl⟩
 have hpn:Pnd C [1] β0:=fun n hn=>by
  have:n=1:=by simpa using hn
  subst this
  rw[hl1,hβ]
 refine Sm.go 29 ?_
 refine vv ?_
 generalize hX:lneP T false d.c p=X at*
 unfold lneP at hX
 simp only[cond_false]at hX
 refine CallQ.mi 29 (here_ T (by omega) p h) (pM_cl T _) ⟨oS,oS,trivial⟩ ?_
 refine vv ?_
 refine Sm.makeMap hL rfl rfl rfl (fun b C0 l0 k0 fb _ m0=>?_)
 have hH0:=hH.trans k0
 refine Sm.go 40 ?_
 refine vv ?_
 refine Sm.pcT (hpn.lf l0) 28 rfl rfl ?_
 refine Sm.opq rfl rfl ⟨[],_,fun _=>Stp.mkB rfl rfl,.inl rfl,Sm.go 40 ?_⟩
 refine vv ?_
 refine Sm.mapIns (u:=fB 151 (gval β0 (.p 1 0))) l0 rfl rfl rfl rfl rfl rfl rfl (fun _=>by rfl) m0 fb (fun C1 l1 k1 m1=>?_)
 have hH1:H.le C1.hp:=fun b' o hbo=>k1 b' o (fun e=>by have:=Cx.hp_lt (hH b' o hbo);omega) (hH0 b' o hbo)
 refine Sm.go 40 ?_
 refine vv ?_
 refine Sm.pcT (hpn.lf l1) 30 rfl rfl ?_
 refine Sm.opq rfl rfl ⟨[],_,fun _=>Stp.mkB rfl rfl,.inl rfl,Sm.go 40 ?_⟩
 refine vv ?_
 refine Sm.mapIns (u:=fB 152 (gval β0 (.p 1 0))) l1 rfl rfl rfl rfl rfl rfl rfl (fun _=>by rfl) m1 fb (fun C2 l2 k2 m2=>?_)
 have hH2:H.le C2.hp:=fun b' o hbo=>k2 b' o (fun e=>by have:=Cx.hp_lt (hH b' o hbo);omega) (hH1 b' o hbo)
 refine Sm.go 40 ?_
 refine vv ?_
 refine Sm.pcT (hpn.lf l2) 32 rfl rfl ?_
 refine Sm.opq rfl rfl ⟨[],_,fun _=>Stp.mkB rfl rfl,.inl rfl,Sm.go 40 ?_⟩
 refine vv ?_
 refine Sm.mapIns (u:=fB 153 (gval β0 (.p 1 0))) l2 rfl rfl rfl rfl rfl rfl rfl (fun _=>by rfl) m2 fb (fun C3 l3 k3 m3=>?_)
 have hH3:H.le C3.hp:=fun b' o hbo=>k3 b' o (fun e=>by have:=Cx.hp_lt (hH b' o hbo);omega) (hH2 b' o hbo)
 refine Sm.go 40 ?_
 refine vv ?_
 refine Sm.pcT (hpn.lf l3) 34 rfl rfl ?_
 refine Sm.opq rfl rfl ⟨[],_,fun _=>Stp.mkB rfl rfl,.inl rfl,Sm.go 40 ?_⟩
 refine vv ?_
 refine Sm.mapIns (u:=fB 154 (gval β0 (.p 1 0))) l3 rfl rfl rfl rfl rfl rfl rfl (fun _=>by rfl) m3 fb (fun C4 l4 k4 m4=>?_)
 have hH4:H.le C4.hp:=fun b' o hbo=>k4 b' o (fun e=>by have:=Cx.hp_lt (hH b' o hbo);omega) (hH3 b' o hbo)
 refine Sm.go 40 ?_
 refine vv ?_
 refine Sm.pcT (hpn.lf l4) 36 rfl rfl ?_
 refine Sm.opq rfl rfl ⟨[],_,fun _=>Stp.mkB rfl rfl,.inl rfl,Sm.go 40 ?_⟩
 refine vv ?_
 refine Sm.mapIns (u:=fB 155 (gval β0 (.p 1 0))) l4 rfl rfl rfl rfl rfl rfl rfl (fun _=>by rfl) m4 fb (fun C5 l5 k5 m5=>?_)
 have hH5:H.le C5.hp:=fun b' o hbo=>k5 b' o (fun e=>by have:=Cx.hp_lt (hH b' o hbo);omega) (hH4 b' o hbo)
 refine Sm.go 40 ?_
 refine vv ?_
 refine Sm.pcT (hpn.lf l5) 38 rfl rfl ?_
 refine Sm.opq rfl rfl ⟨[],_,fun _=>Stp.mkB rfl rfl,.inl rfl,Sm.go 40 ?_⟩
 refine vv ?_
 refine Sm.mapIns (u:=fB 156 (gval β0 (.p 1 0))) l5 rfl rfl rfl rfl rfl rfl rfl (fun _=>by rfl) m5 fb (fun C6 l6 k6 m6=>?_)
 have hH6:H.le C6.hp:=fun b' o hbo=>k6 b' o (fun e=>by have:=Cx.hp_lt (hH b' o hbo);omega) (hH5 b' o hbo)
 refine Sm.go 40 ?_
 refine vv ?_
 have m6:MpB C6.hp b (lnM (gval β0 (.p 1 0))):=lnM_put (gval β0 (.p 1 0))▸m6
 have e1:((hereP T p).k==1)=(((hereP T p).k:Int)==1):=(kB _ 1).symm
 have hw:=wrong_ T (by omega) p h
 rw[e1]at hX
 cases hk1:((hereP T p).k:Int)==1 with
 |false=>
  rw[hk1]at hX
  simp only[Bool.not_false,cond_true]at hX
  subst hX
  refine Sm.opC 60 rfl rfl (.inl rfl) (fun _=>StpC.lookup (v:= .tup [.c (.v ((aget (lnM (gval β0 (.p 1 0))) ⟨(hereP T p).s.toArray⟩).getD .nilFunc)),.c (.v (.bool (aget (lnM (gval β0 (.p 1 0))) ⟨(hereP T p).s.toArray⟩).isSome))]) rfl rfl rfl rfl rfl m6 (fun β=>rfl)) ?_
  simp(maxSteps:=2000000) only[go_sem,hk1,bne]
  refine CallQ.mi 70 hw (pM_cl T _) ⟨oS,oS,trivial⟩ ?_
  refine vv ?_
  exact RetQ.of (hR d C6 l6 (fun d' h=>by cases h)) rfl scc rvv (SubV.sub0 ⟨oR,oL,oR,oR,oR,oR,oR,oR,oR,oR,trivial⟩) (clF _) (ClV.of rfl)
 |true=>
 rw[hk1]at hX
 simp only[Bool.not_true,cond_false]at hX
 have hk4:(hereP T p).k≠4:=by have:=eq_of_beq hk1;omega
 have hpa:=(adv_on g h hk4).1.2
 unfold redP at hX
 by_cases h0:(hereP T p).s=[116,121,112,101]
 ·have hag:aget (lnM (gval β0 (.p 1 0))) ⟨(hereP T p).s.toArray⟩=some (fB 151 (gval β0 (.p 1 0))):=by rw[h0];unfold lnM;rw[ag_cons,if_pos rfl]
  have hsrt:srt (hereP T p).s=0:=by unfold srt;rw[if_pos h0]
  rw[if_pos h0]at hX
  have hcl:d.c.tys.length=d.tys.length:=rfl
  rw[hcl]at hX
  refine Sm.opC 60 rfl rfl (.inl rfl) (fun _=>StpC.lookup (v:= .tup [.c (.v (fB 151 (gval β0 (.p 1 0)))),.c (.v (.bool true))]) rfl rfl rfl rfl rfl m6 (fun β=>by rw[hag];rfl)) ?_
  simp(maxSteps:=2000000) only[go_sem,hk1,bne,aP (show T.length≤100000 by omega) h]
  refine Sm.callB (xs:=[.c (.p 4 0),tkV (hereP T p)]) rfl rfl rfl rfl en151 ?_
  refine CallW.pin (L:=[1]) (β0:=β0) (xs:=[.c (.p 1 0),.c (.p 4 0),tkV (hereP T p)]) (hpn.lf l6) rfl ?_
  have hc:=type_ T hT g sT hN (advP p) hpa (hereP T p) d hb.tys
  have hon:=typ_on g (hereP T p) d.tys.length hpa
  have h4:E4 T (typP T (hereP T p) d.tys.length (advP p)):=typ_4 g hT (hereP T p) d.tys.length hpa
  generalize typP T (hereP T p) d.tys.length (advP p)=r at hc hon h4 hX
  obtain⟨o,q⟩:=r
  have hq:q.at_<T.length:=hon.2
  cases o with
  |none=>
   simp only[Option.map_none,bnd]at hX
   subst hX
   simp only[Option.isSome_none]at hc
   refine CallW.x 80 l6 (hc.toX (H:=C6.hp)) (Hp.le.refl _) (SubS.sub ⟨oS,oS,oS,oS,⟨_,rfl,.inr ⟨rfl,_,rfl⟩⟩,⟨_,rfl,.inr ⟨rfl,_,rfl⟩⟩,⟨_,rfl,.inr ⟨rfl,_,rfl⟩⟩,⟨_,rfl,.inr ⟨rfl,_,rfl⟩⟩,⟨_,rfl,.inr ⟨rfl,_,rfl⟩⟩,trivial⟩) (ClM.of (by simp only[List.all_cons,inMV (rowsC_isV _),inMV (v_sC _)];rfl)) (fun _=>Fresh.of rfl) rfl (fun x C7 H1 l7 k7 _ _=>?_)
   refine vv ?_
   refine CallQ.guard (v:=Bo false) (xs:=[]) 90 (fun h=>by cases h) (fun h=>by cases h) ?_
   refine vv ?_
   exact RetQ.of (hR d C7 l7 (fun d' h=>by cases h)) rfl scc rvv (SubV.sub0 ⟨oR,oL,oR,oR,oR,oR,oR,oR,oR,oR,trivial⟩) (clF _) (ClV.of rfl)
  |some y=>
   simp only[Option.map_some,bnd,end_4 (h4 rfl),bndB]at hX
   subst hX
   simp only[Option.isSome_some]at hc
   have hen:=end_ T (by omega) q hq
   rw[end_4 (h4 rfl)]at hen
   refine CallW.x 80 l6 (hc.toX (H:=C6.hp)) (Hp.le.refl _) (SubS.sub ⟨oS,oS,oS,oS,⟨_,rfl,.inr ⟨rfl,_,rfl⟩⟩,⟨_,rfl,.inr ⟨rfl,_,rfl⟩⟩,⟨_,rfl,.inr ⟨rfl,_,rfl⟩⟩,⟨_,rfl,.inr ⟨rfl,_,rfl⟩⟩,⟨_,rfl,.inr ⟨rfl,_,rfl⟩⟩,trivial⟩) (ClM.of (by simp only[List.all_cons,inMV (rowsC_isV _),inMV (v_sC _)];rfl)) (fun _=>Fresh.of rfl) rfl (fun x C7 H1 l7 k7 kH hqx=>?_)
   refine vv ?_
   refine CallQ.mi 90 hen (pM_cl T _) ⟨oS,oS,trivial⟩ ?_
   refine vv ?_
   have hln:(d.tys++[y]).length=d.tys.length+1:=List.length_append
   have hdm:=hd.mono (hH6.trans k7)
   have hR2:=hR {d with tys:=d.tys++[y]} C7 l7 (fun d' h=>by cases h;exact⟨rfl,⟨hdm.cus,hdm.mas,hdm.bls⟩,by rw[hsrt];exact⟨fun h=>absurd rfl h,fun _=>rfl,fun _=>rfl,fun _=>rfl,fun _=>rfl,fun _=>rfl⟩⟩)
   rw[hsrt]at hR2
   simp only[lnN,dgN,nm6,Nat.reduceBEq,Nat.reduceAdd,cond_true,cond_false,hln]at hR2
   exact RetQ.of hR2 rfl scc rvv (SubV.sub0 ⟨oR,oR,oR,oR,oL,oL,oR,oL,oR,oR,oR,oR,oR,trivial⟩) (ClM.of (by simp only[List.cons_append,List.nil_append,List.all_cons,inMV (rowsC_isV _),inMV (v_sC _)];rfl)) (ClV.of rfl)
 by_cases h1:(hereP T p).s=[99,117,114,118,101]
 ·have hag:aget (lnM (gval β0 (.p 1 0))) ⟨(hereP T p).s.toArray⟩=some (fB 152 (gval β0 (.p 1 0))):=by rw[h1];unfold lnM;rw[ag_cons,if_neg (by decide),ag_cons,if_pos rfl]
  have hsrt:srt (hereP T p).s=1:=by unfold srt;rw[if_neg h0,if_pos h1]
  rw[if_neg h0,if_pos h1]at hX
  have hcl:d.c.cus.length=d.cus.length:=List.length_map _
  rw[hcl]at hX
  refine Sm.opC 60 rfl rfl (.inl rfl) (fun _=>StpC.lookup (v:= .tup [.c (.v (fB 152 (gval β0 (.p 1 0)))),.c (.v (.bool true))]) rfl rfl rfl rfl rfl m6 (fun β=>by rw[hag];rfl)) ?_
  simp(maxSteps:=2000000) only[go_sem,hk1,bne,aP (show T.length≤100000 by omega) h]
  refine Sm.callB (xs:=[.c (.p 4 0),tkV (hereP T p)]) rfl rfl rfl rfl en152 ?_
  refine CallW.pin (L:=[1]) (β0:=β0) (xs:=[.c (.p 1 0),.c (.p 4 0),tkV (hereP T p)]) (hpn.lf l6) rfl ?_
  have hc:=curve_ (H:=C6.hp) T hT g sT hN (advP p) hpa (hereP T p) d hb.cus
  have hon:=cur_on g (hereP T p) d.cus.length hpa
  have h4:E4 T (curP T (hereP T p) d.cus.length (advP p)):=cur_4 (hereP T p) d.cus.length (advP p)
  generalize curP T (hereP T p) d.cus.length (advP p)=r at hc hon h4 hX
  obtain⟨o,q⟩:=r
  have hq:q.at_<T.length:=hon.2
  cases o with
  |none=>
   simp only[Option.map_none,bnd]at hX
   subst hX
   simp only[Option.isSome_none]at hc
   refine CallW.x 80 l6 hc (Hp.le.refl _) (SubS.sub ⟨oS,oS,oS,oS,⟨_,rfl,.inr ⟨rfl,_,rfl⟩⟩,⟨_,rfl,.inr ⟨rfl,_,rfl⟩⟩,⟨_,rfl,.inr ⟨rfl,_,rfl⟩⟩,⟨_,rfl,.inr ⟨rfl,_,rfl⟩⟩,⟨_,rfl,.inr ⟨rfl,_,rfl⟩⟩,trivial⟩) (ClM.of (by simp only[List.all_cons,inMV (rowsC_isV _),inMV (v_sC _)];rfl)) (fun _=>Fresh.of rfl) rfl (fun x C7 H1 l7 k7 _ _=>?_)
   refine vv ?_
   refine CallQ.guard (v:=Bo false) (xs:=[]) 90 (fun h=>by cases h) (fun h=>by cases h) ?_
   refine vv ?_
   exact RetQ.of (hR d C7 l7 (fun d' h=>by cases h)) rfl scc rvv (SubV.sub0 ⟨oR,oL,oR,oR,oR,oR,oR,oR,oR,oR,trivial⟩) (clF _) (ClV.of rfl)
  |some y=>
   simp only[Option.map_some,bnd,end_4 (h4 rfl),bndB]at hX
   subst hX
   simp only[Option.isSome_some]at hc
   have hen:=end_ T (by omega) q hq
   rw[end_4 (h4 rfl)]at hen
   refine CallW.x 80 l6 hc (Hp.le.refl _) (SubS.sub ⟨oS,oS,oS,oS,⟨_,rfl,.inr ⟨rfl,_,rfl⟩⟩,⟨_,rfl,.inr ⟨rfl,_,rfl⟩⟩,⟨_,rfl,.inr ⟨rfl,_,rfl⟩⟩,⟨_,rfl,.inr ⟨rfl,_,rfl⟩⟩,⟨_,rfl,.inr ⟨rfl,_,rfl⟩⟩,trivial⟩) (ClM.of (by simp only[List.all_cons,inMV (rowsC_isV _),inMV (v_sC _)];rfl)) (fun _=>Fresh.of rfl) rfl (fun x C7 H1 l7 k7 kH hqx=>?_)
   obtain⟨hxc,hxo⟩:=hqx y rfl
   refine vv ?_
   refine CallQ.mi 90 hen (pM_cl T _) ⟨oS,oS,trivial⟩ ?_
   refine vv ?_
   have hln:(d.cus++[x]).length=d.cus.length+1:=List.length_append
   have hdm:=hd.mono (hH6.trans k7)
   have hR2:=hR {d with cus:=d.cus++[x]} C7 l7 (fun d' h=>by cases h;exact⟨by simp[DgL.c,hxc],⟨(fun c hc=>(List.mem_append.1 hc).elim (hdm.cus c) (fun hc=>(List.mem_singleton.1 hc)▸hxo.mono kH)),hdm.mas,hdm.bls⟩,by rw[hsrt];exact⟨fun _=>rfl,fun h=>absurd rfl h,fun _=>rfl,fun _=>rfl,fun _=>rfl,fun _=>rfl⟩⟩)
   rw[hsrt]at hR2
   simp only[lnN,dgN,nm6,Nat.reduceBEq,Nat.reduceAdd,cond_true,cond_false,hln]at hR2
   exact RetQ.of hR2 rfl scc rvv (SubV.sub0 ⟨oR,oR,oR,oR,oL,oL,oR,oR,oL,oR,oR,oR,oR,trivial⟩) (ClM.of (by simp only[List.cons_append,List.nil_append,List.all_cons,inMV (rowsC_isV _),inMV (v_sC _)];rfl)) (ClV.of rfl)
 by_cases h2:(hereP T p).s=[109,97,112]
 ·have hag:aget (lnM (gval β0 (.p 1 0))) ⟨(hereP T p).s.toArray⟩=some (fB 153 (gval β0 (.p 1 0))):=by rw[h2];unfold lnM;rw[ag_cons,if_neg (by decide),ag_cons,if_neg (by decide),ag_cons,if_pos rfl]
  have hsrt:srt (hereP T p).s=2:=by unfold srt;rw[if_neg h0,if_neg h1,if_pos h2]
  rw[if_neg h0,if_neg h1,if_pos h2]at hX
  have hcl:d.c.mas.length=d.mas.length:=List.length_map _
  rw[hcl]at hX
  refine Sm.opC 60 rfl rfl (.inl rfl) (fun _=>StpC.lookup (v:= .tup [.c (.v (fB 153 (gval β0 (.p 1 0)))),.c (.v (.bool true))]) rfl rfl rfl rfl rfl m6 (fun β=>by rw[hag];rfl)) ?_
  simp(maxSteps:=2000000) only[go_sem,hk1,bne,aP (show T.length≤100000 by omega) h]
  refine Sm.callB (xs:=[.c (.p 4 0),tkV (hereP T p)]) rfl rfl rfl rfl en153 ?_
  refine CallW.pin (L:=[1]) (β0:=β0) (xs:=[.c (.p 1 0),.c (.p 4 0),tkV (hereP T p)]) (hpn.lf l6) rfl ?_
  have hc:=map_ (H:=C6.hp) T hT g sT hN (advP p) hpa (hereP T p) d hb.mas
  have hon:=map_on g (hereP T p) d.mas.length hpa
  have h4:E4 T (mapP T (hereP T p) d.mas.length (advP p)):=map_4 (hereP T p) d.mas.length (advP p)
  generalize mapP T (hereP T p) d.mas.length (advP p)=r at hc hon h4 hX
  obtain⟨o,q⟩:=r
  have hq:q.at_<T.length:=hon.2
  cases o with
  |none=>
   simp only[Option.map_none,bnd]at hX
   subst hX
   simp only[Option.isSome_none]at hc
   refine CallW.x 80 l6 hc (Hp.le.refl _) (SubS.sub ⟨oS,oS,oS,oS,⟨_,rfl,.inr ⟨rfl,_,rfl⟩⟩,⟨_,rfl,.inr ⟨rfl,_,rfl⟩⟩,⟨_,rfl,.inr ⟨rfl,_,rfl⟩⟩,⟨_,rfl,.inr ⟨rfl,_,rfl⟩⟩,⟨_,rfl,.inr ⟨rfl,_,rfl⟩⟩,trivial⟩) (ClM.of (by simp only[List.all_cons,inMV (rowsC_isV _),inMV (v_sC _)];rfl)) (fun _=>Fresh.of rfl) rfl (fun x C7 H1 l7 k7 _ _=>?_)
   refine vv ?_
   refine CallQ.guard (v:=Bo false) (xs:=[]) 90 (fun h=>by cases h) (fun h=>by cases h) ?_
   refine vv ?_
   exact RetQ.of (hR d C7 l7 (fun d' h=>by cases h)) rfl scc rvv (SubV.sub0 ⟨oR,oL,oR,oR,oR,oR,oR,oR,oR,oR,trivial⟩) (clF _) (ClV.of rfl)
  |some y=>
   simp only[Option.map_some,bnd,end_4 (h4 rfl),bndB]at hX
   subst hX
   simp only[Option.isSome_some]at hc
   have hen:=end_ T (by omega) q hq
   rw[end_4 (h4 rfl)]at hen
   refine CallW.x 80 l6 hc (Hp.le.refl _) (SubS.sub ⟨oS,oS,oS,oS,⟨_,rfl,.inr ⟨rfl,_,rfl⟩⟩,⟨_,rfl,.inr ⟨rfl,_,rfl⟩⟩,⟨_,rfl,.inr ⟨rfl,_,rfl⟩⟩,⟨_,rfl,.inr ⟨rfl,_,rfl⟩⟩,⟨_,rfl,.inr ⟨rfl,_,rfl⟩⟩,trivial⟩) (ClM.of (by simp only[List.all_cons,inMV (rowsC_isV _),inMV (v_sC _)];rfl)) (fun _=>Fresh.of rfl) rfl (fun x C7 H1 l7 k7 kH hqx=>?_)
   obtain⟨hxc,hxo⟩:=hqx y rfl
   refine vv ?_
   refine CallQ.mi 90 hen (pM_cl T _) ⟨oS,oS,trivial⟩ ?_
   refine vv ?_
   have hln:(d.mas++[x]).length=d.mas.length+1:=List.length_append
   have hdm:=hd.mono (hH6.trans k7)
   have hR2:=hR {d with mas:=d.mas++[x]} C7 l7 (fun d' h=>by cases h;exact⟨by simp[DgL.c,hxc],⟨hdm.cus,(fun c hc=>(List.mem_append.1 hc).elim (hdm.mas c) (fun hc=>(List.mem_singleton.1 hc)▸hxo.mono kH)),hdm.bls⟩,by rw[hsrt];exact⟨fun _=>rfl,fun _=>rfl,fun h=>absurd rfl h,fun _=>rfl,fun _=>rfl,fun _=>rfl⟩⟩)
   rw[hsrt]at hR2
   simp only[lnN,dgN,nm6,Nat.reduceBEq,Nat.reduceAdd,cond_true,cond_false,hln]at hR2
   exact RetQ.of hR2 rfl scc rvv (SubV.sub0 ⟨oR,oR,oR,oR,oL,oL,oR,oR,oR,oL,oR,oR,oR,trivial⟩) (ClM.of (by simp only[List.cons_append,List.nil_append,List.all_cons,inMV (rowsC_isV _),inMV (v_sC _)];rfl)) (ClV.of rfl)
 by_cases h3:(hereP T p).s=[105,110]
 ·have hag:aget (lnM (gval β0 (.p 1 0))) ⟨(hereP T p).s.toArray⟩=some (fB 154 (gval β0 (.p 1 0))):=by rw[h3];unfold lnM;rw[ag_cons,if_neg (by decide),ag_cons,if_neg (by decide),ag_cons,if_neg (by decide),ag_cons,if_pos rfl]
  have hsrt:srt (hereP T p).s=3:=by unfold srt;rw[if_neg h0,if_neg h1,if_neg h2,if_pos h3]
  rw[if_neg h0,if_neg h1,if_neg h2,if_pos h3]at hX
  have hcl:d.c.ins.length=d.ins.length:=rfl
  rw[hcl]at hX
  refine Sm.opC 60 rfl rfl (.inl rfl) (fun _=>StpC.lookup (v:= .tup [.c (.v (fB 154 (gval β0 (.p 1 0)))),.c (.v (.bool true))]) rfl rfl rfl rfl rfl m6 (fun β=>by rw[hag];rfl)) ?_
  simp(maxSteps:=2000000) only[go_sem,hk1,bne,aP (show T.length≤100000 by omega) h]
  refine Sm.callB (xs:=[.c (.p 4 0),tkV (hereP T p)]) rfl rfl rfl rfl en154 ?_
  refine CallW.pin (L:=[1]) (β0:=β0) (xs:=[.c (.p 1 0),.c (.p 4 0),tkV (hereP T p)]) (hpn.lf l6) rfl ?_
  have hc:=in_ T hT g sT hN (advP p) hpa (hereP T p) d hb.ins
  have hon:=inp_on g (hereP T p) d.ins.length hpa
  have h4:E4 T (inpP T (hereP T p) d.ins.length (advP p)):=inp_4 (hereP T p) d.ins.length (advP p)
  generalize inpP T (hereP T p) d.ins.length (advP p)=r at hc hon h4 hX
  obtain⟨o,q⟩:=r
  have hq:q.at_<T.length:=hon.2
  cases o with
  |none=>
   simp only[Option.map_none,bnd]at hX
   subst hX
   simp only[Option.isSome_none]at hc
   refine CallW.x 80 l6 (hc.toX (H:=C6.hp)) (Hp.le.refl _) (SubS.sub ⟨oS,oS,oS,oS,⟨_,rfl,.inr ⟨rfl,_,rfl⟩⟩,⟨_,rfl,.inr ⟨rfl,_,rfl⟩⟩,⟨_,rfl,.inr ⟨rfl,_,rfl⟩⟩,⟨_,rfl,.inr ⟨rfl,_,rfl⟩⟩,⟨_,rfl,.inr ⟨rfl,_,rfl⟩⟩,trivial⟩) (ClM.of (by simp only[List.all_cons,inMV (rowsC_isV _),inMV (v_sC _)];rfl)) (fun _=>Fresh.of rfl) rfl (fun x C7 H1 l7 k7 _ _=>?_)
   refine vv ?_
   refine CallQ.guard (v:=Bo false) (xs:=[]) 90 (fun h=>by cases h) (fun h=>by cases h) ?_
   refine vv ?_
   exact RetQ.of (hR d C7 l7 (fun d' h=>by cases h)) rfl scc rvv (SubV.sub0 ⟨oR,oL,oR,oR,oR,oR,oR,oR,oR,oR,trivial⟩) (clF _) (ClV.of rfl)
  |some y=>
   simp only[Option.map_some,bnd,end_4 (h4 rfl),bndB]at hX
   subst hX
   simp only[Option.isSome_some]at hc
   have hen:=end_ T (by omega) q hq
   rw[end_4 (h4 rfl)]at hen
   refine CallW.x 80 l6 (hc.toX (H:=C6.hp)) (Hp.le.refl _) (SubS.sub ⟨oS,oS,oS,oS,⟨_,rfl,.inr ⟨rfl,_,rfl⟩⟩,⟨_,rfl,.inr ⟨rfl,_,rfl⟩⟩,⟨_,rfl,.inr ⟨rfl,_,rfl⟩⟩,⟨_,rfl,.inr ⟨rfl,_,rfl⟩⟩,⟨_,rfl,.inr ⟨rfl,_,rfl⟩⟩,trivial⟩) (ClM.of (by simp only[List.all_cons,inMV (rowsC_isV _),inMV (v_sC _)];rfl)) (fun _=>Fresh.of rfl) rfl (fun x C7 H1 l7 k7 kH hqx=>?_)
   refine vv ?_
   refine CallQ.mi 90 hen (pM_cl T _) ⟨oS,oS,trivial⟩ ?_
   refine vv ?_
   have hln:(d.ins++[y]).length=d.ins.length+1:=List.length_append
   have hdm:=hd.mono (hH6.trans k7)
   have hR2:=hR {d with ins:=d.ins++[y]} C7 l7 (fun d' h=>by cases h;exact⟨rfl,⟨hdm.cus,hdm.mas,hdm.bls⟩,by rw[hsrt];exact⟨fun _=>rfl,fun _=>rfl,fun _=>rfl,fun h=>absurd rfl h,fun _=>rfl,fun _=>rfl⟩⟩)
   rw[hsrt]at hR2
   simp only[lnN,dgN,nm6,Nat.reduceBEq,Nat.reduceAdd,cond_true,cond_false,hln]at hR2
   exact RetQ.of hR2 rfl scc rvv (SubV.sub0 ⟨oR,oR,oR,oR,oL,oL,oR,oR,oR,oR,oL,oR,oR,trivial⟩) (ClM.of (by simp only[List.cons_append,List.nil_append,List.all_cons,inMV (rowsC_isV _),inMV (v_sC _)];rfl)) (ClV.of rfl)
 by_cases h4:(hereP T p).s=[98,108,111,99,107]
 ·have hag:aget (lnM (gval β0 (.p 1 0))) ⟨(hereP T p).s.toArray⟩=some (fB 155 (gval β0 (.p 1 0))):=by rw[h4];unfold lnM;rw[ag_cons,if_neg (by decide),ag_cons,if_neg (by decide),ag_cons,if_neg (by decide),ag_cons,if_neg (by decide),ag_cons,if_pos rfl]
  have hsrt:srt (hereP T p).s=4:=by unfold srt;rw[if_neg h0,if_neg h1,if_neg h2,if_neg h3,if_pos h4]
  rw[if_neg h0,if_neg h1,if_neg h2,if_neg h3,if_pos h4]at hX
  have hcl:d.c.bls.length=d.bls.length:=List.length_map _
  rw[hcl]at hX
  refine Sm.opC 60 rfl rfl (.inl rfl) (fun _=>StpC.lookup (v:= .tup [.c (.v (fB 155 (gval β0 (.p 1 0)))),.c (.v (.bool true))]) rfl rfl rfl rfl rfl m6 (fun β=>by rw[hag];rfl)) ?_
  simp(maxSteps:=2000000) only[go_sem,hk1,bne,aP (show T.length≤100000 by omega) h]
  refine Sm.callB (xs:=[.c (.p 4 0),tkV (hereP T p)]) rfl rfl rfl rfl en155 ?_
  refine CallW.pin (L:=[1]) (β0:=β0) (xs:=[.c (.p 1 0),.c (.p 4 0),tkV (hereP T p)]) (hpn.lf l6) rfl ?_
  have hc:=block_ (H:=C6.hp) T hT g sT hN (advP p) hpa (hereP T p) d hb.bls
  have hon:=blk_on g (hereP T p) d.bls.length hpa
  have h4:E4 T (blkP T (hereP T p) d.bls.length (advP p)):=blk_4 (hereP T p) d.bls.length (advP p)
  generalize blkP T (hereP T p) d.bls.length (advP p)=r at hc hon h4 hX
  obtain⟨o,q⟩:=r
  have hq:q.at_<T.length:=hon.2
  cases o with
  |none=>
   simp only[Option.map_none,bnd]at hX
   subst hX
   simp only[Option.isSome_none]at hc
   refine CallW.x 80 l6 hc (Hp.le.refl _) (SubS.sub ⟨oS,oS,oS,oS,⟨_,rfl,.inr ⟨rfl,_,rfl⟩⟩,⟨_,rfl,.inr ⟨rfl,_,rfl⟩⟩,⟨_,rfl,.inr ⟨rfl,_,rfl⟩⟩,⟨_,rfl,.inr ⟨rfl,_,rfl⟩⟩,⟨_,rfl,.inr ⟨rfl,_,rfl⟩⟩,trivial⟩) (ClM.of (by simp only[List.all_cons,inMV (rowsC_isV _),inMV (v_sC _)];rfl)) (fun _=>Fresh.of rfl) rfl (fun x C7 H1 l7 k7 _ _=>?_)
   refine vv ?_
   refine CallQ.guard (v:=Bo false) (xs:=[]) 90 (fun h=>by cases h) (fun h=>by cases h) ?_
   refine vv ?_
   exact RetQ.of (hR d C7 l7 (fun d' h=>by cases h)) rfl scc rvv (SubV.sub0 ⟨oR,oL,oR,oR,oR,oR,oR,oR,oR,oR,trivial⟩) (clF _) (ClV.of rfl)
  |some y=>
   simp only[Option.map_some,bnd,end_4 (h4 rfl),bndB]at hX
   subst hX
   simp only[Option.isSome_some]at hc
   have hen:=end_ T (by omega) q hq
   rw[end_4 (h4 rfl)]at hen
   refine CallW.x 80 l6 hc (Hp.le.refl _) (SubS.sub ⟨oS,oS,oS,oS,⟨_,rfl,.inr ⟨rfl,_,rfl⟩⟩,⟨_,rfl,.inr ⟨rfl,_,rfl⟩⟩,⟨_,rfl,.inr ⟨rfl,_,rfl⟩⟩,⟨_,rfl,.inr ⟨rfl,_,rfl⟩⟩,⟨_,rfl,.inr ⟨rfl,_,rfl⟩⟩,trivial⟩) (ClM.of (by simp only[List.all_cons,inMV (rowsC_isV _),inMV (v_sC _)];rfl)) (fun _=>Fresh.of rfl) rfl (fun x C7 H1 l7 k7 kH hqx=>?_)
   obtain⟨hxc,hxo⟩:=hqx y rfl
   refine vv ?_
   refine CallQ.mi 90 hen (pM_cl T _) ⟨oS,oS,trivial⟩ ?_
   refine vv ?_
   have hln:(d.bls++[x]).length=d.bls.length+1:=List.length_append
   have hdm:=hd.mono (hH6.trans k7)
   have hR2:=hR {d with bls:=d.bls++[x]} C7 l7 (fun d' h=>by cases h;exact⟨by simp[DgL.c,hxc],⟨hdm.cus,hdm.mas,(fun c hc=>(List.mem_append.1 hc).elim (hdm.bls c) (fun hc=>(List.mem_singleton.1 hc)▸hxo.mono kH))⟩,by rw[hsrt];exact⟨fun _=>rfl,fun _=>rfl,fun _=>rfl,fun _=>rfl,fun h=>absurd rfl h,fun _=>rfl⟩⟩)
   rw[hsrt]at hR2
   simp only[lnN,dgN,nm6,Nat.reduceBEq,Nat.reduceAdd,cond_true,cond_false,hln]at hR2
   exact RetQ.of hR2 rfl scc rvv (SubV.sub0 ⟨oR,oR,oR,oR,oL,oL,oR,oR,oR,oR,oR,oL,oR,trivial⟩) (ClM.of (by simp only[List.cons_append,List.nil_append,List.all_cons,inMV (rowsC_isV _),inMV (v_sC _)];rfl)) (ClV.of rfl)
 by_cases h5:(hereP T p).s=[111,117,116]
 ·have hag:aget (lnM (gval β0 (.p 1 0))) ⟨(hereP T p).s.toArray⟩=some (fB 156 (gval β0 (.p 1 0))):=by rw[h5];unfold lnM;rw[ag_cons,if_neg (by decide),ag_cons,if_neg (by decide),ag_cons,if_neg (by decide),ag_cons,if_neg (by decide),ag_cons,if_neg (by decide),ag_cons,if_pos rfl]
  have hsrt:srt (hereP T p).s=5:=by unfold srt;rw[if_neg h0,if_neg h1,if_neg h2,if_neg h3,if_neg h4,if_pos h5]
  rw[if_neg h0,if_neg h1,if_neg h2,if_neg h3,if_neg h4,if_pos h5]at hX
  have hcl:d.c.ous.length=d.ous.length:=rfl
  rw[hcl]at hX
  refine Sm.opC 60 rfl rfl (.inl rfl) (fun _=>StpC.lookup (v:= .tup [.c (.v (fB 156 (gval β0 (.p 1 0)))),.c (.v (.bool true))]) rfl rfl rfl rfl rfl m6 (fun β=>by rw[hag];rfl)) ?_
  simp(maxSteps:=2000000) only[go_sem,hk1,bne,aP (show T.length≤100000 by omega) h]
  refine Sm.callB (xs:=[.c (.p 4 0),tkV (hereP T p)]) rfl rfl rfl rfl en156 ?_
  refine CallW.pin (L:=[1]) (β0:=β0) (xs:=[.c (.p 1 0),.c (.p 4 0),tkV (hereP T p)]) (hpn.lf l6) rfl ?_
  have hc:=out_ T hT g sT (advP p) hpa (hereP T p) d hb.ous
  have hon:=out_on g (hereP T p) d.ous.length hpa
  have h4:E4 T (outP T (hereP T p) d.ous.length (advP p)):=out_4 (hereP T p) d.ous.length (advP p)
  generalize outP T (hereP T p) d.ous.length (advP p)=r at hc hon h4 hX
  obtain⟨o,q⟩:=r
  have hq:q.at_<T.length:=hon.2
  cases o with
  |none=>
   simp only[Option.map_none,bnd]at hX
   subst hX
   simp only[Option.isSome_none]at hc
   refine CallW.x 80 l6 (hc.toX (H:=C6.hp)) (Hp.le.refl _) (SubS.sub ⟨oS,oS,oS,oS,⟨_,rfl,.inr ⟨rfl,_,rfl⟩⟩,⟨_,rfl,.inr ⟨rfl,_,rfl⟩⟩,⟨_,rfl,.inr ⟨rfl,_,rfl⟩⟩,⟨_,rfl,.inr ⟨rfl,_,rfl⟩⟩,⟨_,rfl,.inr ⟨rfl,_,rfl⟩⟩,trivial⟩) (ClM.of (by simp only[List.all_cons,inMV (rowsC_isV _),inMV (v_sC _)];rfl)) (fun _=>Fresh.of rfl) rfl (fun x C7 H1 l7 k7 _ _=>?_)
   refine vv ?_
   refine CallQ.guard (v:=Bo false) (xs:=[]) 90 (fun h=>by cases h) (fun h=>by cases h) ?_
   refine vv ?_
   exact RetQ.of (hR d C7 l7 (fun d' h=>by cases h)) rfl scc rvv (SubV.sub0 ⟨oR,oL,oR,oR,oR,oR,oR,oR,oR,oR,trivial⟩) (clF _) (ClV.of rfl)
  |some y=>
   simp only[Option.map_some,bnd,end_4 (h4 rfl),bndB]at hX
   subst hX
   simp only[Option.isSome_some]at hc
   have hen:=end_ T (by omega) q hq
   rw[end_4 (h4 rfl)]at hen
   refine CallW.x 80 l6 (hc.toX (H:=C6.hp)) (Hp.le.refl _) (SubS.sub ⟨oS,oS,oS,oS,⟨_,rfl,.inr ⟨rfl,_,rfl⟩⟩,⟨_,rfl,.inr ⟨rfl,_,rfl⟩⟩,⟨_,rfl,.inr ⟨rfl,_,rfl⟩⟩,⟨_,rfl,.inr ⟨rfl,_,rfl⟩⟩,⟨_,rfl,.inr ⟨rfl,_,rfl⟩⟩,trivial⟩) (ClM.of (by simp only[List.all_cons,inMV (rowsC_isV _),inMV (v_sC _)];rfl)) (fun _=>Fresh.of rfl) rfl (fun x C7 H1 l7 k7 kH hqx=>?_)
   refine vv ?_
   refine CallQ.mi 90 hen (pM_cl T _) ⟨oS,oS,trivial⟩ ?_
   refine vv ?_
   have hln:(d.ous++y).length=d.ous.length+y.length:=List.length_append
   have hdm:=hd.mono (hH6.trans k7)
   have hR2:=hR {d with ous:=d.ous++y} C7 l7 (fun d' h=>by cases h;exact⟨rfl,⟨hdm.cus,hdm.mas,hdm.bls⟩,by rw[hsrt];exact⟨fun _=>rfl,fun _=>rfl,fun _=>rfl,fun _=>rfl,fun _=>rfl,fun h=>absurd rfl h⟩⟩)
   rw[hsrt]at hR2
   simp only[lnN,dgN,nm6,Nat.reduceBEq,Nat.reduceAdd,cond_true,cond_false,hln]at hR2
   exact RetQ.of hR2 rfl scc rvv (SubV.sub0 ⟨oR,oR,oR,oR,oL,oL,oR,oR,oR,oR,oR,oR,oL,trivial⟩) (ClM.of (by simp only[List.cons_append,List.nil_append,List.all_cons,inMV (rowsC_isV _),inMV (v_sC _)];rfl)) (ClV.of rfl)
 have hag:aget (lnM (gval β0 (.p 1 0))) ⟨(hereP T p).s.toArray⟩=none:=by unfold lnM;rw[ag_cons,if_neg (fun e=>h0 e.symm),ag_cons,if_neg (fun e=>h1 e.symm),ag_cons,if_neg (fun e=>h2 e.symm),ag_cons,if_neg (fun e=>h3 e.symm),ag_cons,if_neg (fun e=>h4 e.symm),ag_cons,if_neg (fun e=>h5 e.symm)];rfl
 rw[if_neg h0,if_neg h1,if_neg h2,if_neg h3,if_neg h4,if_neg h5]at hX
 subst hX
 refine Sm.opC 60 rfl rfl (.inl rfl) (fun _=>StpC.lookup (v:= .tup [.c (.v .nilFunc),.c (.v (.bool false))]) rfl rfl rfl rfl rfl m6 (fun β=>by rw[hag];rfl)) ?_
 simp(maxSteps:=2000000) only[go_sem,hk1,bne]
 refine CallQ.mi 70 hw (pM_cl T _) ⟨oS,oS,trivial⟩ ?_
 refine vv ?_
 exact RetQ.of (hR d C6 l6 (fun d' h=>by cases h)) rfl scc rvv (SubV.sub0 ⟨oR,oL,oR,oR,oR,oR,oR,oR,oR,oR,trivial⟩) (clF _) (ClV.of rfl)
end Go.Proofs.YtlnpgbnhcondjaaGreatDoor.Fx
