/-  -/
import Derived.Test.YtlnpgbnhcondjaaGreatDoorTf
import Derived.Test.YtlnpgbnhcondjaaGreatDoorYL
import Derived.Test.YtlnpgbnhcondjaaGreatDoorYU
import Derived.Test.YtlnpgbnhcondjaaGreatDoorYI
namespace Go.Proofs.YtlnpgbnhcondjaaGreatDoor.Fx
set_option linter.unusedVariables false
set_option linter.unusedSimpArgs false
set_option linter.unusedSectionVars false
section
variable {U:List Tk} (V:VT U)
include V
def PD (x:Option Dg×Ps)(y:Dg×Ps):Prop:=match x.1 with
 |some a=>y.1=a∧y.2.e=0
 |none=>y.2.e≠0∧er y.2=er x.2
omit V in
theorem PD.of {α:Type}{x:Option α×Ps}{y:α×Ps}(h:PR x y)(h4:E4 U x)(F:α→Dg):PD (bnd (x.1.map F,x.2) fun d p=>bndB (endP U p) fun p=>(some d,p)) (F y.1,y.2):=by
 obtain⟨o,q⟩:=x
 cases o with
 |none=>exact h
 |some a=>
  obtain⟨h1,h2⟩:=h
  subst h1
  have hk:=h4 rfl
  show PD (bndB (endP U q) fun p=>(some (F a),p)) _
  unfold endP
  rw[show(hereP U q).k=4 from hk]
  exact⟨rfl,h2⟩
omit V in
theorem PD.of2 {α:Type}{x:Option α×Ps}{y:α×Ps}{R:Ps→Ps}(h:PR x (rbd y fun a p=>(a,R p)))(h4:E4 U x)(K:α→Dg):PD (bnd (x.1.map K,x.2) fun d p=>bndB (endP U p) fun p=>(some d,p)) (rbd y fun a p=>(K a,R p)):=PD.of h h4 K
theorem add_ref (hp:1<U.length)(d:Dg):PD (lneP U false d ps0) (rAdd U d):=by
 have h0:(0:Nat)<U.length:=by omega
 have hk:=(V.v 0 h0).k1
 have hpp:(advP ps0).at_<U.length:=hp
 have he:(advP ps0).e=0:=rfl
 show PD (bif !((U.getD 0 tk0).k==1)then(none,wrnP U ps0)else match redP U (U.getD 0 tk0) d (advP ps0)with
  |none=>(none,wrnP U ps0)
  |some x=>bnd x fun d p=>bndB (endP U p) fun p=>(some d,p)) _
 have hw:=wrnE (U:=U) ps0
 have hno:∀s:Str,leB (s.getD 0 0)=true→(U.getD 0 tk0).k≠1→(U.getD 0 tk0).s≠s:=fun s hs hn h=>hn (hk.1 (by rw[h];exact hs))
 by_cases h1:(U.getD 0 tk0).k=1
 ·rw[h1]
  show PD (match redP U (U.getD 0 tk0) d (advP ps0)with
   |none=>(none,wrnP U ps0)
   |some x=>bnd x fun d p=>bndB (endP U p) fun p=>(some d,p)) _
  by_cases c0:(U.getD 0 tk0).s=[116,121,112,101]
  ·have hr:redP U (U.getD 0 tk0) d (advP ps0)=some ((typP U (U.getD 0 tk0) d.tys.length (advP ps0)).1.map (fun x=>{d with tys:=d.tys++[x]}),(typP U (U.getD 0 tk0) d.tys.length (advP ps0)).2):=by unfold redP;rw[if_pos c0]
   unfold rAdd
   rw[hr,if_pos c0]
   exact PD.of2 ((typ_ref V _).1 _ he hpp) (typ_4 V.g V.n _ _ hpp) (fun x=>{d with tys:=d.tys++[x]})
  by_cases c1:(U.getD 0 tk0).s=[99,117,114,118,101]
  ·have hr:redP U (U.getD 0 tk0) d (advP ps0)=some ((curP U (U.getD 0 tk0) d.cus.length (advP ps0)).1.map (fun x=>{d with cus:=d.cus++[x]}),(curP U (U.getD 0 tk0) d.cus.length (advP ps0)).2):=by unfold redP;rw[if_neg c0,if_pos c1]
   unfold rAdd
   rw[hr,if_neg c0,if_pos c1]
   exact PD.of2 ((cur_ref V _).1 _ he hpp) (cur_4 _ _ _) (fun x=>{d with cus:=d.cus++[x]})
  by_cases c2:(U.getD 0 tk0).s=[109,97,112]
  ·have hr:redP U (U.getD 0 tk0) d (advP ps0)=some ((mapP U (U.getD 0 tk0) d.mas.length (advP ps0)).1.map (fun x=>{d with mas:=d.mas++[x]}),(mapP U (U.getD 0 tk0) d.mas.length (advP ps0)).2):=by unfold redP;rw[if_neg c0,if_neg c1,if_pos c2]
   unfold rAdd
   rw[hr,if_neg c0,if_neg c1,if_pos c2]
   exact PD.of2 ((map_ref V _).1 _ he hpp) (map_4 _ _ _) (fun x=>{d with mas:=d.mas++[x]})
  by_cases c3:(U.getD 0 tk0).s=[105,110]
  ·have hr:redP U (U.getD 0 tk0) d (advP ps0)=some ((inpP U (U.getD 0 tk0) d.ins.length (advP ps0)).1.map (fun x=>{d with ins:=d.ins++[x]}),(inpP U (U.getD 0 tk0) d.ins.length (advP ps0)).2):=by unfold redP;rw[if_neg c0,if_neg c1,if_neg c2,if_pos c3]
   unfold rAdd
   rw[hr,if_neg c0,if_neg c1,if_neg c2,if_pos c3]
   exact PD.of2 ((inp_ref V _).1 _ he hpp) (inp_4 _ _ _) (fun x=>{d with ins:=d.ins++[x]})
  by_cases c4:(U.getD 0 tk0).s=[98,108,111,99,107]
  ·have hr:redP U (U.getD 0 tk0) d (advP ps0)=some ((blkP U (U.getD 0 tk0) d.bls.length (advP ps0)).1.map (fun x=>{d with bls:=d.bls++[x]}),(blkP U (U.getD 0 tk0) d.bls.length (advP ps0)).2):=by unfold redP;rw[if_neg c0,if_neg c1,if_neg c2,if_neg c3,if_pos c4]
   unfold rAdd
   rw[hr,if_neg c0,if_neg c1,if_neg c2,if_neg c3,if_pos c4]
   exact PD.of2 ((blk_ref V _).1 _ he hpp) (blk_4 _ _ _) (fun x=>{d with bls:=d.bls++[x]})
  by_cases c5:(U.getD 0 tk0).s=[111,117,116]
  ·have hr:redP U (U.getD 0 tk0) d (advP ps0)=some ((outP U (U.getD 0 tk0) d.ous.length (advP ps0)).1.map (fun x=>{d with ous:=d.ous++x}),(outP U (U.getD 0 tk0) d.ous.length (advP ps0)).2):=by unfold redP;rw[if_neg c0,if_neg c1,if_neg c2,if_neg c3,if_neg c4,if_pos c5]
   unfold rAdd
   rw[hr,if_neg c0,if_neg c1,if_neg c2,if_neg c3,if_neg c4,if_pos c5]
   exact PD.of ((out_ref V _).1 _ he hpp) (out_4 _ _ _) (fun x=>{d with ous:=d.ous++x})
  have hr:redP U (U.getD 0 tk0) d (advP ps0)=none:=by unfold redP;rw[if_neg c0,if_neg c1,if_neg c2,if_neg c3,if_neg c4,if_neg c5]
  unfold rAdd
  rw[hr,if_neg c0,if_neg c1,if_neg c2,if_neg c3,if_neg c4,if_neg c5]
  exact⟨hw,rfl⟩
 ·rw[beq_eq_false_iff_ne.2 h1]
  unfold rAdd
  rw[if_neg (hno _ (by decide) h1),if_neg (hno _ (by decide) h1),if_neg (hno _ (by decide) h1),if_neg (hno _ (by decide) h1),if_neg (hno _ (by decide) h1),if_neg (hno _ (by decide) h1)]
  exact⟨hw,rfl⟩
theorem beg_ref (h0:0<U.length)(d:Dg):PD (lneP U true d ps0) (rBeg U d):=by
 have hw:=wrnE (U:=U) ps0
 show PD (bndB (takP U diaT ps0) fun p=>bnd (namP U p) fun nm p=>bndB (endP U p) fun p=>(some {d with nm:=nm},p)) (({d with nm:=(rNam U (rTak U 1 diaT ps0)).1}:Dg),rEnd U (rNam U (rTak U 1 diaT ps0)).2)
 have ho:=tak_on V.g diaT (p:=ps0) h0
 unfold takP rTak at*
 rw[is1 V h0 rfl (by decide)]
 cases hb:isP U diaT ps0 with
 |false=>
  simp only[cond_false]
  rw[rNam_stk hw,rEnd_stk hw]
  exact⟨hw,rfl⟩
 |true=>
  rw[hb]at ho
  simp only[cond_true]at ho⊢
  have he:(advP ps0).e=0:=rfl
  rcases nam_two V (advP ps0) he ho.2 with⟨h1,h2⟩|⟨s,hs,h1,h2,h3⟩
  ·have hw2:=wrnE (U:=U) (advP ps0)
   show PD (bnd (namP U (advP ps0)) _) _
   rw[h1,h2]
   simp only
   rw[rEnd_stk hw2]
   exact⟨hw2,rfl⟩
  ·show PD (bnd (namP U (advP ps0)) _) _
   rw[h1,h2]
   show PD (bndB (endP U (advP (advP ps0))) fun p=>(some {d with nm:=s},p)) (({d with nm:=s}:Dg),rEnd U (advP (advP ps0)))
   have he2:(advP (advP ps0)).e=0:=rfl
   unfold endP rEnd
   rw[he2]
   cases hk:(hereP U (advP (advP ps0))).k==4 with
   |true=>exact⟨rfl,rfl⟩
   |false=>
    have e1:wrnP U (advP (advP ps0))=stopP (advP (advP ps0)) (hereP U (advP (advP ps0))).l (hereP U (advP (advP ps0))).c 3:=by unfold wrnP;rw[hk];rfl
    have hw3:=wrnE (U:=U) (advP (advP ps0))
    refine⟨?_,?_⟩
    ·show(wrnP U (advP (advP ps0))).e≠0
     exact hw3
    ·show er (wrnP U (advP (advP ps0)))=er (stopP (advP (advP ps0)) (hereP U (advP (advP ps0))).l (hereP U (advP (advP ps0))).c 3)
     rw[e1]
end
def refW:List (List Tk)→Bool→Dg→Dg×(Nat×Nat)×Int
 |[],_,d=>(d,(0,0),0)
 |U::Ls,beg,d=>if (bif beg then rBeg U d else rAdd U d).2.e≠0 then(d0,((bif beg then rBeg U d else rAdd U d).2.l,(bif beg then rBeg U d else rAdd U d).2.c),(bif beg then rBeg U d else rAdd U d).2.e)
  else refW Ls false (bif beg then rBeg U d else rAdd U d).1
theorem refW_eq:∀(Ls:List (List Tk)) (beg:Bool) (d:Dg),(∀U∈Ls,VT U∧1<U.length)→refW Ls beg d=parW Ls beg d
 |[],_,_,_=>rfl
 |U::Ls,beg,d,h=>by
  obtain⟨V,hl⟩:=h U (List.mem_cons_self ..)
  have hp:PD (lneP U beg d ps0) (bif beg then rBeg U d else rAdd U d):=by
   cases beg with
   |true=>exact beg_ref V (by omega) d
   |false=>exact add_ref V hl d
  rw[refW,parW]
  generalize (bif beg then rBeg U d else rAdd U d)=y at*
  cases ho:(lneP U beg d ps0).1 with
  |none=>
   unfold PD at hp
   rw[ho]at hp
   obtain⟨h1,h2⟩:=hp
   rw[if_pos h1]
   unfold er at h2
   obtain⟨q1,q2⟩:=Prod.mk.inj h2
   obtain⟨q3,q4⟩:=Prod.mk.inj q2
   rw[q1,q3,q4]
  |some d'=>
   unfold PD at hp
   rw[ho]at hp
   obtain⟨h1,h2⟩:=hp
   rw[if_neg (by rw[h2];simp),h1]
   exact refW_eq Ls false d' fun W hW=>h W (List.mem_cons_of_mem _ hW)
open Vg Tf
set_option maxRecDepth 100000
set_option maxHeartbeats 4000000
theorem rnmb_ (s:Str):CallOk Tryz.prog 273 [S s] [] (.tup [Wi (nmbQ s).1,Wi (nmbQ s).2]) []:=by
 have h:=rap_ s
 refine CallOk.mkN 100 Tryz.func273 rfl en273 (by simp[Tryz.ntmps273]) (ClA.of rfl) rfl rfl fun C hR hP=>?_
 refine vv ?_
 refine CallQ.pure 100 h rfl ?_
 unfold nmbQ at hR
 refine vv ?_
 refine mtch (fun hc=>?_) (fun hc=>?_)
 ·rw[if_pos (by simpa using hc)]at hR
  exact RetQ.of hR rfl (vv trivial) rvr (Sub.nil _) ClM.nil (ClV.of rfl)
 rw[if_neg (by simpa using hc)]at hR
 refine mtch (fun hd=>?_) (fun hd=>?_)
 ·have hd2:1099511627776<(aprQ s).1∨(aprQ s).1< -1099511627776:=by
   by_cases h1:1099511627776<(aprQ s).1
   ·exact .inl h1
   ·rw[decide_eq_false h1,cond_false]at hd
    exact .inr (of_decide_eq_true hd)
  rw[if_pos hd2]at hR
  exact RetQ.of hR rfl (vv trivial) rvr (Sub.nil _) ClM.nil (ClV.of rfl)
 ·have hd2:¬(1099511627776<(aprQ s).1∨(aprQ s).1< -1099511627776):=by
   rintro(h1|h1)
   ·rw[decide_eq_true h1]at hd;cases hd
   ·rw[decide_eq_true h1]at hd
    cases hq:decide (1099511627776<(aprQ s).1)<;>rw[hq]at hd<;>cases hd
  rw[if_neg hd2]at hR
  exact RetQ.of hR rfl (vv trivial) rvr (Sub.nil _) ClM.nil (ClV.of rfl)
@[reducible,go_sem] def rsC (U:List Tk)(p:Ps):List Cv:=[.sl 2 0 U.length 4,nC p.at_,nC p.l,nC p.c,.v (.int .i64 p.e)]
@[reducible,go_sem] def rM (U:List Tk)(p:Ps):Mem:=[(1,⟨false,rsC U p,124⟩),(2,⟨true,rowsC (U.map Tk.r),57⟩)]
theorem rM_cl (U:List Tk)(p:Ps):ClM (rM U p):=ClM.of (by simp only[List.all_cons,inMV (rowsC_isV _)];rfl)
theorem tk_at (U:List Tk)(i:Nat)(h:i<U.length):(rowsC (U.map Tk.r))[i*4]?=some (.v (.int .i64 ((U.getD i tk0).k:Int)))∧(rowsC (U.map Tk.r))[i*4+1]?=some (.v (.string ⟨(U.getD i tk0).s.toArray⟩))∧
  (rowsC (U.map Tk.r))[i*4+2]?=some (nC (U.getD i tk0).l)∧(rowsC (U.map Tk.r))[i*4+3]?=some (nC (U.getD i tk0).c)∧((rowsC (U.map Tk.r)).drop (i*4+2)).take 2=[nC (U.getD i tk0).l,nC (U.getD i tk0).c]:=by
 have e:U.getD i tk0=U[i]:=by rw[List.getD_eq_getElem?_getD,List.getElem?_eq_getElem h];rfl
 rw[e]
 refine⟨?_,?_,?_,?_,?_⟩
 ·have:=rows_one (r:=Tk.r) (k:=4) (fun _=>rfl) U i 0 h (by omega);rwa [Nat.add_zero]at this
 ·exact rows_one (r:=Tk.r) (k:=4) (fun _=>rfl) U i 1 h (by omega)
 ·exact rows_one (r:=Tk.r) (k:=4) (fun _=>rfl) U i 2 h (by omega)
 ·exact rows_one (r:=Tk.r) (k:=4) (fun _=>rfl) U i 3 h (by omega)
 ·exact rows_fld (r:=Tk.r) (k:=4) (fun _=>rfl) U i 2 2 h (by omega)
theorem ris_ (U:List Tk)(hU:U.length≤100000)(p:Ps)(h:p.at_<U.length)(k:Nat)(s:Str):CallOk Tryz.prog 176 [.c (.p 1 0),I k,S s] (rM U p) (Bo (rIs U k s p)) []:=by
 have hM:=rM_cl U p
 obtain⟨t0,t1,_,_,_⟩:=tk_at U p.at_ h
 have hh:U.getD p.at_ tk0=hereP U p:=rfl
 rw[hh]at t0 t1
 have ek:(((hereP U p).k:Int)==(k:Int))=((hereP U p).k==k):=kB _ _
 refine CallOk.mkN 100 Tryz.func176 rfl en176 (by simp[Tryz.ntmps176]) (ClA.of rfl) rfl rfl fun C hR hP=>?_
 refine vv ?_
 unfold rIs at hR
 cases he:p.e==0 with
 |false=>
  rw[he]at hR
  refine Sm.dg 100 33 mix ?_
  simp(maxSteps:=2000000) only[go_sem,he,t0,t1,ek]
  exact RetQ.of hR rfl scc rvv (SubS.sub ⟨oS,oS,trivial⟩) hM (ClV.of rfl)
 |true=>
  rw[he]at hR
  refine Sm.dg 100 33 mix ?_
  simp(maxSteps:=2000000) only[go_sem,he,t0,t1,ek]
  refine⟨⟨by omega,by omega⟩,(fun h=>⟨h,h,by omega,by omega⟩),?_⟩
  refine RetQ.of hR rfl scc ?_ (SubS.sub ⟨oS,oS,trivial⟩) hM (ClV.of rfl)
  cases (hereP U p).k==k<;>cases (hereP U p).s==s<;>rfl
theorem rfail_ (U:List Tk)(hU:U.length≤100000)(p:Ps)(h:p.at_<U.length):CallOk Tryz.prog 177 [.c (.p 1 0)] (rM U p) (.tup []) [(1,⟨false,rsC U (wrnP U p),124⟩)]:=by
 have hM:=rM_cl U p
 have hM2:=rM_cl U (wrnP U p)
 obtain⟨t0,_,_,_,t4⟩:=tk_at U p.at_ h
 have hh:U.getD p.at_ tk0=hereP U p:=rfl
 rw[hh]at t0 t4
 have ek:(((hereP U p).k:Int)==4)=((hereP U p).k==4):=kB _ 4
 have hz:=rows_len (r:=Tk.r) (k:=4) (fun _=>rfl) U
 refine CallOk.mkN 100 Tryz.func177 rfl en177 (by simp[Tryz.ntmps177]) (ClA.of rfl) rfl rfl fun C hR hP=>?_
 refine vv ?_
 unfold wrnP stopP at hR hM2
 cases he:p.e==0 with
 |false=>
  rw[he]at hR hM2
  simp(maxSteps:=2000000) only[go_sem,he,bne]
  exact RetQ.of hR rfl scc rvv (sub_sh (SubS.sub ⟨oS,oS,trivial⟩)) (clm_sh hM2) (ClV.of rfl)
 |true=>
  rw[he]at hR hM2
  simp(maxSteps:=2000000) only[go_sem,he,bne]
  refine Sm.dgW [1] 100 16 mix ?_
  simp(maxSteps:=2000000) only[go_sem,t4]
  refine DOpQ.look (nx':=100) (sc:=True) (v:= .c (.sl 2 0 U.length 4)) [(1,⟨false,rsC U p,124⟩)] 100 ?_ trivial ⟨rfl,trivial⟩ rfl ?_
  ·simp(maxSteps:=2000000) only[go_sem]
  refine vv ?_
  refine DOpQ.look (nx':=100) (sc:=True) (v:=I p.at_) [(1,⟨false,rsC U p,124⟩)] 100 ?_ trivial ⟨rfl,trivial⟩ rfl ?_
  ·simp(maxSteps:=2000000) only[go_sem]
  simp(maxSteps:=2000000) only[go_sem,t4]
  refine⟨⟨by omega,by omega⟩,by omega,?_⟩
  have hz:=hz
  refine Sm.dg 110 8 mix ?_
  simp(maxSteps:=2000000) only[go_sem,t0,ek]
  refine⟨⟨by omega,by omega⟩,?_⟩
  cases hk:(hereP U p).k==4 with
  |true=>
   rw[hk]at hR hM2
   refine vv ?_
   exact Sm.fall hR (RetQ.of hR rfl trivial rfl (sub_sh (SubS.sub ⟨oS,oS,trivial⟩)) (clm_sh hM2) (ClV.of rfl))
  |false=>
   rw[hk]at hR hM2
   refine vv ?_
   exact Sm.fall hR (RetQ.of hR rfl trivial rfl (sub_sh (SubS.sub ⟨oS,oS,trivial⟩)) (clm_sh hM2) (ClV.of rfl))
theorem rtake_ (U:List Tk)(hU:U.length≤100000)(p:Ps)(h:p.at_<U.length)(k:Nat)(s:Str):CallOk Tryz.prog 62 [.c (.p 1 0),I k,S s] (rM U p) (.tup []) [(1,⟨false,rsC U (rTak U k s p),124⟩)]:=by
 have hM:=rM_cl U p
 have hM2:=rM_cl U (rTak U k s p)
 have hi:=ris_ U hU p h k s
 have hw:=rfail_ U hU p h
 refine CallOk.mkN 100 Tryz.func62 rfl en62 (by simp[Tryz.ntmps62]) (ClA.of rfl) rfl rfl fun C hR hP=>?_
 refine vv ?_
 refine CallQ.mi 100 hi hM ⟨oS,oS,trivial⟩ ?_
 refine vv ?_
 unfold rTak at hR hM2
 cases hb:rIs U k s p with
 |true=>
  rw[hb]at hR hM2
  simp(maxSteps:=2000000) only[go_sem,aP hU h]
  exact Sm.fall hR (RetQ.of hR rfl trivial rfl (sub_sh (SubS.sub ⟨oS,oS,trivial⟩)) (clm_sh hM2) (ClV.of rfl))
 |false=>
  rw[hb]at hR hM2
  refine vv ?_
  refine CallQ.mi 100 hw hM ⟨oS,oS,trivial⟩ ?_
  refine vv ?_
  exact RetQ.of hR rfl scc rvv (sub_sh (SubS.sub ⟨oS,oS,trivial⟩)) (clm_sh hM2) (ClV.of rfl)
theorem rend_ (U:List Tk)(hU:U.length≤100000)(p:Ps)(h:p.at_<U.length):CallOk Tryz.prog 64 [.c (.p 1 0)] (rM U p) (.tup []) [(1,⟨false,rsC U (rEnd U p),124⟩)]:=by
 have hM:=rM_cl U p
 have hM2:=rM_cl U (rEnd U p)
 have hw:=rfail_ U hU p h
 obtain⟨t0,_,_,_,_⟩:=tk_at U p.at_ h
 have hh:U.getD p.at_ tk0=hereP U p:=rfl
 rw[hh]at t0
 have ek:(((hereP U p).k:Int)==4)=((hereP U p).k==4):=kB _ 4
 refine CallOk.mkN 100 Tryz.func64 rfl en64 (by simp[Tryz.ntmps64]) (ClA.of rfl) rfl rfl fun C hR hP=>?_
 refine vv ?_
 unfold rEnd at hR hM2
 cases he:p.e==0 with
 |false=>
  rw[he]at hR hM2
  refine Sm.dg 100 14 mix ?_
  simp(maxSteps:=2000000) only[go_sem,he,t0]
  exact Sm.fall hR (RetQ.of hR rfl trivial rfl (sub_sh (SubS.sub ⟨oS,oS,trivial⟩)) (clm_sh hM2) (ClV.of rfl))
 |true=>
  rw[he]at hR hM2
  refine Sm.dg 100 14 mix ?_
  simp(maxSteps:=2000000) only[go_sem,he,t0,ek,bne]
  refine⟨⟨by omega,by omega⟩,?_⟩
  cases hk:(hereP U p).k==4 with
  |true=>
   rw[hk]at hR hM2
   refine vv ?_
   exact Sm.fall hR (RetQ.of hR rfl trivial rfl (sub_sh (SubS.sub ⟨oS,oS,trivial⟩)) (clm_sh hM2) (ClV.of rfl))
  |false=>
   rw[hk]at hR hM2
   refine vv ?_
   refine CallQ.mi 100 hw hM ⟨oS,oS,trivial⟩ ?_
   refine vv ?_
   exact Sm.fall hR (RetQ.of hR rfl trivial rfl (sub_sh (SubS.sub ⟨oS,oS,trivial⟩)) (clm_sh hM2) (ClV.of rfl))
theorem refuse_ (U:List Tk)(hU:U.length≤100000)(p:Ps)(i:Nat)(h:i<U.length)(e:Int):CallOk Tryz.prog 183 [.c (.p 1 0),I i,I e] (rM U p) (.tup []) [(1,⟨false,rsC U (rRef U i e p),124⟩)]:=by
 have hM:=rM_cl U p
 have hM2:=rM_cl U (rRef U i e p)
 obtain⟨_,_,_,_,t4⟩:=tk_at U i h
 have hz:=rows_len (r:=Tk.r) (k:=4) (fun _=>rfl) U
 refine CallOk.mkN 100 Tryz.func183 rfl en183 (by simp[Tryz.ntmps183]) (ClA.of rfl) rfl rfl fun C hR hP=>?_
 refine vv ?_
 unfold rRef stopP at hR hM2
 cases he:p.e==0 with
 |false=>
  rw[he]at hR hM2
  refine vv ?_
  exact Sm.fall hR (RetQ.of hR rfl trivial rfl (sub_sh (SubS.sub ⟨oS,oS,trivial⟩)) (clm_sh hM2) (ClV.of rfl))
 |true=>
  rw[he]at hR hM2
  simp(maxSteps:=2000000) only[go_sem,t4]
  refine⟨⟨by omega,by omega⟩,by omega,?_⟩
  exact Sm.fall hR (RetQ.of hR rfl trivial rfl (sub_sh (SubS.sub ⟨oS,oS,trivial⟩)) (clm_sh hM2) (ClV.of rfl))
theorem rname_ (U:List Tk)(hU:U.length≤100000)(p:Ps)(h:p.at_<U.length)(hs:(hereP U p).s.length≤100000)(hn:(rNam U p).2.at_<U.length):CallOk Tryz.prog 63 [.c (.p 1 0)] (rM U p) (S (rNam U p).1) [(1,⟨false,rsC U (rNam U p).2,124⟩)]:=by
 have hM:=rM_cl U p
 have hM2:=rM_cl U (rNam U p).2
 have hw:=rfail_ U hU p h
 obtain⟨t0,t1,_,_,_⟩:=tk_at U p.at_ h
 have hh:U.getD p.at_ tk0=hereP U p:=rfl
 rw[hh]at t0 t1
 have hna:=rName_ (hereP U p).s (by omega)
 have hw1:IntKind.i64.wrap (((p.at_+1:Nat):Int)-1)=(p.at_:Int):=by rw[w64 (by omega) (by omega)];omega
 refine CallOk.mkN 100 Tryz.func63 rfl en63 (by simp[Tryz.ntmps63]) (ClA.of rfl) rfl rfl fun C hR hP=>?_
 refine vv ?_
 unfold rNam at hR hM2 hn
 cases he:p.e==0 with
 |false=>
  rw[he]at hR hM2
  refine Sm.dg 100 14 mix ?_
  simp(maxSteps:=2000000) only[go_sem,he,t1,bne]
  refine CallQ.guard (v:=Bo false) (xs:=[]) 110 (fun h=>by cases h) (fun h=>by cases h) ?_
  refine vv ?_
  refine CallQ.mi 110 hw hM ⟨oS,oS,trivial⟩ ?_
  refine vv ?_
  exact RetQ.of hR rfl scc rvv (sub_sh (SubS.sub ⟨oS,oS,trivial⟩)) (clm_sh hM2) (ClV.of rfl)
 |true=>
  rw[he]at hR hM2
  refine Sm.dg 100 14 mix ?_
  simp(maxSteps:=2000000) only[go_sem,he,t1,bne]
  refine⟨⟨by omega,by omega⟩,?_⟩
  refine CallQ.pure 110 hna rfl ?_
  cases hk:nmOk (hereP U p).s with
  |false=>
   rw[hk]at hR hM2
   refine vv ?_
   refine CallQ.mi 110 hw hM ⟨oS,oS,trivial⟩ ?_
   refine vv ?_
   exact RetQ.of hR rfl scc rvv (sub_sh (SubS.sub ⟨oS,oS,trivial⟩)) (clm_sh hM2) (ClV.of rfl)
  |true=>
   rw[hk]at hR hM2
   simp(maxSteps:=2000000) only[go_sem,aP hU h]
   refine Sm.dg 110 9 mix ?_
   simp(maxSteps:=2000000) only[go_sem,hw1,t1]
   refine⟨⟨by omega,by omega⟩,?_⟩
   exact RetQ.of hR rfl scc rvv (sub_sh (SubS.sub ⟨oS,oS,trivial⟩)) (clm_sh hM2) (ClV.of rfl)
theorem rnumber_ (U:List Tk)(hU:U.length≤100000)(p:Ps)(h:p.at_<U.length):CallOk Tryz.prog 247 [.c (.p 1 0)] (rM U p) (I (rNum U p).1) [(1,⟨false,rsC U (rNum U p).2,124⟩)]:=by
 have hM:=rM_cl U p
 have hM2:=rM_cl U (rNum U p).2
 have hw:=rfail_ U hU p h
 obtain⟨t0,t1,_,_,_⟩:=tk_at U p.at_ h
 have hh:U.getD p.at_ tk0=hereP U p:=rfl
 rw[hh]at t0 t1
 have hna:=rnmb_ (hereP U p).s
 have ek:(((hereP U p).k:Int)==2)=((hereP U p).k==2):=kB _ 2
 refine CallOk.mkN 100 Tryz.func247 rfl en247 (by simp[Tryz.ntmps247]) (ClA.of rfl) rfl rfl fun C hR hP=>?_
 refine vv ?_
 unfold rNum at hR hM2
 cases he:p.e==0 with
 |false=>
  rw[he]at hR hM2
  refine Sm.dg 100 14 mix ?_
  simp(maxSteps:=2000000) only[go_sem,he,t0,bne]
  refine CallQ.mi 110 hw hM ⟨oS,oS,trivial⟩ ?_
  refine vv ?_
  exact RetQ.of hR rfl scc rvv (sub_sh (SubS.sub ⟨oS,oS,trivial⟩)) (clm_sh hM2) (ClV.of rfl)
 |true=>
  rw[he]at hR hM2
  refine Sm.dg 100 14 mix ?_
  simp(maxSteps:=2000000) only[go_sem,he,t0,bne,ek]
  refine⟨⟨by omega,by omega⟩,?_⟩
  cases hk:(hereP U p).k==2 with
  |false=>
   rw[hk]at hR hM2
   refine vv ?_
   refine CallQ.mi 110 hw hM ⟨oS,oS,trivial⟩ ?_
   refine vv ?_
   exact RetQ.of hR rfl scc rvv (sub_sh (SubS.sub ⟨oS,oS,trivial⟩)) (clm_sh hM2) (ClV.of rfl)
  |true=>
   rw[hk]at hR hM2
   refine vv ?_
   refine Sm.dg 110 16 mix ?_
   simp(maxSteps:=2000000) only[go_sem,t1]
   refine⟨⟨by omega,by omega⟩,?_⟩
   refine DCallQ.pure 120 hna rfl ?_
   simp(maxSteps:=2000000) only[go_sem,aP hU h]
   exact RetQ.of hR rfl scc rvv (sub_sh (SubS.sub ⟨oS,oS,trivial⟩)) (clm_sh hM2) (ClV.of rfl)
open Vg Tf
set_option maxRecDepth 100000
set_option maxHeartbeats 4000000
section
variable {U:List Tk}
theorem wrn_lt {p:Ps}(h:p.at_<U.length):(wrnP U p).at_<U.length:=by rw[wrn_at];exact h
theorem rNam_lt (V:VT U){p:Ps}(h:p.at_<U.length):(rNam U p).2.at_<U.length:=by
 by_cases he:p.e=0
 ·rcases nam_two V p he h with⟨_,h2⟩|⟨s,_,_,h2,h3⟩
  ·rw[h2];exact wrn_lt h
  ·rw[h2];exact h3
 ·rw[rNam_stk he];exact h
theorem rNum_lt (V:VT U){p:Ps}(h:p.at_<U.length):(rNum U p).2.at_<U.length:=by
 by_cases he:p.e=0
 ·rcases num_two V p he h with⟨_,h2⟩|⟨s,_,h2,h3⟩
  ·rw[h2];exact wrn_lt h
  ·rw[h2];exact h3
 ·rw[rNum_stk he];exact h
theorem rIs_lt (V:VT U){p:Ps}{k:Nat}{s:Str}(hk:k≠4)(h:p.at_<U.length)(hi:rIs U k s p=true):(advP p).at_<U.length:=by
 unfold rIs at hi
 rw[Bool.and_eq_true,Bool.and_eq_true]at hi
 exact(adv_on V.g h (by rw[eq_of_beq hi.2.1];exact hk)).1.2
theorem rTak_lt (V:VT U){p:Ps}{k:Nat}{s:Str}(hk:k≠4)(h:p.at_<U.length):(rTak U k s p).at_<U.length:=by
 unfold rTak
 cases hi:rIs U k s p with
 |true=>exact rIs_lt V hk h hi
 |false=>exact wrn_lt h
theorem rEnd_lt {p:Ps}(h:p.at_<U.length):(rEnd U p).at_<U.length:=by
 unfold rEnd
 cases p.e==0&& !((hereP U p).k==4)with
 |true=>exact wrn_lt h
 |false=>exact h
theorem rNuL_lt (V:VT U):∀(f:Nat) (l:List Int) (p:Ps),p.at_<U.length→(rNuL U f l p).2.at_<U.length∧(rNuL U f l p).1.length≤l.length+f
 |0,_,_,h=>⟨h,Nat.le_refl _⟩
 |f+1,l,p,h=>by
  rw[rNuL]
  cases p.e==0&&(hereP U p).k==2 with
  |true=>
   have:=rNuL_lt V f (l++[(rNum U p).1]) (rNum U p).2 (rNum_lt V h)
   rw[List.length_append,List.length_singleton]at this
   exact⟨this.1,by have:=this.2;show _≤l.length+(f+1);simp only[cond_true];omega⟩
  |false=>exact⟨h,Nat.le_add_right _ _⟩
theorem rNus_lt (V:VT U){p:Ps}(h:p.at_<U.length):(rNus U p).2.at_<U.length∧(rNus U p).1.length≤40001:=by
 have:=rNuL_lt V 40000 [(rNum U p).1] (rNum U p).2 (rNum_lt V h)
 exact⟨this.1,by have:=this.2;rw[List.length_singleton]at this;unfold rNus;omega⟩
theorem rNuL_st {f:Nat}{l:List Int}{p:Ps}(h:(p.e==0&&(hereP U p).k==2)=false):rNuL U f l p=(l,p):=by
 cases f with
 |zero=>rfl
 |succ f=>rw[rNuL,h];rfl
end
theorem get_dup {n:Nat}{b':Bk}{B:Mem}:∀{A:Mem},(A.get n).isSome=true→∀k,Mem.get (A++(n,b')::B) k=Mem.get (A++B) k
 |[],h,_=>by cases h
 |(m,b)::A,h,k=>by
  simp only[List.cons_append,Mem.get]
  cases hmk:m==k with
  |true=>rfl
  |false=>
   simp only[cond_false]
   simp only[Mem.get]at h
   cases hmn:m==n with
   |true=>
    have e1:m=n:=eq_of_beq hmn
    subst e1
    clear h hmn
    induction A with
    |nil=>simp only[List.nil_append,Mem.get,hmk,cond_false]
    |cons a A ih=>
     obtain⟨q,c⟩:=a
     simp only[List.cons_append,Mem.get]
     cases q==k with
     |true=>rfl
     |false=>exact ih
   |false=>
    rw[hmn,cond_false]at h
    exact get_dup h k
theorem sub_dup {n:Nat}{b':Bk}{A B M:Mem}(hA:(A.get n).isSome=true)(h:Sub (A++B) M):Sub (A++(n,b')::B) M:=fun k x hk=>h k x (by rw[←get_dup hA];exact hk)
theorem clm_dup {n:Nat}{b':Bk}{A B:Mem}(hA:(A.get n).isSome=true)(h:ClM (A++B)):ClM (A++(n,b')::B):=fun β β' hag k x hk=>
 h β β' (fun k hn=>hag k (by rw[get_dup hA];exact hn)) k x (by rw[←get_dup (b':=b') hA];exact hk)
theorem rnumbers_ (U:List Tk)(V:VT U)(p:Ps)(h:p.at_<U.length):CallOk Tryz.prog 249 [.c (.p 1 0)] (rM U p) (.c (.sl 3 0 (rNus U p).1.length 1)) [(1,⟨false,rsC U (rNus U p).2,124⟩),(3,⟨false,(rNus U p).1.map iC,3⟩)]:=by
 have hn:=V.n
 have hU:U.length≤100000:=by omega
 have hM:=rM_cl U p
 have hw:=rnumber_ U hU p h
 have hlt:=rNum_lt V h
 have hRu:∀q l,ClM ((1,⟨false,rsC U q,124⟩)::(3,⟨false,List.map iC l,3⟩)::rM U p):=fun q l=>ClM.of (by simp only[List.all_cons,inMV (rowsC_isV _),inMV (v_iC _)];rfl)
 refine CallOk.mkN 100 Tryz.func249 rfl en249 (by simp[Tryz.ntmps249]) (ClA.of rfl) rfl rfl fun C hR hP=>?_
 refine vv ?_
 refine CallQ.mi 100 hw hM ⟨oS,oS,trivial⟩ ?_
 unfold rNus at hR
 generalize rNum U p=y at*
 have hgo:∀{f:Nat} {l:List Int} {q:Ps},q.at_<U.length→q.e=0→(hereP U q).k=2→rNuL U (f+1) l q=rNuL U f (l++[(rNum U q).1]) (rNum U q).2∧(rNum U q).2.at_=q.at_+1:=fun{f l q} hq he hk=>by
  refine⟨by rw[rNuL,he,hk];rfl,?_⟩
  unfold rNum;rw[he,hk];rfl
 refine vv ?_
 refine Sm.loopM (M0:=rM U p) (α:={x:List Int×Ps//x.2.at_<U.length∧x.1.length≤x.2.at_+1∧∃f,U.length≤x.2.at_+f∧rNuL U 40000 [y.1] y.2=rNuL U f x.1 x.2}) hP (fun x=>[(0,true,.c (.p 1 0)),(3,true,.c (.sl 3 0 x.val.1.length 1))]) (fun x=>[(1,⟨false,rsC U x.val.2,124⟩),(2,⟨true,rowsC (U.map Tk.r),57⟩),(3,⟨false,x.val.1.map iC,3⟩)]) (fun x=>U.length-x.val.2.at_) ⟨([y.1],y.2),hlt,by show 1≤y.2.at_+1;omega,40000,by show U.length≤y.2.at_+40000;omega,rfl⟩ (fun _=>ClM.of (by simp only[List.all_cons,inMV (rowsC_isV _),inMV (v_iC _)];rfl)) (fun _=>ClE.of rfl) [(1,1),(2,2),(3,100)] ?_ ?_
 ·exact⟨rfl,⟨⟨rfl,rfl⟩,⟨rfl,rfl⟩,trivial⟩,⟨rfl,rfl,trivial⟩,⟨oR,oV (renV (rowsC_isV _)),oR,trivial⟩⟩
 rintro⟨⟨l,q⟩,hq,hl,f,hf,hx⟩ J hb
 simp only at hb hq hl hf hx⊢
 rw[hx]at hR
 obtain⟨t0,_,_,_,_⟩:=tk_at U q.at_ hq
 have hh:U.getD q.at_ tk0=hereP U q:=rfl
 rw[hh]at t0
 have ek:(((hereP U q).k:Int)==2)=((hereP U q).k==2):=kB _ 2
 refine Sm.go 200 ?_
 cases he:q.e==0 with
 |false=>
  rw[rNuL_st (by rw[he];rfl)]at hR
  refine Sm.dg 200 14 mix ?_
  simp(maxSteps:=2000000) only[go_sem,he,t0]
  have hC:ClM [(1,⟨false,rsC U q,124⟩),(3,⟨false,l.map iC,3⟩),(2,⟨true,rowsC (U.map Tk.r),57⟩)]:=ClM.of (by simp only[List.all_cons,inMV (rowsC_isV _),inMV (v_iC _)];rfl)
  exact RetQ.of hR rfl scc rvv (sub_dup (A:=[(1,_),(3,_)]) rfl (SubS.sub ⟨oS,oS,oS,trivial⟩)) (clm_dup (A:=[(1,_),(3,_)]) rfl hC) (ClV.of rfl)
 |true=>
  cases hk:(hereP U q).k==2 with
  |false=>
   rw[rNuL_st (by rw[hk,Bool.and_false])]at hR
   refine Sm.dg 200 14 mix ?_
   simp(maxSteps:=2000000) only[go_sem,he,t0,ek,hk]
   refine⟨⟨by omega,by omega⟩,?_⟩
   have hC:ClM [(1,⟨false,rsC U q,124⟩),(3,⟨false,l.map iC,3⟩),(2,⟨true,rowsC (U.map Tk.r),57⟩)]:=ClM.of (by simp only[List.all_cons,inMV (rowsC_isV _),inMV (v_iC _)];rfl)
   exact RetQ.of hR rfl scc rvv (sub_dup (A:=[(1,_),(3,_)]) rfl (SubS.sub ⟨oS,oS,oS,trivial⟩)) (clm_dup (A:=[(1,_),(3,_)]) rfl hC) (ClV.of rfl)
  |true=>
   obtain⟨f',rfl⟩:∃f',f=f'+1:=⟨f-1,by omega⟩
   obtain⟨g1,g2⟩:=hgo (f:=f') (l:=l) hq (eq_of_beq he) (eq_of_beq hk)
   rw[g1]at hx
   have hlt2:=rNum_lt V hq
   have hw2:=rnumber_ U hU q hq
   generalize rNum U q=z at*
   refine Sm.dg 200 14 mix ?_
   simp(maxSteps:=2000000) only[go_sem,he,t0,ek,hk]
   refine⟨⟨by omega,by omega⟩,?_⟩
   refine CallQ.mi 210 hw2 (rM_cl U q) ⟨oS,oS,trivial⟩ ?_
   simp(maxSteps:=2000000) only[go_sem,List.length_map]
   refine⟨⟨by omega,by omega,by omega⟩,?_⟩
   have e5:List.take l.length (l.map iC)++[.v (.int .i64 z.1)]=(l++[z.1]).map iC:=by rw[List.take_of_length_le (by simp),List.map_append];rfl
   rw[e5]
   refine hb _ _ ⟨(l++[z.1],z.2),by show z.2.at_<_;omega,by show(l++[z.1]).length≤z.2.at_+1;rw[List.length_append,List.length_singleton];omega,f',by show U.length≤z.2.at_+f';omega,hx⟩ [(1,1),(2,2),(3,211)] (by show U.length-z.2.at_<_;omega) ?_
   simp only[List.length_append,List.length_cons,List.length_nil,Nat.zero_add]
   exact⟨rfl,⟨⟨rfl,rfl⟩,⟨rfl,rfl⟩,trivial⟩,⟨rfl,rfl,trivial⟩,⟨oR,oV (renV (rowsC_isV _)),oV (renV (v_iC _)),trivial⟩⟩
end Go.Proofs.YtlnpgbnhcondjaaGreatDoor.Fx
