/-  -/
import Derived.Test.YtlnpgbnhcondjaaGreatDoorTf
import Derived.Test.YtlnpgbnhcondjaaGreatDoorYU
import Derived.Test.YtlnpgbnhcondjaaGreatDoorYV
import Derived.Test.YtlnpgbnhcondjaaGreatDoorYE
import Derived.Test.YtlnpgbnhcondjaaGreatDoorRD
namespace Go.Proofs.YtlnpgbnhcondjaaGreatDoor.Fx
set_option linter.unusedVariables false
set_option linter.unusedSimpArgs false
set_option linter.unusedSectionVars false
def SM (b:Prop){α:Type}(x:Option α×Ps):Prop:=x.1.isSome=true→b
theorem bnd_sm {b:Prop}{α β:Type}{x:Option α×Ps}{f:α→Ps→Option β×Ps}(h:∀a q,SM b (f a q)):SM b (bnd x f):=by
 obtain⟨o,q⟩:=x
 cases o with
 |none=>exact fun h=>by cases h
 |some a=>exact h a q
theorem bndB_sm {b:Prop}{β:Type}{x:Bool×Ps}{f:Ps→Option β×Ps}(h:∀q,SM b (f q)):SM b (bndB x f):=by
 obtain⟨o,q⟩:=x
 cases o with
 |false=>exact fun h=>by cases h
 |true=>exact h q
theorem bif_sm {b:Prop}{β:Type}{c:Bool}{x y:Option β×Ps}(hx:c=true→SM b x)(hy:c=false→SM b y):SM b (bif c then x else y):=by
 cases c with
 |true=>exact hx rfl
 |false=>exact hy rfl
theorem none_sm {b:Prop}{β:Type}{q:Ps}:SM b ((none:Option β),q):=fun h=>by cases h
theorem ful_sm {α:Type}(f:Tk)(m l:Nat)(p:Ps)(a:α):SM (m<l) (bndB (fulP f m l p) fun p=>(some a,p)):=by
 unfold fulP
 cases h:decide (l≤m)with
 |true=>exact none_sm
 |false=>exact fun _=>Nat.lt_of_not_le (of_decide_eq_false h)
section
variable {T:List Tk}
theorem typ_sm (f:Tk)(m:Nat)(p:Ps):SM (m<30) (typP T f m p):=by
 unfold typP
 exact bnd_sm fun _ _=>bndB_sm fun _=>bnd_sm fun _ _=>bif_sm (fun _=>none_sm) fun _=>bnd_sm fun _ _=>bnd_sm fun _ _=>bnd_sm fun _ _=>bnd_sm fun _ _=>bif_sm (fun _=>none_sm) fun _=>ful_sm _ _ _ _ _
theorem cls_sm {b:Prop}{α:Type}{p:Ps}{f:Ps→Option α×Ps}(hf:∀q,SM b (f q)):SM b (clsP T p f):=by
 unfold clsP
 exact bif_sm (fun _=>none_sm) fun _=>bif_sm (fun _=>none_sm) fun _=>hf _
theorem cur_sm (f:Tk)(m:Nat)(p:Ps):SM (m<30) (curP T f m p):=by
 unfold curP
 exact bnd_sm fun _ _=>bndB_sm fun _=>bndB_sm fun _=>bnd_sm fun _ _=>cls_sm fun _=>bif_sm (fun _=>none_sm) fun _=>ful_sm _ _ _ _ _
theorem map_sm (f:Tk)(m:Nat)(p:Ps):SM (m<30) (mapP T f m p):=by
 unfold mapP
 exact bnd_sm fun _ _=>bndB_sm fun _=>bndB_sm fun _=>bnd_sm fun _ _=>bndB_sm fun _=>bnd_sm fun _ _=>bndB_sm fun _=>bnd_sm fun _ _=>cls_sm fun _=>bif_sm (fun _=>none_sm) fun _=>ful_sm _ _ _ _ _
theorem inp_sm (f:Tk)(m:Nat)(p:Ps):SM (m<30) (inpP T f m p):=by
 unfold inpP
 exact bnd_sm fun _ _=>bndB_sm fun _=>bnd_sm fun _ _=>bnd_sm fun _ _=>bnd_sm fun _ _=>bif_sm (fun _=>none_sm) fun _=>ful_sm _ _ _ _ _
theorem blk_sm (f:Tk)(m:Nat)(p:Ps):SM (m<200) (blkP T f m p):=by
 unfold blkP
 refine bnd_sm fun _ _=>bndB_sm fun _=>bif_sm (fun _=>none_sm) fun _=>?_
 unfold bk2P
 exact bndB_sm fun _=>bnd_sm fun _ _=>bnd_sm fun _ _=>bndB_sm fun _=>bndB_sm fun _=>bnd_sm fun _ _=>bif_sm (fun _=>none_sm) fun _=>bif_sm (fun _=>none_sm) fun _=>ful_sm _ _ _ _ _
theorem out_sm (f:Tk)(m:Nat)(p:Ps):∀l,(outP T f m p).1=some l→m+l.length≤30:=by
 unfold outP
 generalize ousP T 40000 [] p=r
 obtain⟨o,q⟩:=r
 cases o with
 |none=>intro l h;cases h
 |some l2=>
  intro l h
  simp only[bnd]at h
  cases hk:(!((hereP T q).k==4))with
  |true=>rw[hk]at h;cases h
  |false=>
   rw[hk]at h
   cases hc:decide (30<m+l2.length)with
   |true=>rw[hc]at h;cases h
   |false=>
    rw[hc]at h
    cases h
    have:=of_decide_eq_false hc;omega
structure Dg.bd (d:Dg):Prop where
 tys:d.tys.length≤200
 cus:d.cus.length≤200
 mas:d.mas.length≤200
 ins:d.ins.length≤200
 bls:d.bls.length≤200
 ous:d.ous.length≤200
theorem map_some' {α β:Type}{x:Option α}{f:α→β}{b:β}(h:x.map f=some b):∃a,x=some a∧b=f a:=by
 cases x with
 |none=>cases h
 |some a=>exact⟨a,rfl,(Option.some.inj h).symm⟩
theorem red_bd (f:Tk)(d:Dg)(p:Ps)(hb:d.bd):∀x,redP T f d p=some x→∀d',x.1=some d'→d'.bd:=by
 intro x hx d' hd
 obtain⟨b1,b2,b3,b4,b5,b6⟩:=hb
 unfold redP at hx
 split at hx
 ·cases hx
  obtain⟨a,h1,rfl⟩:=map_some' hd
  have:=typ_sm f d.tys.length p (by rw[h1];rfl)
  exact⟨by simp only[List.length_append,List.length_singleton];omega,b2,b3,b4,b5,b6⟩
 split at hx
 ·cases hx
  obtain⟨a,h1,rfl⟩:=map_some' hd
  have:=cur_sm f d.cus.length p (by rw[h1];rfl)
  exact⟨b1,by simp only[List.length_append,List.length_singleton];omega,b3,b4,b5,b6⟩
 split at hx
 ·cases hx
  obtain⟨a,h1,rfl⟩:=map_some' hd
  have:=map_sm f d.mas.length p (by rw[h1];rfl)
  exact⟨b1,b2,by simp only[List.length_append,List.length_singleton];omega,b4,b5,b6⟩
 split at hx
 ·cases hx
  obtain⟨a,h1,rfl⟩:=map_some' hd
  have:=inp_sm f d.ins.length p (by rw[h1];rfl)
  exact⟨b1,b2,b3,by simp only[List.length_append,List.length_singleton];omega,b5,b6⟩
 split at hx
 ·cases hx
  obtain⟨a,h1,rfl⟩:=map_some' hd
  have:=blk_sm f d.bls.length p (by rw[h1];rfl)
  exact⟨b1,b2,b3,b4,by simp only[List.length_append,List.length_singleton];omega,b6⟩
 split at hx
 ·cases hx
  obtain⟨a,h1,rfl⟩:=map_some' hd
  have:=out_sm f d.ous.length p a h1
  exact⟨b1,b2,b3,b4,b5,by simp only[List.length_append];omega⟩
 ·cases hx
theorem red_on (g:GTk T)(f:Tk)(d:Dg){p:Ps}(hp:p.at_<T.length):∀x,redP T f d p=some x→onP T p x.2:=by
 intro x hx
 unfold redP at hx
 split at hx
 ·cases hx;exact typ_on g f _ hp
 split at hx
 ·cases hx;exact cur_on g f _ hp
 split at hx
 ·cases hx;exact map_on g f _ hp
 split at hx
 ·cases hx;exact inp_on g f _ hp
 split at hx
 ·cases hx;exact blk_on g f _ hp
 split at hx
 ·cases hx;exact out_on g f _ hp
 ·cases hx
theorem endB_some {α:Type}{a b:α}{q r:Ps}(hq:q.at_<T.length)(h:(bndB (endP T q) fun p=>(some a,p))=(some b,r)):a=b∧r.at_=q.at_+1∧(hereP T q).k=4:=by
 unfold endP at h
 cases hk:(hereP T q).k==4 with
 |true=>
  rw[hk]at h
  have h:(some a,advP q)=(some b,r):=h
  obtain⟨h1,h2⟩:=Prod.mk.inj h
  exact⟨Option.some.inj h1,by rw[←h2];rfl,eq_of_beq hk⟩
 |false=>
  rw[hk]at h
  cases h
theorem lne_go (g:GTk T)(beg:Bool)(d:Dg){p:Ps}(hp:p.at_<T.length){d':Dg}{r:Ps}(h:lneP T beg d p=(some d',r))(hb:d.bd):p.at_<r.at_∧r.at_≤T.length∧d'.bd:=by
 unfold lneP at h
 cases beg with
 |true=>
  simp only[cond_true]at h
  have ht:=tak_on g diaT hp
  generalize takP T diaT p=x at h ht
  obtain⟨b,q⟩:=x
  cases b with
  |false=>cases h
  |true=>
   simp only[bndB]at h
   have hn:=(nam_on g ht.2).1
   generalize namP T q=x at h hn
   obtain⟨o,q2⟩:=x
   cases o with
   |none=>cases h
   |some s=>
    simp only[bnd]at h
    obtain⟨h1,h2,_⟩:=endB_some (T:=T) hn.2 h
    have h3:p.at_≤q.at_:=ht.1
    have h4:q.at_≤q2.at_:=hn.1
    have h5:q2.at_<T.length:=hn.2
    have h2:r.at_=q2.at_+1:=h2
    subst h1
    exact⟨by omega,by omega,⟨hb.tys,hb.cus,hb.mas,hb.ins,hb.bls,hb.ous⟩⟩
 |false=>
  simp only[cond_false]at h
  cases hk:(!((hereP T p).k==1))with
  |true=>rw[hk]at h;cases h
  |false=>
   rw[hk]at h
   simp only[cond_false]at h
   have hk4:(hereP T p).k≠4:=by simp only[Bool.not_eq_false',beq_iff_eq]at hk;omega
   have ha:=(adv_on g hp hk4).1
   have hr:=red_on g (hereP T p) d ha.2
   have hd:=red_bd (T:=T) (hereP T p) d (advP p) hb
   cases hq:redP T (hereP T p) d (advP p)with
   |none=>rw[hq]at h;cases h
   |some x=>
    rw[hq]at h hr hd
    have hr:=hr x rfl
    have hd:=hd x rfl
    obtain⟨o,q⟩:=x
    cases o with
    |none=>cases h
    |some d2=>
     simp only[bnd]at h
     obtain⟨h1,h2,_⟩:=endB_some (T:=T) hr.2 h
     have h3:(advP p).at_≤q.at_:=hr.1
     have h4:(advP p).at_=p.at_+1:=rfl
     have h5:q.at_<T.length:=hr.2
     have h2:r.at_=q.at_+1:=h2
     subst h1
     exact⟨by omega,by omega,hd d2 rfl⟩
end
open Vg Tf
set_option maxRecDepth 100000
set_option maxHeartbeats 4000000
abbrev dgZ:DgL:=⟨[],[],[],[],[],[],[],⟨none,0⟩,⟨none,0⟩,⟨none,0⟩,⟨none,0⟩,⟨none,0⟩,⟨none,0⟩⟩
theorem dgZ_ok (H:Hp):dgZ.ok H:=⟨SlH.nil 11,SlH.nil 3,SlH.nil 4,SlH.nil 4,SlH.nil 6,SlH.nil 1,(fun c h=>by cases h),(fun c h=>by cases h),(fun c h=>by cases h)⟩
theorem tokens2_ {H:Hp}(hE:ErR H)(s:Str)(hs:s.length≤1000000):
  CallX H Tryz.prog 24 [S s] [] (fun _:Unit=> .tup [.c (.sl 2 0 (tokQ s).1.length 4),.agg [nC (tokQ s).2.1.1,nC (tokQ s).2.1.2],Wi (tokQ s).2.2]) (fun _=>[(2,⟨false,rowsC ((tokQ s).1.map Tk.r),57⟩)]) (fun _ _=>True):=by
 have h0:=(tokens_ hE s hs).ren (rn_inj [(1,2)] rfl)
 simp only[Mem.ren,List.map_cons,List.map_nil,renV (rowsC_isV _)]at h0
 exact h0
theorem renE {α:Type}{r:α→List Value}{ρ:Nat→Nat}{b:Bool}{t:TypeId}{l l':List α}(h:l=l'):(⟨b,rowsC (l.map r),t⟩:Bk).ren ρ=⟨b,rowsC (l'.map r),t⟩:=by subst h;exact renV (rowsC_isV _)
theorem renES {ρ:Nat→Nat}{b:Bool}{t:TypeId}{l l':List Str}(h:l=l'):(⟨b,l.map sC,t⟩:Bk).ren ρ=⟨b,l'.map sC,t⟩:=by subst h;exact renV (v_sC _)
theorem lne_srt (T:List Tk)(d:Dg)(p:Ps)(h:(lneP T false d p).1.isSome=true):srt (hereP T p).s<6:=by
 unfold lneP at h
 simp only[cond_false]at h
 cases hk:(!((hereP T p).k==1))with
 |true=>rw[hk]at h;cases h
 |false=>
  rw[hk]at h
  simp only[cond_false]at h
  unfold redP at h
  unfold srt
  split
  ·decide
  rename_i h0
  rw[if_neg h0]at h
  split
  ·decide
  rename_i h1
  rw[if_neg h1]at h
  split
  ·decide
  rename_i h2
  rw[if_neg h2]at h
  split
  ·decide
  rename_i h3
  rw[if_neg h3]at h
  split
  ·decide
  rename_i h4
  rw[if_neg h4]at h
  split
  ·decide
  rename_i h5
  rw[if_neg h5]at h
  cases h
theorem DgL.bd_of {d:DgL}(h:d.c.bd):d.bd:=⟨by have:=h.tys;have e:d.c.tys.length=d.tys.length:=rfl;omega,by have:=h.cus;have e:d.c.cus.length=d.cus.length:=List.length_map _;omega,by have:=h.mas;have e:d.c.mas.length=d.mas.length:=List.length_map _;omega,by have:=h.ins;have e:d.c.ins.length=d.ins.length:=rfl;omega,by have:=h.bls;have e:d.c.bls.length=d.bls.length:=List.length_map _;omega,by have:=h.ous;have e:d.c.ous.length=d.ous.length:=rfl;omega⟩
theorem dparse_ {H:Hp}(hE:ErR H)(s:Str)(hs:s.length≤1000000):
  CallX H Tryz.prog 13 [S s] [] (fun x:DgL=> .tup [W.agg (x.r.map Cv.v),.agg [nC (parD s).2.1.1,nC (parD s).2.1.2],Wi (parD s).2.2]) (fun _=>[]) (fun x H'=>x.c=(parD s).1∧x.ok H'):=by
 have hf:=tok_facts s
 have htk:=tokens2_ hE s hs
 refine CallX.mkS Tryz.func13 rfl en13 (by simp[Tryz.ntmps13]) (ClA.of rfl) (fun _=>rfl) (fun _=>rfl) fun C hR hP hH hL=>?_
 refine Sm.go 100 ?_
 refine vv ?_
 generalize hX:parD s=X at*
 unfold parD at hX
 generalize tokQ s=tq at*
 obtain⟨T,⟨el,ec⟩,ee⟩:=tq
 obtain⟨hT,sT,g,hgd⟩:=hf
 simp only at hT sT g hgd htk hX
 have hN:hNum T:=fun q hq=>by
  by_cases hq2:q.at_<T.length
  ·have hm:hereP T q∈T:=by rw[here_get hq2];exact List.getElem_mem hq2
   exact numG_ (hgd _ hm hq)
  ·have:hereP T q=tk0:=by unfold hereP;rw[List.getD_eq_getElem?_getD,List.getElem?_eq_none (by omega)];rfl
   rw[this]at hq;cases hq
 refine CallQ.x 102 hL htk hH (SubS.sub trivial) ClM.nil (fun _=>Fresh.of rfl) rfl rfl rfl (fun _ C1 H1 l1 k1 _ _=>?_)
 refine vv ?_
 refine mtch (fun hc=>?_) (fun hc=>?_)
 ·have he:ee≠0:=by simpa using hc
  rw[if_pos he]at hX
  subst hX
  refine Sm.dgW [100,101] 110 5 mix ?_
  simp(maxSteps:=2000000) only[go_sem,Mem.wo]
  exact RetQ.of (hR dgZ C1 l1 ⟨rfl,dgZ_ok _⟩) rfl (vv trivial) rfl (Sub.nil _) ClM.nil (ClV.of rfl)
 have he:ee=0:=by simpa using hc
 subst he
 rw[if_neg (by simp)]at hX
 cases hT0:((T.length:Int)==0)with
 |true=>
  have hTn:T=[]:=by
   have:=eq_of_beq hT0
   exact List.length_eq_zero_iff.1 (by omega)
  rw[if_pos hTn]at hX
  subst hX
  simp(maxSteps:=2000000) only[go_sem,hT0]
  exact RetQ.of (hR dgZ C1 l1 ⟨rfl,dgZ_ok _⟩) rfl (vv trivial) rfl (Sub.nil _) ClM.nil (ClV.of rfl)
 |false=>
 have hTn:¬T=[]:=fun h=>by rw[h]at hT0;cases hT0
 have hTp:0<T.length:=List.length_pos_iff.2 hTn
 rw[if_neg hTn]at hX
 simp(maxSteps:=2000000) only[go_sem,hT0]
 refine Sm.nilCell 10 11 93 103 1 rfl rfl rfl ?_
 refine Sm.nilCell 11 3 110 103 2 rfl rfl rfl ?_
 refine Sm.nilCell 12 4 115 103 3 rfl rfl rfl ?_
 refine Sm.nilCell 13 4 118 103 4 rfl rfl rfl ?_
 refine Sm.nilCell 14 6 82 103 5 rfl rfl rfl ?_
 refine Sm.nilCell 15 1 9 103 6 rfl rfl rfl ?_
 have v_tk:∀T:List Tk,(rowsC (T.map Tk.r)).all Cv.isV=true:=fun _=>rowsC_isV _
 have v_td:∀l:List Td,(rowsC (l.map Td.r)).all Cv.isV=true:=fun _=>rowsC_isV _
 have v_cu:∀l:List CuL,(rowsC (l.map CuL.r)).all Cv.isV=true:=fun _=>rowsC_isV _
 have v_ma:∀l:List MpL,(rowsC (l.map MpL.r)).all Cv.isV=true:=fun _=>rowsC_isV _
 have v_po:∀l:List Po,(rowsC (l.map Po.r)).all Cv.isV=true:=fun _=>rowsC_isV _
 have v_bl:∀l:List BlL,(rowsC (l.map BlL.r)).all Cv.isV=true:=fun _=>rowsC_isV _
 refine Sm.loopX (C:=C) (M0:=[]) (α:={x:DgL×Ps//x.2.at_≤T.length∧x.1.c.bd∧∃f,T.length≤x.2.at_+f∧parL T f x.1.c x.2=X}) l1 hP
  (fun x=>[(9,true,.c (.p 1 0)),(5,true,.c (.sl 2 0 T.length 4)),(8,true,.c (.p 4 0)),(2,true,.c (.p 100 0)),(3,true,.c (.p 101 0))])
  (fun x=>[bPs T x.val.2,bDg (dgC x.val.1),(2,⟨false,rowsC (T.map Tk.r),57⟩),bRw 10 Td.r 93 x.val.1.tys,bRw 11 CuL.r 110 x.val.1.cus,bRw 12 MpL.r 115 x.val.1.mas,bRw 13 Po.r 118 x.val.1.ins,bRw 14 BlL.r 82 x.val.1.bls,(15,⟨false,x.val.1.ous.map sC,9⟩),(100,⟨false,z7,30⟩),(101,⟨false,[iC 0,iC 0],32⟩)])
  (fun x hp=>x.val.1.inn hp) (fun x=>T.length-x.val.2.at_) ⟨(dgZ,⟨0,0,0,0⟩),Nat.zero_le _,⟨Nat.zero_le _,Nat.zero_le _,Nat.zero_le _,Nat.zero_le _,Nat.zero_le _,Nat.zero_le _⟩,40000,by simp only;omega,hX⟩ ⟨(fun c h=>by cases h),(fun c h=>by cases h),(fun c h=>by cases h)⟩ (fun x=>ClM.of (by simp only[List.all_cons,inMV (rowsC_isV _),inMV (v_sC _)];rfl)) (fun _=>ClE.of rfl) [(1,104),(4,103),(2,2),(10,10),(11,11),(12,12),(13,13),(14,14),(15,15),(100,100),(101,101)] ⟨rfl,trivial,⟨rfl,rfl,rfl,rfl,rfl,trivial⟩,⟨oR,oR,oV (renV (v_tk _)),oR,oR,oR,oR,oR,oR,oR,oR,trivial⟩⟩ ?_
 rintro⟨⟨d,p⟩,hp,hbd,f',hf1,hf2⟩ C2 J l2 hI hj
 simp only at hj hp hbd hI hf1 hf2⊢
 refine Sm.go 30 ?_
 refine vv ?_
 refine mtch (fun hlt=>?_) (fun hge=>?_)
 ·have hlt:=lt_of_dec hlt
  obtain⟨f',rfl⟩:∃k,f'=k+1:=⟨f'-1,by omega⟩
  rw[parL,if_pos hlt]at hf2
  have e0:(p.at_==0)=((p.at_:Int)==0):=(kB _ 0).symm
  rw[e0]at hf2
  have clZ:ClM (pZ T p d):=ClM.of (by simp only[List.all_cons,inMV (rowsC_isV _)];rfl)
  have clX:ClM (pX T p d):=ClM.of (by simp only[List.all_cons,inMV (rowsC_isV _),inMV (v_sC _)];rfl)
  cases hb0:((p.at_:Int)==0)with
  |true=>
   rw[hb0,begP_eq]at hf2
   have hc:=begin_ T hT g sT p hlt d
   have hbn:=begN_eq T d.nm p
   have hgo:=fun d' r h=>lne_go g true d.c hlt (d':=d') (r:=r) h hbd
   rw[begP_eq]at hgo
   generalize begP T p=r at hc hbn hf2 hgo
   obtain⟨o,q⟩:=r
   cases o with
   |none=>
    simp only[Option.map_none]at hf2
    subst hf2
    simp only[Option.isSome_none]at hc
    refine CallQ.mio 30 hc clZ rfl ⟨oS,oS,⟨_,rfl,.inr ⟨rfl,[],(List.append_nil _).symm⟩⟩,⟨_,rfl,.inr ⟨rfl,_,rfl⟩⟩,⟨_,rfl,.inr ⟨rfl,_,rfl⟩⟩,⟨_,rfl,.inr ⟨rfl,_,rfl⟩⟩,⟨_,rfl,.inr ⟨rfl,_,rfl⟩⟩,⟨_,rfl,.inr ⟨rfl,_,rfl⟩⟩,⟨_,rfl,.inr ⟨rfl,_,rfl⟩⟩,trivial⟩ rfl (.inl rfl) ?_
    refine vv ?_
    refine Sm.dgW [100,101] 110 11 mix ?_
    simp(maxSteps:=2000000) only[go_sem,Mem.wo]
    exact RetQ.of (hR dgZ C2 l2 ⟨rfl,dgZ_ok _⟩) rfl (vv trivial) rfl (Sub.nil _) ClM.nil (ClV.of rfl)
   |some nm=>
    have hbn:=hbn nm rfl
    rw[hbn]at hc
    simp only[Option.map_some]at hf2 hgo
    obtain⟨hg1,hg2,hg3⟩:=hgo _ _ rfl
    simp only[Option.isSome_some]at hc
    refine CallQ.mio 30 hc clZ rfl ⟨oS,oS,⟨_,rfl,.inr ⟨rfl,[],(List.append_nil _).symm⟩⟩,⟨_,rfl,.inr ⟨rfl,_,rfl⟩⟩,⟨_,rfl,.inr ⟨rfl,_,rfl⟩⟩,⟨_,rfl,.inr ⟨rfl,_,rfl⟩⟩,⟨_,rfl,.inr ⟨rfl,_,rfl⟩⟩,⟨_,rfl,.inr ⟨rfl,_,rfl⟩⟩,⟨_,rfl,.inr ⟨rfl,_,rfl⟩⟩,trivial⟩ rfl (.inl rfl) ?_
    refine vv ?_
    refine hj _ _ C2 ⟨({d with nm:=nm},q),hg2,hg3,f',by simp only;omega,hf2⟩ [(1,1),(4,4),(2,2),(10,10),(11,11),(12,12),(13,13),(14,14),(15,15),(100,100),(101,101)] l2 ⟨hI.cus,hI.mas,hI.bls⟩ (by simp only;omega) ⟨rfl,trivial,⟨rfl,rfl,rfl,rfl,rfl,trivial⟩,⟨oR,oR,oV (renV (v_tk _)),oV (renV (v_td _)),oV (renV (v_cu _)),oV (renV (v_ma _)),oV (renV (v_po _)),oV (renV (v_bl _)),oV (renV (v_sC _)),oR,oR,trivial⟩⟩
  |false=>
   rw[hb0]at hf2
   have hc:=line_ (H:=C2.hp) T hT g sT hN p hlt d (DgL.bd_of hbd) hI
   have hgo:=fun d' r h=>lne_go g false d.c hlt (d':=d') (r:=r) h hbd
   have hsr:=lne_srt T d.c p
   generalize srt (hereP T p).s=k at hc hsr
   generalize lneP T false d.c p=r at hc hf2 hgo hsr
   obtain⟨o,q⟩:=r
   cases o with
   |none=>
    simp only at hf2
    subst hf2
    simp only[Option.isSome_none]at hc
    refine CallQ.x 30 l2 hc (Hp.le.refl _) (SubS.sub ⟨oS,oS,⟨_,rfl,.inr ⟨rfl,[],(List.append_nil _).symm⟩⟩,oS,oS,oS,oS,oS,oS,trivial⟩) clX (fun _=>Fresh.of rfl) rfl rfl rfl (fun x C3 H3 l3 k3 kH hq=>?_)
    refine vv ?_
    refine Sm.dgW [100,101] 110 11 mix ?_
    simp(maxSteps:=2000000) only[go_sem,Mem.wo]
    exact RetQ.of (hR dgZ C3 l3 ⟨rfl,dgZ_ok _⟩) rfl (vv trivial) rfl (Sub.nil _) ClM.nil (ClV.of rfl)
   |some d'=>
    simp only at hf2
    have hsr:=hsr rfl
    obtain⟨hg1,hg2,hg3⟩:=hgo _ _ rfl
    simp only[Option.isSome_some]at hc
    have hk:k=0∨k=1∨k=2∨k=3∨k=4∨k=5:=by omega
    rcases hk with rfl|rfl|rfl|rfl|rfl|rfl
    ·refine CallQ.x 30 l2 hc (Hp.le.refl _) (SubS.sub ⟨oS,oS,⟨_,rfl,.inr ⟨rfl,[],(List.append_nil _).symm⟩⟩,oS,oS,oS,oS,oS,oS,trivial⟩) clX (fun _=>Fresh.of rfl) rfl rfl rfl (fun x C3 H3 l3 k3 kH hq=>?_)
     obtain⟨rfl,hxi,hx0,hx1,hx2,hx3,hx4,hx5⟩:=hq d' rfl
     simp only[lnN,dgN,nm6,Nat.reduceBEq,Nat.reduceAdd,cond_true,cond_false]
     refine vv ?_
     refine hj _ _ C3 ⟨(x,q),hg2,hg3,f',by simp only;omega,hf2⟩ [(1,1),(4,4),(2,2),(10,20),(11,11),(12,12),(13,13),(14,14),(15,15),(100,100),(101,101)] l3 (hxi.mono kH) (by simp only;omega) ⟨rfl,trivial,⟨rfl,rfl,rfl,rfl,rfl,trivial⟩,⟨oR,oR,oV (renV (v_tk _)),oV (renV (rowsC_isV _)),oV (renE (hx1 (by decide))),oV (renE (hx2 (by decide))),oV (renE (hx3 (by decide))),oV (renE (hx4 (by decide))),oV (renES (hx5 (by decide))),oR,oR,trivial⟩⟩
    ·refine CallQ.x 30 l2 hc (Hp.le.refl _) (SubS.sub ⟨oS,oS,⟨_,rfl,.inr ⟨rfl,[],(List.append_nil _).symm⟩⟩,oS,oS,oS,oS,oS,oS,trivial⟩) clX (fun _=>Fresh.of rfl) rfl rfl rfl (fun x C3 H3 l3 k3 kH hq=>?_)
     obtain⟨rfl,hxi,hx0,hx1,hx2,hx3,hx4,hx5⟩:=hq d' rfl
     simp only[lnN,dgN,nm6,Nat.reduceBEq,Nat.reduceAdd,cond_true,cond_false]
     refine vv ?_
     refine hj _ _ C3 ⟨(x,q),hg2,hg3,f',by simp only;omega,hf2⟩ [(1,1),(4,4),(2,2),(10,10),(11,21),(12,12),(13,13),(14,14),(15,15),(100,100),(101,101)] l3 (hxi.mono kH) (by simp only;omega) ⟨rfl,trivial,⟨rfl,rfl,rfl,rfl,rfl,trivial⟩,⟨oR,oR,oV (renV (v_tk _)),oV (renE (hx0 (by decide))),oV (renV (rowsC_isV _)),oV (renE (hx2 (by decide))),oV (renE (hx3 (by decide))),oV (renE (hx4 (by decide))),oV (renES (hx5 (by decide))),oR,oR,trivial⟩⟩
    ·refine CallQ.x 30 l2 hc (Hp.le.refl _) (SubS.sub ⟨oS,oS,⟨_,rfl,.inr ⟨rfl,[],(List.append_nil _).symm⟩⟩,oS,oS,oS,oS,oS,oS,trivial⟩) clX (fun _=>Fresh.of rfl) rfl rfl rfl (fun x C3 H3 l3 k3 kH hq=>?_)
     obtain⟨rfl,hxi,hx0,hx1,hx2,hx3,hx4,hx5⟩:=hq d' rfl
     simp only[lnN,dgN,nm6,Nat.reduceBEq,Nat.reduceAdd,cond_true,cond_false]
     refine vv ?_
     refine hj _ _ C3 ⟨(x,q),hg2,hg3,f',by simp only;omega,hf2⟩ [(1,1),(4,4),(2,2),(10,10),(11,11),(12,22),(13,13),(14,14),(15,15),(100,100),(101,101)] l3 (hxi.mono kH) (by simp only;omega) ⟨rfl,trivial,⟨rfl,rfl,rfl,rfl,rfl,trivial⟩,⟨oR,oR,oV (renV (v_tk _)),oV (renE (hx0 (by decide))),oV (renE (hx1 (by decide))),oV (renV (rowsC_isV _)),oV (renE (hx3 (by decide))),oV (renE (hx4 (by decide))),oV (renES (hx5 (by decide))),oR,oR,trivial⟩⟩
    ·refine CallQ.x 30 l2 hc (Hp.le.refl _) (SubS.sub ⟨oS,oS,⟨_,rfl,.inr ⟨rfl,[],(List.append_nil _).symm⟩⟩,oS,oS,oS,oS,oS,oS,trivial⟩) clX (fun _=>Fresh.of rfl) rfl rfl rfl (fun x C3 H3 l3 k3 kH hq=>?_)
     obtain⟨rfl,hxi,hx0,hx1,hx2,hx3,hx4,hx5⟩:=hq d' rfl
     simp only[lnN,dgN,nm6,Nat.reduceBEq,Nat.reduceAdd,cond_true,cond_false]
     refine vv ?_
     refine hj _ _ C3 ⟨(x,q),hg2,hg3,f',by simp only;omega,hf2⟩ [(1,1),(4,4),(2,2),(10,10),(11,11),(12,12),(13,23),(14,14),(15,15),(100,100),(101,101)] l3 (hxi.mono kH) (by simp only;omega) ⟨rfl,trivial,⟨rfl,rfl,rfl,rfl,rfl,trivial⟩,⟨oR,oR,oV (renV (v_tk _)),oV (renE (hx0 (by decide))),oV (renE (hx1 (by decide))),oV (renE (hx2 (by decide))),oV (renV (rowsC_isV _)),oV (renE (hx4 (by decide))),oV (renES (hx5 (by decide))),oR,oR,trivial⟩⟩
    ·refine CallQ.x 30 l2 hc (Hp.le.refl _) (SubS.sub ⟨oS,oS,⟨_,rfl,.inr ⟨rfl,[],(List.append_nil _).symm⟩⟩,oS,oS,oS,oS,oS,oS,trivial⟩) clX (fun _=>Fresh.of rfl) rfl rfl rfl (fun x C3 H3 l3 k3 kH hq=>?_)
     obtain⟨rfl,hxi,hx0,hx1,hx2,hx3,hx4,hx5⟩:=hq d' rfl
     simp only[lnN,dgN,nm6,Nat.reduceBEq,Nat.reduceAdd,cond_true,cond_false]
     refine vv ?_
     refine hj _ _ C3 ⟨(x,q),hg2,hg3,f',by simp only;omega,hf2⟩ [(1,1),(4,4),(2,2),(10,10),(11,11),(12,12),(13,13),(14,24),(15,15),(100,100),(101,101)] l3 (hxi.mono kH) (by simp only;omega) ⟨rfl,trivial,⟨rfl,rfl,rfl,rfl,rfl,trivial⟩,⟨oR,oR,oV (renV (v_tk _)),oV (renE (hx0 (by decide))),oV (renE (hx1 (by decide))),oV (renE (hx2 (by decide))),oV (renE (hx3 (by decide))),oV (renV (rowsC_isV _)),oV (renES (hx5 (by decide))),oR,oR,trivial⟩⟩
    ·refine CallQ.x 30 l2 hc (Hp.le.refl _) (SubS.sub ⟨oS,oS,⟨_,rfl,.inr ⟨rfl,[],(List.append_nil _).symm⟩⟩,oS,oS,oS,oS,oS,oS,trivial⟩) clX (fun _=>Fresh.of rfl) rfl rfl rfl (fun x C3 H3 l3 k3 kH hq=>?_)
     obtain⟨rfl,hxi,hx0,hx1,hx2,hx3,hx4,hx5⟩:=hq d' rfl
     simp only[lnN,dgN,nm6,Nat.reduceBEq,Nat.reduceAdd,cond_true,cond_false]
     refine vv ?_
     refine hj _ _ C3 ⟨(x,q),hg2,hg3,f',by simp only;omega,hf2⟩ [(1,1),(4,4),(2,2),(10,10),(11,11),(12,12),(13,13),(14,14),(15,25),(100,100),(101,101)] l3 (hxi.mono kH) (by simp only;omega) ⟨rfl,trivial,⟨rfl,rfl,rfl,rfl,rfl,trivial⟩,⟨oR,oR,oV (renV (v_tk _)),oV (renE (hx0 (by decide))),oV (renE (hx1 (by decide))),oV (renE (hx2 (by decide))),oV (renE (hx3 (by decide))),oV (renE (hx4 (by decide))),oV (renV (v_sC _)),oR,oR,trivial⟩⟩
 ·have hge2:¬p.at_<T.length:=fun h=>by have:=of_decide_eq_false hge;omega
  have hfx:(d.c,((0,0):Nat×Nat),(0:Int))=X:=by
   cases f' with
   |zero=>exact hf2
   |succ f'=>rw[parL,if_neg hge2]at hf2;exact hf2
  subst hfx
  refine RetQ.letgo (M0:=[]) [10,11,12,13,14,15] l2 hP rfl (by unfold concOk;simp only[List.all_cons,cokV (rowsC_isV _),cokV (v_sC _)];rfl) (fun β C3 l3 k3 kn=>?_)
  obtain⟨s0,hv0,hk0⟩:=(kn 10 _ rfl rfl rfl).vslx (sz:=11) (rows:=d.tys.map Td.r) (fun r hr=>by obtain⟨a,_,rfl⟩:=List.mem_map.1 hr;rfl) rfl
  have ei0:(d.tys.map Td.r).length=d.tys.length:=List.length_map _
  rw[ei0]at hv0 hk0
  obtain⟨s1,hv1,hk1⟩:=(kn 11 _ rfl rfl rfl).vslx (sz:=3) (rows:=d.cus.map CuL.r) (fun r hr=>by obtain⟨a,_,rfl⟩:=List.mem_map.1 hr;rfl) rfl
  have ei1:(d.cus.map CuL.r).length=d.cus.length:=List.length_map _
  rw[ei1]at hv1 hk1
  obtain⟨s2,hv2,hk2⟩:=(kn 12 _ rfl rfl rfl).vslx (sz:=4) (rows:=d.mas.map MpL.r) (fun r hr=>by obtain⟨a,_,rfl⟩:=List.mem_map.1 hr;rfl) rfl
  have ei2:(d.mas.map MpL.r).length=d.mas.length:=List.length_map _
  rw[ei2]at hv2 hk2
  obtain⟨s3,hv3,hk3⟩:=(kn 13 _ rfl rfl rfl).vslx (sz:=4) (rows:=d.ins.map Po.r) (fun r hr=>by obtain⟨a,_,rfl⟩:=List.mem_map.1 hr;rfl) rfl
  have ei3:(d.ins.map Po.r).length=d.ins.length:=List.length_map _
  rw[ei3]at hv3 hk3
  obtain⟨s4,hv4,hk4⟩:=(kn 14 _ rfl rfl rfl).vslx (sz:=6) (rows:=d.bls.map BlL.r) (fun r hr=>by obtain⟨a,_,rfl⟩:=List.mem_map.1 hr;rfl) rfl
  have ei4:(d.bls.map BlL.r).length=d.bls.length:=List.length_map _
  rw[ei4]at hv4 hk4
  obtain⟨s5,hv5,hk5⟩:=(kn 15 _ rfl rfl rfl).vslx (sz:=1) (rows:=strsR d.ous) (fun r hr=>by obtain⟨a,_,rfl⟩:=List.mem_map.1 hr;rfl) (strsC _).symm
  have ei5:(strsR d.ous).length=d.ous.length:=List.length_map _
  rw[ei5]at hv5 hk5
  simp only[Mem.conc,Env.conc,Bk.conc,Cv.conc,V.conc,List.map_cons,List.map_nil,List.contains_cons,List.contains_nil,Nat.reduceBEq,Bool.or_false,Bool.or_true,cond_true,cond_false,concV (rowsC_isV _),concV (v_sC _),hv0,hv1,hv2,hv3,hv4,hv5]
  have hI3:=hI.mono k3
  exact RetQ.of (hR ⟨d.nm,d.tys,d.cus,d.mas,d.ins,d.bls,d.ous,s0,s1,s2,s3,s4,s5⟩ C3 l3 ⟨rfl,⟨hk0,hk1,hk2,hk3,hk4,hk5,hI3.cus,hI3.mas,hI3.bls⟩⟩) rfl (vv trivial) rfl (Sub.nil _) ClM.nil (ClV.of rfl)
end Go.Proofs.YtlnpgbnhcondjaaGreatDoor.Fx
