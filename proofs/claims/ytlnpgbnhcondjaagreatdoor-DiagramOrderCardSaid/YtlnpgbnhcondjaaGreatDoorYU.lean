/-  -/
import Derived.Test.YtlnpgbnhcondjaaGreatDoorTf
import Derived.Test.YtlnpgbnhcondjaaGreatDoorOA
import Derived.Test.YtlnpgbnhcondjaaGreatDoorYQ
import Derived.Test.YtlnpgbnhcondjaaGreatDoorY0
import Derived.Test.YtlnpgbnhcondjaaGreatDoorRD
import Derived.Test.YtlnpgbnhcondjaaGreatDoorYM
import Derived.Test.YtlnpgbnhcondjaaGreatDoorYS
import Derived.Test.YtlnpgbnhcondjaaGreatDoorYF
namespace Go.Proofs.YtlnpgbnhcondjaaGreatDoor.Fx
open Vg Tf
set_option linter.unusedSimpArgs false
set_option linter.unusedVariables false
set_option maxRecDepth 100000
set_option maxHeartbeats 4000000
theorem rot_at (t i:Nat)(h:i<6):(rotW t).length=6∧∃h2:i<(rotW t).length,(rotW t)[i]=srtW.getD ((i+t)%6) []:=by
 have hl:(rotW t).length=6:=by unfold rotW;rw[List.length_map,List.length_range]
 refine⟨hl,by omega,?_⟩
 unfold rotW
 simp
theorem rank_ {H:Hp}(hS:SpR H)(t:Nat)(ht:t<256)(pv pt:Value)(ss:Sv)(hpv:PtH H pv [vsl ss 6])(hss:SlH H (vsl ss 6) 1 (strsR srtW))(hpt:PtH H pt [.int .u8 t])(l:Str)(ha:Asc l)(hl:l.length≤1000000):
  CallH H Tryz.prog 15 [S l,.c (.v pv),.c (.v pt)] (I (rkQ t l)):=by
 refine CallH.mkS Tryz.func15 rfl en15 (by simp[Tryz.ntmps15]) (ClA.of rfl) fun C hR hP hH hL=>?_
 refine Sm.bringPS 2 4 28 9 1 (hpv.mono hH) (hss.mono hH) rfl rfl (by decide) rfl ?_
 refine Sm.bringP 3 5 2 (hpt.mono hH) rfl rfl ?_
 rw[show rowsC (strsR srtW)=srtW.map sC from strsC _,show(strsR srtW).length=6 from rfl]
 refine Sm.go 100 ?_
 refine vv ?_
 refine CallQ.xS hL (fieldsX hS l ha hl) hH (SubS.sub trivial) ClM.nil (fun _=>Fresh.of rfl) rfl rfl rfl (fun x C1 H1 l1 k1 j1 p1=>?_)
 have h1:=hH.trans k1
 have p2:=p1.mono j1
 have hrk:rkQ t l=match Lib.fields l with
  |[]=> -1
  |w::_=>bif Lib.hasPrefix w diaT then-2 else ixF (fun s=>w==s) (rotW t) 0:=rfl
 have hfl:=Lib.fields_length l
 have hfn:(Lib.fields l).length≤10000000:=by
  have:∀(y:Str) (b:Bool),Lib.cntF b y≤y.length:=by
   intro y
   induction y with
   |nil=>intro b;exact Nat.le_refl _
   |cons c y ih=>
    intro b
    rw[Lib.cntF,List.length_cons]
    have:=ih (Lib.isSp c)
    split<;>omega
  rw[hfl]
  have:=this l true
  omega
 clear hfl
 generalize Lib.fields l=fs at*
 refine Sm.bringS 1 9 8 p2 rfl rfl (Sm.go 110 ?_)
 refine vv ?_
 cases fs with
 |nil=>
  refine vv ?_
  exact RetQ.int (hR C1 l1) rfl ⟨rfl,trivial⟩ hrk.symm
 |cons w r=>
  simp only at hrk
  have b0:(((w::r).length:Int)==0)=false:=by rw[List.length_cons];exact beq_eq_false_iff_ne.2 (by omega)
  have g0:((w::r).map sC)[0]?=some (sC w):=rfl
  have hp0:(0:Int)<((w::r).length:Int):=by rw[List.length_cons];omega
  generalize hL0:w::r=L at*
  simp(maxSteps:=2000000) only[go_sem,b0,g0]
  refine⟨by omega,?_⟩
  refine CallQ.h 120 (prefH (H:=H) w diaT) h1 rfl ?_
  refine vv ?_
  refine mtch (fun hd=>?_) (fun hd=>?_)
  ·rw[hd,cond_true]at hrk
   exact RetQ.int (hR C1 l1) rfl ⟨rfl,trivial⟩ hrk.symm
  rw[hd,cond_false]at hrk
  have hr6:=(rot_at t 0 (by decide)).1
  refine Sm.go 130 ?_
  refine vv ?_
  refine Sm.loopM (M0:=[]) (α:={i:Nat//i≤6∧rkQ t l=ixF (fun s=>w==s) ((rotW t).drop i) i}) (l1.pins hP) (fun i=>[(1,true,.c (.p 2 0)),(2,true,.c (.p 3 0)),(5,true,.c (.sl 1 0 L.length 1)),(17,true,I 6),(18,true,I i.val)])
   (fun _=>[(1,⟨true,L.map sC,9⟩),(3,⟨true,[.v (.int .u8 t)],5⟩),(2,⟨true,[.sl 4 0 6 1],28⟩),(4,⟨true,srtW.map sC,9⟩)]) (fun i=>6-i.val) ⟨0,by omega,hrk⟩ (fun _=>ClM.of (by simp only[List.all_cons,inMV (v_sC _)];rfl)) (fun _=>ClE.of rfl) [(1,1),(3,3),(2,2),(4,4)] ?_ ?_
  ·exact⟨rfl,trivial,⟨rfl,rfl,rfl,rfl,rfl,trivial⟩,⟨oV (renV (v_sC _)),oR,oR,oV (renV (v_sC _)),trivial⟩⟩
  rintro⟨i,hi,hx⟩ J hj
  simp only at hj hi hx⊢
  refine Sm.go 140 ?_
  refine vv ?_
  refine mtch (fun hd=>?_) (fun hd=>?_)
  ·have hd:i<6:=by have:=of_decide_eq_true hd;omega
   obtain⟨_,h2,h3⟩:=rot_at t i hd
   rw[ixF_step _ (rotW t) i h2,h3]at hx
   have hm:(i+t)%6<srtW.length:=by show _<6;omega
   have gs:=get_str hm
   have wc:IntKind.i64.wrap (t:Int)=(t:Int):=w64 (by omega) (by omega)
   have wa:IntKind.i64.wrap ((i:Int)+(t:Int))=((i+t:Nat):Int):=by rw[w64 (by omega) (by omega)];omega
   generalize srtW.getD ((i+t)%6) []=z at*
   have wt:((i+t:Nat):Int).tmod 6=(((i+t)%6:Nat):Int):=by rw[Int.tmod_eq_emod_of_nonneg (by omega)];omega
   have hm6:(i+t)%6<6:=Nat.mod_lt _ (by decide)
   generalize (i+t)%6=im at*
   refine Sm.dg 150 13 mix ?_
   simp(maxSteps:=2000000) only[go_sem,g0,wc,wa,wt,gs]
   refine⟨by omega,⟨by omega,by omega⟩,?_⟩
   refine mtch (fun he=>?_) (fun he=>?_)
   ·have he:(w==z)=true:=by simpa using he
    rw[he,cond_true]at hx
    exact RetQ.int (hR C1 l1) rfl ⟨rfl,trivial⟩ hx.symm
   ·have he:(w==z)=false:=by simpa using he
    rw[he,cond_false]at hx
    simp(maxSteps:=2000000) only[go_sem,wS (show i≤1000000000000000000 by omega)]
    exact hj _ _ ⟨i+1,hd,hx⟩ [(1,1),(3,3),(2,2),(4,4)] (by simp only;omega) ⟨rfl,trivial,⟨rfl,rfl,rfl,rfl,rfl,trivial⟩,⟨oV (renV (v_sC _)),oR,oR,oV (renV (v_sC _)),trivial⟩⟩
  ·have hd:i=6:=by have:=of_decide_eq_false hd;omega
   subst hd
   rw[List.drop_eq_nil_of_le (by omega)]at hx
   exact RetQ.int (hR C1 l1) rfl ⟨rfl,trivial⟩ hx.symm
theorem cmp_ {H:Hp}(hS:SpR H)(t:Nat)(ht:t<256)(pv pt pr:Value)(ss:Sv)(hpv:PtH H pv [vsl ss 6])(hss:SlH H (vsl ss 6) 1 (strsR srtW))(hpt:PtH H pt [.int .u8 t])(hpr:PtH H pr [.func (.func 15) #[] #[pv,pt]])(a b:Str)(ha:Asc a∧a.length≤1000000)(hb:Asc b∧b.length≤1000000):
  CallH H Tryz.prog 20 [S a,S b,.c (.v pr)] (I (rkQ t a-rkQ t b)):=by
 obtain⟨ca,rfl⟩:=PtH.ptr hpv
 obtain⟨cb,rfl⟩:=PtH.ptr hpt
 refine CallH.mkS Tryz.func20 rfl en20 (by simp[Tryz.ntmps20]) (ClA.of rfl) fun C hR hP hH hL=>?_
 refine Sm.bringP 1 39 2 (hpr.mono hH) rfl rfl (Sm.go 100 ?_)
 refine vv ?_
 have ra:=rk_rg t a
 have rb:=rk_rg t b
 have w1:IntKind.i64.wrap (rkQ t a-rkQ t b)=rkQ t a-rkQ t b:=w64 (by omega) (by omega)
 refine Sm.dg 110 5 mix ?_
 refine vv ?_
 refine DCallQ.h 110 (fun _=>rank_ hS t ht _ _ ss hpv hss hpt a ha.1 ha.2) hH (fun _=>rfl) ?_
 refine vv ?_
 refine CallQ.h 120 (rank_ hS t ht _ _ ss hpv hss hpt b hb.1 hb.2) hH rfl ?_
 simp(maxSteps:=2000000) only[go_sem,w1]
 exact RetQ.int (hR C hL) rfl ⟨rfl,trivial⟩ rfl
def LnA (l:Str):Prop:=Asc l∧l.length≤1000000
theorem cmpK_ {H:Hp}(hS:SpR H)(t:Nat)(ht:t<256)(pv pt pr:Value)(ss:Sv)(hpv:PtH H pv [vsl ss 6])(hss:SlH H (vsl ss 6) 1 (strsR srtW))(hpt:PtH H pt [.int .u8 t])(hpr:PtH H pr [.func (.func 15) #[] #[pv,pt]]):
  CmpK H 20 #[pr] (rkQ t) LnA where
 c a b ha hb:=by
  obtain⟨ca,rfl⟩:=PtH.ptr hpr
  exact cmp_ hS t ht pv pt _ ss hpv hss hpt hpr a b ha hb
 r a:=by have:=rk_rg t a;omega
theorem ous_len {T:List Tk}(g:GTk T):∀(f:Nat) (l:List Str) (p:Ps),p.at_<T.length→∀l',(ousP T f l p).1=some l'→l'.length+p.at_≤l.length+(ousP T f l p).2.at_
 |0,l,p,h,l',hl=>by cases hl
 |f+1,l,p,h,l',hl=>by
  rw[ousP]at hl⊢
  have hon:=nam_on g h
  generalize namP T p=r at hl hon⊢
  obtain⟨o,q⟩:=r
  cases o with
  |none=>cases hl
  |some s=>
   have hq:p.at_<q.at_:=hon.2 rfl
   simp only[bnd]at hl⊢
   cases hc:isP T [44] q with
   |true=>
    rw[hc]at hl
    have:=ous_len g f (l++[s]) (advP q) (is_on g hon.1.2 hc).2 l' hl
    rw[List.length_append,List.length_singleton]at this
    have e:(advP q).at_=q.at_+1:=rfl
    show _≤_+(ousP T f (l++[s]) (advP q)).2.at_
    omega
   |false=>
    rw[hc]at hl
    cases hl
    show(l++[s]).length+_≤_+q.at_
    rw[List.length_append,List.length_singleton];omega
theorem out_ (T:List Tk)(hT:T.length≤40000)(g:GTk T)(sT:STk T)(p:Ps)(h:p.at_<T.length)(f:Tk)(d:DgL)(hd:d.ous.length≤1000000):
  CallOk Tryz.prog 156 [.c (.p 1 0),.c (.p 4 0),tkV f] (pO T p d) (Bo (outP T f d.ous.length p).1.isSome)
   (bPs T (outP T f d.ous.length p).2::(match (outP T f d.ous.length p).1 with|some x=>[bDg (dgCo 25 (d.ous.length+x.length) d),(25,⟨false,(d.ous++x).map sC,9⟩),bDd 15 9]|none=>[])):=by
 have clF:∀q,ClM (bPs T q::pO T p d):=fun q=>ClM.of (by simp only[List.all_cons,inMV (rowsC_isV _),inMV (v_sC _)];rfl)
 have clS:∀q x n,ClM ([bPs T q,bDg (dgCo 25 n d),(25,⟨false,(d.ous++x).map sC,9⟩),bDd 15 9]++pO T p d):=fun q x n=>ClM.of (by simp only[List.cons_append,List.nil_append,List.all_cons,inMV (rowsC_isV _),inMV (v_sC _)];rfl)
 have cl31:∀q s,ClM [bPs T q,(31,⟨false,[sC s],9⟩),bTkT T]:=fun q n=>ClM.of (by simp only[List.all_cons,inMV (rowsC_isV _)];rfl)
 have v_tk:∀T:List Tk,(rowsC (T.map Tk.r)).all Cv.isV=true:=fun _=>rowsC_isV _
 refine CallOk.mkN 29 Tryz.func156 rfl en156 (by simp[Tryz.ntmps156]) (ClA.of rfl) (by cases (outP T f d.ous.length p).1<;>rfl) (by cases (outP T f d.ous.length p).1<;>rfl) fun C hR hP=>?_
 refine vv ?_
 generalize hX:outP T f d.ous.length p=X at*
 unfold outP at hX
 refine Sm.nilName 7 33 1 9 rfl rfl ?_
 refine Sm.loopM (M0:=pO T p d) (α:={x:List Str×Ps//x.2.at_<T.length∧x.1.length≤x.2.at_∧∃f,T.length≤x.2.at_+f∧ousP T f x.1 x.2=ousP T 40000 [] p}) hP
  (fun x=>[(0,true,.c (.p 1 0)),(1,true,.c (.p 4 0)),(5,true,.c (.p 29 0)),(7,true,.c (.sl 33 0 x.val.1.length 1))])
  (fun x=>[bPs T x.val.2,bDg (dgC d),bTkT T,(15,⟨false,d.ous.map sC,9⟩),bDd 10 93,bDd 11 110,bDd 12 115,bDd 13 118,bDd 14 82,(29,⟨false,[nC f.k,sC f.s,nC f.l,nC f.c],57⟩),(33,⟨false,x.val.1.map sC,9⟩)])
  (fun x=>T.length-x.val.2.at_) ⟨([],p),h,Nat.zero_le _,40000,by simp only;omega,rfl⟩ (fun x=>ClM.of (by simp only[List.all_cons,inMV (rowsC_isV _),inMV (v_sC _)];rfl)) (fun _=>ClE.of rfl) [(1,1),(4,4),(2,2),(15,15),(10,10),(11,11),(12,12),(13,13),(14,14),(29,29),(33,33)] ?_ ?_
 ·exact⟨rfl,⟨⟨rfl,rfl⟩,⟨rfl,rfl⟩,⟨rfl,rfl⟩,⟨rfl,rfl⟩,⟨rfl,rfl⟩,⟨rfl,rfl⟩,⟨rfl,rfl⟩,⟨rfl,rfl⟩,⟨rfl,rfl⟩,trivial⟩,⟨rfl,rfl,rfl,rfl,trivial⟩,⟨oR,oR,oV (renV (v_tk _)),oV (renV (v_sC _)),oR,oR,oR,oR,oR,oR,oR,trivial⟩⟩
 rintro⟨⟨l,q⟩,hq,hle,f',hf1,hf2⟩ J hb
 simp only at hb hq hle hf1 hf2⊢
 obtain⟨f',rfl⟩:∃k,f'=k+1:=⟨f'-1,by omega⟩
 rw[ousP]at hf2
 have hi:=nameN_ 31 rfl T (by omega) sT q hq [sC []] rfl 0 (by simp) 9
 have hon:=nam_on g hq
 generalize namP T q=r at hi hon hf2
 obtain⟨o,qa⟩:=r
 have hqa:qa.at_<T.length:=hon.1.2
 refine Sm.go 31 ?_
 refine vv ?_
 cases o with
 |none=>
  simp only[bnd]at hf2
  rw[←hf2]at hX
  simp only[bnd]at hX
  subst hX
  simp only[Option.isSome_none]at hi
  refine CallQ.mi 40 hi (cl31 _ _) ⟨oS,oS,oS,trivial⟩ ?_
  refine vv ?_
  exact RetQ.of hR rfl scc rvv (SubV.sub0 ⟨oR,oL,oR,oR,oR,oR,oR,oR,oR,oR,trivial⟩) (clF _) (ClV.of rfl)
 |some s=>
  simp only[bnd]at hf2
  have hga:q.at_<qa.at_:=hon.2 rfl
  simp only[Option.isSome_some,List.set_cons_zero]at hi
  have hll:(l.map sC).length=l.length:=List.length_map _
  have hal:List.take l.length (l.map sC)++[sC s]=(l++[s]).map sC:=by rw[List.take_of_length_le (by omega),List.map_append];rfl
  have hLl:(l++[s]).length=l.length+1:=by rw[List.length_append];rfl
  refine CallQ.mi 40 hi (cl31 _ _) ⟨oS,oS,oS,trivial⟩ ?_
  simp(maxSteps:=2000000) only[go_sem,hll,hal]
  refine⟨⟨by omega,by omega,by omega⟩,?_⟩
  have his:=is_ T (by omega) qa hqa [44]
  refine CallQ.mi 80 his (pM_cl T _) ⟨oS,oS,trivial⟩ ?_
  cases hi44:isP T [44] qa with
  |true=>
   rw[hi44]at hf2
   simp only[cond_true]at hf2
   have hadv:=is_on g hqa hi44
   simp(maxSteps:=2000000) only[go_sem,aP (show T.length≤100000 by omega) hqa]
   have haq:(advP qa).at_=qa.at_+1:=rfl
   refine hb _ _ ⟨(l++[s],advP qa),hadv.2,by simp only[hLl];omega,f',by simp only;omega,hf2⟩ [(1,1),(4,4),(2,2),(15,15),(10,10),(11,11),(12,12),(13,13),(14,14),(29,29),(33,41)] (by simp only;omega) ?_
   simp only[hLl]
   exact⟨rfl,⟨⟨rfl,rfl⟩,⟨rfl,rfl⟩,⟨rfl,rfl⟩,⟨rfl,rfl⟩,⟨rfl,rfl⟩,⟨rfl,rfl⟩,⟨rfl,rfl⟩,⟨rfl,rfl⟩,⟨rfl,rfl⟩,trivial⟩,⟨rfl,rfl,rfl,rfl,trivial⟩,⟨oR,oR,oV (renV (v_tk _)),oV (renV (v_sC _)),oR,oR,oR,oR,oR,oR,oV (renV (v_sC _)),trivial⟩⟩
  |false=>
   rw[hi44]at hf2
   simp only[cond_false]at hf2
   have hlen:=ous_len g 40000 [] p h (l++[s]) (by rw[←hf2])
   rw[←hf2]at hX hlen
   simp only[bnd,List.length_nil,hLl]at hX hlen
   clear hb
   refine vv ?_
   have hh:=here_ T (by omega) qa hqa
   have hen:=end_ T (by omega) qa hqa
   have e4:((hereP T qa).k==4)=(((hereP T qa).k:Int)==4):=(kB _ 4).symm
   rw[e4]at hX
   refine CallQ.mi 25 hh (pM_cl T _) ⟨oS,oS,trivial⟩ ?_
   cases hk:((hereP T qa).k:Int)==4 with
   |false=>
    simp(maxSteps:=2000000) only[go_sem,hk,bne]
    have he:endP T qa=(false,stopP qa (hereP T qa).l (hereP T qa).c 3):=by unfold endP;rw[e4,hk];rfl
    rw[hk,he]at hX
    rw[he]at hen
    simp only[Bool.not_false,cond_true]at hX
    subst hX
    refine CallQ.mi 92 hen (pM_cl T _) ⟨oS,oS,trivial⟩ ?_
    refine vv ?_
    exact RetQ.of hR rfl scc rvv (SubV.sub0 ⟨oR,oL,oR,oR,oR,oR,oR,oR,oR,oR,trivial⟩) (clF _) (ClV.of rfl)
   |true=>
    rw[hk]at hX
    simp only[Bool.not_true,cond_false]at hX
    simp(maxSteps:=2000000) only[go_sem,hk,bne]
    have hw:IntKind.i64.wrap ((d.ous.length:Int)+((l.length+1:Nat):Int))=((d.ous.length+(l.length+1):Nat):Int):=by rw[w64 (by omega) (by omega)];omega
    have e30:decide ((30:Int)<((d.ous.length+(l.length+1):Nat):Int))=decide (30<d.ous.length+(l.length+1)):=by rw[decide_eq_decide];omega
    rw[hw,e30]
    cases hc:decide (30<d.ous.length+(l.length+1))with
    |true=>
     rw[hc]at hX
     simp only[cond_true]at hX
     subst hX
     refine CallQ.mi 94 (stop_ T qa f.l f.c 5) (pM_cl T _) ⟨oS,oS,trivial⟩ ?_
     refine vv ?_
     exact RetQ.of hR rfl scc rvv (SubV.sub0 ⟨oR,oL,oR,oR,oR,oR,oR,oR,oR,oR,trivial⟩) (clF _) (ClV.of rfl)
    |false=>
     rw[hc]at hX
     simp only[cond_false]at hX
     subst hX
     have hol:(d.ous.map sC).length=d.ous.length:=List.length_map _
     have hsl:((l++[s]).map sC).length=l.length+1:=by rw[List.length_map];exact hLl
     have hsl2:(l.map sC++[sC s]).length=l.length+1:=by rw[List.length_append,List.length_map];rfl
     have hap:List.take d.ous.length (d.ous.map sC)++List.take (l.length+1) ((l++[s]).map sC)=(d.ous++(l++[s])).map sC:=by rw[List.take_of_length_le (by omega),List.take_of_length_le (by omega),List.map_append (l₁:=d.ous)]
     have hone:(List.take (l.length+1) ((l++[s]).map sC)).all Cv.one=true:=by rw[List.take_of_length_le (by omega)];simp[Cv.one,Value.oneCell']
     simp(maxSteps:=2000000) only[go_sem,hol,hsl,hap]
     refine⟨⟨by omega,⟨by omega,hone⟩,by omega,by omega⟩,?_⟩
     simp only[hLl]at hR
     exact RetQ.of hR rfl scc rvv (SubV.sub0 ⟨oR,oR,oR,oR,oL,oL,oR,oL,oR,oR,oR,oR,oR,trivial⟩) (clS _ _ _) (ClV.of rfl)
end Go.Proofs.YtlnpgbnhcondjaaGreatDoor.Fx
namespace Go.Proofs.YtlnpgbnhcondjaaGreatDoor
namespace Vg
open Go.RowKit
set_option linter.unusedVariables false
theorem Stp.mkB {P:Program}{o:Oper}{e:Env}{M:Mem}{f:FuncId}{x:Operand}{v:Value}(ho:o.op= .makeFunc (.func f) #[x] #[])(hx:rd e x=some (true,.c (.v v))):Stp P o e M (.c (.v (.func (.func f) #[v] #[]))) []:=
 Stp.pure fun β a hop w=>by
  have hex:=hop x (by simp[ho,Op.operands]) _ hx
  simp only[gv,V.g,Cv.g,cond_true]at hex
  unfold execOp
  simp[ho,hex,Instr.makeFunc,V.g,Cv.g]
theorem call_runB {P:Program}{o:Oper}{e:Env}{M':Mem}{f:FuncId}{pv:Value}{x:Operand}{ags:Array Operand}{tys:Array TypeId}{vs:List V}{β:Vl}{a:Act}{w:World}(ho:o.op= .call {callee:= .value x,args:=ags,argTypes:=tys})
  (hx:rd e x=some (true,.c (.v (.func (.func f) #[pv] #[])))) (hvs:ags.toList.map (rd e)=vs.map fun x=>some (true,x)) (hent:Enters P f) (hok:OpOk β M' e o a):(execOp a.eval o).run P w= .ok (.enter f (((V.c (.v pv))::vs).map (V.g β)).toArray) w:=by
 have hargs:=args_run ho hvs (hok β (Agree.refl _ _))
 have hf:a.eval x= .func (.func f) #[pv] #[]:=by
  have:=hok β (Agree.refl _ _) x (by simp[ho,Op.operands,Call.operands]) _ hx
  simpa[gv,V.g,Cv.g]using this
 have hcc:(((V.c (.v pv))::vs).map (V.g β)).toArray= #[pv]++(vs.map (V.g β)).toArray:=by
  apply Array.toList_inj.1
  simp[V.g,Cv.g]
 unfold execOp
 rw[ho]
 show((do let d ←resolve a.eval {callee:= .value x,args:=ags,argTypes:=tys} o.type;invoke d.target d.args:Sem Next)).run P w=_
 simp only[resolve,hf,Deferred.ofValue,invoke,hargs,Sem.run_bind,Sem.run_pure,Result.andThen_ok]
 have happ: #[pv]++(vs.map (V.g β)).toArray++(#[]:Array Value)= #[pv]++(vs.map (V.g β)).toArray:=Array.append_empty
 rw[happ,hent,hcc]
theorem Sm.callB {P:Program}{nt:Nat}{C:Cx}{rg:Array Oper}{o:Oper}{l:List Oper}{r:List It}{e:Env}{M:Mem}{f:FuncId}{pv:Value}{x:Operand}{ags:Array Operand}{tys:Array TypeId}{xs:List V}(hg:gd rg e o=some true)(ho:o.op= .call {callee:= .value x,args:=ags,argTypes:=tys})
  (hx:rd e x=some (true,.c (.v (.func (.func f) #[pv] #[])))) (hvs:ags.toList.map (rd e)=xs.map fun x=>some (true,x)) (hent:Enters P f) (h:CallW P nt C f (.c (.v pv)::xs) o.dst (.ops rg l::r) e M):Sm P nt C (.ops rg (o::l)::r) e M:=fun β a w h1 h2 h3 h4=>by
 have hw:Region.wanted o (yielded rg a.tmps)=true:=gd_ok (β:=β) hg (fun j want t y _ _ hy=>h2 β (Agree.refl _ _) t y hy)
 show wpListIn (fen C.lp) 0 P rg (cont P C.lp C.Q r) (o::l) a w
 refine wpListIn_step fun K hK=>?_
 rw[hw]
 simp only[if_true]
 refine Oper.wp_in C.lp (gd_nd hg).1 ?_
 unfold Oper.wp
 rw[call_runB (M':=M) ho hx hvs hent (fun β' hb x _ y hy=>rd_ok h2 hb hy),Oper.upon_enter]
 refine(h β a w h1 h2 h3 h4).mono ?_
 rintro en w' ⟨u,rfl,hc⟩
 exact hK _ _ hc
section
set_option linter.unusedSimpArgs false
variable {P:Program} {nt:Nat} {C Ck:Cx} {rg:Array Oper} {o:Oper} {l:List Oper} {r:List It} {e:Env} {M:Mem}
end
end Vg
end Go.Proofs.YtlnpgbnhcondjaaGreatDoor
namespace Go.Proofs.YtlnpgbnhcondjaaGreatDoor.Fx
open Vg Tf
set_option linter.unusedSimpArgs false
set_option linter.unusedVariables false
set_option maxRecDepth 100000
set_option maxHeartbeats 4000000
@[reducible] def pZ (T:List Tk)(p:Ps)(d:DgL):Mem:=[bPs T p,bDg (dgC d),bTkT T,bDd 10 93,bDd 11 110,bDd 12 115,bDd 13 118,bDd 14 82,bDd 15 9]
theorem name4_ (T:List Tk)(hT:T.length≤100000)(sT:STk T)(p:Ps)(h:p.at_<T.length)(d:DgL):
  CallOk Tryz.prog 149 [.c (.p 1 0),.c (.p 4 0)] (pZ T p d) (Bo (namP T p).1.isSome) (bPs T (namP T p).2::(match (namP T p).1 with|some s=>[bDg (dgC {d with nm:=s})]|none=>[])):=by
 have hM:=pM_cl T p
 have hh:=here_ T hT p h
 have hw:=wrong_ T hT p h
 have hnm:=name_ok (hereP T p).s (by have:=sT.here p;omega)
 have clF:∀q,ClM (bPs T q::pZ T p d):=fun q=>ClM.of (by simp only[List.all_cons,inMV (rowsC_isV _)];rfl)
 have clS:∀q x,ClM (bPs T q::bDg (dgC x)::pZ T p d):=fun q x=>ClM.of (by simp only[List.all_cons,inMV (rowsC_isV _)];rfl)
 have e1:((hereP T p).k==1)=(((hereP T p).k:Int)==1):=(kB _ 1).symm
 unfold namP
 rw[e1]
 cases hk:((hereP T p).k:Int)==1 with
 |false=>
  simp only[Bool.false_and,cond_false,Option.isSome_none]
  refine CallOk.mkN 100 Tryz.func149 rfl en149 (by simp[Tryz.ntmps149]) (ClA.of rfl) rfl rfl fun C hR hP=>?_
  refine vv ?_
  refine CallQ.mi 100 hh hM ⟨oS,oS,trivial⟩ ?_
  simp(maxSteps:=2000000) only[go_sem,hk,bne]
  refine CallQ.guard 110 (fun _=>hnm) (fun h=>by cases h) ?_
  simp(maxSteps:=2000000) only[go_sem,hk,bne]
  refine CallQ.mi 110 hw hM ⟨oS,oS,trivial⟩ ?_
  refine vv ?_
  exact RetQ.of hR rfl scc rvv (SubV.sub0 ⟨oR,oL,oR,oR,oR,oR,oR,oR,oR,oR,trivial⟩) (clF _) (ClV.of rfl)
 |true=>
  cases hn:nmOk (hereP T p).s with
  |false=>
   simp only[Bool.and_false,cond_false,Option.isSome_none]
   rw[hn]at hnm
   refine CallOk.mkN 100 Tryz.func149 rfl en149 (by simp[Tryz.ntmps149]) (ClA.of rfl) rfl rfl fun C hR hP=>?_
   refine vv ?_
   refine CallQ.mi 100 hh hM ⟨oS,oS,trivial⟩ ?_
   simp(maxSteps:=2000000) only[go_sem,hk,bne]
   refine CallQ.guard 110 (fun _=>hnm) (fun h=>by rw[h];rfl) ?_
   simp(maxSteps:=2000000) only[go_sem,hk,bne]
   refine CallQ.mi 110 hw hM ⟨oS,oS,trivial⟩ ?_
   refine vv ?_
   exact RetQ.of hR rfl scc rvv (SubV.sub0 ⟨oR,oL,oR,oR,oR,oR,oR,oR,oR,oR,trivial⟩) (clF _) (ClV.of rfl)
  |true=>
   simp only[Bool.and_true,cond_true,Option.isSome_some]
   rw[hn]at hnm
   refine CallOk.mkN 100 Tryz.func149 rfl en149 (by simp[Tryz.ntmps149]) (ClA.of rfl) rfl rfl fun C hR hP=>?_
   refine vv ?_
   refine CallQ.mi 100 hh hM ⟨oS,oS,trivial⟩ ?_
   simp(maxSteps:=2000000) only[go_sem,hk,bne]
   refine CallQ.guard 110 (fun _=>hnm) (fun h=>by rw[h];rfl) ?_
   simp(maxSteps:=2000000) only[go_sem,hk,bne]
   refine CallQ.mi 120 hh hM ⟨oS,oS,trivial⟩ ?_
   simp(maxSteps:=2000000) only[go_sem,aP hT h]
   exact RetQ.of hR rfl scc rvv (SubV.sub0 ⟨oR,oR,oL,oL,oR,oR,oR,oR,oR,oR,oR,trivial⟩) (clS _ _) (ClV.of rfl)
def begP (T:List Tk)(p:Ps):Option Str×Ps:=bndB (takP T diaT p) fun p=>bnd (namP T p) fun nm p=>bndB (endP T p) fun p=>(some nm,p)
def begN (T:List Tk)(n:Str)(p:Ps):Str:=match takP T diaT p with
 |(false,_)=>n
 |(true,q)=>match namP T q with
  |(none,_)=>n
  |(some s,_)=>s
theorem begN_eq (T:List Tk)(n:Str)(p:Ps):∀s,(begP T p).1=some s→begN T n p=s:=by
 intro s hs
 unfold begP at hs
 unfold begN
 generalize takP T diaT p=r at*
 obtain⟨b,q⟩:=r
 cases b with
 |false=>cases hs
 |true=>
  simp only[bndB]at hs⊢
  generalize namP T q=r at*
  obtain⟨o,q2⟩:=r
  cases o with
  |none=>cases hs
  |some s2=>
   simp only[bnd]at hs⊢
   generalize endP T q2=r at*
   obtain⟨b,q3⟩:=r
   cases b with
   |false=>cases hs
   |true=>exact Option.some.inj hs
theorem begP_eq (T:List Tk)(d:Dg)(p:Ps):lneP T true d p=((begP T p).1.map fun s=>{d with nm:=s},(begP T p).2):=by
 show bndB (takP T diaT p) _=_
 unfold begP
 generalize takP T diaT p=r
 obtain⟨b,q⟩:=r
 cases b with
 |false=>rfl
 |true=>
  simp only[bndB]
  generalize namP T q=r
  obtain⟨o,q2⟩:=r
  cases o with
  |none=>rfl
  |some s=>
   simp only[bnd]
   generalize endP T q2=r
   obtain⟨b,q3⟩:=r
   cases b<;>rfl
theorem begin_ (T:List Tk)(hT:T.length≤40000)(g:GTk T)(sT:STk T)(p:Ps)(h:p.at_<T.length)(d:DgL):
  CallOk Tryz.prog 48 [.c (.p 1 0),.c (.p 4 0),Bo true] (pZ T p d) (Bo (begP T p).1.isSome) [bPs T (begP T p).2,bDg (dgC {d with nm:=begN T d.nm p})]:=by
 have clF:∀q,ClM (bPs T q::pZ T p d):=fun q=>ClM.of (by simp only[List.all_cons,inMV (rowsC_isV _)];rfl)
 have clS:∀q x,ClM (bPs T q::bDg (dgC x)::pZ T p d):=fun q x=>ClM.of (by simp only[List.all_cons,inMV (rowsC_isV _)];rfl)
 have clZ:∀q,ClM (pZ T q d):=fun q=>ClM.of (by simp only[List.all_cons,inMV (rowsC_isV _)];rfl)
 refine CallOk.mkN 29 Tryz.func48 rfl en48 (by simp[Tryz.ntmps48]) (ClA.of rfl) rfl rfl fun C hR hP=>?_
 refine vv ?_
 generalize hX:begP T p=X at*
 generalize hY:begN T d.nm p=Y at*
 unfold begP at hX
 unfold begN at hY
 refine CallQ.mi 29 (here_ T (by omega) p h) (pM_cl T _) ⟨oS,oS,trivial⟩ ?_
 refine vv ?_
 have hi:=take_ T (by omega) p h diaT
 have hon:=tak_on g diaT h
 generalize takP T diaT p=r at hi hon hX hY
 obtain⟨b,q⟩:=r
 have hq:q.at_<T.length:=hon.2
 cases b with
 |false=>
  simp only[bndB]at hX hY
  subst hX hY
  refine CallQ.mi 40 hi (pM_cl T _) ⟨oS,oS,trivial⟩ ?_
  refine vv ?_
  refine CallQ.guard (v:=Bo false) (xs:=[]) 50 (fun h=>by cases h) (fun h=>by cases h) ?_
  refine vv ?_
  refine CallQ.guard (v:=Bo false) (xs:=[]) 60 (fun h=>by cases h) (fun h=>by cases h) ?_
  refine vv ?_
  exact RetQ.of hR rfl scc rvv (SubV.sub0 ⟨oR,oR,oL,oL,oR,oR,oR,oR,oR,oR,oR,trivial⟩) (clS _ _) (ClV.of rfl)
 |true=>
  simp only[bndB]at hX hY
  refine CallQ.mi 40 hi (pM_cl T _) ⟨oS,oS,trivial⟩ ?_
  refine vv ?_
  have hi:=name4_ T (by omega) sT q hq d
  have hon:=(nam_on g hq).1
  generalize namP T q=r at hi hon hX hY
  obtain⟨o,q2⟩:=r
  have hq2:q2.at_<T.length:=hon.2
  cases o with
  |none=>
   simp only[bnd]at hX hY
   subst hX hY
   simp only[Option.isSome_none]at hi
   refine CallQ.mi 50 hi (clZ _) ⟨oS,oS,oS,oS,oS,oS,oS,oS,oS,trivial⟩ ?_
   refine vv ?_
   refine CallQ.guard (v:=Bo false) (xs:=[]) 60 (fun h=>by cases h) (fun h=>by cases h) ?_
   refine vv ?_
   exact RetQ.of hR rfl scc rvv (SubV.sub0 ⟨oR,oR,oL,oL,oR,oR,oR,oR,oR,oR,oR,trivial⟩) (clS _ _) (ClV.of rfl)
  |some s=>
   simp only[bnd]at hX hY
   subst hY
   simp only[Option.isSome_some]at hi
   refine CallQ.mi 50 hi (clZ _) ⟨oS,oS,oS,oS,oS,oS,oS,oS,oS,trivial⟩ ?_
   refine vv ?_
   have hen:=end_ T (by omega) q2 hq2
   generalize endP T q2=r at hen hX
   obtain⟨b,q3⟩:=r
   cases b with
   |false=>
    simp only[bndB]at hX
    subst hX
    refine CallQ.mi 60 hen (pM_cl T _) ⟨oS,oS,trivial⟩ ?_
    refine vv ?_
    exact RetQ.of hR rfl scc rvv (SubV.sub0 ⟨oR,oR,oL,oL,oR,oR,oR,oR,oR,oR,oR,trivial⟩) (clS _ _) (ClV.of rfl)
   |true=>
    simp only[bndB]at hX
    subst hX
    refine CallQ.mi 60 hen (pM_cl T _) ⟨oS,oS,trivial⟩ ?_
    refine vv ?_
    exact RetQ.of hR rfl scc rvv (SubV.sub0 ⟨oR,oR,oL,oL,oR,oR,oR,oR,oR,oR,oR,trivial⟩) (clS _ _) (ClV.of rfl)
end Go.Proofs.YtlnpgbnhcondjaaGreatDoor.Fx
namespace Go.Proofs.YtlnpgbnhcondjaaGreatDoor.Fx
set_option linter.unusedVariables false
set_option linter.unusedSimpArgs false
set_option linter.unusedSectionVars false
def E4 (U:List Tk){α:Type}(x:Option α×Ps):Prop:=x.1.isSome=true→(hereP U x.2).k=4
theorem bnd_e4 {U:List Tk}{α β:Type}{x:Option α×Ps}{f:α→Ps→Option β×Ps}(h:∀a q,x.1=some a→x.2=q→E4 U (f a q)):E4 U (bnd x f):=by
 obtain⟨o,q⟩:=x
 cases o with
 |none=>exact fun h=>by cases h
 |some a=>exact h a q rfl rfl
theorem bndB_e4 {U:List Tk}{β:Type}{x:Bool×Ps}{f:Ps→Option β×Ps}(h:∀q,x.1=true→x.2=q→E4 U (f q)):E4 U (bndB x f):=by
 obtain⟨o,q⟩:=x
 cases o with
 |false=>exact fun h=>by cases h
 |true=>exact h q rfl rfl
theorem bif_e4 {U:List Tk}{β:Type}{c:Bool}{x y:Option β×Ps}(hx:c=true→E4 U x)(hy:c=false→E4 U y):E4 U (bif c then x else y):=by
 cases c with
 |true=>exact hx rfl
 |false=>exact hy rfl
theorem none_e4 {U:List Tk}{β:Type}{q:Ps}:E4 U ((none:Option β),q):=fun h=>by cases h
theorem ful_at (f:Tk)(m l:Nat)(p:Ps):(fulP f m l p).2.at_=p.at_:=by
 unfold fulP
 cases decide (l≤m)with
 |true=>exact stop_at ..
 |false=>rfl
theorem full_e4 {U:List Tk}{α:Type}{p:Ps}(h:(hereP U p).k=4)(f:Tk)(m l:Nat)(a:α):E4 U (bndB (fulP f m l p) fun p=>(some a,p)):=by
 have h1:=ful_at f m l p
 refine bndB_e4 fun q _ hq _=>?_
 rw[hq]at h1
 show(U.getD q.at_ tk0).k=4
 rw[h1];exact h
theorem col_4 {U:List Tk}(g:GTk U):∀(f:Nat) (s:Str) (p:Ps),p.at_<U.length→U.length≤p.at_+f→(hereP U (colP U f s p).2).k=4
 |0,s,p,hp,hf=>by omega
 |f+1,s,p,hp,hf=>by
  rw[colP]
  cases hk:(hereP U p).k==4 with
  |true=>exact eq_of_beq hk
  |false=>
   have ha:=adv_on g hp (by simpa using hk)
   have:(advP p).at_=p.at_+1:=rfl
   exact col_4 g f _ (advP p) ha.1.2 (by omega)
section
variable {U:List Tk}
theorem unt_4 (g:GTk U)(hn:U.length≤40000){p:Ps}(hp:p.at_<U.length):E4 U (untP U p):=by
 unfold untP
 exact bif_e4 (fun _=>none_e4) fun _=>bif_e4 (fun _ _=>col_4 g _ _ p hp (by omega)) fun _=>none_e4
theorem typ_4 (g:GTk U)(hn:U.length≤40000)(f:Tk)(m:Nat){p:Ps}(hp:p.at_<U.length):E4 U (typP U f m p):=by
 have hk:=typ_on g f m hp
 unfold typP
 refine bnd_e4 fun nm q h1 h2=>bndB_e4 fun r h3 h4=>bnd_e4 fun b s h5 h6=>bif_e4 (fun _=>none_e4) fun hs=>?_
 have a1:=(nam_on g hp).1
 rw[h2]at a1
 have a2:=tak_on g [61] a1.2
 rw[h4]at a2
 have a3:=(int_on g a2.2).1
 rw[h6]at a3
 have ha:onP U s (advP s):=by
  rw[Bool.and_eq_false_iff,Bool.not_eq_false',Bool.not_eq_false']at hs
  rcases hs with hs|hs
  ·exact is_on g a3.2 hs
  ·exact is_on g a3.2 hs
 refine bnd_e4 fun x q h7 h8=>bnd_e4 fun y r h9 h10=>bnd_e4 fun z t h11 h12=>?_
 have b1:=(int_on g ha.2).1
 rw[h8]at b1
 have b2:=(int_on g b1.2).1
 rw[h10]at b2
 have b3:=(int_on g b2.2).1
 rw[h12]at b3
 have b4:=unt_4 g hn b3.2
 refine bnd_e4 fun u w h13 h14=>bif_e4 (fun _=>none_e4) fun _=>full_e4 ?_ _ _ _ _
 have:=b4 (by rw[h13];rfl)
 rw[h14]at this;exact this
theorem cls_4 {α:Type}{p:Ps}{f:Ps→Option α×Ps}(hf:∀q,(hereP U q).k=4→E4 U (f q)):E4 U (clsP U p f):=by
 unfold clsP
 exact bif_e4 (fun _=>none_e4) fun _=>bif_e4 (fun _=>none_e4) fun hk=>hf _ (by simpa using hk)
theorem cur_4 (f:Tk)(m:Nat)(p:Ps):E4 U (curP U f m p):=by
 unfold curP
 exact bnd_e4 fun _ _ _ _=>bndB_e4 fun _ _ _=>bndB_e4 fun _ _ _=>bnd_e4 fun _ _ _ _=>cls_4 fun q hq=>bif_e4 (fun _=>none_e4) fun _=>full_e4 hq _ _ _ _
theorem map_4 (f:Tk)(m:Nat)(p:Ps):E4 U (mapP U f m p):=by
 unfold mapP
 exact bnd_e4 fun _ _ _ _=>bndB_e4 fun _ _ _=>bndB_e4 fun _ _ _=>bnd_e4 fun _ _ _ _=>bndB_e4 fun _ _ _=>bnd_e4 fun _ _ _ _=>bndB_e4 fun _ _ _=>bnd_e4 fun _ _ _ _=>cls_4 fun q hq=>bif_e4 (fun _=>none_e4) fun _=>full_e4 hq _ _ _ _
theorem inp_4 (f:Tk)(m:Nat)(p:Ps):E4 U (inpP U f m p):=by
 unfold inpP
 exact bnd_e4 fun _ _ _ _=>bndB_e4 fun _ _ _=>bnd_e4 fun _ _ _ _=>bnd_e4 fun _ _ _ _=>bnd_e4 fun _ _ _ _=>bif_e4 (fun _=>none_e4) fun hk=>full_e4 (by simpa using hk) _ _ _ _
theorem blk_4 (f:Tk)(m:Nat)(p:Ps):E4 U (blkP U f m p):=by
 unfold blkP
 refine bnd_e4 fun _ _ _ _=>bndB_e4 fun _ _ _=>bif_e4 (fun _=>none_e4) fun _=>?_
 unfold bk2P
 exact bndB_e4 fun _ _ _=>bnd_e4 fun _ _ _ _=>bnd_e4 fun _ _ _ _=>bndB_e4 fun _ _ _=>bndB_e4 fun _ _ _=>bnd_e4 fun _ _ _ _=>bif_e4 (fun _=>none_e4) fun hk=>bif_e4 (fun _=>none_e4) fun _=>full_e4 (by simpa using hk) _ _ _ _
theorem out_4 (f:Tk)(m:Nat)(p:Ps):E4 U (outP U f m p):=by
 unfold outP
 exact bnd_e4 fun _ _ _ _=>bif_e4 (fun _=>none_e4) fun hk=>bif_e4 (fun _=>none_e4) fun _=>fun _=>by simpa using hk
end
theorem end_4 {U:List Tk}{q:Ps}(h:(hereP U q).k=4):endP U q=(true,advP q):=by unfold endP;rw[h];rfl
end Go.Proofs.YtlnpgbnhcondjaaGreatDoor.Fx
