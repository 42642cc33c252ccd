/-  -/
import Derived.Test.YtlnpgbnhcondjaaGreatDoorPS
import Derived.Test.YtlnpgbnhcondjaaGreatDoorYM
namespace Go.Proofs.YtlnpgbnhcondjaaGreatDoor.Fx
open Vg Tf
set_option linter.unusedSimpArgs false
set_option linter.unusedVariables false
set_option maxRecDepth 100000
set_option maxHeartbeats 4000000
theorem ous_len {T:List Tk}(g:GTk T):∀(f:Nat) (l:List Str) (p:Ps),p.at_<T.length→∀l',(ousP T f l p).1=some l'→l'.length+p.at_≤l.length+(ousP T f l p).2.at_
 |0,l,p,h,l',hl=>by cases hl
 |f+1,l,p,h,l',hl=>by
  rw[ousP]at hl⊢
  have hon:=nam_on g h
  generalize namP T p=r at hl hon⊢
  obtain⟨o,q⟩:=r
  cases o with
  |none=>cases hl
  |some s=>
   have hq:p.at_<q.at_:=hon.2 rfl
   simp only[bnd]at hl⊢
   cases hc:isP T [44] q with
   |true=>
    rw[hc]at hl
    have:=ous_len g f (l++[s]) (advP q) (is_on g hon.1.2 hc).2 l' hl
    rw[List.length_append,List.length_singleton]at this
    have e:(advP q).at_=q.at_+1:=rfl
    show _≤_+(ousP T f (l++[s]) (advP q)).2.at_
    omega
   |false=>
    rw[hc]at hl
    cases hl
    show(l++[s]).length+_≤_+q.at_
    rw[List.length_append,List.length_singleton];omega
theorem out_ (T:List Tk)(hT:T.length≤40000)(g:GTk T)(sT:STk T)(p:Ps)(h:p.at_<T.length)(f:Tk)(d:DgL)(hd:d.ous.length≤1000000):
  CallOk Tryz.prog 156 [.c (.p 1 0),.c (.p 4 0),tkV f] (pO T p d) (Bo (outP T f d.ous.length p).1.isSome)
   (bPs T (outP T f d.ous.length p).2::(match (outP T f d.ous.length p).1 with|some x=>[bDg (dgCo 25 (d.ous.length+x.length) d),(25,⟨false,(d.ous++x).map sC,9⟩),bDd 15 9]|none=>[])):=by
 have clF:∀q,ClM (bPs T q::pO T p d):=fun q=>ClM.of (by simp only[List.all_cons,inMV (rowsC_isV _),inMV (v_sC _)];rfl)
 have clS:∀q x n,ClM ([bPs T q,bDg (dgCo 25 n d),(25,⟨false,(d.ous++x).map sC,9⟩),bDd 15 9]++pO T p d):=fun q x n=>ClM.of (by simp only[List.cons_append,List.nil_append,List.all_cons,inMV (rowsC_isV _),inMV (v_sC _)];rfl)
 have cl31:∀q s,ClM [bPs T q,(31,⟨false,[sC s],9⟩),bTkT T]:=fun q n=>ClM.of (by simp only[List.all_cons,inMV (rowsC_isV _)];rfl)
 have v_tk:∀T:List Tk,(rowsC (T.map Tk.r)).all Cv.isV=true:=fun _=>rowsC_isV _
 refine CallOk.mkN 29 Tryz.func156 rfl en156 (by simp[Tryz.ntmps156]) (ClA.of rfl) (by cases (outP T f d.ous.length p).1<;>rfl) (by cases (outP T f d.ous.length p).1<;>rfl) fun C hR hP=>?_
 refine vv ?_
 generalize hX:outP T f d.ous.length p=X at*
 unfold outP at hX
 refine Sm.nilName 7 33 1 9 rfl rfl ?_
 refine Sm.loopM (M0:=pO T p d) (α:={x:List Str×Ps//x.2.at_<T.length∧x.1.length≤x.2.at_∧∃f,T.length≤x.2.at_+f∧ousP T f x.1 x.2=ousP T 40000 [] p}) hP
  (fun x=>[(0,true,.c (.p 1 0)),(1,true,.c (.p 4 0)),(5,true,.c (.p 29 0)),(7,true,.c (.sl 33 0 x.val.1.length 1))])
  (fun x=>[bPs T x.val.2,bDg (dgC d),bTkT T,(15,⟨false,d.ous.map sC,9⟩),bDd 10 93,bDd 11 110,bDd 12 115,bDd 13 118,bDd 14 82,(29,⟨false,[nC f.k,sC f.s,nC f.l,nC f.c],57⟩),(33,⟨false,x.val.1.map sC,9⟩)])
  (fun x=>T.length-x.val.2.at_) ⟨([],p),h,Nat.zero_le _,40000,by simp only;omega,rfl⟩ (fun x=>ClM.of (by simp only[List.all_cons,inMV (rowsC_isV _),inMV (v_sC _)];rfl)) (fun _=>ClE.of rfl) [(1,1),(4,4),(2,2),(15,15),(10,10),(11,11),(12,12),(13,13),(14,14),(29,29),(33,33)] ?_ ?_
 ·exact⟨rfl,⟨⟨rfl,rfl⟩,⟨rfl,rfl⟩,⟨rfl,rfl⟩,⟨rfl,rfl⟩,⟨rfl,rfl⟩,⟨rfl,rfl⟩,⟨rfl,rfl⟩,⟨rfl,rfl⟩,⟨rfl,rfl⟩,trivial⟩,⟨rfl,rfl,rfl,rfl,trivial⟩,⟨.inr ⟨_,rfl,.inl rfl⟩,.inr ⟨_,rfl,.inl rfl⟩,.inr ⟨_,rfl,.inl (renV (v_tk _))⟩,.inr ⟨_,rfl,.inl (renV (v_sC _))⟩,.inr ⟨_,rfl,.inl rfl⟩,.inr ⟨_,rfl,.inl rfl⟩,.inr ⟨_,rfl,.inl rfl⟩,.inr ⟨_,rfl,.inl rfl⟩,.inr ⟨_,rfl,.inl rfl⟩,.inr ⟨_,rfl,.inl rfl⟩,.inr ⟨_,rfl,.inl rfl⟩,trivial⟩⟩
 rintro⟨⟨l,q⟩,hq,hle,f',hf1,hf2⟩ J hb
 simp only at hb hq hle hf1 hf2⊢
 obtain⟨f',rfl⟩:∃k,f'=k+1:=⟨f'-1,by omega⟩
 rw[ousP]at hf2
 have hi:=nameN_ 31 rfl T (by omega) sT q hq [sC []] rfl 0 (by simp) 9
 have hon:=nam_on g hq
 generalize namP T q=r at hi hon hf2
 obtain⟨o,qa⟩:=r
 have hqa:qa.at_<T.length:=hon.1.2
 refine Sm.go 31 ?_
 refine vv ?_
 cases o with
 |none=>
  simp only[bnd]at hf2
  rw[←hf2]at hX
  simp only[bnd]at hX
  subst hX
  simp only[Option.isSome_none]at hi
  refine CallQ.mio 40 hi (cl31 _ _) rfl ⟨⟨_,rfl,.inl rfl⟩,⟨_,rfl,.inl rfl⟩,⟨_,rfl,.inl rfl⟩,trivial⟩ rfl (.inl rfl) ?_
  refine vv ?_
  exact RetQ.of hR rfl scc rvv (SubV.sub0 ⟨.inr ⟨_,rfl,.inl rfl⟩,.inl (by simp),.inr ⟨_,rfl,.inl rfl⟩,.inr ⟨_,rfl,.inl rfl⟩,.inr ⟨_,rfl,.inl rfl⟩,.inr ⟨_,rfl,.inl rfl⟩,.inr ⟨_,rfl,.inl rfl⟩,.inr ⟨_,rfl,.inl rfl⟩,.inr ⟨_,rfl,.inl rfl⟩,.inr ⟨_,rfl,.inl rfl⟩,trivial⟩) (clF _) (ClV.of rfl)
 |some s=>
  simp only[bnd]at hf2
  have hga:q.at_<qa.at_:=hon.2 rfl
  simp only[Option.isSome_some,List.set_cons_zero]at hi
  have hll:(l.map sC).length=l.length:=List.length_map _
  have hal:List.take l.length (l.map sC)++[sC s]=(l++[s]).map sC:=by rw[List.take_of_length_le (by omega),List.map_append];rfl
  have hLl:(l++[s]).length=l.length+1:=by rw[List.length_append];rfl
  refine CallQ.mio 40 hi (cl31 _ _) rfl ⟨⟨_,rfl,.inl rfl⟩,⟨_,rfl,.inl rfl⟩,⟨_,rfl,.inl rfl⟩,trivial⟩ rfl (.inl rfl) ?_
  simp(maxSteps:=2000000) only[go_sem,hll,hal]
  refine⟨⟨by omega,by omega,by omega⟩,?_⟩
  have his:=is_ T (by omega) qa hqa [44]
  refine CallQ.mio 80 his (pM_cl T _) rfl ⟨⟨_,rfl,.inl rfl⟩,⟨_,rfl,.inl rfl⟩,trivial⟩ rfl (.inr rfl) ?_
  cases hi44:isP T [44] qa with
  |true=>
   rw[hi44]at hf2
   simp only[cond_true]at hf2
   have hadv:=is_on g hqa hi44
   simp(maxSteps:=2000000) only[go_sem,aP (show T.length≤100000 by omega) hqa]
   have haq:(advP qa).at_=qa.at_+1:=rfl
   refine hb _ _ ⟨(l++[s],advP qa),hadv.2,by simp only[hLl];omega,f',by simp only;omega,hf2⟩ [(1,1),(4,4),(2,2),(15,15),(10,10),(11,11),(12,12),(13,13),(14,14),(29,29),(33,41)] (by simp only;omega) ?_
   simp only[hLl]
   exact⟨rfl,⟨⟨rfl,rfl⟩,⟨rfl,rfl⟩,⟨rfl,rfl⟩,⟨rfl,rfl⟩,⟨rfl,rfl⟩,⟨rfl,rfl⟩,⟨rfl,rfl⟩,⟨rfl,rfl⟩,⟨rfl,rfl⟩,trivial⟩,⟨rfl,rfl,rfl,rfl,trivial⟩,⟨.inr ⟨_,rfl,.inl rfl⟩,.inr ⟨_,rfl,.inl rfl⟩,.inr ⟨_,rfl,.inl (renV (v_tk _))⟩,.inr ⟨_,rfl,.inl (renV (v_sC _))⟩,.inr ⟨_,rfl,.inl rfl⟩,.inr ⟨_,rfl,.inl rfl⟩,.inr ⟨_,rfl,.inl rfl⟩,.inr ⟨_,rfl,.inl rfl⟩,.inr ⟨_,rfl,.inl rfl⟩,.inr ⟨_,rfl,.inl rfl⟩,.inr ⟨_,rfl,.inl (renV (v_sC _))⟩,trivial⟩⟩
  |false=>
   rw[hi44]at hf2
   simp only[cond_false]at hf2
   have hlen:=ous_len g 40000 [] p h (l++[s]) (by rw[←hf2])
   rw[←hf2]at hX hlen
   simp only[bnd,List.length_nil,hLl]at hX hlen
   clear hb
   refine vv ?_
   have hh:=here_ T (by omega) qa hqa
   have hen:=end_ T (by omega) qa hqa
   have e4:((hereP T qa).k==4)=(((hereP T qa).k:Int)==4):=(kB _ 4).symm
   rw[e4]at hX
   refine CallQ.mio 25 hh (pM_cl T _) rfl ⟨⟨_,rfl,.inl rfl⟩,⟨_,rfl,.inl rfl⟩,trivial⟩ rfl (.inr rfl) ?_
   cases hk:((hereP T qa).k:Int)==4 with
   |false=>
    simp(maxSteps:=2000000) only[go_sem,hk,bne]
    have he:endP T qa=(false,stopP qa (hereP T qa).l (hereP T qa).c 3):=by unfold endP;rw[e4,hk];rfl
    rw[hk,he]at hX
    rw[he]at hen
    simp only[Bool.not_false,cond_true]at hX
    subst hX
    refine CallQ.mio 92 hen (pM_cl T _) rfl ⟨⟨_,rfl,.inl rfl⟩,⟨_,rfl,.inl rfl⟩,trivial⟩ rfl (.inl rfl) ?_
    refine vv ?_
    exact RetQ.of hR rfl scc rvv (SubV.sub0 ⟨.inr ⟨_,rfl,.inl rfl⟩,.inl (by simp),.inr ⟨_,rfl,.inl rfl⟩,.inr ⟨_,rfl,.inl rfl⟩,.inr ⟨_,rfl,.inl rfl⟩,.inr ⟨_,rfl,.inl rfl⟩,.inr ⟨_,rfl,.inl rfl⟩,.inr ⟨_,rfl,.inl rfl⟩,.inr ⟨_,rfl,.inl rfl⟩,.inr ⟨_,rfl,.inl rfl⟩,trivial⟩) (clF _) (ClV.of rfl)
   |true=>
    rw[hk]at hX
    simp only[Bool.not_true,cond_false]at hX
    simp(maxSteps:=2000000) only[go_sem,hk,bne]
    have hw:IntKind.i64.wrap ((d.ous.length:Int)+((l.length+1:Nat):Int))=((d.ous.length+(l.length+1):Nat):Int):=by rw[w64 (by omega) (by omega)];omega
    have e30:decide ((30:Int)<((d.ous.length+(l.length+1):Nat):Int))=decide (30<d.ous.length+(l.length+1)):=by rw[decide_eq_decide];omega
    rw[hw,e30]
    cases hc:decide (30<d.ous.length+(l.length+1))with
    |true=>
     rw[hc]at hX
     simp only[cond_true]at hX
     subst hX
     refine CallQ.mio 94 (stop_ T qa f.l f.c 5) (pM_cl T _) rfl ⟨⟨_,rfl,.inl rfl⟩,⟨_,rfl,.inl rfl⟩,trivial⟩ rfl (.inl rfl) ?_
     refine vv ?_
     exact RetQ.of hR rfl scc rvv (SubV.sub0 ⟨.inr ⟨_,rfl,.inl rfl⟩,.inl (by simp),.inr ⟨_,rfl,.inl rfl⟩,.inr ⟨_,rfl,.inl rfl⟩,.inr ⟨_,rfl,.inl rfl⟩,.inr ⟨_,rfl,.inl rfl⟩,.inr ⟨_,rfl,.inl rfl⟩,.inr ⟨_,rfl,.inl rfl⟩,.inr ⟨_,rfl,.inl rfl⟩,.inr ⟨_,rfl,.inl rfl⟩,trivial⟩) (clF _) (ClV.of rfl)
    |false=>
     rw[hc]at hX
     simp only[cond_false]at hX
     subst hX
     have hol:(d.ous.map sC).length=d.ous.length:=List.length_map _
     have hsl:((l++[s]).map sC).length=l.length+1:=by rw[List.length_map];exact hLl
     have hsl2:(l.map sC++[sC s]).length=l.length+1:=by rw[List.length_append,List.length_map];rfl
     have hap:List.take d.ous.length (d.ous.map sC)++List.take (l.length+1) ((l++[s]).map sC)=(d.ous++(l++[s])).map sC:=by rw[List.take_of_length_le (by omega),List.take_of_length_le (by omega),List.map_append (l₁:=d.ous)]
     have hone:(List.take (l.length+1) ((l++[s]).map sC)).all Cv.one=true:=by rw[List.take_of_length_le (by omega)];simp[Cv.one,Value.oneCell']
     simp(maxSteps:=2000000) only[go_sem,hol,hsl,hap]
     refine⟨⟨by omega,⟨by omega,hone⟩,by omega,by omega⟩,?_⟩
     simp only[hLl]at hR
     exact RetQ.of hR rfl scc rvv (SubV.sub0 ⟨.inr ⟨_,rfl,.inl rfl⟩,.inr ⟨_,rfl,.inl rfl⟩,.inr ⟨_,rfl,.inl rfl⟩,.inr ⟨_,rfl,.inl rfl⟩,.inl (by simp),.inl (by simp),.inr ⟨_,rfl,.inl rfl⟩,.inl (by simp),.inr ⟨_,rfl,.inl rfl⟩,.inr ⟨_,rfl,.inl rfl⟩,.inr ⟨_,rfl,.inl rfl⟩,.inr ⟨_,rfl,.inl rfl⟩,.inr ⟨_,rfl,.inl rfl⟩,trivial⟩) (clS _ _ _) (ClV.of rfl)
end Go.Proofs.YtlnpgbnhcondjaaGreatDoor.Fx
