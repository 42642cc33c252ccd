/-  -/
import Derived.Test.YtlnpgbnhcondjaaGreatDoorPS
import Derived.Test.YtlnpgbnhcondjaaGreatDoorU8
import Derived.Test.YtlnpgbnhcondjaaGreatDoorUD
namespace Go.Proofs.YtlnpgbnhcondjaaGreatDoor.Fx
open Vg Tf
set_option linter.unusedSimpArgs false
set_option linter.unusedVariables false
set_option maxRecDepth 100000
set_option maxHeartbeats 4000000
theorem set5 (u v:Un)(c1:List Cv):∀c0:List Cv,(((((c0++unL u++c1).set c0.length (.v (.int .i64 v.m))).set (c0.length+1) (.v (.int .i64 v.kg))).set (c0.length+1+1) (.v (.int .i64 v.s))).set (c0.length+1+1+1) (.v (.int .i64 v.a))).set (c0.length+1+1+1+1) (.v (.int .i64 v.k))=c0++unL v++c1
 |[]=>rfl
 |c::c0=>by
  have ih:=set5 u v c1 c0
  simp only[List.cons_append,List.length_cons,List.set_cons_succ]
  rw[ih]
theorem unit_ (T:List Tk)(hT:T.length≤40000)(g:GTk T)(sT:STk T)(p:Ps)(h:p.at_<T.length)(c0 c1:List Cv)(v0:c0.all Cv.isV=true)(v1:c1.all Cv.isV=true)(ty:TypeId)(u0:Un):
  CallOk Tryz.prog 232 [.c (.p 1 0),.c (.p 3 c0.length)] (pD T p (c0++unL u0++c1) ty) (Bo (untP T p).1.isSome) ((1,⟨false,psC T (untP T p).2,96⟩)::(match (untP T p).1 with|some u=>[(3,⟨false,c0++unL u++c1,ty⟩)]|none=>[])):=by
 have hM:=pM_cl T p
 have hvc:∀u,(c0++unL u++c1).all Cv.isV=true:=fun u=>by rw[List.all_append,List.all_append,v0,v1];rfl
 have hh:=here_ T (by omega) p h
 have hw:=wrong_ T (by omega) p h
 have e1:((hereP T p).k==4)=(((hereP T p).k:Int)==4):=(kB _ 4).symm
 unfold untP
 rw[e1]
 cases hk:((hereP T p).k:Int)==4 with
 |true=>
  simp only[cond_true,Option.isSome_none]
  have hD2:=pD_cl T (wrnP T p) (hvc u0) ty
  refine CallOk.mkN 100 Tryz.func232 rfl en232 (by simp[Tryz.ntmps232]) (ClA.of rfl) rfl rfl fun C hR hP=>?_
  refine vv ?_
  refine CallQ.mio 100 hh hM rfl ⟨⟨_,rfl,.inl rfl⟩,⟨_,rfl,.inl rfl⟩,trivial⟩ rfl (.inr rfl) ?_
  simp(maxSteps:=2000000) only[go_sem,hk]
  refine CallQ.mio 110 hw hM rfl ⟨⟨_,rfl,.inl rfl⟩,⟨_,rfl,.inl rfl⟩,trivial⟩ rfl (.inl rfl) ?_
  refine vv ?_
  exact RetQ.of hR rfl scc rvv (sub_sh (SubS.sub ⟨⟨_,rfl,.inl rfl⟩,⟨_,rfl,.inl rfl⟩,⟨_,rfl,.inl rfl⟩,trivial⟩)) (clm_sh hD2) (ClV.of rfl)
 |false=>
  simp only[cond_false]
  have hcl:∀q,ClM ((4,⟨false,[nC (hereP T p).l,nC (hereP T p).c],32⟩)::pD T q (c0++unL u0++c1) ty):=fun q=>ClM.of (by simp only[List.all_cons,inMV (rowsC_isV _),inMV (hvc u0)];rfl)
  have hsum:([]:Str).length+((T.drop p.at_).map fun t=>t.s.length).sum≤100000:=by
   refine Nat.le_trans ?_ sT
   conv=>rhs;rw[←List.take_append_drop p.at_ T,List.map_append,List.sum_append]
   simp
  have v_tk:∀T:List Tk,(rowsC (T.map Tk.r)).all Cv.isV=true:=fun _=>rowsC_isV _
  cases hp:(prs (colP T 40000 [] p).1).2==0 with
  |true=>
   simp only[cond_true,Option.isSome_some]
   refine CallOk.mkN 100 Tryz.func232 rfl en232 (by simp[Tryz.ntmps232]) (ClA.of rfl) rfl rfl fun C hR hP=>?_
   refine vv ?_
   refine CallQ.mio 100 hh hM rfl ⟨⟨_,rfl,.inl rfl⟩,⟨_,rfl,.inl rfl⟩,trivial⟩ rfl (.inr rfl) ?_
   simp(maxSteps:=2000000) only[go_sem,hk]
   refine CallQ.mio 110 hh hM rfl ⟨⟨_,rfl,.inl rfl⟩,⟨_,rfl,.inl rfl⟩,trivial⟩ rfl (.inr rfl) ?_
   simp(maxSteps:=2000000) only[go_sem,hk]
   refine Sm.loopM (M0:=pD T p (c0++unL u0++c1) ty) (α:={x:Str×Ps//x.2.at_<T.length∧(∃f,T.length≤x.2.at_+f∧colP T f x.1 x.2=colP T 40000 [] p)∧x.1.length+((T.drop x.2.at_).map fun t=>t.s.length).sum≤100000}) hP
    (fun x=>[(0,true,.c (.p 1 0)),(1,true,.c (.p 3 c0.length)),(5,true,.c (.p 4 0)),(6,true,S x.val.1)])
    (fun x=>(4,⟨false,[nC (hereP T p).l,nC (hereP T p).c],32⟩)::pD T x.val.2 (c0++unL u0++c1) ty) (fun x=>T.length-x.val.2.at_) ⟨([],p),h,⟨40000,by omega,rfl⟩,hsum⟩ (fun x=>hcl x.val.2) (fun _=>ClE.of rfl) [(1,1),(2,2),(3,3),(4,110)] ?_ ?_
   ·exact⟨rfl,⟨⟨rfl,rfl⟩,⟨rfl,rfl⟩,⟨rfl,rfl⟩,trivial⟩,⟨rfl,rfl,rfl,rfl,trivial⟩,⟨.inr ⟨_,rfl,.inl rfl⟩,.inr ⟨_,rfl,.inl rfl⟩,.inr ⟨_,rfl,.inl (renV (hvc _))⟩,.inr ⟨_,rfl,.inl (renV (v_tk _))⟩,trivial⟩⟩
   ·rintro⟨⟨s,q⟩,hq,⟨f,hf1,hf2⟩,hs⟩ J hb
    simp only at hb hq hf1 hf2 hs⊢
    refine Sm.go 170 ?_
    have hhq:=here_ T (by omega) q hq
    have hMq:=pM_cl T q
    obtain⟨f,rfl⟩:∃k,f=k+1:=⟨f-1,by omega⟩
    rw[colP]at hf2
    have e2:((hereP T q).k==4)=(((hereP T q).k:Int)==4):=(kB _ 4).symm
    rw[e2]at hf2
    refine vv ?_
    refine CallQ.mio 180 hhq hMq rfl ⟨⟨_,rfl,.inl rfl⟩,⟨_,rfl,.inl rfl⟩,trivial⟩ rfl (.inr rfl) ?_
    refine vv ?_
    cases hkq:((hereP T q).k:Int)==4 with
    |false=>
     have hnx:=(adv_on g hq (fun e=>by rw[e]at hkq;cases hkq)).1.2
     rw[hkq,cond_false]at hf2
     rw[sum_drop hq,show T.getD q.at_ tk0=hereP T q from rfl]at hs
     simp(maxSteps:=2000000) only[go_sem,hkq,bne]
     refine CallQ.mio 190 hhq hMq rfl ⟨⟨_,rfl,.inl rfl⟩,⟨_,rfl,.inl rfl⟩,trivial⟩ rfl (.inr rfl) ?_
     simp(maxSteps:=2000000) only[go_sem,hkq,aP (by omega) hq]
     exact⟨by omega,hb _ _ ⟨(s++(hereP T q).s,advP q),by show q.at_+1<T.length;have:=(adv_on g hq (fun e=>by rw[e]at hkq;cases hkq)).1.2;exact this,⟨f,by show T.length≤q.at_+1+f;omega,hf2⟩,by show(s++(hereP T q).s).length+((T.drop (q.at_+1)).map fun t=>t.s.length).sum≤100000;rw[List.length_append];omega⟩ [(1,1),(2,2),(3,3),(4,4)] (by show T.length-(q.at_+1)<T.length-q.at_;omega) ⟨rfl,⟨⟨rfl,rfl⟩,⟨rfl,rfl⟩,⟨rfl,rfl⟩,trivial⟩,⟨rfl,rfl,rfl,rfl,trivial⟩,⟨.inr ⟨_,rfl,.inl rfl⟩,.inr ⟨_,rfl,.inl rfl⟩,.inr ⟨_,rfl,.inl (renV (hvc _))⟩,.inr ⟨_,rfl,.inl (renV (v_tk _))⟩,trivial⟩⟩⟩
    |true=>
     rw[hkq,cond_true]at hf2
     rw[←hf2]at hp hR
     simp only at hp hR
     have hpr:=parse_ s (by omega)
     simp(maxSteps:=2000000) only[go_sem,hkq,bne]
     refine CallQ.pure 200 hpr rfl ?_
     refine vv ?_
     rw[show((prs s).2 !=0)=false from by rw[bne,hp];rfl]
     refine vv ?_
     refine⟨by simp only[List.length_append,List.length_cons,List.length_nil];omega,?_⟩
     have e5:=set5 u0 (prs s).1 c1 c0
     simp only[unL]at e5
     rw[e5]
     exact RetQ.of hR rfl scc rvv (sub_sh2 (SubS.sub ⟨⟨_,rfl,.inl rfl⟩,⟨_,rfl,.inl rfl⟩,⟨_,rfl,.inl rfl⟩,trivial⟩)) (clm_sh2 (pD_cl T q (hvc (prs s).1) ty)) (ClV.of rfl)
  |false=>
   simp only[cond_false,Option.isSome_none]
   refine CallOk.mkN 100 Tryz.func232 rfl en232 (by simp[Tryz.ntmps232]) (ClA.of rfl) rfl rfl fun C hR hP=>?_
   refine vv ?_
   refine CallQ.mio 100 hh hM rfl ⟨⟨_,rfl,.inl rfl⟩,⟨_,rfl,.inl rfl⟩,trivial⟩ rfl (.inr rfl) ?_
   simp(maxSteps:=2000000) only[go_sem,hk]
   refine CallQ.mio 110 hh hM rfl ⟨⟨_,rfl,.inl rfl⟩,⟨_,rfl,.inl rfl⟩,trivial⟩ rfl (.inr rfl) ?_
   simp(maxSteps:=2000000) only[go_sem,hk]
   refine Sm.loopM (M0:=pD T p (c0++unL u0++c1) ty) (α:={x:Str×Ps//x.2.at_<T.length∧(∃f,T.length≤x.2.at_+f∧colP T f x.1 x.2=colP T 40000 [] p)∧x.1.length+((T.drop x.2.at_).map fun t=>t.s.length).sum≤100000}) hP
    (fun x=>[(0,true,.c (.p 1 0)),(1,true,.c (.p 3 c0.length)),(5,true,.c (.p 4 0)),(6,true,S x.val.1)])
    (fun x=>(4,⟨false,[nC (hereP T p).l,nC (hereP T p).c],32⟩)::pD T x.val.2 (c0++unL u0++c1) ty) (fun x=>T.length-x.val.2.at_) ⟨([],p),h,⟨40000,by omega,rfl⟩,hsum⟩ (fun x=>hcl x.val.2) (fun _=>ClE.of rfl) [(1,1),(2,2),(3,3),(4,110)] ?_ ?_
   ·exact⟨rfl,⟨⟨rfl,rfl⟩,⟨rfl,rfl⟩,⟨rfl,rfl⟩,trivial⟩,⟨rfl,rfl,rfl,rfl,trivial⟩,⟨.inr ⟨_,rfl,.inl rfl⟩,.inr ⟨_,rfl,.inl rfl⟩,.inr ⟨_,rfl,.inl (renV (hvc _))⟩,.inr ⟨_,rfl,.inl (renV (v_tk _))⟩,trivial⟩⟩
   ·rintro⟨⟨s,q⟩,hq,⟨f,hf1,hf2⟩,hs⟩ J hb
    simp only at hb hq hf1 hf2 hs⊢
    refine Sm.go 170 ?_
    have hhq:=here_ T (by omega) q hq
    have hMq:=pM_cl T q
    obtain⟨f,rfl⟩:∃k,f=k+1:=⟨f-1,by omega⟩
    rw[colP]at hf2
    have e2:((hereP T q).k==4)=(((hereP T q).k:Int)==4):=(kB _ 4).symm
    rw[e2]at hf2
    refine vv ?_
    refine CallQ.mio 180 hhq hMq rfl ⟨⟨_,rfl,.inl rfl⟩,⟨_,rfl,.inl rfl⟩,trivial⟩ rfl (.inr rfl) ?_
    refine vv ?_
    cases hkq:((hereP T q).k:Int)==4 with
    |false=>
     have hnx:=(adv_on g hq (fun e=>by rw[e]at hkq;cases hkq)).1.2
     rw[hkq,cond_false]at hf2
     rw[sum_drop hq,show T.getD q.at_ tk0=hereP T q from rfl]at hs
     simp(maxSteps:=2000000) only[go_sem,hkq,bne]
     refine CallQ.mio 190 hhq hMq rfl ⟨⟨_,rfl,.inl rfl⟩,⟨_,rfl,.inl rfl⟩,trivial⟩ rfl (.inr rfl) ?_
     simp(maxSteps:=2000000) only[go_sem,hkq,aP (by omega) hq]
     exact⟨by omega,hb _ _ ⟨(s++(hereP T q).s,advP q),by show q.at_+1<T.length;have:=(adv_on g hq (fun e=>by rw[e]at hkq;cases hkq)).1.2;exact this,⟨f,by show T.length≤q.at_+1+f;omega,hf2⟩,by show(s++(hereP T q).s).length+((T.drop (q.at_+1)).map fun t=>t.s.length).sum≤100000;rw[List.length_append];omega⟩ [(1,1),(2,2),(3,3),(4,4)] (by show T.length-(q.at_+1)<T.length-q.at_;omega) ⟨rfl,⟨⟨rfl,rfl⟩,⟨rfl,rfl⟩,⟨rfl,rfl⟩,trivial⟩,⟨rfl,rfl,rfl,rfl,trivial⟩,⟨.inr ⟨_,rfl,.inl rfl⟩,.inr ⟨_,rfl,.inl rfl⟩,.inr ⟨_,rfl,.inl (renV (hvc _))⟩,.inr ⟨_,rfl,.inl (renV (v_tk _))⟩,trivial⟩⟩⟩
    |true=>
     rw[hkq,cond_true]at hf2
     rw[←hf2]at hp hR
     simp only at hp hR
     have hpr:=parse_ s (by omega)
     simp(maxSteps:=2000000) only[go_sem,hkq,bne]
     refine CallQ.pure 200 hpr rfl ?_
     refine vv ?_
     rw[show((prs s).2 !=0)=true from by rw[bne,hp];rfl]
     refine vv ?_
     refine CallQ.mio 210 (stop_ T q (hereP T p).l (hereP T p).c 3) hMq rfl ⟨⟨_,rfl,.inl rfl⟩,⟨_,rfl,.inl rfl⟩,trivial⟩ rfl (.inl rfl) ?_
     refine vv ?_
     exact RetQ.of hR rfl scc rvv (sub_sh (SubS.sub ⟨⟨_,rfl,.inl rfl⟩,⟨_,rfl,.inl rfl⟩,⟨_,rfl,.inl rfl⟩,trivial⟩)) (clm_sh (pD_cl T (stopP q (hereP T p).l (hereP T p).c 3) (hvc u0) ty)) (ClV.of rfl)
end Go.Proofs.YtlnpgbnhcondjaaGreatDoor.Fx
