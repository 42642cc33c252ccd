/-  -/
import Derived.Test.YtlnpgbnhcondjaaGreatDoorTf
import Derived.Test.YtlnpgbnhcondjaaGreatDoorU8
namespace Go.Proofs.YtlnpgbnhcondjaaGreatDoor.Fx
open Vg Tf
set_option linter.unusedSimpArgs false
set_option linter.unusedVariables false
set_option maxRecDepth 100000
set_option maxHeartbeats 4000000
theorem splB_sub (c:UInt8):∀l:List UInt8,∀x∈splB c l,x.length≤l.length
 |[],x,h=>by simp[splB]at h;simp[h]
 |y::l,x,h=>by
  have ih:=splB_sub c l
  rw[splB_cons]at h
  split at h
  ·rcases List.mem_cons.1 h with rfl|h
   ·simp
   ·have:=ih x h;simp;omega
  ·split at h
   ·rename_i he;rw[List.mem_singleton.1 h];simp
   ·rename_i a t he
    rcases List.mem_cons.1 h with rfl|h
    ·have:=ih a (by rw[he];simp);simp;omega
    ·have:=ih x (by rw[he];simp[h]);simp;omega
theorem getD_mem {L:List (List UInt8)}{i:Nat}(h:i<L.length):L.getD i []∈L:=by
 rw[List.getD_eq_getElem?_getD,List.getElem?_eq_getElem h];simp
theorem drop_getD {L:List (List UInt8)}{i:Nat}(h:i<L.length):L.drop i=L.getD i []::L.drop (i+1):=by
 rw[List.getD_eq_getElem?_getD,List.getElem?_eq_getElem h,List.drop_eq_getElem_cons h];rfl
theorem un_set (u:Un){i:Nat}(h:i<5)(v:Int):(unL u).set i (.v (.int .i64 v))=unL (uset u i v):=five (Q:=fun i=>(unL u).set i (.v (.int .i64 v))=unL (uset u i v)) rfl rfl rfl rfl rfl i h
@[reducible] def upM (u:Un)(l:List UInt8):Mem:=[(4,⟨false,unL u0,89⟩),(7,⟨false,unL u,89⟩),(8,⟨false,[.p 7 0,.p 7 1,.p 7 2,.p 7 3,.p 7 4],258⟩),bSt 5 (splB 47 l)]
theorem clUp (u:Un)(l:List UInt8):ClM (upM u l):=ClM.of (by simp only[List.all_cons,inMV (v_st _)];rfl)
theorem clUp2 (u:Un)(l:List UInt8)(P:List (List UInt8)):ClM (bSt 6 P::upM u l):=ClM.of (by simp only[List.all_cons,inMV (v_st _)];rfl)
theorem parse_ (l:List UInt8)(hl:l.length≤1000000):CallOk Tryz.prog 267 [S l] [] (.tup [Wuu (prs l).1,Wi (prs l).2]) []:=by
 by_cases h40:40<l.length
 ·have e:prs l=(u0,5):=by rw[prs,if_pos h40]
  have h1:decide ((40:Int)<l.length)=true:=tru_of (by omega)
  rw[e]
  refine CallOk.mkN 100 Tryz.func267 rfl en267 (by simp[Tryz.ntmps267]) (ClA.of rfl) rfl rfl fun C hR hP=>?_
  simp(maxSteps:=2000000) only[go_sem,h1]
  exact RetQ.of hR rfl (vv trivial) rvr (Sub.nil _) ClM.nil (ClV.of rfl)
 cases hn:(nmd l).2 with
 |true=>
  have e:prs l=((nmd l).1,0):=by rw[prs,if_neg h40,if_pos hn]
  rw[e]
  exact parse_named l (by omega) hn
 |false=>
 have e:prs l=match parseQ l with
  |none=>(u0,3)
  |some u=>if txt u=l then(u,0)else(u0,3):=by unfold prs;rw[if_neg h40,hn];rfl
 have h1:decide ((40:Int)<l.length)=false:=fal_of (by omega)
 have hsub:=splB_sub 47 l
 have hcnt:(splB 47 l).length≤41:=by
  rw[splB_len]
  have:=List.count_le_length (a:=(47:UInt8)) (l:=l)
  omega
 refine CallOk.mkN 100 Tryz.func267 rfl en267 (by simp[Tryz.ntmps267]) (ClA.of rfl) rfl rfl fun C hR hP=>?_
 simp(maxSteps:=2000000) only[go_sem,h1]
 refine CallQ.pure 110 (named_ l) rfl ?_
 refine vv ?_
 rw[hn]
 refine vv ?_
 refine CallQ.mem 130 (exponents 111 (unL u0) 89 (ptrs_cl _ _ _ rfl) (by decide)) rfl (Sub.one (b':=⟨false,unL u0,89⟩) rfl (.inr ⟨rfl,[],rfl⟩)) (ptrs_cl _ _ _ rfl) ?_
 refine vv ?_
 refine CallQ.ren [(1,150)] 160 (sSplit l 47 hl) ClM.nil rfl rfl trivial rfl (.inl rfl) ?_
 simp only[Mem.ren,List.map_cons,List.map_nil,renV (v_st _),V.ren,Cv.ren,rn,Nat.reduceBEq,cond_true]
 refine vv ?_
 refine Sm.loopM (M0:=[]) (α:={x:Nat×Un//x.1≤(splB 47 l).length∧partsF x.1 x.2 ((splB 47 l).drop x.1)=parseQ l}) hP
  (fun x=>[(0,true,S l),(2,true,.c (.p 4 0)),(6,true,.c (.p 7 0)),(7,true,.c (.p 8 0)),(32,true,slV 5 (splB 47 l).length),(33,true,I (splB 47 l).length),(34,true,I x.val.1)])
  (fun x=>upM x.val.2 l) (fun x=>(splB 47 l).length-x.val.1) ⟨(0,u0),by simp,by rfl⟩ (fun _=>clUp _ _) (fun _=>ClE.of rfl) [(4,100),(5,150),(7,111),(8,130)] ?_ ?_
 ·exact⟨rfl,trivial,⟨rfl,rfl,rfl,rfl,rfl,rfl,rfl,trivial⟩,⟨oR,oR,oR,oV (renV (v_st _)),trivial⟩⟩
 ·rintro⟨⟨i,u⟩,hi,hpt⟩ J hb
  simp only at hb hi hpt⊢
  refine Sm.go 170 ?_
  refine vv ?_
  refine mtch (fun hc=>?_) (fun hc=>?_)
  ·have hc:i<(splB 47 l).length:=by simpa using hc
   have hg:=get_st hc
   have hpl:=hsub _ (getD_mem hc)
   rw[drop_getD hc,partsF_cons]at hpt
   have w1:IntKind.i64.wrap ((i:Int)+1)=((i+1:Nat):Int):=by rw[w64 (by omega) (by omega)];omega
   generalize (splB 47 l).getD i []=p at*
   simp(maxSteps:=2000000) only[go_sem,hg]
   refine⟨⟨by omega,by omega⟩,?_⟩
   by_cases h0:i=0
   ·have hq0:((i:Int)==0)=true:=by simpa using h0
    simp(maxSteps:=2000000) only[go_sem,hq0]
    refine mtch (fun hq=>?_) (fun hq=>?_)
    ·have hq:p=[49]:=by simpa using hq
     rw[if_pos ⟨h0,hq⟩]at hpt
     simp only[w1]
     exact hb _ _ ⟨(i+1,u),hc,hpt⟩ [(4,4),(5,5),(7,7),(8,8)] (by simp only;omega) ⟨rfl,trivial,⟨rfl,rfl,rfl,rfl,rfl,rfl,rfl,trivial⟩,⟨oR,oR,oR,oV (renV (v_st _)),trivial⟩⟩
    have hq:p≠[49]:=by simpa using hq
    rw[if_neg (fun h=>hq h.2),if_pos h0,if_pos h0]at hpt
    have hstep:=hpt
    have hPl:∀x∈splB 42 p,x.length≤l.length:=fun x hx=>by have:=splB_sub 42 p x hx;omega
    have hPn:(splB 42 p).length≤41:=by
     rw[splB_len]
     have:=List.count_le_length (a:=(42:UInt8)) (l:=p)
     omega
    refine CallQ.ren [(1,220)] 230 (sSplit p 42 (by omega)) ClM.nil rfl rfl trivial rfl (.inl rfl) ?_
    simp only[Mem.ren,List.map_cons,List.map_nil,renV (v_st _),V.ren,Cv.ren,rn,Nat.reduceBEq,cond_true]
    refine vv ?_
    refine Sm.loopM (M0:=[]) (α:={x:Nat×Un//x.1≤(splB 42 p).length∧facsF (1) x.2 ((splB 42 p).drop x.1)=facsF (1) u (splB 42 p)}) hP
     (fun x=>[(0,true,S l),(2,true,.c (.p 4 0)),(6,true,.c (.p 7 0)),(7,true,.c (.p 8 0)),(32,true,slV 5 (splB 47 l).length),(33,true,I (splB 47 l).length),(34,true,I i),(11,true,I (1)),(51,true,slV 6 (splB 42 p).length),(52,true,I (splB 42 p).length),(53,true,I x.val.1)])
     (fun x=>bSt 6 (splB 42 p)::upM x.val.2 l) (fun x=>(splB 42 p).length-x.val.1) ⟨(0,u),by simp,by rfl⟩ (fun _=>clUp2 _ _ _) (fun _=>ClE.of rfl) [(4,4),(5,5),(6,220),(7,7),(8,8)] ?_ ?_
    ·exact⟨rfl,trivial,⟨rfl,rfl,rfl,rfl,rfl,rfl,rfl,rfl,rfl,rfl,rfl,trivial⟩,⟨oV (renV (v_st _)),oR,oR,oR,oV (renV (v_st _)),trivial⟩⟩
    ·rintro⟨⟨k,v⟩,hk,hf⟩ J2 hb2
     simp only at hb2 hk hf⊢
     refine Sm.go 300 ?_
     refine vv ?_
     refine mtch (fun hkc=>?_) (fun hkc=>?_)
     ·have hkc:k<(splB 42 p).length:=by have:=of_decide_eq_true hkc;omega
      have hg2:=get_st hkc
      have hml:=hPl _ (getD_mem hkc)
      rw[drop_getD hkc,facsF_cons]at hf
      have w3:IntKind.i64.wrap ((k:Int)+1)=((k+1:Nat):Int):=by rw[w64 (by omega) (by omega)];omega
      generalize (splB 42 p).getD k []=f at*
      simp(maxSteps:=2000000) only[go_sem,hg2]
      refine⟨⟨by omega,by omega⟩,?_⟩
      have hrd:=read_ f (by omega)
      cases hr:readF f with
      |none=>
       rw[hr]at hf
       simp only at hf
       rw[←hf]at hstep
       simp only at hstep
       rw[←hstep]at e
       simp only at e
       rw[e]at hR
       rw[show rdR f=(0,0,false) by rw[rdR,hr]]at hrd
       refine CallQ.pure 310 hrd rfl ?_
       refine vv ?_
       exact RetQ.of hR rfl (vv trivial) rvr (Sub.nil _) ClM.nil (ClV.of rfl)
      |some q=>
       obtain⟨j,n⟩:=q
       obtain⟨hj,hn1,hn9⟩:=readF_bd hr
       rw[hr]at hf
       simp only at hf
       rw[show rdR f=(j,n,true) by rw[rdR,hr]]at hrd
       have hp:=pt_get 7 hj
       have hx:=ex_get v hj
       have hst:[Cv.v (.int .i64 v.m),.v (.int .i64 v.kg),.v (.int .i64 v.s),.v (.int .i64 v.a),.v (.int .i64 v.k)].set j (.v (.int .i64 ((1)*(n:Int))))=unL (uset v j ((1)*(n:Int))):=un_set v hj _
       have w4:IntKind.i64.wrap ((1)*(n:Int))=(1)*(n:Int):=by rw[w64 (by omega) (by omega)]
       refine CallQ.pure 310 hrd rfl ?_
       simp(maxSteps:=2000000) only[go_sem,hp,hx]
       refine⟨by omega,?_⟩
       refine mtch (fun hq=>?_) (fun hq=>?_)
       ·have hq:ex v j≠0:=by simpa using hq
        rw[if_neg hq]at hf
        rw[←hf]at hstep
        simp only at hstep
        rw[←hstep]at e
        simp only at e
        rw[e]at hR
        exact RetQ.of hR rfl (vv trivial) rvr (Sub.nil _) ClM.nil (ClV.of rfl)
       ·have hq:ex v j=0:=by simpa using hq
        rw[if_pos hq]at hf
        simp only[w4,hst,w3]
        refine⟨⟨by omega,by omega⟩,by omega,?_⟩
        refine hb2 _ _ ⟨(k+1,uset v j ((1)*(n:Int))),hkc,hf⟩ [(4,4),(5,5),(6,6),(7,7),(8,8)] (by simp only;omega) ?_
        exact⟨rfl,trivial,⟨rfl,rfl,rfl,rfl,rfl,rfl,rfl,rfl,rfl,rfl,rfl,trivial⟩,⟨oV (renV (v_st _)),oR,oR,oR,oV (renV (v_st _)),trivial⟩⟩
     ·have hkc:¬k<(splB 42 p).length:=by have:=of_decide_eq_false hkc;omega
      have hkc:k=(splB 42 p).length:=by omega
      rw[hkc,List.drop_length]at hf
      have hf:some v=facsF (1) u (splB 42 p):=hf
      rw[←hf]at hstep
      simp only at hstep
      simp only[w1]
      refine hb _ _ ⟨(i+1,v),hc,hstep⟩ [(4,4),(5,5),(7,7),(8,8)] (by simp only;omega) ?_
      exact⟨rfl,trivial,⟨rfl,rfl,rfl,rfl,rfl,rfl,rfl,trivial⟩,⟨oR,oR,oR,oV (renV (v_st _)),trivial⟩⟩
   ·have hq0:((i:Int)==0)=false:=by simpa using h0
    simp(maxSteps:=2000000) only[go_sem,hq0]
    rw[if_neg (fun h=>h0 h.1),if_neg h0,if_neg h0]at hpt
    have hstep:=hpt
    have hPl:∀x∈[p],x.length≤l.length:=fun x hx=>by rw[List.mem_singleton.1 hx];exact hpl
    have hPn:([p]:List (List UInt8)).length≤41:=by simp
    refine Sm.loopM (M0:=[]) (α:={x:Nat×Un//x.1≤([p]).length∧facsF (-1) x.2 (([p]).drop x.1)=facsF (-1) u ([p])}) hP
     (fun x=>[(0,true,S l),(2,true,.c (.p 4 0)),(6,true,.c (.p 7 0)),(7,true,.c (.p 8 0)),(32,true,slV 5 (splB 47 l).length),(33,true,I (splB 47 l).length),(34,true,I i),(11,true,I (-1)),(51,true,slV 6 ([p]).length),(52,true,I ([p]).length),(53,true,I x.val.1)])
     (fun x=>bSt 6 ([p])::upM x.val.2 l) (fun x=>([p]).length-x.val.1) ⟨(0,u),by simp,by rfl⟩ (fun _=>clUp2 _ _ _) (fun _=>ClE.of rfl) [(4,4),(5,5),(6,170),(7,7),(8,8)] ?_ ?_
    ·exact⟨rfl,trivial,⟨rfl,rfl,rfl,rfl,rfl,rfl,rfl,rfl,rfl,rfl,rfl,trivial⟩,⟨oV (renV (v_st _)),oR,oR,oR,oV (renV (v_st _)),trivial⟩⟩
    ·rintro⟨⟨k,v⟩,hk,hf⟩ J2 hb2
     simp only at hb2 hk hf⊢
     generalize ([p]:List (List UInt8))=Ps at*
     refine Sm.go 300 ?_
     refine vv ?_
     refine mtch (fun hkc=>?_) (fun hkc=>?_)
     ·have hkc:k<(Ps).length:=by have:=of_decide_eq_true hkc;omega
      have hg2:=get_st hkc
      have hml:=hPl _ (getD_mem hkc)
      rw[drop_getD hkc,facsF_cons]at hf
      have w3:IntKind.i64.wrap ((k:Int)+1)=((k+1:Nat):Int):=by rw[w64 (by omega) (by omega)];omega
      generalize (Ps).getD k []=f at*
      simp(maxSteps:=2000000) only[go_sem,hg2]
      refine⟨⟨by omega,by omega⟩,?_⟩
      have hrd:=read_ f (by omega)
      cases hr:readF f with
      |none=>
       rw[hr]at hf
       simp only at hf
       rw[←hf]at hstep
       simp only at hstep
       rw[←hstep]at e
       simp only at e
       rw[e]at hR
       rw[show rdR f=(0,0,false) by rw[rdR,hr]]at hrd
       refine CallQ.pure 310 hrd rfl ?_
       refine vv ?_
       exact RetQ.of hR rfl (vv trivial) rvr (Sub.nil _) ClM.nil (ClV.of rfl)
      |some q=>
       obtain⟨j,n⟩:=q
       obtain⟨hj,hn1,hn9⟩:=readF_bd hr
       rw[hr]at hf
       simp only at hf
       rw[show rdR f=(j,n,true) by rw[rdR,hr]]at hrd
       have hp:=pt_get 7 hj
       have hx:=ex_get v hj
       have hst:[Cv.v (.int .i64 v.m),.v (.int .i64 v.kg),.v (.int .i64 v.s),.v (.int .i64 v.a),.v (.int .i64 v.k)].set j (.v (.int .i64 ((-1)*(n:Int))))=unL (uset v j ((-1)*(n:Int))):=un_set v hj _
       have w4:IntKind.i64.wrap ((-1)*(n:Int))=(-1)*(n:Int):=by rw[w64 (by omega) (by omega)]
       refine CallQ.pure 310 hrd rfl ?_
       simp(maxSteps:=2000000) only[go_sem,hp,hx]
       refine⟨by omega,?_⟩
       refine mtch (fun hq=>?_) (fun hq=>?_)
       ·have hq:ex v j≠0:=by simpa using hq
        rw[if_neg hq]at hf
        rw[←hf]at hstep
        simp only at hstep
        rw[←hstep]at e
        simp only at e
        rw[e]at hR
        exact RetQ.of hR rfl (vv trivial) rvr (Sub.nil _) ClM.nil (ClV.of rfl)
       ·have hq:ex v j=0:=by simpa using hq
        rw[if_pos hq]at hf
        simp only[w4,hst,w3]
        refine⟨⟨by omega,by omega⟩,by omega,?_⟩
        refine hb2 _ _ ⟨(k+1,uset v j ((-1)*(n:Int))),hkc,hf⟩ [(4,4),(5,5),(6,6),(7,7),(8,8)] (by simp only;omega) ?_
        exact⟨rfl,trivial,⟨rfl,rfl,rfl,rfl,rfl,rfl,rfl,rfl,rfl,rfl,rfl,trivial⟩,⟨oV (renV (v_st _)),oR,oR,oR,oV (renV (v_st _)),trivial⟩⟩
     ·have hkc:¬k<(Ps).length:=by have:=of_decide_eq_false hkc;omega
      have hkc:k=(Ps).length:=by omega
      rw[hkc,List.drop_length]at hf
      have hf:some v=facsF (-1) u (Ps):=hf
      rw[←hf]at hstep
      simp only at hstep
      simp only[w1]
      refine hb _ _ ⟨(i+1,v),hc,hstep⟩ [(4,4),(5,5),(7,7),(8,8)] (by simp only;omega) ?_
      exact⟨rfl,trivial,⟨rfl,rfl,rfl,rfl,rfl,rfl,rfl,trivial⟩,⟨oR,oR,oR,oV (renV (v_st _)),trivial⟩⟩
  ·have hc:¬i<(splB 47 l).length:=by simpa using hc
   have hc:i=(splB 47 l).length:=by omega
   rw[hc,List.drop_length]at hpt
   have hpt:some u=parseQ l:=hpt
   rw[←hpt]at e
   simp only at e
   refine CallQ.pure 200 (text_ u) rfl ?_
   refine vv ?_
   refine mtch (fun hq=>?_) (fun hq=>?_)
   ·have hq:txt u≠l:=by simpa using hq
    rw[if_neg hq]at e
    rw[e]at hR
    exact RetQ.of hR rfl (vv trivial) rvr (Sub.nil _) ClM.nil (ClV.of rfl)
   ·have hq:txt u=l:=by simpa using hq
    rw[if_pos hq]at e
    rw[e]at hR
    exact RetQ.of hR rfl (vv trivial) rvr (Sub.nil _) ClM.nil (ClV.of rfl)
theorem set5 (u v:Un)(c1:List Cv):∀c0:List Cv,(((((c0++unL u++c1).set c0.length (.v (.int .i64 v.m))).set (c0.length+1) (.v (.int .i64 v.kg))).set (c0.length+1+1) (.v (.int .i64 v.s))).set (c0.length+1+1+1) (.v (.int .i64 v.a))).set (c0.length+1+1+1+1) (.v (.int .i64 v.k))=c0++unL v++c1
 |[]=>rfl
 |c::c0=>by
  have ih:=set5 u v c1 c0
  simp only[List.cons_append,List.length_cons,List.set_cons_succ]
  rw[ih]
theorem unit_ (T:List Tk)(hT:T.length≤40000)(g:GTk T)(sT:STk T)(p:Ps)(h:p.at_<T.length)(c0 c1:List Cv)(v0:c0.all Cv.isV=true)(v1:c1.all Cv.isV=true)(ty:TypeId)(u0:Un):
  CallOk Tryz.prog 232 [.c (.p 1 0),.c (.p 3 c0.length)] (pD T p (c0++unL u0++c1) ty) (Bo (untP T p).1.isSome) ((1,⟨false,psC T (untP T p).2,96⟩)::(match (untP T p).1 with|some u=>[(3,⟨false,c0++unL u++c1,ty⟩)]|none=>[])):=by
 have hM:=pM_cl T p
 have hvc:∀u,(c0++unL u++c1).all Cv.isV=true:=fun u=>by rw[List.all_append,List.all_append,v0,v1];rfl
 have hh:=here_ T (by omega) p h
 have hw:=wrong_ T (by omega) p h
 have e1:((hereP T p).k==4)=(((hereP T p).k:Int)==4):=(kB _ 4).symm
 unfold untP
 rw[e1]
 cases hk:((hereP T p).k:Int)==4 with
 |true=>
  simp only[cond_true,Option.isSome_none]
  have hD2:=pD_cl T (wrnP T p) (hvc u0) ty
  refine CallOk.mkN 100 Tryz.func232 rfl en232 (by simp[Tryz.ntmps232]) (ClA.of rfl) rfl rfl fun C hR hP=>?_
  refine vv ?_
  refine CallQ.mi 100 hh hM ⟨oS,oS,trivial⟩ ?_
  simp(maxSteps:=2000000) only[go_sem,hk]
  refine CallQ.mi 110 hw hM ⟨oS,oS,trivial⟩ ?_
  refine vv ?_
  exact RetQ.of hR rfl scc rvv (sub_sh (SubS.sub ⟨oS,oS,oS,trivial⟩)) (clm_sh hD2) (ClV.of rfl)
 |false=>
  simp only[cond_false]
  have hcl:∀q,ClM ((4,⟨false,[nC (hereP T p).l,nC (hereP T p).c],32⟩)::pD T q (c0++unL u0++c1) ty):=fun q=>ClM.of (by simp only[List.all_cons,inMV (rowsC_isV _),inMV (hvc u0)];rfl)
  have hsum:([]:Str).length+((T.drop p.at_).map fun t=>t.s.length).sum≤100000:=by
   refine Nat.le_trans ?_ sT
   conv=>rhs;rw[←List.take_append_drop p.at_ T,List.map_append,List.sum_append]
   simp
  have v_tk:∀T:List Tk,(rowsC (T.map Tk.r)).all Cv.isV=true:=fun _=>rowsC_isV _
  cases hp:(prs (colP T 40000 [] p).1).2==0 with
  |true=>
   simp only[cond_true,Option.isSome_some]
   refine CallOk.mkN 100 Tryz.func232 rfl en232 (by simp[Tryz.ntmps232]) (ClA.of rfl) rfl rfl fun C hR hP=>?_
   refine vv ?_
   refine CallQ.mi 100 hh hM ⟨oS,oS,trivial⟩ ?_
   simp(maxSteps:=2000000) only[go_sem,hk]
   refine CallQ.mi 110 hh hM ⟨oS,oS,trivial⟩ ?_
   simp(maxSteps:=2000000) only[go_sem,hk]
   refine Sm.loopM (M0:=pD T p (c0++unL u0++c1) ty) (α:={x:Str×Ps//x.2.at_<T.length∧(∃f,T.length≤x.2.at_+f∧colP T f x.1 x.2=colP T 40000 [] p)∧x.1.length+((T.drop x.2.at_).map fun t=>t.s.length).sum≤100000}) hP
    (fun x=>[(0,true,.c (.p 1 0)),(1,true,.c (.p 3 c0.length)),(5,true,.c (.p 4 0)),(6,true,S x.val.1)])
    (fun x=>(4,⟨false,[nC (hereP T p).l,nC (hereP T p).c],32⟩)::pD T x.val.2 (c0++unL u0++c1) ty) (fun x=>T.length-x.val.2.at_) ⟨([],p),h,⟨40000,by omega,rfl⟩,hsum⟩ (fun x=>hcl x.val.2) (fun _=>ClE.of rfl) [(1,1),(2,2),(3,3),(4,110)] ?_ ?_
   ·exact⟨rfl,⟨⟨rfl,rfl⟩,⟨rfl,rfl⟩,⟨rfl,rfl⟩,trivial⟩,⟨rfl,rfl,rfl,rfl,trivial⟩,⟨oR,oR,oV (renV (hvc _)),oV (renV (v_tk _)),trivial⟩⟩
   ·rintro⟨⟨s,q⟩,hq,⟨f,hf1,hf2⟩,hs⟩ J hb
    simp only at hb hq hf1 hf2 hs⊢
    refine Sm.go 170 ?_
    have hhq:=here_ T (by omega) q hq
    have hMq:=pM_cl T q
    obtain⟨f,rfl⟩:∃k,f=k+1:=⟨f-1,by omega⟩
    rw[colP]at hf2
    have e2:((hereP T q).k==4)=(((hereP T q).k:Int)==4):=(kB _ 4).symm
    rw[e2]at hf2
    refine vv ?_
    refine CallQ.mi 180 hhq hMq ⟨oS,oS,trivial⟩ ?_
    refine vv ?_
    cases hkq:((hereP T q).k:Int)==4 with
    |false=>
     have hnx:=(adv_on g hq (fun e=>by rw[e]at hkq;cases hkq)).1.2
     rw[hkq,cond_false]at hf2
     rw[sum_drop hq,show T.getD q.at_ tk0=hereP T q from rfl]at hs
     simp(maxSteps:=2000000) only[go_sem,hkq,bne]
     refine CallQ.mi 190 hhq hMq ⟨oS,oS,trivial⟩ ?_
     simp(maxSteps:=2000000) only[go_sem,hkq,aP (by omega) hq]
     exact⟨by omega,hb _ _ ⟨(s++(hereP T q).s,advP q),by show q.at_+1<T.length;have:=(adv_on g hq (fun e=>by rw[e]at hkq;cases hkq)).1.2;exact this,⟨f,by show T.length≤q.at_+1+f;omega,hf2⟩,by show(s++(hereP T q).s).length+((T.drop (q.at_+1)).map fun t=>t.s.length).sum≤100000;rw[List.length_append];omega⟩ [(1,1),(2,2),(3,3),(4,4)] (by show T.length-(q.at_+1)<T.length-q.at_;omega) ⟨rfl,⟨⟨rfl,rfl⟩,⟨rfl,rfl⟩,⟨rfl,rfl⟩,trivial⟩,⟨rfl,rfl,rfl,rfl,trivial⟩,⟨oR,oR,oV (renV (hvc _)),oV (renV (v_tk _)),trivial⟩⟩⟩
    |true=>
     rw[hkq,cond_true]at hf2
     rw[←hf2]at hp hR
     simp only at hp hR
     have hpr:=parse_ s (by omega)
     simp(maxSteps:=2000000) only[go_sem,hkq,bne]
     refine CallQ.pure 200 hpr rfl ?_
     refine vv ?_
     rw[show((prs s).2 !=0)=false from by rw[bne,hp];rfl]
     refine vv ?_
     refine⟨by simp only[List.length_append,List.length_cons,List.length_nil];omega,?_⟩
     have e5:=set5 u0 (prs s).1 c1 c0
     simp only[unL]at e5
     rw[e5]
     exact RetQ.of hR rfl scc rvv (sub_sh2 (SubS.sub ⟨oS,oS,oS,trivial⟩)) (clm_sh2 (pD_cl T q (hvc (prs s).1) ty)) (ClV.of rfl)
  |false=>
   simp only[cond_false,Option.isSome_none]
   refine CallOk.mkN 100 Tryz.func232 rfl en232 (by simp[Tryz.ntmps232]) (ClA.of rfl) rfl rfl fun C hR hP=>?_
   refine vv ?_
   refine CallQ.mi 100 hh hM ⟨oS,oS,trivial⟩ ?_
   simp(maxSteps:=2000000) only[go_sem,hk]
   refine CallQ.mi 110 hh hM ⟨oS,oS,trivial⟩ ?_
   simp(maxSteps:=2000000) only[go_sem,hk]
   refine Sm.loopM (M0:=pD T p (c0++unL u0++c1) ty) (α:={x:Str×Ps//x.2.at_<T.length∧(∃f,T.length≤x.2.at_+f∧colP T f x.1 x.2=colP T 40000 [] p)∧x.1.length+((T.drop x.2.at_).map fun t=>t.s.length).sum≤100000}) hP
    (fun x=>[(0,true,.c (.p 1 0)),(1,true,.c (.p 3 c0.length)),(5,true,.c (.p 4 0)),(6,true,S x.val.1)])
    (fun x=>(4,⟨false,[nC (hereP T p).l,nC (hereP T p).c],32⟩)::pD T x.val.2 (c0++unL u0++c1) ty) (fun x=>T.length-x.val.2.at_) ⟨([],p),h,⟨40000,by omega,rfl⟩,hsum⟩ (fun x=>hcl x.val.2) (fun _=>ClE.of rfl) [(1,1),(2,2),(3,3),(4,110)] ?_ ?_
   ·exact⟨rfl,⟨⟨rfl,rfl⟩,⟨rfl,rfl⟩,⟨rfl,rfl⟩,trivial⟩,⟨rfl,rfl,rfl,rfl,trivial⟩,⟨oR,oR,oV (renV (hvc _)),oV (renV (v_tk _)),trivial⟩⟩
   ·rintro⟨⟨s,q⟩,hq,⟨f,hf1,hf2⟩,hs⟩ J hb
    simp only at hb hq hf1 hf2 hs⊢
    refine Sm.go 170 ?_
    have hhq:=here_ T (by omega) q hq
    have hMq:=pM_cl T q
    obtain⟨f,rfl⟩:∃k,f=k+1:=⟨f-1,by omega⟩
    rw[colP]at hf2
    have e2:((hereP T q).k==4)=(((hereP T q).k:Int)==4):=(kB _ 4).symm
    rw[e2]at hf2
    refine vv ?_
    refine CallQ.mi 180 hhq hMq ⟨oS,oS,trivial⟩ ?_
    refine vv ?_
    cases hkq:((hereP T q).k:Int)==4 with
    |false=>
     have hnx:=(adv_on g hq (fun e=>by rw[e]at hkq;cases hkq)).1.2
     rw[hkq,cond_false]at hf2
     rw[sum_drop hq,show T.getD q.at_ tk0=hereP T q from rfl]at hs
     simp(maxSteps:=2000000) only[go_sem,hkq,bne]
     refine CallQ.mi 190 hhq hMq ⟨oS,oS,trivial⟩ ?_
     simp(maxSteps:=2000000) only[go_sem,hkq,aP (by omega) hq]
     exact⟨by omega,hb _ _ ⟨(s++(hereP T q).s,advP q),by show q.at_+1<T.length;have:=(adv_on g hq (fun e=>by rw[e]at hkq;cases hkq)).1.2;exact this,⟨f,by show T.length≤q.at_+1+f;omega,hf2⟩,by show(s++(hereP T q).s).length+((T.drop (q.at_+1)).map fun t=>t.s.length).sum≤100000;rw[List.length_append];omega⟩ [(1,1),(2,2),(3,3),(4,4)] (by show T.length-(q.at_+1)<T.length-q.at_;omega) ⟨rfl,⟨⟨rfl,rfl⟩,⟨rfl,rfl⟩,⟨rfl,rfl⟩,trivial⟩,⟨rfl,rfl,rfl,rfl,trivial⟩,⟨oR,oR,oV (renV (hvc _)),oV (renV (v_tk _)),trivial⟩⟩⟩
    |true=>
     rw[hkq,cond_true]at hf2
     rw[←hf2]at hp hR
     simp only at hp hR
     have hpr:=parse_ s (by omega)
     simp(maxSteps:=2000000) only[go_sem,hkq,bne]
     refine CallQ.pure 200 hpr rfl ?_
     refine vv ?_
     rw[show((prs s).2 !=0)=true from by rw[bne,hp];rfl]
     refine vv ?_
     refine CallQ.mi 210 (stop_ T q (hereP T p).l (hereP T p).c 3) hMq ⟨oS,oS,trivial⟩ ?_
     refine vv ?_
     exact RetQ.of hR rfl scc rvv (sub_sh (SubS.sub ⟨oS,oS,oS,trivial⟩)) (clm_sh (pD_cl T (stopP q (hereP T p).l (hereP T p).c 3) (hvc u0) ty)) (ClV.of rfl)
end Go.Proofs.YtlnpgbnhcondjaaGreatDoor.Fx
