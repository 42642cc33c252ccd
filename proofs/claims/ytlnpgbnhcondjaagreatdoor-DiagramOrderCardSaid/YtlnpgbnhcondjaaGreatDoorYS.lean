/-  -/
import Derived.Test.YtlnpgbnhcondjaaGreatDoorTf
import Derived.Test.YtlnpgbnhcondjaaGreatDoorYQ
namespace Go.Proofs.YtlnpgbnhcondjaaGreatDoor.Fx
open Vg Tf Go.RowKit
set_option linter.unusedSimpArgs false
set_option linter.unusedVariables false
set_option maxRecDepth 100000
set_option maxHeartbeats 4000000
theorem cutT {A:Prop}{B:Type}{T:B→Prop}{b:B}(main:T b→A)(tail:T b):A:=main tail
theorem _root_.Go.Proofs.YtlnpgbnhcondjaaGreatDoor.Vg.CallQ.mioS {P:Program}{nt:Nat}{C:Cx}{todo:List It}{e:Env}{M:Mem}{f:FuncId}{vs:List (Option (Bool×V))}{g:Bool}{dst:Option Nat}{xs:List V}{v:V}{M1 N:Mem}(hc:CallOk P f xs M1 v N)(hcl:ClM M1)(hvs:vs=xs.map fun x=>some (true,x))
  (hs:SubS M1 M) (hfr:N.all (fun p=>(M1.get p.1).isSome||(M.get p.1).isNone)=true) (hg:g=true∨N=[]) (h:Sm P nt C todo (e.put dst g v) (N++M)):CallQ P nt C f vs g dst todo e M:=
 Or.inl ⟨M1,N,v,xs,fun _=>hvs,fun _=>Or.inl (Or.inl hc),hs.sub,hcl,Fresh.of hfr,hg,h⟩
theorem nms_len {T:List Tk}(g:GTk T)(a b:Str):∀(f:Nat) (l:List Str) (p:Ps),p.at_<T.length→∀l',(nmsP T a b f l p).1=some l'→l'.length+p.at_≤l.length+(nmsP T a b f l p).2.at_
 |0,l,p,h,l',hl=>by cases hl
 |f+1,l,p,h,l',hl=>by
  rw[nmsP]at hl⊢
  have hon:=nam_on g h
  generalize namP T p=r at hl hon⊢
  obtain⟨o,q⟩:=r
  cases o with
  |none=>cases hl
  |some s=>
   have hq:p.at_<q.at_:=hon.2 rfl
   simp only[bnd]at hl⊢
   cases hc:(isP T a q||isP T b q)with
   |true=>
    rw[hc]at hl
    cases hl
    show(l++[s]).length+_≤_+q.at_
    rw[List.length_append,List.length_singleton];omega
   |false=>
    rw[hc]at hl
    have ht:=tak_on g [44] hon.1.2
    simp only[cond_false]at hl⊢
    generalize takP T [44] q=r at hl ht⊢
    obtain⟨o,q2⟩:=r
    cases o with
    |false=>cases hl
    |true=>
     have:=nms_len g a b f (l++[s]) q2 ht.2 l' hl
     rw[List.length_append,List.length_singleton]at this
     have h3:q.at_≤q2.at_:=ht.1
     show _≤_+(nmsP T a b f (l++[s]) q2).2.at_
     omega
theorem _root_.Go.Proofs.YtlnpgbnhcondjaaGreatDoor.Vg.Stp.slice3 {P:Program}{o:Oper}{e:Env}{M:Mem}{ty el:TypeId}{x hi mx:Operand} {b off len c sz k:Nat}{k1 k2:IntKind}(ho:o.op= .slice ty x none (some hi) (some mx))(hx:rd e x=some (true,.c (.v (.slice (some ⟨b,off,none⟩) len c))))(hh:rd e hi=some (true,.c (.v (.int k1 k))))(hm:rd e mx=some (true,.c (.v (.int k2 k))))
  (hsl:slOf P ty=some (el,sz)) (hk:k≤c):Stp P o e M (.c (.v (.slice (some ⟨b,off,none⟩) k k))) []:=by
 obtain⟨hu,hsz,hsz0⟩:=slOf_ok hsl
 exact Stp.pure fun β a hop w=>by
  have hex:=hop x (by simp[ho,Op.operands]) _ hx
  have heh:=hop hi (by simp[ho,Op.operands]) _ hh
  have hem:=hop mx (by simp[ho,Op.operands]) _ hm
  simp only[gv,V.g,Cv.g,cond_true]at hex heh hem
  have hb1:(Instr.sliceBounds true len c none (some (a.eval hi)) (some (a.eval mx))).run P w= .ok (0,k,k) w:=by
   simp[Instr.sliceBounds,heh,hem,run_sliceBound (P:=P) w k1 k k .slice3B (by omega) (by omega),run_sliceBound (P:=P) w k2 k c .slice3Acap (by omega) (by omega)]
  have hat:(Instr.sliceAt ty (a.eval x) none (some (a.eval hi)) (some (a.eval mx))).run P w=(Instr.slice ty (a.eval x) none (some (a.eval hi)) (some (a.eval mx))).run P w:=by
   simp[Instr.sliceAt,run_underlying hu]
  unfold execOp
  simp only[ho,Sem.run_bind,Option.map_some,Option.map_none,hat]
  rw[hex]
  simp only[Instr.slice,Sem.run_bind,run_underlying hu,Result.andThen_ok,hb1,run_sizeOf' hsz hsz0,Sem.run_pure,Option.map_some,Addr.add_lit]
  congr 2
  by_cases h0:k=0<;>simp[h0,V.g,Cv.g]
theorem strs_flat:∀l:List Str,(strsR l).flatten=l.map sv
 |[]=>rfl
 |a::l=>by show sv a::(strsR l).flatten=_;rw[strs_flat l];rfl
theorem SlH.cut {H:Hp}{v:Value}{l:List Str}(h:SlH H v 1 (strsR l)){k:Nat}(hk:k<l.length):∃b o c,v= .slice (some ⟨b,o,none⟩) l.length c∧k≤c∧SlH H (.slice (some ⟨b,o,none⟩) k k) 1 (strsR (l.take k))∧∃cs el mk,H b (.cells cs el mk)∧∀i x,l[i]?=some x→cs[o+i]?=some (sv x):=by
 obtain⟨lc,h1,h2,h3⟩:=h
 have hfl:=strs_flat l
 have hlen:(strsR l).length=l.length:=by unfold strsR;rw[List.length_map]
 rw[hfl]at h3
 have hn:lc.nul=false:=by
  cases hq:lc.nul with
  |false=>rfl
  |true=>
   have:=congrArg List.length (h3.1 hq)
   rw[List.length_map]at this
   have:l.length=0:=this
   omega
 obtain⟨c,el,mk,q1,q2⟩:=h3.2.2 hn
 have hs:=h3.2.1
 rw[List.length_map]at hs
 rw[hlen]at h1
 refine⟨lc.blk,lc.org,(lc.siz-0)/1,?_,by simp;omega,?_,c,el,mk,q1,fun i x hx=>q2 i _ (by rw[List.getElem?_map,hx];rfl)⟩
 ·rw[h1]
  simp only[Cv.g,hn,Bool.false_eq_true,false_and,if_false,Nat.add_zero]
 ·have hlt:(strsR (l.take k)).length=k:=by unfold strsR;rw[List.length_map,List.length_take];omega
  have hft:=strs_flat (l.take k)
  refine⟨⟨lc.blk,lc.org,k,false,none⟩,by rw[hlt];simp[Cv.g],fun r hr=>by obtain⟨a,_,rfl⟩:=List.mem_map.1 hr;rfl,?_⟩
  rw[hft]
  refine⟨fun h=>(by cases h),(by rw[List.length_map,List.length_take];exact Nat.min_le_left _ _),fun _=>⟨c,el,mk,q1,fun i x hx=>?_⟩⟩
  refine q2 i x ?_
  rw[List.getElem?_map]at hx⊢
  rw[List.getElem?_take]at hx
  split at hx
  ·exact hx
  ·cases hx
def bk4P (T:List Tk)(f kd:Tk)(a k t:Nat)(nm:Str)(m:Nat)(ins:List Str)(ks:List Int)(p:Ps):Option Bl×Ps:=
 bndB (takP T [41] p) fun p=>bndB (takP T [58] p) fun p=>bnd (namP T p) fun ty p=>
 bif !((hereP T p).k==4)then(none,(endP T p).2)else
 bif !(decide (ins.length=a+min t 1))|| !(decide (ks.length=k))then(none,stopP p kd.l kd.c 1)else bndB (fulP f m 200 p) fun p=>
 (some ⟨nm,kd.s,ty,ins.take a,bif decide (1≤t)then ins.getD a []else[],ks⟩,p)
def bk3P (T:List Tk)(f kd:Tk)(a k t:Nat)(nm:Str)(m:Nat)(ins:List Str)(p:Ps):Option Bl×Ps:=bnd (ksP T p) fun ks p=>bk4P T f kd a k t nm m ins ks p
theorem bk2_eq (T:List Tk)(f kd:Tk)(a k t:Nat)(nm:Str)(m:Nat)(p:Ps):bk2P T f kd a k t nm m p=bndB (takP T [40] p) fun p=>bnd (arsP T p) fun ins p=>bk3P T f kd a k t nm m ins p:=rfl
abbrev blD:BlL:=⟨⟨[],[],[],[],[],[]⟩,⟨none,0⟩,⟨none,0⟩⟩
theorem kd_bd {s:Str}{a k t:Nat}(h:kindQ s=some (a,k,t)):a≤3∧k≤2∧t≤2:=by
 unfold kindQ at h
 obtain⟨r,hr,h2⟩:=Option.map_eq_some_iff.1 h
 have hm:=List.mem_of_find?_eq_some hr
 have:kindT.all (fun r=>decide (r.2.1≤3∧r.2.2.1≤2∧r.2.2.2≤2))=true:=by decide
 have:=of_decide_eq_true (List.all_eq_true.1 this r hm)
 rw[h2]at this;exact this
theorem block_ {H:Hp}(T:List Tk)(hT:T.length≤40000)(g:GTk T)(sT:STk T)(hN:hNum T)(p:Ps)(h:p.at_<T.length)(f:Tk)(d:DgL)(hd:d.bls.length≤1000000):
  CallX H Tryz.prog 155 [.c (.p 1 0),.c (.p 4 0),tkV f] (pB T p d) (fun _:BlL=>Bo (blkP T f d.bls.length p).1.isSome)
   (fun x=>bPs T (blkP T f d.bls.length p).2::(match (blkP T f d.bls.length p).1 with|some _=>[bDg (dgCb 24 (d.bls.length+1) d),bRw 24 BlL.r 82 (d.bls++[x]),bDd 14 82]|none=>[])) (fun x H'=>∀c,(blkP T f d.bls.length p).1=some c→x.c=c∧x.ok H'):=by
 have clF:∀q,ClM (bPs T q::pB T p d):=fun q=>ClM.of (by simp only[List.all_cons,inMV (rowsC_isV _)];rfl)
 have clS:∀q x,ClM ([bPs T q,bDg (dgCb 24 (d.bls.length+1) d),bRw 24 BlL.r 82 (d.bls++[x]),bDd 14 82]++pB T p d):=fun q x=>ClM.of (by simp only[List.cons_append,List.nil_append,List.all_cons,inMV (rowsC_isV _)];rfl)
 have cl30:∀q cs,cs.all Cv.isV=true→ClM [bPs T q,(30,⟨false,cs,82⟩),bTkT T]:=fun q cs h=>ClM.of (by simp only[List.all_cons,inMV (rowsC_isV _),inMV h];rfl)
 have cl32:∀q cs,cs.all Cv.isV=true→ClM [bPs T q,(32,⟨false,cs,28⟩),bTkT T]:=fun q cs h=>ClM.of (by simp only[List.all_cons,inMV (rowsC_isV _),inMV h];rfl)
 have cl34:∀q n,ClM [bPs T q,(34,⟨false,[iC n],3⟩),bTkT T]:=fun q n=>ClM.of (by simp only[List.all_cons,inMV (rowsC_isV _)];rfl)
 have v_tk:∀T:List Tk,(rowsC (T.map Tk.r)).all Cv.isV=true:=fun _=>rowsC_isV _
 have v_bl:∀l:List BlL,(rowsC (l.map BlL.r)).all Cv.isV=true:=fun _=>rowsC_isV _
 refine CallX.mkS Tryz.func155 rfl en155 (by simp[Tryz.ntmps155]) (ClA.of rfl) (fun _=>by cases (blkP T f d.bls.length p).1<;>rfl) (fun _=>by cases (blkP T f d.bls.length p).1<;>rfl) fun C hR hP hH hL=>?_
 refine Sm.go 29 ?_
 refine vv ?_
 generalize hX:blkP T f d.bls.length p=X at*
 unfold blkP at hX
 have hi:=nameN_ 30 rfl T (by omega) sT p h [sC [],sC [],sC [],.v (.slice none 0 0),sC [],.v (.slice none 0 0)] rfl 0 (by simp) 82
 have hon:=(nam_on g h).1
 generalize namP T p=r at hi hon hX
 obtain⟨o,q1⟩:=r
 have hq1:q1.at_<T.length:=hon.2
 cases o with
 |none=>
  simp only[bnd,bndB]at hX
  subst hX
  simp only[Option.isSome_none]at hi
  refine CallQ.mi 42 hi (cl30 _ _ rfl) ⟨oS,oS,oS,trivial⟩ ?_
  refine vv ?_
  refine CallQ.guard (v:=Bo false) (xs:=[]) 44 (fun h=>by cases h) (fun h=>by cases h) ?_
  refine vv ?_
  exact RetQ.of (hR blD C hL (fun c hc=>by cases hc)) rfl scc rvv (SubV.sub0 ⟨oR,oL,oR,oR,oR,oR,oR,oR,oR,oR,trivial⟩) (clF _) (ClV.of rfl)
 |some x42=>
  simp only[bnd,bndB]at hX
  simp only[Option.isSome_some,List.set_cons_zero,List.set_cons_succ,unL,List.cons_append,List.nil_append,List.append_nil]at hi
  refine CallQ.mi 42 hi (cl30 _ _ rfl) ⟨oS,oS,oS,trivial⟩ ?_
  refine vv ?_
  have hi:=take_ T (by omega) q1 hq1 [61]
  have hon:=tak_on g [61] hq1
  generalize takP T [61] q1=r at hi hon hX
  obtain⟨o,q2⟩:=r
  have hq2:q2.at_<T.length:=hon.2
  cases o with
  |false=>
   simp only[bnd,bndB]at hX
   subst hX
   refine CallQ.mi 46 hi (pM_cl T _) ⟨oS,oS,trivial⟩ ?_
   refine vv ?_
   exact RetQ.of (hR blD C hL (fun c hc=>by cases hc)) rfl scc rvv (SubV.sub0 ⟨oR,oL,oR,oR,oR,oR,oR,oR,oR,oR,trivial⟩) (clF _) (ClV.of rfl)
  |true=>
   simp only[bnd,bndB]at hX
   refine CallQ.mi 46 hi (pM_cl T _) ⟨oS,oS,trivial⟩ ?_
   refine vv ?_
   have hh:=here_ T (by omega) q2 hq2
   have hw:=wrong_ T (by omega) q2 hq2
   have hkd:=kind_ (hereP T q2).s
   have e1:((hereP T q2).k==1)=(((hereP T q2).k:Int)==1):=(kB _ 1).symm
   rw[e1]at hX
   refine CallQ.mi 31 hh (pM_cl T _) ⟨oS,oS,trivial⟩ ?_
   refine vv ?_
   refine CallQ.pure 50 hkd rfl ?_
   cases hk1:((hereP T q2).k:Int)==1 with
   |false=>
    rw[hk1]at hX
    simp only[Bool.not_false,Bool.true_or,cond_true]at hX
    subst hX
    simp(maxSteps:=2000000) only[go_sem,hk1,bne]
    refine CallQ.mi 52 hw (pM_cl T _) ⟨oS,oS,trivial⟩ ?_
    refine vv ?_
    exact RetQ.of (hR blD C hL (fun c hc=>by cases hc)) rfl scc rvv (SubV.sub0 ⟨oR,oL,oR,oR,oR,oR,oR,oR,oR,oR,trivial⟩) (clF _) (ClV.of rfl)
   |true=>
    rw[hk1]at hX
    cases hkq:kindQ (hereP T q2).s with
    |none=>
     rw[hkq]at hX
     simp only[Option.isSome_none,Bool.not_false,Bool.or_true,cond_true]at hX
     subst hX
     simp(maxSteps:=2000000) only[go_sem,hk1,bne,hkq,Option.isSome_none,Option.getD_none]
     refine CallQ.mi 52 hw (pM_cl T _) ⟨oS,oS,trivial⟩ ?_
     refine vv ?_
     exact RetQ.of (hR blD C hL (fun c hc=>by cases hc)) rfl scc rvv (SubV.sub0 ⟨oR,oL,oR,oR,oR,oR,oR,oR,oR,oR,trivial⟩) (clF _) (ClV.of rfl)
    |some x=>
     obtain⟨a,k,t⟩:=x
     obtain⟨ha3,hk2,ht2⟩:=kd_bd hkq
     rw[hkq]at hX
     simp only[Option.isSome_some,Bool.not_true,Bool.or_false,cond_false,Option.getD_some,bk2_eq]at hX
     have hk4:(hereP T q2).k≠4:=by have:=eq_of_beq hk1;omega
     have hadv:=(adv_on g hq2 hk4).1
     have hqa:(advP q2).at_<T.length:=hadv.2
     simp(maxSteps:=2000000) only[go_sem,hk1,bne,hkq,Option.isSome_some,Option.getD_some,aP (show T.length≤100000 by omega) hq2]
     generalize hereP T q2=kd at*
     have hi:=take_ T (by omega) (advP q2) hqa [40]
     have hon:=tak_on g [40] hqa
     generalize takP T [40] (advP q2)=r at hi hon hX
     obtain⟨o,q0⟩:=r
     have hq0:q0.at_<T.length:=hon.2
     cases o with
     |false=>
      simp only[bndB]at hX
      subst hX
      refine CallQ.mi 60 hi (pM_cl T _) ⟨oS,oS,trivial⟩ ?_
      refine vv ?_
      exact RetQ.of (hR blD C hL (fun c hc=>by cases hc)) rfl scc rvv (SubV.sub0 ⟨oR,oL,oR,oR,oR,oR,oR,oR,oR,oR,trivial⟩) (clF _) (ClV.of rfl)
     |true=>
      simp only[bndB]at hX
      refine CallQ.mi 32 hi (pM_cl T _) ⟨oS,oS,trivial⟩ ?_
      refine vv ?_
      apply cutT (T:=fun todo=>∀(C1:Cx) (ins:List Str) (si:Sv) (q:Ps),Lf C C1→SlH C1.hp (vsl si ins.length) 1 (strsR ins)→ins.length≤40000→q.at_<T.length→bk3P T f kd a k t x42 d.bls.length ins q=X→Sm Tryz.prog 170 C1 todo [(0,true,.c (.p 1 0)),(1,true,.c (.p 4 0)),(5,true,.c (.p 29 0)),(7,true,.c (.p 30 0)),(8,true,.c (.p 31 0)),(9,true,I a),(10,true,I k),(11,true,I t),(13,true,.c (.p 32 0)),(71,true,Bo (isP T [59] q))] [bPs T q,bDg (dgC d),bTkT T,bRw 14 BlL.r 82 d.bls,bDd 10 93,bDd 11 110,bDd 12 115,bDd 13 118,bDd 15 9,(29,⟨false,[nC f.k,sC f.s,nC f.l,nC f.c],57⟩),(30,⟨false,[sC x42,sC kd.s,sC [],.v (.slice none 0 0),sC [],.v (.slice none 0 0)],82⟩),(31,⟨false,[nC kd.k,sC kd.s,nC kd.l,nC kd.c],57⟩),(32,⟨false,[.v (vsl si ins.length)],28⟩)])
      ·intro tail
       have h41:=is_ T (by omega) q0 hq0 [41]
       have h59:=is_ T (by omega) q0 hq0 [59]
       unfold arsP at hX
       cases hi41:isP T [41] q0 with
       |true=>
        rw[hi41]at hX h41
        simp only[Bool.true_or,cond_true,bnd]at hX
        refine CallQ.mi 60 h41 (pM_cl T _) ⟨oS,oS,trivial⟩ ?_
        refine vv ?_
        refine CallQ.guard (v:=Bo false) (xs:=[]) 62 (fun h=>by cases h) (fun h=>by cases h) ?_
        refine vv ?_
        refine CallQ.guard (v:=Bo false) (xs:=[]) 64 (fun h=>by cases h) (fun h=>by cases h) ?_
        refine vv ?_
        refine CallQ.mioS h59 (pM_cl T _) rfl ⟨oS,oS,trivial⟩ rfl (.inr rfl) ?_
        refine Sm.cutm (M0:=pB T p d) hP [(0,true,.c (.p 1 0)),(1,true,.c (.p 4 0)),(5,true,.c (.p 29 0)),(7,true,.c (.p 30 0)),(8,true,.c (.p 31 0)),(9,true,I a),(10,true,I k),(11,true,I t),(13,true,.c (.p 32 0)),(71,true,Bo (isP T [59] q0))] [bPs T q0,bDg (dgC d),bTkT T,bRw 14 BlL.r 82 d.bls,bDd 10 93,bDd 11 110,bDd 12 115,bDd 13 118,bDd 15 9,(29,⟨false,[nC f.k,sC f.s,nC f.l,nC f.c],57⟩),(30,⟨false,[sC x42,sC kd.s,sC [],.v (.slice none 0 0),sC [],.v (.slice none 0 0)],82⟩),(31,⟨false,[nC kd.k,sC kd.s,nC kd.l,nC kd.c],57⟩),(32,⟨false,[.v (vsl ⟨none,0⟩ ([]:List Str).length)],28⟩)] [(1,1),(4,4),(2,2),(14,14),(10,10),(11,11),(12,12),(13,13),(15,15),(29,29),(30,30),(31,31),(32,32)] ⟨rfl,⟨⟨rfl,rfl⟩,⟨rfl,rfl⟩,⟨rfl,rfl⟩,⟨rfl,rfl⟩,⟨rfl,rfl⟩,⟨rfl,rfl⟩,⟨rfl,rfl⟩,⟨rfl,rfl⟩,⟨rfl,rfl⟩,trivial⟩,⟨rfl,rfl,rfl,rfl,rfl,rfl,rfl,rfl,rfl,rfl,trivial⟩,⟨oR,oR,oV (renV (v_tk _)),oV (renV (v_bl _)),oR,oR,oR,oR,oR,oR,oR,oR,oR,trivial⟩⟩ (ClM.of (by simp only[List.all_cons,inMV (rowsC_isV _)];rfl)) (ClE.of rfl) ?_
        exact tail C [] ⟨none,0⟩ q0 hL (SlH.nil 1) (Nat.zero_le _) hq0 hX
       |false=>
        rw[hi41]at hX h41
        simp only[Bool.false_or]at hX
        refine CallQ.mi 60 h41 (pM_cl T _) ⟨oS,oS,trivial⟩ ?_
        refine vv ?_
        cases hi59:isP T [59] q0 with
        |true=>
         have h59b:=h59
         rw[hi59]at hX h59b
         simp only[cond_true,bnd]at hX
         refine CallQ.mi 62 h59b (pM_cl T _) ⟨oS,oS,trivial⟩ ?_
         refine vv ?_
         refine CallQ.guard (v:=Bo false) (xs:=[]) 64 (fun h=>by cases h) (fun h=>by cases h) ?_
         refine vv ?_
         refine CallQ.mioS h59 (pM_cl T _) rfl ⟨oS,oS,trivial⟩ rfl (.inr rfl) ?_
         refine Sm.cutm (M0:=pB T p d) hP [(0,true,.c (.p 1 0)),(1,true,.c (.p 4 0)),(5,true,.c (.p 29 0)),(7,true,.c (.p 30 0)),(8,true,.c (.p 31 0)),(9,true,I a),(10,true,I k),(11,true,I t),(13,true,.c (.p 32 0)),(71,true,Bo (isP T [59] q0))] [bPs T q0,bDg (dgC d),bTkT T,bRw 14 BlL.r 82 d.bls,bDd 10 93,bDd 11 110,bDd 12 115,bDd 13 118,bDd 15 9,(29,⟨false,[nC f.k,sC f.s,nC f.l,nC f.c],57⟩),(30,⟨false,[sC x42,sC kd.s,sC [],.v (.slice none 0 0),sC [],.v (.slice none 0 0)],82⟩),(31,⟨false,[nC kd.k,sC kd.s,nC kd.l,nC kd.c],57⟩),(32,⟨false,[.v (vsl ⟨none,0⟩ ([]:List Str).length)],28⟩)] [(1,1),(4,4),(2,2),(14,14),(10,10),(11,11),(12,12),(13,13),(15,15),(29,29),(30,30),(31,31),(32,32)] ⟨rfl,⟨⟨rfl,rfl⟩,⟨rfl,rfl⟩,⟨rfl,rfl⟩,⟨rfl,rfl⟩,⟨rfl,rfl⟩,⟨rfl,rfl⟩,⟨rfl,rfl⟩,⟨rfl,rfl⟩,⟨rfl,rfl⟩,trivial⟩,⟨rfl,rfl,rfl,rfl,rfl,rfl,rfl,rfl,rfl,rfl,trivial⟩,⟨oR,oR,oV (renV (v_tk _)),oV (renV (v_bl _)),oR,oR,oR,oR,oR,oR,oR,oR,oR,trivial⟩⟩ (ClM.of (by simp only[List.all_cons,inMV (rowsC_isV _)];rfl)) (ClE.of rfl) ?_
         exact tail C [] ⟨none,0⟩ q0 hL (SlH.nil 1) (Nat.zero_le _) hq0 hX
        |false=>
         rw[hi59]at hX h59
         simp only[cond_false]at hX
         refine CallQ.mi 62 h59 (pM_cl T _) ⟨oS,oS,trivial⟩ ?_
         refine vv ?_
         have hi:=namesN_ (H:=C.hp) 32 33 rfl T hT g sT q0 hq0 [59] [41] [] [] rfl rfl 28
         have hon:=nms_on g [59] [41] 40000 [] q0 hq0
         have hln:=nms_len g [59] [41] 40000 [] q0 hq0
         generalize nmsP T [59] [41] 40000 [] q0=r at hi hon hln hX
         obtain⟨o,q⟩:=r
         have hq:q.at_<T.length:=hon.2
         cases o with
         |none=>
          simp only[bnd]at hX
          subst hX
          simp only[Option.isSome_none]at hi
          refine CallQ.x 64 hL hi (Hp.le.refl _) (SubS.sub ⟨oS,oS,oS,trivial⟩) (cl32 _ _ rfl) (fun _=>Fresh.of rfl) rfl rfl rfl (fun z C1 H1 l1 k1 _ _=>?_)
          refine vv ?_
          exact RetQ.of (hR blD C1 l1 (fun c hc=>by cases hc)) rfl scc rvv (SubV.sub0 ⟨oR,oL,oR,oR,oR,oR,oR,oR,oR,oR,trivial⟩) (clF _) (ClV.of rfl)
         |some ins=>
          simp only[bnd]at hX
          have hln:ins.length+q0.at_≤0+q.at_:=hln ins rfl
          simp only[Option.isSome_some,List.nil_append]at hi
          refine CallQ.xS hL hi (Hp.le.refl _) (SubS.sub ⟨oS,oS,oS,trivial⟩) (cl32 _ _ rfl) (fun _=>Fresh.of rfl) rfl rfl rfl (fun z C1 H1 l1 k1 _ hz=>?_)
          have hz:=(hz ins rfl).symm
          subst hz
          refine Sm.letgo (M0:=pB T p d) [33] l1 hP rfl (by unfold concOk;simp only[List.cons_append,List.nil_append,List.all_cons,cokV (v_sC2 _),cokV (rowsC_isV _)];rfl) (fun β C2 l2 k2 kn=>?_)
          obtain⟨si,hvi,hki⟩:=(kn 33 _ rfl rfl rfl).vslx (sz:=1) (rows:=strsR ins) (fun r hr=>by obtain⟨a,_,rfl⟩:=List.mem_map.1 hr;rfl) (strsC _).symm
          have eii:(strsR ins).length=ins.length:=by unfold strsR;rw[List.length_map]
          rw[eii]at hvi hki
          simp only[Mem.conc,Env.conc,Bk.conc,Cv.conc,V.conc,List.cons_append,List.nil_append,List.map_cons,List.map_nil,List.contains_cons,List.contains_nil,Nat.reduceBEq,Bool.or_false,Bool.or_true,cond_true,cond_false,concV (rowsC_isV _),concV (v_iC2 _),concV (v_sC2 _),hvi]
          refine Sm.go 66 ?_
          refine vv ?_
          refine CallQ.mioS (is_ T (by omega) q hq [59]) (pM_cl T _) rfl ⟨oS,oS,trivial⟩ rfl (.inr rfl) ?_
          refine Sm.cutm (M0:=pB T p d) (l2.pins hP) [(0,true,.c (.p 1 0)),(1,true,.c (.p 4 0)),(5,true,.c (.p 29 0)),(7,true,.c (.p 30 0)),(8,true,.c (.p 31 0)),(9,true,I a),(10,true,I k),(11,true,I t),(13,true,.c (.p 32 0)),(71,true,Bo (isP T [59] q))] [bPs T q,bDg (dgC d),bTkT T,bRw 14 BlL.r 82 d.bls,bDd 10 93,bDd 11 110,bDd 12 115,bDd 13 118,bDd 15 9,(29,⟨false,[nC f.k,sC f.s,nC f.l,nC f.c],57⟩),(30,⟨false,[sC x42,sC kd.s,sC [],.v (.slice none 0 0),sC [],.v (.slice none 0 0)],82⟩),(31,⟨false,[nC kd.k,sC kd.s,nC kd.l,nC kd.c],57⟩),(32,⟨false,[.v (vsl si ins.length)],28⟩)] [(1,1),(4,4),(2,2),(14,14),(10,10),(11,11),(12,12),(13,13),(15,15),(29,29),(30,30),(31,31),(32,32)] ⟨rfl,⟨⟨rfl,rfl⟩,⟨rfl,rfl⟩,⟨rfl,rfl⟩,⟨rfl,rfl⟩,⟨rfl,rfl⟩,⟨rfl,rfl⟩,⟨rfl,rfl⟩,⟨rfl,rfl⟩,⟨rfl,rfl⟩,trivial⟩,⟨rfl,rfl,rfl,rfl,rfl,rfl,rfl,rfl,rfl,rfl,trivial⟩,⟨oR,oR,oV (renV (v_tk _)),oV (renV (v_bl _)),oR,oR,oR,oR,oR,oR,oR,oR,oR,trivial⟩⟩ (ClM.of (by simp only[List.all_cons,inMV (rowsC_isV _)];rfl)) (ClE.of rfl) ?_
          exact tail C2 ins si q l2 hki (by omega) hq hX
      intro C1 ins si q l1 hsi hil hq hX
      apply cutT (T:=fun todo=>∀(C2:Cx) (ks:List Int) (sk:Sv) (q qt:Ps) (b:Bool),Lf C C2→SlH C2.hp (vsl si ins.length) 1 (strsR ins)→SlH C2.hp (vsl sk ks.length) 1 (intsR ks)→ks.length≤40000→q.at_<T.length→takP T [41] q=(b,qt)→qt.at_<T.length→bk4P T f kd a k t x42 d.bls.length ins ks q=X→Sm Tryz.prog 170 C2 todo [(0,true,.c (.p 1 0)),(1,true,.c (.p 4 0)),(5,true,.c (.p 29 0)),(7,true,.c (.p 30 0)),(8,true,.c (.p 31 0)),(9,true,I a),(10,true,I k),(11,true,I t),(13,true,.c (.p 32 0)),(99,true,Bo b)] [bPs T qt,bDg (dgC d),bTkT T,bRw 14 BlL.r 82 d.bls,bDd 10 93,bDd 11 110,bDd 12 115,bDd 13 118,bDd 15 9,(29,⟨false,[nC f.k,sC f.s,nC f.l,nC f.c],57⟩),(30,⟨false,[sC x42,sC kd.s,sC [],.v (.slice none 0 0),sC [],.v (vsl sk ks.length)],82⟩),(31,⟨false,[nC kd.k,sC kd.s,nC kd.l,nC kd.c],57⟩),(32,⟨false,[.v (vsl si ins.length)],28⟩)])
      ·intro tail
       unfold bk3P ksP at hX
       cases hi59:isP T [59] q with
       |false=>
        rw[hi59]at hX
        simp only[cond_false,bnd]at hX
        refine Sm.go 50 ?_
        refine vv ?_
        have hta:=take_ T (by omega) q hq [41]
        have hto:=tak_on g [41] hq
        generalize htk:takP T [41] q=r at hta hto
        obtain⟨b,qt⟩:=r
        refine CallQ.mioS hta (pM_cl T _) rfl ⟨oS,oS,trivial⟩ rfl (.inl rfl) ?_
        refine Sm.cutm (M0:=pB T p d) (l1.pins hP) [(0,true,.c (.p 1 0)),(1,true,.c (.p 4 0)),(5,true,.c (.p 29 0)),(7,true,.c (.p 30 0)),(8,true,.c (.p 31 0)),(9,true,I a),(10,true,I k),(11,true,I t),(13,true,.c (.p 32 0)),(99,true,Bo b)] [bPs T qt,bDg (dgC d),bTkT T,bRw 14 BlL.r 82 d.bls,bDd 10 93,bDd 11 110,bDd 12 115,bDd 13 118,bDd 15 9,(29,⟨false,[nC f.k,sC f.s,nC f.l,nC f.c],57⟩),(30,⟨false,[sC x42,sC kd.s,sC [],.v (.slice none 0 0),sC [],.v (vsl ⟨none,0⟩ ([]:List Int).length)],82⟩),(31,⟨false,[nC kd.k,sC kd.s,nC kd.l,nC kd.c],57⟩),(32,⟨false,[.v (vsl si ins.length)],28⟩)] [(1,1),(4,4),(2,2),(14,14),(10,10),(11,11),(12,12),(13,13),(15,15),(29,29),(30,30),(31,31),(32,32)] ⟨rfl,⟨⟨rfl,rfl⟩,⟨rfl,rfl⟩,⟨rfl,rfl⟩,⟨rfl,rfl⟩,⟨rfl,rfl⟩,⟨rfl,rfl⟩,⟨rfl,rfl⟩,⟨rfl,rfl⟩,⟨rfl,rfl⟩,trivial⟩,⟨rfl,rfl,rfl,rfl,rfl,rfl,rfl,rfl,rfl,rfl,trivial⟩,⟨oR,oR,oV (renV (v_tk _)),oV (renV (v_bl _)),oR,oR,oR,oR,oR,oR,oR,oR,oR,trivial⟩⟩ (ClM.of (by simp only[List.all_cons,inMV (rowsC_isV _)];rfl)) (ClE.of rfl) ?_
        exact tail C1 [] ⟨none,0⟩ q qt b l1 hsi (SlH.nil 1) (Nat.zero_le _) hq htk hto.2 hX
       |true=>
        rw[hi59]at hX
        simp only[cond_true]at hX
        have hadv:=is_on g hq hi59
        have haq:(advP q).at_=q.at_+1:=rfl
        refine Sm.go 50 ?_
        simp(maxSteps:=2000000) only[go_sem,aP (show T.length≤100000 by omega) hq]
        refine Sm.nilCell 35 1 3 30 5 rfl rfl rfl ?_
        refine Sm.loopM (M0:=pB T p d) (α:={x:List Int×Ps//x.2.at_<T.length∧x.1.length≤x.2.at_∧∃f,T.length≤x.2.at_+f∧cmsP T f x.1 x.2=cmsP T 40000 [] (advP q)}) (l1.pins hP)
         (fun x=>[(0,true,.c (.p 1 0)),(1,true,.c (.p 4 0)),(5,true,.c (.p 29 0)),(7,true,.c (.p 30 0)),(8,true,.c (.p 31 0)),(9,true,I a),(10,true,I k),(11,true,I t),(13,true,.c (.p 32 0))])
         (fun x=>[bPs T x.val.2,bDg (dgC d),bTkT T,bRw 14 BlL.r 82 d.bls,bDd 10 93,bDd 11 110,bDd 12 115,bDd 13 118,bDd 15 9,(29,⟨false,[nC f.k,sC f.s,nC f.l,nC f.c],57⟩),(30,⟨false,[sC x42,sC kd.s,sC [],.v (.slice none 0 0),sC [],.sl 35 0 x.val.1.length 1],82⟩),(31,⟨false,[nC kd.k,sC kd.s,nC kd.l,nC kd.c],57⟩),(32,⟨false,[.v (vsl si ins.length)],28⟩),(35,⟨false,x.val.1.map iC,3⟩)])
         (fun x=>T.length-x.val.2.at_) ⟨([],advP q),hadv.2,Nat.zero_le _,40000,by simp only;omega,rfl⟩ (fun x=>ClM.of (by simp only[List.all_cons,inMV (rowsC_isV _),inMV (v_iC2 _)];rfl)) (fun _=>ClE.of rfl) [(1,1),(4,4),(2,2),(14,14),(10,10),(11,11),(12,12),(13,13),(15,15),(29,29),(30,30),(31,31),(32,32),(35,35)] ?_ ?_
        ·exact⟨rfl,⟨⟨rfl,rfl⟩,⟨rfl,rfl⟩,⟨rfl,rfl⟩,⟨rfl,rfl⟩,⟨rfl,rfl⟩,⟨rfl,rfl⟩,⟨rfl,rfl⟩,⟨rfl,rfl⟩,⟨rfl,rfl⟩,trivial⟩,⟨rfl,rfl,rfl,rfl,rfl,rfl,rfl,rfl,rfl,trivial⟩,⟨oR,oR,oV (renV (v_tk _)),oV (renV (v_bl _)),oR,oR,oR,oR,oR,oR,oR,oR,oR,oR,trivial⟩⟩
        rintro⟨⟨l,q2⟩,hq2,hle,f',hf1,hf2⟩ J hb
        simp only at hb hq2 hle hf1 hf2⊢
        obtain⟨f',rfl⟩:∃k,f'=k+1:=⟨f'-1,by omega⟩
        rw[cmsP]at hf2
        have hi:=integerN_ 34 rfl T (by omega) q2 hq2 (hN _) [iC 0] rfl 0 (by simp) 3
        have hon:=int_on g hq2
        generalize intP T q2=r at hi hon hf2
        obtain⟨o,qa⟩:=r
        have hqa:qa.at_<T.length:=hon.1.2
        refine Sm.go 34 ?_
        refine vv ?_
        cases o with
        |none=>
         simp only[bnd]at hf2
         rw[←hf2]at hX
         simp only[bnd]at hX
         subst hX
         simp only[Option.isSome_none]at hi
         refine CallQ.mi 40 hi (cl34 _ _) ⟨oS,oS,oS,trivial⟩ ?_
         refine vv ?_
         exact RetQ.of (hR blD C1 l1 (fun c hc=>by cases hc)) rfl scc rvv (SubV.sub0 ⟨oR,oL,oR,oR,oR,oR,oR,oR,oR,oR,trivial⟩) (clF _) (ClV.of rfl)
        |some xa=>
         simp only[bnd]at hf2
         have hga:q2.at_<qa.at_:=hon.2 rfl
         simp only[Option.isSome_some,List.set_cons_zero]at hi
         have hll:(l.map iC).length=l.length:=List.length_map _
         have hal:List.take l.length (l.map iC)++[iC xa]=(l++[xa]).map iC:=by rw[List.take_of_length_le (by omega),List.map_append];rfl
         have hLl:(l++[xa]).length=l.length+1:=by rw[List.length_append];rfl
         refine CallQ.mi 40 hi (cl34 _ _) ⟨oS,oS,oS,trivial⟩ ?_
         simp(maxSteps:=2000000) only[go_sem,hll,hal]
         refine⟨⟨by omega,by omega,by omega⟩,?_⟩
         have his:=is_ T (by omega) qa hqa [44]
         cases hi44:isP T [44] qa with
         |true=>
          rw[hi44]at hf2 his
          simp only[cond_true]at hf2
          have hadv:=is_on g hqa hi44
          refine CallQ.mi 80 his (pM_cl T _) ⟨oS,oS,trivial⟩ ?_
          simp(maxSteps:=2000000) only[go_sem,aP (show T.length≤100000 by omega) hqa]
          have haq:(advP qa).at_=qa.at_+1:=rfl
          refine hb _ _ ⟨(l++[xa],advP qa),hadv.2,by simp only[hLl];omega,f',by simp only;omega,hf2⟩ [(1,1),(4,4),(2,2),(14,14),(10,10),(11,11),(12,12),(13,13),(15,15),(29,29),(30,30),(31,31),(32,32),(35,41)] (by simp only;omega) ?_
          simp only[hLl]
          exact⟨rfl,⟨⟨rfl,rfl⟩,⟨rfl,rfl⟩,⟨rfl,rfl⟩,⟨rfl,rfl⟩,⟨rfl,rfl⟩,⟨rfl,rfl⟩,⟨rfl,rfl⟩,⟨rfl,rfl⟩,⟨rfl,rfl⟩,trivial⟩,⟨rfl,rfl,rfl,rfl,rfl,rfl,rfl,rfl,rfl,trivial⟩,⟨oR,oR,oV (renV (v_tk _)),oV (renV (v_bl _)),oR,oR,oR,oR,oR,oR,oR,oR,oR,oV (renV (v_iC2 _)),trivial⟩⟩
         |false=>
          rw[hi44]at hf2 his
          simp only[cond_false]at hf2
          rw[←hf2]at hX
          simp only[bnd]at hX
          clear hb
          refine CallQ.mioS his (pM_cl T _) rfl ⟨oS,oS,trivial⟩ rfl (.inr rfl) ?_
          refine Sm.letgo (M0:=pB T p d) [41] l1 (hP) rfl (by unfold concOk;simp only[List.cons_append,List.nil_append,List.all_cons,cokV (v_iC2 _),cokV (rowsC_isV _)];rfl) (fun β C2 l2 k2 kn=>?_)
          obtain⟨sk,hvk,hkk⟩:=(kn 41 _ rfl rfl rfl).vslx (sz:=1) (rows:=intsR (l++[xa])) (fun r hr=>by obtain⟨a,_,rfl⟩:=List.mem_map.1 hr;rfl) (intsC _).symm
          have eik:(intsR (l++[xa])).length=l.length+1:=by unfold intsR;rw[List.length_map];exact hLl
          rw[eik]at hvk hkk
          simp only[Mem.conc,Env.conc,Bk.conc,Cv.conc,V.conc,List.cons_append,List.nil_append,List.map_cons,List.map_nil,List.contains_cons,List.contains_nil,Nat.reduceBEq,Bool.or_false,Bool.or_true,cond_true,cond_false,concV (rowsC_isV _),concV (v_iC2 _),hvk]
          refine Sm.go 66 ?_
          refine vv ?_
          have hta:=take_ T (by omega) qa hqa [41]
          have hto:=tak_on g [41] hqa
          generalize htk:takP T [41] qa=r at hta hto
          obtain⟨b,qt⟩:=r
          refine CallQ.mioS hta (pM_cl T _) rfl ⟨oS,oS,trivial⟩ rfl (.inl rfl) ?_
          refine Sm.cutm (M0:=pB T p d) (l2.pins hP) [(0,true,.c (.p 1 0)),(1,true,.c (.p 4 0)),(5,true,.c (.p 29 0)),(7,true,.c (.p 30 0)),(8,true,.c (.p 31 0)),(9,true,I a),(10,true,I k),(11,true,I t),(13,true,.c (.p 32 0)),(99,true,Bo b)] [bPs T qt,bDg (dgC d),bTkT T,bRw 14 BlL.r 82 d.bls,bDd 10 93,bDd 11 110,bDd 12 115,bDd 13 118,bDd 15 9,(29,⟨false,[nC f.k,sC f.s,nC f.l,nC f.c],57⟩),(30,⟨false,[sC x42,sC kd.s,sC [],.v (.slice none 0 0),sC [],.v (vsl sk (l.length+1))],82⟩),(31,⟨false,[nC kd.k,sC kd.s,nC kd.l,nC kd.c],57⟩),(32,⟨false,[.v (vsl si ins.length)],28⟩)] [(1,1),(4,4),(2,2),(14,14),(10,10),(11,11),(12,12),(13,13),(15,15),(29,29),(30,30),(31,31),(32,32)] ⟨rfl,⟨⟨rfl,rfl⟩,⟨rfl,rfl⟩,⟨rfl,rfl⟩,⟨rfl,rfl⟩,⟨rfl,rfl⟩,⟨rfl,rfl⟩,⟨rfl,rfl⟩,⟨rfl,rfl⟩,⟨rfl,rfl⟩,trivial⟩,⟨rfl,rfl,rfl,rfl,rfl,rfl,rfl,rfl,rfl,rfl,trivial⟩,⟨oR,oR,oV (renV (v_tk _)),oV (renV (v_bl _)),oR,oR,oR,oR,oR,oR,oR,oR,oR,trivial⟩⟩ (ClM.of (by simp only[List.all_cons,inMV (rowsC_isV _)];rfl)) (ClE.of rfl) ?_
          have hfin:=tail C2 (l++[xa]) sk qa qt b l2 (hsi.mono k2) (by rw[hLl];exact hkk) (by omega) hqa htk hto.2 hX
          rw[hLl]at hfin
          exact hfin
      intro C2 ks sk q qt b l2 hsi2 hsk hkl hq htk hqt hX
      unfold bk4P at hX
      rw[htk]at hX
      cases b with
      |false=>
       simp only[bndB]at hX
       subst hX
       refine Sm.go 50 ?_
       refine vv ?_
       refine CallQ.guard (v:=Bo false) (xs:=[]) 52 (fun h=>by cases h) (fun h=>by cases h) ?_
       refine vv ?_
       refine CallQ.guard (v:=Bo false) (xs:=[]) 54 (fun h=>by cases h) (fun h=>by cases h) ?_
       refine vv ?_
       exact RetQ.of (hR blD C2 l2 (fun c hc=>by cases hc)) rfl scc rvv (SubV.sub0 ⟨oR,oL,oR,oR,oR,oR,oR,oR,oR,oR,trivial⟩) (clF _) (ClV.of rfl)
      |true=>
       simp only[bndB]at hX
       refine Sm.go 50 ?_
       refine vv ?_
       have hi:=take_ T (by omega) qt hqt [58]
       have hon:=tak_on g [58] hqt
       generalize takP T [58] qt=r at hi hon hX
       obtain⟨o,q3⟩:=r
       have hq3:q3.at_<T.length:=hon.2
       cases o with
       |false=>
        simp only[bnd,bndB]at hX
        subst hX
        refine CallQ.mi 62 hi (pM_cl T _) ⟨oS,oS,trivial⟩ ?_
        refine vv ?_
        refine CallQ.guard (v:=Bo false) (xs:=[]) 64 (fun h=>by cases h) (fun h=>by cases h) ?_
        refine vv ?_
        exact RetQ.of (hR blD C2 l2 (fun c hc=>by cases hc)) rfl scc rvv (SubV.sub0 ⟨oR,oL,oR,oR,oR,oR,oR,oR,oR,oR,trivial⟩) (clF _) (ClV.of rfl)
       |true=>
        simp only[bnd,bndB]at hX
        refine CallQ.mi 62 hi (pM_cl T _) ⟨oS,oS,trivial⟩ ?_
        refine vv ?_
        have hi:=nameN_ 30 rfl T (by omega) sT q3 hq3 [sC x42,sC kd.s,sC [],.v (.slice none 0 0),sC [],.v (vsl sk ks.length)] rfl 2 (by simp) 82
        have hon:=(nam_on g hq3).1
        generalize namP T q3=r at hi hon hX
        obtain⟨o,q4⟩:=r
        have hq4:q4.at_<T.length:=hon.2
        cases o with
        |none=>
         simp only[bnd,bndB]at hX
         subst hX
         simp only[Option.isSome_none]at hi
         refine CallQ.mi 66 hi (cl30 _ _ rfl) ⟨oS,oS,oS,trivial⟩ ?_
         refine vv ?_
         exact RetQ.of (hR blD C2 l2 (fun c hc=>by cases hc)) rfl scc rvv (SubV.sub0 ⟨oR,oL,oR,oR,oR,oR,oR,oR,oR,oR,trivial⟩) (clF _) (ClV.of rfl)
        |some x66=>
         simp only[bnd,bndB]at hX
         simp only[Option.isSome_some,List.set_cons_zero,List.set_cons_succ,unL,List.cons_append,List.nil_append,List.append_nil]at hi
         refine CallQ.mi 66 hi (cl30 _ _ rfl) ⟨oS,oS,oS,trivial⟩ ?_
         refine vv ?_
         have hh:=here_ T (by omega) q4 hq4
         have hen:=end_ T (by omega) q4 hq4
         have e4:((hereP T q4).k==4)=(((hereP T q4).k:Int)==4):=(kB _ 4).symm
         rw[e4]at hX
         refine CallQ.mi 68 hh (pM_cl T _) ⟨oS,oS,trivial⟩ ?_
         cases hk:((hereP T q4).k:Int)==4 with
         |false=>
          simp(maxSteps:=2000000) only[go_sem,hk,bne]
          have he:endP T q4=(false,stopP q4 (hereP T q4).l (hereP T q4).c 3):=by unfold endP;rw[e4,hk];rfl
          rw[hk,he]at hX
          rw[he]at hen
          simp only[Bool.not_false,cond_true]at hX
          subst hX
          refine CallQ.mi 70 hen (pM_cl T _) ⟨oS,oS,trivial⟩ ?_
          refine vv ?_
          exact RetQ.of (hR blD C2 l2 (fun c hc=>by cases hc)) rfl scc rvv (SubV.sub0 ⟨oR,oL,oR,oR,oR,oR,oR,oR,oR,oR,trivial⟩) (clF _) (ClV.of rfl)
         |true=>
          rw[hk]at hX
          simp only[Bool.not_true,cond_false]at hX
          simp(maxSteps:=2000000) only[go_sem,hk,bne]
          have hm1:(min (t:Int) 1)=((min t 1:Nat):Int):=by omega
          have hmn:IntKind.i64.wrap ((a:Int)+min (t:Int) 1)=((a+min t 1:Nat):Int):=by rw[hm1,w64 (by omega) (by omega)];omega
          have e5:((ins.length:Int)==((a+min t 1:Nat):Int))=decide (ins.length=a+min t 1):=by rw[Bool.eq_iff_iff,beq_iff_eq,decide_eq_true_eq];omega
          have e6:((ks.length:Int)==(k:Int))=decide (ks.length=k):=by rw[Bool.eq_iff_iff,beq_iff_eq,decide_eq_true_eq];omega
          have ebf:(bif !decide (ins.length=a+min t 1)then true else !decide (ks.length=k))=(!decide (ins.length=a+min t 1)|| !decide (ks.length=k)):=by cases decide (ins.length=a+min t 1)<;>rfl
          rw[hmn,e5,e6,ebf]
          cases hsz:(!decide (ins.length=a+min t 1)|| !decide (ks.length=k))with
          |true=>
           rw[hsz]at hX
           simp only[cond_true]at hX
           subst hX
           refine CallQ.mi 72 (stop_ T q4 kd.l kd.c 1) (pM_cl T _) ⟨oS,oS,trivial⟩ ?_
           refine vv ?_
           exact RetQ.of (hR blD C2 l2 (fun c hc=>by cases hc)) rfl scc rvv (SubV.sub0 ⟨oR,oL,oR,oR,oR,oR,oR,oR,oR,oR,trivial⟩) (clF _) (ClV.of rfl)
          |false=>
           rw[hsz]at hX
           simp only[cond_false]at hX
           rw[Bool.or_eq_false_iff,Bool.not_eq_false',Bool.not_eq_false',decide_eq_true_eq,decide_eq_true_eq]at hsz
           have hil:=hsz.1
           have hks:=hsz.2
           have e7:(min (t:Int) 1==1)=decide (1≤t):=by rw[Bool.eq_iff_iff,beq_iff_eq,decide_eq_true_eq];omega
           cases ht:decide (1≤t)with
           |false=>
            have ht0:t=0:=by have:=of_decide_eq_false ht;omega
            have hta:ins.take a=ins:=List.take_of_length_le (by omega)
            rw[ht,hta]at hX
            simp only[cond_false]at hX
            rw[ht]at e7
            simp(maxSteps:=2000000) only[go_sem,e7]
            refine Sm.dg 74 7 mix ?_
            refine vv ?_
            have hfu:=full_ T q4 f d.bls.length 200
            generalize fulP f d.bls.length 200 q4=r at hfu hX
            obtain⟨o,qf⟩:=r
            cases o with
            |false=>
             simp only[bndB]at hX
             subst hX
             refine CallQ.mi 76 hfu (pM_cl T _) ⟨oS,oS,trivial⟩ ?_
             refine vv ?_
             exact RetQ.of (hR blD C2 l2 (fun c hc=>by cases hc)) rfl scc rvv (SubV.sub0 ⟨oR,oL,oR,oR,oR,oR,oR,oR,oR,oR,trivial⟩) (clF _) (ClV.of rfl)
            |true=>
             simp only[bndB]at hX
             subst hX
             refine CallQ.mi 78 hfu (pM_cl T _) ⟨oS,oS,trivial⟩ ?_
             refine vv ?_
             refine Sm.dgW [14] 23 8 mix ?_
             simp(maxSteps:=2000000) only[go_sem,Mem.wo]
             have hlen:=rows_len (r:=BlL.r) (k:=6) (fun _=>rfl) d.bls
             have hap:List.take (d.bls.length*6) (rowsC (d.bls.map BlL.r))++[sC x42,sC kd.s,sC x66,.v (vsl si ins.length),sC [],.v (vsl sk ks.length)]=rowsC ((d.bls++[(⟨⟨x42,kd.s,x66,ins,[],ks⟩,si,sk⟩:BlL)]).map BlL.r):=rows_app BlL.r (fun _=>rfl) d.bls (⟨⟨x42,kd.s,x66,ins,[],ks⟩,si,sk⟩:BlL)
             refine DOpQ.opy [(23,⟨false,[sC x42,sC kd.s,sC x66,.v (vsl si ins.length),sC [],.v (vsl sk ks.length)],82⟩),(14,⟨false,rowsC (d.bls.map BlL.r),82⟩)] 24 (by simp(maxSteps:=2000000) only[go_sem,hlen,hap]<;>rfl) ?_ rfl ⟨⟨rfl,rfl,rfl⟩,⟨rfl,rfl,rfl⟩,trivial⟩ rfl rfl ?_
             ·exact⟨by omega,by omega,by omega⟩
             simp(maxSteps:=2000000) only[go_sem,hlen]
             exact RetQ.of (hR (⟨⟨x42,kd.s,x66,ins,[],ks⟩,si,sk⟩:BlL) C2 l2 (fun c hc=>by cases hc;exact⟨rfl,hsi2,hsk⟩)) rfl scc rvv (SubV.sub0 ⟨oR,oR,oR,oR,oL,oL,oR,oL,oR,oR,oR,oR,oR,trivial⟩) (clS _ _) (ClV.of rfl)
           |true=>
            have ht1:1≤t:=of_decide_eq_true ht
            have hla:a<ins.length:=by omega
            rw[ht]at hX
            simp only[cond_true]at hX
            rw[ht]at e7
            simp(maxSteps:=2000000) only[go_sem,e7]
            obtain⟨b0,o0,c0,hvs,hkc,hcut,cs0,el0,mk0,hc0,hcc⟩:=SlH.cut hsi2 hla
            have hLa:(ins.take a).length=a:=by rw[List.length_take];omega
            have hia:ins[a]?=some (ins.getD a []):=by rw[List.getD_eq_getElem?_getD,List.getElem?_eq_getElem hla];rfl
            have hcx:=hcc a _ hia
            have hvs2:Value.slice si.o ins.length si.c= .slice (some ⟨b0,o0,none⟩) ins.length c0:=hvs
            rw[hvs2]
            refine Sm.dg 80 8 mix ?_
            refine vv ?_
            refine DOpQ.own 82 (Stp.slice3 rfl rfl rfl rfl sl28 hkc) ?_
            refine vv ?_
            refine DOpQ.own 84 (Stp.idxV rfl rfl rfl sl28 (by omega) (by omega)) ?_
            refine vv ?_
            refine DOpQ.ownC 86 (fun _=>StpC.ldH hc0 (v:=sv (ins.getD a [])) (by simpa using hcx) rfl rfl rfl) ?_
            refine vv ?_
            refine Sm.dg 88 7 mix ?_
            refine vv ?_
            have hfu:=full_ T q4 f d.bls.length 200
            generalize fulP f d.bls.length 200 q4=r at hfu hX
            obtain⟨o,qf⟩:=r
            cases o with
            |false=>
             simp only[bndB]at hX
             subst hX
             refine CallQ.mi 90 hfu (pM_cl T _) ⟨oS,oS,trivial⟩ ?_
             refine vv ?_
             exact RetQ.of (hR blD C2 l2 (fun c hc=>by cases hc)) rfl scc rvv (SubV.sub0 ⟨oR,oL,oR,oR,oR,oR,oR,oR,oR,oR,trivial⟩) (clF _) (ClV.of rfl)
            |true=>
             simp only[bndB]at hX
             subst hX
             refine CallQ.mi 92 hfu (pM_cl T _) ⟨oS,oS,trivial⟩ ?_
             refine vv ?_
             refine Sm.dgW [14] 23 8 mix ?_
             simp(maxSteps:=2000000) only[go_sem,Mem.wo]
             have hlen:=rows_len (r:=BlL.r) (k:=6) (fun _=>rfl) d.bls
             have hap:List.take (d.bls.length*6) (rowsC (d.bls.map BlL.r))++[sC x42,sC kd.s,sC x66,.v (.slice (some ⟨b0,o0,none⟩) (ins.take a).length a),sC (ins.getD a []),.v (vsl sk ks.length)]=rowsC ((d.bls++[(⟨⟨x42,kd.s,x66,ins.take a,ins.getD a [],ks⟩,⟨some ⟨b0,o0,none⟩,a⟩,sk⟩:BlL)]).map BlL.r):=rows_app BlL.r (fun _=>rfl) d.bls (⟨⟨x42,kd.s,x66,ins.take a,ins.getD a [],ks⟩,⟨some ⟨b0,o0,none⟩,a⟩,sk⟩:BlL)
             rw[hLa]at hap
             refine DOpQ.opy [(23,⟨false,[sC x42,sC kd.s,sC x66,.v (.slice (some ⟨b0,o0,none⟩) a a),sC (ins.getD a []),.v (vsl sk ks.length)],82⟩),(14,⟨false,rowsC (d.bls.map BlL.r),82⟩)] 24 (by simp(maxSteps:=2000000) only[go_sem,hlen,hap]<;>rfl) ?_ rfl ⟨⟨rfl,rfl,rfl⟩,⟨rfl,rfl,rfl⟩,trivial⟩ rfl rfl ?_
             ·exact⟨by omega,by omega,by omega⟩
             simp(maxSteps:=2000000) only[go_sem,hlen]
             exact RetQ.of (hR (⟨⟨x42,kd.s,x66,ins.take a,ins.getD a [],ks⟩,⟨some ⟨b0,o0,none⟩,a⟩,sk⟩:BlL) C2 l2 (fun c hc=>by cases hc;exact⟨rfl,by rw[hLa];exact hcut,hsk⟩)) rfl scc rvv (SubV.sub0 ⟨oR,oR,oR,oR,oL,oL,oR,oL,oR,oR,oR,oR,oR,trivial⟩) (clS _ _) (ClV.of rfl)
end Go.Proofs.YtlnpgbnhcondjaaGreatDoor.Fx
