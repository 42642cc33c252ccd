/-  -/
import Derived.Test.YtbnkiacicnnmkaaGreatQB
open Go.Proofs.Tryz
open Go.Proofs.Tryz renaming prog→HT
set_option linter.unusedSimpArgs false
set_option linter.unusedVariables false
set_option maxRecDepth 100000
set_option maxHeartbeats 4000000
namespace Go.Proofs.YtbnkiacicnnmkaaGreat.Fx
open Vg Tf
theorem _root_.Go.Proofs.YtbnkiacicnnmkaaGreat.Vg.DCallQ.hr {H:Hp}{P:Program}{nt:Nat}{C:Cx}{r:List It}{e e0:Env}{M M0 Mf:Mem}{id:Nat}{rg:Array Oper}{k:Nat}{T:List (Nat×Nat)}{i:Nat}{o:Oper}{l:List Oper}{f:FuncId}{vs:List (Option (Bool×V))}{g:Bool}{dst:Option Nat}{xs:List V}{v:V}{M1 N:Mem}(L:List (Nat×Nat))(nx:Nat)(hc:CallX H P f xs M1 (fun _:Unit=>v) (fun _=>N) (fun _ _=>True))(hH:H.le C.hp)(hcl:ClM M1)(hL:qF L=true)(hvs:vs=(xs.map (V.ren (rn L))).map fun x=>some (true,x))
  (hs:SubS (M1.ren (rn L)) M0) (hfr:(N.ren (rn L)).all (fun p=>((M1.ren (rn L)).get p.1).isSome||(M0.get p.1).isNone)=true) (hg:g=true\/N=[]) (hf2:nY (N.ren (rn L)) M0 M0 M=true) (hf3:uF T o (N.ren (rn L))=true)
  (h:wz P nt C id rg r e0 M0 Mf k (wA P nt C (.ops rg (rg.toList.drop k)::r)) (vP (N.ren (rn L)) i T) (i+1) l (e.put dst g (v.ren (rn L))) (N.ren (rn L)++M) nx):DCallQ P nt C id rg r e0 M0 Mf k T i o f vs g dst l e M:=
 ⟨M1.ren (rn L),N.ren (rn L),M0,v.ren (rn L),xs.map (V.ren (rn L)),fun _=>hvs,fun _=> .inr (CallX.kx (hc.ren (xk L hL)) hH (hcl.ren (xk L hL)) (fun _=>rfl) (fun _=>rfl)),hs.sub,hcl.ren (xk L hL),xA hfr,hg.imp (fun h=>h) (fun h=>by rw[h];rfl),⟨fun _ _ h=> .inl h,uG hf2 hf3⟩,wX nx h⟩
theorem cP {d:DgL}(hl:∀b∈d.bls,b.c.ins.length<=1000000)(i:Nat)(hi:i<d.bls.length):(xF d.c i).length<=1000000:=by
 have hl:=hl _ (JH hi)
 rw[s9 hi]
 unfold oO
 split
 ·simp
 ·refine IE ?_ hl
  rw[List.length_flatMap]
  generalize d.bls[i].c.ins=q
  induction q with
  |nil=>simp
  |cons s q ih=>
   rw[Ky,List.sum_cons,JQ]
   have:(vU (zU d.c) d.ins.length s).length<=1:=by unfold vU;split<;>simp
   omega
def jP (ca:Option Addr)(from_ N:Nat)(s:List Bool):Mem:=[(1,⟨true,[.v (.pointer ca)],115⟩),(2,⟨true,[nC from_],3⟩),(3,⟨true,[.sl 5 0 N 1],86⟩),(5,⟨false,s.map bC,4⟩),(4,⟨true,[.fn 208 [(1,0),(2,0),(3,0),(4,0)]],155⟩)]
theorem jO (ca:Option Addr)(from_ N:Nat)(s:List Bool):ClM (jP ca from_ N s):=zD (by simp only[jP,Kw,z6 (yf _)];rfl)
theorem jL (ca:Option Addr)(from_ N:Nat)(s t:List Bool)(n:Nat):Mem.get ([(5,⟨false,t.map bC,4⟩)]++jP ca from_ N s) n=(jP ca from_ N t).get n:=by
 simp only[jP,JF,JG,zE]
 by_cases h5:n=5
 ·subst h5;rfl
 ·simp only[if_neg h5]
theorem jN (ca:Option Addr)(from_ N:Nat)(s t:List Bool):ClM ([(5,⟨false,t.map bC,4⟩)]++jP ca from_ N s):=fun β β' hag n b hb=>
 jO ca from_ N t β β' (fun n hn=>hag n (by rw[jL];exact hn)) n b (by rw[<-jL ca from_ N s t];exact hb)
theorem jK {ca:Option Addr}{from_ N:Nat}{s t:List Bool}{M:Mem}(h:Sub (jP ca from_ N t) M):Sub ([(5,⟨false,t.map bC,4⟩)]++jP ca from_ N s) M:=fun n b hb=>h n b (by rw[<-jL ca from_ N s t];exact hb)
theorem gV (g:Nat->List Bool->Bool×List Bool)(from_:Nat)(ks:List Nat)(q:Nat)(h:q<ks.length)(s:List Bool):
  vb g from_ (ks.drop q) s=if ks[q]=from_ then(true,s)else if s.getD ks[q] false=true then vb g from_ (ks.drop (q+1)) s else bif (g ks[q] (s.set ks[q] true)).1 then(true,(g ks[q] (s.set ks[q] true)).2)else vb g from_ (ks.drop (q+1)) (g ks[q] (s.set ks[q] true)).2:=by
 rw[JC h,vb]
 cases hq:g ks[q] (s.set ks[q] true)with
 |mk b s'=>cases b<;>rfl
theorem Zu {H:Hp}{ca:Option Addr}{d:DgL}{bT bC' bM bS:Nat}(k:Ck H (.pointer ca) d bT bC' bM bS)(hl:∀b∈d.bls,b.c.ins.length<=1000000)(from_:Nat)(hf:from_<d.bls.length):∀(f i:Nat) (s:List Bool),i<d.bls.length->s.length=d.bls.length->mN s<f->
  CallX H HT 208 [I i,.c (.p 1 0),.c (.p 2 0),.c (.p 3 0),.c (.p 4 0)] (jP ca from_ d.bls.length s) (fun _:Unit=>Bo (jq (xF d.c) from_ f i s).1) (fun _=>[(5,⟨false,(jq (xF d.c) from_ f i s).2.map bC,4⟩)]) (fun _ _=>True)
 |0,i,s,_,_,h=>by omega
 |f+1,i,s,hi,hs,hfr=>by
  have ih:=Zu k hl from_ hf f
  have hbl:=cP hl i hi
  have hblt:=tL d i hi
  have hbv:jq (xF d.c) from_ (f+1) i s=vb (jq (xF d.c) from_ f) from_ (xF d.c i) s:=rfl
  have hgrw:∀k s,k<d.bls.length->s.length=d.bls.length->Grw s (jq (xF d.c) from_ f k s).2:=fun k s hk hs=>nL (tL d) f k s hk hs
  have hbc:=gL k i hi (hl _ (JH hi))
  generalize hB:xF d.c=B at*
  generalize hN:d.bls.length=N at*
  rw[hbv]
  generalize hg:jq B from_ f=g at*
  refine kX func208 Ts ntmps208 fun C hR hP hH hL=>?_
  have hR:=hR () C hL trivial
  refine zB 100 ?_
  simp only[go_sem,jP]
  refine CallQ.hr [(1,130)] 131 hbc hH ClM.nil rfl rfl trivial rfl (.inl rfl) ?_
  simp only[Mem.ren,Ky,Kz,yD (xU _),V.ren,Cv.ren,rn,Nat.reduceBEq,cond_true,cond_false]
  simp only[go_sem,jP]
  refine zK (M0:=jP ca from_ N s) (α:={x:Nat×List Bool//x.1<=(B i).length/\x.2.length=N/\mN x.2<=mN s/\vb g from_ (B i) s=vb g from_ ((B i).drop x.1) x.2}) hP (fun x=>[(1,true,.c (.p 1 0)),(2,true,.c (.p 2 0)),(3,true,.c (.p 3 0)),(4,true,.c (.p 4 0)),(11,true,.c (.sl 6 0 (B i).length 1)),(12,true,I (B i).length),(13,true,I x.val.1)])
   (fun x=>QG 6 (B i)::jP ca from_ N x.val.2) (fun x=>(B i).length-x.val.1) ⟨(0,s),z9,hs,JZ _,rfl⟩ (fun _=>zD (by simp only[jP,Kw,z6 (yf _),z6 (xU _)];rfl)) (fun _=>zO rfl) [(1,1),(2,2),(3,3),(4,4),(5,5),(6,130)] ?_ ?_
  ·exact zh
  ·rintro⟨⟨q,t⟩,hq,ht,hfq,hx⟩ J hb
   simp only at hb hq ht hfq hx⊢
   refine zB 150 ?_
   simp only[go_sem,jP]
   refine zV (fun hc=>?_) (fun hc=>?_)
   ·have hc:=zH hc
    rw[gV g from_ (B i) q hc t]at hx
    simp only[go_sem,jX hc]
    refine⟨⟨zA,zA⟩,?_⟩
    have hk:=hblt (B i)[q] (JH hc)
    generalize (B i)[q]=kk at*
    refine zV (fun he=>?_) (fun he=>?_)
    ·have he:kk=from_:=by simp at he;omega
     rw[if_pos he]at hx
     rw[hx]at hR
     exact zN hR rfl yI f9 (jK (SubS.sub ⟨oS,oS,oS,oS,oS,trivial⟩)) (jN ca from_ N s t) (zG rfl)
    ·have he:¬kk=from_:=by simp at he;omega
     rw[if_neg he]at hx
     have hget:(t.map bC)[kk]?=some (bC (t.getD kk false)):=rK zA
     simp only[go_sem,hget]
     refine⟨⟨zA,zA⟩,?_⟩
     cases hm:t.getD kk false with
     |true=>
      rw[if_pos hm]at hx
      refine zB 160 ?_
      simp only[go_sem,yu (i:=q)]
      exact hb _ _ ⟨(q+1,t),hc,ht,hfq,hx⟩ [(1,1),(2,2),(3,3),(4,4),(5,5),(6,6)] yL zh
     |false=>
      rw[if_neg (by rw[hm];simp)]at hx
      have hset:(t.map bC).set kk (bC true)=(t.set kk true).map bC:=by rw[Jy]
      have hfs:=nk t kk zA hm
      have hih:=ih kk (t.set kk true) hk (by rw[J8];exact ht) zA
      have hgr:=hgrw kk (t.set kk true) hk (by rw[J8];exact ht)
      simp only[go_sem,hset,nw]
      have htl:(t.set kk true).length=N:=by rw[J8];exact ht
      have hlt:kk+1<=t.length:=zA
      refine⟨⟨zA,zA⟩,by simp only[Kv];omega,?_⟩
      generalize t.set kk true=t' at*
      refine CallQ.hr [(1,1),(2,2),(3,3),(4,4),(5,5)] 170 hih hH (jO ca from_ N t') rfl rfl ⟨oS,oS,oS,oW (yD (yf _)),oS,trivial⟩ rfl (.inl rfl) ?_
      simp only[Mem.ren,Ky,Kz,yD (yf _),V.ren,Cv.ren,rn,Nat.reduceBEq,cond_true,cond_false]
      refine vv ?_
      have hgl:(g kk t').2.length=N:=by rw[hgr.1];exact htl
      have hgf:=iu hgr
      cases hb2:(g kk t').1 with
      |true=>
       rw[hb2,cond_true]at hx
       rw[hx]at hR
       exact zN hR rfl yI f9 (jK (SubS.sub ⟨oS,oS,oS,oS,oS,trivial⟩)) (jN ca from_ N s _) (zG rfl)
      |false=>
       rw[hb2,cond_false]at hx
       refine zB 180 ?_
       simp only[go_sem,yu (i:=q)]
       exact hb _ _ ⟨(q+1,(g kk t').2),hc,hgl,by show mN (g kk t').2<=mN s;omega,hx⟩ [(1,1),(2,2),(3,3),(4,4),(5,5),(6,6)] yL zh
   ·have hc:=zI hq hc
    rw[hc,JI]at hx
    have hx:vb g from_ (B i) s=(false,t):=hx
    rw[hx]at hR
    exact zN hR rfl yI f9 (jK (SubS.sub ⟨oS,oS,oS,oS,oS,trivial⟩)) (jN ca from_ N s t) (zG rfl)
theorem XA (N:Nat):(xE N []).map bC=(List.replicate N false).map bC:=by
 congr 1
 apply Jn
 intro j
 rw[xE,JO,IR]
 by_cases hj:j<N
 ·rw[Jp hj,if_pos hj];rfl
 ·rw[Jc (by simp;omega),if_neg hj];rfl
theorem X0 {H:Hp}{ca:Option Addr}{d:DgL}{bT bC' bM bS:Nat}(k:Ck H (.pointer ca) d bT bC' bM bS)(hl:∀b∈d.bls,b.c.ins.length<=1000000)(i:Nat)(hi:i<d.bls.length):
  CallH H HT 120 [.c (.v (.pointer ca)),I i] (Bo (aN (xF d.c) d.bls.length i)):=by
 have hv:=Zu k hl i hi (d.bls.length+1) i (List.replicate d.bls.length false) hi z9 (by rw[ir];omega)
 have hn2:=k.n2
 refine kH func120 RK ntmps120 fun C hR hP hH hL=>?_
 have hpt:=k.c.p.mono hH
 refine zB 100 (vv ?_)
 refine zX 1 191 7 hpt rfl rfl (zB 110 ?_)
 simp only[go_sem,vi,XA]
 refine⟨⟨zA,zA,zA⟩,?_⟩
 refine CallQ.hr [(1,100),(2,101),(3,111),(4,112),(5,110)] 170 hv hH (jO _ _ _ _) rfl rfl ⟨⟨_,rfl,.inr ⟨rfl,[],rfl⟩⟩,⟨_,rfl,.inr ⟨rfl,[],rfl⟩⟩,⟨_,rfl,.inr ⟨rfl,[],rfl⟩⟩,oW (yD (yf _)),⟨_,rfl,.inr ⟨rfl,[],rfl⟩⟩,trivial⟩ rfl (.inl rfl) ?_
 simp only[Mem.ren,Ky,Kz,yD (yf _),V.ren,Cv.ren,rn,Nat.reduceBEq,cond_true,cond_false]
 refine vv ?_
 exact zp (hR C hL) rfl
def gq (d:Dg):Option Str:=(ne (xF d) d.bls.length).map fun i=>match d.bls[i]? with
 |some b=>b.nm
 |none=>[]
theorem V8 {H:Hp}{cp:Value}{d:DgL}{bT bC' bM bS:Nat}(k:Ck H cp d bT bC' bM bS)(hl:∀b∈d.bls,b.c.ins.length<=1000000):
  CallH H HT 50 [.c (.v cp)] (Q3 (gq d.c)):=by
 have hn2:=k.n2
 have hord:=ed k hl
 obtain⟨b0,o0,rfl,c0,el0,mk0,hc0,hcc⟩:=PtH.at k.c.p
 have hlps:=fun i hi=>X0 k hl i hi
 have hbl:d.c.bls.length=d.bls.length:=by simp[DgL.c]
 have hlN:gq d.c=(ne (xF d.c) d.bls.length).map fun i=>(d.bls.map (fun b=>b.c.nm)).getD i []:=by
  unfold gq
  rw[hbl]
  congr 1
  funext i
  have e1:d.c.bls[i]?=(d.bls[i]?).map BlL.c:=by simp[DgL.c]
  rw[e1,Kx,JO]
  cases d.bls[i]?<;>rfl
 rw[hlN]
 have hsz:=zQ (r:=BlL.r) (k:=6) (fun _=>rfl) d.bls
 generalize xF d.c=B at*
 refine kH func50 O7 ntmps50 fun C hR hP hH hL=>?_
 have hpt:=k.c.p.mono hH
 refine zB 100 (vv ?_)
 refine Sm.dg 100 9 zi (vv ?_)
 refine DCallQ.hr [(1,130)] 131 hord hH ClM.nil rfl rfl trivial rfl (.inl rfl) rfl rfl ?_
 simp only[Mem.ren,Ky,Kz,yD (xU _),V.ren,Cv.ren,rn,Nat.reduceBEq,cond_true,cond_false]
 refine vv ?_
 refine DOpQ.own 140 (zg rfl rfl) (vv ?_)
 refine DOpQ.own 140 (zT rfl rfl rfl) (vv ?_)
 refine DOpQ.own 140 (zT rfl rfl rfl) (vv ?_)
 refine zF 140 (fun _=>zS (hH _ _ hc0) (hcc 5 _ rfl) rfl rfl rfl) ?_
 have e1:(((wU B d.bls.length).length:Int)==(d.bls.length:Int))=decide ((wU B d.bls.length).length=d.bls.length):=by rw[JP,beq_iff_eq,decide_eq_true_eq];omega
 simp only[go_sem,e1]
 by_cases he:(wU B d.bls.length).length=d.bls.length
 ·have hno:ne B d.bls.length=none:=by unfold ne;rw[if_pos he]
  rw[hno]at hR
  simp only[go_sem,yS he]
  exact yN (hR C hL) ClM.nil
 ·have hno:ne B d.bls.length=(List.range d.bls.length).find? (aN B d.bls.length):=by unfold ne;rw[if_neg he]
  rw[hno]at hR
  simp only[go_sem,yZ he]
  refine zX 1 191 16 hpt rfl rfl (zB 150 ?_)
  refine vv ?_
  refine Sm.bringR 2 64 20 (k.o.bl.mono hH) rfl rfl ?_
  have hl2:(d.bls.map BlL.r).length=d.bls.length:=Kv _
  rw[hl2]
  refine zK (M0:=[]) (α:={i:Nat//i<=d.bls.length/\∀q,q<i->aN B d.bls.length q=false}) hP (fun i=>[(0,true,.c (.v (.pointer (some ⟨b0,o0,none⟩)))),(20,true,.c (.sl 2 0 d.bls.length 6)),(21,true,I d.bls.length),(22,true,I i.val)])
   (fun _=>[(2,⟨true,zC (d.bls.map BlL.r),64⟩)]) (fun i=>d.bls.length-i.val) ⟨0,zA,fun q h=>zA⟩ (fun _=>cM) (fun _=>zO rfl) [(2,2)] ?_ ?_
  ·exact zh
  ·rintro⟨i,hi,hq⟩ J hb
   simp only at hb hi hq⊢
   refine zB 160 (vv ?_)
   refine zV (fun hc=>?_) (fun hc=>?_)
   ·have hc:=zH hc
    have htk:=zW (r:=BlL.r) (k:=6) (fun _=>rfl) d.bls i hc
    simp only[htk,hsz]
    refine⟨⟨zA,zA⟩,zA,?_⟩
    refine vv ?_
    refine zM 170 (hlps i hc) hH rfl (vv ?_)
    cases hlp:aN B d.bls.length i with
    |true=>
     have hfd:(List.range d.bls.length).find? (aN B d.bls.length)=some i:=by
      rw[List.find?_range_eq_some]
      exact⟨hlp,Jo.2 hc,fun j hj=>by rw[hq j hj];rfl⟩
     have hget:(d.bls.map (fun b=>b.c.nm)).getD i []=d.bls[i].c.nm:=by
      rw[Kx,JO,JA hc];rfl
     rw[hfd,Jj,hget]at hR
     exact yN (hR C hL) ClM.nil
    |false=>
     refine zB 180 ?_
     simp only[go_sem,yu (i:=i)]
     refine hb _ _ ⟨i+1,hc,fun q h=>?_⟩ [(2,2)] yL zh
     rcases Nat.lt_or_ge q i with h'|h'
     ·exact hq q h'
     ·rw[show q=i by omega];exact hlp
   ·have hc:=zI hi hc
    have hfd:(List.range d.bls.length).find? (aN B d.bls.length)=none:=by
     rw[I7]
     intro j hj
     rw[hq j (by rw[hc];exact Jo.1 hj)];simp
    rw[hfd]at hR
    exact yN (hR C hL) ClM.nil
@[reducible] def NN (d:DgL)(bT bC bM bS:Nat):List Cv:=[sC d.nm,.sl 2 0 d.tys.length 11,.sl 3 0 d.cus.length 3,.sl 4 0 d.mas.length 4,.sl 5 0 d.ins.length 4,.sl 6 0 d.bls.length 6,.sl 7 0 d.ous.length 1,.v (.map (some bT)),.v (.map (some bC)),.v (.map (some bM)),.v (.map (some bS))]
@[reducible] def Rx (d:DgL)(bT bC bM bS:Nat):Mem:=[(1,⟨true,NN d bT bC bM bS,191⟩),(2,⟨true,zC (d.tys.map Td.r),57⟩),(3,⟨true,zC (d.cus.map CuL.r),138⟩),(4,⟨true,zC (d.mas.map MpL.r),140⟩),(5,⟨true,zC (d.ins.map Po.r),60⟩),(6,⟨true,zC (d.bls.map BlL.r),64⟩),(7,⟨true,d.ous.map sC,9⟩)]
theorem WO (d:DgL)(bT bC bM bS:Nat):ClM (Rx d bT bC bM bS):=zD (by simp only[Kw,iR,z6 (y8 _)];rfl)
theorem vD (β:Vl)(l:List (List Value)):(zC l).map (Cv.g β)=l.flatten:=by unfold zC;rw[pM]
theorem pq {P:Program}{nt:Nat}{C:Cx}{todo:List It}{e:Env}{H:Hp}{cp:Value}{d:DgL}{bT bC bM bS:Nat}(k:Ck H cp d bT bC bM bS)(hH:H.le C.hp)(t:Nat){g:Bool}(hx:e.get t=some (g,.c (.v cp)))
  (kk:Sm P nt C todo ((t,g,.c (.p 1 0))::e) (Rx d bT bC bM bS)):Sm P nt C todo e []:=by
 have o:=(k.mono hH).o
 obtain⟨l1,a1,b1⟩:=(k.mono hH).c.p.loc
 obtain⟨l2,a2,b2,_⟩:=o.ty.loc
 obtain⟨l3,a3,b3,_⟩:=o.cu.loc
 obtain⟨l4,a4,b4,_⟩:=o.ma.loc
 obtain⟨l5,a5,b5,_⟩:=o.i.loc
 obtain⟨l6,a6,b6,_⟩:=o.bl.loc
 obtain⟨l7,a7,b7,_⟩:=o.ou.loc
 rw[Kv]at a2 a3 a4 a5 a6
 have hl7:(yH d.ous).length=d.ous.length:=by simp[yH]
 rw[hl7]at a7
 refine rU (fun n=>[none,some l1,some l2,some l3,some l4,some l5,some l6,some l7].getD n none) (Rx d bT bC bM bS) ((t,g,.c (.p 1 0))::e) rfl (fun n l hl=>?_) (fun β hβ=>?_) (by rw[JK];exact kk)
 ·match n,hl with
  |0,hl=>cases hl
  |1,_=>rfl
  |2,_=>rfl
  |3,_=>rfl
  |4,_=>rfl
  |5,_=>rfl
  |6,_=>rfl
  |7,_=>rfl
  |n+8,hl=>simp at hl
 ·have e1:β 1=l1:=hβ 1 l1 rfl
  have e2:β 2=l2:=hβ 2 l2 rfl
  have e3:β 3=l3:=hβ 3 l3 rfl
  have e4:β 4=l4:=hβ 4 l4 rfl
  have e5:β 5=l5:=hβ 5 l5 rfl
  have e6:β 6=l6:=hβ 6 l6 rfl
  have e7:β 7=l7:=hβ 7 l7 rfl
  refine⟨fun n b hb=>?_,fun t' x hx'=>?_⟩
  ·simp only[Rx,zE]at hb
   split at hb
   ·rename_i h;cases hb;subst h
    rw[e1]
    have hc:(NN d bT bC bM bS).map (Cv.g β)=d.r++[Value.map (some bT),Value.map (some bC),Value.map (some bM),Value.map (some bS)]:=by
     simp only[NN,Ky,Kz,a2 β 2 e2,a3 β 3 e3,a4 β 4 e4,a5 β 5 e5,a6 β 6 e6,a7 β 7 e7]
     rfl
    rw[hc];exact b1
   ·split at hb
    ·rename_i h;cases hb;subst h;rw[e2];show LcH _ _ ((zC _).map _);rw[vD];exact b2
    ·split at hb
     ·rename_i h;cases hb;subst h;rw[e3];show LcH _ _ ((zC _).map _);rw[vD];exact b3
     ·split at hb
      ·rename_i h;cases hb;subst h;rw[e4];show LcH _ _ ((zC _).map _);rw[vD];exact b4
      ·split at hb
       ·rename_i h;cases hb;subst h;rw[e5];show LcH _ _ ((zC _).map _);rw[vD];exact b5
       ·split at hb
        ·rename_i h;cases hb;subst h;rw[e6];show LcH _ _ ((zC _).map _);rw[vD];exact b6
        ·split at hb
         ·rename_i h;cases hb;subst h;rw[e7];show LcH _ _ ((d.ous.map sC).map _);rw[<-m8,vD];exact b7
         ·cases hb
  ·simp only[Env.get]at hx'
   cases ht:(t==t')with
   |true=>
    rw[ht]at hx'
    have:t=t':=by simpa using ht
    subst this
    simp at hx'
    subst hx'
    refine⟨_,hx,?_⟩
    unfold gv
    simp only[V.g]
    rw[a1 β 1 e1]
    rfl
   |false=>
    rw[ht]at hx'
    exact⟨x,hx',rfl⟩
def Yk (d:Dg)(i:Nat):Str:=if i<d.ins.length then(d.ins.map (·.ty)).getD i []else(d.bls.map (·.ty)).getD (i-d.ins.length) []
def xb (d:Dg)(i:Nat):Ft:=yG d.tys (Yk d i)
theorem qK {H:Hp}{cp:Value}{d:DgL}{bT bC bM bS:Nat}(k:Ck H cp d bT bC bM bS)(i:Nat)(hi:i<d.ins.length+d.bls.length):
  CallH H HT 55 [.c (.v cp),I i] (.agg (xT (xb d.c i))):=by
 have hn1:=k.n1
 have hn2:=k.n2
 have hs1:=zQ (r:=Po.r) (k:=4) (fun _=>rfl) d.ins
 have hs2:=zQ (r:=BlL.r) (k:=6) (fun _=>rfl) d.bls
 refine kH func55 O3 ntmps55 fun C hR hP hH hL=>?_
 refine pq k hH 0 rfl (zB 100 ?_)
 refine vv ?_
 by_cases hlt:i<d.ins.length
 ·have e1:decide ((i:Int)<(d.ins.length:Int))=true:=yS zA
  have htn:xb d.c i=yG d.tys d.ins[i].ty:=by
   unfold xb Yk
   have:i<d.c.ins.length:=hlt
   rw[if_pos this]
   have:(d.c.ins.map (·.ty)).getD i []=d.ins[i].ty:=by
    rw[Kx,JO]
    show(Option.map _ d.ins[i]?).getD []=_
    rw[JA hlt];rfl
   rw[this];rfl
  rw[htn]at hR
  have hg:(zC (d.ins.map Po.r))[i*4+1]?=some (sC d.ins[i].ty):=by
   rw[yR (k:=4) (d.ins.map Po.r) (fun r hr=>by obtain⟨x,_,rfl⟩:=JL.1 hr;rfl) i 1 (by simpa using hlt) zA]
   simp[Po.r]
  simp only[go_sem,e1]
  refine Sm.dg 110 13 zi ?_
  simp only[go_sem,hg]
  refine⟨⟨zA,zA⟩,?_⟩
  refine z4 120 rfl rfl (.inl rfl) (fun _=>xh (k.c.t.mono hH) rfl rfl rfl) (vv ?_)
  exact yN (hR C hL) ClM.nil
 ·have e1:decide ((i:Int)<(d.ins.length:Int))=false:=yZ zA
  have hj:i-d.ins.length<d.bls.length:=zA
  have htn:xb d.c i=yG d.tys d.bls[i-d.ins.length].c.ty:=by
   unfold xb Yk
   have:¬i<d.c.ins.length:=hlt
   rw[if_neg this]
   have:(d.c.bls.map (·.ty)).getD (i-d.c.ins.length) []=d.bls[i-d.ins.length].c.ty:=by
    rw[Kx,JO]
    show(Option.map _ (d.bls.map BlL.c)[i-d.ins.length]?).getD []=_
    rw[JO,JA hj];rfl
   rw[this];rfl
  rw[htn]at hR
  have hg:(zC (d.bls.map BlL.r))[(i-d.ins.length)*6+2]?=some (sC d.bls[i-d.ins.length].c.ty):=by
   rw[yR (k:=6) (d.bls.map BlL.r) (fun r hr=>by obtain⟨x,_,rfl⟩:=JL.1 hr;rfl) (i-d.ins.length) 2 (by simpa using hj) zA]
   simp[BlL.r]
  have w1:IntKind.i64.wrap ((i:Int)-(d.ins.length:Int))=((i-d.ins.length:Nat):Int):=by rw[y6 zA zA];omega
  simp only[go_sem,e1]
  refine Sm.dg 110 20 zi ?_
  simp only[go_sem,w1,hg]
  refine⟨⟨zA,zA⟩,?_⟩
  refine z4 120 rfl rfl (.inl rfl) (fun _=>xh (k.c.t.mono hH) rfl rfl rfl) (vv ?_)
  exact yN (hR C hL) ClM.nil
def kR (t:Ft)(x:Int):Bool:=decide ((bif fok t then qT t else 0)<=x)&&decide (x<=(bif fok t then oI t else 0))
theorem ns (t:Ft)(x:Int):CallOk HT 203 [.agg (xT t),I x] [] (Bo (kR t x)) []:=by
 refine kN 100 func203 Ty ntmps203 fun C hR hP=>?_
 refine vv ?_
 refine CallQ.pure 110 (jQ t) rfl (vv ?_)
 refine zp hR ?_
 unfold kR
 rw[xg]
@[reducible] def Wd (r:Option (Str×Int)):V:= .tup [Ws ((r.map (·.1)).getD []),Wi ((r.map (·.2)).getD 0)]
def u9 (l:List Td)(p:Po):Option (Str×Int):=if Z8 l p.ty=none then some (p.ty,7)else if (decide (p.hi<p.lo)||(!kR (yG l p.ty) p.lo|| !kR (yG l p.ty) p.hi))=true then some (p.nm,2)else none
def zu {α:Type}(f:α->Option (Str×Int)):List α->Option (Str×Int)
 |[]=>none
 |x::r=>match f x with
  |some y=>some y
  |none=>zu f r
theorem yc {α:Type}(f:α->Option (Str×Int))(x:α)(r:List α):zu f (x::r)=(f x).or (zu f r):=by
 rw[zu];cases f x<;>rfl
theorem aV {H:Hp}{cp:Value}{d:DgL}{bT bC bM bS:Nat}(k:Ck H cp d bT bC bM bS):
  CallH H HT 116 [.c (.v cp)] (Wd (zu (u9 d.tys) d.ins)):=by
 have hn1:=k.n1
 have hsz:=zQ (r:=Po.r) (k:=4) (fun _=>rfl) d.ins
 refine kH func116 RO ntmps116 fun C hR hP hH hL=>?_
 refine zX 1 191 0 (k.c.p.mono hH) rfl rfl (zB 100 ?_)
 refine vv ?_
 refine Sm.bringR 5 60 12 (k.o.i.mono hH) rfl rfl ?_
 have hl2:(d.ins.map Po.r).length=d.ins.length:=Kv _
 rw[hl2]
 refine zK (M0:=[]) (α:={i:Nat//i<=d.ins.length/\zu (u9 d.tys) d.ins=zu (u9 d.tys) (d.ins.drop i)}) hP (fun i=>[(0,true,.c (.p 1 0)),(12,true,.c (.sl 5 0 d.ins.length 4)),(13,true,I d.ins.length),(14,true,I i.val)])
  (fun _=>[(1,⟨true,(d.r++WN bT bC bM bS).map .v,191⟩),(5,⟨true,zC (d.ins.map Po.r),60⟩)]) (fun i=>d.ins.length-i.val) ⟨0,zA,rfl⟩ (fun _=>zD (by simp only[Kw,z6 (kG _),iR];rfl)) (fun _=>zO rfl) [(1,1),(5,5)] ?_ ?_
 ·exact zh
 ·rintro⟨i,hi,hx⟩ J hj
  simp only at hj hi hx⊢
  refine zB 120 (vv ?_)
  refine zV (fun hc=>?_) (fun hc=>?_)
  ·have hc:=zH hc
   have htk:=zW (r:=Po.r) (k:=4) (fun _=>rfl) d.ins i hc
   rw[JC hc,yc]at hx
   simp only[htk,hsz]
   refine⟨⟨zA,zA⟩,zA,?_⟩
   generalize d.ins[i]=p at*
   refine vv ?_
   refine Sm.dg 140 12 zi (vv ?_)
   refine zF 150 (fun _=>MZ (k.c.t.mono hH) rfl rfl rfl) (vv ?_)
   cases hq:Z8 d.tys p.ty with
   |none=>
    have he:u9 d.tys p=some (p.ty,7):=by unfold u9;rw[if_pos hq]
    rw[he]at hx
    rw[hx]at hR
    exact yN (hR C hL) ClM.nil
   |some u=>
    have he:u9 d.tys p=if (decide (p.hi<p.lo)||(!kR (yG d.tys p.ty) p.lo|| !kR (yG d.tys p.ty) p.hi))=true then some (p.nm,2)else none:=by unfold u9;rw[if_neg (by rw[hq];simp)]
    refine CallQ.guard 160 (fun _=>ns (yG d.tys p.ty) p.lo) (fun h=>by rw[h];rfl) (vv ?_)
    refine CallQ.guard 160 (fun _=>ns (yG d.tys p.ty) p.hi) (fun h=>by rw[h];rfl) (vv ?_)
    have eb:(bif bif decide (p.hi<p.lo)then true else !kR (yG d.tys p.ty) p.lo then true else !kR (yG d.tys p.ty) p.hi)=(decide (p.hi<p.lo)||(!kR (yG d.tys p.ty) p.lo|| !kR (yG d.tys p.ty) p.hi)):=by
     rw[lc,lc,Bool.or_assoc]
    rw[eb]
    refine zV (fun hd=>?_) (fun hd=>?_)
    ·rw[he,if_pos hd]at hx
     rw[hx]at hR
     exact yN (hR C hL) ClM.nil
    ·rw[he,if_neg (by rw[hd];simp)]at hx
     refine zB 170 ?_
     simp only[go_sem,yu (i:=i)]
     exact hj _ _ ⟨i+1,hc,hx⟩ [(1,1),(5,5)] yL zh
  ·have hc:=zI hi hc
   rw[hc,JI]at hx
   rw[hx]at hR
   exact yN (hR C hL) ClM.nil
def NF:Str:=[99,117,114,118,101]
def PX:Str:=[109,97,112]
def Wm (cu:Bool)(ma:Bool)(kd:Str):Bool:=(kd==NF&& !cu)||(kd==PX&& !ma)
def ub (tys:List Td)(cus:List Cu)(mas:List Mp)(sg:List Str)(b:Bl):Option (Str×Int):=
 if Z8 tys b.ty=none then some (b.ty,7)else match rP sg b.ins with
 |some s=>some (s,7)
 |none=>if Wm (cus.any fun c=>c.nm==b.tb) (mas.any fun m=>m.nm==b.tb) b.kd=true then some (b.tb,7)else none
theorem aw (l:List CuL)(s:Str):(j7 l s).isSome=(l.map CuL.c).any fun c=>c.nm==s:=by
 unfold j7
 rw[List.any_map]
 induction l with
 |nil=>rfl
 |cons c l ih=>
  rw[List.find?_cons,List.any_cons]
  show _=((c.c.nm==s)||_)
  cases c.c.nm==s
  ·simpa using ih
  ·rfl
theorem aK (l:List MpL)(s:Str):(ig l s).isSome=(l.map MpL.c).any fun c=>c.nm==s:=by
 unfold ig
 rw[List.any_map]
 induction l with
 |nil=>rfl
 |cons c l ih=>
  rw[List.find?_cons,List.any_cons]
  show _=((c.nm==s)||_)
  cases c.nm==s
  ·simpa using ih
  ·rfl
theorem ZE {H:Hp}{cp:Value}{d:DgL}{bT bC bM bS:Nat}(k:Ck H cp d bT bC bM bS)(hl:∀b∈d.bls,b.c.ins.length<=1000000):
  CallH H HT 117 [.c (.v cp)] (Wd (zu (fun b:BlL=>ub d.tys d.c.cus d.c.mas (zU d.c) b.c) d.bls)):=by
 have hn2:=k.n2
 have hsz:=zQ (r:=BlL.r) (k:=6) (fun _=>rfl) d.bls
 generalize hF:(fun b:BlL=>ub d.tys d.c.cus d.c.mas (zU d.c) b.c)=F
 obtain⟨b0,o0,rfl,c0,el0,mk0,hc0,hcc⟩:=PtH.at k.c.p
 refine kH func117 RN ntmps117 fun C hR hP hH hL=>?_
 have hpt:=k.c.p.mono hH
 refine zB 100 (vv ?_)
 refine zX 1 191 14 hpt rfl rfl (zB 100 ?_)
 refine vv ?_
 refine Sm.bringR 5 64 18 (k.o.bl.mono hH) rfl rfl ?_
 have hl2:(d.bls.map BlL.r).length=d.bls.length:=Kv _
 rw[hl2]
 refine zK (M0:=[]) (α:={i:Nat//i<=d.bls.length/\zu F d.bls=zu F (d.bls.drop i)}) hP (fun i=>[(0,true,.c (.v (.pointer (some ⟨b0,o0,none⟩)))),(18,true,.c (.sl 5 0 d.bls.length 6)),(19,true,I d.bls.length),(20,true,I i.val)])
  (fun _=>[(5,⟨true,zC (d.bls.map BlL.r),64⟩)]) (fun i=>d.bls.length-i.val) ⟨0,zA,rfl⟩ (fun _=>cM) (fun _=>zO rfl) [(5,5)] ?_ ?_
 ·exact zh
 ·rintro⟨i,hi,hx⟩ J hj
  simp only at hj hi hx⊢
  refine zB 120 (vv ?_)
  refine zV (fun hc=>?_) (fun hc=>?_)
  ·have hc:=zH hc
   have htk:=zW (r:=BlL.r) (k:=6) (fun _=>rfl) d.bls i hc
   rw[JC hc,yc]at hx
   have hmem:d.bls[i]∈d.bls:=JH hc
   simp only[htk,hsz]
   refine⟨⟨zA,zA⟩,zA,?_⟩
   have hbo:=k.o.bls _ hmem
   have hbl:=hl _ hmem
   generalize d.bls[i]=b at*
   refine vv ?_
   refine Sm.dg 140 12 zi (vv ?_)
   refine DOpQ.own 140 (zg rfl rfl) (vv ?_)
   refine DOpQ.own 140 (zT rfl rfl rfl) (vv ?_)
   refine zF 140 (fun _=>zS (hH _ _ hc0) (hcc 7 _ rfl) rfl rfl rfl) (vv ?_)
   refine zF 150 (fun _=>MZ (k.c.t.mono hH) rfl rfl rfl) (vv ?_)
   have hFb:F b=ub d.tys d.c.cus d.c.mas (zU d.c) b.c:=by rw[<-hF]
   unfold ub at hFb
   cases hq:Z8 d.tys b.c.ty with
   |none=>
    rw[if_pos hq]at hFb
    rw[hFb]at hx
    rw[hx]at hR
    exact yN (hR C hL) ClM.nil
   |some u=>
    rw[if_neg (by rw[hq];simp)]at hFb
    refine zM 170 (fN k b hbo zA) hH rfl (vv ?_)
    cases ha:rP (zU d.c) b.c.ins with
    |some s=>
     rw[ha]at hFb
     simp only at hFb
     rw[hFb]at hx
     rw[hx]at hR
     exact yN (hR C hL) ClM.nil
    |none=>
     rw[ha]at hFb
     simp only at hFb
     refine Sm.dg 180 12 zi (vv ?_)
     refine DOpQ.own 190 (zg rfl rfl) (vv ?_)
     refine DOpQ.own 190 (zT rfl rfl rfl) (vv ?_)
     refine zF 190 (fun _=>zS (hH _ _ hc0) (hcc 8 _ rfl) rfl rfl rfl) (vv ?_)
     refine zF 190 (fun _=>Lj (k.c.c.mono hH) rfl rfl rfl) (vv ?_)
     refine Sm.dg 200 12 zi (vv ?_)
     refine DOpQ.own 210 (zg rfl rfl) (vv ?_)
     refine DOpQ.own 210 (zT rfl rfl rfl) (vv ?_)
     refine zF 210 (fun _=>zS (hH _ _ hc0) (hcc 9 _ rfl) rfl rfl rfl) (vv ?_)
     refine zF 210 (fun _=>Li (k.c.m.mono hH) rfl rfl rfl) ?_
     simp only[go_sem,aw,aK]
     have hcus:d.c.cus=d.cus.map CuL.c:=rfl
     have hmas:d.c.mas=d.mas.map MpL.c:=rfl
     rw[hcus,hmas]at hFb
     generalize ((d.cus.map CuL.c).any fun c=>c.nm==b.c.tb)=cu at*
     generalize ((d.mas.map MpL.c).any fun c=>c.nm==b.c.tb)=ma at*
     have eb:(bif bif b.c.kd==[99,117,114,118,101]then !cu else false then true else bif b.c.kd==[109,97,112]then !ma else false)=Wm cu ma b.c.kd:=by
      rw[lc,xg,xg];rfl
     refine⟨fun h=>⟨h,fun h2=>by rw[h,h2];rfl⟩,?_⟩
     rw[eb]
     refine zV (fun hd=>?_) (fun hd=>?_)
     ·rw[if_pos hd]at hFb
      rw[hFb]at hx
      rw[hx]at hR
      exact yN (hR C hL) ClM.nil
     ·rw[if_neg (by rw[hd];simp)]at hFb
      rw[hFb]at hx
      refine zB 220 ?_
      simp only[go_sem,yu (i:=i)]
      exact hj _ _ ⟨i+1,hc,hx⟩ [(5,5)] yL zh
  ·have hc:=zI hi hc
   rw[hc,JI]at hx
   rw[hx]at hR
   exact yN (hR C hL) ClM.nil
def tQ (sg:List Str):List Str->List Str->Option (Str×Int)
 |_,[]=>none
 |seen,s::r=>if mb sg s=false then some (s,7)else if seen.contains s=true then some (s,8)else tQ sg (seen++[s]) r
theorem eZ {H:Hp}{cp:Value}{d:DgL}{bT bC bM bS:Nat}(k:Ck H cp d bT bC bM bS)(ho:d.ous.length<=1000000):
  CallH H HT 118 [.c (.v cp)] (Wd (tQ (zU d.c) [] d.ous)):=by
 obtain⟨b0,o0,rfl,c0,el0,mk0,hc0,hcc⟩:=PtH.at k.c.p
 refine kH func118 RM ntmps118 fun C hR hP hH hL=>?_
 have hpt:=k.c.p.mono hH
 refine pq k hH 0 rfl (zB 100 ?_)
 refine vv ?_
 refine zK (M0:=[]) (α:={i:Nat//i<=d.ous.length/\tQ (zU d.c) [] d.ous=tQ (zU d.c) (d.ous.take i) (d.ous.drop i)}) hP (fun i=>[(0,true,.c (.p 1 0)),(12,true,.c (.sl 7 0 d.ous.length 1)),(13,true,I d.ous.length),(14,true,I i.val)])
  (fun _=>Rx d bT bC bM bS) (fun i=>d.ous.length-i.val) ⟨0,zA,rfl⟩ (fun _=>WO d bT bC bM bS) (fun _=>zO rfl) [(1,1),(2,2),(3,3),(4,4),(5,5),(6,6),(7,7)] ?_ ?_
 ·exact zh
 ·rintro⟨i,hi,hx⟩ J hj
  simp only at hj hi hx⊢
  refine zB 120 (vv ?_)
  refine zV (fun hc=>?_) (fun hc=>?_)
  ·have hc:=zH hc
   have htk:d.ous.take (i+1)=d.ous.take i++[d.ous[i]]:=JR hc
   rw[JC hc,tQ]at hx
   simp only[go_sem,vV hc]
   refine⟨⟨zA,zA⟩,?_⟩
   generalize d.ous[i]=s at*
   refine z4 130 rfl rfl (.inl rfl) (fun _=>M4 (k.c.s.mono hH) rfl rfl rfl) (vv ?_)
   cases hs:mb (zU d.c) s with
   |false=>
    rw[if_pos hs]at hx
    rw[hx]at hR
    refine vv ?_
    exact yN (hR C hL) ClM.nil
   |true=>
    rw[if_neg (by rw[hs];simp)]at hx
    simp only[go_sem,Int.sub_zero]
    refine⟨⟨zA,zA,z9⟩,?_⟩
    refine CallQ.ren [(1,7)] 140 (rO d.ous i zA zA s) (ClM.v (by simp only[Kw,y8];rfl)) rfl rfl ⟨oW (yD (y8 _)),trivial⟩ rfl (.inr rfl) (vv ?_)
    cases hc2:(d.ous.take i).contains s with
    |true=>
     rw[if_pos hc2]at hx
     rw[hx]at hR
     exact yN (hR C hL) ClM.nil
    |false=>
     rw[if_neg (by rw[hc2];simp),<-htk]at hx
     refine zB 150 ?_
     simp only[go_sem,yu (i:=i)]
     exact hj _ _ ⟨i+1,hc,hx⟩ [(1,1),(2,2),(3,3),(4,4),(5,5),(6,6),(7,7)] yL zh
  ·have hc:=zI hi hc
   rw[hc,JI]at hx
   have hx:tQ (zU d.c) [] d.ous=none:=hx
   rw[hx]at hR
   exact yN (hR C hL) ClM.nil
def az:Str:=[99,111,110,115,116]
def aR:Str:=[108,105,109,105,116]
def aT:Str:=[108,97,103]
def aY:Str:=[104,121,115,116,101,114,101,115,105,115]
@[reducible] def Qb (b:BlL):List Cv:=[sC b.c.nm,sC b.c.kd,sC b.c.ty,.sl 11 0 b.c.ins.length 1,sC b.c.tb,.sl 12 0 b.c.ks.length 1]
@[reducible] def Qa (b:BlL):Mem:=[(11,⟨true,b.c.ins.map sC,9⟩),(12,⟨true,b.c.ks.map iC,3⟩)]
theorem yB {P:Program}{nt:Nat}{C:Cx}{todo:List It}{e:Env}{M:Mem}{b:BlL}(hb:b.ok C.hp)(t:Nat){g:Bool}(hn:(M.get 11).isNone=true/\(M.get 12).isNone=true)(hx:e.get t=some (g,z3 b.r))
  (kk:Sm P nt C todo ((t,g,.agg (Qb b))::e) (Qa b++M)):Sm P nt C todo e M:=by
 obtain⟨l1,a1,b1,_⟩:=hb.i.loc
 obtain⟨l2,a2,b2,_⟩:=hb.k.loc
 have h1:(yH b.c.ins).length=b.c.ins.length:=by simp[yH]
 have h2:(zP b.c.ks).length=b.c.ks.length:=by simp[zP]
 rw[h1]at a1
 rw[h2]at a2
 refine rU (fun n=>if n=11 then some l1 else if n=12 then some l2 else none) (Qa b) ((t,g,.agg (Qb b))::e) (by simp[hn.1,hn.2]) (fun n l hl=>?_) (fun β hβ=>?_) kk
 ·simp only[Qa,zE]
  by_cases hh:n=11
  ·simp[hh]
  ·rw[if_neg hh]at hl⊢
   by_cases hh2:n=12
   ·simp[hh2]
   ·rw[if_neg hh2]at hl;cases hl
 ·have e1:β 11=l1:=hβ 11 l1 rfl
  have e2:β 12=l2:=hβ 12 l2 rfl
  refine⟨fun n c hc=>?_,fun t' x hx'=>?_⟩
  ·simp only[Qa,zE]at hc
   split at hc
   ·rename_i h;cases hc;subst h;rw[e1];show LcH _ _ ((b.c.ins.map sC).map _);rw[<-m8,vD];exact b1
   ·split at hc
    ·rename_i h;cases hc;subst h;rw[e2];show LcH _ _ ((b.c.ks.map iC).map _);rw[<-wj,vD];exact b2
    ·cases hc
  ·simp only[Env.get]at hx'
   cases ht:(t==t')with
   |true=>
    rw[ht]at hx'
    have:t=t':=by simpa using ht
    subst this
    simp at hx'
    subst hx'
    refine⟨_,hx,?_⟩
    unfold gv
    congr 1
    simp only[V.g,z3,Qb,Ky,Kz,a1 β 11 e1,a2 β 12 e2]
    rfl
   |false=>
    rw[ht]at hx'
    exact⟨x,hx',rfl⟩
def aF (t:Ft)(b:Bl):Bool:=
 if (b.kd==az||b.kd==lV)=true then kR t (b.ks.getD 0 0)else if (b.kd==aR)=true then kR t (b.ks.getD 0 0)&&(kR t (b.ks.getD 1 0)&&decide (b.ks.getD 0 0<=b.ks.getD 1 0))
 else if (b.kd==aT)=true then decide (0<=b.ks.getD 0 0)&&decide (b.ks.getD 0 0<=20)else if (b.kd==aY)=true then decide (b.ks.getD 0 0<=b.ks.getD 1 0)else true
theorem xw {b:Bl}(h:xj b=true){kd:Str}(hk:(b.kd==kd)=true){a n t:Nat}(hq:ym kd=some (a,n,t)):b.ins.length=a/\b.ks.length=n:=by
 have:b.kd=kd:=by simpa using hk
 unfold xj at h
 rw[this,hq]at h
 simp only[JB,decide_eq_true_eq]at h
 exact⟨h.1,h.2.1⟩
theorem yY {l:List Int}{i:Nat}(h:i<l.length):(l.map iC)[i]?=some (iC (l.getD i 0)):=by
 rw[wC h,Kx,JA h];rfl
theorem ek {H:Hp}{cp:Value}{d:DgL}{bT bC' bM bS:Nat}(k:Ck H cp d bT bC' bM bS)(b:BlL)(hb:b.ok H)(hok:xj b.c=true):
  CallH H HT 207 [.c (.v cp),z3 b.r] (Bo (aF (yG d.tys b.c.ty) b.c)):=by
 refine kH func207 Tu ntmps207 fun C hR hP hH hL=>?_
 refine yB (hb.mono hH) 1 ⟨rfl,rfl⟩ rfl ?_
 refine zX 1 191 0 (k.c.p.mono hH) rfl rfl (zB 100 ?_)
 refine vv ?_
 refine Sm.dg 110 8 zi (vv ?_)
 refine zF 120 (fun _=>xh (k.c.t.mono hH) rfl rfl rfl) (vv ?_)
 have hw:=fun x=>ns (yG d.tys b.c.ty) x
 unfold aF at hR
 generalize yG d.tys b.c.ty=t at*
 refine zV (fun h1=>?_) (fun h1=>?_)
 ·rw[h1]
  have h1:(b.c.kd==az)=true:=h1
  rw[h1,Bool.true_or,if_pos rfl]at hR
  have hl:=(xw hok h1 (by rfl)).2
  have g0:=yY (l:=b.c.ks) (i:=0) zA
  refine Sm.dg 140 5 zi ?_
  simp only[go_sem,g0]
  refine⟨zA,?_⟩
  refine CallQ.pure 150 (hw (b.c.ks.getD 0 0)) rfl (vv ?_)
  exact zp (hR C hL) rfl
 refine zV (fun h2=>?_) (fun h2=>?_)
 ·have h1:(b.c.kd==az)=false:=h1
  have h2:(b.c.kd==lV)=true:=h2
  rw[h1,h2,Ip,if_pos rfl]at hR
  have hl:=(xw hok h2 (by rfl)).2
  have g0:=yY (l:=b.c.ks) (i:=0) zA
  refine Sm.dg 140 5 zi ?_
  simp only[go_sem,g0]
  refine⟨zA,?_⟩
  refine CallQ.pure 150 (hw (b.c.ks.getD 0 0)) rfl (vv ?_)
  exact zp (hR C hL) rfl
 have h1:(b.c.kd==az)=false:=h1
 have h2:(b.c.kd==lV)=false:=h2
 rw[h1,h2,Ip,if_neg yp]at hR
 refine zV (fun h3=>?_) (fun h3=>?_)
 ·have h3:(b.c.kd==aR)=true:=h3
  rw[if_pos h3]at hR
  have hl:=(xw hok h3 (by rfl)).2
  have g0:=yY (l:=b.c.ks) (i:=0) zA
  have g1:=yY (l:=b.c.ks) (i:=1) zA
  refine Sm.dg 140 23 zi ?_
  simp only[go_sem,g0,g1]
  refine⟨zA,?_⟩
  refine DCallQ.guard 150 (fun _=>hw (b.c.ks.getD 0 0)) (fun h=>rfl) ?_
  simp only[go_sem,g0,g1]
  refine⟨fun h=>⟨h,zA⟩,?_⟩
  refine DCallQ.guard 150 (fun _=>hw (b.c.ks.getD 1 0)) (fun h=>by rw[h];rfl) ?_
  simp only[go_sem,g0,g1]
  refine⟨fun h=>⟨h,zA⟩,fun h=>⟨h,zA⟩,?_⟩
  refine zp (hR C hL) ?_
  cases kR t (b.c.ks.getD 0 0)<;>cases kR t (b.c.ks.getD 1 0)<;>rfl
 have h3:(b.c.kd==aR)=false:=h3
 rw[if_neg (by rw[h3];simp)]at hR
 refine zV (fun h4=>?_) (fun h4=>?_)
 ·have h4:(b.c.kd==aT)=true:=h4
  rw[if_pos h4]at hR
  have hl:=(xw hok h4 (by rfl)).2
  have g0:=yY (l:=b.c.ks) (i:=0) zA
  simp only[go_sem,g0]
  refine⟨zA,fun h=>⟨h,zA⟩,?_⟩
  exact zp (hR C hL) (xg _ _)
 have h4:(b.c.kd==aT)=false:=h4
 rw[if_neg (by rw[h4];simp)]at hR
 refine zV (fun h5=>?_) (fun h5=>?_)
 ·have h5:(b.c.kd==aY)=true:=h5
  rw[if_pos h5]at hR
  have hl:=(xw hok h5 (by rfl)).2
  have g0:=yY (l:=b.c.ks) (i:=0) zA
  have g1:=yY (l:=b.c.ks) (i:=1) zA
  refine Sm.dg 140 8 zi ?_
  simp only[go_sem,g0,g1]
  refine⟨zA,zA,?_⟩
  exact zp (hR C hL) rfl
 have h5:(b.c.kd==aY)=false:=h5
 rw[if_neg (by rw[h5];simp)]at hR
 exact zp (hR C hL) rfl
end Go.Proofs.YtbnkiacicnnmkaaGreat.Fx
