/-  -/
import Derived.Test.YtbnkiacicnnmkaaGreatQ7
open Go.Proofs.Tryz
set_option linter.unusedSimpArgs false
set_option linter.unusedVariables false
set_option maxRecDepth 100000
set_option maxHeartbeats 4000000
namespace Go.Proofs.YtbnkiacicnnmkaaGreat.Fx
open Vg Tf
theorem _root_.Go.Proofs.YtbnkiacicnnmkaaGreat.Vg.Sm.bringPS {P:Program}{nt:Nat}{C:Cx}{todo:List It}{e:Env}{M:Mem}{pv v:Value}{sz:Nat}{rows:List (List Value)}(n1 n2:Nat)(el1 el2:TypeId)(t:Nat){g:Bool}(hp:PtH C.hp pv [v])(h:SlH C.hp v sz rows)(hn1:M.get n1=none)(hn2:M.get n2=none)(hne:n1≠n2)(hx:e.get t=some (g,.c (.v pv)))
  (k:Sm P nt C todo ((t,g,.c (.p n1 0))::e) ((n1,⟨true,[.sl n2 0 rows.length sz],el1⟩)::(n2,⟨true,zC rows,el2⟩)::M)):Sm P nt C todo e M:=by
 obtain⟨l1,a1,a2⟩:=hp.loc
 obtain⟨l2,b1,b2,b3⟩:=h.loc
 refine rU (fun n=>if n=n1 then some l1 else if n=n2 then some l2 else none) [(n1,⟨true,[.sl n2 0 rows.length sz],el1⟩),(n2,⟨true,zC rows,el2⟩)] ((t,g,.c (.p n1 0))::e) (by simp[hn1,hn2]) (fun n l hl=>?_) (fun β hβ=>?_) k
 ·simp only[zE]
  by_cases hh:n=n1
  ·simp[hh]
  ·rw[if_neg hh]at hl⊢
   by_cases hh2:n=n2
   ·simp[hh2]
   ·rw[if_neg hh2]at hl;cases hl
 ·have e1:β n1=l1:=hβ n1 l1 (if_pos rfl)
  have e2:β n2=l2:=hβ n2 l2 (by rw[if_neg (Ne.symm hne),if_pos rfl])
  refine⟨fun n b hb=>?_,fun t' x hx'=>?_⟩
  ·simp only[zE]at hb
   split at hb
   ·rename_i hh
    cases hb
    rw[hh,e1]
    have:[Cv.sl n2 0 rows.length sz].map (Cv.g β)=[v]:=by rw[Ky,Kz,b1 β n2 e2]
    rw[this];exact a2
   ·split at hb
    ·rename_i hh
     cases hb
     rw[hh,e2]
     show LcH C.hp l2 ((zC rows).map (Cv.g β))
     unfold zC
     rw[pM];exact b2
    ·cases hb
  ·simp only[Env.get]at hx'
   cases ht:(t==t')with
   |true=>
    rw[ht]at hx'
    have:t=t':=by simpa using ht
    subst this
    simp at hx'
    subst hx'
    refine⟨_,hx,?_⟩
    unfold gv
    simp only[V.g]
    rw[a1 β n1 e1]
    rfl
   |false=>
    rw[ht]at hx'
    exact⟨x,hx',rfl⟩
def yd {α:Type}(f:α->Str×Value):List α->Al
 |[]=>[]
 |x::l=>uU (yd f l) ⟨(f x).1.toArray⟩ (f x).2
theorem qN {a b:Str}:((⟨a.toArray⟩:ByteArray)=⟨b.toArray⟩)↔a=b:=by
 constructor
 ·intro h
  have:=congrArg (fun x:ByteArray=>x.data.toList) h
  simpa using this
 ·intro h;rw[h]
theorem xe {α:Type}(f:α->Str×Value)(s:Str):∀l:List α,w9 (yd f l) ⟨s.toArray⟩=(l.find? (fun x=>(f x).1==s)).map fun x=>(f x).2
 |[]=>rfl
 |x::l=>by
  rw[yd,tM,xe f s l,List.find?_cons]
  by_cases h:(f x).1=s
  ·rw[if_pos (qN.2 h.symm)]
   have:((f x).1==s)=true:=by simpa using h
   rw[this];rfl
  ·rw[if_neg (fun hh=>h (qN.1 hh).symm)]
   have:((f x).1==s)=false:=by simpa using h
   rw[this]
def tX:List Str->Nat->Al
 |[],_=>[]
 |x::l,k=>uU (tX l (k+1)) ⟨x.toArray⟩ (iv k)
def pS (s:Str):List Str->Nat->Option Nat
 |[],_=>none
 |x::l,k=>if x=s then some k else pS s l (k+1)
theorem rL (s:Str):∀(l:List Str) (k:Nat),w9 (tX l k) ⟨s.toArray⟩=(pS s l k).map fun i:Nat=>iv i
 |[],_=>rfl
 |x::l,k=>by
  rw[tX,tM,rL s l (k+1),pS]
  by_cases h:x=s
  ·rw[if_pos (qN.2 h.symm),if_pos h];rfl
  ·rw[if_neg (fun hh=>h (qN.1 hh).symm),if_neg h]
def Me (t:Ft):Value:= .agg (xN t).toArray
def fv (t:Td):Str×Value:=(t.nm,Me t.ty)
def cB (c:CuL):Str×Value:=(c.c.nm,.agg #[vsl c.x c.c.xs.length,vsl c.y c.c.ys.length])
def ct (m:MpL):Str×Value:=(m.nm,.agg #[vsl m.x m.xs.length,vsl m.y m.ys.length,vsl m.z m.zs.length])
structure ChkOk (H:Hp) (cp:Value) (d:DgL) (bT bC bM bS:Nat):Prop where
 p:PtH H cp (d.r++[.map (some bT),.map (some bC),.map (some bM),.map (some bS)])
 t:MpB H bT (yd fv d.tys)
 c:MpB H bC (yd cB d.cus)
 m:MpB H bM (yd ct d.mas)
 s:MpB H bS (tX (zU d.c) 0)
theorem uX {H:Hp}{v:Value}{cs:List Value}(h:PtH H v cs):∃a,v= .pointer a:=by
 obtain⟨l,h1,_⟩:=h
 exact⟨_,h1⟩
def tC (d:DgL)(bT bC bM bS:Nat):Mem:=[(1,⟨false,(DgL.r d).map Cv.v,69⟩),(2,⟨false,(DgL.r d++[Value.map (some bT),Value.map (some bC),Value.map (some bM),Value.map (some bS)]).map Cv.v,191⟩),(5,⟨false,[.p 2 0],115⟩)]
theorem na (d:DgL)(bT bC bM bS:Nat):ClM (tC d bT bC bM bS):=zD rfl
theorem yF {L:List Nat}{cs:List Cv}(h:cs.all Cv.isV=true):cs.all (Cv.cok L)=true:=by
 rw[JD]at h⊢
 intro c hc
 have:=h c hc
 cases c<;>simp[Cv.isV]at this<;>rfl
theorem MpB.lt {C:Cx}{b:Nat}{l:Al}(h:MpB C.hp b l):b<C.w0.heap.size:=by
 obtain⟨_,_,h,_⟩:=h
 exact Cx.hp_lt h
theorem yz {H H':Hp}{b l0:Nat}{l:Al}(h:MpB H b l)(k:∀b o,b≠l0->H b o->H' b o)(hne:b≠l0):MpB H' b l:=by
 obtain⟨es,ck,q1,q2⟩:=h
 exact⟨es,ck,k _ _ hne q1,q2⟩
theorem vM {H:Hp}{b l dB:Nat}{al:Al}(h:MpB H b al)(k:∀b o,H b o->b≠l/\b≠dB):b≠l/\b≠dB:=by
 obtain⟨es,ck,q1,q2⟩:=h
 exact k _ _ q1
theorem Le {H:Hp}(d:DgL)(hd:d.ok H)(hs:d.sm)(h1:d.ins.length<=1000000)(h2:d.bls.length<=1000000):
  CallX H Tryz.prog 48 [z3 d.r] [] (fun x:Value×Nat×Nat×Nat×Nat=> .c (.v x.1)) (fun _=>[]) (fun x H'=>ChkOk H' x.1 d x.2.1 x.2.2.1 x.2.2.2.1 x.2.2.2.2):=by
 refine sk func48 rfl O9 (by simp[ntmps48]) (fun x n b h=>by cases h) (fun x n b b' h h'=>by cases h) (v8 rfl) rfl fun C hlp hR hP hH hL=>?_
 have hlenS:(zU d.c).length<=1000000000000000:=by simp[zU,DgL.c];omega
 have hHlt:∀b o,H b o->b<C.w0.heap.size:=fun b o h=>Cx.hp_lt (hH b o h)
 refine zB 100 (vv ?_)
 refine Sm.makeMap hL rfl rfl rfl (fun bT CT lT kT fT fT' mT=>?_)
 refine Sm.makeMap lT rfl rfl rfl (fun bC CC lC kC fC fC' mC=>?_)
 refine Sm.makeMap lC rfl rfl rfl (fun bM CM lM kM fM fM' mM=>?_)
 refine Sm.makeMap lM rfl rfl rfl (fun bS C0 l0 kS fS fS' mS=>?_)
 have nTC:bT<bC:=J1 (MpB.lt mT) fC'
 have nTM:bT<bM:=J1 (MpB.lt (mT.mono kC)) fM'
 have nTS:bT<bS:=J1 (MpB.lt ((mT.mono kC).mono kM)) fS'
 have nCM:bC<bM:=J1 (MpB.lt mC) fM'
 have nCS:bC<bS:=J1 (MpB.lt (mC.mono kM)) fS'
 have nMS:bM<bS:=J1 (MpB.lt mM) fS'
 have HH0:H.le C0.hp:=fun b o h=>kS b o (kM b o (kC b o (kT b o (hH b o h))))
 have mbT0:MpB C0.hp bT []:=((mT.mono kC).mono kM).mono kS
 have mbC0:MpB C0.hp bC []:=(mC.mono kM).mono kS
 have mbM0:MpB C0.hp bM []:=mM.mono kS
 have mbS0:MpB C0.hp bS []:=mS
 have sz0:C.w0.heap.size=C.w0.heap.size:=rfl
 refine zB 110 (vv ?_)
 refine CallQ.x 120 l0 (NO d.ty d.tys.length) (Hp.le.refl _) (Sub.nil _) ClM.nil (fun _=>Fresh.nil _ _) rfl rfl rfl (fun pv0 E0 H0 e0 k0 j0 p0=>?_)
 refine vv ?_
 obtain⟨pa0,rfl⟩:=uX p0
 have HH0':H.le E0.hp:=HH0.trans k0
 have mbT0':=mbT0.mono k0
 have mbC0':=mbC0.mono k0
 have mbM0':=mbM0.mono k0
 have mbS0':=mbS0.mono k0
 refine xa (M0:=[]) (e0.pins (hP)) [(1,true,.c (.p 1 0)),(3,true,.c (.p 5 0)),(21,true,Fv 198 #[.pointer pa0])] (tC d bT bC bM bS) [(1,100),(2,110),(5,111)] zh (na d bT bC bM bS) (zO rfl) ?_
 refine Sm.range 120 e0 (hlp) rfl func198 rfl SD (by simp[ntmps198]) (fun D0 Dk0 l_0 dB0 rc0 lD0 kD0 sD0 hl0 hdB0 fdB0 nlB0 nfr0 hrg0 hex0 hnor0 hPD0=>?_)
 have hlpD0:D0.lp=none:=by obtain⟨_,_,_,_,_,h,_⟩:=hrg0.ex;rw[h];rfl
 let K0:Hp:=fun b o=>(E0.hp b o/\b≠bT)\/(b=dB0/\o= .deferred (some []))
 have hKl0:∀b o,K0 b o->b≠l_0:=fun b o h=>by
  rcases h with h|h
  ·exact(nfr0 b o h.1).1
  ·rw[h.1];exact Ne.symm nlB0
 have hTl0:bT≠l_0:=(vM mbT0' nfr0).1
 have hTd0:bT≠dB0:=(vM mbT0' nfr0).2
 have hKT0:∀b o,K0 b o->b≠bT:=fun b o h=>by
  rcases h with h|h
  ·exact h.2
  ·rw[h.1];exact Ne.symm hTd0
 have hKD0:K0.le Dk0.hp:=fun b o h=>by
  rcases h with h|h
  ·exact kD0 b o h.1
  ·rw[h.1,h.2];exact hdB0
 refine vv ?_
 refine Sm.bringPS (rows:=(d.tys.map Td.r)) 7 8 58 57 1 ((p0.mono j0).mono kD0) ((hd.ty.mono HH0').mono kD0) rfl rfl yp rfl (zB 130 ?_)
 have hl10:(d.tys.map Td.r).length=d.tys.length:=Kv _
 rw[hl10]
 refine vv ?_
 have w00:IntKind.i64.wrap ((d.tys.length:Int)-1)=(d.tys.length:Int)-1-((0:Nat):Int):=by
  have:=hs.tys.1
  rw[y6 zA zA];omega
 simp only[w00]
 have hsz0:=zQ (r:=Td.r) (k:=11) (fun _=>rfl) d.tys
 refine xH (C:=D0) (Ck:=Dk0) (M0:=tC d bT bC bM bS) (α:={i:Nat//i<=d.tys.length}) lD0 hPD0 (fun i=>[(0,true,.c (.v (.func (.yield l_0) #[] #[]))),(1,true,.c (.p 7 0)),(3,true,I ((d.tys.length:Int)-1-(i.val:Int)))])
  (fun _=>(7,⟨true,[.sl 8 0 d.tys.length 11],58⟩)::(8,⟨true,zC (d.tys.map Td.r),57⟩)::tC d bT bC bM bS) (fun i hp=>K0.le hp/\hp l_0 (.loop (rc0 .ready none))/\MpB hp bT (yd fv (d.tys.drop (d.tys.length-i.val)))) (fun i=>d.tys.length-i.val) ⟨0,zA⟩
  ⟨hKD0,hl0,by rw[Nat.sub_zero,JI];exact mbT0'.mono kD0⟩ (fun _=>zD (by simp only[tC,Kw,iR,z6 (kG _)];rfl)) (fun _=>zO rfl) [(1,1),(2,2),(5,5),(7,7),(8,8)] zh ?_
 rintro⟨i,hi⟩ Cn J lCn ⟨iK,il,iT⟩ hb
 simp only at hb hi iT⊢
 refine zB 140 (vv ?_)
 by_cases hc:i<d.tys.length
 ·have e0:(d.tys.length:Int)-1-(i:Int)=((d.tys.length-1-i:Nat):Int):=zA
  have e1:decide ((0:Int)<=((d.tys.length-1-i:Nat):Int))=true:=yS zA
  have hj:d.tys.length-1-i<d.tys.length:=zA
  have htk:=zW (r:=Td.r) (k:=11) (fun _=>rfl) d.tys (d.tys.length-1-i) hj
  simp only[go_sem,e0,e1,htk,hsz0]
  refine⟨⟨zA,zA⟩,zA,?_⟩
  have hdr:d.tys.drop (d.tys.length-(i+1))=d.tys[d.tys.length-1-i]::d.tys.drop (d.tys.length-i):=by
   rw[show d.tys.length-(i+1)=d.tys.length-1-i by omega,JC hj,show d.tys.length-1-i+1=d.tys.length-i by omega]
  generalize d.tys[d.tys.length-1-i]=x at*
  refine Sm.yield (xs:=[_,_]) hrg0 lCn il hlpD0 rfl rfl rfl rfl rfl rfl (by decide+kernel) (v8 rfl) (fun B Bk J2 lB sB pB kB hcont=>?_)
  refine zB 150 ?_
  simp only[go_sem,tC,uk,List.zip_cons_cons,List.zip_nil_left,Jt]
  refine hcont Bk _ _ (lB) (kB _ _ il) (fun B2 B2k lB2 sB2 pB2 kB2 hlb2 hcont2=>?_)
  refine zB 160 ?_
  simp only[go_sem,tC,uk,List.zip_cons_cons,List.zip_nil_left,Jt]
  refine Sm.dg 170 8 zi ?_
  simp only[go_sem,tC,uk,List.zip_cons_cons,List.zip_nil_left,Jt]
  have mT2:MpB B2k.hp bT (yd fv (d.tys.drop (d.tys.length-i))):=yz (iT.mono kB) kB2 hTl0
  have hK2:K0.le B2k.hp:=fun b o h=>kB2 b o (hKl0 b o h) (kB b o (iK b o h))
  refine vz (u:=Me x.ty) lB2 rfl rfl rfl rfl rfl rfl rfl (fun _=>rfl) mT2 (by rw[sB2,sD0];exact fT) (fun Cu lu ku mu=>?_)
  refine zB 180 (vv ?_)
  refine hcont2 Cu _ _ lu (ku _ _ (Ne.symm hTl0) hlb2) (fun Dm lDm kDm hlDm=>?_)
  refine zB 190 ?_
  have w2:IntKind.i64.wrap (((d.tys.length-1-i:Nat):Int)-1)=(d.tys.length:Int)-1-((i+1:Nat):Int):=by
   have:=hs.tys.1
   rw[y6 zA zA];omega
  simp only[go_sem,w2]
  refine hb _ _ Dm ⟨i+1,hc⟩ [(1,1),(2,2),(5,5),(7,7),(8,8)] lDm ⟨fun b o h=>kDm b o (hKl0 b o h) (ku b o (hKT0 b o h) (hK2 b o h)),hlDm,?_⟩ yL zh
  simp only
  rw[hdr]
  exact yz mu kDm hTl0
 have hc:i=d.tys.length:=zA
 subst hc
 rw[I2,Jb]at iT
 have e10:decide ((0:Int)<=(d.tys.length:Int)-1-(d.tys.length:Int))=false:=yZ zA
 simp only[go_sem,e10]
 refine hnor0 Cn lCn _ _ _ _ (hex0 Cn lCn il _ _ (fun C1 l1 kk0=>?_) ⟨_,_,rfl,trivial⟩)
 have hK0:K0.le C1.hp:=fun b o h=>kk0 b o (hKl0 b o h) (iK b o h)
 have mbT1:MpB C1.hp bT (yd fv d.tys):=yz iT kk0 hTl0
 have HH1:H.le C1.hp:=fun b o h=>hK0 b o (.inl ⟨HH0' b o h,by have:=hHlt b o h;omega⟩)
 have hd0_1:C1.hp dB0 (.deferred (some [])):=hK0 _ _ (.inr ⟨rfl,rfl⟩)
 have mbC1:MpB C1.hp bC []:=by obtain⟨es,ck,q1,q2⟩:=mbC0';exact⟨es,ck,hK0 _ _ (.inl ⟨q1,zA⟩),q2⟩
 have mbM1:MpB C1.hp bM []:=by obtain⟨es,ck,q1,q2⟩:=mbM0';exact⟨es,ck,hK0 _ _ (.inl ⟨q1,zA⟩),q2⟩
 have mbS1:MpB C1.hp bS []:=by obtain⟨es,ck,q1,q2⟩:=mbS0';exact⟨es,ck,hK0 _ _ (.inl ⟨q1,zA⟩),q2⟩
 clear hb iK il iT hi lCn
 refine zB 110 ?_
 simp only[go_sem,tC]
 refine CallQ.x 120 l1 (NQ d.cu d.cus.length) (Hp.le.refl _) (Sub.nil _) ClM.nil (fun _=>Fresh.nil _ _) rfl rfl rfl (fun pv1 E1 H1 e1 k1 j1 p1=>?_)
 refine vv ?_
 obtain⟨pa1,rfl⟩:=uX p1
 have HH1':H.le E1.hp:=HH1.trans k1
 have mbT1':=mbT1.mono k1
 have mbC1':=mbC1.mono k1
 have mbM1':=mbM1.mono k1
 have mbS1':=mbS1.mono k1
 have hd0_1':=k1 _ _ hd0_1
 refine xa (M0:=[]) (e1.pins (hP)) [(1,true,.c (.p 1 0)),(3,true,.c (.p 5 0)),(34,true,Fv 199 #[.pointer pa1])] (tC d bT bC bM bS) [(1,1),(2,2),(5,5)] zh (na d bT bC bM bS) (zO rfl) ?_
 refine Sm.range 120 e1 (hlp) rfl func199 rfl SC (by simp[ntmps199]) (fun D1 Dk1 l_1 dB1 rc1 lD1 kD1 sD1 hl1 hdB1 fdB1 nlB1 nfr1 hrg1 hex1 hnor1 hPD1=>?_)
 have hlpD1:D1.lp=none:=by obtain⟨_,_,_,_,_,h,_⟩:=hrg1.ex;rw[h];rfl
 let K1:Hp:=fun b o=>(E1.hp b o/\b≠bC)\/(b=dB1/\o= .deferred (some []))
 have hKl1:∀b o,K1 b o->b≠l_1:=fun b o h=>by
  rcases h with h|h
  ·exact(nfr1 b o h.1).1
  ·rw[h.1];exact Ne.symm nlB1
 have hTl1:bC≠l_1:=(vM mbC1' nfr1).1
 have hTd1:bC≠dB1:=(vM mbC1' nfr1).2
 have hKT1:∀b o,K1 b o->b≠bC:=fun b o h=>by
  rcases h with h|h
  ·exact h.2
  ·rw[h.1];exact Ne.symm hTd1
 have hKD1:K1.le Dk1.hp:=fun b o h=>by
  rcases h with h|h
  ·exact kD1 b o h.1
  ·rw[h.1,h.2];exact hdB1
 refine vv ?_
 refine Sm.bringPS (rows:=(d.cus.map CuL.r)) 7 8 66 138 1 ((p1.mono j1).mono kD1) ((hd.cu.mono HH1').mono kD1) rfl rfl yp rfl (zB 130 ?_)
 have hl11:(d.cus.map CuL.r).length=d.cus.length:=Kv _
 rw[hl11]
 refine vv ?_
 have w01:IntKind.i64.wrap ((d.cus.length:Int)-1)=(d.cus.length:Int)-1-((0:Nat):Int):=by
  have:=hs.cus.1
  rw[y6 zA zA];omega
 simp only[w01]
 have hsz1:=zQ (r:=CuL.r) (k:=3) (fun _=>rfl) d.cus
 refine xH (C:=D1) (Ck:=Dk1) (M0:=tC d bT bC bM bS) (α:={i:Nat//i<=d.cus.length}) lD1 hPD1 (fun i=>[(0,true,.c (.v (.func (.yield l_1) #[] #[]))),(1,true,.c (.p 7 0)),(3,true,I ((d.cus.length:Int)-1-(i.val:Int)))])
  (fun _=>(7,⟨true,[.sl 8 0 d.cus.length 3],66⟩)::(8,⟨true,zC (d.cus.map CuL.r),138⟩)::tC d bT bC bM bS) (fun i hp=>K1.le hp/\hp l_1 (.loop (rc1 .ready none))/\MpB hp bC (yd cB (d.cus.drop (d.cus.length-i.val)))) (fun i=>d.cus.length-i.val) ⟨0,zA⟩
  ⟨hKD1,hl1,by rw[Nat.sub_zero,JI];exact mbC1'.mono kD1⟩ (fun _=>zD (by simp only[tC,Kw,iR,z6 (kG _)];rfl)) (fun _=>zO rfl) [(1,1),(2,2),(5,5),(7,7),(8,8)] zh ?_
 rintro⟨i,hi⟩ Cn J lCn ⟨iK,il,iT⟩ hb
 simp only at hb hi iT⊢
 refine zB 140 (vv ?_)
 by_cases hc:i<d.cus.length
 ·have e0:(d.cus.length:Int)-1-(i:Int)=((d.cus.length-1-i:Nat):Int):=zA
  have e1:decide ((0:Int)<=((d.cus.length-1-i:Nat):Int))=true:=yS zA
  have hj:d.cus.length-1-i<d.cus.length:=zA
  have htk:=zW (r:=CuL.r) (k:=3) (fun _=>rfl) d.cus (d.cus.length-1-i) hj
  simp only[go_sem,e0,e1,htk,hsz1]
  refine⟨⟨zA,zA⟩,zA,?_⟩
  have hdr:d.cus.drop (d.cus.length-(i+1))=d.cus[d.cus.length-1-i]::d.cus.drop (d.cus.length-i):=by
   rw[show d.cus.length-(i+1)=d.cus.length-1-i by omega,JC hj,show d.cus.length-1-i+1=d.cus.length-i by omega]
  generalize d.cus[d.cus.length-1-i]=x at*
  refine Sm.yield (xs:=[_,_]) hrg1 lCn il hlpD1 rfl rfl rfl rfl rfl rfl (by decide+kernel) (v8 rfl) (fun B Bk J2 lB sB pB kB hcont=>?_)
  refine zB 150 ?_
  simp only[go_sem,tC,uk,List.zip_cons_cons,List.zip_nil_left,Jt]
  refine hcont Bk _ _ (lB) (kB _ _ il) (fun B2 B2k lB2 sB2 pB2 kB2 hlb2 hcont2=>?_)
  refine zB 160 ?_
  simp only[go_sem,tC,uk,List.zip_cons_cons,List.zip_nil_left,Jt]
  refine Sm.dg 170 8 zi ?_
  simp only[go_sem,tC,uk,List.zip_cons_cons,List.zip_nil_left,Jt]
  have mT2:MpB B2k.hp bC (yd cB (d.cus.drop (d.cus.length-i))):=yz (iT.mono kB) kB2 hTl1
  have hK2:K1.le B2k.hp:=fun b o h=>kB2 b o (hKl1 b o h) (kB b o (iK b o h))
  refine vz (u:=(cB x).2) lB2 rfl rfl rfl rfl rfl rfl rfl (fun _=>rfl) mT2 (by rw[sB2,sD1];exact fC) (fun Cu lu ku mu=>?_)
  refine zB 180 (vv ?_)
  refine hcont2 Cu _ _ lu (ku _ _ (Ne.symm hTl1) hlb2) (fun Dm lDm kDm hlDm=>?_)
  refine zB 190 ?_
  have w2:IntKind.i64.wrap (((d.cus.length-1-i:Nat):Int)-1)=(d.cus.length:Int)-1-((i+1:Nat):Int):=by
   have:=hs.cus.1
   rw[y6 zA zA];omega
  simp only[go_sem,w2]
  refine hb _ _ Dm ⟨i+1,hc⟩ [(1,1),(2,2),(5,5),(7,7),(8,8)] lDm ⟨fun b o h=>kDm b o (hKl1 b o h) (ku b o (hKT1 b o h) (hK2 b o h)),hlDm,?_⟩ yL zh
  simp only
  rw[hdr]
  exact yz mu kDm hTl1
 have hc:i=d.cus.length:=zA
 subst hc
 rw[I2,Jb]at iT
 have e11:decide ((0:Int)<=(d.cus.length:Int)-1-(d.cus.length:Int))=false:=yZ zA
 simp only[go_sem,e11]
 refine hnor1 Cn lCn _ _ _ _ (hex1 Cn lCn il _ _ (fun C2 l2 kk1=>?_) ⟨_,_,rfl,trivial⟩)
 have hK1:K1.le C2.hp:=fun b o h=>kk1 b o (hKl1 b o h) (iK b o h)
 have mbC2:MpB C2.hp bC (yd cB d.cus):=yz iT kk1 hTl1
 have HH2:H.le C2.hp:=fun b o h=>hK1 b o (.inl ⟨HH1' b o h,by have:=hHlt b o h;omega⟩)
 have hd1_2:C2.hp dB1 (.deferred (some [])):=hK1 _ _ (.inr ⟨rfl,rfl⟩)
 have mbT2:MpB C2.hp bT (yd fv d.tys):=by obtain⟨es,ck,q1,q2⟩:=mbT1';exact⟨es,ck,hK1 _ _ (.inl ⟨q1,zA⟩),q2⟩
 have mbM2:MpB C2.hp bM []:=by obtain⟨es,ck,q1,q2⟩:=mbM1';exact⟨es,ck,hK1 _ _ (.inl ⟨q1,zA⟩),q2⟩
 have mbS2:MpB C2.hp bS []:=by obtain⟨es,ck,q1,q2⟩:=mbS1';exact⟨es,ck,hK1 _ _ (.inl ⟨q1,zA⟩),q2⟩
 have nd0_1:dB0≠dB1:=(nfr1 _ _ hd0_1').2
 have hd0_2:C2.hp dB0 (.deferred (some [])):=hK1 _ _ (.inl ⟨hd0_1',fun hh=>by obtain⟨es,ck,q1,q2⟩:=mbC1';rw[<-hh]at q1;have:=t9 q1 hd0_1';cases this⟩)
 clear hb iK il iT hi lCn
 refine zB 110 ?_
 simp only[go_sem,tC]
 refine CallQ.x 120 l2 (NP d.ma d.mas.length) (Hp.le.refl _) (Sub.nil _) ClM.nil (fun _=>Fresh.nil _ _) rfl rfl rfl (fun pv2 E2 H2 e2 k2 j2 p2=>?_)
 refine vv ?_
 obtain⟨pa2,rfl⟩:=uX p2
 have HH2':H.le E2.hp:=HH2.trans k2
 have mbT2':=mbT2.mono k2
 have mbC2':=mbC2.mono k2
 have mbM2':=mbM2.mono k2
 have mbS2':=mbS2.mono k2
 have hd0_2':=k2 _ _ hd0_2
 have hd1_2':=k2 _ _ hd1_2
 refine xa (M0:=[]) (e2.pins (hP)) [(1,true,.c (.p 1 0)),(3,true,.c (.p 5 0)),(47,true,Fv 200 #[.pointer pa2])] (tC d bT bC bM bS) [(1,1),(2,2),(5,5)] zh (na d bT bC bM bS) (zO rfl) ?_
 refine Sm.range 120 e2 (hlp) rfl func200 rfl SB (by simp[ntmps200]) (fun D2 Dk2 l_2 dB2 rc2 lD2 kD2 sD2 hl2 hdB2 fdB2 nlB2 nfr2 hrg2 hex2 hnor2 hPD2=>?_)
 have hlpD2:D2.lp=none:=by obtain⟨_,_,_,_,_,h,_⟩:=hrg2.ex;rw[h];rfl
 let K2:Hp:=fun b o=>(E2.hp b o/\b≠bM)\/(b=dB2/\o= .deferred (some []))
 have hKl2:∀b o,K2 b o->b≠l_2:=fun b o h=>by
  rcases h with h|h
  ·exact(nfr2 b o h.1).1
  ·rw[h.1];exact Ne.symm nlB2
 have hTl2:bM≠l_2:=(vM mbM2' nfr2).1
 have hTd2:bM≠dB2:=(vM mbM2' nfr2).2
 have hKT2:∀b o,K2 b o->b≠bM:=fun b o h=>by
  rcases h with h|h
  ·exact h.2
  ·rw[h.1];exact Ne.symm hTd2
 have hKD2:K2.le Dk2.hp:=fun b o h=>by
  rcases h with h|h
  ·exact kD2 b o h.1
  ·rw[h.1,h.2];exact hdB2
 refine vv ?_
 refine Sm.bringPS (rows:=(d.mas.map MpL.r)) 7 8 67 140 1 ((p2.mono j2).mono kD2) ((hd.ma.mono HH2').mono kD2) rfl rfl yp rfl (zB 130 ?_)
 have hl12:(d.mas.map MpL.r).length=d.mas.length:=Kv _
 rw[hl12]
 refine vv ?_
 have w02:IntKind.i64.wrap ((d.mas.length:Int)-1)=(d.mas.length:Int)-1-((0:Nat):Int):=by
  have:=hs.mas.1
  rw[y6 zA zA];omega
 simp only[w02]
 have hsz2:=zQ (r:=MpL.r) (k:=4) (fun _=>rfl) d.mas
 refine xH (C:=D2) (Ck:=Dk2) (M0:=tC d bT bC bM bS) (α:={i:Nat//i<=d.mas.length}) lD2 hPD2 (fun i=>[(0,true,.c (.v (.func (.yield l_2) #[] #[]))),(1,true,.c (.p 7 0)),(3,true,I ((d.mas.length:Int)-1-(i.val:Int)))])
  (fun _=>(7,⟨true,[.sl 8 0 d.mas.length 4],67⟩)::(8,⟨true,zC (d.mas.map MpL.r),140⟩)::tC d bT bC bM bS) (fun i hp=>K2.le hp/\hp l_2 (.loop (rc2 .ready none))/\MpB hp bM (yd ct (d.mas.drop (d.mas.length-i.val)))) (fun i=>d.mas.length-i.val) ⟨0,zA⟩
  ⟨hKD2,hl2,by rw[Nat.sub_zero,JI];exact mbM2'.mono kD2⟩ (fun _=>zD (by simp only[tC,Kw,iR,z6 (kG _)];rfl)) (fun _=>zO rfl) [(1,1),(2,2),(5,5),(7,7),(8,8)] zh ?_
 rintro⟨i,hi⟩ Cn J lCn ⟨iK,il,iT⟩ hb
 simp only at hb hi iT⊢
 refine zB 140 (vv ?_)
 by_cases hc:i<d.mas.length
 ·have e0:(d.mas.length:Int)-1-(i:Int)=((d.mas.length-1-i:Nat):Int):=zA
  have e1:decide ((0:Int)<=((d.mas.length-1-i:Nat):Int))=true:=yS zA
  have hj:d.mas.length-1-i<d.mas.length:=zA
  have htk:=zW (r:=MpL.r) (k:=4) (fun _=>rfl) d.mas (d.mas.length-1-i) hj
  simp only[go_sem,e0,e1,htk,hsz2]
  refine⟨⟨zA,zA⟩,zA,?_⟩
  have hdr:d.mas.drop (d.mas.length-(i+1))=d.mas[d.mas.length-1-i]::d.mas.drop (d.mas.length-i):=by
   rw[show d.mas.length-(i+1)=d.mas.length-1-i by omega,JC hj,show d.mas.length-1-i+1=d.mas.length-i by omega]
  generalize d.mas[d.mas.length-1-i]=x at*
  refine Sm.yield (xs:=[_,_]) hrg2 lCn il hlpD2 rfl rfl rfl rfl rfl rfl (by decide+kernel) (v8 rfl) (fun B Bk J2 lB sB pB kB hcont=>?_)
  refine zB 150 ?_
  simp only[go_sem,tC,uk,List.zip_cons_cons,List.zip_nil_left,Jt]
  refine hcont Bk _ _ (lB) (kB _ _ il) (fun B2 B2k lB2 sB2 pB2 kB2 hlb2 hcont2=>?_)
  refine zB 160 ?_
  simp only[go_sem,tC,uk,List.zip_cons_cons,List.zip_nil_left,Jt]
  refine Sm.dg 170 8 zi ?_
  simp only[go_sem,tC,uk,List.zip_cons_cons,List.zip_nil_left,Jt]
  have mT2:MpB B2k.hp bM (yd ct (d.mas.drop (d.mas.length-i))):=yz (iT.mono kB) kB2 hTl2
  have hK2:K2.le B2k.hp:=fun b o h=>kB2 b o (hKl2 b o h) (kB b o (iK b o h))
  refine vz (u:=(ct x).2) lB2 rfl rfl rfl rfl rfl rfl rfl (fun _=>rfl) mT2 (by rw[sB2,sD2];exact fM) (fun Cu lu ku mu=>?_)
  refine zB 180 (vv ?_)
  refine hcont2 Cu _ _ lu (ku _ _ (Ne.symm hTl2) hlb2) (fun Dm lDm kDm hlDm=>?_)
  refine zB 190 ?_
  have w2:IntKind.i64.wrap (((d.mas.length-1-i:Nat):Int)-1)=(d.mas.length:Int)-1-((i+1:Nat):Int):=by
   have:=hs.mas.1
   rw[y6 zA zA];omega
  simp only[go_sem,w2]
  refine hb _ _ Dm ⟨i+1,hc⟩ [(1,1),(2,2),(5,5),(7,7),(8,8)] lDm ⟨fun b o h=>kDm b o (hKl2 b o h) (ku b o (hKT2 b o h) (hK2 b o h)),hlDm,?_⟩ yL zh
  simp only
  rw[hdr]
  exact yz mu kDm hTl2
 have hc:i=d.mas.length:=zA
 subst hc
 rw[I2,Jb]at iT
 have e12:decide ((0:Int)<=(d.mas.length:Int)-1-(d.mas.length:Int))=false:=yZ zA
 simp only[go_sem,e12]
 refine hnor2 Cn lCn _ _ _ _ (hex2 Cn lCn il _ _ (fun C3 l3 kk2=>?_) ⟨_,_,rfl,trivial⟩)
 have hK2:K2.le C3.hp:=fun b o h=>kk2 b o (hKl2 b o h) (iK b o h)
 have mbM3:MpB C3.hp bM (yd ct d.mas):=yz iT kk2 hTl2
 have HH3:H.le C3.hp:=fun b o h=>hK2 b o (.inl ⟨HH2' b o h,by have:=hHlt b o h;omega⟩)
 have hd2_3:C3.hp dB2 (.deferred (some [])):=hK2 _ _ (.inr ⟨rfl,rfl⟩)
 have mbT3:MpB C3.hp bT (yd fv d.tys):=by obtain⟨es,ck,q1,q2⟩:=mbT2';exact⟨es,ck,hK2 _ _ (.inl ⟨q1,zA⟩),q2⟩
 have mbC3:MpB C3.hp bC (yd cB d.cus):=by obtain⟨es,ck,q1,q2⟩:=mbC2';exact⟨es,ck,hK2 _ _ (.inl ⟨q1,zA⟩),q2⟩
 have mbS3:MpB C3.hp bS []:=by obtain⟨es,ck,q1,q2⟩:=mbS2';exact⟨es,ck,hK2 _ _ (.inl ⟨q1,zA⟩),q2⟩
 have nd0_2:dB0≠dB2:=(nfr2 _ _ hd0_2').2
 have hd0_3:C3.hp dB0 (.deferred (some [])):=hK2 _ _ (.inl ⟨hd0_2',fun hh=>by obtain⟨es,ck,q1,q2⟩:=mbM2';rw[<-hh]at q1;have:=t9 q1 hd0_2';cases this⟩)
 have nd1_2:dB1≠dB2:=(nfr2 _ _ hd1_2').2
 have hd1_3:C3.hp dB1 (.deferred (some [])):=hK2 _ _ (.inl ⟨hd1_2',fun hh=>by obtain⟨es,ck,q1,q2⟩:=mbM2';rw[<-hh]at q1;have:=t9 q1 hd1_2';cases this⟩)
 clear hb iK il iT hi lCn
 refine zB 110 ?_
 simp only[go_sem,tC]
 refine CallQ.hr [(1,2),(4,130)] 131 (XN d (hd.mono HH3) [Value.map (some bT),Value.map (some bC),Value.map (some bM),Value.map (some bS)] h1 h2) (Hp.le.refl _) (zD (by simp only[Kw,z6 (kG _)];rfl)) rfl rfl ⟨⟨_,rfl,.inr ⟨rfl,[],rfl⟩⟩,trivial⟩ rfl (.inl rfl) ?_
 simp only[Mem.ren,Ky,Kz,yD (y8 _),V.ren,Cv.ren,rn,Nat.reduceBEq,cond_true,cond_false]
 simp only[go_sem,tC]
 refine CallQ.letgo (xs:=[_]) (M0:=[]) [130] l3 (hP) rfl (by unfold yC;simp only[Kw,yF (y8 _),yF (zJ _)];rfl) rfl YR rfl rfl (fun β S3 Nx sk3 sn3=>?_)
 have hsN:SlH S3.hp (y7 β (.sl 130 0 (zU d.c).length 1)) 1 (yH (zU d.c)):=by
  have hk:=sn3 130 _ rfl rfl rfl
  have h5:(yH (zU d.c)).length=(zU d.c).length:=by simp[yH]
  have h6:=hk.sl (sz:=1) (rows:=yH (zU d.c)) (fun r hr=>by obtain⟨x,_,rfl⟩:=JL.1 hr;rfl) (by rw[<-m8];rfl)
  rw[h5]at h6;exact h6
 obtain⟨sN,hsv⟩:∃sN:Sv,y7 β (.sl 130 0 (zU d.c).length 1)=vsl sN (zU d.c).length:=by
  unfold y7
  simp only[Cv.g]
  split
  ·rename_i hh;rw[hh.2];unfold Loc.emp;split<;>first|exact⟨⟨none,0⟩,rfl⟩|exact⟨⟨some _,_⟩,rfl⟩
  ·exact⟨⟨_,_⟩,rfl⟩
 rw[hsv]at hsN
 have hxs:List.map (V.conc [130] β) [V.c (Cv.sl 130 0 (zU d.c).length 1)]=[.c (.v (vsl sN (zU d.c).length))]:=by
  rw[<-hsv];rfl
 rw[hxs]
 refine CallW.x 140 Nx (KT sN (zU d.c).length) (Hp.le.refl _) (Sub.nil _) ClM.nil (fun _=>Fresh.nil _ _) rfl (fun pv3 E3 H3 e3 k3' j3 p3=>?_)
 have k3:C3.hp.le E3.hp:=sk3.trans k3'
 simp only[go_sem,tC]
 obtain⟨pa3,rfl⟩:=uX p3
 have HH3':H.le E3.hp:=HH3.trans k3
 have mbT3':=mbT3.mono k3
 have mbC3':=mbC3.mono k3
 have mbM3':=mbM3.mono k3
 have mbS3':=mbS3.mono k3
 have hd0_3':=k3 _ _ hd0_3
 have hd1_3':=k3 _ _ hd1_3
 have hd2_3':=k3 _ _ hd2_3
 refine xa (M0:=[]) (e3.pins (hP)) [(1,true,.c (.p 1 0)),(3,true,.c (.p 5 0)),(60,true,Fv 201 #[.pointer pa3])] (tC d bT bC bM bS) [(1,1),(2,2),(5,5)] zh (na d bT bC bM bS) (zO rfl) ?_
 refine Sm.range 120 e3 (hlp) rfl func201 rfl SA (by simp[ntmps201]) (fun D3 Dk3 l_3 dB3 rc3 lD3 kD3 sD3 hl3 hdB3 fdB3 nlB3 nfr3 hrg3 hex3 hnor3 hPD3=>?_)
 have hlpD3:D3.lp=none:=by obtain⟨_,_,_,_,_,h,_⟩:=hrg3.ex;rw[h];rfl
 let K3:Hp:=fun b o=>(E3.hp b o/\b≠bS)\/(b=dB3/\o= .deferred (some []))
 have hKl3:∀b o,K3 b o->b≠l_3:=fun b o h=>by
  rcases h with h|h
  ·exact(nfr3 b o h.1).1
  ·rw[h.1];exact Ne.symm nlB3
 have hTl3:bS≠l_3:=(vM mbS3' nfr3).1
 have hTd3:bS≠dB3:=(vM mbS3' nfr3).2
 have hKT3:∀b o,K3 b o->b≠bS:=fun b o h=>by
  rcases h with h|h
  ·exact h.2
  ·rw[h.1];exact Ne.symm hTd3
 have hKD3:K3.le Dk3.hp:=fun b o h=>by
  rcases h with h|h
  ·exact kD3 b o h.1
  ·rw[h.1,h.2];exact hdB3
 refine vv ?_
 refine Sm.bringPS (rows:=(yH (zU d.c))) 7 8 62 9 1 ((p3.mono j3).mono kD3) ((hsN.mono k3').mono kD3) rfl rfl yp rfl (zB 130 ?_)
 have hl13:(yH (zU d.c)).length=(zU d.c).length:=Kv _
 rw[hl13]
 refine vv ?_
 have w03:IntKind.i64.wrap (((zU d.c).length:Int)-1)=((zU d.c).length:Int)-1-((0:Nat):Int):=by
  have:=hlenS
  rw[y6 zA zA];omega
 simp only[w03]
 refine xH (C:=D3) (Ck:=Dk3) (M0:=tC d bT bC bM bS) (α:={i:Nat//i<=(zU d.c).length}) lD3 hPD3 (fun i=>[(0,true,.c (.v (.func (.yield l_3) #[] #[]))),(1,true,.c (.p 7 0)),(3,true,I (((zU d.c).length:Int)-1-(i.val:Int)))])
  (fun _=>(7,⟨true,[.sl 8 0 (zU d.c).length 1],62⟩)::(8,⟨true,zC (yH (zU d.c)),9⟩)::tC d bT bC bM bS) (fun i hp=>K3.le hp/\hp l_3 (.loop (rc3 .ready none))/\MpB hp bS (tX ((zU d.c).drop ((zU d.c).length-i.val)) ((zU d.c).length-i.val))) (fun i=>(zU d.c).length-i.val) ⟨0,zA⟩
  ⟨hKD3,hl3,by rw[Nat.sub_zero,JI];exact mbS3'.mono kD3⟩ (fun _=>zD (by simp only[tC,Kw,iR,z6 (kG _)];rfl)) (fun _=>zO rfl) [(1,1),(2,2),(5,5),(7,7),(8,8)] zh ?_
 rintro⟨i,hi⟩ Cn J lCn ⟨iK,il,iT⟩ hb
 simp only at hb hi iT⊢
 refine zB 140 (vv ?_)
 by_cases hc:i<(zU d.c).length
 ·have e0:((zU d.c).length:Int)-1-(i:Int)=(((zU d.c).length-1-i:Nat):Int):=zA
  have e1:decide ((0:Int)<=(((zU d.c).length-1-i:Nat):Int))=true:=yS zA
  have hj:(zU d.c).length-1-i<(zU d.c).length:=zA
  have htk:(zC (yH (zU d.c)))[(zU d.c).length-1-i]?=some (sC (zU d.c)[(zU d.c).length-1-i]):=by rw[m8];exact vV hj
  simp only[go_sem,e0,e1,htk]
  refine⟨⟨zA,zA⟩,?_⟩
  have hdr:(zU d.c).drop ((zU d.c).length-(i+1))=(zU d.c)[(zU d.c).length-1-i]::(zU d.c).drop ((zU d.c).length-i):=by
   rw[show(zU d.c).length-(i+1)=(zU d.c).length-1-i by omega,JC hj,show(zU d.c).length-1-i+1=(zU d.c).length-i by omega]
  generalize (zU d.c)[(zU d.c).length-1-i]=x at*
  refine Sm.yield (xs:=[_,_]) hrg3 lCn il hlpD3 rfl rfl rfl rfl rfl rfl (by decide+kernel) (v8 rfl) (fun B Bk J2 lB sB pB kB hcont=>?_)
  refine zB 150 ?_
  simp only[go_sem,tC,uk,List.zip_cons_cons,List.zip_nil_left,Jt]
  refine hcont Bk _ _ (lB) (kB _ _ il) (fun B2 B2k lB2 sB2 pB2 kB2 hlb2 hcont2=>?_)
  refine zB 160 ?_
  simp only[go_sem,tC,uk,List.zip_cons_cons,List.zip_nil_left,Jt]
  have mT2:MpB B2k.hp bS (tX ((zU d.c).drop ((zU d.c).length-i)) ((zU d.c).length-i)):=yz (iT.mono kB) kB2 hTl3
  have hK2:K3.le B2k.hp:=fun b o h=>kB2 b o (hKl3 b o h) (kB b o (iK b o h))
  refine vz (u:=iv (((zU d.c).length-1-i:Nat):Int)) lB2 rfl rfl rfl rfl rfl rfl rfl (fun _=>rfl) mT2 (by rw[sB2,sD3];exact fS) (fun Cu lu ku mu=>?_)
  refine zB 180 (vv ?_)
  refine hcont2 Cu _ _ lu (ku _ _ (Ne.symm hTl3) hlb2) (fun Dm lDm kDm hlDm=>?_)
  refine zB 190 ?_
  have w2:IntKind.i64.wrap ((((zU d.c).length-1-i:Nat):Int)-1)=((zU d.c).length:Int)-1-((i+1:Nat):Int):=by
   have:=hlenS
   rw[y6 zA zA];omega
  simp only[go_sem,w2]
  refine hb _ _ Dm ⟨i+1,hc⟩ [(1,1),(2,2),(5,5),(7,7),(8,8)] lDm ⟨fun b o h=>kDm b o (hKl3 b o h) (ku b o (hKT3 b o h) (hK2 b o h)),hlDm,?_⟩ yL zh
  simp only
  rw[hdr,show(zU d.c).length-(i+1)=(zU d.c).length-1-i by omega,tX,show(zU d.c).length-1-i+1=(zU d.c).length-i by omega]
  exact yz mu kDm hTl3
 have hc:i=(zU d.c).length:=zA
 subst hc
 rw[I2,Jb]at iT
 have e13:decide ((0:Int)<=((zU d.c).length:Int)-1-((zU d.c).length:Int))=false:=yZ zA
 simp only[go_sem,e13]
 refine hnor3 Cn lCn _ _ _ _ (hex3 Cn lCn il _ _ (fun C4 l4 kk3=>?_) ⟨_,_,rfl,trivial⟩)
 have hK3:K3.le C4.hp:=fun b o h=>kk3 b o (hKl3 b o h) (iK b o h)
 have mbS4:MpB C4.hp bS (tX (zU d.c) 0):=yz iT kk3 hTl3
 have HH4:H.le C4.hp:=fun b o h=>hK3 b o (.inl ⟨HH3' b o h,by have:=hHlt b o h;omega⟩)
 have hd3_4:C4.hp dB3 (.deferred (some [])):=hK3 _ _ (.inr ⟨rfl,rfl⟩)
 have mbT4:MpB C4.hp bT (yd fv d.tys):=by obtain⟨es,ck,q1,q2⟩:=mbT3';exact⟨es,ck,hK3 _ _ (.inl ⟨q1,zA⟩),q2⟩
 have mbC4:MpB C4.hp bC (yd cB d.cus):=by obtain⟨es,ck,q1,q2⟩:=mbC3';exact⟨es,ck,hK3 _ _ (.inl ⟨q1,zA⟩),q2⟩
 have mbM4:MpB C4.hp bM (yd ct d.mas):=by obtain⟨es,ck,q1,q2⟩:=mbM3';exact⟨es,ck,hK3 _ _ (.inl ⟨q1,zA⟩),q2⟩
 have nd0_3:dB0≠dB3:=(nfr3 _ _ hd0_3').2
 have hd0_4:C4.hp dB0 (.deferred (some [])):=hK3 _ _ (.inl ⟨hd0_3',fun hh=>by obtain⟨es,ck,q1,q2⟩:=mbS3';rw[<-hh]at q1;have:=t9 q1 hd0_3';cases this⟩)
 have nd1_3:dB1≠dB3:=(nfr3 _ _ hd1_3').2
 have hd1_4:C4.hp dB1 (.deferred (some [])):=hK3 _ _ (.inl ⟨hd1_3',fun hh=>by obtain⟨es,ck,q1,q2⟩:=mbS3';rw[<-hh]at q1;have:=t9 q1 hd1_3';cases this⟩)
 have nd2_3:dB2≠dB3:=(nfr3 _ _ hd2_3').2
 have hd2_4:C4.hp dB2 (.deferred (some [])):=hK3 _ _ (.inl ⟨hd2_3',fun hh=>by obtain⟨es,ck,q1,q2⟩:=mbS3';rw[<-hh]at q1;have:=t9 q1 hd2_3';cases this⟩)
 clear hb iK il iT hi lCn
 refine zB 110 ?_
 simp only[go_sem,tC]
 refine RetQ.letgo (M0:=[]) [1,2,5,7,8] l4 (hP) rfl (by unfold yC;simp only[Kw,yF (y8 _),yF (zJ _)];rfl) (fun β Cf lf kf sn=>?_)
 have hpt:=(sn 2 _ rfl rfl rfl).pt z9
 have hcm:Cf.hp.cm.le (Cf.hp.wo [dB3,dB2,dB1,dB0]):=fun b o h=>⟨h.1,fun hm=>by
  have hdf:∃x,Cf.hp b (.deferred x):=by
   simp only[J3,IS,or_false]at hm
   rcases hm with rfl|rfl|rfl|rfl
   ·exact⟨_,kf _ _ hd3_4⟩
   ·exact⟨_,kf _ _ hd2_4⟩
   ·exact⟨_,kf _ _ hd1_4⟩
   ·exact⟨_,kf _ _ hd0_4⟩
  obtain⟨x,hx⟩:=hdf
  have:=t9 h.1 hx
  have h2:=h.2
  rw[this]at h2
  exact h2⟩
 have hmark:∀dB∈[dB3,dB2,dB1,dB0],Cf.hp dB (.deferred (some []))/\C.w0.heap.size<=dB:=fun dB hm=>by
  simp only[J3,IS,or_false]at hm
  rcases hm with rfl|rfl|rfl|rfl
  ·exact⟨kf _ _ hd3_4,fdB3⟩
  ·exact⟨kf _ _ hd2_4,fdB2⟩
  ·exact⟨kf _ _ hd1_4,fdB1⟩
  ·exact⟨kf _ _ hd0_4,fdB0⟩
 refine zN (hR [dB3,dB2,dB1,dB0] (xl β 2 0,bT,bC,bM,bS) Cf lf (by simp only[I9,J3,IS,or_false,not_or,List.nodup_nil,not_false_eq_true,and_true];exact⟨⟨Ne.symm nd2_3,Ne.symm nd1_3,Ne.symm nd0_3⟩,⟨Ne.symm nd1_2,Ne.symm nd0_2⟩,Ne.symm nd0_1⟩) hmark
  ⟨(PtH.cm hpt).mono hcm,(MpB.cm (mbT4.mono kf)).mono hcm,(MpB.cm (mbC4.mono kf)).mono hcm,(MpB.cm (mbM4.mono kf)).mono hcm,(MpB.cm (mbS4.mono kf)).mono hcm⟩) rfl ⟨rfl,trivial⟩ rfl (Sub.nil _) ClM.nil (zG rfl)
end Go.Proofs.YtbnkiacicnnmkaaGreat.Fx
