/-  -/
import Derived.Test.YtkciabfilokfiaaGreatPS
import Derived.Test.YtkciabfilokfiaaGreatRA
import Derived.Test.YtkciabfilokfiaaGreatQS
namespace Go.Proofs.YtkciabfilokfiaaGreat.Fx
open Vg Tf
set_option linter.unusedSimpArgs false
set_option linter.unusedVariables false
set_option maxRecDepth 100000
set_option maxHeartbeats 4000000
theorem _root_.Go.Proofs.YtkciabfilokfiaaGreat.Vg.Rel.eqc {S:Bs}{w0 w:World}{β:Vl}{M:Mem}(h:Rel S w0 β M w){n:Nat}{b:Bk}{cs:List Cv}(hb:M.get n=some b)(hg:∀β',Agree M β β'→cs.map (Cv.g β')=b.cells.map (Cv.g β')):Rel S w0 β ((n,⟨b.ro,cs,b.elem⟩)::M) w:=by
 have hl:cs.length=b.cells.length:=by have:=congrArg List.length (hg β (Agree.refl _ _));simpa using this
 have hs:∀k,(Mem.get ((n,⟨b.ro,cs,b.elem⟩)::M) k).isSome=(M.get k).isSome:=fun k=>by
  rw[Mem.get_cons]
  split
  ·rename_i hk;subst hk;rw[hb];rfl
  ·rfl
 have hq:∀k c,Mem.get ((n,⟨b.ro,cs,b.elem⟩)::M) k=some c→∃c0,M.get k=some c0∧c.ro=c0.ro∧c.elem=c0.elem∧c.cells.length=c0.cells.length∧∀β',Agree M β β'→c.cells.map (Cv.g β')=c0.cells.map (Cv.g β'):=fun k c hc=>by
  rw[Mem.get_cons]at hc
  split at hc
  ·rename_i hk;subst hk;cases hc;exact⟨b,hb,rfl,rfl,hl,hg⟩
  ·exact⟨c,hc,rfl,rfl,rfl,fun _ _=>rfl⟩
 refine⟨h.fr,⟨fun β' hag k c hc=>?_,fun k c hc hu=>?_,fun k m c c' hc hc' hne hr hv hu1 hu2=>?_⟩,fun k c hc hr hu hS=>?_,fun k l hk=>?_⟩
 ·obtain⟨c0,q1,q2,q3,q4,q5⟩:=hq k c hc
  have hag':Agree M β β':=fun j hj=>hag j (by rw[hs];exact hj)
  have h0:=h.mem.ok β' hag' k c0 q1
  unfold BkOk at h0⊢
  rw[q2,q3,q5 β' hag',q4]
  split at h0
  ·rename_i hh
   rw[if_pos hh]
   exact⟨List.length_eq_zero_iff.1 (by rw[q4,h0.1];rfl),h0.2⟩
  ·rename_i hh
   rw[if_neg hh];exact h0
 ·obtain⟨c0,q1,_⟩:=hq k c hc
  exact h.mem.there k c0 q1 hu
 ·obtain⟨c0,q1,q2,q3,q4,q5⟩:=hq k c hc
  obtain⟨d0,r1,r2,r3,r4,r5⟩:=hq m c' hc'
  refine h.mem.apart k m c0 d0 q1 r1 hne (by rw[←q2];exact hr) ?_ hu1 hu2
  rcases hv with hv|hv
  ·exact .inl (by rw[←r2];exact hv)
  ·exact .inr fun he=>hv (List.length_eq_zero_iff.1 (by rw[r4,he];rfl))
 ·obtain⟨c0,q1,q2,_⟩:=hq k c hc
  exact h.own k c0 q1 (by rw[←q2];exact hr) hu hS
 ·have:=h.pin k l hk
  exact⟨by rw[hs];exact this.1,this.2⟩
theorem _root_.Go.Proofs.YtkciabfilokfiaaGreat.Vg.Sm.nilAt {P:Program}{nt:Nat}{C:Cx}{todo:List It}{e:Env}{M:Mem}(nm esz:Nat)(el:TypeId)(n i:Nat){b:Bk}(hn:M.get nm=none)(hb:M.get n=some b)(hi:b.cells[i]?=some (.v (.slice none 0 0)))
  (h:Sm P nt C todo e ((n,⟨b.ro,b.cells.set i (.sl nm 0 0 esz),b.elem⟩)::(nm,⟨false,[],el⟩)::M)):Sm P nt C todo e M:=fun β a w h1 h2 h3 h4=>by
 have r0:=h1.nil nm hn el
 have hne:¬n=nm:=fun hh=>by subst hh;rw[hn]at hb;cases hb
 have hbm:Mem.get ((nm,(⟨false,[],el⟩:Bk))::M) n=some b:=by rw[Mem.get_cons,if_neg hne];exact hb
 have r:=r0.eqc (cs:=b.cells.set i (.sl nm 0 0 esz)) hbm (fun β' hag=>by
  have hnu:=hag nm (by rw[Mem.get_cons,if_pos rfl];rfl)
  have e1:(Cv.sl nm 0 0 esz).g β'= .slice none 0 0:=by simp[Cv.g,hnu,Loc.emp]
  rw[List.map_set,e1]
  refine List.ext_getElem? fun k=>?_
  rw[List.getElem?_set]
  split
  ·rename_i hk
   subst hk
   have hlt:=(List.getElem?_eq_some_iff.1 hi).1
   rw[if_pos (by simpa using hlt),List.getElem?_map,hi];rfl
  ·rfl)
 refine h _ a w r ((h2.nil (b:=⟨false,[],el⟩) hn).on fun k hk=>?_) h3 h4
 refine⟨?_,rfl⟩
 rw[Mem.get_cons]
 split
 ·rfl
 ·exact hk
@[go_sem ↓] theorem plS_1_13:plS 1 13=[(0,13)]:=rfl
structure Sg where
 nm:Str
 ty:Ft
 r:Int×Int
def Sg.w (s:Sg):List Value:=sv s.nm::(ftR s.ty++[iv s.r.1,iv s.r.2])
def dg0:Dg:=⟨[],[],[],[],[],[],[]⟩
def dgL0:DgL:=⟨[],[],[],[],[],[],[],⟨none,0⟩,⟨none,0⟩,⟨none,0⟩,⟨none,0⟩,⟨none,0⟩,⟨none,0⟩⟩
theorem dgL0_ok (H:Hp):dgL0.ok H:=⟨SlH.nil _,SlH.nil _,SlH.nil _,SlH.nil _,SlH.nil _,SlH.nil _,by simp[dgL0],by simp[dgL0],by simp[dgL0]⟩
structure CkR where
 d:Dg
 sg:List Sg
 od:List Nat
def ck0:CkR:=⟨dg0,[],[]⟩
def sgF (d:Dg)(rf:List (Int×Int))(i:Nat):Sg:=⟨(sigs d).getD i [],tyAt d i,rf.getD i (0,0)⟩
def sgsR (d:Dg)(rf:List (Int×Int))(n:Nat):List Sg:=(List.range n).map (sgF d rf)
def chkQ (d:Dg)(T:Bl→List (Int×Int)→Int×Int):CkR×Str×Int:=
 bif !dgOk d then(ck0,[],1)else match allE d with
 |some e=>(ck0,e.1,e.2)
 |none=>match lopN d with
  |some s=>(ck0,s,13)
  |none=>match rngR d T (ordR (befB d) d.bls.length) (d.bls.length+8) 1 (r0 d) (s0 d)with
   |none=>(ck0,[],0)
   |some (_,some e)=>(ck0,e.1,e.2)
   |some (rf,none)=>(⟨d,sgsR d rf (d.ins.length+d.bls.length),ordR (befB d) d.bls.length⟩,[],0)
structure CkL where
 d:DgL
 sg:List Sg
 od:List Nat
 s:Sv
 o:Sv
def CkL.r (c:CkL):List Value:=c.d.r++[vsl c.s c.sg.length,vsl c.o c.od.length]
def CkL.c (c:CkL):CkR:=⟨c.d.c,c.sg,c.od⟩
structure CkL.ok (H:Hp) (c:CkL):Prop where
 d:c.d.ok H
 s:SlH H (vsl c.s c.sg.length) 13 (c.sg.map Sg.w)
 o:SlH H (vsl c.o c.od.length) 1 (c.od.map fun n:Nat=>[iv n])
def ckL0:CkL:=⟨dgL0,[],[],⟨none,0⟩,⟨none,0⟩⟩
theorem ckL0_ok (H:Hp):ckL0.ok H:=⟨dgL0_ok H,SlH.nil _,SlH.nil _⟩
def TabOk (H:Hp)(d:DgL)(T:Bl→List (Int×Int)→Int×Int):Prop:=∀(H':Hp) cp bT bC bM bS,H.le H'→Ck H' cp d bT bC bM bS→∀b∈d.bls,tabK b.c.kd=true→blOk b.c=true→∀rs:List (Int×Int),rs.length=b.c.ins.length→CallX H' Tryz.prog 214 [.c (.v cp),rowV b.r,.c (.sl 1 0 rs.length 2)] [(1,⟨true,rowsC (rs.map rgR),45⟩)] (fun _:Unit=>rA (T b.c rs)) (fun _=>[]) (fun _ _=>True)
theorem argQ_in {l ins:List Str}(h:argQ l ins=none):∀s∈ins,sgB l s=true:=fun s hs=>by
 unfold argQ at h
 rw[List.find?_eq_none]at h
 simpa using h s hs
theorem rngR_err {d:Dg}{T:Bl→List (Int×Int)→Int×Int}{od:List Nat}:∀{f:Nat} {n:Int} {rs st rf:List (Int×Int)} {e:Str×Int},rngR d T od f n rs st=some (rf,some e)→e.2≠0
 |0,_,_,_,_,_,h=>by cases h
 |f+1,n,rs,st,rf,e,h=>by
  unfold rngR at h
  cases he:(rndR d T st od rs).2 with
  |some e'=>
   rw[he]at h
   have:=rndR_err d T st od rs e' he
   injection h with h
   have h2:e'=e:=by injection h with _ h;injection h
   subst h2
   simpa using this
  |none=>
   rw[he]at h
   simp only at h
   cases hc:(kpR d (decide (8≤n)) (rndR d T st od rs).1 (List.range d.bls.length) st false).2 with
   |false=>rw[hc,cond_false]at h;injection h with h;injection h with _ h;cases h
   |true=>rw[hc,cond_true]at h;exact rngR_err h
theorem rngR_length {d:Dg}{T:Bl→List (Int×Int)→Int×Int}{od:List Nat}{f:Nat}{n:Int}{rf:List (Int×Int)}(h:rngR d T od f n (r0 d) (s0 d)=some (rf,none)):rf.length=d.ins.length+d.bls.length:=by
 obtain⟨rs,st,⟨q1,q2⟩,_,rfl⟩:=rngR_out (Q:=fun rs st=>rs.length=d.ins.length+d.bls.length∧st.length=d.bls.length) (fun rs st big ⟨q1,q2⟩ _=>⟨by rw[rndR_len];exact q1,by rw[kpR_len];exact q2⟩) f n _ _ rf ⟨by simp[r0,upto],by simp[s0,upto]⟩ h
 rw[rndR_len];exact q1
theorem sgsR_len (d:Dg)(rf:List (Int×Int))(n:Nat):(sgsR d rf n).length=n:=by simp[sgsR]
theorem sgsR_succ (d:Dg)(rf:List (Int×Int))(n:Nat):rowsC ((sgsR d rf (n+1)).map Sg.w)=rowsC ((sgsR d rf n).map Sg.w)++(Sg.w (sgF d rf n)).map Cv.v:=by
 unfold sgsR
 rw[List.range_succ,List.map_append,List.map_append]
 simp[rowsC]
theorem nRows (l:List Nat):rowsC (l.map fun n:Nat=>[iv n])=l.map nC:=by
 induction l with
 |nil=>rfl
 |cons x l ih=>rw[List.map_cons,rowsC_cons,ih];rfl
theorem firstF_ne {α:Type}{f:α→Option (Str×Int)}(hf:∀x e,f x=some e→e.2≠0):∀{l:List α} {e:Str×Int},firstF f l=some e→e.2≠0
 |[],e,h=>by cases h
 |x::l,e,h=>by
  rw[firstF_cons]at h
  cases hx:f x with
  |some y=>rw[hx]at h;simp only[Option.or]at h;cases h;exact hf x _ hx
  |none=>rw[hx,Option.none_or]at h;exact firstF_ne hf h
theorem outE_ne {sg:List Str}:∀{l seen:List Str} {e:Str×Int},outE sg seen l=some e→e.2≠0
 |[],seen,e,h=>by cases h
 |s::r,seen,e,h=>by
  unfold outE at h
  split at h
  ·cases h;simp
  ·split at h
   ·cases h;simp
   ·exact outE_ne h
theorem allE_ne {d:Dg}{e:Str×Int}(h:allE d=some e):e.2≠0:=by
 unfold allE at h
 cases hd:dupF [] (allN d)with
 |some s=>rw[hd]at h;cases h;simp
 |none=>
  rw[hd]at h
  simp only at h
  cases h1:firstF (inpE d.tys) d.ins with
  |some y=>
   rw[h1]at h;simp only[Option.or]at h;cases h
   refine firstF_ne (fun x e hx=>?_) h1
   unfold inpE at hx
   split at hx
   ·cases hx;simp
   ·split at hx
    ·cases hx;simp
    ·cases hx
  |none=>
   rw[h1,Option.none_or]at h
   cases h2:firstF (blkE d.tys d.cus d.mas (sigs d)) d.bls with
   |some y=>
    rw[h2]at h;simp only[Option.or]at h;cases h
    refine firstF_ne (fun x e hx=>?_) h2
    unfold blkE at hx
    split at hx
    ·cases hx;simp
    ·split at hx
     ·cases hx;simp
     ·split at hx
      ·cases hx;simp
      ·cases hx
   |none=>
    rw[h2,Option.none_or]at h
    cases h3:outE (sigs d) [] d.ous with
    |some y=>rw[h3]at h;simp only[Option.or]at h;cases h;exact outE_ne h3
    |none=>
     rw[h3,Option.none_or]at h
     refine firstF_ne (fun x e hx=>?_) h
     unfold fitE at hx
     split at hx
     ·cases hx;simp
     ·split at hx
      ·cases hx;simp
      ·cases hx
theorem Check_ {H:Hp}(d:DgL)(hd:d.ok H)(hs:d.sm)(T:Bl→List (Int×Int)→Int×Int)(hT:TabOk H d T):CallX H Tryz.prog 13 [rowV d.r] [] (fun x:CkL=> .tup [W.agg (x.r.map Cv.v),Ws (chkQ d.c T).2.1,Wi (chkQ d.c T).2.2]) (fun _=>[]) (fun x H'=>x.c=(chkQ d.c T).1∧x.ok H'):=by
 refine CallX.mkS Tryz.func13 rfl en13 (by simp[Tryz.ntmps13]) (ClA.of rfl) (fun _=>rfl) (fun _=>rfl) fun C hR hP hH hL=>?_
 refine Sm.go 100 ?_
 refine vv ?_
 refine CallQ.h 110 (dvalid d hd hs) hH rfl ?_
 refine vv ?_
 refine mtch (fun hv=>?_) (fun hv=>?_)
 ·have hq:chkQ d.c T=(ck0,[],1):=by unfold chkQ;rw[hv];rfl
  rw[hq]at hR
  exact RetQ.of (hR ckL0 C hL ⟨rfl,ckL0_ok _⟩) rfl (vv trivial) rfl (Sub.nil _) ClM.nil (ClV.of rfl)
 have hv2:dgOk d.c=true:=by simpa using hv
 have B:=dgB hv2
 have hdv:(!dgOk d.c)=false:=by rw[hv2];rfl
 refine CallQ.x 120 hL (ofC d hd hs (by have:=B.ins;omega) (by have:=B.bls;omega)) hH (Sub.nil _) ClM.nil (fun _=>Fresh.nil _ _) rfl rfl rfl (fun x E0 H0 e0 k0 j0 p0=>?_)
 refine vv ?_
 have HH:H.le E0.hp:=hH.trans k0
 have kk:Ck E0.hp x.1 d x.2.1 x.2.2.1 x.2.2.2.1 x.2.2.2.2:=⟨hd.mono HH,hs,by have:=B.ins;omega,by have:=B.bls;omega,p0.mono j0⟩
 obtain⟨cp,bT,bC,bM,bS⟩:=x
 simp only at kk⊢
 have hbl:d.c.bls.length=d.bls.length:=List.length_map _
 refine CallQ.h 130 (all_ kk hv2) (Hp.le.refl _) rfl ?_
 cases hall:allE d.c with
 |some e=>
  have hq:chkQ d.c T=(ck0,e.1,e.2):=by unfold chkQ;rw[hdv,cond_false,hall]
  rw[hq]at hR
  have he2:(e.2 !=0)=true:=by simpa using allE_ne hall
  simp(maxSteps:=2000000) only[go_sem,Option.map_some,Option.getD_some,he2]
  exact RetQ.of (hR ckL0 E0 e0 ⟨rfl,ckL0_ok _⟩) rfl (vv trivial) rfl (Sub.nil _) ClM.nil (ClV.of rfl)
 |none=>
 refine vv ?_
 have ckd:=Chkd.of hv2 hall
 refine CallQ.h 140 (loop_ kk (fun b hb=>by have:=blO_in (B.blO b hb);omega)) (Hp.le.refl _) rfl ?_
 cases hlo:lopN d.c with
 |some s=>
  have hq:chkQ d.c T=(ck0,s,13):=by unfold chkQ;rw[hdv,cond_false,hall,hlo]
  rw[hq]at hR
  refine vv ?_
  exact RetQ.of (hR ckL0 E0 e0 ⟨rfl,ckL0_ok _⟩) rfl (vv trivial) rfl (Sub.nil _) ClM.nil (ClV.of rfl)
 |none=>
 refine vv ?_
 refine CallQ.hr [(1,150)] 160 (order_ kk (fun b hb=>by have:=blO_in (B.blO b hb);omega)) (Hp.le.refl _) ClM.nil rfl rfl trivial rfl (.inl rfl) ?_
 simp only[Mem.ren,List.map_cons,List.map_nil,renV (v_nC _),V.ren,Cv.ren,rn,Nat.reduceBEq,cond_true,cond_false]
 refine vv ?_
 have hlop:lopR (befB d.c) d.bls.length=none:=by
  unfold lopN at hlo
  rw[Option.map_eq_none_iff,hbl]at hlo
  exact hlo
 have hodl:=(lopR_none (befB_lt d)).1 hlop
 have hodk:=ordR_ok (befB d.c) d.bls.length
 have hodf:=full_mem hodk.1 hodk.2.1 hodl
 have hB200:=B.bls
 obtain⟨⟨rf,er⟩,hrg⟩:=rngR_some (d:=d.c) T (od:=ordR (befB d.c) d.bls.length) hodk.1 (by rw[hbl];exact hodk.2.1) (by rw[hbl];exact hodf)
 have hrgs:=ranges_ kk B.blO (fun b hb=>argQ_in (ckd.arg (List.mem_map.2 ⟨b,hb,rfl⟩))) T (fun b hb ht=>hT _ cp bT bC bM bS HH kk b hb ht (B.blO b hb)) (ordR (befB d.c) d.bls.length) hodk.2.1 (by rw[hodl];omega) (d.c.bls.length+8) (by rw[hbl];omega) rf er hrg
 have hch:∀q,rngR d.c T (ordR (befB d.c) d.c.bls.length) (d.c.bls.length+8) 1 (r0 d.c) (s0 d.c)=q→chkQ d.c T=match q with
  |none=>(ck0,[],0)
  |some (_,some e)=>(ck0,e.1,e.2)
  |some (rf,none)=>(⟨d.c,sgsR d.c rf (d.c.ins.length+d.c.bls.length),ordR (befB d.c) d.c.bls.length⟩,[],0):=fun q hq=>by
  unfold chkQ
  rw[hdv,cond_false,hall,hlo]
  simp only
  rw[hq]
 rw[hbl]at hch hrg
 have hch:=hch _ hrg
 have hrfl:er=none→rf.length=d.ins.length+d.bls.length:=fun he=>by subst he;have:=rngR_length hrg;rw[hbl]at this;exact this
 have hrne:∀e,er=some e→e.2≠0:=fun e he=>by subst he;exact rngR_err hrg
 clear hrg
 generalize hod:ordR (befB d.c) d.bls.length=od at*
 refine CallQ.hr [(4,150),(1,151)] 170 hrgs (Hp.le.refl _) (ClM.of (by simp only[List.all_cons,inMV (v_nC _)];rfl)) rfl rfl ⟨⟨_,rfl,wkV (v_nC _)⟩,trivial⟩ rfl (.inl rfl) ?_
 simp only[Mem.ren,List.map_cons,List.map_nil,renV (rowsC_isV _),V.ren,W.ren,Cv.ren,rn,Nat.reduceBEq,cond_true,cond_false]
 cases er with
 |some e=>
  simp only at hch
  rw[hch]at hR
  have he2:(e.2 !=0)=true:=by simpa using hrne e rfl
  simp(maxSteps:=2000000) only[go_sem,Option.getD_some,he2]
  exact RetQ.of (hR ckL0 E0 e0 ⟨rfl,ckL0_ok _⟩) rfl (vv trivial) rfl (Sub.nil _) ClM.nil (ClV.of rfl)
 |none=>
 simp only at hch
 rw[hch]at hR
 simp(maxSteps:=2000000) only[go_sem,Option.getD_none]
 refine CallQ.x 180 e0 (copied_ d kk.o hv2) (Hp.le.refl _) (Sub.nil _) ClM.nil (fun _=>Fresh.nil _ _) rfl rfl rfl (fun x E1 H1 e1 k1 j1 p1=>?_)
 obtain⟨px,ox⟩:=p1
 have ox:=ox.mono j1
 have kk1:=kk.mono k1
 refine vv ?_
 refine CallQ.hr [(1,152)] 190 (names_ d kk1.o cp _ kk1.c.p kk.n1 kk.n2) (Hp.le.refl _) ClM.nil rfl rfl trivial rfl (.inl rfl) ?_
 simp only[Mem.ren,List.map_cons,List.map_nil,renV (v_sC _),V.ren,Cv.ren,rn,Nat.reduceBEq,cond_true,cond_false]
 refine vv ?_
 refine Sm.nilAt 181 13 47 180 7 rfl rfl rfl ?_
 have hrl:=hrfl rfl
 have hsl:=sigs_len d
 have hN:d.ins.length+d.bls.length≤230:=by have:=B.ins;omega
 refine Sm.loopM (M0:=[]) (α:={i:Nat//i≤d.ins.length+d.bls.length}) (e1.pins hP) (fun i=>[(2,true,.c (.p 2 0)),(5,true,.c (.v cp)),(11,true,.c (.sl 151 0 rf.length 2)),(14,true,.c (.p 14 0)),(60,true,.c (.sl 152 0 (sigs d.c).length 1)),(61,true,I (sigs d.c).length),(62,true,I i.val)])
  (fun i=>[(2,⟨false,[.v (.string ⟨#[]⟩),.v (.slice none 0 0),.v (.slice none 0 0),.v (.slice none 0 0),.v (.slice none 0 0),.v (.slice none 0 0),.v (.slice none 0 0),.v (.slice none 0 0),.v (.slice none 0 0)],35⟩),(14,⟨false,[.v (sv x.nm),.v (vsl x.ty x.tys.length),.v (vsl x.cu x.cus.length),.v (vsl x.ma x.mas.length),.v (vsl x.i x.ins.length),.v (vsl x.bl x.bls.length),.v (vsl x.ou x.ous.length),.sl 6 0 i.val 13,.sl 150 0 od.length 1],35⟩),(151,⟨false,rowsC (rf.map rgR),45⟩),(150,⟨false,od.map nC,3⟩),(152,⟨false,(sigs d.c).map sC,9⟩),(6,⟨false,rowsC ((sgsR d.c rf i.val).map Sg.w),47⟩)])
  (fun i=>d.ins.length+d.bls.length-i.val) ⟨0,by omega⟩ (fun _=>ClM.of (by simp only[List.all_cons,inMV (rowsC_isV _),inMV (v_nC _),inMV (v_sC _)];rfl)) (fun _=>ClE.of rfl) [(2,101),(14,180),(151,151),(150,150),(152,152),(6,181)] ?_ ?_
 ·exact⟨rfl,trivial,⟨rfl,rfl,rfl,rfl,rfl,rfl,rfl,trivial⟩,⟨.inr ⟨_,rfl,.inl rfl⟩,.inr ⟨_,rfl,.inl rfl⟩,.inr ⟨_,rfl,.inl (renV (rowsC_isV _))⟩,.inr ⟨_,rfl,.inl (renV (v_nC _))⟩,.inr ⟨_,rfl,.inl (renV (v_sC _))⟩,.inr ⟨_,rfl,.inl (renV (rowsC_isV _))⟩,trivial⟩⟩
 rintro⟨i,hi⟩ J hj
 simp only at hj hi⊢
 refine Sm.go 190 ?_
 refine vv ?_
 refine mtch (fun hc=>?_) (fun hc=>?_)
 ·have hc:i<(sigs d.c).length:=lt_of_dec hc
  have hgs:=get_sC hc
  have hty:=typeOf_ kk1 i (by omega)
  have htk:=rgs_take rf i (by omega)
  have hz:=rows_len (r:=rgR) (k:=2) (fun _=>rfl) rf
  simp(maxSteps:=2000000) only[go_sem,hgs]
  refine⟨⟨by omega,by omega⟩,?_⟩
  refine Sm.dg 190 12 mix ?_
  refine vv ?_
  refine DCallQ.h 200 (fun _=>hty) (Hp.le.refl _) (fun _=>rfl) ?_
  have hzs:(rowsC ((sgsR d.c rf i).map Sg.w)).length=i*13:=by
   rw[rows_len (r:=Sg.w) (k:=13) (fun _=>rfl),sgsR_len]
  have hgd:(sigs d.c)[i]=(sigs d.c).getD i []:=by rw[List.getD_eq_getElem?_getD,List.getElem?_eq_getElem hc];rfl
  have hsn:List.take (i*13) (rowsC ((sgsR d.c rf i).map Sg.w))++[sC (sigs d.c)[i],.v (.int .i64 (tyAt d.c i).bits),.v (.bool (tyAt d.c i).signed),.v (.int .i64 (tyAt d.c i).num),.v (.int .i64 (tyAt d.c i).off),.v (.int .i64 (tyAt d.c i).den),.v (.int .i64 (tyAt d.c i).m),.v (.int .i64 (tyAt d.c i).kg),.v (.int .i64 (tyAt d.c i).s),.v (.int .i64 (tyAt d.c i).a),.v (.int .i64 (tyAt d.c i).k),.v (.int .i64 (rf.getD i (0,0)).1),.v (.int .i64 (rf.getD i (0,0)).2)]=rowsC ((sgsR d.c rf (i+1)).map Sg.w):=by
   rw[List.take_of_length_le (by omega),sgsR_succ,hgd];rfl
  simp(maxSteps:=2000000) only[go_sem,htk,hz,hzs,wS (show i≤1000000000000000000 by omega)]
  refine⟨⟨by omega,by omega⟩,by omega,⟨by omega,by omega,by omega⟩,?_⟩
  rw[hsn]
  exact hj _ _ ⟨i+1,by omega⟩ [(2,2),(14,14),(151,151),(150,150),(152,152),(6,201)] (by simp only;omega) ⟨rfl,trivial,⟨rfl,rfl,rfl,rfl,rfl,rfl,rfl,trivial⟩,⟨.inr ⟨_,rfl,.inl rfl⟩,.inr ⟨_,rfl,.inl rfl⟩,.inr ⟨_,rfl,.inl (renV (rowsC_isV _))⟩,.inr ⟨_,rfl,.inl (renV (v_nC _))⟩,.inr ⟨_,rfl,.inl (renV (v_sC _))⟩,.inr ⟨_,rfl,.inl (renV (rowsC_isV _))⟩,trivial⟩⟩
 ·have hc:i=(sigs d.c).length:=eq_of_dec (by omega) hc
  have hin:i=d.c.ins.length+d.bls.length:=by show i=d.ins.length+_;omega
  refine RetQ.letgo (M0:=[]) [150,6] e1 hP rfl (by unfold concOk;simp only[List.all_cons,cokV (rowsC_isV _),cokV (v_nC _),cokV (v_sC _)];rfl) (fun β C7 l7 k7 kn=>?_)
  obtain⟨sg,hvg,hkg⟩:=(kn 6 _ rfl rfl rfl).vslx (sz:=13) (rows:=(sgsR d.c rf i).map Sg.w) (fun r hr=>by obtain⟨z,_,rfl⟩:=List.mem_map.1 hr;rfl) rfl
  obtain⟨so,hvo,hko⟩:=(kn 150 _ rfl rfl rfl).vslx (sz:=1) (rows:=od.map fun n:Nat=>[iv n]) (fun r hr=>by obtain⟨z,_,rfl⟩:=List.mem_map.1 hr;rfl) (nRows od).symm
  rw[List.length_map,sgsR_len]at hvg hkg
  rw[List.length_map]at hvo hko
  simp only[Mem.conc,Env.conc,Bk.conc,Cv.conc,V.conc,List.map_cons,List.map_nil,List.contains_cons,List.contains_nil,Nat.reduceBEq,Bool.or_false,Bool.or_true,cond_true,cond_false,concV (rowsC_isV _),concV (v_nC _),concV (v_sC _),hvg,hvo]
  rw[←hin]at hR
  have hR':=hR (CkL.mk x (sgsR d.c rf i) od sg so) C7 l7 ⟨by unfold CkL.c;rw[px],⟨ox.mono k7,by show SlH _ (vsl sg (sgsR d.c rf i).length) 13 _;rw[sgsR_len];exact hkg,hko⟩⟩
  have hvr:(CkL.mk x (sgsR d.c rf i) od sg so).r.map Cv.v=[.v (sv x.nm),.v (vsl x.ty x.tys.length),.v (vsl x.cu x.cus.length),.v (vsl x.ma x.mas.length),.v (vsl x.i x.ins.length),.v (vsl x.bl x.bls.length),.v (vsl x.ou x.ous.length),.v (vsl sg i),.v (vsl so od.length)]:=by
   simp only[CkL.r,DgL.r,sgsR_len];rfl
  rw[hvr]at hR'
  exact RetQ.of hR' rfl (vv trivial) rfl (Sub.nil _) ClM.nil (ClV.of rfl)
end Go.Proofs.YtkciabfilokfiaaGreat.Fx
