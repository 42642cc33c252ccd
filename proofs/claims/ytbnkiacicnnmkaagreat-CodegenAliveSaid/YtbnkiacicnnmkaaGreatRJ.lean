/-  -/
import Derived.Test.YtbnkiacicnnmkaaGreatQS
open Go.Proofs.Tryz
open Go.Proofs.Tryz renaming prog→KI
set_option linter.unusedSimpArgs false
set_option linter.unusedVariables false
set_option maxRecDepth 100000
set_option maxHeartbeats 4000000
namespace Go.Proofs.YtbnkiacicnnmkaaGreat.Fx
open Vg Tf
theorem _root_.Go.Proofs.YtbnkiacicnnmkaaGreat.Vg.Rel.eqc {S:Bs}{w0 w:World}{β:Vl}{M:Mem}(h:Rel S w0 β M w){n:Nat}{b:Bk}{cs:List Cv}(hb:M.get n=some b)(hg:∀β',Agree M β β'->cs.map (Cv.g β')=b.cells.map (Cv.g β')):Rel S w0 β ((n,⟨b.ro,cs,b.elem⟩)::M) w:=by
 have hl:cs.length=b.cells.length:=by have:=congrArg List.length (hg β (zG _ _));simpa using this
 have hs:∀k,(Mem.get ((n,⟨b.ro,cs,b.elem⟩)::M) k).isSome=(M.get k).isSome:=fun k=>by
  rw[zE]
  split
  ·rename_i hk;subst hk;rw[hb];rfl
  ·rfl
 have hq:∀k c,Mem.get ((n,⟨b.ro,cs,b.elem⟩)::M) k=some c->∃c0,M.get k=some c0/\c.ro=c0.ro/\c.elem=c0.elem/\c.cells.length=c0.cells.length/\∀β',Agree M β β'->c.cells.map (Cv.g β')=c0.cells.map (Cv.g β'):=fun k c hc=>by
  rw[zE]at hc
  split at hc
  ·rename_i hk;subst hk;cases hc;exact⟨b,hb,rfl,rfl,hl,hg⟩
  ·exact⟨c,hc,rfl,rfl,rfl,fun _ _=>rfl⟩
 refine⟨h.fr,⟨fun β' hag k c hc=>?_,fun k c hc hu=>?_,fun k m c c' hc hc' hne hr hv hu1 hu2=>?_⟩,fun k c hc hr hu hS=>?_,fun k l hk=>?_⟩
 ·obtain⟨c0,q1,q2,q3,q4,q5⟩:=hq k c hc
  have hag':Agree M β β':=fun j hj=>hag j (by rw[hs];exact hj)
  have h0:=h.mem.ok β' hag' k c0 q1
  unfold BkOk at h0⊢
  rw[q2,q3,q5 β' hag',q4]
  split at h0
  ·rename_i hh
   rw[if_pos hh]
   exact⟨MN.1 (by rw[q4,h0.1];rfl),h0.2⟩
  ·rename_i hh
   rw[if_neg hh];exact h0
 ·obtain⟨c0,q1,_⟩:=hq k c hc
  exact h.mem.there k c0 q1 hu
 ·obtain⟨c0,q1,q2,q3,q4,q5⟩:=hq k c hc
  obtain⟨d0,r1,r2,r3,r4,r5⟩:=hq m c' hc'
  refine h.mem.apart k m c0 d0 q1 r1 hne (by rw[<-q2];exact hr) ?_ hu1 hu2
  rcases hv with hv|hv
  ·exact .inl (by rw[<-r2];exact hv)
  ·exact .inr fun he=>hv (MN.1 (by rw[r4,he];rfl))
 ·obtain⟨c0,q1,q2,_⟩:=hq k c hc
  exact h.own k c0 q1 (by rw[<-q2];exact hr) hu hS
 ·have:=h.pin k l hk
  exact⟨by rw[hs];exact this.1,this.2⟩
theorem _root_.Go.Proofs.YtbnkiacicnnmkaaGreat.Vg.Sm.nilAt {P:Program}{nt:Nat}{C:Cx}{todo:List It}{e:Env}{M:Mem}(nm esz:Nat)(el:TypeId)(n i:Nat){b:Bk}(hn:M.get nm=none)(hb:M.get n=some b)(hi:b.cells[i]?=some (.v (.slice none 0 0)))
  (h:Sm P nt C todo e ((n,⟨b.ro,b.cells.set i (.sl nm 0 0 esz),b.elem⟩)::(nm,⟨false,[],el⟩)::M)):Sm P nt C todo e M:=fun β a w h1 h2 h3 h4=>by
 have r0:=h1.nil nm hn el
 have hne:¬n=nm:=fun hh=>by subst hh;rw[hn]at hb;cases hb
 have hbm:Mem.get ((nm,(⟨false,[],el⟩:Bk))::M) n=some b:=by rw[zE,if_neg hne];exact hb
 have r:=r0.eqc (cs:=b.cells.set i (.sl nm 0 0 esz)) hbm (fun β' hag=>by
  have hnu:=hag nm (by rw[zE,if_pos rfl];rfl)
  have e1:(Cv.sl nm 0 0 esz).g β'= .slice none 0 0:=by simp[Cv.g,hnu,Loc.emp]
  rw[Mv,e1]
  refine Mc fun k=>?_
  rw[LI]
  split
  ·rename_i hk
   subst hk
   have hlt:=(ML.1 hi).1
   rw[if_pos (by simpa using hlt),MC,hi];rfl
  ·rfl)
 refine h _ a w r ((h2.nil (b:=⟨false,[],el⟩) hn).on fun k hk=>?_) h3 h4
 refine⟨?_,rfl⟩
 rw[zE]
 split
 ·rfl
 ·exact hk
@[go_sem ↓] theorem Yh:rB 1 13=[(0,13)]:=rfl
structure Sg where
 nm:Str
 ty:Ft
 r:Int×Int
def Sg.w (s:Sg):List Value:=sv s.nm::(xD s.ty++[iv s.r.1,iv s.r.2])
def NH:Dg:=⟨[],[],[],[],[],[],[]⟩
def fb:DgL:=⟨[],[],[],[],[],[],[],⟨none,0⟩,⟨none,0⟩,⟨none,0⟩,⟨none,0⟩,⟨none,0⟩,⟨none,0⟩⟩
theorem dc (H:Hp):fb.ok H:=⟨SlH.nil _,SlH.nil _,SlH.nil _,SlH.nil _,SlH.nil _,SlH.nil _,by simp[fb],by simp[fb],by simp[fb]⟩
structure CkR where
 d:Dg
 sg:List Sg
 od:List Nat
def eJ:CkR:=⟨NH,[],[]⟩
def PB (d:Dg)(rf:List (Int×Int))(i:Nat):Sg:=⟨(zW d).getD i [],x7 d i,rf.getD i (0,0)⟩
def tJ (d:Dg)(rf:List (Int×Int))(n:Nat):List Sg:=(List.range n).map (PB d rf)
def xo (d:Dg)(T:Bl->List (Int×Int)->Int×Int):CkR×Str×Int:=
 bif !tq d then(eJ,[],1)else match ny d with
 |some e=>(eJ,e.1,e.2)
 |none=>match ji d with
  |some s=>(eJ,s,13)
  |none=>match uN d T (wP (xF d) d.bls.length) (d.bls.length+8) 1 (r0 d) (s0 d)with
   |none=>(eJ,[],0)
   |some (_,some e)=>(eJ,e.1,e.2)
   |some (rf,none)=>(⟨d,tJ d rf (d.ins.length+d.bls.length),wP (xF d) d.bls.length⟩,[],0)
structure CkL where
 d:DgL
 sg:List Sg
 od:List Nat
 s:Sv
 o:Sv
def CkL.r (c:CkL):List Value:=c.d.r++[vsl c.s c.sg.length,vsl c.o c.od.length]
def CkL.c (c:CkL):CkR:=⟨c.d.c,c.sg,c.od⟩
structure CkL.ok (H:Hp) (c:CkL):Prop where
 d:c.d.ok H
 s:SlH H (vsl c.s c.sg.length) 13 (c.sg.map Sg.w)
 o:SlH H (vsl c.o c.od.length) 1 (c.od.map fun n:Nat=>[iv n])
def fh:CkL:=⟨fb,[],[],⟨none,0⟩,⟨none,0⟩⟩
theorem r8 (H:Hp):fh.ok H:=⟨dc H,SlH.nil _,SlH.nil _⟩
def ft (H:Hp)(d:DgL)(T:Bl->List (Int×Int)->Int×Int):Prop:=∀(H':Hp) cp bT bC bM bS,H.le H'->Ck H' cp d bT bC bM bS->∀b∈d.bls,jV b.c.kd=true->xg b.c=true->∀rs:List (Int×Int),rs.length=b.c.ins.length->CallX H' KI 256 [.c (.v cp),ze b.r,.c (.sl 1 0 rs.length 2)] [(1,⟨true,zC (rs.map y9),129⟩)] (fun _:Unit=>rA (T b.c rs)) (fun _=>[]) (fun _ _=>True)
theorem cK {l ins:List Str}(h:s9 l ins=none):∀s∈ins,ov l s=true:=fun s hs=>by
 unfold s9 at h
 rw[L1]at h
 simpa using h s hs
theorem nI {d:Dg}{T:Bl->List (Int×Int)->Int×Int}{od:List Nat}:∀{f:Nat} {n:Int} {rs st rf:List (Int×Int)} {e:Str×Int},uN d T od f n rs st=some (rf,some e)->e.2≠0
 |0,_,_,_,_,_,h=>by cases h
 |f+1,n,rs,st,rf,e,h=>by
  unfold uN at h
  cases he:(yj d T st od rs).2 with
  |some e'=>
   rw[he]at h
   have:=rx d T st od rs e' he
   injection h with h
   have h2:e'=e:=by injection h with _ h;injection h
   subst h2
   simpa using this
  |none=>
   rw[he]at h
   simp only at h
   cases hc:(rF d (decide (8<=n)) (yj d T st od rs).1 (List.range d.bls.length) st false).2 with
   |false=>rw[hc,cond_false]at h;injection h with h;injection h with _ h;cases h
   |true=>rw[hc,cond_true]at h;exact nI h
theorem nH {d:Dg}{T:Bl->List (Int×Int)->Int×Int}{od:List Nat}{f:Nat}{n:Int}{rf:List (Int×Int)}(h:uN d T od f n (r0 d) (s0 d)=some (rf,none)):rf.length=d.ins.length+d.bls.length:=by
 obtain⟨rs,st,⟨q1,q2⟩,_,rfl⟩:=nG (Q:=fun rs st=>rs.length=d.ins.length+d.bls.length/\st.length=d.bls.length) (fun rs st big ⟨q1,q2⟩ _=>⟨by rw[vY];exact q1,by rw[ug];exact q2⟩) f n _ _ rf ⟨by simp[r0,wH],by simp[s0,wH]⟩ h
 rw[vY];exact q1
theorem tY (d:Dg)(rf:List (Int×Int))(n:Nat):(tJ d rf n).length=n:=by simp[tJ]
theorem jX (d:Dg)(rf:List (Int×Int))(n:Nat):zC ((tJ d rf (n+1)).map Sg.w)=zC ((tJ d rf n).map Sg.w)++(Sg.w (PB d rf n)).map Cv.v:=by
 unfold tJ
 rw[List.range_succ,ME,ME]
 simp[zC]
theorem Yx (l:List Nat):zC (l.map fun n:Nat=>[iv n])=l.map nC:=by
 induction l with
 |nil=>rfl
 |cons x l ih=>rw[Nk,zp,ih];rfl
theorem ul {α:Type}{f:α->Option (Str×Int)}(hf:∀x e,f x=some e->e.2≠0):∀{l:List α} {e:Str×Int},zx f l=some e->e.2≠0
 |[],e,h=>by cases h
 |x::l,e,h=>by
  rw[yc]at h
  cases hx:f x with
  |some y=>rw[hx]at h;simp only[Option.or]at h;cases h;exact hf x _ hx
  |none=>rw[hx,Option.none_or]at h;exact ul hf h
theorem kW {sg:List Str}:∀{l seen:List Str} {e:Str×Int},uw sg seen l=some e->e.2≠0
 |[],seen,e,h=>by cases h
 |s::r,seen,e,h=>by
  unfold uw at h
  split at h
  ·cases h;simp
  ·split at h
   ·cases h;simp
   ·exact kW h
theorem cL {d:Dg}{e:Str×Int}(h:ny d=some e):e.2≠0:=by
 unfold ny at h
 cases hd:sY [] (qV d)with
 |some s=>rw[hd]at h;cases h;simp
 |none=>
  rw[hd]at h
  simp only at h
  cases h1:zx (uG d.tys) d.ins with
  |some y=>
   rw[h1]at h;simp only[Option.or]at h;cases h
   refine ul (fun x e hx=>?_) h1
   unfold uG at hx
   split at hx
   ·cases hx;simp
   ·split at hx
    ·cases hx;simp
    ·cases hx
  |none=>
   rw[h1,Option.none_or]at h
   cases h2:zx (uH d.tys d.cus d.mas (zW d)) d.bls with
   |some y=>
    rw[h2]at h;simp only[Option.or]at h;cases h
    refine ul (fun x e hx=>?_) h2
    unfold uH at hx
    split at hx
    ·cases hx;simp
    ·split at hx
     ·cases hx;simp
     ·split at hx
      ·cases hx;simp
      ·cases hx
   |none=>
    rw[h2,Option.none_or]at h
    cases h3:uw (zW d) [] d.ous with
    |some y=>rw[h3]at h;simp only[Option.or]at h;cases h;exact kW h3
    |none=>
     rw[h3,Option.none_or]at h
     refine ul (fun x e hx=>?_) h
     unfold tP at hx
     split at hx
     ·cases hx;simp
     ·split at hx
      ·cases hx;simp
      ·cases hx
theorem eC {H:Hp}(d:DgL)(hd:d.ok H)(hs:d.sm)(T:Bl->List (Int×Int)->Int×Int)(hT:ft H d T):CallX H KI 19 [ze d.r] [] (fun x:CkL=> .tup [W.agg (x.r.map Cv.v),Ws (xo d.c T).2.1,Wi (xo d.c T).2.2]) (fun _=>[]) (fun x H'=>x.c=(xo d.c T).1/\x.ok H'):=by
 refine kX func19 VR ntmps19 fun C hR hP hH hL=>?_
 refine zB 100 (vv ?_)
 refine zO 110 (Zm d hd hs) hH rfl (vv ?_)
 refine zY (fun hv=>?_) (fun hv=>?_)
 ·have hq:xo d.c T=(eJ,[],1):=by unfold xo;rw[hv];rfl
  rw[hq]at hR
  exact yM (hR fh C hL ⟨rfl,r8 _⟩) ClM.nil
 have hv2:tq d.c=true:=by simpa using hv
 have B:=Pf hv2
 have hdv:(!tq d.c)=false:=by rw[hv2];rfl
 refine CallQ.x 120 hL (O8 d hd hs (by have:=B.ins;omega) (by have:=B.bls;omega)) hH (Sub.nil _) ClM.nil (fun _=>Fresh.nil _ _) rfl rfl rfl (fun x E0 H0 e0 k0 j0 p0=>?_)
 refine vv ?_
 have HH:H.le E0.hp:=hH.trans k0
 have kk:Ck E0.hp x.1 d x.2.1 x.2.2.1 x.2.2.2.1 x.2.2.2.2:=⟨hd.mono HH,hs,by have:=B.ins;omega,by have:=B.bls;omega,p0.mono j0⟩
 obtain⟨cp,bT,bC,bM,bS⟩:=x
 simp only at kk⊢
 have hbl:d.c.bls.length=d.bls.length:=Ni _
 refine zO 130 (QX kk hv2) (zN _) rfl ?_
 cases hall:ny d.c with
 |some e=>
  have hq:xo d.c T=(eJ,e.1,e.2):=by unfold xo;rw[hdv,cond_false,hall]
  rw[hq]at hR
  have he2:(e.2 !=0)=true:=by simpa using cL hall
  simp only[go_sem,M9,Option.getD_some,he2]
  exact yM (hR fh E0 e0 ⟨rfl,r8 _⟩) ClM.nil
 |none=>
 refine vv ?_
 have ckd:=cX hv2 hall
 refine zO 140 (XA kk (fun b hb=>by have:=lV (B.blO b hb);omega)) (zN _) rfl ?_
 cases hlo:ji d.c with
 |some s=>
  have hq:xo d.c T=(eJ,s,13):=by unfold xo;rw[hdv,cond_false,hall,hlo]
  rw[hq]at hR
  refine vv ?_
  exact yM (hR fh E0 e0 ⟨rfl,r8 _⟩) ClM.nil
 |none=>
 refine vv ?_
 refine CallQ.hr [(1,150)] 160 (ga kk (fun b hb=>by have:=lV (B.blO b hb);omega)) (zN _) ClM.nil rfl rfl trivial rfl (.inl rfl) ?_
 simp only[Mem.ren,Nk,Nm,zf (xO _),V.ren,Cv.ren,rn,Nat.reduceBEq,cond_true,cond_false]
 refine vv ?_
 have hlop:pm (xF d.c) d.bls.length=none:=by
  unfold ji at hlo
  rw[Option.map_eq_none_iff,hbl]at hlo
  exact hlo
 have hodl:=(jh (uo d)).1 hlop
 have hodk:=rV (xF d.c) d.bls.length
 have hodf:=fN hodk.1 hodk.2.1 hodl
 have hB200:=B.bls
 obtain⟨⟨rf,er⟩,hrg⟩:=j7 (d:=d.c) T (od:=wP (xF d.c) d.bls.length) hodk.1 (by rw[hbl];exact hodk.2.1) (by rw[hbl];exact hodf)
 have hrgs:=dA kk B.blO (fun b hb=>cK (ckd.arg (Nz.2 ⟨b,hb,rfl⟩))) T (fun b hb ht=>hT _ cp bT bC bM bS HH kk b hb ht (B.blO b hb)) (wP (xF d.c) d.bls.length) hodk.2.1 (by rw[hodl];omega) (d.c.bls.length+8) (by rw[hbl];omega) rf er hrg
 have hch:∀q,uN d.c T (wP (xF d.c) d.c.bls.length) (d.c.bls.length+8) 1 (r0 d.c) (s0 d.c)=q->xo d.c T=match q with
  |none=>(eJ,[],0)
  |some (_,some e)=>(eJ,e.1,e.2)
  |some (rf,none)=>(⟨d.c,tJ d.c rf (d.c.ins.length+d.c.bls.length),wP (xF d.c) d.c.bls.length⟩,[],0):=fun q hq=>by
  unfold xo
  rw[hdv,cond_false,hall,hlo]
  simp only
  rw[hq]
 rw[hbl]at hch hrg
 have hch:=hch _ hrg
 have hrfl:er=none->rf.length=d.ins.length+d.bls.length:=fun he=>by subst he;have:=nH hrg;rw[hbl]at this;exact this
 have hrne:∀e,er=some e->e.2≠0:=fun e he=>by subst he;exact nI hrg
 clear hrg
 generalize hod:wP (xF d.c) d.bls.length=od at*
 refine CallQ.hr [(4,150),(1,151)] 170 hrgs (zN _) (zD (by simp only[Nj,zZ (xO _)];rfl)) rfl rfl ⟨⟨_,rfl,oP (xO _)⟩,trivial⟩ rfl (.inl rfl) ?_
 simp only[Mem.ren,Nk,Nm,zf (zK _),V.ren,W.ren,Cv.ren,rn,Nat.reduceBEq,cond_true,cond_false]
 cases er with
 |some e=>
  simp only at hch
  rw[hch]at hR
  have he2:(e.2 !=0)=true:=by simpa using hrne e rfl
  simp only[go_sem,Option.getD_some,he2]
  exact yM (hR fh E0 e0 ⟨rfl,r8 _⟩) ClM.nil
 |none=>
 simp only at hch
 rw[hch]at hR
 simp only[go_sem,Option.getD_none]
 refine CallQ.x 180 e0 (de d kk.o hv2) (zN _) (Sub.nil _) ClM.nil (fun _=>Fresh.nil _ _) rfl rfl rfl (fun x E1 H1 e1 k1 j1 p1=>?_)
 obtain⟨px,ox⟩:=p1
 have ox:=ox.mono j1
 have kk1:=kk.mono k1
 refine vv ?_
 refine CallQ.hr [(1,152)] 190 (gn d kk1.o cp _ kk1.c.p kk.n1 kk.n2) (zN _) ClM.nil rfl rfl trivial rfl (.inl rfl) ?_
 simp only[Mem.ren,Nk,Nm,zf (y7 _),V.ren,Cv.ren,rn,Nat.reduceBEq,cond_true,cond_false]
 refine vv ?_
 refine Sm.nilAt 181 13 131 180 7 rfl rfl rfl ?_
 have hrl:=hrfl rfl
 have hsl:=vX d
 have hN:d.ins.length+d.bls.length<=230:=by have:=B.ins;omega
 refine zL (M0:=[]) (α:={i:Nat//i<=d.ins.length+d.bls.length}) (e1.pins hP) (fun i=>[(2,true,.c (.p 2 0)),(5,true,.c (.v cp)),(11,true,.c (.sl 151 0 rf.length 2)),(14,true,.c (.p 14 0)),(60,true,.c (.sl 152 0 (zW d.c).length 1)),(61,true,I (zW d.c).length),(62,true,I i.val)])
  (fun i=>[(2,⟨false,[.v (.string ⟨#[]⟩),.v (.slice none 0 0),.v (.slice none 0 0),.v (.slice none 0 0),.v (.slice none 0 0),.v (.slice none 0 0),.v (.slice none 0 0),.v (.slice none 0 0),.v (.slice none 0 0)],72⟩),(14,⟨false,[.v (sv x.nm),.v (vsl x.ty x.tys.length),.v (vsl x.cu x.cus.length),.v (vsl x.ma x.mas.length),.v (vsl x.i x.ins.length),.v (vsl x.bl x.bls.length),.v (vsl x.ou x.ous.length),.sl 6 0 i.val 13,.sl 150 0 od.length 1],72⟩),(151,⟨false,zC (rf.map y9),129⟩),(150,⟨false,od.map nC,3⟩),(152,⟨false,(zW d.c).map sC,9⟩),(6,⟨false,zC ((tJ d.c rf i.val).map Sg.w),131⟩)])
  (fun i=>d.ins.length+d.bls.length-i.val) ⟨0,zA⟩ (fun _=>zD (by simp only[Nj,iR,zZ (xO _),zZ (y7 _)];rfl)) (fun _=>zP rfl) [(2,101),(14,180),(151,151),(150,150),(152,152),(6,181)] ?_ ?_
 ·exact zk
 rintro⟨i,hi⟩ J hj
 simp only at hj hi⊢
 refine zB 190 (vv ?_)
 refine zY (fun hc=>?_) (fun hc=>?_)
 ·have hc:i<(zW d.c).length:=zI hc
  have hgs:=vN hc
  have hty:=rQ kk1 i zA
  have htk:=vZ rf i zA
  have hz:=zS (r:=y9) (k:=2) (fun _=>rfl) rf
  simp only[go_sem,hgs]
  refine⟨⟨zA,zA⟩,?_⟩
  refine Sm.dg 190 12 zw (vv ?_)
  refine yq 200 (fun _=>hty) (zN _) (fun _=>rfl) ?_
  have hzs:(zC ((tJ d.c rf i).map Sg.w)).length=i*13:=by
   rw[zS (r:=Sg.w) (k:=13) (fun _=>rfl),tY]
  have hgd:(zW d.c)[i]=(zW d.c).getD i []:=by rw[Nl,No hc];rfl
  have hsn:List.take (i*13) (zC ((tJ d.c rf i).map Sg.w))++[sC (zW d.c)[i],.v (.int .i64 (x7 d.c i).bits),.v (.bool (x7 d.c i).signed),.v (.int .i64 (x7 d.c i).num),.v (.int .i64 (x7 d.c i).off),.v (.int .i64 (x7 d.c i).den),.v (.int .i64 (x7 d.c i).m),.v (.int .i64 (x7 d.c i).kg),.v (.int .i64 (x7 d.c i).s),.v (.int .i64 (x7 d.c i).a),.v (.int .i64 (x7 d.c i).k),.v (.int .i64 (rf.getD i (0,0)).1),.v (.int .i64 (rf.getD i (0,0)).2)]=zC ((tJ d.c rf (i+1)).map Sg.w):=by
   rw[Nw zA,jX,hgd];rfl
  simp only[go_sem,htk,hz,hzs,yt (i:=i)]
  refine⟨⟨zA,zA⟩,zA,⟨zA,zA,zA⟩,?_⟩
  rw[hsn]
  exact hj _ _ ⟨i+1,zA⟩ [(2,2),(14,14),(151,151),(150,150),(152,152),(6,201)] yK zk
 ·have hc:i=(zW d.c).length:=zJ zA hc
  have hin:i=d.c.ins.length+d.bls.length:=by show i=d.ins.length+_;omega
  refine RetQ.letgo (M0:=[]) [150,6] e1 hP rfl (by unfold yF;simp only[Nj,yJ (zK _),yJ (xO _),yJ (y7 _)];rfl) (fun β C7 l7 k7 kn=>?_)
  obtain⟨sg,hvg,hkg⟩:=(kn 6 _ rfl rfl rfl).vslx (sz:=13) (rows:=(tJ d.c rf i).map Sg.w) (fun r hr=>by obtain⟨z,_,rfl⟩:=Nz.1 hr;rfl) rfl
  obtain⟨so,hvo,hko⟩:=(kn 150 _ rfl rfl rfl).vslx (sz:=1) (rows:=od.map fun n:Nat=>[iv n]) (fun r hr=>by obtain⟨z,_,rfl⟩:=Nz.1 hr;rfl) (Yx od).symm
  rw[Ni,tY]at hvg hkg
  rw[Ni]at hvo hko
  simp only[Mem.conc,Env.conc,Bk.conc,Cv.conc,V.conc,Nk,Nm,MV,List.contains_nil,Nat.reduceBEq,Mr,LF,cond_true,cond_false,xw (zK _),xw (xO _),xw (y7 _),hvg,hvo]
  rw[<-hin]at hR
  have hR':=hR (CkL.mk x (tJ d.c rf i) od sg so) C7 l7 ⟨by unfold CkL.c;rw[px],⟨ox.mono k7,by show SlH _ (vsl sg (tJ d.c rf i).length) 13 _;rw[tY];exact hkg,hko⟩⟩
  have hvr:(CkL.mk x (tJ d.c rf i) od sg so).r.map Cv.v=[.v (sv x.nm),.v (vsl x.ty x.tys.length),.v (vsl x.cu x.cus.length),.v (vsl x.ma x.mas.length),.v (vsl x.i x.ins.length),.v (vsl x.bl x.bls.length),.v (vsl x.ou x.ous.length),.v (vsl sg i),.v (vsl so od.length)]:=by
   simp only[CkL.r,DgL.r,tY];rfl
  rw[hvr]at hR'
  exact zU hR' rfl (vv trivial) rfl (Sub.nil _) ClM.nil (zH rfl)
theorem _root_.Go.Proofs.YtbnkiacicnnmkaaGreat.Vg.Rel.bring {C:Cx}{M:Mem}{l:Vg.Loc}{cs:List Value}{β:Vl}{w:World}(nm:Nat)(el:TypeId)(h:LcH C.hp l cs)(hn:M.get nm=none)(h1:Rel C.S C.w0 β M w):Rel C.S C.w0 (fun k=>if k=nm then l else β k) ((nm,⟨true,cs.map .v,el⟩)::M) w:=by
 have hne:∀k b,M.get k=some b->k≠nm:=by rintro k b hk rfl;rw[hn]at hk;cases hk
 have hcells:∀β:Vl,(cs.map Cv.v).map (Cv.g β)=cs:=fun β=>by
  rw[MZ];conv=>rhs;rw[<-Lz cs]
  exact MJ fun _ _=>rfl
 have hag0:∀β',Agree ((nm,⟨true,cs.map .v,el⟩)::M) (fun k=>if k=nm then l else β k) β'->Agree M β β'/\β' nm=l:=fun β' hag=>by
  refine⟨fun j hj=>?_,by have:=hag nm (by rw[zE];simp);simpa using this⟩
  obtain⟨c,hc⟩:=Nq.1 hj
  rw[hag j (by rw[zE];split<;>simp_all)]
  exact if_neg (hne j c hc)
 refine⟨h1.fr,⟨fun β' hag k b hb=>?_,fun k b hb hu=>?_,fun k m b b' hb hb' hkm hr hlv hu hu'=>?_⟩,fun k b hb hr hu hS=>?_,fun k q hq=>?_⟩
 ·obtain⟨g1,g2⟩:=hag0 β' hag
  rw[zE]at hb
  split at hb
  ·rename_i hk
   simp at hb;subst hb hk
   unfold BkOk
   rw[g2,hcells]
   cases hu:l.nul with
   |true=>simp only[if_true];rw[h.1 hu];exact⟨rfl,fun h=>by cases h⟩
   |false=>
    simp only[MH,if_false,if_true]
    obtain⟨c,el',mk,q1,q2⟩:=h.2.2 hu
    refine⟨fun j v hj=>?_,by simpa using h.2.1⟩
    simp[World.cell?,zy h1 q1,q2 j v hj]
  ·exact h1.mem.ok β' g1 k b hb
 ·rw[zE]at hb
  split at hb
  ·rename_i hk
   simp only[if_pos hk]at hu⊢
   obtain⟨c,el',mk,q1,q2⟩:=h.2.2 hu
   exact MO (C.hp_lt q1) h1.fr.size
  ·rename_i hk;simp only[if_neg hk]at hu⊢;exact h1.mem.there k b hb hu
 ·rw[zE]at hb hb'
  split at hb
  ·simp at hb;subst hb;cases hr
  ·rename_i hk
   split at hb'
   ·rename_i hk'
    simp only[if_neg hk,if_pos hk']at hu hu'⊢
    obtain⟨c,el',mk,q1,q2⟩:=h.2.2 hu'
    exact fun hh=>yL h1 q1 ⟨k,b,hb,hr,hu,hh.symm⟩
   ·rename_i hk'
    simp only[if_neg hk,if_neg hk']at hu hu'⊢
    exact h1.mem.apart k m b b' hb hb' hkm hr hlv hu hu'
 ·rw[zE]at hb
  split at hb
  ·simp at hb;subst hb;cases hr
  ·rename_i hk;simp only[if_neg hk]at hu hS⊢;exact h1.own k b hb hr hu hS
 ·obtain⟨p1,p2⟩:=h1.pin k q hq
  have hkn:k≠nm:=by rintro rfl;rw[hn]at p1;cases p1
  exact⟨by rw[zE,if_neg hkn];exact p1,by simp only[if_neg hkn];exact p2⟩
theorem _root_.Go.Proofs.YtbnkiacicnnmkaaGreat.Vg.Sm.bringC {P:Program}{nt:Nat}{C:Cx}{todo:List It}{e:Env}{M:Mem}{v:Value}{sz:Nat}{rows:List (List Value)}(nm:Nat)(el:TypeId)(n i:Nat){b:Bk}(h:SlH C.hp v sz rows)(hn:M.get nm=none)(hb:M.get n=some b)(hi:b.cells[i]?=some (.v v))
  (k:Sm P nt C todo e ((n,⟨b.ro,b.cells.set i (.sl nm 0 rows.length sz),b.elem⟩)::(nm,⟨true,zC rows,el⟩)::M)):Sm P nt C todo e M:=fun β a w h1 h2 h3 h4=>by
 obtain⟨l,q1,q2,q3⟩:=h
 have r0:=h1.bring nm el q3 hn
 have hne:¬n=nm:=fun hh=>by subst hh;rw[hn]at hb;cases hb
 have hbm:Mem.get ((nm,(⟨true,rows.flatten.map .v,el⟩:Bk))::M) n=some b:=by rw[zE,if_neg hne];exact hb
 have r:=r0.eqc (cs:=b.cells.set i (.sl nm 0 rows.length sz)) hbm (fun β' hag=>by
  have hnu:=hag nm (by rw[zE,if_pos rfl];rfl)
  simp only[if_true]at hnu
  have e1:(Cv.sl nm 0 rows.length sz).g β'=v:=by rw[q1,TJ hnu]
  rw[Mv,e1]
  refine Mc fun k=>?_
  rw[LI]
  split
  ·rename_i hk
   subst hk
   have hlt:=(ML.1 hi).1
   rw[if_pos (by simpa using hlt),MC,hi];rfl
  ·rfl)
 refine k _ a w r (h2.on fun k hk=>?_) h3 h4
 obtain⟨c,hc⟩:=Nq.1 hk
 have hkn:¬k=nm:=fun hh=>by subst hh;rw[hn]at hc;cases hc
 refine⟨?_,if_neg hkn⟩
 rw[zE]
 split
 ·rfl
 ·rw[zE,if_neg hkn];exact hk
def rt (p:Nat->Bool):Nat->Nat->Nat->Nat
 |0,lo,_=>lo
 |f+1,lo,hi=>bif decide (lo<hi)then bif p ((lo+hi)/2)then rt p f lo ((lo+hi)/2)else rt p f ((lo+hi)/2+1) hi else lo
def rr (p:Nat->Bool)(n:Nat):Nat:=rt p (n+1) 0 n
theorem pd {p:Nat->Bool}{n:Nat}:∀(f lo hi:Nat),lo<=hi->hi<=n->hi-lo<f->(0<lo->p (lo-1)=false)->(hi<n->p hi=true)->rt p f lo hi<=n/\(0<rt p f lo hi->p (rt p f lo hi-1)=false)/\(rt p f lo hi<n->p (rt p f lo hi)=true)
 |0,lo,hi,_,_,h,_,_=>by omega
 |f+1,lo,hi,h1,h2,h3,h4,h5=>by
  unfold rt
  by_cases h:lo<hi
  ·rw[decide_eq_true h,cond_true]
   have hm1:lo<=(lo+hi)/2:=zA
   have hm2:(lo+hi)/2<hi:=zA
   cases hp:p ((lo+hi)/2)with
   |true=>exact pd f _ _ hm1 zA zA h4 fun _=>hp
   |false=>exact pd f _ _ zA h2 zA (fun _=>by rw[LY];exact hp) h5
  ·rw[decide_eq_false h,cond_false]
   have:lo=hi:=zA
   subst this
   exact⟨h2,h4,h5⟩
theorem pb (p:Nat->Bool)(n:Nat):rr p n<=n/\(0<rr p n->p (rr p n-1)=false)/\(rr p n<n->p (rr p n)=true):=
 pd (n+1) 0 n zA (MP _) zA (fun h=>zA) (fun h=>zA)
theorem ls {H:Hp}(n:Nat)(hn:n<=1000000)(f:FuncId)(cs:List Cv)(ty:TypeId)(hcs:cs.all Cv.isV=true)(x:Int)(p:Nat->Bool)
  (hp:∀i,i<n->CallX H KI f [I i,.c (.p 1 0),.c (.p 2 0)] [(1,⟨true,cs,ty⟩),(2,⟨true,[.v (.int .i64 x)],3⟩)] (fun _:Unit=>Bo (p i)) (fun _=>[]) (fun _ _=>True)):
  CallX H KI 265 [I n,.c (.fn f [(1,0),(2,0)])] [(1,⟨true,cs,ty⟩),(2,⟨true,[.v (.int .i64 x)],3⟩)] (fun _:Unit=>I (rr p n)) (fun _=>[]) (fun _ _=>True):=by
 have hM:ClM [(1,⟨true,cs,ty⟩),(2,⟨true,[.v (.int .i64 x)],3⟩)]:=zD (by simp only[Nj,zZ hcs];rfl)
 refine kX func265 WK ntmps265 fun C hR hP hH hL=>?_
 have hR:=hR ()
 generalize hq:rr p n=q at*
 unfold rr at hq
 refine zB 100 (vv ?_)
 refine zL (M0:=[(1,⟨true,cs,ty⟩),(2,⟨true,[.v (.int .i64 x)],3⟩)]) (α:={z:Nat×Nat×Nat//z.2.1<=z.2.2/\z.2.2<=n/\z.2.2-z.2.1<z.1/\rt p z.1 z.2.1 z.2.2=q}) hP (fun z=>[(1,true,.c (.fn f [(1,0),(2,0)])),(5,true,I z.val.2.1),(6,true,I z.val.2.2)])
  (fun _=>[(1,⟨true,cs,ty⟩),(2,⟨true,[.v (.int .i64 x)],3⟩)]) (fun z=>z.val.1) ⟨(n+1,0,n),zd,zd,zd,hq⟩ (fun _=>hM) (fun _=>zP rfl) [(1,1),(2,2)] ?_ ?_
 ·exact⟨rfl,⟨⟨rfl,rfl⟩,⟨rfl,rfl⟩,trivial⟩,⟨rfl,rfl,rfl,trivial⟩,⟨oV (zf hcs),oR,trivial⟩⟩
 rintro⟨⟨g,lo,hi⟩,h1,h2,h3,hx⟩ J hj
 simp only at hj h1 h2 h3 hx⊢
 cases g with
 |zero=>omega
 |succ g=>
 rw[rt]at hx
 refine zB 110 (vv ?_)
 have em:IntKind.i64.wrap ((IntKind.u64.wrap (IntKind.i64.wrap ((lo:Int)+(hi:Int)))).fdiv (2^min 1 64))=(((lo+hi)/2:Nat):Int):=by
  rw[y8 (show-9223372036854775808<=(lo:Int)+(hi:Int) by omega) zA]
  have e1:IntKind.u64.wrap ((lo:Int)+(hi:Int))=(lo:Int)+(hi:Int):=jR zA zA
  rw[e1]
  show IntKind.i64.wrap (((lo:Int)+(hi:Int)).fdiv 2)=_
  rw[LC _ zA,y8 zA zA]
  omega
 rw[em]
 refine zY (fun hc=>?_) (fun hc=>?_)
 ·have hc:lo<hi:=zI hc
  rw[decide_eq_true hc,cond_true]at hx
  have hmid:(lo+hi)/2<n:=zA
  generalize hmm:(lo+hi)/2=mid at*
  refine CallQ.hr [(1,1),(2,2)] 120 (hp mid hmid) hH hM rfl rfl ⟨oW (zf hcs),oS,trivial⟩ rfl (.inr rfl) ?_
  simp only[Mem.ren,Nm,V.ren,Cv.ren]
  cases hpm:p mid with
  |true=>
   rw[hpm,cond_true]at hx
   refine vv ?_
   exact hj _ _ ⟨(g,lo,mid),by simp only;omega,by simp only;omega,by simp only;omega,hx⟩ [(1,1),(2,2)] yK ⟨rfl,⟨⟨rfl,rfl⟩,⟨rfl,rfl⟩,trivial⟩,⟨rfl,rfl,rfl,trivial⟩,⟨oV (zf hcs),oR,trivial⟩⟩
  |false=>
   rw[hpm,cond_false]at hx
   simp only[go_sem,yt (i:=mid)]
   exact hj _ _ ⟨(g,mid+1,hi),by simp only;omega,by simp only;omega,by simp only;omega,hx⟩ [(1,1),(2,2)] yK ⟨rfl,⟨⟨rfl,rfl⟩,⟨rfl,rfl⟩,trivial⟩,⟨rfl,rfl,rfl,trivial⟩,⟨oV (zf hcs),oR,trivial⟩⟩
 ·have hc:¬lo<hi:=by have:=of_decide_eq_false hc;omega
  rw[decide_eq_false hc,cond_false]at hx
  subst hx
  exact yM (hR C hL trivial) hM
theorem Y9 {H:Hp}(c:CuL)(hc:c.ok H)(x:Int)(i:Nat)(hi:i<c.c.xs.length)(hx:c.c.xs.length<=1000000):CallX H KI 266 [I i,.c (.p 1 0),.c (.p 2 0)] [(1,⟨true,iW c,78⟩),(2,⟨true,[.v (.int .i64 x)],3⟩)] (fun _:Unit=>Bo (decide (x<c.c.xs.getD i 0))) (fun _=>[]) (fun _ _=>True):=by
 have hM:ClM [(1,⟨true,iW c,78⟩),(2,⟨true,[.v (.int .i64 x)],3⟩)]:=zD rfl
 have hil:(zT c.c.xs).length=c.c.xs.length:=by simp[zT]
 have hx0:(zT c.c.xs).flatten[i]?=some (iv (c.c.xs.getD i 0)):=by
  have h1:=yT (k:=1) (zT c.c.xs) (fun r hr=>by obtain⟨z,_,rfl⟩:=Nz.1 hr;rfl) i 0 zA zA
  unfold zC at h1
  rw[MC,Mi,Mq]at h1
  have h2:(zT c.c.xs)[i]'(by omega)=[iv c.c.xs[i]]:=by simp[zT]
  rw[h2]at h1
  have h3:c.c.xs.getD i 0=c.c.xs[i]:=by rw[Nl,No hi];rfl
  rw[h3]
  cases hq:(zT c.c.xs).flatten[i]? with
  |none=>rw[hq]at h1;cases h1
  |some z=>rw[hq]at h1;simpa using h1
 obtain⟨b0,o0,c0,hv0,cs,el,mk,hb0,hcc⟩:=hc.x.at (by intro h;rw[h]at hx0;cases hx0)
 rw[hil]at hv0
 have hcx:=hcc i _ hx0
 have hM2:iW c=[.v (.slice (some ⟨b0,o0,none⟩) c.c.xs.length c0),.v (.slice c.y.o c.c.ys.length c.y.c)]:=by
  unfold iW;rw[<-hv0]
 rw[hM2]at hM⊢
 refine kX func266 WJ ntmps266 fun C hR hP hH hL=>?_
 refine zB 100 (vv ?_)
 refine Sm.dg 110 6 zw (vv ?_)
 refine DOpQ.own 120 (Stp.idxV rfl rfl rfl uv zA zA) ?_
 simp only[go_sem,Mi]
 refine zF 120 (fun _=>zQ (hH _ _ hb0) hcx rfl rfl rfl) (vv ?_)
 exact yM (hR () C hL trivial) hM
def qi (l:List Int)(x:Int)(i:Nat):Bool:=decide (x<l.getD i 0)
def yh (l:List Int)(x:Int):Nat:=rr (qi l x) l.length
theorem hO {H:Hp}(c:CuL)(hc:c.ok H)(x:Int)(hx:c.c.xs.length<=1000000):CallH H KI 226 [.agg (iW c),I x] (I ((yh c.c.xs x:Int)-1)):=by
 have hle:yh c.c.xs x<=c.c.xs.length:=(pb _ _).1
 refine kH func226 Wh ntmps226 fun C hR hP hH hL=>?_
 refine zB 100 (vv ?_)
 refine CallQ.hr [(1,100),(2,101)] 120 (ls c.c.xs.length hx 266 (iW c) 78 rfl x (qi c.c.xs x) (fun i hi=>Y9 c hc x i hi hx)) hH (zD rfl) rfl rfl ⟨⟨_,rfl,.inr ⟨rfl,[],rfl⟩⟩,⟨_,rfl,.inr ⟨rfl,[],rfl⟩⟩,trivial⟩ rfl (.inr rfl) ?_
 simp only[Mem.ren,Nm,V.ren,Cv.ren]
 refine vv ?_
 refine vK (hR C hL) ?_
 show IntKind.i64.wrap ((yh c.c.xs x:Int)-1)=_
 rw[y8 zA zA]
theorem wg:∀(l:List Int),ux l=true->∀i,i+1<l.length->l.getD i 0<l.getD (i+1) 0
 |[],_,i,h=>by simp at h
 |[x],_,i,h=>by simp at h
 |x::y::l,hb,i,h=>by
  unfold ux at hb
  rw[Ns,decide_eq_true_eq]at hb
  cases i with
  |zero=>exact hb.1
  |succ i=>
   have:=wg (y::l) hb.2 i (by simpa using h)
   simpa using this
theorem wj {p:Int->Bool}{l:List Int}(h:l.all p=true)(i:Nat)(hi:i<l.length):p (l.getD i 0)=true:=by
 rw[Nl,No hi]
 exact Nr.1 h _ (Nv hi)
theorem vi {n:Int}(h:yB n=true): -1073741824<=n/\n<=1073741824:=of_decide_eq_true h
def jl (x0 x1 y0 y1 x:Int):Int:=y0+(x-x0)*(y1-y0)/(x1-x0)
def uK (c:Cu)(x:Int):Int:=
 bif decide (x<=c.xs.getD 0 0)then c.ys.getD 0 0 else bif decide (c.xs.getD (c.xs.length-1) 0<=x)then c.ys.getD (c.xs.length-1) 0
 else jl (c.xs.getD (yh c.xs x-1) 0) (c.xs.getD (yh c.xs x) 0) (c.ys.getD (yh c.xs x-1) 0) (c.ys.getD (yh c.xs x) 0) x
structure CuOk (c:Cu):Prop where
 len:c.xs.length=c.ys.length
 two:2<=c.xs.length
 big:c.xs.length<=32
 x:c.xs.all yB=true
 y:c.ys.all yB=true
 inc:ux c.xs=true
theorem cW {c:Cu}(h:wU c.xs c.ys=true):CuOk c:=by
 unfold wU xT at h
 simp only[Ns,decide_eq_true_eq]at h
 exact⟨h.1,h.2.1.1.1,h.2.1.1.2,h.2.1.2.1,h.2.2,h.2.1.2.2⟩
theorem ah {l:List Int}{x:Int}(h2:2<=l.length)(h0:l.getD 0 0<x)(h1:x<l.getD (l.length-1) 0):1<=yh l x/\yh l x<l.length/\l.getD (yh l x-1) 0<=x/\x<l.getD (yh l x) 0:=by
 obtain⟨q1,q2,q3⟩:=pb (qi l x) l.length
 change yh l x<=l.length at q1
 change 0<yh l x->qi l x (yh l x-1)=false at q2
 change yh l x<l.length->qi l x (yh l x)=true at q3
 have n0:yh l x≠0:=fun hz=>by
  have:=q3 zA
  rw[hz]at this
  have:=of_decide_eq_true this
  omega
 have n1:yh l x≠l.length:=fun hz=>by
  have:=q2 zA
  rw[hz]at this
  have:=of_decide_eq_false this
  omega
 have a1:=of_decide_eq_false (q2 zA)
 have a2:=of_decide_eq_true (q3 zA)
 exact⟨zA,zA,zA,a2⟩
theorem pk {a b A B:Int}(h1:0<=a)(h2:a<=A)(h3: -B<=b)(h4:b<=B): -(A*B)<=a*b/\a*b<=A*B:=by
 have hB:0<=B:=zA
 have k1:=L6 h4 h1
 have k2:=LH h2 hB
 have k3:=L6 h3 h1
 have k4:a* -B= -(a*B):=LN ..
 omega
theorem ZW {x0 x1 y0 y1 x:Int}(h0:x0<=x)(h1:x<x1)(hx0: -1073741824<=x0)(hx1:x1<=1073741824)(hy0: -1073741824<=y0/\y0<=1073741824)(hy1: -1073741824<=y1/\y1<=1073741824):
  (-4611686018427387904<=(x-x0)*(y1-y0)/\(x-x0)*(y1-y0)<=4611686018427387904)/\ -2147483648<=(x-x0)*(y1-y0)/(x1-x0)/\(x-x0)*(y1-y0)/(x1-x0)<=2147483648:=by
 have k:=pk (a:=x-x0) (b:=y1-y0) (A:=2147483648) (B:=2147483648) zA zA zA zA
 have k2:=pk (a:=x-x0) (b:=y1-y0) (A:=x1-x0) (B:=2147483648) zA zA zA zA
 refine⟨⟨zA,zA⟩,?_,?_⟩
 ·rw[Int.le_ediv_iff_mul_le zA]
  have:(-2147483648:Int)*(x1-x0)= -((x1-x0)*2147483648):=by rw[Int.neg_mul,KF]
  omega
 ·refine Lt zA ?_
  have:(2147483648:Int)*(x1-x0)=(x1-x0)*2147483648:=KF ..
  omega
theorem im {H:Hp}(c:CuL)(hc:c.ok H)(k:CuOk c.c)(x:Int):CallH H KI 168 [.agg (iW c),I x] (I (uK c.c x)):=by
 have k1:=k.len
 have k2:=k.two
 have k3:=k.big
 have hil:(zT c.c.xs).length=c.c.xs.length:=by simp[zT]
 have hiy:(zT c.c.ys).length=c.c.ys.length:=by simp[zT]
 have e1:((c.c.xs.length:Int)-1)=((c.c.xs.length-1:Nat):Int):=zA
 have ew:IntKind.i64.wrap ((c.c.xs.length:Int)-1)=((c.c.xs.length-1:Nat):Int):=by rw[y8 zA zA];exact e1
 refine kH func168 V4 ntmps168 fun C hR hP hH hL=>?_
 refine zB 100 (vv ?_)
 refine Sm.bringI 5 3 13 (hc.x.mono hH) rfl rfl (zB 110 ?_)
 simp only[go_sem,yY (show 0<c.c.xs.length by omega),Int.toNat_zero]
 refine⟨zA,?_⟩
 refine zY (fun h0=>?_) (fun h0=>?_)
 ·refine Sm.bringI 6 3 18 (hc.y.mono hH) rfl rfl (zB 110 ?_)
  simp only[go_sem,yY (show 0<c.c.ys.length by omega),Int.toNat_zero]
  refine⟨zA,?_⟩
  refine vK (hR C hL) ?_
  unfold uK;rw[h0];rfl
 ·refine Sm.bringI 6 3 24 (hc.x.mono hH) rfl rfl (zB 110 ?_)
  simp only[go_sem,ew,yY (show c.c.xs.length-1<c.c.xs.length by omega)]
  refine⟨⟨zA,zA⟩,?_⟩
  refine zY (fun h1=>?_) (fun h1=>?_)
  ·refine Sm.bringI 7 3 31 (hc.y.mono hH) rfl rfl (zB 110 ?_)
   simp only[go_sem,ew,yY (show c.c.xs.length-1<c.c.ys.length by omega)]
   refine⟨⟨zA,zA⟩,?_⟩
   refine vK (hR C hL) ?_
   unfold uK;rw[h0,h1];rfl
  ·have h0':=of_decide_eq_false h0
   have h1':=of_decide_eq_false h1
   have hs:=ah (l:=c.c.xs) (x:=x) k2 zA zA
   obtain⟨s1,s2,s3,s4⟩:=hs
   have hv:uK c.c x=jl (c.c.xs.getD (yh c.c.xs x-1) 0) (c.c.xs.getD (yh c.c.xs x) 0) (c.c.ys.getD (yh c.c.xs x-1) 0) (c.c.ys.getD (yh c.c.xs x) 0) x:=by
    unfold uK;rw[h0,h1];rfl
   rw[hv]at hR
   have hsc:=hO c hc x zA
   have b0:=vi (wj k.x (yh c.c.xs x-1) zA)
   have b1:=vi (wj k.x (yh c.c.xs x) zA)
   have b2:=vi (wj k.y (yh c.c.xs x-1) zA)
   have b3:=vi (wj k.y (yh c.c.xs x) zA)
   generalize yh c.c.xs x=s at*
   have es:((s:Int)-1)=((s-1:Nat):Int):=zA
   rw[es]at hsc
   obtain⟨m1,m2,m3⟩:=ZW s3 s4 b0.1 b1.2 b2 b3
   refine zO 120 hsc hH rfl (vv ?_)
   refine Sm.bringC 8 3 100 0 (hc.x.mono hH) rfl rfl rfl ?_
   refine Sm.bringC 9 3 100 1 (hc.y.mono hH) rfl rfl rfl ?_
   rw[hil,hiy,qG,qG]
   refine Sm.dg 120 38 zw ?_
   have gx0:=yY (l:=c.c.xs) (show s-1<c.c.xs.length by omega)
   have gx1:=yY (l:=c.c.xs) (show s<c.c.xs.length by omega)
   have gy0:=yY (l:=c.c.ys) (show s-1<c.c.ys.length by omega)
   have gy1:=yY (l:=c.c.ys) (show s<c.c.ys.length by omega)
   have es2:IntKind.i64.wrap (((s-1:Nat):Int)+1)=(s:Int):=by rw[y8 zA zA];omega
   have wx:IntKind.i64.wrap (x-c.c.xs.getD (s-1) 0)=x-c.c.xs.getD (s-1) 0:=y8 zA zA
   have wy:IntKind.i64.wrap (c.c.ys.getD s 0-c.c.ys.getD (s-1) 0)=c.c.ys.getD s 0-c.c.ys.getD (s-1) 0:=y8 zA zA
   have wd:IntKind.i64.wrap (c.c.xs.getD s 0-c.c.xs.getD (s-1) 0)=c.c.xs.getD s 0-c.c.xs.getD (s-1) 0:=y8 zA zA
   have wp:IntKind.i64.wrap ((x-c.c.xs.getD (s-1) 0)*(c.c.ys.getD s 0-c.c.ys.getD (s-1) 0))=(x-c.c.xs.getD (s-1) 0)*(c.c.ys.getD s 0-c.c.ys.getD (s-1) 0):=y8 zA zA
   simp only[go_sem,gx0,gx1,gy0,gy1,es2,wx,wy,wd,wp]
   refine⟨⟨zA,zA⟩,⟨zA,zA⟩,⟨zA,zA⟩,⟨zA,zA⟩,⟨zA,zA⟩,⟨zA,zA⟩,?_⟩
   refine DCallQ.pure 130 (fO _ _ m1.1 m1.2 zA zA) rfl (vv ?_)
   refine vK (hR C hL) ?_
   unfold jl
   exact y8 zA zA
def qk (q:Int×Int)(y:Int):Int×Int:=(min q.1 y,max q.2 y)
theorem Yf (q:Int×Int)(y:Int):CallOk KI 288 [I y,.c (.p 1 0)] [(1,⟨false,rC q,129⟩)] (.tup []) [(1,⟨false,rC (qk q y),129⟩)]:=by
 refine kN 100 func288 Xp ntmps288 fun C hR hP=>?_
 refine vv ?_
 exact vF hR (zU hR rfl trivial rfl (uL (SubS.sub ⟨oS,trivial⟩)) (u6 (zD rfl)) (zH rfl))
def jc (r:Int×Int):List (Int×Int)->Int×Int->Int×Int
 |[],q=>q
 |n::l,q=>jc r l (bif (bif decide (r.1<n.1)then decide (n.1<r.2)else false)then qk q n.2 else q)
def mh (c:Cu)(r:Int×Int):(Int×Int)×Int:=
 bif (bif !wU c.xs c.ys then true else decide (r.2<r.1))then((0,0),1)else(jc r (c.xs.zip c.ys) (qk (uK c r.1,uK c r.1) (uK c r.2)),0)
theorem Yp {H:Hp}(c:CuL)(hc:c.ok H)(hlx:c.c.xs.length<=1000000000000000)(hly:c.c.ys.length<=1000000000000000)(r:Int×Int):CallH H KI 280 [.agg (iW c),rA r] (rE (mh c.c r)):=by
 have hval:=lN c.x c.y c.c.xs c.c.ys hc.x hc.y hlx hly
 have hil:(zT c.c.xs).length=c.c.xs.length:=by simp[zT]
 have hiy:(zT c.c.ys).length=c.c.ys.length:=by simp[zT]
 have hcv:iW c=[.v (vsl c.x c.c.xs.length),.v (vsl c.y c.c.ys.length)]:=rfl
 refine kH func280 Xv ntmps280 fun C hR hP hH hL=>?_
 refine zB 100 (vv ?_)
 refine zO 110 hval hH rfl (vv ?_)
 refine zY (fun h0=>?_) (fun h0=>?_)
 ·have hq:mh c.c r=((0,0),1):=by unfold mh;rw[h0];rfl
  rw[hq]at hR
  exact yM (hR C hL) ClM.nil
 have hq:mh c.c r=(jc r (c.c.xs.zip c.c.ys) (qk (uK c.c r.1,uK c.c r.1) (uK c.c r.2)),0):=by unfold mh;rw[h0];rfl
 rw[hq]at hR
 have hok:wU c.c.xs c.c.ys=true:=by
  cases hk:wU c.c.xs c.c.ys with
  |true=>rfl
  |false=>rw[hk]at h0;cases h0
 have k:=cW hok
 have k1:=k.len
 have k2:=k.two
 have k3:=k.big
 have hv1:=im c hc k r.1
 have hv2:=im c hc k r.2
 refine Sm.dg 120 10 zw (vv ?_)
 refine yq 130 (fun _=>hv1) hH (fun _=>rfl) (vv ?_)
 refine yq 130 (fun _=>hv1) hH (fun _=>rfl) (vv ?_)
 refine zO 140 hv2 hH rfl (vv ?_)
 refine CallQ.ren [(1,130)] 140 (Yf (uK c.c r.1,uK c.c r.1) (uK c.c r.2)) (zD rfl) rfl rfl ⟨oS,trivial⟩ rfl (.inl rfl) ?_
 simp only[Mem.ren,Nk,Nm,Bk.ren,MZ,V.ren,W.ren,Cv.ren,rn,Nat.reduceBEq,cond_true,cond_false,Function.comp_def]
 refine vv ?_
 refine Sm.bringI 5 3 38 (hc.x.mono hH) rfl rfl ?_
 have hzl:(c.c.xs.zip c.c.ys).length=c.c.xs.length:=by rw[List.length_zip];omega
 generalize hq0:qk (uK c.c r.1,uK c.c r.1) (uK c.c r.2)=q0 at*
 generalize hRR:jc r (c.c.xs.zip c.c.ys) q0=RR at*
 refine zL (M0:=[]) (α:={z:Nat×(Int×Int)//z.1<=c.c.xs.length/\jc r ((c.c.xs.zip c.c.ys).drop z.1) z.2=RR}) hP (fun z=>[(2,true,.c (.p 2 0)),(3,true,.c (.p 3 0)),(4,true,.c (.p 4 0)),(6,true,.c (.p 6 0)),(7,true,.c (.fn 288 [(6,0)])),(38,true,.c (.sl 5 0 c.c.xs.length 1)),(39,true,I c.c.xs.length),(40,true,I z.val.1)])
  (fun z=>[(2,⟨false,iW c,78⟩),(3,⟨false,rC r,129⟩),(4,⟨false,rC (0,0),129⟩),(6,⟨false,rC z.val.2,129⟩),(5,⟨true,c.c.xs.map iC,3⟩)]) (fun z=>c.c.xs.length-z.val.1) ⟨(0,q0),zd,hRR⟩ (fun _=>zD (by simp only[Nj,zZ (yD _)];rfl)) (fun _=>zP rfl) [(2,100),(3,101),(4,102),(6,130),(5,5)] ?_ ?_
 ·exact zk
 rintro⟨⟨i,q⟩,hi,hx⟩ J hj
 simp only at hj hi hx⊢
 refine zB 150 (vv ?_)
 refine zY (fun hc2=>?_) (fun hc2=>?_)
 ·have hc2:=zI hc2
  have hdz:(c.c.xs.zip c.c.ys).drop i=(c.c.xs.getD i 0,c.c.ys.getD i 0)::(c.c.xs.zip c.c.ys).drop (i+1):=by
   rw[Np zA,List.getElem_zip]
   rw[Nl,No hc2,Nl,No (show i<c.c.ys.length by omega)]
   rfl
  rw[hdz,jc]at hx
  have gx:=yY hc2
  have gy:=yY (l:=c.c.ys) (show i<c.c.ys.length by omega)
  generalize c.c.xs.getD i 0=xi at*
  generalize c.c.ys.getD i 0=yi at*
  simp only[go_sem,gx]
  refine⟨⟨zA,zA⟩,?_⟩
  refine zY (fun h1=>?_) (fun h1=>?_)
  ·rw[h1,cond_true]at hx
   refine Sm.bringI 8 3 57 (hc.y.mono hH) rfl rfl (zB 160 ?_)
   simp only[go_sem,gy]
   refine⟨⟨zA,zA⟩,?_⟩
   refine CallQ.ren [(1,6)] 170 (Yf q yi) (zD rfl) rfl rfl ⟨oS,trivial⟩ rfl (.inl rfl) ?_
   simp only[Mem.ren,Nk,Nm,Bk.ren,MZ,V.ren,W.ren,Cv.ren,rn,Nat.reduceBEq,cond_true,cond_false,Function.comp_def]
   simp only[go_sem,yt (i:=i)]
   exact hj _ _ ⟨(i+1,qk q yi),hc2,hx⟩ [(2,2),(3,3),(4,4),(6,6),(5,5)] yK zk
  ·rw[h1,cond_false]at hx
   refine zB 160 ?_
   simp only[go_sem,yt (i:=i)]
   exact hj _ _ ⟨(i+1,q),hc2,hx⟩ [(2,2),(3,3),(4,4),(6,6),(5,5)] yK zk
 ·have hc2:=zJ hi hc2
  rw[hc2,<-hzl,Ny]at hx
  have hx:q=RR:=hx
  subst hx
  exact yM (hR C hL) ClM.nil
end Go.Proofs.YtbnkiacicnnmkaaGreat.Fx
