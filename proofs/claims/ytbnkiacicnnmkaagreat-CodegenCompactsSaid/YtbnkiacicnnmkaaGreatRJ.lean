/-  -/
import Derived.Test.YtbnkiacicnnmkaaGreatQS
open Go.Proofs.Tryz
open Go.Proofs.Tryz renaming prog→HT
set_option linter.unusedSimpArgs false
set_option linter.unusedVariables false
set_option maxRecDepth 100000
set_option maxHeartbeats 4000000
namespace Go.Proofs.YtbnkiacicnnmkaaGreat.Fx
open Vg Tf
theorem _root_.Go.Proofs.YtbnkiacicnnmkaaGreat.Vg.Rel.eqc {S:Bs}{w0 w:World}{β:Vl}{M:Mem}(h:Rel S w0 β M w){n:Nat}{b:Bk}{cs:List Cv}(hb:M.get n=some b)(hg:∀β',Agree M β β'->cs.map (Cv.g β')=b.cells.map (Cv.g β')):Rel S w0 β ((n,⟨b.ro,cs,b.elem⟩)::M) w:=by
 have hl:cs.length=b.cells.length:=by have:=congrArg List.length (hg β (Agree.refl _ _));simpa using this
 have hs:∀k,(Mem.get ((n,⟨b.ro,cs,b.elem⟩)::M) k).isSome=(M.get k).isSome:=fun k=>by
  rw[zE]
  split
  ·rename_i hk;subst hk;rw[hb];rfl
  ·rfl
 have hq:∀k c,Mem.get ((n,⟨b.ro,cs,b.elem⟩)::M) k=some c->∃c0,M.get k=some c0/\c.ro=c0.ro/\c.elem=c0.elem/\c.cells.length=c0.cells.length/\∀β',Agree M β β'->c.cells.map (Cv.g β')=c0.cells.map (Cv.g β'):=fun k c hc=>by
  rw[zE]at hc
  split at hc
  ·rename_i hk;subst hk;cases hc;exact⟨b,hb,rfl,rfl,hl,hg⟩
  ·exact⟨c,hc,rfl,rfl,rfl,fun _ _=>rfl⟩
 refine⟨h.fr,⟨fun β' hag k c hc=>?_,fun k c hc hu=>?_,fun k m c c' hc hc' hne hr hv hu1 hu2=>?_⟩,fun k c hc hr hu hS=>?_,fun k l hk=>?_⟩
 ·obtain⟨c0,q1,q2,q3,q4,q5⟩:=hq k c hc
  have hag':Agree M β β':=fun j hj=>hag j (by rw[hs];exact hj)
  have h0:=h.mem.ok β' hag' k c0 q1
  unfold BkOk at h0⊢
  rw[q2,q3,q5 β' hag',q4]
  split at h0
  ·rename_i hh
   rw[if_pos hh]
   exact⟨JX.1 (by rw[q4,h0.1];rfl),h0.2⟩
  ·rename_i hh
   rw[if_neg hh];exact h0
 ·obtain⟨c0,q1,_⟩:=hq k c hc
  exact h.mem.there k c0 q1 hu
 ·obtain⟨c0,q1,q2,q3,q4,q5⟩:=hq k c hc
  obtain⟨d0,r1,r2,r3,r4,r5⟩:=hq m c' hc'
  refine h.mem.apart k m c0 d0 q1 r1 hne (by rw[<-q2];exact hr) ?_ hu1 hu2
  rcases hv with hv|hv
  ·exact .inl (by rw[<-r2];exact hv)
  ·exact .inr fun he=>hv (JX.1 (by rw[r4,he];rfl))
 ·obtain⟨c0,q1,q2,_⟩:=hq k c hc
  exact h.own k c0 q1 (by rw[<-q2];exact hr) hu hS
 ·have:=h.pin k l hk
  exact⟨by rw[hs];exact this.1,this.2⟩
theorem _root_.Go.Proofs.YtbnkiacicnnmkaaGreat.Vg.Sm.nilAt {P:Program}{nt:Nat}{C:Cx}{todo:List It}{e:Env}{M:Mem}(nm esz:Nat)(el:TypeId)(n i:Nat){b:Bk}(hn:M.get nm=none)(hb:M.get n=some b)(hi:b.cells[i]?=some (.v (.slice none 0 0)))
  (h:Sm P nt C todo e ((n,⟨b.ro,b.cells.set i (.sl nm 0 0 esz),b.elem⟩)::(nm,⟨false,[],el⟩)::M)):Sm P nt C todo e M:=fun β a w h1 h2 h3 h4=>by
 have r0:=h1.nil nm hn el
 have hne:¬n=nm:=fun hh=>by subst hh;rw[hn]at hb;cases hb
 have hbm:Mem.get ((nm,(⟨false,[],el⟩:Bk))::M) n=some b:=by rw[zE,if_neg hne];exact hb
 have r:=r0.eqc (cs:=b.cells.set i (.sl nm 0 0 esz)) hbm (fun β' hag=>by
  have hnu:=hag nm (by rw[zE,if_pos rfl];rfl)
  have e1:(Cv.sl nm 0 0 esz).g β'= .slice none 0 0:=by simp[Cv.g,hnu,Loc.emp]
  rw[Jy,e1]
  refine Jn fun k=>?_
  rw[IJ]
  split
  ·rename_i hk
   subst hk
   have hlt:=(JW.1 hi).1
   rw[if_pos (by simpa using hlt),JO,hi];rfl
  ·rfl)
 refine h _ a w r ((h2.nil (b:=⟨false,[],el⟩) hn).on fun k hk=>?_) h3 h4
 refine⟨?_,rfl⟩
 rw[zE]
 split
 ·rfl
 ·exact hk
@[go_sem ↓] theorem VN:rm 1 13=[(0,13)]:=rfl
structure Sg where
 nm:Str
 ty:Ft
 r:Int×Int
def Sg.w (s:Sg):List Value:=sv s.nm::(xN s.ty++[iv s.r.1,iv s.r.2])
def KN:Dg:=⟨[],[],[],[],[],[],[]⟩
def dz:DgL:=⟨[],[],[],[],[],[],[],⟨none,0⟩,⟨none,0⟩,⟨none,0⟩,⟨none,0⟩,⟨none,0⟩,⟨none,0⟩⟩
theorem av (H:Hp):dz.ok H:=⟨SlH.nil _,SlH.nil _,SlH.nil _,SlH.nil _,SlH.nil _,SlH.nil _,by simp[dz],by simp[dz],by simp[dz]⟩
structure CkR where
 d:Dg
 sg:List Sg
 od:List Nat
def cw:CkR:=⟨KN,[],[]⟩
def Ny (d:Dg)(rf:List (Int×Int))(i:Nat):Sg:=⟨(zU d).getD i [],xb d i,rf.getD i (0,0)⟩
def t0 (d:Dg)(rf:List (Int×Int))(n:Nat):List Sg:=(List.range n).map (Ny d rf)
def xu (d:Dg)(T:Bl->List (Int×Int)->Int×Int):CkR×Str×Int:=
 bif !sY d then(cw,[],1)else match lk d with
 |some e=>(cw,e.1,e.2)
 |none=>match gq d with
  |some s=>(cw,s,13)
  |none=>match ug d T (wU (xF d) d.bls.length) (d.bls.length+8) 1 (r0 d) (s0 d)with
   |none=>(cw,[],0)
   |some (_,some e)=>(cw,e.1,e.2)
   |some (rf,none)=>(⟨d,t0 d rf (d.ins.length+d.bls.length),wU (xF d) d.bls.length⟩,[],0)
structure CkL where
 d:DgL
 sg:List Sg
 od:List Nat
 s:Sv
 o:Sv
def CkL.r (c:CkL):List Value:=c.d.r++[vsl c.s c.sg.length,vsl c.o c.od.length]
def CkL.c (c:CkL):CkR:=⟨c.d.c,c.sg,c.od⟩
structure CkL.ok (H:Hp) (c:CkL):Prop where
 d:c.d.ok H
 s:SlH H (vsl c.s c.sg.length) 13 (c.sg.map Sg.w)
 o:SlH H (vsl c.o c.od.length) 1 (c.od.map fun n:Nat=>[iv n])
def cH:CkL:=⟨dz,[],[],⟨none,0⟩,⟨none,0⟩⟩
theorem qW (H:Hp):cH.ok H:=⟨av H,SlH.nil _,SlH.nil _⟩
def cW (H:Hp)(d:DgL)(T:Bl->List (Int×Int)->Int×Int):Prop:=∀(H':Hp) cp bT bC bM bS,H.le H'->Ck H' cp d bT bC bM bS->∀b∈d.bls,gZ b.c.kd=true->xj b.c=true->∀rs:List (Int×Int),rs.length=b.c.ins.length->CallX H' HT 256 [.c (.v cp),z3 b.r,.c (.sl 1 0 rs.length 2)] [(1,⟨true,zC (rs.map ya),129⟩)] (fun _:Unit=>rA (T b.c rs)) (fun _=>[]) (fun _ _=>True)
theorem ZW {l ins:List Str}(h:rP l ins=none):∀s∈ins,mb l s=true:=fun s hs=>by
 unfold rP at h
 rw[I7]at h
 simpa using h s hs
theorem mm {d:Dg}{T:Bl->List (Int×Int)->Int×Int}{od:List Nat}:∀{f:Nat} {n:Int} {rs st rf:List (Int×Int)} {e:Str×Int},ug d T od f n rs st=some (rf,some e)->e.2≠0
 |0,_,_,_,_,_,h=>by cases h
 |f+1,n,rs,st,rf,e,h=>by
  unfold ug at h
  cases he:(yl d T st od rs).2 with
  |some e'=>
   rw[he]at h
   have:=pD d T st od rs e' he
   injection h with h
   have h2:e'=e:=by injection h with _ h;injection h
   subst h2
   simpa using this
  |none=>
   rw[he]at h
   simp only at h
   cases hc:(rr d (decide (8<=n)) (yl d T st od rs).1 (List.range d.bls.length) st false).2 with
   |false=>rw[hc,cond_false]at h;injection h with h;injection h with _ h;cases h
   |true=>rw[hc,cond_true]at h;exact mm h
theorem ml {d:Dg}{T:Bl->List (Int×Int)->Int×Int}{od:List Nat}{f:Nat}{n:Int}{rf:List (Int×Int)}(h:ug d T od f n (r0 d) (s0 d)=some (rf,none)):rf.length=d.ins.length+d.bls.length:=by
 obtain⟨rs,st,⟨q1,q2⟩,_,rfl⟩:=mj (Q:=fun rs st=>rs.length=d.ins.length+d.bls.length/\st.length=d.bls.length) (fun rs st big ⟨q1,q2⟩ _=>⟨by rw[vg];exact q1,by rw[tF];exact q2⟩) f n _ _ rf ⟨by simp[r0,wK],by simp[s0,wK]⟩ h
 rw[vg];exact q1
theorem tw (d:Dg)(rf:List (Int×Int))(n:Nat):(t0 d rf n).length=n:=by simp[t0]
theorem g9 (d:Dg)(rf:List (Int×Int))(n:Nat):zC ((t0 d rf (n+1)).map Sg.w)=zC ((t0 d rf n).map Sg.w)++(Sg.w (Ny d rf n)).map Cv.v:=by
 unfold t0
 rw[List.range_succ,JN,JN]
 simp[zC]
theorem V2 (l:List Nat):zC (l.map fun n:Nat=>[iv n])=l.map nC:=by
 induction l with
 |nil=>rfl
 |cons x l ih=>rw[Ky,zj,ih];rfl
theorem tK {α:Type}{f:α->Option (Str×Int)}(hf:∀x e,f x=some e->e.2≠0):∀{l:List α} {e:Str×Int},zu f l=some e->e.2≠0
 |[],e,h=>by cases h
 |x::l,e,h=>by
  rw[yc]at h
  cases hx:f x with
  |some y=>rw[hx]at h;simp only[Option.or]at h;cases h;exact hf x _ hx
  |none=>rw[hx,Option.none_or]at h;exact tK hf h
theorem iX {sg:List Str}:∀{l seen:List Str} {e:Str×Int},tQ sg seen l=some e->e.2≠0
 |[],seen,e,h=>by cases h
 |s::r,seen,e,h=>by
  unfold tQ at h
  split at h
  ·cases h;simp
  ·split at h
   ·cases h;simp
   ·exact iX h
theorem ZX {d:Dg}{e:Str×Int}(h:lk d=some e):e.2≠0:=by
 unfold lk at h
 cases hd:rN [] (pm d)with
 |some s=>rw[hd]at h;cases h;simp
 |none=>
  rw[hd]at h
  simp only at h
  cases h1:zu (u9 d.tys) d.ins with
  |some y=>
   rw[h1]at h;simp only[Option.or]at h;cases h
   refine tK (fun x e hx=>?_) h1
   unfold u9 at hx
   split at hx
   ·cases hx;simp
   ·split at hx
    ·cases hx;simp
    ·cases hx
  |none=>
   rw[h1,Option.none_or]at h
   cases h2:zu (ub d.tys d.cus d.mas (zU d)) d.bls with
   |some y=>
    rw[h2]at h;simp only[Option.or]at h;cases h
    refine tK (fun x e hx=>?_) h2
    unfold ub at hx
    split at hx
    ·cases hx;simp
    ·split at hx
     ·cases hx;simp
     ·split at hx
      ·cases hx;simp
      ·cases hx
   |none=>
    rw[h2,Option.none_or]at h
    cases h3:tQ (zU d) [] d.ous with
    |some y=>rw[h3]at h;simp only[Option.or]at h;cases h;exact iX h3
    |none=>
     rw[h3,Option.none_or]at h
     refine tK (fun x e hx=>?_) h
     unfold tf at hx
     split at hx
     ·cases hx;simp
     ·split at hx
      ·cases hx;simp
      ·cases hx
theorem cj {H:Hp}(d:DgL)(hd:d.ok H)(hs:d.sm)(T:Bl->List (Int×Int)->Int×Int)(hT:cW H d T):CallX H HT 19 [z3 d.r] [] (fun x:CkL=> .tup [W.agg (x.r.map Cv.v),Ws (xu d.c T).2.1,Wi (xu d.c T).2.2]) (fun _=>[]) (fun x H'=>x.c=(xu d.c T).1/\x.ok H'):=by
 refine kX func19 SK ntmps19 fun C hR hP hH hL=>?_
 refine zB 100 (vv ?_)
 refine zM 110 (WJ d hd hs) hH rfl (vv ?_)
 refine zV (fun hv=>?_) (fun hv=>?_)
 ·have hq:xu d.c T=(cw,[],1):=by unfold xu;rw[hv];rfl
  rw[hq]at hR
  exact yN (hR cH C hL ⟨rfl,qW _⟩) ClM.nil
 have hv2:sY d.c=true:=by simpa using hv
 have B:=Mi hv2
 have hdv:(!sY d.c)=false:=by rw[hv2];rfl
 refine CallQ.x 120 hL (Le d hd hs (by have:=B.ins;omega) (by have:=B.bls;omega)) hH (Sub.nil _) ClM.nil (fun _=>Fresh.nil _ _) rfl rfl rfl (fun x E0 H0 e0 k0 j0 p0=>?_)
 refine vv ?_
 have HH:H.le E0.hp:=hH.trans k0
 have kk:Ck E0.hp x.1 d x.2.1 x.2.2.1 x.2.2.2.1 x.2.2.2.2:=⟨hd.mono HH,hs,by have:=B.ins;omega,by have:=B.bls;omega,p0.mono j0⟩
 obtain⟨cp,bT,bC,bM,bS⟩:=x
 simp only at kk⊢
 have hbl:d.c.bls.length=d.bls.length:=Kv _
 refine zM 130 (NU kk hv2) (Hp.le.refl _) rfl ?_
 cases hall:lk d.c with
 |some e=>
  have hq:xu d.c T=(cw,e.1,e.2):=by unfold xu;rw[hdv,cond_false,hall]
  rw[hq]at hR
  have he2:(e.2 !=0)=true:=by simpa using ZX hall
  simp only[go_sem,Jj,Option.getD_some,he2]
  exact yN (hR cH E0 e0 ⟨rfl,qW _⟩) ClM.nil
 |none=>
 refine vv ?_
 have ckd:=Z4 hv2 hall
 refine zM 140 (V8 kk (fun b hb=>by have:=jc (B.blO b hb);omega)) (Hp.le.refl _) rfl ?_
 cases hlo:gq d.c with
 |some s=>
  have hq:xu d.c T=(cw,s,13):=by unfold xu;rw[hdv,cond_false,hall,hlo]
  rw[hq]at hR
  refine vv ?_
  exact yN (hR cH E0 e0 ⟨rfl,qW _⟩) ClM.nil
 |none=>
 refine vv ?_
 refine CallQ.hr [(1,150)] 160 (ed kk (fun b hb=>by have:=jc (B.blO b hb);omega)) (Hp.le.refl _) ClM.nil rfl rfl trivial rfl (.inl rfl) ?_
 simp only[Mem.ren,Ky,Kz,yD (xU _),V.ren,Cv.ren,rn,Nat.reduceBEq,cond_true,cond_false]
 refine vv ?_
 have hlop:ne (xF d.c) d.bls.length=none:=by
  unfold gq at hlo
  rw[Option.map_eq_none_iff,hbl]at hlo
  exact hlo
 have hodl:=(gp (tL d)).1 hlop
 have hodk:=qP (xF d.c) d.bls.length
 have hodf:=dh hodk.1 hodk.2.1 hodl
 have hB200:=B.bls
 obtain⟨⟨rf,er⟩,hrg⟩:=gb (d:=d.c) T (od:=wU (xF d.c) d.bls.length) hodk.1 (by rw[hbl];exact hodk.2.1) (by rw[hbl];exact hodf)
 have hrgs:=br kk B.blO (fun b hb=>ZW (ckd.arg (JL.2 ⟨b,hb,rfl⟩))) T (fun b hb ht=>hT _ cp bT bC bM bS HH kk b hb ht (B.blO b hb)) (wU (xF d.c) d.bls.length) hodk.2.1 (by rw[hodl];omega) (d.c.bls.length+8) (by rw[hbl];omega) rf er hrg
 have hch:∀q,ug d.c T (wU (xF d.c) d.c.bls.length) (d.c.bls.length+8) 1 (r0 d.c) (s0 d.c)=q->xu d.c T=match q with
  |none=>(cw,[],0)
  |some (_,some e)=>(cw,e.1,e.2)
  |some (rf,none)=>(⟨d.c,t0 d.c rf (d.c.ins.length+d.c.bls.length),wU (xF d.c) d.c.bls.length⟩,[],0):=fun q hq=>by
  unfold xu
  rw[hdv,cond_false,hall,hlo]
  simp only
  rw[hq]
 rw[hbl]at hch hrg
 have hch:=hch _ hrg
 have hrfl:er=none->rf.length=d.ins.length+d.bls.length:=fun he=>by subst he;have:=ml hrg;rw[hbl]at this;exact this
 have hrne:∀e,er=some e->e.2≠0:=fun e he=>by subst he;exact mm hrg
 clear hrg
 generalize hod:wU (xF d.c) d.bls.length=od at*
 refine CallQ.hr [(4,150),(1,151)] 170 hrgs (Hp.le.refl _) (zD (by simp only[Kw,z6 (xU _)];rfl)) rfl rfl ⟨⟨_,rfl,fi (xU _)⟩,trivial⟩ rfl (.inl rfl) ?_
 simp only[Mem.ren,Ky,Kz,yD (zJ _),V.ren,W.ren,Cv.ren,rn,Nat.reduceBEq,cond_true,cond_false]
 cases er with
 |some e=>
  simp only at hch
  rw[hch]at hR
  have he2:(e.2 !=0)=true:=by simpa using hrne e rfl
  simp only[go_sem,Option.getD_some,he2]
  exact yN (hR cH E0 e0 ⟨rfl,qW _⟩) ClM.nil
 |none=>
 simp only at hch
 rw[hch]at hR
 simp only[go_sem,Option.getD_none]
 refine CallQ.x 180 e0 (ay d kk.o hv2) (Hp.le.refl _) (Sub.nil _) ClM.nil (fun _=>Fresh.nil _ _) rfl rfl rfl (fun x E1 H1 e1 k1 j1 p1=>?_)
 obtain⟨px,ox⟩:=p1
 have ox:=ox.mono j1
 have kk1:=kk.mono k1
 refine vv ?_
 refine CallQ.hr [(1,152)] 190 (eq d kk1.o cp _ kk1.c.p kk.n1 kk.n2) (Hp.le.refl _) ClM.nil rfl rfl trivial rfl (.inl rfl) ?_
 simp only[Mem.ren,Ky,Kz,yD (y8 _),V.ren,Cv.ren,rn,Nat.reduceBEq,cond_true,cond_false]
 refine vv ?_
 refine Sm.nilAt 181 13 131 180 7 rfl rfl rfl ?_
 have hrl:=hrfl rfl
 have hsl:=ve d
 have hN:d.ins.length+d.bls.length<=230:=by have:=B.ins;omega
 refine zK (M0:=[]) (α:={i:Nat//i<=d.ins.length+d.bls.length}) (e1.pins hP) (fun i=>[(2,true,.c (.p 2 0)),(5,true,.c (.v cp)),(11,true,.c (.sl 151 0 rf.length 2)),(14,true,.c (.p 14 0)),(60,true,.c (.sl 152 0 (zU d.c).length 1)),(61,true,I (zU d.c).length),(62,true,I i.val)])
  (fun i=>[(2,⟨false,[.v (.string ⟨#[]⟩),.v (.slice none 0 0),.v (.slice none 0 0),.v (.slice none 0 0),.v (.slice none 0 0),.v (.slice none 0 0),.v (.slice none 0 0),.v (.slice none 0 0),.v (.slice none 0 0)],72⟩),(14,⟨false,[.v (sv x.nm),.v (vsl x.ty x.tys.length),.v (vsl x.cu x.cus.length),.v (vsl x.ma x.mas.length),.v (vsl x.i x.ins.length),.v (vsl x.bl x.bls.length),.v (vsl x.ou x.ous.length),.sl 6 0 i.val 13,.sl 150 0 od.length 1],72⟩),(151,⟨false,zC (rf.map ya),129⟩),(150,⟨false,od.map nC,3⟩),(152,⟨false,(zU d.c).map sC,9⟩),(6,⟨false,zC ((t0 d.c rf i.val).map Sg.w),131⟩)])
  (fun i=>d.ins.length+d.bls.length-i.val) ⟨0,zA⟩ (fun _=>zD (by simp only[Kw,iR,z6 (xU _),z6 (y8 _)];rfl)) (fun _=>zO rfl) [(2,101),(14,180),(151,151),(150,150),(152,152),(6,181)] ?_ ?_
 ·exact zh
 rintro⟨i,hi⟩ J hj
 simp only at hj hi⊢
 refine zB 190 (vv ?_)
 refine zV (fun hc=>?_) (fun hc=>?_)
 ·have hc:i<(zU d.c).length:=zH hc
  have hgs:=vV hc
  have hty:=qK kk1 i zA
  have htk:=vh rf i zA
  have hz:=zQ (r:=ya) (k:=2) (fun _=>rfl) rf
  simp only[go_sem,hgs]
  refine⟨⟨zA,zA⟩,?_⟩
  refine Sm.dg 190 12 zi (vv ?_)
  refine yV 200 (fun _=>hty) (Hp.le.refl _) (fun _=>rfl) ?_
  have hzs:(zC ((t0 d.c rf i).map Sg.w)).length=i*13:=by
   rw[zQ (r:=Sg.w) (k:=13) (fun _=>rfl),tw]
  have hgd:(zU d.c)[i]=(zU d.c).getD i []:=by rw[Kx,JA hc];rfl
  have hsn:List.take (i*13) (zC ((t0 d.c rf i).map Sg.w))++[sC (zU d.c)[i],.v (.int .i64 (xb d.c i).bits),.v (.bool (xb d.c i).signed),.v (.int .i64 (xb d.c i).num),.v (.int .i64 (xb d.c i).off),.v (.int .i64 (xb d.c i).den),.v (.int .i64 (xb d.c i).m),.v (.int .i64 (xb d.c i).kg),.v (.int .i64 (xb d.c i).s),.v (.int .i64 (xb d.c i).a),.v (.int .i64 (xb d.c i).k),.v (.int .i64 (rf.getD i (0,0)).1),.v (.int .i64 (rf.getD i (0,0)).2)]=zC ((t0 d.c rf (i+1)).map Sg.w):=by
   rw[JJ zA,g9,hgd];rfl
  simp only[go_sem,htk,hz,hzs,yu (i:=i)]
  refine⟨⟨zA,zA⟩,zA,⟨zA,zA,zA⟩,?_⟩
  rw[hsn]
  exact hj _ _ ⟨i+1,zA⟩ [(2,2),(14,14),(151,151),(150,150),(152,152),(6,201)] yL zh
 ·have hc:i=(zU d.c).length:=zI zA hc
  have hin:i=d.c.ins.length+d.bls.length:=by show i=d.ins.length+_;omega
  refine RetQ.letgo (M0:=[]) [150,6] e1 hP rfl (by unfold yC;simp only[Kw,yF (zJ _),yF (xU _),yF (y8 _)];rfl) (fun β C7 l7 k7 kn=>?_)
  obtain⟨sg,hvg,hkg⟩:=(kn 6 _ rfl rfl rfl).vslx (sz:=13) (rows:=(t0 d.c rf i).map Sg.w) (fun r hr=>by obtain⟨z,_,rfl⟩:=JL.1 hr;rfl) rfl
  obtain⟨so,hvo,hko⟩:=(kn 150 _ rfl rfl rfl).vslx (sz:=1) (rows:=od.map fun n:Nat=>[iv n]) (fun r hr=>by obtain⟨z,_,rfl⟩:=JL.1 hr;rfl) (V2 od).symm
  rw[Kv,tw]at hvg hkg
  rw[Kv]at hvo hko
  simp only[Mem.conc,Env.conc,Bk.conc,Cv.conc,V.conc,Ky,Kz,J0,List.contains_nil,Nat.reduceBEq,Jq,IF,cond_true,cond_false,xf (zJ _),xf (xU _),xf (y8 _),hvg,hvo]
  rw[<-hin]at hR
  have hR':=hR (CkL.mk x (t0 d.c rf i) od sg so) C7 l7 ⟨by unfold CkL.c;rw[px],⟨ox.mono k7,by show SlH _ (vsl sg (t0 d.c rf i).length) 13 _;rw[tw];exact hkg,hko⟩⟩
  have hvr:(CkL.mk x (t0 d.c rf i) od sg so).r.map Cv.v=[.v (sv x.nm),.v (vsl x.ty x.tys.length),.v (vsl x.cu x.cus.length),.v (vsl x.ma x.mas.length),.v (vsl x.i x.ins.length),.v (vsl x.bl x.bls.length),.v (vsl x.ou x.ous.length),.v (vsl sg i),.v (vsl so od.length)]:=by
   simp only[CkL.r,DgL.r,tw];rfl
  rw[hvr]at hR'
  exact zN hR' rfl (vv trivial) rfl (Sub.nil _) ClM.nil (zG rfl)
theorem _root_.Go.Proofs.YtbnkiacicnnmkaaGreat.Vg.Rel.bring {C:Cx}{M:Mem}{l:Vg.Loc}{cs:List Value}{β:Vl}{w:World}(nm:Nat)(el:TypeId)(h:LcH C.hp l cs)(hn:M.get nm=none)(h1:Rel C.S C.w0 β M w):Rel C.S C.w0 (fun k=>if k=nm then l else β k) ((nm,⟨true,cs.map .v,el⟩)::M) w:=by
 have hne:∀k b,M.get k=some b->k≠nm:=by rintro k b hk rfl;rw[hn]at hk;cases hk
 have hcells:∀β:Vl,(cs.map Cv.v).map (Cv.g β)=cs:=fun β=>by
  rw[Ja];conv=>rhs;rw[<-HI cs]
  exact JV fun _ _=>rfl
 have hag0:∀β',Agree ((nm,⟨true,cs.map .v,el⟩)::M) (fun k=>if k=nm then l else β k) β'->Agree M β β'/\β' nm=l:=fun β' hag=>by
  refine⟨fun j hj=>?_,by have:=hag nm (by rw[zE];simp);simpa using this⟩
  obtain⟨c,hc⟩:=JE.1 hj
  rw[hag j (by rw[zE];split<;>simp_all)]
  exact if_neg (hne j c hc)
 refine⟨h1.fr,⟨fun β' hag k b hb=>?_,fun k b hb hu=>?_,fun k m b b' hb hb' hkm hr hlv hu hu'=>?_⟩,fun k b hb hr hu hS=>?_,fun k q hq=>?_⟩
 ·obtain⟨g1,g2⟩:=hag0 β' hag
  rw[zE]at hb
  split at hb
  ·rename_i hk
   simp at hb;subst hb hk
   unfold BkOk
   rw[g2,hcells]
   cases hu:l.nul with
   |true=>simp only[if_true];rw[h.1 hu];exact⟨rfl,fun h=>by cases h⟩
   |false=>
    simp only[JS,if_false,if_true]
    obtain⟨c,el',mk,q1,q2⟩:=h.2.2 hu
    refine⟨fun j v hj=>?_,by simpa using h.2.1⟩
    simp[World.cell?,zy h1 q1,q2 j v hj]
  ·exact h1.mem.ok β' g1 k b hb
 ·rw[zE]at hb
  split at hb
  ·rename_i hk
   simp only[if_pos hk]at hu⊢
   obtain⟨c,el',mk,q1,q2⟩:=h.2.2 hu
   exact J1 (C.hp_lt q1) h1.fr.size
  ·rename_i hk;simp only[if_neg hk]at hu⊢;exact h1.mem.there k b hb hu
 ·rw[zE]at hb hb'
  split at hb
  ·simp at hb;subst hb;cases hr
  ·rename_i hk
   split at hb'
   ·rename_i hk'
    simp only[if_neg hk,if_pos hk']at hu hu'⊢
    obtain⟨c,el',mk,q1,q2⟩:=h.2.2 hu'
    exact fun hh=>yJ h1 q1 ⟨k,b,hb,hr,hu,hh.symm⟩
   ·rename_i hk'
    simp only[if_neg hk,if_neg hk']at hu hu'⊢
    exact h1.mem.apart k m b b' hb hb' hkm hr hlv hu hu'
 ·rw[zE]at hb
  split at hb
  ·simp at hb;subst hb;cases hr
  ·rename_i hk;simp only[if_neg hk]at hu hS⊢;exact h1.own k b hb hr hu hS
 ·obtain⟨p1,p2⟩:=h1.pin k q hq
  have hkn:k≠nm:=by rintro rfl;rw[hn]at p1;cases p1
  exact⟨by rw[zE,if_neg hkn];exact p1,by simp only[if_neg hkn];exact p2⟩
theorem _root_.Go.Proofs.YtbnkiacicnnmkaaGreat.Vg.Sm.bringC {P:Program}{nt:Nat}{C:Cx}{todo:List It}{e:Env}{M:Mem}{v:Value}{sz:Nat}{rows:List (List Value)}(nm:Nat)(el:TypeId)(n i:Nat){b:Bk}(h:SlH C.hp v sz rows)(hn:M.get nm=none)(hb:M.get n=some b)(hi:b.cells[i]?=some (.v v))
  (k:Sm P nt C todo e ((n,⟨b.ro,b.cells.set i (.sl nm 0 rows.length sz),b.elem⟩)::(nm,⟨true,zC rows,el⟩)::M)):Sm P nt C todo e M:=fun β a w h1 h2 h3 h4=>by
 obtain⟨l,q1,q2,q3⟩:=h
 have r0:=h1.bring nm el q3 hn
 have hne:¬n=nm:=fun hh=>by subst hh;rw[hn]at hb;cases hb
 have hbm:Mem.get ((nm,(⟨true,rows.flatten.map .v,el⟩:Bk))::M) n=some b:=by rw[zE,if_neg hne];exact hb
 have r:=r0.eqc (cs:=b.cells.set i (.sl nm 0 rows.length sz)) hbm (fun β' hag=>by
  have hnu:=hag nm (by rw[zE,if_pos rfl];rfl)
  simp only[if_true]at hnu
  have e1:(Cv.sl nm 0 rows.length sz).g β'=v:=by rw[q1,QS hnu]
  rw[Jy,e1]
  refine Jn fun k=>?_
  rw[IJ]
  split
  ·rename_i hk
   subst hk
   have hlt:=(JW.1 hi).1
   rw[if_pos (by simpa using hlt),JO,hi];rfl
  ·rfl)
 refine k _ a w r (h2.on fun k hk=>?_) h3 h4
 obtain⟨c,hc⟩:=JE.1 hk
 have hkn:¬k=nm:=fun hh=>by subst hh;rw[hn]at hc;cases hc
 refine⟨?_,if_neg hkn⟩
 rw[zE]
 split
 ·rfl
 ·rw[zE,if_neg hkn];exact hk
def qz (p:Nat->Bool):Nat->Nat->Nat->Nat
 |0,lo,_=>lo
 |f+1,lo,hi=>bif decide (lo<hi)then bif p ((lo+hi)/2)then qz p f lo ((lo+hi)/2)else qz p f ((lo+hi)/2+1) hi else lo
def qy (p:Nat->Bool)(n:Nat):Nat:=qz p (n+1) 0 n
theorem nU {p:Nat->Bool}{n:Nat}:∀(f lo hi:Nat),lo<=hi->hi<=n->hi-lo<f->(0<lo->p (lo-1)=false)->(hi<n->p hi=true)->qz p f lo hi<=n/\(0<qz p f lo hi->p (qz p f lo hi-1)=false)/\(qz p f lo hi<n->p (qz p f lo hi)=true)
 |0,lo,hi,_,_,h,_,_=>by omega
 |f+1,lo,hi,h1,h2,h3,h4,h5=>by
  unfold qz
  by_cases h:lo<hi
  ·rw[decide_eq_true h,cond_true]
   have hm1:lo<=(lo+hi)/2:=zA
   have hm2:(lo+hi)/2<hi:=zA
   cases hp:p ((lo+hi)/2)with
   |true=>exact nU f _ _ hm1 zA zA h4 fun _=>hp
   |false=>exact nU f _ _ zA h2 zA (fun _=>by rw[I5];exact hp) h5
  ·rw[decide_eq_false h,cond_false]
   have:lo=hi:=zA
   subst this
   exact⟨h2,h4,h5⟩
theorem nT (p:Nat->Bool)(n:Nat):qy p n<=n/\(0<qy p n->p (qy p n-1)=false)/\(qy p n<n->p (qy p n)=true):=
 nU (n+1) 0 n zA (JZ _) zA (fun h=>zA) (fun h=>zA)
theorem iA {H:Hp}(n:Nat)(hn:n<=1000000)(f:FuncId)(cs:List Cv)(ty:TypeId)(hcs:cs.all Cv.isV=true)(x:Int)(p:Nat->Bool)
  (hp:∀i,i<n->CallX H HT f [I i,.c (.p 1 0),.c (.p 2 0)] [(1,⟨true,cs,ty⟩),(2,⟨true,[.v (.int .i64 x)],3⟩)] (fun _:Unit=>Bo (p i)) (fun _=>[]) (fun _ _=>True)):
  CallX H HT 265 [I n,.c (.fn f [(1,0),(2,0)])] [(1,⟨true,cs,ty⟩),(2,⟨true,[.v (.int .i64 x)],3⟩)] (fun _:Unit=>I (qy p n)) (fun _=>[]) (fun _ _=>True):=by
 have hM:ClM [(1,⟨true,cs,ty⟩),(2,⟨true,[.v (.int .i64 x)],3⟩)]:=zD (by simp only[Kw,z6 hcs];rfl)
 refine kX func265 Ux ntmps265 fun C hR hP hH hL=>?_
 have hR:=hR ()
 generalize hq:qy p n=q at*
 unfold qy at hq
 refine zB 100 (vv ?_)
 refine zK (M0:=[(1,⟨true,cs,ty⟩),(2,⟨true,[.v (.int .i64 x)],3⟩)]) (α:={z:Nat×Nat×Nat//z.2.1<=z.2.2/\z.2.2<=n/\z.2.2-z.2.1<z.1/\qz p z.1 z.2.1 z.2.2=q}) hP (fun z=>[(1,true,.c (.fn f [(1,0),(2,0)])),(5,true,I z.val.2.1),(6,true,I z.val.2.2)])
  (fun _=>[(1,⟨true,cs,ty⟩),(2,⟨true,[.v (.int .i64 x)],3⟩)]) (fun z=>z.val.1) ⟨(n+1,0,n),z9,z9,z9,hq⟩ (fun _=>hM) (fun _=>zO rfl) [(1,1),(2,2)] ?_ ?_
 ·exact⟨rfl,⟨⟨rfl,rfl⟩,⟨rfl,rfl⟩,trivial⟩,⟨rfl,rfl,rfl,trivial⟩,⟨oV (yD hcs),oR,trivial⟩⟩
 rintro⟨⟨g,lo,hi⟩,h1,h2,h3,hx⟩ J hj
 simp only at hj h1 h2 h3 hx⊢
 cases g with
 |zero=>omega
 |succ g=>
 rw[qz]at hx
 refine zB 110 (vv ?_)
 have em:IntKind.i64.wrap ((IntKind.u64.wrap (IntKind.i64.wrap ((lo:Int)+(hi:Int)))).fdiv (2^min 1 64))=(((lo+hi)/2:Nat):Int):=by
  rw[y6 (show-9223372036854775808<=(lo:Int)+(hi:Int) by omega) zA]
  have e1:IntKind.u64.wrap ((lo:Int)+(hi:Int))=(lo:Int)+(hi:Int):=gU zA zA
  rw[e1]
  show IntKind.i64.wrap (((lo:Int)+(hi:Int)).fdiv 2)=_
  rw[Js _ zA,y6 zA zA]
  omega
 rw[em]
 refine zV (fun hc=>?_) (fun hc=>?_)
 ·have hc:lo<hi:=zH hc
  rw[decide_eq_true hc,cond_true]at hx
  have hmid:(lo+hi)/2<n:=zA
  generalize hmm:(lo+hi)/2=mid at*
  refine CallQ.hr [(1,1),(2,2)] 120 (hp mid hmid) hH hM rfl rfl ⟨oW (yD hcs),oS,trivial⟩ rfl (.inr rfl) ?_
  simp only[Mem.ren,Kz,V.ren,Cv.ren]
  cases hpm:p mid with
  |true=>
   rw[hpm,cond_true]at hx
   refine vv ?_
   exact hj _ _ ⟨(g,lo,mid),by simp only;omega,by simp only;omega,by simp only;omega,hx⟩ [(1,1),(2,2)] yL ⟨rfl,⟨⟨rfl,rfl⟩,⟨rfl,rfl⟩,trivial⟩,⟨rfl,rfl,rfl,trivial⟩,⟨oV (yD hcs),oR,trivial⟩⟩
  |false=>
   rw[hpm,cond_false]at hx
   simp only[go_sem,yu (i:=mid)]
   exact hj _ _ ⟨(g,mid+1,hi),by simp only;omega,by simp only;omega,by simp only;omega,hx⟩ [(1,1),(2,2)] yL ⟨rfl,⟨⟨rfl,rfl⟩,⟨rfl,rfl⟩,trivial⟩,⟨rfl,rfl,rfl,trivial⟩,⟨oV (yD hcs),oR,trivial⟩⟩
 ·have hc:¬lo<hi:=by have:=of_decide_eq_false hc;omega
  rw[decide_eq_false hc,cond_false]at hx
  subst hx
  exact yN (hR C hL trivial) hM
theorem VC {H:Hp}(c:CuL)(hc:c.ok H)(x:Int)(i:Nat)(hi:i<c.c.xs.length)(hx:c.c.xs.length<=1000000):CallX H HT 266 [I i,.c (.p 1 0),.c (.p 2 0)] [(1,⟨true,gF c,78⟩),(2,⟨true,[.v (.int .i64 x)],3⟩)] (fun _:Unit=>Bo (decide (x<c.c.xs.getD i 0))) (fun _=>[]) (fun _ _=>True):=by
 have hM:ClM [(1,⟨true,gF c,78⟩),(2,⟨true,[.v (.int .i64 x)],3⟩)]:=zD rfl
 have hil:(zP c.c.xs).length=c.c.xs.length:=by simp[zP]
 have hx0:(zP c.c.xs).flatten[i]?=some (iv (c.c.xs.getD i 0)):=by
  have h1:=yR (k:=1) (zP c.c.xs) (fun r hr=>by obtain⟨z,_,rfl⟩:=JL.1 hr;rfl) i 0 zA zA
  unfold zC at h1
  rw[JO,Jr,Jx]at h1
  have h2:(zP c.c.xs)[i]'(by omega)=[iv c.c.xs[i]]:=by simp[zP]
  rw[h2]at h1
  have h3:c.c.xs.getD i 0=c.c.xs[i]:=by rw[Kx,JA hi];rfl
  rw[h3]
  cases hq:(zP c.c.xs).flatten[i]? with
  |none=>rw[hq]at h1;cases h1
  |some z=>rw[hq]at h1;simpa using h1
 obtain⟨b0,o0,c0,hv0,cs,el,mk,hb0,hcc⟩:=hc.x.at (by intro h;rw[h]at hx0;cases hx0)
 rw[hil]at hv0
 have hcx:=hcc i _ hx0
 have hM2:gF c=[.v (.slice (some ⟨b0,o0,none⟩) c.c.xs.length c0),.v (.slice c.y.o c.c.ys.length c.y.c)]:=by
  unfold gF;rw[<-hv0]
 rw[hM2]at hM⊢
 refine kX func266 Uw ntmps266 fun C hR hP hH hL=>?_
 refine zB 100 (vv ?_)
 refine Sm.dg 110 6 zi (vv ?_)
 refine DOpQ.own 120 (Stp.idxV rfl rfl rfl tP zA zA) ?_
 simp only[go_sem,Jr]
 refine zF 120 (fun _=>zS (hH _ _ hb0) hcx rfl rfl rfl) (vv ?_)
 exact yN (hR () C hL trivial) hM
def oJ (l:List Int)(x:Int)(i:Nat):Bool:=decide (x<l.getD i 0)
def yk (l:List Int)(x:Int):Nat:=qy (oJ l x) l.length
theorem eA {H:Hp}(c:CuL)(hc:c.ok H)(x:Int)(hx:c.c.xs.length<=1000000):CallH H HT 226 [.agg (gF c),I x] (I ((yk c.c.xs x:Int)-1)):=by
 have hle:yk c.c.xs x<=c.c.xs.length:=(nT _ _).1
 refine kH func226 T9 ntmps226 fun C hR hP hH hL=>?_
 refine zB 100 (vv ?_)
 refine CallQ.hr [(1,100),(2,101)] 120 (iA c.c.xs.length hx 266 (gF c) 78 rfl x (oJ c.c.xs x) (fun i hi=>VC c hc x i hi hx)) hH (zD rfl) rfl rfl ⟨⟨_,rfl,.inr ⟨rfl,[],rfl⟩⟩,⟨_,rfl,.inr ⟨rfl,[],rfl⟩⟩,trivial⟩ rfl (.inr rfl) ?_
 simp only[Mem.ren,Kz,V.ren,Cv.ren]
 refine vv ?_
 refine ww (hR C hL) ?_
 show IntKind.i64.wrap ((yk c.c.xs x:Int)-1)=_
 rw[y6 zA zA]
theorem wl:∀(l:List Int),tR l=true->∀i,i+1<l.length->l.getD i 0<l.getD (i+1) 0
 |[],_,i,h=>by simp at h
 |[x],_,i,h=>by simp at h
 |x::y::l,hb,i,h=>by
  unfold tR at hb
  rw[JB,decide_eq_true_eq]at hb
  cases i with
  |zero=>exact hb.1
  |succ i=>
   have:=wl (y::l) hb.2 i (by simpa using h)
   simpa using this
theorem wt {p:Int->Bool}{l:List Int}(h:l.all p=true)(i:Nat)(hi:i<l.length):p (l.getD i 0)=true:=by
 rw[Kx,JA hi]
 exact JD.1 h _ (JH hi)
theorem uI {n:Int}(h:yA n=true): -1073741824<=n/\n<=1073741824:=of_decide_eq_true h
def gt (x0 x1 y0 y1 x:Int):Int:=y0+(x-x0)*(y1-y0)/(x1-x0)
def vc (c:Cu)(x:Int):Int:=
 bif decide (x<=c.xs.getD 0 0)then c.ys.getD 0 0 else bif decide (c.xs.getD (c.xs.length-1) 0<=x)then c.ys.getD (c.xs.length-1) 0
 else gt (c.xs.getD (yk c.xs x-1) 0) (c.xs.getD (yk c.xs x) 0) (c.ys.getD (yk c.xs x-1) 0) (c.ys.getD (yk c.xs x) 0) x
structure CuOk (c:Cu):Prop where
 len:c.xs.length=c.ys.length
 two:2<=c.xs.length
 big:c.xs.length<=32
 x:c.xs.all yA=true
 y:c.ys.all yA=true
 inc:tR c.xs=true
theorem gS {c:Cu}(h:wN c.xs c.ys=true):CuOk c:=by
 unfold wN xX at h
 simp only[JB,decide_eq_true_eq]at h
 exact⟨h.1,h.2.1.1.1,h.2.1.1.2,h.2.1.2.1,h.2.2,h.2.1.2.2⟩
theorem Yu {l:List Int}{x:Int}(h2:2<=l.length)(h0:l.getD 0 0<x)(h1:x<l.getD (l.length-1) 0):1<=yk l x/\yk l x<l.length/\l.getD (yk l x-1) 0<=x/\x<l.getD (yk l x) 0:=by
 obtain⟨q1,q2,q3⟩:=nT (oJ l x) l.length
 change yk l x<=l.length at q1
 change 0<yk l x->oJ l x (yk l x-1)=false at q2
 change yk l x<l.length->oJ l x (yk l x)=true at q3
 have n0:yk l x≠0:=fun hz=>by
  have:=q3 zA
  rw[hz]at this
  have:=of_decide_eq_true this
  omega
 have n1:yk l x≠l.length:=fun hz=>by
  have:=q2 zA
  rw[hz]at this
  have:=of_decide_eq_false this
  omega
 have a1:=of_decide_eq_false (q2 zA)
 have a2:=of_decide_eq_true (q3 zA)
 exact⟨zA,zA,zA,a2⟩
theorem nc {a b A B:Int}(h1:0<=a)(h2:a<=A)(h3: -B<=b)(h4:b<=B): -(A*B)<=a*b/\a*b<=A*B:=by
 have hB:0<=B:=zA
 have k1:=IX h4 h1
 have k2:=IN h2 hB
 have k3:=IX h3 h1
 have k4:a* -B= -(a*B):=IQ ..
 omega
theorem Xf {x0 x1 y0 y1 x:Int}(h0:x0<=x)(h1:x<x1)(hx0: -1073741824<=x0)(hx1:x1<=1073741824)(hy0: -1073741824<=y0/\y0<=1073741824)(hy1: -1073741824<=y1/\y1<=1073741824):
  (-4611686018427387904<=(x-x0)*(y1-y0)/\(x-x0)*(y1-y0)<=4611686018427387904)/\ -2147483648<=(x-x0)*(y1-y0)/(x1-x0)/\(x-x0)*(y1-y0)/(x1-x0)<=2147483648:=by
 have k:=nc (a:=x-x0) (b:=y1-y0) (A:=2147483648) (B:=2147483648) zA zA zA zA
 have k2:=nc (a:=x-x0) (b:=y1-y0) (A:=x1-x0) (B:=2147483648) zA zA zA zA
 refine⟨⟨zA,zA⟩,?_,?_⟩
 ·rw[Int.le_ediv_iff_mul_le zA]
  have:(-2147483648:Int)*(x1-x0)= -((x1-x0)*2147483648):=by rw[Int.neg_mul,HQ]
  omega
 ·refine HB zA ?_
  have:(2147483648:Int)*(x1-x0)=(x1-x0)*2147483648:=HQ ..
  omega
theorem kU {H:Hp}(c:CuL)(hc:c.ok H)(k:CuOk c.c)(x:Int):CallH H HT 168 [.agg (gF c),I x] (I (vc c.c x)):=by
 have k1:=k.len
 have k2:=k.two
 have k3:=k.big
 have hil:(zP c.c.xs).length=c.c.xs.length:=by simp[zP]
 have hiy:(zP c.c.ys).length=c.c.ys.length:=by simp[zP]
 have e1:((c.c.xs.length:Int)-1)=((c.c.xs.length-1:Nat):Int):=zA
 have ew:IntKind.i64.wrap ((c.c.xs.length:Int)-1)=((c.c.xs.length-1:Nat):Int):=by rw[y6 zA zA];exact e1
 refine kH func168 S4 ntmps168 fun C hR hP hH hL=>?_
 refine zB 100 (vv ?_)
 refine Sm.bringI 5 3 13 (hc.x.mono hH) rfl rfl (zB 110 ?_)
 simp only[go_sem,yY (show 0<c.c.xs.length by omega),Int.toNat_zero]
 refine⟨zA,?_⟩
 refine zV (fun h0=>?_) (fun h0=>?_)
 ·refine Sm.bringI 6 3 18 (hc.y.mono hH) rfl rfl (zB 110 ?_)
  simp only[go_sem,yY (show 0<c.c.ys.length by omega),Int.toNat_zero]
  refine⟨zA,?_⟩
  refine ww (hR C hL) ?_
  unfold vc;rw[h0];rfl
 ·refine Sm.bringI 6 3 24 (hc.x.mono hH) rfl rfl (zB 110 ?_)
  simp only[go_sem,ew,yY (show c.c.xs.length-1<c.c.xs.length by omega)]
  refine⟨⟨zA,zA⟩,?_⟩
  refine zV (fun h1=>?_) (fun h1=>?_)
  ·refine Sm.bringI 7 3 31 (hc.y.mono hH) rfl rfl (zB 110 ?_)
   simp only[go_sem,ew,yY (show c.c.xs.length-1<c.c.ys.length by omega)]
   refine⟨⟨zA,zA⟩,?_⟩
   refine ww (hR C hL) ?_
   unfold vc;rw[h0,h1];rfl
  ·have h0':=of_decide_eq_false h0
   have h1':=of_decide_eq_false h1
   have hs:=Yu (l:=c.c.xs) (x:=x) k2 zA zA
   obtain⟨s1,s2,s3,s4⟩:=hs
   have hv:vc c.c x=gt (c.c.xs.getD (yk c.c.xs x-1) 0) (c.c.xs.getD (yk c.c.xs x) 0) (c.c.ys.getD (yk c.c.xs x-1) 0) (c.c.ys.getD (yk c.c.xs x) 0) x:=by
    unfold vc;rw[h0,h1];rfl
   rw[hv]at hR
   have hsc:=eA c hc x zA
   have b0:=uI (wt k.x (yk c.c.xs x-1) zA)
   have b1:=uI (wt k.x (yk c.c.xs x) zA)
   have b2:=uI (wt k.y (yk c.c.xs x-1) zA)
   have b3:=uI (wt k.y (yk c.c.xs x) zA)
   generalize yk c.c.xs x=s at*
   have es:((s:Int)-1)=((s-1:Nat):Int):=zA
   rw[es]at hsc
   obtain⟨m1,m2,m3⟩:=Xf s3 s4 b0.1 b1.2 b2 b3
   refine zM 120 hsc hH rfl (vv ?_)
   refine Sm.bringC 8 3 100 0 (hc.x.mono hH) rfl rfl rfl ?_
   refine Sm.bringC 9 3 100 1 (hc.y.mono hH) rfl rfl rfl ?_
   rw[hil,hiy,wj,wj]
   refine Sm.dg 120 38 zi ?_
   have gx0:=yY (l:=c.c.xs) (show s-1<c.c.xs.length by omega)
   have gx1:=yY (l:=c.c.xs) (show s<c.c.xs.length by omega)
   have gy0:=yY (l:=c.c.ys) (show s-1<c.c.ys.length by omega)
   have gy1:=yY (l:=c.c.ys) (show s<c.c.ys.length by omega)
   have es2:IntKind.i64.wrap (((s-1:Nat):Int)+1)=(s:Int):=by rw[y6 zA zA];omega
   have wx:IntKind.i64.wrap (x-c.c.xs.getD (s-1) 0)=x-c.c.xs.getD (s-1) 0:=y6 zA zA
   have wy:IntKind.i64.wrap (c.c.ys.getD s 0-c.c.ys.getD (s-1) 0)=c.c.ys.getD s 0-c.c.ys.getD (s-1) 0:=y6 zA zA
   have wd:IntKind.i64.wrap (c.c.xs.getD s 0-c.c.xs.getD (s-1) 0)=c.c.xs.getD s 0-c.c.xs.getD (s-1) 0:=y6 zA zA
   have wp:IntKind.i64.wrap ((x-c.c.xs.getD (s-1) 0)*(c.c.ys.getD s 0-c.c.ys.getD (s-1) 0))=(x-c.c.xs.getD (s-1) 0)*(c.c.ys.getD s 0-c.c.ys.getD (s-1) 0):=y6 zA zA
   simp only[go_sem,gx0,gx1,gy0,gy1,es2,wx,wy,wd,wp]
   refine⟨⟨zA,zA⟩,⟨zA,zA⟩,⟨zA,zA⟩,⟨zA,zA⟩,⟨zA,zA⟩,⟨zA,zA⟩,?_⟩
   refine DCallQ.pure 130 (di _ _ m1.1 m1.2 zA zA) rfl (vv ?_)
   refine ww (hR C hL) ?_
   unfold gt
   exact y6 zA zA
def oM (q:Int×Int)(y:Int):Int×Int:=(min q.1 y,max q.2 y)
theorem VL (q:Int×Int)(y:Int):CallOk HT 288 [I y,.c (.p 1 0)] [(1,⟨false,rC q,129⟩)] (.tup []) [(1,⟨false,rC (oM q y),129⟩)]:=by
 refine kN 100 func288 Ub ntmps288 fun C hR hP=>?_
 refine vv ?_
 exact vL hR (zN hR rfl trivial rfl (vQ (SubS.sub ⟨oS,trivial⟩)) (v5 (zD rfl)) (zG rfl))
def gj (r:Int×Int):List (Int×Int)->Int×Int->Int×Int
 |[],q=>q
 |n::l,q=>gj r l (bif (bif decide (r.1<n.1)then decide (n.1<r.2)else false)then oM q n.2 else q)
def jA (c:Cu)(r:Int×Int):(Int×Int)×Int:=
 bif (bif !wN c.xs c.ys then true else decide (r.2<r.1))then((0,0),1)else(gj r (c.xs.zip c.ys) (oM (vc c r.1,vc c r.1) (vc c r.2)),0)
theorem VU {H:Hp}(c:CuL)(hc:c.ok H)(hlx:c.c.xs.length<=1000000000000000)(hly:c.c.ys.length<=1000000000000000)(r:Int×Int):CallH H HT 280 [.agg (gF c),rA r] (rE (jA c.c r)):=by
 have hval:=nu c.x c.y c.c.xs c.c.ys hc.x hc.y hlx hly
 have hil:(zP c.c.xs).length=c.c.xs.length:=by simp[zP]
 have hiy:(zP c.c.ys).length=c.c.ys.length:=by simp[zP]
 have hcv:gF c=[.v (vsl c.x c.c.xs.length),.v (vsl c.y c.c.ys.length)]:=rfl
 refine kH func280 Uh ntmps280 fun C hR hP hH hL=>?_
 refine zB 100 (vv ?_)
 refine zM 110 hval hH rfl (vv ?_)
 refine zV (fun h0=>?_) (fun h0=>?_)
 ·have hq:jA c.c r=((0,0),1):=by unfold jA;rw[h0];rfl
  rw[hq]at hR
  exact yN (hR C hL) ClM.nil
 have hq:jA c.c r=(gj r (c.c.xs.zip c.c.ys) (oM (vc c.c r.1,vc c.c r.1) (vc c.c r.2)),0):=by unfold jA;rw[h0];rfl
 rw[hq]at hR
 have hok:wN c.c.xs c.c.ys=true:=by
  cases hk:wN c.c.xs c.c.ys with
  |true=>rfl
  |false=>rw[hk]at h0;cases h0
 have k:=gS hok
 have k1:=k.len
 have k2:=k.two
 have k3:=k.big
 have hv1:=kU c hc k r.1
 have hv2:=kU c hc k r.2
 refine Sm.dg 120 10 zi (vv ?_)
 refine yV 130 (fun _=>hv1) hH (fun _=>rfl) (vv ?_)
 refine yV 130 (fun _=>hv1) hH (fun _=>rfl) (vv ?_)
 refine zM 140 hv2 hH rfl (vv ?_)
 refine CallQ.ren [(1,130)] 140 (VL (vc c.c r.1,vc c.c r.1) (vc c.c r.2)) (zD rfl) rfl rfl ⟨oS,trivial⟩ rfl (.inl rfl) ?_
 simp only[Mem.ren,Ky,Kz,Bk.ren,Ja,V.ren,W.ren,Cv.ren,rn,Nat.reduceBEq,cond_true,cond_false,Function.comp_def]
 refine vv ?_
 refine Sm.bringI 5 3 38 (hc.x.mono hH) rfl rfl ?_
 have hzl:(c.c.xs.zip c.c.ys).length=c.c.xs.length:=by rw[List.length_zip];omega
 generalize hq0:oM (vc c.c r.1,vc c.c r.1) (vc c.c r.2)=q0 at*
 generalize hRR:gj r (c.c.xs.zip c.c.ys) q0=RR at*
 refine zK (M0:=[]) (α:={z:Nat×(Int×Int)//z.1<=c.c.xs.length/\gj r ((c.c.xs.zip c.c.ys).drop z.1) z.2=RR}) hP (fun z=>[(2,true,.c (.p 2 0)),(3,true,.c (.p 3 0)),(4,true,.c (.p 4 0)),(6,true,.c (.p 6 0)),(7,true,.c (.fn 288 [(6,0)])),(38,true,.c (.sl 5 0 c.c.xs.length 1)),(39,true,I c.c.xs.length),(40,true,I z.val.1)])
  (fun z=>[(2,⟨false,gF c,78⟩),(3,⟨false,rC r,129⟩),(4,⟨false,rC (0,0),129⟩),(6,⟨false,rC z.val.2,129⟩),(5,⟨true,c.c.xs.map iC,3⟩)]) (fun z=>c.c.xs.length-z.val.1) ⟨(0,q0),z9,hRR⟩ (fun _=>zD (by simp only[Kw,z6 (zq _)];rfl)) (fun _=>zO rfl) [(2,100),(3,101),(4,102),(6,130),(5,5)] ?_ ?_
 ·exact zh
 rintro⟨⟨i,q⟩,hi,hx⟩ J hj
 simp only at hj hi hx⊢
 refine zB 150 (vv ?_)
 refine zV (fun hc2=>?_) (fun hc2=>?_)
 ·have hc2:=zH hc2
  have hdz:(c.c.xs.zip c.c.ys).drop i=(c.c.xs.getD i 0,c.c.ys.getD i 0)::(c.c.xs.zip c.c.ys).drop (i+1):=by
   rw[JC zA,List.getElem_zip]
   rw[Kx,JA hc2,Kx,JA (show i<c.c.ys.length by omega)]
   rfl
  rw[hdz,gj]at hx
  have gx:=yY hc2
  have gy:=yY (l:=c.c.ys) (show i<c.c.ys.length by omega)
  generalize c.c.xs.getD i 0=xi at*
  generalize c.c.ys.getD i 0=yi at*
  simp only[go_sem,gx]
  refine⟨⟨zA,zA⟩,?_⟩
  refine zV (fun h1=>?_) (fun h1=>?_)
  ·rw[h1,cond_true]at hx
   refine Sm.bringI 8 3 57 (hc.y.mono hH) rfl rfl (zB 160 ?_)
   simp only[go_sem,gy]
   refine⟨⟨zA,zA⟩,?_⟩
   refine CallQ.ren [(1,6)] 170 (VL q yi) (zD rfl) rfl rfl ⟨oS,trivial⟩ rfl (.inl rfl) ?_
   simp only[Mem.ren,Ky,Kz,Bk.ren,Ja,V.ren,W.ren,Cv.ren,rn,Nat.reduceBEq,cond_true,cond_false,Function.comp_def]
   simp only[go_sem,yu (i:=i)]
   exact hj _ _ ⟨(i+1,oM q yi),hc2,hx⟩ [(2,2),(3,3),(4,4),(6,6),(5,5)] yL zh
  ·rw[h1,cond_false]at hx
   refine zB 160 ?_
   simp only[go_sem,yu (i:=i)]
   exact hj _ _ ⟨(i+1,q),hc2,hx⟩ [(2,2),(3,3),(4,4),(6,6),(5,5)] yL zh
 ·have hc2:=zI hi hc2
  rw[hc2,<-hzl,JI]at hx
  have hx:q=RR:=hx
  subst hx
  exact yN (hR C hL) ClM.nil
end Go.Proofs.YtbnkiacicnnmkaaGreat.Fx
