/-  -/
import Derived.Test.YtbnkiacicnnmkaaGreatQO
open Go.Proofs.Tryz
open Go.Proofs.Tryz renaming prog→KI
set_option linter.unusedSimpArgs false
set_option linter.unusedVariables false
set_option maxRecDepth 100000
set_option maxHeartbeats 4000000
namespace Go.Proofs.YtbnkiacicnnmkaaGreat.Fx
open Vg Tf
def wH (f:Nat->Int×Int)(N i:Nat):List (Int×Int):=(List.range N).map fun j=>if j<i then f j else(0,0)
theorem tV (f:Nat->Int×Int)(N i:Nat):(wH f N i).length=N:=by simp[wH]
theorem o9 {f:Nat->Int×Int}{N i:Nat}(h:i<N):(wH f N i).set i (f i)=wH f N (i+1):=by
 apply Mc
 intro j
 rw[LI,wH,wH,MC,MC,Ni,Lh]
 by_cases hj:i=j
 ·subst hj
  rw[if_pos rfl,if_pos h,Mh h];simp
 ·rw[if_neg hj]
  by_cases hN:j<N
  ·rw[Mh hN]
   simp only[M9]
   by_cases h1:j<i
   ·rw[if_pos h1,if_pos zA]
   ·rw[if_neg h1,if_neg zA]
  ·rw[Ml (by simp;omega)];rfl
theorem jT {f:Nat->Int×Int}{N i:Nat}(h:f i=(0,0)):wH f N i=wH f N (i+1):=by
 unfold wH
 apply MJ
 intro j _
 by_cases h1:j<i
 ·rw[if_pos h1,if_pos zA]
 ·by_cases h2:j=i
  ·subst h2;rw[if_neg h1,if_pos zA,h]
  ·rw[if_neg h1,if_neg zA]
theorem qu (f:Nat->Int×Int):∀N:Nat,w9 N [Cv.v (.int .i64 0),Cv.v (.int .i64 0)]=zC ((wH f N 0).map y9):=by
 intro N
 have h:wH f N 0=List.replicate N (0,0):=by
  unfold wH
  apply Mc
  intro j
  rw[MC,LO]
  by_cases hj:j<N
  ·rw[Mh hj,if_pos hj];rfl
  ·rw[Ml (by simp;omega),if_neg hj];rfl
 rw[h]
 clear h
 induction N with
 |zero=>rfl
 |succ n ih=>rw[w9,ih,List.replicate_succ,Nk,zp];rfl
def TK:Po:=⟨[],[],0,0⟩
def d5 (d:Dg)(j:Nat):Int×Int:=((d.ins.getD j TK).lo,(d.ins.getD j TK).hi)
def eD (d:Dg)(j:Nat):Int×Int:=let b:=d.bls.getD j o5;bif b.kd==ng then(b.ks.getD 0 0,b.ks.getD 0 0)else(0,0)
def r0 (d:Dg):List (Int×Int):=wH (d5 d) (d.ins.length+d.bls.length) d.ins.length
def s0 (d:Dg):List (Int×Int):=wH (eD d) d.bls.length d.bls.length
def uN (d:Dg)(T:Bl->List (Int×Int)->Int×Int)(od:List Nat):Nat->Int->List (Int×Int)->List (Int×Int)->Option (List (Int×Int)×Option (Str×Int))
 |0,_,_,_=>none
 |f+1,n,rs,st=>match (yj d T st od rs).2 with
  |some e=>some ([],some e)
  |none=>bif (rF d (decide (8<=n)) (yj d T st od rs).1 (List.range d.bls.length) st false).2 then uN d T od f (n+1) (yj d T st od rs).1 (rF d (decide (8<=n)) (yj d T st od rs).1 (List.range d.bls.length) st false).1
   else some ((yj d T st od rs).1,none)
theorem vY (d:Dg)(T:Bl->List (Int×Int)->Int×Int)(st:List (Int×Int)):∀(l:List Nat) (rs:List (Int×Int)),(yj d T st l rs).1.length=rs.length
 |[],rs=>rfl
 |i::l,rs=>by
  rw[yj]
  cases (vW d T rs st i).2==0 with
  |true=>rw[cond_true,vY d T st l,MX]
  |false=>rfl
theorem rx (d:Dg)(T:Bl->List (Int×Int)->Int×Int)(st:List (Int×Int)):∀(l:List Nat) (rs:List (Int×Int)) (e:Str×Int),(yj d T st l rs).2=some e->(e.2==0)=false
 |[],rs,e=>by intro h;cases h
 |i::l,rs,e=>by
  rw[yj]
  cases h:(vW d T rs st i).2==0 with
  |true=>rw[cond_true];exact rx d T st l _ e
  |false=>intro h2;injection h2 with h2;rw[<-h2];exact h
theorem ug (d:Dg)(big:Bool)(rs:List (Int×Int)):∀(l:List Nat) (st:List (Int×Int)) (ch:Bool),(rF d big rs l st ch).1.length=st.length
 |[],st,ch=>rfl
 |i::l,st,ch=>by
  rw[rF]
  cases mP (qB d rs (st.getD i (0,0)) i) (st.getD i (0,0))with
  |true=>rw[cond_true,ug d big rs l]
  |false=>rw[cond_false,ug d big rs l,MX]
theorem dA {H:Hp}{cp:Value}{d:DgL}{bT bC' bM bS:Nat}(k:Ck H cp d bT bC' bM bS)(hok:∀b∈d.bls,xg b.c=true)(hin:∀b∈d.bls,∀s∈b.c.ins,ov (zW d.c) s=true)(T:Bl->List (Int×Int)->Int×Int)
  (hT:∀b∈d.bls,jV b.c.kd=true->∀rs:List (Int×Int),rs.length=b.c.ins.length->CallX H KI 256 [.c (.v cp),ze b.r,.c (.sl 1 0 rs.length 2)] [(1,⟨true,zC (rs.map y9),129⟩)] (fun _:Unit=>rA (T b.c rs)) (fun _=>[]) (fun _ _=>True))
  (od:List Nat) (h3:∀o∈od,o<d.bls.length) (h4:od.length<=1000000) (f:Nat) (hfu:f<=1000000) (rf:List (Int×Int)) (er:Option (Str×Int)) (hf:uN d.c T od f 1 (r0 d.c) (s0 d.c)=some (rf,er)):
  CallX H KI 52 [.c (.v cp),.c (.sl 4 0 od.length 1)] [(4,⟨true,od.map nC,3⟩)] (fun _:Unit=> .tup [.c (.sl 1 0 rf.length 2),Ws (er.getD ([],0)).1,Wi (er.getD ([],0)).2]) (fun _=>[(1,⟨false,zC (rf.map y9),129⟩)]) (fun _ _=>True):=by
 have hn1:=k.n1
 have hn2:=k.n2
 obtain⟨b0,o0,rfl,c0,el0,mk0,hc0,hcc⟩:=PtH.at k.c.p
 refine kX func52 RZ ntmps52 fun C hR hP hH hL=>?_
 have hR:=hR () C hL trivial
 have hpt:=k.c.p.mono hH
 refine zB 100 (vv ?_)
 refine Sm.dg 110 12 zw (vv ?_)
 refine DOpQ.own 120 (zm rfl rfl) (vv ?_)
 refine DOpQ.own 120 (zV rfl rfl rfl) (vv ?_)
 refine DOpQ.own 120 (zV rfl rfl rfl) (vv ?_)
 refine zF 120 (fun _=>zQ (hH _ _ hc0) (hcc 4 _ rfl) rfl rfl rfl) (vv ?_)
 refine DOpQ.own 120 (zm rfl rfl) (vv ?_)
 refine DOpQ.own 120 (zV rfl rfl rfl) (vv ?_)
 refine DOpQ.own 120 (zV rfl rfl rfl) (vv ?_)
 refine zF 120 (fun _=>zQ (hH _ _ hc0) (hcc 5 _ rfl) rfl rfl rfl) ?_
 simp only[go_sem,qu (d5 d.c)]
 have e1:IntKind.i64.wrap ((d.ins.length:Int)+(d.bls.length:Int))=((d.ins.length+d.bls.length:Nat):Int):=by rw[y8 zA zA];omega
 simp only[e1,Int.toNat_natCast]
 refine⟨⟨zA,zA,zA⟩,?_⟩
 refine z3 1 191 30 hpt rfl rfl (zB 130 ?_)
 refine vv ?_
 refine Sm.bringR 5 60 34 (k.o.i.mono hH) rfl rfl ?_
 have hl5:(d.ins.map Po.r).length=d.ins.length:=Ni _
 rw[hl5]
 have hz5:=zS (r:=Po.r) (k:=4) (fun _=>rfl) d.ins
 have hgi:∀j (h:j<d.ins.length),d5 d.c j=(d.ins[j].lo,d.ins[j].hi):=fun j h=>by
  unfold d5
  have:d.c.ins.getD j TK=d.ins[j]:=by
   show d.ins.getD j TK=_
   rw[Nl,No h];rfl
  rw[this]
 have hM:ClM [(4,⟨true,od.map nC,3⟩)]:=zD (by simp only[Nj,zZ (xO _)];rfl)
 refine zL (M0:=[(4,⟨true,od.map nC,3⟩)]) (α:={i:Nat//i<=d.ins.length}) hP (fun i=>[(0,true,.c (.v (.pointer (some ⟨b0,o0,none⟩)))),(1,true,.c (.sl 4 0 od.length 1)),(7,true,.c (.sl 2 0 (d.ins.length+d.bls.length) 2)),(34,true,.c (.sl 5 0 d.ins.length 4)),(35,true,I d.ins.length),(36,true,I i.val)])
  (fun i=>[(4,⟨true,od.map nC,3⟩),(2,⟨false,zC ((wH (d5 d.c) (d.ins.length+d.bls.length) i.val).map y9),129⟩),(5,⟨true,zC (d.ins.map Po.r),60⟩)]) (fun i=>d.ins.length-i.val) ⟨0,zA⟩ (fun i=>zD (by simp only[Nj,zZ (xO _),iR];rfl)) (fun _=>zP rfl) [(4,4),(2,120),(5,5)] ?_ ?_
 ·exact zk
 rintro⟨i,hi⟩ J hj
 simp only at hj hi⊢
 refine zB 140 (vv ?_)
 refine zY (fun hc=>?_) (fun hc=>?_)
 ·have hc:=zI hc
  have htk:=zX (r:=Po.r) (k:=4) (fun _=>rfl) d.ins i hc
  have hul:=zS (r:=y9) (k:=2) (fun _=>rfl) (wH (d5 d.c) (d.ins.length+d.bls.length) i)
  rw[tV]at hul
  have hst:=ww (wH (d5 d.c) (d.ins.length+d.bls.length) i) i (d5 d.c i)
  rw[o9 zA,hgi i hc]at hst
  simp only[go_sem,htk,hz5,hul]
  simp only[hst,yt (i:=i)]
  refine⟨⟨zA,zA⟩,zA,⟨zA,zA⟩,zA,?_⟩
  refine zB 150 ?_
  simp only[go_sem,yt (i:=i)]
  exact hj _ _ ⟨i+1,hc⟩ [(4,4),(2,2),(5,5)] yK zk
 have hc:=zJ hi hc
 subst hc
 clear hj
 have hr0:wH (d5 d.c) (d.ins.length+d.bls.length) d.ins.length=r0 d.c:=by
  unfold r0
  have e1:d.c.bls.length=d.bls.length:=Ni _
  rw[e1];rfl
 rw[hr0]
 have hlr0:(r0 d.c).length=d.ins.length+d.bls.length:=by rw[<-hr0,tV]
 refine z3 1 191 50 hpt rfl rfl (zB 150 ?_)
 simp only[go_sem,qu (eD d.c)]
 refine⟨⟨zA,zA,zA⟩,?_⟩
 refine z3 6 191 57 hpt rfl rfl (zB 160 ?_)
 refine vv ?_
 refine Sm.bringR 8 64 61 (k.o.bl.mono hH) rfl rfl ?_
 have hl8:(d.bls.map BlL.r).length=d.bls.length:=Ni _
 rw[hl8]
 have hz8:=zS (r:=BlL.r) (k:=6) (fun _=>rfl) d.bls
 refine zL (M0:=[(4,⟨true,od.map nC,3⟩)]) (α:={i:Nat//i<=d.bls.length}) hP (fun i=>[(0,true,.c (.v (.pointer (some ⟨b0,o0,none⟩)))),(1,true,.c (.sl 4 0 od.length 1)),(7,true,.c (.sl 2 0 (d.ins.length+d.bls.length) 2)),(10,true,.c (.sl 3 0 d.bls.length 2)),(61,true,.c (.sl 8 0 d.bls.length 6)),(62,true,I d.bls.length),(63,true,I i.val)])
  (fun i=>[(4,⟨true,od.map nC,3⟩),(2,⟨false,zC ((r0 d.c).map y9),129⟩),(3,⟨false,zC ((wH (eD d.c) d.bls.length i.val).map y9),129⟩),(8,⟨true,zC (d.bls.map BlL.r),64⟩)]) (fun i=>d.bls.length-i.val) ⟨0,zA⟩ (fun i=>zD (by simp only[Nj,zZ (xO _),iR];rfl)) (fun _=>zP rfl) [(4,4),(2,2),(3,150),(8,8)] ?_ ?_
 ·exact zk
 rintro⟨i,hi⟩ J hj
 simp only at hj hi⊢
 refine zB 170 (vv ?_)
 refine zY (fun hc=>?_) (fun hc=>?_)
 ·have hc:=zI hc
  have htk:=zX (r:=BlL.r) (k:=6) (fun _=>rfl) d.bls i hc
  have hul:=zS (r:=y9) (k:=2) (fun _=>rfl) (wH (eD d.c) d.bls.length i)
  rw[tV]at hul
  have hmem:d.bls[i]∈d.bls:=Nv hc
  have hbo:=k.o.bls _ hmem
  have hbk:=hok _ hmem
  have hgd:d.c.bls.getD i o5=d.bls[i].c:=by
   show(d.bls.map BlL.c).getD i o5=_
   rw[Nl,MC,No hc];rfl
  have hsf:eD d.c i=bif d.bls[i].c.kd==ng then(d.bls[i].c.ks.getD 0 0,d.bls[i].c.ks.getD 0 0)else(0,0):=by unfold eD;rw[hgd]
  generalize d.bls[i]=b at*
  simp only[go_sem,htk,hz8]
  refine⟨⟨zA,zA⟩,zA,?_⟩
  refine zY (fun hd=>?_) (fun hd=>?_)
  ·have hd:(b.c.kd==ng)=true:=hd
   rw[hd,cond_true]at hsf
   obtain⟨k0,hk0⟩:=qg (xq hbk hd (by rfl)).2
   obtain⟨bi,oi,ci',hi1,csi,eli,mki,hci,hcci⟩:=hbo.k.at (by rw[hk0];simp[zT])
   have hio:b.k.o=some ⟨bi,oi,none⟩:=by injection hi1
   have hkl:b.c.ks.length=1:=by rw[hk0];rfl
   have hx0:csi[oi+0]?=some (iv k0):=hcci 0 _ (by rw[hk0];rfl)
   rw[hk0]at hsf
   have hsf:eD d.c i=(k0,k0):=hsf
   have hst:=ww (wH (eD d.c) d.bls.length i) i (eD d.c i)
   rw[o9 hc,hsf]at hst
   refine Sm.dg 180 11 zw ?_
   simp only[go_sem,hio]
   refine DOpQ.own 180 (Stp.idxV rfl rfl rfl rfl zA zA) (vv ?_)
   refine zF 180 (fun _=>zQ (hH _ _ hci) hx0 rfl rfl rfl) (vv ?_)
   refine DOpQ.own 180 (Stp.idxV rfl rfl rfl rfl zA zA) (vv ?_)
   refine zF 180 (fun _=>zQ (hH _ _ hci) hx0 rfl rfl rfl) ?_
   simp only[go_sem,hul]
   simp only[hst]
   refine⟨⟨zA,zA⟩,zA,?_⟩
   refine zB 190 ?_
   simp only[go_sem,yt (i:=i)]
   exact hj _ _ ⟨i+1,hc⟩ [(4,4),(2,2),(3,3),(8,8)] yK zk
  ·have hd:(b.c.kd==ng)=false:=hd
   rw[hd,cond_false]at hsf
   refine zB 190 ?_
   simp only[go_sem,yt (i:=i)]
   rw[jT hsf]
   exact hj _ _ ⟨i+1,hc⟩ [(4,4),(2,2),(3,3),(8,8)] yK zk
 have hc:=zJ hi hc
 subst hc
 clear hj
 have hs0:wH (eD d.c) d.bls.length d.bls.length=s0 d.c:=by
  unfold s0
  have e1:d.c.bls.length=d.bls.length:=Ni _
  rw[e1]
 rw[hs0]
 have hls0:(s0 d.c).length=d.bls.length:=by rw[<-hs0,tV]
 have hms:∀rs st:List (Int×Int),ClM [(4,⟨true,od.map nC,3⟩),(2,⟨false,zC (rs.map y9),129⟩),(3,⟨false,zC (st.map y9),129⟩)]:=fun rs st=>zD (by simp only[Nj,zZ (xO _),iR];rfl)
 refine zL (M0:=[(4,⟨true,od.map nC,3⟩)]) (α:={q:Nat×Nat×List (Int×Int)×List (Int×Int)//q.1+q.2.1=f+1/\q.2.2.1.length=d.ins.length+d.bls.length/\q.2.2.2.length=d.bls.length/\uN d.c T od q.1 (q.2.1:Int) q.2.2.1 q.2.2.2=some (rf,er)}) hP (fun q=>[(0,true,.c (.v (.pointer (some ⟨b0,o0,none⟩)))),(1,true,.c (.sl 4 0 od.length 1)),(7,true,.c (.sl 2 0 (d.ins.length+d.bls.length) 2)),(10,true,.c (.sl 3 0 d.bls.length 2)),(13,true,I q.val.2.1)])
  (fun q=>[(4,⟨true,od.map nC,3⟩),(2,⟨false,zC (q.val.2.2.1.map y9),129⟩),(3,⟨false,zC (q.val.2.2.2.map y9),129⟩)]) (fun q=>q.val.1) ⟨(f,1,r0 d.c,s0 d.c),rfl,hlr0,hls0,hf⟩ (fun q=>hms _ _) (fun _=>zP rfl) [(4,4),(2,2),(3,3)] ?_ ?_
 ·exact zk
 rintro⟨⟨fu,n,rs,st⟩,hfn,hlr,hls,hx⟩ J hj
 simp only at hj hfn hlr hls hx⊢
 cases fu with
 |zero=>cases hx
 |succ fu=>
 rw[uN]at hx
 have hrd:=am k hok hin T hT rs st od hlr hls h3 h4
 rw[hlr,hls]at hrd
 refine zB 170 (vv ?_)
 have hrl:=vY d.c T st od rs
 have hre:=rx d.c T st od rs
 refine CallQ.hr [(2,2),(3,3),(4,4)] 180 hrd hH (zD (by unfold SG;simp only[Nj,zZ (xO _),iR];rfl)) rfl rfl ⟨oY,⟨_,rfl,oP (zK _)⟩,⟨_,rfl,oP (xO _)⟩,trivial⟩ rfl (.inl rfl) ?_
 simp only[Mem.ren,Nk,Nm,zf (zK _),V.ren,Cv.ren,rn,Nat.reduceBEq,cond_true,cond_false]
 generalize yj d.c T st od rs=q at*
 obtain⟨rq,e⟩:=q
 simp only at hx hrl hre⊢
 cases e with
 |some e=>
  injection hx with hx
  obtain⟨rfl,rfl⟩:=Prod.mk.inj hx
  have he:(e.2 !=0)=true:=by rw[bne,hre e rfl];rfl
  simp only[go_sem,Option.getD_some,he]
  refine ym 200 2 129 [4] [] rfl (vv ?_)
  refine RetQ.ren [(1,200),(4,4)] hR hP rfl y6 rfl rfl ?_ ?_ ?_ (zH rfl)
  ·exact⟨⟨rfl,rfl⟩,trivial⟩
  ·exact⟨oR,oV (zf (xO _)),trivial⟩
  ·exact zD (by simp only[Nt,Nu,Nj,zZ (xO _),iR];rfl)
 |none=>
 simp only[go_sem,Option.getD_none]
 have hkp:=XJ k hok hin rq st (n:Int) (hrl.trans hlr) hls
 have hkl:=ug d.c (decide (8<=(n:Int))) rq (List.range d.bls.length) st false
 rw[hrl.trans hlr,hls]at hkp
 refine CallQ.hr [(2,2),(3,3)] 200 hkp hH (zD (by unfold S7;simp only[Nj,iR];rfl)) rfl rfl ⟨oY,⟨_,rfl,oP (zK _)⟩,trivial⟩ rfl (.inl rfl) ?_
 simp only[Mem.ren,Nk,Nm,zf (zK _),V.ren,Cv.ren,rn,Nat.reduceBEq,cond_true,cond_false]
 have hbl:d.c.bls.length=d.bls.length:=Ni _
 rw[hbl]at hx
 generalize rF d.c (decide (8<=(n:Int))) rq (List.range d.bls.length) st false=q at*
 obtain⟨sq,ch⟩:=q
 simp only at hx hkl⊢
 cases ch with
 |true=>
  rw[cond_true]at hx
  refine vv ?_
  refine zB 220 ?_
  simp only[go_sem,yt (i:=n)]
  exact hj _ _ ⟨(fu,n+1,rq,sq),by simp only;omega,hrl.trans hlr,hkl.trans hls,by simpa using hx⟩ [(4,4),(2,2),(3,3)] yK zk
 |false=>
  rw[cond_false]at hx
  injection hx with hx
  obtain⟨rfl,rfl⟩:=Prod.mk.inj hx
  refine vv ?_
  refine RetQ.ren [(1,2),(4,4)] hR hP rfl y6 rfl ?_ ?_ ?_ ?_ (zH rfl)
  ·rw[hrl.trans hlr];rfl
  ·exact⟨⟨rfl,rfl⟩,trivial⟩
  ·exact⟨oX,oV (zf (xO _)),trivial⟩
  ·exact zD (by simp only[Nt,Nu,Nj,zZ (xO _),iR];rfl)
end Go.Proofs.YtbnkiacicnnmkaaGreat.Fx
namespace Go.Proofs.YtbnkiacicnnmkaaGreat.Fx
theorem d7 (s:Int)(a:Ft)(x:Int)(t:Ft):(wt t).1<=gR s a x t/\gR s a x t<=(wt t).2:=by
 unfold gR wt
 cases h:fok t with
 |true=>
  have:=qK t h
  simp only[cond_true]
  split
  ·unfold jn;omega
  ·omega
 |false=>
  have e:uX a x t=1:=by rw[uX,if_pos (.inr h)]
  rw[e];simp
theorem fL (a:Ft)(x:Int)(t:Ft):(wt t).1<=gR 1 a x t/\gR 1 a x t<=(wt t).2:=d7 1 a x t
theorem XC (t:Ft):(wt t).1<=0/\0<=(wt t).2:=by
 unfold wt
 cases h:fok t with
 |true=>have:=qK t h;simp only[cond_true];omega
 |false=>simp
def Oj (t:Ft)(r:Int×Int):Prop:=(wt t).1<=r.1/\r.1<=r.2/\r.2<=(wt t).2
theorem XY (t:Ft):Oj t (0,0):=⟨(XC t).1,Int.le_refl _,(XC t).2⟩
theorem fk {t:Ft}{b:Bl}{rs:List (Int×Int)}{ts:List Ft}{pr tb:Int×Int}(h:b.kd=fD):(yU t b rs ts pr tb).1=tf pr (qp (rs.getD 0 (0,0)) (ts.getD 0 Z4) t):=by
 unfold yU
 rw[h]
 rfl
theorem vm {a b:Int×Int}:mP a b=true↔a=b:=by
 unfold mP
 rw[Ns,beq_iff_eq,beq_iff_eq]
 exact⟨fun h=>Prod.ext h.1 h.2,fun h=>by rw[h];exact⟨rfl,rfl⟩⟩
def lE (d:Dg)(i:Nat):Int×Int:=wt (yH d.tys (d.bls.getD i o5).ty)
theorem rY (d:Dg)(rs:List (Int×Int)):∀(l:List Nat) (st:List (Int×Int)) (ch:Bool) (i:Nat),i<st.length->l.Nodup->
  (rF d true rs l st ch).1.getD i (0,0)=if i∈l/\qB d rs (st.getD i (0,0)) i≠st.getD i (0,0)then lE d i else st.getD i (0,0)
 |[],st,ch,i,hi,hn=>by simp[rF]
 |j::l,st,ch,i,hi,hn=>by
  obtain⟨hj,hn⟩:=L3.1 hn
  unfold rF
  cases he:mP (qB d rs (st.getD j (0,0)) j) (st.getD j (0,0))with
  |true=>
   have he:=vm.1 he
   rw[cond_true,rY d rs l st ch i hi hn]
   by_cases hij:i=j
   ·subst hij
    rw[if_neg (fun h=>hj h.1),if_neg (fun h=>h.2 he)]
   ·have:(i∈j::l)↔i∈l:=by rw[MU];exact⟨fun h=>h.resolve_left hij,.inr⟩
    simp only[this]
  |false=>
   have he:¬qB d rs (st.getD j (0,0)) j=st.getD j (0,0):=fun h=>by rw[vm.2 h]at he;cases he
   rw[cond_false,rY d rs l _ true i (by simpa using hi) hn,cond_true]
   by_cases hij:i=j
   ·subst hij
    rw[if_neg (fun h=>hj h.1),if_pos ⟨zd,he⟩]
    rw[Nl,Lp hi];rfl
   ·have:(i∈j::l)↔i∈l:=by rw[MU];exact⟨fun h=>h.resolve_left hij,.inr⟩
    have hg:∀x,(st.set j x).getD i (0,0)=st.getD i (0,0):=fun x=>by
     rw[Nl,Nl,List.getElem?_set_ne (fun h=>hij h.symm)]
    simp only[this,hg]
theorem fE (d:Dg)(rs:List (Int×Int)):∀(l:List Nat) (st:List (Int×Int)) (ch:Bool),l.Nodup->(rF d true rs l st ch).2=true->ch=true\/∃i∈l,qB d rs (st.getD i (0,0)) i≠st.getD i (0,0)
 |[],st,ch,hn,h=> .inl h
 |j::l,st,ch,hn,h=>by
  obtain⟨hj,hn⟩:=L3.1 hn
  unfold rF at h
  cases he:mP (qB d rs (st.getD j (0,0)) j) (st.getD j (0,0))with
  |true=>
   rw[he,cond_true]at h
   rcases fE d rs l st ch hn h with h1|⟨i,hi,h1⟩
   ·exact .inl h1
   ·exact .inr ⟨i,by simp[hi],h1⟩
  |false=>exact .inr ⟨j,zd,fun h=>by rw[vm.2 h]at he;cases he⟩
def dI (d:Dg)(st:List (Int×Int)):Nat:=((List.range d.bls.length).filter fun i=> !mP (st.getD i (0,0)) (lE d i)).length
theorem pC {α:Type}{p q:α->Bool}:∀{l:List α},(∀x∈l,q x=true->p x=true)->(∃x∈l,p x=true/\q x=false)->(l.filter q).length<(l.filter p).length
 |[],_,h=>by obtain⟨x,hx,_⟩:=h;cases hx
 |y::l,h1,h2=>by
  have hle:(l.filter q).length<=(l.filter p).length:=by
   have h1:∀x∈l,q x=true->p x=true:=fun x hx=>h1 x (by simp[hx])
   clear h2
   induction l with
   |nil=>exact MP _
   |cons z l ih=>
    have:=ih (fun x hx=>(by assumption:∀x∈y::z::l,q x=true->p x=true) x (by rcases MU.1 hx with rfl|hx<;>simp[*])) (fun x hx=>h1 x (by simp[hx]))
    have hz:=h1 z zd
    simp only[List.filter_cons]
    cases hq:q z with
    |true=>rw[hz hq];simp;omega
    |false=>cases hp:p z<;>simp<;>omega
  have hy:=h1 y zd
  obtain⟨x,hx,hp,hq⟩:=h2
  simp only[List.filter_cons]
  rcases MU.1 hx with rfl|hx
  ·rw[hp,hq];simp;omega
  ·have ih:=pC (l:=l) (fun x hx=>h1 x (by simp[hx])) ⟨x,hx,hp,hq⟩
   cases hq:q y with
   |true=>rw[hy hq];simp;omega
   |false=>cases hp:p y<;>simp<;>omega
def cS (d:Dg)(rs st:List (Int×Int)):Prop:=∀i,i<d.bls.length->st.getD i (0,0)=lE d i->qB d rs (st.getD i (0,0)) i=st.getD i (0,0)
theorem dG {d:Dg}{rs st:List (Int×Int)}(hl:st.length=d.bls.length)(hs:cS d rs st)(hc:(rF d true rs (List.range d.bls.length) st false).2=true):
  dI d (rF d true rs (List.range d.bls.length) st false).1<dI d st:=by
 have hn:(List.range d.bls.length).Nodup:=List.nodup_range
 refine pC (fun i hi hq=>?_) ?_
 ·have hi:i<d.bls.length:=Md.1 hi
  rw[rY d rs _ st false i zA hn]at hq
  cases hp:mP (st.getD i (0,0)) (lE d i)with
  |false=>rfl
  |true=>
   have hp:=vm.1 hp
   rw[if_neg (fun h=>h.2 (hs i hi hp)),vm.2 hp]at hq
   cases hq
 ·rcases fE d rs _ st false hn hc with h|⟨i,hi,h⟩
  ·cases h
  ·have hi':i<d.bls.length:=Md.1 hi
   refine⟨i,hi,?_,?_⟩
   ·cases hp:mP (st.getD i (0,0)) (lE d i)with
    |false=>rfl
    |true=>exact absurd (hs i hi' (vm.1 hp)) h
   ·rw[rY d rs _ st false i zA hn,if_pos ⟨hi,h⟩,vm.2 rfl];rfl
theorem qt {d:Dg}{T:Bl->List (Int×Int)->Int×Int}{od:List Nat}(hs:∀rs st,rs.length=d.ins.length+d.bls.length->st.length=d.bls.length->(yj d T st od rs).2=none->cS d (yj d T st od rs).1 st):
  ∀(m:Nat) (n:Int) (rs st:List (Int×Int)),8<=n->rs.length=d.ins.length+d.bls.length->st.length=d.bls.length->dI d st<=m->∃r,uN d T od (m+1) n rs st=some r
 |m,n,rs,st,hn,h1,h2,hm=>by
  unfold uN
  cases he:(yj d T st od rs).2 with
  |some e=>exact⟨_,rfl⟩
  |none=>
   simp only
   rw[decide_eq_true hn]
   cases hc:(rF d true (yj d T st od rs).1 (List.range d.bls.length) st false).2 with
   |false=>exact⟨_,rfl⟩
   |true=>
    have hlt:=dG h2 (hs rs st h1 h2 he) hc
    rw[cond_true]
    cases m with
    |zero=>omega
    |succ m=>exact qt hs m (n+1) _ _ zA (by rw[vY];exact h1) (by rw[ug];exact h2) zA
theorem dH (d:Dg)(st:List (Int×Int)):dI d st<=d.bls.length:=by
 have:=List.length_filter_le (fun i=> !mP (st.getD i (0,0)) (lE d i)) (List.range d.bls.length)
 rwa [Lh]at this
theorem ru {d:Dg}{T:Bl->List (Int×Int)->Int×Int}{od:List Nat}(hs:∀rs st,rs.length=d.ins.length+d.bls.length->st.length=d.bls.length->(yj d T st od rs).2=none->cS d (yj d T st od rs).1 st):
  ∀(k:Nat) (n:Int) (rs st:List (Int×Int)),8<=n+k->rs.length=d.ins.length+d.bls.length->st.length=d.bls.length->∃r,uN d T od (d.bls.length+1+k) n rs st=some r
 |0,n,rs,st,hn,h1,h2=>qt hs d.bls.length n rs st zA h1 h2 (dH d st)
 |k+1,n,rs,st,hn,h1,h2=>by
  show ∃r,uN d T od ((d.bls.length+1+k)+1) n rs st=some r
  unfold uN
  cases he:(yj d T st od rs).2 with
  |some e=>exact⟨_,rfl⟩
  |none=>
   simp only
   cases hc:(rF d (decide (8<=n)) (yj d T st od rs).1 (List.range d.bls.length) st false).2 with
   |false=>exact⟨_,rfl⟩
   |true=>
    rw[cond_true]
    exact ru hs k (n+1) _ _ zA (by rw[vY];exact h1) (by rw[ug];exact h2)
theorem nJ (d:Dg)(T:Bl->List (Int×Int)->Int×Int)(st:List (Int×Int)):∀(l:List Nat) (rs:List (Int×Int)),l.Nodup->(∀i∈l,d.ins.length+i<rs.length)->(yj d T st l rs).2=none->∀i,
  (i∈l->∃rq,rq.length=rs.length/\(yj d T st l rs).1.getD (d.ins.length+i) (0,0)=(vW d T rq st i).1/\(vW d T rq st i).2=0)/\(i∉l->(yj d T st l rs).1.getD (d.ins.length+i) (0,0)=rs.getD (d.ins.length+i) (0,0))
 |[],rs,hn,hl,he,i=>⟨zd,fun _=>rfl⟩
 |j::l,rs,hn,hl,he,i=>by
  obtain⟨hj,hn⟩:=L3.1 hn
  unfold yj at he⊢
  cases hc:(vW d T rs st j).2==0 with
  |false=>rw[hc]at he;cases he
  |true=>
   rw[hc,cond_true]at he
   rw[cond_true]
   have hc0:(vW d T rs st j).2=0:=by simpa using hc
   have ih:=nJ d T st l (rs.set (d.ins.length+j) (vW d T rs st j).1) hn (fun i hi=>by rw[MX];exact hl i (by simp[hi])) he i
   by_cases hij:i=j
   ·subst hij
    refine⟨fun _=>⟨rs,rfl,?_,hc0⟩,fun h=>absurd zd h⟩
    rw[ih.2 hj,Nl,Lp (hl i zd)];rfl
   ·refine⟨fun h=>?_,fun h=>?_⟩
    ·obtain⟨rq,q1,q2,q3⟩:=ih.1 (by rcases MU.1 h with h|h;exact absurd h hij;exact h)
     exact⟨rq,by rw[q1,MX],q2,q3⟩
    ·rw[ih.2 (fun hm=>h (by simp[hm])),Nl,Nl,List.getElem?_set_ne zA]
theorem kv {r:Int×Int}{a t:Ft}:tf (wt t) (qp r a t)=wt t:=by
 have h1:=fL a r.1 t
 have h2:=fL a r.2 t
 unfold tf qp
 refine Prod.ext ?_ ?_
 ·show min (wt t).1 (gR 1 a r.1 t)=_;omega
 ·show max (wt t).2 (gR 1 a r.2 t)=_;omega
theorem eg {d:Dg}{T:Bl->List (Int×Int)->Int×Int}{od:List Nat}(hn:od.Nodup)(hlt:∀i∈od,i<d.bls.length)(hall:∀i,i<d.bls.length->i∈od)(rs st:List (Int×Int))(h1:rs.length=d.ins.length+d.bls.length)(h2:st.length=d.bls.length)
  (he:(yj d T st od rs).2=none):cS d (yj d T st od rs).1 st:=by
 intro i hi hst
 obtain⟨rq,q1,q2,q3⟩:=(nJ d T st od rs hn (fun j hj=>by have:=hlt j hj;omega) he i).1 (hall i hi)
 rw[hst]
 unfold qB
 unfold nR
 rw[q2]
 unfold vW
 rw[hst]
 unfold lE
 generalize d.bls.getD i o5=b
 cases hk:b.kd==ng with
 |true=>rw[cond_true];exact kv
 |false=>
  rw[cond_false]
  cases hl:b.kd==fD with
  |false=>rfl
  |true=>
   rw[cond_true,fk (by simpa using hl)]
   exact kv
theorem j7 {d:Dg}(T:Bl->List (Int×Int)->Int×Int){od:List Nat}(hn:od.Nodup)(hlt:∀i∈od,i<d.bls.length)(hall:∀i,i<d.bls.length->i∈od):∃r,uN d T od (d.bls.length+8) 1 (r0 d) (s0 d)=some r:=
 ru (fun rs st h1 h2 he=>eg hn hlt hall rs st h1 h2 he) 7 1 (r0 d) (s0 d) zA (by simp[r0,wH]) (by simp[s0,wH])
theorem uk {α:Type}{f:α->Option (Str×Int)}:∀{l:List α},zx f l=none↔∀x∈l,f x=none
 |[]=>by simp[zx]
 |y::l=>by
  rw[yc]
  cases hy:f y with
  |some z=>simp[hy]
  |none=>rw[Option.none_or,uk];simp[hy]
structure Chkd (d:Dg):Prop where
 ok:tq d=true
 dup:sY [] (qV d)=none
 inp:∀p∈d.ins,uG d.tys p=none
 blk:∀b∈d.bls,uH d.tys d.cus d.mas (zW d) b=none
 out:uw (zW d) [] d.ous=none
 fit:∀b∈d.bls,tP d b=none
theorem cX {d:Dg}(h:tq d=true)(h2:ny d=none):Chkd d:=by
 unfold ny at h2
 cases hd:sY [] (qV d)with
 |some s=>rw[hd]at h2;cases h2
 |none=>
  rw[hd]at h2
  simp only[Option.or_eq_none_iff]at h2
  obtain⟨h3,h4,h5,h6⟩:=h2
  exact⟨h,hd,uk.1 h3,uk.1 h4,h5,uk.1 h6⟩
theorem Chkd.arg {d:Dg}(k:Chkd d){b:Bl}(hb:b∈d.bls):s9 (zW d) b.ins=none:=by
 have:=k.blk b hb
 unfold uH at this
 split at this
 ·cases this
 ·cases ha:s9 (zW d) b.ins with
  |none=>rfl
  |some s=>rw[ha]at this;cases this
theorem nG {d:Dg}{T:Bl->List (Int×Int)->Int×Int}{od:List Nat}{Q:List (Int×Int)->List (Int×Int)->Prop}
  (h:∀rs st big,Q rs st->(yj d T st od rs).2=none->Q (yj d T st od rs).1 (rF d big (yj d T st od rs).1 (List.range d.bls.length) st false).1):
  ∀(f:Nat) (n:Int) (rs st rf:List (Int×Int)),Q rs st->uN d T od f n rs st=some (rf,none)->∃rs' st',Q rs' st'/\(yj d T st' od rs').2=none/\rf=(yj d T st' od rs').1
 |0,_,_,_,_,_,h=>by cases h
 |f+1,n,rs,st,rf,hq,hr=>by
  unfold uN at hr
  cases he:(yj d T st od rs).2 with
  |some e=>rw[he]at hr;cases hr
  |none=>
   rw[he]at hr
   simp only at hr
   cases hc:(rF d (decide (8<=n)) (yj d T st od rs).1 (List.range d.bls.length) st false).2 with
   |false=>
    rw[hc,cond_false]at hr
    have:(yj d T st od rs).1=rf:=by injection hr with hr;exact(Prod.mk.inj hr).1
    exact⟨rs,st,hq,he,this.symm⟩
   |true=>
    rw[hc,cond_true]at hr
    exact nG h f (n+1) _ _ rf (h rs st _ hq he) hr
open Vg Tf
theorem Uh {H:Hp}(v:Value)(rows:List (List Value))(h:SlH H v 11 rows)(h1:∀r∈rows,r.length=11)(hV:(zC rows).all Cv.one=true)(hl:rows.length<=1000000):
  CallX H KI 126 [.c (.v v)] [] (fun _:Unit=> .c (.sl 2 0 rows.length 11)) (fun _=>[(2,⟨false,zC rows,57⟩)]) (fun _ _=>True):=by
 have hz:=yS (k:=11) rows h1
 have htk:List.take (rows.length*11) (zC rows)=zC rows:=Nw zA
 refine kX func126 UB ntmps126 fun C hR hP hH hL=>?_
 have hR:=hR () C hL trivial
 refine Sm.bringR 1 57 0 (h.mono hH) rfl rfl (zB 100 ?_)
 refine vv ?_
 refine xY rfl rfl rfl rfl rfl rfl (fun h0=>?_) ?_
 ·have h0:rows=[]:=MN.1 h0
  subst h0
  refine zB 100 (vv ?_)
  refine ym 110 11 57 [2] [] rfl (vv ?_)
  exact RetQ.ren [(2,110)] hR hP rfl y6 rfl rfl trivial ⟨oR,trivial⟩ (zD rfl) (zH rfl)
 ·refine zB 100 ?_
  simp only[go_sem,htk,hz]
  refine⟨by first|exact hV|exact⟨⟨zA,hV⟩,zA,zA⟩|exact⟨zA,zA,zA⟩|skip,?_⟩
  exact RetQ.ren [(2,101)] hR hP rfl y6 rfl rfl trivial ⟨oX,trivial⟩ cM (zH rfl)
theorem Uk {H:Hp}(v:Value)(rows:List (List Value))(h:SlH H v 3 rows)(h1:∀r∈rows,r.length=3)(hV:(zC rows).all Cv.one=true)(hl:rows.length<=1000000):
  CallX H KI 127 [.c (.v v)] [] (fun _:Unit=> .c (.sl 2 0 rows.length 3)) (fun _=>[(2,⟨false,zC rows,138⟩)]) (fun _ _=>True):=by
 have hz:=yS (k:=3) rows h1
 have htk:List.take (rows.length*3) (zC rows)=zC rows:=Nw zA
 refine kX func127 UA ntmps127 fun C hR hP hH hL=>?_
 have hR:=hR () C hL trivial
 refine Sm.bringR 1 138 0 (h.mono hH) rfl rfl (zB 100 ?_)
 refine vv ?_
 refine xY rfl rfl rfl rfl rfl rfl (fun h0=>?_) ?_
 ·have h0:rows=[]:=MN.1 h0
  subst h0
  refine zB 100 (vv ?_)
  refine ym 110 3 138 [2] [] rfl (vv ?_)
  exact RetQ.ren [(2,110)] hR hP rfl y6 rfl rfl trivial ⟨oR,trivial⟩ (zD rfl) (zH rfl)
 ·refine zB 100 ?_
  simp only[go_sem,htk,hz]
  refine⟨by first|exact hV|exact⟨⟨zA,hV⟩,zA,zA⟩|exact⟨zA,zA,zA⟩|skip,?_⟩
  exact RetQ.ren [(2,101)] hR hP rfl y6 rfl rfl trivial ⟨oX,trivial⟩ cM (zH rfl)
theorem Uj {H:Hp}(v:Value)(rows:List (List Value))(h:SlH H v 4 rows)(h1:∀r∈rows,r.length=4)(hV:(zC rows).all Cv.one=true)(hl:rows.length<=1000000):
  CallX H KI 128 [.c (.v v)] [] (fun _:Unit=> .c (.sl 2 0 rows.length 4)) (fun _=>[(2,⟨false,zC rows,140⟩)]) (fun _ _=>True):=by
 have hz:=yS (k:=4) rows h1
 have htk:List.take (rows.length*4) (zC rows)=zC rows:=Nw zA
 refine kX func128 Vz ntmps128 fun C hR hP hH hL=>?_
 have hR:=hR () C hL trivial
 refine Sm.bringR 1 140 0 (h.mono hH) rfl rfl (zB 100 ?_)
 refine vv ?_
 refine xY rfl rfl rfl rfl rfl rfl (fun h0=>?_) ?_
 ·have h0:rows=[]:=MN.1 h0
  subst h0
  refine zB 100 (vv ?_)
  refine ym 110 4 140 [2] [] rfl (vv ?_)
  exact RetQ.ren [(2,110)] hR hP rfl y6 rfl rfl trivial ⟨oR,trivial⟩ (zD rfl) (zH rfl)
 ·refine zB 100 ?_
  simp only[go_sem,htk,hz]
  refine⟨by first|exact hV|exact⟨⟨zA,hV⟩,zA,zA⟩|exact⟨zA,zA,zA⟩|skip,?_⟩
  exact RetQ.ren [(2,101)] hR hP rfl y6 rfl rfl trivial ⟨oX,trivial⟩ cM (zH rfl)
theorem Ui {H:Hp}(v:Value)(rows:List (List Value))(h:SlH H v 4 rows)(h1:∀r∈rows,r.length=4)(hV:(zC rows).all Cv.one=true)(hl:rows.length<=1000000):
  CallX H KI 129 [.c (.v v)] [] (fun _:Unit=> .c (.sl 2 0 rows.length 4)) (fun _=>[(2,⟨false,zC rows,60⟩)]) (fun _ _=>True):=by
 have hz:=yS (k:=4) rows h1
 have htk:List.take (rows.length*4) (zC rows)=zC rows:=Nw zA
 refine kX func129 Vy ntmps129 fun C hR hP hH hL=>?_
 have hR:=hR () C hL trivial
 refine Sm.bringR 1 60 0 (h.mono hH) rfl rfl (zB 100 ?_)
 refine vv ?_
 refine xY rfl rfl rfl rfl rfl rfl (fun h0=>?_) ?_
 ·have h0:rows=[]:=MN.1 h0
  subst h0
  refine zB 100 (vv ?_)
  refine ym 110 4 60 [2] [] rfl (vv ?_)
  exact RetQ.ren [(2,110)] hR hP rfl y6 rfl rfl trivial ⟨oR,trivial⟩ (zD rfl) (zH rfl)
 ·refine zB 100 ?_
  simp only[go_sem,htk,hz]
  refine⟨by first|exact hV|exact⟨⟨zA,hV⟩,zA,zA⟩|exact⟨zA,zA,zA⟩|skip,?_⟩
  exact RetQ.ren [(2,101)] hR hP rfl y6 rfl rfl trivial ⟨oX,trivial⟩ cM (zH rfl)
theorem Ul {H:Hp}(v:Value)(rows:List (List Value))(h:SlH H v 6 rows)(h1:∀r∈rows,r.length=6)(hV:(zC rows).all Cv.one=true)(hl:rows.length<=1000000):
  CallX H KI 130 [.c (.v v)] [] (fun _:Unit=> .c (.sl 2 0 rows.length 6)) (fun _=>[(2,⟨false,zC rows,64⟩)]) (fun _ _=>True):=by
 have hz:=yS (k:=6) rows h1
 have htk:List.take (rows.length*6) (zC rows)=zC rows:=Nw zA
 refine kX func130 Vx ntmps130 fun C hR hP hH hL=>?_
 have hR:=hR () C hL trivial
 refine Sm.bringR 1 64 0 (h.mono hH) rfl rfl (zB 100 ?_)
 refine vv ?_
 refine xY rfl rfl rfl rfl rfl rfl (fun h0=>?_) ?_
 ·have h0:rows=[]:=MN.1 h0
  subst h0
  refine zB 100 (vv ?_)
  refine ym 110 6 64 [2] [] rfl (vv ?_)
  exact RetQ.ren [(2,110)] hR hP rfl y6 rfl rfl trivial ⟨oR,trivial⟩ (zD rfl) (zH rfl)
 ·refine zB 100 ?_
  simp only[go_sem,htk,hz]
  refine⟨by first|exact hV|exact⟨⟨zA,hV⟩,zA,zA⟩|exact⟨zA,zA,zA⟩|skip,?_⟩
  exact RetQ.ren [(2,101)] hR hP rfl y6 rfl rfl trivial ⟨oX,trivial⟩ cM (zH rfl)
theorem aB {H:Hp}(v:Value)(rows:List (List Value))(h:SlH H v 1 rows)(h1:∀r∈rows,r.length=1)(hV:(zC rows).all Cv.one=true)(hl:rows.length<=1000000):
  CallX H KI 131 [.c (.v v)] [] (fun _:Unit=> .c (.sl 2 0 rows.length 1)) (fun _=>[(2,⟨false,zC rows,9⟩)]) (fun _ _=>True):=by
 have hz:=yS (k:=1) rows h1
 have htk:List.take rows.length (zC rows)=zC rows:=Nw zA
 refine kX func131 Vw ntmps131 fun C hR hP hH hL=>?_
 have hR:=hR () C hL trivial
 refine Sm.bringR 1 9 0 (h.mono hH) rfl rfl (zB 100 ?_)
 refine vv ?_
 refine xY rfl rfl rfl rfl rfl rfl (fun h0=>?_) ?_
 ·have h0:rows=[]:=MN.1 h0
  subst h0
  refine zB 100 (vv ?_)
  refine ym 110 1 9 [2] [] rfl (vv ?_)
  exact RetQ.ren [(2,110)] hR hP rfl y6 rfl rfl trivial ⟨oR,trivial⟩ (zD rfl) (zH rfl)
 ·refine zB 100 ?_
  simp only[go_sem,htk,hz]
  refine⟨by first|exact hV|exact⟨⟨zA,hV⟩,zA,zA⟩|exact⟨zA,zA,zA⟩|skip,?_⟩
  exact RetQ.ren [(2,101)] hR hP rfl y6 rfl rfl trivial ⟨oX,trivial⟩ cM (zH rfl)
theorem pH {H:Hp}(v:Value)(rows:List (List Value))(h:SlH H v 1 rows)(h1:∀r∈rows,r.length=1)(hV:(zC rows).all Cv.one=true)(hl:rows.length<=1000000):
  CallX H KI 17 [.c (.v v)] [] (fun _:Unit=> .c (.sl 2 0 rows.length 1)) (fun _=>[(2,⟨false,zC rows,3⟩)]) (fun _ _=>True):=by
 have hz:=yS (k:=1) rows h1
 have htk:List.take rows.length (zC rows)=zC rows:=Nw zA
 refine kX func17 V2 ntmps17 fun C hR hP hH hL=>?_
 have hR:=hR () C hL trivial
 refine Sm.bringR 1 3 0 (h.mono hH) rfl rfl (zB 100 ?_)
 refine vv ?_
 refine xY rfl rfl rfl rfl rfl rfl (fun h0=>?_) ?_
 ·have h0:rows=[]:=MN.1 h0
  subst h0
  refine zB 100 (vv ?_)
  refine ym 110 1 3 [2] [] rfl (vv ?_)
  exact RetQ.ren [(2,110)] hR hP rfl y6 rfl rfl trivial ⟨oR,trivial⟩ (zD rfl) (zH rfl)
 ·refine zB 100 ?_
  simp only[go_sem,htk,hz]
  refine⟨by first|exact hV|exact⟨⟨zA,hV⟩,zA,zA⟩|exact⟨zA,zA,zA⟩|skip,?_⟩
  exact RetQ.ren [(2,101)] hR hP rfl y6 rfl rfl trivial ⟨oX,trivial⟩ cM (zH rfl)
theorem Ug {H:Hp}(v:Value)(rows:List (List Value))(h:SlH H v 1 rows)(h1:∀r∈rows,r.length=1)(hV:(zC rows).all Cv.one=true)(hl:rows.length<=1000000):
  CallX H KI 132 [.c (.v v)] [] (fun _:Unit=> .c (.sl 2 0 rows.length 1)) (fun _=>[(2,⟨false,zC rows,26⟩)]) (fun _ _=>True):=by
 have hz:=yS (k:=1) rows h1
 have htk:List.take rows.length (zC rows)=zC rows:=Nw zA
 refine kX func132 Vv ntmps132 fun C hR hP hH hL=>?_
 have hR:=hR () C hL trivial
 refine Sm.bringR 1 26 0 (h.mono hH) rfl rfl (zB 100 ?_)
 refine vv ?_
 refine xY rfl rfl rfl rfl rfl rfl (fun h0=>?_) ?_
 ·have h0:rows=[]:=MN.1 h0
  subst h0
  refine zB 100 (vv ?_)
  refine ym 110 1 26 [2] [] rfl (vv ?_)
  exact RetQ.ren [(2,110)] hR hP rfl y6 rfl rfl trivial ⟨oR,trivial⟩ (zD rfl) (zH rfl)
 ·refine zB 100 ?_
  simp only[go_sem,htk,hz]
  refine⟨by first|exact hV|exact⟨⟨zA,hV⟩,zA,zA⟩|exact⟨zA,zA,zA⟩|skip,?_⟩
  exact RetQ.ren [(2,101)] hR hP rfl y6 rfl rfl trivial ⟨oX,trivial⟩ cM (zH rfl)
open Vg Tf
structure DgB (d:DgL):Prop where
 tys:d.tys.length<=30
 cus:d.cus.length<=30
 mas:d.mas.length<=30
 ins:d.ins.length<=30
 bls:d.bls.length<=200
 ous:d.ous.length<=30
 cuO:∀c∈d.cus,wU c.c.xs c.c.ys=true
 maO:∀m∈d.mas,x8 m.xs m.ys (m.zs.map (·.2))=true
 blO:∀b∈d.bls,xg b.c=true
 tyO:∀t∈d.tys,fok t.ty=true
theorem Pf {d:DgL}(h:tq d.c=true):DgB d:=by
 unfold tq at h
 simp only[Ns,decide_eq_true_eq,Nr]at h
 obtain⟨_,⟨n1,n2,n3,n4,n5⟩,n6,ht,hcu,hma,_,hbl,_⟩:=h
 refine⟨n1,by simpa[DgL.c]using n2,by simpa[DgL.c]using n3,n4,by simpa[DgL.c]using n6,n5,fun c hc=>(hcu c.c (Nz.2 ⟨c,hc,rfl⟩)).2,fun m hm=>(hma m.c (Nz.2 ⟨m,hm,rfl⟩)).2,fun b hb=>hbl b.c (Nz.2 ⟨b,hb,rfl⟩),fun t h=>(ht t h).2⟩
theorem lV {b:Bl}(h:xg b=true):b.ins.length<=3:=by
 have hq:∃q,yk b.kd=some q:=by
  have h1:=h
  unfold xg at h1
  cases hq:yk b.kd with
  |none=>rw[hq]at h1;cases h1
  |some q=>exact⟨q,rfl⟩
 obtain⟨q,hq⟩:=hq
 have hm:(b.kd,q)∈kindT:=by
  have h2:=hq
  unfold yk at h2
  cases hf:kindT.find? (fun r=>r.1==b.kd)with
  |none=>rw[hf]at h2;cases h2
  |some r=>
   rw[hf]at h2
   have h3:=LS hf
   have h4:=List.find?_some hf
   have h5:r.1=b.kd:=by simpa using h4
   have h6:r.2=q:=by simpa using h2
   rw[<-h5,<-h6];exact h3
 unfold xg at h
 rw[hq]at h
 simp only[Ns,decide_eq_true_eq]at h
 have:∀x∈kindT,x.2.1<=3:=xW
 have:=this _ hm
 simp only at this
 omega
end Go.Proofs.YtbnkiacicnnmkaaGreat.Fx
