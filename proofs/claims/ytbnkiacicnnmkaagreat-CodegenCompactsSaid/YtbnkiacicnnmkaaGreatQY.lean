/-  -/
import Derived.Test.YtbnkiacicnnmkaaGreatQO
open Go.Proofs.Tryz
open Go.Proofs.Tryz renaming prog→HT
set_option linter.unusedSimpArgs false
set_option linter.unusedVariables false
set_option maxRecDepth 100000
set_option maxHeartbeats 4000000
namespace Go.Proofs.YtbnkiacicnnmkaaGreat.Fx
open Vg Tf
def wK (f:Nat->Int×Int)(N i:Nat):List (Int×Int):=(List.range N).map fun j=>if j<i then f j else(0,0)
theorem tp (f:Nat->Int×Int)(N i:Nat):(wK f N i).length=N:=by simp[wK]
theorem mY {f:Nat->Int×Int}{N i:Nat}(h:i<N):(wK f N i).set i (f i)=wK f N (i+1):=by
 apply Jn
 intro j
 rw[IJ,wK,wK,JO,JO,Kv,Im]
 by_cases hj:i=j
 ·subst hj
  rw[if_pos rfl,if_pos h,Jp h];simp
 ·rw[if_neg hj]
  by_cases hN:j<N
  ·rw[Jp hN]
   simp only[Jj]
   by_cases h1:j<i
   ·rw[if_pos h1,if_pos zA]
   ·rw[if_neg h1,if_neg zA]
  ·rw[Jc (by simp;omega)];rfl
theorem gW {f:Nat->Int×Int}{N i:Nat}(h:f i=(0,0)):wK f N i=wK f N (i+1):=by
 unfold wK
 apply JV
 intro j _
 by_cases h1:j<i
 ·rw[if_pos h1,if_pos zA]
 ·by_cases h2:j=i
  ·subst h2;rw[if_neg h1,if_pos zA,h]
  ·rw[if_neg h1,if_neg zA]
theorem o8 (f:Nat->Int×Int):∀N:Nat,wR N [Cv.v (.int .i64 0),Cv.v (.int .i64 0)]=zC ((wK f N 0).map ya):=by
 intro N
 have h:wK f N 0=List.replicate N (0,0):=by
  unfold wK
  apply Jn
  intro j
  rw[JO,IR]
  by_cases hj:j<N
  ·rw[Jp hj,if_pos hj];rfl
  ·rw[Jc (by simp;omega),if_neg hj];rfl
 rw[h]
 clear h
 induction N with
 |zero=>rfl
 |succ n ih=>rw[wR,ih,List.replicate_succ,Ky,zj];rfl
def QT:Po:=⟨[],[],0,0⟩
def aX (d:Dg)(j:Nat):Int×Int:=((d.ins.getD j QT).lo,(d.ins.getD j QT).hi)
def cq (d:Dg)(j:Nat):Int×Int:=let b:=d.bls.getD j mR;bif b.kd==lU then(b.ks.getD 0 0,b.ks.getD 0 0)else(0,0)
def r0 (d:Dg):List (Int×Int):=wK (aX d) (d.ins.length+d.bls.length) d.ins.length
def s0 (d:Dg):List (Int×Int):=wK (cq d) d.bls.length d.bls.length
def ug (d:Dg)(T:Bl->List (Int×Int)->Int×Int)(od:List Nat):Nat->Int->List (Int×Int)->List (Int×Int)->Option (List (Int×Int)×Option (Str×Int))
 |0,_,_,_=>none
 |f+1,n,rs,st=>match (yl d T st od rs).2 with
  |some e=>some ([],some e)
  |none=>bif (rr d (decide (8<=n)) (yl d T st od rs).1 (List.range d.bls.length) st false).2 then ug d T od f (n+1) (yl d T st od rs).1 (rr d (decide (8<=n)) (yl d T st od rs).1 (List.range d.bls.length) st false).1
   else some ((yl d T st od rs).1,none)
theorem vg (d:Dg)(T:Bl->List (Int×Int)->Int×Int)(st:List (Int×Int)):∀(l:List Nat) (rs:List (Int×Int)),(yl d T st l rs).1.length=rs.length
 |[],rs=>rfl
 |i::l,rs=>by
  rw[yl]
  cases (vd d T rs st i).2==0 with
  |true=>rw[cond_true,vg d T st l,J8]
  |false=>rfl
theorem pD (d:Dg)(T:Bl->List (Int×Int)->Int×Int)(st:List (Int×Int)):∀(l:List Nat) (rs:List (Int×Int)) (e:Str×Int),(yl d T st l rs).2=some e->(e.2==0)=false
 |[],rs,e=>by intro h;cases h
 |i::l,rs,e=>by
  rw[yl]
  cases h:(vd d T rs st i).2==0 with
  |true=>rw[cond_true];exact pD d T st l _ e
  |false=>intro h2;injection h2 with h2;rw[<-h2];exact h
theorem tF (d:Dg)(big:Bool)(rs:List (Int×Int)):∀(l:List Nat) (st:List (Int×Int)) (ch:Bool),(rr d big rs l st ch).1.length=st.length
 |[],st,ch=>rfl
 |i::l,st,ch=>by
  rw[rr]
  cases kL (pJ d rs (st.getD i (0,0)) i) (st.getD i (0,0))with
  |true=>rw[cond_true,tF d big rs l]
  |false=>rw[cond_false,tF d big rs l,J8]
theorem br {H:Hp}{cp:Value}{d:DgL}{bT bC' bM bS:Nat}(k:Ck H cp d bT bC' bM bS)(hok:∀b∈d.bls,xj b.c=true)(hin:∀b∈d.bls,∀s∈b.c.ins,mb (zU d.c) s=true)(T:Bl->List (Int×Int)->Int×Int)
  (hT:∀b∈d.bls,gZ b.c.kd=true->∀rs:List (Int×Int),rs.length=b.c.ins.length->CallX H HT 256 [.c (.v cp),z3 b.r,.c (.sl 1 0 rs.length 2)] [(1,⟨true,zC (rs.map ya),129⟩)] (fun _:Unit=>rA (T b.c rs)) (fun _=>[]) (fun _ _=>True))
  (od:List Nat) (h3:∀o∈od,o<d.bls.length) (h4:od.length<=1000000) (f:Nat) (hfu:f<=1000000) (rf:List (Int×Int)) (er:Option (Str×Int)) (hf:ug d.c T od f 1 (r0 d.c) (s0 d.c)=some (rf,er)):
  CallX H HT 52 [.c (.v cp),.c (.sl 4 0 od.length 1)] [(4,⟨true,od.map nC,3⟩)] (fun _:Unit=> .tup [.c (.sl 1 0 rf.length 2),Ws (er.getD ([],0)).1,Wi (er.getD ([],0)).2]) (fun _=>[(1,⟨false,zC (rf.map ya),129⟩)]) (fun _ _=>True):=by
 have hn1:=k.n1
 have hn2:=k.n2
 obtain⟨b0,o0,rfl,c0,el0,mk0,hc0,hcc⟩:=PtH.at k.c.p
 refine kX func52 O5 ntmps52 fun C hR hP hH hL=>?_
 have hR:=hR () C hL trivial
 have hpt:=k.c.p.mono hH
 refine zB 100 (vv ?_)
 refine Sm.dg 110 12 zi (vv ?_)
 refine DOpQ.own 120 (zg rfl rfl) (vv ?_)
 refine DOpQ.own 120 (zT rfl rfl rfl) (vv ?_)
 refine DOpQ.own 120 (zT rfl rfl rfl) (vv ?_)
 refine zF 120 (fun _=>zS (hH _ _ hc0) (hcc 4 _ rfl) rfl rfl rfl) (vv ?_)
 refine DOpQ.own 120 (zg rfl rfl) (vv ?_)
 refine DOpQ.own 120 (zT rfl rfl rfl) (vv ?_)
 refine DOpQ.own 120 (zT rfl rfl rfl) (vv ?_)
 refine zF 120 (fun _=>zS (hH _ _ hc0) (hcc 5 _ rfl) rfl rfl rfl) ?_
 simp only[go_sem,o8 (aX d.c)]
 have e1:IntKind.i64.wrap ((d.ins.length:Int)+(d.bls.length:Int))=((d.ins.length+d.bls.length:Nat):Int):=by rw[y6 zA zA];omega
 simp only[e1,Int.toNat_natCast]
 refine⟨⟨zA,zA,zA⟩,?_⟩
 refine zX 1 191 30 hpt rfl rfl (zB 130 ?_)
 refine vv ?_
 refine Sm.bringR 5 60 34 (k.o.i.mono hH) rfl rfl ?_
 have hl5:(d.ins.map Po.r).length=d.ins.length:=Kv _
 rw[hl5]
 have hz5:=zQ (r:=Po.r) (k:=4) (fun _=>rfl) d.ins
 have hgi:∀j (h:j<d.ins.length),aX d.c j=(d.ins[j].lo,d.ins[j].hi):=fun j h=>by
  unfold aX
  have:d.c.ins.getD j QT=d.ins[j]:=by
   show d.ins.getD j QT=_
   rw[Kx,JA h];rfl
  rw[this]
 have hM:ClM [(4,⟨true,od.map nC,3⟩)]:=zD (by simp only[Kw,z6 (xU _)];rfl)
 refine zK (M0:=[(4,⟨true,od.map nC,3⟩)]) (α:={i:Nat//i<=d.ins.length}) hP (fun i=>[(0,true,.c (.v (.pointer (some ⟨b0,o0,none⟩)))),(1,true,.c (.sl 4 0 od.length 1)),(7,true,.c (.sl 2 0 (d.ins.length+d.bls.length) 2)),(34,true,.c (.sl 5 0 d.ins.length 4)),(35,true,I d.ins.length),(36,true,I i.val)])
  (fun i=>[(4,⟨true,od.map nC,3⟩),(2,⟨false,zC ((wK (aX d.c) (d.ins.length+d.bls.length) i.val).map ya),129⟩),(5,⟨true,zC (d.ins.map Po.r),60⟩)]) (fun i=>d.ins.length-i.val) ⟨0,zA⟩ (fun i=>zD (by simp only[Kw,z6 (xU _),iR];rfl)) (fun _=>zO rfl) [(4,4),(2,120),(5,5)] ?_ ?_
 ·exact zh
 rintro⟨i,hi⟩ J hj
 simp only at hj hi⊢
 refine zB 140 (vv ?_)
 refine zV (fun hc=>?_) (fun hc=>?_)
 ·have hc:=zH hc
  have htk:=zW (r:=Po.r) (k:=4) (fun _=>rfl) d.ins i hc
  have hul:=zQ (r:=ya) (k:=2) (fun _=>rfl) (wK (aX d.c) (d.ins.length+d.bls.length) i)
  rw[tp]at hul
  have hst:=vE (wK (aX d.c) (d.ins.length+d.bls.length) i) i (aX d.c i)
  rw[mY zA,hgi i hc]at hst
  simp only[go_sem,htk,hz5,hul]
  simp only[hst,yu (i:=i)]
  refine⟨⟨zA,zA⟩,zA,⟨zA,zA⟩,zA,?_⟩
  refine zB 150 ?_
  simp only[go_sem,yu (i:=i)]
  exact hj _ _ ⟨i+1,hc⟩ [(4,4),(2,2),(5,5)] yL zh
 have hc:=zI hi hc
 subst hc
 clear hj
 have hr0:wK (aX d.c) (d.ins.length+d.bls.length) d.ins.length=r0 d.c:=by
  unfold r0
  have e1:d.c.bls.length=d.bls.length:=Kv _
  rw[e1];rfl
 rw[hr0]
 have hlr0:(r0 d.c).length=d.ins.length+d.bls.length:=by rw[<-hr0,tp]
 refine zX 1 191 50 hpt rfl rfl (zB 150 ?_)
 simp only[go_sem,o8 (cq d.c)]
 refine⟨⟨zA,zA,zA⟩,?_⟩
 refine zX 6 191 57 hpt rfl rfl (zB 160 ?_)
 refine vv ?_
 refine Sm.bringR 8 64 61 (k.o.bl.mono hH) rfl rfl ?_
 have hl8:(d.bls.map BlL.r).length=d.bls.length:=Kv _
 rw[hl8]
 have hz8:=zQ (r:=BlL.r) (k:=6) (fun _=>rfl) d.bls
 refine zK (M0:=[(4,⟨true,od.map nC,3⟩)]) (α:={i:Nat//i<=d.bls.length}) hP (fun i=>[(0,true,.c (.v (.pointer (some ⟨b0,o0,none⟩)))),(1,true,.c (.sl 4 0 od.length 1)),(7,true,.c (.sl 2 0 (d.ins.length+d.bls.length) 2)),(10,true,.c (.sl 3 0 d.bls.length 2)),(61,true,.c (.sl 8 0 d.bls.length 6)),(62,true,I d.bls.length),(63,true,I i.val)])
  (fun i=>[(4,⟨true,od.map nC,3⟩),(2,⟨false,zC ((r0 d.c).map ya),129⟩),(3,⟨false,zC ((wK (cq d.c) d.bls.length i.val).map ya),129⟩),(8,⟨true,zC (d.bls.map BlL.r),64⟩)]) (fun i=>d.bls.length-i.val) ⟨0,zA⟩ (fun i=>zD (by simp only[Kw,z6 (xU _),iR];rfl)) (fun _=>zO rfl) [(4,4),(2,2),(3,150),(8,8)] ?_ ?_
 ·exact zh
 rintro⟨i,hi⟩ J hj
 simp only at hj hi⊢
 refine zB 170 (vv ?_)
 refine zV (fun hc=>?_) (fun hc=>?_)
 ·have hc:=zH hc
  have htk:=zW (r:=BlL.r) (k:=6) (fun _=>rfl) d.bls i hc
  have hul:=zQ (r:=ya) (k:=2) (fun _=>rfl) (wK (cq d.c) d.bls.length i)
  rw[tp]at hul
  have hmem:d.bls[i]∈d.bls:=JH hc
  have hbo:=k.o.bls _ hmem
  have hbk:=hok _ hmem
  have hgd:d.c.bls.getD i mR=d.bls[i].c:=by
   show(d.bls.map BlL.c).getD i mR=_
   rw[Kx,JO,JA hc];rfl
  have hsf:cq d.c i=bif d.bls[i].c.kd==lU then(d.bls[i].c.ks.getD 0 0,d.bls[i].c.ks.getD 0 0)else(0,0):=by unfold cq;rw[hgd]
  generalize d.bls[i]=b at*
  simp only[go_sem,htk,hz8]
  refine⟨⟨zA,zA⟩,zA,?_⟩
  refine zV (fun hd=>?_) (fun hd=>?_)
  ·have hd:(b.c.kd==lU)=true:=hd
   rw[hd,cond_true]at hsf
   obtain⟨k0,hk0⟩:=oH (xw hbk hd (by rfl)).2
   obtain⟨bi,oi,ci',hi1,csi,eli,mki,hci,hcci⟩:=hbo.k.at (by rw[hk0];simp[zP])
   have hio:b.k.o=some ⟨bi,oi,none⟩:=by injection hi1
   have hkl:b.c.ks.length=1:=by rw[hk0];rfl
   have hx0:csi[oi+0]?=some (iv k0):=hcci 0 _ (by rw[hk0];rfl)
   rw[hk0]at hsf
   have hsf:cq d.c i=(k0,k0):=hsf
   have hst:=vE (wK (cq d.c) d.bls.length i) i (cq d.c i)
   rw[mY hc,hsf]at hst
   refine Sm.dg 180 11 zi ?_
   simp only[go_sem,hio]
   refine DOpQ.own 180 (Stp.idxV rfl rfl rfl rfl zA zA) (vv ?_)
   refine zF 180 (fun _=>zS (hH _ _ hci) hx0 rfl rfl rfl) (vv ?_)
   refine DOpQ.own 180 (Stp.idxV rfl rfl rfl rfl zA zA) (vv ?_)
   refine zF 180 (fun _=>zS (hH _ _ hci) hx0 rfl rfl rfl) ?_
   simp only[go_sem,hul]
   simp only[hst]
   refine⟨⟨zA,zA⟩,zA,?_⟩
   refine zB 190 ?_
   simp only[go_sem,yu (i:=i)]
   exact hj _ _ ⟨i+1,hc⟩ [(4,4),(2,2),(3,3),(8,8)] yL zh
  ·have hd:(b.c.kd==lU)=false:=hd
   rw[hd,cond_false]at hsf
   refine zB 190 ?_
   simp only[go_sem,yu (i:=i)]
   rw[gW hsf]
   exact hj _ _ ⟨i+1,hc⟩ [(4,4),(2,2),(3,3),(8,8)] yL zh
 have hc:=zI hi hc
 subst hc
 clear hj
 have hs0:wK (cq d.c) d.bls.length d.bls.length=s0 d.c:=by
  unfold s0
  have e1:d.c.bls.length=d.bls.length:=Kv _
  rw[e1]
 rw[hs0]
 have hls0:(s0 d.c).length=d.bls.length:=by rw[<-hs0,tp]
 have hms:∀rs st:List (Int×Int),ClM [(4,⟨true,od.map nC,3⟩),(2,⟨false,zC (rs.map ya),129⟩),(3,⟨false,zC (st.map ya),129⟩)]:=fun rs st=>zD (by simp only[Kw,z6 (xU _),iR];rfl)
 refine zK (M0:=[(4,⟨true,od.map nC,3⟩)]) (α:={q:Nat×Nat×List (Int×Int)×List (Int×Int)//q.1+q.2.1=f+1/\q.2.2.1.length=d.ins.length+d.bls.length/\q.2.2.2.length=d.bls.length/\ug d.c T od q.1 (q.2.1:Int) q.2.2.1 q.2.2.2=some (rf,er)}) hP (fun q=>[(0,true,.c (.v (.pointer (some ⟨b0,o0,none⟩)))),(1,true,.c (.sl 4 0 od.length 1)),(7,true,.c (.sl 2 0 (d.ins.length+d.bls.length) 2)),(10,true,.c (.sl 3 0 d.bls.length 2)),(13,true,I q.val.2.1)])
  (fun q=>[(4,⟨true,od.map nC,3⟩),(2,⟨false,zC (q.val.2.2.1.map ya),129⟩),(3,⟨false,zC (q.val.2.2.2.map ya),129⟩)]) (fun q=>q.val.1) ⟨(f,1,r0 d.c,s0 d.c),rfl,hlr0,hls0,hf⟩ (fun q=>hms _ _) (fun _=>zO rfl) [(4,4),(2,2),(3,3)] ?_ ?_
 ·exact zh
 rintro⟨⟨fu,n,rs,st⟩,hfn,hlr,hls,hx⟩ J hj
 simp only at hj hfn hlr hls hx⊢
 cases fu with
 |zero=>cases hx
 |succ fu=>
 rw[ug]at hx
 have hrd:=Yw k hok hin T hT rs st od hlr hls h3 h4
 rw[hlr,hls]at hrd
 refine zB 170 (vv ?_)
 have hrl:=vg d.c T st od rs
 have hre:=pD d.c T st od rs
 refine CallQ.hr [(2,2),(3,3),(4,4)] 180 hrd hH (zD (by unfold PI;simp only[Kw,z6 (xU _),iR];rfl)) rfl rfl ⟨oY,⟨_,rfl,fi (zJ _)⟩,⟨_,rfl,fi (xU _)⟩,trivial⟩ rfl (.inl rfl) ?_
 simp only[Mem.ren,Ky,Kz,yD (zJ _),V.ren,Cv.ren,rn,Nat.reduceBEq,cond_true,cond_false]
 generalize yl d.c T st od rs=q at*
 obtain⟨rq,e⟩:=q
 simp only at hx hrl hre⊢
 cases e with
 |some e=>
  injection hx with hx
  obtain⟨rfl,rfl⟩:=Prod.mk.inj hx
  have he:(e.2 !=0)=true:=by rw[bne,hre e rfl];rfl
  simp only[go_sem,Option.getD_some,he]
  refine yq 200 2 129 [4] [] rfl (vv ?_)
  refine RetQ.ren [(1,200),(4,4)] hR hP rfl yI rfl rfl ?_ ?_ ?_ (zG rfl)
  ·exact⟨⟨rfl,rfl⟩,trivial⟩
  ·exact⟨oR,oV (yD (xU _)),trivial⟩
  ·exact zD (by simp only[JF,JG,Kw,z6 (xU _),iR];rfl)
 |none=>
 simp only[go_sem,Option.getD_none]
 have hkp:=Vk k hok hin rq st (n:Int) (hrl.trans hlr) hls
 have hkl:=tF d.c (decide (8<=(n:Int))) rq (List.range d.bls.length) st false
 rw[hrl.trans hlr,hls]at hkp
 refine CallQ.hr [(2,2),(3,3)] 200 hkp hH (zD (by unfold Pb;simp only[Kw,iR];rfl)) rfl rfl ⟨oY,⟨_,rfl,fi (zJ _)⟩,trivial⟩ rfl (.inl rfl) ?_
 simp only[Mem.ren,Ky,Kz,yD (zJ _),V.ren,Cv.ren,rn,Nat.reduceBEq,cond_true,cond_false]
 have hbl:d.c.bls.length=d.bls.length:=Kv _
 rw[hbl]at hx
 generalize rr d.c (decide (8<=(n:Int))) rq (List.range d.bls.length) st false=q at*
 obtain⟨sq,ch⟩:=q
 simp only at hx hkl⊢
 cases ch with
 |true=>
  rw[cond_true]at hx
  refine vv ?_
  refine zB 220 ?_
  simp only[go_sem,yu (i:=n)]
  exact hj _ _ ⟨(fu,n+1,rq,sq),by simp only;omega,hrl.trans hlr,hkl.trans hls,by simpa using hx⟩ [(4,4),(2,2),(3,3)] yL zh
 |false=>
  rw[cond_false]at hx
  injection hx with hx
  obtain⟨rfl,rfl⟩:=Prod.mk.inj hx
  refine vv ?_
  refine RetQ.ren [(1,2),(4,4)] hR hP rfl yI rfl ?_ ?_ ?_ ?_ (zG rfl)
  ·rw[hrl.trans hlr];rfl
  ·exact⟨⟨rfl,rfl⟩,trivial⟩
  ·exact⟨oX,oV (yD (xU _)),trivial⟩
  ·exact zD (by simp only[JF,JG,Kw,z6 (xU _),iR];rfl)
end Go.Proofs.YtbnkiacicnnmkaaGreat.Fx
namespace Go.Proofs.YtbnkiacicnnmkaaGreat.Fx
theorem aZ (s:Int)(a:Ft)(x:Int)(t:Ft):(wV t).1<=gR s a x t/\gR s a x t<=(wV t).2:=by
 unfold gR wV
 cases h:fok t with
 |true=>
  have:=pY t h
  simp only[cond_true]
  split
  ·unfold gw;omega
  ·omega
 |false=>
  have e:vW a x t=1:=by rw[vW,if_pos (.inr h)]
  rw[e];simp
theorem dY (a:Ft)(x:Int)(t:Ft):(wV t).1<=gR 1 a x t/\gR 1 a x t<=(wV t).2:=aZ 1 a x t
theorem Va (t:Ft):(wV t).1<=0/\0<=(wV t).2:=by
 unfold wV
 cases h:fok t with
 |true=>have:=pY t h;simp only[cond_true];omega
 |false=>simp
def Lr (t:Ft)(r:Int×Int):Prop:=(wV t).1<=r.1/\r.1<=r.2/\r.2<=(wV t).2
theorem UA (t:Ft):Lr t (0,0):=⟨(Va t).1,HJ _,(Va t).2⟩
theorem cL {t:Ft}{b:Bl}{rs:List (Int×Int)}{ts:List Ft}{pr tb:Int×Int}(h:b.kd=dN):(yT t b rs ts pr tb).1=sQ pr (oQ (rs.getD 0 (0,0)) (ts.getD 0 Xo) t):=by
 unfold yT
 rw[h]
 rfl
theorem uN {a b:Int×Int}:kL a b=true↔a=b:=by
 unfold kL
 rw[JB,beq_iff_eq,beq_iff_eq]
 exact⟨fun h=>Prod.ext h.1 h.2,fun h=>by rw[h];exact⟨rfl,rfl⟩⟩
def jR (d:Dg)(i:Nat):Int×Int:=wV (yG d.tys (d.bls.getD i mR).ty)
theorem qS (d:Dg)(rs:List (Int×Int)):∀(l:List Nat) (st:List (Int×Int)) (ch:Bool) (i:Nat),i<st.length->l.Nodup->
  (rr d true rs l st ch).1.getD i (0,0)=if i∈l/\pJ d rs (st.getD i (0,0)) i≠st.getD i (0,0)then jR d i else st.getD i (0,0)
 |[],st,ch,i,hi,hn=>by simp[rr]
 |j::l,st,ch,i,hi,hn=>by
  obtain⟨hj,hn⟩:=I9.1 hn
  unfold rr
  cases he:kL (pJ d rs (st.getD j (0,0)) j) (st.getD j (0,0))with
  |true=>
   have he:=uN.1 he
   rw[cond_true,qS d rs l st ch i hi hn]
   by_cases hij:i=j
   ·subst hij
    rw[if_neg (fun h=>hj h.1),if_neg (fun h=>h.2 he)]
   ·have:(i∈j::l)↔i∈l:=by rw[J3];exact⟨fun h=>h.resolve_left hij,.inr⟩
    simp only[this]
  |false=>
   have he:¬pJ d rs (st.getD j (0,0)) j=st.getD j (0,0):=fun h=>by rw[uN.2 h]at he;cases he
   rw[cond_false,qS d rs l _ true i (by simpa using hi) hn,cond_true]
   by_cases hij:i=j
   ·subst hij
    rw[if_neg (fun h=>hj h.1),if_pos ⟨z9,he⟩]
    rw[Kx,Iw hi];rfl
   ·have:(i∈j::l)↔i∈l:=by rw[J3];exact⟨fun h=>h.resolve_left hij,.inr⟩
    have hg:∀x,(st.set j x).getD i (0,0)=st.getD i (0,0):=fun x=>by
     rw[Kx,Kx,List.getElem?_set_ne (fun h=>hij h.symm)]
    simp only[this,hg]
theorem dO (d:Dg)(rs:List (Int×Int)):∀(l:List Nat) (st:List (Int×Int)) (ch:Bool),l.Nodup->(rr d true rs l st ch).2=true->ch=true\/∃i∈l,pJ d rs (st.getD i (0,0)) i≠st.getD i (0,0)
 |[],st,ch,hn,h=> .inl h
 |j::l,st,ch,hn,h=>by
  obtain⟨hj,hn⟩:=I9.1 hn
  unfold rr at h
  cases he:kL (pJ d rs (st.getD j (0,0)) j) (st.getD j (0,0))with
  |true=>
   rw[he,cond_true]at h
   rcases dO d rs l st ch hn h with h1|⟨i,hi,h1⟩
   ·exact .inl h1
   ·exact .inr ⟨i,by simp[hi],h1⟩
  |false=>exact .inr ⟨j,z9,fun h=>by rw[uN.2 h]at he;cases he⟩
def aD (d:Dg)(st:List (Int×Int)):Nat:=((List.range d.bls.length).filter fun i=> !kL (st.getD i (0,0)) (jR d i)).length
theorem oh {α:Type}{p q:α->Bool}:∀{l:List α},(∀x∈l,q x=true->p x=true)->(∃x∈l,p x=true/\q x=false)->(l.filter q).length<(l.filter p).length
 |[],_,h=>by obtain⟨x,hx,_⟩:=h;cases hx
 |y::l,h1,h2=>by
  have hle:(l.filter q).length<=(l.filter p).length:=by
   have h1:∀x∈l,q x=true->p x=true:=fun x hx=>h1 x (by simp[hx])
   clear h2
   induction l with
   |nil=>exact JZ _
   |cons z l ih=>
    have:=ih (fun x hx=>(by assumption:∀x∈y::z::l,q x=true->p x=true) x (by rcases J3.1 hx with rfl|hx<;>simp[*])) (fun x hx=>h1 x (by simp[hx]))
    have hz:=h1 z z9
    simp only[List.filter_cons]
    cases hq:q z with
    |true=>rw[hz hq];simp;omega
    |false=>cases hp:p z<;>simp<;>omega
  have hy:=h1 y z9
  obtain⟨x,hx,hp,hq⟩:=h2
  simp only[List.filter_cons]
  rcases J3.1 hx with rfl|hx
  ·rw[hp,hq];simp;omega
  ·have ih:=oh (l:=l) (fun x hx=>h1 x (by simp[hx])) ⟨x,hx,hp,hq⟩
   cases hq:q y with
   |true=>rw[hy hq];simp;omega
   |false=>cases hp:p y<;>simp<;>omega
def Z1 (d:Dg)(rs st:List (Int×Int)):Prop:=∀i,i<d.bls.length->st.getD i (0,0)=jR d i->pJ d rs (st.getD i (0,0)) i=st.getD i (0,0)
theorem aB {d:Dg}{rs st:List (Int×Int)}(hl:st.length=d.bls.length)(hs:Z1 d rs st)(hc:(rr d true rs (List.range d.bls.length) st false).2=true):
  aD d (rr d true rs (List.range d.bls.length) st false).1<aD d st:=by
 have hn:(List.range d.bls.length).Nodup:=List.nodup_range
 refine oh (fun i hi hq=>?_) ?_
 ·have hi:i<d.bls.length:=Jo.1 hi
  rw[qS d rs _ st false i zA hn]at hq
  cases hp:kL (st.getD i (0,0)) (jR d i)with
  |false=>rfl
  |true=>
   have hp:=uN.1 hp
   rw[if_neg (fun h=>h.2 (hs i hi hp)),uN.2 hp]at hq
   cases hq
 ·rcases dO d rs _ st false hn hc with h|⟨i,hi,h⟩
  ·cases h
  ·have hi':i<d.bls.length:=Jo.1 hi
   refine⟨i,hi,?_,?_⟩
   ·cases hp:kL (st.getD i (0,0)) (jR d i)with
    |false=>rfl
    |true=>exact absurd (hs i hi' (uN.1 hp)) h
   ·rw[qS d rs _ st false i zA hn,if_pos ⟨hi,h⟩,uN.2 rfl];rfl
theorem o6 {d:Dg}{T:Bl->List (Int×Int)->Int×Int}{od:List Nat}(hs:∀rs st,rs.length=d.ins.length+d.bls.length->st.length=d.bls.length->(yl d T st od rs).2=none->Z1 d (yl d T st od rs).1 st):
  ∀(m:Nat) (n:Int) (rs st:List (Int×Int)),8<=n->rs.length=d.ins.length+d.bls.length->st.length=d.bls.length->aD d st<=m->∃r,ug d T od (m+1) n rs st=some r
 |m,n,rs,st,hn,h1,h2,hm=>by
  unfold ug
  cases he:(yl d T st od rs).2 with
  |some e=>exact⟨_,rfl⟩
  |none=>
   simp only
   rw[decide_eq_true hn]
   cases hc:(rr d true (yl d T st od rs).1 (List.range d.bls.length) st false).2 with
   |false=>exact⟨_,rfl⟩
   |true=>
    have hlt:=aB h2 (hs rs st h1 h2 he) hc
    rw[cond_true]
    cases m with
    |zero=>omega
    |succ m=>exact o6 hs m (n+1) _ _ zA (by rw[vg];exact h1) (by rw[tF];exact h2) zA
theorem aC (d:Dg)(st:List (Int×Int)):aD d st<=d.bls.length:=by
 have:=List.length_filter_le (fun i=> !kL (st.getD i (0,0)) (jR d i)) (List.range d.bls.length)
 rwa [Im]at this
theorem pC {d:Dg}{T:Bl->List (Int×Int)->Int×Int}{od:List Nat}(hs:∀rs st,rs.length=d.ins.length+d.bls.length->st.length=d.bls.length->(yl d T st od rs).2=none->Z1 d (yl d T st od rs).1 st):
  ∀(k:Nat) (n:Int) (rs st:List (Int×Int)),8<=n+k->rs.length=d.ins.length+d.bls.length->st.length=d.bls.length->∃r,ug d T od (d.bls.length+1+k) n rs st=some r
 |0,n,rs,st,hn,h1,h2=>o6 hs d.bls.length n rs st zA h1 h2 (aC d st)
 |k+1,n,rs,st,hn,h1,h2=>by
  show ∃r,ug d T od ((d.bls.length+1+k)+1) n rs st=some r
  unfold ug
  cases he:(yl d T st od rs).2 with
  |some e=>exact⟨_,rfl⟩
  |none=>
   simp only
   cases hc:(rr d (decide (8<=n)) (yl d T st od rs).1 (List.range d.bls.length) st false).2 with
   |false=>exact⟨_,rfl⟩
   |true=>
    rw[cond_true]
    exact pC hs k (n+1) _ _ zA (by rw[vg];exact h1) (by rw[tF];exact h2)
theorem mo (d:Dg)(T:Bl->List (Int×Int)->Int×Int)(st:List (Int×Int)):∀(l:List Nat) (rs:List (Int×Int)),l.Nodup->(∀i∈l,d.ins.length+i<rs.length)->(yl d T st l rs).2=none->∀i,
  (i∈l->∃rq,rq.length=rs.length/\(yl d T st l rs).1.getD (d.ins.length+i) (0,0)=(vd d T rq st i).1/\(vd d T rq st i).2=0)/\(i∉l->(yl d T st l rs).1.getD (d.ins.length+i) (0,0)=rs.getD (d.ins.length+i) (0,0))
 |[],rs,hn,hl,he,i=>⟨z9,fun _=>rfl⟩
 |j::l,rs,hn,hl,he,i=>by
  obtain⟨hj,hn⟩:=I9.1 hn
  unfold yl at he⊢
  cases hc:(vd d T rs st j).2==0 with
  |false=>rw[hc]at he;cases he
  |true=>
   rw[hc,cond_true]at he
   rw[cond_true]
   have hc0:(vd d T rs st j).2=0:=by simpa using hc
   have ih:=mo d T st l (rs.set (d.ins.length+j) (vd d T rs st j).1) hn (fun i hi=>by rw[J8];exact hl i (by simp[hi])) he i
   by_cases hij:i=j
   ·subst hij
    refine⟨fun _=>⟨rs,rfl,?_,hc0⟩,fun h=>absurd z9 h⟩
    rw[ih.2 hj,Kx,Iw (hl i z9)];rfl
   ·refine⟨fun h=>?_,fun h=>?_⟩
    ·obtain⟨rq,q1,q2,q3⟩:=ih.1 (by rcases J3.1 h with h|h;exact absurd h hij;exact h)
     exact⟨rq,by rw[q1,J8],q2,q3⟩
    ·rw[ih.2 (fun hm=>h (by simp[hm])),Kx,Kx,List.getElem?_set_ne zA]
theorem iq {r:Int×Int}{a t:Ft}:sQ (wV t) (oQ r a t)=wV t:=by
 have h1:=dY a r.1 t
 have h2:=dY a r.2 t
 unfold sQ oQ
 refine Prod.ext ?_ ?_
 ·show min (wV t).1 (gR 1 a r.1 t)=_;omega
 ·show max (wV t).2 (gR 1 a r.2 t)=_;omega
theorem bU {d:Dg}{T:Bl->List (Int×Int)->Int×Int}{od:List Nat}(hn:od.Nodup)(hlt:∀i∈od,i<d.bls.length)(hall:∀i,i<d.bls.length->i∈od)(rs st:List (Int×Int))(h1:rs.length=d.ins.length+d.bls.length)(h2:st.length=d.bls.length)
  (he:(yl d T st od rs).2=none):Z1 d (yl d T st od rs).1 st:=by
 intro i hi hst
 obtain⟨rq,q1,q2,q3⟩:=(mo d T st od rs hn (fun j hj=>by have:=hlt j hj;omega) he i).1 (hall i hi)
 rw[hst]
 unfold pJ
 unfold lA
 rw[q2]
 unfold vd
 rw[hst]
 unfold jR
 generalize d.bls.getD i mR=b
 cases hk:b.kd==lU with
 |true=>rw[cond_true];exact iq
 |false=>
  rw[cond_false]
  cases hl:b.kd==dN with
  |false=>rfl
  |true=>
   rw[cond_true,cL (by simpa using hl)]
   exact iq
theorem gb {d:Dg}(T:Bl->List (Int×Int)->Int×Int){od:List Nat}(hn:od.Nodup)(hlt:∀i∈od,i<d.bls.length)(hall:∀i,i<d.bls.length->i∈od):∃r,ug d T od (d.bls.length+8) 1 (r0 d) (s0 d)=some r:=
 pC (fun rs st h1 h2 he=>bU hn hlt hall rs st h1 h2 he) 7 1 (r0 d) (s0 d) zA (by simp[r0,wK]) (by simp[s0,wK])
theorem tJ {α:Type}{f:α->Option (Str×Int)}:∀{l:List α},zu f l=none↔∀x∈l,f x=none
 |[]=>by simp[zu]
 |y::l=>by
  rw[yc]
  cases hy:f y with
  |some z=>simp[hy]
  |none=>rw[Option.none_or,tJ];simp[hy]
structure Chkd (d:Dg):Prop where
 ok:sY d=true
 dup:rN [] (pm d)=none
 inp:∀p∈d.ins,u9 d.tys p=none
 blk:∀b∈d.bls,ub d.tys d.cus d.mas (zU d) b=none
 out:tQ (zU d) [] d.ous=none
 fit:∀b∈d.bls,tf d b=none
theorem Z4 {d:Dg}(h:sY d=true)(h2:lk d=none):Chkd d:=by
 unfold lk at h2
 cases hd:rN [] (pm d)with
 |some s=>rw[hd]at h2;cases h2
 |none=>
  rw[hd]at h2
  simp only[Option.or_eq_none_iff]at h2
  obtain⟨h3,h4,h5,h6⟩:=h2
  exact⟨h,hd,tJ.1 h3,tJ.1 h4,h5,tJ.1 h6⟩
theorem Chkd.arg {d:Dg}(k:Chkd d){b:Bl}(hb:b∈d.bls):rP (zU d) b.ins=none:=by
 have:=k.blk b hb
 unfold ub at this
 split at this
 ·cases this
 ·cases ha:rP (zU d) b.ins with
  |none=>rfl
  |some s=>rw[ha]at this;cases this
theorem mj {d:Dg}{T:Bl->List (Int×Int)->Int×Int}{od:List Nat}{Q:List (Int×Int)->List (Int×Int)->Prop}
  (h:∀rs st big,Q rs st->(yl d T st od rs).2=none->Q (yl d T st od rs).1 (rr d big (yl d T st od rs).1 (List.range d.bls.length) st false).1):
  ∀(f:Nat) (n:Int) (rs st rf:List (Int×Int)),Q rs st->ug d T od f n rs st=some (rf,none)->∃rs' st',Q rs' st'/\(yl d T st' od rs').2=none/\rf=(yl d T st' od rs').1
 |0,_,_,_,_,_,h=>by cases h
 |f+1,n,rs,st,rf,hq,hr=>by
  unfold ug at hr
  cases he:(yl d T st od rs).2 with
  |some e=>rw[he]at hr;cases hr
  |none=>
   rw[he]at hr
   simp only at hr
   cases hc:(rr d (decide (8<=n)) (yl d T st od rs).1 (List.range d.bls.length) st false).2 with
   |false=>
    rw[hc,cond_false]at hr
    have:(yl d T st od rs).1=rf:=by injection hr with hr;exact(Prod.mk.inj hr).1
    exact⟨rs,st,hq,he,this.symm⟩
   |true=>
    rw[hc,cond_true]at hr
    exact mj h f (n+1) _ _ rf (h rs st _ hq he) hr
open Vg Tf
theorem Rq {H:Hp}(v:Value)(rows:List (List Value))(h:SlH H v 11 rows)(h1:∀r∈rows,r.length=11)(hV:(zC rows).all Cv.one=true)(hl:rows.length<=1000000):
  CallX H HT 126 [.c (.v v)] [] (fun _:Unit=> .c (.sl 2 0 rows.length 11)) (fun _=>[(2,⟨false,zC rows,57⟩)]) (fun _ _=>True):=by
 have hz:=yQ (k:=11) rows h1
 have htk:List.take (rows.length*11) (zC rows)=zC rows:=JJ zA
 refine kX func126 RE ntmps126 fun C hR hP hH hL=>?_
 have hR:=hR () C hL trivial
 refine Sm.bringR 1 57 0 (h.mono hH) rfl rfl (zB 100 ?_)
 refine vv ?_
 refine x8 rfl rfl rfl rfl rfl rfl (fun h0=>?_) ?_
 ·have h0:rows=[]:=JX.1 h0
  subst h0
  refine zB 100 (vv ?_)
  refine yq 110 11 57 [2] [] rfl (vv ?_)
  exact RetQ.ren [(2,110)] hR hP rfl yI rfl rfl trivial ⟨oR,trivial⟩ (zD rfl) (zG rfl)
 ·refine zB 100 ?_
  simp only[go_sem,htk,hz]
  refine⟨by first|exact hV|exact⟨⟨zA,hV⟩,zA,zA⟩|exact⟨zA,zA,zA⟩|skip,?_⟩
  exact RetQ.ren [(2,101)] hR hP rfl yI rfl rfl trivial ⟨oX,trivial⟩ cM (zG rfl)
theorem Rt {H:Hp}(v:Value)(rows:List (List Value))(h:SlH H v 3 rows)(h1:∀r∈rows,r.length=3)(hV:(zC rows).all Cv.one=true)(hl:rows.length<=1000000):
  CallX H HT 127 [.c (.v v)] [] (fun _:Unit=> .c (.sl 2 0 rows.length 3)) (fun _=>[(2,⟨false,zC rows,138⟩)]) (fun _ _=>True):=by
 have hz:=yQ (k:=3) rows h1
 have htk:List.take (rows.length*3) (zC rows)=zC rows:=JJ zA
 refine kX func127 RD ntmps127 fun C hR hP hH hL=>?_
 have hR:=hR () C hL trivial
 refine Sm.bringR 1 138 0 (h.mono hH) rfl rfl (zB 100 ?_)
 refine vv ?_
 refine x8 rfl rfl rfl rfl rfl rfl (fun h0=>?_) ?_
 ·have h0:rows=[]:=JX.1 h0
  subst h0
  refine zB 100 (vv ?_)
  refine yq 110 3 138 [2] [] rfl (vv ?_)
  exact RetQ.ren [(2,110)] hR hP rfl yI rfl rfl trivial ⟨oR,trivial⟩ (zD rfl) (zG rfl)
 ·refine zB 100 ?_
  simp only[go_sem,htk,hz]
  refine⟨by first|exact hV|exact⟨⟨zA,hV⟩,zA,zA⟩|exact⟨zA,zA,zA⟩|skip,?_⟩
  exact RetQ.ren [(2,101)] hR hP rfl yI rfl rfl trivial ⟨oX,trivial⟩ cM (zG rfl)
theorem Rs {H:Hp}(v:Value)(rows:List (List Value))(h:SlH H v 4 rows)(h1:∀r∈rows,r.length=4)(hV:(zC rows).all Cv.one=true)(hl:rows.length<=1000000):
  CallX H HT 128 [.c (.v v)] [] (fun _:Unit=> .c (.sl 2 0 rows.length 4)) (fun _=>[(2,⟨false,zC rows,140⟩)]) (fun _ _=>True):=by
 have hz:=yQ (k:=4) rows h1
 have htk:List.take (rows.length*4) (zC rows)=zC rows:=JJ zA
 refine kX func128 RC ntmps128 fun C hR hP hH hL=>?_
 have hR:=hR () C hL trivial
 refine Sm.bringR 1 140 0 (h.mono hH) rfl rfl (zB 100 ?_)
 refine vv ?_
 refine x8 rfl rfl rfl rfl rfl rfl (fun h0=>?_) ?_
 ·have h0:rows=[]:=JX.1 h0
  subst h0
  refine zB 100 (vv ?_)
  refine yq 110 4 140 [2] [] rfl (vv ?_)
  exact RetQ.ren [(2,110)] hR hP rfl yI rfl rfl trivial ⟨oR,trivial⟩ (zD rfl) (zG rfl)
 ·refine zB 100 ?_
  simp only[go_sem,htk,hz]
  refine⟨by first|exact hV|exact⟨⟨zA,hV⟩,zA,zA⟩|exact⟨zA,zA,zA⟩|skip,?_⟩
  exact RetQ.ren [(2,101)] hR hP rfl yI rfl rfl trivial ⟨oX,trivial⟩ cM (zG rfl)
theorem Rr {H:Hp}(v:Value)(rows:List (List Value))(h:SlH H v 4 rows)(h1:∀r∈rows,r.length=4)(hV:(zC rows).all Cv.one=true)(hl:rows.length<=1000000):
  CallX H HT 129 [.c (.v v)] [] (fun _:Unit=> .c (.sl 2 0 rows.length 4)) (fun _=>[(2,⟨false,zC rows,60⟩)]) (fun _ _=>True):=by
 have hz:=yQ (k:=4) rows h1
 have htk:List.take (rows.length*4) (zC rows)=zC rows:=JJ zA
 refine kX func129 RB ntmps129 fun C hR hP hH hL=>?_
 have hR:=hR () C hL trivial
 refine Sm.bringR 1 60 0 (h.mono hH) rfl rfl (zB 100 ?_)
 refine vv ?_
 refine x8 rfl rfl rfl rfl rfl rfl (fun h0=>?_) ?_
 ·have h0:rows=[]:=JX.1 h0
  subst h0
  refine zB 100 (vv ?_)
  refine yq 110 4 60 [2] [] rfl (vv ?_)
  exact RetQ.ren [(2,110)] hR hP rfl yI rfl rfl trivial ⟨oR,trivial⟩ (zD rfl) (zG rfl)
 ·refine zB 100 ?_
  simp only[go_sem,htk,hz]
  refine⟨by first|exact hV|exact⟨⟨zA,hV⟩,zA,zA⟩|exact⟨zA,zA,zA⟩|skip,?_⟩
  exact RetQ.ren [(2,101)] hR hP rfl yI rfl rfl trivial ⟨oX,trivial⟩ cM (zG rfl)
theorem Ru {H:Hp}(v:Value)(rows:List (List Value))(h:SlH H v 6 rows)(h1:∀r∈rows,r.length=6)(hV:(zC rows).all Cv.one=true)(hl:rows.length<=1000000):
  CallX H HT 130 [.c (.v v)] [] (fun _:Unit=> .c (.sl 2 0 rows.length 6)) (fun _=>[(2,⟨false,zC rows,64⟩)]) (fun _ _=>True):=by
 have hz:=yQ (k:=6) rows h1
 have htk:List.take (rows.length*6) (zC rows)=zC rows:=JJ zA
 refine kX func130 RA ntmps130 fun C hR hP hH hL=>?_
 have hR:=hR () C hL trivial
 refine Sm.bringR 1 64 0 (h.mono hH) rfl rfl (zB 100 ?_)
 refine vv ?_
 refine x8 rfl rfl rfl rfl rfl rfl (fun h0=>?_) ?_
 ·have h0:rows=[]:=JX.1 h0
  subst h0
  refine zB 100 (vv ?_)
  refine yq 110 6 64 [2] [] rfl (vv ?_)
  exact RetQ.ren [(2,110)] hR hP rfl yI rfl rfl trivial ⟨oR,trivial⟩ (zD rfl) (zG rfl)
 ·refine zB 100 ?_
  simp only[go_sem,htk,hz]
  refine⟨by first|exact hV|exact⟨⟨zA,hV⟩,zA,zA⟩|exact⟨zA,zA,zA⟩|skip,?_⟩
  exact RetQ.ren [(2,101)] hR hP rfl yI rfl rfl trivial ⟨oX,trivial⟩ cM (zG rfl)
theorem YX {H:Hp}(v:Value)(rows:List (List Value))(h:SlH H v 1 rows)(h1:∀r∈rows,r.length=1)(hV:(zC rows).all Cv.one=true)(hl:rows.length<=1000000):
  CallX H HT 131 [.c (.v v)] [] (fun _:Unit=> .c (.sl 2 0 rows.length 1)) (fun _=>[(2,⟨false,zC rows,9⟩)]) (fun _ _=>True):=by
 have hz:=yQ (k:=1) rows h1
 have htk:List.take rows.length (zC rows)=zC rows:=JJ zA
 refine kX func131 Sz ntmps131 fun C hR hP hH hL=>?_
 have hR:=hR () C hL trivial
 refine Sm.bringR 1 9 0 (h.mono hH) rfl rfl (zB 100 ?_)
 refine vv ?_
 refine x8 rfl rfl rfl rfl rfl rfl (fun h0=>?_) ?_
 ·have h0:rows=[]:=JX.1 h0
  subst h0
  refine zB 100 (vv ?_)
  refine yq 110 1 9 [2] [] rfl (vv ?_)
  exact RetQ.ren [(2,110)] hR hP rfl yI rfl rfl trivial ⟨oR,trivial⟩ (zD rfl) (zG rfl)
 ·refine zB 100 ?_
  simp only[go_sem,htk,hz]
  refine⟨by first|exact hV|exact⟨⟨zA,hV⟩,zA,zA⟩|exact⟨zA,zA,zA⟩|skip,?_⟩
  exact RetQ.ren [(2,101)] hR hP rfl yI rfl rfl trivial ⟨oX,trivial⟩ cM (zG rfl)
theorem qB {H:Hp}(v:Value)(rows:List (List Value))(h:SlH H v 1 rows)(h1:∀r∈rows,r.length=1)(hV:(zC rows).all Cv.one=true)(hl:rows.length<=1000000):
  CallX H HT 17 [.c (.v v)] [] (fun _:Unit=> .c (.sl 2 0 rows.length 1)) (fun _=>[(2,⟨false,zC rows,3⟩)]) (fun _ _=>True):=by
 have hz:=yQ (k:=1) rows h1
 have htk:List.take rows.length (zC rows)=zC rows:=JJ zA
 refine kX func17 WF ntmps17 fun C hR hP hH hL=>?_
 have hR:=hR () C hL trivial
 refine Sm.bringR 1 3 0 (h.mono hH) rfl rfl (zB 100 ?_)
 refine vv ?_
 refine x8 rfl rfl rfl rfl rfl rfl (fun h0=>?_) ?_
 ·have h0:rows=[]:=JX.1 h0
  subst h0
  refine zB 100 (vv ?_)
  refine yq 110 1 3 [2] [] rfl (vv ?_)
  exact RetQ.ren [(2,110)] hR hP rfl yI rfl rfl trivial ⟨oR,trivial⟩ (zD rfl) (zG rfl)
 ·refine zB 100 ?_
  simp only[go_sem,htk,hz]
  refine⟨by first|exact hV|exact⟨⟨zA,hV⟩,zA,zA⟩|exact⟨zA,zA,zA⟩|skip,?_⟩
  exact RetQ.ren [(2,101)] hR hP rfl yI rfl rfl trivial ⟨oX,trivial⟩ cM (zG rfl)
theorem Rp {H:Hp}(v:Value)(rows:List (List Value))(h:SlH H v 1 rows)(h1:∀r∈rows,r.length=1)(hV:(zC rows).all Cv.one=true)(hl:rows.length<=1000000):
  CallX H HT 132 [.c (.v v)] [] (fun _:Unit=> .c (.sl 2 0 rows.length 1)) (fun _=>[(2,⟨false,zC rows,26⟩)]) (fun _ _=>True):=by
 have hz:=yQ (k:=1) rows h1
 have htk:List.take rows.length (zC rows)=zC rows:=JJ zA
 refine kX func132 Sy ntmps132 fun C hR hP hH hL=>?_
 have hR:=hR () C hL trivial
 refine Sm.bringR 1 26 0 (h.mono hH) rfl rfl (zB 100 ?_)
 refine vv ?_
 refine x8 rfl rfl rfl rfl rfl rfl (fun h0=>?_) ?_
 ·have h0:rows=[]:=JX.1 h0
  subst h0
  refine zB 100 (vv ?_)
  refine yq 110 1 26 [2] [] rfl (vv ?_)
  exact RetQ.ren [(2,110)] hR hP rfl yI rfl rfl trivial ⟨oR,trivial⟩ (zD rfl) (zG rfl)
 ·refine zB 100 ?_
  simp only[go_sem,htk,hz]
  refine⟨by first|exact hV|exact⟨⟨zA,hV⟩,zA,zA⟩|exact⟨zA,zA,zA⟩|skip,?_⟩
  exact RetQ.ren [(2,101)] hR hP rfl yI rfl rfl trivial ⟨oX,trivial⟩ cM (zG rfl)
open Vg Tf
structure DgB (d:DgL):Prop where
 tys:d.tys.length<=30
 cus:d.cus.length<=30
 mas:d.mas.length<=30
 ins:d.ins.length<=30
 bls:d.bls.length<=200
 ous:d.ous.length<=30
 cuO:∀c∈d.cus,wN c.c.xs c.c.ys=true
 maO:∀m∈d.mas,xM m.xs m.ys (m.zs.map (·.2))=true
 blO:∀b∈d.bls,xj b.c=true
 tyO:∀t∈d.tys,fok t.ty=true
theorem Mi {d:DgL}(h:sY d.c=true):DgB d:=by
 unfold sY at h
 simp only[JB,decide_eq_true_eq,JD]at h
 obtain⟨_,⟨n1,n2,n3,n4,n5⟩,n6,ht,hcu,hma,_,hbl,_⟩:=h
 refine⟨n1,by simpa[DgL.c]using n2,by simpa[DgL.c]using n3,n4,by simpa[DgL.c]using n6,n5,fun c hc=>(hcu c.c (JL.2 ⟨c,hc,rfl⟩)).2,fun m hm=>(hma m.c (JL.2 ⟨m,hm,rfl⟩)).2,fun b hb=>hbl b.c (JL.2 ⟨b,hb,rfl⟩),fun t h=>(ht t h).2⟩
theorem jc {b:Bl}(h:xj b=true):b.ins.length<=3:=by
 have hq:∃q,ym b.kd=some q:=by
  have h1:=h
  unfold xj at h1
  cases hq:ym b.kd with
  |none=>rw[hq]at h1;cases h1
  |some q=>exact⟨q,rfl⟩
 obtain⟨q,hq⟩:=hq
 have hm:(b.kd,q)∈kindT:=by
  have h2:=hq
  unfold ym at h2
  cases hf:kindT.find? (fun r=>r.1==b.kd)with
  |none=>rw[hf]at h2;cases h2
  |some r=>
   rw[hf]at h2
   have h3:=IW hf
   have h4:=List.find?_some hf
   have h5:r.1=b.kd:=by simpa using h4
   have h6:r.2=q:=by simpa using h2
   rw[<-h5,<-h6];exact h3
 unfold xj at h
 rw[hq]at h
 simp only[JB,decide_eq_true_eq]at h
 have:∀x∈kindT,x.2.1<=3:=yp
 have:=this _ hm
 simp only at this
 omega
end Go.Proofs.YtbnkiacicnnmkaaGreat.Fx
