/-  -/
import Derived.Test.YtkciabfilokfiaaGreatTR
set_option linter.unusedSimpArgs false
set_option linter.unusedVariables false
set_option maxRecDepth 100000
set_option maxHeartbeats 4000000
namespace Go.Proofs.YtkciabfilokfiaaGreat.Fx
open Vg Tf
def X8 (d:Dg)(big:Bool)(rs:List (Int×Int)):List Nat->List (Int×Int)->Bool->List (Int×Int)×Bool
 |[],st,ch=>(st,ch)
 |i::l,st,ch=>bif nF (nk d rs (st.getD i (0,0)) (d.bls.getD i vh)) (st.getD i (0,0))then X8 d big rs l st ch
  else X8 d big rs l (st.set i (bif big then x9 (yB d.tys (d.bls.getD i vh).ty)else nk d rs (st.getD i (0,0)) (d.bls.getD i vh))) true
theorem aD {d:Dg}{big:Bool}{rs st0:List (Int×Int)}:∀(l:List Nat) (st:List (Int×Int)) (ch:Bool),l.Nodup->(∀i∈l,tT d rs (st0.getD i (0,0)) i=nk d rs (st0.getD i (0,0)) (d.bls.getD i vh))->(∀i∈l,st.getD i (0,0)=st0.getD i (0,0))->X8 d big rs l st ch=rh d big rs l st ch
 |[],_,_,_,_,_=>rfl
 |i::l,st,ch,hn,h,hs=>by
  have hi:=h i (Im ..)
  have hsi:=hs i (Im ..)
  rw[<-hsi]at hi
  have hn2:=(Ic.1 hn)
  unfold X8 rh
  rw[<-hi]
  cases nF (tT d rs (st.getD i (0,0)) i) (st.getD i (0,0))with
  |true=>
   rw[cond_true,cond_true]
   exact aD l st ch hn2.2 (fun j hj=>h j (Jy _ hj)) (fun j hj=>hs j (Jy _ hj))
  |false=>
   rw[cond_false,cond_false]
   refine aD l _ true hn2.2 (fun j hj=>h j (Jy _ hj)) (fun j hj=>?_)
   have hne:i≠j:=fun hh=>hn2.1 (hh▸hj)
   rw[<-hs j (Jy _ hj),Kw,Io hne,<-Kw]
theorem kJ {d:DgL}{i:Nat}(h:i<d.bls.length):d.c.bls.getD i vh=d.bls[i].c:=by
 show(d.bls.map BlL.c).getD i vh=_
 rw[Kw,JK,Kz h];rfl
theorem UB {H:Hp}(d:DgL)(hd:d.ok H)(k:Chkd d.c)(h0:d.tys.length<=1000000)(h1c:d.cus.length<=1000000)(h2c:d.mas.length<=1000000)(h1:d.ins.length<=1000000)(h2:d.bls.length<=1000000)
  (od:List Nat) (hod:od=xR (yS d.c) d.bls.length) (ho:OrdOk (yS d.c) d.bls.length od) (hall:∀i,i<d.bls.length->i∈od) (f:Nat) (hfu:f<=1000000) (rf:List (Int×Int)) (er:Option (Str×Int)) (hf:uU d.c (xo d.c) od f 1 (r0 d.c) (s0 d.c)=some (rf,er)):
  CallX H Tryz.prog 62 [.agg (rk d)] (xU d) (fun _:Unit=> .tup [.c (.sl 1 0 rf.length 2),Ws (er.getD ([],0)).1,Wi (er.getD ([],0)).2]) (fun _=>[(1,⟨false,zD (rf.map yN),45⟩)]) (fun _ _=>True):=by
 have z4:=zP (r:=Po.r) (k:=4) (fun _=>rfl) d.ins
 have z5:=zP (r:=BlL.r) (k:=6) (fun _=>rfl) d.bls
 have hbok:∀b∈d.bls,xI b.c=true:=by
  have h1:=k.ok
  unfold wV at h1
  simp only[JG,decide_eq_true_eq,JI]at h1
  obtain⟨_,_,_,_,_,_,_,hbo,_⟩:=h1
  exact fun b hb=>hbo b.c (IC hb)
 have hlI:∀b∈d.bls,b.c.ins.length<=1000000:=fun b hb=>by have:=pu (hbok b hb);omega
 have hin:∀b∈d.bls,∀s∈b.c.ins,sW (zQ d.c) s=true:=fun b hb=>pw (k.arg (IC hb))
 have hord:=lL d hd h1 h2 hlI hin
 rw[<-hod]at hord
 have hol:=vJ d.bls.length od ho.1 ho.2.1
 have hbl:d.c.bls.length=d.bls.length:=Ku _
 refine kX Tryz.func62 O8 Tryz.ntmps62 fun C hR hP hH hL=>?_
 have hR:=hR () C hL trivial
 refine zB 100 (vv ?_)
 refine CallQ.hr [(1,23),(4,4),(5,5)] 110 hord hH (zo d) rfl rfl ⟨oY,oY,trivial⟩ rfl (.inl rfl) ?_
 simp only[Mem.ren,Kv,Kx,yO (xK _),V.ren,Cv.ren,rn,Nat.reduceBEq,cond_true,cond_false]
 have e1:IntKind.i64.wrap ((d.ins.length:Int)+(d.bls.length:Int))=((d.ins.length+d.bls.length:Nat):Int):=by rw[ya zA zA];omega
 simp only[go_sem,qh (kb d.c),e1,Int.toNat_natCast]
 refine⟨⟨zA,zA,zA⟩,⟨zA,zA,zA⟩,?_⟩
 rw[show x8 (kb d.c) d.bls.length 0=x8 (nd d.c) d.bls.length 0 from by simp[x8]]
 generalize hN:d.ins.length+d.bls.length=N at*
 have hgi:∀j (h:j<d.ins.length),kb d.c j=(d.ins[j].lo,d.ins[j].hi):=fun j h=>by
  unfold kb
  have:d.c.ins.getD j ZO=d.ins[j]:=by
   show d.ins.getD j ZO=_
   rw[Kw,Kz h];rfl
  rw[this]
 let Mm:List (Int×Int)->List (Int×Int)->Mem:=fun rs st=>(2,⟨false,rk d,29⟩)::XA 23 od::(21,⟨false,zD (rs.map yN),45⟩)::(22,⟨false,zD (st.map yN),45⟩)::xU d
 have hcl:∀rs st,ClM (Mm rs st):=fun rs st=>zC (by simp only[Mm,Ky,zh (xK _),iR];rfl)
 refine zG (M0:=xU d) (α:={i:Nat//i<=d.ins.length}) hP (fun i=>[(1,true,.c (.p 2 0)),(5,true,I d.ins.length),(6,true,.c (.sl 23 0 od.length 1)),(7,true,.c (.sl 21 0 N 2)),(8,true,.c (.sl 22 0 d.bls.length 2)),(9,true,I i.val)])
  (fun i=>Mm (x8 (kb d.c) N i.val) (x8 (nd d.c) d.bls.length 0)) (fun i=>d.ins.length-i.val) ⟨0,zA⟩ (fun i=>hcl _ _) (fun _=>zO rfl) [(2,100),(23,23),(21,110),(22,111),(4,4),(5,5)] ?_ ?_
 ·exact z9
 rintro⟨i,hi⟩ J hj
 simp only at hj hi⊢
 refine zB 140 ?_
 simp only[go_sem,Mm]
 refine zU (fun hc=>?_) (fun hc=>?_)
 ·have hc:=zH hc
  have f2:=zy (r:=Po.r) (k:=4) (fun _=>rfl) d.ins i 2 hc zA
  have f3:=zy (r:=Po.r) (k:=4) (fun _=>rfl) d.ins i 3 hc zA
  have hul:=zP (r:=yN) (k:=2) (fun _=>rfl) (x8 (kb d.c) N i)
  rw[vT]at hul
  have hst:=wC (x8 (kb d.c) N i) i (kb d.c i)
  rw[rl zA,hgi i hc]at hst
  generalize d.ins[i]=x at*
  refine Sm.dg 150 15 ze ?_
  simp only[go_sem,f2,f3,Po.r,JP,Jb,JM,hul]
  simp only at hst
  simp only[hst]
  refine⟨⟨zA,zA⟩,⟨zA,zA⟩,⟨zA,zA⟩,zA,?_⟩
  refine zB 160 ?_
  simp only[go_sem,yT (i:=i)]
  exact hj _ _ ⟨i+1,hc⟩ [(2,2),(23,23),(21,21),(22,22),(4,4),(5,5)] yF z9
 have hc:=zL hi hc
 subst hc
 clear hj
 have hr0:x8 (kb d.c) N d.ins.length=r0 d.c:=by
  unfold r0
  rw[hbl,<-hN];rfl
 rw[hr0]
 have hlr0:(r0 d.c).length=N:=by rw[<-hr0,vT]
 refine vv ?_
 refine zG (M0:=xU d) (α:={i:Nat//i<=d.bls.length}) hP (fun i=>[(1,true,.c (.p 2 0)),(5,true,I d.ins.length),(6,true,.c (.sl 23 0 od.length 1)),(7,true,.c (.sl 21 0 N 2)),(8,true,.c (.sl 22 0 d.bls.length 2)),(10,true,I i.val)])
  (fun i=>Mm (r0 d.c) (x8 (nd d.c) d.bls.length i.val)) (fun i=>d.bls.length-i.val) ⟨0,zA⟩ (fun i=>hcl _ _) (fun _=>zO rfl) [(2,2),(23,23),(21,21),(22,22),(4,4),(5,5)] ?_ ?_
 ·exact z9
 rintro⟨i,hi⟩ J hj
 simp only at hj hi⊢
 refine zB 140 ?_
 simp only[go_sem,Mm]
 refine zU (fun hc=>?_) (fun hc=>?_)
 ·have hc:=zH hc
  have f1:=zy (r:=BlL.r) (k:=6) (fun _=>rfl) d.bls i 1 hc zA
  have f5:=zy (r:=BlL.r) (k:=6) (fun _=>rfl) d.bls i 5 hc zA
  have hul:=zP (r:=yN) (k:=2) (fun _=>rfl) (x8 (nd d.c) d.bls.length i)
  rw[vT]at hul
  have hmem:d.bls[i]∈d.bls:=JE hc
  have hbo:=hd.bls _ hmem
  have hbk:=hbok _ hmem
  have hgd:=kJ hc
  have hsf:nd d.c i=bif d.bls[i].c.kd==tZ then(d.bls[i].c.ks.getD 0 0,d.bls[i].c.ks.getD 0 0)else(0,0):=by unfold nd;rw[hgd]
  generalize d.bls[i]=b at*
  simp only[go_sem,f1,f5,BlL.r,JP,Jb,JM]
  refine⟨⟨zA,zA⟩,?_⟩
  refine zU (fun hdl=>?_) (fun hdl=>?_)
  ·have hdl:(b.c.kd==tZ)=true:=hdl
   rw[hdl,cond_true]at hsf
   obtain⟨k0,hk0⟩:=um (xW hbk hdl (by rfl)).2
   obtain⟨bi,oi,ci',hi1,csi,eli,mki,hci,hcci⟩:=hbo.k.at (by rw[hk0];simp[zZ])
   have hio:b.k.o=some ⟨bi,oi,none⟩:=by injection hi1
   have hkl:b.c.ks.length=1:=by rw[hk0];rfl
   have hx0:csi[oi+0]?=some (iv k0):=hcci 0 _ (by rw[hk0];rfl)
   rw[hk0]at hsf
   have hsf:nd d.c i=(k0,k0):=hsf
   have hst:=wC (x8 (nd d.c) d.bls.length i) i (nd d.c i)
   rw[rl hc,hsf]at hst
   refine Sm.dg 180 19 ze ?_
   simp only[go_sem,f1,f5,BlL.r,JP,Jb,JM,hio]
   refine⟨⟨zA,zA⟩,?_⟩
   refine DOpQ.own 180 (Stp.idxV rfl rfl rfl rfl zA zA) (vv ?_)
   refine zE 180 (fun _=>zW (hH _ _ hci) hx0 rfl rfl rfl) ?_
   simp only[go_sem,f1,f5,BlL.r,JP,Jb,JM,hio]
   refine⟨⟨zA,zA⟩,?_⟩
   refine DOpQ.own 180 (Stp.idxV rfl rfl rfl rfl zA zA) (vv ?_)
   refine zE 180 (fun _=>zW (hH _ _ hci) hx0 rfl rfl rfl) ?_
   simp only[go_sem,hul]
   simp only at hst
   simp only[hst]
   refine⟨⟨zA,zA⟩,zA,?_⟩
   refine zB 190 ?_
   simp only[go_sem,yT (i:=i)]
   exact hj _ _ ⟨i+1,hc⟩ [(2,2),(23,23),(21,21),(22,22),(4,4),(5,5)] yF z9
  ·have hdl:(b.c.kd==tZ)=false:=hdl
   rw[hdl,cond_false]at hsf
   refine zB 190 ?_
   simp only[go_sem,yT (i:=i)]
   rw[mB hsf]
   exact hj _ _ ⟨i+1,hc⟩ [(2,2),(23,23),(21,21),(22,22),(4,4),(5,5)] yF z9
 have hc:=zL hi hc
 subst hc
 clear hj
 have hs0:x8 (nd d.c) d.bls.length d.bls.length=s0 d.c:=by
  unfold s0
  rw[hbl]
 rw[hs0]
 have hls0:(s0 d.c).length=d.bls.length:=by rw[<-hs0,vT]
 refine vv ?_
 refine zG (M0:=xU d) (α:={q:Nat×Nat×List (Int×Int)×List (Int×Int)//q.1+q.2.1=f+1/\q.2.2.1.length=N/\q.2.2.2.length=d.bls.length/\cg d.c q.2.2.1/\V9 d.c q.2.2.2/\uU d.c (xo d.c) od q.1 (q.2.1:Int) q.2.2.1 q.2.2.2=some (rf,er)}) hP (fun q=>[(1,true,.c (.p 2 0)),(5,true,I d.ins.length),(6,true,.c (.sl 23 0 od.length 1)),(7,true,.c (.sl 21 0 N 2)),(8,true,.c (.sl 22 0 d.bls.length 2)),(11,true,I q.val.2.1)])
  (fun q=>Mm q.val.2.2.1 q.val.2.2.2) (fun q=>q.val.1) ⟨(f,1,r0 d.c,s0 d.c),rfl,hlr0,hls0,Zt k,Z3 k,hf⟩ (fun _=>hcl _ _) (fun _=>zO rfl) [(2,2),(23,23),(21,21),(22,22),(4,4),(5,5)] ?_ ?_
 ·exact z9
 rintro⟨⟨fu,n,rs,st⟩,hfn,hlr,hls,hgr,hgs,hx⟩ J hj
 simp only at hj hfn hlr hls hgr hgs hx⊢
 cases fu with
 |zero=>cases hx
 |succ fu=>
 rw[uU]at hx
 refine zB 170 ?_
 simp only[go_sem,Mm]
 refine zG (M0:=xU d) (α:={q:Nat×List (Int×Int)//q.1<=od.length/\q.2.length=N/\cg d.c q.2/\yh d.c (xo d.c) st od rs=yh d.c (xo d.c) st (od.drop q.1) q.2}) hP (fun q=>[(1,true,.c (.p 2 0)),(5,true,I d.ins.length),(6,true,.c (.sl 23 0 od.length 1)),(7,true,.c (.sl 21 0 N 2)),(8,true,.c (.sl 22 0 d.bls.length 2)),(11,true,I n),(12,true,I q.val.1)])
  (fun q=>Mm q.val.2 st) (fun q=>od.length-q.val.1) ⟨(0,rs),zA,hlr,hgr,rfl⟩ (fun _=>hcl _ _) (fun _=>zO rfl) [(2,2),(23,23),(21,21),(22,22),(4,4),(5,5)] ?_ ?_
 ·exact z9
 rintro⟨⟨j,rq⟩,hjl,hlq,hgq,hy⟩ J2 hj2
 simp only at hj2 hjl hlq hgq hy⊢
 refine zB 180 ?_
 simp only[go_sem,Mm]
 refine zU (fun hc=>?_) (fun hc=>?_)
 ·have hc:=zH hc
  have hob:=ho.2.1 od[j] (JE hc)
  have hgo:(od.map nC)[j]?=some (nC od[j]):=by simp[hc]
  have hdr:od.drop j=od[j]::od.drop (j+1):=JA hc
  rw[hdr,yh]at hy
  generalize od[j]=o at*
  have htk:=z6 (r:=BlL.r) (k:=6) (fun _=>rfl) d.bls o hob
  have hmem:d.bls[o]∈d.bls:=JE hob
  have hgd:=kJ hob
  have hrb:=UJ d hd k h0 h1c h2c _ hmem
  have hbo:=hd.bls _ hmem
  have hbk:=hbok _ hmem
  have hbi:=hin _ hmem
  refine Sm.dg 190 9 ze ?_
  simp only[go_sem,hgo,htk,z5]
  refine⟨⟨zA,zA⟩,⟨zA,zA⟩,zA,?_⟩
  have hil:=pu hbk
  have hst:wM d.c (xo d.c) rq st o=zi (yB d.tys d.bls[o].c.ty) d.bls[o].c (xP d.c rq d.bls[o].c) (xw d.c d.bls[o].c) (st.getD o (0,0)) (xo d.c d.bls[o].c (xP d.c rq d.bls[o].c)):=by
   unfold wM;rw[hgd];rfl
  have hgst:=dD k (cP d.c) hgq hgs o (by rw[hbl];exact hob)
  have hga:=iL hgq d.bls[o].c
  rw[hst,hgd]at hy hgst
  generalize d.bls[o]=b at*
  have hAR:xP d.c rq b.c=b.c.ins.map (fun s=>rq.getD (xv (zQ d.c) s) (0,0)):=rfl
  have hAT:xw d.c b.c=b.c.ins.map (fun s=>yU d.c (xv (zQ d.c) s)):=rfl
  have hlt:=fun s hs=>uF (hbi s hs)
  have hra:=fun s hs=>xx rq (xv (zQ d.c) s) (by have:=hlt s hs;omega)
  have hrz:=zP (r:=yN) (k:=2) (fun _=>rfl) rq
  refine yz 200 2 45 [14] [] rfl (vv ?_)
  refine yz 201 10 43 [15] [] rfl (vv ?_)
  refine zG (M0:=xU d) (α:={j:Nat//j<=b.c.ins.length}) hP (fun i=>[(1,true,.c (.p 2 0)),(5,true,I d.ins.length),(6,true,.c (.sl 23 0 od.length 1)),(7,true,.c (.sl 21 0 N 2)),(8,true,.c (.sl 22 0 d.bls.length 2)),(11,true,I n),(12,true,I j),(13,true,.c (.p 13 0)),(14,true,.c (.sl 24 0 i.val 2)),(15,true,.c (.sl 25 0 i.val 10)),(16,true,I i.val)])
   (fun i=>(13,⟨false,b.r.map .v,53⟩)::(24,⟨false,zD (((xP d.c rq b.c).take i.val).map yN),45⟩)::(25,⟨false,zD (((xw d.c b.c).take i.val).map yW),43⟩)::Mm rq st) (fun i=>b.c.ins.length-i.val) ⟨0,zA⟩ (fun i=>zC (by simp only[Mm,Ky,iR,zh (xK _),zh (nu _)];rfl)) (fun _=>zO rfl) [(13,190),(24,200),(25,201),(2,2),(23,23),(21,21),(22,22),(4,4),(5,5)] ?_ ?_
  ·exact z9
  rintro⟨i,hi⟩ J3 hj3
  simp only at hj3 hi⊢
  refine zB 210 ?_
  simp only[go_sem,Mm]
  refine zU (fun hc2=>?_) (fun hc2=>?_)
  ·have hc2:=zH hc2
   have hmi:b.c.ins[i]∈b.c.ins:=JE hc2
   obtain⟨bi,oi,hio,ci,ei,mi,hbi2,hci⟩:=gU hbo zA
   have hxi:=hci i hc2
   have hfd:=nD d b.c.ins[i] zA zA
   have hsl:=hlt _ hmi
   rw[ow (hbi _ hmi)]at hfd
   have hty:=ph d hd h0 h1 h2 _ hsl
   have hra2:=hra _ hmi
   have htR:(xP d.c rq b.c).take (i+1)=(xP d.c rq b.c).take i++[rq.getD (xv (zQ d.c) b.c.ins[i]) (0,0)]:=by rw[hAR,<-Jz,<-Jz,JS hc2,JT];rfl
   have htT:(xw d.c b.c).take (i+1)=(xw d.c b.c).take i++[yU d.c (xv (zQ d.c) b.c.ins[i])]:=by rw[hAT,<-Jz,<-Jz,JS hc2,JT];rfl
   have hzR:(zD (((xP d.c rq b.c).take i).map yN)).length=i*2:=by
    rw[zP (r:=yN) (k:=2) (fun _=>rfl),hAR];simp;omega
   have hzT:(zD (((xw d.c b.c).take i).map yW)).length=i*10:=by
    rw[zP (r:=yW) (k:=10) (fun _=>rfl),hAT];simp;omega
   generalize b.c.ins[i]=s at*
   generalize hsn:xv (zQ d.c) s=sn at*
   generalize yU d.c sn=tt at*
   refine Sm.dg 220 6 ze ?_
   simp only[go_sem,BlL.r]
   refine DOpQ.own 230 (Stp.idxV (b:=bi) (off:=oi) rfl (by rw[<-hio];rfl) rfl jE zA zA) ?_
   simp only[go_sem,Jd,Int.toNat_natCast]
   refine zE 230 (fun _=>zW (hH _ _ hbi2) hxi rfl rfl rfl) (vv ?_)
   refine CallQ.dm 240 (fun _=>hfd.toX) hH (fun _=>rfl) rfl rfl ?_
   simp only[go_sem,hra2,hrz]
   have hapR:List.take (i*2) (zD (((xP d.c rq b.c).take i).map yN))++[Cv.v (.int .i64 (rq.getD sn (0,0)).1),Cv.v (.int .i64 (rq.getD sn (0,0)).2)]=zD (((xP d.c rq b.c).take (i+1)).map yN):=by
    rw[JH zA,htR]
    simp only[zD,JT,IW,Kv,Kx,List.flatten_cons,List.flatten_nil,JB]
    rfl
   have hapT:List.take (i*10) (zD (((xw d.c b.c).take i).map yW))++rJ tt=zD (((xw d.c b.c).take (i+1)).map yW):=by
    rw[JH zA,htT]
    simp only[zD,JT,IW,Kv,Kx,List.flatten_cons,List.flatten_nil,JB]
    rfl
   simp only[hapR]
   refine⟨⟨zA,zA⟩,zA,⟨zA,zA,zA⟩,?_⟩
   refine CallQ.dm 250 (fun _=>hty) hH (fun _=>rfl) rfl rfl (vv ?_)
   simp only[hapT,hzT,yT (i:=i)]
   refine⟨⟨zA,zA,zA⟩,?_⟩
   exact hj3 _ _ ⟨i+1,hc2⟩ [(13,13),(24,241),(25,251),(2,2),(23,23),(21,21),(22,22),(4,4),(5,5)] yF z9
  ·have hc2:=zL hi hc2
   subst hc2
   clear hj3
   have hlR:(xP d.c rq b.c).length=b.c.ins.length:=by rw[hAR,Ku]
   have hlT:(xw d.c b.c).length=b.c.ins.length:=by rw[hAT,Ku]
   have hbc:=hrb (xP d.c rq b.c) (xw d.c b.c) hlR rfl hga (st.getD o (0,0))
   unfold ud at hbc
   rw[hlR,hlT]at hbc
   rw[JH (show(xP d.c rq b.c).length<=b.c.ins.length by omega),JH (show(xw d.c b.c).length<=b.c.ins.length by omega)]
   have hvR:=zS ((xP d.c rq b.c).map yN)
   have hvT:=zS ((xw d.c b.c).map yW)
   clear hga hrb
   have hsa:=xx st o zA
   have hsz:=zP (r:=yN) (k:=2) (fun _=>rfl) st
   generalize zi (yB d.tys b.c.ty) b.c (xP d.c rq b.c) (xw d.c b.c) (st.getD o (0,0)) (xo d.c b.c (xP d.c rq b.c))=q at*
   generalize xP d.c rq b.c=ar at*
   generalize xw d.c b.c=PN at*
   refine Sm.dg 260 17 ze ?_
   simp only[go_sem,hgo,hsa,hsz,BlL.r]
   refine⟨⟨zA,zA⟩,⟨zA,zA⟩,zA,?_⟩
   refine DCallQ.hr [(1,24),(2,25),(4,4),(5,5)] 270 hbc hH (zC (by unfold y8;simp only[JC,JD,Ky,zh hvR,zh hvT,iR];rfl)) rfl rfl ⟨⟨_,rfl,fI hvR⟩,⟨_,rfl,fI hvT⟩,oY,oY,trivial⟩ rfl (.inl rfl) rfl rfl (vv ?_)
   refine zU (fun hq=>?_) (fun hq=>?_)
   ·have hq2:(q.2==0)=false:=by simpa[bne]using hq
    rw[hq2,cond_false]at hy
    rw[hy]at hx
    injection hx with hx
    obtain⟨rfl,rfl⟩:=Prod.mk.inj hx
    refine Sm.dg 280 5 ze ?_
    simp only[go_sem,BlL.r]
    refine zw 300 2 45 [2] [] rfl (vv ?_)
    refine RetQ.ren [(1,300),(4,4),(5,5)] hR hP rfl xb rfl rfl ⟨⟨rfl,rfl⟩,⟨rfl,rfl⟩,trivial⟩ ⟨oR,oX,oX,trivial⟩ cM (zI rfl)
   ·have hq2:(q.2==0)=true:=by simpa[bne]using hq
    have hdl:d.c.ins.length=d.ins.length:=rfl
    rw[hq2,cond_true,hdl]at hy
    have e2:IntKind.i64.wrap ((d.ins.length:Int)+(o:Int))=((d.ins.length+o:Nat):Int):=by rw[ya zA zA];omega
    refine Sm.dg 280 8 ze ?_
    simp only[go_sem,hgo,e2,Int.toNat_natCast]
    rw[wC]
    have hql:=zP (r:=yN) (k:=2) (fun _=>rfl) rq
    refine⟨⟨zA,zA⟩,⟨zA,zA⟩,zA,?_⟩
    refine zB 290 ?_
    simp only[go_sem,yT (i:=j)]
    have hgs2:cg d.c (rq.set (d.ins.length+o) q.1):=WR hgq (by
     have:=p9 d.c o (by rw[hbl];exact hob)
     rw[hdl]at this
     rw[this,hgd];exact hgst)
    exact hj2 _ _ ⟨(j+1,rq.set (d.ins.length+o) q.1),hc,(Jc ..).trans hlq,hgs2,hy⟩ [(2,2),(23,23),(21,21),(22,22),(4,4),(5,5)] yF z9
 have hc:=zL hjl hc
 clear hj2
 rw[hc,JL]at hy
 have hy:yh d.c (xo d.c) st od rs=(rq,none):=hy
 have hnr:=fun i (hi:i∈od)=>YD (d:=d.c) (T:=xo d.c) (st:=st) (rs:=rs) (fun b hb=>by
  obtain⟨b',hb',rfl⟩:=JO.1 hb
  exact hbok b' hb') (by rw[hbl];exact ho) (by rw[hbl];show rs.length=d.ins.length+d.bls.length;omega) (by rw[hy]) hi
 rw[hy]at hnr hx
 have hnr:∀i∈od,tT d.c rq (st.getD i (0,0)) i=nk d.c rq (st.getD i (0,0)) (d.c.bls.getD i vh):=hnr
 have hkq:=aD (d:=d.c) (big:=decide (8<=(n:Int))) (rs:=rq) (st0:=st) (List.range d.bls.length) st false List.nodup_range (fun i hi=>hnr i (hall i (Jj.1 hi))) (fun _ _=>rfl)
 have hkg:=lX (d:=d.c) (big:=decide (8<=(n:Int))) hgq (List.range d.bls.length) st false (fun i hi=>by rw[hbl];exact Jj.1 hi) hgs
 have hkl:=tV d.c (decide (8<=(n:Int))) rq (List.range d.bls.length) st false
 rw[hbl]at hx
 simp only at hx
 rw[<-hkq]at hx hkg hkl
 clear hkq hnr hy
 refine vv ?_
 refine zG (M0:=xU d) (α:={q:Nat×List (Int×Int)×Bool//q.1<=d.bls.length/\q.2.1.length=d.bls.length/\X8 d.c (decide (8<=(n:Int))) rq (List.range d.bls.length) st false=X8 d.c (decide (8<=(n:Int))) rq ((List.range d.bls.length).drop q.1) q.2.1 q.2.2}) hP (fun q=>[(1,true,.c (.p 2 0)),(5,true,I d.ins.length),(6,true,.c (.sl 23 0 od.length 1)),(7,true,.c (.sl 21 0 N 2)),(8,true,.c (.sl 22 0 d.bls.length 2)),(11,true,I n),(20,true,Bo q.val.2.2),(21,true,I q.val.1)])
  (fun q=>Mm rq q.val.2.1) (fun q=>d.bls.length-q.val.1) ⟨(0,st,false),zA,hls,rfl⟩ (fun _=>hcl _ _) (fun _=>zO rfl) [(2,2),(23,23),(21,21),(22,22),(4,4),(5,5)] ?_ ?_
 ·exact z9
 rintro⟨⟨i,sq,ch⟩,hi,hlsq,hz⟩ J4 hj4
 simp only at hj4 hi hlsq hz⊢
 refine zB 300 ?_
 simp only[go_sem,Mm]
 refine zU (fun hc2=>?_) (fun hc2=>?_)
 ·have hc2:=zH hc2
  have htk:=z6 (r:=BlL.r) (k:=6) (fun _=>rfl) d.bls i hc2
  have hmem:d.bls[i]∈d.bls:=JE hc2
  have hgd:=kJ hc2
  have hbo:=hd.bls _ hmem
  have hbk:=hbok _ hmem
  have hbi:=hin _ hmem
  have hdr:(List.range d.bls.length).drop i=i::(List.range d.bls.length).drop (i+1):=by
   rw[JA (by simpa using hc2)];simp
  rw[hdr,X8,hgd]at hz
  have hun:=k.uni (IC hmem)
  have htq:=k.tyq (IC hmem)
  have hbT:yE (yB d.tys d.bls[i].c.ty)=true:=k.bty (IC hmem)
  generalize d.bls[i]=b at*
  simp only[go_sem,htk,z5]
  refine⟨⟨zA,zA⟩,zA,?_⟩
  refine zU (fun hkn=>?_) (fun hkn=>?_)
  ·have hk2:(b.c.kd==tZ||b.c.kd==qq)=false:=by
    show((b.c.kd==[100,101,108,97,121])||(b.c.kd==[108,97,103]))=false
    cases h1:(b.c.kd==[100,101,108,97,121])<;>cases h2:(b.c.kd==[108,97,103])<;>rw[h1,h2]at hkn<;>first|rfl|cases hkn
   have hne:∀s,nk d.c rq s b.c=s:=fun s=>by unfold nk;rw[hk2];rfl
   have heq:∀s:Int×Int,nF s s=true:=fun s=>by unfold nF;simp
   rw[hne,heq,cond_true]at hz
   refine zB 310 ?_
   simp only[go_sem,yT (i:=i)]
   exact hj4 _ _ ⟨(i+1,sq,ch),hc2,hlsq,hz⟩ [(2,2),(23,23),(21,21),(22,22),(4,4),(5,5)] yF z9
  have hk2:(b.c.kd==tZ||b.c.kd==qq)=true:=by
   show((b.c.kd==[100,101,108,97,121])||(b.c.kd==[108,97,103]))=true
   cases h1:(b.c.kd==[100,101,108,97,121])<;>cases h2:(b.c.kd==[108,97,103])<;>rw[h1,h2]at hkn<;>first|rfl|cases hkn
  have hil:b.c.ins.length=1:=by
   rw[I1]at hk2
   rcases hk2 with h|h
   ·exact(xW hbk h (by rfl)).1
   ·exact eE hbk (eq_of_beq h)
  obtain⟨bi,oi,hio,ci,ei,mi,hbi2,hci⟩:=gU hbo zA
  obtain⟨s,hs⟩:=um hil
  have hxi:=hci 0 zA
  have hbs:=hbi s (by rw[hs];simp)
  have hs0:b.c.ins[0]=s:=by simp[hs]
  rw[hs0]at hxi
  have hfd:=nD d s zA zA
  rw[ow hbs]at hfd
  have hsl:=uF hbs
  have hty:=ph d hd h0 h1 h2 _ hsl
  have hu:uS (yU d.c (xv (zQ d.c) s)) (yB d.tys b.c.ty)=true:=by
   have h1:(sw d.c b.c).all (fun u=>yb u (unT (yB d.tys b.c.ty)))=true:=by
    rw[I1]at hk2
    rcases hk2 with h|h
    ·rw[show b.c.kd=tZ from eq_of_beq h]at hun;exact hun
    ·rw[show b.c.kd=qq from eq_of_beq h]at hun;exact hun
   unfold sw at h1
   rw[hs]at h1
   simp only[Kv,Kx,Ky,List.all_nil,IY]at h1
   exact h1
  have hfa:yE (yU d.c (xv (zQ d.c) s))=true:=aN k (by rw[hbl];exact hsl)
  have hra:=xx rq (xv (zQ d.c) s) zA
  have hrz:=zP (r:=yN) (k:=2) (fun _=>rfl) rq
  have hgr2:=hgq (xv (zQ d.c) s)
  have hsa:=xx sq i zA
  have hsz:=zP (r:=yN) (k:=2) (fun _=>rfl) sq
  obtain⟨T,hT⟩:∃T,vk d.tys b.c.ty=some T:=Option.ne_none_iff_exists'.1 htq
  have hTN:yB d.tys b.c.ty=T:=by unfold yB;rw[hT];rfl
  have hTN2:yB d.c.tys b.c.ty=T:=hTN
  obtain⟨q,hq1,hq2,hq3⟩:∃q,∃h:q<d.tys.length,yw (d.tys.map (·.nm)) b.c.ty=(q:Int)/\T=d.tys[q].ty:=by
   rcases xa d.tys b.c.ty with⟨a,_⟩|⟨q,hq,a,e⟩
   ·rw[hT]at a;cases a
   ·rw[hT]at e;exact⟨q,hq,a,by injection e⟩
  obtain⟨bt,ot,hto,ct,et,mt,hbt,hct⟩:=xG hd zA
  have hx0:=hct q hq1
  have hto':=yu d hd h0 b.c.ty
  rw[hq2]at hto'
  rw[<-hq3]at hx0
  have hnT:∀r,nk d.c rq r b.c=vp r (xf (rq.getD (xv (zQ d.c) s) (0,0)) (yU d.c (xv (zQ d.c) s)) T):=fun r=>by
   unfold nk;rw[hk2,cond_true,hs,hTN2];rfl
  rw[hnT,hTN2]at hz
  rw[hTN]at hu hbT
  clear hq3 hct hnT hTN hTN2
  generalize xv (zQ d.c) s=sn at*
  generalize yU d.c sn=A at*
  generalize rq.getD sn (0,0)=x at*
  generalize sq.getD i (0,0)=y at*
  refine Sm.dg 310 10 ze ?_
  simp only[go_sem,BlL.r]
  refine DCallQ.dm 320 (fun _=>hto') hH (fun _=>rfl) rfl rfl (vv ?_)
  refine DOpQ.own 340 (Stp.idxV (b:=bt) (off:=ot) rfl (by rw[<-hto];rfl) rfl vm zA zA) ?_
  simp only[go_sem,Int.toNat_natCast]
  refine DOpQ.own 340 (zY (k:=1) rfl rfl rfl) (vv ?_)
  refine zE 340 (fun _=>StpC.ldA (vs:=yW T) (hH _ _ hbt) (fun j v hj=>?_) rfl rfl rfl rfl (J7 _)) ?_
  ·exact hx0 j v hj
  simp only[go_sem,yW]
  refine Sm.dg 350 5 ze ?_
  simp only[go_sem,BlL.r]
  refine DOpQ.own 360 (Stp.idxV (b:=bi) (off:=oi) rfl (by rw[<-hio];rfl) rfl jE zA zA) ?_
  simp only[go_sem,Jd,Int.toNat_zero]
  refine zE 360 (fun _=>zW (hH _ _ hbi2) hxi rfl rfl rfl) (vv ?_)
  refine CallQ.dm 370 (fun _=>hfd.toX) hH (fun _=>rfl) rfl rfl (vv ?_)
  refine Sm.dg 380 15 ze ?_
  simp only[go_sem,hsa,hsz]
  refine⟨⟨zA,zA⟩,zA,?_⟩
  refine DCallQ.dm 390 (fun _=>hty) hH (fun _=>rfl) rfl rfl ?_
  simp only[go_sem,hra,hrz]
  refine⟨⟨zA,zA⟩,zA,?_⟩
  refine DCallQ.pure 400 (ui hfa hbT hu x hgr2) rfl (vv ?_)
  refine DCallQ.pure 410 (ik y (xf x A T)) rfl ?_
  generalize vp y (xf x A T)=w at*
  refine vv ?_
  refine Sm.dg 420 5 ze ?_
  simp only[go_sem,hsa,hsz]
  refine⟨⟨zA,zA⟩,zA,?_⟩
  refine zU (fun hE=>?_) (fun hE=>?_)
  ·have hE:nF w y=true:=hE
   rw[hE,cond_true]at hz
   refine zB 430 ?_
   simp only[go_sem,yT (i:=i)]
   exact hj4 _ _ ⟨(i+1,sq,ch),hc2,hlsq,hz⟩ [(2,2),(23,23),(21,21),(22,22),(4,4),(5,5)] yF z9
  have hE:nF w y=false:=hE
  rw[hE,cond_false]at hz
  refine zU (fun hB=>?_) (fun hB=>?_)
  ·have hB:decide (8<=(n:Int))=true:=hB
   have hlT:x9 T=(tC T,th T):=by unfold x9;rw[hbT];rfl
   have hst:=wC sq i (tC T,th T)
   have hsel:(bif decide (8<=(n:Int))then x9 T else w)=(tC T,th T):=by rw[hB,cond_true,hlT]
   rw[hsel]at hz
   refine CallQ.pure 430 (yc T hbT) rfl ?_
   simp only[go_sem,hsz]
   simp only at hst
   simp only[hst]
   refine⟨⟨zA,zA⟩,zA,?_⟩
   refine zB 450 ?_
   simp only[go_sem,yT (i:=i)]
   exact hj4 _ _ ⟨(i+1,sq.set i (tC T,th T),true),hc2,(Jc ..).trans hlsq,hz⟩ [(2,2),(23,23),(21,21),(22,22),(4,4),(5,5)] yF z9
  ·have hB:decide (8<=(n:Int))=false:=hB
   have hst:=wC sq i w
   have hsel:(bif decide (8<=(n:Int))then x9 T else w)=w:=by rw[hB,cond_false]
   rw[hsel]at hz
   simp only[hst]
   refine⟨⟨zA,zA⟩,zA,?_⟩
   refine zB 450 ?_
   simp only[go_sem,yT (i:=i)]
   exact hj4 _ _ ⟨(i+1,sq.set i w,true),hc2,(Jc ..).trans hlsq,hz⟩ [(2,2),(23,23),(21,21),(22,22),(4,4),(5,5)] yF z9
 have hc2:=zL hi hc2
 rw[hc2,Id zc]at hz
 have hz:X8 d.c (decide (8<=(n:Int))) rq (List.range d.bls.length) st false=(sq,ch):=hz
 rw[hz]at hx hkg hkl
 simp only at hx hkg hkl
 cases ch with
 |true=>
  rw[cond_true]at hx
  refine vv ?_
  refine zB 460 ?_
  simp only[go_sem,yT (i:=n)]
  exact hj _ _ ⟨(fu,n+1,rq,sq),by simp only;omega,hlq,hlsq,hgq,hkg,by simpa using hx⟩ [(2,2),(23,23),(21,21),(22,22),(4,4),(5,5)] yF z9
 |false=>
  rw[cond_false]at hx
  injection hx with hx
  obtain⟨rfl,rfl⟩:=Prod.mk.inj hx
  refine vv ?_
  refine RetQ.ren [(1,21),(4,4),(5,5)] hR hP rfl xb rfl ?_ ⟨⟨rfl,rfl⟩,⟨rfl,rfl⟩,trivial⟩ ⟨oX,oX,oX,trivial⟩ cM (zI rfl)
  rw[hlq];rfl
theorem rm {d:Dg}(hk:wV d=true){s:Str}(h:vk d.tys s≠none):yE (yB d.tys s)=true:=by
 unfold wV at hk
 simp only[JG,decide_eq_true_eq,JI]at hk
 obtain⟨_,_,_,ht,_⟩:=hk
 unfold yB
 unfold vk at h⊢
 cases hf:d.tys.find? (fun t=>t.nm==s)with
 |none=>rw[hf]at h;exact absurd rfl h
 |some t=>exact(ht t (Jw hf)).2
theorem YZ {d:Dg}(hk:wV d=true)(h1:∀p∈d.ins,wP d.tys p=none)(h2:∀b∈d.bls,vk d.tys b.ty≠none){i:Nat}(h:i<d.ins.length+d.bls.length):yE (yU d i)=true:=by
 by_cases hi:i<d.ins.length
 ·rw[mw d i hi]
  have hm:d.ins.getD i ZO∈d.ins:=by rw[Kw,Kz hi];exact JE hi
  refine rm hk fun hq=>?_
  have:=h1 _ hm
  unfold wP at this
  rw[if_pos hq]at this
  cases this
 ·have hj:i-d.ins.length<d.bls.length:=zA
  have:=p9 d (i-d.ins.length) hj
  rw[show d.ins.length+(i-d.ins.length)=i by omega]at this
  rw[this]
  have hm:d.bls.getD (i-d.ins.length) vh∈d.bls:=by rw[Kw,Kz hj];exact JE hj
  exact rm hk (h2 _ hm)
theorem Zr {H:Hp}(d:DgL)(hd:d.ok H)(hs:d.sm):CallX H Tryz.prog 19 [yD d.r] [] (fun _:Unit=> .tup [.c (.sl 1 0 (yt d.c (xo d.c)).1.sg.length 13),.c (.sl 2 0 (yt d.c (xo d.c)).1.od.length 1),Ws (yt d.c (xo d.c)).2.1,Wi (yt d.c (xo d.c)).2.2])
  (fun _=>[(1,⟨false,zD ((yt d.c (xo d.c)).1.sg.map Sg.w),47⟩),XA 2 (yt d.c (xo d.c)).1.od]) (fun _ _=>True):=by
 refine kX Tryz.func19 NC Tryz.ntmps19 fun C hR hP hH hL=>?_
 have hR:=hR ()
 refine zB 100 (vv ?_)
 have n4:(d.ins.map Po.r).length=d.ins.length:=Ku _
 have n5:(d.bls.map BlL.r).length=d.bls.length:=Ku _
 have z5:=zP (r:=BlL.r) (k:=6) (fun _=>rfl) d.bls
 have hsl:=xh d
 have hR:=hR C hL trivial
 refine CallQ.hS (Zb d hd hs) hH rfl ?_
 refine Sm.bringC 4 51 100 4 (hd.i.mono hH) rfl rfl rfl ?_
 refine Sm.bringC 5 53 100 5 (hd.bl.mono hH) rfl rfl rfl ?_
 rw[n4,n5]
 refine zB 110 (vv ?_)
 refine zU (fun hv=>?_) (fun hv=>?_)
 ·have hq:yt d.c (xo d.c)=(nX,[],1):=by unfold yt;rw[hv];rfl
  rw[hq]at hR
  refine zw 140 13 47 [2] [] rfl (vv ?_)
  refine zw 141 1 3 [3] [] rfl (vv ?_)
  exact RetQ.ren [(1,140),(2,141)] hR hP rfl xb rfl rfl trivial ⟨oR,oR,trivial⟩ (zC rfl) (zI rfl)
 have hv2:wV d.c=true:=by simpa using hv
 have hdv:(!wV d.c)=false:=by rw[hv2];rfl
 have B:=PF hv2
 have hB1:=B.ins
 have hB2:=B.bls
 have hlI:∀b∈d.bls,b.c.ins.length<=1000000:=fun b hb=>by have:=kK (B.blO b hb);omega
 have hv':=hv2
 unfold wV at hv'
 simp only[JG,decide_eq_true_eq,JI]at hv'
 obtain⟨_,⟨b1,b2,b3,b4,b5⟩,b6,_,_,_,_,hbo,_⟩:=hv'
 simp only[DgL.c,Ku]at b1 b2 b3 b4 b5 b6
 have hbl:d.c.bls.length=d.bls.length:=Ku _
 have hal:pY d.c=match uV [] (tI d.c)with
  |some s=>some (s,8)
  |none=>(zg (wP d.tys) d.ins).or ((zg (wG d.c.tys d.c.cus d.c.mas (zQ d.c)) d.c.bls).or ((vf (zQ d.c) [] d.ous).or (zg (uL d.c) d.c.bls))):=rfl
 have n2:∀y,zg (wP d.tys) d.ins=some y->y.2≠0:=fun y h=>tD (aH d.tys) h
 have n3:∀y,zg (wG d.c.tys d.c.cus d.c.mas (zQ d.c)) d.c.bls=some y->y.2≠0:=fun y h=>tD (ZB _ _ _ _) h
 have n4:∀y,vf (zQ d.c) [] d.ous=some y->y.2≠0:=fun y h=>iu _ _ _ y h
 have eB:zg (wG d.c.tys d.c.cus d.c.mas (zQ d.c)) d.c.bls=zg (fun b:BlL=>wG d.tys d.c.cus d.c.mas (zQ d.c) b.c) d.bls:=uM BlL.c _ d.bls
 have eF:zg (uL d.c) d.c.bls=zg (fun b:BlL=>uL d.c b.c) d.bls:=uM BlL.c _ d.bls
 have c3:=WZ d hd zA zA zA zA zA hlI
 rw[<-eB]at c3
 have hce:∀e,pY d.c=some e->yt d.c (xo d.c)=(nX,e.1,e.2):=fun e h=>by unfold yt;rw[hdv,cond_false,h]
 refine CallQ.hr [(4,4),(5,5),(1,120)] 121 (UE d hd zA zA zA zA zA) hH (zo d) rfl rfl ⟨oY,oY,trivial⟩ rfl (.inl rfl) ?_
 simp only[Mem.ren,Kv,Kx,yO (y7 _),V.ren,Cv.ren,rn,Nat.reduceBEq,cond_true,cond_false]
 refine vv ?_
 have hnl:(tI d.c).length<=1000000000000000:=by
  unfold tI
  rw[JN,JN,JN,Ku,Ku,Ku,hsl]
  show d.tys.length+((d.cus.map CuL.c).length+(d.mas.map MpL.c).length)+_<=_
  rw[Ku,Ku]
  omega
 refine CallQ.ren [(1,120)] 121 (Z4 (tI d.c) hnl) (ClM.v (by simp only[Ky,y7];rfl)) rfl rfl ⟨⟨_,rfl,fI (y7 _)⟩,trivial⟩ rfl (.inr rfl) ?_
 cases hdup:uV [] (tI d.c)with
 |some s=>
  rw[hdup]at hal
  rw[hce _ hal]at hR
  refine vv ?_
  refine zw 140 13 47 [2] [] rfl (vv ?_)
  refine zw 141 1 3 [3] [] rfl (vv ?_)
  exact RetQ.ren [(1,140),(2,141)] hR hP rfl xb rfl rfl trivial ⟨oR,oR,trivial⟩ (zC rfl) (zI rfl)
 |none=>
 rw[hdup]at hal
 simp only at hal
 refine vv ?_
 refine CallQ.dm 130 (fun _=>WW d hd zA zA zA (fun s hs=>rm hv2 hs)) hH (fun _=>rfl) rfl rfl ?_
 cases h2:zg (wP d.tys) d.ins with
 |some y=>
  rw[h2]at hal
  obtain⟨ys,ye⟩:=y
  have hy:(ye==0)=false:=by simpa using n2 _ h2
  have hy2:(ye !=0)=true:=by simpa using n2 _ h2
  rw[hce _ hal]at hR
  simp only[go_sem,JM,Option.getD_some,hy,hy2]
  refine zw 140 13 47 [2] [] rfl (vv ?_)
  refine zw 141 1 3 [3] [] rfl (vv ?_)
  exact RetQ.ren [(1,140),(2,141)] hR hP rfl xb rfl rfl trivial ⟨oR,oR,trivial⟩ (zC rfl) (zI rfl)
 |none=>
 rw[h2,Option.none_or]at hal
 simp only[go_sem,Option.map_none,Option.getD_none]
 refine CallQ.dm 140 (fun _=>c3) hH (fun _=>rfl) rfl rfl ?_
 cases h3:zg (wG d.c.tys d.c.cus d.c.mas (zQ d.c)) d.c.bls with
 |some y=>
  rw[h3]at hal
  obtain⟨ys,ye⟩:=y
  have hy:(ye==0)=false:=by simpa using n3 _ h3
  have hy2:(ye !=0)=true:=by simpa using n3 _ h3
  rw[hce _ hal]at hR
  simp only[go_sem,JM,Option.getD_some,hy,hy2]
  refine zw 150 13 47 [2] [] rfl (vv ?_)
  refine zw 151 1 3 [3] [] rfl (vv ?_)
  exact RetQ.ren [(1,150),(2,151)] hR hP rfl xb rfl rfl trivial ⟨oR,oR,trivial⟩ (zC rfl) (zI rfl)
 |none=>
 rw[h3,Option.none_or]at hal
 simp only[go_sem,Option.map_none,Option.getD_none]
 refine CallQ.dm 150 (fun _=>WS d hd zA zA zA) hH (fun _=>rfl) rfl rfl ?_
 cases h4:vf (zQ d.c) [] d.ous with
 |some y=>
  rw[h4]at hal
  obtain⟨ys,ye⟩:=y
  have hy:(ye==0)=false:=by simpa using n4 _ h4
  have hy2:(ye !=0)=true:=by simpa using n4 _ h4
  rw[hce _ hal]at hR
  simp only[go_sem,JM,Option.getD_some,hy,hy2]
  refine zw 160 13 47 [2] [] rfl (vv ?_)
  refine zw 161 1 3 [3] [] rfl (vv ?_)
  exact RetQ.ren [(1,160),(2,161)] hR hP rfl xb rfl rfl trivial ⟨oR,oR,trivial⟩ (zC rfl) (zI rfl)
 |none=>
 rw[h4,Option.none_or]at hal
 simp only[go_sem,Option.map_none,Option.getD_none]
 have hinA:∀b∈d.bls,∀s∈b.c.ins,sW (zQ d.c) s=true:=fun b hb s hs'=>by
  have h1:=v4 h3 b.c (IC hb)
  unfold wG at h1
  split at h1
  ·cases h1
  ·split at h1
   ·cases h1
   ·rename_i hq
    exact pw hq s hs'
 have htyA:∀b∈d.c.bls,vk d.c.tys b.ty≠none:=fun b hb hn=>by
  have h1:=v4 h3 b hb
  unfold wG at h1
  rw[if_pos hn]at h1
  cases h1
 have hfoA:=fun i (hi:i<d.ins.length+d.bls.length)=>YZ hv2 (v4 h2) htyA (i:=i) (by rw[hbl];exact hi)
 generalize hF:(fun b:BlL=>uL d.c b.c)=F at*
 refine zG (M0:=[]) (α:={i:Nat//i<=d.bls.length/\zg F d.bls=zg F (d.bls.drop i)}) hP (fun i=>[(1,true,.c (.p 2 0)),(9,true,I i.val)]) (fun _=>(2,⟨false,rk d,29⟩)::xU d) (fun i=>d.bls.length-i.val) ⟨0,zA,rfl⟩ (fun _=>cM) (fun _=>zO rfl) [(2,100),(4,4),(5,5)] ?_ ?_
 ·exact z9
 rintro⟨i,hi,hx⟩ J hj
 simp only at hj hi hx⊢
 refine zB 170 (vv ?_)
 refine zU (fun hc=>?_) (fun hc=>?_)
 ·have hc:=zH hc
  have htk:=z6 (r:=BlL.r) (k:=6) (fun _=>rfl) d.bls i hc
  have f0:=zy (r:=BlL.r) (k:=6) (fun _=>rfl) d.bls i 0 hc zA
  rw[JV]at f0
  have hmem:d.bls[i]∈d.bls:=JE hc
  have hbo:=hd.bls _ hmem
  have hbk:=B.blO _ hmem
  have hbi:=hinA _ hmem
  have hbt:=htyA _ (IC hmem)
  have hfb:F d.bls[i]=uL d.c d.bls[i].c:=by rw[<-hF]
  rw[JA hc,ym,hfb]at hx
  generalize d.bls[i]=b at*
  have hru:=Vx d hd zA zA zA b hbo hbk hbi hbt (fun s hs=>hfoA _ (uF (hbi s hs)))
  rw[Zp b.c.kd (by
   intro hn
   unfold xI at hbk
   rw[hn]at hbk
   cases hbk)]at hru
  have hrn:=UD d hd zA b hbo hbk hbt (rm hv2 hbt)
  have hfe:uL d.c b.c=if nc b.c.kd (unT (yB d.tys b.c.ty)) (sw d.c b.c)=false then some (b.c.nm,12)else if rI (yB d.tys b.c.ty) b.c=false then some (b.c.nm,2)else none:=rfl
  rw[hfe]at hx
  generalize nc b.c.kd (unT (yB d.tys b.c.ty)) (sw d.c b.c)=g1 at*
  generalize rI (yB d.tys b.c.ty) b.c=g2 at*
  refine Sm.dg 180 6 ze ?_
  simp only[go_sem,htk,z5]
  refine⟨⟨zA,zA⟩,zA,?_⟩
  refine CallQ.dm 190 (fun _=>hru) hH (fun _=>rfl) rfl rfl (vv ?_)
  cases g1 with
  |false=>
   rw[if_pos rfl]at hx
   have hx:zg F d.bls=some (b.c.nm,12):=hx
   rw[eF,hx]at hal
   rw[hce _ hal]at hR
   refine vv ?_
   refine Sm.dg 200 8 ze ?_
   simp only[go_sem,f0,BlL.r,JP,JM]
   refine⟨⟨zA,zA⟩,?_⟩
   refine zw 210 13 47 [2] [] rfl (vv ?_)
   refine zw 211 1 3 [3] [] rfl (vv ?_)
   exact RetQ.ren [(1,210),(2,211)] hR hP rfl xb rfl rfl trivial ⟨oR,oR,trivial⟩ (zC rfl) (zI rfl)
  |true=>
  rw[if_neg zc]at hx
  refine vv ?_
  refine Sm.dg 200 6 ze ?_
  simp only[go_sem,htk,z5]
  refine⟨⟨zA,zA⟩,zA,?_⟩
  refine CallQ.dm 210 (fun _=>hrn) hH (fun _=>rfl) rfl rfl (vv ?_)
  cases g2 with
  |false=>
   rw[if_pos rfl]at hx
   have hx:zg F d.bls=some (b.c.nm,2):=hx
   rw[eF,hx]at hal
   rw[hce _ hal]at hR
   refine vv ?_
   refine Sm.dg 220 8 ze ?_
   simp only[go_sem,f0,BlL.r,JP,JM]
   refine⟨⟨zA,zA⟩,?_⟩
   refine zw 230 13 47 [2] [] rfl (vv ?_)
   refine zw 231 1 3 [3] [] rfl (vv ?_)
   exact RetQ.ren [(1,230),(2,231)] hR hP rfl xb rfl rfl trivial ⟨oR,oR,trivial⟩ (zC rfl) (zI rfl)
  |true=>
  rw[if_neg zc]at hx
  refine zB 230 ?_
  simp only[go_sem,yT (i:=i)]
  exact hj _ _ ⟨i+1,hc,hx⟩ [(2,2),(4,4),(5,5)] yF z9
 have hc:=zL hi hc
 clear hj
 rw[hc,JL]at hx
 have hx:zg F d.bls=none:=hx
 rw[eF,hx]at hal
 have hall:pY d.c=none:=hal
 have ckd:=kU hv2 hall
 clear hce hal c3
 refine vv ?_
 refine CallQ.dm 240 (fun _=>WV d hd zA zA hlI hinA) hH (fun _=>rfl) rfl rfl ?_
 have hlN:o6 d.c=(uz (yS d.c) d.bls.length).map fun i=>match d.c.bls[i]? with
  |some b=>b.nm
  |none=>[]:=by rw[<-hbl];rfl
 have hlt:∀i,uz (yS d.c) d.bls.length=some i->i<d.bls.length:=fun i h=>by
  unfold uz at h
  split at h
  ·cases h
  ·exact Jj.1 (Jw h)
 cases hlo:uz (yS d.c) d.bls.length with
 |some i=>
  have hc:=hlt i hlo
  rw[hlo]at hlN
  have hlN:o6 d.c=some d.bls[i].c.nm:=by
   rw[hlN]
   have:d.c.bls[i]?=some d.bls[i].c:=by simp[DgL.c,hc]
   simp only[JM,this]
  have hq:yt d.c (xo d.c)=(nX,d.bls[i].c.nm,13):=by unfold yt;rw[hdv,cond_false,hall,hlN]
  rw[hq]at hR
  have hdc:decide (0<=(i:Int))=true:=decide_eq_true zA
  have f0:=zy (r:=BlL.r) (k:=6) (fun _=>rfl) d.bls i 0 hc zA
  rw[JV]at f0
  simp only[go_sem,oI,hdc]
  refine Sm.dg 250 8 ze ?_
  simp only[go_sem,f0,BlL.r,JP,JM]
  refine⟨⟨zA,zA⟩,?_⟩
  refine zw 260 13 47 [2] [] rfl (vv ?_)
  refine zw 261 1 3 [3] [] rfl (vv ?_)
  exact RetQ.ren [(1,260),(2,261)] hR hP rfl xb rfl rfl trivial ⟨oR,oR,trivial⟩ (zC rfl) (zI rfl)
 |none=>
 rw[hlo]at hlN
 have hlN:o6 d.c=none:=hlN
 simp only[go_sem,oI]
 have hodl:=(qn (vP d)).1 hlo
 have hodk:=tR (yS d.c) d.bls.length
 have hodf:=oh hodk.1 hodk.2.1 hodl
 obtain⟨⟨rf,er⟩,hrg⟩:=qf (d:=d.c) (xo d.c) (od:=xR (yS d.c) d.bls.length) hodk.1 (by rw[hbl];exact hodk.2.1) (by rw[hbl];exact hodf)
 have hrr:=UB d hd ckd zA zA zA zA zA _ rfl hodk hodf (d.c.bls.length+8) (by rw[hbl];omega) rf er hrg
 have hch:∀q,uU d.c (xo d.c) (xR (yS d.c) d.c.bls.length) (d.c.bls.length+8) 1 (r0 d.c) (s0 d.c)=q->yt d.c (xo d.c)=match q with
  |none=>(nX,[],0)
  |some (_,some e)=>(nX,e.1,e.2)
  |some (rf,none)=>(⟨d.c,uE d.c rf (d.c.ins.length+d.c.bls.length),xR (yS d.c) d.c.bls.length⟩,[],0):=fun q hq=>by
  unfold yt
  rw[hdv,cond_false,hall,hlN]
  simp only
  rw[hq]
  rcases q with _|⟨a,_|e⟩<;>rfl
 rw[hbl]at hch hrg
 have hch:=hch _ hrg
 have hrfl:er=none->rf.length=d.ins.length+d.bls.length:=fun he=>by subst he;have:=pN hrg;rw[hbl]at this;exact this
 have hrne:∀e,er=some e->e.2≠0:=fun e he=>by subst he;exact rr hrg
 clear hrg
 have hord:=lL d hd zA zA hlI hinA
 have hodL:=oZ (yS d.c) d.bls.length
 generalize hod:xR (yS d.c) d.bls.length=od at*
 refine CallQ.hr [(4,4),(5,5),(1,260)] 270 hrr hH (zo d) rfl rfl ⟨oY,oY,trivial⟩ rfl (.inl rfl) ?_
 simp only[Mem.ren,Kv,Kx,yO (zS _),V.ren,W.ren,Cv.ren,rn,Nat.reduceBEq,cond_true,cond_false]
 cases er with
 |some e=>
  simp only at hch
  rw[hch]at hR
  have he2:(e.2 !=0)=true:=by simpa using hrne e rfl
  simp only[go_sem,Option.getD_some,he2]
  refine zw 280 13 47 [2] [] rfl (vv ?_)
  refine zw 281 1 3 [3] [] rfl (vv ?_)
  exact RetQ.ren [(1,280),(2,281)] hR hP rfl xb rfl rfl trivial ⟨oR,oR,trivial⟩ (zC rfl) (zI rfl)
 |none=>
 simp only at hch
 rw[hch]at hR
 simp only[go_sem,Option.getD_none]
 have hrl:=hrfl rfl
 have hN:d.ins.length+d.bls.length<=230:=zA
 refine CallQ.ren [(4,4),(5,5),(1,270)] 280 (jF d zA zA) (zo d) rfl rfl ⟨oY,oY,trivial⟩ rfl (.inl rfl) ?_
 simp only[Mem.ren,Kv,Kx,yO (y7 _),V.ren,Cv.ren,rn,Nat.reduceBEq,cond_true,cond_false]
 refine vv ?_
 refine yz 290 13 47 [13] [] rfl (vv ?_)
 refine zG (M0:=[]) (α:={i:Nat//i<=d.ins.length+d.bls.length}) hP (fun i=>[(1,true,.c (.p 2 0)),(11,true,.c (.sl 21 0 rf.length 2)),(12,true,.c (.sl 22 0 (zQ d.c).length 1)),(13,true,.c (.sl 23 0 i.val 13)),(14,true,I i.val)])
  (fun i=>(2,⟨false,rk d,29⟩)::(21,⟨false,zD (rf.map yN),45⟩)::(22,⟨false,(zQ d.c).map sC,9⟩)::(23,⟨false,zD ((uE d.c rf i.val).map Sg.w),47⟩)::xU d)
  (fun i=>d.ins.length+d.bls.length-i.val) ⟨0,zA⟩ (fun _=>zC (by simp only[Ky,iR,zh (y7 _)];rfl)) (fun _=>zO rfl) [(2,2),(21,260),(22,270),(23,290),(4,4),(5,5)] ?_ ?_
 ·exact z9
 rintro⟨i,hi⟩ J hj
 simp only at hj hi⊢
 refine zB 300 (vv ?_)
 refine zU (fun hc=>?_) (fun hc=>?_)
 ·have hc:i<(zQ d.c).length:=zH hc
  have hgs:=xq hc
  have hty:=ph d hd zA zA zA i zA
  have htk:=xx rf i zA
  have hz:=zP (r:=yN) (k:=2) (fun _=>rfl) rf
  have hzs:(zD ((uE d.c rf i).map Sg.w)).length=i*13:=by
   rw[zP (r:=Sg.w) (k:=13) (fun _=>rfl),uD]
  have hgd:(zQ d.c)[i]=(zQ d.c).getD i []:=by rw[Kw,Kz hc];rfl
  have hsn:List.take (i*13) (zD ((uE d.c rf i).map Sg.w))++[sC (zQ d.c)[i],.v (.int .i64 (yU d.c i).bits),.v (.bool (yU d.c i).signed),.v (.int .i64 (yU d.c i).num),.v (.int .i64 (yU d.c i).off),.v (.int .i64 (yU d.c i).den),.v (.int .i64 (yU d.c i).m),.v (.int .i64 (yU d.c i).kg),.v (.int .i64 (yU d.c i).s),.v (.int .i64 (yU d.c i).a),.v (.int .i64 (yU d.c i).k),.v (.int .i64 (rf.getD i (0,0)).1),.v (.int .i64 (rf.getD i (0,0)).2)]=zD ((uE d.c rf (i+1)).map Sg.w):=by
   rw[JH zA,mF,hgd];rfl
  refine Sm.dg 310 14 ze ?_
  simp only[go_sem,hgs]
  refine⟨⟨zA,zA⟩,?_⟩
  refine DCallQ.dm 320 (fun _=>hty) hH (fun _=>rfl) rfl rfl ?_
  simp only[go_sem,htk,hz,hzs,yT (i:=i)]
  refine⟨⟨zA,zA⟩,zA,⟨zA,zA,zA⟩,?_⟩
  rw[hsn]
  exact hj _ _ ⟨i+1,zA⟩ [(2,2),(21,21),(22,22),(23,321),(4,4),(5,5)] yF z9
 have hc:i=(zQ d.c).length:=zL zA hc
 have hin:i=d.c.ins.length+d.bls.length:=by show i=d.ins.length+_;omega
 rw[<-hin]at hR
 clear hj
 refine CallQ.hr [(4,4),(5,5),(1,330)] 340 hord hH (zo d) rfl rfl ⟨oY,oY,trivial⟩ rfl (.inl rfl) ?_
 simp only[Mem.ren,Kv,Kx,yO (xK _),V.ren,Cv.ren,rn,Nat.reduceBEq,cond_true,cond_false]
 refine vv ?_
 refine RetQ.ren [(1,23),(2,330)] hR hP rfl xb rfl ?_ trivial ⟨oX,oV (yO (xK _)),trivial⟩ (zC (by simp only[JC,JD,Ky,zh (xK _),iR];rfl)) (zI rfl)
 simp only[uD]
 rfl
end Go.Proofs.YtkciabfilokfiaaGreat.Fx
