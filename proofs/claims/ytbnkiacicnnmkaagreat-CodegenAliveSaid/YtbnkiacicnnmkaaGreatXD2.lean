/-  -/
import Derived.Test.YtbnkiacicnnmkaaGreatQH
import Derived.Laws.BitsAll
import Derived.Laws.Externs
open Go.Proofs.Tryz
open Go.Proofs.Tryz renaming prog→KI
set_option linter.unusedSimpArgs false
set_option linter.unusedVariables false
set_option maxRecDepth 100000
set_option maxHeartbeats 4000000
namespace Go.Proofs.YtbnkiacicnnmkaaGreat.Fx
open Vg Tf
def tP (d:Dg)(b:Bl):Option (Str×Int):=if aR b.kd (oe (yH d.tys b.ty)) (eV d b)=false then some (b.nm,12)else if dK (yH d.tys b.ty) b=false then some (b.nm,2)else none
theorem fP {H:Hp}{cp:Value}{d:DgL}{bT bC' bM bS:Nat}(k:Ck H cp d bT bC' bM bS)(hok:∀b∈d.bls,xg b.c=true)(hin:∀b∈d.bls,∀s∈b.c.ins,ov (zW d.c) s=true):
  CallH H KI 119 [.c (.v cp)] (YP (zx (fun b:BlL=>tP d.c b.c) d.bls)):=by
 have hn2:=k.n2
 have hsz:=zS (r:=BlL.r) (k:=6) (fun _=>rfl) d.bls
 generalize hF:(fun b:BlL=>tP d.c b.c)=F
 obtain⟨b0,o0,rfl,c0,el0,mk0,hc0,hcc⟩:=PtH.at k.c.p
 refine kH func119 UJ ntmps119 fun C hR hP hH hL=>?_
 have hpt:=k.c.p.mono hH
 refine zB 100 (vv ?_)
 refine z3 1 191 6 hpt rfl rfl (zB 100 ?_)
 refine vv ?_
 refine Sm.bringR 5 64 10 (k.o.bl.mono hH) rfl rfl ?_
 have hl2:(d.bls.map BlL.r).length=d.bls.length:=Ni _
 rw[hl2]
 refine zL (M0:=[]) (α:={i:Nat//i<=d.bls.length/\zx F d.bls=zx F (d.bls.drop i)}) hP (fun i=>[(0,true,.c (.v (.pointer (some ⟨b0,o0,none⟩)))),(10,true,.c (.sl 5 0 d.bls.length 6)),(11,true,I d.bls.length),(12,true,I i.val)])
  (fun _=>[(5,⟨true,zC (d.bls.map BlL.r),64⟩)]) (fun i=>d.bls.length-i.val) ⟨0,zA,rfl⟩ (fun _=>cM) (fun _=>zP rfl) [(5,5)] ?_ ?_
 ·exact zk
 ·rintro⟨i,hi,hx⟩ J hj
  simp only at hj hi hx⊢
  refine zB 120 (vv ?_)
  refine zY (fun hc=>?_) (fun hc=>?_)
  ·have hc:=zI hc
   have htk:=zX (r:=BlL.r) (k:=6) (fun _=>rfl) d.bls i hc
   rw[Np hc,yc]at hx
   have hmem:d.bls[i]∈d.bls:=Nv hc
   simp only[htk,hsz]
   refine⟨⟨zA,zA⟩,zA,?_⟩
   have hbo:=k.o.bls _ hmem
   have hun:=aN k d.bls[i] hbo (hok _ hmem) zA (hin _ hmem)
   have hnu:=gl k d.bls[i] hbo (hok _ hmem)
   have hFb:F d.bls[i]=tP d.c d.bls[i].c:=by rw[<-hF]
   unfold tP at hFb
   have hty:d.c.tys=d.tys:=rfl
   rw[hty]at hFb
   generalize d.bls[i]=b at*
   refine vv ?_
   refine zO 140 hun hH rfl (vv ?_)
   cases hu:aR b.c.kd (oe (yH d.tys b.c.ty)) (eV d.c b.c)with
   |false=>
    rw[if_pos hu]at hFb
    rw[hFb]at hx
    rw[hx]at hR
    exact yM (hR C hL) ClM.nil
   |true=>
    rw[if_neg (by rw[hu];simp)]at hFb
    refine zO 150 hnu hH rfl (vv ?_)
    cases hv:dK (yH d.tys b.c.ty) b.c with
    |false=>
     rw[if_pos hv]at hFb
     rw[hFb]at hx
     rw[hx]at hR
     exact yM (hR C hL) ClM.nil
    |true=>
     rw[if_neg (by rw[hv];simp)]at hFb
     rw[hFb]at hx
     refine zB 160 ?_
     simp only[go_sem,yt (i:=i)]
     exact hj _ _ ⟨i+1,hc,hx⟩ [(5,5)] yK zk
  ·have hc:=zJ hi hc
   rw[hc,Ny]at hx
   rw[hx]at hR
   exact yM (hR C hL) ClM.nil
theorem _root_.Go.Proofs.YtbnkiacicnnmkaaGreat.Vg.Stp.bound {P:Program}{o:Oper}{e:Env}{M:Mem}{f:FuncId}{x:Operand}{u:Value}(ho:o.op= .makeFunc (.func f) #[x] #[])(hx:rd e x=some (true,.c (.v u))):Stp P o e M (.c (.v (.func (.func f) #[u] #[]))) []:=by
 refine Stp.pure fun β a hop w=>?_
 have he:=hop x (by simp[ho,Op.operands]) _ hx
 simp only[gv,V.g,Cv.g,cond_true]at he
 unfold execOp
 simp[ho,Instr.makeFunc,he,V.g,Cv.g]
theorem _root_.Go.Proofs.YtbnkiacicnnmkaaGreat.Vg.StpC.callB {H:Hp}{P:Program}{C:Cx}{o:Oper}{e:Env}{M:Mem}{f:FuncId}{x:Operand}{u:Value}{v:V}{tys:Array TypeId}(hc:CallH H P f [.c (.v u)] v)(hH:H.le C.hp)(ho:o.op= .call {callee:= .value x,args:= #[],argTypes:=tys})
  (hx:rd e x=some (true,.c (.v (.func (.func f) #[u] #[])))):StpC P C.S C.w0 o e M v []:=by
 intro β M' a w hsub hfr' hrel hok K Q hk
 have he:=hok β (zG _ _) x (by simp[ho,Op.operands,Call.operands]) _ hx
 simp only[gv,V.g,Cv.g,cond_true]at he
 have hent:=hc.1
 have hrun:(execOp a.eval o).run P w= .ok (.enter f #[u]) w:=by
  unfold execOp
  simp[ho,resolve,he,Deferred.ofValue,invoke,hent #[u] w]
 unfold Oper.wp
 rw[hrun,Oper.upon_enter]
 refine((hc.kx hH).2 β w M' hrel (Sub.nil _) (fun k h=>by cases h)).mono ?_
 rintro en w' ⟨β2,u',rfl,h1,h2,h3⟩
 exact hk β2 u' w' h1 h2 h3
@[go_sem ↓] theorem TN:rB 4 1=[(0,1),(1,1),(2,1),(3,1)]:=rfl
def qV (d:Dg):List Str:=d.tys.map (·.nm)++(d.cus.map (·.nm)++d.mas.map (·.nm))++zW d
theorem aU {H:Hp}{cp:Value}{d:DgL}{bT bC' bM bS:Nat}(k:Ck H cp d bT bC' bM bS)(h1:d.tys.length<=1000000)(h2:d.cus.length<=1000000)(h3:d.mas.length<=1000000):
  CallH H KI 115 [.c (.v cp)] (TV (sY [] (qV d.c))):=by
 have hn1:=k.n1
 have hn2:=k.n2
 have hsl:=vX d
 have hnam:=fun(H':Hp) (hh:H.le H')=>gn d (k.o.mono hh) cp _ (k.c.p.mono hh) hn1 hn2
 obtain⟨b0,o0,rfl,c0,el0,mk0,hc0,hcc⟩:=PtH.at k.c.p
 refine kH func115 UO ntmps115 fun C hR hP hH hL=>?_
 have hpt:=k.c.p.mono hH
 refine zB 100 (vv ?_)
 refine z3 1 191 11 hpt rfl rfl (zB 100 ?_)
 refine vv ?_
 refine xN 140 1 9 [4] [] rfl (vv ?_)
 refine Sm.bringR 2 57 15 (k.o.ty.mono hH) rfl rfl ?_
 have hl0:(d.tys.map Td.r).length=d.tys.length:=Ni _
 rw[hl0]
 have hz0:=zS (r:=Td.r) (k:=11) (fun _=>rfl) d.tys
 refine zL (M0:=[]) (α:={i:Nat//i<=d.tys.length}) hP (fun i=>[(0,true,.c (.v (.pointer (some ⟨b0,o0,none⟩)))),(4,true,.c (.sl 6 0 i.val 1)),(15,true,.c (.sl 2 0 d.tys.length 11)),(16,true,I d.tys.length),(17,true,I i.val)])
  (fun i=>[(2,⟨true,zC (d.tys.map Td.r),57⟩),cJ 6 ((d.tys.take i.val).map (fun t:Td=>t.nm))]) (fun i=>d.tys.length-i.val) ⟨0,zA⟩ (fun _=>zD (by simp only[Nj,iR,zZ (y7 _)];rfl)) (fun _=>zP rfl) [(2,2),(6,140)] ?_ ?_
 ·simp only[List.take_zero,Nm,Nx,Mq]
  exact zk
 rintro⟨i,hi⟩ J hb
 simp only at hb hi⊢
 refine zB 150 (vv ?_)
 by_cases hc:i<d.tys.length
 ·have e1:decide ((i:Int)<(d.tys.length:Int))=true:=yQ zA
  have htk:=zX (r:=Td.r) (k:=11) (fun _=>rfl) d.tys i hc
  simp only[go_sem,e1,htk,hz0]
  refine⟨⟨zA,zA⟩,zA,?_⟩
  try simp only[go_sem]
  have hlen:(((d.tys.take i).map (fun t:Td=>t.nm)).map sC).length=i:=by simp;omega
  have hsn:List.take i (((d.tys.take i).map (fun t:Td=>t.nm)).map sC)++[sC ((fun t:Td=>t.nm) d.tys[i])]=((d.tys.take (i+1)).map (fun t:Td=>t.nm)).map sC:=by
   have:=w7 (fun t:Td=>t.nm) d.tys i hc []
   rw[Nw zA];simpa using this
  skip
  simp only[hlen,hsn,yt (i:=i)]
  refine⟨⟨zA,zA,zA⟩,?_⟩
  refine hb _ _ ⟨i+1,hc⟩ [(2,2),(6,152)] yK ?_
  try simp only[<-Mx]
  exact zk
 have e1:decide ((i:Int)<(d.tys.length:Int))=false:=yZ zA
 have hc:i=d.tys.length:=zA
 subst hc
 clear hb
 rw[MS]
 simp only[go_sem,e1]
 refine z3 8 191 27 hpt rfl rfl (zB 100 ?_)
 refine vv ?_
 refine Sm.bringR 3 138 31 (k.o.cu.mono hH) rfl rfl ?_
 have hl1:(d.cus.map CuL.r).length=d.cus.length:=Ni _
 rw[hl1]
 have hz1:=zS (r:=CuL.r) (k:=3) (fun _=>rfl) d.cus
 have hpl1:((d.tys.map (fun t:Td=>t.nm))).length=d.tys.length:=zd
 refine zL (M0:=[]) (α:={i:Nat//i<=d.cus.length}) hP (fun i=>[(0,true,.c (.v (.pointer (some ⟨b0,o0,none⟩)))),(4,true,.c (.sl 6 0 (d.tys.length+i.val) 1)),(31,true,.c (.sl 3 0 d.cus.length 3)),(32,true,I d.cus.length),(33,true,I i.val)])
  (fun i=>[(3,⟨true,zC (d.cus.map CuL.r),138⟩),cJ 6 ((d.tys.map (fun t:Td=>t.nm))++(d.cus.take i.val).map (fun c:CuL=>c.c.nm))]) (fun i=>d.cus.length-i.val) ⟨0,zA⟩ (fun _=>zD (by simp only[Nj,iR,zZ (y7 _)];rfl)) (fun _=>zP rfl) [(3,3),(6,6)] ?_ ?_
 ·simp only[List.take_zero,Nm,Nx,Mq]
  exact zk
 rintro⟨i,hi⟩ J hb
 simp only at hb hi⊢
 refine zB 150 (vv ?_)
 by_cases hc:i<d.cus.length
 ·have e1:decide ((i:Int)<(d.cus.length:Int))=true:=yQ zA
  have htk:=zX (r:=CuL.r) (k:=3) (fun _=>rfl) d.cus i hc
  simp only[go_sem,e1,htk,hz1]
  refine⟨⟨zA,zA⟩,zA,?_⟩
  try simp only[go_sem]
  have hlen:(((d.tys.map (fun t:Td=>t.nm))++(d.cus.take i).map (fun c:CuL=>c.c.nm)).map sC).length=d.tys.length+i:=by rw[Ni,MB,hpl1];simp;omega
  have hsn:List.take (d.tys.length+i) (((d.tys.map (fun t:Td=>t.nm))++(d.cus.take i).map (fun c:CuL=>c.c.nm)).map sC)++[sC ((fun c:CuL=>c.c.nm) d.cus[i])]=((d.tys.map (fun t:Td=>t.nm))++(d.cus.take (i+1)).map (fun c:CuL=>c.c.nm)).map sC:=by
   rw[Nw zA,w7 (fun c:CuL=>c.c.nm) d.cus i hc]
  skip
  simp only[hlen,hsn,yt (i:=i)]
  refine⟨⟨zA,zA,zA⟩,?_⟩
  refine hb _ _ ⟨i+1,hc⟩ [(3,3),(6,152)] yK ?_
  try simp only[<-Mx]
  exact zk
 have e1:decide ((i:Int)<(d.cus.length:Int))=false:=yZ zA
 have hc:i=d.cus.length:=zA
 subst hc
 clear hb
 rw[MS]
 simp only[go_sem,e1]
 refine z3 9 191 43 hpt rfl rfl (zB 100 ?_)
 refine vv ?_
 refine Sm.bringR 4 140 47 (k.o.ma.mono hH) rfl rfl ?_
 have hl2:(d.mas.map MpL.r).length=d.mas.length:=Ni _
 rw[hl2]
 have hz2:=zS (r:=MpL.r) (k:=4) (fun _=>rfl) d.mas
 have hpl2:(((d.tys.map (fun t:Td=>t.nm))++d.cus.map (fun c:CuL=>c.c.nm))).length=(d.tys.length+d.cus.length):=zd
 refine zL (M0:=[]) (α:={i:Nat//i<=d.mas.length}) hP (fun i=>[(0,true,.c (.v (.pointer (some ⟨b0,o0,none⟩)))),(4,true,.c (.sl 6 0 ((d.tys.length+d.cus.length)+i.val) 1)),(47,true,.c (.sl 4 0 d.mas.length 4)),(48,true,I d.mas.length),(49,true,I i.val)])
  (fun i=>[(4,⟨true,zC (d.mas.map MpL.r),140⟩),cJ 6 (((d.tys.map (fun t:Td=>t.nm))++d.cus.map (fun c:CuL=>c.c.nm))++(d.mas.take i.val).map (fun m:MpL=>m.nm))]) (fun i=>d.mas.length-i.val) ⟨0,zA⟩ (fun _=>zD (by simp only[Nj,iR,zZ (y7 _)];rfl)) (fun _=>zP rfl) [(4,4),(6,6)] ?_ ?_
 ·simp only[List.take_zero,Nm,Nx,Mq]
  exact zk
 rintro⟨i,hi⟩ J hb
 simp only at hb hi⊢
 refine zB 150 (vv ?_)
 by_cases hc:i<d.mas.length
 ·have e1:decide ((i:Int)<(d.mas.length:Int))=true:=yQ zA
  have htk:=zX (r:=MpL.r) (k:=4) (fun _=>rfl) d.mas i hc
  simp only[go_sem,e1,htk,hz2]
  refine⟨⟨zA,zA⟩,zA,?_⟩
  try simp only[go_sem]
  have hlen:((((d.tys.map (fun t:Td=>t.nm))++d.cus.map (fun c:CuL=>c.c.nm))++(d.mas.take i).map (fun m:MpL=>m.nm)).map sC).length=(d.tys.length+d.cus.length)+i:=by rw[Ni,MB,hpl2];simp;omega
  have hsn:List.take ((d.tys.length+d.cus.length)+i) ((((d.tys.map (fun t:Td=>t.nm))++d.cus.map (fun c:CuL=>c.c.nm))++(d.mas.take i).map (fun m:MpL=>m.nm)).map sC)++[sC ((fun m:MpL=>m.nm) d.mas[i])]=(((d.tys.map (fun t:Td=>t.nm))++d.cus.map (fun c:CuL=>c.c.nm))++(d.mas.take (i+1)).map (fun m:MpL=>m.nm)).map sC:=by
   rw[Nw zA,w7 (fun m:MpL=>m.nm) d.mas i hc]
  skip
  simp only[hlen,hsn,yt (i:=i)]
  refine⟨⟨zA,zA,zA⟩,?_⟩
  refine hb _ _ ⟨i+1,hc⟩ [(4,4),(6,152)] yK ?_
  try simp only[<-Mx]
  exact zk
 have e1:decide ((i:Int)<(d.mas.length:Int))=false:=yZ zA
 have hc:i=d.mas.length:=zA
 subst hc
 clear hb
 rw[MS]
 simp only[go_sem,e1]
 refine CallQ.hr [(1,160)] 161 (hnam _ hH) (zN _) ClM.nil rfl rfl trivial rfl (.inl rfl) ?_
 simp only[Mem.ren,Nk,Nm,zf (y7 _),V.ren,Cv.ren,rn,Nat.reduceBEq,cond_true,cond_false]
 refine vv ?_
 have hlA:((d.tys.map (fun t:Td=>t.nm)++d.cus.map (fun c:CuL=>c.c.nm)++d.mas.map (fun m:MpL=>m.nm)).map sC).length=d.tys.length+d.cus.length+d.mas.length:=by simp;omega
 have hlS:((zW d.c).map sC).length=(zW d.c).length:=Ni _
 have hall:List.take (d.tys.length+d.cus.length+d.mas.length) ((d.tys.map (fun t:Td=>t.nm)++d.cus.map (fun c:CuL=>c.c.nm)++d.mas.map (fun m:MpL=>m.nm)).map sC)++List.take (zW d.c).length ((zW d.c).map sC)=(qV d.c).map sC:=by
  rw[Nw zA,Nw zA,<-ME]
  unfold qV
  congr 2
  simp[DgL.c,MpL.c]
  rfl
 have hln:d.tys.length+d.cus.length+d.mas.length+(zW d.c).length=(qV d.c).length:=by
  have:=congrArg List.length hall
  simp only[MB,LW,Ni]at this
  simp only[MB,Ni]at hlA
  omega
 refine⟨⟨zA,⟨zA,?_⟩,zA,zA⟩,?_⟩
 ·rw[Nw zA];simp[Cv.one,Value.oneCell']
 simp only[hall,hln]
 refine CallQ.hr [(1,161)] 170 (YB (H:=H) (qV d.c) zA) hH (ClM.v (by simp only[Nj,y7];rfl)) rfl rfl ⟨⟨_,rfl,oP (y7 _)⟩,trivial⟩ rfl (.inr rfl) (vv ?_)
 exact yM (hR C hL) ClM.nil
def ny (d:Dg):Option (Str×Int):=match sY [] (qV d)with
 |some s=>some (s,8)
 |none=>(zx (uG d.tys) d.ins).or ((zx (uH d.tys d.cus d.mas (zW d)) d.bls).or ((uw (zW d) [] d.ous).or (zx (tP d) d.bls)))
theorem rI {α:Type}{f:α->Option (Str×Int)}:∀{l:List α},zx f l=none->∀x∈l,f x=none
 |[],_,x,h=>by cases h
 |y::l,h,x,hx=>by
  rw[yc]at h
  cases hy:f y with
  |some z=>rw[hy]at h;cases h
  |none=>
   rw[hy]at h
   rcases MU.1 hx with rfl|hx
   ·exact hy
   ·exact rI h x hx
theorem tQ {α β:Type}(g:α->β)(f:β->Option (Str×Int)):∀l:List α,zx f (l.map g)=zx (fun x=>f (g x)) l
 |[]=>rfl
 |x::l=>by rw[Nk,yc,yc,tQ g f l]
theorem ti {α:Type}{f:α->Option (Str×Int)}(h:∀x y,f x=some y->y.2≠0):∀{l:List α} {y:Str×Int},zx f l=some y->y.2≠0
 |[],y,hy=>by cases hy
 |x::l,y,hy=>by
  rw[yc]at hy
  cases hx:f x with
  |some z=>rw[hx]at hy;cases hy;exact h x y hx
  |none=>rw[hx]at hy;exact ti h hy
theorem ZX (l:List Td)(p:Po)(y:Str×Int)(h:uG l p=some y):y.2≠0:=by
 unfold uG at h
 split at h
 ·cases h;simp
 ·split at h
  ·cases h;simp
  ·cases h
theorem Zu (a:List Td)(b:List Cu)(c:List Mp)(s:List Str)(x:Bl)(y:Str×Int)(h:uH a b c s x=some y):y.2≠0:=by
 unfold uH at h
 split at h
 ·cases h;simp
 ·split at h
  ·cases h;simp
  ·split at h
   ·cases h;simp
   ·cases h
theorem Z9 (d:Dg)(x:Bl)(y:Str×Int)(h:tP d x=some y):y.2≠0:=by
 unfold tP at h
 split at h
 ·cases h;simp
 ·split at h
  ·cases h;simp
  ·cases h
theorem g9 (sg:List Str):∀(l seen:List Str) (y:Str×Int),uw sg seen l=some y->y.2≠0
 |[],_,y,h=>by cases h
 |s::l,seen,y,h=>by
  rw[uw]at h
  split at h
  ·cases h;simp
  ·split at h
   ·cases h;simp
   ·exact g9 sg l _ y h
theorem QX {H:Hp}{cp:Value}{d:DgL}{bT bC' bM bS:Nat}(k:Ck H cp d bT bC' bM bS)(hv:tq d.c=true):
  CallH H KI 49 [.c (.v cp)] (YP (ny d.c)):=by
 have hv':=hv
 unfold tq at hv'
 simp only[Ns,decide_eq_true_eq,Nr]at hv'
 obtain⟨_,⟨b1,b2,b3,b4,b5⟩,b6,_,_,_,_,hbo,_⟩:=hv'
 simp only[DgL.c,Ni]at b1 b2 b3 b4 b5 b6
 have hbok:∀b∈d.bls,xg b.c=true:=fun b hb=>hbo b.c (List.mem_map_of_mem hb)
 have hil:∀b∈d.bls,b.c.ins.length<=1000000:=fun b hb=>by
  have h1:=hbok b hb
  unfold xg at h1
  cases hq:yk b.c.kd with
  |none=>rw[hq]at h1;cases h1
  |some q=>
   obtain⟨a,n,t⟩:=q
   rw[hq]at h1
   simp only[Ns,decide_eq_true_eq]at h1
   have hm:=v5 hq
   have:∀r∈kindT,r.2.1<=3:=xW
   have:=this _ hm
   simp only at this
   omega
 have c1:=aU k zA zA zA
 have c2:=dY k
 have c3:=dp k hil
 have c4:=g8 k zA
 have eB:zx (uH d.c.tys d.c.cus d.c.mas (zW d.c)) d.c.bls=zx (fun b:BlL=>uH d.tys d.c.cus d.c.mas (zW d.c) b.c) d.bls:=tQ BlL.c _ d.bls
 have eF:zx (tP d.c) d.c.bls=zx (fun b:BlL=>tP d.c b.c) d.bls:=tQ BlL.c _ d.bls
 rw[<-eB]at c3
 have c5:zx (uH d.c.tys d.c.cus d.c.mas (zW d.c)) d.c.bls=none->CallH H KI 119 [.c (.v cp)] (YP (zx (tP d.c) d.c.bls)):=fun hn=>by
  rw[eF]
  refine fP k hbok fun b hb s hs=>?_
  have h1:=rI hn b.c (List.mem_map_of_mem hb)
  unfold uH at h1
  split at h1
  ·cases h1
  ·split at h1
   ·cases h1
   ·rename_i hq
    unfold s9 at hq
    rw[L1]at hq
    simpa using hq s hs
 have eI:zx (uG d.c.tys) d.c.ins=zx (uG d.tys) d.ins:=rfl
 have eO:d.c.ous=d.ous:=rfl
 have hal:ny d.c=match sY [] (qV d.c)with
  |some s=>some (s,8)
  |none=>(zx (uG d.tys) d.ins).or ((zx (uH d.c.tys d.c.cus d.c.mas (zW d.c)) d.c.bls).or ((uw (zW d.c) [] d.ous).or (zx (tP d.c) d.c.bls))):=rfl
 have n2:∀y,zx (uG d.tys) d.ins=some y->y.2≠0:=fun y h=>ti (ZX d.tys) h
 have n3:∀y,zx (uH d.c.tys d.c.cus d.c.mas (zW d.c)) d.c.bls=some y->y.2≠0:=fun y h=>ti (Zu _ _ _ _) h
 have n4:∀y,uw (zW d.c) [] d.ous=some y->y.2≠0:=fun y h=>g9 _ _ _ y h
 have n5:∀y,zx (tP d.c) d.c.bls=some y->y.2≠0:=fun y h=>ti (Z9 _) h
 generalize sY [] (qV d.c)=q1 at*
 generalize zx (uG d.tys) d.ins=q2 at*
 generalize zx (uH d.c.tys d.c.cus d.c.mas (zW d.c)) d.c.bls=q3 at*
 generalize uw (zW d.c) [] d.ous=q4 at*
 generalize zx (tP d.c) d.c.bls=q5 at*
 rw[hal]
 obtain⟨b0,o0,rfl,c0,el0,mk0,hc0,hcc⟩:=PtH.at k.c.p
 refine kH func49 R7 ntmps49 fun C hR hP hH hL=>?_
 refine zB 100 (vv ?_)
 refine zO 110 c1 hH rfl (vv ?_)
 cases q1 with
 |some s=>exact yM (hR C hL) ClM.nil
 |none=>
  refine zB 120 (vv ?_)
  refine vt rfl rfl ⟨[],_,fun _=>Stp.bound rfl rfl,.inl rfl,?_⟩
  refine zB 120 (vv ?_)
  refine vt rfl rfl ⟨[],_,fun _=>Stp.bound rfl rfl,.inl rfl,?_⟩
  refine zB 120 (vv ?_)
  refine vt rfl rfl ⟨[],_,fun _=>Stp.bound rfl rfl,.inl rfl,?_⟩
  refine zB 120 (vv ?_)
  refine vt rfl rfl ⟨[],_,fun _=>Stp.bound rfl rfl,.inl rfl,?_⟩
  refine zB 120 (vv ?_)
  refine zi 5 (zB 130 ?_)
  refine vv ?_
  refine z6 140 rfl rfl (.inl rfl) (fun _=>StpC.callB c2 hH rfl rfl) (vv ?_)
  cases q2 with
  |some y=>
   obtain⟨ys,ye⟩:=y
   have hy:(ye !=0)=true:=by simpa using n2 _ rfl
   simp only[go_sem,M9,Option.getD_some,hy]
   exact yM (hR C hL) ClM.nil
  |none=>
  simp only[go_sem,Option.map_none,Option.getD_none]
  refine z6 140 rfl rfl (.inl rfl) (fun _=>StpC.callB c3 hH rfl rfl) (vv ?_)
  cases q3 with
  |some y=>
   obtain⟨ys,ye⟩:=y
   have hy:(ye !=0)=true:=by simpa using n3 _ rfl
   simp only[go_sem,M9,Option.getD_some,hy]
   exact yM (hR C hL) ClM.nil
  |none=>
  simp only[go_sem,Option.map_none,Option.getD_none]
  refine z6 140 rfl rfl (.inl rfl) (fun _=>StpC.callB c4 hH rfl rfl) (vv ?_)
  cases q4 with
  |some y=>
   obtain⟨ys,ye⟩:=y
   have hy:(ye !=0)=true:=by simpa using n4 _ rfl
   simp only[go_sem,M9,Option.getD_some,hy]
   exact yM (hR C hL) ClM.nil
  |none=>
  simp only[go_sem,Option.map_none,Option.getD_none]
  refine z6 140 rfl rfl (.inl rfl) (fun _=>StpC.callB (c5 rfl) hH rfl rfl) (vv ?_)
  cases q5 with
  |some y=>
   obtain⟨ys,ye⟩:=y
   have hy:(ye !=0)=true:=by simpa using n5 _ rfl
   simp only[go_sem,M9,Option.getD_some,hy]
   exact yM (hR C hL) ClM.nil
  |none=>
  simp only[go_sem,Option.map_none,Option.getD_none]
  exact yM (hR C hL) ClM.nil
abbrev cu (n:Int):Cv:= .v (.int .u64 n)
def wd (x:Int):V:= .agg [cu (x/18446744073709551616%18446744073709551616),cu (x%18446744073709551616)]
theorem ij {a b x:Int}(h1:a=x/18446744073709551616%18446744073709551616)(h2:b=x%18446744073709551616):V.agg [cu a,cu b]=wd x:=by rw[h1,h2];rfl
theorem sj (x:Int):ClV [] (wd x):=fun _ _ _=>rfl
theorem ii (x:Nat)(h:x<18446744073709551616):18446744073709551615 ^^^ x=18446744073709551615-x:=by
 have h1:(BitVec.allOnes 64 ^^^ BitVec.ofNat 64 x)= ~~~ (BitVec.ofNat 64 x):=BitVec.allOnes_xor
 have h2:=congrArg BitVec.toNat h1
 rw[BitVec.toNat_xor,BitVec.toNat_not,BitVec.toNat_ofNat,BitVec.toNat_allOnes,Nat.mod_eq_of_lt h]at h2
 exact h2
theorem lh (x:Nat)(h:x<9223372036854775808):x ^^^ 9223372036854775808=9223372036854775808+x:=by
 apply Nat.eq_of_testBit_eq
 intro i
 rw[Nat.testBit_xor,show(9223372036854775808:Nat)=2^63 by decide]
 rcases Nat.lt_trichotomy i 63 with hi|hi|hi
 ·rw[Nat.testBit_two_pow_add_gt hi,Nat.testBit_two_pow_of_ne zA];simp
 ·subst hi
  rw[Nat.testBit_two_pow_add_eq,Nat.testBit_two_pow_self]
  simp
 ·rw[Nat.testBit_two_pow_of_ne zA,Nat.testBit_lt_two_pow (MO h (Nat.pow_le_pow_right (n:=2) zA (show 63<=i by omega)))]
  rw[Nat.testBit_lt_two_pow]
  ·rfl
  ·have:=Nat.pow_le_pow_right (n:=2) zA (show 64<=i by omega)
   omega
theorem bE (a:Int)(h0:0<=a)(h1:a<18446744073709551616):bits .xor .u64 (if IntKind.u64.signed=true then-1 else IntKind.u64.max) a=18446744073709551615-a:=by
 have e:(if IntKind.u64.signed=true then-1 else IntKind.u64.max)=18446744073709551615:=xW
 rw[e]
 have k:bits .xor .u64 18446744073709551615 a=((18446744073709551615 ^^^ a.toNat:Nat):Int):=by go_bits2
 rw[k,ii _ zA]
 omega
theorem cd (a:Int)(h0:0<=a)(h1:a<18446744073709551616):bits .xor .u64 a 9223372036854775808=if a<9223372036854775808 then a+9223372036854775808 else a-9223372036854775808:=by
 have k:bits .xor .u64 a 9223372036854775808=((a.toNat ^^^ 9223372036854775808:Nat):Int):=by go_bits2
 rw[k]
 split
 ·rw[lh _ zA];omega
 ·have e:a.toNat=(a.toNat-9223372036854775808) ^^^ 9223372036854775808:=by rw[lh _ zA];omega
  rw[e,Nat.xor_assoc,Nat.xor_self,Nat.xor_zero]
  omega
theorem fq (x y c:Int)(hx:0<=x)(hy:0<=y)(hc:0<=c)(hc1:c<=1):qZ KI 286 [U x,U y,U c] (.tup [Wu ((x+y+c)%18446744073709551616),Wu ((x+y+c)/18446744073709551616)]):=by
 intro β w
 have h:=run_callFunc_extern (e:=add64Entry) func286 (by kernel_rfl) (by kernel_rfl) (by kernel_rfl) (by kernel_rfl) #[.int .u64 x,.int .u64 y,.int .u64 c] w
 rw[run_add64 x y c hx hy hc hc1]at h
 exact h
theorem kY (n:Int)(h1: -9223372036854775808<=n)(h2:n<=9223372036854775807):CallOk KI 236 [I n] [] (wd n) []:=by
 refine kO 100 func236 W9 ntmps236 (by simp[ClV,V.g,Cv.g]) fun C hR=>?_
 refine vv ?_
 by_cases h:n<0
 ·have e:decide (n<0)=true:=by simpa using h
  simp only[e]
  refine RetQ.pure hR rfl (vv trivial) ?_ (sj _)
  refine vv ?_
  rw[wd,IntKind.wrap_u64,show n/18446744073709551616%18446744073709551616=18446744073709551615 by omega]
 ·have e:decide (n<0)=false:=by simpa using h
  simp only[e]
  refine RetQ.pure hR rfl (vv trivial) ?_ (sj _)
  refine vv ?_
  rw[wd,IntKind.wrap_u64,show n/18446744073709551616%18446744073709551616=0 by omega]
theorem Y5 (x:Int):x.fdiv (2^min 63 64)=x/9223372036854775808:=by
 rw[show(2:Int)^min 63 64=9223372036854775808 from rfl]
 exact LC x zA
theorem qy (x:Int)(h1: -170141183460469231731687303715884105728<=x)(h2:x<170141183460469231731687303715884105728):CallOk KI 274 [wd x] [] (Bo (decide (x<0))) []:=by
 refine kO 100 func274 WB ntmps274 (by simp[ClV,V.g,Cv.g,wd]) fun C hR=>?_
 simp only[wd]
 refine vv ?_
 refine zu hR ?_
 rw[Y5,MD]
 simp only[beq_iff_eq,decide_eq_true_eq]
 omega
theorem gm (x:Int):CallOk KI 275 [wd x] [] (wd (-x)) []:=by
 refine kO 100 func275 WA ntmps275 (by simp[ClV,V.g,Cv.g,wd]) fun C hR=>?_
 simp only[wd]
 refine vv ?_
 have hl0:0<=x%18446744073709551616:=zA
 have hl1:x%18446744073709551616<18446744073709551616:=zA
 have hh0:0<=x/18446744073709551616%18446744073709551616:=zA
 have hh1:x/18446744073709551616%18446744073709551616<18446744073709551616:=zA
 rw[bE _ hl0 hl1]
 refine CallQ.ext 102 (fq _ _ _ zA zA zA zA) rfl (vv ?_)
 rw[bE _ hh0 hh1]
 refine RetQ.pure hR rfl (vv trivial) ?_ (sj _)
 refine vv ?_
 rw[IntKind.wrap_u64]
 exact ij zA zA
theorem YC (x y:Int):CallOk KI 285 [wd x,wd y] [] (wd (x+y)) []:=by
 refine kO 100 func285 Xr ntmps285 (by simp[ClV,V.g,Cv.g,wd]) fun C hR=>?_
 simp only[wd]
 refine vv ?_
 refine CallQ.ext 103 (fq _ _ _ zA zA zA zA) rfl (vv ?_)
 refine CallQ.ext 103 (fq _ _ _ zA zA zA zA) rfl (vv ?_)
 refine RetQ.pure hR rfl (vv trivial) ?_ (sj _)
 refine vv ?_
 exact ij zA zA
theorem bL (x:Int):CallOk KI 287 [U x] [] (Bo false) []:=by
 refine kO 100 func287 Xq ntmps287 (by simp[ClV,V.g,Cv.g]) fun C hR=>?_
 refine vv ?_
 exact RetQ.bool hR rfl ⟨rfl,trivial⟩ zd
theorem Uf (x y:Int):CallOk KI 277 [U x,U y] [] (I (if x<y then-1 else if y<x then 1 else 0)) []:=by
 refine kO 100 func277 Xy ntmps277 (by simp[ClV,V.g,Cv.g,wd]) fun C hR=>?_
 refine vv ?_
 refine CallQ.pure 102 (bL x) rfl (vv ?_)
 refine CallQ.pure 102 (bL y) rfl (vv ?_)
 by_cases h:x<y
 ·have e:decide (x<y)=true:=by simpa using h
  simp only[e]
  exact RetQ.int hR rfl ⟨rfl,trivial⟩ (by rw[if_pos h])
 ·have e:decide (x<y)=false:=by simpa using h
  simp only[e]
  by_cases h2:y<x
  ·have e2:decide (y<x)=true:=by simpa using h2
   simp only[e2]
   exact RetQ.int hR rfl ⟨rfl,trivial⟩ (by rw[if_neg h,if_pos h2])
  ·have e2:decide (y<x)=false:=by simpa using h2
   simp only[e2]
   exact RetQ.int hR rfl ⟨rfl,trivial⟩ (by rw[if_neg h,if_neg h2])
theorem fo (x y:Int)(h1: -170141183460469231731687303715884105728<=x)(h2:x<170141183460469231731687303715884105728)(h3: -170141183460469231731687303715884105728<=y)(h4:y<170141183460469231731687303715884105728):
  CallOk KI 238 [wd x,wd y] [] (Bo (decide (x<=y))) []:=by
 refine kO 100 func238 W7 ntmps238 (by simp[ClV,V.g,Cv.g,wd]) fun C hR=>?_
 simp only[wd]
 refine vv ?_
 rw[cd _ zA zA,cd _ zA zA]
 generalize hp:(if x/18446744073709551616%18446744073709551616<9223372036854775808 then x/18446744073709551616%18446744073709551616+9223372036854775808 else x/18446744073709551616%18446744073709551616-9223372036854775808)=p
 generalize hq:(if y/18446744073709551616%18446744073709551616<9223372036854775808 then y/18446744073709551616%18446744073709551616+9223372036854775808 else y/18446744073709551616%18446744073709551616-9223372036854775808)=q
 have hp':p=x/18446744073709551616+9223372036854775808:=by rw[<-hp];split<;>omega
 have hq':q=y/18446744073709551616+9223372036854775808:=by rw[<-hq];split<;>omega
 refine CallQ.pure 102 (Uf p q) rfl (vv ?_)
 by_cases h:p<q
 ·rw[if_pos h]
  refine vv ?_
  refine zu hR ?_
  symm
  simp only[decide_eq_true_eq]
  omega
 ·rw[if_neg h]
  by_cases h':q<p
  ·rw[if_pos h']
   refine vv ?_
   refine zu hR ?_
   symm
   simp only[decide_eq_false_iff_not]
   omega
  ·rw[if_neg h']
   refine vv ?_
   refine zu hR ?_
   rw[decide_eq_decide]
   omega
theorem m7 {a m A B:Int}(hA:A=a/18446744073709551616*m)(hB:B=a%18446744073709551616*m):a*m=A*18446744073709551616+B:=by
 have:=Lu a 18446744073709551616
 rw[hA,hB]
 generalize a/18446744073709551616=q at*
 generalize a%18446744073709551616=r at*
 rw[<-this]
 grind
theorem ub {a m y:Int}(hy:y=a*m)(ha:0<=a)(h2:a<170141183460469231731687303715884105728):
  V.agg [cu (IntKind.u64.wrap (a%18446744073709551616*m/18446744073709551616+IntKind.u64.wrap (a/18446744073709551616%18446744073709551616*m))),cu (a%18446744073709551616*m%18446744073709551616)]=wd y:=by
 have hm:=m7 (a:=a) (m:=m) rfl rfl
 rw[IntKind.wrap_u64,IntKind.wrap_u64,show a/18446744073709551616%18446744073709551616=a/18446744073709551616 by omega]
 generalize a/18446744073709551616*m=A at*
 generalize a%18446744073709551616*m=B at*
 exact ij zA zA
theorem xB (x n:Int)(h1: -170141183460469231731687303715884105728<x)(h2:x<170141183460469231731687303715884105728)(h3: -9223372036854775808<=n)(h4:n<=9223372036854775807):
  CallOk KI 237 [wd x,I n] [] (wd (x*n)) []:=by
 refine kO 100 func237 W8 ntmps237 (by simp[ClV,V.g,Cv.g,wd]) fun C hR=>?_
 have hneg:=qy x zA zA
 unfold wd at hneg
 simp only[wd]
 refine vv ?_
 refine CallQ.pure 102 hneg rfl (vv ?_)
 refine CallQ.pure 102 hneg rfl (vv ?_)
 by_cases hx:x<0
 ·have ex:decide (x<0)=true:=by simp;omega
  simp only[ex]
  have hng:=gm x
  unfold wd at hng
  refine CallQ.pure 102 hng rfl (vv ?_)
  by_cases hn:n<0
  ·have en:decide (n<0)=true:=by simp;omega
   simp only[en]
   have wm:IntKind.u64.wrap (0-IntKind.u64.wrap n)= -n:=by rw[IntKind.wrap_u64,IntKind.wrap_u64];omega
   simp only[wm]
   refine CallQ.pure 102 (nS (-x%18446744073709551616) (-n) zA zA zA zA) rfl (vv ?_)
   skip
   refine RetQ.pure hR rfl (vv trivial) ?_ (sj _)
   refine vv ?_
   exact ub (a:= -x) (m:= -n) (by grind) zA zA
  ·have en:decide (n<0)=false:=by simp;omega
   simp only[en]
   have wm:IntKind.u64.wrap n=n:=jR zA zA
   simp only[wm]
   refine CallQ.pure 102 (nS (-x%18446744073709551616) (n) zA zA zA zA) rfl (vv ?_)
   refine CallQ.pure 103 (gm ((-x)*n)) (congrArg (fun z=>[some (true,z)]) (ub (a:= -x) (m:=n) rfl zA zA)) ?_
   simp only[wd]
   refine vv ?_
   refine RetQ.pure hR rfl (vv trivial) ?_ (sj _)
   refine vv ?_
   show wd _=wd _
   congr 1;grind
 ·have ex:decide (x<0)=false:=by simp;omega
  simp only[ex]
  by_cases hn:n<0
  ·have en:decide (n<0)=true:=by simp;omega
   simp only[en]
   have wm:IntKind.u64.wrap (0-IntKind.u64.wrap n)= -n:=by rw[IntKind.wrap_u64,IntKind.wrap_u64];omega
   simp only[wm]
   refine CallQ.pure 102 (nS (x%18446744073709551616) (-n) zA zA zA zA) rfl (vv ?_)
   refine CallQ.pure 103 (gm (x*(-n))) (congrArg (fun z=>[some (true,z)]) (ub (a:=x) (m:= -n) rfl zA zA)) ?_
   simp only[wd]
   refine vv ?_
   refine RetQ.pure hR rfl (vv trivial) ?_ (sj _)
   refine vv ?_
   show wd _=wd _
   congr 1;grind
  ·have en:decide (n<0)=false:=by simp;omega
   simp only[en]
   have wm:IntKind.u64.wrap n=n:=jR zA zA
   simp only[wm]
   refine CallQ.pure 102 (nS (x%18446744073709551616) (n) zA zA zA zA) rfl (vv ?_)
   skip
   refine RetQ.pure hR rfl (vv trivial) ?_ (sj _)
   refine vv ?_
   exact ub (a:=x) (m:=n) (by grind) zA zA
@[go_sem] def va (t:Ft)(r:Int):V:= .agg [ci t.bits,.v (.bool t.signed),ci t.num,ci t.off,ci t.den,ci t.m,ci t.kg,ci t.s,ci t.a,ci t.k,ci r]
@[go_sem] def rg (lo hi:Int):V:= .agg [ci lo,ci hi]
def pq (x:Int):Int:=x/18446744073709551616%18446744073709551616
def pn (x:Int):Int:=x%18446744073709551616
theorem uI (x:Int):wd x= .agg [cu (pq x),cu (pn x)]:=rfl
def X6 (n d:Int):V:= .agg [cu (pq n),cu (pn n),cu (pq d),cu (pn d)]
theorem vh (t:Ft)(r:Int)(h:fok t=true)(hw:tT t r=true):CallOk KI 235 [va t r] [] (.tup [Wi (xS t r),Wi t.den]) []:=by
 have hb:=uY h hw
 refine kO 100 func235 Wa ntmps235 (by simp[ClV,V.g,Cv.g,va,ci]) fun C hR=>?_
 refine vv ?_
 refine Sm.dg 101 14 zw (vv ?_)
 refine yO hR rfl ⟨rfl,rfl,trivial⟩ ?_ rfl
 unfold xS at hb⊢
 rw[y8 (x:=r*t.num) zA zA,y8 zA zA]
def jn (t:Ft)(n d:Int):Int:=min (max (rnd 3 (n*t.den-t.off*d) (d*t.num)) (qh t)) (pD t)
theorem ZR (X Y m:Int)(hY:0<Y):m<=rnd 3 X Y↔Y*(2*m-1)<=2*X:=by
 unfold rnd
 simp only[Int.reduceEq,if_false]
 rw[Int.le_ediv_iff_mul_le zA]
 have:Y*(2*m-1)=m*(2*Y)-Y:=by grind
 omega
structure ResSt (t:Ft) (X Y:Int) where
 lo:Int
 hi:Int
 h1:lo<=hi
 h2: -2147483648<=lo
 h3:hi<=4294967295
 hr:min (max (rnd 3 X Y) lo) hi=min (max (rnd 3 X Y) (qh t)) (pD t)
def PD (lo hi:Int):Env:=[(7,true,I lo),(8,true,I hi),(2,true,.c (.p 100 0)),(3,true,.c (.p 101 0)),(4,true,.c (.p 102 0)),(5,true,.c (.p 103 0)),(6,true,.c (.p 104 0))]
def PC (t:Ft)(n d X Y:Int):Mem:=[(104,⟨false,[cu (pq Y),cu (pn Y)],295⟩),(103,⟨false,[cu (pq (2*X)),cu (pn (2*X))],295⟩),(102,⟨false,[ci 0,.v (.bool false),ci 0,ci 0,ci 0,ci 0,ci 0,ci 0,ci 0,ci 0,ci 0],246⟩),(101,⟨false,[ci t.bits,.v (.bool t.signed),ci t.num,ci t.off,ci t.den,ci t.m,ci t.kg,ci t.s,ci t.a,ci t.k],55⟩),
 (100,⟨false,[cu (pq n),cu (pn n),cu (pq d),cu (pn d)],324⟩)]
theorem wB {a b A B:Int}(h1: -A<=a)(h2:a<=A)(h3: -B<=b)(h4:b<=B): -(A*B)<=a*b/\a*b<=A*B:=by
 rcases Int.lt_or_le b 0 with h|h
 ·have:=mq (a:=a) (b:= -b) (A:=A) (B:=B) h1 h2 zA zA
  rw[LN]at this
  omega
 ·exact mq h1 h2 h h4
theorem tZ (t:Ft)(n d:Int)(h:fok t=true)(hn1: -20282419275553370000000000000000<=n)(hn2:n<=20282419275553370000000000000000)(hd1:1<=d)(hd2:d<=4722367608777000000000):CallOk KI 270 [X6 n d,fx t] [] (va t (jn t n d)) []:=by
 have hf:=vO h
 have hl:=qK t h
 have hw64:IntKind.i64.wrap (0-t.off)= -t.off:=by rw[y8 zA zA];omega
 have b1:=wB (a:=n) (b:=t.den) (A:=20282419275553370000000000000000) (B:=1048576) zA zA zA zA
 have b2:=wB (a:=d) (b:= -t.off) (A:=4722367608777000000000) (B:=1073741824) zA zA zA zA
 have b3:=wB (a:=d) (b:=t.num) (A:=4722367608777000000000) (B:=1048576) zA zA zA zA
 have hX:n*t.den+d* -t.off=n*t.den-t.off*d:=by rw[LN,KF d t.off];omega
 refine kO 100 func270 WF ntmps270 (by simp[ClV,V.g,Cv.g,fx,X6,ci]) fun C hR=>?_
 simp only[X6]
 refine vv ?_
 refine Sm.dg 103 14 zw (vv ?_)
 refine DCallQ.pure 103 (xB n t.den zA zA zA zA) rfl (vv ?_)
 rw[hw64]
 refine DCallQ.pure 103 (xB d (-t.off) zA zA zA zA) rfl (vv ?_)
 refine DCallQ.pure 103 (YC (n*t.den) (d* -t.off)) rfl (vv ?_)
 refine DCallQ.pure 103 (xB (n*t.den+d* -t.off) 2 zA zA zA zA) rfl ?_
 rw[hX,KF _ 2]
 simp only[uI]
 refine vv ?_
 refine CallQ.pure 104 (xB d t.num zA zA zA zA) rfl ?_
 simp only[uI]
 refine vv ?_
 refine CallQ.pure 105 (gu t h) rfl (vv ?_)
 unfold jn at hR
 generalize hXX:n*t.den-t.off*d=X at*
 generalize hYY:d*t.num=Y at*
 have hY:0<Y:=by rw[<-hYY];exact Int.mul_pos zA zA
 refine zL (M0:=[]) (α:=ResSt t X Y) (Pins.nil rfl hR) (fun x=>PD x.lo x.hi) (fun _=>PC t n d X Y) (fun x=>(x.hi-x.lo).toNat) ⟨qh t,pD t,zA,zA,zA,rfl⟩
  (fun _=>zD rfl) (fun _=>zP rfl) [(100,100),(101,101),(102,102),(103,103),(104,104)] ?_ ?_
 ·exact zk
 rintro⟨lo,hi,h1,h2,h3,hr⟩ J hb
 simp only at hb⊢
 refine zB 105 ?_
 simp only[PD,PC]
 refine vv ?_
 by_cases hlt:lo<hi
 ·have e:decide (lo<hi)=true:=by simpa using hlt
  simp only[e]
  have m1:IntKind.i64.wrap (hi-lo)=hi-lo:=y8 zA zA
  have m2:IntKind.i64.wrap (hi-lo+1)=hi-lo+1:=y8 zA zA
  have m3:IntKind.i64.wrap ((hi-lo+1).tdiv 2)=(hi-lo+1)/2:=by rw[Mj zA,y8 zA zA]
  have m4:IntKind.i64.wrap (lo+(hi-lo+1)/2)=lo+(hi-lo+1)/2:=y8 zA zA
  simp only[m1,m2,m3,m4]
  generalize hmid:lo+(hi-lo+1)/2=mid
  have hm1:lo<mid:=zA
  have hm2:mid<=hi:=zA
  clear m1 m2 m3 m4
  refine Sm.dg 105 7 zw (vv ?_)
  have k1:IntKind.i64.wrap (2*mid)=2*mid:=y8 zA zA
  have k2:IntKind.i64.wrap (2*mid-1)=2*mid-1:=y8 zA zA
  simp only[k1,k2]
  have b4:=wB (a:=Y) (b:=2*mid-1) (A:=5000000000000000000000000000) (B:=8589934592) zA zA zA zA
  refine DCallQ.pure 105 (xB Y (2*mid-1) zA zA zA zA) rfl (vv ?_)
  refine DCallQ.pure 105 (fo (Y*(2*mid-1)) (2*X) zA zA zA zA) rfl (vv ?_)
  have hiff:=ZR X Y mid hY
  by_cases hc:Y*(2*mid-1)<=2*X
  ·have e2:decide (Y*(2*mid-1)<=2*X)=true:=by simpa using hc
   simp only[e2]
   have:=hiff.2 hc
   refine hb _ _ ⟨mid,hi,zA,zA,zA,zA⟩ [(100,100),(101,101),(102,102),(103,103),(104,104)] yK
    zk
  ·have e2:decide (Y*(2*mid-1)<=2*X)=false:=by simpa using hc
   simp only[e2]
   have:¬mid<=rnd 3 X Y:=fun hh=>hc (hiff.1 hh)
   have k3:IntKind.i64.wrap (mid-1)=mid-1:=y8 zA zA
   simp only[k3]
   refine hb _ _ ⟨lo,mid-1,zA,zA,zA,zA⟩ [(100,100),(101,101),(102,102),(103,103),(104,104)] yK
    zk
 ·have e:decide (lo<hi)=false:=by simpa using hlt
  simp only[e]
  refine RetQ.pure hR rfl (vv trivial) ?_ (zH rfl)
  refine vv ?_
  rw[show min (max (rnd 3 X Y) (qh t)) (pD t)=lo by omega]
end Go.Proofs.YtbnkiacicnnmkaaGreat.Fx
