/-  -/
import Derived.Test.YtkciabfilokfiaaGreatQH
import Derived.Laws.BitsAll
import Derived.Laws.Externs
open Go.Proofs.Tryz
open Go.Proofs.Tryz renaming prog→Hf
set_option linter.unusedSimpArgs false
set_option linter.unusedVariables false
set_option maxRecDepth 100000
set_option maxHeartbeats 4000000
namespace Go.Proofs.YtkciabfilokfiaaGreat.Fx
open Vg Tf
def uL (d:Dg)(b:Bl):Option (Str×Int):=if nc b.kd (unT (yB d.tys b.ty)) (sw d b)=false then some (b.nm,12)else if rI (yB d.tys b.ty) b=false then some (b.nm,2)else none
theorem aS {H:Hp}{cp:Value}{d:DgL}{bT bC' bM bS:Nat}(k:Ck H cp d bT bC' bM bS)(hok:∀b∈d.bls,xI b.c=true)(hin:∀b∈d.bls,∀s∈b.c.ins,sW (zQ d.c) s=true):
  CallH H Hf 103 [.c (.v cp)] (Y0 (zg (fun b:BlL=>uL d.c b.c) d.bls)):=by
 have hn2:=k.n2
 have hsz:=zP (r:=BlL.r) (k:=6) (fun _=>rfl) d.bls
 generalize hF:(fun b:BlL=>uL d.c b.c)=F
 obtain⟨b0,o0,rfl,c0,el0,mk0,hc0,hcc⟩:=PtH.at k.c.p
 refine kH func103 QM ntmps103 fun C hR hP hH hL=>?_
 have hpt:=k.c.p.mono hH
 refine zB 100 (vv ?_)
 refine zk 1 147 6 hpt rfl rfl (zB 100 ?_)
 refine vv ?_
 refine Sm.bringR 5 53 10 (k.o.bl.mono hH) rfl rfl ?_
 have hl2:(d.bls.map BlL.r).length=d.bls.length:=Ku _
 rw[hl2]
 refine zG (M0:=[]) (α:={i:Nat//i<=d.bls.length/\zg F d.bls=zg F (d.bls.drop i)}) hP (fun i=>[(0,true,.c (.v (.pointer (some ⟨b0,o0,none⟩)))),(10,true,.c (.sl 5 0 d.bls.length 6)),(11,true,I d.bls.length),(12,true,I i.val)])
  (fun _=>[(5,⟨true,zD (d.bls.map BlL.r),53⟩)]) (fun i=>d.bls.length-i.val) ⟨0,zA,rfl⟩ (fun _=>cM) (fun _=>zO rfl) [(5,5)] ?_ ?_
 ·exact z9
 ·rintro⟨i,hi,hx⟩ J hj
  simp only at hj hi hx⊢
  refine zB 120 (vv ?_)
  refine zU (fun hc=>?_) (fun hc=>?_)
  ·have hc:=zH hc
   have htk:=z6 (r:=BlL.r) (k:=6) (fun _=>rfl) d.bls i hc
   rw[JA hc,ym]at hx
   have hmem:d.bls[i]∈d.bls:=JE hc
   simp only[htk,hsz]
   refine⟨⟨zA,zA⟩,zA,?_⟩
   have hbo:=k.o.bls _ hmem
   have hun:=Xy k d.bls[i] hbo (hok _ hmem) zA (hin _ hmem)
   have hnu:=bX k d.bls[i] hbo (hok _ hmem)
   have hFb:F d.bls[i]=uL d.c d.bls[i].c:=by rw[<-hF]
   unfold uL at hFb
   have hty:d.c.tys=d.tys:=rfl
   rw[hty]at hFb
   generalize d.bls[i]=b at*
   refine vv ?_
   refine z8 140 hun hH rfl (vv ?_)
   cases hu:nc b.c.kd (unT (yB d.tys b.c.ty)) (sw d.c b.c)with
   |false=>
    rw[if_pos hu]at hFb
    rw[hFb]at hx
    rw[hx]at hR
    exact yI (hR C hL) ClM.nil
   |true=>
    rw[if_neg (by rw[hu];simp)]at hFb
    refine z8 150 hnu hH rfl (vv ?_)
    cases hv:rI (yB d.tys b.c.ty) b.c with
    |false=>
     rw[if_pos hv]at hFb
     rw[hFb]at hx
     rw[hx]at hR
     exact yI (hR C hL) ClM.nil
    |true=>
     rw[if_neg (by rw[hv];simp)]at hFb
     rw[hFb]at hx
     refine zB 160 ?_
     simp only[go_sem,yT (i:=i)]
     exact hj _ _ ⟨i+1,hc,hx⟩ [(5,5)] yF z9
  ·have hc:=zL hi hc
   rw[hc,JL]at hx
   rw[hx]at hR
   exact yI (hR C hL) ClM.nil
theorem _root_.Go.Proofs.YtkciabfilokfiaaGreat.Vg.Stp.bound {P:Program}{o:Oper}{e:Env}{M:Mem}{f:FuncId}{x:Operand}{u:Value}(ho:o.op= .makeFunc (.func f) #[x] #[])(hx:rd e x=some (true,.c (.v u))):Stp P o e M (.c (.v (.func (.func f) #[u] #[]))) []:=by
 refine Stp.pure fun β a hop w=>?_
 have he:=hop x (by simp[ho,Op.operands]) _ hx
 simp only[gv,V.g,Cv.g,cond_true]at he
 unfold execOp
 simp[ho,Instr.makeFunc,he,V.g,Cv.g]
theorem _root_.Go.Proofs.YtkciabfilokfiaaGreat.Vg.StpC.callB {H:Hp}{P:Program}{C:Cx}{o:Oper}{e:Env}{M:Mem}{f:FuncId}{x:Operand}{u:Value}{v:V}{tys:Array TypeId}(hc:CallH H P f [.c (.v u)] v)(hH:H.le C.hp)(ho:o.op= .call {callee:= .value x,args:= #[],argTypes:=tys})
  (hx:rd e x=some (true,.c (.v (.func (.func f) #[u] #[])))):StpC P C.S C.w0 o e M v []:=by
 intro β M' a w hsub hfr' hrel hok K Q hk
 have he:=hok β (zK _ _) x (by simp[ho,Op.operands,Call.operands]) _ hx
 simp only[gv,V.g,Cv.g,cond_true]at he
 have hent:=hc.1
 have hrun:(execOp a.eval o).run P w= .ok (.enter f #[u]) w:=by
  unfold execOp
  simp[ho,resolve,he,Deferred.ofValue,invoke,hent #[u] w]
 unfold Oper.wp
 rw[hrun,Oper.upon_enter]
 refine((hc.kx hH).2 β w M' hrel (Sub.nil _) (fun k h=>by cases h)).mono ?_
 rintro en w' ⟨β2,u',rfl,h1,h2,h3⟩
 exact hk β2 u' w' h1 h2 h3
@[go_sem ↓] theorem Qm:qk 4 1=[(0,1),(1,1),(2,1),(3,1)]:=rfl
def tI (d:Dg):List Str:=d.tys.map (·.nm)++(d.cus.map (·.nm)++d.mas.map (·.nm))++zQ d
theorem WG {H:Hp}{cp:Value}{d:DgL}{bT bC' bM bS:Nat}(k:Ck H cp d bT bC' bM bS)(h1:d.tys.length<=1000000)(h2:d.cus.length<=1000000)(h3:d.mas.length<=1000000):
  CallH H Hf 99 [.c (.v cp)] (Vb (uV [] (tI d.c))):=by
 have hn1:=k.n1
 have hn2:=k.n2
 have hsl:=xh d
 have hnam:=fun(H':Hp) (hh:H.le H')=>bc d (k.o.mono hh) cp _ (k.c.p.mono hh) hn1 hn2
 obtain⟨b0,o0,rfl,c0,el0,mk0,hc0,hcc⟩:=PtH.at k.c.p
 refine kH func99 OB ntmps99 fun C hR hP hH hL=>?_
 have hpt:=k.c.p.mono hH
 refine zB 100 (vv ?_)
 refine zk 1 147 11 hpt rfl rfl (zB 100 ?_)
 refine vv ?_
 refine yz 140 1 9 [4] [] rfl (vv ?_)
 refine Sm.bringR 2 78 15 (k.o.ty.mono hH) rfl rfl ?_
 have hl0:(d.tys.map Td.r).length=d.tys.length:=Ku _
 rw[hl0]
 have hz0:=zP (r:=Td.r) (k:=11) (fun _=>rfl) d.tys
 refine zG (M0:=[]) (α:={i:Nat//i<=d.tys.length}) hP (fun i=>[(0,true,.c (.v (.pointer (some ⟨b0,o0,none⟩)))),(4,true,.c (.sl 6 0 i.val 1)),(15,true,.c (.sl 2 0 d.tys.length 11)),(16,true,I d.tys.length),(17,true,I i.val)])
  (fun i=>[(2,⟨true,zD (d.tys.map Td.r),78⟩),ZD 6 ((d.tys.take i.val).map (fun t:Td=>t.nm))]) (fun i=>d.tys.length-i.val) ⟨0,zA⟩ (fun _=>zC (by simp only[Ky,iR,zh (y7 _)];rfl)) (fun _=>zO rfl) [(2,2),(6,140)] ?_ ?_
 ·simp only[List.take_zero,Kx,JB,JV]
  exact z9
 rintro⟨i,hi⟩ J hb
 simp only at hb hi⊢
 refine zB 150 (vv ?_)
 by_cases hc:i<d.tys.length
 ·have e1:decide ((i:Int)<(d.tys.length:Int))=true:=yV zA
  have htk:=z6 (r:=Td.r) (k:=11) (fun _=>rfl) d.tys i hc
  simp only[go_sem,e1,htk,hz0]
  refine⟨⟨zA,zA⟩,zA,?_⟩
  try simp only[go_sem]
  have hlen:(((d.tys.take i).map (fun t:Td=>t.nm)).map sC).length=i:=by simp;omega
  have hsn:List.take i (((d.tys.take i).map (fun t:Td=>t.nm)).map sC)++[sC ((fun t:Td=>t.nm) d.tys[i])]=((d.tys.take (i+1)).map (fun t:Td=>t.nm)).map sC:=by
   have:=wN (fun t:Td=>t.nm) d.tys i hc []
   rw[JH zA];simpa using this
  skip
  simp only[hlen,hsn,yT (i:=i)]
  refine⟨⟨zA,zA,zA⟩,?_⟩
  refine hb _ _ ⟨i+1,hc⟩ [(2,2),(6,152)] yF ?_
  try simp only[<-IS]
  exact z9
 have e1:decide ((i:Int)<(d.tys.length:Int))=false:=yd zA
 have hc:i=d.tys.length:=zA
 subst hc
 clear hb
 rw[Jh]
 simp only[go_sem,e1]
 refine zk 8 147 27 hpt rfl rfl (zB 100 ?_)
 refine vv ?_
 refine Sm.bringR 3 84 31 (k.o.cu.mono hH) rfl rfl ?_
 have hl1:(d.cus.map CuL.r).length=d.cus.length:=Ku _
 rw[hl1]
 have hz1:=zP (r:=CuL.r) (k:=3) (fun _=>rfl) d.cus
 have hpl1:((d.tys.map (fun t:Td=>t.nm))).length=d.tys.length:=zc
 refine zG (M0:=[]) (α:={i:Nat//i<=d.cus.length}) hP (fun i=>[(0,true,.c (.v (.pointer (some ⟨b0,o0,none⟩)))),(4,true,.c (.sl 6 0 (d.tys.length+i.val) 1)),(31,true,.c (.sl 3 0 d.cus.length 3)),(32,true,I d.cus.length),(33,true,I i.val)])
  (fun i=>[(3,⟨true,zD (d.cus.map CuL.r),84⟩),ZD 6 ((d.tys.map (fun t:Td=>t.nm))++(d.cus.take i.val).map (fun c:CuL=>c.c.nm))]) (fun i=>d.cus.length-i.val) ⟨0,zA⟩ (fun _=>zC (by simp only[Ky,iR,zh (y7 _)];rfl)) (fun _=>zO rfl) [(3,3),(6,6)] ?_ ?_
 ·simp only[List.take_zero,Kx,JB,JV]
  exact z9
 rintro⟨i,hi⟩ J hb
 simp only at hb hi⊢
 refine zB 150 (vv ?_)
 by_cases hc:i<d.cus.length
 ·have e1:decide ((i:Int)<(d.cus.length:Int))=true:=yV zA
  have htk:=z6 (r:=CuL.r) (k:=3) (fun _=>rfl) d.cus i hc
  simp only[go_sem,e1,htk,hz1]
  refine⟨⟨zA,zA⟩,zA,?_⟩
  try simp only[go_sem]
  have hlen:(((d.tys.map (fun t:Td=>t.nm))++(d.cus.take i).map (fun c:CuL=>c.c.nm)).map sC).length=d.tys.length+i:=by rw[Ku,JN,hpl1];simp;omega
  have hsn:List.take (d.tys.length+i) (((d.tys.map (fun t:Td=>t.nm))++(d.cus.take i).map (fun c:CuL=>c.c.nm)).map sC)++[sC ((fun c:CuL=>c.c.nm) d.cus[i])]=((d.tys.map (fun t:Td=>t.nm))++(d.cus.take (i+1)).map (fun c:CuL=>c.c.nm)).map sC:=by
   rw[JH zA,wN (fun c:CuL=>c.c.nm) d.cus i hc]
  skip
  simp only[hlen,hsn,yT (i:=i)]
  refine⟨⟨zA,zA,zA⟩,?_⟩
  refine hb _ _ ⟨i+1,hc⟩ [(3,3),(6,152)] yF ?_
  try simp only[<-IS]
  exact z9
 have e1:decide ((i:Int)<(d.cus.length:Int))=false:=yd zA
 have hc:i=d.cus.length:=zA
 subst hc
 clear hb
 rw[Jh]
 simp only[go_sem,e1]
 refine zk 9 147 43 hpt rfl rfl (zB 100 ?_)
 refine vv ?_
 refine Sm.bringR 4 91 47 (k.o.ma.mono hH) rfl rfl ?_
 have hl2:(d.mas.map MpL.r).length=d.mas.length:=Ku _
 rw[hl2]
 have hz2:=zP (r:=MpL.r) (k:=4) (fun _=>rfl) d.mas
 have hpl2:(((d.tys.map (fun t:Td=>t.nm))++d.cus.map (fun c:CuL=>c.c.nm))).length=(d.tys.length+d.cus.length):=zc
 refine zG (M0:=[]) (α:={i:Nat//i<=d.mas.length}) hP (fun i=>[(0,true,.c (.v (.pointer (some ⟨b0,o0,none⟩)))),(4,true,.c (.sl 6 0 ((d.tys.length+d.cus.length)+i.val) 1)),(47,true,.c (.sl 4 0 d.mas.length 4)),(48,true,I d.mas.length),(49,true,I i.val)])
  (fun i=>[(4,⟨true,zD (d.mas.map MpL.r),91⟩),ZD 6 (((d.tys.map (fun t:Td=>t.nm))++d.cus.map (fun c:CuL=>c.c.nm))++(d.mas.take i.val).map (fun m:MpL=>m.nm))]) (fun i=>d.mas.length-i.val) ⟨0,zA⟩ (fun _=>zC (by simp only[Ky,iR,zh (y7 _)];rfl)) (fun _=>zO rfl) [(4,4),(6,6)] ?_ ?_
 ·simp only[List.take_zero,Kx,JB,JV]
  exact z9
 rintro⟨i,hi⟩ J hb
 simp only at hb hi⊢
 refine zB 150 (vv ?_)
 by_cases hc:i<d.mas.length
 ·have e1:decide ((i:Int)<(d.mas.length:Int))=true:=yV zA
  have htk:=z6 (r:=MpL.r) (k:=4) (fun _=>rfl) d.mas i hc
  simp only[go_sem,e1,htk,hz2]
  refine⟨⟨zA,zA⟩,zA,?_⟩
  try simp only[go_sem]
  have hlen:((((d.tys.map (fun t:Td=>t.nm))++d.cus.map (fun c:CuL=>c.c.nm))++(d.mas.take i).map (fun m:MpL=>m.nm)).map sC).length=(d.tys.length+d.cus.length)+i:=by rw[Ku,JN,hpl2];simp;omega
  have hsn:List.take ((d.tys.length+d.cus.length)+i) ((((d.tys.map (fun t:Td=>t.nm))++d.cus.map (fun c:CuL=>c.c.nm))++(d.mas.take i).map (fun m:MpL=>m.nm)).map sC)++[sC ((fun m:MpL=>m.nm) d.mas[i])]=(((d.tys.map (fun t:Td=>t.nm))++d.cus.map (fun c:CuL=>c.c.nm))++(d.mas.take (i+1)).map (fun m:MpL=>m.nm)).map sC:=by
   rw[JH zA,wN (fun m:MpL=>m.nm) d.mas i hc]
  skip
  simp only[hlen,hsn,yT (i:=i)]
  refine⟨⟨zA,zA,zA⟩,?_⟩
  refine hb _ _ ⟨i+1,hc⟩ [(4,4),(6,152)] yF ?_
  try simp only[<-IS]
  exact z9
 have e1:decide ((i:Int)<(d.mas.length:Int))=false:=yd zA
 have hc:i=d.mas.length:=zA
 subst hc
 clear hb
 rw[Jh]
 simp only[go_sem,e1]
 refine CallQ.hr [(1,160)] 161 (hnam _ hH) (zV _) ClM.nil rfl rfl trivial rfl (.inl rfl) ?_
 simp only[Mem.ren,Kv,Kx,yO (y7 _),V.ren,Cv.ren,rn,Nat.reduceBEq,cond_true,cond_false]
 refine vv ?_
 have hlA:((d.tys.map (fun t:Td=>t.nm)++d.cus.map (fun c:CuL=>c.c.nm)++d.mas.map (fun m:MpL=>m.nm)).map sC).length=d.tys.length+d.cus.length+d.mas.length:=by simp;omega
 have hlS:((zQ d.c).map sC).length=(zQ d.c).length:=Ku _
 have hall:List.take (d.tys.length+d.cus.length+d.mas.length) ((d.tys.map (fun t:Td=>t.nm)++d.cus.map (fun c:CuL=>c.c.nm)++d.mas.map (fun m:MpL=>m.nm)).map sC)++List.take (zQ d.c).length ((zQ d.c).map sC)=(tI d.c).map sC:=by
  rw[JH zA,JH zA,<-JT]
  unfold tI
  congr 2
  simp[DgL.c,MpL.c]
  rfl
 have hln:d.tys.length+d.cus.length+d.mas.length+(zQ d.c).length=(tI d.c).length:=by
  have:=congrArg List.length hall
  simp only[JN,Jt,Ku]at this
  simp only[JN,Ku]at hlA
  omega
 refine⟨⟨zA,⟨zA,?_⟩,zA,zA⟩,?_⟩
 ·rw[JH zA];simp[Cv.one,Value.oneCell']
 simp only[hall,hln]
 refine CallQ.hr [(1,161)] 170 (V0 (H:=H) (tI d.c) zA) hH (ClM.v (by simp only[Ky,y7];rfl)) rfl rfl ⟨⟨_,rfl,fI (y7 _)⟩,trivial⟩ rfl (.inr rfl) (vv ?_)
 exact yI (hR C hL) ClM.nil
def pY (d:Dg):Option (Str×Int):=match uV [] (tI d)with
 |some s=>some (s,8)
 |none=>(zg (wP d.tys) d.ins).or ((zg (wG d.tys d.cus d.mas (zQ d)) d.bls).or ((vf (zQ d) [] d.ous).or (zg (uL d) d.bls)))
theorem v4 {α:Type}{f:α->Option (Str×Int)}:∀{l:List α},zg f l=none->∀x∈l,f x=none
 |[],_,x,h=>by cases h
 |y::l,h,x,hx=>by
  rw[ym]at h
  cases hy:f y with
  |some z=>rw[hy]at h;cases h
  |none=>
   rw[hy]at h
   rcases JZ.1 hx with rfl|hx
   ·exact hy
   ·exact v4 h x hx
theorem uM {α β:Type}(g:α->β)(f:β->Option (Str×Int)):∀l:List α,zg f (l.map g)=zg (fun x=>f (g x)) l
 |[]=>rfl
 |x::l=>by rw[Kv,ym,ym,uM g f l]
theorem tD {α:Type}{f:α->Option (Str×Int)}(h:∀x y,f x=some y->y.2≠0):∀{l:List α} {y:Str×Int},zg f l=some y->y.2≠0
 |[],y,hy=>by cases hy
 |x::l,y,hy=>by
  rw[ym]at hy
  cases hx:f x with
  |some z=>rw[hx]at hy;cases hy;exact h x y hx
  |none=>rw[hx]at hy;exact tD h hy
theorem aH (l:List Td)(p:Po)(y:Str×Int)(h:wP l p=some y):y.2≠0:=by
 unfold wP at h
 split at h
 ·cases h;simp
 ·split at h
  ·cases h;simp
  ·cases h
theorem ZB (a:List Td)(b:List Cu)(c:List Mp)(s:List Str)(x:Bl)(y:Str×Int)(h:wG a b c s x=some y):y.2≠0:=by
 unfold wG at h
 split at h
 ·cases h;simp
 ·split at h
  ·cases h;simp
  ·split at h
   ·cases h;simp
   ·cases h
theorem VJ (d:Dg)(x:Bl)(y:Str×Int)(h:uL d x=some y):y.2≠0:=by
 unfold uL at h
 split at h
 ·cases h;simp
 ·split at h
  ·cases h;simp
  ·cases h
theorem iu (sg:List Str):∀(l seen:List Str) (y:Str×Int),vf sg seen l=some y->y.2≠0
 |[],_,y,h=>by cases h
 |s::l,seen,y,h=>by
  rw[vf]at h
  split at h
  ·cases h;simp
  ·split at h
   ·cases h;simp
   ·exact iu sg l _ y h
theorem NT {H:Hp}{cp:Value}{d:DgL}{bT bC' bM bS:Nat}(k:Ck H cp d bT bC' bM bS)(hv:wV d.c=true):
  CallH H Hf 44 [.c (.v cp)] (Y0 (pY d.c)):=by
 have hv':=hv
 unfold wV at hv'
 simp only[JG,decide_eq_true_eq,JI]at hv'
 obtain⟨_,⟨b1,b2,b3,b4,b5⟩,b6,_,_,_,_,hbo,_⟩:=hv'
 simp only[DgL.c,Ku]at b1 b2 b3 b4 b5 b6
 have hbok:∀b∈d.bls,xI b.c=true:=fun b hb=>hbo b.c (IC hb)
 have hil:∀b∈d.bls,b.c.ins.length<=1000000:=fun b hb=>by
  have h1:=hbok b hb
  unfold xI at h1
  cases hq:yY b.c.kd with
  |none=>rw[hq]at h1;cases h1
  |some q=>
   obtain⟨a,n,t⟩:=q
   rw[hq]at h1
   simp only[JG,decide_eq_true_eq]at h1
   have hm:=vY hq
   have:∀r∈kindT,r.2.1<=3:=yg
   have:=this _ hm
   simp only at this
   omega
 have c1:=WG k zA zA zA
 have c2:=YT k
 have c3:=Ym k hil
 have c4:=bQ k zA
 have eB:zg (wG d.c.tys d.c.cus d.c.mas (zQ d.c)) d.c.bls=zg (fun b:BlL=>wG d.tys d.c.cus d.c.mas (zQ d.c) b.c) d.bls:=uM BlL.c _ d.bls
 have eF:zg (uL d.c) d.c.bls=zg (fun b:BlL=>uL d.c b.c) d.bls:=uM BlL.c _ d.bls
 rw[<-eB]at c3
 have c5:zg (wG d.c.tys d.c.cus d.c.mas (zQ d.c)) d.c.bls=none->CallH H Hf 103 [.c (.v cp)] (Y0 (zg (uL d.c) d.c.bls)):=fun hn=>by
  rw[eF]
  refine aS k hbok fun b hb s hs=>?_
  have h1:=v4 hn b.c (IC hb)
  unfold wG at h1
  split at h1
  ·cases h1
  ·split at h1
   ·cases h1
   ·rename_i hq
    unfold tq at hq
    rw[Ia]at hq
    simpa using hq s hs
 have eI:zg (wP d.c.tys) d.c.ins=zg (wP d.tys) d.ins:=rfl
 have eO:d.c.ous=d.ous:=rfl
 have hal:pY d.c=match uV [] (tI d.c)with
  |some s=>some (s,8)
  |none=>(zg (wP d.tys) d.ins).or ((zg (wG d.c.tys d.c.cus d.c.mas (zQ d.c)) d.c.bls).or ((vf (zQ d.c) [] d.ous).or (zg (uL d.c) d.c.bls))):=rfl
 have n2:∀y,zg (wP d.tys) d.ins=some y->y.2≠0:=fun y h=>tD (aH d.tys) h
 have n3:∀y,zg (wG d.c.tys d.c.cus d.c.mas (zQ d.c)) d.c.bls=some y->y.2≠0:=fun y h=>tD (ZB _ _ _ _) h
 have n4:∀y,vf (zQ d.c) [] d.ous=some y->y.2≠0:=fun y h=>iu _ _ _ y h
 have n5:∀y,zg (uL d.c) d.c.bls=some y->y.2≠0:=fun y h=>tD (VJ _) h
 generalize uV [] (tI d.c)=q1 at*
 generalize zg (wP d.tys) d.ins=q2 at*
 generalize zg (wG d.c.tys d.c.cus d.c.mas (zQ d.c)) d.c.bls=q3 at*
 generalize vf (zQ d.c) [] d.ous=q4 at*
 generalize zg (uL d.c) d.c.bls=q5 at*
 rw[hal]
 obtain⟨b0,o0,rfl,c0,el0,mk0,hc0,hcc⟩:=PtH.at k.c.p
 refine kH func44 Oq ntmps44 fun C hR hP hH hL=>?_
 refine zB 100 (vv ?_)
 refine z8 110 c1 hH rfl (vv ?_)
 cases q1 with
 |some s=>exact yI (hR C hL) ClM.nil
 |none=>
  refine zB 120 (vv ?_)
  refine tc rfl rfl ⟨[],_,fun _=>Stp.bound rfl rfl,.inl rfl,?_⟩
  refine zB 120 (vv ?_)
  refine tc rfl rfl ⟨[],_,fun _=>Stp.bound rfl rfl,.inl rfl,?_⟩
  refine zB 120 (vv ?_)
  refine tc rfl rfl ⟨[],_,fun _=>Stp.bound rfl rfl,.inl rfl,?_⟩
  refine zB 120 (vv ?_)
  refine tc rfl rfl ⟨[],_,fun _=>Stp.bound rfl rfl,.inl rfl,?_⟩
  refine zB 120 (vv ?_)
  refine x6 5 (zB 130 ?_)
  refine vv ?_
  refine vK 140 rfl rfl (.inl rfl) (fun _=>StpC.callB c2 hH rfl rfl) (vv ?_)
  cases q2 with
  |some y=>
   obtain⟨ys,ye⟩:=y
   have hy:(ye !=0)=true:=by simpa using n2 _ rfl
   simp only[go_sem,JM,Option.getD_some,hy]
   exact yI (hR C hL) ClM.nil
  |none=>
  simp only[go_sem,Option.map_none,Option.getD_none]
  refine vK 140 rfl rfl (.inl rfl) (fun _=>StpC.callB c3 hH rfl rfl) (vv ?_)
  cases q3 with
  |some y=>
   obtain⟨ys,ye⟩:=y
   have hy:(ye !=0)=true:=by simpa using n3 _ rfl
   simp only[go_sem,JM,Option.getD_some,hy]
   exact yI (hR C hL) ClM.nil
  |none=>
  simp only[go_sem,Option.map_none,Option.getD_none]
  refine vK 140 rfl rfl (.inl rfl) (fun _=>StpC.callB c4 hH rfl rfl) (vv ?_)
  cases q4 with
  |some y=>
   obtain⟨ys,ye⟩:=y
   have hy:(ye !=0)=true:=by simpa using n4 _ rfl
   simp only[go_sem,JM,Option.getD_some,hy]
   exact yI (hR C hL) ClM.nil
  |none=>
  simp only[go_sem,Option.map_none,Option.getD_none]
  refine vK 140 rfl rfl (.inl rfl) (fun _=>StpC.callB (c5 rfl) hH rfl rfl) (vv ?_)
  cases q5 with
  |some y=>
   obtain⟨ys,ye⟩:=y
   have hy:(ye !=0)=true:=by simpa using n5 _ rfl
   simp only[go_sem,JM,Option.getD_some,hy]
   exact yI (hR C hL) ClM.nil
  |none=>
  simp only[go_sem,Option.map_none,Option.getD_none]
  exact yI (hR C hL) ClM.nil
abbrev cu (n:Int):Cv:= .v (.int .u64 n)
def wd (x:Int):V:= .agg [cu (x/18446744073709551616%18446744073709551616),cu (x%18446744073709551616)]
theorem cB {a b x:Int}(h1:a=x/18446744073709551616%18446744073709551616)(h2:b=x%18446744073709551616):V.agg [cu a,cu b]=wd x:=by rw[h1,h2];rfl
theorem pF (x:Int):ClV [] (wd x):=fun _ _ _=>rfl
theorem dz (x:Nat)(h:x<18446744073709551616):18446744073709551615 ^^^ x=18446744073709551615-x:=by
 have h1:(BitVec.allOnes 64 ^^^ BitVec.ofNat 64 x)= ~~~ (BitVec.ofNat 64 x):=BitVec.allOnes_xor
 have h2:=congrArg BitVec.toNat h1
 rw[BitVec.toNat_xor,BitVec.toNat_not,BitVec.toNat_ofNat,BitVec.toNat_allOnes,Nat.mod_eq_of_lt h]at h2
 exact h2
theorem fH (x:Nat)(h:x<9223372036854775808):x ^^^ 9223372036854775808=9223372036854775808+x:=by
 apply Nat.eq_of_testBit_eq
 intro i
 rw[Nat.testBit_xor,show(9223372036854775808:Nat)=2^63 by decide]
 rcases Nat.lt_trichotomy i 63 with hi|hi|hi
 ·rw[Nat.testBit_two_pow_add_gt hi,Nat.testBit_two_pow_of_ne zA];simp
 ·subst hi
  rw[Nat.testBit_two_pow_add_eq,Nat.testBit_two_pow_self]
  simp
 ·rw[Nat.testBit_two_pow_of_ne zA,Nat.testBit_lt_two_pow (J8 h (HG (n:=2) zA (show 63<=i by omega)))]
  rw[Nat.testBit_lt_two_pow]
  ·rfl
  ·have:=HG (n:=2) zA (show 64<=i by omega)
   omega
theorem X3 (a:Int)(h0:0<=a)(h1:a<18446744073709551616):bits .xor .u64 (if IntKind.u64.signed=true then-1 else IntKind.u64.max) a=18446744073709551615-a:=by
 have e:(if IntKind.u64.signed=true then-1 else IntKind.u64.max)=18446744073709551615:=yg
 rw[e]
 have k:bits .xor .u64 18446744073709551615 a=((18446744073709551615 ^^^ a.toNat:Nat):Int):=by go_bits2
 rw[k,dz _ zA]
 omega
theorem XN (a:Int)(h0:0<=a)(h1:a<18446744073709551616):bits .xor .u64 a 9223372036854775808=if a<9223372036854775808 then a+9223372036854775808 else a-9223372036854775808:=by
 have k:bits .xor .u64 a 9223372036854775808=((a.toNat ^^^ 9223372036854775808:Nat):Int):=by go_bits2
 rw[k]
 split
 ·rw[fH _ zA];omega
 ·have e:a.toNat=(a.toNat-9223372036854775808) ^^^ 9223372036854775808:=by rw[fH _ zA];omega
  rw[e,Nat.xor_assoc,Nat.xor_self,Nat.xor_zero]
  omega
theorem ZF (x y c:Int)(hx:0<=x)(hy:0<=y)(hc:0<=c)(hc1:c<=1):ml Hf 287 [U x,U y,U c] (.tup [Wu ((x+y+c)%18446744073709551616),Wu ((x+y+c)/18446744073709551616)]):=by
 intro β w
 have h:=run_callFunc_extern (e:=add64Entry) func287 (by kernel_rfl) (by kernel_rfl) (by kernel_rfl) (by kernel_rfl) #[.int .u64 x,.int .u64 y,.int .u64 c] w
 rw[run_add64 x y c hx hy hc hc1]at h
 exact h
theorem fv (n:Int)(h1: -9223372036854775808<=n)(h2:n<=9223372036854775807):CallOk Hf 259 [I n] [] (wd n) []:=by
 refine kO 100 func259 Tn ntmps259 (by simp[ClV,V.g,Cv.g]) fun C hR=>?_
 refine vv ?_
 by_cases h:n<0
 ·have e:decide (n<0)=true:=by simpa using h
  simp only[e]
  refine RetQ.pure hR rfl (vv trivial) ?_ (pF _)
  refine vv ?_
  rw[wd,IntKind.wrap_u64,show n/18446744073709551616%18446744073709551616=18446744073709551615 by omega]
 ·have e:decide (n<0)=false:=by simpa using h
  simp only[e]
  refine RetQ.pure hR rfl (vv trivial) ?_ (pF _)
  refine vv ?_
  rw[wd,IntKind.wrap_u64,show n/18446744073709551616%18446744073709551616=0 by omega]
theorem Vt (x:Int):x.fdiv (2^min 63 64)=x/9223372036854775808:=by
 rw[show(2:Int)^min 63 64=9223372036854775808 from rfl]
 exact I3 x zA
theorem mL (x:Int)(h1: -170141183460469231731687303715884105728<=x)(h2:x<170141183460469231731687303715884105728):CallOk Hf 277 [wd x] [] (Bo (decide (x<0))) []:=by
 refine kO 100 func277 T2 ntmps277 (by simp[ClV,V.g,Cv.g,wd]) fun C hR=>?_
 simp only[wd]
 refine vv ?_
 refine yL hR ?_
 rw[Vt,JQ]
 simp only[beq_iff_eq,decide_eq_true_eq]
 omega
theorem bb (x:Int):CallOk Hf 278 [wd x] [] (wd (-x)) []:=by
 refine kO 100 func278 T1 ntmps278 (by simp[ClV,V.g,Cv.g,wd]) fun C hR=>?_
 simp only[wd]
 refine vv ?_
 have hl0:0<=x%18446744073709551616:=zA
 have hl1:x%18446744073709551616<18446744073709551616:=zA
 have hh0:0<=x/18446744073709551616%18446744073709551616:=zA
 have hh1:x/18446744073709551616%18446744073709551616<18446744073709551616:=zA
 rw[X3 _ hl0 hl1]
 refine CallQ.ext 102 (ZF _ _ _ zA zA zA zA) rfl (vv ?_)
 rw[X3 _ hh0 hh1]
 refine RetQ.pure hR rfl (vv trivial) ?_ (pF _)
 refine vv ?_
 rw[IntKind.wrap_u64]
 exact cB zA zA
theorem V1 (x y:Int):CallOk Hf 275 [wd x,wd y] [] (wd (x+y)) []:=by
 refine kO 100 func275 T4 ntmps275 (by simp[ClV,V.g,Cv.g,wd]) fun C hR=>?_
 simp only[wd]
 refine vv ?_
 refine CallQ.ext 103 (ZF _ _ _ zA zA zA zA) rfl (vv ?_)
 refine CallQ.ext 103 (ZF _ _ _ zA zA zA zA) rfl (vv ?_)
 refine RetQ.pure hR rfl (vv trivial) ?_ (pF _)
 refine vv ?_
 exact cB zA zA
theorem X9 (x:Int):CallOk Hf 297 [U x] [] (Bo false) []:=by
 refine kO 100 func297 TI ntmps297 (by simp[ClV,V.g,Cv.g]) fun C hR=>?_
 refine vv ?_
 exact RetQ.bool hR rfl ⟨rfl,trivial⟩ zc
theorem QY (x y:Int):CallOk Hf 288 [U x,U y] [] (I (if x<y then-1 else if y<x then 1 else 0)) []:=by
 refine kO 100 func288 TQ ntmps288 (by simp[ClV,V.g,Cv.g,wd]) fun C hR=>?_
 refine vv ?_
 refine CallQ.pure 102 (X9 x) rfl (vv ?_)
 refine CallQ.pure 102 (X9 y) rfl (vv ?_)
 by_cases h:x<y
 ·have e:decide (x<y)=true:=by simpa using h
  simp only[e]
  exact RetQ.int hR rfl ⟨rfl,trivial⟩ (by rw[if_pos h])
 ·have e:decide (x<y)=false:=by simpa using h
  simp only[e]
  by_cases h2:y<x
  ·have e2:decide (y<x)=true:=by simpa using h2
   simp only[e2]
   exact RetQ.int hR rfl ⟨rfl,trivial⟩ (by rw[if_neg h,if_pos h2])
  ·have e2:decide (y<x)=false:=by simpa using h2
   simp only[e2]
   exact RetQ.int hR rfl ⟨rfl,trivial⟩ (by rw[if_neg h,if_neg h2])
theorem ZE (x y:Int)(h1: -170141183460469231731687303715884105728<=x)(h2:x<170141183460469231731687303715884105728)(h3: -170141183460469231731687303715884105728<=y)(h4:y<170141183460469231731687303715884105728):
  CallOk Hf 276 [wd x,wd y] [] (Bo (decide (x<=y))) []:=by
 refine kO 100 func276 T3 ntmps276 (by simp[ClV,V.g,Cv.g,wd]) fun C hR=>?_
 simp only[wd]
 refine vv ?_
 rw[XN _ zA zA,XN _ zA zA]
 generalize hp:(if x/18446744073709551616%18446744073709551616<9223372036854775808 then x/18446744073709551616%18446744073709551616+9223372036854775808 else x/18446744073709551616%18446744073709551616-9223372036854775808)=p
 generalize hq:(if y/18446744073709551616%18446744073709551616<9223372036854775808 then y/18446744073709551616%18446744073709551616+9223372036854775808 else y/18446744073709551616%18446744073709551616-9223372036854775808)=q
 have hp':p=x/18446744073709551616+9223372036854775808:=by rw[<-hp];split<;>omega
 have hq':q=y/18446744073709551616+9223372036854775808:=by rw[<-hq];split<;>omega
 refine CallQ.pure 102 (QY p q) rfl (vv ?_)
 by_cases h:p<q
 ·rw[if_pos h]
  refine vv ?_
  refine yL hR ?_
  symm
  simp only[decide_eq_true_eq]
  omega
 ·rw[if_neg h]
  by_cases h':q<p
  ·rw[if_pos h']
   refine vv ?_
   refine yL hR ?_
   symm
   simp only[decide_eq_false_iff_not]
   omega
  ·rw[if_neg h']
   refine vv ?_
   refine yL hR ?_
   rw[decide_eq_decide]
   omega
theorem ie {a m A B:Int}(hA:A=a/18446744073709551616*m)(hB:B=a%18446744073709551616*m):a*m=A*18446744073709551616+B:=by
 have:=IP a 18446744073709551616
 rw[hA,hB]
 generalize a/18446744073709551616=q at*
 generalize a%18446744073709551616=r at*
 rw[<-this]
 grind
theorem sV {a m y:Int}(hy:y=a*m)(ha:0<=a)(h2:a<170141183460469231731687303715884105728):
  V.agg [cu (IntKind.u64.wrap (a%18446744073709551616*m/18446744073709551616+IntKind.u64.wrap (a/18446744073709551616%18446744073709551616*m))),cu (a%18446744073709551616*m%18446744073709551616)]=wd y:=by
 have hm:=ie (a:=a) (m:=m) rfl rfl
 rw[IntKind.wrap_u64,IntKind.wrap_u64,show a/18446744073709551616%18446744073709551616=a/18446744073709551616 by omega]
 generalize a/18446744073709551616*m=A at*
 generalize a%18446744073709551616*m=B at*
 exact cB zA zA
theorem xl (x n:Int)(h1: -170141183460469231731687303715884105728<x)(h2:x<170141183460469231731687303715884105728)(h3: -9223372036854775808<=n)(h4:n<=9223372036854775807):
  CallOk Hf 260 [wd x,I n] [] (wd (x*n)) []:=by
 refine kO 100 func260 Tm ntmps260 (by simp[ClV,V.g,Cv.g,wd]) fun C hR=>?_
 have hneg:=mL x zA zA
 unfold wd at hneg
 simp only[wd]
 refine vv ?_
 refine CallQ.pure 102 hneg rfl (vv ?_)
 refine CallQ.pure 102 hneg rfl (vv ?_)
 by_cases hx:x<0
 ·have ex:decide (x<0)=true:=by simp;omega
  simp only[ex]
  have hng:=bb x
  unfold wd at hng
  refine CallQ.pure 102 hng rfl (vv ?_)
  by_cases hn:n<0
  ·have en:decide (n<0)=true:=by simp;omega
   simp only[en]
   have wm:IntKind.u64.wrap (0-IntKind.u64.wrap n)= -n:=by rw[IntKind.wrap_u64,IntKind.wrap_u64];omega
   simp only[wm]
   refine CallQ.pure 102 (jc (-x%18446744073709551616) (-n) zA zA zA zA) rfl (vv ?_)
   skip
   refine RetQ.pure hR rfl (vv trivial) ?_ (pF _)
   refine vv ?_
   exact sV (a:= -x) (m:= -n) (by grind) zA zA
  ·have en:decide (n<0)=false:=by simp;omega
   simp only[en]
   have wm:IntKind.u64.wrap n=n:=tL zA zA
   simp only[wm]
   refine CallQ.pure 102 (jc (-x%18446744073709551616) (n) zA zA zA zA) rfl (vv ?_)
   refine CallQ.pure 103 (bb ((-x)*n)) (congrArg (fun z=>[some (true,z)]) (sV (a:= -x) (m:=n) rfl zA zA)) ?_
   simp only[wd]
   refine vv ?_
   refine RetQ.pure hR rfl (vv trivial) ?_ (pF _)
   refine vv ?_
   show wd _=wd _
   congr 1;grind
 ·have ex:decide (x<0)=false:=by simp;omega
  simp only[ex]
  by_cases hn:n<0
  ·have en:decide (n<0)=true:=by simp;omega
   simp only[en]
   have wm:IntKind.u64.wrap (0-IntKind.u64.wrap n)= -n:=by rw[IntKind.wrap_u64,IntKind.wrap_u64];omega
   simp only[wm]
   refine CallQ.pure 102 (jc (x%18446744073709551616) (-n) zA zA zA zA) rfl (vv ?_)
   refine CallQ.pure 103 (bb (x*(-n))) (congrArg (fun z=>[some (true,z)]) (sV (a:=x) (m:= -n) rfl zA zA)) ?_
   simp only[wd]
   refine vv ?_
   refine RetQ.pure hR rfl (vv trivial) ?_ (pF _)
   refine vv ?_
   show wd _=wd _
   congr 1;grind
  ·have en:decide (n<0)=false:=by simp;omega
   simp only[en]
   have wm:IntKind.u64.wrap n=n:=tL zA zA
   simp only[wm]
   refine CallQ.pure 102 (jc (x%18446744073709551616) (n) zA zA zA zA) rfl (vv ?_)
   skip
   refine RetQ.pure hR rfl (vv trivial) ?_ (pF _)
   refine vv ?_
   exact sV (a:=x) (m:=n) (by grind) zA zA
@[go_sem] def va (t:Ft)(r:Int):V:= .agg [ci t.bits,.v (.bool t.signed),ci t.num,ci t.off,ci t.den,ci t.m,ci t.kg,ci t.s,ci t.a,ci t.k,ci r]
@[go_sem] def rg (lo hi:Int):V:= .agg [ci lo,ci hi]
def lj (x:Int):Int:=x/18446744073709551616%18446744073709551616
def lU (x:Int):Int:=x%18446744073709551616
theorem tz (x:Int):wd x= .agg [cu (lj x),cu (lU x)]:=rfl
def Uq (n d:Int):V:= .agg [cu (lj n),cu (lU n),cu (lj d),cu (lU d)]
theorem tS (t:Ft)(r:Int)(h:yE t=true)(hw:fin t r=true):CallOk Hf 255 [va t r] [] (.tup [Wi (yq t r),Wi t.den]) []:=by
 have hb:=xy h hw
 refine kO 100 func255 Ts ntmps255 (by simp[ClV,V.g,Cv.g,va,ci]) fun C hR=>?_
 refine vv ?_
 refine Sm.dg 101 14 ze (vv ?_)
 refine yJ hR rfl ⟨rfl,rfl,trivial⟩ ?_ rfl
 unfold yq at hb⊢
 rw[ya (x:=r*t.num) zA zA,ya zA zA]
def qs (t:Ft)(n d:Int):Int:=min (max (rnd 3 (n*t.den-t.off*d) (d*t.num)) (tC t)) (th t)
theorem lV (X Y m:Int)(hY:0<Y):m<=rnd 3 X Y↔Y*(2*m-1)<=2*X:=by
 unfold rnd
 simp only[Int.reduceEq,if_false]
 rw[Ix zA]
 have:Y*(2*m-1)=m*(2*Y)-Y:=by grind
 omega
structure ResSt (t:Ft) (X Y:Int) where
 lo:Int
 hi:Int
 h1:lo<=hi
 h2: -2147483648<=lo
 h3:hi<=4294967295
 hr:min (max (rnd 3 X Y) lo) hi=min (max (rnd 3 X Y) (tC t)) (th t)
def Nv (lo hi:Int):Env:=[(7,true,I lo),(8,true,I hi),(2,true,.c (.p 100 0)),(3,true,.c (.p 101 0)),(4,true,.c (.p 102 0)),(5,true,.c (.p 103 0)),(6,true,.c (.p 104 0))]
def Nu (t:Ft)(n d X Y:Int):Mem:=[(104,⟨false,[cu (lj Y),cu (lU Y)],279⟩),(103,⟨false,[cu (lj (2*X)),cu (lU (2*X))],279⟩),(102,⟨false,[ci 0,.v (.bool false),ci 0,ci 0,ci 0,ci 0,ci 0,ci 0,ci 0,ci 0,ci 0],235⟩),(101,⟨false,[ci t.bits,.v (.bool t.signed),ci t.num,ci t.off,ci t.den,ci t.m,ci t.kg,ci t.s,ci t.a,ci t.k],43⟩),
 (100,⟨false,[cu (lj n),cu (lU n),cu (lj d),cu (lU d)],281⟩)]
theorem xT {a b A B:Int}(h1: -A<=a)(h2:a<=A)(h3: -B<=b)(h4:b<=B): -(A*B)<=a*b/\a*b<=A*B:=by
 rcases HJ b 0 with h|h
 ·have:=rX (a:=a) (b:= -b) (A:=A) (B:=B) h1 h2 zA zA
  rw[IV]at this
  omega
 ·exact rX h1 h2 h h4
theorem rt (t:Ft)(n d:Int)(h:yE t=true)(hn1: -20282419275553370000000000000000<=n)(hn2:n<=20282419275553370000000000000000)(hd1:1<=d)(hd2:d<=4722367608777000000000):CallOk Hf 256 [Uq n d,fx t] [] (va t (qs t n d)) []:=by
 have hf:=xC h
 have hl:=rZ t h
 have hw64:IntKind.i64.wrap (0-t.off)= -t.off:=by rw[ya zA zA];omega
 have b1:=xT (a:=n) (b:=t.den) (A:=20282419275553370000000000000000) (B:=1048576) zA zA zA zA
 have b2:=xT (a:=d) (b:= -t.off) (A:=4722367608777000000000) (B:=1073741824) zA zA zA zA
 have b3:=xT (a:=d) (b:=t.num) (A:=4722367608777000000000) (B:=1048576) zA zA zA zA
 have hX:n*t.den+d* -t.off=n*t.den-t.off*d:=by rw[IV,IZ d t.off];omega
 refine kO 100 func256 Tq ntmps256 (by simp[ClV,V.g,Cv.g,fx,Uq,ci]) fun C hR=>?_
 simp only[Uq]
 refine vv ?_
 refine Sm.dg 103 14 ze (vv ?_)
 refine DCallQ.pure 103 (xl n t.den zA zA zA zA) rfl (vv ?_)
 rw[hw64]
 refine DCallQ.pure 103 (xl d (-t.off) zA zA zA zA) rfl (vv ?_)
 refine DCallQ.pure 103 (V1 (n*t.den) (d* -t.off)) rfl (vv ?_)
 refine DCallQ.pure 103 (xl (n*t.den+d* -t.off) 2 zA zA zA zA) rfl ?_
 rw[hX,IZ _ 2]
 simp only[tz]
 refine vv ?_
 refine CallQ.pure 104 (xl d t.num zA zA zA zA) rfl ?_
 simp only[tz]
 refine vv ?_
 refine CallQ.pure 105 (bv t h) rfl (vv ?_)
 unfold qs at hR
 generalize hXX:n*t.den-t.off*d=X at*
 generalize hYY:d*t.num=Y at*
 have hY:0<Y:=by rw[<-hYY];exact Int.mul_pos zA zA
 refine zG (M0:=[]) (α:=ResSt t X Y) (Pins.nil rfl hR) (fun x=>Nv x.lo x.hi) (fun _=>Nu t n d X Y) (fun x=>(x.hi-x.lo).toNat) ⟨tC t,th t,zA,zA,zA,rfl⟩
  (fun _=>zC rfl) (fun _=>zO rfl) [(100,100),(101,101),(102,102),(103,103),(104,104)] ?_ ?_
 ·exact z9
 rintro⟨lo,hi,h1,h2,h3,hr⟩ J hb
 simp only at hb⊢
 refine zB 105 ?_
 simp only[Nv,Nu]
 refine vv ?_
 by_cases hlt:lo<hi
 ·have e:decide (lo<hi)=true:=by simpa using hlt
  simp only[e]
  have m1:IntKind.i64.wrap (hi-lo)=hi-lo:=ya zA zA
  have m2:IntKind.i64.wrap (hi-lo+1)=hi-lo+1:=ya zA zA
  have m3:IntKind.i64.wrap ((hi-lo+1).tdiv 2)=(hi-lo+1)/2:=by rw[II zA,ya zA zA]
  have m4:IntKind.i64.wrap (lo+(hi-lo+1)/2)=lo+(hi-lo+1)/2:=ya zA zA
  simp only[m1,m2,m3,m4]
  generalize hmid:lo+(hi-lo+1)/2=mid
  have hm1:lo<mid:=zA
  have hm2:mid<=hi:=zA
  clear m1 m2 m3 m4
  refine Sm.dg 105 7 ze (vv ?_)
  have k1:IntKind.i64.wrap (2*mid)=2*mid:=ya zA zA
  have k2:IntKind.i64.wrap (2*mid-1)=2*mid-1:=ya zA zA
  simp only[k1,k2]
  have b4:=xT (a:=Y) (b:=2*mid-1) (A:=5000000000000000000000000000) (B:=8589934592) zA zA zA zA
  refine DCallQ.pure 105 (xl Y (2*mid-1) zA zA zA zA) rfl (vv ?_)
  refine DCallQ.pure 105 (ZE (Y*(2*mid-1)) (2*X) zA zA zA zA) rfl (vv ?_)
  have hiff:=lV X Y mid hY
  by_cases hc:Y*(2*mid-1)<=2*X
  ·have e2:decide (Y*(2*mid-1)<=2*X)=true:=by simpa using hc
   simp only[e2]
   have:=hiff.2 hc
   refine hb _ _ ⟨mid,hi,zA,zA,zA,zA⟩ [(100,100),(101,101),(102,102),(103,103),(104,104)] yF
    z9
  ·have e2:decide (Y*(2*mid-1)<=2*X)=false:=by simpa using hc
   simp only[e2]
   have:¬mid<=rnd 3 X Y:=fun hh=>hc (hiff.1 hh)
   have k3:IntKind.i64.wrap (mid-1)=mid-1:=ya zA zA
   simp only[k3]
   refine hb _ _ ⟨lo,mid-1,zA,zA,zA,zA⟩ [(100,100),(101,101),(102,102),(103,103),(104,104)] yF
    z9
 ·have e:decide (lo<hi)=false:=by simpa using hlt
  simp only[e]
  refine RetQ.pure hR rfl (vv trivial) ?_ (zI rfl)
  refine vv ?_
  rw[show min (max (rnd 3 X Y) (tC t)) (th t)=lo by omega]
end Go.Proofs.YtkciabfilokfiaaGreat.Fx
