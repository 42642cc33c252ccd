/-  -/
import Derived.Test.YtbnkiacicnnmkaaGreatQH
import Derived.Laws.BitsAll
import Derived.Laws.Externs
open Go.Proofs.Tryz
open Go.Proofs.Tryz renaming prog→HT
set_option linter.unusedSimpArgs false
set_option linter.unusedVariables false
set_option maxRecDepth 100000
set_option maxHeartbeats 4000000
namespace Go.Proofs.YtbnkiacicnnmkaaGreat.Fx
open Vg Tf
def tf (d:Dg)(b:Bl):Option (Str×Int):=if Yf b.kd (m6 (yG d.tys b.ty)) (bI d b)=false then some (b.nm,12)else if aF (yG d.tys b.ty) b=false then some (b.nm,2)else none
theorem dj {H:Hp}{cp:Value}{d:DgL}{bT bC' bM bS:Nat}(k:Ck H cp d bT bC' bM bS)(hok:∀b∈d.bls,xj b.c=true)(hin:∀b∈d.bls,∀s∈b.c.ins,mb (zU d.c) s=true):
  CallH H HT 119 [.c (.v cp)] (Wd (zu (fun b:BlL=>tf d.c b.c) d.bls)):=by
 have hn2:=k.n2
 have hsz:=zQ (r:=BlL.r) (k:=6) (fun _=>rfl) d.bls
 generalize hF:(fun b:BlL=>tf d.c b.c)=F
 obtain⟨b0,o0,rfl,c0,el0,mk0,hc0,hcc⟩:=PtH.at k.c.p
 refine kH func119 RL ntmps119 fun C hR hP hH hL=>?_
 have hpt:=k.c.p.mono hH
 refine zB 100 (vv ?_)
 refine zX 1 191 6 hpt rfl rfl (zB 100 ?_)
 refine vv ?_
 refine Sm.bringR 5 64 10 (k.o.bl.mono hH) rfl rfl ?_
 have hl2:(d.bls.map BlL.r).length=d.bls.length:=Kv _
 rw[hl2]
 refine zK (M0:=[]) (α:={i:Nat//i<=d.bls.length/\zu F d.bls=zu F (d.bls.drop i)}) hP (fun i=>[(0,true,.c (.v (.pointer (some ⟨b0,o0,none⟩)))),(10,true,.c (.sl 5 0 d.bls.length 6)),(11,true,I d.bls.length),(12,true,I i.val)])
  (fun _=>[(5,⟨true,zC (d.bls.map BlL.r),64⟩)]) (fun i=>d.bls.length-i.val) ⟨0,zA,rfl⟩ (fun _=>cM) (fun _=>zO rfl) [(5,5)] ?_ ?_
 ·exact zh
 ·rintro⟨i,hi,hx⟩ J hj
  simp only at hj hi hx⊢
  refine zB 120 (vv ?_)
  refine zV (fun hc=>?_) (fun hc=>?_)
  ·have hc:=zH hc
   have htk:=zW (r:=BlL.r) (k:=6) (fun _=>rfl) d.bls i hc
   rw[JC hc,yc]at hx
   have hmem:d.bls[i]∈d.bls:=JH hc
   simp only[htk,hsz]
   refine⟨⟨zA,zA⟩,zA,?_⟩
   have hbo:=k.o.bls _ hmem
   have hun:=Yc k d.bls[i] hbo (hok _ hmem) zA (hin _ hmem)
   have hnu:=ek k d.bls[i] hbo (hok _ hmem)
   have hFb:F d.bls[i]=tf d.c d.bls[i].c:=by rw[<-hF]
   unfold tf at hFb
   have hty:d.c.tys=d.tys:=rfl
   rw[hty]at hFb
   generalize d.bls[i]=b at*
   refine vv ?_
   refine zM 140 hun hH rfl (vv ?_)
   cases hu:Yf b.c.kd (m6 (yG d.tys b.c.ty)) (bI d.c b.c)with
   |false=>
    rw[if_pos hu]at hFb
    rw[hFb]at hx
    rw[hx]at hR
    exact yN (hR C hL) ClM.nil
   |true=>
    rw[if_neg (by rw[hu];simp)]at hFb
    refine zM 150 hnu hH rfl (vv ?_)
    cases hv:aF (yG d.tys b.c.ty) b.c with
    |false=>
     rw[if_pos hv]at hFb
     rw[hFb]at hx
     rw[hx]at hR
     exact yN (hR C hL) ClM.nil
    |true=>
     rw[if_neg (by rw[hv];simp)]at hFb
     rw[hFb]at hx
     refine zB 160 ?_
     simp only[go_sem,yu (i:=i)]
     exact hj _ _ ⟨i+1,hc,hx⟩ [(5,5)] yL zh
  ·have hc:=zI hi hc
   rw[hc,JI]at hx
   rw[hx]at hR
   exact yN (hR C hL) ClM.nil
theorem _root_.Go.Proofs.YtbnkiacicnnmkaaGreat.Vg.Stp.bound {P:Program}{o:Oper}{e:Env}{M:Mem}{f:FuncId}{x:Operand}{u:Value}(ho:o.op= .makeFunc (.func f) #[x] #[])(hx:rd e x=some (true,.c (.v u))):Stp P o e M (.c (.v (.func (.func f) #[u] #[]))) []:=by
 refine Stp.pure fun β a hop w=>?_
 have he:=hop x (by simp[ho,Op.operands]) _ hx
 simp only[gv,V.g,Cv.g,cond_true]at he
 unfold execOp
 simp[ho,Instr.makeFunc,he,V.g,Cv.g]
theorem _root_.Go.Proofs.YtbnkiacicnnmkaaGreat.Vg.StpC.callB {H:Hp}{P:Program}{C:Cx}{o:Oper}{e:Env}{M:Mem}{f:FuncId}{x:Operand}{u:Value}{v:V}{tys:Array TypeId}(hc:CallH H P f [.c (.v u)] v)(hH:H.le C.hp)(ho:o.op= .call {callee:= .value x,args:= #[],argTypes:=tys})
  (hx:rd e x=some (true,.c (.v (.func (.func f) #[u] #[])))):StpC P C.S C.w0 o e M v []:=by
 intro β M' a w hsub hfr' hrel hok K Q hk
 have he:=hok β (Agree.refl _ _) x (by simp[ho,Op.operands,Call.operands]) _ hx
 simp only[gv,V.g,Cv.g,cond_true]at he
 have hent:=hc.1
 have hrun:(execOp a.eval o).run P w= .ok (.enter f #[u]) w:=by
  unfold execOp
  simp[ho,resolve,he,Deferred.ofValue,invoke,hent #[u] w]
 unfold Oper.wp
 rw[hrun,Oper.upon_enter]
 refine((hc.kx hH).2 β w M' hrel (Sub.nil _) (fun k h=>by cases h)).mono ?_
 rintro en w' ⟨β2,u',rfl,h1,h2,h3⟩
 exact hk β2 u' w' h1 h2 h3
@[go_sem ↓] theorem QW:rm 4 1=[(0,1),(1,1),(2,1),(3,1)]:=rfl
def pm (d:Dg):List Str:=d.tys.map (·.nm)++(d.cus.map (·.nm)++d.mas.map (·.nm))++zU d
theorem Yh {H:Hp}{cp:Value}{d:DgL}{bT bC' bM bS:Nat}(k:Ck H cp d bT bC' bM bS)(h1:d.tys.length<=1000000)(h2:d.cus.length<=1000000)(h3:d.mas.length<=1000000):
  CallH H HT 115 [.c (.v cp)] (Q3 (rN [] (pm d.c))):=by
 have hn1:=k.n1
 have hn2:=k.n2
 have hsl:=ve d
 have hnam:=fun(H':Hp) (hh:H.le H')=>eq d (k.o.mono hh) cp _ (k.c.p.mono hh) hn1 hn2
 obtain⟨b0,o0,rfl,c0,el0,mk0,hc0,hcc⟩:=PtH.at k.c.p
 refine kH func115 RP ntmps115 fun C hR hP hH hL=>?_
 have hpt:=k.c.p.mono hH
 refine zB 100 (vv ?_)
 refine zX 1 191 11 hpt rfl rfl (zB 100 ?_)
 refine vv ?_
 refine x9 140 1 9 [4] [] rfl (vv ?_)
 refine Sm.bringR 2 57 15 (k.o.ty.mono hH) rfl rfl ?_
 have hl0:(d.tys.map Td.r).length=d.tys.length:=Kv _
 rw[hl0]
 have hz0:=zQ (r:=Td.r) (k:=11) (fun _=>rfl) d.tys
 refine zK (M0:=[]) (α:={i:Nat//i<=d.tys.length}) hP (fun i=>[(0,true,.c (.v (.pointer (some ⟨b0,o0,none⟩)))),(4,true,.c (.sl 6 0 i.val 1)),(15,true,.c (.sl 2 0 d.tys.length 11)),(16,true,I d.tys.length),(17,true,I i.val)])
  (fun i=>[(2,⟨true,zC (d.tys.map Td.r),57⟩),ZV 6 ((d.tys.take i.val).map (fun t:Td=>t.nm))]) (fun i=>d.tys.length-i.val) ⟨0,zA⟩ (fun _=>zD (by simp only[Kw,iR,z6 (y8 _)];rfl)) (fun _=>zO rfl) [(2,2),(6,140)] ?_ ?_
 ·simp only[List.take_zero,Kz,JK,Jx]
  exact zh
 rintro⟨i,hi⟩ J hb
 simp only at hb hi⊢
 refine zB 150 (vv ?_)
 by_cases hc:i<d.tys.length
 ·have e1:decide ((i:Int)<(d.tys.length:Int))=true:=yS zA
  have htk:=zW (r:=Td.r) (k:=11) (fun _=>rfl) d.tys i hc
  simp only[go_sem,e1,htk,hz0]
  refine⟨⟨zA,zA⟩,zA,?_⟩
  try simp only[go_sem]
  have hlen:(((d.tys.take i).map (fun t:Td=>t.nm)).map sC).length=i:=by simp;omega
  have hsn:List.take i (((d.tys.take i).map (fun t:Td=>t.nm)).map sC)++[sC ((fun t:Td=>t.nm) d.tys[i])]=((d.tys.take (i+1)).map (fun t:Td=>t.nm)).map sC:=by
   have:=wg (fun t:Td=>t.nm) d.tys i hc []
   rw[JJ zA];simpa using this
  skip
  simp only[hlen,hsn,yu (i:=i)]
  refine⟨⟨zA,zA,zA⟩,?_⟩
  refine hb _ _ ⟨i+1,hc⟩ [(2,2),(6,152)] yL ?_
  try simp only[<-IC]
  exact zh
 have e1:decide ((i:Int)<(d.tys.length:Int))=false:=yZ zA
 have hc:i=d.tys.length:=zA
 subst hc
 clear hb
 rw[JY]
 simp only[go_sem,e1]
 refine zX 8 191 27 hpt rfl rfl (zB 100 ?_)
 refine vv ?_
 refine Sm.bringR 3 138 31 (k.o.cu.mono hH) rfl rfl ?_
 have hl1:(d.cus.map CuL.r).length=d.cus.length:=Kv _
 rw[hl1]
 have hz1:=zQ (r:=CuL.r) (k:=3) (fun _=>rfl) d.cus
 have hpl1:((d.tys.map (fun t:Td=>t.nm))).length=d.tys.length:=z9
 refine zK (M0:=[]) (α:={i:Nat//i<=d.cus.length}) hP (fun i=>[(0,true,.c (.v (.pointer (some ⟨b0,o0,none⟩)))),(4,true,.c (.sl 6 0 (d.tys.length+i.val) 1)),(31,true,.c (.sl 3 0 d.cus.length 3)),(32,true,I d.cus.length),(33,true,I i.val)])
  (fun i=>[(3,⟨true,zC (d.cus.map CuL.r),138⟩),ZV 6 ((d.tys.map (fun t:Td=>t.nm))++(d.cus.take i.val).map (fun c:CuL=>c.c.nm))]) (fun i=>d.cus.length-i.val) ⟨0,zA⟩ (fun _=>zD (by simp only[Kw,iR,z6 (y8 _)];rfl)) (fun _=>zO rfl) [(3,3),(6,6)] ?_ ?_
 ·simp only[List.take_zero,Kz,JK,Jx]
  exact zh
 rintro⟨i,hi⟩ J hb
 simp only at hb hi⊢
 refine zB 150 (vv ?_)
 by_cases hc:i<d.cus.length
 ·have e1:decide ((i:Int)<(d.cus.length:Int))=true:=yS zA
  have htk:=zW (r:=CuL.r) (k:=3) (fun _=>rfl) d.cus i hc
  simp only[go_sem,e1,htk,hz1]
  refine⟨⟨zA,zA⟩,zA,?_⟩
  try simp only[go_sem]
  have hlen:(((d.tys.map (fun t:Td=>t.nm))++(d.cus.take i).map (fun c:CuL=>c.c.nm)).map sC).length=d.tys.length+i:=by rw[Kv,JM,hpl1];simp;omega
  have hsn:List.take (d.tys.length+i) (((d.tys.map (fun t:Td=>t.nm))++(d.cus.take i).map (fun c:CuL=>c.c.nm)).map sC)++[sC ((fun c:CuL=>c.c.nm) d.cus[i])]=((d.tys.map (fun t:Td=>t.nm))++(d.cus.take (i+1)).map (fun c:CuL=>c.c.nm)).map sC:=by
   rw[JJ zA,wg (fun c:CuL=>c.c.nm) d.cus i hc]
  skip
  simp only[hlen,hsn,yu (i:=i)]
  refine⟨⟨zA,zA,zA⟩,?_⟩
  refine hb _ _ ⟨i+1,hc⟩ [(3,3),(6,152)] yL ?_
  try simp only[<-IC]
  exact zh
 have e1:decide ((i:Int)<(d.cus.length:Int))=false:=yZ zA
 have hc:i=d.cus.length:=zA
 subst hc
 clear hb
 rw[JY]
 simp only[go_sem,e1]
 refine zX 9 191 43 hpt rfl rfl (zB 100 ?_)
 refine vv ?_
 refine Sm.bringR 4 140 47 (k.o.ma.mono hH) rfl rfl ?_
 have hl2:(d.mas.map MpL.r).length=d.mas.length:=Kv _
 rw[hl2]
 have hz2:=zQ (r:=MpL.r) (k:=4) (fun _=>rfl) d.mas
 have hpl2:(((d.tys.map (fun t:Td=>t.nm))++d.cus.map (fun c:CuL=>c.c.nm))).length=(d.tys.length+d.cus.length):=z9
 refine zK (M0:=[]) (α:={i:Nat//i<=d.mas.length}) hP (fun i=>[(0,true,.c (.v (.pointer (some ⟨b0,o0,none⟩)))),(4,true,.c (.sl 6 0 ((d.tys.length+d.cus.length)+i.val) 1)),(47,true,.c (.sl 4 0 d.mas.length 4)),(48,true,I d.mas.length),(49,true,I i.val)])
  (fun i=>[(4,⟨true,zC (d.mas.map MpL.r),140⟩),ZV 6 (((d.tys.map (fun t:Td=>t.nm))++d.cus.map (fun c:CuL=>c.c.nm))++(d.mas.take i.val).map (fun m:MpL=>m.nm))]) (fun i=>d.mas.length-i.val) ⟨0,zA⟩ (fun _=>zD (by simp only[Kw,iR,z6 (y8 _)];rfl)) (fun _=>zO rfl) [(4,4),(6,6)] ?_ ?_
 ·simp only[List.take_zero,Kz,JK,Jx]
  exact zh
 rintro⟨i,hi⟩ J hb
 simp only at hb hi⊢
 refine zB 150 (vv ?_)
 by_cases hc:i<d.mas.length
 ·have e1:decide ((i:Int)<(d.mas.length:Int))=true:=yS zA
  have htk:=zW (r:=MpL.r) (k:=4) (fun _=>rfl) d.mas i hc
  simp only[go_sem,e1,htk,hz2]
  refine⟨⟨zA,zA⟩,zA,?_⟩
  try simp only[go_sem]
  have hlen:((((d.tys.map (fun t:Td=>t.nm))++d.cus.map (fun c:CuL=>c.c.nm))++(d.mas.take i).map (fun m:MpL=>m.nm)).map sC).length=(d.tys.length+d.cus.length)+i:=by rw[Kv,JM,hpl2];simp;omega
  have hsn:List.take ((d.tys.length+d.cus.length)+i) ((((d.tys.map (fun t:Td=>t.nm))++d.cus.map (fun c:CuL=>c.c.nm))++(d.mas.take i).map (fun m:MpL=>m.nm)).map sC)++[sC ((fun m:MpL=>m.nm) d.mas[i])]=(((d.tys.map (fun t:Td=>t.nm))++d.cus.map (fun c:CuL=>c.c.nm))++(d.mas.take (i+1)).map (fun m:MpL=>m.nm)).map sC:=by
   rw[JJ zA,wg (fun m:MpL=>m.nm) d.mas i hc]
  skip
  simp only[hlen,hsn,yu (i:=i)]
  refine⟨⟨zA,zA,zA⟩,?_⟩
  refine hb _ _ ⟨i+1,hc⟩ [(4,4),(6,152)] yL ?_
  try simp only[<-IC]
  exact zh
 have e1:decide ((i:Int)<(d.mas.length:Int))=false:=yZ zA
 have hc:i=d.mas.length:=zA
 subst hc
 clear hb
 rw[JY]
 simp only[go_sem,e1]
 refine CallQ.hr [(1,160)] 161 (hnam _ hH) (Hp.le.refl _) ClM.nil rfl rfl trivial rfl (.inl rfl) ?_
 simp only[Mem.ren,Ky,Kz,yD (y8 _),V.ren,Cv.ren,rn,Nat.reduceBEq,cond_true,cond_false]
 refine vv ?_
 have hlA:((d.tys.map (fun t:Td=>t.nm)++d.cus.map (fun c:CuL=>c.c.nm)++d.mas.map (fun m:MpL=>m.nm)).map sC).length=d.tys.length+d.cus.length+d.mas.length:=by simp;omega
 have hlS:((zU d.c).map sC).length=(zU d.c).length:=Kv _
 have hall:List.take (d.tys.length+d.cus.length+d.mas.length) ((d.tys.map (fun t:Td=>t.nm)++d.cus.map (fun c:CuL=>c.c.nm)++d.mas.map (fun m:MpL=>m.nm)).map sC)++List.take (zU d.c).length ((zU d.c).map sC)=(pm d.c).map sC:=by
  rw[JJ zA,JJ zA,<-JN]
  unfold pm
  congr 2
  simp[DgL.c,MpL.c]
  rfl
 have hln:d.tys.length+d.cus.length+d.mas.length+(zU d.c).length=(pm d.c).length:=by
  have:=congrArg List.length hall
  simp only[JM,IY,Kv]at this
  simp only[JM,Kv]at hlA
  omega
 refine⟨⟨zA,⟨zA,?_⟩,zA,zA⟩,?_⟩
 ·rw[JJ zA];simp[Cv.one,Value.oneCell']
 simp only[hall,hln]
 refine CallQ.hr [(1,161)] 170 (W0 (H:=H) (pm d.c) zA) hH (ClM.v (by simp only[Kw,y8];rfl)) rfl rfl ⟨⟨_,rfl,fi (y8 _)⟩,trivial⟩ rfl (.inr rfl) (vv ?_)
 exact yN (hR C hL) ClM.nil
def lk (d:Dg):Option (Str×Int):=match rN [] (pm d)with
 |some s=>some (s,8)
 |none=>(zu (u9 d.tys) d.ins).or ((zu (ub d.tys d.cus d.mas (zU d)) d.bls).or ((tQ (zU d) [] d.ous).or (zu (tf d) d.bls)))
theorem rz {α:Type}{f:α->Option (Str×Int)}:∀{l:List α},zu f l=none->∀x∈l,f x=none
 |[],_,x,h=>by cases h
 |y::l,h,x,hx=>by
  rw[yc]at h
  cases hy:f y with
  |some z=>rw[hy]at h;cases h
  |none=>
   rw[hy]at h
   rcases J3.1 hx with rfl|hx
   ·exact hy
   ·exact rz h x hx
theorem tg {α β:Type}(g:α->β)(f:β->Option (Str×Int)):∀l:List α,zu f (l.map g)=zu (fun x=>f (g x)) l
 |[]=>rfl
 |x::l=>by rw[Ky,yc,yc,tg g f l]
theorem sV {α:Type}{f:α->Option (Str×Int)}(h:∀x y,f x=some y->y.2≠0):∀{l:List α} {y:Str×Int},zu f l=some y->y.2≠0
 |[],y,hy=>by cases hy
 |x::l,y,hy=>by
  rw[yc]at hy
  cases hx:f x with
  |some z=>rw[hx]at hy;cases hy;exact h x y hx
  |none=>rw[hx]at hy;exact sV h hy
theorem Xh (l:List Td)(p:Po)(y:Str×Int)(h:u9 l p=some y):y.2≠0:=by
 unfold u9 at h
 split at h
 ·cases h;simp
 ·split at h
  ·cases h;simp
  ·cases h
theorem WR (a:List Td)(b:List Cu)(c:List Mp)(s:List Str)(x:Bl)(y:Str×Int)(h:ub a b c s x=some y):y.2≠0:=by
 unfold ub at h
 split at h
 ·cases h;simp
 ·split at h
  ·cases h;simp
  ·split at h
   ·cases h;simp
   ·cases h
theorem Xt (d:Dg)(x:Bl)(y:Str×Int)(h:tf d x=some y):y.2≠0:=by
 unfold tf at h
 split at h
 ·cases h;simp
 ·split at h
  ·cases h;simp
  ·cases h
theorem ea (sg:List Str):∀(l seen:List Str) (y:Str×Int),tQ sg seen l=some y->y.2≠0
 |[],_,y,h=>by cases h
 |s::l,seen,y,h=>by
  rw[tQ]at h
  split at h
  ·cases h;simp
  ·split at h
   ·cases h;simp
   ·exact ea sg l _ y h
theorem NU {H:Hp}{cp:Value}{d:DgL}{bT bC' bM bS:Nat}(k:Ck H cp d bT bC' bM bS)(hv:sY d.c=true):
  CallH H HT 49 [.c (.v cp)] (Wd (lk d.c)):=by
 have hv':=hv
 unfold sY at hv'
 simp only[JB,decide_eq_true_eq,JD]at hv'
 obtain⟨_,⟨b1,b2,b3,b4,b5⟩,b6,_,_,_,_,hbo,_⟩:=hv'
 simp only[DgL.c,Kv]at b1 b2 b3 b4 b5 b6
 have hbok:∀b∈d.bls,xj b.c=true:=fun b hb=>hbo b.c (List.mem_map_of_mem hb)
 have hil:∀b∈d.bls,b.c.ins.length<=1000000:=fun b hb=>by
  have h1:=hbok b hb
  unfold xj at h1
  cases hq:ym b.c.kd with
  |none=>rw[hq]at h1;cases h1
  |some q=>
   obtain⟨a,n,t⟩:=q
   rw[hq]at h1
   simp only[JB,decide_eq_true_eq]at h1
   have hm:=vl hq
   have:∀r∈kindT,r.2.1<=3:=yp
   have:=this _ hm
   simp only at this
   omega
 have c1:=Yh k zA zA zA
 have c2:=aV k
 have c3:=ZE k hil
 have c4:=eZ k zA
 have eB:zu (ub d.c.tys d.c.cus d.c.mas (zU d.c)) d.c.bls=zu (fun b:BlL=>ub d.tys d.c.cus d.c.mas (zU d.c) b.c) d.bls:=tg BlL.c _ d.bls
 have eF:zu (tf d.c) d.c.bls=zu (fun b:BlL=>tf d.c b.c) d.bls:=tg BlL.c _ d.bls
 rw[<-eB]at c3
 have c5:zu (ub d.c.tys d.c.cus d.c.mas (zU d.c)) d.c.bls=none->CallH H HT 119 [.c (.v cp)] (Wd (zu (tf d.c) d.c.bls)):=fun hn=>by
  rw[eF]
  refine dj k hbok fun b hb s hs=>?_
  have h1:=rz hn b.c (List.mem_map_of_mem hb)
  unfold ub at h1
  split at h1
  ·cases h1
  ·split at h1
   ·cases h1
   ·rename_i hq
    unfold rP at hq
    rw[I7]at hq
    simpa using hq s hs
 have eI:zu (u9 d.c.tys) d.c.ins=zu (u9 d.tys) d.ins:=rfl
 have eO:d.c.ous=d.ous:=rfl
 have hal:lk d.c=match rN [] (pm d.c)with
  |some s=>some (s,8)
  |none=>(zu (u9 d.tys) d.ins).or ((zu (ub d.c.tys d.c.cus d.c.mas (zU d.c)) d.c.bls).or ((tQ (zU d.c) [] d.ous).or (zu (tf d.c) d.c.bls))):=rfl
 have n2:∀y,zu (u9 d.tys) d.ins=some y->y.2≠0:=fun y h=>sV (Xh d.tys) h
 have n3:∀y,zu (ub d.c.tys d.c.cus d.c.mas (zU d.c)) d.c.bls=some y->y.2≠0:=fun y h=>sV (WR _ _ _ _) h
 have n4:∀y,tQ (zU d.c) [] d.ous=some y->y.2≠0:=fun y h=>ea _ _ _ y h
 have n5:∀y,zu (tf d.c) d.c.bls=some y->y.2≠0:=fun y h=>sV (Xt _) h
 generalize rN [] (pm d.c)=q1 at*
 generalize zu (u9 d.tys) d.ins=q2 at*
 generalize zu (ub d.c.tys d.c.cus d.c.mas (zU d.c)) d.c.bls=q3 at*
 generalize tQ (zU d.c) [] d.ous=q4 at*
 generalize zu (tf d.c) d.c.bls=q5 at*
 rw[hal]
 obtain⟨b0,o0,rfl,c0,el0,mk0,hc0,hcc⟩:=PtH.at k.c.p
 refine kH func49 O8 ntmps49 fun C hR hP hH hL=>?_
 refine zB 100 (vv ?_)
 refine zM 110 c1 hH rfl (vv ?_)
 cases q1 with
 |some s=>exact yN (hR C hL) ClM.nil
 |none=>
  refine zB 120 (vv ?_)
  refine uW rfl rfl ⟨[],_,fun _=>Stp.bound rfl rfl,.inl rfl,?_⟩
  refine zB 120 (vv ?_)
  refine uW rfl rfl ⟨[],_,fun _=>Stp.bound rfl rfl,.inl rfl,?_⟩
  refine zB 120 (vv ?_)
  refine uW rfl rfl ⟨[],_,fun _=>Stp.bound rfl rfl,.inl rfl,?_⟩
  refine zB 120 (vv ?_)
  refine uW rfl rfl ⟨[],_,fun _=>Stp.bound rfl rfl,.inl rfl,?_⟩
  refine zB 120 (vv ?_)
  refine zf 5 (zB 130 ?_)
  refine vv ?_
  refine z4 140 rfl rfl (.inl rfl) (fun _=>StpC.callB c2 hH rfl rfl) (vv ?_)
  cases q2 with
  |some y=>
   obtain⟨ys,ye⟩:=y
   have hy:(ye !=0)=true:=by simpa using n2 _ rfl
   simp only[go_sem,Jj,Option.getD_some,hy]
   exact yN (hR C hL) ClM.nil
  |none=>
  simp only[go_sem,Option.map_none,Option.getD_none]
  refine z4 140 rfl rfl (.inl rfl) (fun _=>StpC.callB c3 hH rfl rfl) (vv ?_)
  cases q3 with
  |some y=>
   obtain⟨ys,ye⟩:=y
   have hy:(ye !=0)=true:=by simpa using n3 _ rfl
   simp only[go_sem,Jj,Option.getD_some,hy]
   exact yN (hR C hL) ClM.nil
  |none=>
  simp only[go_sem,Option.map_none,Option.getD_none]
  refine z4 140 rfl rfl (.inl rfl) (fun _=>StpC.callB c4 hH rfl rfl) (vv ?_)
  cases q4 with
  |some y=>
   obtain⟨ys,ye⟩:=y
   have hy:(ye !=0)=true:=by simpa using n4 _ rfl
   simp only[go_sem,Jj,Option.getD_some,hy]
   exact yN (hR C hL) ClM.nil
  |none=>
  simp only[go_sem,Option.map_none,Option.getD_none]
  refine z4 140 rfl rfl (.inl rfl) (fun _=>StpC.callB (c5 rfl) hH rfl rfl) (vv ?_)
  cases q5 with
  |some y=>
   obtain⟨ys,ye⟩:=y
   have hy:(ye !=0)=true:=by simpa using n5 _ rfl
   simp only[go_sem,Jj,Option.getD_some,hy]
   exact yN (hR C hL) ClM.nil
  |none=>
  simp only[go_sem,Option.map_none,Option.getD_none]
  exact yN (hR C hL) ClM.nil
abbrev cu (n:Int):Cv:= .v (.int .u64 n)
def wd (x:Int):V:= .agg [cu (x/18446744073709551616%18446744073709551616),cu (x%18446744073709551616)]
theorem fj {a b x:Int}(h1:a=x/18446744073709551616%18446744073709551616)(h2:b=x%18446744073709551616):V.agg [cu a,cu b]=wd x:=by rw[h1,h2];rfl
theorem rY (x:Int):ClV [] (wd x):=fun _ _ _=>rfl
theorem fh (x:Nat)(h:x<18446744073709551616):18446744073709551615 ^^^ x=18446744073709551615-x:=by
 have h1:(BitVec.allOnes 64 ^^^ BitVec.ofNat 64 x)= ~~~ (BitVec.ofNat 64 x):=BitVec.allOnes_xor
 have h2:=congrArg BitVec.toNat h1
 rw[BitVec.toNat_xor,BitVec.toNat_not,BitVec.toNat_ofNat,BitVec.toNat_allOnes,Nat.mod_eq_of_lt h]at h2
 exact h2
theorem jn (x:Nat)(h:x<9223372036854775808):x ^^^ 9223372036854775808=9223372036854775808+x:=by
 apply Nat.eq_of_testBit_eq
 intro i
 rw[Nat.testBit_xor,show(9223372036854775808:Nat)=2^63 by decide]
 rcases Nat.lt_trichotomy i 63 with hi|hi|hi
 ·rw[Nat.testBit_two_pow_add_gt hi,Nat.testBit_two_pow_of_ne zA];simp
 ·subst hi
  rw[Nat.testBit_two_pow_add_eq,Nat.testBit_two_pow_self]
  simp
 ·rw[Nat.testBit_two_pow_of_ne zA,Nat.testBit_lt_two_pow (J1 h (HD (n:=2) zA (show 63<=i by omega)))]
  rw[Nat.testBit_lt_two_pow]
  ·rfl
  ·have:=HD (n:=2) zA (show 64<=i by omega)
   omega
theorem Zo (a:Int)(h0:0<=a)(h1:a<18446744073709551616):bits .xor .u64 (if IntKind.u64.signed=true then-1 else IntKind.u64.max) a=18446744073709551615-a:=by
 have e:(if IntKind.u64.signed=true then-1 else IntKind.u64.max)=18446744073709551615:=yp
 rw[e]
 have k:bits .xor .u64 18446744073709551615 a=((18446744073709551615 ^^^ a.toNat:Nat):Int):=by go_bits2
 rw[k,fh _ zA]
 omega
theorem Z9 (a:Int)(h0:0<=a)(h1:a<18446744073709551616):bits .xor .u64 a 9223372036854775808=if a<9223372036854775808 then a+9223372036854775808 else a-9223372036854775808:=by
 have k:bits .xor .u64 a 9223372036854775808=((a.toNat ^^^ 9223372036854775808:Nat):Int):=by go_bits2
 rw[k]
 split
 ·rw[jn _ zA];omega
 ·have e:a.toNat=(a.toNat-9223372036854775808) ^^^ 9223372036854775808:=by rw[jn _ zA];omega
  rw[e,Nat.xor_assoc,Nat.xor_self,Nat.xor_zero]
  omega
theorem cV (x y c:Int)(hx:0<=x)(hy:0<=y)(hc:0<=c)(hc1:c<=1):pu HT 286 [U x,U y,U c] (.tup [Wu ((x+y+c)%18446744073709551616),Wu ((x+y+c)/18446744073709551616)]):=by
 intro β w
 have h:=run_callFunc_extern (e:=add64Entry) func286 (by kernel_rfl) (by kernel_rfl) (by kernel_rfl) (by kernel_rfl) #[.int .u64 x,.int .u64 y,.int .u64 c] w
 rw[run_add64 x y c hx hy hc hc1]at h
 exact h
theorem iY (n:Int)(h1: -9223372036854775808<=n)(h2:n<=9223372036854775807):CallOk HT 236 [I n] [] (wd n) []:=by
 refine kO 100 func236 TX ntmps236 (by simp[ClV,V.g,Cv.g]) fun C hR=>?_
 refine vv ?_
 by_cases h:n<0
 ·have e:decide (n<0)=true:=by simpa using h
  simp only[e]
  refine RetQ.pure hR rfl (vv trivial) ?_ (rY _)
  refine vv ?_
  rw[wd,IntKind.wrap_u64,show n/18446744073709551616%18446744073709551616=18446744073709551615 by omega]
 ·have e:decide (n<0)=false:=by simpa using h
  simp only[e]
  refine RetQ.pure hR rfl (vv trivial) ?_ (rY _)
  refine vv ?_
  rw[wd,IntKind.wrap_u64,show n/18446744073709551616%18446744073709551616=0 by omega]
theorem Wy (x:Int):x.fdiv (2^min 63 64)=x/9223372036854775808:=by
 rw[show(2:Int)^min 63 64=9223372036854775808 from rfl]
 exact Js x zA
theorem oe (x:Int)(h1: -170141183460469231731687303715884105728<=x)(h2:x<170141183460469231731687303715884105728):CallOk HT 274 [wd x] [] (Bo (decide (x<0))) []:=by
 refine kO 100 func274 Uo ntmps274 (by simp[ClV,V.g,Cv.g,wd]) fun C hR=>?_
 simp only[wd]
 refine vv ?_
 refine zp hR ?_
 rw[Wy,JP]
 simp only[beq_iff_eq,decide_eq_true_eq]
 omega
theorem eo (x:Int):CallOk HT 275 [wd x] [] (wd (-x)) []:=by
 refine kO 100 func275 Um ntmps275 (by simp[ClV,V.g,Cv.g,wd]) fun C hR=>?_
 simp only[wd]
 refine vv ?_
 have hl0:0<=x%18446744073709551616:=zA
 have hl1:x%18446744073709551616<18446744073709551616:=zA
 have hh0:0<=x/18446744073709551616%18446744073709551616:=zA
 have hh1:x/18446744073709551616%18446744073709551616<18446744073709551616:=zA
 rw[Zo _ hl0 hl1]
 refine CallQ.ext 102 (cV _ _ _ zA zA zA zA) rfl (vv ?_)
 rw[Zo _ hh0 hh1]
 refine RetQ.pure hR rfl (vv trivial) ?_ (rY _)
 refine vv ?_
 rw[IntKind.wrap_u64]
 exact fj zA zA
theorem W1 (x y:Int):CallOk HT 285 [wd x,wd y] [] (wd (x+y)) []:=by
 refine kO 100 func285 Ud ntmps285 (by simp[ClV,V.g,Cv.g,wd]) fun C hR=>?_
 simp only[wd]
 refine vv ?_
 refine CallQ.ext 103 (cV _ _ _ zA zA zA zA) rfl (vv ?_)
 refine CallQ.ext 103 (cV _ _ _ zA zA zA zA) rfl (vv ?_)
 refine RetQ.pure hR rfl (vv trivial) ?_ (rY _)
 refine vv ?_
 exact fj zA zA
theorem Zx (x:Int):CallOk HT 287 [U x] [] (Bo false) []:=by
 refine kO 100 func287 Uc ntmps287 (by simp[ClV,V.g,Cv.g]) fun C hR=>?_
 refine vv ?_
 exact RetQ.bool hR rfl ⟨rfl,trivial⟩ z9
theorem Ro (x y:Int):CallOk HT 277 [U x,U y] [] (I (if x<y then-1 else if y<x then 1 else 0)) []:=by
 refine kO 100 func277 Uk ntmps277 (by simp[ClV,V.g,Cv.g,wd]) fun C hR=>?_
 refine vv ?_
 refine CallQ.pure 102 (Zx x) rfl (vv ?_)
 refine CallQ.pure 102 (Zx y) rfl (vv ?_)
 by_cases h:x<y
 ·have e:decide (x<y)=true:=by simpa using h
  simp only[e]
  exact RetQ.int hR rfl ⟨rfl,trivial⟩ (by rw[if_pos h])
 ·have e:decide (x<y)=false:=by simpa using h
  simp only[e]
  by_cases h2:y<x
  ·have e2:decide (y<x)=true:=by simpa using h2
   simp only[e2]
   exact RetQ.int hR rfl ⟨rfl,trivial⟩ (by rw[if_neg h,if_pos h2])
  ·have e2:decide (y<x)=false:=by simpa using h2
   simp only[e2]
   exact RetQ.int hR rfl ⟨rfl,trivial⟩ (by rw[if_neg h,if_neg h2])
theorem cQ (x y:Int)(h1: -170141183460469231731687303715884105728<=x)(h2:x<170141183460469231731687303715884105728)(h3: -170141183460469231731687303715884105728<=y)(h4:y<170141183460469231731687303715884105728):
  CallOk HT 238 [wd x,wd y] [] (Bo (decide (x<=y))) []:=by
 refine kO 100 func238 TV ntmps238 (by simp[ClV,V.g,Cv.g,wd]) fun C hR=>?_
 simp only[wd]
 refine vv ?_
 rw[Z9 _ zA zA,Z9 _ zA zA]
 generalize hp:(if x/18446744073709551616%18446744073709551616<9223372036854775808 then x/18446744073709551616%18446744073709551616+9223372036854775808 else x/18446744073709551616%18446744073709551616-9223372036854775808)=p
 generalize hq:(if y/18446744073709551616%18446744073709551616<9223372036854775808 then y/18446744073709551616%18446744073709551616+9223372036854775808 else y/18446744073709551616%18446744073709551616-9223372036854775808)=q
 have hp':p=x/18446744073709551616+9223372036854775808:=by rw[<-hp];split<;>omega
 have hq':q=y/18446744073709551616+9223372036854775808:=by rw[<-hq];split<;>omega
 refine CallQ.pure 102 (Ro p q) rfl (vv ?_)
 by_cases h:p<q
 ·rw[if_pos h]
  refine vv ?_
  refine zp hR ?_
  symm
  simp only[decide_eq_true_eq]
  omega
 ·rw[if_neg h]
  by_cases h':q<p
  ·rw[if_pos h']
   refine vv ?_
   refine zp hR ?_
   symm
   simp only[decide_eq_false_iff_not]
   omega
  ·rw[if_neg h']
   refine vv ?_
   refine zp hR ?_
   rw[decide_eq_decide]
   omega
theorem k9 {a m A B:Int}(hA:A=a/18446744073709551616*m)(hB:B=a%18446744073709551616*m):a*m=A*18446744073709551616+B:=by
 have:=HC a 18446744073709551616
 rw[hA,hB]
 generalize a/18446744073709551616=q at*
 generalize a%18446744073709551616=r at*
 rw[<-this]
 grind
theorem uy {a m y:Int}(hy:y=a*m)(ha:0<=a)(h2:a<170141183460469231731687303715884105728):
  V.agg [cu (IntKind.u64.wrap (a%18446744073709551616*m/18446744073709551616+IntKind.u64.wrap (a/18446744073709551616%18446744073709551616*m))),cu (a%18446744073709551616*m%18446744073709551616)]=wd y:=by
 have hm:=k9 (a:=a) (m:=m) rfl rfl
 rw[IntKind.wrap_u64,IntKind.wrap_u64,show a/18446744073709551616%18446744073709551616=a/18446744073709551616 by omega]
 generalize a/18446744073709551616*m=A at*
 generalize a%18446744073709551616*m=B at*
 exact fj zA zA
theorem xB (x n:Int)(h1: -170141183460469231731687303715884105728<x)(h2:x<170141183460469231731687303715884105728)(h3: -9223372036854775808<=n)(h4:n<=9223372036854775807):
  CallOk HT 237 [wd x,I n] [] (wd (x*n)) []:=by
 refine kO 100 func237 TW ntmps237 (by simp[ClV,V.g,Cv.g,wd]) fun C hR=>?_
 have hneg:=oe x zA zA
 unfold wd at hneg
 simp only[wd]
 refine vv ?_
 refine CallQ.pure 102 hneg rfl (vv ?_)
 refine CallQ.pure 102 hneg rfl (vv ?_)
 by_cases hx:x<0
 ·have ex:decide (x<0)=true:=by simp;omega
  simp only[ex]
  have hng:=eo x
  unfold wd at hng
  refine CallQ.pure 102 hng rfl (vv ?_)
  by_cases hn:n<0
  ·have en:decide (n<0)=true:=by simp;omega
   simp only[en]
   have wm:IntKind.u64.wrap (0-IntKind.u64.wrap n)= -n:=by rw[IntKind.wrap_u64,IntKind.wrap_u64];omega
   simp only[wm]
   refine CallQ.pure 102 (lE (-x%18446744073709551616) (-n) zA zA zA zA) rfl (vv ?_)
   skip
   refine RetQ.pure hR rfl (vv trivial) ?_ (rY _)
   refine vv ?_
   exact uy (a:= -x) (m:= -n) (by grind) zA zA
  ·have en:decide (n<0)=false:=by simp;omega
   simp only[en]
   have wm:IntKind.u64.wrap n=n:=gU zA zA
   simp only[wm]
   refine CallQ.pure 102 (lE (-x%18446744073709551616) (n) zA zA zA zA) rfl (vv ?_)
   refine CallQ.pure 103 (eo ((-x)*n)) (congrArg (fun z=>[some (true,z)]) (uy (a:= -x) (m:=n) rfl zA zA)) ?_
   simp only[wd]
   refine vv ?_
   refine RetQ.pure hR rfl (vv trivial) ?_ (rY _)
   refine vv ?_
   show wd _=wd _
   congr 1;grind
 ·have ex:decide (x<0)=false:=by simp;omega
  simp only[ex]
  by_cases hn:n<0
  ·have en:decide (n<0)=true:=by simp;omega
   simp only[en]
   have wm:IntKind.u64.wrap (0-IntKind.u64.wrap n)= -n:=by rw[IntKind.wrap_u64,IntKind.wrap_u64];omega
   simp only[wm]
   refine CallQ.pure 102 (lE (x%18446744073709551616) (-n) zA zA zA zA) rfl (vv ?_)
   refine CallQ.pure 103 (eo (x*(-n))) (congrArg (fun z=>[some (true,z)]) (uy (a:=x) (m:= -n) rfl zA zA)) ?_
   simp only[wd]
   refine vv ?_
   refine RetQ.pure hR rfl (vv trivial) ?_ (rY _)
   refine vv ?_
   show wd _=wd _
   congr 1;grind
  ·have en:decide (n<0)=false:=by simp;omega
   simp only[en]
   have wm:IntKind.u64.wrap n=n:=gU zA zA
   simp only[wm]
   refine CallQ.pure 102 (lE (x%18446744073709551616) (n) zA zA zA zA) rfl (vv ?_)
   skip
   refine RetQ.pure hR rfl (vv trivial) ?_ (rY _)
   refine vv ?_
   exact uy (a:=x) (m:=n) (by grind) zA zA
@[go_sem] def va (t:Ft)(r:Int):V:= .agg [ci t.bits,.v (.bool t.signed),ci t.num,ci t.off,ci t.den,ci t.m,ci t.kg,ci t.s,ci t.a,ci t.k,ci r]
@[go_sem] def rg (lo hi:Int):V:= .agg [ci lo,ci hi]
def ni (x:Int):Int:=x/18446744073709551616%18446744073709551616
def nf (x:Int):Int:=x%18446744073709551616
theorem ud (x:Int):wd x= .agg [cu (ni x),cu (nf x)]:=rfl
def UP (n d:Int):V:= .agg [cu (ni n),cu (nf n),cu (ni d),cu (nf d)]
theorem vH (t:Ft)(r:Int)(h:fok t=true)(hw:uc t r=true):CallOk HT 235 [va t r] [] (.tup [Wi (xG t r),Wi t.den]) []:=by
 have hb:=uq h hw
 refine kO 100 func235 TZ ntmps235 (by simp[ClV,V.g,Cv.g,va,ci]) fun C hR=>?_
 refine vv ?_
 refine Sm.dg 101 14 zi (vv ?_)
 refine zx hR rfl ⟨rfl,rfl,trivial⟩ ?_ rfl
 unfold xG at hb⊢
 rw[y6 (x:=r*t.num) zA zA,y6 zA zA]
def gw (t:Ft)(n d:Int):Int:=min (max (rnd 3 (n*t.den-t.off*d) (d*t.num)) (qT t)) (oI t)
theorem X8 (X Y m:Int)(hY:0<Y):m<=rnd 3 X Y↔Y*(2*m-1)<=2*X:=by
 unfold rnd
 simp only[Int.reduceEq,if_false]
 rw[Int.le_ediv_iff_mul_le zA]
 have:Y*(2*m-1)=m*(2*Y)-Y:=by grind
 omega
structure ResSt (t:Ft) (X Y:Int) where
 lo:Int
 hi:Int
 h1:lo<=hi
 h2: -2147483648<=lo
 h3:hi<=4294967295
 hr:min (max (rnd 3 X Y) lo) hi=min (max (rnd 3 X Y) (qT t)) (oI t)
def MB (lo hi:Int):Env:=[(7,true,I lo),(8,true,I hi),(2,true,.c (.p 100 0)),(3,true,.c (.p 101 0)),(4,true,.c (.p 102 0)),(5,true,.c (.p 103 0)),(6,true,.c (.p 104 0))]
def Nz (t:Ft)(n d X Y:Int):Mem:=[(104,⟨false,[cu (ni Y),cu (nf Y)],295⟩),(103,⟨false,[cu (ni (2*X)),cu (nf (2*X))],295⟩),(102,⟨false,[ci 0,.v (.bool false),ci 0,ci 0,ci 0,ci 0,ci 0,ci 0,ci 0,ci 0,ci 0],246⟩),(101,⟨false,[ci t.bits,.v (.bool t.signed),ci t.num,ci t.off,ci t.den,ci t.m,ci t.kg,ci t.s,ci t.a,ci t.k],55⟩),
 (100,⟨false,[cu (ni n),cu (nf n),cu (ni d),cu (nf d)],324⟩)]
theorem wE {a b A B:Int}(h1: -A<=a)(h2:a<=A)(h3: -B<=b)(h4:b<=B): -(A*B)<=a*b/\a*b<=A*B:=by
 rcases Ix b 0 with h|h
 ·have:=jI (a:=a) (b:= -b) (A:=A) (B:=B) h1 h2 zA zA
  rw[IQ]at this
  omega
 ·exact jI h1 h2 h h4
theorem tB (t:Ft)(n d:Int)(h:fok t=true)(hn1: -20282419275553370000000000000000<=n)(hn2:n<=20282419275553370000000000000000)(hd1:1<=d)(hd2:d<=4722367608777000000000):CallOk HT 270 [UP n d,fx t] [] (va t (gw t n d)) []:=by
 have hf:=vY h
 have hl:=pY t h
 have hw64:IntKind.i64.wrap (0-t.off)= -t.off:=by rw[y6 zA zA];omega
 have b1:=wE (a:=n) (b:=t.den) (A:=20282419275553370000000000000000) (B:=1048576) zA zA zA zA
 have b2:=wE (a:=d) (b:= -t.off) (A:=4722367608777000000000) (B:=1073741824) zA zA zA zA
 have b3:=wE (a:=d) (b:=t.num) (A:=4722367608777000000000) (B:=1048576) zA zA zA zA
 have hX:n*t.den+d* -t.off=n*t.den-t.off*d:=by rw[IQ,HQ d t.off];omega
 refine kO 100 func270 Us ntmps270 (by simp[ClV,V.g,Cv.g,fx,UP,ci]) fun C hR=>?_
 simp only[UP]
 refine vv ?_
 refine Sm.dg 103 14 zi (vv ?_)
 refine DCallQ.pure 103 (xB n t.den zA zA zA zA) rfl (vv ?_)
 rw[hw64]
 refine DCallQ.pure 103 (xB d (-t.off) zA zA zA zA) rfl (vv ?_)
 refine DCallQ.pure 103 (W1 (n*t.den) (d* -t.off)) rfl (vv ?_)
 refine DCallQ.pure 103 (xB (n*t.den+d* -t.off) 2 zA zA zA zA) rfl ?_
 rw[hX,HQ _ 2]
 simp only[ud]
 refine vv ?_
 refine CallQ.pure 104 (xB d t.num zA zA zA zA) rfl ?_
 simp only[ud]
 refine vv ?_
 refine CallQ.pure 105 (dI t h) rfl (vv ?_)
 unfold gw at hR
 generalize hXX:n*t.den-t.off*d=X at*
 generalize hYY:d*t.num=Y at*
 have hY:0<Y:=by rw[<-hYY];exact Int.mul_pos zA zA
 refine zK (M0:=[]) (α:=ResSt t X Y) (Pins.nil rfl hR) (fun x=>MB x.lo x.hi) (fun _=>Nz t n d X Y) (fun x=>(x.hi-x.lo).toNat) ⟨qT t,oI t,zA,zA,zA,rfl⟩
  (fun _=>zD rfl) (fun _=>zO rfl) [(100,100),(101,101),(102,102),(103,103),(104,104)] ?_ ?_
 ·exact zh
 rintro⟨lo,hi,h1,h2,h3,hr⟩ J hb
 simp only at hb⊢
 refine zB 105 ?_
 simp only[MB,Nz]
 refine vv ?_
 by_cases hlt:lo<hi
 ·have e:decide (lo<hi)=true:=by simpa using hlt
  simp only[e]
  have m1:IntKind.i64.wrap (hi-lo)=hi-lo:=y6 zA zA
  have m2:IntKind.i64.wrap (hi-lo+1)=hi-lo+1:=y6 zA zA
  have m3:IntKind.i64.wrap ((hi-lo+1).tdiv 2)=(hi-lo+1)/2:=by rw[IL zA,y6 zA zA]
  have m4:IntKind.i64.wrap (lo+(hi-lo+1)/2)=lo+(hi-lo+1)/2:=y6 zA zA
  simp only[m1,m2,m3,m4]
  generalize hmid:lo+(hi-lo+1)/2=mid
  have hm1:lo<mid:=zA
  have hm2:mid<=hi:=zA
  clear m1 m2 m3 m4
  refine Sm.dg 105 7 zi (vv ?_)
  have k1:IntKind.i64.wrap (2*mid)=2*mid:=y6 zA zA
  have k2:IntKind.i64.wrap (2*mid-1)=2*mid-1:=y6 zA zA
  simp only[k1,k2]
  have b4:=wE (a:=Y) (b:=2*mid-1) (A:=5000000000000000000000000000) (B:=8589934592) zA zA zA zA
  refine DCallQ.pure 105 (xB Y (2*mid-1) zA zA zA zA) rfl (vv ?_)
  refine DCallQ.pure 105 (cQ (Y*(2*mid-1)) (2*X) zA zA zA zA) rfl (vv ?_)
  have hiff:=X8 X Y mid hY
  by_cases hc:Y*(2*mid-1)<=2*X
  ·have e2:decide (Y*(2*mid-1)<=2*X)=true:=by simpa using hc
   simp only[e2]
   have:=hiff.2 hc
   refine hb _ _ ⟨mid,hi,zA,zA,zA,zA⟩ [(100,100),(101,101),(102,102),(103,103),(104,104)] yL
    zh
  ·have e2:decide (Y*(2*mid-1)<=2*X)=false:=by simpa using hc
   simp only[e2]
   have:¬mid<=rnd 3 X Y:=fun hh=>hc (hiff.1 hh)
   have k3:IntKind.i64.wrap (mid-1)=mid-1:=y6 zA zA
   simp only[k3]
   refine hb _ _ ⟨lo,mid-1,zA,zA,zA,zA⟩ [(100,100),(101,101),(102,102),(103,103),(104,104)] yL
    zh
 ·have e:decide (lo<hi)=false:=by simpa using hlt
  simp only[e]
  refine RetQ.pure hR rfl (vv trivial) ?_ (zG rfl)
  refine vv ?_
  rw[show min (max (rnd 3 X Y) (qT t)) (oI t)=lo by omega]
end Go.Proofs.YtbnkiacicnnmkaaGreat.Fx
