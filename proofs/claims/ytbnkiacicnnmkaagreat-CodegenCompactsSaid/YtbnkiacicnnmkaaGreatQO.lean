/-  -/
import Derived.Test.YtbnkiacicnnmkaaGreatQM
set_option linter.unusedSimpArgs false
set_option linter.unusedVariables false
set_option maxRecDepth 100000
set_option maxHeartbeats 4000000
namespace Go.Proofs.YtbnkiacicnnmkaaGreat.Fx
open Vg Tf
@[go_sem ↓] theorem Q1:rm 1 2=[(0,2)]:=rfl
@[go_sem ↓] theorem VP:rm 1 10=[(0,10)]:=rfl
def mR:Bl:=⟨[],[],[],[],[],[]⟩
def uv (d:Dg)(rs:List (Int×Int))(b:Bl):List (Int×Int):=b.ins.map fun s=>rs.getD (wv (zU d) s) (0,0)
def se (d:Dg)(b:Bl):List Ft:=b.ins.map fun s=>xb d (wv (zU d) s)
def vd (d:Dg)(T:Bl->List (Int×Int)->Int×Int)(rs st:List (Int×Int))(i:Nat):(Int×Int)×Int:=
 yT (yG d.tys (d.bls.getD i mR).ty) (d.bls.getD i mR) (uv d rs (d.bls.getD i mR)) (se d (d.bls.getD i mR)) (st.getD i (0,0)) (T (d.bls.getD i mR) (uv d rs (d.bls.getD i mR)))
def yl (d:Dg)(T:Bl->List (Int×Int)->Int×Int)(st:List (Int×Int)):List Nat->List (Int×Int)->List (Int×Int)×Option (Str×Int)
 |[],rs=>(rs,none)
 |i::l,rs=>bif (vd d T rs st i).2==0 then yl d T st l (rs.set (d.ins.length+i) (vd d T rs st i).1)else(rs,some ((d.bls.getD i mR).nm,(vd d T rs st i).2))
def PI (rs st:List (Int×Int))(od:List Nat):Mem:=[(2,⟨false,zC (rs.map ya),129⟩),(3,⟨true,zC (st.map ya),129⟩),(4,⟨true,od.map nC,3⟩)]
@[reducible] def Lb (r:Option (Str×Int)):V:= .tup [Ws (r.getD ([],0)).1,Wi (r.getD ([],0)).2]
theorem nS {d:DgL}{s:Str}(h:mb (zU d.c) s=true):wv (zU d.c) s<d.ins.length+d.bls.length:=by
 unfold mb at h
 obtain⟨i,hi⟩:=JE.1 h
 have:=sP s _ 0 i hi
 have e:wv (zU d.c) s=i:=by unfold wv;rw[hi];rfl
 rw[e,<-ve d];omega
theorem ZQ {b:Bl}(h:xj b=true):b.ins.length<=3:=by
 have hq:∃q,ym b.kd=some q:=by
  have h1:=h
  unfold xj at h1
  cases hq:ym b.kd with
  |none=>rw[hq]at h1;cases h1
  |some q=>exact⟨q,rfl⟩
 obtain⟨q,hq⟩:=hq
 have hm:=vl hq
 unfold xj at h
 rw[hq]at h
 simp only[JB,decide_eq_true_eq]at h
 have:∀x∈kindT,x.2.1<=3:=yp
 have:=this _ hm
 simp only at this
 omega
theorem vh (l:List (Int×Int))(i:Nat)(h:i<l.length):((zC (l.map ya)).drop (i*2)).take 2=[Cv.v (.int .i64 (l.getD i (0,0)).1),Cv.v (.int .i64 (l.getD i (0,0)).2)]:=by
 rw[zW (r:=ya) (k:=2) (fun _=>rfl) l i h,Kx,JA h];rfl
theorem vE:∀(l:List (Int×Int)) (i:Nat) (a:Int×Int),((zC (l.map ya)).set (i*2) (Cv.v (.int .i64 a.1))).set (i*2+1) (Cv.v (.int .i64 a.2))=zC ((l.set i a).map ya)
 |[],i,a=>by simp[zC]
 |x::l,0,a=>by simp[zC,ya]
 |x::l,i+1,a=>by
  have ih:=vE l i a
  have e:∀l:List (Int×Int),zC ((x::l).map ya)=[Cv.v (.int .i64 x.1),Cv.v (.int .i64 x.2)]++zC (l.map ya):=fun l=>by rw[Ky,zj];rfl
  rw[List.set_cons_succ,e,e,<-ih]
  have e1:(i+1)*2=i*2+1+1:=zA
  rw[e1];rfl
theorem jW {n:Nat}{b b':Bk}{r:Mem}(k:Nat):Mem.get ((n,b)::(n,b')::r) k=Mem.get ((n,b)::r) k:=by
 simp only[zE]
 by_cases h:k=n
 ·simp[h]
 ·simp[h]
theorem vQ {n:Nat}{b b':Bk}{r M:Mem}(h:Sub ((n,b)::r) M):Sub ((n,b)::(n,b')::r) M:=fun k c hk=>h k c (by rw[<-jW (b':=b')];exact hk)
theorem v5 {n:Nat}{b b':Bk}{r:Mem}(h:ClM ((n,b)::r)):ClM ((n,b)::(n,b')::r):=fun β β' hag k c hk=>
 h β β' (fun k hn=>hag k (by rw[jW];exact hn)) k c (by rw[<-jW (b':=b')];exact hk)
theorem Yw {H:Hp}{cp:Value}{d:DgL}{bT bC' bM bS:Nat}(k:Ck H cp d bT bC' bM bS)(hok:∀b∈d.bls,xj b.c=true)(hin:∀b∈d.bls,∀s∈b.c.ins,mb (zU d.c) s=true)(T:Bl->List (Int×Int)->Int×Int)
  (hT:∀b∈d.bls,gZ b.c.kd=true->∀rs:List (Int×Int),rs.length=b.c.ins.length->CallX H Tryz.prog 256 [.c (.v cp),z3 b.r,.c (.sl 1 0 rs.length 2)] [(1,⟨true,zC (rs.map ya),129⟩)] (fun _:Unit=>rA (T b.c rs)) (fun _=>[]) (fun _ _=>True))
  (rs st:List (Int×Int)) (od:List Nat) (h1:rs.length=d.ins.length+d.bls.length) (h2:st.length=d.bls.length) (h3:∀o∈od,o<d.bls.length) (h4:od.length<=1000000):
  CallX H Tryz.prog 124 [.c (.v cp),.c (.sl 4 0 od.length 1),.c (.sl 2 0 rs.length 2),.c (.sl 3 0 st.length 2)] (PI rs st od) (fun _:Unit=>Lb (yl d.c T st od rs).2) (fun _=>[(2,⟨false,zC ((yl d.c T st od rs).1.map ya),129⟩)]) (fun _ _=>True):=by
 have hn1:=k.n1
 have hn2:=k.n2
 obtain⟨ca,rfl⟩:=uX k.c.p
 unfold PI
 refine kX Tryz.func124 RG Tryz.ntmps124 fun C hR hP hH hL=>?_
 have hR:=hR () C hL trivial
 have hpt:=k.c.p.mono hH
 refine zB 100 (vv ?_)
 refine zX 1 191 21 hpt rfl rfl (zB 110 ?_)
 refine vv ?_
 have hms:∀r:List (Int×Int),ClM [(2,⟨false,zC (r.map ya),129⟩),(3,⟨true,zC (st.map ya),129⟩),(4,⟨true,od.map nC,3⟩)]:=fun r=>zD (by simp only[Kw,iR,z6 (xU _)];rfl)
 refine zK (M0:=[(2,⟨false,zC (rs.map ya),129⟩),(3,⟨true,zC (st.map ya),129⟩),(4,⟨true,od.map nC,3⟩)]) (α:={q:Nat×List (Int×Int)//q.1<=od.length/\q.2.length=rs.length/\yl d.c T st od rs=yl d.c T st (od.drop q.1) q.2}) hP (fun q=>[(0,true,.c (.v (.pointer ca))),(2,true,.c (.sl 2 0 rs.length 2)),(3,true,.c (.sl 3 0 st.length 2)),(10,true,I d.ins.length),(27,true,.c (.sl 4 0 od.length 1)),(28,true,I od.length),(29,true,I q.val.1)])
  (fun q=>[(2,⟨false,zC (q.val.2.map ya),129⟩),(3,⟨true,zC (st.map ya),129⟩),(4,⟨true,od.map nC,3⟩)]) (fun q=>od.length-q.val.1) ⟨(0,rs),zA,rfl,rfl⟩ (fun q=>hms q.val.2) (fun _=>zO rfl) [(2,2),(3,3),(4,4)] ?_ ?_
 ·exact zh
 rintro⟨⟨i,rq⟩,hi,hlq,hx⟩ J hj
 simp only at hj hi hx hlq⊢
 refine zB 120 (vv ?_)
 refine zV (fun hc=>?_) (fun hc=>?_)
 ·have hc:=zH hc
  have ho:=h3 _ (JH hc)
  have hdr:od.drop i=od[i]::od.drop (i+1):=JC hc
  simp only[go_sem,jX hc]
  refine⟨⟨zA,zA⟩,?_⟩
  rw[hdr]at hx
  generalize od[i]=o at*
  refine zX 1 191 33 hpt rfl rfl (zB 120 ?_)
  refine vv ?_
  refine Sm.bringR 5 64 37 (k.o.bl.mono hH) rfl rfl ?_
  have hl2:(d.bls.map BlL.r).length=d.bls.length:=Kv _
  rw[hl2]
  refine zB 120 ?_
  have htk:=zW (r:=BlL.r) (k:=6) (fun _=>rfl) d.bls o ho
  have hz5:=zQ (r:=BlL.r) (k:=6) (fun _=>rfl) d.bls
  simp only[go_sem,htk,hz5]
  refine⟨⟨zA,zA⟩,zA,?_⟩
  have hmem:d.bls[o]∈d.bls:=JH ho
  have hbo:=k.o.bls _ hmem
  have hbk:=hok _ hmem
  have hbi:=hin _ hmem
  have hTb:=hT _ hmem
  have hgd:d.c.bls.getD o mR=d.bls[o].c:=by
   show(d.bls.map BlL.c).getD o mR=_
   rw[Kx,JO,JA ho];rfl
  have hst:vd d.c T rq st o=yT (yG d.tys d.bls[o].c.ty) d.bls[o].c (uv d.c rq d.bls[o].c) (se d.c d.bls[o].c) (st.getD o (0,0)) (T d.bls[o].c (uv d.c rq d.bls[o].c)):=by
   unfold vd;rw[hgd];rfl
  rw[yl,hst,hgd]at hx
  generalize d.bls[o]=b at*
  have hil:=ZQ hbk
  refine Sm.bringS 11 9 42 (hbo.i.mono hH) rfl rfl ?_
  refine x9 140 2 129 [14] [] rfl (vv ?_)
  refine x9 141 10 55 [15] [] rfl (vv ?_)
  have htyn:=fun s hs=>qK k (wv (zU d.c) s) (nS (hbi s hs))
  have hlt:=fun s hs=>nS (hbi s hs)
  have hAR:uv d.c rq b.c=b.c.ins.map (fun s=>rq.getD (wv (zU d.c) s) (0,0)):=rfl
  have hAT:se d.c b.c=b.c.ins.map (fun s=>xb d.c (wv (zU d.c) s)):=rfl
  have hra:=fun s hs=>vh rq (wv (zU d.c) s) (by have:=hlt s hs;omega)
  have hrz:=zQ (r:=ya) (k:=2) (fun _=>rfl) rq
  refine zK (M0:=[(2,⟨false,zC (rs.map ya),129⟩),(3,⟨true,zC (st.map ya),129⟩),(4,⟨true,od.map nC,3⟩)]) (α:={j:Nat//j<=b.c.ins.length}) hP (fun j=>[(0,true,.c (.v (.pointer ca))),(2,true,.c (.sl 2 0 rs.length 2)),(3,true,.c (.sl 3 0 st.length 2)),(10,true,I d.ins.length),(12,true,I o),(13,true,.c (.p 13 0)),(14,true,.c (.sl 6 0 j.val 2)),(15,true,.c (.sl 7 0 j.val 10)),(27,true,.c (.sl 4 0 od.length 1)),(28,true,I od.length),(29,true,I i),(42,true,.c (.sl 11 0 b.c.ins.length 1)),(43,true,I b.c.ins.length),(44,true,I j.val)])
   (fun j=>[(2,⟨false,zC (rq.map ya),129⟩),(3,⟨true,zC (st.map ya),129⟩),(4,⟨true,od.map nC,3⟩),(6,⟨false,zC (((uv d.c rq b.c).take j.val).map ya),129⟩),(7,⟨false,zC (((se d.c b.c).take j.val).map xN),55⟩),(11,⟨true,b.c.ins.map sC,9⟩),(13,⟨false,b.r.map .v,64⟩)]) (fun j=>b.c.ins.length-j.val) ⟨0,zA⟩ (fun j=>zD (by simp only[Kw,iR,z6 (xU _),z6 (y8 _),z6 (kG _)];rfl)) (fun _=>zO rfl) [(2,2),(3,3),(4,4),(6,140),(7,141),(11,11),(13,120)] ?_ ?_
  ·exact zh
  ·rintro⟨j,hj1⟩ J2 hj2
   simp only at hj2 hj1⊢
   refine zB 150 (vv ?_)
   refine zV (fun hc2=>?_) (fun hc2=>?_)
   ·have hc2:=zH hc2
    have hmi:b.c.ins[j]∈b.c.ins:=JH hc2
    simp only[go_sem,vV hc2]
    refine⟨⟨zA,zA⟩,?_⟩
    have ht:=htyn _ hmi
    have hsl:=hlt _ hmi
    have hra2:=hra _ hmi
    have htR:(uv d.c rq b.c).take (j+1)=(uv d.c rq b.c).take j++[rq.getD (wv (zU d.c) b.c.ins[j]) (0,0)]:=by rw[hAR,<-ID,<-ID,JR hc2,JN];rfl
    have htT:(se d.c b.c).take (j+1)=(se d.c b.c).take j++[xb d.c (wv (zU d.c) b.c.ins[j])]:=by rw[hAT,<-ID,<-ID,JR hc2,JN];rfl
    have hzR:(zC (((uv d.c rq b.c).take j).map ya)).length=j*2:=by
     rw[zQ (r:=ya) (k:=2) (fun _=>rfl),hAR];simp;omega
    have hzT:(zC (((se d.c b.c).take j).map xN)).length=j*10:=by
     rw[zQ (r:=xN) (k:=10) (fun _=>rfl),hAT];simp;omega
    generalize b.c.ins[j]=s at*
    refine zX 1 191 48 hpt rfl rfl (zB 150 ?_)
    refine vv ?_
    refine z4 150 rfl rfl (.inl rfl) (fun _=>aP (k.c.s.mono hH) rfl rfl rfl) ?_
    generalize hsn:wv (zU d.c) s=sn at*
    simp only[go_sem,hra2,hrz]
    have hapR:List.take (j*2) (zC (((uv d.c rq b.c).take j).map ya))++[Cv.v (.int .i64 (rq.getD sn (0,0)).1),Cv.v (.int .i64 (rq.getD sn (0,0)).2)]=zC (((uv d.c rq b.c).take (j+1)).map ya):=by
     rw[JJ zA,htR]
     simp only[zC,JN,Ib,Ky,Kz,List.flatten_cons,List.flatten_nil,JK]
     rfl
    simp only[hapR,hzR]
    refine⟨⟨zA,zA⟩,zA,⟨zA,zA,zA⟩,?_⟩
    refine zM 160 ht hH rfl ?_
    generalize xb d.c sn=tt at*
    refine vv ?_
    have hapT:List.take (j*10) (zC (((se d.c b.c).take j).map xN))++xT tt=zC (((se d.c b.c).take (j+1)).map xN):=by
     rw[JJ zA,htT]
     simp only[zC,JN,Ib,Ky,Kz,List.flatten_cons,List.flatten_nil,JK]
     rfl
    simp only[hapT,hzT,yu (i:=j)]
    refine⟨⟨zA,zA,zA⟩,?_⟩
    exact hj2 _ _ ⟨j+1,hc2⟩ [(2,2),(3,3),(4,4),(6,151),(7,161),(11,11),(13,13)] yL zh
   ·have hc2:=zI hj1 hc2
    subst hc2
    clear hj2
    have hlR:(uv d.c rq b.c).length=b.c.ins.length:=by rw[hAR,Kv]
    have hlT:(se d.c b.c).length=b.c.ins.length:=by rw[hAT,Kv]
    have hbc:=WP k b hbo hbk (uv d.c rq b.c) (se d.c b.c) hlR hlT (st.getD o (0,0)) (T b.c (uv d.c rq b.c)) (fun h=>hTb h _ hlR)
    unfold yE at hbc
    rw[hlR,hlT]at hbc
    rw[JJ (show(uv d.c rq b.c).length<=b.c.ins.length by omega),JJ (show(se d.c b.c).length<=b.c.ins.length by omega)]
    have hvR:=zJ ((uv d.c rq b.c).map ya)
    have hvT:=zJ ((se d.c b.c).map xN)
    generalize uv d.c rq b.c=ar at*
    generalize se d.c b.c=Qg at*
    refine Sm.dg 160 14 zi ?_
    have hsa:=vh st o zA
    have hsz:=zQ (r:=ya) (k:=2) (fun _=>rfl) st
    simp only[go_sem,hsa,hsz]
    refine⟨zA,zA,?_⟩
    generalize yT (yG d.tys b.c.ty) b.c ar Qg (st.getD o (0,0)) (T b.c ar)=q at*
    refine DCallQ.hr [(1,6),(2,7)] 170 hbc hH (zD (by unfold vJ;simp only[Kw,z6 hvR,z6 hvT];rfl)) rfl rfl ⟨⟨_,rfl,fi hvR⟩,⟨_,rfl,fi hvT⟩,trivial⟩ rfl (.inl rfl) rfl rfl (vv ?_)
    refine zV (fun hq=>?_) (fun hq=>?_)
    ·have hq2:(q.2==0)=false:=by simpa[bne]using hq
     rw[hq2,cond_false]at hx
     rw[hx]at hR
     exact zN hR rfl yI f9 (vQ (SubS.sub ⟨oS,oS,oS,trivial⟩)) (v5 (hms _)) (zG rfl)
    ·have hq2:(q.2==0)=true:=by simpa[bne]using hq
     have hdl:d.c.ins.length=d.ins.length:=rfl
     rw[hq2,cond_true,hdl]at hx
     have e1:IntKind.i64.wrap ((d.ins.length:Int)+(o:Int))=((d.ins.length+o:Nat):Int):=by rw[y6 zA zA];omega
     rw[e1,Int.toNat_natCast,vE]
     refine⟨⟨zA,zA⟩,zA,?_⟩
     simp only[yu (i:=i)]
     refine zB 180 ?_
     simp only[go_sem,yu (i:=i)]
     exact hj _ _ ⟨(i+1,rq.set (d.ins.length+o) q.1),hc,by rw[J8];exact hlq,hx⟩ [(2,2),(3,3),(4,4)] yL zh
 ·have hc:=zI hi hc
  rw[hc,JI,yl]at hx
  rw[hx]at hR
  exact zN hR rfl yI f9 (vQ (SubS.sub ⟨oS,oS,oS,trivial⟩)) (v5 (hms _)) (zG rfl)
theorem _root_.Go.Proofs.YtbnkiacicnnmkaaGreat.Vg.Stp.idxV {P:Program}{o:Oper}{e:Env}{M:Mem}{ty el:TypeId}{x i:Operand}{b off len c sz:Nat}{ki:IntKind}{k:Int}(ho:o.op= .indexAddr ty x i)(hx:rd e x=some (true,.c (.v (.slice (some ⟨b,off,none⟩) len c))))(hi:rd e i=some (true,.c (.v (.int ki k))))
  (hsl:yX P ty=some (el,sz)) (h0:0<=k) (hlt:k<len):Stp P o e M (.c (.v (.pointer (some ⟨b,off+k.toNat*sz,none⟩)))) []:=by
 obtain⟨hu,hsz,hsz0⟩:=yW hsl
 exact Stp.pure fun β a hop w=>by
  have hex:=hop x (by simp[ho,Op.operands]) _ hx
  have hei:=hop i (by simp[ho,Op.operands]) _ hi
  simp only[gv,V.g,Cv.g,cond_true]at hex hei
  unfold execOp
  simp[ho,hex,hei,Instr.indexAt,asIntOf,run_underlying hu,h0,hlt,yK hsz hsz0,V.g,Cv.g,Addr.add_lit]
theorem _root_.Go.Proofs.YtbnkiacicnnmkaaGreat.Vg.SlH.at {H:Hp}{v:Value}{sz:Nat}{rows:List (List Value)}(h:SlH H v sz rows)(h0:rows.flatten≠[]):∃b o c,v= .slice (some ⟨b,o,none⟩) rows.length c/\∃cs el mk,H b (.cells cs el mk)/\∀i x,rows.flatten[i]?=some x->cs[o+i]?=some x:=by
 obtain⟨l,h1,h2,h3⟩:=h
 have hn:l.nul=false:=by
  cases hq:l.nul with
  |false=>rfl
  |true=>exact absurd (h3.1 hq) h0
 obtain⟨c,el,mk,q1,q2⟩:=h3.2.2 hn
 refine⟨l.blk,l.org,(l.siz-0)/sz,?_,c,el,mk,q1,q2⟩
 rw[h1]
 simp only[Cv.g,hn,JS,false_and,if_false,Jx]
def lU:Str:=[100,101,108,97,121]
def dN:Str:=[108,97,103]
def wV (t:Ft):Int×Int:=(bif fok t then qT t else 0,bif fok t then oI t else 0)
def lA (d:Dg)(rs:List (Int×Int))(s:Int×Int)(i:Nat)(b:Bl):Int×Int:=
 bif b.kd==lU then sQ s (oQ (rs.getD (wv (zU d) (b.ins.getD 0 [])) (0,0)) (xb d (wv (zU d) (b.ins.getD 0 []))) (yG d.tys b.ty))
 else bif b.kd==dN then rs.getD (d.ins.length+i) (0,0)else s
def pJ (d:Dg)(rs:List (Int×Int))(s:Int×Int)(i:Nat):Int×Int:=lA d rs s i (d.bls.getD i mR)
def kL (a b:Int×Int):Bool:=a.1==b.1&&a.2==b.2
def rr (d:Dg)(big:Bool)(rs:List (Int×Int)):List Nat->List (Int×Int)->Bool->List (Int×Int)×Bool
 |[],st,ch=>(st,ch)
 |i::l,st,ch=>bif kL (pJ d rs (st.getD i (0,0)) i) (st.getD i (0,0))then rr d big rs l st ch
  else rr d big rs l (st.set i (bif big then wV (yG d.tys (d.bls.getD i mR).ty)else pJ d rs (st.getD i (0,0)) i)) true
def Pb (rs st:List (Int×Int)):Mem:=[(3,⟨false,zC (st.map ya),129⟩),(2,⟨true,zC (rs.map ya),129⟩)]
theorem Vk {H:Hp}{cp:Value}{d:DgL}{bT bC' bM bS:Nat}(k:Ck H cp d bT bC' bM bS)(hok:∀b∈d.bls,xj b.c=true)(hin:∀b∈d.bls,∀s∈b.c.ins,mb (zU d.c) s=true)
  (rs st:List (Int×Int)) (n:Int) (h1:rs.length=d.ins.length+d.bls.length) (h2:st.length=d.bls.length):
  CallX H Tryz.prog 125 [.c (.v cp),I n,.c (.sl 2 0 rs.length 2),.c (.sl 3 0 st.length 2)] (Pb rs st) (fun _:Unit=>Bo (rr d.c (decide (8<=n)) rs (List.range d.bls.length) st false).2) (fun _=>[(3,⟨false,zC ((rr d.c (decide (8<=n)) rs (List.range d.bls.length) st false).1.map ya),129⟩)]) (fun _ _=>True):=by
 have hn1:=k.n1
 have hn2:=k.n2
 generalize hbig:decide (8<=n)=big
 obtain⟨b0,o0,rfl,c0,el0,mk0,hc0,hcc⟩:=PtH.at k.c.p
 unfold Pb
 refine kX Tryz.func125 RF Tryz.ntmps125 fun C hR hP hH hL=>?_
 have hR:=hR () C hL trivial
 have hpt:=k.c.p.mono hH
 refine zB 100 (vv ?_)
 refine zX 1 191 15 hpt rfl rfl (zB 110 ?_)
 refine vv ?_
 refine zX 6 191 21 hpt rfl rfl (zB 110 ?_)
 refine vv ?_
 refine Sm.bringR 5 64 25 (k.o.bl.mono hH) rfl rfl ?_
 have hl2:(d.bls.map BlL.r).length=d.bls.length:=Kv _
 rw[hl2]
 have hms:∀r:List (Int×Int),ClM [(3,⟨false,zC (r.map ya),129⟩),(2,⟨true,zC (rs.map ya),129⟩),(5,⟨true,zC (d.bls.map BlL.r),64⟩)]:=fun r=>cM
 have hM':∀r:List (Int×Int),ClM [(3,⟨false,zC (r.map ya),129⟩),(2,⟨true,zC (rs.map ya),129⟩)]:=fun r=>cM
 have hM:ClM [(3,⟨false,zC (st.map ya),129⟩),(2,⟨true,zC (rs.map ya),129⟩)]:=cM
 refine zK (M0:=[(3,⟨false,zC (st.map ya),129⟩),(2,⟨true,zC (rs.map ya),129⟩)]) (α:={q:Nat×List (Int×Int)×Bool//q.1<=d.bls.length/\q.2.1.length=st.length/\rr d.c big rs (List.range d.bls.length) st false=rr d.c big rs ((List.range d.bls.length).drop q.1) q.2.1 q.2.2}) hP (fun q=>[(0,true,.c (.v (.pointer (some ⟨b0,o0,none⟩)))),(1,true,I n),(2,true,.c (.sl 2 0 rs.length 2)),(3,true,.c (.sl 3 0 st.length 2)),(9,true,I d.ins.length),(10,true,Bo q.val.2.2),(25,true,.c (.sl 5 0 d.bls.length 6)),(26,true,I d.bls.length),(27,true,I q.val.1)])
  (fun q=>[(3,⟨false,zC (q.val.2.1.map ya),129⟩),(2,⟨true,zC (rs.map ya),129⟩),(5,⟨true,zC (d.bls.map BlL.r),64⟩)]) (fun q=>d.bls.length-q.val.1) ⟨(0,st,false),zA,rfl,rfl⟩ (fun q=>hms q.val.2.1) (fun _=>zO rfl) [(3,3),(2,2),(5,5)] ?_ ?_
 ·exact zh
 rintro⟨⟨i,sq,ch⟩,hi,hlq,hx⟩ J hj
 simp only at hj hi hx hlq⊢
 refine zB 120 (vv ?_)
 refine zV (fun hc=>?_) (fun hc=>?_)
 ·have hc:=zH hc
  have htk:=zW (r:=BlL.r) (k:=6) (fun _=>rfl) d.bls i hc
  have hz5:=zQ (r:=BlL.r) (k:=6) (fun _=>rfl) d.bls
  have hsa:=vh sq i zA
  have hsz:=zQ (r:=ya) (k:=2) (fun _=>rfl) sq
  have hmem:d.bls[i]∈d.bls:=JH hc
  have hbo:=k.o.bls _ hmem
  have hbk:=hok _ hmem
  have hbi:=hin _ hmem
  have hgd:d.c.bls.getD i mR=d.bls[i].c:=by
   show(d.bls.map BlL.c).getD i mR=_
   rw[Kx,JO,JA hc];rfl
  have hdr:(List.range d.bls.length).drop i=i::(List.range d.bls.length).drop (i+1):=by
   rw[JC (by simpa using hc)];simp
  rw[hdr,rr]at hx
  unfold pJ at hx
  rw[hgd]at hx
  generalize d.bls[i]=b at*
  simp only[go_sem,htk,hz5,hsa,hsz]
  refine⟨⟨zA,zA⟩,zA,⟨zA,zA⟩,zA,?_⟩
  refine zV (fun hd=>?_) (fun hd=>?_)
  ·have hd:(b.c.kd==lU)=true:=hd
   have hnb:lA d.c rs (sq.getD i (0,0)) i b.c=sQ (sq.getD i (0,0)) (oQ (rs.getD (wv (zU d.c) (b.c.ins.getD 0 [])) (0,0)) (xb d.c (wv (zU d.c) (b.c.ins.getD 0 []))) (yG d.c.tys b.c.ty)):=by unfold lA;rw[hd];rfl
   rw[hnb]at hx
   obtain⟨s0,hs0⟩:=oH (xw hbk hd (by rfl)).1
   obtain⟨bi,oi,ci',hi1,csi,eli,mki,hci,hcci⟩:=hbo.i.at (by rw[hs0];simp[yH])
   have hio:b.i.o=some ⟨bi,oi,none⟩:=by injection hi1
   have hl1:b.c.ins.length=1:=by rw[hs0];rfl
   rw[hs0]at hx
   have hsb:=hbi s0 (by rw[hs0];simp)
   have hx0:csi[oi+0]?=some (sv s0):=hcci 0 _ (by rw[hs0];rfl)
   refine Sm.dg 130 8 zi ?_
   simp only[go_sem,hio]
   refine DOpQ.own 130 (zg rfl rfl) (vv ?_)
   refine DOpQ.own 130 (zT rfl rfl rfl) (vv ?_)
   refine zF 130 (fun _=>zS (hH _ _ hc0) (hcc 10 _ rfl) rfl rfl rfl) (vv ?_)
   refine DOpQ.own 130 (Stp.idxV rfl rfl rfl rfl zA zA) (vv ?_)
   refine zF 130 (fun _=>zS (hH _ _ hci) hx0 rfl rfl rfl) (vv ?_)
   refine z4 130 rfl rfl (.inl rfl) (fun _=>aP (k.c.s.mono hH) rfl rfl rfl) ?_
   have ht:=qK k (wv (zU d.c) s0) (nS hsb)
   have hsl:=nS hsb
   have hra:=vh rs (wv (zU d.c) s0) zA
   have hrz:=zQ (r:=ya) (k:=2) (fun _=>rfl) rs
   have hx:rr d.c big rs (List.range d.bls.length) st false=_:=hx
   simp only[List.getD_cons_zero]at hx
   generalize wv (zU d.c) s0=sn at*
   refine vv ?_
   refine Sm.dg 140 16 zi ?_
   simp only[go_sem,hra,hrz]
   refine⟨⟨zA,zA⟩,zA,?_⟩
   refine yV 150 (fun _=>ht) hH (fun _=>rfl) (vv ?_)
   refine DOpQ.own 150 (zg rfl rfl) (vv ?_)
   refine DOpQ.own 150 (zT rfl rfl rfl) (vv ?_)
   refine zF 150 (fun _=>zS (hH _ _ hc0) (hcc 7 _ rfl) rfl rfl rfl) (vv ?_)
   refine zF 150 (fun _=>xh (k.c.t.mono hH) rfl rfl rfl) (vv ?_)
   refine DCallQ.pure 150 (pg (rs.getD sn (0,0)) (xb d.c sn) (yG d.tys b.c.ty)) rfl (vv ?_)
   refine CallQ.pure 150 (dV (sq.getD i (0,0)) (oQ (rs.getD sn (0,0)) (xb d.c sn) (yG d.tys b.c.ty))) rfl ?_
   generalize hww:sQ (sq.getD i (0,0)) (oQ (rs.getD sn (0,0)) (xb d.c sn) (yG d.tys b.c.ty))=w
   have hww2:sQ (sq.getD i (0,0)) (oQ (rs.getD sn (0,0)) (xb d.c sn) (yG d.c.tys b.c.ty))=w:=hww
   rw[hww2]at hx
   refine vv ?_
   refine Sm.dg 140 5 zi ?_
   simp only[go_sem,hsa,hsz]
   refine⟨zA,zA,?_⟩
   refine zV (fun he=>?_) (fun he=>?_)
   ·have he2:kL w (sq.getD i (0,0))=true:=he
    rw[he2,cond_true]at hx
    refine zB 150 ?_
    simp only[go_sem,yu (i:=i)]
    exact hj _ _ ⟨(i+1,sq,ch),hc,hlq,hx⟩ [(3,3),(2,2),(5,5)] yL zh
   ·have he2:kL w (sq.getD i (0,0))=false:=he
    rw[he2,cond_false]at hx
    refine zV (fun hb8=>?_) (fun hb8=>?_)
    ·have hbt:big=true:=by rw[<-hbig];exact hb8
     rw[hbt,cond_true]at hx
     rw[hbt]at hj hR
     refine Sm.dgW [121] 160 13 zi (vv ?_)
     refine DOpQ.own 160 (zg rfl rfl) (vv ?_)
     refine DOpQ.own 160 (zT rfl rfl rfl) (vv ?_)
     refine zF 160 (fun _=>zS (hH _ _ hc0) (hcc 7 _ rfl) rfl rfl rfl) (vv ?_)
     refine zF 160 (fun _=>xh (k.c.t.mono hH) rfl rfl rfl) (vv ?_)
     refine DCallQ.pure 165 (jQ (yG d.tys b.c.ty)) rfl (vv ?_)
     have hls:=vE sq i (wV (yG d.tys b.c.ty))
     simp only[wV]at hls
     rw[hls]
     refine⟨⟨zA,zA⟩,zA,?_⟩
     refine zB 170 ?_
     simp only[go_sem,yu (i:=i)]
     exact hj _ _ ⟨(i+1,sq.set i (wV (yG d.tys b.c.ty)),true),hc,by rw[J8];exact hlq,hx⟩ [(3,3),(2,2),(5,5)] yL zh
    ·have hbf:big=false:=by rw[<-hbig];exact hb8
     rw[hbf,cond_false]at hx
     rw[hbf]at hj hR
     rw[vE]
     refine⟨⟨zA,zA⟩,zA,?_⟩
     refine zB 170 ?_
     simp only[go_sem,yu (i:=i)]
     exact hj _ _ ⟨(i+1,sq.set i w,true),hc,by rw[J8];exact hlq,hx⟩ [(3,3),(2,2),(5,5)] yL zh
  have hd:(b.c.kd==lU)=false:=hd
  refine zV (fun hg=>?_) (fun hg=>?_)
  ·have hg:(b.c.kd==dN)=true:=hg
   have hnb:lA d.c rs (sq.getD i (0,0)) i b.c=rs.getD (d.ins.length+i) (0,0):=by unfold lA;rw[hd,hg];rfl
   rw[hnb]at hx
   have e1:IntKind.i64.wrap ((d.ins.length:Int)+(i:Int))=((d.ins.length+i:Nat):Int):=by rw[y6 zA zA];omega
   have hra:=vh rs (d.ins.length+i) zA
   have hrz:=zQ (r:=ya) (k:=2) (fun _=>rfl) rs
   simp only[e1,Int.toNat_natCast,hra,hrz]
   refine⟨⟨zA,zA⟩,zA,⟨rfl,rfl⟩,?_⟩
   refine Sm.dg 140 5 zi ?_
   simp only[go_sem,hsa,hsz]
   refine⟨zA,zA,?_⟩
   refine zV (fun he=>?_) (fun he=>?_)
   ·have he2:kL (rs.getD (d.ins.length+i) (0,0)) (sq.getD i (0,0))=true:=he
    rw[he2,cond_true]at hx
    refine zB 150 ?_
    simp only[go_sem,yu (i:=i)]
    exact hj _ _ ⟨(i+1,sq,ch),hc,hlq,hx⟩ [(3,3),(2,2),(5,5)] yL zh
   ·have he2:kL (rs.getD (d.ins.length+i) (0,0)) (sq.getD i (0,0))=false:=he
    rw[he2,cond_false]at hx
    refine zV (fun hb8=>?_) (fun hb8=>?_)
    ·have hbt:big=true:=by rw[<-hbig];exact hb8
     rw[hbt,cond_true]at hx
     rw[hbt]at hj hR
     refine Sm.dgW [121] 160 13 zi (vv ?_)
     refine DOpQ.own 160 (zg rfl rfl) (vv ?_)
     refine DOpQ.own 160 (zT rfl rfl rfl) (vv ?_)
     refine zF 160 (fun _=>zS (hH _ _ hc0) (hcc 7 _ rfl) rfl rfl rfl) (vv ?_)
     refine zF 160 (fun _=>xh (k.c.t.mono hH) rfl rfl rfl) (vv ?_)
     refine DCallQ.pure 165 (jQ (yG d.tys b.c.ty)) rfl (vv ?_)
     have hls:=vE sq i (wV (yG d.tys b.c.ty))
     simp only[wV]at hls
     rw[hls]
     refine⟨⟨zA,zA⟩,zA,?_⟩
     refine zB 170 ?_
     simp only[go_sem,yu (i:=i)]
     exact hj _ _ ⟨(i+1,sq.set i (wV (yG d.tys b.c.ty)),true),hc,by rw[J8];exact hlq,hx⟩ [(3,3),(2,2),(5,5)] yL zh
    ·have hbf:big=false:=by rw[<-hbig];exact hb8
     rw[hbf,cond_false]at hx
     rw[hbf]at hj hR
     rw[vE]
     refine⟨⟨zA,zA⟩,zA,?_⟩
     refine zB 170 ?_
     simp only[go_sem,yu (i:=i)]
     exact hj _ _ ⟨(i+1,sq.set i (rs.getD (d.ins.length+i) (0,0)),true),hc,by rw[J8];exact hlq,hx⟩ [(3,3),(2,2),(5,5)] yL zh
  ·have hg:(b.c.kd==dN)=false:=hg
   have hnb:lA d.c rs (sq.getD i (0,0)) i b.c=sq.getD i (0,0):=by unfold lA;rw[hd,hg];rfl
   rw[hnb]at hx
   refine Sm.dg 140 5 zi ?_
   simp only[go_sem,hsa,hsz]
   refine⟨zA,zA,?_⟩
   have he2:kL (sq.getD i (0,0)) (sq.getD i (0,0))=true:=by simp[kL]
   rw[he2,cond_true]at hx
   refine zB 150 ?_
   simp only[go_sem,yu (i:=i)]
   exact hj _ _ ⟨(i+1,sq,ch),hc,hlq,hx⟩ [(3,3),(2,2),(5,5)] yL zh
 ·have hc:=zI hi hc
  rw[hc,List.drop_of_length_le z9,rr]at hx
  rw[hx]at hR
  exact zN hR rfl yI f9 (vQ (SubS.sub ⟨oS,oS,trivial⟩)) (v5 (hM' _)) (zG rfl)
end Go.Proofs.YtbnkiacicnnmkaaGreat.Fx
