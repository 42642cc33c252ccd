/-  -/
import Derived.Test.YtkciabfilokfiaaGreatQM
set_option linter.unusedSimpArgs false
set_option linter.unusedVariables false
set_option maxRecDepth 100000
set_option maxHeartbeats 4000000
namespace Go.Proofs.YtkciabfilokfiaaGreat.Fx
open Vg Tf
@[go_sem ↓] theorem Qr:qk 1 2=[(0,2)]:=rfl
@[go_sem ↓] theorem UR:qk 1 10=[(0,10)]:=rfl
def vh:Bl:=⟨[],[],[],[],[],[]⟩
def xP (d:Dg)(rs:List (Int×Int))(b:Bl):List (Int×Int):=b.ins.map fun s=>rs.getD (xv (zQ d) s) (0,0)
def xw (d:Dg)(b:Bl):List Ft:=b.ins.map fun s=>yU d (xv (zQ d) s)
def wM (d:Dg)(T:Bl->List (Int×Int)->Int×Int)(rs st:List (Int×Int))(i:Nat):(Int×Int)×Int:=
 zi (yB d.tys (d.bls.getD i vh).ty) (d.bls.getD i vh) (xP d rs (d.bls.getD i vh)) (xw d (d.bls.getD i vh)) (st.getD i (0,0)) (T (d.bls.getD i vh) (xP d rs (d.bls.getD i vh)))
def yh (d:Dg)(T:Bl->List (Int×Int)->Int×Int)(st:List (Int×Int)):List Nat->List (Int×Int)->List (Int×Int)×Option (Str×Int)
 |[],rs=>(rs,none)
 |i::l,rs=>bif (wM d T rs st i).2==0 then yh d T st l (rs.set (d.ins.length+i) (wM d T rs st i).1)else(rs,some ((d.bls.getD i vh).nm,(wM d T rs st i).2))
def Pa (rs st:List (Int×Int))(od:List Nat):Mem:=[(2,⟨false,zD (rs.map yN),45⟩),(3,⟨true,zD (st.map yN),45⟩),(4,⟨true,od.map nC,3⟩)]
@[reducible] def LZ (r:Option (Str×Int)):V:= .tup [Ws (r.getD ([],0)).1,Wi (r.getD ([],0)).2]
theorem uF {d:DgL}{s:Str}(h:sW (zQ d.c) s=true):xv (zQ d.c) s<d.ins.length+d.bls.length:=by
 unfold sW at h
 obtain⟨i,hi⟩:=JF.1 h
 have:=qD s _ 0 i hi
 have e:xv (zQ d.c) s=i:=by unfold xv;rw[hi];rfl
 rw[e,<-xh d];omega
theorem pu {b:Bl}(h:xI b=true):b.ins.length<=3:=by
 have hq:∃q,yY b.kd=some q:=by
  have h1:=h
  unfold xI at h1
  cases hq:yY b.kd with
  |none=>rw[hq]at h1;cases h1
  |some q=>exact⟨q,rfl⟩
 obtain⟨q,hq⟩:=hq
 have hm:=vY hq
 unfold xI at h
 rw[hq]at h
 simp only[JG,decide_eq_true_eq]at h
 have:∀x∈kindT,x.2.1<=3:=yg
 have:=this _ hm
 simp only at this
 omega
theorem xx (l:List (Int×Int))(i:Nat)(h:i<l.length):((zD (l.map yN)).drop (i*2)).take 2=[Cv.v (.int .i64 (l.getD i (0,0)).1),Cv.v (.int .i64 (l.getD i (0,0)).2)]:=by
 rw[z6 (r:=yN) (k:=2) (fun _=>rfl) l i h,Kw,Kz h];rfl
theorem wC:∀(l:List (Int×Int)) (i:Nat) (a:Int×Int),((zD (l.map yN)).set (i*2) (Cv.v (.int .i64 a.1))).set (i*2+1) (Cv.v (.int .i64 a.2))=zD ((l.set i a).map yN)
 |[],i,a=>by simp[zD]
 |x::l,0,a=>by simp[zD,yN]
 |x::l,i+1,a=>by
  have ih:=wC l i a
  have e:∀l:List (Int×Int),zD ((x::l).map yN)=[Cv.v (.int .i64 x.1),Cv.v (.int .i64 x.2)]++zD (l.map yN):=fun l=>by rw[Kv,zN];rfl
  rw[List.set_cons_succ,e,e,<-ih]
  have e1:(i+1)*2=i*2+1+1:=zA
  rw[e1];rfl
theorem gW {n:Nat}{b b':Bk}{r:Mem}(k:Nat):Mem.get ((n,b)::(n,b')::r) k=Mem.get ((n,b)::r) k:=by
 simp only[zF]
 by_cases h:k=n
 ·simp[h]
 ·simp[h]
theorem lD {n:Nat}{b b':Bk}{r M:Mem}(h:Sub ((n,b)::r) M):Sub ((n,b)::(n,b')::r) M:=fun k c hk=>h k c (by rw[<-gW (b':=b')];exact hk)
theorem kF {n:Nat}{b b':Bk}{r:Mem}(h:ClM ((n,b)::r)):ClM ((n,b)::(n,b')::r):=fun β β' hag k c hk=>
 h β β' (fun k hn=>hag k (by rw[gW];exact hn)) k c (by rw[<-gW (b':=b')];exact hk)
theorem WT {H:Hp}{cp:Value}{d:DgL}{bT bC' bM bS:Nat}(k:Ck H cp d bT bC' bM bS)(hok:∀b∈d.bls,xI b.c=true)(hin:∀b∈d.bls,∀s∈b.c.ins,sW (zQ d.c) s=true)(T:Bl->List (Int×Int)->Int×Int)
  (hT:∀b∈d.bls,jD b.c.kd=true->∀rs:List (Int×Int),rs.length=b.c.ins.length->CallX H Tryz.prog 214 [.c (.v cp),yD b.r,.c (.sl 1 0 rs.length 2)] [(1,⟨true,zD (rs.map yN),45⟩)] (fun _:Unit=>rA (T b.c rs)) (fun _=>[]) (fun _ _=>True))
  (rs st:List (Int×Int)) (od:List Nat) (h1:rs.length=d.ins.length+d.bls.length) (h2:st.length=d.bls.length) (h3:∀o∈od,o<d.bls.length) (h4:od.length<=1000000):
  CallX H Tryz.prog 109 [.c (.v cp),.c (.sl 4 0 od.length 1),.c (.sl 2 0 rs.length 2),.c (.sl 3 0 st.length 2)] (Pa rs st od) (fun _:Unit=>LZ (yh d.c T st od rs).2) (fun _=>[(2,⟨false,zD ((yh d.c T st od rs).1.map yN),45⟩)]) (fun _ _=>True):=by
 have hn1:=k.n1
 have hn2:=k.n2
 obtain⟨ca,rfl⟩:=ss k.c.p
 unfold Pa
 refine kX Tryz.func109 QH Tryz.ntmps109 fun C hR hP hH hL=>?_
 have hR:=hR () C hL trivial
 have hpt:=k.c.p.mono hH
 refine zB 100 (vv ?_)
 refine zk 1 147 21 hpt rfl rfl (zB 110 ?_)
 refine vv ?_
 have hms:∀r:List (Int×Int),ClM [(2,⟨false,zD (r.map yN),45⟩),(3,⟨true,zD (st.map yN),45⟩),(4,⟨true,od.map nC,3⟩)]:=fun r=>zC (by simp only[Ky,iR,zh (xK _)];rfl)
 refine zG (M0:=[(2,⟨false,zD (rs.map yN),45⟩),(3,⟨true,zD (st.map yN),45⟩),(4,⟨true,od.map nC,3⟩)]) (α:={q:Nat×List (Int×Int)//q.1<=od.length/\q.2.length=rs.length/\yh d.c T st od rs=yh d.c T st (od.drop q.1) q.2}) hP (fun q=>[(0,true,.c (.v (.pointer ca))),(2,true,.c (.sl 2 0 rs.length 2)),(3,true,.c (.sl 3 0 st.length 2)),(10,true,I d.ins.length),(27,true,.c (.sl 4 0 od.length 1)),(28,true,I od.length),(29,true,I q.val.1)])
  (fun q=>[(2,⟨false,zD (q.val.2.map yN),45⟩),(3,⟨true,zD (st.map yN),45⟩),(4,⟨true,od.map nC,3⟩)]) (fun q=>od.length-q.val.1) ⟨(0,rs),zA,rfl,rfl⟩ (fun q=>hms q.val.2) (fun _=>zO rfl) [(2,2),(3,3),(4,4)] ?_ ?_
 ·exact z9
 rintro⟨⟨i,rq⟩,hi,hlq,hx⟩ J hj
 simp only at hj hi hx hlq⊢
 refine zB 120 (vv ?_)
 refine zU (fun hc=>?_) (fun hc=>?_)
 ·have hc:=zH hc
  have ho:=h3 _ (JE hc)
  have hdr:od.drop i=od[i]::od.drop (i+1):=JA hc
  simp only[go_sem,gX hc]
  refine⟨⟨zA,zA⟩,?_⟩
  rw[hdr]at hx
  generalize od[i]=o at*
  refine zk 1 147 33 hpt rfl rfl (zB 120 ?_)
  refine vv ?_
  refine Sm.bringR 5 53 37 (k.o.bl.mono hH) rfl rfl ?_
  have hl2:(d.bls.map BlL.r).length=d.bls.length:=Ku _
  rw[hl2]
  refine zB 120 ?_
  have htk:=z6 (r:=BlL.r) (k:=6) (fun _=>rfl) d.bls o ho
  have hz5:=zP (r:=BlL.r) (k:=6) (fun _=>rfl) d.bls
  simp only[go_sem,htk,hz5]
  refine⟨⟨zA,zA⟩,zA,?_⟩
  have hmem:d.bls[o]∈d.bls:=JE ho
  have hbo:=k.o.bls _ hmem
  have hbk:=hok _ hmem
  have hbi:=hin _ hmem
  have hTb:=hT _ hmem
  have hgd:d.c.bls.getD o vh=d.bls[o].c:=by
   show(d.bls.map BlL.c).getD o vh=_
   rw[Kw,JK,Kz ho];rfl
  have hst:wM d.c T rq st o=zi (yB d.tys d.bls[o].c.ty) d.bls[o].c (xP d.c rq d.bls[o].c) (xw d.c d.bls[o].c) (st.getD o (0,0)) (T d.bls[o].c (xP d.c rq d.bls[o].c)):=by
   unfold wM;rw[hgd];rfl
  rw[yh,hst,hgd]at hx
  generalize d.bls[o]=b at*
  have hil:=pu hbk
  refine Sm.bringS 11 9 42 (hbo.i.mono hH) rfl rfl ?_
  refine yz 140 2 45 [14] [] rfl (vv ?_)
  refine yz 141 10 43 [15] [] rfl (vv ?_)
  have htyn:=fun s hs=>p8 k (xv (zQ d.c) s) (uF (hbi s hs))
  have hlt:=fun s hs=>uF (hbi s hs)
  have hAR:xP d.c rq b.c=b.c.ins.map (fun s=>rq.getD (xv (zQ d.c) s) (0,0)):=rfl
  have hAT:xw d.c b.c=b.c.ins.map (fun s=>yU d.c (xv (zQ d.c) s)):=rfl
  have hra:=fun s hs=>xx rq (xv (zQ d.c) s) (by have:=hlt s hs;omega)
  have hrz:=zP (r:=yN) (k:=2) (fun _=>rfl) rq
  refine zG (M0:=[(2,⟨false,zD (rs.map yN),45⟩),(3,⟨true,zD (st.map yN),45⟩),(4,⟨true,od.map nC,3⟩)]) (α:={j:Nat//j<=b.c.ins.length}) hP (fun j=>[(0,true,.c (.v (.pointer ca))),(2,true,.c (.sl 2 0 rs.length 2)),(3,true,.c (.sl 3 0 st.length 2)),(10,true,I d.ins.length),(12,true,I o),(13,true,.c (.p 13 0)),(14,true,.c (.sl 6 0 j.val 2)),(15,true,.c (.sl 7 0 j.val 10)),(27,true,.c (.sl 4 0 od.length 1)),(28,true,I od.length),(29,true,I i),(42,true,.c (.sl 11 0 b.c.ins.length 1)),(43,true,I b.c.ins.length),(44,true,I j.val)])
   (fun j=>[(2,⟨false,zD (rq.map yN),45⟩),(3,⟨true,zD (st.map yN),45⟩),(4,⟨true,od.map nC,3⟩),(6,⟨false,zD (((xP d.c rq b.c).take j.val).map yN),45⟩),(7,⟨false,zD (((xw d.c b.c).take j.val).map yW),43⟩),(11,⟨true,b.c.ins.map sC,9⟩),(13,⟨false,b.r.map .v,53⟩)]) (fun j=>b.c.ins.length-j.val) ⟨0,zA⟩ (fun j=>zC (by simp only[Ky,iR,zh (xK _),zh (y7 _),zh (nu _)];rfl)) (fun _=>zO rfl) [(2,2),(3,3),(4,4),(6,140),(7,141),(11,11),(13,120)] ?_ ?_
  ·exact z9
  ·rintro⟨j,hj1⟩ J2 hj2
   simp only at hj2 hj1⊢
   refine zB 150 (vv ?_)
   refine zU (fun hc2=>?_) (fun hc2=>?_)
   ·have hc2:=zH hc2
    have hmi:b.c.ins[j]∈b.c.ins:=JE hc2
    simp only[go_sem,xq hc2]
    refine⟨⟨zA,zA⟩,?_⟩
    have ht:=htyn _ hmi
    have hsl:=hlt _ hmi
    have hra2:=hra _ hmi
    have htR:(xP d.c rq b.c).take (j+1)=(xP d.c rq b.c).take j++[rq.getD (xv (zQ d.c) b.c.ins[j]) (0,0)]:=by rw[hAR,<-Jz,<-Jz,JS hc2,JT];rfl
    have htT:(xw d.c b.c).take (j+1)=(xw d.c b.c).take j++[yU d.c (xv (zQ d.c) b.c.ins[j])]:=by rw[hAT,<-Jz,<-Jz,JS hc2,JT];rfl
    have hzR:(zD (((xP d.c rq b.c).take j).map yN)).length=j*2:=by
     rw[zP (r:=yN) (k:=2) (fun _=>rfl),hAR];simp;omega
    have hzT:(zD (((xw d.c b.c).take j).map yW)).length=j*10:=by
     rw[zP (r:=yW) (k:=10) (fun _=>rfl),hAT];simp;omega
    generalize b.c.ins[j]=s at*
    refine zk 1 147 48 hpt rfl rfl (zB 150 ?_)
    refine vv ?_
    refine vK 150 rfl rfl (.inl rfl) (fun _=>YN (k.c.s.mono hH) rfl rfl rfl) ?_
    generalize hsn:xv (zQ d.c) s=sn at*
    simp only[go_sem,hra2,hrz]
    have hapR:List.take (j*2) (zD (((xP d.c rq b.c).take j).map yN))++[Cv.v (.int .i64 (rq.getD sn (0,0)).1),Cv.v (.int .i64 (rq.getD sn (0,0)).2)]=zD (((xP d.c rq b.c).take (j+1)).map yN):=by
     rw[JH zA,htR]
     simp only[zD,JT,IW,Kv,Kx,List.flatten_cons,List.flatten_nil,JB]
     rfl
    simp only[hapR,hzR]
    refine⟨⟨zA,zA⟩,zA,⟨zA,zA,zA⟩,?_⟩
    refine z8 160 ht hH rfl ?_
    generalize yU d.c sn=tt at*
    refine vv ?_
    have hapT:List.take (j*10) (zD (((xw d.c b.c).take j).map yW))++rJ tt=zD (((xw d.c b.c).take (j+1)).map yW):=by
     rw[JH zA,htT]
     simp only[zD,JT,IW,Kv,Kx,List.flatten_cons,List.flatten_nil,JB]
     rfl
    simp only[hapT,hzT,yT (i:=j)]
    refine⟨⟨zA,zA,zA⟩,?_⟩
    exact hj2 _ _ ⟨j+1,hc2⟩ [(2,2),(3,3),(4,4),(6,151),(7,161),(11,11),(13,13)] yF z9
   ·have hc2:=zL hj1 hc2
    subst hc2
    clear hj2
    have hlR:(xP d.c rq b.c).length=b.c.ins.length:=by rw[hAR,Ku]
    have hlT:(xw d.c b.c).length=b.c.ins.length:=by rw[hAT,Ku]
    have hbc:=VW k b hbo hbk (xP d.c rq b.c) (xw d.c b.c) hlR hlT (st.getD o (0,0)) (T b.c (xP d.c rq b.c)) (fun h=>hTb h _ hlR)
    unfold y6 at hbc
    rw[hlR,hlT]at hbc
    rw[JH (show(xP d.c rq b.c).length<=b.c.ins.length by omega),JH (show(xw d.c b.c).length<=b.c.ins.length by omega)]
    have hvR:=zS ((xP d.c rq b.c).map yN)
    have hvT:=zS ((xw d.c b.c).map yW)
    generalize xP d.c rq b.c=ar at*
    generalize xw d.c b.c=PN at*
    refine Sm.dg 160 14 ze ?_
    have hsa:=xx st o zA
    have hsz:=zP (r:=yN) (k:=2) (fun _=>rfl) st
    simp only[go_sem,hsa,hsz]
    refine⟨zA,zA,?_⟩
    generalize zi (yB d.tys b.c.ty) b.c ar PN (st.getD o (0,0)) (T b.c ar)=q at*
    refine DCallQ.hr [(1,6),(2,7)] 170 hbc hH (zC (by unfold y8;simp only[Ky,zh hvR,zh hvT];rfl)) rfl rfl ⟨⟨_,rfl,fI hvR⟩,⟨_,rfl,fI hvT⟩,trivial⟩ rfl (.inl rfl) rfl rfl (vv ?_)
    refine zU (fun hq=>?_) (fun hq=>?_)
    ·have hq2:(q.2==0)=false:=by simpa[bne]using hq
     rw[hq2,cond_false]at hx
     rw[hx]at hR
     exact zX hR rfl xb tr (lD (SubS.sub ⟨oS,oS,oS,trivial⟩)) (kF (hms _)) (zI rfl)
    ·have hq2:(q.2==0)=true:=by simpa[bne]using hq
     have hdl:d.c.ins.length=d.ins.length:=rfl
     rw[hq2,cond_true,hdl]at hx
     have e1:IntKind.i64.wrap ((d.ins.length:Int)+(o:Int))=((d.ins.length+o:Nat):Int):=by rw[ya zA zA];omega
     rw[e1,Int.toNat_natCast,wC]
     refine⟨⟨zA,zA⟩,zA,?_⟩
     simp only[yT (i:=i)]
     refine zB 180 ?_
     simp only[go_sem,yT (i:=i)]
     exact hj _ _ ⟨(i+1,rq.set (d.ins.length+o) q.1),hc,by rw[Jc];exact hlq,hx⟩ [(2,2),(3,3),(4,4)] yF z9
 ·have hc:=zL hi hc
  rw[hc,JL,yh]at hx
  rw[hx]at hR
  exact zX hR rfl xb tr (lD (SubS.sub ⟨oS,oS,oS,trivial⟩)) (kF (hms _)) (zI rfl)
theorem _root_.Go.Proofs.YtkciabfilokfiaaGreat.Vg.Stp.idxV {P:Program}{o:Oper}{e:Env}{M:Mem}{ty el:TypeId}{x i:Operand}{b off len c sz:Nat}{ki:IntKind}{k:Int}(ho:o.op= .indexAddr ty x i)(hx:rd e x=some (true,.c (.v (.slice (some ⟨b,off,none⟩) len c))))(hi:rd e i=some (true,.c (.v (.int ki k))))
  (hsl:xQ P ty=some (el,sz)) (h0:0<=k) (hlt:k<len):Stp P o e M (.c (.v (.pointer (some ⟨b,off+k.toNat*sz,none⟩)))) []:=by
 obtain⟨hu,hsz,hsz0⟩:=xJ hsl
 exact Stp.pure fun β a hop w=>by
  have hex:=hop x (by simp[ho,Op.operands]) _ hx
  have hei:=hop i (by simp[ho,Op.operands]) _ hi
  simp only[gv,V.g,Cv.g,cond_true]at hex hei
  unfold execOp
  simp[ho,hex,hei,Instr.indexAt,asIntOf,run_underlying hu,h0,hlt,yl hsz hsz0,V.g,Cv.g,Addr.add_lit]
theorem _root_.Go.Proofs.YtkciabfilokfiaaGreat.Vg.SlH.at {H:Hp}{v:Value}{sz:Nat}{rows:List (List Value)}(h:SlH H v sz rows)(h0:rows.flatten≠[]):∃b o c,v= .slice (some ⟨b,o,none⟩) rows.length c/\∃cs el mk,H b (.cells cs el mk)/\∀i x,rows.flatten[i]?=some x->cs[o+i]?=some x:=by
 obtain⟨l,h1,h2,h3⟩:=h
 have hn:l.nul=false:=by
  cases hq:l.nul with
  |false=>rfl
  |true=>exact absurd (h3.1 hq) h0
 obtain⟨c,el,mk,q1,q2⟩:=h3.2.2 hn
 refine⟨l.blk,l.org,(l.siz-0)/sz,?_,c,el,mk,q1,q2⟩
 rw[h1]
 simp only[Cv.g,hn,JU,false_and,if_false,JV]
def tZ:Str:=[100,101,108,97,121]
def qq:Str:=[108,97,103]
def x9 (t:Ft):Int×Int:=(bif yE t then tC t else 0,bif yE t then th t else 0)
def nl (d:Dg)(rs:List (Int×Int))(s:Int×Int)(i:Nat)(b:Bl):Int×Int:=
 bif b.kd==tZ then vp s (xf (rs.getD (xv (zQ d) (b.ins.getD 0 [])) (0,0)) (yU d (xv (zQ d) (b.ins.getD 0 []))) (yB d.tys b.ty))
 else bif b.kd==qq then rs.getD (d.ins.length+i) (0,0)else s
def tT (d:Dg)(rs:List (Int×Int))(s:Int×Int)(i:Nat):Int×Int:=nl d rs s i (d.bls.getD i vh)
def nF (a b:Int×Int):Bool:=a.1==b.1&&a.2==b.2
def rh (d:Dg)(big:Bool)(rs:List (Int×Int)):List Nat->List (Int×Int)->Bool->List (Int×Int)×Bool
 |[],st,ch=>(st,ch)
 |i::l,st,ch=>bif nF (tT d rs (st.getD i (0,0)) i) (st.getD i (0,0))then rh d big rs l st ch
  else rh d big rs l (st.set i (bif big then x9 (yB d.tys (d.bls.getD i vh).ty)else tT d rs (st.getD i (0,0)) i)) true
def Pn (rs st:List (Int×Int)):Mem:=[(3,⟨false,zD (st.map yN),45⟩),(2,⟨true,zD (rs.map yN),45⟩)]
theorem Ud {H:Hp}{cp:Value}{d:DgL}{bT bC' bM bS:Nat}(k:Ck H cp d bT bC' bM bS)(hok:∀b∈d.bls,xI b.c=true)(hin:∀b∈d.bls,∀s∈b.c.ins,sW (zQ d.c) s=true)
  (rs st:List (Int×Int)) (n:Int) (h1:rs.length=d.ins.length+d.bls.length) (h2:st.length=d.bls.length):
  CallX H Tryz.prog 110 [.c (.v cp),I n,.c (.sl 2 0 rs.length 2),.c (.sl 3 0 st.length 2)] (Pn rs st) (fun _:Unit=>Bo (rh d.c (decide (8<=n)) rs (List.range d.bls.length) st false).2) (fun _=>[(3,⟨false,zD ((rh d.c (decide (8<=n)) rs (List.range d.bls.length) st false).1.map yN),45⟩)]) (fun _ _=>True):=by
 have hn1:=k.n1
 have hn2:=k.n2
 generalize hbig:decide (8<=n)=big
 obtain⟨b0,o0,rfl,c0,el0,mk0,hc0,hcc⟩:=PtH.at k.c.p
 unfold Pn
 refine kX Tryz.func110 QG Tryz.ntmps110 fun C hR hP hH hL=>?_
 have hR:=hR () C hL trivial
 have hpt:=k.c.p.mono hH
 refine zB 100 (vv ?_)
 refine zk 1 147 15 hpt rfl rfl (zB 110 ?_)
 refine vv ?_
 refine zk 6 147 21 hpt rfl rfl (zB 110 ?_)
 refine vv ?_
 refine Sm.bringR 5 53 25 (k.o.bl.mono hH) rfl rfl ?_
 have hl2:(d.bls.map BlL.r).length=d.bls.length:=Ku _
 rw[hl2]
 have hms:∀r:List (Int×Int),ClM [(3,⟨false,zD (r.map yN),45⟩),(2,⟨true,zD (rs.map yN),45⟩),(5,⟨true,zD (d.bls.map BlL.r),53⟩)]:=fun r=>cM
 have hM':∀r:List (Int×Int),ClM [(3,⟨false,zD (r.map yN),45⟩),(2,⟨true,zD (rs.map yN),45⟩)]:=fun r=>cM
 have hM:ClM [(3,⟨false,zD (st.map yN),45⟩),(2,⟨true,zD (rs.map yN),45⟩)]:=cM
 refine zG (M0:=[(3,⟨false,zD (st.map yN),45⟩),(2,⟨true,zD (rs.map yN),45⟩)]) (α:={q:Nat×List (Int×Int)×Bool//q.1<=d.bls.length/\q.2.1.length=st.length/\rh d.c big rs (List.range d.bls.length) st false=rh d.c big rs ((List.range d.bls.length).drop q.1) q.2.1 q.2.2}) hP (fun q=>[(0,true,.c (.v (.pointer (some ⟨b0,o0,none⟩)))),(1,true,I n),(2,true,.c (.sl 2 0 rs.length 2)),(3,true,.c (.sl 3 0 st.length 2)),(9,true,I d.ins.length),(10,true,Bo q.val.2.2),(25,true,.c (.sl 5 0 d.bls.length 6)),(26,true,I d.bls.length),(27,true,I q.val.1)])
  (fun q=>[(3,⟨false,zD (q.val.2.1.map yN),45⟩),(2,⟨true,zD (rs.map yN),45⟩),(5,⟨true,zD (d.bls.map BlL.r),53⟩)]) (fun q=>d.bls.length-q.val.1) ⟨(0,st,false),zA,rfl,rfl⟩ (fun q=>hms q.val.2.1) (fun _=>zO rfl) [(3,3),(2,2),(5,5)] ?_ ?_
 ·exact z9
 rintro⟨⟨i,sq,ch⟩,hi,hlq,hx⟩ J hj
 simp only at hj hi hx hlq⊢
 refine zB 120 (vv ?_)
 refine zU (fun hc=>?_) (fun hc=>?_)
 ·have hc:=zH hc
  have htk:=z6 (r:=BlL.r) (k:=6) (fun _=>rfl) d.bls i hc
  have hz5:=zP (r:=BlL.r) (k:=6) (fun _=>rfl) d.bls
  have hsa:=xx sq i zA
  have hsz:=zP (r:=yN) (k:=2) (fun _=>rfl) sq
  have hmem:d.bls[i]∈d.bls:=JE hc
  have hbo:=k.o.bls _ hmem
  have hbk:=hok _ hmem
  have hbi:=hin _ hmem
  have hgd:d.c.bls.getD i vh=d.bls[i].c:=by
   show(d.bls.map BlL.c).getD i vh=_
   rw[Kw,JK,Kz hc];rfl
  have hdr:(List.range d.bls.length).drop i=i::(List.range d.bls.length).drop (i+1):=by
   rw[JA (by simpa using hc)];simp
  rw[hdr,rh]at hx
  unfold tT at hx
  rw[hgd]at hx
  generalize d.bls[i]=b at*
  simp only[go_sem,htk,hz5,hsa,hsz]
  refine⟨⟨zA,zA⟩,zA,⟨zA,zA⟩,zA,?_⟩
  refine zU (fun hd=>?_) (fun hd=>?_)
  ·have hd:(b.c.kd==tZ)=true:=hd
   have hnb:nl d.c rs (sq.getD i (0,0)) i b.c=vp (sq.getD i (0,0)) (xf (rs.getD (xv (zQ d.c) (b.c.ins.getD 0 [])) (0,0)) (yU d.c (xv (zQ d.c) (b.c.ins.getD 0 []))) (yB d.c.tys b.c.ty)):=by unfold nl;rw[hd];rfl
   rw[hnb]at hx
   obtain⟨s0,hs0⟩:=um (xW hbk hd (by rfl)).1
   obtain⟨bi,oi,ci',hi1,csi,eli,mki,hci,hcci⟩:=hbo.i.at (by rw[hs0];simp[yH])
   have hio:b.i.o=some ⟨bi,oi,none⟩:=by injection hi1
   have hl1:b.c.ins.length=1:=by rw[hs0];rfl
   rw[hs0]at hx
   have hsb:=hbi s0 (by rw[hs0];simp)
   have hx0:csi[oi+0]?=some (sv s0):=hcci 0 _ (by rw[hs0];rfl)
   refine Sm.dg 130 8 ze ?_
   simp only[go_sem,hio]
   refine DOpQ.own 130 (zq rfl rfl) (vv ?_)
   refine DOpQ.own 130 (zY rfl rfl rfl) (vv ?_)
   refine zE 130 (fun _=>zW (hH _ _ hc0) (hcc 10 _ rfl) rfl rfl rfl) (vv ?_)
   refine DOpQ.own 130 (Stp.idxV rfl rfl rfl rfl zA zA) (vv ?_)
   refine zE 130 (fun _=>zW (hH _ _ hci) hx0 rfl rfl rfl) (vv ?_)
   refine vK 130 rfl rfl (.inl rfl) (fun _=>YN (k.c.s.mono hH) rfl rfl rfl) ?_
   have ht:=p8 k (xv (zQ d.c) s0) (uF hsb)
   have hsl:=uF hsb
   have hra:=xx rs (xv (zQ d.c) s0) zA
   have hrz:=zP (r:=yN) (k:=2) (fun _=>rfl) rs
   have hx:rh d.c big rs (List.range d.bls.length) st false=_:=hx
   simp only[List.getD_cons_zero]at hx
   generalize xv (zQ d.c) s0=sn at*
   refine vv ?_
   refine Sm.dg 140 16 ze ?_
   simp only[go_sem,hra,hrz]
   refine⟨⟨zA,zA⟩,zA,?_⟩
   refine x7 150 (fun _=>ht) hH (fun _=>rfl) (vv ?_)
   refine DOpQ.own 150 (zq rfl rfl) (vv ?_)
   refine DOpQ.own 150 (zY rfl rfl rfl) (vv ?_)
   refine zE 150 (fun _=>zW (hH _ _ hc0) (hcc 7 _ rfl) rfl rfl rfl) (vv ?_)
   refine zE 150 (fun _=>wg (k.c.t.mono hH) rfl rfl rfl) (vv ?_)
   refine DCallQ.pure 150 (nI (rs.getD sn (0,0)) (yU d.c sn) (yB d.tys b.c.ty)) rfl (vv ?_)
   refine CallQ.pure 150 (aK (sq.getD i (0,0)) (xf (rs.getD sn (0,0)) (yU d.c sn) (yB d.tys b.c.ty))) rfl ?_
   generalize hww:vp (sq.getD i (0,0)) (xf (rs.getD sn (0,0)) (yU d.c sn) (yB d.tys b.c.ty))=w
   have hww2:vp (sq.getD i (0,0)) (xf (rs.getD sn (0,0)) (yU d.c sn) (yB d.c.tys b.c.ty))=w:=hww
   rw[hww2]at hx
   refine vv ?_
   refine Sm.dg 140 5 ze ?_
   simp only[go_sem,hsa,hsz]
   refine⟨zA,zA,?_⟩
   refine zU (fun he=>?_) (fun he=>?_)
   ·have he2:nF w (sq.getD i (0,0))=true:=he
    rw[he2,cond_true]at hx
    refine zB 150 ?_
    simp only[go_sem,yT (i:=i)]
    exact hj _ _ ⟨(i+1,sq,ch),hc,hlq,hx⟩ [(3,3),(2,2),(5,5)] yF z9
   ·have he2:nF w (sq.getD i (0,0))=false:=he
    rw[he2,cond_false]at hx
    refine zU (fun hb8=>?_) (fun hb8=>?_)
    ·have hbt:big=true:=by rw[<-hbig];exact hb8
     rw[hbt,cond_true]at hx
     rw[hbt]at hj hR
     refine Sm.dgW [121] 160 13 ze (vv ?_)
     refine DOpQ.own 160 (zq rfl rfl) (vv ?_)
     refine DOpQ.own 160 (zY rfl rfl rfl) (vv ?_)
     refine zE 160 (fun _=>zW (hH _ _ hc0) (hcc 7 _ rfl) rfl rfl rfl) (vv ?_)
     refine zE 160 (fun _=>wg (k.c.t.mono hH) rfl rfl rfl) (vv ?_)
     refine DCallQ.pure 165 (dQ (yB d.tys b.c.ty)) rfl (vv ?_)
     have hls:=wC sq i (x9 (yB d.tys b.c.ty))
     simp only[x9]at hls
     rw[hls]
     refine⟨⟨zA,zA⟩,zA,?_⟩
     refine zB 170 ?_
     simp only[go_sem,yT (i:=i)]
     exact hj _ _ ⟨(i+1,sq.set i (x9 (yB d.tys b.c.ty)),true),hc,by rw[Jc];exact hlq,hx⟩ [(3,3),(2,2),(5,5)] yF z9
    ·have hbf:big=false:=by rw[<-hbig];exact hb8
     rw[hbf,cond_false]at hx
     rw[hbf]at hj hR
     rw[wC]
     refine⟨⟨zA,zA⟩,zA,?_⟩
     refine zB 170 ?_
     simp only[go_sem,yT (i:=i)]
     exact hj _ _ ⟨(i+1,sq.set i w,true),hc,by rw[Jc];exact hlq,hx⟩ [(3,3),(2,2),(5,5)] yF z9
  have hd:(b.c.kd==tZ)=false:=hd
  refine zU (fun hg=>?_) (fun hg=>?_)
  ·have hg:(b.c.kd==qq)=true:=hg
   have hnb:nl d.c rs (sq.getD i (0,0)) i b.c=rs.getD (d.ins.length+i) (0,0):=by unfold nl;rw[hd,hg];rfl
   rw[hnb]at hx
   have e1:IntKind.i64.wrap ((d.ins.length:Int)+(i:Int))=((d.ins.length+i:Nat):Int):=by rw[ya zA zA];omega
   have hra:=xx rs (d.ins.length+i) zA
   have hrz:=zP (r:=yN) (k:=2) (fun _=>rfl) rs
   simp only[e1,Int.toNat_natCast,hra,hrz]
   refine⟨⟨zA,zA⟩,zA,⟨rfl,rfl⟩,?_⟩
   refine Sm.dg 140 5 ze ?_
   simp only[go_sem,hsa,hsz]
   refine⟨zA,zA,?_⟩
   refine zU (fun he=>?_) (fun he=>?_)
   ·have he2:nF (rs.getD (d.ins.length+i) (0,0)) (sq.getD i (0,0))=true:=he
    rw[he2,cond_true]at hx
    refine zB 150 ?_
    simp only[go_sem,yT (i:=i)]
    exact hj _ _ ⟨(i+1,sq,ch),hc,hlq,hx⟩ [(3,3),(2,2),(5,5)] yF z9
   ·have he2:nF (rs.getD (d.ins.length+i) (0,0)) (sq.getD i (0,0))=false:=he
    rw[he2,cond_false]at hx
    refine zU (fun hb8=>?_) (fun hb8=>?_)
    ·have hbt:big=true:=by rw[<-hbig];exact hb8
     rw[hbt,cond_true]at hx
     rw[hbt]at hj hR
     refine Sm.dgW [121] 160 13 ze (vv ?_)
     refine DOpQ.own 160 (zq rfl rfl) (vv ?_)
     refine DOpQ.own 160 (zY rfl rfl rfl) (vv ?_)
     refine zE 160 (fun _=>zW (hH _ _ hc0) (hcc 7 _ rfl) rfl rfl rfl) (vv ?_)
     refine zE 160 (fun _=>wg (k.c.t.mono hH) rfl rfl rfl) (vv ?_)
     refine DCallQ.pure 165 (dQ (yB d.tys b.c.ty)) rfl (vv ?_)
     have hls:=wC sq i (x9 (yB d.tys b.c.ty))
     simp only[x9]at hls
     rw[hls]
     refine⟨⟨zA,zA⟩,zA,?_⟩
     refine zB 170 ?_
     simp only[go_sem,yT (i:=i)]
     exact hj _ _ ⟨(i+1,sq.set i (x9 (yB d.tys b.c.ty)),true),hc,by rw[Jc];exact hlq,hx⟩ [(3,3),(2,2),(5,5)] yF z9
    ·have hbf:big=false:=by rw[<-hbig];exact hb8
     rw[hbf,cond_false]at hx
     rw[hbf]at hj hR
     rw[wC]
     refine⟨⟨zA,zA⟩,zA,?_⟩
     refine zB 170 ?_
     simp only[go_sem,yT (i:=i)]
     exact hj _ _ ⟨(i+1,sq.set i (rs.getD (d.ins.length+i) (0,0)),true),hc,by rw[Jc];exact hlq,hx⟩ [(3,3),(2,2),(5,5)] yF z9
  ·have hg:(b.c.kd==qq)=false:=hg
   have hnb:nl d.c rs (sq.getD i (0,0)) i b.c=sq.getD i (0,0):=by unfold nl;rw[hd,hg];rfl
   rw[hnb]at hx
   refine Sm.dg 140 5 ze ?_
   simp only[go_sem,hsa,hsz]
   refine⟨zA,zA,?_⟩
   have he2:nF (sq.getD i (0,0)) (sq.getD i (0,0))=true:=by simp[nF]
   rw[he2,cond_true]at hx
   refine zB 150 ?_
   simp only[go_sem,yT (i:=i)]
   exact hj _ _ ⟨(i+1,sq,ch),hc,hlq,hx⟩ [(3,3),(2,2),(5,5)] yF z9
 ·have hc:=zL hi hc
  rw[hc,Id zc,rh]at hx
  rw[hx]at hR
  exact zX hR rfl xb tr (lD (SubS.sub ⟨oS,oS,trivial⟩)) (kF (hM' _)) (zI rfl)
def x8 (f:Nat->Int×Int)(N i:Nat):List (Int×Int):=(List.range N).map fun j=>if j<i then f j else(0,0)
theorem vT (f:Nat->Int×Int)(N i:Nat):(x8 f N i).length=N:=by simp[x8]
theorem rl {f:Nat->Int×Int}{N i:Nat}(h:i<N):(x8 f N i).set i (f i)=x8 f N (i+1):=by
 apply Jx
 intro j
 rw[Ip,x8,x8,JK,JK,Ku,Ib]
 by_cases hj:i=j
 ·subst hj
  rw[if_pos rfl,if_pos h,Ju h];simp
 ·rw[if_neg hj]
  by_cases hN:j<N
  ·rw[Ju hN]
   simp only[JM]
   by_cases h1:j<i
   ·rw[if_pos h1,if_pos zA]
   ·rw[if_neg h1,if_neg zA]
  ·rw[Jo (by simp;omega)];rfl
theorem mB {f:Nat->Int×Int}{N i:Nat}(h:f i=(0,0)):x8 f N i=x8 f N (i+1):=by
 unfold x8
 apply JY
 intro j _
 by_cases h1:j<i
 ·rw[if_pos h1,if_pos zA]
 ·by_cases h2:j=i
  ·subst h2;rw[if_neg h1,if_pos zA,h]
  ·rw[if_neg h1,if_neg zA]
theorem qh (f:Nat->Int×Int):∀N:Nat,vc N [Cv.v (.int .i64 0),Cv.v (.int .i64 0)]=zD ((x8 f N 0).map yN):=by
 intro N
 have h:x8 f N 0=List.replicate N (0,0):=by
  unfold x8
  apply Jx
  intro j
  rw[JK,IK]
  by_cases hj:j<N
  ·rw[Ju hj,if_pos hj];rfl
  ·rw[Jo (by simp;omega),if_neg hj];rfl
 rw[h]
 clear h
 induction N with
 |zero=>rfl
 |succ n ih=>rw[vc,ih,List.replicate_succ,Kv,zN];rfl
def ZO:Po:=⟨[],[],0,0⟩
def kb (d:Dg)(j:Nat):Int×Int:=((d.ins.getD j ZO).lo,(d.ins.getD j ZO).hi)
def nd (d:Dg)(j:Nat):Int×Int:=let b:=d.bls.getD j vh;bif b.kd==tZ then(b.ks.getD 0 0,b.ks.getD 0 0)else(0,0)
def r0 (d:Dg):List (Int×Int):=x8 (kb d) (d.ins.length+d.bls.length) d.ins.length
def s0 (d:Dg):List (Int×Int):=x8 (nd d) d.bls.length d.bls.length
def uU (d:Dg)(T:Bl->List (Int×Int)->Int×Int)(od:List Nat):Nat->Int->List (Int×Int)->List (Int×Int)->Option (List (Int×Int)×Option (Str×Int))
 |0,_,_,_=>none
 |f+1,n,rs,st=>match (yh d T st od rs).2 with
  |some e=>some ([],some e)
  |none=>bif (rh d (decide (8<=n)) (yh d T st od rs).1 (List.range d.bls.length) st false).2 then uU d T od f (n+1) (yh d T st od rs).1 (rh d (decide (8<=n)) (yh d T st od rs).1 (List.range d.bls.length) st false).1
   else some ((yh d T st od rs).1,none)
theorem uw (d:Dg)(T:Bl->List (Int×Int)->Int×Int)(st:List (Int×Int)):∀(l:List Nat) (rs:List (Int×Int)),(yh d T st l rs).1.length=rs.length
 |[],rs=>rfl
 |i::l,rs=>by
  rw[yh]
  cases (wM d T rs st i).2==0 with
  |true=>rw[cond_true,uw d T st l,Jc]
  |false=>rfl
theorem oO (d:Dg)(T:Bl->List (Int×Int)->Int×Int)(st:List (Int×Int)):∀(l:List Nat) (rs:List (Int×Int)) (e:Str×Int),(yh d T st l rs).2=some e->(e.2==0)=false
 |[],rs,e=>by intro h;cases h
 |i::l,rs,e=>by
  rw[yh]
  cases h:(wM d T rs st i).2==0 with
  |true=>rw[cond_true];exact oO d T st l _ e
  |false=>intro h2;injection h2 with h2;rw[<-h2];exact h
theorem tV (d:Dg)(big:Bool)(rs:List (Int×Int)):∀(l:List Nat) (st:List (Int×Int)) (ch:Bool),(rh d big rs l st ch).1.length=st.length
 |[],st,ch=>rfl
 |i::l,st,ch=>by
  rw[rh]
  cases nF (tT d rs (st.getD i (0,0)) i) (st.getD i (0,0))with
  |true=>rw[cond_true,tV d big rs l]
  |false=>rw[cond_false,tV d big rs l,Jc]
theorem Zo {H:Hp}{cp:Value}{d:DgL}{bT bC' bM bS:Nat}(k:Ck H cp d bT bC' bM bS)(hok:∀b∈d.bls,xI b.c=true)(hin:∀b∈d.bls,∀s∈b.c.ins,sW (zQ d.c) s=true)(T:Bl->List (Int×Int)->Int×Int)
  (hT:∀b∈d.bls,jD b.c.kd=true->∀rs:List (Int×Int),rs.length=b.c.ins.length->CallX H Tryz.prog 214 [.c (.v cp),yD b.r,.c (.sl 1 0 rs.length 2)] [(1,⟨true,zD (rs.map yN),45⟩)] (fun _:Unit=>rA (T b.c rs)) (fun _=>[]) (fun _ _=>True))
  (od:List Nat) (h3:∀o∈od,o<d.bls.length) (h4:od.length<=1000000) (f:Nat) (hfu:f<=1000000) (rf:List (Int×Int)) (er:Option (Str×Int)) (hf:uU d.c T od f 1 (r0 d.c) (s0 d.c)=some (rf,er)):
  CallX H Tryz.prog 47 [.c (.v cp),.c (.sl 4 0 od.length 1)] [(4,⟨true,od.map nC,3⟩)] (fun _:Unit=> .tup [.c (.sl 1 0 rf.length 2),Ws (er.getD ([],0)).1,Wi (er.getD ([],0)).2]) (fun _=>[(1,⟨false,zD (rf.map yN),45⟩)]) (fun _ _=>True):=by
 have hn1:=k.n1
 have hn2:=k.n2
 obtain⟨b0,o0,rfl,c0,el0,mk0,hc0,hcc⟩:=PtH.at k.c.p
 refine kX Tryz.func47 Om Tryz.ntmps47 fun C hR hP hH hL=>?_
 have hR:=hR () C hL trivial
 have hpt:=k.c.p.mono hH
 refine zB 100 (vv ?_)
 refine Sm.dg 110 12 ze (vv ?_)
 refine DOpQ.own 120 (zq rfl rfl) (vv ?_)
 refine DOpQ.own 120 (zY rfl rfl rfl) (vv ?_)
 refine DOpQ.own 120 (zY rfl rfl rfl) (vv ?_)
 refine zE 120 (fun _=>zW (hH _ _ hc0) (hcc 4 _ rfl) rfl rfl rfl) (vv ?_)
 refine DOpQ.own 120 (zq rfl rfl) (vv ?_)
 refine DOpQ.own 120 (zY rfl rfl rfl) (vv ?_)
 refine DOpQ.own 120 (zY rfl rfl rfl) (vv ?_)
 refine zE 120 (fun _=>zW (hH _ _ hc0) (hcc 5 _ rfl) rfl rfl rfl) ?_
 simp only[go_sem,qh (kb d.c)]
 have e1:IntKind.i64.wrap ((d.ins.length:Int)+(d.bls.length:Int))=((d.ins.length+d.bls.length:Nat):Int):=by rw[ya zA zA];omega
 simp only[e1,Int.toNat_natCast]
 refine⟨⟨zA,zA,zA⟩,?_⟩
 refine zk 1 147 30 hpt rfl rfl (zB 130 ?_)
 refine vv ?_
 refine Sm.bringR 5 51 34 (k.o.i.mono hH) rfl rfl ?_
 have hl5:(d.ins.map Po.r).length=d.ins.length:=Ku _
 rw[hl5]
 have hz5:=zP (r:=Po.r) (k:=4) (fun _=>rfl) d.ins
 have hgi:∀j (h:j<d.ins.length),kb d.c j=(d.ins[j].lo,d.ins[j].hi):=fun j h=>by
  unfold kb
  have:d.c.ins.getD j ZO=d.ins[j]:=by
   show d.ins.getD j ZO=_
   rw[Kw,Kz h];rfl
  rw[this]
 have hM:ClM [(4,⟨true,od.map nC,3⟩)]:=zC (by simp only[Ky,zh (xK _)];rfl)
 refine zG (M0:=[(4,⟨true,od.map nC,3⟩)]) (α:={i:Nat//i<=d.ins.length}) hP (fun i=>[(0,true,.c (.v (.pointer (some ⟨b0,o0,none⟩)))),(1,true,.c (.sl 4 0 od.length 1)),(7,true,.c (.sl 2 0 (d.ins.length+d.bls.length) 2)),(34,true,.c (.sl 5 0 d.ins.length 4)),(35,true,I d.ins.length),(36,true,I i.val)])
  (fun i=>[(4,⟨true,od.map nC,3⟩),(2,⟨false,zD ((x8 (kb d.c) (d.ins.length+d.bls.length) i.val).map yN),45⟩),(5,⟨true,zD (d.ins.map Po.r),51⟩)]) (fun i=>d.ins.length-i.val) ⟨0,zA⟩ (fun i=>zC (by simp only[Ky,zh (xK _),iR];rfl)) (fun _=>zO rfl) [(4,4),(2,120),(5,5)] ?_ ?_
 ·exact z9
 rintro⟨i,hi⟩ J hj
 simp only at hj hi⊢
 refine zB 140 (vv ?_)
 refine zU (fun hc=>?_) (fun hc=>?_)
 ·have hc:=zH hc
  have htk:=z6 (r:=Po.r) (k:=4) (fun _=>rfl) d.ins i hc
  have hul:=zP (r:=yN) (k:=2) (fun _=>rfl) (x8 (kb d.c) (d.ins.length+d.bls.length) i)
  rw[vT]at hul
  have hst:=wC (x8 (kb d.c) (d.ins.length+d.bls.length) i) i (kb d.c i)
  rw[rl zA,hgi i hc]at hst
  simp only[go_sem,htk,hz5,hul]
  simp only[hst,yT (i:=i)]
  refine⟨⟨zA,zA⟩,zA,⟨zA,zA⟩,zA,?_⟩
  refine zB 150 ?_
  simp only[go_sem,yT (i:=i)]
  exact hj _ _ ⟨i+1,hc⟩ [(4,4),(2,2),(5,5)] yF z9
 have hc:=zL hi hc
 subst hc
 clear hj
 have hr0:x8 (kb d.c) (d.ins.length+d.bls.length) d.ins.length=r0 d.c:=by
  unfold r0
  have e1:d.c.bls.length=d.bls.length:=Ku _
  rw[e1];rfl
 rw[hr0]
 have hlr0:(r0 d.c).length=d.ins.length+d.bls.length:=by rw[<-hr0,vT]
 refine zk 1 147 50 hpt rfl rfl (zB 150 ?_)
 simp only[go_sem,qh (nd d.c)]
 refine⟨⟨zA,zA,zA⟩,?_⟩
 refine zk 6 147 57 hpt rfl rfl (zB 160 ?_)
 refine vv ?_
 refine Sm.bringR 8 53 61 (k.o.bl.mono hH) rfl rfl ?_
 have hl8:(d.bls.map BlL.r).length=d.bls.length:=Ku _
 rw[hl8]
 have hz8:=zP (r:=BlL.r) (k:=6) (fun _=>rfl) d.bls
 refine zG (M0:=[(4,⟨true,od.map nC,3⟩)]) (α:={i:Nat//i<=d.bls.length}) hP (fun i=>[(0,true,.c (.v (.pointer (some ⟨b0,o0,none⟩)))),(1,true,.c (.sl 4 0 od.length 1)),(7,true,.c (.sl 2 0 (d.ins.length+d.bls.length) 2)),(10,true,.c (.sl 3 0 d.bls.length 2)),(61,true,.c (.sl 8 0 d.bls.length 6)),(62,true,I d.bls.length),(63,true,I i.val)])
  (fun i=>[(4,⟨true,od.map nC,3⟩),(2,⟨false,zD ((r0 d.c).map yN),45⟩),(3,⟨false,zD ((x8 (nd d.c) d.bls.length i.val).map yN),45⟩),(8,⟨true,zD (d.bls.map BlL.r),53⟩)]) (fun i=>d.bls.length-i.val) ⟨0,zA⟩ (fun i=>zC (by simp only[Ky,zh (xK _),iR];rfl)) (fun _=>zO rfl) [(4,4),(2,2),(3,150),(8,8)] ?_ ?_
 ·exact z9
 rintro⟨i,hi⟩ J hj
 simp only at hj hi⊢
 refine zB 170 (vv ?_)
 refine zU (fun hc=>?_) (fun hc=>?_)
 ·have hc:=zH hc
  have htk:=z6 (r:=BlL.r) (k:=6) (fun _=>rfl) d.bls i hc
  have hul:=zP (r:=yN) (k:=2) (fun _=>rfl) (x8 (nd d.c) d.bls.length i)
  rw[vT]at hul
  have hmem:d.bls[i]∈d.bls:=JE hc
  have hbo:=k.o.bls _ hmem
  have hbk:=hok _ hmem
  have hgd:d.c.bls.getD i vh=d.bls[i].c:=by
   show(d.bls.map BlL.c).getD i vh=_
   rw[Kw,JK,Kz hc];rfl
  have hsf:nd d.c i=bif d.bls[i].c.kd==tZ then(d.bls[i].c.ks.getD 0 0,d.bls[i].c.ks.getD 0 0)else(0,0):=by unfold nd;rw[hgd]
  generalize d.bls[i]=b at*
  simp only[go_sem,htk,hz8]
  refine⟨⟨zA,zA⟩,zA,?_⟩
  refine zU (fun hd=>?_) (fun hd=>?_)
  ·have hd:(b.c.kd==tZ)=true:=hd
   rw[hd,cond_true]at hsf
   obtain⟨k0,hk0⟩:=um (xW hbk hd (by rfl)).2
   obtain⟨bi,oi,ci',hi1,csi,eli,mki,hci,hcci⟩:=hbo.k.at (by rw[hk0];simp[zZ])
   have hio:b.k.o=some ⟨bi,oi,none⟩:=by injection hi1
   have hkl:b.c.ks.length=1:=by rw[hk0];rfl
   have hx0:csi[oi+0]?=some (iv k0):=hcci 0 _ (by rw[hk0];rfl)
   rw[hk0]at hsf
   have hsf:nd d.c i=(k0,k0):=hsf
   have hst:=wC (x8 (nd d.c) d.bls.length i) i (nd d.c i)
   rw[rl hc,hsf]at hst
   refine Sm.dg 180 11 ze ?_
   simp only[go_sem,hio]
   refine DOpQ.own 180 (Stp.idxV rfl rfl rfl rfl zA zA) (vv ?_)
   refine zE 180 (fun _=>zW (hH _ _ hci) hx0 rfl rfl rfl) (vv ?_)
   refine DOpQ.own 180 (Stp.idxV rfl rfl rfl rfl zA zA) (vv ?_)
   refine zE 180 (fun _=>zW (hH _ _ hci) hx0 rfl rfl rfl) ?_
   simp only[go_sem,hul]
   simp only[hst]
   refine⟨⟨zA,zA⟩,zA,?_⟩
   refine zB 190 ?_
   simp only[go_sem,yT (i:=i)]
   exact hj _ _ ⟨i+1,hc⟩ [(4,4),(2,2),(3,3),(8,8)] yF z9
  ·have hd:(b.c.kd==tZ)=false:=hd
   rw[hd,cond_false]at hsf
   refine zB 190 ?_
   simp only[go_sem,yT (i:=i)]
   rw[mB hsf]
   exact hj _ _ ⟨i+1,hc⟩ [(4,4),(2,2),(3,3),(8,8)] yF z9
 have hc:=zL hi hc
 subst hc
 clear hj
 have hs0:x8 (nd d.c) d.bls.length d.bls.length=s0 d.c:=by
  unfold s0
  have e1:d.c.bls.length=d.bls.length:=Ku _
  rw[e1]
 rw[hs0]
 have hls0:(s0 d.c).length=d.bls.length:=by rw[<-hs0,vT]
 have hms:∀rs st:List (Int×Int),ClM [(4,⟨true,od.map nC,3⟩),(2,⟨false,zD (rs.map yN),45⟩),(3,⟨false,zD (st.map yN),45⟩)]:=fun rs st=>zC (by simp only[Ky,zh (xK _),iR];rfl)
 refine zG (M0:=[(4,⟨true,od.map nC,3⟩)]) (α:={q:Nat×Nat×List (Int×Int)×List (Int×Int)//q.1+q.2.1=f+1/\q.2.2.1.length=d.ins.length+d.bls.length/\q.2.2.2.length=d.bls.length/\uU d.c T od q.1 (q.2.1:Int) q.2.2.1 q.2.2.2=some (rf,er)}) hP (fun q=>[(0,true,.c (.v (.pointer (some ⟨b0,o0,none⟩)))),(1,true,.c (.sl 4 0 od.length 1)),(7,true,.c (.sl 2 0 (d.ins.length+d.bls.length) 2)),(10,true,.c (.sl 3 0 d.bls.length 2)),(13,true,I q.val.2.1)])
  (fun q=>[(4,⟨true,od.map nC,3⟩),(2,⟨false,zD (q.val.2.2.1.map yN),45⟩),(3,⟨false,zD (q.val.2.2.2.map yN),45⟩)]) (fun q=>q.val.1) ⟨(f,1,r0 d.c,s0 d.c),rfl,hlr0,hls0,hf⟩ (fun q=>hms _ _) (fun _=>zO rfl) [(4,4),(2,2),(3,3)] ?_ ?_
 ·exact z9
 rintro⟨⟨fu,n,rs,st⟩,hfn,hlr,hls,hx⟩ J hj
 simp only at hj hfn hlr hls hx⊢
 cases fu with
 |zero=>cases hx
 |succ fu=>
 rw[uU]at hx
 have hrd:=WT k hok hin T hT rs st od hlr hls h3 h4
 rw[hlr,hls]at hrd
 refine zB 170 (vv ?_)
 have hrl:=uw d.c T st od rs
 have hre:=oO d.c T st od rs
 refine CallQ.hr [(2,2),(3,3),(4,4)] 180 hrd hH (zC (by unfold Pa;simp only[Ky,zh (xK _),iR];rfl)) rfl rfl ⟨oY,⟨_,rfl,fI (zS _)⟩,⟨_,rfl,fI (xK _)⟩,trivial⟩ rfl (.inl rfl) ?_
 simp only[Mem.ren,Kv,Kx,yO (zS _),V.ren,Cv.ren,rn,Nat.reduceBEq,cond_true,cond_false]
 generalize yh d.c T st od rs=q at*
 obtain⟨rq,e⟩:=q
 simp only at hx hrl hre⊢
 cases e with
 |some e=>
  injection hx with hx
  obtain⟨rfl,rfl⟩:=Prod.mk.inj hx
  have he:(e.2 !=0)=true:=by rw[bne,hre e rfl];rfl
  simp only[go_sem,Option.getD_some,he]
  refine zw 200 2 45 [4] [] rfl (vv ?_)
  refine RetQ.ren [(1,200),(4,4)] hR hP rfl xb rfl rfl ?_ ?_ ?_ (zI rfl)
  ·exact⟨⟨rfl,rfl⟩,trivial⟩
  ·exact⟨oR,oV (yO (xK _)),trivial⟩
  ·exact zC (by simp only[JC,JD,Ky,zh (xK _),iR];rfl)
 |none=>
 simp only[go_sem,Option.getD_none]
 have hkp:=Ud k hok hin rq st (n:Int) (hrl.trans hlr) hls
 have hkl:=tV d.c (decide (8<=(n:Int))) rq (List.range d.bls.length) st false
 rw[hrl.trans hlr,hls]at hkp
 refine CallQ.hr [(2,2),(3,3)] 200 hkp hH (zC (by unfold Pn;simp only[Ky,iR];rfl)) rfl rfl ⟨oY,⟨_,rfl,fI (zS _)⟩,trivial⟩ rfl (.inl rfl) ?_
 simp only[Mem.ren,Kv,Kx,yO (zS _),V.ren,Cv.ren,rn,Nat.reduceBEq,cond_true,cond_false]
 have hbl:d.c.bls.length=d.bls.length:=Ku _
 rw[hbl]at hx
 generalize rh d.c (decide (8<=(n:Int))) rq (List.range d.bls.length) st false=q at*
 obtain⟨sq,ch⟩:=q
 simp only at hx hkl⊢
 cases ch with
 |true=>
  rw[cond_true]at hx
  refine vv ?_
  refine zB 220 ?_
  simp only[go_sem,yT (i:=n)]
  exact hj _ _ ⟨(fu,n+1,rq,sq),by simp only;omega,hrl.trans hlr,hkl.trans hls,by simpa using hx⟩ [(4,4),(2,2),(3,3)] yF z9
 |false=>
  rw[cond_false]at hx
  injection hx with hx
  obtain⟨rfl,rfl⟩:=Prod.mk.inj hx
  refine vv ?_
  refine RetQ.ren [(1,2),(4,4)] hR hP rfl xb rfl ?_ ?_ ?_ ?_ (zI rfl)
  ·rw[hrl.trans hlr];rfl
  ·exact⟨⟨rfl,rfl⟩,trivial⟩
  ·exact⟨oX,oV (yO (xK _)),trivial⟩
  ·exact zC (by simp only[JC,JD,Ky,zh (xK _),iR];rfl)
end Go.Proofs.YtkciabfilokfiaaGreat.Fx
namespace Go.Proofs.YtkciabfilokfiaaGreat.Fx
theorem lk (s:Int)(a:Ft)(x:Int)(t:Ft):(x9 t).1<=gR s a x t/\gR s a x t<=(x9 t).2:=by
 unfold gR x9
 cases h:yE t with
 |true=>
  have:=rZ t h
  simp only[cond_true]
  split
  ·unfold qs;omega
  ·omega
 |false=>
  have e:v3 a x t=1:=by rw[v3,if_pos (.inr h)]
  rw[e];simp
theorem ll (a:Ft)(x:Int)(t:Ft):(x9 t).1<=gR 1 a x t/\gR 1 a x t<=(x9 t).2:=lk 1 a x t
theorem YO (t:Ft):(x9 t).1<=0/\0<=(x9 t).2:=by
 unfold x9
 cases h:yE t with
 |true=>have:=rZ t h;simp only[cond_true];omega
 |false=>simp
theorem U7 {t:Ft}(h:yE t=true):(x9 t).1<=0/\1<=(x9 t).2:=by
 have:=rZ t h
 unfold x9
 rw[h];simp only[cond_true];omega
def wQ (t:Ft)(r:Int×Int):Prop:=(x9 t).1<=r.1/\r.1<=r.2/\r.2<=(x9 t).2
theorem dt (t:Ft):wQ t (0,0):=⟨(YO t).1,JW _,(YO t).2⟩
theorem co {X X' Y:Int}(hY:0<Y)(h:X<=X'):rnd 3 X Y<=rnd 3 X' Y:=
 (lV X' Y _ hY).2 (by have:=(lV X Y (rnd 3 X Y) hY).1 (JW _);omega)
theorem mP {t:Ft}{n n' d:Int}(ht:yE t=true)(hd:0<d)(h:n<=n'):qs t n d<=qs t n' d:=by
 have hb:=xC ht
 have h1:=Jk h (show 0<=t.den by omega)
 have h2:rnd 3 (n*t.den-t.off*d) (d*t.num)<=rnd 3 (n'*t.den-t.off*d) (d*t.num):=co (Int.mul_pos hd zA) zA
 unfold qs;omega
theorem yv {a:Ft}{r:Int×Int}{x:Int}(h:wQ a r)(ha:yE a=true)(h1:r.1<=x)(h2:x<=r.2):fin a x=true:=by
 obtain⟨q1,q2,q3⟩:=h
 unfold x9 at q1 q3
 rw[ha]at q1 q3
 simp only[cond_true]at q1 q3
 unfold fin
 rw[JG,decide_eq_true_eq,decide_eq_true_eq]
 omega
theorem eJ {a t:Ft}{r:Int×Int}{x y:Int}(h:wQ a r)(h1:r.1<=x)(h2:x<=r.2)(h3:r.1<=y)(h4:y<=r.2):v3 a x t=v3 a y t:=by
 unfold v3
 cases ha:yE a with
 |false=>simp
 |true=>rw[yv h ha h1 h2,yv h ha h3 h4]
theorem YX {a t:Ft}{r:Int×Int}{x y:Int}(h:wQ a r)(h1:r.1<=x)(hxy:x<=y)(h4:y<=r.2):gR 1 a x t<=gR 1 a y t:=by
 have e:=eJ (t:=t) h h1 zA zA h4
 unfold gR
 rw[e]
 split
 ·rename_i h0
  have hf:yE a=true/\yE t=true:=by
   unfold v3 at h0
   split at h0
   ·cases h0
   ·rename_i hh
    cases ha:yE a with
    |false=>rw[ha]at hh;simp at hh
    |true=>cases ht:yE t with
     |false=>rw[ht]at hh;simp at hh
     |true=>exact⟨rfl,rfl⟩
  have hb:=xC hf.1
  have:=wR hf.1 hxy
  exact mP hf.2 zA zA
 ·exact JW _
theorem YY {a t:Ft}{r:Int×Int}{x y:Int}(h:wQ a r)(h1:r.1<=x)(hxy:x<=y)(h4:y<=r.2):gR (-1) a y t<=gR (-1) a x t:=by
 have e:=eJ (t:=t) h h1 zA zA h4
 unfold gR
 rw[e]
 split
 ·rename_i h0
  have hf:yE a=true/\yE t=true:=by
   unfold v3 at h0
   split at h0
   ·cases h0
   ·rename_i hh
    cases ha:yE a with
    |false=>rw[ha]at hh;simp at hh
    |true=>cases ht:yE t with
     |false=>rw[ht]at hh;simp at hh
     |true=>exact⟨rfl,rfl⟩
  have hb:=xC hf.1
  have:=wR hf.1 hxy
  exact mP hf.2 zA zA
 ·exact JW _
theorem aM {a t:Ft}{r:Int×Int}(h:wQ a r):wQ t (xf r a t):=
 ⟨(ll a r.1 t).1,YX h (JW _) h.2.1 (JW _),(ll a r.2 t).2⟩
theorem gZ {t:Ft}{a b:Int×Int}(ha:wQ t a)(hb:wQ t b):wQ t (vp a b):=by
 obtain⟨a1,a2,a3⟩:=ha
 obtain⟨b1,b2,b3⟩:=hb
 unfold vp
 refine⟨?_,?_,?_⟩
 ·show _<=min a.1 b.1;omega
 ·show min a.1 b.1<=max a.2 b.2;omega
 ·show max a.2 b.2<=_;omega
theorem VE (t:Ft)(h:(x9 t).1<=(x9 t).2):wQ t (x9 t):=⟨JW _,h,JW _⟩
theorem YV (t:Ft):wQ t (x9 t):=VE t (by have:=YO t;omega)
theorem qr {t:Ft}(ht:yE t=true){m n:Bool}(h:m=true\/n=true):wQ t (oG m n):=by
 have:=U7 ht
 unfold oG
 cases m<;>cases n<;>simp only[cond_true,cond_false]
 ·simp at h
 ·exact⟨by show _<=(0:Int);omega,yg,by show(0:Int)<=_;omega⟩
 ·exact⟨by show _<=(1:Int);omega,yg,by show(1:Int)<=_;omega⟩
 ·exact⟨by show _<=(0:Int);omega,yg,by show(1:Int)<=_;omega⟩
theorem bu {r:Int×Int}(h:r.1<=r.2):(xB r).1=true\/(xB r).2=true:=by
 unfold xB
 simp only
 by_cases h0:r.1=0/\r.2=0
 ·right
  rw[h0.1,h0.2];rfl
 ·left
  rw[Jr,Bool.and_eq_false_iff]
  rcases Classical.not_and_iff_not_or_not.1 h0 with h1|h1
  ·exact .inl (by simpa using h1)
  ·exact .inr (by simpa using h1)
theorem Ua {a b:Ft}{x y:Int}(h:lB a x b y=true):sO a x b y=0/\yq a x*b.den<yq b y*a.den:=by
 unfold lB at h
 split at h
 ·rename_i h0;exact⟨h0,of_decide_eq_true h⟩
 ·cases h
theorem dU {a b:Ft}{x y:Int}(h:sO a x b y=0):yE a=true/\yE b=true:=by
 unfold sO at h
 split at h
 ·cases h
 ·rename_i hh
  cases ha:yE a with
  |false=>rw[ha]at hh;simp at hh
  |true=>cases hb:yE b with
   |false=>rw[hb]at hh;simp at hh
   |true=>exact⟨rfl,rfl⟩
theorem VF {t ta tb:Ft}{a b:Int×Int}(ht:yE t=true)(ha:wQ ta a)(hb:wQ tb b)(l:Bool):wQ t (np l a b ta tb):=by
 unfold np
 cases l with
 |true=>
  rw[cond_true]
  refine qr ht ?_
  cases h1:lB ta a.2 tb b.1 with
  |false=>exact .inr rfl
  |true=>
   -- all of a lies below all of b
   left
   obtain⟨h2,h3⟩:=Ua h1
   obtain⟨f1,f2⟩:=dU h2
   have k1:=wR f1 ha.2.1
   have k2:=wR f2 hb.2.1
   have b1:=xC f1
   have b2:=xC f2
   have m1:=Jk k1 (show 0<=tb.den by omega)
   have m2:=Jk k2 (show 0<=ta.den by omega)
   have e:sO ta a.1 tb b.2=0:=by
    unfold sO at h2⊢
    rw[yv ha f1 (JW _) ha.2.1,yv hb f2 hb.2.1 (JW _)]
    rw[yv ha f1 ha.2.1 (JW _),yv hb f2 (JW _) hb.2.1]at h2
    exact h2
   unfold lB
   rw[if_pos e,decide_eq_true_eq]
   omega
 |false=>
  rw[cond_false]
  refine qr ht ?_
  cases Vh a b ta tb with
  |false=>exact .inl rfl
  |true=>right;cases (bif a.1==a.2 then b.1==b.2 else false)<;>rfl
theorem gY {t:Ft}{a b:Int×Int}(ht:yE t=true)(ha:a.1<=a.2)(hb:b.1<=b.2)(k:Nat):wQ t (sK k a b):=by
 have h1:=bu ha
 have h2:=bu hb
 unfold sK
 split
 ·exact qr ht h1.symm
 ·refine qr ht ?_
  revert h1 h2
  cases (xB a).1<;>cases (xB a).2<;>cases (xB b).1<;>cases (xB b).2<;>simp
 ·refine qr ht ?_
  revert h1 h2
  cases (xB a).1<;>cases (xB a).2<;>cases (xB b).1<;>cases (xB b).2<;>simp
theorem Pt {t ta tb:Ft}{a b:Int×Int}(ht:yE t=true)(op:Int):wQ t (vR op a b ta tb t):=by
 unfold vR nv nw
 by_cases h0:wH op a.1 a.2 b.1 b.2 ta tb t=0
 ·rw[if_pos h0,if_pos h0]
  have q1:=u6 op ta a.1 tb b.1 t ht
  have q2:=u6 op ta a.1 tb b.2 t ht
  have q3:=u6 op ta a.2 tb b.1 t ht
  have q4:=u6 op ta a.2 tb b.2 t ht
  unfold wQ x9
  rw[ht]
  simp only[cond_true]
  omega
 ·rw[if_neg h0,if_neg h0]
  exact dt t
theorem qT {t:Ft}{x:Int}(h:pT t x=true):(x9 t).1<=x/\x<=(x9 t).2:=by
 unfold pT at h
 rw[JG,decide_eq_true_eq,decide_eq_true_eq]at h
 exact h
theorem YW {t:Ft}{r:Int×Int}{k0 k1:Int}(h:wQ t r)(h0:pT t k0=true)(h1:pT t k1=true)(hk:k0<=k1):wQ t (qp r k0 k1):=by
 obtain⟨a1,a2,a3⟩:=h
 have:=qT h0
 have:=qT h1
 unfold qp
 refine⟨?_,?_,?_⟩
 ·show _<=min (max r.1 k0) k1;omega
 ·show min (max r.1 k0) k1<=min (max r.2 k0) k1;omega
 ·show min (max r.2 k0) k1<=_;omega
theorem ZA {t:Ft}{b:Bl}{rs:List (Int×Int)}{ts:List Ft}{pr tb:Int×Int}(ht:yE t=true)(hn:rI t b=true)(ha:∀i,wQ (ts.getD i dW) (rs.getD i (0,0)))(hp:wQ t pr)(htb:jD b.kd=true->wQ t tb):wQ t (zi t b rs ts pr tb).1:=by
 have hc:∀i,wQ t (po rs ts t i):=fun i=>aM (ha i)
 have hm:∀i,(rs.getD i (0,0)).1<=(rs.getD i (0,0)).2:=fun i=>(ha i).2.1
 unfold zi
 simp only
 have bif_l:∀{c:Bool} {x y:(Int×Int)×Int},(c=true->wQ t x.1)->(c=false->wQ t y.1)->wQ t (bif c then x else y).1:=fun{c x y} h1 h2=>by cases c;exact h2 rfl;exact h1 rfl
 refine bif_l (fun h=>?_) fun _=>?_
 ·have hk:b.kd=kE:=by simpa[kE]using h
  unfold rI at hn
  rw[if_pos (by rw[hk];decide)]at hn
  have:=qT hn
  exact⟨this.1,JW _,this.2⟩
 refine bif_l (fun _=>Pt ht _) fun _=>?_
 refine bif_l (fun _=>⟨(lk _ _ _ _).1,YY (ha 0) (JW _) (hm 0) (JW _),(lk _ _ _ _).2⟩) fun _=>?_
 refine bif_l (fun _=>hc 0) fun _=>?_
 refine bif_l (fun _=>?_) fun _=>?_
 ·obtain⟨a1,a2,a3⟩:=hc 0
  obtain⟨b1,b2,b3⟩:=hc 1
  exact⟨by show _<=min _ _;omega,by show min _ _<=min _ _;omega,by show min _ _<=_;omega⟩
 refine bif_l (fun _=>?_) fun _=>?_
 ·obtain⟨a1,a2,a3⟩:=hc 0
  obtain⟨b1,b2,b3⟩:=hc 1
  exact⟨by show _<=max _ _;omega,by show max _ _<=max _ _;omega,by show max _ _<=_;omega⟩
 refine bif_l (fun h=>?_) fun _=>?_
 ·have hk:b.kd=jf:=by simpa[jf]using h
  unfold rI at hn
  rw[if_neg (by rw[hk];decide),if_pos (by rw[hk];decide),JG,JG,decide_eq_true_eq]at hn
  exact YW (hc 0) hn.1 hn.2.1 hn.2.2
 refine bif_l (fun h=>htb h) fun _=>?_
 refine bif_l (fun _=>?_) fun _=>?_
 ·show wQ t (bif _ then _ else bif _ then _ else _)
  cases (!(xB (rs.getD 0 (0,0))).2)with
  |true=>exact hc 1
  |false=>
   cases (!(xB (rs.getD 0 (0,0))).1)with
   |true=>exact hc 2
   |false=>exact gZ (hc 1) (hc 2)
 refine bif_l (fun _=>VF ht (ha 0) (ha 1) _) fun _=>?_
 refine bif_l (fun _=>gY (b:=(0,0)) ht (hm 0) (JW 0) 0) fun _=>?_
 refine bif_l (fun _=>gY ht (hm 0) (hm 1) 1) fun _=>?_
 refine bif_l (fun _=>gY ht (hm 0) (hm 1) 2) fun _=>?_
 refine bif_l (fun _=>qr ht ?_) fun _=>?_
 ·have:=hm 0
  by_cases h1:b.ks.getD 1 0<=(rs.getD 0 (0,0)).2
  ·exact .inl (decide_eq_true h1)
  ·exact .inr (decide_eq_true zA)
 refine bif_l (fun _=>hp) fun _=>gZ hp (hc 0)
theorem iD {t:Ft}{b:Bl}{rs:List (Int×Int)}{ts:List Ft}{pr tb:Int×Int}(h:b.kd=qq):(zi t b rs ts pr tb).1=vp pr (xf (rs.getD 0 (0,0)) (ts.getD 0 dW) t):=by
 unfold zi
 rw[h]
 rfl
end Go.Proofs.YtkciabfilokfiaaGreat.Fx
