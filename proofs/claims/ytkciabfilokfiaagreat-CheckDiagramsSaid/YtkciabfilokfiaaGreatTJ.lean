/-  -/
import Derived.Test.YtkciabfilokfiaaGreatSD
open Go.Proofs.Tryz
set_option linter.unusedSimpArgs false
set_option linter.unusedVariables false
set_option maxRecDepth 100000
set_option maxHeartbeats 4000000
namespace Go.Proofs.YtkciabfilokfiaaGreat.Fx
open Vg Tf
theorem Z6 {H:Hp}(d:DgL)(hd:d.ok H)(h1:d.ins.length<=1000000)(h2:d.bls.length<=1000000)(hlI:∀b∈d.bls,b.c.ins.length<=1000000)(hin:∀b∈d.bls,∀s∈b.c.ins,sW (zQ d.c) s=true)(f:Nat)(hf:f<d.bls.length):
  CallX H Tryz.prog 132 [.agg (rk d),I f] (xU d) (fun _:Unit=> .c (.sl 1 0 d.bls.length 1)) (fun _=>[(1,⟨false,(nh (yS d.c) d.bls.length f).map bC,4⟩)]) (fun _ _=>True):=by
 have z5:=zP (r:=BlL.r) (k:=6) (fun _=>rfl) d.bls
 have hBl:=vP d
 refine kX func132 Rk ntmps132 fun C hR hP hH hL=>?_
 have hR:=hR () C hL trivial
 refine zB 100 ?_
 simp only[go_sem,bE,sX]
 refine⟨⟨zA,zA,zA⟩,?_⟩
 generalize hB:yS d.c=B at*
 let Mm:List Bool->Mem:=fun s=>(2,⟨false,rk d,29⟩)::(1,⟨false,s.map bC,4⟩)::xU d
 have hcl:∀s,ClM (Mm s):=fun s=>zC (by simp only[Mm,Ky,zh (uB _),iR];rfl)
 refine zG (M0:=xU d) (α:={x:List Bool×Bool//x.1.length=d.bls.length/\V6 B f x.1/\(x.2=false->∀i,i<d.bls.length->∀k∈B i,xV x.1 f k=true->x.1.getD i false=true)}) hP (fun x=>[(1,true,I f),(2,true,.c (.p 2 0)),(5,true,I d.ins.length),(6,true,.c (.sl 1 0 d.bls.length 1)),(7,true,Bo x.val.2)])
  (fun x=>Mm x.val.1) (fun x=>bif x.val.2 then oj x.val.1+1 else 0) ⟨(List.replicate d.bls.length false,true),zc,fun i h=>(by rw[Kw,IK]at h;split at h<;>cases h),fun h=>(by cases h)⟩ (fun _=>hcl _) (fun _=>zO rfl) [(2,100),(1,101),(4,4),(5,5)] ?_ ?_
 ·exact z9
 rintro⟨⟨s0,ag0⟩,hl0,hs0,hc0⟩ J hj
 simp only at hj hl0 hs0 hc0⊢
 refine zB 150 ?_
 cases ag0 with
 |false=>
  simp only[go_sem,Mm]
  have hfin:=bJ hBl hl0 hs0 (hc0 rfl)
  rw[<-hfin]at hR
  exact RetQ.ren [(1,1),(4,4),(5,5)] hR hP rfl xb rfl rfl ⟨⟨rfl,rfl⟩,⟨rfl,rfl⟩,trivial⟩ ⟨oV (yO (uB _)),oX,oX,trivial⟩ (zC (by simp only[JC,JD,Ky,zh (uB _),iR];rfl)) (zI rfl)
 |true=>
 simp only[go_sem,Mm]
 refine zG (M0:=xU d) (α:={x:Nat×List Bool×Bool//x.1<=d.bls.length/\x.2.1.length=d.bls.length/\V6 B f x.2.1/\oU B f (List.range d.bls.length) (s0,false)=oU B f ((List.range d.bls.length).drop x.1) x.2}) hP (fun x=>[(1,true,I f),(2,true,.c (.p 2 0)),(5,true,I d.ins.length),(6,true,.c (.sl 1 0 d.bls.length 1)),(7,true,Bo x.val.2.2),(8,true,I x.val.1)])
  (fun x=>Mm x.val.2.1) (fun x=>d.bls.length-x.val.1) ⟨(0,s0,false),zA,hl0,hs0,rfl⟩ (fun _=>hcl _) (fun _=>zO rfl) [(2,2),(1,1),(4,4),(5,5)] ?_ ?_
 ·exact z9
 rintro⟨⟨i,s,ag⟩,hi,hls,hss,hx⟩ J2 hj2
 simp only at hj2 hi hls hss hx⊢
 refine zB 160 ?_
 simp only[go_sem,Mm]
 refine zU (fun hc=>?_) (fun hc=>?_)
 ·have hc:=zH hc
  have hg:(s.map bC)[i]?=some (bC (s.getD i false)):=uo zA
  have f1:=zy (r:=BlL.r) (k:=6) (fun _=>rfl) d.bls i 1 hc zA
  have f3:=zy (r:=BlL.r) (k:=6) (fun _=>rfl) d.bls i 3 hc zA
  have hmem:d.bls[i]∈d.bls:=JE hc
  have hbo:=hd.bls _ hmem
  have hbl:=hlI _ hmem
  have hbi:=hin _ hmem
  have hnd:B i=tm (zQ d.c) d.ins.length d.bls[i].c:=by rw[<-hB];exact uQ hc
  have hslt:=xh d
  have hdr:(List.range d.bls.length).drop i=i::(List.range d.bls.length).drop (i+1):=by
   rw[JA (by simpa using hc)];simp
  rw[hdr,oU]at hx
  obtain⟨n1,n2,_⟩:=fR (f:=f) hc (s,ag) hls hss
  have hst:qY B f i (s,ag)=bif !s.getD i false&&(B i).any (xV s f)then(s.set i true,true)else(s,ag):=rfl
  generalize d.bls[i]=b at*
  simp only[go_sem,hg,f1,f3,BlL.r,JP,Jb,JM]
  have hskip:∀x,qY B f i (s,ag)=x->x=(s,ag)->∀J':Prop,J'=J':=fun _ _ _ _=>rfl
  clear hskip
  refine⟨⟨zA,zA⟩,fun h=>⟨h,h,zA,zA⟩,?_⟩
  cases hsi:s.getD i false with
  |true=>
   rw[hsi]at hst
   have hst:qY B f i (s,ag)=(s,ag):=hst
   rw[hst]at hx
   simp only[go_sem,yT (i:=i)]
   exact hj2 _ _ ⟨(i+1,s,ag),hc,hls,hss,hx⟩ [(2,2),(1,1),(4,4),(5,5)] yF z9
  |false=>
  rw[hsi]at hst
  refine vv ?_
  refine zU (fun hkd=>?_) (fun hkd=>?_)
  ·have hkd:(b.c.kd==uW)=true:=hkd
   have hBi:B i=[]:=by rw[hnd];unfold tm;rw[if_pos hkd]
   rw[hBi]at hst
   have hst:qY B f i (s,ag)=(s,ag):=hst
   rw[hst]at hx
   simp only[go_sem,yT (i:=i)]
   exact hj2 _ _ ⟨(i+1,s,ag),hc,hls,hss,hx⟩ [(2,2),(1,1),(4,4),(5,5)] yF z9
  have hkd:(b.c.kd==uW)=false:=hkd
  have hBi:B i=rx (zQ d.c) d.ins.length b.c.ins b.c.ins.length:=by rw[hnd];unfold tm rx;rw[if_neg (by rw[hkd];simp),Jh]
  have hst:qY B f i (s,ag)=bif (B i).any (xV s f)then(s.set i true,true)else(s,ag):=by rw[hst];rfl
  refine zG (M0:=xU d) (α:={k:Nat//k<=b.c.ins.length}) hP (fun k=>[(1,true,I f),(2,true,.c (.p 2 0)),(5,true,I d.ins.length),(6,true,.c (.sl 1 0 d.bls.length 1)),(7,true,Bo (bif (rx (zQ d.c) d.ins.length b.c.ins k.val).any (xV s f)then true else ag)),(8,true,I i),(9,true,I k.val)])
   (fun k=>Mm (bif (rx (zQ d.c) d.ins.length b.c.ins k.val).any (xV s f)then s.set i true else s)) (fun k=>b.c.ins.length-k.val) ⟨0,zA⟩ (fun _=>hcl _) (fun _=>zO rfl) [(2,2),(1,1),(4,4),(5,5)] ?_ ?_
  ·exact z9
  rintro⟨k,hk⟩ J3 hj3
  simp only at hj3 hk⊢
  refine zB 170 ?_
  simp only[go_sem,Mm,f1,f3,BlL.r,JP,Jb,JM]
  refine⟨⟨zA,zA⟩,?_⟩
  refine zU (fun hk2=>?_) (fun hk2=>?_)
  ·have hk2:=zH hk2
   obtain⟨bi,oi,ci',hi1,csi,eli,mki,hci,hcci⟩:=hbo.i.at (by
    intro h0
    have:=congrArg List.length h0
    rw[uY,Ku]at this
    simp at this;rw[this]at hk2;simp at hk2)
   have hio:b.i.o=some ⟨bi,oi,none⟩:=by injection hi1
   have hx0:csi[oi+k]?=some (sv b.c.ins[k]):=hcci k _ (by rw[uY];simp[hk2])
   have hsb:=hbi b.c.ins[k] (JE hk2)
   have hfe:=ow hsb
   have hsl:=uF hsb
   have hsu:=ja (zQ d.c) d.ins.length b.c.ins k hk2
   have hfd:=nD d b.c.ins[k] zA zA
   refine Sm.dg 180 12 ze ?_
   simp only[go_sem,f3,BlL.r,JP,Jb,JM,hio]
   refine⟨⟨zA,zA⟩,?_⟩
   refine DOpQ.own 180 (Stp.idxV rfl rfl rfl jE zA zA) (vv ?_)
   refine zE 180 (fun _=>zW (hH _ _ hci) hx0 rfl rfl rfl) (vv ?_)
   refine DCallQ.ren [(4,4),(5,5)] 190 hfd (zo d) rfl rfl ⟨oY,oY,trivial⟩ rfl (.inr rfl) rfl rfl ?_
   rw[hfe]
   generalize hsq:xv (zQ d.c) b.c.ins[k]=sq at*
   have hnn:wq (zQ d.c) d.ins.length b.c.ins[k]=if d.ins.length<=sq then[sq-d.ins.length]else[]:=by unfold wq;rw[hsq]
   have w0:IntKind.i64.wrap ((sq:Int)-(d.ins.length:Int))=(sq:Int)-(d.ins.length:Int):=by rw[ya zA zA]
   simp only[go_sem,w0]
   have hskl:(bif (rx (zQ d.c) d.ins.length b.c.ins k).any (xV s f)then s.set i true else s).length=d.bls.length:=by
    cases (rx (zQ d.c) d.ins.length b.c.ins k).any (xV s f)
    ·exact hls
    ·exact(Jc ..).trans hls
   generalize hsk:(bif (rx (zQ d.c) d.ins.length b.c.ins k).any (xV s f)then s.set i true else s)=sk at*
   generalize hak:(bif (rx (zQ d.c) d.ins.length b.c.ins k).any (xV s f)then true else ag)=ak at*
   have hok:∀z,(rx (zQ d.c) d.ins.length b.c.ins (k+1)).any (xV s f)=((rx (zQ d.c) d.ins.length b.c.ins k).any (xV s f)||z)->z=false->
     (bif (rx (zQ d.c) d.ins.length b.c.ins (k+1)).any (xV s f)then s.set i true else s)=sk/\(bif (rx (zQ d.c) d.ins.length b.c.ins (k+1)).any (xV s f)then true else ag)=ak:=fun z h hz=>by
    subst hz
    rw[h,IB,hsk,hak]
    exact⟨rfl,rfl⟩
   rcases I4 sq d.ins.length with hlt3|hge3
   ·have e1:((sq:Int)-(d.ins.length:Int)==(f:Int))=false:=by
     rw[beq_eq_false_iff_ne];omega
    have e2:decide (0<=(sq:Int)-(d.ins.length:Int))=false:=decide_eq_false zA
    have e3:((sq:Int)-(d.ins.length:Int)).toNat=0:=zA
    have g0:(sk.map bC)[0]?=some (bC (sk.getD 0 false)):=uo zA
    rw[if_neg zA]at hnn
    rw[hnn,JB]at hsu
    obtain⟨q1,q2⟩:=hok false (by rw[hsu,IB]) rfl
    simp only[go_sem,e1,e2,e3,g0,yT (i:=k)]
    refine hj3 _ _ ⟨k+1,hk2⟩ [(2,2),(1,1),(4,4),(5,5)] yF ?_
    rw[q1,q2]
    exact z9
   ·have e0:(sq:Int)-(d.ins.length:Int)=((sq-d.ins.length:Nat):Int):=zA
    have e2:decide (0<=((sq-d.ins.length:Nat):Int))=true:=decide_eq_true zA
    have e1:(((sq-d.ins.length:Nat):Int)==(f:Int))=(sq-d.ins.length==f):=by
     rw[JQ,beq_iff_eq,beq_iff_eq];omega
    have g0:(sk.map bC)[sq-d.ins.length]?=some (bC (sk.getD (sq-d.ins.length) false)):=uo zA
    rw[if_pos hge3]at hnn
    rw[hnn]at hsu
    generalize hjj:sq-d.ins.length=jj at*
    have hA1:(rx (zQ d.c) d.ins.length b.c.ins (k+1)).any (xV s f)=((rx (zQ d.c) d.ins.length b.c.ins k).any (xV s f)||xV s f jj):=by rw[hsu,List.any_append,List.any_cons,List.any_nil,IB]
    have hno:xV sk f jj=false->(bif (rx (zQ d.c) d.ins.length b.c.ins (k+1)).any (xV s f)then s.set i true else s)=sk/\(bif (rx (zQ d.c) d.ins.length b.c.ins (k+1)).any (xV s f)then true else ag)=ak:=fun h=>by
     cases hA:(rx (zQ d.c) d.ins.length b.c.ins k).any (xV s f)with
     |true=>
      refine hok false ?_ rfl
      rw[hA1,hA];rfl
     |false=>
      rw[hA,cond_false]at hsk
      subst hsk
      exact hok _ hA1 h
    have hye:xV sk f jj=true->(bif (rx (zQ d.c) d.ins.length b.c.ins (k+1)).any (xV s f)then s.set i true else s)=sk.set i true/\(bif (rx (zQ d.c) d.ins.length b.c.ins (k+1)).any (xV s f)then true else ag)=true:=fun h=>by
     cases hA:(rx (zQ d.c) d.ins.length b.c.ins k).any (xV s f)with
     |true=>
      rw[hA,cond_true]at hsk
      rw[hA1,hA,Bool.true_or,cond_true,cond_true,<-hsk,List.set_set]
      exact⟨rfl,rfl⟩
     |false=>
      rw[hA,cond_false]at hsk
      subst hsk
      rw[hA1,hA,h]
      exact⟨rfl,rfl⟩
    have hset:(sk.map bC).set i (bC true)=(sk.set i true).map bC:=by rw[IU]
    have hfin:xV sk f jj=true->((0<=(i:Int)/\(i:Int)<(d.bls.length:Int))/\i+1<=(sk.map bC).length):=fun _=>⟨⟨zA,zA⟩,by rw[Ku];omega⟩
    cases hjf:jj==f with
    |true=>
     rw[hjf]at e1
     obtain⟨q1,q2⟩:=hye (by unfold xV;rw[hjf];rfl)
     simp only[go_sem,e0,e1,e2,g0,hset,yT (i:=k)]
     refine⟨(hfin (by unfold xV;rw[hjf];rfl)).1,(hfin (by unfold xV;rw[hjf];rfl)).2,?_⟩
     refine hj3 _ _ ⟨k+1,hk2⟩ [(2,2),(1,1),(4,4),(5,5)] yF ?_
     rw[q1,q2]
     exact z9
    |false=>
     rw[hjf]at e1
     cases hsj:sk.getD jj false with
     |true=>
      obtain⟨q1,q2⟩:=hye (by unfold xV;rw[hsj,IG])
      rw[hsj]at g0
      simp only[go_sem,e0,e1,e2,g0,hset,yT (i:=k)]
      refine⟨⟨zA,zA⟩,(hfin (by unfold xV;rw[hsj,IG])).1,(hfin (by unfold xV;rw[hsj,IG])).2,?_⟩
      refine hj3 _ _ ⟨k+1,hk2⟩ [(2,2),(1,1),(4,4),(5,5)] yF ?_
      rw[q1,q2]
      exact z9
     |false=>
      obtain⟨q1,q2⟩:=hno (by unfold xV;rw[hjf,hsj];rfl)
      rw[hsj]at g0
      simp only[go_sem,e0,e1,e2,g0,hset,yT (i:=k)]
      refine⟨⟨zA,zA⟩,?_⟩
      refine hj3 _ _ ⟨k+1,hk2⟩ [(2,2),(1,1),(4,4),(5,5)] yF ?_
      rw[q1,q2]
      exact z9
  ·have hk2:=zL hk hk2
   rw[<-hk2]at hBi
   rw[hBi]at hst
   simp only[go_sem,yT (i:=i)]
   rw[hst]at hx n1 n2
   cases hA:(rx (zQ d.c) d.ins.length b.c.ins k).any (xV s f)with
   |true=>
    rw[hA]at hx n1 n2
    exact hj2 _ _ ⟨(i+1,s.set i true,true),hc,n1,n2,hx⟩ [(2,2),(1,1),(4,4),(5,5)] yF z9
   |false=>
    rw[hA]at hx
    exact hj2 _ _ ⟨(i+1,s,ag),hc,hls,hss,hx⟩ [(2,2),(1,1),(4,4),(5,5)] yF z9
 ·have hc:=zL hi hc
  subst hc
  rw[Id zc]at hx
  have hx:oU B f (List.range d.bls.length) (s0,false)=(s,ag):=hx
  have hpk:=fo (N:=d.bls.length) (List.range d.bls.length) (s0,false) (fun i hi=>Jj.1 hi) hl0 hs0
  rw[hx]at hpk
  obtain⟨p1,p2,p3⟩:=hpk
  refine hj _ _ ⟨(s,ag),p1,p2,?_⟩ [(2,2),(1,1),(4,4),(5,5)] ?_ z9
  ·intro hag
   rcases p3 with⟨a,_⟩|⟨a,q⟩
   ·rw[hag]at a;cases a
   ·injection a with a1 a2
    subst a1
    exact fun i hi=>q i (Jj.2 hi)
  ·simp only
   rcases p3 with⟨a,q⟩|⟨a,_⟩
   ·have a:ag=true:=a
    rw[a];simp only[cond_true]at q⊢;omega
   ·injection a with a1 a2
    subst a2
    simp
section
variable {P:Program} {nt:Nat} {C:Cx} {todo r:List It} {e e0:Env} {M M0 Mf:Mem}
theorem _root_.Go.Proofs.YtkciabfilokfiaaGreat.Vg.CallQ.hm {H:Hp}{f:FuncId}{vs:List (Option (Bool×V))}{g:Bool}{dst:Option Nat}{xs:List V}{v:V}{M1:Mem}(nx:Nat)(hc:g=true->CallX H P f xs M1 (fun _:Unit=>v) (fun _=>[]) (fun _ _=>True))(hH:H.le C.hp)(hcl:ClM M1)(hvs:g=true->vs=xs.map fun x=>some (true,x))
  (hs:SubS M1 M) (h:run P nt C 1000 todo (e.put dst g v) M nx):CallQ P nt C f vs g dst todo e M:=
 Or.inl ⟨M1,[],v,xs,hvs,fun h=> .inr (CallX.kx (hc h) hH hcl (fun _=>rfl) (fun _=>rfl)),hs.sub,hcl,Fresh.nil _ _,.inr rfl,xM 1000 _ _ _ nx h⟩
theorem _root_.Go.Proofs.YtkciabfilokfiaaGreat.Vg.DCallQ.hm {H:Hp}{id:Nat}{rg:Array Oper}{k:Nat}{T:List (Nat×Nat)}{i:Nat}{o:Oper}{l:List Oper}{f:FuncId}{vs:List (Option (Bool×V))}{g:Bool}{dst:Option Nat}{xs:List V}{v:V}{M1:Mem}(nx:Nat)(hc:g=true->CallX H P f xs M1 (fun _:Unit=>v) (fun _=>[]) (fun _ _=>True))(hH:H.le C.hp)(hcl:ClM M1)(hvs:g=true->vs=xs.map fun x=>some (true,x))
  (hs:SubS M1 M0) (h:uI P nt C id rg r e0 M0 Mf k (wv P nt C (.ops rg (rg.toList.drop k)::r)) T (i+1) l (e.put dst g v) M nx):DCallQ P nt C id rg r e0 M0 Mf k T i o f vs g dst l e M:=
 ⟨M1,[],M0,v,xs,hvs,fun h=> .inr (CallX.kx (hc h) hH hcl (fun _=>rfl) (fun _=>rfl)),hs.sub,hcl,Fresh.nil _ _,.inr rfl,⟨fun _ _ h=> .inl h,fun _ h=>by cases h⟩,vi nx h⟩
end
@[reducible] def ej (H:Hp)(d:DgL)(f:FuncId)(xs:List V)(v:V):Prop:=CallX H Tryz.prog f (.agg (rk d)::xs) (xU d) (fun _:Unit=>v) (fun _=>[]) (fun _ _=>True)
section
variable {nt:Nat} {C:Cx} {todo r:List It} {e e0:Env} {M M0 Mf:Mem} {H:Hp} {d:DgL}
theorem yM {M:Mem}(m4:M.get 4=some ⟨true,zD (d.ins.map Po.r),51⟩)(m5:M.get 5=some ⟨true,zD (d.bls.map BlL.r),53⟩):SubS (xU d) M:=⟨⟨_,m4,.inl rfl⟩,⟨_,m5,.inl rfl⟩,trivial⟩
theorem _root_.Go.Proofs.YtkciabfilokfiaaGreat.Vg.CallQ.dm {f:FuncId}{vs:List (Option (Bool×V))}{g:Bool}{dst:Option Nat}{xs:List V}{v:V}(nx:Nat)(hc:g=true->ej H d f xs v)(hH:H.le C.hp)(hvs:g=true->vs=(V.agg (rk d)::xs).map fun x=>some (true,x))
  (m4:M.get 4=some ⟨true,zD (d.ins.map Po.r),51⟩) (m5:M.get 5=some ⟨true,zD (d.bls.map BlL.r),53⟩) (h:run Tryz.prog nt C 1000 todo (e.put dst g v) M nx):CallQ Tryz.prog nt C f vs g dst todo e M:=
 CallQ.hm nx hc hH (zo d) hvs (yM m4 m5) h
theorem _root_.Go.Proofs.YtkciabfilokfiaaGreat.Vg.DCallQ.dm {id:Nat}{rg:Array Oper}{k:Nat}{T:List (Nat×Nat)}{i:Nat}{o:Oper}{l:List Oper}{f:FuncId}{vs:List (Option (Bool×V))}{g:Bool}{dst:Option Nat}{xs:List V}{v:V}(nx:Nat)(hc:g=true->ej H d f xs v)(hH:H.le C.hp)(hvs:g=true->vs=(V.agg (rk d)::xs).map fun x=>some (true,x))
  (m4:M0.get 4=some ⟨true,zD (d.ins.map Po.r),51⟩) (m5:M0.get 5=some ⟨true,zD (d.bls.map BlL.r),53⟩)
  (h:uI Tryz.prog nt C id rg r e0 M0 Mf k (wv Tryz.prog nt C (.ops rg (rg.toList.drop k)::r)) T (i+1) l (e.put dst g v) M nx):DCallQ Tryz.prog nt C id rg r e0 M0 Mf k T i o f vs g dst l e M:=
 DCallQ.hm nx hc hH (zo d) hvs (yM m4 m5) h
end
theorem ov {α:Type}(f:α->Str)(s:Str):∀(l:List α) (k:Nat),(l.find? (fun x=>f x==s)=none/\wn s (l.map f) k=none)\/∃i,∃h:i<l.length,wn s (l.map f) k=some (k+i)/\l.find? (fun x=>f x==s)=some l[i]
 |[],k=> .inl ⟨rfl,rfl⟩
 |x::l,k=>by
  rw[Kv,List.find?_cons,wn]
  by_cases h:f x=s
  ·refine .inr ⟨0,Nat.zero_lt_succ _,?_,?_⟩
   ·rw[if_pos h];rfl
   ·have:(f x==s)=true:=beq_iff_eq.2 h
    rw[this];rfl
  ·have h':(f x==s)=false:=beq_eq_false_iff_ne.2 h
   rw[if_neg h,h']
   rcases ov f s l (k+1)with⟨a,b⟩|⟨i,hi,a,b⟩
   ·exact .inl ⟨a,b⟩
   ·refine .inr ⟨i+1,Nat.succ_lt_succ hi,?_,?_⟩
    ·rw[a];congr 1;omega
    ·simpa using b
theorem aO {α:Type}(f:α->Str)(s:Str)(l:List α):(l.find? (fun x=>f x==s)=none/\yw (l.map f) s= -1)\/∃i,∃h:i<l.length,yw (l.map f) s=(i:Int)/\l.find? (fun x=>f x==s)=some l[i]:=by
 rcases ov f s l 0 with⟨a,b⟩|⟨i,hi,a,b⟩
 ·exact .inl ⟨a,by unfold yw;rw[b]⟩
 ·exact .inr ⟨i,hi,by unfold yw;rw[a,Ja],b⟩
theorem o4 {α:Type}(f:α->Str)(l:List α)(i:Nat)(h:i<l.length):(l.map f).getD i []=f l[i]:=by
 rw[Kw,JK,Kz h];rfl
theorem yu {H:Hp}(d:DgL)(hd:d.ok H)(h0:d.tys.length<=1000000)(s:Str):ej H d 125 [S s] (I (yw (d.tys.map (·.nm)) s)):=by
 have z1:=zP (r:=Td.r) (k:=11) (fun _=>rfl) d.tys
 have hsl:(d.tys.map (·.nm)).length=d.tys.length:=Ku _
 generalize hV:yw (d.tys.map (·.nm)) s=V
 refine kX func125 Rr ntmps125 fun C hR hP hH hL=>?_
 have hR:=hR () C hL trivial
 refine zB 100 (vv ?_)
 refine Sm.bringC 11 78 100 1 (hd.ty.mono hH) rfl rfl rfl ?_
 rw[Ku]
 refine zG (M0:=xU d) (α:={i:Nat//i<=d.tys.length/\wn s (d.tys.map (·.nm)) 0=wn s ((d.tys.map (·.nm)).drop i) i}) hP (fun i=>[(1,true,S s),(2,true,.c (.p 2 0)),(5,true,I i.val)]) (fun _=>(2,⟨false,[.v (sv d.nm),.sl 11 0 d.tys.length 11,.v (vsl d.cu d.cus.length),.v (vsl d.ma d.mas.length),.sl 4 0 d.ins.length 4,.sl 5 0 d.bls.length 6,.v (vsl d.ou d.ous.length)],29⟩)::(11,⟨true,zD (d.tys.map Td.r),78⟩)::xU d) (fun i=>d.tys.length-i.val) ⟨0,zA,rfl⟩ (fun _=>cM) (fun _=>zO rfl) [(2,100),(11,11),(4,4),(5,5)] ?_ ?_
 ·exact z9
 rintro⟨i,hi,hx⟩ J hj
 simp only at hj hi hx⊢
 refine zB 120 (vv ?_)
 refine zU (fun hc=>?_) (fun hc=>?_)
 ·have hc:=zH hc
  rw[tB s _ i zA,o4 _ _ i hc]at hx
  have f0:=zy (r:=Td.r) (k:=11) (fun _=>rfl) d.tys i 0 hc zA
  rw[JV]at f0
  generalize d.tys[i]=x at*
  simp only[go_sem,f0,Td.r,JP,JM]
  refine⟨⟨zA,zA⟩,?_⟩
  refine zU (fun hd=>?_) (fun hd=>?_)
  ·rw[if_pos (eq_of_beq hd)]at hx
   refine zX hR rfl ⟨rfl,trivial⟩ ?_ (SubS.sub ⟨oS,oS,trivial⟩) (zo d) (zI rfl)
   rw[<-hV];unfold yw;rw[hx];rfl
  ·rw[if_neg (fun h=>by rw[h]at hd;simp at hd)]at hx
   simp only[go_sem,yT (i:=i)]
   exact hj _ _ ⟨i+1,hc,hx⟩ [(2,2),(11,11),(4,4),(5,5)] yF z9
 have hc:=zL hi hc
 subst hc
 rw[Jl zA]at hx
 refine vv ?_
 refine zX hR rfl ⟨rfl,trivial⟩ ?_ (SubS.sub ⟨oS,oS,trivial⟩) (zo d) (zI rfl)
 rw[<-hV];unfold yw;rw[hx];rfl
theorem bG {H:Hp}(d:DgL)(hd:d.ok H)(h0:d.cus.length<=1000000)(s:Str):ej H d 126 [S s] (I (yw (d.cus.map (·.c.nm)) s)):=by
 have z1:=zP (r:=CuL.r) (k:=3) (fun _=>rfl) d.cus
 have hsl:(d.cus.map (·.c.nm)).length=d.cus.length:=Ku _
 generalize hV:yw (d.cus.map (·.c.nm)) s=V
 refine kX func126 Rq ntmps126 fun C hR hP hH hL=>?_
 have hR:=hR () C hL trivial
 refine zB 100 (vv ?_)
 refine Sm.bringC 11 84 100 2 (hd.cu.mono hH) rfl rfl rfl ?_
 rw[Ku]
 refine zG (M0:=xU d) (α:={i:Nat//i<=d.cus.length/\wn s (d.cus.map (·.c.nm)) 0=wn s ((d.cus.map (·.c.nm)).drop i) i}) hP (fun i=>[(1,true,S s),(2,true,.c (.p 2 0)),(5,true,I i.val)]) (fun _=>(2,⟨false,[.v (sv d.nm),.v (vsl d.ty d.tys.length),.sl 11 0 d.cus.length 3,.v (vsl d.ma d.mas.length),.sl 4 0 d.ins.length 4,.sl 5 0 d.bls.length 6,.v (vsl d.ou d.ous.length)],29⟩)::(11,⟨true,zD (d.cus.map CuL.r),84⟩)::xU d) (fun i=>d.cus.length-i.val) ⟨0,zA,rfl⟩ (fun _=>cM) (fun _=>zO rfl) [(2,100),(11,11),(4,4),(5,5)] ?_ ?_
 ·exact z9
 rintro⟨i,hi,hx⟩ J hj
 simp only at hj hi hx⊢
 refine zB 120 (vv ?_)
 refine zU (fun hc=>?_) (fun hc=>?_)
 ·have hc:=zH hc
  rw[tB s _ i zA,o4 _ _ i hc]at hx
  have f0:=zy (r:=CuL.r) (k:=3) (fun _=>rfl) d.cus i 0 hc zA
  rw[JV]at f0
  generalize d.cus[i]=x at*
  simp only[go_sem,f0,CuL.r,JP,JM]
  refine⟨⟨zA,zA⟩,?_⟩
  refine zU (fun hd=>?_) (fun hd=>?_)
  ·rw[if_pos (eq_of_beq hd)]at hx
   refine zX hR rfl ⟨rfl,trivial⟩ ?_ (SubS.sub ⟨oS,oS,trivial⟩) (zo d) (zI rfl)
   rw[<-hV];unfold yw;rw[hx];rfl
  ·rw[if_neg (fun h=>by rw[h]at hd;simp at hd)]at hx
   simp only[go_sem,yT (i:=i)]
   exact hj _ _ ⟨i+1,hc,hx⟩ [(2,2),(11,11),(4,4),(5,5)] yF z9
 have hc:=zL hi hc
 subst hc
 rw[Jl zA]at hx
 refine vv ?_
 refine zX hR rfl ⟨rfl,trivial⟩ ?_ (SubS.sub ⟨oS,oS,trivial⟩) (zo d) (zI rfl)
 rw[<-hV];unfold yw;rw[hx];rfl
theorem bA {H:Hp}(d:DgL)(hd:d.ok H)(h0:d.mas.length<=1000000)(s:Str):ej H d 127 [S s] (I (yw (d.mas.map (·.nm)) s)):=by
 have z1:=zP (r:=MpL.r) (k:=4) (fun _=>rfl) d.mas
 have hsl:(d.mas.map (·.nm)).length=d.mas.length:=Ku _
 generalize hV:yw (d.mas.map (·.nm)) s=V
 refine kX func127 Rp ntmps127 fun C hR hP hH hL=>?_
 have hR:=hR () C hL trivial
 refine zB 100 (vv ?_)
 refine Sm.bringC 11 91 100 3 (hd.ma.mono hH) rfl rfl rfl ?_
 rw[Ku]
 refine zG (M0:=xU d) (α:={i:Nat//i<=d.mas.length/\wn s (d.mas.map (·.nm)) 0=wn s ((d.mas.map (·.nm)).drop i) i}) hP (fun i=>[(1,true,S s),(2,true,.c (.p 2 0)),(5,true,I i.val)]) (fun _=>(2,⟨false,[.v (sv d.nm),.v (vsl d.ty d.tys.length),.v (vsl d.cu d.cus.length),.sl 11 0 d.mas.length 4,.sl 4 0 d.ins.length 4,.sl 5 0 d.bls.length 6,.v (vsl d.ou d.ous.length)],29⟩)::(11,⟨true,zD (d.mas.map MpL.r),91⟩)::xU d) (fun i=>d.mas.length-i.val) ⟨0,zA,rfl⟩ (fun _=>cM) (fun _=>zO rfl) [(2,100),(11,11),(4,4),(5,5)] ?_ ?_
 ·exact z9
 rintro⟨i,hi,hx⟩ J hj
 simp only at hj hi hx⊢
 refine zB 120 (vv ?_)
 refine zU (fun hc=>?_) (fun hc=>?_)
 ·have hc:=zH hc
  rw[tB s _ i zA,o4 _ _ i hc]at hx
  have f0:=zy (r:=MpL.r) (k:=4) (fun _=>rfl) d.mas i 0 hc zA
  rw[JV]at f0
  generalize d.mas[i]=x at*
  simp only[go_sem,f0,MpL.r,JP,JM]
  refine⟨⟨zA,zA⟩,?_⟩
  refine zU (fun hd=>?_) (fun hd=>?_)
  ·rw[if_pos (eq_of_beq hd)]at hx
   refine zX hR rfl ⟨rfl,trivial⟩ ?_ (SubS.sub ⟨oS,oS,trivial⟩) (zo d) (zI rfl)
   rw[<-hV];unfold yw;rw[hx];rfl
  ·rw[if_neg (fun h=>by rw[h]at hd;simp at hd)]at hx
   simp only[go_sem,yT (i:=i)]
   exact hj _ _ ⟨i+1,hc,hx⟩ [(2,2),(11,11),(4,4),(5,5)] yF z9
 have hc:=zL hi hc
 subst hc
 rw[Jl zA]at hx
 refine vv ?_
 refine zX hR rfl ⟨rfl,trivial⟩ ?_ (SubS.sub ⟨oS,oS,trivial⟩) (zo d) (zI rfl)
 rw[<-hV];unfold yw;rw[hx];rfl
theorem fO (d:DgL){i:Nat}(h:i<d.ins.length):rD d.c i=d.ins[i].ty:=by
 unfold rD
 have:i<d.c.ins.length:=h
 rw[if_pos this];exact o4 (·.ty) d.ins i h
theorem ZV (d:DgL){i:Nat}(h:¬i<d.ins.length)(h2:i-d.ins.length<d.bls.length):rD d.c i=d.bls[i-d.ins.length].c.ty:=by
 unfold rD
 have:¬i<d.c.ins.length:=h
 rw[if_neg this]
 have:=o4 (fun b:BlL=>b.c.ty) d.bls (i-d.ins.length) h2
 rw[<-this]
 show((d.bls.map BlL.c).map (·.ty)).getD _ []=_
 rw[JJ];rfl
theorem WO {H:Hp}(d:DgL)(i:Nat)(hi:i<d.ins.length+d.bls.length)(h1:d.ins.length<=1000000)(h2:d.bls.length<=1000000):ej H d 184 [I i] (S (rD d.c i)):=by
 refine CallOk.toX ?_
 have z4:=zP (r:=Po.r) (k:=4) (fun _=>rfl) d.ins
 have z5:=zP (r:=BlL.r) (k:=6) (fun _=>rfl) d.bls
 generalize hT:rD d.c i=T
 refine kN 100 func184 Sz ntmps184 fun C hR hP=>?_
 refine vv ?_
 refine zU (fun hc=>?_) (fun hc=>?_)
 ·have hc:=zH hc
  have f0:=zy (r:=Po.r) (k:=4) (fun _=>rfl) d.ins i 1 hc zA
  rw[fO d hc]at hT
  generalize d.ins[i]=x at*
  simp only[go_sem,f0,Po.r,JP,Jb,JM]
  refine⟨⟨zA,zA⟩,?_⟩
  subst hT
  exact yI hR (zo d)
 ·have hc:¬i<d.ins.length:=fun h=>by rw[decide_eq_true zA]at hc;cases hc
  have hj:i-d.ins.length<d.bls.length:=zA
  have f0:=zy (r:=BlL.r) (k:=6) (fun _=>rfl) d.bls (i-d.ins.length) 2 hj zA
  have w1:IntKind.i64.wrap ((i:Int)-(d.ins.length:Int))=((i-d.ins.length:Nat):Int):=by rw[ya zA zA];omega
  rw[ZV d hc hj]at hT
  generalize d.bls[i-d.ins.length]=x at*
  simp only[go_sem,f0,w1,BlL.r,JP,Jb,JM]
  refine⟨⟨zA,zA⟩,?_⟩
  subst hT
  exact yI hR (zo d)
theorem xa (l:List Td)(s:Str):(vk l s=none/\yw (l.map (·.nm)) s= -1)\/∃i,∃h:i<l.length,yw (l.map (·.nm)) s=(i:Int)/\vk l s=some l[i].ty:=by
 rcases aO (fun t:Td=>t.nm) s l with⟨a,b⟩|⟨i,hi,a,b⟩
 ·exact .inl ⟨by unfold vk;rw[a];rfl,b⟩
 ·exact .inr ⟨i,hi,a,by unfold vk;rw[b];rfl⟩
theorem ce {H:Hp}(d:DgL)(hd:d.ok H)(h0:d.tys.length<=1000000)(h1:d.ins.length<=1000000)(h2:d.bls.length<=1000000)(i:Nat)(hi:i<d.ins.length+d.bls.length):ej H d 123 [I i] (.tup [.agg (rJ (yU d.c i)),ZG (vk d.tys (rD d.c i)).isSome]):=by
 have z1:=zP (r:=Td.r) (k:=11) (fun _=>rfl) d.tys
 have hf:=yu d hd h0 (rD d.c i)
 have hty:yU d.c i=yB d.tys (rD d.c i):=rfl
 have hq:=xa d.tys (rD d.c i)
 generalize hT:yU d.c i=T at*
 refine kX func123 Rt ntmps123 fun C hR hP hH hL=>?_
 have hR:=hR () C hL trivial
 refine zB 100 (vv ?_)
 refine Sm.dg 110 4 ze (vv ?_)
 refine DCallQ.dm 120 (fun _=>WO d i hi h1 h2) hH (fun _=>rfl) rfl rfl (vv ?_)
 refine CallQ.dm 130 (fun _=>hf) hH (fun _=>rfl) rfl rfl (vv ?_)
 rcases hq with⟨a,b⟩|⟨q,hq1,a,b⟩
 ·have hT0:T=dW:=by rw[hty];unfold yB;rw[a];rfl
  rw[a,hT0]at hR
  rw[b]
  refine vv ?_
  exact zX hR rfl (vv trivial) tr (SubS.sub (yM rfl rfl)) (zo d) (zI rfl)
 ·have hT0:T=d.tys[q].ty:=by rw[hty];unfold yB;rw[b];rfl
  rw[b]at hR
  rw[a]
  have e0:decide ((q:Int)<0)=false:=decide_eq_false zA
  simp only[go_sem,e0]
  refine Sm.bringR 11 78 16 (hd.ty.mono hH) rfl rfl ?_
  rw[Ku]
  have f1:=vV (r:=Td.r) (k:=11) (fun _=>rfl) d.tys q 1 10 hq1 zA
  rw[hT0]at hR
  generalize d.tys[q]=x at*
  refine zB 140 ?_
  simp only[go_sem,f1,Td.r,I9,Jp,List.take_succ_cons,List.take_zero]
  refine⟨⟨zA,zA⟩,zA,?_⟩
  exact zX hR rfl (vv trivial) tr (SubS.sub (yM rfl rfl)) (zo d) (zI rfl)
theorem ph {H:Hp}(d:DgL)(hd:d.ok H)(h0:d.tys.length<=1000000)(h1:d.ins.length<=1000000)(h2:d.bls.length<=1000000)(i:Nat)(hi:i<d.ins.length+d.bls.length):ej H d 64 [I i] (.agg (rJ (yU d.c i))):=by
 have hf:=ce d hd h0 h1 h2 i hi
 generalize yU d.c i=T at*
 refine kX func64 O6 ntmps64 fun C hR hP hH hL=>?_
 have hR:=hR () C hL trivial
 refine zB 100 (vv ?_)
 refine CallQ.dm 130 (fun _=>hf) hH (fun _=>rfl) rfl rfl (vv ?_)
 exact zX hR rfl (vv trivial) tr (SubS.sub (yM rfl rfl)) (zo d) (zI rfl)
end Go.Proofs.YtkciabfilokfiaaGreat.Fx
