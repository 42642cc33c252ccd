/-  -/
import Derived.Test.YtkciabfilokfiaaGreatTT
import Derived.Test.YtkciabfilokfiaaGreatRows
open Go.Proofs.Tryz
open Go.Proofs.Tryz renaming prog→Hf
set_option linter.unusedVariables false
set_option linter.unusedSimpArgs false
set_option maxRecDepth 100000
set_option maxHeartbeats 4000000
namespace Go.Proofs.YtkciabfilokfiaaGreat.Fx
def YS (st:Str):List Str->List Str×List Str->Option (List Str×List Str)
 |[],q=>some q
 |x::r,q=>bif x==st then none else bif q.1.contains x then YS st r q else YS st r (x::q.1,q.2++[x])
def Yl (st s:Str):List Bl->List Str×List Str->Option (List Str×List Str)
 |[],q=>some q
 |b::r,q=>bif (bif !(b.nm==s)then true else b.kd==uW)then Yl st s r q else match YS st b.ins q with
  |none=>none
  |some q'=>Yl st s r q'
def Q8 (bs:List Bl)(st:Str):Nat->List Str×List Str->Bool
 |0,_=>false
 |f+1,q=>match q.2 with
  |[]=>false
  |s::nx=>match Yl st s bs (q.1,nx)with
   |none=>true
   |some q'=>Q8 bs st f q'
open Vg Tf
open Vg Tf
def kB (bs:List Bl)(st s:Str)(f:Nat)(r:List Bl)(q:List Str×List Str):Bool:=match Yl st s r q with
 |none=>true
 |some q'=>Q8 bs st f q'
def kI (bs:List Bl)(st s:Str)(f:Nat)(r:List Bl)(l:List Str)(q:List Str×List Str):Bool:=match YS st l q with
 |none=>true
 |some q'=>kB bs st s f r q'
open Vg Tf
open Vg Tf
@[go_sem ↓] theorem UQ:qk 1 11=[(0,11)]:=rfl
@[go_sem ↓] theorem Qq:qk 1 4=[(0,4)]:=rfl
@[go_sem ↓] theorem Qn:qk 3 6=[(0,6),(6,6),(12,6)]:=rfl
@[go_sem ↓] theorem Qo:qk 1 6=[(0,6)]:=rfl
def Ur:Ft:=⟨8,false,1,0,1,0,0,0,0,0⟩
def Y1:Td:=⟨[116],Ur⟩
def Y2:Po:=⟨[120],[116],0,10⟩
def Y8:Bl:=⟨[121],[97,100,100],[116],[[120],[120]],[],[]⟩
def Y7:Bl:=⟨[122],[100,101,108,97,121],[116],[[122,50]],[],[0]⟩
def Y6:Bl:=⟨[122,50],[97,100,100],[116],[[122],[120]],[],[]⟩
def exD:Dg:=⟨[100],[Y1],[],[],[Y2],[Y8,Y7,Y6],[]⟩
theorem jl {H:Hp}:CallX H Hf 38 [] [] (fun x:DgL=>yD x.r) (fun _=>[]) (fun x H'=>x.c=exD/\x.ok H'):=by
 refine kX func38 Oy ntmps38 fun C hR hP hH hL=>?_
 refine zB 100 (vv ?_)
 refine RetQ.letgo (M0:=[]) [104,105,106,107] hL hP rfl rfl (fun β C1 l1 k1 kn=>?_)
 obtain⟨s4,hv4,hk4⟩:=(kn 104 _ rfl rfl rfl).vslx (sz:=1) (rows:=yH [[120],[120]]) (by simp[yH]) rfl
 obtain⟨s5,hv5,hk5⟩:=(kn 105 _ rfl rfl rfl).vslx (sz:=1) (rows:=yH [[122,50]]) (by simp[yH]) rfl
 obtain⟨s6,hv6,hk6⟩:=(kn 106 _ rfl rfl rfl).vslx (sz:=1) (rows:=zZ [0]) (by simp[zZ]) rfl
 obtain⟨s7,hv7,hk7⟩:=(kn 107 _ rfl rfl rfl).vslx (sz:=1) (rows:=yH [[122],[120]]) (by simp[yH]) rfl
 have hv4:xe β (.sl 104 0 2 1)=vsl s4 2:=hv4
 have hv5:xe β (.sl 105 0 1 1)=vsl s5 1:=hv5
 have hv6:xe β (.sl 106 0 1 1)=vsl s6 1:=hv6
 have hv7:xe β (.sl 107 0 2 1)=vsl s7 2:=hv7
 simp only[Mem.conc,Env.conc,Bk.conc,Cv.conc,V.conc,Kv,Kx,Jn,List.contains_nil,Nat.reduceBEq,IB,IG,cond_true,cond_false,hv4,hv5,hv6,hv7]
 have lB:∀b∈[BlL.mk Y8 s4 ⟨none,0⟩,BlL.mk Y7 s5 s6,BlL.mk Y6 s7 ⟨none,0⟩],b.ok C1.hp:=by
  intro b hb
  simp only[JZ,IN,or_false]at hb
  rcases hb with rfl|rfl|rfl
  ·exact⟨hk4,SlH.nil _⟩
  ·exact⟨hk5,hk6⟩
  ·exact⟨hk7,SlH.nil _⟩
 refine RetQ.letgo (M0:=[]) [102,103,108] l1 hP rfl rfl (fun β' C2 l2 k2 kn2=>?_)
 obtain⟨s1,hv1,hk1⟩:=(kn2 102 _ rfl rfl rfl).vslx (sz:=11) (rows:=[Y1].map Td.r) (fun r hr=>by obtain⟨x,_,rfl⟩:=JO.1 hr;rfl) rfl
 obtain⟨s2,hv2,hk2⟩:=(kn2 103 _ rfl rfl rfl).vslx (sz:=4) (rows:=[Y2].map Po.r) (fun r hr=>by obtain⟨x,_,rfl⟩:=JO.1 hr;rfl) rfl
 obtain⟨s3,hv3,hk3⟩:=(kn2 108 _ rfl rfl rfl).vslx (sz:=6) (rows:=[BlL.mk Y8 s4 ⟨none,0⟩,BlL.mk Y7 s5 s6,BlL.mk Y6 s7 ⟨none,0⟩].map BlL.r) (fun r hr=>by obtain⟨x,_,rfl⟩:=JO.1 hr;rfl) rfl
 have hv1:xe β' (.sl 102 0 1 11)=vsl s1 1:=hv1
 have hv2:xe β' (.sl 103 0 1 4)=vsl s2 1:=hv2
 have hv3:xe β' (.sl 108 0 3 6)=vsl s3 3:=hv3
 simp only[Mem.conc,Env.conc,Bk.conc,Cv.conc,V.conc,Kv,Kx,Jn,List.contains_nil,Nat.reduceBEq,IB,IG,cond_true,cond_false,hv1,hv2,hv3]
 have hR':=hR (DgL.mk [100] [Y1] [] [] [Y2] [BlL.mk Y8 s4 ⟨none,0⟩,BlL.mk Y7 s5 s6,BlL.mk Y6 s7 ⟨none,0⟩] [] s1 ⟨none,0⟩ ⟨none,0⟩ s2 s3 ⟨none,0⟩) C2 l2 ⟨rfl,⟨hk1,SlH.nil _,SlH.nil _,hk2,hk3,SlH.nil _,zc,zc,fun b hb=>(lB b hb).mono k2⟩⟩
 exact zX hR' rfl (vv trivial) rfl (Sub.nil _) ClM.nil (zI rfl)
open Vg Tf
theorem _root_.Go.Proofs.YtkciabfilokfiaaGreat.Vg.Known.vslg {H:Hp}{β:Vl}{n:Nat}{b:Bk}(h:Known H β n b){sz:Nat}{rows:List (List Value)}(hr:∀r∈rows,r.length=sz)(hc:b.cells.map (Cv.g β)=rows.flatten):∃s:Sv,xe β (.sl n 0 rows.length sz)=vsl s rows.length/\SlH H (vsl s rows.length) sz rows:=by
 have h2:Known H β n ⟨b.ro,(b.cells.map (Cv.g β)).map .v,b.elem⟩:=by
  unfold Known at h⊢
  simp only[Ku,H8,ql]at h⊢
  exact h
 exact h2.vslx hr (by show(b.cells.map (Cv.g β)).map Cv.v=zD rows;rw[hc];rfl)
structure Dg.smP (d:Dg):Prop where
 nm:d.nm.length<=1000000000000000
 tys:d.tys.length<=1000000000000000/\∀t∈d.tys,t.nm.length<=1000000000000000
 cus:d.cus.length<=1000000000000000/\∀c∈d.cus,c.nm.length<=1000000000000000/\c.xs.length<=1000000000000000/\c.ys.length<=1000000000000000
 mas:d.mas.length<=1000000000000000/\∀m∈d.mas,m.nm.length<=1000000000000000/\∀v∈m.zs,v.length<=1000000000000000
 ins:d.ins.length<=1000000000000000/\∀p∈d.ins,p.nm.length<=1000000000000000/\p.ty.length<=1000000000000000
 bls:d.bls.length<=1000000000000000/\∀b∈d.bls,b.nm.length<=1000000000000000/\b.ty.length<=1000000000000000/\b.tb.length<=1000000000000000/\b.ins.length<=1000000000000000/\b.ks.length<=1000000000000000/\∀s∈b.ins,s.length<=1000000000000000
 ous:d.ous.length<=1000000000000000/\∀s∈d.ous,s.length<=1000000000000000
theorem XP {d:DgL}(h:Dg.smP d.c):d.sm:=
 ⟨h.nm,h.tys,⟨by have:=h.cus.1;simpa[DgL.c]using this,fun c hc=>h.cus.2 c.c (JO.2 ⟨c,hc,rfl⟩)⟩,
  ⟨by have:=h.mas.1;simpa[DgL.c]using this,fun m hm=>by
   have:=h.mas.2 m.c (JO.2 ⟨m,hm,rfl⟩)
   exact⟨this.1,fun v hv=>this.2 v.2 (JO.2 ⟨v,hv,rfl⟩)⟩⟩,h.ins,
  ⟨by have:=h.bls.1;simpa[DgL.c]using this,fun b hb=>h.bls.2 b.c (JO.2 ⟨b,hb,rfl⟩)⟩,h.ous⟩
theorem CkL.ok.mono {H H':Hp}(h:H.le H'){c:CkL}(k:c.ok H):c.ok H':=⟨k.d.mono h,k.s.mono h,k.o.mono h⟩
def Y5:Bl:=⟨[97],[97,100,100],[116],[[97],[120]],[],[]⟩
def exE:Dg:=⟨[100],[Y1],[],[],[Y2],[Y5],[]⟩
theorem VN:Dg.smP exD:=⟨yg,yg,yg,yg,yg,yg,yg⟩
theorem VM:Dg.smP exE:=⟨yg,yg,yg,yg,yg,yg,yg⟩
def T0:Bl->List (Int×Int)->Int×Int:=fun _ _=>(0,0)
theorem cS {H:Hp}{d:DgL}(h:d.c.bls.all (fun b=> !jD b.kd)=true):ZH H d T0:=fun H' cp bT bC bM bS _ _ b hb ht=>by
 have:=JI.1 h b.c (JO.2 ⟨b,hb,rfl⟩)
 rw[ht]at this;cases this
theorem Y4:(yt exD T0).2=([],0)/\dq (yt exD T0).1.sg [121]=some ⟨[121],Ur,(0,20)⟩/\dq (yt exD T0).1.sg [122]=some ⟨[122],Ur,(0,255)⟩/\(yt exD T0).1.sg.length=4:=by
 refine⟨?_,?_,?_,?_⟩<;>rfl
theorem Y3:(yt exE T0).2=([97],13):=by rfl
theorem awake_ {H:Hp}:CallH H Hf 11 [] (Bo true):=by
 have hchk:=fun{H':Hp} (x:DgL) (hx:x.c=exD) (o:x.ok H')=>kV x o (XP (by rw[hx];exact VN)) T0 (cS (by rw[hx];rfl))
 have hchk2:=fun{H':Hp} (x:DgL) (hx:x.c=exE) (o:x.ok H')=>kV x o (XP (by rw[hx];exact VM)) T0 (cS (by rw[hx];rfl))
 obtain⟨q1,q2,q3,q4⟩:=Y4
 refine kH func11 NH ntmps11 fun C hR hP hH hL=>?_
 refine zB 100 (vv ?_)
 refine CallQ.x 110 hL jl (zV _) (Sub.nil _) ClM.nil (fun _=>Fresh.nil _ _) rfl rfl rfl (fun x C1 H1 l1 k1 j1 p1=>?_)
 obtain⟨px,ox⟩:=p1
 have ox:=ox.mono j1
 refine vv ?_
 refine CallQ.x 120 l1 (hchk x px ox) (zV _) (Sub.nil _) ClM.nil (fun _=>Fresh.nil _ _) rfl rfl rfl (fun c C2 H2 l2 k2 j2 p2=>?_)
 obtain⟨pc,oc⟩:=p2
 have oc:=CkL.ok.mono j2 oc
 rw[px]at pc⊢
 rw[q1]
 have hsg:c.sg=(yt exD T0).1.sg:=congrArg CkR.sg pc
 have hcr:c.r.map Cv.v=[.v (sv c.d.nm),.v (vsl c.d.ty c.d.tys.length),.v (vsl c.d.cu c.d.cus.length),.v (vsl c.d.ma c.d.mas.length),.v (vsl c.d.i c.d.ins.length),.v (vsl c.d.bl c.d.bls.length),.v (vsl c.d.ou c.d.ous.length),.v (vsl c.s c.sg.length),.v (vsl c.o c.od.length)]:=rfl
 have hcr2:yD c.r= .agg [.v (sv c.d.nm),.v (vsl c.d.ty c.d.tys.length),.v (vsl c.d.cu c.d.cus.length),.v (vsl c.d.ma c.d.mas.length),.v (vsl c.d.i c.d.ins.length),.v (vsl c.d.bl c.d.bls.length),.v (vsl c.d.ou c.d.ous.length),.v (vsl c.s c.sg.length),.v (vsl c.o c.od.length)]:=rfl
 rw[hcr]
 have hS1:=eh c oc [121] (by rw[hsg,q4];decide)
 have hS2:=eh c oc [122] (by rw[hsg,q4];decide)
 have hy:dq c.sg [121]=some ⟨[121],Ur,(0,20)⟩:=by rw[hsg];exact q2
 have hz:dq c.sg [122]=some ⟨[122],Ur,(0,255)⟩:=by rw[hsg];exact q3
 rw[hy,hcr2]at hS1
 rw[hz,hcr2]at hS2
 simp only[Option.getD_some,Option.isSome_some]at hS1 hS2
 refine vv ?_
 refine z8 130 hS1 (zV _) rfl (vv ?_)
 refine z8 140 hS2 (zV _) rfl (vv ?_)
 refine CallQ.x 150 l2 jl (zV _) (Sub.nil _) ClM.nil (fun _=>Fresh.nil _ _) rfl rfl rfl (fun x3 C3 H3 l3 k3 j3 p3=>?_)
 obtain⟨px3,ox3⟩:=p3
 have ox3:=ox3.mono j3
 refine vv ?_
 have ex1:x3.tys=exD.tys:=congrArg Dg.tys px3
 have ex2:x3.ins=exD.ins:=congrArg Dg.ins px3
 have ex3:x3.nm=exD.nm:=congrArg Dg.nm px3
 have ex4:x3.ous=exD.ous:=congrArg Dg.ous px3
 have ex5:x3.cus=[]:=by have:=congrArg Dg.cus px3;simpa[DgL.c,exD]using this
 have ex6:x3.mas=[]:=by have:=congrArg Dg.mas px3;simpa[DgL.c,exD]using this
 refine CallQ.letgo (xs:=[_]) (M0:=[]) [151,152] l3 hP rfl rfl rfl Rm rfl rfl (fun β C4 l4 k4 kn=>?_)
 obtain⟨s1,hv1,hk1⟩:=(kn 151 _ rfl rfl rfl).vslx (sz:=1) (rows:=yH [[97],[120]]) (by simp[yH]) rfl
 have hv1:xe β (.sl 151 0 2 1)=vsl s1 2:=hv1
 obtain⟨s2,hv2,hk2⟩:=(kn 152 _ rfl rfl rfl).vslg (sz:=6) (rows:=[BlL.r (BlL.mk Y5 s1 ⟨none,0⟩)]) (fun r hr=>by rw[ID.1 hr];rfl) (by
  show[sv [97],sv [97,100,100],sv [116],xe β (.sl 151 0 2 1),sv [],.slice none 0 0]=_
  rw[hv1];rfl)
 have hv2:xe β (.sl 152 0 1 6)=vsl s2 1:=hv2
 simp only[Mem.conc,Env.conc,Bk.conc,Cv.conc,V.conc,W.conc,Kv,Kx,Jn,List.contains_nil,Nat.reduceBEq,IB,IG,cond_true,cond_false,hv1,hv2]
 let d4:DgL:=DgL.mk x3.nm x3.tys x3.cus x3.mas x3.ins [BlL.mk Y5 s1 ⟨none,0⟩] x3.ous x3.ty x3.cu x3.ma x3.i s2 x3.ou
 have hd4:d4.c=exE:=by
  show Dg.mk x3.nm x3.tys (x3.cus.map CuL.c) (x3.mas.map MpL.c) x3.ins [Y5] x3.ous=_
  rw[ex1,ex2,ex3,ex4,ex5,ex6];rfl
 have hok4:d4.ok C4.hp:=⟨(ox3.mono k4).ty,(ox3.mono k4).cu,(ox3.mono k4).ma,(ox3.mono k4).i,hk2,(ox3.mono k4).ou,(ox3.mono k4).cus,(ox3.mono k4).mas,fun b hb=>by rw[ID.1 hb];exact⟨hk1,SlH.nil _⟩⟩
 refine CallW.x 160 l4 (hchk2 d4 hd4 hok4) (zV _) (Sub.nil _) ClM.nil (fun _=>Fresh.nil _ _) rfl (fun c5 C5 H5 l5 k5 j5 p5=>?_)
 rw[hd4,Y3]
 have hcr5:c5.r.map Cv.v=[.v (sv c5.d.nm),.v (vsl c5.d.ty c5.d.tys.length),.v (vsl c5.d.cu c5.d.cus.length),.v (vsl c5.d.ma c5.d.mas.length),.v (vsl c5.d.i c5.d.ins.length),.v (vsl c5.d.bl c5.d.bls.length),.v (vsl c5.d.ou c5.d.ous.length),.v (vsl c5.s c5.sg.length),.v (vsl c5.o c5.od.length)]:=rfl
 rw[hcr5]
 refine vv ?_
 exact yL (hR C5 l5) rfl
open Vg Tf
structure ChkG (d:Dg) (T:Bl->List (Int×Int)->Int×Int) (rf:List (Int×Int)):Prop where
 ok:wV d=true
 ck:Chkd d
 od:uz (yS d) d.bls.length=none
 rg:uU d T (xR (yS d) d.bls.length) (d.bls.length+8) 1 (r0 d) (s0 d)=some (rf,none)
 q:yt d T=(⟨d,uE d rf (d.ins.length+d.bls.length),xR (yS d) d.bls.length⟩,[],0)
theorem dY (d:DgL)(T:Bl->List (Int×Int)->Int×Int):((yt d.c T).2.2≠0/\(yt d.c T).1=nX)\/∃rf,ChkG d.c T rf:=by
 have hbl:d.c.bls.length=d.bls.length:=Ku _
 cases hv:wV d.c with
 |false=>
  have hq:yt d.c T=(nX,[],1):=by unfold yt;rw[hv];rfl
  rw[hq];exact .inl ⟨by show(1:Int)≠0;decide,rfl⟩
 |true=>
 have hdv:(!wV d.c)=false:=by rw[hv];rfl
 cases hall:pY d.c with
 |some e=>
  have hq:yt d.c T=(nX,e.1,e.2):=by unfold yt;rw[hdv,cond_false,hall]
  rw[hq];exact .inl ⟨eY hall,rfl⟩
 |none=>
 cases hlo:o6 d.c with
 |some s=>
  have hq:yt d.c T=(nX,s,13):=by unfold yt;rw[hdv,cond_false,hall,hlo]
  rw[hq];exact .inl ⟨by show(13:Int)≠0;decide,rfl⟩
 |none=>
 have hlop:uz (yS d.c) d.c.bls.length=none:=by
  unfold o6 at hlo
  rw[Option.map_eq_none_iff]at hlo
  exact hlo
 have hodl:=(qn (vP d)).1 (by rw[<-hbl];exact hlop)
 have hodk:=tR (yS d.c) d.bls.length
 have hodf:=oh hodk.1 hodk.2.1 hodl
 rw[<-hbl]at hodl hodk hodf
 obtain⟨⟨rf,er⟩,hrg⟩:=qf (d:=d.c) T (od:=xR (yS d.c) d.c.bls.length) hodk.1 hodk.2.1 hodf
 cases er with
 |some e=>
  have hq:yt d.c T=(nX,e.1,e.2):=by unfold yt;rw[hdv,cond_false,hall,hlo];simp only[hrg]
  rw[hq];exact .inl ⟨rr hrg,rfl⟩
 |none=>
  refine .inr ⟨rf,hv,kU hv hall,hlop,hrg,?_⟩
  unfold yt;rw[hdv,cond_false,hall,hlo];simp only[hrg]
open Vg Tf
theorem Xa {H:Hp}(a b:Sv)(l:List Int)(ha:SlH H (vsl a l.length) 1 (zZ l))(hb:SlH H (vsl b l.length) 1 (zZ l))(hl:l.length<=1000000000000000):CallH H Hf 22 [.c (.v (vsl a l.length)),.c (.v (vsl b l.length))] (Bo true):=by
 refine kH func22 SZ ntmps22 fun C hR hP hH hL=>?_
 refine Sm.bringI 1 3 0 (ha.mono hH) rfl rfl ?_
 refine Sm.bringI 2 3 1 (hb.mono hH) rfl rfl ?_
 refine zB 100 ?_
 simp only[go_sem,bne_self_eq_false]
 refine zG (M0:=[]) (α:={i:Nat//i<=l.length}) hP (fun i=>[(0,true,.c (.sl 1 0 l.length 1)),(1,true,.c (.sl 2 0 l.length 1)),(12,true,I l.length),(13,true,I i.val)])
  (fun _=>[(1,⟨true,l.map iC,3⟩),(2,⟨true,l.map iC,3⟩)]) (fun i=>l.length-i.val) ⟨0,zA⟩ (fun _=>zC (by simp only[Ky,zh (yX _)];rfl)) (fun _=>zO rfl) [(1,1),(2,2)] ?_ ?_
 ·exact z9
 rintro⟨i,hi⟩ J hj
 simp only at hj hi⊢
 refine zB 110 (vv ?_)
 refine zU (fun hc=>?_) (fun hc=>?_)
 ·have hc:=zH hc
  have gi:=xt hc
  refine Sm.dg 110 8 ze ?_
  simp only[go_sem,gi,bne_self_eq_false,beq_self_eq_true,yT (i:=i)]
  exact⟨⟨zA,zA⟩,⟨zA,zA⟩,hj _ _ ⟨i+1,hc⟩ [(1,1),(2,2)] yF z9⟩
 ·exact yL (hR C hL) rfl
theorem aW {H:Hp}(a b:Sv)(l:List Sg)(ha:SlH H (vsl a l.length) 13 (l.map Sg.w))(hb:SlH H (vsl b l.length) 13 (l.map Sg.w))(hl:l.length<=1000000000000000):CallH H Hf 21 [.c (.v (vsl a l.length)),.c (.v (vsl b l.length))] (Bo true):=by
 have hm:(l.map Sg.w).length=l.length:=Ku _
 have hz:=zP (r:=Sg.w) (k:=13) (fun _=>rfl) l
 refine kH func21 NB ntmps21 fun C hR hP hH hL=>?_
 refine Sm.bringR 1 47 0 (ha.mono hH) rfl rfl ?_
 refine Sm.bringR 2 47 1 (hb.mono hH) rfl rfl ?_
 rw[hm]
 refine zB 100 ?_
 simp only[go_sem,bne_self_eq_false]
 refine zG (M0:=[]) (α:={i:Nat//i<=l.length}) hP (fun i=>[(0,true,.c (.sl 1 0 l.length 13)),(1,true,.c (.sl 2 0 l.length 13)),(12,true,I l.length),(13,true,I i.val)])
  (fun _=>[(1,⟨true,zD (l.map Sg.w),47⟩),(2,⟨true,zD (l.map Sg.w),47⟩)]) (fun i=>l.length-i.val) ⟨0,zA⟩ (fun _=>cM) (fun _=>zO rfl) [(1,1),(2,2)] ?_ ?_
 ·exact z9
 rintro⟨i,hi⟩ J hj
 simp only at hj hi⊢
 refine zB 110 (vv ?_)
 refine zU (fun hc=>?_) (fun hc=>?_)
 ·have hc:=zH hc
  have gi:=z6 (r:=Sg.w) (k:=13) (fun _=>rfl) l i hc
  generalize l[i]=g at*
  refine Sm.dg 110 8 ze ?_
  simp only[go_sem,gi,hz,bne_self_eq_false,beq_self_eq_true,yT (i:=i)]
  exact⟨⟨zA,zA⟩,zA,⟨zA,zA⟩,zA,hj _ _ ⟨i+1,hc⟩ [(1,1),(2,2)] yF z9⟩
 ·exact yL (hR C hL) rfl
theorem VO {H:Hp}(a b:Sv)(n m:Nat)(h:n≠m):CallH H Hf 22 [.c (.v (vsl a n)),.c (.v (vsl b m))] (Bo false):=by
 have e:((n:Int)!=(m:Int))=true:=by simp;omega
 refine kH func22 SZ ntmps22 fun C hR hP hH hL=>?_
 refine zB 100 ?_
 simp only[go_sem,e]
 exact yL (hR C hL) rfl
open Vg Tf
inductive VldC (x:CkR) (T:Bl->List (Int×Int)->Int×Int):Bool->Prop
 |bad (h:(yt x.d T).2.2≠0):VldC x T false
 |good (h:(yt x.d T).2.2=0) (h1:(yt x.d T).1.sg=x.sg) (h2:(yt x.d T).1.od=x.od):VldC x T true
 |len (h:(yt x.d T).2.2=0) (h1:(yt x.d T).1.sg=x.sg) (h2:(yt x.d T).1.od.length≠x.od.length):VldC x T false
theorem Zy (l:List Nat):zZ (l.map fun n:Nat=>(n:Int))=l.map fun n:Nat=>[iv n]:=by unfold zZ;rw[JJ];rfl
theorem V4 {H:Hp}(x:CkL)(hx:x.ok H)(hs:x.d.sm)(hl1:x.sg.length<=1000000000000000)(hl2:x.od.length<=1000000000000000)(v:Bool)(hv:VldC x.c (xo x.d.c) v):CallH H Hf 23 [yD x.r] (Bo v):=by
 have hcr:∀x:CkL,x.r.map Cv.v=[.v (sv x.d.nm),.v (vsl x.d.ty x.d.tys.length),.v (vsl x.d.cu x.d.cus.length),.v (vsl x.d.ma x.d.mas.length),.v (vsl x.d.i x.d.ins.length),.v (vsl x.d.bl x.d.bls.length),.v (vsl x.d.ou x.d.ous.length),.v (vsl x.s x.sg.length),.v (vsl x.o x.od.length)]:=fun _=>rfl
 have hcr2:∀x:CkL,yD x.r= .agg [.v (sv x.d.nm),.v (vsl x.d.ty x.d.tys.length),.v (vsl x.d.cu x.d.cus.length),.v (vsl x.d.ma x.d.mas.length),.v (vsl x.d.i x.d.ins.length),.v (vsl x.d.bl x.d.bls.length),.v (vsl x.d.ou x.d.ous.length),.v (vsl x.s x.sg.length),.v (vsl x.o x.od.length)]:=fun _=>rfl
 have hchk:=fun{H':Hp} (o:x.d.ok H')=>kV x.d o hs (xo x.d.c) (cR x.d)
 have hcd:x.c.d=x.d.c:=rfl
 rw[hcr2]
 refine kH func23 NA ntmps23 fun C hR hP hH hL=>?_
 refine zB 100 (vv ?_)
 refine CallQ.x 120 hL (hchk (hx.d.mono hH)) (zV _) (Sub.nil _) ClM.nil (fun _=>Fresh.nil _ _) rfl rfl rfl (fun y C1 H1 l1 k1 j1 p1=>?_)
 obtain⟨py,oy⟩:=p1
 have oy:=CkL.ok.mono j1 oy
 have ysg:y.sg=(yt x.d.c (xo x.d.c)).1.sg:=congrArg CkR.sg py
 have yod:y.od=(yt x.d.c (xo x.d.c)).1.od:=congrArg CkR.od py
 rw[hcr]
 have os:=(hx.s.mono hH).mono k1
 have oo:=(hx.o.mono hH).mono k1
 cases hv with
 |bad h=>
  have h2:((yt x.d.c (xo x.d.c)).2.2==0)=false:=by simpa[hcd]using h
  simp only[go_sem,h2]
  refine zt (xs:=[]) (v:=Bo false) (H:=C1.hp) 130 (fun h=>by cases h) (zV _) (fun h=>by cases h) (vv ?_)
  refine zt (xs:=[]) (v:=Bo false) (H:=C1.hp) 130 (fun h=>by cases h) (zV _) (fun h=>by cases h) (vv ?_)
  exact yL (hR C1 l1) rfl
 |good h h1 h2=>
  rw[hcd]at h h1 h2
  rw[h1]at ysg
  rw[h2]at yod
  have e1:x.c.sg=x.sg:=rfl
  have e2:x.c.od=x.od:=rfl
  rw[e1]at ysg
  rw[e2]at yod
  have ys:=oy.s
  have yo:=oy.o
  rw[ysg]at ys
  rw[yod]at yo
  have q1:=aW y.s x.s x.sg ys os hl1
  rw[h,ysg,yod]
  refine vv ?_
  refine zt 130 (fun _=>q1) (zV _) (fun _=>rfl) (vv ?_)
  have q2:=Xa y.o x.o (x.od.map fun n:Nat=>(n:Int)) (by rw[Ku,Zy];exact yo) (by rw[Ku,Zy];exact oo) (by rw[Ku];exact hl2)
  rw[Ku]at q2
  refine zt 140 (fun _=>q2) (zV _) (fun _=>rfl) (vv ?_)
  exact yL (hR C1 l1) rfl
 |len h h1 h2=>
  rw[hcd]at h h1 h2
  rw[h1]at ysg
  have e1:x.c.sg=x.sg:=rfl
  have e2:x.c.od=x.od:=rfl
  rw[e1]at ysg
  rw[e2,<-yod]at h2
  have ys:=oy.s
  rw[ysg]at ys
  have q1:=aW y.s x.s x.sg ys os hl1
  have q2:=VO (H:=C1.hp) y.o x.o y.od.length x.od.length h2
  rw[h,ysg]
  refine vv ?_
  refine zt 130 (fun _=>q1) (zV _) (fun _=>rfl) (vv ?_)
  refine zt 140 (fun _=>q2) (zV _) (fun _=>rfl) (vv ?_)
  exact yL (hR C1 l1) rfl
open Vg Tf
@[go_sem ↓] theorem Qj:qk 8 1=[(0,1),(1,1),(2,1),(3,1),(4,1),(5,1),(6,1),(7,1)]:=rfl
open Vg Tf
theorem P4 {a b:DgL}(h:a.c=b.c)(hs:b.sm):a.sm:=by
 unfold DgL.c at h
 injection h with h1 h2 h3 h4 h5 h6 h7
 have l3:a.cus.length=b.cus.length:=by have:=congrArg List.length h3;simpa using this
 have l4:a.mas.length=b.mas.length:=by have:=congrArg List.length h4;simpa using this
 have l6:a.bls.length=b.bls.length:=by have:=congrArg List.length h6;simpa using this
 refine⟨h1▸hs.nm,h2▸hs.tys,⟨l3▸hs.cus.1,fun c hc=>?_⟩,⟨l4▸hs.mas.1,fun m hm=>?_⟩,h5▸hs.ins,⟨l6▸hs.bls.1,fun q hq=>?_⟩,h7▸hs.ous⟩
 ·have:c.c∈b.cus.map (·.c):=h3▸JO.2 ⟨c,hc,rfl⟩
  obtain⟨c',hc',e⟩:=JO.1 this
  rw[<-e];exact hs.cus.2 c' hc'
 ·have:m.c∈b.mas.map MpL.c:=h4▸JO.2 ⟨m,hm,rfl⟩
  obtain⟨m',hm',e⟩:=JO.1 this
  unfold MpL.c at e
  injection e with e1 e2 e3 e4
  have:=hs.mas.2 m' hm'
  refine⟨e1▸this.1,fun v hv=>?_⟩
  have:v.2∈m'.zs.map (·.2):=e4▸JO.2 ⟨v,hv,rfl⟩
  obtain⟨v',hv',e5⟩:=JO.1 this
  rw[<-e5];exact(hs.mas.2 m' hm').2 v' hv'
 ·have:q.c∈b.bls.map BlL.c:=h6▸JO.2 ⟨q,hq,rfl⟩
  obtain⟨q',hq',e⟩:=JO.1 this
  rw[<-e];exact hs.bls.2 q' hq'
open Vg Tf
theorem diagrams_ {H:Hp}(d:DgL)(hd:d.ok H)(hs:d.sm)(haw:CallH H Hf 11 [] (Bo true)):CallX H Hf 5 [yD d.r] [] (fun _:Unit=>Bo true) (fun _=>[]) (fun _ _=>True):=by
 refine kX func5 KG ntmps5 fun C hR hP hH hL=>?_
 have hR:=hR ()
 refine zB 100 (vv ?_)
 refine z8 110 haw hH rfl (vv ?_)
 refine z8 110 (VB d hd hs) hH rfl (vv ?_)
 refine zU (fun hg=>?_) (fun hg=>?_)
 ·exact yI (hR C hL trivial) ClM.nil
 refine CallQ.x 120 hL (kV d hd hs (xo d.c) (cR d)) hH (Sub.nil _) ClM.nil (fun _=>Fresh.nil _ _) rfl rfl rfl (fun x C1 H1 l1 k1 j1 p1=>?_)
 obtain⟨px,ox⟩:=p1
 have ox:=CkL.ok.mono j1 ox
 have hcr:x.r.map Cv.v=[.v (sv x.d.nm),.v (vsl x.d.ty x.d.tys.length),.v (vsl x.d.cu x.d.cus.length),.v (vsl x.d.ma x.d.mas.length),.v (vsl x.d.i x.d.ins.length),.v (vsl x.d.bl x.d.bls.length),.v (vsl x.d.ou x.d.ous.length),.v (vsl x.s x.sg.length),.v (vsl x.o x.od.length)]:=rfl
 have hcr2:yD x.r= .agg [.v (sv x.d.nm),.v (vsl x.d.ty x.d.tys.length),.v (vsl x.d.cu x.d.cus.length),.v (vsl x.d.ma x.d.mas.length),.v (vsl x.d.i x.d.ins.length),.v (vsl x.d.bl x.d.bls.length),.v (vsl x.d.ou x.d.ous.length),.v (vsl x.s x.sg.length),.v (vsl x.o x.od.length)]:=rfl
 rw[hcr]
 refine vv ?_
 refine CallQ.hr [(1,150),(2,151)] 160 (Zr d hd hs) (hH.trans k1) ClM.nil rfl rfl trivial rfl (.inl rfl) ?_
 simp only[Mem.ren,Kv,Kx,yO (zS _),yO (xK _),V.ren,W.ren,Cv.ren,rn,Nat.reduceBEq,cond_true,cond_false]
 rcases dY d (xo d.c)with⟨he,hq⟩|⟨rf,G⟩
 ·have hn:=UY x ox (by rw[px,hq])
  rw[hcr2]at hn
  have he2:((yt d.c (xo d.c)).2.2 !=0)=true:=by simpa using he
  simp only[go_sem,he2,bne_self_eq_false]
  refine z8 170 hn (zV _) rfl (vv ?_)
  exact yI (hR C1 l1 trivial) ClM.nil
 have hq:=G.q
 rw[hq]at px⊢
 simp only[go_sem,bne_self_eq_false]
 have hbl:d.c.bls.length=d.bls.length:=Ku _
 have hxd:x.d.c=d.c:=congrArg CkR.d px
 have hsg:x.sg=uE d.c rf (d.ins.length+d.bls.length):=by have:=congrArg CkR.sg px;rw[<-hbl];exact this
 have hod:x.od=xR (yS d.c) d.bls.length:=by have:=congrArg CkR.od px;rw[<-hbl];exact this
 have B:=PF G.ok
 have B1:=B.ins
 have B2:=B.bls
 have hodL:=oZ (yS d.c) d.bls.length
 have hdC:=(hd.mono hH).mono k1
 refine CallQ.letgo (M0:=[]) (xs:=[yD x.d.r,yD d.r]) [150,151] l1 hP rfl (by unfold y9;simp only[Ky,yf (zS _),yf (xK _)];rfl) rfl Sh rfl rfl (fun β C2 l2 k2 kn=>?_)
 obtain⟨sg,hvg,hkg⟩:=(kn 150 _ rfl rfl rfl).vslx (sz:=13) (rows:=(uE d.c rf (d.c.ins.length+d.c.bls.length)).map Sg.w) (fun r hr=>by obtain⟨z,_,rfl⟩:=JO.1 hr;rfl) rfl
 obtain⟨so,hvo,hko⟩:=(kn 151 _ rfl rfl rfl).vslx (sz:=1) (rows:=(xR (yS d.c) d.c.bls.length).map fun n:Nat=>[iv n]) (fun r hr=>by obtain⟨z,_,rfl⟩:=JO.1 hr;rfl) (X5 _).symm
 rw[Ku]at hvg hkg hvo hko
 have hil:d.c.ins.length=d.ins.length:=rfl
 rw[hbl,hil]at hvg hkg
 rw[hbl]at hvo hko
 rw[hbl,hil]
 rw[<-hsg]at hvg hkg⊢
 rw[<-hod]at hvo hko⊢
 have hmm:∀m∈d.mas,m.xs.length<=1000000000000000/\m.ys.length<=1000000000000000/\m.zs.length<=1000000000000000:=fun m hm=>by
  have hk:=G.ok
  unfold wV at hk
  simp only[JG,decide_eq_true_eq,JI]at hk
  obtain⟨_,_,_,_,_,hc,_⟩:=hk
  have km:=pz (hc m.c (IC hm)).2
  have k1:=km.x3
  have k2:=km.y3
  have k3:=km.zl
  have e1:m.c.xs=m.xs:=rfl
  have e2:m.c.ys=m.ys:=rfl
  have e3:m.c.zs.length=m.zs.length:=Ku _
  rw[e1]at k1 k3
  rw[e2]at k2
  rw[e3]at k3
  omega
 refine xA 180 l2 (XS x.d d (ox.d.mono k2) (hdC.mono k2) hxd hs hmm) (zV _) rfl (fun C3 l3 k3=>?_)
 simp only[Mem.conc,Env.conc,Bk.conc,Cv.conc,V.conc,Kv,Kx,Jn,List.contains_nil,Nat.reduceBEq,IB,IG,cond_true,cond_false,v5 (zS _),v5 (xK _),hvg,hvo]
 refine vv ?_
 have k13:=k2.trans k3
 have hsl:x.sg.length<=1000000000000000:=by rw[hsg,uD];omega
 have hol:x.od.length<=1000000000000000:=by rw[hod];omega
 have ox3:=CkL.ok.mono k13 ox
 have q1:=aW x.s sg x.sg ox3.s (hkg.mono k3) hsl
 refine zt 190 (fun _=>q1) (zV _) (fun _=>rfl) (vv ?_)
 have q2:=Xa x.o so (x.od.map fun n:Nat=>(n:Int)) (by rw[Ku,Zy];exact ox3.o) (by rw[Ku,Zy];exact hko.mono k3) (by rw[Ku];exact hol)
 rw[Ku]at q2
 refine zt 200 (fun _=>q2) (zV _) (fun _=>rfl) (vv ?_)
 have q3:=V4 x ox3 (P4 hxd hs) hsl hol true (by
  have e1:x.c.d=x.d.c:=rfl
  have e2:x.c.sg=x.sg:=rfl
  have e3:x.c.od=x.od:=rfl
  refine VldC.good ?_ ?_ ?_
  ·rw[e1,hxd,hq]
  ·rw[e1,hxd,hq,e2,hsg,hbl,hil]
  ·rw[e1,hxd,hq,e3,hod,hbl])
 rw[hcr2]at q3
 refine zt 210 (fun _=>q3) (zV _) (fun _=>rfl) (vv ?_)
 exact yI (hR C3 l3 trivial) ClM.nil
open Go.ChangeShapes Go.WideShapes Go.ChangeAt Go.RowKit
open Vg Tf
section
variable {H:Type} {enc:TypeId×Value->H} {w:World} {base:Nat} {spare:Nat->Bool} {held:Bool}
theorem zz {k:Lc}{ks:List Lc}{r:List Value}(h:wF enc Hf w base spare held (k::ks) r):∃v vs,r=v::vs/\vg enc Hf w base spare held k v/\wF enc Hf w base spare held ks vs:=by
 cases r with
 |nil=>exact h.elim
 |cons v vs=>exact⟨v,vs,rfl,h.1,h.2⟩
theorem tU {r:List Value}(h:wF enc Hf w base spare held [] r):r=[]:=by
 cases r with
 |nil=>rfl
 |cons v vs=>exact h.elim
theorem o9 {v:Value}(h:vg enc Hf w base spare held .s v):∃s:Str,v=sv s/\s.length<=1000000000000000:=by
 obtain⟨x,rfl,hx⟩:=h
 exact⟨x.data.toList,zc,IT hx yg⟩
theorem tP {α:Type}{f:α->List Value}{p:α->Prop}:∀{rows:List (List Value)},(∀r∈rows,∃a,r=f a/\p a)->∃l:List α,rows=l.map f/\∀a∈l,p a
 |[],_=>⟨[],rfl,zc⟩
 |r::rows,h=>by
  obtain⟨l,rfl,hl⟩:=tP (f:=f) (p:=p) (rows:=rows) (fun x hx=>h x (Jy _ hx))
  obtain⟨a,rfl,ha⟩:=h r zc
  exact⟨a::l,rfl,fun x hx=>by rcases JZ.1 hx with rfl|hx;exact ha;exact hl x hx⟩
theorem _root_.Go.Proofs.YtkciabfilokfiaaGreat.Vg.SlH.vsl {H:Hp}{v:Value}{sz:Nat}{rows:List (List Value)}(h:SlH H v sz rows):∃s:Sv,v=vsl s rows.length:=by
 obtain⟨l,h1,_⟩:=h
 rw[h1]
 simp only[Cv.g]
 split
 ·rename_i hh
  rw[hh.2]
  unfold Loc.emp
  split
  ·exact⟨⟨none,0⟩,rfl⟩
  ·exact⟨⟨some _,_⟩,rfl⟩
 ·exact⟨⟨some _,_⟩,rfl⟩
theorem Lj:qA Hf 20 3=some [.i .i64]:=by kernel_rfl
theorem Lg:qA Hf 20 9=some [.s]:=by kernel_rfl
theorem Ld:qA Hf 20 33=some [.l 33]:=by kernel_rfl
theorem Le:qA Hf 20 78=some [.s,.i .i64,.b,.i .i64,.i .i64,.i .i64,.i .i64,.i .i64,.i .i64,.i .i64,.i .i64]:=by kernel_rfl
theorem Lm:qA Hf 20 84=some [.s,.l 33,.l 33]:=by kernel_rfl
theorem Li:qA Hf 20 91=some [.s,.l 33,.l 33,.l 87]:=by kernel_rfl
theorem Lh:qA Hf 20 51=some [.s,.s,.i .i64,.i .i64]:=by kernel_rfl
theorem Ln:qA Hf 20 53=some [.s,.s,.s,.l 27,.s,.l 33]:=by kernel_rfl
theorem Ll:qA Hf 20 29=some [.s,.l 22,.l 23,.l 24,.l 25,.l 26,.l 27]:=by kernel_rfl
theorem KR:1<=Hf.bytesOf 3:=by decide+kernel
theorem KO:1<=Hf.bytesOf 9:=by decide+kernel
theorem KM:1<=Hf.bytesOf 33:=by decide+kernel
theorem KN:1<=Hf.bytesOf 78:=by decide+kernel
theorem KT:1<=Hf.bytesOf 84:=by decide+kernel
theorem KQ:1<=Hf.bytesOf 91:=by decide+kernel
theorem KP:1<=Hf.bytesOf 51:=by decide+kernel
theorem KU:1<=Hf.bytesOf 53:=by decide+kernel
theorem sM {n b:Nat}(hb:1<=b)(h:n*b<=reachBytes):n<=1000000000000000:=by
 have h1:n<=n*b:=Nat.le_mul_of_pos_right n hb
 have h2:reachBytes<=1000000000000000:=yg
 omega
theorem sY {v:Value}(h:vg enc Hf w base spare held (.l 33) v):∃(s:Sv) (l:List Int),v=vsl s l.length/\SlH (lh w) (vsl s l.length) 1 (zZ l)/\l.length<=1000000000000000:=by
 obtain⟨rows,h1,h2,h3⟩:=vX Tryz.underlying33 Lj LK zc h
 obtain⟨l,rfl,_⟩:=tP (f:=fun n:Int=>[iv n]) (p:=fun _=>True) (rows:=rows) (fun r hr=>by
  obtain⟨v,vs,rfl,⟨n,rfl,_⟩,q1⟩:=zz (h2 r hr)
  obtain rfl:=tU q1
  exact⟨n,rfl,trivial⟩)
 obtain⟨s,rfl⟩:=h1.vsl
 have e:(l.map fun n:Int=>[iv n]).length=l.length:=Ku _
 rw[e]at h1 h3
 exact⟨s,l,by rw[e],h1,sM KR h3⟩
theorem ft {v:Value}(h:vg enc Hf w base spare held (.l 27) v):∃(s:Sv) (l:List Str),v=vsl s l.length/\SlH (lh w) (vsl s l.length) 1 (yH l)/\l.length<=1000000000000000/\∀x∈l,x.length<=1000000000000000:=by
 obtain⟨rows,h1,h2,h3⟩:=vX Tryz.underlying27 Lg LJ zc h
 obtain⟨l,rfl,hl⟩:=tP (f:=fun s:Str=>[sv s]) (p:=fun s=>s.length<=1000000000000000) (rows:=rows) (fun r hr=>by
  obtain⟨v,vs,rfl,hv,q2⟩:=zz (h2 r hr)
  obtain rfl:=tU q2
  obtain⟨s,rfl,hs⟩:=o9 hv
  exact⟨s,rfl,hs⟩)
 obtain⟨s,rfl⟩:=h1.vsl
 have e:(l.map fun s:Str=>[sv s]).length=l.length:=Ku _
 rw[e]at h1 h3
 exact⟨s,l,by rw[e],h1,sM KO h3,hl⟩
theorem W7 {v:Value}(h:vg enc Hf w base spare held (.l 22) v):∃(s:Sv) (l:List Td),v=vsl s l.length/\SlH (lh w) (vsl s l.length) 11 (l.map Td.r)/\l.length<=1000000000000000/\∀x∈l,x.nm.length<=1000000000000000:=by
 obtain⟨rows,h1,h2,h3⟩:=vX Tryz.underlying22 Le PW zc h
 obtain⟨l,rfl,hl⟩:=tP (f:=Td.r) (p:=fun s=>s.nm.length<=1000000000000000) (rows:=rows) (fun r hr=>by
  obtain⟨v,vs,rfl,hv,q3⟩:=zz (h2 r hr)
  obtain⟨s,rfl,hs⟩:=o9 hv
  obtain⟨_,vs,rfl,⟨n0,rfl,_⟩,q4⟩:=zz q3
  obtain⟨_,vs,rfl,⟨n1,rfl⟩,q5⟩:=zz q4
  obtain⟨_,vs,rfl,⟨n2,rfl,_⟩,q6⟩:=zz q5
  obtain⟨_,vs,rfl,⟨n3,rfl,_⟩,q7⟩:=zz q6
  obtain⟨_,vs,rfl,⟨n4,rfl,_⟩,q8⟩:=zz q7
  obtain⟨_,vs,rfl,⟨n5,rfl,_⟩,q9⟩:=zz q8
  obtain⟨_,vs,rfl,⟨n6,rfl,_⟩,q10⟩:=zz q9
  obtain⟨_,vs,rfl,⟨n7,rfl,_⟩,q11⟩:=zz q10
  obtain⟨_,vs,rfl,⟨n8,rfl,_⟩,q12⟩:=zz q11
  obtain⟨_,vs,rfl,⟨n9,rfl,_⟩,q13⟩:=zz q12
  obtain rfl:=tU q13
  exact⟨⟨s,⟨n0,n1,n2,n3,n4,n5,n6,n7,n8,n9⟩⟩,rfl,hs⟩)
 obtain⟨s,rfl⟩:=h1.vsl
 have e:(l.map Td.r).length=l.length:=Ku _
 rw[e]at h1 h3
 exact⟨s,l,by rw[e],h1,sM KN h3,hl⟩
theorem Wa {v:Value}(h:vg enc Hf w base spare held (.l 23) v):∃(s:Sv) (l:List CuL),v=vsl s l.length/\SlH (lh w) (vsl s l.length) 3 (l.map CuL.r)/\l.length<=1000000000000000/\∀x∈l,x.ok (lh w)/\x.c.nm.length<=1000000000000000/\x.c.xs.length<=1000000000000000/\x.c.ys.length<=1000000000000000:=by
 obtain⟨rows,h1,h2,h3⟩:=vX Tryz.underlying23 Lm PV zc h
 obtain⟨l,rfl,hl⟩:=tP (f:=CuL.r) (p:=fun x=>x.ok (lh w)/\x.c.nm.length<=1000000000000000/\x.c.xs.length<=1000000000000000/\x.c.ys.length<=1000000000000000) (rows:=rows) (fun r hr=>by
  obtain⟨v,vs,rfl,hv,q14⟩:=zz (h2 r hr)
  obtain⟨s,rfl,hs⟩:=o9 hv
  obtain⟨_,vs,rfl,hx,q15⟩:=zz q14
  obtain⟨sx,xs,rfl,kx,bx⟩:=sY hx
  obtain⟨_,vs,rfl,hy,q16⟩:=zz q15
  obtain⟨sy,ys,rfl,ky,bY⟩:=sY hy
  obtain rfl:=tU q16
  exact⟨⟨⟨s,xs,ys⟩,sx,sy⟩,rfl,⟨kx,ky⟩,hs,bx,bY⟩)
 obtain⟨s,rfl⟩:=h1.vsl
 have e:(l.map CuL.r).length=l.length:=Ku _
 rw[e]at h1 h3
 exact⟨s,l,by rw[e],h1,sM KT h3,hl⟩
theorem UX {v:Value}(h:vg enc Hf w base spare held (.l 87) v):∃(s:Sv) (l:List (Sv×List Int)),v=vsl s l.length/\SlH (lh w) (vsl s l.length) 1 (l.map fun v=>[vsl v.1 v.2.length])/\l.length<=1000000000000000/\∀x∈l,SlH (lh w) (vsl x.1 x.2.length) 1 (zZ x.2)/\x.2.length<=1000000000000000:=by
 obtain⟨rows,h1,h2,h3⟩:=vX Tryz.underlying87 Ld PZ zc h
 obtain⟨l,rfl,hl⟩:=tP (f:=fun v:Sv×List Int=>[vsl v.1 v.2.length]) (p:=fun x=>SlH (lh w) (vsl x.1 x.2.length) 1 (zZ x.2)/\x.2.length<=1000000000000000) (rows:=rows) (fun r hr=>by
  obtain⟨v,vs,rfl,hx,q17⟩:=zz (h2 r hr)
  obtain⟨sx,xs,rfl,kx,bx⟩:=sY hx
  obtain rfl:=tU q17
  exact⟨(sx,xs),rfl,kx,bx⟩)
 obtain⟨s,rfl⟩:=h1.vsl
 have e:(l.map fun v:Sv×List Int=>[vsl v.1 v.2.length]).length=l.length:=Ku _
 rw[e]at h1 h3
 exact⟨s,l,by rw[e],h1,sM KM h3,hl⟩
theorem W9 {v:Value}(h:vg enc Hf w base spare held (.l 24) v):∃(s:Sv) (l:List MpL),v=vsl s l.length/\SlH (lh w) (vsl s l.length) 4 (l.map MpL.r)/\l.length<=1000000000000000/\∀x∈l,x.ok (lh w)/\x.nm.length<=1000000000000000/\∀v∈x.zs,v.2.length<=1000000000000000:=by
 obtain⟨rows,h1,h2,h3⟩:=vX Tryz.underlying24 Li PU zc h
 obtain⟨l,rfl,hl⟩:=tP (f:=MpL.r) (p:=fun x=>x.ok (lh w)/\x.nm.length<=1000000000000000/\∀v∈x.zs,v.2.length<=1000000000000000) (rows:=rows) (fun r hr=>by
  obtain⟨v,vs,rfl,hv,q18⟩:=zz (h2 r hr)
  obtain⟨s,rfl,hs⟩:=o9 hv
  obtain⟨_,vs,rfl,hx,q19⟩:=zz q18
  obtain⟨sx,xs,rfl,kx,bx⟩:=sY hx
  obtain⟨_,vs,rfl,hy,q20⟩:=zz q19
  obtain⟨sy,ys,rfl,ky,bY⟩:=sY hy
  obtain⟨_,vs,rfl,hz,q21⟩:=zz q20
  obtain⟨sz,zs,rfl,kz,bz,ez⟩:=UX hz
  obtain rfl:=tU q21
  exact⟨⟨s,xs,ys,zs,sx,sy,sz⟩,rfl,⟨kx,ky,kz,fun v hv=>(ez v hv).1⟩,hs,fun v hv=>(ez v hv).2⟩)
 obtain⟨s,rfl⟩:=h1.vsl
 have e:(l.map MpL.r).length=l.length:=Ku _
 rw[e]at h1 h3
 exact⟨s,l,by rw[e],h1,sM KQ h3,hl⟩
theorem W8 {v:Value}(h:vg enc Hf w base spare held (.l 25) v):∃(s:Sv) (l:List Po),v=vsl s l.length/\SlH (lh w) (vsl s l.length) 4 (l.map Po.r)/\l.length<=1000000000000000/\∀x∈l,x.nm.length<=1000000000000000/\x.ty.length<=1000000000000000:=by
 obtain⟨rows,h1,h2,h3⟩:=vX Tryz.underlying25 Lh PY zc h
 obtain⟨l,rfl,hl⟩:=tP (f:=Po.r) (p:=fun x=>x.nm.length<=1000000000000000/\x.ty.length<=1000000000000000) (rows:=rows) (fun r hr=>by
  obtain⟨v,vs,rfl,hv,q22⟩:=zz (h2 r hr)
  obtain⟨s,rfl,hs⟩:=o9 hv
  obtain⟨_,vs,rfl,hv,q23⟩:=zz q22
  obtain⟨s2,rfl,hs2⟩:=o9 hv
  obtain⟨_,vs,rfl,⟨n0,rfl,_⟩,q24⟩:=zz q23
  obtain⟨_,vs,rfl,⟨n1,rfl,_⟩,q25⟩:=zz q24
  obtain rfl:=tU q25
  exact⟨⟨s,s2,n0,n1⟩,rfl,hs,hs2⟩)
 obtain⟨s,rfl⟩:=h1.vsl
 have e:(l.map Po.r).length=l.length:=Ku _
 rw[e]at h1 h3
 exact⟨s,l,by rw[e],h1,sM KP h3,hl⟩
theorem Wb {v:Value}(h:vg enc Hf w base spare held (.l 26) v):∃(s:Sv) (l:List BlL),v=vsl s l.length/\SlH (lh w) (vsl s l.length) 6 (l.map BlL.r)/\l.length<=1000000000000000/\∀b∈l,b.ok (lh w)/\b.c.nm.length<=1000000000000000/\b.c.ty.length<=1000000000000000/\b.c.tb.length<=1000000000000000/\b.c.ins.length<=1000000000000000/\b.c.ks.length<=1000000000000000/\∀s∈b.c.ins,s.length<=1000000000000000:=by
 obtain⟨rows,h1,h2,h3⟩:=vX Tryz.underlying26 Ln PX zc h
 obtain⟨l,rfl,hl⟩:=tP (f:=BlL.r) (p:=fun b=>b.ok (lh w)/\b.c.nm.length<=1000000000000000/\b.c.ty.length<=1000000000000000/\b.c.tb.length<=1000000000000000/\b.c.ins.length<=1000000000000000/\b.c.ks.length<=1000000000000000/\∀s∈b.c.ins,s.length<=1000000000000000) (rows:=rows) (fun r hr=>by
  obtain⟨v,vs,rfl,hv,q26⟩:=zz (h2 r hr)
  obtain⟨s,rfl,hs⟩:=o9 hv
  obtain⟨_,vs,rfl,hv,q27⟩:=zz q26
  obtain⟨s2,rfl,_⟩:=o9 hv
  obtain⟨_,vs,rfl,hv,q28⟩:=zz q27
  obtain⟨s3,rfl,hs3⟩:=o9 hv
  obtain⟨_,vs,rfl,hi,q29⟩:=zz q28
  obtain⟨si,is,rfl,ki,bi,ei⟩:=ft hi
  obtain⟨_,vs,rfl,hv,q30⟩:=zz q29
  obtain⟨s4,rfl,hs4⟩:=o9 hv
  obtain⟨_,vs,rfl,hy,q31⟩:=zz q30
  obtain⟨sy,ys,rfl,ky,bY⟩:=sY hy
  obtain rfl:=tU q31
  exact⟨⟨⟨s,s2,s3,is,s4,ys⟩,si,sy⟩,rfl,⟨ki,ky⟩,hs,hs3,hs4,bi,bY,ei⟩)
 obtain⟨s,rfl⟩:=h1.vsl
 have e:(l.map BlL.r).length=l.length:=Ku _
 rw[e]at h1 h3
 exact⟨s,l,by rw[e],h1,sM KU h3,hl⟩
theorem open_dg {v:Value}{d:DataW H}{p:List MemPlace}{r:Reach}{n0:Nat}(hv:Value.okWide Hf w r n0 29 v)(h:DataW.Trod enc Hf w base spare held 29 v d p)(hw:∀n∈d.weights Hf 29,n<=reachBytes):
  ∃D:DgL,v=(yD D.r).g b0/\D.ok (lh w)/\D.sm:=by
 obtain⟨cs,rfl,_,_⟩:∃cs,v= .agg cs/\cs.size=Hf.cellsOf 29/\Row.okWide Hf w r n0 29 cs:=by
  simpa only[Value.okWide,Tryz.underlying29]using hv
 obtain⟨fuel,hf⟩:=h
 have o:=lO 20 _ _ Ll P0 fuel _ _ hf hw
 have hcs:(Value.agg cs).cells.toList=cs.toList:=rfl
 rw[hcs]at o
 obtain⟨v,vs,e1,hv,q32⟩:=zz o
 obtain⟨s,rfl,hs⟩:=o9 hv
 obtain⟨_,vs,rfl,h1,q33⟩:=zz q32
 obtain⟨s1,l1,rfl,k1,b1,c1⟩:=W7 h1
 obtain⟨_,vs,rfl,h2,q34⟩:=zz q33
 obtain⟨s2,l2,rfl,k2,b2,c2⟩:=Wa h2
 obtain⟨_,vs,rfl,h3,q35⟩:=zz q34
 obtain⟨s3,l3,rfl,k3,b3,c3⟩:=W9 h3
 obtain⟨_,vs,rfl,h4,q36⟩:=zz q35
 obtain⟨s4,l4,rfl,k4,b4,c4⟩:=W8 h4
 obtain⟨_,vs,rfl,h5,q37⟩:=zz q36
 obtain⟨s5,l5,rfl,k5,b5,c5⟩:=Wb h5
 obtain⟨_,vs,rfl,h6,q38⟩:=zz q37
 obtain⟨s6,l6,rfl,k6,b6,c6⟩:=ft h6
 obtain rfl:=tU q38
 refine⟨⟨s,l1,l2,l3,l4,l5,l6,s1,s2,s3,s4,s5,s6⟩,?_,⟨k1,k2,k3,k4,k5,k6,fun c hc=>(c2 c hc).1,fun c hc=>(c3 c hc).1,fun c hc=>(c5 c hc).1⟩,⟨hs,⟨b1,c1⟩,⟨b2,fun c hc=>(c2 c hc).2⟩,⟨b3,fun c hc=>(c3 c hc).2⟩,⟨b4,c4⟩,⟨b5,fun c hc=>(c5 c hc).2⟩,⟨b6,c6⟩⟩⟩
 rw[<-Array.toArray_toList (xs:=cs),e1]
 rfl
end
end Go.Proofs.YtkciabfilokfiaaGreat.Fx
namespace Go.Proofs.YtkciabfilokfiaaGreat
open Go.ChangeShapes Go.WideShapes Go.ChangeAt Go.RowKit
open Vg Tf
theorem own:ownKnob Hf.godebug=none:=by kernel_rfl
theorem YR:laidOutB Hf=true:=by kernel_rfl
theorem Ly:mapsRowed Tryz.pinned.checked.prog=true:=by kernel_rfl
theorem tC:laidOutB Tryz.pinned.checked.prog=true:=by kernel_rfl
theorem Lw:Tryz.pinned.checked.prog.stopsHeard=true:=by kernel_rfl
theorem Lz:Tryz.pinned.checked.prog.mayEnter=true:=by kernel_rfl
end Go.Proofs.YtkciabfilokfiaaGreat
