/-  -/
import Derived.Test.YtbnkiacicnnmkaaGreatGO
open Go.Proofs.Tryz
open Go.Proofs.Tryz renaming prog→KI
set_option linter.unusedSimpArgs false
set_option linter.unusedVariables false
set_option maxRecDepth 100000
set_option maxHeartbeats 4000000
namespace Go.Proofs.YtbnkiacicnnmkaaGreat.Fx
open Vg Tf
def qx (p:Pg)(c0:Cv):List Cv:=[c0,.v (vsl p.t p.tys.length),.v (vsl p.u p.cus.length),.v (vsl p.m p.mas.length),.v (iv p.sz),.v (vsl p.s5 p.f5.length),.v (vsl p.s6 p.f6.length),.v (vsl p.s7 p.f7.length),.v (vsl p.s8 p.f8.length)]
theorem j9 {H:Hp}(p:Pg)(hp:p.ok H)(hv:vT p=true):
  CallX H KI 13 [ze p.r] [] (fun _:Unit=> .agg (qx p (.sl 3 0 (yx p).length 5))) (fun _=>[(3,⟨false,zC ((yx p).map Ins.w),42⟩)]) (fun _ _=>True):=by
 have hal:=bA p hp hv
 obtain⟨hal1,hal2⟩:=qU p.code p.f5 (p.sz.toNat+1) (fV p)
 have hcl:=(li p hv).2.2
 have hA:mR p.code p.f5 (p.sz.toNat+1) (fV p)=u9 p:=rfl
 have hK:yx p=xc p.code (u9 p):=rfl
 rw[hA]at hal1 hal2
 rw[wa]at hal⊢
 generalize hL0:u9 p=L at*
 have hcL:(p.code.map Ins.w).length=p.code.length:=Ni _
 refine kX func13 QB ntmps13 fun C hR hP hH hL=>?_
 refine zB 100 (vv ?_)
 refine wM [(1,120)] 130 hL hal hH rfl trivial ClM.nil (fun _=>rfl) rfl rfl rfl fun _ C1 H1 l1 g1 _ _=>?_
 simp only[Mem.ren,Nk,Nm,zf (yD _),V.ren,Cv.ren,rn,Nat.reduceBEq,cond_true,cond_false]
 refine vv ?_
 refine Sm.nilAt 140 5 42 130 0 rfl rfl rfl ?_
 dsimp only
 refine Sm.bringC 21 42 100 0 (rows:=p.code.map Ins.w) (by have:=(hp.c.mono hH).mono g1;exact this) rfl rfl rfl ?_
 dsimp only
 rw[hcL]
 have d0:∀c,(qx p c)[0]?=some c:=fun _=>rfl
 have dl:∀c,(qx p c).length=9:=fun _=>rfl
 have dt:∀c,List.take 9 (qx p c)=qx p c:=fun _=>rfl
 have dset:∀c c',(qx p c).set 0 c'=qx p c':=fun _ _=>rfl
 refine zL (M0:=[]) (α:={i:Nat//i<=L.length}) (l1.pins hP) (fun i=>[(1,true,.c (.p 1 0)),(2,true,.c (.p 3 0)),(3,true,.c (.sl 6 0 L.length 1)),(4,true,.c (.p 4 0)),(5,true,I i.val)])
  (fun i=>[(1,⟨false,qx p (.sl 21 0 p.code.length 5),28⟩),(3,⟨false,[.v (.slice none 0 0),.v (.slice none 0 0),.v (.slice none 0 0),.v (.slice none 0 0),.v (.int .i64 0),.v (.slice none 0 0),.v (.slice none 0 0),.v (.slice none 0 0),.v (.slice none 0 0)],28⟩),(4,⟨false,qx p (.sl 5 0 i.val 5),28⟩),(5,⟨false,zC ((xc p.code (L.take i.val)).map Ins.w),42⟩),(6,⟨false,L.map iC,3⟩),(21,⟨true,zC (p.code.map Ins.w),42⟩)]) (fun i=>L.length-i.val) ⟨0,zA⟩ (fun _=>zD (by simp only[Nj,iR,zZ (yD _)];rfl)) (fun _=>zP rfl) [(1,100),(3,101),(4,130),(5,140),(6,120),(21,21)] ?_ ?_
 ·exact zk
 rintro⟨i,hi⟩ J hj
 simp only at hj hi⊢
 refine xE 14 150 (vv ?_)
 refine zY (fun hc=>?_) (fun hc=>?_)
 ·have hc:=zI hc
  have hov:(L.map iC)[i]?=some (iC L[i]):=by simp[hc]
  obtain⟨c0,c1⟩:=hal2 _ (Nv hc)
  have hwi:IntKind.i64.wrap ((i:Int)+1)=((i+1:Nat):Int):=wS zA
  have hpt:=qw p.code L i hc
  obtain⟨j0,hj0⟩:∃j0:Nat,L[i]=j0:=⟨L[i].toNat,zA⟩
  rw[hj0]at hov c0 c1 hpt
  have hjn:j0<p.code.length:=zA
  have hx:p.code.getD ((j0:Int)).toNat dX=p.code[j0]:=by rw[Int.toNat_natCast,Nl,No hjn];rfl
  rw[hx]at hpt
  have htk:=zX (r:=Ins.w) (k:=5) (fun _=>rfl) p.code j0 hjn
  have hsz0:=zS (r:=Ins.w) (k:=5) (fun _=>rfl) p.code
  have hps:(xc p.code (L.take i)).length=i:=by unfold xc;rw[Ni,LW];omega
  have hz:=zS (r:=Ins.w) (k:=5) (fun _=>rfl) (xc p.code (L.take i))
  have hap:=mc Ins.w (k:=5) (fun _=>rfl) (xc p.code (L.take i)) p.code[j0]
  rw[hps]at hz hap
  rw[<-hpt]at hap
  have hs5:∀x:Ins,wK [Cv.v (.int .i64 0),.v (.int .i64 0),.v (.int .i64 0),.v (.int .i64 0),.v (.int .i64 0)] 0 (List.map Cv.v x.w)=List.map Cv.v x.w:=fun _=>rfl
  have ht5:∀x:Ins,List.take 5 (List.map Cv.v x.w)=List.map Cv.v x.w:=fun _=>rfl
  have hon:∀x:Ins,(List.map Cv.v x.w).all Cv.one=true:=fun _=>rfl
  have hl5:∀x:Ins,(List.map Cv.v x.w).length=5:=fun _=>rfl
  generalize p.code[j0]=x at*
  refine zB 160 (vv ?_)
  refine Sm.dg 160 11 zw ?_
  simp only[go_sem,d0,hov,htk,hsz0,Int.toNat_natCast,hs5,ht5,hon,hl5,hz,hap,dl,dset,hwi]
  refine⟨⟨zA,zA⟩,⟨zA,zA⟩,zA,⟨zA,zA,zA⟩,?_⟩
  exact hj _ _ ⟨i+1,hc⟩ [(1,1),(3,3),(4,4),(5,161),(6,6),(21,21)] yK zk
 ·have hc:=zJ hi hc
  subst hc
  rw[MS,<-hK]
  have hkl:L.length=(yx p).length:=by rw[hK];unfold xc;rw[Ni]
  simp only[go_sem,qx]
  refine zB 200 ?_
  simp only[go_sem,qx]
  have hR:=hR () C1 l1 trivial
  rw[hkl]
  exact RetQ.ren [(3,5)] hR (l1.pins hP) rfl (vv trivial) oQ rfl trivial ⟨oX,trivial⟩ cM (zH rfl)
theorem ph {H:Hp}(s s':Sv)(l:List Int)(hs:SlH H (vsl s l.length) 1 (zT l))(hs':SlH H (vsl s' l.length) 1 (zT l))(hl:l.length<=1000000):CallH H KI 42 [.c (.v (vsl s l.length)),.c (.v (vsl s' l.length))] (Bo true):=by
 refine kH func42 Rd ntmps42 fun C hR hP hH hL=>?_
 have hR:=hR C hL
 refine Sm.bringI (l:=l) 10 3 0 (hs.mono hH) rfl rfl ?_
 refine Sm.bringI (l:=l) 11 3 1 (hs'.mono hH) rfl rfl (zB 100 ?_)
 simp only[go_sem,bne_self_eq_false]
 refine zL (M0:=[]) (α:={i:Nat//i<=l.length}) hP (fun i=>[(0,true,.c (.sl 10 0 l.length 1)),(1,true,.c (.sl 11 0 l.length 1)),(5,true,I i.val)])
  (fun _=>[(10,⟨true,l.map iC,3⟩),(11,⟨true,l.map iC,3⟩)]) (fun i=>l.length-i.val) ⟨0,zA⟩ (fun _=>zD (by simp only[Nj,zZ (yD _)];rfl)) (fun _=>zP rfl) [(10,10),(11,11)] ?_ ?_
 ·exact zk
 rintro⟨i,hi⟩ J hj
 simp only at hj hi⊢
 refine xE 14 120 (vv ?_)
 refine zY (fun hc=>?_) (fun hc=>?_)
 ·have hc:=zI hc
  have hov:(l.map iC)[i]?=some (iC l[i]):=by simp[hc]
  have hwi:IntKind.i64.wrap ((i:Int)+1)=((i+1:Nat):Int):=wS zA
  generalize l[i]=z at*
  refine zB 130 (vv ?_)
  refine Sm.dg 130 8 zw ?_
  simp only[go_sem,hov,Int.toNat_natCast,bne_self_eq_false,hwi]
  exact⟨⟨zA,zA⟩,⟨zA,zA⟩,hj _ _ ⟨i+1,hc⟩ [(10,10),(11,11)] yK zk⟩
 ·have hc:=zJ hi hc
  subst hc
  refine zB 140 (vv ?_)
  exact zu hR rfl
def bD (p:Pg)(a b:Cv):List Cv:=[a,b,.v (vsl p.u p.cus.length),.v (vsl p.m p.mas.length),.v (iv p.sz),.v (vsl p.s5 p.f5.length),.v (vsl p.s6 p.f6.length),.v (vsl p.s7 p.f7.length),.v (vsl p.s8 p.f8.length)]
@[reducible,go_sem] def Qy (p:Pg)(K:List Ins):Mem:=[(2,⟨false,bD p (.sl 10 0 K.length 5) (.sl 12 0 p.tys.length 10),28⟩),(3,⟨false,bD p (.sl 11 0 K.length 5) (.sl 13 0 p.tys.length 10),28⟩),(10,⟨true,zC (K.map Ins.w),42⟩),(11,⟨true,zC (K.map Ins.w),42⟩),(12,⟨true,zC (p.tys.map xD),55⟩),(13,⟨true,zC (p.tys.map xD),55⟩)]
theorem ak {H:Hp}(p:Pg)(hp:p.ok H)(s1:Sv)(h1:SlH H (vsl s1 (yx p).length) 5 ((yx p).map Ins.w))(hl:(yx p).length<=1000000/\p.tys.length<=1000000/\p.f5.length<=1000000/\p.f6.length<=1000000/\p.f7.length<=1000000/\p.f8.length<=1000000):
  CallX H KI 12 [ze (jr p s1).r,.agg (qx p (.sl 11 0 (yx p).length 5))] [(11,⟨true,zC ((yx p).map Ins.w),42⟩)] (fun _:Unit=>Bo true) (fun _=>[]) (fun _ _=>True):=by
 have i5:=ph p.s5 p.s5 p.f5 hp.i5 hp.i5 hl.2.2.1
 have i6:=ph p.s6 p.s6 p.f6 hp.i6 hp.i6 hl.2.2.2.1
 have i7:=ph p.s7 p.s7 p.f7 hp.i7 hp.i7 hl.2.2.2.2.1
 have i8:=ph p.s8 p.s8 p.f8 hp.i8 hp.i8 hl.2.2.2.2.2
 have hrw:∀s,ze (jr p s).r= .agg [.v (vsl s (yx p).length),.v (vsl p.t p.tys.length),.v (vsl p.u p.cus.length),.v (vsl p.m p.mas.length),.v (iv p.sz),.v (vsl p.s5 p.f5.length),.v (vsl p.s6 p.f6.length),.v (vsl p.s7 p.f7.length),.v (vsl p.s8 p.f8.length)]:=fun _=>rfl
 rw[hrw]
 have hpd:∀c,qx p c=[c,.v (vsl p.t p.tys.length),.v (vsl p.u p.cus.length),.v (vsl p.m p.mas.length),.v (iv p.sz),.v (vsl p.s5 p.f5.length),.v (vsl p.s6 p.f6.length),.v (vsl p.s7 p.f7.length),.v (vsl p.s8 p.f8.length)]:=fun _=>rfl
 rw[hpd]
 generalize yx p=K at*
 have hKL:(K.map Ins.w).length=K.length:=Ni _
 have hTL:(p.tys.map xD).length=p.tys.length:=Ni _
 have hsz0:=zS (r:=Ins.w) (k:=5) (fun _=>rfl) K
 have hsz1:=zS (r:=xD) (k:=10) (fun _=>rfl) p.tys
 refine kX func12 QC ntmps12 fun C hR hP hH hL=>?_
 have hR:=hR () C hL trivial
 refine zB 100 ?_
 simp only[go_sem,bne_self_eq_false,Bool.cond_self]
 have hp1:=hp.t.mono hH
 refine Sm.bringC 10 42 100 0 (rows:=K.map Ins.w) (by have:=h1.mono hH;exact this) rfl rfl rfl ?_
 refine Sm.bringC 12 55 100 1 (rows:=p.tys.map xD) (by have:=hp1;exact this) rfl rfl rfl ?_
 refine Sm.bringC 13 55 101 1 (rows:=p.tys.map xD) (by have:=hp1;exact this) rfl rfl rfl ?_
 dsimp only
 rw[hKL,hTL]
 have e0:∀a b,(bD p a b)[0]?=some a:=fun _ _=>rfl
 have e1:∀a b,(bD p a b)[1]?=some b:=fun _ _=>rfl
 have e5:∀a b,(bD p a b)[5]?=some (.v (vsl p.s5 p.f5.length)):=fun _ _=>rfl
 have e6:∀a b,(bD p a b)[6]?=some (.v (vsl p.s6 p.f6.length)):=fun _ _=>rfl
 have e7:∀a b,(bD p a b)[7]?=some (.v (vsl p.s7 p.f7.length)):=fun _ _=>rfl
 have e8:∀a b,(bD p a b)[8]?=some (.v (vsl p.s8 p.f8.length)):=fun _ _=>rfl
 refine zL (M0:=[(11,⟨true,zC (K.map Ins.w),42⟩)]) (α:={i:Nat//i<=K.length}) hP (fun i=>[(2,true,.c (.p 2 0)),(3,true,.c (.p 3 0)),(5,true,I i.val)])
  (fun _=>Qy p K) (fun i=>K.length-i.val) ⟨0,zA⟩ (fun _=>cM) (fun _=>zP rfl) [(2,100),(3,101),(10,10),(11,11),(12,12),(13,13)] ?_ ?_
 ·exact zk
 rintro⟨i,hi⟩ J hj
 simp only at hj hi⊢
 refine xE 14 120 ?_
 simp only[go_sem,e0,e1]
 refine zY (fun hc=>?_) (fun hc=>?_)
 ·have hc:=zI hc
  have htk:=zX (r:=Ins.w) (k:=5) (fun _=>rfl) K i hc
  have hwi:IntKind.i64.wrap ((i:Int)+1)=((i+1:Nat):Int):=wS zA
  generalize K[i]=x at*
  refine zB 130 (vv ?_)
  refine Sm.dg 130 10 zw ?_
  simp only[go_sem,e0,e1,htk,hsz0,Int.toNat_natCast,Ins.w,Nk,Nm,beq_self_eq_true,Bool.and_self,LD,bne_self_eq_false,hwi]
  exact⟨⟨zA,zA⟩,zA,⟨zA,zA⟩,zA,hj _ _ ⟨i+1,hc⟩ [(2,2),(3,3),(10,10),(11,11),(12,12),(13,13)] yK zk⟩
 have hc:=zJ hi hc
 subst hc
 clear hj
 refine zB 140 (vv ?_)
 refine zL (M0:=[(11,⟨true,zC (K.map Ins.w),42⟩)]) (α:={i:Nat//i<=p.tys.length}) hP (fun i=>[(2,true,.c (.p 2 0)),(3,true,.c (.p 3 0)),(6,true,I i.val)])
  (fun _=>Qy p K) (fun i=>p.tys.length-i.val) ⟨0,zA⟩ (fun _=>cM) (fun _=>zP rfl) [(2,2),(3,3),(10,10),(11,11),(12,12),(13,13)] ?_ ?_
 ·exact zk
 rintro⟨i,hi⟩ J hj
 simp only at hj hi⊢
 refine xE 14 120 ?_
 simp only[go_sem,e0,e1]
 refine zY (fun hc=>?_) (fun hc=>?_)
 ·have hc:=zI hc
  have htk:=zX (r:=xD) (k:=10) (fun _=>rfl) p.tys i hc
  have hwi:IntKind.i64.wrap ((i:Int)+1)=((i+1:Nat):Int):=wS zA
  generalize p.tys[i]=x at*
  refine zB 130 (vv ?_)
  refine Sm.dg 130 10 zw ?_
  simp only[go_sem,e0,e1,htk,hsz1,Int.toNat_natCast,xD,Nk,Nm,beq_self_eq_true,Bool.and_self,LD,bne_self_eq_false,hwi]
  exact⟨⟨zA,zA⟩,zA,⟨zA,zA⟩,zA,hj _ _ ⟨i+1,hc⟩ [(2,2),(3,3),(10,10),(11,11),(12,12),(13,13)] yK zk⟩
 have hc:=zJ hi hc
 subst hc
 clear hj
 refine zB 150 ?_
 simp only[go_sem,e5]
 refine zO 160 i5 hH rfl ?_
 simp only[go_sem,e6]
 refine zO 160 i6 hH rfl ?_
 simp only[go_sem,e7]
 refine zO 160 i7 hH rfl ?_
 simp only[go_sem,e8]
 refine zO 160 i8 hH rfl (vv ?_)
 exact yM hR cM
theorem Xa (l:List Int)(hl:l.length<=1000000):CallOk KI 10 [.c (.sl 1 0 l.length 1),.c (.sl 2 0 l.length 1)] [(1,⟨true,l.map iC,3⟩),(2,⟨false,l.map iC,3⟩)] (Bo true) [(2,⟨false,l.map iC,3⟩)]:=by
 refine kN 100 func10 Zj ntmps10 fun C hR hP=>?_
 simp only[go_sem,bne_self_eq_false]
 refine zL (M0:=[(1,⟨true,l.map iC,3⟩),(2,⟨false,l.map iC,3⟩)]) (α:={i:Nat//i<=l.length}) hP (fun i=>[(0,true,.c (.sl 1 0 l.length 1)),(1,true,.c (.sl 2 0 l.length 1)),(12,true,I l.length),(13,true,I i.val)])
  (fun _=>[(1,⟨true,l.map iC,3⟩),(2,⟨false,l.map iC,3⟩)]) (fun i=>l.length-i.val) ⟨0,zA⟩ (fun _=>zD (by simp only[Nj,zZ (yD _)];rfl)) (fun _=>zP rfl) [(1,1),(2,2)] ?_ ?_
 ·exact zk
 rintro⟨i,hi⟩ J hj
 simp only at hj hi⊢
 refine xE 8 120 (vv ?_)
 refine zY (fun hc=>?_) (fun hc=>?_)
 ·have hc:=zI hc
  have hov:(l.map iC)[i]?=some (iC l[i]):=by simp[hc]
  have hwi:IntKind.i64.wrap ((i:Int)+1)=((i+1:Nat):Int):=wS zA
  generalize l[i]=z at*
  refine zB 130 (vv ?_)
  refine Sm.dg 130 8 zw ?_
  simp only[go_sem,hov,Int.toNat_natCast,bne_self_eq_false,hwi]
  exact⟨⟨zA,zA⟩,⟨zA,zA⟩,hj _ _ ⟨i+1,hc⟩ [(1,1),(2,2)] yK zk⟩
 ·have hc:=zJ hi hc
  subst hc
  refine zB 140 (vv ?_)
  exact yM hR (zD (by simp only[Nt,Nu,Nj,zZ (yD _)];rfl))
theorem calive_ {H:Hp}(p:Pg)(hp:p.ok H)(hki:∀i∈p.code, -9223372036854775808<=i.k/\i.k<=9223372036854775807)(hA:CallH H KI 5 [] (Bo true)):CallH H KI 3 [ze p.r] (Bo true):=by
 have hsm:=ab p hp
 rw[wa]at hsm⊢
 refine kH func3 NC ntmps3 fun C hR hP hH hL=>?_
 refine zB 100 (vv ?_)
 refine zO 110 hA hH rfl (vv ?_)
 refine zO 110 hsm hH rfl ?_
 cases hs:cg p with
 |false=>
  refine vv ?_
  exact zu (hR C hL) rfl
 |true=>
 obtain⟨hc1,hm1⟩:=Y0 p hs
 have hlen:p.code.length<=300/\p.tys.length<=110/\p.f5.length<=60/\p.f6.length<=60/\p.f7.length<=60/\p.f8.length<=60:=by
  unfold cg ac at hs
  simp only[Ns,decide_eq_true_eq]at hs
  omega
 have hrv:=jY p hp hc1 hm1 zA hki
 rw[wa]at hrv
 cases hv:vT p with
 |false=>
  have h1:=ZJ p hp hc1 hm1 hv
  have h2:=mt p hp hc1 hm1 hv
  rw[wa]at h1 h2
  rw[hv]at hrv
  refine vv ?_
  refine zO 120 h1 hH rfl (vv ?_)
  refine zO 130 h2 hH rfl (vv ?_)
  refine zO 140 hrv hH rfl (vv ?_)
  exact zu (hR C hL) rfl
 |true=>
 have h1:=bI p hp hc1 hm1 hv
 have h2:=qz p hp hc1 hm1 hv
 have h3:=bA p hp hv
 have h4:=j9 p hp hv
 obtain⟨hal1,hal2⟩:=qU p.code p.f5 (p.sz.toNat+1) (fV p)
 have hA2:mR p.code p.f5 (p.sz.toNat+1) (fV p)=u9 p:=rfl
 rw[hA2]at hal1
 have hkl:(yx p).length=(u9 p).length:=by unfold yx xc;rw[Ni]
 rw[hv]at hrv
 rw[wa]at h1 h2 h3 h4
 have hrw:∀s,(jr p s).r.map Cv.v=qx p (.v (vsl s (yx p).length)):=fun _=>rfl
 have heq:=Xa (u9 p) zA
 refine vv ?_
 refine wM [(1,120)] 130 hL h1 hH rfl trivial ClM.nil (fun _=>rfl) rfl rfl rfl fun _ C1 H1 l1 g1 _ _=>?_
 simp only[Mem.ren,Nk,Nm,zf (yD _),V.ren,Cv.ren,rn,Nat.reduceBEq,cond_true,cond_false]
 refine vv ?_
 refine CallQ.x 140 l1 h2 (hH.trans g1) (Sub.nil _) ClM.nil (fun _=>Fresh.nil _ _) rfl rfl rfl (fun s C2 H2 l2 g2 k2 ks=>?_)
 simp only[hrw]
 have hH2:=(hH.trans g1).trans g2
 have hsame:=ak p (hp.mono hH2) s (ks.mono k2) zA
 simp only[go_sem,qx]
 refine zO 150 hrv hH2 rfl ?_
 simp only[go_sem,qx]
 refine Sm.dg 160 12 zw (vv ?_)
 refine DCallQ.xn 170 (fun _=>h3) hH2 ClM.nil (fun _=>rfl) trivial rfl rfl rfl (.inl rfl) (vv ?_)
 refine mI [(1,120),(2,1)] [(1,⟨false,(u9 p).map iC,3⟩)] 180 heq (zD (by simp only[Nj,zZ (yD _)];rfl)) rfl rfl ⟨⟨_,rfl,oP (yD _)⟩,oW (zf (yD _)),trivial⟩ rfl (.inl rfl) ⟨⟨rfl,rfl⟩,trivial⟩ rfl rfl ?_
 simp only[Mem.ren,Nk,Nm,zf (yD _),V.ren,Cv.ren,rn,Nat.reduceBEq,cond_true,cond_false]
 simp only[go_sem,qx]
 refine DCallQ.xn 190 (fun _=>h4) hH2 ClM.nil (fun _=>rfl) trivial rfl rfl rfl (.inl rfl) ?_
 simp only[go_sem,qx]
 refine wM [(11,3)] 200 l2 hsame (zN _) rfl ⟨⟨_,rfl,oP (zK _)⟩,trivial⟩ cM (fun _=>rfl) rfl rfl rfl fun _ C3 H3 l3 g3 _ _=>?_
 refine vv ?_
 exact zu (hR C3 l3) rfl
attribute [go_sem] Sg.w
@[go_sem ↓] theorem Yi:rB 1 11=[(0,11)]:=rfl
@[go_sem ↓] theorem TR:rB 1 4=[(0,4)]:=rfl
@[go_sem ↓] theorem TO:rB 3 6=[(0,6),(6,6),(12,6)]:=rfl
@[go_sem ↓] theorem TP:rB 1 6=[(0,6)]:=rfl
structure Dg.smP (d:Dg):Prop where
 nm:d.nm.length<=1000000000000000
 tys:d.tys.length<=1000000000000000/\∀t∈d.tys,t.nm.length<=1000000000000000
 cus:d.cus.length<=1000000000000000/\∀c∈d.cus,c.nm.length<=1000000000000000/\c.xs.length<=1000000000000000/\c.ys.length<=1000000000000000
 mas:d.mas.length<=1000000000000000/\∀m∈d.mas,m.nm.length<=1000000000000000/\∀v∈m.zs,v.length<=1000000000000000
 ins:d.ins.length<=1000000000000000/\∀p∈d.ins,p.nm.length<=1000000000000000/\p.ty.length<=1000000000000000
 bls:d.bls.length<=1000000000000000/\∀b∈d.bls,b.nm.length<=1000000000000000/\b.ty.length<=1000000000000000/\b.tb.length<=1000000000000000/\b.ins.length<=1000000000000000/\b.ks.length<=1000000000000000/\∀s∈b.ins,s.length<=1000000000000000
 ous:d.ous.length<=1000000000000000/\∀s∈d.ous,s.length<=1000000000000000
theorem cf {d:DgL}(h:Dg.smP d.c):d.sm:=
 ⟨h.nm,h.tys,⟨by have:=h.cus.1;simpa[DgL.c]using this,fun c hc=>h.cus.2 c.c (Nz.2 ⟨c,hc,rfl⟩)⟩,
  ⟨by have:=h.mas.1;simpa[DgL.c]using this,fun m hm=>by
   have:=h.mas.2 m.c (Nz.2 ⟨m,hm,rfl⟩)
   exact⟨this.1,fun v hv=>this.2 v.2 (Nz.2 ⟨v,hv,rfl⟩)⟩⟩,h.ins,
  ⟨by have:=h.bls.1;simpa[DgL.c]using this,fun b hb=>h.bls.2 b.c (Nz.2 ⟨b,hb,rfl⟩)⟩,h.ous⟩
theorem CkL.ok.mono {H H':Hp}(h:H.le H'){c:CkL}(k:c.ok H):c.ok H':=⟨k.d.mono h,k.s.mono h,k.o.mono h⟩
def T0:Bl->List (Int×Int)->Int×Int:=fun _ _=>(0,0)
theorem aY {H:Hp}{d:DgL}(h:d.c.bls.all (fun b=> !jV b.kd)=true):ft H d T0:=fun H' cp bT bC bM bS _ _ b hb ht=>by
 have:=Nr.1 h b.c (Nz.2 ⟨b,hb,rfl⟩)
 rw[ht]at this;cases this
end Go.Proofs.YtbnkiacicnnmkaaGreat.Fx
namespace Go.Proofs.YtbnkiacicnnmkaaGreat.Fx
def dW (st:Str):List Str->List Str×List Str->Option (List Str×List Str)
 |[],q=>some q
 |x::r,q=>bif x==st then none else bif q.1.contains x then dW st r q else dW st r (x::q.1,q.2++[x])
def dn (st s:Str):List Bl->List Str×List Str->Option (List Str×List Str)
 |[],q=>some q
 |b::r,q=>bif (bif !(b.nm==s)then true else b.kd==nh)then dn st s r q else match dW st b.ins q with
  |none=>none
  |some q'=>dn st s r q'
def Uv (bs:List Bl)(st:Str):Nat->List Str×List Str->Bool
 |0,_=>false
 |f+1,q=>match q.2 with
  |[]=>false
  |s::nx=>match dn st s bs (q.1,nx)with
   |none=>true
   |some q'=>Uv bs st f q'
open Vg Tf
open Vg Tf
def kB (bs:List Bl)(st s:Str)(f:Nat)(r:List Bl)(q:List Str×List Str):Bool:=match dn st s r q with
 |none=>true
 |some q'=>Uv bs st f q'
def kI (bs:List Bl)(st s:Str)(f:Nat)(r:List Bl)(l:List Str)(q:List Str×List Str):Bool:=match dW st l q with
 |none=>true
 |some q'=>kB bs st s f r q'
open Vg Tf
open Vg Tf
open Vg Tf
theorem Xb {H:Hp}(a b:Sv)(l:List Int)(ha:SlH H (vsl a l.length) 1 (zT l))(hb:SlH H (vsl b l.length) 1 (zT l))(hl:l.length<=1000000000000000):CallH H KI 10 [.c (.v (vsl a l.length)),.c (.v (vsl b l.length))] (Bo true):=by
 refine kH func10 Zj ntmps10 fun C hR hP hH hL=>?_
 refine Sm.bringI 1 3 0 (ha.mono hH) rfl rfl ?_
 refine Sm.bringI 2 3 1 (hb.mono hH) rfl rfl ?_
 refine zB 100 ?_
 simp only[go_sem,bne_self_eq_false]
 refine zL (M0:=[]) (α:={i:Nat//i<=l.length}) hP (fun i=>[(0,true,.c (.sl 1 0 l.length 1)),(1,true,.c (.sl 2 0 l.length 1)),(12,true,I l.length),(13,true,I i.val)])
  (fun _=>[(1,⟨true,l.map iC,3⟩),(2,⟨true,l.map iC,3⟩)]) (fun i=>l.length-i.val) ⟨0,zA⟩ (fun _=>zD (by simp only[Nj,zZ (yD _)];rfl)) (fun _=>zP rfl) [(1,1),(2,2)] ?_ ?_
 ·exact zk
 rintro⟨i,hi⟩ J hj
 simp only at hj hi⊢
 refine zB 110 (vv ?_)
 refine zY (fun hc=>?_) (fun hc=>?_)
 ·have hc:=zI hc
  have gi:=xz hc
  refine Sm.dg 110 8 zw ?_
  simp only[go_sem,gi,bne_self_eq_false,beq_self_eq_true,yt (i:=i)]
  exact⟨⟨zA,zA⟩,⟨zA,zA⟩,hj _ _ ⟨i+1,hc⟩ [(1,1),(2,2)] yK zk⟩
 ·exact zu (hR C hL) rfl
theorem bR {H:Hp}(a b:Sv)(l:List Sg)(ha:SlH H (vsl a l.length) 13 (l.map Sg.w))(hb:SlH H (vsl b l.length) 13 (l.map Sg.w))(hl:l.length<=1000000000000000):CallH H KI 213 [.c (.v (vsl a l.length)),.c (.v (vsl b l.length))] (Bo true):=by
 have hm:(l.map Sg.w).length=l.length:=Ni _
 have hz:=zS (r:=Sg.w) (k:=13) (fun _=>rfl) l
 refine kH func213 Ww ntmps213 fun C hR hP hH hL=>?_
 refine Sm.bringR 1 131 0 (ha.mono hH) rfl rfl ?_
 refine Sm.bringR 2 131 1 (hb.mono hH) rfl rfl ?_
 rw[hm]
 refine zB 100 ?_
 simp only[go_sem,bne_self_eq_false]
 refine zL (M0:=[]) (α:={i:Nat//i<=l.length}) hP (fun i=>[(0,true,.c (.sl 1 0 l.length 13)),(1,true,.c (.sl 2 0 l.length 13)),(12,true,I l.length),(13,true,I i.val)])
  (fun _=>[(1,⟨true,zC (l.map Sg.w),131⟩),(2,⟨true,zC (l.map Sg.w),131⟩)]) (fun i=>l.length-i.val) ⟨0,zA⟩ (fun _=>cM) (fun _=>zP rfl) [(1,1),(2,2)] ?_ ?_
 ·exact zk
 rintro⟨i,hi⟩ J hj
 simp only at hj hi⊢
 refine zB 110 (vv ?_)
 refine zY (fun hc=>?_) (fun hc=>?_)
 ·have hc:=zI hc
  have gi:=zX (r:=Sg.w) (k:=13) (fun _=>rfl) l i hc
  generalize l[i]=g at*
  refine Sm.dg 110 8 zw ?_
  simp only[go_sem,gi,hz,bne_self_eq_false,beq_self_eq_true,yt (i:=i)]
  exact⟨⟨zA,zA⟩,zA,⟨zA,zA⟩,zA,hj _ _ ⟨i+1,hc⟩ [(1,1),(2,2)] yK zk⟩
 ·exact zu (hR C hL) rfl
theorem Zf {H:Hp}(a b:Sv)(n m:Nat)(h:n≠m):CallH H KI 10 [.c (.v (vsl a n)),.c (.v (vsl b m))] (Bo false):=by
 have e:((n:Int)!=(m:Int))=true:=by simp;omega
 refine kH func10 Zj ntmps10 fun C hR hP hH hL=>?_
 refine zB 100 ?_
 simp only[go_sem,e]
 exact zu (hR C hL) rfl
open Vg Tf
inductive VldC (x:CkR) (T:Bl->List (Int×Int)->Int×Int):Bool->Prop
 |bad (h:(xo x.d T).2.2≠0):VldC x T false
 |good (h:(xo x.d T).2.2=0) (h1:(xo x.d T).1.sg=x.sg) (h2:(xo x.d T).1.od=x.od):VldC x T true
 |len (h:(xo x.d T).2.2=0) (h1:(xo x.d T).1.sg=x.sg) (h2:(xo x.d T).1.od.length≠x.od.length):VldC x T false
theorem Yq (l:List Nat):zT (l.map fun n:Nat=>(n:Int))=l.map fun n:Nat=>[iv n]:=by unfold zT;rw[MZ];rfl
theorem YE {H:Hp}(x:CkL)(hx:x.ok H)(hs:x.d.sm)(hl1:x.sg.length<=1000000000000000)(hl2:x.od.length<=1000000000000000)(v:Bool)(hv:VldC x.c (oh x.d.c) v):CallH H KI 133 [ze x.r] (Bo v):=by
 have hcr:∀x:CkL,x.r.map Cv.v=[.v (sv x.d.nm),.v (vsl x.d.ty x.d.tys.length),.v (vsl x.d.cu x.d.cus.length),.v (vsl x.d.ma x.d.mas.length),.v (vsl x.d.i x.d.ins.length),.v (vsl x.d.bl x.d.bls.length),.v (vsl x.d.ou x.d.ous.length),.v (vsl x.s x.sg.length),.v (vsl x.o x.od.length)]:=fun _=>rfl
 have hcr2:∀x:CkL,ze x.r= .agg [.v (sv x.d.nm),.v (vsl x.d.ty x.d.tys.length),.v (vsl x.d.cu x.d.cus.length),.v (vsl x.d.ma x.d.mas.length),.v (vsl x.d.i x.d.ins.length),.v (vsl x.d.bl x.d.bls.length),.v (vsl x.d.ou x.d.ous.length),.v (vsl x.s x.sg.length),.v (vsl x.o x.od.length)]:=fun _=>rfl
 have hchk:=fun{H':Hp} (o:x.d.ok H')=>eC x.d o hs (oh x.d.c) (aX x.d)
 have hcd:x.c.d=x.d.c:=rfl
 rw[hcr2]
 refine kH func133 Vu ntmps133 fun C hR hP hH hL=>?_
 refine zB 100 (vv ?_)
 refine CallQ.x 120 hL (hchk (hx.d.mono hH)) (zN _) (Sub.nil _) ClM.nil (fun _=>Fresh.nil _ _) rfl rfl rfl (fun y C1 H1 l1 k1 j1 p1=>?_)
 obtain⟨py,oy⟩:=p1
 have oy:=CkL.ok.mono j1 oy
 have ysg:y.sg=(xo x.d.c (oh x.d.c)).1.sg:=congrArg CkR.sg py
 have yod:y.od=(xo x.d.c (oh x.d.c)).1.od:=congrArg CkR.od py
 rw[hcr]
 have os:=(hx.s.mono hH).mono k1
 have oo:=(hx.o.mono hH).mono k1
 cases hv with
 |bad h=>
  have h2:((xo x.d.c (oh x.d.c)).2.2==0)=false:=by simpa[hcd]using h
  simp only[go_sem,h2]
  refine yE (xs:=[]) (v:=Bo false) (H:=C1.hp) 130 (fun h=>by cases h) (zN _) (fun h=>by cases h) (vv ?_)
  refine yE (xs:=[]) (v:=Bo false) (H:=C1.hp) 130 (fun h=>by cases h) (zN _) (fun h=>by cases h) (vv ?_)
  exact zu (hR C1 l1) rfl
 |good h h1 h2=>
  rw[hcd]at h h1 h2
  rw[h1]at ysg
  rw[h2]at yod
  have e1:x.c.sg=x.sg:=rfl
  have e2:x.c.od=x.od:=rfl
  rw[e1]at ysg
  rw[e2]at yod
  have ys:=oy.s
  have yo:=oy.o
  rw[ysg]at ys
  rw[yod]at yo
  have q1:=bR y.s x.s x.sg ys os hl1
  rw[h,ysg,yod]
  refine vv ?_
  refine yE 130 (fun _=>q1) (zN _) (fun _=>rfl) (vv ?_)
  have q2:=Xb y.o x.o (x.od.map fun n:Nat=>(n:Int)) (by rw[Ni,Yq];exact yo) (by rw[Ni,Yq];exact oo) (by rw[Ni];exact hl2)
  rw[Ni]at q2
  refine yE 140 (fun _=>q2) (zN _) (fun _=>rfl) (vv ?_)
  exact zu (hR C1 l1) rfl
 |len h h1 h2=>
  rw[hcd]at h h1 h2
  rw[h1]at ysg
  have e1:x.c.sg=x.sg:=rfl
  have e2:x.c.od=x.od:=rfl
  rw[e1]at ysg
  rw[e2,<-yod]at h2
  have ys:=oy.s
  rw[ysg]at ys
  have q1:=bR y.s x.s x.sg ys os hl1
  have q2:=Zf (H:=C1.hp) y.o x.o y.od.length x.od.length h2
  rw[h,ysg]
  refine vv ?_
  refine yE 130 (fun _=>q1) (zN _) (fun _=>rfl) (vv ?_)
  refine yE 140 (fun _=>q2) (zN _) (fun _=>rfl) (vv ?_)
  exact zu (hR C1 l1) rfl
end Go.Proofs.YtbnkiacicnnmkaaGreat.Fx
namespace Go.Proofs.YtbnkiacicnnmkaaGreat
namespace Vg
theorem CallW.letgo {P:Program}{nt:Nat}{C Ck:Cx}{todo:List It}{e:Env}{M M0:Mem}{f:FuncId}{dst:Option Nat}{xs:List V}(L:List Nat)(hL:Lf C Ck)(hP:Pins C.S M0)(h0:M0.all (fun p=> !L.contains p.1)=true)(hok:yF L e M=true)(hxs:xs.all (V.cok L)=true)
  (h:∀β Cn,Lf C Cn->Ck.hp.le Cn.hp->(∀n b,L.contains n=true->M.get n=some b->b.ro=false->Known Cn.hp β n b)->CallW P nt Cn f (xs.map (V.conc L β)) dst todo (e.conc L β) (M.conc L β)):CallW P nt Ck f xs dst todo e M:=fun β a w h1 h2 h3 h4=>by
 obtain⟨Cn,l1,l2,l3,l4,l5⟩:=uc L hL hP h0 hok h1 h2
 have hb:t7 L β β=β:=by
  funext n
  unfold t7
  cases L.contains n<;>rfl
 have hxe:(xs.map (V.conc L β)).map (V.g β)=xs.map (V.g β):=by
  rw[MZ]
  refine MJ fun x hx=>?_
  have:=qW (L:=L) (β:=β) (β':=β) (Nr.1 hxs x hx)
  rw[hb]at this
  exact this
 have:=h β Cn l1 l2 l3 β a w l4 l5 h3 (h4.trans (hL.df.trans l1.df.symm))
 rw[hxe]at this
 rw[hL.q,hL.lp,<-l1.q,<-l1.lp]
 exact this
end Vg
end Go.Proofs.YtbnkiacicnnmkaaGreat
namespace Go.Proofs.YtbnkiacicnnmkaaGreat.Fx
open Vg Tf
def oB:Ft:=⟨16,true,1,0,1,0,0,0,0,0⟩
def tp:Td:=⟨[116],oB⟩
def jp:Po:=⟨[120],[116],0,9⟩
def fa:Bl:=⟨[116,119,111],[99,111,110,115,116],[116],[],[],[2]⟩
def eaD:Dg:=⟨[100],[tp],[],[],[jp],[fa],[[120]]⟩
theorem f9:Dg.smP eaD:=⟨xW,xW,xW,xW,xW,xW,xW⟩
theorem jF:(xo eaD T0).2=([],0)/\(xo eaD T0).1.sg=[⟨[120],oB,(0,9)⟩,⟨[116,119,111],oB,(2,2)⟩]/\(xo eaD T0).1.od=[0]:=by
 refine⟨?_,?_,?_⟩<;>rfl
structure EaP (p:Pg):Prop where
 code:p.code=[⟨1,0,0,0,2⟩,⟨3,0,0,0,1⟩]
 tys:p.tys=[oB]
 cus:p.cus=[]
 mas:p.mas=[]
 sz:p.sz=2
 f5:p.f5=[0]
 f6:p.f6=[]
 f7:p.f7=[0]
 f8:p.f8=[]
def aH:Prop:=∀(H:Hp) (x:CkL),x.c=(xo eaD T0).1->x.ok H->CallX H KI 20 [ze x.r] [] (fun p:Pg=> .tup [W.agg (p.r.map Cv.v),Wi 0]) (fun _=>[]) (fun p H'=>EaP p/\p.ok H')
@[reducible] def ZI (r0:Int)(n:Nat):List Cv:=[.v (.int .i64 r0),.v (.int .i64 0),.v (.int .i64 0),.v (.int .i64 0),.v (.int .i64 0),.v (.int .i64 0),.v (.int .i64 0),.v (.int .i64 0),.v (.int .i64 0),.v (.int .i64 0),.v (.int .i64 0),.v (.int .i64 0),.v (.int .i64 0),.v (.int .i64 0),.v (.int .i64 0),.v (.int .i64 0),.sl n 0 2 1]
def aF:Prop:=∀(H:Hp) (p:Pg),EaP p->p.ok H->CallX H KI 16 [ze p.r] [] (fun _:Unit=> .tup [W.agg (ZI 0 1),Wi 0]) (fun _=>[(1,⟨false,[.v (.int .i64 0),.v (.int .i64 0)],3⟩)]) (fun _ _=>True)
def aE:Prop:=∀(H:Hp) (p:Pg),EaP p->p.ok H->CallX H KI 18 [ze p.r,.agg (ZI 0 1),.c (.sl 2 0 1 1)] [(1,⟨true,[.v (.int .i64 0),.v (.int .i64 0)],3⟩),(2,⟨true,[.v (.int .i64 7)],3⟩)] (fun _:Unit=> .tup [W.agg (ZI 2 3),.c (.sl 4 0 1 1),Wi 0]) (fun _=>[(3,⟨false,[.v (.int .i64 7),.v (.int .i64 2)],3⟩),(4,⟨false,[.v (.int .i64 7)],3⟩)]) (fun _ _=>True)
theorem fY (p:Pg)(h:EaP p):vT p=true:=by
 obtain⟨code,tys,cus,mas,sz,f5,f6,f7,f8,c,t,u,m,s5,s6,s7,s8⟩:=p
 obtain⟨h1,h2,h3,h4,h5,h6,h7,h8,h9⟩:=h
 simp only at h1 h2 h3 h4 h5 h6 h7 h8 h9
 subst h1 h2 h3 h4 h5 h6 h7 h8 h9
 rfl
theorem awake14_ {H:Hp}(hG:aH)(hN:aF)(hU:aE):CallH H KI 5 [] (Bo true):=by
 have hchk:=fun{H':Hp} (x:DgL) (hx:x.c=eaD) (o:x.ok H')=>eC x o (cf (by rw[hx];exact f9)) T0 (aY (by rw[hx];rfl))
 obtain⟨q1,q2,q3⟩:=jF
 refine kH func5 NB ntmps5 fun C hR hP hH hL=>?_
 refine zB 100 (vv ?_)
 refine CallQ.letgo (xs:=[_]) (M0:=[]) [103] hL hP rfl rfl rfl VR rfl rfl (fun β C1 l1 k1 kn=>?_)
 obtain⟨s6,hv6,hk6⟩:=(kn 103 _ rfl rfl rfl).vslx (sz:=1) (rows:=zT [2]) (by simp[zT]) rfl
 have hv6:yb β (.sl 103 0 1 1)=vsl s6 1:=hv6
 simp only[Mem.conc,Env.conc,Bk.conc,Cv.conc,V.conc,Nk,Nm,MV,List.contains_nil,Nat.reduceBEq,Mr,LF,cond_true,cond_false,hv6]
 refine CallW.letgo (M0:=[]) [101,102,104,105] l1 hP rfl rfl rfl (fun β' C2 l2 k2 kn2=>?_)
 obtain⟨s1,hv1,hk1⟩:=(kn2 101 _ rfl rfl rfl).vslx (sz:=11) (rows:=[tp].map Td.r) (fun r hr=>by obtain⟨x,_,rfl⟩:=Nz.1 hr;rfl) rfl
 obtain⟨s2,hv2,hk2⟩:=(kn2 102 _ rfl rfl rfl).vslx (sz:=4) (rows:=[jp].map Po.r) (fun r hr=>by obtain⟨x,_,rfl⟩:=Nz.1 hr;rfl) rfl
 obtain⟨s3,hv3,hk3⟩:=(kn2 104 _ rfl rfl rfl).vslx (sz:=6) (rows:=[BlL.mk fa ⟨none,0⟩ s6].map BlL.r) (fun r hr=>by obtain⟨x,_,rfl⟩:=Nz.1 hr;rfl) rfl
 obtain⟨s4,hv4,hk4⟩:=(kn2 105 _ rfl rfl rfl).vslx (sz:=1) (rows:=yI [[120]]) (by simp[yI]) rfl
 have hv1:yb β' (.sl 101 0 1 11)=vsl s1 1:=hv1
 have hv2:yb β' (.sl 102 0 1 4)=vsl s2 1:=hv2
 have hv3:yb β' (.sl 104 0 1 6)=vsl s3 1:=hv3
 have hv4:yb β' (.sl 105 0 1 1)=vsl s4 1:=hv4
 simp only[Mem.conc,Env.conc,Bk.conc,Cv.conc,V.conc,Nk,Nm,MV,List.contains_nil,Nat.reduceBEq,Mr,LF,cond_true,cond_false,hv1,hv2,hv3,hv4]
 obtain⟨d,hd⟩:∃d,d=DgL.mk [100] [tp] [] [] [jp] [BlL.mk fa ⟨none,0⟩ s6] [[120]] s1 ⟨none,0⟩ ⟨none,0⟩ s2 s3 s4:=⟨_,rfl⟩
 have ox:d.ok C2.hp:=by
  rw[hd]
  exact⟨hk1,SlH.nil _,SlH.nil _,hk2,hk3,hk4,zd,zd,fun b hb=>by
   rw[LG]at hb
   subst hb
   exact⟨SlH.nil _,hk6.mono k2⟩⟩
 have hdc:d.c=eaD:=by rw[hd];rfl
 have hdr:ze d.r= .agg [.v (.string ⟨#[100]⟩),.v (vsl s1 1),.v (.slice none 0 0),.v (.slice none 0 0),.v (vsl s2 1),.v (vsl s3 1),.v (vsl s4 1)]:=by rw[hd];rfl
 have hk:=hchk d hdc ox
 rw[hdr,hdc,q1]at hk
 clear hd
 have hgen:=hG
 refine CallW.x 120 l2 hk (zN _) (Sub.nil _) ClM.nil (fun _=>Fresh.nil _ _) rfl (fun c C3 H3 l3 k3 j3 p3=>?_)
 obtain⟨pc,oc⟩:=p3
 have hcr:c.r.map Cv.v=[.v (sv c.d.nm),.v (vsl c.d.ty c.d.tys.length),.v (vsl c.d.cu c.d.cus.length),.v (vsl c.d.ma c.d.mas.length),.v (vsl c.d.i c.d.ins.length),.v (vsl c.d.bl c.d.bls.length),.v (vsl c.d.ou c.d.ous.length),.v (vsl c.s c.sg.length),.v (vsl c.o c.od.length)]:=rfl
 have hg:=hG C3.hp c pc (CkL.ok.mono j3 oc)
 have hcr2:ze c.r= .agg (c.r.map Cv.v):=rfl
 rw[hcr2,hcr]at hg
 simp only[hcr]
 refine vv ?_
 refine CallQ.x 130 l3 hg (zN _) (Sub.nil _) ClM.nil (fun _=>Fresh.nil _ _) rfl rfl rfl (fun p C4 H4 l4 k4 j4 p4=>?_)
 obtain⟨pe,op⟩:=p4
 have hvl:=fY p pe
 have op4:=op.mono j4
 have hcp:=qz p op4 (by rw[pe.cus];simp) (by rw[pe.mas];simp) hvl
 have hnw:=fun(H':Hp) (h:p.ok H')=>hN H' p pe h
 have hru:=fun(H':Hp) (h:p.ok H')=>hU H' p pe h
 obtain⟨hal1,hal2⟩:=qU p.code p.f5 (p.sz.toNat+1) (fV p)
 have hkl:(yx p).length<=p.code.length:=by unfold yx xc;rw[Ni];exact hal1
 have hrw:∀s,(jr p s).r.map Cv.v=qx p (.v (vsl s (yx p).length)):=fun _=>rfl
 have hpr:p.r.map Cv.v=uV p:=rfl
 have hrp:ze p.r= .agg (uV p):=rfl
 rw[hrp]at hcp
 simp only[hrp]at hnw hru
 have hlt:decide (((p.code.length:Nat):Int)<((yx p).length:Int))=false:=yZ zA
 rw[hpr]
 simp only[go_sem,uV]
 refine CallQ.x 140 l4 hcp (zN _) (Sub.nil _) ClM.nil (fun _=>Fresh.nil _ _) rfl rfl rfl (fun s C5 H5 l5 k5 j5 p5=>?_)
 simp only[hrw]
 simp only[go_sem,qx]
 have hnw5:=hnw C5.hp (op4.mono k5)
 refine wM [(1,150)] 160 l5 hnw5 (zN _) rfl trivial ClM.nil (fun _=>rfl) rfl rfl rfl fun _ C6 H6 l6 k6 _ _=>?_
 simp only[Mem.ren,Bk.ren,Nk,Nm,V.ren,W.ren,Cv.ren,rn,Nat.reduceBEq,cond_true,cond_false]
 simp only[go_sem,hlt]
 have hru6:=hru C6.hp ((op4.mono k5).mono k6)
 refine wM [(1,150),(2,161),(3,170),(4,171)] 180 l6 hru6 (zN _) rfl ⟨⟨_,rfl,re⟩,⟨_,rfl,re⟩,trivial⟩ (zD rfl) (fun _=>rfl) rfl rfl rfl fun _ C7 H7 l7 k7 _ _=>?_
 simp only[Mem.ren,Bk.ren,Nk,Nm,V.ren,W.ren,Cv.ren,rn,Nat.reduceBEq,cond_true,cond_false]
 refine vv ?_
 refine CallQ.ren [(1,171),(2,181)] 190 (Xa [7] zd) (zD rfl) rfl rfl ⟨⟨_,rfl,re⟩,oS,trivial⟩ rfl (.inl rfl) (vv ?_)
 exact zu (hR C7 l7) rfl
theorem fZ {x:CkL}(h:x.c=(xo eaD T0).1):x.d.c=eaD/\x.sg=[⟨[120],oB,(0,9)⟩,⟨[116,119,111],oB,(2,2)⟩]/\x.od=[0]:=by
 obtain⟨q1,q2,q3⟩:=jF
 have hd:(xo eaD T0).1.d=eaD:=rfl
 refine⟨?_,?_,?_⟩
 ·rw[<-hd,<-h];rfl
 ·rw[<-q2,<-h];rfl
 ·rw[<-q3,<-h];rfl
theorem Zk {x:CkL}(h:x.c=(xo eaD T0).1):VldC x.c (oh x.d.c) true:=by
 obtain⟨h1,h2,h3⟩:=fZ h
 have hc:x.c=⟨eaD,[⟨[120],oB,(0,9)⟩,⟨[116,119,111],oB,(2,2)⟩],[0]⟩:=by
  have:x.c=⟨x.d.c,x.sg,x.od⟩:=rfl
  rw[this,h1,h2,h3]
 rw[hc,h1]
 exact VldC.good rfl rfl rfl
theorem Zl {H:Hp}(x:CkL)(h:x.c=(xo eaD T0).1)(hx:x.ok H):CallH H KI 56 [ze x.r] (.tup [.c (.v (.slice none 0 0)),Wi 0]):=by
 obtain⟨h1,h2,h3⟩:=fZ h
 have hsm:x.d.sm:=cf (by rw[h1];exact f9)
 have hval:=YE x hx hsm (by rw[h2];simp) (by rw[h3];simp) true (Zk h)
 have hbl:x.d.bls.map BlL.c=[fa]:=congrArg Dg.bls h1
 obtain⟨b,hb,hbc⟩:∃b,x.d.bls=[b]/\b.c=fa:=by
  cases hl:x.d.bls with
  |nil=>rw[hl]at hbl;cases hbl
  |cons b t=>
   rw[hl]at hbl
   simp only[Nk,List.cons.injEq,Lj]at hbl
   exact⟨b,by rw[hbl.2],hbl.1⟩
 obtain⟨bc,bi,bk⟩:=b
 have hbc:bc=fa:=hbc
 subst hbc
 have hbs:SlH H (vsl x.d.bl 1) 6 [(BlL.mk fa bi bk).r]:=by have:=hx.d.bl;rw[hb]at this;exact this
 have hcr:ze x.r= .agg [.v (sv x.d.nm),.v (vsl x.d.ty x.d.tys.length),.v (vsl x.d.cu x.d.cus.length),.v (vsl x.d.ma x.d.mas.length),.v (vsl x.d.i x.d.ins.length),.v (vsl x.d.bl x.d.bls.length),.v (vsl x.d.ou x.d.ous.length),.v (vsl x.s x.sg.length),.v (vsl x.o x.od.length)]:=rfl
 have hbr:(BlL.mk fa bi bk).r=[sv [116,119,111],sv [99,111,110,115,116],sv [116],vsl bi 0,sv [],vsl bk 1]:=rfl
 rw[hbr]at hbs
 rw[hcr]at hval⊢
 rw[hb]at hval⊢
 have d1:(([99,111,110,115,116]:Str)==[100,101,108,97,121])=false:=rfl
 have d2:(([99,111,110,115,116]:Str)==[108,97,103])=false:=rfl
 have d3:(([99,111,110,115,116]:Str)==[104,121,115,116,101,114,101,115,105,115])=false:=rfl
 refine kH func56 RW ntmps56 fun C hR hP hH hL=>?_
 have hR:=hR C hL
 refine zB 100 (vv ?_)
 refine zO 110 hval hH rfl (vv ?_)
 refine Sm.bringR 20 64 12 (rows:=[[sv [116,119,111],sv [99,111,110,115,116],sv [116],vsl bi 0,sv [],vsl bk 1]]) (hbs.mono hH) rfl rfl (zi 2 (zB 120 ?_))
 simp only[go_sem,zC,hbr,Nk,Nm,List.flatten_cons,List.flatten_nil,Nt,Nu,Nx,d1,d2,d3]
 exact yM hR ClM.nil
end Go.Proofs.YtbnkiacicnnmkaaGreat.Fx
