/-  -/
import Derived.Test.YtkciabfilokfiaaGreatFC13
open Go.Proofs.Tryz
set_option linter.unusedSimpArgs false
set_option linter.unusedVariables false
set_option maxRecDepth 100000
set_option maxHeartbeats 4000000
namespace Go.Proofs.YtkciabfilokfiaaGreat.Fx
open Vg Tf
theorem Zb {H:Hp}(d:DgL)(hd:d.ok H)(hs:d.sm):CallH H Tryz.prog 53 [yD d.r] (Bo (wV d.c)):=by
 have hdo:wV d.c=(yZ d.nm&&((decide (d.tys.length<=30)&&(decide (d.cus.length<=30)&&(decide (d.mas.length<=30)&&(decide (d.ins.length<=30)&&decide (d.ous.length<=30)))))&&(decide (d.bls.length<=200)&&
  (d.tys.all (fun t=>yZ t.nm&&yE t.ty)&&(d.cus.all (fun c=>yZ c.c.nm&&vq c.c.xs c.c.ys)&&(d.mas.all (fun m=>yZ m.nm&&wD m.xs m.ys (m.zs.map (·.2)))&&(d.ins.all nj&&(d.bls.all (fun b=>xI b.c)&&d.ous.all yZ)))))))):=by
  unfold wV
  simp only[DgL.c,Ku,List.all_map,HL]
  rfl
 rw[hdo]
 have e1:∀n:Nat,decide ((30:Int)<(n:Int))= !decide (n<=30):=fun n=>by rw[<-decide_not,decide_eq_decide];omega
 have e2:decide ((200:Int)<(d.bls.length:Int))= !decide (d.bls.length<=200):=by rw[<-decide_not,decide_eq_decide];omega
 have n1:(d.tys.map Td.r).length=d.tys.length:=Ku _
 have n2:(d.cus.map CuL.r).length=d.cus.length:=Ku _
 have n3:(d.mas.map MpL.r).length=d.mas.length:=Ku _
 have n4:(d.ins.map Po.r).length=d.ins.length:=Ku _
 have n5:(d.bls.map BlL.r).length=d.bls.length:=Ku _
 have z1:=zP (r:=Td.r) (k:=11) (fun _=>rfl) d.tys
 have z2:=zP (r:=CuL.r) (k:=3) (fun _=>rfl) d.cus
 have z3:=zP (r:=MpL.r) (k:=4) (fun _=>rfl) d.mas
 have z4:=zP (r:=Po.r) (k:=4) (fun _=>rfl) d.ins
 have z5:=zP (r:=BlL.r) (k:=6) (fun _=>rfl) d.bls
 refine kH func53 Oh ntmps53 fun C hR hP hH hL=>?_
 refine zB 100 (vv ?_)
 refine CallQ.pure 110 (uj d.nm hs.nm) rfl ?_
 simp only[go_sem,e1,e2]
 generalize yZ d.nm=A at*
 generalize hA1:decide (d.tys.length<=30)=A1 at*
 generalize hA2:decide (d.cus.length<=30)=A2 at*
 generalize hA3:decide (d.mas.length<=30)=A3 at*
 generalize hA4:decide (d.ins.length<=30)=A4 at*
 generalize hA5:decide (d.ous.length<=30)=A5 at*
 generalize hA6:decide (d.bls.length<=200)=A6 at*
 refine zU (fun hc=>?_) (fun hc=>?_)
 ·refine yL (hR C hL) ?_
  cases A<;>cases A1<;>cases A2<;>cases A3<;>cases A4<;>cases A5<;>cases A6<;>first|rfl|(cases hc)
 have hall:A=true/\A1=true/\A2=true/\A3=true/\A4=true/\A5=true/\A6=true:=by
  cases A<;>cases A1<;>cases A2<;>cases A3<;>cases A4<;>cases A5<;>cases A6<;>first|(and_intros<;>rfl)|(cases hc;done)
 obtain⟨rfl,rfl,rfl,rfl,rfl,rfl,rfl⟩:=hall
 simp only[decide_eq_true_eq]at hA1 hA2 hA3 hA4 hA5 hA6
 simp only[Je]at hR
 refine vv ?_
 refine Sm.bringC 11 78 100 1 (hd.ty.mono hH) rfl rfl rfl ?_
 refine Sm.bringC 12 84 100 2 (hd.cu.mono hH) rfl rfl rfl ?_
 refine Sm.bringC 13 91 100 3 (hd.ma.mono hH) rfl rfl rfl ?_
 refine Sm.bringC 14 51 100 4 (hd.i.mono hH) rfl rfl rfl ?_
 refine Sm.bringC 15 53 100 5 (hd.bl.mono hH) rfl rfl rfl ?_
 rw[n1,n2,n3,n4,n5]
 refine zG (M0:=[]) (α:={i:Nat//i<=d.tys.length/\d.tys.all (fun t=>yZ t.nm&&yE t.ty)=(d.tys.drop i).all (fun t=>yZ t.nm&&yE t.ty)}) hP (fun i=>[(1,true,.c (.p 1 0)),(3,true,I i.val)])
  (fun _=>[(1,⟨false,[.v (sv d.nm),.sl 11 0 d.tys.length 11,.sl 12 0 d.cus.length 3,.sl 13 0 d.mas.length 4,.sl 14 0 d.ins.length 4,.sl 15 0 d.bls.length 6,.v (vsl d.ou d.ous.length)],29⟩),(11,⟨true,zD (d.tys.map Td.r),78⟩),(12,⟨true,zD (d.cus.map CuL.r),84⟩),(13,⟨true,zD (d.mas.map MpL.r),91⟩),(14,⟨true,zD (d.ins.map Po.r),51⟩),(15,⟨true,zD (d.bls.map BlL.r),53⟩)]) (fun i=>d.tys.length-i.val) ⟨0,zA,rfl⟩ (fun _=>cM) (fun _=>zO rfl) [(1,100),(11,11),(12,12),(13,13),(14,14),(15,15)] ?_ ?_
 ·exact z9
 rintro⟨i,hi,hx⟩ J hj
 simp only at hj hi hx⊢
 refine zB 120 (vv ?_)
 refine zU (fun hc=>?_) (fun hc=>?_)
 ·have hc:=zH hc
  rw[JA hc,Ky]at hx
  have hmem:d.tys[i]∈d.tys:=JE hc
  have f0:=zy (r:=Td.r) (k:=11) (fun _=>rfl) d.tys i 0 hc zA
  have f1:=vV (r:=Td.r) (k:=11) (fun _=>rfl) d.tys i 1 10 hc zA
  rw[JV]at f0
  generalize d.tys[i]=x at*
  simp only[go_sem,f0,f1,Td.r,JP,JM,I9,Jp,List.take_succ_cons,List.take_zero,IL]
  refine⟨⟨zA,zA⟩,?_⟩
  refine CallQ.pure 130 (uj x.nm (hs.tys.2 x hmem)) rfl ?_
  simp only[go_sem,f0,f1,Td.r,JP,JM,I9,Jp,List.take_succ_cons,List.take_zero,IL]
  refine⟨fun h=>⟨h,h,zA,zA⟩,fun h=>⟨h,zA⟩,?_⟩
  refine CallQ.guard 140 (fun _=>W3 x.ty) (fun h=>by rw[h];rfl) (vv ?_)
  generalize yZ x.nm=a at*
  generalize yE x.ty=b at*
  refine⟨fun h=>by cases a<;>first|rfl|(cases h;done),?_⟩
  refine zU (fun hp=>?_) (fun hp=>?_)
  ·refine yL (hR C hL) ?_
   rw[hx]
   cases a<;>cases b<;>first|rfl|(cases hp;done)
  ·have hq:(a&&b)=true:=by cases a<;>cases b<;>first|rfl|(cases hp;done)
   rw[hq,Je]at hx
   simp only[go_sem,yT (i:=i)]
   exact hj _ _ ⟨i+1,hc,hx⟩ [(1,1),(11,11),(12,12),(13,13),(14,14),(15,15)] yF z9
 have hc:=zL hi hc
 rw[hc,JL]at hx
 have hx:d.tys.all (fun t=>yZ t.nm&&yE t.ty)=true:=hx
 rw[hx,Je]at hR
 refine vv ?_
 refine zG (M0:=[]) (α:={i:Nat//i<=d.cus.length/\d.cus.all (fun c=>yZ c.c.nm&&vq c.c.xs c.c.ys)=(d.cus.drop i).all (fun c=>yZ c.c.nm&&vq c.c.xs c.c.ys)}) hP (fun i=>[(1,true,.c (.p 1 0)),(4,true,I i.val)])
  (fun _=>[(1,⟨false,[.v (sv d.nm),.sl 11 0 d.tys.length 11,.sl 12 0 d.cus.length 3,.sl 13 0 d.mas.length 4,.sl 14 0 d.ins.length 4,.sl 15 0 d.bls.length 6,.v (vsl d.ou d.ous.length)],29⟩),(11,⟨true,zD (d.tys.map Td.r),78⟩),(12,⟨true,zD (d.cus.map CuL.r),84⟩),(13,⟨true,zD (d.mas.map MpL.r),91⟩),(14,⟨true,zD (d.ins.map Po.r),51⟩),(15,⟨true,zD (d.bls.map BlL.r),53⟩)]) (fun i=>d.cus.length-i.val) ⟨0,zA,rfl⟩ (fun _=>cM) (fun _=>zO rfl) [(1,1),(11,11),(12,12),(13,13),(14,14),(15,15)] ?_ ?_
 ·exact z9
 rintro⟨i,hi,hx⟩ J hj
 simp only at hj hi hx⊢
 refine zB 120 (vv ?_)
 refine zU (fun hc=>?_) (fun hc=>?_)
 ·have hc:=zH hc
  rw[JA hc,Ky]at hx
  have hmem:d.cus[i]∈d.cus:=JE hc
  have f0:=zy (r:=CuL.r) (k:=3) (fun _=>rfl) d.cus i 0 hc zA
  have f1:=vV (r:=CuL.r) (k:=3) (fun _=>rfl) d.cus i 1 2 hc zA
  rw[JV]at f0
  generalize d.cus[i]=x at*
  simp only[go_sem,f0,f1,CuL.r,JP,JM,I9,Jp,List.take_succ_cons,List.take_zero,IL]
  refine⟨⟨zA,zA⟩,?_⟩
  refine CallQ.pure 130 (uj x.c.nm (hs.cus.2 x hmem).1) rfl ?_
  simp only[go_sem,f0,f1,CuL.r,JP,JM,I9,Jp,List.take_succ_cons,List.take_zero,IL]
  refine⟨fun h=>⟨h,h,zA,zA⟩,fun h=>⟨h,zA⟩,?_⟩
  refine zt 140 (fun _=>bF x.x x.y x.c.xs x.c.ys (hd.cus x hmem).x (hd.cus x hmem).y (hs.cus.2 x hmem).2.2) hH (fun h=>by rw[h];rfl) (vv ?_)
  generalize yZ x.c.nm=a at*
  generalize vq x.c.xs x.c.ys=b at*
  refine⟨fun h=>by cases a<;>first|rfl|(cases h;done),?_⟩
  refine zU (fun hp=>?_) (fun hp=>?_)
  ·refine yL (hR C hL) ?_
   rw[hx]
   cases a<;>cases b<;>first|rfl|(cases hp;done)
  ·have hq:(a&&b)=true:=by cases a<;>cases b<;>first|rfl|(cases hp;done)
   rw[hq,Je]at hx
   simp only[go_sem,yT (i:=i)]
   exact hj _ _ ⟨i+1,hc,hx⟩ [(1,1),(11,11),(12,12),(13,13),(14,14),(15,15)] yF z9
 have hc:=zL hi hc
 rw[hc,JL]at hx
 have hx:d.cus.all (fun c=>yZ c.c.nm&&vq c.c.xs c.c.ys)=true:=hx
 rw[hx,Je]at hR
 refine vv ?_
 refine zG (M0:=[]) (α:={i:Nat//i<=d.mas.length/\d.mas.all (fun m=>yZ m.nm&&wD m.xs m.ys (m.zs.map (·.2)))=(d.mas.drop i).all (fun m=>yZ m.nm&&wD m.xs m.ys (m.zs.map (·.2)))}) hP (fun i=>[(1,true,.c (.p 1 0)),(5,true,I i.val)])
  (fun _=>[(1,⟨false,[.v (sv d.nm),.sl 11 0 d.tys.length 11,.sl 12 0 d.cus.length 3,.sl 13 0 d.mas.length 4,.sl 14 0 d.ins.length 4,.sl 15 0 d.bls.length 6,.v (vsl d.ou d.ous.length)],29⟩),(11,⟨true,zD (d.tys.map Td.r),78⟩),(12,⟨true,zD (d.cus.map CuL.r),84⟩),(13,⟨true,zD (d.mas.map MpL.r),91⟩),(14,⟨true,zD (d.ins.map Po.r),51⟩),(15,⟨true,zD (d.bls.map BlL.r),53⟩)]) (fun i=>d.mas.length-i.val) ⟨0,zA,rfl⟩ (fun _=>cM) (fun _=>zO rfl) [(1,1),(11,11),(12,12),(13,13),(14,14),(15,15)] ?_ ?_
 ·exact z9
 rintro⟨i,hi,hx⟩ J hj
 simp only at hj hi hx⊢
 refine zB 120 (vv ?_)
 refine zU (fun hc=>?_) (fun hc=>?_)
 ·have hc:=zH hc
  rw[JA hc,Ky]at hx
  have hmem:d.mas[i]∈d.mas:=JE hc
  have f0:=zy (r:=MpL.r) (k:=4) (fun _=>rfl) d.mas i 0 hc zA
  have f1:=vV (r:=MpL.r) (k:=4) (fun _=>rfl) d.mas i 1 3 hc zA
  rw[JV]at f0
  generalize d.mas[i]=x at*
  simp only[go_sem,f0,f1,MpL.r,JP,JM,I9,Jp,List.take_succ_cons,List.take_zero,IL]
  refine⟨⟨zA,zA⟩,?_⟩
  refine CallQ.pure 130 (uj x.nm (hs.mas.2 x hmem).1) rfl ?_
  simp only[go_sem,f0,f1,MpL.r,JP,JM,I9,Jp,List.take_succ_cons,List.take_zero,IL]
  refine⟨fun h=>⟨h,h,zA,zA⟩,fun h=>⟨h,zA⟩,?_⟩
  refine zt 140 (fun _=>cw x (hd.mas x hmem) (hs.mas.2 x hmem).2) hH (fun h=>by rw[h];rfl) (vv ?_)
  generalize yZ x.nm=a at*
  generalize wD x.xs x.ys (x.zs.map (·.2))=b at*
  refine⟨fun h=>by cases a<;>first|rfl|(cases h;done),?_⟩
  refine zU (fun hp=>?_) (fun hp=>?_)
  ·refine yL (hR C hL) ?_
   rw[hx]
   cases a<;>cases b<;>first|rfl|(cases hp;done)
  ·have hq:(a&&b)=true:=by cases a<;>cases b<;>first|rfl|(cases hp;done)
   rw[hq,Je]at hx
   simp only[go_sem,yT (i:=i)]
   exact hj _ _ ⟨i+1,hc,hx⟩ [(1,1),(11,11),(12,12),(13,13),(14,14),(15,15)] yF z9
 have hc:=zL hi hc
 rw[hc,JL]at hx
 have hx:d.mas.all (fun m=>yZ m.nm&&wD m.xs m.ys (m.zs.map (·.2)))=true:=hx
 rw[hx,Je]at hR
 refine vv ?_
 refine zG (M0:=[]) (α:={i:Nat//i<=d.ins.length/\d.ins.all nj=(d.ins.drop i).all nj}) hP (fun i=>[(1,true,.c (.p 1 0)),(6,true,I i.val)])
  (fun _=>[(1,⟨false,[.v (sv d.nm),.sl 11 0 d.tys.length 11,.sl 12 0 d.cus.length 3,.sl 13 0 d.mas.length 4,.sl 14 0 d.ins.length 4,.sl 15 0 d.bls.length 6,.v (vsl d.ou d.ous.length)],29⟩),(11,⟨true,zD (d.tys.map Td.r),78⟩),(12,⟨true,zD (d.cus.map CuL.r),84⟩),(13,⟨true,zD (d.mas.map MpL.r),91⟩),(14,⟨true,zD (d.ins.map Po.r),51⟩),(15,⟨true,zD (d.bls.map BlL.r),53⟩)]) (fun i=>d.ins.length-i.val) ⟨0,zA,rfl⟩ (fun _=>cM) (fun _=>zO rfl) [(1,1),(11,11),(12,12),(13,13),(14,14),(15,15)] ?_ ?_
 ·exact z9
 rintro⟨i,hi,hx⟩ J hj
 simp only at hj hi hx⊢
 refine zB 120 (vv ?_)
 refine zU (fun hc=>?_) (fun hc=>?_)
 ·have hc:=zH hc
  rw[JA hc,Ky]at hx
  have hmem:d.ins[i]∈d.ins:=JE hc
  have f0:=z6 (r:=Po.r) (k:=4) (fun _=>rfl) d.ins i hc
  generalize d.ins[i]=x at*
  simp only[go_sem,f0,z4]
  refine⟨⟨zA,zA⟩,zA,?_⟩
  refine CallQ.pure 160 (uj x.nm (hs.ins.2 x hmem).1) rfl ?_
  simp only[go_sem,IL]
  refine CallQ.guard 160 (fun _=>uj x.ty (hs.ins.2 x hmem).2) (fun h=>by rw[h];rfl) ?_
  simp only[go_sem,IL]
  refine⟨fun h=>by rw[<-IL (yZ x.nm),h];rfl,?_⟩
  refine CallQ.guard 160 (fun _=>cn x.lo) (fun h=>by rw[h];rfl) (vv ?_)
  refine CallQ.guard 160 (fun _=>cn x.hi) (fun h=>by rw[h];rfl) (vv ?_)
  have hpo:nj x=(yZ x.nm&&(yZ x.ty&&(tp x.lo&&tp x.hi))):=rfl
  rw[hpo]at hx
  refine vv ?_
  generalize yZ x.nm=a at*
  generalize yZ x.ty=b at*
  generalize tp x.lo=e at*
  generalize tp x.hi=f at*
  refine zU (fun hp=>?_) (fun hp=>?_)
  ·refine yL (hR C hL) ?_
   rw[hx]
   cases a<;>cases b<;>cases e<;>cases f<;>first|rfl|(cases hp;done)
  ·have hq:(a&&(b&&(e&&f)))=true:=by cases a<;>cases b<;>cases e<;>cases f<;>first|rfl|(cases hp;done)
   rw[hq,Je]at hx
   simp only[go_sem,yT (i:=i)]
   exact hj _ _ ⟨i+1,hc,hx⟩ [(1,1),(11,11),(12,12),(13,13),(14,14),(15,15)] yF z9
 have hc:=zL hi hc
 rw[hc,JL]at hx
 have hx:d.ins.all nj=true:=hx
 rw[hx,Je]at hR
 refine vv ?_
 refine zG (M0:=[]) (α:={i:Nat//i<=d.bls.length/\d.bls.all (fun b=>xI b.c)=(d.bls.drop i).all (fun b=>xI b.c)}) hP (fun i=>[(1,true,.c (.p 1 0)),(8,true,I i.val)])
  (fun _=>[(1,⟨false,[.v (sv d.nm),.sl 11 0 d.tys.length 11,.sl 12 0 d.cus.length 3,.sl 13 0 d.mas.length 4,.sl 14 0 d.ins.length 4,.sl 15 0 d.bls.length 6,.v (vsl d.ou d.ous.length)],29⟩),(11,⟨true,zD (d.tys.map Td.r),78⟩),(12,⟨true,zD (d.cus.map CuL.r),84⟩),(13,⟨true,zD (d.mas.map MpL.r),91⟩),(14,⟨true,zD (d.ins.map Po.r),51⟩),(15,⟨true,zD (d.bls.map BlL.r),53⟩)]) (fun i=>d.bls.length-i.val) ⟨0,zA,rfl⟩ (fun _=>cM) (fun _=>zO rfl) [(1,1),(11,11),(12,12),(13,13),(14,14),(15,15)] ?_ ?_
 ·exact z9
 rintro⟨i,hi,hx⟩ J hj
 simp only at hj hi hx⊢
 refine zB 120 (vv ?_)
 refine zU (fun hc=>?_) (fun hc=>?_)
 ·have hc:=zH hc
  rw[JA hc,Ky]at hx
  have hmem:d.bls[i]∈d.bls:=JE hc
  have f0:=z6 (r:=BlL.r) (k:=6) (fun _=>rfl) d.bls i hc
  obtain⟨k1,k2,k3,k4,k5,k6⟩:=hs.bls.2 _ hmem
  have hbo:=Zc _ (hd.bls _ hmem) k1 k2 k3 k4 k5 k6
  generalize d.bls[i]=x at*
  simp only[go_sem,f0,z5]
  refine⟨⟨zA,zA⟩,zA,?_⟩
  refine z8 160 hbo hH rfl (vv ?_)
  generalize xI x.c=a at*
  refine zU (fun hp=>?_) (fun hp=>?_)
  ·refine yL (hR C hL) ?_
   rw[hx]
   cases a<;>first|rfl|(cases hp;done)
  ·have hq:a=true:=by cases a<;>first|rfl|(cases hp;done)
   rw[hq,Je]at hx
   simp only[go_sem,yT (i:=i)]
   exact hj _ _ ⟨i+1,hc,hx⟩ [(1,1),(11,11),(12,12),(13,13),(14,14),(15,15)] yF z9
 have hc:=zL hi hc
 rw[hc,JL]at hx
 have hx:d.bls.all (fun b=>xI b.c)=true:=hx
 rw[hx,Je]at hR
 refine vv ?_
 refine z8 160 (fe d.ou d.ous hd.ou hs.ous.1 hs.ous.2) hH rfl (vv ?_)
 exact yL (hR C hL) rfl
def g1B (c:Cu):Bool:=decide (12<max (c.xs.length:Int) (c.ys.length:Int))
def g2B (m:Mp):Bool:=decide (12<max (max (m.xs.length:Int) (m.ys.length:Int)) (m.zs.length:Int))
def Px (d:Dg):Bool:=bif bif bif decide (30<(d.bls.length:Int))then decide ((d.bls.length:Int)<=200)else false then true else decide (210<(d.bls.length:Int))then true
 else decide (40<max (max (max (max (d.tys.length:Int) (d.cus.length:Int)) (d.mas.length:Int)) (d.ins.length:Int)) (d.ous.length:Int))
def gV (d:Dg):Bool:=bif Px d then true else bif d.cus.any g1B then true else d.mas.any g2B
theorem VD (c:CuL):CallOk Tryz.prog 40 [yD (CuL.r c)] [] (Bo (g1B c.c)) []:=by
 refine kN 100 func40 Ow ntmps40 fun C hR hP=>?_
 refine vv ?_
 exact yL hR rfl
theorem VC (c:MpL):CallOk Tryz.prog 41 [yD (MpL.r c)] [] (Bo (g2B c.c)) []:=by
 refine kN 100 func41 Ov ntmps41 fun C hR hP=>?_
 refine vv ?_
 refine yL hR ?_
 unfold g2B MpL.c
 simp only[Ku]
theorem VB {H:Hp}(d:DgL)(hd:d.ok H)(hs:d.sm):CallH H Tryz.prog 12 [yD d.r] (Bo (gV d.c)):=by
 refine kH func12 NG ntmps12 fun C hR hP hH hL=>?_
 refine zB 100 (vv ?_)
 have e1:(d.bls.length:Int)=(d.c.bls.length:Int):=by simp[DgL.c]
 have e2:(d.cus.length:Int)=(d.c.cus.length:Int):=by simp[DgL.c]
 have e3:(d.mas.length:Int)=(d.c.mas.length:Int):=by simp[DgL.c]
 have ec:d.cus.any (fun c=>g1B c.c)=d.c.cus.any g1B:=by
  show _=(d.cus.map CuL.c).any g1B
  rw[Hd];rfl
 have em:d.mas.any (fun c=>g2B c.c)=d.c.mas.any g2B:=by
  show _=(d.mas.map MpL.c).any g2B
  rw[Hd];rfl
 refine zU (fun h0=>?_) (fun h0=>?_)
 ·rw[e1,e2,e3]at h0
  have h0:Px d.c=true:=h0
  refine yL (hR C hL) ?_
  unfold gV;rw[h0];rfl
 ·rw[e1,e2,e3]at h0
  have h0:Px d.c=false:=h0
  refine z8 110 (Xp d.cu d.cus hd.cu hs.cus.1 40 #[] (fun c=>g1B c.c) (fun c _=>(VD c).toH)) hH rfl (vv ?_)
  refine zt 110 (fun _=>Xo d.ma d.mas hd.ma hs.mas.1 41 #[] (fun c=>g2B c.c) (fun c _=>(VC c).toH)) hH (fun h=>by rw[h];rfl) (vv ?_)
  refine yL (hR C hL) ?_
  unfold gV;rw[h0,<-ec,<-em,cond_false]
theorem WV {H:Hp}(d:DgL)(hd:d.ok H)(h1:d.ins.length<=1000000)(h2:d.bls.length<=1000000)(hlI:∀b∈d.bls,b.c.ins.length<=1000000)(hin:∀b∈d.bls,∀s∈b.c.ins,sW (zQ d.c) s=true):
  CallX H Tryz.prog 61 [.agg (rk d)] (xU d) (fun _:Unit=>I (oI (uz (yS d.c) d.bls.length))) (fun _=>[]) (fun _ _=>True):=by
 have z5:=zP (r:=BlL.r) (k:=6) (fun _=>rfl) d.bls
 have hBl:=vP d
 have hor:=lL d hd h1 h2 hlI hin
 have hre:=Z6 d hd h1 h2 hlI hin
 have hlr:uz (yS d.c) d.bls.length=if (xR (yS d.c) d.bls.length).length=d.bls.length then none else(List.range d.bls.length).find? (gF (yS d.c) d.bls.length):=rfl
 refine kX func61 O9 ntmps61 fun C hR hP hH hL=>?_
 have hR:=hR () C hL trivial
 refine zB 100 (vv ?_)
 refine Sm.dg 110 6 ze (vv ?_)
 refine DCallQ.hr [(4,4),(5,5),(1,130)] 131 hor hH (zo d) rfl rfl ⟨oY,oY,trivial⟩ rfl (.inl rfl) rfl rfl ?_
 simp only[Mem.ren,Kv,Kx,yO (xK _),V.ren,Cv.ren,rn,Nat.reduceBEq,cond_true,cond_false]
 refine vv ?_
 refine zU (fun he=>?_) (fun he=>?_)
 ·have he:(xR (yS d.c) d.bls.length).length=d.bls.length:=by have:=eq_of_beq he;omega
  rw[hlr,if_pos he]at hR
  exact yI hR (zo d)
 have he:(xR (yS d.c) d.bls.length).length≠d.bls.length:=fun h=>by rw[h]at he;simp at he
 rw[if_neg he]at hlr
 generalize hB:yS d.c=B at*
 generalize (xR B d.bls.length)=ol at*
 refine sh hP [(1,true,.c (.p 2 0)),(3,true,I 0)] ((2,⟨false,rk d,29⟩)::xU d) [(2,100),(4,4),(5,5)] z9 cM (zO rfl) ?_
 refine zG (M0:=xU d) (α:={i:Nat//i<=d.bls.length/\uz B d.bls.length=((List.range d.bls.length).drop i).find? (gF B d.bls.length)}) hP (fun i=>[(1,true,.c (.p 2 0)),(3,true,I i.val)]) (fun _=>(2,⟨false,rk d,29⟩)::xU d) (fun i=>d.bls.length-i.val) ⟨0,zA,hlr⟩ (fun _=>cM) (fun _=>zO rfl) [(2,2),(4,4),(5,5)] ?_ ?_
 ·exact z9
 rintro⟨i,hi,hx⟩ J hj
 simp only at hj hi hx⊢
 refine zB 140 (vv ?_)
 refine zU (fun hc=>?_) (fun hc=>?_)
 ·have hc:=zH hc
  have f1:=zy (r:=BlL.r) (k:=6) (fun _=>rfl) d.bls i 1 hc zA
  have hnd:B i=tm (zQ d.c) d.ins.length d.bls[i].c:=by rw[<-hB];exact uQ hc
  have hdr:(List.range d.bls.length).drop i=i::(List.range d.bls.length).drop (i+1):=by
   rw[JA (by simpa using hc)];simp
  rw[hdr,List.find?_cons]at hx
  have hlr2:=YI hBl hc
  have hln:=YH hBl hc
  have hre:=hre i hc
  have hrl:=jV B d.bls.length i
  have hc0:=hc
  generalize d.bls[i]=b at*
  cases hkd:b.c.kd==uW with
  |true=>
   rw[hln (by rw[hnd];unfold tm;rw[if_pos hkd])]at hx
   have hkd2:(b.c.kd==[100,101,108,97,121])=true:=hkd
   simp only[go_sem,f1,BlL.r,JP,Jb,JM,hkd2,bne]
   refine⟨⟨zA,zA⟩,?_⟩
   refine CallQ.guard (xs:=[]) (v:= .c (.sl 5 0 1 6)) 150 (fun h=>by cases h) (fun h=>by cases h) ?_
   have f0:=zy (r:=BlL.r) (k:=6) (fun _=>rfl) d.bls i 0 hc0 zA
   rw[JV]at f0
   simp only[go_sem,f0,BlL.r,JP,JM,yT (i:=i)]
   exact hj _ _ ⟨i+1,hc,hx⟩ [(2,2),(4,4),(5,5)] yF z9
  |false=>
   have hkd2:(b.c.kd==[100,101,108,97,121])=false:=hkd
   simp only[go_sem,f1,BlL.r,JP,Jb,JM,hkd2,bne]
   refine⟨⟨zA,zA⟩,?_⟩
   refine CallQ.hr [(4,4),(5,5),(1,150)] 151 hre hH (zo d) rfl rfl ⟨oY,oY,trivial⟩ rfl (.inl rfl) ?_
   simp only[Mem.ren,Kv,Kx,yO (uB _),V.ren,Cv.ren,rn,Nat.reduceBEq,cond_true,cond_false]
   have hg:=uo (l:=nh B d.bls.length i) (i:=i) zA
   simp only[go_sem,hg]
   refine⟨⟨zA,zA⟩,?_⟩
   rw[hlr2]
   cases hl:gF B d.bls.length i with
   |true=>
    rw[hl]at hx
    have hx:uz B d.bls.length=some i:=hx
    rw[hx]at hR
    refine vv ?_
    exact yI hR (zo d)
   |false=>
    rw[hl]at hx
    simp only[go_sem,yT (i:=i)]
    exact hj _ _ ⟨i+1,hc,hx⟩ [(2,2),(4,4),(5,5)] yF z9
 ·have hc:=zL hi hc
  subst hc
  rw[Id zc]at hx
  have hx:uz B d.bls.length=none:=hx
  rw[hx]at hR
  exact yI hR (zo d)
theorem _root_.Go.Proofs.YtkciabfilokfiaaGreat.Vg.CallQ.hS {P:Program}{nt:Nat}{C:Cx}{todo:List It}{e:Env}{M:Mem}{H:Hp}{f:FuncId}{vs:List (Option (Bool×V))}{g:Bool}{dst:Option Nat}{xs:List V}{v:V}(hc:CallH H P f xs v)(hH:H.le C.hp)(hvs:vs=xs.map fun x=>some (true,x))(h:Sm P nt C todo (e.put dst g v) M):
  CallQ P nt C f vs g dst todo e M:=Or.inl ⟨[],[],v,xs,fun _=>hvs,fun _=> .inr (hc.kx hH),Sub.nil _,ClM.nil,Fresh.nil _ _,.inr rfl,h⟩
theorem WY (a b:Int)(ha: -4611686018427387904<=a/\a<=4611686018427387904)(hb:0<b)(hb2:b<=4611686018427387904):CallOk Tryz.prog 272 [I a,I b,I 1] [] (.tup [Wi (a/b),Wi 0]) []:=by
 have h1: -4611686018427387904<=a/b:=by
  rw[Ix hb]
  have:=IF (show(1:Int)<=b by omega) (show(0:Int)<=4611686018427387904 by decide)
  omega
 have h2:a/b<=4611686018427387904:=by
  refine Il hb ?_
  have:=IF (show(1:Int)<=b by omega) (show(0:Int)<=4611686018427387904 by decide)
  omega
 have hm:=Z8 a 1 b 1 zA zA yg yg hb zA yg yg
 have e1:rnd 1 (a*1) b=a/b:=by unfold rnd;rw[if_pos rfl,Int.mul_one]
 have e2:qG (a/b)=true:=by unfold qG;rw[decide_eq_true zA,decide_eq_true zA];rfl
 rw[e1,e2]at hm
 refine kN 100 func272 T7 ntmps272 fun C hR hP=>?_
 refine vv ?_
 refine CallQ.pure 110 hm rfl (vv ?_)
 exact yI hR ClM.nil
theorem UH (a b:Int)(ha: -4611686018427387904<=a/\a<=4611686018427387904)(hb:0<b)(hb2:b<=4611686018427387904):CallOk Tryz.prog 248 [I a,I b] [] (I (a/b)) []:=by
 refine kN 100 func248 Tz ntmps248 fun C hR hP=>?_
 refine vv ?_
 refine CallQ.pure 110 (WY a b ha hb hb2) rfl (vv ?_)
 exact uT hR rfl
@[reducible] def QS (c:CuL):List Cv:=[.sl 8 0 c.c.xs.length 1,.sl 9 0 c.c.ys.length 1]
@[reducible] def Vf (c:CuL):Mem:=[(8,⟨true,c.c.xs.map iC,3⟩),(9,⟨true,c.c.ys.map iC,3⟩)]
theorem gn {P:Program}{nt:Nat}{C:Cx}{todo:List It}{e:Env}{M:Mem}{b:CuL}(hb:b.ok C.hp)(t:Nat){g:Bool}(hn:(M.get 8).isNone=true/\(M.get 9).isNone=true)(hx:e.get t=some (g,.agg (kD b)))
  (kk:Sm P nt C todo ((t,g,.agg (QS b))::e) (Vf b++M)):Sm P nt C todo e M:=by
 obtain⟨l1,a1,b1,_⟩:=hb.x.loc
 obtain⟨l2,a2,b2,_⟩:=hb.y.loc
 have h1:(zZ b.c.xs).length=b.c.xs.length:=by simp[zZ]
 have h2:(zZ b.c.ys).length=b.c.ys.length:=by simp[zZ]
 rw[h1]at a1
 rw[h2]at a2
 refine sr (fun n=>if n=8 then some l1 else if n=9 then some l2 else none) (Vf b) ((t,g,.agg (QS b))::e) (by simp[hn.1,hn.2]) (fun n l hl=>?_) (fun β hβ=>?_) kk
 ·simp only[Vf,zF]
  by_cases hh:n=8
  ·simp[hh]
  ·rw[if_neg hh]at hl⊢
   by_cases hh2:n=9
   ·simp[hh2]
   ·rw[if_neg hh2]at hl;cases hl
 ·have e1:β 8=l1:=hβ 8 l1 rfl
  have e2:β 9=l2:=hβ 9 l2 rfl
  refine⟨fun n c hc=>?_,fun t' x hx'=>?_⟩
  ·simp only[Vf,zF]at hc
   split at hc
   ·rename_i h;cases hc;subst h;rw[e1];show LcH _ _ ((b.c.xs.map iC).map _);rw[<-vG,vM];exact b1
   ·split at hc
    ·rename_i h;cases hc;subst h;rw[e2];show LcH _ _ ((b.c.ys.map iC).map _);rw[<-vG,vM];exact b2
    ·cases hc
  ·simp only[Env.get]at hx'
   cases ht:(t==t')with
   |true=>
    rw[ht]at hx'
    have:t=t':=by simpa using ht
    subst this
    simp at hx'
    subst hx'
    refine⟨_,hx,?_⟩
    unfold gv
    congr 1
    simp only[V.g,kD,QS,Kv,Kx,a1 β 8 e1,a2 β 9 e2]
    rfl
   |false=>
    rw[ht]at hx'
    exact⟨x,by simpa using hx',rfl⟩
theorem cY {l:List Int}(hi:vZ l=true){x:Int}{i j:Nat}(h1:i+1<l.length)(h2:j+1<l.length)(a1:l.getD i 0<=x)(a2:x<l.getD (i+1) 0)(b1:l.getD j 0<=x)(b2:x<l.getD (j+1) 0):i=j:=by
 have p1:¬i<j:=fun hn=>by
  have:=ob hi (show i+1<=j by omega) zA
  omega
 have p2:¬j<i:=fun hn=>by
  have:=ob hi (show j+1<=i by omega) zA
  omega
 omega
theorem X1 {H:Hp}(c:CuL)(hc:c.ok H)(k:CuOk c.c)(x:Int):CallH H Tryz.prog 230 [.agg (kD c),I x] (I (yk c.c x)):=by
 have k1:=k.len
 have k2:=k.two
 have k3:=k.big
 have ew:IntKind.i64.wrap ((c.c.xs.length:Int)-1)=((c.c.xs.length-1:Nat):Int):=by rw[ya zA zA];omega
 have hgx:∀i,i<c.c.xs.length->(c.c.xs.map iC)[i]?=some (iC (c.c.xs.getD i 0)):=fun i h=>yR h
 have hgy:∀i,i<c.c.xs.length->(c.c.ys.map iC)[i]?=some (iC (c.c.ys.getD i 0)):=fun i h=>yR zA
 refine kH func230 SP ntmps230 fun C hR hP hH hL=>?_
 refine gn (hc.mono hH) 0 ⟨rfl,rfl⟩ rfl (zB 100 ?_)
 simp only[go_sem,hgx 0 zA,Int.toNat_zero]
 refine⟨zA,?_⟩
 refine zU (fun h0=>?_) (fun h0=>?_)
 ·simp only[go_sem,hgy 0 zA]
  refine⟨zA,?_⟩
  refine uT (hR C hL) ?_
  unfold yk;rw[h0];rfl
 simp only[go_sem,ew,hgx (c.c.xs.length-1) zA]
 refine⟨⟨zA,zA⟩,?_⟩
 refine zU (fun h1=>?_) (fun h1=>?_)
 ·simp only[go_sem,ew,hgy (c.c.xs.length-1) zA]
  refine⟨⟨zA,zA⟩,?_⟩
  refine uT (hR C hL) ?_
  unfold yk;rw[h0,h1];rfl
 have h0':=of_decide_eq_false h0
 have h1':=of_decide_eq_false h1
 refine vv ?_
 have v_i:=yX
 refine zG (M0:=[]) (α:={i:Nat//i+1<c.c.xs.length/\c.c.xs.getD i 0<=x}) hP (fun i=>[(1,true,I x),(2,true,.c (.p 100 0)),(6,true,I i.val)])
  (fun _=>(100,⟨false,QS c,82⟩)::Vf c) (fun i=>c.c.xs.length-i.val) ⟨0,zA,zA⟩ (fun _=>zC (by simp only[Ky,zh (yX _)];rfl)) (fun _=>zO rfl) [(100,100),(8,8),(9,9)] ?_ ?_
 ·exact z9
 rintro⟨i,hi,hx⟩ J hj
 simp only at hj hi hx⊢
 have wi:IntKind.i64.wrap ((i:Int)+1)=((i+1:Nat):Int):=wS zA
 refine zB 110 ?_
 simp only[go_sem,wi,hgx (i+1) hi]
 refine⟨⟨zA,zA⟩,?_⟩
 refine zU (fun hd=>?_) (fun hd=>?_)
 ·have hd:=of_decide_eq_true hd
  have hl:i+2<c.c.xs.length:=Jf fun hn=>by
   rw[show i+1=c.c.xs.length-1 by omega]at hd
   omega
  exact hj _ _ ⟨i+1,hl,hd⟩ [(100,100),(8,8),(9,9)] yF z9
 ·have hd:=of_decide_eq_false hd
  clear hj
  obtain⟨s1,s2,s3,s4⟩:=ig (l:=c.c.xs) (x:=x) k2 zA zA
  have hs:xH c.c.xs x-1=i:=cY k.inc (i:=xH c.c.xs x-1) (j:=i) zA hi s3 (by rw[show xH c.c.xs x-1+1=xH c.c.xs x by omega];exact s4) hx zA
  have hv:yk c.c x=nV (c.c.xs.getD i 0) (c.c.xs.getD (i+1) 0) (c.c.ys.getD i 0) (c.c.ys.getD (i+1) 0) x:=by
   unfold yk;rw[h0,h1,hs,show xH c.c.xs x=i+1 by omega];rfl
  rw[hv]at hR
  have b0:=wt (xz k.x i zA)
  have b1:=wt (xz k.x (i+1) zA)
  have b2:=wt (xz k.y i zA)
  have b3:=wt (xz k.y (i+1) zA)
  obtain⟨m1,m2,m3⟩:=gQ (x:=x) hx zA b0.1 b1.2 b2 b3
  have gx0:=hgx i zA
  have gx1:=hgx (i+1) hi
  have gy0:=hgy i zA
  have gy1:=hgy (i+1) hi
  generalize c.c.xs.getD i 0=x0 at*
  generalize c.c.xs.getD (i+1) 0=x1 at*
  generalize c.c.ys.getD i 0=y0 at*
  generalize c.c.ys.getD (i+1) 0=y1 at*
  have wx:IntKind.i64.wrap (x-x0)=x-x0:=ya zA zA
  have wy:IntKind.i64.wrap (y1-y0)=y1-y0:=ya zA zA
  have wd:IntKind.i64.wrap (x1-x0)=x1-x0:=ya zA zA
  have wp:IntKind.i64.wrap ((x-x0)*(y1-y0))=(x-x0)*(y1-y0):=ya zA zA
  refine Sm.dg 120 38 ze ?_
  simp only[go_sem,gx0,gx1,gy0,gy1,wi,wx,wy,wd,wp]
  refine⟨⟨zA,zA⟩,⟨zA,zA⟩,⟨zA,zA⟩,⟨zA,zA⟩,⟨zA,zA⟩,⟨zA,zA⟩,?_⟩
  refine DCallQ.pure 130 (UH _ _ m1 zA zA) rfl (vv ?_)
  refine uT (hR C hL) ?_
  unfold nV
  exact ya zA zA
end Go.Proofs.YtkciabfilokfiaaGreat.Fx
