/-  -/
import Derived.Test.YtkciabfilokfiaaGreatTJ
open Go.Proofs.Tryz
set_option linter.unusedSimpArgs false
set_option linter.unusedVariables false
set_option maxRecDepth 100000
set_option maxHeartbeats 4000000
namespace Go.Proofs.YtkciabfilokfiaaGreat.Fx
open Vg Tf
@[reducible] def X4 (d:DgL)(l:List Str):Mem:=(2,⟨false,rk d,29⟩)::(3,⟨false,l.map sC,9⟩)::xU d
theorem UE {H:Hp}(d:DgL)(hd:d.ok H)(g1:d.tys.length<=1000000)(g2:d.cus.length<=1000000)(g3:d.mas.length<=1000000)(h1:d.ins.length<=1000000)(h2:d.bls.length<=1000000):
  CallX H Tryz.prog 55 [.agg (rk d)] (xU d) (fun _:Unit=> .c (.sl 1 0 (tI d.c).length 1)) (fun _=>[ZD 1 (tI d.c)]) (fun _ _=>True):=by
 have hal:tI d.c=((d.tys.map (fun t:Td=>t.nm)++d.cus.map (fun c:CuL=>c.c.nm))++d.mas.map (fun m:MpL=>m.nm))++zQ d.c:=by
  unfold tI
  congr 1
  simp[DgL.c,MpL.c]
  rfl
 rw[hal]
 have hsl:=xh d
 refine kX func55 Of ntmps55 fun C hR hP hH hL=>?_
 have hR:=hR () C hL trivial
 refine zB 100 (vv ?_)
 refine yz 140 1 9 [3] [] rfl ?_
 have hcl:∀l,ClM (X4 d l):=fun l=>zC (by simp only[X4,Ky,iR,zh (y7 _)];rfl)
 have z11:=zP (r:=Td.r) (k:=11) (fun _=>rfl) d.tys
 refine zG (M0:=xU d) (α:={i:Nat//i<=d.tys.length}) hP (fun i=>[(1,true,.c (.p 2 0)),(3,true,.c (.sl 3 0 i.val 1)),(4,true,I i.val)])
  (fun i=>X4 d ((d.tys.take i.val).map (fun t:Td=>t.nm))) (fun i=>d.tys.length-i.val) ⟨0,zA⟩ (fun _=>hcl _) (fun _=>zO rfl) [(2,100),(3,140),(4,4),(5,5)] ?_ ?_
 ·simp only[List.take_zero,Kx,JB,JV]
  exact z9
 rintro⟨i,hi⟩ J hb
 simp only at hb hi⊢
 refine zB 150 ?_
 simp only[go_sem,X4]
 by_cases hc:i<d.tys.length
 ·have e1:decide ((i:Int)<(d.tys.length:Int))=true:=yV zA
  have f0:=zy (r:=Td.r) (k:=11) (fun _=>rfl) d.tys i 0 hc zA
  rw[JV]at f0
  have hlen:(((d.tys.take i).map (fun t:Td=>t.nm)).map sC).length=i:=by simp;omega
  have hsn:List.take i (((d.tys.take i).map (fun t:Td=>t.nm)).map sC)++[sC ((fun t:Td=>t.nm) d.tys[i])]=((d.tys.take (i+1)).map (fun t:Td=>t.nm)).map sC:=by
   rw[JH zA]
   exact wN (fun t:Td=>t.nm) d.tys i hc []
  simp only[go_sem,e1]
  refine Sm.bringR 11 78 16 (hd.ty.mono hH) rfl rfl (zB 160 ?_)
  rw[Ku]
  simp only[go_sem,f0,Td.r,JP,JM,hlen,hsn,yT (i:=i)]
  refine⟨⟨zA,zA⟩,⟨zA,zA,zA⟩,?_⟩
  refine hb _ _ ⟨i+1,hc⟩ [(2,2),(3,161),(4,4),(5,5)] yF ?_
  try simp only[<-IS]
  exact z9
 have e1:decide ((i:Int)<(d.tys.length:Int))=false:=yd zA
 have hc:i=d.tys.length:=zA
 subst hc
 clear hb
 rw[Jh]
 simp only[go_sem,e1]
 have z3:=zP (r:=CuL.r) (k:=3) (fun _=>rfl) d.cus
 have hpl3:((d.tys.map (fun t:Td=>t.nm))).length=d.tys.length:=zc
 refine zG (M0:=xU d) (α:={i:Nat//i<=d.cus.length}) hP (fun i=>[(1,true,.c (.p 2 0)),(3,true,.c (.sl 3 0 (d.tys.length+i.val) 1)),(5,true,I i.val)])
  (fun i=>X4 d ((d.tys.map (fun t:Td=>t.nm))++(d.cus.take i.val).map (fun c:CuL=>c.c.nm))) (fun i=>d.cus.length-i.val) ⟨0,zA⟩ (fun _=>hcl _) (fun _=>zO rfl) [(2,2),(3,3),(4,4),(5,5)] ?_ ?_
 ·simp only[List.take_zero,Kx,JB,JV]
  exact z9
 rintro⟨i,hi⟩ J hb
 simp only at hb hi⊢
 refine zB 150 ?_
 simp only[go_sem,X4]
 by_cases hc:i<d.cus.length
 ·have e1:decide ((i:Int)<(d.cus.length:Int))=true:=yV zA
  have f0:=zy (r:=CuL.r) (k:=3) (fun _=>rfl) d.cus i 0 hc zA
  rw[JV]at f0
  have hlen:(((d.tys.map (fun t:Td=>t.nm))++(d.cus.take i).map (fun c:CuL=>c.c.nm)).map sC).length=(d.tys.length+i):=by simp;omega
  have hsn:List.take (d.tys.length+i) (((d.tys.map (fun t:Td=>t.nm))++(d.cus.take i).map (fun c:CuL=>c.c.nm)).map sC)++[sC ((fun c:CuL=>c.c.nm) d.cus[i])]=((d.tys.map (fun t:Td=>t.nm))++(d.cus.take (i+1)).map (fun c:CuL=>c.c.nm)).map sC:=by
   rw[JH zA]
   exact wN (fun c:CuL=>c.c.nm) d.cus i hc (d.tys.map (fun t:Td=>t.nm))
  simp only[go_sem,e1]
  refine Sm.bringR 11 84 32 (hd.cu.mono hH) rfl rfl (zB 160 ?_)
  rw[Ku]
  simp only[go_sem,f0,CuL.r,JP,JM,hlen,hsn,yT (i:=i)]
  refine⟨⟨zA,zA⟩,⟨zA,zA,zA⟩,?_⟩
  refine hb _ _ ⟨i+1,hc⟩ [(2,2),(3,161),(4,4),(5,5)] yF ?_
  try simp only[<-IS]
  exact z9
 have e1:decide ((i:Int)<(d.cus.length:Int))=false:=yd zA
 have hc:i=d.cus.length:=zA
 subst hc
 clear hb
 rw[Jh]
 simp only[go_sem,e1]
 have z4:=zP (r:=MpL.r) (k:=4) (fun _=>rfl) d.mas
 have hpl4:(((d.tys.map (fun t:Td=>t.nm))++d.cus.map (fun c:CuL=>c.c.nm))).length=(d.tys.length+d.cus.length):=zc
 refine zG (M0:=xU d) (α:={i:Nat//i<=d.mas.length}) hP (fun i=>[(1,true,.c (.p 2 0)),(3,true,.c (.sl 3 0 ((d.tys.length+d.cus.length)+i.val) 1)),(6,true,I i.val)])
  (fun i=>X4 d (((d.tys.map (fun t:Td=>t.nm))++d.cus.map (fun c:CuL=>c.c.nm))++(d.mas.take i.val).map (fun m:MpL=>m.nm))) (fun i=>d.mas.length-i.val) ⟨0,zA⟩ (fun _=>hcl _) (fun _=>zO rfl) [(2,2),(3,3),(4,4),(5,5)] ?_ ?_
 ·simp only[List.take_zero,Kx,JB,JV]
  exact z9
 rintro⟨i,hi⟩ J hb
 simp only at hb hi⊢
 refine zB 150 ?_
 simp only[go_sem,X4]
 by_cases hc:i<d.mas.length
 ·have e1:decide ((i:Int)<(d.mas.length:Int))=true:=yV zA
  have f0:=zy (r:=MpL.r) (k:=4) (fun _=>rfl) d.mas i 0 hc zA
  rw[JV]at f0
  have hlen:((((d.tys.map (fun t:Td=>t.nm))++d.cus.map (fun c:CuL=>c.c.nm))++(d.mas.take i).map (fun m:MpL=>m.nm)).map sC).length=((d.tys.length+d.cus.length)+i):=by simp;omega
  have hsn:List.take ((d.tys.length+d.cus.length)+i) ((((d.tys.map (fun t:Td=>t.nm))++d.cus.map (fun c:CuL=>c.c.nm))++(d.mas.take i).map (fun m:MpL=>m.nm)).map sC)++[sC ((fun m:MpL=>m.nm) d.mas[i])]=(((d.tys.map (fun t:Td=>t.nm))++d.cus.map (fun c:CuL=>c.c.nm))++(d.mas.take (i+1)).map (fun m:MpL=>m.nm)).map sC:=by
   rw[JH zA]
   exact wN (fun m:MpL=>m.nm) d.mas i hc ((d.tys.map (fun t:Td=>t.nm))++d.cus.map (fun c:CuL=>c.c.nm))
  simp only[go_sem,e1]
  refine Sm.bringR 11 91 48 (hd.ma.mono hH) rfl rfl (zB 160 ?_)
  rw[Ku]
  simp only[go_sem,f0,MpL.r,JP,JM,hlen,hsn,yT (i:=i)]
  refine⟨⟨zA,zA⟩,⟨zA,zA,zA⟩,?_⟩
  refine hb _ _ ⟨i+1,hc⟩ [(2,2),(3,161),(4,4),(5,5)] yF ?_
  try simp only[<-IS]
  exact z9
 have e1:decide ((i:Int)<(d.mas.length:Int))=false:=yd zA
 have hc:i=d.mas.length:=zA
 subst hc
 clear hb
 rw[Jh]
 simp only[go_sem,e1]
 refine CallQ.ren [(1,160),(4,4),(5,5)] 170 (jF d h1 h2) (zo d) rfl rfl ⟨oY,oY,trivial⟩ rfl (.inl rfl) ?_
 simp only[Mem.ren,Kv,Kx,yO (y7 _),V.ren,Cv.ren,rn,Nat.reduceBEq,cond_true,cond_false]
 have hlA:((((d.tys.map (fun t:Td=>t.nm))++d.cus.map (fun c:CuL=>c.c.nm))++d.mas.map (fun m:MpL=>m.nm)).map sC).length=((d.tys.length+d.cus.length)+d.mas.length):=by simp;omega
 have hlS:((zQ d.c).map sC).length=(zQ d.c).length:=Ku _
 have hall:List.take ((d.tys.length+d.cus.length)+d.mas.length) ((((d.tys.map (fun t:Td=>t.nm))++d.cus.map (fun c:CuL=>c.c.nm))++d.mas.map (fun m:MpL=>m.nm)).map sC)++List.take (zQ d.c).length ((zQ d.c).map sC)=((((d.tys.map (fun t:Td=>t.nm))++d.cus.map (fun c:CuL=>c.c.nm))++d.mas.map (fun m:MpL=>m.nm))++zQ d.c).map sC:=by
  rw[JH zA,JH zA,<-JT]
 have hln:((d.tys.length+d.cus.length)+d.mas.length)+(zQ d.c).length=((((d.tys.map (fun t:Td=>t.nm))++d.cus.map (fun c:CuL=>c.c.nm))++d.mas.map (fun m:MpL=>m.nm))++zQ d.c).length:=by
  have:=congrArg List.length hall
  simp only[JN,Jt,Ku]at this
  simp only[JN,Ku]at hlA⊢
 refine vv ?_
 refine⟨⟨zA,⟨zA,?_⟩,zA,zA⟩,?_⟩
 ·rw[JH zA];simp[Cv.one,Value.oneCell']
 simp only[hall,hln]
 exact RetQ.ren [(1,170),(4,4),(5,5)] hR hP rfl xb rfl rfl ⟨⟨rfl,rfl⟩,⟨rfl,rfl⟩,trivial⟩ ⟨oV (yO (y7 _)),oX,oX,trivial⟩ (zC (by simp only[JC,JD,Ky,zh (y7 _),iR,zh (nu _)];rfl)) (zI rfl)
theorem Uk (x:Int):CallOk Tryz.prog 274 [I x] [] (Bo (decide (-9<=x/\x<=9))) []:=by
 refine kO 100 func274 T5 ntmps274 (by simp[ClV,V.g,Cv.g]) fun C hR=>?_
 refine vv ?_
 refine yL hR ?_
 rw[JQ]
 simp only[IJ,decide_eq_true_eq]
 grind
theorem Vy (m kg s a k:Int):CallOk Tryz.prog 251 [un m kg s a k] [] (Bo (vI m kg s a k)) []:=by
 refine kO 100 func251 Tw ntmps251 (by simp[ClV,V.g,Cv.g,un,ci]) fun C hR=>?_
 refine vv ?_
 refine CallQ.pure 101 (Uk m) rfl (vv ?_)
 refine CallQ.guard 101 (fun _=>Uk kg) (fun h=>by rw[h];rfl) (vv ?_)
 refine CallQ.guard 101 (fun _=>Uk s) (fun h=>by rw[h];rfl) (vv ?_)
 refine CallQ.guard 101 (fun _=>Uk a) (fun h=>by rw[h];rfl) (vv ?_)
 refine CallQ.guard 101 (fun _=>Uk k) (fun h=>by rw[h];rfl) (vv ?_)
 refine yL hR ?_
 unfold vI
 rw[JQ]
 simp only[IJ,decide_eq_true_eq]
 grind
theorem ii (t:Ft):CallOk Tryz.prog 233 [fx t] [] (Bo (yE t)) []:=by
 refine kO 100 func233 SM ntmps233 (by simp[ClV,V.g,Cv.g,fx,ci]) fun C hR=>?_
 refine vv ?_
 by_cases hb:t.bits=8\/t.bits=16\/t.bits=32
 ·have e:(bif bif t.bits !=8 then t.bits !=16 else false then t.bits !=32 else false)=false:=by
   rcases hb with h|h|h<;>rw[h]<;>rfl
  simp only[e]
  refine CallQ.guard 101 (fun _=>Vy t.m t.kg t.s t.a t.k) (fun h=>by rw[h];rfl) (vv ?_)
  refine yL hR ?_
  unfold yE
  rw[JQ]
  simp only[IJ,JG,decide_eq_true_eq,beq_iff_eq]
  generalize vI t.m t.kg t.s t.a t.k=u
  grind
 ·have e:(bif bif t.bits !=8 then t.bits !=16 else false then t.bits !=32 else false)=true:=by
   have e1:(t.bits !=8)=true:=by simp;omega
   have e2:(t.bits !=16)=true:=by simp;omega
   have e3:(t.bits !=32)=true:=by simp;omega
   rw[e1,e2,e3];rfl
  simp only[e]
  refine yL hR ?_
  unfold yE
  simp[hb]
theorem yc (t:Ft)(h:yE t=true):CallOk Tryz.prog 136 [fx t] [] (.tup [Wi (tC t),Wi (th t)]) []:=by
 refine kO 100 func136 Rh ntmps136 (by simp[ClV,V.g,Cv.g,fx,ci]) fun C hR=>?_
 refine vv ?_
 have hb:=om h
 clear h
 obtain⟨bits,signed,num,off,den,m,kg,s,a,k⟩:=t
 simp only at hb hR⊢
 cases signed with
 |true=>
  refine Sm.dg 101 11 ze (vv ?_)
  rcases hb with rfl|rfl|rfl
  ·exact⟨yg,yg,yJ hR rfl ⟨rfl,rfl,trivial⟩ rfl rfl⟩
  ·exact⟨yg,yg,yJ hR rfl ⟨rfl,rfl,trivial⟩ rfl rfl⟩
  ·exact⟨yg,yg,yJ hR rfl ⟨rfl,rfl,trivial⟩ rfl rfl⟩
 |false=>
  refine Sm.dg 101 5 ze (vv ?_)
  rcases hb with rfl|rfl|rfl
  ·exact⟨yg,yJ hR rfl ⟨rfl,rfl,trivial⟩ rfl rfl⟩
  ·exact⟨yg,yJ hR rfl ⟨rfl,rfl,trivial⟩ rfl rfl⟩
  ·exact⟨yg,yJ hR rfl ⟨rfl,rfl,trivial⟩ rfl rfl⟩
theorem tO (t:Ft)(raw:Int)(h:yE t=true):CallOk Tryz.prog 124 [fx t,I raw] [] (Bo (fin t raw)) []:=by
 refine kO 100 func124 Rs ntmps124 (by simp[ClV,V.g,Cv.g,fx,ci]) fun C hR=>?_
 refine vv ?_
 refine CallQ.pure 101 (yc t h) rfl (vv ?_)
 refine yL hR ?_
 unfold fin
 cases decide (tC t<=raw)<;>rfl
theorem i8 {t:Ft}(h:yE t=true)(x:Int):pT t x=fin t x:=by
 unfold pT fin
 rw[h,cond_true,cond_true,<-HL]
theorem f4 {α:Type}(f:α->Str)(s:Str)(l:List α):sW (l.map f) s=l.any (fun x=>f x==s):=by
 have h0:l.any (fun x=>f x==s)=(l.find? (fun x=>f x==s)).isSome:=by
  rw[JQ,List.find?_isSome,Iu]
 rw[h0]
 unfold sW
 rcases ov f s l 0 with⟨a,b⟩|⟨i,hi,a,b⟩
 ·rw[a,b];rfl
 ·rw[a,b];rfl
theorem WW {H:Hp}(d:DgL)(hd:d.ok H)(h0:d.tys.length<=1000000)(h1:d.ins.length<=1000000)(h2:d.bls.length<=1000000)(ht:∀s,vk d.tys s≠none->yE (yB d.tys s)=true):ej H d 56 [] (Y0 (zg (wP d.tys) d.ins)):=by
 have hsz:=zP (r:=Po.r) (k:=4) (fun _=>rfl) d.ins
 refine kX func56 Oe ntmps56 fun C hR hP hH hL=>?_
 have hR:=hR () C hL trivial
 refine zB 100 (vv ?_)
 refine zG (M0:=xU d) (α:={i:Nat//i<=d.ins.length/\zg (wP d.tys) d.ins=zg (wP d.tys) (d.ins.drop i)}) hP (fun i=>[(1,true,.c (.p 2 0)),(4,true,I i.val)])
  (fun _=>(2,⟨false,rk d,29⟩)::xU d) (fun i=>d.ins.length-i.val) ⟨0,zA,rfl⟩ (fun _=>cM) (fun _=>zO rfl) [(2,100),(4,4),(5,5)] ?_ ?_
 ·exact z9
 rintro⟨i,hi,hx⟩ J hj
 simp only at hj hi hx⊢
 refine zB 120 (vv ?_)
 refine zU (fun hc=>?_) (fun hc=>?_)
 ·have hc:=zH hc
  have htk:=z6 (r:=Po.r) (k:=4) (fun _=>rfl) d.ins i hc
  have hty:=ce d hd h0 h1 h2 i zA
  have hnm:=fO d hc
  have htt:yU d.c i=yB d.tys (rD d.c i):=rfl
  rw[htt,hnm]at hty
  rw[JA hc,ym]at hx
  simp only[htk,hsz]
  refine⟨⟨zA,zA⟩,zA,?_⟩
  generalize d.ins[i]=p at*
  simp only[go_sem,Po.r]
  refine CallQ.dm 130 (fun _=>hty) hH (fun _=>rfl) rfl rfl (vv ?_)
  cases hq:vk d.tys p.ty with
  |none=>
   have he:wP d.tys p=some (p.ty,7):=by unfold wP;rw[if_pos hq]
   rw[he]at hx
   rw[hx]at hR
   refine vv ?_
   exact zX hR rfl xb tr (SubS.sub (yM rfl rfl)) (zo d) (zI rfl)
  |some u=>
   have hf:=ht p.ty (by rw[hq];exact fun h=>by cases h)
   have he:wP d.tys p=if (decide (p.hi<p.lo)||(!pT (yB d.tys p.ty) p.lo|| !pT (yB d.tys p.ty) p.hi))=true then some (p.nm,2)else none:=by unfold wP;rw[if_neg (by rw[hq];simp)]
   rw[i8 hf,i8 hf]at he
   generalize yB d.tys p.ty=T at*
   refine vv ?_
   refine CallQ.guard 160 (fun _=>tO T p.lo hf) (fun h=>by rw[h];rfl) (vv ?_)
   refine CallQ.guard 160 (fun _=>tO T p.hi hf) (fun h=>by rw[h];rfl) (vv ?_)
   have eb:(bif bif decide (p.hi<p.lo)then true else !fin T p.lo then true else !fin T p.hi)=(decide (p.hi<p.lo)||(!fin T p.lo|| !fin T p.hi)):=by
    rw[qJ,qJ,Bool.or_assoc]
   rw[eb]
   refine zU (fun hd=>?_) (fun hd=>?_)
   ·rw[he,if_pos hd]at hx
    rw[hx]at hR
    exact zX hR rfl xb tr (SubS.sub (yM rfl rfl)) (zo d) (zI rfl)
   ·rw[he,if_neg (by rw[hd];simp)]at hx
    simp only[go_sem,yT (i:=i)]
    exact hj _ _ ⟨i+1,hc,hx⟩ [(2,2),(4,4),(5,5)] yF z9
 ·have hc:=zL hi hc
  rw[hc,JL]at hx
  rw[hx]at hR
  exact zX hR rfl xb tr (SubS.sub (yM rfl rfl)) (zo d) (zI rfl)
theorem WZ {H:Hp}(d:DgL)(hd:d.ok H)(h0:d.tys.length<=1000000)(g2:d.cus.length<=1000000)(g3:d.mas.length<=1000000)(h1:d.ins.length<=1000000)(h2:d.bls.length<=1000000)(hl:∀b∈d.bls,b.c.ins.length<=1000000):
  ej H d 57 [] (Y0 (zg (fun b:BlL=>wG d.tys d.c.cus d.c.mas (zQ d.c) b.c) d.bls)):=by
 have hsz:=zP (r:=BlL.r) (k:=6) (fun _=>rfl) d.bls
 have hcu:∀s,sW (d.cus.map (fun c:CuL=>c.c.nm)) s=d.c.cus.any fun c=>c.nm==s:=fun s=>by
  rw[f4];show _=(d.cus.map CuL.c).any _;rw[Hd];rfl
 have hma:∀s,sW (d.mas.map (fun m:MpL=>m.nm)) s=d.c.mas.any fun c=>c.nm==s:=fun s=>by
  rw[f4];show _=(d.mas.map MpL.c).any _;rw[Hd];rfl
 generalize hF:(fun b:BlL=>wG d.tys d.c.cus d.c.mas (zQ d.c) b.c)=F
 refine kX func57 Od ntmps57 fun C hR hP hH hL=>?_
 have hR:=hR () C hL trivial
 refine zB 100 (vv ?_)
 refine zG (M0:=xU d) (α:={i:Nat//i<=d.bls.length/\zg F d.bls=zg F (d.bls.drop i)}) hP (fun i=>[(1,true,.c (.p 2 0)),(4,true,I i.val)])
  (fun _=>(2,⟨false,rk d,29⟩)::xU d) (fun i=>d.bls.length-i.val) ⟨0,zA,rfl⟩ (fun _=>cM) (fun _=>zO rfl) [(2,100),(4,4),(5,5)] ?_ ?_
 ·exact z9
 rintro⟨i,hi,hx⟩ J hj
 simp only at hj hi hx⊢
 refine zB 120 (vv ?_)
 refine zU (fun hc=>?_) (fun hc=>?_)
 ·have hc:=zH hc
  have htk:=z6 (r:=BlL.r) (k:=6) (fun _=>rfl) d.bls i hc
  have hmem:d.bls[i]∈d.bls:=JE hc
  have hbo:=hd.bls _ hmem
  have hbl:=hl _ hmem
  rw[JA hc,ym]at hx
  simp only[htk,hsz]
  refine⟨⟨zA,zA⟩,zA,?_⟩
  generalize d.bls[i]=b at*
  have hb:F b=wG d.tys d.c.cus d.c.mas (zQ d.c) b.c:=by rw[<-hF]
  simp only[go_sem,BlL.r]
  refine CallQ.dm 130 (fun _=>yu d hd h0 b.c.ty) hH (fun _=>rfl) rfl rfl (vv ?_)
  rcases xa d.tys b.c.ty with⟨q1,q2⟩|⟨q,hq1,q2,q1⟩
  ·have he:F b=some (b.c.ty,7):=by rw[hb];unfold wG;rw[if_pos q1]
   rw[he]at hx
   rw[hx]at hR
   rw[q2]
   refine vv ?_
   exact zX hR rfl xb tr (SubS.sub (yM rfl rfl)) (zo d) (zI rfl)
  ·have e0:decide ((q:Int)<0)=false:=decide_eq_false zA
   rw[q2]
   simp only[go_sem,e0]
   refine CallQ.dm 140 (fun _=>io d h1 h2 b (hbo.mono hH) zA) (zV _) (fun _=>rfl) rfl rfl ?_
   cases hq:tq (zQ d.c) b.c.ins with
   |some s=>
    have he:F b=some (s,7):=by rw[hb];unfold wG;rw[if_neg (by rw[q1];simp),hq]
    rw[he]at hx
    rw[hx]at hR
    simp only[go_sem,Option.getD_some]
    exact zX hR rfl xb tr (SubS.sub (yM rfl rfl)) (zo d) (zI rfl)
   |none=>
    have he:F b=if cT (d.c.cus.any fun c=>c.nm==b.c.tb) (d.c.mas.any fun m=>m.nm==b.c.tb) b.c.kd=true then some (b.c.tb,7)else none:=by rw[hb];unfold wG;rw[if_neg (by rw[q1];simp),hq]
    simp only[go_sem,Option.getD_none]
    refine CallQ.dm 150 (fun _=>bG d hd g2 b.c.tb) hH (fun h=>by rw[h];rfl) rfl rfl (vv ?_)
    refine CallQ.dm 160 (fun _=>bA d hd g3 b.c.tb) hH (fun h=>by rw[h];rfl) rfl rfl ?_
    simp only[go_sem,g7,hcu,hma]
    have htb:cT (d.c.cus.any fun c=>c.nm==b.c.tb) (d.c.mas.any fun m=>m.nm==b.c.tb) b.c.kd=((b.c.kd==[99,117,114,118,101]&& !d.c.cus.any fun c=>c.nm==b.c.tb)||(b.c.kd==[109,97,112]&& !d.c.mas.any fun m=>m.nm==b.c.tb)):=rfl
    rw[htb]at he
    generalize (b.c.kd==[99,117,114,118,101])=k1 at*
    generalize (b.c.kd==[109,97,112])=k2 at*
    generalize (d.c.cus.any fun c=>c.nm==b.c.tb)=k3 at*
    generalize (d.c.mas.any fun c=>c.nm==b.c.tb)=k4 at*
    refine⟨fun h=>⟨h,fun h2=>by rw[h,h2];rfl⟩,?_⟩
    have eb:(bif bif k1 then !k3 else false then true else bif k2 then !k4 else false)=((k1&& !k3)||(k2&& !k4)):=by cases k1<;>cases k2<;>cases k3<;>cases k4<;>rfl
    rw[eb]
    refine zU (fun hd=>?_) (fun hd=>?_)
    ·rw[he,if_pos hd]at hx
     rw[hx]at hR
     exact zX hR rfl xb tr (SubS.sub (yM rfl rfl)) (zo d) (zI rfl)
    ·rw[he,if_neg (by rw[hd];simp)]at hx
     refine zB 170 ?_
     simp only[go_sem,yT (i:=i)]
     exact hj _ _ ⟨i+1,hc,hx⟩ [(2,2),(4,4),(5,5)] yF z9
 ·have hc:=zL hi hc
  rw[hc,JL]at hx
  rw[hx]at hR
  exact zX hR rfl xb tr (SubS.sub (yM rfl rfl)) (zo d) (zI rfl)
theorem WS {H:Hp}(d:DgL)(hd:d.ok H)(h1:d.ins.length<=1000000)(h2:d.bls.length<=1000000)(ho:d.ous.length<=1000000):ej H d 58 [] (Y0 (vf (zQ d.c) [] d.ous)):=by
 refine kX func58 Oc ntmps58 fun C hR hP hH hL=>?_
 have hR:=hR () C hL trivial
 refine zB 100 (vv ?_)
 refine zG (M0:=xU d) (α:={i:Nat//i<=d.ous.length/\vf (zQ d.c) [] d.ous=vf (zQ d.c) (d.ous.take i) (d.ous.drop i)}) hP (fun i=>[(1,true,.c (.p 2 0)),(4,true,I i.val)])
  (fun _=>(2,⟨false,rk d,29⟩)::xU d) (fun i=>d.ous.length-i.val) ⟨0,zA,rfl⟩ (fun _=>cM) (fun _=>zO rfl) [(2,100),(4,4),(5,5)] ?_ ?_
 ·exact z9
 rintro⟨i,hi,hx⟩ J hj
 simp only at hj hi hx⊢
 refine zB 120 (vv ?_)
 refine zU (fun hc=>?_) (fun hc=>?_)
 ·have hc:=zH hc
  obtain⟨bi,oi,ci,hi1,csi,eli,mki,hci,hcci⟩:=(hd.ou.mono hH).at (by
   intro h0
   have:=congrArg List.length h0
   rw[uY,Ku]at this
   simp at this;rw[this]at hc;simp at hc)
  have hio:d.ou.o=some ⟨bi,oi,none⟩:=by injection hi1
  have hX:∀k,(h:k<d.ous.length)->csi[oi+k]?=some (sv d.ous[k]):=fun k h=>hcci k _ (by rw[uY];simp[h])
  have hxi:=hX i hc
  have hfd:=nD d d.ous[i] zA zA
  have hfl:=g7 (zQ d.c) d.ous[i]
  rw[JA hc,vf]at hx
  generalize hso:d.ous[i]=so at*
  refine Sm.dg 130 6 ze (vv ?_)
  refine DOpQ.own 140 (Stp.idxV (b:=bi) (off:=oi) rfl (by rw[<-hio];rfl) rfl jE zA zA) ?_
  simp only[go_sem,Jd,Int.toNat_natCast]
  refine zE 140 (fun _=>zW hci hxi rfl rfl rfl) (vv ?_)
  refine CallQ.dm 150 (fun _=>hfd.toX) hH (fun _=>rfl) rfl rfl ?_
  simp only[go_sem,hfl]
  cases hsb:sW (zQ d.c) so with
  |false=>
   rw[hsb,if_pos rfl]at hx
   rw[hx]at hR
   refine vv ?_
   refine Sm.bringR 12 9 22 (hd.ou.mono hH) rfl rfl (zB 160 ?_)
   rw[pH,show(yH d.ous).length=d.ous.length by simp[yH]]
   have e1:=xq hc
   rw[hso]at e1
   simp only[go_sem,e1]
   refine⟨⟨zA,zA⟩,?_⟩
   exact zX hR rfl xb tr (SubS.sub (yM rfl rfl)) (zo d) (zI rfl)
  |true=>
   rw[hsb,if_neg zc]at hx
   refine vv ?_
   refine zG (M0:=xU d) (α:={j:Nat//j<=i/\(d.ous.take j).contains so=false}) hP (fun j=>[(1,true,.c (.p 2 0)),(4,true,I i),(5,true,I j.val)])
    (fun _=>(2,⟨false,rk d,29⟩)::xU d) (fun j=>i-j.val) ⟨0,zA,rfl⟩ (fun _=>cM) (fun _=>zO rfl) [(2,2),(4,4),(5,5)] ?_ ?_
   ·exact z9
   rintro⟨j,hjl,hy⟩ J2 hj2
   simp only at hj2 hjl hy⊢
   refine zB 160 (vv ?_)
   refine zU (fun he=>?_) (fun he=>?_)
   ·have he:=zH he
    have hxj:=hX j zA
    have htk:(d.ous.take (j+1)).contains so=(d.ous[j]==so):=by
     rw[JS zA,List.contains_append,hy]
     simp only[Iq,Jn,List.contains_nil,IB]
     rw[Bool.beq_comm]
    have hmm:(d.ous[j]==so)=true->(d.ous.take i).contains so=true:=fun h=>by
     rw[IA,List.mem_take_iff_getElem]
     exact⟨j,zA,eq_of_beq h⟩
    generalize d.ous[j]=sj at*
    refine Sm.dg 170 10 ze (vv ?_)
    refine DOpQ.own 180 (Stp.idxV (b:=bi) (off:=oi) rfl (by rw[<-hio];rfl) rfl jE zA zA) ?_
    simp only[go_sem,Jd,Int.toNat_natCast]
    refine zE 180 (fun _=>zW hci hxj rfl rfl rfl) (vv ?_)
    refine DOpQ.own 180 (Stp.idxV (b:=bi) (off:=oi) rfl (by rw[<-hio];rfl) rfl jE zA zA) ?_
    simp only[go_sem,Jd,Int.toNat_natCast]
    refine zE 180 (fun _=>zW hci hxi rfl rfl rfl) (vv ?_)
    refine zU (fun hf=>?_) (fun hf=>?_)
    ·rw[if_pos (hmm hf)]at hx
     rw[hx]at hR
     refine vv ?_
     refine Sm.bringR 12 9 43 (hd.ou.mono hH) rfl rfl (zB 190 ?_)
     rw[pH,show(yH d.ous).length=d.ous.length by simp[yH]]
     have e1:=xq hc
     rw[hso]at e1
     simp only[go_sem,e1]
     refine⟨⟨zA,zA⟩,?_⟩
     exact zX hR rfl xb tr (SubS.sub (yM rfl rfl)) (zo d) (zI rfl)
    ·refine zB 190 ?_
     simp only[go_sem,yT (i:=j)]
     exact hj2 _ _ ⟨j+1,he,htk.trans hf⟩ [(2,2),(4,4),(5,5)] yF z9
   ·have he:=zL hjl he
    rw[he]at hy
    rw[hy,if_neg zc,<-hso,<-JS hc]at hx
    clear hj2
    simp only[go_sem,yT (i:=i)]
    exact hj _ _ ⟨i+1,hc,hx⟩ [(2,2),(4,4),(5,5)] yF z9
 ·have hc:=zL hi hc
  rw[hc,JL]at hx
  have hx:vf (zQ d.c) [] d.ous=none:=by rw[hx,vf]
  rw[hx]at hR
  exact zX hR rfl xb tr (SubS.sub (yM rfl rfl)) (zo d) (zI rfl)
end Go.Proofs.YtkciabfilokfiaaGreat.Fx
