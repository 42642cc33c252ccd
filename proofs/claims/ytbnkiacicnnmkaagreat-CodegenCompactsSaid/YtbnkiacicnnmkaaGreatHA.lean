/-  -/
import Derived.Test.YtbnkiacicnnmkaaGreatGJ
set_option linter.unusedSimpArgs false
set_option linter.unusedVariables false
set_option maxRecDepth 100000
set_option maxHeartbeats 4000000
namespace Go.Proofs.YtbnkiacicnnmkaaGreat.Fx
open Vg Tf
def mO (p:Pg):List Bool:=ap (List.replicate p.sz.toNat false) p.f7
def lj (p:Pg):List Int:=cS p.code p.f5 (p.sz.toNat+1) (mO p)
theorem nq (E:List Bool):∀l:List Int,(ap E l).length=E.length:=by
 intro l
 induction l generalizing E with
 |nil=>rfl
 |cons a t ih=>exact(ih (sB E a true)).trans (yM _ _ _)
theorem dr (E:List Bool)(l:List Int)(i:Nat)(h:i<l.length):ap E (l.take (i+1))=sB (ap E (l.take i)) l[i] true:=by
 unfold ap;rw[JR h,List.foldl_append];rfl
theorem Vw (p:Pg)(h:wP p=true):∀i∈p.code,InOk i p.sz.toNat:=fun i hi=>by
 have hv:=qi p h
 obtain⟨h1,h2,h3,h4,h5,h6,h7,h8,h9⟩:=qA p i (hv.2.1 i hi)
 exact⟨h1,h2,⟨h3,h4⟩,⟨h5,h6⟩,fun ho=>by have:=h7 ho;omega,h8,fun ho=>by have:=h9 ho;omega⟩
theorem rZ (p:Pg)(h:wP p=true):tS p.sz p.f7=true/\tS p.sz p.f5=true/\p.code.length<=4000:=by
 unfold wP iV at h
 simp only[JB,decide_eq_true_eq]at h
 exact⟨h.2.2.2.2.2.1.2.1,h.2.2.2.2.2.1.1,h.1.1⟩
@[reducible,go_sem] def NS (p:Pg)(N:Nat)(E:List Bool)(r:Int)(X:List Bool):Mem:=[(1,⟨false,ul p,28⟩),(9,⟨false,E.map bC,4⟩),(2,⟨false,[.v (.int .u16 r),.sl 3 0 N 1],91⟩),(3,⟨false,X.map bC,4⟩),(4,⟨false,[.p 2 0],87⟩)]
theorem V6 {H:Hp}(p:Pg)(hp:p.ok H)(hc1:∀c∈p.cus,c.c.xs.length<=1000000000000000/\c.c.ys.length<=1000000000000000)(hm1:∀m∈p.mas,∀v∈m.zs,v.2.length<=1000000000000000)(hv:wP p=true):
  CallX H Tryz.prog 7 [z3 p.r] [] (fun _:Unit=> .c (.sl 1 0 (lj p).length 1)) (fun _=>[(1,⟨false,(lj p).map iC,3⟩)]) (fun _ _=>True):=by
 have hval:=uK p hp hc1 hm1
 have hok:=Vw p hv
 obtain⟨hb7,hb5,hcl⟩:=rZ p hv
 have hb7:=xt hb7
 have hb5:=xt hb5
 have hvv:=qi p hv
 rw[hv]at hval
 rw[x6]at hval⊢
 refine sk Tryz.func7 rfl KF (by simp[Tryz.ntmps7]) (fun x n b h _=>by have:=zk h;simp only[J3,IS,or_false,I3]at this;rw[this.2]) (fun x n b b' h h'=>by cases h') (v8 rfl) rfl fun C hlp hR hP hH hL=>?_
 refine zB 100 (vv ?_)
 refine zM 110 hval hH rfl ?_
 simp only[go_sem,vi]
 refine⟨zA,?_⟩
 have hN0:p.sz=(p.sz.toNat:Int):=zA
 have hEt:xE p.sz.toNat []=List.replicate p.sz.toNat false:=List.ext_getElem (by simp[xE]) (fun k h1 h2=>by simp[xE])
 have hEl:=nq (List.replicate p.sz.toNat false) p.f7
 rw[Ij]at hEl
 unfold lj mO at hR
 rw[hEt]
 generalize hN:p.sz.toNat=N at*
 generalize hE0:List.replicate N false=E0 at*
 have hE0l:E0.length=N:=by rw[<-hE0];simp
 -- the outputs
 refine zB 120 (vv ?_)
 refine Sm.bringI (l:=p.f7) 10 3 20 (hp.i7.mono hH) rfl rfl (zB 130 ?_)
 refine vv ?_
 refine zK (M0:=[]) (α:={i:Nat//i<=p.f7.length}) hP (fun i=>[(1,true,.c (.p 1 0)),(3,true,.c (.sl 9 0 N 1)),(20,true,.c (.sl 10 0 p.f7.length 1)),(21,true,I p.f7.length),(22,true,I i.val)])
  (fun i=>[(1,⟨false,ul p,28⟩),(9,⟨false,(ap E0 (p.f7.take i.val)).map bC,4⟩),(10,⟨true,p.f7.map iC,3⟩)]) (fun i=>p.f7.length-i.val) ⟨0,zA⟩ (fun _=>zD (by simp only[Kw,z6 (yf _),z6 (zq _)];rfl)) (fun _=>zO rfl) [(1,100),(9,110),(10,10)] ?_ ?_
 ·exact zh
 rintro⟨i,hi⟩ J hj
 simp only at hj hi⊢
 refine zB 120 (vv ?_)
 refine zV (fun hc=>?_) (fun hc=>?_)
 ·have hc:=zH hc
  have hov:(p.f7.map iC)[i]?=some (iC p.f7[i]):=by simp[hc]
  obtain⟨c0,c1⟩:=hb7.2 _ (JH hc)
  have hwi:IntKind.i64.wrap ((i:Int)+1)=((i+1:Nat):Int):=wS zA
  have hst:=dr E0 p.f7 i hc
  have hkl:=nq E0 (p.f7.take i)
  generalize p.f7[i]=z at*
  simp only[go_sem,hov,hwi,Int.toNat_natCast,Kv,hkl,hE0l,qw,<-hst]
  exact⟨⟨zA,zA⟩,⟨zA,zA⟩,zA,hj _ _ ⟨i+1,hc⟩ [(1,1),(9,9),(10,10)] yL zh⟩
 have hc:=zI hi hc
 subst hc
 rw[JY]
 clear hj
 refine vv ?_
 generalize hE1:ap E0 p.f7=E1 at*
 -- the rounds
 refine zf (N+1) ?_
 refine xa (M0:=[]) hP [(1,true,.c (.p 1 0)),(3,true,.c (.sl 9 0 N 1))] [(1,⟨false,ul p,28⟩),(9,⟨false,E1.map bC,4⟩)] [(1,1),(9,9)] zh (zD (by simp only[Kw,z6 (yf _)];rfl)) (zO rfl) ?_
 have hcn:kP E1<N+1:=by
  have:kP E1<=E1.length:=List.countP_le_length
  omega
 have hlz:C.marks []=C:=rfl
 obtain⟨A,hA⟩:∃A,A=cS p.code p.f5 (N+1) E1:=⟨_,rfl⟩
 rw[<-hA]at hR
 have hst:∃ds,Lf (C.marks ds) C/\ds.Nodup/\(∀d∈ds,C.hp d (.deferred (some []))/\C.w0.heap.size<=d)/\H.le C.hp:=⟨[],hL,List.nodup_nil,(fun d h=>by cases h),hH⟩
 have hst:∃Ck,Ck=C/\∃ds,Lf (C.marks ds) Ck/\ds.Nodup/\(∀d∈ds,Ck.hp d (.deferred (some []))/\C.w0.heap.size<=d)/\H.le Ck.hp:=⟨C,rfl,hst⟩
 obtain⟨Ck,hCk,hst⟩:=hst
 clear hE1 hi hc
 suffices h:Sm Tryz.prog 83 Ck _ _ _ by rw[hCk]at h;exact h
 clear hCk
 generalize N+1=n at*
 induction n generalizing E1 Ck with
 |zero=>omega
 |succ n ih=>
 obtain⟨ds,l0,nd,hmk,hHk⟩:=hst
 refine Sm.rnd (zB 120 ?_)
 refine vv ?_
 have hcl0:=Rw E1 zA
 rw[hEl]at hcl0
 refine CallQ.ren [(1,9),(2,120)] 130 hcl0 (zD (by simp only[Kw,z6 (yf _)];rfl)) rfl rfl ⟨⟨_,rfl,fi (yf _)⟩,trivial⟩ rfl (.inl rfl) ?_
 simp only[Mem.ren,Ky,Kz,yD (yf _),V.ren,Cv.ren,rn,Nat.reduceBEq,cond_true,cond_false]
 refine vv ?_
 have hpg0:(ul p)[0]?=some (.v (vsl p.c p.code.length)):=rfl
 have hpg5:(ul p)[5]?=some (.v (vsl p.s5 p.f5.length)):=rfl
 have hbq:CallX Ck.hp Tryz.prog _ _ [] _ (fun _=>[]) _:=Rz (H:=Ck.hp) p.c p.code.length
 simp only[go_sem,hpg0]
 refine CallQ.x 140 l0 hbq (Hp.le.refl _) (Sub.nil _) ClM.nil (fun _=>Fresh.nil _ _) rfl rfl rfl (fun pv E0c H0 e0 k0 j0 p0=>?_)
 refine vv ?_
 obtain⟨pa,rfl⟩:=uX p0
 obtain⟨mS,mW,mQ,mL,mD⟩:=pL C ds
 have hPm:Pins (C.marks ds).S []:=by rw[mS];exact hP
 refine xa (M0:=[]) (e0.pins hPm) [(1,true,.c (.p 1 0)),(3,true,.c (.sl 9 0 N 1)),(6,true,.c (.p 4 0)),(7,true,.c (.p 5 0)),(36,true,Fv 81 #[.pointer pa])] ((5,⟨false,[.v (.slice none 0 0)],26⟩)::NS p N E1 0 E1) [(1,1),(9,9),(2,130),(3,120),(4,131),(5,132)] ?_ ?_ ?_ ?_
 ·exact zh
 ·exact zD (by simp only[Kw,z6 (yf _)];rfl)
 ·exact zO rfl
 refine Sm.range 120 e0 (by rw[mL];exact hlp) rfl Tryz.func81 rfl OI (by simp[Tryz.ntmps81]) (fun D Dk l dB rc lD kD sD hl hdB fdB nlB nfr hrg hex hnor hPD=>?_)
 have hlpD:D.lp=none:=by obtain⟨_,_,_,_,_,h,_⟩:=hrg.ex;rw[h];rfl
 let K:Hp:=fun b o=>E0c.hp b o\/(b=dB/\o= .deferred (some []))
 have hKl:∀b o,K b o->b≠l:=fun b o h=>by
  rcases h with h|h
  ·exact(nfr b o h).1
  ·rw[h.1];exact Ne.symm nlB
 have hKD:K.le Dk.hp:=fun b o h=>by
  rcases h with h|h
  ·exact kD b o h
  ·rw[h.1,h.2];exact hdB
 refine vv ?_
 refine x9 16 1 3 [] [5] rfl (vv ?_)
 refine Sm.bringPS (rows:=(p.code.map Ins.w)) 7 8 22 42 1 ((p0.mono j0).mono kD) (((hp.c.mono hHk).mono k0).mono kD) rfl rfl yp rfl (zB 130 ?_)
 have hl10:(p.code.map Ins.w).length=p.code.length:=Kv _
 rw[hl10]
 refine vv ?_
 have w00:IntKind.i64.wrap ((p.code.length:Int)-1)=(p.code.length:Int)-1-((0:Nat):Int):=by
  rw[y6 zA zA];omega
 simp only[w00]
 have hsz0:=zQ (r:=Ins.w) (k:=5) (fun _=>rfl) p.code
 have hpe:=bw p.code E1
 refine xH (C:=D) (Ck:=Dk) (M0:=(5,⟨false,[.v (.slice none 0 0)],26⟩)::NS p N E1 0 E1) (α:={x:Nat×Int//x.1<=p.code.length/\0<=x.2/\x.2<65536/\qX x.2=(sG p.code E1 (p.code.length-x.1)).1}) lD hPD (fun x=>[(0,true,.c (.v (.func (.yield l) #[] #[]))),(1,true,.c (.p 7 0)),(3,true,I ((p.code.length:Int)-1-(x.val.1:Int)))])
  (fun x=>(7,⟨true,[.sl 8 0 p.code.length 5],22⟩)::(8,⟨true,zC (p.code.map Ins.w),42⟩)::(16,⟨false,(sG p.code E1 (p.code.length-x.val.1)).2.2.reverse.map iC,3⟩)::(5,⟨false,[.sl 16 0 (sG p.code E1 (p.code.length-x.val.1)).2.2.reverse.length 1],26⟩)::NS p N E1 x.val.2 (sG p.code E1 (p.code.length-x.val.1)).2.1) (fun x hp=>K.le hp/\hp l (.loop (rc .ready none))) (fun x=>p.code.length-x.val.1)
  ⟨(0,0),by simp only;omega,by simp only;omega,by simp only;omega,by simp only[Nat.sub_zero];rw[hpe];rfl⟩
  ⟨hKD,hl⟩ (fun _=>zD (by simp only[Kw,iR,z6 (yf _),z6 (zq _)];rfl)) (fun _=>zO rfl) [(1,1),(2,2),(3,3),(4,4),(5,5),(7,7),(8,8),(9,9),(16,16)] ?_ ?_
 ·simp only[Nat.sub_zero]
  rw[hpe]
  exact zh
 rintro⟨⟨i,rv⟩,hi,hr0,hr1,hrv⟩ Cn J lCn ⟨iK,il⟩ hb
 simp only at hb hi hr0 hr1 hrv⊢
 refine zB 140 (vv ?_)
 by_cases hc:i<p.code.length
 ·have e0:(p.code.length:Int)-1-(i:Int)=((p.code.length-1-i:Nat):Int):=zA
  have e1:decide ((0:Int)<=((p.code.length-1-i:Nat):Int))=true:=yS zA
  have hj:p.code.length-1-i<p.code.length:=zA
  have htk:=zW (r:=Ins.w) (k:=5) (fun _=>rfl) p.code (p.code.length-1-i) hj
  simp only[go_sem,e0,e1,htk,hsz0]
  refine⟨⟨zA,zA⟩,zA,?_⟩
  have hps:=eX p.code E1 (p.code.length-1-i) hj
  have hoki:=hok _ (JH hj)
  have hkl:=iQ p.code E1 (p.code.length-i)
  have hko:=pG (p.code.drop (p.code.length-i)) (p.code.length-i) E1
  rw[show p.code.length-1-i+1=p.code.length-i by omega]at hps
  have hnk:p.code.length-(i+1)=p.code.length-1-i:=zA
  have hol:(sG p.code E1 (p.code.length-i)).2.2.reverse.length<=4000:=by
   rw[HL];unfold sG;have:=hko.1;rw[List.length_drop]at this;omega
  clear hko
  generalize p.code[p.code.length-1-i]=x at*
  generalize sG p.code E1 (p.code.length-i)=z at*
  obtain⟨zr,zc,zo⟩:=z
  simp only at hrv hkl hol hps⊢
  rw[<-hrv]at hps
  have hzl:zc.length=N:=by rw[hkl.2,hEl]
  have hxl:=aJ x rv zc (by rw[hzl];exact hoki) hr0 hr1 zA
  have hxb:=dF x rv zc (by rw[hzl];exact hoki) hr0 hr1 zA
  rw[hzl]at hxl hxb
  refine Sm.yield (xs:=[_,_]) hrg lCn il hlpD rfl rfl rfl rfl rfl rfl (by decide+kernel) (v8 rfl) (fun B Bk J2 lB sB pB kB hcont=>?_)
  refine zB 150 ?_
  simp only[go_sem,uk,List.zip_cons_cons,List.zip_nil_left,Jt]
  have hsl5:wQ [Cv.v (.int .i64 0),.v (.int .i64 0),.v (.int .i64 0),.v (.int .i64 0),.v (.int .i64 0)] 0 (List.map Cv.v x.w)=dS x:=rfl
  rw[hsl5]
  refine⟨⟨rfl,rfl⟩,?_⟩
  refine hcont Bk _ _ lB (kB _ _ il) (fun B2 B2k lB2 sB2 pB2 kB2 hlb2 hcont2=>?_)
  refine zB 160 ?_
  simp only[go_sem,uk,List.zip_cons_cons,List.zip_nil_left,Jt]
  have hK2:K.le B2k.hp:=fun b o h=>kB2 b o (hKl b o h) (kB b o (iK b o h))
  have hMx:∀(q:Int) (Y:List Bool) (f:Bool),ClM [jF q N f,et Y f]:=fun _ _ _=>zD (by simp only[Kw,z6 (yf _)];rfl)
  refine CallQ.ren [(1,2),(2,3)] 170 hxl (hMx _ _ _) rfl rfl ⟨⟨_,rfl,qh⟩,⟨_,rfl,fi (yf _)⟩,trivial⟩ rfl (.inr rfl) (vv ?_)
  cases hal:rR x (qX rv) zc with
  |false=>
   rw[hal,cond_false]at hps
   refine vv ?_
   refine hcont2 B2k _ _ lB2 hlb2 (fun Dm lDm kDm hlDm=>?_)
   refine zB 190 ?_
   have w2:IntKind.i64.wrap (((p.code.length-1-i:Nat):Int)-1)=(p.code.length:Int)-1-((i+1:Nat):Int):=by
    rw[y6 zA zA];omega
   simp only[go_sem,w2]
   refine hb _ _ Dm ⟨(i+1,rv),hc,hr0,hr1,by simp only;rw[hnk,hps]⟩ [(1,1),(2,2),(3,3),(4,4),(5,5),(7,7),(8,8),(9,9),(16,16)] lDm ⟨fun b o h=>kDm b o (hKl b o h) (hK2 b o h),hlDm⟩ yL ?_
   simp only
   rw[hnk,hps]
   exact zh
  |true=>
   rw[hal,cond_true]at hps
   refine vv ?_
   have hap:List.take zo.reverse.length (List.map iC zo.reverse)++[Cv.v (.int .i64 ((p.code.length-1-i:Nat):Int))]=((((p.code.length-1-i:Nat):Int)::zo).reverse).map iC:=by
    rw[JJ z9,List.reverse_cons,JN];rfl
   have hln:zo.reverse.length+1=((((p.code.length-1-i:Nat):Int)::zo).reverse).length:=z9
   have hbo:=WT x hoki hr0 hr1
   refine⟨⟨z9,zA,zA⟩,?_⟩
   rw[hap]
   refine CallQ.ren [(1,2),(2,3)] 180 hxb (hMx _ _ _) rfl rfl ⟨oS,oW (yD (yf _)),trivial⟩ rfl (.inl rfl) ?_
   simp only[Mem.ren,Ky,Kz,yD (yf _),V.ren,Cv.ren,rn,Nat.reduceBEq,cond_true,cond_false]
   refine vv ?_
   refine hcont2 B2k _ _ lB2 hlb2 (fun Dm lDm kDm hlDm=>?_)
   refine zB 190 ?_
   have w2:IntKind.i64.wrap (((p.code.length-1-i:Nat):Int)-1)=(p.code.length:Int)-1-((i+1:Nat):Int):=by
    rw[y6 zA zA];omega
   simp only[go_sem,w2]
   refine hb _ _ Dm ⟨(i+1,cO x rv),hc,hbo.1.1,hbo.1.2,by simp only;rw[hnk,hps];exact hbo.2⟩ [(1,1),(2,2),(3,3),(4,4),(5,5),(7,7),(8,8),(9,9),(16,171)] lDm ⟨fun b o h=>kDm b o (hKl b o h) (hK2 b o h),hlDm⟩ yL ?_
   simp only
   rw[hnk,hps,hln]
   exact zh
 have hc:i=p.code.length:=zA
 subst hc
 rw[I2]at hrv⊢
 clear hb
 have hkl:=iQ p.code E1 0
 have hko:=iP p.code E1 0
 have hkm:=(pG (p.code.drop 0) 0 E1).1
 have e10:decide ((0:Int)<=(p.code.length:Int)-1-(p.code.length:Int))=false:=yZ zA
 simp only[go_sem,e10]
 refine hnor Cn lCn _ _ _ _ (hex Cn lCn il _ _ (fun C1 l1 kk0=>?_) ⟨_,_,rfl,trivial⟩)
 have hK0:K.le C1.hp:=fun b o h=>kk0 b o (hKl b o h) (iK b o h)
 have hH1:H.le C1.hp:=fun b o h=>hK0 b o (.inl (k0 b o (hHk b o h)))
 have hm1:∀d∈dB::ds,C1.hp d (.deferred (some []))/\C.w0.heap.size<=d:=fun d hd=>by
  rcases J3.1 hd with rfl|hd
  ·exact⟨hK0 _ _ (.inr ⟨rfl,rfl⟩),by rw[<-mW];exact fdB⟩
  ·exact⟨hK0 _ _ (.inl (k0 _ _ (hmk d hd).1)),(hmk d hd).2⟩
 have hnd:(dB::ds).Nodup:=I9.2 ⟨fun hd=>(nfr _ _ (k0 _ _ (hmk dB hd).1)).2 rfl,nd⟩
 have l1:Lf (C.marks (dB::ds)) C1:=l1
 have hPm1:Pins C1.S []:=l1.pins hPm
 clear hex hnor hrg il iK hPD lCn hKD hKl hlpD
 have hAz:A=(bif kK p.f5 E1 (sG p.code E1 0).2.1 N then cS p.code p.f5 n (rJ p.f5 E1 (sG p.code E1 0).2.1 N)else(sG p.code E1 0).2.2):=by rw[hA,cS,hEl]
 have hln:(sG p.code E1 0).2.2.length<=4000:=by unfold sG;rw[Jb]at hkm⊢;omega
 generalize sG p.code E1 0=z at*
 obtain⟨zr,X,zo⟩:=z
 simp only at hAz hkl hln⊢
 obtain⟨_,hXl⟩:=hkl
 rw[hEl]at hXl
 refine zB 200 (vv ?_)
 refine zK (M0:=[]) (α:={c:Nat//c<=N}) hPm1 (fun c=>[(1,true,.c (.p 1 0)),(3,true,.c (.sl 9 0 N 1)),(7,true,.c (.p 5 0)),(10,true,Bo (kK p.f5 E1 X c.val)),(52,true,.c (.sl 3 0 N 1)),(53,true,I N),(54,true,I c.val)])
  (fun c=>[(1,⟨false,ul p,28⟩),(9,⟨false,(rJ p.f5 E1 X c.val).map bC,4⟩),(3,⟨false,X.map bC,4⟩),(16,⟨false,zo.reverse.map iC,3⟩),(5,⟨false,[.sl 16 0 zo.reverse.length 1],26⟩)]) (fun c=>N-c.val) ⟨0,zA⟩ (fun _=>zD (by simp only[Kw,z6 (yf _),z6 (zq _)];rfl)) (fun _=>zO rfl) [(1,1),(9,9),(3,3),(16,16),(5,5)] ?_ ?_
 ·exact zh
 rintro⟨c,hcN⟩ J hj
 simp only at hj hcN⊢
 refine v7 8 210 (vv ?_)
 have hGl:=sR p.f5 E1 X c
 refine zV (fun hc=>?_) (fun hc=>?_)
 ·have hc:=zH hc
  have gX:(X.map bC)[c]?=some (bC (gB X c)):=by have:=pV (C:=X) (n:=(c:Int)) zA zA;rwa [Int.toNat_natCast]at this
  have gE:((rJ p.f5 E1 X c).map bC)[c]?=some (bC (gB E1 c)):=by
   have:=pV (C:=rJ p.f5 E1 X c) (n:=(c:Int)) zA zA
   rwa [Int.toNat_natCast,nj _ _ _ _ _ (JZ _)]at this
  have hci:=WM p.s5 p.f5 (hp.i5.mono hH1) zA (c:Int)
  have hwi:IntKind.i64.wrap ((c:Int)+1)=((c+1:Nat):Int):=wS zA
  have hst:rJ p.f5 E1 X (c+1)=bif jV p.f5 E1 X c then sB (rJ p.f5 E1 X c) c true else rJ p.f5 E1 X c:=rfl
  have hsc:kK p.f5 E1 X (c+1)=bif jV p.f5 E1 X c then true else kK p.f5 E1 X c:=rfl
  have hg1:jV p.f5 E1 X c=bif gB X c then(bif gB E1 c then false else !p.f5.contains (c:Int))else false:=rfl
  refine zB 212 ?_
  simp only[go_sem,gX,gE,hpg5]
  refine⟨⟨zA,zA⟩,fun h=>⟨h,h,zA,zA⟩,?_⟩
  have hgg:(bif (bif gB X c then !gB E1 c else false)then !p.f5.contains (c:Int)else false)=jV p.f5 E1 X c:=by rw[hg1];cases gB X c<;>cases gB E1 c<;>rfl
  refine zt 220 (xs:=[.c (.v (vsl p.s5 p.f5.length)),I c]) (fun _=>hci) (Hp.le.refl _) (fun h=>by rw[h];rfl) ?_
  simp only[go_sem,hgg]
  cases hg:jV p.f5 E1 X c with
  |false=>
   rw[hg,cond_false]at hst hsc
   simp only[go_sem,hwi]
   refine hj _ _ ⟨c+1,hc⟩ [(1,1),(9,9),(3,3),(16,16),(5,5)] yL ?_
   simp only
   rw[hst,hsc]
   exact zh
  |true=>
   rw[hg,cond_true]at hst hsc
   have hse:((rJ p.f5 E1 X c).map bC).set c (bC true)=(rJ p.f5 E1 X (c+1)).map bC:=by rw[hst];have:=qw (Z:=rJ p.f5 E1 X c) (n:=(c:Int)) (b:=true);rwa [Int.toNat_natCast]at this
   simp only[go_sem,hwi,hse,Kv,hGl,hEl]
   refine⟨⟨zA,zA⟩,zA,?_⟩
   refine hj _ _ ⟨c+1,hc⟩ [(1,1),(9,9),(3,3),(16,16),(5,5)] yL ?_
   simp only
   rw[hsc]
   exact zh
 have hc:=zI hcN hc
 subst hc
 clear hj
 cases hg:kK p.f5 E1 X c with
 |true=>
  rw[hg,cond_true]at hAz
  have hcg:=(qV p.f5 E1 X c zA).2 hg
  refine v7 6 220 ?_
  simp only[go_sem,hg]
  refine xa (M0:=[]) hPm1 [(1,true,.c (.p 1 0)),(3,true,.c (.sl 9 0 c 1))] [(1,⟨false,ul p,28⟩),(9,⟨false,(rJ p.f5 E1 X c).map bC,4⟩)] [(1,1),(9,9)] ?_ (zD (by simp only[Kw,z6 (yf _)];rfl)) (zO rfl) ?_
  ·exact zh
  exact ih _ (by rw[sR];exact hEl) C1 ⟨dB::ds,l1,hnd,hm1,hH1⟩ zA hAz
 |false=>
  rw[hg,cond_false]at hAz
  refine zB 222 ?_
  simp only[go_sem,hg]
  refine CallQ.ren [(1,16)] 230 (VG zo.reverse (by rw[HL];omega)) (zD (by simp only[Kw,z6 (zq _)];rfl)) rfl rfl ⟨oW (yD (zq _)),trivial⟩ rfl (.inl rfl) ?_
  simp only[Mem.ren,Ky,Kz,yD (zq _),V.ren,Cv.ren,rn,Nat.reduceBEq,cond_true,cond_false]
  simp only[go_sem,List.reverse_reverse,HL]
  have hR:=hR (dB::ds) () C1 l1 hnd hm1 trivial
  rw[hAz]at hR
  exact RetQ.ren [(1,16)] hR hPm1 rfl yI rfl rfl trivial ⟨oV (yD (zq _)),trivial⟩ (zD (by simp only[JF,JG,Kw,z6 (zq _)];rfl)) (zG rfl)
end Go.Proofs.YtbnkiacicnnmkaaGreat.Fx
namespace Go.Proofs.YtbnkiacicnnmkaaGreat.Fx
open Vg Tf
section
variable {P:Program} {nt:Nat} {C:Cx} {todo r:List It} {e e0:Env} {M M0 Mf:Mem}
end
section
variable {nt:Nat} {C:Cx} {todo r:List It} {e e0:Env} {M M0 Mf:Mem} {H:Hp} {d:DgL}
end
theorem _root_.Go.Proofs.YtbnkiacicnnmkaaGreat.Vg.StpC.ldA {P:Program}{C:Cx}{o:Oper}{e:Env}{M:Mem}{ty:TypeId}{x:Operand}{b i:Nat}{c:Array Value}{el:TypeId}{mk:Nat×Nat}{vs:List Value}(hb:C.hp b (.cells c el mk))(hc:∀j v,vs[j]?=some v->c[i+j]?=some v)(ho:o.op= .load ty x)(hx:rd e x=some (true,.c (.v (.pointer (some ⟨b,i,none⟩)))))
  (ha:z5 P ty=some true) (hs:zm P ty=vs.length) (h0:vs.length≠0):StpC P C.S C.w0 o e M (.agg (vs.map .v)) []:=by
 intro β M' a w _ _ hrel hop K Q hk
 have he:=hop β (Agree.refl _ _) x (by simp[ho,Op.operands]) _ hx
 have hbw:=zy hrel hb
 have hr2:w.rangeAt b i vs:=fun j v hj=>by simp[World.cell?,hbw,hc j v hj]
 simp only[gv,V.g,Cv.g,cond_true]at he
 unfold z5 at ha
 cases hu:P.underlying ty with
 |none=>simp[hu]at ha
 |some d=>
  have hd:d.isRow=true:=by cases d<;>simp_all
  have hld:=run_loadVar_mid (P:=P) w b i ty _ d hr2 hu hd (uM hs h0)
  have hcs:∀β:Vl,(vs.map Cv.v).map (Cv.g β)=vs:=fun β=>by
   rw[Ja];conv=>rhs;rw[<-HI vs]
   exact JV fun _ _=>rfl
  have hrun:(execOp a.eval o).run P w= .ok (.value (V.g β (.agg (vs.map .v)))) w:=by
   unfold execOp
   simp only[ho,he,Instr.loadAt,Instr.sureAddr,Sem.run_bind,Sem.run_pure,Result.andThen_ok,hld]
   simp only[V.g,hcs]
  unfold Oper.wp
  rw[hrun]
  exact hk β _ w (Agree.refl _ _) hrel (fun β'' _=>by simp only[V.g,hcs])
theorem rB {α:Type}{r:α->List Value}{k:Nat}(hk:∀x,(r x).length=k)(l:List α)(i j:Nat)(h:i<l.length)(hj:j<k):(l.map r).flatten[i*k+j]?=(r l[i])[j]?:=by
 have h1:=mh hk l i j h hj
 unfold zC at h1
 rw[JO]at h1
 cases ha:(l.map r).flatten[i*k+j]?<;>cases hb:(r l[i])[j]?<;>rw[ha,hb]at h1<;>simp_all
theorem eM {α:Type}(r:α->List Value){k:Nat}(hk:∀x,(r x).length=k)(l:List α)(x:α):(zC (l.map r)).take (l.length*k)++(r x).map Cv.v=zC ((l++[x]).map r):=by
 rw[JJ (by rw[zQ hk];exact JZ _)]
 unfold zC
 rw[JN,Ib,JN]
 simp
theorem ZA {H:Hp}{p:Pg}(hp:p.ok H)(h:0<p.code.length):∃b o,p.c.o=some ⟨b,o,none⟩/\∃cs el mk,H b (.cells cs el mk)/\∀q (hq:q<p.code.length) j v,(p.code[q].w)[j]?=some v->cs[o+q*5+j]?=some v:=by
 have hz:=zQ (r:=Ins.w) (k:=5) (fun _=>rfl) p.code
 unfold zC at hz
 rw[Kv]at hz
 obtain⟨b,o,c,h1,cs,el,mk,hb,hc⟩:=hp.c.at (by intro h0;rw[h0]at hz;simp at hz;omega)
 have hio:p.c.o=some ⟨b,o,none⟩:=by injection h1
 refine⟨b,o,hio,cs,el,mk,hb,fun q hq j v hj=>?_⟩
 have hj5:j<5:=(JW.1 hj).1
 have:=hc (q*5+j) v (by rw[rB (r:=Ins.w) (k:=5) (fun _=>rfl) p.code q j hq hj5];exact hj)
 rw[IC];exact this
def Xg:Ins:=⟨0,0,0,0,0⟩
def wh (code:List Ins)(l:List Int):List Ins:=l.map fun n=>code.getD n.toNat Xg
def yh (p:Pg):List Ins:=wh p.code (lj p)
def xP (p:Pg)(s:Sv):Pg:={p with code:=yh p,c:=s}
theorem jf (code:List Ins)(f5:List Int):∀(n:Nat) (E:List Bool),(cS code f5 n E).length<=code.length/\∀k∈cS code f5 n E,0<=k/\k<code.length
 |0,_=>⟨Nat.zero_le _,fun k h=>by cases h⟩
 |n+1,E=>by
  unfold cS
  dsimp only
  cases kK f5 E (sG code E 0).2.1 E.length with
  |true=>exact jf code f5 n _
  |false=>exact⟨by have:=(pG (code.drop 0) 0 E).1;rw[Jb]at this;exact this,iP code E 0⟩
theorem gh (code:List Ins)(l:List Int)(i:Nat)(h:i<l.length):wh code (l.take (i+1))=wh code (l.take i)++[code.getD (l[i]).toNat Xg]:=by
 unfold wh;rw[JR h,JN];rfl
theorem rG {H:Hp}(p:Pg)(hp:p.ok H)(hc1:∀c∈p.cus,c.c.xs.length<=1000000000000000/\c.c.ys.length<=1000000000000000)(hm1:∀m∈p.mas,∀v∈m.zs,v.2.length<=1000000000000000)(hv:wP p=true):
  CallX H Tryz.prog 8 [z3 p.r] [] (fun s:Sv=> .tup [W.agg ((xP p s).r.map Cv.v),Wi 0]) (fun _=>[]) (fun s H'=>SlH H' (vsl s (yh p).length) 5 ((yh p).map Ins.w)):=by
 have hval:=uK p hp hc1 hm1
 have hal:=V6 p hp hc1 hm1 hv
 obtain⟨hal1,hal2⟩:=jf p.code p.f5 (p.sz.toNat+1) (mO p)
 have hcl:=(rZ p hv).2.2
 have hA:cS p.code p.f5 (p.sz.toNat+1) (mO p)=lj p:=rfl
 have hK:yh p=wh p.code (lj p):=rfl
 rw[hA]at hal1 hal2
 rw[hv]at hval
 have hrw:∀s,(xP p s).r.map Cv.v=[.v (vsl s (yh p).length),.v (vsl p.t p.tys.length),.v (vsl p.u p.cus.length),.v (vsl p.m p.mas.length),.v (iv p.sz),.v (vsl p.s5 p.f5.length),.v (vsl p.s6 p.f6.length),.v (vsl p.s7 p.f7.length),.v (vsl p.s8 p.f8.length)]:=fun _=>rfl
 simp only[hrw]
 rw[x6]at hval hal⊢
 generalize hL0:lj p=L at*
 refine kX Tryz.func8 KE Tryz.ntmps8 fun C hR hP hH hL=>?_
 refine zB 100 (vv ?_)
 refine zM 110 hval hH rfl (vv ?_)
 refine uD [(1,120)] 130 hL hal hH rfl trivial ClM.nil (fun _=>rfl) rfl rfl rfl fun _ C1 H1 l1 g1 _ _=>?_
 simp only[Mem.ren,Ky,Kz,yD (zq _),V.ren,Cv.ren,rn,Nat.reduceBEq,cond_true,cond_false]
 refine vv ?_
 refine x9 140 5 42 [4] [] rfl (vv ?_)
 refine zK (M0:=[]) (α:={i:Nat//i<=L.length}) (l1.pins hP) (fun i=>[(1,true,.c (.p 1 0)),(2,true,.c (.p 3 0)),(4,true,.c (.sl 5 0 i.val 5)),(12,true,.c (.sl 6 0 L.length 1)),(13,true,I L.length),(14,true,I i.val)])
  (fun i=>[(1,⟨false,ul p,28⟩),(3,⟨false,[.v (.slice none 0 0),.v (.slice none 0 0),.v (.slice none 0 0),.v (.slice none 0 0),.v (.int .i64 0),.v (.slice none 0 0),.v (.slice none 0 0),.v (.slice none 0 0),.v (.slice none 0 0)],28⟩),(5,⟨false,zC ((wh p.code (L.take i.val)).map Ins.w),42⟩),(6,⟨false,L.map iC,3⟩)]) (fun i=>L.length-i.val) ⟨0,zA⟩ (fun _=>zD (by simp only[Kw,iR,z6 (zq _)];rfl)) (fun _=>zO rfl) [(1,100),(3,101),(5,140),(6,120)] ?_ ?_
 ·exact zh
 rintro⟨i,hi⟩ J hj
 simp only at hj hi⊢
 refine v7 8 150 (vv ?_)
 refine zV (fun hc=>?_) (fun hc=>?_)
 ·have hc:=zH hc
  have hov:(L.map iC)[i]?=some (iC L[i]):=by simp[hc]
  obtain⟨c0,c1⟩:=hal2 _ (JH hc)
  have hwi:IntKind.i64.wrap ((i:Int)+1)=((i+1:Nat):Int):=wS zA
  have hpt:=gh p.code L i hc
  obtain⟨j0,hj0⟩:∃j0:Nat,L[i]=j0:=⟨L[i].toNat,zA⟩
  rw[hj0]at hov c0 c1 hpt
  have hjn:j0<p.code.length:=zA
  have hx:p.code.getD ((j0:Int)).toNat Xg=p.code[j0]:=by rw[Int.toNat_natCast,Kx,JA hjn];rfl
  rw[hx]at hpt
  obtain⟨b0,o0,hpo,cs,el,mk,hcb,hcc⟩:=ZA ((hp.mono hH).mono g1) zA
  have hpg0:(ul p)[0]?=some (.v (.slice (some ⟨b0,o0,none⟩) p.code.length p.c.c)):=by rw[<-hpo];rfl
  have hps:(wh p.code (L.take i)).length=i:=by unfold wh;rw[Kv,IY];omega
  have hz:=zQ (r:=Ins.w) (k:=5) (fun _=>rfl) (wh p.code (L.take i))
  have hap:=eM Ins.w (k:=5) (fun _=>rfl) (wh p.code (L.take i)) p.code[j0]
  rw[hps]at hz hap
  rw[<-hpt]at hap
  refine zB 160 ?_
  simp only[go_sem,hov,hpg0]
  refine⟨⟨zA,zA⟩,?_⟩
  refine z4 170 rfl rfl (.inl rfl) (fun _=>(Stp.idxV rfl rfl rfl Yr zA zA).toC) ?_
  simp only[go_sem,Int.toNat_natCast]
  refine z4 180 rfl rfl (.inl rfl) (fun _=>StpC.ldA (vs:=p.code[j0].w) hcb (fun j v hv=>hcc j0 hjn j v hv) rfl rfl rfl rfl (Jw _)) ?_
  have hs5:∀x:Ins,wQ [Cv.v (.int .i64 0),.v (.int .i64 0),.v (.int .i64 0),.v (.int .i64 0),.v (.int .i64 0)] 0 (List.map Cv.v x.w)=List.map Cv.v x.w:=fun _=>rfl
  have ht5:∀x:Ins,List.take 5 (List.map Cv.v x.w)=List.map Cv.v x.w:=fun _=>rfl
  have hon:∀x:Ins,(List.map Cv.v x.w).all Cv.one=true:=fun _=>rfl
  have hl5:∀x:Ins,(List.map Cv.v x.w).length=5:=fun _=>rfl
  generalize p.code[j0]=x at*
  simp only[go_sem,hz,hs5,ht5,hon,hl5,hap,hwi]
  refine⟨⟨zA,zA⟩,hj _ _ ⟨i+1,hc⟩ [(1,1),(3,3),(5,181),(6,6)] yL zh⟩
 ·have hc:=zI hi hc
  subst hc
  rw[JY,<-hK]
  have hkl:L.length=(yh p).length:=by rw[hK];unfold wh;rw[Kv]
  refine zB 200 ?_
  simp only[go_sem,ul]
  refine RetQ.letgo (M0:=[]) [5] l1 hP rfl (by unfold yC;simp only[Kw,yF (zJ _),yF (zq _)];rfl) (fun β C2 l2 k2 kn=>?_)
  obtain⟨s,hs,hks⟩:=(kn 5 _ rfl rfl rfl).vslx (sz:=5) (rows:=(yh p).map Ins.w) (fun r hr=>by obtain⟨x,_,rfl⟩:=JL.1 hr;rfl) rfl
  rw[Kv]at hs hks
  rw[hkl]
  simp only[Mem.conc,Env.conc,Bk.conc,Cv.conc,V.conc,Ky,Kz,J0,List.contains_nil,Nat.reduceBEq,Jq,IF,cond_true,cond_false,xf (zJ _),xf (zq _),hs]
  exact yN (hR s C2 l2 hks) ClM.nil
def nd:List Ins->List Bool->List Bool×List Bool
 |[],C=>(List.replicate 16 false,C)
 |i::t,C=>(fun z=>bif rR i z.1 z.2 then(nF i z.1,qY i z.2)else z) (nd t C)
def kp:List Ins->List Bool->List Ins
 |[],_=>[]
 |i::t,C=>bif rR i (nd t C).1 (nd t C).2 then i::kp t C else kp t C
theorem oa:∀(l:List Ins) (j:Nat) (C:List Bool),(ps l j C).1=(nd l C).1/\(ps l j C).2.1=(nd l C).2
 |[],_,_=>⟨rfl,rfl⟩
 |i::t,j,C=>by
  obtain⟨h1,h2⟩:=oa t (j+1) C
  unfold ps nd
  dsimp only
  rw[h1,h2]
  cases rR i (nd t C).1 (nd t C).2 with
  |true=>exact⟨rfl,rfl⟩
  |false=>exact⟨h1,h2⟩
theorem Zl (C:List Bool):∀(l pre:List Ins),wh (pre++l) (ps l pre.length C).2.2=kp l C
 |[],_=>rfl
 |i::t,pre=>by
  obtain⟨h1,h2⟩:=oa t (pre.length+1) C
  have ih:=Zl C t (pre++[i])
  rw[JM,List.length_singleton,I1,List.singleton_append]at ih
  unfold ps kp
  dsimp only
  rw[h1,h2]
  cases rR i (nd t C).1 (nd t C).2 with
  |true=>
   rw[cond_true,cond_true,<-ih]
   unfold wh
   rw[Ky]
   congr 1
   rw[Int.toNat_natCast,Kx,Ju (JZ _),I2]
   rfl
  |false=>exact ih
structure LeB (A B:List Bool):Prop where
 l:A.length=B.length
 le:∀n:Nat,A.getD n false=true->B.getD n false=true
theorem LeB.refl (A:List Bool):LeB A A:=⟨rfl,fun _ h=>h⟩
theorem LeB.trans {A B C:List Bool}(h:LeB A B)(k:LeB B C):LeB A C:=⟨h.l.trans k.l,fun n x=>k.le n (h.le n x)⟩
theorem t6 (l:List Bool)(n:Int)(b:Bool)(m:Nat):(sB l n b).getD m false=if n.toNat=m/\m<l.length then b else l.getD m false:=by
 unfold sB
 rw[Kx,IJ]
 by_cases h:n.toNat=m
 ·rw[if_pos h]
  by_cases h2:n.toNat<l.length
  ·rw[if_pos h2,if_pos ⟨h,zA⟩];rfl
  ·rw[if_neg h2,if_neg zA,Kx,Jc zA]
 ·rw[if_neg h,if_neg (fun x=>h x.1),Kx]
theorem xD {A B:List Bool}(h:LeB A B)(n:Int)(b:Bool):LeB (sB A n b) (sB B n b):=⟨by rw[yM,yM];exact h.l,fun m hm=>by
 rw[t6]at hm⊢
 rw[<-h.l]
 split at hm
 ·rename_i hc;rw[if_pos hc];exact hm
 ·rename_i hc;rw[if_neg hc];exact h.le m hm⟩
theorem y9 (A:List Bool)(n:Int):LeB A (sB A n true):=⟨(yM _ _ _).symm,fun m hm=>by
 rw[t6]
 split
 ·rfl
 ·exact hm⟩
theorem Zv {A B:List Bool}(h:LeB A B)(n:Int)(hn:gB A n=false):LeB A (sB B n false):=⟨h.l.trans (yM _ _ _).symm,fun m hm=>by
 rw[t6]
 split
 ·rename_i hc
  unfold gB at hn
  rw[hc.1,hm]at hn
  cases hn
 ·exact h.le m hm⟩
theorem vn {A B:List Bool}(h:LeB A B){n:Int}(hn:gB A n=true):gB B n=true:=h.le _ hn
def Qc (i:Ins)(R:List Bool):List Bool:=bif i.op==3 then R else sB R i.a false
theorem dL (i:Ins)(R:List Bool):LeB (Qc i R) (nF i R):=by
 unfold Qc nF
 cases i.op==3 with
 |true=>exact y9 _ _
 |false=>
  simp only[cond_false]
  cases uB i.op<;>cases uC i.op<;>cases i.op==19<;>simp only[cond_true,cond_false]
  ·exact LeB.refl _
  ·exact y9 _ _
  ·exact y9 _ _
  ·exact(y9 _ _).trans (y9 _ _)
  ·exact y9 _ _
  ·exact(y9 _ _).trans (y9 _ _)
  ·exact(y9 _ _).trans (y9 _ _)
  ·exact((y9 _ _).trans (y9 _ _)).trans (y9 _ _)
theorem WU (i:Ins){A B:List Bool}(h:LeB A B):LeB (nF i A) (nF i B):=by
 unfold nF
 cases i.op==3 with
 |true=>exact xD h _ _
 |false=>
  simp only[cond_false]
  cases uB i.op<;>cases uC i.op<;>cases i.op==19<;>simp only[cond_true,cond_false]
  ·exact xD h _ _
  ·exact xD (xD h _ _) _ _
  ·exact xD (xD h _ _) _ _
  ·exact xD (xD (xD h _ _) _ _) _ _
  ·exact xD (xD h _ _) _ _
  ·exact xD (xD (xD h _ _) _ _) _ _
  ·exact xD (xD (xD h _ _) _ _) _ _
  ·exact xD (xD (xD (xD h _ _) _ _) _ _) _ _
theorem WV (i:Ins){A B:List Bool}(h:LeB A B):LeB (qY i A) (qY i B):=by
 unfold qY
 cases i.op==3<;>cases i.op==2<;>cases i.op==22<;>simp only[cond_true,cond_false]
 ·exact h
 ·exact xD (xD h _ _) _ _
 all_goals exact xD h _ _
theorem cU (i:Ins){A B C D:List Bool}(h:LeB A B)(k:LeB C D)(ha:rR i A C=true):rR i B D=true:=by
 unfold rR at*
 cases h3:i.op==3 with
 |true=>
  simp only[h3,cond_true]at ha⊢
  exact vn k ha
 |false=>
  simp only[h3,cond_false]at ha⊢
  cases h22:i.op==22 with
  |true=>
   simp only[h22,cond_true]at ha⊢
   cases hx:gB A i.a with
   |true=>rw[vn h hx];rfl
   |false=>
    rw[hx,cond_false]at ha
    cases hy:gB C (i.k/32)with
    |true=>rw[vn k hy];cases gB B i.a<;>rfl
    |false=>
     rw[hy,cond_false]at ha
     rw[vn k ha]
     cases gB B i.a<;>cases gB D (i.k/32)<;>rfl
  |false=>
   simp only[h22,cond_false]at ha⊢
   cases h8:i.op==8 with
   |true=>rfl
   |false=>
    simp only[h8,cond_false]at ha⊢
    exact vn h ha
theorem YT (i:Ins){A C:List Bool}(ha:rR i A C=false):i.op≠8/\(i.op=3->gB C i.k=false)/\(i.op≠3->gB A i.a=false)/\(i.op=22->gB C (i.k/32)=false/\gB C (i.k/32+1)=false):=by
 unfold rR at ha
 by_cases h3:i.op=3
 ·rw[h3]at ha⊢
  exact⟨yp,fun _=>ha,fun h=>absurd rfl h,fun h=>absurd h yp⟩
 by_cases h22:i.op=22
 ·rw[h22]at ha⊢
  have ha:(bif gB A i.a then true else bif gB C (i.k/32)then true else gB C (i.k/32+1))=false:=ha
  refine⟨yp,fun h=>absurd h yp,fun _=>?_,fun _=>?_⟩
  ·cases h:gB A i.a with
   |false=>rfl
   |true=>rw[h]at ha;cases ha
  ·cases h:gB A i.a with
   |true=>rw[h]at ha;cases ha
   |false=>
    rw[h,cond_false]at ha
    cases h2:gB C (i.k/32)with
    |true=>rw[h2]at ha;cases ha
    |false=>rw[h2,cond_false]at ha;exact⟨rfl,ha⟩
 ·rw[beq_false_of_ne h3,beq_false_of_ne h22,cond_false,cond_false]at ha
  by_cases h8:i.op=8
  ·rw[h8]at ha;cases ha
  ·rw[beq_false_of_ne h8,cond_false]at ha
   exact⟨h8,fun h=>absurd h h3,fun _=>ha,fun h=>absurd h h22⟩
theorem Zq:∀(l:List Ins) {C D:List Bool},LeB C D->LeB (nd l C).1 (nd l D).1/\LeB (nd l C).2 (nd l D).2
 |[],_,_,h=>⟨LeB.refl _,h⟩
 |i::t,C,D,h=>by
  obtain⟨h1,h2⟩:=Zq t h
  unfold nd
  dsimp only
  generalize nd t C=z at*
  generalize nd t D=y at*
  cases ha:rR i z.1 z.2 with
  |true=>
   rw[cU i h1 h2 ha]
   exact⟨WU i h1,WV i h2⟩
  |false=>
   cases rR i y.1 y.2 with
   |false=>exact⟨h1,h2⟩
   |true=>
    obtain⟨d8,d3,da,d22⟩:=YT i ha
    simp only[cond_true,cond_false]
    constructor
    ·refine LeB.trans ?_ (dL i y.1)
     unfold Qc
     by_cases h3:i.op=3
     ·rw[h3];exact h1
     ·rw[beq_false_of_ne h3];exact Zv h1 _ (da h3)
    ·unfold qY
     by_cases h3:i.op=3
     ·rw[h3];exact Zv h2 _ (d3 h3)
     ·rw[beq_false_of_ne h3,cond_false]
      cases i.op==2<;>cases i.op==22<;>simp only[cond_true,cond_false]
      ·exact h2
      ·exact h2.trans ((y9 _ _).trans (y9 _ _))
      ·exact h2.trans (y9 _ _)
      ·exact h2.trans (y9 _ _)
theorem ep {C F:List Bool}(h:LeB C F):∀l:List Ins,nd (kp l F) C=nd l C/\kp (kp l F) C=kp l C
 |[]=>⟨rfl,rfl⟩
 |i::t=>by
  obtain⟨h1,h2⟩:=ep h t
  obtain⟨l1,l2⟩:=Zq t h
  show nd (bif rR i (nd t F).1 (nd t F).2 then i::kp t F else kp t F) C=nd (i::t) C/\kp (bif rR i (nd t F).1 (nd t F).2 then i::kp t F else kp t F) C=kp (i::t) C
  cases ha:rR i (nd t F).1 (nd t F).2 with
  |true=>
   simp only[cond_true,nd,kp,h1,h2]
   refine⟨?_,?_⟩<;>first|trivial|rfl
  |false=>
   have hb:rR i (nd t C).1 (nd t C).2=false:=by
    cases hb:rR i (nd t C).1 (nd t C).2 with
    |false=>rfl
    |true=>rw[cU i l1 l2 hb]at ha;cases ha
   simp only[cond_false,nd,kp,hb]
   exact⟨h1,h2⟩
theorem ng (C:List Bool):∀l:List Ins,(kp l C).Sublist l
 |[]=>List.Sublist.refl _
 |i::t=>by
  unfold kp
  cases rR i (nd t C).1 (nd t C).2 with
  |true=>exact(ng C t).cons_cons i
  |false=>exact(ng C t).cons i
def fP (code:List Ins)(f5:List Int):Nat->List Bool->List Bool
 |0,E=>E
 |n+1,E=>bif kK f5 E (nd code E).2 E.length then fP code f5 n (rJ f5 E (nd code E).2 E.length)else E
theorem jU (f5:List Int)(E X:List Bool):∀k,LeB E (rJ f5 E X k)
 |0=>LeB.refl _
 |k+1=>by
  unfold rJ
  cases jV f5 E X k with
  |true=>exact(jU f5 E X k).trans (y9 _ _)
  |false=>exact jU f5 E X k
theorem XE (code:List Ins)(E:List Bool):(sG code E 0).2.1=(nd code E).2:=by
 unfold sG;rw[Jb];exact(oa code 0 E).2
theorem XF (code:List Ins)(E:List Bool):wh code (sG code E 0).2.2=kp code E:=by
 unfold sG;rw[Jb];exact Zl E code []
theorem vw (code:List Ins)(f5:List Int):∀(n:Nat) (E:List Bool),kP E<n->
  kK f5 (fP code f5 n E) (nd code (fP code f5 n E)).2 (fP code f5 n E).length=false/\cS code f5 n E=(sG code (fP code f5 n E) 0).2.2/\LeB E (fP code f5 n E)
 |0,E,h=>absurd h zA
 |n+1,E,h=>by
  unfold fP cS
  dsimp only
  rw[XE]
  cases hg:kK f5 E (nd code E).2 E.length with
  |false=>
   simp only[cond_false]
   exact⟨hg,trivial,LeB.refl _⟩
  |true=>
   simp only[cond_true]
   have hc:=(qV f5 E (nd code E).2 E.length (JZ _)).2 hg
   obtain⟨h1,h2,h3⟩:=vw code f5 n (rJ f5 E (nd code E).2 E.length) zA
   exact⟨h1,h2,(jU _ _ _ _).trans h3⟩
theorem cT (code:List Ins)(f5:List Int){F:List Bool}:∀(n:Nat) (E:List Bool),kP E<n->fP code f5 n E=F->fP (kp code F) f5 n E=F
 |0,E,h,_=>absurd h zA
 |n+1,E,h,hF=>by
  have hle:=(vw code f5 (n+1) E h).2.2
  rw[hF]at hle
  unfold fP at hF⊢
  rw[(ep hle code).1]
  cases hg:kK f5 E (nd code E).2 E.length with
  |false=>rw[hg]at hF;exact hF
  |true=>
   rw[hg]at hF
   have hc:=(qV f5 E (nd code E).2 E.length (JZ _)).2 hg
   exact cT code f5 n _ zA hF
theorem dW (f5:List Int)(E X:List Bool):∀k,kK f5 E X k=false->∀m,m<k->jV f5 E X m=false
 |0,_,m,h=>absurd h zA
 |k+1,hg,m,h=>by
  unfold kK at hg
  cases h1:jV f5 E X k with
  |true=>rw[h1]at hg;cases hg
  |false=>
   rw[h1,cond_false]at hg
   by_cases hm:m=k
   ·rw[hm];exact h1
   ·exact dW f5 E X k hg m zA
def fE (p:Pg):List Bool:=fP p.code p.f5 (p.sz.toNat+1) (mO p)
theorem gA (p:Pg):(mO p).length=p.sz.toNat:=by unfold mO;rw[nq,Ij]
theorem pb (p:Pg):kP (mO p)<p.sz.toNat+1:=by
 have:kP (mO p)<=(mO p).length:=List.countP_le_length
 rw[gA]at this
 omega
theorem uL (p:Pg):yh p=kp p.code (fE p):=by
 obtain⟨_,h2,_⟩:=vw p.code p.f5 (p.sz.toNat+1) (mO p) (pb p)
 unfold yh lj
 rw[h2]
 exact XF p.code (fE p)
theorem Xy (p:Pg)(s:Sv):fE (xP p s)=fE p:=by
 have h:fE (xP p s)=fP (yh p) p.f5 (p.sz.toNat+1) (mO p):=rfl
 rw[h,uL]
 exact cT p.code p.f5 _ _ (pb p) rfl
theorem lK (p:Pg)(s:Sv):yh (xP p s)=yh p:=by
 rw[uL (xP p s),Xy]
 have h:(xP p s).code=kp p.code (fE p):=uL p
 rw[h,(ep (LeB.refl _) p.code).2,uL]
theorem Y9 (p:Pg)(s:Sv)(h:wP p=true):wP (xP p s)=true:=by
 have hk:=uL p
 have hs:=ng (fE p) p.code
 unfold wP iV at h⊢
 simp only[JB,decide_eq_true_eq,JD]at h⊢
 obtain⟨⟨h1,h2⟩,h3,h4,h5,h6,h7⟩:=h
 refine⟨⟨?_,h2⟩,h3,h4,h5,fun i hi=>?_,h7⟩
 ·show(yh p).length<=4000
  rw[hk]
  have:=hs.length_le
  omega
 ·have hi:i∈yh p:=hi
  rw[hk]at hi
  exact h6 i (hs.subset hi)
end Go.Proofs.YtbnkiacicnnmkaaGreat.Fx
