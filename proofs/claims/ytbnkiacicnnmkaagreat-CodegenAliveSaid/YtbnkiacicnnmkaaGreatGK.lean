/-  -/
import Derived.Test.YtbnkiacicnnmkaaGreatGJ
set_option linter.unusedSimpArgs false
set_option linter.unusedVariables false
set_option maxRecDepth 100000
set_option maxHeartbeats 4000000
namespace Go.Proofs.YtbnkiacicnnmkaaGreat.Fx
open Vg Tf
def fV (p:Pg):List Bool:=eH (List.replicate p.sz.toNat false) p.f7
def u9 (p:Pg):List Int:=mR p.code p.f5 (p.sz.toNat+1) (fV p)
theorem r6 (E:List Bool):∀l:List Int,(eH E l).length=E.length:=by
 intro l
 induction l generalizing E with
 |nil=>rfl
 |cons a t ih=>exact(ih (sB E a true)).trans (wO _ _ _)
theorem nc (E:List Bool)(l:List Int)(i:Nat)(h:i<l.length):eH E (l.take (i+1))=sB (eH E (l.take i)) l[i] true:=by
 unfold eH;rw[MF h,List.foldl_append];rfl
theorem bN (p:Pg)(h:vT p=true):∀i∈p.code,InOk i p.sz.toNat:=fun i hi=>by
 have hv:=mV p h
 obtain⟨h1,h2,h3,h4,h5,h6,h7,h8,h9⟩:=X4 p i (hv.2.1 i hi)
 exact⟨h1,h2,⟨h3,h4⟩,⟨h5,h6⟩,fun ho=>by have:=h7 ho;omega,h8,fun ho=>by have:=h9 ho;omega⟩
theorem li (p:Pg)(h:vT p=true):tA p.sz p.f7=true/\tA p.sz p.f5=true/\p.code.length<=4000:=by
 unfold vT g7 at h
 simp only[Ns,decide_eq_true_eq]at h
 exact⟨h.2.2.2.2.2.1.2.1,h.2.2.2.2.2.1.1,h.1.1⟩
@[reducible,go_sem] def QU (p:Pg)(N:Nat)(E:List Bool)(r:Int)(X:List Bool):Mem:=[(1,⟨false,uV p,28⟩),(9,⟨false,E.map bC,4⟩),(2,⟨false,[.v (.int .u16 r),.sl 3 0 N 1],91⟩),(3,⟨false,X.map bC,4⟩),(4,⟨false,[.p 2 0],87⟩)]
theorem bI {H:Hp}(p:Pg)(hp:p.ok H)(hc1:∀c∈p.cus,c.c.xs.length<=1000000000000000/\c.c.ys.length<=1000000000000000)(hm1:∀m∈p.mas,∀v∈m.zs,v.2.length<=1000000000000000)(hv:vT p=true):
  CallX H Tryz.prog 7 [ze p.r] [] (fun _:Unit=> .c (.sl 1 0 (u9 p).length 1)) (fun _=>[(1,⟨false,(u9 p).map iC,3⟩)]) (fun _ _=>True):=by
 have hval:=uf p hp hc1 hm1
 have hok:=bN p hv
 obtain⟨hb7,hb5,hcl⟩:=li p hv
 have hb7:=vB hb7
 have hb5:=vB hb5
 have hvv:=mV p hv
 rw[hv]at hval
 rw[wa]at hval⊢
 refine sJ Tryz.func7 rfl Pe (by simp[Tryz.ntmps7]) (fun x n b h _=>by have:=zq h;simp only[MU,LQ,or_false,LV]at this;rw[this.2]) (fun x n b b' h h'=>by cases h') (vS rfl) rfl fun C hlp hR hP hH hL=>?_
 refine zB 100 (vv ?_)
 refine zO 110 hval hH rfl ?_
 simp only[go_sem,wY]
 refine⟨zA,?_⟩
 have hN0:p.sz=(p.sz.toNat:Int):=zA
 have hEt:yv p.sz.toNat []=List.replicate p.sz.toNat false:=List.ext_getElem (by simp[yv]) (fun k h1 h2=>by simp[yv])
 have hEl:=r6 (List.replicate p.sz.toNat false) p.f7
 rw[List.length_replicate]at hEl
 unfold u9 fV at hR
 rw[hEt]
 generalize hN:p.sz.toNat=N at*
 generalize hE0:List.replicate N false=E0 at*
 have hE0l:E0.length=N:=by rw[<-hE0];simp
 -- the outputs
 refine zB 120 (vv ?_)
 refine Sm.bringI (l:=p.f7) 10 3 20 (hp.i7.mono hH) rfl rfl (zB 130 ?_)
 refine vv ?_
 refine zL (M0:=[]) (α:={i:Nat//i<=p.f7.length}) hP (fun i=>[(1,true,.c (.p 1 0)),(3,true,.c (.sl 9 0 N 1)),(20,true,.c (.sl 10 0 p.f7.length 1)),(21,true,I p.f7.length),(22,true,I i.val)])
  (fun i=>[(1,⟨false,uV p,28⟩),(9,⟨false,(eH E0 (p.f7.take i.val)).map bC,4⟩),(10,⟨true,p.f7.map iC,3⟩)]) (fun i=>p.f7.length-i.val) ⟨0,zA⟩ (fun _=>zD (by simp only[Nj,zZ (zh _),zZ (yD _)];rfl)) (fun _=>zP rfl) [(1,100),(9,110),(10,10)] ?_ ?_
 ·exact zk
 rintro⟨i,hi⟩ J hj
 simp only at hj hi⊢
 refine zB 120 (vv ?_)
 refine zY (fun hc=>?_) (fun hc=>?_)
 ·have hc:=zI hc
  have hov:(p.f7.map iC)[i]?=some (iC p.f7[i]):=by simp[hc]
  obtain⟨c0,c1⟩:=hb7.2 _ (Nv hc)
  have hwi:IntKind.i64.wrap ((i:Int)+1)=((i+1:Nat):Int):=wS zA
  have hst:=nc E0 p.f7 i hc
  have hkl:=r6 E0 (p.f7.take i)
  generalize p.f7[i]=z at*
  simp only[go_sem,hov,hwi,Int.toNat_natCast,Ni,hkl,hE0l,xy,<-hst]
  exact⟨⟨zA,zA⟩,⟨zA,zA⟩,zA,hj _ _ ⟨i+1,hc⟩ [(1,1),(9,9),(10,10)] yK zk⟩
 have hc:=zJ hi hc
 subst hc
 rw[MS]
 clear hj
 refine vv ?_
 generalize hE1:eH E0 p.f7=E1 at*
 -- the rounds
 refine zi (N+1) ?_
 refine xZ (M0:=[]) hP [(1,true,.c (.p 1 0)),(3,true,.c (.sl 9 0 N 1))] [(1,⟨false,uV p,28⟩),(9,⟨false,E1.map bC,4⟩)] [(1,1),(9,9)] zk (zD (by simp only[Nj,zZ (zh _)];rfl)) (zP rfl) ?_
 have hcn:lQ E1<N+1:=by
  have:lQ E1<=E1.length:=List.countP_le_length
  omega
 have hlz:C.marks []=C:=rfl
 obtain⟨A,hA⟩:∃A,A=mR p.code p.f5 (N+1) E1:=⟨_,rfl⟩
 rw[<-hA]at hR
 have hst:∃ds,Lf (C.marks ds) C/\ds.Nodup/\(∀d∈ds,C.hp d (.deferred (some []))/\C.w0.heap.size<=d)/\H.le C.hp:=⟨[],hL,List.nodup_nil,(fun d h=>by cases h),hH⟩
 have hst:∃Ck,Ck=C/\∃ds,Lf (C.marks ds) Ck/\ds.Nodup/\(∀d∈ds,Ck.hp d (.deferred (some []))/\C.w0.heap.size<=d)/\H.le Ck.hp:=⟨C,rfl,hst⟩
 obtain⟨Ck,hCk,hst⟩:=hst
 clear hE1 hi hc
 suffices h:Sm Tryz.prog 83 Ck _ _ _ by rw[hCk]at h;exact h
 clear hCk
 generalize N+1=n at*
 induction n generalizing E1 Ck with
 |zero=>omega
 |succ n ih=>
 obtain⟨ds,l0,nd,hmk,hHk⟩:=hst
 refine Sm.rnd (zB 120 ?_)
 refine vv ?_
 have hcl0:=Uo E1 zA
 rw[hEl]at hcl0
 refine CallQ.ren [(1,9),(2,120)] 130 hcl0 (zD (by simp only[Nj,zZ (zh _)];rfl)) rfl rfl ⟨⟨_,rfl,oP (zh _)⟩,trivial⟩ rfl (.inl rfl) ?_
 simp only[Mem.ren,Nk,Nm,zf (zh _),V.ren,Cv.ren,rn,Nat.reduceBEq,cond_true,cond_false]
 refine vv ?_
 have hpg0:(uV p)[0]?=some (.v (vsl p.c p.code.length)):=rfl
 have hpg5:(uV p)[5]?=some (.v (vsl p.s5 p.f5.length)):=rfl
 have hbq:CallX Ck.hp Tryz.prog _ _ [] _ (fun _=>[]) _:=Ur (H:=Ck.hp) p.c p.code.length
 simp only[go_sem,hpg0]
 refine CallQ.x 140 l0 hbq (zN _) (Sub.nil _) ClM.nil (fun _=>Fresh.nil _ _) rfl rfl rfl (fun pv E0c H0 e0 k0 j0 p0=>?_)
 refine vv ?_
 obtain⟨pa,rfl⟩:=vu p0
 obtain⟨mS,mW,mQ,mL,mD⟩:=qC C ds
 have hPm:Pins (C.marks ds).S []:=by rw[mS];exact hP
 refine xZ (M0:=[]) (e0.pins hPm) [(1,true,.c (.p 1 0)),(3,true,.c (.sl 9 0 N 1)),(6,true,.c (.p 4 0)),(7,true,.c (.p 5 0)),(36,true,Fv 81 #[.pointer pa])] ((5,⟨false,[.v (.slice none 0 0)],26⟩)::QU p N E1 0 E1) [(1,1),(9,9),(2,130),(3,120),(4,131),(5,132)] ?_ ?_ ?_ ?_
 ·exact zk
 ·exact zD (by simp only[Nj,zZ (zh _)];rfl)
 ·exact zP rfl
 refine Sm.range 120 e0 (by rw[mL];exact hlp) rfl Tryz.func81 rfl RB (by simp[Tryz.ntmps81]) (fun D Dk l dB rc lD kD sD hl hdB fdB nlB nfr hrg hex hnor hPD=>?_)
 have hlpD:D.lp=none:=by obtain⟨_,_,_,_,_,h,_⟩:=hrg.ex;rw[h];rfl
 let K:Hp:=fun b o=>E0c.hp b o\/(b=dB/\o= .deferred (some []))
 have hKl:∀b o,K b o->b≠l:=fun b o h=>by
  rcases h with h|h
  ·exact(nfr b o h).1
  ·rw[h.1];exact Ne.symm nlB
 have hKD:K.le Dk.hp:=fun b o h=>by
  rcases h with h|h
  ·exact kD b o h
  ·rw[h.1,h.2];exact hdB
 refine vv ?_
 refine xN 16 1 3 [] [5] rfl (vv ?_)
 refine Sm.bringPS (rows:=(p.code.map Ins.w)) 7 8 22 42 1 ((p0.mono j0).mono kD) (((hp.c.mono hHk).mono k0).mono kD) rfl rfl xW rfl (zB 130 ?_)
 have hl10:(p.code.map Ins.w).length=p.code.length:=Ni _
 rw[hl10]
 refine vv ?_
 have w00:IntKind.i64.wrap ((p.code.length:Int)-1)=(p.code.length:Int)-1-((0:Nat):Int):=by
  rw[y8 zA zA];omega
 simp only[w00]
 have hsz0:=zS (r:=Ins.w) (k:=5) (fun _=>rfl) p.code
 have hpe:=kQ p.code E1
 refine xX (C:=D) (Ck:=Dk) (M0:=(5,⟨false,[.v (.slice none 0 0)],26⟩)::QU p N E1 0 E1) (α:={x:Nat×Int//x.1<=p.code.length/\0<=x.2/\x.2<65536/\r9 x.2=(uF p.code E1 (p.code.length-x.1)).1}) lD hPD (fun x=>[(0,true,.c (.v (.func (.yield l) #[] #[]))),(1,true,.c (.p 7 0)),(3,true,I ((p.code.length:Int)-1-(x.val.1:Int)))])
  (fun x=>(7,⟨true,[.sl 8 0 p.code.length 5],22⟩)::(8,⟨true,zC (p.code.map Ins.w),42⟩)::(16,⟨false,(uF p.code E1 (p.code.length-x.val.1)).2.2.reverse.map iC,3⟩)::(5,⟨false,[.sl 16 0 (uF p.code E1 (p.code.length-x.val.1)).2.2.reverse.length 1],26⟩)::QU p N E1 x.val.2 (uF p.code E1 (p.code.length-x.val.1)).2.1) (fun x hp=>K.le hp/\hp l (.loop (rc .ready none))) (fun x=>p.code.length-x.val.1)
  ⟨(0,0),by simp only;omega,by simp only;omega,by simp only;omega,by simp only[Nat.sub_zero];rw[hpe];rfl⟩
  ⟨hKD,hl⟩ (fun _=>zD (by simp only[Nj,iR,zZ (zh _),zZ (yD _)];rfl)) (fun _=>zP rfl) [(1,1),(2,2),(3,3),(4,4),(5,5),(7,7),(8,8),(9,9),(16,16)] ?_ ?_
 ·simp only[Nat.sub_zero]
  rw[hpe]
  exact zk
 rintro⟨⟨i,rv⟩,hi,hr0,hr1,hrv⟩ Cn J lCn ⟨iK,il⟩ hb
 simp only at hb hi hr0 hr1 hrv⊢
 refine zB 140 (vv ?_)
 by_cases hc:i<p.code.length
 ·have e0:(p.code.length:Int)-1-(i:Int)=((p.code.length-1-i:Nat):Int):=zA
  have e1:decide ((0:Int)<=((p.code.length-1-i:Nat):Int))=true:=yQ zA
  have hj:p.code.length-1-i<p.code.length:=zA
  have htk:=zX (r:=Ins.w) (k:=5) (fun _=>rfl) p.code (p.code.length-1-i) hj
  simp only[go_sem,e0,e1,htk,hsz0]
  refine⟨⟨zA,zA⟩,zA,?_⟩
  have hps:=nP p.code E1 (p.code.length-1-i) hj
  have hoki:=hok _ (Nv hj)
  have hkl:=rU p.code E1 (p.code.length-i)
  have hko:=tL (p.code.drop (p.code.length-i)) (p.code.length-i) E1
  rw[show p.code.length-1-i+1=p.code.length-i by omega]at hps
  have hnk:p.code.length-(i+1)=p.code.length-1-i:=zA
  have hol:(uF p.code E1 (p.code.length-i)).2.2.reverse.length<=4000:=by
   rw[KB];unfold uF;have:=hko.1;rw[Lv]at this;omega
  clear hko
  generalize p.code[p.code.length-1-i]=x at*
  generalize uF p.code E1 (p.code.length-i)=z at*
  obtain⟨zr,zc,zo⟩:=z
  simp only at hrv hkl hol hps⊢
  rw[<-hrv]at hps
  have hzl:zc.length=N:=by rw[hkl.2,hEl]
  have hxl:=dN x rv zc (by rw[hzl];exact hoki) hr0 hr1 zA
  have hxb:=gt x rv zc (by rw[hzl];exact hoki) hr0 hr1 zA
  rw[hzl]at hxl hxb
  refine Sm.yield (xs:=[_,_]) hrg lCn il hlpD rfl rfl rfl rfl rfl rfl (by decide+kernel) (vS rfl) (fun B Bk J2 lB sB pB kB hcont=>?_)
  refine zB 150 ?_
  simp only[go_sem,uU,List.zip_cons_cons,List.zip_nil_left,Mk]
  have hsl5:wK [Cv.v (.int .i64 0),.v (.int .i64 0),.v (.int .i64 0),.v (.int .i64 0),.v (.int .i64 0)] 0 (List.map Cv.v x.w)=XT x:=rfl
  rw[hsl5]
  refine⟨⟨rfl,rfl⟩,?_⟩
  refine hcont Bk _ _ lB (kB _ _ il) (fun B2 B2k lB2 sB2 pB2 kB2 hlb2 hcont2=>?_)
  refine zB 160 ?_
  simp only[go_sem,uU,List.zip_cons_cons,List.zip_nil_left,Mk]
  have hK2:K.le B2k.hp:=fun b o h=>kB2 b o (hKl b o h) (kB b o (iK b o h))
  have hMx:∀(q:Int) (Y:List Bool) (f:Bool),ClM [mn q N f,gp Y f]:=fun _ _ _=>zD (by simp only[Nj,zZ (zh _)];rfl)
  refine CallQ.ren [(1,2),(2,3)] 170 hxl (hMx _ _ _) rfl rfl ⟨⟨_,rfl,re⟩,⟨_,rfl,oP (zh _)⟩,trivial⟩ rfl (.inr rfl) (vv ?_)
  cases hal:iI x (r9 rv) zc with
  |false=>
   rw[hal,cond_false]at hps
   refine vv ?_
   refine hcont2 B2k _ _ lB2 hlb2 (fun Dm lDm kDm hlDm=>?_)
   refine zB 190 ?_
   have w2:IntKind.i64.wrap (((p.code.length-1-i:Nat):Int)-1)=(p.code.length:Int)-1-((i+1:Nat):Int):=by
    rw[y8 zA zA];omega
   simp only[go_sem,w2]
   refine hb _ _ Dm ⟨(i+1,rv),hc,hr0,hr1,by simp only;rw[hnk,hps]⟩ [(1,1),(2,2),(3,3),(4,4),(5,5),(7,7),(8,8),(9,9),(16,16)] lDm ⟨fun b o h=>kDm b o (hKl b o h) (hK2 b o h),hlDm⟩ yK ?_
   simp only
   rw[hnk,hps]
   exact zk
  |true=>
   rw[hal,cond_true]at hps
   refine vv ?_
   have hap:List.take zo.reverse.length (List.map iC zo.reverse)++[Cv.v (.int .i64 ((p.code.length-1-i:Nat):Int))]=((((p.code.length-1-i:Nat):Int)::zo).reverse).map iC:=by
    rw[Nw zd,List.reverse_cons,ME];rfl
   have hln:zo.reverse.length+1=((((p.code.length-1-i:Nat):Int)::zo).reverse).length:=zd
   have hbo:=Zw x hoki hr0 hr1
   refine⟨⟨zd,zA,zA⟩,?_⟩
   rw[hap]
   refine CallQ.ren [(1,2),(2,3)] 180 hxb (hMx _ _ _) rfl rfl ⟨oS,oW (zf (zh _)),trivial⟩ rfl (.inl rfl) ?_
   simp only[Mem.ren,Nk,Nm,zf (zh _),V.ren,Cv.ren,rn,Nat.reduceBEq,cond_true,cond_false]
   refine vv ?_
   refine hcont2 B2k _ _ lB2 hlb2 (fun Dm lDm kDm hlDm=>?_)
   refine zB 190 ?_
   have w2:IntKind.i64.wrap (((p.code.length-1-i:Nat):Int)-1)=(p.code.length:Int)-1-((i+1:Nat):Int):=by
    rw[y8 zA zA];omega
   simp only[go_sem,w2]
   refine hb _ _ Dm ⟨(i+1,fl x rv),hc,hbo.1.1,hbo.1.2,by simp only;rw[hnk,hps];exact hbo.2⟩ [(1,1),(2,2),(3,3),(4,4),(5,5),(7,7),(8,8),(9,9),(16,171)] lDm ⟨fun b o h=>kDm b o (hKl b o h) (hK2 b o h),hlDm⟩ yK ?_
   simp only
   rw[hnk,hps,hln]
   exact zk
 have hc:i=p.code.length:=zA
 subst hc
 rw[LU]at hrv⊢
 clear hb
 have hkl:=rU p.code E1 0
 have hko:=kP p.code E1 0
 have hkm:=(tL (p.code.drop 0) 0 E1).1
 have e10:decide ((0:Int)<=(p.code.length:Int)-1-(p.code.length:Int))=false:=yZ zA
 simp only[go_sem,e10]
 refine hnor Cn lCn _ _ _ _ (hex Cn lCn il _ _ (fun C1 l1 kk0=>?_) ⟨_,_,rfl,trivial⟩)
 have hK0:K.le C1.hp:=fun b o h=>kk0 b o (hKl b o h) (iK b o h)
 have hH1:H.le C1.hp:=fun b o h=>hK0 b o (.inl (k0 b o (hHk b o h)))
 have hm1:∀d∈dB::ds,C1.hp d (.deferred (some []))/\C.w0.heap.size<=d:=fun d hd=>by
  rcases MU.1 hd with rfl|hd
  ·exact⟨hK0 _ _ (.inr ⟨rfl,rfl⟩),by rw[<-mW];exact fdB⟩
  ·exact⟨hK0 _ _ (.inl (k0 _ _ (hmk d hd).1)),(hmk d hd).2⟩
 have hnd:(dB::ds).Nodup:=L3.2 ⟨fun hd=>(nfr _ _ (k0 _ _ (hmk dB hd).1)).2 rfl,nd⟩
 have l1:Lf (C.marks (dB::ds)) C1:=l1
 have hPm1:Pins C1.S []:=l1.pins hPm
 clear hex hnor hrg il iK hPD lCn hKD hKl hlpD
 have hAz:A=(bif lJ p.f5 E1 (uF p.code E1 0).2.1 N then mR p.code p.f5 n (uj p.f5 E1 (uF p.code E1 0).2.1 N)else(uF p.code E1 0).2.2):=by rw[hA,mR,hEl]
 have hln:(uF p.code E1 0).2.2.length<=4000:=by unfold uF;rw[M5]at hkm⊢;omega
 generalize uF p.code E1 0=z at*
 obtain⟨zr,X,zo⟩:=z
 simp only at hAz hkl hln⊢
 obtain⟨_,hXl⟩:=hkl
 rw[hEl]at hXl
 refine zB 200 (vv ?_)
 refine zL (M0:=[]) (α:={c:Nat//c<=N}) hPm1 (fun c=>[(1,true,.c (.p 1 0)),(3,true,.c (.sl 9 0 N 1)),(7,true,.c (.p 5 0)),(10,true,Bo (lJ p.f5 E1 X c.val)),(52,true,.c (.sl 3 0 N 1)),(53,true,I N),(54,true,I c.val)])
  (fun c=>[(1,⟨false,uV p,28⟩),(9,⟨false,(uj p.f5 E1 X c.val).map bC,4⟩),(3,⟨false,X.map bC,4⟩),(16,⟨false,zo.reverse.map iC,3⟩),(5,⟨false,[.sl 16 0 zo.reverse.length 1],26⟩)]) (fun c=>N-c.val) ⟨0,zA⟩ (fun _=>zD (by simp only[Nj,zZ (zh _),zZ (yD _)];rfl)) (fun _=>zP rfl) [(1,1),(9,9),(3,3),(16,16),(5,5)] ?_ ?_
 ·exact zk
 rintro⟨c,hcN⟩ J hj
 simp only at hj hcN⊢
 refine xE 8 210 (vv ?_)
 have hGl:=vk p.f5 E1 X c
 refine zY (fun hc=>?_) (fun hc=>?_)
 ·have hc:=zI hc
  have gX:(X.map bC)[c]?=some (bC (gB X c)):=by have:=xa (C:=X) (n:=(c:Int)) zA zA;rwa [Int.toNat_natCast]at this
  have gE:((uj p.f5 E1 X c).map bC)[c]?=some (bC (gB E1 c)):=by
   have:=xa (C:=uj p.f5 E1 X c) (n:=(c:Int)) zA zA
   rwa [Int.toNat_natCast,rZ _ _ _ _ _ (MP _)]at this
  have hci:=Zp p.s5 p.f5 (hp.i5.mono hH1) zA (c:Int)
  have hwi:IntKind.i64.wrap ((c:Int)+1)=((c+1:Nat):Int):=wS zA
  have hst:uj p.f5 E1 X (c+1)=bif mO p.f5 E1 X c then sB (uj p.f5 E1 X c) c true else uj p.f5 E1 X c:=rfl
  have hsc:lJ p.f5 E1 X (c+1)=bif mO p.f5 E1 X c then true else lJ p.f5 E1 X c:=rfl
  have hg1:mO p.f5 E1 X c=bif gB X c then(bif gB E1 c then false else !p.f5.contains (c:Int))else false:=rfl
  refine zB 212 ?_
  simp only[go_sem,gX,gE,hpg5]
  refine⟨⟨zA,zA⟩,fun h=>⟨h,h,zA,zA⟩,?_⟩
  have hgg:(bif (bif gB X c then !gB E1 c else false)then !p.f5.contains (c:Int)else false)=mO p.f5 E1 X c:=by rw[hg1];cases gB X c<;>cases gB E1 c<;>rfl
  refine yE 220 (xs:=[.c (.v (vsl p.s5 p.f5.length)),I c]) (fun _=>hci) (zN _) (fun h=>by rw[h];rfl) ?_
  simp only[go_sem,hgg]
  cases hg:mO p.f5 E1 X c with
  |false=>
   rw[hg,cond_false]at hst hsc
   simp only[go_sem,hwi]
   refine hj _ _ ⟨c+1,hc⟩ [(1,1),(9,9),(3,3),(16,16),(5,5)] yK ?_
   simp only
   rw[hst,hsc]
   exact zk
  |true=>
   rw[hg,cond_true]at hst hsc
   have hse:((uj p.f5 E1 X c).map bC).set c (bC true)=(uj p.f5 E1 X (c+1)).map bC:=by rw[hst];have:=xy (Z:=uj p.f5 E1 X c) (n:=(c:Int)) (b:=true);rwa [Int.toNat_natCast]at this
   simp only[go_sem,hwi,hse,Ni,hGl,hEl]
   refine⟨⟨zA,zA⟩,zA,?_⟩
   refine hj _ _ ⟨c+1,hc⟩ [(1,1),(9,9),(3,3),(16,16),(5,5)] yK ?_
   simp only
   rw[hsc]
   exact zk
 have hc:=zJ hcN hc
 subst hc
 clear hj
 cases hg:lJ p.f5 E1 X c with
 |true=>
  rw[hg,cond_true]at hAz
  have hcg:=(oD p.f5 E1 X c zA).2 hg
  refine xE 6 220 ?_
  simp only[go_sem,hg]
  refine xZ (M0:=[]) hPm1 [(1,true,.c (.p 1 0)),(3,true,.c (.sl 9 0 c 1))] [(1,⟨false,uV p,28⟩),(9,⟨false,(uj p.f5 E1 X c).map bC,4⟩)] [(1,1),(9,9)] ?_ (zD (by simp only[Nj,zZ (zh _)];rfl)) (zP rfl) ?_
  ·exact zk
  exact ih _ (by rw[vk];exact hEl) C1 ⟨dB::ds,l1,hnd,hm1,hH1⟩ zA hAz
 |false=>
  rw[hg,cond_false]at hAz
  refine zB 222 ?_
  simp only[go_sem,hg]
  refine CallQ.ren [(1,16)] 230 (Yc zo.reverse (by rw[KB];omega)) (zD (by simp only[Nj,zZ (yD _)];rfl)) rfl rfl ⟨oW (zf (yD _)),trivial⟩ rfl (.inl rfl) ?_
  simp only[Mem.ren,Nk,Nm,zf (yD _),V.ren,Cv.ren,rn,Nat.reduceBEq,cond_true,cond_false]
  simp only[go_sem,List.reverse_reverse,KB]
  have hR:=hR (dB::ds) () C1 l1 hnd hm1 trivial
  rw[hAz]at hR
  exact RetQ.ren [(1,16)] hR hPm1 rfl y6 rfl rfl trivial ⟨oV (zf (yD _)),trivial⟩ (zD (by simp only[Nt,Nu,Nj,zZ (yD _)];rfl)) (zH rfl)
end Go.Proofs.YtbnkiacicnnmkaaGreat.Fx
