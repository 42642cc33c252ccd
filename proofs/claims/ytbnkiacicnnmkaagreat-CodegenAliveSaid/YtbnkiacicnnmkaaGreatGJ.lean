/-  -/
import Derived.Test.YtbnkiacicnnmkaaGreatGI
open Go.Proofs.Tryz
open Go.Proofs.Tryz renaming prog→KI
set_option linter.unusedSimpArgs false
set_option linter.unusedVariables false
set_option maxRecDepth 100000
set_option maxHeartbeats 4000000
namespace Go.Proofs.YtbnkiacicnnmkaaGreat.Fx
open Vg Tf
theorem uQ (l:List Bool)(hl:l.length<=1000000):CallOk KI 40 [.c (.sl 1 0 l.length 1)] [(1,⟨true,l.map bC,4⟩)] (.c (.sl 2 0 l.length 1)) [(2,⟨false,l.map bC,4⟩)]:=by
 refine kN 100 func40 Re ntmps40 fun C hR hP=>?_
 refine vv ?_
 refine xN 140 1 4 [3] [] rfl (vv ?_)
 refine zL (M0:=[(1,⟨true,l.map bC,4⟩)]) (α:={i:Nat//i<=l.length}) hP (fun i=>[(0,true,.c (.sl 1 0 l.length 1)),(3,true,.c (.sl 3 0 i.val 1)),(4,true,I i.val)])
  (fun i=>[(1,⟨true,l.map bC,4⟩),(3,⟨false,(l.take i.val).map bC,4⟩)]) (fun i=>l.length-i.val) ⟨0,zA⟩ (fun _=>zD (by simp only[Nj,zZ (zh _)];rfl)) (fun _=>zP rfl) [(1,1),(3,140)] ?_ ?_
 ·exact zk
 rintro⟨i,hi⟩ J hj
 simp only at hj hi⊢
 refine xE 14 150 (vv ?_)
 refine zY (fun hc=>?_) (fun hc=>?_)
 ·have hc:=zI hc
  have hg:(l.map bC)[i]?=some (bC (l.getD i false)):=tO hc
  have hwi:IntKind.i64.wrap ((i:Int)+1)=((i+1:Nat):Int):=wS zA
  have hti:((l.take i).map bC).length=i:=by simp;omega
  have hap:List.take i ((l.take i).map bC)++[bC (l.getD i false)]=(l.take (i+1)).map bC:=by
   rw[Nw zA,MF hc,ME,Nl,No hc];rfl
  refine zB 160 ?_
  simp only[go_sem,hg,hti,hap,hwi,Int.toNat_natCast]
  exact⟨⟨zA,zA⟩,⟨zA,zA,zA⟩,hj _ _ ⟨i+1,hc⟩ [(1,1),(3,161)] yK zk⟩
 ·have hc:=zJ hi hc
  subst hc
  rw[MS]
  refine zB 160 (vv ?_)
  exact RetQ.ren [(1,1),(2,3)] hR hP rfl ⟨rfl,trivial⟩ rfl rfl ⟨⟨rfl,rfl⟩,trivial⟩ ⟨oV (zf (zh _)),oV (zf (zh _)),trivial⟩ (zD (by simp only[Nt,Nu,Nj,zZ (zh _)];rfl)) (zH rfl)
theorem ek (op:Int)(h:1<=op/\op<=22):CallOk KI 93 [I op] [] (.tup [.c (.v (.bool (uB op))),.c (.v (.bool (uC op)))]) []:=by
 have hf:=nO op
 refine kN 100 func93 Sp ntmps93 fun C hR hP=>?_
 refine vv ?_
 refine CallQ.pure 110 hf rfl ?_
 have hs:op=1\/op=2\/op=3\/op=4\/op=5\/op=6\/op=7\/op=8\/op=9\/op=10\/op=11\/op=12\/op=13\/op=14\/op=15\/op=16\/op=17\/op=18\/op=19\/op=20\/op=21\/op=22:=zA
 obtain⟨A,hA⟩:∃A,A=uB op:=⟨_,rfl⟩
 obtain⟨B,hB⟩:∃B,B=uC op:=⟨_,rfl⟩
 obtain⟨F,hF⟩:∃F,F=ya op:=⟨_,rfl⟩
 have hF4:F=[65,75]\/F=[65,66]\/F=[65,66,75]\/F=[65,66,67]\/F=[65,66,67,75]:=by
  rw[hF];rcases hs with rfl|rfl|rfl|rfl|rfl|rfl|rfl|rfl|rfl|rfl|rfl|rfl|rfl|rfl|rfl|rfl|rfl|rfl|rfl|rfl|rfl|rfl<;>simp[ya]
 have hAF:A=F.contains 66:=by
  rw[hA,hF];rcases hs with rfl|rfl|rfl|rfl|rfl|rfl|rfl|rfl|rfl|rfl|rfl|rfl|rfl|rfl|rfl|rfl|rfl|rfl|rfl|rfl|rfl|rfl<;>rfl
 have hBF:B=F.contains 67:=by
  rw[hB,hF];rcases hs with rfl|rfl|rfl|rfl|rfl|rfl|rfl|rfl|rfl|rfl|rfl|rfl|rfl|rfl|rfl|rfl|rfl|rfl|rfl|rfl|rfl|rfl<;>rfl
 rw[<-hA,<-hB]at hR
 rw[<-hF]
 clear hs hA hB hF hf h
 rcases hF4 with rfl|rfl|rfl|rfl|rfl
 all_goals
  refine vv ?_
  refine zi 5 (zB 140 ?_)
  refine vv ?_
  exact zU hR rfl y6 (by rw[hAF,hBF];rfl) (Sub.nil _) ClM.nil (zH rfl)
@[reducible] def bB (n:Nat)(l:List Bool):Nat×Bk:=(n,⟨false,l.map bC,4⟩)
@[reducible] def eM (n:Nat)(l:List Bool):Nat×Bk:=(n,⟨true,l.map bC,4⟩)
theorem jb (i:Ins)(R Z:List Bool)(hi:InOk i Z.length)(hR16:R.length=16)(hZ:Z.length<=1000)(hal:iI i R Z=false):
  CallOk KI 41 [ze i.w,.agg [.sl 1 0 16 1,.sl 2 0 Z.length 1]] [eM 1 R,eM 2 Z] (.tup [W.agg [.sl 1 0 16 1,.sl 2 0 Z.length 1],.c (.v (.bool false))]) []:=by
 have hM:ClM [eM 1 R,eM 2 Z]:=zD (by simp only[Nj,zZ (zh _)];rfl)
 have hcR:=uQ R zA
 have hcZ:=uQ Z zA
 rw[hR16]at hcR
 have hlR:(R.map bC).length=16:=by rw[Ni,hR16]
 have hlZ:(Z.map bC).length=Z.length:=Ni _
 have hk2:=hi.k23
 have hk19:=hi.k19
 have hk22:=hi.k22
 have ha:=hi.a
 have hb:=hi.b
 have hc:=hi.c
 have hop:=hi.op
 have gR:=xa (C:=R) ha.1 zA
 unfold iI at hal
 rw[xl]
 obtain⟨op,a,b,c,k⟩:=i
 simp only at*
 have hcl1:∀l:List Bool,ClM [(1,(⟨true,l.map bC,4⟩:Bk))]:=fun l=>zD (by simp only[Nj,zZ (zh _)];rfl)
 refine kN 100 func41 Xi ntmps41 fun C hR hP=>?_
 by_cases h3:op=3
 ·subst h3
  obtain⟨k0,k1⟩:=hk2 (.inr rfl)
  have gZ:=xa (C:=Z) k0 k1
  rw[show gB Z k=false from hal]at gZ
  refine vv ?_
  refine Sm.dg 110 8 zw (vv ?_)
  refine DCallQ.ren [(1,1),(2,120)] 130 hcR (hcl1 R) rfl rfl ⟨oW (zf (zh _)),trivial⟩ rfl (.inl rfl) rfl rfl ?_
  simp only[Mem.ren,Nk,Nm,zf (zh _),V.ren,Cv.ren,rn,Nat.reduceBEq,cond_true,cond_false]
  refine vv ?_
  refine DCallQ.ren [(1,2),(2,121)] 140 hcZ (hcl1 Z) rfl rfl ⟨oW (zf (zh _)),trivial⟩ rfl (.inl rfl) rfl rfl ?_
  simp only[Mem.ren,Nk,Nm,zf (zh _),V.ren,Cv.ren,rn,Nat.reduceBEq,cond_true,cond_false]
  simp only[go_sem,gZ,hlZ]
  exact⟨⟨k0,k1⟩,yM hR hM⟩
 have e3:(op==3)=false:=by simpa using h3
 rw[e3,cond_false]at hal
 by_cases h22:op=22
 ·subst h22
  obtain⟨k0,k1⟩:=hk22 rfl
  have gZ:=xa (C:=Z) (n:=k/32) zA zA
  have gZ1:=xa (C:=Z) (n:=k/32+1) zA zA
  simp only[Int.reduceBEq,cond_true,Mg,LP]at hal
  rw[hal.1]at gR
  rw[hal.2.1]at gZ
  rw[hal.2.2]at gZ1
  have w1:IntKind.i64.wrap (k.tdiv 32)=k/32:=by rw[Mj k0];exact y8 zA zA
  have w2:IntKind.i64.wrap (k/32+1)=k/32+1:=y8 zA zA
  refine vv ?_
  refine Sm.dg 110 8 zw (vv ?_)
  refine DCallQ.ren [(1,1),(2,120)] 130 hcR (hcl1 R) rfl rfl ⟨oW (zf (zh _)),trivial⟩ rfl (.inl rfl) rfl rfl ?_
  simp only[Mem.ren,Nk,Nm,zf (zh _),V.ren,Cv.ren,rn,Nat.reduceBEq,cond_true,cond_false]
  refine vv ?_
  refine DCallQ.ren [(1,2),(2,121)] 140 hcZ (hcl1 Z) rfl rfl ⟨oW (zf (zh _)),trivial⟩ rfl (.inl rfl) rfl rfl ?_
  simp only[Mem.ren,Nk,Nm,zf (zh _),V.ren,Cv.ren,rn,Nat.reduceBEq,cond_true,cond_false]
  simp only[go_sem,gR,gZ,gZ1,hlZ,hlR,w1,w2,e3]
  exact⟨ha,⟨zA,zA⟩,⟨zA,zA⟩,yM hR hM⟩
 have e22:(op==22)=false:=by simpa using h22
 rw[e22,cond_false]at hal
 have h8:(op==8)=false:=by
  cases h:op==8 with
  |false=>rfl
  |true=>rw[h]at hal;cases hal
 rw[h8,cond_false]at hal
 rw[hal]at gR
 refine vv ?_
 refine Sm.dg 110 8 zw (vv ?_)
 refine DCallQ.ren [(1,1),(2,120)] 130 hcR (hcl1 R) rfl rfl ⟨oW (zf (zh _)),trivial⟩ rfl (.inl rfl) rfl rfl ?_
 simp only[Mem.ren,Nk,Nm,zf (zh _),V.ren,Cv.ren,rn,Nat.reduceBEq,cond_true,cond_false]
 refine vv ?_
 refine DCallQ.ren [(1,2),(2,121)] 140 hcZ (hcl1 Z) rfl rfl ⟨oW (zf (zh _)),trivial⟩ rfl (.inl rfl) rfl rfl ?_
 simp only[Mem.ren,Nk,Nm,zf (zh _),V.ren,Cv.ren,rn,Nat.reduceBEq,cond_true,cond_false]
 have h8':(op !=8)=true:=by rw[bne,h8];rfl
 simp only[go_sem,gR,e3,e22,h8',hlR]
 exact⟨ha,yM hR hM⟩
theorem ja (i:Ins)(R Z:List Bool)(hi:InOk i Z.length)(hR16:R.length=16)(hZ:Z.length<=1000)(hal:iI i R Z=true):
  CallOk KI 41 [ze i.w,.agg [.sl 1 0 16 1,.sl 2 0 Z.length 1]] [eM 1 R,eM 2 Z] (.tup [W.agg [.sl 3 0 16 1,.sl 4 0 Z.length 1],.c (.v (.bool true))]) [bB 3 (eK i R),bB 4 (o6 i Z)]:=by
 have hM:ClM [eM 1 R,eM 2 Z]:=zD (by simp only[Nj,zZ (zh _)];rfl)
 have hcR:=uQ R zA
 have hcZ:=uQ Z zA
 rw[hR16]at hcR
 have hlR:(R.map bC).length=16:=by rw[Ni,hR16]
 have hlZ:(Z.map bC).length=Z.length:=Ni _
 have hk2:=hi.k23
 have hk19:=hi.k19
 have hk22:=hi.k22
 have ha:=hi.a
 have hb:=hi.b
 have hc:=hi.c
 have hop:=hi.op
 have gR:=xa (C:=R) ha.1 zA
 unfold iI at hal
 rw[xl]
 obtain⟨op,a,b,c,k⟩:=i
 simp only at*
 have hcl1:∀l:List Bool,ClM [(1,(⟨true,l.map bC,4⟩:Bk))]:=fun l=>zD (by simp only[Nj,zZ (zh _)];rfl)
 refine kN 100 func41 Xi ntmps41 fun C hR hP=>?_
 by_cases h3:op=3
 ·subst h3
  obtain⟨k0,k1⟩:=hk2 (.inr rfl)
  have gZ:=xa (C:=Z) k0 k1
  rw[show gB Z k=true from hal]at gZ
  refine vv ?_
  refine Sm.dg 110 8 zw (vv ?_)
  refine DCallQ.ren [(1,1),(2,120)] 130 hcR (hcl1 R) rfl rfl ⟨oW (zf (zh _)),trivial⟩ rfl (.inl rfl) rfl rfl ?_
  simp only[Mem.ren,Nk,Nm,zf (zh _),V.ren,Cv.ren,rn,Nat.reduceBEq,cond_true,cond_false]
  refine vv ?_
  refine DCallQ.ren [(1,2),(2,121)] 140 hcZ (hcl1 Z) rfl rfl ⟨oW (zf (zh _)),trivial⟩ rfl (.inl rfl) rfl rfl ?_
  simp only[Mem.ren,Nk,Nm,zf (zh _),V.ren,Cv.ren,rn,Nat.reduceBEq,cond_true,cond_false]
  simp only[go_sem,gZ,hlZ,hlR,xy]
  have hbR:eK ⟨3,a,b,c,k⟩ R=sB R a true:=rfl
  have hbZ:o6 ⟨3,a,b,c,k⟩ Z=sB Z k false:=rfl
  rw[hbR,hbZ]at hR
  exact⟨⟨k0,k1⟩,⟨k0,k1⟩,zA,ha,zA,RetQ.ren [(1,1),(2,2),(3,120),(4,121)] hR hP rfl (vv trivial) oQ rfl ⟨⟨rfl,rfl⟩,⟨rfl,rfl⟩,trivial⟩ ⟨oV (zf (zh _)),oV (zf (zh _)),oV (zf (zh _)),oV (zf (zh _)),trivial⟩ (zD (by simp only[Nt,Nu,Nj,zZ (zh _)];rfl)) (zH rfl)⟩
 have e3:(op==3)=false:=by simpa using h3
 rw[e3,cond_false]at hal
 by_cases h22:op=22
 ·subst h22
  obtain⟨k0,k1⟩:=hk22 rfl
  have gZ:=xa (C:=Z) (n:=k/32) zA zA
  have gZ1:=xa (C:=Z) (n:=k/32+1) zA zA
  have w1:IntKind.i64.wrap (k.tdiv 32)=k/32:=by rw[Mj k0];exact y8 zA zA
  have w2:IntKind.i64.wrap (k/32+1)=k/32+1:=y8 zA zA
  refine vv ?_
  refine Sm.dg 110 8 zw (vv ?_)
  refine DCallQ.ren [(1,1),(2,120)] 130 hcR (hcl1 R) rfl rfl ⟨oW (zf (zh _)),trivial⟩ rfl (.inl rfl) rfl rfl ?_
  simp only[Mem.ren,Nk,Nm,zf (zh _),V.ren,Cv.ren,rn,Nat.reduceBEq,cond_true,cond_false]
  refine vv ?_
  refine DCallQ.ren [(1,2),(2,121)] 140 hcZ (hcl1 Z) rfl rfl ⟨oW (zf (zh _)),trivial⟩ rfl (.inl rfl) rfl rfl ?_
  simp only[Mem.ren,Nk,Nm,zf (zh _),V.ren,Cv.ren,rn,Nat.reduceBEq,cond_true,cond_false]
  have hG:(bif bif !gB R a then !gB Z (k/32)else false then !gB Z (k/32+1)else false)=false:=by
   simp only[Int.reduceBEq,cond_true]at hal
   revert hal
   cases gB R a<;>cases gB Z (k/32)<;>cases gB Z (k/32+1)<;>simp
  simp only[go_sem,gR,gZ,gZ1,hlZ,hlR,w1,w2,e3,xy,hG]
  refine⟨ha,fun h=>⟨h,h,zA,zA⟩,fun h=>⟨h,h,zA,zA⟩,ha,zA,?_⟩
  have hlR2:((sB R a false).map bC).length=16:=by rw[Ni,wO,hR16]
  refine Sm.dgW [120,121] 150 15 zw ?_
  simp only[go_sem,hlR,hlZ,xy,wO,hR16,Ni,w2]
  have hbR:eK ⟨22,a,b,c,k⟩ R=sB (sB R a false) b true:=rfl
  have hbZ:o6 ⟨22,a,b,c,k⟩ Z=sB (sB Z (k/32) true) (k/32+1) true:=rfl
  rw[hbR,hbZ]at hR
  exact⟨hb,zA,⟨zA,zA⟩,zA,⟨zA,zA⟩,zA,RetQ.ren [(1,1),(2,2),(3,120),(4,121)] hR hP rfl (vv trivial) oQ rfl ⟨⟨rfl,rfl⟩,⟨rfl,rfl⟩,trivial⟩ ⟨oV (zf (zh _)),oV (zf (zh _)),oV (zf (zh _)),oV (zf (zh _)),trivial⟩ (zD (by simp only[Nt,Nu,Nj,zZ (zh _)];rfl)) (zH rfl)⟩
 have e22:(op==22)=false:=by simpa using h22
 rw[e22,cond_false]at hal
 have h8:gB R a=false->(op !=8)=false:=fun h=>by
  rw[h]at hal
  revert hal
  rw[bne]
  cases op==8<;>simp
 have hN:(bif !gB R a then op !=8 else false)=false:=by
  cases h:gB R a with
  |true=>rfl
  |false=>exact h8 h
 have hrd:=ek op hop
 have hbR:eK ⟨op,a,b,c,k⟩ R=(fun R3=>bif op==19 then sB R3 k true else R3) ((fun R2=>bif uC op then sB R2 c true else R2) ((fun R1=>bif uB op then sB R1 b true else R1) (sB R a false))):=by unfold eK;rw[show((⟨op,a,b,c,k⟩:Ins).op==3)=false from e3];rfl
 have hbZ:o6 ⟨op,a,b,c,k⟩ Z=bif op==2 then sB Z k true else Z:=by unfold o6;rw[show((⟨op,a,b,c,k⟩:Ins).op==3)=false from e3,show((⟨op,a,b,c,k⟩:Ins).op==22)=false from e22];cases op==2<;>rfl
 rw[hbR,hbZ]at hR
 have hk2':(op==2)=true->0<=k/\k<Z.length:=fun h=>hk2 (.inl (by simpa using h))
 have hk19':(op==19)=true->0<=k/\k<16:=fun h=>hk19 (by simpa using h)
 have hu:(uB op=false/\uC op=false/\(op==19)=false/\(op==2)=false)\/(uB op=false/\uC op=false/\(op==19)=false/\(op==2)=true)\/(uB op=true/\uC op=false/\(op==19)=false/\(op==2)=false)\/(uB op=true/\uC op=true/\(op==19)=false/\(op==2)=false)\/(uB op=true/\uC op=true/\(op==19)=true/\(op==2)=false):=by
  have hs:op=1\/op=2\/op=4\/op=5\/op=6\/op=7\/op=8\/op=9\/op=10\/op=11\/op=12\/op=13\/op=14\/op=15\/op=16\/op=17\/op=18\/op=19\/op=20\/op=21:=zA
  rcases hs with rfl|rfl|rfl|rfl|rfl|rfl|rfl|rfl|rfl|rfl|rfl|rfl|rfl|rfl|rfl|rfl|rfl|rfl|rfl|rfl<;>decide
 have PA:∀(l:List Bool) n x,((sB l n x).map bC).length=(l.map bC).length:=fun l n x=>by rw[Ni,wO,Ni]
 refine vv ?_
 refine Sm.dg 110 8 zw (vv ?_)
 refine DCallQ.ren [(1,1),(2,120)] 130 hcR (hcl1 R) rfl rfl ⟨oW (zf (zh _)),trivial⟩ rfl (.inl rfl) rfl rfl ?_
 simp only[Mem.ren,Nk,Nm,zf (zh _),V.ren,Cv.ren,rn,Nat.reduceBEq,cond_true,cond_false]
 refine vv ?_
 refine DCallQ.ren [(1,2),(2,121)] 140 hcZ (hcl1 Z) rfl rfl ⟨oW (zf (zh _)),trivial⟩ rfl (.inl rfl) rfl rfl ?_
 simp only[Mem.ren,Nk,Nm,zf (zh _),V.ren,Cv.ren,rn,Nat.reduceBEq,cond_true,cond_false]
 simp only[go_sem,gR,e3,e22,hN,hlR,xy]
 refine⟨ha,ha,zA,?_⟩
 refine CallQ.pure 150 hrd rfl ?_
 rcases hu with⟨u1,u2,u3,u4⟩|⟨u1,u2,u3,u4⟩|⟨u1,u2,u3,u4⟩|⟨u1,u2,u3,u4⟩|⟨u1,u2,u3,u4⟩
 all_goals
  rw[u1,u2,u3,u4]at hR
  simp only[go_sem,u1,u2,u3,u4,hlR,hlZ,PA,xy]
 ·exact RetQ.ren [(1,1),(2,2),(3,120),(4,121)] hR hP rfl (vv trivial) oQ rfl ⟨⟨rfl,rfl⟩,⟨rfl,rfl⟩,trivial⟩ ⟨oV (zf (zh _)),oV (zf (zh _)),oV (zf (zh _)),oV (zf (zh _)),trivial⟩ (zD (by simp only[Nt,Nu,Nj,zZ (zh _)];rfl)) (zH rfl)
 ·have hk:=hk2' u4
  exact⟨hk,zA,RetQ.ren [(1,1),(2,2),(3,120),(4,121)] hR hP rfl (vv trivial) oQ rfl ⟨⟨rfl,rfl⟩,⟨rfl,rfl⟩,trivial⟩ ⟨oV (zf (zh _)),oV (zf (zh _)),oV (zf (zh _)),oV (zf (zh _)),trivial⟩ (zD (by simp only[Nt,Nu,Nj,zZ (zh _)];rfl)) (zH rfl)⟩
 ·exact⟨hb,zA,RetQ.ren [(1,1),(2,2),(3,120),(4,121)] hR hP rfl (vv trivial) oQ rfl ⟨⟨rfl,rfl⟩,⟨rfl,rfl⟩,trivial⟩ ⟨oV (zf (zh _)),oV (zf (zh _)),oV (zf (zh _)),oV (zf (zh _)),trivial⟩ (zD (by simp only[Nt,Nu,Nj,zZ (zh _)];rfl)) (zH rfl)⟩
 ·exact⟨hb,zA,hc,zA,RetQ.ren [(1,1),(2,2),(3,120),(4,121)] hR hP rfl (vv trivial) oQ rfl ⟨⟨rfl,rfl⟩,⟨rfl,rfl⟩,trivial⟩ ⟨oV (zf (zh _)),oV (zf (zh _)),oV (zf (zh _)),oV (zf (zh _)),trivial⟩ (zD (by simp only[Nt,Nu,Nj,zZ (zh _)];rfl)) (zH rfl)⟩
 ·have hk:=hk19' u3
  exact⟨hb,zA,hc,zA,hk,zA,RetQ.ren [(1,1),(2,2),(3,120),(4,121)] hR hP rfl (vv trivial) oQ rfl ⟨⟨rfl,rfl⟩,⟨rfl,rfl⟩,trivial⟩ ⟨oV (zf (zh _)),oV (zf (zh _)),oV (zf (zh _)),oV (zf (zh _)),trivial⟩ (zD (by simp only[Nt,Nu,Nj,zZ (zh _)];rfl)) (zH rfl)⟩
def ZV (x:Int):List Int->Int->Int
 |[],_=> -1
 |y::t,j=>bif x==y then j else ZV x t (j+1)
theorem kp (x:Int):∀(l:List Int) (j:Int),0<=j->decide (0<=ZV x l j)=l.contains x
 |[],j,_=>rfl
 |y::t,j,h=>by
  unfold ZV
  rw[MV]
  cases x==y with
  |true=>rw[cond_true,Bool.true_or];exact decide_eq_true h
  |false=>rw[cond_false,Ll];exact kp x t (j+1) zA
theorem XU {H:Hp}(s:Sv)(l:List Int)(hs:SlH H (vsl s l.length) 1 (zT l))(hl:l.length<=1000000)(x:Int):CallH H KI 83 [.c (.v (vsl s l.length)),I x] (I (ZV x l 0)):=by
 obtain⟨R,hRd⟩:∃R,R=ZV x l 0:=⟨_,rfl⟩
 rw[<-hRd]
 refine kH func83 RA ntmps83 fun C hR hP hH hL=>?_
 have hR:=hR C hL
 refine Sm.bringI (l:=l) 10 3 0 (hs.mono hH) rfl rfl (zB 100 ?_)
 refine vv ?_
 refine zL (M0:=[]) (α:={i:Nat//i<=l.length/\R=ZV x (l.drop i) i}) hP (fun i=>[(0,true,.c (.sl 10 0 l.length 1)),(1,true,I x),(7,true,I l.length),(8,true,I i.val)])
  (fun _=>[(10,⟨true,l.map iC,3⟩)]) (fun i=>l.length-i.val) ⟨0,zA,hRd⟩ (fun _=>zD (by simp only[Nj,zZ (yD _)];rfl)) (fun _=>zP rfl) [(10,10)] ?_ ?_
 ·exact zk
 rintro⟨i,hi,hd⟩ J hj
 simp only at hj hi hd⊢
 refine zB 120 (vv ?_)
 refine zY (fun hc=>?_) (fun hc=>?_)
 ·have hc:=zI hc
  have hov:(l.map iC)[i]?=some (iC l[i]):=by simp[hc]
  have hwi:IntKind.i64.wrap ((i:Int)+1)=((i+1:Nat):Int):=wS zA
  rw[Np hc,ZV]at hd
  generalize l[i]=z at*
  simp only[go_sem,hov,hwi,Int.toNat_natCast]
  refine⟨⟨zA,zA⟩,?_⟩
  refine zY (fun hz=>?_) (fun hz=>?_)
  ·exact zU hR rfl y6 (by rw[hd,hz];rfl) (Sub.nil _) ClM.nil (zH rfl)
  ·exact hj _ _ ⟨i+1,hc,by rw[hd,hz];rfl⟩ [(10,10)] yK zk
 ·have hc:=zJ hi hc
  subst hc
  exact zU hR rfl y6 (by rw[hd,Ny];rfl) (Sub.nil _) ClM.nil (zH rfl)
theorem Zp {H:Hp}(s:Sv)(l:List Int)(hs:SlH H (vsl s l.length) 1 (zT l))(hl:l.length<=1000000)(x:Int):CallH H KI 32 [.c (.v (vsl s l.length)),I x] (Bo (l.contains x)):=by
 refine kH func32 Rm ntmps32 fun C hR hP hH hL=>?_
 have hR:=hR C hL
 refine zB 100 (vv ?_)
 refine zO 120 (XU s l hs hl x) hH rfl (vv ?_)
 exact zU hR rfl y6 (by rw[<-kp x l 0 zA];rfl) (Sub.nil _) ClM.nil (zH rfl)
theorem Uo (l:List Bool)(hl:l.length<=1000000):CallOk KI 28 [.c (.sl 1 0 l.length 1)] [(1,⟨true,l.map bC,4⟩)] (.c (.sl 2 0 l.length 1)) [(2,⟨false,l.map bC,4⟩)]:=by
 have htk:List.take l.length (List.map bC l)=List.map bC l:=Nw zd
 have hon:(l.map bC).all Cv.one=true:=Nr.2 fun c hc=>by obtain⟨n,_,rfl⟩:=Nz.1 hc;rfl
 refine kN 100 func28 Rq ntmps28 fun C hR hP=>?_
 refine vv ?_
 refine xY rfl rfl rfl rfl rfl rfl (fun h0=>?_) ?_
 ·have h0:l=[]:=MN.1 h0
  subst h0
  refine zB 100 (vv ?_)
  refine ym 110 1 4 [2] [] rfl (vv ?_)
  exact RetQ.ren [(1,1),(2,110)] hR hP rfl ⟨rfl,trivial⟩ rfl rfl ⟨⟨rfl,rfl⟩,trivial⟩ ⟨oR,oR,trivial⟩ (zD rfl) (zH rfl)
 ·refine zB 100 ?_
  simp only[go_sem,htk]
  exact⟨⟨⟨zd,hon⟩,zA,zA⟩,RetQ.ren [(1,1),(2,101)] hR hP rfl ⟨rfl,trivial⟩ rfl rfl ⟨⟨rfl,rfl⟩,trivial⟩ ⟨oV (zf (zh _)),oV (zf (zh _)),trivial⟩ (zD (by simp only[Nt,Nu,Nj,zZ (zh _)];rfl)) (zH rfl)⟩
theorem Ur {H:Hp}(s:Sv)(n:Nat):CallX H KI 29 [.c (.v (vsl s n))] [] (fun pv:Value=>Fv 81 #[pv]) (fun _=>[]) (fun pv H'=>PtH H' pv [vsl s n]):=by
 refine kX func29 Rp ntmps29 fun C hR hP hH hL=>?_
 refine zB 100 (vv ?_)
 refine RetQ.letgo [100] hL hP rfl rfl (fun β Cn l1 l2 l3=>?_)
 have hpt:=(l3 100 _ rfl rfl rfl).pt zd
 exact yM (hR (xh β 100 0) Cn l1 hpt) ClM.nil
def rR (l:List Int):Nat->List Int
 |0=>l
 |k+1=>((rR l k).set k ((rR l k).getD (l.length-1-k) 0)).set (l.length-1-k) ((rR l k).getD k 0)
theorem tW (l:List Int):∀k,(rR l k).length=l.length
 |0=>rfl
 |k+1=>by simp[rR,tW l k]
theorem lm (l:List Int):∀k,k+k<=l.length->∀m,m<l.length->(rR l k).getD m 0=bif decide (m<k\/l.length<=m+k)then l.getD (l.length-1-m) 0 else l.getD m 0
 |0,_,m,hm=>by
  rw[show decide (m<0\/l.length<=m+0)=false from decide_eq_false zA];rfl
 |k+1,h,m,hm=>by
  have ih:=lm l k zA
  have hl:=tW l k
  rw[rR,Nl,LI,LI]
  by_cases h1:l.length-1-k=m
  ·rw[if_pos h1,if_pos (by rw[MX,hl];omega),Option.getD_some,ih k zA,show decide (k<k\/l.length<=k+k)=false from decide_eq_false zA,show decide (m<k+1\/l.length<=m+(k+1))=true from decide_eq_true zA]
   rw[cond_false,cond_true,show l.length-1-m=k by omega]
  ·rw[if_neg h1]
   by_cases h2:k=m
   ·rw[if_pos h2,if_pos (by rw[hl];omega),Option.getD_some,ih _ zA,show decide (l.length-1-k<k\/l.length<=l.length-1-k+k)=false from decide_eq_false zA,show decide (m<k+1\/l.length<=m+(k+1))=true from decide_eq_true zA]
    rw[cond_false,cond_true,h2]
   ·rw[if_neg h2,<-Nl,ih m hm]
    congr 1
    rw[MD,decide_eq_true_eq,decide_eq_true_eq]
    omega
theorem ea (l:List Int){k:Nat}(h:k+k<=l.length)(h2:l.length<=k+k+1):rR l k=l.reverse:=by
 refine List.ext_getElem (by rw[tW,KB]) fun m h1 h3=>?_
 have hm:m<l.length:=by rw[tW]at h1;exact h1
 have:=lm l k h m hm
 rw[Nl,No h1,Option.getD_some]at this
 rw[this,List.getElem_reverse]
 by_cases hd:m<k\/l.length<=m+k
 ·rw[show decide (m<k\/l.length<=m+k)=true from decide_eq_true hd,cond_true,Nl,No zA,Option.getD_some]
 ·rw[show decide (m<k\/l.length<=m+k)=false from decide_eq_false hd,cond_false,Nl,No zA,Option.getD_some]
  congr 1
  omega
theorem Yc (l:List Int)(hl:l.length<=1000000):CallOk KI 33 [.c (.sl 1 0 l.length 1)] [(1,⟨false,l.map iC,3⟩)] (.tup []) [(1,⟨false,l.reverse.map iC,3⟩)]:=by
 refine kN 100 func33 Rl ntmps33 fun C hR hP=>?_
 refine vv ?_
 have w0:IntKind.i64.wrap ((l.length:Int)-1)=(l.length:Int)-1-((0:Nat):Int):=by rw[y8 zA zA];omega
 rw[w0]
 refine zL (M0:=[(1,⟨false,l.map iC,3⟩)]) (α:={k:Nat//k=0\/k+k<=l.length}) hP (fun k=>[(0,true,.c (.sl 1 0 l.length 1)),(2,true,I k.val),(3,true,I ((l.length:Int)-1-(k.val:Int)))])
  (fun k=>[(1,⟨false,(rR l k.val).map iC,3⟩)]) (fun k=>l.length-k.val) ⟨0,.inl rfl⟩ (fun _=>zD (by simp only[Nj,zZ (yD _)];rfl)) (fun _=>zP rfl) [(1,1)] ?_ ?_
 ·exact zk
 rintro⟨k,hk⟩ J hj
 simp only at hj hk⊢
 refine zB 120 (vv ?_)
 have hsl:=tW l k
 have hml:((rR l k).map iC).length=l.length:=by rw[Ni,hsl]
 refine zY (fun hc=>?_) (fun hc=>?_)
 ·have hc:=of_decide_eq_true hc
  have e0:(l.length:Int)-1-(k:Int)=((l.length-1-k:Nat):Int):=zA
  have g1:((rR l k).map iC)[k]?=some (iC ((rR l k).getD k 0)):=by rw[MC,No zA,Nl,No zA];rfl
  have g2:((rR l k).map iC)[l.length-1-k]?=some (iC ((rR l k).getD (l.length-1-k) 0)):=by rw[MC,No zA,Nl,No zA];rfl
  have hs:(((rR l k).map iC).set k (iC ((rR l k).getD (l.length-1-k) 0))).set (l.length-1-k) (iC ((rR l k).getD k 0))=(rR l (k+1)).map iC:=by rw[rR,<-Mv,<-Mv]
  rw[e0]
  refine Sm.dgW [1] 130 14 zw ?_
  simp only[go_sem,hml,Int.toNat_natCast]
  refine⟨⟨zA,zA⟩,?_⟩
  refine DOpQ.look (nx':=130) (sc:=True) (v:=V.c (iC ((rR l k).getD (l.length-1-k) 0))) [(1,⟨false,(rR l k).map iC,3⟩)] 130 (by simp only[go_sem,g2]<;>rfl) trivial ⟨rfl,trivial⟩ rfl ?_
  simp only[go_sem,hml,Int.toNat_natCast]
  refine⟨⟨zA,zA⟩,?_⟩
  refine DOpQ.look (nx':=130) (sc:=True) (v:=V.c (iC ((rR l k).getD k 0))) [(1,⟨false,(rR l k).map iC,3⟩)] 130 (by simp only[go_sem,g1]<;>rfl) trivial ⟨rfl,trivial⟩ rfl ?_
  have w1:IntKind.i64.wrap (((l.length-1-k:Nat):Int)-1)=(l.length:Int)-1-((k+1:Nat):Int):=by rw[y8 zA zA];omega
  simp only[go_sem,hml,Int.toNat_natCast,MX,hs,w1,yt (i:=k)]
  exact⟨⟨zA,zA⟩,zA,⟨zA,zA⟩,zA,hj _ _ ⟨k+1,.inr zA⟩ [(1,1)] yK zk⟩
 ·have hc:=of_decide_eq_false hc
  have hr:rR l k=l.reverse:=ea l zA zA
  rw[hr]
  exact vF hR (zU hR rfl trivial rfl (uL (SubS.sub ⟨oS,trivial⟩)) (u6 (zD (by simp only[Nj,zZ (yD _)];rfl))) (zH rfl))
end Go.Proofs.YtbnkiacicnnmkaaGreat.Fx
