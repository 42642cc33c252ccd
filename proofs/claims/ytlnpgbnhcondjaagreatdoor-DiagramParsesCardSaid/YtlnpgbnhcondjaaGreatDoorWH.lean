/-  -/
import Derived.Test.YtlnpgbnhcondjaaGreatDoorTf
import Derived.Test.YtlnpgbnhcondjaaGreatDoorWE
namespace Go.Proofs.YtlnpgbnhcondjaaGreatDoor.Fx
open Vg Tf
set_option linter.unusedSimpArgs false
set_option linter.unusedVariables false
set_option maxRecDepth 100000
set_option maxHeartbeats 4000000
theorem rPrs_lt {U:List Tk}(V:VT U):∀(f:Nat) (xs ys:List Int) (p:Ps),p.at_<U.length→(rPrs U f xs ys p).2.at_<U.length
 |0,_,_,_,h=>h
 |f+1,xs,ys,p,h=>by
  have h1:=rNum_lt V h
  have h2:=rNum_lt V h1
  rw[rPrs]
  unfold rbd
  dsimp only
  cases hi:rIs U 3 [44] (rNum U (rNum U p).2).2 with
  |true=>exact rPrs_lt V f _ _ _ (rIs_lt V (by decide) h2 hi)
  |false=>exact h2
theorem rNum_le {U:List Tk}(p:Ps):p.at_≤(rNum U p).2.at_:=by
 unfold rNum
 cases p.e==0&&(hereP U p).k==2 with
 |true=>exact Nat.le_succ _
 |false=>exact Nat.le_of_eq (wrn_at _).symm
theorem rcurved_ {H:Hp}(U:List Tk)(V:VT U)(hS:StU U)(p:Ps)(h:p.at_<U.length):
  CallX H Tryz.prog 179 [.c (.p 1 0)] (rM U p) (fun x:CuL=>rowV x.r) (fun _=>[(1,⟨false,rsC U (rCur U p).2,124⟩)]) (fun x H'=>x.c=(rCur U p).1∧x.ok H'):=by
 have hn:=V.n
 have hU:U.length≤100000:=by omega
 refine CallX.mkS Tryz.func179 rfl en179 (by simp[Tryz.ntmps179]) (ClA.of rfl) (fun _=>rfl) (fun _=>rfl) fun C hR hP hH hL=>?_
 refine Sm.go 100 ?_
 refine vv ?_
 generalize hX:rCur U p=X at*
 unfold rCur rbd rCls at hX
 have h1:=rNam_lt V h
 have c1:=rname_ U hU p h (hS.h p) h1
 generalize rNam U p=y1 at*
 have h2:=rTak_lt V (k:=3) (s:=[61]) (by decide) h1
 have c2:=rtake_ U hU y1.2 h1 3 [61]
 dsimp only at hX
 generalize rTak U 3 [61] y1.2=p2 at*
 have h3:=rTak_lt V (k:=3) (s:=[40]) (by decide) h2
 have c3:=rtake_ U hU p2 h2 3 [40]
 generalize rTak U 3 [40] p2=p3 at*
 have h4:=rPrs_lt V 40000 [] [] p3 h3
 refine CallQ.mi 110 c1 (rM_cl U p) ⟨oS,oS,trivial⟩ ?_
 refine vv ?_
 refine CallQ.mi 120 c2 (rM_cl U y1.2) ⟨oS,oS,trivial⟩ ?_
 refine vv ?_
 refine CallQ.mi 130 c3 (rM_cl U p2) ⟨oS,oS,trivial⟩ ?_
 refine vv ?_
 refine Sm.nilCell 33 1 3 110 1 rfl rfl rfl ?_
 refine Sm.nilCell 34 1 3 110 2 rfl rfl rfl ?_
 have v_iC:∀l:List Int,(l.map iC).all Cv.isV=true:=fun l=>by rw[List.all_map];exact List.all_eq_true.2 fun _ _=>rfl
 refine Sm.loopM (M0:=rM U p) (α:={x:List Int×List Int×Ps//x.2.2.at_<U.length∧x.1.length=x.2.1.length∧x.1.length≤x.2.2.at_∧∃f,U.length≤x.2.2.at_+f∧rPrs U f x.1 x.2.1 x.2.2=rPrs U 40000 [] [] p3}) hP
  (fun x=>[(0,true,.c (.p 1 0)),(2,true,.c (.p 100 0)),(3,true,.c (.p 110 0))])
  (fun x=>[(1,⟨false,rsC U x.val.2.2,124⟩),(2,⟨true,rowsC (U.map Tk.r),57⟩),(100,⟨false,[sC [],.v (.slice none 0 0),.v (.slice none 0 0)],110⟩),(110,⟨false,[sC y1.1,.sl 33 0 x.val.1.length 1,.sl 34 0 x.val.1.length 1],110⟩),(33,⟨false,x.val.1.map iC,3⟩),(34,⟨false,x.val.2.1.map iC,3⟩)])
  (fun x=>U.length-x.val.2.2.at_) ⟨([],[],p3),h3,rfl,Nat.zero_le _,40000,by simp only;omega,rfl⟩ (fun x=>ClM.of (by simp only[List.all_cons,inMV (rowsC_isV _),inMV (v_iC _)];rfl)) (fun _=>ClE.of rfl) [(1,1),(2,2),(100,100),(110,110),(33,33),(34,34)] ?_ ?_
 ·exact⟨rfl,⟨⟨rfl,rfl⟩,⟨rfl,rfl⟩,trivial⟩,⟨rfl,rfl,rfl,trivial⟩,⟨oR,oV (renV (rowsC_isV _)),oR,oR,oR,oR,trivial⟩⟩
 rintro⟨⟨xs,ys,q⟩,hq,hxy,hle,f',hf1,hf2⟩ J hb
 simp only at hb hq hxy hle hf1 hf2⊢
 obtain⟨f',rfl⟩:∃k,f'=k+1:=⟨f'-1,by omega⟩
 rw[rPrs]at hf2
 unfold rbd at hf2
 dsimp only at hf2
 have n1:=rNum_lt V hq
 have d1:=rnumber_ U hU q hq
 have m1:=rNum_le (U:=U) q
 have m2:=rNum_le (U:=U) (rNum U q).2
 generalize rNum U q=z1 at*
 have n2:=rNum_lt V n1
 have d2:=rnumber_ U hU z1.2 n1
 generalize rNum U z1.2=z2 at*
 refine Sm.go 200 ?_
 refine vv ?_
 refine Sm.dgW [1] 200 6 mix ?_
 simp(maxSteps:=2000000) only[go_sem,Mem.wo]
 refine DCallQ.mio 210 d1 (rM_cl U q) rfl ⟨.inr ⟨rfl,rfl⟩,.inl rfl,trivial⟩ rfl rfl (.inl rfl) ?_
 have hlx:(xs.map iC).length=xs.length:=List.length_map _
 have hly:(ys.map iC).length=xs.length:=by rw[List.length_map];exact hxy.symm
 have hax:List.take xs.length (xs.map iC)++[iC z1.1]=(xs++[z1.1]).map iC:=by rw[List.take_of_length_le (by omega),List.map_append];rfl
 have hay:List.take xs.length (ys.map iC)++[iC z2.1]=(ys++[z2.1]).map iC:=by rw[List.take_of_length_le (by omega),List.map_append];rfl
 have hLx:(xs++[z1.1]).length=xs.length+1:=by rw[List.length_append];rfl
 have hLy:(ys++[z2.1]).length=xs.length+1:=by rw[List.length_append,←hxy];rfl
 simp(maxSteps:=2000000) only[go_sem,Mem.wo,hlx,hax]
 refine⟨⟨by omega,by omega,by omega⟩,?_⟩
 refine Sm.dgW [1] 220 6 mix ?_
 simp(maxSteps:=2000000) only[go_sem,Mem.wo]
 refine DCallQ.mio 230 d2 (rM_cl U z1.2) rfl ⟨.inr ⟨rfl,rfl⟩,.inl rfl,trivial⟩ rfl rfl (.inl rfl) ?_
 simp(maxSteps:=2000000) only[go_sem,Mem.wo,hly,hay]
 refine⟨⟨by omega,by omega,by omega⟩,?_⟩
 have his:=ris_ U hU z2.2 n2 3 [44]
 refine CallQ.mi 240 his (rM_cl U z2.2) ⟨oS,oS,trivial⟩ ?_
 cases hi44:rIs U 3 [44] z2.2 with
 |true=>
  rw[hi44]at hf2
  simp only[cond_true]at hf2
  have hadv:=rIs_lt V (by decide) n2 hi44
  simp(maxSteps:=2000000) only[go_sem,aP hU n2]
  refine hb _ _ ⟨(xs++[z1.1],ys++[z2.1],advP z2.2),hadv,by simp only[hLx,hLy],by show(xs++[z1.1]).length≤z2.2.at_+1;omega,f',by show U.length≤z2.2.at_+1+f';omega,hf2⟩ [(1,1),(2,2),(100,100),(110,110),(33,211),(34,231)] (by show U.length-(z2.2.at_+1)<_;omega) ?_
  simp only[hLx]
  exact⟨rfl,⟨⟨rfl,rfl⟩,⟨rfl,rfl⟩,trivial⟩,⟨rfl,rfl,rfl,trivial⟩,⟨oR,oV (renV (rowsC_isV _)),oR,oR,oV (renV (v_iC _)),oV (renV (v_iC _)),trivial⟩⟩
 |false=>
  rw[hi44]at hf2
  simp only[cond_false]at hf2
  rw[←hf2]at hX
  clear hb
  refine vv ?_
  dsimp only at hX
  have h5:=rTak_lt V (k:=3) (s:=[41]) (by decide) n2
  have c5:=rtake_ U hU z2.2 n2 3 [41]
  generalize rTak U 3 [41] z2.2=p5 at*
  have h6:=rEnd_lt h5
  have c6:=rend_ U hU p5 h5
  generalize rEnd U p5=p6 at*
  refine CallQ.mi 250 c5 (rM_cl U z2.2) ⟨oS,oS,trivial⟩ ?_
  refine vv ?_
  refine CallQ.mi 260 c6 (rM_cl U p5) ⟨oS,oS,trivial⟩ ?_
  refine vv ?_
  refine CallQ.letgo (xs:=[_]) (M0:=rM U p) [211,231] hL hP rfl (by unfold concOk;simp only[List.all_cons,cokV (v_iC _),cokV (rowsC_isV _)];rfl) rfl en93 rfl rfl (fun β C1 l1 k1 kn=>?_)
  obtain⟨sx,hvx,hkx⟩:=(kn 211 _ rfl rfl rfl).vslx (sz:=1) (rows:=intsR (xs++[z1.1])) (fun r hr=>by obtain⟨a,_,rfl⟩:=List.mem_map.1 hr;rfl) (intsC _).symm
  obtain⟨sy,hvy,hky⟩:=(kn 231 _ rfl rfl rfl).vslx (sz:=1) (rows:=intsR (ys++[z2.1])) (fun r hr=>by obtain⟨a,_,rfl⟩:=List.mem_map.1 hr;rfl) (intsC _).symm
  have eix:(intsR (xs++[z1.1])).length=xs.length+1:=by unfold intsR;rw[List.length_map];exact hLx
  have eiy:(intsR (ys++[z2.1])).length=xs.length+1:=by unfold intsR;rw[List.length_map];exact hLy
  rw[eix]at hvx hkx
  rw[eiy]at hvy hky
  simp only[Mem.conc,Env.conc,Bk.conc,Cv.conc,Vg.V.conc,List.map_cons,List.map_nil,List.contains_cons,List.contains_nil,Nat.reduceBEq,Bool.or_false,Bool.or_true,cond_true,cond_false,concV (rowsC_isV _),concV (v_iC _),hvx,hvy]
  have hcv:=rcuOk_ (H:=C1.hp) sx sy (xs++[z1.1]) (ys++[z2.1]) (by rw[hLx];exact hkx) (by rw[hLy];exact hky) (by omega)
  rw[hLx,hLy]at hcv
  refine CallW.h 300 l1 hcv (Hp.le.refl _) rfl (fun C2 l2 k2=>?_)
  cases hf:cuOk (xs++[z1.1]) (ys++[z2.1])with
  |true=>
   rw[hf]at hX
   subst hX
   simp(maxSteps:=2000000) only[go_sem,hf]
   exact RetQ.of (hR (⟨⟨y1.1,xs++[z1.1],ys++[z2.1]⟩,sx,sy⟩:CuL) C2 l2 ⟨rfl,by show SlH _ (vsl sx (xs++[z1.1]).length) 1 _;rw[hLx];exact hkx.mono k2,by show SlH _ (vsl sy (ys++[z2.1]).length) 1 _;rw[hLy];exact hky.mono k2⟩) rfl (vv trivial) (by simp(maxSteps:=2000000) only[go_sem,hLx,hLy]<;>rfl) (sub_sh (SubS.sub ⟨oS,oS,trivial⟩)) (clm_sh (rM_cl U _)) (ClV.of rfl)
  |false=>
   rw[hf]at hX
   subst hX
   simp(maxSteps:=2000000) only[go_sem,hf]
   refine CallQ.mi 310 (refuse_ U hU p6 0 (by omega) 1) (rM_cl U p6) ⟨oS,oS,trivial⟩ ?_
   refine vv ?_
   exact RetQ.of (hR (⟨⟨y1.1,xs++[z1.1],ys++[z2.1]⟩,sx,sy⟩:CuL) C2 l2 ⟨rfl,by show SlH _ (vsl sx (xs++[z1.1]).length) 1 _;rw[hLx];exact hkx.mono k2,by show SlH _ (vsl sy (ys++[z2.1]).length) 1 _;rw[hLy];exact hky.mono k2⟩) rfl (vv trivial) (by simp(maxSteps:=2000000) only[go_sem,hLx,hLy]<;>rfl) (sub_sh (SubS.sub ⟨oS,oS,trivial⟩)) (clm_sh (rM_cl U _)) (ClV.of rfl)
theorem rNuL_le {U:List Tk}:∀(f:Nat) (l:List Int) (p:Ps),p.at_≤(rNuL U f l p).2.at_
 |0,_,p=>Nat.le_refl _
 |f+1,l,p=>by
  rw[rNuL]
  cases p.e==0&&(hereP U p).k==2 with
  |true=>exact Nat.le_trans (rNum_le p) (rNuL_le f _ _)
  |false=>exact Nat.le_refl _
theorem rNus_le {U:List Tk}(p:Ps):p.at_≤(rNus U p).2.at_:=Nat.le_trans (rNum_le p) (rNuL_le _ _ _)
theorem rnumbersN_ (n:Nat)(hn:rnOk [(3,n),(1,1),(2,2)]=true)(U:List Tk)(V:VT U)(p:Ps)(h:p.at_<U.length):CallOk Tryz.prog 249 [.c (.p 1 0)] (rM U p) (.c (.sl n 0 (rNus U p).1.length 1)) [(1,⟨false,rsC U (rNus U p).2,124⟩),(n,⟨false,(rNus U p).1.map iC,3⟩)]:=by
 have h0:=(rnumbers_ U V p h).ren (rn_inj [(3,n),(1,1),(2,2)] hn)
 have hr1:Mem.ren (rn [(3,n),(1,1),(2,2)]) (rM U p)=rM U p:=by
  simp only[rM,Mem.ren,List.map_cons,List.map_nil,renV (rowsC_isV _)];rfl
 have v_iC:∀l:List Int,(l.map iC).all Cv.isV=true:=fun l=>by rw[List.all_map];exact List.all_eq_true.2 fun _ _=>rfl
 rw[hr1]at h0
 simp only[Mem.ren,List.map_cons,List.map_nil,renV (v_iC _)]at h0
 exact h0
theorem rmapped_ {H:Hp}(U:List Tk)(hV:VT U)(hS:StU U)(p:Ps)(h:p.at_<U.length):
  CallX H Tryz.prog 180 [.c (.p 1 0)] (rM U p) (fun x:MpL=>rowV x.r) (fun _=>[(1,⟨false,rsC U (rMap U p).2,124⟩)]) (fun x H'=>x.c=(rMap U p).1∧x.ok H'):=by
 have hn:=hV.n
 have hU:U.length≤100000:=by omega
 have v_iC:∀l:List Int,(l.map iC).all Cv.isV=true:=fun l=>by rw[List.all_map];exact List.all_eq_true.2 fun _ _=>rfl
 have v_zr:∀l:List (Sv×List Int),(rowsC (l.map zRw)).all Cv.isV=true:=fun _=>rowsC_isV _
 refine CallX.mkS Tryz.func180 rfl en180 (by simp[Tryz.ntmps180]) (ClA.of rfl) (fun _=>rfl) (fun _=>rfl) fun C hR hP hH hL=>?_
 refine Sm.go 100 ?_
 refine vv ?_
 generalize hX:rMap U p=X at*
 unfold rMap rbd rCls at hX
 have h1:=rNam_lt hV h
 have c1:=rname_ U hU p h (hS.h p) h1
 generalize rNam U p=y1 at*
 have h2:=rTak_lt hV (k:=3) (s:=[61]) (by decide) h1
 have c2:=rtake_ U hU y1.2 h1 3 [61]
 dsimp only at hX
 generalize rTak U 3 [61] y1.2=p2 at*
 have h3:=rTak_lt hV (k:=3) (s:=[40]) (by decide) h2
 have c3:=rtake_ U hU p2 h2 3 [40]
 generalize rTak U 3 [40] p2=p3 at*
 have h4:=rNus_lt hV h3
 have c4:=rnumbersN_ 40 rfl U hV p3 h3
 generalize rNus U p3=x4 at*
 have h5:=rTak_lt hV (k:=3) (s:=[59]) (by decide) h4.1
 have c5:=rtake_ U hU x4.2 h4.1 3 [59]
 generalize rTak U 3 [59] x4.2=p5 at*
 have h6:=rNus_lt hV h5
 have c6:=rnumbersN_ 41 rfl U hV p5 h5
 generalize rNus U p5=x6 at*
 have h7:=rTak_lt hV (k:=3) (s:=[59]) (by decide) h6.1
 have c7:=rtake_ U hU x6.2 h6.1 3 [59]
 generalize rTak U 3 [59] x6.2=p7 at*
 refine CallQ.mi 110 c1 (rM_cl U p) ⟨oS,oS,trivial⟩ ?_
 refine vv ?_
 refine CallQ.mi 120 c2 (rM_cl U y1.2) ⟨oS,oS,trivial⟩ ?_
 refine vv ?_
 refine CallQ.mi 130 c3 (rM_cl U p2) ⟨oS,oS,trivial⟩ ?_
 refine vv ?_
 refine CallQ.mi 140 c4 (rM_cl U p3) ⟨oS,oS,trivial⟩ ?_
 refine vv ?_
 refine CallQ.mi 150 c5 (rM_cl U x4.2) ⟨oS,oS,trivial⟩ ?_
 refine vv ?_
 refine CallQ.mi 160 c6 (rM_cl U p5) ⟨oS,oS,trivial⟩ ?_
 refine vv ?_
 refine CallQ.mi 170 c7 (rM_cl U x6.2) ⟨oS,oS,trivial⟩ ?_
 refine vv ?_
 refine Sm.nilCell 34 1 73 110 3 rfl rfl rfl ?_
 refine Sm.loopX (C:=C) (M0:=rM U p) (α:={x:List (Sv×List Int)×Ps//x.2.at_<U.length∧x.1.length≤x.2.at_∧(∀v∈x.1,v.2.length≤40001)∧∃f,U.length≤x.2.at_+f∧rRws U f (x.1.map (·.2)) x.2=rRws U 40000 [] p7}) hL hP
  (fun x=>[(0,true,.c (.p 1 0)),(2,true,.c (.p 100 0)),(3,true,.c (.p 110 0))])
  (fun x=>[(1,⟨false,rsC U x.val.2,124⟩),(2,⟨true,rowsC (U.map Tk.r),57⟩),(100,⟨false,[sC [],.v (.slice none 0 0),.v (.slice none 0 0),.v (.slice none 0 0)],115⟩),(110,⟨false,[sC y1.1,.sl 40 0 x4.1.length 1,.sl 41 0 x6.1.length 1,.sl 34 0 x.val.1.length 1],115⟩),(40,⟨false,x4.1.map iC,3⟩),(41,⟨false,x6.1.map iC,3⟩),(34,⟨false,rowsC (x.val.1.map zRw),73⟩)])
  (fun x hp=>∀v∈x.val.1,SlH hp (vsl v.1 v.2.length) 1 (intsR v.2)) (fun x=>U.length-x.val.2.at_) ⟨([],p7),h7,Nat.zero_le _,(fun v hv=>by cases hv),40000,by simp only;omega,rfl⟩ (fun v hv=>by cases hv) (fun x=>ClM.of (by simp only[List.all_cons,inMV (rowsC_isV _),inMV (v_iC _)];rfl)) (fun _=>ClE.of rfl) [(1,1),(2,2),(100,100),(110,110),(40,40),(41,41),(34,34)] ?_ ?_
 ·exact⟨rfl,⟨⟨rfl,rfl⟩,⟨rfl,rfl⟩,trivial⟩,⟨rfl,rfl,rfl,trivial⟩,⟨oR,oV (renV (rowsC_isV _)),oR,oR,oV (renV (v_iC _)),oV (renV (v_iC _)),oV (renV (v_zr _)),trivial⟩⟩
 rintro⟨⟨zs,q⟩,hq,hle,hzl,f',hf1,hf2⟩ C3 J l3 iZ hb
 simp only at hb hq hle hzl iZ hf1 hf2⊢
 obtain⟨f',rfl⟩:∃k,f'=k+1:=⟨f'-1,by omega⟩
 rw[rRws]at hf2
 unfold rbd at hf2
 dsimp only at hf2
 have n1:=rNus_lt hV hq
 have m1:=rNus_le (U:=U) q
 have d1:=rnumbersN_ 33 rfl U hV q hq
 generalize rNus U q=z at*
 refine Sm.go 200 ?_
 refine vv ?_
 refine Sm.dgW [1] 200 6 mix ?_
 simp(maxSteps:=2000000) only[go_sem,Mem.wo]
 refine DCallQ.mio 210 d1 (rM_cl U q) rfl ⟨.inr ⟨rfl,rfl⟩,.inl rfl,trivial⟩ rfl rfl (.inl rfl) ?_
 have hlz:=rows_len (r:=zRw) (k:=1) (fun _=>rfl) zs
 rw[Nat.mul_one]at hlz
 have htz:List.take zs.length (rowsC (zs.map zRw))=rowsC (zs.map zRw):=List.take_of_length_le (by omega)
 simp(maxSteps:=2000000) only[go_sem,Mem.wo,hlz,htz]
 refine⟨⟨by omega,by omega,by omega⟩,?_⟩
 refine CallQ.letgo (xs:=[_,_,_]) (M0:=rM U p) [33] l3 hP rfl (by unfold concOk;simp only[List.cons_append,List.nil_append,List.all_cons,List.all_append,cokV (v_iC _),cokV (rowsC_isV _)];rfl) rfl en176 rfl rfl (fun β C5 l5 k5 kn=>?_)
 obtain⟨sr,hvr,hkr⟩:=(kn 33 _ rfl rfl rfl).vslx (sz:=1) (rows:=intsR z.1) (fun r hr=>by obtain⟨a,_,rfl⟩:=List.mem_map.1 hr;rfl) (intsC _).symm
 have eir:(intsR z.1).length=z.1.length:=by unfold intsR;rw[List.length_map]
 rw[eir]at hvr hkr
 have haz:rowsC (zs.map zRw)++[.v (vsl sr z.1.length)]=rowsC ((zs++[(sr,z.1)]).map zRw):=by have:=rows_app zRw (k:=1) (fun _=>rfl) zs (sr,z.1);rw[Nat.mul_one,htz]at this;exact this
 simp only[Mem.conc,Env.conc,Bk.conc,Cv.conc,Vg.V.conc,List.map_append,List.cons_append,List.nil_append,List.map_cons,List.map_nil,List.contains_cons,List.contains_nil,Nat.reduceBEq,Bool.or_false,Bool.or_true,cond_true,cond_false,concV (rowsC_isV _),concV (v_iC _),hvr]
 rw[haz]
 have hLz:(zs++[(sr,z.1)]).length=zs.length+1:=by rw[List.length_append];rfl
 have hmp:(zs++[(sr,z.1)]).map (·.2)=zs.map (·.2)++[z.1]:=by rw[List.map_append];rfl
 have iZ2:∀v∈zs++[(sr,z.1)],SlH C5.hp (vsl v.1 v.2.length) 1 (intsR v.2):=fun v hv=>by
  rcases List.mem_append.1 hv with hv|hv
  ·exact(iZ v hv).mono k5
  ·rw[List.mem_singleton]at hv;subst hv;exact hkr
 have hzl2:∀v∈zs++[(sr,z.1)],v.2.length≤40001:=fun v hv=>by
  rcases List.mem_append.1 hv with hv|hv
  ·exact hzl v hv
  ·rw[List.mem_singleton]at hv;subst hv;exact n1.2
 refine CallW.x 220 l5 ((ris_ U hU z.2 n1.1 3 [44]).toX (H:=C5.hp)) (Hp.le.refl _) (SubS.sub ⟨oS,oS,trivial⟩) (rM_cl U z.2) (fun _=>Fresh.of rfl) rfl (fun _ C6 _ l6 k6 _ _=>?_)
 cases hi44:rIs U 3 [44] z.2 with
 |true=>
  rw[hi44]at hf2
  simp only[cond_true]at hf2
  have hadv:=rIs_lt hV (by decide) n1.1 hi44
  simp(maxSteps:=2000000) only[go_sem,aP hU n1.1]
  refine hb _ _ C6 ⟨(zs++[(sr,z.1)],advP z.2),hadv,by show(zs++[(sr,z.1)]).length≤z.2.at_+1;omega,hzl2,f',by show U.length≤z.2.at_+1+f';omega,by rw[hmp];exact hf2⟩ [(1,1),(2,2),(100,100),(110,110),(40,40),(41,41),(34,211)] l6 (fun v hv=>(iZ2 v hv).mono k6) (by show U.length-(z.2.at_+1)<_;omega) ?_
  simp only[hLz]
  exact⟨rfl,⟨⟨rfl,rfl⟩,⟨rfl,rfl⟩,trivial⟩,⟨rfl,rfl,rfl,trivial⟩,⟨oR,oV (renV (rowsC_isV _)),oR,oR,oV (renV (v_iC _)),oV (renV (v_iC _)),oV (renV (v_zr _)),trivial⟩⟩
 |false=>
  rw[hi44]at hf2
  simp only[cond_false]at hf2
  rw[←hf2]at hX
  clear hb
  refine vv ?_
  dsimp only at hX
  have h8:=rTak_lt hV (k:=3) (s:=[41]) (by decide) n1.1
  have c8:=rtake_ U hU z.2 n1.1 3 [41]
  generalize rTak U 3 [41] z.2=p8 at*
  have h9:=rEnd_lt h8
  have c9:=rend_ U hU p8 h8
  generalize rEnd U p8=p9 at*
  refine CallQ.mi 250 c8 (rM_cl U z.2) ⟨oS,oS,trivial⟩ ?_
  refine vv ?_
  refine CallQ.mi 260 c9 (rM_cl U p8) ⟨oS,oS,trivial⟩ ?_
  refine vv ?_
  refine CallQ.letgo (xs:=[_]) (M0:=rM U p) [40,41,211] l6 hP rfl (by unfold concOk;simp only[List.all_cons,cokV (v_iC _),cokV (rowsC_isV _)];rfl) rfl en94 rfl rfl (fun β C7 l7 k7 kn=>?_)
  obtain⟨sx,hvx,hkx⟩:=(kn 40 _ rfl rfl rfl).vslx (sz:=1) (rows:=intsR x4.1) (fun r hr=>by obtain⟨a,_,rfl⟩:=List.mem_map.1 hr;rfl) (intsC _).symm
  obtain⟨sy,hvy,hky⟩:=(kn 41 _ rfl rfl rfl).vslx (sz:=1) (rows:=intsR x6.1) (fun r hr=>by obtain⟨a,_,rfl⟩:=List.mem_map.1 hr;rfl) (intsC _).symm
  obtain⟨sz,hvz,hkz⟩:=(kn 211 _ rfl rfl rfl).vslx (sz:=1) (rows:=(zs++[(sr,z.1)]).map zRw) (fun r hr=>by obtain⟨a,_,rfl⟩:=List.mem_map.1 hr;rfl) rfl
  have eix:(intsR x4.1).length=x4.1.length:=by unfold intsR;rw[List.length_map]
  have eiy:(intsR x6.1).length=x6.1.length:=by unfold intsR;rw[List.length_map]
  rw[eix]at hvx hkx
  rw[eiy]at hvy hky
  rw[List.length_map,hLz]at hvz hkz
  simp only[Mem.conc,Env.conc,Bk.conc,Cv.conc,Vg.V.conc,List.map_cons,List.map_nil,List.contains_cons,List.contains_nil,Nat.reduceBEq,Bool.or_false,Bool.or_true,cond_true,cond_false,concV (rowsC_isV _),concV (v_iC _),hvx,hvy,hvz]
  have hm6:(⟨y1.1,x4.1,x6.1,zs++[(sr,z.1)],sx,sy,sz⟩:MpL).ok C7.hp:=⟨hkx,hky,by show SlH _ (vsl sz (zs++[(sr,z.1)]).length) 1 _;rw[hLz];exact hkz,fun v hv=>((iZ2 v hv).mono k6).mono k7⟩
  have hsv:CallH C7.hp Tryz.prog 94 [.agg [.v (vsl sx x4.1.length),.v (vsl sy x6.1.length),.v (vsl sz (zs++[(sr,z.1)]).length)]] (Bo (maOk x4.1 x6.1 ((zs++[(sr,z.1)]).map (·.2)))):=rmaOk_ (⟨y1.1,x4.1,x6.1,zs++[(sr,z.1)],sx,sy,sz⟩:MpL) hm6 (fun v hv=>by have:=hzl2 v hv;omega)
  rw[hLz,hmp]at hsv
  refine CallW.h 300 l7 hsv (Hp.le.refl _) rfl (fun C8 l8 k8=>?_)
  cases hf:maOk x4.1 x6.1 (zs.map (·.2)++[z.1])with
  |true=>
   rw[hf]at hX
   subst hX
   simp(maxSteps:=2000000) only[go_sem,hf]
   exact RetQ.of (hR (⟨y1.1,x4.1,x6.1,zs++[(sr,z.1)],sx,sy,sz⟩:MpL) C8 l8 ⟨by show(⟨y1.1,x4.1,x6.1,(zs++[(sr,z.1)]).map (·.2)⟩:Mp)=_;rw[hmp],hm6.mono k8⟩) rfl (vv trivial) (by simp(maxSteps:=2000000) only[go_sem,hLz]<;>rfl) (sub_sh (SubS.sub ⟨oS,oS,trivial⟩)) (clm_sh (rM_cl U _)) (ClV.of rfl)
  |false=>
   rw[hf]at hX
   subst hX
   simp(maxSteps:=2000000) only[go_sem,hf]
   refine CallQ.mi 310 (refuse_ U hU p9 0 (by omega) 1) (rM_cl U p9) ⟨oS,oS,trivial⟩ ?_
   refine vv ?_
   exact RetQ.of (hR (⟨y1.1,x4.1,x6.1,zs++[(sr,z.1)],sx,sy,sz⟩:MpL) C8 l8 ⟨by show(⟨y1.1,x4.1,x6.1,(zs++[(sr,z.1)]).map (·.2)⟩:Mp)=_;rw[hmp],hm6.mono k8⟩) rfl (vv trivial) (by simp(maxSteps:=2000000) only[go_sem,hLz]<;>rfl) (sub_sh (SubS.sub ⟨oS,oS,trivial⟩)) (clm_sh (rM_cl U _)) (ClV.of rfl)
def rBl5 (U:List Tk)(i a k t:Nat)(kd nm:Str)(l:List Str)(ks:List Int)(p:Ps):Bl×Ps:=rbd ((),rTak U 3 [58] p) fun _ p=>rbd (rNam U p) fun ty p=>rBlE U i a k t ⟨nm,kd,ty,(rTb t l).1,(rTb t l).2,ks⟩ (rEnd U p)
def rBl4 (U:List Tk)(i a k t:Nat)(kd nm:Str)(l:List Str)(p:Ps):Bl×Ps:=rbd (rKs U p) fun ks p=>rBl5 U i a k t kd nm l ks (rTak U 3 [41] p)
def rBl3 (U:List Tk)(i a k t:Nat)(kd nm:Str)(p:Ps):Bl×Ps:=rbd (rArs U p) fun l p=>rBl4 U i a k t kd nm l p
theorem rBl3_eq (U:List Tk)(i a k t:Nat)(kd nm:Str)(p:Ps):rBl2 U i a k t kd nm p=rBl3 U i a k t kd nm (rTak U 3 [40] p):=by unfold rBl2 rBl3 rBl4 rBl5 rbd;exact Eq.refl _
theorem _root_.Go.Proofs.YtlnpgbnhcondjaaGreatDoor.Vg.Known.vslk {H:Hp}{β:Vl}{n:Nat}{b:Bk}(h:Known H β n b){l:List Str}(hc:b.cells=l.map sC){k:Nat}(hk:k<l.length):∃s:Sv,gval β (.sl n 0 k 1)=vsl s k∧SlH H (vsl s k) 1 (strsR (l.take k)):=by
 have hft:=strs_flat (l.take k)
 have hrl:(strsR (l.take k)).length=k:=by unfold strsR;rw[List.length_map,List.length_take];omega
 rcases h with⟨h1,h2⟩|⟨h1,h2,junk,h3,h4⟩
 ·have:l.length=0:=by rw[←List.length_map (f:=sC),←hc,h2];rfl
  omega
 have hv:gval β (.sl n 0 k 1)= .slice (some ⟨(β n).blk,(β n).org+0,none⟩) k (((β n).siz-0)/1):=by
  unfold gval
  simp only[Cv.g]
  rw[if_neg (by rw[h1];simp)]
 refine⟨⟨some ⟨(β n).blk,(β n).org+0,none⟩,((β n).siz-0)/1⟩,hv,β n,?_,fun r hr=>by obtain⟨a,_,rfl⟩:=List.mem_map.1 hr;rfl,?_⟩
 ·rw[hrl]
  simp only[Cv.g]
  rw[if_neg (by rw[h1];simp)]
 ·rw[hft]
  have hbl:b.cells.length=l.length:=by rw[hc,List.length_map]
  refine⟨fun hh=>by rw[h1]at hh;(cases hh),by rw[List.length_map,List.length_take];omega,fun _=>⟨_,_,_,h3,fun i x hx=>?_⟩⟩
  rw[h2,Nat.zero_add]
  simp only[List.getElem?_toArray]
  rw[List.getElem?_map,List.getElem?_take]at hx
  split at hx
  ·rename_i hik
   have hil:i<l.length:=by omega
   rw[List.getElem?_eq_getElem hil]at hx
   rw[List.getElem?_append_left (by rw[List.length_map];omega),hc,List.map_map,List.getElem?_map,List.getElem?_eq_getElem hil]
   exact hx
  ·cases hx
theorem kind_k1 {U:List Tk}(hV:VT U){p:Ps}(h:p.at_<U.length)(hk:(kindQ (hereP U p).s).isSome=true):(hereP U p).k≠4:=by
 have h5:=((hV.v _ h).k1).1 (kindQ_le hk)
 show(U.getD p.at_ tk0).k≠4
 rw[h5];decide
theorem rNam_le {U:List Tk}(p:Ps):p.at_≤(rNam U p).2.at_:=by
 unfold rNam
 cases p.e==0&&nmOk (hereP U p).s with
 |true=>exact Nat.le_succ _
 |false=>exact Nat.le_of_eq (wrn_at _).symm
theorem rdblock_ {H:Hp}(U:List Tk)(hV:VT U)(hS:StU U)(p:Ps)(h:p.at_<U.length):
  CallX H Tryz.prog 182 [.c (.p 1 0)] (rM U p) (fun x:BlL=>rowV x.r) (fun _=>[(1,⟨false,rsC U (rBlk U p).2,124⟩)]) (fun x H'=>x.c=(rBlk U p).1∧x.ok H'):=by
 have hn:=hV.n
 have hU:U.length≤100000:=by omega
 have v_iC:∀l:List Int,(l.map iC).all Cv.isV=true:=fun l=>by rw[List.all_map];exact List.all_eq_true.2 fun _ _=>rfl
 have v_sC:∀l:List Str,(l.map sC).all Cv.isV=true:=fun l=>by rw[List.all_map];exact List.all_eq_true.2 fun _ _=>rfl
 refine CallX.mkS Tryz.func182 rfl en182 (by simp[Tryz.ntmps182]) (ClA.of rfl) (fun _=>rfl) (fun _=>rfl) fun C hR hP hH hL=>?_
 refine Sm.go 100 ?_
 refine vv ?_
 generalize hX:rBlk U p=X at*
 unfold rBlk rbd at hX
 have h1:=rNam_lt hV h
 have c1:=rname_ U hU p h (hS.h p) h1
 generalize rNam U p=y1 at*
 have h2:=rTak_lt hV (k:=3) (s:=[61]) (by decide) h1
 have c2:=rtake_ U hU y1.2 h1 3 [61]
 dsimp only at hX
 generalize rTak U 3 [61] y1.2=p2 at*
 refine CallQ.mi 110 c1 (rM_cl U p) ⟨oS,oS,trivial⟩ ?_
 refine vv ?_
 refine CallQ.mi 120 c2 (rM_cl U y1.2) ⟨oS,oS,trivial⟩ ?_
 refine vv ?_
 obtain⟨t0,t1,_,_,_⟩:=tk_at U p2.at_ h2
 have hh:U.getD p2.at_ tk0=hereP U p2:=rfl
 rw[hh]at t0 t1
 have cf:=rfail_ U hU p2 h2
 have hwe:((wrnP U p2).e==0)=false:=beq_eq_false_iff_ne.2 (wrnE' p2)
 have hwl:=wrn_lt h2
 obtain⟨w,hw⟩:∃w,w=wrnP U p2:=⟨_,rfl⟩
 rw[←hw]at cf hwe hwl
 apply cutT (T:=fun todo=>∀(kd:Str) (a k t:Nat) (q:Ps),q.at_<U.length→t≤2→rBl3 U p2.at_ a k t kd y1.1 q=X→Sm Tryz.prog 177 C todo [(0,true,.c (.p 1 0)),(2,true,.c (.p 100 0)),(3,true,.c (.p 110 0)),(4,true,I p2.at_),(5,true,I a),(6,true,I k),(7,true,I t)] [(1,⟨false,rsC U (q),124⟩),(2,⟨true,rowsC (U.map Tk.r),57⟩),(100,⟨false,[sC [],sC [],sC [],.v (.slice none 0 0),sC [],.v (.slice none 0 0)],82⟩),(110,⟨false,[sC y1.1,sC kd,sC [],.v (.slice none 0 0),sC [],.v (.slice none 0 0)],82⟩)])
 ·intro tail
  cases he:p2.e==0 with
  |false=>
   have hk:rKd U p2=(([],0,0,0),w):=by unfold rKd rKq;rw[he,hw];rfl
   rw[hk]at hX
   dsimp only at hX
   simp(maxSteps:=2000000) only[go_sem,he]
   refine CallQ.mi 200 cf (rM_cl U p2) ⟨oS,oS,trivial⟩ ?_
   simp(maxSteps:=2000000) only[go_sem,hwe]
   refine CallQ.mioS (rtake_ U hU w hwl 3 [40]) (rM_cl U (w)) rfl ⟨oS,oS,trivial⟩ rfl (.inl rfl) ?_
   refine Sm.cutm (M0:=rM U p) hP [(0,true,.c (.p 1 0)),(2,true,.c (.p 100 0)),(3,true,.c (.p 110 0)),(4,true,I p2.at_),(5,true,I ((0:Nat):Int)),(6,true,I ((0:Nat):Int)),(7,true,I ((0:Nat):Int))] [(1,⟨false,rsC U (rTak U 3 [40] w),124⟩),(2,⟨true,rowsC (U.map Tk.r),57⟩),(100,⟨false,[sC [],sC [],sC [],.v (.slice none 0 0),sC [],.v (.slice none 0 0)],82⟩),(110,⟨false,[sC y1.1,sC [],sC [],.v (.slice none 0 0),sC [],.v (.slice none 0 0)],82⟩)] [(1,1),(2,2),(100,100),(110,110)] ⟨rfl,⟨⟨rfl,rfl⟩,⟨rfl,rfl⟩,trivial⟩,⟨rfl,rfl,rfl,rfl,rfl,rfl,rfl,trivial⟩,⟨oR,oV (renV (rowsC_isV _)),oR,oR,trivial⟩⟩ (ClM.of (by simp only[List.all_cons,inMV (rowsC_isV _)];rfl)) (ClE.of rfl) ?_
   exact tail [] 0 0 0 _ (rTak_lt hV (by decide) hwl) (by omega) ((rBl3_eq U _ _ _ _ _ _ w).symm.trans hX)
  |true=>
   simp(maxSteps:=2000000) only[go_sem,he]
   refine Sm.dg 200 20 mix ?_
   simp(maxSteps:=2000000) only[go_sem,t1]
   refine⟨⟨by omega,by omega⟩,?_⟩
   refine DCallQ.pure 210 (rKind_ (hereP U p2).s) rfl ?_
   refine vv ?_
   cases hkq:kindQ (hereP U p2).s with
   |none=>
    have hk:rKd U p2=(([],0,0,0),w):=by unfold rKd rKq;rw[he,hw];simp only[cond_true,hkq]
    rw[hk]at hX
    dsimp only at hX
    refine vv ?_
    refine CallQ.mi 220 cf (rM_cl U p2) ⟨oS,oS,trivial⟩ ?_
    simp(maxSteps:=2000000) only[go_sem,hwe]
    refine CallQ.mioS (rtake_ U hU w hwl 3 [40]) (rM_cl U (w)) rfl ⟨oS,oS,trivial⟩ rfl (.inl rfl) ?_
    refine Sm.cutm (M0:=rM U p) hP [(0,true,.c (.p 1 0)),(2,true,.c (.p 100 0)),(3,true,.c (.p 110 0)),(4,true,I p2.at_),(5,true,I ((0:Nat):Int)),(6,true,I ((0:Nat):Int)),(7,true,I ((0:Nat):Int))] [(1,⟨false,rsC U (rTak U 3 [40] w),124⟩),(2,⟨true,rowsC (U.map Tk.r),57⟩),(100,⟨false,[sC [],sC [],sC [],.v (.slice none 0 0),sC [],.v (.slice none 0 0)],82⟩),(110,⟨false,[sC y1.1,sC [],sC [],.v (.slice none 0 0),sC [],.v (.slice none 0 0)],82⟩)] [(1,1),(2,2),(100,100),(110,110)] ⟨rfl,⟨⟨rfl,rfl⟩,⟨rfl,rfl⟩,trivial⟩,⟨rfl,rfl,rfl,rfl,rfl,rfl,rfl,trivial⟩,⟨oR,oV (renV (rowsC_isV _)),oR,oR,trivial⟩⟩ (ClM.of (by simp only[List.all_cons,inMV (rowsC_isV _)];rfl)) (ClE.of rfl) ?_
    exact tail [] 0 0 0 _ (rTak_lt hV (by decide) hwl) (by omega) ((rBl3_eq U _ _ _ _ _ _ w).symm.trans hX)
   |some x=>
    have hk:rKd U p2=(((hereP U p2).s,x),advP p2):=by unfold rKd rKq;rw[he];simp only[cond_true,hkq]
    rw[hk]at hX
    obtain⟨a,k,t⟩:=x
    have hx2:=(kd_bd hkq).2.2
    have hal:(advP p2).at_<U.length:=(adv_on hV.g h2 (kind_k1 hV h2 (by rw[hkq];rfl))).1.2
    dsimp only at hX
    simp(maxSteps:=2000000) only[go_sem,he,t1]
    refine⟨⟨by omega,by omega⟩,?_⟩
    simp(maxSteps:=2000000) only[go_sem,aP hU h2]
    refine CallQ.mioS (rtake_ U hU (advP p2) hal 3 [40]) (rM_cl U (advP p2)) rfl ⟨oS,oS,trivial⟩ rfl (.inl rfl) ?_
    refine Sm.cutm (M0:=rM U p) hP [(0,true,.c (.p 1 0)),(2,true,.c (.p 100 0)),(3,true,.c (.p 110 0)),(4,true,I p2.at_),(5,true,I a),(6,true,I k),(7,true,I t)] [(1,⟨false,rsC U (rTak U 3 [40] (advP p2)),124⟩),(2,⟨true,rowsC (U.map Tk.r),57⟩),(100,⟨false,[sC [],sC [],sC [],.v (.slice none 0 0),sC [],.v (.slice none 0 0)],82⟩),(110,⟨false,[sC y1.1,sC (hereP U p2).s,sC [],.v (.slice none 0 0),sC [],.v (.slice none 0 0)],82⟩)] [(1,1),(2,2),(100,100),(110,110)] ⟨rfl,⟨⟨rfl,rfl⟩,⟨rfl,rfl⟩,trivial⟩,⟨rfl,rfl,rfl,rfl,rfl,rfl,rfl,trivial⟩,⟨oR,oV (renV (rowsC_isV _)),oR,oR,trivial⟩⟩ (ClM.of (by simp only[List.all_cons,inMV (rowsC_isV _)];rfl)) (ClE.of rfl) ?_
    exact tail (hereP U p2).s a k t _ (rTak_lt hV (by decide) hal) hx2 ((rBl3_eq U _ _ _ _ _ _ (advP p2)).symm.trans hX)
 intro kd a k t q hq ht hX
 refine Sm.nilCell 33 1 9 110 3 rfl rfl rfl ?_
 refine Sm.nilCell 34 1 3 110 5 rfl rfl rfl ?_
 refine Sm.go 300 ?_
 refine vv ?_
 apply cutT (T:=fun todo=>∀(l:List Str) (q:Ps),q.at_<U.length→l.length≤40000→rBl4 U p2.at_ a k t kd y1.1 l q=X→Sm Tryz.prog 177 C todo [(0,true,.c (.p 1 0)),(2,true,.c (.p 100 0)),(3,true,.c (.p 110 0)),(4,true,I p2.at_),(5,true,I a),(6,true,I k),(7,true,I t),(93,true,Bo (rIs U 3 [59] (q)))] [(1,⟨false,rsC U (q),124⟩),(2,⟨true,rowsC (U.map Tk.r),57⟩),(100,⟨false,[sC [],sC [],sC [],.v (.slice none 0 0),sC [],.v (.slice none 0 0)],82⟩),(110,⟨false,[sC y1.1,sC kd,sC [],.sl 33 0 (l).length 1,sC [],.sl 34 0 (([]:List Int)).length 1],82⟩),(33,⟨false,(l).map sC,9⟩),(34,⟨false,(([]:List Int)).map iC,3⟩)])
 ·intro tail
  unfold rBl3 rArs rbd at hX
  refine CallQ.mi 310 (ris_ U hU q hq 3 [59]) (rM_cl U q) ⟨oS,oS,trivial⟩ ?_
  cases hi59:rIs U 3 [59] q with
  |true=>
   rw[hi59]at hX
   simp only[Bool.not_true,Bool.false_and,cond_false]at hX
   refine vv ?_
   refine CallQ.guard (v:=Bo false) (xs:=[]) 312 (fun h=>by cases h) (fun h=>by cases h) ?_
   refine vv ?_
   refine CallQ.mioS (ris_ U hU q hq 3 [59]) (rM_cl U q) rfl ⟨oS,oS,trivial⟩ rfl (.inr rfl) ?_
   refine Sm.cutm (M0:=rM U p) hP [(0,true,.c (.p 1 0)),(2,true,.c (.p 100 0)),(3,true,.c (.p 110 0)),(4,true,I p2.at_),(5,true,I a),(6,true,I k),(7,true,I t),(93,true,Bo (rIs U 3 [59] (q)))] [(1,⟨false,rsC U (q),124⟩),(2,⟨true,rowsC (U.map Tk.r),57⟩),(100,⟨false,[sC [],sC [],sC [],.v (.slice none 0 0),sC [],.v (.slice none 0 0)],82⟩),(110,⟨false,[sC y1.1,sC kd,sC [],.sl 33 0 (([]:List Str)).length 1,sC [],.sl 34 0 (([]:List Int)).length 1],82⟩),(33,⟨false,(([]:List Str)).map sC,9⟩),(34,⟨false,(([]:List Int)).map iC,3⟩)] [(1,1),(2,2),(100,100),(110,110),(33,33),(34,34)] ⟨rfl,⟨⟨rfl,rfl⟩,⟨rfl,rfl⟩,trivial⟩,⟨rfl,rfl,rfl,rfl,rfl,rfl,rfl,rfl,trivial⟩,⟨oR,oV (renV (rowsC_isV _)),oR,oR,oR,oR,trivial⟩⟩ (ClM.of (by simp only[List.all_cons,inMV (rowsC_isV _),inMV (v_iC _),inMV (v_sC _)];rfl)) (ClE.of rfl) ?_
   exact tail ([]:List Str) _ hq (Nat.zero_le _) hX
  |false=>
   rw[hi59]at hX
   simp only[Bool.not_false,Bool.true_and]at hX
   refine vv ?_
   refine CallQ.mi 312 (ris_ U hU q hq 3 [41]) (rM_cl U q) ⟨oS,oS,trivial⟩ ?_
   cases hi41:rIs U 3 [41] q with
   |true=>
    rw[hi41]at hX
    simp only[Bool.not_true,cond_false]at hX
    refine vv ?_
    refine CallQ.mioS (ris_ U hU q hq 3 [59]) (rM_cl U q) rfl ⟨oS,oS,trivial⟩ rfl (.inr rfl) ?_
    refine Sm.cutm (M0:=rM U p) hP [(0,true,.c (.p 1 0)),(2,true,.c (.p 100 0)),(3,true,.c (.p 110 0)),(4,true,I p2.at_),(5,true,I a),(6,true,I k),(7,true,I t),(93,true,Bo (rIs U 3 [59] (q)))] [(1,⟨false,rsC U (q),124⟩),(2,⟨true,rowsC (U.map Tk.r),57⟩),(100,⟨false,[sC [],sC [],sC [],.v (.slice none 0 0),sC [],.v (.slice none 0 0)],82⟩),(110,⟨false,[sC y1.1,sC kd,sC [],.sl 33 0 (([]:List Str)).length 1,sC [],.sl 34 0 (([]:List Int)).length 1],82⟩),(33,⟨false,(([]:List Str)).map sC,9⟩),(34,⟨false,(([]:List Int)).map iC,3⟩)] [(1,1),(2,2),(100,100),(110,110),(33,33),(34,34)] ⟨rfl,⟨⟨rfl,rfl⟩,⟨rfl,rfl⟩,trivial⟩,⟨rfl,rfl,rfl,rfl,rfl,rfl,rfl,rfl,trivial⟩,⟨oR,oV (renV (rowsC_isV _)),oR,oR,oR,oR,trivial⟩⟩ (ClM.of (by simp only[List.all_cons,inMV (rowsC_isV _),inMV (v_iC _),inMV (v_sC _)];rfl)) (ClE.of rfl) ?_
    exact tail ([]:List Str) _ hq (Nat.zero_le _) hX
   |false=>
    rw[hi41]at hX
    simp only[Bool.not_false,cond_true]at hX
    refine vv ?_
    refine Sm.loopM (M0:=rM U p) (α:={x:List Str×Ps//x.2.at_<U.length∧x.1.length≤x.2.at_∧∃f,U.length≤x.2.at_+f∧rNms U f x.1 x.2=rNms U 40000 [] q}) hP (fun x=>[(0,true,.c (.p 1 0)),(2,true,.c (.p 100 0)),(3,true,.c (.p 110 0)),(4,true,I p2.at_),(5,true,I a),(6,true,I k),(7,true,I t)])
     (fun x=>[(1,⟨false,rsC U (x.val.2),124⟩),(2,⟨true,rowsC (U.map Tk.r),57⟩),(100,⟨false,[sC [],sC [],sC [],.v (.slice none 0 0),sC [],.v (.slice none 0 0)],82⟩),(110,⟨false,[sC y1.1,sC kd,sC [],.sl 33 0 (x.val.1).length 1,sC [],.sl 34 0 (([]:List Int)).length 1],82⟩),(33,⟨false,(x.val.1).map sC,9⟩),(34,⟨false,(([]:List Int)).map iC,3⟩)]) (fun x=>U.length-x.val.2.at_) ⟨([],q),hq,Nat.zero_le _,40000,by simp only;omega,rfl⟩ (fun x=>(ClM.of (by simp only[List.all_cons,inMV (rowsC_isV _),inMV (v_iC _),inMV (v_sC _)];rfl))) (fun _=>ClE.of rfl) [(1,1),(2,2),(100,100),(110,110),(33,33),(34,34)] ?_ ?_
    ·exact⟨rfl,⟨⟨rfl,rfl⟩,⟨rfl,rfl⟩,trivial⟩,⟨rfl,rfl,rfl,rfl,rfl,rfl,rfl,trivial⟩,⟨oR,oV (renV (rowsC_isV _)),oR,oR,oR,oR,trivial⟩⟩
    rintro⟨⟨l,w1⟩,hq1,hle,f',hf1,hf2⟩ J hb
    simp only at hb hq1 hle hf1 hf2⊢
    obtain⟨f',rfl⟩:∃k,f'=k+1:=⟨f'-1,by omega⟩
    rw[rNms]at hf2
    unfold rbd at hf2
    dsimp only at hf2
    have n1:=rNam_lt hV hq1
    have m1:=rNam_le (U:=U) w1
    have d1:=rname_ U hU w1 hq1 (hS.h w1) n1
    generalize rNam U w1=z1 at*
    have hll:(l.map sC).length=l.length:=List.length_map _
    have hal:List.take l.length (l.map sC)++[sC z1.1]=(l++[z1.1]).map sC:=by rw[List.take_of_length_le (by omega),List.map_append];rfl
    have hLl:(l++[z1.1]).length=l.length+1:=by rw[List.length_append];rfl
    refine Sm.go 320 ?_
    refine vv ?_
    refine Sm.dgW [1] 320 5 mix ?_
    simp(maxSteps:=2000000) only[go_sem,Mem.wo]
    refine DCallQ.mio 330 d1 (rM_cl U w1) rfl ⟨.inr ⟨rfl,rfl⟩,.inl rfl,trivial⟩ rfl rfl (.inl rfl) ?_
    simp(maxSteps:=2000000) only[go_sem,Mem.wo,hll,hal]
    refine⟨⟨by omega,by omega,by omega⟩,?_⟩
    refine CallQ.mi 340 (ris_ U hU z1.2 n1 3 [44]) (rM_cl U z1.2) ⟨oS,oS,trivial⟩ ?_
    cases hi44:rIs U 3 [44] z1.2 with
    |true=>
     rw[hi44]at hf2
     simp only[cond_true]at hf2
     have hadv:=rIs_lt hV (by decide) n1 hi44
     simp(maxSteps:=2000000) only[go_sem,aP hU n1]
     refine hb _ _ ⟨(l++[z1.1],advP z1.2),hadv,by show(l++[z1.1]).length≤z1.2.at_+1;omega,f',by show U.length≤z1.2.at_+1+f';omega,hf2⟩ [(1,1),(2,2),(100,100),(110,110),(33,331),(34,34)] (by show U.length-(z1.2.at_+1)<_;omega) ?_
     simp only[hLl]
     exact⟨rfl,⟨⟨rfl,rfl⟩,⟨rfl,rfl⟩,trivial⟩,⟨rfl,rfl,rfl,rfl,rfl,rfl,rfl,trivial⟩,⟨oR,oV (renV (rowsC_isV _)),oR,oR,oV (renV (v_sC _)),oR,trivial⟩⟩
    |false=>
     rw[hi44]at hf2
     simp only[cond_false]at hf2
     rw[←hf2]at hX
     clear hb
     refine vv ?_
     refine CallQ.mioS (ris_ U hU z1.2 n1 3 [59]) (rM_cl U z1.2) rfl ⟨oS,oS,trivial⟩ rfl (.inr rfl) ?_
     refine Sm.cutm (M0:=rM U p) hP [(0,true,.c (.p 1 0)),(2,true,.c (.p 100 0)),(3,true,.c (.p 110 0)),(4,true,I p2.at_),(5,true,I a),(6,true,I k),(7,true,I t),(93,true,Bo (rIs U 3 [59] (z1.2)))] [(1,⟨false,rsC U (z1.2),124⟩),(2,⟨true,rowsC (U.map Tk.r),57⟩),(100,⟨false,[sC [],sC [],sC [],.v (.slice none 0 0),sC [],.v (.slice none 0 0)],82⟩),(110,⟨false,[sC y1.1,sC kd,sC [],.sl 33 0 (l.length+1) 1,sC [],.sl 34 0 (([]:List Int)).length 1],82⟩),(33,⟨false,(l++[z1.1]).map sC,9⟩),(34,⟨false,(([]:List Int)).map iC,3⟩)] [(1,1),(2,2),(100,100),(110,110),(33,331),(34,34)] ⟨rfl,⟨⟨rfl,rfl⟩,⟨rfl,rfl⟩,trivial⟩,⟨rfl,rfl,rfl,rfl,rfl,rfl,rfl,rfl,trivial⟩,⟨oR,oV (renV (rowsC_isV _)),oR,oR,oV (renV (v_sC _)),oR,trivial⟩⟩ (ClM.of (by simp only[List.all_cons,inMV (rowsC_isV _),inMV (v_iC _),inMV (v_sC _)];rfl)) (ClE.of rfl) ?_
     have ht:=tail (l++[z1.1]) z1.2 n1 (by omega) hX
     rw[hLl]at ht
     exact ht
 intro l q hq hl hX
 unfold rBl4 rKs rbd at hX
 apply cutT (T:=fun todo=>∀(ks:List Int) (q:Ps),q.at_<U.length→ks.length≤40000→rBl5 U p2.at_ a k t kd y1.1 l ks q=X→Sm Tryz.prog 177 C todo [(0,true,.c (.p 1 0)),(2,true,.c (.p 100 0)),(3,true,.c (.p 110 0)),(4,true,I p2.at_),(5,true,I a),(6,true,I k),(7,true,I t)] [(1,⟨false,rsC U (q),124⟩),(2,⟨true,rowsC (U.map Tk.r),57⟩),(100,⟨false,[sC [],sC [],sC [],.v (.slice none 0 0),sC [],.v (.slice none 0 0)],82⟩),(110,⟨false,[sC y1.1,sC kd,sC [],.sl 33 0 (l).length 1,sC [],.sl 34 0 (ks).length 1],82⟩),(33,⟨false,(l).map sC,9⟩),(34,⟨false,(ks).map iC,3⟩)])
 ·intro tail
  cases hi59:rIs U 3 [59] q with
  |false=>
   rw[hi59]at hX
   simp only[cond_false]at hX
   refine Sm.go 400 ?_
   refine vv ?_
   refine CallQ.mioS (rtake_ U hU q hq 3 [41]) (rM_cl U q) rfl ⟨oS,oS,trivial⟩ rfl (.inl rfl) ?_
   refine Sm.cutm (M0:=rM U p) hP [(0,true,.c (.p 1 0)),(2,true,.c (.p 100 0)),(3,true,.c (.p 110 0)),(4,true,I p2.at_),(5,true,I a),(6,true,I k),(7,true,I t)] [(1,⟨false,rsC U (rTak U 3 [41] q),124⟩),(2,⟨true,rowsC (U.map Tk.r),57⟩),(100,⟨false,[sC [],sC [],sC [],.v (.slice none 0 0),sC [],.v (.slice none 0 0)],82⟩),(110,⟨false,[sC y1.1,sC kd,sC [],.sl 33 0 (l).length 1,sC [],.sl 34 0 (([]:List Int)).length 1],82⟩),(33,⟨false,(l).map sC,9⟩),(34,⟨false,(([]:List Int)).map iC,3⟩)] [(1,1),(2,2),(100,100),(110,110),(33,33),(34,34)] ⟨rfl,⟨⟨rfl,rfl⟩,⟨rfl,rfl⟩,trivial⟩,⟨rfl,rfl,rfl,rfl,rfl,rfl,rfl,trivial⟩,⟨oR,oV (renV (rowsC_isV _)),oR,oR,oV (renV (v_sC _)),oR,trivial⟩⟩ (ClM.of (by simp only[List.all_cons,inMV (rowsC_isV _),inMV (v_iC _),inMV (v_sC _)];rfl)) (ClE.of rfl) ?_
   exact tail [] _ (rTak_lt hV (by decide) hq) (Nat.zero_le _) hX
  |true=>
   rw[hi59]at hX
   simp only[cond_true]at hX
   have hadq:=rIs_lt hV (by decide) hq hi59
   refine Sm.go 400 ?_
   simp(maxSteps:=2000000) only[go_sem,aP hU hq]
   refine Sm.loopM (M0:=rM U p) (α:={x:List Int×Ps//x.2.at_<U.length∧x.1.length≤x.2.at_∧∃f,U.length≤x.2.at_+f∧rCms U f x.1 x.2=rCms U 40000 [] (advP q)}) hP (fun x=>[(0,true,.c (.p 1 0)),(2,true,.c (.p 100 0)),(3,true,.c (.p 110 0)),(4,true,I p2.at_),(5,true,I a),(6,true,I k),(7,true,I t)])
    (fun x=>[(1,⟨false,rsC U (x.val.2),124⟩),(2,⟨true,rowsC (U.map Tk.r),57⟩),(100,⟨false,[sC [],sC [],sC [],.v (.slice none 0 0),sC [],.v (.slice none 0 0)],82⟩),(110,⟨false,[sC y1.1,sC kd,sC [],.sl 33 0 (l).length 1,sC [],.sl 34 0 (x.val.1).length 1],82⟩),(33,⟨false,(l).map sC,9⟩),(34,⟨false,(x.val.1).map iC,3⟩)]) (fun x=>U.length-x.val.2.at_) ⟨([],advP q),hadq,Nat.zero_le _,40000,by simp only;omega,rfl⟩ (fun x=>(ClM.of (by simp only[List.all_cons,inMV (rowsC_isV _),inMV (v_iC _),inMV (v_sC _)];rfl))) (fun _=>ClE.of rfl) [(1,1),(2,2),(100,100),(110,110),(33,33),(34,34)] ?_ ?_
   ·exact⟨rfl,⟨⟨rfl,rfl⟩,⟨rfl,rfl⟩,trivial⟩,⟨rfl,rfl,rfl,rfl,rfl,rfl,rfl,trivial⟩,⟨oR,oV (renV (rowsC_isV _)),oR,oR,oV (renV (v_sC _)),oR,trivial⟩⟩
   rintro⟨⟨ks,w1⟩,hq1,hle,f',hf1,hf2⟩ J hb
   simp only at hb hq1 hle hf1 hf2⊢
   obtain⟨f',rfl⟩:∃k,f'=k+1:=⟨f'-1,by omega⟩
   rw[rCms]at hf2
   unfold rbd at hf2
   dsimp only at hf2
   have n1:=rNum_lt hV hq1
   have m1:=rNum_le (U:=U) w1
   have d1:=rnumber_ U hU w1 hq1
   generalize rNum U w1=z1 at*
   have hll:(ks.map iC).length=ks.length:=List.length_map _
   have hal:List.take ks.length (ks.map iC)++[iC z1.1]=(ks++[z1.1]).map iC:=by rw[List.take_of_length_le (by omega),List.map_append];rfl
   have hLl:(ks++[z1.1]).length=ks.length+1:=by rw[List.length_append];rfl
   refine Sm.go 420 ?_
   refine vv ?_
   refine Sm.dgW [1] 420 5 mix ?_
   simp(maxSteps:=2000000) only[go_sem,Mem.wo]
   refine DCallQ.mio 430 d1 (rM_cl U w1) rfl ⟨.inr ⟨rfl,rfl⟩,.inl rfl,trivial⟩ rfl rfl (.inl rfl) ?_
   simp(maxSteps:=2000000) only[go_sem,Mem.wo,hll,hal]
   refine⟨⟨by omega,by omega,by omega⟩,?_⟩
   refine CallQ.mi 440 (ris_ U hU z1.2 n1 3 [44]) (rM_cl U z1.2) ⟨oS,oS,trivial⟩ ?_
   cases hi44:rIs U 3 [44] z1.2 with
   |true=>
    rw[hi44]at hf2
    simp only[cond_true]at hf2
    have hadv:=rIs_lt hV (by decide) n1 hi44
    simp(maxSteps:=2000000) only[go_sem,aP hU n1]
    refine hb _ _ ⟨(ks++[z1.1],advP z1.2),hadv,by show(ks++[z1.1]).length≤z1.2.at_+1;omega,f',by show U.length≤z1.2.at_+1+f';omega,hf2⟩ [(1,1),(2,2),(100,100),(110,110),(33,33),(34,431)] (by show U.length-(z1.2.at_+1)<_;omega) ?_
    simp only[hLl]
    exact⟨rfl,⟨⟨rfl,rfl⟩,⟨rfl,rfl⟩,trivial⟩,⟨rfl,rfl,rfl,rfl,rfl,rfl,rfl,trivial⟩,⟨oR,oV (renV (rowsC_isV _)),oR,oR,oV (renV (v_sC _)),oV (renV (v_iC _)),trivial⟩⟩
   |false=>
    rw[hi44]at hf2
    simp only[cond_false]at hf2
    rw[←hf2]at hX
    clear hb
    refine vv ?_
    refine CallQ.mioS (rtake_ U hU z1.2 n1 3 [41]) (rM_cl U z1.2) rfl ⟨oS,oS,trivial⟩ rfl (.inl rfl) ?_
    refine Sm.cutm (M0:=rM U p) hP [(0,true,.c (.p 1 0)),(2,true,.c (.p 100 0)),(3,true,.c (.p 110 0)),(4,true,I p2.at_),(5,true,I a),(6,true,I k),(7,true,I t)] [(1,⟨false,rsC U (rTak U 3 [41] z1.2),124⟩),(2,⟨true,rowsC (U.map Tk.r),57⟩),(100,⟨false,[sC [],sC [],sC [],.v (.slice none 0 0),sC [],.v (.slice none 0 0)],82⟩),(110,⟨false,[sC y1.1,sC kd,sC [],.sl 33 0 (l).length 1,sC [],.sl 34 0 (ks.length+1) 1],82⟩),(33,⟨false,(l).map sC,9⟩),(34,⟨false,(ks++[z1.1]).map iC,3⟩)] [(1,1),(2,2),(100,100),(110,110),(33,33),(34,431)] ⟨rfl,⟨⟨rfl,rfl⟩,⟨rfl,rfl⟩,trivial⟩,⟨rfl,rfl,rfl,rfl,rfl,rfl,rfl,trivial⟩,⟨oR,oV (renV (rowsC_isV _)),oR,oR,oV (renV (v_sC _)),oV (renV (v_iC _)),trivial⟩⟩ (ClM.of (by simp only[List.all_cons,inMV (rowsC_isV _),inMV (v_iC _),inMV (v_sC _)];rfl)) (ClE.of rfl) ?_
    have ht:=tail (ks++[z1.1]) _ (rTak_lt hV (by decide) n1) (by omega) hX
    rw[hLl]at ht
    exact ht
 intro ks q hq hks hX
 refine Sm.go 500 ?_
 refine vv ?_
 unfold rBl5 rbd at hX
 dsimp only at hX
 have g1:=rTak_lt hV (k:=3) (s:=[58]) (by decide) hq
 have e1:=rtake_ U hU q hq 3 [58]
 generalize rTak U 3 [58] q=w1 at*
 have g2:=rNam_lt hV g1
 have e2:=rname_ U hU w1 g1 (hS.h w1) g2
 generalize rNam U w1=z1 at*
 have g3:=rEnd_lt g2
 have e3:=rend_ U hU z1.2 g2
 generalize rEnd U z1.2=w3 at*
 refine CallQ.mi 510 e1 (rM_cl U q) ⟨oS,oS,trivial⟩ ?_
 refine vv ?_
 refine CallQ.mi 520 e2 (rM_cl U w1) ⟨oS,oS,trivial⟩ ?_
 refine vv ?_
 refine CallQ.mioS e3 (rM_cl U z1.2) rfl ⟨oS,oS,trivial⟩ rfl (.inl rfl) ?_
 have ec1:decide ((0:Int)<(t:Int))=decide (0<t):=by rw[Bool.eq_iff_iff,decide_eq_true_eq,decide_eq_true_eq];omega
 have ec2:decide ((0:Int)<(l.length:Int))=decide (0<l.length):=by rw[Bool.eq_iff_iff,decide_eq_true_eq,decide_eq_true_eq];omega
 unfold rBlE at hX
 have eik:(intsR ks).length=ks.length:=by unfold intsR;rw[List.length_map]
 have eii:(strsR l).length=l.length:=by unfold strsR;rw[List.length_map]
 have eqK:((ks.length:Int)!=(k:Int))= !decide (ks.length=k):=by rw[Bool.eq_iff_iff,bne_iff_ne,Bool.not_eq_true',decide_eq_false_iff_not];omega
 cases ht0:decide (0<t)with
 |false=>
  have hTb:rTb t l=(l,[]):=by unfold rTb;rw[ht0];rfl
  rw[hTb,ht0]at hX
  dsimp only at hX
  have eqA:(((l.length:Nat):Int)!=(a:Int))= !decide (l.length=a):=by rw[Bool.eq_iff_iff,bne_iff_ne,Bool.not_eq_true',decide_eq_false_iff_not];omega
  refine Sm.go 540 ?_
  simp(maxSteps:=2000000) only[go_sem,ec1,ht0]
  have hX2:((⟨y1.1,kd,z1.1,l,[],ks⟩:Bl),bif bif bif (l.length:Int)!=(a:Int)then true else(ks.length:Int)!=(k:Int)then true else false then rRef U p2.at_ 1 w3 else w3)=X:=by
   rw[eqA,eqK]
   rw[←hX]
   cases decide (l.length=a)<;>cases decide (ks.length=k)<;>first|rfl|(cases l.getD (l.length-1) []==[]<;>rfl)
  cases hc:(bif bif (l.length:Int)!=(a:Int)then true else(ks.length:Int)!=(k:Int)then true else false)with
  |true=>
   rw[hc]at hX2
   subst hX2
   refine vv ?_
   refine CallQ.mi 550 (refuse_ U hU w3 p2.at_ h2 1) (rM_cl U w3) ⟨oS,oS,trivial⟩ ?_
   refine vv ?_
   refine RetQ.letgo (M0:=rM U p) [33,34] hL hP rfl (by unfold concOk;simp only[List.all_cons,cokV (v_sC _),cokV (v_iC _),cokV (rowsC_isV _)];rfl) (fun β C1 l1 k1 kn=>?_)
   obtain⟨sk,hvk,hkk⟩:=(kn 34 _ rfl rfl rfl).vslx (sz:=1) (rows:=intsR ks) (fun r hr=>by obtain⟨a,_,rfl⟩:=List.mem_map.1 hr;rfl) (intsC _).symm
   rw[eik]at hvk hkk
   obtain⟨si,hvi,hki⟩:=(kn 33 _ rfl rfl rfl).vslx (sz:=1) (rows:=strsR l) (fun r hr=>by obtain⟨a,_,rfl⟩:=List.mem_map.1 hr;rfl) (strsC _).symm
   rw[eii]at hvi hki
   simp only[Mem.conc,Env.conc,Bk.conc,Cv.conc,Vg.V.conc,List.map_cons,List.map_nil,List.contains_cons,List.contains_nil,Nat.reduceBEq,Bool.or_false,Bool.or_true,cond_true,cond_false,concV (rowsC_isV _),concV (v_iC _),concV (v_sC _),hvi,hvk]
   exact RetQ.of (hR (⟨⟨y1.1,kd,z1.1,l,[],ks⟩,si,sk⟩:BlL) C1 l1 ⟨rfl,hki,hkk⟩) rfl (vv trivial) rvr (sub_sh (SubS.sub ⟨oS,oS,trivial⟩)) (clm_sh (rM_cl U _)) (ClV.of rfl)
  |false=>
   rw[hc]at hX2
   subst hX2
   refine vv ?_
   refine RetQ.letgo (M0:=rM U p) [33,34] hL hP rfl (by unfold concOk;simp only[List.all_cons,cokV (v_sC _),cokV (v_iC _),cokV (rowsC_isV _)];rfl) (fun β C1 l1 k1 kn=>?_)
   obtain⟨sk,hvk,hkk⟩:=(kn 34 _ rfl rfl rfl).vslx (sz:=1) (rows:=intsR ks) (fun r hr=>by obtain⟨a,_,rfl⟩:=List.mem_map.1 hr;rfl) (intsC _).symm
   rw[eik]at hvk hkk
   obtain⟨si,hvi,hki⟩:=(kn 33 _ rfl rfl rfl).vslx (sz:=1) (rows:=strsR l) (fun r hr=>by obtain⟨a,_,rfl⟩:=List.mem_map.1 hr;rfl) (strsC _).symm
   rw[eii]at hvi hki
   simp only[Mem.conc,Env.conc,Bk.conc,Cv.conc,Vg.V.conc,List.map_cons,List.map_nil,List.contains_cons,List.contains_nil,Nat.reduceBEq,Bool.or_false,Bool.or_true,cond_true,cond_false,concV (rowsC_isV _),concV (v_iC _),concV (v_sC _),hvi,hvk]
   exact RetQ.of (hR (⟨⟨y1.1,kd,z1.1,l,[],ks⟩,si,sk⟩:BlL) C1 l1 ⟨rfl,hki,hkk⟩) rfl (vv trivial) rvr (sub_sh (SubS.sub ⟨oS,oS,trivial⟩)) (clm_sh (rM_cl U _)) (ClV.of rfl)
 |true=>
  cases hl0:decide (0<l.length)with
  |false=>
   have hTb:rTb t l=(l,[]):=by unfold rTb;rw[ht0,hl0];rfl
   rw[hTb,ht0]at hX
   dsimp only at hX
   have eqA:(((l.length:Nat):Int)!=(a:Int))= !decide (l.length=a):=by rw[Bool.eq_iff_iff,bne_iff_ne,Bool.not_eq_true',decide_eq_false_iff_not];omega
   refine Sm.go 540 ?_
   simp(maxSteps:=2000000) only[go_sem,ec1,ht0,ec2,hl0]
   have ett:((#[]:Array UInt8)== #[])=true:=rfl
   have hX2:((⟨y1.1,kd,z1.1,l,[],ks⟩:Bl),bif bif bif (l.length:Int)!=(a:Int)then true else(ks.length:Int)!=(k:Int)then true else true then rRef U p2.at_ 1 w3 else w3)=X:=by
    rw[eqA,eqK]
    rw[←hX]
    cases decide (l.length=a)<;>cases decide (ks.length=k)<;>first|rfl|(cases l.getD (l.length-1) []==[]<;>rfl)
   cases hc:(bif bif (l.length:Int)!=(a:Int)then true else(ks.length:Int)!=(k:Int)then true else true)with
   |true=>
    rw[hc]at hX2
    subst hX2
    refine vv ?_
    refine CallQ.mi 550 (refuse_ U hU w3 p2.at_ h2 1) (rM_cl U w3) ⟨oS,oS,trivial⟩ ?_
    refine vv ?_
    refine RetQ.letgo (M0:=rM U p) [33,34] hL hP rfl (by unfold concOk;simp only[List.all_cons,cokV (v_sC _),cokV (v_iC _),cokV (rowsC_isV _)];rfl) (fun β C1 l1 k1 kn=>?_)
    obtain⟨sk,hvk,hkk⟩:=(kn 34 _ rfl rfl rfl).vslx (sz:=1) (rows:=intsR ks) (fun r hr=>by obtain⟨a,_,rfl⟩:=List.mem_map.1 hr;rfl) (intsC _).symm
    rw[eik]at hvk hkk
    obtain⟨si,hvi,hki⟩:=(kn 33 _ rfl rfl rfl).vslx (sz:=1) (rows:=strsR l) (fun r hr=>by obtain⟨a,_,rfl⟩:=List.mem_map.1 hr;rfl) (strsC _).symm
    rw[eii]at hvi hki
    simp only[Mem.conc,Env.conc,Bk.conc,Cv.conc,Vg.V.conc,List.map_cons,List.map_nil,List.contains_cons,List.contains_nil,Nat.reduceBEq,Bool.or_false,Bool.or_true,cond_true,cond_false,concV (rowsC_isV _),concV (v_iC _),concV (v_sC _),hvi,hvk]
    exact RetQ.of (hR (⟨⟨y1.1,kd,z1.1,l,[],ks⟩,si,sk⟩:BlL) C1 l1 ⟨rfl,hki,hkk⟩) rfl (vv trivial) rvr (sub_sh (SubS.sub ⟨oS,oS,trivial⟩)) (clm_sh (rM_cl U _)) (ClV.of rfl)
   |false=>
    rw[hc]at hX2
    subst hX2
    refine vv ?_
    refine RetQ.letgo (M0:=rM U p) [33,34] hL hP rfl (by unfold concOk;simp only[List.all_cons,cokV (v_sC _),cokV (v_iC _),cokV (rowsC_isV _)];rfl) (fun β C1 l1 k1 kn=>?_)
    obtain⟨sk,hvk,hkk⟩:=(kn 34 _ rfl rfl rfl).vslx (sz:=1) (rows:=intsR ks) (fun r hr=>by obtain⟨a,_,rfl⟩:=List.mem_map.1 hr;rfl) (intsC _).symm
    rw[eik]at hvk hkk
    obtain⟨si,hvi,hki⟩:=(kn 33 _ rfl rfl rfl).vslx (sz:=1) (rows:=strsR l) (fun r hr=>by obtain⟨a,_,rfl⟩:=List.mem_map.1 hr;rfl) (strsC _).symm
    rw[eii]at hvi hki
    simp only[Mem.conc,Env.conc,Bk.conc,Cv.conc,Vg.V.conc,List.map_cons,List.map_nil,List.contains_cons,List.contains_nil,Nat.reduceBEq,Bool.or_false,Bool.or_true,cond_true,cond_false,concV (rowsC_isV _),concV (v_iC _),concV (v_sC _),hvi,hvk]
    exact RetQ.of (hR (⟨⟨y1.1,kd,z1.1,l,[],ks⟩,si,sk⟩:BlL) C1 l1 ⟨rfl,hki,hkk⟩) rfl (vv trivial) rvr (sub_sh (SubS.sub ⟨oS,oS,trivial⟩)) (clm_sh (rM_cl U _)) (ClV.of rfl)
  |true=>
   have hTb:rTb t l=(l.take (l.length-1),l.getD (l.length-1) []):=by unfold rTb;rw[ht0,hl0];rfl
   rw[hTb,ht0]at hX
   dsimp only at hX
   have hl1:0<l.length:=of_decide_eq_true hl0
   have hlt:(l.take (l.length-1)).length=l.length-1:=by rw[List.length_take];omega
   have eqA:(((l.length-1:Nat):Int)!=(a:Int))= !decide (l.length-1=a):=by rw[Bool.eq_iff_iff,bne_iff_ne,Bool.not_eq_true',decide_eq_false_iff_not];omega
   have ew:IntKind.i64.wrap ((l.length:Int)-1)=((l.length-1:Nat):Int):=by rw[w64 (by omega) (by omega)];omega
   have eg:(l.map sC)[l.length-1]?=some (sC (l.getD (l.length-1) [])):=by rw[List.getElem?_map,List.getElem?_eq_getElem (by omega),List.getD_eq_getElem?_getD,List.getElem?_eq_getElem (by omega)];rfl
   have ez:(((l.length-1:Nat):Int)-0).toNat=l.length-1:=by omega
   refine Sm.go 540 ?_
   simp(maxSteps:=2000000) only[go_sem,ec1,ht0,ec2,hl0,ew,eg,ez,Int.toNat_natCast]
   refine⟨⟨by omega,by omega⟩,⟨by omega,by omega,by rw[List.length_map];exact Nat.le_refl _⟩,?_⟩
   have hX2:((⟨y1.1,kd,z1.1,l.take (l.length-1),l.getD (l.length-1) [],ks⟩:Bl),bif bif bif ((l.length-1:Nat):Int)!=(a:Int)then true else(ks.length:Int)!=(k:Int)then true else l.getD (l.length-1) []==[]then rRef U p2.at_ 1 w3 else w3)=X:=by
    rw[eqA,eqK]
    rw[←hX]
    rw[hlt]
    cases decide (l.length-1=a)<;>cases decide (ks.length=k)<;>first|rfl|(cases l.getD (l.length-1) []==[]<;>rfl)
   cases hc:(bif bif ((l.length-1:Nat):Int)!=(a:Int)then true else(ks.length:Int)!=(k:Int)then true else l.getD (l.length-1) []==[])with
   |true=>
    rw[hc]at hX2
    subst hX2
    refine vv ?_
    refine CallQ.mi 550 (refuse_ U hU w3 p2.at_ h2 1) (rM_cl U w3) ⟨oS,oS,trivial⟩ ?_
    refine vv ?_
    refine RetQ.letgo (M0:=rM U p) [33,34] hL hP rfl (by unfold concOk;simp only[List.all_cons,cokV (v_sC _),cokV (v_iC _),cokV (rowsC_isV _)];rfl) (fun β C1 l1 k1 kn=>?_)
    obtain⟨sk,hvk,hkk⟩:=(kn 34 _ rfl rfl rfl).vslx (sz:=1) (rows:=intsR ks) (fun r hr=>by obtain⟨a,_,rfl⟩:=List.mem_map.1 hr;rfl) (intsC _).symm
    rw[eik]at hvk hkk
    obtain⟨si,hvi,hki⟩:=(kn 33 _ rfl rfl rfl).vslk (l:=l) rfl (k:=l.length-1) (by omega)
    simp only[Mem.conc,Env.conc,Bk.conc,Cv.conc,Vg.V.conc,List.map_cons,List.map_nil,List.contains_cons,List.contains_nil,Nat.reduceBEq,Bool.or_false,Bool.or_true,cond_true,cond_false,concV (rowsC_isV _),concV (v_iC _),concV (v_sC _),hvi,hvk]
    exact RetQ.of (hR (⟨⟨y1.1,kd,z1.1,l.take (l.length-1),l.getD (l.length-1) [],ks⟩,si,sk⟩:BlL) C1 l1 ⟨rfl,(by show SlH _ (vsl si (l.take (l.length-1)).length) 1 _;rw[hlt];exact hki),hkk⟩) rfl (vv trivial) (by simp(maxSteps:=2000000) only[go_sem,hlt]<;>rfl) (sub_sh (SubS.sub ⟨oS,oS,trivial⟩)) (clm_sh (rM_cl U _)) (ClV.of rfl)
   |false=>
    rw[hc]at hX2
    subst hX2
    refine vv ?_
    refine RetQ.letgo (M0:=rM U p) [33,34] hL hP rfl (by unfold concOk;simp only[List.all_cons,cokV (v_sC _),cokV (v_iC _),cokV (rowsC_isV _)];rfl) (fun β C1 l1 k1 kn=>?_)
    obtain⟨sk,hvk,hkk⟩:=(kn 34 _ rfl rfl rfl).vslx (sz:=1) (rows:=intsR ks) (fun r hr=>by obtain⟨a,_,rfl⟩:=List.mem_map.1 hr;rfl) (intsC _).symm
    rw[eik]at hvk hkk
    obtain⟨si,hvi,hki⟩:=(kn 33 _ rfl rfl rfl).vslk (l:=l) rfl (k:=l.length-1) (by omega)
    simp only[Mem.conc,Env.conc,Bk.conc,Cv.conc,Vg.V.conc,List.map_cons,List.map_nil,List.contains_cons,List.contains_nil,Nat.reduceBEq,Bool.or_false,Bool.or_true,cond_true,cond_false,concV (rowsC_isV _),concV (v_iC _),concV (v_sC _),hvi,hvk]
    exact RetQ.of (hR (⟨⟨y1.1,kd,z1.1,l.take (l.length-1),l.getD (l.length-1) [],ks⟩,si,sk⟩:BlL) C1 l1 ⟨rfl,(by show SlH _ (vsl si (l.take (l.length-1)).length) 1 _;rw[hlt];exact hki),hkk⟩) rfl (vv trivial) (by simp(maxSteps:=2000000) only[go_sem,hlt]<;>rfl) (sub_sh (SubS.sub ⟨oS,oS,trivial⟩)) (clm_sh (rM_cl U _)) (ClV.of rfl)
end Go.Proofs.YtlnpgbnhcondjaaGreatDoor.Fx
