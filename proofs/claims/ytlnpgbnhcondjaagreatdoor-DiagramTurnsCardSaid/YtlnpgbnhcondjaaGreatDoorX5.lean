/-  -/
import Derived.Test.YtlnpgbnhcondjaaGreatDoorShB
import Derived.Test.YtlnpgbnhcondjaaGreatDoorYS
import Derived.Test.YtlnpgbnhcondjaaGreatDoorY9
import Derived.Lib.ItoaLen
import Derived.Test.YtlnpgbnhcondjaaGreatDoorY0
import Derived.Test.YtlnpgbnhcondjaaGreatDoorQJ
namespace Go.Proofs.YtlnpgbnhcondjaaGreatDoor.Fx
open Vg Tf Go.Sort
set_option linter.unusedSimpArgs false
set_option linter.unusedVariables false
set_option maxRecDepth 100000
def pow10W:List Value:=Lib.pow10Tab.map fun z=>Value.int .u64 z
def PwR (H:Hp):Prop:=∃el mk,H 7 (.cells pow10W.toArray el mk)
theorem itoaH {H:Hp}(hW:PwR H)(n:Int)(h0: -9223372036854775808≤n)(h1:n≤9223372036854775807):CallH H Tryz.prog 259 [I n] (S (Lib.itoa n)):=by
 obtain⟨el,mk,hc⟩:=hW
 refine⟨en259,fun _ n b hn=>(by cases hn),fun _ n b b' hn=>(by cases hn),fun β w Z hm hH hZ=>?_⟩
 have hg:GlW [(7,pow10W)] w:=fun g cs h=>by
  obtain⟨rfl,rfl⟩:g=7∧cs=pow10W:=by simpa using h
  exact⟨el,mk,(hH _ _ hc).1⟩
 refine(Tryz.strconv_Itoa n h0 h1 w (hg.var (g:=7) (cs:=pow10W) (by simp) (by kernel_rfl))).mono ?_
 rintro en w' ⟨rfl,k,os,rfl⟩
 refine⟨(),β,fun _ _=>False,Agree.refl _ _,fun β'' _=>rfl,⟨fun β' _ n b hn=>(by cases hn),fun n b hn=>(by cases hn),fun n m b b' hn=>(by cases hn)⟩,⟨rfl,rfl,rfl,?_,fun b _ hb=>?_⟩,fun n hn=>(by cases hn),fun _ _ hf=>hf.elim,trivial⟩
 ·simp[grow,World.drewN]
 ·simp only[grow,World.drewN]
  rw[Array.getElem?_append_left hb]
theorem textH {H:Hp}(hW:PwR H)(n:Int)(h0: -9223372036854775808≤n)(h1:n≤9223372036854775807):CallH H Tryz.prog 222 [I n] (S (Lib.itoa n)):=by
 refine CallH.mkS Tryz.func222 rfl en222 (by simp[Tryz.ntmps222]) (ClA.of rfl) fun C hR hP hH hL=>?_
 refine Sm.go 100 ?_
 refine vv ?_
 refine CallQ.h 110 (itoaH hW n h0 h1) hH rfl ?_
 refine vv ?_
 exact RetQ.of (hR C hL) rfl ⟨rfl,trivial⟩ rfl (Sub.nil _) ClM.nil (ClV.of rfl)
theorem joinH {H:Hp}(s:Sv)(l:List Str)(sep:Str)(hs:SlH H (vsl s l.length) 1 (strsR l))(hl:l.length≤100000)(hlen:(Lib.join l sep).length≤140737488355328):CallH H Tryz.prog 21 [.c (.v (vsl s l.length)),S sep] (S (Lib.join l sep)):=by
 refine callX_below (Q:=fun _=>True) en21 fun β w hw=>?_
 cases l with
 |nil=>
  refine(Tryz.strings_Join_none s.o s.c ⟨sep.toArray⟩ w).mono ?_
  rintro e w' ⟨rfl,rfl⟩
  refine⟨(),fun _=>?_,RowKit.Below.refl _ _,trivial⟩
  have:Lib.join [] sep=[]:=by unfold Lib.join;rfl
  rw[this];rfl
 |cons x0 l0=>
  have hne:0<(x0::l0).length:=by simp
  generalize x0::l0=l at*
  obtain⟨lc,h1,h2,h3⟩:=hs
  have hfl:=strs_flat l
  have hsl:(strsR l).length=l.length:=by unfold strsR;rw[List.length_map]
  rw[hfl]at h3
  have hn:lc.nul=false:=by
   cases hq:lc.nul with
   |false=>rfl
   |true=>
    have:=congrArg List.length (h3.1 hq)
    rw[List.length_map]at this
    have:l.length=0:=this
    omega
  obtain⟨c,el,mk,q1,q2⟩:=h3.2.2 hn
  have hs:=h3.2.1
  rw[List.length_map]at hs
  rw[hsl]at h1
  have hv:vsl s l.length= .slice (some ⟨lc.blk,lc.org,none⟩) l.length lc.siz:=by
   rw[h1]
   simp only[Cv.g,hn,Bool.false_eq_true,false_and,if_false,Nat.add_zero,Nat.sub_zero,Nat.div_one]
  have hhp:=hw _ _ q1
  have hxs:(l.map fun x:Str=>(⟨x.toArray⟩:ByteArray)).length=l.length:=List.length_map _
  have hjn:Lib.join ((l.map fun x:Str=>(⟨x.toArray⟩:ByteArray)).map (·.data.toList)) (⟨sep.toArray⟩:ByteArray).data.toList=Lib.join l sep:=by
   rw[List.map_map]
   congr 1
   exact(List.map_congr_left fun x _=>rfl).trans (List.map_id _)
  have hargs:([V.c (.v (vsl s l.length)),S sep].map (V.g β)).toArray= #[.slice (some ⟨lc.blk,lc.org,none⟩) (l.map fun x:Str=>(⟨x.toArray⟩:ByteArray)).length lc.siz,.string ⟨sep.toArray⟩]:=by
   rw[hxs,hv];rfl
  rw[hargs]
  refine(Tryz.strings_Join lc.blk lc.org lc.siz (l.map fun x:Str=>(⟨x.toArray⟩:ByteArray)) ⟨sep.toArray⟩ w (fun j x hj=>?_) ?_ (by rw[hxs];omega) (by rw[hxs];omega) (by rw[hjn];exact hlen)).mono ?_
  ·rw[List.getElem?_map,Option.map_eq_some_iff]at hj
   obtain⟨y,hy,rfl⟩:=hj
   have:=q2 j (sv y) (by rw[List.getElem?_map,hy];rfl)
   simp[World.cell?,hhp,this]
  ·exact(Array.getElem?_eq_some_iff.1 hhp).1
  ·rintro e w' ⟨rfl,hb⟩
   exact⟨(),fun _=>by rw[hjn];rfl,hb,trivial⟩
end Go.Proofs.YtlnpgbnhcondjaaGreatDoor.Fx
namespace Go.Proofs.YtlnpgbnhcondjaaGreatDoor.Fx
open Vg Tf
set_option linter.unusedSimpArgs false
set_option linter.unusedVariables false
set_option maxRecDepth 100000
set_option maxHeartbeats 4000000
def wI (l:List Int)(i:Nat):List Str:=(l.take i).map Lib.itoa++List.replicate (l.length-i) []
theorem wI_len (l:List Int)(i:Nat)(h:i≤l.length):(wI l i).length=l.length:=by
 unfold wI;rw[List.length_append,List.length_map,List.length_take,List.length_replicate];omega
theorem wI_set (l:List Int)(i:Nat)(h:i<l.length):((wI l i).map sC).set i (sC (Lib.itoa l[i]))=(wI l (i+1)).map sC:=by
 rw[←List.map_set]
 congr 1
 unfold wI
 have h1:((l.take i).map Lib.itoa).length=i:=by rw[List.length_map,List.length_take];omega
 have h2:l.length-i=(l.length-(i+1))+1:=by omega
 rw[List.set_append_right _ _ (by omega),h1,Nat.sub_self,h2,List.replicate_succ,List.set_cons_zero,List.take_succ_eq_append_getElem h,List.map_append,List.append_assoc];rfl
theorem wI_all (l:List Int):wI l l.length=l.map Lib.itoa:=by unfold wI;simp
theorem wI_0 (l:List Int):reps l.length [Cv.v (.string ⟨#[]⟩)]=(wI l 0).map sC:=by rw[Vg.reps_one];unfold wI;simp
def inR (n:Int):Prop:= -9223372036854775808≤n∧n≤9223372036854775807
theorem mapped_ {H:Hp}(hW:PwR H)(s:Sv)(l:List Int)(hs:SlH H (vsl s l.length) 1 (intsR l))(hl:l.length≤100000)(hb:∀n∈l,inR n):
  CallX H Tryz.prog 258 [.c (.v (vsl s l.length)),Fv 222 #[]] [] (fun _:Unit=> .c (.sl 1 0 l.length 1)) (fun _=>[(1,⟨false,(l.map Lib.itoa).map sC,9⟩)]) (fun _ _=>True):=by
 refine CallX.mkS Tryz.func258 rfl en258 (by simp[Tryz.ntmps258]) (ClA.of rfl) (fun _=>rfl) (fun _=>rfl) fun C hR hP hH hL=>?_
 have hR:=hR () C hL trivial
 refine Sm.bringI 2 3 0 (hs.mono hH) rfl rfl ?_
 refine Sm.go 100 ?_
 refine vv ?_
 refine⟨⟨by omega,by omega,by omega⟩,?_⟩
 rw[wI_0]
 have v_s:∀i,((wI l i).map sC).all Cv.isV=true:=fun i=>v_sC _
 refine Sm.loopM (M0:=[]) (α:={i:Nat//i≤l.length}) hP (fun i=>[(1,true,Fv 222 #[]),(5,true,.c (.sl 5 0 l.length 1)),(11,true,.c (.sl 2 0 l.length 1)),(12,true,I l.length),(13,true,I i.val)])
  (fun i=>[(2,⟨true,l.map iC,3⟩),(5,⟨false,(wI l i.val).map sC,9⟩)]) (fun i=>l.length-i.val) ⟨0,by omega⟩ (fun i=>ClM.of (by simp only[List.all_cons,inMV (v_iC _),inMV (v_sC _)];rfl)) (fun _=>ClE.of rfl) [(2,2),(5,100)] ?_ ?_
 ·exact⟨rfl,trivial,⟨rfl,rfl,rfl,rfl,rfl,trivial⟩,⟨oV (renV (v_iC _)),oV (renV (v_sC _)),trivial⟩⟩
 rintro⟨i,hi⟩ J hj
 simp only at hj hi⊢
 refine Sm.go 110 ?_
 refine vv ?_
 refine mtch (fun hc=>?_) (fun hc=>?_)
 ·have hc:=lt_of_dec hc
  have hwl:((wI l i).map sC).length=l.length:=by rw[List.length_map,wI_len l i hi]
  have hbi:=hb _ (List.getElem_mem hc)
  simp(maxSteps:=2000000) only[go_sem,get_iC hc]
  refine⟨⟨by omega,by omega⟩,?_⟩
  refine CallQ.h 120 (textH hW l[i] hbi.1 hbi.2) hH rfl ?_
  simp(maxSteps:=2000000) only[go_sem,hwl,wI_set l i hc,wS (show i≤1000000000000000000 by omega)]
  refine⟨⟨by omega,by omega⟩,by omega,?_⟩
  exact hj _ _ ⟨i+1,hc⟩ [(2,2),(5,5)] (by simp only;omega) ⟨rfl,trivial,⟨rfl,rfl,rfl,rfl,rfl,trivial⟩,⟨oV (renV (v_iC _)),oV (renV (v_sC _)),trivial⟩⟩
 ·have hc:=eq_of_dec hi hc
  subst hc
  rw[wI_all]
  exact RetQ.ren [(1,5)] hR hP rfl (vv trivial) rfl rfl trivial ⟨oV (renV (v_sC _)),trivial⟩ (ClM.of (by simp only[List.cons_append,List.nil_append,List.all_cons,inMV (v_sC _)];rfl)) (ClV.of rfl)
def lnX (w:Str)(l:List Int):Str:=((w++[32])++Lib.join (l.map Lib.itoa) [32])++[10]
theorem join_len (n:Nat):∀(L:List Str) (sep:Str),(∀x∈L,x.length≤n)→(Lib.join L sep).length≤L.length*(n+sep.length)
 |[],sep,_=>by unfold Lib.join;simp
 |[x],sep,h=>by
  have:=h x (List.mem_cons_self ..)
  unfold Lib.join
  simp only[List.intercalate,List.intersperse_singleton,List.flatten_cons,List.flatten_nil,List.append_nil,List.length_cons,List.length_nil]
  omega
 |x::y::L,sep,h=>by
  have h1:=h x (List.mem_cons_self ..)
  have ih:=join_len n (y::L) sep fun z hz=>h z (List.mem_cons_of_mem _ hz)
  have e:Lib.join (x::y::L) sep=x++(sep++Lib.join (y::L) sep):=by unfold Lib.join;simp[List.intercalate,List.intersperse]
  rw[e,List.length_append,List.length_append]
  simp only[List.length_cons]at ih⊢
  rw[Nat.succ_mul];omega
theorem jn_le {l:List Int}(hb:∀n∈l,inR n):(Lib.join (l.map Lib.itoa) [32]).length≤l.length*22:=by
 have:=join_len 21 (l.map Lib.itoa) [32] fun x hx=>by
  obtain⟨n,hn,rfl⟩:=List.mem_map.1 hx
  exact Lib.itoa_length_le n (hb n hn).1 (hb n hn).2
 rw[List.length_map]at this
 exact this
theorem lnX_le {w:Str}{l:List Int}(hb:∀n∈l,inR n):(lnX w l).length≤w.length+l.length*22+2:=by
 have:=jn_le hb
 unfold lnX
 simp only[List.length_append,List.length_cons,List.length_nil];omega
theorem lineH {H:Hp}(hW:PwR H)(w:Str)(hw:w.length≤100)(s:Sv)(l:List Int)(hs:SlH H (vsl s l.length) 1 (intsR l))(hl:l.length≤100000)(hb:∀n∈l,inR n):
  CallH H Tryz.prog 221 [S w,.c (.v (vsl s l.length))] (S (lnX w l)):=by
 have hjl:=jn_le hb
 have v_s:=v_sC
 have hml:(l.map Lib.itoa).length=l.length:=List.length_map _
 refine CallH.mkS Tryz.func221 rfl en221 (by simp[Tryz.ntmps221]) (ClA.of rfl) fun C hR hP hH hL=>?_
 refine Sm.go 100 ?_
 refine vv ?_
 refine⟨by omega,?_⟩
 refine CallQ.x 110 hL (mapped_ hW s l hs hl hb) hH (SubS.sub trivial) ClM.nil (fun _=>Fresh.of rfl) rfl rfl rfl (fun _ C1 H1 l1 k1 j1 _=>?_)
 refine vv ?_
 refine CallQ.letgo (xs:=[_,_]) (M0:=[]) [1] l1 hP rfl (by unfold concOk;simp only[List.all_cons,cokV (v_sC _)];rfl) rfl en21 rfl rfl (fun β C2 l2 k2 kn=>?_)
 obtain⟨sj,hvj,hkj⟩:=(kn 1 _ rfl rfl rfl).vslx (sz:=1) (rows:=strsR (l.map Lib.itoa)) (fun r hr=>by obtain⟨a,_,rfl⟩:=List.mem_map.1 hr;rfl) (strsC _).symm
 have eij:(strsR (l.map Lib.itoa)).length=l.length:=by unfold strsR;rw[List.length_map,hml]
 rw[eij]at hvj hkj
 simp only[Mem.conc,Env.conc,Bk.conc,Cv.conc,V.conc,W.conc,List.map_cons,List.map_nil,List.contains_cons,List.contains_nil,Nat.reduceBEq,Bool.or_false,Bool.or_true,cond_true,cond_false,concV (v_sC _),hvj]
 have hj:=joinH (H:=C2.hp) sj (l.map Lib.itoa) [32] (by rw[hml];exact hkj) (by rw[hml];exact hl) (by omega)
 rw[hml]at hj
 refine CallW.h 120 l2 hj (Hp.le.refl _) rfl (fun C3 l3 k3=>?_)
 refine vv ?_
 refine⟨by simp only[List.length_append,List.length_cons,List.length_nil];omega,by simp only[List.length_append,List.length_cons,List.length_nil];omega,?_⟩
 exact RetQ.of (hR C3 l3) rfl ⟨rfl,trivial⟩ rfl (Sub.nil _) ClM.nil (ClV.of rfl)
def mtX (xs ys:List Int)(zs:List (List Int)):Str:=zs.foldl (fun s z=>s++lnX [122] z) (lnX [120] xs++lnX [121] ys)
theorem near_inR {l:List Int}(h:l.all nearB=true):∀n∈l,inR n:=fun n hn=>by
 have:=List.all_eq_true.1 h n hn
 unfold nearB at this
 have:=of_decide_eq_true this
 exact⟨by omega,by omega⟩
theorem axOk_l {l:List Int}(h:axOk l=true):l.length≤32∧∀n∈l,inR n:=by
 unfold axOk at h
 rw[Bool.and_eq_true,decide_eq_true_eq,Bool.and_eq_true]at h
 exact⟨h.1.2,near_inR h.2.1⟩
theorem maOk_l {xs ys:List Int}{zs:List (List Int)}(h:maOk xs ys zs=true):(xs.length≤32∧∀n∈xs,inR n)∧(ys.length≤32∧∀n∈ys,inR n)∧zs.length≤32∧∀z∈zs,z.length≤32∧∀n∈z,inR n:=by
 unfold maOk at h
 simp only[Bool.and_eq_true,decide_eq_true_eq,List.all_eq_true]at h
 obtain⟨h1,h2,h3,h4⟩:=h
 have a1:=axOk_l h1
 have a2:=axOk_l h2
 refine⟨a1,a2,by omega,fun z hz=>?_⟩
 obtain⟨q1,q2⟩:=h4 z hz
 exact⟨by omega,near_inR (List.all_eq_true.2 q2)⟩
theorem mtX_step (A:Str)(zs:List (List Int))(i:Nat)(h:i<zs.length):(zs.take (i+1)).foldl (fun s z=>s++lnX [122] z) A=(zs.take i).foldl (fun s z=>s++lnX [122] z) A++lnX [122] zs[i]:=by
 rw[List.take_succ_eq_append_getElem h,List.foldl_append];rfl
theorem mtX_le {A:Str}(hA:A.length≤2000):∀(zs:List (List Int)),(∀z∈zs,z.length≤32∧∀n∈z,inR n)→∀B:Str,(zs.foldl (fun s z=>s++lnX [122] z) B).length≤B.length+zs.length*800
 |[],_,B=>by simp
 |z::zs,h,B=>by
  have h1:=h z (List.mem_cons_self ..)
  have h2:=lnX_le (w:=[122]) h1.2
  have ih:=mtX_le hA zs (fun y hy=>h y (List.mem_cons_of_mem _ hy)) (B++lnX [122] z)
  rw[List.foldl_cons,List.length_cons]
  rw[List.length_append]at ih
  simp only[List.length_cons,List.length_nil]at h2
  omega
theorem stext_ {H:Hp}(hW:PwR H)(m:MpL)(hm:m.ok H)(hv:maOk m.xs m.ys (m.zs.map (·.2))=true):
  CallH H Tryz.prog 128 [.agg [.v (vsl m.x m.xs.length),.v (vsl m.y m.ys.length),.v (vsl m.z m.zs.length)]] (S (mtX m.xs m.ys (m.zs.map (·.2)))):=by
 obtain⟨a1,a2,a3,a4⟩:=maOk_l hv
 rw[List.length_map]at a3
 have hzl:(zrV m).length=m.zs.length:=List.length_map _
 have hsv:=svalidM (H:=H) m hm fun v hv=>by have:=(a4 v.2 (List.mem_map.2 ⟨v,hv,rfl⟩)).1;omega
 rw[hv]at hsv
 have l1:=lineH (H:=H) hW [120] (by decide) m.x m.xs hm.x (by omega) a1.2
 have l2:=lineH (H:=H) hW [121] (by decide) m.y m.ys hm.y (by omega) a2.2
 have b1:=lnX_le (w:=[120]) a1.2
 have b2:=lnX_le (w:=[121]) a2.2
 simp only[List.length_cons,List.length_nil]at b1 b2
 refine CallH.mkS Tryz.func128 rfl en128 (by simp[Tryz.ntmps128]) (ClA.of rfl) fun C hR hP hH hL=>?_
 refine Sm.go 100 ?_
 refine vv ?_
 refine CallQ.h 110 hsv hH rfl ?_
 refine vv ?_
 refine Sm.dg 120 5 mix ?_
 refine vv ?_
 refine DCallQ.h 130 (fun _=>l1) hH (fun _=>rfl) ?_
 refine vv ?_
 refine CallQ.h 140 l2 hH rfl ?_
 refine vv ?_
 refine⟨by omega,?_⟩
 refine Sm.bringR 5 73 17 (rows:=zrV m) (by have:=hm.z.mono hH;exact this) rfl rfl ?_
 rw[hzl]
 have hzm:(m.zs.map (·.2)).length=m.zs.length:=List.length_map _
 generalize hA:lnX [120] m.xs++lnX [121] m.ys=A at*
 have hAl:A.length≤2000:=by rw[←hA,List.length_append];omega
 have hmt:mtX m.xs m.ys (m.zs.map (·.2))=(m.zs.map (·.2)).foldl (fun s z=>s++lnX [122] z) A:=by unfold mtX;rw[hA]
 rw[hmt]at hR
 refine Sm.loopM (M0:=[]) (α:={i:Nat//i≤m.zs.length}) hP (fun i=>[(3,true,S (((m.zs.map (·.2)).take i.val).foldl (fun s z=>s++lnX [122] z) A)),(17,true,.c (.sl 5 0 m.zs.length 1)),(18,true,I m.zs.length),(19,true,I i.val)])
  (fun _=>[(5,⟨true,rowsC (zrV m),73⟩)]) (fun i=>m.zs.length-i.val) ⟨0,by omega⟩ (fun _=>ClM.of (by simp only[List.all_cons,inMV (rowsC_isV _)];rfl)) (fun _=>ClE.of rfl) [(5,5)] ?_ ?_
 ·exact⟨rfl,trivial,⟨rfl,rfl,rfl,rfl,trivial⟩,⟨oV (renV (rowsC_isV _)),trivial⟩⟩
 rintro⟨i,hi⟩ J hj
 simp only at hj hi⊢
 refine Sm.go 150 ?_
 refine vv ?_
 refine mtch (fun hc=>?_) (fun hc=>?_)
 ·have hc:=lt_of_dec hc
  have hmem:m.zs[i]∈m.zs:=List.getElem_mem hc
  have ha:=a4 m.zs[i].2 (List.mem_map.2 ⟨_,hmem,rfl⟩)
  have l3:=lineH (H:=H) hW [122] (by decide) m.zs[i].1 m.zs[i].2 (hm.e _ hmem) (by omega) ha.2
  have hst:=mtX_step A (m.zs.map (·.2)) i (by rw[hzm];exact hc)
  rw[List.getElem_map]at hst
  have hle:=mtX_le hAl ((m.zs.map (·.2)).take i) (fun z hz=>a4 z (List.mem_of_mem_take hz)) A
  rw[List.length_take]at hle
  have hle3:=lnX_le (w:=[122]) ha.2
  simp only[List.length_cons,List.length_nil]at hle3
  have hm1:min i (m.zs.map (·.2)).length≤32:=by rw[hzm];omega
  generalize List.foldl (fun s z=>s++lnX [122] z) A (List.take i (m.zs.map (·.2)))=F at hst hle⊢
  simp(maxSteps:=2000000) only[go_sem,zr_get hc]
  refine⟨⟨by omega,by omega⟩,?_⟩
  refine CallQ.h 160 l3 hH rfl ?_
  simp(maxSteps:=2000000) only[go_sem,←hst,wS (show i≤1000000000000000000 by omega)]
  refine⟨by omega,?_⟩
  exact hj _ _ ⟨i+1,hc⟩ [(5,5)] (by simp only;omega) ⟨rfl,trivial,⟨rfl,rfl,rfl,rfl,trivial⟩,⟨oV (renV (rowsC_isV _)),trivial⟩⟩
 ·have hc:=eq_of_dec hi hc
  have:(m.zs.map (·.2)).take i=m.zs.map (·.2):=List.take_of_length_le (by rw[hzm];omega)
  rw[this]
  exact RetQ.of (hR C hL) rfl ⟨rfl,trivial⟩ rfl (Sub.nil _) ClM.nil (ClV.of rfl)
theorem take_eq_succ {α:Type}{la lb:List α}{i:Nat}(ha:i<la.length)(hb:i<lb.length)(h:la.take i=lb.take i)(he:la[i]=lb[i]):la.take (i+1)=lb.take (i+1):=by
 rw[List.take_succ_eq_append_getElem ha,List.take_succ_eq_append_getElem hb,h,he]
theorem eq_of_take {α:Type}{la lb:List α}(h:la.take la.length=lb.take la.length)(hl:la.length=lb.length):la=lb:=by
 rw[List.take_length,hl,List.take_length]at h;exact h
theorem eqG_td {H:Hp}(a b:Sv)(la lb:List Td)(ha:SlH H (vsl a la.length) 11 (la.map Td.r))(hb:SlH H (vsl b lb.length) 11 (lb.map Td.r))(hl:la.length≤1000000000000000)(e:Bool)(he:e=true↔la=lb):
  CallH H Tryz.prog 119 [.c (.v (vsl a la.length)),.c (.v (vsl b lb.length))] (Bo e):=by
 refine CallH.mkS Tryz.func119 rfl en119 (by simp[Tryz.ntmps119]) (ClA.of rfl) fun C hR hP hH hL=>?_
 refine Sm.bringR 1 93 0 (ha.mono hH) rfl rfl ?_
 refine Sm.bringR 2 93 1 (hb.mono hH) rfl rfl ?_
 have n1:(la.map Td.r).length=la.length:=List.length_map _
 have n2:(lb.map Td.r).length=lb.length:=List.length_map _
 rw[n1,n2]
 refine Sm.go 100 ?_
 have e0:((la.length:Int)!=(lb.length:Int))= !decide (la.length=lb.length):=by rw[Bool.eq_iff_iff,bne_iff_ne,Bool.not_eq_true',decide_eq_false_iff_not];omega
 simp(maxSteps:=2000000) only[go_sem,e0]
 cases hd:decide (la.length=lb.length)with
 |false=>
  have hd:=of_decide_eq_false hd
  have hef:e=false:=by
   cases h:e with
   |false=>rfl
   |true=>exact absurd (congrArg List.length (he.1 h)) hd
  subst hef
  refine vv ?_
  exact RetQ.bool (hR C hL) rfl ⟨rfl,trivial⟩ rfl
 |true=>
 have hd:=of_decide_eq_true hd
 refine vv ?_
 refine Sm.loopM (M0:=[]) (α:={i:Nat//i≤la.length∧la.take i=lb.take i}) hP (fun i=>[(0,true,.c (.sl 1 0 la.length 11)),(1,true,.c (.sl 2 0 lb.length 11)),(12,true,I la.length),(13,true,I i.val)])
  (fun _=>[(1,⟨true,rowsC (la.map Td.r),93⟩),(2,⟨true,rowsC (lb.map Td.r),93⟩)]) (fun i=>la.length-i.val) ⟨0,by omega,rfl⟩ (fun _=>ClM.of (by simp only[List.all_cons,inMV (rowsC_isV _),inMV (v_sC _),inMV (v_iC _)];rfl)) (fun _=>ClE.of rfl) [(1,1),(2,2)] ?_ ?_
 ·exact⟨rfl,trivial,⟨rfl,rfl,rfl,rfl,trivial⟩,⟨oV (renV (rowsC_isV _)),oV (renV (rowsC_isV _)),trivial⟩⟩
 rintro⟨i,hi,hx⟩ J hj
 simp only at hj hi hx⊢
 refine Sm.go 110 ?_
 refine vv ?_
 refine mtch (fun hc=>?_) (fun hc=>?_)
 ·have hc:=lt_of_dec hc
  have hcb:i<lb.length:=by omega
  have ga:=rows_take (r:=Td.r) (k:=11) (fun _=>rfl) la i hc
  have gb:=rows_take (r:=Td.r) (k:=11) (fun _=>rfl) lb i hcb
  have za:=rows_len (r:=Td.r) (k:=11) (fun _=>rfl) la
  have zb:=rows_len (r:=Td.r) (k:=11) (fun _=>rfl) lb
  have hne:la[i]≠lb[i]→e=false:=fun hq=>by
   cases h:e with
   |false=>rfl
   |true=>
    have:=he.1 h
    subst this
    exact absurd rfl hq
  have hnx:=take_eq_succ hc hcb hx
  generalize la[i]=x at*
  generalize lb[i]=y at*
  refine Sm.dg 110 8 mix ?_
  simp(maxSteps:=2000000) only[go_sem,ga,gb,za,zb,wS (show i≤1000000000000000000 by omega)]
  refine⟨⟨by omega,by omega⟩,by omega,⟨by omega,by omega⟩,by omega,?_⟩
  refine mtch (fun hq=>?_) (fun hq=>?_)
  ·have hxy:x≠y:=by
    rintro rfl
    simp at hq
   have hef:=hne hxy
   subst hef
   exact RetQ.bool (hR C hL) rfl ⟨rfl,trivial⟩ rfl
  ·have hxy:x=y:=by
    obtain⟨xn,xt⟩:=x
    obtain⟨yn,yt⟩:=y
    obtain⟨x0,x1,x2,x3,x4,x5,x6,x7,x8,x9⟩:=xt
    obtain⟨y0,y1,y2,y3,y4,y5,y6,y7,y8,y9⟩:=yt
    simp at hq
    simp[hq]
   exact hj _ _ ⟨i+1,hc,hnx hxy⟩ [(1,1),(2,2)] (by simp only;omega) ⟨rfl,trivial,⟨rfl,rfl,rfl,rfl,trivial⟩,⟨oV (renV (rowsC_isV _)),oV (renV (rowsC_isV _)),trivial⟩⟩
 ·have hc:=eq_of_dec hi hc
  subst hc
  have het:=he.2 (eq_of_take hx hd)
  subst het
  exact RetQ.bool (hR C hL) rfl ⟨rfl,trivial⟩ rfl
theorem eqG_po {H:Hp}(a b:Sv)(la lb:List Po)(ha:SlH H (vsl a la.length) 4 (la.map Po.r))(hb:SlH H (vsl b lb.length) 4 (lb.map Po.r))(hl:la.length≤1000000000000000)(e:Bool)(he:e=true↔la=lb):
  CallH H Tryz.prog 120 [.c (.v (vsl a la.length)),.c (.v (vsl b lb.length))] (Bo e):=by
 refine CallH.mkS Tryz.func120 rfl en120 (by simp[Tryz.ntmps120]) (ClA.of rfl) fun C hR hP hH hL=>?_
 refine Sm.bringR 1 118 0 (ha.mono hH) rfl rfl ?_
 refine Sm.bringR 2 118 1 (hb.mono hH) rfl rfl ?_
 have n1:(la.map Po.r).length=la.length:=List.length_map _
 have n2:(lb.map Po.r).length=lb.length:=List.length_map _
 rw[n1,n2]
 refine Sm.go 100 ?_
 have e0:((la.length:Int)!=(lb.length:Int))= !decide (la.length=lb.length):=by rw[Bool.eq_iff_iff,bne_iff_ne,Bool.not_eq_true',decide_eq_false_iff_not];omega
 simp(maxSteps:=2000000) only[go_sem,e0]
 cases hd:decide (la.length=lb.length)with
 |false=>
  have hd:=of_decide_eq_false hd
  have hef:e=false:=by
   cases h:e with
   |false=>rfl
   |true=>exact absurd (congrArg List.length (he.1 h)) hd
  subst hef
  refine vv ?_
  exact RetQ.bool (hR C hL) rfl ⟨rfl,trivial⟩ rfl
 |true=>
 have hd:=of_decide_eq_true hd
 refine vv ?_
 refine Sm.loopM (M0:=[]) (α:={i:Nat//i≤la.length∧la.take i=lb.take i}) hP (fun i=>[(0,true,.c (.sl 1 0 la.length 4)),(1,true,.c (.sl 2 0 lb.length 4)),(12,true,I la.length),(13,true,I i.val)])
  (fun _=>[(1,⟨true,rowsC (la.map Po.r),118⟩),(2,⟨true,rowsC (lb.map Po.r),118⟩)]) (fun i=>la.length-i.val) ⟨0,by omega,rfl⟩ (fun _=>ClM.of (by simp only[List.all_cons,inMV (rowsC_isV _),inMV (v_sC _),inMV (v_iC _)];rfl)) (fun _=>ClE.of rfl) [(1,1),(2,2)] ?_ ?_
 ·exact⟨rfl,trivial,⟨rfl,rfl,rfl,rfl,trivial⟩,⟨oV (renV (rowsC_isV _)),oV (renV (rowsC_isV _)),trivial⟩⟩
 rintro⟨i,hi,hx⟩ J hj
 simp only at hj hi hx⊢
 refine Sm.go 110 ?_
 refine vv ?_
 refine mtch (fun hc=>?_) (fun hc=>?_)
 ·have hc:=lt_of_dec hc
  have hcb:i<lb.length:=by omega
  have ga:=rows_take (r:=Po.r) (k:=4) (fun _=>rfl) la i hc
  have gb:=rows_take (r:=Po.r) (k:=4) (fun _=>rfl) lb i hcb
  have za:=rows_len (r:=Po.r) (k:=4) (fun _=>rfl) la
  have zb:=rows_len (r:=Po.r) (k:=4) (fun _=>rfl) lb
  have hne:la[i]≠lb[i]→e=false:=fun hq=>by
   cases h:e with
   |false=>rfl
   |true=>
    have:=he.1 h
    subst this
    exact absurd rfl hq
  have hnx:=take_eq_succ hc hcb hx
  generalize la[i]=x at*
  generalize lb[i]=y at*
  refine Sm.dg 110 8 mix ?_
  simp(maxSteps:=2000000) only[go_sem,ga,gb,za,zb,wS (show i≤1000000000000000000 by omega)]
  refine⟨⟨by omega,by omega⟩,by omega,⟨by omega,by omega⟩,by omega,?_⟩
  refine mtch (fun hq=>?_) (fun hq=>?_)
  ·have hxy:x≠y:=by
    rintro rfl
    simp at hq
   have hef:=hne hxy
   subst hef
   exact RetQ.bool (hR C hL) rfl ⟨rfl,trivial⟩ rfl
  ·have hxy:x=y:=by
    obtain⟨x0,x1,x2,x3⟩:=x
    obtain⟨y0,y1,y2,y3⟩:=y
    simp at hq
    simp[hq]
   exact hj _ _ ⟨i+1,hc,hnx hxy⟩ [(1,1),(2,2)] (by simp only;omega) ⟨rfl,trivial,⟨rfl,rfl,rfl,rfl,trivial⟩,⟨oV (renV (rowsC_isV _)),oV (renV (rowsC_isV _)),trivial⟩⟩
 ·have hc:=eq_of_dec hi hc
  subst hc
  have het:=he.2 (eq_of_take hx hd)
  subst het
  exact RetQ.bool (hR C hL) rfl ⟨rfl,trivial⟩ rfl
theorem eqG_st {H:Hp}(a b:Sv)(la lb:List Str)(ha:SlH H (vsl a la.length) 1 (strsR la))(hb:SlH H (vsl b lb.length) 1 (strsR lb))(hl:la.length≤1000000000000000)(e:Bool)(he:e=true↔la=lb):
  CallH H Tryz.prog 121 [.c (.v (vsl a la.length)),.c (.v (vsl b lb.length))] (Bo e):=by
 refine CallH.mkS Tryz.func121 rfl en121 (by simp[Tryz.ntmps121]) (ClA.of rfl) fun C hR hP hH hL=>?_
 refine Sm.bringS 1 9 0 (ha.mono hH) rfl rfl ?_
 refine Sm.bringS 2 9 1 (hb.mono hH) rfl rfl ?_
 refine Sm.go 100 ?_
 have e0:((la.length:Int)!=(lb.length:Int))= !decide (la.length=lb.length):=by rw[Bool.eq_iff_iff,bne_iff_ne,Bool.not_eq_true',decide_eq_false_iff_not];omega
 simp(maxSteps:=2000000) only[go_sem,e0]
 cases hd:decide (la.length=lb.length)with
 |false=>
  have hd:=of_decide_eq_false hd
  have hef:e=false:=by
   cases h:e with
   |false=>rfl
   |true=>exact absurd (congrArg List.length (he.1 h)) hd
  subst hef
  refine vv ?_
  exact RetQ.bool (hR C hL) rfl ⟨rfl,trivial⟩ rfl
 |true=>
 have hd:=of_decide_eq_true hd
 refine vv ?_
 refine Sm.loopM (M0:=[]) (α:={i:Nat//i≤la.length∧la.take i=lb.take i}) hP (fun i=>[(0,true,.c (.sl 1 0 la.length 1)),(1,true,.c (.sl 2 0 lb.length 1)),(12,true,I la.length),(13,true,I i.val)])
  (fun _=>[(1,⟨true,la.map sC,9⟩),(2,⟨true,lb.map sC,9⟩)]) (fun i=>la.length-i.val) ⟨0,by omega,rfl⟩ (fun _=>ClM.of (by simp only[List.all_cons,inMV (rowsC_isV _),inMV (v_sC _),inMV (v_iC _)];rfl)) (fun _=>ClE.of rfl) [(1,1),(2,2)] ?_ ?_
 ·exact⟨rfl,trivial,⟨rfl,rfl,rfl,rfl,trivial⟩,⟨oV (renV (v_sC _)),oV (renV (v_sC _)),trivial⟩⟩
 rintro⟨i,hi,hx⟩ J hj
 simp only at hj hi hx⊢
 refine Sm.go 110 ?_
 refine vv ?_
 refine mtch (fun hc=>?_) (fun hc=>?_)
 ·have hc:=lt_of_dec hc
  have hcb:i<lb.length:=by omega
  have ga:=get_sC hc
  have gb:=get_sC hcb
  have hne:la[i]≠lb[i]→e=false:=fun hq=>by
   cases h:e with
   |false=>rfl
   |true=>
    have:=he.1 h
    subst this
    exact absurd rfl hq
  have hnx:=take_eq_succ hc hcb hx
  generalize la[i]=x at*
  generalize lb[i]=y at*
  refine Sm.dg 110 8 mix ?_
  simp(maxSteps:=2000000) only[go_sem,ga,gb,wS (show i≤1000000000000000000 by omega)]
  refine⟨⟨by omega,by omega⟩,⟨by omega,by omega⟩,?_⟩
  refine mtch (fun hq=>?_) (fun hq=>?_)
  ·have hxy:x≠y:=by
    rintro rfl
    simp at hq
   have hef:=hne hxy
   subst hef
   exact RetQ.bool (hR C hL) rfl ⟨rfl,trivial⟩ rfl
  ·have hxy:x=y:=by
    simpa using hq
   exact hj _ _ ⟨i+1,hc,hnx hxy⟩ [(1,1),(2,2)] (by simp only;omega) ⟨rfl,trivial,⟨rfl,rfl,rfl,rfl,trivial⟩,⟨oV (renV (v_sC _)),oV (renV (v_sC _)),trivial⟩⟩
 ·have hc:=eq_of_dec hi hc
  subst hc
  have het:=he.2 (eq_of_take hx hd)
  subst het
  exact RetQ.bool (hR C hL) rfl ⟨rfl,trivial⟩ rfl
theorem eqG_in {H:Hp}(a b:Sv)(la lb:List Int)(ha:SlH H (vsl a la.length) 1 (intsR la))(hb:SlH H (vsl b lb.length) 1 (intsR lb))(hl:la.length≤1000000000000000)(e:Bool)(he:e=true↔la=lb):
  CallH H Tryz.prog 39 [.c (.v (vsl a la.length)),.c (.v (vsl b lb.length))] (Bo e):=by
 refine CallH.mkS Tryz.func39 rfl en39 (by simp[Tryz.ntmps39]) (ClA.of rfl) fun C hR hP hH hL=>?_
 refine Sm.bringI 1 3 0 (ha.mono hH) rfl rfl ?_
 refine Sm.bringI 2 3 1 (hb.mono hH) rfl rfl ?_
 refine Sm.go 100 ?_
 have e0:((la.length:Int)!=(lb.length:Int))= !decide (la.length=lb.length):=by rw[Bool.eq_iff_iff,bne_iff_ne,Bool.not_eq_true',decide_eq_false_iff_not];omega
 simp(maxSteps:=2000000) only[go_sem,e0]
 cases hd:decide (la.length=lb.length)with
 |false=>
  have hd:=of_decide_eq_false hd
  have hef:e=false:=by
   cases h:e with
   |false=>rfl
   |true=>exact absurd (congrArg List.length (he.1 h)) hd
  subst hef
  refine vv ?_
  exact RetQ.bool (hR C hL) rfl ⟨rfl,trivial⟩ rfl
 |true=>
 have hd:=of_decide_eq_true hd
 refine vv ?_
 refine Sm.loopM (M0:=[]) (α:={i:Nat//i≤la.length∧la.take i=lb.take i}) hP (fun i=>[(0,true,.c (.sl 1 0 la.length 1)),(1,true,.c (.sl 2 0 lb.length 1)),(12,true,I la.length),(13,true,I i.val)])
  (fun _=>[(1,⟨true,la.map iC,3⟩),(2,⟨true,lb.map iC,3⟩)]) (fun i=>la.length-i.val) ⟨0,by omega,rfl⟩ (fun _=>ClM.of (by simp only[List.all_cons,inMV (rowsC_isV _),inMV (v_sC _),inMV (v_iC _)];rfl)) (fun _=>ClE.of rfl) [(1,1),(2,2)] ?_ ?_
 ·exact⟨rfl,trivial,⟨rfl,rfl,rfl,rfl,trivial⟩,⟨oV (renV (v_iC _)),oV (renV (v_iC _)),trivial⟩⟩
 rintro⟨i,hi,hx⟩ J hj
 simp only at hj hi hx⊢
 refine Sm.go 110 ?_
 refine vv ?_
 refine mtch (fun hc=>?_) (fun hc=>?_)
 ·have hc:=lt_of_dec hc
  have hcb:i<lb.length:=by omega
  have ga:=get_iC hc
  have gb:=get_iC hcb
  have hne:la[i]≠lb[i]→e=false:=fun hq=>by
   cases h:e with
   |false=>rfl
   |true=>
    have:=he.1 h
    subst this
    exact absurd rfl hq
  have hnx:=take_eq_succ hc hcb hx
  generalize la[i]=x at*
  generalize lb[i]=y at*
  refine Sm.dg 110 8 mix ?_
  simp(maxSteps:=2000000) only[go_sem,ga,gb,wS (show i≤1000000000000000000 by omega)]
  refine⟨⟨by omega,by omega⟩,⟨by omega,by omega⟩,?_⟩
  refine mtch (fun hq=>?_) (fun hq=>?_)
  ·have hxy:x≠y:=by
    rintro rfl
    simp at hq
   have hef:=hne hxy
   subst hef
   exact RetQ.bool (hR C hL) rfl ⟨rfl,trivial⟩ rfl
  ·have hxy:x=y:=by
    simpa using hq
   exact hj _ _ ⟨i+1,hc,hnx hxy⟩ [(1,1),(2,2)] (by simp only;omega) ⟨rfl,trivial,⟨rfl,rfl,rfl,rfl,trivial⟩,⟨oV (renV (v_iC _)),oV (renV (v_iC _)),trivial⟩⟩
 ·have hc:=eq_of_dec hi hc
  subst hc
  have het:=he.2 (eq_of_take hx hd)
  subst het
  exact RetQ.bool (hR C hL) rfl ⟨rfl,trivial⟩ rfl
def eqlB {α:Type}(p:α→α→Bool)(la lb:List α):Bool:=decide (la.length=lb.length)&&(la.zip lb).all fun q=>p q.1 q.2
theorem zip_drop {α:Type}{la lb:List α}{i:Nat}(ha:i<la.length)(hb:i<lb.length):(la.zip lb).drop i=(la[i],lb[i])::(la.zip lb).drop (i+1):=by
 rw[List.drop_eq_getElem_cons (by rw[List.length_zip];omega),List.getElem_zip]
theorem eqF_bl {H:Hp}(a b:Sv)(la lb:List BlL)(ha:SlH H (vsl a la.length) 6 (la.map BlL.r))(hb:SlH H (vsl b lb.length) 6 (lb.map BlL.r))(hl:la.length≤1000000000000000)(g:FuncId)(p:BlL→BlL→Bool)
  (hg:∀x,x∈la→∀y,y∈lb→CallH H Tryz.prog g [rowV x.r,rowV y.r] (Bo (p x y))):
  CallH H Tryz.prog 122 [.c (.v (vsl a la.length)),.c (.v (vsl b lb.length)),Fv g #[]] (Bo (eqlB p la lb)):=by
 refine CallH.mkS Tryz.func122 rfl en122 (by simp[Tryz.ntmps122]) (ClA.of rfl) fun C hR hP hH hL=>?_
 refine Sm.bringR 1 82 0 (ha.mono hH) rfl rfl ?_
 refine Sm.bringR 2 82 1 (hb.mono hH) rfl rfl ?_
 have n1:(la.map BlL.r).length=la.length:=List.length_map _
 have n2:(lb.map BlL.r).length=lb.length:=List.length_map _
 rw[n1,n2]
 refine Sm.go 100 ?_
 have e0:((la.length:Int)!=(lb.length:Int))= !decide (la.length=lb.length):=by rw[Bool.eq_iff_iff,bne_iff_ne,Bool.not_eq_true',decide_eq_false_iff_not];omega
 simp(maxSteps:=2000000) only[go_sem,e0]
 unfold eqlB at hR
 cases hd:decide (la.length=lb.length)with
 |false=>
  rw[hd]at hR
  refine vv ?_
  exact RetQ.bool (hR C hL) rfl ⟨rfl,trivial⟩ rfl
 |true=>
 rw[hd,Bool.true_and]at hR
 have hd:=of_decide_eq_true hd
 refine vv ?_
 refine Sm.loopM (M0:=[]) (α:={i:Nat//i≤la.length∧((la.zip lb).all fun q=>p q.1 q.2)=((la.zip lb).drop i).all fun q=>p q.1 q.2}) hP (fun i=>[(1,true,.c (.sl 2 0 lb.length 6)),(2,true,Fv g #[]),(15,true,.c (.sl 1 0 la.length 6)),(16,true,I la.length),(17,true,I i.val)])
  (fun _=>[(1,⟨true,rowsC (la.map BlL.r),82⟩),(2,⟨true,rowsC (lb.map BlL.r),82⟩)]) (fun i=>la.length-i.val) ⟨0,by omega,rfl⟩ (fun _=>ClM.v (by simp only[List.all_cons,rowsC_isV];rfl)) (fun _=>ClE.of rfl) [(1,1),(2,2)] ?_ ?_
 ·exact⟨rfl,trivial,⟨rfl,rfl,rfl,rfl,rfl,trivial⟩,⟨oV (renV (rowsC_isV _)),oV (renV (rowsC_isV _)),trivial⟩⟩
 rintro⟨i,hi,hx⟩ J hj
 simp only at hj hi hx⊢
 refine Sm.go 110 ?_
 refine vv ?_
 refine mtch (fun hc=>?_) (fun hc=>?_)
 ·have hc:=lt_of_dec hc
  have hcb:i<lb.length:=by omega
  have ga:=rows_take (r:=BlL.r) (k:=6) (fun _=>rfl) la i hc
  have gb:=rows_take (r:=BlL.r) (k:=6) (fun _=>rfl) lb i hcb
  have za:=rows_len (r:=BlL.r) (k:=6) (fun _=>rfl) la
  have zb:=rows_len (r:=BlL.r) (k:=6) (fun _=>rfl) lb
  rw[zip_drop hc hcb,List.all_cons]at hx
  have hgx:=hg _ (List.getElem_mem hc) _ (List.getElem_mem hcb)
  generalize la[i]=x at*
  generalize lb[i]=y at*
  simp(maxSteps:=2000000) only[go_sem,ga,gb,za,zb]
  refine⟨⟨by omega,by omega⟩,by omega,⟨by omega,by omega⟩,by omega,?_⟩
  refine CallQ.h 120 hgx hH rfl ?_
  cases hp:p x y with
  |false=>
   rw[hp,Bool.false_and]at hx
   refine vv ?_
   exact RetQ.bool (hR C hL) rfl ⟨rfl,trivial⟩ hx.symm
  |true=>
   rw[hp,Bool.true_and]at hx
   simp(maxSteps:=2000000) only[go_sem,wS (show i≤1000000000000000000 by omega)]
   exact hj _ _ ⟨i+1,hc,hx⟩ [(1,1),(2,2)] (by simp only;omega) ⟨rfl,trivial,⟨rfl,rfl,rfl,rfl,rfl,trivial⟩,⟨oV (renV (rowsC_isV _)),oV (renV (rowsC_isV _)),trivial⟩⟩
 ·have hc:=eq_of_dec hi hc
  have:(la.zip lb).drop i=[]:=List.drop_eq_nil_of_le (by rw[List.length_zip];omega)
  rw[this]at hx
  exact RetQ.bool (hR C hL) rfl ⟨rfl,trivial⟩ hx.symm
theorem eqF_cu {H:Hp}(a b:Sv)(la lb:List CuL)(ha:SlH H (vsl a la.length) 3 (la.map CuL.r))(hb:SlH H (vsl b lb.length) 3 (lb.map CuL.r))(hl:la.length≤1000000000000000)(g:FuncId)(p:CuL→CuL→Bool)
  (hg:∀x,x∈la→∀y,y∈lb→CallH H Tryz.prog g [rowV x.r,rowV y.r] (Bo (p x y))):
  CallH H Tryz.prog 124 [.c (.v (vsl a la.length)),.c (.v (vsl b lb.length)),Fv g #[]] (Bo (eqlB p la lb)):=by
 refine CallH.mkS Tryz.func124 rfl en124 (by simp[Tryz.ntmps124]) (ClA.of rfl) fun C hR hP hH hL=>?_
 refine Sm.bringR 1 110 0 (ha.mono hH) rfl rfl ?_
 refine Sm.bringR 2 110 1 (hb.mono hH) rfl rfl ?_
 have n1:(la.map CuL.r).length=la.length:=List.length_map _
 have n2:(lb.map CuL.r).length=lb.length:=List.length_map _
 rw[n1,n2]
 refine Sm.go 100 ?_
 have e0:((la.length:Int)!=(lb.length:Int))= !decide (la.length=lb.length):=by rw[Bool.eq_iff_iff,bne_iff_ne,Bool.not_eq_true',decide_eq_false_iff_not];omega
 simp(maxSteps:=2000000) only[go_sem,e0]
 unfold eqlB at hR
 cases hd:decide (la.length=lb.length)with
 |false=>
  rw[hd]at hR
  refine vv ?_
  exact RetQ.bool (hR C hL) rfl ⟨rfl,trivial⟩ rfl
 |true=>
 rw[hd,Bool.true_and]at hR
 have hd:=of_decide_eq_true hd
 refine vv ?_
 refine Sm.loopM (M0:=[]) (α:={i:Nat//i≤la.length∧((la.zip lb).all fun q=>p q.1 q.2)=((la.zip lb).drop i).all fun q=>p q.1 q.2}) hP (fun i=>[(1,true,.c (.sl 2 0 lb.length 3)),(2,true,Fv g #[]),(15,true,.c (.sl 1 0 la.length 3)),(16,true,I la.length),(17,true,I i.val)])
  (fun _=>[(1,⟨true,rowsC (la.map CuL.r),110⟩),(2,⟨true,rowsC (lb.map CuL.r),110⟩)]) (fun i=>la.length-i.val) ⟨0,by omega,rfl⟩ (fun _=>ClM.v (by simp only[List.all_cons,rowsC_isV];rfl)) (fun _=>ClE.of rfl) [(1,1),(2,2)] ?_ ?_
 ·exact⟨rfl,trivial,⟨rfl,rfl,rfl,rfl,rfl,trivial⟩,⟨oV (renV (rowsC_isV _)),oV (renV (rowsC_isV _)),trivial⟩⟩
 rintro⟨i,hi,hx⟩ J hj
 simp only at hj hi hx⊢
 refine Sm.go 110 ?_
 refine vv ?_
 refine mtch (fun hc=>?_) (fun hc=>?_)
 ·have hc:=lt_of_dec hc
  have hcb:i<lb.length:=by omega
  have ga:=rows_take (r:=CuL.r) (k:=3) (fun _=>rfl) la i hc
  have gb:=rows_take (r:=CuL.r) (k:=3) (fun _=>rfl) lb i hcb
  have za:=rows_len (r:=CuL.r) (k:=3) (fun _=>rfl) la
  have zb:=rows_len (r:=CuL.r) (k:=3) (fun _=>rfl) lb
  rw[zip_drop hc hcb,List.all_cons]at hx
  have hgx:=hg _ (List.getElem_mem hc) _ (List.getElem_mem hcb)
  generalize la[i]=x at*
  generalize lb[i]=y at*
  simp(maxSteps:=2000000) only[go_sem,ga,gb,za,zb]
  refine⟨⟨by omega,by omega⟩,by omega,⟨by omega,by omega⟩,by omega,?_⟩
  refine CallQ.h 120 hgx hH rfl ?_
  cases hp:p x y with
  |false=>
   rw[hp,Bool.false_and]at hx
   refine vv ?_
   exact RetQ.bool (hR C hL) rfl ⟨rfl,trivial⟩ hx.symm
  |true=>
   rw[hp,Bool.true_and]at hx
   simp(maxSteps:=2000000) only[go_sem,wS (show i≤1000000000000000000 by omega)]
   exact hj _ _ ⟨i+1,hc,hx⟩ [(1,1),(2,2)] (by simp only;omega) ⟨rfl,trivial,⟨rfl,rfl,rfl,rfl,rfl,trivial⟩,⟨oV (renV (rowsC_isV _)),oV (renV (rowsC_isV _)),trivial⟩⟩
 ·have hc:=eq_of_dec hi hc
  have:(la.zip lb).drop i=[]:=List.drop_eq_nil_of_le (by rw[List.length_zip];omega)
  rw[this]at hx
  exact RetQ.bool (hR C hL) rfl ⟨rfl,trivial⟩ hx.symm
theorem eqF_ma {H:Hp}(a b:Sv)(la lb:List MpL)(ha:SlH H (vsl a la.length) 4 (la.map MpL.r))(hb:SlH H (vsl b lb.length) 4 (lb.map MpL.r))(hl:la.length≤1000000000000000)(g:FuncId)(p:MpL→MpL→Bool)
  (hg:∀x,x∈la→∀y,y∈lb→CallH H Tryz.prog g [rowV x.r,rowV y.r] (Bo (p x y))):
  CallH H Tryz.prog 126 [.c (.v (vsl a la.length)),.c (.v (vsl b lb.length)),Fv g #[]] (Bo (eqlB p la lb)):=by
 refine CallH.mkS Tryz.func126 rfl en126 (by simp[Tryz.ntmps126]) (ClA.of rfl) fun C hR hP hH hL=>?_
 refine Sm.bringR 1 115 0 (ha.mono hH) rfl rfl ?_
 refine Sm.bringR 2 115 1 (hb.mono hH) rfl rfl ?_
 have n1:(la.map MpL.r).length=la.length:=List.length_map _
 have n2:(lb.map MpL.r).length=lb.length:=List.length_map _
 rw[n1,n2]
 refine Sm.go 100 ?_
 have e0:((la.length:Int)!=(lb.length:Int))= !decide (la.length=lb.length):=by rw[Bool.eq_iff_iff,bne_iff_ne,Bool.not_eq_true',decide_eq_false_iff_not];omega
 simp(maxSteps:=2000000) only[go_sem,e0]
 unfold eqlB at hR
 cases hd:decide (la.length=lb.length)with
 |false=>
  rw[hd]at hR
  refine vv ?_
  exact RetQ.bool (hR C hL) rfl ⟨rfl,trivial⟩ rfl
 |true=>
 rw[hd,Bool.true_and]at hR
 have hd:=of_decide_eq_true hd
 refine vv ?_
 refine Sm.loopM (M0:=[]) (α:={i:Nat//i≤la.length∧((la.zip lb).all fun q=>p q.1 q.2)=((la.zip lb).drop i).all fun q=>p q.1 q.2}) hP (fun i=>[(1,true,.c (.sl 2 0 lb.length 4)),(2,true,Fv g #[]),(15,true,.c (.sl 1 0 la.length 4)),(16,true,I la.length),(17,true,I i.val)])
  (fun _=>[(1,⟨true,rowsC (la.map MpL.r),115⟩),(2,⟨true,rowsC (lb.map MpL.r),115⟩)]) (fun i=>la.length-i.val) ⟨0,by omega,rfl⟩ (fun _=>ClM.v (by simp only[List.all_cons,rowsC_isV];rfl)) (fun _=>ClE.of rfl) [(1,1),(2,2)] ?_ ?_
 ·exact⟨rfl,trivial,⟨rfl,rfl,rfl,rfl,rfl,trivial⟩,⟨oV (renV (rowsC_isV _)),oV (renV (rowsC_isV _)),trivial⟩⟩
 rintro⟨i,hi,hx⟩ J hj
 simp only at hj hi hx⊢
 refine Sm.go 110 ?_
 refine vv ?_
 refine mtch (fun hc=>?_) (fun hc=>?_)
 ·have hc:=lt_of_dec hc
  have hcb:i<lb.length:=by omega
  have ga:=rows_take (r:=MpL.r) (k:=4) (fun _=>rfl) la i hc
  have gb:=rows_take (r:=MpL.r) (k:=4) (fun _=>rfl) lb i hcb
  have za:=rows_len (r:=MpL.r) (k:=4) (fun _=>rfl) la
  have zb:=rows_len (r:=MpL.r) (k:=4) (fun _=>rfl) lb
  rw[zip_drop hc hcb,List.all_cons]at hx
  have hgx:=hg _ (List.getElem_mem hc) _ (List.getElem_mem hcb)
  generalize la[i]=x at*
  generalize lb[i]=y at*
  simp(maxSteps:=2000000) only[go_sem,ga,gb,za,zb]
  refine⟨⟨by omega,by omega⟩,by omega,⟨by omega,by omega⟩,by omega,?_⟩
  refine CallQ.h 120 hgx hH rfl ?_
  cases hp:p x y with
  |false=>
   rw[hp,Bool.false_and]at hx
   refine vv ?_
   exact RetQ.bool (hR C hL) rfl ⟨rfl,trivial⟩ hx.symm
  |true=>
   rw[hp,Bool.true_and]at hx
   simp(maxSteps:=2000000) only[go_sem,wS (show i≤1000000000000000000 by omega)]
   exact hj _ _ ⟨i+1,hc,hx⟩ [(1,1),(2,2)] (by simp only;omega) ⟨rfl,trivial,⟨rfl,rfl,rfl,rfl,rfl,trivial⟩,⟨oV (renV (rowsC_isV _)),oV (renV (rowsC_isV _)),trivial⟩⟩
 ·have hc:=eq_of_dec hi hc
  have:(la.zip lb).drop i=[]:=List.drop_eq_nil_of_le (by rw[List.length_zip];omega)
  rw[this]at hx
  exact RetQ.bool (hR C hL) rfl ⟨rfl,trivial⟩ hx.symm
def bEq (x y:Bl):Bool:=x.nm==y.nm&&(x.kd==y.kd&&(x.ty==y.ty&&(x.tb==y.tb&&(decide (x.ins=y.ins)&&decide (x.ks=y.ks)))))
def cEq (x y:Cu):Bool:=x.nm==y.nm&&(decide (x.xs=y.xs)&&decide (x.ys=y.ys))
def mEq (x y:Mp):Bool:=x.nm==y.nm&&mtX x.xs x.ys x.zs==mtX y.xs y.ys y.zs
theorem eqBl_ {H:Hp}(a b:BlL)(ha:a.ok H)(hb:b.ok H)(h1:a.c.ins.length≤1000000000000000)(h2:a.c.ks.length≤1000000000000000):CallH H Tryz.prog 123 [rowV a.r,rowV b.r] (Bo (bEq a.c b.c)):=by
 have q1:=eqG_st (H:=H) a.i b.i a.c.ins b.c.ins ha.i hb.i h1 (decide (a.c.ins=b.c.ins)) decide_eq_true_iff
 have q2:=eqG_in (H:=H) a.k b.k a.c.ks b.c.ks ha.k hb.k h2 (decide (a.c.ks=b.c.ks)) decide_eq_true_iff
 refine CallH.mkS Tryz.func123 rfl en123 (by simp[Tryz.ntmps123]) (ClA.of rfl) fun C hR hP hH hL=>?_
 refine Sm.go 100 ?_
 refine vv ?_
 refine CallQ.hg 110 (fun _=>q1) hH (fun h=>by rw[h];rfl) ?_
 refine vv ?_
 refine CallQ.hg 120 (fun _=>q2) hH (fun h=>by rw[h];rfl) ?_
 refine vv ?_
 refine RetQ.bool (hR C hL) rfl ⟨rfl,trivial⟩ ?_
 unfold bEq
 cases a.c.nm==b.c.nm<;>cases a.c.kd==b.c.kd<;>cases a.c.ty==b.c.ty<;>cases a.c.tb==b.c.tb<;>cases decide (a.c.ins=b.c.ins)<;>rfl
theorem eqCu_ {H:Hp}(a b:CuL)(ha:a.ok H)(hb:b.ok H)(h1:a.c.xs.length≤1000000000000000)(h2:a.c.ys.length≤1000000000000000):CallH H Tryz.prog 125 [rowV a.r,rowV b.r] (Bo (cEq a.c b.c)):=by
 have q1:=eqG_in (H:=H) a.x b.x a.c.xs b.c.xs ha.x hb.x h1 (decide (a.c.xs=b.c.xs)) decide_eq_true_iff
 have q2:=eqG_in (H:=H) a.y b.y a.c.ys b.c.ys ha.y hb.y h2 (decide (a.c.ys=b.c.ys)) decide_eq_true_iff
 refine CallH.mkS Tryz.func125 rfl en125 (by simp[Tryz.ntmps125]) (ClA.of rfl) fun C hR hP hH hL=>?_
 refine Sm.go 100 ?_
 refine vv ?_
 refine CallQ.hg 110 (fun _=>q1) hH (fun h=>by rw[h];rfl) ?_
 refine vv ?_
 refine CallQ.hg 120 (fun _=>q2) hH (fun h=>by rw[h];rfl) ?_
 refine vv ?_
 refine RetQ.bool (hR C hL) rfl ⟨rfl,trivial⟩ ?_
 unfold cEq
 cases a.c.nm==b.c.nm<;>cases decide (a.c.xs=b.c.xs)<;>rfl
theorem eqMa_ {H:Hp}(hW:PwR H)(a b:MpL)(ha:a.ok H)(hb:b.ok H)(va:maOk a.xs a.ys (a.zs.map (·.2))=true)(vb:maOk b.xs b.ys (b.zs.map (·.2))=true):CallH H Tryz.prog 127 [rowV a.r,rowV b.r] (Bo (mEq a.c b.c)):=by
 have q1:=stext_ (H:=H) hW a ha va
 have q2:=stext_ (H:=H) hW b hb vb
 refine CallH.mkS Tryz.func127 rfl en127 (by simp[Tryz.ntmps127]) (ClA.of rfl) fun C hR hP hH hL=>?_
 refine Sm.go 100 ?_
 refine vv ?_
 refine Sm.dg 110 11 mix ?_
 refine vv ?_
 refine DCallQ.h 120 (fun _=>q1) hH (fun h=>by rw[h];rfl) ?_
 refine vv ?_
 refine CallQ.hg 130 (fun _=>q2) hH (fun h=>by rw[h];rfl) ?_
 refine vv ?_
 refine RetQ.bool (hR C hL) rfl ⟨rfl,trivial⟩ ?_
 unfold mEq
 have e1:a.c.nm=a.nm:=rfl
 have e2:b.c.nm=b.nm:=rfl
 rw[e1,e2]
 cases a.nm==b.nm<;>rfl
end Go.Proofs.YtlnpgbnhcondjaaGreatDoor.Fx
