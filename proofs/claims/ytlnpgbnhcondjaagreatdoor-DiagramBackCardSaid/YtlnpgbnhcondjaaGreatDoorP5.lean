/-  -/
import Derived.Test.YtlnpgbnhcondjaaGreatDoorTf
import Derived.Test.YtlnpgbnhcondjaaGreatDoorP1
import Derived.Test.YtlnpgbnhcondjaaGreatDoorYC
import Derived.Test.YtlnpgbnhcondjaaGreatDoorY5
import Derived.Test.YtlnpgbnhcondjaaGreatDoorRD
import Derived.Test.YtlnpgbnhcondjaaGreatDoorRQ
namespace Go.Proofs.YtlnpgbnhcondjaaGreatDoor.Fx
open Vg Tf
set_option linter.unusedSimpArgs false
set_option linter.unusedVariables false
set_option maxRecDepth 100000
set_option linter.unusedVariables false
theorem _root_.Go.Proofs.YtlnpgbnhcondjaaGreatDoor.Vg.CallX.ofSl {H:Hp}(nm:Nat){P:Program}{f:FuncId}{rest:List V}{v:V}{sz:Nat}{rows:List (List Value)}{el:TypeId}(hent:Enters P f)(hr:∀r∈rows,r.length=sz)
  (h:∀(H':Hp) (s:Sv),H.le H'→SlH H' (vsl s rows.length) sz rows→CallH H' P f (.c (.v (vsl s rows.length))::rest) v) (hrest:∀x∈rest,∀β β':Vl,x.g β=x.g β') (hv:∀β β':Vl,v.g β=v.g β'):
  CallX H P f (.c (.sl nm 0 rows.length sz)::rest) [(nm,⟨false,rowsC rows,el⟩)] (fun _:Unit=>v) (fun _=>[(nm,⟨false,rowsC rows,el⟩)]) (fun _ _=>True):=by
 have hget:∀n b,Mem.get [(nm,(⟨false,rowsC rows,el⟩:Bk))] n=some b→n=nm∧b=⟨false,rowsC rows,el⟩:=fun n b hb=>by
  rw[Mem.get_cons]at hb
  split at hb
  ·rename_i hn;cases hb;exact⟨hn,rfl⟩
  ·cases hb
 refine⟨hent,fun _ n b hn hm=>?_,fun _ n b b' hn hm=>?_,fun β w Z hm hH hZ=>?_⟩
 ·rw[hn]at hm;cases hm
 ·obtain⟨_,rfl⟩:=hget n b' hm;rfl
 have hb1:=hm.ok β (Agree.refl _ _) nm _ (by rw[Mem.get_cons,if_pos rfl])
 have kn:Known (fun b o=>H b o∨(b=(β nm).blk∧w.heap[b]?=some o)) β nm (⟨false,rowsC rows,el⟩:Bk):=by
  unfold BkOk at hb1
  cases hu:(β nm).nul with
  |true=>rw[if_pos hu]at hb1;exact .inl ⟨hu,hb1.1⟩
  |false=>
   rw[if_neg (by simp[hu]),if_neg (by simp)]at hb1
   obtain⟨k1,junk,k2,k3⟩:=hb1
   exact .inr ⟨hu,k1,junk,.inr ⟨rfl,k2⟩,k3⟩
 obtain⟨s,hvs,hs⟩:=kn.vslx (sz:=sz) (rows:=rows) hr rfl
 have hc:=h _ s (fun b o hb=> .inl hb) hs
 have hargs:((V.c (.sl nm 0 rows.length sz)::rest).map (V.g β)).toArray=((V.c (.v (vsl s rows.length))::rest).map (V.g β)).toArray:=by
  rw[List.map_cons,List.map_cons]
  congr 2
 rw[hargs]
 refine(hc.2.2.2 β w (fun _=>False) ⟨fun β' _ n b hn=>(by cases hn),fun n b hn=>(by cases hn),fun n m b b' hn=>(by cases hn)⟩ (fun b o hb=>⟨?_,fun hz=>hz,fun hw=>?_⟩) (fun b hb=>hb.elim)).mono ?_
 ·rcases hb with hb|⟨_,hb⟩
  ·exact(hH b o hb).1
  ·exact hb
 ·obtain⟨n,c,h1,_⟩:=hw;cases h1
 rintro en w' ⟨_,β',H',_,hen,_,hfr,_,_,_⟩
 have hold:∀b,b<w.heap.size→w'.heap[b]?=w.heap[b]?:=fun b hb=>hfr.old b (fun n c hn=>(by cases hn)) hb
 refine⟨(),β,fun _ _=>False,Agree.refl _ _,fun β'' _=>?_,⟨fun β'' hag n b hn=>?_,fun n b hn hu=>?_,fun n m b b' hn hm' hne=>?_⟩,⟨hfr.os,hfr.tape,hfr.output,hfr.size,fun b _ hb=>hold b hb⟩,fun n hn hm0=>?_,fun b o hb=>hb.elim,trivial⟩
 ·rw[hen β' (Agree.refl _ _),hv β' β'']
 ·have hn1:n=nm∧b=⟨false,rowsC rows,el⟩:=by
   rw[Mem.get_append]at hn
   cases hq:Mem.get [(nm,(⟨false,rowsC rows,el⟩:Bk))] n with
   |some c=>rw[hq]at hn;cases hn;exact hget n _ hq
   |none=>rw[hq]at hn;cases hn
  obtain⟨e1,rfl⟩:=hn1
  rw[e1]
  have hag1:Agree [(nm,(⟨false,rowsC rows,el⟩:Bk))] β β'':=fun n hn=>hag n (by rw[Mem.get_append];cases hq:Mem.get [(nm,(⟨false,rowsC rows,el⟩:Bk))] n<;>simp_all)
  have hb2:=hm.ok β'' hag1 nm _ (by rw[Mem.get_cons,if_pos rfl])
  cases hu:(β'' nm).nul with
  |true=>
   unfold BkOk at hb2⊢
   rw[if_pos hu]at hb2⊢
   exact hb2
  |false=>
   refine hb2.same (hold _ ?_)
   have e:=hag1 nm (by rw[Mem.get_cons,if_pos rfl];rfl)
   rw[e]at hu⊢
   exact hm.there nm _ (by rw[Mem.get_cons,if_pos rfl]) hu
 ·have hn1:n=nm:=by
   rw[Mem.get_append]at hn
   cases hq:Mem.get [(nm,(⟨false,rowsC rows,el⟩:Bk))] n with
   |some c=>exact(hget n _ hq).1
   |none=>rw[hq]at hn;cases hn
  rw[hn1]at hu⊢
  exact Nat.lt_of_lt_of_le (hm.there nm _ (by rw[Mem.get_cons,if_pos rfl]) hu) hfr.size
 ·exfalso
  have h1:n=nm:=by
   rw[Mem.get_append]at hn
   cases hq:Mem.get [(nm,(⟨false,rowsC rows,el⟩:Bk))] n with
   |some c=>exact(hget n _ hq).1
   |none=>rw[hq]at hn;cases hn
  have h2:m=nm:=by
   rw[Mem.get_append]at hm'
   cases hq:Mem.get [(nm,(⟨false,rowsC rows,el⟩:Bk))] m with
   |some c=>exact(hget m _ hq).1
   |none=>rw[hq]at hm';cases hm'
  exact hne (h1.trans h2.symm)
 ·rw[hm0]at hn;cases hn
theorem _root_.Go.Proofs.YtlnpgbnhcondjaaGreatDoor.Vg.DCallQ.seenX {H:Hp}{P:Program}{nt:Nat}{C:Cx}{r:List It}{e e0:Env}{M M0 Mf:Mem}{id:Nat}{rg:Array Oper}{k:Nat}{T:List (Nat×Nat)}{i:Nat}{o:Oper}{l:List Oper}{f:FuncId}{vs:List (Option (Bool×V))}{g:Bool}{dst:Option Nat}{xs:List V}{v:V}{M1 N:Mem}(K:Mem)(nx:Nat)(hc:CallX H P f xs M1 (fun _:Unit=>v) (fun _=>N) (fun _ _=>True))(hH:H.le C.hp)(hcl:ClM M1)(hvs:vs=xs.map fun x=>some (true,x))
  (hs:SubS M1 (K++M0)) (hfr:N.all (fun p=>(M1.get p.1).isSome||((K++M0:Mem).get p.1).isNone)=true) (hg:g=true∨N=[]) (hK:KS N M K) (hf2:ownB N M0 (K++M0) M=true) (hf3:touchA rg i T o N=true)
  (h:runD P nt C id rg r e0 M0 Mf k (kontW P nt C (.ops rg (rg.toList.drop k)::r)) (touchN N i T) (i+1) l (e.put dst g v) (N++M) nx):DCallQ P nt C id rg r e0 M0 Mf k T i o f vs g dst l e M:=
 ⟨M1,N,K++M0,v,xs,fun _=>hvs,fun _=> .inr (CallX.kx hc hH hcl (fun _=>rfl) (fun _=>rfl)),hs.sub,hcl,Fresh.of hfr,hg,
  ⟨fun n b hb=>by
   rw[Mem.get_append]at hb
   cases hk:K.get n with
   |some c=>rw[hk]at hb;cases hb;exact .inr (hK.ok n _ hk)
   |none=>rw[hk]at hb;exact .inl (by simpa using hb),
  fun n hn=>by
   obtain⟨p,hp,hp1⟩:=List.mem_map.1 (Mem.mem_of_get' hn)
   subst hp1
   have k1:=List.all_eq_true.1 hf2 p hp
   have k2:=List.all_eq_true.1 hf3 p hp
   simp only[Bool.and_eq_true,Bool.or_eq_true,Option.isNone_iff_eq_none]at k1
   refine⟨k1.1,k1.2,fun j hj=>?_⟩
   rcases hj with hj|hj<;>
   ·have:=List.all_eq_true.1 k2 _ hj
    exact ancB_ok 20 j o (by simpa using this)⟩,DrS.go nx h⟩
set_option maxHeartbeats 4000000
def mtX (xs ys:List Int)(zs:List (List Int)):Str:=zs.foldl (fun s z=>s++lnX [122] z) (lnX [120] xs++lnX [121] ys)
theorem near_inR {l:List Int}(h:l.all nearB=true):∀n∈l,inR n:=fun n hn=>by
 have:=List.all_eq_true.1 h n hn
 unfold nearB at this
 have:=of_decide_eq_true this
 exact⟨by omega,by omega⟩
theorem axOk_l {l:List Int}(h:axOk l=true):l.length≤32∧∀n∈l,inR n:=by
 unfold axOk at h
 rw[Bool.and_eq_true,decide_eq_true_eq,Bool.and_eq_true]at h
 exact⟨h.1.2,near_inR h.2.1⟩
theorem maOk_l {xs ys:List Int}{zs:List (List Int)}(h:maOk xs ys zs=true):(xs.length≤32∧∀n∈xs,inR n)∧(ys.length≤32∧∀n∈ys,inR n)∧zs.length≤32∧∀z∈zs,z.length≤32∧∀n∈z,inR n:=by
 unfold maOk at h
 simp only[Bool.and_eq_true,decide_eq_true_eq,List.all_eq_true]at h
 obtain⟨h1,h2,h3,h4⟩:=h
 have a1:=axOk_l h1
 have a2:=axOk_l h2
 refine⟨a1,a2,by omega,fun z hz=>?_⟩
 obtain⟨q1,q2⟩:=h4 z hz
 exact⟨by omega,near_inR (List.all_eq_true.2 q2)⟩
theorem mtX_step (A:Str)(zs:List (List Int))(i:Nat)(h:i<zs.length):(zs.take (i+1)).foldl (fun s z=>s++lnX [122] z) A=(zs.take i).foldl (fun s z=>s++lnX [122] z) A++lnX [122] zs[i]:=by
 rw[List.take_succ_eq_append_getElem h,List.foldl_append];rfl
theorem mtX_le {A:Str}(hA:A.length≤2000):∀(zs:List (List Int)),(∀z∈zs,z.length≤32∧∀n∈z,inR n)→∀B:Str,(zs.foldl (fun s z=>s++lnX [122] z) B).length≤B.length+zs.length*800
 |[],_,B=>by simp
 |z::zs,h,B=>by
  have h1:=h z (List.mem_cons_self ..)
  have h2:=lnX_le (w:=[122]) h1.2
  have ih:=mtX_le hA zs (fun y hy=>h y (List.mem_cons_of_mem _ hy)) (B++lnX [122] z)
  rw[List.foldl_cons,List.length_cons]
  rw[List.length_append]at ih
  simp only[List.length_cons,List.length_nil]at h2
  omega
theorem stext_ {H:Hp}(hW:PwR H)(m:MpL)(hm:m.ok H)(hv:maOk m.xs m.ys (m.zs.map (·.2))=true):
  CallH H Tryz.prog 128 [.agg [.v (vsl m.x m.xs.length),.v (vsl m.y m.ys.length),.v (vsl m.z m.zs.length)]] (S (mtX m.xs m.ys (m.zs.map (·.2)))):=by
 obtain⟨a1,a2,a3,a4⟩:=maOk_l hv
 rw[List.length_map]at a3
 have hzl:(zrV m).length=m.zs.length:=List.length_map _
 have hsv:=svalidM (H:=H) m hm fun v hv=>by have:=(a4 v.2 (List.mem_map.2 ⟨v,hv,rfl⟩)).1;omega
 rw[hv]at hsv
 have l1:=lineH (H:=H) hW [120] (by decide) m.x m.xs hm.x (by omega) a1.2
 have l2:=lineH (H:=H) hW [121] (by decide) m.y m.ys hm.y (by omega) a2.2
 have b1:=lnX_le (w:=[120]) a1.2
 have b2:=lnX_le (w:=[121]) a2.2
 simp only[List.length_cons,List.length_nil]at b1 b2
 refine CallH.mkS Tryz.func128 rfl en128 (by simp[Tryz.ntmps128]) (ClA.of rfl) fun C hR hP hH hL=>?_
 refine Sm.go 100 ?_
 refine vv ?_
 refine CallQ.h 110 hsv hH rfl ?_
 refine vv ?_
 refine Sm.dg 120 5 mix ?_
 refine vv ?_
 refine DCallQ.h 130 (fun _=>l1) hH (fun _=>rfl) ?_
 refine vv ?_
 refine CallQ.h 140 l2 hH rfl ?_
 refine vv ?_
 refine⟨by omega,?_⟩
 refine Sm.bringR 5 73 17 (rows:=zrV m) (by have:=hm.z.mono hH;exact this) rfl rfl ?_
 rw[hzl]
 have hzm:(m.zs.map (·.2)).length=m.zs.length:=List.length_map _
 generalize hA:lnX [120] m.xs++lnX [121] m.ys=A at*
 have hAl:A.length≤2000:=by rw[←hA,List.length_append];omega
 have hmt:mtX m.xs m.ys (m.zs.map (·.2))=(m.zs.map (·.2)).foldl (fun s z=>s++lnX [122] z) A:=by unfold mtX;rw[hA]
 rw[hmt]at hR
 refine Sm.loopM (M0:=[]) (α:={i:Nat//i≤m.zs.length}) hP (fun i=>[(3,true,S (((m.zs.map (·.2)).take i.val).foldl (fun s z=>s++lnX [122] z) A)),(17,true,.c (.sl 5 0 m.zs.length 1)),(18,true,I m.zs.length),(19,true,I i.val)])
  (fun _=>[(5,⟨true,rowsC (zrV m),73⟩)]) (fun i=>m.zs.length-i.val) ⟨0,by omega⟩ (fun _=>ClM.of (by simp only[List.all_cons,inMV (rowsC_isV _)];rfl)) (fun _=>ClE.of rfl) [(5,5)] ?_ ?_
 ·exact⟨rfl,trivial,⟨rfl,rfl,rfl,rfl,trivial⟩,⟨oV (renV (rowsC_isV _)),trivial⟩⟩
 rintro⟨i,hi⟩ J hj
 simp only at hj hi⊢
 refine Sm.go 150 ?_
 refine vv ?_
 refine mtch (fun hc=>?_) (fun hc=>?_)
 ·have hc:=lt_of_dec hc
  have hmem:m.zs[i]∈m.zs:=List.getElem_mem hc
  have ha:=a4 m.zs[i].2 (List.mem_map.2 ⟨_,hmem,rfl⟩)
  have l3:=lineH (H:=H) hW [122] (by decide) m.zs[i].1 m.zs[i].2 (hm.e _ hmem) (by omega) ha.2
  have hst:=mtX_step A (m.zs.map (·.2)) i (by rw[hzm];exact hc)
  rw[List.getElem_map]at hst
  have hle:=mtX_le hAl ((m.zs.map (·.2)).take i) (fun z hz=>a4 z (List.mem_of_mem_take hz)) A
  rw[List.length_take]at hle
  have hle3:=lnX_le (w:=[122]) ha.2
  simp only[List.length_cons,List.length_nil]at hle3
  have hm1:min i (m.zs.map (·.2)).length≤32:=by rw[hzm];omega
  generalize List.foldl (fun s z=>s++lnX [122] z) A (List.take i (m.zs.map (·.2)))=F at hst hle⊢
  simp(maxSteps:=2000000) only[go_sem,zr_get hc]
  refine⟨⟨by omega,by omega⟩,?_⟩
  refine CallQ.h 160 l3 hH rfl ?_
  simp(maxSteps:=2000000) only[go_sem,←hst,wS (show i≤1000000000000000000 by omega)]
  refine⟨by omega,?_⟩
  exact hj _ _ ⟨i+1,hc⟩ [(5,5)] (by simp only;omega) ⟨rfl,trivial,⟨rfl,rfl,rfl,rfl,trivial⟩,⟨oV (renV (rowsC_isV _)),trivial⟩⟩
 ·have hc:=eq_of_dec hi hc
  have:(m.zs.map (·.2)).take i=m.zs.map (·.2):=List.take_of_length_le (by rw[hzm];omega)
  rw[this]
  exact RetQ.of (hR C hL) rfl ⟨rfl,trivial⟩ rfl (Sub.nil _) ClM.nil (ClV.of rfl)
set_option maxHeartbeats 4000000
def nmT (l:List Int):Str:=Lib.join (l.map Lib.itoa) [32]
theorem nmT_le {l:List Int}(hb:∀n∈l,inR n):(nmT l).length≤l.length*22:=jn_le hb
theorem nums_ {H:Hp}(hW:PwR H)(s:Sv)(l:List Int)(hs:SlH H (vsl s l.length) 1 (intsR l))(hl:l.length≤1000)(hb:∀n∈l,inR n):CallH H Tryz.prog 137 [.c (.v (vsl s l.length))] (S (nmT l)):=by
 have hj:=jn_le hb
 have q:=join_in (H:=H) s l hs (by omega) [32] 222 Lib.itoa (fun x hx=>textH hW x (hb x hx).1 (hb x hx).2) (by omega)
 refine CallH.mkS Tryz.func137 rfl en137 (by simp[Tryz.ntmps137]) (ClA.of rfl) fun C hR hP hH hL=>?_
 refine Sm.go 100 ?_
 refine vv ?_
 refine CallQ.h 110 q hH rfl ?_
 refine vv ?_
 exact RetQ.of (hR C hL) rfl ⟨rfl,trivial⟩ rfl (Sub.nil _) ClM.nil (ClV.of rfl)
theorem numsX {H:Hp}(hW:PwR H)(nm:Nat)(l:List Int)(hl:l.length≤1000)(hb:∀n∈l,inR n)(el:TypeId):CallX H Tryz.prog 137 [.c (.sl nm 0 (intsR l).length 1)] [(nm,⟨false,rowsC (intsR l),el⟩)] (fun _:Unit=>S (nmT l)) (fun _=>[(nm,⟨false,rowsC (intsR l),el⟩)]) (fun _ _=>True):=
 CallX.ofSl nm (sz:=1) (rest:=[]) (v:=S (nmT l)) en137 (fun r hr=>by obtain⟨a,_,rfl⟩:=List.mem_map.1 hr;rfl) (fun H' s hle hs=>by
  have e:(intsR l).length=l.length:=List.length_map _
  rw[e]at hs⊢
  exact nums_ (by obtain⟨el,mk,hc⟩:=hW;exact⟨el,mk,hle _ _ hc⟩) s l hs hl hb) (fun x hx=>(by cases hx)) (fun _ _=>rfl)
def inpT (p:Po):Str:=[105,110,32]++p.nm++[32,58,32]++p.ty++[32]++nmT [p.lo,p.hi]++[10]
theorem fit_in {n:Int}(h:fitB n=true):inR n:=by
 unfold fitB at h
 have:=of_decide_eq_true h
 exact⟨by omega,by omega⟩
theorem nmLe {s:Str}(h:nmOk s=true):s.length≤24:=by
 unfold nmOk at h
 simp only[Bool.and_eq_true,decide_eq_true_eq]at h
 exact h.2.1
theorem inp_ {H:Hp}(hW:PwR H)(p:Po)(h:poOk p=true):CallH H Tryz.prog 136 [rowV p.r] (S (inpT p)):=by
 unfold poOk at h
 simp only[Bool.and_eq_true]at h
 have h1:=nmLe h.1
 have h2:=nmLe h.2.1
 have hb:∀n∈[p.lo,p.hi],inR n:=by
  intro n hn
  rcases List.mem_cons.1 hn with rfl|hn
  ·exact fit_in h.2.2.1
  ·rw[List.mem_singleton.1 hn];exact fit_in h.2.2.2
 have hl:(nmT [p.lo,p.hi]).length≤44:=nmT_le hb
 have q:=numsX hW 110 [p.lo,p.hi] (by simp) hb 3
 refine CallH.mkS Tryz.func136 rfl en136 (by simp[Tryz.ntmps136]) (ClA.of rfl) fun C hR hP hH hL=>?_
 refine Sm.go 100 ?_
 refine vv ?_
 refine Sm.dg 110 15 mix ?_
 refine vv ?_
 refine⟨by omega,by omega,by simp only[List.length_append,List.length_cons,List.length_nil];omega,by simp only[List.length_append,List.length_cons,List.length_nil];omega,?_⟩
 refine DCallQ.seenX [(110,⟨false,[.v (iv p.lo),.v (iv p.hi)],3⟩)] 120 q hH (ClM.of rfl) rfl ⟨oS,trivial⟩ rfl (.inl rfl) ⟨⟨rfl,rfl⟩,trivial⟩ rfl rfl ?_
 refine vv ?_
 refine⟨by simp only[List.length_append,List.length_cons,List.length_nil];omega,by simp only[List.length_append,List.length_cons,List.length_nil];omega,?_⟩
 exact RetQ.of (hR C hL) rfl ⟨rfl,trivial⟩ rfl (Sub.nil _) ClM.nil (ClV.of rfl)
def ftU (t:Ft):Un:=⟨t.m,t.kg,t.s,t.a,t.k⟩
def typT (t:Td):Str:=[116,121,112,101,32]++t.nm++[32,61,32]++Lib.itoa t.ty.bits++[32]++(bif t.ty.signed then sgnT else usgT)++[32]++nmT [t.ty.num,t.ty.off,t.ty.den]++[32]++txt (ftU t.ty)++[10]
theorem txt_le (u:Un):(txt u).length≤50:=by
 unfold txt
 cases uokU u with
 |true=>exact(negT_len u 5 (by omega)).1
 |false=>exact Nat.zero_le _
theorem fok_in {t:Ft}(h:fok t=true):inR t.bits∧∀n∈[t.num,t.off,t.den],inR n:=by
 unfold fok at h
 simp only[Bool.and_eq_true,decide_eq_true_eq]at h
 unfold inR
 simp only[List.mem_cons,List.not_mem_nil,or_false]
 refine⟨by omega,fun n hn=>?_⟩
 rcases hn with rfl|rfl|rfl<;>omega
theorem typ_ {H:Hp}(hW:PwR H)(t:Td)(hn:nmOk t.nm=true)(hf:fok t.ty=true):CallH H Tryz.prog 130 [rowV t.r] (S (typT t)):=by
 have h1:=nmLe hn
 obtain⟨hb1,hb⟩:=fok_in hf
 have hl:(nmT [t.ty.num,t.ty.off,t.ty.den]).length≤66:=nmT_le hb
 have hu:=txt_le (ftU t.ty)
 have hi:=Lib.itoa_length_le t.ty.bits hb1.1 hb1.2
 have q1:=textH (H:=H) hW t.ty.bits hb1.1 hb1.2
 have q:=numsX hW 120 [t.ty.num,t.ty.off,t.ty.den] (by simp) hb 3
 have q3:CallH H Tryz.prog 223 [uu (ftU t.ty)] (S (txt (ftU t.ty))):=(text_ (ftU t.ty)).toH
 have hR0:typT t=[116,121,112,101,32]++t.nm++[32,61,32]++Lib.itoa t.ty.bits++[32]++(bif t.ty.signed then sgnT else usgT)++[32]++nmT [t.ty.num,t.ty.off,t.ty.den]++[32]++txt (ftU t.ty)++[10]:=rfl
 rw[hR0]
 obtain⟨nm,⟨bits,sg,num,off,den,um,ukg,us,ua,uk⟩⟩:=t
 simp only[ftU]at*
 refine CallH.mkS Tryz.func130 rfl en130 (by simp[Tryz.ntmps130]) (ClA.of rfl) fun C hR hP hH hL=>?_
 refine Sm.go 100 ?_
 refine vv ?_
 have hs1:sgnT.length=6:=rfl
 have hs2:usgT.length=8:=rfl
 cases sg with
 |true=>
  refine vv ?_
  refine Sm.dg 110 31 mix ?_
  refine vv ?_
  refine⟨by first|omega|(simp only[List.length_append,List.length_cons,List.length_nil];omega),by first|omega|(simp only[List.length_append,List.length_cons,List.length_nil];omega),?_⟩
  refine DCallQ.h 120 (fun _=>q1) hH (fun _=>rfl) ?_
  simp(maxSteps:=2000000) only[go_sem,List.range_zero,List.nil_append,List.cons_append,List.map_cons,List.map_nil,List.getElem?_cons_zero,List.getElem?_cons_succ]
  refine⟨by first|omega|(simp only[List.length_append,List.length_cons,List.length_nil];omega),by first|omega|(simp only[List.length_append,List.length_cons,List.length_nil];omega),by first|omega|(simp only[List.length_append,List.length_cons,List.length_nil];omega),by first|omega|(simp only[List.length_append,List.length_cons,List.length_nil];omega),?_⟩
  refine DCallQ.seenX [(120,⟨false,[.v (iv num),.v (iv off),.v (iv den)],3⟩)] 130 q hH (ClM.of rfl) rfl ⟨oS,trivial⟩ rfl (.inl rfl) ⟨⟨rfl,rfl⟩,trivial⟩ rfl rfl ?_
  refine vv ?_
  refine⟨by first|omega|(simp only[List.length_append,List.length_cons,List.length_nil];omega),by first|omega|(simp only[List.length_append,List.length_cons,List.length_nil];omega),?_⟩
  refine DCallQ.h 140 (fun _=>q3) hH (fun _=>rfl) ?_
  refine vv ?_
  refine⟨by first|omega|(simp only[List.length_append,List.length_cons,List.length_nil];omega),by first|omega|(simp only[List.length_append,List.length_cons,List.length_nil];omega),?_⟩
  exact RetQ.of (hR C hL) rfl ⟨rfl,trivial⟩ rfl (Sub.nil _) ClM.nil (ClV.of rfl)
 |false=>
  refine vv ?_
  refine Sm.dg 110 31 mix ?_
  refine vv ?_
  refine⟨by first|omega|(simp only[List.length_append,List.length_cons,List.length_nil];omega),by first|omega|(simp only[List.length_append,List.length_cons,List.length_nil];omega),?_⟩
  refine DCallQ.h 120 (fun _=>q1) hH (fun _=>rfl) ?_
  simp(maxSteps:=2000000) only[go_sem,List.range_zero,List.nil_append,List.cons_append,List.map_cons,List.map_nil,List.getElem?_cons_zero,List.getElem?_cons_succ]
  refine⟨by first|omega|(simp only[List.length_append,List.length_cons,List.length_nil];omega),by first|omega|(simp only[List.length_append,List.length_cons,List.length_nil];omega),by first|omega|(simp only[List.length_append,List.length_cons,List.length_nil];omega),by first|omega|(simp only[List.length_append,List.length_cons,List.length_nil];omega),?_⟩
  refine DCallQ.seenX [(120,⟨false,[.v (iv num),.v (iv off),.v (iv den)],3⟩)] 130 q hH (ClM.of rfl) rfl ⟨oS,trivial⟩ rfl (.inl rfl) ⟨⟨rfl,rfl⟩,trivial⟩ rfl rfl ?_
  refine vv ?_
  refine⟨by first|omega|(simp only[List.length_append,List.length_cons,List.length_nil];omega),by first|omega|(simp only[List.length_append,List.length_cons,List.length_nil];omega),?_⟩
  refine DCallQ.h 140 (fun _=>q3) hH (fun _=>rfl) ?_
  refine vv ?_
  refine⟨by first|omega|(simp only[List.length_append,List.length_cons,List.length_nil];omega),by first|omega|(simp only[List.length_append,List.length_cons,List.length_nil];omega),?_⟩
  exact RetQ.of (hR C hL) rfl ⟨rfl,trivial⟩ rfl (Sub.nil _) ClM.nil (ClV.of rfl)
def mapT (m:Mp):Str:=[109,97,112,32]++m.nm++[32,61,32,40]++nmT m.xs++[59,32]++nmT m.ys++[59,32]++Lib.join (m.zs.map nmT) [44,32]++[41,10]
theorem mapTx_ {H:Hp}(hW:PwR H)(m:MpL)(hm:m.ok H)(hn:nmOk m.nm=true)(hv:maOk m.xs m.ys (m.zs.map (·.2))=true):CallH H Tryz.prog 134 [rowV m.r] (S (mapT m.c)):=by
 obtain⟨a1,a2,a3,a4⟩:=maOk_l hv
 rw[List.length_map]at a3
 have h1:=nmLe hn
 have l1:(nmT m.xs).length≤704:=Nat.le_trans (nmT_le a1.2) (by omega)
 have l2:(nmT m.ys).length≤704:=Nat.le_trans (nmT_le a2.2) (by omega)
 have a5:∀v∈m.zs,v.2.length≤32∧∀n∈v.2,inR n:=fun v hv=>a4 v.2 (List.mem_map.2 ⟨v,hv,rfl⟩)
 have l3:(Lib.join (@List.map Zv Str (fun v=>nmT v.2) m.zs) [44,32]).length≤22592:=by
  have:=join_len 704 (@List.map Zv Str (fun v=>nmT v.2) m.zs) [44,32] fun x hx=>by
   obtain⟨v,hv,rfl⟩:=List.mem_map.1 hx
   have:=nmT_le (a5 v hv).2
   have:=(a5 v hv).1
   omega
  rw[List.length_map]at this
  have e:([44,32]:Str).length=2:=rfl
  rw[e]at this
  omega
 have q1:=nums_ (H:=H) hW m.x m.xs hm.x (by omega) a1.2
 have q2:=nums_ (H:=H) hW m.y m.ys hm.y (by omega) a2.2
 have q3:=join_zz (H:=H) m.z m.zs hm.z (by omega) [44,32] 137 (fun v=>nmT v.2) (fun v hv=>nums_ hW v.1 v.2 (hm.e v hv) (by have:=(a5 v hv).1;omega) (a5 v hv).2) (by omega)
 have e0:mapT m.c=[109,97,112,32]++m.nm++[32,61,32,40]++nmT m.xs++[59,32]++nmT m.ys++[59,32]++Lib.join (@List.map Zv Str (fun v=>nmT v.2) m.zs) [44,32]++[41,10]:=by
  unfold mapT MpL.c
  rw[List.map_map];rfl
 rw[e0]
 refine CallH.mkS Tryz.func134 rfl en134 (by simp[Tryz.ntmps134]) (ClA.of rfl) fun C hR hP hH hL=>?_
 refine Sm.go 100 ?_
 refine vv ?_
 refine Sm.dg 110 21 mix ?_
 refine vv ?_
 refine⟨by first|omega|(simp only[List.length_append,List.length_cons,List.length_nil];omega),by first|omega|(simp only[List.length_append,List.length_cons,List.length_nil];omega),?_⟩
 refine DCallQ.h 120 (fun _=>q1) hH (fun _=>rfl) ?_
 refine vv ?_
 refine⟨by first|omega|(simp only[List.length_append,List.length_cons,List.length_nil];omega),by first|omega|(simp only[List.length_append,List.length_cons,List.length_nil];omega),?_⟩
 refine DCallQ.h 130 (fun _=>q2) hH (fun _=>rfl) ?_
 refine vv ?_
 refine⟨by first|omega|(simp only[List.length_append,List.length_cons,List.length_nil];omega),by first|omega|(simp only[List.length_append,List.length_cons,List.length_nil];omega),?_⟩
 refine DCallQ.h 140 (fun _=>q3) hH (fun _=>rfl) ?_
 refine vv ?_
 refine⟨by first|omega|(simp only[List.length_append,List.length_cons,List.length_nil];omega),by first|omega|(simp only[List.length_append,List.length_cons,List.length_nil];omega),?_⟩
 exact RetQ.of (hR C hL) rfl ⟨rfl,trivial⟩ rfl (Sub.nil _) ClM.nil (ClV.of rfl)
set_option maxHeartbeats 4000000
theorem PwR.up {H H':Hp}(k:PwR H)(h:H.le H'):PwR H':=by
 obtain⟨el,mk,hc⟩:=k
 exact⟨el,mk,h _ _ hc⟩
def cuZ (c:Cu):List (List Int):=(c.xs.zip c.ys).map fun p=>[p.1,p.2]
def curT (c:Cu):Str:=[99,117,114,118,101,32]++c.nm++[32,61,32,40]++Lib.join ((cuZ c).map nmT) [44,32]++[41,10]
theorem cuZ_len {c:Cu}(h:c.xs.length=c.ys.length):(cuZ c).length=c.xs.length:=by unfold cuZ;rw[List.length_map,List.length_zip];omega
theorem cuZ_get {c:Cu}(h:c.xs.length=c.ys.length)(i:Nat)(hi:i<c.xs.length):(cuZ c).take (i+1)=(cuZ c).take i++[[c.xs[i],c.ys[i]]]:=by
 rw[List.take_succ_eq_append_getElem (by rw[cuZ_len h];exact hi)]
 congr 2
 unfold cuZ
 rw[List.getElem_map,List.getElem_zip]
theorem cur_ {H:Hp}(hW:PwR H)(c:CuL)(hc:c.ok H)(hn:nmOk c.c.nm=true)(hv:cuOk c.c.xs c.c.ys=true):CallH H Tryz.prog 132 [rowV c.r] (S (curT c.c)):=by
 have h1:=nmLe hn
 unfold cuOk at hv
 simp only[Bool.and_eq_true,decide_eq_true_eq]at hv
 obtain⟨hxy,hv1,hv2⟩:=hv
 obtain⟨a1,a2⟩:=axOk_l hv1
 have a3:=near_inR hv2
 have oy:=hc.y
 obtain⟨c,sx,sy⟩:=c
 simp only at*
 refine CallH.mkS Tryz.func132 rfl en132 (by simp[Tryz.ntmps132]) (ClA.of rfl) fun C hR hP hH hL=>?_
 refine Sm.go 100 ?_
 refine vv ?_
 refine Sm.bringI 4 3 8 (hc.x.mono hH) rfl rfl ?_
 refine Sm.bringC 5 3 100 2 (oy.mono hH) rfl rfl rfl ?_
 have ey:(intsR c.ys).length=c.xs.length:=by rw[hxy];exact List.length_map _
 rw[ey,intsC]
 refine Sm.nils 150 1 73 [3] [] rfl ?_
 refine Sm.loopX (C:=C) (Ck:=C) (M0:=[]) (α:={z:List Zv//z.length≤c.xs.length∧z.map (·.2)=(cuZ c).take z.length}) hL hP (fun z=>[(1,true,.c (.p 100 0)),(3,true,.c (.sl 150 0 z.val.length 1)),(8,true,.c (.sl 4 0 c.xs.length 1)),(9,true,I c.xs.length),(10,true,I z.val.length)])
  (fun z=>[(100,⟨false,[.v (sv c.nm),.v (vsl sx c.xs.length),.sl 5 0 c.xs.length 1],110⟩),(4,⟨true,c.xs.map iC,3⟩),(5,⟨true,c.ys.map iC,3⟩),(150,⟨false,rowsC (z.val.map zR),73⟩)])
  (fun z hp=>H.le hp∧∀v∈z.val,SlH hp (vsl v.1 v.2.length) 1 (intsR v.2)) (fun z=>c.xs.length-z.val.length) ⟨[],by simp,by simp⟩ ⟨hH,by simp⟩ (fun z=>ClM.of (by simp only[List.all_cons,inMV (rowsC_isV _),inMV (v_iC _)];rfl)) (fun _=>ClE.of rfl) [(100,100),(4,4),(5,5),(150,150)] ⟨rfl,trivial,⟨rfl,rfl,rfl,rfl,rfl,trivial⟩,⟨oR,oV (renV (v_iC _)),oV (renV (v_iC _)),oV (renV (rowsC_isV _)),trivial⟩⟩ ?_
 rintro⟨z,hzl,hzc⟩ C1 J l1 ⟨h1',hz⟩ hj
 simp only at hj hzl hzc hz⊢
 have hzn:=rows_len (r:=zR) (k:=1) (fun _=>rfl) z
 rw[Nat.mul_one]at hzn
 refine Sm.go 160 ?_
 refine vv ?_
 refine mtch (fun hc=>?_) (fun hc=>?_)
 ·have hc:=lt_of_dec hc
  have hg:=cuZ_get hxy z.length hc
  simp(maxSteps:=2000000) only[go_sem,get_iC hc,get_iC (show z.length<c.ys.length by omega),hzn]
  refine⟨⟨by omega,by omega⟩,⟨by omega,by omega⟩,⟨by omega,by omega,by omega⟩,?_⟩
  generalize c.xs[z.length]=x at*
  generalize c.ys[z.length]=y at*
  rw[List.take_of_length_le (by omega)]
  have kA:(rowsC (z.map zR)++[Cv.sl 160 0 2 1]).all (Cv.cok [160])=true:=by rw[List.all_append,cokV (rowsC_isV _)];rfl
  refine Sm.letgo (M0:=[]) [160] l1 hP rfl (by unfold concOk;simp only[List.all_cons,kA,cokV (rowsC_isV _),cokV (v_iC _)];rfl) (fun β C2 l2 k2 kn=>?_)
  obtain⟨sz,hvz,hkz⟩:=(kn 160 _ rfl rfl rfl).vslx (sz:=1) (rows:=intsR [x,y]) (lenR (fun n:Int=>[iv n]) 1 _ fun _=>rfl) rfl
  have hvz:gval β (.sl 160 0 2 1)=vsl sz 2:=hvz
  simp only[Mem.conc,Env.conc,Bk.conc,Cv.conc,V.conc,List.map_cons,List.map_nil,List.map_append,List.contains_cons,List.contains_nil,Nat.reduceBEq,Bool.or_false,Bool.or_true,cond_true,cond_false,concV (rowsC_isV _),concV (v_iC _),hvz]
  have hset:rowsC (z.map zR)++[.v (vsl sz 2)]=rowsC ((z++[((sz,[x,y]):Zv)]).map zR):=by
   simp[rowsC,zR]
  rw[hset]
  refine Sm.go 210 ?_
  simp(maxSteps:=2000000) only[go_sem,wS (show z.length≤1000000000000000000 by omega)]
  refine hj _ _ C2 ⟨z++[((sz,[x,y]):Zv)],by simp;omega,by simp only[List.map_append,List.map_cons,List.map_nil,List.length_append,List.length_cons,List.length_nil,Nat.zero_add];rw[hg,hzc]⟩ [(100,100),(4,4),(5,5),(150,162)] l2 ⟨h1'.trans k2,fun v hv=>?_⟩ (by simp only[List.length_append,List.length_cons,List.length_nil];omega) ?_
  ·rcases List.mem_append.1 hv with hv|hv
   ·exact(hz v hv).mono k2
   ·obtain rfl:=List.mem_singleton.1 hv
    exact hkz
  ·simp only[List.length_append,List.length_cons,List.length_nil,Nat.zero_add]
   exact⟨rfl,trivial,⟨rfl,rfl,rfl,rfl,rfl,trivial⟩,⟨oR,oV (renV (v_iC _)),oV (renV (v_iC _)),oV (renV (rowsC_isV _)),trivial⟩⟩
 have hc:=eq_of_dec hzl hc
 clear hj
 rw[hc,List.take_of_length_le (by rw[cuZ_len hxy];omega)]at hzc
 refine Sm.letgo (M0:=[]) [150] l1 hP rfl (by unfold concOk;simp only[List.all_cons,cokV (rowsC_isV _),cokV (v_iC _)];rfl) (fun β C2 l2 k2 kn=>?_)
 obtain⟨sz,hvz,hkz⟩:=(kn 150 _ rfl rfl rfl).vslx (sz:=1) (rows:=z.map zR) (lenR zR 1 _ fun _=>rfl) rfl
 have ez:(z.map zR).length=z.length:=List.length_map _
 rw[ez]at hvz hkz
 simp only[Mem.conc,Env.conc,Bk.conc,Cv.conc,V.conc,List.map_cons,List.map_nil,List.map_append,List.contains_cons,List.contains_nil,Nat.reduceBEq,Bool.or_false,Bool.or_true,cond_true,cond_false,concV (rowsC_isV _),concV (v_iC _),hvz]
 refine Sm.go 220 ?_
 refine vv ?_
 have hal:∀v∈z,v.2.length≤2∧∀n∈v.2,inR n:=fun v hv=>by
  have hm:v.2∈cuZ c:=by rw[←hzc];exact List.mem_map.2 ⟨v,hv,rfl⟩
  unfold cuZ at hm
  obtain⟨q,hq,he⟩:=List.mem_map.1 hm
  obtain⟨b1,b2⟩:=List.of_mem_zip hq
  rw[←he]
  refine⟨Nat.le_refl _,fun n hn=>?_⟩
  rcases List.mem_cons.1 hn with rfl|hn
  ·exact a2 _ b1
  ·rw[List.mem_singleton.1 hn];exact a3 _ b2
 have l3:(Lib.join (@List.map Zv Str (fun v=>nmT v.2) z) [44,32]).length≤1472:=by
  have:=join_len 44 (@List.map Zv Str (fun v=>nmT v.2) z) [44,32] fun x hx=>by
   obtain⟨v,hv,rfl⟩:=List.mem_map.1 hx
   have:=nmT_le (hal v hv).2
   have:=(hal v hv).1
   omega
  rw[List.length_map]at this
  have e:([44,32]:Str).length=2:=rfl
  rw[e]at this
  omega
 have q3:=join_zz (H:=C2.hp) sz z hkz (by omega) [44,32] 137 (fun v=>nmT v.2) (fun v hv=>nums_ (hW.up (h1'.trans k2)) v.1 v.2 ((hz v hv).mono k2) (by have:=(hal v hv).1;omega) (hal v hv).2) (by omega)
 have e0:curT c=[99,117,114,118,101,32]++c.nm++[32,61,32,40]++Lib.join (@List.map Zv Str (fun v=>nmT v.2) z) [44,32]++[41,10]:=by
  unfold curT
  rw[←hzc,List.map_map];rfl
 rw[e0]at hR
 refine Sm.dg 230 7 mix ?_
 refine vv ?_
 refine⟨by first|omega|(simp only[List.length_append,List.length_cons,List.length_nil];omega),by first|omega|(simp only[List.length_append,List.length_cons,List.length_nil];omega),?_⟩
 refine DCallQ.h 240 (fun _=>q3) (Hp.le.refl _) (fun _=>rfl) ?_
 refine vv ?_
 refine⟨by first|omega|(simp only[List.length_append,List.length_cons,List.length_nil];omega),by first|omega|(simp only[List.length_append,List.length_cons,List.length_nil];omega),?_⟩
 exact RetQ.of (hR C2 l2) rfl ⟨rfl,trivial⟩ rfl (Sub.nil _) ClM.nil (ClV.of rfl)
set_option maxHeartbeats 4000000
theorem sameS_ {H:Hp}(x:Str):CallH H Tryz.prog 141 [S x] (S x):=by
 refine CallH.mkS Tryz.func141 rfl en141 (by simp[Tryz.ntmps141]) (ClA.of rfl) fun C hR hP hH hL=>?_
 refine Sm.go 100 ?_
 refine vv ?_
 exact RetQ.of (hR C hL) rfl ⟨rfl,trivial⟩ rfl (Sub.nil _) ClM.nil (ClV.of rfl)
def argL (b:Bl):List Str:=bif b.tb==[]then b.ins else b.ins++[b.tb]
def blA (b:Bl)(J:Str):Str:=[98,108,111,99,107,32]++b.nm++[32,61,32]++b.kd++[40]++J
def jnI (l:List Int):Str:=Lib.join (l.map Lib.itoa) [44,32]
def blT (b:Bl):Str:=(bif decide (0<b.ks.length)then blA b (Lib.join (argL b) [44,32])++([59,32]++jnI b.ks)else blA b (Lib.join (argL b) [44,32]))++[41,32,58,32]++b.ty++[10]
theorem bl_bd {b:Bl}(h:blOk b=true):(b.nm.length≤24∧b.kd.length≤10∧b.ty.length≤24∧b.tb.length≤24)∧(b.ins.length≤3∧∀x∈b.ins,x.length≤24)∧b.ks.length≤2∧∀n∈b.ks,inR n:=by
 unfold blOk at h
 cases hq:kindQ b.kd with
 |none=>rw[hq]at h;cases h
 |some q=>
  rw[hq]at h
  have hm:=kind_mem hq
  obtain⟨a,k,t⟩:=q
  simp only[Bool.and_eq_true,decide_eq_true_eq,List.all_eq_true]at h
  obtain⟨e1,e2,e3,e4,e5,e6,e7⟩:=h
  have hk:∀x∈kindT,x.1.length≤10∧x.2.1≤3∧x.2.2.1≤2:=by decide
  have hk:=hk _ hm
  simp only at hk
  refine⟨⟨nmLe e3,hk.1,nmLe e4,?_⟩,⟨by omega,fun x hx=>nmLe (e6 x hx)⟩,by omega,fun n hn=>fit_in (e7 n hn)⟩
  split at e5
  ·rw[eq_of_beq e5];exact Nat.zero_le _
  ·exact nmLe e5
theorem jnI_le {l:List Int}(hl:l.length≤2)(hb:∀n∈l,inR n):(jnI l).length≤46:=by
 have:=join_len 21 (l.map Lib.itoa) [44,32] fun x hx=>by
  obtain⟨n,hn,rfl⟩:=List.mem_map.1 hx
  exact Lib.itoa_length_le n (hb n hn).1 (hb n hn).2
 rw[List.length_map]at this
 have e:([44,32]:Str).length=2:=rfl
 rw[e]at this
 unfold jnI
 omega
theorem jnS_le {l:List Str}(hl:l.length≤30)(hb:∀x∈l,x.length≤24):(Lib.join l [44,32]).length≤780:=by
 have:=join_len 24 l [44,32] hb
 have e:([44,32]:Str).length=2:=rfl
 rw[e]at this
 omega
theorem joinSame {H:Hp}(s:Sv)(l:List Str)(hs:SlH H (vsl s l.length) 1 (strsR l))(hl:l.length≤30)(hb:∀x∈l,x.length≤24):
  CallH H Tryz.prog 140 [.c (.v (vsl s l.length)),S [44,32],Fv 141 #[]] (S (Lib.join l [44,32])):=by
 have hj:=jnS_le hl hb
 have e:l.map (fun x=>x)=l:=List.map_id' _
 have q:=join_st (H:=H) s l hs (by omega) [44,32] 141 (fun x=>x) (fun x _=>sameS_ x) (by rw[e];omega)
 rw[e]at q
 exact q
theorem blk_ {H:Hp}(hW:PwR H)(b:BlL)(o:b.ok H)(hv:blOk b.c=true):CallH H Tryz.prog 139 [rowV b.r] (S (blT b.c)):=by
 obtain⟨⟨h1,h2,h3,h4⟩,⟨h5,h6⟩,h7,h8⟩:=bl_bd hv
 have hjk:=jnI_le h7 h8
 have oi:=o.i
 have ok:=o.k
 have q2:=join_in (H:=H) b.k b.c.ks ok (by omega) [44,32] 222 Lib.itoa (fun x hx=>textH hW x (h8 x hx).1 (h8 x hx).2) (by show(jnI b.c.ks).length≤_;omega)
 have q2:CallH H Tryz.prog 225 [.c (.v (vsl b.k b.c.ks.length)),S [44,32],Fv 222 #[]] (S (jnI b.c.ks)):=q2
 have hae:argL b.c=bif b.c.tb==[]then b.c.ins else b.c.ins++[b.c.tb]:=rfl
 have hT:∀J:Str,Lib.join (argL b.c) [44,32]=J→blT b.c=(bif decide (0<b.c.ks.length)then blA b.c J++([59,32]++jnI b.c.ks)else blA b.c J)++[41,32,58,32]++b.c.ty++[10]:=fun J hJ=>by unfold blT;rw[hJ]
 have hbA:∀J,blA b.c J=[98,108,111,99,107,32]++b.c.nm++[32,61,32]++b.c.kd++[40]++J:=fun _=>rfl
 simp only[hbA]at hT
 generalize hBT:blT b.c=BT at*
 obtain⟨⟨nm,kd,ty,ins,tb,ks⟩,si,sk⟩:=b
 simp only at*
 refine CallH.mkS Tryz.func139 rfl en139 (by simp[Tryz.ntmps139]) (ClA.of rfl) fun C hR hP hH hL=>?_
 refine Sm.go 100 ?_
 refine vv ?_
 cases htb:tb==[]with
 |true=>
  rw[htb]at hae
  have hae:argL ⟨nm,kd,ty,ins,tb,ks⟩=ins:=hae
  have q:=joinSame (H:=C.hp) si ins (oi.mono hH) (by omega) h6
  have hJ:=jnS_le (l:=ins) (by omega) h6
  rw[hae]at hT
  have hT:=hT _ rfl
  generalize Lib.join ins [44,32]=J at*
  simp(maxSteps:=2000000) only[go_sem,htb]
  refine Sm.dg 230 11 mix ?_
  refine vv ?_
  refine⟨by first|omega|(simp only[List.length_append,List.length_cons,List.length_nil];omega),by first|omega|(simp only[List.length_append,List.length_cons,List.length_nil];omega),by first|omega|(simp only[List.length_append,List.length_cons,List.length_nil];omega),by first|omega|(simp only[List.length_append,List.length_cons,List.length_nil];omega),?_⟩
  refine DCallQ.h 240 (fun _=>q) (Hp.le.refl _) (fun _=>rfl) ?_
  refine vv ?_
  refine⟨by first|omega|(simp only[List.length_append,List.length_cons,List.length_nil];omega),?_⟩
  refine mtch (fun hc=>?_) (fun hc=>?_)
  ·have hc':decide (0<ks.length)=true:=decide_eq_true (by simpa using hc)
   rw[hc']at hT
   have hT:BT=[98,108,111,99,107,32]++nm++[32,61,32]++kd++[40]++J++([59,32]++jnI ks)++[41,32,58,32]++ty++[10]:=hT
   refine vv ?_
   refine CallQ.h 250 q2 hH rfl ?_
   refine vv ?_
   refine⟨by first|omega|(simp only[List.length_append,List.length_cons,List.length_nil];omega),by first|omega|(simp only[List.length_append,List.length_cons,List.length_nil];omega),by first|omega|(simp only[List.length_append,List.length_cons,List.length_nil];omega),by first|omega|(simp only[List.length_append,List.length_cons,List.length_nil];omega),by first|omega|(simp only[List.length_append,List.length_cons,List.length_nil];omega),?_⟩
   rw[hT]at hR
   exact RetQ.of (hR C hL) rfl ⟨rfl,trivial⟩ rfl (Sub.nil _) ClM.nil (ClV.of rfl)
  ·have hc':decide (0<ks.length)=false:=decide_eq_false (by simpa using hc)
   rw[hc']at hT
   have hT:BT=[98,108,111,99,107,32]++nm++[32,61,32]++kd++[40]++J++[41,32,58,32]++ty++[10]:=hT
   refine vv ?_
   refine⟨by first|omega|(simp only[List.length_append,List.length_cons,List.length_nil];omega),by first|omega|(simp only[List.length_append,List.length_cons,List.length_nil];omega),by first|omega|(simp only[List.length_append,List.length_cons,List.length_nil];omega),?_⟩
   rw[hT]at hR
   exact RetQ.of (hR C hL) rfl ⟨rfl,trivial⟩ rfl (Sub.nil _) ClM.nil (ClV.of rfl)
 |false=>
  rw[htb]at hae
  have hae:argL ⟨nm,kd,ty,ins,tb,ks⟩=ins++[tb]:=hae
  simp(maxSteps:=2000000) only[go_sem,htb]
  refine Sm.dg 110 6 mix ?_
  refine vv ?_
  have qc:=cloSs (H:=H) (vsl si ins.length) (strsR ins) oi (fun r hr=>by obtain⟨a,_,rfl⟩:=List.mem_map.1 hr;rfl) (by rw[strsC];simp[Cv.one,Value.oneCell']) (by unfold strsR;rw[List.length_map];omega)
  have er:(strsR ins).length=ins.length:=List.length_map _
  rw[er,strsC]at qc
  have eM:(ins.map sC).length=ins.length:=List.length_map _
  refine DCallQ.n1 120 qc hH rfl rfl rfl rfl ?_
  simp(maxSteps:=2000000) only[go_sem,eM]
  have hap:List.take ins.length (ins.map sC)++[Cv.v (.string ⟨tb.toArray⟩)]=(ins++[tb]).map sC:=by rw[List.take_of_length_le (by rw[eM];omega),List.map_append];rfl
  refine DOpQ.opy [(120,⟨false,[sC tb],9⟩),(2,⟨false,ins.map sC,9⟩)] 130 (by simp(maxSteps:=2000000) only[go_sem,eM,hap]<;>rfl) ?_ rfl ⟨⟨rfl,rfl,rfl⟩,⟨rfl,rfl,rfl⟩,trivial⟩ rfl rfl ?_
  ·exact⟨by omega,by omega,by omega⟩
  simp(maxSteps:=2000000) only[go_sem,eM]
  refine Sm.letgo (M0:=[]) [130] hL hP rfl (by unfold concOk;simp only[List.all_cons,cokV (v_sC _)];rfl) (fun β C2 l2 k2 kn=>?_)
  obtain⟨s3,hvs,hks⟩:=(kn 130 _ rfl rfl rfl).vslx (sz:=1) (rows:=strsR (ins++[tb])) (fun r hr=>by obtain⟨a,_,rfl⟩:=List.mem_map.1 hr;rfl) (strsC _).symm
  have e3:(strsR (ins++[tb])).length=(ins++[tb]).length:=List.length_map _
  rw[e3]at hvs hks
  have e4:(ins++[tb]).length=ins.length+1:=by rw[List.length_append];rfl
  have hvs':gval β (.sl 130 0 (ins.length+1) 1)=vsl s3 (ins++[tb]).length:=by rw[←e4];exact hvs
  simp only[Mem.conc,Env.conc,Bk.conc,Cv.conc,V.conc,List.map_cons,List.map_nil,List.contains_cons,List.contains_nil,Nat.reduceBEq,Bool.or_false,Bool.or_true,cond_true,cond_false,concV (v_sC _),hvs']
  have h6':∀x∈ins++[tb],x.length≤24:=fun x hx=>by
   rcases List.mem_append.1 hx with hx|hx
   ·exact h6 x hx
   ·rw[List.mem_singleton.1 hx];exact h4
  have q:=joinSame (H:=C2.hp) s3 (ins++[tb]) hks (by omega) h6'
  have hJ:=jnS_le (l:=ins++[tb]) (by omega) h6'
  rw[hae]at hT
  have hT:=hT _ rfl
  generalize Lib.join (ins++[tb]) [44,32]=J at*
  clear hvs hvs' kn qc hap
  refine Sm.go 225 ?_
  refine vv ?_
  refine Sm.dg 230 11 mix ?_
  refine vv ?_
  refine⟨by first|omega|(simp only[List.length_append,List.length_cons,List.length_nil];omega),by first|omega|(simp only[List.length_append,List.length_cons,List.length_nil];omega),by first|omega|(simp only[List.length_append,List.length_cons,List.length_nil];omega),by first|omega|(simp only[List.length_append,List.length_cons,List.length_nil];omega),?_⟩
  refine DCallQ.h 240 (fun _=>q) (Hp.le.refl _) (fun _=>rfl) ?_
  refine vv ?_
  refine⟨by first|omega|(simp only[List.length_append,List.length_cons,List.length_nil];omega),?_⟩
  refine mtch (fun hc=>?_) (fun hc=>?_)
  ·have hc':decide (0<ks.length)=true:=decide_eq_true (by simpa using hc)
   rw[hc']at hT
   have hT:BT=[98,108,111,99,107,32]++nm++[32,61,32]++kd++[40]++J++([59,32]++jnI ks)++[41,32,58,32]++ty++[10]:=hT
   refine vv ?_
   refine CallQ.h 250 q2 (hH.trans k2) rfl ?_
   refine vv ?_
   refine⟨by first|omega|(simp only[List.length_append,List.length_cons,List.length_nil];omega),by first|omega|(simp only[List.length_append,List.length_cons,List.length_nil];omega),by first|omega|(simp only[List.length_append,List.length_cons,List.length_nil];omega),by first|omega|(simp only[List.length_append,List.length_cons,List.length_nil];omega),by first|omega|(simp only[List.length_append,List.length_cons,List.length_nil];omega),?_⟩
   rw[hT]at hR
   exact RetQ.of (hR C2 l2) rfl ⟨rfl,trivial⟩ rfl (Sub.nil _) ClM.nil (ClV.of rfl)
  ·have hc':decide (0<ks.length)=false:=decide_eq_false (by simpa using hc)
   rw[hc']at hT
   have hT:BT=[98,108,111,99,107,32]++nm++[32,61,32]++kd++[40]++J++[41,32,58,32]++ty++[10]:=hT
   refine vv ?_
   refine⟨by first|omega|(simp only[List.length_append,List.length_cons,List.length_nil];omega),by first|omega|(simp only[List.length_append,List.length_cons,List.length_nil];omega),by first|omega|(simp only[List.length_append,List.length_cons,List.length_nil];omega),?_⟩
   rw[hT]at hR
   exact RetQ.of (hR C2 l2) rfl ⟨rfl,trivial⟩ rfl (Sub.nil _) ClM.nil (ClV.of rfl)
end Go.Proofs.YtlnpgbnhcondjaaGreatDoor.Fx
