/-  -/
import Derived.Test.YtlnpgbnhcondjaaGreatDoorTf
import Derived.Test.YtlnpgbnhcondjaaGreatDoorP8
import Derived.Test.YtlnpgbnhcondjaaGreatDoorQ3
namespace Go.Proofs.YtlnpgbnhcondjaaGreatDoor.Fx
open Vg Tf
set_option linter.unusedSimpArgs false
set_option linter.unusedVariables false
set_option maxRecDepth 100000
set_option maxHeartbeats 4000000
theorem jn_stepP {α:Type}(P:Str)(F:α→Str)(sep:Str)(l:List α)(i:Nat)(h:i<l.length):P++Lib.join ((l.take (i+1)).map F) sep=(if 0<i then(P++Lib.join ((l.take i).map F) sep)++sep else P++Lib.join ((l.take i).map F) sep)++F l[i]:=by
 rw[jn_step F sep l i h]
 split<;>simp only[List.append_assoc]
def zT (v:Zv):Str:=nmT v.2
theorem rmap_ {H:Hp}(m:MpL)(hm:m.ok H)(hn:nmOk m.nm=true)(hv:maOk m.xs m.ys (m.zs.map (·.2))=true):CallH H Tryz.prog 144 [rowV m.r] (S (mapT m.c)):=by
 have hT:=mapT_le (m:=m.c) hn hv
 obtain⟨a1,a2,a3,a4⟩:=maOk_l hv
 rw[List.length_map]at a3
 have h1:=nmLe hn
 have l1:(nmT m.xs).length≤704:=Nat.le_trans (nmT_le a1.2) (by omega)
 have l2:(nmT m.ys).length≤704:=Nat.le_trans (nmT_le a2.2) (by omega)
 have a5:∀v∈m.zs,v.2.length≤32∧∀n∈v.2,inR n:=fun v hv=>a4 v.2 (List.mem_map.2 ⟨v,hv,rfl⟩)
 have q1:=rlst_ (H:=H) m.x m.xs hm.x (by omega) a1.2
 have q2:=rlst_ (H:=H) m.y m.ys hm.y (by omega) a2.2
 have hzl:(zrV m).length=m.zs.length:=List.length_map _
 have e0:mapT m.c=[109,97,112,32]++m.nm++[32,61,32,40]++(nmT m.xs++[59,32]++nmT m.ys++[59,32]++Lib.join (@List.map Zv Str zT m.zs) [44,32])++[41,10]:=by
  have e1:(m.c.zs.map nmT)= @List.map Zv Str zT m.zs:=by show(m.zs.map (·.2)).map nmT=_;rw[List.map_map];rfl
  unfold mapT
  rw[e1]
  show[109,97,112,32]++m.nm++[32,61,32,40]++nmT m.xs++[59,32]++nmT m.ys++[59,32]++_++[41,10]=_
  simp only[List.append_assoc]
 rw[e0]at hT⊢
 refine CallH.mkS Tryz.func144 rfl en144 (by simp[Tryz.ntmps144]) (ClA.of rfl) fun C hR hP hH hL=>?_
 refine Sm.go 100 ?_
 refine vv ?_
 refine Sm.bringC 5 73 100 3 (rows:=zrV m) (by have:=hm.z.mono hH;exact this) rfl rfl rfl ?_
 rw[hzl]
 refine Sm.dg 110 10 mix ?_
 refine vv ?_
 refine DCallQ.h 120 (fun _=>q1) hH (fun _=>rfl) ?_
 refine vv ?_
 refine⟨by first|omega|(simp only[List.length_append,List.length_cons,List.length_nil];omega),?_⟩
 refine DCallQ.h 130 (fun _=>q2) hH (fun _=>rfl) ?_
 refine vv ?_
 refine⟨by first|omega|(simp only[List.length_append,List.length_cons,List.length_nil];omega),by first|omega|(simp only[List.length_append,List.length_cons,List.length_nil];omega),?_⟩
 simp only[List.length_append,List.length_cons,List.length_nil]at hT
 generalize hP0:nmT m.xs++[59,32]++nmT m.ys++[59,32]=P at*
 have hPl:P.length≤1500:=by rw[←hP0];first|omega|(simp only[List.length_append,List.length_cons,List.length_nil];omega)
 have hP1:P=P++Lib.join (@List.map Zv Str zT (m.zs.take 0)) [44,32]:=by show P=P++Lib.join [] _;rw[jn_nil,List.append_nil]
 rw[hP1]
 refine Sm.loopM (M0:=[]) (α:={i:Nat//i≤m.zs.length}) hP (fun i=>[(1,true,.c (.p 100 0)),(3,true,S (P++Lib.join (@List.map Zv Str zT (m.zs.take i.val)) [44,32])),(4,true,I i.val)])
  (fun _=>[(100,⟨false,[.v (sv m.nm),.v (vsl m.x m.xs.length),.v (vsl m.y m.ys.length),.sl 5 0 m.zs.length 1],115⟩),(5,⟨true,rowsC (zrV m),73⟩)]) (fun i=>m.zs.length-i.val) ⟨0,by omega⟩ (fun _=>ClM.of (by simp only[List.all_cons,inMV (rowsC_isV _)];rfl)) (fun _=>ClE.of rfl) [(100,100),(5,5)] ?_ ?_
 ·refine⟨rfl,trivial,⟨rfl,rfl,rfl,trivial⟩,⟨oR,oV (renV (rowsC_isV _)),trivial⟩⟩
 rintro⟨i,hi⟩ J hj
 simp only at hj hi⊢
 refine Sm.go 140 ?_
 refine vv ?_
 refine mtch (fun hc=>?_) (fun hc=>?_)
 ·have hc:=lt_of_dec hc
  have hst:=jn_stepP P zT [44,32] (m.zs:List Zv) i hc
  have hmem:m.zs[i]∈m.zs:=List.getElem_mem hc
  have hle:(Lib.join (@List.map Zv Str zT (m.zs.take i)) [44,32]).length≤i*706:=by
   have:=join_len 704 (@List.map Zv Str zT (m.zs.take i)) [44,32] fun x hx=>by
    obtain⟨v,hv,rfl⟩:=List.mem_map.1 hx
    have h9:=a5 v (List.mem_of_mem_take hv)
    have:=nmT_le h9.2
    have:=h9.1
    unfold zT
    omega
   rw[List.length_map,List.length_take]at this
   have e:([44,32]:Str).length=2:=rfl
   rw[e,Nat.min_eq_left (by omega)]at this
   omega
  have q3:=rlst_ (H:=H) m.zs[i].1 m.zs[i].2 (hm.e _ hmem) (by have:=(a5 _ hmem).1;omega) (a5 _ hmem).2
  have l3:(nmT m.zs[i].2).length≤704:=Nat.le_trans (nmT_le (a5 _ hmem).2) (by have:=(a5 _ hmem).1;omega)
  have q3:CallH H Tryz.prog 227 [.c (.v (vsl m.zs[i].1 m.zs[i].2.length))] (S (zT m.zs[i])):=q3
  have l3:(zT m.zs[i]).length≤704:=l3
  generalize zT m.zs[i]=Z at*
  generalize Lib.join (@List.map Zv Str zT (m.zs.take i)) [44,32]=A at*
  refine mtch (fun h0=>?_) (fun h0=>?_)
  ·have h0:0<i:=by have:=of_decide_eq_true h0;omega
   rw[if_pos h0]at hst
   simp(maxSteps:=2000000) only[go_sem,zr_get hc]
   refine⟨by first|omega|(simp only[List.length_append,List.length_cons,List.length_nil];omega),⟨by omega,by omega⟩,?_⟩
   refine CallQ.h 160 q3 hH rfl ?_
   simp(maxSteps:=2000000) only[go_sem,←hst,wS (show i≤1000000000000000000 by omega)]
   refine⟨by first|omega|(simp only[List.length_append,List.length_cons,List.length_nil];omega),?_⟩
   exact hj _ _ ⟨i+1,hc⟩ [(100,100),(5,5)] (by simp only;omega) ⟨rfl,trivial,⟨rfl,rfl,rfl,trivial⟩,⟨oR,oV (renV (rowsC_isV _)),trivial⟩⟩
  ·have h0:¬0<i:=by have:=of_decide_eq_false h0;omega
   rw[if_neg h0]at hst
   simp(maxSteps:=2000000) only[go_sem,zr_get hc]
   refine⟨⟨by omega,by omega⟩,?_⟩
   refine CallQ.h 160 q3 hH rfl ?_
   simp(maxSteps:=2000000) only[go_sem,←hst,wS (show i≤1000000000000000000 by omega)]
   refine⟨by first|omega|(simp only[List.length_append,List.length_cons,List.length_nil];omega),?_⟩
   exact hj _ _ ⟨i+1,hc⟩ [(100,100),(5,5)] (by simp only;omega) ⟨rfl,trivial,⟨rfl,rfl,rfl,trivial⟩,⟨oR,oV (renV (rowsC_isV _)),trivial⟩⟩
 ·have hc:=eq_of_dec hi hc
  subst hc
  rw[List.take_length]
  generalize Lib.join (@List.map Zv Str zT m.zs) [44,32]=J2 at*
  clear hj
  refine vv ?_
  refine⟨by first|omega|(simp only[List.length_append,List.length_cons,List.length_nil];omega),by first|omega|(simp only[List.length_append,List.length_cons,List.length_nil];omega),by first|omega|(simp only[List.length_append,List.length_cons,List.length_nil];omega),by first|omega|(simp only[List.length_append,List.length_cons,List.length_nil];omega),?_⟩
  exact RetQ.of (hR C hL) rfl ⟨rfl,trivial⟩ rfl (Sub.nil _) ClM.nil (ClV.of rfl)
theorem bl_tb {b:Bl}(h:blOk b=true)(ht:b.tb≠[]):b.ins≠[]:=by
 unfold blOk at h
 cases hq:kindQ b.kd with
 |none=>rw[hq]at h;cases h
 |some q=>
  rw[hq]at h
  have hm:=kind_mem hq
  obtain⟨a,k,t⟩:=q
  simp only[Bool.and_eq_true,decide_eq_true_eq,List.all_eq_true]at h
  obtain⟨e1,e2,e3,e4,e5,e6,e7⟩:=h
  have hk:∀x∈kindT,x.2.2.2≠0→x.2.1≠0:=by decide
  have hk:=hk _ hm
  simp only at hk
  intro hi
  rw[hi]at e1
  split at e5
  ·exact ht (eq_of_beq e5)
  ·rename_i h0;exact hk h0 e1.symm
def ksX (A:Str)(l:List Int)(i:Nat):Str:=if i=0 then A else A++([59,32]++Lib.join ((l.take i).map Lib.itoa) [44,32])
theorem ksX_step (A:Str)(l:List Int)(i:Nat)(h:i<l.length):ksX A l (i+1)=(if i=0 then ksX A l i++[59,32]else ksX A l i++[44,32])++Lib.itoa l[i]:=by
 have hs:=jn_step Lib.itoa [44,32] l i h
 unfold ksX
 rw[if_neg (by omega),hs]
 by_cases h0:i=0
 ·subst h0
  rw[if_neg (by omega),if_pos rfl,if_pos rfl]
  show A++([59,32]++(Lib.join [] [44,32]++_))=_
  rw[jn_nil]
  simp only[List.append_assoc,List.nil_append]
 ·rw[if_pos (by omega),if_neg h0,if_neg h0]
  simp only[List.append_assoc]
theorem ksX_le (A:Str)(l:List Int)(i:Nat)(hl:l.length≤2)(hb:∀n∈l,inR n):(ksX A l i).length≤A.length+50:=by
 have:=jnI_le (l:=l.take i) (by rw[List.length_take];omega) fun n hn=>hb n (List.mem_of_mem_take hn)
 unfold jnI at this
 unfold ksX
 split
 ·omega
 ·simp only[List.length_append,List.length_cons,List.length_nil]
  omega
theorem rblk_ {H:Hp}(b:BlL)(o:b.ok H)(hv:blOk b.c=true):CallH H Tryz.prog 146 [rowV b.r] (S (blT b.c)):=by
 have hT:=blT_le hv
 obtain⟨⟨h1,h2,h3,h4⟩,⟨h5,h6⟩,h7,h8⟩:=bl_bd hv
 have hjk:=jnI_le h7 h8
 have hJ:=jnS_le (argL_in hv).1 (argL_in hv).2
 have hne:=bl_tb hv
 have oi:=o.i
 have ok:=o.k
 have hae:argL b.c=bif b.c.tb==[]then b.c.ins else b.c.ins++[b.c.tb]:=rfl
 have hbT:blT b.c=[98,108,111,99,107,32]++b.c.nm++[32,61,32]++b.c.kd++[40]++ksX (Lib.join (argL b.c) [44,32]) b.c.ks b.c.ks.length++[41,32,58,32]++b.c.ty++[10]:=by
  unfold blT blA ksX jnI
  rw[List.take_length]
  by_cases h0:0<b.c.ks.length
  ·rw[decide_eq_true h0,if_neg (by omega)]
   simp only[cond_true,List.append_assoc]
  ·rw[decide_eq_false h0,if_pos (by omega)]
   simp only[cond_false,List.append_assoc]
 rw[hbT]at hT⊢
 obtain⟨⟨nm,kd,ty,ins,tb,ks⟩,si,sk⟩:=b
 simp only at*
 have ei:(strsR ins).length=ins.length:=List.length_map _
 have ek:(intsR ks).length=ks.length:=List.length_map _
 have id1:∀l:List Str,l.map (fun x=>x)=l:=fun l=>List.map_id' _
 refine CallH.mkS Tryz.func146 rfl en146 (by simp[Tryz.ntmps146]) (ClA.of rfl) fun C hR hP hH hL=>?_
 refine Sm.go 100 ?_
 refine vv ?_
 refine Sm.bringC 4 9 100 3 (oi.mono hH) rfl rfl rfl ?_
 refine Sm.bringC 5 3 100 5 (ok.mono hH) rfl rfl rfl ?_
 rw[ei,ek,strsC,intsC]
 refine Sm.loopM (M0:=[]) (α:={i:Nat//i≤ins.length}) hP (fun i=>[(1,true,.c (.p 100 0)),(3,true,S (Lib.join (ins.take i.val) [44,32])),(4,true,I i.val)])
  (fun _=>[(100,⟨false,[.v (sv nm),.v (sv kd),.v (sv ty),.sl 4 0 ins.length 1,.v (sv tb),.sl 5 0 ks.length 1],82⟩),(4,⟨true,ins.map sC,9⟩),(5,⟨true,ks.map iC,3⟩)]) (fun i=>ins.length-i.val) ⟨0,by omega⟩ (fun _=>ClM.of (by simp only[List.all_cons,inMV (v_iC _),inMV (v_sC _)];rfl)) (fun _=>ClE.of rfl) [(100,100),(4,4),(5,5)] ?_ ?_
 ·exact⟨rfl,trivial,⟨rfl,rfl,rfl,trivial⟩,⟨oR,oV (renV (v_sC _)),oV (renV (v_iC _)),trivial⟩⟩
 rintro⟨i,hi⟩ J hj
 simp only at hj hi⊢
 refine Sm.go 140 ?_
 refine vv ?_
 refine mtch (fun hc=>?_) (fun hc=>?_)
 ·have hc:=lt_of_dec hc
  have hst:=jn_step (fun x:Str=>x) [44,32] ins i hc
  rw[id1,id1]at hst
  have hle:=jnS_le (l:=ins.take i) (by rw[List.length_take];omega) fun x hx=>h6 x (List.mem_of_mem_take hx)
  have hx6:=h6 _ (List.getElem_mem hc)
  have gx:(ins.map sC)[i]?=some (sC ins[i]):=get_sC hc
  generalize ins[i]=x at*
  generalize Lib.join (ins.take i) [44,32]=A at*
  refine mtch (fun h0=>?_) (fun h0=>?_)
  ·have h0:0<i:=by have:=of_decide_eq_true h0;omega
   rw[if_pos h0]at hst
   simp(maxSteps:=2000000) only[go_sem,gx,←hst,wS (show i≤1000000000000000000 by omega)]
   refine⟨by first|omega|(simp only[List.length_append,List.length_cons,List.length_nil];omega),⟨by omega,by omega⟩,by first|omega|(simp only[List.length_append,List.length_cons,List.length_nil];omega),?_⟩
   exact hj _ _ ⟨i+1,hc⟩ [(100,100),(4,4),(5,5)] (by simp only;omega) ⟨rfl,trivial,⟨rfl,rfl,rfl,trivial⟩,⟨oR,oV (renV (v_sC _)),oV (renV (v_iC _)),trivial⟩⟩
  ·have h0:¬0<i:=by have:=of_decide_eq_false h0;omega
   rw[if_neg h0]at hst
   simp(maxSteps:=2000000) only[go_sem,gx,←hst,wS (show i≤1000000000000000000 by omega)]
   refine⟨⟨by omega,by omega⟩,by first|omega|(simp only[List.length_append,List.length_cons,List.length_nil];omega),?_⟩
   exact hj _ _ ⟨i+1,hc⟩ [(100,100),(4,4),(5,5)] (by simp only;omega) ⟨rfl,trivial,⟨rfl,rfl,rfl,trivial⟩,⟨oR,oV (renV (v_sC _)),oV (renV (v_iC _)),trivial⟩⟩
 have hc:=eq_of_dec hi hc
 rw[hc,List.take_length]
 clear hj
 have hji:=jnS_le (l:=ins) (by omega) h6
 refine vv ?_
 cases htb:tb==[]with
 |true=>
  have hae:argL ⟨nm,kd,ty,ins,tb,ks⟩=ins:=by rw[hae,htb];rfl
  rw[hae]at hT hR hJ
  generalize Lib.join ins [44,32]=B at*
  simp(maxSteps:=2000000) only[go_sem,htb]
  refine Sm.loopM (M0:=[]) (α:={i:Nat//i≤ks.length}) hP (fun i=>[(1,true,.c (.p 100 0)),(3,true,S (ksX B ks i.val)),(5,true,I i.val)])
   (fun _=>[(100,⟨false,[.v (sv nm),.v (sv kd),.v (sv ty),.sl 4 0 ins.length 1,.v (sv tb),.sl 5 0 ks.length 1],82⟩),(4,⟨true,ins.map sC,9⟩),(5,⟨true,ks.map iC,3⟩)]) (fun i=>ks.length-i.val) ⟨0,by omega⟩ (fun _=>ClM.of (by simp only[List.all_cons,inMV (v_iC _),inMV (v_sC _)];rfl)) (fun _=>ClE.of rfl) [(100,100),(4,4),(5,5)] ?_ ?_
  ·exact⟨rfl,trivial,⟨rfl,rfl,rfl,trivial⟩,⟨oR,oV (renV (v_sC _)),oV (renV (v_iC _)),trivial⟩⟩
  rintro⟨k,hk⟩ J hj
  simp only at hj hk⊢
  refine Sm.go 140 ?_
  refine vv ?_
  refine mtch (fun hc=>?_) (fun hc=>?_)
  ·have hc:=lt_of_dec hc
   have hst:=ksX_step B ks k hc
   have hle:=ksX_le B ks k h7 h8
   have hb8:=h8 _ (List.getElem_mem hc)
   have hxl:=Lib.itoa_length_le _ hb8.1 hb8.2
   have gx:(ks.map iC)[k]?=some (iC ks[k]):=get_iC hc
   have q:=rdcm_ ks[k] hb8
   generalize ks[k]=x at*
   refine mtch (fun h0=>?_) (fun h0=>?_)
   ·have h0:k=0:=by have:=eq_of_beq h0;omega
    rw[if_pos h0]at hst
    simp(maxSteps:=2000000) only[go_sem,gx]
    refine⟨by first|omega|(simp only[List.length_append,List.length_cons,List.length_nil];omega),⟨by omega,by omega⟩,?_⟩
    refine CallQ.pure 160 q rfl ?_
    simp(maxSteps:=2000000) only[go_sem,←hst,wS (show k≤1000000000000000000 by omega)]
    refine⟨by first|omega|(simp only[List.length_append,List.length_cons,List.length_nil];omega),?_⟩
    exact hj _ _ ⟨k+1,hc⟩ [(100,100),(4,4),(5,5)] (by simp only;omega) ⟨rfl,trivial,⟨rfl,rfl,rfl,trivial⟩,⟨oR,oV (renV (v_sC _)),oV (renV (v_iC _)),trivial⟩⟩
   ·have h0:¬k=0:=fun h=>by rw[h]at h0;cases h0
    rw[if_neg h0]at hst
    simp(maxSteps:=2000000) only[go_sem,gx]
    refine⟨by first|omega|(simp only[List.length_append,List.length_cons,List.length_nil];omega),⟨by omega,by omega⟩,?_⟩
    refine CallQ.pure 160 q rfl ?_
    simp(maxSteps:=2000000) only[go_sem,←hst,wS (show k≤1000000000000000000 by omega)]
    refine⟨by first|omega|(simp only[List.length_append,List.length_cons,List.length_nil];omega),?_⟩
    exact hj _ _ ⟨k+1,hc⟩ [(100,100),(4,4),(5,5)] (by simp only;omega) ⟨rfl,trivial,⟨rfl,rfl,rfl,trivial⟩,⟨oR,oV (renV (v_sC _)),oV (renV (v_iC _)),trivial⟩⟩
  ·have hc:=eq_of_dec hk hc
   subst hc
   clear hj
   have hle:=ksX_le B ks ks.length h7 h8
   generalize ksX B ks ks.length=E2 at*
   refine vv ?_
   refine⟨by first|omega|(simp only[List.length_append,List.length_cons,List.length_nil];omega),by first|omega|(simp only[List.length_append,List.length_cons,List.length_nil];omega),by first|omega|(simp only[List.length_append,List.length_cons,List.length_nil];omega),by first|omega|(simp only[List.length_append,List.length_cons,List.length_nil];omega),by first|omega|(simp only[List.length_append,List.length_cons,List.length_nil];omega),by first|omega|(simp only[List.length_append,List.length_cons,List.length_nil];omega),by first|omega|(simp only[List.length_append,List.length_cons,List.length_nil];omega),by first|omega|(simp only[List.length_append,List.length_cons,List.length_nil];omega),?_⟩
   exact RetQ.of (hR C hL) rfl ⟨rfl,trivial⟩ rfl (Sub.nil _) ClM.nil (ClV.of rfl)
 |false=>
  have hae:argL ⟨nm,kd,ty,ins,tb,ks⟩=ins++[tb]:=by rw[hae,htb];rfl
  rw[hae]at hT hR hJ
  have hsn:=jn_snoc [44,32] tb ins (hne (fun h=>by rw[h]at htb;cases htb))
  simp(maxSteps:=2000000) only[go_sem,htb]
  refine⟨by first|omega|(simp only[List.length_append,List.length_cons,List.length_nil];omega),by first|omega|(simp only[List.length_append,List.length_cons,List.length_nil];omega),?_⟩
  rw[←hsn]
  generalize Lib.join (ins++[tb]) [44,32]=B at*
  refine Sm.loopM (M0:=[]) (α:={i:Nat//i≤ks.length}) hP (fun i=>[(1,true,.c (.p 100 0)),(3,true,S (ksX B ks i.val)),(5,true,I i.val)])
   (fun _=>[(100,⟨false,[.v (sv nm),.v (sv kd),.v (sv ty),.sl 4 0 ins.length 1,.v (sv tb),.sl 5 0 ks.length 1],82⟩),(4,⟨true,ins.map sC,9⟩),(5,⟨true,ks.map iC,3⟩)]) (fun i=>ks.length-i.val) ⟨0,by omega⟩ (fun _=>ClM.of (by simp only[List.all_cons,inMV (v_iC _),inMV (v_sC _)];rfl)) (fun _=>ClE.of rfl) [(100,100),(4,4),(5,5)] ?_ ?_
  ·exact⟨rfl,trivial,⟨rfl,rfl,rfl,trivial⟩,⟨oR,oV (renV (v_sC _)),oV (renV (v_iC _)),trivial⟩⟩
  rintro⟨k,hk⟩ J hj
  simp only at hj hk⊢
  refine Sm.go 140 ?_
  refine vv ?_
  refine mtch (fun hc=>?_) (fun hc=>?_)
  ·have hc:=lt_of_dec hc
   have hst:=ksX_step B ks k hc
   have hle:=ksX_le B ks k h7 h8
   have hb8:=h8 _ (List.getElem_mem hc)
   have hxl:=Lib.itoa_length_le _ hb8.1 hb8.2
   have gx:(ks.map iC)[k]?=some (iC ks[k]):=get_iC hc
   have q:=rdcm_ ks[k] hb8
   generalize ks[k]=x at*
   refine mtch (fun h0=>?_) (fun h0=>?_)
   ·have h0:k=0:=by have:=eq_of_beq h0;omega
    rw[if_pos h0]at hst
    simp(maxSteps:=2000000) only[go_sem,gx]
    refine⟨by first|omega|(simp only[List.length_append,List.length_cons,List.length_nil];omega),⟨by omega,by omega⟩,?_⟩
    refine CallQ.pure 160 q rfl ?_
    simp(maxSteps:=2000000) only[go_sem,←hst,wS (show k≤1000000000000000000 by omega)]
    refine⟨by first|omega|(simp only[List.length_append,List.length_cons,List.length_nil];omega),?_⟩
    exact hj _ _ ⟨k+1,hc⟩ [(100,100),(4,4),(5,5)] (by simp only;omega) ⟨rfl,trivial,⟨rfl,rfl,rfl,trivial⟩,⟨oR,oV (renV (v_sC _)),oV (renV (v_iC _)),trivial⟩⟩
   ·have h0:¬k=0:=fun h=>by rw[h]at h0;cases h0
    rw[if_neg h0]at hst
    simp(maxSteps:=2000000) only[go_sem,gx]
    refine⟨by first|omega|(simp only[List.length_append,List.length_cons,List.length_nil];omega),⟨by omega,by omega⟩,?_⟩
    refine CallQ.pure 160 q rfl ?_
    simp(maxSteps:=2000000) only[go_sem,←hst,wS (show k≤1000000000000000000 by omega)]
    refine⟨by first|omega|(simp only[List.length_append,List.length_cons,List.length_nil];omega),?_⟩
    exact hj _ _ ⟨k+1,hc⟩ [(100,100),(4,4),(5,5)] (by simp only;omega) ⟨rfl,trivial,⟨rfl,rfl,rfl,trivial⟩,⟨oR,oV (renV (v_sC _)),oV (renV (v_iC _)),trivial⟩⟩
  ·have hc:=eq_of_dec hk hc
   subst hc
   clear hj
   have hle:=ksX_le B ks ks.length h7 h8
   generalize ksX B ks ks.length=E2 at*
   refine vv ?_
   refine⟨by first|omega|(simp only[List.length_append,List.length_cons,List.length_nil];omega),by first|omega|(simp only[List.length_append,List.length_cons,List.length_nil];omega),by first|omega|(simp only[List.length_append,List.length_cons,List.length_nil];omega),by first|omega|(simp only[List.length_append,List.length_cons,List.length_nil];omega),by first|omega|(simp only[List.length_append,List.length_cons,List.length_nil];omega),by first|omega|(simp only[List.length_append,List.length_cons,List.length_nil];omega),by first|omega|(simp only[List.length_append,List.length_cons,List.length_nil];omega),by first|omega|(simp only[List.length_append,List.length_cons,List.length_nil];omega),?_⟩
   exact RetQ.of (hR C hL) rfl ⟨rfl,trivial⟩ rfl (Sub.nil _) ClM.nil (ClV.of rfl)
theorem rLetter_ (c:UInt8):CallOk Tryz.prog 170 [Y c.toNat] [] (Bo (leB c)) []:=by
 refine CallOk.mkN 100 Tryz.func170 rfl en170 (by simp[Tryz.ntmps170]) (ClA.of rfl) rfl rfl fun C hR hP=>?_
 refine vv ?_
 refine⟨fun h=>⟨h,fun h2=>by rw[h,h2];rfl⟩,?_⟩
 refine RetQ.bool hR rfl ⟨rfl,trivial⟩ ?_
 unfold leB
 simp only[band_,bor_]
 have e1:decide ((97:Int)≤(c.toNat:Int))=decide (97≤c.toNat):=by rw[decide_eq_decide];omega
 have e2:decide ((c.toNat:Int)≤122)=decide (c.toNat≤122):=by rw[decide_eq_decide];omega
 have e3:decide ((65:Int)≤(c.toNat:Int))=decide (65≤c.toNat):=by rw[decide_eq_decide];omega
 have e4:decide ((c.toNat:Int)≤90)=decide (c.toNat≤90):=by rw[decide_eq_decide];omega
 rw[e1,e2,e3,e4]
theorem rDigit_ (c:UInt8):CallOk Tryz.prog 172 [Y c.toNat] [] (Bo (diB c)) []:=by
 refine CallOk.mkN 100 Tryz.func172 rfl en172 (by simp[Tryz.ntmps172]) (ClA.of rfl) rfl rfl fun C hR hP=>?_
 refine vv ?_
 refine RetQ.bool hR rfl ⟨rfl,trivial⟩ ?_
 unfold diB
 simp only[band_,bor_]
 have e1:decide ((48:Int)≤(c.toNat:Int))=decide (48≤c.toNat):=by rw[decide_eq_decide];omega
 have e2:decide ((c.toNat:Int)≤57)=decide (c.toNat≤57):=by rw[decide_eq_decide];omega
 rw[e1,e2]
def wordQ (s:Str):Nat:=match s with
 |[]=>0
 |c::r=>if leB c=true then 1+(r.takeWhile inB).length else 0
theorem wordQ_all (s:Str)(hs:s≠[]):((wordQ s:Int)==(s.length:Int))=(leB (s.getD 0 0)&&s.all inB):=by
 cases s with
 |nil=>exact absurd rfl hs
 |cons c r=>
  have hi:leB c=true→inB c=true:=fun h=>by unfold inB;rw[h];rfl
  have:=runN_all inB r
  unfold runN at this
  rw[List.drop_zero]at this
  show((((if leB c=true then 1+(r.takeWhile inB).length else 0:Nat)):Int)==((c::r).length:Int))=(leB c&&(inB c&&r.all inB))
  cases h:leB c with
  |false=>simp;omega
  |true=>
   rw[hi h,if_pos rfl,←this]
   simp only[List.length_cons,Bool.true_and]
   rw[Bool.eq_iff_iff,beq_iff_eq,beq_iff_eq];omega
theorem rWord_ (s:Str)(hs:s.length≤1000000000000000):CallOk Tryz.prog 171 [S s] [] (I (wordQ s)) []:=by
 cases s with
 |nil=>
  refine CallOk.mkN 100 Tryz.func171 rfl en171 (by simp[Tryz.ntmps171]) (ClA.of rfl) rfl rfl fun C hR hP=>?_
  refine vv ?_
  refine CallQ.guard (xs:=[]) (v:=Bo true) 150 (fun h=>by cases h) (fun h=>by cases h) ?_
  refine vv ?_
  exact RetQ.int hR rfl ⟨rfl,trivial⟩ rfl
 |cons c r=>
  have hne:((c::r)==([]:Str))=false:=rfl
  have h0:(0:Int)<((c::r).length:Int):=by simp only[List.length_cons];omega
  have hw:wordQ (c::r)=if leB ((c::r).getD 0 0)=true then 1+(((c::r).drop 1).takeWhile inB).length else 0:=rfl
  rw[hw]
  have h1:1≤(c::r).length:=by simp
  generalize c::r=s at*
  refine CallOk.mkN 100 Tryz.func171 rfl en171 (by simp[Tryz.ntmps171]) (ClA.of rfl) rfl rfl fun C hR hP=>?_
  simp(maxSteps:=2000000) only[go_sem,hne]
  refine⟨h0,?_⟩
  refine CallQ.pure 150 (rLetter_ (s.getD 0 0)) rfl ?_
  refine vv ?_
  cases hl:leB (s.getD 0 0)with
  |false=>
   rw[hl]at hR
   refine vv ?_
   exact RetQ.int hR rfl ⟨rfl,trivial⟩ rfl
  |true=>
  rw[hl,if_pos rfl]at hR
  refine vv ?_
  refine Sm.loopM (M0:=[]) (α:={n:Nat//1≤n∧n≤s.length∧1+((s.drop 1).takeWhile inB).length=n+((s.drop n).takeWhile inB).length}) hP
   (fun n=>[(0,true,S s),(3,true,I n.val)]) (fun _=>[]) (fun n=>s.length-n.val) ⟨1,by omega,by omega,rfl⟩ (fun _=>ClM.nil) (fun _=>ClE.of rfl) [] ?_ ?_
  ·exact⟨rfl,trivial,⟨rfl,rfl,trivial⟩,trivial⟩
  rintro⟨n,hn1,hn,hx⟩ J hb
  simp only at hb hn hn1 hx⊢
  refine Sm.go 120 ?_
  refine vv ?_
  by_cases hlt:n<s.length
  ·have h1:decide ((n:Int)<(s.length:Int))=true:=tru_of (by omega)
   have hd:s.drop n=s.getD n 0::s.drop (n+1):=by
    rw[List.getD_eq_getElem?_getD,List.getElem?_eq_getElem hlt,List.drop_eq_getElem_cons hlt];rfl
   rw[hd,List.takeWhile_cons]at hx
   simp(maxSteps:=2000000) only[go_sem,h1]
   refine⟨⟨by omega,by omega⟩,?_⟩
   have e1:((((s.getD n 0).toNat:Nat):Int)==95)=decide ((s.getD n 0).toNat=95):=by
    rw[Bool.eq_iff_iff,beq_iff_eq,decide_eq_true_eq];omega
   have hin:inB (s.getD n 0)=(leB (s.getD n 0)||(diB (s.getD n 0)||decide ((s.getD n 0).toNat=95))):=rfl
   refine CallQ.pure 130 (rLetter_ (s.getD n 0)) rfl ?_
   cases g1:leB (s.getD n 0)with
   |true=>
    refine vv ?_
    refine CallQ.guard (xs:=[]) (v:=Bo true) 150 (fun h=>by cases h) (fun h=>by cases h) ?_
    simp(maxSteps:=2000000) only[go_sem,wS (show n≤1000000000000000000 by omega)]
    rw[hin,g1]at hx
    exact hb _ _ ⟨n+1,by omega,by omega,by rw[hx,Bool.true_or,if_pos rfl,List.length_cons];omega⟩ [] (by simp only;omega) ⟨rfl,trivial,⟨rfl,rfl,trivial⟩,trivial⟩
   |false=>
    refine vv ?_
    refine⟨⟨by omega,by omega⟩,?_⟩
    refine CallQ.pure 140 (rDigit_ (s.getD n 0)) rfl ?_
    simp(maxSteps:=2000000) only[go_sem,e1]
    refine⟨fun h=>⟨h,h,by omega,by omega⟩,?_⟩
    rw[g1,Bool.false_or,←bor_]at hin
    rw[hin]at hx
    refine mtch (fun hc=>?_) (fun hc=>?_)
    ·rw[hc,if_pos rfl,List.length_cons]at hx
     simp(maxSteps:=2000000) only[go_sem,wS (show n≤1000000000000000000 by omega)]
     exact hb _ _ ⟨n+1,by omega,by omega,by rw[hx];omega⟩ [] (by simp only;omega) ⟨rfl,trivial,⟨rfl,rfl,trivial⟩,trivial⟩
    ·rw[hc]at hx
     exact RetQ.int hR rfl ⟨rfl,trivial⟩ (by rw[hx];rfl)
  ·have h1:decide ((n:Int)<(s.length:Int))=false:=fal_of (by omega)
   have hx:1+((s.drop 1).takeWhile inB).length=n:=by rw[hx,List.drop_eq_nil_of_le (show s.length≤n by omega)];simp
   simp(maxSteps:=2000000) only[go_sem,h1]
   refine CallQ.guard (xs:=[]) (v:=Bo true) 150 (fun h=>by cases h) (fun h=>by cases h) ?_
   simp(maxSteps:=2000000) only[go_sem,Bool.and_self]
   refine CallQ.guard (xs:=[]) (v:=Bo true) 150 (fun h=>by cases h) (fun h=>by cases h) ?_
   simp(maxSteps:=2000000) only[go_sem,Bool.and_self]
   exact RetQ.int hR rfl ⟨rfl,trivial⟩ (by rw[hx])
theorem kindQ_none (s:Str)(h:∀r∈kindT,(s==r.1)=false):kindQ s=none:=by
 unfold kindQ
 rw[List.find?_eq_none.2 (fun r hr=>by have:=h r hr;rw[Bool.beq_comm]at this;simp[this])];rfl
theorem kindQ_some (s:Str):(kindQ s).isSome=(kindT.map (·.1)).contains s:=by
 unfold kindQ
 rw[Option.isSome_map,Bool.eq_iff_iff,List.find?_isSome,List.contains_iff_mem,List.mem_map]
 constructor
 ·rintro⟨r,hr,h⟩;exact⟨r,hr,eq_of_beq h⟩
 ·rintro⟨r,hr,h⟩;exact⟨r,hr,by rw[h];exact beq_self_eq_true s⟩
theorem rKind_ (s:Str):CallOk Tryz.prog 203 [S s] [] (.tup [Wi ((kindQ s).getD (0,0,0)).1,Wi ((kindQ s).getD (0,0,0)).2.1,Wi ((kindQ s).getD (0,0,0)).2.2,Wb1 (kindQ s).isSome]) []:=by
 refine CallOk.mkN 100 Tryz.func203 rfl en203 (by simp[Tryz.ntmps203]) (ClA.of rfl) rfl rfl fun C hR hP=>?_
 refine vv ?_
 iterate 21
  refine mtch (fun hc=>?_) (fun hc=>?_)
  ·have hc:=eq_of_beq hc
   subst hc
   refine vv ?_
   exact RetQ.of hR rfl scc rvv (Sub.nil _) ClM.nil (ClV.of rfl)
  try simp(maxSteps:=2000000) only[go_sem]
 have hn:=kindQ_none s (by
  unfold kindT
  simp only[List.forall_mem_cons]
  refine⟨?_,?_,?_,?_,?_,?_,?_,?_,?_,?_,?_,?_,?_,?_,?_,?_,?_,?_,?_,?_,?_,fun r hr=>by cases hr⟩<;>assumption)
 rw[hn]at hR
 exact RetQ.of hR rfl scc rvv (Sub.nil _) ClM.nil (ClV.of rfl)
theorem rReserved_ (s:Str):CallOk Tryz.prog 197 [S s] [] (Bo (resQ s)) []:=by
 have hq:=kindQ_some s
 unfold resQ
 rw[←hq]
 have hk:=rKind_ s
 generalize (kindQ s).getD (0,0,0)=K at*
 generalize (kindQ s).isSome=K2 at*
 refine CallOk.mkN 100 Tryz.func197 rfl en197 (by simp[Tryz.ntmps197]) (ClA.of rfl) rfl rfl fun C hR hP=>?_
 refine vv ?_
 refine CallQ.pure 110 hk rfl ?_
 refine vv ?_
 iterate 7
  refine mtch (fun hc=>?_) (fun hc=>?_)
  ·have hc:=eq_of_beq hc
   subst hc
   refine vv ?_
   exact RetQ.bool hR rfl ⟨rfl,trivial⟩ (by cases K2<;>rfl)
  try simp(maxSteps:=2000000) only[go_sem]
 have hn:resT.contains s=false:=by
  unfold resT
  simp only[List.contains_cons, *]
  rfl
 exact RetQ.bool hR rfl ⟨rfl,trivial⟩ (by rw[hn];cases K2<;>rfl)
theorem rName_ (s:Str)(hs:s.length≤1000000000000000):CallOk Tryz.prog 91 [S s] [] (Bo (nmOk s)) []:=by
 have hne:(s !=[])= !(s==[]):=rfl
 have hlen:decide ((s.length:Int)≤24)=decide (s.length≤24):=by rw[decide_eq_decide];omega
 refine CallOk.mkN 100 Tryz.func91 rfl en91 (by simp[Tryz.ntmps91]) (ClA.of rfl) rfl rfl fun C hR hP=>?_
 cases s with
 |nil=>
  refine vv ?_
  refine CallQ.guard (xs:=[]) (v:=I 0) 150 (fun h=>by cases h) (fun h=>by cases h) ?_
  refine vv ?_
  refine CallQ.guard (xs:=[]) (v:=Bo true) 150 (fun h=>by cases h) (fun h=>by cases h) ?_
  refine vv ?_
  exact RetQ.bool hR rfl ⟨rfl,trivial⟩ rfl
 |cons c r=>
 have hne:((c::r)==([]:Str))=false:=rfl
 have hq:=wordQ_all (c::r) (by simp)
 have hnm:nmOk (c::r)=(decide ((c::r).length≤24)&&(leB ((c::r).getD 0 0)&&((c::r).all inB&& !resQ (c::r)))):=rfl
 rw[hnm]at hR
 generalize c::r=s at*
 simp(maxSteps:=2000000) only[go_sem,hne,hlen,bne,Bool.not_false]
 refine CallQ.guard 150 (fun _=>rWord_ s hs) (fun h=>by rw[h];rfl) ?_
 simp(maxSteps:=2000000) only[go_sem,hq]
 refine CallQ.guard 150 (fun _=>rReserved_ s) (fun h=>by rw[h];rfl) ?_
 refine vv ?_
 refine RetQ.bool hR rfl ⟨rfl,trivial⟩ ?_
 cases decide (s.length≤24)<;>cases leB (s.getD 0 0)<;>cases s.all inB<;>rfl
end Go.Proofs.YtlnpgbnhcondjaaGreatDoor.Fx
