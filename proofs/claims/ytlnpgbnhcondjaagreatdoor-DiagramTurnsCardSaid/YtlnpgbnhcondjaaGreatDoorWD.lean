/-  -/
import Derived.Test.YtlnpgbnhcondjaaGreatDoorShB
import Derived.Test.YtlnpgbnhcondjaaGreatDoorSI
import Derived.Test.YtlnpgbnhcondjaaGreatDoorU8
import Derived.Test.YtlnpgbnhcondjaaGreatDoorQJ
import Derived.Test.YtlnpgbnhcondjaaGreatDoorZ2
import Derived.Test.YtlnpgbnhcondjaaGreatDoorQ3
import Derived.Test.YtlnpgbnhcondjaaGreatDoorY0
import Derived.Test.YtlnpgbnhcondjaaGreatDoorU6
import Derived.Test.YtlnpgbnhcondjaaGreatDoorYY
import Derived.Test.YtlnpgbnhcondjaaGreatDoorYU
import Derived.Test.YtlnpgbnhcondjaaGreatDoorQY
namespace Go.Proofs.YtlnpgbnhcondjaaGreatDoor.Fx
set_option maxRecDepth 100000
set_option linter.unusedVariables false
set_option linter.unusedSimpArgs false
theorem idxS_ren {f t s:Str}(hs:s≠t):∀(l:List Str) (k:Nat),t∉l→idxS (rnS f t s) (l.map (rnS f t)) k=idxS s l k
 |[],_,_=>rfl
 |x::l,k,h=>by
  have hx:x≠t:=fun e=>h (by simp[e])
  have ih:=idxS_ren (f:=f) hs l (k+1) (fun e=>h (by simp[e]))
  rw[List.map_cons,idxS,idxS,ih]
  have:rnS f t x=rnS f t s↔x=s:=by
   unfold rnS
   by_cases h1:x=f
   ·by_cases h2:s=f
    ·simp[h1,h2]
    ·rw[if_pos h1,if_neg h2]
     exact⟨fun e=>absurd e.symm hs,fun e=>absurd (by rw[←e,h1]) h2⟩
   ·by_cases h2:s=f
    ·rw[if_neg h1,if_pos h2]
     exact⟨fun e=>absurd e hx,fun e=>absurd (by rw[e,h2]) h1⟩
    ·rw[if_neg h1,if_neg h2]
  by_cases he:x=s
  ·rw[if_pos he,if_pos (this.2 he)]
  ·rw[if_neg he,if_neg (fun e=>he (this.1 e))]
theorem idxS_nomem {s:Str}:∀(l:List Str) (k:Nat),idxS s l k=none→s∉l
 |[],_,_=>by simp
 |x::l,k,h=>by
  rw[idxS]at h
  split at h
  ·cases h
  ·rename_i hx
   simp only[List.mem_cons,not_or]
   exact⟨fun e=>hx e.symm,idxS_nomem l (k+1) h⟩
theorem rn_ok {f t s:Str}(ht:nmOk t=true)(hs:nmOk s=true):nmOk (rnS f t s)=true:=by
 unfold rnS;split<;>assumption
theorem ren_ok {d:Dg}{f t:Str}(h:dgOk d=true)(ht:nmOk t=true):dgOk (renD d f t)=true:=by
 unfold dgOk at h⊢
 simp only[Bool.and_eq_true,decide_eq_true_eq,List.all_eq_true]at h⊢
 obtain⟨h1,⟨n1,n2,n3,n4,n5⟩,n6,h2,h3,h4,h5,h6,h7⟩:=h
 refine⟨h1,⟨n1,n2,n3,by simpa[renD]using n4,by simpa[renD]using n5⟩,by simpa[renD]using n6,h2,h3,h4,fun p hp=>?_,fun b hb=>?_,fun s hs=>?_⟩
 ·obtain⟨q,hq,rfl⟩:=List.mem_map.1 hp
  have:=h5 q hq
  unfold poOk at this⊢
  simp only[Bool.and_eq_true]at this⊢
  exact⟨rn_ok ht this.1,this.2⟩
 ·obtain⟨q,hq,rfl⟩:=List.mem_map.1 hb
  have:=h6 q hq
  unfold blOk at this⊢
  show(match kindQ q.kd with
   |none=>false
   |some (a,k,t')=>_)=true
  cases hk:kindQ q.kd with
  |none=>rw[hk]at this;cases this
  |some w=>
   obtain⟨a,k,t'⟩:=w
   rw[hk]at this
   simp only[Bool.and_eq_true,decide_eq_true_eq,List.all_eq_true]at this⊢
   obtain⟨a1,a2,a3,a4,a5,a6,a7⟩:=this
   refine⟨by simpa[rnB]using a1,a2,rn_ok ht a3,a4,a5,fun s hs=>?_,a7⟩
   obtain⟨y,hy,rfl⟩:=List.mem_map.1 hs
   exact rn_ok ht (a6 y hy)
 ·obtain⟨y,hy,rfl⟩:=List.mem_map.1 hs
  exact rn_ok ht (h7 y hy)
theorem sigs_ren {d:Dg}{f t:Str}:sigs (renD d f t)=(sigs d).map (rnS f t):=by
 unfold sigs renD
 simp only[List.map_append,List.map_map]
 rfl
theorem rn_back {f t x:Str}(hx:x≠t):rnS t f (rnS f t x)=x:=by
 unfold rnS
 by_cases h:x=f
 ·rw[if_pos h,if_pos rfl,h]
 ·rw[if_neg h,if_neg hx]
theorem fnd_some {l:List Str}{s:Str}(h:¬fndQ l s<0):s∈l:=by
 unfold fndQ at h
 cases hi:idxS s l 0 with
 |none=>rw[hi]at h;simp at h
 |some i=>
  have:∀(l:List Str) (k:Nat),idxS s l k≠none→s∈l:=by
   intro l
   induction l with
   |nil=>intro k hk;exact absurd rfl hk
   |cons x l ih=>
    intro k hk
    rw[idxS]at hk
    split at hk
    ·rename_i hx;rw[hx];exact List.mem_cons_self ..
    ·exact List.mem_cons_of_mem _ (ih _ hk)
  exact this l 0 (by rw[hi];simp)
theorem fnd_none {l:List Str}{s:Str}(h:fndQ l s<0):s∉l:=by
 unfold fndQ at h
 cases hi:idxS s l 0 with
 |none=>exact idxS_nomem l 0 hi
 |some i=>rw[hi]at h;simp at h;omega
theorem fnd_no {l:List Str}{s:Str}(h:s∉l):fndQ l s= -1:=by
 have:∀(l:List Str) (k:Nat),s∉l→idxS s l k=none:=by
  intro l
  induction l with
  |nil=>intro k _;rfl
  |cons x l ih=>
   intro k hk
   simp only[List.mem_cons,not_or]at hk
   rw[idxS,if_neg (fun e=>hk.1 e.symm)]
   exact ih _ hk.2
 unfold fndQ
 rw[this l 0 h]
theorem fnd_ren {f t s:Str}{l:List Str}(hs:s≠t)(ht:t∉l):fndQ (l.map (rnS f t)) (rnS f t s)=fndQ l s:=by
 unfold fndQ
 rw[idxS_ren hs l 0 ht]
def useQ (d:Dg):List (List Int):=d.bls.map fun b=>b.ins.map (fndQ (sigs d))
theorem nm_sigs {d:Dg}(h:dgOk d=true){s:Str}(hs:s∈sigs d):nmOk s=true:=by
 unfold dgOk at h
 simp only[Bool.and_eq_true,decide_eq_true_eq,List.all_eq_true]at h
 obtain⟨h1,_,n6,h2,h3,h4,h5,h6,h7⟩:=h
 rcases List.mem_append.1 hs with hs|hs
 ·obtain⟨p,hp,rfl⟩:=List.mem_map.1 hs
  have:=h5 p hp
  unfold poOk at this
  simp only[Bool.and_eq_true]at this
  exact this.1
 ·obtain⟨b,hb,rfl⟩:=List.mem_map.1 hs
  have:=h6 b hb
  unfold blOk at this
  cases hk:kindQ b.kd with
  |none=>rw[hk]at this;cases this
  |some w=>
   obtain⟨a,k,t'⟩:=w
   rw[hk]at this
   simp only[Bool.and_eq_true]at this
   exact this.2.2.1
theorem map_id_of {α:Type}{g:α→α}:∀{l:List α},(∀x∈l,g x=x)→l.map g=l
 |[],_=>rfl
 |x::l,h=>by rw[List.map_cons,h x (List.mem_cons_self ..),map_id_of fun y hy=>h y (List.mem_cons_of_mem _ hy)]
structure TnOk (d:Dg) (f t:Str):Prop where
 ok:dgOk d=true
 ot:nmOk t=true
 fm:f∈sigs d
 nt:t∉sigs d
 ins:∀b∈d.bls,t∉b.ins
 ous:t∉d.ous
theorem TnOk.ne {d:Dg}{f t:Str}(k:TnOk d f t):f≠t:=fun h=>k.nt (h▸k.fm)
theorem TnOk.uses {d:Dg}{f t:Str}(k:TnOk d f t):useQ (renD d f t)=useQ d:=by
 unfold useQ
 show(d.bls.map (rnB f t)).map _=_
 rw[List.map_map]
 refine List.map_congr_left fun b hb=>?_
 show(b.ins.map (rnS f t)).map _=_
 rw[List.map_map]
 refine List.map_congr_left fun s hs=>?_
 show fndQ (sigs (renD d f t)) (rnS f t s)=_
 rw[sigs_ren]
 exact fnd_ren (fun e=>k.ins b hb (e▸hs)) k.nt
theorem TnOk.find {d:Dg}{f t:Str}(k:TnOk d f t):fndQ (sigs (renD d f t)) t=fndQ (sigs d) f:=by
 rw[sigs_ren]
 have:=fnd_ren (f:=f) (l:=sigs d) k.ne k.nt
 have e:rnS f t f=t:=if_pos rfl
 rw[e]at this;exact this
theorem TnOk.gone {d:Dg}{f t:Str}(k:TnOk d f t):fndQ (sigs (renD d f t)) f= -1:=by
 refine fnd_no fun h=>?_
 rw[sigs_ren]at h
 obtain⟨s,hs,he⟩:=List.mem_map.1 h
 unfold rnS at he
 split at he
 ·exact k.ne he.symm
 ·rename_i h2;exact h2 he
theorem TnOk.back {d:Dg}{f t:Str}(k:TnOk d f t):renD (renD d f t) t f=d:=by
 have h1:∀x∈d.ins,rnP t f (rnP f t x)=x:=fun x hx=>by
  have:x.nm≠t:=fun e=>k.nt (by rw[←e];exact List.mem_append_left _ (List.mem_map_of_mem hx))
  unfold rnP
  simp only[rn_back this]
 have h2:∀x∈d.bls,rnB t f (rnB f t x)=x:=fun x hx=>by
  have hn:x.nm≠t:=fun e=>k.nt (by rw[←e];exact List.mem_append_right _ (List.mem_map_of_mem hx))
  unfold rnB
  simp only[rn_back hn,List.map_map]
  rw[map_id_of (g:=rnS t f ∘ rnS f t) fun s hs=>rn_back fun e=>k.ins x hx (e▸hs)]
 unfold renD
 simp only[List.map_map]
 rw[map_id_of (g:=rnP t f ∘ rnP f t) h1,map_id_of (g:=rnB t f ∘ rnB f t) h2,map_id_of (g:=rnS t f ∘ rnS f t) fun s hs=>rn_back fun e=>k.ous (e▸hs)]
theorem TnOk.renB {d:Dg}{f t:Str}(k:TnOk d f t):renQ (renD d f t) t f=(d,0):=by
 have h1:dgOk (renD d f t)=true:=ren_ok k.ok k.ot
 have h2:=nm_sigs k.ok k.fm
 have h3:¬fndQ (sigs (renD d f t)) t<0:=by
  rw[k.find]
  intro h
  exact fnd_none h k.fm
 have h4:=k.gone
 unfold renQ
 rw[h1,h2,h4,decide_eq_false h3]
 show(renD (renD d f t) t f,(0:Int))=_
 rw[k.back]
theorem ren_cases (d:Dg)(f t:Str):((renQ d f t).2≠0∧(renQ d f t).1=dg0)∨(renQ d f t=(renD d f t,0)∧dgOk d=true∧nmOk t=true∧f∈sigs d∧t∉sigs d):=by
 unfold renQ
 cases h1:dgOk d with
 |false=>exact .inl ⟨by show(1:Int)≠0;decide,rfl⟩
 |true=>
  cases h2:nmOk t with
  |false=>exact .inl ⟨by show(3:Int)≠0;decide,rfl⟩
  |true=>
   cases h3:decide (fndQ (sigs d) f<0)with
   |true=>exact .inl ⟨by show(7:Int)≠0;decide,rfl⟩
   |false=>
    cases h4:decide (0≤fndQ (sigs d) t)with
    |true=>exact .inl ⟨by show(8:Int)≠0;decide,rfl⟩
    |false=>exact .inr ⟨rfl,rfl,rfl,fnd_some (of_decide_eq_false h3),fnd_none (by have:=of_decide_eq_false h4;omega)⟩
open Vg Tf
set_option maxHeartbeats 4000000
open Vg Tf
set_option maxHeartbeats 4000000
theorem lenR {α:Type}(f:α→List Value)(k:Nat)(l:List α)(h:∀a,(f a).length=k):∀r∈l.map f,r.length=k:=fun r hr=>by obtain⟨a,_,rfl⟩:=List.mem_map.1 hr;exact h a
structure ZL where
 s:Sv
 z:List Zv
def ZL.c (x:ZL):List (List Int):=x.z.map (·.2)
structure ZL.ok (H:Hp) (x:ZL):Prop where
 o:SlH H (vsl x.s x.z.length) 1 (x.z.map zR)
 e:∀v∈x.z,SlH H (vsl v.1 v.2.length) 1 (intsR v.2)
theorem ZL.ok.mono {H H':Hp}(h:H.le H'){x:ZL}(k:x.ok H):x.ok H':=⟨k.o.mono h,fun v hv=>(k.e v hv).mono h⟩
def usQ (d:Dg):List (List Int):=bif dgOk d then useQ d else[]
theorem cl_u {d:DgL}(z:List Zv)(l:List Int)(ss:List Str):ClM [(1,⟨false,d.r.map Cv.v,30⟩),(5,⟨true,rowsC (d.bls.map BlL.r),82⟩),(150,⟨false,rowsC (z.map zR),73⟩),(160,⟨false,l.map iC,3⟩),(20,⟨true,ss.map sC,9⟩)]:=ClM.of (by simp only[List.all_cons,inMV (rowsC_isV _),inMV (v_sC _),inMV (v_iC _)];rfl)
theorem uses_ {H:Hp}(d:DgL)(o:d.ok H)(hs:d.sm):CallX H Tryz.prog 34 [rowV d.r] [] (fun x:ZL=> .c (.v (vsl x.s x.z.length))) (fun _=>[]) (fun x H'=>x.c=usQ d.c∧x.ok H'):=by
 have n5:(d.bls.map BlL.r).length=d.bls.length:=List.length_map _
 have z5:=rows_len (r:=BlL.r) (k:=6) (fun _=>rfl) d.bls
 have hbl:=hs.bls.1
 have hil:=hs.ins.1
 refine CallX.mkS Tryz.func34 rfl en34 (by simp[Tryz.ntmps34]) (ClA.of rfl) (fun _=>rfl) (fun _=>rfl) fun C hR hP hH hL=>?_
 refine Sm.go 100 ?_
 refine vv ?_
 refine CallQ.h 110 (dvalid d o hs) hH rfl ?_
 refine vv ?_
 refine mtch (fun hv=>?_) (fun hv=>?_)
 ·have hq:usQ d.c=[]:=by unfold usQ;have:dgOk d.c=false:=by simpa using hv
                         rw[this];rfl
  rw[hq]at hR
  exact RetQ.of (hR ⟨⟨none,0⟩,[]⟩ C hL ⟨rfl,⟨SlH.nil 1,(fun v h=>by cases h)⟩⟩) rfl ⟨rfl,trivial⟩ rfl (Sub.nil _) ClM.nil (ClV.of rfl)
 have hv2:dgOk d.c=true:=by simpa using hv
 have hq:usQ d.c=d.bls.map fun b=>b.c.ins.map (fndQ (sigs d.c)):=by
  unfold usQ;rw[hv2]
  show(d.bls.map BlL.c).map _=_
  rw[List.map_map];rfl
 rw[hq]at hR
 have hB:=dgB hv2
 have hB5:=hB.bls
 refine Sm.bringR 5 82 13 (o.bl.mono hH) rfl rfl ?_
 rw[n5]
 refine Sm.nils 150 1 73 [3] [] rfl ?_
 refine Sm.loopX (C:=C) (Ck:=C) (M0:=[]) (α:={z:List Zv//z.length≤d.bls.length∧z.map (·.2)=(d.bls.take z.length).map (fun b=>b.c.ins.map (fndQ (sigs d.c)))}) hL hP (fun z=>[(1,true,.c (.p 1 0)),(3,true,.c (.sl 150 0 z.val.length 1)),(13,true,.c (.sl 5 0 d.bls.length 6)),(14,true,I d.bls.length),(15,true,I z.val.length)])
  (fun z=>[(1,⟨false,d.r.map Cv.v,30⟩),(5,⟨true,rowsC (d.bls.map BlL.r),82⟩),(150,⟨false,rowsC (z.val.map zR),73⟩)])
  (fun z hp=>H.le hp∧∀v∈z.val,SlH hp (vsl v.1 v.2.length) 1 (intsR v.2)) (fun z=>d.bls.length-z.val.length) ⟨[],by simp,by simp⟩ ⟨hH,by simp⟩ (fun z=>ClM.of (by simp only[List.all_cons,inMV (rowsC_isV _)];rfl)) (fun _=>ClE.of rfl) [(1,100),(5,5),(150,150)] ⟨rfl,trivial,⟨rfl,rfl,rfl,rfl,rfl,trivial⟩,⟨oR,oV (renV (rowsC_isV _)),oR,trivial⟩⟩ ?_
 rintro⟨z,hzl,hzc⟩ C1 J l1 ⟨h1,hz⟩ hj
 simp only at hj hzl hzc hz⊢
 refine Sm.go 170 ?_
 refine vv ?_
 refine mtch (fun hc=>?_) (fun hc=>?_)
 ·have hc:=lt_of_dec hc
  have htk:=rows_take (r:=BlL.r) (k:=6) (fun _=>rfl) d.bls z.length hc
  have hbo:=o.bls _ (List.getElem_mem hc)
  have hbs:=blO_in (hB.blO _ (List.getElem_mem hc))
  have htc:d.bls.take (z.length+1)=d.bls.take z.length++[d.bls[z.length]]:=List.take_succ_eq_append_getElem hc
  simp only[htk,z5]
  generalize d.bls[z.length]=b at*
  simp(maxSteps:=2000000) only[go_sem,BlL.r]
  refine⟨⟨by omega,by omega⟩,by omega,?_⟩
  refine Sm.bringS 20 9 20 (hbo.i.mono h1) rfl rfl ?_
  refine Sm.nils 160 1 3 [6] [] rfl ?_
  refine Sm.loopM (M0:=[]) (α:={k:Nat//k≤b.c.ins.length}) (l1.pins hP) (fun k=>[(1,true,.c (.p 1 0)),(3,true,.c (.sl 150 0 z.length 1)),(6,true,.c (.sl 160 0 k.val 1)),(13,true,.c (.sl 5 0 d.bls.length 6)),(14,true,I d.bls.length),(15,true,I z.length),(20,true,.c (.sl 20 0 b.c.ins.length 1)),(21,true,I b.c.ins.length),(22,true,I k.val)])
   (fun k=>[(1,⟨false,d.r.map Cv.v,30⟩),(5,⟨true,rowsC (d.bls.map BlL.r),82⟩),(150,⟨false,rowsC (z.map zR),73⟩),(160,⟨false,((b.c.ins.take k.val).map (fndQ (sigs d.c))).map iC,3⟩),(20,⟨true,b.c.ins.map sC,9⟩)])
   (fun k=>b.c.ins.length-k.val) ⟨0,Nat.zero_le _⟩ (fun k=>cl_u z _ _) (fun _=>ClE.of rfl) [(1,1),(5,5),(150,150),(160,160),(20,20)] ?_ ?_
  ·exact⟨rfl,trivial,⟨rfl,rfl,rfl,rfl,rfl,rfl,rfl,rfl,rfl,trivial⟩,⟨oR,oV (renV (rowsC_isV _)),oV (renV (rowsC_isV _)),oR,oV (renV (v_sC _)),trivial⟩⟩
  rintro⟨k,hk⟩ J2 hj2
  simp only at hj2 hk⊢
  refine Sm.go 180 ?_
  refine vv ?_
  refine mtch (fun hc2=>?_) (fun hc2=>?_)
  ·have hc2:=lt_of_dec hc2
   have hln:((b.c.ins.take k).map (fndQ (sigs d.c))).length=k:=by rw[List.length_map,List.length_take];omega
   have hst:((b.c.ins.take (k+1)).map (fndQ (sigs d.c))).map iC=((b.c.ins.take k).map (fndQ (sigs d.c))).map iC++[iC (fndQ (sigs d.c) b.c.ins[k])]:=by rw[List.take_succ_eq_append_getElem hc2,List.map_append,List.map_append];rfl
   simp(maxSteps:=2000000) only[go_sem,get_sC hc2]
   refine⟨⟨by omega,by omega⟩,?_⟩
   have hpf:=pfind_ d o b.c.ins[k] hil hbl
   have hpf:CallH H Tryz.prog 32 [.agg (d.r.map Cv.v),S b.c.ins[k]] (I (fndQ (sigs d.c) b.c.ins[k])):=hpf
   refine CallQ.h 190 hpf h1 rfl ?_
   refine vv ?_
   have hln2:(((b.c.ins.take k).map (fndQ (sigs d.c))).map iC).length=k:=by rw[List.length_map];exact hln
   refine⟨⟨by omega,by omega,by omega⟩,?_⟩
   rw[List.take_of_length_le (by omega),←hst]
   refine Sm.go 200 ?_
   simp(maxSteps:=2000000) only[go_sem,wS (show k≤1000000000000000000 by omega)]
   exact hj2 _ _ ⟨k+1,hc2⟩ [(1,1),(5,5),(150,150),(160,191),(20,20)] (by simp only;omega) ⟨rfl,trivial,⟨rfl,rfl,rfl,rfl,rfl,rfl,rfl,rfl,rfl,trivial⟩,⟨oR,oV (renV (rowsC_isV _)),oV (renV (rowsC_isV _)),oV (renV (v_iC _)),oV (renV (v_sC _)),trivial⟩⟩
  have hc2:=eq_of_dec hk hc2
  subst hc2
  clear hj2
  rw[List.take_length]
  have hln3:(b.c.ins.map (fndQ (sigs d.c))).length=b.c.ins.length:=List.length_map _
  have hzn:=rows_len (r:=zR) (k:=1) (fun _=>rfl) z
  rw[Nat.mul_one]at hzn
  simp(maxSteps:=2000000) only[go_sem,hzn]
  refine⟨⟨by omega,by omega,by omega⟩,?_⟩
  rw[List.take_of_length_le (by omega)]
  have kA:(rowsC (z.map zR)++[Cv.sl 160 0 b.c.ins.length 1]).all (Cv.cok [160])=true:=by rw[List.all_append,cokV (rowsC_isV _)];rfl
  refine Sm.letgo (M0:=[]) [160] l1 hP rfl (by unfold concOk;simp only[List.all_cons,kA,cokV (rowsC_isV _),cokV (v_sC _),cokV (v_iC _)];rfl) (fun β C2 l2 k2 kn=>?_)
  obtain⟨sz,hvz,hkz⟩:=(kn 160 _ rfl rfl rfl).vslx (sz:=1) (rows:=intsR (b.c.ins.map (fndQ (sigs d.c)))) (lenR (fun n:Int=>[iv n]) 1 _ fun _=>rfl) (intsC _).symm
  have ez:(intsR (b.c.ins.map (fndQ (sigs d.c)))).length=b.c.ins.length:=by simp[intsR]
  rw[ez]at hvz hkz
  simp only[Mem.conc,Env.conc,Bk.conc,Cv.conc,V.conc,List.map_cons,List.map_nil,List.map_append,List.contains_cons,List.contains_nil,Nat.reduceBEq,Bool.or_false,Bool.or_true,cond_true,cond_false,concV (rowsC_isV _),hvz]
  have hset:rowsC (z.map zR)++[.v (vsl sz b.c.ins.length)]=rowsC ((z++[((sz,b.c.ins.map (fndQ (sigs d.c))):Zv)]).map zR):=by
   simp[rowsC,zR]
  rw[hset]
  refine Sm.go 210 ?_
  simp(maxSteps:=2000000) only[go_sem,wS (show z.length≤1000000000000000000 by omega)]
  have hkz:SlH C2.hp (vsl sz (b.c.ins.map (fndQ (sigs d.c))).length) 1 (intsR (b.c.ins.map (fndQ (sigs d.c)))):=by rw[hln3];exact hkz
  refine hj _ _ C2 ⟨z++[((sz,b.c.ins.map (fndQ (sigs d.c))):Zv)],by simp;omega,by simp only[List.map_append,List.map_cons,List.map_nil,List.length_append,List.length_cons,List.length_nil,Nat.zero_add];rw[htc,List.map_append,hzc];rfl⟩ [(1,1),(5,5),(150,181)] l2 ⟨h1.trans k2,fun v hv=>?_⟩ (by simp only[List.length_append,List.length_cons,List.length_nil];omega) ?_
  ·rcases List.mem_append.1 hv with hv|hv
   ·exact(hz v hv).mono k2
   ·obtain rfl:=List.mem_singleton.1 hv
    exact hkz
  ·simp only[List.length_append,List.length_cons,List.length_nil,Nat.zero_add]
   exact⟨rfl,trivial,⟨rfl,rfl,rfl,rfl,rfl,trivial⟩,⟨oR,oV (renV (rowsC_isV _)),oV (renV (rowsC_isV _)),trivial⟩⟩
 have hc:=eq_of_dec hzl hc
 clear hj
 refine RetQ.letgo (M0:=[]) [150] l1 hP rfl (by unfold concOk;simp only[List.all_cons,cokV (rowsC_isV _)];rfl) (fun β C2 l2 k2 kn=>?_)
 obtain⟨sz,hvz,hkz⟩:=(kn 150 _ rfl rfl rfl).vslx (sz:=1) (rows:=z.map zR) (lenR zR 1 _ fun _=>rfl) rfl
 have ez:(z.map zR).length=z.length:=List.length_map _
 rw[ez]at hvz hkz
 simp only[Mem.conc,Env.conc,Bk.conc,Cv.conc,V.conc,List.map_cons,List.map_nil,List.contains_cons,List.contains_nil,Nat.reduceBEq,Bool.or_false,Bool.or_true,cond_true,cond_false,concV (rowsC_isV _),hvz]
 rw[hc,List.take_length]at hzc
 exact RetQ.of (hR ⟨sz,z⟩ C2 l2 ⟨hzc,hkz,fun v hv=>(hz v hv).mono k2⟩) rfl ⟨rfl,trivial⟩ rfl (Sub.nil _) ClM.nil (ClV.of rfl)
theorem eqfZ {H:Hp}(x y:ZL)(hx:x.ok H)(hy:y.ok H)(h:x.c=y.c)(hl:x.z.length≤1000000000000000)(g:FuncId)(hg:∀a b:Zv,a∈x.z→b∈y.z→a.2=b.2→CallH H Tryz.prog g [.c (.v (vsl a.1 a.2.length)),.c (.v (vsl b.1 b.2.length))] (Bo true)):
  CallH H Tryz.prog 36 [.c (.v (vsl x.s x.z.length)),.c (.v (vsl y.s y.z.length)),Fv g #[]] (Bo true):=by
 have n1:(x.z.map zR).length=x.z.length:=List.length_map _
 have n2:(y.z.map zR).length=y.z.length:=List.length_map _
 have hlen:y.z.length=x.z.length:=by have:=congrArg List.length h;simp only[ZL.c,List.length_map]at this;exact this.symm
 refine CallH.mkS Tryz.func36 rfl en36 (by simp[Tryz.ntmps36]) (ClA.of rfl) fun C hR hP hH hL=>?_
 refine Sm.bringR 1 73 0 (hx.o.mono hH) rfl rfl ?_
 refine Sm.bringR 2 73 1 (hy.o.mono hH) rfl rfl (Sm.go 100 ?_)
 simp only[n1,n2,hlen]
 simp(maxSteps:=2000000) only[go_sem,bne_self_eq_false]
 refine Sm.loopM (M0:=[]) (α:={i:Nat//i≤x.z.length}) hP (fun i=>[(1,true,.c (.sl 2 0 x.z.length 1)),(2,true,Fv g #[]),(15,true,.c (.sl 1 0 x.z.length 1)),(16,true,I x.z.length),(17,true,I i.val)]) (fun _=>[(1,⟨true,rowsC (x.z.map zR),73⟩),(2,⟨true,rowsC (y.z.map zR),73⟩)]) (fun i=>x.z.length-i.val) ⟨0,by omega⟩ (fun _=>ClM.v (by simp only[List.all_cons,rowsC_isV];rfl)) (fun _=>ClE.of rfl) [(1,1),(2,2)] ?_ ?_
 ·exact⟨rfl,trivial,⟨rfl,rfl,rfl,rfl,rfl,trivial⟩,⟨oV (renV (rowsC_isV _)),oV (renV (rowsC_isV _)),trivial⟩⟩
 rintro⟨i,hi⟩ J hb
 simp only at hb hi⊢
 refine Sm.go 110 ?_
 refine vv ?_
 refine mtch (fun hc=>?_) (fun hc=>?_)
 ·have hc:=lt_of_dec hc
  have hc2:i<y.z.length:=by omega
  simp(maxSteps:=2000000) only[go_sem,zR_at x.z i hc,zR_at y.z i hc2]
  refine⟨⟨by omega,by omega⟩,⟨by omega,by omega⟩,?_⟩
  have he:x.z[i].2=y.z[i].2:=by
   have h1:(x.z.map (·.2))[i]?=(y.z.map (·.2))[i]?:=by rw[show x.z.map (·.2)=y.z.map (·.2) from h]
   rw[List.getElem?_map,List.getElem?_map,List.getElem?_eq_getElem hc,List.getElem?_eq_getElem hc2]at h1
   exact Option.some.inj h1
  refine CallQ.h 120 (hg _ _ (List.getElem_mem hc) (List.getElem_mem hc2) he) hH rfl ?_
  simp(maxSteps:=2000000) only[go_sem,wS (show i≤1000000000000000000 by omega)]
  exact hb _ _ ⟨i+1,hc⟩ [(1,1),(2,2)] (by simp only;omega) ⟨rfl,trivial,⟨rfl,rfl,rfl,rfl,rfl,trivial⟩,⟨oV (renV (rowsC_isV _)),oV (renV (rowsC_isV _)),trivial⟩⟩
 ·exact RetQ.bool (hR C hL) rfl ⟨rfl,trivial⟩ rfl
open Vg Tf
set_option maxHeartbeats 4000000
open Vg Tf
set_option maxHeartbeats 4000000
open Vg Tf
set_option maxHeartbeats 4000000
open Vg Tf
set_option maxHeartbeats 4000000
open Vg Tf
set_option maxHeartbeats 4000000
theorem eqJs_ {H:Hp}(a b:Sv)(l:List Int)(ha:SlH H (vsl a l.length) 1 (intsR l))(hb:SlH H (vsl b l.length) 1 (intsR l))(hl:l.length≤1000000000000000):CallH H Tryz.prog 39 [.c (.v (vsl a l.length)),.c (.v (vsl b l.length))] (Bo true):=by
 refine CallH.mkS Tryz.func39 rfl en39 (by simp[Tryz.ntmps39]) (ClA.of rfl) fun C hR hP hH hL=>?_
 refine Sm.bringI 1 3 0 (ha.mono hH) rfl rfl ?_
 refine Sm.bringI 2 3 1 (hb.mono hH) rfl rfl ?_
 refine Sm.go 100 ?_
 simp(maxSteps:=2000000) only[go_sem,bne_self_eq_false]
 refine Sm.loopM (M0:=[]) (α:={i:Nat//i≤l.length}) hP (fun i=>[(0,true,.c (.sl 1 0 l.length 1)),(1,true,.c (.sl 2 0 l.length 1)),(12,true,I l.length),(13,true,I i.val)])
  (fun _=>[(1,⟨true,l.map iC,3⟩),(2,⟨true,l.map iC,3⟩)]) (fun i=>l.length-i.val) ⟨0,by omega⟩ (fun _=>ClM.of (by simp only[List.all_cons,inMV (v_iC _)];rfl)) (fun _=>ClE.of rfl) [(1,1),(2,2)] ?_ ?_
 ·exact⟨rfl,trivial,⟨rfl,rfl,rfl,rfl,trivial⟩,⟨oV (renV (v_iC _)),oV (renV (v_iC _)),trivial⟩⟩
 rintro⟨i,hi⟩ J hj
 simp only at hj hi⊢
 refine Sm.go 110 ?_
 refine vv ?_
 refine mtch (fun hc=>?_) (fun hc=>?_)
 ·have hc:=lt_of_dec hc
  have gi:=get_iC hc
  refine Sm.dg 110 8 mix ?_
  simp(maxSteps:=2000000) only[go_sem,gi,bne_self_eq_false,beq_self_eq_true,wS (show i≤1000000000000000000 by omega)]
  exact⟨⟨by omega,by omega⟩,⟨by omega,by omega⟩,hj _ _ ⟨i+1,hc⟩ [(1,1),(2,2)] (by simp only;omega) ⟨rfl,trivial,⟨rfl,rfl,rfl,rfl,trivial⟩,⟨oV (renV (v_iC _)),oV (renV (v_iC _)),trivial⟩⟩⟩
 ·exact RetQ.bool (hR C hL) rfl scc rfl
theorem usq_bd {d:Dg}:∀l∈usQ d,l.length≤3:=fun l hl=>by
 unfold usQ at hl
 cases h:dgOk d with
 |false=>rw[h]at hl;cases hl
 |true=>
  rw[h]at hl
  obtain⟨b,hb,rfl⟩:=List.mem_map.1 hl
  unfold dgOk at h
  simp only[Bool.and_eq_true,decide_eq_true_eq,List.all_eq_true]at h
  obtain⟨_,_,_,_,_,_,_,h6,_⟩:=h
  rw[List.length_map];exact blO_in (h6 b hb)
theorem usq_len {d:Dg}:(usQ d).length≤200:=by
 unfold usQ
 cases h:dgOk d with
 |false=>exact Nat.zero_le _
 |true=>
  unfold dgOk at h
  simp only[Bool.and_eq_true,decide_eq_true_eq,List.all_eq_true]at h
  show((d.bls.map _).length)≤200
  rw[List.length_map];exact h.2.2.1
open Vg Tf
set_option maxHeartbeats 4000000
open Vg Tf
set_option maxHeartbeats 4000000
section
variable {T:List Tk}
structure RsO (d:Dg):Prop where
 t:d.tys.length≤30
 c:d.cus.length≤30
 m:d.mas.length≤30
 i:d.ins.length≤30
 o:d.ous.length≤30
 b:d.bls.length≤200
 tA:∀x∈d.tys,nmOk x.nm=true∧fok x.ty=true
 cA:∀x∈d.cus,nmOk x.nm=true∧cuOk x.xs x.ys=true
 mA:∀x∈d.mas,nmOk x.nm=true∧maOk x.xs x.ys x.zs=true
 iA:∀x∈d.ins,poOk x=true
 bA:∀x∈d.bls,blOk x=true
 oA:∀x∈d.ous,nmOk x=true
theorem RsO.ok {d:Dg}(h:RsO d)(hn:nmOk d.nm=true):dgOk d=true:=by
 unfold dgOk
 simp only[Bool.and_eq_true,decide_eq_true_eq,List.all_eq_true]
 exact⟨hn,⟨h.t,h.c,h.m,h.i,h.o⟩,h.b,h.tA,h.cA,h.mA,h.iA,h.bA,h.oA⟩
theorem map_some_inv {α β:Type}{o:Option α}{g:α→β}{y:β}(h:o.map g=some y):∃x,o=some x∧g x=y:=by
 cases o with
 |none=>cases h
 |some x=>exact⟨x,rfl,Option.some.inj h⟩
end
theorem d0_rs:RsO d0:=⟨by decide,by decide,by decide,by decide,by decide,by decide,(fun x h=>by cases h),(fun x h=>by cases h),(fun x h=>by cases h),(fun x h=>by cases h),(fun x h=>by cases h),(fun x h=>by cases h)⟩
theorem nmOk_len {s:Str}(h:nmOk s=true):s.length≤24:=by
 unfold nmOk at h
 simp only[Bool.and_eq_true,decide_eq_true_eq]at h
 exact h.2.1
theorem axOk_len {l:List Int}(h:axOk l=true):l.length≤32:=by
 unfold axOk at h
 simp only[Bool.and_eq_true,decide_eq_true_eq]at h
 exact h.1.2
theorem kindQ_len {s:Str}{a k t:Nat}(h:kindQ s=some (a,k,t)):a≤3∧k≤2∧t≤2:=by
 unfold kindQ at h
 obtain⟨r,hr,he⟩:=map_some_inv h
 have h1:=List.mem_of_find?_eq_some hr
 have:kindT.all (fun r=>decide (r.2.1≤3∧r.2.2.1≤2∧r.2.2.2≤2))=true:=by decide
 have h2:=of_decide_eq_true (List.all_eq_true.1 this r h1)
 rw[he]at h2;exact h2
structure BlS (b:Bl):Prop where
 nm:b.nm.length≤24
 ty:b.ty.length≤24
 tb:b.tb.length≤24
 ins:b.ins.length≤3
 ks:b.ks.length≤2
 insA:∀s∈b.ins,s.length≤24
 ksA:∀k∈b.ks,fitB k=true
 kd:(kindQ b.kd).isSome=true
theorem blOk_s {b:Bl}(h:blOk b=true):BlS b:=by
 unfold blOk at h
 cases hq:kindQ b.kd with
 |none=>rw[hq]at h;cases h
 |some x=>
  obtain⟨a,k,t⟩:=x
  rw[hq]at h
  simp only[Bool.and_eq_true,decide_eq_true_eq,List.all_eq_true]at h
  obtain⟨h1,h2,h3,h4,h5,h6,h7⟩:=h
  obtain⟨q1,q2,_⟩:=kindQ_len hq
  refine⟨nmOk_len h3,nmOk_len h4,?_,by omega,by omega,fun s hs=>nmOk_len (h6 s hs),h7,by rw[hq];rfl⟩
  split at h5
  ·rw[eq_of_beq h5];decide
  ·exact nmOk_len h5
structure MpS (m:Mp):Prop where
 xs:m.xs.length≤32
 ys:m.ys.length≤32
 zs:m.zs.length≤32
 zA:∀z∈m.zs,z.length≤32
theorem maOk_s {m:Mp}(h:maOk m.xs m.ys m.zs=true):MpS m:=by
 unfold maOk at h
 simp only[Bool.and_eq_true,decide_eq_true_eq,List.all_eq_true]at h
 obtain⟨h1,h2,h3,h4⟩:=h
 have q1:=axOk_len h1
 have q2:=axOk_len h2
 exact⟨q1,q2,by omega,fun z hz=>by rw[(h4 z hz).1];exact q2⟩
theorem cuOk_s {xs ys:List Int}(h:cuOk xs ys=true):xs.length≤32∧ys.length≤32:=by
 unfold cuOk at h
 simp only[Bool.and_eq_true,decide_eq_true_eq]at h
 have:=axOk_len h.2.1
 exact⟨this,by omega⟩
theorem sm_ok {a:DgL}(h:a.c=d0∨dgOk a.c=true):a.sm∧∀m∈a.mas,m.xs.length≤1000000000000000∧m.ys.length≤1000000000000000∧m.zs.length≤1000000000000000:=by
 have key:∀d:Dg,(d=d0∨dgOk d=true)→d.nm.length≤24∧RsO d:=by
  intro d hd
  rcases hd with rfl|hd
  ·exact⟨by decide,d0_rs⟩
  ·unfold dgOk at hd
   simp only[Bool.and_eq_true,decide_eq_true_eq,List.all_eq_true]at hd
   obtain⟨hn,⟨n1,n2,n3,n4,n5⟩,n6,ht,hcu,hma,hpo,hbl,hou⟩:=hd
   exact⟨nmOk_len hn,⟨n1,n2,n3,n4,n5,n6,ht,hcu,hma,hpo,hbl,hou⟩⟩
 obtain⟨hn,R⟩:=key a.c h
 have e2:a.c.cus.length=a.cus.length:=List.length_map _
 have e3:a.c.mas.length=a.mas.length:=List.length_map _
 have e5:a.c.bls.length=a.bls.length:=List.length_map _
 have r1:=R.t
 have r2:=R.c
 have r3:=R.m
 have r4:=R.i
 have r5:=R.b
 have r6:=R.o
 rw[e2]at r2
 rw[e3]at r3
 rw[e5]at r5
 have hm:∀m∈a.mas,MpS m.c∧m.nm.length≤24:=fun m hm=>by
  have:=R.mA m.c (List.mem_map.2 ⟨m,hm,rfl⟩)
  exact⟨maOk_s this.2,nmOk_len this.1⟩
 refine⟨⟨Nat.le_trans hn (by decide),⟨Nat.le_trans r1 (by decide),fun t ht=>Nat.le_trans (nmOk_len (R.tA t ht).1) (by decide)⟩,⟨by omega,fun c hc=>?_⟩,⟨by omega,fun m hmm=>?_⟩,⟨Nat.le_trans r4 (by decide),fun p hp=>?_⟩,⟨by omega,fun b hb=>?_⟩,⟨Nat.le_trans r6 (by decide),fun s hs=>Nat.le_trans (nmOk_len (R.oA s hs)) (by decide)⟩⟩,fun m hmm=>?_⟩
 ·obtain⟨q1,q2⟩:=R.cA c.c (List.mem_map.2 ⟨c,hc,rfl⟩)
  have:=cuOk_s q2
  have:=nmOk_len q1
  exact⟨by omega,by omega,by omega⟩
 ·obtain⟨q1,q2⟩:=hm m hmm
  refine⟨by omega,fun v hv=>?_⟩
  have:=q1.zA v.2 (List.mem_map.2 ⟨v,hv,rfl⟩)
  omega
 ·have hp:=R.iA p hp
  unfold poOk at hp
  simp only[Bool.and_eq_true]at hp
  have q1:=nmOk_len hp.1
  have q2:=nmOk_len hp.2.1
  exact⟨by omega,by omega⟩
 ·have q:=blOk_s (R.bA b.c (List.mem_map.2 ⟨b,hb,rfl⟩))
  have:=q.nm
  have:=q.ty
  have:=q.tb
  have:=q.ins
  have:=q.ks
  exact⟨by omega,by omega,by omega,by omega,by omega,fun s hs=>by have:=q.insA s hs;omega⟩
 ·obtain⟨q1,_⟩:=hm m hmm
  have h1:m.xs.length≤32:=q1.xs
  have h2:m.ys.length≤32:=q1.ys
  have h3:m.c.zs.length≤32:=q1.zs
  have h4:m.c.zs.length=m.zs.length:=List.length_map _
  exact⟨by omega,by omega,by omega⟩
open Vg Tf
set_option maxHeartbeats 4000000
@[reducible,go_sem] def rnC (d:DgL)(i q:Nat):List Cv:=[.v (sv d.nm),.v (vsl d.ty d.tys.length),.v (vsl d.cu d.cus.length),.v (vsl d.ma d.mas.length),.sl 14 0 i 4,.sl 15 0 q 6,.v (vsl d.ou d.ous.length)]
@[reducible,go_sem] def rnZ:List Cv:=[.v (sv []),.v (.slice none 0 0),.v (.slice none 0 0),.v (.slice none 0 0),.v (.slice none 0 0),.v (.slice none 0 0),.v (.slice none 0 0)]
theorem ren_sm {x:DgL}{d:DgL}{f t:Str}(h:x.c=(renQ d.c f t).1):x.c=d0∨dgOk x.c=true:=by
 unfold renQ at h
 cases h1:dgOk d.c with
 |false=>rw[h1]at h;exact .inl h
 |true=>
  rw[h1]at h
  cases h2:nmOk t with
  |false=>rw[h2]at h;exact .inl h
  |true=>
   rw[h2]at h
   simp only[Bool.not_true,cond_false]at h
   cases h3:decide (fndQ (sigs d.c) f<0)with
   |true=>rw[h3]at h;exact .inl h
   |false=>
    rw[h3]at h
    simp only[cond_false]at h
    cases h4:decide (0≤fndQ (sigs d.c) t)with
    |true=>rw[h4]at h;exact .inl h
    |false=>
     rw[h4]at h
     exact .inr (by rw[h];exact ren_ok h1 h2)
open Vg Tf
set_option maxHeartbeats 4000000
def nxB (r:Str):Prop:=∀c,r.head?=some c→inB c=false
structure TkV (k:Nat) (t:Str):Prop where
 n:t≠[]
 h:∀pre r,nxB r→scnQ (pre++(t++r)) pre.length=(k,t.length,0)
def lay:List (Str×Nat×Str)→Str→Str
 |[],tl=>tl
 |(sp,_,t)::ps,tl=>sp++(t++lay ps tl)
set_option linter.unusedSectionVars false
section
variable (U:List Tk)
end
def TkG (t:Tk):Prop:=(t.k=4∧t.s=[])∨(TkV t.k t.s∧1≤t.k∧t.k≤3)
structure VT (U:List Tk):Prop where
 g:GTk U
 v:∀i,i<U.length→TkG (U.getD i tk0)
 n:U.length≤40000
section
variable {U:List Tk} (V:VT U)
include V in
include V in
include V in
include V in
include V in
include V
end
set_option linter.unusedSectionVars false
section
variable {U:List Tk} (V:VT U)
include V
end
open Vg Tf
set_option maxHeartbeats 4000000
@[reducible,go_sem] def rsC (U:List Tk)(p:Ps):List Cv:=[.sl 2 0 U.length 4,nC p.at_,nC p.l,nC p.c,.v (.int .i64 p.e)]
@[reducible,go_sem] def rM (U:List Tk)(p:Ps):Mem:=[(1,⟨false,rsC U p,124⟩),(2,⟨true,rowsC (U.map Tk.r),57⟩)]
open Vg Tf
set_option maxHeartbeats 4000000
section
variable {U:List Tk}
end
open Vg Tf
set_option maxHeartbeats 4000000
open Vg Tf
set_option maxHeartbeats 4000000
end Go.Proofs.YtlnpgbnhcondjaaGreatDoor.Fx
