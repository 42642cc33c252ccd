/-  -/
import Derived.Test.YtlnpgbnhcondjaaGreatDoorPS
import Derived.Test.YtlnpgbnhcondjaaGreatDoorSI
import Derived.Test.YtlnpgbnhcondjaaGreatDoorSH
import Derived.Test.YtlnpgbnhcondjaaGreatDoorQH
import Derived.Test.YtlnpgbnhcondjaaGreatDoorZ2
import Derived.Test.YtlnpgbnhcondjaaGreatDoorQ3
namespace Go.Proofs.YtlnpgbnhcondjaaGreatDoor.Fx
set_option maxRecDepth 100000
set_option linter.unusedVariables false
set_option linter.unusedSimpArgs false
theorem idxS_ren {f t s:Str}(hs:s≠t):∀(l:List Str) (k:Nat),t∉l→idxS (rnS f t s) (l.map (rnS f t)) k=idxS s l k
 |[],_,_=>rfl
 |x::l,k,h=>by
  have hx:x≠t:=fun e=>h (by simp[e])
  have ih:=idxS_ren (f:=f) hs l (k+1) (fun e=>h (by simp[e]))
  rw[List.map_cons,idxS,idxS,ih]
  have:rnS f t x=rnS f t s↔x=s:=by
   unfold rnS
   by_cases h1:x=f
   ·by_cases h2:s=f
    ·simp[h1,h2]
    ·rw[if_pos h1,if_neg h2]
     exact⟨fun e=>absurd e.symm hs,fun e=>absurd (by rw[←e,h1]) h2⟩
   ·by_cases h2:s=f
    ·rw[if_neg h1,if_pos h2]
     exact⟨fun e=>absurd e hx,fun e=>absurd (by rw[e,h2]) h1⟩
    ·rw[if_neg h1,if_neg h2]
  by_cases he:x=s
  ·rw[if_pos he,if_pos (this.2 he)]
  ·rw[if_neg he,if_neg (fun e=>he (this.1 e))]
theorem rn_ok {f t s:Str}(ht:nmOk t=true)(hs:nmOk s=true):nmOk (rnS f t s)=true:=by
 unfold rnS;split<;>assumption
theorem ren_ok {d:Dg}{f t:Str}(h:dgOk d=true)(ht:nmOk t=true):dgOk (renD d f t)=true:=by
 unfold dgOk at h⊢
 simp only[Bool.and_eq_true,decide_eq_true_eq,List.all_eq_true]at h⊢
 obtain⟨h1,⟨n1,n2,n3,n4,n5⟩,n6,h2,h3,h4,h5,h6,h7⟩:=h
 refine⟨h1,⟨n1,n2,n3,by simpa[renD]using n4,by simpa[renD]using n5⟩,by simpa[renD]using n6,h2,h3,h4,fun p hp=>?_,fun b hb=>?_,fun s hs=>?_⟩
 ·obtain⟨q,hq,rfl⟩:=List.mem_map.1 hp
  have:=h5 q hq
  unfold poOk at this⊢
  simp only[Bool.and_eq_true]at this⊢
  exact⟨rn_ok ht this.1,this.2⟩
 ·obtain⟨q,hq,rfl⟩:=List.mem_map.1 hb
  have:=h6 q hq
  unfold blOk at this⊢
  show(match kindQ q.kd with
   |none=>false
   |some (a,k,t')=>_)=true
  cases hk:kindQ q.kd with
  |none=>rw[hk]at this;cases this
  |some w=>
   obtain⟨a,k,t'⟩:=w
   rw[hk]at this
   simp only[Bool.and_eq_true,decide_eq_true_eq,List.all_eq_true]at this⊢
   obtain⟨a1,a2,a3,a4,a5,a6,a7⟩:=this
   refine⟨by simpa[rnB]using a1,a2,rn_ok ht a3,a4,a5,fun s hs=>?_,a7⟩
   obtain⟨y,hy,rfl⟩:=List.mem_map.1 hs
   exact rn_ok ht (a6 y hy)
 ·obtain⟨y,hy,rfl⟩:=List.mem_map.1 hs
  exact rn_ok ht (h7 y hy)
theorem sigs_ren {d:Dg}{f t:Str}:sigs (renD d f t)=(sigs d).map (rnS f t):=by
 unfold sigs renD
 simp only[List.map_append,List.map_map]
 rfl
theorem rn_back {f t x:Str}(hx:x≠t):rnS t f (rnS f t x)=x:=by
 unfold rnS
 by_cases h:x=f
 ·rw[if_pos h,if_pos rfl,h]
 ·rw[if_neg h,if_neg hx]
theorem fnd_no {l:List Str}{s:Str}(h:s∉l):fndQ l s= -1:=by
 have:∀(l:List Str) (k:Nat),s∉l→idxS s l k=none:=by
  intro l
  induction l with
  |nil=>intro k _;rfl
  |cons x l ih=>
   intro k hk
   simp only[List.mem_cons,not_or]at hk
   rw[idxS,if_neg (fun e=>hk.1 e.symm)]
   exact ih _ hk.2
 unfold fndQ
 rw[this l 0 h]
theorem fnd_ren {f t s:Str}{l:List Str}(hs:s≠t)(ht:t∉l):fndQ (l.map (rnS f t)) (rnS f t s)=fndQ l s:=by
 unfold fndQ
 rw[idxS_ren hs l 0 ht]
theorem map_id_of {α:Type}{g:α→α}:∀{l:List α},(∀x∈l,g x=x)→l.map g=l
 |[],_=>rfl
 |x::l,h=>by rw[List.map_cons,h x (List.mem_cons_self ..),map_id_of fun y hy=>h y (List.mem_cons_of_mem _ hy)]
structure TnOk (d:Dg) (f t:Str):Prop where
 ok:dgOk d=true
 ot:nmOk t=true
 fm:f∈sigs d
 nt:t∉sigs d
 ins:∀b∈d.bls,t∉b.ins
 ous:t∉d.ous
theorem TnOk.ne {d:Dg}{f t:Str}(k:TnOk d f t):f≠t:=fun h=>k.nt (h▸k.fm)
theorem TnOk.find {d:Dg}{f t:Str}(k:TnOk d f t):fndQ (sigs (renD d f t)) t=fndQ (sigs d) f:=by
 rw[sigs_ren]
 have:=fnd_ren (f:=f) (l:=sigs d) k.ne k.nt
 have e:rnS f t f=t:=if_pos rfl
 rw[e]at this;exact this
theorem TnOk.gone {d:Dg}{f t:Str}(k:TnOk d f t):fndQ (sigs (renD d f t)) f= -1:=by
 refine fnd_no fun h=>?_
 rw[sigs_ren]at h
 obtain⟨s,hs,he⟩:=List.mem_map.1 h
 unfold rnS at he
 split at he
 ·exact k.ne he.symm
 ·rename_i h2;exact h2 he
theorem TnOk.back {d:Dg}{f t:Str}(k:TnOk d f t):renD (renD d f t) t f=d:=by
 have h1:∀x∈d.ins,rnP t f (rnP f t x)=x:=fun x hx=>by
  have:x.nm≠t:=fun e=>k.nt (by rw[←e];exact List.mem_append_left _ (List.mem_map_of_mem hx))
  unfold rnP
  simp only[rn_back this]
 have h2:∀x∈d.bls,rnB t f (rnB f t x)=x:=fun x hx=>by
  have hn:x.nm≠t:=fun e=>k.nt (by rw[←e];exact List.mem_append_right _ (List.mem_map_of_mem hx))
  unfold rnB
  simp only[rn_back hn,List.map_map]
  rw[map_id_of (g:=rnS t f ∘ rnS f t) fun s hs=>rn_back fun e=>k.ins x hx (e▸hs)]
 unfold renD
 simp only[List.map_map]
 rw[map_id_of (g:=rnP t f ∘ rnP f t) h1,map_id_of (g:=rnB t f ∘ rnB f t) h2,map_id_of (g:=rnS t f ∘ rnS f t) fun s hs=>rn_back fun e=>k.ous (e▸hs)]
end Go.Proofs.YtlnpgbnhcondjaaGreatDoor.Fx
namespace Go.Proofs.YtlnpgbnhcondjaaGreatDoor.Fx
open Vg Tf
set_option linter.unusedSimpArgs false
set_option linter.unusedVariables false
set_option maxRecDepth 100000
set_option maxHeartbeats 4000000
end Go.Proofs.YtlnpgbnhcondjaaGreatDoor.Fx
namespace Go.Proofs.YtlnpgbnhcondjaaGreatDoor.Fx
open Vg Tf
set_option linter.unusedSimpArgs false
set_option linter.unusedVariables false
set_option maxRecDepth 100000
set_option maxHeartbeats 4000000
theorem rfind_ {H:Hp}(d:DgL)(o:d.ok H)(s:Str)(h1:d.ins.length≤1000000000000000)(h2:d.bls.length≤1000000000000000):CallH H Tryz.prog 33 [rowV d.r,S s] (I (fndQ (sigs d.c) s)):=by
 have hsl:=sigs_len d
 have z4:=rows_len (r:=Po.r) (k:=4) (fun _=>rfl) d.ins
 have z5:=rows_len (r:=BlL.r) (k:=6) (fun _=>rfl) d.bls
 have n4:(d.ins.map Po.r).length=d.ins.length:=List.length_map _
 have n5:(d.bls.map BlL.r).length=d.bls.length:=List.length_map _
 refine CallH.mkS Tryz.func33 rfl en33 (by simp[Tryz.ntmps33]) (ClA.of rfl) fun C hR hP hH hL=>?_
 refine Sm.go 100 ?_
 refine vv ?_
 refine Sm.bringC 4 118 100 4 (o.i.mono hH) rfl rfl rfl ?_
 refine Sm.bringC 5 82 100 5 (o.bl.mono hH) rfl rfl rfl ?_
 rw[n4,n5]
 refine Sm.loopM (M0:=[]) (α:={i:Nat//i≤d.ins.length∧idxS s (sigs d.c) 0=idxS s ((sigs d.c).drop i) i}) hP (fun i=>[(1,true,S s),(2,true,.c (.p 2 0)),(5,true,I i.val)]) (fun _=>(2,⟨false,dvs d,30⟩)::dmm d) (fun i=>d.ins.length-i.val) ⟨0,by omega,rfl⟩ (fun _=>ClM.of (by simp only[List.all_cons,inMV (rowsC_isV _)];rfl)) (fun _=>ClE.of rfl) [(2,100),(4,4),(5,5)] ?_ ?_
 ·exact⟨rfl,trivial,⟨rfl,rfl,rfl,trivial⟩,⟨.inr ⟨_,rfl,.inl rfl⟩,.inr ⟨_,rfl,.inl (renV (rowsC_isV _))⟩,.inr ⟨_,rfl,.inl (renV (rowsC_isV _))⟩,trivial⟩⟩
 rintro⟨i,hi,hx⟩ J hj
 simp only at hj hi hx⊢
 refine Sm.go 120 ?_
 refine vv ?_
 refine mtch (fun hc=>?_) (fun hc=>?_)
 ·have hc:=lt_of_dec hc
  rw[idxS_step s _ i (by omega),sgs_in2 d hc]at hx
  have f0:=rows_one (r:=Po.r) (k:=4) (fun _=>rfl) d.ins i 0 hc (by omega)
  rw[Nat.add_zero]at f0
  generalize d.ins[i]=x at*
  simp(maxSteps:=2000000) only[go_sem,f0,Po.r,List.getElem?_cons_zero,Option.map_some]
  refine⟨⟨by omega,by omega⟩,?_⟩
  refine mtch (fun hd=>?_) (fun hd=>?_)
  ·rw[if_pos (eq_of_beq hd)]at hx
   refine RetQ.int (hR C hL) rfl ⟨rfl,trivial⟩ ?_
   unfold fndQ;rw[hx]
  ·rw[if_neg (fun h=>by rw[h]at hd;simp at hd)]at hx
   simp(maxSteps:=2000000) only[go_sem,wS (show i≤1000000000000000000 by omega)]
   exact hj _ _ ⟨i+1,hc,hx⟩ [(2,2),(4,4),(5,5)] (by simp only;omega) ⟨rfl,trivial,⟨rfl,rfl,rfl,trivial⟩,⟨.inr ⟨_,rfl,.inl rfl⟩,.inr ⟨_,rfl,.inl (renV (rowsC_isV _))⟩,.inr ⟨_,rfl,.inl (renV (rowsC_isV _))⟩,trivial⟩⟩
 have hc:=eq_of_dec hi hc
 subst hc
 refine vv ?_
 refine Sm.loopM (M0:=[]) (α:={i:Nat//i≤d.bls.length∧idxS s (sigs d.c) 0=idxS s ((sigs d.c).drop (d.ins.length+i)) (d.ins.length+i)}) hP (fun i=>[(1,true,S s),(2,true,.c (.p 2 0)),(6,true,I i.val)]) (fun _=>(2,⟨false,dvs d,30⟩)::dmm d) (fun i=>d.bls.length-i.val) ⟨0,by omega,hx⟩ (fun _=>ClM.of (by simp only[List.all_cons,inMV (rowsC_isV _)];rfl)) (fun _=>ClE.of rfl) [(2,2),(4,4),(5,5)] ?_ ?_
 ·exact⟨rfl,trivial,⟨rfl,rfl,rfl,trivial⟩,⟨.inr ⟨_,rfl,.inl rfl⟩,.inr ⟨_,rfl,.inl (renV (rowsC_isV _))⟩,.inr ⟨_,rfl,.inl (renV (rowsC_isV _))⟩,trivial⟩⟩
 rintro⟨i,hi,hx⟩ J hj
 simp only at hj hi hx⊢
 refine Sm.go 120 ?_
 refine vv ?_
 refine mtch (fun hc=>?_) (fun hc=>?_)
 ·have hc:=lt_of_dec hc
  rw[idxS_step s _ _ (by omega),sgs_bl2 d hc]at hx
  have f0:=rows_one (r:=BlL.r) (k:=6) (fun _=>rfl) d.bls i 0 hc (by omega)
  rw[Nat.add_zero]at f0
  generalize d.bls[i]=x at*
  have ew:IntKind.i64.wrap ((d.ins.length:Int)+(i:Int))=((d.ins.length+i:Nat):Int):=by rw[w64 (by omega) (by omega)];omega
  simp(maxSteps:=2000000) only[go_sem,f0,BlL.r,List.getElem?_cons_zero,Option.map_some,ew]
  refine⟨⟨by omega,by omega⟩,?_⟩
  refine mtch (fun hd=>?_) (fun hd=>?_)
  ·rw[if_pos (eq_of_beq hd)]at hx
   refine RetQ.int (hR C hL) rfl ⟨rfl,trivial⟩ ?_
   unfold fndQ;rw[hx]
  ·rw[if_neg (fun h=>by rw[h]at hd;simp at hd)]at hx
   simp(maxSteps:=2000000) only[go_sem,wS (show i≤1000000000000000000 by omega)]
   exact hj _ _ ⟨i+1,hc,hx⟩ [(2,2),(4,4),(5,5)] (by simp only;omega) ⟨rfl,trivial,⟨rfl,rfl,rfl,trivial⟩,⟨.inr ⟨_,rfl,.inl rfl⟩,.inr ⟨_,rfl,.inl (renV (rowsC_isV _))⟩,.inr ⟨_,rfl,.inl (renV (rowsC_isV _))⟩,trivial⟩⟩
 have hc:=eq_of_dec hi hc
 subst hc
 rw[List.drop_eq_nil_of_le (by omega)]at hx
 refine vv ?_
 refine RetQ.int (hR C hL) rfl ⟨rfl,trivial⟩ ?_
 unfold fndQ;rw[hx];rfl
theorem lenR {α:Type}(f:α→List Value)(k:Nat)(l:List α)(h:∀a,(f a).length=k):∀r∈l.map f,r.length=k:=fun r hr=>by obtain⟨a,_,rfl⟩:=List.mem_map.1 hr;exact h a
structure ZL where
 s:Sv
 z:List Zv
def ZL.c (x:ZL):List (List Int):=x.z.map (·.2)
structure ZL.ok (H:Hp) (x:ZL):Prop where
 o:SlH H (vsl x.s x.z.length) 1 (x.z.map zR)
 e:∀v∈x.z,SlH H (vsl v.1 v.2.length) 1 (intsR v.2)
theorem ZL.ok.mono {H H':Hp}(h:H.le H'){x:ZL}(k:x.ok H):x.ok H':=⟨k.o.mono h,fun v hv=>(k.e v hv).mono h⟩
end Go.Proofs.YtlnpgbnhcondjaaGreatDoor.Fx
namespace Go.Proofs.YtlnpgbnhcondjaaGreatDoor.Fx
open Vg Tf
set_option linter.unusedSimpArgs false
set_option linter.unusedVariables false
set_option maxRecDepth 100000
set_option maxHeartbeats 4000000
theorem rLetter_ (c:UInt8):CallOk Tryz.prog 170 [Y c.toNat] [] (Bo (leB c)) []:=by
 refine CallOk.mkN 100 Tryz.func170 rfl en170 (by simp[Tryz.ntmps170]) (ClA.of rfl) rfl rfl fun C hR hP=>?_
 refine vv ?_
 refine⟨fun h=>⟨h,fun h2=>by rw[h,h2];rfl⟩,?_⟩
 refine RetQ.bool hR rfl ⟨rfl,trivial⟩ ?_
 unfold leB
 simp only[band_,bor_]
 have e1:decide ((97:Int)≤(c.toNat:Int))=decide (97≤c.toNat):=by rw[decide_eq_decide];omega
 have e2:decide ((c.toNat:Int)≤122)=decide (c.toNat≤122):=by rw[decide_eq_decide];omega
 have e3:decide ((65:Int)≤(c.toNat:Int))=decide (65≤c.toNat):=by rw[decide_eq_decide];omega
 have e4:decide ((c.toNat:Int)≤90)=decide (c.toNat≤90):=by rw[decide_eq_decide];omega
 rw[e1,e2,e3,e4]
theorem rDigit_ (c:UInt8):CallOk Tryz.prog 172 [Y c.toNat] [] (Bo (diB c)) []:=by
 refine CallOk.mkN 100 Tryz.func172 rfl en172 (by simp[Tryz.ntmps172]) (ClA.of rfl) rfl rfl fun C hR hP=>?_
 refine vv ?_
 refine RetQ.bool hR rfl ⟨rfl,trivial⟩ ?_
 unfold diB
 simp only[band_,bor_]
 have e1:decide ((48:Int)≤(c.toNat:Int))=decide (48≤c.toNat):=by rw[decide_eq_decide];omega
 have e2:decide ((c.toNat:Int)≤57)=decide (c.toNat≤57):=by rw[decide_eq_decide];omega
 rw[e1,e2]
def wordQ (s:Str):Nat:=match s with
 |[]=>0
 |c::r=>if leB c=true then 1+(r.takeWhile inB).length else 0
theorem wordQ_all (s:Str)(hs:s≠[]):((wordQ s:Int)==(s.length:Int))=(leB (s.getD 0 0)&&s.all inB):=by
 cases s with
 |nil=>exact absurd rfl hs
 |cons c r=>
  have hi:leB c=true→inB c=true:=fun h=>by unfold inB;rw[h];rfl
  have:=runN_all inB r
  unfold runN at this
  rw[List.drop_zero]at this
  show((((if leB c=true then 1+(r.takeWhile inB).length else 0:Nat)):Int)==((c::r).length:Int))=(leB c&&(inB c&&r.all inB))
  cases h:leB c with
  |false=>simp;omega
  |true=>
   rw[hi h,if_pos rfl,←this]
   simp only[List.length_cons,Bool.true_and]
   rw[Bool.eq_iff_iff,beq_iff_eq,beq_iff_eq];omega
theorem rWord_ (s:Str)(hs:s.length≤1000000000000000):CallOk Tryz.prog 171 [S s] [] (I (wordQ s)) []:=by
 cases s with
 |nil=>
  refine CallOk.mkN 100 Tryz.func171 rfl en171 (by simp[Tryz.ntmps171]) (ClA.of rfl) rfl rfl fun C hR hP=>?_
  refine vv ?_
  refine CallQ.guard (xs:=[]) (v:=Bo true) 150 (fun h=>by cases h) (fun h=>by cases h) ?_
  refine vv ?_
  exact RetQ.int hR rfl ⟨rfl,trivial⟩ rfl
 |cons c r=>
  have hne:((c::r)==([]:Str))=false:=rfl
  have h0:(0:Int)<((c::r).length:Int):=by simp only[List.length_cons];omega
  have hw:wordQ (c::r)=if leB ((c::r).getD 0 0)=true then 1+(((c::r).drop 1).takeWhile inB).length else 0:=rfl
  rw[hw]
  have h1:1≤(c::r).length:=by simp
  generalize c::r=s at*
  refine CallOk.mkN 100 Tryz.func171 rfl en171 (by simp[Tryz.ntmps171]) (ClA.of rfl) rfl rfl fun C hR hP=>?_
  simp(maxSteps:=2000000) only[go_sem,hne]
  refine⟨h0,?_⟩
  refine CallQ.pure 150 (rLetter_ (s.getD 0 0)) rfl ?_
  refine vv ?_
  cases hl:leB (s.getD 0 0)with
  |false=>
   rw[hl]at hR
   refine vv ?_
   exact RetQ.int hR rfl ⟨rfl,trivial⟩ rfl
  |true=>
  rw[hl,if_pos rfl]at hR
  refine vv ?_
  refine Sm.loopM (M0:=[]) (α:={n:Nat//1≤n∧n≤s.length∧1+((s.drop 1).takeWhile inB).length=n+((s.drop n).takeWhile inB).length}) hP
   (fun n=>[(0,true,S s),(3,true,I n.val)]) (fun _=>[]) (fun n=>s.length-n.val) ⟨1,by omega,by omega,rfl⟩ (fun _=>ClM.nil) (fun _=>ClE.of rfl) [] ?_ ?_
  ·exact⟨rfl,trivial,⟨rfl,rfl,trivial⟩,trivial⟩
  rintro⟨n,hn1,hn,hx⟩ J hb
  simp only at hb hn hn1 hx⊢
  refine Sm.go 120 ?_
  refine vv ?_
  by_cases hlt:n<s.length
  ·have h1:decide ((n:Int)<(s.length:Int))=true:=tru_of (by omega)
   have hd:s.drop n=s.getD n 0::s.drop (n+1):=by
    rw[List.getD_eq_getElem?_getD,List.getElem?_eq_getElem hlt,List.drop_eq_getElem_cons hlt];rfl
   rw[hd,List.takeWhile_cons]at hx
   simp(maxSteps:=2000000) only[go_sem,h1]
   refine⟨⟨by omega,by omega⟩,?_⟩
   have e1:((((s.getD n 0).toNat:Nat):Int)==95)=decide ((s.getD n 0).toNat=95):=by
    rw[Bool.eq_iff_iff,beq_iff_eq,decide_eq_true_eq];omega
   have hin:inB (s.getD n 0)=(leB (s.getD n 0)||(diB (s.getD n 0)||decide ((s.getD n 0).toNat=95))):=rfl
   refine CallQ.pure 130 (rLetter_ (s.getD n 0)) rfl ?_
   cases g1:leB (s.getD n 0)with
   |true=>
    refine vv ?_
    refine CallQ.guard (xs:=[]) (v:=Bo true) 150 (fun h=>by cases h) (fun h=>by cases h) ?_
    simp(maxSteps:=2000000) only[go_sem,wS (show n≤1000000000000000000 by omega)]
    rw[hin,g1]at hx
    exact hb _ _ ⟨n+1,by omega,by omega,by rw[hx,Bool.true_or,if_pos rfl,List.length_cons];omega⟩ [] (by simp only;omega) ⟨rfl,trivial,⟨rfl,rfl,trivial⟩,trivial⟩
   |false=>
    refine vv ?_
    refine⟨⟨by omega,by omega⟩,?_⟩
    refine CallQ.pure 140 (rDigit_ (s.getD n 0)) rfl ?_
    simp(maxSteps:=2000000) only[go_sem,e1]
    refine⟨fun h=>⟨h,h,by omega,by omega⟩,?_⟩
    rw[g1,Bool.false_or,←bor_]at hin
    rw[hin]at hx
    refine mtch (fun hc=>?_) (fun hc=>?_)
    ·rw[hc,if_pos rfl,List.length_cons]at hx
     simp(maxSteps:=2000000) only[go_sem,wS (show n≤1000000000000000000 by omega)]
     exact hb _ _ ⟨n+1,by omega,by omega,by rw[hx];omega⟩ [] (by simp only;omega) ⟨rfl,trivial,⟨rfl,rfl,trivial⟩,trivial⟩
    ·rw[hc]at hx
     exact RetQ.int hR rfl ⟨rfl,trivial⟩ (by rw[hx];rfl)
  ·have h1:decide ((n:Int)<(s.length:Int))=false:=fal_of (by omega)
   have hx:1+((s.drop 1).takeWhile inB).length=n:=by rw[hx,List.drop_eq_nil_of_le (show s.length≤n by omega)];simp
   simp(maxSteps:=2000000) only[go_sem,h1]
   refine CallQ.guard (xs:=[]) (v:=Bo true) 150 (fun h=>by cases h) (fun h=>by cases h) ?_
   simp(maxSteps:=2000000) only[go_sem,Bool.and_self]
   refine CallQ.guard (xs:=[]) (v:=Bo true) 150 (fun h=>by cases h) (fun h=>by cases h) ?_
   simp(maxSteps:=2000000) only[go_sem,Bool.and_self]
   exact RetQ.int hR rfl ⟨rfl,trivial⟩ (by rw[hx])
theorem kindQ_none (s:Str)(h:∀r∈kindT,(s==r.1)=false):kindQ s=none:=by
 unfold kindQ
 rw[List.find?_eq_none.2 (fun r hr=>by have:=h r hr;rw[Bool.beq_comm]at this;simp[this])];rfl
theorem kindQ_some (s:Str):(kindQ s).isSome=(kindT.map (·.1)).contains s:=by
 unfold kindQ
 rw[Option.isSome_map,Bool.eq_iff_iff,List.find?_isSome,List.contains_iff_mem,List.mem_map]
 constructor
 ·rintro⟨r,hr,h⟩;exact⟨r,hr,eq_of_beq h⟩
 ·rintro⟨r,hr,h⟩;exact⟨r,hr,by rw[h];exact beq_self_eq_true s⟩
theorem rKind_ (s:Str):CallOk Tryz.prog 203 [S s] [] (.tup [Wi ((kindQ s).getD (0,0,0)).1,Wi ((kindQ s).getD (0,0,0)).2.1,Wi ((kindQ s).getD (0,0,0)).2.2,Wb1 (kindQ s).isSome]) []:=by
 refine CallOk.mkN 100 Tryz.func203 rfl en203 (by simp[Tryz.ntmps203]) (ClA.of rfl) rfl rfl fun C hR hP=>?_
 refine vv ?_
 iterate 21
  refine mtch (fun hc=>?_) (fun hc=>?_)
  ·have hc:=eq_of_beq hc
   subst hc
   refine vv ?_
   exact RetQ.of hR rfl scc rvv (Sub.nil _) ClM.nil (ClV.of rfl)
  try simp(maxSteps:=2000000) only[go_sem]
 have hn:=kindQ_none s (by
  unfold kindT
  simp only[List.forall_mem_cons]
  refine⟨?_,?_,?_,?_,?_,?_,?_,?_,?_,?_,?_,?_,?_,?_,?_,?_,?_,?_,?_,?_,?_,fun r hr=>by cases hr⟩<;>assumption)
 rw[hn]at hR
 exact RetQ.of hR rfl scc rvv (Sub.nil _) ClM.nil (ClV.of rfl)
theorem rReserved_ (s:Str):CallOk Tryz.prog 197 [S s] [] (Bo (resQ s)) []:=by
 have hq:=kindQ_some s
 unfold resQ
 rw[←hq]
 have hk:=rKind_ s
 generalize (kindQ s).getD (0,0,0)=K at*
 generalize (kindQ s).isSome=K2 at*
 refine CallOk.mkN 100 Tryz.func197 rfl en197 (by simp[Tryz.ntmps197]) (ClA.of rfl) rfl rfl fun C hR hP=>?_
 refine vv ?_
 refine CallQ.pure 110 hk rfl ?_
 refine vv ?_
 iterate 7
  refine mtch (fun hc=>?_) (fun hc=>?_)
  ·have hc:=eq_of_beq hc
   subst hc
   refine vv ?_
   exact RetQ.bool hR rfl ⟨rfl,trivial⟩ (by cases K2<;>rfl)
  try simp(maxSteps:=2000000) only[go_sem]
 have hn:resT.contains s=false:=by
  unfold resT
  simp only[List.contains_cons, *]
  rfl
 exact RetQ.bool hR rfl ⟨rfl,trivial⟩ (by rw[hn];cases K2<;>rfl)
theorem rName_ (s:Str)(hs:s.length≤1000000000000000):CallOk Tryz.prog 91 [S s] [] (Bo (nmOk s)) []:=by
 have hne:(s !=[])= !(s==[]):=rfl
 have hlen:decide ((s.length:Int)≤24)=decide (s.length≤24):=by rw[decide_eq_decide];omega
 refine CallOk.mkN 100 Tryz.func91 rfl en91 (by simp[Tryz.ntmps91]) (ClA.of rfl) rfl rfl fun C hR hP=>?_
 cases s with
 |nil=>
  refine vv ?_
  refine CallQ.guard (xs:=[]) (v:=I 0) 150 (fun h=>by cases h) (fun h=>by cases h) ?_
  refine vv ?_
  refine CallQ.guard (xs:=[]) (v:=Bo true) 150 (fun h=>by cases h) (fun h=>by cases h) ?_
  refine vv ?_
  exact RetQ.bool hR rfl ⟨rfl,trivial⟩ rfl
 |cons c r=>
 have hne:((c::r)==([]:Str))=false:=rfl
 have hq:=wordQ_all (c::r) (by simp)
 have hnm:nmOk (c::r)=(decide ((c::r).length≤24)&&(leB ((c::r).getD 0 0)&&((c::r).all inB&& !resQ (c::r)))):=rfl
 rw[hnm]at hR
 generalize c::r=s at*
 simp(maxSteps:=2000000) only[go_sem,hne,hlen,bne,Bool.not_false]
 refine CallQ.guard 150 (fun _=>rWord_ s hs) (fun h=>by rw[h];rfl) ?_
 simp(maxSteps:=2000000) only[go_sem,hq]
 refine CallQ.guard 150 (fun _=>rReserved_ s) (fun h=>by rw[h];rfl) ?_
 refine vv ?_
 refine RetQ.bool hR rfl ⟨rfl,trivial⟩ ?_
 cases decide (s.length≤24)<;>cases leB (s.getD 0 0)<;>cases s.all inB<;>rfl
end Go.Proofs.YtlnpgbnhcondjaaGreatDoor.Fx
