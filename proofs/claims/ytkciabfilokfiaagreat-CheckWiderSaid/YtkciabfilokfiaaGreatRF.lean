/-  -/
import Derived.Test.YtkciabfilokfiaaGreatPS
import Derived.Test.YtkciabfilokfiaaGreatRD
import Derived.Test.YtkciabfilokfiaaGreatRQ
import Derived.Test.YtkciabfilokfiaaGreatQY
import Derived.Test.YtkciabfilokfiaaGreatMB
namespace Go.Proofs.YtkciabfilokfiaaGreat.Fx
open Vg Tf
set_option linter.unusedSimpArgs false
set_option linter.unusedVariables false
set_option maxRecDepth 100000
set_option maxHeartbeats 4000000
def sg0:Sg:=⟨[],ft0,(0,0)⟩
def sgQ (l:List Sg)(s:Str):Option Sg:=l.find? (fun x=>x.nm==s)
attribute [go_sem] Sg.w
@[reducible] def z13:List Cv:=[.v (.string ⟨#[]⟩),.v (.int .i64 0),.v (.bool false),.v (.int .i64 0),.v (.int .i64 0),.v (.int .i64 0),.v (.int .i64 0),.v (.int .i64 0),.v (.int .i64 0),.v (.int .i64 0),.v (.int .i64 0),.v (.int .i64 0),.v (.int .i64 0)]
theorem sgQ_cons (g:Sg)(l:List Sg)(s:Str):sgQ (g::l) s=bif g.nm==s then some g else sgQ l s:=by
 unfold sgQ;rw[List.find?_cons];cases g.nm==s<;>rfl
theorem Signal_ {H:Hp}(c:CkL)(hc:c.ok H)(s:Str)(hl:c.sg.length≤1000000000000000):CallH H Tryz.prog 39 [rowV c.r,S s] (.tup [W.agg (((sgQ c.sg s).getD sg0).w.map Cv.v),Wb1 (sgQ c.sg s).isSome]):=by
 have hz:=rows_len (r:=Sg.w) (k:=13) (fun _=>rfl) c.sg
 have hlm:(c.sg.map Sg.w).length=c.sg.length:=List.length_map _
 have hcr:rowV c.r= .agg [.v (sv c.d.nm),.v (vsl c.d.ty c.d.tys.length),.v (vsl c.d.cu c.d.cus.length),.v (vsl c.d.ma c.d.mas.length),.v (vsl c.d.i c.d.ins.length),.v (vsl c.d.bl c.d.bls.length),.v (vsl c.d.ou c.d.ous.length),.v (vsl c.s c.sg.length),.v (vsl c.o c.od.length)]:=rfl
 rw[hcr]
 refine CallH.mkS Tryz.func39 rfl en39 (by simp[Tryz.ntmps39]) (ClA.of rfl) fun C hR hP hH hL=>?_
 refine Sm.go 100 ?_
 refine vv ?_
 refine Sm.bringR 5 47 9 (hc.s.mono hH) rfl rfl ?_
 rw[hlm]
 refine Sm.loopM (M0:=[]) (α:={i:Nat//i≤c.sg.length∧sgQ c.sg s=sgQ (c.sg.drop i) s}) hP (fun i=>[(1,true,S s),(4,true,.c (.p 4 0)),(9,true,.c (.sl 5 0 c.sg.length 13)),(10,true,I c.sg.length),(11,true,I i.val)])
  (fun _=>[(4,⟨false,z13,47⟩),(5,⟨true,rowsC (c.sg.map Sg.w),47⟩)]) (fun i=>c.sg.length-i.val) ⟨0,by omega,rfl⟩ (fun _=>ClM.of (by simp only[List.all_cons,inMV (rowsC_isV _)];rfl)) (fun _=>ClE.of rfl) [(4,101),(5,5)] ?_ ?_
 ·exact⟨rfl,trivial,⟨rfl,rfl,rfl,rfl,rfl,trivial⟩,⟨.inr ⟨_,rfl,.inl rfl⟩,.inr ⟨_,rfl,.inl (renV (rowsC_isV _))⟩,trivial⟩⟩
 rintro⟨i,hi,hx⟩ J hj
 simp only at hj hi hx⊢
 refine Sm.go 110 ?_
 refine vv ?_
 refine mtch (fun hc2=>?_) (fun hc2=>?_)
 ·have hc2:=lt_of_dec hc2
  have htk:=rows_take (r:=Sg.w) (k:=13) (fun _=>rfl) c.sg i hc2
  rw[List.drop_eq_getElem_cons hc2,sgQ_cons]at hx
  generalize c.sg[i]=g at*
  simp(maxSteps:=2000000) only[go_sem,htk,hz]
  refine⟨⟨by omega,by omega⟩,by omega,?_⟩
  refine mtch (fun hg=>?_) (fun hg=>?_)
  ·rw[hg,cond_true]at hx
   rw[hx]at hR
   exact RetQ.of (hR C hL) rfl (vv trivial) rfl (Sub.nil _) ClM.nil (ClV.of rfl)
  ·rw[hg,cond_false]at hx
   refine Sm.go 120 ?_
   simp(maxSteps:=2000000) only[go_sem,wS (show i≤1000000000000000000 by omega)]
   exact hj _ _ ⟨i+1,hc2,hx⟩ [(4,4),(5,5)] (by simp only;omega) ⟨rfl,trivial,⟨rfl,rfl,rfl,rfl,rfl,trivial⟩,⟨.inr ⟨_,rfl,.inl rfl⟩,.inr ⟨_,rfl,.inl (renV (rowsC_isV _))⟩,trivial⟩⟩
 ·have hc2:=eq_of_dec hi hc2
  rw[hc2,List.drop_length]at hx
  have hx:sgQ c.sg s=none:=hx
  rw[hx]at hR
  exact RetQ.of (hR C hL) rfl (vv trivial) rfl (Sub.nil _) ClM.nil (ClV.of rfl)
end Go.Proofs.YtkciabfilokfiaaGreat.Fx
namespace Go.Proofs.YtkciabfilokfiaaGreat.Fx
open Vg Tf
set_option linter.unusedSimpArgs false
set_option linter.unusedVariables false
set_option maxRecDepth 100000
set_option maxHeartbeats 4000000
theorem none_ {H:Hp}(x:CkL)(hx:x.ok H)(h:x.c=ck0):CallH H Tryz.prog 14 [rowV x.r] (Bo true):=by
 unfold CkL.c ck0 at h
 injection h with hd hsg hod
 have q:=same_ x.d dgL0 hx.d (dgL0_ok H) hd ⟨by decide,by simp[dgL0],by simp[dgL0],by simp[dgL0],by simp[dgL0],by simp[dgL0],by simp[dgL0]⟩ (by simp[dgL0])
 have hl:x.sg.length=0:=by rw[hsg];rfl
 have ho:x.od.length=0:=by rw[hod];rfl
 have er:rowV x.r= .agg [.v (sv x.d.nm),.v (vsl x.d.ty x.d.tys.length),.v (vsl x.d.cu x.d.cus.length),.v (vsl x.d.ma x.d.mas.length),.v (vsl x.d.i x.d.ins.length),.v (vsl x.d.bl x.d.bls.length),.v (vsl x.d.ou x.d.ous.length),.v (vsl x.s 0),.v (vsl x.o 0)]:=by unfold CkL.r;rw[hl,ho];rfl
 rw[er]
 refine CallH.mkS Tryz.func14 rfl en14 (by simp[Tryz.ntmps14]) (ClA.of rfl) fun C hR hP hH hL=>?_
 refine Sm.go 100 ?_
 refine vv ?_
 refine CallQ.hg 110 (fun _=>q) hH (fun _=>rfl) ?_
 refine vv ?_
 exact RetQ.bool (hR C hL) rfl scc rfl
theorem ovrG_le (r:Int×Int):∀(l:List (Int×Int)) (q:Int×Int),q.1≤q.2→(ovrG r l q).1≤(ovrG r l q).2
 |[],_,h=>h
 |n::l,q,h=>by
  unfold ovrG
  cases (bif decide (r.1<n.1)then decide (n.1<r.2)else false)with
  |false=>exact ovrG_le r l q h
  |true=>
   refine ovrG_le r l _ ?_
   show min q.1 n.2≤max q.2 n.2
   omega
theorem ovrQ_le (c:Cu)(r:Int×Int):(ovrQ c r).1.1≤(ovrQ c r).1.2:=by
 unfold ovrQ
 cases (bif !cuOk c.xs c.ys then true else decide (r.2<r.1))with
 |true=>exact Int.le_refl _
 |false=>
  refine ovrG_le _ _ _ ?_
  show min _ _≤max _ _
  omega
theorem mnG_le:∀(l:List Int) (a:Int),mnG a l≤a∧∀z∈l,mnG a l≤z
 |[],a=>⟨Int.le_refl _,fun z hz=>by cases hz⟩
 |x::l,a=>by
  obtain⟨h1,h2⟩:=mnG_le l (min a x)
  unfold mnG
  refine⟨by omega,fun z hz=>?_⟩
  rcases List.mem_cons.1 hz with rfl|hz
  ·omega
  ·exact h2 z hz
theorem mxG_ge:∀(l:List Int) (a:Int),a≤mxG a l∧∀z∈l,z≤mxG a l
 |[],a=>⟨Int.le_refl _,fun z hz=>by cases hz⟩
 |x::l,a=>by
  obtain⟨h1,h2⟩:=mxG_ge l (max a x)
  unfold mxG
  refine⟨by omega,fun z hz=>?_⟩
  rcases List.mem_cons.1 hz with rfl|hz
  ·omega
  ·exact h2 z hz
def mnL (l:List Int):Int:=mnG (l.getD 0 0) (l.drop 1)
def mxL (l:List Int):Int:=mxG (l.getD 0 0) (l.drop 1)
theorem mnL_le {l:List Int}{z:Int}(h:z∈l):mnL l≤z∧z≤mxL l:=by
 cases l with
 |nil=>cases h
 |cons x l=>
  rcases List.mem_cons.1 h with rfl|h
  ·exact⟨(mnG_le l z).1,(mxG_ge l z).1⟩
  ·exact⟨(mnG_le l x).2 z h,(mxG_ge l x).2 z h⟩
theorem getD_mem (l:List Int){j:Nat}(h:j<l.length):l.getD j 0∈l:=by
 rw[List.getD_eq_getElem?_getD,List.getElem?_eq_getElem h]
 exact List.getElem_mem _
theorem zAt_mem {m:Mp}(k:MaOk m){i j:Nat}(hi:i<m.xs.length)(hj:j<m.ys.length):zAt m i j∈allZ m:=by
 have hi2:i<m.zs.length:=by rw[k.zl];exact hi
 have hr:=k.zr i hi2
 have hm:m.zs.getD i []∈m.zs:=by rw[List.getD_eq_getElem?_getD,List.getElem?_eq_getElem hi2];exact List.getElem_mem hi2
 unfold zAt allZ
 rw[List.mem_flatten]
 refine⟨_,hm,?_⟩
 exact getD_mem _ (by rw[hr];exact hj)
theorem at_in {m:Mp}(k:MaOk m)(x y:Int):mnL (allZ m)≤atQ m x y∧atQ m x y≤mxL (allZ m):=by
 obtain⟨_,_,x3,x4,x5⟩:=sgI_ok k.x2 k.xi x
 obtain⟨_,_,y3,y4,y5⟩:=sgI_ok k.y2 k.yi y
 have al:∀j,j<m.ys.length→mnL (allZ m)≤alQ m (sgI m.xs x) (clQ m.xs x) j∧alQ m (sgI m.xs x) (clQ m.xs x) j≤mxL (allZ m):=fun j hj=>by
  have h:=itp_in (y0:=zAt m (sgI m.xs x) j) (y1:=zAt m (sgI m.xs x+1) j) x4 x5 (incB_get m.xs k.xi _ x3)
  have h1:=mnL_le (zAt_mem k (show sgI m.xs x<m.xs.length by omega) hj)
  have h2:=mnL_le (zAt_mem k x3 hj)
  unfold alQ
  omega
 have h:=itp_in (y0:=alQ m (sgI m.xs x) (clQ m.xs x) (sgI m.ys y)) (y1:=alQ m (sgI m.xs x) (clQ m.xs x) (sgI m.ys y+1)) y4 y5 (incB_get m.ys k.yi _ y3)
 have h1:=al (sgI m.ys y) (by omega)
 have h2:=al (sgI m.ys y+1) y3
 unfold atQ
 omega
theorem sovJ_le (m:Mp)(x v:Int):∀(l:List Int) {q:Int×Int},q.1≤v→v≤q.2→(sovJ m x l q).1≤v∧v≤(sovJ m x l q).2
 |[],_,h1,h2=>⟨h1,h2⟩
 |y::l,q,h1,h2=>sovJ_le m x v l (by unfold putR;simp only;omega) (by unfold putR;simp only;omega)
theorem sovI_le (m:Mp)(ys:List Int)(v:Int):∀(l:List Int) {q:Int×Int},q.1≤v→v≤q.2→(sovI m ys l q).1≤v∧v≤(sovI m ys l q).2
 |[],_,h1,h2=>⟨h1,h2⟩
 |x::l,q,h1,h2=>by
  obtain⟨a,b⟩:=sovJ_le m x v ys h1 h2
  exact sovI_le m ys v l a b
theorem sovQ_le (m:Mp)(r s:Int×Int):(sovQ m r s).1.1≤(sovQ m r s).1.2:=by
 unfold sovQ
 cases h:(bif (bif !maOk m.xs m.ys m.zs then true else decide (r.2<r.1))then true else decide (s.2<s.1))with
 |true=>exact Int.le_refl _
 |false=>
  have hok:maOk m.xs m.ys m.zs=true:=by
   cases hk:maOk m.xs m.ys m.zs with
   |true=>rfl
   |false=>rw[hk]at h;cases h
  have k:=MaOk.of hok
  have h1:=at_in k r.1 s.1
  have h2:(sovR m r s).1≤atQ m r.1 s.1∧atQ m r.1 s.1≤(sovR m r s).2:=sovI_le m _ _ _ (Int.le_refl _) (Int.le_refl _)
  unfold mnL mxL at h1
  rw[cond_false]
  simp only
  omega
theorem tbl_good (d:Dg):TGd d (tblQ d):=fun b _ _ rs _=>by
 have h:(tblR d b (argR d rs b)).1≤(tblR d b (argR d rs b)).2:=by
  unfold tblR
  cases b.kd==[99,117,114,118,101]with
  |true=>exact ovrQ_le _ _
  |false=>exact sovQ_le _ _ _
 have h0:=lim0 (tyN d.tys b.ty)
 unfold gdR tblQ limR
 unfold limT at h0⊢
 simp only at h0⊢
 omega
end Go.Proofs.YtkciabfilokfiaaGreat.Fx
namespace Go.Proofs.YtkciabfilokfiaaGreat.Fx
open Vg Tf
set_option linter.unusedSimpArgs false
set_option linter.unusedVariables false
set_option maxRecDepth 100000
set_option maxHeartbeats 4000000
def g1B (c:Cu):Bool:=decide (12<max (c.xs.length:Int) (c.ys.length:Int))
def g2B (m:Mp):Bool:=decide (12<max (max (m.xs.length:Int) (m.ys.length:Int)) (m.zs.length:Int))
def g0B (d:Dg):Bool:=bif bif bif decide (30<(d.bls.length:Int))then decide ((d.bls.length:Int)≤200)else false then true else decide (210<(d.bls.length:Int))then true
 else decide (40<max (max (max (max (d.tys.length:Int) (d.cus.length:Int)) (d.mas.length:Int)) (d.ins.length:Int)) (d.ous.length:Int))
def greatB (d:Dg):Bool:=bif g0B d then true else bif d.cus.any g1B then true else d.mas.any g2B
theorem great1 (c:CuL):CallOk Tryz.prog 40 [rowV (CuL.r c)] [] (Bo (g1B c.c)) []:=by
 refine CallOk.mkN 100 Tryz.func40 rfl en40 (by simp[Tryz.ntmps40]) (ClA.of rfl) rfl rfl fun C hR hP=>?_
 refine vv ?_
 exact RetQ.bool hR rfl scc rfl
theorem great2 (c:MpL):CallOk Tryz.prog 41 [rowV (MpL.r c)] [] (Bo (g2B c.c)) []:=by
 refine CallOk.mkN 100 Tryz.func41 rfl en41 (by simp[Tryz.ntmps41]) (ClA.of rfl) rfl rfl fun C hR hP=>?_
 refine vv ?_
 refine RetQ.bool hR rfl scc ?_
 unfold g2B MpL.c
 simp only[List.length_map]
theorem great_ {H:Hp}(d:DgL)(hd:d.ok H)(hs:d.sm):CallH H Tryz.prog 12 [rowV d.r] (Bo (greatB d.c)):=by
 refine CallH.mkS Tryz.func12 rfl en12 (by simp[Tryz.ntmps12]) (ClA.of rfl) fun C hR hP hH hL=>?_
 refine Sm.go 100 ?_
 refine vv ?_
 have e1:(d.bls.length:Int)=(d.c.bls.length:Int):=by simp[DgL.c]
 have e2:(d.cus.length:Int)=(d.c.cus.length:Int):=by simp[DgL.c]
 have e3:(d.mas.length:Int)=(d.c.mas.length:Int):=by simp[DgL.c]
 have ec:d.cus.any (fun c=>g1B c.c)=d.c.cus.any g1B:=by
  show _=(d.cus.map CuL.c).any g1B
  rw[List.any_map];rfl
 have em:d.mas.any (fun c=>g2B c.c)=d.c.mas.any g2B:=by
  show _=(d.mas.map MpL.c).any g2B
  rw[List.any_map];rfl
 refine mtch (fun h0=>?_) (fun h0=>?_)
 ·rw[e1,e2,e3]at h0
  have h0:g0B d.c=true:=h0
  refine RetQ.bool (hR C hL) rfl scc ?_
  unfold greatB;rw[h0];rfl
 ·rw[e1,e2,e3]at h0
  have h0:g0B d.c=false:=h0
  refine CallQ.h 110 (cofCu d.cu d.cus hd.cu hs.cus.1 40 #[] (fun c=>g1B c.c) (fun c _=>(great1 c).toH)) hH rfl ?_
  refine vv ?_
  refine CallQ.hg 110 (fun _=>cofMa d.ma d.mas hd.ma hs.mas.1 41 #[] (fun c=>g2B c.c) (fun c _=>(great2 c).toH)) hH (fun h=>by rw[h];rfl) ?_
  refine vv ?_
  refine RetQ.bool (hR C hL) rfl scc ?_
  unfold greatB;rw[h0,←ec,←em,cond_false]
end Go.Proofs.YtkciabfilokfiaaGreat.Fx
namespace Go.Proofs.YtkciabfilokfiaaGreat.Fx
set_option linter.unusedVariables false
theorem idxS_get (s:Str):∀(l:List Str) (k i:Nat),idxS s l k=some i→∃j,i=k+j∧l[j]?=some s
 |[],_,_,h=>by cases h
 |x::l,k,i,h=>by
  unfold idxS at h
  split at h
  ·rename_i hx
   cases h
   exact⟨0,rfl,by simp[hx]⟩
  ·obtain⟨j,rfl,hj⟩:=idxS_get s l (k+1) i h
   exact⟨j+1,by omega,by simpa using hj⟩
theorem nodup_of_dupF:∀(l seen:List Str),dupF seen l=none→l.Nodup∧∀x∈l,x∉seen
 |[],seen,_=>⟨List.nodup_nil,by simp⟩
 |s::r,seen,h=>by
  unfold dupF at h
  cases hc:seen.contains s with
  |true=>rw[hc]at h;cases h
  |false=>
   rw[hc,cond_false]at h
   obtain⟨h1,h2⟩:=nodup_of_dupF r (s::seen) h
   have hs:s∉seen:=fun hm=>by rw[List.contains_iff_mem.2 hm]at hc;cases hc
   refine⟨List.nodup_cons.2 ⟨fun hm=>h2 s hm (by simp),h1⟩,fun x hx=>?_⟩
   rcases List.mem_cons.1 hx with rfl|hx
   ·exact hs
   ·exact fun hm=>h2 x hx (List.mem_cons_of_mem _ hm)
structure GrOk (d:Dg):Prop where
 nd:(sigs d).Nodup
 ar:∀b∈d.bls,∀s∈b.ins,∃k,idxS s (sigs d) 0=some k∧(sigs d)[k]?=some s
theorem GrOk.of {d:Dg}(h1:dupF [] (sigs d)=none)(h2:fstA d d.bls=none):GrOk d:=by
 refine⟨(nodup_of_dupF _ _ h1).1,fun b hb s hs=>?_⟩
 unfold fstA at h2
 rw[List.findSome?_eq_none_iff]at h2
 have h3:=h2 b hb
 unfold argQ at h3
 rw[List.find?_eq_none]at h3
 have h4:=h3 s hs
 unfold sgB at h4
 cases hi:idxS s (sigs d) 0 with
 |none=>rw[hi]at h4;simp at h4
 |some k=>
  obtain⟨j,hj,hg⟩:=idxS_get s _ 0 k hi
  have:j=k:=by omega
  subst this
  exact⟨j,rfl,hg⟩
def insG (st:Str):List Str→List Str×List Str→Option (List Str×List Str)
 |[],q=>some q
 |x::r,q=>bif x==st then none else bif q.1.contains x then insG st r q else insG st r (x::q.1,q.2++[x])
def blsG (st s:Str):List Bl→List Str×List Str→Option (List Str×List Str)
 |[],q=>some q
 |b::r,q=>bif (bif !(b.nm==s)then true else b.kd==delS)then blsG st s r q else match insG st b.ins q with
  |none=>none
  |some q'=>blsG st s r q'
def bfsG (bs:List Bl)(st:Str):Nat→List Str×List Str→Bool
 |0,_=>false
 |f+1,q=>match q.2 with
  |[]=>false
  |s::nx=>match blsG st s bs (q.1,nx)with
   |none=>true
   |some q'=>bfsG bs st f q'
end Go.Proofs.YtkciabfilokfiaaGreat.Fx
namespace Go.Proofs.YtkciabfilokfiaaGreat.Fx
open Vg Tf
set_option linter.unusedSimpArgs false
set_option linter.unusedVariables false
set_option maxRecDepth 100000
set_option maxHeartbeats 4000000
end Go.Proofs.YtkciabfilokfiaaGreat.Fx
namespace Go.Proofs.YtkciabfilokfiaaGreat.Fx
open Vg Tf
set_option linter.unusedSimpArgs false
set_option linter.unusedVariables false
set_option maxRecDepth 100000
set_option maxHeartbeats 4000000
def kB (bs:List Bl)(st s:Str)(f:Nat)(r:List Bl)(q:List Str×List Str):Bool:=match blsG st s r q with
 |none=>true
 |some q'=>bfsG bs st f q'
def kI (bs:List Bl)(st s:Str)(f:Nat)(r:List Bl)(l:List Str)(q:List Str×List Str):Bool:=match insG st l q with
 |none=>true
 |some q'=>kB bs st s f r q'
end Go.Proofs.YtkciabfilokfiaaGreat.Fx
namespace Go.Proofs.YtkciabfilokfiaaGreat.Fx
open Vg Tf
set_option linter.unusedSimpArgs false
set_option linter.unusedVariables false
set_option maxRecDepth 100000
set_option maxHeartbeats 4000000
end Go.Proofs.YtkciabfilokfiaaGreat.Fx
namespace Go.Proofs.YtkciabfilokfiaaGreat.Fx
open Vg Tf
set_option linter.unusedSimpArgs false
set_option linter.unusedVariables false
set_option maxRecDepth 100000
set_option maxHeartbeats 4000000
@[go_sem ↓] theorem plS_1_11:plS 1 11=[(0,11)]:=rfl
@[go_sem ↓] theorem plS_1_4:plS 1 4=[(0,4)]:=rfl
@[go_sem ↓] theorem plS_3_6:plS 3 6=[(0,6),(6,6),(12,6)]:=rfl
@[go_sem ↓] theorem plS_1_6:plS 1 6=[(0,6)]:=rfl
def exT:Ft:=⟨8,false,1,0,1,0,0,0,0,0⟩
def exTy:Td:=⟨[116],exT⟩
def exIn:Po:=⟨[120],[116],0,10⟩
def exB1:Bl:=⟨[121],[97,100,100],[116],[[120],[120]],[],[]⟩
def exB2:Bl:=⟨[122],[100,101,108,97,121],[116],[[122,50]],[],[0]⟩
def exB3:Bl:=⟨[122,50],[97,100,100],[116],[[122],[120]],[],[]⟩
def exD:Dg:=⟨[100],[exTy],[],[],[exIn],[exB1,exB2,exB3],[]⟩
theorem example_ {H:Hp}:CallX H Tryz.prog 38 [] [] (fun x:DgL=>rowV x.r) (fun _=>[]) (fun x H'=>x.c=exD∧x.ok H'):=by
 refine CallX.mkS Tryz.func38 rfl en38 (by simp[Tryz.ntmps38]) (ClA.of rfl) (fun _=>rfl) (fun _=>rfl) fun C hR hP hH hL=>?_
 refine Sm.go 100 ?_
 refine vv ?_
 refine RetQ.letgo (M0:=[]) [104,105,106,107] hL hP rfl rfl (fun β C1 l1 k1 kn=>?_)
 obtain⟨s4,hv4,hk4⟩:=(kn 104 _ rfl rfl rfl).vslx (sz:=1) (rows:=strsR [[120],[120]]) (by simp[strsR]) rfl
 obtain⟨s5,hv5,hk5⟩:=(kn 105 _ rfl rfl rfl).vslx (sz:=1) (rows:=strsR [[122,50]]) (by simp[strsR]) rfl
 obtain⟨s6,hv6,hk6⟩:=(kn 106 _ rfl rfl rfl).vslx (sz:=1) (rows:=intsR [0]) (by simp[intsR]) rfl
 obtain⟨s7,hv7,hk7⟩:=(kn 107 _ rfl rfl rfl).vslx (sz:=1) (rows:=strsR [[122],[120]]) (by simp[strsR]) rfl
 have hv4:gval β (.sl 104 0 2 1)=vsl s4 2:=hv4
 have hv5:gval β (.sl 105 0 1 1)=vsl s5 1:=hv5
 have hv6:gval β (.sl 106 0 1 1)=vsl s6 1:=hv6
 have hv7:gval β (.sl 107 0 2 1)=vsl s7 2:=hv7
 simp only[Mem.conc,Env.conc,Bk.conc,Cv.conc,V.conc,List.map_cons,List.map_nil,List.contains_cons,List.contains_nil,Nat.reduceBEq,Bool.or_false,Bool.or_true,cond_true,cond_false,hv4,hv5,hv6,hv7]
 have lB:∀b∈[BlL.mk exB1 s4 ⟨none,0⟩,BlL.mk exB2 s5 s6,BlL.mk exB3 s7 ⟨none,0⟩],b.ok C1.hp:=by
  intro b hb
  simp only[List.mem_cons,List.not_mem_nil,or_false]at hb
  rcases hb with rfl|rfl|rfl
  ·exact⟨hk4,SlH.nil _⟩
  ·exact⟨hk5,hk6⟩
  ·exact⟨hk7,SlH.nil _⟩
 refine RetQ.letgo (M0:=[]) [102,103,108] l1 hP rfl rfl (fun β' C2 l2 k2 kn2=>?_)
 obtain⟨s1,hv1,hk1⟩:=(kn2 102 _ rfl rfl rfl).vslx (sz:=11) (rows:=[exTy].map Td.r) (fun r hr=>by obtain⟨x,_,rfl⟩:=List.mem_map.1 hr;rfl) rfl
 obtain⟨s2,hv2,hk2⟩:=(kn2 103 _ rfl rfl rfl).vslx (sz:=4) (rows:=[exIn].map Po.r) (fun r hr=>by obtain⟨x,_,rfl⟩:=List.mem_map.1 hr;rfl) rfl
 obtain⟨s3,hv3,hk3⟩:=(kn2 108 _ rfl rfl rfl).vslx (sz:=6) (rows:=[BlL.mk exB1 s4 ⟨none,0⟩,BlL.mk exB2 s5 s6,BlL.mk exB3 s7 ⟨none,0⟩].map BlL.r) (fun r hr=>by obtain⟨x,_,rfl⟩:=List.mem_map.1 hr;rfl) rfl
 have hv1:gval β' (.sl 102 0 1 11)=vsl s1 1:=hv1
 have hv2:gval β' (.sl 103 0 1 4)=vsl s2 1:=hv2
 have hv3:gval β' (.sl 108 0 3 6)=vsl s3 3:=hv3
 simp only[Mem.conc,Env.conc,Bk.conc,Cv.conc,V.conc,List.map_cons,List.map_nil,List.contains_cons,List.contains_nil,Nat.reduceBEq,Bool.or_false,Bool.or_true,cond_true,cond_false,hv1,hv2,hv3]
 have hR':=hR (DgL.mk [100] [exTy] [] [] [exIn] [BlL.mk exB1 s4 ⟨none,0⟩,BlL.mk exB2 s5 s6,BlL.mk exB3 s7 ⟨none,0⟩] [] s1 ⟨none,0⟩ ⟨none,0⟩ s2 s3 ⟨none,0⟩) C2 l2 ⟨rfl,⟨hk1,SlH.nil _,SlH.nil _,hk2,hk3,SlH.nil _,by simp,by simp,fun b hb=>(lB b hb).mono k2⟩⟩
 exact RetQ.of hR' rfl (vv trivial) rfl (Sub.nil _) ClM.nil (ClV.of rfl)
end Go.Proofs.YtkciabfilokfiaaGreat.Fx
