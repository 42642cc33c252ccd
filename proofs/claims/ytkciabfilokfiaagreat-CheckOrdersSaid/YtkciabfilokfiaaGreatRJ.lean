/-  -/
import Derived.Test.YtkciabfilokfiaaGreatPS
import Derived.Test.YtkciabfilokfiaaGreatRD
namespace Go.Proofs.YtkciabfilokfiaaGreat.Fx
open Vg Tf
set_option linter.unusedSimpArgs false
set_option linter.unusedVariables false
set_option maxRecDepth 100000
set_option maxHeartbeats 4000000
theorem _root_.Go.Proofs.YtkciabfilokfiaaGreat.Vg.Rel.bring {C:Cx}{M:Mem}{l:Vg.Loc}{cs:List Value}{β:Vl}{w:World}(nm:Nat)(el:TypeId)(h:LcH C.hp l cs)(hn:M.get nm=none)(h1:Rel C.S C.w0 β M w):Rel C.S C.w0 (fun k=>if k=nm then l else β k) ((nm,⟨true,cs.map .v,el⟩)::M) w:=by
 have hne:∀k b,M.get k=some b→k≠nm:=by rintro k b hk rfl;rw[hn]at hk;cases hk
 have hcells:∀β:Vl,(cs.map Cv.v).map (Cv.g β)=cs:=fun β=>by
  rw[List.map_map];conv=>rhs;rw[←List.map_id cs]
  exact List.map_congr_left fun _ _=>rfl
 have hag0:∀β',Agree ((nm,⟨true,cs.map .v,el⟩)::M) (fun k=>if k=nm then l else β k) β'→Agree M β β'∧β' nm=l:=fun β' hag=>by
  refine⟨fun j hj=>?_,by have:=hag nm (by rw[Mem.get_cons];simp);simpa using this⟩
  obtain⟨c,hc⟩:=Option.isSome_iff_exists.1 hj
  rw[hag j (by rw[Mem.get_cons];split<;>simp_all)]
  exact if_neg (hne j c hc)
 refine⟨h1.fr,⟨fun β' hag k b hb=>?_,fun k b hb hu=>?_,fun k m b b' hb hb' hkm hr hlv hu hu'=>?_⟩,fun k b hb hr hu hS=>?_,fun k q hq=>?_⟩
 ·obtain⟨g1,g2⟩:=hag0 β' hag
  rw[Mem.get_cons]at hb
  split at hb
  ·rename_i hk
   simp at hb;subst hb hk
   unfold BkOk
   rw[g2,hcells]
   cases hu:l.nul with
   |true=>simp only[if_true];rw[h.1 hu];exact⟨rfl,fun h=>by cases h⟩
   |false=>
    simp only[Bool.false_eq_true,if_false,if_true]
    obtain⟨c,el',mk,q1,q2⟩:=h.2.2 hu
    refine⟨fun j v hj=>?_,by simpa using h.2.1⟩
    simp[World.cell?,Cx.hp_now h1 q1,q2 j v hj]
  ·exact h1.mem.ok β' g1 k b hb
 ·rw[Mem.get_cons]at hb
  split at hb
  ·rename_i hk
   simp only[if_pos hk]at hu⊢
   obtain⟨c,el',mk,q1,q2⟩:=h.2.2 hu
   exact Nat.lt_of_lt_of_le (C.hp_lt q1) h1.fr.size
  ·rename_i hk;simp only[if_neg hk]at hu⊢;exact h1.mem.there k b hb hu
 ·rw[Mem.get_cons]at hb hb'
  split at hb
  ·simp at hb;subst hb;cases hr
  ·rename_i hk
   split at hb'
   ·rename_i hk'
    simp only[if_neg hk,if_pos hk']at hu hu'⊢
    obtain⟨c,el',mk,q1,q2⟩:=h.2.2 hu'
    exact fun hh=>Cx.hp_wrt h1 q1 ⟨k,b,hb,hr,hu,hh.symm⟩
   ·rename_i hk'
    simp only[if_neg hk,if_neg hk']at hu hu'⊢
    exact h1.mem.apart k m b b' hb hb' hkm hr hlv hu hu'
 ·rw[Mem.get_cons]at hb
  split at hb
  ·simp at hb;subst hb;cases hr
  ·rename_i hk;simp only[if_neg hk]at hu hS⊢;exact h1.own k b hb hr hu hS
 ·obtain⟨p1,p2⟩:=h1.pin k q hq
  have hkn:k≠nm:=by rintro rfl;rw[hn]at p1;cases p1
  exact⟨by rw[Mem.get_cons,if_neg hkn];exact p1,by simp only[if_neg hkn];exact p2⟩
theorem _root_.Go.Proofs.YtkciabfilokfiaaGreat.Vg.Sm.bringC {P:Program}{nt:Nat}{C:Cx}{todo:List It}{e:Env}{M:Mem}{v:Value}{sz:Nat}{rows:List (List Value)}(nm:Nat)(el:TypeId)(n i:Nat){b:Bk}(h:SlH C.hp v sz rows)(hn:M.get nm=none)(hb:M.get n=some b)(hi:b.cells[i]?=some (.v v))
  (k:Sm P nt C todo e ((n,⟨b.ro,b.cells.set i (.sl nm 0 rows.length sz),b.elem⟩)::(nm,⟨true,rowsC rows,el⟩)::M)):Sm P nt C todo e M:=fun β a w h1 h2 h3 h4=>by
 obtain⟨l,q1,q2,q3⟩:=h
 have r0:=h1.bring nm el q3 hn
 have hne:¬n=nm:=fun hh=>by subst hh;rw[hn]at hb;cases hb
 have hbm:Mem.get ((nm,(⟨true,rows.flatten.map .v,el⟩:Bk))::M) n=some b:=by rw[Mem.get_cons,if_neg hne];exact hb
 have r:=r0.eqc (cs:=b.cells.set i (.sl nm 0 rows.length sz)) hbm (fun β' hag=>by
  have hnu:=hag nm (by rw[Mem.get_cons,if_pos rfl];rfl)
  simp only[if_true]at hnu
  have e1:(Cv.sl nm 0 rows.length sz).g β'=v:=by rw[q1,slg hnu]
  rw[List.map_set,e1]
  refine List.ext_getElem? fun k=>?_
  rw[List.getElem?_set]
  split
  ·rename_i hk
   subst hk
   have hlt:=(List.getElem?_eq_some_iff.1 hi).1
   rw[if_pos (by simpa using hlt),List.getElem?_map,hi];rfl
  ·rfl)
 refine k _ a w r (h2.on fun k hk=>?_) h3 h4
 obtain⟨c,hc⟩:=Option.isSome_iff_exists.1 hk
 have hkn:¬k=nm:=fun hh=>by subst hh;rw[hn]at hc;cases hc
 refine⟨?_,if_neg hkn⟩
 rw[Mem.get_cons]
 split
 ·rfl
 ·rw[Mem.get_cons,if_neg hkn];exact hk
def schG (p:Nat→Bool):Nat→Nat→Nat→Nat
 |0,lo,_=>lo
 |f+1,lo,hi=>bif decide (lo<hi)then bif p ((lo+hi)/2)then schG p f lo ((lo+hi)/2)else schG p f ((lo+hi)/2+1) hi else lo
def schQ (p:Nat→Bool)(n:Nat):Nat:=schG p (n+1) 0 n
theorem schG_ok {p:Nat→Bool}{n:Nat}:∀(f lo hi:Nat),lo≤hi→hi≤n→hi-lo<f→(0<lo→p (lo-1)=false)→(hi<n→p hi=true)→schG p f lo hi≤n∧(0<schG p f lo hi→p (schG p f lo hi-1)=false)∧(schG p f lo hi<n→p (schG p f lo hi)=true)
 |0,lo,hi,_,_,h,_,_=>by omega
 |f+1,lo,hi,h1,h2,h3,h4,h5=>by
  unfold schG
  by_cases h:lo<hi
  ·rw[decide_eq_true h,cond_true]
   have hm1:lo≤(lo+hi)/2:=by omega
   have hm2:(lo+hi)/2<hi:=by omega
   cases hp:p ((lo+hi)/2)with
   |true=>exact schG_ok f _ _ hm1 (by omega) (by omega) h4 fun _=>hp
   |false=>exact schG_ok f _ _ (by omega) h2 (by omega) (fun _=>by rw[Nat.add_sub_cancel];exact hp) h5
  ·rw[decide_eq_false h,cond_false]
   have:lo=hi:=by omega
   subst this
   exact⟨h2,h4,h5⟩
theorem schQ_ok (p:Nat→Bool)(n:Nat):schQ p n≤n∧(0<schQ p n→p (schQ p n-1)=false)∧(schQ p n<n→p (schQ p n)=true):=
 schG_ok (n+1) 0 n (by omega) (Nat.le_refl _) (by omega) (fun h=>by omega) (fun h=>by omega)
theorem search_ {H:Hp}(n:Nat)(hn:n≤1000000)(f:FuncId)(cs:List Cv)(ty:TypeId)(hcs:cs.all Cv.isV=true)(x:Int)(p:Nat→Bool)
  (hp:∀i,i<n→CallX H Tryz.prog f [I i,.c (.p 1 0),.c (.p 2 0)] [(1,⟨true,cs,ty⟩),(2,⟨true,[.v (.int .i64 x)],3⟩)] (fun _:Unit=>Bo (p i)) (fun _=>[]) (fun _ _=>True)):
  CallX H Tryz.prog 289 [I n,.c (.fn f [(1,0),(2,0)])] [(1,⟨true,cs,ty⟩),(2,⟨true,[.v (.int .i64 x)],3⟩)] (fun _:Unit=>I (schQ p n)) (fun _=>[]) (fun _ _=>True):=by
 have hM:ClM [(1,⟨true,cs,ty⟩),(2,⟨true,[.v (.int .i64 x)],3⟩)]:=ClM.of (by simp only[List.all_cons,inMV hcs];rfl)
 refine CallX.mkS Tryz.func289 rfl en289 (by simp[Tryz.ntmps289]) (ClA.of rfl) (fun _=>rfl) (fun _=>rfl) fun C hR hP hH hL=>?_
 have hR:=hR ()
 generalize hq:schQ p n=q at*
 unfold schQ at hq
 refine Sm.go 100 ?_
 refine vv ?_
 refine Sm.loopM (M0:=[(1,⟨true,cs,ty⟩),(2,⟨true,[.v (.int .i64 x)],3⟩)]) (α:={z:Nat×Nat×Nat//z.2.1≤z.2.2∧z.2.2≤n∧z.2.2-z.2.1<z.1∧schG p z.1 z.2.1 z.2.2=q}) hP (fun z=>[(1,true,.c (.fn f [(1,0),(2,0)])),(5,true,I z.val.2.1),(6,true,I z.val.2.2)])
  (fun _=>[(1,⟨true,cs,ty⟩),(2,⟨true,[.v (.int .i64 x)],3⟩)]) (fun z=>z.val.1) ⟨(n+1,0,n),by simp,by simp,by simp,hq⟩ (fun _=>hM) (fun _=>ClE.of rfl) [(1,1),(2,2)] ?_ ?_
 ·exact⟨rfl,⟨⟨rfl,rfl⟩,⟨rfl,rfl⟩,trivial⟩,⟨rfl,rfl,rfl,trivial⟩,⟨.inr ⟨_,rfl,.inl (renV hcs)⟩,.inr ⟨_,rfl,.inl rfl⟩,trivial⟩⟩
 rintro⟨⟨g,lo,hi⟩,h1,h2,h3,hx⟩ J hj
 simp only at hj h1 h2 h3 hx⊢
 cases g with
 |zero=>omega
 |succ g=>
 rw[schG]at hx
 refine Sm.go 110 ?_
 refine vv ?_
 have em:IntKind.i64.wrap ((IntKind.u64.wrap (IntKind.i64.wrap ((lo:Int)+(hi:Int)))).fdiv (2^min 1 64))=(((lo+hi)/2:Nat):Int):=by
  rw[w64 (show-9223372036854775808≤(lo:Int)+(hi:Int) by omega) (by omega)]
  have e1:IntKind.u64.wrap ((lo:Int)+(hi:Int))=(lo:Int)+(hi:Int):=wu64 (by omega) (by omega)
  rw[e1]
  show IntKind.i64.wrap (((lo:Int)+(hi:Int)).fdiv 2)=_
  rw[Int.fdiv_eq_ediv_of_nonneg _ (by omega),w64 (by omega) (by omega)]
  omega
 rw[em]
 refine mtch (fun hc=>?_) (fun hc=>?_)
 ·have hc:lo<hi:=lt_of_dec hc
  rw[decide_eq_true hc,cond_true]at hx
  have hmid:(lo+hi)/2<n:=by omega
  generalize hmm:(lo+hi)/2=mid at*
  refine CallQ.hr [(1,1),(2,2)] 120 (hp mid hmid) hH hM rfl rfl ⟨⟨_,rfl,.inl (renV hcs)⟩,⟨_,rfl,.inl rfl⟩,trivial⟩ rfl (.inr rfl) ?_
  simp only[Mem.ren,List.map_nil,V.ren,Cv.ren]
  cases hpm:p mid with
  |true=>
   rw[hpm,cond_true]at hx
   refine vv ?_
   exact hj _ _ ⟨(g,lo,mid),by simp only;omega,by simp only;omega,by simp only;omega,hx⟩ [(1,1),(2,2)] (by simp only;omega) ⟨rfl,⟨⟨rfl,rfl⟩,⟨rfl,rfl⟩,trivial⟩,⟨rfl,rfl,rfl,trivial⟩,⟨.inr ⟨_,rfl,.inl (renV hcs)⟩,.inr ⟨_,rfl,.inl rfl⟩,trivial⟩⟩
  |false=>
   rw[hpm,cond_false]at hx
   simp(maxSteps:=2000000) only[go_sem,wS (show mid≤1000000000000000000 by omega)]
   exact hj _ _ ⟨(g,mid+1,hi),by simp only;omega,by simp only;omega,by simp only;omega,hx⟩ [(1,1),(2,2)] (by simp only;omega) ⟨rfl,⟨⟨rfl,rfl⟩,⟨rfl,rfl⟩,trivial⟩,⟨rfl,rfl,rfl,trivial⟩,⟨.inr ⟨_,rfl,.inl (renV hcs)⟩,.inr ⟨_,rfl,.inl rfl⟩,trivial⟩⟩
 ·have hc:¬lo<hi:=by have:=of_decide_eq_false hc;omega
  rw[decide_eq_false hc,cond_false]at hx
  subst hx
  exact RetQ.of (hR C hL trivial) rfl scc rvv (SubS.sub ⟨⟨_,rfl,.inl rfl⟩,⟨_,rfl,.inl rfl⟩,trivial⟩) hM (ClV.of rfl)
def segP (l:List Int)(x:Int)(i:Nat):Bool:=decide (x<l.getD i 0)
def segN (l:List Int)(x:Int):Nat:=schQ (segP l x) l.length
theorem incB_get:∀(l:List Int),incB l=true→∀i,i+1<l.length→l.getD i 0<l.getD (i+1) 0
 |[],_,i,h=>by simp at h
 |[x],_,i,h=>by simp at h
 |x::y::l,hb,i,h=>by
  unfold incB at hb
  rw[Bool.and_eq_true,decide_eq_true_eq]at hb
  cases i with
  |zero=>exact hb.1
  |succ i=>
   have:=incB_get (y::l) hb.2 i (by simpa using h)
   simpa using this
theorem all_getD {p:Int→Bool}{l:List Int}(h:l.all p=true)(i:Nat)(hi:i<l.length):p (l.getD i 0)=true:=by
 rw[List.getD_eq_getElem?_getD,List.getElem?_eq_getElem hi]
 exact List.all_eq_true.1 h _ (List.getElem_mem hi)
theorem near_bd {n:Int}(h:nearB n=true): -1073741824≤n∧n≤1073741824:=of_decide_eq_true h
def itp (x0 x1 y0 y1 x:Int):Int:=y0+(x-x0)*(y1-y0)/(x1-x0)
structure CuOk (c:Cu):Prop where
 len:c.xs.length=c.ys.length
 two:2≤c.xs.length
 big:c.xs.length≤32
 x:c.xs.all nearB=true
 y:c.ys.all nearB=true
 inc:incB c.xs=true
theorem CuOk.of {c:Cu}(h:cuOk c.xs c.ys=true):CuOk c:=by
 unfold cuOk axOk at h
 simp only[Bool.and_eq_true,decide_eq_true_eq]at h
 exact⟨h.1,h.2.1.1.1,h.2.1.1.2,h.2.1.2.1,h.2.2,h.2.1.2.2⟩
theorem mul_bd2 {a b A B:Int}(h1:0≤a)(h2:a≤A)(h3: -B≤b)(h4:b≤B): -(A*B)≤a*b∧a*b≤A*B:=by
 have hB:0≤B:=by omega
 have k1:=Int.mul_le_mul_of_nonneg_left h4 h1
 have k2:=Int.mul_le_mul_of_nonneg_right h2 hB
 have k3:=Int.mul_le_mul_of_nonneg_left h3 h1
 have k4:a* -B= -(a*B):=Int.mul_neg ..
 omega
end Go.Proofs.YtkciabfilokfiaaGreat.Fx
namespace Go.Proofs.YtkciabfilokfiaaGreat.Fx
open Vg Tf
set_option linter.unusedSimpArgs false
set_option linter.unusedVariables false
set_option maxRecDepth 100000
set_option maxHeartbeats 4000000
end Go.Proofs.YtkciabfilokfiaaGreat.Fx
