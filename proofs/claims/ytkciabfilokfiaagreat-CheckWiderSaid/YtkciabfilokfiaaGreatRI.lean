/-  -/
import Derived.Test.YtkciabfilokfiaaGreatPS
import Derived.Test.YtkciabfilokfiaaGreatRD
namespace Go.Proofs.YtkciabfilokfiaaGreat.Fx
open Vg Tf
set_option linter.unusedSimpArgs false
set_option linter.unusedVariables false
set_option maxRecDepth 100000
set_option maxHeartbeats 4000000
theorem _root_.Go.Proofs.YtkciabfilokfiaaGreat.Vg.Rel.bring {C:Cx}{M:Mem}{l:Vg.Loc}{cs:List Value}{β:Vl}{w:World}(nm:Nat)(el:TypeId)(h:LcH C.hp l cs)(hn:M.get nm=none)(h1:Rel C.S C.w0 β M w):Rel C.S C.w0 (fun k=>if k=nm then l else β k) ((nm,⟨true,cs.map .v,el⟩)::M) w:=by
 have hne:∀k b,M.get k=some b→k≠nm:=by rintro k b hk rfl;rw[hn]at hk;cases hk
 have hcells:∀β:Vl,(cs.map Cv.v).map (Cv.g β)=cs:=fun β=>by
  rw[List.map_map];conv=>rhs;rw[←List.map_id cs]
  exact List.map_congr_left fun _ _=>rfl
 have hag0:∀β',Agree ((nm,⟨true,cs.map .v,el⟩)::M) (fun k=>if k=nm then l else β k) β'→Agree M β β'∧β' nm=l:=fun β' hag=>by
  refine⟨fun j hj=>?_,by have:=hag nm (by rw[Mem.get_cons];simp);simpa using this⟩
  obtain⟨c,hc⟩:=Option.isSome_iff_exists.1 hj
  rw[hag j (by rw[Mem.get_cons];split<;>simp_all)]
  exact if_neg (hne j c hc)
 refine⟨h1.fr,⟨fun β' hag k b hb=>?_,fun k b hb hu=>?_,fun k m b b' hb hb' hkm hr hlv hu hu'=>?_⟩,fun k b hb hr hu hS=>?_,fun k q hq=>?_⟩
 ·obtain⟨g1,g2⟩:=hag0 β' hag
  rw[Mem.get_cons]at hb
  split at hb
  ·rename_i hk
   simp at hb;subst hb hk
   unfold BkOk
   rw[g2,hcells]
   cases hu:l.nul with
   |true=>simp only[if_true];rw[h.1 hu];exact⟨rfl,fun h=>by cases h⟩
   |false=>
    simp only[Bool.false_eq_true,if_false,if_true]
    obtain⟨c,el',mk,q1,q2⟩:=h.2.2 hu
    refine⟨fun j v hj=>?_,by simpa using h.2.1⟩
    simp[World.cell?,Cx.hp_now h1 q1,q2 j v hj]
  ·exact h1.mem.ok β' g1 k b hb
 ·rw[Mem.get_cons]at hb
  split at hb
  ·rename_i hk
   simp only[if_pos hk]at hu⊢
   obtain⟨c,el',mk,q1,q2⟩:=h.2.2 hu
   exact Nat.lt_of_lt_of_le (C.hp_lt q1) h1.fr.size
  ·rename_i hk;simp only[if_neg hk]at hu⊢;exact h1.mem.there k b hb hu
 ·rw[Mem.get_cons]at hb hb'
  split at hb
  ·simp at hb;subst hb;cases hr
  ·rename_i hk
   split at hb'
   ·rename_i hk'
    simp only[if_neg hk,if_pos hk']at hu hu'⊢
    obtain⟨c,el',mk,q1,q2⟩:=h.2.2 hu'
    exact fun hh=>Cx.hp_wrt h1 q1 ⟨k,b,hb,hr,hu,hh.symm⟩
   ·rename_i hk'
    simp only[if_neg hk,if_neg hk']at hu hu'⊢
    exact h1.mem.apart k m b b' hb hb' hkm hr hlv hu hu'
 ·rw[Mem.get_cons]at hb
  split at hb
  ·simp at hb;subst hb;cases hr
  ·rename_i hk;simp only[if_neg hk]at hu hS⊢;exact h1.own k b hb hr hu hS
 ·obtain⟨p1,p2⟩:=h1.pin k q hq
  have hkn:k≠nm:=by rintro rfl;rw[hn]at p1;cases p1
  exact⟨by rw[Mem.get_cons,if_neg hkn];exact p1,by simp only[if_neg hkn];exact p2⟩
theorem _root_.Go.Proofs.YtkciabfilokfiaaGreat.Vg.Sm.bringC {P:Program}{nt:Nat}{C:Cx}{todo:List It}{e:Env}{M:Mem}{v:Value}{sz:Nat}{rows:List (List Value)}(nm:Nat)(el:TypeId)(n i:Nat){b:Bk}(h:SlH C.hp v sz rows)(hn:M.get nm=none)(hb:M.get n=some b)(hi:b.cells[i]?=some (.v v))
  (k:Sm P nt C todo e ((n,⟨b.ro,b.cells.set i (.sl nm 0 rows.length sz),b.elem⟩)::(nm,⟨true,rowsC rows,el⟩)::M)):Sm P nt C todo e M:=fun β a w h1 h2 h3 h4=>by
 obtain⟨l,q1,q2,q3⟩:=h
 have r0:=h1.bring nm el q3 hn
 have hne:¬n=nm:=fun hh=>by subst hh;rw[hn]at hb;cases hb
 have hbm:Mem.get ((nm,(⟨true,rows.flatten.map .v,el⟩:Bk))::M) n=some b:=by rw[Mem.get_cons,if_neg hne];exact hb
 have r:=r0.eqc (cs:=b.cells.set i (.sl nm 0 rows.length sz)) hbm (fun β' hag=>by
  have hnu:=hag nm (by rw[Mem.get_cons,if_pos rfl];rfl)
  simp only[if_true]at hnu
  have e1:(Cv.sl nm 0 rows.length sz).g β'=v:=by rw[q1,slg hnu]
  rw[List.map_set,e1]
  refine List.ext_getElem? fun k=>?_
  rw[List.getElem?_set]
  split
  ·rename_i hk
   subst hk
   have hlt:=(List.getElem?_eq_some_iff.1 hi).1
   rw[if_pos (by simpa using hlt),List.getElem?_map,hi];rfl
  ·rfl)
 refine k _ a w r (h2.on fun k hk=>?_) h3 h4
 obtain⟨c,hc⟩:=Option.isSome_iff_exists.1 hk
 have hkn:¬k=nm:=fun hh=>by subst hh;rw[hn]at hc;cases hc
 refine⟨?_,if_neg hkn⟩
 rw[Mem.get_cons]
 split
 ·rfl
 ·rw[Mem.get_cons,if_neg hkn];exact hk
def schG (p:Nat→Bool):Nat→Nat→Nat→Nat
 |0,lo,_=>lo
 |f+1,lo,hi=>bif decide (lo<hi)then bif p ((lo+hi)/2)then schG p f lo ((lo+hi)/2)else schG p f ((lo+hi)/2+1) hi else lo
def schQ (p:Nat→Bool)(n:Nat):Nat:=schG p (n+1) 0 n
theorem schG_ok {p:Nat→Bool}{n:Nat}:∀(f lo hi:Nat),lo≤hi→hi≤n→hi-lo<f→(0<lo→p (lo-1)=false)→(hi<n→p hi=true)→schG p f lo hi≤n∧(0<schG p f lo hi→p (schG p f lo hi-1)=false)∧(schG p f lo hi<n→p (schG p f lo hi)=true)
 |0,lo,hi,_,_,h,_,_=>by omega
 |f+1,lo,hi,h1,h2,h3,h4,h5=>by
  unfold schG
  by_cases h:lo<hi
  ·rw[decide_eq_true h,cond_true]
   have hm1:lo≤(lo+hi)/2:=by omega
   have hm2:(lo+hi)/2<hi:=by omega
   cases hp:p ((lo+hi)/2)with
   |true=>exact schG_ok f _ _ hm1 (by omega) (by omega) h4 fun _=>hp
   |false=>exact schG_ok f _ _ (by omega) h2 (by omega) (fun _=>by rw[Nat.add_sub_cancel];exact hp) h5
  ·rw[decide_eq_false h,cond_false]
   have:lo=hi:=by omega
   subst this
   exact⟨h2,h4,h5⟩
theorem schQ_ok (p:Nat→Bool)(n:Nat):schQ p n≤n∧(0<schQ p n→p (schQ p n-1)=false)∧(schQ p n<n→p (schQ p n)=true):=
 schG_ok (n+1) 0 n (by omega) (Nat.le_refl _) (by omega) (fun h=>by omega) (fun h=>by omega)
theorem search_ {H:Hp}(n:Nat)(hn:n≤1000000)(f:FuncId)(cs:List Cv)(ty:TypeId)(hcs:cs.all Cv.isV=true)(x:Int)(p:Nat→Bool)
  (hp:∀i,i<n→CallX H Tryz.prog f [I i,.c (.p 1 0),.c (.p 2 0)] [(1,⟨true,cs,ty⟩),(2,⟨true,[.v (.int .i64 x)],3⟩)] (fun _:Unit=>Bo (p i)) (fun _=>[]) (fun _ _=>True)):
  CallX H Tryz.prog 289 [I n,.c (.fn f [(1,0),(2,0)])] [(1,⟨true,cs,ty⟩),(2,⟨true,[.v (.int .i64 x)],3⟩)] (fun _:Unit=>I (schQ p n)) (fun _=>[]) (fun _ _=>True):=by
 have hM:ClM [(1,⟨true,cs,ty⟩),(2,⟨true,[.v (.int .i64 x)],3⟩)]:=ClM.of (by simp only[List.all_cons,inMV hcs];rfl)
 refine CallX.mkS Tryz.func289 rfl en289 (by simp[Tryz.ntmps289]) (ClA.of rfl) (fun _=>rfl) (fun _=>rfl) fun C hR hP hH hL=>?_
 have hR:=hR ()
 generalize hq:schQ p n=q at*
 unfold schQ at hq
 refine Sm.go 100 ?_
 refine vv ?_
 refine Sm.loopM (M0:=[(1,⟨true,cs,ty⟩),(2,⟨true,[.v (.int .i64 x)],3⟩)]) (α:={z:Nat×Nat×Nat//z.2.1≤z.2.2∧z.2.2≤n∧z.2.2-z.2.1<z.1∧schG p z.1 z.2.1 z.2.2=q}) hP (fun z=>[(1,true,.c (.fn f [(1,0),(2,0)])),(5,true,I z.val.2.1),(6,true,I z.val.2.2)])
  (fun _=>[(1,⟨true,cs,ty⟩),(2,⟨true,[.v (.int .i64 x)],3⟩)]) (fun z=>z.val.1) ⟨(n+1,0,n),by simp,by simp,by simp,hq⟩ (fun _=>hM) (fun _=>ClE.of rfl) [(1,1),(2,2)] ?_ ?_
 ·exact⟨rfl,⟨⟨rfl,rfl⟩,⟨rfl,rfl⟩,trivial⟩,⟨rfl,rfl,rfl,trivial⟩,⟨.inr ⟨_,rfl,.inl (renV hcs)⟩,.inr ⟨_,rfl,.inl rfl⟩,trivial⟩⟩
 rintro⟨⟨g,lo,hi⟩,h1,h2,h3,hx⟩ J hj
 simp only at hj h1 h2 h3 hx⊢
 cases g with
 |zero=>omega
 |succ g=>
 rw[schG]at hx
 refine Sm.go 110 ?_
 refine vv ?_
 have em:IntKind.i64.wrap ((IntKind.u64.wrap (IntKind.i64.wrap ((lo:Int)+(hi:Int)))).fdiv (2^min 1 64))=(((lo+hi)/2:Nat):Int):=by
  rw[w64 (show-9223372036854775808≤(lo:Int)+(hi:Int) by omega) (by omega)]
  have e1:IntKind.u64.wrap ((lo:Int)+(hi:Int))=(lo:Int)+(hi:Int):=wu64 (by omega) (by omega)
  rw[e1]
  show IntKind.i64.wrap (((lo:Int)+(hi:Int)).fdiv 2)=_
  rw[Int.fdiv_eq_ediv_of_nonneg _ (by omega),w64 (by omega) (by omega)]
  omega
 rw[em]
 refine mtch (fun hc=>?_) (fun hc=>?_)
 ·have hc:lo<hi:=lt_of_dec hc
  rw[decide_eq_true hc,cond_true]at hx
  have hmid:(lo+hi)/2<n:=by omega
  generalize hmm:(lo+hi)/2=mid at*
  refine CallQ.hr [(1,1),(2,2)] 120 (hp mid hmid) hH hM rfl rfl ⟨⟨_,rfl,.inl (renV hcs)⟩,⟨_,rfl,.inl rfl⟩,trivial⟩ rfl (.inr rfl) ?_
  simp only[Mem.ren,List.map_nil,V.ren,Cv.ren]
  cases hpm:p mid with
  |true=>
   rw[hpm,cond_true]at hx
   refine vv ?_
   exact hj _ _ ⟨(g,lo,mid),by simp only;omega,by simp only;omega,by simp only;omega,hx⟩ [(1,1),(2,2)] (by simp only;omega) ⟨rfl,⟨⟨rfl,rfl⟩,⟨rfl,rfl⟩,trivial⟩,⟨rfl,rfl,rfl,trivial⟩,⟨.inr ⟨_,rfl,.inl (renV hcs)⟩,.inr ⟨_,rfl,.inl rfl⟩,trivial⟩⟩
  |false=>
   rw[hpm,cond_false]at hx
   simp(maxSteps:=2000000) only[go_sem,wS (show mid≤1000000000000000000 by omega)]
   exact hj _ _ ⟨(g,mid+1,hi),by simp only;omega,by simp only;omega,by simp only;omega,hx⟩ [(1,1),(2,2)] (by simp only;omega) ⟨rfl,⟨⟨rfl,rfl⟩,⟨rfl,rfl⟩,trivial⟩,⟨rfl,rfl,rfl,trivial⟩,⟨.inr ⟨_,rfl,.inl (renV hcs)⟩,.inr ⟨_,rfl,.inl rfl⟩,trivial⟩⟩
 ·have hc:¬lo<hi:=by have:=of_decide_eq_false hc;omega
  rw[decide_eq_false hc,cond_false]at hx
  subst hx
  exact RetQ.of (hR C hL trivial) rfl scc rvv (SubS.sub ⟨⟨_,rfl,.inl rfl⟩,⟨_,rfl,.inl rfl⟩,trivial⟩) hM (ClV.of rfl)
theorem seg1_ {H:Hp}(c:CuL)(hc:c.ok H)(x:Int)(i:Nat)(hi:i<c.c.xs.length)(hx:c.c.xs.length≤1000000):CallX H Tryz.prog 290 [I i,.c (.p 1 0),.c (.p 2 0)] [(1,⟨true,cuV c,82⟩),(2,⟨true,[.v (.int .i64 x)],3⟩)] (fun _:Unit=>Bo (decide (x<c.c.xs.getD i 0))) (fun _=>[]) (fun _ _=>True):=by
 have hM:ClM [(1,⟨true,cuV c,82⟩),(2,⟨true,[.v (.int .i64 x)],3⟩)]:=ClM.of rfl
 have hil:(intsR c.c.xs).length=c.c.xs.length:=by simp[intsR]
 have hx0:(intsR c.c.xs).flatten[i]?=some (iv (c.c.xs.getD i 0)):=by
  have h1:=rowsC_get (k:=1) (intsR c.c.xs) (fun r hr=>by obtain⟨z,_,rfl⟩:=List.mem_map.1 hr;rfl) i 0 (by omega) (by omega)
  unfold rowsC at h1
  rw[List.getElem?_map,Nat.mul_one,Nat.add_zero]at h1
  have h2:(intsR c.c.xs)[i]'(by omega)=[iv c.c.xs[i]]:=by simp[intsR]
  rw[h2]at h1
  have h3:c.c.xs.getD i 0=c.c.xs[i]:=by rw[List.getD_eq_getElem?_getD,List.getElem?_eq_getElem hi];rfl
  rw[h3]
  cases hq:(intsR c.c.xs).flatten[i]? with
  |none=>rw[hq]at h1;cases h1
  |some z=>rw[hq]at h1;simpa using h1
 obtain⟨b0,o0,c0,hv0,cs,el,mk,hb0,hcc⟩:=hc.x.at (by intro h;rw[h]at hx0;cases hx0)
 rw[hil]at hv0
 have hcx:=hcc i _ hx0
 have hM2:cuV c=[.v (.slice (some ⟨b0,o0,none⟩) c.c.xs.length c0),.v (.slice c.y.o c.c.ys.length c.y.c)]:=by
  unfold cuV;rw[←hv0]
 rw[hM2]at hM⊢
 refine CallX.mkS Tryz.func290 rfl en290 (by simp[Tryz.ntmps290]) (ClA.of rfl) (fun _=>rfl) (fun _=>rfl) fun C hR hP hH hL=>?_
 refine Sm.go 100 ?_
 refine vv ?_
 refine Sm.dg 110 6 mix ?_
 refine vv ?_
 refine DOpQ.own 120 (Stp.idxV rfl rfl rfl sl33 (by omega) (by omega)) ?_
 simp(maxSteps:=2000000) only[go_sem,Nat.mul_one]
 refine DOpQ.ownC 120 (fun _=>StpC.ldH (hH _ _ hb0) hcx rfl rfl rfl) ?_
 refine vv ?_
 exact RetQ.of (hR () C hL trivial) rfl scc rvv (SubS.sub ⟨⟨_,rfl,.inl rfl⟩,⟨_,rfl,.inl rfl⟩,trivial⟩) hM (ClV.of rfl)
def segP (l:List Int)(x:Int)(i:Nat):Bool:=decide (x<l.getD i 0)
def segN (l:List Int)(x:Int):Nat:=schQ (segP l x) l.length
theorem segment_ {H:Hp}(c:CuL)(hc:c.ok H)(x:Int)(hx:c.c.xs.length≤1000000):CallH H Tryz.prog 280 [.agg (cuV c),I x] (I ((segN c.c.xs x:Int)-1)):=by
 have hle:segN c.c.xs x≤c.c.xs.length:=(schQ_ok _ _).1
 refine CallH.mkS Tryz.func280 rfl en280 (by simp[Tryz.ntmps280]) (ClA.of rfl) fun C hR hP hH hL=>?_
 refine Sm.go 100 ?_
 refine vv ?_
 refine CallQ.hr [(1,100),(2,101)] 120 (search_ c.c.xs.length hx 290 (cuV c) 82 rfl x (segP c.c.xs x) (fun i hi=>seg1_ c hc x i hi hx)) hH (ClM.of rfl) rfl rfl ⟨⟨_,rfl,.inr ⟨rfl,[],rfl⟩⟩,⟨_,rfl,.inr ⟨rfl,[],rfl⟩⟩,trivial⟩ rfl (.inr rfl) ?_
 simp only[Mem.ren,List.map_nil,V.ren,Cv.ren]
 refine vv ?_
 refine RetQ.int (hR C hL) rfl scc ?_
 show IntKind.i64.wrap ((segN c.c.xs x:Int)-1)=_
 rw[w64 (by omega) (by omega)]
theorem incB_get:∀(l:List Int),incB l=true→∀i,i+1<l.length→l.getD i 0<l.getD (i+1) 0
 |[],_,i,h=>by simp at h
 |[x],_,i,h=>by simp at h
 |x::y::l,hb,i,h=>by
  unfold incB at hb
  rw[Bool.and_eq_true,decide_eq_true_eq]at hb
  cases i with
  |zero=>exact hb.1
  |succ i=>
   have:=incB_get (y::l) hb.2 i (by simpa using h)
   simpa using this
theorem all_getD {p:Int→Bool}{l:List Int}(h:l.all p=true)(i:Nat)(hi:i<l.length):p (l.getD i 0)=true:=by
 rw[List.getD_eq_getElem?_getD,List.getElem?_eq_getElem hi]
 exact List.all_eq_true.1 h _ (List.getElem_mem hi)
theorem near_bd {n:Int}(h:nearB n=true): -1073741824≤n∧n≤1073741824:=of_decide_eq_true h
def itp (x0 x1 y0 y1 x:Int):Int:=y0+(x-x0)*(y1-y0)/(x1-x0)
def valQ (c:Cu)(x:Int):Int:=
 bif decide (x≤c.xs.getD 0 0)then c.ys.getD 0 0 else bif decide (c.xs.getD (c.xs.length-1) 0≤x)then c.ys.getD (c.xs.length-1) 0
 else itp (c.xs.getD (segN c.xs x-1) 0) (c.xs.getD (segN c.xs x) 0) (c.ys.getD (segN c.xs x-1) 0) (c.ys.getD (segN c.xs x) 0) x
structure CuOk (c:Cu):Prop where
 len:c.xs.length=c.ys.length
 two:2≤c.xs.length
 big:c.xs.length≤32
 x:c.xs.all nearB=true
 y:c.ys.all nearB=true
 inc:incB c.xs=true
theorem CuOk.of {c:Cu}(h:cuOk c.xs c.ys=true):CuOk c:=by
 unfold cuOk axOk at h
 simp only[Bool.and_eq_true,decide_eq_true_eq]at h
 exact⟨h.1,h.2.1.1.1,h.2.1.1.2,h.2.1.2.1,h.2.2,h.2.1.2.2⟩
theorem seg_in {l:List Int}{x:Int}(h2:2≤l.length)(h0:l.getD 0 0<x)(h1:x<l.getD (l.length-1) 0):1≤segN l x∧segN l x<l.length∧l.getD (segN l x-1) 0≤x∧x<l.getD (segN l x) 0:=by
 obtain⟨q1,q2,q3⟩:=schQ_ok (segP l x) l.length
 change segN l x≤l.length at q1
 change 0<segN l x→segP l x (segN l x-1)=false at q2
 change segN l x<l.length→segP l x (segN l x)=true at q3
 have n0:segN l x≠0:=fun hz=>by
  have:=q3 (by omega)
  rw[hz]at this
  have:=of_decide_eq_true this
  omega
 have n1:segN l x≠l.length:=fun hz=>by
  have:=q2 (by omega)
  rw[hz]at this
  have:=of_decide_eq_false this
  omega
 have a1:=of_decide_eq_false (q2 (by omega))
 have a2:=of_decide_eq_true (q3 (by omega))
 exact⟨by omega,by omega,by omega,a2⟩
theorem mul_bd2 {a b A B:Int}(h1:0≤a)(h2:a≤A)(h3: -B≤b)(h4:b≤B): -(A*B)≤a*b∧a*b≤A*B:=by
 have hB:0≤B:=by omega
 have k1:=Int.mul_le_mul_of_nonneg_left h4 h1
 have k2:=Int.mul_le_mul_of_nonneg_right h2 hB
 have k3:=Int.mul_le_mul_of_nonneg_left h3 h1
 have k4:a* -B= -(a*B):=Int.mul_neg ..
 omega
theorem itp_bd {x0 x1 y0 y1 x:Int}(h0:x0≤x)(h1:x<x1)(hx0: -1073741824≤x0)(hx1:x1≤1073741824)(hy0: -1073741824≤y0∧y0≤1073741824)(hy1: -1073741824≤y1∧y1≤1073741824):
  (-4611686018427387904≤(x-x0)*(y1-y0)∧(x-x0)*(y1-y0)≤4611686018427387904)∧ -2147483648≤(x-x0)*(y1-y0)/(x1-x0)∧(x-x0)*(y1-y0)/(x1-x0)≤2147483648:=by
 have k:=mul_bd2 (a:=x-x0) (b:=y1-y0) (A:=2147483648) (B:=2147483648) (by omega) (by omega) (by omega) (by omega)
 have k2:=mul_bd2 (a:=x-x0) (b:=y1-y0) (A:=x1-x0) (B:=2147483648) (by omega) (by omega) (by omega) (by omega)
 refine⟨⟨by omega,by omega⟩,?_,?_⟩
 ·rw[Int.le_ediv_iff_mul_le (by omega)]
  have:(-2147483648:Int)*(x1-x0)= -((x1-x0)*2147483648):=by rw[Int.neg_mul,Int.mul_comm]
  omega
 ·refine Int.ediv_le_of_le_mul (by omega) ?_
  have:(2147483648:Int)*(x1-x0)=(x1-x0)*2147483648:=Int.mul_comm ..
  omega
theorem value_ {H:Hp}(c:CuL)(hc:c.ok H)(k:CuOk c.c)(x:Int):CallH H Tryz.prog 261 [.agg (cuV c),I x] (I (valQ c.c x)):=by
 have k1:=k.len
 have k2:=k.two
 have k3:=k.big
 have hil:(intsR c.c.xs).length=c.c.xs.length:=by simp[intsR]
 have hiy:(intsR c.c.ys).length=c.c.ys.length:=by simp[intsR]
 have e1:((c.c.xs.length:Int)-1)=((c.c.xs.length-1:Nat):Int):=by omega
 have ew:IntKind.i64.wrap ((c.c.xs.length:Int)-1)=((c.c.xs.length-1:Nat):Int):=by rw[w64 (by omega) (by omega)];exact e1
 refine CallH.mkS Tryz.func261 rfl en261 (by simp[Tryz.ntmps261]) (ClA.of rfl) fun C hR hP hH hL=>?_
 refine Sm.go 100 ?_
 refine vv ?_
 refine Sm.bringI 5 3 13 (hc.x.mono hH) rfl rfl (Sm.go 110 ?_)
 simp(maxSteps:=2000000) only[go_sem,get_iD (show 0<c.c.xs.length by omega),Int.toNat_zero]
 refine⟨by omega,?_⟩
 refine mtch (fun h0=>?_) (fun h0=>?_)
 ·refine Sm.bringI 6 3 18 (hc.y.mono hH) rfl rfl (Sm.go 110 ?_)
  simp(maxSteps:=2000000) only[go_sem,get_iD (show 0<c.c.ys.length by omega),Int.toNat_zero]
  refine⟨by omega,?_⟩
  refine RetQ.int (hR C hL) rfl scc ?_
  unfold valQ;rw[h0];rfl
 ·refine Sm.bringI 6 3 24 (hc.x.mono hH) rfl rfl (Sm.go 110 ?_)
  simp(maxSteps:=2000000) only[go_sem,ew,get_iD (show c.c.xs.length-1<c.c.xs.length by omega)]
  refine⟨⟨by omega,by omega⟩,?_⟩
  refine mtch (fun h1=>?_) (fun h1=>?_)
  ·refine Sm.bringI 7 3 31 (hc.y.mono hH) rfl rfl (Sm.go 110 ?_)
   simp(maxSteps:=2000000) only[go_sem,ew,get_iD (show c.c.xs.length-1<c.c.ys.length by omega)]
   refine⟨⟨by omega,by omega⟩,?_⟩
   refine RetQ.int (hR C hL) rfl scc ?_
   unfold valQ;rw[h0,h1];rfl
  ·have h0':=of_decide_eq_false h0
   have h1':=of_decide_eq_false h1
   have hs:=seg_in (l:=c.c.xs) (x:=x) k2 (by omega) (by omega)
   obtain⟨s1,s2,s3,s4⟩:=hs
   have hv:valQ c.c x=itp (c.c.xs.getD (segN c.c.xs x-1) 0) (c.c.xs.getD (segN c.c.xs x) 0) (c.c.ys.getD (segN c.c.xs x-1) 0) (c.c.ys.getD (segN c.c.xs x) 0) x:=by
    unfold valQ;rw[h0,h1];rfl
   rw[hv]at hR
   have hsc:=segment_ c hc x (by omega)
   have b0:=near_bd (all_getD k.x (segN c.c.xs x-1) (by omega))
   have b1:=near_bd (all_getD k.x (segN c.c.xs x) (by omega))
   have b2:=near_bd (all_getD k.y (segN c.c.xs x-1) (by omega))
   have b3:=near_bd (all_getD k.y (segN c.c.xs x) (by omega))
   generalize segN c.c.xs x=s at*
   have es:((s:Int)-1)=((s-1:Nat):Int):=by omega
   rw[es]at hsc
   obtain⟨m1,m2,m3⟩:=itp_bd s3 s4 b0.1 b1.2 b2 b3
   refine CallQ.h 120 hsc hH rfl ?_
   refine vv ?_
   refine Sm.bringC 8 3 100 0 (hc.x.mono hH) rfl rfl rfl ?_
   refine Sm.bringC 9 3 100 1 (hc.y.mono hH) rfl rfl rfl ?_
   rw[hil,hiy,intsC,intsC]
   refine Sm.dg 120 38 mix ?_
   have gx0:=get_iD (l:=c.c.xs) (show s-1<c.c.xs.length by omega)
   have gx1:=get_iD (l:=c.c.xs) (show s<c.c.xs.length by omega)
   have gy0:=get_iD (l:=c.c.ys) (show s-1<c.c.ys.length by omega)
   have gy1:=get_iD (l:=c.c.ys) (show s<c.c.ys.length by omega)
   have es2:IntKind.i64.wrap (((s-1:Nat):Int)+1)=(s:Int):=by rw[w64 (by omega) (by omega)];omega
   have wx:IntKind.i64.wrap (x-c.c.xs.getD (s-1) 0)=x-c.c.xs.getD (s-1) 0:=w64 (by omega) (by omega)
   have wy:IntKind.i64.wrap (c.c.ys.getD s 0-c.c.ys.getD (s-1) 0)=c.c.ys.getD s 0-c.c.ys.getD (s-1) 0:=w64 (by omega) (by omega)
   have wd:IntKind.i64.wrap (c.c.xs.getD s 0-c.c.xs.getD (s-1) 0)=c.c.xs.getD s 0-c.c.xs.getD (s-1) 0:=w64 (by omega) (by omega)
   have wp:IntKind.i64.wrap ((x-c.c.xs.getD (s-1) 0)*(c.c.ys.getD s 0-c.c.ys.getD (s-1) 0))=(x-c.c.xs.getD (s-1) 0)*(c.c.ys.getD s 0-c.c.ys.getD (s-1) 0):=w64 (by omega) (by omega)
   simp(maxSteps:=2000000) only[go_sem,gx0,gx1,gy0,gy1,es2,wx,wy,wd,wp]
   refine⟨⟨by omega,by omega⟩,⟨by omega,by omega⟩,⟨by omega,by omega⟩,⟨by omega,by omega⟩,⟨by omega,by omega⟩,⟨by omega,by omega⟩,?_⟩
   refine DCallQ.pure 130 (floor_ _ _ m1.1 m1.2 (by omega) (by omega)) rfl ?_
   refine vv ?_
   refine RetQ.int (hR C hL) rfl scc ?_
   unfold itp
   exact w64 (by omega) (by omega)
end Go.Proofs.YtkciabfilokfiaaGreat.Fx
