/-  -/
import Derived.Test.YtlnpgbnhcondjaaGreatDoorTf
import Derived.Test.YtlnpgbnhcondjaaGreatDoorRD
import Derived.Lib.AppendZeros
import Derived.Test.YtlnpgbnhcondjaaGreatDoorQ3
import Derived.Test.YtlnpgbnhcondjaaGreatDoorU6
namespace Go.Proofs.YtlnpgbnhcondjaaGreatDoor.Fx
open Vg Tf
set_option linter.unusedSimpArgs false
set_option linter.unusedVariables false
set_option maxRecDepth 100000
set_option maxHeartbeats 4000000
theorem _root_.Go.Proofs.YtlnpgbnhcondjaaGreatDoor.Vg.Rel.bring {C:Cx}{M:Mem}{l:Vg.Loc}{cs:List Value}{β:Vl}{w:World}(nm:Nat)(el:TypeId)(h:LcH C.hp l cs)(hn:M.get nm=none)(h1:Rel C.S C.w0 β M w):Rel C.S C.w0 (fun k=>if k=nm then l else β k) ((nm,⟨true,cs.map .v,el⟩)::M) w:=by
 have hne:∀k b,M.get k=some b→k≠nm:=by rintro k b hk rfl;rw[hn]at hk;cases hk
 have hcells:∀β:Vl,(cs.map Cv.v).map (Cv.g β)=cs:=fun β=>by
  rw[List.map_map];conv=>rhs;rw[←List.map_id cs]
  exact List.map_congr_left fun _ _=>rfl
 have hag0:∀β',Agree ((nm,⟨true,cs.map .v,el⟩)::M) (fun k=>if k=nm then l else β k) β'→Agree M β β'∧β' nm=l:=fun β' hag=>by
  refine⟨fun j hj=>?_,by have:=hag nm (by rw[Mem.get_cons];simp);simpa using this⟩
  obtain⟨c,hc⟩:=Option.isSome_iff_exists.1 hj
  rw[hag j (by rw[Mem.get_cons];split<;>simp_all)]
  exact if_neg (hne j c hc)
 refine⟨h1.fr,⟨fun β' hag k b hb=>?_,fun k b hb hu=>?_,fun k m b b' hb hb' hkm hr hlv hu hu'=>?_⟩,fun k b hb hr hu hS=>?_,fun k q hq=>?_⟩
 ·obtain⟨g1,g2⟩:=hag0 β' hag
  rw[Mem.get_cons]at hb
  split at hb
  ·rename_i hk
   simp at hb;subst hb hk
   unfold BkOk
   rw[g2,hcells]
   cases hu:l.nul with
   |true=>simp only[if_true];rw[h.1 hu];exact⟨rfl,fun h=>by cases h⟩
   |false=>
    simp only[Bool.false_eq_true,if_false,if_true]
    obtain⟨c,el',mk,q1,q2⟩:=h.2.2 hu
    refine⟨fun j v hj=>?_,by simpa using h.2.1⟩
    simp[World.cell?,Cx.hp_now h1 q1,q2 j v hj]
  ·exact h1.mem.ok β' g1 k b hb
 ·rw[Mem.get_cons]at hb
  split at hb
  ·rename_i hk
   simp only[if_pos hk]at hu⊢
   obtain⟨c,el',mk,q1,q2⟩:=h.2.2 hu
   exact Nat.lt_of_lt_of_le (C.hp_lt q1) h1.fr.size
  ·rename_i hk;simp only[if_neg hk]at hu⊢;exact h1.mem.there k b hb hu
 ·rw[Mem.get_cons]at hb hb'
  split at hb
  ·simp at hb;subst hb;cases hr
  ·rename_i hk
   split at hb'
   ·rename_i hk'
    simp only[if_neg hk,if_pos hk']at hu hu'⊢
    obtain⟨c,el',mk,q1,q2⟩:=h.2.2 hu'
    exact fun hh=>Cx.hp_wrt h1 q1 ⟨k,b,hb,hr,hu,hh.symm⟩
   ·rename_i hk'
    simp only[if_neg hk,if_neg hk']at hu hu'⊢
    exact h1.mem.apart k m b b' hb hb' hkm hr hlv hu hu'
 ·rw[Mem.get_cons]at hb
  split at hb
  ·simp at hb;subst hb;cases hr
  ·rename_i hk;simp only[if_neg hk]at hu hS⊢;exact h1.own k b hb hr hu hS
 ·obtain⟨p1,p2⟩:=h1.pin k q hq
  have hkn:k≠nm:=by rintro rfl;rw[hn]at p1;cases p1
  exact⟨by rw[Mem.get_cons,if_neg hkn];exact p1,by simp only[if_neg hkn];exact p2⟩
theorem _root_.Go.Proofs.YtlnpgbnhcondjaaGreatDoor.Vg.Sm.bringC {P:Program}{nt:Nat}{C:Cx}{todo:List It}{e:Env}{M:Mem}{v:Value}{sz:Nat}{rows:List (List Value)}(nm:Nat)(el:TypeId)(n i:Nat){b:Bk}(h:SlH C.hp v sz rows)(hn:M.get nm=none)(hb:M.get n=some b)(hi:b.cells[i]?=some (.v v))
  (k:Sm P nt C todo e ((n,⟨b.ro,b.cells.set i (.sl nm 0 rows.length sz),b.elem⟩)::(nm,⟨true,rowsC rows,el⟩)::M)):Sm P nt C todo e M:=fun β a w h1 h2 h3 h4=>by
 obtain⟨l,q1,q2,q3⟩:=h
 have r0:=h1.bring nm el q3 hn
 have hne:¬n=nm:=fun hh=>by subst hh;rw[hn]at hb;cases hb
 have hbm:Mem.get ((nm,(⟨true,rows.flatten.map .v,el⟩:Bk))::M) n=some b:=by rw[Mem.get_cons,if_neg hne];exact hb
 have r:=r0.eqc (cs:=b.cells.set i (.sl nm 0 rows.length sz)) hbm (fun β' hag=>by
  have hnu:=hag nm (by rw[Mem.get_cons,if_pos rfl];rfl)
  simp only[if_true]at hnu
  have e1:(Cv.sl nm 0 rows.length sz).g β'=v:=by rw[q1,slg hnu]
  rw[List.map_set,e1]
  refine List.ext_getElem? fun k=>?_
  rw[List.getElem?_set]
  split
  ·rename_i hk
   subst hk
   have hlt:=(List.getElem?_eq_some_iff.1 hi).1
   rw[if_pos (by simpa using hlt),List.getElem?_map,hi];rfl
  ·rfl)
 refine k _ a w r (h2.on fun k hk=>?_) h3 h4
 obtain⟨c,hc⟩:=Option.isSome_iff_exists.1 hk
 have hkn:¬k=nm:=fun hh=>by subst hh;rw[hn]at hc;cases hc
 refine⟨?_,if_neg hkn⟩
 rw[Mem.get_cons]
 split
 ·rfl
 ·rw[Mem.get_cons,if_neg hkn];exact hk
def nb (n:Int):Prop:= -1073741824≤n∧n≤1073741824
def mxG:Int→List Int→Int
 |a,[]=>a
 |a,x::l=>mxG (max a x) l
theorem zget {v:Sv}{zs:List (Sv×List Int)}{i:Nat}(h:i<zs.length):(rowsC (zs.map zR))[i]?=some (.v (.slice zs[i].1.o zs[i].2.length zs[i].1.c)):=zr_get (m:=⟨[],[],[],zs,v,v,v⟩) h
theorem rows_fld {α:Type}{r:α→List Value}{k:Nat}(hk:∀x,(r x).length=k)(l:List α)(i j m:Nat)(h:i<l.length)(hm:j+m≤k):((rowsC (l.map r)).drop (i*k+j)).take m=(((r l[i]).drop j).take m).map Cv.v:=by
 have h1:=rows_take hk l i h
 have e:((rowsC (l.map r)).drop (i*k+j)).take m=((((rowsC (l.map r)).drop (i*k)).take k).drop j).take m:=by rw[List.drop_take,List.take_take,Nat.min_eq_left (by omega),List.drop_drop]
 rw[e,h1,List.map_take,List.map_drop]
theorem rows_one {α:Type}{r:α→List Value}{k:Nat}(hk:∀x,(r x).length=k)(l:List α)(i j:Nat)(h:i<l.length)(hj:j<k):(rowsC (l.map r))[i*k+j]?=((r l[i])[j]?).map Cv.v:=by
 have h1:=rows_take hk l i h
 have:(rowsC (l.map r))[i*k+j]?=(((rowsC (l.map r)).drop (i*k)).take k)[j]?:=by rw[List.getElem?_take_of_lt hj,List.getElem?_drop]
 rw[this,h1,List.getElem?_map]
@[reducible,go_sem] def dvs (d:DgL):List Cv:=[.v (sv d.nm),.v (vsl d.ty d.tys.length),.v (vsl d.cu d.cus.length),.v (vsl d.ma d.mas.length),.sl 4 0 d.ins.length 4,.sl 5 0 d.bls.length 6,.v (vsl d.ou d.ous.length)]
@[reducible,go_sem] def dmm (d:DgL):Mem:=[(4,⟨true,rowsC (d.ins.map Po.r),118⟩),(5,⟨true,rowsC (d.bls.map BlL.r),82⟩)]
def fndQ (l:List Str)(s:Str):Int:=match idxS s l 0 with
 |some i=>(i:Int)
 |none=> -1
theorem _root_.Go.Proofs.YtlnpgbnhcondjaaGreatDoor.Vg.Stp.mkF {P:Program}{o:Oper}{e:Env}{M:Mem}{f:FuncId}{x:Operand}{v:Value}(ho:o.op= .makeFunc (.func f) #[] #[x])(hx:rd e x=some (true,.c (.v v))):Stp P o e M (Fv f #[v]) []:=
 Stp.pure fun β a hop w=>by
  have hex:=hop x (by simp[ho,Op.operands]) _ hx
  simp only[gv,V.g,Cv.g,cond_true]at hex
  unfold execOp
  simp[ho,hex,Instr.makeFunc,V.g,Cv.g]
theorem fnd1_ {H:Hp}(x:Po)(s:Str)(pv:Value)(hpv:PtH H pv [sv s]):CallH H Tryz.prog 88 [rowV x.r,.c (.v pv)] (Bo (x.nm==s)):=by
 refine CallH.mkS Tryz.func88 rfl en88 (by simp[Tryz.ntmps88]) (ClA.of rfl) fun C hR hP hH hL=>?_
 refine Sm.bringP 1 9 1 (hpv.mono hH) rfl rfl (Sm.go 100 ?_)
 refine vv ?_
 exact RetQ.bool (hR C hL) rfl ⟨rfl,trivial⟩ rfl
theorem fnd2_ {H:Hp}(x:BlL)(s:Str)(pv:Value)(hpv:PtH H pv [sv s]):CallH H Tryz.prog 90 [rowV x.r,.c (.v pv)] (Bo (x.c.nm==s)):=by
 refine CallH.mkS Tryz.func90 rfl en90 (by simp[Tryz.ntmps90]) (ClA.of rfl) fun C hR hP hH hL=>?_
 refine Sm.bringP 1 9 1 (hpv.mono hH) rfl rfl (Sm.go 100 ?_)
 refine vv ?_
 exact RetQ.bool (hR C hL) rfl ⟨rfl,trivial⟩ rfl
def oX (o:Option Nat):Int:=match o with
 |some j=>(j:Int)
 |none=> -1
theorem ix_idx {α:Type}(nm:α→Str)(s:Str):∀(l:List α) (k:Nat),ixF (fun x=>nm x==s) l k=oX (idxS s (l.map nm) k)
 |[],_=>rfl
 |x::l,k=>by
  have ih:=ix_idx nm s l (k+1)
  rw[ixF,List.map_cons,idxS]
  by_cases h:nm x=s
  ·rw[if_pos h,h,beq_self_eq_true];rfl
  ·rw[if_neg h,beq_eq_false_iff_ne.2 h,cond_false,←ih];rfl
theorem idxS_app (s:Str):∀(a b:List Str) (k:Nat),idxS s (a++b) k=match idxS s a k with
  |some i=>some i
  |none=>idxS s b (k+a.length)
 |[],b,k=>by simp[idxS]
 |x::a,b,k=>by
  rw[List.cons_append,idxS,idxS]
  by_cases h:x=s
  ·rw[if_pos h,if_pos h]
  ·rw[if_neg h,if_neg h,idxS_app s a b (k+1),List.length_cons,Nat.add_right_comm,Nat.add_assoc]
theorem idxS_shift (s:Str):∀(l:List Str) (k m:Nat),idxS s l (k+m)=(idxS s l k).map (· +m)
 |[],_,_=>rfl
 |x::l,k,m=>by
  rw[idxS,idxS]
  by_cases h:x=s
  ·rw[if_pos h,if_pos h];rfl
  ·rw[if_neg h,if_neg h,Nat.add_right_comm,idxS_shift s l (k+1) m]
theorem fnd_split (d:DgL)(s:Str):fndQ (sigs d.c) s=bif decide (0≤ixF (fun x:Po=>x.nm==s) d.ins 0)then ixF (fun x:Po=>x.nm==s) d.ins 0 else bif decide (0≤ixF (fun x:BlL=>x.c.nm==s) d.bls 0)then(d.ins.length:Int)+ixF (fun x:BlL=>x.c.nm==s) d.bls 0 else-1:=by
 have e1:=ix_idx (fun x:Po=>x.nm) s d.ins 0
 have e2:=ix_idx (fun x:BlL=>x.c.nm) s d.bls 0
 simp only[Int.ofNat_zero,Int.natCast_zero]at e1 e2
 rw[e1,e2]
 have es:sigs d.c=d.ins.map (·.nm)++d.bls.map (fun x=>x.c.nm):=by unfold sigs;simp[DgL.c]
 unfold fndQ
 rw[es,idxS_app,List.length_map,idxS_shift]
 cases idxS s (d.ins.map (·.nm)) 0 with
 |some i=>
  show(i:Int)=bif decide (0≤(i:Int))then(i:Int)else _
  rw[decide_eq_true (by omega)];rfl
 |none=>
  cases idxS s (d.bls.map (fun x=>x.c.nm)) 0 with
  |some j=>
   show((j+d.ins.length:Nat):Int)=bif decide (0≤(-1:Int))then(-1:Int)else bif decide (0≤(j:Int))then(d.ins.length:Int)+(j:Int)else-1
   rw[decide_eq_true (show(0:Int)≤(j:Int) by omega)]
   show((j+d.ins.length:Nat):Int)=(d.ins.length:Int)+(j:Int)
   omega
  |none=>rfl
theorem ixF_lt {α:Type}(p:α→Bool):∀(l:List α) (k:Int),0≤k→ixF p l k≤k+l.length∧ -1≤ixF p l k
 |[],k,h=>by simp[ixF];omega
 |x::l,k,h=>by
  have ih:=ixF_lt p l (k+1) (by omega)
  rw[ixF]
  cases p x with
  |true=>simp only[cond_true,List.length_cons];omega
  |false=>simp only[cond_false,List.length_cons];omega
theorem pfind_ {H:Hp}(d:DgL)(hd:d.ok H)(s:Str)(h1:d.ins.length≤1000000000000000)(h2:d.bls.length≤1000000000000000):CallH H Tryz.prog 32 [rowV d.r,S s] (I (fndQ (sigs d.c) s)):=by
 have hsp:=fnd_split d s
 have b1:=ixF_lt (fun x:Po=>x.nm==s) d.ins 0 (by omega)
 have b2:=ixF_lt (fun x:BlL=>x.c.nm==s) d.bls 0 (by omega)
 refine CallH.mkS Tryz.func32 rfl en32 (by simp[Tryz.ntmps32]) (ClA.of rfl) fun C hR hP hH hL=>?_
 refine Sm.go 100 ?_
 refine vv ?_
 refine CallQ.letgo (xs:=[_,_]) [101] hL hP rfl rfl rfl en87 rfl rfl (fun β Cn l1 l2 l3=>?_)
 have hpt:=(l3 101 _ rfl rfl rfl).pt (by simp)
 refine CallW.h 110 l1 (ixfPo _ d.ins ((hd.mono hH).i.mono l2) (by omega) 88 #[ptr β 101 0] (fun x=>x.nm==s) (fun x hx=>fnd1_ x s _ hpt)) (Hp.le.refl _) rfl (fun Cm m1 m2=>?_)
 generalize ixF (fun x:Po=>x.nm==s) d.ins 0=i1 at*
 refine vv ?_
 refine mtch (fun hc=>?_) (fun hc=>?_)
 ·refine RetQ.of (hR Cm m1) rfl scc ?_ (Sub.nil _) ClM.nil (ClV.of rfl)
  rw[hsp,hc];rfl
 refine Sm.opq rfl rfl ⟨[],_,fun _=>Stp.mkF rfl rfl,.inl rfl,Sm.go 120 ?_⟩
 refine vv ?_
 refine CallQ.h 130 (ixfBl _ d.bls ((hd.mono hH).bl.mono (l2.trans m2)) (by omega) 90 #[ptr β 101 0] (fun x=>x.c.nm==s) (fun x hx=>fnd2_ x s _ (hpt.mono m2))) (Hp.le.refl _) rfl ?_
 generalize ixF (fun x:BlL=>x.c.nm==s) d.bls 0=i2 at*
 rw[hc,cond_false]at hsp
 have w3:IntKind.i64.wrap ((d.ins.length:Int)+i2)=(d.ins.length:Int)+i2:=by rw[w64 (by omega) (by omega)]
 simp(maxSteps:=2000000) only[go_sem,w3]
 refine mtch (fun hc=>?_) (fun hc=>?_)
 ·refine RetQ.of (hR Cm m1) rfl scc ?_ (Sub.nil _) ClM.nil (ClV.of rfl)
  rw[hsp,hc];rfl
 ·refine RetQ.of (hR Cm m1) rfl scc ?_ (Sub.nil _) ClM.nil (ClV.of rfl)
  rw[hsp,hc];rfl
def STk (T:List Tk):Prop:=(T.map fun t=>t.s.length).sum≤100000
theorem sum_drop {T:List Tk}{i:Nat}(h:i<T.length):((T.drop i).map fun t=>t.s.length).sum=(T.getD i tk0).s.length+((T.drop (i+1)).map fun t=>t.s.length).sum:=by
 rw[List.drop_eq_getElem_cons h,List.getD_eq_getElem?_getD,List.getElem?_eq_getElem h];rfl
theorem sum_mem:∀(T:List Tk) (i:Nat),(T.getD i tk0).s.length≤(T.map fun t=>t.s.length).sum
 |[],i=>by simp[tk0]
 |t::T,0=>by simp
 |t::T,i+1=>by have:=sum_mem T i;simp only[List.getD_cons_succ,List.map_cons,List.sum_cons];omega
theorem STk.here {T:List Tk}(h:STk T)(p:Ps):(hereP T p).s.length≤100000:=Nat.le_trans (sum_mem T p.at_) h
@[reducible,go_sem] def pD (T:List Tk)(p:Ps)(cs:List Cv)(ty:TypeId):Mem:=[(1,⟨false,psC T p,96⟩),(3,⟨false,cs,ty⟩),(2,⟨true,rowsC (T.map Tk.r),57⟩)]
theorem pD_cl (T:List Tk)(p:Ps){cs:List Cv}(hv:cs.all Cv.isV=true)(ty:TypeId):ClM (pD T p cs ty):=ClM.of (by simp only[List.all_cons,inMV (rowsC_isV _),inMV hv];rfl)
theorem get_sh2 {n m:Nat}{b b' c c':Bk}{r:Mem}(k:Nat):Mem.get ((n,b)::(m,c)::(n,b')::(m,c')::r) k=Mem.get ((n,b)::(m,c)::r) k:=by
 simp only[Mem.get_cons]
 by_cases h1:k=n
 ·simp[h1]
 ·by_cases h2:k=m<;>simp[h1,h2]
theorem sub_sh2 {n m:Nat}{b b' c c':Bk}{r M:Mem}(h:Sub ((n,b)::(m,c)::r) M):Sub ((n,b)::(m,c)::(n,b')::(m,c')::r) M:=fun k x hk=>h k x (by rw[←get_sh2 (b':=b') (c':=c')];exact hk)
theorem clm_sh2 {n m:Nat}{b b' c c':Bk}{r:Mem}(h:ClM ((n,b)::(m,c)::r)):ClM ((n,b)::(m,c)::(n,b')::(m,c')::r):=fun β β' hag k x hk=>
 h β β' (fun k hn=>hag k (by rw[get_sh2];exact hn)) k x (by rw[←get_sh2 (b':=b') (c':=c')];exact hk)
theorem name_ (T:List Tk)(hT:T.length≤100000)(sT:STk T)(p:Ps)(h:p.at_<T.length)(cs:List Cv)(hv:cs.all Cv.isV=true)(off:Nat)(ho:off<cs.length)(ty:TypeId):
  CallOk Tryz.prog 149 [.c (.p 1 0),.c (.p 3 off)] (pD T p cs ty) (Bo (namP T p).1.isSome) ((1,⟨false,psC T (namP T p).2,96⟩)::(match (namP T p).1 with|some s=>[(3,⟨false,cs.set off (sC s),ty⟩)]|none=>[])):=by
 have hM:=pM_cl T p
 have hM2:=pM_cl T (namP T p).2
 have hD:=pD_cl T p hv ty
 have hh:=here_ T hT p h
 have hw:=wrong_ T hT p h
 have hnm:=name_ok (hereP T p).s (by have:=sT.here p;omega)
 have e1:((hereP T p).k==1)=(((hereP T p).k:Int)==1):=(kB _ 1).symm
 unfold namP at hM2⊢
 rw[e1]at hM2⊢
 cases hk:((hereP T p).k:Int)==1 with
 |false=>
  rw[hk]at hM2
  simp only[Bool.false_and,cond_false,Option.isSome_none]at hM2⊢
  have hD2:=pD_cl T (wrnP T p) hv ty
  refine CallOk.mkN 100 Tryz.func149 rfl en149 (by simp[Tryz.ntmps149]) (ClA.of rfl) rfl rfl fun C hR hP=>?_
  refine vv ?_
  refine CallQ.mi 100 hh hM ⟨oS,oS,trivial⟩ ?_
  simp(maxSteps:=2000000) only[go_sem,hk,bne]
  refine CallQ.guard 110 (fun _=>hnm) (fun h=>by cases h) ?_
  simp(maxSteps:=2000000) only[go_sem,hk,bne]
  refine CallQ.mi 110 hw hM ⟨oS,oS,trivial⟩ ?_
  refine vv ?_
  exact RetQ.of hR rfl scc rvv (sub_sh (SubS.sub ⟨oS,oS,oS,trivial⟩)) (clm_sh hD2) (ClV.of rfl)
 |true=>
  cases hn:nmOk (hereP T p).s with
  |false=>
   rw[hk,hn]at hM2
   simp only[Bool.and_false,cond_false,Option.isSome_none]at hM2⊢
   have hD2:=pD_cl T (wrnP T p) hv ty
   rw[hn]at hnm
   refine CallOk.mkN 100 Tryz.func149 rfl en149 (by simp[Tryz.ntmps149]) (ClA.of rfl) rfl rfl fun C hR hP=>?_
   refine vv ?_
   refine CallQ.mi 100 hh hM ⟨oS,oS,trivial⟩ ?_
   simp(maxSteps:=2000000) only[go_sem,hk,bne]
   refine CallQ.guard 110 (fun _=>hnm) (fun h=>by rw[h];rfl) ?_
   simp(maxSteps:=2000000) only[go_sem,hk,bne]
   refine CallQ.mi 100 hw hM ⟨oS,oS,trivial⟩ ?_
   refine vv ?_
   exact RetQ.of hR rfl scc rvv (sub_sh (SubS.sub ⟨oS,oS,oS,trivial⟩)) (clm_sh hD2) (ClV.of rfl)
  |true=>
   rw[hk,hn]at hM2
   simp only[Bool.and_true,cond_true,Option.isSome_some]at hM2⊢
   rw[hn]at hnm
   have hD2:=pD_cl T (advP p) (setV (i:=off) (v:= .string ⟨(hereP T p).s.toArray⟩) hv) ty
   refine CallOk.mkN 100 Tryz.func149 rfl en149 (by simp[Tryz.ntmps149]) (ClA.of rfl) rfl rfl fun C hR hP=>?_
   refine vv ?_
   refine CallQ.mi 100 hh hM ⟨oS,oS,trivial⟩ ?_
   simp(maxSteps:=2000000) only[go_sem,hk,bne]
   refine CallQ.guard 110 (fun _=>hnm) (fun h=>by rw[h];rfl) ?_
   simp(maxSteps:=2000000) only[go_sem,hk,bne]
   refine CallQ.mi 120 hh hM ⟨oS,oS,trivial⟩ ?_
   simp(maxSteps:=2000000) only[go_sem,ho,aP hT h]
   exact⟨ho,RetQ.of hR rfl scc rvv (sub_sh2 (SubS.sub ⟨oS,oS,oS,trivial⟩)) (clm_sh2 hD2) (ClV.of rfl)⟩
theorem integer_ (T:List Tk)(hT:T.length≤100000)(p:Ps)(h:p.at_<T.length)(hN:(hereP T p).k=2→CallOk Tryz.prog 266 [S (hereP T p).s] [] (.tup [Wi (nmbQ (hereP T p).s).1,Wi (nmbQ (hereP T p).s).2]) [])(cs:List Cv)(hv:cs.all Cv.isV=true)(off:Nat)(ho:off<cs.length)(ty:TypeId):
  CallOk Tryz.prog 231 [.c (.p 1 0),.c (.p 3 off)] (pD T p cs ty) (Bo (intP T p).1.isSome) ((1,⟨false,psC T (intP T p).2,96⟩)::(match (intP T p).1 with|some s=>[(3,⟨false,cs.set off (.v (.int .i64 s)),ty⟩)]|none=>[])):=by
 have hM:=pM_cl T p
 have hM2:=pM_cl T (intP T p).2
 have hD:=pD_cl T p hv ty
 have hh:=here_ T hT p h
 have hw:=wrong_ T hT p h
 have e1:((hereP T p).k==2)=(((hereP T p).k:Int)==2):=(kB _ 2).symm
 unfold intP at hM2⊢
 rw[e1]at hM2⊢
 cases hk:((hereP T p).k:Int)==2 with
 |false=>
  rw[hk]at hM2
  simp only[cond_false,Option.isSome_none]at hM2⊢
  have hD2:=pD_cl T (wrnP T p) hv ty
  refine CallOk.mkN 100 Tryz.func231 rfl en231 (by simp[Tryz.ntmps231]) (ClA.of rfl) rfl rfl fun C hR hP=>?_
  refine vv ?_
  refine CallQ.mi 100 hh hM ⟨oS,oS,trivial⟩ ?_
  simp(maxSteps:=2000000) only[go_sem,hk,bne]
  refine CallQ.mi 110 hw hM ⟨oS,oS,trivial⟩ ?_
  refine vv ?_
  exact RetQ.of hR rfl scc rvv (sub_sh (SubS.sub ⟨oS,oS,oS,trivial⟩)) (clm_sh hD2) (ClV.of rfl)
 |true=>
  rw[hk]at hM2
  simp only[cond_true,Option.isSome_some]at hM2⊢
  have hN:=hN (by have:=eq_of_beq hk;omega)
  have hD2:=pD_cl T (advP p) (setV (i:=off) (v:= .int .i64 (nmbQ (hereP T p).s).1) hv) ty
  refine CallOk.mkN 100 Tryz.func231 rfl en231 (by simp[Tryz.ntmps231]) (ClA.of rfl) rfl rfl fun C hR hP=>?_
  refine vv ?_
  refine CallQ.mi 100 hh hM ⟨oS,oS,trivial⟩ ?_
  simp(maxSteps:=2000000) only[go_sem,hk,bne]
  refine CallQ.mi 120 hh hM ⟨oS,oS,trivial⟩ ?_
  simp(maxSteps:=2000000) only[go_sem,ho]
  refine CallQ.pure 130 hN rfl ?_
  simp(maxSteps:=2000000) only[go_sem,ho,aP hT h]
  exact⟨ho,RetQ.of hR rfl scc rvv (sub_sh2 (SubS.sub ⟨oS,oS,oS,trivial⟩)) (clm_sh2 hD2) (ClV.of rfl)⟩
def rdR (f:List UInt8):Nat×Nat×Bool:=match readF f with
 |none=>(0,0,false)
 |some (i,n)=>(i,n,true)
theorem rd5 (nm:List UInt8)(n:Nat):(match Option.map (fun i=>(i,n)) (ixU nm symT 0)with
  |none=>(0,0,false)
  |some (i,n)=>(i,n,true))=bif [109]==nm then(0,n,true)else bif [107,103]==nm then(1,n,true)else bif [115]==nm then(2,n,true)else bif [65]==nm then(3,n,true)else bif [75]==nm then(4,n,true)else((0,0,false):Nat×Nat×Bool):=by
 unfold symT
 simp only[ixU]
 by_cases h0:[109]=nm
 ·subst h0;rfl
 by_cases h1:[107,103]=nm
 ·subst h1;rfl
 by_cases h2:[115]=nm
 ·subst h2;rfl
 by_cases h3:[65]=nm
 ·subst h3;rfl
 by_cases h4:[75]=nm
 ·subst h4;rfl
 rw[beq_eq_false_iff_ne.2 h0,beq_eq_false_iff_ne.2 h1,beq_eq_false_iff_ne.2 h2,beq_eq_false_iff_ne.2 h3,beq_eq_false_iff_ne.2 h4]
 simp only[if_neg h0,if_neg h1,if_neg h2,if_neg h3,if_neg h4]
 rfl
theorem sg0:(symT.map cs1)[0]?=some (cs1 [109]):=rfl
theorem sg1:(symT.map cs1)[1]?=some (cs1 [107,103]):=rfl
theorem sg2:(symT.map cs1)[2]?=some (cs1 [115]):=rfl
theorem sg3:(symT.map cs1)[3]?=some (cs1 [65]):=rfl
theorem sg4:(symT.map cs1)[4]?=some (cs1 [75]):=rfl
theorem read_ (f:List UInt8)(hf:f.length≤1000000):CallOk Tryz.prog 281 [S f] [] (.tup [Wi (rdR f).1,Wi (rdR f).2.1,Wb1 (rdR f).2.2]) []:=by
 refine CallOk.mkN 100 Tryz.func281 rfl en281 (by simp[Tryz.ntmps281]) (ClA.of rfl) rfl rfl fun C hR hP=>?_
 refine vv ?_
 refine CallQ.pure 110 (sCut f 94 hf) rfl ?_
 have hrd:rdR f=match readF f with
  |none=>(0,0,false)
  |some (i,n)=>(i,n,true):=rfl
 unfold readF at hrd
 generalize cutB 94 f=q at*
 obtain⟨nm,d,b⟩:=q
 simp only at hrd⊢
 refine vv ?_
 cases b with
 |true=>
  refine vv ?_
  match d,hrd with
  |[],hrd=>
   rw[hrd]at hR
   refine vv ?_
   exact RetQ.of hR rfl (vv trivial) rvr (Sub.nil _) ClM.nil (ClV.of rfl)
  |x::y::d,hrd=>
   have h1:(((d.length+1+1:Nat):Int)!=1)=true:=by simp;omega
   rw[hrd]at hR
   simp(maxSteps:=2000000) only[go_sem,h1]
   exact RetQ.of hR rfl (vv trivial) rvr (Sub.nil _) ClM.nil (ClV.of rfl)
  |[x],hrd=>
   simp only[if_true]at hrd
   simp(maxSteps:=2000000) only[go_sem,show([x]:List UInt8).getD 0 0=x from rfl]
   by_cases hx:50≤x.toNat∧x.toNat≤57
   ·have h1:decide ((x.toNat:Int)<50)=false:=fal_of (by omega)
    have h2:decide (57<(x.toNat:Int))=false:=fal_of (by omega)
    have w1:IntKind.u8.wrap ((x.toNat:Int)-48)=((x.toNat-48:Nat):Int):=by rw[IntKind.wrap_u8];omega
    have w2:IntKind.i64.wrap ((x.toNat-48:Nat):Int)=((x.toNat-48:Nat):Int):=by rw[w64 (by omega) (by omega)]
    rw[if_pos hx]at hrd
    generalize x.toNat-48=n at*
    simp(maxSteps:=2000000) only[go_sem,h1,h2,w1,w2]
    refine CallQ.pure 120 symbols_ rfl ?_
    refine vv ?_
    refine Sm.unroll 6 (Sm.go 130 ?_)
    simp(maxSteps:=2000000) only[go_sem,sg0,sg1,sg2,sg3,sg4]
    rw[rd5]at hrd
    refine mtch (fun hq=>?_) (fun hq=>?_)
    ·rw[hq,cond_true]at hrd
     rw[hrd]at hR
     exact RetQ.of hR rfl (vv trivial) rvr (Sub.nil _) ClM.nil (ClV.of rfl)
    rw[hq,cond_false]at hrd
    refine mtch (fun hq=>?_) (fun hq=>?_)
    ·rw[hq,cond_true]at hrd
     rw[hrd]at hR
     exact RetQ.of hR rfl (vv trivial) rvr (Sub.nil _) ClM.nil (ClV.of rfl)
    rw[hq,cond_false]at hrd
    refine mtch (fun hq=>?_) (fun hq=>?_)
    ·rw[hq,cond_true]at hrd
     rw[hrd]at hR
     exact RetQ.of hR rfl (vv trivial) rvr (Sub.nil _) ClM.nil (ClV.of rfl)
    rw[hq,cond_false]at hrd
    refine mtch (fun hq=>?_) (fun hq=>?_)
    ·rw[hq,cond_true]at hrd
     rw[hrd]at hR
     exact RetQ.of hR rfl (vv trivial) rvr (Sub.nil _) ClM.nil (ClV.of rfl)
    rw[hq,cond_false]at hrd
    refine mtch (fun hq=>?_) (fun hq=>?_)
    ·rw[hq,cond_true]at hrd
     rw[hrd]at hR
     exact RetQ.of hR rfl (vv trivial) rvr (Sub.nil _) ClM.nil (ClV.of rfl)
    rw[hq,cond_false]at hrd
    rw[hrd]at hR
    exact RetQ.of hR rfl (vv trivial) rvr (Sub.nil _) ClM.nil (ClV.of rfl)
   ·rw[if_neg hx]at hrd
    rw[hrd]at hR
    have h1:(bif decide ((x.toNat:Int)<50)then true else decide (57<(x.toNat:Int)))=true:=by
     by_cases h:(x.toNat:Int)<50
     ·simp[h]
     ·simp[h];omega
    simp(maxSteps:=2000000) only[go_sem,h1]
    exact RetQ.of hR rfl (vv trivial) rvr (Sub.nil _) ClM.nil (ClV.of rfl)
 |false=>
  simp only[Bool.false_eq_true,if_false]at hrd
  refine vv ?_
  refine CallQ.pure 120 symbols_ rfl ?_
  refine vv ?_
  refine Sm.unroll 6 (Sm.go 130 ?_)
  simp(maxSteps:=2000000) only[go_sem,sg0,sg1,sg2,sg3,sg4]
  rw[rd5]at hrd
  refine mtch (fun hq=>?_) (fun hq=>?_)
  ·rw[hq,cond_true]at hrd
   rw[hrd]at hR
   exact RetQ.of hR rfl (vv trivial) rvr (Sub.nil _) ClM.nil (ClV.of rfl)
  rw[hq,cond_false]at hrd
  refine mtch (fun hq=>?_) (fun hq=>?_)
  ·rw[hq,cond_true]at hrd
   rw[hrd]at hR
   exact RetQ.of hR rfl (vv trivial) rvr (Sub.nil _) ClM.nil (ClV.of rfl)
  rw[hq,cond_false]at hrd
  refine mtch (fun hq=>?_) (fun hq=>?_)
  ·rw[hq,cond_true]at hrd
   rw[hrd]at hR
   exact RetQ.of hR rfl (vv trivial) rvr (Sub.nil _) ClM.nil (ClV.of rfl)
  rw[hq,cond_false]at hrd
  refine mtch (fun hq=>?_) (fun hq=>?_)
  ·rw[hq,cond_true]at hrd
   rw[hrd]at hR
   exact RetQ.of hR rfl (vv trivial) rvr (Sub.nil _) ClM.nil (ClV.of rfl)
  rw[hq,cond_false]at hrd
  refine mtch (fun hq=>?_) (fun hq=>?_)
  ·rw[hq,cond_true]at hrd
   rw[hrd]at hR
   exact RetQ.of hR rfl (vv trivial) rvr (Sub.nil _) ClM.nil (ClV.of rfl)
  rw[hq,cond_false]at hrd
  rw[hrd]at hR
  exact RetQ.of hR rfl (vv trivial) rvr (Sub.nil _) ClM.nil (ClV.of rfl)
theorem rFactor (i n:Nat)(hi:i<5)(hn1:1≤n)(hn:n<10):CallOk Tryz.prog 265 [I i,I n] [] (S (facT i n)) []:=by
 have hs:=sy_len i hi
 have hg:[cs1 [109],cs1 [107,103],cs1 [115],cs1 [65],cs1 [75]][i]?=some (cs1 (sy i)):=sy_get hi
 refine CallOk.mkN 100 Tryz.func265 rfl en265 (by simp[Tryz.ntmps265]) (ClA.of rfl) rfl rfl fun C hR hP=>?_
 simp(maxSteps:=2000000) only[go_sem,hg]
 refine⟨⟨by omega,by omega⟩,?_⟩
 refine mtch (fun h=>?_) (fun h=>?_)
 ·have h:n≠1:=by simp at h;omega
  have e:facT i n=sy i++[94,UInt8.ofNat (48+n)]:=by rw[facT,if_neg h]
  have w1:IntKind.i64.wrap (48+(n:Int))=((48+n:Nat):Int):=by rw[w64 (by omega) (by omega)];omega
  have w2:IntKind.u8.wrap ((48+n:Nat):Int)=((48+n:Nat):Int):=by rw[IntKind.wrap_u8];omega
  simp only[w1,w2]
  refine⟨by omega,?_⟩
  refine Sm.opq rfl rfl ⟨[],_,fun _=>Stp.toStr [48+n] (n:=101) (b:=⟨false,[.v (.int .u8 ((48+n:Nat):Int))],5⟩) rfl rfl rfl sl49 ki5 st9 rfl rfl,.inl rfl,?_⟩
  refine Sm.go 110 ?_
  simp(maxSteps:=2000000) only[go_sem,List.length_append,List.length_cons,List.length_nil]
  refine⟨by omega,?_⟩
  rw[e]at hR
  exact RetQ.of hR rfl ⟨rfl,trivial⟩ (by simp[V.toW,W.toV]) (Sub.nil _) ClM.nil (ClV.of rfl)
 ·have h:n=1:=by simp at h;omega
  subst h
  have e:facT i 1=sy i:=by simp[facT]
  rw[e]at hR
  exact RetQ.of hR rfl ⟨rfl,trivial⟩ rfl (Sub.nil _) ClM.nil (ClV.of rfl)
theorem rText (u:Un):CallOk Tryz.prog 228 [uu u] [] (S (txt u)) []:=by
 refine CallOk.mkN 100 Tryz.func228 rfl en228 (by simp[Tryz.ntmps228]) (ClA.of rfl) rfl rfl fun C hR hP=>?_
 refine vv ?_
 refine CallQ.pure 110 (rValid u) rfl ?_
 refine vv ?_
 cases hu:uokU u with
 |false=>
  have e:txt u=[]:=by rw[txt,hu];rfl
  rw[e]at hR
  refine vv ?_
  exact RetQ.of hR rfl ⟨rfl,trivial⟩ rfl (Sub.nil _) ClM.nil (ClV.of rfl)
 |true=>
 have et:txt u=negT u 5:=by rw[txt,hu];rfl
 rw[et]at hR
 change CallQ _ _ _ _ _ _ _ _ _ _
 refine CallQ.ren [(1,130)] 131 (rList u) ClM.nil rfl rfl trivial rfl (.inl rfl) ?_
 refine vv ?_
 refine Sm.loopM (M0:=[]) (α:={i:Nat//i≤5}) hP (fun i=>[(3,true,slV 4 5),(4,true,S (posT u i.val)),(5,true,I i.val)]) (fun _=>[bL 4 u]) (fun i=>5-i.val) ⟨0,by omega⟩ (fun _=>clL _ _) (fun _=>ClE.of rfl) [(4,130)] ?_ ?_
 ·exact⟨rfl,trivial,⟨rfl,rfl,rfl,trivial⟩,⟨oR,trivial⟩⟩
 ·rintro⟨i,hi⟩ J hb
  simp only at hb hi⊢
  refine Sm.go 200 ?_
  refine vv ?_
  refine mtch (fun hc=>?_) (fun hc=>?_)
  ·have hc:i<5:=by simp at hc;omega
   have hx:=ex_get u hc
   have hxb:=ex_bd hu hc
   have hpl:=posT_len u i (by omega)
   have hstep:posT u (i+1)=if 0<ex u i then(if posT u i=[]then[]else posT u i++[42])++facT i (ex u i).toNat else posT u i:=rfl
   have w1:IntKind.i64.wrap ((i:Int)+1)=((i+1:Nat):Int):=by rw[w64 (by omega) (by omega)];omega
   generalize posT u i=L at*
   simp(maxSteps:=2000000) only[go_sem,hx]
   refine⟨⟨by omega,by omega⟩,?_⟩
   refine mtch (fun hq=>?_) (fun hq=>?_)
   ·have hq:0<ex u i:=by simpa using hq
    obtain⟨n,hn⟩:∃n:Nat,ex u i=n:=⟨(ex u i).toNat,by omega⟩
    rw[if_pos hq]at hstep
    rw[hn]at hx hstep hxb hq
    simp only[hn]
    rw[Int.toNat_natCast]at hstep
    refine mtch (fun hl=>?_) (fun hl=>?_)
    ·have hl:L≠[]:=by rintro rfl;simp at hl
     have hs:posT u (i+1)=(L++[42])++facT i n:=by rw[hstep,if_neg hl]
     refine⟨by omega,⟨by omega,by omega⟩,?_⟩
     refine CallQ.pure 210 (rFactor i n hc (by omega) (by omega)) rfl ?_
     simp(maxSteps:=2000000) only[go_sem,w1]
     refine⟨by have:=facT_len i n hc;simp;omega,?_⟩
     refine hb _ _ ⟨i+1,hc⟩ [(4,4)] (by simp only;omega) ?_
     simp only[hs]
     exact⟨rfl,trivial,⟨rfl,rfl,rfl,trivial⟩,⟨oR,trivial⟩⟩
    ·have hl:L=[]:=by cases L;rfl;simp at hl
     subst hl
     have hs:posT u (i+1)=[]++facT i n:=by rw[hstep];rfl
     refine⟨⟨by omega,by omega⟩,?_⟩
     refine CallQ.pure 210 (rFactor i n hc (by omega) (by omega)) rfl ?_
     simp(maxSteps:=2000000) only[go_sem,w1]
     refine⟨by have:=facT_len i n hc;simp;omega,?_⟩
     refine hb _ _ ⟨i+1,hc⟩ [(4,4)] (by simp only;omega) ?_
     simp only[hs]
     exact⟨rfl,trivial,⟨rfl,rfl,rfl,trivial⟩,⟨oR,trivial⟩⟩
   ·have hq:¬0<ex u i:=by simpa using hq
    have hs:posT u (i+1)=L:=by rw[hstep,if_neg hq]
    simp only[w1]
    refine hb _ _ ⟨i+1,hc⟩ [(4,4)] (by simp only;omega) ?_
    simp only[hs]
    exact⟨rfl,trivial,⟨rfl,rfl,rfl,trivial⟩,⟨oR,trivial⟩⟩
  ·have hc:i=5:=by simp at hc;omega
   subst hc
   have hmid:midT u=if posT u 5=[]then[49]else posT u 5:=rfl
   generalize posT u 5=L at*
   refine mtch (fun hl=>?_) (fun hl=>?_)
   ·have hl:L=[]:=by cases L;rfl;simp at hl
    subst hl
    refine Sm.loopM (M0:=[]) (α:={i:Nat//i≤5}) hP (fun i=>[(3,true,slV 4 5),(4,true,S (negT u i.val)),(6,true,I i.val)]) (fun _=>[bL 4 u]) (fun i=>5-i.val) ⟨0,by omega⟩ (fun _=>clL _ _) (fun _=>ClE.of rfl) [(4,4)] ?_ ?_
    ·have hs:negT u 0=[49]:=by show midT u=_;rw[hmid];simp[hl]
     simp only[hs]
     exact⟨rfl,trivial,⟨rfl,rfl,rfl,trivial⟩,⟨oR,trivial⟩⟩
    ·rintro⟨i,hi⟩ J hb
     simp only at hb hi⊢
     refine Sm.go 300 ?_
     refine vv ?_
     refine mtch (fun hc=>?_) (fun hc=>?_)
     ·have hc:i<5:=by simp at hc;omega
      have hx:=ex_get u hc
      have hxb:=ex_bd hu hc
      have hnl:=negT_len u i (by omega)
      have hstep:negT u (i+1)=if ex u i<0 then(negT u i++[47])++facT i (-ex u i).toNat else negT u i:=rfl
      have w1:IntKind.i64.wrap ((i:Int)+1)=((i+1:Nat):Int):=by rw[w64 (by omega) (by omega)];omega
      generalize negT u i=R at*
      simp(maxSteps:=2000000) only[go_sem,hx]
      refine⟨⟨by omega,by omega⟩,?_⟩
      refine mtch (fun hq=>?_) (fun hq=>?_)
      ·have hq:ex u i<0:=by simpa using hq
       obtain⟨n,hn⟩:∃n:Nat,ex u i= -(n:Int):=⟨(-ex u i).toNat,by omega⟩
       have hn2:(-ex u i).toNat=n:=by omega
       rw[if_pos hq,hn2]at hstep
       rw[hn]at hx hxb hq
       simp only[hn]
       have w2:IntKind.i64.wrap (0- -(n:Int))=(n:Int):=by rw[w64 (by omega) (by omega)];omega
       have hs:negT u (i+1)=(R++[47])++facT i n:=hstep
       simp only[w2]
       refine⟨by omega,⟨by omega,by omega⟩,?_⟩
       refine CallQ.pure 210 (rFactor i n hc (by omega) (by omega)) rfl ?_
       simp(maxSteps:=2000000) only[go_sem,w1]
       refine⟨by have:=facT_len i n hc;simp;omega,?_⟩
       refine hb _ _ ⟨i+1,hc⟩ [(4,4)] (by simp only;omega) ?_
       simp only[hs]
       exact⟨rfl,trivial,⟨rfl,rfl,rfl,trivial⟩,⟨oR,trivial⟩⟩
      ·have hq:¬ex u i<0:=by simpa using hq
       have hs:negT u (i+1)=R:=by rw[hstep,if_neg hq]
       simp only[w1]
       refine hb _ _ ⟨i+1,hc⟩ [(4,4)] (by simp only;omega) ?_
       simp only[hs]
       exact⟨rfl,trivial,⟨rfl,rfl,rfl,trivial⟩,⟨oR,trivial⟩⟩
     ·have hc:i=5:=by simp at hc;omega
      subst hc
      exact RetQ.of hR rfl ⟨rfl,trivial⟩ rfl (Sub.nil _) ClM.nil (ClV.of rfl)
   ·have hl:L≠[]:=by rintro rfl;simp at hl
    refine Sm.loopM (M0:=[]) (α:={i:Nat//i≤5}) hP (fun i=>[(3,true,slV 4 5),(4,true,S (negT u i.val)),(6,true,I i.val)]) (fun _=>[bL 4 u]) (fun i=>5-i.val) ⟨0,by omega⟩ (fun _=>clL _ _) (fun _=>ClE.of rfl) [(4,4)] ?_ ?_
    ·have hs:negT u 0=L:=by show midT u=_;rw[hmid];simp[hl]
     simp only[hs]
     exact⟨rfl,trivial,⟨rfl,rfl,rfl,trivial⟩,⟨oR,trivial⟩⟩
    ·rintro⟨i,hi⟩ J hb
     simp only at hb hi⊢
     refine Sm.go 300 ?_
     refine vv ?_
     refine mtch (fun hc=>?_) (fun hc=>?_)
     ·have hc:i<5:=by simp at hc;omega
      have hx:=ex_get u hc
      have hxb:=ex_bd hu hc
      have hnl:=negT_len u i (by omega)
      have hstep:negT u (i+1)=if ex u i<0 then(negT u i++[47])++facT i (-ex u i).toNat else negT u i:=rfl
      have w1:IntKind.i64.wrap ((i:Int)+1)=((i+1:Nat):Int):=by rw[w64 (by omega) (by omega)];omega
      generalize negT u i=R at*
      simp(maxSteps:=2000000) only[go_sem,hx]
      refine⟨⟨by omega,by omega⟩,?_⟩
      refine mtch (fun hq=>?_) (fun hq=>?_)
      ·have hq:ex u i<0:=by simpa using hq
       obtain⟨n,hn⟩:∃n:Nat,ex u i= -(n:Int):=⟨(-ex u i).toNat,by omega⟩
       have hn2:(-ex u i).toNat=n:=by omega
       rw[if_pos hq,hn2]at hstep
       rw[hn]at hx hxb hq
       simp only[hn]
       have w2:IntKind.i64.wrap (0- -(n:Int))=(n:Int):=by rw[w64 (by omega) (by omega)];omega
       have hs:negT u (i+1)=(R++[47])++facT i n:=hstep
       simp only[w2]
       refine⟨by omega,⟨by omega,by omega⟩,?_⟩
       refine CallQ.pure 210 (rFactor i n hc (by omega) (by omega)) rfl ?_
       simp(maxSteps:=2000000) only[go_sem,w1]
       refine⟨by have:=facT_len i n hc;simp;omega,?_⟩
       refine hb _ _ ⟨i+1,hc⟩ [(4,4)] (by simp only;omega) ?_
       simp only[hs]
       exact⟨rfl,trivial,⟨rfl,rfl,rfl,trivial⟩,⟨oR,trivial⟩⟩
      ·have hq:¬ex u i<0:=by simpa using hq
       have hs:negT u (i+1)=R:=by rw[hstep,if_neg hq]
       simp only[w1]
       refine hb _ _ ⟨i+1,hc⟩ [(4,4)] (by simp only;omega) ?_
       simp only[hs]
       exact⟨rfl,trivial,⟨rfl,rfl,rfl,trivial⟩,⟨oR,trivial⟩⟩
     ·have hc:i=5:=by simp at hc;omega
      subst hc
      exact RetQ.of hR rfl ⟨rfl,trivial⟩ rfl (Sub.nil _) ClM.nil (ClV.of rfl)
theorem parse_named (l:List UInt8)(hl:l.length≤40)(hn:(nmd l).2=true):CallOk Tryz.prog 267 [S l] [] (.tup [Wuu (nmd l).1,Wi 0]) []:=by
 have h1:decide ((40:Int)<l.length)=false:=fal_of (by omega)
 refine CallOk.mkN 100 Tryz.func267 rfl en267 (by simp[Tryz.ntmps267]) (ClA.of rfl) rfl rfl fun C hR hP=>?_
 simp(maxSteps:=2000000) only[go_sem,h1]
 refine CallQ.pure 110 (named_ l) rfl ?_
 refine vv ?_
 rw[hn]
 refine vv ?_
 exact RetQ.of hR rfl (vv trivial) rvr (Sub.nil _) ClM.nil (ClV.of rfl)
def m2:Un:=⟨2,0,0,0,0⟩
def qt:Un:=⟨-1,1, -2,0,0⟩
end Go.Proofs.YtlnpgbnhcondjaaGreatDoor.Fx
