/-  -/
import Derived.Test.YtlnpgbnhcondjaaGreatDoorShB
import Derived.Test.YtlnpgbnhcondjaaGreatDoorQY
import Derived.Lib.AppendZeros
import Derived.Test.YtlnpgbnhcondjaaGreatDoorQ3
import Derived.Test.YtlnpgbnhcondjaaGreatDoorU6
namespace Go.Proofs.YtlnpgbnhcondjaaGreatDoor.Fx
open Vg Tf
set_option linter.unusedSimpArgs false
set_option linter.unusedVariables false
set_option maxRecDepth 100000
set_option maxHeartbeats 4000000
theorem concV {L:List Nat}{β:Vl}{l:List Cv}(h:l.all Cv.isV=true):l.map (Cv.conc L β)=l:=by
 rw[List.all_eq_true]at h
 conv=>rhs;rw[←List.map_id l]
 refine List.map_congr_left fun c hc=>?_
 have:=h c hc
 cases c with
 |v x=>rfl
 |_=>cases this
theorem one_rows (l:List (List Value))(h:∀r∈l,∀v∈r,v.oneCell'=true):(rowsC l).all Cv.one=true:=by
 rw[List.all_eq_true]
 intro c hc
 unfold rowsC at hc
 obtain⟨v,hv,rfl⟩:=List.mem_map.1 hc
 obtain⟨r,hr,hvr⟩:=List.mem_flatten.1 hv
 exact h r hr v hvr
@[go_sem] theorem mode_at:(Region.Mode.any==Region.Mode.text)=false:=rfl
theorem cok_set {L:List Nat}{cs:List Cv}{i:Nat}{c:Cv}(h:cs.all (Cv.cok L)=true)(hc:c.cok L=true):(cs.set i c).all (Cv.cok L)=true:=by
 rw[List.all_eq_true]at h⊢
 intro x hx
 rcases List.mem_or_eq_of_mem_set hx with hx|rfl
 ·exact h x hx
 ·exact hc
theorem setV {cs:List Cv}{i:Nat}{v:Value}(h:cs.all Cv.isV=true):(cs.set i (.v v)).all Cv.isV=true:=by
 rw[List.all_eq_true]at h⊢
 intro x hx
 rcases List.mem_or_eq_of_mem_set hx with hx|rfl
 ·exact h x hx
 ·rfl
theorem inM_set {M:Mem}{cs:List Cv}{i:Nat}{c:Cv}(h:cs.all (Cv.inM M)=true)(hc:c.inM M=true):(cs.set i c).all (Cv.inM M)=true:=by
 rw[List.all_eq_true]at h⊢
 intro x hx
 rcases List.mem_or_eq_of_mem_set hx with hx|rfl
 ·exact h x hx
 ·exact hc
theorem ren_set {ρ:Nat→Nat}{r:Bool}{l:List Cv}{t:TypeId}{i n a b c:Nat}(h:l.all Cv.isV=true)(hn:ρ n=n):(⟨r,l.set i (.sl n a b c),t⟩:Bk).ren ρ=⟨r,l.set i (.sl n a b c),t⟩:=by
 have h1:=renV (ρ:=ρ) (r:=r) (t:=t) h
 simp only[Bk.ren,Bk.mk.injEq,true_and,and_true]at h1⊢
 rw[List.map_set,h1]
 simp only[Cv.ren,hn]
def zR (v:Sv×List Int):List Value:=[vsl v.1 v.2.length]
theorem rowsC_set {k:Nat}(A B:List (List Value))(r:List Value)(hA:∀a∈A,a.length=k)(i:Nat)(hi:i<r.length)(v:Value):(rowsC (A++r::B)).set (A.length*k+i) (.v v)=rowsC (A++r.set i v::B):=by
 have hl:=rowsC_len (k:=k) A hA
 have e:∀x:List Value,rowsC (A++x::B)=rowsC A++(x.map .v++rowsC B):=fun x=>by simp[rowsC]
 rw[e,e,List.set_append_right _ _ (by omega),hl,Nat.add_sub_cancel_left,List.set_append_left _ _ (by simpa using hi),List.map_set]
def swp (a b:Nat)(n:Nat):Nat:=if n=a then b else if n=b then a else n
theorem swp_inj (a b:Nat):∀n m,swp a b n=swp a b m→n=m:=by
 intro n m h
 unfold swp at h
 split at h<;>split at h<;>(try split at h)<;>(try split at h)<;>omega
theorem clo_at {H:Hp}{f:FuncId}{v:Value}{len sz:Nat}{cells:List Cv}{ty:TypeId}(hv:cells.all Cv.isV=true)(h:CallX H Tryz.prog f [.c (.v v)] [] (fun _:Unit=> .c (.sl 2 0 len sz)) (fun _=>[(2,⟨false,cells,ty⟩)]) (fun _ _=>True))(n:Nat):
  CallX H Tryz.prog f [.c (.v v)] [] (fun _:Unit=> .c (.sl n 0 len sz)) (fun _=>[(n,⟨false,cells,ty⟩)]) (fun _ _=>True):=by
 have h2:=h.ren (ρ:=swp 2 n) (swp_inj 2 n)
 simp only[Mem.ren,List.map_cons,List.map_nil,V.ren,Cv.ren,renV hv]at h2
 have e:swp 2 n 2=n:=by simp[swp]
 simp only[e]at h2
 exact h2
theorem _root_.Go.Proofs.YtlnpgbnhcondjaaGreatDoor.Vg.DCallQ.n1 {H:Hp}{P:Program}{nt:Nat}{C:Cx}{r:List It}{e e0:Env}{M M0 Mf:Mem}{id:Nat}{rg:Array Oper}{k:Nat}{T:List (Nat×Nat)}{i:Nat}{o:Oper}{l:List Oper}{f:FuncId}{vs:List (Option (Bool×V))}{dst:Option Nat}{xs:List V}{v:V}{n:Nat}{b:Bk}(nx:Nat)(hc:CallX H P f xs [] (fun _:Unit=>v) (fun _=>[(n,b)]) (fun _ _=>True))(hH:H.le C.hp)(hvs:vs=xs.map fun x=>some (true,x))
  (h0:M0.get n=none) (h1:M.get n=none) (hT:(T.all fun q=> !(q.1==n||q.1==n+1000000)||(aft o).contains q.2)=true)
  (h:runD P nt C id rg r e0 M0 Mf k (kontW P nt C (.ops rg (rg.toList.drop k)::r)) ((n,i)::T) (i+1) l (e.put dst true v) ((n,b)::M) nx):DCallQ P nt C id rg r e0 M0 Mf k T i o f vs true dst l e M:=
 ⟨[],[(n,b)],M0,v,xs,fun _=>hvs,fun _=> .inr (CallX.kx hc hH ClM.nil (fun _=>rfl) (fun _=>rfl)),Sub.nil _,ClM.nil,Fresh.of (by simp[Mem.get,h0]),.inl rfl,⟨fun _ _ h=> .inl h,snoc_hf (by simp[ownB,h0,h1]) (by simpa[touchB]using hT)⟩,DrS.go nx h⟩
@[reducible] def z7:List Cv:=[.v (.string ⟨#[]⟩),.v (.slice none 0 0),.v (.slice none 0 0),.v (.slice none 0 0),.v (.slice none 0 0),.v (.slice none 0 0),.v (.slice none 0 0)]
@[go_sem ↓] theorem plS_1_13:plS 1 13=[(0,13)]:=rfl
structure Sg where
 nm:Str
 ty:Ft
 r:Int×Int
def Sg.w (s:Sg):List Value:=sv s.nm::(ftR s.ty++[iv s.r.1,iv s.r.2])
def dg0:Dg:=⟨[],[],[],[],[],[],[]⟩
def dgL0:DgL:=⟨[],[],[],[],[],[],[],⟨none,0⟩,⟨none,0⟩,⟨none,0⟩,⟨none,0⟩,⟨none,0⟩,⟨none,0⟩⟩
theorem dgL0_ok (H:Hp):dgL0.ok H:=⟨SlH.nil _,SlH.nil _,SlH.nil _,SlH.nil _,SlH.nil _,SlH.nil _,by simp[dgL0],by simp[dgL0],by simp[dgL0]⟩
structure CkR where
 d:Dg
 sg:List Sg
 od:List Nat
structure CkL where
 d:DgL
 sg:List Sg
 od:List Nat
 s:Sv
 o:Sv
def CkL.r (c:CkL):List Value:=c.d.r++[vsl c.s c.sg.length,vsl c.o c.od.length]
def CkL.c (c:CkL):CkR:=⟨c.d.c,c.sg,c.od⟩
structure CkL.ok (H:Hp) (c:CkL):Prop where
 d:c.d.ok H
 s:SlH H (vsl c.s c.sg.length) 13 (c.sg.map Sg.w)
 o:SlH H (vsl c.o c.od.length) 1 (c.od.map fun n:Nat=>[iv n])
def nb (n:Int):Prop:= -1073741824≤n∧n≤1073741824
def mxG:Int→List Int→Int
 |a,[]=>a
 |a,x::l=>mxG (max a x) l
theorem rows_one {α:Type}{r:α→List Value}{k:Nat}(hk:∀x,(r x).length=k)(l:List α)(i j:Nat)(h:i<l.length)(hj:j<k):(rowsC (l.map r))[i*k+j]?=((r l[i])[j]?).map Cv.v:=by
 have h1:=rows_take hk l i h
 have:(rowsC (l.map r))[i*k+j]?=(((rowsC (l.map r)).drop (i*k)).take k)[j]?:=by rw[List.getElem?_take_of_lt hj,List.getElem?_drop]
 rw[this,h1,List.getElem?_map]
@[reducible,go_sem] def dvs (d:DgL):List Cv:=[.v (sv d.nm),.v (vsl d.ty d.tys.length),.v (vsl d.cu d.cus.length),.v (vsl d.ma d.mas.length),.sl 4 0 d.ins.length 4,.sl 5 0 d.bls.length 6,.v (vsl d.ou d.ous.length)]
@[reducible,go_sem] def dmm (d:DgL):Mem:=[(4,⟨true,rowsC (d.ins.map Po.r),118⟩),(5,⟨true,rowsC (d.bls.map BlL.r),82⟩)]
def fndQ (l:List Str)(s:Str):Int:=match idxS s l 0 with
 |some i=>(i:Int)
 |none=> -1
theorem _root_.Go.Proofs.YtlnpgbnhcondjaaGreatDoor.Vg.Stp.mkF {P:Program}{o:Oper}{e:Env}{M:Mem}{f:FuncId}{x:Operand}{v:Value}(ho:o.op= .makeFunc (.func f) #[] #[x])(hx:rd e x=some (true,.c (.v v))):Stp P o e M (Fv f #[v]) []:=
 Stp.pure fun β a hop w=>by
  have hex:=hop x (by simp[ho,Op.operands]) _ hx
  simp only[gv,V.g,Cv.g,cond_true]at hex
  unfold execOp
  simp[ho,hex,Instr.makeFunc,V.g,Cv.g]
theorem fnd1_ {H:Hp}(x:Po)(s:Str)(pv:Value)(hpv:PtH H pv [sv s]):CallH H Tryz.prog 88 [rowV x.r,.c (.v pv)] (Bo (x.nm==s)):=by
 refine CallH.mkS Tryz.func88 rfl en88 (by simp[Tryz.ntmps88]) (ClA.of rfl) fun C hR hP hH hL=>?_
 refine Sm.bringP 1 9 1 (hpv.mono hH) rfl rfl (Sm.go 100 ?_)
 refine vv ?_
 exact RetQ.bool (hR C hL) rfl ⟨rfl,trivial⟩ rfl
theorem fnd2_ {H:Hp}(x:BlL)(s:Str)(pv:Value)(hpv:PtH H pv [sv s]):CallH H Tryz.prog 90 [rowV x.r,.c (.v pv)] (Bo (x.c.nm==s)):=by
 refine CallH.mkS Tryz.func90 rfl en90 (by simp[Tryz.ntmps90]) (ClA.of rfl) fun C hR hP hH hL=>?_
 refine Sm.bringP 1 9 1 (hpv.mono hH) rfl rfl (Sm.go 100 ?_)
 refine vv ?_
 exact RetQ.bool (hR C hL) rfl ⟨rfl,trivial⟩ rfl
def oX (o:Option Nat):Int:=match o with
 |some j=>(j:Int)
 |none=> -1
theorem ix_idx {α:Type}(nm:α→Str)(s:Str):∀(l:List α) (k:Nat),ixF (fun x=>nm x==s) l k=oX (idxS s (l.map nm) k)
 |[],_=>rfl
 |x::l,k=>by
  have ih:=ix_idx nm s l (k+1)
  rw[ixF,List.map_cons,idxS]
  by_cases h:nm x=s
  ·rw[if_pos h,h,beq_self_eq_true];rfl
  ·rw[if_neg h,beq_eq_false_iff_ne.2 h,cond_false,←ih];rfl
theorem idxS_app (s:Str):∀(a b:List Str) (k:Nat),idxS s (a++b) k=match idxS s a k with
  |some i=>some i
  |none=>idxS s b (k+a.length)
 |[],b,k=>by simp[idxS]
 |x::a,b,k=>by
  rw[List.cons_append,idxS,idxS]
  by_cases h:x=s
  ·rw[if_pos h,if_pos h]
  ·rw[if_neg h,if_neg h,idxS_app s a b (k+1),List.length_cons,Nat.add_right_comm,Nat.add_assoc]
theorem idxS_shift (s:Str):∀(l:List Str) (k m:Nat),idxS s l (k+m)=(idxS s l k).map (· +m)
 |[],_,_=>rfl
 |x::l,k,m=>by
  rw[idxS,idxS]
  by_cases h:x=s
  ·rw[if_pos h,if_pos h];rfl
  ·rw[if_neg h,if_neg h,Nat.add_right_comm,idxS_shift s l (k+1) m]
theorem fnd_split (d:DgL)(s:Str):fndQ (sigs d.c) s=bif decide (0≤ixF (fun x:Po=>x.nm==s) d.ins 0)then ixF (fun x:Po=>x.nm==s) d.ins 0 else bif decide (0≤ixF (fun x:BlL=>x.c.nm==s) d.bls 0)then(d.ins.length:Int)+ixF (fun x:BlL=>x.c.nm==s) d.bls 0 else-1:=by
 have e1:=ix_idx (fun x:Po=>x.nm) s d.ins 0
 have e2:=ix_idx (fun x:BlL=>x.c.nm) s d.bls 0
 simp only[Int.ofNat_zero,Int.natCast_zero]at e1 e2
 rw[e1,e2]
 have es:sigs d.c=d.ins.map (·.nm)++d.bls.map (fun x=>x.c.nm):=by unfold sigs;simp[DgL.c]
 unfold fndQ
 rw[es,idxS_app,List.length_map,idxS_shift]
 cases idxS s (d.ins.map (·.nm)) 0 with
 |some i=>
  show(i:Int)=bif decide (0≤(i:Int))then(i:Int)else _
  rw[decide_eq_true (by omega)];rfl
 |none=>
  cases idxS s (d.bls.map (fun x=>x.c.nm)) 0 with
  |some j=>
   show((j+d.ins.length:Nat):Int)=bif decide (0≤(-1:Int))then(-1:Int)else bif decide (0≤(j:Int))then(d.ins.length:Int)+(j:Int)else-1
   rw[decide_eq_true (show(0:Int)≤(j:Int) by omega)]
   show((j+d.ins.length:Nat):Int)=(d.ins.length:Int)+(j:Int)
   omega
  |none=>rfl
theorem ixF_lt {α:Type}(p:α→Bool):∀(l:List α) (k:Int),0≤k→ixF p l k≤k+l.length∧ -1≤ixF p l k
 |[],k,h=>by simp[ixF];omega
 |x::l,k,h=>by
  have ih:=ixF_lt p l (k+1) (by omega)
  rw[ixF]
  cases p x with
  |true=>simp only[cond_true,List.length_cons];omega
  |false=>simp only[cond_false,List.length_cons];omega
theorem pfind_ {H:Hp}(d:DgL)(hd:d.ok H)(s:Str)(h1:d.ins.length≤1000000000000000)(h2:d.bls.length≤1000000000000000):CallH H Tryz.prog 32 [rowV d.r,S s] (I (fndQ (sigs d.c) s)):=by
 have hsp:=fnd_split d s
 have b1:=ixF_lt (fun x:Po=>x.nm==s) d.ins 0 (by omega)
 have b2:=ixF_lt (fun x:BlL=>x.c.nm==s) d.bls 0 (by omega)
 refine CallH.mkS Tryz.func32 rfl en32 (by simp[Tryz.ntmps32]) (ClA.of rfl) fun C hR hP hH hL=>?_
 refine Sm.go 100 ?_
 refine vv ?_
 refine CallQ.letgo (xs:=[_,_]) [101] hL hP rfl rfl rfl en87 rfl rfl (fun β Cn l1 l2 l3=>?_)
 have hpt:=(l3 101 _ rfl rfl rfl).pt (by simp)
 refine CallW.h 110 l1 (ixfPo _ d.ins ((hd.mono hH).i.mono l2) (by omega) 88 #[ptr β 101 0] (fun x=>x.nm==s) (fun x hx=>fnd1_ x s _ hpt)) (Hp.le.refl _) rfl (fun Cm m1 m2=>?_)
 generalize ixF (fun x:Po=>x.nm==s) d.ins 0=i1 at*
 refine vv ?_
 refine mtch (fun hc=>?_) (fun hc=>?_)
 ·refine RetQ.of (hR Cm m1) rfl scc ?_ (Sub.nil _) ClM.nil (ClV.of rfl)
  rw[hsp,hc];rfl
 refine Sm.opq rfl rfl ⟨[],_,fun _=>Stp.mkF rfl rfl,.inl rfl,Sm.go 120 ?_⟩
 refine vv ?_
 refine CallQ.h 130 (ixfBl _ d.bls ((hd.mono hH).bl.mono (l2.trans m2)) (by omega) 90 #[ptr β 101 0] (fun x=>x.c.nm==s) (fun x hx=>fnd2_ x s _ (hpt.mono m2))) (Hp.le.refl _) rfl ?_
 generalize ixF (fun x:BlL=>x.c.nm==s) d.bls 0=i2 at*
 rw[hc,cond_false]at hsp
 have w3:IntKind.i64.wrap ((d.ins.length:Int)+i2)=(d.ins.length:Int)+i2:=by rw[w64 (by omega) (by omega)]
 simp(maxSteps:=2000000) only[go_sem,w3]
 refine mtch (fun hc=>?_) (fun hc=>?_)
 ·refine RetQ.of (hR Cm m1) rfl scc ?_ (Sub.nil _) ClM.nil (ClV.of rfl)
  rw[hsp,hc];rfl
 ·refine RetQ.of (hR Cm m1) rfl scc ?_ (Sub.nil _) ClM.nil (ClV.of rfl)
  rw[hsp,hc];rfl
def rnS (f t s:Str):Str:=if s=f then t else s
theorem chg_ (f t s:Str)(cs:List Cv)(hv:cs.all Cv.isV=true)(off:Nat)(ty:TypeId)(hs:cs[off]?=some (sC s)):CallOk Tryz.prog 99 [.c (.p 3 off),.c (.p 1 0),.c (.p 2 0)] [(3,⟨false,cs,ty⟩),(1,⟨true,[sC f],9⟩),(2,⟨true,[sC t],9⟩)] (.tup []) [(3,⟨false,cs.set off (sC (rnS f t s)),ty⟩)]:=by
 have hlt:off<cs.length:=by
  rcases Nat.lt_or_ge off cs.length with h|h
  ·exact h
  ·rw[List.getElem?_eq_none h]at hs;cases hs
 refine CallOk.mkN 100 Tryz.func99 rfl en99 (by simp[Tryz.ntmps99]) (ClA.of rfl) rfl rfl fun C hR hP=>?_
 have hM:∀q:List Cv,q.all Cv.isV=true→ClM [(3,⟨false,q,ty⟩),(1,⟨true,[sC f],9⟩),(2,⟨true,[sC t],9⟩)]:=fun q h=>ClM.of (by simp only[List.all_cons,inMV h];rfl)
 refine vv ?_
 refine Sm.dg 100 4 mix ?_
 simp(maxSteps:=2000000) only[go_sem,hs]
 have hset:∀x:Str,(cs.set off (sC x)).all Cv.isV=true:=fun x=>setV hv
 refine mtch (fun he=>?_) (fun he=>?_)
 ·have e:rnS f t s=t:=if_pos (eq_of_beq he)
  rw[e]at hR
  exact⟨by omega,Sm.fall hR (RetQ.of hR rfl trivial rfl (sub_sh (SubS.sub ⟨oS,oS,oS,trivial⟩)) (clm_sh (hM _ (hset t))) (ClV.of rfl))⟩
 ·have e:rnS f t s=s:=if_neg (fun h=>by rw[h]at he;simp at he)
  have e2:cs.set off (sC s)=cs:=by
   apply List.ext_getElem?
   intro j
   rw[List.getElem?_set]
   by_cases hj:off=j
   ·subst hj;rw[if_pos rfl,if_pos hlt,hs]
   ·rw[if_neg hj]
  rw[e,e2]at hR
  exact Sm.fall hR (RetQ.of hR rfl trivial rfl (sub_sh (SubS.sub ⟨oS,oS,oS,trivial⟩)) (clm_sh (hM _ hv)) (ClV.of rfl))
def STk (T:List Tk):Prop:=(T.map fun t=>t.s.length).sum≤100000
theorem sum_drop {T:List Tk}{i:Nat}(h:i<T.length):((T.drop i).map fun t=>t.s.length).sum=(T.getD i tk0).s.length+((T.drop (i+1)).map fun t=>t.s.length).sum:=by
 rw[List.drop_eq_getElem_cons h,List.getD_eq_getElem?_getD,List.getElem?_eq_getElem h];rfl
theorem sum_mem:∀(T:List Tk) (i:Nat),(T.getD i tk0).s.length≤(T.map fun t=>t.s.length).sum
 |[],i=>by simp[tk0]
 |t::T,0=>by simp
 |t::T,i+1=>by have:=sum_mem T i;simp only[List.getD_cons_succ,List.map_cons,List.sum_cons];omega
theorem STk.here {T:List Tk}(h:STk T)(p:Ps):(hereP T p).s.length≤100000:=Nat.le_trans (sum_mem T p.at_) h
@[reducible,go_sem] def pD (T:List Tk)(p:Ps)(cs:List Cv)(ty:TypeId):Mem:=[(1,⟨false,psC T p,96⟩),(3,⟨false,cs,ty⟩),(2,⟨true,rowsC (T.map Tk.r),57⟩)]
theorem pD_cl (T:List Tk)(p:Ps){cs:List Cv}(hv:cs.all Cv.isV=true)(ty:TypeId):ClM (pD T p cs ty):=ClM.of (by simp only[List.all_cons,inMV (rowsC_isV _),inMV hv];rfl)
theorem get_sh2 {n m:Nat}{b b' c c':Bk}{r:Mem}(k:Nat):Mem.get ((n,b)::(m,c)::(n,b')::(m,c')::r) k=Mem.get ((n,b)::(m,c)::r) k:=by
 simp only[Mem.get_cons]
 by_cases h1:k=n
 ·simp[h1]
 ·by_cases h2:k=m<;>simp[h1,h2]
theorem sub_sh2 {n m:Nat}{b b' c c':Bk}{r M:Mem}(h:Sub ((n,b)::(m,c)::r) M):Sub ((n,b)::(m,c)::(n,b')::(m,c')::r) M:=fun k x hk=>h k x (by rw[←get_sh2 (b':=b') (c':=c')];exact hk)
theorem clm_sh2 {n m:Nat}{b b' c c':Bk}{r:Mem}(h:ClM ((n,b)::(m,c)::r)):ClM ((n,b)::(m,c)::(n,b')::(m,c')::r):=fun β β' hag k x hk=>
 h β β' (fun k hn=>hag k (by rw[get_sh2];exact hn)) k x (by rw[←get_sh2 (b':=b') (c':=c')];exact hk)
theorem name_ (T:List Tk)(hT:T.length≤100000)(sT:STk T)(p:Ps)(h:p.at_<T.length)(cs:List Cv)(hv:cs.all Cv.isV=true)(off:Nat)(ho:off<cs.length)(ty:TypeId):
  CallOk Tryz.prog 149 [.c (.p 1 0),.c (.p 3 off)] (pD T p cs ty) (Bo (namP T p).1.isSome) ((1,⟨false,psC T (namP T p).2,96⟩)::(match (namP T p).1 with|some s=>[(3,⟨false,cs.set off (sC s),ty⟩)]|none=>[])):=by
 have hM:=pM_cl T p
 have hM2:=pM_cl T (namP T p).2
 have hD:=pD_cl T p hv ty
 have hh:=here_ T hT p h
 have hw:=wrong_ T hT p h
 have hnm:=name_ok (hereP T p).s (by have:=sT.here p;omega)
 have e1:((hereP T p).k==1)=(((hereP T p).k:Int)==1):=(kB _ 1).symm
 unfold namP at hM2⊢
 rw[e1]at hM2⊢
 cases hk:((hereP T p).k:Int)==1 with
 |false=>
  rw[hk]at hM2
  simp only[Bool.false_and,cond_false,Option.isSome_none]at hM2⊢
  have hD2:=pD_cl T (wrnP T p) hv ty
  refine CallOk.mkN 100 Tryz.func149 rfl en149 (by simp[Tryz.ntmps149]) (ClA.of rfl) rfl rfl fun C hR hP=>?_
  refine vv ?_
  refine CallQ.mi 100 hh hM ⟨oS,oS,trivial⟩ ?_
  simp(maxSteps:=2000000) only[go_sem,hk,bne]
  refine CallQ.guard 110 (fun _=>hnm) (fun h=>by cases h) ?_
  simp(maxSteps:=2000000) only[go_sem,hk,bne]
  refine CallQ.mi 110 hw hM ⟨oS,oS,trivial⟩ ?_
  refine vv ?_
  exact RetQ.of hR rfl scc rvv (sub_sh (SubS.sub ⟨oS,oS,oS,trivial⟩)) (clm_sh hD2) (ClV.of rfl)
 |true=>
  cases hn:nmOk (hereP T p).s with
  |false=>
   rw[hk,hn]at hM2
   simp only[Bool.and_false,cond_false,Option.isSome_none]at hM2⊢
   have hD2:=pD_cl T (wrnP T p) hv ty
   rw[hn]at hnm
   refine CallOk.mkN 100 Tryz.func149 rfl en149 (by simp[Tryz.ntmps149]) (ClA.of rfl) rfl rfl fun C hR hP=>?_
   refine vv ?_
   refine CallQ.mi 100 hh hM ⟨oS,oS,trivial⟩ ?_
   simp(maxSteps:=2000000) only[go_sem,hk,bne]
   refine CallQ.guard 110 (fun _=>hnm) (fun h=>by rw[h];rfl) ?_
   simp(maxSteps:=2000000) only[go_sem,hk,bne]
   refine CallQ.mi 100 hw hM ⟨oS,oS,trivial⟩ ?_
   refine vv ?_
   exact RetQ.of hR rfl scc rvv (sub_sh (SubS.sub ⟨oS,oS,oS,trivial⟩)) (clm_sh hD2) (ClV.of rfl)
  |true=>
   rw[hk,hn]at hM2
   simp only[Bool.and_true,cond_true,Option.isSome_some]at hM2⊢
   rw[hn]at hnm
   have hD2:=pD_cl T (advP p) (setV (i:=off) (v:= .string ⟨(hereP T p).s.toArray⟩) hv) ty
   refine CallOk.mkN 100 Tryz.func149 rfl en149 (by simp[Tryz.ntmps149]) (ClA.of rfl) rfl rfl fun C hR hP=>?_
   refine vv ?_
   refine CallQ.mi 100 hh hM ⟨oS,oS,trivial⟩ ?_
   simp(maxSteps:=2000000) only[go_sem,hk,bne]
   refine CallQ.guard 110 (fun _=>hnm) (fun h=>by rw[h];rfl) ?_
   simp(maxSteps:=2000000) only[go_sem,hk,bne]
   refine CallQ.mi 120 hh hM ⟨oS,oS,trivial⟩ ?_
   simp(maxSteps:=2000000) only[go_sem,ho,aP hT h]
   exact⟨ho,RetQ.of hR rfl scc rvv (sub_sh2 (SubS.sub ⟨oS,oS,oS,trivial⟩)) (clm_sh2 hD2) (ClV.of rfl)⟩
theorem integer_ (T:List Tk)(hT:T.length≤100000)(p:Ps)(h:p.at_<T.length)(hN:(hereP T p).k=2→CallOk Tryz.prog 266 [S (hereP T p).s] [] (.tup [Wi (nmbQ (hereP T p).s).1,Wi (nmbQ (hereP T p).s).2]) [])(cs:List Cv)(hv:cs.all Cv.isV=true)(off:Nat)(ho:off<cs.length)(ty:TypeId):
  CallOk Tryz.prog 231 [.c (.p 1 0),.c (.p 3 off)] (pD T p cs ty) (Bo (intP T p).1.isSome) ((1,⟨false,psC T (intP T p).2,96⟩)::(match (intP T p).1 with|some s=>[(3,⟨false,cs.set off (.v (.int .i64 s)),ty⟩)]|none=>[])):=by
 have hM:=pM_cl T p
 have hM2:=pM_cl T (intP T p).2
 have hD:=pD_cl T p hv ty
 have hh:=here_ T hT p h
 have hw:=wrong_ T hT p h
 have e1:((hereP T p).k==2)=(((hereP T p).k:Int)==2):=(kB _ 2).symm
 unfold intP at hM2⊢
 rw[e1]at hM2⊢
 cases hk:((hereP T p).k:Int)==2 with
 |false=>
  rw[hk]at hM2
  simp only[cond_false,Option.isSome_none]at hM2⊢
  have hD2:=pD_cl T (wrnP T p) hv ty
  refine CallOk.mkN 100 Tryz.func231 rfl en231 (by simp[Tryz.ntmps231]) (ClA.of rfl) rfl rfl fun C hR hP=>?_
  refine vv ?_
  refine CallQ.mi 100 hh hM ⟨oS,oS,trivial⟩ ?_
  simp(maxSteps:=2000000) only[go_sem,hk,bne]
  refine CallQ.mi 110 hw hM ⟨oS,oS,trivial⟩ ?_
  refine vv ?_
  exact RetQ.of hR rfl scc rvv (sub_sh (SubS.sub ⟨oS,oS,oS,trivial⟩)) (clm_sh hD2) (ClV.of rfl)
 |true=>
  rw[hk]at hM2
  simp only[cond_true,Option.isSome_some]at hM2⊢
  have hN:=hN (by have:=eq_of_beq hk;omega)
  have hD2:=pD_cl T (advP p) (setV (i:=off) (v:= .int .i64 (nmbQ (hereP T p).s).1) hv) ty
  refine CallOk.mkN 100 Tryz.func231 rfl en231 (by simp[Tryz.ntmps231]) (ClA.of rfl) rfl rfl fun C hR hP=>?_
  refine vv ?_
  refine CallQ.mi 100 hh hM ⟨oS,oS,trivial⟩ ?_
  simp(maxSteps:=2000000) only[go_sem,hk,bne]
  refine CallQ.mi 120 hh hM ⟨oS,oS,trivial⟩ ?_
  simp(maxSteps:=2000000) only[go_sem,ho]
  refine CallQ.pure 130 hN rfl ?_
  simp(maxSteps:=2000000) only[go_sem,ho,aP hT h]
  exact⟨ho,RetQ.of hR rfl scc rvv (sub_sh2 (SubS.sub ⟨oS,oS,oS,trivial⟩)) (clm_sh2 hD2) (ClV.of rfl)⟩
def rdR (f:List UInt8):Nat×Nat×Bool:=match readF f with
 |none=>(0,0,false)
 |some (i,n)=>(i,n,true)
theorem rd5 (nm:List UInt8)(n:Nat):(match Option.map (fun i=>(i,n)) (ixU nm symT 0)with
  |none=>(0,0,false)
  |some (i,n)=>(i,n,true))=bif [109]==nm then(0,n,true)else bif [107,103]==nm then(1,n,true)else bif [115]==nm then(2,n,true)else bif [65]==nm then(3,n,true)else bif [75]==nm then(4,n,true)else((0,0,false):Nat×Nat×Bool):=by
 unfold symT
 simp only[ixU]
 by_cases h0:[109]=nm
 ·subst h0;rfl
 by_cases h1:[107,103]=nm
 ·subst h1;rfl
 by_cases h2:[115]=nm
 ·subst h2;rfl
 by_cases h3:[65]=nm
 ·subst h3;rfl
 by_cases h4:[75]=nm
 ·subst h4;rfl
 rw[beq_eq_false_iff_ne.2 h0,beq_eq_false_iff_ne.2 h1,beq_eq_false_iff_ne.2 h2,beq_eq_false_iff_ne.2 h3,beq_eq_false_iff_ne.2 h4]
 simp only[if_neg h0,if_neg h1,if_neg h2,if_neg h3,if_neg h4]
 rfl
theorem sg0:(symT.map cs1)[0]?=some (cs1 [109]):=rfl
theorem sg1:(symT.map cs1)[1]?=some (cs1 [107,103]):=rfl
theorem sg2:(symT.map cs1)[2]?=some (cs1 [115]):=rfl
theorem sg3:(symT.map cs1)[3]?=some (cs1 [65]):=rfl
theorem sg4:(symT.map cs1)[4]?=some (cs1 [75]):=rfl
theorem read_ (f:List UInt8)(hf:f.length≤1000000):CallOk Tryz.prog 281 [S f] [] (.tup [Wi (rdR f).1,Wi (rdR f).2.1,Wb1 (rdR f).2.2]) []:=by
 refine CallOk.mkN 100 Tryz.func281 rfl en281 (by simp[Tryz.ntmps281]) (ClA.of rfl) rfl rfl fun C hR hP=>?_
 refine vv ?_
 refine CallQ.pure 110 (sCut f 94 hf) rfl ?_
 have hrd:rdR f=match readF f with
  |none=>(0,0,false)
  |some (i,n)=>(i,n,true):=rfl
 unfold readF at hrd
 generalize cutB 94 f=q at*
 obtain⟨nm,d,b⟩:=q
 simp only at hrd⊢
 refine vv ?_
 cases b with
 |true=>
  refine vv ?_
  match d,hrd with
  |[],hrd=>
   rw[hrd]at hR
   refine vv ?_
   exact RetQ.of hR rfl (vv trivial) rvr (Sub.nil _) ClM.nil (ClV.of rfl)
  |x::y::d,hrd=>
   have h1:(((d.length+1+1:Nat):Int)!=1)=true:=by simp;omega
   rw[hrd]at hR
   simp(maxSteps:=2000000) only[go_sem,h1]
   exact RetQ.of hR rfl (vv trivial) rvr (Sub.nil _) ClM.nil (ClV.of rfl)
  |[x],hrd=>
   simp only[if_true]at hrd
   simp(maxSteps:=2000000) only[go_sem,show([x]:List UInt8).getD 0 0=x from rfl]
   by_cases hx:50≤x.toNat∧x.toNat≤57
   ·have h1:decide ((x.toNat:Int)<50)=false:=fal_of (by omega)
    have h2:decide (57<(x.toNat:Int))=false:=fal_of (by omega)
    have w1:IntKind.u8.wrap ((x.toNat:Int)-48)=((x.toNat-48:Nat):Int):=by rw[IntKind.wrap_u8];omega
    have w2:IntKind.i64.wrap ((x.toNat-48:Nat):Int)=((x.toNat-48:Nat):Int):=by rw[w64 (by omega) (by omega)]
    rw[if_pos hx]at hrd
    generalize x.toNat-48=n at*
    simp(maxSteps:=2000000) only[go_sem,h1,h2,w1,w2]
    refine CallQ.pure 120 symbols_ rfl ?_
    refine vv ?_
    refine Sm.unroll 6 (Sm.go 130 ?_)
    simp(maxSteps:=2000000) only[go_sem,sg0,sg1,sg2,sg3,sg4]
    rw[rd5]at hrd
    refine mtch (fun hq=>?_) (fun hq=>?_)
    ·rw[hq,cond_true]at hrd
     rw[hrd]at hR
     exact RetQ.of hR rfl (vv trivial) rvr (Sub.nil _) ClM.nil (ClV.of rfl)
    rw[hq,cond_false]at hrd
    refine mtch (fun hq=>?_) (fun hq=>?_)
    ·rw[hq,cond_true]at hrd
     rw[hrd]at hR
     exact RetQ.of hR rfl (vv trivial) rvr (Sub.nil _) ClM.nil (ClV.of rfl)
    rw[hq,cond_false]at hrd
    refine mtch (fun hq=>?_) (fun hq=>?_)
    ·rw[hq,cond_true]at hrd
     rw[hrd]at hR
     exact RetQ.of hR rfl (vv trivial) rvr (Sub.nil _) ClM.nil (ClV.of rfl)
    rw[hq,cond_false]at hrd
    refine mtch (fun hq=>?_) (fun hq=>?_)
    ·rw[hq,cond_true]at hrd
     rw[hrd]at hR
     exact RetQ.of hR rfl (vv trivial) rvr (Sub.nil _) ClM.nil (ClV.of rfl)
    rw[hq,cond_false]at hrd
    refine mtch (fun hq=>?_) (fun hq=>?_)
    ·rw[hq,cond_true]at hrd
     rw[hrd]at hR
     exact RetQ.of hR rfl (vv trivial) rvr (Sub.nil _) ClM.nil (ClV.of rfl)
    rw[hq,cond_false]at hrd
    rw[hrd]at hR
    exact RetQ.of hR rfl (vv trivial) rvr (Sub.nil _) ClM.nil (ClV.of rfl)
   ·rw[if_neg hx]at hrd
    rw[hrd]at hR
    have h1:(bif decide ((x.toNat:Int)<50)then true else decide (57<(x.toNat:Int)))=true:=by
     by_cases h:(x.toNat:Int)<50
     ·simp[h]
     ·simp[h];omega
    simp(maxSteps:=2000000) only[go_sem,h1]
    exact RetQ.of hR rfl (vv trivial) rvr (Sub.nil _) ClM.nil (ClV.of rfl)
 |false=>
  simp only[Bool.false_eq_true,if_false]at hrd
  refine vv ?_
  refine CallQ.pure 120 symbols_ rfl ?_
  refine vv ?_
  refine Sm.unroll 6 (Sm.go 130 ?_)
  simp(maxSteps:=2000000) only[go_sem,sg0,sg1,sg2,sg3,sg4]
  rw[rd5]at hrd
  refine mtch (fun hq=>?_) (fun hq=>?_)
  ·rw[hq,cond_true]at hrd
   rw[hrd]at hR
   exact RetQ.of hR rfl (vv trivial) rvr (Sub.nil _) ClM.nil (ClV.of rfl)
  rw[hq,cond_false]at hrd
  refine mtch (fun hq=>?_) (fun hq=>?_)
  ·rw[hq,cond_true]at hrd
   rw[hrd]at hR
   exact RetQ.of hR rfl (vv trivial) rvr (Sub.nil _) ClM.nil (ClV.of rfl)
  rw[hq,cond_false]at hrd
  refine mtch (fun hq=>?_) (fun hq=>?_)
  ·rw[hq,cond_true]at hrd
   rw[hrd]at hR
   exact RetQ.of hR rfl (vv trivial) rvr (Sub.nil _) ClM.nil (ClV.of rfl)
  rw[hq,cond_false]at hrd
  refine mtch (fun hq=>?_) (fun hq=>?_)
  ·rw[hq,cond_true]at hrd
   rw[hrd]at hR
   exact RetQ.of hR rfl (vv trivial) rvr (Sub.nil _) ClM.nil (ClV.of rfl)
  rw[hq,cond_false]at hrd
  refine mtch (fun hq=>?_) (fun hq=>?_)
  ·rw[hq,cond_true]at hrd
   rw[hrd]at hR
   exact RetQ.of hR rfl (vv trivial) rvr (Sub.nil _) ClM.nil (ClV.of rfl)
  rw[hq,cond_false]at hrd
  rw[hrd]at hR
  exact RetQ.of hR rfl (vv trivial) rvr (Sub.nil _) ClM.nil (ClV.of rfl)
theorem parse_named (l:List UInt8)(hl:l.length≤40)(hn:(nmd l).2=true):CallOk Tryz.prog 267 [S l] [] (.tup [Wuu (nmd l).1,Wi 0]) []:=by
 have h1:decide ((40:Int)<l.length)=false:=fal_of (by omega)
 refine CallOk.mkN 100 Tryz.func267 rfl en267 (by simp[Tryz.ntmps267]) (ClA.of rfl) rfl rfl fun C hR hP=>?_
 simp(maxSteps:=2000000) only[go_sem,h1]
 refine CallQ.pure 110 (named_ l) rfl ?_
 refine vv ?_
 rw[hn]
 refine vv ?_
 exact RetQ.of hR rfl (vv trivial) rvr (Sub.nil _) ClM.nil (ClV.of rfl)
def m2:Un:=⟨2,0,0,0,0⟩
def qt:Un:=⟨-1,1, -2,0,0⟩
end Go.Proofs.YtlnpgbnhcondjaaGreatDoor.Fx
