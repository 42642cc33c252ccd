/-  -/
import Derived.Test.YtlnpgbnhcondjaaGreatDoorPS
import Derived.Test.YtlnpgbnhcondjaaGreatDoorY2
import Derived.Test.YtlnpgbnhcondjaaGreatDoorQ4
import Derived.Test.YtlnpgbnhcondjaaGreatDoorQH
import Derived.Test.YtlnpgbnhcondjaaGreatDoorQN
import Derived.Test.YtlnpgbnhcondjaaGreatDoorMB
namespace Go.Proofs.YtlnpgbnhcondjaaGreatDoor.Fx
open Vg Tf
set_option linter.unusedSimpArgs false
set_option linter.unusedVariables false
set_option maxRecDepth 100000
set_option maxHeartbeats 4000000
@[go_sem] def Tk.r (t:Tk):List Value:=[.int .i64 t.k,.string ⟨t.s.toArray⟩,.int .i64 t.l,.int .i64 t.c]
@[reducible,go_sem] def psC (T:List Tk)(p:Ps):List Cv:=[.sl 2 0 T.length 4,nC p.at_,.v (.int .i64 p.e),nC p.l,nC p.c]
@[reducible,go_sem] def pM (T:List Tk)(p:Ps):Mem:=[(1,⟨false,psC T p,96⟩),(2,⟨true,rowsC (T.map Tk.r),57⟩)]
theorem pM_cl (T:List Tk)(p:Ps):ClM (pM T p):=ClM.of (by simp only[List.all_cons,inMV (rowsC_isV _)];rfl)
@[reducible] def tkV (t:Tk):V:= .agg [.v (.int .i64 t.k),.v (.string ⟨t.s.toArray⟩),.v (.int .i64 t.l),.v (.int .i64 t.c)]
theorem here_get {T:List Tk}{p:Ps}(h:p.at_<T.length):hereP T p=T[p.at_]:=by unfold hereP;rw[List.getD_eq_getElem?_getD,List.getElem?_eq_getElem h];rfl
theorem here_ (T:List Tk)(hT:T.length≤100000)(p:Ps)(h:p.at_<T.length):CallOk Tryz.prog 147 [.c (.p 1 0)] (pM T p) (tkV (hereP T p)) []:=by
 have htk:=rows_take (r:=Tk.r) (k:=4) (fun _=>rfl) T p.at_ h
 have hz:=rows_len (r:=Tk.r) (k:=4) (fun _=>rfl) T
 have hM:=pM_cl T p
 rw[here_get h]
 generalize T[p.at_]=t at*
 refine CallOk.mkN 100 Tryz.func147 rfl en147 (by simp[Tryz.ntmps147]) (ClA.of rfl) rfl rfl fun C hR hP=>?_
 refine vv ?_
 refine Sm.dg 100 8 mix ?_
 simp(maxSteps:=2000000) only[go_sem,htk,hz,Tk.r]
 refine⟨⟨by omega,by omega⟩,by omega,?_⟩
 exact RetQ.of hR rfl (vv trivial) rvr (SubS.sub ⟨⟨_,rfl,.inl rfl⟩,⟨_,rfl,.inl rfl⟩,trivial⟩) hM (ClV.of rfl)
theorem stop_ (T:List Tk)(p:Ps)(l c:Nat)(e:Int):CallOk Tryz.prog 230 [.c (.p 1 0),.agg [nC l,nC c],I e] (pM T p) (Bo false) [(1,⟨false,psC T (stopP p l c e),96⟩)]:=by
 have hM:=pM_cl T p
 have hM2:=pM_cl T (stopP p l c e)
 refine CallOk.mkN 100 Tryz.func230 rfl en230 (by simp[Tryz.ntmps230]) (ClA.of rfl) rfl rfl fun C hR hP=>?_
 refine vv ?_
 unfold stopP at hR hM2
 cases he:p.e==0 with
 |true=>
  rw[he]at hR hM2
  refine vv ?_
  exact RetQ.of hR rfl scc rvv (sub_sh (SubS.sub ⟨⟨_,rfl,.inl rfl⟩,⟨_,rfl,.inl rfl⟩,trivial⟩)) (clm_sh hM2) (ClV.of rfl)
 |false=>
  rw[he]at hR hM2
  refine vv ?_
  exact RetQ.of hR rfl scc rvv (sub_sh (SubS.sub ⟨⟨_,rfl,.inl rfl⟩,⟨_,rfl,.inl rfl⟩,trivial⟩)) (clm_sh hM2) (ClV.of rfl)
theorem wrong_ (T:List Tk)(hT:T.length≤100000)(p:Ps)(h:p.at_<T.length):CallOk Tryz.prog 157 [.c (.p 1 0)] (pM T p) (Bo false) [(1,⟨false,psC T (wrnP T p),96⟩)]:=by
 have hM:=pM_cl T p
 have hM2:=pM_cl T (wrnP T p)
 have hh:=here_ T hT p h
 have hst:=stop_ T p (hereP T p).l (hereP T p).c
 refine CallOk.mkN 100 Tryz.func157 rfl en157 (by simp[Tryz.ntmps157]) (ClA.of rfl) rfl rfl fun C hR hP=>?_
 refine vv ?_
 refine CallQ.mio 100 hh hM rfl ⟨⟨_,rfl,.inl rfl⟩,⟨_,rfl,.inl rfl⟩,trivial⟩ rfl (.inr rfl) ?_
 refine vv ?_
 unfold wrnP at hR hM2
 cases hk:((hereP T p).k:Int)==4 with
 |true=>
  have hk2:((hereP T p).k==4)=true:=by rw[beq_iff_eq]at hk⊢;omega
  rw[hk2]at hR hM2
  refine vv ?_
  refine CallQ.mio 100 hh hM rfl ⟨⟨_,rfl,.inl rfl⟩,⟨_,rfl,.inl rfl⟩,trivial⟩ rfl (.inr rfl) ?_
  refine vv ?_
  refine CallQ.mio 100 (hst 4) hM rfl ⟨⟨_,rfl,.inl rfl⟩,⟨_,rfl,.inl rfl⟩,trivial⟩ rfl (.inl rfl) ?_
  refine vv ?_
  exact RetQ.of hR rfl scc rvv (sub_sh (SubS.sub ⟨⟨_,rfl,.inl rfl⟩,⟨_,rfl,.inl rfl⟩,trivial⟩)) (clm_sh hM2) (ClV.of rfl)
 |false=>
  have hk2:((hereP T p).k==4)=false:=by rw[beq_eq_false_iff_ne]at hk⊢;omega
  rw[hk2]at hR hM2
  refine vv ?_
  refine CallQ.mio 100 hh hM rfl ⟨⟨_,rfl,.inl rfl⟩,⟨_,rfl,.inl rfl⟩,trivial⟩ rfl (.inr rfl) ?_
  refine vv ?_
  refine CallQ.mio 100 (hst 3) hM rfl ⟨⟨_,rfl,.inl rfl⟩,⟨_,rfl,.inl rfl⟩,trivial⟩ rfl (.inl rfl) ?_
  refine vv ?_
  exact RetQ.of hR rfl scc rvv (sub_sh (SubS.sub ⟨⟨_,rfl,.inl rfl⟩,⟨_,rfl,.inl rfl⟩,trivial⟩)) (clm_sh hM2) (ClV.of rfl)
theorem kB (n m:Nat):((n:Int)==(m:Int))=(n==m):=by rw[Bool.eq_iff_iff,beq_iff_eq,beq_iff_eq];omega
theorem is_ (T:List Tk)(hT:T.length≤100000)(p:Ps)(h:p.at_<T.length)(s:Str):CallOk Tryz.prog 229 [.c (.p 1 0),S s] (pM T p) (Bo (isP T s p)) []:=by
 have hM:=pM_cl T p
 have hh:=here_ T hT p h
 have e1:((hereP T p).k==1)=(((hereP T p).k:Int)==1):=(kB _ 1).symm
 have e3:((hereP T p).k==3)=(((hereP T p).k:Int)==3):=(kB _ 3).symm
 refine CallOk.mkN 100 Tryz.func229 rfl en229 (by simp[Tryz.ntmps229]) (ClA.of rfl) rfl rfl fun C hR hP=>?_
 refine vv ?_
 refine CallQ.mio 100 hh hM rfl ⟨⟨_,rfl,.inl rfl⟩,⟨_,rfl,.inl rfl⟩,trivial⟩ rfl (.inr rfl) ?_
 refine vv ?_
 unfold isP at hR
 rw[e1,e3]at hR
 refine RetQ.of hR rfl scc ?_ (SubS.sub ⟨⟨_,rfl,.inl rfl⟩,⟨_,rfl,.inl rfl⟩,trivial⟩) hM (ClV.of rfl)
 cases ((hereP T p).k:Int)==1<;>cases ((hereP T p).k:Int)==3<;>cases (hereP T p).s==s<;>rfl
theorem aP {p:Ps}{T:List Tk}(hT:T.length≤100000)(h:p.at_<T.length):IntKind.i64.wrap ((p.at_:Int)+1)=((p.at_+1:Nat):Int):=wS (by omega)
theorem take_ (T:List Tk)(hT:T.length≤100000)(p:Ps)(h:p.at_<T.length)(s:Str):CallOk Tryz.prog 148 [.c (.p 1 0),S s] (pM T p) (Bo (takP T s p).1) [(1,⟨false,psC T (takP T s p).2,96⟩)]:=by
 have hM:=pM_cl T p
 have hM2:=pM_cl T (takP T s p).2
 have hi:=is_ T hT p h s
 have hw:=wrong_ T hT p h
 refine CallOk.mkN 100 Tryz.func148 rfl en148 (by simp[Tryz.ntmps148]) (ClA.of rfl) rfl rfl fun C hR hP=>?_
 refine vv ?_
 refine CallQ.mio 100 hi hM rfl ⟨⟨_,rfl,.inl rfl⟩,⟨_,rfl,.inl rfl⟩,trivial⟩ rfl (.inr rfl) ?_
 refine vv ?_
 unfold takP at hR hM2
 cases hb:isP T s p with
 |true=>
  rw[hb]at hR hM2
  simp(maxSteps:=2000000) only[go_sem,aP hT h]
  exact RetQ.of hR rfl scc rvv (sub_sh (SubS.sub ⟨⟨_,rfl,.inl rfl⟩,⟨_,rfl,.inl rfl⟩,trivial⟩)) (clm_sh hM2) (ClV.of rfl)
 |false=>
  rw[hb]at hR hM2
  refine vv ?_
  refine CallQ.mio 100 hw hM rfl ⟨⟨_,rfl,.inl rfl⟩,⟨_,rfl,.inl rfl⟩,trivial⟩ rfl (.inl rfl) ?_
  refine vv ?_
  exact RetQ.of hR rfl scc rvv (sub_sh (SubS.sub ⟨⟨_,rfl,.inl rfl⟩,⟨_,rfl,.inl rfl⟩,trivial⟩)) (clm_sh hM2) (ClV.of rfl)
theorem end_ (T:List Tk)(hT:T.length≤100000)(p:Ps)(h:p.at_<T.length):CallOk Tryz.prog 150 [.c (.p 1 0)] (pM T p) (Bo (endP T p).1) [(1,⟨false,psC T (endP T p).2,96⟩)]:=by
 have hM:=pM_cl T p
 have hM2:=pM_cl T (endP T p).2
 have hh:=here_ T hT p h
 have hst:=stop_ T p (hereP T p).l (hereP T p).c 3
 have e4:((hereP T p).k==4)=(((hereP T p).k:Int)==4):=(kB _ 4).symm
 refine CallOk.mkN 100 Tryz.func150 rfl en150 (by simp[Tryz.ntmps150]) (ClA.of rfl) rfl rfl fun C hR hP=>?_
 refine vv ?_
 refine CallQ.mio 100 hh hM rfl ⟨⟨_,rfl,.inl rfl⟩,⟨_,rfl,.inl rfl⟩,trivial⟩ rfl (.inr rfl) ?_
 refine vv ?_
 unfold endP at hR hM2
 rw[e4]at hR hM2
 cases hk:((hereP T p).k:Int)==4 with
 |true=>
  rw[hk]at hR hM2
  simp(maxSteps:=2000000) only[go_sem,hk,bne,aP hT h]
  exact RetQ.of hR rfl scc rvv (sub_sh (SubS.sub ⟨⟨_,rfl,.inl rfl⟩,⟨_,rfl,.inl rfl⟩,trivial⟩)) (clm_sh hM2) (ClV.of rfl)
 |false=>
  rw[hk]at hR hM2
  simp(maxSteps:=2000000) only[go_sem,hk,bne]
  refine CallQ.mio 110 hst hM rfl ⟨⟨_,rfl,.inl rfl⟩,⟨_,rfl,.inl rfl⟩,trivial⟩ rfl (.inl rfl) ?_
  refine vv ?_
  exact RetQ.of hR rfl scc rvv (sub_sh (SubS.sub ⟨⟨_,rfl,.inl rfl⟩,⟨_,rfl,.inl rfl⟩,trivial⟩)) (clm_sh hM2) (ClV.of rfl)
theorem full_ (T:List Tk)(p:Ps)(f:Tk)(m l:Nat):CallOk Tryz.prog 233 [.c (.p 1 0),tkV f,I m,I l] (pM T p) (Bo (fulP f m l p).1) [(1,⟨false,psC T (fulP f m l p).2,96⟩)]:=by
 have hM:=pM_cl T p
 have hM2:=pM_cl T (fulP f m l p).2
 have hst:=stop_ T p f.l f.c 5
 have e4:decide (l≤m)=decide ((l:Int)≤(m:Int)):=by rw[decide_eq_decide];omega
 refine CallOk.mkN 100 Tryz.func233 rfl en233 (by simp[Tryz.ntmps233]) (ClA.of rfl) rfl rfl fun C hR hP=>?_
 refine vv ?_
 unfold fulP at hR hM2
 rw[e4]at hR hM2
 cases hk:decide ((l:Int)≤(m:Int))with
 |true=>
  rw[hk]at hR hM2
  simp(maxSteps:=2000000) only[go_sem,hk]
  refine CallQ.mio 110 hst hM rfl ⟨⟨_,rfl,.inl rfl⟩,⟨_,rfl,.inl rfl⟩,trivial⟩ rfl (.inl rfl) ?_
  refine vv ?_
  exact RetQ.of hR rfl scc rvv (sub_sh (SubS.sub ⟨⟨_,rfl,.inl rfl⟩,⟨_,rfl,.inl rfl⟩,trivial⟩)) (clm_sh hM2) (ClV.of rfl)
 |false=>
  rw[hk]at hR hM2
  simp(maxSteps:=2000000) only[go_sem,hk]
  exact RetQ.of hR rfl scc rvv (sub_sh (SubS.sub ⟨⟨_,rfl,.inl rfl⟩,⟨_,rfl,.inl rfl⟩,trivial⟩)) (clm_sh hM2) (ClV.of rfl)
end Go.Proofs.YtlnpgbnhcondjaaGreatDoor.Fx
namespace Go.Proofs.YtlnpgbnhcondjaaGreatDoor.Fx
open Vg Tf
set_option linter.unusedSimpArgs false
set_option linter.unusedVariables false
set_option maxRecDepth 100000
set_option maxHeartbeats 4000000
theorem _root_.Go.Proofs.YtlnpgbnhcondjaaGreatDoor.Vg.Stp.idxV {P:Program}{o:Oper}{e:Env}{M:Mem}{ty el:TypeId}{x i:Operand}{b off len c sz:Nat}{ki:IntKind}{k:Int}(ho:o.op= .indexAddr ty x i)(hx:rd e x=some (true,.c (.v (.slice (some ⟨b,off,none⟩) len c))))(hi:rd e i=some (true,.c (.v (.int ki k))))
  (hsl:slOf P ty=some (el,sz)) (h0:0≤k) (hlt:k<len):Stp P o e M (.c (.v (.pointer (some ⟨b,off+k.toNat*sz,none⟩)))) []:=by
 obtain⟨hu,hsz,hsz0⟩:=slOf_ok hsl
 exact Stp.pure fun β a hop w=>by
  have hex:=hop x (by simp[ho,Op.operands]) _ hx
  have hei:=hop i (by simp[ho,Op.operands]) _ hi
  simp only[gv,V.g,Cv.g,cond_true]at hex hei
  unfold execOp
  simp[ho,hex,hei,Instr.indexAt,asIntOf,run_underlying hu,h0,hlt,run_sizeOf' hsz hsz0,V.g,Cv.g,Addr.add_lit]
theorem _root_.Go.Proofs.YtlnpgbnhcondjaaGreatDoor.Vg.SlH.at {H:Hp}{v:Value}{sz:Nat}{rows:List (List Value)}(h:SlH H v sz rows)(h0:rows.flatten≠[]):∃b o c,v= .slice (some ⟨b,o,none⟩) rows.length c∧∃cs el mk,H b (.cells cs el mk)∧∀i x,rows.flatten[i]?=some x→cs[o+i]?=some x:=by
 obtain⟨l,h1,h2,h3⟩:=h
 have hn:l.nul=false:=by
  cases hq:l.nul with
  |false=>rfl
  |true=>exact absurd (h3.1 hq) h0
 obtain⟨c,el,mk,q1,q2⟩:=h3.2.2 hn
 refine⟨l.blk,l.org,(l.siz-0)/sz,?_,c,el,mk,q1,q2⟩
 rw[h1]
 simp only[Cv.g,hn,Bool.false_eq_true,false_and,if_false,Nat.add_zero]
def delT:Str:=[100,101,108,97,121]
def lagT:Str:=[108,97,103]
def limT (t:Ft):Int×Int:=(bif fok t then flo t else 0,bif fok t then fhi t else 0)
def newB (d:Dg)(rs:List (Int×Int))(s:Int×Int)(i:Nat)(b:Bl):Int×Int:=
 bif b.kd==delT then hulR s (cnvR (rs.getD (sgN (sigs d) (b.ins.getD 0 [])) (0,0)) (tyAt d (sgN (sigs d) (b.ins.getD 0 []))) (tyN d.tys b.ty))
 else bif b.kd==lagT then rs.getD (d.ins.length+i) (0,0)else s
def newS (d:Dg)(rs:List (Int×Int))(s:Int×Int)(i:Nat):Int×Int:=newB d rs s i (d.bls.getD i bl0)
end Go.Proofs.YtlnpgbnhcondjaaGreatDoor.Fx
namespace Go.Proofs.YtlnpgbnhcondjaaGreatDoor.Fx
open Vg Tf
set_option linter.unusedSimpArgs false
set_option linter.unusedVariables false
set_option maxRecDepth 100000
set_option maxHeartbeats 4000000
def upto (f:Nat→Int×Int)(N i:Nat):List (Int×Int):=(List.range N).map fun j=>if j<i then f j else(0,0)
def po0:Po:=⟨[],[],0,0⟩
def inF (d:Dg)(j:Nat):Int×Int:=((d.ins.getD j po0).lo,(d.ins.getD j po0).hi)
def stF (d:Dg)(j:Nat):Int×Int:=let b:=d.bls.getD j bl0;bif b.kd==delT then(b.ks.getD 0 0,b.ks.getD 0 0)else(0,0)
def r0 (d:Dg):List (Int×Int):=upto (inF d) (d.ins.length+d.bls.length) d.ins.length
def s0 (d:Dg):List (Int×Int):=upto (stF d) d.bls.length d.bls.length
end Go.Proofs.YtlnpgbnhcondjaaGreatDoor.Fx
namespace Go.Proofs.YtlnpgbnhcondjaaGreatDoor.Fx
set_option linter.unusedVariables false
set_option maxHeartbeats 4000000
theorem lim0 (t:Ft):(limT t).1≤0∧0≤(limT t).2:=by
 unfold limT
 cases h:fok t with
 |true=>have:=flo_bd t h;simp only[cond_true];omega
 |false=>simp
def gdR (t:Ft)(r:Int×Int):Prop:=(limT t).1≤r.1∧r.1≤r.2∧r.2≤(limT t).2
theorem gd0 (t:Ft):gdR t (0,0):=⟨(lim0 t).1,Int.le_refl _,(lim0 t).2⟩
theorem wi_lim {t:Ft}{x:Int}(h:wiB t x=true):(limT t).1≤x∧x≤(limT t).2:=by
 unfold wiB at h
 rw[Bool.and_eq_true,decide_eq_true_eq,decide_eq_true_eq]at h
 exact h
end Go.Proofs.YtlnpgbnhcondjaaGreatDoor.Fx
namespace Go.Proofs.YtlnpgbnhcondjaaGreatDoor.Fx
set_option linter.unusedVariables false
end Go.Proofs.YtlnpgbnhcondjaaGreatDoor.Fx
namespace Go.Proofs.YtlnpgbnhcondjaaGreatDoor.Fx
set_option linter.unusedVariables false
theorem firstF_no {α:Type}{f:α→Option (Str×Int)}:∀{l:List α},firstF f l=none↔∀x∈l,f x=none
 |[]=>by simp[firstF]
 |y::l=>by
  rw[firstF_cons]
  cases hy:f y with
  |some z=>simp[hy]
  |none=>rw[Option.none_or,firstF_no];simp[hy]
structure Chkd (d:Dg):Prop where
 ok:dgOk d=true
 dup:dupF [] (allN d)=none
 inp:∀p∈d.ins,inpE d.tys p=none
 blk:∀b∈d.bls,blkE d.tys d.cus d.mas (sigs d) b=none
 out:outE (sigs d) [] d.ous=none
 fit:∀b∈d.bls,fitE d b=none
theorem Chkd.of {d:Dg}(h:dgOk d=true)(h2:allE d=none):Chkd d:=by
 unfold allE at h2
 cases hd:dupF [] (allN d)with
 |some s=>rw[hd]at h2;cases h2
 |none=>
  rw[hd]at h2
  simp only[Option.or_eq_none_iff]at h2
  obtain⟨h3,h4,h5,h6⟩:=h2
  exact⟨h,hd,firstF_no.1 h3,firstF_no.1 h4,h5,firstF_no.1 h6⟩
theorem Chkd.num {d:Dg}(k:Chkd d){b:Bl}(hb:b∈d.bls):numB (tyN d.tys b.ty) b=true:=by
 have:=k.fit b hb
 unfold fitE at this
 split at this
 ·cases this
 ·split at this
  ·cases this
  ·rename_i h;simpa using h
theorem Chkd.inr {d:Dg}(k:Chkd d){p:Po}(hp:p∈d.ins):gdR (tyN d.tys p.ty) (p.lo,p.hi):=by
 have:=k.inp p hp
 unfold inpE at this
 split at this
 ·cases this
 ·split at this
  ·cases this
  ·rename_i h
   simp only[Bool.or_eq_true,decide_eq_true_eq,Bool.not_eq_true',not_or,Bool.not_eq_false]at h
   obtain⟨h1,h2,h3⟩:=h
   exact⟨(wi_lim h2).1,by show p.lo≤p.hi;omega,(wi_lim h3).2⟩
end Go.Proofs.YtlnpgbnhcondjaaGreatDoor.Fx
namespace Go.Proofs.YtlnpgbnhcondjaaGreatDoor.Fx
open Vg Tf
set_option linter.unusedSimpArgs false
set_option linter.unusedVariables false
set_option maxRecDepth 100000
set_option maxHeartbeats 4000000
theorem cloPo {H:Hp}(v:Value)(rows:List (List Value))(h:SlH H v 4 rows)(h1:∀r∈rows,r.length=4)(hV:(rowsC rows).all Cv.one=true)(hl:rows.length≤1000000):
  CallX H Tryz.prog 100 [.c (.v v)] [] (fun _:Unit=> .c (.sl 2 0 rows.length 4)) (fun _=>[(2,⟨false,rowsC rows,118⟩)]) (fun _ _=>True):=by
 have hz:=rowsC_len (k:=4) rows h1
 have htk:List.take (rows.length*4) (rowsC rows)=rowsC rows:=List.take_of_length_le (by omega)
 refine CallX.mkS Tryz.func100 rfl en100 (by simp[Tryz.ntmps100]) (ClA.of rfl) (fun _=>rfl) (fun _=>rfl) fun C hR hP hH hL=>?_
 have hR:=hR () C hL trivial
 refine Sm.bringR 1 118 0 (h.mono hH) rfl rfl (Sm.go 100 ?_)
 refine vv ?_
 refine Sm.eqNil rfl rfl rfl rfl rfl rfl (fun h0=>?_) ?_
 ·have h0:rows=[]:=List.length_eq_zero_iff.1 h0
  subst h0
  refine Sm.go 100 ?_
  refine vv ?_
  refine RetQ.nils 110 4 118 [2] [] rfl ?_
  refine vv ?_
  exact RetQ.ren [(2,110)] hR hP rfl scc rfl rfl trivial ⟨.inr ⟨_,rfl,.inl rfl⟩,trivial⟩ (ClM.of rfl) (ClV.of rfl)
 ·refine Sm.go 100 ?_
  simp(maxSteps:=2000000) only[go_sem,htk,hz]
  refine⟨by first|exact hV|exact⟨⟨by omega,hV⟩,by omega,by omega⟩|exact⟨by omega,by omega,by omega⟩|skip,?_⟩
  exact RetQ.ren [(2,101)] hR hP rfl scc rfl rfl trivial ⟨.inr ⟨_,rfl,.inl (renV (rowsC_isV _))⟩,trivial⟩ (ClM.of (by simp only[List.cons_append,List.nil_append,List.all_cons,inMV (rowsC_isV _)];rfl)) (ClV.of rfl)
theorem cloBl {H:Hp}(v:Value)(rows:List (List Value))(h:SlH H v 6 rows)(h1:∀r∈rows,r.length=6)(hV:(rowsC rows).all Cv.one=true)(hl:rows.length≤1000000):
  CallX H Tryz.prog 101 [.c (.v v)] [] (fun _:Unit=> .c (.sl 2 0 rows.length 6)) (fun _=>[(2,⟨false,rowsC rows,82⟩)]) (fun _ _=>True):=by
 have hz:=rowsC_len (k:=6) rows h1
 have htk:List.take (rows.length*6) (rowsC rows)=rowsC rows:=List.take_of_length_le (by omega)
 refine CallX.mkS Tryz.func101 rfl en101 (by simp[Tryz.ntmps101]) (ClA.of rfl) (fun _=>rfl) (fun _=>rfl) fun C hR hP hH hL=>?_
 have hR:=hR () C hL trivial
 refine Sm.bringR 1 82 0 (h.mono hH) rfl rfl (Sm.go 100 ?_)
 refine vv ?_
 refine Sm.eqNil rfl rfl rfl rfl rfl rfl (fun h0=>?_) ?_
 ·have h0:rows=[]:=List.length_eq_zero_iff.1 h0
  subst h0
  refine Sm.go 100 ?_
  refine vv ?_
  refine RetQ.nils 110 6 82 [2] [] rfl ?_
  refine vv ?_
  exact RetQ.ren [(2,110)] hR hP rfl scc rfl rfl trivial ⟨.inr ⟨_,rfl,.inl rfl⟩,trivial⟩ (ClM.of rfl) (ClV.of rfl)
 ·refine Sm.go 100 ?_
  simp(maxSteps:=2000000) only[go_sem,htk,hz]
  refine⟨by first|exact hV|exact⟨⟨by omega,hV⟩,by omega,by omega⟩|exact⟨by omega,by omega,by omega⟩|skip,?_⟩
  exact RetQ.ren [(2,101)] hR hP rfl scc rfl rfl trivial ⟨.inr ⟨_,rfl,.inl (renV (rowsC_isV _))⟩,trivial⟩ (ClM.of (by simp only[List.cons_append,List.nil_append,List.all_cons,inMV (rowsC_isV _)];rfl)) (ClV.of rfl)
theorem cloSs {H:Hp}(v:Value)(rows:List (List Value))(h:SlH H v 1 rows)(h1:∀r∈rows,r.length=1)(hV:(rowsC rows).all Cv.one=true)(hl:rows.length≤1000000):
  CallX H Tryz.prog 102 [.c (.v v)] [] (fun _:Unit=> .c (.sl 2 0 rows.length 1)) (fun _=>[(2,⟨false,rowsC rows,9⟩)]) (fun _ _=>True):=by
 have hz:=rowsC_len (k:=1) rows h1
 have htk:List.take rows.length (rowsC rows)=rowsC rows:=List.take_of_length_le (by omega)
 refine CallX.mkS Tryz.func102 rfl en102 (by simp[Tryz.ntmps102]) (ClA.of rfl) (fun _=>rfl) (fun _=>rfl) fun C hR hP hH hL=>?_
 have hR:=hR () C hL trivial
 refine Sm.bringR 1 9 0 (h.mono hH) rfl rfl (Sm.go 100 ?_)
 refine vv ?_
 refine Sm.eqNil rfl rfl rfl rfl rfl rfl (fun h0=>?_) ?_
 ·have h0:rows=[]:=List.length_eq_zero_iff.1 h0
  subst h0
  refine Sm.go 100 ?_
  refine vv ?_
  refine RetQ.nils 110 1 9 [2] [] rfl ?_
  refine vv ?_
  exact RetQ.ren [(2,110)] hR hP rfl scc rfl rfl trivial ⟨.inr ⟨_,rfl,.inl rfl⟩,trivial⟩ (ClM.of rfl) (ClV.of rfl)
 ·refine Sm.go 100 ?_
  simp(maxSteps:=2000000) only[go_sem,htk,hz]
  refine⟨by first|exact hV|exact⟨⟨by omega,hV⟩,by omega,by omega⟩|exact⟨by omega,by omega,by omega⟩|skip,?_⟩
  exact RetQ.ren [(2,101)] hR hP rfl scc rfl rfl trivial ⟨.inr ⟨_,rfl,.inl (renV (rowsC_isV _))⟩,trivial⟩ (ClM.of (by simp only[List.cons_append,List.nil_append,List.all_cons,inMV (rowsC_isV _)];rfl)) (ClV.of rfl)
end Go.Proofs.YtlnpgbnhcondjaaGreatDoor.Fx
