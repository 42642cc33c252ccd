/-  -/
import Derived.Test.YtlnpgbnhcondjaaGreatDoorPS
import Derived.Test.YtlnpgbnhcondjaaGreatDoorQH
import Derived.Test.YtlnpgbnhcondjaaGreatDoorQ4
import Derived.Test.YtlnpgbnhcondjaaGreatDoorQN
import Derived.Test.YtlnpgbnhcondjaaGreatDoorMB
namespace Go.Proofs.YtlnpgbnhcondjaaGreatDoor.Fx
open Vg Tf
set_option linter.unusedSimpArgs false
set_option linter.unusedVariables false
set_option maxRecDepth 100000
set_option maxHeartbeats 4000000
@[go_sem] def Tk.r (t:Tk):List Value:=[.int .i64 t.k,.string ⟨t.s.toArray⟩,.int .i64 t.l,.int .i64 t.c]
@[reducible,go_sem] def psC (T:List Tk)(p:Ps):List Cv:=[.sl 2 0 T.length 4,nC p.at_,.v (.int .i64 p.e),nC p.l,nC p.c]
@[reducible,go_sem] def pM (T:List Tk)(p:Ps):Mem:=[(1,⟨false,psC T p,96⟩),(2,⟨true,rowsC (T.map Tk.r),57⟩)]
theorem pM_cl (T:List Tk)(p:Ps):ClM (pM T p):=ClM.of (by simp only[List.all_cons,inMV (rowsC_isV _)];rfl)
@[reducible] def tkV (t:Tk):V:= .agg [.v (.int .i64 t.k),.v (.string ⟨t.s.toArray⟩),.v (.int .i64 t.l),.v (.int .i64 t.c)]
theorem here_get {T:List Tk}{p:Ps}(h:p.at_<T.length):hereP T p=T[p.at_]:=by unfold hereP;rw[List.getD_eq_getElem?_getD,List.getElem?_eq_getElem h];rfl
theorem here_ (T:List Tk)(hT:T.length≤100000)(p:Ps)(h:p.at_<T.length):CallOk Tryz.prog 147 [.c (.p 1 0)] (pM T p) (tkV (hereP T p)) []:=by
 have htk:=rows_take (r:=Tk.r) (k:=4) (fun _=>rfl) T p.at_ h
 have hz:=rows_len (r:=Tk.r) (k:=4) (fun _=>rfl) T
 have hM:=pM_cl T p
 rw[here_get h]
 generalize T[p.at_]=t at*
 refine CallOk.mkN 100 Tryz.func147 rfl en147 (by simp[Tryz.ntmps147]) (ClA.of rfl) rfl rfl fun C hR hP=>?_
 refine vv ?_
 refine Sm.dg 100 8 mix ?_
 simp(maxSteps:=2000000) only[go_sem,htk,hz,Tk.r]
 refine⟨⟨by omega,by omega⟩,by omega,?_⟩
 exact RetQ.of hR rfl (vv trivial) rvr (SubS.sub ⟨⟨_,rfl,.inl rfl⟩,⟨_,rfl,.inl rfl⟩,trivial⟩) hM (ClV.of rfl)
theorem stop_ (T:List Tk)(p:Ps)(l c:Nat)(e:Int):CallOk Tryz.prog 230 [.c (.p 1 0),.agg [nC l,nC c],I e] (pM T p) (Bo false) [(1,⟨false,psC T (stopP p l c e),96⟩)]:=by
 have hM:=pM_cl T p
 have hM2:=pM_cl T (stopP p l c e)
 refine CallOk.mkN 100 Tryz.func230 rfl en230 (by simp[Tryz.ntmps230]) (ClA.of rfl) rfl rfl fun C hR hP=>?_
 refine vv ?_
 unfold stopP at hR hM2
 cases he:p.e==0 with
 |true=>
  rw[he]at hR hM2
  refine vv ?_
  exact RetQ.of hR rfl scc rvv (sub_sh (SubS.sub ⟨⟨_,rfl,.inl rfl⟩,⟨_,rfl,.inl rfl⟩,trivial⟩)) (clm_sh hM2) (ClV.of rfl)
 |false=>
  rw[he]at hR hM2
  refine vv ?_
  exact RetQ.of hR rfl scc rvv (sub_sh (SubS.sub ⟨⟨_,rfl,.inl rfl⟩,⟨_,rfl,.inl rfl⟩,trivial⟩)) (clm_sh hM2) (ClV.of rfl)
theorem wrong_ (T:List Tk)(hT:T.length≤100000)(p:Ps)(h:p.at_<T.length):CallOk Tryz.prog 157 [.c (.p 1 0)] (pM T p) (Bo false) [(1,⟨false,psC T (wrnP T p),96⟩)]:=by
 have hM:=pM_cl T p
 have hM2:=pM_cl T (wrnP T p)
 have hh:=here_ T hT p h
 have hst:=stop_ T p (hereP T p).l (hereP T p).c
 refine CallOk.mkN 100 Tryz.func157 rfl en157 (by simp[Tryz.ntmps157]) (ClA.of rfl) rfl rfl fun C hR hP=>?_
 refine vv ?_
 refine CallQ.mio 100 hh hM rfl ⟨⟨_,rfl,.inl rfl⟩,⟨_,rfl,.inl rfl⟩,trivial⟩ rfl (.inr rfl) ?_
 refine vv ?_
 unfold wrnP at hR hM2
 cases hk:((hereP T p).k:Int)==4 with
 |true=>
  have hk2:((hereP T p).k==4)=true:=by rw[beq_iff_eq]at hk⊢;omega
  rw[hk2]at hR hM2
  refine vv ?_
  refine CallQ.mio 100 hh hM rfl ⟨⟨_,rfl,.inl rfl⟩,⟨_,rfl,.inl rfl⟩,trivial⟩ rfl (.inr rfl) ?_
  refine vv ?_
  refine CallQ.mio 100 (hst 4) hM rfl ⟨⟨_,rfl,.inl rfl⟩,⟨_,rfl,.inl rfl⟩,trivial⟩ rfl (.inl rfl) ?_
  refine vv ?_
  exact RetQ.of hR rfl scc rvv (sub_sh (SubS.sub ⟨⟨_,rfl,.inl rfl⟩,⟨_,rfl,.inl rfl⟩,trivial⟩)) (clm_sh hM2) (ClV.of rfl)
 |false=>
  have hk2:((hereP T p).k==4)=false:=by rw[beq_eq_false_iff_ne]at hk⊢;omega
  rw[hk2]at hR hM2
  refine vv ?_
  refine CallQ.mio 100 hh hM rfl ⟨⟨_,rfl,.inl rfl⟩,⟨_,rfl,.inl rfl⟩,trivial⟩ rfl (.inr rfl) ?_
  refine vv ?_
  refine CallQ.mio 100 (hst 3) hM rfl ⟨⟨_,rfl,.inl rfl⟩,⟨_,rfl,.inl rfl⟩,trivial⟩ rfl (.inl rfl) ?_
  refine vv ?_
  exact RetQ.of hR rfl scc rvv (sub_sh (SubS.sub ⟨⟨_,rfl,.inl rfl⟩,⟨_,rfl,.inl rfl⟩,trivial⟩)) (clm_sh hM2) (ClV.of rfl)
theorem kB (n m:Nat):((n:Int)==(m:Int))=(n==m):=by rw[Bool.eq_iff_iff,beq_iff_eq,beq_iff_eq];omega
theorem is_ (T:List Tk)(hT:T.length≤100000)(p:Ps)(h:p.at_<T.length)(s:Str):CallOk Tryz.prog 229 [.c (.p 1 0),S s] (pM T p) (Bo (isP T s p)) []:=by
 have hM:=pM_cl T p
 have hh:=here_ T hT p h
 have e1:((hereP T p).k==1)=(((hereP T p).k:Int)==1):=(kB _ 1).symm
 have e3:((hereP T p).k==3)=(((hereP T p).k:Int)==3):=(kB _ 3).symm
 refine CallOk.mkN 100 Tryz.func229 rfl en229 (by simp[Tryz.ntmps229]) (ClA.of rfl) rfl rfl fun C hR hP=>?_
 refine vv ?_
 refine CallQ.mio 100 hh hM rfl ⟨⟨_,rfl,.inl rfl⟩,⟨_,rfl,.inl rfl⟩,trivial⟩ rfl (.inr rfl) ?_
 refine vv ?_
 unfold isP at hR
 rw[e1,e3]at hR
 refine RetQ.of hR rfl scc ?_ (SubS.sub ⟨⟨_,rfl,.inl rfl⟩,⟨_,rfl,.inl rfl⟩,trivial⟩) hM (ClV.of rfl)
 cases ((hereP T p).k:Int)==1<;>cases ((hereP T p).k:Int)==3<;>cases (hereP T p).s==s<;>rfl
theorem aP {p:Ps}{T:List Tk}(hT:T.length≤100000)(h:p.at_<T.length):IntKind.i64.wrap ((p.at_:Int)+1)=((p.at_+1:Nat):Int):=wS (by omega)
theorem take_ (T:List Tk)(hT:T.length≤100000)(p:Ps)(h:p.at_<T.length)(s:Str):CallOk Tryz.prog 148 [.c (.p 1 0),S s] (pM T p) (Bo (takP T s p).1) [(1,⟨false,psC T (takP T s p).2,96⟩)]:=by
 have hM:=pM_cl T p
 have hM2:=pM_cl T (takP T s p).2
 have hi:=is_ T hT p h s
 have hw:=wrong_ T hT p h
 refine CallOk.mkN 100 Tryz.func148 rfl en148 (by simp[Tryz.ntmps148]) (ClA.of rfl) rfl rfl fun C hR hP=>?_
 refine vv ?_
 refine CallQ.mio 100 hi hM rfl ⟨⟨_,rfl,.inl rfl⟩,⟨_,rfl,.inl rfl⟩,trivial⟩ rfl (.inr rfl) ?_
 refine vv ?_
 unfold takP at hR hM2
 cases hb:isP T s p with
 |true=>
  rw[hb]at hR hM2
  simp(maxSteps:=2000000) only[go_sem,aP hT h]
  exact RetQ.of hR rfl scc rvv (sub_sh (SubS.sub ⟨⟨_,rfl,.inl rfl⟩,⟨_,rfl,.inl rfl⟩,trivial⟩)) (clm_sh hM2) (ClV.of rfl)
 |false=>
  rw[hb]at hR hM2
  refine vv ?_
  refine CallQ.mio 100 hw hM rfl ⟨⟨_,rfl,.inl rfl⟩,⟨_,rfl,.inl rfl⟩,trivial⟩ rfl (.inl rfl) ?_
  refine vv ?_
  exact RetQ.of hR rfl scc rvv (sub_sh (SubS.sub ⟨⟨_,rfl,.inl rfl⟩,⟨_,rfl,.inl rfl⟩,trivial⟩)) (clm_sh hM2) (ClV.of rfl)
theorem end_ (T:List Tk)(hT:T.length≤100000)(p:Ps)(h:p.at_<T.length):CallOk Tryz.prog 150 [.c (.p 1 0)] (pM T p) (Bo (endP T p).1) [(1,⟨false,psC T (endP T p).2,96⟩)]:=by
 have hM:=pM_cl T p
 have hM2:=pM_cl T (endP T p).2
 have hh:=here_ T hT p h
 have hst:=stop_ T p (hereP T p).l (hereP T p).c 3
 have e4:((hereP T p).k==4)=(((hereP T p).k:Int)==4):=(kB _ 4).symm
 refine CallOk.mkN 100 Tryz.func150 rfl en150 (by simp[Tryz.ntmps150]) (ClA.of rfl) rfl rfl fun C hR hP=>?_
 refine vv ?_
 refine CallQ.mio 100 hh hM rfl ⟨⟨_,rfl,.inl rfl⟩,⟨_,rfl,.inl rfl⟩,trivial⟩ rfl (.inr rfl) ?_
 refine vv ?_
 unfold endP at hR hM2
 rw[e4]at hR hM2
 cases hk:((hereP T p).k:Int)==4 with
 |true=>
  rw[hk]at hR hM2
  simp(maxSteps:=2000000) only[go_sem,hk,bne,aP hT h]
  exact RetQ.of hR rfl scc rvv (sub_sh (SubS.sub ⟨⟨_,rfl,.inl rfl⟩,⟨_,rfl,.inl rfl⟩,trivial⟩)) (clm_sh hM2) (ClV.of rfl)
 |false=>
  rw[hk]at hR hM2
  simp(maxSteps:=2000000) only[go_sem,hk,bne]
  refine CallQ.mio 110 hst hM rfl ⟨⟨_,rfl,.inl rfl⟩,⟨_,rfl,.inl rfl⟩,trivial⟩ rfl (.inl rfl) ?_
  refine vv ?_
  exact RetQ.of hR rfl scc rvv (sub_sh (SubS.sub ⟨⟨_,rfl,.inl rfl⟩,⟨_,rfl,.inl rfl⟩,trivial⟩)) (clm_sh hM2) (ClV.of rfl)
theorem full_ (T:List Tk)(p:Ps)(f:Tk)(m l:Nat):CallOk Tryz.prog 233 [.c (.p 1 0),tkV f,I m,I l] (pM T p) (Bo (fulP f m l p).1) [(1,⟨false,psC T (fulP f m l p).2,96⟩)]:=by
 have hM:=pM_cl T p
 have hM2:=pM_cl T (fulP f m l p).2
 have hst:=stop_ T p f.l f.c 5
 have e4:decide (l≤m)=decide ((l:Int)≤(m:Int)):=by rw[decide_eq_decide];omega
 refine CallOk.mkN 100 Tryz.func233 rfl en233 (by simp[Tryz.ntmps233]) (ClA.of rfl) rfl rfl fun C hR hP=>?_
 refine vv ?_
 unfold fulP at hR hM2
 rw[e4]at hR hM2
 cases hk:decide ((l:Int)≤(m:Int))with
 |true=>
  rw[hk]at hR hM2
  simp(maxSteps:=2000000) only[go_sem,hk]
  refine CallQ.mio 110 hst hM rfl ⟨⟨_,rfl,.inl rfl⟩,⟨_,rfl,.inl rfl⟩,trivial⟩ rfl (.inl rfl) ?_
  refine vv ?_
  exact RetQ.of hR rfl scc rvv (sub_sh (SubS.sub ⟨⟨_,rfl,.inl rfl⟩,⟨_,rfl,.inl rfl⟩,trivial⟩)) (clm_sh hM2) (ClV.of rfl)
 |false=>
  rw[hk]at hR hM2
  simp(maxSteps:=2000000) only[go_sem,hk]
  exact RetQ.of hR rfl scc rvv (sub_sh (SubS.sub ⟨⟨_,rfl,.inl rfl⟩,⟨_,rfl,.inl rfl⟩,trivial⟩)) (clm_sh hM2) (ClV.of rfl)
end Go.Proofs.YtlnpgbnhcondjaaGreatDoor.Fx
