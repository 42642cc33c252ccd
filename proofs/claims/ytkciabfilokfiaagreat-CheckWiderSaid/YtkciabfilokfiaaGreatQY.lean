/-  -/
import Derived.Test.YtkciabfilokfiaaGreatPS
import Derived.Test.YtkciabfilokfiaaGreatQP
import Derived.Test.YtkciabfilokfiaaGreatQC
namespace Go.Proofs.YtkciabfilokfiaaGreat.Fx
open Vg Tf
set_option linter.unusedSimpArgs false
set_option linter.unusedVariables false
set_option maxRecDepth 100000
set_option maxHeartbeats 4000000
theorem cloTd {H:Hp}(v:Value)(rows:List (List Value))(h:SlH H v 11 rows)(h1:∀r∈rows,r.length=11)(hV:(rowsC rows).all Cv.one=true)(hl:rows.length≤1000000):
  CallX H Tryz.prog 111 [.c (.v v)] [] (fun _:Unit=> .c (.sl 2 0 rows.length 11)) (fun _=>[(2,⟨false,rowsC rows,78⟩)]) (fun _ _=>True):=by
 have hz:=rowsC_len (k:=11) rows h1
 have htk:List.take (rows.length*11) (rowsC rows)=rowsC rows:=List.take_of_length_le (by omega)
 refine CallX.mkS Tryz.func111 rfl en111 (by simp[Tryz.ntmps111]) (ClA.of rfl) (fun _=>rfl) (fun _=>rfl) fun C hR hP hH hL=>?_
 have hR:=hR () C hL trivial
 refine Sm.bringR 1 78 0 (h.mono hH) rfl rfl (Sm.go 100 ?_)
 refine vv ?_
 refine Sm.eqNil rfl rfl rfl rfl rfl rfl (fun h0=>?_) ?_
 ·have h0:rows=[]:=List.length_eq_zero_iff.1 h0
  subst h0
  refine Sm.go 100 ?_
  refine vv ?_
  refine RetQ.nils 110 11 78 [2] [] rfl ?_
  refine vv ?_
  exact RetQ.ren [(2,110)] hR hP rfl scc rfl rfl trivial ⟨.inr ⟨_,rfl,.inl rfl⟩,trivial⟩ (ClM.of rfl) (ClV.of rfl)
 ·refine Sm.go 100 ?_
  simp(maxSteps:=2000000) only[go_sem,htk,hz]
  refine⟨by first|exact hV|exact⟨⟨by omega,hV⟩,by omega,by omega⟩|exact⟨by omega,by omega,by omega⟩|skip,?_⟩
  exact RetQ.ren [(2,101)] hR hP rfl scc rfl rfl trivial ⟨.inr ⟨_,rfl,.inl (renV (rowsC_isV _))⟩,trivial⟩ (ClM.of (by simp only[List.cons_append,List.nil_append,List.all_cons,inMV (rowsC_isV _)];rfl)) (ClV.of rfl)
theorem cloCu {H:Hp}(v:Value)(rows:List (List Value))(h:SlH H v 3 rows)(h1:∀r∈rows,r.length=3)(hV:(rowsC rows).all Cv.one=true)(hl:rows.length≤1000000):
  CallX H Tryz.prog 112 [.c (.v v)] [] (fun _:Unit=> .c (.sl 2 0 rows.length 3)) (fun _=>[(2,⟨false,rowsC rows,84⟩)]) (fun _ _=>True):=by
 have hz:=rowsC_len (k:=3) rows h1
 have htk:List.take (rows.length*3) (rowsC rows)=rowsC rows:=List.take_of_length_le (by omega)
 refine CallX.mkS Tryz.func112 rfl en112 (by simp[Tryz.ntmps112]) (ClA.of rfl) (fun _=>rfl) (fun _=>rfl) fun C hR hP hH hL=>?_
 have hR:=hR () C hL trivial
 refine Sm.bringR 1 84 0 (h.mono hH) rfl rfl (Sm.go 100 ?_)
 refine vv ?_
 refine Sm.eqNil rfl rfl rfl rfl rfl rfl (fun h0=>?_) ?_
 ·have h0:rows=[]:=List.length_eq_zero_iff.1 h0
  subst h0
  refine Sm.go 100 ?_
  refine vv ?_
  refine RetQ.nils 110 3 84 [2] [] rfl ?_
  refine vv ?_
  exact RetQ.ren [(2,110)] hR hP rfl scc rfl rfl trivial ⟨.inr ⟨_,rfl,.inl rfl⟩,trivial⟩ (ClM.of rfl) (ClV.of rfl)
 ·refine Sm.go 100 ?_
  simp(maxSteps:=2000000) only[go_sem,htk,hz]
  refine⟨by first|exact hV|exact⟨⟨by omega,hV⟩,by omega,by omega⟩|exact⟨by omega,by omega,by omega⟩|skip,?_⟩
  exact RetQ.ren [(2,101)] hR hP rfl scc rfl rfl trivial ⟨.inr ⟨_,rfl,.inl (renV (rowsC_isV _))⟩,trivial⟩ (ClM.of (by simp only[List.cons_append,List.nil_append,List.all_cons,inMV (rowsC_isV _)];rfl)) (ClV.of rfl)
theorem cloMa {H:Hp}(v:Value)(rows:List (List Value))(h:SlH H v 4 rows)(h1:∀r∈rows,r.length=4)(hV:(rowsC rows).all Cv.one=true)(hl:rows.length≤1000000):
  CallX H Tryz.prog 113 [.c (.v v)] [] (fun _:Unit=> .c (.sl 2 0 rows.length 4)) (fun _=>[(2,⟨false,rowsC rows,91⟩)]) (fun _ _=>True):=by
 have hz:=rowsC_len (k:=4) rows h1
 have htk:List.take (rows.length*4) (rowsC rows)=rowsC rows:=List.take_of_length_le (by omega)
 refine CallX.mkS Tryz.func113 rfl en113 (by simp[Tryz.ntmps113]) (ClA.of rfl) (fun _=>rfl) (fun _=>rfl) fun C hR hP hH hL=>?_
 have hR:=hR () C hL trivial
 refine Sm.bringR 1 91 0 (h.mono hH) rfl rfl (Sm.go 100 ?_)
 refine vv ?_
 refine Sm.eqNil rfl rfl rfl rfl rfl rfl (fun h0=>?_) ?_
 ·have h0:rows=[]:=List.length_eq_zero_iff.1 h0
  subst h0
  refine Sm.go 100 ?_
  refine vv ?_
  refine RetQ.nils 110 4 91 [2] [] rfl ?_
  refine vv ?_
  exact RetQ.ren [(2,110)] hR hP rfl scc rfl rfl trivial ⟨.inr ⟨_,rfl,.inl rfl⟩,trivial⟩ (ClM.of rfl) (ClV.of rfl)
 ·refine Sm.go 100 ?_
  simp(maxSteps:=2000000) only[go_sem,htk,hz]
  refine⟨by first|exact hV|exact⟨⟨by omega,hV⟩,by omega,by omega⟩|exact⟨by omega,by omega,by omega⟩|skip,?_⟩
  exact RetQ.ren [(2,101)] hR hP rfl scc rfl rfl trivial ⟨.inr ⟨_,rfl,.inl (renV (rowsC_isV _))⟩,trivial⟩ (ClM.of (by simp only[List.cons_append,List.nil_append,List.all_cons,inMV (rowsC_isV _)];rfl)) (ClV.of rfl)
theorem cloPo {H:Hp}(v:Value)(rows:List (List Value))(h:SlH H v 4 rows)(h1:∀r∈rows,r.length=4)(hV:(rowsC rows).all Cv.one=true)(hl:rows.length≤1000000):
  CallX H Tryz.prog 18 [.c (.v v)] [] (fun _:Unit=> .c (.sl 2 0 rows.length 4)) (fun _=>[(2,⟨false,rowsC rows,51⟩)]) (fun _ _=>True):=by
 have hz:=rowsC_len (k:=4) rows h1
 have htk:List.take (rows.length*4) (rowsC rows)=rowsC rows:=List.take_of_length_le (by omega)
 refine CallX.mkS Tryz.func18 rfl en18 (by simp[Tryz.ntmps18]) (ClA.of rfl) (fun _=>rfl) (fun _=>rfl) fun C hR hP hH hL=>?_
 have hR:=hR () C hL trivial
 refine Sm.bringR 1 51 0 (h.mono hH) rfl rfl (Sm.go 100 ?_)
 refine vv ?_
 refine Sm.eqNil rfl rfl rfl rfl rfl rfl (fun h0=>?_) ?_
 ·have h0:rows=[]:=List.length_eq_zero_iff.1 h0
  subst h0
  refine Sm.go 100 ?_
  refine vv ?_
  refine RetQ.nils 110 4 51 [2] [] rfl ?_
  refine vv ?_
  exact RetQ.ren [(2,110)] hR hP rfl scc rfl rfl trivial ⟨.inr ⟨_,rfl,.inl rfl⟩,trivial⟩ (ClM.of rfl) (ClV.of rfl)
 ·refine Sm.go 100 ?_
  simp(maxSteps:=2000000) only[go_sem,htk,hz]
  refine⟨by first|exact hV|exact⟨⟨by omega,hV⟩,by omega,by omega⟩|exact⟨by omega,by omega,by omega⟩|skip,?_⟩
  exact RetQ.ren [(2,101)] hR hP rfl scc rfl rfl trivial ⟨.inr ⟨_,rfl,.inl (renV (rowsC_isV _))⟩,trivial⟩ (ClM.of (by simp only[List.cons_append,List.nil_append,List.all_cons,inMV (rowsC_isV _)];rfl)) (ClV.of rfl)
theorem cloBl {H:Hp}(v:Value)(rows:List (List Value))(h:SlH H v 6 rows)(h1:∀r∈rows,r.length=6)(hV:(rowsC rows).all Cv.one=true)(hl:rows.length≤1000000):
  CallX H Tryz.prog 77 [.c (.v v)] [] (fun _:Unit=> .c (.sl 2 0 rows.length 6)) (fun _=>[(2,⟨false,rowsC rows,53⟩)]) (fun _ _=>True):=by
 have hz:=rowsC_len (k:=6) rows h1
 have htk:List.take (rows.length*6) (rowsC rows)=rowsC rows:=List.take_of_length_le (by omega)
 refine CallX.mkS Tryz.func77 rfl en77 (by simp[Tryz.ntmps77]) (ClA.of rfl) (fun _=>rfl) (fun _=>rfl) fun C hR hP hH hL=>?_
 have hR:=hR () C hL trivial
 refine Sm.bringR 1 53 0 (h.mono hH) rfl rfl (Sm.go 100 ?_)
 refine vv ?_
 refine Sm.eqNil rfl rfl rfl rfl rfl rfl (fun h0=>?_) ?_
 ·have h0:rows=[]:=List.length_eq_zero_iff.1 h0
  subst h0
  refine Sm.go 100 ?_
  refine vv ?_
  refine RetQ.nils 110 6 53 [2] [] rfl ?_
  refine vv ?_
  exact RetQ.ren [(2,110)] hR hP rfl scc rfl rfl trivial ⟨.inr ⟨_,rfl,.inl rfl⟩,trivial⟩ (ClM.of rfl) (ClV.of rfl)
 ·refine Sm.go 100 ?_
  simp(maxSteps:=2000000) only[go_sem,htk,hz]
  refine⟨by first|exact hV|exact⟨⟨by omega,hV⟩,by omega,by omega⟩|exact⟨by omega,by omega,by omega⟩|skip,?_⟩
  exact RetQ.ren [(2,101)] hR hP rfl scc rfl rfl trivial ⟨.inr ⟨_,rfl,.inl (renV (rowsC_isV _))⟩,trivial⟩ (ClM.of (by simp only[List.cons_append,List.nil_append,List.all_cons,inMV (rowsC_isV _)];rfl)) (ClV.of rfl)
theorem cloSs {H:Hp}(v:Value)(rows:List (List Value))(h:SlH H v 1 rows)(h1:∀r∈rows,r.length=1)(hV:(rowsC rows).all Cv.one=true)(hl:rows.length≤1000000):
  CallX H Tryz.prog 78 [.c (.v v)] [] (fun _:Unit=> .c (.sl 2 0 rows.length 1)) (fun _=>[(2,⟨false,rowsC rows,9⟩)]) (fun _ _=>True):=by
 have hz:=rowsC_len (k:=1) rows h1
 have htk:List.take rows.length (rowsC rows)=rowsC rows:=List.take_of_length_le (by omega)
 refine CallX.mkS Tryz.func78 rfl en78 (by simp[Tryz.ntmps78]) (ClA.of rfl) (fun _=>rfl) (fun _=>rfl) fun C hR hP hH hL=>?_
 have hR:=hR () C hL trivial
 refine Sm.bringR 1 9 0 (h.mono hH) rfl rfl (Sm.go 100 ?_)
 refine vv ?_
 refine Sm.eqNil rfl rfl rfl rfl rfl rfl (fun h0=>?_) ?_
 ·have h0:rows=[]:=List.length_eq_zero_iff.1 h0
  subst h0
  refine Sm.go 100 ?_
  refine vv ?_
  refine RetQ.nils 110 1 9 [2] [] rfl ?_
  refine vv ?_
  exact RetQ.ren [(2,110)] hR hP rfl scc rfl rfl trivial ⟨.inr ⟨_,rfl,.inl rfl⟩,trivial⟩ (ClM.of rfl) (ClV.of rfl)
 ·refine Sm.go 100 ?_
  simp(maxSteps:=2000000) only[go_sem,htk,hz]
  refine⟨by first|exact hV|exact⟨⟨by omega,hV⟩,by omega,by omega⟩|exact⟨by omega,by omega,by omega⟩|skip,?_⟩
  exact RetQ.ren [(2,101)] hR hP rfl scc rfl rfl trivial ⟨.inr ⟨_,rfl,.inl (renV (rowsC_isV _))⟩,trivial⟩ (ClM.of (by simp only[List.cons_append,List.nil_append,List.all_cons,inMV (rowsC_isV _)];rfl)) (ClV.of rfl)
theorem cloIs {H:Hp}(v:Value)(rows:List (List Value))(h:SlH H v 1 rows)(h1:∀r∈rows,r.length=1)(hV:(rowsC rows).all Cv.one=true)(hl:rows.length≤1000000):
  CallX H Tryz.prog 29 [.c (.v v)] [] (fun _:Unit=> .c (.sl 2 0 rows.length 1)) (fun _=>[(2,⟨false,rowsC rows,3⟩)]) (fun _ _=>True):=by
 have hz:=rowsC_len (k:=1) rows h1
 have htk:List.take rows.length (rowsC rows)=rowsC rows:=List.take_of_length_le (by omega)
 refine CallX.mkS Tryz.func29 rfl en29 (by simp[Tryz.ntmps29]) (ClA.of rfl) (fun _=>rfl) (fun _=>rfl) fun C hR hP hH hL=>?_
 have hR:=hR () C hL trivial
 refine Sm.bringR 1 3 0 (h.mono hH) rfl rfl (Sm.go 100 ?_)
 refine vv ?_
 refine Sm.eqNil rfl rfl rfl rfl rfl rfl (fun h0=>?_) ?_
 ·have h0:rows=[]:=List.length_eq_zero_iff.1 h0
  subst h0
  refine Sm.go 100 ?_
  refine vv ?_
  refine RetQ.nils 110 1 3 [2] [] rfl ?_
  refine vv ?_
  exact RetQ.ren [(2,110)] hR hP rfl scc rfl rfl trivial ⟨.inr ⟨_,rfl,.inl rfl⟩,trivial⟩ (ClM.of rfl) (ClV.of rfl)
 ·refine Sm.go 100 ?_
  simp(maxSteps:=2000000) only[go_sem,htk,hz]
  refine⟨by first|exact hV|exact⟨⟨by omega,hV⟩,by omega,by omega⟩|exact⟨by omega,by omega,by omega⟩|skip,?_⟩
  exact RetQ.ren [(2,101)] hR hP rfl scc rfl rfl trivial ⟨.inr ⟨_,rfl,.inl (renV (rowsC_isV _))⟩,trivial⟩ (ClM.of (by simp only[List.cons_append,List.nil_append,List.all_cons,inMV (rowsC_isV _)];rfl)) (ClV.of rfl)
theorem cloZs {H:Hp}(v:Value)(rows:List (List Value))(h:SlH H v 1 rows)(h1:∀r∈rows,r.length=1)(hV:(rowsC rows).all Cv.one=true)(hl:rows.length≤1000000):
  CallX H Tryz.prog 114 [.c (.v v)] [] (fun _:Unit=> .c (.sl 2 0 rows.length 1)) (fun _=>[(2,⟨false,rowsC rows,33⟩)]) (fun _ _=>True):=by
 have hz:=rowsC_len (k:=1) rows h1
 have htk:List.take rows.length (rowsC rows)=rowsC rows:=List.take_of_length_le (by omega)
 refine CallX.mkS Tryz.func114 rfl en114 (by simp[Tryz.ntmps114]) (ClA.of rfl) (fun _=>rfl) (fun _=>rfl) fun C hR hP hH hL=>?_
 have hR:=hR () C hL trivial
 refine Sm.bringR 1 33 0 (h.mono hH) rfl rfl (Sm.go 100 ?_)
 refine vv ?_
 refine Sm.eqNil rfl rfl rfl rfl rfl rfl (fun h0=>?_) ?_
 ·have h0:rows=[]:=List.length_eq_zero_iff.1 h0
  subst h0
  refine Sm.go 100 ?_
  refine vv ?_
  refine RetQ.nils 110 1 33 [2] [] rfl ?_
  refine vv ?_
  exact RetQ.ren [(2,110)] hR hP rfl scc rfl rfl trivial ⟨.inr ⟨_,rfl,.inl rfl⟩,trivial⟩ (ClM.of rfl) (ClV.of rfl)
 ·refine Sm.go 100 ?_
  simp(maxSteps:=2000000) only[go_sem,htk,hz]
  refine⟨by first|exact hV|exact⟨⟨by omega,hV⟩,by omega,by omega⟩|exact⟨by omega,by omega,by omega⟩|skip,?_⟩
  exact RetQ.ren [(2,101)] hR hP rfl scc rfl rfl trivial ⟨.inr ⟨_,rfl,.inl (renV (rowsC_isV _))⟩,trivial⟩ (ClM.of (by simp only[List.cons_append,List.nil_append,List.all_cons,inMV (rowsC_isV _)];rfl)) (ClV.of rfl)
end Go.Proofs.YtkciabfilokfiaaGreat.Fx
namespace Go.Proofs.YtkciabfilokfiaaGreat.Fx
open Vg Tf
set_option linter.unusedSimpArgs false
set_option linter.unusedVariables false
set_option maxRecDepth 100000
set_option maxHeartbeats 4000000
def fstA (d:Dg)(l:List Bl):Option Str:=l.findSome? (fun b=>argQ (sigs d) b.ins)
structure DgB (d:DgL):Prop where
 tys:d.tys.length≤30
 cus:d.cus.length≤30
 mas:d.mas.length≤30
 ins:d.ins.length≤30
 bls:d.bls.length≤200
 ous:d.ous.length≤30
 cuO:∀c∈d.cus,cuOk c.c.xs c.c.ys=true
 maO:∀m∈d.mas,maOk m.xs m.ys (m.zs.map (·.2))=true
 blO:∀b∈d.bls,blOk b.c=true
 tyO:∀t∈d.tys,fok t.ty=true
theorem dgB {d:DgL}(h:dgOk d.c=true):DgB d:=by
 unfold dgOk at h
 simp only[Bool.and_eq_true,decide_eq_true_eq,List.all_eq_true]at h
 obtain⟨_,⟨n1,n2,n3,n4,n5⟩,n6,ht,hcu,hma,_,hbl,_⟩:=h
 refine⟨n1,by simpa[DgL.c]using n2,by simpa[DgL.c]using n3,n4,by simpa[DgL.c]using n6,n5,fun c hc=>(hcu c.c (List.mem_map.2 ⟨c,hc,rfl⟩)).2,fun m hm=>(hma m.c (List.mem_map.2 ⟨m,hm,rfl⟩)).2,fun b hb=>hbl b.c (List.mem_map.2 ⟨b,hb,rfl⟩),fun t h=>(ht t h).2⟩
theorem blO_in {b:Bl}(h:blOk b=true):b.ins.length≤3:=by
 have hq:∃q,kindQ b.kd=some q:=by
  have h1:=h
  unfold blOk at h1
  cases hq:kindQ b.kd with
  |none=>rw[hq]at h1;cases h1
  |some q=>exact⟨q,rfl⟩
 obtain⟨q,hq⟩:=hq
 have hm:(b.kd,q)∈kindT:=by
  have h2:=hq
  unfold kindQ at h2
  cases hf:kindT.find? (fun r=>r.1==b.kd)with
  |none=>rw[hf]at h2;cases h2
  |some r=>
   rw[hf]at h2
   have h3:=List.mem_of_find?_eq_some hf
   have h4:=List.find?_some hf
   have h5:r.1=b.kd:=by simpa using h4
   have h6:r.2=q:=by simpa using h2
   rw[←h5,←h6];exact h3
 unfold blOk at h
 rw[hq]at h
 simp only[Bool.and_eq_true,decide_eq_true_eq]at h
 have:∀x∈kindT,x.2.1≤3:=by decide
 have:=this _ hm
 simp only at this
 omega
end Go.Proofs.YtkciabfilokfiaaGreat.Fx
