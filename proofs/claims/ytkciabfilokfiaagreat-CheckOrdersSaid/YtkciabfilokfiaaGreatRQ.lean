/-  -/
import Derived.Test.YtkciabfilokfiaaGreatPS
import Derived.Test.YtkciabfilokfiaaGreatRK
import Derived.Lib.AppendZeros
namespace Go.Proofs.YtkciabfilokfiaaGreat.Fx
open Vg Tf
set_option linter.unusedSimpArgs false
set_option linter.unusedVariables false
set_option maxRecDepth 100000
set_option maxHeartbeats 4000000
def mnG:Int→List Int→Int
 |a,[]=>a
 |a,x::l=>mnG (min a x) l
def mxG:Int→List Int→Int
 |a,[]=>a
 |a,x::l=>mxG (max a x) l
theorem min_ (l:List Int)(h0:0<l.length)(hl:l.length≤1000000):CallOk Tryz.prog 266 [.c (.sl 1 0 l.length 1)] [(1,⟨true,l.map iC,3⟩)] (I (mnG (l.getD 0 0) (l.drop 1))) []:=by
 have g0:=get_iD h0
 have hM:ClM [(1,⟨true,l.map iC,3⟩)]:=ClM.of (by simp only[List.all_cons,inMV (v_iC _)];rfl)
 generalize hq:mnG (l.getD 0 0) (l.drop 1)=q
 refine CallOk.mkN 100 Tryz.func266 rfl en266 (by simp[Tryz.ntmps266]) (ClA.of rfl) rfl rfl fun C hR hP=>?_
 simp(maxSteps:=2000000) only[go_sem,g0,show decide ((l.length:Int)<1)=false from decide_eq_false (by omega)]
 refine⟨by omega,?_⟩
 refine Sm.loopM (M0:=[(1,⟨true,l.map iC,3⟩)]) (α:={z:Nat×Int//0<z.1∧z.1≤l.length∧mnG z.2 (l.drop z.1)=q}) hP (fun z=>[(0,true,.c (.sl 1 0 l.length 1)),(3,true,I z.val.2),(4,true,I z.val.1)])
  (fun _=>[(1,⟨true,l.map iC,3⟩)]) (fun z=>l.length-z.val.1) ⟨(1,l.getD 0 0),by simp,by simp only;omega,hq⟩ (fun _=>hM) (fun _=>ClE.of rfl) [(1,1)] ?_ ?_
 ·exact⟨rfl,⟨⟨rfl,rfl⟩,trivial⟩,⟨rfl,rfl,rfl,trivial⟩,⟨.inr ⟨_,rfl,.inl (renV (v_iC _))⟩,trivial⟩⟩
 rintro⟨⟨i,a⟩,hi0,hi,hx⟩ J hb
 simp only at hb hi hi0 hx⊢
 refine Sm.go 120 ?_
 refine vv ?_
 refine mtch (fun hc=>?_) (fun hc=>?_)
 ·have hc:=lt_of_dec hc
  have gi:=get_iD hc
  have hd:l.drop i=l.getD i 0::l.drop (i+1):=by
   rw[List.drop_eq_getElem_cons hc,List.getD_eq_getElem?_getD,List.getElem?_eq_getElem hc];rfl
  rw[hd,mnG]at hx
  simp(maxSteps:=2000000) only[go_sem,gi,wS (show i≤1000000000000000000 by omega)]
  exact⟨⟨by omega,by omega⟩,hb _ _ ⟨(i+1,min a (l.getD i 0)),by simp only;omega,hc,hx⟩ [(1,1)] (by simp only;omega) ⟨rfl,⟨⟨rfl,rfl⟩,trivial⟩,⟨rfl,rfl,rfl,trivial⟩,⟨.inr ⟨_,rfl,.inl (renV (v_iC _))⟩,trivial⟩⟩⟩
 ·have hc:=eq_of_dec hi hc
  rw[hc,List.drop_length,mnG]at hx
  subst hx
  exact RetQ.of hR rfl scc rfl (SubS.sub ⟨⟨_,rfl,.inl rfl⟩,trivial⟩) hM (ClV.of rfl)
theorem max_ (l:List Int)(h0:0<l.length)(hl:l.length≤1000000):CallOk Tryz.prog 267 [.c (.sl 1 0 l.length 1)] [(1,⟨true,l.map iC,3⟩)] (I (mxG (l.getD 0 0) (l.drop 1))) []:=by
 have g0:=get_iD h0
 have hM:ClM [(1,⟨true,l.map iC,3⟩)]:=ClM.of (by simp only[List.all_cons,inMV (v_iC _)];rfl)
 generalize hq:mxG (l.getD 0 0) (l.drop 1)=q
 refine CallOk.mkN 100 Tryz.func267 rfl en267 (by simp[Tryz.ntmps267]) (ClA.of rfl) rfl rfl fun C hR hP=>?_
 simp(maxSteps:=2000000) only[go_sem,g0,show decide ((l.length:Int)<1)=false from decide_eq_false (by omega)]
 refine⟨by omega,?_⟩
 refine Sm.loopM (M0:=[(1,⟨true,l.map iC,3⟩)]) (α:={z:Nat×Int//0<z.1∧z.1≤l.length∧mxG z.2 (l.drop z.1)=q}) hP (fun z=>[(0,true,.c (.sl 1 0 l.length 1)),(3,true,I z.val.2),(4,true,I z.val.1)])
  (fun _=>[(1,⟨true,l.map iC,3⟩)]) (fun z=>l.length-z.val.1) ⟨(1,l.getD 0 0),by simp,by simp only;omega,hq⟩ (fun _=>hM) (fun _=>ClE.of rfl) [(1,1)] ?_ ?_
 ·exact⟨rfl,⟨⟨rfl,rfl⟩,trivial⟩,⟨rfl,rfl,rfl,trivial⟩,⟨.inr ⟨_,rfl,.inl (renV (v_iC _))⟩,trivial⟩⟩
 rintro⟨⟨i,a⟩,hi0,hi,hx⟩ J hb
 simp only at hb hi hi0 hx⊢
 refine Sm.go 120 ?_
 refine vv ?_
 refine mtch (fun hc=>?_) (fun hc=>?_)
 ·have hc:=lt_of_dec hc
  have gi:=get_iD hc
  have hd:l.drop i=l.getD i 0::l.drop (i+1):=by
   rw[List.drop_eq_getElem_cons hc,List.getD_eq_getElem?_getD,List.getElem?_eq_getElem hc];rfl
  rw[hd,mxG]at hx
  simp(maxSteps:=2000000) only[go_sem,gi,wS (show i≤1000000000000000000 by omega)]
  exact⟨⟨by omega,by omega⟩,hb _ _ ⟨(i+1,max a (l.getD i 0)),by simp only;omega,hc,hx⟩ [(1,1)] (by simp only;omega) ⟨rfl,⟨⟨rfl,rfl⟩,trivial⟩,⟨rfl,rfl,rfl,trivial⟩,⟨.inr ⟨_,rfl,.inl (renV (v_iC _))⟩,trivial⟩⟩⟩
 ·have hc:=eq_of_dec hi hc
  rw[hc,List.drop_length,mxG]at hx
  subst hx
  exact RetQ.of hR rfl scc rfl (SubS.sub ⟨⟨_,rfl,.inl rfl⟩,trivial⟩) hM (ClV.of rfl)
end Go.Proofs.YtkciabfilokfiaaGreat.Fx
namespace Go.Proofs.YtkciabfilokfiaaGreat.Fx
open Vg Tf
set_option linter.unusedSimpArgs false
set_option linter.unusedVariables false
set_option maxRecDepth 100000
set_option maxHeartbeats 4000000
def allZ (m:Mp):List Int:=m.zs.flatten
theorem MaOk.all (m:Mp)(k:MaOk m):0<(allZ m).length∧(allZ m).length≤1024:=by
 have hlen:∀l:List (List Int),(∀z∈l,z.length=m.ys.length)→l.flatten.length=l.length*m.ys.length:=by
  intro l
  induction l with
  |nil=>intro _;simp
  |cons a l ih=>intro h;rw[List.flatten_cons,List.length_append,h a (by simp),ih fun z hz=>h z (by simp[hz]),List.length_cons,Nat.succ_mul,Nat.add_comm]
 have h1:=hlen m.zs (fun z hz=>by
  obtain⟨i,hi,rfl⟩:=List.getElem_of_mem hz
  have:=k.zr i hi
  rwa [List.getD_eq_getElem?_getD,List.getElem?_eq_getElem hi]at this)
 have h2:=k.x2
 have h3:=k.y2
 have h4:=k.x3
 have h5:=k.y3
 unfold allZ
 rw[h1,k.zl]
 have h6:2*2≤m.xs.length*m.ys.length:=Nat.mul_le_mul h2 h3
 have h7:m.xs.length*m.ys.length≤32*32:=Nat.mul_le_mul h4 h5
 omega
end Go.Proofs.YtkciabfilokfiaaGreat.Fx
namespace Go.Proofs.YtkciabfilokfiaaGreat.Fx
open Vg Tf
set_option linter.unusedSimpArgs false
set_option linter.unusedVariables false
set_option maxRecDepth 100000
set_option maxHeartbeats 4000000
end Go.Proofs.YtkciabfilokfiaaGreat.Fx
namespace Go.Proofs.YtkciabfilokfiaaGreat.Fx
open Vg Tf
set_option linter.unusedSimpArgs false
set_option linter.unusedVariables false
set_option maxRecDepth 100000
set_option maxHeartbeats 4000000
end Go.Proofs.YtkciabfilokfiaaGreat.Fx
namespace Go.Proofs.YtkciabfilokfiaaGreat.Fx
open Vg Tf
set_option linter.unusedSimpArgs false
set_option linter.unusedVariables false
set_option maxRecDepth 100000
set_option maxHeartbeats 4000000
end Go.Proofs.YtkciabfilokfiaaGreat.Fx
namespace Go.Proofs.YtkciabfilokfiaaGreat.Fx
open Vg Tf
set_option linter.unusedSimpArgs false
set_option linter.unusedVariables false
set_option maxRecDepth 100000
set_option maxHeartbeats 4000000
theorem rows_fld {α:Type}{r:α→List Value}{k:Nat}(hk:∀x,(r x).length=k)(l:List α)(i j m:Nat)(h:i<l.length)(hm:j+m≤k):((rowsC (l.map r)).drop (i*k+j)).take m=(((r l[i]).drop j).take m).map Cv.v:=by
 have h1:=rows_take hk l i h
 have e:((rowsC (l.map r)).drop (i*k+j)).take m=((((rowsC (l.map r)).drop (i*k)).take k).drop j).take m:=by rw[List.drop_take,List.take_take,Nat.min_eq_left (by omega),List.drop_drop]
 rw[e,h1,List.map_take,List.map_drop]
theorem rows_one {α:Type}{r:α→List Value}{k:Nat}(hk:∀x,(r x).length=k)(l:List α)(i j:Nat)(h:i<l.length)(hj:j<k):(rowsC (l.map r))[i*k+j]?=((r l[i])[j]?).map Cv.v:=by
 have h1:=rows_take hk l i h
 have:(rowsC (l.map r))[i*k+j]?=(((rowsC (l.map r)).drop (i*k)).take k)[j]?:=by rw[List.getElem?_take_of_lt hj,List.getElem?_drop]
 rw[this,h1,List.getElem?_map]
end Go.Proofs.YtkciabfilokfiaaGreat.Fx
