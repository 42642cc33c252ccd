/-  -/
import Derived.Test.YtkciabfilokfiaaGreatPS
import Derived.Test.YtkciabfilokfiaaGreatRI
namespace Go.Proofs.YtkciabfilokfiaaGreat.Fx
open Vg Tf
set_option linter.unusedSimpArgs false
set_option linter.unusedVariables false
set_option maxRecDepth 100000
set_option maxHeartbeats 4000000
def putR (q:Int×Int)(y:Int):Int×Int:=(min q.1 y,max q.2 y)
theorem put_ (q:Int×Int)(y:Int):CallOk Tryz.prog 262 [I y,.c (.p 1 0)] [(1,⟨false,rC q,45⟩)] (.tup []) [(1,⟨false,rC (putR q y),45⟩)]:=by
 refine CallOk.mkN 100 Tryz.func262 rfl en262 (by simp[Tryz.ntmps262]) (ClA.of rfl) rfl rfl fun C hR hP=>?_
 refine vv ?_
 exact Sm.fall hR (RetQ.of hR rfl trivial rfl (sub_sh (SubS.sub ⟨⟨_,rfl,.inl rfl⟩,trivial⟩)) (clm_sh (ClM.of rfl)) (ClV.of rfl))
def ovrG (r:Int×Int):List (Int×Int)→Int×Int→Int×Int
 |[],q=>q
 |n::l,q=>ovrG r l (bif (bif decide (r.1<n.1)then decide (n.1<r.2)else false)then putR q n.2 else q)
def ovrQ (c:Cu)(r:Int×Int):(Int×Int)×Int:=
 bif (bif !cuOk c.xs c.ys then true else decide (r.2<r.1))then((0,0),1)else(ovrG r (c.xs.zip c.ys) (putR (valQ c r.1,valQ c r.1) (valQ c r.2)),0)
theorem over_ {H:Hp}(c:CuL)(hc:c.ok H)(hlx:c.c.xs.length≤1000000000000000)(hly:c.c.ys.length≤1000000000000000)(r:Int×Int):CallH H Tryz.prog 240 [.agg (cuV c),rA r] (rE (ovrQ c.c r)):=by
 have hval:=cvalid c.x c.y c.c.xs c.c.ys hc.x hc.y hlx hly
 have hil:(intsR c.c.xs).length=c.c.xs.length:=by simp[intsR]
 have hiy:(intsR c.c.ys).length=c.c.ys.length:=by simp[intsR]
 have hcv:cuV c=[.v (vsl c.x c.c.xs.length),.v (vsl c.y c.c.ys.length)]:=rfl
 refine CallH.mkS Tryz.func240 rfl en240 (by simp[Tryz.ntmps240]) (ClA.of rfl) fun C hR hP hH hL=>?_
 refine Sm.go 100 ?_
 refine vv ?_
 refine CallQ.h 110 hval hH rfl ?_
 refine vv ?_
 refine mtch (fun h0=>?_) (fun h0=>?_)
 ·have hq:ovrQ c.c r=((0,0),1):=by unfold ovrQ;rw[h0];rfl
  rw[hq]at hR
  exact RetQ.of (hR C hL) rfl (vv trivial) rvv (Sub.nil _) ClM.nil (ClV.of rfl)
 have hq:ovrQ c.c r=(ovrG r (c.c.xs.zip c.c.ys) (putR (valQ c.c r.1,valQ c.c r.1) (valQ c.c r.2)),0):=by unfold ovrQ;rw[h0];rfl
 rw[hq]at hR
 have hok:cuOk c.c.xs c.c.ys=true:=by
  cases hk:cuOk c.c.xs c.c.ys with
  |true=>rfl
  |false=>rw[hk]at h0;cases h0
 have k:=CuOk.of hok
 have k1:=k.len
 have k2:=k.two
 have k3:=k.big
 have hv1:=value_ c hc k r.1
 have hv2:=value_ c hc k r.2
 refine Sm.dg 120 10 mix ?_
 refine vv ?_
 refine DCallQ.h 130 (fun _=>hv1) hH (fun _=>rfl) ?_
 refine vv ?_
 refine DCallQ.h 130 (fun _=>hv1) hH (fun _=>rfl) ?_
 refine vv ?_
 refine CallQ.h 140 hv2 hH rfl ?_
 refine vv ?_
 refine CallQ.ren [(1,130)] 140 (put_ (valQ c.c r.1,valQ c.c r.1) (valQ c.c r.2)) (ClM.of rfl) rfl rfl ⟨⟨_,rfl,.inl rfl⟩,trivial⟩ rfl (.inl rfl) ?_
 simp only[Mem.ren,List.map_cons,List.map_nil,Bk.ren,List.map_map,V.ren,W.ren,Cv.ren,rn,Nat.reduceBEq,cond_true,cond_false,Function.comp_def]
 refine vv ?_
 refine Sm.bringI 5 3 38 (hc.x.mono hH) rfl rfl ?_
 have hzl:(c.c.xs.zip c.c.ys).length=c.c.xs.length:=by rw[List.length_zip];omega
 generalize hq0:putR (valQ c.c r.1,valQ c.c r.1) (valQ c.c r.2)=q0 at*
 generalize hRR:ovrG r (c.c.xs.zip c.c.ys) q0=RR at*
 refine Sm.loopM (M0:=[]) (α:={z:Nat×(Int×Int)//z.1≤c.c.xs.length∧ovrG r ((c.c.xs.zip c.c.ys).drop z.1) z.2=RR}) hP (fun z=>[(2,true,.c (.p 2 0)),(3,true,.c (.p 3 0)),(4,true,.c (.p 4 0)),(6,true,.c (.p 6 0)),(7,true,.c (.fn 262 [(6,0)])),(38,true,.c (.sl 5 0 c.c.xs.length 1)),(39,true,I c.c.xs.length),(40,true,I z.val.1)])
  (fun z=>[(2,⟨false,cuV c,82⟩),(3,⟨false,rC r,45⟩),(4,⟨false,rC (0,0),45⟩),(6,⟨false,rC z.val.2,45⟩),(5,⟨true,c.c.xs.map iC,3⟩)]) (fun z=>c.c.xs.length-z.val.1) ⟨(0,q0),by simp,hRR⟩ (fun _=>ClM.of (by simp only[List.all_cons,inMV (v_iC _)];rfl)) (fun _=>ClE.of rfl) [(2,100),(3,101),(4,102),(6,130),(5,5)] ?_ ?_
 ·exact⟨rfl,trivial,⟨rfl,rfl,rfl,rfl,rfl,rfl,rfl,rfl,trivial⟩,⟨.inr ⟨_,rfl,.inl rfl⟩,.inr ⟨_,rfl,.inl rfl⟩,.inr ⟨_,rfl,.inl rfl⟩,.inr ⟨_,rfl,.inl rfl⟩,.inr ⟨_,rfl,.inl (renV (v_iC _))⟩,trivial⟩⟩
 rintro⟨⟨i,q⟩,hi,hx⟩ J hj
 simp only at hj hi hx⊢
 refine Sm.go 150 ?_
 refine vv ?_
 refine mtch (fun hc2=>?_) (fun hc2=>?_)
 ·have hc2:=lt_of_dec hc2
  have hdz:(c.c.xs.zip c.c.ys).drop i=(c.c.xs.getD i 0,c.c.ys.getD i 0)::(c.c.xs.zip c.c.ys).drop (i+1):=by
   rw[List.drop_eq_getElem_cons (by omega),List.getElem_zip]
   rw[List.getD_eq_getElem?_getD,List.getElem?_eq_getElem hc2,List.getD_eq_getElem?_getD,List.getElem?_eq_getElem (show i<c.c.ys.length by omega)]
   rfl
  rw[hdz,ovrG]at hx
  have gx:=get_iD hc2
  have gy:=get_iD (l:=c.c.ys) (show i<c.c.ys.length by omega)
  generalize c.c.xs.getD i 0=xi at*
  generalize c.c.ys.getD i 0=yi at*
  simp(maxSteps:=2000000) only[go_sem,gx]
  refine⟨⟨by omega,by omega⟩,?_⟩
  refine mtch (fun h1=>?_) (fun h1=>?_)
  ·rw[h1,cond_true]at hx
   refine Sm.bringI 8 3 57 (hc.y.mono hH) rfl rfl (Sm.go 160 ?_)
   simp(maxSteps:=2000000) only[go_sem,gy]
   refine⟨⟨by omega,by omega⟩,?_⟩
   refine CallQ.ren [(1,6)] 170 (put_ q yi) (ClM.of rfl) rfl rfl ⟨⟨_,rfl,.inl rfl⟩,trivial⟩ rfl (.inl rfl) ?_
   simp only[Mem.ren,List.map_cons,List.map_nil,Bk.ren,List.map_map,V.ren,W.ren,Cv.ren,rn,Nat.reduceBEq,cond_true,cond_false,Function.comp_def]
   simp(maxSteps:=2000000) only[go_sem,wS (show i≤1000000000000000000 by omega)]
   exact hj _ _ ⟨(i+1,putR q yi),hc2,hx⟩ [(2,2),(3,3),(4,4),(6,6),(5,5)] (by simp only;omega) ⟨rfl,trivial,⟨rfl,rfl,rfl,rfl,rfl,rfl,rfl,rfl,trivial⟩,⟨.inr ⟨_,rfl,.inl rfl⟩,.inr ⟨_,rfl,.inl rfl⟩,.inr ⟨_,rfl,.inl rfl⟩,.inr ⟨_,rfl,.inl rfl⟩,.inr ⟨_,rfl,.inl (renV (v_iC _))⟩,trivial⟩⟩
  ·rw[h1,cond_false]at hx
   refine Sm.go 160 ?_
   simp(maxSteps:=2000000) only[go_sem,wS (show i≤1000000000000000000 by omega)]
   exact hj _ _ ⟨(i+1,q),hc2,hx⟩ [(2,2),(3,3),(4,4),(6,6),(5,5)] (by simp only;omega) ⟨rfl,trivial,⟨rfl,rfl,rfl,rfl,rfl,rfl,rfl,rfl,trivial⟩,⟨.inr ⟨_,rfl,.inl rfl⟩,.inr ⟨_,rfl,.inl rfl⟩,.inr ⟨_,rfl,.inl rfl⟩,.inr ⟨_,rfl,.inl rfl⟩,.inr ⟨_,rfl,.inl (renV (v_iC _))⟩,trivial⟩⟩
 ·have hc2:=eq_of_dec hi hc2
  rw[hc2,←hzl,List.drop_length]at hx
  have hx:q=RR:=hx
  subst hx
  exact RetQ.of (hR C hL) rfl (vv trivial) rvv (Sub.nil _) ClM.nil (ClV.of rfl)
end Go.Proofs.YtkciabfilokfiaaGreat.Fx
