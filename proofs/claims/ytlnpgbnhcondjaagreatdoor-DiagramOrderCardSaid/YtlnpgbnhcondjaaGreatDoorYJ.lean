/-  -/
import Derived.Test.YtlnpgbnhcondjaaGreatDoorTf
import Derived.Test.YtlnpgbnhcondjaaGreatDoorO2
import Derived.Test.YtlnpgbnhcondjaaGreatDoorY8
import Derived.Test.YtlnpgbnhcondjaaGreatDoorY0
namespace Go.Proofs.YtlnpgbnhcondjaaGreatDoor.Fx
open Vg Tf
set_option linter.unusedSimpArgs false
set_option linter.unusedVariables false
set_option maxRecDepth 100000
set_option maxHeartbeats 4000000
structure Rt where
 A:List Str
 U:List Str
 V:List Str
 B:List Str
def Rt.l (x:Rt):List Str:=x.A++x.U++x.V++x.B
structure Rt.ok (T:List Str) (m:Nat) (x:Rt):Prop where
 t:x.A++x.V++x.U++x.B=T
 m:x.A.length+x.U.length=m
 u:0<x.U.length
 v:0<x.V.length
theorem Rt.ok.len {T:List Str}{m:Nat}{x:Rt}(h:x.ok T m):x.l.length=T.length:=by
 rw[←h.t];unfold Rt.l;simp only[List.length_append];omega
theorem Rt.ok.up {T:List Str}{m:Nat}{x:Rt}(h:x.ok T m)(hlt:x.V.length<x.U.length):∃y:Rt,y.ok T m∧y.l=swR x.l (m-x.U.length) m x.V.length∧y.U.length=x.U.length-x.V.length∧y.V.length=x.V.length:=by
 obtain⟨A,U,V,B⟩:=x
 have h1:=h.m
 have h2:=h.v
 have ht:=h.t
 simp only at h1 h2 hlt ht
 have e:U=U.take V.length++U.drop V.length:=(List.take_append_drop _ _).symm
 have l1:(U.take V.length).length=V.length:=by rw[List.length_take];omega
 have l2:(U.drop V.length).length=U.length-V.length:=List.length_drop
 refine⟨⟨A++V,U.drop V.length,U.take V.length,B⟩,⟨?_,?_,?_,?_⟩,?_,l2,l1⟩
 ·rw[←ht]
  show A++V++_++_++B=_
  rw[List.append_assoc (A++V) _ _,←e]
 ·show(A++V).length+(U.drop V.length).length=m
  rw[l2,List.length_append];omega
 ·show 0<(U.drop V.length).length
  omega
 ·show 0<(U.take V.length).length
  omega
 ·have:=swR_blk A (U.take V.length) (U.drop V.length) V B (a:=m-U.length) (b:=m) (k:=V.length) l1.symm l1 (by omega) (by rw[l1,l2];omega)
  rw[List.append_assoc A,←e]at this
  exact this.symm
theorem Rt.ok.dn {T:List Str}{m:Nat}{x:Rt}(h:x.ok T m)(hlt:x.U.length<x.V.length):∃y:Rt,y.ok T m∧y.l=swR x.l (m-x.U.length) (m+x.V.length-x.U.length) x.U.length∧y.U.length=x.U.length∧y.V.length=x.V.length-x.U.length:=by
 obtain⟨A,U,V,B⟩:=x
 have h1:=h.m
 have h2:=h.u
 have ht:=h.t
 simp only at h1 h2 hlt ht
 have e:V=V.take (V.length-U.length)++V.drop (V.length-U.length):=(List.take_append_drop _ _).symm
 have l1:(V.take (V.length-U.length)).length=V.length-U.length:=by rw[List.length_take];omega
 have l2:(V.drop (V.length-U.length)).length=U.length:=by rw[List.length_drop];omega
 refine⟨⟨A,V.drop (V.length-U.length),V.take (V.length-U.length),U++B⟩,⟨?_,?_,?_,?_⟩,?_,l2,l1⟩
 ·rw[←ht]
  show A++_++_++(U++B)=_
  rw[List.append_assoc A,←e,←List.append_assoc]
 ·show A.length+_=m
  rw[l2];omega
 ·show 0<(V.drop _).length
  omega
 ·show 0<(V.take _).length
  omega
 ·have:=swR_blk A U (V.take (V.length-U.length)) (V.drop (V.length-U.length)) B (a:=m-U.length) (b:=m+V.length-U.length) (k:=U.length) rfl l2.symm (by omega) (by rw[l1];omega)
  rw[List.append_assoc (A++U),←e]at this
  show A++_++_++(U++B)=swR (A++U++V++B) _ _ _
  rw[this]
  simp
theorem Rt.ok.eq {T:List Str}{m:Nat}{x:Rt}(h:x.ok T m)(he:x.U.length=x.V.length):swR x.l (m-x.U.length) m x.U.length=T:=by
 obtain⟨A,U,V,B⟩:=x
 have h1:=h.m
 have ht:=h.t
 simp only at h1 he ht
 have:=swR_blk A U [] V B (a:=m-U.length) (b:=m) (k:=U.length) rfl he (by omega) (by simp;omega)
 rw[List.append_nil,List.append_nil]at this
 rw[←ht]
 exact this
theorem rotate_ (A U V B:List Str)(hU:0<U.length)(hV:0<V.length)(n a m b:Nat)(hn:(A++U++V++B).length=n)(ha:a=A.length)(hm:m=A.length+U.length)(hb:b=A.length+U.length+V.length)(hl:n≤1000000)(fn:FuncId)(cp:Array Value):
  CallOk Tryz.prog 244 [.c (.sl 1 0 n 1),I a,I m,I b,Fv fn cp] [(1,⟨false,(A++U++V++B).map sC,9⟩)] (.tup []) [(1,⟨false,(A++V++U++B).map sC,9⟩)]:=by
 refine CallOk.mkN 100 Tryz.func244 rfl en244 (by simp[Tryz.ntmps244]) (ClA.of rfl) rfl rfl fun C hR hP=>?_
 have hn':=hn
 simp only[List.length_append]at hn'
 have w1:IntKind.i64.wrap ((m:Int)-(a:Int))=(U.length:Int):=by rw[w64 (by omega) (by omega)];omega
 have w2:IntKind.i64.wrap ((b:Int)-(m:Int))=(V.length:Int):=by rw[w64 (by omega) (by omega)];omega
 simp(maxSteps:=2000000) only[go_sem,w1,w2]
 have v_s:=v_sC
 refine Sm.loopM (M0:=[(1,⟨false,(A++U++V++B).map sC,9⟩)]) (α:={x:Rt//x.ok (A++V++U++B) m}) hP (fun x=>[(0,true,.c (.sl 1 0 n 1)),(2,true,I m),(4,true,Fv fn cp),(10,true,I x.val.U.length),(11,true,I x.val.V.length)])
  (fun x=>[(1,⟨false,x.val.l.map sC,9⟩)]) (fun x=>x.val.U.length+x.val.V.length) ⟨⟨A,U,V,B⟩,⟨rfl,hm.symm,hU,hV⟩⟩ (fun _=>ClM.of (by simp only[List.all_cons,inMV (v_sC _)];rfl)) (fun _=>ClE.of rfl) [(1,1)] ?_ ?_
 ·exact⟨rfl,⟨⟨rfl,rfl⟩,trivial⟩,⟨rfl,rfl,rfl,rfl,rfl,trivial⟩,⟨oV (renV (v_sC _)),trivial⟩⟩
 rintro⟨x,hx⟩ J hj
 simp only at hj⊢
 have hlen:=hx.len
 have hT:(A++V++U++B).length=n:=by rw[←hn];simp only[List.length_append];omega
 rw[hT]at hlen
 have hx1:=hx.m
 have hx2:=hx.u
 have hx3:=hx.v
 have hxl:x.A.length+x.U.length+x.V.length+x.B.length=n:=by rw[←hlen];unfold Rt.l;simp only[List.length_append]
 have wm:IntKind.i64.wrap ((m:Int)-(x.U.length:Int))=((m-x.U.length:Nat):Int):=by rw[w64 (by omega) (by omega)];omega
 have cl:ClM [(1,(⟨false,x.l.map sC,9⟩:Bk))]:=ClM.of (by simp only[List.all_cons,inMV (v_sC _)];rfl)
 refine Sm.go 110 ?_
 refine vv ?_
 refine mtch (fun hc=>?_) (fun hc=>?_)
 ·have hc:x.U.length≠x.V.length:=fun h=>by rw[h]at hc;simp at hc
  refine mtch (fun hd=>?_) (fun hd=>?_)
  ·have hd:x.V.length<x.U.length:=by have:=of_decide_eq_true hd;omega
   obtain⟨y,y1,y2,y3,y4⟩:=hx.up hd
   have sw_:=swap_ x.l (m-x.U.length) m x.V.length (by omega) (by omega) (by omega) fn cp
   rw[hlen,←y2]at sw_
   simp(maxSteps:=2000000) only[go_sem,wm]
   refine CallQ.mi 120 sw_ cl ⟨oS,trivial⟩ ?_
   have w3:IntKind.i64.wrap ((x.U.length:Int)-(y.V.length:Int))=(y.U.length:Int):=by rw[w64 (by omega) (by omega)];omega
   simp(maxSteps:=2000000) only[go_sem,w3,←y4]
   exact hj _ _ ⟨y,y1⟩ [(1,1)] (by simp only;omega) ⟨rfl,⟨⟨rfl,rfl⟩,trivial⟩,⟨rfl,rfl,rfl,rfl,rfl,trivial⟩,⟨oV (renV (v_sC _)),trivial⟩⟩
  ·have hd:x.U.length<x.V.length:=by have:=of_decide_eq_false hd;omega
   obtain⟨y,y1,y2,y3,y4⟩:=hx.dn hd
   have sw_:=swap_ x.l (m-x.U.length) (m+x.V.length-x.U.length) x.U.length (by omega) (by omega) (by omega) fn cp
   rw[hlen,←y2]at sw_
   have w4:IntKind.i64.wrap ((m:Int)+(x.V.length:Int))=((m+x.V.length:Nat):Int):=by rw[w64 (by omega) (by omega)];omega
   have w5:IntKind.i64.wrap (((m+x.V.length:Nat):Int)-(x.U.length:Int))=((m+x.V.length-x.U.length:Nat):Int):=by rw[w64 (by omega) (by omega)];omega
   simp(maxSteps:=2000000) only[go_sem,wm,w4,w5]
   refine CallQ.mi 120 sw_ cl ⟨oS,trivial⟩ ?_
   have w3:IntKind.i64.wrap ((x.V.length:Int)-(y.U.length:Int))=(y.V.length:Int):=by rw[w64 (by omega) (by omega)];omega
   simp(maxSteps:=2000000) only[go_sem,w3,←y3]
   exact hj _ _ ⟨y,y1⟩ [(1,1)] (by simp only;omega) ⟨rfl,⟨⟨rfl,rfl⟩,trivial⟩,⟨rfl,rfl,rfl,rfl,rfl,trivial⟩,⟨oV (renV (v_sC _)),trivial⟩⟩
 ·have hc:x.U.length=x.V.length:=by
   simp at hc;omega
  have sw_:=swap_ x.l (m-x.U.length) m x.U.length (by omega) (by omega) (by omega) fn cp
  rw[hlen,hx.eq hc]at sw_
  clear hj
  simp(maxSteps:=2000000) only[go_sem,wm]
  refine CallQ.mi 120 sw_ cl ⟨oS,trivial⟩ ?_
  refine vv ?_
  have hM2:ClM [(1,(⟨false,(A++V++U++B).map sC,9⟩:Bk))]:=ClM.of (by simp only[List.all_cons,inMV (v_sC _)];rfl)
  exact Sm.fall hR (RetQ.of hR rfl trivial rfl (sub_sh (SubS.sub ⟨oS,trivial⟩)) (clm_sh hM2) (ClV.of rfl))
structure CmpK (H:Hp) (g:FuncId) (cp:Array Value) (key:Str→Int) (ok:Str→Prop):Prop where
 c:∀a b,ok a→ok b→CallH H Tryz.prog g (S a::S b::cp.toList.map cst) (I (key a-key b))
 r:∀a, -10≤key a∧key a≤10
theorem caps_ok2 (x y:V)(caps:List Value):[some (true,x),some (true,y)]++caps.map (fun c=>some (true,cst c))=(x::y::caps.map cst).map fun x=>some (true,x):=by simp
theorem get_str {l:List Str}{i:Nat}(h:i<l.length):(l.map sC)[i]?=some (sC (l.getD i [])):=by
 rw[get_sC h,List.getD_eq_getElem?_getD,List.getElem?_eq_getElem h];rfl
theorem set_sw (l:List Str)(i j:Nat):((l.map sC).set i (sC (l.getD j []))).set j (sC (l.getD i []))=(sw l i j).map sC:=by
 rw[sw,←List.map_set,←List.map_set]
@[reducible] def sB (l:List Str):Nat×Bk:=(1,⟨false,l.map sC,9⟩)
theorem sB_cl (l:List Str):ClM [sB l]:=ClM.of (by simp only[List.all_cons,inMV (v_sC _)];rfl)
def inL (A S:List Str)(x:Str)(B:List Str)(q:Nat):List Str:=A++S.take q++x::(S.drop q++B)
theorem inL_len (A S:List Str)(x:Str)(B:List Str)(q:Nat):(inL A S x B q).length=A.length+S.length+1+B.length:=by
 unfold inL
 have:=congrArg List.length (List.take_append_drop q S)
 simp only[List.length_append,List.length_cons]at this⊢
 omega
theorem inL_x {A S:List Str}{x:Str}{B:List Str}{q:Nat}(hq:q≤S.length):(inL A S x B q).getD (A.length+q) []=x:=by
 unfold inL
 exact getD_at (by rw[List.length_append,List.length_take];omega)
theorem inL_y {A S:List Str}{x:Str}{B:List Str}{q:Nat}(hq:q<S.length):(inL A S x B (q+1)).getD (A.length+q) []=S.getD q []:=by
 unfold inL
 rw[List.append_assoc,getD_r (j:=q) rfl,getD_l (by rw[List.length_take];omega),take_up (z:=[]) hq,getD_r (j:=0) (by rw[List.length_take];omega)]
 rfl
theorem inL_dn {A S:List Str}{x:Str}{B:List Str}{q:Nat}(hq:q<S.length):sw (inL A S x B (q+1)) (A.length+q+1) (A.length+q)=inL A S x B q:=by
 unfold inL
 rw[take_up (z:=[]) hq,drop_up (z:=[]) hq]
 have:=sw_down (A++S.take q) (S.drop (q+1)++B) (S.getD q []) x (i:=A.length+q) (j:=A.length+q+1) (by rw[List.length_append,List.length_take];omega) (by rw[List.length_append,List.length_take];omega)
 rw[show A++(S.take q++[S.getD q []])++x::(S.drop (q+1)++B)=A++S.take q++S.getD q []::x::(S.drop (q+1)++B) from by simp,this]
 rfl
def isrL (key:Str→Int)(A M B:List Str)(k:Nat):List Str:=A++isr key (M.take k)++(M.drop k++B)
theorem isrL_in {key:Str→Int}{A M B:List Str}{k:Nat}(h:k<M.length):isrL key A M B k=inL A (isr key (M.take k)) (M.getD k []) (M.drop (k+1)++B) k:=by
 have hl:(isr key (M.take k)).length=k:=by rw[isr_len,List.length_take];omega
 have e1:(isr key (M.take k)).take k=isr key (M.take k):=List.take_of_length_le (by omega)
 have e2:(isr key (M.take k)).drop k=[]:=List.drop_eq_nil_of_le (by omega)
 unfold isrL inL
 rw[e1,e2,drop_up (z:=[]) h]
 rfl
theorem isrL_out {key:Str→Int}{A M B:List Str}{k q:Nat}(h:k<M.length)(h1:∀y∈(isr key (M.take k)).take q,key y≤key (M.getD k []))(h2:∀y∈(isr key (M.take k)).drop q,key (M.getD k [])<key y):inL A (isr key (M.take k)) (M.getD k []) (M.drop (k+1)++B) q=isrL key A M B (k+1):=by
 have:=isr_snoc (key:=key) (S1:=(isr key (M.take k)).take q) (S2:=(isr key (M.take k)).drop q) (l:=M.take k) (x:=M.getD k []) (List.take_append_drop _ _) h1 h2
 unfold isrL inL
 rw[take_up (z:=[]) h,←this]
 simp
theorem insort_ {H:Hp}{g:FuncId}{cp:Array Value}{key:Str→Int}{ok:Str→Prop}(hc:CmpK H g cp key ok)(A M B:List Str)(n a b:Nat)(hn:(A++M++B).length=n)(ha:a=A.length)(hb:b=A.length+M.length)(hl:n≤1000000)(hok:∀x∈M,ok x):
  CallX H Tryz.prog 165 [.c (.sl 1 0 n 1),I a,I b,Fv g cp] [sB (A++M++B)] (fun _:Unit=> .tup []) (fun _=>[sB (A++isr key M++B)]) (fun _ _=>True):=by
 refine CallX.mkS Tryz.func165 rfl en165 (by simp[Tryz.ntmps165]) (ClA.of rfl) (fun _=>rfl) (fun _=>rfl) fun C hR hP hH hL=>?_
 have v_s:=v_sC
 have hn':=hn
 simp only[List.length_append]at hn'
 have w1:IntKind.i64.wrap ((a:Int)+1)=((a+1:Nat):Int):=wS (by omega)
 refine Sm.go 100 ?_
 simp(maxSteps:=2000000) only[go_sem,w1]
 have h0:A++M++B=isrL key A M B 0∨True:= .inr trivial
 have hin:A++M++B=isrL key A M B 1:=by
  unfold isrL
  cases M with
  |nil=>rfl
  |cons x M=>simp[isr,ins]
 rw[hin]
 rw[hin]at hP
 refine Sm.loopM (M0:=[sB (isrL key A M B 1)]) (α:={k:Nat//1≤k∧(k≤M.length∨k=1)}) hP (fun k=>[(0,true,.c (.sl 1 0 n 1)),(1,true,I a),(2,true,I b),(3,true,Fv g cp),(8,true,I (a+k.val:Nat))])
  (fun k=>[sB (isrL key A M B k.val)]) (fun k=>M.length-k.val) ⟨1,Nat.le_refl _,.inr rfl⟩ (fun _=>sB_cl _) (fun _=>ClE.of rfl) [(1,1)] ?_ ?_
 ·exact⟨rfl,⟨⟨rfl,rfl⟩,trivial⟩,⟨rfl,rfl,rfl,rfl,rfl,trivial⟩,⟨oV (renV (v_sC _)),trivial⟩⟩
 rintro⟨k,hk1,hk2⟩ J hj
 simp only at hj hk1 hk2⊢
 refine Sm.go 110 ?_
 refine vv ?_
 refine mtch (fun hd=>?_) (fun hd=>?_)
 ·have hd:k<M.length:=by have:=lt_of_dec hd;omega
  rw[isrL_in hd]
  have hsl:(isr key (M.take k)).length=k:=by rw[isr_len,List.length_take];omega
  have hsm:∀x∈isr key (M.take k),ok x:=fun x hx=>hok x (List.mem_of_mem_take (isr_mem.1 hx))
  have hox:ok (M.getD k []):=by
   rw[List.getD_eq_getElem?_getD,List.getElem?_eq_getElem hd];exact hok _ (List.getElem_mem hd)
  have hss:=isr_srt (key:=key) (M.take k)
  have hout:=fun q=>isrL_out (key:=key) (A:=A) (M:=M) (B:=B) (k:=k) (q:=q) hd
  generalize isr key (M.take k)=S1 at*
  generalize M.getD k []=x at*
  have hBl:(M.drop (k+1)++B).length=n-a-k-1:=by rw[List.length_append,List.length_drop];omega
  generalize M.drop (k+1)++B=B1 at*
  have hlen:∀q,(inL A S1 x B1 q).length=n:=fun q=>by rw[inL_len];omega
  refine Sm.loopM (M0:=[sB (isrL key A M B 1)]) (α:={q:Nat//q≤k∧∀y∈S1.drop q,key x<key y}) hP (fun q=>[(0,true,.c (.sl 1 0 n 1)),(1,true,I a),(2,true,I b),(3,true,Fv g cp),(8,true,I (a+k:Nat)),(9,true,I (a+q.val:Nat))])
   (fun q=>[sB (inL A S1 x B1 q.val)]) (fun q=>q.val) ⟨k,Nat.le_refl _,fun y hy=>by rw[List.drop_eq_nil_of_le (by omega)]at hy;cases hy⟩ (fun _=>sB_cl _) (fun _=>ClE.of rfl) [(1,1)] ?_ ?_
  ·exact⟨rfl,⟨⟨rfl,rfl⟩,trivial⟩,⟨rfl,rfl,rfl,rfl,rfl,rfl,trivial⟩,⟨oV (renV (v_sC _)),trivial⟩⟩
  rintro⟨q,hq,hgt⟩ J2 hj2
  simp only at hj2 hq hgt⊢
  refine Sm.go 120 ?_
  refine vv ?_
  cases q with
  |zero=>
   have e0:decide ((a:Int)<(a:Int))=false:=decide_eq_false (by omega)
   have hL0:a<(inL A S1 x B1 0).length:=by rw[hlen];omega
   have gx:=get_str hL0
   refine Sm.dg 120 14 mix ?_
   obtain⟨i2,hi2,hw2⟩:∃i:Nat,i<(inL A S1 x B1 0).length∧(IntKind.i64.wrap ((a:Int)-1)).toNat=i:=⟨_,by rw[w64 (by omega) (by omega)];omega,rfl⟩
   have gy:=get_str hi2
   simp(maxSteps:=2000000) only[go_sem,e0,gx,hw2,gy]
   refine CallQ.hg 130 (H:=H) (xs:=[]) (v:=I 0) (fun h=>by cases h) hH (fun h=>by cases h) ?_
   simp(maxSteps:=2000000) only[go_sem,e0]
   have:=hout 0 (fun y hy=>by rw[List.take_zero]at hy;cases hy) hgt
   rw[this]
   simp only[wS (show a+k≤1000000000000000000 by omega)]
   exact hj _ _ ⟨k+1,by omega,.inl hd⟩ [(1,1)] (by simp only;omega) ⟨rfl,⟨⟨rfl,rfl⟩,trivial⟩,⟨rfl,rfl,rfl,rfl,rfl,trivial⟩,⟨oV (renV (v_sC _)),trivial⟩⟩
  |succ q=>
   have e0:decide ((a:Int)<((a+(q+1):Nat):Int))=true:=decide_eq_true (by omega)
   have hq':q<S1.length:=by omega
   have hlq:=hlen (q+1)
   have gx:=inL_x (A:=A) (S:=S1) (x:=x) (B:=B1) (q:=q+1) (by omega)
   have gy:=inL_y (A:=A) (S:=S1) (x:=x) (B:=B1) (q:=q) hq'
   have hsw:=inL_dn (A:=A) (S:=S1) (x:=x) (B:=B1) (q:=q) hq'
   have hgq:∀y∈S1.drop q,key x<key y∨y=S1.getD q []:=fun y hy=>by
    rw[drop_up (z:=[]) hq']at hy
    rcases List.mem_cons.1 hy with h|h
    ·exact .inr h
    ·exact .inl (hgt y h)
   have hle:key (S1.getD q [])≤key x→∀y∈S1.take (q+1),key y≤key x:=fun h y hy=>by
    have h3:Srt key (S1.take q++[S1.getD q []]):=by rw[←take_up (z:=[]) hq'];exact hss.sub (List.take_sublist _ _)
    rw[take_up (z:=[]) hq']at hy
    exact last_le h3 h y hy
   have hoy:ok (S1.getD q []):=by
    rw[List.getD_eq_getElem?_getD,List.getElem?_eq_getElem hq'];exact hsm _ (List.getElem_mem hq')
   have hret:=hout (q+1)
   rw[←ha]at gx gy hsw
   generalize S1.getD q []=y at*
   generalize hLq:inL A S1 x B1 (q+1)=L at*
   have hL1:a+(q+1)<L.length:=by omega
   have hL0:a+q<L.length:=by omega
   have g1:=get_str hL1
   have g0:=get_str hL0
   have hs:=set_sw L (a+(q+1)) (a+q)
   rw[gx,gy]at hs
   rw[gx]at g1
   rw[gy]at g0
   rw[show a+q+1=a+(q+1) from by omega]at hsw
   rw[hsw]at hs
   have hml:(L.map sC).length=L.length:=List.length_map _
   have w2:IntKind.i64.wrap (((a+(q+1):Nat):Int)-1)=((a+q:Nat):Int):=by rw[w64 (by omega) (by omega)];omega
   refine Sm.dg 120 14 mix ?_
   simp(maxSteps:=2000000) only[go_sem,e0,g1,g0,w2]
   refine⟨⟨by omega,by omega⟩,⟨by omega,by omega⟩,?_⟩
   refine CallQ.h 120 (hc.c x y hox hoy) hH (caps_ok2 _ _ _) ?_
   simp(maxSteps:=2000000) only[go_sem,e0]
   refine mtch (fun he=>?_) (fun he=>?_)
   ·have he:key x<key y:=by have:=of_decide_eq_true he;omega
    refine Sm.dgW [1] 130 16 mix ?_
    simp(maxSteps:=2000000) only[go_sem,g1,g0,w2,hml]
    refine⟨⟨by omega,by omega⟩,?_⟩
    refine DOpQ.look (nx':=130) (sc:=True) (v:=V.c (sC y)) [sB L] 130 (by simp(maxSteps:=2000000) only[go_sem,g0]<;>rfl) trivial ⟨rfl,trivial⟩ rfl ?_
    simp(maxSteps:=2000000) only[go_sem,g1,hml]
    refine⟨⟨by omega,by omega⟩,?_⟩
    refine DOpQ.look (nx':=130) (sc:=True) (v:=V.c (sC x)) [sB L] 130 (by simp(maxSteps:=2000000) only[go_sem,g1]<;>rfl) trivial ⟨rfl,trivial⟩ rfl ?_
    simp(maxSteps:=2000000) only[go_sem,hml,w2,List.length_set,hs]
    refine⟨⟨by omega,by omega⟩,by omega,⟨by omega,by omega⟩,by omega,?_⟩
    exact hj2 _ _ ⟨q,by omega,fun z hz=>by
     rcases hgq z hz with h|h
     ·exact h
     ·rw[h];exact he⟩ [(1,1)] (by simp only;omega) ⟨rfl,⟨⟨rfl,rfl⟩,trivial⟩,⟨rfl,rfl,rfl,rfl,rfl,rfl,trivial⟩,⟨oV (renV (v_sC _)),trivial⟩⟩
   ·have he:key y≤key x:=by have:=of_decide_eq_false he;omega
    have hre:=hret (hle he) hgt
    clear hj2
    subst hre
    simp only[wS (show a+k≤1000000000000000000 by omega)]
    exact hj _ _ ⟨k+1,by omega,.inl hd⟩ [(1,1)] (by simp only;omega) ⟨rfl,⟨⟨rfl,rfl⟩,trivial⟩,⟨rfl,rfl,rfl,rfl,rfl,trivial⟩,⟨oV (renV (v_sC _)),trivial⟩⟩
 ·have hd:¬k<M.length:=fun h=>by have:=of_decide_eq_false hd;omega
  clear hj
  have hfin:isrL key A M B k=A++isr key M++B:=by
   unfold isrL
   rw[List.take_of_length_le (by omega),List.drop_eq_nil_of_le (by omega),List.nil_append]
  rw[hfin]
  exact Sm.fall (hR () C hL trivial) (RetQ.of (hR () C hL trivial) rfl trivial rfl (sub_sh (SubS.sub ⟨oS,trivial⟩)) (clm_sh (sB_cl _)) (ClV.of rfl))
@[go_sem ↓] theorem plS_1_11d:plS 1 11=[(0,11)]:=rfl
@[go_sem ↓] theorem plS_1_3d:plS 1 3=[(0,3)]:=rfl
@[go_sem ↓] theorem plS_1_4e:plS 1 4=[(0,4)]:=rfl
@[go_sem ↓] theorem plS_1_6d:plS 1 6=[(0,6)]:=rfl
def SubV (M':Mem):List Nat→Mem→Prop
 |_,[]=>True
 |seen,(n,b)::r=>(n∈seen∨∃b',M'.get n=some b'∧Wk b b')∧SubV M' (n::seen) r
theorem SubV.sub {M':Mem}:∀{M:Mem} {seen:List Nat},SubV M' seen M→∀n b,n∉seen→M.get n=some b→∃b',M'.get n=some b'∧Wk b b'
 |[],_,_,n,b,_,h=>by cases h
 |(m,c)::M,seen,hS,n,b,hn,h=>by
  rw[Mem.get_cons]at h
  split at h
  ·rename_i hm
   subst hm
   cases h
   rcases hS.1 with h1|h1
   ·exact absurd h1 hn
   ·exact h1
  ·rename_i hm
   exact SubV.sub hS.2 n b (by simp only[List.mem_cons,not_or];exact⟨hm,hn⟩) h
theorem SubV.sub0 {M M':Mem}(h:SubV M' [] M):Sub M M':=fun n b hb=>h.sub n b (by simp) hb
theorem nameN_ (n:Nat)(hn:rnOk [(3,n),(1,1),(2,2)]=true)(T:List Tk)(hT:T.length≤100000)(sT:STk T)(p:Ps)(h:p.at_<T.length)(cs:List Cv)(hv:cs.all Cv.isV=true)(off:Nat)(ho:off<cs.length)(ty:TypeId):
  CallOk Tryz.prog 149 [.c (.p 1 0),.c (.p n off)] [(1,⟨false,psC T p,96⟩),(n,⟨false,cs,ty⟩),(2,⟨true,rowsC (T.map Tk.r),57⟩)] (Bo (namP T p).1.isSome) ((1,⟨false,psC T (namP T p).2,96⟩)::(match (namP T p).1 with|some s=>[(n,⟨false,cs.set off (sC s),ty⟩)]|none=>[])):=by
 have h0:=(name_ T hT sT p h cs hv off ho ty).ren (rn_inj [(3,n),(1,1),(2,2)] hn)
 have hr1:Mem.ren (rn [(3,n),(1,1),(2,2)]) (pD T p cs ty)=[(1,⟨false,psC T p,96⟩),(n,⟨false,cs,ty⟩),(2,⟨true,rowsC (T.map Tk.r),57⟩)]:=by
  simp only[pD,Mem.ren,List.map_cons,List.map_nil,renV hv,renV (rowsC_isV _)];rfl
 rw[hr1]at h0
 cases hi:(namP T p).1 with
 |none=>rw[hi]at h0;exact h0
 |some s=>
  rw[hi]at h0
  simp only[Mem.ren,List.map_cons,List.map_nil,renV (setV hv)]at h0
  exact h0
theorem integerN_ (n:Nat)(hn:rnOk [(3,n),(1,1),(2,2)]=true)(T:List Tk)(hT:T.length≤100000)(p:Ps)(h:p.at_<T.length)(hN:(hereP T p).k=2→CallOk Tryz.prog 266 [S (hereP T p).s] [] (.tup [Wi (nmbQ (hereP T p).s).1,Wi (nmbQ (hereP T p).s).2]) [])(cs:List Cv)(hv:cs.all Cv.isV=true)(off:Nat)(ho:off<cs.length)(ty:TypeId):
  CallOk Tryz.prog 231 [.c (.p 1 0),.c (.p n off)] [(1,⟨false,psC T p,96⟩),(n,⟨false,cs,ty⟩),(2,⟨true,rowsC (T.map Tk.r),57⟩)] (Bo (intP T p).1.isSome) ((1,⟨false,psC T (intP T p).2,96⟩)::(match (intP T p).1 with|some s=>[(n,⟨false,cs.set off (.v (.int .i64 s)),ty⟩)]|none=>[])):=by
 have h0:=(integer_ T hT p h hN cs hv off ho ty).ren (rn_inj [(3,n),(1,1),(2,2)] hn)
 have hr1:Mem.ren (rn [(3,n),(1,1),(2,2)]) (pD T p cs ty)=[(1,⟨false,psC T p,96⟩),(n,⟨false,cs,ty⟩),(2,⟨true,rowsC (T.map Tk.r),57⟩)]:=by
  simp only[pD,Mem.ren,List.map_cons,List.map_nil,renV hv,renV (rowsC_isV _)];rfl
 rw[hr1]at h0
 cases hi:(intP T p).1 with
 |none=>rw[hi]at h0;exact h0
 |some s=>
  rw[hi]at h0
  simp only[Mem.ren,List.map_cons,List.map_nil,renV (setV hv)]at h0
  exact h0
theorem unL_isV (u:Un):(unL u).all Cv.isV=true:=rfl
theorem midV {c0 c1:List Cv}(v0:c0.all Cv.isV=true)(v1:c1.all Cv.isV=true)(x:List Cv)(hx:x.all Cv.isV=true):(c0++x++c1).all Cv.isV=true:=by rw[List.all_append,List.all_append,v0,v1,hx];rfl
theorem unitN_ (n:Nat)(hn:rnOk [(3,n),(1,1),(2,2)]=true)(T:List Tk)(hT:T.length≤40000)(g:GTk T)(sT:STk T)(p:Ps)(h:p.at_<T.length)(c0 c1:List Cv)(v0:c0.all Cv.isV=true)(v1:c1.all Cv.isV=true)(ty:TypeId)(u0:Un):
  CallOk Tryz.prog 232 [.c (.p 1 0),.c (.p n c0.length)] [(1,⟨false,psC T p,96⟩),(n,⟨false,c0++unL u0++c1,ty⟩),(2,⟨true,rowsC (T.map Tk.r),57⟩)] (Bo (untP T p).1.isSome) ((1,⟨false,psC T (untP T p).2,96⟩)::(match (untP T p).1 with|some u=>[(n,⟨false,c0++unL u++c1,ty⟩)]|none=>[])):=by
 have h0:=(unit_ T hT g sT p h c0 c1 v0 v1 ty u0).ren (rn_inj [(3,n),(1,1),(2,2)] hn)
 have hr1:Mem.ren (rn [(3,n),(1,1),(2,2)]) (pD T p (c0++unL u0++c1) ty)=[(1,⟨false,psC T p,96⟩),(n,⟨false,c0++unL u0++c1,ty⟩),(2,⟨true,rowsC (T.map Tk.r),57⟩)]:=by
  simp only[pD,Mem.ren,List.map_cons,List.map_nil,renV (midV v0 v1 _ (unL_isV u0)),renV (rowsC_isV _)];rfl
 rw[hr1]at h0
 cases hi:(untP T p).1 with
 |none=>rw[hi]at h0;exact h0
 |some s=>
  rw[hi]at h0
  simp only[Mem.ren,List.map_cons,List.map_nil,renV (midV v0 v1 _ (unL_isV s))]at h0
  exact h0
theorem integersN_ {H:Hp}(n m:Nat)(hn:rnOk [(3,n),(1,1),(2,2),(6,m)]=true)(T:List Tk)(hT:T.length≤40000)(g:GTk T)(p:Ps)(h:p.at_<T.length)(hN:∀q:Ps,(hereP T q).k=2→CallOk Tryz.prog 266 [S (hereP T q).s] [] (.tup [Wi (nmbQ (hereP T q).s).1,Wi (nmbQ (hereP T q).s).2]) [])(a b:Str)(c0 c1:List Cv)(v0:c0.all Cv.isV=true)(v1:c1.all Cv.isV=true)(ty:TypeId):
  CallX H Tryz.prog 234 [.c (.p 1 0),.c (.p n c0.length),S a,S b] [(1,⟨false,psC T p,96⟩),(n,⟨false,c0++ .v (.slice none 0 0)::c1,ty⟩),(2,⟨true,rowsC (T.map Tk.r),57⟩)] (fun _:List Int=>Bo (itsP T a b 40000 [] p).1.isSome) (fun x=>[(1,⟨false,psC T (itsP T a b 40000 [] p).2,96⟩),(n,⟨false,c0++ .sl m 0 x.length 1::c1,ty⟩),(m,⟨false,x.map iC,3⟩)]) (fun x _=>∀l,(itsP T a b 40000 [] p).1=some l→x=l):=by
 have h0:=(integers_ (H:=H) T hT g p h hN a b c0 c1 v0 v1 ty).ren (rn_inj [(3,n),(1,1),(2,2),(6,m)] hn)
 have e6:rn [(3,n),(1,1),(2,2),(6,m)] 6=m:=rfl
 have hr1:Mem.ren (rn [(3,n),(1,1),(2,2),(6,m)]) (pD T p (c0++ .v (.slice none 0 0)::c1) ty)=[(1,⟨false,psC T p,96⟩),(n,⟨false,c0++ .v (.slice none 0 0)::c1,ty⟩),(2,⟨true,rowsC (T.map Tk.r),57⟩)]:=by
  simp only[pD,Mem.ren,List.map_cons,List.map_nil,ren_mid v0 v1,renV (rowsC_isV _)];rfl
 rw[hr1]at h0
 simp only[Mem.ren,List.map_cons,List.map_nil,ren_mid v0 v1,renV (v_iC2 _),Cv.ren,e6]at h0
 exact h0
theorem namesN_ {H:Hp}(n m:Nat)(hn:rnOk [(3,n),(1,1),(2,2),(6,m)]=true)(T:List Tk)(hT:T.length≤40000)(g:GTk T)(sT:STk T)(p:Ps)(h:p.at_<T.length)(a b:Str)(c0 c1:List Cv)(v0:c0.all Cv.isV=true)(v1:c1.all Cv.isV=true)(ty:TypeId):
  CallX H Tryz.prog 235 [.c (.p 1 0),.c (.p n c0.length),S a,S b] [(1,⟨false,psC T p,96⟩),(n,⟨false,c0++ .v (.slice none 0 0)::c1,ty⟩),(2,⟨true,rowsC (T.map Tk.r),57⟩)] (fun _:List Str=>Bo (nmsP T a b 40000 [] p).1.isSome) (fun x=>[(1,⟨false,psC T (nmsP T a b 40000 [] p).2,96⟩),(n,⟨false,c0++ .sl m 0 x.length 1::c1,ty⟩),(m,⟨false,x.map sC,9⟩)]) (fun x _=>∀l,(nmsP T a b 40000 [] p).1=some l→x=l):=by
 have h0:=(names_ (H:=H) T hT g sT p h a b c0 c1 v0 v1 ty).ren (rn_inj [(3,n),(1,1),(2,2),(6,m)] hn)
 have e6:rn [(3,n),(1,1),(2,2),(6,m)] 6=m:=rfl
 have hr1:Mem.ren (rn [(3,n),(1,1),(2,2),(6,m)]) (pD T p (c0++ .v (.slice none 0 0)::c1) ty)=[(1,⟨false,psC T p,96⟩),(n,⟨false,c0++ .v (.slice none 0 0)::c1,ty⟩),(2,⟨true,rowsC (T.map Tk.r),57⟩)]:=by
  simp only[pD,Mem.ren,List.map_cons,List.map_nil,ren_mid v0 v1,renV (rowsC_isV _)];rfl
 rw[hr1]at h0
 simp only[Mem.ren,List.map_cons,List.map_nil,ren_mid v0 v1,renV (v_sC2 _),Cv.ren,e6]at h0
 exact h0
@[reducible,go_sem] def nm6 (k:Nat)(i:Nat):Nat:=bif k==i then 20+i else 10+i
@[reducible,go_sem] def dgC (d:DgL):List Cv:=[.v (sv d.nm),.sl 10 0 d.tys.length 11,.sl 11 0 d.cus.length 3,.sl 12 0 d.mas.length 4,.sl 13 0 d.ins.length 4,.sl 14 0 d.bls.length 6,.sl 15 0 d.ous.length 1]
@[reducible,go_sem] def dgR:List (Nat×Bk):=[(10,⟨true,[],93⟩),(11,⟨true,[],110⟩),(12,⟨true,[],115⟩),(13,⟨true,[],118⟩),(14,⟨true,[],82⟩),(15,⟨true,[],9⟩)]
structure DgL.inn (H:Hp) (d:DgL):Prop where
 cus:∀c∈d.cus,c.ok H
 mas:∀m∈d.mas,m.ok H
 bls:∀b∈d.bls,b.ok H
theorem DgL.inn.mono {H H':Hp}(h:H.le H'){d:DgL}(k:d.inn H):d.inn H':=⟨fun c hc=>(k.cus c hc).mono h,fun c hc=>(k.mas c hc).mono h,fun c hc=>(k.bls c hc).mono h⟩
end Go.Proofs.YtlnpgbnhcondjaaGreatDoor.Fx
