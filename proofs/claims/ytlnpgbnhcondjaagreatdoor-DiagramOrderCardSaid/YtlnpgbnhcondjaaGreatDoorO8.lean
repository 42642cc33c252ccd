/-  -/
import Derived.Test.YtlnpgbnhcondjaaGreatDoorTf
import Derived.Test.YtlnpgbnhcondjaaGreatDoorYJ
import Derived.Test.YtlnpgbnhcondjaaGreatDoorYS
import Derived.Test.YtlnpgbnhcondjaaGreatDoorRQ
namespace Go.Proofs.YtlnpgbnhcondjaaGreatDoor.Fx
open Vg Tf
set_option linter.unusedSimpArgs false
set_option linter.unusedVariables false
set_option maxRecDepth 100000
set_option maxHeartbeats 4000000
theorem mid_c {lo hi:Nat}(h1:lo≤1000000)(h2:hi≤1000000):IntKind.i64.wrap ((IntKind.u64.wrap (IntKind.i64.wrap ((lo:Int)+(hi:Int)))).fdiv (2^min 1 64))=(((lo+hi)/2:Nat):Int):=by
 have e0:IntKind.i64.wrap ((lo:Int)+(hi:Int))=(lo:Int)+(hi:Int):=w64 (by omega) (by omega)
 have e1:IntKind.u64.wrap ((lo:Int)+(hi:Int))=(lo:Int)+(hi:Int):=wu64 (by omega) (by omega)
 rw[e0,e1]
 have e2:((lo:Int)+(hi:Int)).fdiv (2^min 1 64)=(((lo+hi)/2:Nat):Int):=by
  rw[show((2:Int)^min 1 64)=2 from rfl,Int.fdiv_eq_ediv_of_nonneg _ (by decide)]
  omega
 rw[e2,w64 (by omega) (by omega)]
theorem inL_0 (A S B:List Str)(x:Str):inL A S x B 0=A++[x]++S++B:=by unfold inL;simp
theorem inL_all (A S B:List Str)(x:Str):inL A S x B S.length=A++S++[x]++B:=by unfold inL;simp
theorem inL_mid (A S B:List Str)(x:Str)(q:Nat):inL A S x B q=A++(S.take q++x::S.drop q)++B:=by unfold inL;simp
theorem inL_x0 {A S:List Str}{x:Str}{B:List Str}:(inL A S x B 0).getD A.length []=x:=inL_x (A:=A) (S:=S) (x:=x) (B:=B) (q:=0) (Nat.zero_le _)
theorem inL_r {A S:List Str}{x:Str}{B:List Str}{q j:Nat}(hj:q≤j)(hs:j<S.length):(inL A S x B q).getD (A.length+(j+1)) []=S.getD j []:=by
 unfold inL
 have e:j=q+(j-q):=by omega
 rw[getD_r (j:=j+1-q) (by rw[List.length_append,List.length_take];omega),show j+1-q=(j-q)+1 from by omega,List.getD_cons_succ,getD_l (by rw[List.length_drop];omega)]
 rw[List.getD_eq_getElem?_getD,List.getElem?_drop,←e,←List.getD_eq_getElem?_getD]
theorem inL_l {A S:List Str}{x:Str}{B:List Str}{q j:Nat}(hj:j<q)(hs:j<S.length):(inL A S x B q).getD (A.length+j) []=S.getD j []:=by
 unfold inL
 rw[List.append_assoc,getD_r (j:=j) rfl,getD_l (by rw[List.length_take];omega),List.getD_eq_getElem?_getD,List.getElem?_take,if_pos hj,←List.getD_eq_getElem?_getD]
theorem inL_up {A S:List Str}{x:Str}{B:List Str}{q:Nat}(hq:q<S.length):sw (inL A S x B q) (A.length+q) (A.length+q+1)=inL A S x B (q+1):=by
 unfold inL
 rw[take_up (z:=[]) hq,drop_up (z:=[]) hq]
 have:=sw_up (A++S.take q) (S.drop (q+1)++B) x (S.getD q []) (i:=A.length+q) (j:=A.length+q+1) (by rw[List.length_append,List.length_take];omega) (by rw[List.length_append,List.length_take];omega)
 rw[List.cons_append,this]
 simp
def SymOk (H:Hp)(g:FuncId)(cp:Array Value)(key:Str→Int)(ok:Str→Prop)(A U V B:List Str):Prop:=
 ∀n a m b:Nat,(A++U++V++B).length=n→a=A.length→m=A.length+U.length→b=A.length+U.length+V.length→n≤1000000→(∀x∈U,ok x)→(∀x∈V,ok x)→Srt key U→Srt key V→
  CallX H Tryz.prog 166 [.c (.sl 1 0 n 1),I a,I m,I b,Fv g cp] [sB (A++U++V++B)] (fun _:Unit=> .tup []) (fun _=>[sB (A++isr key (U++V)++B)]) (fun _ _=>True)
section
variable {H:Hp} {g:FuncId} {cp:Array Value} {key:Str→Int} {ok:Str→Prop} (hc:CmpK H g cp key ok)
include hc
theorem sym1_ (A S B:List Str)(x:Str):SymOk H g cp key ok A [x] S B:=fun n a m b hn ha hm hb hl hox hoS _ hS=>by
 refine CallX.mkS Tryz.func166 rfl en166 (by simp[Tryz.ntmps166]) (ClA.of rfl) (fun _=>rfl) (fun _=>rfl) fun C hR hP hH hL=>?_
 have v_s:=v_sC
 have hn':=hn
 simp only[List.length_append,List.length_singleton]at hn' hm hb
 have hox:ok x:=hox x (List.mem_singleton.2 rfl)
 have w1:IntKind.i64.wrap ((m:Int)-(a:Int))=1:=by rw[w64 (by omega) (by omega)];omega
 rw[←inL_0]at hP⊢
 have hlen:∀q,(inL A S x B q).length=n:=fun q=>by rw[inL_len];omega
 refine Sm.go 100 ?_
 simp(maxSteps:=2000000) only[go_sem,w1]
 refine Sm.loopM (M0:=[sB (inL A S x B 0)]) (α:={p:Nat×Nat//p.1≤p.2∧p.2≤S.length∧(p.1=0∨key (S.getD (p.1-1) [])<key x)∧(p.2=S.length∨key x≤key (S.getD p.2 []))}) hP (fun p=>[(0,true,.c (.sl 1 0 n 1)),(1,true,I a),(4,true,Fv g cp),(10,true,I (m+p.val.1:Nat)),(11,true,I (m+p.val.2:Nat))])
  (fun _=>[sB (inL A S x B 0)]) (fun p=>p.val.2-p.val.1) ⟨(0,S.length),Nat.zero_le _,Nat.le_refl _,.inl rfl,.inl rfl⟩ (fun _=>sB_cl _) (fun _=>ClE.of rfl) [(1,1)] ?_ ?_
 ·have e1:b=m+S.length:=by omega
  rw[e1]
  exact⟨rfl,⟨⟨rfl,rfl⟩,trivial⟩,⟨rfl,rfl,rfl,rfl,rfl,trivial⟩,⟨oV (renV (v_sC _)),trivial⟩⟩
 rintro⟨⟨lo,hi⟩,h1,h2,h3,h4⟩ J hj
 simp only at hj h1 h2 h3 h4⊢
 refine Sm.go 110 ?_
 refine vv ?_
 refine mtch (fun hd=>?_) (fun hd=>?_)
 ·have hd:lo<hi:=by have:=lt_of_dec hd;omega
  have em:=mid_c (lo:=m+lo) (hi:=m+hi) (by omega) (by omega)
  obtain⟨c,hc1,hc2,hc3⟩:∃c,(m+lo+(m+hi))/2=m+c∧lo≤c∧c<hi:=⟨(lo+hi)/2,by omega,by omega,by omega⟩
  rw[hc1]at em
  have gy:=inL_r (A:=A) (S:=S) (x:=x) (B:=B) (q:=0) (j:=c) (Nat.zero_le _) (by omega)
  have gx:=inL_x0 (A:=A) (S:=S) (x:=x) (B:=B)
  rw[show A.length+(c+1)=m+c from by omega]at gy
  rw[←ha]at gx
  have hoy:ok (S.getD c []):=by
   rw[List.getD_eq_getElem?_getD,List.getElem?_eq_getElem (by omega)];exact hoS _ (List.getElem_mem (by omega))
  have hL0:=hlen 0
  obtain⟨y,hy⟩:∃y,y=S.getD c []:=⟨_,rfl⟩
  rw[←hy]at gy hoy
  have g1:=get_str (l:=inL A S x B 0) (i:=m+c) (by omega)
  have g0:=get_str (l:=inL A S x B 0) (i:=a) (by omega)
  rw[gy]at g1
  rw[gx]at g0
  simp(maxSteps:=2000000) only[go_sem,em]
  refine Sm.dg 120 9 mix ?_
  simp(maxSteps:=2000000) only[go_sem,g1,g0]
  refine⟨⟨by omega,by omega⟩,⟨by omega,by omega⟩,?_⟩
  refine CallQ.h 130 (hc.c y x hoy hox) hH (caps_ok2 _ _ _) ?_
  refine vv ?_
  refine mtch (fun he=>?_) (fun he=>?_)
  ·have he:key y<key x:=by have:=of_decide_eq_true he;omega
   simp(maxSteps:=2000000) only[go_sem,wS (show m+c≤1000000000000000000 by omega)]
   exact hj _ _ ⟨(c+1,hi),by simp only;omega,h2,.inr (by simp only[Nat.add_sub_cancel,←hy];exact he),h4⟩ [(1,1)] (by simp only;omega) ⟨rfl,⟨⟨rfl,rfl⟩,trivial⟩,⟨rfl,rfl,rfl,rfl,rfl,trivial⟩,⟨oV (renV (v_sC _)),trivial⟩⟩
  ·have he:key x≤key y:=by have:=of_decide_eq_false he;omega
   exact hj _ _ ⟨(lo,c),by simp only;omega,by simp only;omega,h3,.inr (by simp only[←hy];exact he)⟩ [(1,1)] (by simp only;omega) ⟨rfl,⟨⟨rfl,rfl⟩,trivial⟩,⟨rfl,rfl,rfl,rfl,rfl,trivial⟩,⟨oV (renV (v_sC _)),trivial⟩⟩
 ·have hd:lo=hi:=by have:=of_decide_eq_false hd;omega
  subst hd
  clear hj
  have hfin:S.take lo++x::S.drop lo=isr key ([x]++S):=one_ok (key:=key) (z:=[]) (V:=S) (x:=x) hS h2 h3 h4
  have w2:IntKind.i64.wrap (((m+lo:Nat):Int)-1)=((a+lo:Nat):Int):=by rw[w64 (by omega) (by omega)];omega
  refine Sm.loopM (M0:=[sB (inL A S x B 0)]) (α:={q:Nat//q≤lo}) hP (fun q=>[(0,true,.c (.sl 1 0 n 1)),(10,true,I (m+lo:Nat)),(13,true,I (a+q.val:Nat))])
   (fun q=>[sB (inL A S x B q.val)]) (fun q=>lo-q.val) ⟨0,Nat.zero_le _⟩ (fun _=>sB_cl _) (fun _=>ClE.of rfl) [(1,1)] ?_ ?_
  ·exact⟨rfl,⟨⟨rfl,rfl⟩,trivial⟩,⟨rfl,rfl,rfl,trivial⟩,⟨oV (renV (v_sC _)),trivial⟩⟩
  rintro⟨q,hq⟩ J hj
  simp only at hj hq⊢
  refine Sm.go 120 ?_
  simp(maxSteps:=2000000) only[go_sem,w2]
  refine mtch (fun hd=>?_) (fun hd=>?_)
  ·have hd:q<lo:=by have:=lt_of_dec hd;omega
   have hq':q<S.length:=by omega
   have hlq:=hlen q
   have gx:=inL_x (A:=A) (S:=S) (x:=x) (B:=B) (q:=q) (by omega)
   have gy:=inL_r (A:=A) (S:=S) (x:=x) (B:=B) (q:=q) (j:=q) (Nat.le_refl _) hq'
   have hsw:=inL_up (A:=A) (S:=S) (x:=x) (B:=B) (q:=q) hq'
   rw[←ha]at gx gy hsw
   generalize S.getD q []=y at*
   generalize hLq:inL A S x B q=L at*
   have hL1:a+(q+1)<L.length:=by omega
   have hL0:a+q<L.length:=by omega
   have g1:=get_str hL1
   have g0:=get_str hL0
   have hs:=set_sw L (a+q) (a+(q+1))
   rw[gx,gy]at hs
   rw[gy]at g1
   rw[gx]at g0
   rw[show a+q+1=a+(q+1) from by omega]at hsw
   rw[hsw]at hs
   have hml:(L.map sC).length=L.length:=List.length_map _
   have w3:IntKind.i64.wrap (((a+q:Nat):Int)+1)=((a+(q+1):Nat):Int):=by rw[w64 (by omega) (by omega)];omega
   refine Sm.dgW [1] 130 16 mix ?_
   simp(maxSteps:=2000000) only[go_sem,g1,g0,w3,hml]
   refine⟨⟨by omega,by omega⟩,?_⟩
   refine DOpQ.look (nx':=130) (sc:=True) (v:=V.c (sC y)) [sB L] 130 (by simp(maxSteps:=2000000) only[go_sem,g1]<;>rfl) trivial ⟨rfl,trivial⟩ rfl ?_
   simp(maxSteps:=2000000) only[go_sem,g0,hml]
   refine⟨⟨by omega,by omega⟩,?_⟩
   refine DOpQ.look (nx':=130) (sc:=True) (v:=V.c (sC x)) [sB L] 130 (by simp(maxSteps:=2000000) only[go_sem,g0]<;>rfl) trivial ⟨rfl,trivial⟩ rfl ?_
   simp(maxSteps:=2000000) only[go_sem,hml,w3,List.length_set,hs]
   refine⟨⟨by omega,by omega⟩,by omega,⟨by omega,by omega⟩,by omega,?_⟩
   exact hj _ _ ⟨q+1,by omega⟩ [(1,1)] (by simp only;omega) ⟨rfl,⟨⟨rfl,rfl⟩,trivial⟩,⟨rfl,rfl,rfl,trivial⟩,⟨oV (renV (v_sC _)),trivial⟩⟩
  ·have hd:q=lo:=by have:=of_decide_eq_false hd;omega
   subst hd
   clear hj
   rw[inL_mid,hfin]
   exact RetQ.of (hR () C hL trivial) rfl trivial rfl (sub_sh (SubS.sub ⟨oS,trivial⟩)) (clm_sh (sB_cl _)) (ClV.of rfl)
theorem sym2_ (A S B:List Str)(x:Str)(hu:2≤S.length):SymOk H g cp key ok A S [x] B:=fun n a m b hn ha hm hb hl hoS hox hS _=>by
 refine CallX.mkS Tryz.func166 rfl en166 (by simp[Tryz.ntmps166]) (ClA.of rfl) (fun _=>rfl) (fun _=>rfl) fun C hR hP hH hL=>?_
 have v_s:=v_sC
 have hn':=hn
 simp only[List.length_append,List.length_singleton]at hn' hm hb
 have hox:ok x:=hox x (List.mem_singleton.2 rfl)
 have w1:IntKind.i64.wrap ((m:Int)-(a:Int))=(S.length:Int):=by rw[w64 (by omega) (by omega)];omega
 have b1:((S.length:Int)==1)=false:=beq_eq_false_iff_ne.2 (by omega)
 have w0:IntKind.i64.wrap ((b:Int)-(m:Int))=1:=by rw[w64 (by omega) (by omega)];omega
 rw[←inL_all]at hP⊢
 have hlen:∀q,(inL A S x B q).length=n:=fun q=>by rw[inL_len];omega
 refine Sm.go 100 ?_
 simp(maxSteps:=2000000) only[go_sem,w1,b1,w0]
 refine Sm.loopM (M0:=[sB (inL A S x B S.length)]) (α:={p:Nat×Nat//p.1≤p.2∧p.2≤S.length∧(p.1=0∨key (S.getD (p.1-1) [])≤key x)∧(p.2=S.length∨key x<key (S.getD p.2 []))}) hP (fun p=>[(0,true,.c (.sl 1 0 n 1)),(2,true,I m),(4,true,Fv g cp),(14,true,I (a+p.val.1:Nat)),(15,true,I (a+p.val.2:Nat))])
  (fun _=>[sB (inL A S x B S.length)]) (fun p=>p.val.2-p.val.1) ⟨(0,S.length),Nat.zero_le _,Nat.le_refl _,.inl rfl,.inl rfl⟩ (fun _=>sB_cl _) (fun _=>ClE.of rfl) [(1,1)] ?_ ?_
 ·have e1:m=a+S.length:=by omega
  rw[e1]
  exact⟨rfl,⟨⟨rfl,rfl⟩,trivial⟩,⟨rfl,rfl,rfl,rfl,rfl,trivial⟩,⟨oV (renV (v_sC _)),trivial⟩⟩
 rintro⟨⟨lo,hi⟩,h1,h2,h3,h4⟩ J hj
 simp only at hj h1 h2 h3 h4⊢
 refine Sm.go 110 ?_
 refine vv ?_
 refine mtch (fun hd=>?_) (fun hd=>?_)
 ·have hd:lo<hi:=by have:=lt_of_dec hd;omega
  have em:=mid_c (lo:=a+lo) (hi:=a+hi) (by omega) (by omega)
  obtain⟨c,hc1,hc2,hc3⟩:∃c,(a+lo+(a+hi))/2=a+c∧lo≤c∧c<hi:=⟨(lo+hi)/2,by omega,by omega,by omega⟩
  rw[hc1]at em
  have gy:=inL_l (A:=A) (S:=S) (x:=x) (B:=B) (q:=S.length) (j:=c) (by omega) (by omega)
  have gx:=inL_x (A:=A) (S:=S) (x:=x) (B:=B) (q:=S.length) (Nat.le_refl _)
  rw[←ha]at gy gx
  rw[show a+S.length=m from by omega]at gx
  have hoy:ok (S.getD c []):=by
   rw[List.getD_eq_getElem?_getD,List.getElem?_eq_getElem (by omega)];exact hoS _ (List.getElem_mem (by omega))
  have hL0:=hlen S.length
  obtain⟨y,hy⟩:∃y,y=S.getD c []:=⟨_,rfl⟩
  rw[←hy]at gy hoy
  have g1:=get_str (l:=inL A S x B S.length) (i:=a+c) (by omega)
  have g0:=get_str (l:=inL A S x B S.length) (i:=m) (by omega)
  rw[gy]at g1
  rw[gx]at g0
  simp(maxSteps:=2000000) only[go_sem,em]
  refine Sm.dg 120 9 mix ?_
  simp(maxSteps:=2000000) only[go_sem,g1,g0]
  refine⟨⟨by omega,by omega⟩,⟨by omega,by omega⟩,?_⟩
  refine CallQ.h 130 (hc.c x y hox hoy) hH (caps_ok2 _ _ _) ?_
  refine vv ?_
  refine mtch (fun he=>?_) (fun he=>?_)
  ·have he:key y≤key x:=by
    rw[Bool.not_eq_true']at he
    have:=of_decide_eq_false he;omega
   simp(maxSteps:=2000000) only[go_sem,wS (show a+c≤1000000000000000000 by omega)]
   exact hj _ _ ⟨(c+1,hi),by simp only;omega,h2,.inr (by simp only[Nat.add_sub_cancel,←hy];exact he),h4⟩ [(1,1)] (by simp only;omega) ⟨rfl,⟨⟨rfl,rfl⟩,trivial⟩,⟨rfl,rfl,rfl,rfl,rfl,trivial⟩,⟨oV (renV (v_sC _)),trivial⟩⟩
  ·have he:key x<key y:=by
    rw[Bool.not_eq_false']at he
    have:=of_decide_eq_true he;omega
   exact hj _ _ ⟨(lo,c),by simp only;omega,by simp only;omega,h3,.inr (by simp only[←hy];exact he)⟩ [(1,1)] (by simp only;omega) ⟨rfl,⟨⟨rfl,rfl⟩,trivial⟩,⟨rfl,rfl,rfl,rfl,rfl,trivial⟩,⟨oV (renV (v_sC _)),trivial⟩⟩
 ·have hd:lo=hi:=by have:=of_decide_eq_false hd;omega
  subst hd
  clear hj
  have hfin:S.take lo++x::S.drop lo=isr key (S++[x]):=end_ok (key:=key) (z:=[]) (U:=S) (x:=x) hS h2 h3 h4
  refine Sm.loopM (M0:=[sB (inL A S x B S.length)]) (α:={q:Nat//lo≤q∧q≤S.length}) hP (fun q=>[(0,true,.c (.sl 1 0 n 1)),(14,true,I (a+lo:Nat)),(17,true,I (a+q.val:Nat))])
   (fun q=>[sB (inL A S x B q.val)]) (fun q=>q.val) ⟨S.length,h2,Nat.le_refl _⟩ (fun _=>sB_cl _) (fun _=>ClE.of rfl) [(1,1)] ?_ ?_
  ·have e1:m=a+S.length:=by omega
   rw[e1]
   exact⟨rfl,⟨⟨rfl,rfl⟩,trivial⟩,⟨rfl,rfl,rfl,trivial⟩,⟨oV (renV (v_sC _)),trivial⟩⟩
  rintro⟨q,hq0,hq⟩ J hj
  simp only at hj hq0 hq⊢
  refine Sm.go 120 ?_
  refine vv ?_
  refine mtch (fun hd=>?_) (fun hd=>?_)
  ·have hd:lo<q:=by have:=lt_of_dec hd;omega
   obtain⟨q,rfl⟩:∃k,q=k+1:=⟨q-1,by omega⟩
   have hq':q<S.length:=by omega
   have hlq:=hlen (q+1)
   have gx:=inL_x (A:=A) (S:=S) (x:=x) (B:=B) (q:=q+1) (by omega)
   have gy:=inL_y (A:=A) (S:=S) (x:=x) (B:=B) (q:=q) hq'
   have hsw:=inL_dn (A:=A) (S:=S) (x:=x) (B:=B) (q:=q) hq'
   rw[←ha]at gx gy hsw
   generalize S.getD q []=y at*
   generalize hLq:inL A S x B (q+1)=L at*
   have hL1:a+(q+1)<L.length:=by omega
   have hL0:a+q<L.length:=by omega
   have g1:=get_str hL1
   have g0:=get_str hL0
   have hs:=set_sw L (a+(q+1)) (a+q)
   rw[gx,gy]at hs
   rw[gx]at g1
   rw[gy]at g0
   rw[show a+q+1=a+(q+1) from by omega]at hsw
   rw[hsw]at hs
   have hml:(L.map sC).length=L.length:=List.length_map _
   have w2:IntKind.i64.wrap (((a+(q+1):Nat):Int)-1)=((a+q:Nat):Int):=by rw[w64 (by omega) (by omega)];omega
   refine Sm.dgW [1] 130 16 mix ?_
   simp(maxSteps:=2000000) only[go_sem,g1,g0,w2,hml]
   refine⟨⟨by omega,by omega⟩,?_⟩
   refine DOpQ.look (nx':=130) (sc:=True) (v:=V.c (sC y)) [sB L] 130 (by simp(maxSteps:=2000000) only[go_sem,g0]<;>rfl) trivial ⟨rfl,trivial⟩ rfl ?_
   simp(maxSteps:=2000000) only[go_sem,g1,hml]
   refine⟨⟨by omega,by omega⟩,?_⟩
   refine DOpQ.look (nx':=130) (sc:=True) (v:=V.c (sC x)) [sB L] 130 (by simp(maxSteps:=2000000) only[go_sem,g1]<;>rfl) trivial ⟨rfl,trivial⟩ rfl ?_
   simp(maxSteps:=2000000) only[go_sem,hml,w2,List.length_set,hs]
   refine⟨⟨by omega,by omega⟩,by omega,⟨by omega,by omega⟩,by omega,?_⟩
   exact hj _ _ ⟨q,by omega,by omega⟩ [(1,1)] (by simp only;omega) ⟨rfl,⟨⟨rfl,rfl⟩,trivial⟩,⟨rfl,rfl,rfl,trivial⟩,⟨oV (renV (v_sC _)),trivial⟩⟩
  ·have hd:q=lo:=by have:=of_decide_eq_false hd;omega
   subst hd
   clear hj
   rw[inL_mid,hfin]
   exact RetQ.of (hR () C hL trivial) rfl trivial rfl (sub_sh (SubS.sub ⟨oS,trivial⟩)) (clm_sh (sB_cl _)) (ClV.of rfl)
end
theorem at_U {A U V B:List Str}{c:Nat}(h:c<U.length):(A++U++V++B).getD (A.length+c) []=U.getD c []:=by
 rw[List.append_assoc,List.append_assoc,getD_r (j:=c) rfl,getD_l h]
theorem at_V {A U V B:List Str}{j:Nat}(h:j<V.length):(A++U++V++B).getD (A.length+U.length+j) []=V.getD j []:=by
 rw[List.append_assoc,getD_r (j:=j) (by rw[List.length_append]),getD_l h]
structure IvS (key:Str→Int) (U V:List Str) (h s r:Nat):Prop where
 sr:s≤r
 ru:r≤U.length
 rh:r≤h
 hv:h≤s+V.length
 l:s=0∨h=s+V.length∨key (U.getD (s-1) [])≤key (V.getD (h-s) [])
 g:h=r∨r=U.length∨key (V.getD (h-1-r) [])<key (U.getD r [])
theorem Srt.take {key:Str→Int}{l:List Str}(h:Srt key l)(n:Nat):Srt key (l.take n):=h.sub (List.take_sublist _ _)
theorem Srt.drop {key:Str→Int}{l:List Str}(h:Srt key l)(n:Nat):Srt key (l.drop n):=h.sub (List.drop_sublist _ _)
section
variable {H:Hp} {g:FuncId} {cp:Array Value} {key:Str→Int} {ok:Str→Prop} (hc:CmpK H g cp key ok)
include hc
theorem sym3_ (A U V B:List Str)(hu:2≤U.length)(hv:2≤V.length)(IH:∀A' U' V' B':List Str,0<U'.length→0<V'.length→U'.length+V'.length<U.length+V.length→SymOk H g cp key ok A' U' V' B'):SymOk H g cp key ok A U V B:=fun n a m b hn ha hm hb hl hoU hoV hU hV=>by
 refine CallX.mkS Tryz.func166 rfl en166 (by simp[Tryz.ntmps166]) (ClA.of rfl) (fun _=>rfl) (fun _=>rfl) fun C hR hP hH hL=>?_
 have v_s:=v_sC
 have hn':=hn
 simp only[List.length_append]at hn' hm hb
 have w1:IntKind.i64.wrap ((m:Int)-(a:Int))=(U.length:Int):=by rw[w64 (by omega) (by omega)];omega
 have b1:((U.length:Int)==1)=false:=beq_eq_false_iff_ne.2 (by omega)
 have w0:IntKind.i64.wrap ((b:Int)-(m:Int))=(V.length:Int):=by rw[w64 (by omega) (by omega)];omega
 have b0:((V.length:Int)==1)=false:=beq_eq_false_iff_ne.2 (by omega)
 obtain⟨h,hh⟩:∃h,h=(U.length+V.length)/2:=⟨_,rfl⟩
 have em:=mid_c (lo:=a) (hi:=b) (by omega) (by omega)
 rw[show(a+b)/2=a+h from by omega]at em
 have w2:IntKind.i64.wrap (((a+h:Nat):Int)+(m:Int))=((a+h+m:Nat):Int):=by rw[w64 (by omega) (by omega)];omega
 have w3:IntKind.i64.wrap (((a+h+m:Nat):Int)-1)=((a+h+m-1:Nat):Int):=by rw[w64 (by omega) (by omega)];omega
 refine Sm.go 100 ?_
 simp(maxSteps:=2000000) only[go_sem,w1,b1,w0,b0,em,w2,w3]
 apply cutT (T:=fun todo=>∀s0 r0:Nat,IvS key U V h s0 r0→Sm Tryz.prog 220 C todo [(0,true,.c (.sl 1 0 n 1)),(1,true,I a),(2,true,I m),(3,true,I b),(4,true,Fv g cp),(18,true,I (a+h:Nat)),(19,true,I (a+h+m:Nat)),(20,true,I (a+s0:Nat)),(21,true,I (a+r0:Nat)),(22,true,I (a+h+m-1:Nat))] [sB (A++U++V++B)])
 ·intro tail
  refine mtch (fun hd=>?_) (fun hd=>?_)
  ·have hd:h<U.length:=by have:=lt_of_dec hd;omega
   have w4:IntKind.i64.wrap (((a+h+m:Nat):Int)-(b:Int))=((a+(h-V.length):Nat):Int):=by rw[w64 (by omega) (by omega)];omega
   simp(maxSteps:=2000000) only[go_sem,w4]
   refine Sm.cutm hP [(0,true,.c (.sl 1 0 n 1)),(1,true,I a),(2,true,I m),(3,true,I b),(4,true,Fv g cp),(18,true,I (a+h:Nat)),(19,true,I (a+h+m:Nat)),(20,true,I (a+(h-V.length):Nat)),(21,true,I (a+h:Nat)),(22,true,I (a+h+m-1:Nat))] [sB (A++U++V++B)] [(1,1)] ⟨rfl,⟨⟨rfl,rfl⟩,trivial⟩,⟨rfl,rfl,rfl,rfl,rfl,rfl,rfl,rfl,rfl,rfl,trivial⟩,⟨oV (renV (v_sC _)),trivial⟩⟩ (sB_cl _) (ClE.of rfl) ?_
   exact tail (h-V.length) h ⟨by omega,by omega,Nat.le_refl _,by omega,.inr (.inl (by omega)),.inl rfl⟩
  ·have hd:U.length≤h:=by have:=of_decide_eq_false hd;omega
   refine Sm.cutm hP [(0,true,.c (.sl 1 0 n 1)),(1,true,I a),(2,true,I m),(3,true,I b),(4,true,Fv g cp),(18,true,I (a+h:Nat)),(19,true,I (a+h+m:Nat)),(20,true,I (a+0:Nat)),(21,true,I (a+U.length:Nat)),(22,true,I (a+h+m-1:Nat))] [sB (A++U++V++B)] [(1,1)] (by rw[show a+U.length=m from by omega];exact⟨rfl,⟨⟨rfl,rfl⟩,trivial⟩,⟨rfl,rfl,rfl,rfl,rfl,rfl,rfl,rfl,rfl,rfl,trivial⟩,⟨oV (renV (v_sC _)),trivial⟩⟩) (sB_cl _) (ClE.of rfl) ?_
   exact tail 0 U.length ⟨Nat.zero_le _,Nat.le_refl _,hd,by omega,.inl rfl,.inr (.inl rfl)⟩
 intro s0 r0 h0
 refine Sm.loopM (M0:=[sB (A++U++V++B)]) (α:={p:Nat×Nat//IvS key U V h p.1 p.2}) hP (fun p=>[(0,true,.c (.sl 1 0 n 1)),(1,true,I a),(2,true,I m),(3,true,I b),(4,true,Fv g cp),(18,true,I (a+h:Nat)),(19,true,I (a+h+m:Nat)),(20,true,I (a+p.val.1:Nat)),(21,true,I (a+p.val.2:Nat)),(22,true,I (a+h+m-1:Nat))])
  (fun _=>[sB (A++U++V++B)]) (fun p=>p.val.2-p.val.1) ⟨(s0,r0),h0⟩ (fun _=>sB_cl _) (fun _=>ClE.of rfl) [(1,1)] ⟨rfl,⟨⟨rfl,rfl⟩,trivial⟩,⟨rfl,rfl,rfl,rfl,rfl,rfl,rfl,rfl,rfl,rfl,trivial⟩,⟨oV (renV (v_sC _)),trivial⟩⟩ ?_
 rintro⟨⟨s,r⟩,hi⟩ J hj
 simp only at hj hi⊢
 obtain⟨i1,i2,i3,i4,i5,i6⟩:=hi
 refine Sm.go 110 ?_
 refine vv ?_
 refine mtch (fun hd=>?_) (fun hd=>?_)
 ·have hd:s<r:=by have:=lt_of_dec hd;omega
  have em2:=mid_c (lo:=a+s) (hi:=a+r) (by omega) (by omega)
  obtain⟨c,hc1,hc2,hc3⟩:∃c,(a+s+(a+r))/2=a+c∧s≤c∧c<r:=⟨(s+r)/2,by omega,by omega,by omega⟩
  rw[hc1]at em2
  have gx:=at_U (A:=A) (U:=U) (V:=V) (B:=B) (c:=c) (by omega)
  have gy:=at_V (A:=A) (U:=U) (V:=V) (B:=B) (j:=h-1-c) (by omega)
  rw[←ha]at gx gy
  rw[←show m=a+U.length from by omega]at gy
  have hox:ok (U.getD c []):=by
   rw[List.getD_eq_getElem?_getD,List.getElem?_eq_getElem (by omega)];exact hoU _ (List.getElem_mem (by omega))
  have hoy:ok (V.getD (h-1-c) []):=by
   rw[List.getD_eq_getElem?_getD,List.getElem?_eq_getElem (by omega)];exact hoV _ (List.getElem_mem (by omega))
  obtain⟨x,hx⟩:∃x,x=U.getD c []:=⟨_,rfl⟩
  obtain⟨y,hy⟩:∃y,y=V.getD (h-1-c) []:=⟨_,rfl⟩
  rw[←hx]at gx hox
  rw[←hy]at gy hoy
  have g1:=get_str (l:=A++U++V++B) (i:=m+(h-1-c)) (by omega)
  have g0:=get_str (l:=A++U++V++B) (i:=a+c) (by omega)
  rw[gy]at g1
  rw[gx]at g0
  have w5:IntKind.i64.wrap (((a+h+m-1:Nat):Int)-((a+c:Nat):Int))=((m+(h-1-c):Nat):Int):=by rw[w64 (by omega) (by omega)];omega
  simp(maxSteps:=2000000) only[go_sem,em2]
  refine Sm.dg 120 11 mix ?_
  simp(maxSteps:=2000000) only[go_sem,g1,g0,w5]
  refine⟨⟨by omega,by omega⟩,⟨by omega,by omega⟩,?_⟩
  refine CallQ.h 130 (hc.c y x hoy hox) hH (caps_ok2 _ _ _) ?_
  refine vv ?_
  refine mtch (fun he=>?_) (fun he=>?_)
  ·have he:key x≤key y:=by
    rw[Bool.not_eq_true']at he
    have:=of_decide_eq_false he;omega
   simp(maxSteps:=2000000) only[go_sem,wS (show a+c≤1000000000000000000 by omega)]
   exact hj _ _ ⟨(c+1,r),⟨by simp only;omega,i2,i3,by simp only;omega,.inr (.inr (by simp only[Nat.add_sub_cancel,←hx];rw[show h-(c+1)=h-1-c from by omega,←hy];exact he)),i6⟩⟩ [(1,1)] (by simp only;omega) ⟨rfl,⟨⟨rfl,rfl⟩,trivial⟩,⟨rfl,rfl,rfl,rfl,rfl,rfl,rfl,rfl,rfl,rfl,trivial⟩,⟨oV (renV (v_sC _)),trivial⟩⟩
  ·have he:key y<key x:=by
    rw[Bool.not_eq_false']at he
    have:=of_decide_eq_true he;omega
   exact hj _ _ ⟨(s,c),⟨by simp only;omega,by simp only;omega,by simp only;omega,i4,i5,.inr (.inr (by simp only[←hx,←hy];exact he))⟩⟩ [(1,1)] (by simp only;omega) ⟨rfl,⟨⟨rfl,rfl⟩,trivial⟩,⟨rfl,rfl,rfl,rfl,rfl,rfl,rfl,rfl,rfl,rfl,trivial⟩,⟨oV (renV (v_sC _)),trivial⟩⟩
 have hd:s=r:=by have:=of_decide_eq_false hd;omega
 subst hd
 clear hj
 obtain⟨t,ht⟩:∃t,t=h-s:=⟨_,rfl⟩
 have ht1:t≤V.length:=by omega
 have hfin:=cut_ok (key:=key) (z:=[]) hU hV i2 ht1 (by
  rcases i5 with hq|hq|hq
  ·exact .inl hq
  ·exact .inr (.inl (by omega))
  ·exact .inr (.inr (by rw[ht];exact hq))) (by
  rcases i6 with hq|hq|hq
  ·exact .inl (by omega)
  ·exact .inr (.inl hq)
  ·exact .inr (.inr (by rw[show t-1=h-1-s from by omega];exact hq)))
 have hU12:U.take s++U.drop s=U:=List.take_append_drop _ _
 have hV12:V.take t++V.drop t=V:=List.take_append_drop _ _
 have lU1:(U.take s).length=s:=by rw[List.length_take];omega
 have lU2:(U.drop s).length=U.length-s:=List.length_drop
 have lV1:(V.take t).length=t:=by rw[List.length_take];omega
 have lV2:(V.drop t).length=V.length-t:=List.length_drop
 have oU1:∀x∈U.take s,ok x:=fun x hx=>hoU x (List.mem_of_mem_take hx)
 have oU2:∀x∈U.drop s,ok x:=fun x hx=>hoU x (List.mem_of_mem_drop hx)
 have oV1:∀x∈V.take t,ok x:=fun x hx=>hoV x (List.mem_of_mem_take hx)
 have oV2:∀x∈V.drop t,ok x:=fun x hx=>hoV x (List.mem_of_mem_drop hx)
 have sU1:=hU.take s
 have sU2:=hU.drop s
 have sV1:=hV.take t
 have sV2:=hV.drop t
 generalize U.take s=U1 at*
 generalize U.drop s=U2 at*
 generalize V.take t=V1 at*
 generalize V.drop t=V2 at*
 have e0:A++U++V++B=A++U1++U2++V1++(V2++B):=by rw[←hU12,←hV12];simp
 have e3:A++isr key (U++V)++B=A++isr key (U1++V1)++isr key (U2++V2)++B:=by rw[hfin];simp
 have q1:A++U1++V1++U2++(V2++B)=A++U1++V1++(U2++V2++B):=by simp
 have q2:A++isr key (U1++V1)++(U2++V2++B)=A++isr key (U1++V1)++U2++V2++B:=by simp
 have hli:(isr key (U1++V1)).length=h:=by rw[isr_len,List.length_append];omega
 have rot:s<U.length→0<t→CallOk Tryz.prog 244 [.c (.sl 1 0 n 1),I (a+s:Nat),I m,I (m+t:Nat),Fv g cp] [sB (A++U++V++B)] (.tup []) [sB (A++U1++V1++U2++(V2++B))]:=fun h1 h2=>by
  rw[e0]
  exact rotate_ (A++U1) U2 V1 (V2++B) (by omega) (by omega) n (a+s) m (m+t) (by simp only[List.length_append];omega) (by rw[List.length_append];omega) (by rw[List.length_append];omega) (by rw[List.length_append];omega) hl g cp
 have rot0:¬(s<U.length∧0<t)→A++U++V++B=A++U1++V1++U2++(V2++B):=fun h1=>by
  rw[e0]
  by_cases h2:t=0
  ·rw[List.length_eq_zero_iff.1 (show V1.length=0 by omega)];simp
  ·rw[List.length_eq_zero_iff.1 (show U2.length=0 by omega)];simp
 have lo:0<s→s<h→CallX H Tryz.prog 166 [.c (.sl 1 0 n 1),I a,I (a+s:Nat),I (a+h:Nat),Fv g cp] [sB (A++U1++V1++U2++(V2++B))] (fun _:Unit=> .tup []) (fun _=>[sB (A++isr key (U1++V1)++U2++V2++B)]) (fun _ _=>True):=fun h1 h2=>by
  rw[q1,←q2]
  exact IH A U1 V1 (U2++V2++B) (by omega) (by omega) (by omega) n a (a+s) (a+h) (by simp only[List.length_append];omega) ha (by omega) (by omega) hl oU1 oV1 sU1 sV1
 have lo0:¬(0<s∧s<h)→A++U1++V1++U2++(V2++B)=A++isr key (U1++V1)++U2++V2++B:=fun h1=>by
  rw[q1,←q2]
  have:isr key (U1++V1)=U1++V1:=by
   by_cases h2:s=0
   ·rw[List.length_eq_zero_iff.1 (show U1.length=0 by omega),List.nil_append];exact isr_self sV1
   ·rw[List.length_eq_zero_iff.1 (show V1.length=0 by omega),List.append_nil];exact isr_self sU1
  rw[this];simp
 have up:h<U.length+t→m+t<b→CallX H Tryz.prog 166 [.c (.sl 1 0 n 1),I (a+h:Nat),I (m+t:Nat),I b,Fv g cp] [sB (A++isr key (U1++V1)++U2++V2++B)] (fun _:Unit=> .tup []) (fun _=>[sB (A++isr key (U++V)++B)]) (fun _ _=>True):=fun h1 h2=>by
  rw[e3]
  exact IH (A++isr key (U1++V1)) U2 V2 B (by omega) (by omega) (by omega) n (a+h) (m+t) b (by simp only[List.length_append];omega) (by rw[List.length_append];omega) (by rw[List.length_append];omega) (by rw[List.length_append];omega) hl oU2 oV2 sU2 sV2
 have up0:¬(h<U.length+t∧m+t<b)→A++isr key (U1++V1)++U2++V2++B=A++isr key (U++V)++B:=fun h1=>by
  rw[e3]
  have:isr key (U2++V2)=U2++V2:=by
   by_cases h2:s=U.length
   ·rw[List.length_eq_zero_iff.1 (show U2.length=0 by omega),List.nil_append];exact isr_self sV2
   ·rw[List.length_eq_zero_iff.1 (show V2.length=0 by omega),List.append_nil];exact isr_self sU2
  rw[this];simp
 have w6:IntKind.i64.wrap (((a+h+m:Nat):Int)-((a+s:Nat):Int))=((m+t:Nat):Int):=by rw[w64 (by omega) (by omega)];omega
 generalize A++U++V++B=L0 at*
 generalize A++U1++V1++U2++(V2++B)=L1 at*
 generalize A++isr key (U1++V1)++U2++V2++B=L2 at*
 generalize A++isr key (U++V)++B=L3 at*
 simp(maxSteps:=2000000) only[go_sem,w6]
 have p1:∀x y:Nat,(decide ((x:Int)<(y:Int))=true↔x<y):=fun x y=>by rw[decide_eq_true_eq];omega
 refine mtch (fun hd=>?_) (fun hd=>?_)
 ·simp only[Bool.and_eq_true,decide_eq_true_eq,Bool.cond_false_right,Bool.cond_eq_true_distrib]at hd
  refine CallQ.mi 120 (rot (by omega) (by omega)) (sB_cl _) ⟨oS,trivial⟩ ?_
  refine vv ?_
  refine mtch (fun hd=>?_) (fun hd=>?_)
  ·simp only[Bool.and_eq_true,decide_eq_true_eq,Bool.cond_false_right,Bool.cond_eq_true_distrib]at hd
   refine CallQ.xio 130 (lo (by omega) (by omega)) hH (sB_cl _) rfl ⟨oS,trivial⟩ rfl (.inl rfl) ?_
   refine vv ?_
   refine mtch (fun hd=>?_) (fun hd=>?_)
   ·simp only[Bool.and_eq_true,decide_eq_true_eq,Bool.cond_false_right,Bool.cond_eq_true_distrib]at hd
    refine CallQ.xio 140 (up (by omega) (by omega)) hH (sB_cl _) rfl ⟨oS,trivial⟩ rfl (.inl rfl) ?_
    refine vv ?_
    exact Sm.fall (hR () C hL trivial) (RetQ.of (hR () C hL trivial) rfl trivial rfl (sub_sh (SubS.sub ⟨oS,trivial⟩)) (clm_sh (sB_cl _)) (ClV.of rfl))
   ·simp only[Bool.and_eq_false_iff,decide_eq_false_iff_not,Bool.cond_false_right]at hd
    rw[up0 (by omega)]
    exact Sm.fall (hR () C hL trivial) (RetQ.of (hR () C hL trivial) rfl trivial rfl (sub_sh (SubS.sub ⟨oS,trivial⟩)) (clm_sh (sB_cl _)) (ClV.of rfl))
  ·simp only[Bool.and_eq_false_iff,decide_eq_false_iff_not,Bool.cond_false_right]at hd
   rw[lo0 (by omega)]
   refine mtch (fun hd=>?_) (fun hd=>?_)
   ·simp only[Bool.and_eq_true,decide_eq_true_eq,Bool.cond_false_right,Bool.cond_eq_true_distrib]at hd
    refine CallQ.xio 140 (up (by omega) (by omega)) hH (sB_cl _) rfl ⟨oS,trivial⟩ rfl (.inl rfl) ?_
    refine vv ?_
    exact Sm.fall (hR () C hL trivial) (RetQ.of (hR () C hL trivial) rfl trivial rfl (sub_sh (SubS.sub ⟨oS,trivial⟩)) (clm_sh (sB_cl _)) (ClV.of rfl))
   ·simp only[Bool.and_eq_false_iff,decide_eq_false_iff_not,Bool.cond_false_right]at hd
    rw[up0 (by omega)]
    exact Sm.fall (hR () C hL trivial) (RetQ.of (hR () C hL trivial) rfl trivial rfl (sub_sh (SubS.sub ⟨oS,trivial⟩)) (clm_sh (sB_cl _)) (ClV.of rfl))
 ·simp only[Bool.and_eq_false_iff,decide_eq_false_iff_not,Bool.cond_false_right]at hd
  rw[rot0 (by omega)]
  refine mtch (fun hd=>?_) (fun hd=>?_)
  ·simp only[Bool.and_eq_true,decide_eq_true_eq,Bool.cond_false_right,Bool.cond_eq_true_distrib]at hd
   refine CallQ.xio 130 (lo (by omega) (by omega)) hH (sB_cl _) rfl ⟨oS,trivial⟩ rfl (.inl rfl) ?_
   refine vv ?_
   refine mtch (fun hd=>?_) (fun hd=>?_)
   ·simp only[Bool.and_eq_true,decide_eq_true_eq,Bool.cond_false_right,Bool.cond_eq_true_distrib]at hd
    refine CallQ.xio 140 (up (by omega) (by omega)) hH (sB_cl _) rfl ⟨oS,trivial⟩ rfl (.inl rfl) ?_
    refine vv ?_
    exact Sm.fall (hR () C hL trivial) (RetQ.of (hR () C hL trivial) rfl trivial rfl (sub_sh (SubS.sub ⟨oS,trivial⟩)) (clm_sh (sB_cl _)) (ClV.of rfl))
   ·simp only[Bool.and_eq_false_iff,decide_eq_false_iff_not,Bool.cond_false_right]at hd
    rw[up0 (by omega)]
    exact Sm.fall (hR () C hL trivial) (RetQ.of (hR () C hL trivial) rfl trivial rfl (sub_sh (SubS.sub ⟨oS,trivial⟩)) (clm_sh (sB_cl _)) (ClV.of rfl))
  ·simp only[Bool.and_eq_false_iff,decide_eq_false_iff_not,Bool.cond_false_right]at hd
   rw[lo0 (by omega)]
   refine mtch (fun hd=>?_) (fun hd=>?_)
   ·simp only[Bool.and_eq_true,decide_eq_true_eq,Bool.cond_false_right,Bool.cond_eq_true_distrib]at hd
    refine CallQ.xio 140 (up (by omega) (by omega)) hH (sB_cl _) rfl ⟨oS,trivial⟩ rfl (.inl rfl) ?_
    refine vv ?_
    exact Sm.fall (hR () C hL trivial) (RetQ.of (hR () C hL trivial) rfl trivial rfl (sub_sh (SubS.sub ⟨oS,trivial⟩)) (clm_sh (sB_cl _)) (ClV.of rfl))
   ·simp only[Bool.and_eq_false_iff,decide_eq_false_iff_not,Bool.cond_false_right]at hd
    rw[up0 (by omega)]
    exact Sm.fall (hR () C hL trivial) (RetQ.of (hR () C hL trivial) rfl trivial rfl (sub_sh (SubS.sub ⟨oS,trivial⟩)) (clm_sh (sB_cl _)) (ClV.of rfl))
end
end Go.Proofs.YtlnpgbnhcondjaaGreatDoor.Fx
