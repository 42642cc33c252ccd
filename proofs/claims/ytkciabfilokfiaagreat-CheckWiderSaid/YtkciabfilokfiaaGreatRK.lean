/-  -/
import Derived.Test.YtkciabfilokfiaaGreatPS
import Derived.Test.YtkciabfilokfiaaGreatSM
namespace Go.Proofs.YtkciabfilokfiaaGreat.Fx
open Vg Tf
set_option linter.unusedSimpArgs false
set_option linter.unusedVariables false
set_option maxRecDepth 100000
set_option maxHeartbeats 4000000
theorem ints_at {H:Hp}{s:Sv}{l:List Int}(h:SlH H (vsl s l.length) 1 (intsR l))(h0:0<l.length):∃b o c,s=⟨some ⟨b,o,none⟩,c⟩∧∃cs el mk,H b (.cells cs el mk)∧∀i,i<l.length→cs[o+i]?=some (iv (l.getD i 0)):=by
 have hil:(intsR l).length=l.length:=by simp[intsR]
 have hx0:∀i,i<l.length→(intsR l).flatten[i]?=some (iv (l.getD i 0)):=fun i hi=>by
  have h1:=rowsC_get (k:=1) (intsR l) (fun r hr=>by obtain⟨z,_,rfl⟩:=List.mem_map.1 hr;rfl) i 0 (by omega) (by omega)
  unfold rowsC at h1
  rw[List.getElem?_map,Nat.mul_one,Nat.add_zero]at h1
  have h2:(intsR l)[i]'(by omega)=[iv l[i]]:=by simp[intsR]
  rw[h2]at h1
  have h3:l.getD i 0=l[i]:=by rw[List.getD_eq_getElem?_getD,List.getElem?_eq_getElem hi];rfl
  rw[h3]
  cases hq:(intsR l).flatten[i]? with
  |none=>rw[hq]at h1;cases h1
  |some z=>rw[hq]at h1;simpa using h1
 obtain⟨b0,o0,c0,hv0,cs,el,mk,hb0,hcc⟩:=h.at (by intro h;have:=hx0 0 h0;rw[h]at this;cases this)
 have hs:s=⟨some ⟨b0,o0,none⟩,c0⟩:=by
  cases s with
  |mk o c=>
   have:o=some ⟨b0,o0,none⟩∧c=c0:=by
    simp only[vsl,Value.slice.injEq]at hv0
    exact⟨hv0.1,hv0.2.2⟩
   rw[this.1,this.2]
 exact⟨b0,o0,c0,hs,cs,el,mk,hb0,fun i hi=>hcc i _ (hx0 i hi)⟩
theorem clampA_ (x lo hi:Int):CallOk Tryz.prog 292 [I x,I lo,I hi] [] (I (min (max x lo) hi)) []:=by
 refine CallOk.mkN 100 Tryz.func292 rfl en292 (by simp[Tryz.ntmps292]) (ClA.of rfl) rfl rfl fun C hR hP=>?_
 refine vv ?_
 exact RetQ.int hR rfl scc rfl
theorem segs1_ {H:Hp}(s:Sv)(l:List Int)(h:SlH H (vsl s l.length) 1 (intsR l))(x:Int)(i:Nat)(hi:i<l.length)(hx:l.length≤1000000):CallX H Tryz.prog 293 [I i,.c (.p 1 0),.c (.p 2 0)] [(1,⟨true,[.v (vsl s l.length)],33⟩),(2,⟨true,[.v (.int .i64 x)],3⟩)] (fun _:Unit=>Bo (segP l x i)) (fun _=>[]) (fun _ _=>True):=by
 have hM:ClM [(1,⟨true,[.v (vsl s l.length)],33⟩),(2,⟨true,[.v (.int .i64 x)],3⟩)]:=ClM.of rfl
 obtain⟨b0,o0,c0,rfl,cs,el,mk,hb0,hcc⟩:=ints_at h (by omega)
 refine CallX.mkS Tryz.func293 rfl en293 (by simp[Tryz.ntmps293]) (ClA.of rfl) (fun _=>rfl) (fun _=>rfl) fun C hR hP hH hL=>?_
 refine Sm.go 100 ?_
 refine vv ?_
 refine Sm.dg 110 5 mix ?_
 refine vv ?_
 refine DOpQ.own 120 (Stp.idxV rfl rfl rfl sl33 (by omega) (by omega)) ?_
 simp(maxSteps:=2000000) only[go_sem,Nat.mul_one]
 refine DOpQ.ownC 120 (fun _=>StpC.ldH (hH _ _ hb0) (hcc i hi) rfl rfl rfl) ?_
 refine vv ?_
 exact RetQ.of (hR () C hL trivial) rfl scc rvv (SubS.sub ⟨⟨_,rfl,.inl rfl⟩,⟨_,rfl,.inl rfl⟩,trivial⟩) hM (ClV.of rfl)
def clQ (l:List Int)(x:Int):Int:=min (max x (l.getD 0 0)) (l.getD (l.length-1) 0)
def sgI (l:List Int)(x:Int):Nat:=min (segN l (clQ l x)-1) (l.length-2)
theorem sgI_ok {l:List Int}(h2:2≤l.length)(hinc:incB l=true)(x:Int):1≤segN l (clQ l x)∧segN l (clQ l x)≤l.length∧sgI l x+1<l.length∧l.getD (sgI l x) 0≤clQ l x∧clQ l x≤l.getD (sgI l x+1) 0:=by
 have hmono:∀k i,i+k<l.length→l.getD i 0≤l.getD (i+k) 0:=by
  intro k
  induction k with
  |zero=>intro i _;exact Int.le_refl _
  |succ k ih=>
   intro i h
   have a1:=ih i (by omega)
   have a2:=incB_get l hinc (i+k) (by omega)
   have e:i+(k+1)=i+k+1:=by omega
   rw[e];omega
 have hb:=hmono (l.length-1) 0 (by omega)
 rw[Nat.zero_add]at hb
 have c1:l.getD 0 0≤clQ l x:=by unfold clQ;omega
 have c2:clQ l x≤l.getD (l.length-1) 0:=by unfold clQ;omega
 unfold sgI
 generalize clQ l x=y at*
 obtain⟨q1,q2,q3⟩:=schQ_ok (segP l y) l.length
 have e:schQ (segP l y) l.length=segN l y:=rfl
 rw[e]at q1 q2 q3
 have n0:segN l y≠0:=fun hz=>by
  have:=q3 (by omega)
  rw[hz]at this
  have:=of_decide_eq_true this
  omega
 have a1:=of_decide_eq_false (q2 (by omega))
 by_cases hs:segN l y=l.length
 ·have e1:min (segN l y-1) (l.length-2)=l.length-2:=by omega
  have e2:l.length-2+1=l.length-1:=by omega
  have a3:=incB_get l hinc (l.length-2) (by omega)
  rw[hs]at a1
  rw[e1,e2]
  rw[e2]at a3
  exact⟨by omega,q1,by omega,by omega,c2⟩
 ·have e1:min (segN l y-1) (l.length-2)=segN l y-1:=by omega
  have e2:segN l y-1+1=segN l y:=by omega
  have a2:=of_decide_eq_true (q3 (by omega))
  rw[e1,e2]
  exact⟨by omega,q1,by omega,by omega,by omega⟩
theorem ssegment_ {H:Hp}(s:Sv)(l:List Int)(h:SlH H (vsl s l.length) 1 (intsR l))(h2:2≤l.length)(h3:l.length≤32)(hinc:incB l=true)(x:Int):CallH H Tryz.prog 282 [.c (.v (vsl s l.length)),I x] (.tup [Wi (sgI l x),Wi (clQ l x)]):=by
 obtain⟨k1,k2,k3,_,_⟩:=sgI_ok h2 hinc x
 have hsr:=fun y:Int=>search_ (H:=H) l.length (by omega) 293 [.v (vsl s l.length)] 33 rfl y (segP l y) (fun i hi=>segs1_ s l h y i hi (by omega))
 obtain⟨b0,o0,c0,rfl,cs,el,mk,hb0,hcc⟩:=ints_at h (by omega)
 have ew:IntKind.i64.wrap ((l.length:Int)-1)=((l.length-1:Nat):Int):=by rw[w64 (by omega) (by omega)];omega
 have ew2:IntKind.i64.wrap ((l.length:Int)-2)=((l.length-2:Nat):Int):=by rw[w64 (by omega) (by omega)];omega
 refine CallH.mkS Tryz.func282 rfl en282 (by simp[Tryz.ntmps282]) (ClA.of rfl) fun C hR hP hH hL=>?_
 refine Sm.go 100 ?_
 refine vv ?_
 refine Sm.dg 110 10 mix ?_
 refine vv ?_
 refine DOpQ.own 120 (Stp.idxV rfl rfl rfl sl33 (by omega) (by omega)) ?_
 simp(maxSteps:=2000000) only[go_sem,Nat.mul_one]
 refine DOpQ.ownC 120 (fun _=>StpC.ldH (hH _ _ hb0) (hcc 0 (by omega)) rfl rfl rfl) ?_
 simp(maxSteps:=2000000) only[go_sem,ew]
 refine DOpQ.own 120 (Stp.idxV rfl rfl rfl sl33 (by omega) (by omega)) ?_
 simp(maxSteps:=2000000) only[go_sem,Nat.mul_one]
 refine DOpQ.ownC 120 (fun _=>StpC.ldH (hH _ _ hb0) (hcc (l.length-1) (by omega)) rfl rfl rfl) ?_
 refine vv ?_
 refine CallQ.pure 130 (clampA_ x (l.getD 0 0) (l.getD (l.length-1) 0)) rfl ?_
 have hcl:min (max x (l.getD 0 0)) (l.getD (l.length-1) 0)=clQ l x:=rfl
 rw[hcl]
 refine vv ?_
 have hsq:=hsr (clQ l x)
 have hsI:sgI l x=min (segN l (clQ l x)-1) (l.length-2):=rfl
 have hsN:schQ (segP l (clQ l x)) l.length=segN l (clQ l x):=rfl
 rw[hsN]at hsq
 rw[hsI]at hR
 generalize clQ l x=y at*
 generalize segN l y=sn at*
 refine CallQ.hr [(1,100),(2,101)] 140 hsq hH (ClM.of rfl) rfl rfl ⟨⟨_,rfl,.inr ⟨rfl,[],rfl⟩⟩,⟨_,rfl,.inr ⟨rfl,[],rfl⟩⟩,trivial⟩ rfl (.inr rfl) ?_
 simp only[Mem.ren,List.map_nil,V.ren,Cv.ren]
 refine vv ?_
 refine Sm.dg 150 7 mix ?_
 simp(maxSteps:=2000000) only[go_sem,ew2]
 have ef:min (IntKind.i64.wrap ((sn:Int)-1)) ((l.length-2:Nat):Int)=((min (sn-1) (l.length-2):Nat):Int):=by rw[w64 (by omega) (by omega)];omega
 rw[ef]
 exact RetQ.of (hR C hL) rfl scc rfl (Sub.nil _) ClM.nil (ClV.of rfl)
theorem itp_in {x0 x1 y0 y1 x:Int}(h0:x0≤x)(h1:x≤x1)(hx:x0<x1):min y0 y1≤itp x0 x1 y0 y1 x∧itp x0 x1 y0 y1 x≤max y0 y1:=by
 unfold itp
 by_cases hy:y0≤y1
 ·have k1:0≤(x-x0)*(y1-y0):=Int.mul_nonneg (by omega) (by omega)
  have k2:(x-x0)*(y1-y0)≤(x1-x0)*(y1-y0):=Int.mul_le_mul_of_nonneg_right (by omega) (by omega)
  have d1:0≤(x-x0)*(y1-y0)/(x1-x0):=Int.ediv_nonneg k1 (by omega)
  have d2:(x-x0)*(y1-y0)/(x1-x0)≤y1-y0:=Int.ediv_le_of_le_mul (by omega) (by rw[Int.mul_comm (y1-y0)];exact k2)
  omega
 ·have k1:0≤(x-x0)*(y0-y1):=Int.mul_nonneg (by omega) (by omega)
  have k2:(x-x0)*(y0-y1)≤(x1-x0)*(y0-y1):=Int.mul_le_mul_of_nonneg_right (by omega) (by omega)
  have e1:(x-x0)*(y1-y0)= -((x-x0)*(y0-y1)):=by rw[←Int.mul_neg];congr 1;omega
  have e2:(y1-y0)*(x1-x0)= -((x1-x0)*(y0-y1)):=by rw[Int.mul_comm,←Int.mul_neg];congr 1;omega
  have d1:y1-y0≤(x-x0)*(y1-y0)/(x1-x0):=by
   rw[Int.le_ediv_iff_mul_le (by omega),e1,e2];omega
  have d2:(x-x0)*(y1-y0)/(x1-x0)≤0:=Int.ediv_le_of_le_mul (by omega) (by rw[e1];omega)
  omega
def nb (n:Int):Prop:= -1073741824≤n∧n≤1073741824
theorem itp_nb {x0 x1 y0 y1 x:Int}(h0:x0≤x)(h1:x≤x1)(hx:x0<x1)(a:nb y0)(b:nb y1):nb (itp x0 x1 y0 y1 x):=by
 obtain⟨a1,a2⟩:=a
 obtain⟨b1,b2⟩:=b
 obtain⟨k1,k2⟩:=itp_in (y0:=y0) (y1:=y1) h0 h1 hx
 exact⟨by omega,by omega⟩
theorem between_ (x0 x1 y0 y1 x:Int)(h0:x0≤x)(h1:x≤x1)(hx:x0<x1)(a:nb x0)(b:nb x1)(c:nb y0)(d:nb y1):CallOk Tryz.prog 284 [I x0,I x1,I y0,I y1,I x] [] (I (itp x0 x1 y0 y1 x)) []:=by
 obtain⟨a1,a2⟩:=a
 obtain⟨b1,b2⟩:=b
 obtain⟨c1,c2⟩:=c
 obtain⟨d1,d2⟩:=d
 obtain⟨i1,i2⟩:=itp_in (y0:=y0) (y1:=y1) h0 h1 hx
 have k:=mul_bd2 (a:=x-x0) (b:=y1-y0) (A:=2147483648) (B:=2147483648) (by omega) (by omega) (by omega) (by omega)
 have wx:IntKind.i64.wrap (x-x0)=x-x0:=w64 (by omega) (by omega)
 have wy:IntKind.i64.wrap (y1-y0)=y1-y0:=w64 (by omega) (by omega)
 have wd:IntKind.i64.wrap (x1-x0)=x1-x0:=w64 (by omega) (by omega)
 have wp:IntKind.i64.wrap ((x-x0)*(y1-y0))=(x-x0)*(y1-y0):=w64 (by omega) (by omega)
 refine CallOk.mkN 100 Tryz.func284 rfl en284 (by simp[Tryz.ntmps284]) (ClA.of rfl) rfl rfl fun C hR hP=>?_
 simp(maxSteps:=2000000) only[go_sem,wx,wy,wd,wp]
 refine CallQ.pure 110 (floor_ _ _ (by omega) (by omega) (by omega) (by omega)) rfl ?_
 refine vv ?_
 refine RetQ.int hR rfl scc ?_
 unfold itp at i1 i2⊢
 exact w64 (by omega) (by omega)
structure MaOk (m:Mp):Prop where
 x2:2≤m.xs.length
 x3:m.xs.length≤32
 xn:∀i,i<m.xs.length→nb (m.xs.getD i 0)
 xi:incB m.xs=true
 y2:2≤m.ys.length
 y3:m.ys.length≤32
 yn:∀i,i<m.ys.length→nb (m.ys.getD i 0)
 yi:incB m.ys=true
 zl:m.zs.length=m.xs.length
 zr:∀i,i<m.zs.length→(m.zs.getD i []).length=m.ys.length
 zn:∀i,i<m.zs.length→∀j,j<m.ys.length→nb ((m.zs.getD i []).getD j 0)
theorem MaOk.of {m:Mp}(h:maOk m.xs m.ys m.zs=true):MaOk m:=by
 unfold maOk axOk at h
 simp only[Bool.and_eq_true,decide_eq_true_eq,List.all_eq_true]at h
 obtain⟨⟨⟨x2,x3⟩,xn,xi⟩,⟨⟨y2,y3⟩,yn,yi⟩,zl,zr⟩:=h
 have gz:∀i,i<m.zs.length→m.zs.getD i []∈m.zs:=fun i hi=>by
  rw[List.getD_eq_getElem?_getD,List.getElem?_eq_getElem hi];exact List.getElem_mem hi
 exact⟨x2,x3,fun i hi=>near_bd (all_getD (List.all_eq_true.2 xn) i hi),xi,y2,y3,fun i hi=>near_bd (all_getD (List.all_eq_true.2 yn) i hi),yi,zl,
  fun i hi=>(zr _ (gz i hi)).1,fun i hi j hj=>by
   have:=zr _ (gz i hi)
   exact near_bd (all_getD (List.all_eq_true.2 this.2) j (by rw[this.1];exact hj))⟩
def zAt (m:Mp)(i j:Nat):Int:=(m.zs.getD i []).getD j 0
def alQ (m:Mp)(i:Nat)(x:Int)(j:Nat):Int:=itp (m.xs.getD i 0) (m.xs.getD (i+1) 0) (zAt m i j) (zAt m (i+1) j) x
def atQ (m:Mp)(x y:Int):Int:=itp (m.ys.getD (sgI m.ys y) 0) (m.ys.getD (sgI m.ys y+1) 0) (alQ m (sgI m.xs x) (clQ m.xs x) (sgI m.ys y)) (alQ m (sgI m.xs x) (clQ m.xs x) (sgI m.ys y+1)) (clQ m.ys y)
theorem zs_at {H:Hp}{m:MpL}(hm:m.ok H)(h0:0<m.zs.length):∃b o c,m.z=⟨some ⟨b,o,none⟩,c⟩∧∃cs el mk,H b (.cells cs el mk)∧∀i,(h:i<m.zs.length)→cs[o+i]?=some (vsl m.zs[i].1 m.zs[i].2.length):=by
 have hil:(m.zs.map zR).length=m.zs.length:=List.length_map _
 have hx0:∀i,(h:i<m.zs.length)→(m.zs.map zR).flatten[i]?=some (vsl m.zs[i].1 m.zs[i].2.length):=fun i hi=>by
  have h1:=rowsC_get (k:=1) (m.zs.map zR) (fun r hr=>by obtain⟨z,_,rfl⟩:=List.mem_map.1 hr;rfl) i 0 (by omega) (by omega)
  unfold rowsC at h1
  rw[List.getElem?_map,Nat.mul_one,Nat.add_zero]at h1
  have h2:(m.zs.map zR)[i]'(by omega)=zR m.zs[i]:=List.getElem_map _
  rw[h2]at h1
  cases hq:(m.zs.map zR).flatten[i]? with
  |none=>rw[hq]at h1;cases h1
  |some z=>rw[hq]at h1;simpa[zR]using h1
 obtain⟨b0,o0,c0,hv0,cs,el,mk,hb0,hcc⟩:=hm.z.at (by intro h;have:=hx0 0 h0;change (m.zs.map zR).flatten=[]at h;rw[h]at this;cases this)
 have hs:m.z=⟨some ⟨b0,o0,none⟩,c0⟩:=by
  cases hz:m.z with
  |mk o c=>
   rw[hz]at hv0
   simp only[vsl,Value.slice.injEq]at hv0
   rw[hv0.1,hv0.2.2]
 exact⟨b0,o0,c0,hs,cs,el,mk,hb0,fun i hi=>hcc i _ (hx0 i hi)⟩
theorem zs_c (m:MpL)(i:Nat)(h:i<m.zs.length):m.c.zs.getD i []=m.zs[i].2:=by
 show(m.zs.map (·.2)).getD i []=_
 rw[List.getD_eq_getElem?_getD,List.getElem?_map,List.getElem?_eq_getElem h];rfl
theorem al_ {H:Hp}(m:MpL)(hm:m.ok H)(k:MaOk m.c)(i:Nat)(x:Int)(j:Nat)(hi:i+1<m.xs.length)(hj:j<m.ys.length)(h0:m.xs.getD i 0≤x)(h1:x≤m.xs.getD (i+1) 0):
  CallX H Tryz.prog 283 [I j,.c (.p 1 0),.c (.p 2 0),.c (.p 3 0)] [(1,⟨true,maV m,89⟩),(2,⟨true,[.v (.int .i64 i)],3⟩),(3,⟨true,[.v (.int .i64 x)],3⟩)] (fun _:Unit=>I (alQ m.c i x j)) (fun _=>[]) (fun _ _=>True):=by
 have kx3:m.xs.length≤32:=k.x3
 have kz:m.zs.length=m.xs.length:=by have:=k.zl;simpa[MpL.c]using this
 have kr:∀q,(h:q<m.zs.length)→m.zs[q].2.length=m.ys.length:=fun q h=>by rw[←zs_c m q h];exact k.zr q (by simpa[MpL.c]using h)
 have hM:ClM [(1,⟨true,maV m,89⟩),(2,⟨true,[.v (.int .i64 i)],3⟩),(3,⟨true,[.v (.int .i64 x)],3⟩)]:=ClM.of rfl
 obtain⟨bx,ox,cx,hsx,csx,elx,mkx,hbx,hcx⟩:=ints_at hm.x (by omega)
 obtain⟨bz,oz,cz,hsz,csz,elz,mkz,hbz,hcz⟩:=zs_at hm (by omega)
 have hz1:=hcz i (by omega)
 have hz2:=hcz (i+1) (by omega)
 have r1:=kr i (by omega)
 have r2:=kr (i+1) (by omega)
 obtain⟨b1,o1,c1,hs1,cs1,el1,mk1,hb1,hc1⟩:=ints_at (hm.e _ (List.getElem_mem (show i<m.zs.length by omega))) (by omega)
 obtain⟨b2,o2,c2,hs2,cs2,el2,mk2,hb2,hc2⟩:=ints_at (hm.e _ (List.getElem_mem (show i+1<m.zs.length by omega))) (by omega)
 have hzi:zAt m.c i j=m.zs[i].2.getD j 0:=by unfold zAt;rw[zs_c m i (by omega)]
 have hzj:zAt m.c (i+1) j=m.zs[i+1].2.getD j 0:=by unfold zAt;rw[zs_c m (i+1) (by omega)]
 have n1:=k.zn i (by simp[MpL.c];omega) j hj
 have n2:=k.zn (i+1) (by simp[MpL.c];omega) j hj
 change nb (zAt m.c i j)at n1
 change nb (zAt m.c (i+1) j)at n2
 have n3:=k.xn i (show i<m.xs.length by omega)
 have n4:=k.xn (i+1) hi
 have n5:=incB_get m.xs k.xi i hi
 have hbt:=between_ (m.xs.getD i 0) (m.xs.getD (i+1) 0) (zAt m.c i j) (zAt m.c (i+1) j) x h0 h1 n5 n3 n4 n1 n2
 have hres:alQ m.c i x j=itp (m.xs.getD i 0) (m.xs.getD (i+1) 0) (zAt m.c i j) (zAt m.c (i+1) j) x:=rfl
 rw[hres]
 have g1:=hc1 j (by omega)
 have g2:=hc2 j (by omega)
 rw[←hzi]at g1
 rw[←hzj]at g2
 generalize zAt m.c i j=za at*
 generalize zAt m.c (i+1) j=zb at*
 rw[hs1,r1]at hz1
 rw[hs2,r2]at hz2
 have hmv:maV m=[.v (.slice (some ⟨bx,ox,none⟩) m.xs.length cx),.v (.slice m.y.o m.ys.length m.y.c),.v (.slice (some ⟨bz,oz,none⟩) m.zs.length cz)]:=by unfold maV;rw[hsx,hsz]
 rw[hmv]at hM⊢
 have ew:IntKind.i64.wrap ((i:Int)+1)=((i+1:Nat):Int):=wS (by omega)
 refine CallX.mkS Tryz.func283 rfl en283 (by simp[Tryz.ntmps283]) (ClA.of rfl) (fun _=>rfl) (fun _=>rfl) fun C hR hP hH hL=>?_
 refine Sm.go 100 ?_
 refine vv ?_
 refine Sm.dg 110 29 mix ?_
 refine vv ?_
 refine DOpQ.own 120 (Stp.idxV rfl rfl rfl sl33 (by omega) (by omega)) ?_
 simp(maxSteps:=2000000) only[go_sem,Nat.mul_one,ew]
 refine DOpQ.ownC 120 (fun _=>StpC.ldH (hH _ _ hbx) (hcx i (by omega)) rfl rfl rfl) ?_
 simp(maxSteps:=2000000) only[go_sem,ew]
 refine DOpQ.own 120 (Stp.idxV rfl rfl rfl sl33 (by omega) (by omega)) ?_
 simp(maxSteps:=2000000) only[go_sem,Nat.mul_one,ew]
 refine DOpQ.ownC 120 (fun _=>StpC.ldH (hH _ _ hbx) (hcx (i+1) (by omega)) rfl rfl rfl) ?_
 simp(maxSteps:=2000000) only[go_sem,ew]
 refine DOpQ.own 120 (Stp.idxV rfl rfl rfl sl87 (by omega) (by omega)) ?_
 simp(maxSteps:=2000000) only[go_sem,Nat.mul_one,ew]
 refine DOpQ.ownC 120 (fun _=>StpC.ldH (hH _ _ hbz) hz1 rfl rfl rfl) ?_
 simp(maxSteps:=2000000) only[go_sem,ew]
 refine DOpQ.own 120 (Stp.idxV rfl rfl rfl sl33 (by omega) (by omega)) ?_
 simp(maxSteps:=2000000) only[go_sem,Nat.mul_one,ew]
 refine DOpQ.ownC 120 (fun _=>StpC.ldH (hH _ _ hb1) g1 rfl rfl rfl) ?_
 simp(maxSteps:=2000000) only[go_sem,ew]
 refine DOpQ.own 120 (Stp.idxV rfl rfl rfl sl87 (by omega) (by omega)) ?_
 simp(maxSteps:=2000000) only[go_sem,Nat.mul_one,ew]
 refine DOpQ.ownC 120 (fun _=>StpC.ldH (hH _ _ hbz) hz2 rfl rfl rfl) ?_
 simp(maxSteps:=2000000) only[go_sem,ew]
 refine DOpQ.own 120 (Stp.idxV rfl rfl rfl sl33 (by omega) (by omega)) ?_
 simp(maxSteps:=2000000) only[go_sem,Nat.mul_one,ew]
 refine DOpQ.ownC 120 (fun _=>StpC.ldH (hH _ _ hb2) g2 rfl rfl rfl) ?_
 refine vv ?_
 refine CallQ.pure 130 hbt rfl ?_
 refine vv ?_
 exact RetQ.of (hR () C hL trivial) rfl scc rvv (SubS.sub ⟨⟨_,rfl,.inl rfl⟩,⟨_,rfl,.inl rfl⟩,⟨_,rfl,.inl rfl⟩,trivial⟩) hM (ClV.of rfl)
theorem al_nb {m:Mp}(k:MaOk m){i:Nat}{x:Int}{j:Nat}(hi:i+1<m.xs.length)(hj:j<m.ys.length)(h0:m.xs.getD i 0≤x)(h1:x≤m.xs.getD (i+1) 0):nb (alQ m i x j):=
 itp_nb h0 h1 (incB_get m.xs k.xi i hi) (k.zn i (by have:=k.zl;omega) j hj) (k.zn (i+1) (by have:=k.zl;omega) j hj)
theorem at_ {H:Hp}(m:MpL)(hm:m.ok H)(k:MaOk m.c)(x y:Int):CallH H Tryz.prog 263 [.agg (maV m),I x,I y] (I (atQ m.c x y)):=by
 have kx2:2≤m.xs.length:=k.x2
 have kx3:m.xs.length≤32:=k.x3
 have ky2:2≤m.ys.length:=k.y2
 have ky3:m.ys.length≤32:=k.y3
 have sx:=ssegment_ m.x m.xs hm.x kx2 kx3 k.xi x
 have sy:=ssegment_ m.y m.ys hm.y ky2 ky3 k.yi y
 obtain⟨_,_,x3,x4,x5⟩:=sgI_ok kx2 k.xi x
 obtain⟨_,_,y3,y4,y5⟩:=sgI_ok ky2 k.yi y
 have hat:atQ m.c x y=itp (m.ys.getD (sgI m.ys y) 0) (m.ys.getD (sgI m.ys y+1) 0) (alQ m.c (sgI m.xs x) (clQ m.xs x) (sgI m.ys y)) (alQ m.c (sgI m.xs x) (clQ m.xs x) (sgI m.ys y+1)) (clQ m.ys y):=rfl
 rw[hat]
 have q1:=al_ m hm k (sgI m.xs x) (clQ m.xs x) (sgI m.ys y) x3 (by omega) x4 x5
 have q2:=al_ m hm k (sgI m.xs x) (clQ m.xs x) (sgI m.ys y+1) x3 y3 x4 x5
 have n1:=al_nb k (i:=sgI m.xs x) (x:=clQ m.xs x) (j:=sgI m.ys y) x3 (show sgI m.ys y<m.ys.length by omega) x4 x5
 have n2:=al_nb k (i:=sgI m.xs x) (x:=clQ m.xs x) (j:=sgI m.ys y+1) x3 y3 x4 x5
 have hbt:=between_ (m.ys.getD (sgI m.ys y) 0) (m.ys.getD (sgI m.ys y+1) 0) _ _ (clQ m.ys y) y4 y5 (incB_get m.ys k.yi _ y3) (k.yn _ (show sgI m.ys y<m.ys.length by omega)) (k.yn _ y3) n1 n2
 obtain⟨by0,oy,cy,hsy,csy,ely,mky,hby,hcy⟩:=ints_at hm.y (by omega)
 have g1:=hcy (sgI m.ys y) (by omega)
 have g2:=hcy (sgI m.ys y+1) (by omega)
 generalize alQ m.c (sgI m.xs x) (clQ m.xs x) (sgI m.ys y)=za at*
 generalize alQ m.c (sgI m.xs x) (clQ m.xs x) (sgI m.ys y+1)=zb at*
 generalize clQ m.xs x=x' at*
 generalize clQ m.ys y=y' at*
 generalize sgI m.xs x=i at*
 generalize sgI m.ys y=j at*
 have ew:IntKind.i64.wrap ((j:Int)+1)=((j+1:Nat):Int):=wS (by omega)
 have hmv:maV m=[.v (.slice m.x.o m.xs.length m.x.c),.v (.slice (some ⟨by0,oy,none⟩) m.ys.length cy),.v (.slice m.z.o m.zs.length m.z.c)]:=by unfold maV;rw[hsy]
 have hM:ClM [(1,⟨true,maV m,89⟩),(2,⟨true,[.v (.int .i64 i)],3⟩),(3,⟨true,[.v (.int .i64 x')],3⟩)]:=ClM.of rfl
 have hsyv:vsl m.y m.ys.length= .slice (some ⟨by0,oy,none⟩) m.ys.length cy:=by rw[hsy]
 rw[hsyv]at sy
 rw[hmv]at q1 q2 hM⊢
 refine CallH.mkS Tryz.func263 rfl en263 (by simp[Tryz.ntmps263]) (ClA.of rfl) fun C hR hP hH hL=>?_
 refine Sm.go 100 ?_
 refine vv ?_
 refine CallQ.h 110 sx hH rfl ?_
 refine vv ?_
 refine CallQ.h 120 sy hH rfl ?_
 refine vv ?_
 refine Sm.dg 130 19 mix ?_
 refine vv ?_
 refine DOpQ.own 140 (Stp.idxV rfl rfl rfl sl33 (by omega) (by omega)) ?_
 simp(maxSteps:=2000000) only[go_sem,Nat.mul_one,ew]
 refine DOpQ.ownC 140 (fun _=>StpC.ldH (hH _ _ hby) g1 rfl rfl rfl) ?_
 simp(maxSteps:=2000000) only[go_sem,ew]
 refine DOpQ.own 140 (Stp.idxV rfl rfl rfl sl33 (by omega) (by omega)) ?_
 simp(maxSteps:=2000000) only[go_sem,Nat.mul_one,ew]
 refine DOpQ.ownC 140 (fun _=>StpC.ldH (hH _ _ hby) g2 rfl rfl rfl) ?_
 refine vv ?_
 refine DCallQ.hr [(1,100),(2,110),(3,101)] 150 q1 hH hM rfl rfl ⟨⟨_,rfl,.inr ⟨rfl,[],rfl⟩⟩,⟨_,rfl,.inr ⟨rfl,[],rfl⟩⟩,⟨_,rfl,.inr ⟨rfl,[],rfl⟩⟩,trivial⟩ rfl (.inr rfl) rfl rfl ?_
 simp only[Mem.ren,List.map_nil,V.ren,Cv.ren]
 simp(maxSteps:=2000000) only[go_sem,ew]
 refine DCallQ.hr [(1,100),(2,110),(3,101)] 150 q2 hH hM rfl rfl ⟨⟨_,rfl,.inr ⟨rfl,[],rfl⟩⟩,⟨_,rfl,.inr ⟨rfl,[],rfl⟩⟩,⟨_,rfl,.inr ⟨rfl,[],rfl⟩⟩,trivial⟩ rfl (.inr rfl) rfl rfl ?_
 simp only[Mem.ren,List.map_nil,V.ren,Cv.ren]
 refine vv ?_
 refine CallQ.pure 160 hbt rfl ?_
 refine vv ?_
 exact RetQ.int (hR C hL) rfl scc rfl
end Go.Proofs.YtkciabfilokfiaaGreat.Fx
