/-  -/
import Derived.Test.YtlnpgbnhcondjaaGreatDoorTf
import Derived.Test.YtlnpgbnhcondjaaGreatDoorX5
import Derived.Test.YtlnpgbnhcondjaaGreatDoorQ7
import Derived.Test.YtlnpgbnhcondjaaGreatDoorP5
import Derived.Test.YtlnpgbnhcondjaaGreatDoorQ3
import Derived.Test.YtlnpgbnhcondjaaGreatDoorU5
import Derived.Test.YtlnpgbnhcondjaaGreatDoorRQ
import Derived.Test.YtlnpgbnhcondjaaGreatDoorXD2
import Derived.Test.YtlnpgbnhcondjaaGreatDoorP1
import Derived.Test.YtlnpgbnhcondjaaGreatDoorYY
import Derived.Test.YtlnpgbnhcondjaaGreatDoorYU
import Derived.Test.YtlnpgbnhcondjaaGreatDoorRD
namespace Go.Proofs.YtlnpgbnhcondjaaGreatDoor.Fx
open Vg Tf
set_option linter.unusedSimpArgs false
set_option linter.unusedVariables false
set_option maxRecDepth 100000
set_option maxHeartbeats 4000000
noncomputable def decE {α:Type}(a b:List α):Bool:= @decide (a=b) (Classical.propDecidable _)
theorem decE_iff {α:Type}(a b:List α):decE a b=true↔a=b:=by
 unfold decE;exact @decide_eq_true_iff _ (Classical.propDecidable _)
noncomputable def dgEq (x y:Dg):Bool:=dgOk x&&(dgOk y&&(x.nm==y.nm&&(decE x.tys y.tys&&(decE x.ins y.ins&&(decide (x.ous=y.ous)&&(eqlB bEq x.bls y.bls&&(eqlB cEq x.cus y.cus&&eqlB mEq x.mas y.mas)))))))
theorem eqlB_map {α β:Type}(f:α→β)(p:β→β→Bool)(la lb:List α):eqlB (fun a b=>p (f a) (f b)) la lb=eqlB p (la.map f) (lb.map f):=by
 unfold eqlB
 rw[List.length_map,List.length_map,List.zip_map,List.all_map]
 rfl
theorem eqlB_self {α:Type}{p:α→α→Bool}(h:∀a,p a a=true)(l:List α):eqlB p l l=true:=by
 unfold eqlB
 rw[decide_eq_true rfl,Bool.true_and,List.all_eq_true]
 intro q hq
 have:∀(l:List α),∀q∈l.zip l,q.1=q.2:=by
  intro l
  induction l with
  |nil=>intro q hq;cases hq
  |cons x l ih=>
   intro q hq
   rcases List.mem_cons.1 hq with rfl|hq
   ·rfl
   ·exact ih q hq
 have:=this l q hq
 rw[←this];exact h _
theorem dgEq_self {x:Dg}(h:dgOk x=true):dgEq x x=true:=by
 unfold dgEq
 have hb:∀b,bEq b b=true:=fun b=>by unfold bEq;simp
 have hc:∀b,cEq b b=true:=fun b=>by unfold cEq;simp
 have hm:∀b,mEq b b=true:=fun b=>by unfold mEq;simp
 rw[h,eqlB_self hb,eqlB_self hc,eqlB_self hm,(decE_iff x.tys x.tys).2 rfl,(decE_iff x.ins x.ins).2 rfl]
 simp
theorem ok_mas {x:Dg}(h:dgOk x=true):∀m∈x.mas,maOk m.xs m.ys m.zs=true:=by
 unfold dgOk at h
 simp only[Bool.and_eq_true,decide_eq_true_eq,List.all_eq_true]at h
 obtain⟨h1,_,n6,h2,h3,h4,h5,h6,h7⟩:=h
 intro m hm
 exact(h4 m hm).2
theorem eqD_ {H:Hp}(hW:PwR H)(a b:DgL)(ha:a.ok H)(hb:b.ok H)(sa:a.sm)(sb:b.sm):CallH H Tryz.prog 45 [rowV a.r,rowV b.r] (Bo (dgEq a.c b.c)):=by
 have v1:=dvalid (H:=H) a ha sa
 have v2:=dvalid (H:=H) b hb sb
 have q1:=eqG_td (H:=H) a.ty b.ty a.tys b.tys ha.ty hb.ty sa.tys.1 (decE a.tys b.tys) (decE_iff _ _)
 have q2:=eqG_po (H:=H) a.i b.i a.ins b.ins ha.i hb.i sa.ins.1 (decE a.ins b.ins) (decE_iff _ _)
 have q3:=eqG_st (H:=H) a.ou b.ou a.ous b.ous ha.ou hb.ou sa.ous.1 (decide (a.ous=b.ous)) decide_eq_true_iff
 have q4:=eqF_bl (H:=H) a.bl b.bl a.bls b.bls ha.bl hb.bl sa.bls.1 123 (fun x y=>bEq x.c y.c) (fun x hx y hy=>eqBl_ x y (ha.bls x hx) (hb.bls y hy) (sa.bls.2 x hx).2.2.2.1 (sa.bls.2 x hx).2.2.2.2.1)
 have q5:=eqF_cu (H:=H) a.cu b.cu a.cus b.cus ha.cu hb.cu sa.cus.1 125 (fun x y=>cEq x.c y.c) (fun x hx y hy=>eqCu_ x y (ha.cus x hx) (hb.cus y hy) (sa.cus.2 x hx).2.1 (sa.cus.2 x hx).2.2)
 have q6:=fun(va:dgOk a.c=true) (vb:dgOk b.c=true)=>eqF_ma (H:=H) a.ma b.ma a.mas b.mas ha.ma hb.ma sa.mas.1 127 (fun x y=>mEq x.c y.c) (fun x hx y hy=>eqMa_ hW x y (ha.mas x hx) (hb.mas y hy) (ok_mas va x.c (List.mem_map.2 ⟨x,hx,rfl⟩)) (ok_mas vb y.c (List.mem_map.2 ⟨y,hy,rfl⟩)))
 have e4:=eqlB_map BlL.c bEq a.bls b.bls
 have e5:=eqlB_map CuL.c cEq a.cus b.cus
 have e6:=eqlB_map MpL.c mEq a.mas b.mas
 have hfin:dgEq a.c b.c=(dgOk a.c&&(dgOk b.c&&(a.nm==b.nm&&(decE a.tys b.tys&&(decE a.ins b.ins&&(decide (a.ous=b.ous)&&(eqlB (fun x y=>bEq x.c y.c) a.bls b.bls&&(eqlB (fun x y=>cEq x.c y.c) a.cus b.cus&&eqlB (fun x y=>mEq x.c y.c) a.mas b.mas)))))))):=by
  rw[e4,e5,e6];rfl
 rw[hfin]
 generalize hva:dgOk a.c=A1 at*
 generalize hvb:dgOk b.c=A2 at*
 generalize decE a.tys b.tys=A4 at*
 generalize decE a.ins b.ins=A5 at*
 generalize decide (a.ous=b.ous)=A6 at*
 generalize eqlB (fun x y=>bEq x.c y.c) a.bls b.bls=A7 at*
 generalize eqlB (fun x y=>cEq x.c y.c) a.cus b.cus=A8 at*
 generalize eqlB (fun x y=>mEq x.c y.c) a.mas b.mas=A9 at*
 refine CallH.mkS Tryz.func45 rfl en45 (by simp[Tryz.ntmps45]) (ClA.of rfl) fun C hR hP hH hL=>?_
 refine Sm.go 100 ?_
 refine vv ?_
 refine CallQ.h 110 v1 hH rfl ?_
 refine vv ?_
 refine CallQ.hg 120 (fun _=>v2) hH (fun h=>by rw[h];rfl) ?_
 refine vv ?_
 refine CallQ.hg 130 (fun _=>q1) hH (fun h=>by rw[h];rfl) ?_
 refine vv ?_
 refine CallQ.hg 140 (fun _=>q2) hH (fun h=>by rw[h];rfl) ?_
 refine vv ?_
 refine CallQ.hg 150 (fun _=>q3) hH (fun h=>by rw[h];rfl) ?_
 refine vv ?_
 refine CallQ.hg 160 (fun _=>q4) hH (fun h=>by rw[h];rfl) ?_
 refine vv ?_
 refine CallQ.hg 170 (fun _=>q5) hH (fun h=>by rw[h];rfl) ?_
 refine vv ?_
 have hall:∀x1 x2 x3 x4 x5 x6 x7 x8:Bool,(bif bif bif bif bif bif bif x1 then x2 else false then x3 else false then x4 else false then x5 else false then x6 else false then x7 else false then x8 else false)=true→x1=true∧x2=true:=by decide
 refine CallQ.hg 180 (fun hg=>q6 (hall _ _ _ _ _ _ _ _ hg).1 (hall _ _ _ _ _ _ _ _ hg).2) hH (fun h=>by rw[h];rfl) ?_
 refine vv ?_
 have h9:∀x1 x2 x3 x4 x5 x6 x7 x8 x9:Bool,(bif bif bif bif bif bif bif bif x1 then x2 else false then x3 else false then x4 else false then x5 else false then x6 else false then x7 else false then x8 else false then x9 else false)=(x1&&(x2&&(x3&&(x4&&(x5&&(x6&&(x7&&(x8&&x9)))))))):=by decide
 exact RetQ.bool (hR C hL) rfl ⟨rfl,trivial⟩ (h9 _ _ _ _ _ _ _ _ _)
def hdT (d:Dg):Str:=[100,105,97,103,114,97,109,32]++d.nm++[10]++Lib.join (d.tys.map typT) []++Lib.join (d.cus.map curT) []++Lib.join (d.mas.map mapT) []++Lib.join (d.ins.map inpT) []++Lib.join (d.bls.map blT) []
def txtD (d:Dg):Str:=bif decide (0<d.ous.length)then hdT d++([111,117,116,32]++Lib.join d.ous [44,32]++[10])else hdT d
def txQ (d:Dg):Str×Int:=bif dgOk d then(bif decide (16384<(txtD d).length)then([],5)else(txtD d,0))else([],1)
theorem typT_le {t:Td}(hn:nmOk t.nm=true)(hf:fok t.ty=true):(typT t).length≤400:=by
 have h1:=nmLe hn
 obtain⟨hb1,hb⟩:=fok_in hf
 have hl:(nmT [t.ty.num,t.ty.off,t.ty.den]).length≤66:=nmT_le hb
 have hu:=txt_le (ftU t.ty)
 have hi:=Lib.itoa_length_le t.ty.bits hb1.1 hb1.2
 have hs:(bif t.ty.signed then sgnT else usgT).length≤8:=by cases t.ty.signed<;>decide
 unfold typT
 simp only[List.length_append,List.length_cons,List.length_nil]
 omega
theorem jmap_le {α:Type}(F:α→Str)(n:Nat)(l:List α)(h:∀x∈l,(F x).length≤n):(Lib.join (l.map F) []).length≤l.length*n:=by
 have:=join_len n (l.map F) [] fun x hx=>by
  obtain⟨v,hv,rfl⟩:=List.mem_map.1 hx
  exact h v hv
 rw[List.length_map]at this
 exact this
theorem jn2_le {n:Nat}{z:List (List Int)}(h:∀v∈z,v.length*22≤n∧∀k∈v,inR k):(Lib.join (z.map nmT) [44,32]).length≤z.length*(n+2):=
 have:=join_len n (z.map nmT) [44,32] fun x hx=>by
  obtain⟨v,hv,rfl⟩:=List.mem_map.1 hx
  exact Nat.le_trans (nmT_le (h v hv).2) (h v hv).1
 by rw[List.length_map]at this;exact this
theorem curT_le {c:Cu}(hn:nmOk c.nm=true)(hv:cuOk c.xs c.ys=true):(curT c).length≤2000:=by
 have h1:=nmLe hn
 unfold cuOk at hv
 simp only[Bool.and_eq_true,decide_eq_true_eq]at hv
 obtain⟨hxy,hv1,hv2⟩:=hv
 obtain⟨a1,a2⟩:=axOk_l hv1
 have a3:=near_inR hv2
 have h2:=jn2_le (n:=44) (z:=cuZ c) fun v hv=>by
  unfold cuZ at hv
  obtain⟨q,hq,rfl⟩:=List.mem_map.1 hv
  obtain⟨b1,b2⟩:=List.of_mem_zip hq
  refine⟨Nat.le_refl _,fun n hn=>?_⟩
  rcases List.mem_cons.1 hn with rfl|hn
  ·exact a2 _ b1
  ·rw[List.mem_singleton.1 hn];exact a3 _ b2
 rw[cuZ_len hxy]at h2
 unfold curT
 simp only[List.length_append,List.length_cons,List.length_nil]
 omega
theorem mapT_le {m:Mp}(hn:nmOk m.nm=true)(hv:maOk m.xs m.ys m.zs=true):(mapT m).length≤25000:=by
 obtain⟨a1,a2,a3,a4⟩:=maOk_l hv
 have h1:=nmLe hn
 have l1:=nmT_le a1.2
 have l2:=nmT_le a2.2
 have l3:=jn2_le (n:=704) (z:=m.zs) fun v hv=>⟨by have:=(a4 v hv).1;omega,(a4 v hv).2⟩
 unfold mapT
 simp only[List.length_append,List.length_cons,List.length_nil]
 omega
theorem inpT_le {p:Po}(h:poOk p=true):(inpT p).length≤200:=by
 unfold poOk at h
 simp only[Bool.and_eq_true]at h
 have h1:=nmLe h.1
 have h2:=nmLe h.2.1
 have hl:(nmT [p.lo,p.hi]).length≤44:=nmT_le (l:=[p.lo,p.hi]) fun n hn=>by
  rcases List.mem_cons.1 hn with rfl|hn
  ·exact fit_in h.2.2.1
  ·rw[List.mem_singleton.1 hn];exact fit_in h.2.2.2
 unfold inpT
 simp only[List.length_append,List.length_cons,List.length_nil]
 omega
theorem argL_in {b:Bl}(h:blOk b=true):(argL b).length≤30∧∀x∈argL b,x.length≤24:=by
 obtain⟨⟨h1,h2,h3,h4⟩,⟨h5,h6⟩,h7,h8⟩:=bl_bd h
 unfold argL
 cases b.tb==[]with
 |true=>exact⟨by show b.ins.length≤_;omega,h6⟩
 |false=>
  refine⟨by show(b.ins++[b.tb]).length≤_;rw[List.length_append];show _+1≤_;omega,fun x hx=>?_⟩
  have hx:x∈b.ins++[b.tb]:=hx
  rcases List.mem_append.1 hx with hx|hx
  ·exact h6 x hx
  ·rw[List.mem_singleton.1 hx];exact h4
theorem blT_le {b:Bl}(h:blOk b=true):(blT b).length≤1000:=by
 obtain⟨⟨h1,h2,h3,h4⟩,⟨h5,h6⟩,h7,h8⟩:=bl_bd h
 have hk:=jnI_le h7 h8
 have hJ:=jnS_le (argL_in h).1 (argL_in h).2
 unfold blT blA
 cases decide (0<b.ks.length)<;>
 ·simp only[cond_true,cond_false,List.length_append,List.length_cons,List.length_nil]
  omega
structure DgO (d:Dg):Prop where
 nm:nmOk d.nm=true
 l1:d.tys.length≤30
 l2:d.cus.length≤30
 l3:d.mas.length≤30
 l4:d.ins.length≤30
 l5:d.bls.length≤200
 l6:d.ous.length≤30
 t:∀t∈d.tys,nmOk t.nm=true∧fok t.ty=true
 c:∀c∈d.cus,nmOk c.nm=true∧cuOk c.xs c.ys=true
 m:∀m∈d.mas,nmOk m.nm=true∧maOk m.xs m.ys m.zs=true
 i:∀p∈d.ins,poOk p=true
 b:∀b∈d.bls,blOk b=true
 o:∀s∈d.ous,nmOk s=true
theorem dgO {d:Dg}(h:dgOk d=true):DgO d:=by
 unfold dgOk at h
 simp only[Bool.and_eq_true,decide_eq_true_eq,List.all_eq_true]at h
 obtain⟨h0,⟨n1,n2,n3,n4,n5⟩,n6,h2,h3,h4,h5,h6,h7⟩:=h
 exact⟨h0,n1,n2,n3,n4,n6,n5,h2,h3,h4,h5,h6,h7⟩
theorem hdT_le {d:Dg}(h:DgO d):(Lib.join (d.tys.map typT) []).length≤12000∧(Lib.join (d.cus.map curT) []).length≤60000∧(Lib.join (d.mas.map mapT) []).length≤750000∧(Lib.join (d.ins.map inpT) []).length≤6000∧(Lib.join (d.bls.map blT) []).length≤200000∧(Lib.join d.ous [44,32]).length≤780:=by
 have h1:=jmap_le typT 400 d.tys fun x hx=>typT_le (h.t x hx).1 (h.t x hx).2
 have h2:=jmap_le curT 2000 d.cus fun x hx=>curT_le (h.c x hx).1 (h.c x hx).2
 have h3:=jmap_le mapT 25000 d.mas fun x hx=>mapT_le (h.m x hx).1 (h.m x hx).2
 have h4:=jmap_le inpT 200 d.ins fun x hx=>inpT_le (h.i x hx)
 have h5:=jmap_le blT 1000 d.bls fun x hx=>blT_le (h.b x hx)
 have h6:=jnS_le h.l6 fun x hx=>nmLe (h.o x hx)
 have:=h.l1;have:=h.l2;have:=h.l3;have:=h.l4;have:=h.l5
 exact⟨by omega,by omega,by omega,by omega,by omega,h6⟩
theorem dtext_ {H:Hp}(hW:PwR H)(d:DgL)(o:d.ok H)(hs:d.sm):CallH H Tryz.prog 46 [rowV d.r] (.tup [Ws (txQ d.c).1,Wi (txQ d.c).2]):=by
 have v:=dvalid (H:=H) d o hs
 refine CallH.mkS Tryz.func46 rfl en46 (by simp[Tryz.ntmps46]) (ClA.of rfl) fun C hR hP hH hL=>?_
 refine Sm.go 100 ?_
 refine vv ?_
 refine CallQ.h 110 v hH rfl ?_
 refine vv ?_
 cases hok:dgOk d.c with
 |false=>
  have e:txQ d.c=([],1):=by unfold txQ;rw[hok];rfl
  rw[e]at hR
  refine vv ?_
  exact RetQ.of (hR C hL) rfl ⟨rfl,rfl,trivial⟩ rfl (Sub.nil _) ClM.nil (ClV.of rfl)
 |true=>
 have hO:=dgO hok
 obtain⟨b1,b2,b3,b4,b5,b6⟩:=hdT_le hO
 have b0:=nmLe hO.nm
 have z2:d.c.cus.map curT=d.cus.map fun c=>curT c.c:=by show(d.cus.map CuL.c).map curT=_;rw[List.map_map];rfl
 have z3:d.c.mas.map mapT=d.mas.map fun c=>mapT c.c:=by show(d.mas.map MpL.c).map mapT=_;rw[List.map_map];rfl
 have z5:d.c.bls.map blT=d.bls.map fun c=>blT c.c:=by show(d.bls.map BlL.c).map blT=_;rw[List.map_map];rfl
 have i2:d.cus.length≤30:=by have:=hO.l2;rwa [show d.c.cus=d.cus.map CuL.c from rfl,List.length_map]at this
 have i3:d.mas.length≤30:=by have:=hO.l3;rwa [show d.c.mas=d.mas.map MpL.c from rfl,List.length_map]at this
 have i5:d.bls.length≤200:=by have:=hO.l5;rwa [show d.c.bls=d.bls.map BlL.c from rfl,List.length_map]at this
 have m2:∀x∈d.cus,x.c∈d.c.cus:=fun x hx=>List.mem_map.2 ⟨x,hx,rfl⟩
 have m3:∀x∈d.mas,x.c∈d.c.mas:=fun x hx=>List.mem_map.2 ⟨x,hx,rfl⟩
 have m5:∀x∈d.bls,x.c∈d.c.bls:=fun x hx=>List.mem_map.2 ⟨x,hx,rfl⟩
 have hT:txtD d.c=bif decide (0<d.ous.length)then hdT d.c++([111,117,116,32]++Lib.join d.ous [44,32]++[10])else hdT d.c:=rfl
 have hD:hdT d.c=[100,105,97,103,114,97,109,32]++d.nm++[10]++Lib.join (d.tys.map typT) []++Lib.join (d.c.cus.map curT) []++Lib.join (d.c.mas.map mapT) []++Lib.join (d.ins.map inpT) []++Lib.join (d.c.bls.map blT) []:=rfl
 rw[z2,z3,z5]at hD
 rw[z2]at b2
 rw[z3]at b3
 rw[z5]at b5
 have q1:=join_td (H:=H) d.ty d.tys o.ty (by have:=hO.l1;exact Nat.le_trans this (by omega)) [] 130 typT (fun x hx=>typ_ hW x (hO.t x hx).1 (hO.t x hx).2) (Nat.le_trans b1 (by omega))
 have q2:=join_cu (H:=H) d.cu d.cus o.cu (by omega) [] 132 (fun c=>curT c.c) (fun x hx=>cur_ hW x (o.cus x hx) (hO.c _ (m2 x hx)).1 (hO.c _ (m2 x hx)).2) (Nat.le_trans b2 (by omega))
 have q3:=join_ma (H:=H) d.ma d.mas o.ma (by omega) [] 134 (fun c=>mapT c.c) (fun x hx=>mapTx_ hW x (o.mas x hx) (hO.m _ (m3 x hx)).1 (hO.m _ (m3 x hx)).2) (Nat.le_trans b3 (by omega))
 have q4:=join_po (H:=H) d.i d.ins o.i (by have:=hO.l4;exact Nat.le_trans this (by omega)) [] 136 inpT (fun x hx=>inp_ hW x (hO.i x hx)) (Nat.le_trans b4 (by omega))
 have q5:=join_bl (H:=H) d.bl d.bls o.bl (by omega) [] 139 (fun c=>blT c.c) (fun x hx=>blk_ hW x (o.bls x hx) (hO.b _ (m5 x hx))) (Nat.le_trans b5 (by omega))
 have q6:=joinSame (H:=H) d.ou d.ous o.ou hO.l6 (fun x hx=>nmLe (hO.o x hx))
 have b0:d.nm.length≤24:=b0
 have b1:(Lib.join (d.tys.map typT) []).length≤12000:=b1
 have b4:(Lib.join (d.ins.map inpT) []).length≤6000:=b4
 have b6:(Lib.join d.ous [44,32]).length≤780:=b6
 generalize Lib.join (d.tys.map typT) []=J1 at*
 generalize Lib.join (d.cus.map fun c=>curT c.c) []=J2 at*
 generalize Lib.join (d.mas.map fun c=>mapT c.c) []=J3 at*
 generalize Lib.join (d.ins.map inpT) []=J4 at*
 generalize Lib.join (d.bls.map fun c=>blT c.c) []=J5 at*
 generalize Lib.join d.ous [44,32]=J6 at*
 refine vv ?_
 refine Sm.dg 120 16 mix ?_
 refine vv ?_
--E
 refine⟨by first|omega|(simp only[List.length_append,List.length_cons,List.length_nil];omega),by first|omega|(simp only[List.length_append,List.length_cons,List.length_nil];omega),?_⟩
 refine DCallQ.h 130 (fun _=>q1) hH (fun _=>rfl) ?_
 refine vv ?_
 refine⟨by first|omega|(simp only[List.length_append,List.length_cons,List.length_nil];omega),?_⟩
 refine DCallQ.h 140 (fun _=>q2) hH (fun _=>rfl) ?_
 refine vv ?_
 refine⟨by first|omega|(simp only[List.length_append,List.length_cons,List.length_nil];omega),?_⟩
 refine DCallQ.h 150 (fun _=>q3) hH (fun _=>rfl) ?_
 refine vv ?_
 refine⟨by first|omega|(simp only[List.length_append,List.length_cons,List.length_nil];omega),?_⟩
 refine CallQ.h 160 q4 hH rfl ?_
 refine vv ?_
 refine⟨by first|omega|(simp only[List.length_append,List.length_cons,List.length_nil];omega),?_⟩
 refine CallQ.h 170 q5 hH rfl ?_
 refine vv ?_
 refine⟨by first|omega|(simp only[List.length_append,List.length_cons,List.length_nil];omega),?_⟩
 rw[hD]at hT
 clear hD
 refine mtch (fun hc=>?_) (fun hc=>?_)
 ·have hc':decide (0<d.ous.length)=true:=decide_eq_true (by simpa using hc)
  rw[hc']at hT
  have hT:txtD d.c=[100,105,97,103,114,97,109,32]++d.nm++[10]++J1++J2++J3++J4++J5++([111,117,116,32]++J6++[10]):=hT
  refine vv ?_
  refine CallQ.h 180 q6 hH rfl ?_
  refine vv ?_
  refine⟨by first|omega|(simp only[List.length_append,List.length_cons,List.length_nil];omega),by first|omega|(simp only[List.length_append,List.length_cons,List.length_nil];omega),by first|omega|(simp only[List.length_append,List.length_cons,List.length_nil];omega),?_⟩
  refine mtch (fun hd=>?_) (fun hd=>?_)
  ·have hd':decide (16384<(txtD d.c).length)=true:=decide_eq_true (by rw[hT];have:=of_decide_eq_true hd;simp only[List.length_append,List.length_cons,List.length_nil]at this⊢;omega)
   have hq:txQ d.c=([],5):=by unfold txQ;rw[hok,hd'];rfl
   rw[hq]at hR
   refine vv ?_
   exact RetQ.of (hR C hL) rfl ⟨rfl,rfl,trivial⟩ rfl (Sub.nil _) ClM.nil (ClV.of rfl)
  ·have hd':decide (16384<(txtD d.c).length)=false:=decide_eq_false (by rw[hT];have:=of_decide_eq_false hd;simp only[List.length_append,List.length_cons,List.length_nil]at this⊢;omega)
   have hq:txQ d.c=(txtD d.c,0):=by unfold txQ;rw[hok,hd'];rfl
   rw[hq,hT]at hR
   refine vv ?_
   exact RetQ.of (hR C hL) rfl ⟨rfl,rfl,trivial⟩ rfl (Sub.nil _) ClM.nil (ClV.of rfl)
 ·have hc':decide (0<d.ous.length)=false:=decide_eq_false (by simpa using hc)
  rw[hc']at hT
  have hT:txtD d.c=[100,105,97,103,114,97,109,32]++d.nm++[10]++J1++J2++J3++J4++J5:=hT
  refine vv ?_
  refine mtch (fun hd=>?_) (fun hd=>?_)
  ·have hd':decide (16384<(txtD d.c).length)=true:=decide_eq_true (by rw[hT];have:=of_decide_eq_true hd;simp only[List.length_append,List.length_cons,List.length_nil]at this⊢;omega)
   have hq:txQ d.c=([],5):=by unfold txQ;rw[hok,hd'];rfl
   rw[hq]at hR
   refine vv ?_
   exact RetQ.of (hR C hL) rfl ⟨rfl,rfl,trivial⟩ rfl (Sub.nil _) ClM.nil (ClV.of rfl)
  ·have hd':decide (16384<(txtD d.c).length)=false:=decide_eq_false (by rw[hT];have:=of_decide_eq_false hd;simp only[List.length_append,List.length_cons,List.length_nil]at this⊢;omega)
   have hq:txQ d.c=(txtD d.c,0):=by unfold txQ;rw[hok,hd'];rfl
   rw[hq,hT]at hR
   refine vv ?_
   exact RetQ.of (hR C hL) rfl ⟨rfl,rfl,trivial⟩ rfl (Sub.nil _) ClM.nil (ClV.of rfl)
set_option maxHeartbeats 8000000
theorem ddOne {n:Nat}(h:n<10):(UInt8.ofNat (48+n)).toNat=48+n:=by
 rw[UInt8.toNat_ofNat']
 exact Nat.mod_eq_of_lt (by omega)
theorem dd_val (n:Nat):digV (Lib.decDigits n)=n:=by
 induction n using Nat.strongRecOn with
 |_ n ih=>
  by_cases h:n<10
  ·rw[Lib.decDigits_one h]
   unfold digV
   simp only[List.foldl_cons,List.foldl_nil]
   rw[ddOne h];omega
  ·rw[Lib.decDigits,dif_neg h]
   have:=ih (n/10) (by omega)
   unfold digV at this⊢
   rw[List.foldl_append,this]
   simp only[List.foldl_cons,List.foldl_nil]
   rw[ddOne (by omega)];omega
theorem dd_dig (n:Nat):∀c∈Lib.decDigits n,48≤c.toNat:=by
 induction n using Nat.strongRecOn with
 |_ n ih=>
  intro c hc
  by_cases h:n<10
  ·rw[Lib.decDigits_one h]at hc
   rw[List.mem_singleton.1 hc,ddOne h];omega
  ·rw[Lib.decDigits,dif_neg h]at hc
   rcases List.mem_append.1 hc with hc|hc
   ·exact ih (n/10) (by omega) c hc
   ·rw[List.mem_singleton.1 hc,ddOne (by omega)];omega
theorem dd_ne (n:Nat):Lib.decDigits n≠[]:=by
 by_cases h:n<10
 ·rw[Lib.decDigits_one h];simp
 ·rw[Lib.decDigits,dif_neg h];simp
theorem itoa_ch (n:Int):∀c∈Lib.itoa n,45≤c.toNat:=by
 intro c hc
 unfold Lib.itoa at hc
 split at hc
 ·rcases List.mem_cons.1 hc with rfl|hc
  ·decide
  ·have:=dd_dig _ c hc;omega
 ·have:=dd_dig _ c hc;omega
theorem jnCons (a b:Str)(L:List Str)(sep:Str):Lib.join (a::b::L) sep=a++(sep++Lib.join (b::L) sep):=by unfold Lib.join;simp[List.intercalate,List.intersperse]
theorem jnOne (a sep:Str):Lib.join [a] sep=a:=by unfold Lib.join;simp[List.intercalate,List.intersperse]
theorem no10 (n:Int):(10:UInt8)∉Lib.itoa n:=fun h=>by have:=itoa_ch n _ h;revert this;decide
theorem jn10:∀l:List Int,(10:UInt8)∉Lib.join (l.map Lib.itoa) [32]
 |[]=>by show(10:UInt8)∉Lib.join [] [32];unfold Lib.join;simp[List.intercalate]
 |[x]=>by show(10:UInt8)∉Lib.join [Lib.itoa x] [32];rw[jnOne];exact no10 x
 |x::y::l=>by
  have ih:=jn10 (y::l)
  rw[List.map_cons,List.map_cons,jnCons]
  rw[List.map_cons]at ih
  intro h
  rcases List.mem_append.1 h with h|h
  ·exact no10 x h
  ·rcases List.mem_append.1 h with h|h
   ·revert h;decide
   ·exact ih h
end Go.Proofs.YtlnpgbnhcondjaaGreatDoor.Fx
namespace Go.Proofs.YtlnpgbnhcondjaaGreatDoor.Fx
set_option linter.unusedVariables false
set_option linter.unusedSimpArgs false
theorem splB_mid (c:UInt8)(r:Str):∀a:Str,c∉a→splB c (a++c::r)=a::splB c r
 |[],_=>by rw[List.nil_append,splB_cons,if_pos rfl]
 |x::a,h=>by
  rw[List.cons_append,splB_cons,if_neg (fun hh=>h (by rw[hh];exact List.mem_cons_self ..)),splB_mid c r a (fun hh=>h (List.mem_cons_of_mem _ hh))]
open Vg Tf
set_option maxRecDepth 100000
set_option maxHeartbeats 4000000
theorem lnsU_sm (s:Str)(he:(tokQ s).2.2=0):(tokQ s).1=(lnsU 0 (splB 10 s)).flatten∧∀U∈lnsU 0 (splB 10 s),LnT U∧U.length≤40000:=by
 have h16:¬16384<s.length:=fun h=>by unfold tokQ at he;rw[if_pos h]at he;cases he
 have hfa:=tok_facts s
 have hq:(lnsQ 0 (splB 10 s)).2.2=0:=by unfold tokQ at he;rw[if_neg h16]at he;exact he
 have hq1:(tokQ s).1=(lnsU 0 (splB 10 s)).flatten:=by unfold tokQ;rw[if_neg h16];exact(lns_lines _ _ hq).1
 refine⟨hq1,fun U hU=>⟨lnsU_ok _ _ U hU,?_⟩⟩
 have:U.length≤(lnsU 0 (splB 10 s)).flatten.length:=by
  obtain⟨A,B,h⟩:=List.append_of_mem hU
  rw[h];simp;omega
 rw[←hq1]at this
 omega
theorem bnd_some {α β:Type}{x:Option α×Ps}{f:α→Ps→Option β×Ps}{y:β}(h:(bnd x f).1=some y):∃a p,x=(some a,p)∧(f a p).1=some y:=by
 obtain⟨o,p⟩:=x
 cases o with
 |none=>cases h
 |some a=>exact⟨a,p,rfl,h⟩
theorem bndB_some {β:Type}{x:Bool×Ps}{f:Ps→Option β×Ps}{y:β}(h:(bndB x f).1=some y):∃p,x=(true,p)∧(f p).1=some y:=by
 obtain⟨o,p⟩:=x
 cases o with
 |false=>cases h
 |true=>exact⟨p,rfl,h⟩
theorem bif_none {β:Type}{c:Bool}{p:Ps}{z:Option β×Ps}{y:β}(h:(bif c then(none,p)else z).1=some y):c=false∧z.1=some y:=by
 cases c with
 |true=>cases h
 |false=>exact⟨rfl,h⟩
theorem ful_lt {f:Tk}{m lim:Nat}{p q:Ps}(h:fulP f m lim p=(true,q)):m<lim:=by
 unfold fulP at h
 cases hb:decide (lim≤m)with
 |true=>rw[hb,cond_true]at h;cases h
 |false=>have:=of_decide_eq_false hb;omega
theorem nmb_fit (s:Str):fitB (nmbQ s).1=true:=by
 unfold nmbQ
 split
 ·show fitB 0=true
  decide
 ·split
  ·show fitB 0=true
   decide
  ·rename_i h
   unfold fitB
   exact decide_eq_true (by simp only;omega)
section
variable {T:List Tk}
theorem nam_some {p q:Ps}{s:Str}(h:namP T p=(some s,q)):nmOk s=true:=by
 unfold namP at h
 cases hb:((hereP T p).k==1&&nmOk (hereP T p).s)with
 |false=>rw[hb,cond_false]at h;cases h
 |true=>
  rw[hb,cond_true]at h
  rw[←Option.some.inj (Prod.mk.inj h).1]
  exact(Bool.and_eq_true_iff.1 hb).2
theorem int_some {p q:Ps}{n:Int}(h:intP T p=(some n,q)):fitB n=true:=by
 unfold intP at h
 cases hb:((hereP T p).k==2)with
 |false=>rw[hb,cond_false]at h;cases h
 |true=>
  rw[hb,cond_true]at h
  rw[←Option.some.inj (Prod.mk.inj h).1]
  exact nmb_fit _
theorem nms_some (a b:Str):∀(f:Nat) (l:List Str) (p:Ps) (r:List Str),(∀s∈l,nmOk s=true)→(nmsP T a b f l p).1=some r→∀s∈r,nmOk s=true
 |0,_,_,_,_,h=>by cases h
 |f+1,l,p,r,hl,h=>by
  rw[nmsP]at h
  obtain⟨s,q,h1,h2⟩:=bnd_some h
  have hl2:∀x∈l++[s],nmOk x=true:=fun x hx=>by
   rcases List.mem_append.1 hx with hx|hx
   ·exact hl x hx
   ·rw[List.mem_singleton]at hx;subst hx;exact nam_some h1
  cases hb:(isP T a q||isP T b q)with
  |true=>
   rw[hb,cond_true]at h2
   rw[←Option.some.inj h2];exact hl2
  |false=>
   rw[hb,cond_false]at h2
   obtain⟨q2,_,h3⟩:=bndB_some h2
   exact nms_some a b f _ q2 r hl2 h3
theorem cms_some:∀(f:Nat) (l:List Int) (p:Ps) (r:List Int),(∀s∈l,fitB s=true)→(cmsP T f l p).1=some r→∀s∈r,fitB s=true
 |0,_,_,_,_,h=>by cases h
 |f+1,l,p,r,hl,h=>by
  rw[cmsP]at h
  obtain⟨s,q,h1,h2⟩:=bnd_some h
  have hl2:∀x∈l++[s],fitB x=true:=fun x hx=>by
   rcases List.mem_append.1 hx with hx|hx
   ·exact hl x hx
   ·rw[List.mem_singleton]at hx;subst hx;exact int_some h1
  cases hb:isP T [44] q with
  |true=>rw[hb,cond_true]at h2;exact cms_some f _ _ r hl2 h2
  |false=>
   rw[hb,cond_false]at h2
   rw[←Option.some.inj h2];exact hl2
theorem ous_some:∀(f:Nat) (l:List Str) (p:Ps) (r:List Str),(∀s∈l,nmOk s=true)→(ousP T f l p).1=some r→∀s∈r,nmOk s=true
 |0,_,_,_,_,h=>by cases h
 |f+1,l,p,r,hl,h=>by
  rw[ousP]at h
  obtain⟨s,q,h1,h2⟩:=bnd_some h
  have hl2:∀x∈l++[s],nmOk x=true:=fun x hx=>by
   rcases List.mem_append.1 hx with hx|hx
   ·exact hl x hx
   ·rw[List.mem_singleton]at hx;subst hx;exact nam_some h1
  cases hb:isP T [44] q with
  |true=>rw[hb,cond_true]at h2;exact ous_some f _ _ r hl2 h2
  |false=>
   rw[hb,cond_false]at h2
   rw[←Option.some.inj h2];exact hl2
structure RsO (d:Dg):Prop where
 t:d.tys.length≤30
 c:d.cus.length≤30
 m:d.mas.length≤30
 i:d.ins.length≤30
 o:d.ous.length≤30
 b:d.bls.length≤200
 tA:∀x∈d.tys,nmOk x.nm=true∧fok x.ty=true
 cA:∀x∈d.cus,nmOk x.nm=true∧cuOk x.xs x.ys=true
 mA:∀x∈d.mas,nmOk x.nm=true∧maOk x.xs x.ys x.zs=true
 iA:∀x∈d.ins,poOk x=true
 bA:∀x∈d.bls,blOk x=true
 oA:∀x∈d.ous,nmOk x=true
theorem RsO.ok {d:Dg}(h:RsO d)(hn:nmOk d.nm=true):dgOk d=true:=by
 unfold dgOk
 simp only[Bool.and_eq_true,decide_eq_true_eq,List.all_eq_true]
 exact⟨hn,⟨h.t,h.c,h.m,h.i,h.o⟩,h.b,h.tA,h.cA,h.mA,h.iA,h.bA,h.oA⟩
theorem allS_app {α:Type}{P:α→Prop}{l:List α}{x:α}(h:∀y∈l,P y)(hx:P x):∀y∈l++[x],P y:=fun y hy=>by
 rcases List.mem_append.1 hy with hy|hy
 ·exact h y hy
 ·rw[List.mem_singleton]at hy;subst hy;exact hx
theorem typ_some {f:Tk}{m:Nat}{p:Ps}{x:Td}(h:(typP T f m p).1=some x):m<30∧nmOk x.nm=true∧fok x.ty=true:=by
 unfold typP at h
 obtain⟨nm,p1,h1,h⟩:=bnd_some h
 obtain⟨p2,_,h⟩:=bndB_some h
 obtain⟨b,p3,_,h⟩:=bnd_some h
 obtain⟨_,h⟩:=bif_none h
 obtain⟨_,p4,_,h⟩:=bnd_some h
 obtain⟨_,p5,_,h⟩:=bnd_some h
 obtain⟨_,p6,_,h⟩:=bnd_some h
 obtain⟨_,p7,_,h⟩:=bnd_some h
 obtain⟨hf,h⟩:=bif_none h
 obtain⟨p8,h8,h⟩:=bndB_some h
 rw[←Option.some.inj h]
 exact⟨ful_lt h8,nam_some h1,by simpa using hf⟩
theorem cls_some {α:Type}{p:Ps}{f:Ps→Option α×Ps}{x:α}(h:(clsP T p f).1=some x):∃q,(f q).1=some x:=by
 unfold clsP at h
 obtain⟨_,h⟩:=bif_none h
 obtain⟨_,h⟩:=bif_none h
 exact⟨_,h⟩
theorem cur_some {f:Tk}{m:Nat}{p:Ps}{x:Cu}(h:(curP T f m p).1=some x):m<30∧nmOk x.nm=true∧cuOk x.xs x.ys=true:=by
 unfold curP at h
 obtain⟨nm,p1,h1,h⟩:=bnd_some h
 obtain⟨p2,_,h⟩:=bndB_some h
 obtain⟨p3,_,h⟩:=bndB_some h
 obtain⟨xy,p4,_,h⟩:=bnd_some h
 obtain⟨p5,h⟩:=cls_some h
 obtain⟨hf,h⟩:=bif_none h
 obtain⟨p8,h8,h⟩:=bndB_some h
 rw[←Option.some.inj h]
 exact⟨ful_lt h8,nam_some h1,by simpa using hf⟩
theorem mapP_some {f:Tk}{m:Nat}{p:Ps}{x:Mp}(h:(mapP T f m p).1=some x):m<30∧nmOk x.nm=true∧maOk x.xs x.ys x.zs=true:=by
 unfold mapP at h
 obtain⟨nm,p1,h1,h⟩:=bnd_some h
 obtain⟨p2,_,h⟩:=bndB_some h
 obtain⟨p3,_,h⟩:=bndB_some h
 obtain⟨xs,p4,_,h⟩:=bnd_some h
 obtain⟨p5,_,h⟩:=bndB_some h
 obtain⟨ys,p6,_,h⟩:=bnd_some h
 obtain⟨p7,_,h⟩:=bndB_some h
 obtain⟨zs,p9,_,h⟩:=bnd_some h
 obtain⟨p10,h⟩:=cls_some h
 obtain⟨hf,h⟩:=bif_none h
 obtain⟨p8,h8,h⟩:=bndB_some h
 rw[←Option.some.inj h]
 exact⟨ful_lt h8,nam_some h1,by simpa using hf⟩
theorem inp_some {f:Tk}{m:Nat}{p:Ps}{x:Po}(h:(inpP T f m p).1=some x):m<30∧poOk x=true:=by
 unfold inpP at h
 obtain⟨nm,p1,h1,h⟩:=bnd_some h
 obtain⟨p2,_,h⟩:=bndB_some h
 obtain⟨ty,p3,h3,h⟩:=bnd_some h
 obtain⟨lo,p4,h4,h⟩:=bnd_some h
 obtain⟨hi,p5,h5,h⟩:=bnd_some h
 obtain⟨_,h⟩:=bif_none h
 obtain⟨p8,h8,h⟩:=bndB_some h
 rw[←Option.some.inj h]
 refine⟨ful_lt h8,?_⟩
 unfold poOk
 rw[nam_some h1,nam_some h3,int_some h4,int_some h5];rfl
theorem bk2_some {f kd:Tk}{a k t:Nat}{nm:Str}{m:Nat}{p:Ps}{x:Bl}(hq:kindQ kd.s=some (a,k,t))(hn:nmOk nm=true)(h:(bk2P T f kd a k t nm m p).1=some x):m<200∧blOk x=true:=by
 unfold bk2P at h
 obtain⟨p1,_,h⟩:=bndB_some h
 obtain⟨ins,p2,h2,h⟩:=bnd_some h
 obtain⟨ks,p3,h3,h⟩:=bnd_some h
 obtain⟨p4,_,h⟩:=bndB_some h
 obtain⟨p5,_,h⟩:=bndB_some h
 obtain⟨ty,p6,h6,h⟩:=bnd_some h
 obtain⟨_,h⟩:=bif_none h
 obtain⟨hl,h⟩:=bif_none h
 obtain⟨p8,h8,h⟩:=bndB_some h
 rw[←Option.some.inj h]
 refine⟨ful_lt h8,?_⟩
 rw[Bool.or_eq_false_iff,Bool.not_eq_false',Bool.not_eq_false']at hl
 have hl1:=of_decide_eq_true hl.1
 have hl2:=of_decide_eq_true hl.2
 have hins:∀s∈ins,nmOk s=true:=by
  unfold arsP at h2
  cases hb:(isP T [41] p1||isP T [59] p1)with
  |true=>
   rw[hb,cond_true]at h2
   rw[←Option.some.inj (Prod.mk.inj h2).1];simp
  |false=>
   rw[hb,cond_false]at h2
   exact nms_some _ _ _ _ _ _ (by simp) (congrArg Prod.fst h2)
 have hks:∀s∈ks,fitB s=true:=by
  unfold ksP at h3
  cases hb:isP T [59] p2 with
  |true=>
   rw[hb,cond_true]at h3
   exact cms_some _ _ _ _ (by simp) (congrArg Prod.fst h3)
  |false=>
   rw[hb,cond_false]at h3
   rw[←Option.some.inj (Prod.mk.inj h3).1];simp
 unfold blOk
 simp only[hq,Bool.and_eq_true,decide_eq_true_eq,List.all_eq_true]
 refine⟨by rw[List.length_take];omega,hl2,hn,nam_some h6,?_,fun s hs=>hins s (List.mem_of_mem_take hs),hks⟩
 by_cases h0:t=0
 ·rw[if_pos h0,h0];rfl
 ·rw[if_neg h0]
  have ht:decide (1≤t)=true:=decide_eq_true (by omega)
  rw[ht,cond_true]
  have hlen:a<ins.length:=by omega
  rw[List.getD_eq_getElem?_getD,List.getElem?_eq_getElem hlen]
  exact hins _ (List.getElem_mem hlen)
theorem blk_some {f:Tk}{m:Nat}{p:Ps}{x:Bl}(h:(blkP T f m p).1=some x):m<200∧blOk x=true:=by
 unfold blkP at h
 obtain⟨nm,p1,h1,h⟩:=bnd_some h
 obtain⟨p2,_,h⟩:=bndB_some h
 obtain⟨hk,h⟩:=bif_none h
 rw[Bool.or_eq_false_iff,Bool.not_eq_false',Bool.not_eq_false']at hk
 obtain⟨⟨a,k,t⟩,hq⟩:=Option.isSome_iff_exists.1 hk.2
 rw[hq]at h
 exact bk2_some hq (nam_some h1) h
theorem out_some {f:Tk}{m:Nat}{p:Ps}{x:List Str}(h:(outP T f m p).1=some x):m+x.length≤30∧∀s∈x,nmOk s=true:=by
 unfold outP at h
 obtain⟨l,p1,h1,h⟩:=bnd_some h
 obtain⟨_,h⟩:=bif_none h
 obtain⟨hb,h⟩:=bif_none h
 rw[←Option.some.inj h]
 have:=of_decide_eq_false hb
 exact⟨by omega,ous_some _ _ _ _ (by simp) (congrArg Prod.fst h1)⟩
theorem map_some_inv {α β:Type}{o:Option α}{g:α→β}{y:β}(h:o.map g=some y):∃x,o=some x∧g x=y:=by
 cases o with
 |none=>cases h
 |some x=>exact⟨x,rfl,Option.some.inj h⟩
theorem len_snoc {α:Type}(l:List α)(x:α){n:Nat}(h:l.length<n):(l++[x]).length≤n:=by rw[List.length_append];exact h
theorem red_some {f:Tk}{d d':Dg}{p q:Ps}(hd:RsO d)(h:redP T f d p=some (some d',q)):RsO d'∧d'.nm=d.nm:=by
 unfold redP at h
 split at h
 ·obtain⟨x,hx,rfl⟩:=map_some_inv (Prod.mk.inj (Option.some.inj h)).1
  obtain⟨h1,h2⟩:=typ_some hx
  exact⟨{hd with t:=len_snoc _ _ h1,tA:=allS_app hd.tA h2},rfl⟩
 split at h
 ·obtain⟨x,hx,rfl⟩:=map_some_inv (Prod.mk.inj (Option.some.inj h)).1
  obtain⟨h1,h2⟩:=cur_some hx
  exact⟨{hd with c:=len_snoc _ _ h1,cA:=allS_app hd.cA h2},rfl⟩
 split at h
 ·obtain⟨x,hx,rfl⟩:=map_some_inv (Prod.mk.inj (Option.some.inj h)).1
  obtain⟨h1,h2⟩:=mapP_some hx
  exact⟨{hd with m:=len_snoc _ _ h1,mA:=allS_app hd.mA h2},rfl⟩
 split at h
 ·obtain⟨x,hx,rfl⟩:=map_some_inv (Prod.mk.inj (Option.some.inj h)).1
  obtain⟨h1,h2⟩:=inp_some hx
  exact⟨{hd with i:=len_snoc _ _ h1,iA:=allS_app hd.iA h2},rfl⟩
 split at h
 ·obtain⟨x,hx,rfl⟩:=map_some_inv (Prod.mk.inj (Option.some.inj h)).1
  obtain⟨h1,h2⟩:=blk_some hx
  exact⟨{hd with b:=len_snoc _ _ h1,bA:=allS_app hd.bA h2},rfl⟩
 split at h
 ·obtain⟨x,hx,rfl⟩:=map_some_inv (Prod.mk.inj (Option.some.inj h)).1
  obtain⟨h1,h2⟩:=out_some hx
  refine⟨{hd with o:=by rw[List.length_append];exact h1,oA:=fun y hy=>?_},rfl⟩
  rcases List.mem_append.1 hy with hy|hy
  ·exact hd.oA y hy
  ·exact h2 y hy
 ·cases h
theorem lne_some {d d':Dg}{p:Ps}(hd:RsO d)(hn:nmOk d.nm=true)(h:(lneP T false d p).1=some d'):RsO d'∧nmOk d'.nm=true:=by
 unfold lneP at h
 simp only[cond_false]at h
 obtain⟨_,h⟩:=bif_none h
 cases hr:redP T (hereP T p) d (advP p)with
 |none=>rw[hr]at h;cases h
 |some x=>
  rw[hr]at h
  obtain⟨d1,p1,rfl,h⟩:=bnd_some h
  obtain⟨p2,_,h⟩:=bndB_some h
  rw[←Option.some.inj h]
  obtain⟨h1,h2⟩:=red_some hd hr
  exact⟨h1,by rw[h2];exact hn⟩
theorem lne_some0 {d d':Dg}{p:Ps}(hd:RsO d)(h:(lneP T true d p).1=some d'):RsO d'∧nmOk d'.nm=true:=by
 unfold lneP at h
 simp only[cond_true]at h
 obtain⟨p1,_,h⟩:=bndB_some h
 obtain⟨nm,p2,h2,h⟩:=bnd_some h
 obtain⟨p3,_,h⟩:=bndB_some h
 rw[←Option.some.inj h]
 exact⟨{hd with},nam_some h2⟩
end
theorem parW_valid:∀(Ls:List (List Tk)) (beg:Bool) (d:Dg),(∀U∈Ls,LnT U∧U.length≤40000)→RsO d→(beg=true→Ls≠[])→(beg=false→nmOk d.nm=true)→(parW Ls beg d).2.2=0→dgOk (parW Ls beg d).1=true
 |[],beg,d,_,hd,hb,hn,_=>by
  cases beg with
  |true=>exact absurd rfl (hb rfl)
  |false=>exact hd.ok (hn rfl)
 |U::Ls,beg,d,hU,hd,hb,hn,h=>by
  obtain⟨hu,hl⟩:=hU U (List.mem_cons_self ..)
  rw[parW]at h⊢
  cases ho:(lneP U beg d ps0).1 with
  |none=>
   rw[ho]at h
   exact absurd h ((lne_rd hu.g hl beg d (List.length_pos_iff.2 hu.n)).2 ho)
  |some d'=>
   rw[ho]at h
   have h2:RsO d'∧nmOk d'.nm=true:=by
    cases beg with
    |true=>exact lne_some0 hd ho
    |false=>exact lne_some hd (hn rfl) ho
   exact parW_valid Ls false d' (fun V hV=>hU V (List.mem_cons_of_mem _ hV)) h2.1 (fun h=>by cases h) (fun _=>h2.2) h
theorem d0_rs:RsO d0:=⟨by decide,by decide,by decide,by decide,by decide,by decide,(fun x h=>by cases h),(fun x h=>by cases h),(fun x h=>by cases h),(fun x h=>by cases h),(fun x h=>by cases h),(fun x h=>by cases h)⟩
theorem par_valid (s:Str)(h:(parD s).2.2=0):dgOk (parD s).1=true:=by
 have hp:=par_eq s
 by_cases he:(tokQ s).2.2=0
 ·obtain⟨h1,h2⟩:=lnsU_sm s he
  rw[if_neg (by rw[he];simp)]at hp
  by_cases hn:lnsU 0 (splB 10 s)=[]
  ·rw[if_pos hn]at hp;rw[hp]at h;cases h
  ·rw[if_neg hn]at hp
   rw[hp]at h⊢
   exact parW_valid _ _ _ h2 d0_rs (fun _=>hn) (fun h=>by cases h) h
 ·rw[if_pos he]at hp;rw[hp]at h;exact absurd h he
theorem parW_d0:∀(Ls:List (List Tk)) (beg:Bool) (d:Dg),(parW Ls beg d).2.2≠0→(parW Ls beg d).1=d0
 |[],_,_,h=>absurd rfl h
 |U::Ls,beg,d,h=>by
  rw[parW]at h⊢
  cases ho:(lneP U beg d ps0).1 with
  |none=>rfl
  |some d'=>rw[ho]at h;exact parW_d0 Ls false d' h
theorem par_d0 (s:Str)(h:(parD s).2.2≠0):(parD s).1=d0:=by
 have hp:=par_eq s
 by_cases he:(tokQ s).2.2=0
 ·rw[if_neg (by rw[he];simp)]at hp
  by_cases hn:lnsU 0 (splB 10 s)=[]
  ·rw[if_pos hn]at hp;rw[hp]
  ·rw[if_neg hn]at hp
   rw[hp]at h⊢
   exact parW_d0 _ _ _ h
 ·rw[if_pos he]at hp;rw[hp]
theorem nmOk_len {s:Str}(h:nmOk s=true):s.length≤24:=by
 unfold nmOk at h
 simp only[Bool.and_eq_true,decide_eq_true_eq]at h
 exact h.2.1
theorem axOk_len {l:List Int}(h:axOk l=true):l.length≤32:=by
 unfold axOk at h
 simp only[Bool.and_eq_true,decide_eq_true_eq]at h
 exact h.1.2
theorem kindQ_len {s:Str}{a k t:Nat}(h:kindQ s=some (a,k,t)):a≤3∧k≤2∧t≤2:=by
 unfold kindQ at h
 obtain⟨r,hr,he⟩:=map_some_inv h
 have h1:=List.mem_of_find?_eq_some hr
 have:kindT.all (fun r=>decide (r.2.1≤3∧r.2.2.1≤2∧r.2.2.2≤2))=true:=by decide
 have h2:=of_decide_eq_true (List.all_eq_true.1 this r h1)
 rw[he]at h2;exact h2
structure BlS (b:Bl):Prop where
 nm:b.nm.length≤24
 ty:b.ty.length≤24
 tb:b.tb.length≤24
 ins:b.ins.length≤3
 ks:b.ks.length≤2
 insA:∀s∈b.ins,s.length≤24
 ksA:∀k∈b.ks,fitB k=true
 kd:(kindQ b.kd).isSome=true
theorem blOk_s {b:Bl}(h:blOk b=true):BlS b:=by
 unfold blOk at h
 cases hq:kindQ b.kd with
 |none=>rw[hq]at h;cases h
 |some x=>
  obtain⟨a,k,t⟩:=x
  rw[hq]at h
  simp only[Bool.and_eq_true,decide_eq_true_eq,List.all_eq_true]at h
  obtain⟨h1,h2,h3,h4,h5,h6,h7⟩:=h
  obtain⟨q1,q2,_⟩:=kindQ_len hq
  refine⟨nmOk_len h3,nmOk_len h4,?_,by omega,by omega,fun s hs=>nmOk_len (h6 s hs),h7,by rw[hq];rfl⟩
  split at h5
  ·rw[eq_of_beq h5];decide
  ·exact nmOk_len h5
structure MpS (m:Mp):Prop where
 xs:m.xs.length≤32
 ys:m.ys.length≤32
 zs:m.zs.length≤32
 zA:∀z∈m.zs,z.length≤32
theorem maOk_s {m:Mp}(h:maOk m.xs m.ys m.zs=true):MpS m:=by
 unfold maOk at h
 simp only[Bool.and_eq_true,decide_eq_true_eq,List.all_eq_true]at h
 obtain⟨h1,h2,h3,h4⟩:=h
 have q1:=axOk_len h1
 have q2:=axOk_len h2
 exact⟨q1,q2,by omega,fun z hz=>by rw[(h4 z hz).1];exact q2⟩
theorem cuOk_s {xs ys:List Int}(h:cuOk xs ys=true):xs.length≤32∧ys.length≤32:=by
 unfold cuOk at h
 simp only[Bool.and_eq_true,decide_eq_true_eq]at h
 have:=axOk_len h.2.1
 exact⟨this,by omega⟩
theorem sm_ok {a:DgL}(h:a.c=d0∨dgOk a.c=true):a.sm∧∀m∈a.mas,m.xs.length≤1000000000000000∧m.ys.length≤1000000000000000∧m.zs.length≤1000000000000000:=by
 have key:∀d:Dg,(d=d0∨dgOk d=true)→d.nm.length≤24∧RsO d:=by
  intro d hd
  rcases hd with rfl|hd
  ·exact⟨by decide,d0_rs⟩
  ·unfold dgOk at hd
   simp only[Bool.and_eq_true,decide_eq_true_eq,List.all_eq_true]at hd
   obtain⟨hn,⟨n1,n2,n3,n4,n5⟩,n6,ht,hcu,hma,hpo,hbl,hou⟩:=hd
   exact⟨nmOk_len hn,⟨n1,n2,n3,n4,n5,n6,ht,hcu,hma,hpo,hbl,hou⟩⟩
 obtain⟨hn,R⟩:=key a.c h
 have e2:a.c.cus.length=a.cus.length:=List.length_map _
 have e3:a.c.mas.length=a.mas.length:=List.length_map _
 have e5:a.c.bls.length=a.bls.length:=List.length_map _
 have r1:=R.t
 have r2:=R.c
 have r3:=R.m
 have r4:=R.i
 have r5:=R.b
 have r6:=R.o
 rw[e2]at r2
 rw[e3]at r3
 rw[e5]at r5
 have hm:∀m∈a.mas,MpS m.c∧m.nm.length≤24:=fun m hm=>by
  have:=R.mA m.c (List.mem_map.2 ⟨m,hm,rfl⟩)
  exact⟨maOk_s this.2,nmOk_len this.1⟩
 refine⟨⟨Nat.le_trans hn (by decide),⟨Nat.le_trans r1 (by decide),fun t ht=>Nat.le_trans (nmOk_len (R.tA t ht).1) (by decide)⟩,⟨by omega,fun c hc=>?_⟩,⟨by omega,fun m hmm=>?_⟩,⟨Nat.le_trans r4 (by decide),fun p hp=>?_⟩,⟨by omega,fun b hb=>?_⟩,⟨Nat.le_trans r6 (by decide),fun s hs=>Nat.le_trans (nmOk_len (R.oA s hs)) (by decide)⟩⟩,fun m hmm=>?_⟩
 ·obtain⟨q1,q2⟩:=R.cA c.c (List.mem_map.2 ⟨c,hc,rfl⟩)
  have:=cuOk_s q2
  have:=nmOk_len q1
  exact⟨by omega,by omega,by omega⟩
 ·obtain⟨q1,q2⟩:=hm m hmm
  refine⟨by omega,fun v hv=>?_⟩
  have:=q1.zA v.2 (List.mem_map.2 ⟨v,hv,rfl⟩)
  omega
 ·have hp:=R.iA p hp
  unfold poOk at hp
  simp only[Bool.and_eq_true]at hp
  have q1:=nmOk_len hp.1
  have q2:=nmOk_len hp.2.1
  exact⟨by omega,by omega⟩
 ·have q:=blOk_s (R.bA b.c (List.mem_map.2 ⟨b,hb,rfl⟩))
  have:=q.nm
  have:=q.ty
  have:=q.tb
  have:=q.ins
  have:=q.ks
  exact⟨by omega,by omega,by omega,by omega,by omega,fun s hs=>by have:=q.insA s hs;omega⟩
 ·obtain⟨q1,_⟩:=hm m hmm
  have h1:m.xs.length≤32:=q1.xs
  have h2:m.ys.length≤32:=q1.ys
  have h3:m.c.zs.length≤32:=q1.zs
  have h4:m.c.zs.length=m.zs.length:=List.length_map _
  exact⟨by omega,by omega,by omega⟩
theorem par_sm {a:DgL}(s:Str)(h:a.c=(parD s).1):a.sm∧∀m∈a.mas,m.xs.length≤1000000000000000∧m.ys.length≤1000000000000000∧m.zs.length≤1000000000000000:=by
 apply sm_ok
 rw[h]
 by_cases he:(parD s).2.2=0
 ·exact .inr (par_valid s he)
 ·exact .inl (par_d0 s he)
end Go.Proofs.YtlnpgbnhcondjaaGreatDoor.Fx
