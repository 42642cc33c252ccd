/-  -/
import Derived.Test.YtlnpgbnhcondjaaGreatDoorTf
import Derived.Test.YtlnpgbnhcondjaaGreatDoorX5
import Derived.Test.YtlnpgbnhcondjaaGreatDoorY0
import Derived.Test.YtlnpgbnhcondjaaGreatDoorP5
namespace Go.Proofs.YtlnpgbnhcondjaaGreatDoor.Fx
open Vg Tf
set_option linter.unusedSimpArgs false
set_option linter.unusedVariables false
set_option maxRecDepth 100000
set_option maxHeartbeats 4000000
noncomputable def decE {α:Type}(a b:List α):Bool:= @decide (a=b) (Classical.propDecidable _)
theorem decE_iff {α:Type}(a b:List α):decE a b=true↔a=b:=by
 unfold decE;exact @decide_eq_true_iff _ (Classical.propDecidable _)
noncomputable def dgEq (x y:Dg):Bool:=dgOk x&&(dgOk y&&(x.nm==y.nm&&(decE x.tys y.tys&&(decE x.ins y.ins&&(decide (x.ous=y.ous)&&(eqlB bEq x.bls y.bls&&(eqlB cEq x.cus y.cus&&eqlB mEq x.mas y.mas)))))))
theorem eqlB_map {α β:Type}(f:α→β)(p:β→β→Bool)(la lb:List α):eqlB (fun a b=>p (f a) (f b)) la lb=eqlB p (la.map f) (lb.map f):=by
 unfold eqlB
 rw[List.length_map,List.length_map,List.zip_map,List.all_map]
 rfl
theorem eqlB_self {α:Type}{p:α→α→Bool}(h:∀a,p a a=true)(l:List α):eqlB p l l=true:=by
 unfold eqlB
 rw[decide_eq_true rfl,Bool.true_and,List.all_eq_true]
 intro q hq
 have:∀(l:List α),∀q∈l.zip l,q.1=q.2:=by
  intro l
  induction l with
  |nil=>intro q hq;cases hq
  |cons x l ih=>
   intro q hq
   rcases List.mem_cons.1 hq with rfl|hq
   ·rfl
   ·exact ih q hq
 have:=this l q hq
 rw[←this];exact h _
theorem dgEq_self {x:Dg}(h:dgOk x=true):dgEq x x=true:=by
 unfold dgEq
 have hb:∀b,bEq b b=true:=fun b=>by unfold bEq;simp
 have hc:∀b,cEq b b=true:=fun b=>by unfold cEq;simp
 have hm:∀b,mEq b b=true:=fun b=>by unfold mEq;simp
 rw[h,eqlB_self hb,eqlB_self hc,eqlB_self hm,(decE_iff x.tys x.tys).2 rfl,(decE_iff x.ins x.ins).2 rfl]
 simp
theorem ok_mas {x:Dg}(h:dgOk x=true):∀m∈x.mas,maOk m.xs m.ys m.zs=true:=by
 unfold dgOk at h
 simp only[Bool.and_eq_true,decide_eq_true_eq,List.all_eq_true]at h
 obtain⟨h1,_,n6,h2,h3,h4,h5,h6,h7⟩:=h
 intro m hm
 exact(h4 m hm).2
theorem eqD_ {H:Hp}(hW:PwR H)(a b:DgL)(ha:a.ok H)(hb:b.ok H)(sa:a.sm)(sb:b.sm):CallH H Tryz.prog 45 [rowV a.r,rowV b.r] (Bo (dgEq a.c b.c)):=by
 have v1:=dvalid (H:=H) a ha sa
 have v2:=dvalid (H:=H) b hb sb
 have q1:=eqG_td (H:=H) a.ty b.ty a.tys b.tys ha.ty hb.ty sa.tys.1 (decE a.tys b.tys) (decE_iff _ _)
 have q2:=eqG_po (H:=H) a.i b.i a.ins b.ins ha.i hb.i sa.ins.1 (decE a.ins b.ins) (decE_iff _ _)
 have q3:=eqG_st (H:=H) a.ou b.ou a.ous b.ous ha.ou hb.ou sa.ous.1 (decide (a.ous=b.ous)) decide_eq_true_iff
 have q4:=eqF_bl (H:=H) a.bl b.bl a.bls b.bls ha.bl hb.bl sa.bls.1 123 (fun x y=>bEq x.c y.c) (fun x hx y hy=>eqBl_ x y (ha.bls x hx) (hb.bls y hy) (sa.bls.2 x hx).2.2.2.1 (sa.bls.2 x hx).2.2.2.2.1)
 have q5:=eqF_cu (H:=H) a.cu b.cu a.cus b.cus ha.cu hb.cu sa.cus.1 125 (fun x y=>cEq x.c y.c) (fun x hx y hy=>eqCu_ x y (ha.cus x hx) (hb.cus y hy) (sa.cus.2 x hx).2.1 (sa.cus.2 x hx).2.2)
 have q6:=fun(va:dgOk a.c=true) (vb:dgOk b.c=true)=>eqF_ma (H:=H) a.ma b.ma a.mas b.mas ha.ma hb.ma sa.mas.1 127 (fun x y=>mEq x.c y.c) (fun x hx y hy=>eqMa_ hW x y (ha.mas x hx) (hb.mas y hy) (ok_mas va x.c (List.mem_map.2 ⟨x,hx,rfl⟩)) (ok_mas vb y.c (List.mem_map.2 ⟨y,hy,rfl⟩)))
 have e4:=eqlB_map BlL.c bEq a.bls b.bls
 have e5:=eqlB_map CuL.c cEq a.cus b.cus
 have e6:=eqlB_map MpL.c mEq a.mas b.mas
 have hfin:dgEq a.c b.c=(dgOk a.c&&(dgOk b.c&&(a.nm==b.nm&&(decE a.tys b.tys&&(decE a.ins b.ins&&(decide (a.ous=b.ous)&&(eqlB (fun x y=>bEq x.c y.c) a.bls b.bls&&(eqlB (fun x y=>cEq x.c y.c) a.cus b.cus&&eqlB (fun x y=>mEq x.c y.c) a.mas b.mas)))))))):=by
  rw[e4,e5,e6];rfl
 rw[hfin]
 generalize hva:dgOk a.c=A1 at*
 generalize hvb:dgOk b.c=A2 at*
 generalize decE a.tys b.tys=A4 at*
 generalize decE a.ins b.ins=A5 at*
 generalize decide (a.ous=b.ous)=A6 at*
 generalize eqlB (fun x y=>bEq x.c y.c) a.bls b.bls=A7 at*
 generalize eqlB (fun x y=>cEq x.c y.c) a.cus b.cus=A8 at*
 generalize eqlB (fun x y=>mEq x.c y.c) a.mas b.mas=A9 at*
 refine CallH.mkS Tryz.func45 rfl en45 (by simp[Tryz.ntmps45]) (ClA.of rfl) fun C hR hP hH hL=>?_
 refine Sm.go 100 ?_
 refine vv ?_
 refine CallQ.h 110 v1 hH rfl ?_
 refine vv ?_
 refine CallQ.hg 120 (fun _=>v2) hH (fun h=>by rw[h];rfl) ?_
 refine vv ?_
 refine CallQ.hg 130 (fun _=>q1) hH (fun h=>by rw[h];rfl) ?_
 refine vv ?_
 refine CallQ.hg 140 (fun _=>q2) hH (fun h=>by rw[h];rfl) ?_
 refine vv ?_
 refine CallQ.hg 150 (fun _=>q3) hH (fun h=>by rw[h];rfl) ?_
 refine vv ?_
 refine CallQ.hg 160 (fun _=>q4) hH (fun h=>by rw[h];rfl) ?_
 refine vv ?_
 refine CallQ.hg 170 (fun _=>q5) hH (fun h=>by rw[h];rfl) ?_
 refine vv ?_
 have hall:∀x1 x2 x3 x4 x5 x6 x7 x8:Bool,(bif bif bif bif bif bif bif x1 then x2 else false then x3 else false then x4 else false then x5 else false then x6 else false then x7 else false then x8 else false)=true→x1=true∧x2=true:=by decide
 refine CallQ.hg 180 (fun hg=>q6 (hall _ _ _ _ _ _ _ _ hg).1 (hall _ _ _ _ _ _ _ _ hg).2) hH (fun h=>by rw[h];rfl) ?_
 refine vv ?_
 have h9:∀x1 x2 x3 x4 x5 x6 x7 x8 x9:Bool,(bif bif bif bif bif bif bif bif x1 then x2 else false then x3 else false then x4 else false then x5 else false then x6 else false then x7 else false then x8 else false then x9 else false)=(x1&&(x2&&(x3&&(x4&&(x5&&(x6&&(x7&&(x8&&x9)))))))):=by decide
 exact RetQ.bool (hR C hL) rfl ⟨rfl,trivial⟩ (h9 _ _ _ _ _ _ _ _ _)
def hdT (d:Dg):Str:=[100,105,97,103,114,97,109,32]++d.nm++[10]++Lib.join (d.tys.map typT) []++Lib.join (d.cus.map curT) []++Lib.join (d.mas.map mapT) []++Lib.join (d.ins.map inpT) []++Lib.join (d.bls.map blT) []
def txtD (d:Dg):Str:=bif decide (0<d.ous.length)then hdT d++([111,117,116,32]++Lib.join d.ous [44,32]++[10])else hdT d
def txQ (d:Dg):Str×Int:=bif dgOk d then(bif decide (16384<(txtD d).length)then([],5)else(txtD d,0))else([],1)
theorem typT_le {t:Td}(hn:nmOk t.nm=true)(hf:fok t.ty=true):(typT t).length≤400:=by
 have h1:=nmLe hn
 obtain⟨hb1,hb⟩:=fok_in hf
 have hl:(nmT [t.ty.num,t.ty.off,t.ty.den]).length≤66:=nmT_le hb
 have hu:=txt_le (ftU t.ty)
 have hi:=Lib.itoa_length_le t.ty.bits hb1.1 hb1.2
 have hs:(bif t.ty.signed then sgnT else usgT).length≤8:=by cases t.ty.signed<;>decide
 unfold typT
 simp only[List.length_append,List.length_cons,List.length_nil]
 omega
theorem jmap_le {α:Type}(F:α→Str)(n:Nat)(l:List α)(h:∀x∈l,(F x).length≤n):(Lib.join (l.map F) []).length≤l.length*n:=by
 have:=join_len n (l.map F) [] fun x hx=>by
  obtain⟨v,hv,rfl⟩:=List.mem_map.1 hx
  exact h v hv
 rw[List.length_map]at this
 exact this
theorem jn2_le {n:Nat}{z:List (List Int)}(h:∀v∈z,v.length*22≤n∧∀k∈v,inR k):(Lib.join (z.map nmT) [44,32]).length≤z.length*(n+2):=
 have:=join_len n (z.map nmT) [44,32] fun x hx=>by
  obtain⟨v,hv,rfl⟩:=List.mem_map.1 hx
  exact Nat.le_trans (nmT_le (h v hv).2) (h v hv).1
 by rw[List.length_map]at this;exact this
theorem curT_le {c:Cu}(hn:nmOk c.nm=true)(hv:cuOk c.xs c.ys=true):(curT c).length≤2000:=by
 have h1:=nmLe hn
 unfold cuOk at hv
 simp only[Bool.and_eq_true,decide_eq_true_eq]at hv
 obtain⟨hxy,hv1,hv2⟩:=hv
 obtain⟨a1,a2⟩:=axOk_l hv1
 have a3:=near_inR hv2
 have h2:=jn2_le (n:=44) (z:=cuZ c) fun v hv=>by
  unfold cuZ at hv
  obtain⟨q,hq,rfl⟩:=List.mem_map.1 hv
  obtain⟨b1,b2⟩:=List.of_mem_zip hq
  refine⟨Nat.le_refl _,fun n hn=>?_⟩
  rcases List.mem_cons.1 hn with rfl|hn
  ·exact a2 _ b1
  ·rw[List.mem_singleton.1 hn];exact a3 _ b2
 rw[cuZ_len hxy]at h2
 unfold curT
 simp only[List.length_append,List.length_cons,List.length_nil]
 omega
theorem mapT_le {m:Mp}(hn:nmOk m.nm=true)(hv:maOk m.xs m.ys m.zs=true):(mapT m).length≤25000:=by
 obtain⟨a1,a2,a3,a4⟩:=maOk_l hv
 have h1:=nmLe hn
 have l1:=nmT_le a1.2
 have l2:=nmT_le a2.2
 have l3:=jn2_le (n:=704) (z:=m.zs) fun v hv=>⟨by have:=(a4 v hv).1;omega,(a4 v hv).2⟩
 unfold mapT
 simp only[List.length_append,List.length_cons,List.length_nil]
 omega
theorem inpT_le {p:Po}(h:poOk p=true):(inpT p).length≤200:=by
 unfold poOk at h
 simp only[Bool.and_eq_true]at h
 have h1:=nmLe h.1
 have h2:=nmLe h.2.1
 have hl:(nmT [p.lo,p.hi]).length≤44:=nmT_le (l:=[p.lo,p.hi]) fun n hn=>by
  rcases List.mem_cons.1 hn with rfl|hn
  ·exact fit_in h.2.2.1
  ·rw[List.mem_singleton.1 hn];exact fit_in h.2.2.2
 unfold inpT
 simp only[List.length_append,List.length_cons,List.length_nil]
 omega
theorem argL_in {b:Bl}(h:blOk b=true):(argL b).length≤30∧∀x∈argL b,x.length≤24:=by
 obtain⟨⟨h1,h2,h3,h4⟩,⟨h5,h6⟩,h7,h8⟩:=bl_bd h
 unfold argL
 cases b.tb==[]with
 |true=>exact⟨by show b.ins.length≤_;omega,h6⟩
 |false=>
  refine⟨by show(b.ins++[b.tb]).length≤_;rw[List.length_append];show _+1≤_;omega,fun x hx=>?_⟩
  have hx:x∈b.ins++[b.tb]:=hx
  rcases List.mem_append.1 hx with hx|hx
  ·exact h6 x hx
  ·rw[List.mem_singleton.1 hx];exact h4
theorem blT_le {b:Bl}(h:blOk b=true):(blT b).length≤1000:=by
 obtain⟨⟨h1,h2,h3,h4⟩,⟨h5,h6⟩,h7,h8⟩:=bl_bd h
 have hk:=jnI_le h7 h8
 have hJ:=jnS_le (argL_in h).1 (argL_in h).2
 unfold blT blA
 cases decide (0<b.ks.length)<;>
 ·simp only[cond_true,cond_false,List.length_append,List.length_cons,List.length_nil]
  omega
structure DgO (d:Dg):Prop where
 nm:nmOk d.nm=true
 l1:d.tys.length≤30
 l2:d.cus.length≤30
 l3:d.mas.length≤30
 l4:d.ins.length≤30
 l5:d.bls.length≤200
 l6:d.ous.length≤30
 t:∀t∈d.tys,nmOk t.nm=true∧fok t.ty=true
 c:∀c∈d.cus,nmOk c.nm=true∧cuOk c.xs c.ys=true
 m:∀m∈d.mas,nmOk m.nm=true∧maOk m.xs m.ys m.zs=true
 i:∀p∈d.ins,poOk p=true
 b:∀b∈d.bls,blOk b=true
 o:∀s∈d.ous,nmOk s=true
theorem dgO {d:Dg}(h:dgOk d=true):DgO d:=by
 unfold dgOk at h
 simp only[Bool.and_eq_true,decide_eq_true_eq,List.all_eq_true]at h
 obtain⟨h0,⟨n1,n2,n3,n4,n5⟩,n6,h2,h3,h4,h5,h6,h7⟩:=h
 exact⟨h0,n1,n2,n3,n4,n6,n5,h2,h3,h4,h5,h6,h7⟩
theorem hdT_le {d:Dg}(h:DgO d):(Lib.join (d.tys.map typT) []).length≤12000∧(Lib.join (d.cus.map curT) []).length≤60000∧(Lib.join (d.mas.map mapT) []).length≤750000∧(Lib.join (d.ins.map inpT) []).length≤6000∧(Lib.join (d.bls.map blT) []).length≤200000∧(Lib.join d.ous [44,32]).length≤780:=by
 have h1:=jmap_le typT 400 d.tys fun x hx=>typT_le (h.t x hx).1 (h.t x hx).2
 have h2:=jmap_le curT 2000 d.cus fun x hx=>curT_le (h.c x hx).1 (h.c x hx).2
 have h3:=jmap_le mapT 25000 d.mas fun x hx=>mapT_le (h.m x hx).1 (h.m x hx).2
 have h4:=jmap_le inpT 200 d.ins fun x hx=>inpT_le (h.i x hx)
 have h5:=jmap_le blT 1000 d.bls fun x hx=>blT_le (h.b x hx)
 have h6:=jnS_le h.l6 fun x hx=>nmLe (h.o x hx)
 have:=h.l1;have:=h.l2;have:=h.l3;have:=h.l4;have:=h.l5
 exact⟨by omega,by omega,by omega,by omega,by omega,h6⟩
theorem dtext_ {H:Hp}(hW:PwR H)(d:DgL)(o:d.ok H)(hs:d.sm):CallH H Tryz.prog 46 [rowV d.r] (.tup [Ws (txQ d.c).1,Wi (txQ d.c).2]):=by
 have v:=dvalid (H:=H) d o hs
 refine CallH.mkS Tryz.func46 rfl en46 (by simp[Tryz.ntmps46]) (ClA.of rfl) fun C hR hP hH hL=>?_
 refine Sm.go 100 ?_
 refine vv ?_
 refine CallQ.h 110 v hH rfl ?_
 refine vv ?_
 cases hok:dgOk d.c with
 |false=>
  have e:txQ d.c=([],1):=by unfold txQ;rw[hok];rfl
  rw[e]at hR
  refine vv ?_
  exact RetQ.of (hR C hL) rfl ⟨rfl,rfl,trivial⟩ rfl (Sub.nil _) ClM.nil (ClV.of rfl)
 |true=>
 have hO:=dgO hok
 obtain⟨b1,b2,b3,b4,b5,b6⟩:=hdT_le hO
 have b0:=nmLe hO.nm
 have z2:d.c.cus.map curT=d.cus.map fun c=>curT c.c:=by show(d.cus.map CuL.c).map curT=_;rw[List.map_map];rfl
 have z3:d.c.mas.map mapT=d.mas.map fun c=>mapT c.c:=by show(d.mas.map MpL.c).map mapT=_;rw[List.map_map];rfl
 have z5:d.c.bls.map blT=d.bls.map fun c=>blT c.c:=by show(d.bls.map BlL.c).map blT=_;rw[List.map_map];rfl
 have i2:d.cus.length≤30:=by have:=hO.l2;rwa [show d.c.cus=d.cus.map CuL.c from rfl,List.length_map]at this
 have i3:d.mas.length≤30:=by have:=hO.l3;rwa [show d.c.mas=d.mas.map MpL.c from rfl,List.length_map]at this
 have i5:d.bls.length≤200:=by have:=hO.l5;rwa [show d.c.bls=d.bls.map BlL.c from rfl,List.length_map]at this
 have m2:∀x∈d.cus,x.c∈d.c.cus:=fun x hx=>List.mem_map.2 ⟨x,hx,rfl⟩
 have m3:∀x∈d.mas,x.c∈d.c.mas:=fun x hx=>List.mem_map.2 ⟨x,hx,rfl⟩
 have m5:∀x∈d.bls,x.c∈d.c.bls:=fun x hx=>List.mem_map.2 ⟨x,hx,rfl⟩
 have hT:txtD d.c=bif decide (0<d.ous.length)then hdT d.c++([111,117,116,32]++Lib.join d.ous [44,32]++[10])else hdT d.c:=rfl
 have hD:hdT d.c=[100,105,97,103,114,97,109,32]++d.nm++[10]++Lib.join (d.tys.map typT) []++Lib.join (d.c.cus.map curT) []++Lib.join (d.c.mas.map mapT) []++Lib.join (d.ins.map inpT) []++Lib.join (d.c.bls.map blT) []:=rfl
 rw[z2,z3,z5]at hD
 rw[z2]at b2
 rw[z3]at b3
 rw[z5]at b5
 have q1:=join_td (H:=H) d.ty d.tys o.ty (by have:=hO.l1;exact Nat.le_trans this (by omega)) [] 130 typT (fun x hx=>typ_ hW x (hO.t x hx).1 (hO.t x hx).2) (Nat.le_trans b1 (by omega))
 have q2:=join_cu (H:=H) d.cu d.cus o.cu (by omega) [] 132 (fun c=>curT c.c) (fun x hx=>cur_ hW x (o.cus x hx) (hO.c _ (m2 x hx)).1 (hO.c _ (m2 x hx)).2) (Nat.le_trans b2 (by omega))
 have q3:=join_ma (H:=H) d.ma d.mas o.ma (by omega) [] 134 (fun c=>mapT c.c) (fun x hx=>mapTx_ hW x (o.mas x hx) (hO.m _ (m3 x hx)).1 (hO.m _ (m3 x hx)).2) (Nat.le_trans b3 (by omega))
 have q4:=join_po (H:=H) d.i d.ins o.i (by have:=hO.l4;exact Nat.le_trans this (by omega)) [] 136 inpT (fun x hx=>inp_ hW x (hO.i x hx)) (Nat.le_trans b4 (by omega))
 have q5:=join_bl (H:=H) d.bl d.bls o.bl (by omega) [] 139 (fun c=>blT c.c) (fun x hx=>blk_ hW x (o.bls x hx) (hO.b _ (m5 x hx))) (Nat.le_trans b5 (by omega))
 have q6:=joinSame (H:=H) d.ou d.ous o.ou hO.l6 (fun x hx=>nmLe (hO.o x hx))
 have b0:d.nm.length≤24:=b0
 have b1:(Lib.join (d.tys.map typT) []).length≤12000:=b1
 have b4:(Lib.join (d.ins.map inpT) []).length≤6000:=b4
 have b6:(Lib.join d.ous [44,32]).length≤780:=b6
 generalize Lib.join (d.tys.map typT) []=J1 at*
 generalize Lib.join (d.cus.map fun c=>curT c.c) []=J2 at*
 generalize Lib.join (d.mas.map fun c=>mapT c.c) []=J3 at*
 generalize Lib.join (d.ins.map inpT) []=J4 at*
 generalize Lib.join (d.bls.map fun c=>blT c.c) []=J5 at*
 generalize Lib.join d.ous [44,32]=J6 at*
 refine vv ?_
 refine Sm.dg 120 16 mix ?_
 refine vv ?_
--E
 refine⟨by first|omega|(simp only[List.length_append,List.length_cons,List.length_nil];omega),by first|omega|(simp only[List.length_append,List.length_cons,List.length_nil];omega),?_⟩
 refine DCallQ.h 130 (fun _=>q1) hH (fun _=>rfl) ?_
 refine vv ?_
 refine⟨by first|omega|(simp only[List.length_append,List.length_cons,List.length_nil];omega),?_⟩
 refine DCallQ.h 140 (fun _=>q2) hH (fun _=>rfl) ?_
 refine vv ?_
 refine⟨by first|omega|(simp only[List.length_append,List.length_cons,List.length_nil];omega),?_⟩
 refine DCallQ.h 150 (fun _=>q3) hH (fun _=>rfl) ?_
 refine vv ?_
 refine⟨by first|omega|(simp only[List.length_append,List.length_cons,List.length_nil];omega),?_⟩
 refine CallQ.h 160 q4 hH rfl ?_
 refine vv ?_
 refine⟨by first|omega|(simp only[List.length_append,List.length_cons,List.length_nil];omega),?_⟩
 refine CallQ.h 170 q5 hH rfl ?_
 refine vv ?_
 refine⟨by first|omega|(simp only[List.length_append,List.length_cons,List.length_nil];omega),?_⟩
 rw[hD]at hT
 clear hD
 refine mtch (fun hc=>?_) (fun hc=>?_)
 ·have hc':decide (0<d.ous.length)=true:=decide_eq_true (by simpa using hc)
  rw[hc']at hT
  have hT:txtD d.c=[100,105,97,103,114,97,109,32]++d.nm++[10]++J1++J2++J3++J4++J5++([111,117,116,32]++J6++[10]):=hT
  refine vv ?_
  refine CallQ.h 180 q6 hH rfl ?_
  refine vv ?_
  refine⟨by first|omega|(simp only[List.length_append,List.length_cons,List.length_nil];omega),by first|omega|(simp only[List.length_append,List.length_cons,List.length_nil];omega),by first|omega|(simp only[List.length_append,List.length_cons,List.length_nil];omega),?_⟩
  refine mtch (fun hd=>?_) (fun hd=>?_)
  ·have hd':decide (16384<(txtD d.c).length)=true:=decide_eq_true (by rw[hT];have:=of_decide_eq_true hd;simp only[List.length_append,List.length_cons,List.length_nil]at this⊢;omega)
   have hq:txQ d.c=([],5):=by unfold txQ;rw[hok,hd'];rfl
   rw[hq]at hR
   refine vv ?_
   exact RetQ.of (hR C hL) rfl ⟨rfl,rfl,trivial⟩ rfl (Sub.nil _) ClM.nil (ClV.of rfl)
  ·have hd':decide (16384<(txtD d.c).length)=false:=decide_eq_false (by rw[hT];have:=of_decide_eq_false hd;simp only[List.length_append,List.length_cons,List.length_nil]at this⊢;omega)
   have hq:txQ d.c=(txtD d.c,0):=by unfold txQ;rw[hok,hd'];rfl
   rw[hq,hT]at hR
   refine vv ?_
   exact RetQ.of (hR C hL) rfl ⟨rfl,rfl,trivial⟩ rfl (Sub.nil _) ClM.nil (ClV.of rfl)
 ·have hc':decide (0<d.ous.length)=false:=decide_eq_false (by simpa using hc)
  rw[hc']at hT
  have hT:txtD d.c=[100,105,97,103,114,97,109,32]++d.nm++[10]++J1++J2++J3++J4++J5:=hT
  refine vv ?_
  refine mtch (fun hd=>?_) (fun hd=>?_)
  ·have hd':decide (16384<(txtD d.c).length)=true:=decide_eq_true (by rw[hT];have:=of_decide_eq_true hd;simp only[List.length_append,List.length_cons,List.length_nil]at this⊢;omega)
   have hq:txQ d.c=([],5):=by unfold txQ;rw[hok,hd'];rfl
   rw[hq]at hR
   refine vv ?_
   exact RetQ.of (hR C hL) rfl ⟨rfl,rfl,trivial⟩ rfl (Sub.nil _) ClM.nil (ClV.of rfl)
  ·have hd':decide (16384<(txtD d.c).length)=false:=decide_eq_false (by rw[hT];have:=of_decide_eq_false hd;simp only[List.length_append,List.length_cons,List.length_nil]at this⊢;omega)
   have hq:txQ d.c=(txtD d.c,0):=by unfold txQ;rw[hok,hd'];rfl
   rw[hq,hT]at hR
   refine vv ?_
   exact RetQ.of (hR C hL) rfl ⟨rfl,rfl,trivial⟩ rfl (Sub.nil _) ClM.nil (ClV.of rfl)
theorem rsz_ (x:Int)(h:inR x):CallOk Tryz.prog 279 [I x] [] (U x.natAbs) []:=by
 obtain⟨h1,h2⟩:=h
 refine CallOk.mkN 100 Tryz.func279 rfl en279 (by simp[Tryz.ntmps279]) (ClA.of rfl) rfl rfl fun C hR hP=>?_
 refine vv ?_
 split
 ·rename_i h
  refine RetQ.int hR rfl ⟨rfl,trivial⟩ ?_
  simp at h
  rw[IntKind.wrap_u64,IntKind.wrap_u64]
  omega
 ·rename_i h
  refine RetQ.int hR rfl ⟨rfl,trivial⟩ ?_
  simp at h
  rw[IntKind.wrap_u64]
  omega
theorem dg_step {r:Str}{m:Nat}{acc:Str}(h:Lib.decDigits m++acc=r):(m/10=0→UInt8.ofNat (48+m%10)::acc=r)∧(m/10≠0→Lib.decDigits (m/10)++UInt8.ofNat (48+m%10)::acc=r):=by
 constructor
 ·intro h0
  rw[Lib.decDigits_one (by omega)]at h
  rw[Nat.mod_eq_of_lt (by omega)]
  exact h
 ·intro h0
  rw[Lib.decDigits,dif_neg (by omega),List.append_assoc]at h
  exact h
theorem rdcm1_ (x:Int)(h:inR x):CallOk Tryz.prog 264 [I x] [] (S (Lib.itoa x)) []:=by
 have hL:=Lib.itoa_length_le x h.1 h.2
 have hd:(Lib.decDigits x.natAbs).length≤20:=by rw[Lib.decDigits_length];exact Lib.nDigits_le20 _ (by obtain⟨a,b⟩:=h;omega)
 have hx:x.natAbs<18446744073709551616:=by obtain⟨a,b⟩:=h;omega
 have hi:Lib.itoa x=if x<0 then 45::Lib.decDigits x.natAbs else Lib.decDigits x.natAbs:=by
  unfold Lib.itoa
  split
  ·rfl
  ·congr 1;omega
 refine CallOk.mkN 100 Tryz.func264 rfl en264 (by simp[Tryz.ntmps264]) (ClA.of rfl) rfl rfl fun C hR hP=>?_
 refine vv ?_
 refine CallQ.pure 110 (rsz_ x h) rfl ?_
 refine vv ?_
 generalize x.natAbs=N at*
 refine Sm.loopM (M0:=[]) (α:={y:Nat×Str//y.1<18446744073709551616∧Lib.decDigits y.1++y.2=Lib.decDigits N}) hP
  (fun y=>[(0,true,I x),(3,true,U y.val.1),(4,true,S y.val.2)])
  (fun _=>[]) (fun y=>y.val.1) ⟨(N,[]),hx,List.append_nil _⟩ (fun _=>ClM.nil) (fun _=>ClE.of rfl) [] ?_ ?_
 ·exact⟨rfl,trivial,⟨rfl,rfl,rfl,trivial⟩,trivial⟩
 rintro⟨⟨m,acc⟩,hm,hr⟩ J hb
 simp only at hb hm hr⊢
 have hal:acc.length≤20:=by have:=congrArg List.length hr;rw[List.length_append]at this;omega
 refine Sm.go 170 ?_
 refine vv ?_
 have ht:((m:Int).tmod 10)=((m%10:Nat):Int):=by rw[Int.tmod_eq_emod_of_nonneg (by omega)];omega
 have htd:((m:Int).tdiv 10)=((m/10:Nat):Int):=by rw[Int.tdiv_eq_ediv_of_nonneg (by omega)];omega
 have w1:IntKind.u64.wrap (48+((m%10:Nat):Int))=((48+m%10:Nat):Int):=by rw[IntKind.wrap_u64];omega
 have w2:IntKind.u8.wrap ((48+m%10:Nat):Int)=((48+m%10:Nat):Int):=by rw[IntKind.wrap_u8];omega
 have w3:IntKind.u64.wrap ((m/10:Nat):Int)=((m/10:Nat):Int):=by rw[IntKind.wrap_u64];omega
 rw[ht,w1,w2]
 refine Sm.opq rfl rfl ⟨[],_,fun _=>Stp.toStr [48+m%10] (n:=170) (b:=⟨false,[.v (.int .u8 ((48+m%10:Nat):Int))],5⟩) rfl rfl rfl sl49 ki5 st9 rfl rfl,.inl rfl,?_⟩
 refine Sm.go 180 ?_
 obtain⟨hz,hn⟩:=dg_step hr
 simp(maxSteps:=2000000) only[go_sem,List.length_append,List.length_cons,List.length_nil,htd,w3]
 refine⟨by omega,?_⟩
 refine mtch (fun hq=>?_) (fun hq=>?_)
 ·have hq:m/10=0:=by have:=eq_of_beq hq;simp at this;omega
  have hz:=hz hq
  rw[←hz]at hi
  refine vv ?_
  refine mtch (fun hc=>?_) (fun hc=>?_)
  ·rw[if_pos (of_decide_eq_true hc)]at hi
   rw[hi]at hR
   refine⟨by omega,?_⟩
   exact RetQ.of hR rfl ⟨rfl,trivial⟩ rfl (Sub.nil _) ClM.nil (ClV.of rfl)
  ·rw[if_neg (of_decide_eq_false hc)]at hi
   rw[hi]at hR
   exact RetQ.of hR rfl ⟨rfl,trivial⟩ rfl (Sub.nil _) ClM.nil (ClV.of rfl)
 ·have hq:m/10≠0:=fun h0=>by rw[h0]at hq;simp at hq
  have hn:=hn hq
  refine hb _ _ ⟨(m/10,UInt8.ofNat (48+m%10)::acc),by simp only;omega,hn⟩ [] (by simp only;omega) ?_
  exact⟨rfl,trivial,⟨rfl,rfl,rfl,trivial⟩,trivial⟩
theorem rdcm_ (x:Int)(h:inR x):CallOk Tryz.prog 226 [I x] [] (S (Lib.itoa x)) []:=by
 refine CallOk.mkN 100 Tryz.func226 rfl en226 (by simp[Tryz.ntmps226]) (ClA.of rfl) rfl rfl fun C hR hP=>?_
 refine vv ?_
 refine CallQ.pure 110 (rdcm1_ x h) rfl ?_
 refine vv ?_
 exact RetQ.of hR rfl ⟨rfl,trivial⟩ rfl (Sub.nil _) ClM.nil (ClV.of rfl)
theorem jn_snoc (sep x:Str):∀L:List Str,L≠[]→Lib.join (L++[x]) sep=Lib.join L sep++sep++x
 |[],h=>absurd rfl h
 |[a],_=>by unfold Lib.join;simp[List.intercalate,List.intersperse]
 |a::b::L,_=>by
  have ih:=jn_snoc sep x (b::L) (by simp)
  have e1:∀L:List Str,Lib.join (a::b::L) sep=a++(sep++Lib.join (b::L) sep):=fun L=>by unfold Lib.join;simp[List.intercalate,List.intersperse]
  rw[List.cons_append,List.cons_append,e1,e1]
  rw[List.cons_append]at ih
  rw[ih]
  simp only[List.append_assoc]
theorem jn_one (x sep:Str):Lib.join [x] sep=x:=by unfold Lib.join;simp[List.intercalate,List.intersperse]
theorem jn_nil (sep:Str):Lib.join [] sep=[]:=by unfold Lib.join;rfl
theorem jn_step {α:Type}(F:α→Str)(sep:Str)(l:List α)(i:Nat)(h:i<l.length):Lib.join ((l.take (i+1)).map F) sep=(if 0<i then Lib.join ((l.take i).map F) sep++sep else Lib.join ((l.take i).map F) sep)++F l[i]:=by
 rw[List.take_succ_eq_append_getElem h,List.map_append]
 show Lib.join ((l.take i).map F++[F l[i]]) sep=_
 split
 ·rename_i h0
  rw[jn_snoc]
  intro e
  have:=congrArg List.length e
  rw[List.length_map,List.length_take]at this
  have:min i l.length=0:=this
  omega
 ·rename_i h0
  obtain rfl:i=0:=by omega
  show Lib.join [F l[0]] sep=Lib.join [] sep++F l[0]
  rw[jn_one,jn_nil];rfl
theorem rlst_ {H:Hp}(s:Sv)(l:List Int)(hs:SlH H (vsl s l.length) 1 (intsR l))(hl:l.length≤1000)(hb:∀n∈l,inR n):CallH H Tryz.prog 227 [.c (.v (vsl s l.length))] (S (nmT l)):=by
 refine CallH.mkS Tryz.func227 rfl en227 (by simp[Tryz.ntmps227]) (ClA.of rfl) fun C hR hP hH hL=>?_
 refine Sm.bringI 2 3 0 (hs.mono hH) rfl rfl ?_
 refine Sm.go 100 ?_
 refine vv ?_
 refine Sm.loopM (M0:=[]) (α:={i:Nat//i≤l.length}) hP (fun i=>[(0,true,.c (.sl 2 0 l.length 1)),(3,true,S (nmT (l.take i.val))),(4,true,I i.val)])
  (fun _=>[(2,⟨true,l.map iC,3⟩)]) (fun i=>l.length-i.val) ⟨0,by omega⟩ (fun _=>ClM.of (by simp only[List.all_cons,inMV (v_iC _)];rfl)) (fun _=>ClE.of rfl) [(2,2)] ?_ ?_
 ·exact⟨rfl,trivial,⟨rfl,rfl,rfl,trivial⟩,⟨oV (renV (v_iC _)),trivial⟩⟩
 rintro⟨i,hi⟩ J hj
 simp only at hj hi⊢
 refine Sm.go 110 ?_
 refine vv ?_
 refine mtch (fun hc=>?_) (fun hc=>?_)
 ·have hc:=lt_of_dec hc
  have hst:nmT (l.take (i+1))=(if 0<i then nmT (l.take i)++[32]else nmT (l.take i))++Lib.itoa l[i]:=jn_step Lib.itoa [32] l i hc
  have hbi:=hb _ (List.getElem_mem hc)
  have hle:=nmT_le (l:=l.take i) fun n hn=>hb n (List.mem_of_mem_take hn)
  rw[List.length_take]at hle
  have hxl:=Lib.itoa_length_le _ hbi.1 hbi.2
  have hq:=rdcm_ l[i] hbi
  generalize nmT (l.take i)=A at*
  refine mtch (fun h0=>?_) (fun h0=>?_)
  ·have h0:0<i:=by have:=of_decide_eq_true h0;omega
   rw[if_pos h0]at hst
   simp(maxSteps:=2000000) only[go_sem,get_iC hc]
   refine⟨by omega,⟨by omega,by omega⟩,?_⟩
   refine CallQ.pure 120 hq rfl ?_
   simp(maxSteps:=2000000) only[go_sem,←hst,wS (show i≤1000000000000000000 by omega)]
   refine⟨by first|omega|(simp only[List.length_append,List.length_cons,List.length_nil];omega),?_⟩
   exact hj _ _ ⟨i+1,hc⟩ [(2,2)] (by simp only;omega) ⟨rfl,trivial,⟨rfl,rfl,rfl,trivial⟩,⟨oV (renV (v_iC _)),trivial⟩⟩
  ·have h0:¬0<i:=by have:=of_decide_eq_false h0;omega
   rw[if_neg h0]at hst
   simp(maxSteps:=2000000) only[go_sem,get_iC hc]
   refine⟨⟨by omega,by omega⟩,?_⟩
   refine CallQ.pure 120 hq rfl ?_
   simp(maxSteps:=2000000) only[go_sem,←hst,wS (show i≤1000000000000000000 by omega)]
   refine⟨by first|omega|(simp only[List.length_append,List.length_cons,List.length_nil];omega),?_⟩
   exact hj _ _ ⟨i+1,hc⟩ [(2,2)] (by simp only;omega) ⟨rfl,trivial,⟨rfl,rfl,rfl,trivial⟩,⟨oV (renV (v_iC _)),trivial⟩⟩
 ·have hc:=eq_of_dec hi hc
  subst hc
  rw[List.take_length]
  clear hj
  refine vv ?_
  exact RetQ.of (hR C hL) rfl ⟨rfl,trivial⟩ rfl (Sub.nil _) ClM.nil (ClV.of rfl)
theorem rlstX {H:Hp}(nm:Nat)(l:List Int)(hl:l.length≤1000)(hb:∀n∈l,inR n)(el:TypeId):CallX H Tryz.prog 227 [.c (.sl nm 0 (intsR l).length 1)] [(nm,⟨false,rowsC (intsR l),el⟩)] (fun _:Unit=>S (nmT l)) (fun _=>[(nm,⟨false,rowsC (intsR l),el⟩)]) (fun _ _=>True):=
 CallX.ofSl nm (sz:=1) (rest:=[]) (v:=S (nmT l)) en227 (fun r hr=>by obtain⟨a,_,rfl⟩:=List.mem_map.1 hr;rfl) (fun H' s hle hs=>by
  have e:(intsR l).length=l.length:=List.length_map _
  rw[e]at hs⊢
  exact rlst_ s l hs hl hb) (fun x hx=>(by cases hx)) (fun _ _=>rfl)
theorem rinp_ {H:Hp}(p:Po)(h:poOk p=true):CallH H Tryz.prog 145 [rowV p.r] (S (inpT p)):=by
 unfold poOk at h
 simp only[Bool.and_eq_true]at h
 have h1:=nmLe h.1
 have h2:=nmLe h.2.1
 have hb:∀n∈[p.lo,p.hi],inR n:=by
  intro n hn
  rcases List.mem_cons.1 hn with rfl|hn
  ·exact fit_in h.2.2.1
  ·rw[List.mem_singleton.1 hn];exact fit_in h.2.2.2
 have hl:(nmT [p.lo,p.hi]).length≤44:=nmT_le hb
 have q:=rlstX (H:=H) 110 [p.lo,p.hi] (by simp) hb 3
 refine CallH.mkS Tryz.func145 rfl en145 (by simp[Tryz.ntmps145]) (ClA.of rfl) fun C hR hP hH hL=>?_
 refine Sm.go 100 ?_
 refine vv ?_
 refine Sm.dg 110 15 mix ?_
 refine vv ?_
 refine⟨by omega,by omega,by simp only[List.length_append,List.length_cons,List.length_nil];omega,by simp only[List.length_append,List.length_cons,List.length_nil];omega,?_⟩
 refine DCallQ.seenX [(110,⟨false,[.v (iv p.lo),.v (iv p.hi)],3⟩)] 120 q hH (ClM.of rfl) rfl ⟨oS,trivial⟩ rfl (.inl rfl) ⟨⟨rfl,rfl⟩,trivial⟩ rfl rfl ?_
 refine vv ?_
 refine⟨by simp only[List.length_append,List.length_cons,List.length_nil];omega,by simp only[List.length_append,List.length_cons,List.length_nil];omega,?_⟩
 exact RetQ.of (hR C hL) rfl ⟨rfl,trivial⟩ rfl (Sub.nil _) ClM.nil (ClV.of rfl)
theorem rtyp_ {H:Hp}(t:Td)(hn:nmOk t.nm=true)(hf:fok t.ty=true):CallH H Tryz.prog 142 [rowV t.r] (S (typT t)):=by
 have h1:=nmLe hn
 obtain⟨hb1,hb⟩:=fok_in hf
 have hl:(nmT [t.ty.num,t.ty.off,t.ty.den]).length≤66:=nmT_le hb
 have hu:=txt_le (ftU t.ty)
 have hi:=Lib.itoa_length_le t.ty.bits hb1.1 hb1.2
 have q1:=(rdcm_ t.ty.bits hb1).toH (H:=H)
 have q:=rlstX (H:=H) 120 [t.ty.num,t.ty.off,t.ty.den] (by simp) hb 3
 have q3:CallH H Tryz.prog 228 [uu (ftU t.ty)] (S (txt (ftU t.ty))):=(rText (ftU t.ty)).toH
 have hR0:typT t=[116,121,112,101,32]++t.nm++[32,61,32]++Lib.itoa t.ty.bits++[32]++(bif t.ty.signed then sgnT else usgT)++[32]++nmT [t.ty.num,t.ty.off,t.ty.den]++[32]++txt (ftU t.ty)++[10]:=rfl
 rw[hR0]
 obtain⟨nm,⟨bits,sg,num,off,den,um,ukg,us,ua,uk⟩⟩:=t
 simp only[ftU]at*
 refine CallH.mkS Tryz.func142 rfl en142 (by simp[Tryz.ntmps142]) (ClA.of rfl) fun C hR hP hH hL=>?_
 refine Sm.go 100 ?_
 refine vv ?_
 have hs1:sgnT.length=6:=rfl
 have hs2:usgT.length=8:=rfl
 cases sg with
 |true=>
  refine vv ?_
  refine Sm.dg 110 31 mix ?_
  refine vv ?_
  refine⟨by first|omega|(simp only[List.length_append,List.length_cons,List.length_nil];omega),by first|omega|(simp only[List.length_append,List.length_cons,List.length_nil];omega),?_⟩
  refine DCallQ.h 120 (fun _=>q1) hH (fun _=>rfl) ?_
  simp(maxSteps:=2000000) only[go_sem,List.range_zero,List.nil_append,List.cons_append,List.map_cons,List.map_nil,List.getElem?_cons_zero,List.getElem?_cons_succ]
  refine⟨by first|omega|(simp only[List.length_append,List.length_cons,List.length_nil];omega),by first|omega|(simp only[List.length_append,List.length_cons,List.length_nil];omega),by first|omega|(simp only[List.length_append,List.length_cons,List.length_nil];omega),by first|omega|(simp only[List.length_append,List.length_cons,List.length_nil];omega),?_⟩
  refine DCallQ.seenX [(120,⟨false,[.v (iv num),.v (iv off),.v (iv den)],3⟩)] 130 q hH (ClM.of rfl) rfl ⟨oS,trivial⟩ rfl (.inl rfl) ⟨⟨rfl,rfl⟩,trivial⟩ rfl rfl ?_
  refine vv ?_
  refine⟨by first|omega|(simp only[List.length_append,List.length_cons,List.length_nil];omega),by first|omega|(simp only[List.length_append,List.length_cons,List.length_nil];omega),?_⟩
  refine DCallQ.h 140 (fun _=>q3) hH (fun _=>rfl) ?_
  refine vv ?_
  refine⟨by first|omega|(simp only[List.length_append,List.length_cons,List.length_nil];omega),by first|omega|(simp only[List.length_append,List.length_cons,List.length_nil];omega),?_⟩
  exact RetQ.of (hR C hL) rfl ⟨rfl,trivial⟩ rfl (Sub.nil _) ClM.nil (ClV.of rfl)
 |false=>
  refine vv ?_
  refine Sm.dg 110 31 mix ?_
  refine vv ?_
  refine⟨by first|omega|(simp only[List.length_append,List.length_cons,List.length_nil];omega),by first|omega|(simp only[List.length_append,List.length_cons,List.length_nil];omega),?_⟩
  refine DCallQ.h 120 (fun _=>q1) hH (fun _=>rfl) ?_
  simp(maxSteps:=2000000) only[go_sem,List.range_zero,List.nil_append,List.cons_append,List.map_cons,List.map_nil,List.getElem?_cons_zero,List.getElem?_cons_succ]
  refine⟨by first|omega|(simp only[List.length_append,List.length_cons,List.length_nil];omega),by first|omega|(simp only[List.length_append,List.length_cons,List.length_nil];omega),by first|omega|(simp only[List.length_append,List.length_cons,List.length_nil];omega),by first|omega|(simp only[List.length_append,List.length_cons,List.length_nil];omega),?_⟩
  refine DCallQ.seenX [(120,⟨false,[.v (iv num),.v (iv off),.v (iv den)],3⟩)] 130 q hH (ClM.of rfl) rfl ⟨oS,trivial⟩ rfl (.inl rfl) ⟨⟨rfl,rfl⟩,trivial⟩ rfl rfl ?_
  refine vv ?_
  refine⟨by first|omega|(simp only[List.length_append,List.length_cons,List.length_nil];omega),by first|omega|(simp only[List.length_append,List.length_cons,List.length_nil];omega),?_⟩
  refine DCallQ.h 140 (fun _=>q3) hH (fun _=>rfl) ?_
  refine vv ?_
  refine⟨by first|omega|(simp only[List.length_append,List.length_cons,List.length_nil];omega),by first|omega|(simp only[List.length_append,List.length_cons,List.length_nil];omega),?_⟩
  exact RetQ.of (hR C hL) rfl ⟨rfl,trivial⟩ rfl (Sub.nil _) ClM.nil (ClV.of rfl)
theorem rcur_ {H:Hp}(c:CuL)(hc:c.ok H)(hn:nmOk c.c.nm=true)(hv:cuOk c.c.xs c.c.ys=true):CallH H Tryz.prog 143 [rowV c.r] (S (curT c.c)):=by
 have hT:=curT_le hn hv
 have h1:=nmLe hn
 unfold cuOk at hv
 simp only[Bool.and_eq_true,decide_eq_true_eq]at hv
 obtain⟨hxy,hv1,hv2⟩:=hv
 obtain⟨a1,a2⟩:=axOk_l hv1
 have a3:=near_inR hv2
 have ox:=hc.x
 have oy:=hc.y
 obtain⟨c,sx,sy⟩:=c
 simp only at*
 have hzl:=cuZ_len hxy
 refine CallH.mkS Tryz.func143 rfl en143 (by simp[Tryz.ntmps143]) (ClA.of rfl) fun C hR hP hH hL=>?_
 refine Sm.go 100 ?_
 refine vv ?_
 refine Sm.bringC 4 3 100 1 (ox.mono hH) rfl rfl rfl ?_
 refine Sm.bringC 5 3 100 2 (oy.mono hH) rfl rfl rfl ?_
 have ex:(intsR c.xs).length=c.xs.length:=List.length_map _
 have ey:(intsR c.ys).length=c.xs.length:=by rw[hxy];exact List.length_map _
 rw[ex,ey,intsC,intsC]
 refine Sm.loopM (M0:=[]) (α:={i:Nat//i≤c.xs.length}) hP (fun i=>[(1,true,.c (.p 100 0)),(3,true,S (Lib.join (((cuZ c).take i.val).map nmT) [44,32])),(4,true,I i.val)])
  (fun _=>[(100,⟨false,[.v (sv c.nm),.sl 4 0 c.xs.length 1,.sl 5 0 c.xs.length 1],110⟩),(4,⟨true,c.xs.map iC,3⟩),(5,⟨true,c.ys.map iC,3⟩)]) (fun i=>c.xs.length-i.val) ⟨0,by omega⟩ (fun _=>ClM.of (by simp only[List.all_cons,inMV (v_iC _)];rfl)) (fun _=>ClE.of rfl) [(100,100),(4,4),(5,5)] ?_ ?_
 ·exact⟨rfl,trivial,⟨rfl,rfl,rfl,trivial⟩,⟨oR,oV (renV (v_iC _)),oV (renV (v_iC _)),trivial⟩⟩
 rintro⟨i,hi⟩ J hj
 simp only at hj hi⊢
 refine Sm.go 110 ?_
 refine vv ?_
 refine mtch (fun hc=>?_) (fun hc=>?_)
 ·have hc:=lt_of_dec hc
  have hst:=jn_step nmT [44,32] (cuZ c) i (by omega)
  have hg:(cuZ c)[i]'(by omega)=[c.xs[i],c.ys[i]]:=by unfold cuZ;rw[List.getElem_map,List.getElem_zip]
  rw[hg]at hst
  have hb:∀n∈[c.xs[i],c.ys[i]],inR n:=fun n hn=>by
   rcases List.mem_cons.1 hn with rfl|hn
   ·exact a2 _ (List.getElem_mem _)
   ·rw[List.mem_singleton.1 hn];exact a3 _ (List.getElem_mem _)
  have hle:=jn2_le (n:=44) (z:=(cuZ c).take i) fun v hv=>by
   have hv:=List.mem_of_mem_take hv
   unfold cuZ at hv
   obtain⟨q,hq,rfl⟩:=List.mem_map.1 hv
   obtain⟨b1,b2⟩:=List.of_mem_zip hq
   refine⟨Nat.le_refl _,fun n hn=>?_⟩
   rcases List.mem_cons.1 hn with rfl|hn
   ·exact a2 _ b1
   ·rw[List.mem_singleton.1 hn];exact a3 _ b2
  rw[List.length_take]at hle
  have hl2:(nmT [c.xs[i],c.ys[i]]).length≤44:=nmT_le hb
  have q:=rlstX (H:=H) 120 [c.xs[i],c.ys[i]] (by simp) hb 3
  have gx:(c.xs.map iC)[i]?=some (iC c.xs[i]):=get_iC hc
  have gy:(c.ys.map iC)[i]?=some (iC c.ys[i]):=get_iC (by omega)
  generalize c.xs[i]=x at*
  generalize c.ys[i]=y at*
  generalize Lib.join (((cuZ c).take i).map nmT) [44,32]=A at*
  refine mtch (fun h0=>?_) (fun h0=>?_)
  ·have h0:0<i:=by have:=of_decide_eq_true h0;omega
   rw[if_pos h0]at hst
   refine⟨by first|omega|(simp only[List.length_append,List.length_cons,List.length_nil];omega),?_⟩
   refine Sm.dg 120 16 mix ?_
   simp(maxSteps:=2000000) only[go_sem,gx,gy]
   refine⟨⟨by omega,by omega⟩,⟨by omega,by omega⟩,?_⟩
   refine DCallQ.seenX [(120,⟨false,[iC x,iC y],3⟩)] 130 q hH (ClM.of rfl) rfl ⟨oS,trivial⟩ rfl (.inl rfl) ⟨⟨rfl,rfl⟩,trivial⟩ rfl rfl ?_
   simp(maxSteps:=2000000) only[go_sem,←hst,wS (show i≤1000000000000000000 by omega)]
   refine⟨by first|omega|(simp only[List.length_append,List.length_cons,List.length_nil];omega),?_⟩
   exact hj _ _ ⟨i+1,hc⟩ [(100,100),(4,4),(5,5)] (by simp only;omega) ⟨rfl,trivial,⟨rfl,rfl,rfl,trivial⟩,⟨oR,oV (renV (v_iC _)),oV (renV (v_iC _)),trivial⟩⟩
  ·have h0:¬0<i:=by have:=of_decide_eq_false h0;omega
   rw[if_neg h0]at hst
   refine Sm.dg 120 16 mix ?_
   simp(maxSteps:=2000000) only[go_sem,gx,gy]
   refine⟨⟨by omega,by omega⟩,⟨by omega,by omega⟩,?_⟩
   refine DCallQ.seenX [(120,⟨false,[iC x,iC y],3⟩)] 130 q hH (ClM.of rfl) rfl ⟨oS,trivial⟩ rfl (.inl rfl) ⟨⟨rfl,rfl⟩,trivial⟩ rfl rfl ?_
   simp(maxSteps:=2000000) only[go_sem,←hst,wS (show i≤1000000000000000000 by omega)]
   refine⟨by first|omega|(simp only[List.length_append,List.length_cons,List.length_nil];omega),?_⟩
   exact hj _ _ ⟨i+1,hc⟩ [(100,100),(4,4),(5,5)] (by simp only;omega) ⟨rfl,trivial,⟨rfl,rfl,rfl,trivial⟩,⟨oR,oV (renV (v_iC _)),oV (renV (v_iC _)),trivial⟩⟩
 ·have hc:=eq_of_dec hi hc
  rw[hc,List.take_of_length_le (by omega)]
  have e0:curT c=[99,117,114,118,101,32]++c.nm++[32,61,32,40]++Lib.join ((cuZ c).map nmT) [44,32]++[41,10]:=rfl
  rw[e0]at hR hT
  generalize Lib.join ((cuZ c).map nmT) [44,32]=J2 at*
  simp only[List.length_append,List.length_cons,List.length_nil]at hT
  clear hj
  refine vv ?_
  refine⟨by first|omega|(simp only[List.length_append,List.length_cons,List.length_nil];omega),by first|omega|(simp only[List.length_append,List.length_cons,List.length_nil];omega),by first|omega|(simp only[List.length_append,List.length_cons,List.length_nil];omega),by first|omega|(simp only[List.length_append,List.length_cons,List.length_nil];omega),?_⟩
  exact RetQ.of (hR C hL) rfl ⟨rfl,trivial⟩ rfl (Sub.nil _) ClM.nil (ClV.of rfl)
end Go.Proofs.YtlnpgbnhcondjaaGreatDoor.Fx
