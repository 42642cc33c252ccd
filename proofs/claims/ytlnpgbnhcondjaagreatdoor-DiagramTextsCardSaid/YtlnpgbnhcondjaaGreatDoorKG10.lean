/-  -/
import Derived.Test.YtlnpgbnhcondjaaGreatDoorTf
import Derived.Test.YtlnpgbnhcondjaaGreatDoorP8
import Derived.Test.YtlnpgbnhcondjaaGreatDoorY0
import Derived.Test.YtlnpgbnhcondjaaGreatDoorP1
import Derived.Test.YtlnpgbnhcondjaaGreatDoorSA
import Derived.Test.YtlnpgbnhcondjaaGreatDoorYY
import Derived.Test.YtlnpgbnhcondjaaGreatDoorYU
import Derived.Test.YtlnpgbnhcondjaaGreatDoorRD
import Derived.Test.YtlnpgbnhcondjaaGreatDoorPC
import Derived.Test.YtlnpgbnhcondjaaGreatDoorPD
import Derived.Test.YtlnpgbnhcondjaaGreatDoorMB
import Derived.Test.YtlnpgbnhcondjaaGreatDoorRows
import Derived.Test.YtlnpgbnhcondjaaGreatDoorY9
import Derived.LaidMore
import Derived.LaidSub
import Derived.LaidLaws
import Derived.Lib.LaidTab
import Derived.Lay
import Derived.Test.YtlnpgbnhcondjaaGreatDoorYC
import Derived.SevenTiedAt
import Derived.Stop.Joined
namespace Go.Proofs.YtlnpgbnhcondjaaGreatDoor.Fx
open Vg Tf
set_option linter.unusedSimpArgs false
set_option linter.unusedVariables false
set_option maxRecDepth 100000
theorem ddOne {n:Nat}(h:n<10):(UInt8.ofNat (48+n)).toNat=48+n:=by
 rw[UInt8.toNat_ofNat']
 exact Nat.mod_eq_of_lt (by omega)
theorem dd_val (n:Nat):digV (Lib.decDigits n)=n:=by
 induction n using Nat.strongRecOn with
 |_ n ih=>
  by_cases h:n<10
  ·rw[Lib.decDigits_one h]
   unfold digV
   simp only[List.foldl_cons,List.foldl_nil]
   rw[ddOne h];omega
  ·rw[Lib.decDigits,dif_neg h]
   have:=ih (n/10) (by omega)
   unfold digV at this⊢
   rw[List.foldl_append,this]
   simp only[List.foldl_cons,List.foldl_nil]
   rw[ddOne (by omega)];omega
theorem dd_dig (n:Nat):∀c∈Lib.decDigits n,48≤c.toNat:=by
 induction n using Nat.strongRecOn with
 |_ n ih=>
  intro c hc
  by_cases h:n<10
  ·rw[Lib.decDigits_one h]at hc
   rw[List.mem_singleton.1 hc,ddOne h];omega
  ·rw[Lib.decDigits,dif_neg h]at hc
   rcases List.mem_append.1 hc with hc|hc
   ·exact ih (n/10) (by omega) c hc
   ·rw[List.mem_singleton.1 hc,ddOne (by omega)];omega
theorem dd_ne (n:Nat):Lib.decDigits n≠[]:=by
 by_cases h:n<10
 ·rw[Lib.decDigits_one h];simp
 ·rw[Lib.decDigits,dif_neg h];simp
theorem dd_inj {m n:Nat}(h:Lib.decDigits m=Lib.decDigits n):m=n:=by
 rw[←dd_val m,←dd_val n,h]
theorem itoa_ch (n:Int):∀c∈Lib.itoa n,45≤c.toNat:=by
 intro c hc
 unfold Lib.itoa at hc
 split at hc
 ·rcases List.mem_cons.1 hc with rfl|hc
  ·decide
  ·have:=dd_dig _ c hc;omega
 ·have:=dd_dig _ c hc;omega
theorem itoa_ne (n:Int):Lib.itoa n≠[]:=by
 unfold Lib.itoa
 split
 ·simp
 ·exact dd_ne _
theorem itoa_inj {a b:Int}(h:Lib.itoa a=Lib.itoa b):a=b:=by
 have hno:∀m n:Nat,(45:UInt8)::Lib.decDigits m≠Lib.decDigits n:=fun m n e=>by
  have:=dd_dig n 45 (by rw[←e];exact List.mem_cons_self ..)
  revert this;decide
 unfold Lib.itoa at h
 split at h
 ·split at h
  ·have:=dd_inj (List.cons.inj h).2;omega
  ·exact absurd h (hno _ _)
 ·split at h
  ·exact absurd h.symm (hno _ _)
  ·have:=dd_inj h;omega
theorem sep_inj (s:UInt8):∀(A A' B B':Str),s∉A→s∉A'→A++s::B=A'++s::B'→A=A'∧B=B'
 |[],[],B,B',_,_,h=>⟨rfl,(List.cons.inj h).2⟩
 |[],c::A',B,B',_,h2,h=>absurd (by rw[(List.cons.inj h).1];exact List.mem_cons_self ..) h2
 |c::A,[],B,B',h1,_,h=>absurd (by rw[←(List.cons.inj h).1];exact List.mem_cons_self ..) h1
 |c::A,d::A',B,B',h1,h2,h=>by
  obtain⟨e1,e2⟩:=List.cons.inj h
  obtain⟨e3,e4⟩:=sep_inj s A A' B B' (fun hm=>h1 (List.mem_cons_of_mem _ hm)) (fun hm=>h2 (List.mem_cons_of_mem _ hm)) e2
  exact⟨by rw[e1,e3],e4⟩
theorem jnCons (a b:Str)(L:List Str)(sep:Str):Lib.join (a::b::L) sep=a++(sep++Lib.join (b::L) sep):=by unfold Lib.join;simp[List.intercalate,List.intersperse]
theorem jnOne (a sep:Str):Lib.join [a] sep=a:=by unfold Lib.join;simp[List.intercalate,List.intersperse]
theorem no32 (n:Int):(32:UInt8)∉Lib.itoa n:=fun h=>by have:=itoa_ch n _ h;revert this;decide
theorem no10 (n:Int):(10:UInt8)∉Lib.itoa n:=fun h=>by have:=itoa_ch n _ h;revert this;decide
theorem jn10:∀l:List Int,(10:UInt8)∉Lib.join (l.map Lib.itoa) [32]
 |[]=>by show(10:UInt8)∉Lib.join [] [32];unfold Lib.join;simp[List.intercalate]
 |[x]=>by show(10:UInt8)∉Lib.join [Lib.itoa x] [32];rw[jnOne];exact no10 x
 |x::y::l=>by
  have ih:=jn10 (y::l)
  rw[List.map_cons,List.map_cons,jnCons]
  rw[List.map_cons]at ih
  intro h
  rcases List.mem_append.1 h with h|h
  ·exact no10 x h
  ·rcases List.mem_append.1 h with h|h
   ·revert h;decide
   ·exact ih h
theorem jn_inj:∀l l':List Int,Lib.join (l.map Lib.itoa) [32]=Lib.join (l'.map Lib.itoa) [32]→l=l'
 |[],[],_=>rfl
 |[],[y],h=>by
  rw[List.map_cons,List.map_nil,jnOne]at h
  exact absurd h.symm (itoa_ne y)
 |[],y::z::l,h=>by
  rw[List.map_cons,List.map_cons,jnCons]at h
  exact absurd (List.append_eq_nil_iff.1 h.symm).1 (itoa_ne y)
 |[x],[],h=>by
  rw[List.map_cons,List.map_nil,jnOne]at h
  exact absurd h (itoa_ne x)
 |[x],[y],h=>by
  rw[List.map_cons,List.map_nil,jnOne,List.map_cons,List.map_nil,jnOne]at h
  rw[itoa_inj h]
 |[x],y::z::l,h=>by
  rw[List.map_cons,List.map_nil,jnOne,List.map_cons,List.map_cons,jnCons]at h
  exact absurd (by rw[h];simp) (no32 x)
 |x::z::l,[],h=>by
  rw[List.map_cons,List.map_cons,jnCons]at h
  exact absurd (List.append_eq_nil_iff.1 h).1 (itoa_ne x)
 |x::z::l,[y],h=>by
  rw[List.map_cons,List.map_cons,jnCons,List.map_cons,List.map_nil,jnOne]at h
  exact absurd (by rw[←h];simp) (no32 y)
 |x::z::l,y::w::l',h=>by
  rw[List.map_cons,List.map_cons,jnCons,List.map_cons,List.map_cons,jnCons]at h
  obtain⟨e1,e2⟩:=sep_inj 32 _ _ _ _ (no32 x) (no32 y) h
  have ih:=jn_inj (z::l) (w::l') (by rw[List.map_cons,List.map_cons];exact e2)
  rw[itoa_inj e1,ih]
theorem lnX_inj {w:Str}(hw:(10:UInt8)∉w){l l':List Int}{R R':Str}(h:lnX w l++R=lnX w l'++R'):l=l'∧R=R':=by
 have e:∀(l:List Int) (R:Str),lnX w l++R=((w++[32])++Lib.join (l.map Lib.itoa) [32])++10::R:=fun l R=>by unfold lnX;simp
 have hn:∀l:List Int,(10:UInt8)∉(w++[32])++Lib.join (l.map Lib.itoa) [32]:=fun l hm=>by
  rcases List.mem_append.1 hm with hm|hm
  ·rcases List.mem_append.1 hm with hm|hm
   ·exact hw hm
   ·revert hm;decide
  ·exact jn10 l hm
 rw[e,e]at h
 obtain⟨e1,e2⟩:=sep_inj 10 _ _ _ _ (hn l) (hn l') h
 exact⟨jn_inj _ _ (List.append_cancel_left e1),e2⟩
theorem fold_ln (zs:List (List Int)):∀A:Str,zs.foldl (fun s z=>s++lnX [122] z) A=A++(zs.map (lnX [122])).flatten:=by
 induction zs with
 |nil=>intro A;simp
 |cons z zs ih=>intro A;rw[List.foldl_cons,ih];simp
theorem zs_inj:∀zs zs':List (List Int),(zs.map (lnX [122])).flatten=(zs'.map (lnX [122])).flatten→zs=zs'
 |[],[],_=>rfl
 |[],z::zs,h=>by
  have:=congrArg List.length h
  simp[lnX]at this
 |z::zs,[],h=>by
  have:=congrArg List.length h
  simp[lnX]at this
 |z::zs,y::ys,h=>by
  rw[List.map_cons,List.map_cons,List.flatten_cons,List.flatten_cons]at h
  obtain⟨e1,e2⟩:=lnX_inj (by decide) h
  rw[e1,zs_inj zs ys e2]
theorem mtX_inj {xs ys xs' ys':List Int}{zs zs':List (List Int)}(h:mtX xs ys zs=mtX xs' ys' zs'):xs=xs'∧ys=ys'∧zs=zs':=by
 unfold mtX at h
 rw[fold_ln,fold_ln,List.append_assoc,List.append_assoc]at h
 obtain⟨e1,h⟩:=lnX_inj (by decide) h
 obtain⟨e2,h⟩:=lnX_inj (by decide) h
 exact⟨e1,e2,zs_inj _ _ h⟩
theorem eqlB_iff {α:Type}{p:α→α→Bool}(hp:∀a b,p a b=true↔a=b)(la lb:List α):eqlB p la lb=true↔la=lb:=by
 constructor
 ·unfold eqlB
  rw[Bool.and_eq_true,decide_eq_true_eq,List.all_eq_true]
  rintro⟨hl,h⟩
  revert lb
  induction la with
  |nil=>intro lb hl _;cases lb with
   |nil=>rfl
   |cons y l=>cases hl
  |cons x l ih=>
   intro lb hl h
   cases lb with
   |nil=>cases hl
   |cons y l'=>
    have h1:=(hp x y).1 (h (x,y) (List.mem_cons_self ..))
    rw[h1,ih l' (by simpa using hl) (fun q hq=>h q (List.mem_cons_of_mem _ hq))]
 ·rintro rfl
  exact eqlB_self (fun a=>(hp a a).2 rfl) la
theorem bEq_iff (x y:Bl):bEq x y=true↔x=y:=by
 constructor
 ·intro h
  unfold bEq at h
  simp only[Bool.and_eq_true,decide_eq_true_eq,beq_iff_eq]at h
  obtain⟨k1,k2,k3,k4,k5,k6⟩:=h
  obtain⟨x0,x1,x2,x3,x4,x5⟩:=x
  obtain⟨y0,y1,y2,y3,y4,y5⟩:=y
  simp only at k1 k2 k3 k4 k5 k6
  subst k1;subst k2;subst k3;subst k4;subst k5;subst k6
  rfl
 ·rintro rfl
  unfold bEq;simp
theorem cEq_iff (x y:Cu):cEq x y=true↔x=y:=by
 constructor
 ·intro h
  unfold cEq at h
  simp only[Bool.and_eq_true,decide_eq_true_eq,beq_iff_eq]at h
  obtain⟨k1,k2,k3⟩:=h
  obtain⟨x0,x1,x2⟩:=x
  obtain⟨y0,y1,y2⟩:=y
  simp only at k1 k2 k3
  subst k1;subst k2;subst k3
  rfl
 ·rintro rfl
  unfold cEq;simp
theorem mEq_iff (x y:Mp):mEq x y=true↔x=y:=by
 constructor
 ·intro h
  unfold mEq at h
  simp only[Bool.and_eq_true,beq_iff_eq]at h
  obtain⟨k1,k2⟩:=h
  obtain⟨x0,x1,x2,x3⟩:=x
  obtain⟨y0,y1,y2,y3⟩:=y
  simp only at k1 k2
  obtain⟨e1,e2,e3⟩:=mtX_inj k2
  subst k1;subst e1;subst e2;subst e3
  rfl
 ·rintro rfl
  unfold mEq;simp
theorem dgEq_iff (x y:Dg):dgEq x y=true↔dgOk x=true∧dgOk y=true∧x=y:=by
 constructor
 ·intro h
  unfold dgEq at h
  simp only[Bool.and_eq_true,decide_eq_true_eq,beq_iff_eq,decE_iff,eqlB_iff bEq_iff,eqlB_iff cEq_iff,eqlB_iff mEq_iff]at h
  obtain⟨o1,o2,k1,k2,k3,k4,k5,k6,k7⟩:=h
  refine⟨o1,o2,?_⟩
  obtain⟨x0,x1,x2,x3,x4,x5,x6⟩:=x
  obtain⟨y0,y1,y2,y3,y4,y5,y6⟩:=y
  simp only at k1 k2 k3 k4 k5 k6 k7
  subst k1;subst k2;subst k3;subst k4;subst k5;subst k6;subst k7
  rfl
 ·rintro⟨o1,_,rfl⟩
  exact dgEq_self o1
set_option maxHeartbeats 4000000
set_option maxHeartbeats 4000000
end Go.Proofs.YtlnpgbnhcondjaaGreatDoor.Fx
namespace Go.Proofs.YtlnpgbnhcondjaaGreatDoor.Fx
set_option linter.unusedVariables false
set_option linter.unusedSimpArgs false
open Vg Tf
set_option maxRecDepth 100000
set_option maxHeartbeats 4000000
end Go.Proofs.YtlnpgbnhcondjaaGreatDoor.Fx
namespace Go.Proofs.YtlnpgbnhcondjaaGreatDoor.Fx
set_option linter.unusedVariables false
set_option linter.unusedSimpArgs false
section
variable {T:List Tk}
end
open Vg Tf
set_option maxRecDepth 100000
set_option maxHeartbeats 4000000
@[reducible,go_sem] def rnC (d:DgL)(i q:Nat):List Cv:=[.v (sv d.nm),.v (vsl d.ty d.tys.length),.v (vsl d.cu d.cus.length),.v (vsl d.ma d.mas.length),.sl 14 0 i 4,.sl 15 0 q 6,.v (vsl d.ou d.ous.length)]
@[reducible,go_sem] def rnZ:List Cv:=[.v (sv []),.v (.slice none 0 0),.v (.slice none 0 0),.v (.slice none 0 0),.v (.slice none 0 0),.v (.slice none 0 0),.v (.slice none 0 0)]
open Vg Tf
set_option maxRecDepth 100000
set_option maxHeartbeats 4000000
theorem texts_ {H:Hp}(hE:ErR H)(hW:PwR H)(a:DgL)(oa:a.ok H)(sa:a.sm)(b:DgL)(ob:b.ok H)(sb:b.sm):CallH H Tryz.prog 10 [rowV a.r,rowV b.r] (Bo true):=by
 have f1:=few_ a oa sa
 have f2:=few_ b ob sb
 have t1:=dtext_ hW a oa sa
 have t2:=rtext_ a oa sa
 have v1:=dvalid (H:=H) a oa sa
 have v2:=rdvalid (H:=H) a oa sa
 have v3:=rdvalid (H:=H) b ob sb
 have q1:=eqD_ hW a b oa ob sa sb
 have q2:dgOk a.c=true→CallH H Tryz.prog 22 [rowV a.r,rowV b.r] (Bo (@decide (a.c=b.c) (Classical.propDecidable _))):=fun hk=>gsame_ a b oa ob sa (fun m hm=>by
  have h:=maOk_l ((dgO hk).m m.c (List.mem_map.2 ⟨m,hm,rfl⟩)).2
  obtain⟨⟨h1,_⟩,⟨h2,_⟩,h3,_⟩:=h
  have h3:(m.zs.map (·.2)).length≤32:=h3
  rw[List.length_map]at h3
  have h1:m.xs.length≤32:=h1
  have h2:m.ys.length≤32:=h2
  exact⟨by omega,by omega,by omega⟩) _ (@decide_eq_true_iff _ (Classical.propDecidable _))
 have hfin:(dgEq a.c b.c==(bif bif dgOk a.c then dgOk b.c else false then @decide (a.c=b.c) (Classical.propDecidable _)else false))=true:=by
  rw[beq_iff_eq,Bool.eq_iff_iff,dgEq_iff]
  cases dgOk a.c<;>cases dgOk b.c<;>simp
 generalize @decide (a.c=b.c) (Classical.propDecidable _)=E0 at*
 generalize dgEq a.c b.c=E1 at*
 generalize hva:dgOk a.c=A1 at*
 generalize dgOk b.c=A2 at*
 generalize fewB a=B1 at*
 generalize fewB b=B2 at*
 generalize (txQ a.c).1=X at*
 generalize (txQ a.c).2=Y at*
 refine CallH.mkS Tryz.func10 rfl en10 (by simp[Tryz.ntmps10]) (ClA.of rfl) fun C hR hP hH hL=>?_
 refine Sm.go 100 ?_
 refine vv ?_
 refine CallQ.h 110 (awake_ hE) hH rfl ?_
 refine vv ?_
 refine CallQ.h 120 f1 hH rfl ?_
 refine vv ?_
 refine CallQ.hg 130 (fun _=>f2) hH (fun h=>by rw[h];rfl) ?_
 refine vv ?_
 refine mtch (fun hc=>?_) (fun hc=>?_)
 ·exact RetQ.bool (hR C hL) rfl ⟨rfl,trivial⟩ rfl
 refine CallQ.h 140 t1 hH rfl ?_
 refine vv ?_
 refine CallQ.h 150 t2 hH rfl ?_
 simp(maxSteps:=2000000) only[go_sem,beq_self_eq_true]
 refine Sm.dg 160 28 mix ?_
 simp(maxSteps:=2000000) only[go_sem,beq_self_eq_true]
 cases A1 with
 |false=>
  refine DCallQ.h 170 (fun _=>v1) hH (fun _=>rfl) ?_
  simp(maxSteps:=2000000) only[go_sem,beq_self_eq_true]
  refine DCallQ.h 180 (fun _=>v2) hH (fun _=>rfl) ?_
  simp(maxSteps:=2000000) only[go_sem,beq_self_eq_true]
  refine DCallQ.h 190 (fun _=>q1) hH (fun _=>rfl) ?_
  simp(maxSteps:=2000000) only[go_sem,beq_self_eq_true]
  refine DCallQ.h 200 (fun _=>v2) hH (fun _=>rfl) ?_
  simp(maxSteps:=2000000) only[go_sem,beq_self_eq_true]
  refine DCallQ.h 210 (fun _=>v3) hH (fun h=>by cases h) ?_
  simp(maxSteps:=2000000) only[go_sem,beq_self_eq_true]
  refine CallQ.hg 220 (H:=H) (xs:=[rowV a.r,rowV b.r]) (v:=Bo true) (fun h=>by cases h) hH (fun h=>by cases h) ?_
  refine vv ?_
  exact RetQ.bool (hR C hL) rfl ⟨rfl,trivial⟩ (by cases E1<;>first|rfl|exact hfin)
 |true=>
  refine DCallQ.h 170 (fun _=>v1) hH (fun _=>rfl) ?_
  simp(maxSteps:=2000000) only[go_sem,beq_self_eq_true]
  refine DCallQ.h 180 (fun _=>v2) hH (fun _=>rfl) ?_
  simp(maxSteps:=2000000) only[go_sem,beq_self_eq_true]
  refine DCallQ.h 190 (fun _=>q1) hH (fun _=>rfl) ?_
  simp(maxSteps:=2000000) only[go_sem,beq_self_eq_true]
  refine DCallQ.h 200 (fun _=>v2) hH (fun _=>rfl) ?_
  simp(maxSteps:=2000000) only[go_sem,beq_self_eq_true]
  refine DCallQ.h 210 (fun _=>v3) hH (fun _=>rfl) ?_
  simp(maxSteps:=2000000) only[go_sem,beq_self_eq_true]
  refine CallQ.hg 220 (fun _=>q2 rfl) hH (fun h=>by rw[h];rfl) ?_
  refine vv ?_
  exact RetQ.bool (hR C hL) rfl ⟨rfl,trivial⟩ hfin
end Go.Proofs.YtlnpgbnhcondjaaGreatDoor.Fx
namespace Go.Proofs.YtlnpgbnhcondjaaGreatDoor
open Go.ChangeShapes Go.WideShapes Go.ChangeAt Go.RowKit
open Vg Tf
set_option linter.unusedSimpArgs false
set_option linter.unusedVariables false
set_option maxRecDepth 100000
theorem own:ownKnob Tryz.prog.godebug=none:=by kernel_rfl
theorem laidOut:laidOutB Tryz.prog=true:=by kernel_rfl
theorem fmr:mapsRowed Tryz.pinned.checked.prog=true:=by kernel_rfl
theorem flo:laidOutB Tryz.pinned.checked.prog=true:=by kernel_rfl
theorem fsh:Tryz.pinned.checked.prog.stopsHeard=true:=by kernel_rfl
theorem fme:Tryz.pinned.checked.prog.mayEnter=true:=by kernel_rfl
end Go.Proofs.YtlnpgbnhcondjaaGreatDoor
namespace Go.Proofs.YtlnpgbnhcondjaaGreatDoor
open Go.ChangeShapes Go.WideShapes Go.ChangeAt Go.RowKit
open Vg Tf Fx
set_option linter.unusedSimpArgs false
set_option linter.unusedVariables false
set_option maxRecDepth 100000
theorem er_of {W:World}(h:laidMetH Tryz.prog [("strconv.ErrRange",Rows.laid_strconv_ErrRange)] W):ErR (hpW W):=by
 rw[MakeChecks.laidMetH_plain _ _ _ (by kernel_rfl)]at h
 obtain⟨ps,⟨g',t',cs,fuel,p,q,hg',ht',hvar,hd,_,_⟩,_⟩:=h
 have hg:Tryz.prog.globalNamed "strconv.ErrRange" =some 6:=by kernel_rfl
 obtain rfl:=Option.some.inj (hg.symm.trans hg')
 have hty:(Tryz.prog.globals[6]?).map (·.type)=some 59:=by kernel_rfl
 obtain rfl:=Option.some.inj (hty.symm.trans ht')
 obtain⟨_,u,v,hcs,_,_⟩:=Go.iface_of_trod (Tryz.underlying59) hd
 have hcs2:cs= #[.iface u v]:=by
  apply Array.toList_inj.1
  rw[hcs]
 subst hcs2
 obtain⟨el,mk,hb⟩:=GlW.of_var (cs:=[.iface u v]) hg hvar
 exact⟨.iface u v,el,mk,hb,.inr ⟨u,v,rfl⟩⟩
theorem pow_of {W:World}(h:laidMetH Tryz.prog [("internal/strconv.uint64pow10",Rows.laid_internal_strconv_uint64pow10)] W):PwR (hpW W):=by
 rw[MakeChecks.laidMetH_plain _ _ _ (by kernel_rfl)]at h
 have hg:Tryz.prog.globalNamed "internal/strconv.uint64pow10" =some 7:=by kernel_rfl
 have ht:Lib.TabIs Tryz.prog W "internal/strconv.uint64pow10" .u64 Lib.pow10Tab:=Lib.tabIs_of_head (rest:=[]) hg (show(Tryz.prog.globals[7]?).map (·.type)=some 315 by kernel_rfl) Tryz.underlying315 Tryz.underlying12 (by kernel_rfl) (by kernel_rfl) h
 exact GlW.of_var hg ht
end Go.Proofs.YtlnpgbnhcondjaaGreatDoor
namespace Go.Proofs.YtlnpgbnhcondjaaGreatDoor.Fx
open Go.ChangeShapes Go.WideShapes Go.ChangeAt Go.RowKit
open Vg Tf
set_option linter.unusedSimpArgs false
set_option linter.unusedVariables false
set_option maxRecDepth 100000
section
variable {H:Type} {enc:TypeId×Value→H} {w:World} {base:Nat} {spare:Nat→Bool} {held:Bool}
theorem lc_cons {k:Lc}{ks:List Lc}{r:List Value}(h:cellsLc enc Tryz.prog w base spare held (k::ks) r):∃v vs,r=v::vs∧cellLc enc Tryz.prog w base spare held k v∧cellsLc enc Tryz.prog w base spare held ks vs:=by
 cases r with
 |nil=>exact h.elim
 |cons v vs=>exact⟨v,vs,rfl,h.1,h.2⟩
theorem lc_nil {r:List Value}(h:cellsLc enc Tryz.prog w base spare held [] r):r=[]:=by
 cases r with
 |nil=>rfl
 |cons v vs=>exact h.elim
theorem lc_s {v:Value}(h:cellLc enc Tryz.prog w base spare held .s v):∃s:Str,v=sv s∧s.length≤1000000000000000:=by
 obtain⟨x,rfl,hx⟩:=h
 exact⟨x.data.toList,by simp,Nat.le_trans hx (by decide)⟩
theorem rowsEx {α:Type}{f:α→List Value}{p:α→Prop}:∀{rows:List (List Value)},(∀r∈rows,∃a,r=f a∧p a)→∃l:List α,rows=l.map f∧∀a∈l,p a
 |[],_=>⟨[],rfl,by simp⟩
 |r::rows,h=>by
  obtain⟨l,rfl,hl⟩:=rowsEx (f:=f) (p:=p) (rows:=rows) (fun x hx=>h x (List.mem_cons_of_mem _ hx))
  obtain⟨a,rfl,ha⟩:=h r (by simp)
  exact⟨a::l,rfl,fun x hx=>by rcases List.mem_cons.1 hx with rfl|hx;exact ha;exact hl x hx⟩
theorem _root_.Go.Proofs.YtlnpgbnhcondjaaGreatDoor.Vg.SlH.vsl {H:Hp}{v:Value}{sz:Nat}{rows:List (List Value)}(h:SlH H v sz rows):∃s:Sv,v=vsl s rows.length:=by
 obtain⟨l,h1,_⟩:=h
 rw[h1]
 simp only[Cv.g]
 split
 ·rename_i hh
  rw[hh.2]
  unfold Loc.emp
  split
  ·exact⟨⟨none,0⟩,rfl⟩
  ·exact⟨⟨some _,_⟩,rfl⟩
 ·exact⟨⟨some _,_⟩,rfl⟩
theorem lcI:lcOf Tryz.prog 20 3=some [.i .i64]:=by kernel_rfl
theorem lcS:lcOf Tryz.prog 20 9=some [.s]:=by kernel_rfl
theorem lcZ:lcOf Tryz.prog 20 73=some [.l 73]:=by kernel_rfl
theorem lcT:lcOf Tryz.prog 20 93=some [.s,.i .i64,.b,.i .i64,.i .i64,.i .i64,.i .i64,.i .i64,.i .i64,.i .i64,.i .i64]:=by kernel_rfl
theorem lcC:lcOf Tryz.prog 20 110=some [.s,.l 73,.l 73]:=by kernel_rfl
theorem lcM:lcOf Tryz.prog 20 115=some [.s,.l 73,.l 73,.l 70]:=by kernel_rfl
theorem lcP:lcOf Tryz.prog 20 118=some [.s,.s,.i .i64,.i .i64]:=by kernel_rfl
theorem lcB:lcOf Tryz.prog 20 82=some [.s,.s,.s,.l 28,.s,.l 73]:=by kernel_rfl
theorem lcD:lcOf Tryz.prog 20 30=some [.s,.l 23,.l 24,.l 25,.l 26,.l 27,.l 28]:=by kernel_rfl
theorem byI:1≤Tryz.prog.bytesOf 3:=by decide+kernel
theorem byS:1≤Tryz.prog.bytesOf 9:=by decide+kernel
theorem byZ:1≤Tryz.prog.bytesOf 73:=by decide+kernel
theorem byT:1≤Tryz.prog.bytesOf 93:=by decide+kernel
theorem byC:1≤Tryz.prog.bytesOf 110:=by decide+kernel
theorem byM:1≤Tryz.prog.bytesOf 115:=by decide+kernel
theorem byP:1≤Tryz.prog.bytesOf 118:=by decide+kernel
theorem byB:1≤Tryz.prog.bytesOf 82:=by decide+kernel
theorem len_of {n b:Nat}(hb:1≤b)(h:n*b≤reachBytes):n≤1000000000000000:=by
 have h1:n≤n*b:=Nat.le_mul_of_pos_right n hb
 have h2:reachBytes≤1000000000000000:=by decide
 omega
theorem op_ints {v:Value}(h:cellLc enc Tryz.prog w base spare held (.l 73) v):∃(s:Sv) (l:List Int),v=vsl s l.length∧SlH (hpW w) (vsl s l.length) 1 (intsR l)∧l.length≤1000000000000000:=by
 obtain⟨rows,h1,h2,h3⟩:=open_slW Tryz.underlying73 lcI sz3 (by simp) h
 obtain⟨l,rfl,_⟩:=rowsEx (f:=fun n:Int=>[iv n]) (p:=fun _=>True) (rows:=rows) (fun r hr=>by
  obtain⟨v,vs,rfl,⟨n,rfl,_⟩,q1⟩:=lc_cons (h2 r hr)
  obtain rfl:=lc_nil q1
  exact⟨n,rfl,trivial⟩)
 obtain⟨s,rfl⟩:=h1.vsl
 have e:(l.map fun n:Int=>[iv n]).length=l.length:=List.length_map _
 rw[e]at h1 h3
 exact⟨s,l,by rw[e],h1,len_of byI h3⟩
theorem op_strs {v:Value}(h:cellLc enc Tryz.prog w base spare held (.l 28) v):∃(s:Sv) (l:List Str),v=vsl s l.length∧SlH (hpW w) (vsl s l.length) 1 (strsR l)∧l.length≤1000000000000000∧∀x∈l,x.length≤1000000000000000:=by
 obtain⟨rows,h1,h2,h3⟩:=open_slW Tryz.underlying28 lcS sz9 (by simp) h
 obtain⟨l,rfl,hl⟩:=rowsEx (f:=fun s:Str=>[sv s]) (p:=fun s=>s.length≤1000000000000000) (rows:=rows) (fun r hr=>by
  obtain⟨v,vs,rfl,hv,q2⟩:=lc_cons (h2 r hr)
  obtain rfl:=lc_nil q2
  obtain⟨s,rfl,hs⟩:=lc_s hv
  exact⟨s,rfl,hs⟩)
 obtain⟨s,rfl⟩:=h1.vsl
 have e:(l.map fun s:Str=>[sv s]).length=l.length:=List.length_map _
 rw[e]at h1 h3
 exact⟨s,l,by rw[e],h1,len_of byS h3,hl⟩
theorem op_tys {v:Value}(h:cellLc enc Tryz.prog w base spare held (.l 23) v):∃(s:Sv) (l:List Td),v=vsl s l.length∧SlH (hpW w) (vsl s l.length) 11 (l.map Td.r)∧l.length≤1000000000000000∧∀x∈l,x.nm.length≤1000000000000000:=by
 obtain⟨rows,h1,h2,h3⟩:=open_slW Tryz.underlying23 lcT sz93 (by simp) h
 obtain⟨l,rfl,hl⟩:=rowsEx (f:=Td.r) (p:=fun s=>s.nm.length≤1000000000000000) (rows:=rows) (fun r hr=>by
  obtain⟨v,vs,rfl,hv,q3⟩:=lc_cons (h2 r hr)
  obtain⟨s,rfl,hs⟩:=lc_s hv
  obtain⟨_,vs,rfl,⟨n0,rfl,_⟩,q4⟩:=lc_cons q3
  obtain⟨_,vs,rfl,⟨n1,rfl⟩,q5⟩:=lc_cons q4
  obtain⟨_,vs,rfl,⟨n2,rfl,_⟩,q6⟩:=lc_cons q5
  obtain⟨_,vs,rfl,⟨n3,rfl,_⟩,q7⟩:=lc_cons q6
  obtain⟨_,vs,rfl,⟨n4,rfl,_⟩,q8⟩:=lc_cons q7
  obtain⟨_,vs,rfl,⟨n5,rfl,_⟩,q9⟩:=lc_cons q8
  obtain⟨_,vs,rfl,⟨n6,rfl,_⟩,q10⟩:=lc_cons q9
  obtain⟨_,vs,rfl,⟨n7,rfl,_⟩,q11⟩:=lc_cons q10
  obtain⟨_,vs,rfl,⟨n8,rfl,_⟩,q12⟩:=lc_cons q11
  obtain⟨_,vs,rfl,⟨n9,rfl,_⟩,q13⟩:=lc_cons q12
  obtain rfl:=lc_nil q13
  exact⟨⟨s,⟨n0,n1,n2,n3,n4,n5,n6,n7,n8,n9⟩⟩,rfl,hs⟩)
 obtain⟨s,rfl⟩:=h1.vsl
 have e:(l.map Td.r).length=l.length:=List.length_map _
 rw[e]at h1 h3
 exact⟨s,l,by rw[e],h1,len_of byT h3,hl⟩
theorem op_cus {v:Value}(h:cellLc enc Tryz.prog w base spare held (.l 24) v):∃(s:Sv) (l:List CuL),v=vsl s l.length∧SlH (hpW w) (vsl s l.length) 3 (l.map CuL.r)∧l.length≤1000000000000000∧∀x∈l,x.ok (hpW w)∧x.c.nm.length≤1000000000000000∧x.c.xs.length≤1000000000000000∧x.c.ys.length≤1000000000000000:=by
 obtain⟨rows,h1,h2,h3⟩:=open_slW Tryz.underlying24 lcC sz110 (by simp) h
 obtain⟨l,rfl,hl⟩:=rowsEx (f:=CuL.r) (p:=fun x=>x.ok (hpW w)∧x.c.nm.length≤1000000000000000∧x.c.xs.length≤1000000000000000∧x.c.ys.length≤1000000000000000) (rows:=rows) (fun r hr=>by
  obtain⟨v,vs,rfl,hv,q14⟩:=lc_cons (h2 r hr)
  obtain⟨s,rfl,hs⟩:=lc_s hv
  obtain⟨_,vs,rfl,hx,q15⟩:=lc_cons q14
  obtain⟨sx,xs,rfl,kx,bx⟩:=op_ints hx
  obtain⟨_,vs,rfl,hy,q16⟩:=lc_cons q15
  obtain⟨sy,ys,rfl,ky,bY⟩:=op_ints hy
  obtain rfl:=lc_nil q16
  exact⟨⟨⟨s,xs,ys⟩,sx,sy⟩,rfl,⟨kx,ky⟩,hs,bx,bY⟩)
 obtain⟨s,rfl⟩:=h1.vsl
 have e:(l.map CuL.r).length=l.length:=List.length_map _
 rw[e]at h1 h3
 exact⟨s,l,by rw[e],h1,len_of byC h3,hl⟩
theorem op_zs {v:Value}(h:cellLc enc Tryz.prog w base spare held (.l 70) v):∃(s:Sv) (l:List (Sv×List Int)),v=vsl s l.length∧SlH (hpW w) (vsl s l.length) 1 (l.map fun v=>[vsl v.1 v.2.length])∧l.length≤1000000000000000∧∀x∈l,SlH (hpW w) (vsl x.1 x.2.length) 1 (intsR x.2)∧x.2.length≤1000000000000000:=by
 obtain⟨rows,h1,h2,h3⟩:=open_slW Tryz.underlying70 lcZ sz73 (by simp) h
 obtain⟨l,rfl,hl⟩:=rowsEx (f:=fun v:Sv×List Int=>[vsl v.1 v.2.length]) (p:=fun x=>SlH (hpW w) (vsl x.1 x.2.length) 1 (intsR x.2)∧x.2.length≤1000000000000000) (rows:=rows) (fun r hr=>by
  obtain⟨v,vs,rfl,hx,q17⟩:=lc_cons (h2 r hr)
  obtain⟨sx,xs,rfl,kx,bx⟩:=op_ints hx
  obtain rfl:=lc_nil q17
  exact⟨(sx,xs),rfl,kx,bx⟩)
 obtain⟨s,rfl⟩:=h1.vsl
 have e:(l.map fun v:Sv×List Int=>[vsl v.1 v.2.length]).length=l.length:=List.length_map _
 rw[e]at h1 h3
 exact⟨s,l,by rw[e],h1,len_of byZ h3,hl⟩
theorem op_mas {v:Value}(h:cellLc enc Tryz.prog w base spare held (.l 25) v):∃(s:Sv) (l:List MpL),v=vsl s l.length∧SlH (hpW w) (vsl s l.length) 4 (l.map MpL.r)∧l.length≤1000000000000000∧∀x∈l,x.ok (hpW w)∧x.nm.length≤1000000000000000∧∀v∈x.zs,v.2.length≤1000000000000000:=by
 obtain⟨rows,h1,h2,h3⟩:=open_slW Tryz.underlying25 lcM sz115 (by simp) h
 obtain⟨l,rfl,hl⟩:=rowsEx (f:=MpL.r) (p:=fun x=>x.ok (hpW w)∧x.nm.length≤1000000000000000∧∀v∈x.zs,v.2.length≤1000000000000000) (rows:=rows) (fun r hr=>by
  obtain⟨v,vs,rfl,hv,q18⟩:=lc_cons (h2 r hr)
  obtain⟨s,rfl,hs⟩:=lc_s hv
  obtain⟨_,vs,rfl,hx,q19⟩:=lc_cons q18
  obtain⟨sx,xs,rfl,kx,bx⟩:=op_ints hx
  obtain⟨_,vs,rfl,hy,q20⟩:=lc_cons q19
  obtain⟨sy,ys,rfl,ky,bY⟩:=op_ints hy
  obtain⟨_,vs,rfl,hz,q21⟩:=lc_cons q20
  obtain⟨sz,zs,rfl,kz,bz,ez⟩:=op_zs hz
  obtain rfl:=lc_nil q21
  exact⟨⟨s,xs,ys,zs,sx,sy,sz⟩,rfl,⟨kx,ky,kz,fun v hv=>(ez v hv).1⟩,hs,fun v hv=>(ez v hv).2⟩)
 obtain⟨s,rfl⟩:=h1.vsl
 have e:(l.map MpL.r).length=l.length:=List.length_map _
 rw[e]at h1 h3
 exact⟨s,l,by rw[e],h1,len_of byM h3,hl⟩
theorem op_pos {v:Value}(h:cellLc enc Tryz.prog w base spare held (.l 26) v):∃(s:Sv) (l:List Po),v=vsl s l.length∧SlH (hpW w) (vsl s l.length) 4 (l.map Po.r)∧l.length≤1000000000000000∧∀x∈l,x.nm.length≤1000000000000000∧x.ty.length≤1000000000000000:=by
 obtain⟨rows,h1,h2,h3⟩:=open_slW Tryz.underlying26 lcP sz118 (by simp) h
 obtain⟨l,rfl,hl⟩:=rowsEx (f:=Po.r) (p:=fun x=>x.nm.length≤1000000000000000∧x.ty.length≤1000000000000000) (rows:=rows) (fun r hr=>by
  obtain⟨v,vs,rfl,hv,q22⟩:=lc_cons (h2 r hr)
  obtain⟨s,rfl,hs⟩:=lc_s hv
  obtain⟨_,vs,rfl,hv,q23⟩:=lc_cons q22
  obtain⟨s2,rfl,hs2⟩:=lc_s hv
  obtain⟨_,vs,rfl,⟨n0,rfl,_⟩,q24⟩:=lc_cons q23
  obtain⟨_,vs,rfl,⟨n1,rfl,_⟩,q25⟩:=lc_cons q24
  obtain rfl:=lc_nil q25
  exact⟨⟨s,s2,n0,n1⟩,rfl,hs,hs2⟩)
 obtain⟨s,rfl⟩:=h1.vsl
 have e:(l.map Po.r).length=l.length:=List.length_map _
 rw[e]at h1 h3
 exact⟨s,l,by rw[e],h1,len_of byP h3,hl⟩
theorem op_bls {v:Value}(h:cellLc enc Tryz.prog w base spare held (.l 27) v):∃(s:Sv) (l:List BlL),v=vsl s l.length∧SlH (hpW w) (vsl s l.length) 6 (l.map BlL.r)∧l.length≤1000000000000000∧∀b∈l,b.ok (hpW w)∧b.c.nm.length≤1000000000000000∧b.c.ty.length≤1000000000000000∧b.c.tb.length≤1000000000000000∧b.c.ins.length≤1000000000000000∧b.c.ks.length≤1000000000000000∧∀s∈b.c.ins,s.length≤1000000000000000:=by
 obtain⟨rows,h1,h2,h3⟩:=open_slW Tryz.underlying27 lcB sz82 (by simp) h
 obtain⟨l,rfl,hl⟩:=rowsEx (f:=BlL.r) (p:=fun b=>b.ok (hpW w)∧b.c.nm.length≤1000000000000000∧b.c.ty.length≤1000000000000000∧b.c.tb.length≤1000000000000000∧b.c.ins.length≤1000000000000000∧b.c.ks.length≤1000000000000000∧∀s∈b.c.ins,s.length≤1000000000000000) (rows:=rows) (fun r hr=>by
  obtain⟨v,vs,rfl,hv,q26⟩:=lc_cons (h2 r hr)
  obtain⟨s,rfl,hs⟩:=lc_s hv
  obtain⟨_,vs,rfl,hv,q27⟩:=lc_cons q26
  obtain⟨s2,rfl,_⟩:=lc_s hv
  obtain⟨_,vs,rfl,hv,q28⟩:=lc_cons q27
  obtain⟨s3,rfl,hs3⟩:=lc_s hv
  obtain⟨_,vs,rfl,hi,q29⟩:=lc_cons q28
  obtain⟨si,is,rfl,ki,bi,ei⟩:=op_strs hi
  obtain⟨_,vs,rfl,hv,q30⟩:=lc_cons q29
  obtain⟨s4,rfl,hs4⟩:=lc_s hv
  obtain⟨_,vs,rfl,hy,q31⟩:=lc_cons q30
  obtain⟨sy,ys,rfl,ky,bY⟩:=op_ints hy
  obtain rfl:=lc_nil q31
  exact⟨⟨⟨s,s2,s3,is,s4,ys⟩,si,sy⟩,rfl,⟨ki,ky⟩,hs,hs3,hs4,bi,bY,ei⟩)
 obtain⟨s,rfl⟩:=h1.vsl
 have e:(l.map BlL.r).length=l.length:=List.length_map _
 rw[e]at h1 h3
 exact⟨s,l,by rw[e],h1,len_of byB h3,hl⟩
theorem open_dg {v:Value}{d:DataW H}{p:List MemPlace}{r:Reach}{n0:Nat}(hv:Value.okWide Tryz.prog w r n0 30 v)(h:DataW.Trod enc Tryz.prog w base spare held 30 v d p)(hw:∀n∈d.weights Tryz.prog 30,n≤reachBytes):
  ∃D:DgL,v=(rowV D.r).g b0∧D.ok (hpW w)∧D.sm:=by
 obtain⟨cs,rfl,_,_⟩:∃cs,v= .agg cs∧cs.size=Tryz.prog.cellsOf 30∧Row.okWide Tryz.prog w r n0 30 cs:=by
  simpa only[Value.okWide,Tryz.underlying30]using hv
 obtain⟨fuel,hf⟩:=h
 have o:=open_lc 20 _ _ lcD sz30 fuel _ _ hf hw
 have hcs:(Value.agg cs).cells.toList=cs.toList:=rfl
 rw[hcs]at o
 obtain⟨v,vs,e1,hv,q32⟩:=lc_cons o
 obtain⟨s,rfl,hs⟩:=lc_s hv
 obtain⟨_,vs,rfl,h1,q33⟩:=lc_cons q32
 obtain⟨s1,l1,rfl,k1,b1,c1⟩:=op_tys h1
 obtain⟨_,vs,rfl,h2,q34⟩:=lc_cons q33
 obtain⟨s2,l2,rfl,k2,b2,c2⟩:=op_cus h2
 obtain⟨_,vs,rfl,h3,q35⟩:=lc_cons q34
 obtain⟨s3,l3,rfl,k3,b3,c3⟩:=op_mas h3
 obtain⟨_,vs,rfl,h4,q36⟩:=lc_cons q35
 obtain⟨s4,l4,rfl,k4,b4,c4⟩:=op_pos h4
 obtain⟨_,vs,rfl,h5,q37⟩:=lc_cons q36
 obtain⟨s5,l5,rfl,k5,b5,c5⟩:=op_bls h5
 obtain⟨_,vs,rfl,h6,q38⟩:=lc_cons q37
 obtain⟨s6,l6,rfl,k6,b6,c6⟩:=op_strs h6
 obtain rfl:=lc_nil q38
 refine⟨⟨s,l1,l2,l3,l4,l5,l6,s1,s2,s3,s4,s5,s6⟩,?_,⟨k1,k2,k3,k4,k5,k6,fun c hc=>(c2 c hc).1,fun c hc=>(c3 c hc).1,fun c hc=>(c5 c hc).1⟩,⟨hs,⟨b1,c1⟩,⟨b2,fun c hc=>(c2 c hc).2⟩,⟨b3,fun c hc=>(c3 c hc).2⟩,⟨b4,c4⟩,⟨b5,fun c hc=>(c5 c hc).2⟩,⟨b6,c6⟩⟩⟩
 rw[←Array.toArray_toList (xs:=cs),e1]
 rfl
end
end Go.Proofs.YtlnpgbnhcondjaaGreatDoor.Fx
namespace Go.Proofs.YtlnpgbnhcondjaaGreatDoor
open Go.ChangeShapes Go.WideShapes Go.ChangeAt Go.RowKit
open Vg Tf
set_option linter.unusedSimpArgs false
set_option linter.unusedVariables false
set_option maxRecDepth 100000
theorem fip:Tryz.pinned.checked.prog.inPlace 10=Rows.diagramTextsRow.inPlace:=by kernel_rfl
theorem fuf:Tryz.pinned.checked.prog.unfollowed 10=Rows.diagramTextsRow.unfollowed:=by kernel_rfl
theorem frc:Tryz.pinned.checked.prog.recurses 10=Rows.diagramTextsRow.recurses:=by kernel_rfl
theorem fvn:Tryz.pinned.checked.prog.varsNamed 10=Rows.diagramTextsRow.named:=by kernel_rfl
theorem closedF:joinedFacts Tryz.pinned.checked.prog 10 Tryz.f10 Rows.diagramTextsSpec Rows.diagramTextsRow=true:=by
 unfold joinedFacts
 rw[fip,fuf,frc,fvn,fmr,flo,fsh,fme]
 kernel_rfl
theorem ffn:Tryz.pinned.checked.prog.funcNamed Rows.diagramTextsRow.func=some 10:=by kernel_rfl
theorem flk:true=Tryz.pinned.checked.prog.looks []:=by kernel_rfl
theorem fgo:false=Rows.diagramTextsRow.goesBy Tryz.pinned.checked.prog:=by kernel_rfl
theorem fwf:Rows.diagramTextsRow.wfByText (OpenSpec.ofChange Rows.diagramTextsSpec)=true:=by kernel_rfl
theorem fmi:Tryz.pinned.checked.prog.mainIs=some (true,"0b6ddabf7654c0ddcdcd670975a67c572cc1ac03156ddf7d14c8e7ba494423dd".toList):=by kernel_rfl
end Go.Proofs.YtlnpgbnhcondjaaGreatDoor
