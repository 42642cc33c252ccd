/-  -/
import Derived.Test.YtkciabfilokfiaaGreatPS
import Derived.Test.YtkciabfilokfiaaGreatQF
namespace Go.Proofs.YtkciabfilokfiaaGreat.Fx
open Vg Tf
set_option linter.unusedSimpArgs false
set_option linter.unusedVariables false
set_option maxRecDepth 100000
set_option maxHeartbeats 4000000
def unT (t:Ft):Un:=⟨t.m,t.kg,t.s,t.a,t.k⟩
def uqU (a b:Un):Bool:=(a.m==b.m)&&((a.kg==b.kg)&&((a.s==b.s)&&((a.a==b.a)&&(a.k==b.k))))
theorem u1_ {H:Hp}(u t:Un)(pv:Value)(hp:PtH H pv (unR t)):CallH H Tryz.prog 204 [rowV (unR u),.c (.v pv)] (Bo (!uqU u t)):=by
 refine CallH.mkS Tryz.func204 rfl en204 (by simp[Tryz.ntmps204]) (ClA.of rfl) fun C hR hP hH hL=>?_
 refine Sm.bringP 1 41 1 (hp.mono hH) rfl rfl (Sm.go 100 ?_)
 refine vv ?_
 exact RetQ.bool (hR C hL) rfl scc rfl
theorem u2_ {H:Hp}(u t:Un)(pv:Value)(hp:PtH H pv (unR t)):CallH H Tryz.prog 207 [rowV (unR u),.c (.v pv)] (Bo (!uqU u t)):=by
 refine CallH.mkS Tryz.func207 rfl en207 (by simp[Tryz.ntmps207]) (ClA.of rfl) fun C hR hP hH hL=>?_
 refine Sm.bringP 1 41 1 (hp.mono hH) rfl rfl (Sm.go 100 ?_)
 refine vv ?_
 exact RetQ.bool (hR C hL) rfl scc rfl
def switS:Str:=[115,119,105,116,99,104]
def addS:Str:=[97,100,100]
def subS:Str:=[115,117,98]
def negS:Str:=[110,101,103]
def cnvS:Str:=[99,111,110,118,101,114,116]
def minS:Str:=[109,105,110]
def maxS:Str:=[109,97,120]
def mulS:Str:=[109,117,108]
def divS:Str:=[100,105,118]
def lesS:Str:=[108,101,115,115]
def equS:Str:=[101,113,117,97,108]
def andS:Str:=[97,110,100]
def orS:Str:=[111,114]
def notS:Str:=[110,111,116]
def uniB (kd:Str)(t:Un)(us:List Un):Bool:=
 if [addS,subS,negS,cnvS,minS,maxS,limS,delS,lagS].contains kd=true then us.all (fun u=>uqU u t)
 else if (kd==switS)=true then uqU (us.getD 0 u0) u0&&(uqU (us.getD 1 u0) t&&uqU (us.getD 2 u0) t)
 else if (kd==mulS)=true then(cbE (us.getD 0 u0) (us.getD 1 u0) 1==0)&&uqU (cbV (us.getD 0 u0) (us.getD 1 u0) 1) t
 else if (kd==divS)=true then(cbE (us.getD 0 u0) (us.getD 1 u0) (-1)==0)&&uqU (cbV (us.getD 0 u0) (us.getD 1 u0) (-1)) t
 else if (kd==lesS||kd==equS)=true then uqU (us.getD 0 u0) (us.getD 1 u0)&&uqU t u0
 else if (kd==andS||(kd==orS||kd==notS))=true then uqU t u0&&us.all (fun u=>uqU u u0)
 else if (kd==hysS)=true then uqU t u0 else true
theorem kind_mem {s:Str}{q:Nat×Nat×Nat}(h:kindQ s=some q):(s,q)∈kindT:=by
 unfold kindQ at h
 cases hf:kindT.find? (fun r=>r.1==s)with
 |none=>rw[hf]at h;cases h
 |some r=>
  rw[hf]at h
  simp only[Option.map_some,Option.some.injEq]at h
  have h1:=List.find?_some hf
  have h2:=List.mem_of_find?_eq_some hf
  have:r.1=s:=by simpa using h1
  subst this
  rw[←h];exact h2
def usOf (d:Dg)(b:Bl):List Un:=b.ins.map fun s=>unT (tyAt d (sgN (sigs d) s))
@[go_sem ↓] theorem plS_1_5:plS 1 5=[(0,5)]:=rfl
theorem unit_take (l:List Un)(i:Nat)(h:i<l.length):((rowsC (l.map unR)).drop (i*5)).take 5=(unR l[i]).map Cv.v:=rows_take (r:=unR) (k:=5) (fun _=>rfl) l i h
theorem _root_.Go.Proofs.YtkciabfilokfiaaGreat.Vg.Known.vslx {H:Hp}{β:Vl}{n:Nat}{b:Bk}(h:Known H β n b){sz:Nat}{rows:List (List Value)}(hr:∀r∈rows,r.length=sz)(hc:b.cells=rowsC rows):∃s:Sv,gval β (.sl n 0 rows.length sz)=vsl s rows.length∧SlH H (vsl s rows.length) sz rows:=by
 have h1:=h.sl hr hc
 obtain⟨s,hs⟩:∃s:Sv,gval β (.sl n 0 rows.length sz)=vsl s rows.length:=by
  unfold gval
  simp only[Cv.g]
  split
  ·rename_i hh;rw[hh.2];unfold Loc.emp;split<;>first|exact⟨⟨none,0⟩,rfl⟩|exact⟨⟨some _,_⟩,rfl⟩
  ·exact⟨⟨_,_⟩,rfl⟩
 exact⟨s,hs,by rw[←hs];exact h1⟩
theorem units_ {H:Hp}{cp:Value}{d:DgL}{bT bC' bM bS:Nat}(k:Ck H cp d bT bC' bM bS)(b:BlL)(hb:b.ok H)(hok:blOk b.c=true)(hne:0<d.bls.length)(hin:∀s∈b.c.ins,sgB (sigs d.c) s=true):
  CallH H Tryz.prog 168 [.c (.v cp),rowV b.r] (Bo (uniB b.c.kd (unT (tyN d.tys b.c.ty)) (usOf d.c b.c))):=by
 have hn1:=k.n1
 have hn2:=k.n2
 have hil:b.c.ins.length≤3:=by
  have h1:=hok
  unfold blOk at h1
  cases hq:kindQ b.c.kd with
  |none=>rw[hq]at h1;cases h1
  |some q=>
   obtain⟨a,n,t⟩:=q
   rw[hq]at h1
   simp only[Bool.and_eq_true,decide_eq_true_eq]at h1
   have hm:=kind_mem hq
   have:∀r∈kindT,r.2.1≤3:=by decide
   have:=this _ hm
   simp only at this
   omega
 obtain⟨b0,o0,rfl,c0,el0,mk0,hc0,hcc⟩:=PtH.at k.c.p
 refine CallH.mkS Tryz.func168 rfl en168 (by simp[Tryz.ntmps168]) (ClA.of rfl) fun C hR hP hH hL=>?_
 have hpt:=k.c.p.mono hH
 refine Sm.bringB (hb.mono hH) 1 ⟨rfl,rfl⟩ rfl (Sm.go 100 ?_)
 refine vv ?_
 refine Sm.dg 110 9 mix ?_
 refine vv ?_
 refine DOpQ.own 120 (Stp.nilV rfl rfl) ?_
 refine vv ?_
 refine DOpQ.own 120 (Stp.fldV rfl rfl rfl) ?_
 refine vv ?_
 refine DOpQ.ownC 120 (fun _=>StpC.ldH (hH _ _ hc0) (hcc 7 _ rfl) rfl rfl rfl) ?_
 refine vv ?_
 refine DOpQ.ownC 120 (fun _=>lkT1 (k.c.t.mono hH) rfl rfl rfl) ?_
 refine vv ?_
 have htyn:=fun s hs=>typeOf_ k (sgN (sigs d.c) s) (by
  have h1:=hin s hs
  unfold sgB at h1
  obtain⟨i,hi⟩:=Option.isSome_iff_exists.1 h1
  have:=idxS_lt s _ 0 i hi
  have e:sgN (sigs d.c) s=i:=by unfold sgN;rw[hi];rfl
  rw[e,←sigs_len d];omega)
 generalize htu:unT (tyN d.tys b.c.ty)=tu at*
 have htu1:[Cv.v (.int .i64 (tyN d.tys b.c.ty).m),Cv.v (.int .i64 (tyN d.tys b.c.ty).kg),Cv.v (.int .i64 (tyN d.tys b.c.ty).s),Cv.v (.int .i64 (tyN d.tys b.c.ty).a),Cv.v (.int .i64 (tyN d.tys b.c.ty).k)]=(unR tu).map Cv.v:=by rw[←htu];rfl
 rw[htu1]
 refine Sm.nils 140 5 41 [6] [] rfl ?_
 refine vv ?_
 have hus:usOf d.c b.c=b.c.ins.map (fun s=>unT (tyAt d.c (sgN (sigs d.c) s))):=rfl
 generalize hUF:(fun s=>unT (tyAt d.c (sgN (sigs d.c) s)))=UF at*
 rw[hus]at hR
 refine Sm.loopM (M0:=[]) (α:={i:Nat//i≤b.c.ins.length}) hP (fun i=>[(0,true,.c (.v (.pointer (some ⟨b0,o0,none⟩)))),(3,true,.c (.p 3 0)),(5,true,.c (.p 5 0)),(6,true,.c (.sl 6 0 i.val 5)),(23,true,.c (.sl 11 0 b.c.ins.length 1)),(24,true,I b.c.ins.length),(25,true,I i.val)])
  (fun i=>[(3,⟨false,blC b,53⟩),(5,⟨false,(unR tu).map .v,41⟩),(6,⟨false,rowsC (((b.c.ins.take i.val).map UF).map unR),41⟩),(11,⟨true,b.c.ins.map sC,9⟩),(12,⟨true,b.c.ks.map iC,3⟩)]) (fun i=>b.c.ins.length-i.val) ⟨0,by omega⟩ (fun _=>ClM.of (by simp only[List.all_cons,inMV (rowsC_isV _),inMV (v_v _),inMV (v_sC _),inMV (v_iC _)];rfl)) (fun _=>ClE.of rfl) [(3,100),(5,120),(6,140),(11,11),(12,12)] ?_ ?_
 ·exact⟨rfl,trivial,⟨rfl,rfl,rfl,rfl,rfl,rfl,rfl,trivial⟩,⟨.inr ⟨_,rfl,.inl rfl⟩,.inr ⟨_,rfl,.inl (renV (v_v _))⟩,.inr ⟨_,rfl,.inl (renV (rowsC_isV _))⟩,.inr ⟨_,rfl,.inl (renV (v_sC _))⟩,.inr ⟨_,rfl,.inl (renV (v_iC _))⟩,trivial⟩⟩
 ·rintro⟨i,hi⟩ J hj
  simp only at hj hi⊢
  refine Sm.go 150 ?_
  refine vv ?_
  refine mtch (fun hc=>?_) (fun hc=>?_)
  ·have hc:=lt_of_dec hc
   simp(maxSteps:=2000000) only[go_sem,get_sC hc]
   refine⟨⟨by omega,by omega⟩,?_⟩
   have hmem:b.c.ins[i]∈b.c.ins:=List.getElem_mem hc
   have htk:(b.c.ins.take (i+1)).map UF=(b.c.ins.take i).map UF++[UF b.c.ins[i]]:=by rw[List.take_succ_eq_append_getElem hc,List.map_append];rfl
   have ht:=htyn _ hmem
   have huf:UF b.c.ins[i]=unT (tyAt d.c (sgN (sigs d.c) b.c.ins[i])):=by rw[←hUF]
   have hlen:(rowsC (((b.c.ins.take i).map UF).map unR)).length=i*5:=by
    rw[rows_len (r:=unR) (k:=5) (fun _=>rfl)];simp;omega
   generalize b.c.ins[i]=s at*
   refine Sm.bringP 1 147 31 hpt rfl rfl (Sm.go 150 ?_)
   refine vv ?_
   refine Sm.opC 150 rfl rfl (.inl rfl) (fun _=>lkS1 (k.c.s.mono hH) rfl rfl rfl) ?_
   refine vv ?_
   refine CallQ.h 160 ht hH rfl ?_
   generalize tyAt d.c (sgN (sigs d.c) s)=tt at*
   refine vv ?_
   have hap:List.take (i*5) (rowsC (((b.c.ins.take i).map UF).map unR))++[Cv.v (.int .i64 tt.m),Cv.v (.int .i64 tt.kg),Cv.v (.int .i64 tt.s),Cv.v (.int .i64 tt.a),Cv.v (.int .i64 tt.k)]=rowsC (((b.c.ins.take (i+1)).map UF).map unR):=by
    rw[List.take_of_length_le (by omega),htk,huf]
    simp only[rowsC,List.map_append,List.flatten_append,List.map_cons,List.map_nil,List.flatten_cons,List.flatten_nil,List.append_nil]
    rfl
   simp only[hap,hlen,wS (show i≤1000000000000000000 by omega)]
   refine⟨⟨by omega,by omega,by omega⟩,?_⟩
   exact hj _ _ ⟨i+1,hc⟩ [(3,3),(5,5),(6,161),(11,11),(12,12)] (by simp only;omega) ⟨rfl,trivial,⟨rfl,rfl,rfl,rfl,rfl,rfl,rfl,trivial⟩,⟨.inr ⟨_,rfl,.inl rfl⟩,.inr ⟨_,rfl,.inl (renV (v_v _))⟩,.inr ⟨_,rfl,.inl (renV (rowsC_isV _))⟩,.inr ⟨_,rfl,.inl (renV (v_sC _))⟩,.inr ⟨_,rfl,.inl (renV (v_iC _))⟩,trivial⟩⟩
  ·have hc:=eq_of_dec hi hc
   subst hc
   rw[List.take_length]
   have hq:∃q,kindQ b.c.kd=some q:=by
    have h1:=hok
    unfold blOk at h1
    cases hq:kindQ b.c.kd with
    |none=>rw[hq]at h1;cases h1
    |some q=>exact⟨q,rfl⟩
   obtain⟨q,hq⟩:=hq
   have hm:=kind_mem hq
   have hlen:=fun kd (hk:(b.c.kd==kd)=true) a n t (hq:kindQ kd=some (a,n,t))=>(blOk_ks hok hk hq).1
   have hul:(b.c.ins.map UF).length=b.c.ins.length:=List.length_map _
   have hz:=rows_len (r:=unR) (k:=5) (fun _=>rfl) (b.c.ins.map UF)
   rw[hul]at hz
   have hgt:∀i,i<b.c.ins.length→((rowsC ((b.c.ins.map UF).map unR)).drop (i*5)).take 5=(unR ((b.c.ins.map UF).getD i u0)).map Cv.v:=fun i hi=>by
    rw[unit_take (b.c.ins.map UF) i (by omega),List.getD_eq_getElem?_getD,List.getElem?_eq_getElem (by omega)];rfl
   have ht0:0<b.c.ins.length→(rowsC ((b.c.ins.map UF).map unR)).take 5=(unR ((b.c.ins.map UF).getD 0 u0)).map Cv.v:=fun h=>hgt 0 h
   have ht1:1<b.c.ins.length→((rowsC ((b.c.ins.map UF).map unR)).drop 5).take 5=(unR ((b.c.ins.map UF).getD 1 u0)).map Cv.v:=fun h=>hgt 1 h
   have ht2:2<b.c.ins.length→((rowsC ((b.c.ins.map UF).map unR)).drop 10).take 5=(unR ((b.c.ins.map UF).getD 2 u0)).map Cv.v:=fun h=>hgt 2 h
   clear hgt
   generalize hULe:b.c.ins.map UF=UL at*
   simp only[kindT,List.mem_cons,List.not_mem_nil,or_false,Prod.mk.injEq]at hm
   rcases hm with⟨hkd,rfl⟩|⟨hkd,rfl⟩|⟨hkd,rfl⟩|⟨hkd,rfl⟩|⟨hkd,rfl⟩|⟨hkd,rfl⟩|⟨hkd,rfl⟩|⟨hkd,rfl⟩|⟨hkd,rfl⟩|⟨hkd,rfl⟩|⟨hkd,rfl⟩|⟨hkd,rfl⟩|⟨hkd,rfl⟩|⟨hkd,rfl⟩|⟨hkd,rfl⟩|⟨hkd,rfl⟩|⟨hkd,rfl⟩|⟨hkd,rfl⟩|⟨hkd,rfl⟩|⟨hkd,rfl⟩|⟨hkd,rfl⟩
   ·-- const
    obtain⟨e0,e1,e2,e3,e4,e5,e6,e7,e8,e9,e10,e11,e12,e13,e14,e15,e16,e17⟩:(b.c.kd==[97,100,100])=false∧(b.c.kd==[115,117,98])=false∧(b.c.kd==[110,101,103])=false∧(b.c.kd==[99,111,110,118,101,114,116])=false∧(b.c.kd==[109,105,110])=false∧(b.c.kd==[109,97,120])=false∧(b.c.kd==[108,105,109,105,116])=false∧(b.c.kd==[100,101,108,97,121])=false∧(b.c.kd==[108,97,103])=false∧(b.c.kd==[115,119,105,116,99,104])=false∧(b.c.kd==[109,117,108])=false∧(b.c.kd==[100,105,118])=false∧(b.c.kd==[108,101,115,115])=false∧(b.c.kd==[101,113,117,97,108])=false∧(b.c.kd==[97,110,100])=false∧(b.c.kd==[111,114])=false∧(b.c.kd==[110,111,116])=false∧(b.c.kd==[104,121,115,116,101,114,101,115,105,115])=false:=by rw[hkd];decide
    rw[hkd]at hR
    refine CallQ.pure 170 one_ rfl ?_
    simp(maxSteps:=2000000) only[go_sem,e0,e1,e2,e3,e4,e5,e6,e7,e8,e9,e10,e11,e12,e13,e14,e15,e16,e17]
    exact RetQ.bool (hR C hL) rfl scc rfl
   ·-- add
    obtain⟨e0,e1,e2,e3,e4,e5,e6,e7,e8,e9,e10,e11,e12,e13,e14,e15,e16,e17⟩:(b.c.kd==[97,100,100])=true∧(b.c.kd==[115,117,98])=false∧(b.c.kd==[110,101,103])=false∧(b.c.kd==[99,111,110,118,101,114,116])=false∧(b.c.kd==[109,105,110])=false∧(b.c.kd==[109,97,120])=false∧(b.c.kd==[108,105,109,105,116])=false∧(b.c.kd==[100,101,108,97,121])=false∧(b.c.kd==[108,97,103])=false∧(b.c.kd==[115,119,105,116,99,104])=false∧(b.c.kd==[109,117,108])=false∧(b.c.kd==[100,105,118])=false∧(b.c.kd==[108,101,115,115])=false∧(b.c.kd==[101,113,117,97,108])=false∧(b.c.kd==[97,110,100])=false∧(b.c.kd==[111,114])=false∧(b.c.kd==[110,111,116])=false∧(b.c.kd==[104,121,115,116,101,114,101,115,105,115])=false:=by rw[hkd];decide
    rw[hkd]at hR
    refine CallQ.pure 170 one_ rfl ?_
    simp(maxSteps:=2000000) only[go_sem,e0,e1,e2,e3,e4,e5,e6,e7,e8,e9,e10,e11,e12,e13,e14,e15,e16,e17]
    refine CallQ.letgo (xs:=[_,_]) (M0:=[]) [5,6] hL hP rfl (by unfold concOk;simp only[List.all_cons,cokV (rowsC_isV _),cokV (v_sC _),cokV (v_iC _)];rfl) rfl en203 rfl rfl (fun β Cn l1 l2 l3=>?_)
    have hpt:=(l3 5 _ rfl rfl rfl).pt (by simp)
    obtain⟨sN,hsv,hsN⟩:=(l3 6 _ rfl rfl rfl).vslx (sz:=5) (rows:=UL.map unR) (fun r hr=>by obtain⟨x,_,rfl⟩:=List.mem_map.1 hr;rfl) rfl
    have h5:(UL.map unR).length=UL.length:=List.length_map _
    rw[h5]at hsN hsv
    have hsv1:gval β (.sl 6 0 b.c.ins.length 5)=vsl sN UL.length:=by rw[←hul];exact hsv
    have hxs:List.map (V.conc [5,6] β) [V.c (Cv.sl 6 0 b.c.ins.length 5),V.c (Cv.fn 204 [(5,0)])]=[.c (.v (vsl sN UL.length)),Fv 204 #[ptr β 5 0]]:=by rw[←hsv1];rfl
    rw[hxs]
    refine CallW.h 190 l1 (cofUn sN UL hsN (by omega) 204 #[ptr β 5 0] (fun u=> !uqU u tu) (fun u _=>u1_ u tu _ hpt)) (Hp.le.refl _) rfl (fun Cm m1 m2=>?_)
    refine vv ?_
    refine RetQ.bool (hR Cm m1) rfl scc ?_
    show(!(UL.any fun u=> !uqU u tu))=UL.all (fun u=>uqU u tu)
    rw[List.all_eq_not_any_not]
   ·-- sub
    obtain⟨e0,e1,e2,e3,e4,e5,e6,e7,e8,e9,e10,e11,e12,e13,e14,e15,e16,e17⟩:(b.c.kd==[97,100,100])=false∧(b.c.kd==[115,117,98])=true∧(b.c.kd==[110,101,103])=false∧(b.c.kd==[99,111,110,118,101,114,116])=false∧(b.c.kd==[109,105,110])=false∧(b.c.kd==[109,97,120])=false∧(b.c.kd==[108,105,109,105,116])=false∧(b.c.kd==[100,101,108,97,121])=false∧(b.c.kd==[108,97,103])=false∧(b.c.kd==[115,119,105,116,99,104])=false∧(b.c.kd==[109,117,108])=false∧(b.c.kd==[100,105,118])=false∧(b.c.kd==[108,101,115,115])=false∧(b.c.kd==[101,113,117,97,108])=false∧(b.c.kd==[97,110,100])=false∧(b.c.kd==[111,114])=false∧(b.c.kd==[110,111,116])=false∧(b.c.kd==[104,121,115,116,101,114,101,115,105,115])=false:=by rw[hkd];decide
    rw[hkd]at hR
    refine CallQ.pure 170 one_ rfl ?_
    simp(maxSteps:=2000000) only[go_sem,e0,e1,e2,e3,e4,e5,e6,e7,e8,e9,e10,e11,e12,e13,e14,e15,e16,e17]
    refine CallQ.letgo (xs:=[_,_]) (M0:=[]) [5,6] hL hP rfl (by unfold concOk;simp only[List.all_cons,cokV (rowsC_isV _),cokV (v_sC _),cokV (v_iC _)];rfl) rfl en203 rfl rfl (fun β Cn l1 l2 l3=>?_)
    have hpt:=(l3 5 _ rfl rfl rfl).pt (by simp)
    obtain⟨sN,hsv,hsN⟩:=(l3 6 _ rfl rfl rfl).vslx (sz:=5) (rows:=UL.map unR) (fun r hr=>by obtain⟨x,_,rfl⟩:=List.mem_map.1 hr;rfl) rfl
    have h5:(UL.map unR).length=UL.length:=List.length_map _
    rw[h5]at hsN hsv
    have hsv1:gval β (.sl 6 0 b.c.ins.length 5)=vsl sN UL.length:=by rw[←hul];exact hsv
    have hxs:List.map (V.conc [5,6] β) [V.c (Cv.sl 6 0 b.c.ins.length 5),V.c (Cv.fn 204 [(5,0)])]=[.c (.v (vsl sN UL.length)),Fv 204 #[ptr β 5 0]]:=by rw[←hsv1];rfl
    rw[hxs]
    refine CallW.h 190 l1 (cofUn sN UL hsN (by omega) 204 #[ptr β 5 0] (fun u=> !uqU u tu) (fun u _=>u1_ u tu _ hpt)) (Hp.le.refl _) rfl (fun Cm m1 m2=>?_)
    refine vv ?_
    refine RetQ.bool (hR Cm m1) rfl scc ?_
    show(!(UL.any fun u=> !uqU u tu))=UL.all (fun u=>uqU u tu)
    rw[List.all_eq_not_any_not]
   ·-- mul
    obtain⟨e0,e1,e2,e3,e4,e5,e6,e7,e8,e9,e10,e11,e12,e13,e14,e15,e16,e17⟩:(b.c.kd==[97,100,100])=false∧(b.c.kd==[115,117,98])=false∧(b.c.kd==[110,101,103])=false∧(b.c.kd==[99,111,110,118,101,114,116])=false∧(b.c.kd==[109,105,110])=false∧(b.c.kd==[109,97,120])=false∧(b.c.kd==[108,105,109,105,116])=false∧(b.c.kd==[100,101,108,97,121])=false∧(b.c.kd==[108,97,103])=false∧(b.c.kd==[115,119,105,116,99,104])=false∧(b.c.kd==[109,117,108])=true∧(b.c.kd==[100,105,118])=false∧(b.c.kd==[108,101,115,115])=false∧(b.c.kd==[101,113,117,97,108])=false∧(b.c.kd==[97,110,100])=false∧(b.c.kd==[111,114])=false∧(b.c.kd==[110,111,116])=false∧(b.c.kd==[104,121,115,116,101,114,101,115,105,115])=false:=by rw[hkd];decide
    rw[hkd]at hR
    refine CallQ.pure 170 one_ rfl ?_
    simp(maxSteps:=2000000) only[go_sem,e0,e1,e2,e3,e4,e5,e6,e7,e8,e9,e10,e11,e12,e13,e14,e15,e16,e17]
    have hl:=hlen _ e10 2 0 0 rfl
    refine Sm.dg 180 12 mix ?_
    simp(maxSteps:=2000000) only[go_sem,ht0 (by omega),ht1 (by omega),hz,List.drop_zero]
    refine⟨by omega,by omega,by omega,by omega,?_⟩
    refine DCallQ.pure 190 (mul_ (UL.getD 0 u0) (UL.getD 1 u0)) rfl ?_
    refine vv ?_
    refine RetQ.bool (hR C hL) rfl scc ?_
    show(bif (cbE (UL.getD 0 u0) (UL.getD 1 u0) 1==0)then uqU (cbV (UL.getD 0 u0) (UL.getD 1 u0) 1) tu else false)=((cbE (UL.getD 0 u0) (UL.getD 1 u0) 1==0)&&uqU (cbV (UL.getD 0 u0) (UL.getD 1 u0) 1) tu)
    exact band_ _ _
   ·-- div
    obtain⟨e0,e1,e2,e3,e4,e5,e6,e7,e8,e9,e10,e11,e12,e13,e14,e15,e16,e17⟩:(b.c.kd==[97,100,100])=false∧(b.c.kd==[115,117,98])=false∧(b.c.kd==[110,101,103])=false∧(b.c.kd==[99,111,110,118,101,114,116])=false∧(b.c.kd==[109,105,110])=false∧(b.c.kd==[109,97,120])=false∧(b.c.kd==[108,105,109,105,116])=false∧(b.c.kd==[100,101,108,97,121])=false∧(b.c.kd==[108,97,103])=false∧(b.c.kd==[115,119,105,116,99,104])=false∧(b.c.kd==[109,117,108])=false∧(b.c.kd==[100,105,118])=true∧(b.c.kd==[108,101,115,115])=false∧(b.c.kd==[101,113,117,97,108])=false∧(b.c.kd==[97,110,100])=false∧(b.c.kd==[111,114])=false∧(b.c.kd==[110,111,116])=false∧(b.c.kd==[104,121,115,116,101,114,101,115,105,115])=false:=by rw[hkd];decide
    rw[hkd]at hR
    refine CallQ.pure 170 one_ rfl ?_
    simp(maxSteps:=2000000) only[go_sem,e0,e1,e2,e3,e4,e5,e6,e7,e8,e9,e10,e11,e12,e13,e14,e15,e16,e17]
    have hl:=hlen _ e11 2 0 0 rfl
    refine Sm.dg 180 12 mix ?_
    simp(maxSteps:=2000000) only[go_sem,ht0 (by omega),ht1 (by omega),hz,List.drop_zero]
    refine⟨by omega,by omega,by omega,by omega,?_⟩
    refine DCallQ.pure 190 (div_u (UL.getD 0 u0) (UL.getD 1 u0)) rfl ?_
    refine vv ?_
    refine RetQ.bool (hR C hL) rfl scc ?_
    show(bif (cbE (UL.getD 0 u0) (UL.getD 1 u0) (-1)==0)then uqU (cbV (UL.getD 0 u0) (UL.getD 1 u0) (-1)) tu else false)=((cbE (UL.getD 0 u0) (UL.getD 1 u0) (-1)==0)&&uqU (cbV (UL.getD 0 u0) (UL.getD 1 u0) (-1)) tu)
    exact band_ _ _
   ·-- neg
    obtain⟨e0,e1,e2,e3,e4,e5,e6,e7,e8,e9,e10,e11,e12,e13,e14,e15,e16,e17⟩:(b.c.kd==[97,100,100])=false∧(b.c.kd==[115,117,98])=false∧(b.c.kd==[110,101,103])=true∧(b.c.kd==[99,111,110,118,101,114,116])=false∧(b.c.kd==[109,105,110])=false∧(b.c.kd==[109,97,120])=false∧(b.c.kd==[108,105,109,105,116])=false∧(b.c.kd==[100,101,108,97,121])=false∧(b.c.kd==[108,97,103])=false∧(b.c.kd==[115,119,105,116,99,104])=false∧(b.c.kd==[109,117,108])=false∧(b.c.kd==[100,105,118])=false∧(b.c.kd==[108,101,115,115])=false∧(b.c.kd==[101,113,117,97,108])=false∧(b.c.kd==[97,110,100])=false∧(b.c.kd==[111,114])=false∧(b.c.kd==[110,111,116])=false∧(b.c.kd==[104,121,115,116,101,114,101,115,105,115])=false:=by rw[hkd];decide
    rw[hkd]at hR
    refine CallQ.pure 170 one_ rfl ?_
    simp(maxSteps:=2000000) only[go_sem,e0,e1,e2,e3,e4,e5,e6,e7,e8,e9,e10,e11,e12,e13,e14,e15,e16,e17]
    refine CallQ.letgo (xs:=[_,_]) (M0:=[]) [5,6] hL hP rfl (by unfold concOk;simp only[List.all_cons,cokV (rowsC_isV _),cokV (v_sC _),cokV (v_iC _)];rfl) rfl en203 rfl rfl (fun β Cn l1 l2 l3=>?_)
    have hpt:=(l3 5 _ rfl rfl rfl).pt (by simp)
    obtain⟨sN,hsv,hsN⟩:=(l3 6 _ rfl rfl rfl).vslx (sz:=5) (rows:=UL.map unR) (fun r hr=>by obtain⟨x,_,rfl⟩:=List.mem_map.1 hr;rfl) rfl
    have h5:(UL.map unR).length=UL.length:=List.length_map _
    rw[h5]at hsN hsv
    have hsv1:gval β (.sl 6 0 b.c.ins.length 5)=vsl sN UL.length:=by rw[←hul];exact hsv
    have hxs:List.map (V.conc [5,6] β) [V.c (Cv.sl 6 0 b.c.ins.length 5),V.c (Cv.fn 204 [(5,0)])]=[.c (.v (vsl sN UL.length)),Fv 204 #[ptr β 5 0]]:=by rw[←hsv1];rfl
    rw[hxs]
    refine CallW.h 190 l1 (cofUn sN UL hsN (by omega) 204 #[ptr β 5 0] (fun u=> !uqU u tu) (fun u _=>u1_ u tu _ hpt)) (Hp.le.refl _) rfl (fun Cm m1 m2=>?_)
    refine vv ?_
    refine RetQ.bool (hR Cm m1) rfl scc ?_
    show(!(UL.any fun u=> !uqU u tu))=UL.all (fun u=>uqU u tu)
    rw[List.all_eq_not_any_not]
   ·-- min
    obtain⟨e0,e1,e2,e3,e4,e5,e6,e7,e8,e9,e10,e11,e12,e13,e14,e15,e16,e17⟩:(b.c.kd==[97,100,100])=false∧(b.c.kd==[115,117,98])=false∧(b.c.kd==[110,101,103])=false∧(b.c.kd==[99,111,110,118,101,114,116])=false∧(b.c.kd==[109,105,110])=true∧(b.c.kd==[109,97,120])=false∧(b.c.kd==[108,105,109,105,116])=false∧(b.c.kd==[100,101,108,97,121])=false∧(b.c.kd==[108,97,103])=false∧(b.c.kd==[115,119,105,116,99,104])=false∧(b.c.kd==[109,117,108])=false∧(b.c.kd==[100,105,118])=false∧(b.c.kd==[108,101,115,115])=false∧(b.c.kd==[101,113,117,97,108])=false∧(b.c.kd==[97,110,100])=false∧(b.c.kd==[111,114])=false∧(b.c.kd==[110,111,116])=false∧(b.c.kd==[104,121,115,116,101,114,101,115,105,115])=false:=by rw[hkd];decide
    rw[hkd]at hR
    refine CallQ.pure 170 one_ rfl ?_
    simp(maxSteps:=2000000) only[go_sem,e0,e1,e2,e3,e4,e5,e6,e7,e8,e9,e10,e11,e12,e13,e14,e15,e16,e17]
    refine CallQ.letgo (xs:=[_,_]) (M0:=[]) [5,6] hL hP rfl (by unfold concOk;simp only[List.all_cons,cokV (rowsC_isV _),cokV (v_sC _),cokV (v_iC _)];rfl) rfl en203 rfl rfl (fun β Cn l1 l2 l3=>?_)
    have hpt:=(l3 5 _ rfl rfl rfl).pt (by simp)
    obtain⟨sN,hsv,hsN⟩:=(l3 6 _ rfl rfl rfl).vslx (sz:=5) (rows:=UL.map unR) (fun r hr=>by obtain⟨x,_,rfl⟩:=List.mem_map.1 hr;rfl) rfl
    have h5:(UL.map unR).length=UL.length:=List.length_map _
    rw[h5]at hsN hsv
    have hsv1:gval β (.sl 6 0 b.c.ins.length 5)=vsl sN UL.length:=by rw[←hul];exact hsv
    have hxs:List.map (V.conc [5,6] β) [V.c (Cv.sl 6 0 b.c.ins.length 5),V.c (Cv.fn 204 [(5,0)])]=[.c (.v (vsl sN UL.length)),Fv 204 #[ptr β 5 0]]:=by rw[←hsv1];rfl
    rw[hxs]
    refine CallW.h 190 l1 (cofUn sN UL hsN (by omega) 204 #[ptr β 5 0] (fun u=> !uqU u tu) (fun u _=>u1_ u tu _ hpt)) (Hp.le.refl _) rfl (fun Cm m1 m2=>?_)
    refine vv ?_
    refine RetQ.bool (hR Cm m1) rfl scc ?_
    show(!(UL.any fun u=> !uqU u tu))=UL.all (fun u=>uqU u tu)
    rw[List.all_eq_not_any_not]
   ·-- max
    obtain⟨e0,e1,e2,e3,e4,e5,e6,e7,e8,e9,e10,e11,e12,e13,e14,e15,e16,e17⟩:(b.c.kd==[97,100,100])=false∧(b.c.kd==[115,117,98])=false∧(b.c.kd==[110,101,103])=false∧(b.c.kd==[99,111,110,118,101,114,116])=false∧(b.c.kd==[109,105,110])=false∧(b.c.kd==[109,97,120])=true∧(b.c.kd==[108,105,109,105,116])=false∧(b.c.kd==[100,101,108,97,121])=false∧(b.c.kd==[108,97,103])=false∧(b.c.kd==[115,119,105,116,99,104])=false∧(b.c.kd==[109,117,108])=false∧(b.c.kd==[100,105,118])=false∧(b.c.kd==[108,101,115,115])=false∧(b.c.kd==[101,113,117,97,108])=false∧(b.c.kd==[97,110,100])=false∧(b.c.kd==[111,114])=false∧(b.c.kd==[110,111,116])=false∧(b.c.kd==[104,121,115,116,101,114,101,115,105,115])=false:=by rw[hkd];decide
    rw[hkd]at hR
    refine CallQ.pure 170 one_ rfl ?_
    simp(maxSteps:=2000000) only[go_sem,e0,e1,e2,e3,e4,e5,e6,e7,e8,e9,e10,e11,e12,e13,e14,e15,e16,e17]
    refine CallQ.letgo (xs:=[_,_]) (M0:=[]) [5,6] hL hP rfl (by unfold concOk;simp only[List.all_cons,cokV (rowsC_isV _),cokV (v_sC _),cokV (v_iC _)];rfl) rfl en203 rfl rfl (fun β Cn l1 l2 l3=>?_)
    have hpt:=(l3 5 _ rfl rfl rfl).pt (by simp)
    obtain⟨sN,hsv,hsN⟩:=(l3 6 _ rfl rfl rfl).vslx (sz:=5) (rows:=UL.map unR) (fun r hr=>by obtain⟨x,_,rfl⟩:=List.mem_map.1 hr;rfl) rfl
    have h5:(UL.map unR).length=UL.length:=List.length_map _
    rw[h5]at hsN hsv
    have hsv1:gval β (.sl 6 0 b.c.ins.length 5)=vsl sN UL.length:=by rw[←hul];exact hsv
    have hxs:List.map (V.conc [5,6] β) [V.c (Cv.sl 6 0 b.c.ins.length 5),V.c (Cv.fn 204 [(5,0)])]=[.c (.v (vsl sN UL.length)),Fv 204 #[ptr β 5 0]]:=by rw[←hsv1];rfl
    rw[hxs]
    refine CallW.h 190 l1 (cofUn sN UL hsN (by omega) 204 #[ptr β 5 0] (fun u=> !uqU u tu) (fun u _=>u1_ u tu _ hpt)) (Hp.le.refl _) rfl (fun Cm m1 m2=>?_)
    refine vv ?_
    refine RetQ.bool (hR Cm m1) rfl scc ?_
    show(!(UL.any fun u=> !uqU u tu))=UL.all (fun u=>uqU u tu)
    rw[List.all_eq_not_any_not]
   ·-- limit
    obtain⟨e0,e1,e2,e3,e4,e5,e6,e7,e8,e9,e10,e11,e12,e13,e14,e15,e16,e17⟩:(b.c.kd==[97,100,100])=false∧(b.c.kd==[115,117,98])=false∧(b.c.kd==[110,101,103])=false∧(b.c.kd==[99,111,110,118,101,114,116])=false∧(b.c.kd==[109,105,110])=false∧(b.c.kd==[109,97,120])=false∧(b.c.kd==[108,105,109,105,116])=true∧(b.c.kd==[100,101,108,97,121])=false∧(b.c.kd==[108,97,103])=false∧(b.c.kd==[115,119,105,116,99,104])=false∧(b.c.kd==[109,117,108])=false∧(b.c.kd==[100,105,118])=false∧(b.c.kd==[108,101,115,115])=false∧(b.c.kd==[101,113,117,97,108])=false∧(b.c.kd==[97,110,100])=false∧(b.c.kd==[111,114])=false∧(b.c.kd==[110,111,116])=false∧(b.c.kd==[104,121,115,116,101,114,101,115,105,115])=false:=by rw[hkd];decide
    rw[hkd]at hR
    refine CallQ.pure 170 one_ rfl ?_
    simp(maxSteps:=2000000) only[go_sem,e0,e1,e2,e3,e4,e5,e6,e7,e8,e9,e10,e11,e12,e13,e14,e15,e16,e17]
    refine CallQ.letgo (xs:=[_,_]) (M0:=[]) [5,6] hL hP rfl (by unfold concOk;simp only[List.all_cons,cokV (rowsC_isV _),cokV (v_sC _),cokV (v_iC _)];rfl) rfl en203 rfl rfl (fun β Cn l1 l2 l3=>?_)
    have hpt:=(l3 5 _ rfl rfl rfl).pt (by simp)
    obtain⟨sN,hsv,hsN⟩:=(l3 6 _ rfl rfl rfl).vslx (sz:=5) (rows:=UL.map unR) (fun r hr=>by obtain⟨x,_,rfl⟩:=List.mem_map.1 hr;rfl) rfl
    have h5:(UL.map unR).length=UL.length:=List.length_map _
    rw[h5]at hsN hsv
    have hsv1:gval β (.sl 6 0 b.c.ins.length 5)=vsl sN UL.length:=by rw[←hul];exact hsv
    have hxs:List.map (V.conc [5,6] β) [V.c (Cv.sl 6 0 b.c.ins.length 5),V.c (Cv.fn 204 [(5,0)])]=[.c (.v (vsl sN UL.length)),Fv 204 #[ptr β 5 0]]:=by rw[←hsv1];rfl
    rw[hxs]
    refine CallW.h 190 l1 (cofUn sN UL hsN (by omega) 204 #[ptr β 5 0] (fun u=> !uqU u tu) (fun u _=>u1_ u tu _ hpt)) (Hp.le.refl _) rfl (fun Cm m1 m2=>?_)
    refine vv ?_
    refine RetQ.bool (hR Cm m1) rfl scc ?_
    show(!(UL.any fun u=> !uqU u tu))=UL.all (fun u=>uqU u tu)
    rw[List.all_eq_not_any_not]
   ·-- convert
    obtain⟨e0,e1,e2,e3,e4,e5,e6,e7,e8,e9,e10,e11,e12,e13,e14,e15,e16,e17⟩:(b.c.kd==[97,100,100])=false∧(b.c.kd==[115,117,98])=false∧(b.c.kd==[110,101,103])=false∧(b.c.kd==[99,111,110,118,101,114,116])=true∧(b.c.kd==[109,105,110])=false∧(b.c.kd==[109,97,120])=false∧(b.c.kd==[108,105,109,105,116])=false∧(b.c.kd==[100,101,108,97,121])=false∧(b.c.kd==[108,97,103])=false∧(b.c.kd==[115,119,105,116,99,104])=false∧(b.c.kd==[109,117,108])=false∧(b.c.kd==[100,105,118])=false∧(b.c.kd==[108,101,115,115])=false∧(b.c.kd==[101,113,117,97,108])=false∧(b.c.kd==[97,110,100])=false∧(b.c.kd==[111,114])=false∧(b.c.kd==[110,111,116])=false∧(b.c.kd==[104,121,115,116,101,114,101,115,105,115])=false:=by rw[hkd];decide
    rw[hkd]at hR
    refine CallQ.pure 170 one_ rfl ?_
    simp(maxSteps:=2000000) only[go_sem,e0,e1,e2,e3,e4,e5,e6,e7,e8,e9,e10,e11,e12,e13,e14,e15,e16,e17]
    refine CallQ.letgo (xs:=[_,_]) (M0:=[]) [5,6] hL hP rfl (by unfold concOk;simp only[List.all_cons,cokV (rowsC_isV _),cokV (v_sC _),cokV (v_iC _)];rfl) rfl en203 rfl rfl (fun β Cn l1 l2 l3=>?_)
    have hpt:=(l3 5 _ rfl rfl rfl).pt (by simp)
    obtain⟨sN,hsv,hsN⟩:=(l3 6 _ rfl rfl rfl).vslx (sz:=5) (rows:=UL.map unR) (fun r hr=>by obtain⟨x,_,rfl⟩:=List.mem_map.1 hr;rfl) rfl
    have h5:(UL.map unR).length=UL.length:=List.length_map _
    rw[h5]at hsN hsv
    have hsv1:gval β (.sl 6 0 b.c.ins.length 5)=vsl sN UL.length:=by rw[←hul];exact hsv
    have hxs:List.map (V.conc [5,6] β) [V.c (Cv.sl 6 0 b.c.ins.length 5),V.c (Cv.fn 204 [(5,0)])]=[.c (.v (vsl sN UL.length)),Fv 204 #[ptr β 5 0]]:=by rw[←hsv1];rfl
    rw[hxs]
    refine CallW.h 190 l1 (cofUn sN UL hsN (by omega) 204 #[ptr β 5 0] (fun u=> !uqU u tu) (fun u _=>u1_ u tu _ hpt)) (Hp.le.refl _) rfl (fun Cm m1 m2=>?_)
    refine vv ?_
    refine RetQ.bool (hR Cm m1) rfl scc ?_
    show(!(UL.any fun u=> !uqU u tu))=UL.all (fun u=>uqU u tu)
    rw[List.all_eq_not_any_not]
   ·-- curve
    obtain⟨e0,e1,e2,e3,e4,e5,e6,e7,e8,e9,e10,e11,e12,e13,e14,e15,e16,e17⟩:(b.c.kd==[97,100,100])=false∧(b.c.kd==[115,117,98])=false∧(b.c.kd==[110,101,103])=false∧(b.c.kd==[99,111,110,118,101,114,116])=false∧(b.c.kd==[109,105,110])=false∧(b.c.kd==[109,97,120])=false∧(b.c.kd==[108,105,109,105,116])=false∧(b.c.kd==[100,101,108,97,121])=false∧(b.c.kd==[108,97,103])=false∧(b.c.kd==[115,119,105,116,99,104])=false∧(b.c.kd==[109,117,108])=false∧(b.c.kd==[100,105,118])=false∧(b.c.kd==[108,101,115,115])=false∧(b.c.kd==[101,113,117,97,108])=false∧(b.c.kd==[97,110,100])=false∧(b.c.kd==[111,114])=false∧(b.c.kd==[110,111,116])=false∧(b.c.kd==[104,121,115,116,101,114,101,115,105,115])=false:=by rw[hkd];decide
    rw[hkd]at hR
    refine CallQ.pure 170 one_ rfl ?_
    simp(maxSteps:=2000000) only[go_sem,e0,e1,e2,e3,e4,e5,e6,e7,e8,e9,e10,e11,e12,e13,e14,e15,e16,e17]
    exact RetQ.bool (hR C hL) rfl scc rfl
   ·-- map
    obtain⟨e0,e1,e2,e3,e4,e5,e6,e7,e8,e9,e10,e11,e12,e13,e14,e15,e16,e17⟩:(b.c.kd==[97,100,100])=false∧(b.c.kd==[115,117,98])=false∧(b.c.kd==[110,101,103])=false∧(b.c.kd==[99,111,110,118,101,114,116])=false∧(b.c.kd==[109,105,110])=false∧(b.c.kd==[109,97,120])=false∧(b.c.kd==[108,105,109,105,116])=false∧(b.c.kd==[100,101,108,97,121])=false∧(b.c.kd==[108,97,103])=false∧(b.c.kd==[115,119,105,116,99,104])=false∧(b.c.kd==[109,117,108])=false∧(b.c.kd==[100,105,118])=false∧(b.c.kd==[108,101,115,115])=false∧(b.c.kd==[101,113,117,97,108])=false∧(b.c.kd==[97,110,100])=false∧(b.c.kd==[111,114])=false∧(b.c.kd==[110,111,116])=false∧(b.c.kd==[104,121,115,116,101,114,101,115,105,115])=false:=by rw[hkd];decide
    rw[hkd]at hR
    refine CallQ.pure 170 one_ rfl ?_
    simp(maxSteps:=2000000) only[go_sem,e0,e1,e2,e3,e4,e5,e6,e7,e8,e9,e10,e11,e12,e13,e14,e15,e16,e17]
    exact RetQ.bool (hR C hL) rfl scc rfl
   ·-- delay
    obtain⟨e0,e1,e2,e3,e4,e5,e6,e7,e8,e9,e10,e11,e12,e13,e14,e15,e16,e17⟩:(b.c.kd==[97,100,100])=false∧(b.c.kd==[115,117,98])=false∧(b.c.kd==[110,101,103])=false∧(b.c.kd==[99,111,110,118,101,114,116])=false∧(b.c.kd==[109,105,110])=false∧(b.c.kd==[109,97,120])=false∧(b.c.kd==[108,105,109,105,116])=false∧(b.c.kd==[100,101,108,97,121])=true∧(b.c.kd==[108,97,103])=false∧(b.c.kd==[115,119,105,116,99,104])=false∧(b.c.kd==[109,117,108])=false∧(b.c.kd==[100,105,118])=false∧(b.c.kd==[108,101,115,115])=false∧(b.c.kd==[101,113,117,97,108])=false∧(b.c.kd==[97,110,100])=false∧(b.c.kd==[111,114])=false∧(b.c.kd==[110,111,116])=false∧(b.c.kd==[104,121,115,116,101,114,101,115,105,115])=false:=by rw[hkd];decide
    rw[hkd]at hR
    refine CallQ.pure 170 one_ rfl ?_
    simp(maxSteps:=2000000) only[go_sem,e0,e1,e2,e3,e4,e5,e6,e7,e8,e9,e10,e11,e12,e13,e14,e15,e16,e17]
    refine CallQ.letgo (xs:=[_,_]) (M0:=[]) [5,6] hL hP rfl (by unfold concOk;simp only[List.all_cons,cokV (rowsC_isV _),cokV (v_sC _),cokV (v_iC _)];rfl) rfl en203 rfl rfl (fun β Cn l1 l2 l3=>?_)
    have hpt:=(l3 5 _ rfl rfl rfl).pt (by simp)
    obtain⟨sN,hsv,hsN⟩:=(l3 6 _ rfl rfl rfl).vslx (sz:=5) (rows:=UL.map unR) (fun r hr=>by obtain⟨x,_,rfl⟩:=List.mem_map.1 hr;rfl) rfl
    have h5:(UL.map unR).length=UL.length:=List.length_map _
    rw[h5]at hsN hsv
    have hsv1:gval β (.sl 6 0 b.c.ins.length 5)=vsl sN UL.length:=by rw[←hul];exact hsv
    have hxs:List.map (V.conc [5,6] β) [V.c (Cv.sl 6 0 b.c.ins.length 5),V.c (Cv.fn 204 [(5,0)])]=[.c (.v (vsl sN UL.length)),Fv 204 #[ptr β 5 0]]:=by rw[←hsv1];rfl
    rw[hxs]
    refine CallW.h 190 l1 (cofUn sN UL hsN (by omega) 204 #[ptr β 5 0] (fun u=> !uqU u tu) (fun u _=>u1_ u tu _ hpt)) (Hp.le.refl _) rfl (fun Cm m1 m2=>?_)
    refine vv ?_
    refine RetQ.bool (hR Cm m1) rfl scc ?_
    show(!(UL.any fun u=> !uqU u tu))=UL.all (fun u=>uqU u tu)
    rw[List.all_eq_not_any_not]
   ·-- lag
    obtain⟨e0,e1,e2,e3,e4,e5,e6,e7,e8,e9,e10,e11,e12,e13,e14,e15,e16,e17⟩:(b.c.kd==[97,100,100])=false∧(b.c.kd==[115,117,98])=false∧(b.c.kd==[110,101,103])=false∧(b.c.kd==[99,111,110,118,101,114,116])=false∧(b.c.kd==[109,105,110])=false∧(b.c.kd==[109,97,120])=false∧(b.c.kd==[108,105,109,105,116])=false∧(b.c.kd==[100,101,108,97,121])=false∧(b.c.kd==[108,97,103])=true∧(b.c.kd==[115,119,105,116,99,104])=false∧(b.c.kd==[109,117,108])=false∧(b.c.kd==[100,105,118])=false∧(b.c.kd==[108,101,115,115])=false∧(b.c.kd==[101,113,117,97,108])=false∧(b.c.kd==[97,110,100])=false∧(b.c.kd==[111,114])=false∧(b.c.kd==[110,111,116])=false∧(b.c.kd==[104,121,115,116,101,114,101,115,105,115])=false:=by rw[hkd];decide
    rw[hkd]at hR
    refine CallQ.pure 170 one_ rfl ?_
    simp(maxSteps:=2000000) only[go_sem,e0,e1,e2,e3,e4,e5,e6,e7,e8,e9,e10,e11,e12,e13,e14,e15,e16,e17]
    refine CallQ.letgo (xs:=[_,_]) (M0:=[]) [5,6] hL hP rfl (by unfold concOk;simp only[List.all_cons,cokV (rowsC_isV _),cokV (v_sC _),cokV (v_iC _)];rfl) rfl en203 rfl rfl (fun β Cn l1 l2 l3=>?_)
    have hpt:=(l3 5 _ rfl rfl rfl).pt (by simp)
    obtain⟨sN,hsv,hsN⟩:=(l3 6 _ rfl rfl rfl).vslx (sz:=5) (rows:=UL.map unR) (fun r hr=>by obtain⟨x,_,rfl⟩:=List.mem_map.1 hr;rfl) rfl
    have h5:(UL.map unR).length=UL.length:=List.length_map _
    rw[h5]at hsN hsv
    have hsv1:gval β (.sl 6 0 b.c.ins.length 5)=vsl sN UL.length:=by rw[←hul];exact hsv
    have hxs:List.map (V.conc [5,6] β) [V.c (Cv.sl 6 0 b.c.ins.length 5),V.c (Cv.fn 204 [(5,0)])]=[.c (.v (vsl sN UL.length)),Fv 204 #[ptr β 5 0]]:=by rw[←hsv1];rfl
    rw[hxs]
    refine CallW.h 190 l1 (cofUn sN UL hsN (by omega) 204 #[ptr β 5 0] (fun u=> !uqU u tu) (fun u _=>u1_ u tu _ hpt)) (Hp.le.refl _) rfl (fun Cm m1 m2=>?_)
    refine vv ?_
    refine RetQ.bool (hR Cm m1) rfl scc ?_
    show(!(UL.any fun u=> !uqU u tu))=UL.all (fun u=>uqU u tu)
    rw[List.all_eq_not_any_not]
   ·-- switch
    obtain⟨e0,e1,e2,e3,e4,e5,e6,e7,e8,e9,e10,e11,e12,e13,e14,e15,e16,e17⟩:(b.c.kd==[97,100,100])=false∧(b.c.kd==[115,117,98])=false∧(b.c.kd==[110,101,103])=false∧(b.c.kd==[99,111,110,118,101,114,116])=false∧(b.c.kd==[109,105,110])=false∧(b.c.kd==[109,97,120])=false∧(b.c.kd==[108,105,109,105,116])=false∧(b.c.kd==[100,101,108,97,121])=false∧(b.c.kd==[108,97,103])=false∧(b.c.kd==[115,119,105,116,99,104])=true∧(b.c.kd==[109,117,108])=false∧(b.c.kd==[100,105,118])=false∧(b.c.kd==[108,101,115,115])=false∧(b.c.kd==[101,113,117,97,108])=false∧(b.c.kd==[97,110,100])=false∧(b.c.kd==[111,114])=false∧(b.c.kd==[110,111,116])=false∧(b.c.kd==[104,121,115,116,101,114,101,115,105,115])=false:=by rw[hkd];decide
    rw[hkd]at hR
    refine CallQ.pure 170 one_ rfl ?_
    simp(maxSteps:=2000000) only[go_sem,e0,e1,e2,e3,e4,e5,e6,e7,e8,e9,e10,e11,e12,e13,e14,e15,e16,e17]
    have hl:=hlen _ e9 3 0 0 rfl
    refine Sm.dg 180 17 mix ?_
    simp(maxSteps:=2000000) only[go_sem,ht0 (by omega),ht1 (by omega),ht2 (by omega),hz,List.drop_zero]
    refine⟨by omega,by omega,fun h=>⟨h,by omega⟩,fun h=>⟨h,by omega⟩,fun h=>⟨h,by omega⟩,fun h=>⟨h,by omega⟩,?_⟩
    refine RetQ.bool (hR C hL) rfl scc ?_
    show(bif (bif uqU (UL.getD 0 u0) u0 then uqU (UL.getD 1 u0) tu else false)then uqU (UL.getD 2 u0) tu else false)=(uqU (UL.getD 0 u0) u0&&(uqU (UL.getD 1 u0) tu&&uqU (UL.getD 2 u0) tu))
    rw[band_,band_,Bool.and_assoc]
   ·-- less
    obtain⟨e0,e1,e2,e3,e4,e5,e6,e7,e8,e9,e10,e11,e12,e13,e14,e15,e16,e17⟩:(b.c.kd==[97,100,100])=false∧(b.c.kd==[115,117,98])=false∧(b.c.kd==[110,101,103])=false∧(b.c.kd==[99,111,110,118,101,114,116])=false∧(b.c.kd==[109,105,110])=false∧(b.c.kd==[109,97,120])=false∧(b.c.kd==[108,105,109,105,116])=false∧(b.c.kd==[100,101,108,97,121])=false∧(b.c.kd==[108,97,103])=false∧(b.c.kd==[115,119,105,116,99,104])=false∧(b.c.kd==[109,117,108])=false∧(b.c.kd==[100,105,118])=false∧(b.c.kd==[108,101,115,115])=true∧(b.c.kd==[101,113,117,97,108])=false∧(b.c.kd==[97,110,100])=false∧(b.c.kd==[111,114])=false∧(b.c.kd==[110,111,116])=false∧(b.c.kd==[104,121,115,116,101,114,101,115,105,115])=false:=by rw[hkd];decide
    rw[hkd]at hR
    refine CallQ.pure 170 one_ rfl ?_
    simp(maxSteps:=2000000) only[go_sem,e0,e1,e2,e3,e4,e5,e6,e7,e8,e9,e10,e11,e12,e13,e14,e15,e16,e17]
    have hl:=hlen _ e12 2 0 0 rfl
    refine Sm.dg 180 10 mix ?_
    simp(maxSteps:=2000000) only[go_sem,ht0 (by omega),ht1 (by omega),hz,List.drop_zero]
    refine⟨by omega,by omega,by omega,by omega,?_⟩
    refine RetQ.bool (hR C hL) rfl scc ?_
    show(bif uqU (UL.getD 0 u0) (UL.getD 1 u0)then uqU tu u0 else false)=(uqU (UL.getD 0 u0) (UL.getD 1 u0)&&uqU tu u0)
    exact band_ _ _
   ·-- equal
    obtain⟨e0,e1,e2,e3,e4,e5,e6,e7,e8,e9,e10,e11,e12,e13,e14,e15,e16,e17⟩:(b.c.kd==[97,100,100])=false∧(b.c.kd==[115,117,98])=false∧(b.c.kd==[110,101,103])=false∧(b.c.kd==[99,111,110,118,101,114,116])=false∧(b.c.kd==[109,105,110])=false∧(b.c.kd==[109,97,120])=false∧(b.c.kd==[108,105,109,105,116])=false∧(b.c.kd==[100,101,108,97,121])=false∧(b.c.kd==[108,97,103])=false∧(b.c.kd==[115,119,105,116,99,104])=false∧(b.c.kd==[109,117,108])=false∧(b.c.kd==[100,105,118])=false∧(b.c.kd==[108,101,115,115])=false∧(b.c.kd==[101,113,117,97,108])=true∧(b.c.kd==[97,110,100])=false∧(b.c.kd==[111,114])=false∧(b.c.kd==[110,111,116])=false∧(b.c.kd==[104,121,115,116,101,114,101,115,105,115])=false:=by rw[hkd];decide
    rw[hkd]at hR
    refine CallQ.pure 170 one_ rfl ?_
    simp(maxSteps:=2000000) only[go_sem,e0,e1,e2,e3,e4,e5,e6,e7,e8,e9,e10,e11,e12,e13,e14,e15,e16,e17]
    have hl:=hlen _ e13 2 0 0 rfl
    refine Sm.dg 180 10 mix ?_
    simp(maxSteps:=2000000) only[go_sem,ht0 (by omega),ht1 (by omega),hz,List.drop_zero]
    refine⟨by omega,by omega,by omega,by omega,?_⟩
    refine RetQ.bool (hR C hL) rfl scc ?_
    show(bif uqU (UL.getD 0 u0) (UL.getD 1 u0)then uqU tu u0 else false)=(uqU (UL.getD 0 u0) (UL.getD 1 u0)&&uqU tu u0)
    exact band_ _ _
   ·-- and
    obtain⟨e0,e1,e2,e3,e4,e5,e6,e7,e8,e9,e10,e11,e12,e13,e14,e15,e16,e17⟩:(b.c.kd==[97,100,100])=false∧(b.c.kd==[115,117,98])=false∧(b.c.kd==[110,101,103])=false∧(b.c.kd==[99,111,110,118,101,114,116])=false∧(b.c.kd==[109,105,110])=false∧(b.c.kd==[109,97,120])=false∧(b.c.kd==[108,105,109,105,116])=false∧(b.c.kd==[100,101,108,97,121])=false∧(b.c.kd==[108,97,103])=false∧(b.c.kd==[115,119,105,116,99,104])=false∧(b.c.kd==[109,117,108])=false∧(b.c.kd==[100,105,118])=false∧(b.c.kd==[108,101,115,115])=false∧(b.c.kd==[101,113,117,97,108])=false∧(b.c.kd==[97,110,100])=true∧(b.c.kd==[111,114])=false∧(b.c.kd==[110,111,116])=false∧(b.c.kd==[104,121,115,116,101,114,101,115,105,115])=false:=by rw[hkd];decide
    rw[hkd]at hR
    refine CallQ.pure 170 one_ rfl ?_
    simp(maxSteps:=2000000) only[go_sem,e0,e1,e2,e3,e4,e5,e6,e7,e8,e9,e10,e11,e12,e13,e14,e15,e16,e17]
    have hg0:(tu.m==u0.m&&(tu.kg==u0.kg&&(tu.s==u0.s&&(tu.a==u0.a&&tu.k==u0.k))))=uqU tu u0:=rfl
    simp only[hg0]
    cases hq:uqU tu u0 with
    |false=>
     refine CallQ.guard (xs:=[]) (v:=Bo true) 180 (fun h=>by cases h) (fun h=>by cases h) ?_
     refine vv ?_
     refine RetQ.bool (hR C hL) rfl scc ?_
     show _=(uqU tu u0&&UL.all (fun u=>uqU u u0))
     rw[hq];rfl
    |true=>
     refine CallQ.letgo (xs:=[_,_]) (M0:=[]) [170,6] hL hP rfl (by unfold concOk;simp only[List.all_cons,cokV (rowsC_isV _),cokV (v_sC _),cokV (v_iC _)];rfl) rfl en203 rfl rfl (fun β Cn l1 l2 l3=>?_)
     have hpt:=(l3 170 _ rfl rfl rfl).pt (by simp)
     obtain⟨sN,hsv,hsN⟩:=(l3 6 _ rfl rfl rfl).vslx (sz:=5) (rows:=UL.map unR) (fun r hr=>by obtain⟨x,_,rfl⟩:=List.mem_map.1 hr;rfl) rfl
     have h5:(UL.map unR).length=UL.length:=List.length_map _
     rw[h5]at hsN hsv
     have hsv1:gval β (.sl 6 0 b.c.ins.length 5)=vsl sN UL.length:=by rw[←hul];exact hsv
     have hxs:List.map (V.conc [170,6] β) [V.c (Cv.sl 6 0 b.c.ins.length 5),V.c (Cv.fn 207 [(170,0)])]=[.c (.v (vsl sN UL.length)),Fv 207 #[ptr β 170 0]]:=by rw[←hsv1];rfl
     rw[hxs]
     refine CallW.h 190 l1 (cofUn sN UL hsN (by omega) 207 #[ptr β 170 0] (fun u=> !uqU u u0) (fun u _=>u2_ u u0 _ hpt)) (Hp.le.refl _) rfl (fun Cm m1 m2=>?_)
     refine vv ?_
     refine RetQ.bool (hR Cm m1) rfl scc ?_
     show(!(UL.any fun u=> !uqU u u0))=(uqU tu u0&&UL.all (fun u=>uqU u u0))
     rw[hq,List.all_eq_not_any_not];rfl
   ·-- or
    obtain⟨e0,e1,e2,e3,e4,e5,e6,e7,e8,e9,e10,e11,e12,e13,e14,e15,e16,e17⟩:(b.c.kd==[97,100,100])=false∧(b.c.kd==[115,117,98])=false∧(b.c.kd==[110,101,103])=false∧(b.c.kd==[99,111,110,118,101,114,116])=false∧(b.c.kd==[109,105,110])=false∧(b.c.kd==[109,97,120])=false∧(b.c.kd==[108,105,109,105,116])=false∧(b.c.kd==[100,101,108,97,121])=false∧(b.c.kd==[108,97,103])=false∧(b.c.kd==[115,119,105,116,99,104])=false∧(b.c.kd==[109,117,108])=false∧(b.c.kd==[100,105,118])=false∧(b.c.kd==[108,101,115,115])=false∧(b.c.kd==[101,113,117,97,108])=false∧(b.c.kd==[97,110,100])=false∧(b.c.kd==[111,114])=true∧(b.c.kd==[110,111,116])=false∧(b.c.kd==[104,121,115,116,101,114,101,115,105,115])=false:=by rw[hkd];decide
    rw[hkd]at hR
    refine CallQ.pure 170 one_ rfl ?_
    simp(maxSteps:=2000000) only[go_sem,e0,e1,e2,e3,e4,e5,e6,e7,e8,e9,e10,e11,e12,e13,e14,e15,e16,e17]
    have hg0:(tu.m==u0.m&&(tu.kg==u0.kg&&(tu.s==u0.s&&(tu.a==u0.a&&tu.k==u0.k))))=uqU tu u0:=rfl
    simp only[hg0]
    cases hq:uqU tu u0 with
    |false=>
     refine CallQ.guard (xs:=[]) (v:=Bo true) 180 (fun h=>by cases h) (fun h=>by cases h) ?_
     refine vv ?_
     refine RetQ.bool (hR C hL) rfl scc ?_
     show _=(uqU tu u0&&UL.all (fun u=>uqU u u0))
     rw[hq];rfl
    |true=>
     refine CallQ.letgo (xs:=[_,_]) (M0:=[]) [170,6] hL hP rfl (by unfold concOk;simp only[List.all_cons,cokV (rowsC_isV _),cokV (v_sC _),cokV (v_iC _)];rfl) rfl en203 rfl rfl (fun β Cn l1 l2 l3=>?_)
     have hpt:=(l3 170 _ rfl rfl rfl).pt (by simp)
     obtain⟨sN,hsv,hsN⟩:=(l3 6 _ rfl rfl rfl).vslx (sz:=5) (rows:=UL.map unR) (fun r hr=>by obtain⟨x,_,rfl⟩:=List.mem_map.1 hr;rfl) rfl
     have h5:(UL.map unR).length=UL.length:=List.length_map _
     rw[h5]at hsN hsv
     have hsv1:gval β (.sl 6 0 b.c.ins.length 5)=vsl sN UL.length:=by rw[←hul];exact hsv
     have hxs:List.map (V.conc [170,6] β) [V.c (Cv.sl 6 0 b.c.ins.length 5),V.c (Cv.fn 207 [(170,0)])]=[.c (.v (vsl sN UL.length)),Fv 207 #[ptr β 170 0]]:=by rw[←hsv1];rfl
     rw[hxs]
     refine CallW.h 190 l1 (cofUn sN UL hsN (by omega) 207 #[ptr β 170 0] (fun u=> !uqU u u0) (fun u _=>u2_ u u0 _ hpt)) (Hp.le.refl _) rfl (fun Cm m1 m2=>?_)
     refine vv ?_
     refine RetQ.bool (hR Cm m1) rfl scc ?_
     show(!(UL.any fun u=> !uqU u u0))=(uqU tu u0&&UL.all (fun u=>uqU u u0))
     rw[hq,List.all_eq_not_any_not];rfl
   ·-- not
    obtain⟨e0,e1,e2,e3,e4,e5,e6,e7,e8,e9,e10,e11,e12,e13,e14,e15,e16,e17⟩:(b.c.kd==[97,100,100])=false∧(b.c.kd==[115,117,98])=false∧(b.c.kd==[110,101,103])=false∧(b.c.kd==[99,111,110,118,101,114,116])=false∧(b.c.kd==[109,105,110])=false∧(b.c.kd==[109,97,120])=false∧(b.c.kd==[108,105,109,105,116])=false∧(b.c.kd==[100,101,108,97,121])=false∧(b.c.kd==[108,97,103])=false∧(b.c.kd==[115,119,105,116,99,104])=false∧(b.c.kd==[109,117,108])=false∧(b.c.kd==[100,105,118])=false∧(b.c.kd==[108,101,115,115])=false∧(b.c.kd==[101,113,117,97,108])=false∧(b.c.kd==[97,110,100])=false∧(b.c.kd==[111,114])=false∧(b.c.kd==[110,111,116])=true∧(b.c.kd==[104,121,115,116,101,114,101,115,105,115])=false:=by rw[hkd];decide
    rw[hkd]at hR
    refine CallQ.pure 170 one_ rfl ?_
    simp(maxSteps:=2000000) only[go_sem,e0,e1,e2,e3,e4,e5,e6,e7,e8,e9,e10,e11,e12,e13,e14,e15,e16,e17]
    have hg0:(tu.m==u0.m&&(tu.kg==u0.kg&&(tu.s==u0.s&&(tu.a==u0.a&&tu.k==u0.k))))=uqU tu u0:=rfl
    simp only[hg0]
    cases hq:uqU tu u0 with
    |false=>
     refine CallQ.guard (xs:=[]) (v:=Bo true) 180 (fun h=>by cases h) (fun h=>by cases h) ?_
     refine vv ?_
     refine RetQ.bool (hR C hL) rfl scc ?_
     show _=(uqU tu u0&&UL.all (fun u=>uqU u u0))
     rw[hq];rfl
    |true=>
     refine CallQ.letgo (xs:=[_,_]) (M0:=[]) [170,6] hL hP rfl (by unfold concOk;simp only[List.all_cons,cokV (rowsC_isV _),cokV (v_sC _),cokV (v_iC _)];rfl) rfl en203 rfl rfl (fun β Cn l1 l2 l3=>?_)
     have hpt:=(l3 170 _ rfl rfl rfl).pt (by simp)
     obtain⟨sN,hsv,hsN⟩:=(l3 6 _ rfl rfl rfl).vslx (sz:=5) (rows:=UL.map unR) (fun r hr=>by obtain⟨x,_,rfl⟩:=List.mem_map.1 hr;rfl) rfl
     have h5:(UL.map unR).length=UL.length:=List.length_map _
     rw[h5]at hsN hsv
     have hsv1:gval β (.sl 6 0 b.c.ins.length 5)=vsl sN UL.length:=by rw[←hul];exact hsv
     have hxs:List.map (V.conc [170,6] β) [V.c (Cv.sl 6 0 b.c.ins.length 5),V.c (Cv.fn 207 [(170,0)])]=[.c (.v (vsl sN UL.length)),Fv 207 #[ptr β 170 0]]:=by rw[←hsv1];rfl
     rw[hxs]
     refine CallW.h 190 l1 (cofUn sN UL hsN (by omega) 207 #[ptr β 170 0] (fun u=> !uqU u u0) (fun u _=>u2_ u u0 _ hpt)) (Hp.le.refl _) rfl (fun Cm m1 m2=>?_)
     refine vv ?_
     refine RetQ.bool (hR Cm m1) rfl scc ?_
     show(!(UL.any fun u=> !uqU u u0))=(uqU tu u0&&UL.all (fun u=>uqU u u0))
     rw[hq,List.all_eq_not_any_not];rfl
   ·-- hysteresis
    obtain⟨e0,e1,e2,e3,e4,e5,e6,e7,e8,e9,e10,e11,e12,e13,e14,e15,e16,e17⟩:(b.c.kd==[97,100,100])=false∧(b.c.kd==[115,117,98])=false∧(b.c.kd==[110,101,103])=false∧(b.c.kd==[99,111,110,118,101,114,116])=false∧(b.c.kd==[109,105,110])=false∧(b.c.kd==[109,97,120])=false∧(b.c.kd==[108,105,109,105,116])=false∧(b.c.kd==[100,101,108,97,121])=false∧(b.c.kd==[108,97,103])=false∧(b.c.kd==[115,119,105,116,99,104])=false∧(b.c.kd==[109,117,108])=false∧(b.c.kd==[100,105,118])=false∧(b.c.kd==[108,101,115,115])=false∧(b.c.kd==[101,113,117,97,108])=false∧(b.c.kd==[97,110,100])=false∧(b.c.kd==[111,114])=false∧(b.c.kd==[110,111,116])=false∧(b.c.kd==[104,121,115,116,101,114,101,115,105,115])=true:=by rw[hkd];decide
    rw[hkd]at hR
    refine CallQ.pure 170 one_ rfl ?_
    simp(maxSteps:=2000000) only[go_sem,e0,e1,e2,e3,e4,e5,e6,e7,e8,e9,e10,e11,e12,e13,e14,e15,e16,e17]
    exact RetQ.bool (hR C hL) rfl scc rfl
end Go.Proofs.YtkciabfilokfiaaGreat.Fx
