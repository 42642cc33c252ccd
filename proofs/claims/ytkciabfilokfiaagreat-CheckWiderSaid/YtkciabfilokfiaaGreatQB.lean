/-  -/
import Derived.Test.YtkciabfilokfiaaGreatPS
import Derived.Test.YtkciabfilokfiaaGreatQA
import Derived.Test.YtkciabfilokfiaaGreatMB
namespace Go.Proofs.YtkciabfilokfiaaGreat.Fx
open Vg Tf
set_option linter.unusedSimpArgs false
set_option linter.unusedVariables false
set_option maxRecDepth 100000
set_option maxHeartbeats 4000000
theorem need_lt {l:List Str}{n N:Nat}(hl:l.length=n+N)(hN:0<N)(b:Bl):∀k∈need l n b,k<N:=by
 intro k hk
 unfold need at hk
 split at hk
 ·cases hk
 ·obtain⟨s,_,hs⟩:=List.mem_flatMap.1 hk
  unfold nee1 at hs
  split at hs
  ·rw[List.mem_singleton]at hs
   unfold sgN at hs
   cases hq:idxS s l 0 with
   |none=>rw[hq]at hs;simp at hs;omega
   |some i=>
    rw[hq]at hs
    have:=idxS_lt s l 0 i hq
    simp at hs;omega
  ·cases hs
theorem befB_lt (d:DgL):∀i,i<d.bls.length→∀k∈befB d.c i,k<d.bls.length:=fun i hi k hk=>by
 rw[befB_get hi]at hk
 exact need_lt (sigs_len d) (by omega) _ k hk
@[reducible] def bC (b:Bool):Cv:= .v (.bool b)
def tkOf (N:Nat)(l:List Nat):List Bool:=(List.range N).map fun i=>l.contains i
theorem tkOf_len (N:Nat)(l:List Nat):(tkOf N l).length=N:=by simp[tkOf]
theorem v_bC (l:List Bool):(l.map bC).all Cv.isV=true:=by simp[Cv.isV]
theorem get_bC {l:List Bool}{i:Nat}(h:i<l.length):(l.map bC)[i]?=some (bC (l.getD i false)):=by
 rw[List.getElem?_map,List.getD_eq_getElem?_getD,List.getElem?_eq_getElem h];rfl
theorem tk_get {N:Nat}{l:List Nat}{i:Nat}(h:i<N):(tkOf N l).getD i false=l.contains i:=by
 rw[List.getD_eq_getElem?_getD,tkOf,List.getElem?_map,List.getElem?_range h];rfl
theorem tk_set {N:Nat}{l:List Nat}{i:Nat}(h:i<N):(tkOf N l).set i true=tkOf N (l++[i]):=by
 apply List.ext_getElem?
 intro j
 rw[List.getElem?_set]
 simp only[tkOf,List.length_map,List.length_range,List.getElem?_map]
 by_cases hj:i=j
 ·subst hj
  rw[if_pos rfl,if_pos h,List.getElem?_range h]
  simp
 ·rw[if_neg hj]
  by_cases hjN:j<N
  ·rw[List.getElem?_range hjN]
   simp only[Option.map_some,Option.some.injEq]
   rw[Bool.eq_iff_iff,List.contains_iff_mem,List.contains_iff_mem,List.mem_append,List.mem_singleton]
   exact⟨.inl,fun hh=>by rcases hh with hh|hh;exact hh;exact absurd hh.symm hj⟩
  ·rw[List.getElem?_eq_none (by simp;omega)];rfl
theorem wkV {ρ:Nat→Nat}{l:List Cv}{t u:TypeId}{r:Bool}(h:l.all Cv.isV=true):Wk ((⟨true,l,t⟩:Bk).ren ρ) ⟨r,l,u⟩:= .inr ⟨by rw[renV h],[],by rw[renV h];simp⟩
@[reducible] def bTk (nm:Nat)(tk:List Bool):Nat×Bk:=(nm,⟨true,tk.map bC,4⟩)
@[reducible] def bTp (nm t N:Nat):Nat×Bk:=(nm,⟨true,[.sl t 0 N 1],162⟩)
theorem o11 (tk:List Bool)(k:Nat)(h:k<tk.length):CallOk Tryz.prog 108 [I k,.c (.p 1 0)] [bTp 1 2 tk.length,bTk 2 tk] (Bo (!tk.getD k false)) []:=by
 have hM:ClM [bTp 1 2 tk.length,bTk 2 tk]:=ClM.of (by simp only[List.all_cons,inMV (v_bC _)];rfl)
 refine CallOk.mkN 100 Tryz.func108 rfl en108 (by simp[Tryz.ntmps108]) (ClA.of rfl) rfl rfl fun C hR hP=>?_
 simp(maxSteps:=2000000) only[go_sem,get_bC h]
 refine⟨⟨by omega,by omega⟩,?_⟩
 exact RetQ.of hR rfl scc rvv (Sub.refl _) hM (ClV.of rfl)
theorem ix11 (ks:List Nat)(hks:ks.length≤1000000000000000)(tk:List Bool)(hk:∀k∈ks,k<tk.length):CallOk Tryz.prog 171 [.c (.sl 1 0 ks.length 1),.c (.fn 108 [(2,0)])] [(1,⟨true,ks.map nC,3⟩),bTp 2 3 tk.length,bTk 3 tk] (I (ixF (fun k=> !tk.getD k false) ks 0)) []:=by
 have hM:ClM [(1,⟨true,ks.map nC,3⟩),bTp 2 3 tk.length,bTk 3 tk]:=ClM.of (by simp only[List.all_cons,inMV (v_bC _),inMV (v_nC _)];rfl)
 have hM1:ClM [bTp 1 2 tk.length,bTk 2 tk]:=ClM.of (by simp only[List.all_cons,inMV (v_bC _)];rfl)
 refine CallOk.mkN 100 Tryz.func171 rfl en171 (by simp[Tryz.ntmps171]) (ClA.of rfl) rfl rfl fun C hR hP=>?_
 refine vv ?_
 refine Sm.loopM (M0:=[(1,⟨true,ks.map nC,3⟩),bTp 2 3 tk.length,bTk 3 tk]) (α:={i:Nat//i≤ks.length∧ixF (fun k=> !tk.getD k false) ks 0=ixF (fun k=> !tk.getD k false) (ks.drop i) i}) hP (fun i=>[(0,true,.c (.sl 1 0 ks.length 1)),(1,true,.c (.fn 108 [(2,0)])),(7,true,I ks.length),(8,true,I i.val)])
  (fun _=>[(1,⟨true,ks.map nC,3⟩),bTp 2 3 tk.length,bTk 3 tk]) (fun i=>ks.length-i.val) ⟨0,by omega,rfl⟩ (fun _=>hM) (fun _=>ClE.of rfl) [(1,1),(2,2),(3,3)] ?_ ?_
 ·exact⟨rfl,⟨⟨rfl,rfl⟩,⟨rfl,rfl⟩,⟨rfl,rfl⟩,trivial⟩,⟨rfl,rfl,rfl,rfl,trivial⟩,⟨.inr ⟨_,rfl,.inl (renV (v_nC _))⟩,.inr ⟨_,rfl,.inl rfl⟩,.inr ⟨_,rfl,.inl (renV (v_bC _))⟩,trivial⟩⟩
 ·rintro⟨i,hi,hx⟩ J hb
  simp only at hb hi hx⊢
  refine Sm.go 120 ?_
  refine vv ?_
  refine mtch (fun hc=>?_) (fun hc=>?_)
  ·have hc:=lt_of_dec hc
   rw[ixF_step _ ks i hc]at hx
   simp(maxSteps:=2000000) only[go_sem,get_nC hc]
   refine⟨⟨by omega,by omega⟩,?_⟩
   have hk':=hk ks[i] (List.getElem_mem hc)
   generalize ks[i]=k at*
   refine CallQ.ren [(1,2),(2,3)] 120 (o11 tk k hk') hM1 rfl rfl ⟨⟨_,rfl,.inl rfl⟩,⟨_,rfl,.inl (renV (v_bC _))⟩,trivial⟩ rfl (.inr rfl) ?_
   refine vv ?_
   refine mtch (fun hd=>?_) (fun hd=>?_)
   ·rw[hd,cond_true]at hx
    exact RetQ.of hR rfl scc (by rw[hx];rfl) (Sub.refl _) hM (ClV.of rfl)
   ·rw[hd,cond_false]at hx
    simp only[wS (show i≤1000000000000000000 by omega)]
    exact hb _ _ ⟨i+1,hc,hx⟩ [(1,1),(2,2),(3,3)] (by simp only;omega) ⟨rfl,⟨⟨rfl,rfl⟩,⟨rfl,rfl⟩,⟨rfl,rfl⟩,trivial⟩,⟨rfl,rfl,rfl,rfl,trivial⟩,⟨.inr ⟨_,rfl,.inl (renV (v_nC _))⟩,.inr ⟨_,rfl,.inl rfl⟩,.inr ⟨_,rfl,.inl (renV (v_bC _))⟩,trivial⟩⟩
  ·have hc:=eq_of_dec hi hc
   rw[hc,List.drop_length]at hx
   exact RetQ.of hR rfl scc (by rw[hx];rfl) (Sub.refl _) hM (ClV.of rfl)
theorem co11 (ks:List Nat)(hks:ks.length≤1000000000000000)(tk:List Bool)(hk:∀k∈ks,k<tk.length):CallOk Tryz.prog 106 [.c (.sl 1 0 ks.length 1),.c (.fn 108 [(2,0)])] [(1,⟨true,ks.map nC,3⟩),bTp 2 3 tk.length,bTk 3 tk] (Bo (ks.any fun k=> !tk.getD k false)) []:=by
 have hM:ClM [(1,⟨true,ks.map nC,3⟩),bTp 2 3 tk.length,bTk 3 tk]:=ClM.of (by simp only[List.all_cons,inMV (v_bC _),inMV (v_nC _)];rfl)
 refine CallOk.mkN 100 Tryz.func106 rfl en106 (by simp[Tryz.ntmps106]) (ClA.of rfl) rfl rfl fun C hR hP=>?_
 refine vv ?_
 refine CallQ.ren [(1,1),(2,2),(3,3)] 120 (ix11 ks hks tk hk) hM rfl rfl ⟨⟨_,rfl,.inl (renV (v_nC _))⟩,⟨_,rfl,.inl rfl⟩,⟨_,rfl,.inl (renV (v_bC _))⟩,trivial⟩ rfl (.inr rfl) ?_
 refine vv ?_
 refine RetQ.of hR rfl scc ?_ (Sub.refl _) hM (ClV.of rfl)
 rw[←ixF_any _ ks 0 (by omega)];rfl
theorem ready_ {H:Hp}{cp:Value}{d:DgL}{bT bC' bM bS:Nat}(k:Ck H cp d bT bC' bM bS)(l:List Nat)(i:Nat)(hi:i<d.bls.length)(hl:d.bls[i].c.ins.length≤1000000):
  CallX H Tryz.prog 105 [I i,.c (.p 1 0),.c (.p 2 0)] [bTp 1 3 d.bls.length,bTk 3 (tkOf d.bls.length l),(2,⟨true,[.v cp],97⟩)] (fun _:Unit=>Bo (rdy (befB d.c) l i)) (fun _=>[]) (fun _ _=>True):=by
 have hM:ClM [bTp 1 3 d.bls.length,bTk 3 (tkOf d.bls.length l),(2,⟨true,[.v cp],97⟩)]:=ClM.of (by simp only[List.all_cons,inMV (v_bC _)];rfl)
 have hg:((tkOf d.bls.length l).map bC)[i]?=some (bC (l.contains i)):=by rw[get_bC (by rw[tkOf_len];exact hi),tk_get hi]
 have hbl:(befB d.c i).length≤1000000:=by
  rw[befB_get hi]
  unfold need
  split
  ·simp
  ·refine Nat.le_trans ?_ hl
   rw[List.length_flatMap]
   generalize d.bls[i].c.ins=q
   induction q with
   |nil=>simp
   |cons s q ih=>
    rw[List.map_cons,List.sum_cons,List.length_cons]
    have:(nee1 (sigs d.c) d.ins.length s).length≤1:=by unfold nee1;split<;>simp
    omega
 refine CallX.mkS Tryz.func105 rfl en105 (by simp[Tryz.ntmps105]) (ClA.of rfl) (fun _=>rfl) (fun _=>rfl) fun C hR hP hH hL=>?_
 have hR:=hR () C hL trivial
 have hrd:rdy (befB d.c) l i=(!l.contains i&&(befB d.c i).all fun k=>l.contains k):=rfl
 refine Sm.go 100 ?_
 cases hb:l.contains i with
 |true=>
  rw[hrd,hb]at hR
  rw[hb]at hg
  simp(maxSteps:=2000000) only[go_sem,hg]
  refine⟨⟨by omega,by omega⟩,?_⟩
  refine CallQ.guard (xs:=[]) (v:= .c (.v (.slice none 0 0))) 110 (fun h=>by cases h) (fun h=>by cases h) ?_
  refine vv ?_
  refine CallQ.guard (xs:=[]) (v:=Bo true) 110 (fun h=>by cases h) (fun h=>by cases h) ?_
  refine vv ?_
  exact RetQ.of hR rfl scc rvv (Sub.refl _) hM (ClV.of rfl)
 |false=>
  rw[hrd,hb]at hR
  rw[hb]at hg
  simp(maxSteps:=2000000) only[go_sem,hg]
  refine⟨⟨by omega,by omega⟩,?_⟩
  refine CallQ.hr [(1,130)] 131 (before_ k i hi hl) hH ClM.nil rfl rfl trivial rfl (.inl rfl) ?_
  simp only[Mem.ren,List.map_cons,List.map_nil,renV (v_nC _),V.ren,Cv.ren,rn,Nat.reduceBEq,cond_true,cond_false]
  refine vv ?_
  refine CallQ.ren [(1,130),(2,1),(3,3)] 140 (co11 (befB d.c i) (by omega) (tkOf d.bls.length l) (fun k hk=>by rw[tkOf_len];exact befB_lt d i hi k hk)) (ClM.of (by simp only[List.all_cons,inMV (v_bC _),inMV (v_nC _)];rfl)) rfl rfl ⟨⟨_,rfl,wkV (v_nC _)⟩,⟨_,rfl,.inl (by rw[tkOf_len];rfl)⟩,⟨_,rfl,.inl (renV (v_bC _))⟩,trivial⟩ rfl (.inr rfl) ?_
  refine vv ?_
  refine RetQ.of hR rfl scc ?_ (SubS.sub ⟨⟨_,rfl,.inl rfl⟩,⟨_,rfl,.inl rfl⟩,⟨_,rfl,.inl rfl⟩,trivial⟩) hM (ClV.of rfl)
  have hall:((befB d.c i).any fun k=> !(tkOf d.bls.length l).getD k false)= !((befB d.c i).all fun k=>l.contains k):=by
   rw[List.all_eq_not_any_not,Bool.not_not]
   rw[Bool.eq_iff_iff,List.any_eq_true,List.any_eq_true]
   constructor
   ·rintro⟨x,hx,h⟩
    exact⟨x,hx,by rw[tk_get (befB_lt d i hi x hx)]at h;exact h⟩
   ·rintro⟨x,hx,h⟩
    exact⟨x,hx,by rw[tk_get (befB_lt d i hi x hx)];exact h⟩
  rw[hall,Bool.not_not]
  rfl
theorem nxt_first {B:Nat→List Nat}{N:Nat}{l:List Nat}{i:Nat}(hi:i<N)(h:∀j,j<i→rdy B l j=false)(hr:rdy B l i=true):nxt B N l=some i:=by
 unfold nxt
 rw[List.find?_range_eq_some]
 exact⟨hr,List.mem_range.2 hi,fun j hj=>by rw[h j hj];rfl⟩
theorem nxt_nope {B:Nat→List Nat}{N:Nat}{l:List Nat}(h:∀j,j<N→rdy B l j=false):nxt B N l=none:=by
 unfold nxt
 rw[List.find?_eq_none]
 intro j hj
 rw[h j (List.mem_range.1 hj)];simp
theorem ordGo_none {B:Nat→List Nat}{N:Nat}{l:List Nat}(h:nxt B N l=none):∀r,ordGo B N r l=l
 |0=>rfl
 |r+1=>by rw[ordGo,h]
theorem reps_bool:∀N:Nat,reps N [Cv.v (.bool false)]=(tkOf N []).map bC:=by
 intro N
 have h:(tkOf N [])=List.replicate N false:=by
  apply List.ext_getElem?
  intro j
  rw[tkOf,List.getElem?_map,List.getElem?_replicate]
  by_cases hj:j<N
  ·rw[List.getElem?_range hj,if_pos hj];rfl
  ·rw[List.getElem?_eq_none (by simp;omega),if_neg hj];rfl
 rw[h,List.map_replicate]
 induction N with
 |zero=>rfl
 |succ n ih=>rw[reps,ih (by
   apply List.ext_getElem?
   intro j
   rw[tkOf,List.getElem?_map,List.getElem?_replicate]
   by_cases hj:j<n
   ·rw[List.getElem?_range hj,if_pos hj];rfl
   ·rw[List.getElem?_eq_none (by simp;omega),if_neg hj];rfl),List.replicate_succ];rfl
theorem order_ {H:Hp}{cp:Value}{d:DgL}{bT bC' bM bS:Nat}(k:Ck H cp d bT bC' bM bS)(hl:∀b∈d.bls,b.c.ins.length≤1000000):
  CallX H Tryz.prog 46 [.c (.v cp)] [] (fun _:Unit=> .c (.sl 1 0 (ordR (befB d.c) d.bls.length).length 1)) (fun _=>[bNt 1 (ordR (befB d.c) d.bls.length)]) (fun _ _=>True):=by
 have hn2:=k.n2
 obtain⟨ca,rfl⟩:=PtH.ptr k.c.p
 refine CallX.mkS Tryz.func46 rfl en46 (by simp[Tryz.ntmps46]) (ClA.of rfl) (fun _=>rfl) (fun _=>rfl) fun C hR hP hH hL=>?_
 have hR:=hR () C hL trivial
 have hpt:=k.c.p.mono hH
 refine Sm.go 100 ?_
 refine vv ?_
 refine Sm.bringP 1 147 7 hpt rfl rfl (Sm.go 110 ?_)
 simp(maxSteps:=2000000) only[go_sem,reps_bool]
 refine⟨⟨by omega,by omega,by omega⟩,?_⟩
 refine Sm.bringP 2 147 15 hpt rfl rfl (Sm.go 120 ?_)
 refine vv ?_
 refine Sm.nils 140 1 3 [3] [] rfl ?_
 refine vv ?_
 generalize hB:befB d.c=B at*
 generalize hN:d.bls.length=N at*
 have hRd:∀l i,i<N→CallX H Tryz.prog 105 [I i,.c (.p 1 0),.c (.p 2 0)] [bTp 1 3 N,bTk 3 (tkOf N l),(2,⟨true,[.v (.pointer ca)],97⟩)] (fun _:Unit=>Bo (rdy B l i)) (fun _=>[]) (fun _ _=>True):=fun l i hi=>by
  have:=ready_ k l i (by omega) (hl _ (List.getElem_mem _))
  rw[hB,hN]at this;exact this
 let Mm:List Nat→Mem:=fun l=>[(1,⟨false,[.v (.pointer ca)],97⟩),(4,⟨false,[.sl 5 0 N 1],162⟩),(5,⟨false,(tkOf N l).map bC,4⟩),bNt 6 l]
 have hcl:∀l,ClM (Mm l):=fun l=>ClM.of (by simp only[Mm,List.all_cons,inMV (v_bC _),inMV (v_nC _)];rfl)
 refine Sm.loopM (M0:=[]) (α:={x:Nat×List Nat//x.1≤N∧x.2.length≤x.1∧ordR B N=ordGo B N (N-x.1) x.2}) hP (fun x=>[(1,true,.c (.p 1 0)),(3,true,.c (.sl 6 0 x.val.2.length 1)),(4,true,.c (.p 4 0)),(5,true,.c (.fn 105 [(4,0),(1,0)])),(20,true,I N),(21,true,I x.val.1)])
  (fun x=>Mm x.val.2) (fun x=>N-x.val.1) ⟨(0,[]),by omega,by simp,rfl⟩ (fun _=>hcl _) (fun _=>ClE.of rfl) [(1,100),(4,111),(5,110),(6,140)] ?_ ?_
 ·exact⟨rfl,trivial,⟨rfl,rfl,rfl,rfl,rfl,rfl,trivial⟩,⟨.inr ⟨_,rfl,.inl rfl⟩,.inr ⟨_,rfl,.inl rfl⟩,.inr ⟨_,rfl,.inl (renV (v_bC _))⟩,.inr ⟨_,rfl,.inl (renV (v_nC _))⟩,trivial⟩⟩
 ·rintro⟨⟨j,l⟩,hj,hlj,hx⟩ J hb
  simp only at hb hj hlj hx⊢
  refine Sm.go 150 ?_
  simp(maxSteps:=2000000) only[go_sem,Mm]
  refine mtch (fun hc=>?_) (fun hc=>?_)
  ·have hc:=lt_of_dec hc
   refine Sm.bringP 2 147 23 hpt rfl rfl (Sm.go 160 ?_)
   simp(maxSteps:=2000000) only[go_sem,hN]
   refine Sm.loopM (M0:=[]) (α:={i:Nat//i≤N∧∀q,q<i→rdy B l q=false}) hP (fun i=>[(1,true,.c (.p 1 0)),(3,true,.c (.sl 6 0 l.length 1)),(4,true,.c (.p 4 0)),(5,true,.c (.fn 105 [(4,0),(1,0)])),(20,true,I N),(21,true,I j),(28,true,I N),(29,true,I i.val)])
    (fun _=>Mm l) (fun i=>N-i.val) ⟨0,by omega,fun q h=>by omega⟩ (fun _=>hcl _) (fun _=>ClE.of rfl) [(1,1),(4,4),(5,5),(6,6)] ?_ ?_
   ·exact⟨rfl,trivial,⟨rfl,rfl,rfl,rfl,rfl,rfl,rfl,rfl,trivial⟩,⟨.inr ⟨_,rfl,.inl rfl⟩,.inr ⟨_,rfl,.inl rfl⟩,.inr ⟨_,rfl,.inl (renV (v_bC _))⟩,.inr ⟨_,rfl,.inl (renV (v_nC _))⟩,trivial⟩⟩
   ·rintro⟨i,hi,hq⟩ J' hb'
    simp only at hb' hi hq⊢
    refine Sm.go 170 ?_
    simp(maxSteps:=2000000) only[go_sem,Mm]
    refine mtch (fun hic=>?_) (fun hic=>?_)
    ·have hic:=lt_of_dec hic
     refine CallQ.hr [(1,4),(3,5),(2,1)] 180 (hRd l i hic) hH (ClM.of (by simp only[List.all_cons,inMV (v_bC _)];rfl)) rfl rfl ⟨⟨_,rfl,.inr ⟨rfl,[],rfl⟩⟩,⟨_,rfl,wkV (v_bC _)⟩,⟨_,rfl,.inr ⟨rfl,[],rfl⟩⟩,trivial⟩ rfl (.inr rfl) ?_
     refine vv ?_
     cases hr:rdy B l i with
     |true=>
      have hnx:=nxt_first hic hq hr
      refine Sm.go 190 ?_
      refine vv ?_
      refine Sm.dgW [6] 200 6 mix ?_
      simp(maxSteps:=2000000) only[go_sem,Mem.wo]
      have hlen:(l.map nC).length=l.length:=List.length_map _
      have hap:List.take l.length (l.map nC)++[nC i]=(l++[i]).map nC:=by rw[List.take_of_length_le (by omega),List.map_append];rfl
      refine DOpQ.opy [(200,⟨false,[nC i],3⟩),(6,⟨false,l.map nC,3⟩)] 210 (by simp(maxSteps:=2000000) only[go_sem,hlen,hap]<;>rfl) ?_ rfl ⟨⟨rfl,rfl,rfl⟩,⟨rfl,rfl,rfl⟩,trivial⟩ rfl rfl ?_
      ·exact⟨by omega,by omega,by omega⟩
      refine vv ?_
      have hst:((tkOf N l).map bC).set i (bC true)=(tkOf N (l++[i])).map bC:=by
       rw[←tk_set hic,List.map_set]
      simp only[List.length_map,tkOf_len,hst]
      refine⟨⟨by omega,by omega⟩,by omega,?_⟩
      refine Sm.go 220 ?_
      simp(maxSteps:=2000000) only[go_sem,wS (show j≤1000000000000000000 by omega)]
      have hx2:ordR B N=ordGo B N (N-(j+1)) (l++[i]):=by
       rw[hx,show N-j=(N-(j+1))+1 by omega,ordGo,hnx]
      refine hb _ _ ⟨(j+1,l++[i]),hc,by simp only[List.length_append,List.length_cons,List.length_nil];omega,hx2⟩ [(1,1),(4,4),(5,5),(6,210)] (by simp only;omega) ?_
      simp only[List.length_append,List.length_cons,List.length_nil]
      exact⟨rfl,trivial,⟨rfl,rfl,rfl,rfl,rfl,rfl,trivial⟩,⟨.inr ⟨_,rfl,.inl rfl⟩,.inr ⟨_,rfl,.inl rfl⟩,.inr ⟨_,rfl,.inl (renV (v_bC _))⟩,.inr ⟨_,rfl,.inl (renV (v_nC _))⟩,trivial⟩⟩
     |false=>
      simp(maxSteps:=2000000) only[go_sem,wS (show i≤1000000000000000000 by omega)]
      refine hb' _ _ ⟨i+1,hic,fun q h=>?_⟩ [(1,1),(4,4),(5,5),(6,6)] (by simp only;omega) ⟨rfl,trivial,⟨rfl,rfl,rfl,rfl,rfl,rfl,rfl,rfl,trivial⟩,⟨.inr ⟨_,rfl,.inl rfl⟩,.inr ⟨_,rfl,.inl rfl⟩,.inr ⟨_,rfl,.inl (renV (v_bC _))⟩,.inr ⟨_,rfl,.inl (renV (v_nC _))⟩,trivial⟩⟩
      rcases Nat.lt_or_ge q i with h'|h'
      ·exact hq q h'
      ·rw[show q=i by omega];exact hr
    ·have hic:=eq_of_dec hi hic
     subst hic
     have hnx:=nxt_nope hq
     have hx2:ordR B i=ordGo B i (i-(j+1)) l:=by rw[hx,ordGo_none hnx,ordGo_none hnx]
     simp(maxSteps:=2000000) only[go_sem,wS (show j≤1000000000000000000 by omega)]
     refine hb _ _ ⟨(j+1,l),hc,by simp only;omega,hx2⟩ [(1,1),(4,4),(5,5),(6,6)] (by simp only;omega) ⟨rfl,trivial,⟨rfl,rfl,rfl,rfl,rfl,rfl,trivial⟩,⟨.inr ⟨_,rfl,.inl rfl⟩,.inr ⟨_,rfl,.inl rfl⟩,.inr ⟨_,rfl,.inl (renV (v_bC _))⟩,.inr ⟨_,rfl,.inl (renV (v_nC _))⟩,trivial⟩⟩
  ·have hc:=eq_of_dec hj hc
   subst hc
   rw[Nat.sub_self]at hx
   have hx:ordR B j=l:=hx
   rw[hx]at hR
   exact RetQ.ren [(1,6)] hR hP rfl scc rfl rfl trivial ⟨.inr ⟨_,rfl,.inl (renV (v_nC _))⟩,trivial⟩ (ClM.of (by simp only[List.cons_append,List.nil_append,List.append_nil,List.all_cons,inMV (v_nC _)];rfl)) (ClV.of rfl)
end Go.Proofs.YtkciabfilokfiaaGreat.Fx
