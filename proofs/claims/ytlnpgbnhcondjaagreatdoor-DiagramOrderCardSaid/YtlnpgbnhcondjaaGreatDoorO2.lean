/-  -/
import Derived.Test.YtlnpgbnhcondjaaGreatDoorTf
import Derived.Test.YtlnpgbnhcondjaaGreatDoorYF
import Derived.Test.YtlnpgbnhcondjaaGreatDoorRQ
import Derived.Test.YtlnpgbnhcondjaaGreatDoorY8
namespace Go.Proofs.YtlnpgbnhcondjaaGreatDoor.Fx
set_option linter.unusedVariables false
set_option linter.unusedSimpArgs false
theorem lns_ok:∀(L:List Str) (i:Nat),(∀j l,L[j]?=some l→(linQ (i+j+1) l (l.length+1) 0).2=none)→(lnsQ i L).2.2=0
 |[],i,_=>rfl
 |l::L,i,h=>by
  have h0:=h 0 l rfl
  rw[Nat.add_zero]at h0
  rw[lnsQ,h0]
  simp only
  have h1:=lns_ok L (i+1) fun j m hm=>by
   have:=h (j+1) m (by simpa using hm)
   rw[show i+1+j+1=i+(j+1)+1 from by omega];exact this
  rw[if_neg (by rw[h1];simp)]
theorem splB_mid (c:UInt8)(r:Str):∀a:Str,c∉a→splB c (a++c::r)=a::splB c r
 |[],_=>by rw[List.nil_append,splB_cons,if_pos rfl]
 |x::a,h=>by
  rw[List.cons_append,splB_cons,if_neg (fun hh=>h (by rw[hh];exact List.mem_cons_self ..)),splB_mid c r a (fun hh=>h (List.mem_cons_of_mem _ hh))]
def nxB (r:Str):Prop:=∀c,r.head?=some c→inB c=false
theorem getD_pre (pre x:Str)(i:Nat):(pre++x).getD (pre.length+i) 0=x.getD i 0:=by
 rw[List.getD_eq_getElem?_getD,List.getD_eq_getElem?_getD,List.getElem?_append_right (by omega),Nat.add_sub_cancel_left]
theorem run1_pre (p:UInt8→Bool)(pre x:Str)(i:Nat):run1 p (pre++x) (pre.length+i)=run1 p x i:=by
 unfold run1
 rw[List.drop_append,List.drop_eq_nil_of_le (by omega),List.nil_append,Nat.add_sub_cancel_left]
theorem sub_pre (pre x:Str)(n:Nat):subS2 (pre++x) pre.length n=subS2 x 0 n:=by
 unfold subS2
 rw[List.drop_left];rfl
theorem dec_pre (pre x:Str)(n:Nat):decide (pre.length+n<(pre++x).length)=decide (0+n<x.length):=by
 rw[decide_eq_decide,List.length_append];omega
theorem scn_pre (pre x:Str):scnQ (pre++x) pre.length=scnQ x 0:=by
 have g0:(pre++x).getD pre.length 0=x.getD 0 0:=getD_pre pre x 0
 have r0:∀p,run1 p (pre++x) pre.length=run1 p x 0:=fun p=>run1_pre p pre x 0
 have r1:∀p,run1 p (pre++x) (pre.length+1)=run1 p x (0+1):=fun p=>run1_pre p pre x 1
 have g1:(pre++x).getD (pre.length+1) 0=x.getD (0+1) 0:=getD_pre pre x 1
 have gn:∀n,(pre++x).getD (pre.length+n) 0=x.getD (0+n) 0:=fun n=>by rw[getD_pre,Nat.zero_add]
 unfold scnQ
 simp only[g0,r0,r1,g1,gn,sub_pre,dec_pre]
theorem tw_app (p:UInt8→Bool)(r:Str)(hr:∀c,r.head?=some c→p c=false):∀w:Str,(∀c∈w,p c=true)→(w++r).takeWhile p=w
 |[],_=>by
  cases r with
  |nil=>rfl
  |cons c r=>rw[List.nil_append,List.takeWhile_cons,hr c rfl];rfl
 |c::w,h=>by
  rw[List.cons_append,List.takeWhile_cons,h c (List.mem_cons_self ..),if_pos rfl,tw_app p r hr w fun x hx=>h x (List.mem_cons_of_mem _ hx)]
theorem tw_mem (p:UInt8→Bool):∀(l:Str),∀c∈l.takeWhile p,p c=true
 |[],c,h=>by cases h
 |x::l,c,h=>by
  rw[List.takeWhile_cons]at h
  split at h
  ·rcases List.mem_cons.1 h with h|h
   ·subst h;assumption
   ·exact tw_mem p l c h
  ·cases h
theorem tw_take (p:UInt8→Bool):∀l:Str,l.take (l.takeWhile p).length=l.takeWhile p
 |[]=>rfl
 |x::l=>by
  rw[List.takeWhile_cons]
  split
  ·rw[List.length_cons,List.take_succ_cons,tw_take p l]
  ·rfl
theorem diB_inB {c:UInt8}(h:inB c=false):diB c=false∧leB c=false∧(c==95)=false:=by
 unfold inB at h
 rw[Bool.or_eq_false_iff,Bool.or_eq_false_iff]at h
 refine⟨h.2.1,h.1,?_⟩
 have:=of_decide_eq_false h.2.2
 rw[beq_eq_false_iff_ne]
 rintro rfl
 exact this rfl
structure TkV (k:Nat) (t:Str):Prop where
 n:t≠[]
 h:∀pre r,nxB r→scnQ (pre++(t++r)) pre.length=(k,t.length,0)
theorem scn_tkv {l:Str}{k:Nat}(hk:k<l.length)(he:(scnQ l k).2.2=0)(h0:(scnQ l k).1≠0):TkV (scnQ l k).1 (subS2 l k (scnQ l k).2.1):=by
 have hs:scnQ l k=scnQ (l.drop k) 0:=by
  have:=scn_pre (l.take k) (l.drop k)
  rw[List.take_append_drop,List.length_take,Nat.min_eq_left (by omega)]at this
  exact this
 have hsub:∀n,subS2 l k n=(l.drop k).take n:=fun n=>rfl
 have hne:l.drop k≠[]:=fun h=>by have:=congrArg List.length h;rw[List.length_drop]at this;simp at this;omega
 rw[hsub,hs]
 rw[hs]at he h0
 generalize l.drop k=x at*
 cases x with
 |nil=>exact absurd rfl hne
 |cons c x=>
  have hx0:(c::x).getD 0 0=c:=rfl
  unfold scnQ at he h0⊢
  simp only[hx0]at he h0⊢
  by_cases h1:c=32∨c=9
  ·simp only[if_pos h1]at h0;exact absurd rfl h0
  simp only[if_neg h1]at he h0⊢
  by_cases h2:leB c=true
  ·simp only[if_pos h2]at he h0⊢
   by_cases h3:24<run1 inB (c::x) 0
   ·simp only[if_pos h3]at he;cases he
   ·simp only[if_neg h3]at he h0⊢
    have e0:run1 inB (c::x) 0=((c::x).takeWhile inB).length:=rfl
    have ht:(c::x).take (run1 inB (c::x) 0)=c::x.takeWhile inB:=by rw[e0,tw_take,List.takeWhile_cons,leB_inB h2];rfl
    rw[ht]
    refine⟨by simp,fun pre r hr=>?_⟩
    rw[scn_pre]
    have ew:((c::x.takeWhile inB)++r).takeWhile inB=c::x.takeWhile inB:=tw_app inB r hr _ fun y hy=>by
     rcases List.mem_cons.1 hy with h|h
     ·subst h;exact leB_inB h2
     ·exact tw_mem _ _ _ h
    have er:run1 inB ((c::x.takeWhile inB)++r) 0=(c::x.takeWhile inB).length:=by
     show(((c::x.takeWhile inB)++r).takeWhile inB).length=_
     rw[ew]
    have e1:run1 inB (c::x) 0=(c::x.takeWhile inB).length:=by rw[e0,List.takeWhile_cons,leB_inB h2];rfl
    rw[e1]at h3
    have hg:((c::x.takeWhile inB)++r).getD 0 0=c:=rfl
    unfold scnQ
    simp only[hg,if_neg h1,if_pos h2,er,if_neg h3]
  simp only[if_neg h2]at he h0⊢
  by_cases h4:(diB c||(c==45&&(decide (0+1<(c::x).length)&&diB ((c::x).getD (0+1) 0))))=true
  ·simp only[if_pos h4]at he h0⊢
   split at he
   ·cases he
   ·rename_i h5
    split at he
    ·cases he
    ·rename_i h6
     simp only[if_neg h5,if_neg h6]
     have e0:run1 diB (c::x) (0+1)=(x.takeWhile diB).length:=rfl
     have ht:(c::x).take (1+run1 diB (c::x) (0+1))=c::x.takeWhile diB:=by rw[e0,Nat.add_comm,List.take_succ_cons,tw_take]
     have hsb:subS2 (c::x) 0 (1+run1 diB (c::x) (0+1))=c::x.takeWhile diB:=ht
     rw[hsb]at h5 h6
     rw[ht]
     refine⟨by simp,fun pre r hr=>?_⟩
     rw[scn_pre]
     have ew:(x.takeWhile diB++r).takeWhile diB=x.takeWhile diB:=tw_app diB r (fun y hy=>(diB_inB (hr y hy)).1) _ (tw_mem _ _)
     have er:run1 diB ((c::x.takeWhile diB)++r) (0+1)=(x.takeWhile diB).length:=by
      show((x.takeWhile diB++r).takeWhile diB).length=_
      rw[ew]
     have hg:((c::x.takeWhile diB)++r).getD 0 0=c:=rfl
     have h4':(diB c||(c==45&&(decide (0+1<((c::x.takeWhile diB)++r).length)&&diB (((c::x.takeWhile diB)++r).getD (0+1) 0))))=true:=by
      cases hd:diB c with
      |true=>rfl
      |false=>
       rw[hd,Bool.false_or,Bool.and_eq_true,Bool.and_eq_true]at h4
       obtain⟨q1,q2,q3⟩:=h4
       rw[q1]
       cases x with
       |nil=>exact absurd (of_decide_eq_true q2) (by simp)
       |cons y x=>
        have q3:diB y=true:=q3
        rw[List.takeWhile_cons,q3]
        simp[q3]
     have hsb2:subS2 ((c::x.takeWhile diB)++r) 0 (1+(x.takeWhile diB).length)=c::x.takeWhile diB:=by
      show((c::x.takeWhile diB)++r).take _=_
      rw[Nat.add_comm,List.cons_append,List.take_succ_cons,List.take_left]
     have h5':¬((decide (0+(1+(x.takeWhile diB).length)<((c::x.takeWhile diB)++r).length)&&(leB (((c::x.takeWhile diB)++r).getD (0+(1+(x.takeWhile diB).length)) 0)||((c::x.takeWhile diB)++r).getD (0+(1+(x.takeWhile diB).length)) 0==95))|| !canQ (c::x.takeWhile diB))=true:=by
      intro hh
      apply h5
      rw[Bool.or_eq_true]at hh⊢
      right
      rcases hh with hh|hh
      ·exfalso
       have e9:((c::x.takeWhile diB)++r).getD (0+(1+(x.takeWhile diB).length)) 0=r.getD 0 0:=by
        have:=getD_pre (c::x.takeWhile diB) r 0
        rw[List.length_cons]at this
        rw[show 0+(1+(x.takeWhile diB).length)=(x.takeWhile diB).length+1+0 from by omega];exact this
       rw[e9]at hh
       cases r with
       |nil=>simp at hh;exact absurd hh.1 (by omega)
       |cons y r=>
        have:=diB_inB (hr y rfl)
        have e8:(y::r).getD 0 0=y:=rfl
        rw[e8,this.2.1,this.2.2]at hh
        simp at hh
      ·exact hh
     unfold scnQ
     simp only[hg,if_neg h1,if_neg h2,if_pos h4',er,hsb2,if_neg h5',if_neg h6]
     rw[List.length_cons,Nat.add_comm]
  simp only[if_neg h4]at he h0⊢
  by_cases h7:symL.contains c=true
  ·simp only[if_pos h7]at he h0⊢
   have ht:(c::x).take 1=[c]:=rfl
   rw[ht]
   refine⟨by simp,fun pre r hr=>?_⟩
   rw[scn_pre]
   have hg:([c]++r).getD 0 0=c:=rfl
   have h4':¬(diB c||(c==45&&(decide (0+1<([c]++r).length)&&diB (([c]++r).getD (0+1) 0))))=true:=by
    intro hh
    rw[Bool.or_eq_true]at hh
    rcases hh with hh|hh
    ·exact h4 (by rw[hh];rfl)
    ·rw[Bool.and_eq_true]at hh
     have:=eq_of_beq hh.1
     subst this
     exact absurd h7 (by decide)
   unfold scnQ
   simp only[hg,if_neg h1,if_neg h2,if_neg h4',if_pos h7]
   rfl
  ·simp only[if_neg h7]at he;cases he
theorem lin_tkv (ln:Nat)(l:Str):∀(f k:Nat),k≤l.length→∀t∈(linQ ln l f k).1,TkV t.k t.s∧∀c∈t.s,c∈l
 |0,k,hk=>fun t h=>by cases h
 |f+1,k,hk=>by
  rw[linQ]
  by_cases h1:l.length≤k
  ·rw[if_pos h1];exact fun t h=>by cases h
  rw[if_neg h1]
  by_cases h2:l.getD k 0=35
  ·rw[if_pos h2]
   cases badK l (l.length+1) k<;>exact fun t h=>by cases h
  rw[if_neg h2]
  by_cases h3:(scnQ l k).2.2≠0
  ·rw[if_pos h3];exact fun t h=>by cases h
  rw[if_neg h3]
  have he:(scnQ l k).2.2=0:=by omega
  obtain⟨q1,q2,q3⟩:=scn_ok (by omega) he
  intro t ht
  rcases List.mem_append.1 ht with h|h
  ·split at h
   ·cases h
   ·rename_i h0
    rw[List.mem_singleton]at h
    subst h
    exact⟨scn_tkv (by omega) he h0,fun c hc=>List.mem_of_mem_drop (List.mem_of_mem_take hc)⟩
  ·exact lin_tkv ln l f _ q2 t h
def Bls (sp:Str):Prop:=∀c∈sp,c=32∨c=9
def lay:List (Str×Nat×Str)→Str→Str
 |[],tl=>tl
 |(sp,_,t)::ps,tl=>sp++(t++lay ps tl)
def ksT (U:List Tk):List (Nat×Str):=U.map fun t=>(t.k,t.s)
theorem ksT_sim {T U:List Tk}(g:GTk U)(h:ksT T=ksT U):SimT (fun _ _=>True) T U 0:=by
 have hg:∀i,i<U.length→((T.getD (i+0) tk0).k,(T.getD (i+0) tk0).s)=((U.getD i tk0).k,(U.getD i tk0).s):=fun i hi=>by
  have:=congrArg (fun l=>l[i]?) h
  have hl:=congrArg List.length h
  unfold ksT at this hl
  rw[List.length_map,List.length_map]at hl
  simp only[List.getElem?_map]at this
  rw[List.getElem?_eq_getElem hi,List.getElem?_eq_getElem (by omega)]at this
  rw[Nat.add_zero,List.getD_eq_getElem?_getD,List.getD_eq_getElem?_getD,List.getElem?_eq_getElem hi,List.getElem?_eq_getElem (by omega)]
  exact Option.some.inj this
 exact⟨g,fun i hi=>(Prod.mk.inj (hg i hi)).1,fun i hi=>(Prod.mk.inj (hg i hi)).2,fun _ _=>trivial⟩
theorem splB_nl (c:UInt8):∀(s:Str),∀l∈splB c s,c∉l
 |[],l,h=>by
  have:l∈[([]:Str)]:=h
  rw[List.mem_singleton]at this;subst this;simp
 |x::s,l,h=>by
  have ih:=splB_nl c s
  rw[splB_cons]at h
  split at h
  ·rcases List.mem_cons.1 h with h|h
   ·subst h;simp
   ·exact ih l h
  ·rename_i hx
   cases hq:splB c s with
   |nil=>exact absurd hq (splB_ne c s)
   |cons a t=>
    rw[hq]at h ih
    rcases List.mem_cons.1 h with h|h
    ·subst h
     have:=ih a (List.mem_cons_self ..)
     simp only[List.mem_cons,not_or]
     exact⟨fun hh=>hx hh.symm,this⟩
    ·exact ih l (List.mem_cons_of_mem _ h)
open Vg Tf
set_option maxRecDepth 100000
set_option maxHeartbeats 4000000
open Vg Tf
set_option maxRecDepth 100000
set_option maxHeartbeats 4000000
def sw (l:List Str)(i j:Nat):List Str:=(l.set i (l.getD j [])).set j (l.getD i [])
def swR (l:List Str)(a b:Nat):Nat→List Str
 |0=>l
 |k+1=>sw (swR l a b k) (a+k) (b+k)
theorem sw_len (l:List Str)(i j:Nat):(sw l i j).length=l.length:=by unfold sw;rw[List.length_set,List.length_set]
theorem swR_len (l:List Str)(a b:Nat):∀k,(swR l a b k).length=l.length
 |0=>rfl
 |k+1=>by rw[swR,sw_len,swR_len]
theorem swap_ (l:List Str)(a b k:Nat)(ha:a+k≤l.length)(hb:b+k≤l.length)(hl:l.length≤1000000)(fn:FuncId)(cp:Array Value):
  CallOk Tryz.prog 272 [.c (.sl 1 0 l.length 1),I a,I b,I k,Fv fn cp] [(1,⟨false,l.map sC,9⟩)] (.tup []) [(1,⟨false,(swR l a b k).map sC,9⟩)]:=by
 refine CallOk.mkN 100 Tryz.func272 rfl en272 (by simp[Tryz.ntmps272]) (ClA.of rfl) rfl rfl fun C hR hP=>?_
 refine vv ?_
 have v_s:=v_sC
 refine Sm.loopM (M0:=[(1,⟨false,l.map sC,9⟩)]) (α:={i:Nat//i≤k}) hP (fun i=>[(0,true,.c (.sl 1 0 l.length 1)),(1,true,I a),(2,true,I b),(3,true,I k),(10,true,I i.val)])
  (fun i=>[(1,⟨false,(swR l a b i.val).map sC,9⟩)]) (fun i=>k-i.val) ⟨0,by omega⟩ (fun _=>ClM.of (by simp only[List.all_cons,inMV (v_sC _)];rfl)) (fun _=>ClE.of rfl) [(1,1)] ?_ ?_
 ·exact⟨rfl,⟨⟨rfl,rfl⟩,trivial⟩,⟨rfl,rfl,rfl,rfl,rfl,trivial⟩,⟨oV (renV (v_sC _)),trivial⟩⟩
 rintro⟨i,hi⟩ J hj
 simp only at hj hi⊢
 refine Sm.go 110 ?_
 refine vv ?_
 refine mtch (fun hc=>?_) (fun hc=>?_)
 ·have hc:=lt_of_dec hc
  have hn:=swR_len l a b i
  have hml:((swR l a b i).map sC).length=l.length:=by rw[List.length_map,hn]
  have g1:((swR l a b i).map sC)[a+i]?=some (sC ((swR l a b i).getD (a+i) [])):=by rw[get_sC (by omega),List.getD_eq_getElem?_getD,List.getElem?_eq_getElem (by omega)];rfl
  have g2:((swR l a b i).map sC)[b+i]?=some (sC ((swR l a b i).getD (b+i) [])):=by rw[get_sC (by omega),List.getD_eq_getElem?_getD,List.getElem?_eq_getElem (by omega)];rfl
  have w1:IntKind.i64.wrap ((a:Int)+(i:Int))=((a+i:Nat):Int):=by rw[w64 (by omega) (by omega)];omega
  have w2:IntKind.i64.wrap ((b:Int)+(i:Int))=((b+i:Nat):Int):=by rw[w64 (by omega) (by omega)];omega
  have hs:(((swR l a b i).map sC).set (a+i) (sC ((swR l a b i).getD (b+i) []))).set (b+i) (sC ((swR l a b i).getD (a+i) []))=(swR l a b (i+1)).map sC:=by rw[swR,sw,←List.map_set,←List.map_set]
  refine Sm.dgW [1] 120 22 mix ?_
  simp(maxSteps:=2000000) only[go_sem,g1,g2,w1,w2,hml,Mem.wo]
  refine⟨⟨by omega,by omega⟩,?_⟩
  refine DOpQ.look (nx':=120) (sc:=True) (v:=V.c (sC ((swR l a b i).getD (b+i) []))) [(1,⟨false,(swR l a b i).map sC,9⟩)] 120 (by simp(maxSteps:=2000000) only[go_sem,g2]<;>rfl) trivial ⟨rfl,trivial⟩ rfl ?_
  simp(maxSteps:=2000000) only[go_sem,g1,hml,w1]
  refine⟨⟨by omega,by omega⟩,?_⟩
  refine DOpQ.look (nx':=120) (sc:=True) (v:=V.c (sC ((swR l a b i).getD (a+i) []))) [(1,⟨false,(swR l a b i).map sC,9⟩)] 120 (by simp(maxSteps:=2000000) only[go_sem,g1]<;>rfl) trivial ⟨rfl,trivial⟩ rfl ?_
  simp(maxSteps:=2000000) only[go_sem,hml,w1,w2,List.length_set,hs,wS (show i≤1000000000000000000 by omega)]
  refine⟨⟨by omega,by omega⟩,by omega,⟨by omega,by omega⟩,by omega,?_⟩
  exact hj _ _ ⟨i+1,hc⟩ [(1,1)] (by simp only;omega) ⟨rfl,⟨⟨rfl,rfl⟩,trivial⟩,⟨rfl,rfl,rfl,rfl,rfl,trivial⟩,⟨oV (renV (v_sC _)),trivial⟩⟩
 ·have hc:=eq_of_dec hi hc
  subst hc
  clear hj
  have hM2:ClM [(1,(⟨false,(swR l a b i).map sC,9⟩:Bk))]:=ClM.of (by simp only[List.all_cons,inMV (v_sC _)];rfl)
  exact Sm.fall hR (RetQ.of hR rfl trivial rfl (sub_sh (SubS.sub ⟨oS,trivial⟩)) (clm_sh hM2) (ClV.of rfl))
set_option linter.unusedSectionVars false
section
variable {α:Type} (key:α→Int)
def ins (x:α):List α→List α
 |[]=>[x]
 |y::l=>if key x≤key y then x::y::l else y::ins x l
def isr:List α→List α
 |[]=>[]
 |x::l=>ins key x (isr l)
def Srt (l:List α):Prop:=l.Pairwise fun x y=>key x≤key y
def Stb (l l':List α):Prop:=∀k,l'.filter (fun x=>key x==k)=l.filter fun x=>key x==k
variable {key}
theorem Stb.refl (l:List α):Stb key l l:=fun _=>rfl
theorem Stb.symm {l l':List α}(h:Stb key l l'):Stb key l' l:=fun k=>(h k).symm
theorem Stb.trans {a b c:List α}(h:Stb key a b)(h':Stb key b c):Stb key a c:=fun k=>(h' k).trans (h k)
theorem Stb.app {a b c d:List α}(h:Stb key a b)(h':Stb key c d):Stb key (a++c) (b++d):=fun k=>by rw[List.filter_append,List.filter_append,h k,h' k]
theorem Stb.cons {a b:List α}(x:α)(h:Stb key a b):Stb key (x::a) (x::b):=Stb.app (a:=[x]) (b:=[x]) (Stb.refl _) h
theorem Stb.mem {l l':List α}(h:Stb key l l'){x:α}:x∈l'↔x∈l:=by
 have:=h (key x)
 constructor
 ·intro hx
  have h1:x∈l'.filter fun y=>key y==key x:=by simp[hx]
  rw[this]at h1
  exact(List.mem_filter.1 h1).1
 ·intro hx
  have h1:x∈l.filter fun y=>key y==key x:=by simp[hx]
  rw[←this]at h1
  exact(List.mem_filter.1 h1).1
theorem Stb.swap {u v:List α}(h:∀x∈u,∀y∈v,key y<key x):Stb key (u++v) (v++u):=fun k=>by
 rw[List.filter_append,List.filter_append]
 by_cases hu:u.filter (fun x=>key x==k)=[]
 ·rw[hu,List.nil_append,List.append_nil]
 ·have hv:v.filter (fun x=>key x==k)=[]:=by
   obtain⟨x,hx⟩:=List.exists_mem_of_ne_nil _ hu
   obtain⟨h1,h2⟩:=List.mem_filter.1 hx
   refine List.filter_eq_nil_iff.2 fun y hy hk=>?_
   have:=h x h1 y hy
   simp only[beq_iff_eq]at h2 hk
   omega
  rw[hv,List.nil_append,List.append_nil]
theorem ins_mem {x y:α}:∀{l:List α},y∈ins key x l↔y=x∨y∈l
 |[]=>by simp[ins]
 |z::l=>by
  rw[ins]
  split
  ·simp
  ·simp only[List.mem_cons,ins_mem]
   constructor
   ·rintro(h|h|h)
    ·exact .inr (.inl h)
    ·exact .inl h
    ·exact .inr (.inr h)
   ·rintro(h|h|h)
    ·exact .inr (.inl h)
    ·exact .inl h
    ·exact .inr (.inr h)
theorem ins_srt {x:α}:∀{l:List α},Srt key l→Srt key (ins key x l)
 |[],_=>by simp[ins,Srt]
 |y::l,h=>by
  have h':=List.pairwise_cons.1 h
  rw[ins]
  split
  ·rename_i hc
   refine List.pairwise_cons.2 ⟨fun z hz=>?_,h⟩
   rcases List.mem_cons.1 hz with rfl|hz
   ·exact hc
   ·exact Int.le_trans hc (h'.1 z hz)
  ·rename_i hc
   refine List.pairwise_cons.2 ⟨fun z hz=>?_,ins_srt h'.2⟩
   rcases ins_mem.1 hz with rfl|hz
   ·omega
   ·exact h'.1 z hz
theorem ins_stb {x:α}:∀{l:List α},Stb key (x::l) (ins key x l)
 |[]=>Stb.refl _
 |y::l=>by
  rw[ins]
  split
  ·exact Stb.refl _
  ·rename_i hc
   refine Stb.trans (b:=y::x::l) ?_ (Stb.cons y ins_stb)
   exact Stb.app (a:=[x,y]) (b:=[y,x]) (Stb.swap (u:=[x]) (v:=[y]) fun a ha b hb=>by
    simp only[List.mem_singleton]at ha hb
    subst ha hb;omega) (Stb.refl l)
theorem isr_srt:∀l:List α,Srt key (isr key l)
 |[]=>List.Pairwise.nil
 |x::l=>ins_srt (isr_srt l)
theorem isr_stb:∀l:List α,Stb key l (isr key l)
 |[]=>Stb.refl _
 |x::l=>Stb.trans (Stb.cons x (isr_stb l)) ins_stb
theorem srt_uniq:∀{a b:List α},Srt key a→Srt key b→Stb key a b→a=b
 |[],[],_,_,_=>rfl
 |[],y::b,_,_,h=>by
  have:=(h.mem (x:=y)).1 (List.mem_cons_self ..)
  cases this
 |x::a,[],_,_,h=>by
  have:=(h.mem (x:=x)).2 (List.mem_cons_self ..)
  cases this
 |x::a,y::b,ha,hb,h=>by
  have ha':=List.pairwise_cons.1 ha
  have hb':=List.pairwise_cons.1 hb
  have h1:key x=key y:=by
   have h1:key x≤key y:=by
    rcases List.mem_cons.1 ((h.mem (x:=y)).1 (List.mem_cons_self ..))with e|e
    ·rw[e];exact Int.le_refl _
    ·exact ha'.1 y e
   have h2:key y≤key x:=by
    rcases List.mem_cons.1 ((h.mem (x:=x)).2 (List.mem_cons_self ..))with e|e
    ·rw[e];exact Int.le_refl _
    ·exact hb'.1 x e
   omega
  have h2:=h (key x)
  rw[List.filter_cons,List.filter_cons,if_pos (by simp[h1]),if_pos (by simp)]at h2
  obtain⟨h2,h3⟩:=List.cons.inj h2
  subst h2
  rw[srt_uniq ha'.2 hb'.2 fun k=>?_]
  have h4:=h k
  rw[List.filter_cons,List.filter_cons]at h4
  split at h4
  ·exact(List.cons.inj h4).2
  ·exact h4
theorem isr_of {a b:List α}(h1:Srt key b)(h2:Stb key a b):b=isr key a:=srt_uniq h1 (isr_srt a) (h2.symm.trans (isr_stb a))
theorem isr_self {a:List α}(h:Srt key a):isr key a=a:=(isr_of h (Stb.refl a)).symm
theorem isr_mem {a:List α}{x:α}:x∈isr key a↔x∈a:=(isr_stb a).mem
theorem Srt.sub {a b:List α}(h:Srt key a)(hs:b.Sublist a):Srt key b:=List.Pairwise.sublist hs h
theorem srt_app {a b:List α}(ha:Srt key a)(hb:Srt key b)(h:∀x∈a,∀y∈b,key x≤key y):Srt key (a++b):=List.pairwise_append.2 ⟨ha,hb,h⟩
theorem Srt.app {a b:List α}(h:Srt key (a++b)):Srt key a∧Srt key b∧∀x∈a,∀y∈b,key x≤key y:=List.pairwise_append.1 h
theorem Stb.len {l l':List α}(h:Stb key l l'):l'.length=l.length:=by
 rw[show l'.length=(isr key l').length from ?_,show l.length=(isr key l).length from ?_,srt_uniq (isr_srt l') (isr_srt l) (((isr_stb l').symm.trans h.symm).trans (isr_stb l))]
 all_goals exact(isr_len _).symm
where
 ins_len (x:α):∀l:List α,(ins key x l).length=l.length+1
  |[]=>rfl
  |y::l=>by
   rw[ins]
   split
   ·rfl
   ·rw[List.length_cons,ins_len x l,List.length_cons]
 isr_len:∀l:List α,(isr key l).length=l.length
  |[]=>rfl
  |x::l=>by rw[isr,ins_len,isr_len l,List.length_cons]
theorem isr_len (l:List α):(isr key l).length=l.length:=(isr_stb l).len
theorem isr_snoc {S1 S2 l:List α}{x:α}(hS:S1++S2=isr key l)(h1:∀y∈S1,key y≤key x)(h2:∀y∈S2,key x<key y):S1++x::S2=isr key (l++[x]):=by
 have hs:Srt key (S1++S2):=by rw[hS];exact isr_srt l
 obtain⟨s1,s2,s3⟩:=hs.app
 refine isr_of (srt_app s1 (List.pairwise_cons.2 ⟨fun y hy=>Int.le_of_lt (h2 y hy),s2⟩) fun a ha b hb=>?_) ?_
 ·rcases List.mem_cons.1 hb with rfl|hb
  ·exact h1 a ha
  ·exact s3 a ha b hb
 ·have e1:Stb key (l++[x]) (S1++S2++[x]):=by rw[hS];exact Stb.app (isr_stb l) (Stb.refl _)
  refine e1.trans ?_
  rw[List.append_assoc]
  exact Stb.app (Stb.refl S1) (Stb.swap (u:=S2) (v:=[x]) fun a ha b hb=>by rw[List.mem_singleton.1 hb];exact h2 a ha)
theorem last_le {S1:List α}{y x:α}(h:Srt key (S1++[y]))(hx:key y≤key x):∀z∈S1++[y],key z≤key x:=fun z hz=>by
 rcases List.mem_append.1 hz with hz|hz
 ·exact Int.le_trans (h.app.2.2 z hz y (by simp)) hx
 ·rw[List.mem_singleton.1 hz];exact hx
theorem mrg_cut {U1 U2 V1 V2:List α}(hU:Srt key (U1++U2))(hV:Srt key (V1++V2))(h1:∀x∈U1,∀y∈V2,key x≤key y)(h2:∀x∈U2,∀y∈V1,key y<key x):isr key (U1++U2++(V1++V2))=isr key (U1++V1)++isr key (U2++V2):=by
 refine(isr_of (srt_app (isr_srt _) (isr_srt _) fun x hx y hy=>?_) ?_).symm
 ·rw[isr_mem,List.mem_append]at hx hy
  rcases hx with hx|hx<;>rcases hy with hy|hy
  ·exact hU.app.2.2 x hx y hy
  ·exact h1 x hx y hy
  ·exact Int.le_of_lt (h2 y hy x hx)
  ·exact hV.app.2.2 x hx y hy
 ·refine Stb.trans (b:=U1++V1++(U2++V2)) ?_ (Stb.app (isr_stb _) (isr_stb _))
  rw[List.append_assoc,List.append_assoc]
  refine Stb.app (Stb.refl U1) ?_
  rw[←List.append_assoc,←List.append_assoc]
  exact Stb.app (Stb.swap h2) (Stb.refl V2)
theorem mrg_one {x:α}{V1 V2:List α}(hV:Srt key (V1++V2))(h1:∀y∈V1,key y<key x)(h2:∀y∈V2,key x≤key y):isr key (x::(V1++V2))=V1++x::V2:=by
 have:=mrg_cut (key:=key) (U1:=[]) (U2:=[x]) (V1:=V1) (V2:=V2) (by simp[Srt]) hV (fun a ha=>by cases ha) (fun a ha y hy=>by rw[List.mem_singleton.1 ha];exact h1 y hy)
 have e1:isr key V1=V1:=isr_self hV.app.1
 have e2:isr key (x::V2)=x::V2:=isr_self (List.pairwise_cons.2 ⟨h2,hV.app.2.1⟩)
 simp only[List.nil_append,List.singleton_append]at this
 rw[this,e1,e2]
theorem mrg_end {x:α}{U1 U2:List α}(hU:Srt key (U1++U2))(h1:∀y∈U1,key y≤key x)(h2:∀y∈U2,key x<key y):isr key (U1++U2++[x])=U1++x::U2:=by
 have:=isr_snoc (key:=key) (S1:=U1) (S2:=U2) (l:=U1++U2) (x:=x) (isr_self hU).symm h1 h2
 exact this.symm
def Runs (key:α→Int)(n:Nat)(l:List α):Prop:=∀c,Srt key ((l.drop (c*n)).take n)
theorem runs_all {n:Nat}{l:List α}(h:Runs key n l)(hn:l.length≤n):Srt key l:=by
 have:=h 0
 rw[Nat.zero_mul,List.drop_zero,List.take_of_length_le hn]at this
 exact this
theorem runs_nil (n:Nat):Runs key n ([]:List α):=fun c=>by simp[Srt]
theorem runs_snoc {n k:Nat}{a b:List α}(hn:0<n)(ha:a.length=k*n)(h1:Runs key n a)(hb:b.length≤n)(h2:Srt key b):Runs key n (a++b):=fun c=>by
 by_cases hc:c<k
 ·have h3:c*n+n≤k*n:=by rw[←Nat.succ_mul];exact Nat.mul_le_mul_right n hc
  rw[List.drop_append_of_le_length (by omega),List.take_append_of_le_length (by rw[List.length_drop];omega)]
  exact h1 c
 ·have h3:k*n≤c*n:=Nat.mul_le_mul_right n (by omega)
  rw[List.drop_append,List.drop_eq_nil_of_le (by omega),List.nil_append]
  exact h2.sub ((List.take_sublist _ _).trans (List.drop_sublist _ _))
theorem runs_drop {n:Nat}{l:List α}(h:Runs key n l)(k:Nat):Runs key n (l.drop (k*n)):=fun c=>by
 rw[List.drop_drop,←Nat.add_mul];exact h _
theorem runs_two {n:Nat}{l:List α}(h:Runs key n l):Srt key (l.take n)∧Srt key ((l.drop n).take n):=by
 have h0:=h 0
 have h1:=h 1
 rw[Nat.zero_mul,List.drop_zero]at h0
 rw[Nat.one_mul]at h1
 exact⟨h0,h1⟩
end
section
variable {α:Type} {key:α→Int} {z:α}
theorem getD_l {U V:List α}{i:Nat}(h:i<U.length):(U++V).getD i z=U.getD i z:=by
 rw[List.getD_eq_getElem?_getD,List.getElem?_append_left h,←List.getD_eq_getElem?_getD]
theorem getD_r {U V:List α}{i j:Nat}(h:i=U.length+j):(U++V).getD i z=V.getD j z:=by
 subst h
 rw[List.getD_eq_getElem?_getD,List.getElem?_append_right (by omega),Nat.add_sub_cancel_left,←List.getD_eq_getElem?_getD]
theorem srt_le {l:List α}(h:Srt key l){i j:Nat}(hij:i≤j)(hj:j<l.length):key (l.getD i z)≤key (l.getD j z):=by
 rcases Nat.lt_or_eq_of_le hij with h1|h1
 ·have:=(List.pairwise_iff_getElem.1 h) i j (by omega) hj h1
  rw[List.getD_eq_getElem?_getD,List.getD_eq_getElem?_getD,List.getElem?_eq_getElem (by omega),List.getElem?_eq_getElem hj]
  exact this
 ·subst h1;exact Int.le_refl _
theorem mem_take {l:List α}{n:Nat}{x:α}(h:x∈l.take n):∃i,i<n∧i<l.length∧x=l.getD i z:=by
 obtain⟨i,hi,rfl⟩:=List.mem_iff_getElem.1 h
 rw[List.length_take]at hi
 refine⟨i,by omega,by omega,?_⟩
 rw[List.getElem_take,List.getD_eq_getElem?_getD,List.getElem?_eq_getElem (by omega)];rfl
theorem mem_drop {l:List α}{n:Nat}{x:α}(h:x∈l.drop n):∃i,n≤i∧i<l.length∧x=l.getD i z:=by
 obtain⟨i,hi,rfl⟩:=List.mem_iff_getElem.1 h
 rw[List.length_drop]at hi
 refine⟨n+i,by omega,by omega,?_⟩
 rw[List.getElem_drop,List.getD_eq_getElem?_getD,List.getElem?_eq_getElem (by omega)];rfl
theorem cut_ok {U V:List α}(hU:Srt key U)(hV:Srt key V){s t:Nat}(hs:s≤U.length)(ht:t≤V.length)(h1:s=0∨t=V.length∨key (U.getD (s-1) z)≤key (V.getD t z))(h2:t=0∨s=U.length∨key (V.getD (t-1) z)<key (U.getD s z)):
  isr key (U++V)=isr key (U.take s++V.take t)++isr key (U.drop s++V.drop t):=by
 conv=>lhs;rw[←List.take_append_drop s U,←List.take_append_drop t V]
 refine mrg_cut (by rw[List.take_append_drop];exact hU) (by rw[List.take_append_drop];exact hV) (fun x hx y hy=>?_) fun x hx y hy=>?_
 ·obtain⟨i,i1,i2,rfl⟩:=mem_take (z:=z) hx
  obtain⟨j,j1,j2,rfl⟩:=mem_drop (z:=z) hy
  rcases h1 with h1|h1|h1
  ·omega
  ·omega
  ·exact Int.le_trans (srt_le hU (by omega) (by omega)) (Int.le_trans h1 (srt_le hV j1 j2))
 ·obtain⟨i,i1,i2,rfl⟩:=mem_drop (z:=z) hx
  obtain⟨j,j1,j2,rfl⟩:=mem_take (z:=z) hy
  rcases h2 with h2|h2|h2
  ·omega
  ·omega
  ·exact Int.lt_of_le_of_lt (srt_le hV (show j≤t-1 by omega) (by omega)) (Int.lt_of_lt_of_le h2 (srt_le hU i1 i2))
theorem one_ok {V:List α}{x:α}(hV:Srt key V){t:Nat}(ht:t≤V.length)(h1:t=0∨key (V.getD (t-1) z)<key x)(h2:t=V.length∨key x≤key (V.getD t z)):V.take t++x::V.drop t=isr key (x::V):=by
 have:=mrg_one (key:=key) (x:=x) (V1:=V.take t) (V2:=V.drop t) (by rw[List.take_append_drop];exact hV) (fun y hy=>?_) fun y hy=>?_
 ·rw[List.take_append_drop]at this;exact this.symm
 ·obtain⟨j,j1,j2,rfl⟩:=mem_take (z:=z) hy
  rcases h1 with h1|h1
  ·omega
  ·exact Int.lt_of_le_of_lt (srt_le hV (show j≤t-1 by omega) (by omega)) h1
 ·obtain⟨j,j1,j2,rfl⟩:=mem_drop (z:=z) hy
  rcases h2 with h2|h2
  ·omega
  ·exact Int.le_trans h2 (srt_le hV j1 j2)
theorem end_ok {U:List α}{x:α}(hU:Srt key U){t:Nat}(ht:t≤U.length)(h1:t=0∨key (U.getD (t-1) z)≤key x)(h2:t=U.length∨key x<key (U.getD t z)):U.take t++x::U.drop t=isr key (U++[x]):=by
 have:=mrg_end (key:=key) (x:=x) (U1:=U.take t) (U2:=U.drop t) (by rw[List.take_append_drop];exact hU) (fun y hy=>?_) fun y hy=>?_
 ·rw[List.take_append_drop]at this;exact this.symm
 ·obtain⟨j,j1,j2,rfl⟩:=mem_take (z:=z) hy
  rcases h1 with h1|h1
  ·omega
  ·exact Int.le_trans (srt_le hU (show j≤t-1 by omega) (by omega)) h1
 ·obtain⟨j,j1,j2,rfl⟩:=mem_drop (z:=z) hy
  rcases h2 with h2|h2
  ·omega
  ·exact Int.lt_of_lt_of_le h2 (srt_le hU j1 j2)
theorem take_up {V:List α}{q:Nat}(h:q<V.length):V.take (q+1)=V.take q++[V.getD q z]:=by
 rw[List.take_succ_eq_append_getElem h,List.getD_eq_getElem?_getD,List.getElem?_eq_getElem h];rfl
theorem drop_up {V:List α}{q:Nat}(h:q<V.length):V.drop q=V.getD q z::V.drop (q+1):=by
 rw[List.drop_eq_getElem_cons h,List.getD_eq_getElem?_getD,List.getElem?_eq_getElem h];rfl
end
theorem getD_at {A B:List Str}{x:Str}{n:Nat}(h:n=A.length):(A++x::B).getD n []=x:=by
 subst h
 rw[List.getD_eq_getElem?_getD,List.getElem?_append_right (Nat.le_refl _),Nat.sub_self];rfl
theorem set_at {A B:List Str}{x y:Str}{n:Nat}(h:n=A.length):(A++x::B).set n y=A++y::B:=by
 subst h
 rw[List.set_append_right _ _ (Nat.le_refl _),Nat.sub_self];rfl
theorem sw_two (A X B:List Str)(x y:Str){i j:Nat}(hi:i=A.length)(hj:j=A.length+1+X.length):sw (A++x::(X++y::B)) i j=A++y::(X++x::B):=by
 have e:∀z:Str,A++z::(X++y::B)=(A++z::X)++y::B:=fun z=>by simp
 unfold sw
 rw[getD_at hi,e x,getD_at (A:=A++x::X) (x:=y) (by rw[List.length_append,List.length_cons];omega),←e x,set_at hi,e y,set_at (by rw[List.length_append,List.length_cons];omega)]
 simp
theorem sw_comm (l:List Str)(i j:Nat):sw l i j=sw l j i:=by
 unfold sw
 by_cases h:i=j
 ·subst h;rfl
 ·rw[List.set_comm _ _ h]
theorem sw_up (A B:List Str)(x y:Str){i j:Nat}(hi:i=A.length)(hj:j=A.length+1):sw (A++x::y::B) i j=A++y::x::B:=sw_two A [] B x y hi hj
theorem sw_down (A B:List Str)(x y:Str){i j:Nat}(hi:i=A.length)(hj:j=A.length+1):sw (A++x::y::B) j i=A++y::x::B:=by rw[sw_comm];exact sw_up A B x y hi hj
theorem swR_aux (A X B U2 V2:List Str):∀(k:Nat) (U1 V1:List Str),U1.length=k→V1.length=k→U2.length=V2.length→swR (A++(U1++U2)++X++(V1++V2)++B) A.length (A.length+(k+U2.length)+X.length) k=A++(V1++U2)++X++(U1++V2)++B
 |0,U1,V1,h1,h2,h3=>by
  obtain rfl:=List.length_eq_zero_iff.1 h1
  obtain rfl:=List.length_eq_zero_iff.1 h2
  rfl
 |k+1,U1,V1,h1,h2,h3=>by
  obtain⟨U,u,rfl⟩:∃U u,U1=U++[u]:=⟨U1.dropLast,U1.getLast (by intro h;rw[h]at h1;cases h1),(List.dropLast_concat_getLast _).symm⟩
  obtain⟨V,v,rfl⟩:∃U u,V1=U++[u]:=⟨V1.dropLast,V1.getLast (by intro h;rw[h]at h2;cases h2),(List.dropLast_concat_getLast _).symm⟩
  rw[List.length_append,List.length_singleton]at h1 h2
  have ih:=swR_aux A X B (u::U2) (v::V2) k U V (by omega) (by omega) (by simp[h3])
  rw[List.length_cons]at ih
  have e1:∀(a b c d:List Str),A++(a++[u]++b)++X++(c++[v]++d)++B=A++(a++u::b)++X++(c++v::d)++B:=fun a b c d=>by simp
  rw[swR,show A.length+(k+1+U2.length)+X.length=A.length+(k+(U2.length+1))+X.length from by omega,e1,ih]
  have e2:A++(V++u::U2)++X++(U++v::V2)++B=(A++V)++u::((U2++X++U)++v::(V2++B)):=by simp
  rw[e2,sw_two _ _ _ _ _ (by rw[List.length_append];omega) (by simp only[List.length_append];omega)]
  simp
theorem swR_blk (A U X V B:List Str){a b k:Nat}(hk:k=U.length)(hU:U.length=V.length)(ha:a=A.length)(hb:b=A.length+U.length+X.length):swR (A++U++X++V++B) a b k=A++V++X++U++B:=by
 subst hk ha hb
 have:=swR_aux A X B [] [] U.length U V rfl hU.symm rfl
 simp only[List.append_nil,List.length_nil,Nat.add_zero]at this
 exact this
end Go.Proofs.YtlnpgbnhcondjaaGreatDoor.Fx
