/-  -/
import Derived.Test.YtlnpgbnhcondjaaGreatDoorTf
import Derived.Test.YtlnpgbnhcondjaaGreatDoorYS
import Derived.Test.YtlnpgbnhcondjaaGreatDoorY9
import Derived.Lib.ItoaLen
import Derived.Test.YtlnpgbnhcondjaaGreatDoorQ7
import Derived.Test.YtlnpgbnhcondjaaGreatDoorXD2
import Derived.Test.YtlnpgbnhcondjaaGreatDoorYM
import Derived.Test.YtlnpgbnhcondjaaGreatDoorRD
import Derived.Test.YtlnpgbnhcondjaaGreatDoorU5
import Derived.Test.YtlnpgbnhcondjaaGreatDoorQ3
namespace Go.Proofs.YtlnpgbnhcondjaaGreatDoor.Fx
open Vg Tf Go.Sort
set_option linter.unusedSimpArgs false
set_option linter.unusedVariables false
set_option maxRecDepth 100000
def pow10W:List Value:=Lib.pow10Tab.map fun z=>Value.int .u64 z
def PwR (H:Hp):Prop:=∃el mk,H 7 (.cells pow10W.toArray el mk)
theorem itoaH {H:Hp}(hW:PwR H)(n:Int)(h0: -9223372036854775808≤n)(h1:n≤9223372036854775807):CallH H Tryz.prog 259 [I n] (S (Lib.itoa n)):=by
 obtain⟨el,mk,hc⟩:=hW
 refine⟨en259,fun _ n b hn=>(by cases hn),fun _ n b b' hn=>(by cases hn),fun β w Z hm hH hZ=>?_⟩
 have hg:GlW [(7,pow10W)] w:=fun g cs h=>by
  obtain⟨rfl,rfl⟩:g=7∧cs=pow10W:=by simpa using h
  exact⟨el,mk,(hH _ _ hc).1⟩
 refine(Tryz.strconv_Itoa n h0 h1 w (hg.var (g:=7) (cs:=pow10W) (by simp) (by kernel_rfl))).mono ?_
 rintro en w' ⟨rfl,k,os,rfl⟩
 refine⟨(),β,fun _ _=>False,Agree.refl _ _,fun β'' _=>rfl,⟨fun β' _ n b hn=>(by cases hn),fun n b hn=>(by cases hn),fun n m b b' hn=>(by cases hn)⟩,⟨rfl,rfl,rfl,?_,fun b _ hb=>?_⟩,fun n hn=>(by cases hn),fun _ _ hf=>hf.elim,trivial⟩
 ·simp[grow,World.drewN]
 ·simp only[grow,World.drewN]
  rw[Array.getElem?_append_left hb]
theorem textH {H:Hp}(hW:PwR H)(n:Int)(h0: -9223372036854775808≤n)(h1:n≤9223372036854775807):CallH H Tryz.prog 222 [I n] (S (Lib.itoa n)):=by
 refine CallH.mkS Tryz.func222 rfl en222 (by simp[Tryz.ntmps222]) (ClA.of rfl) fun C hR hP hH hL=>?_
 refine Sm.go 100 ?_
 refine vv ?_
 refine CallQ.h 110 (itoaH hW n h0 h1) hH rfl ?_
 refine vv ?_
 exact RetQ.of (hR C hL) rfl ⟨rfl,trivial⟩ rfl (Sub.nil _) ClM.nil (ClV.of rfl)
theorem joinH {H:Hp}(s:Sv)(l:List Str)(sep:Str)(hs:SlH H (vsl s l.length) 1 (strsR l))(hl:l.length≤100000)(hlen:(Lib.join l sep).length≤140737488355328):CallH H Tryz.prog 21 [.c (.v (vsl s l.length)),S sep] (S (Lib.join l sep)):=by
 refine callX_below (Q:=fun _=>True) en21 fun β w hw=>?_
 cases l with
 |nil=>
  refine(Tryz.strings_Join_none s.o s.c ⟨sep.toArray⟩ w).mono ?_
  rintro e w' ⟨rfl,rfl⟩
  refine⟨(),fun _=>?_,RowKit.Below.refl _ _,trivial⟩
  have:Lib.join [] sep=[]:=by unfold Lib.join;rfl
  rw[this];rfl
 |cons x0 l0=>
  have hne:0<(x0::l0).length:=by simp
  generalize x0::l0=l at*
  obtain⟨lc,h1,h2,h3⟩:=hs
  have hfl:=strs_flat l
  have hsl:(strsR l).length=l.length:=by unfold strsR;rw[List.length_map]
  rw[hfl]at h3
  have hn:lc.nul=false:=by
   cases hq:lc.nul with
   |false=>rfl
   |true=>
    have:=congrArg List.length (h3.1 hq)
    rw[List.length_map]at this
    have:l.length=0:=this
    omega
  obtain⟨c,el,mk,q1,q2⟩:=h3.2.2 hn
  have hs:=h3.2.1
  rw[List.length_map]at hs
  rw[hsl]at h1
  have hv:vsl s l.length= .slice (some ⟨lc.blk,lc.org,none⟩) l.length lc.siz:=by
   rw[h1]
   simp only[Cv.g,hn,Bool.false_eq_true,false_and,if_false,Nat.add_zero,Nat.sub_zero,Nat.div_one]
  have hhp:=hw _ _ q1
  have hxs:(l.map fun x:Str=>(⟨x.toArray⟩:ByteArray)).length=l.length:=List.length_map _
  have hjn:Lib.join ((l.map fun x:Str=>(⟨x.toArray⟩:ByteArray)).map (·.data.toList)) (⟨sep.toArray⟩:ByteArray).data.toList=Lib.join l sep:=by
   rw[List.map_map]
   congr 1
   exact(List.map_congr_left fun x _=>rfl).trans (List.map_id _)
  have hargs:([V.c (.v (vsl s l.length)),S sep].map (V.g β)).toArray= #[.slice (some ⟨lc.blk,lc.org,none⟩) (l.map fun x:Str=>(⟨x.toArray⟩:ByteArray)).length lc.siz,.string ⟨sep.toArray⟩]:=by
   rw[hxs,hv];rfl
  rw[hargs]
  refine(Tryz.strings_Join lc.blk lc.org lc.siz (l.map fun x:Str=>(⟨x.toArray⟩:ByteArray)) ⟨sep.toArray⟩ w (fun j x hj=>?_) ?_ (by rw[hxs];omega) (by rw[hxs];omega) (by rw[hjn];exact hlen)).mono ?_
  ·rw[List.getElem?_map,Option.map_eq_some_iff]at hj
   obtain⟨y,hy,rfl⟩:=hj
   have:=q2 j (sv y) (by rw[List.getElem?_map,hy];rfl)
   simp[World.cell?,hhp,this]
  ·exact(Array.getElem?_eq_some_iff.1 hhp).1
  ·rintro e w' ⟨rfl,hb⟩
   exact⟨(),fun _=>by rw[hjn];rfl,hb,trivial⟩
end Go.Proofs.YtlnpgbnhcondjaaGreatDoor.Fx
namespace Go.Proofs.YtlnpgbnhcondjaaGreatDoor.Fx
open Vg Tf
set_option linter.unusedSimpArgs false
set_option linter.unusedVariables false
set_option maxRecDepth 100000
set_option maxHeartbeats 4000000
def wI (l:List Int)(i:Nat):List Str:=(l.take i).map Lib.itoa++List.replicate (l.length-i) []
theorem wI_len (l:List Int)(i:Nat)(h:i≤l.length):(wI l i).length=l.length:=by
 unfold wI;rw[List.length_append,List.length_map,List.length_take,List.length_replicate];omega
theorem wI_set (l:List Int)(i:Nat)(h:i<l.length):((wI l i).map sC).set i (sC (Lib.itoa l[i]))=(wI l (i+1)).map sC:=by
 rw[←List.map_set]
 congr 1
 unfold wI
 have h1:((l.take i).map Lib.itoa).length=i:=by rw[List.length_map,List.length_take];omega
 have h2:l.length-i=(l.length-(i+1))+1:=by omega
 rw[List.set_append_right _ _ (by omega),h1,Nat.sub_self,h2,List.replicate_succ,List.set_cons_zero,List.take_succ_eq_append_getElem h,List.map_append,List.append_assoc];rfl
theorem wI_all (l:List Int):wI l l.length=l.map Lib.itoa:=by unfold wI;simp
theorem wI_0 (l:List Int):reps l.length [Cv.v (.string ⟨#[]⟩)]=(wI l 0).map sC:=by rw[Vg.reps_one];unfold wI;simp
def inR (n:Int):Prop:= -9223372036854775808≤n∧n≤9223372036854775807
theorem mapped_ {H:Hp}(hW:PwR H)(s:Sv)(l:List Int)(hs:SlH H (vsl s l.length) 1 (intsR l))(hl:l.length≤100000)(hb:∀n∈l,inR n):
  CallX H Tryz.prog 258 [.c (.v (vsl s l.length)),Fv 222 #[]] [] (fun _:Unit=> .c (.sl 1 0 l.length 1)) (fun _=>[(1,⟨false,(l.map Lib.itoa).map sC,9⟩)]) (fun _ _=>True):=by
 refine CallX.mkS Tryz.func258 rfl en258 (by simp[Tryz.ntmps258]) (ClA.of rfl) (fun _=>rfl) (fun _=>rfl) fun C hR hP hH hL=>?_
 have hR:=hR () C hL trivial
 refine Sm.bringI 2 3 0 (hs.mono hH) rfl rfl ?_
 refine Sm.go 100 ?_
 refine vv ?_
 refine⟨⟨by omega,by omega,by omega⟩,?_⟩
 rw[wI_0]
 have v_s:∀i,((wI l i).map sC).all Cv.isV=true:=fun i=>v_sC _
 refine Sm.loopM (M0:=[]) (α:={i:Nat//i≤l.length}) hP (fun i=>[(1,true,Fv 222 #[]),(5,true,.c (.sl 5 0 l.length 1)),(11,true,.c (.sl 2 0 l.length 1)),(12,true,I l.length),(13,true,I i.val)])
  (fun i=>[(2,⟨true,l.map iC,3⟩),(5,⟨false,(wI l i.val).map sC,9⟩)]) (fun i=>l.length-i.val) ⟨0,by omega⟩ (fun i=>ClM.of (by simp only[List.all_cons,inMV (v_iC _),inMV (v_sC _)];rfl)) (fun _=>ClE.of rfl) [(2,2),(5,100)] ?_ ?_
 ·exact⟨rfl,trivial,⟨rfl,rfl,rfl,rfl,rfl,trivial⟩,⟨oV (renV (v_iC _)),oV (renV (v_sC _)),trivial⟩⟩
 rintro⟨i,hi⟩ J hj
 simp only at hj hi⊢
 refine Sm.go 110 ?_
 refine vv ?_
 refine mtch (fun hc=>?_) (fun hc=>?_)
 ·have hc:=lt_of_dec hc
  have hwl:((wI l i).map sC).length=l.length:=by rw[List.length_map,wI_len l i hi]
  have hbi:=hb _ (List.getElem_mem hc)
  simp(maxSteps:=2000000) only[go_sem,get_iC hc]
  refine⟨⟨by omega,by omega⟩,?_⟩
  refine CallQ.h 120 (textH hW l[i] hbi.1 hbi.2) hH rfl ?_
  simp(maxSteps:=2000000) only[go_sem,hwl,wI_set l i hc,wS (show i≤1000000000000000000 by omega)]
  refine⟨⟨by omega,by omega⟩,by omega,?_⟩
  exact hj _ _ ⟨i+1,hc⟩ [(2,2),(5,5)] (by simp only;omega) ⟨rfl,trivial,⟨rfl,rfl,rfl,rfl,rfl,trivial⟩,⟨oV (renV (v_iC _)),oV (renV (v_sC _)),trivial⟩⟩
 ·have hc:=eq_of_dec hi hc
  subst hc
  rw[wI_all]
  exact RetQ.ren [(1,5)] hR hP rfl (vv trivial) rfl rfl trivial ⟨oV (renV (v_sC _)),trivial⟩ (ClM.of (by simp only[List.cons_append,List.nil_append,List.all_cons,inMV (v_sC _)];rfl)) (ClV.of rfl)
def lnX (w:Str)(l:List Int):Str:=((w++[32])++Lib.join (l.map Lib.itoa) [32])++[10]
theorem join_len (n:Nat):∀(L:List Str) (sep:Str),(∀x∈L,x.length≤n)→(Lib.join L sep).length≤L.length*(n+sep.length)
 |[],sep,_=>by unfold Lib.join;simp
 |[x],sep,h=>by
  have:=h x (List.mem_cons_self ..)
  unfold Lib.join
  simp only[List.intercalate,List.intersperse_singleton,List.flatten_cons,List.flatten_nil,List.append_nil,List.length_cons,List.length_nil]
  omega
 |x::y::L,sep,h=>by
  have h1:=h x (List.mem_cons_self ..)
  have ih:=join_len n (y::L) sep fun z hz=>h z (List.mem_cons_of_mem _ hz)
  have e:Lib.join (x::y::L) sep=x++(sep++Lib.join (y::L) sep):=by unfold Lib.join;simp[List.intercalate,List.intersperse]
  rw[e,List.length_append,List.length_append]
  simp only[List.length_cons]at ih⊢
  rw[Nat.succ_mul];omega
theorem jn_le {l:List Int}(hb:∀n∈l,inR n):(Lib.join (l.map Lib.itoa) [32]).length≤l.length*22:=by
 have:=join_len 21 (l.map Lib.itoa) [32] fun x hx=>by
  obtain⟨n,hn,rfl⟩:=List.mem_map.1 hx
  exact Lib.itoa_length_le n (hb n hn).1 (hb n hn).2
 rw[List.length_map]at this
 exact this
theorem lnX_le {w:Str}{l:List Int}(hb:∀n∈l,inR n):(lnX w l).length≤w.length+l.length*22+2:=by
 have:=jn_le hb
 unfold lnX
 simp only[List.length_append,List.length_cons,List.length_nil];omega
theorem lineH {H:Hp}(hW:PwR H)(w:Str)(hw:w.length≤100)(s:Sv)(l:List Int)(hs:SlH H (vsl s l.length) 1 (intsR l))(hl:l.length≤100000)(hb:∀n∈l,inR n):
  CallH H Tryz.prog 221 [S w,.c (.v (vsl s l.length))] (S (lnX w l)):=by
 have hjl:=jn_le hb
 have v_s:=v_sC
 have hml:(l.map Lib.itoa).length=l.length:=List.length_map _
 refine CallH.mkS Tryz.func221 rfl en221 (by simp[Tryz.ntmps221]) (ClA.of rfl) fun C hR hP hH hL=>?_
 refine Sm.go 100 ?_
 refine vv ?_
 refine⟨by omega,?_⟩
 refine CallQ.x 110 hL (mapped_ hW s l hs hl hb) hH (SubS.sub trivial) ClM.nil (fun _=>Fresh.of rfl) rfl rfl rfl (fun _ C1 H1 l1 k1 j1 _=>?_)
 refine vv ?_
 refine CallQ.letgo (xs:=[_,_]) (M0:=[]) [1] l1 hP rfl (by unfold concOk;simp only[List.all_cons,cokV (v_sC _)];rfl) rfl en21 rfl rfl (fun β C2 l2 k2 kn=>?_)
 obtain⟨sj,hvj,hkj⟩:=(kn 1 _ rfl rfl rfl).vslx (sz:=1) (rows:=strsR (l.map Lib.itoa)) (fun r hr=>by obtain⟨a,_,rfl⟩:=List.mem_map.1 hr;rfl) (strsC _).symm
 have eij:(strsR (l.map Lib.itoa)).length=l.length:=by unfold strsR;rw[List.length_map,hml]
 rw[eij]at hvj hkj
 simp only[Mem.conc,Env.conc,Bk.conc,Cv.conc,V.conc,W.conc,List.map_cons,List.map_nil,List.contains_cons,List.contains_nil,Nat.reduceBEq,Bool.or_false,Bool.or_true,cond_true,cond_false,concV (v_sC _),hvj]
 have hj:=joinH (H:=C2.hp) sj (l.map Lib.itoa) [32] (by rw[hml];exact hkj) (by rw[hml];exact hl) (by omega)
 rw[hml]at hj
 refine CallW.h 120 l2 hj (Hp.le.refl _) rfl (fun C3 l3 k3=>?_)
 refine vv ?_
 refine⟨by simp only[List.length_append,List.length_cons,List.length_nil];omega,by simp only[List.length_append,List.length_cons,List.length_nil];omega,?_⟩
 exact RetQ.of (hR C3 l3) rfl ⟨rfl,trivial⟩ rfl (Sub.nil _) ClM.nil (ClV.of rfl)
theorem ous_len {T:List Tk}(g:GTk T):∀(f:Nat) (l:List Str) (p:Ps),p.at_<T.length→∀l',(ousP T f l p).1=some l'→l'.length+p.at_≤l.length+(ousP T f l p).2.at_
 |0,l,p,h,l',hl=>by cases hl
 |f+1,l,p,h,l',hl=>by
  rw[ousP]at hl⊢
  have hon:=nam_on g h
  generalize namP T p=r at hl hon⊢
  obtain⟨o,q⟩:=r
  cases o with
  |none=>cases hl
  |some s=>
   have hq:p.at_<q.at_:=hon.2 rfl
   simp only[bnd]at hl⊢
   cases hc:isP T [44] q with
   |true=>
    rw[hc]at hl
    have:=ous_len g f (l++[s]) (advP q) (is_on g hon.1.2 hc).2 l' hl
    rw[List.length_append,List.length_singleton]at this
    have e:(advP q).at_=q.at_+1:=rfl
    show _≤_+(ousP T f (l++[s]) (advP q)).2.at_
    omega
   |false=>
    rw[hc]at hl
    cases hl
    show(l++[s]).length+_≤_+q.at_
    rw[List.length_append,List.length_singleton];omega
theorem out_ (T:List Tk)(hT:T.length≤40000)(g:GTk T)(sT:STk T)(p:Ps)(h:p.at_<T.length)(f:Tk)(d:DgL)(hd:d.ous.length≤1000000):
  CallOk Tryz.prog 156 [.c (.p 1 0),.c (.p 4 0),tkV f] (pO T p d) (Bo (outP T f d.ous.length p).1.isSome)
   (bPs T (outP T f d.ous.length p).2::(match (outP T f d.ous.length p).1 with|some x=>[bDg (dgCo 25 (d.ous.length+x.length) d),(25,⟨false,(d.ous++x).map sC,9⟩),bDd 15 9]|none=>[])):=by
 have clF:∀q,ClM (bPs T q::pO T p d):=fun q=>ClM.of (by simp only[List.all_cons,inMV (rowsC_isV _),inMV (v_sC _)];rfl)
 have clS:∀q x n,ClM ([bPs T q,bDg (dgCo 25 n d),(25,⟨false,(d.ous++x).map sC,9⟩),bDd 15 9]++pO T p d):=fun q x n=>ClM.of (by simp only[List.cons_append,List.nil_append,List.all_cons,inMV (rowsC_isV _),inMV (v_sC _)];rfl)
 have cl31:∀q s,ClM [bPs T q,(31,⟨false,[sC s],9⟩),bTkT T]:=fun q n=>ClM.of (by simp only[List.all_cons,inMV (rowsC_isV _)];rfl)
 have v_tk:∀T:List Tk,(rowsC (T.map Tk.r)).all Cv.isV=true:=fun _=>rowsC_isV _
 refine CallOk.mkN 29 Tryz.func156 rfl en156 (by simp[Tryz.ntmps156]) (ClA.of rfl) (by cases (outP T f d.ous.length p).1<;>rfl) (by cases (outP T f d.ous.length p).1<;>rfl) fun C hR hP=>?_
 refine vv ?_
 generalize hX:outP T f d.ous.length p=X at*
 unfold outP at hX
 refine Sm.nilName 7 33 1 9 rfl rfl ?_
 refine Sm.loopM (M0:=pO T p d) (α:={x:List Str×Ps//x.2.at_<T.length∧x.1.length≤x.2.at_∧∃f,T.length≤x.2.at_+f∧ousP T f x.1 x.2=ousP T 40000 [] p}) hP
  (fun x=>[(0,true,.c (.p 1 0)),(1,true,.c (.p 4 0)),(5,true,.c (.p 29 0)),(7,true,.c (.sl 33 0 x.val.1.length 1))])
  (fun x=>[bPs T x.val.2,bDg (dgC d),bTkT T,(15,⟨false,d.ous.map sC,9⟩),bDd 10 93,bDd 11 110,bDd 12 115,bDd 13 118,bDd 14 82,(29,⟨false,[nC f.k,sC f.s,nC f.l,nC f.c],57⟩),(33,⟨false,x.val.1.map sC,9⟩)])
  (fun x=>T.length-x.val.2.at_) ⟨([],p),h,Nat.zero_le _,40000,by simp only;omega,rfl⟩ (fun x=>ClM.of (by simp only[List.all_cons,inMV (rowsC_isV _),inMV (v_sC _)];rfl)) (fun _=>ClE.of rfl) [(1,1),(4,4),(2,2),(15,15),(10,10),(11,11),(12,12),(13,13),(14,14),(29,29),(33,33)] ?_ ?_
 ·exact⟨rfl,⟨⟨rfl,rfl⟩,⟨rfl,rfl⟩,⟨rfl,rfl⟩,⟨rfl,rfl⟩,⟨rfl,rfl⟩,⟨rfl,rfl⟩,⟨rfl,rfl⟩,⟨rfl,rfl⟩,⟨rfl,rfl⟩,trivial⟩,⟨rfl,rfl,rfl,rfl,trivial⟩,⟨oR,oR,oV (renV (v_tk _)),oV (renV (v_sC _)),oR,oR,oR,oR,oR,oR,oR,trivial⟩⟩
 rintro⟨⟨l,q⟩,hq,hle,f',hf1,hf2⟩ J hb
 simp only at hb hq hle hf1 hf2⊢
 obtain⟨f',rfl⟩:∃k,f'=k+1:=⟨f'-1,by omega⟩
 rw[ousP]at hf2
 have hi:=nameN_ 31 rfl T (by omega) sT q hq [sC []] rfl 0 (by simp) 9
 have hon:=nam_on g hq
 generalize namP T q=r at hi hon hf2
 obtain⟨o,qa⟩:=r
 have hqa:qa.at_<T.length:=hon.1.2
 refine Sm.go 31 ?_
 refine vv ?_
 cases o with
 |none=>
  simp only[bnd]at hf2
  rw[←hf2]at hX
  simp only[bnd]at hX
  subst hX
  simp only[Option.isSome_none]at hi
  refine CallQ.mi 40 hi (cl31 _ _) ⟨oS,oS,oS,trivial⟩ ?_
  refine vv ?_
  exact RetQ.of hR rfl scc rvv (SubV.sub0 ⟨oR,oL,oR,oR,oR,oR,oR,oR,oR,oR,trivial⟩) (clF _) (ClV.of rfl)
 |some s=>
  simp only[bnd]at hf2
  have hga:q.at_<qa.at_:=hon.2 rfl
  simp only[Option.isSome_some,List.set_cons_zero]at hi
  have hll:(l.map sC).length=l.length:=List.length_map _
  have hal:List.take l.length (l.map sC)++[sC s]=(l++[s]).map sC:=by rw[List.take_of_length_le (by omega),List.map_append];rfl
  have hLl:(l++[s]).length=l.length+1:=by rw[List.length_append];rfl
  refine CallQ.mi 40 hi (cl31 _ _) ⟨oS,oS,oS,trivial⟩ ?_
  simp(maxSteps:=2000000) only[go_sem,hll,hal]
  refine⟨⟨by omega,by omega,by omega⟩,?_⟩
  have his:=is_ T (by omega) qa hqa [44]
  refine CallQ.mi 80 his (pM_cl T _) ⟨oS,oS,trivial⟩ ?_
  cases hi44:isP T [44] qa with
  |true=>
   rw[hi44]at hf2
   simp only[cond_true]at hf2
   have hadv:=is_on g hqa hi44
   simp(maxSteps:=2000000) only[go_sem,aP (show T.length≤100000 by omega) hqa]
   have haq:(advP qa).at_=qa.at_+1:=rfl
   refine hb _ _ ⟨(l++[s],advP qa),hadv.2,by simp only[hLl];omega,f',by simp only;omega,hf2⟩ [(1,1),(4,4),(2,2),(15,15),(10,10),(11,11),(12,12),(13,13),(14,14),(29,29),(33,41)] (by simp only;omega) ?_
   simp only[hLl]
   exact⟨rfl,⟨⟨rfl,rfl⟩,⟨rfl,rfl⟩,⟨rfl,rfl⟩,⟨rfl,rfl⟩,⟨rfl,rfl⟩,⟨rfl,rfl⟩,⟨rfl,rfl⟩,⟨rfl,rfl⟩,⟨rfl,rfl⟩,trivial⟩,⟨rfl,rfl,rfl,rfl,trivial⟩,⟨oR,oR,oV (renV (v_tk _)),oV (renV (v_sC _)),oR,oR,oR,oR,oR,oR,oV (renV (v_sC _)),trivial⟩⟩
  |false=>
   rw[hi44]at hf2
   simp only[cond_false]at hf2
   have hlen:=ous_len g 40000 [] p h (l++[s]) (by rw[←hf2])
   rw[←hf2]at hX hlen
   simp only[bnd,List.length_nil,hLl]at hX hlen
   clear hb
   refine vv ?_
   have hh:=here_ T (by omega) qa hqa
   have hen:=end_ T (by omega) qa hqa
   have e4:((hereP T qa).k==4)=(((hereP T qa).k:Int)==4):=(kB _ 4).symm
   rw[e4]at hX
   refine CallQ.mi 25 hh (pM_cl T _) ⟨oS,oS,trivial⟩ ?_
   cases hk:((hereP T qa).k:Int)==4 with
   |false=>
    simp(maxSteps:=2000000) only[go_sem,hk,bne]
    have he:endP T qa=(false,stopP qa (hereP T qa).l (hereP T qa).c 3):=by unfold endP;rw[e4,hk];rfl
    rw[hk,he]at hX
    rw[he]at hen
    simp only[Bool.not_false,cond_true]at hX
    subst hX
    refine CallQ.mi 92 hen (pM_cl T _) ⟨oS,oS,trivial⟩ ?_
    refine vv ?_
    exact RetQ.of hR rfl scc rvv (SubV.sub0 ⟨oR,oL,oR,oR,oR,oR,oR,oR,oR,oR,trivial⟩) (clF _) (ClV.of rfl)
   |true=>
    rw[hk]at hX
    simp only[Bool.not_true,cond_false]at hX
    simp(maxSteps:=2000000) only[go_sem,hk,bne]
    have hw:IntKind.i64.wrap ((d.ous.length:Int)+((l.length+1:Nat):Int))=((d.ous.length+(l.length+1):Nat):Int):=by rw[w64 (by omega) (by omega)];omega
    have e30:decide ((30:Int)<((d.ous.length+(l.length+1):Nat):Int))=decide (30<d.ous.length+(l.length+1)):=by rw[decide_eq_decide];omega
    rw[hw,e30]
    cases hc:decide (30<d.ous.length+(l.length+1))with
    |true=>
     rw[hc]at hX
     simp only[cond_true]at hX
     subst hX
     refine CallQ.mi 94 (stop_ T qa f.l f.c 5) (pM_cl T _) ⟨oS,oS,trivial⟩ ?_
     refine vv ?_
     exact RetQ.of hR rfl scc rvv (SubV.sub0 ⟨oR,oL,oR,oR,oR,oR,oR,oR,oR,oR,trivial⟩) (clF _) (ClV.of rfl)
    |false=>
     rw[hc]at hX
     simp only[cond_false]at hX
     subst hX
     have hol:(d.ous.map sC).length=d.ous.length:=List.length_map _
     have hsl:((l++[s]).map sC).length=l.length+1:=by rw[List.length_map];exact hLl
     have hsl2:(l.map sC++[sC s]).length=l.length+1:=by rw[List.length_append,List.length_map];rfl
     have hap:List.take d.ous.length (d.ous.map sC)++List.take (l.length+1) ((l++[s]).map sC)=(d.ous++(l++[s])).map sC:=by rw[List.take_of_length_le (by omega),List.take_of_length_le (by omega),List.map_append (l₁:=d.ous)]
     have hone:(List.take (l.length+1) ((l++[s]).map sC)).all Cv.one=true:=by rw[List.take_of_length_le (by omega)];simp[Cv.one,Value.oneCell']
     simp(maxSteps:=2000000) only[go_sem,hol,hsl,hap]
     refine⟨⟨by omega,⟨by omega,hone⟩,by omega,by omega⟩,?_⟩
     simp only[hLl]at hR
     exact RetQ.of hR rfl scc rvv (SubV.sub0 ⟨oR,oR,oR,oR,oL,oL,oR,oL,oR,oR,oR,oR,oR,trivial⟩) (clS _ _ _) (ClV.of rfl)
end Go.Proofs.YtlnpgbnhcondjaaGreatDoor.Fx
namespace Go.Proofs.YtlnpgbnhcondjaaGreatDoor
namespace Vg
open Go.RowKit
set_option linter.unusedVariables false
theorem Stp.mkB {P:Program}{o:Oper}{e:Env}{M:Mem}{f:FuncId}{x:Operand}{v:Value}(ho:o.op= .makeFunc (.func f) #[x] #[])(hx:rd e x=some (true,.c (.v v))):Stp P o e M (.c (.v (.func (.func f) #[v] #[]))) []:=
 Stp.pure fun β a hop w=>by
  have hex:=hop x (by simp[ho,Op.operands]) _ hx
  simp only[gv,V.g,Cv.g,cond_true]at hex
  unfold execOp
  simp[ho,hex,Instr.makeFunc,V.g,Cv.g]
theorem call_runB {P:Program}{o:Oper}{e:Env}{M':Mem}{f:FuncId}{pv:Value}{x:Operand}{ags:Array Operand}{tys:Array TypeId}{vs:List V}{β:Vl}{a:Act}{w:World}(ho:o.op= .call {callee:= .value x,args:=ags,argTypes:=tys})
  (hx:rd e x=some (true,.c (.v (.func (.func f) #[pv] #[])))) (hvs:ags.toList.map (rd e)=vs.map fun x=>some (true,x)) (hent:Enters P f) (hok:OpOk β M' e o a):(execOp a.eval o).run P w= .ok (.enter f (((V.c (.v pv))::vs).map (V.g β)).toArray) w:=by
 have hargs:=args_run ho hvs (hok β (Agree.refl _ _))
 have hf:a.eval x= .func (.func f) #[pv] #[]:=by
  have:=hok β (Agree.refl _ _) x (by simp[ho,Op.operands,Call.operands]) _ hx
  simpa[gv,V.g,Cv.g]using this
 have hcc:(((V.c (.v pv))::vs).map (V.g β)).toArray= #[pv]++(vs.map (V.g β)).toArray:=by
  apply Array.toList_inj.1
  simp[V.g,Cv.g]
 unfold execOp
 rw[ho]
 show((do let d ←resolve a.eval {callee:= .value x,args:=ags,argTypes:=tys} o.type;invoke d.target d.args:Sem Next)).run P w=_
 simp only[resolve,hf,Deferred.ofValue,invoke,hargs,Sem.run_bind,Sem.run_pure,Result.andThen_ok]
 have happ: #[pv]++(vs.map (V.g β)).toArray++(#[]:Array Value)= #[pv]++(vs.map (V.g β)).toArray:=Array.append_empty
 rw[happ,hent,hcc]
theorem Sm.callB {P:Program}{nt:Nat}{C:Cx}{rg:Array Oper}{o:Oper}{l:List Oper}{r:List It}{e:Env}{M:Mem}{f:FuncId}{pv:Value}{x:Operand}{ags:Array Operand}{tys:Array TypeId}{xs:List V}(hg:gd rg e o=some true)(ho:o.op= .call {callee:= .value x,args:=ags,argTypes:=tys})
  (hx:rd e x=some (true,.c (.v (.func (.func f) #[pv] #[])))) (hvs:ags.toList.map (rd e)=xs.map fun x=>some (true,x)) (hent:Enters P f) (h:CallW P nt C f (.c (.v pv)::xs) o.dst (.ops rg l::r) e M):Sm P nt C (.ops rg (o::l)::r) e M:=fun β a w h1 h2 h3 h4=>by
 have hw:Region.wanted o (yielded rg a.tmps)=true:=gd_ok (β:=β) hg (fun j want t y _ _ hy=>h2 β (Agree.refl _ _) t y hy)
 show wpListIn (fen C.lp) 0 P rg (cont P C.lp C.Q r) (o::l) a w
 refine wpListIn_step fun K hK=>?_
 rw[hw]
 simp only[if_true]
 refine Oper.wp_in C.lp (gd_nd hg).1 ?_
 unfold Oper.wp
 rw[call_runB (M':=M) ho hx hvs hent (fun β' hb x _ y hy=>rd_ok h2 hb hy),Oper.upon_enter]
 refine(h β a w h1 h2 h3 h4).mono ?_
 rintro en w' ⟨u,rfl,hc⟩
 exact hK _ _ hc
section
set_option linter.unusedSimpArgs false
variable {P:Program} {nt:Nat} {C Ck:Cx} {rg:Array Oper} {o:Oper} {l:List Oper} {r:List It} {e:Env} {M:Mem}
end
end Vg
end Go.Proofs.YtlnpgbnhcondjaaGreatDoor
namespace Go.Proofs.YtlnpgbnhcondjaaGreatDoor.Fx
open Vg Tf
set_option linter.unusedSimpArgs false
set_option linter.unusedVariables false
set_option maxRecDepth 100000
set_option maxHeartbeats 4000000
@[reducible] def pZ (T:List Tk)(p:Ps)(d:DgL):Mem:=[bPs T p,bDg (dgC d),bTkT T,bDd 10 93,bDd 11 110,bDd 12 115,bDd 13 118,bDd 14 82,bDd 15 9]
theorem name4_ (T:List Tk)(hT:T.length≤100000)(sT:STk T)(p:Ps)(h:p.at_<T.length)(d:DgL):
  CallOk Tryz.prog 149 [.c (.p 1 0),.c (.p 4 0)] (pZ T p d) (Bo (namP T p).1.isSome) (bPs T (namP T p).2::(match (namP T p).1 with|some s=>[bDg (dgC {d with nm:=s})]|none=>[])):=by
 have hM:=pM_cl T p
 have hh:=here_ T hT p h
 have hw:=wrong_ T hT p h
 have hnm:=name_ok (hereP T p).s (by have:=sT.here p;omega)
 have clF:∀q,ClM (bPs T q::pZ T p d):=fun q=>ClM.of (by simp only[List.all_cons,inMV (rowsC_isV _)];rfl)
 have clS:∀q x,ClM (bPs T q::bDg (dgC x)::pZ T p d):=fun q x=>ClM.of (by simp only[List.all_cons,inMV (rowsC_isV _)];rfl)
 have e1:((hereP T p).k==1)=(((hereP T p).k:Int)==1):=(kB _ 1).symm
 unfold namP
 rw[e1]
 cases hk:((hereP T p).k:Int)==1 with
 |false=>
  simp only[Bool.false_and,cond_false,Option.isSome_none]
  refine CallOk.mkN 100 Tryz.func149 rfl en149 (by simp[Tryz.ntmps149]) (ClA.of rfl) rfl rfl fun C hR hP=>?_
  refine vv ?_
  refine CallQ.mi 100 hh hM ⟨oS,oS,trivial⟩ ?_
  simp(maxSteps:=2000000) only[go_sem,hk,bne]
  refine CallQ.guard 110 (fun _=>hnm) (fun h=>by cases h) ?_
  simp(maxSteps:=2000000) only[go_sem,hk,bne]
  refine CallQ.mi 110 hw hM ⟨oS,oS,trivial⟩ ?_
  refine vv ?_
  exact RetQ.of hR rfl scc rvv (SubV.sub0 ⟨oR,oL,oR,oR,oR,oR,oR,oR,oR,oR,trivial⟩) (clF _) (ClV.of rfl)
 |true=>
  cases hn:nmOk (hereP T p).s with
  |false=>
   simp only[Bool.and_false,cond_false,Option.isSome_none]
   rw[hn]at hnm
   refine CallOk.mkN 100 Tryz.func149 rfl en149 (by simp[Tryz.ntmps149]) (ClA.of rfl) rfl rfl fun C hR hP=>?_
   refine vv ?_
   refine CallQ.mi 100 hh hM ⟨oS,oS,trivial⟩ ?_
   simp(maxSteps:=2000000) only[go_sem,hk,bne]
   refine CallQ.guard 110 (fun _=>hnm) (fun h=>by rw[h];rfl) ?_
   simp(maxSteps:=2000000) only[go_sem,hk,bne]
   refine CallQ.mi 110 hw hM ⟨oS,oS,trivial⟩ ?_
   refine vv ?_
   exact RetQ.of hR rfl scc rvv (SubV.sub0 ⟨oR,oL,oR,oR,oR,oR,oR,oR,oR,oR,trivial⟩) (clF _) (ClV.of rfl)
  |true=>
   simp only[Bool.and_true,cond_true,Option.isSome_some]
   rw[hn]at hnm
   refine CallOk.mkN 100 Tryz.func149 rfl en149 (by simp[Tryz.ntmps149]) (ClA.of rfl) rfl rfl fun C hR hP=>?_
   refine vv ?_
   refine CallQ.mi 100 hh hM ⟨oS,oS,trivial⟩ ?_
   simp(maxSteps:=2000000) only[go_sem,hk,bne]
   refine CallQ.guard 110 (fun _=>hnm) (fun h=>by rw[h];rfl) ?_
   simp(maxSteps:=2000000) only[go_sem,hk,bne]
   refine CallQ.mi 120 hh hM ⟨oS,oS,trivial⟩ ?_
   simp(maxSteps:=2000000) only[go_sem,aP hT h]
   exact RetQ.of hR rfl scc rvv (SubV.sub0 ⟨oR,oR,oL,oL,oR,oR,oR,oR,oR,oR,oR,trivial⟩) (clS _ _) (ClV.of rfl)
def begP (T:List Tk)(p:Ps):Option Str×Ps:=bndB (takP T diaT p) fun p=>bnd (namP T p) fun nm p=>bndB (endP T p) fun p=>(some nm,p)
def begN (T:List Tk)(n:Str)(p:Ps):Str:=match takP T diaT p with
 |(false,_)=>n
 |(true,q)=>match namP T q with
  |(none,_)=>n
  |(some s,_)=>s
theorem begN_eq (T:List Tk)(n:Str)(p:Ps):∀s,(begP T p).1=some s→begN T n p=s:=by
 intro s hs
 unfold begP at hs
 unfold begN
 generalize takP T diaT p=r at*
 obtain⟨b,q⟩:=r
 cases b with
 |false=>cases hs
 |true=>
  simp only[bndB]at hs⊢
  generalize namP T q=r at*
  obtain⟨o,q2⟩:=r
  cases o with
  |none=>cases hs
  |some s2=>
   simp only[bnd]at hs⊢
   generalize endP T q2=r at*
   obtain⟨b,q3⟩:=r
   cases b with
   |false=>cases hs
   |true=>exact Option.some.inj hs
theorem begP_eq (T:List Tk)(d:Dg)(p:Ps):lneP T true d p=((begP T p).1.map fun s=>{d with nm:=s},(begP T p).2):=by
 show bndB (takP T diaT p) _=_
 unfold begP
 generalize takP T diaT p=r
 obtain⟨b,q⟩:=r
 cases b with
 |false=>rfl
 |true=>
  simp only[bndB]
  generalize namP T q=r
  obtain⟨o,q2⟩:=r
  cases o with
  |none=>rfl
  |some s=>
   simp only[bnd]
   generalize endP T q2=r
   obtain⟨b,q3⟩:=r
   cases b<;>rfl
theorem begin_ (T:List Tk)(hT:T.length≤40000)(g:GTk T)(sT:STk T)(p:Ps)(h:p.at_<T.length)(d:DgL):
  CallOk Tryz.prog 48 [.c (.p 1 0),.c (.p 4 0),Bo true] (pZ T p d) (Bo (begP T p).1.isSome) [bPs T (begP T p).2,bDg (dgC {d with nm:=begN T d.nm p})]:=by
 have clF:∀q,ClM (bPs T q::pZ T p d):=fun q=>ClM.of (by simp only[List.all_cons,inMV (rowsC_isV _)];rfl)
 have clS:∀q x,ClM (bPs T q::bDg (dgC x)::pZ T p d):=fun q x=>ClM.of (by simp only[List.all_cons,inMV (rowsC_isV _)];rfl)
 have clZ:∀q,ClM (pZ T q d):=fun q=>ClM.of (by simp only[List.all_cons,inMV (rowsC_isV _)];rfl)
 refine CallOk.mkN 29 Tryz.func48 rfl en48 (by simp[Tryz.ntmps48]) (ClA.of rfl) rfl rfl fun C hR hP=>?_
 refine vv ?_
 generalize hX:begP T p=X at*
 generalize hY:begN T d.nm p=Y at*
 unfold begP at hX
 unfold begN at hY
 refine CallQ.mi 29 (here_ T (by omega) p h) (pM_cl T _) ⟨oS,oS,trivial⟩ ?_
 refine vv ?_
 have hi:=take_ T (by omega) p h diaT
 have hon:=tak_on g diaT h
 generalize takP T diaT p=r at hi hon hX hY
 obtain⟨b,q⟩:=r
 have hq:q.at_<T.length:=hon.2
 cases b with
 |false=>
  simp only[bndB]at hX hY
  subst hX hY
  refine CallQ.mi 40 hi (pM_cl T _) ⟨oS,oS,trivial⟩ ?_
  refine vv ?_
  refine CallQ.guard (v:=Bo false) (xs:=[]) 50 (fun h=>by cases h) (fun h=>by cases h) ?_
  refine vv ?_
  refine CallQ.guard (v:=Bo false) (xs:=[]) 60 (fun h=>by cases h) (fun h=>by cases h) ?_
  refine vv ?_
  exact RetQ.of hR rfl scc rvv (SubV.sub0 ⟨oR,oR,oL,oL,oR,oR,oR,oR,oR,oR,oR,trivial⟩) (clS _ _) (ClV.of rfl)
 |true=>
  simp only[bndB]at hX hY
  refine CallQ.mi 40 hi (pM_cl T _) ⟨oS,oS,trivial⟩ ?_
  refine vv ?_
  have hi:=name4_ T (by omega) sT q hq d
  have hon:=(nam_on g hq).1
  generalize namP T q=r at hi hon hX hY
  obtain⟨o,q2⟩:=r
  have hq2:q2.at_<T.length:=hon.2
  cases o with
  |none=>
   simp only[bnd]at hX hY
   subst hX hY
   simp only[Option.isSome_none]at hi
   refine CallQ.mi 50 hi (clZ _) ⟨oS,oS,oS,oS,oS,oS,oS,oS,oS,trivial⟩ ?_
   refine vv ?_
   refine CallQ.guard (v:=Bo false) (xs:=[]) 60 (fun h=>by cases h) (fun h=>by cases h) ?_
   refine vv ?_
   exact RetQ.of hR rfl scc rvv (SubV.sub0 ⟨oR,oR,oL,oL,oR,oR,oR,oR,oR,oR,oR,trivial⟩) (clS _ _) (ClV.of rfl)
  |some s=>
   simp only[bnd]at hX hY
   subst hY
   simp only[Option.isSome_some]at hi
   refine CallQ.mi 50 hi (clZ _) ⟨oS,oS,oS,oS,oS,oS,oS,oS,oS,trivial⟩ ?_
   refine vv ?_
   have hen:=end_ T (by omega) q2 hq2
   generalize endP T q2=r at hen hX
   obtain⟨b,q3⟩:=r
   cases b with
   |false=>
    simp only[bndB]at hX
    subst hX
    refine CallQ.mi 60 hen (pM_cl T _) ⟨oS,oS,trivial⟩ ?_
    refine vv ?_
    exact RetQ.of hR rfl scc rvv (SubV.sub0 ⟨oR,oR,oL,oL,oR,oR,oR,oR,oR,oR,oR,trivial⟩) (clS _ _) (ClV.of rfl)
   |true=>
    simp only[bndB]at hX
    subst hX
    refine CallQ.mi 60 hen (pM_cl T _) ⟨oS,oS,trivial⟩ ?_
    refine vv ?_
    exact RetQ.of hR rfl scc rvv (SubV.sub0 ⟨oR,oR,oL,oL,oR,oR,oR,oR,oR,oR,oR,trivial⟩) (clS _ _) (ClV.of rfl)
def cpf (l:List UInt8):List UInt8×Bool:=match l with
 |[]=>([],false)
 |x::r=>if x=45 then(r,true)else(x::r,false)
theorem hasPre (l:List UInt8):CallOk Tryz.prog 52 [S l,S [45]] [] (Bo (cpf l).2) []:=by
 refine CallOk.mkN 100 Tryz.func52 rfl en52 (by simp[Tryz.ntmps52]) (ClA.of rfl) rfl rfl fun C hR hP=>?_
 simp(maxSteps:=2000000) only[go_sem,List.length_cons,List.length_nil]
 refine⟨fun h=>⟨h,h,of_decide_eq_true h⟩,RetQ.bool hR rfl ⟨rfl,trivial⟩ ?_⟩
 cases l with
 |nil=>rfl
 |cons x l=>
  have h1:decide ((1:Int)≤((x::l).length:Int))=true:=tru_of (by simp;omega)
  rw[h1]
  by_cases hx:x=45
  ·simp[cpf,hx]
  ·simp[cpf,hx]
theorem cutPre1 (l:List UInt8):CallOk Tryz.prog 276 [S l,S [45]] [] (.tup [Ws (cpf l).1,Wb1 (cpf l).2]) []:=by
 refine CallOk.mkN 100 Tryz.func276 rfl en276 (by simp[Tryz.ntmps276]) (ClA.of rfl) rfl rfl fun C hR hP=>?_
 refine vv ?_
 refine CallQ.pure 110 (hasPre l) rfl ?_
 refine vv ?_
 refine mtch (fun h=>?_) (fun h=>?_)
 ·have h:(cpf l).2=false:=by simpa using h
  have e:(cpf l).1=l:=by
   cases l with
   |nil=>rfl
   |cons x l=>
    unfold cpf at h⊢
    simp only at h⊢
    split
    ·rename_i hx;rw[if_pos hx]at h;cases h
    ·rfl
  rw[h,e]at hR
  exact RetQ.of hR rfl ⟨rfl,rfl,trivial⟩ rfl (Sub.nil _) ClM.nil (ClV.of rfl)
 ·have h:(cpf l).2=true:=by simpa using h
  obtain⟨x,r,rfl⟩:∃x r,l=x::r:=by
   cases l with
   |nil=>cases h
   |cons x r=>exact⟨x,r,rfl⟩
  have e:(cpf (x::r)).1=r:=by
   unfold cpf at h⊢
   simp only at h⊢
   split
   ·rfl
   ·rename_i hx;rw[if_neg hx]at h;cases h
  rw[h,e]at hR
  simp(maxSteps:=2000000) only[go_sem,List.length_cons,List.length_nil]
  refine⟨⟨by omega,by omega⟩,?_⟩
  refine RetQ.of hR rfl ⟨rfl,rfl,trivial⟩ ?_ (Sub.nil _) ClM.nil (ClV.of rfl)
  simp[V.toW,W.toV]
theorem cutPre (l:List UInt8):CallOk Tryz.prog 250 [S l,S [45]] [] (.tup [Ws (cpf l).1,Wb1 (cpf l).2]) []:=by
 refine CallOk.mkN 100 Tryz.func250 rfl en250 (by simp[Tryz.ntmps250]) (ClA.of rfl) rfl rfl fun C hR hP=>?_
 refine vv ?_
 refine CallQ.pure 110 (cutPre1 l) rfl ?_
 refine vv ?_
 exact RetQ.of hR rfl ⟨rfl,rfl,trivial⟩ rfl (Sub.nil _) ClM.nil (ClV.of rfl)
theorem cpf_eq (s:Str):cpf s=(dgT s,ngB s):=by
 cases s with
 |nil=>rfl
 |cons c r=>
  unfold cpf dgT ngB
  by_cases h:c=45
  ·subst h;rfl
  ·have:(c==45)=false:=by rw[beq_eq_false_iff_ne];exact h
   show(if c=45 then _ else _)=_
   rw[if_neg h]
   show _=(bif c==45 then _ else _,c==45)
   rw[this];rfl
theorem canon_ (s:Str):CallOk Tryz.prog 188 [S s] [] (Bo (canQ s)) []:=by
 have hc:=cutPre s
 rw[cpf_eq]at hc
 refine CallOk.mkN 100 Tryz.func188 rfl en188 (by simp[Tryz.ntmps188]) (ClA.of rfl) rfl rfl fun C hR hP=>?_
 refine vv ?_
 refine CallQ.pure 110 hc rfl ?_
 refine vv ?_
 refine⟨fun h=>⟨h,hlp _ h⟩,fun h=>⟨h,fun h2=>by rw[h,h2];rfl⟩,fun h=>⟨h,fun h2=>by rw[h,h2];rfl⟩,RetQ.bool hR rfl ⟨rfl,trivial⟩ ?_⟩
 unfold canQ
 have e1:((dgT s).getD 0 0==48)=((((dgT s).getD 0 0).toNat:Int)==48):=by
  rw[Bool.eq_iff_iff,beq_iff_eq,beq_iff_eq]
  constructor
  ·intro h;rw[h];rfl
  ·intro h;exact UInt8.toNat_inj.1 (by show _=48;omega)
 have e2:decide ((dgT s).length=1)=(((dgT s).length:Int)==1):=by
  rw[Bool.eq_iff_iff,beq_iff_eq,decide_eq_true_eq];omega
 rw[e1,e2,bne]
 cases dgT s==[]<;>cases (((dgT s).getD 0 0).toNat:Int)==48<;>cases ((dgT s).length:Int)==1<;>cases ngB s<;>rfl
theorem great_ {H:Hp}(s:Str)(hE:¬(-9223372036854775808≤numV s∧numV s≤9223372036854775807)→ErR H)(hs:s.length≤1000000):CallH H Tryz.prog 189 [S s] (Bo (grtQ s)):=by
 have ha:=arp_ s hE hs
 refine CallH.mkS Tryz.func189 rfl en189 (by simp[Tryz.ntmps189]) (ClA.of rfl) fun C hR hP hH hL=>?_
 have hR:=hR C hL
 unfold grtQ at hR
 generalize aprQ s=r at*
 obtain⟨n,e⟩:=r
 simp only at ha hR
 refine Sm.go 100 ?_
 refine vv ?_
 refine CallQ.h 110 ha hH rfl ?_
 refine vv ?_
 refine RetQ.bool hR rfl ⟨rfl,trivial⟩ ?_
 rw[bne]
 cases e==0<;>cases decide (1099511627776<n)<;>cases decide (n< -1099511627776)<;>rfl
theorem symB8:∀n:Fin 256,decide ((0:Int)≤Lib.indexByte symL (UInt8.ofNat n.val))=symL.contains (UInt8.ofNat n.val):=by decide+kernel
theorem symB (c:UInt8):decide ((0:Int)≤Lib.indexByte symL c)=symL.contains c:=by
 have h:=symB8 ⟨c.toNat,c.toNat_lt⟩
 simpa using h
theorem ixB (l:Str)(c:UInt8):CallOk Tryz.prog 30 [S l,Y c.toNat] [] (I (Lib.indexByte l c)) []:=by
 refine CallOk.mkN 100 Tryz.func30 rfl en30 (by simp[Tryz.ntmps30]) (ClA.of rfl) rfl rfl fun C hR hP=>?_
 refine vv ?_
 refine CallQ.pure 110 (ixByte l c) rfl ?_
 refine vv ?_
 exact RetQ.of hR rfl ⟨rfl,trivial⟩ rfl (Sub.nil _) ClM.nil (ClV.of rfl)
theorem run_eq (p:UInt8→Bool)(s:Str)(k:Nat):runN p s k=run1 p s k:=rfl
theorem u8e (c:UInt8)(n:Nat)(h:n<256):((c.toNat:Int)==(n:Int))=(c==UInt8.ofNat n):=by
 rw[Bool.eq_iff_iff,beq_iff_eq,beq_iff_eq]
 constructor
 ·intro e
  apply UInt8.toNat_inj.1
  rw[UInt8.toNat_ofNat_of_lt' h];omega
 ·intro e;rw[e,UInt8.toNat_ofNat_of_lt' h]
theorem scan_ {H:Hp}(hE:ErR H)(l:Str)(hl:l.length≤100000)(k:Nat)(hk:k<l.length):CallH H Tryz.prog 67 [S l,I k] (.tup [Wi ((scnQ l k).1:Int),Wi ((scnQ l k).2.1:Int),Wi (scnQ l k).2.2]):=by
 refine CallH.mkS Tryz.func67 rfl en67 (by simp[Tryz.ntmps67]) (ClA.of rfl) fun C hR hP hH hL=>?_
 have hR:=hR C hL
 unfold scnQ at hR
 have hle:=letter_ (l.getD k 0)
 have hdi:=digit_ (l.getD k 0)
 have hix:=ixB symL (l.getD k 0)
 have hri:=run_ l k (by omega) (by omega) 186 inB inner_
 rw[run_eq]at hri
 have hb:=u8e (l.getD k 0) 32 (by decide)
 have ht:=u8e (l.getD k 0) 9 (by decide)
 have hm:=u8e (l.getD k 0) 45 (by decide)
 generalize hc:l.getD k 0=c at*
 refine Sm.go 100 ?_
 simp(maxSteps:=2000000) only[go_sem,hc]
 refine⟨⟨by omega,by omega⟩,?_⟩
 refine mtch (fun hq=>?_) (fun hq=>?_)
 ·have h0:c=32∨c=9:=by
   have q1:((c.toNat:Int)==32)=(c==32):=hb
   have q2:((c.toNat:Int)==9)=(c==9):=ht
   rw[q1,q2]at hq
   cases h1:c==32 with
   |true=>exact .inl (eq_of_beq h1)
   |false=>rw[h1,cond_false]at hq;exact .inr (eq_of_beq hq)
  simp only[if_pos h0]at hR
  exact RetQ.of hR rfl scc rvv (Sub.nil _) ClM.nil (ClV.of rfl)
 have h0:¬(c=32∨c=9):=by
  have q1:((c.toNat:Int)==32)=(c==32):=hb
  have q2:((c.toNat:Int)==9)=(c==9):=ht
  rw[q1,q2]at hq
  rintro(rfl|rfl)<;>cases hq
 simp only[if_neg h0]at hR
 refine CallQ.pure 110 hle rfl ?_
 simp(maxSteps:=2000000) only[go_sem,hc]
 cases hlc:leB c with
 |true=>
  simp only[hlc,if_true]at hR
  simp(maxSteps:=2000000) only[go_sem,hc]
  refine CallQ.pure 120 hri rfl ?_
  simp(maxSteps:=2000000) only[go_sem,hc]
  refine mtch (fun hq=>?_) (fun hq=>?_)
  ·have h1:24<run1 inB l k:=by have:=of_decide_eq_true hq;omega
   simp only[if_pos h1]at hR
   exact RetQ.of hR rfl scc rvv (Sub.nil _) ClM.nil (ClV.of rfl)
  ·have h1:¬24<run1 inB l k:=by have:=of_decide_eq_false hq;omega
   simp only[if_neg h1]at hR
   exact RetQ.of hR rfl scc rvv (Sub.nil _) ClM.nil (ClV.of rfl)
 |false=>
  simp only[hlc,Bool.false_eq_true,if_false]at hR
  simp(maxSteps:=2000000) only[go_sem,hc]
  have w1:IntKind.i64.wrap ((k:Int)+1)=((k+1:Nat):Int):=wS (by omega)
  refine CallQ.pure 120 hdi rfl ?_
  simp(maxSteps:=2000000) only[go_sem,hc,w1]
  have hg:∀b d e:Bool,(!b&&bif d then e else false)=true→b=false∧d=true∧e=true:=by decide
  refine⟨fun h=>⟨h,fun h2=>by rw[h,h2];rfl⟩,fun h=>⟨h,h,by omega,of_decide_eq_true (hg _ _ _ h).2.2⟩,?_⟩
  refine CallQ.guard 130 (fun _=>digit_ (l.getD (k+1) 0)) (fun h=>by rw[h];rfl) ?_
  simp(maxSteps:=2000000) only[go_sem,hc,w1]
  have hcond:(diB c||(c==45&&(decide (k+1<l.length)&&diB (l.getD (k+1) 0))))=(bif diB c then true else bif (bif ((c.toNat:Int)==45)then decide (((k+1:Nat):Int)<(l.length:Int))else false)then diB (l.getD (k+1) 0)else false):=by
   have q1:((c.toNat:Int)==45)=(c==45):=hm
   have q2:decide (((k+1:Nat):Int)<(l.length:Int))=decide (k+1<l.length):=by rw[decide_eq_decide];omega
   rw[q1,q2]
   cases diB c<;>cases c==45<;>cases decide (k+1<l.length)<;>rfl
  rw[hcond]at hR
  refine⟨fun h=>⟨h,fun h2=>by rw[h,h2];rfl⟩,?_⟩
  refine mtch (fun hq=>?_) (fun hq=>?_)
  ·simp only[hq,if_true]at hR
   have hrd:=run_ l (k+1) (by omega) (by omega) 187 diB digit_
   rw[run_eq]at hrd
   have hrn:run1 diB l (k+1)+(k+1)≤l.length:=by
    unfold run1
    have:=(List.takeWhile_prefix (l:=l.drop (k+1)) diB).length_le
    rw[List.length_drop]at this;omega
   refine CallQ.pure 140 hrd rfl ?_
   generalize run1 diB l (k+1)=n at*
   have w2:IntKind.i64.wrap (1+(n:Int))=((1+n:Nat):Int):=by rw[w64 (by omega) (by omega)];omega
   have w3:IntKind.i64.wrap ((k:Int)+((1+n:Nat):Int))=((k+(1+n):Nat):Int):=by rw[w64 (by omega) (by omega)];omega
   simp(maxSteps:=2000000) only[go_sem,hc,w1,w2,w3]
   refine⟨⟨by omega,by omega,by omega⟩,fun h=>⟨h,h,by omega,of_decide_eq_true h⟩,?_⟩
   refine CallQ.guard 150 (fun _=>letter_ (l.getD (k+(1+n)) 0)) (fun h=>by rw[h];rfl) ?_
   have e4:List.take (((k+(1+n):Nat):Int)-(k:Int)).toNat (List.drop k l)=subS2 l k (1+n):=by
    rw[show(((k+(1+n):Nat):Int)-(k:Int)).toNat=1+n by omega];rfl
   simp(maxSteps:=2000000) only[go_sem,hc,w1,w2,w3,e4]
   have hA:∀b d:Bool,(b&&d)=true→b=true:=by decide
   refine⟨fun h=>⟨h,h,by omega,of_decide_eq_true (hA _ _ h)⟩,fun h=>⟨h,fun h2=>by rw[h,h2];rfl⟩,?_⟩
   refine CallQ.guard 160 (fun _=>canon_ (subS2 l k (1+n))) (fun h=>by rw[h];rfl) ?_
   simp(maxSteps:=2000000) only[go_sem,hc,w1,w2,w3,e4]
   have h95:=u8e (l.getD (k+(1+n)) 0) 95 (by decide)
   have hcond2:((decide (k+(1+n)<l.length)&&(leB (l.getD (k+(1+n)) 0)||l.getD (k+(1+n)) 0==95))|| !canQ (subS2 l k (1+n)))=(bif (bif decide (((k+(1+n):Nat):Int)<(l.length:Int))then bif leB (l.getD (k+(1+n)) 0)then true else((l.getD (k+(1+n)) 0).toNat:Int)==95 else false)then true else !canQ (subS2 l k (1+n))):=by
    have q1:(((l.getD (k+(1+n)) 0).toNat:Int)==95)=(l.getD (k+(1+n)) 0==95):=h95
    have q2:decide (((k+(1+n):Nat):Int)<(l.length:Int))=decide (k+(1+n)<l.length):=by rw[decide_eq_decide];omega
    rw[q1,q2]
    cases decide (k+(1+n)<l.length)<;>cases leB (l.getD (k+(1+n)) 0)<;>cases l.getD (k+(1+n)) 0==95<;>cases canQ (subS2 l k (1+n))<;>rfl
   rw[hcond2]at hR
   refine mtch (fun hq2=>?_) (fun hq2=>?_)
   ·simp only[hq2,if_true]at hR
    exact RetQ.of hR rfl scc rvv (Sub.nil _) ClM.nil (ClV.of rfl)
   ·simp only[hq2,Bool.false_eq_true,if_false]at hR
    refine CallQ.h 170 (great_ (subS2 l k (1+n)) (fun _=>hE) (by unfold subS2;rw[List.length_take];omega)) hH rfl ?_
    refine vv ?_
    cases hgr:grtQ (subS2 l k (1+n))with
    |true=>
     simp only[hgr,if_true]at hR
     refine vv ?_
     exact RetQ.of hR rfl scc rvv (Sub.nil _) ClM.nil (ClV.of rfl)
    |false=>
     simp only[hgr,Bool.false_eq_true,if_false]at hR
     refine vv ?_
     exact RetQ.of hR rfl scc rvv (Sub.nil _) ClM.nil (ClV.of rfl)
  ·simp only[hq,Bool.false_eq_true,if_false]at hR
   refine CallQ.pure 140 hix rfl ?_
   simp(maxSteps:=2000000) only[go_sem,hc]
   rw[symB]
   cases hs:symL.contains c with
   |true=>
    simp only[hs,if_true]at hR
    simp(maxSteps:=2000000) only[go_sem,hc]
    exact RetQ.of hR rfl scc rvv (Sub.nil _) ClM.nil (ClV.of rfl)
   |false=>
    simp only[hs,Bool.false_eq_true,if_false]at hR
    simp(maxSteps:=2000000) only[go_sem,hc]
    exact RetQ.of hR rfl scc rvv (Sub.nil _) ClM.nil (ClV.of rfl)
end Go.Proofs.YtlnpgbnhcondjaaGreatDoor.Fx
namespace Go.Proofs.YtlnpgbnhcondjaaGreatDoor.Fx
set_option linter.unusedVariables false
theorem run1_le (p:UInt8→Bool)(s:Str)(k:Nat):run1 p s k≤s.length-k:=by
 unfold run1
 have:=(List.takeWhile_prefix (l:=s.drop k) p).length_le
 rw[List.length_drop]at this;exact this
theorem run1_pos {p:UInt8→Bool}{s:Str}{k:Nat}(h:k<s.length)(hp:p (s.getD k 0)=true):1≤run1 p s k:=by
 unfold run1
 rw[List.drop_eq_getElem_cons h,List.takeWhile_cons]
 rw[List.getD_eq_getElem?_getD,List.getElem?_eq_getElem h]at hp
 have hp:p s[k]=true:=hp
 rw[if_pos hp];simp
theorem leB_inB {c:UInt8}(h:leB c=true):inB c=true:=by unfold inB;rw[h];rfl
theorem scn_ok {l:Str}{k:Nat}(h:k<l.length)(he:(scnQ l k).2.2=0):1≤(scnQ l k).2.1∧k+(scnQ l k).2.1≤l.length∧(scnQ l k).1≤3:=by
 unfold scnQ at he⊢
 simp only at he⊢
 by_cases h1:l.getD k 0=32∨l.getD k 0=9
 ·simp only[if_pos h1]at he⊢;omega
 simp only[if_neg h1]at he⊢
 by_cases h2:leB (l.getD k 0)=true
 ·simp only[if_pos h2]at he⊢
  by_cases h3:24<run1 inB l k
  ·simp only[if_pos h3]at he;cases he
  ·simp only[if_neg h3]at he⊢
   have a:=run1_pos h (leB_inB h2)
   have b:=run1_le inB l k
   omega
 simp only[if_neg h2]at he⊢
 by_cases h4:(diB (l.getD k 0)||(l.getD k 0==45&&(decide (k+1<l.length)&&diB (l.getD (k+1) 0))))=true
 ·simp only[if_pos h4]at he⊢
  have b:=run1_le diB l (k+1)
  split at he
  ·cases he
  ·rename_i h5
   rw[if_neg h5]
   split at he
   ·cases he
   ·rename_i h6
    rw[if_neg h6]
    simp only
    omega
 simp only[if_neg h4]at he⊢
 by_cases h7:symL.contains (l.getD k 0)=true
 ·simp only[if_pos h7]at he⊢;omega
 ·simp only[if_neg h7]at he;cases he
theorem scn_num {l:Str}(hl:l.length≤100000){k:Nat}(h:k<l.length)(he:(scnQ l k).2.2=0)(h2:(scnQ l k).1=2):gdN (subS2 l k (scnQ l k).2.1):=by
 have hg:grtQ (subS2 l k (scnQ l k).2.1)=false:=by
  unfold scnQ at he h2⊢
  simp only at he h2⊢
  by_cases h1:l.getD k 0=32∨l.getD k 0=9
  ·simp only[if_pos h1]at h2;cases h2
  simp only[if_neg h1]at he h2⊢
  by_cases h3:leB (l.getD k 0)=true
  ·simp only[if_pos h3]at h2
   split at h2<;>cases h2
  simp only[if_neg h3]at he h2⊢
  by_cases h4:(diB (l.getD k 0)||(l.getD k 0==45&&(decide (k+1<l.length)&&diB (l.getD (k+1) 0))))=true
  ·simp only[if_pos h4]at he h2⊢
   split at he
   ·cases he
   ·rename_i h5
    rw[if_neg h5]
    split at he
    ·cases he
    ·rename_i h6
     rw[if_neg h6]
     simpa using h6
  simp only[if_neg h4]at h2
  split at h2<;>cases h2
 have hlen:(subS2 l k (scnQ l k).2.1).length≤1000000:=by unfold subS2;rw[List.length_take,List.length_drop];omega
 generalize subS2 l k (scnQ l k).2.1=t at*
 refine⟨hlen,?_⟩
 unfold grtQ at hg
 rw[Bool.or_eq_false_iff]at hg
 have ha:(aprQ t).2=0:=by
  have:=hg.1
  simpa using this
 unfold aprQ at ha
 split at ha
 ·cases ha
 ·split at ha
  ·cases ha
  ·split at ha
   ·cases ha
   ·split at ha
    ·rename_i hh;exact hh
    ·cases ha
end Go.Proofs.YtlnpgbnhcondjaaGreatDoor.Fx
