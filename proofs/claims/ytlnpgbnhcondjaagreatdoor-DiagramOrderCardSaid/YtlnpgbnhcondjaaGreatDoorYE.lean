/-  -/
import Derived.Test.YtlnpgbnhcondjaaGreatDoorTf
import Derived.Test.YtlnpgbnhcondjaaGreatDoorYC
namespace Go.Proofs.YtlnpgbnhcondjaaGreatDoor.Fx
open Vg Tf
set_option linter.unusedSimpArgs false
set_option linter.unusedVariables false
set_option maxRecDepth 100000
set_option maxHeartbeats 4000000
def cmb (acc:List Tk)(r:List Tk×(Nat×Nat)×Int):List Tk×(Nat×Nat)×Int:=if r.2.2≠0 then([],r.2)else(acc++r.1,(0,0),0)
@[go_sem ↓] theorem plS_1_4d:plS 1 4=[(0,4)]:=rfl
theorem tk_app (T:List Tk)(t:Tk):List.take (T.length*4) (rowsC (T.map Tk.r))++t.r.map Cv.v=rowsC ((T++[t]).map Tk.r):=by
 have hz:=rows_len (r:=Tk.r) (k:=4) (fun _=>rfl) T
 rw[List.take_of_length_le (by rw[hz];omega)]
 simp[rowsC]
theorem lin_ne (ln:Nat)(l:Str):∀(f k:Nat) (x:Nat×Int),(linQ ln l f k).2=some x→x.2≠0
 |0,k,x,h=>by cases h
 |f+1,k,x,h=>by
  unfold linQ at h
  split at h
  ·cases h
  ·split at h
   ·split at h
    ·cases h;exact(by decide:(3:Int)≠0)
    ·cases h
   ·split at h
    ·rename_i he;cases h;exact he
    ·exact lin_ne ln l f _ x h
theorem lns_nf:∀(L:List Str) (i:Nat),cmb [] (lnsQ i L)=lnsQ i L
 |[],i=>rfl
 |l::L,i=>by
  unfold lnsQ
  cases h:(linQ (i+1) l (l.length+1) 0).2 with
  |some x=>
   obtain⟨k,e⟩:=x
   simp only
   unfold cmb
   simp only
   have he:e≠0:=lin_ne _ _ _ _ _ h
   rw[if_pos he]
  |none=>
   simp only
   by_cases he:(lnsQ (i+1) L).2.2≠0
   ·rw[if_pos he];unfold cmb;rw[if_pos he]
   ·rw[if_neg he];unfold cmb;simp
theorem lns_step {i:Nat}{l:Str}{R:List Str}(T:List Tk)(h:(linQ (i+1) l (l.length+1) 0).2=none):
  cmb T (lnsQ i (l::R))=cmb (T++(linQ (i+1) l (l.length+1) 0).1++(if (linQ (i+1) l (l.length+1) 0).1.isEmpty=true then[]else[⟨4,[],i+1,l.length+1⟩])) (lnsQ (i+1) R):=by
 conv=>lhs;rw[lnsQ]
 rw[h]
 simp only
 by_cases he:(lnsQ (i+1) R).2.2≠0
 ·rw[if_pos he];unfold cmb;rw[if_pos he,if_pos he]
 ·rw[if_neg he];unfold cmb;rw[if_neg he];simp[List.append_assoc]
theorem lns_err {i k:Nat}{e:Int}{l:Str}{R:List Str}(T:List Tk)(h:(linQ (i+1) l (l.length+1) 0).2=some (k,e)):cmb T (lnsQ i (l::R))=([],(i+1,k+1),e):=by
 rw[lnsQ,h]
 simp only
 unfold cmb
 rw[if_pos (lin_ne _ _ _ _ _ h)]
@[reducible] def bTkn (nm:Nat)(T:List Tk):Nat×Bk:=(nm,⟨false,rowsC (T.map Tk.r),57⟩)
theorem pos_ (i k:Nat)(hi:i≤1000000)(hk:k≤1000000):CallOk Tryz.prog 66 [I k,.c (.p 1 0)] [(1,⟨false,[nC i],3⟩)] (.agg [nC (i+1),nC (k+1)]) []:=by
 refine CallOk.mkN 100 Tryz.func66 rfl en66 (by simp[Tryz.ntmps66]) (ClA.of rfl) rfl rfl fun C hR hP=>?_
 simp(maxSteps:=2000000) only[go_sem,wS (show i≤1000000000000000000 by omega),wS (show k≤1000000000000000000 by omega)]
 exact RetQ.of hR rfl (vv trivial) rvr (SubS.sub ⟨oS,trivial⟩) (ClM.of rfl) (ClV.of rfl)
theorem tokens_ {H:Hp}(hE:ErR H)(s:Str)(hs:s.length≤1000000):
  CallX H Tryz.prog 24 [S s] [] (fun _:Unit=> .tup [.c (.sl 1 0 (tokQ s).1.length 4),.agg [nC (tokQ s).2.1.1,nC (tokQ s).2.1.2],Wi (tokQ s).2.2]) (fun _=>[bTkn 1 (tokQ s).1]) (fun _ _=>True):=by
 refine CallX.mkS Tryz.func24 rfl en24 (by simp[Tryz.ntmps24]) (ClA.of rfl) (fun _=>rfl) (fun _=>rfl) fun C hR hP hH hL=>?_
 have hR:=hR () C hL trivial
 unfold tokQ at hR
 refine Sm.go 100 ?_
 by_cases h0:16384<s.length
 ·have h1:decide ((16384:Int)<(s.length:Int))=true:=tru_of (by omega)
  rw[if_pos h0]at hR
  simp(maxSteps:=2000000) only[go_sem,h1]
  refine RetQ.nils 120 4 57 [2] [] rfl ?_
  refine vv ?_
  refine RetQ.ren [(1,120)] hR hP rfl (vv trivial) rfl rfl trivial ⟨oR,trivial⟩ (ClM.of rfl) (ClV.of rfl)
 have h1:decide ((16384:Int)<(s.length:Int))=false:=fal_of (by omega)
 rw[if_neg h0]at hR
 simp(maxSteps:=2000000) only[go_sem,h1]
 refine CallQ.ren [(1,130)] 140 (sSplit s 10 hs) ClM.nil rfl rfl trivial rfl (.inl rfl) ?_
 simp only[Mem.ren,List.map_cons,List.map_nil,renV (v_st _),V.ren,Cv.ren,rn,Nat.reduceBEq,cond_true]
 refine vv ?_
 refine Sm.nils 150 4 57 [5] [] rfl ?_
 have hsub:=splB_sub 10 s
 have hcnt:(splB 10 s).length≤16385:=by
  rw[splB_len]
  have:=List.count_le_length (a:=(10:UInt8)) (l:=s)
  omega
 generalize hLs:splB 10 s=L at*
 have hcl:∀T,ClM [(3,⟨false,[nC 0,nC 0],32⟩),bSt 4 L,bTkn 5 T]:=fun T=>ClM.of (by simp only[List.all_cons,inMV (v_st _),inMV (rowsC_isV _)];rfl)
 have v_tk:∀T:List Tk,(rowsC (T.map Tk.r)).all Cv.isV=true:=fun _=>rowsC_isV _
 refine Sm.loopM (M0:=[]) (α:={x:Nat×List Tk//x.1≤L.length∧x.2.length≤x.1*20000∧cmb x.2 (lnsQ x.1 (L.drop x.1))=lnsQ 0 L}) hP
  (fun x=>[(0,true,S s),(3,true,.c (.p 3 0)),(5,true,.c (.sl 5 0 x.val.2.length 4)),(20,true,slV 4 L.length),(21,true,I L.length),(22,true,I x.val.1)])
  (fun x=>[(3,⟨false,[nC 0,nC 0],32⟩),bSt 4 L,bTkn 5 x.val.2]) (fun x=>L.length-x.val.1) ⟨(0,[]),by omega,by simp,lns_nf _ _⟩ (fun x=>hcl _) (fun _=>ClE.of rfl) [(3,100),(4,130),(5,150)] ?_ ?_
 ·exact⟨rfl,trivial,⟨rfl,rfl,rfl,rfl,rfl,rfl,trivial⟩,⟨oR,oV (renV (v_st _)),oR,trivial⟩⟩
 ·rintro⟨⟨i,T⟩,hi,hT,hx⟩ J hb
  simp only at hb hi hT hx⊢
  refine Sm.go 170 ?_
  refine vv ?_
  refine mtch (fun hc=>?_) (fun hc=>?_)
  ·have hc:=lt_of_dec hc
   have hg:=get_st hc
   have hpl:=hsub _ (getD_mem hc)
   rw[drop_getD hc]at hx
   generalize L.getD i []=l at*
   simp(maxSteps:=2000000) only[go_sem,hg]
   refine⟨⟨by omega,by omega⟩,?_⟩
   have hll:l.length≤16384:=by omega
   have hcl2:∀T',ClM [(3,⟨false,[nC 0,nC 0],32⟩),bSt 4 L,bTkn 5 T',(6,⟨false,[nC i],3⟩)]:=fun T'=>ClM.of (by simp only[List.all_cons,inMV (v_st _),inMV (rowsC_isV _)];rfl)
   refine Sm.loopM (M0:=[]) (α:={x:Nat×List Tk//x.1≤l.length∧x.2.length≤i*20000+x.1∧∃f,l.length+1≤x.1+f∧(x.2++(linQ (i+1) l f x.1).1,(linQ (i+1) l f x.1).2)=(T++(linQ (i+1) l (l.length+1) 0).1,(linQ (i+1) l (l.length+1) 0).2)}) hP
    (fun x=>[(0,true,S s),(3,true,.c (.p 3 0)),(5,true,.c (.sl 5 0 x.val.2.length 4)),(6,true,.c (.p 6 0)),(7,true,S l),(8,true,I T.length),(9,true,.c (.fn 66 [(6,0)])),(10,true,I x.val.1),(20,true,slV 4 L.length),(21,true,I L.length),(22,true,I i)])
    (fun x=>[(3,⟨false,[nC 0,nC 0],32⟩),bSt 4 L,bTkn 5 x.val.2,(6,⟨false,[nC i],3⟩)]) (fun x=>l.length-x.val.1) ⟨(0,T),by omega,by simp only;omega,l.length+1,by omega,rfl⟩ (fun x=>hcl2 _) (fun _=>ClE.of rfl) [(3,3),(4,4),(5,5),(6,170)] ?_ ?_
   ·exact⟨rfl,trivial,⟨rfl,rfl,rfl,rfl,rfl,rfl,rfl,rfl,rfl,rfl,rfl,trivial⟩,⟨oR,oV (renV (v_st _)),oV (renV (v_tk _)),oR,trivial⟩⟩
   ·rintro⟨⟨k,T'⟩,hk,hT',f,hf1,hf2⟩ J' hb'
    simp only at hb' hk hT' hf1 hf2⊢
    obtain⟨f,rfl⟩:∃g,f=g+1:=⟨f-1,by omega⟩
    rw[linQ]at hf2
    refine Sm.go 200 ?_
    refine vv ?_
    refine mtch (fun hc2=>?_) (fun hc2=>?_)
    ·have hc2:=lt_of_dec hc2
     rw[if_neg (by omega)]at hf2
     refine vv ?_
     refine⟨⟨by omega,by omega⟩,?_⟩
     have u35:(((l.getD k 0).toNat:Int)==35)=(l.getD k 0==35):=u8e (l.getD k 0) 35 (by decide)
     rw[u35]
     cases h35:l.getD k 0==35 with
     |true=>
      have c35:=eq_of_beq h35
      simp only[if_pos c35]at hf2
      refine vv ?_
      refine Sm.loopM (M0:=[]) (α:={j:Nat//j≤l.length∧∃f,l.length+1≤j+f∧badK l f j=badK l (l.length+1) k}) hP
       (fun j=>[(0,true,S s),(3,true,.c (.p 3 0)),(5,true,.c (.sl 5 0 T'.length 4)),(6,true,.c (.p 6 0)),(7,true,S l),(8,true,I T.length),(9,true,.c (.fn 66 [(6,0)])),(10,true,I k),(11,true,I j.val),(20,true,slV 4 L.length),(21,true,I L.length),(22,true,I i)])
       (fun _=>[(3,⟨false,[nC 0,nC 0],32⟩),bSt 4 L,bTkn 5 T',(6,⟨false,[nC i],3⟩)]) (fun j=>l.length-j.val) ⟨k,by omega,l.length+1,by omega,rfl⟩ (fun _=>hcl2 _) (fun _=>ClE.of rfl) [(3,3),(4,4),(5,5),(6,6)] ?_ ?_
      ·exact⟨rfl,trivial,⟨rfl,rfl,rfl,rfl,rfl,rfl,rfl,rfl,rfl,rfl,rfl,rfl,trivial⟩,⟨oR,oV (renV (v_st _)),oV (renV (v_tk _)),oR,trivial⟩⟩
      ·rintro⟨j,hj,f2,hg1,hg2⟩ J3 hb3
       simp only at hb3 hj hg1 hg2⊢
       obtain⟨f2,rfl⟩:∃g,f2=g+1:=⟨f2-1,by omega⟩
       rw[badK]at hg2
       refine Sm.go 300 ?_
       refine vv ?_
       refine mtch (fun hc3=>?_) (fun hc3=>?_)
       ·have hc3:=lt_of_dec hc3
        rw[if_pos hc3]at hg2
        refine vv ?_
        have hbd:badB (l.getD j 0)=(bif decide (126<((l.getD j 0).toNat:Int))then true else bif decide (((l.getD j 0).toNat:Int)<32)then((l.getD j 0).toNat:Int)!=9 else false):=by
         have q1:(((l.getD j 0).toNat:Int)!=9)= !(l.getD j 0==9):=by rw[bne];exact congrArg (! ·) (u8e (l.getD j 0) 9 (by decide))
         have q2:decide (126<((l.getD j 0).toNat:Int))=decide (126<(l.getD j 0).toNat):=by rw[decide_eq_decide];omega
         have q3:decide (((l.getD j 0).toNat:Int)<32)=decide ((l.getD j 0).toNat<32):=by rw[decide_eq_decide];omega
         rw[q1,q2,q3]
         unfold badB
         cases decide (126<(l.getD j 0).toNat)<;>cases decide ((l.getD j 0).toNat<32)<;>rfl
        refine⟨⟨by omega,by omega⟩,fun h=>⟨h,h,by omega,by omega⟩,fun h=>⟨h,h,by omega,by omega⟩,fun h=>⟨h,fun h2=>by rw[h,h2];rfl⟩,?_⟩
        refine mtch (fun hq=>?_) (fun hq=>?_)
        ·rw[if_pos (hbd.trans hq)]at hg2
         rw[←hg2]at hf2
         simp only at hf2
         have hln:(linQ (i+1) l (l.length+1) 0).2=some (j,3):=by have:=congrArg Prod.snd hf2;exact this.symm
         have hR2:lnsQ 0 L=([],(i+1,j+1),3):=by rw[←hx];exact lns_err T hln
         rw[hR2]at hR
         refine CallQ.ren [(1,6)] 320 (pos_ i j (by omega) (by omega)) (ClM.of rfl) rfl rfl ⟨oS,trivial⟩ rfl (.inl rfl) ?_
         refine vv ?_
         refine RetQ.nils 330 4 57 [2] [] rfl ?_
         refine vv ?_
         refine RetQ.ren [(1,330)] hR hP rfl (vv trivial) rfl rfl trivial ⟨oR,trivial⟩ (ClM.of rfl) (ClV.of rfl)
        ·rw[if_neg (by rw[hbd.trans hq];simp)]at hg2
         simp only[wS (show j≤1000000000000000000 by omega)]
         exact hb3 _ _ ⟨j+1,hc3,f2,by omega,hg2⟩ [(3,3),(4,4),(5,5),(6,6)] (by simp only;omega) ⟨rfl,trivial,⟨rfl,rfl,rfl,rfl,rfl,rfl,rfl,rfl,rfl,rfl,rfl,rfl,trivial⟩,⟨oR,oV (renV (v_st _)),oV (renV (v_tk _)),oR,trivial⟩⟩
       ·have hc3:=eq_of_dec hj hc3
        rw[if_neg (by omega)]at hg2
        rw[←hg2]at hf2
        simp only at hf2
        refine vv ?_
        have hln:(linQ (i+1) l (l.length+1) 0).2=none:=by have:=congrArg Prod.snd hf2;exact this.symm
        have hlt:T'=T++(linQ (i+1) l (l.length+1) 0).1:=by have:=congrArg Prod.fst hf2;simpa using this
        rw[lns_step T hln,←hlt]at hx
        cases hem:decide ((T.length:Int)<(T'.length:Int))with
        |true=>
         have hne:(linQ (i+1) l (l.length+1) 0).1.isEmpty=false:=by
          have:=of_decide_eq_true hem
          rw[hlt,List.length_append]at this
          cases hq:(linQ (i+1) l (l.length+1) 0).1 with
          |nil=>rw[hq]at this;simp at this
          |cons a b=>rfl
         rw[hne]at hx
         refine vv ?_
         refine CallQ.ren [(1,6)] 210 (pos_ i l.length (by omega) (by omega)) (ClM.of rfl) rfl rfl ⟨oS,trivial⟩ rfl (.inl rfl) ?_
         have hrl:=rows_len (r:=Tk.r) (k:=4) (fun _=>rfl) T'
         have hap:List.take (T'.length*4) (rowsC (T'.map Tk.r))++[.v (.int .i64 4),.v (.string ⟨#[]⟩),.v (.int .i64 ((i+1:Nat):Int)),.v (.int .i64 ((l.length+1:Nat):Int))]=rowsC ((T'++[(⟨4,[],i+1,l.length+1⟩:Tk)]).map Tk.r):=tk_app T' ⟨4,[],i+1,l.length+1⟩
         have hTl:(T'++[(⟨4,[],i+1,l.length+1⟩:Tk)]).length=T'.length+1:=by rw[List.length_append];rfl
         simp(maxSteps:=2000000) only[go_sem,hrl,hap,wS (show i≤1000000000000000000 by omega)]
         refine⟨⟨by omega,by omega,by omega⟩,?_⟩
         refine hb _ _ ⟨(i+1,T'++[⟨4,[],i+1,l.length+1⟩]),hc,by simp only[hTl];omega,hx⟩ [(3,3),(4,4),(5,211)] (by simp only;omega) ?_
         simp only[hTl]
         exact⟨rfl,trivial,⟨rfl,rfl,rfl,rfl,rfl,rfl,trivial⟩,⟨oR,oV (renV (v_st _)),oV (renV (v_tk _)),trivial⟩⟩
        |false=>
         have hne:(linQ (i+1) l (l.length+1) 0).1.isEmpty=true:=by
          have:=of_decide_eq_false hem
          rw[hlt,List.length_append]at this
          cases hq:(linQ (i+1) l (l.length+1) 0).1 with
          |nil=>rfl
          |cons a b=>rw[hq]at this;simp only[List.length_cons]at this;omega
         rw[hne,if_pos rfl,List.append_nil]at hx
         simp(maxSteps:=2000000) only[go_sem,wS (show i≤1000000000000000000 by omega)]
         exact hb _ _ ⟨(i+1,T'),hc,by simp only;omega,hx⟩ [(3,3),(4,4),(5,5)] (by simp only;omega) ⟨rfl,trivial,⟨rfl,rfl,rfl,rfl,rfl,rfl,trivial⟩,⟨oR,oV (renV (v_st _)),oV (renV (v_tk _)),trivial⟩⟩
     |false=>
      have c35:¬l.getD k 0=35:=fun e=>by rw[e]at h35;cases h35
      simp only[if_neg c35]at hf2
      have hsc:=scan_ hE l (by omega) k hc2
      have hok:=scn_ok hc2
      generalize scnQ l k=r at hsc hok hf2
      obtain⟨kd,n,e⟩:=r
      simp only at hsc hok hf2
      refine vv ?_
      refine CallQ.h 210 hsc hH rfl ?_
      refine vv ?_
      cases he:e==0 with
      |false=>
       have hne:e≠0:=fun h=>by rw[h]at he;cases he
       simp only[hne,ne_eq,not_false_eq_true,if_true]at hf2
       have hln:(linQ (i+1) l (l.length+1) 0).2=some (k,e):=by have:=congrArg Prod.snd hf2;exact this.symm
       have hR2:lnsQ 0 L=([],(i+1,k+1),e):=by rw[←hx];exact lns_err T hln
       rw[hR2]at hR
       simp(maxSteps:=2000000) only[go_sem,he,bne]
       refine CallQ.ren [(1,6)] 220 (pos_ i k (by omega) (by omega)) (ClM.of rfl) rfl rfl ⟨oS,trivial⟩ rfl (.inl rfl) ?_
       refine vv ?_
       refine RetQ.nils 230 4 57 [2] [] rfl ?_
       refine vv ?_
       refine RetQ.ren [(1,230)] hR hP rfl (vv trivial) rfl rfl trivial ⟨oR,trivial⟩ (ClM.of rfl) (ClV.of rfl)
      |true=>
       have h0e:=eq_of_beq he
       subst h0e
       obtain⟨k1,k2,k3⟩:=hok rfl
       simp only[ne_eq,not_true_eq_false,if_false]at hf2
       have wn:IntKind.i64.wrap ((k:Int)+(n:Int))=((k+n:Nat):Int):=by rw[w64 (by omega) (by omega)];omega
       simp(maxSteps:=2000000) only[go_sem,he,bne,wn]
       refine mtch (fun hkd=>?_) (fun hkd=>?_)
       ·have hkd0:¬kd=0:=by have:=of_decide_eq_true hkd;omega
        simp only[if_neg hkd0]at hf2
        refine Sm.dgW [5] 220 13 mix ?_
        simp(maxSteps:=2000000) only[go_sem,Mem.wo,wn]
        refine⟨⟨by omega,by omega,by omega⟩,?_⟩
        refine DCallQ.ren [(1,6)] 230 (pos_ i k (by omega) (by omega)) (ClM.of rfl) rfl rfl ⟨oS,trivial⟩ rfl (.inl rfl) rfl rfl ?_
        have e4:List.take (((k+n:Nat):Int)-(k:Int)).toNat (List.drop k l)=subS2 l k n:=by
         rw[show(((k+n:Nat):Int)-(k:Int)).toNat=n by omega];rfl
        have hrl:=rows_len (r:=Tk.r) (k:=4) (fun _=>rfl) T'
        have hap:List.take (T'.length*4) (rowsC (T'.map Tk.r))++[.v (.int .i64 (kd:Int)),.v (.string ⟨(subS2 l k n).toArray⟩),.v (.int .i64 ((i+1:Nat):Int)),.v (.int .i64 ((k+1:Nat):Int))]=rowsC ((T'++[(⟨kd,subS2 l k n,i+1,k+1⟩:Tk)]).map Tk.r):=tk_app T' ⟨kd,subS2 l k n,i+1,k+1⟩
        have hTl:(T'++[(⟨kd,subS2 l k n,i+1,k+1⟩:Tk)]).length=T'.length+1:=by rw[List.length_append];rfl
        simp(maxSteps:=2000000) only[go_sem,Mem.wo,wn,e4,hrl,hap]
        refine⟨⟨by omega,by omega,by omega⟩,?_⟩
        refine hb' _ _ ⟨(k+n,T'++[⟨kd,subS2 l k n,i+1,k+1⟩]),k2,by simp only[hTl];omega,f,by simp only;omega,by rw[←hf2,List.append_assoc]⟩ [(3,3),(4,4),(5,231),(6,6)] (by simp only;omega) ?_
        simp only[hTl]
        exact⟨rfl,trivial,⟨rfl,rfl,rfl,rfl,rfl,rfl,rfl,rfl,rfl,rfl,rfl,trivial⟩,⟨oR,oV (renV (v_st _)),oV (renV (v_tk _)),oR,trivial⟩⟩
       ·have hkd0:kd=0:=by have:=of_decide_eq_false hkd;omega
        simp only[if_pos hkd0,List.nil_append]at hf2
        refine hb' _ _ ⟨(k+n,T'),k2,by simp only;omega,f,by simp only;omega,hf2⟩ [(3,3),(4,4),(5,5),(6,6)] (by simp only;omega) ⟨rfl,trivial,⟨rfl,rfl,rfl,rfl,rfl,rfl,rfl,rfl,rfl,rfl,rfl,trivial⟩,⟨oR,oV (renV (v_st _)),oV (renV (v_tk _)),oR,trivial⟩⟩
    ·have hc2:=eq_of_dec hk hc2
     rw[if_pos (by omega)]at hf2
     refine vv ?_
     have hln:(linQ (i+1) l (l.length+1) 0).2=none:=by have:=congrArg Prod.snd hf2;exact this.symm
     have hlt:T'=T++(linQ (i+1) l (l.length+1) 0).1:=by have:=congrArg Prod.fst hf2;simpa using this
     rw[lns_step T hln,←hlt]at hx
     cases hem:decide ((T.length:Int)<(T'.length:Int))with
     |true=>
      have hne:(linQ (i+1) l (l.length+1) 0).1.isEmpty=false:=by
       have:=of_decide_eq_true hem
       rw[hlt,List.length_append]at this
       cases hq:(linQ (i+1) l (l.length+1) 0).1 with
       |nil=>rw[hq]at this;simp at this
       |cons a b=>rfl
      rw[hne]at hx
      refine vv ?_
      refine CallQ.ren [(1,6)] 210 (pos_ i l.length (by omega) (by omega)) (ClM.of rfl) rfl rfl ⟨oS,trivial⟩ rfl (.inl rfl) ?_
      have hrl:=rows_len (r:=Tk.r) (k:=4) (fun _=>rfl) T'
      have hap:List.take (T'.length*4) (rowsC (T'.map Tk.r))++[.v (.int .i64 4),.v (.string ⟨#[]⟩),.v (.int .i64 ((i+1:Nat):Int)),.v (.int .i64 ((l.length+1:Nat):Int))]=rowsC ((T'++[(⟨4,[],i+1,l.length+1⟩:Tk)]).map Tk.r):=tk_app T' ⟨4,[],i+1,l.length+1⟩
      have hTl:(T'++[(⟨4,[],i+1,l.length+1⟩:Tk)]).length=T'.length+1:=by rw[List.length_append];rfl
      simp(maxSteps:=2000000) only[go_sem,hrl,hap,wS (show i≤1000000000000000000 by omega)]
      refine⟨⟨by omega,by omega,by omega⟩,?_⟩
      refine hb _ _ ⟨(i+1,T'++[⟨4,[],i+1,l.length+1⟩]),hc,by simp only[hTl];omega,hx⟩ [(3,3),(4,4),(5,211)] (by simp only;omega) ?_
      simp only[hTl]
      exact⟨rfl,trivial,⟨rfl,rfl,rfl,rfl,rfl,rfl,trivial⟩,⟨oR,oV (renV (v_st _)),oV (renV (v_tk _)),trivial⟩⟩
     |false=>
      have hne:(linQ (i+1) l (l.length+1) 0).1.isEmpty=true:=by
       have:=of_decide_eq_false hem
       rw[hlt,List.length_append]at this
       cases hq:(linQ (i+1) l (l.length+1) 0).1 with
       |nil=>rfl
       |cons a b=>rw[hq]at this;simp only[List.length_cons]at this;omega
      rw[hne,if_pos rfl,List.append_nil]at hx
      simp(maxSteps:=2000000) only[go_sem,wS (show i≤1000000000000000000 by omega)]
      exact hb _ _ ⟨(i+1,T'),hc,by simp only;omega,hx⟩ [(3,3),(4,4),(5,5)] (by simp only;omega) ⟨rfl,trivial,⟨rfl,rfl,rfl,rfl,rfl,rfl,trivial⟩,⟨oR,oV (renV (v_st _)),oV (renV (v_tk _)),trivial⟩⟩
  ·have hc:=eq_of_dec hi hc
   subst hc
   have hx2:lnsQ 0 L=(T,(0,0),0):=by rw[←hx,List.drop_length];unfold cmb lnsQ;simp
   rw[hx2]at hR
   refine vv ?_
   refine RetQ.ren [(1,5)] hR hP rfl (vv trivial) rfl rfl trivial ⟨oV (renV (v_tk _)),trivial⟩ (ClM.of (by simp only[List.cons_append,List.nil_append,List.all_cons,inMV (rowsC_isV _)];rfl)) (ClV.of rfl)
end Go.Proofs.YtlnpgbnhcondjaaGreatDoor.Fx
namespace Go.Proofs.YtlnpgbnhcondjaaGreatDoor.Fx
set_option linter.unusedSimpArgs false
set_option linter.unusedVariables false
def lenS (T:List Tk):Nat:=(T.map fun t=>t.s.length).sum
theorem lenS_app (A B:List Tk):lenS (A++B)=lenS A+lenS B:=by unfold lenS;rw[List.map_append,List.sum_append]
theorem lin_facts (ln:Nat)(l:Str)(hl:l.length≤100000):∀(f k:Nat),k≤l.length→lenS (linQ ln l f k).1+k≤l.length∧(linQ ln l f k).1.length+k≤l.length∧∀t∈(linQ ln l f k).1,t.k=2→gdN t.s
 |0,k,hk=>⟨by show 0+k≤_;omega,by show 0+k≤_;omega,fun t h=>by cases h⟩
 |f+1,k,hk=>by
  have nil:lenS []+k≤l.length∧([]:List Tk).length+k≤l.length∧∀t∈([]:List Tk),t.k=2→gdN t.s:=⟨by show 0+k≤_;omega,by show 0+k≤_;omega,fun t h=>by cases h⟩
  rw[linQ]
  by_cases h1:l.length≤k
  ·rw[if_pos h1];exact nil
  rw[if_neg h1]
  by_cases h2:l.getD k 0=35
  ·rw[if_pos h2]
   cases badK l (l.length+1) k<;>exact nil
  rw[if_neg h2]
  by_cases h3:(scnQ l k).2.2≠0
  ·rw[if_pos h3];exact nil
  rw[if_neg h3]
  have he:(scnQ l k).2.2=0:=by omega
  obtain⟨q1,q2,q3⟩:=scn_ok (by omega) he
  have hg:=fun h=>scn_num hl (by omega) he h
  obtain⟨i1,i2,i3⟩:=lin_facts ln l hl f (k+(scnQ l k).2.1) q2
  simp only
  by_cases h4:(scnQ l k).1=0
  ·rw[if_pos h4,List.nil_append]
   exact⟨by omega,by omega,i3⟩
  ·rw[if_neg h4,lenS_app]
   have hs:(subS2 l k (scnQ l k).2.1).length≤(scnQ l k).2.1:=by unfold subS2;rw[List.length_take];omega
   have e1:lenS [⟨(scnQ l k).1,subS2 l k (scnQ l k).2.1,ln,k+1⟩]=(subS2 l k (scnQ l k).2.1).length:=by simp[lenS]
   refine⟨by rw[e1];omega,by rw[List.length_append];simp only[List.length_cons,List.length_nil];omega,fun t ht hk2=>?_⟩
   rcases List.mem_append.1 ht with h|h
   ·rw[List.mem_singleton]at h
    subst h
    exact hg hk2
   ·exact i3 t h hk2
theorem gtk_app {X B:List Tk}(hB:GTk B)(hX:B=[]→GTk X):GTk (X++B):=by
 cases B with
 |nil=>rw[List.append_nil];exact hX rfl
 |cons b B=>
  intro i hi
  rw[List.length_append]at hi
  simp only[List.length_cons]at hi
  have:=hB (i-X.length) (by simp only[List.length_cons];omega)
  rw[List.getD_eq_getElem?_getD]at this⊢
  rw[List.getElem?_append_right (by omega)];exact this
theorem lns_facts:∀(L:List Str) (i:Nat),(∀l∈L,l.length≤100000)→lenS (lnsQ i L).1≤(L.map List.length).sum∧(lnsQ i L).1.length≤(L.map fun l=>l.length+1).sum∧(∀t∈(lnsQ i L).1,t.k=2→gdN t.s)∧GTk (lnsQ i L).1
 |[],i,_=>⟨Nat.le_refl _,Nat.le_refl _,fun t h=>(by cases h),fun j h=>(by cases h)⟩
 |l::L,i,hL=>by
  obtain⟨i1,i2,i3,i4⟩:=lns_facts L (i+1) (fun x hx=>hL x (List.mem_cons_of_mem _ hx))
  obtain⟨j1,j2,j3⟩:=lin_facts (i+1) l (hL l (List.mem_cons_self ..)) (l.length+1) 0 (by omega)
  have nil:lenS []≤((l::L).map List.length).sum∧([]:List Tk).length≤((l::L).map fun l=>l.length+1).sum∧(∀t∈([]:List Tk),t.k=2→gdN t.s)∧GTk []:=⟨Nat.zero_le _,Nat.zero_le _,fun t h=>(by cases h),fun j h=>(by cases h)⟩
  rw[lnsQ]
  cases h:(linQ (i+1) l (l.length+1) 0).2 with
  |some x=>obtain⟨k,e⟩:=x;exact nil
  |none=>
   simp only
   by_cases he:(lnsQ (i+1) L).2.2≠0
   ·rw[if_pos he];exact nil
   ·rw[if_neg he]
    simp only
    generalize (linQ (i+1) l (l.length+1) 0).1=A at*
    generalize (lnsQ (i+1) L).1=B at*
    rw[List.map_cons,List.sum_cons,List.map_cons,List.sum_cons,lenS_app,lenS_app]
    have e1:lenS (if A.isEmpty=true then[]else[(⟨4,[],i+1,l.length+1⟩:Tk)])=0:=by split<;>rfl
    have e2:(if A.isEmpty=true then[]else[(⟨4,[],i+1,l.length+1⟩:Tk)]).length≤1:=by split<;>simp
    refine⟨by rw[e1];omega,by rw[List.length_append,List.length_append];omega,fun t ht h2=>?_,?_⟩
    ·rcases List.mem_append.1 ht with h|h
     ·rcases List.mem_append.1 h with h|h
      ·exact j3 t h h2
      ·split at h
       ·cases h
       ·rw[List.mem_singleton]at h;subst h;cases h2
     ·exact i3 t h h2
    ·refine gtk_app i4 fun _=>?_
     cases A with
     |nil=>intro j hj;cases hj
     |cons a A=>
      refine gtk_app (B:=[(⟨4,[],i+1,l.length+1⟩:Tk)]) (fun j hj=>?_) (fun h=>by cases h)
      obtain rfl:j=0:=by simpa using hj
      rfl
theorem splB_sum (c:UInt8):∀l:Str,((splB c l).map fun x=>x.length+1).sum=l.length+1
 |[]=>rfl
 |y::l=>by
  have ih:=splB_sum c l
  rw[splB_cons]
  split
  ·simp only[List.map_cons,List.sum_cons,List.length_nil,List.length_cons];omega
  ·split
   ·rename_i he;rw[he]at ih;simp at ih
   ·rename_i a t he
    rw[he]at ih
    simp only[List.map_cons,List.sum_cons,List.length_cons]at ih⊢;omega
theorem sum_le1:∀L:List Str,(L.map List.length).sum≤(L.map fun x=>x.length+1).sum
 |[]=>Nat.le_refl _
 |l::L=>by have:=sum_le1 L;simp only[List.map_cons,List.sum_cons];omega
theorem tok_facts (s:Str):(tokQ s).1.length≤40000∧STk (tokQ s).1∧GTk (tokQ s).1∧∀t∈(tokQ s).1,t.k=2→gdN t.s:=by
 unfold tokQ
 by_cases h:16384<s.length
 ·rw[if_pos h];exact⟨Nat.zero_le _,Nat.zero_le _,fun j h=>(by cases h),fun t h=>(by cases h)⟩
 ·rw[if_neg h]
  obtain⟨q1,q2,q3,q4⟩:=lns_facts (splB 10 s) 0 (fun l hl=>by have:=splB_sub 10 s l hl;omega)
  have e:=splB_sum 10 s
  have e2:=sum_le1 (splB 10 s)
  have r2:=Nat.le_trans q2 (Nat.le_of_eq e)
  have r1:lenS (lnsQ 0 (splB 10 s)).1≤s.length+1:=Nat.le_trans q1 (Nat.le_trans e2 (Nat.le_of_eq e))
  exact⟨by omega,Nat.le_trans r1 (by omega),q4,q3⟩
end Go.Proofs.YtlnpgbnhcondjaaGreatDoor.Fx
