/-  -/
import Derived.Test.YtlnpgbnhcondjaaGreatDoorPS
import Derived.Test.YtlnpgbnhcondjaaGreatDoorYD
namespace Go.Proofs.YtlnpgbnhcondjaaGreatDoor.Fx
set_option linter.unusedSimpArgs false
set_option linter.unusedVariables false
def lenS (T:List Tk):Nat:=(T.map fun t=>t.s.length).sum
theorem lenS_app (A B:List Tk):lenS (A++B)=lenS A+lenS B:=by unfold lenS;rw[List.map_append,List.sum_append]
theorem lin_facts (ln:Nat)(l:Str)(hl:l.length≤100000):∀(f k:Nat),k≤l.length→lenS (linQ ln l f k).1+k≤l.length∧(linQ ln l f k).1.length+k≤l.length∧∀t∈(linQ ln l f k).1,t.k=2→gdN t.s
 |0,k,hk=>⟨by show 0+k≤_;omega,by show 0+k≤_;omega,fun t h=>by cases h⟩
 |f+1,k,hk=>by
  have nil:lenS []+k≤l.length∧([]:List Tk).length+k≤l.length∧∀t∈([]:List Tk),t.k=2→gdN t.s:=⟨by show 0+k≤_;omega,by show 0+k≤_;omega,fun t h=>by cases h⟩
  rw[linQ]
  by_cases h1:l.length≤k
  ·rw[if_pos h1];exact nil
  rw[if_neg h1]
  by_cases h2:l.getD k 0=35
  ·rw[if_pos h2]
   cases badK l (l.length+1) k<;>exact nil
  rw[if_neg h2]
  by_cases h3:(scnQ l k).2.2≠0
  ·rw[if_pos h3];exact nil
  rw[if_neg h3]
  have he:(scnQ l k).2.2=0:=by omega
  obtain⟨q1,q2,q3⟩:=scn_ok (by omega) he
  have hg:=fun h=>scn_num hl (by omega) he h
  obtain⟨i1,i2,i3⟩:=lin_facts ln l hl f (k+(scnQ l k).2.1) q2
  simp only
  by_cases h4:(scnQ l k).1=0
  ·rw[if_pos h4,List.nil_append]
   exact⟨by omega,by omega,i3⟩
  ·rw[if_neg h4,lenS_app]
   have hs:(subS2 l k (scnQ l k).2.1).length≤(scnQ l k).2.1:=by unfold subS2;rw[List.length_take];omega
   have e1:lenS [⟨(scnQ l k).1,subS2 l k (scnQ l k).2.1,ln,k+1⟩]=(subS2 l k (scnQ l k).2.1).length:=by simp[lenS]
   refine⟨by rw[e1];omega,by rw[List.length_append];simp only[List.length_cons,List.length_nil];omega,fun t ht hk2=>?_⟩
   rcases List.mem_append.1 ht with h|h
   ·rw[List.mem_singleton]at h
    subst h
    exact hg hk2
   ·exact i3 t h hk2
theorem gtk_app {X B:List Tk}(hB:GTk B)(hX:B=[]→GTk X):GTk (X++B):=by
 cases B with
 |nil=>rw[List.append_nil];exact hX rfl
 |cons b B=>
  intro i hi
  rw[List.length_append]at hi
  simp only[List.length_cons]at hi
  have:=hB (i-X.length) (by simp only[List.length_cons];omega)
  rw[List.getD_eq_getElem?_getD]at this⊢
  rw[List.getElem?_append_right (by omega)];exact this
theorem lns_facts:∀(L:List Str) (i:Nat),(∀l∈L,l.length≤100000)→lenS (lnsQ i L).1≤(L.map List.length).sum∧(lnsQ i L).1.length≤(L.map fun l=>l.length+1).sum∧(∀t∈(lnsQ i L).1,t.k=2→gdN t.s)∧GTk (lnsQ i L).1
 |[],i,_=>⟨Nat.le_refl _,Nat.le_refl _,fun t h=>(by cases h),fun j h=>(by cases h)⟩
 |l::L,i,hL=>by
  obtain⟨i1,i2,i3,i4⟩:=lns_facts L (i+1) (fun x hx=>hL x (List.mem_cons_of_mem _ hx))
  obtain⟨j1,j2,j3⟩:=lin_facts (i+1) l (hL l (List.mem_cons_self ..)) (l.length+1) 0 (by omega)
  have nil:lenS []≤((l::L).map List.length).sum∧([]:List Tk).length≤((l::L).map fun l=>l.length+1).sum∧(∀t∈([]:List Tk),t.k=2→gdN t.s)∧GTk []:=⟨Nat.zero_le _,Nat.zero_le _,fun t h=>(by cases h),fun j h=>(by cases h)⟩
  rw[lnsQ]
  cases h:(linQ (i+1) l (l.length+1) 0).2 with
  |some x=>obtain⟨k,e⟩:=x;exact nil
  |none=>
   simp only
   by_cases he:(lnsQ (i+1) L).2.2≠0
   ·rw[if_pos he];exact nil
   ·rw[if_neg he]
    simp only
    generalize (linQ (i+1) l (l.length+1) 0).1=A at*
    generalize (lnsQ (i+1) L).1=B at*
    rw[List.map_cons,List.sum_cons,List.map_cons,List.sum_cons,lenS_app,lenS_app]
    have e1:lenS (if A.isEmpty=true then[]else[(⟨4,[],i+1,l.length+1⟩:Tk)])=0:=by split<;>rfl
    have e2:(if A.isEmpty=true then[]else[(⟨4,[],i+1,l.length+1⟩:Tk)]).length≤1:=by split<;>simp
    refine⟨by rw[e1];omega,by rw[List.length_append,List.length_append];omega,fun t ht h2=>?_,?_⟩
    ·rcases List.mem_append.1 ht with h|h
     ·rcases List.mem_append.1 h with h|h
      ·exact j3 t h h2
      ·split at h
       ·cases h
       ·rw[List.mem_singleton]at h;subst h;cases h2
     ·exact i3 t h h2
    ·refine gtk_app i4 fun _=>?_
     cases A with
     |nil=>intro j hj;cases hj
     |cons a A=>
      refine gtk_app (B:=[(⟨4,[],i+1,l.length+1⟩:Tk)]) (fun j hj=>?_) (fun h=>by cases h)
      obtain rfl:j=0:=by simpa using hj
      rfl
theorem splB_sum (c:UInt8):∀l:Str,((splB c l).map fun x=>x.length+1).sum=l.length+1
 |[]=>rfl
 |y::l=>by
  have ih:=splB_sum c l
  rw[splB_cons]
  split
  ·simp only[List.map_cons,List.sum_cons,List.length_nil,List.length_cons];omega
  ·split
   ·rename_i he;rw[he]at ih;simp at ih
   ·rename_i a t he
    rw[he]at ih
    simp only[List.map_cons,List.sum_cons,List.length_cons]at ih⊢;omega
theorem sum_le1:∀L:List Str,(L.map List.length).sum≤(L.map fun x=>x.length+1).sum
 |[]=>Nat.le_refl _
 |l::L=>by have:=sum_le1 L;simp only[List.map_cons,List.sum_cons];omega
theorem tok_facts (s:Str):(tokQ s).1.length≤40000∧STk (tokQ s).1∧GTk (tokQ s).1∧∀t∈(tokQ s).1,t.k=2→gdN t.s:=by
 unfold tokQ
 by_cases h:16384<s.length
 ·rw[if_pos h];exact⟨Nat.zero_le _,Nat.zero_le _,fun j h=>(by cases h),fun t h=>(by cases h)⟩
 ·rw[if_neg h]
  obtain⟨q1,q2,q3,q4⟩:=lns_facts (splB 10 s) 0 (fun l hl=>by have:=splB_sub 10 s l hl;omega)
  have e:=splB_sum 10 s
  have e2:=sum_le1 (splB 10 s)
  have r2:=Nat.le_trans q2 (Nat.le_of_eq e)
  have r1:lenS (lnsQ 0 (splB 10 s)).1≤s.length+1:=Nat.le_trans q1 (Nat.le_trans e2 (Nat.le_of_eq e))
  exact⟨by omega,Nat.le_trans r1 (by omega),q4,q3⟩
end Go.Proofs.YtlnpgbnhcondjaaGreatDoor.Fx
