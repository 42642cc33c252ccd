/-  -/
import Derived.Test.YtlnpgbnhcondjaaGreatDoorMA
import Derived.Laws.BytesArg
import Derived.Lib.Builder
import Derived.Lib.UnsafeStr
import Derived.MapKept
import Derived.RangeFuncNested
import Derived.ProofKit
import Derived.Below
import Derived.Carry
import Derived.ChangeSame
import Derived.Lib.SmallJoins
import Derived.Deep.Slices
import Derived.SizedLaws
namespace Go.Proofs.YtlnpgbnhcondjaaGreatDoor
set_option linter.unusedSimpArgs false
set_option linter.unusedVariables false
namespace Vg
open Go.RowKit
def aft (o:Oper):List Nat:=(o.after.toList.filter fun e=>Region.binds .any e).map (·.on)
inductive Anc (rg:Array Oper) (b:Nat):Nat→Oper→Prop where
 |base {i:Nat} {o:Oper} (h:i∈aft o):Anc rg b i o
 |step {i j:Nat} {o o':Oper} (h:j∈aft o) (hb:j<b) (ho:rg[j]?=some o') (h':Anc rg b i o'):Anc rg b i o
theorem Anc.done {rg:Array Oper}{b k i:Nat}{o:Oper}{D:Nat→Bool}(h:Anc rg b i o)(hcl:∀j o,j<k→D j=true→rg[j]?=some o→∀x,x∈aft o→D x=true)(hb:b≤k)(hed:∀x,x∈aft o→D x=true):D i=true:=by
 induction h with
 |base h=>exact hed _ h
 |step h hjb ho _ ih=>exact ih (hcl _ _ (by omega) (hed _ h) ho)
def ancB (rg:Array Oper)(b:Nat):Nat→Nat→Oper→Bool
 |0,i,o=>(aft o).contains i
 |d+1,i,o=>(aft o).contains i||(aft o).any fun j=>decide (i<j)&&(decide (j<b)&&(match rg[j]? with|some o'=>ancB rg b d i o'|none=>false))
theorem ancB_ok {rg:Array Oper}{b:Nat}:∀(d i:Nat) (o:Oper),ancB rg b d i o=true→Anc rg b i o
 |0,i,o,h=> .base (by simpa[ancB]using h)
 |d+1,i,o,h=>by
  simp only[ancB,Bool.or_eq_true,List.any_eq_true,Bool.and_eq_true,decide_eq_true_eq]at h
  rcases h with h|⟨j,hj,_,hb,h⟩
  ·exact .base (by simpa using h)
  ·split at h
   ·rename_i o' ho
    exact .step hj hb ho (ancB_ok d i o' h)
   ·cases h
def dfOk (rg:Array Oper)(k:Nat):Bool:=
 decide (k≤rg.size)&&
 (List.range rg.size).all fun i=>
  match rg[i]? with
  |none=>true
  |some o=>
   (aft o).all (fun j=>decide (j<i))&&
   (if i<k then
    (List.range k).all fun j=>
     j==i||
     match rg[j]? with
     |none=>true
     |some o'=>
      (match o'.dst with
       |none=>true
       |some d=>(o.dst !=some d)&&(!(o.looksAt rg).contains d||(aft o).contains j||(aft o').contains i))
    else(List.range i).all fun j=>ancB rg i 20 j o)
def Tc (T:List (Nat×Nat))(n i:Nat):Prop:=(n,i)∈T∨(n+1000000,i)∈T
inductive Tr (P:Program) (S:Bs) (w0:World) (rg:Array Oper) (e0:Env) (M0 Mf:Mem):List Oper→Env→Mem→List (Nat×Nat)→Prop where
 |nil (hs:∀n b,M0.get n=some b→Mf.get n=some b):Tr P S w0 rg e0 M0 Mf [] e0 Mf []
 |snoc {l:List Oper} {e:Env} {M:Mem} {T:List (Nat×Nat)} {o:Oper} {g:Bool} {v:V} {N Ms:Mem} (h:Tr P S w0 rg e0 M0 Mf l e M T) (hg:gd rg e o=some g) (hs:g=true→StpC P S w0 o e Ms v N) (hN:g=true∨N=[])
   (hMs:∀n b,Ms.get n=some b→M0.get n=some b∨((N.get n).isSome=true∧M.get n=some b))
   (hf:∀n,(N.get n).isSome=true→M0.get n=none∧((Ms.get n).isSome=true∨M.get n=none)∧∀i,Tc T n i→Anc rg l.length i o):Tr P S w0 rg e0 M0 Mf (l++[o]) (e.put o.dst g v) (N++M) (N.map (fun p=>(p.1,l.length))++T)
 |look {l:List Oper} {e:Env} {M:Mem} {T:List (Nat×Nat)} {o:Oper} {g:Bool} {v:V} {Ms:Mem} (X:List Nat) (h:Tr P S w0 rg e0 M0 Mf l e M T) (hg:gd rg e o=some g) (hs:g=true→StpC P S w0 o e Ms v [])
   (hMs:∀n b,Ms.get n=some b→M0.get n=some b∨(n∈X∧M.get n=some b)) (hf:∀n,n∈X→∀i,(n,i)∈T→Anc rg l.length i o):Tr P S w0 rg e0 M0 Mf (l++[o]) (e.put o.dst g v) M (X.map (fun n=>(n+1000000,l.length))++T)
structure Tf (P:Program) (S:Bs) (w0:World) (rg:Array Oper) (e0:Env) (M0 Mf:Mem) (k:Nat) where
 E:Nat→Env
 MM:Nat→Mem
 G:Nat→Bool
 W:Nat→V
 N:Nat→Mem
 X:Nat→List Nat
 e0:E 0=e0
 m0:MM 0=Mf
 sub:∀n b,M0.get n=some b→Mf.get n=some b
 step:∀i,i<k→∃o Ms,rg[i]?=some o∧gd rg (E i) o=some (G i)∧E (i+1)=(E i).put o.dst (G i) (W i)∧MM (i+1)=N i++MM i∧(G i=true→StpC P S w0 o (E i) Ms (W i) (N i))∧(G i=true∨N i=[])∧
  (∀n b,Ms.get n=some b→M0.get n=some b∨((((N i).get n).isSome=true∨n∈X i)∧(MM i).get n=some b))∧(∀n,((N i).get n).isSome=true→M0.get n=none∧((Ms.get n).isSome=true∨(MM i).get n=none)∧∀i',i'<i→(((N i').get n).isSome=true∨n∈X i')→Anc rg i i' o)∧(∀n,n∈X i→∀i',i'<i→((N i').get n).isSome=true→Anc rg i i' o)
theorem Mem.mem_of_get':∀{M:Mem} {n:Nat},(M.get n).isSome=true→n∈M.map (·.1)
 |[],n,h=>by cases h
 |(k,c)::r,n,h=>by
  simp only[Mem.get]at h
  cases hk:(k==n)with
  |true=>have:k=n:=by simpa using hk
         subst this;simp
  |false=>rw[hk]at h;exact List.mem_cons_of_mem _ (Mem.mem_of_get' h)
theorem Tr.fn {P:Program}{S:Bs}{w0:World}{rg:Array Oper}{e0:Env}{M0 Mf:Mem}{l:List Oper}{e:Env}{M:Mem}{TT:List (Nat×Nat)}(h:Tr P S w0 rg e0 M0 Mf l e M TT)(hl:∀i,i<l.length→rg[i]?=l[i]?):
  ∃T:Tf P S w0 rg e0 M0 Mf l.length,(T.E l.length=e∧T.MM l.length=M)∧∀i n,i<l.length→((((T.N i).get n).isSome=true→(n,i)∈TT)∧(n∈T.X i→(n+1000000,i)∈TT)):=by
 have one:∀{l:List Oper} {e:Env} {M:Mem} {TT:List (Nat×Nat)} (o:Oper) (g:Bool) (v:V) (N Ms:Mem) (X:List Nat),(∀i,i<(l++[o]).length→rg[i]?=(l++[o])[i]?)→
   (∃T:Tf P S w0 rg e0 M0 Mf l.length,(T.E l.length=e∧T.MM l.length=M)∧∀i n,i<l.length→((((T.N i).get n).isSome=true→(n,i)∈TT)∧(n∈T.X i→(n+1000000,i)∈TT)))→gd rg e o=some g→(g=true→StpC P S w0 o e Ms v N)→(g=true∨N=[])→
   (∀n b,Ms.get n=some b→M0.get n=some b∨(((N.get n).isSome=true∨n∈X)∧M.get n=some b))→(∀n,(N.get n).isSome=true→M0.get n=none∧((Ms.get n).isSome=true∨M.get n=none)∧∀i,Tc TT n i→Anc rg l.length i o)→(∀n,n∈X→∀i,(n,i)∈TT→Anc rg l.length i o)→
   ∃T:Tf P S w0 rg e0 M0 Mf (l++[o]).length,(T.E (l++[o]).length=e.put o.dst g v∧T.MM (l++[o]).length=N++M)∧∀i n,i<(l++[o]).length→((((T.N i).get n).isSome=true→(n,i)∈N.map (fun p=>(p.1,l.length))++TT∨(n,i)∈TT)∧(n∈T.X i→(n+1000000,i)∈X.map (fun n=>(n+1000000,l.length))++TT)):=by
  rintro l e M TT o g v N Ms X hl ⟨T,⟨he,hm⟩,hT⟩ hg hs hN hMs hf hX
  refine⟨⟨fun i=>if i≤l.length then T.E i else e.put o.dst g v,fun i=>if i≤l.length then T.MM i else N++M,fun i=>if i<l.length then T.G i else g,fun i=>if i<l.length then T.W i else v,fun i=>if i<l.length then T.N i else N,fun i=>if i<l.length then T.X i else X,by simp[T.e0],by simp[T.m0],T.sub,?_⟩,⟨by simp;intro hh;omega,by simp;intro hh;omega⟩,?_⟩
  ·intro i hi
   simp only[List.length_append,List.length_cons,List.length_nil,Nat.zero_add]at hi
   by_cases hlt:i<l.length
   ·obtain⟨o',Ms',h1,h2,h3,h4,h5,h6,h7,h8,h9⟩:=T.step i hlt
    refine⟨o',Ms',h1,?_,?_,?_,?_,?_,?_,?_,?_⟩
    ·simpa[hlt,Nat.le_of_lt hlt,Nat.succ_le_of_lt hlt]using h2
    ·simpa[hlt,Nat.le_of_lt hlt,Nat.succ_le_of_lt hlt]using h3
    ·simpa[hlt,Nat.le_of_lt hlt,Nat.succ_le_of_lt hlt]using h4
    ·simpa[hlt,Nat.le_of_lt hlt,Nat.succ_le_of_lt hlt]using h5
    ·simpa[hlt]using h6
    ·simpa[hlt,Nat.le_of_lt hlt]using h7
    ·intro n hn
     simp only[hlt,if_true]at hn
     obtain⟨k1,k2,k3⟩:=h8 n hn
     refine⟨k1,by simpa[Nat.le_of_lt hlt]using k2,fun i' hi' hh=>k3 i' hi' ?_⟩
     simp only[if_pos (show i'<l.length by omega)]at hh
     exact hh
    ·intro n hn i' hi' hh
     simp only[hlt,if_true]at hn
     simp only[if_pos (show i'<l.length by omega)]at hh
     exact h9 n hn i' hi' hh
   ·have hi':i=l.length:=by omega
    subst hi'
    refine⟨o,Ms,?_,?_,?_,?_,?_,?_,?_,?_,?_⟩
    ·rw[hl l.length (by simp)];simp
    ·simpa[he]using hg
    ·simp[he];intro hh;omega
    ·simp[hm];intro hh;omega
    ·simpa[he]using hs
    ·simpa using hN
    ·simpa[hm]using hMs
    ·intro n hn
     simp only[Nat.lt_irrefl,if_false]at hn
     obtain⟨k1,k2,k3⟩:=hf n hn
     refine⟨k1,by simpa[hm]using k2,fun i' hi' hh=>k3 i' ?_⟩
     simp only[if_pos hi']at hh
     rcases hh with hh|hh
     ·exact .inl ((hT i' n hi').1 hh)
     ·exact .inr ((hT i' n hi').2 hh)
    ·intro n hn i' hi' hh
     simp only[Nat.lt_irrefl,if_false]at hn
     simp only[if_pos hi']at hh
     exact hX n hn i' ((hT i' n hi').1 hh)
  ·intro i n hi
   simp only[List.length_append,List.length_cons,List.length_nil,Nat.zero_add]at hi
   by_cases hlt:i<l.length
   ·simp only[if_pos hlt]
    exact⟨fun hn=> .inr ((hT i n hlt).1 hn),fun hn=>List.mem_append_right _ ((hT i n hlt).2 hn)⟩
   ·have hi':i=l.length:=by omega
    subst hi'
    simp only[if_neg hlt]
    refine⟨fun hn=> .inl (List.mem_append_left _ ?_),fun hn=>List.mem_append_left _ (List.mem_map.2 ⟨n,hn,rfl⟩)⟩
    obtain⟨p,hp,hp1⟩:=List.mem_map.1 (Mem.mem_of_get' hn)
    exact List.mem_map.2 ⟨p,hp,by rw[hp1]⟩
 induction h with
 |nil hs=>exact⟨⟨fun _=>e0,fun _=>Mf,fun _=>true,fun _=> .agg [],fun _=>[],fun _=>[],rfl,rfl,hs,fun i hi=>absurd hi (by simp)⟩,⟨rfl,rfl⟩,fun i n hi=>absurd hi (by simp)⟩
 | @snoc l e M TT o g v N Ms h hg hs hN hMs hf ih=>
  have ih:=ih (fun i hi=>by rw[hl i (by simp;omega),List.getElem?_append_left hi])
  obtain⟨T,h1,h2⟩:=one o g v N Ms [] hl ih hg hs hN (fun n b hb=>(hMs n b hb).imp (fun h=>h) (fun h=>⟨.inl h.1,h.2⟩)) hf (fun _ h=>by cases h)
  refine⟨T,h1,fun i n hi=>⟨fun hn=>?_,fun hn=>List.mem_append_right _ ?_⟩⟩
  ·rcases(h2 i n hi).1 hn with h|h
   ·exact h
   ·exact List.mem_append_right _ h
  ·exact(h2 i n hi).2 hn
 | @look l e M TT o g v Ms X h hg hs hMs hf ih=>
  have ih:=ih (fun i hi=>by rw[hl i (by simp;omega),List.getElem?_append_left hi])
  obtain⟨T,h1,h2⟩:=one o g v [] Ms X hl ih hg hs (.inr rfl) (fun n b hb=>(hMs n b hb).imp (fun h=>h) (fun h=>⟨.inr h.1,h.2⟩)) (fun _ h=>by cases h) hf
  refine⟨T,h1,fun i n hi=>⟨fun hn=>List.mem_append_right _ ?_,fun hn=>(h2 i n hi).2 hn⟩⟩
  rcases(h2 i n hi).1 hn with h|h
  ·exact h
  ·exact h
section
variable {P:Program} {S:Bs} {w0:World} {rg:Array Oper} {e0:Env} {M0 Mf:Mem} {k:Nat} {df:List Deferred} {lp:Option Nat}
def Tf.env (T:Tf P S w0 rg e0 M0 Mf k)(D:Nat→Bool):Nat→Env
 |0=>e0
 |j+1=>match rg[j]? with
  |some o=>if D j then(T.env D j).put o.dst (T.G j) (T.W j)else T.env D j
  |none=>T.env D j
def Tf.mem (T:Tf P S w0 rg e0 M0 Mf k)(D:Nat→Bool):Nat→Mem
 |0=>Mf
 |j+1=>(if D j then T.N j else[])++T.mem D j
theorem Tf.env_all (T:Tf P S w0 rg e0 M0 Mf k)(D:Nat→Bool):∀j,j≤k→(∀i,i<j→D i=true)→T.env D j=T.E j
 |0,_,_=>T.e0.symm
 |j+1,hj,h=>by
  obtain⟨o,_,ho,_,hE,_⟩:=T.step j (by omega)
  rw[Tf.env,ho,hE,T.env_all D j (by omega) (fun i hi=>h i (by omega))]
  simp[h j (by omega)]
theorem Tf.mem_all (T:Tf P S w0 rg e0 M0 Mf k)(D:Nat→Bool):∀j,j≤k→(∀i,i<j→D i=true)→T.mem D j=T.MM j
 |0,_,_=>T.m0.symm
 |j+1,hj,h=>by
  obtain⟨o,_,ho,_,_,hM,_⟩:=T.step j (by omega)
  rw[Tf.mem,hM,T.mem_all D j (by omega) (fun i hi=>h i (by omega))]
  simp[h j (by omega)]
theorem Env.get_put (e:Env)(d:Option Nat)(g:Bool)(v:V)(t:Nat):(e.put d g v).get t=if d=some t then some (g,v)else e.get t:=by
 cases d with
 |none=>simp[Env.put]
 |some d=>
  simp only[Env.put,Env.get]
  by_cases h:d=t
  ·subst h;simp
  ·have:(d==t)=false:=by simpa using h
   simp[this,h]
theorem Tf.env_at (T:Tf P S w0 rg e0 M0 Mf k)(D:Nat→Bool)(t i:Nat)(hi:i≤k)(h:∀j o,j<k→rg[j]?=some o→o.dst=some t→(D j=true↔j<i)):∀j,j≤k→(T.env D j).get t=(T.E (min i j)).get t
 |0,_=>by rw[Tf.env,Nat.min_zero,T.e0]
 |j+1,hj=>by
  have ih:=T.env_at D t i hi h j (by omega)
  obtain⟨o,_,ho,_,hE,_⟩:=T.step j (by omega)
  simp only[Tf.env,ho]
  by_cases hd:o.dst=some t
  ·have hiff:=h j o (by omega) ho hd
   by_cases hji:j<i
   ·rw[if_pos (hiff.2 hji),show min i (j+1)=j+1 from by omega,hE,Env.get_put,Env.get_put,if_pos hd,if_pos hd]
   ·rw[if_neg (by rw[hiff];exact hji),ih]
    congr 2;omega
  ·have e1:(if D j=true then(T.env D j).put o.dst (T.G j) (T.W j)else T.env D j).get t=(T.env D j).get t:=by
    split
    ·rw[Env.get_put,if_neg hd]
    ·rfl
   rw[e1,ih]
   by_cases hji:j<i
   ·rw[show min i (j+1)=j+1 from by omega,show min i j=j from by omega,hE,Env.get_put,if_neg hd]
   ·congr 2;omega
theorem Tf.env_more (T:Tf P S w0 rg e0 M0 Mf k)(D:Nat→Bool)(i:Nat)(o:Oper)(ho:rg[i]?=some o)(hD:D i=false)(hu:∀j o',j<k→j≠i→rg[j]?=some o'→∀d,o.dst=some d→o'.dst≠some d)(t:Nat):
  ∀j,j≤k→(T.env (fun x=>if x=i then true else D x) j).get t=if i<j∧o.dst=some t then some (T.G i,T.W i)else(T.env D j).get t
 |0,_=>by simp[Tf.env]
 |j+1,hj=>by
  have ih:=T.env_more D i o ho hD hu t j (by omega)
  obtain⟨o',_,ho',_⟩:=T.step j (by omega)
  simp only[Tf.env,ho']
  by_cases hji:j=i
  ·subst hji
   rw[ho]at ho'
   cases ho'
   simp only[if_true,hD,Bool.false_eq_true,if_false]
   rw[Env.get_put,ih]
   by_cases hd:o.dst=some t
   ·rw[if_pos hd,if_pos ⟨by omega,hd⟩]
   ·rw[if_neg hd,if_neg (fun hh=>hd hh.2),if_neg (fun hh=>hd hh.2)]
  ·simp only[if_neg hji]
   have hlt:(i<j+1)↔(i<j):=by omega
   simp only[hlt]
   by_cases hDj:D j=true
   ·simp only[hDj,if_true]
    rw[Env.get_put,Env.get_put,ih]
    by_cases hd':o'.dst=some t
    ·have hno:¬(i<j∧o.dst=some t):=fun hh=>hu j o' (by omega) hji ho' t hh.2 hd'
     rw[if_pos hd',if_neg hno,if_pos hd']
    ·rw[if_neg hd',if_neg hd']
   ·simp only[hDj]
    exact ih
theorem Tf.names0 (T:Tf P S w0 rg e0 M0 Mf k){i n:Nat}(hi:i<k)(h1:((T.N i).get n).isSome=true):M0.get n=none:=by
 obtain⟨_,_,_,_,_,_,_,_,_,hf,_⟩:=T.step i hi
 exact(hf n h1).1
theorem Tf.behind (T:Tf P S w0 rg e0 M0 Mf k){i j n:Nat}{o:Oper}(hij:i<j)(hj:j<k)(ho:rg[j]?=some o)(h1:((T.N i).get n).isSome=true∨n∈T.X i)(h2:((T.N j).get n).isSome=true):Anc rg j i o:=by
 obtain⟨o',_,ho',_,_,_,_,_,_,hf,_⟩:=T.step j hj
 rw[ho]at ho'
 cases ho'
 exact(hf n h2).2.2 i hij h1
theorem Tf.behindX (T:Tf P S w0 rg e0 M0 Mf k){i j n:Nat}{o:Oper}(hij:i<j)(hj:j<k)(ho:rg[j]?=some o)(h1:((T.N i).get n).isSome=true)(h2:((T.N j).get n).isSome=true∨n∈T.X j):Anc rg j i o:=by
 rcases h2 with h2|h2
 ·exact T.behind hij hj ho (.inl h1) h2
 ·obtain⟨o',_,ho',_,_,_,_,_,_,_,hf⟩:=T.step j hj
  rw[ho]at ho'
  cases ho'
  exact hf n h2 i hij h1
theorem Tf.mem_own (T:Tf P S w0 rg e0 M0 Mf k)(D:Nat→Bool){i n:Nat}{o:Oper}(hi:i<k)(ho:rg[i]?=some o)(hD:D i=false)(hcl:∀j o,j<k→D j=true→rg[j]?=some o→∀x,x∈aft o→D x=true)(hed:∀x,x∈aft o→D x=true)
  (h1:((T.N i).get n).isSome=true∨n∈T.X i):∀j,j≤k→(T.mem D j).get n=(T.MM (min i j)).get n
 |0,_=>by rw[Tf.mem,Nat.min_zero,T.m0]
 |j+1,hj=>by
  have ih:=T.mem_own D hi ho hD hcl hed h1 j (by omega)
  obtain⟨o',_,ho',_,_,hM,_⟩:=T.step j (by omega)
  rw[Tf.mem,Mem.get_append,ih]
  rcases Nat.lt_trichotomy j i with hji|hji|hji
  ·rw[show min i (j+1)=j+1 from by omega,show min i j=j from by omega,hM,Mem.get_append]
   cases h2:(T.N j).get n with
   |none=>split<;>simp[h2,Mem.get]
   |some c=>rw[if_pos ((T.behindX hji hi ho (by simp[h2]) h1).done hcl (by omega) hed),h2]
  ·subst hji
   rw[show min j (j+1)=j from by omega,show min j j=j from by omega]
   simp[hD,Mem.get]
  ·rw[show min i (j+1)=i from by omega,show min i j=i from by omega]
   split
   ·rename_i hDj
    cases h2:(T.N j).get n with
    |none=>simp
    |some c=>
     have:=(T.behind hji (by omega) ho' h1 (by simp[h2])).done hcl (by omega) (hcl j o' (by omega) hDj ho')
     rw[hD]at this;cases this
   ·simp[Mem.get]
theorem Tf.mem_base (T:Tf P S w0 rg e0 M0 Mf k)(D:Nat→Bool){n:Nat}{b:Bk}(h:M0.get n=some b):∀j,j≤k→(T.mem D j).get n=some b
 |0,_=>T.sub _ _ h
 |j+1,hj=>by
  rw[Tf.mem,Mem.get_append,T.mem_base D h j (by omega)]
  split
  ·cases h2:(T.N j).get n with
   |none=>rfl
   |some c=>
    have:=T.names0 (i:=j) (n:=n) (by omega) (by simp[h2])
    rw[h]at this;cases this
  ·rfl
theorem Tf.mem_more (T:Tf P S w0 rg e0 M0 Mf k)(D:Nat→Bool){i:Nat}(hi:i<k)(hD:D i=false)(hcl:∀j o,j<k→D j=true→rg[j]?=some o→∀x,x∈aft o→D x=true)(n:Nat):∀j,j≤k→(T.mem (fun x=>if x=i then true else D x) j).get n=if i<j then(T.N i++T.mem D j:Mem).get n else(T.mem D j).get n
 |0,_=>by simp[Tf.mem]
 |j+1,hj=>by
  have ih:=T.mem_more D hi hD hcl n j (by omega)
  rw[Tf.mem,Mem.get_append]
  by_cases hji:j=i
  ·subst hji
   rw[if_pos rfl,if_pos rfl,ih,if_neg (by omega),if_pos (by omega),Mem.get_append]
   simp only[Tf.mem,hD,Bool.false_eq_true,if_false,List.nil_append]
  ·simp only[if_neg hji]
   rw[ih]
   have h12:i<j→D j=true→∀b c,(T.N i).get n=some b→(T.N j).get n=some c→False:=fun hij hDj b c h1 h2=>by
    obtain⟨o',_,ho',_⟩:=T.step j (by omega)
    have:=(T.behind (n:=n) hij (by omega) ho' (.inl (by simp[h1])) (by simp[h2])).done hcl (by omega) (hcl j o' (by omega) hDj ho')
    rw[hD]at this;cases this
   by_cases hij:i<j
   ·simp only[hij,show i<j+1 from by omega,if_true,Tf.mem,Mem.get_append]
    by_cases hDj:D j=true
    ·simp only[hDj,if_true]
     cases h1:(T.N i).get n with
     |none=>simp
     |some b=>
      cases h2:(T.N j).get n with
      |none=>simp
      |some c=>exact(h12 hij hDj b c h1 h2).elim
    ·simp[hDj,Mem.get]
   ·simp only[hij,show ¬i<j+1 from by omega,if_false,Tf.mem,Mem.get_append]
theorem Rel.ext {S:Bs}{w0 w:World}{β:Vl}{M M':Mem}(h:Rel S w0 β M w)(he:∀n,M'.get n=M.get n):Rel S w0 β M' w:=by
 have hag:∀b b',Agree M' b b'→Agree M b b':=fun b b' hh n hn=>hh n (by rw[he];exact hn)
 refine⟨h.fr,⟨fun β' hh n b hb=>h.mem.ok β' (hag _ _ hh) n b (by rw[←he];exact hb),fun n b hb=>h.mem.there n b (by rw[←he];exact hb),fun n m b b' hb hb'=>h.mem.apart n m b b' (by rw[←he];exact hb) (by rw[←he];exact hb')⟩,
  fun n b hb=>h.own n b (by rw[←he];exact hb),fun n l hl=>⟨by rw[he];exact(h.pin n l hl).1,(h.pin n l hl).2⟩⟩
def Tf.Inv (T:Tf P S w0 rg e0 M0 Mf k)(S:Bs)(w0:World)(nt:Nat)(df:List Deferred)(D:Nat→Bool)(a:Act)(w:World):Prop:=
 ∃β,Rel S w0 β (T.mem D k) w∧EnvOk β (T.mem D k) (T.env D k) a∧a.tmps.size=nt∧a.defers=df
theorem dfOk_edges (h:dfOk rg k=true){i:Nat}{o:Oper}(ho:rg[i]?=some o):∀j,j∈aft o→j<i:=by
 have hi:i<rg.size:=(Array.getElem?_eq_some_iff.1 ho).1
 simp only[dfOk,Bool.and_eq_true,List.all_eq_true,List.mem_range]at h
 have:=h.2 i hi
 rw[ho]at this
 simp only[Bool.and_eq_true,List.all_eq_true,decide_eq_true_eq]at this
 exact this.1
theorem dfOk_le (h:dfOk rg k=true):k≤rg.size:=by
 simp only[dfOk,Bool.and_eq_true,decide_eq_true_eq]at h
 exact h.1
theorem dfOk_tail (h:dfOk rg k=true){i:Nat}{o:Oper}(ho:rg[i]?=some o)(hk:k≤i):∀j,j<i→Anc rg i j o:=by
 have hi:i<rg.size:=(Array.getElem?_eq_some_iff.1 ho).1
 simp only[dfOk,Bool.and_eq_true,List.all_eq_true,List.mem_range]at h
 have:=h.2 i hi
 rw[ho]at this
 simp only[Bool.and_eq_true]at this
 have h2:=this.2
 rw[if_neg (by omega)]at h2
 simp only[List.all_eq_true,List.mem_range]at h2
 intro j hj
 exact ancB_ok 20 j o (h2 j hj)
theorem dfOk_two (h:dfOk rg k=true){i j:Nat}{o o':Oper}(ho:rg[i]?=some o)(ho':rg[j]?=some o')(hi:i<k)(hj:j<k)(hne:j≠i):∀d,o'.dst=some d→o.dst≠some d∧(d∈o.looksAt rg→j∈aft o∨i∈aft o'):=by
 have hi':i<rg.size:=(Array.getElem?_eq_some_iff.1 ho).1
 simp only[dfOk,Bool.and_eq_true,List.all_eq_true,List.mem_range]at h
 have:=h.2 i hi'
 rw[ho]at this
 simp only[Bool.and_eq_true]at this
 have h2:=this.2
 rw[if_pos hi]at h2
 simp only[List.all_eq_true,List.mem_range]at h2
 have h3:=h2 j hj
 rw[ho']at h3
 intro d hd
 simp[hne,hd]at h3
 refine⟨fun hh=>h3.1 hh,fun hm=>?_⟩
 rcases h3.2 with h4|h4
 ·rcases h4 with h5|h5
  ·exact absurd hm h5
  ·exact .inl h5
 ·exact .inr h4
theorem Tf.step_any (T:Tf P S w0 rg e0 M0 Mf k)(hdf:dfOk rg k=true){nt:Nat}(hnt:∀i o,i<k→rg[i]?=some o→∀t,o.dst=some t→t<nt){D:Nat→Bool}{i:Nat}(hi:i<k)(hD:D i=false)
  (hcl:∀j o,j<k→D j=true→rg[j]?=some o→∀x,x∈aft o→D x=true) (hed:∀o,rg[i]?=some o→∀x,x∈aft o→D x=true) {a:Act} {w:World} (hinv:T.Inv S w0 nt df D a w) {K:Act→World→Prop} {Q:Exit→Act→World→Prop}
  (hk:∀a' w',T.Inv S w0 nt df (fun x=>if x=i then true else D x) a' w'→K a' w'):wpOpIn (fen lp) 0 P rg Q i K a w:=by
 obtain⟨β,hrel,hen,hsz,hdf0⟩:=hinv
 obtain⟨o,Ms,ho,hg,hE,hM,hs,hN,hMs,hf,_⟩:=T.step i hi
 -- what the operation looks at reads as in the text's order
 have hlook:∀t,t∈o.looksAt rg→(T.env D k).get t=(T.E i).get t:=by
  intro t ht
  have:=T.env_at D t i (by omega) (fun j o' hj ho' hd=>?_) k (Nat.le_refl _)
  ·rwa [show min i k=i from by omega]at this
  ·by_cases hji:j=i
   ·subst hji;simp[hD]
   ·rcases(dfOk_two hdf ho ho' hi hj hji t hd).2 ht with h|h
    ·exact⟨fun _=>dfOk_edges hdf ho j h,fun _=>hed o ho j h⟩
    ·constructor
     ·intro hh
      have:=hcl j o' hj hh ho' i h
      rw[hD]at this;cases this
     ·intro hh
      have:=dfOk_edges hdf ho' i h
      omega
 have hwant:Region.wanted o (yielded rg a.tmps)=T.G i:=gd_ok (β:=β) hg (fun j want t y hgd ht hy=>by
  refine hen β (Agree.refl _ _) t y ?_
  rw[hlook t ?_]
  ·exact hy
  ·simp[Oper.looksAt,hgd,ht])
 have hmore:∀β' (N':Mem) u w',(T.N i=N'∨(N'=[]∧T.N i=[]))→Agree (T.mem D k) β β'→Rel S w0 β' (T.N i++T.mem D k) w'→(∀β'',Agree (T.N i++T.mem D k) β' β''→u=gv β'' (T.G i,T.W i))→T.Inv S w0 nt df (fun x=>if x=i then true else D x) (a.put o.dst u) w':=by
  intro β' N' u w' _ hag hrel' hu
  have hget:∀n,(T.mem (fun x=>if x=i then true else D x) k).get n=(T.N i++T.mem D k:Mem).get n:=fun n=>by rw[T.mem_more D hi hD hcl n k (Nat.le_refl _),if_pos hi]
  refine⟨β',hrel'.ext hget,?_,by cases o.dst<;>simp[Act.put,hsz],by cases o.dst<;>simp[Act.put,hdf0]⟩
  have hput:=hen.put (N:=T.N i) hag hsz (hnt i o hi ho) hu
  intro β'' hag'' t x hx
  refine hput β'' (fun n hn=>hag'' n (by rw[hget];exact hn)) t x ?_
  rw[Env.get_put]
  rw[T.env_more D i o ho hD (fun j o' hj hne ho' d hd hd'=>(dfOk_two hdf ho ho' hi hj hne d hd').1 hd) t k (Nat.le_refl _)]at hx
  by_cases hd:o.dst=some t
  ·rw[if_pos ⟨hi,hd⟩]at hx;rw[if_pos hd];exact hx
  ·rw[if_neg (fun hh=>hd hh.2)]at hx;rw[if_neg hd];exact hx
 unfold wpOpIn
 simp only[ho,hwant]
 cases hGi:T.G i with
 |true=>
  simp only[if_true]
  refine Oper.wp_in lp (gd_nd hg).1 ?_
  refine hs hGi β (T.mem D k) a w (fun n b hb=>⟨b,?_,.inl rfl⟩) (fun n hn=>?_) hrel ?_ K Q ?_
  ·rcases hMs n b hb with h|⟨h1,h2⟩
   ·exact T.mem_base D h k (Nat.le_refl _)
   ·rw[T.mem_own D hi ho hD hcl (hed o ho) h1 k (Nat.le_refl _),show min i k=i from by omega]
    exact h2
  ·rcases(hf n hn).2.1 with h|h
   ·exact .inl h
   ·right
    rw[T.mem_own D hi ho hD hcl (hed o ho) (.inl hn) k (Nat.le_refl _),show min i k=i from by omega]
    exact h
  ·intro β' hag x hx y hy
   cases x with
   |tmp t=>
    have ht:t∈o.looksAt rg:=List.mem_append_left _ (List.mem_filterMap.2 ⟨.tmp t,by simpa using hx,rfl⟩)
    exact hen β' hag t y (by rw[hlook t ht];exact hy)
   |const v=>simp[rd]at hy;subst hy;simp[gv,cst_g,Act.eval]
   |global g=>simp[rd]at hy;subst hy;simp[gv,V.g,Cv.g,Act.eval]
   |func f=>simp[rd]at hy;subst hy;simp[gv,V.g,Cv.g,Act.eval]
  ·intro β' u w' hag hrel' hu
   exact hk _ _ (hmore β' _ u w' (.inl rfl) hag hrel' (fun β'' h=>by rw[hu β'' h,hGi];rfl))
 |false=>
  simp only[Bool.false_eq_true,if_false]
  have hN0:T.N i=[]:=by rcases hN with h|h;rw[hGi]at h;cases h;exact h
  refine⟨fun f _=>fen_fn lp f,?_⟩
  exact hk _ _ (hmore β [] undef w (.inr ⟨rfl,hN0⟩) (Agree.refl _ _) (by rw[hN0];exact hrel) (fun β'' _=>by rw[hGi];rfl))
theorem mem_ready {L:Array Bool}{i:Nat}:i∈Region.ready .any rg L↔i<rg.size∧L.getD i true=false∧∃o,rg[i]?=some o∧∀x,x∈aft o→L.getD x false=true:=by
 simp only[Region.ready,List.mem_filter,List.mem_range,Bool.and_eq_true]
 constructor
 ·rintro⟨h1,h2,h3⟩
  refine⟨h1,by simpa using h2,?_⟩
  cases ho:rg[i]? with
  |none=>simp[ho]at h3
  |some o=>
   refine⟨o,rfl,fun x hx=>?_⟩
   rw[ho]at h3
   simp only[Option.map_some,Option.getD_some]at h3
   rw[Array.all_eq_true_iff_forall_mem]at h3
   simp only[aft,List.mem_map,List.mem_filter]at hx
   obtain⟨e,⟨he1,he2⟩,rfl⟩:=hx
   have:=h3 e (by simpa using he1)
   simpa[he2]using this
 ·rintro⟨h1,h2,o,ho,h3⟩
  refine⟨h1,by simpa using h2,?_⟩
  rw[ho]
  simp only[Option.map_some,Option.getD_some]
  rw[Array.all_eq_true_iff_forall_mem]
  intro e he
  by_cases hb:Region.binds .any e=true
  ·have:=h3 e.on (by simp only[aft,List.mem_map,List.mem_filter];exact⟨e,⟨by simpa using he,hb⟩,rfl⟩)
   simp[hb,this]
  ·simp[hb]
theorem getD_set {L:Array Bool}{i:Nat}(hi:i<L.size)(d:Bool)(x:Nat):(L.setIfInBounds i true).getD x d=if x=i then true else L.getD x d:=by
 by_cases h:x=i
 ·subst h;simp[hi]
 ·simp[Array.getElem?_setIfInBounds_ne (fun hh=>h hh.symm),h]
theorem tail_ok (hdf:dfOk rg k=true){Q:Exit→Act→World→Prop}:∀(m j:Nat) (L:Array Bool) (a:Act) (w:World),j+m=rg.size→k≤j→L.size=rg.size→(∀i,i<rg.size→∀d,L.getD i d=decide (i<j))→wpListIn (fen lp) 0 P rg Q (rg.toList.drop j) a w→wpAnyIn (fen lp) 0 P .any rg Q m L a w
 |0,j,L,a,w,hm,hk,hL,hl,h=>by
  refine⟨?_,?_⟩
  ·rw[List.eq_nil_iff_forall_not_mem]
   intro i hi
   obtain⟨h1,h2,_⟩:=mem_ready.1 hi
   rw[hl i h1 true]at h2
   simp at h2
   omega
  ·rw[List.drop_of_length_le (by simp;omega)]at h
   exact h
 |m+1,j,L,a,w,hm,hk,hL,hl,h=>by
  have hj:j<rg.size:=by omega
  have hoj:rg[j]?=some rg[j]:=Array.getElem?_eq_getElem hj
  have hrdy:j∈Region.ready .any rg L:=mem_ready.2 ⟨hj,by rw[hl j hj true];simp,rg[j],hoj,fun x hx=>by
   have:=dfOk_edges hdf hoj x hx
   rw[hl x (by omega) false];simpa using this⟩
  refine⟨fun hh=>(by rw[hh]at hrdy;cases hrdy),fun i hi=>?_⟩
  obtain⟨h1,h2,o,ho,h3⟩:=mem_ready.1 hi
  have hij:i=j:=by
   rw[hl i h1 true]at h2
   simp at h2
   by_cases hlt:j<i
   ·have:=(dfOk_tail hdf ho (by omega) j hlt).done (k:=rg.size) (D:=fun x=>L.getD x false) (fun y o' hy hyd ho' x hx=>by
     have e1:=dfOk_edges hdf ho' x hx
     simp only[hl y hy false,decide_eq_true_eq]at hyd
     simp only[hl x (by omega) false,decide_eq_true_eq]
     omega) (by omega) h3
    simp only[hl j hj false,decide_eq_true_eq]at this
    omega
   ·omega
  subst hij
  rw[List.drop_eq_getElem_cons (by simpa using hj)]at h
  unfold wpOpIn
  simp only[hoj]
  simp only[Array.getElem_toList,wpListIn]at h
  have ih:=fun a w=>tail_ok hdf (Q:=Q) m (i+1) (L.setIfInBounds i true) a w (by omega) (by omega) (by simp[hL]) (fun x hx d=>by
   rw[getD_set (by omega) d x]
   by_cases hx':x=i
   ·subst hx';simp
   ·rw[if_neg hx',hl x hx d];congr 1;simp;omega)
  split
  ·rename_i hw
   rw[if_pos hw]at h
   exact Oper.wpIn_mono (fun a w=>ih a w) h
  ·rename_i hw
   rw[if_neg hw]at h
   exact⟨h.1,ih _ _ h.2⟩
theorem Tf.env_congr (T:Tf P S w0 rg e0 M0 Mf k){D D':Nat→Bool}:∀j,(∀i,i<j→D i=D' i)→T.env D j=T.env D' j
 |0,_=>rfl
 |j+1,h=>by simp only[Tf.env,T.env_congr j (fun i hi=>h i (by omega)),h j (by omega)]
theorem Tf.mem_congr (T:Tf P S w0 rg e0 M0 Mf k){D D':Nat→Bool}:∀j,(∀i,i<j→D i=D' i)→T.mem D j=T.mem D' j
 |0,_=>rfl
 |j+1,h=>by simp only[Tf.mem,T.mem_congr j (fun i hi=>h i (by omega)),h j (by omega)]
theorem Tf.inv_congr (T:Tf P S w0 rg e0 M0 Mf k){D D':Nat→Bool}{nt:Nat}{a:Act}{w:World}(h:∀i,i<k→D i=D' i)(hi:T.Inv S w0 nt df D a w):T.Inv S w0 nt df D' a w:=by
 unfold Tf.Inv at*
 rw[←T.env_congr k h,←T.mem_congr k h]
 exact hi
theorem draw_ok (T:Tf P S w0 rg e0 M0 Mf k)(hdf:dfOk rg k=true){nt:Nat}{Q:Exit→Act→World→Prop}(hnt:∀i o,i<k→rg[i]?=some o→∀t,o.dst=some t→t<nt)
  (htail:∀a w,T.Inv S w0 nt df (fun _=>true) a w→wpListIn (fen lp) 0 P rg Q (rg.toList.drop k) a w):∀(fuel:Nat) (L:Array Bool) (a:Act) (w:World),L.size=rg.size→(L.toList.filter (fun b=> !b)).length=fuel→(∀i,k≤i→i<rg.size→∀d,L.getD i d=false)→
   (∀j o,j<k→L.getD j false=true→rg[j]?=some o→∀x,x∈aft o→L.getD x false=true)→T.Inv S w0 nt df (fun i=>L.getD i false) a w→wpAnyIn (fen lp) 0 P .any rg Q fuel L a w:=by
 have hkle:=dfOk_le hdf
 intro fuel
 induction fuel with
 |zero=>
  intro L a w hL hc hun hcl hinv
  have hall:∀i,i<rg.size→∀d,L.getD i d=true:=by
   intro i hi d
   have hlt:i<L.size:=by omega
   simp only[Array.getD_eq_getD_getElem?,Array.getElem?_eq_getElem hlt,Option.getD_some]
   have:=List.length_eq_zero_iff.1 hc
   rw[List.filter_eq_nil_iff]at this
   have:=this L[i] (by simp)
   simpa using this
  have hk:k=rg.size:=by
   by_cases h:k<rg.size
   ·have h1:=hun k (Nat.le_refl _) h false
    rw[hall k h false]at h1;cases h1
   ·omega
  exact tail_ok hdf 0 rg.size L a w rfl (by omega) hL (fun i hi d=>by rw[hall i hi d];simp[hi]) (by
   have:=htail a w (T.inv_congr (fun i hi=>hall i (by omega) false) hinv)
   rw[hk]at this
   exact this)
 |succ fuel ih=>
  intro L a w hL hc hun hcl hinv
  by_cases hdone:∀i,i<k→L.getD i false=true
  ·-- the first k are done
   have hl:∀i,i<rg.size→∀d,L.getD i d=decide (i<k):=by
    intro i hi d
    by_cases hik:i<k
    ·have:=hdone i hik
     have hlt:i<L.size:=by omega
     simp only[Array.getD_eq_getD_getElem?,Array.getElem?_eq_getElem hlt,Option.getD_some]at this⊢
     simp[this,hik]
    ·rw[hun i (by omega) hi d];simp[hik]
   have hcount:k+(fuel+1)=rg.size:=by
    have hLl:L.toList=(List.replicate k true)++List.replicate (rg.size-k) false:=by
     apply List.ext_getElem?
     intro i
     by_cases hi:i<rg.size
     ·have h1:=hl i hi false
      have hlt:i<L.size:=by omega
      rw[Array.getElem?_toList,Array.getElem?_eq_getElem hlt]
      simp only[Array.getD_eq_getD_getElem?,Array.getElem?_eq_getElem hlt,Option.getD_some]at h1
      rw[h1]
      by_cases hik:i<k
      ·rw[List.getElem?_append_left (by simpa using hik),List.getElem?_replicate,if_pos hik];simp[hik]
      ·rw[List.getElem?_append_right (by simpa using Nat.le_of_not_lt hik),List.getElem?_replicate,if_pos (by simp;omega)];simp[hik]
     ·rw[List.getElem?_eq_none (by simp;omega),List.getElem?_eq_none (by simp;omega)]
    rw[hLl]at hc
    simp at hc
    omega
   exact tail_ok hdf (fuel+1) k L a w hcount (Nat.le_refl _) hL hl (htail a w (T.inv_congr (fun i hi=>hdone i hi) hinv))
  ·-- one of the first k is not
   have hex:∃i,i<k∧L.getD i false=false∧∀j,j<i→L.getD j false=true:=by
    have:∃i,i<k∧L.getD i false=false:=by
     simp only[Classical.not_forall,Bool.not_eq_true]at hdone
     obtain⟨i,hi,h⟩:=hdone
     exact⟨i,hi,h⟩
    obtain⟨i,hi,h⟩:=this
    induction i using Nat.strongRecOn with
    |_ i ihh=>
     by_cases hj:∃j,j<i∧L.getD j false=false
     ·obtain⟨j,hji,hjf⟩:=hj
      exact ihh j hji (by omega) hjf
     ·refine⟨i,hi,h,fun j hji=>?_⟩
      cases hv:L.getD j false with
      |true=>rfl
      |false=>exact absurd ⟨j,hji,hv⟩ hj
   obtain⟨i0,hi0,hf0,hm0⟩:=hex
   have conv:∀i,i<rg.size→∀d,L.getD i d=L.getD i false:=by
    intro i hi d
    have hlt:i<L.size:=by omega
    simp only[Array.getD_eq_getD_getElem?,Array.getElem?_eq_getElem hlt,Option.getD_some]
   have hrdy:i0∈Region.ready .any rg L:=by
    have hlt:i0<rg.size:=by omega
    have ho:rg[i0]?=some rg[i0]:=Array.getElem?_eq_getElem hlt
    exact mem_ready.2 ⟨hlt,by rw[conv i0 hlt true];exact hf0,rg[i0],ho,fun x hx=>hm0 x (dfOk_edges hdf ho x hx)⟩
   refine⟨fun hh=>(by rw[hh]at hrdy;cases hrdy),fun i hi=>?_⟩
   obtain⟨h1,h2,o,ho,h3⟩:=mem_ready.1 hi
   rw[conv i h1 true]at h2
   have hik:i<k:=by
    by_cases hh:i<k
    ·exact hh
    ·have:=(dfOk_tail hdf ho (by omega) i0 (by omega)).done (k:=rg.size) (D:=fun x=>L.getD x false) (fun y o' hy hyd ho' x hx=>by
      by_cases hyk:y<k
      ·exact hcl y o' hyk hyd ho' x hx
      ·have:=hun y (by omega) hy false
       simp only[this]at hyd
       cases hyd) (by omega) h3
     simp only[hf0]at this;cases this
   refine T.step_any hdf hnt hik (D:=fun i=>L.getD i false) h2 hcl (fun o' ho' x hx=>?_) hinv (fun a' w' hinv'=>?_)
   ·rw[ho]at ho';cases ho';exact h3 x hx
   ·have hset:∀d x,(L.setIfInBounds i true).getD x d=if x=i then true else L.getD x d:=fun d x=>getD_set (by omega) d x
    refine ih (L.setIfInBounds i true) a' w' (by simp[hL]) ?_ ?_ ?_ ?_
    ·have hlt:i<L.size:=by omega
     have hLi:L[i]=false:=by
      simp only[Array.getD_eq_getD_getElem?,Array.getElem?_eq_getElem hlt,Option.getD_some]at h2
      exact h2
     have hfl:∀(l:List Bool) (i:Nat),l[i]?=some false→((l.set i true).filter (fun b=> !b)).length+1=(l.filter (fun b=> !b)).length:=by
      intro l
      induction l with
      |nil=>intro i h;simp at h
      |cons x l ihl=>
       intro i h
       cases i with
       |zero=>simp at h;subst h;simp
       |succ i=>
        simp at h
        have:=ihl i h
        cases x<;>simp<;>omega
     have:=hfl L.toList i (by rw[Array.getElem?_toList,Array.getElem?_eq_getElem hlt,hLi])
     rw[Array.toList_setIfInBounds]
     omega
    ·intro x hx hxs d
     rw[hset d x,if_neg (by omega)]
     exact hun x hx hxs d
    ·intro j o' hj hjt ho' x hx
     rw[hset false x]
     by_cases hxi:x=i
     ·rw[if_pos hxi]
     ·rw[if_neg hxi]
      rw[hset false j]at hjt
      by_cases hji:j=i
      ·subst hji
       rw[ho]at ho';cases ho'
       exact h3 x hx
      ·rw[if_neg hji]at hjt
       exact hcl j o' hj hjt ho' x hx
    ·refine T.inv_congr (fun x _=>?_) hinv'
     rw[hset false x]
end
theorem Sm.draw {P:Program}{nt:Nat}{C:Cx}{r:List It}{id k:Nat}{rg:Array Oper}{e0 e:Env}{M0 Mf M:Mem}(hmix:P.follows .mixedOrders=true)(hdf:dfOk rg k=true)(hnt:rg.all (fun o=>dstOk nt o.dst)=true)
  {TT:List (Nat×Nat)} (htr:Tr P C.S C.w0 rg e0 M0 Mf (rg.toList.take k) e M TT) (hS:Sm P nt C (.ops rg (rg.toList.drop k)::r) e M):Sm P nt C (.code (.region id rg true)::r) e0 Mf:=by
 have hkle:=dfOk_le hdf
 have hlen:(rg.toList.take k).length=k:=by simp;omega
 obtain⟨T,hE,hM⟩:∃T:Tf P C.S C.w0 rg e0 M0 Mf k,T.E k=e∧T.MM k=M:=by
  have h:=htr.fn (fun i hi=>by
   rw[hlen]at hi
   rw[List.getElem?_take,if_pos hi,Array.getElem?_toList])
  rw[hlen]at h
  obtain⟨T,h,_⟩:=h
  exact⟨T,h⟩
 intro β a w h1 h2 h3 h4
 have hfalse:∀j,T.mem (fun _=>false) j=Mf∧T.env (fun _=>false) j=e0:=by
  intro j
  induction j with
  |zero=>exact⟨rfl,rfl⟩
  |succ j ih=>
   refine⟨by simp[Tf.mem,ih.1],?_⟩
   rw[Tf.env]
   cases rg[j]?<;>simp[ih.2]
 refine wpIn_region_any hmix (draw_ok T hdf (S:=C.S) (w0:=C.w0) (nt:=nt) (df:=C.df) (lp:=C.lp) (fun i o _ ho t ht=>?_) (fun a w hinv=>?_) rg.size _ a _ (by simp) (by simp) (fun i _ hi d=>by simp[hi]) (fun j o _ hj=>by
  by_cases hjs:j<rg.size
  ·simp[hjs]at hj
  ·simp[hjs]at hj) (T.inv_congr (D:=fun _=>false) (fun i hi=>by
   have:i<rg.size:=by omega
   simp[this]) ⟨β,?_,?_,h3,h4⟩))
 ·rw[Array.all_eq_true_iff_forall_mem]at hnt
  have:=hnt o (Array.mem_of_getElem? ho)
  rw[ht]at this
  simpa[dstOk]using this
 ·obtain⟨β',g1,g2,g3,g4⟩:=hinv
  rw[T.mem_all _ k (Nat.le_refl _) (fun _ _=>rfl),hM]at g1 g2
  rw[T.env_all _ k (Nat.le_refl _) (fun _ _=>rfl),hE]at g2
  exact hS β' a w g1 g2 g3 g4
 ·rw[(hfalse k).1];exact h1.drew
 ·rw[(hfalse k).1,(hfalse k).2];exact h2
def freshB (N M:Mem):Bool:=N.all fun p=>(M.get p.1).isNone
def touchB (T:List (Nat×Nat))(o:Oper)(N:Mem):Bool:=N.all fun p=>T.all fun q=> !(q.1==p.1||q.1==p.1+1000000)||(aft o).contains q.2
def ownB (N M0 Ms M:Mem):Bool:=N.all fun p=>(M0.get p.1).isNone&&((Ms.get p.1).isSome||(M.get p.1).isNone)
def seenX (e:Env)(M0 M:Mem):Op→Option (Nat×Bk)
 | .store _ x _=>match rd e x with
  |some (_,.c (.p n _))=>match M0.get n with
   |some _=>none
   |none=>match M.get n with
    |some b=>some (n,b)
    |none=>none
  |_=>none
 |_=>none
def seenM (x:Option (Nat×Bk))(M0:Mem):Mem:=
 match x with
 |some p=>p::M0
 |none=>M0
def seenB (x:Option (Nat×Bk))(N:Mem):Bool:=
 match x with
 |some p=>(N.get p.1).isSome
 |none=>true
theorem snoc_hf {rg:Array Oper}{b:Nat}{T:List (Nat×Nat)}{o:Oper}{N M0 Ms M:Mem}(h1:ownB N M0 Ms M=true)(h2:touchB T o N=true):∀n,(N.get n).isSome=true→M0.get n=none∧((Ms.get n).isSome=true∨M.get n=none)∧∀i,Tc T n i→Anc rg b i o:=by
 intro n hn
 obtain⟨p,hp,hp1⟩:=List.mem_map.1 (Mem.mem_of_get' hn)
 subst hp1
 have k1:=List.all_eq_true.1 h1 p hp
 have k2:=List.all_eq_true.1 h2 p hp
 simp only[Bool.and_eq_true,Bool.or_eq_true,Option.isNone_iff_eq_none]at k1
 refine⟨k1.1,k1.2,fun i hi=>?_⟩
 rcases hi with hi|hi
 ·have:=List.all_eq_true.1 k2 _ hi
  exact .base (by simpa using this)
 ·have:=List.all_eq_true.1 k2 _ hi
  exact .base (by simpa using this)
theorem seenM_ok {e:Env}{M0 M N:Mem}{op:Op}(h:seenB (seenX e M0 M op) N=true):∀n b,(seenM (seenX e M0 M op) M0).get n=some b→M0.get n=some b∨((N.get n).isSome=true∧M.get n=some b):=by
 intro n b hb
 cases hx:seenX e M0 M op with
 |none=>rw[hx]at hb;exact .inl hb
 |some p=>
  obtain⟨m,c⟩:=p
  rw[hx]at hb h
  have hm:M0.get m=none∧M.get m=some c:=by
   unfold seenX at hx
   split at hx<;>first|(cases hx;done)|skip
   split at hx<;>first|(cases hx;done)|skip
   split at hx<;>first|(cases hx;done)|skip
   rename_i h0
   split at hx<;>simp at hx
   rename_i h1
   obtain⟨rfl,rfl⟩:=hx
   exact⟨h0,h1⟩
  simp only[seenM,Mem.get]at hb
  by_cases hmn:m=n
  ·subst hmn
   simp at hb
   subst hb
   exact .inr ⟨h,hm.2⟩
  ·have:(m==n)=false:=by simpa using hmn
   rw[this]at hb
   exact .inl (by simpa using hb)
def DrS (P:Program)(nt:Nat)(C:Cx)(id:Nat)(rg:Array Oper)(r:List It)(e0:Env)(M0 Mf:Mem)(k:Nat)(T:List (Nat×Nat))(i:Nat)(l:List Oper)(e:Env)(M:Mem):Prop:=
 P.follows .mixedOrders=true→dfOk rg k=true→rg.all (fun o=>dstOk nt o.dst)=true→∀done,done.length=i→done++l=rg.toList.take k→Tr P C.S C.w0 rg e0 M0 Mf done e M T→Sm P nt C (.code (.region id rg true)::r) e0 Mf
def touchN (N:Mem)(i:Nat)(T:List (Nat×Nat)):List (Nat×Nat):=N.map (fun p=>(p.1,i))++T
def DCallQ (P:Program)(nt:Nat)(C:Cx)(id:Nat)(rg:Array Oper)(r:List It)(e0:Env)(M0 Mf:Mem)(k:Nat)(T:List (Nat×Nat))(i:Nat)(o:Oper)(f:FuncId)(vs:List (Option (Bool×V)))(g:Bool)(dst:Option Nat)(l:List Oper)(e:Env)(M:Mem):Prop:=
 ∃(M1 N Ms:Mem) (v:V) (xs:List V),(g=true→vs=xs.map fun x=>some (true,x))∧(g=true→CallIn P C f xs M1 v N)∧Sub M1 Ms∧ClM M1∧Fresh N M1 Ms∧(g=true∨N=[])∧((∀n b,Ms.get n=some b→M0.get n=some b∨((N.get n).isSome=true∧M.get n=some b))∧(∀n,(N.get n).isSome=true→M0.get n=none∧((Ms.get n).isSome=true∨M.get n=none)∧∀j,Tc T n j→Anc rg i j o))∧DrS P nt C id rg r e0 M0 Mf k (touchN N i T) (i+1) l (e.put dst g v) (N++M)
def DOpQ (P:Program)(nt:Nat)(C:Cx)(id:Nat)(rg:Array Oper)(r:List It)(e0:Env)(M0 Mf:Mem)(k:Nat)(T:List (Nat×Nat))(i:Nat)(o:Oper)(g:Bool)(l:List Oper)(e:Env)(M:Mem):Prop:=
 (∃(N Ms:Mem) (v:V),(g=true→StpC P C.S C.w0 o e Ms v N)∧(g=true∨N=[])∧((∀n b,Ms.get n=some b→M0.get n=some b∨((N.get n).isSome=true∧M.get n=some b))∧(∀n,(N.get n).isSome=true→M0.get n=none∧((Ms.get n).isSome=true∨M.get n=none)∧∀j,Tc T n j→Anc rg i j o))∧DrS P nt C id rg r e0 M0 Mf k (touchN N i T) (i+1) l (e.put o.dst g v) (N++M))∨
 ∃(X:List Nat) (Ms:Mem) (v:V),(g=true→StpC P C.S C.w0 o e Ms v [])∧(∀n b,Ms.get n=some b→M0.get n=some b∨(n∈X∧M.get n=some b))∧(∀n,n∈X→∀j,(n,j)∈T→Anc rg i j o)∧DrS P nt C id rg r e0 M0 Mf k (X.map (fun n=>(n+1000000,i))++T) (i+1) l (e.put o.dst g v) M
def kontW (P:Program)(nt:Nat)(C:Cx)(todo:List It)(e:Env)(M:Mem)(nx:Nat):Prop:=run P nt C 1000 todo e M nx
@[go_sem] theorem kontW_go (P:Program)(nt:Nat)(C:Cx)(todo:List It)(e:Env)(M:Mem)(nx:Nat):kontW P nt C todo e M nx=run P nt C 1000 todo e M nx:=rfl
def runD (P:Program)(nt:Nat)(C:Cx)(id:Nat)(rg:Array Oper)(r:List It)(e0:Env)(M0 Mf:Mem)(k:Nat)(kont:Env→Mem→Nat→Prop):List (Nat×Nat)→Nat→List Oper→Env→Mem→Nat→Prop
 |_,_,[],e,M,nx=>kont e M nx
 |T,i,o::l,e,M,nx=>
  match gd rg e o with
  |none=>DrS P nt C id rg r e0 M0 Mf k T i (o::l) e M
  |some g=>
   match opE P e (seenM (seenX e M0 M o.op) M0) nx o.dst.isNone o.op with
   |some (sc,v,N,nx')=>((g=true→sc)∧(g=true∨N=[])∧ownB N M0 (seenM (seenX e M0 M o.op) M0) M=true∧touchB T o N=true∧seenB (seenX e M0 M o.op) N=true)∧runD P nt C id rg r e0 M0 Mf k kont (touchN N i T) (i+1) l (e.put o.dst g v) (N++M) nx'
   |none=>
    match opY P e M0 nx o.op with
    |some (sc,v,N,nx')=>((g=true→sc)∧(g=true∨N=[])∧ownB N M0 M0 M=true∧touchB T o N=true)∧runD P nt C id rg r e0 M0 Mf k kont (touchN N i T) (i+1) l (e.put o.dst g v) (N++M) nx'
    |none=>
     match callOf e o.op with
     |some (g',f,vs)=>(g=true→g'=true)∧DCallQ P nt C id rg r e0 M0 Mf k T i o f vs g o.dst l e M
     |none=>DOpQ P nt C id rg r e0 M0 Mf k T i o g l e M
theorem runD_ok {P:Program}{nt:Nat}{C:Cx}{id:Nat}{rg:Array Oper}{r:List It}{e0:Env}{M0 Mf:Mem}{k:Nat}{kont:Env→Mem→Nat→Prop}(hk:∀e M nx,kont e M nx→Sm P nt C (.ops rg (rg.toList.drop k)::r) e M):
  ∀(l:List Oper) (T:List (Nat×Nat)) (i:Nat) (e:Env) (M:Mem) (nx:Nat),runD P nt C id rg r e0 M0 Mf k kont T i l e M nx→DrS P nt C id rg r e0 M0 Mf k T i l e M:=by
 intro l
 induction l with
 |nil=>
  intro T i e M nx h hmix hdf hnt done hi hd htr
  rw[List.append_nil]at hd
  subst hd
  exact Sm.draw hmix hdf hnt htr (hk e M nx h)
 |cons o l ih=>
  intro T i e M nx h hmix hdf hnt done hi hd htr
  have hd':(done++[o])++l=rg.toList.take k:=by simpa using hd
  have hi':(done++[o]).length=i+1:=by simp[hi]
  subst hi
  have hM0:∀(N:Mem) n b,M0.get n=some b→M0.get n=some b∨((N.get n).isSome=true∧M.get n=some b):=fun _ _ _ h=> .inl h
  simp only[runD]at h
  split at h
  ·exact h hmix hdf hnt done rfl hd htr
  ·rename_i g hg
   split at h
   ·rename_i sc v N nx' hop
    obtain⟨⟨h1,h2,h3,h3',h3''⟩,h4⟩:=h
    exact ih _ _ _ _ _ h4 hmix hdf hnt _ hi' hd' (.snoc htr hg (fun hgt=>(opE_ok hop (h1 hgt)).toC) h2 (seenM_ok h3'') (snoc_hf h3 h3'))
   ·split at h
    ·rename_i sc v N nx' hop
     obtain⟨⟨h1,h2,h3,h3'⟩,h4⟩:=h
     exact ih _ _ _ _ _ h4 hmix hdf hnt _ hi' hd' (.snoc htr hg (fun hgt=>(opY_ok hop (h1 hgt)).toC) h2 (hM0 N) (snoc_hf h3 h3'))
    split at h
    ·rename_i g' f vs hop
     obtain⟨h0,M1,N,Ms,v,xs,k1,k2,k3,k4,k5,k6,k7,k8⟩:=h
     exact k8 hmix hdf hnt _ hi' hd' (.snoc htr hg (fun hgt=>StpC.callIn (by rw[hop,h0 hgt]) (k1 hgt) (k2 hgt) k3 k4 k5) k6 k7.1 k7.2)
    ·rcases h with⟨N,Ms,v,k1,k2,k3,k4⟩|⟨X,Ms,v,k1,k2,k3,k4⟩
     ·exact k4 hmix hdf hnt _ hi' hd' (.snoc htr hg k1 k2 k3.1 k3.2)
     ·exact k4 hmix hdf hnt _ hi' hd' (.look X htr hg k1 k2 k3)
section
variable {P:Program} {nt:Nat} {C:Cx} {todo r:List It} {e e0:Env} {M M0 Mf:Mem}
theorem Sm.go (nx:Nat)(h:run P nt C 1000 todo e M nx):Sm P nt C todo e M:=run_ok 1000 _ _ _ nx h
theorem Sm.dgo {id:Nat}{rg:Array Oper}(nx k:Nat)(hmix:P.follows .mixedOrders=true)(hdf:dfOk rg k=true)(hnt:rg.all (fun o=>dstOk nt o.dst)=true)
  (h:runD P nt C id rg r e M M k (kontW P nt C (.ops rg (rg.toList.drop k)::r)) [] 0 (rg.toList.take k) e M nx):Sm P nt C (.code (.region id rg true)::r) e M:=
 runD_ok (fun _ _ nx h=>run_ok 1000 _ _ _ nx h) _ _ _ _ _ _ h hmix hdf hnt [] rfl rfl (.nil fun _ _ h=>h)
def Mem.wo (W:List Nat):Mem→Mem
 |[]=>[]
 |(n,b)::M=>bif W.contains n then Mem.wo W M else(n,b)::Mem.wo W M
theorem Mem.wo_get {W:List Nat}:∀{M:Mem} {n:Nat} {b:Bk},(Mem.wo W M).get n=some b→M.get n=some b
 |[],n,b,h=>by cases h
 |(k,c)::M,n,b,h=>by
  have hW:∀{M:Mem} {n:Nat} {b:Bk},(Mem.wo W M).get n=some b→W.contains n=false:=by
   intro M
   induction M with
   |nil=>intro n b h;cases h
   |cons p M ih=>
    obtain⟨j,d⟩:=p
    intro n b h
    simp only[Mem.wo]at h
    cases hw:W.contains j with
    |true=>rw[hw]at h;exact ih h
    |false=>
     rw[hw]at h
     simp only[cond_false,Mem.get]at h
     cases hj:(j==n)with
     |true=>have:j=n:=by simpa using hj
            subst this;exact hw
     |false=>rw[hj]at h;exact ih h
  have hn:=hW h
  simp only[Mem.wo]at h
  simp only[Mem.get]
  cases hw:W.contains k with
  |true=>
   rw[hw]at h
   have hk:(k==n)=false:=by
    rw[beq_eq_false_iff_ne]
    intro e
    rw[e,hn]at hw;cases hw
   rw[hk]
   exact Mem.wo_get (M:=M) h
  |false=>
   rw[hw]at h
   simp only[cond_false,Mem.get]at h
   cases hk:(k==n)with
   |true=>rw[hk]at h;exact h
   |false=>rw[hk]at h;exact Mem.wo_get (M:=M) h
theorem Sm.dgoW {id:Nat}{rg:Array Oper}(W:List Nat)(nx k:Nat)(hmix:P.follows .mixedOrders=true)(hdf:dfOk rg k=true)(hnt:rg.all (fun o=>dstOk nt o.dst)=true)
  (h:runD P nt C id rg r e (Mem.wo W M) M k (kontW P nt C (.ops rg (rg.toList.drop k)::r)) [] 0 (rg.toList.take k) e M nx):Sm P nt C (.code (.region id rg true)::r) e M:=
 runD_ok (fun _ _ nx h=>run_ok 1000 _ _ _ nx h) _ _ _ _ _ _ h hmix hdf hnt [] rfl rfl (.nil fun _ _ h=>Mem.wo_get h)
theorem DrS.go {id:Nat}{rg:Array Oper}{k:Nat}{T:List (Nat×Nat)}{i:Nat}{l:List Oper}(nx:Nat)(h:runD P nt C id rg r e0 M0 Mf k (kontW P nt C (.ops rg (rg.toList.drop k)::r)) T i l e M nx):DrS P nt C id rg r e0 M0 Mf k T i l e M:=
 runD_ok (fun _ _ nx h=>run_ok 1000 _ _ _ nx h) _ _ _ _ _ _ h
theorem Sub.nil (M:Mem):Sub [] M:=fun _ _ h=>by cases h
theorem ClM.nil:ClM []:=fun _ _ _ _ _ h=>by cases h
theorem Fresh.nil (M M':Mem):Fresh [] M M':=fun _ h=>by cases h
theorem CallQ.pure {f:FuncId}{vs:List (Option (Bool×V))}{g:Bool}{dst:Option Nat}{xs:List V}{v:V}(nx:Nat)(hc:CallOk P f xs [] v [])(hvs:vs=xs.map fun x=>some (true,x))(h:run P nt C 1000 todo (e.put dst g v) M nx):
  CallQ P nt C f vs g dst todo e M:= .inl ⟨[],[],v,xs,fun _=>hvs,fun _=> .inl (.inl hc),Sub.nil _,ClM.nil,Fresh.nil _ _,.inr rfl,run_ok 1000 _ _ _ nx h⟩
theorem DCallQ.pure {id:Nat}{rg:Array Oper}{k:Nat}{T:List (Nat×Nat)}{i:Nat}{o:Oper}{l:List Oper}{f:FuncId}{vs:List (Option (Bool×V))}{g:Bool}{dst:Option Nat}{xs:List V}{v:V}(nx:Nat)(hc:CallOk P f xs [] v [])(hvs:vs=xs.map fun x=>some (true,x))
  (h:runD P nt C id rg r e0 M0 Mf k (kontW P nt C (.ops rg (rg.toList.drop k)::r)) T (i+1) l (e.put dst g v) M nx):DCallQ P nt C id rg r e0 M0 Mf k T i o f vs g dst l e M:=
 ⟨[],[],M0,v,xs,fun _=>hvs,fun _=> .inl (.inl hc),Sub.nil _,ClM.nil,Fresh.nil _ _,.inr rfl,⟨fun _ _ h=> .inl h,fun _ h=>by cases h⟩,DrS.go nx h⟩
theorem CallQ.ext {f:FuncId}{vs:List (Option (Bool×V))}{g:Bool}{dst:Option Nat}{xs:List V}{v:V}(nx:Nat)(hc:ExtOk P f xs v)(hvs:vs=xs.map fun x=>some (true,x))(h:run P nt C 1000 todo (e.put dst g v) M nx):
  CallQ P nt C f vs g dst todo e M:= .inl ⟨[],[],v,xs,fun _=>hvs,fun _=> .inl (.inr ⟨rfl,hc⟩),Sub.nil _,ClM.nil,Fresh.nil _ _,.inr rfl,run_ok 1000 _ _ _ nx h⟩
theorem CallQ.guard {f:FuncId}{vs:List (Option (Bool×V))}{g:Bool}{dst:Option Nat}{xs:List V}{v:V}(nx:Nat)(hc:g=true→CallOk P f xs [] v [])(hvs:g=true→vs=xs.map fun x=>some (true,x))(h:run P nt C 1000 todo (e.put dst g v) M nx):
  CallQ P nt C f vs g dst todo e M:= .inl ⟨[],[],v,xs,hvs,fun h=> .inl (.inl (hc h)),Sub.nil _,ClM.nil,Fresh.nil _ _,.inr rfl,run_ok 1000 _ _ _ nx h⟩
theorem CallOk.mk {P:Program}{f:FuncId}{fn:Func}{body:Code}{args:List V}{v:V}(nx:Nat)(hf:P.funcs[f]?=some fn)(hb:fn.body=some body)(hent:Enters P f)(hnt:args.length≤fn.ntmps)(hcl:∀x∈args,ClV [] x)
  (h:∀C,RetOk P C fn v []→run P fn.ntmps C 1000 [.code body] (initE 0 args) [] nx):CallOk P f args [] v []:=
 CallOk.intro hf hb hent hnt (fun _ _ h=>by cases h) (fun _ _ _ h=>by cases h) hcl (fun C hR _=>run_ok 1000 _ _ _ nx (h C hR))
theorem RetQ.pure {fn:Func}{v:V}{e:Env}{M:Mem}(hR:RetOk P C fn v []){sc:Prop}{u:V}(hres:resE P e M fn.results.toList=some (sc,u))(hs:sc)(hv:u=v)(hcv:ClV [] v):RetQ C e M:=
 RetQ.of hR hres hs hv (Sub.nil _) ClM.nil hcv
end
def EnvLe:Env→Env→Prop
 |[],_=>True
 |(t,x)::r,e'=>e'.get t=some x∧EnvLe r e'
theorem Env.mem_of_get:∀{e:Env} {t:Nat} {y:Bool×V},e.get t=some y→(t,y)∈e
 |[],t,y,h=>by cases h
 |(k,x)::r,t,y,h=>by
  simp only[Env.get]at h
  cases hk:(k==t)with
  |true=>
   rw[hk]at h
   have:k=t:=by simpa using hk
   subst this
   simp at h
   subst h
   simp
  |false=>
   rw[hk]at h
   exact List.mem_cons_of_mem _ (Env.mem_of_get h)
theorem RetQ.int {P:Program}{C:Cx}{fn:Func}{k:IntKind}{n m:Int}{e:Env}{M:Mem}(hR:RetOk P C fn (.c (.v (.int k n))) []){sc:Prop}(hres:resE P e M fn.results.toList=some (sc,.c (.v (.int k m))))(hs:sc)(hv:m=n):RetQ C e M:=
 RetQ.pure hR hres hs (by rw[hv]) (fun _ _ _=>rfl)
theorem RetQ.bool {P:Program}{C:Cx}{fn:Func}{n m:Bool}{e:Env}{M:Mem}(hR:RetOk P C fn (.c (.v (.bool n))) []){sc:Prop}(hres:resE P e M fn.results.toList=some (sc,.c (.v (.bool m))))(hs:sc)(hv:m=n):RetQ C e M:=
 RetQ.pure hR hres hs (by rw[hv]) (fun _ _ _=>rfl)
def Cv.isV:Cv→Bool
 | .v _=>true
 |_=>false
theorem Cv.isV_g {x:Cv}(h:x.isV=true)(β β':Vl):x.g β'=x.g β:=by cases x<;>first|rfl|cases h
theorem Mem.mem_of_get:∀{M:Mem} {n:Nat} {b:Bk},M.get n=some b→(n,b)∈M
 |[],n,b,h=>by cases h
 |(k,c)::r,n,b,h=>by
  simp only[Mem.get]at h
  cases hk:(k==n)with
  |true=>
   rw[hk]at h
   have:k=n:=by simpa using hk
   subst this
   simp at h
   subst h
   simp
  |false=>
   rw[hk]at h
   exact List.mem_cons_of_mem _ (Mem.mem_of_get h)
theorem ClM.v {M:Mem}(h:M.all (fun p=>p.2.cells.all Cv.isV)=true):ClM M:=by
 intro β β' _ n b hb
 have h1:=List.all_eq_true.1 h (n,b) (Mem.mem_of_get hb)
 refine List.map_congr_left fun x hx=>?_
 exact Cv.isV_g (List.all_eq_true.1 h1 x hx) β β'
@[go_sem] theorem wrapL {n:Int}(h1: -9223372036854775808≤n)(h2:n≤9223372036854775807):IntKind.i64.wrap n=n:=IntWalk.i64_in n ⟨h1,h2⟩
theorem CallOk.mkM {P:Program}{f:FuncId}{fn:Func}{body:Code}{args:List V}{v:V}{M:Mem}(nx:Nat)(hf:P.funcs[f]?=some fn)(hb:fn.body=some body)(hent:Enters P f)(hnt:args.length≤fn.ntmps)(hcl:∀x∈args,ClV M x)
  (h:∀C,RetOk P C fn v M→run P fn.ntmps C 1000 [.code body] (initE 0 args) M nx):CallOk P f args M v []:=
 CallOk.intro hf hb hent hnt (fun _ _ h=>by cases h) (fun _ _ _ h=>by cases h) hcl (fun C hR _=>run_ok 1000 _ _ _ nx (h C hR))
theorem CallQ.mem {P:Program}{nt:Nat}{C:Cx}{todo:List It}{e:Env}{M:Mem}{f:FuncId}{vs:List (Option (Bool×V))}{g:Bool}{dst:Option Nat}{xs:List V}{v:V}{M1:Mem}(nx:Nat)(hc:CallOk P f xs M1 v [])(hvs:vs=xs.map fun x=>some (true,x))(hs:Sub M1 M)(hcl:ClM M1)(h:run P nt C 1000 todo (e.put dst g v) M nx):
  CallQ P nt C f vs g dst todo e M:= .inl ⟨M1,[],v,xs,fun _=>hvs,fun _=> .inl (.inl hc),hs,hcl,Fresh.nil _ _,.inr rfl,run_ok 1000 _ _ _ nx h⟩
theorem Sub.one {M:Mem}{n:Nat}{b b':Bk}(h:M.get n=some b')(hw:Wk b b'):Sub [(n,b)] M:=fun k c hk=>by
 simp only[Mem.get]at hk
 cases hkn:(n==k)with
 |true=>
  rw[hkn]at hk
  have:n=k:=by simpa using hkn
  subst this
  simp at hk
  subst hk
  exact⟨b',h,hw⟩
 |false=>rw[hkn]at hk;cases hk
attribute [go_sem] EnvLe imp_self Bool.not_eq_true' cond_true cond_false true_and and_true and_self implies_true true_or or_true forall_const ne_eq not_false_eq_true decide_true decide_false beq_self_eq_true Option.isNone Option.bind_some Option.isNone_none Option.isNone_some Option.isSome_some Bool.true_and Bool.and_true beq_true beq_false Bool.not_true Bool.not_false eq_self Bool.true_eq_false Bool.false_eq_true false_implies true_implies or_false false_or and_false false_and List.map_cons List.map_nil List.all_cons List.all_nil List.take_succ_cons List.take_zero List.take_nil List.drop_succ_cons List.drop_zero List.drop_nil List.length_cons List.length_nil List.getElem?_cons_zero List.getElem?_cons_succ List.getElem?_toArray List.nil_append List.cons_append List.set_cons_zero List.set_cons_succ Nat.zero_add Nat.add_zero
attribute [go_sem] eqC eqE
attribute [go_sem] Mem.wo callOf run runD seenX seenM seenB ownB touchB touchN aft Region.binds List.filter Option.isSome_none Bool.true_or Bool.or_true Bool.false_or Bool.or_false Bool.or_self List.contains_cons List.contains_nil List.elem initE gd gd0 isDef opE rd rdV Env.get Env.put cst dstOk exitTo Mem.get setL V.ok1 V.cells Cv.one Value.oneCell' binC unC pickV W.toV fillE freshB resE resL res1 V.toW
end Vg
namespace Vg
open Go.RowKit
def rn:List (Nat×Nat)→Nat→Nat
 |[],k=>k+1000000
 |(a,b)::r,k=>bif a==k then b else rn r k
def rnOk:List (Nat×Nat)→Bool
 |[]=>true
 |(_,b)::r=>decide (b<1000000)&&(r.all fun p=>p.2 !=b)&&rnOk r
theorem rn_vals:∀(L:List (Nat×Nat)) (k:Nat),(∃p∈L,rn L k=p.2)∨rn L k=k+1000000
 |[],k=> .inr rfl
 |(a,b)::r,k=>by
  simp only[rn]
  cases h:(a==k)with
  |true=>exact .inl ⟨(a,b),by simp,rfl⟩
  |false=>
   rcases rn_vals r k with⟨p,hp,h1⟩|h1
   ·exact .inl ⟨p,by simp[hp],by simpa using h1⟩
   ·exact .inr (by simpa using h1)
theorem rn_inj:∀(L:List (Nat×Nat)),rnOk L=true→∀n m,rn L n=rn L m→n=m
 |[],_,n,m,h=>by simp[rn]at h;exact h
 |(a,b)::r,hL,n,m,h=>by
  have hL':=hL
  simp only[rnOk,Bool.and_eq_true,decide_eq_true_eq,List.all_eq_true]at hL
  have key:∀k,rn r k≠b:=by
   intro k hk
   rcases rn_vals r k with⟨p,hp,h1⟩|h1
   ·have:=hL.1.2 p hp
    simp at this
    exact this (by rw[←h1,hk])
   ·omega
  simp only[rn]at h
  cases hn:(a==n)with
  |true=>
   cases hm:(a==m)with
   |true=>simp at hn hm;omega
   |false=>rw[hn,hm]at h;simp at h;exact absurd h.symm (key m)
  |false=>
   cases hm:(a==m)with
   |true=>rw[hn,hm]at h;simp at h;exact absurd h (key n)
   |false=>rw[hn,hm]at h;simp at h;exact rn_inj r hL.2 n m h
def SubS:Mem→Mem→Prop
 |[],_=>True
 |(n,b)::r,M=>(∃b',M.get n=some b'∧Wk b b')∧SubS r M
theorem SubS.sub {M:Mem}:∀{M1:Mem},SubS M1 M→Sub M1 M
 |[],_,n,b,h=>by cases h
 |(k,c)::r,hs,n,b,h=>by
  rw[Mem.get_cons]at h
  split at h
  ·rename_i hk
   simp at h
   subst h hk
   exact hs.1
  ·exact SubS.sub hs.2 n b h
theorem Fresh.of {N M1 M:Mem}(h:N.all (fun p=>(M1.get p.1).isSome||(M.get p.1).isNone)=true):Fresh N M1 M:=by
 intro n hn
 obtain⟨b,hb⟩:=Option.isSome_iff_exists.1 hn
 have:=List.all_eq_true.1 h (n,b) (Mem.mem_of_get hb)
 simp at this
 rcases this with h|h
 ·exact .inl h
 ·exact .inr h
theorem ClM.ren {ρ:Nat→Nat}(hi:∀n m,ρ n=ρ m→n=m){M:Mem}(h:ClM M):ClM (M.ren ρ):=by
 intro β β' hag k b hb
 obtain⟨n,c,rfl,hn,rfl⟩:=Mem.ren_some' hi hb
 have:=h (fun n=>β (ρ n)) (fun n=>β' (ρ n)) (fun j hj=>by
  obtain⟨d,hd⟩:=Option.isSome_iff_exists.1 hj
  exact hag (ρ j) (by rw[Mem.ren_get hi,hd];rfl)) n c hn
 simp only[Bk.ren,Cv.ren_gs]
 exact this
section
variable {P:Program} {nt:Nat} {C:Cx} {todo r:List It} {e e0:Env} {M M0 Mf:Mem}
theorem CallQ.ren {f:FuncId}{vs:List (Option (Bool×V))}{g:Bool}{dst:Option Nat}{xs:List V}{v:V}{M1 N:Mem}(L:List (Nat×Nat))(nx:Nat)(hc:CallOk P f xs M1 v N)(hcl:ClM M1)(hL:rnOk L=true)(hvs:vs=(xs.map (V.ren (rn L))).map fun x=>some (true,x))
  (hs:SubS (M1.ren (rn L)) M) (hfr:(N.ren (rn L)).all (fun p=>((M1.ren (rn L)).get p.1).isSome||(M.get p.1).isNone)=true) (hg:g=true∨N=[]) (h:run P nt C 1000 todo (e.put dst g (v.ren (rn L))) (N.ren (rn L)++M) nx):CallQ P nt C f vs g dst todo e M:=
 .inl ⟨M1.ren (rn L),N.ren (rn L),v.ren (rn L),xs.map (V.ren (rn L)),fun _=>hvs,fun _=> .inl (.inl (hc.ren (rn_inj L hL))),hs.sub,hcl.ren (rn_inj L hL),Fresh.of hfr,hg.imp (fun h=>h) (fun h=>by rw[h];rfl),run_ok 1000 _ _ _ nx h⟩
theorem DCallQ.ren {id:Nat}{rg:Array Oper}{k:Nat}{T:List (Nat×Nat)}{i:Nat}{o:Oper}{l:List Oper}{f:FuncId}{vs:List (Option (Bool×V))}{g:Bool}{dst:Option Nat}{xs:List V}{v:V}{M1 N:Mem}(L:List (Nat×Nat))(nx:Nat)(hc:CallOk P f xs M1 v N)(hcl:ClM M1)(hL:rnOk L=true)(hvs:vs=(xs.map (V.ren (rn L))).map fun x=>some (true,x))
  (hs:SubS (M1.ren (rn L)) M0) (hfr:(N.ren (rn L)).all (fun p=>((M1.ren (rn L)).get p.1).isSome||(M0.get p.1).isNone)=true) (hg:g=true∨N=[]) (hf2:ownB (N.ren (rn L)) M0 M0 M=true) (hf3:touchB T o (N.ren (rn L))=true)
  (h:runD P nt C id rg r e0 M0 Mf k (kontW P nt C (.ops rg (rg.toList.drop k)::r)) (touchN (N.ren (rn L)) i T) (i+1) l (e.put dst g (v.ren (rn L))) (N.ren (rn L)++M) nx):DCallQ P nt C id rg r e0 M0 Mf k T i o f vs g dst l e M:=
 ⟨M1.ren (rn L),N.ren (rn L),M0,v.ren (rn L),xs.map (V.ren (rn L)),fun _=>hvs,fun _=> .inl (.inl (hc.ren (rn_inj L hL))),hs.sub,hcl.ren (rn_inj L hL),Fresh.of hfr,hg.imp (fun h=>h) (fun h=>by rw[h];rfl),⟨fun _ _ h=> .inl h,snoc_hf hf2 hf3⟩,DrS.go nx h⟩
end
def RenS (ρ:Nat→Nat)(M':Mem):List Nat→Mem→Prop
 |_,[]=>True
 |seen,(n,b)::r=>(n∈seen∨∃b',M'.get (ρ n)=some b'∧Wk (b.ren ρ) b')∧RenS ρ M' (n::seen) r
theorem RenS.sub {ρ:Nat→Nat}{M':Mem}:∀{M:Mem} {seen:List Nat},RenS ρ M' seen M→∀n b,n∉seen→M.get n=some b→∃b',M'.get (ρ n)=some b'∧Wk (b.ren ρ) b'
 |[],_,_,n,b,_,h=>by cases h
 |(k,c)::r,seen,hs,n,b,hns,h=>by
  rw[Mem.get_cons]at h
  split at h
  ·rename_i hk
   simp at h
   subst h hk
   rcases hs.1 with h|h
   ·exact absurd h hns
   ·exact h
  ·rename_i hk
   exact RenS.sub hs.2 n b (by simp only[List.mem_cons,not_or];exact⟨hk,hns⟩) h
theorem RenS.ok {L:List (Nat×Nat)}{M M':Mem}(hL:rnOk L=true)(h:RenS (rn L) M' [] M):RenOk (rn L) M M':=⟨fun n m _ _ hh=>rn_inj L hL n m hh,fun n b hb=>h.sub n b (by simp) hb⟩
def Pins (S:Bs)(M0:Mem):Prop:=∀n l,S.pin n=some l→(M0.get n).isSome=true
def pinS (ρ:Nat→Nat)(M:Mem):Mem→Prop
 |[]=>True
 |(n,_)::r=>(ρ n=n∧(M.get n).isSome=true)∧pinS ρ M r
theorem pinS.ok {ρ:Nat→Nat}{M:Mem}:∀{M0:Mem},pinS ρ M M0→∀n,(M0.get n).isSome=true→(M.get n).isSome=true∧ρ n=n
 |[],_,n,h=>by cases h
 |(k,c)::r,hs,n,h=>by
  rw[Mem.get_cons]at h
  split at h
  ·rename_i hk;subst hk;exact⟨hs.1.2,hs.1.1⟩
  ·exact pinS.ok hs.2 n h
def EnvLeR (ρ:Nat→Nat):Env→Env→Prop
 |[],_=>True
 |(t,x)::r,e'=>e'.get t=some (x.1,x.2.ren ρ)∧EnvLeR ρ r e'
theorem EnvLeR.ok {ρ:Nat→Nat}{e':Env}:∀{e:Env},EnvLeR ρ e e'→∀t y,e.get t=some y→e'.get t=some (y.1,y.2.ren ρ)
 |[],_,t,y,h=>by cases h
 |(k,x)::r,hle,t,y,h=>by
  simp only[Env.get]at h
  cases hk:(k==t)with
  |true=>
   rw[hk]at h
   have:k=t:=by simpa using hk
   subst this
   simp at h
   subst h
   exact hle.1
  |false=>
   rw[hk]at h
   exact EnvLeR.ok hle.2 t y h
theorem Wkn.ren {S:Bs}{e e':Env}{M M' M0:Mem}(L:List (Nat×Nat))(hP:Pins S M0)(hL:rnOk L=true)(hpin:pinS (rn L) M M0)(he:EnvLeR (rn L) e e')(hm:RenS (rn L) M' [] M)(hcm:ClM M)(hce:∀p∈e,ClV M p.2.2):Wkn S e M e' M':=by
 intro w0 β a w hrel hen
 refine⟨fun n=>β (rn L n),hrel.ren (hm.ok hL) hcm (fun n l hl=>hpin.ok n (hP n l hl)),fun β' hag t y hy=>?_⟩
 have h1:=hen β (Agree.refl _ _) t _ (he.ok t y hy)
 have h2:=hce (t,y) (Env.mem_of_get hy) _ β' hag
 simp only at h2
 rw[h1]
 unfold gv
 rw[V.ren_g,h2]
theorem RetQ.ren {P:Program}{C:Cx}{fn:Func}{v:V}{NM M0:Mem}{e:Env}{M:Mem}(L:List (Nat×Nat))(hR:RetOk P C fn v NM)(hP:Pins C.S M0){sc:Prop}{r:V}(hres:resE P e M fn.results.toList=some (sc,r))(hs:sc)(hL:rnOk L=true)(hv:r=v.ren (rn L))
  (hpin:pinS (rn L) NM M0) (hm:RenS (rn L) M [] NM) (hcm:ClM NM) (hcv:ClV NM v):RetQ C e M:=by
 intro β a w hrel hen hd
 refine hR.2.1 (fun n=>β (rn L n)) a w (r.g β) (hrel.ren (hm.ok hL) hcm (fun n l hl=>hpin.ok n (hP n l hl))) (fun β'' hag=>?_) hd (results_run hrel hen hres hs)
 rw[hv,V.ren_g]
 exact(hcv _ β'' hag).symm
theorem EnvOk.nil {β:Vl}{e:Env}{M:Mem}{a:Act}(h:EnvOk β M e a){nm:Nat}{b:Bk}(hn:M.get nm=none):EnvOk (fun k=>if k=nm then⟨0,0,0,true,none⟩else β k) ((nm,b)::M) e a:=fun β' hag t x hx=>by
 refine h β' (fun k hk=>?_) t x hx
 obtain⟨c,hc⟩:=Option.isSome_iff_exists.1 hk
 have hne:k≠nm:=by rintro rfl;rw[hn]at hc;cases hc
 rw[hag k (by rw[Mem.get_cons,if_neg hne];exact hk)]
 exact if_neg hne
theorem Sm.nilName {P:Program}{nt:Nat}{C:Cx}{todo:List It}{e:Env}{M:Mem}(t nm esz:Nat)(el:TypeId)(he:e.get t=some (true,.c (.v (.slice none 0 0))))(hn:M.get nm=none)
  (h:Sm P nt C todo ((t,true,.c (.sl nm 0 0 esz))::e) ((nm,⟨false,[],el⟩)::M)):Sm P nt C todo e M:=fun β a w h1 h2 h3 h4=>by
 refine h _ a w (h1.nil nm hn el) ?_ h3 h4
 intro β' hag t' x hx
 simp only[Env.get]at hx
 cases ht:(t==t')with
 |true=>
  rw[ht]at hx
  have:t=t':=by simpa using ht
  subst this
  simp at hx
  subst hx
  have hβ:=hag nm (by rw[Mem.get_cons];simp)
  have:=h2 β (Agree.refl _ _) t _ he
  rw[this]
  simp[gv,V.g,Cv.g,Loc.emp,hβ]
 |false=>
  rw[ht]at hx
  exact(h2.nil (b:=⟨false,[],el⟩) hn) β' hag t' x hx
theorem CallOk.mkN {P:Program}{f:FuncId}{fn:Func}{body:Code}{args:List V}{v:V}{M N:Mem}(nx:Nat)(hf:P.funcs[f]?=some fn)(hb:fn.body=some body)(hent:Enters P f)(hnt:args.length≤fn.ntmps)(hcl:∀x∈args,ClV M x)
  (hN:N.all (fun p=> !p.2.ro||(M.get p.1).isSome)=true) (hU:N.all (fun p=>match M.get p.1 with|some b=> !b.ro|none=>true)=true)
  (h:∀C,RetOk P C fn v (N++M)→Pins C.S M→run P fn.ntmps C 1000 [.code body] (initE 0 args) M nx):CallOk P f args M v N:=
 CallOk.intro hf hb hent hnt (fun n b h h0=>by have:=List.all_eq_true.1 hN (n,b) (Mem.mem_of_get h);simpa[h0]using this)
  (fun n b b' h h'=>by have:=List.all_eq_true.1 hU (n,b) (Mem.mem_of_get h);simp only[h']at this;simpa using this) hcl (fun C hR hP=>run_ok 1000 _ _ _ nx (h C hR hP))
attribute [go_sem] opY opZ capsE opX mxE mxG srcE bndE strE plS reps rn Mem.ren Bk.ren V.ren W.ren Cv.ren str dead
attribute [go_sem] Int.toNat_zero Int.toNat_one bne_self_eq_false Nat.zero_mul Nat.mul_one Nat.one_mul Int.cast_ofNat_Int Int.toNat_natCast
theorem vv {p q:Prop}(hq:q)(h:p=q:=by conv=>lhs;simp(maxSteps:=2000000) only[go_sem,Nat.reduceBEq,Nat.reduceAdd,Nat.reduceLT,Nat.reduceLeDiff,Nat.reduceEqDiff,reduceCtorEq,Int.reduceAdd,Int.reduceSub,Int.reduceNeg,Int.reduceLE,Int.reduceLT,Int.reduceToNat,Int.reduceBEq,Int.reduceBNe,Int.reduceEq,Int.reduceNe,Nat.reduceMul,Nat.reduceSub]):p:=h▸hq
theorem scc {p:Prop}(h:p:=by first|exact trivial|exact⟨rfl,trivial⟩|exact⟨rfl,rfl,trivial⟩|exact⟨rfl,rfl,rfl,trivial⟩|exact⟨rfl,rfl,rfl,rfl,trivial⟩):p:=h
theorem rvv {p:Prop}(h:p:=by first|rfl|(simp(maxSteps:=2000000) only[go_sem,Nat.reduceBEq,Nat.reduceAdd,Nat.reduceLT,Nat.reduceLeDiff,Nat.reduceEqDiff,reduceCtorEq,Int.reduceAdd,Int.reduceSub,Int.reduceNeg,Int.reduceLE,Int.reduceLT,Int.reduceToNat,Int.reduceBEq,Int.reduceBNe,Int.reduceEq,Int.reduceNe,Nat.reduceMul,Nat.reduceSub];rfl)|simp(maxSteps:=2000000) only[go_sem,Nat.reduceBEq,Nat.reduceAdd,Nat.reduceLT,Nat.reduceLeDiff,Nat.reduceEqDiff,reduceCtorEq,Int.reduceAdd,Int.reduceSub,Int.reduceNeg,Int.reduceLE,Int.reduceLT,Int.reduceToNat,Int.reduceBEq,Int.reduceBNe,Int.reduceEq,Int.reduceNe,Nat.reduceMul,Nat.reduceSub]):p:=h
theorem scv {p:Prop}(h:p:=by first|exact trivial|exact⟨rfl,trivial⟩|exact⟨rfl,rfl,trivial⟩|simp(maxSteps:=2000000) only[go_sem,Nat.reduceBEq,Nat.reduceAdd,Nat.reduceLT,Nat.reduceLeDiff,Nat.reduceEqDiff,reduceCtorEq,Int.reduceAdd,Int.reduceSub,Int.reduceNeg,Int.reduceLE,Int.reduceLT,Int.reduceToNat,Int.reduceBEq,Int.reduceBNe,Int.reduceEq,Int.reduceNe,Nat.reduceMul,Nat.reduceSub]):p:=h
theorem rvr {p:Prop}(h:p:=by simp(maxSteps:=2000000) only[go_sem,Nat.reduceBEq,Nat.reduceAdd,Nat.reduceLT,Nat.reduceLeDiff,Nat.reduceEqDiff,reduceCtorEq,Int.reduceAdd,Int.reduceSub,Int.reduceNeg,Int.reduceLE,Int.reduceLT,Int.reduceToNat,Int.reduceBEq,Int.reduceBNe,Int.reduceEq,Int.reduceNe,Nat.reduceMul,Nat.reduceSub]<;>rfl):p:=h
theorem oR {A:Prop}{o:Option Bk}{b:Bk}(h:o=some b:=by exact rfl):A∨∃b',o=some b'∧Wk b b':= .inr ⟨_,h,.inl rfl⟩
theorem oS {o:Option Bk}{b:Bk}(h:o=some b:=by exact rfl):∃b',o=some b'∧Wk b b':=⟨_,h,.inl rfl⟩
theorem oL {n:Nat}{l:List Nat}{B:Prop}(h:n∈l:=by simp):n∈l∨B:= .inl h
theorem oV {A:Prop}{o:Option Bk}{b b1:Bk}(hw:b=b1)(h:o=some b1:=by exact rfl):A∨∃b',o=some b'∧Wk b b':= .inr ⟨_,h,.inl hw⟩
theorem oW {o:Option Bk}{b b1:Bk}(hw:b=b1)(h:o=some b1:=by exact rfl):∃b',o=some b'∧Wk b b':=⟨_,h,.inl hw⟩
end Vg
namespace Vg
open Go.RowKit
def Cv.inM (M:Mem):Cv→Bool
 | .v _=>true
 | .p n _=>(M.get n).isSome
 | .sl n _ _ _=>(M.get n).isSome
 | .fn _ cs=>cs.all fun c=>(M.get c.1).isSome
 | .s0 n _=>(M.get n).isSome
def W.inM (M:Mem):W→Bool
 | .c x=>x.inM M
 | .agg xs=>xs.all (Cv.inM M)
def V.inM (M:Mem):V→Bool
 | .c x=>x.inM M
 | .agg xs=>xs.all (Cv.inM M)
 | .tup xs=>xs.all (W.inM M)
theorem Cv.inM_g {M:Mem}{x:Cv}(h:x.inM M=true){β β':Vl}(hag:Agree M β β'):x.g β'=x.g β:=by
 cases x with
 |v _=>rfl
 |p n off=>simp only[Cv.g,hag n h]
 |sl n off len esz=>simp only[Cv.g,hag n h]
 |s0 n off=>simp only[Cv.g,hag n h]
 |fn f cs=>
  simp only[Cv.g]
  congr 2
  refine List.map_congr_left fun c hc=>?_
  have:=List.all_eq_true.1 h c hc
  simp only[ptr,hag c.1 this]
theorem Cv.inM_gs {M:Mem}{xs:List Cv}(h:xs.all (Cv.inM M)=true){β β':Vl}(hag:Agree M β β'):xs.map (Cv.g β')=xs.map (Cv.g β):=
 List.map_congr_left fun x hx=>Cv.inM_g (List.all_eq_true.1 h x hx) hag
theorem ClV.of {M:Mem}{v:V}(h:v.inM M=true):ClV M v:=by
 intro β β' hag
 cases v with
 |c x=>exact Cv.inM_g h hag
 |agg xs=>simp only[V.g,Cv.inM_gs h hag]
 |tup xs=>
  simp only[V.g]
  congr 2
  refine List.map_congr_left fun x hx=>?_
  have:=List.all_eq_true.1 h x hx
  cases x with
  |c x=>exact Cv.inM_g this hag
  |agg xs=>simp only[W.g,Cv.inM_gs this hag]
theorem ClM.of {M:Mem}(h:M.all (fun p=>p.2.cells.all (Cv.inM M))=true):ClM M:=fun _ _ hag n b hb=>Cv.inM_gs (List.all_eq_true.1 h (n,b) (Mem.mem_of_get hb)) hag
theorem ClE.of {M:Mem}{e:Env}(h:e.all (fun p=>p.2.2.inM M)=true):∀p∈e,ClV M p.2.2:=fun p hp=>ClV.of (List.all_eq_true.1 h p hp)
def Met (S:Bs)(M0:Mem)(e:Env)(M:Mem)(e':Env)(M':Mem)(L:List (Nat×Nat)):Prop:=rnOk L=true∧pinS (rn L) M M0∧EnvLeR (rn L) e e'∧RenS (rn L) M' [] M
theorem Sm.loopM {P:Program}{nt:Nat}{C:Cx}{r:List It}{e:Env}{M M0:Mem}{α:Type}{b:Code}(hP:Pins C.S M0)(E:α→Env)(Mm:α→Mem)(m:α→Nat)(x0:α)(hM:∀x,ClM (Mm x))(hE:∀x,∀p∈E x,ClV (Mm x) p.2.2)
  (L0:List (Nat×Nat)) (h0:Met C.S M0 (E x0) (Mm x0) e M L0)
  (round:∀(x:α) (J:Act→World→Prop),(∀e' M' x' L,m x'<m x→Met C.S M0 (E x') (Mm x') e' M' L→Sm P nt C (.stop J::r) e' M')→Sm P nt C (.code b:: .stop J::r) (E x) (Mm x)):
  Sm P nt C (.code (.loop b)::r) e M:=
 have hw:∀x e' M' L,Met C.S M0 (E x) (Mm x) e' M' L→Wkn C.S (E x) (Mm x) e' M':=fun x _ _ L h=>Wkn.ren L hP h.1 h.2.1 h.2.2.1 h.2.2.2 (hM x) (hE x)
 Sm.loop E Mm m x0 (hw _ _ _ _ h0) fun x J hb=>round x J fun e' M' x' L hlt hmet=>hb e' M' ⟨x',hlt,hw _ _ _ _ hmet⟩
end Vg
namespace Vg
open Go.RowKit
def Cv.nn (nm esz:Nat):Cv→Cv
 | .v (.slice none 0 0)=> .sl nm 0 0 esz
 | .v x=> .v x
 | .p n o=> .p n o
 | .sl n o l z=> .sl n o l z
 | .fn f c=> .fn f c
 | .s0 n o=> .s0 n o
def W.nn (nm esz:Nat):W→W
 | .c x=> .c (x.nn nm esz)
 | .agg xs=> .agg (xs.map (Cv.nn nm esz))
def V.nn (nm esz:Nat):V→V
 | .c x=> .c (x.nn nm esz)
 | .agg xs=> .agg (xs.map (Cv.nn nm esz))
 | .tup xs=> .tup (xs.map (W.nn nm esz))
def Env.nn (nm esz:Nat)(q:List Nat)(e:Env):Env:=e.map fun p=>(p.1,p.2.1,bif q.contains p.1 then p.2.2.nn nm esz else p.2.2)
def Bk.nn (nm esz:Nat)(b:Bk):Bk:=⟨b.ro,b.cells.map (Cv.nn nm esz),b.elem⟩
def Mem.nn (nm esz:Nat)(k:List Nat)(M:Mem):Mem:=M.map fun p=>(p.1,bif k.contains p.1 then p.2.nn nm esz else p.2)
theorem Cv.nn_g {nm esz:Nat}{β:Vl}(h:(β nm).nul=true∧(β nm).odd=none)(x:Cv):(x.nn nm esz).g β=x.g β:=by
 unfold Cv.nn
 split<;>simp[Cv.g,Loc.emp,h.1,h.2]
theorem Cv.nn_gs {nm esz:Nat}{β:Vl}(h:(β nm).nul=true∧(β nm).odd=none)(xs:List Cv):(xs.map (Cv.nn nm esz)).map (Cv.g β)=xs.map (Cv.g β):=by
 rw[List.map_map];exact List.map_congr_left fun x _=>Cv.nn_g h x
theorem W.nn_g {nm esz:Nat}{β:Vl}(h:(β nm).nul=true∧(β nm).odd=none)(x:W):(x.nn nm esz).g β=x.g β:=by
 cases x with
 |c x=>exact Cv.nn_g h x
 |agg xs=>simp only[W.nn,W.g,Cv.nn_gs h]
theorem V.nn_g {nm esz:Nat}{β:Vl}(h:(β nm).nul=true∧(β nm).odd=none)(x:V):(x.nn nm esz).g β=x.g β:=by
 cases x with
 |c x=>exact Cv.nn_g h x
 |agg xs=>simp only[V.nn,V.g,Cv.nn_gs h]
 |tup xs=>
  simp only[V.nn,V.g,List.map_map]
  rw[List.map_congr_left fun x _=>(show(W.g β ∘ W.nn nm esz) x=W.g β x from W.nn_g h x)]
theorem Mem.nn_get (nm esz:Nat)(q:List Nat):∀(M:Mem) (n:Nat),(M.nn nm esz q).get n=(M.get n).map fun b=>bif q.contains n then b.nn nm esz else b
 |[],n=>rfl
 |(k,b)::M,n=>by
  simp only[Mem.nn,List.map_cons,Mem.get]
  cases h:(k==n)with
  |true=>
   have:k=n:=by simpa using h
   subst this;rfl
  |false=>exact Mem.nn_get nm esz q M n
theorem Env.nn_get (nm esz:Nat)(q:List Nat):∀(e:Env) (t:Nat),(e.nn nm esz q).get t=(e.get t).map fun y=>(y.1,bif q.contains t then y.2.nn nm esz else y.2)
 |[],t=>rfl
 |(k,y)::e,t=>by
  simp only[Env.nn,List.map_cons,Env.get]
  cases h:(k==t)with
  |true=>
   have:k=t:=by simpa using h
   subst this;rfl
  |false=>exact Env.nn_get nm esz q e t
theorem BkOk.nn {nm esz:Nat}{β:Vl}(h:(β nm).nul=true∧(β nm).odd=none){n:Nat}{b:Bk}{w:World}(hb:BkOk β n b w):BkOk β n (b.nn nm esz) w:=by
 unfold BkOk at*
 simp only[Bk.nn,Cv.nn_gs h,List.length_map,List.map_eq_nil_iff]
 exact hb
theorem Rel.nn {S:Bs}{w0 w:World}{β:Vl}{M:Mem}(h:Rel S w0 β M w){nm:Nat}(esz:Nat)(q:List Nat)(hn:(M.get nm).isSome=true)(hu:(β nm).nul=true∧(β nm).odd=none):Rel S w0 β (M.nn nm esz q) w:=by
 have hg:∀n b',(M.nn nm esz q).get n=some b'→∃b,M.get n=some b∧b'=bif q.contains n then b.nn nm esz else b:=fun n b' hb=>by
  rw[Mem.nn_get]at hb
  cases hm:M.get n with
  |none=>rw[hm]at hb;cases hb
  |some b=>rw[hm]at hb;exact⟨b,rfl,(Option.some.inj hb).symm⟩
 have hs:∀n,((M.nn nm esz q).get n).isSome=(M.get n).isSome:=fun n=>by rw[Mem.nn_get];cases M.get n<;>rfl
 have hro:∀(c:Bool) (b:Bk),(bif c then b.nn nm esz else b).ro=b.ro:=fun c b=>by cases c<;>rfl
 refine⟨h.fr,⟨fun β' hag n b' hb=>?_,fun n b' hb hl=>?_,fun n m b b' hb hb' hne hr hl hu1 hu2=>?_⟩,fun n b' hb hr hl hS=>?_,fun n l hl=>?_⟩
 ·obtain⟨b,hb2,rfl⟩:=hg n b' hb
  have hag':Agree M β β':=fun k hk=>hag k (by rw[hs];exact hk)
  have h0:=h.mem.ok β' hag' n b hb2
  cases q.contains n with
  |true=>exact BkOk.nn (by rw[hag' nm hn];exact hu) h0
  |false=>exact h0
 ·obtain⟨b,hb2,rfl⟩:=hg n b' hb
  exact h.mem.there n b hb2 hl
 ·obtain⟨c,hc,rfl⟩:=hg n b hb
  obtain⟨c',hc',rfl⟩:=hg m b' hb'
  rw[hro]at hr
  refine h.mem.apart n m c c' hc hc' hne hr ?_ hu1 hu2
  rcases hl with hl|hl
  ·rw[hro]at hl;exact .inl hl
  ·refine .inr fun he=>hl ?_
   cases q.contains m with
   |true=>simp[Bk.nn,he]
   |false=>exact he
 ·obtain⟨b,hb2,rfl⟩:=hg n b' hb
  rw[hro]at hr
  exact h.own n b hb2 hr hl hS
 ·have:=h.pin n l hl
  exact⟨by rw[hs];exact this.1,this.2⟩
theorem EnvOk.nn {β:Vl}{M:Mem}{e:Env}{a:Act}(h:EnvOk β M e a){nm:Nat}(esz:Nat)(q k:List Nat)(hn:(M.get nm).isSome=true)(hu:(β nm).nul=true∧(β nm).odd=none):EnvOk β (M.nn nm esz k) (e.nn nm esz q) a:=fun β' hag t x hx=>by
 have hs:∀n,((M.nn nm esz k).get n).isSome=(M.get n).isSome:=fun n=>by rw[Mem.nn_get];cases M.get n<;>rfl
 have hag':Agree M β β':=fun k hk=>hag k (by rw[hs];exact hk)
 rw[Env.nn_get]at hx
 cases he:e.get t with
 |none=>rw[he]at hx;cases hx
 |some y=>
  rw[he]at hx
  have:=Option.some.inj hx
  subst this
  rw[h β' hag' t y he]
  unfold gv
  cases q.contains t with
  |true=>
   show(bif y.1 then V.g β' y.2 else undef)=bif y.1 then V.g β' (y.2.nn nm esz)else undef
   rw[V.nn_g (by rw[hag' nm hn];exact hu)]
  |false=>rfl
theorem Sm.nils {P:Program}{nt:Nat}{C:Cx}{todo:List It}{e:Env}{M:Mem}(nm esz:Nat)(el:TypeId)(q k:List Nat)(hn:M.get nm=none)
  (h:Sm P nt C todo (e.nn nm esz q) (Mem.nn nm esz k ((nm,⟨false,[],el⟩)::M))):Sm P nt C todo e M:=fun β a w h1 h2 h3 h4=>by
 have r:=(h1.nil nm hn el).nn (nm:=nm) esz k (by rw[Mem.get_cons,if_pos rfl];rfl) (by simp)
 exact h _ a w r ((h2.nil (b:=⟨false,[],el⟩) hn).nn (nm:=nm) esz q k (by rw[Mem.get_cons,if_pos rfl];rfl) (by simp)) h3 h4
theorem RetQ.nils {C:Cx}{e:Env}{M:Mem}(nm esz:Nat)(el:TypeId)(q k:List Nat)(hn:M.get nm=none)
  (h:RetQ C (e.nn nm esz q) (Mem.nn nm esz k ((nm,⟨false,[],el⟩)::M))):RetQ C e M:=fun β a w h1 h2 h4=>by
 have r:=(h1.nil nm hn el).nn (nm:=nm) esz k (by rw[Mem.get_cons,if_pos rfl];rfl) (by simp)
 exact h _ a w r ((h2.nil (b:=⟨false,[],el⟩) hn).nn (nm:=nm) esz q k (by rw[Mem.get_cons,if_pos rfl];rfl) (by simp)) h4
theorem Sm.cutm {P:Program}{nt:Nat}{C:Cx}{todo:List It}{e:Env}{M M0:Mem}(hP:Pins C.S M0)(E:Env)(Mm:Mem)(L:List (Nat×Nat))(h0:Met C.S M0 E Mm e M L)(hM:ClM Mm)(hE:∀p∈E,ClV Mm p.2.2)(h:Sm P nt C todo E Mm):Sm P nt C todo e M:=
 Sm.wkn (Wkn.ren L hP h0.1 h0.2.1 h0.2.2.1 h0.2.2.2 hM hE) h
attribute [go_sem] Cv.nn W.nn V.nn Env.nn Bk.nn Mem.nn List.contains_cons List.contains_nil
end Vg
namespace Vg
open Go.RowKit
def touchA (rg:Array Oper)(i:Nat)(T:List (Nat×Nat))(o:Oper)(N:Mem):Bool:=N.all fun p=>T.all fun q=> !(q.1==p.1||q.1==p.1+1000000)||ancB rg i 20 q.2 o
end Vg
namespace Vg
open Go.RowKit
set_option linter.unusedSimpArgs false
set_option linter.unusedVariables false
set_option maxRecDepth 100000
theorem Rel.mark {S:Bs}{w0 w w':World}{β:Vl}{M:Mem}(h:Rel S w0 β M w){n nm:Nat}{b:Bk}(hb:M.get n=some b)(hr:b.ro=false)(hnu:(β n).nul=false)(hn:M.get nm=none)
  (hos:w'.os=w.os) (htp:w'.tape=w.tape) (hou:w'.output=w.output) (hsz:w'.heap.size=w.heap.size) (hcell:∀a,w'.cell? a=w.cell? a) (hoth:∀k,k≠(β n).blk→w'.heap[k]?=w.heap[k]?):
  Rel S w0 (fun k=>if k=nm then β n else β k) ((nm,⟨true,b.cells,b.elem⟩)::(n,dead b.elem)::M) w':=by
 have hne:∀k b,M.get k=some b→k≠nm:=by rintro k b hk rfl;rw[hn]at hk;cases hk
 have hnn:n≠nm:=hne n b hb
 have hget:∀k,Mem.get ((nm,⟨true,b.cells,b.elem⟩)::(n,dead b.elem)::M) k=if k=nm then some ⟨true,b.cells,b.elem⟩else if k=n then some (dead b.elem)else M.get k:=fun k=>by rw[Mem.get_cons,Mem.get_cons]
 refine⟨⟨hos.trans h.fr.os,htp.trans h.fr.tape,hou.trans h.fr.output,by rw[hsz];exact h.fr.size,fun k hS hk=>?_⟩,⟨fun β' hag k c hc=>?_,fun k c hc hu=>?_,fun k m c c' hc hc' hkm hro hlv hu hu'=>?_⟩,fun k c hc hro hu hS=>?_,fun k l hl=>?_⟩
 ·rw[hoth k ?_]
  ·exact h.fr.old k hS hk
  ·rintro rfl
   have:=h.own n b hb hr hnu hS
   omega
 ·have hag0:Agree M β β':=fun j hj=>by
   obtain⟨x,hx⟩:=Option.isSome_iff_exists.1 hj
   rw[hag j (by rw[hget];split<;>(try split)<;>simp_all)]
   exact if_neg (hne j x hx)
  rw[hget]at hc
  split at hc
  ·rename_i hk
   subst hk
   simp at hc
   subst hc
   have hl:β' k=β n:=by have:=hag k (by rw[hget];simp);simpa using this
   have hbo:=h.mem.ok β' hag0 n b hb
   have hβ:=hag0 n (by simp[hb])
   unfold BkOk
   rw[if_neg (by simp[hl,hnu]),if_pos (by simp),hl,←hβ]
   exact⟨fun j v hj=>by rw[hcell];exact hbo.range j v hj,hbo.siz⟩
  ·split at hc
   ·simp at hc;subst hc;exact BkOk.dead
   ·rename_i hk hkn
    have hold:=h.mem.ok β' hag0 k c hc
    have hβ:=hag0 k (by simp[hc])
    cases hu:(β k).nul with
    |true=>
     unfold BkOk at hold⊢
     rw[if_pos (by rw[hβ];exact hu)]at hold⊢
     exact hold
    |false=>
     by_cases hlv:c.lv
     ·refine hold.same (hoth _ ?_)
      rw[hβ]
      exact fun hh=>h.mem.apart n k b c hb hc (fun hh'=>hkn hh'.symm) hr hlv hnu hu hh.symm
     ·unfold Bk.lv at hlv
      simp only[not_or,Bool.not_eq_false,ne_eq,Classical.not_not]at hlv
      unfold BkOk
      rw[if_neg (by rw[hβ];simp[hu]),if_pos hlv.1,hlv.2]
      exact⟨fun j v hj=>by simp at hj,by simp⟩
 ·rw[hsz]
  rw[hget]at hc
  split at hc
  ·rename_i hk;simp only[if_pos hk];exact h.mem.there n b hb hnu
  ·rename_i hk
   simp only[if_neg hk]at hu⊢
   split at hc
   ·rename_i hkn;subst hkn;exact h.mem.there k b hb hu
   ·exact h.mem.there k c hc hu
 ·rw[hget]at hc hc'
  split at hc
  ·simp at hc;subst hc;cases hro
  ·rename_i hk
   split at hc
   ·simp at hc;subst hc;cases hro
   ·rename_i hkn
    simp only[if_neg hk]at hu⊢
    split at hc'
    ·rename_i hk'
     simp only[if_pos hk']
     exact h.mem.apart k n c b hc hb hkn hro (.inl hr) hu hnu
    ·rename_i hk'
     split at hc'
     ·simp at hc';subst hc';exact absurd hlv (dead_lv _)
     ·simp only[if_neg hk']at hu'⊢
      exact h.mem.apart k m c c' hc hc' hkm hro hlv hu hu'
 ·rw[hget]at hc
  split at hc
  ·simp at hc;subst hc;cases hro
  ·rename_i hk
   simp only[if_neg hk]at hS hu⊢
   split at hc
   ·simp at hc;subst hc;cases hro
   ·exact h.own k c hc hro hu hS
 ·obtain⟨p1,p2⟩:=h.pin k l hl
  have hkn:k≠nm:=by rintro rfl;rw[hn]at p1;cases p1
  refine⟨?_,by simp only[if_neg hkn];exact p2⟩
  rw[hget,if_neg hkn]
  split
  ·rfl
  ·exact p1
theorem cell?_freeze (w:World)(b:Addr)(n:Nat)(a:Addr):(w.freeze b n).cell? a=w.cell? a:=by
 unfold World.freeze
 split
 ·rfl
 ·unfold World.cell?
  simp only[Array.getElem?_modify]
  by_cases hk:b.block=a.block
  ·rw[if_pos hk]
   cases w.heap[a.block]? with
   |none=>rfl
   |some o=>cases o<;>rfl
  ·rw[if_neg hk]
end Vg
namespace Vg
open Go.RowKit
theorem Sm.fall {P:Program}{nt:Nat}{C:Cx}{fn:Func}{v:V}{NM:Mem}{e:Env}{M:Mem}(hR:RetOk P C fn v NM)(h:RetQ C e M):Sm P nt C [] e M:=fun β a w h1 h2 _ h4=>hR.2.2 a w (h β a w h1 h2 h4)
theorem DOpQ.own {P:Program}{nt:Nat}{C:Cx}{id:Nat}{rg:Array Oper}{r:List It}{e0 e:Env}{M0 Mf M:Mem}{k:Nat}{T:List (Nat×Nat)}{i:Nat}{o:Oper}{g:Bool}{l:List Oper}{v:V}(nx:Nat)(hs:Stp P o e M0 v [])
  (h:runD P nt C id rg r e0 M0 Mf k (kontW P nt C (.ops rg (rg.toList.drop k)::r)) T (i+1) l (e.put o.dst g v) M nx):DOpQ P nt C id rg r e0 M0 Mf k T i o g l e M:=
 Or.inl ⟨[],M0,v,fun _=>hs.toC,.inr rfl,⟨fun _ _ h=> .inl h,fun _ h=>(by cases h)⟩,DrS.go nx h⟩
def ptOf (P:Program)(t:TypeId):Option TypeId:=
 match P.underlying t with
 |some (.pointer el)=>if (P.info? el).isSome then some el else none
 |_=>none
def upOf (P:Program)(t:TypeId):Bool:=
 match P.underlying t with
 |some .unsafePointer=>true
 |_=>false
theorem ptOf_ok {P:Program}{t el:TypeId}(h:ptOf P t=some el):P.underlying t=some (.pointer el)∧∃j,P.info? el=some j:=by
 unfold ptOf at h
 split at h
 ·rename_i el' hu
  split at h
  ·rename_i hs
   cases h
   exact⟨hu,Option.isSome_iff_exists.1 hs⟩
  ·cases h
 ·cases h
theorem upOf_ok {P:Program}{t:TypeId}(h:upOf P t=true):P.underlying t=some .unsafePointer:=by
 unfold upOf at h
 split at h
 ·assumption
 ·cases h
theorem Stp.ptrNil {P:Program}{o:Oper}{e:Env}{M:Mem}{t1 t2 el:TypeId}{x y:Operand}(ho:o.op= .binOp .eql t1 x y t2)(hx:rd e x=some (true,.c (.v (.pointer none))))(hy:rd e y=some (true,.c (.v (.pointer none))))(ht:ptOf P t1=some el):Stp P o e M (.c (.v (.bool true))) []:=by
 obtain⟨hp,j,hj⟩:=ptOf_ok ht
 refine Stp.pure fun β a hop w=>?_
 have hex:=hop x (by simp[ho,Op.operands]) _ hx
 have hey:=hop y (by simp[ho,Op.operands]) _ hy
 simp only[gv,V.g,Cv.g,cond_true]at hex hey
 unfold execOp
 simp only[ho,hex,hey]
 have h:∀d:Nat,(Op.equalIn (d+1) t1 (.pointer none) (.pointer none)).run P w= .ok true w:=fun d=>by simp[Op.equalIn,run_underlying hp]
 simp[eqGuard,binOp,Op.equal,Op.maxDepth,h 9999,V.g,Cv.g]
theorem Stp.ptrNil' {P:Program}{o:Oper}{e:Env}{M:Mem}{t1 t2 el:TypeId}{x y:Operand}{n off:Nat}(ho:o.op= .binOp .eql t1 x y t2)(hx:rd e x=some (true,.c (.p n off)))(hy:rd e y=some (true,.c (.v (.pointer none))))(ht:ptOf P t1=some el):Stp P o e M (.c (.v (.bool false))) []:=by
 obtain⟨hp,j,hj⟩:=ptOf_ok ht
 refine Stp.pure fun β a hop w=>?_
 have hex:=hop x (by simp[ho,Op.operands]) _ hx
 have hey:=hop y (by simp[ho,Op.operands]) _ hy
 simp only[gv,V.g,Cv.g,cond_true]at hex hey
 unfold execOp
 simp only[ho,hex,hey]
 have h:∀(d:Nat) (q:Addr),(Op.equalIn (d+1) t1 (.pointer (some q)) (.pointer none)).run P w= .ok false w:=fun d q=>by simp[Op.equalIn,run_underlying hp]
 simp[eqGuard,binOp,Op.equal,Op.maxDepth,h 9999,V.g,Cv.g]
theorem Stp.ptrSame {P:Program}{o:Oper}{e:Env}{M:Mem}{t1 t2 el:TypeId}{x y:Operand}{n off:Nat}(ho:o.op= .binOp .neq t1 x y t2)(hx:rd e x=some (true,.c (.p n off)))(hy:rd e y=some (true,.c (.p n off)))(ht:ptOf P t1=some el):Stp P o e M (.c (.v (.bool false))) []:=by
 obtain⟨hp,j,hj⟩:=ptOf_ok ht
 refine Stp.pure fun β a hop w=>?_
 have hex:=hop x (by simp[ho,Op.operands]) _ hx
 have hey:=hop y (by simp[ho,Op.operands]) _ hy
 simp only[gv,V.g,Cv.g,cond_true]at hex hey
 unfold execOp
 simp only[ho,hex,hey]
 have h:=Lib.run_neq_ptr_same (P:=P) w (⟨(β n).blk,(β n).org+off,none⟩:Addr) hp hj
 simp[eqGuard,h,V.g,Cv.g]
theorem Rel.rw{S:Bs}{w0 w:World}{β:Vl}{M M':Mem}(h:Rel S w0 β M' w)(hsub:Sub M M'){n:Nat}{b:Bk}(hb:M.get n=some b)(hr:b.ro=false)(hc:b.cells≠[]):
  M'.get n=some b∧(β n).nul=false∧(β n).org=0∧∃junk:List Value,w.heap[(β n).blk]?=some (.cells (b.cells.map (Cv.g β)++junk).toArray b.elem (0,0))∧(β n).siz=b.cells.length+junk.length:=by
 obtain⟨b',hb',hwk⟩:=hsub n b hb
 obtain rfl:b=b':=by rcases hwk with h|h;exact h;rw[hr]at h;exact absurd h.1 (by simp)
 have hbo:=h.mem.ok β (Agree.refl _ _) n b hb'
 have hnu:(β n).nul=false:=by
  cases h:(β n).nul with
  |false=>rfl
  |true=>exact absurd (hbo.nul_cells h) hc
 have:=hbo
 unfold BkOk at this
 rw[if_neg (by simp[hnu]),if_neg (by simp[hr])]at this
 exact⟨hb',hnu,this⟩
theorem Stp.toUns {P:Program}{o:Oper}{e:Env}{M:Mem}{src dst el:TypeId}{x:Operand}{n:Nat}{b:Bk}(ho:o.op= .convert src dst x)(hx:rd e x=some (true,.c (.p n 0)))(hb:M.get n=some b)(hr:b.ro=false)(hc:b.cells≠[])
  (hs:ptOf P src=some el) (hd:upOf P dst=true) (hz:szOf P el≠0):Stp P o e M (.c (.p n 0)) []:=by
 obtain⟨hp,j,hj⟩:=ptOf_ok hs
 refine Stp.read fun S w0 β M' a w hsub hrel hop=>?_
 obtain⟨_,hnu,ho0,junk,hh,_⟩:=hrel.rw hsub hb hr hc
 have hex:=hop x (by simp[ho,Op.operands]) _ hx
 simp only[gv,V.g,Cv.g,cond_true]at hex
 unfold execOp
 simp only[ho,hex]
 have hsh:w.shape? (β n).blk=some (b.elem,(b.cells.map (Cv.g β)++junk).toArray.size):=by unfold World.shape?;rw[hh]
 have h:=Lib.run_to_unsafe (P:=P) w ⟨(β n).blk,(β n).org+0,none⟩ hp (upOf_ok hd) hj (by rw[szOf_info hj]at hz;exact hz) hsh (by
  have:0<b.cells.length:=List.length_pos_iff.2 hc
  simp[ho0];omega)
 rw[Sem.run_bind,h]
 rfl
theorem liesAt_own {P:Program}{e:TypeId}{k:Nat}(hk:1≤k)(hd:P.depth≠0)(hc:P.cellsOf e≠0)(hs:sameLayout P P.depth e e=true):liesAt P P.depth e k 0 e 1=true:=by
 obtain⟨d,hd⟩:=Nat.exists_eq_succ_of_ne_zero hd
 have:rowAt P (sameLayout P P.depth · e) P.depth e k 0 1=true:=by
  rw[hd]at hs⊢
  unfold rowAt
  rw[if_neg hc]
  simp[hs,hk]
 rw[hd]
 unfold liesAt
 simp[this]
theorem Stp.ofUns {P:Program}{o:Oper}{e:Env}{M:Mem}{src dst el:TypeId}{x:Operand}{n:Nat}{b:Bk}(ho:o.op= .convert src dst x)(hx:rd e x=some (true,.c (.p n 0)))(hb:M.get n=some b)(hr:b.ro=false)(hc:P.cellsOf el≤b.cells.length)
  (hs:upOf P src=true) (hd:ptOf P dst=some el) (he:b.elem=el) (hdp:P.depth≠0) (hce:P.cellsOf el≠0) (hsl:sameLayout P P.depth el el=true):Stp P o e M (.c (.p n 0)) []:=by
 obtain⟨hp,j,hj⟩:=ptOf_ok hd
 refine Stp.read fun S w0 β M' a w hsub hrel hop=>?_
 have hc0:b.cells≠[]:=fun h=>by rw[h]at hc;simp at hc;exact hce hc
 obtain⟨_,hnu,ho0,junk,hh,_⟩:=hrel.rw hsub hb hr hc0
 have hex:=hop x (by simp[ho,Op.operands]) _ hx
 simp only[gv,V.g,Cv.g,cond_true]at hex
 unfold execOp
 simp only[ho,hex]
 have hsh:w.shape? (β n).blk=some (b.elem,(b.cells.map (Cv.g β)++junk).toArray.size):=by unfold World.shape?;rw[hh]
 have h:=Lib.run_from_unsafe (P:=P) w ⟨(β n).blk,(β n).org+0,none⟩ (upOf_ok hs) hp hj hsh (by
  subst he
  rw[ho0]
  refine liesAt_own ?_ hdp hce hsl
  refine(Nat.le_div_iff_mul_le (by omega)).2 ?_
  simp;omega)
 rw[Sem.run_bind,h]
 rfl
theorem Stp.sliceData {P:Program}{o:Oper}{e:Env}{M:Mem}{x:Operand}{tys:Array TypeId}{n off len esz:Nat}{b:Bk}(ho:o.op= .call {callee:= .builtin .unsafeSliceData,args:= #[x],argTypes:=tys})(hx:rd e x=some (true,.c (.sl n off len esz)))(hb:M.get n=some b)(hez:esz≠0)(hc:off+esz≤b.cells.length):
  Stp P o e M (.c (.p n off)) []:=by
 refine Stp.read fun S w0 β M' a w hsub hrel hop=>?_
 have hex:=hop x (by simp[ho,Op.operands,Call.operands]) _ hx
 obtain⟨hs1,hs2⟩:=hrel.siz hsub hb
 have hnu:(β n).nul=false:=by
  cases h:(β n).nul with
  |false=>rfl
  |true=>have:=hs2 h;rw[this]at hc;simp at hc;omega
 simp only[gv,V.g,cond_true]at hex
 have hex':a.eval x= .slice (some ⟨(β n).blk,(β n).org+off,none⟩) len (((β n).siz-off)/esz):=by rw[hex];simp[Cv.g,hnu]
 have hne:((β n).siz-off)/esz≠0:=by
  have:=Nat.div_pos (show esz≤(β n).siz-off by omega) (by omega)
  omega
 have h:=Lib.run_unsafeSliceData_row (P:=P) (w:=w) tys o.type ⟨(β n).blk,(β n).org+off,none⟩ len _ hne
 unfold execOp
 simp only[ho,resolve,invoke,builtin,Sem.run_bind,Sem.run_pure,Result.andThen_ok,List.map_toArray,List.map_cons,List.map_nil,hex',h]
 rfl
theorem Stp.unsString {P:Program}{o:Oper}{e:Env}{M:Mem}(nm:Nat){x y:Operand}{pt it el:TypeId}{n:Nat}{b:Bk}(l:List UInt8)(ho:o.op= .call {callee:= .builtin .unsafeString,args:= #[x,y],argTypes:= #[pt,it]})(hx:rd e x=some (true,.c (.p n 0)))(hy:rd e y=some (true,.c (.v (.int .i64 l.length))))
  (hb:M.get n=some b) (hr:b.ro=false) (h0:l≠[]) (hl:b.cells=l.map bycell) (h63:l.length≤9223372036854775807) (hp:ptOf P pt=some el) (he:b.elem=el) (hce:P.cellsOf el=1) (hn:M.get nm=none):
  Stp P o e M (.c (.v (str l))) [(nm,⟨true,b.cells,b.elem⟩),(n,dead b.elem)]:=by
 intro S w0 β M' a w hsub hfr hrel hok K Q hkk
 have hc:b.cells≠[]:=by rw[hl];simpa using h0
 obtain⟨hb',hnu,ho0,junk,hh,hz⟩:=hrel.rw hsub hb hr hc
 have hn':M'.get nm=none:=by
  rcases hfr nm (by simp[Mem.get])with h|h
  ·rw[hn]at h;cases h
  ·exact h
 obtain⟨hpu,j,hj⟩:=ptOf_ok hp
 have hex:=hok β (Agree.refl _ _) x (by simp[ho,Op.operands,Call.operands]) _ hx
 have hey:=hok β (Agree.refl _ _) y (by simp[ho,Op.operands,Call.operands]) _ hy
 simp only[gv,V.g,Cv.g,cond_true,ho0,Nat.zero_add]at hex hey
 have hsh:w.shape? (β n).blk=some (el,(b.cells.map (Cv.g β)++junk).toArray.size):=by unfold World.shape?;rw[hh,he]
 have hsz:l.length≤(b.cells.map (Cv.g β)++junk).toArray.size:=by simp[hl]
 have hcell:∀j x,l[j]?=some x→w.cell? ((⟨(β n).blk,0,none⟩:Addr).add j)=some (.int .u8 x.toNat):=fun j x hjx=>by
  have hr:=hrel.range hsub hb
  have:=hr j (.int .u8 x.toNat) (by simp[hl,hjx,bycell,Cv.g])
  rw[ho0]at this
  by_cases hj:j=0
  ·subst hj;simpa[Addr.add]using this
  ·simpa[Addr.add,hj]using this
 have hrun:=Lib.run_unsafeString_row (P:=P) w pt it o.type el hpu hce (β n).blk _ hsh l h0 hsz h63 hcell
 let w':=w.freeze ⟨(β n).blk,0,none⟩ l.length
 unfold Oper.wp execOp
 simp only[ho,resolve,invoke,builtin,Sem.run_bind,Sem.run_pure,Result.andThen_ok,List.map_toArray,List.map_cons,List.map_nil,hex,hey,hrun]
 have hl0:l.length≠0:=by simpa using h0
 have hmark:=hrel.mark (w':=w') hb' hr hnu hn' (by simp[w',World.freeze];split<;>rfl) (by simp[w',World.freeze];split<;>rfl) (by simp[w',World.freeze];split<;>rfl) (by simp[w',World.freeze];split<;>simp) (fun a=>cell?_freeze w _ _ a) (fun k hk=>by
  simp only[w',World.freeze]
  rw[if_neg hl0]
  simp only[Array.getElem?_modify]
  rw[if_neg (fun hh=>hk hh.symm)])
 exact hkk _ _ w' (fun j hj=>if_neg (fun hh=>by rw[hh,hn']at hj;cases hj)) hmark (fun β'' _=>rfl)
theorem noEscape {P:Program}{f:FuncId}{fn:Func}(hf:P.funcs[f]?=some fn)(h1:(fn.name== "runtime.NumGoroutine")=false)(h2:fn.body.isNone=true)(h3:Extern.findNext fn=none)(h4:Extern.find fn=some Extern.AbiNoEscape.same)(n off:Nat):ExtOk P f [.c (.p n off)] (.c (.p n off)):=fun β w=>by
 have h:=run_callFunc_extern (P:=P) hf h1 h2 h3 h4 #[(Cv.p n off).g β] w
 rw[Lib.run_noEscape]at h
 exact h
end Vg
namespace Vg
open Go.RowKit
abbrev Gs:=List (Nat×List Value)
def GlW (gs:Gs)(w:World):Prop:=∀g cs,(g,cs)∈gs→∃el mk,w.heap[g]?=some (.cells cs.toArray el mk)
theorem GlW.var {gs:Gs}{w:World}{P:Program}{nm:String}(h:GlW gs w){g:Nat}{cs:List Value}(hm:(g,cs)∈gs)(hg:P.globalNamed nm=some g):w.var? P nm=some cs.toArray:=by
 obtain⟨el,mk,hb⟩:=h g cs hm
 simp[World.var?,hg,hb]
theorem GlW.of_var {w:World}{P:Program}{nm:String}{g:Nat}{cs:List Value}(hg:P.globalNamed nm=some g)(h:w.var? P nm=some cs.toArray):∃el mk,w.heap[g]?=some (.cells cs.toArray el mk):=by
 simp only[World.var?,hg,Option.bind_some]at h
 split at h
 ·rename_i cs' el mk hb
  simp only[Option.some.injEq]at h
  subst h
  exact⟨el,mk,hb⟩
 ·cases h
theorem Sm.opC {P:Program}{nt:Nat}{C:Cx}{rg:Array Oper}{o:Oper}{l:List Oper}{r:List It}{e:Env}{M:Mem}{g:Bool}{v:V}{N:Mem}(nx:Nat)(hg:gd rg e o=some g)(hd:dstOk nt o.dst=true)
  (hN:g=true∨N=[]) (hs:g=true→StpC P C.S C.w0 o e M v N) (hr:run P nt C 1000 (.ops rg l::r) (e.put o.dst g v) (N++M) nx):Sm P nt C (.ops rg (o::l)::r) e M:=fun β a w h1 h2 h3 h4=>by
 have hr:=run_ok 1000 _ _ _ nx hr
 have hd:=dstOk_lt hd
 have hw:Region.wanted o (yielded rg a.tmps)=g:=gd_ok (β:=β) hg (fun j want t y _ _ hy=>h2 β (Agree.refl _ _) t y hy)
 show wpListIn (fen C.lp) 0 P rg (cont P C.lp C.Q r) (o::l) a w
 refine wpListIn_step fun K hK=>?_
 rw[hw]
 cases g with
 |true=>
  simp only[if_true]
  refine Oper.wp_in C.lp (gd_nd hg).1 ?_
  refine hs rfl β M a w (Sub.refl _) (Fresh.same _ _) h1 (fun β' hb x _ y hy=>rd_ok h2 hb hy) K _ ?_
  intro β' u w' hag hrel hu
  refine hK _ _ (hr β' _ w' hrel ?_ ?_ ?_)
  ·exact h2.put hag h3 hd (fun β'' hb=>by rw[hu β'' hb];rfl)
  ·cases o.dst<;>simp[Act.put,h3]
  ·cases o.dst<;>simp[Act.put,h4]
 |false=>
  simp only[Bool.false_eq_true,if_false]
  obtain rfl:N=[]:=by rcases hN with hN|hN;exact absurd hN (by simp);exact hN
  refine⟨fun f _=>fen_fn _ f,?_⟩
  refine hK _ _ (hr β _ w h1 ?_ ?_ ?_)
  ·exact h2.put (N:=[]) (Agree.refl _ _) h3 hd (fun β'' _=>rfl)
  ·cases o.dst<;>simp[Act.put,h3]
  ·cases o.dst<;>simp[Act.put,h4]
theorem DOpQ.ownC {P:Program}{nt:Nat}{C:Cx}{id:Nat}{rg:Array Oper}{r:List It}{e0 e:Env}{M0 Mf M:Mem}{k:Nat}{T:List (Nat×Nat)}{i:Nat}{o:Oper}{g:Bool}{l:List Oper}{v:V}(nx:Nat)(hs:g=true→StpC P C.S C.w0 o e M0 v [])
  (h:runD P nt C id rg r e0 M0 Mf k (kontW P nt C (.ops rg (rg.toList.drop k)::r)) T (i+1) l (e.put o.dst g v) M nx):DOpQ P nt C id rg r e0 M0 Mf k T i o g l e M:=
 Or.inl ⟨[],M0,v,hs,.inr rfl,⟨fun _ _ h=> .inl h,fun _ h=>(by cases h)⟩,DrS.go nx h⟩
end Vg
namespace Vg
open Go.RowKit
set_option linter.unusedSimpArgs false
set_option linter.unusedVariables false
abbrev Hp:=Nat→Obj→Prop
def Hp.le (H H':Hp):Prop:=∀b o,H b o→H' b o
theorem Hp.le.refl (H:Hp):H.le H:=fun _ _ h=>h
theorem Hp.le.trans {A B C:Hp}(h:A.le B)(k:B.le C):A.le C:=fun b o x=>k b o (h b o x)
def Cx.hp (C:Cx):Hp:=fun b o=>C.S.s b∧¬C.S.z b∧C.w0.heap[b]?=some o
theorem Cx.hp_lt {C:Cx}{b:Nat}{o:Obj}(h:C.hp b o):b<C.w0.heap.size:=(Array.getElem?_eq_some_iff.1 h.2.2).1
theorem Cx.hp_now {C:Cx}{β:Vl}{M:Mem}{w:World}(h:Rel C.S C.w0 β M w){b:Nat}{o:Obj}(hb:C.hp b o):w.heap[b]?=some o:=by
 rw[h.fr.old b hb.1 (C.hp_lt hb)];exact hb.2.2
def Wrt (β:Vl)(M:Mem)(b:Nat):Prop:=∃n c,M.get n=some c∧c.ro=false∧(β n).nul=false∧b=(β n).blk
theorem Cx.hp_wrt {C:Cx}{β:Vl}{M:Mem}{w:World}(h:Rel C.S C.w0 β M w){b:Nat}{o:Obj}(hb:C.hp b o):¬Wrt β M b:=by
 rintro⟨n,c,h1,h2,h3,rfl⟩
 have:=h.own n c h1 h2 h3 hb.1
 have:=C.hp_lt hb
 omega
structure Lf (C C':Cx):Prop where
 q:C'.Q=C.Q
 pin:C'.S.pin=C.S.pin
 lp:C'.lp=C.lp
 df:C'.df=C.df
 z:C'.S.z=C.S.z
 zok:∀b,C.S.z b→C.S.s b∧b<C.w0.heap.size
 sz:C.w0.heap.size≤C'.w0.heap.size
 fr:∀w,Fr C'.S.s C'.w0 w→Fr C.S.s C.w0 w
 own:∀b,(C'.S.s b→C'.w0.heap.size≤b)→C.S.s b→C.w0.heap.size≤b
theorem Lf.refl {C:Cx}(hz:∀b,C.S.z b→C.S.s b∧b<C.w0.heap.size):Lf C C:=⟨rfl,rfl,rfl,rfl,rfl,hz,Nat.le_refl _,fun _ h=>h,fun _ h=>h⟩
theorem Lf.zok' {C C':Cx}(h:Lf C C'):∀b,C'.S.z b→C'.S.s b∧b<C'.w0.heap.size:=fun b hb=>by
 rw[h.z]at hb
 obtain⟨h1,h2⟩:=h.zok b hb
 refine⟨Classical.byContradiction fun hn=>?_,Nat.lt_of_lt_of_le h2 h.sz⟩
 have:=h.own b (fun hs=>absurd hs hn) h1
 omega
theorem Lf.rel {C C':Cx}(h:Lf C C'){β:Vl}{M:Mem}{w:World}(hr:Rel C'.S C'.w0 β M w):Rel C.S C.w0 β M w:=
 ⟨h.fr w hr.fr,hr.mem,fun n b hb h1 h2=>h.own _ (hr.own n b hb h1 h2),fun n l hl=>hr.pin n l (by rw[h.pin];exact hl)⟩
theorem Lf.pins {C C':Cx}(h:Lf C C'){M0:Mem}(hP:Pins C.S M0):Pins C'.S M0:=fun n l hl=>hP n l (by rw[←h.pin];exact hl)
def Cx.at (C:Cx)(s:Nat→Prop)(w:World):Cx:=⟨⟨s,C.S.pin,C.S.z⟩,w,C.Q,C.lp,C.df⟩
theorem Lf.at {C Ck:Cx}(hL:Lf C Ck){β:Vl}{M:Mem}{w:World}(hrel:Rel Ck.S Ck.w0 β M w){s:Nat→Prop}(hs:∀b,¬s b→Wrt β M b):Lf C (C.at s w)∧Ck.hp.le (C.at s w).hp:=by
 have ownC:∀b,Wrt β M b→C.S.s b→C.w0.heap.size≤b:=by
  rintro b ⟨n,c,h1,h2,h3,rfl⟩
  exact hL.own _ (hrel.own n c h1 h2 h3)
 have frC:=hL.fr w hrel.fr
 have key:∀b,C.S.s b→b<C.w0.heap.size→s b:=fun b h1 h2=>Classical.byContradiction fun hn=>by
  have:=ownC b (hs b hn) h1
  omega
 refine⟨⟨rfl,rfl,rfl,rfl,rfl,hL.zok,frC.size,fun w2 h2=>⟨h2.os.trans frC.os,h2.tape.trans frC.tape,h2.output.trans frC.output,Nat.le_trans frC.size h2.size,fun b hS hb=>?_⟩,fun b hb hS=>?_⟩,fun b o hb=>⟨?_,?_,Cx.hp_now hrel hb⟩⟩
 ·exact(h2.old b (key b hS hb) (Nat.lt_of_lt_of_le hb frC.size)).trans (frC.old b hS hb)
 ·refine Classical.byContradiction fun hlt=>?_
  have:=hb (key b hS (by omega))
  have hw:C.w0.heap.size≤w.heap.size:=frC.size
  have:w.heap.size≤b:=this
  omega
 ·exact Classical.byContradiction fun hn=>Cx.hp_wrt hrel hb (hs b hn)
 ·have:=hb.2.1
  rw[hL.z]at this;exact this
theorem Rel.at {C Ck:Cx}(hL:Lf C Ck){β:Vl}{M M':Mem}{w:World}(hrel:Rel Ck.S Ck.w0 β M w){s:Nat→Prop}(hs:∀b,Wrt β M' b→¬s b)(hm:MemOk β M' w)(hp:∀n l,C.S.pin n=some l→(M'.get n).isSome=true):Rel (C.at s w).S (C.at s w).w0 β M' w:=
 ⟨Fr.refl _ _,hm,fun n b hb hr hu hS=>absurd hS (hs _ ⟨n,b,hb,hr,hu,rfl⟩),fun n l hl=>⟨hp n l hl,(hrel.pin n l (by rw[hL.pin];exact hl)).2⟩⟩
def gval (β:Vl)(c:Cv):Value:=c.g β
def Cv.conc (L:List Nat)(β:Vl):Cv→Cv
 | .v x=> .v x
 | .p n off=>bif L.contains n then .v (gval β (.p n off))else .p n off
 | .sl n off len esz=>bif L.contains n then .v (gval β (.sl n off len esz))else .sl n off len esz
 | .s0 n off=>bif L.contains n then .v (gval β (.s0 n off))else .s0 n off
 | .fn f caps=>bif caps.any (fun c=>L.contains c.1)then .v (gval β (.fn f caps))else .fn f caps
def Cv.cok (L:List Nat):Cv→Bool
 | .fn _ caps=> !(caps.any fun c=>L.contains c.1)||caps.all fun c=>L.contains c.1
 |_=>true
def W.conc (L:List Nat)(β:Vl):W→W
 | .c x=> .c (x.conc L β)
 | .agg xs=> .agg (xs.map (Cv.conc L β))
def W.cok (L:List Nat):W→Bool
 | .c x=>x.cok L
 | .agg xs=>xs.all (Cv.cok L)
def V.conc (L:List Nat)(β:Vl):V→V
 | .c x=> .c (x.conc L β)
 | .agg xs=> .agg (xs.map (Cv.conc L β))
 | .tup xs=> .tup (xs.map (W.conc L β))
def V.cok (L:List Nat):V→Bool
 | .c x=>x.cok L
 | .agg xs=>xs.all (Cv.cok L)
 | .tup xs=>xs.all (W.cok L)
def Bk.conc (L:List Nat)(β:Vl)(b:Bk):Bk:=⟨b.ro,b.cells.map (Cv.conc L β),b.elem⟩
def Mem.conc (L:List Nat)(β:Vl):Mem→Mem
 |[]=>[]
 |(n,b)::M=>bif L.contains n then Mem.conc L β M else(n,b.conc L β)::Mem.conc L β M
def Env.conc (L:List Nat)(β:Vl):Env→Env
 |[]=>[]
 |(t,g,v)::e=>(t,g,v.conc L β)::Env.conc L β e
def mix2 (L:List Nat)(β β':Vl):Vl:=fun n=>bif L.contains n then β n else β' n
theorem mix2_in {L:List Nat}{β β':Vl}{n:Nat}(h:L.contains n=true):mix2 L β β' n=β n:=by unfold mix2;rw[h];rfl
theorem mix2_out {L:List Nat}{β β':Vl}{n:Nat}(h:L.contains n=false):mix2 L β β' n=β' n:=by unfold mix2;rw[h];rfl
theorem Cv.conc_g {L:List Nat}{β β':Vl}{c:Cv}(h:c.cok L=true):(c.conc L β).g β'=c.g (mix2 L β β'):=by
 cases c with
 |v x=>rfl
 |p n off=>
  simp only[Cv.conc]
  cases hn:L.contains n with
  |true=>simp only[cond_true,Cv.g,gval,mix2_in hn]
  |false=>simp only[cond_false,Cv.g,mix2_out hn]
 |sl n off len esz=>
  simp only[Cv.conc]
  cases hn:L.contains n with
  |true=>simp only[cond_true,Cv.g,gval,mix2_in hn]
  |false=>simp only[cond_false,Cv.g,mix2_out hn]
 |s0 n off=>
  simp only[Cv.conc]
  cases hn:L.contains n with
  |true=>simp only[cond_true,Cv.g,gval,mix2_in hn]
  |false=>simp only[cond_false,Cv.g,mix2_out hn]
 |fn f caps=>
  simp only[Cv.conc]
  simp only[Cv.cok]at h
  cases hn:caps.any (fun c=>L.contains c.1)with
  |true=>
   rw[hn]at h
   simp only[Bool.not_true,Bool.false_or]at h
   simp only[cond_true,Cv.g,gval]
   congr 2
   refine List.map_congr_left fun c hc=>?_
   have:=List.all_eq_true.1 h c hc
   simp only[ptr,mix2_in this]
  |false=>
   simp only[cond_false,Cv.g]
   congr 2
   refine List.map_congr_left fun c hc=>?_
   have:L.contains c.1=false:=by
    cases hq:L.contains c.1 with
    |false=>rfl
    |true=>rw[List.any_eq_true.2 ⟨c,hc,hq⟩]at hn;cases hn
   simp only[ptr,mix2_out this]
theorem Cv.conc_gs {L:List Nat}{β β':Vl}{xs:List Cv}(h:xs.all (Cv.cok L)=true):(xs.map (Cv.conc L β)).map (Cv.g β')=xs.map (Cv.g (mix2 L β β')):=by
 rw[List.map_map]
 exact List.map_congr_left fun x hx=>Cv.conc_g (List.all_eq_true.1 h x hx)
theorem V.conc_g {L:List Nat}{β β':Vl}{v:V}(h:v.cok L=true):(v.conc L β).g β'=v.g (mix2 L β β'):=by
 cases v with
 |c x=>exact Cv.conc_g h
 |agg xs=>simp only[V.conc,V.g,Cv.conc_gs h]
 |tup xs=>
  simp only[V.conc,V.g]
  congr 2
  rw[List.map_map]
  refine List.map_congr_left fun x hx=>?_
  have hx:=List.all_eq_true.1 h x hx
  cases x with
  |c x=>exact Cv.conc_g hx
  |agg xs=>simp only[Function.comp,W.conc,W.g,Cv.conc_gs hx]
theorem Mem.conc_get {L:List Nat}{β:Vl}:∀(M:Mem) (n:Nat),(M.conc L β).get n=if L.contains n then none else(M.get n).map (Bk.conc L β)
 |[],n=>by simp[Mem.conc,Mem.get]
 |(k,b)::M,n=>by
  have ih:=Mem.conc_get (L:=L) (β:=β) M n
  simp only[Mem.conc]
  cases hk:L.contains k with
  |true=>
   rw[cond_true,ih,Mem.get_cons]
   by_cases hn:n=k
   ·subst hn;rw[if_pos hk,if_pos hk]
   ·rw[if_neg hn]
  |false=>
   rw[cond_false,Mem.get_cons,Mem.get_cons,ih]
   by_cases hn:n=k
   ·subst hn;simp only[if_true];rw[hk];simp
   ·rw[if_neg hn,if_neg hn]
theorem Env.conc_get {L:List Nat}{β:Vl}:∀(e:Env) (t:Nat) (x:Bool×V),(e.conc L β).get t=some x→∃y,e.get t=some (x.1,y)∧x.2=y.conc L β
 |[],t,x,h=>by cases h
 |(k,g,v)::e,t,x,h=>by
  simp only[Env.conc,Env.get]at h⊢
  cases hk:(k==t)with
  |true=>
   rw[hk]at h
   simp at h
   subst h
   exact⟨v,rfl,rfl⟩
  |false=>
   rw[hk]at h
   exact Env.conc_get e t x h
def Known (H:Hp)(β:Vl)(n:Nat)(b:Bk):Prop:=
 ((β n).nul=true∧b.cells=[])∨((β n).nul=false∧(β n).org=0∧∃junk:List Value,H (β n).blk (.cells (b.cells.map (Cv.g β)++junk).toArray b.elem (0,0))∧(β n).siz=b.cells.length+junk.length)
def concOk (L:List Nat)(e:Env)(M:Mem):Bool:=e.all (fun p=>p.2.2.cok L)&&M.all (fun p=>p.2.cells.all (Cv.cok L))
theorem seal_core {C Ck:Cx}{e:Env}{M M0:Mem}(L:List Nat)(hL:Lf C Ck)(hP:Pins C.S M0)(h0:M0.all (fun p=> !L.contains p.1)=true)(hok:concOk L e M=true){β:Vl}{a:Act}{w:World}(h1:Rel Ck.S Ck.w0 β M w)(h2:EnvOk β M e a):
  ∃Cn,Lf C Cn∧Ck.hp.le Cn.hp∧(∀n b,L.contains n=true→M.get n=some b→b.ro=false→Known Cn.hp β n b)∧Rel Cn.S Cn.w0 β (M.conc L β) w∧EnvOk β (M.conc L β) (e.conc L β) a:=by
 unfold concOk at hok
 rw[Bool.and_eq_true]at hok
 have hW:∀b,Wrt β (M.conc L β) b→Wrt β M b:=by
  rintro b ⟨n,c,k1,k2,k3,rfl⟩
  rw[Mem.conc_get]at k1
  split at k1
  ·cases k1
  ·cases hq:M.get n with
   |none=>rw[hq]at k1;cases k1
   |some d=>rw[hq]at k1;simp at k1;subst k1;exact⟨n,d,hq,k2,k3,rfl⟩
 obtain⟨l1,l2⟩:=hL.at h1 (s:=fun b=>¬Wrt β (M.conc L β) b) (fun b hb=>hW b (Classical.not_not.1 hb))
 have hmixA:∀β',Agree (M.conc L β) β β'→Agree M β (mix2 L β β'):=fun β' hag n hn=>by
  unfold mix2
  cases hq:L.contains n with
  |true=>rfl
  |false=>
   obtain⟨b,hb⟩:=Option.isSome_iff_exists.1 hn
   exact hag n (by rw[Mem.conc_get,hq,hb];rfl)
 have hget:∀n b,(M.conc L β).get n=some b→L.contains n=false∧∃d,M.get n=some d∧b=d.conc L β:=fun n b hb=>by
  rw[Mem.conc_get]at hb
  split at hb
  ·cases hb
  ·rename_i hn
   cases hq:M.get n with
   |none=>rw[hq]at hb;cases hb
   |some d=>rw[hq]at hb;simp at hb;exact⟨by simpa using hn,d,rfl,hb.symm⟩
 have hlv:∀d:Bk,(d.conc L β).lv→d.lv:=fun d hd=>by
  rcases hd with hd|hd
  ·exact .inl hd
  ·exact .inr (by simpa[Bk.conc]using hd)
 have hmem:MemOk β (M.conc L β) w:=by
  refine⟨fun β' hag n b hb=>?_,fun n b hb hu=>?_,fun n m b b' hb hb' hne hr hl hu hu'=>?_⟩
  ·obtain⟨hn,d,hd,rfl⟩:=hget n b hb
   have hold:=h1.mem.ok _ (hmixA β' hag) n d hd
   have e1:mix2 L β β' n=β' n:=mix2_out hn
   have e2:=Cv.conc_gs (β:=β) (β':=β') (List.all_eq_true.1 hok.2 (n,d) (Mem.mem_of_get hd))
   unfold BkOk at hold⊢
   rw[e1]at hold
   simp only[Bk.conc,e2,List.length_map,List.map_eq_nil_iff]at hold⊢
   exact hold
  ·obtain⟨hn,d,hd,rfl⟩:=hget n b hb
   exact h1.mem.there n d hd hu
  ·obtain⟨hn,d,hd,rfl⟩:=hget n b hb
   obtain⟨hn',d',hd',rfl⟩:=hget m b' hb'
   exact h1.mem.apart n m d d' hd hd' hne hr (hlv _ hl) hu hu'
 have hp:∀n l,C.S.pin n=some l→((M.conc L β).get n).isSome=true:=fun n l hl=>by
  have hn:=hP n l hl
  obtain⟨b,hb⟩:=Option.isSome_iff_exists.1 hn
  have:=List.all_eq_true.1 h0 (n,b) (Mem.mem_of_get hb)
  simp only[Bool.not_eq_true']at this
  rw[Mem.conc_get,this]
  have:=(h1.pin n l (by rw[hL.pin];exact hl)).1
  simpa using this
 have hrel:=h1.at hL (s:=fun b=>¬Wrt β (M.conc L β) b) (fun b hb hn=>hn hb) hmem hp
 refine⟨C.at (fun b=>¬Wrt β (M.conc L β) b) w,l1,l2,fun n b hn hb hr=>?_,hrel,fun β' hag t x hx=>?_⟩
 ·have hbo:=h1.mem.ok β (Agree.refl _ _) n b hb
  unfold BkOk at hbo
  cases hu:(β n).nul with
  |true=>rw[if_pos hu]at hbo;exact .inl ⟨hu,hbo.1⟩
  |false=>
   rw[if_neg (by simp[hu]),if_neg (by simp[hr])]at hbo
   obtain⟨k1,junk,k2,k3⟩:=hbo
   refine .inr ⟨hu,k1,junk,⟨?_,?_,k2⟩,k3⟩
   ·rintro⟨m,c,q1,q2,q3,q4⟩
    obtain⟨hm,d,hd,rfl⟩:=hget m c q1
    refine h1.mem.apart n m b d hb hd (fun hh=>?_) hr (.inl q2) hu q3 q4
    rw[hh,hm]at hn;cases hn
   ·intro hz
    have hz':Ck.S.z (β n).blk:=by rw[hL.z];exact hz
    obtain⟨z1,z2⟩:=hL.zok' _ hz'
    have:=h1.own n b hb hr hu z1
    omega
 ·obtain⟨y,hy,he⟩:=Env.conc_get e t x hx
  have h5:=h2 _ (hmixA β' hag) t _ hy
  have hc:=List.all_eq_true.1 hok.1 (t,x.1,y) (Env.mem_of_get hy)
  rw[h5]
  unfold gv
  rw[he,V.conc_g hc]
theorem Sm.letgo {P:Program}{nt:Nat}{C Ck:Cx}{todo:List It}{e:Env}{M M0:Mem}(L:List Nat)(hL:Lf C Ck)(hP:Pins C.S M0)(h0:M0.all (fun p=> !L.contains p.1)=true)(hok:concOk L e M=true)
  (h:∀β Cn,Lf C Cn→Ck.hp.le Cn.hp→(∀n b,L.contains n=true→M.get n=some b→b.ro=false→Known Cn.hp β n b)→Sm P nt Cn todo (e.conc L β) (M.conc L β)):Sm P nt Ck todo e M:=fun β a w h1 h2 h3 h4=>by
 obtain⟨Cn,l1,l2,l3,l4,l5⟩:=seal_core L hL hP h0 hok h1 h2
 rw[hL.q,hL.lp,←l1.q,←l1.lp]
 exact h β Cn l1 l2 l3 β a w l4 l5 h3 (h4.trans (hL.df.trans l1.df.symm))
def LcH (H:Hp)(l:Loc)(cs:List Value):Prop:=
 (l.nul=true→cs=[])∧cs.length≤l.siz∧(l.nul=false→∃c el mk,H l.blk (.cells c el mk)∧∀i x,cs[i]?=some x→c[l.org+i]?=some x)
theorem LcH.mono {H H':Hp}(h:H.le H'){l:Loc}{cs:List Value}(k:LcH H l cs):LcH H' l cs:=
 ⟨k.1,k.2.1,fun hn=>by obtain⟨c,el,mk,h1,h2⟩:=k.2.2 hn;exact⟨c,el,mk,h _ _ h1,h2⟩⟩
def SlH (H:Hp)(v:Value)(sz:Nat)(rows:List (List Value)):Prop:=
 ∃l:Loc,v=(Cv.sl 0 0 rows.length sz).g (fun _=>l)∧(∀r∈rows,r.length=sz)∧LcH H l rows.flatten
theorem SlH.mono {H H':Hp}(h:H.le H'){v:Value}{sz:Nat}{rows:List (List Value)}(k:SlH H v sz rows):SlH H' v sz rows:=by
 obtain⟨l,h1,h2,h3⟩:=k
 exact⟨l,h1,h2,h3.mono h⟩
def PtH (H:Hp)(v:Value)(cs:List Value):Prop:=∃l:Loc,v=ptr (fun _=>l) 0 0∧l.nul=false∧LcH H l cs
theorem PtH.mono {H H':Hp}(h:H.le H'){v:Value}{cs:List Value}(k:PtH H v cs):PtH H' v cs:=by
 obtain⟨l,h1,h2,h3⟩:=k
 exact⟨l,h1,h2,h3.mono h⟩
theorem Sm.bringL {P:Program}{nt:Nat}{C:Cx}{todo:List It}{e:Env}{M:Mem}{l:Loc}{cs:List Value}(nm:Nat)(el:TypeId)(t:Nat){g:Bool}{x x':V}(h:LcH C.hp l cs)(hn:M.get nm=none)(hx:e.get t=some (g,x))
  (hx':∀β:Vl,β nm=l→x'.g β=x.g β) (k:Sm P nt C todo ((t,g,x')::e) ((nm,⟨true,cs.map .v,el⟩)::M)):Sm P nt C todo e M:=fun β a w h1 h2 h3 h4=>by
 have hne:∀k b,M.get k=some b→k≠nm:=by rintro k b hk rfl;rw[hn]at hk;cases hk
 have hcells:∀β:Vl,(cs.map Cv.v).map (Cv.g β)=cs:=fun β=>by
  rw[List.map_map];conv=>rhs;rw[←List.map_id cs]
  exact List.map_congr_left fun _ _=>rfl
 have hag0:∀β',Agree ((nm,⟨true,cs.map .v,el⟩)::M) (fun k=>if k=nm then l else β k) β'→Agree M β β'∧β' nm=l:=fun β' hag=>by
  refine⟨fun j hj=>?_,by have:=hag nm (by rw[Mem.get_cons];simp);simpa using this⟩
  obtain⟨c,hc⟩:=Option.isSome_iff_exists.1 hj
  rw[hag j (by rw[Mem.get_cons];split<;>simp_all)]
  exact if_neg (hne j c hc)
 refine k (fun k=>if k=nm then l else β k) a w ⟨h1.fr,⟨fun β' hag k b hb=>?_,fun k b hb hu=>?_,fun k m b b' hb hb' hkm hr hlv hu hu'=>?_⟩,fun k b hb hr hu hS=>?_,fun k q hq=>?_⟩ (fun β' hag t' y hy=>?_) h3 h4
 ·obtain⟨g1,g2⟩:=hag0 β' hag
  rw[Mem.get_cons]at hb
  split at hb
  ·rename_i hk
   simp at hb;subst hb hk
   unfold BkOk
   rw[g2,hcells]
   cases hu:l.nul with
   |true=>simp only[if_true];rw[h.1 hu];exact⟨rfl,fun h=>by cases h⟩
   |false=>
    simp only[Bool.false_eq_true,if_false,if_true]
    obtain⟨c,el',mk,q1,q2⟩:=h.2.2 hu
    refine⟨fun j v hj=>?_,by simpa using h.2.1⟩
    simp[World.cell?,Cx.hp_now h1 q1,q2 j v hj]
  ·exact h1.mem.ok β' g1 k b hb
 ·rw[Mem.get_cons]at hb
  split at hb
  ·rename_i hk
   simp only[if_pos hk]at hu⊢
   obtain⟨c,el',mk,q1,q2⟩:=h.2.2 hu
   exact Nat.lt_of_lt_of_le (C.hp_lt q1) h1.fr.size
  ·rename_i hk;simp only[if_neg hk]at hu⊢;exact h1.mem.there k b hb hu
 ·rw[Mem.get_cons]at hb hb'
  split at hb
  ·simp at hb;subst hb;cases hr
  ·rename_i hk
   split at hb'
   ·rename_i hk'
    simp only[if_neg hk,if_pos hk']at hu hu'⊢
    obtain⟨c,el',mk,q1,q2⟩:=h.2.2 hu'
    exact fun hh=>Cx.hp_wrt h1 q1 ⟨k,b,hb,hr,hu,hh.symm⟩
   ·rename_i hk'
    simp only[if_neg hk,if_neg hk']at hu hu'⊢
    exact h1.mem.apart k m b b' hb hb' hkm hr hlv hu hu'
 ·rw[Mem.get_cons]at hb
  split at hb
  ·simp at hb;subst hb;cases hr
  ·rename_i hk;simp only[if_neg hk]at hu hS⊢;exact h1.own k b hb hr hu hS
 ·obtain⟨p1,p2⟩:=h1.pin k q hq
  have hkn:k≠nm:=by rintro rfl;rw[hn]at p1;cases p1
  exact⟨by rw[Mem.get_cons,if_neg hkn];exact p1,by simp only[if_neg hkn];exact p2⟩
 ·obtain⟨g1,g2⟩:=hag0 β' hag
  simp only[Env.get]at hy
  cases ht:(t==t')with
  |true=>
   rw[ht]at hy
   have:t=t':=by simpa using ht
   subst this
   simp at hy
   subst hy
   have:=h2 β' g1 t _ hx
   rw[this]
   unfold gv
   simp only[hx' β' g2]
  |false=>
   rw[ht]at hy
   exact h2 β' g1 t' y hy
theorem slg {β:Vl}{l:Loc}{nm:Nat}(h:β nm=l)(n esz:Nat):(Cv.sl nm 0 n esz).g β=(Cv.sl 0 0 n esz).g (fun _=>l):=by subst h;rfl
theorem Sm.bring {P:Program}{nt:Nat}{C:Cx}{todo:List It}{e:Env}{M:Mem}{v:Value}{sz:Nat}{rows:List (List Value)}(nm:Nat)(el:TypeId)(t:Nat){g:Bool}(h:SlH C.hp v sz rows)(hn:M.get nm=none)(hx:e.get t=some (g,.c (.v v)))
  (k:Sm P nt C todo ((t,g,.c (.sl nm 0 rows.length sz))::e) ((nm,⟨true,rows.flatten.map .v,el⟩)::M)):Sm P nt C todo e M:=by
 obtain⟨l,h1,h2,h3⟩:=h
 exact Sm.bringL nm el t h3 hn hx (fun β hb=>by show(Cv.sl nm 0 rows.length sz).g β=v;rw[h1,slg hb]) k
theorem Sm.bringP {P:Program}{nt:Nat}{C:Cx}{todo:List It}{e:Env}{M:Mem}{v:Value}{cs:List Value}(nm:Nat)(el:TypeId)(t:Nat){g:Bool}(h:PtH C.hp v cs)(hn:M.get nm=none)(hx:e.get t=some (g,.c (.v v)))
  (k:Sm P nt C todo ((t,g,.c (.p nm 0))::e) ((nm,⟨true,cs.map .v,el⟩)::M)):Sm P nt C todo e M:=by
 obtain⟨l,h1,h2,h3⟩:=h
 exact Sm.bringL nm el t h3 hn hx (fun β hb=>by show(Cv.p nm 0).g β=v;rw[h1];simp[Cv.g,ptr,hb]) k
theorem Known.sl {H:Hp}{β:Vl}{n:Nat}{b:Bk}(h:Known H β n b){sz:Nat}{rows:List (List Value)}(hr:∀r∈rows,r.length=sz)(hc:b.cells=rows.flatten.map .v):SlH H (gval β (.sl n 0 rows.length sz)) sz rows:=by
 refine⟨β n,slg rfl _ _,hr,?_⟩
 have hcells:(b.cells).map (Cv.g β)=rows.flatten:=by
  rw[hc,List.map_map];conv=>rhs;rw[←List.map_id rows.flatten]
  exact List.map_congr_left fun _ _=>rfl
 have hlen:rows.flatten.length=b.cells.length:=by rw[hc,List.length_map]
 rcases h with⟨h1,h2⟩|⟨h1,h2,junk,h3,h4⟩
 ·have:rows.flatten=[]:=by simpa[h2]using hc.symm
  exact⟨fun _=>this,by rw[this];simp,fun hh=>by rw[h1]at hh;cases hh⟩
 ·refine⟨fun hh=>by rw[h1]at hh;(cases hh),by omega,fun _=>⟨_,_,_,h3,fun i x hx=>?_⟩⟩
  rw[h2,Nat.zero_add,hcells]
  simp only[List.getElem?_toArray]
  rw[List.getElem?_append_left (List.getElem?_eq_some_iff.1 hx).1];exact hx
theorem Known.pt {H:Hp}{β:Vl}{n:Nat}{b:Bk}(h:Known H β n b)(h0:b.cells≠[]):PtH H (gval β (.p n 0)) (b.cells.map (Cv.g β)):=by
 rcases h with⟨h1,h2⟩|⟨h1,h2,junk,h3,h4⟩
 ·exact absurd h2 h0
 ·refine⟨β n,rfl,h1,fun hh=>by rw[h1]at hh;(cases hh),by rw[List.length_map];omega,fun _=>⟨_,_,_,h3,fun i x hx=>?_⟩⟩
  rw[h2,Nat.zero_add]
  simp only[List.getElem?_toArray]
  rw[List.getElem?_append_left (List.getElem?_eq_some_iff.1 hx).1];exact hx
theorem SlH.nil {H:Hp}(sz:Nat):SlH H (.slice none 0 0) sz []:=⟨⟨0,0,0,true,none⟩,by simp[Cv.g,Loc.emp],by simp,fun _=>rfl,by simp,fun h=>by cases h⟩
def CallX (H:Hp)(P:Program)(f:FuncId)(args:List V)(M:Mem){α:Type}(v:α→V)(N:α→Mem)(Q:α→Hp→Prop):Prop:=
 Enters P f∧(∀x n b,(N x).get n=some b→M.get n=none→b.ro=false)∧(∀x n b b',(N x).get n=some b→M.get n=some b'→b'.ro=false)∧
 ∀β w (Z:Nat→Prop),MemOk β M w→(∀b o,H b o→w.heap[b]?=some o∧¬Z b∧¬Wrt β M b)→(∀b,Z b→b<w.heap.size∧¬Wrt β M b)→Calls P f (args.map (V.g β)).toArray w fun en w'=>
  ∃x β' H',Agree M β β'∧(∀β'',Agree (N x++M) β' β''→en= .returned ((v x).g β''))∧MemOk β' (N x++M) w'∧Fr (fun k=>∀n b,M.get n=some b→b.ro=false→(β n).nul=false→k≠(β n).blk) w w'∧
   (∀n,((N x).get n).isSome=true→M.get n=none→(β' n).nul=false→(w.heap.size≤(β' n).blk∨∃k b c,M.get k=some b∧b.ro=false∧(β k).nul=false∧(N x).get k=some c∧¬c.lv∧(β' n).blk=(β k).blk))∧
   (∀b o,H' b o→w'.heap[b]?=some o∧¬Z b∧¬Wrt β' (N x++M) b)∧Q x H'
theorem CallX.introP {H:Hp}{P:Program}{f:FuncId}{fn:Func}{body:Code}{args:List V}{M:Mem}{α:Type}{v:α→V}{N:α→Mem}{Q:α→Hp→Prop}(hf:P.funcs[f]?=some fn)(hb:fn.body=some body)(hent:Enters P f)(hnt:args.length≤fn.ntmps)
  (hNrw:∀x n b,(N x).get n=some b→M.get n=none→b.ro=false) (hU:∀x n b b',(N x).get n=some b→M.get n=some b'→b'.ro=false) (hcl:∀x∈args,ClV M x)
  (h:∀C,(∀x Cn,Lf C Cn→Q x Cn.hp→RetOk P Cn fn (v x) (N x++M))→Pins C.S M→H.le C.hp→Lf C C→(∀n,(M.get n).isSome=true→∃l,C.S.pin n=some l)→Sm P fn.ntmps C [.code body] (initE 0 args) M):CallX H P f args M v N Q:=by
 refine⟨hent,hNrw,hU,fun β w Z hm hH hZ=>calls_of_wp hf hb ?_⟩
 let R:Ending→World→Prop:=fun en w'=>
  ∃x β' H',Agree M β β'∧(∀β'',Agree (N x++M) β' β''→en= .returned ((v x).g β''))∧MemOk β' (N x++M) w'∧Fr (fun k=>∀n b,M.get n=some b→b.ro=false→(β n).nul=false→k≠(β n).blk) w w'∧
   (∀n,((N x).get n).isSome=true→M.get n=none→(β' n).nul=false→(w.heap.size≤(β' n).blk∨∃k b c,M.get k=some b∧b.ro=false∧(β k).nul=false∧(N x).get k=some c∧¬c.lv∧(β' n).blk=(β k).blk))∧
   (∀b o,H' b o→w'.heap[b]?=some o∧¬Z b∧¬Wrt β' (N x++M) b)∧Q x H'
 let C:Cx:=⟨⟨fun k=>∀n b,M.get n=some b→b.ro=false→(β n).nul=false→k≠(β n).blk,fun n=>if (M.get n).isSome=true then some (β n)else none,Z⟩,w,bodyPost P fn R,none,[]⟩
 have hs:∀k,¬Wrt β M k→C.S.s k:=fun k hk n b h1 h2 h3 h4=>hk ⟨n,b,h1,h2,h3,h4⟩
 have hL:Lf C C:=Lf.refl fun b hb=>⟨hs b (hZ b hb).2,(hZ b hb).1⟩
 have hret:∀x Cn,Lf C Cn→Q x Cn.hp→RetOk P Cn fn (v x) (N x++M):=by
  intro x Cn hLn hQ
  refine⟨fun n l hl=>?_,fun β' a w' u hreln hu hd hres=>?_,fun a w'=>?_⟩
  ·rw[hLn.pin]at hl
   by_cases hh:(M.get n).isSome=true
   ·rw[Mem.get_append];cases (N x).get n<;>simp[hh]
   ·simp[C,hh]at hl
  ·rw[hLn.q]
   have hrel:=hLn.rel hreln
   refine⟨hd.trans hLn.df,u,hres,x,β',Cn.hp,fun n hn=>?_,fun β'' hag=>by rw[hu β'' hag],hrel.mem,hrel.fr,fun n hn hM hu=>?_,fun b o hb=>⟨Cx.hp_now hreln hb,?_,Cx.hp_wrt hreln hb⟩,hQ⟩
   ·exact(hrel.pin n (β n) (if_pos hn)).2
   ·obtain⟨b,hb⟩:=Option.isSome_iff_exists.1 hn
    have hg:(N x++M:Mem).get n=some b:=by rw[Mem.get_append,hb];rfl
    by_cases hS:C.S.s (β' n).blk
    ·exact .inl (hrel.own n b hg (hNrw x n b hb hM) hu hS)
    ·right
     have hS':∃m c,M.get m=some c∧c.ro=false∧(β m).nul=false∧(β' n).blk=(β m).blk:=by
      refine Classical.byContradiction fun hno=>hS fun m c hm hr hum hh=>hno ⟨m,c,hm,hr,hum,hh⟩
     obtain⟨m,c,hm,hr,hum,hh⟩:=hS'
     have hm':((N x++M:Mem).get m).isSome=true:=by rw[Mem.get_append];cases (N x).get m<;>simp[hm]
     obtain⟨d,hd'⟩:=Option.isSome_iff_exists.1 hm'
     have hp:=(hrel.pin m (β m) (if_pos (by simp[hm]))).2
     have hne:n≠m:=by
      rintro rfl
      rw[hM]at hm;cases hm
     have hlv:¬d.lv:=fun hlv=>hrel.mem.apart n m b d hg hd' hne (hNrw x n b hb hM) hlv hu (by rw[hp];exact hum) (by rw[hp];exact hh)
     have hNm:(N x).get m=some d:=by
      rw[Mem.get_append]at hd'
      cases hN:(N x).get m with
      |some y=>rw[hN]at hd';simpa using hd'
      |none=>rw[hN,hm]at hd';simp at hd';subst hd';exact absurd (.inl hr) hlv
     exact⟨m,c,d,hm,hr,hum,hNm,hlv,hh⟩
   ·have:=hb.2.1
    rw[hLn.z]at this;exact this
  ·rw[hLn.q];exact fun h=>h
 refine(wpIn_wide (n:=0)).1 ?_
 refine h C hret (fun n l hl=>?_) (fun b o hb=>⟨hs b (hH b o hb).2.2,(hH b o hb).2.1,(hH b o hb).1⟩) hL (fun n hn=>⟨β n,if_pos hn⟩) β _ w ⟨Fr.refl _ _,hm,fun n b hb hr hu hS=>absurd rfl (hS n b hb hr hu),fun n l hl=>?_⟩ ?_ ?_ rfl
 ·by_cases hh:(M.get n).isSome=true
  ·exact hh
  ·simp[C,hh]at hl
 ·by_cases hh:(M.get n).isSome=true
  ·simp only[C,hh,if_true,Option.some.injEq]at hl
   exact⟨hh,hl⟩
  ·simp[C,hh]at hl
 ·intro β' hag t y hy
  obtain⟨_,h2,h3⟩:=initE_get args 0 t y hy
  simp only[Nat.sub_zero]at h2
  have hlt:t<args.length:=(List.getElem?_eq_some_iff.1 h2).1
  obtain⟨g,x⟩:=y
  simp only at h2 h3
  subst h3
  have hx:x∈args:=List.mem_of_getElem? h2
  simp only[gv,cond_true,hcl x hx β β' hag]
  rw[List.getElem?_eq_getElem hlt]at h2
  simp only[Option.some.injEq]at h2
  simp[Array.getElem?_append,hlt,h2]
 ·simp;omega
theorem CallX.intro {H:Hp}{P:Program}{f:FuncId}{fn:Func}{body:Code}{args:List V}{M:Mem}{α:Type}{v:α→V}{N:α→Mem}{Q:α→Hp→Prop}(hf:P.funcs[f]?=some fn)(hb:fn.body=some body)(hent:Enters P f)(hnt:args.length≤fn.ntmps)
  (hNrw:∀x n b,(N x).get n=some b→M.get n=none→b.ro=false) (hU:∀x n b b',(N x).get n=some b→M.get n=some b'→b'.ro=false) (hcl:∀x∈args,ClV M x)
  (h:∀C,(∀x Cn,Lf C Cn→Q x Cn.hp→RetOk P Cn fn (v x) (N x++M))→Pins C.S M→H.le C.hp→Lf C C→Sm P fn.ntmps C [.code body] (initE 0 args) M):CallX H P f args M v N Q:=
 CallX.introP hf hb hent hnt hNrw hU hcl fun C hR hP hH hL _=>h C hR hP hH hL
theorem Wrt.sub {β:Vl}{M1 M:Mem}(hs:Sub M1 M){b:Nat}(h:Wrt β M1 b):Wrt β M b:=by
 obtain⟨n,c,h1,h2,h3,h4⟩:=h
 obtain⟨c',h5,h6⟩:=hs n c h1
 rcases h6 with rfl|⟨h7,_⟩
 ·exact⟨n,c,h5,h2,h3,h4⟩
 ·rw[h2]at h7;cases h7
theorem CallX.at {H:Hp}{P:Program}{f:FuncId}{xs:List V}{M1 M:Mem}{α:Type}{v:α→V}{N:α→Mem}{Q:α→Hp→Prop}{C Ck:Cx}(hc:CallX H P f xs M1 v N Q)(hL:Lf C Ck)(hH:H.le Ck.hp)(hs:Sub M1 M)(hcl:ClM M1)(hfr:∀x,Fresh (N x) M1 M){β:Vl}{w:World}(hrel:Rel Ck.S Ck.w0 β M w):
  Calls P f (xs.map (V.g β)).toArray w fun en w'=>∃x Cn β2 u H',en= .returned u∧Lf C Cn∧Ck.hp.le Cn.hp∧H'.le Cn.hp∧Q x H'∧Agree M β β2∧Rel Cn.S Cn.w0 β2 (N x++M) w'∧∀β'',Agree (N x++M) β2 β''→u=(v x).g β'':=by
 obtain⟨hent,hNrw,hU,hcall⟩:=hc
 refine(hcall β w (fun b=>(Ck.S.z b∨Wrt β M b)∧b<w.heap.size∧¬Wrt β M1 b) (hrel.mem.sub hs hcl) (fun b o hb=>?_) (fun b hb=>⟨hb.2.1,hb.2.2⟩)).mono ?_
 ·have h1:=hH b o hb
  refine⟨Cx.hp_now hrel h1,fun hz=>?_,fun hw=>Cx.hp_wrt hrel h1 (hw.sub hs)⟩
  rcases hz.1 with h|h
  ·exact h1.2.1 h
  ·exact Cx.hp_wrt hrel h1 h
 ·rintro en w' ⟨x,β',H',hag,hen,hmem,hfrm,hnew,hH',hQ⟩
  have hfresh:∀k,((N x).get k).isSome=true→(M.get k).isSome=true→(M1.get k).isSome=true:=by
   intro k h1 h2
   rcases hfr x k h1 with h3|h3
   ·exact h3
   ·rw[h3]at h2;cases h2
  obtain⟨β2,g1,g2,g3,g4⟩:=hrel.after hs (hNrw x) (hU x) hfresh hag hmem hfrm hnew
  have hpin:∀n l,C.S.pin n=some l→((N x++M:Mem).get n).isSome=true:=fun n l hl=>(g2.pin n l (by rw[hL.pin];exact hl)).1
  obtain⟨l1,l2⟩:=hL.at g2 (s:=fun b=>¬Wrt β2 (N x++M) b) (fun b hb=>Classical.not_not.1 hb)
  have g5:=g2.at hL (s:=fun b=>¬Wrt β2 (N x++M) b) (fun b hb hn=>hn hb) g2.mem hpin
  refine⟨x,_,β2,(v x).g β',H',hen β' (Agree.refl _ _),l1,l2,fun b o hb=>?_,hQ,g1,g5,fun β'' hag''=>?_⟩
  ·obtain⟨q1,q2,q3⟩:=hH' b o hb
   have hwr:¬Wrt β2 (N x++M) b:=by
    rintro⟨n,c,h1,h2,h3,rfl⟩
    rw[Mem.get_append]at h1
    cases hN:(N x).get n with
    |some d=>
     rw[hN]at h1
     simp at h1;subst h1
     rw[g4 n (by simp[hN])]at h3 q3
     exact q3 ⟨n,d,by rw[Mem.get_append,hN];rfl,h2,h3,rfl⟩
    |none=>
     rw[hN]at h1
     simp at h1
     have hb2:=g1 n (by simp[h1])
     rw[hb2]at h3 q3 q2
     by_cases hw:Wrt β M1 (β n).blk
     ·-- the block is named in M1 too:the same name
      obtain⟨m,d,k1,k2,k3,k4⟩:=hw
      obtain⟨d',k5,k6⟩:=hs m d k1
      obtain rfl:d=d':=by rcases k6 with h|⟨h,_⟩;exact h;rw[k2]at h;cases h
      by_cases hnm:n=m
      ·subst hnm
       have:β' n=β n:=hag n (by simp[k1])
       refine q3 ⟨n,d,by rw[Mem.get_append,hN];simpa using k1,k2,by rw[this];exact k3,by rw[this]⟩
      ·exact hrel.mem.apart n m c d h1 k5 hnm h2 (.inl k2) h3 k3 k4
     ·exact q2 ⟨.inr ⟨n,c,h1,h2,h3,rfl⟩,hrel.mem.there n c h1 h3,hw⟩
   refine⟨hwr,fun hz=>?_,q1⟩
   have hz':Ck.S.z b:=by rw[hL.z];exact hz
   obtain⟨z1,z2⟩:=hL.zok' b hz'
   refine q2 ⟨.inl hz',Nat.lt_of_lt_of_le z2 hrel.fr.size,fun hw=>?_⟩
   obtain⟨m,d,k1,k2,k3,rfl⟩:=hw.sub hs
   have:=hrel.own m d k1 k2 k3 z1
   omega
  ·have e1:=hen β' (Agree.refl _ _)
   have e2:=hen β'' (g3 β'' hag'')
   rw[e1]at e2
   simpa using e2
theorem CallX.kx {H:Hp}{P:Program}{f:FuncId}{xs:List V}{M1:Mem}{v:V}{N:Mem}{α:Type}{v':α→V}{N':α→Mem}{Q:α→Hp→Prop}{C:Cx}(hc:CallX H P f xs M1 v' N' Q)(hH:H.le C.hp)(hcl:ClM M1)(hv:∀x,v' x=v)(hN:∀x,N' x=N):CallKx P C.S C.w0 f xs M1 v N:=by
 obtain⟨hent,hNrw,hU,hcall⟩:=hc
 refine⟨hent,fun β w M' hrel hs hfresh=>(hcall β w (fun _=>False) (hrel.mem.sub hs hcl) (fun b o hb=>?_) (fun b hb=>hb.elim)).mono ?_⟩
 ·have h1:=hH b o hb
  exact⟨Cx.hp_now hrel h1,fun hz=>hz,fun hw=>Cx.hp_wrt hrel h1 (hw.sub hs)⟩
 ·rintro en w' ⟨x,β',H',hag,hen,hmem,hfrm,hnew,_,_⟩
  obtain rfl:=hN x
  obtain rfl:=hv x
  obtain⟨β2,h1,h2,h3,_⟩:=hrel.after hs (hNrw x) (hU x) hfresh hag hmem hfrm hnew
  refine⟨β2,(v' x).g β',hen β' (Agree.refl _ _),h1,h2,fun β'' hag''=>?_⟩
  have e1:=hen β' (Agree.refl _ _)
  have e2:=hen β'' (h3 β'' hag'')
  rw[e1]at e2
  simpa using e2
@[reducible] def CallH (H:Hp)(P:Program)(f:FuncId)(args:List V)(v:V):Prop:=CallX H P f args [] (fun _:Unit=>v) (fun _=>[]) (fun _ _=>True)
theorem CallH.kx {H:Hp}{P:Program}{f:FuncId}{xs:List V}{v:V}{C:Cx}(hc:CallH H P f xs v)(hH:H.le C.hp):CallKx P C.S C.w0 f xs [] v []:=CallX.kx hc hH (fun _ _ _ n b h=>by cases h) (fun _=>rfl) (fun _=>rfl)
section
variable {P:Program} {nt:Nat} {C Ck:Cx} {todo r:List It} {e e0:Env} {M M0 Mf:Mem}
theorem CallQ.h {H:Hp}{f:FuncId}{vs:List (Option (Bool×V))}{g:Bool}{dst:Option Nat}{xs:List V}{v:V}(nx:Nat)(hc:CallH H P f xs v)(hH:H.le C.hp)(hvs:vs=xs.map fun x=>some (true,x))(h:run P nt C 1000 todo (e.put dst g v) M nx):
  CallQ P nt C f vs g dst todo e M:=Or.inl ⟨[],[],v,xs,fun _=>hvs,fun _=> .inr (hc.kx hH),Sub.nil _,ClM.nil,Fresh.nil _ _,.inr rfl,run_ok 1000 _ _ _ nx h⟩
theorem CallQ.hg {H:Hp}{f:FuncId}{vs:List (Option (Bool×V))}{g:Bool}{dst:Option Nat}{xs:List V}{v:V}(nx:Nat)(hc:g=true→CallH H P f xs v)(hH:H.le C.hp)(hvs:g=true→vs=xs.map fun x=>some (true,x))(h:run P nt C 1000 todo (e.put dst g v) M nx):
  CallQ P nt C f vs g dst todo e M:=Or.inl ⟨[],[],v,xs,hvs,fun h=> .inr ((hc h).kx hH),Sub.nil _,ClM.nil,Fresh.nil _ _,.inr rfl,run_ok 1000 _ _ _ nx h⟩
theorem DCallQ.h {H:Hp}{id:Nat}{rg:Array Oper}{k:Nat}{T:List (Nat×Nat)}{i:Nat}{o:Oper}{l:List Oper}{f:FuncId}{vs:List (Option (Bool×V))}{g:Bool}{dst:Option Nat}{xs:List V}{v:V}(nx:Nat)(hc:g=true→CallH H P f xs v)(hH:H.le C.hp)(hvs:g=true→vs=xs.map fun x=>some (true,x))
  (h:runD P nt C id rg r e0 M0 Mf k (kontW P nt C (.ops rg (rg.toList.drop k)::r)) T (i+1) l (e.put dst g v) M nx):DCallQ P nt C id rg r e0 M0 Mf k T i o f vs g dst l e M:=
 ⟨[],[],M0,v,xs,hvs,fun h=> .inr ((hc h).kx hH),Sub.nil _,ClM.nil,Fresh.nil _ _,.inr rfl,⟨fun _ _ h=> .inl h,fun _ h=>by cases h⟩,DrS.go nx h⟩
theorem CallQ.x {H:Hp}{f:FuncId}{vs:List (Option (Bool×V))}{g:Bool}{dst:Option Nat}{xs:List V}{M1:Mem}{α:Type}{v:α→V}{N:α→Mem}{Q:α→Hp→Prop}(nx:Nat)(hL:Lf C Ck)(hc:CallX H P f xs M1 v N Q)(hH:H.le Ck.hp)(hs:Sub M1 M)(hcl:ClM M1)(hfr:∀x,Fresh (N x) M1 M)(hg:g=true)(hvs:vs=xs.map fun x=>some (true,x))(hd:dstOk nt dst=true)
  (h:∀x Cn H',Lf C Cn→Ck.hp.le Cn.hp→H'.le Cn.hp→Q x H'→run P nt Cn 1000 todo (e.put dst g (v x)) (N x++M) nx):CallQ P nt Ck f vs g dst todo e M:=by
 subst hg
 refine .inr ⟨rfl,xs,hvs,hc.1,fun β a w h1 h2 h3 h4=>(hc.at hL hH hs hcl hfr h1).mono ?_⟩
 rintro en w' ⟨x,Cn,β2,u,H',rfl,l1,l2,l3,hQ,g1,g2,g3⟩
 refine⟨u,rfl,?_⟩
 rw[hL.q,←l1.q,hL.lp,←l1.lp]
 refine run_ok 1000 _ _ _ nx (h x Cn H' l1 l2 l3 hQ) β2 _ w' g2 ?_ ?_ ?_
 ·exact EnvOk.put h2 g1 h3 (dstOk_lt hd) (fun β'' hb=>by rw[g3 β'' hb];rfl)
 ·cases dst<;>simp[Act.put,h3]
 ·have h4:=h4.trans (hL.df.trans l1.df.symm)
  cases dst<;>simp[Act.put,h4]
theorem Sm.loopX {α:Type}{b:Code}(hL:Lf C Ck)(hP:Pins C.S M0)(E:α→Env)(Mm:α→Mem)(I:α→Hp→Prop)(m:α→Nat)(x0:α)(hI:I x0 Ck.hp)(hM:∀x,ClM (Mm x))(hE:∀x,∀p∈E x,ClV (Mm x) p.2.2)
  (L0:List (Nat×Nat)) (h0:Met Ck.S M0 (E x0) (Mm x0) e M L0)
  (round:∀(x:α) (Cn:Cx) (J:Act→World→Prop),Lf C Cn→I x Cn.hp→(∀e' M' Cm x' L,Lf C Cm→I x' Cm.hp→m x'<m x→Met Cm.S M0 (E x') (Mm x') e' M' L→Sm P nt Cm (.stop J::r) e' M')→Sm P nt Cn (.code b:: .stop J::r) (E x) (Mm x)):
  Sm P nt Ck (.code (.loop b)::r) e M:=fun β a w h1 h2 h3 h4=>by
 have hw:∀(Cm:Cx) x e' M' L,Lf C Cm→Met Cm.S M0 (E x) (Mm x) e' M' L→Wkn Cm.S (E x) (Mm x) e' M':=fun Cm x _ _ L hl h=>Wkn.ren L (hl.pins hP) h.1 h.2.1 h.2.2.1 h.2.2.2 (hM x) (hE x)
 let St:α→Act→World→Prop:=fun x a w=>∃Cn β,Lf C Cn∧I x Cn.hp∧Rel Cn.S Cn.w0 β (Mm x) w∧EnvOk β (Mm x) (E x) a∧a.tmps.size=nt∧a.defers=Cn.df
 obtain⟨β1,g1,g2⟩:=hw Ck x0 _ _ L0 hL h0 _ β a w h1 h2
 have least:∀n a w,(∃x,m x≤n∧St x a w)→∃x,St x a w∧∀y,St y a w→m x≤m y:=by
  intro n
  induction n using Nat.strongRecOn with
  |_ n ih=>
   intro a w ⟨x,hx,hs⟩
   by_cases hl:∃y,m y<m x∧St y a w
   ·obtain⟨y,hy,hsy⟩:=hl
    exact ih (m y) (by omega) a w ⟨y,Nat.le_refl _,hsy⟩
   ·refine⟨x,hs,fun y hy=>?_⟩
    by_cases hh:m x≤m y
    ·exact hh
    ·exact absurd ⟨y,by omega,hy⟩ hl
 classical
 refine wpIn_loop (fun a w=>∃x,St x a w) (fun a w=>if h:∃x,St x a w∧∀y,St y a w→m x≤m y then m h.choose else 0) ⟨x0,Ck,β1,hL,hI,g1,g2,h3,h4⟩ ?_
 intro a w ⟨x,hx⟩
 have hl:=least (m x) a w ⟨x,Nat.le_refl _,hx⟩
 simp only[dif_pos hl]
 have hc:=hl.choose_spec
 generalize hl.choose=y at hc
 obtain⟨⟨Cn,β2,k0,kI,k1,k2,k3,k4⟩,hmin⟩:=hc
 let J:Act→World→Prop:=fun a' w'=>(∃x,St x a' w')∧(if h:∃x,St x a' w'∧∀y,St y a' w'→m x≤m y then m h.choose else 0)<m y
 have hJ:∀a' w',(∃x',m x'<m y∧St x' a' w')→J a' w':=by
  intro a' w' ⟨x',hlt,hs'⟩
  have hl':=least (m x') a' w' ⟨x',Nat.le_refl _,hs'⟩
  refine⟨⟨x',hs'⟩,?_⟩
  rw[dif_pos hl']
  exact Nat.lt_of_le_of_lt (hl'.choose_spec.2 x' hs') hlt
 have hr:=round y Cn J k0 kI (fun e' M' Cm x' L hlm hIm hlt hmet=>Sm.stop fun β a w q1 q2 q3 q4=>by
  obtain⟨β5,q5,q6⟩:=hw Cm x' _ _ L hlm hmet _ β a w q1 q2
  exact hJ a w ⟨x',hlt,Cm,β5,hlm,hIm,q5,q6,q3,q4⟩) β2 a w k1 k2 k3 k4
 have hq:Ck.Q=Cn.Q:=by rw[hL.q,k0.q]
 have hlp:Ck.lp=Cn.lp:=by rw[hL.lp,k0.lp]
 rw[hq,hlp]
 refine Code.wpIn_mono ?_ hr
 intro x' a' w' hq
 cases x'<;>exact hq
end
end Vg
namespace Vg
open Go.RowKit
set_option linter.unusedSimpArgs false
set_option linter.unusedVariables false
abbrev Al:=List (ByteArray×Value)
def aget:Al→ByteArray→Option Value
 |[],_=>none
 |(k,v)::r,s=>if k=s then some v else aget r s
def aput:Al→ByteArray→Value→Al
 |[],s,v=>[(s,v)]
 |(k,w)::r,s,v=>if k=s then(k,v)::r else(k,w)::aput r s v
def mpE (es:List MapEntry)(l:Al):Prop:=es.map (fun e=>(e.key,e.val))=l.map fun p=>(Value.string p.1,p.2)
def MpB (H:Hp)(b:Nat)(l:Al):Prop:=∃es clk,H b (.map es clk)∧mpE es.toList l
theorem find_get (s:ByteArray):∀(es:List MapEntry) (l:Al) (i:Nat),mpE es l→
  (aget l s=none∧Instr.findNow .string (.string s) es i=some none∧aput l s=fun v=>l++[(s,v)])∨
  (∃j e,aget l s=some e.val∧Instr.findNow .string (.string s) es i=some (some (i+j,e.val))∧es[j]?=some e∧e.key= .string s∧∀v,mpE (es.modify j fun e=>{e with key:= .string s,val:=v}) (aput l s v))
 |[],[],i,_=> .inl ⟨rfl,rfl,rfl⟩
 |[],_::_,i,h=>by simp[mpE]at h
 |_::_,[],i,h=>by simp[mpE]at h
 |e::es,(k,w)::l,i,h=>by
  simp only[mpE,List.map_cons,List.cons.injEq,Prod.mk.injEq]at h
  obtain⟨⟨h1,h2⟩,h3⟩:=h
  by_cases hk:k=s
  ·right
   refine⟨0,e,by rw[aget,if_pos hk,h2],?_,rfl,by rw[h1,hk],fun v=>?_⟩
   ·simp only[Instr.findNow,h1,Instr.sameNow,hk,beq_self_eq_true]
    have:(s==s)=true:=(MapKept.bytes_beq s s).2 rfl
    rw[this];rfl
   ·simp only[aput]
    rw[if_pos hk]
    simp only[mpE,List.modify_zero_cons,List.map_cons,h3,hk]
  ·have hb:(s==k)=false:=by
    cases hq:(s==k)with
    |false=>rfl
    |true=>exact absurd ((MapKept.bytes_beq s k).1 hq).symm hk
   rcases find_get s es l (i+1) h3 with⟨g1,g2,g3⟩|⟨j,e',g1,g2,g3,g4,g5⟩
   ·left
    refine⟨by rw[aget,if_neg hk,g1],?_,?_⟩
    ·simp only[Instr.findNow,h1,Instr.sameNow,hb];exact g2
    ·funext v
     simp only[aput,if_neg hk,g3];rfl
   ·right
    refine⟨j+1,e',by rw[aget,if_neg hk,g1],?_,by simpa using g3,g4,fun v=>?_⟩
    ·simp only[Instr.findNow,h1,Instr.sameNow,hb];rw[g2];congr 3;omega
    ·have:=g5 v
     simp only[mpE]at this⊢
     simp only[aput,if_neg hk,List.modify_succ_cons,List.map_cons,this,h1,h2]
def mpOf (P:Program)(t:TypeId):Option (TypeId×TypeId):=
 match P.underlying t with
 |some (.map k e)=>if strOf P k then some (k,e)else none
 |_=>none
theorem mpOf_ok {P:Program}{t k e:TypeId}(h:mpOf P t=some (k,e)):P.underlying t=some (.map k e)∧P.underlying k=some .string:=by
 unfold mpOf at h
 split at h
 ·split at h<;>simp at h
  rename_i hu hs
  obtain⟨rfl,rfl⟩:=h
  exact⟨hu,strOf_ok hs⟩
 ·cases h
def zvOf (P:Program)(t:TypeId):Option Value:=(P.info? t).bind (·.zero)
theorem zvOf_run {P:Program}{t:TypeId}{z:Value}(h:zvOf P t=some z)(w:World):(zeroValue t).run P w= .ok z w:=by
 unfold zvOf at h
 cases hi:P.info? t with
 |none=>simp[hi]at h
 |some i=>
  simp only[hi,Option.bind_some]at h
  simp[zeroValue,typeInfo,hi,h]
theorem run_lookupS {P:Program}{t k e:TypeId}{z:Value}(ht:mpOf P t=some (k,e))(hz:zvOf P e=some z){w:World}{b:Nat}{es:Array MapEntry}{clk:Nat}{l:Al}(hb:w.heap[b]?=some (.map es clk))(hl:mpE es.toList l)(s:ByteArray)(ok:Bool):
  (Instr.lookup t (.map (some b)) (.string s) ok).run P w= .ok (if ok then .tuple #[(aget l s).getD z,.bool (aget l s).isSome]else(aget l s).getD z) w:=by
 obtain⟨h1,h2⟩:=mpOf_ok ht
 have hck:(Instr.checkKey es.isEmpty 10000 k (.string s)).run P w= .ok () w:=MapKept.run_checkKey (d:= .string) (k:= .string s) h2 trivial _ 9999
 rcases find_get s es.toList l 0 hl with⟨g1,g2,_⟩|⟨j,e',g1,g2,_⟩
 ·have hf:=MapKept.run_findKey (P:=P) (w:=w) (kt:=k) h2 g2
  cases ok<;>simp[Instr.lookup,run_underlying h1,MapKept.run_getObj_map hb,hck,hf,zvOf_run hz,g1,Result.andThen]
 ·have hf:=MapKept.run_findKey (P:=P) (w:=w) (kt:=k) h2 g2
  cases ok<;>simp[Instr.lookup,run_underlying h1,MapKept.run_getObj_map hb,hck,hf,g1,Result.andThen]
theorem run_updateS {P:Program}{t k e:TypeId}(ht:mpOf P t=some (k,e)){w:World}{b:Nat}{es:Array MapEntry}{clk:Nat}{l:Al}(hb:w.heap[b]?=some (.map es clk))(hl:mpE es.toList l)(s:ByteArray)(v:Value):
  ∃es' clk',(Instr.mapUpdate t (.map (some b)) (.string s) v).run P w= .ok () {w with heap:=w.heap.setIfInBounds b (.map es' clk')}∧mpE es'.toList (aput l s v):=by
 obtain⟨h1,h2⟩:=mpOf_ok ht
 have hck:(Instr.checkKey false 10000 k (.string s)).run P w= .ok () w:=MapKept.run_checkKey (d:= .string) (k:= .string s) h2 trivial _ 9999
 rcases find_get s es.toList l 0 hl with⟨g1,g2,g3⟩|⟨j,e',g1,g2,g3,g4,g5⟩
 ·have hf:=MapKept.run_findKey (P:=P) (w:=w) (kt:=k) h2 g2
  refine⟨es.push {key:= .string s,val:=v,born:=clk},clk+1,?_,?_⟩
  ·simp[Instr.mapUpdate,run_underlying h1,MapKept.run_getObj_map hb,hck,hf,MapKept.run_setObj_map _ hb,Result.andThen]
  ·rw[g3];simp only[mpE]at hl⊢;simp[hl]
 ·have hf:=MapKept.run_findKey (P:=P) (w:=w) (kt:=k) h2 g2
  rw[Nat.zero_add]at hf
  have hj:es[j]?=some e':=by simpa using g3
  refine⟨es.modify j fun e=>{e with key:= .string s,val:=v},clk,?_,?_⟩
  ·have hst:=MapKept.run_keyThatStays (P:=P) (w:=w) (d:= .string) (k:= .string s) trivial
   simp[Instr.mapUpdate,run_underlying h1,MapKept.run_getObj_map hb,hck,hf,MapKept.run_setObj_map _ hb,Result.andThen,hj,g4,hst]
  ·simpa using g5 v
theorem Rel.hset {S:Bs}{w0 w:World}{β:Vl}{M:Mem}(h:Rel S w0 β M w){b:Nat}{o o':Obj}(hb:w.heap[b]?=some o)(hw:¬Wrt β M b)(hc:∀c el mk,o≠ .cells c el mk)(hS:S.s b→w0.heap.size≤b):Rel S w0 β M {w with heap:=w.heap.setIfInBounds b o'}:=by
 have hoth:∀k,k≠b→(w.heap.setIfInBounds b o')[k]?=w.heap[k]?:=fun k hk=>by simp[Ne.symm hk]
 refine⟨⟨h.fr.os,h.fr.tape,h.fr.output,by simpa using h.fr.size,fun k hk hlt=>?_⟩,⟨fun β' hag n c hn=>?_,fun n c hn hu=>by simpa using h.mem.there n c hn hu,h.mem.apart⟩,h.own,h.pin⟩
 ·show(w.heap.setIfInBounds b o')[k]?=_
  rw[hoth k (fun hh=>by subst hh;have:=hS hk;omega)]
  exact h.fr.old k hk hlt
 ·have hold:=h.mem.ok β' hag n c hn
  have hbn:β' n=β n:=hag n (by simp[hn])
  cases hu:(β n).nul with
  |true=>
   unfold BkOk at hold⊢
   rw[if_pos (by rw[hbn];exact hu)]at hold⊢
   exact hold
  |false=>
   by_cases hk:(β n).blk=b
   ·-- its block is the map's:then nothing is said of it
    by_cases hr:c.ro=false
    ·exact absurd ⟨n,c,hn,hr,hu,hk.symm⟩ hw
    ·have hr:c.ro=true:=by simpa using hr
     by_cases hcs:c.cells=[]
     ·unfold BkOk
      rw[if_neg (by rw[hbn];simp[hu]),if_pos hr,hcs]
      exact⟨fun j v hj=>by simp at hj,by simp⟩
     ·unfold BkOk at hold
      rw[if_neg (by rw[hbn];simp[hu]),if_pos hr,hbn]at hold
      obtain⟨x,r,hx⟩:=List.exists_cons_of_ne_nil hcs
      have:=hold.1 0 (x.g β') (by rw[hx];rfl)
      rw[hk]at this
      simp only[World.cell?,hb]at this
      cases o with
      |cells cc el mk=>exact absurd rfl (hc cc el mk)
      |_=>simp at this
   ·exact hold.same (by rw[hbn];exact hoth _ hk)
theorem Rel.push {S:Bs}{w0 w:World}{β:Vl}{M:Mem}(h:Rel S w0 β M w)(o:Obj):Rel S w0 β M (w.alloc o):=by
 have hold:∀k,k<w.heap.size→(w.alloc o).heap[k]?=w.heap[k]?:=fun k hk=>Below.heap_alloc w o k hk
 refine⟨⟨h.fr.os,h.fr.tape,h.fr.output,Nat.le_trans h.fr.size (by simp),fun k hk hlt=>?_⟩,⟨fun β' hag n c hn=>?_,fun n c hn hu=>Nat.lt_of_lt_of_le (h.mem.there n c hn hu) (by simp),h.mem.apart⟩,h.own,h.pin⟩
 ·rw[hold k (Nat.lt_of_lt_of_le hlt h.fr.size)];exact h.fr.old k hk hlt
 ·have hk:=h.mem.ok β' hag n c hn
  have hbn:β' n=β n:=hag n (by simp[hn])
  cases hu:(β n).nul with
  |true=>
   unfold BkOk at hk⊢
   rw[if_pos (by rw[hbn];exact hu)]at hk⊢
   exact hk
  |false=>exact hk.same (by rw[hbn];exact hold _ (h.mem.there n c hn hu))
section
variable {P:Program} {nt:Nat} {C Ck:Cx} {rg:Array Oper} {o:Oper} {l:List Oper} {r:List It} {e:Env} {M:Mem}
theorem Sm.makeMap {t:TypeId}(hL:Lf C Ck)(hg:gd rg e o=some true)(hd:dstOk nt o.dst=true)(ho:o.op= .makeMap t none)
  (k:∀b Cn,Lf C Cn→Ck.hp.le Cn.hp→C.w0.heap.size≤b→Ck.w0.heap.size≤b→MpB Cn.hp b []→Sm P nt Cn (.ops rg l::r) (e.put o.dst true (.c (.v (.map (some b))))) M):Sm P nt Ck (.ops rg (o::l)::r) e M:=fun β a w h1 h2 h3 h4=>by
 have hw:Region.wanted o (yielded rg a.tmps)=true:=gd_ok (β:=β) hg (fun j want t y _ _ hy=>h2 β (Agree.refl _ _) t y hy)
 show wpListIn (fen Ck.lp) 0 P rg (cont P Ck.lp Ck.Q r) (o::l) a w
 refine wpListIn_step fun K hK=>?_
 rw[hw]
 simp only[if_true]
 refine Oper.wp_in Ck.lp (gd_nd hg).1 ?_
 unfold Oper.wp execOp
 have hrun:=run_makeMap (P:=P) t w
 simp only[ho,Option.map_none,Sem.run_bind,hrun,Result.andThen_ok,Sem.run_pure]
 show K _ _
 have hp:=h1.push (.map #[] 0)
 obtain⟨l1,l2⟩:=hL.at hp (s:=fun b=>¬Wrt β M b) (fun b hb=>Classical.not_not.1 hb)
 have hq:=hp.at hL (s:=fun b=>¬Wrt β M b) (fun b hb hn=>hn hb) hp.mem (fun n l hl=>(hp.pin n l (by rw[hL.pin];exact hl)).1)
 have hsz:C.w0.heap.size≤w.heap.size:=Nat.le_trans hL.sz h1.fr.size
 refine hK _ _ ?_
 rw[hL.q,hL.lp]
 refine k w.heap.size _ l1 l2 hsz h1.fr.size ⟨#[],0,⟨?_,?_,?_⟩,rfl⟩ β _ _ hq ?_ ?_ ?_
 ·rintro⟨n,c,q1,q2,q3,q4⟩
  have:=h1.mem.there n c q1 q3
  omega
 ·intro hz
  have:=(hL.zok _ hz).2
  omega
 ·show(w.heap.push _)[w.heap.size]?=_
  simp
 ·exact h2.put (N:=[]) (Agree.refl _ _) h3 (dstOk_lt hd) (fun β'' _=>rfl)
 ·cases o.dst<;>simp[Act.put,h3]
 ·have h4:=h4.trans hL.df
  cases o.dst<;>simp[Act.put,h4,Cx.at]
end
theorem StpC.lookup {P:Program}{C:Cx}{o:Oper}{e:Env}{M:Mem}{t tk te:TypeId}{m x:Operand}{b:Nat}{al:Al}{s:ByteArray}{z:Value}{v:V}{ok:Bool}(ho:o.op= .lookup t m x ok)(ht:mpOf P t=some (tk,te))(hz:zvOf P te=some z)
  (hm:rd e m=some (true,.c (.v (.map (some b))))) (hx:rd e x=some (true,.c (.v (.string s)))) (hb:MpB C.hp b al)
  (hv:∀β,v.g β=if ok then .tuple #[(aget al s).getD z,.bool (aget al s).isSome]else(aget al s).getD z):StpC P C.S C.w0 o e M v []:=by
 intro β M' a w _ _ hrel hop K Q hk
 obtain⟨es,clk,q1,q2⟩:=hb
 have hbw:=Cx.hp_now hrel q1
 have em:=hop β (Agree.refl _ _) m (by simp[ho,Op.operands]) _ hm
 have ex:=hop β (Agree.refl _ _) x (by simp[ho,Op.operands]) _ hx
 simp only[gv,V.g,Cv.g,cond_true]at em ex
 have hrun:=run_lookupS ht hz hbw q2 s ok
 unfold Oper.wp execOp
 simp only[ho,em,ex,Sem.run_bind,hrun,Result.andThen_ok,Sem.run_pure]
 exact hk β _ w (Agree.refl _ _) hrel (fun β'' _=>(hv β'').symm)
end Vg
namespace Vg
open Go.RowKit
set_option linter.unusedSimpArgs false
set_option linter.unusedVariables false
def Cx.inn (C:Cx)(β:Vl)(M:Mem)(Q:Exit→Act→World→Prop)(lp:Option Nat):Cx:=⟨⟨C.S.s,fun n=>if (M.get n).isSome=true then some (β n)else none,C.S.z⟩,C.w0,Q,lp,[]⟩
theorem EnvOk.on {β β':Vl}{M M':Mem}{e:Env}{a:Act}(h:EnvOk β M e a)(hp:∀n,(M.get n).isSome=true→(M'.get n).isSome=true∧β' n=β n):EnvOk β' M' e a:=fun β'' hag t x hx=>h β'' (fun n hn=>(hag n (hp n hn).1).trans (hp n hn).2) t x hx
def Cx.mark (C:Cx)(dB:Nat):Cx:=⟨C.S,C.w0,C.Q,C.lp,{target:= .collected dB,args:= #[]}::C.df⟩
def putL:Env→List (Tmp×V)→Env
 |e,[]=>e
 |e,(p,v)::r=>putL ((p,true,v)::e) r
end Vg
namespace Vg
open Go.RowKit
set_option linter.unusedSimpArgs false
set_option linter.unusedVariables false
def Hp.wo (H:Hp)(ds:List Nat):Hp:=fun b o=>H b o∧b∉ds
theorem CallX.ren {H:Hp}{P:Program}{f:FuncId}{args:List V}{M:Mem}{α:Type}{v:α→V}{N:α→Mem}{Q:α→Hp→Prop}{ρ:Nat→Nat}(hi:∀n m,ρ n=ρ m→n=m)(h:CallX H P f args M v N Q):CallX H P f (args.map (V.ren ρ)) (M.ren ρ) (fun x=>(v x).ren ρ) (fun x=>(N x).ren ρ) Q:=by
 classical
 obtain⟨hent,hN,hU,hc⟩:=h
 have hwr:∀(β:Vl) (M:Mem) b,Wrt (fun n=>β (ρ n)) M b↔Wrt β (M.ren ρ) b:=by
  intro β M b
  constructor
  ·rintro⟨n,c,h1,h2,h3,h4⟩
   exact⟨ρ n,c.ren ρ,by rw[Mem.ren_get hi,h1];rfl,h2,h3,h4⟩
  ·rintro⟨k,c,h1,h2,h3,h4⟩
   obtain⟨n,d,rfl,hn,rfl⟩:=Mem.ren_some' hi h1
   exact⟨n,d,hn,h2,h3,h4⟩
 refine⟨hent,fun x n b hb hb'=>?_,fun x n b b' hb hb'=>?_,fun β w Z hm hH hZ=>?_⟩
 ·obtain⟨k,c,rfl,hk,rfl⟩:=Mem.ren_some' hi hb
  refine hN x k c hk ?_
  rw[Mem.ren_get hi]at hb'
  simpa using hb'
 ·obtain⟨k,c,rfl,hk,rfl⟩:=Mem.ren_some' hi hb
  rw[Mem.ren_get hi]at hb'
  cases hq:M.get k with
  |none=>simp[hq]at hb'
  |some d=>simp[hq]at hb';subst hb';exact hU x k c d hk hq
 let up:Vl→Vl→Vl:=fun β' β k=>if hk:∃n,ρ n=k then β' hk.choose else β k
 have hup:∀β' β n,up β' β (ρ n)=β' n:=by
  intro β' β n
  have hk:∃m,ρ m=ρ n:=⟨n,rfl⟩
  simp only[up,dif_pos hk]
  rw[hi _ _ hk.choose_spec]
 have hup':∀β' β,(fun n=>up β' β (ρ n))=β':=fun β' β=>funext fun n=>hup β' β n
 have hdown:MemOk (fun n=>β (ρ n)) M w:=by
  refine⟨fun β' hag n b hb=>?_,fun n b hb=>?_,fun n m b b' hb hb' hne hro hlv=>?_⟩
  ·have h1:=hm.ok (up β' β) (fun k hk=>by
    obtain⟨b,hb⟩:=Option.isSome_iff_exists.1 hk
    obtain⟨n,c,rfl,hn,_⟩:=Mem.ren_some' hi hb
    rw[hup];exact hag n (by simp[hn])) (ρ n) (b.ren ρ) (by rw[Mem.ren_get hi,hb];rfl)
   have h2:=BkOk.ren.1 h1
   rw[hup']at h2
   exact h2
  ·exact hm.there (ρ n) (b.ren ρ) (by rw[Mem.ren_get hi,hb];rfl)
  ·exact hm.apart (ρ n) (ρ m) (b.ren ρ) (b'.ren ρ) (by rw[Mem.ren_get hi,hb];rfl) (by rw[Mem.ren_get hi,hb'];rfl) (fun hh=>hne (hi _ _ hh)) hro (Bk.ren_lv hlv)
 have hC:=hc _ w Z hdown (fun b o hb=>by obtain⟨q1,q2,q3⟩:=hH b o hb;exact⟨q1,q2,fun hw=>q3 ((hwr β M b).1 hw)⟩) (fun b hb=>by obtain⟨q1,q2⟩:=hZ b hb;exact⟨q1,fun hw=>q2 ((hwr β M b).1 hw)⟩)
 have hargs:(args.map (V.ren ρ)).map (V.g β)=args.map (V.g fun n=>β (ρ n)):=by
  rw[List.map_map];exact List.map_congr_left fun x _=>V.ren_g ρ β x
 rw[hargs]
 refine hC.mono ?_
 rintro en w' ⟨x,β',H',hag,hen,hmem,hfr,hnew,hH',hQ⟩
 have happ:Mem.ren ρ (N x)++Mem.ren ρ M=Mem.ren ρ (N x++M):=by simp[Mem.ren]
 refine⟨x,up β' β,H',fun k hk=>?_,fun β'' hag''=>?_,?_,⟨hfr.os,hfr.tape,hfr.output,hfr.size,fun k hk hlt=>hfr.old k (fun n b hb hro hu=>?_) hlt⟩,fun k hk hM hu=>?_,fun b o hb=>?_,hQ⟩
 ·obtain⟨b,hb⟩:=Option.isSome_iff_exists.1 hk
  obtain⟨n,c,rfl,hn,_⟩:=Mem.ren_some' hi hb
  rw[hup];exact hag n (by simp[hn])
 ·rw[V.ren_g]
  refine hen _ (fun n hn=>?_)
  rw[happ]at hag''
  obtain⟨b,hb⟩:=Option.isSome_iff_exists.1 hn
  rw[hag'' (ρ n) (by rw[Mem.ren_get hi,hb];rfl),hup]
 ·rw[happ]
  refine⟨fun β'' hag'' k b hb=>?_,fun k b hb hu=>?_,fun k m b b' hb hb' hne hro hlv hu hu'=>?_⟩
  ·obtain⟨n,c,rfl,hn,rfl⟩:=Mem.ren_some' hi hb
   refine BkOk.ren.2 (hmem.ok _ (fun j hj=>?_) n c hn)
   obtain⟨d,hd⟩:=Option.isSome_iff_exists.1 hj
   rw[hag'' (ρ j) (by rw[Mem.ren_get hi,hd];rfl),hup]
  ·obtain⟨n,c,rfl,hn,rfl⟩:=Mem.ren_some' hi hb
   rw[hup]at hu⊢
   exact hmem.there n c hn hu
  ·obtain⟨n,c,rfl,hn,rfl⟩:=Mem.ren_some' hi hb
   obtain⟨n',c',rfl,hn',rfl⟩:=Mem.ren_some' hi hb'
   rw[hup]at hu hu'⊢
   rw[hup]
   refine hmem.apart n n' c c' hn hn' (fun hh=>hne (by rw[hh])) hro ?_ hu hu'
   rcases hlv with h|h
   ·exact .inl h
   ·exact .inr (by simpa[Bk.ren]using h)
 ·exact hk (ρ n) (b.ren ρ) (by rw[Mem.ren_get hi,hb];rfl) hro hu
 ·obtain⟨b,hb⟩:=Option.isSome_iff_exists.1 hk
  obtain⟨n,c,rfl,hn,_⟩:=Mem.ren_some' hi hb
  rw[hup]at hu⊢
  rcases hnew n (by simp[hn]) (by rw[Mem.ren_get hi]at hM;simpa using hM) hu with h|⟨k,d,y,g1,g2,g3,g4,g5,g6⟩
  ·exact .inl h
  ·refine .inr ⟨ρ k,d.ren ρ,y.ren ρ,by rw[Mem.ren_get hi,g1];rfl,g2,g3,by rw[Mem.ren_get hi,g4];rfl,fun hl=>g5 ?_,g6⟩
   rcases hl with h|h
   ·exact .inl h
   ·exact .inr (by simpa[Bk.ren]using h)
 ·obtain⟨q1,q2,q3⟩:=hH' b o hb
  refine⟨q1,q2,fun hw=>q3 ?_⟩
  rw[happ]at hw
  have:=(hwr (up β' β) (N x++M) b).2 hw
  rw[hup']at this
  exact this
section
variable {P:Program} {nt:Nat} {C Ck:Cx} {todo r:List It} {e e0:Env} {M M0 Mf:Mem}
end
attribute [go_sem] Mem.conc Env.conc Cv.conc V.conc W.conc Bk.conc Cv.cok V.cok W.cok concOk List.any_cons List.any_nil putL
end Vg
namespace Vg
open Go.RowKit
set_option linter.unusedSimpArgs false
set_option linter.unusedVariables false
theorem Sm.brings {P:Program}{nt:Nat}{C:Cx}{todo:List It}{e:Env}{M:Mem}(σ:Nat→Option Loc)(Mn:Mem)(e':Env)(hn:Mn.all (fun p=>(M.get p.1).isNone&&p.2.ro)=true)(hσ:∀n l,σ n=some l→(Mn.get n).isSome=true)
  (h:∀β:Vl,(∀n l,σ n=some l→β n=l)→(∀n b,Mn.get n=some b→LcH C.hp (β n) (b.cells.map (Cv.g β)))∧(∀t x,e'.get t=some x→∃y,e.get t=some y∧gv β x=gv β y))
  (k:Sm P nt C todo e' (Mn++M)):Sm P nt C todo e M:=fun β a w h1 h2 h3 h4=>by
 have hnone:∀n b,Mn.get n=some b→M.get n=none∧b.ro=true:=fun n b hb=>by
  have:=List.all_eq_true.1 hn (n,b) (Mem.mem_of_get hb)
  simpa using this
 have hold:∀n b,M.get n=some b→Mn.get n=none:=fun n b hb=>by
  cases hq:Mn.get n with
  |none=>rfl
  |some d=>rw[(hnone n d hq).1]at hb;cases hb
 have hσM:∀n b,M.get n=some b→σ n=none:=fun n b hb=>by
  cases hq:σ n with
  |none=>rfl
  |some l=>
   have:=hσ n l hq
   rw[hold n b hb]at this;cases this
 let β2:Vl:=fun n=>(σ n).getD (β n)
 have hb2:∀n l,σ n=some l→β2 n=l:=fun n l hl=>by simp[β2,hl]
 have hbM:∀n b,M.get n=some b→β2 n=β n:=fun n b hb=>by simp[β2,hσM n b hb]
 have hag:∀β',Agree (Mn++M) β2 β'→Agree M β β'∧∀n l,σ n=some l→β' n=l:=fun β' hag=>by
  refine⟨fun n hn'=>?_,fun n l hl=>?_⟩
  ·obtain⟨b,hb⟩:=Option.isSome_iff_exists.1 hn'
   rw[hag n (by rw[Mem.get_append,hold n b hb];simpa using hn'),hbM n b hb]
  ·have h5:=hσ n l hl
   rw[hag n (by rw[Mem.get_append];cases hq:Mn.get n with|none=>rw[hq]at h5;cases h5|some d=>rfl),hb2 n l hl]
 have hget:∀n b,(Mn++M:Mem).get n=some b→Mn.get n=some b∨(Mn.get n=none∧M.get n=some b):=fun n b hb=>by
  rw[Mem.get_append]at hb
  cases hq:Mn.get n with
  |some d=>rw[hq]at hb;left;simpa using hb
  |none=>rw[hq]at hb;right;exact⟨rfl,by simpa using hb⟩
 have hH:∀n b,Mn.get n=some b→LcH C.hp (β2 n) (b.cells.map (Cv.g β2)):=fun n b hb=>(h β2 hb2).1 n b hb
 have hself:Agree (Mn++M) β2 β2:=Agree.refl _ _
 refine k β2 a w ⟨h1.fr,⟨fun β' hag' n b hb=>?_,fun n b hb hu=>?_,fun n m b b' hb hb' hnm hr hlv hu hu'=>?_⟩,fun n b hb hr hu hS=>?_,fun n q hq=>?_⟩ (fun β' hag' t x hx=>?_) h3 h4
 ·obtain⟨g1,g2⟩:=hag β' hag'
  rcases hget n b hb with hb|⟨_,hb⟩
  ·have hL:=(h β' g2).1 n b hb
   have hr:=(hnone n b hb).2
   unfold BkOk
   cases hu:(β' n).nul with
   |true=>
    simp only[if_true]
    have:=hL.1 hu
    exact⟨by simpa using this,fun hh=>by rw[hr]at hh;cases hh⟩
   |false=>
    simp only[Bool.false_eq_true,if_false,hr,if_true]
    obtain⟨c,el',mk,q1,q2⟩:=hL.2.2 hu
    refine⟨fun j v hj=>?_,by simpa using hL.2.1⟩
    simp[World.cell?,Cx.hp_now h1 q1,q2 j v hj]
  ·exact h1.mem.ok β' g1 n b hb
 ·rcases hget n b hb with hb|⟨_,hb⟩
  ·obtain⟨c,el',mk,q1,q2⟩:=(hH n b hb).2.2 hu
   exact Nat.lt_of_lt_of_le (C.hp_lt q1) h1.fr.size
  ·rw[hbM n b hb]at hu⊢
   exact h1.mem.there n b hb hu
 ·rcases hget n b hb with hb|⟨_,hb⟩
  ·rw[(hnone n b hb).2]at hr;cases hr
  ·rw[hbM n b hb]at hu⊢
   rcases hget m b' hb' with hb'|⟨_,hb'⟩
   ·obtain⟨c,el',mk,q1,q2⟩:=(hH m b' hb').2.2 hu'
    exact fun hh=>Cx.hp_wrt h1 q1 ⟨n,b,hb,hr,hu,hh.symm⟩
   ·rw[hbM m b' hb']at hu'⊢
    exact h1.mem.apart n m b b' hb hb' hnm hr hlv hu hu'
 ·rcases hget n b hb with hb|⟨_,hb⟩
  ·rw[(hnone n b hb).2]at hr;cases hr
  ·rw[hbM n b hb]at hu hS⊢
   exact h1.own n b hb hr hu hS
 ·obtain⟨p1,p2⟩:=h1.pin n q hq
  obtain⟨b,hb⟩:=Option.isSome_iff_exists.1 p1
  exact⟨by rw[Mem.get_append,hold n b hb];simpa using p1,by rw[hbM n b hb];exact p2⟩
 ·obtain⟨g1,g2⟩:=hag β' hag'
  obtain⟨y,hy,he⟩:=(h β' g2).2 t x hx
  rw[h2 β' g1 t y hy,he]
theorem SlH.loc {H:Hp}{v:Value}{sz:Nat}{rows:List (List Value)}(h:SlH H v sz rows):∃l:Loc,(∀(β:Vl) (nm:Nat),β nm=l→(Cv.sl nm 0 rows.length sz).g β=v)∧LcH H l rows.flatten∧∀r∈rows,r.length=sz:=by
 obtain⟨l,h1,h2,h3⟩:=h
 exact⟨l,fun β nm hb=>by rw[h1,slg hb],h3,h2⟩
theorem PtH.loc {H:Hp}{v:Value}{cs:List Value}(h:PtH H v cs):∃l:Loc,(∀(β:Vl) (nm:Nat),β nm=l→(Cv.p nm 0).g β=v)∧LcH H l cs:=by
 obtain⟨l,h1,h2,h3⟩:=h
 exact⟨l,fun β nm hb=>by rw[h1];simp[Cv.g,ptr,hb],h3⟩
theorem mapV_g (β:Vl)(cs:List Value):(cs.map Cv.v).map (Cv.g β)=cs:=by
 rw[List.map_map];conv=>rhs;rw[←List.map_id cs]
 exact List.map_congr_left fun _ _=>rfl
def CallW (P:Program)(nt:Nat)(C:Cx)(f:FuncId)(xs:List V)(dst:Option Nat)(todo:List It)(e:Env)(M:Mem):Prop:=
 ∀β (a:Act) w,Rel C.S C.w0 β M w→EnvOk β M e a→a.tmps.size=nt→a.defers=C.df→
  Calls P f (xs.map (V.g β)).toArray w fun en w'=>∃u,en= .returned u∧cont P C.lp C.Q todo .normal (a.put dst u) w'
theorem CallQ.ofW {P:Program}{nt:Nat}{C:Cx}{todo:List It}{e:Env}{M:Mem}{f:FuncId}{vs:List (Option (Bool×V))}{g:Bool}{dst:Option Nat}{xs:List V}(hent:Enters P f)(hg:g=true)(hvs:vs=xs.map fun x=>some (true,x))(h:CallW P nt C f xs dst todo e M):CallQ P nt C f vs g dst todo e M:=
 Or.inr ⟨hg,xs,hvs,hent,h⟩
theorem CallW.x {P:Program}{nt:Nat}{C Ck:Cx}{todo:List It}{e:Env}{M:Mem}{H:Hp}{f:FuncId}{dst:Option Nat}{xs:List V}{M1:Mem}{α:Type}{v:α→V}{N:α→Mem}{Q:α→Hp→Prop}(nx:Nat)(hL:Lf C Ck)(hc:CallX H P f xs M1 v N Q)(hH:H.le Ck.hp)(hs:Sub M1 M)(hcl:ClM M1)(hfr:∀x,Fresh (N x) M1 M)(hd:dstOk nt dst=true)
  (h:∀x Cn H',Lf C Cn→Ck.hp.le Cn.hp→H'.le Cn.hp→Q x H'→run P nt Cn 1000 todo (e.put dst true (v x)) (N x++M) nx):CallW P nt Ck f xs dst todo e M:=fun β a w h1 h2 h3 h4=>by
 refine(hc.at hL hH hs hcl hfr h1).mono ?_
 rintro en w' ⟨x,Cn,β2,u,H',rfl,l1,l2,l3,hQ,g1,g2,g3⟩
 refine⟨u,rfl,?_⟩
 rw[hL.q,←l1.q,hL.lp,←l1.lp]
 refine run_ok 1000 _ _ _ nx (h x Cn H' l1 l2 l3 hQ) β2 _ w' g2 ?_ ?_ ?_
 ·exact EnvOk.put h2 g1 h3 (dstOk_lt hd) (fun β'' hb=>by rw[g3 β'' hb];rfl)
 ·cases dst<;>simp[Act.put,h3]
 ·have h4:=h4.trans (hL.df.trans l1.df.symm)
  cases dst<;>simp[Act.put,h4]
theorem CallW.h {P:Program}{nt:Nat}{C Ck:Cx}{todo:List It}{e:Env}{M:Mem}{H:Hp}{f:FuncId}{dst:Option Nat}{xs:List V}{v:V}(nx:Nat)(hL:Lf C Ck)(hc:CallH H P f xs v)(hH:H.le Ck.hp)(hd:dstOk nt dst=true)
  (h:∀Cn,Lf C Cn→Ck.hp.le Cn.hp→run P nt Cn 1000 todo (e.put dst true v) M nx):CallW P nt Ck f xs dst todo e M:=
 CallW.x nx hL hc hH (Sub.nil _) ClM.nil (fun _=>Fresh.nil _ _) hd (fun _ Cn _ l1 l2 _ _=>h Cn l1 l2)
theorem CallQ.letgo {P:Program}{nt:Nat}{C Ck:Cx}{todo:List It}{e:Env}{M M0:Mem}{f:FuncId}{vs:List (Option (Bool×V))}{g:Bool}{dst:Option Nat}{xs:List V}(L:List Nat)(hL:Lf C Ck)(hP:Pins C.S M0)(h0:M0.all (fun p=> !L.contains p.1)=true)(hok:concOk L e M=true)(hxs:xs.all (V.cok L)=true)(hent:Enters P f)(hg:g=true)(hvs:vs=xs.map fun x=>some (true,x))
  (h:∀β Cn,Lf C Cn→Ck.hp.le Cn.hp→(∀n b,L.contains n=true→M.get n=some b→b.ro=false→Known Cn.hp β n b)→CallW P nt Cn f (xs.map (V.conc L β)) dst todo (e.conc L β) (M.conc L β)):CallQ P nt Ck f vs g dst todo e M:=by
 refine CallQ.ofW hent hg hvs fun β a w h1 h2 h3 h4=>?_
 obtain⟨Cn,l1,l2,l3,l4,l5⟩:=seal_core L hL hP h0 hok h1 h2
 have hb:mix2 L β β=β:=by
  funext n
  unfold mix2
  cases L.contains n<;>rfl
 have hxe:(xs.map (V.conc L β)).map (V.g β)=xs.map (V.g β):=by
  rw[List.map_map]
  refine List.map_congr_left fun x hx=>?_
  have:=V.conc_g (L:=L) (β:=β) (β':=β) (List.all_eq_true.1 hxs x hx)
  rw[hb]at this
  exact this
 have:=h β Cn l1 l2 l3 β a w l4 l5 h3 (h4.trans (hL.df.trans l1.df.symm))
 rw[hxe]at this
 rw[hL.q,hL.lp,←l1.q,←l1.lp]
 exact this
end Vg
namespace Vg
open Go.RowKit
set_option linter.unusedSimpArgs false
set_option linter.unusedVariables false
theorem Stp.touchs {P:Program}{o:Oper}{e:Env}{M N X:Mem}{v:V}(h:Stp P o e M v N)(hX:∀n b,X.get n=some b→M.get n=some b∧b.ro=false):Stp P o e M v (N++X):=by
 intro S w0 β M' a w hsub hfr hrel hok K Q hk
 have hg:∀k,Mem.get ((N++X)++M') k=Mem.get (N++M') k:=fun k=>by
  rw[Mem.get_append,Mem.get_append,Mem.get_append]
  cases hN:N.get k with
  |some y=>rfl
  |none=>
   cases hx:X.get k with
   |none=>rfl
   |some b=>
    obtain⟨q1,q2⟩:=hX k b hx
    obtain⟨b',hb',hwk⟩:=hsub k b q1
    obtain rfl:b=b':=by rcases hwk with h|h;exact h;rw[q2]at h;exact absurd h.1 (by simp)
    simp[hb']
 refine h S w0 β M' a w hsub (fun k hk'=>hfr k (by rw[Mem.get_append];cases hq:N.get k with|some y=>rfl|none=>rw[hq]at hk';cases hk')) hrel hok K Q (fun β' u w' hag hrel' hu=>hk β' u w' hag (hrel'.ext hg) (fun β'' hag2=>hu β'' (fun k hk=>hag2 k (by rw[hg];exact hk))))
def KX (M M0:Mem):Mem→Prop
 |[]=>True
 |(n,b)::X=>(M.get n=some b∧b.ro=false∧(M0.get n).isNone=true)∧KX M M0 X
theorem KX.ok {M M0:Mem}:∀{X:Mem},KX M M0 X→∀n b,X.get n=some b→M.get n=some b∧b.ro=false∧M0.get n=none
 |[],_,n,b,h=>by cases h
 |(k,c)::X,⟨h1,h2⟩,n,b,h=>by
  rw[Mem.get_cons]at h
  split at h
  ·rename_i hk;subst hk;cases h
   exact⟨h1.1,h1.2.1,by simpa using h1.2.2⟩
  ·exact KX.ok h2 n b h
theorem DOpQ.opy {P:Program}{nt:Nat}{C:Cx}{id:Nat}{rg:Array Oper}{r:List It}{e0 e:Env}{M0 Mf M:Mem}{k:Nat}{T:List (Nat×Nat)}{i:Nat}{o:Oper}{g:Bool}{l:List Oper}{v:V}{N0:Mem}{sc:Prop}{nx':Nat}(X:Mem)(nx:Nat)(hop:opY P e (X++M0) nx o.op=some (sc,v,N0,nx'))(hs:sc)(hg:g=true)(hX:KX M M0 X)
  (hN:N0.all (fun p=>(M0.get p.1).isNone&&((X.get p.1).isSome||(M.get p.1).isNone))=true) (hA:touchA rg i T o (N0++X)=true)
  (h:runD P nt C id rg r e0 M0 Mf k (kontW P nt C (.ops rg (rg.toList.drop k)::r)) (touchN (N0++X) i T) (i+1) l (e.put o.dst g v) ((N0++X)++M) nx'):DOpQ P nt C id rg r e0 M0 Mf k T i o g l e M:=by
 have hst:Stp P o e (X++M0) v (N0++X):=(opY_ok hop hs).touchs (fun n b hb=>⟨by rw[Mem.get_append,hb];rfl,(hX.ok n b hb).2.1⟩)
 refine Or.inl ⟨N0++X,X++M0,v,fun _=>hst.toC,.inl hg,⟨fun n b hb=>?_,fun n hn=>?_⟩,DrS.go nx' h⟩
 ·rw[Mem.get_append]at hb
  cases hq:X.get n with
  |none=>rw[hq]at hb;left;simpa using hb
  |some c=>
   rw[hq]at hb
   have:c=b:=by simpa using hb
   subst this
   refine .inr ⟨?_,(hX.ok n c hq).1⟩
   rw[Mem.get_append,hq];cases N0.get n<;>rfl
 ·have hmem:∃b,(N0++X:Mem).get n=some b:=Option.isSome_iff_exists.1 hn
  obtain⟨b,hb⟩:=hmem
  refine⟨?_,?_,fun j hj=>?_⟩
  ·rw[Mem.get_append]at hb
   cases hq:N0.get n with
   |some c=>
    have:=List.all_eq_true.1 hN (n,c) (Mem.mem_of_get hq)
    simp only[Bool.and_eq_true]at this
    simpa using this.1
   |none=>
    rw[hq]at hb
    exact(hX.ok n b (by simpa using hb)).2.2
  ·rw[Mem.get_append]
   cases hq:X.get n with
   |some c=>left;rfl
   |none=>
    right
    rw[Mem.get_append,hq]at hb
    cases hq2:N0.get n with
    |none=>rw[hq2]at hb;cases hb
    |some c=>
     have:=List.all_eq_true.1 hN (n,c) (Mem.mem_of_get hq2)
     simp only[Bool.and_eq_true,hq,Option.isSome_none,Bool.false_or]at this
     simpa using this.2
  ·have k2:=List.all_eq_true.1 hA (n,b) (Mem.mem_of_get hb)
   rcases hj with hj|hj<;>
   ·have:=List.all_eq_true.1 k2 _ hj
    exact ancB_ok 20 j o (by simpa using this)
def LookM (M:Mem):Mem→Prop
 |[]=>True
 |(n,b)::X=>M.get n=some b∧LookM M X
theorem LookM.ok {M:Mem}:∀{X:Mem},LookM M X→∀n b,X.get n=some b→M.get n=some b
 |[],_,n,b,h=>by cases h
 |(k,c)::X,⟨h1,h2⟩,n,b,h=>by
  rw[Mem.get_cons]at h
  split at h
  ·rename_i hk;subst hk;cases h;exact h1
  ·exact LookM.ok h2 n b h
def lookB (rg:Array Oper)(i:Nat)(T:List (Nat×Nat))(o:Oper)(X:Mem):Bool:=X.all fun p=>T.all fun q=> !(q.1==p.1)||ancB rg i 20 q.2 o
theorem DOpQ.look {P:Program}{nt:Nat}{C:Cx}{id:Nat}{rg:Array Oper}{r:List It}{e0 e:Env}{M0 Mf M:Mem}{k:Nat}{T:List (Nat×Nat)}{i:Nat}{o:Oper}{g:Bool}{l:List Oper}{v:V}{sc:Prop}{nx':Nat}(X:Mem)(nx:Nat)(hop:opE P e (X++M0) nx o.dst.isNone o.op=some (sc,v,[],nx'))(hs:sc)(hX:LookM M X)
  (hA:lookB rg i T o X=true)
  (h:runD P nt C id rg r e0 M0 Mf k (kontW P nt C (.ops rg (rg.toList.drop k)::r)) ((X.map (·.1)).map (fun n=>(n+1000000,i))++T) (i+1) l (e.put o.dst g v) M nx'):DOpQ P nt C id rg r e0 M0 Mf k T i o g l e M:=by
 refine Or.inr ⟨X.map (·.1),X++M0,v,fun _=>(opE_ok hop hs).toC,fun n b hb=>?_,fun n hn j hj=>?_,DrS.go nx' h⟩
 ·rw[Mem.get_append]at hb
  cases hq:X.get n with
  |none=>rw[hq]at hb;left;simpa using hb
  |some c=>
   rw[hq]at hb
   have:c=b:=by simpa using hb
   subst this
   exact .inr ⟨List.mem_map.2 ⟨(n,c),Mem.mem_of_get hq,rfl⟩,hX.ok n c hq⟩
 ·obtain⟨p,hp,rfl⟩:=List.mem_map.1 hn
  have k2:=List.all_eq_true.1 hA p hp
  have:=List.all_eq_true.1 k2 _ hj
  exact ancB_ok 20 j o (by simpa using this)
theorem StpC.ldH {P:Program}{C:Cx}{o:Oper}{e:Env}{M:Mem}{ty:TypeId}{x:Operand}{b i:Nat}{c:Array Value}{el:TypeId}{mk:Nat×Nat}{v:Value}(hb:C.hp b (.cells c el mk))(hc:c[i]?=some v)(ho:o.op= .load ty x)(hx:rd e x=some (true,.c (.v (.pointer (some ⟨b,i,none⟩)))))
  (ha:aggOf P ty=some false):StpC P C.S C.w0 o e M (.c (.v v)) []:=by
 intro β M' a w _ _ hrel hop K Q hk
 have he:=hop β (Agree.refl _ _) x (by simp[ho,Op.operands]) _ hx
 have hbw:=Cx.hp_now hrel hb
 have hcell:w.cell? ⟨b,i,none⟩=some v:=by simp[World.cell?,hbw,hc]
 simp only[gv,V.g,Cv.g,cond_true]at he
 have hrun:(execOp a.eval o).run P w= .ok (.value v) w:=by
  unfold execOp
  simp only[ho,he,Instr.loadAt,Instr.sureAddr,Sem.run_bind,Sem.run_pure,Result.andThen_ok,loadVar,run_isAgg_no ha,Bool.false_eq_true,if_false,run_load,hcell,Sem.run_ite]
 unfold Oper.wp
 rw[hrun]
 exact hk β v w (Agree.refl _ _) hrel (fun β'' _=>rfl)
end Vg
namespace Vg
open Go.RowKit
set_option linter.unusedVariables false
end Vg
namespace Vg
set_option linter.unusedSimpArgs false
set_option linter.unusedVariables false
set_option maxRecDepth 100000
theorem mix_pin {L:List Nat}{β0 β:Vl}(h:∀n,L.contains n=true→β0 n=β n):mix2 L β0 β=β:=by
 funext n
 unfold mix2
 cases hc:L.contains n with
 |true=>exact h n hc
 |false=>rfl
def Pnd (C:Cx)(L:List Nat)(β0:Vl):Prop:=∀n,L.contains n=true→C.S.pin n=some (β0 n)
theorem Pnd.lf {C C':Cx}{L:List Nat}{β0:Vl}(h:Pnd C L β0)(hL:Lf C C'):Pnd C' L β0:=fun n hn=>by rw[hL.pin];exact h n hn
theorem CallW.pin {P:Program}{nt:Nat}{C:Cx}{f:FuncId}{xs:List V}{dst:Option Nat}{todo:List It}{e:Env}{M:Mem}{L:List Nat}{β0:Vl}(hp:Pnd C L β0)(hok:xs.all (V.cok L)=true)(h:CallW P nt C f xs dst todo e M):CallW P nt C f (xs.map (V.conc L β0)) dst todo e M:=fun β a w h1 h2 h3 h4=>by
 have hm:mix2 L β0 β=β:=mix_pin fun n hn=>((h1.pin n _ (hp n hn)).2).symm
 have e1:(xs.map (V.conc L β0)).map (V.g β)=xs.map (V.g β):=by
  rw[List.map_map]
  refine List.map_congr_left fun x hx=>?_
  show(x.conc L β0).g β=x.g β
  rw[V.conc_g (List.all_eq_true.1 hok x hx),hm]
 rw[e1]
 exact h β a w h1 h2 h3 h4
theorem CallQ.mio {P:Program}{nt:Nat}{C:Cx}{todo:List It}{e:Env}{M:Mem}{f:FuncId}{vs:List (Option (Bool×V))}{g:Bool}{dst:Option Nat}{xs:List V}{v:V}{M1 N:Mem}(nx:Nat)(hc:CallOk P f xs M1 v N)(hcl:ClM M1)(hvs:vs=xs.map fun x=>some (true,x))
  (hs:SubS M1 M) (hfr:N.all (fun p=>(M1.get p.1).isSome||(M.get p.1).isNone)=true) (hg:g=true∨N=[]) (h:run P nt C 1000 todo (e.put dst g v) (N++M) nx):CallQ P nt C f vs g dst todo e M:=
 Or.inl ⟨M1,N,v,xs,fun _=>hvs,fun _=> .inl (.inl hc),hs.sub,hcl,Fresh.of hfr,hg,run_ok 1000 _ _ _ nx h⟩
theorem CallQ.xio {H:Hp}{P:Program}{nt:Nat}{C:Cx}{todo:List It}{e:Env}{M:Mem}{f:FuncId}{vs:List (Option (Bool×V))}{g:Bool}{dst:Option Nat}{xs:List V}{v:V}{M1 N:Mem}(nx:Nat)(hc:CallX H P f xs M1 (fun _:Unit=>v) (fun _=>N) (fun _ _=>True))(hH:H.le C.hp)(hcl:ClM M1)(hvs:vs=xs.map fun x=>some (true,x))
  (hs:SubS M1 M) (hfr:N.all (fun p=>(M1.get p.1).isSome||(M.get p.1).isNone)=true) (hg:g=true∨N=[]) (h:run P nt C 1000 todo (e.put dst g v) (N++M) nx):CallQ P nt C f vs g dst todo e M:=
 Or.inl ⟨M1,N,v,xs,fun _=>hvs,fun _=> .inr (CallX.kx hc hH hcl (fun _=>rfl) (fun _=>rfl)),hs.sub,hcl,Fresh.of hfr,hg,run_ok 1000 _ _ _ nx h⟩
theorem CallQ.mi {P:Program}{nt:Nat}{C:Cx}{todo:List It}{e:Env}{M:Mem}{f:FuncId}{vs:List (Option (Bool×V))}{g:Bool}{dst:Option Nat}{xs:List V}{v:V}{M1 N:Mem}(nx:Nat)(hc:CallOk P f xs M1 v N)(hcl:ClM M1)(hs:SubS M1 M)
  (h:run P nt C 1000 todo (e.put dst g v) (N++M) nx) (hvs:vs=xs.map fun x=>some (true,x):=by exact rfl) (hfr:N.all (fun p=>(M1.get p.1).isSome||(M.get p.1).isNone)=true:=by exact rfl) (hg:g=true∨N=[]:=by first|exact .inl rfl|exact .inr rfl):CallQ P nt C f vs g dst todo e M:=CallQ.mio nx hc hcl hvs hs hfr hg h
theorem CallX.mkP {H:Hp}{P:Program}{f:FuncId}{fn:Func}{body:Code}{args:List V}{M:Mem}{α:Type}{v:α→V}{N:α→Mem}{Q:α→Hp→Prop}(hf:P.funcs[f]?=some fn)(hb:fn.body=some body)(hent:Enters P f)(hnt:args.length≤fn.ntmps)(hcl:∀x∈args,ClV M x)
  (hN:∀x,(N x).all (fun p=> !p.2.ro||(M.get p.1).isSome)=true) (hU:∀x,(N x).all (fun p=>match M.get p.1 with|some b=> !b.ro|none=>true)=true)
  (h:∀C,(∀x Cn,Lf C Cn→Q x Cn.hp→RetOk P Cn fn (v x) (N x++M))→Pins C.S M→H.le C.hp→Lf C C→(∀n,(M.get n).isSome=true→∃l,C.S.pin n=some l)→Sm P fn.ntmps C [.code body] (initE 0 args) M):CallX H P f args M v N Q:=
 CallX.introP hf hb hent hnt (fun x n b h h0=>by have:=List.all_eq_true.1 (hN x) (n,b) (Mem.mem_of_get h);simpa[h0]using this)
  (fun x n b b' h h'=>by have:=List.all_eq_true.1 (hU x) (n,b) (Mem.mem_of_get h);simp only[h']at this;simpa using this) hcl h
end Vg
open Go.ChangeShapes Go.WideShapes Go.ChangeAt Go.RowKit
open Vg
def b1:Vl:=fun _=>⟨0,0,0,false,none⟩
def bdC:Cv→Prop
 | .v (.int k n)=>k.min≤n∧n≤k.max
 | .v (.string s)=>s.size≤maxLen
 |_=>True
section
variable {H:Type} {enc:TypeId×Value→H} {P:Program} {w:World} {base:Nat} {spare:Nat→Bool} {held:Bool} {r:Reach} {n0:Nat} {v:Value} {d:DataW H} {p:List MemPlace}
theorem wf_bd {k:IntKind}{n:Int}(h:(Lit.int k n).wf=true):k.min≤n∧n≤k.max:=by
 simpa[Lit.wf]using h
theorem open_cells:∀(D:Nat) (t:TypeId) (ks:List Lk),lfOf P D t=some ks→szOf P t=ks.length→∀(fuel:Nat) (cs:List Value) (x:DataW H×List MemPlace),DataW.trod enc P w base spare held fuel t cs=some x→
  ∃xs:List Cv,cs=xs.map (Cv.g b1)∧okL ks xs=true∧∀c∈xs,bdC c
 |0,t,ks,h,hz,fuel,cs,x,hx=>by cases h
 |D+1,t,ks,h,hz,fuel,cs,x,hx=>by
  simp only[lfOf]at h
  split at h
  ·rename_i k hu
   simp at h;subst h
   obtain⟨n,rfl,_,hw⟩:=DataW.trod_int hu hx
   exact⟨[.v (.int k n)],rfl,by simp[okL],by intro c hc;simp at hc;subst hc;exact wf_bd hw⟩
  ·rename_i hu
   simp at h;subst h
   obtain⟨n,rfl,_⟩:=DataW.trod_bool hu hx
   exact⟨[.v (.bool n)],rfl,rfl,by intro c hc;simp at hc;subst hc;trivial⟩
  ·rename_i hu
   simp at h;subst h
   obtain⟨n,rfl,_,hw⟩:=DataW.trod_string hu hx
   exact⟨[.v (.string n)],rfl,rfl,by intro c hc;simp at hc;subst hc;exact hw⟩
  ·rename_i fs hu
   split at h<;>first|(cases h;done)|skip
   obtain⟨ys,n,_,_,hlen,hsz,hg⟩:=DataW.trod_struct hu hx
   have go:∀(l:List Field) (off i:Nat) (ks:List Lk),lfF P (lfOf P D) off l=some ks→(∀j,l[j]?=fs[i+j]?)→i+l.length=fs.size→
     ∃xs:List Cv,(cs.drop off).take ks.length=xs.map (Cv.g b1)∧okL ks xs=true∧∀c∈xs,bdC c:=by
    intro l
    induction l with
    |nil=>
     intro off i ks h _ _
     simp[lfF]at h;subst h
     exact⟨[],by simp,rfl,by simp⟩
    |cons f l ih=>
     intro off i ks h hl hi
     simp only[lfF]at h
     split at h<;>first|(cases h;done)|skip
     rename_i hname
     simp only[Bool.or_eq_false_iff,beq_eq_false_iff_ne,bne_eq_false_iff_eq]at hname
     split at h<;>first|(cases h;done)|skip
     rename_i ks1 hk1
     split at h<;>first|(cases h;done)|skip
     rename_i hsz'
     simp only[Bool.and_eq_true,beq_iff_eq,Bool.not_eq_true',List.isEmpty_eq_false_iff]at hsz'
     split at h<;>simp at h
     rename_i ks2 hk2
     subst h
     have hf:fs[i]?=some f:=by have:=hl 0;simpa using this.symm
     have h1:=hg i f hf
     have hi':i<ys.length:=by rw[hsz];simp at hi;omega
     rw[List.getElem?_eq_getElem hi',hname.2]at h1
     obtain⟨xs1,e1,o1,c1⟩:=open_cells D f.type ks1 hk1 hsz'.1 n _ _ h1
     obtain⟨xs2,e2,o2,c2⟩:=ih (off+ks1.length) (i+1) ks2 hk2 (fun j=>by have:=hl (j+1);simp only[List.getElem?_cons_succ]at this;rw[this];congr 1;omega) (by simp at hi;omega)
     have hcz:P.cellsOf f.type=ks1.length:=hsz'.1
     rw[hcz]at e1
     refine⟨xs1++xs2,?_,?_,?_⟩
     ·rw[List.map_append,←e1,←e2,List.length_append,List.take_add,List.drop_drop]
     ·have hap:∀(ks r:List Lk) (a b:List Cv),okL ks a=true→okL r b=true→okL (ks++r) (a++b)=true:=by
       intro ks
       induction ks with
       |nil=>intro r a b h1 h2;cases a with
        |nil=>simpa using h2
        |cons=>simp[okL]at h1
       |cons k ks ihk=>
        intro r a b h1 h2
        cases a with
        |nil=>cases k<;>simp[okL]at h1
        |cons c a=>
         cases c with
         |v z=>cases k<;>cases z<;>simp[okL]at h1⊢ <;>first|exact⟨h1.1,ihk r a b h1.2 h2⟩|exact ihk r a b h1 h2
         |p _ _=>cases k<;>simp[okL]at h1
         |sl _ _ _ _=>cases k<;>simp[okL]at h1
         |fn _ _=>cases k<;>simp[okL]at h1
         |s0 _ _=>cases k<;>simp[okL]at h1
      exact hap _ _ _ _ o1 o2
     ·intro c hc
      rcases List.mem_append.1 hc with h|h
      ·exact c1 c h
      ·exact c2 c h
   obtain⟨xs,e,o,c⟩:=go fs.toList 0 0 ks h (fun j=>by simp) (by simp)
   refine⟨xs,?_,o,c⟩
   rw[←e,List.drop_zero]
   have hl2:=okL_length o
   have:cs.length=ks.length:=hlen.trans hz
   rw[List.take_of_length_le (by omega)]
  ·cases h
theorem open_leaf {t:TypeId}{k:Lk}(hl:lfOf P 20 t=some [k])(ha:aggOf P t=some false)(hz:szOf P t=1)(hv:Value.okWide P w r n0 t v)(h:DataW.Trod enc P w base spare held t v d p):∃x:Cv,v=V.g b1 (.c x)∧okL [k] [x]=true∧bdC x:=by
 obtain⟨fuel,hf⟩:=h
 obtain⟨xs,e,o,c⟩:=open_cells 20 t [k] hl hz fuel _ _ hf
 have hlen:=okL_length o
 match xs,hlen with
 |[x],_=>
  refine⟨x,?_,o,c x (by simp)⟩
  have hx:∃u,x= .v u:=by
   cases x with
   |v u=>exact⟨u,rfl⟩
   |p _ _=>cases k<;>simp[okL]at o
   |sl _ _ _ _=>cases k<;>simp[okL]at o
   |fn _ _=>cases k<;>simp[okL]at o
   |s0 _ _=>cases k<;>simp[okL]at o
  obtain⟨u,rfl⟩:=hx
  have hcv:v.cells.toList=[u]:=by simpa[Cv.g]using e
  simp only[V.g,Cv.g]
  simp only[lfOf]at hl
  split at hl
  ·rename_i kk hu
   obtain⟨n,hn,_⟩:=open_int hu hv ⟨fuel,hf⟩
   subst hn;simpa[Value.cells]using hcv
  ·rename_i hu
   obtain⟨n,hn,_⟩:=open_bool hu hv ⟨fuel,hf⟩
   subst hn;simpa[Value.cells]using hcv
  ·rename_i hu
   obtain⟨n,hn⟩:=okWide_string hu hv
   subst hn;simpa[Value.cells]using hcv
  ·rename_i fs hu;simp[aggOf,hu]at ha
  ·cases hl
theorem okL_i {k:IntKind}{ks:List Lk}{cs:List Cv}(h:okL (.i k::ks) cs=true):∃n cs',cs= .v (.int k n)::cs'∧okL ks cs'=true:=by
 match cs,h with
 | .v (.int k' n)::cs',h=>
  simp[okL]at h
  obtain⟨rfl,h⟩:=h
  exact⟨n,cs',rfl,h⟩
theorem okL_s {ks:List Lk}{cs:List Cv}(h:okL (.s::ks) cs=true):∃n cs',cs= .v (.string n)::cs'∧okL ks cs'=true:=by
 match cs,h with
 | .v (.string n)::cs',h=>exact⟨n,cs',rfl,h⟩
end
open Go.ChangeShapes Go.WideShapes Go.ChangeAt Go.RowKit
open Vg
section
variable {H:Type} {enc:TypeId×Value→H} {P:Program} {w:World} {base:Nat} {spare:Nat→Bool} {held:Bool} {r:Reach} {n0:Nat} {v:Value} {d:DataW H} {p:List MemPlace}
end
open Go.ChangeShapes Go.WideShapes Go.ChangeAt Go.RowKit
open Vg
set_option maxRecDepth 100000
def b0:Vl:=fun _=>⟨0,0,0,false,none⟩
section
variable {H:Type} {enc:TypeId×Value→H} {P:Program}
theorem trodAll_stays (hl:laidOutB P=true){W W':World}{sp:Nat→Bool}(hb:Below W.heap.size W W'):∀{ts:List TypeId} {vs:List Value} {ds:List (DataW H)} {ps:List MemPlace},
  (∀t∈ts,P.readableRec t=true∧t<P.types.size)→DataW.TrodAll enc P W 0 (fun _=>true) true ts vs ds ps→(∀p∈ps,p.block<W.heap.size)→(∀p∈ps,sp p.block=true)→
  DataW.TrodAll enc P W' 0 sp true ts vs ds ps
 |[],vs,ds,ps,_,h,_,_=>by
  cases vs<;>cases ds<;>simp_all [DataW.TrodAll]
 |t::ts,vs,ds,ps,hr,h,hlt,hs=>by
  obtain⟨v,vs',d,ds',p,q,rfl,rfl,rfl,hd,hrest⟩:=trodAll_cons h
  refine⟨p,q,WideElems.Trod_stays hl (hr t (by simp)).1 (hr t (by simp)).2 hd (fun x hx=>hb.same (hlt x (by simp[hx]))) (fun x hx=>hs x (by simp[hx])),?_,rfl⟩
  exact trodAll_stays hl hb (fun t' ht'=>hr t' (by simp[ht'])) hrest (fun x hx=>hlt x (by simp[hx])) (fun x hx=>hs x (by simp[hx]))
theorem post_of_below {f:Func}{s:ChangeSpec}{apart fresh handsOn again:Bool}{W W':World}{args:Array Value}{v:Value}{ds gs:List (DataW H)}{before pa pv:List MemPlace}
  (hW:DataW.Whole enc P f.params.toList s.vars apart W args.toList ds gs before)
  (hres:∀(b:Nat) (sp:Nat→Bool) (hd:Bool),DataW.TrodAll enc P W' b sp hd f.resultTypes.toList (v.resultList f.resultTypes.size) (s.fn H (ds++gs)).results [])
  (hargs:∀sp:Nat→Bool,(∀p∈before,sp p.block=true)→DataW.TrodAll enc P W' 0 sp true f.params.toList args.toList (s.fn H (ds++gs)).args pa)
  (hvars:∀sp:Nat→Bool,(∀p∈before,sp p.block=true)→DataW.TrodVars enc P W' sp s.vars (s.fn H (ds++gs)).vars pv)
  (hps:before=pa++pv) (hb:Below W.heap.size W W')
  (hok:∀(j:Nat) (t:TypeId) (r:Value),f.resultTypes[j]?=some t→(v.resultList f.resultTypes.size)[j]?=some r→Value.okWide P W' .any 0 t r):
  s.post enc P f apart fresh handsOn again W args v W':=by
 have hlt:∀p∈before,p.block<W.heap.size:=fun p hp=>hW.lt p hp
 have hold:∀p∈before,(fun b=>decide (b<W.heap.size)) p.block=true:=fun p hp=>by simpa using hlt p hp
 refine⟨ds,gs,before,[],pa,pv,hW,hres _ _ _,hargs _ hold,hvars _ hold,World.keptBut_mono (fun p hp=>⟨hp,?_⟩) (hb.frame (· ∈before)),fun _=>?_⟩
 ·rw[hps,List.mem_append]at hp
  exact Or.inr hp
 ·obtain⟨_,_,_,_,_,hz,hn⟩:=hW
  refine⟨hok,_,_,([]++pa)++pv,⟨[]++pa,pv,trodAll_append (hargs _ (fun _ _=>rfl)) (hres _ _ _),hvars _ (fun _ _=>rfl),rfl,?_,?_⟩,?_⟩
  ·intro b off hp
   have hin:MemPlace.cell b off∈before:=by rw[hps];simpa using hp
   rw[hb.frozen (hlt _ hin)]
   exact hz b off hin
  ·intro ha
   have:=hn ha
   rw[hps]at this
   simpa using this
  ·intro p hp _
   rw[hps]
   simpa using hp
theorem law_post {f:Func}{s:ChangeSpec}{apart fresh handsOn again:Bool}{W W':World}{args:Array Value}{ds gs:List (DataW H)}{before:List MemPlace}{tb:TypeId}
  (hl:laidOutB P=true) (hp:∀t∈f.params.toList,P.readableRec t=true∧t<P.types.size) (hr:f.resultTypes= #[tb]) (hb4:P.underlying tb=some .bool) (hvars:s.vars=[])
  (hW:DataW.Whole enc P f.params.toList s.vars apart W args.toList ds gs before) (hfn:s.fn H ds={results:=[.lit (.bool true)],args:=ds}) (hb:Below W.heap.size W W'):
  s.post enc P f apart fresh handsOn again W args (.bool true) W':=by
 have hW':=hW
 obtain⟨p,q,hA,hV,rfl,hfz,hnd⟩:=hW
 rw[hvars]at hV
 obtain⟨rfl,rfl⟩:=trodVars_none hV
 have hlt:∀x∈p,x.block<W.heap.size:=fun x hx=>hW'.lt x (by simp[hx])
 refine post_of_below (pa:=p) (pv:=[]) hW' (fun b sp hd=>?_) (fun sp hsp=>?_) (fun sp hsp=>?_) rfl hb (ok_one hr rfl (okWide_bool_mk hb4 _))
 ·rw[List.append_nil,hfn,hr]
  exact trodAll_mk1 (shut_bool hb4 _)
 ·rw[List.append_nil,hfn]
  exact trodAll_stays hl hb hp hA hlt (fun x hx=>hsp x (by simp[hx]))
 ·rw[List.append_nil,hfn,hvars]
  rfl
end
open Go.ChangeShapes Go.WideShapes Go.ChangeAt Go.RowKit
open Vg
set_option maxRecDepth 100000
def hpW (W:World):Hp:=fun b o=>W.heap[b]?=some o
theorem CallX.callsH {P:Program}{f:FuncId}{args:List V}{k:Bool}{W:World}{α:Type}{Q:α→Hp→Prop}(h:CallX (hpW W) P f args [] (fun _:α=> .c (.v (.bool k))) (fun _=>[]) Q):
  Calls P f (args.map (V.g b0)).toArray W fun e W'=>e= .returned (.bool k)∧Below W.heap.size W W':=by
 refine(h.2.2.2 b0 W (fun _=>False) ⟨fun _ _ n b hb=>by simp[Mem.get]at hb,fun n b hb=>by simp[Mem.get]at hb,fun n m b b' hb=>by simp[Mem.get]at hb⟩ (fun b o hb=>⟨hb,fun h=>h,fun h=>?_⟩) (fun b h=>h.elim)).mono ?_
 ·obtain⟨n,c,h,_⟩:=h;cases h
 ·rintro e W' ⟨x,β',H',_,hen,_,hfr,_⟩
  exact⟨hen b0 (fun n hn=>by simp[Mem.get]at hn),hfr.os,hfr.tape,hfr.output,hfr.size,fun k hk=>hfr.old k (fun n b hb=>by simp[Mem.get]at hb) hk⟩
section
variable {H:Type} (enc:TypeId×Value→H) (P:Program) (w:World) (base:Nat) (spare:Nat→Bool) (held:Bool)
variable {enc P w base spare held}
end
theorem _root_.Go.Proofs.YtlnpgbnhcondjaaGreatDoor.Vg.Sm.dg {P:Program}{nt:Nat}{C:Cx}{r:List It}{e:Env}{M:Mem}{id:Nat}{rg:Array Oper}(nx k:Nat)(hm:P.follows .mixedOrders=true)
 (h:runD P nt C id rg r e M M k (kontW P nt C (.ops rg (rg.toList.drop k)::r)) [] 0 (rg.toList.take k) e M nx) (hd:dfOk rg k=true:=by decide+kernel) (hn:rg.all (fun o=>dstOk nt o.dst)=true:=by decide+kernel):Sm P nt C (.code (.region id rg true)::r) e M:=Sm.dgo nx k hm hd hn h
theorem _root_.Go.Proofs.YtlnpgbnhcondjaaGreatDoor.Vg.Sm.dgW {P:Program}{nt:Nat}{C:Cx}{r:List It}{e:Env}{M:Mem}{id:Nat}{rg:Array Oper}(W:List Nat)(nx k:Nat)(hm:P.follows .mixedOrders=true)
 (h:runD P nt C id rg r e (Mem.wo W M) M k (kontW P nt C (.ops rg (rg.toList.drop k)::r)) [] 0 (rg.toList.take k) e M nx) (hd:dfOk rg k=true:=by decide+kernel) (hn:rg.all (fun o=>dstOk nt o.dst)=true:=by decide+kernel):Sm P nt C (.code (.region id rg true)::r) e M:=Sm.dgoW W nx k hm hd hn h
end Go.Proofs.YtlnpgbnhcondjaaGreatDoor
