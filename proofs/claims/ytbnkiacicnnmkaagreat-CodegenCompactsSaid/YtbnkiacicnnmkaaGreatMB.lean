/-  -/
import Derived.Test.YtbnkiacicnnmkaaGreatMA
import Derived.Laws.BytesArg
import Derived.Lib.Builder
import Derived.Lib.UnsafeStr
import Derived.MapKept
import Derived.RangeFuncNested
import Derived.ProofKit
import Derived.Below
import Derived.Carry
import Derived.ChangeSame
import Derived.Lib.SmallJoins
import Derived.Deep.Slices
import Derived.SizedLaws
set_option linter.unusedSimpArgs false
set_option linter.unusedVariables false
set_option maxRecDepth 100000
namespace Go.Proofs.YtbnkiacicnnmkaaGreat
namespace Vg
open Go.RowKit
def qI (o:Oper):List Nat:=(o.after.toList.filter fun e=>Region.binds .any e).map (·.on)
inductive Anc (rg:Array Oper) (b:Nat):Nat->Oper->Prop where
 |base {i:Nat} {o:Oper} (h:i∈qI o):Anc rg b i o
 |step {i j:Nat} {o o':Oper} (h:j∈qI o) (hb:j<b) (ho:rg[j]?=some o') (h':Anc rg b i o'):Anc rg b i o
theorem Anc.done {rg:Array Oper}{b k i:Nat}{o:Oper}{D:Nat->Bool}(h:Anc rg b i o)(hcl:∀j o,j<k->D j=true->rg[j]?=some o->∀x,x∈qI o->D x=true)(hb:b<=k)(hed:∀x,x∈qI o->D x=true):D i=true:=by
 induction h with
 |base h=>exact hed _ h
 |step h hjb ho _ ih=>exact ih (hcl _ _ zA (hed _ h) ho)
def je (rg:Array Oper)(b:Nat):Nat->Nat->Oper->Bool
 |0,i,o=>(qI o).contains i
 |d+1,i,o=>(qI o).contains i||(qI o).any fun j=>decide (i<j)&&(decide (j<b)&&(match rg[j]? with|some o'=>je rg b d i o'|none=>false))
theorem qZ {rg:Array Oper}{b:Nat}:∀(d i:Nat) (o:Oper),je rg b d i o=true->Anc rg b i o
 |0,i,o,h=> .base (by simpa[je]using h)
 |d+1,i,o,h=>by
  simp only[je,I8,HF,JB,decide_eq_true_eq]at h
  rcases h with h|⟨j,hj,_,hb,h⟩
  ·exact .base (by simpa using h)
  ·split at h
   ·rename_i o' ho
    exact .step hj hb ho (qZ d i o' h)
   ·cases h
def ut (rg:Array Oper)(k:Nat):Bool:=
 decide (k<=rg.size)&&
 (List.range rg.size).all fun i=>
  match rg[i]? with
  |none=>true
  |some o=>
   (qI o).all (fun j=>decide (j<i))&&
   (if i<k then
    (List.range k).all fun j=>
     j==i||
     match rg[j]? with
     |none=>true
     |some o'=>
      (match o'.dst with
       |none=>true
       |some d=>(o.dst !=some d)&&(!(o.looksAt rg).contains d||(qI o).contains j||(qI o').contains i))
    else(List.range i).all fun j=>je rg i 20 j o)
def Tc (T:List (Nat×Nat))(n i:Nat):Prop:=(n,i)∈T\/(n+1000000,i)∈T
inductive Tr (P:Program) (S:Bs) (w0:World) (rg:Array Oper) (e0:Env) (M0 Mf:Mem):List Oper->Env->Mem->List (Nat×Nat)->Prop where
 |nil (hs:∀n b,M0.get n=some b->Mf.get n=some b):Tr P S w0 rg e0 M0 Mf [] e0 Mf []
 |snoc {l:List Oper} {e:Env} {M:Mem} {T:List (Nat×Nat)} {o:Oper} {g:Bool} {v:V} {N Ms:Mem} (h:Tr P S w0 rg e0 M0 Mf l e M T) (hg:gd rg e o=some g) (hs:g=true->StpC P S w0 o e Ms v N) (hN:g=true\/N=[])
   (hMs:∀n b,Ms.get n=some b->M0.get n=some b\/((N.get n).isSome=true/\M.get n=some b))
   (hf:∀n,(N.get n).isSome=true->M0.get n=none/\((Ms.get n).isSome=true\/M.get n=none)/\∀i,Tc T n i->Anc rg l.length i o):Tr P S w0 rg e0 M0 Mf (l++[o]) (e.put o.dst g v) (N++M) (N.map (fun p=>(p.1,l.length))++T)
 |look {l:List Oper} {e:Env} {M:Mem} {T:List (Nat×Nat)} {o:Oper} {g:Bool} {v:V} {Ms:Mem} (X:List Nat) (h:Tr P S w0 rg e0 M0 Mf l e M T) (hg:gd rg e o=some g) (hs:g=true->StpC P S w0 o e Ms v [])
   (hMs:∀n b,Ms.get n=some b->M0.get n=some b\/(n∈X/\M.get n=some b)) (hf:∀n,n∈X->∀i,(n,i)∈T->Anc rg l.length i o):Tr P S w0 rg e0 M0 Mf (l++[o]) (e.put o.dst g v) M (X.map (fun n=>(n+1000000,l.length))++T)
structure Tf (P:Program) (S:Bs) (w0:World) (rg:Array Oper) (e0:Env) (M0 Mf:Mem) (k:Nat) where
 E:Nat->Env
 MM:Nat->Mem
 G:Nat->Bool
 W:Nat->V
 N:Nat->Mem
 X:Nat->List Nat
 e0:E 0=e0
 m0:MM 0=Mf
 sub:∀n b,M0.get n=some b->Mf.get n=some b
 step:∀i,i<k->∃o Ms,rg[i]?=some o/\gd rg (E i) o=some (G i)/\E (i+1)=(E i).put o.dst (G i) (W i)/\MM (i+1)=N i++MM i/\(G i=true->StpC P S w0 o (E i) Ms (W i) (N i))/\(G i=true\/N i=[])/\
  (∀n b,Ms.get n=some b->M0.get n=some b\/((((N i).get n).isSome=true\/n∈X i)/\(MM i).get n=some b))/\(∀n,((N i).get n).isSome=true->M0.get n=none/\((Ms.get n).isSome=true\/(MM i).get n=none)/\∀i',i'<i->(((N i').get n).isSome=true\/n∈X i')->Anc rg i i' o)/\(∀n,n∈X i->∀i',i'<i->((N i').get n).isSome=true->Anc rg i i' o)
theorem wW:∀{M:Mem} {n:Nat},(M.get n).isSome=true->n∈M.map (·.1)
 |[],n,h=>by cases h
 |(k,c)::r,n,h=>by
  simp only[Mem.get]at h
  cases hk:(k==n)with
  |true=>have:k=n:=by simpa using hk
         subst this;simp
  |false=>rw[hk]at h;exact I0 _ (wW h)
theorem Tr.fn {P:Program}{S:Bs}{w0:World}{rg:Array Oper}{e0:Env}{M0 Mf:Mem}{l:List Oper}{e:Env}{M:Mem}{TT:List (Nat×Nat)}(h:Tr P S w0 rg e0 M0 Mf l e M TT)(hl:∀i,i<l.length->rg[i]?=l[i]?):
  ∃T:Tf P S w0 rg e0 M0 Mf l.length,(T.E l.length=e/\T.MM l.length=M)/\∀i n,i<l.length->((((T.N i).get n).isSome=true->(n,i)∈TT)/\(n∈T.X i->(n+1000000,i)∈TT)):=by
 have one:∀{l:List Oper} {e:Env} {M:Mem} {TT:List (Nat×Nat)} (o:Oper) (g:Bool) (v:V) (N Ms:Mem) (X:List Nat),(∀i,i<(l++[o]).length->rg[i]?=(l++[o])[i]?)->
   (∃T:Tf P S w0 rg e0 M0 Mf l.length,(T.E l.length=e/\T.MM l.length=M)/\∀i n,i<l.length->((((T.N i).get n).isSome=true->(n,i)∈TT)/\(n∈T.X i->(n+1000000,i)∈TT)))->gd rg e o=some g->(g=true->StpC P S w0 o e Ms v N)->(g=true\/N=[])->
   (∀n b,Ms.get n=some b->M0.get n=some b\/(((N.get n).isSome=true\/n∈X)/\M.get n=some b))->(∀n,(N.get n).isSome=true->M0.get n=none/\((Ms.get n).isSome=true\/M.get n=none)/\∀i,Tc TT n i->Anc rg l.length i o)->(∀n,n∈X->∀i,(n,i)∈TT->Anc rg l.length i o)->
   ∃T:Tf P S w0 rg e0 M0 Mf (l++[o]).length,(T.E (l++[o]).length=e.put o.dst g v/\T.MM (l++[o]).length=N++M)/\∀i n,i<(l++[o]).length->((((T.N i).get n).isSome=true->(n,i)∈N.map (fun p=>(p.1,l.length))++TT\/(n,i)∈TT)/\(n∈T.X i->(n+1000000,i)∈X.map (fun n=>(n+1000000,l.length))++TT)):=by
  rintro l e M TT o g v N Ms X hl ⟨T,⟨he,hm⟩,hT⟩ hg hs hN hMs hf hX
  refine⟨⟨fun i=>if i<=l.length then T.E i else e.put o.dst g v,fun i=>if i<=l.length then T.MM i else N++M,fun i=>if i<l.length then T.G i else g,fun i=>if i<l.length then T.W i else v,fun i=>if i<l.length then T.N i else N,fun i=>if i<l.length then T.X i else X,by simp[T.e0],by simp[T.m0],T.sub,?_⟩,⟨by simp;intro hh;omega,by simp;intro hh;omega⟩,?_⟩
  ·intro i hi
   simp only[JM,JQ,J9,J4]at hi
   by_cases hlt:i<l.length
   ·obtain⟨o',Ms',h1,h2,h3,h4,h5,h6,h7,h8,h9⟩:=T.step i hlt
    refine⟨o',Ms',h1,?_,?_,?_,?_,?_,?_,?_,?_⟩
    ·simpa[hlt,HP hlt,Nat.succ_le_of_lt hlt]using h2
    ·simpa[hlt,HP hlt,Nat.succ_le_of_lt hlt]using h3
    ·simpa[hlt,HP hlt,Nat.succ_le_of_lt hlt]using h4
    ·simpa[hlt,HP hlt,Nat.succ_le_of_lt hlt]using h5
    ·simpa[hlt]using h6
    ·simpa[hlt,HP hlt]using h7
    ·intro n hn
     simp only[hlt,if_true]at hn
     obtain⟨k1,k2,k3⟩:=h8 n hn
     refine⟨k1,by simpa[HP hlt]using k2,fun i' hi' hh=>k3 i' hi' ?_⟩
     simp only[if_pos (show i'<l.length by omega)]at hh
     exact hh
    ·intro n hn i' hi' hh
     simp only[hlt,if_true]at hn
     simp only[if_pos (show i'<l.length by omega)]at hh
     exact h9 n hn i' hi' hh
   ·have hi':i=l.length:=zA
    subst hi'
    refine⟨o,Ms,?_,?_,?_,?_,?_,?_,?_,?_,?_⟩
    ·rw[hl l.length z9];simp
    ·simpa[he]using hg
    ·simp[he];intro hh;omega
    ·simp[hm];intro hh;omega
    ·simpa[he]using hs
    ·simpa using hN
    ·simpa[hm]using hMs
    ·intro n hn
     simp only[Nat.lt_irrefl,if_false]at hn
     obtain⟨k1,k2,k3⟩:=hf n hn
     refine⟨k1,by simpa[hm]using k2,fun i' hi' hh=>k3 i' ?_⟩
     simp only[if_pos hi']at hh
     rcases hh with hh|hh
     ·exact .inl ((hT i' n hi').1 hh)
     ·exact .inr ((hT i' n hi').2 hh)
    ·intro n hn i' hi' hh
     simp only[Nat.lt_irrefl,if_false]at hn
     simp only[if_pos hi']at hh
     exact hX n hn i' ((hT i' n hi').1 hh)
  ·intro i n hi
   simp only[JM,JQ,J9,J4]at hi
   by_cases hlt:i<l.length
   ·simp only[if_pos hlt]
    exact⟨fun hn=> .inr ((hT i n hlt).1 hn),fun hn=>HA _ ((hT i n hlt).2 hn)⟩
   ·have hi':i=l.length:=zA
    subst hi'
    simp only[if_neg hlt]
    refine⟨fun hn=> .inl (List.mem_append_left _ ?_),fun hn=>List.mem_append_left _ (JL.2 ⟨n,hn,rfl⟩)⟩
    obtain⟨p,hp,hp1⟩:=JL.1 (wW hn)
    exact JL.2 ⟨p,hp,by rw[hp1]⟩
 induction h with
 |nil hs=>exact⟨⟨fun _=>e0,fun _=>Mf,fun _=>true,fun _=> .agg [],fun _=>[],fun _=>[],rfl,rfl,hs,fun i hi=>absurd hi z9⟩,⟨rfl,rfl⟩,fun i n hi=>absurd hi z9⟩
 | @snoc l e M TT o g v N Ms h hg hs hN hMs hf ih=>
  have ih:=ih (fun i hi=>by rw[hl i (by simp;omega),Jk hi])
  obtain⟨T,h1,h2⟩:=one o g v N Ms [] hl ih hg hs hN (fun n b hb=>(hMs n b hb).imp (fun h=>h) (fun h=>⟨.inl h.1,h.2⟩)) hf (fun _ h=>by cases h)
  refine⟨T,h1,fun i n hi=>⟨fun hn=>?_,fun hn=>HA _ ?_⟩⟩
  ·rcases(h2 i n hi).1 hn with h|h
   ·exact h
   ·exact HA _ h
  ·exact(h2 i n hi).2 hn
 | @look l e M TT o g v Ms X h hg hs hMs hf ih=>
  have ih:=ih (fun i hi=>by rw[hl i (by simp;omega),Jk hi])
  obtain⟨T,h1,h2⟩:=one o g v [] Ms X hl ih hg hs (.inr rfl) (fun n b hb=>(hMs n b hb).imp (fun h=>h) (fun h=>⟨.inr h.1,h.2⟩)) (fun _ h=>by cases h) hf
  refine⟨T,h1,fun i n hi=>⟨fun hn=>HA _ ?_,fun hn=>(h2 i n hi).2 hn⟩⟩
  rcases(h2 i n hi).1 hn with h|h
  ·exact h
  ·exact h
section
variable {P:Program} {S:Bs} {w0:World} {rg:Array Oper} {e0:Env} {M0 Mf:Mem} {k:Nat} {df:List Deferred} {lp:Option Nat}
def Tf.env (T:Tf P S w0 rg e0 M0 Mf k)(D:Nat->Bool):Nat->Env
 |0=>e0
 |j+1=>match rg[j]? with
  |some o=>if D j then(T.env D j).put o.dst (T.G j) (T.W j)else T.env D j
  |none=>T.env D j
def Tf.mem (T:Tf P S w0 rg e0 M0 Mf k)(D:Nat->Bool):Nat->Mem
 |0=>Mf
 |j+1=>(if D j then T.N j else[])++T.mem D j
theorem Tf.env_all (T:Tf P S w0 rg e0 M0 Mf k)(D:Nat->Bool):∀j,j<=k->(∀i,i<j->D i=true)->T.env D j=T.E j
 |0,_,_=>T.e0.symm
 |j+1,hj,h=>by
  obtain⟨o,_,ho,_,hE,_⟩:=T.step j zA
  rw[Tf.env,ho,hE,T.env_all D j zA (fun i hi=>h i zA)]
  simp[h j zA]
theorem Tf.mem_all (T:Tf P S w0 rg e0 M0 Mf k)(D:Nat->Bool):∀j,j<=k->(∀i,i<j->D i=true)->T.mem D j=T.MM j
 |0,_,_=>T.m0.symm
 |j+1,hj,h=>by
  obtain⟨o,_,ho,_,_,hM,_⟩:=T.step j zA
  rw[Tf.mem,hM,T.mem_all D j zA (fun i hi=>h i zA)]
  simp[h j zA]
theorem yv (e:Env)(d:Option Nat)(g:Bool)(v:V)(t:Nat):(e.put d g v).get t=if d=some t then some (g,v)else e.get t:=by
 cases d with
 |none=>simp[Env.put]
 |some d=>
  simp only[Env.put,Env.get]
  by_cases h:d=t
  ·subst h;simp
  ·have:(d==t)=false:=by simpa using h
   simp[this,h]
theorem Tf.env_at (T:Tf P S w0 rg e0 M0 Mf k)(D:Nat->Bool)(t i:Nat)(hi:i<=k)(h:∀j o,j<k->rg[j]?=some o->o.dst=some t->(D j=true↔j<i)):∀j,j<=k->(T.env D j).get t=(T.E (min i j)).get t
 |0,_=>by rw[Tf.env,Nat.min_zero,T.e0]
 |j+1,hj=>by
  have ih:=T.env_at D t i hi h j zA
  obtain⟨o,_,ho,_,hE,_⟩:=T.step j zA
  simp only[Tf.env,ho]
  by_cases hd:o.dst=some t
  ·have hiff:=h j o zA ho hd
   by_cases hji:j<i
   ·rw[if_pos (hiff.2 hji),show min i (j+1)=j+1 from by omega,hE,yv,yv,if_pos hd,if_pos hd]
   ·rw[if_neg (by rw[hiff];exact hji),ih]
    congr 2;omega
  ·have e1:(if D j=true then(T.env D j).put o.dst (T.G j) (T.W j)else T.env D j).get t=(T.env D j).get t:=by
    split
    ·rw[yv,if_neg hd]
    ·rfl
   rw[e1,ih]
   by_cases hji:j<i
   ·rw[show min i (j+1)=j+1 from by omega,show min i j=j from by omega,hE,yv,if_neg hd]
   ·congr 2;omega
theorem Tf.env_more (T:Tf P S w0 rg e0 M0 Mf k)(D:Nat->Bool)(i:Nat)(o:Oper)(ho:rg[i]?=some o)(hD:D i=false)(hu:∀j o',j<k->j≠i->rg[j]?=some o'->∀d,o.dst=some d->o'.dst≠some d)(t:Nat):
  ∀j,j<=k->(T.env (fun x=>if x=i then true else D x) j).get t=if i<j/\o.dst=some t then some (T.G i,T.W i)else(T.env D j).get t
 |0,_=>by simp[Tf.env]
 |j+1,hj=>by
  have ih:=T.env_more D i o ho hD hu t j zA
  obtain⟨o',_,ho',_⟩:=T.step j zA
  simp only[Tf.env,ho']
  by_cases hji:j=i
  ·subst hji
   rw[ho]at ho'
   cases ho'
   simp only[if_true,hD,JS,if_false]
   rw[yv,ih]
   by_cases hd:o.dst=some t
   ·rw[if_pos hd,if_pos ⟨zA,hd⟩]
   ·rw[if_neg hd,if_neg (fun hh=>hd hh.2),if_neg (fun hh=>hd hh.2)]
  ·simp only[if_neg hji]
   have hlt:(i<j+1)↔(i<j):=zA
   simp only[hlt]
   by_cases hDj:D j=true
   ·simp only[hDj,if_true]
    rw[yv,yv,ih]
    by_cases hd':o'.dst=some t
    ·have hno:¬(i<j/\o.dst=some t):=fun hh=>hu j o' zA hji ho' t hh.2 hd'
     rw[if_pos hd',if_neg hno,if_pos hd']
    ·rw[if_neg hd',if_neg hd']
   ·simp only[hDj]
    exact ih
theorem Tf.names0 (T:Tf P S w0 rg e0 M0 Mf k){i n:Nat}(hi:i<k)(h1:((T.N i).get n).isSome=true):M0.get n=none:=by
 obtain⟨_,_,_,_,_,_,_,_,_,hf,_⟩:=T.step i hi
 exact(hf n h1).1
theorem Tf.behind (T:Tf P S w0 rg e0 M0 Mf k){i j n:Nat}{o:Oper}(hij:i<j)(hj:j<k)(ho:rg[j]?=some o)(h1:((T.N i).get n).isSome=true\/n∈T.X i)(h2:((T.N j).get n).isSome=true):Anc rg j i o:=by
 obtain⟨o',_,ho',_,_,_,_,_,_,hf,_⟩:=T.step j hj
 rw[ho]at ho'
 cases ho'
 exact(hf n h2).2.2 i hij h1
theorem Tf.behindX (T:Tf P S w0 rg e0 M0 Mf k){i j n:Nat}{o:Oper}(hij:i<j)(hj:j<k)(ho:rg[j]?=some o)(h1:((T.N i).get n).isSome=true)(h2:((T.N j).get n).isSome=true\/n∈T.X j):Anc rg j i o:=by
 rcases h2 with h2|h2
 ·exact T.behind hij hj ho (.inl h1) h2
 ·obtain⟨o',_,ho',_,_,_,_,_,_,_,hf⟩:=T.step j hj
  rw[ho]at ho'
  cases ho'
  exact hf n h2 i hij h1
theorem Tf.mem_own (T:Tf P S w0 rg e0 M0 Mf k)(D:Nat->Bool){i n:Nat}{o:Oper}(hi:i<k)(ho:rg[i]?=some o)(hD:D i=false)(hcl:∀j o,j<k->D j=true->rg[j]?=some o->∀x,x∈qI o->D x=true)(hed:∀x,x∈qI o->D x=true)
  (h1:((T.N i).get n).isSome=true\/n∈T.X i):∀j,j<=k->(T.mem D j).get n=(T.MM (min i j)).get n
 |0,_=>by rw[Tf.mem,Nat.min_zero,T.m0]
 |j+1,hj=>by
  have ih:=T.mem_own D hi ho hD hcl hed h1 j zA
  obtain⟨o',_,ho',_,_,hM,_⟩:=T.step j zA
  rw[Tf.mem,zL,ih]
  rcases Nat.lt_trichotomy j i with hji|hji|hji
  ·rw[show min i (j+1)=j+1 from by omega,show min i j=j from by omega,hM,zL]
   cases h2:(T.N j).get n with
   |none=>split<;>simp[h2,Mem.get]
   |some c=>rw[if_pos ((T.behindX hji hi ho (by simp[h2]) h1).done hcl zA hed),h2]
  ·subst hji
   rw[show min j (j+1)=j from by omega,show min j j=j from by omega]
   simp[hD,Mem.get]
  ·rw[show min i (j+1)=i from by omega,show min i j=i from by omega]
   split
   ·rename_i hDj
    cases h2:(T.N j).get n with
    |none=>simp
    |some c=>
     have:=(T.behind hji zA ho' h1 (by simp[h2])).done hcl zA (hcl j o' zA hDj ho')
     rw[hD]at this;cases this
   ·simp[Mem.get]
theorem Tf.mem_base (T:Tf P S w0 rg e0 M0 Mf k)(D:Nat->Bool){n:Nat}{b:Bk}(h:M0.get n=some b):∀j,j<=k->(T.mem D j).get n=some b
 |0,_=>T.sub _ _ h
 |j+1,hj=>by
  rw[Tf.mem,zL,T.mem_base D h j zA]
  split
  ·cases h2:(T.N j).get n with
   |none=>rfl
   |some c=>
    have:=T.names0 (i:=j) (n:=n) zA (by simp[h2])
    rw[h]at this;cases this
  ·rfl
theorem Tf.mem_more (T:Tf P S w0 rg e0 M0 Mf k)(D:Nat->Bool){i:Nat}(hi:i<k)(hD:D i=false)(hcl:∀j o,j<k->D j=true->rg[j]?=some o->∀x,x∈qI o->D x=true)(n:Nat):∀j,j<=k->(T.mem (fun x=>if x=i then true else D x) j).get n=if i<j then(T.N i++T.mem D j:Mem).get n else(T.mem D j).get n
 |0,_=>by simp[Tf.mem]
 |j+1,hj=>by
  have ih:=T.mem_more D hi hD hcl n j zA
  rw[Tf.mem,zL]
  by_cases hji:j=i
  ·subst hji
   rw[if_pos rfl,if_pos rfl,ih,if_neg zA,if_pos zA,zL]
   simp only[Tf.mem,hD,JS,if_false,JG]
  ·simp only[if_neg hji]
   rw[ih]
   have h12:i<j->D j=true->∀b c,(T.N i).get n=some b->(T.N j).get n=some c->False:=fun hij hDj b c h1 h2=>by
    obtain⟨o',_,ho',_⟩:=T.step j zA
    have:=(T.behind (n:=n) hij zA ho' (.inl (by simp[h1])) (by simp[h2])).done hcl zA (hcl j o' zA hDj ho')
    rw[hD]at this;cases this
   by_cases hij:i<j
   ·simp only[hij,show i<j+1 from by omega,if_true,Tf.mem,zL]
    by_cases hDj:D j=true
    ·simp only[hDj,if_true]
     cases h1:(T.N i).get n with
     |none=>simp
     |some b=>
      cases h2:(T.N j).get n with
      |none=>simp
      |some c=>exact(h12 hij hDj b c h1 h2).elim
    ·simp[hDj,Mem.get]
   ·simp only[hij,show ¬i<j+1 from by omega,if_false,Tf.mem,zL]
theorem Rel.ext {S:Bs}{w0 w:World}{β:Vl}{M M':Mem}(h:Rel S w0 β M w)(he:∀n,M'.get n=M.get n):Rel S w0 β M' w:=by
 have hag:∀b b',Agree M' b b'->Agree M b b':=fun b b' hh n hn=>hh n (by rw[he];exact hn)
 refine⟨h.fr,⟨fun β' hh n b hb=>h.mem.ok β' (hag _ _ hh) n b (by rw[<-he];exact hb),fun n b hb=>h.mem.there n b (by rw[<-he];exact hb),fun n m b b' hb hb'=>h.mem.apart n m b b' (by rw[<-he];exact hb) (by rw[<-he];exact hb')⟩,
  fun n b hb=>h.own n b (by rw[<-he];exact hb),fun n l hl=>⟨by rw[he];exact(h.pin n l hl).1,(h.pin n l hl).2⟩⟩
def Tf.Inv (T:Tf P S w0 rg e0 M0 Mf k)(S:Bs)(w0:World)(nt:Nat)(df:List Deferred)(D:Nat->Bool)(a:Act)(w:World):Prop:=
 ∃β,Rel S w0 β (T.mem D k) w/\EnvOk β (T.mem D k) (T.env D k) a/\a.tmps.size=nt/\a.defers=df
theorem wq (h:ut rg k=true){i:Nat}{o:Oper}(ho:rg[i]?=some o):∀j,j∈qI o->j<i:=by
 have hi:i<rg.size:=(Jz.1 ho).1
 simp only[ut,JB,JD,Jo]at h
 have:=h.2 i hi
 rw[ho]at this
 simp only[JB,JD,decide_eq_true_eq]at this
 exact this.1
theorem gD (h:ut rg k=true):k<=rg.size:=by
 simp only[ut,JB,decide_eq_true_eq]at h
 exact h.1
theorem om (h:ut rg k=true){i:Nat}{o:Oper}(ho:rg[i]?=some o)(hk:k<=i):∀j,j<i->Anc rg i j o:=by
 have hi:i<rg.size:=(Jz.1 ho).1
 simp only[ut,JB,JD,Jo]at h
 have:=h.2 i hi
 rw[ho]at this
 simp only[JB]at this
 have h2:=this.2
 rw[if_neg zA]at h2
 simp only[JD,Jo]at h2
 intro j hj
 exact qZ 20 j o (h2 j hj)
theorem lS (h:ut rg k=true){i j:Nat}{o o':Oper}(ho:rg[i]?=some o)(ho':rg[j]?=some o')(hi:i<k)(hj:j<k)(hne:j≠i):∀d,o'.dst=some d->o.dst≠some d/\(d∈o.looksAt rg->j∈qI o\/i∈qI o'):=by
 have hi':i<rg.size:=(Jz.1 ho).1
 simp only[ut,JB,JD,Jo]at h
 have:=h.2 i hi'
 rw[ho]at this
 simp only[JB]at this
 have h2:=this.2
 rw[if_pos hi]at h2
 simp only[JD,Jo]at h2
 have h3:=h2 j hj
 rw[ho']at h3
 intro d hd
 simp[hne,hd]at h3
 refine⟨fun hh=>h3.1 hh,fun hm=>?_⟩
 rcases h3.2 with h4|h4
 ·rcases h4 with h5|h5
  ·exact absurd hm h5
  ·exact .inl h5
 ·exact .inr h4
theorem Tf.step_any (T:Tf P S w0 rg e0 M0 Mf k)(hdf:ut rg k=true){nt:Nat}(hnt:∀i o,i<k->rg[i]?=some o->∀t,o.dst=some t->t<nt){D:Nat->Bool}{i:Nat}(hi:i<k)(hD:D i=false)
  (hcl:∀j o,j<k->D j=true->rg[j]?=some o->∀x,x∈qI o->D x=true) (hed:∀o,rg[i]?=some o->∀x,x∈qI o->D x=true) {a:Act} {w:World} (hinv:T.Inv S w0 nt df D a w) {K:Act->World->Prop} {Q:Exit->Act->World->Prop}
  (hk:∀a' w',T.Inv S w0 nt df (fun x=>if x=i then true else D x) a' w'->K a' w'):wpOpIn (tj lp) 0 P rg Q i K a w:=by
 obtain⟨β,hrel,hen,hsz,hdf0⟩:=hinv
 obtain⟨o,Ms,ho,hg,hE,hM,hs,hN,hMs,hf,_⟩:=T.step i hi
 -- what the operation looks at reads as in the text's order
 have hlook:∀t,t∈o.looksAt rg->(T.env D k).get t=(T.E i).get t:=by
  intro t ht
  have:=T.env_at D t i zA (fun j o' hj ho' hd=>?_) k (JZ _)
  ·rwa [show min i k=i from by omega]at this
  ·by_cases hji:j=i
   ·subst hji;simp[hD]
   ·rcases(lS hdf ho ho' hi hj hji t hd).2 ht with h|h
    ·exact⟨fun _=>wq hdf ho j h,fun _=>hed o ho j h⟩
    ·constructor
     ·intro hh
      have:=hcl j o' hj hh ho' i h
      rw[hD]at this;cases this
     ·intro hh
      have:=wq hdf ho' i h
      omega
 have hwant:Region.wanted o (yielded rg a.tmps)=T.G i:=tV (β:=β) hg (fun j want t y hgd ht hy=>by
  refine hen β (Agree.refl _ _) t y ?_
  rw[hlook t ?_]
  ·exact hy
  ·simp[Oper.looksAt,hgd,ht])
 have hmore:∀β' (N':Mem) u w',(T.N i=N'\/(N'=[]/\T.N i=[]))->Agree (T.mem D k) β β'->Rel S w0 β' (T.N i++T.mem D k) w'->(∀β'',Agree (T.N i++T.mem D k) β' β''->u=gv β'' (T.G i,T.W i))->T.Inv S w0 nt df (fun x=>if x=i then true else D x) (a.put o.dst u) w':=by
  intro β' N' u w' _ hag hrel' hu
  have hget:∀n,(T.mem (fun x=>if x=i then true else D x) k).get n=(T.N i++T.mem D k:Mem).get n:=fun n=>by rw[T.mem_more D hi hD hcl n k (JZ _),if_pos hi]
  refine⟨β',hrel'.ext hget,?_,by cases o.dst<;>simp[Act.put,hsz],by cases o.dst<;>simp[Act.put,hdf0]⟩
  have hput:=hen.put (N:=T.N i) hag hsz (hnt i o hi ho) hu
  intro β'' hag'' t x hx
  refine hput β'' (fun n hn=>hag'' n (by rw[hget];exact hn)) t x ?_
  rw[yv]
  rw[T.env_more D i o ho hD (fun j o' hj hne ho' d hd hd'=>(lS hdf ho ho' hi hj hne d hd').1 hd) t k (JZ _)]at hx
  by_cases hd:o.dst=some t
  ·rw[if_pos ⟨hi,hd⟩]at hx;rw[if_pos hd];exact hx
  ·rw[if_neg (fun hh=>hd hh.2)]at hx;rw[if_neg hd];exact hx
 unfold wpOpIn
 simp only[ho,hwant]
 cases hGi:T.G i with
 |true=>
  simp only[if_true]
  refine yw lp (tW hg).1 ?_
  refine hs hGi β (T.mem D k) a w (fun n b hb=>⟨b,?_,.inl rfl⟩) (fun n hn=>?_) hrel ?_ K Q ?_
  ·rcases hMs n b hb with h|⟨h1,h2⟩
   ·exact T.mem_base D h k (JZ _)
   ·rw[T.mem_own D hi ho hD hcl (hed o ho) h1 k (JZ _),show min i k=i from by omega]
    exact h2
  ·rcases(hf n hn).2.1 with h|h
   ·exact .inl h
   ·right
    rw[T.mem_own D hi ho hD hcl (hed o ho) (.inl hn) k (JZ _),show min i k=i from by omega]
    exact h
  ·intro β' hag x hx y hy
   cases x with
   |tmp t=>
    have ht:t∈o.looksAt rg:=List.mem_append_left _ (List.mem_filterMap.2 ⟨.tmp t,by simpa using hx,rfl⟩)
    exact hen β' hag t y (by rw[hlook t ht];exact hy)
   |const v=>simp[rd]at hy;subst hy;simp[gv,lW,Act.eval]
   |global g=>simp[rd]at hy;subst hy;simp[gv,V.g,Cv.g,Act.eval]
   |func f=>simp[rd]at hy;subst hy;simp[gv,V.g,Cv.g,Act.eval]
  ·intro β' u w' hag hrel' hu
   exact hk _ _ (hmore β' _ u w' (.inl rfl) hag hrel' (fun β'' h=>by rw[hu β'' h,hGi];rfl))
 |false=>
  simp only[JS,if_false]
  have hN0:T.N i=[]:=by rcases hN with h|h;rw[hGi]at h;cases h;exact h
  refine⟨fun f _=>p8 lp f,?_⟩
  exact hk _ _ (hmore β [] undef w (.inr ⟨rfl,hN0⟩) (Agree.refl _ _) (by rw[hN0];exact hrel) (fun β'' _=>by rw[hGi];rfl))
theorem vk {L:Array Bool}{i:Nat}:i∈Region.ready .any rg L↔i<rg.size/\L.getD i true=false/\∃o,rg[i]?=some o/\∀x,x∈qI o->L.getD x false=true:=by
 simp only[Region.ready,List.mem_filter,Jo,JB]
 constructor
 ·rintro⟨h1,h2,h3⟩
  refine⟨h1,by simpa using h2,?_⟩
  cases ho:rg[i]? with
  |none=>simp[ho]at h3
  |some o=>
   refine⟨o,rfl,fun x hx=>?_⟩
   rw[ho]at h3
   simp only[Jj,Option.getD_some]at h3
   rw[I4]at h3
   simp only[qI,JL,List.mem_filter]at hx
   obtain⟨e,⟨he1,he2⟩,rfl⟩:=hx
   have:=h3 e (by simpa using he1)
   simpa[he2]using this
 ·rintro⟨h1,h2,o,ho,h3⟩
  refine⟨h1,by simpa using h2,?_⟩
  rw[ho]
  simp only[Jj,Option.getD_some]
  rw[I4]
  intro e he
  by_cases hb:Region.binds .any e=true
  ·have:=h3 e.on (by simp only[qI,JL,List.mem_filter];exact⟨e,⟨by simpa using he,hb⟩,rfl⟩)
   simp[hb,this]
  ·simp[hb]
theorem vm {L:Array Bool}{i:Nat}(hi:i<L.size)(d:Bool)(x:Nat):(L.setIfInBounds i true).getD x d=if x=i then true else L.getD x d:=by
 by_cases h:x=i
 ·subst h;simp[hi]
 ·simp[IU (fun hh=>h hh.symm),h]
theorem nO (hdf:ut rg k=true){Q:Exit->Act->World->Prop}:∀(m j:Nat) (L:Array Bool) (a:Act) (w:World),j+m=rg.size->k<=j->L.size=rg.size->(∀i,i<rg.size->∀d,L.getD i d=decide (i<j))->wpListIn (tj lp) 0 P rg Q (rg.toList.drop j) a w->wpAnyIn (tj lp) 0 P .any rg Q m L a w
 |0,j,L,a,w,hm,hk,hL,hl,h=>by
  refine⟨?_,?_⟩
  ·rw[List.eq_nil_iff_forall_not_mem]
   intro i hi
   obtain⟨h1,h2,_⟩:=vk.1 hi
   rw[hl i h1 true]at h2
   simp at h2
   omega
  ·rw[List.drop_of_length_le (by simp;omega)]at h
   exact h
 |m+1,j,L,a,w,hm,hk,hL,hl,h=>by
  have hj:j<rg.size:=zA
  have hoj:rg[j]?=some rg[j]:=Jm hj
  have hrdy:j∈Region.ready .any rg L:=vk.2 ⟨hj,by rw[hl j hj true];simp,rg[j],hoj,fun x hx=>by
   have:=wq hdf hoj x hx
   rw[hl x zA false];simpa using this⟩
  refine⟨fun hh=>(by rw[hh]at hrdy;cases hrdy),fun i hi=>?_⟩
  obtain⟨h1,h2,o,ho,h3⟩:=vk.1 hi
  have hij:i=j:=by
   rw[hl i h1 true]at h2
   simp at h2
   by_cases hlt:j<i
   ·have:=(om hdf ho zA j hlt).done (k:=rg.size) (D:=fun x=>L.getD x false) (fun y o' hy hyd ho' x hx=>by
     have e1:=wq hdf ho' x hx
     simp only[hl y hy false,decide_eq_true_eq]at hyd
     simp only[hl x zA false,decide_eq_true_eq]
     omega) zA h3
    simp only[hl j hj false,decide_eq_true_eq]at this
    omega
   ·omega
  subst hij
  rw[JC (by simpa using hj)]at h
  unfold wpOpIn
  simp only[hoj]
  simp only[Array.getElem_toList,wpListIn]at h
  have ih:=fun a w=>nO hdf (Q:=Q) m (i+1) (L.setIfInBounds i true) a w zA zA (by simp[hL]) (fun x hx d=>by
   rw[vm zA d x]
   by_cases hx':x=i
   ·subst hx';simp
   ·rw[if_neg hx',hl x hx d];congr 1;simp;omega)
  split
  ·rename_i hw
   rw[if_pos hw]at h
   exact Oper.wpIn_mono (fun a w=>ih a w) h
  ·rename_i hw
   rw[if_neg hw]at h
   exact⟨h.1,ih _ _ h.2⟩
theorem Tf.env_congr (T:Tf P S w0 rg e0 M0 Mf k){D D':Nat->Bool}:∀j,(∀i,i<j->D i=D' i)->T.env D j=T.env D' j
 |0,_=>rfl
 |j+1,h=>by simp only[Tf.env,T.env_congr j (fun i hi=>h i zA),h j zA]
theorem Tf.mem_congr (T:Tf P S w0 rg e0 M0 Mf k){D D':Nat->Bool}:∀j,(∀i,i<j->D i=D' i)->T.mem D j=T.mem D' j
 |0,_=>rfl
 |j+1,h=>by simp only[Tf.mem,T.mem_congr j (fun i hi=>h i zA),h j zA]
theorem Tf.inv_congr (T:Tf P S w0 rg e0 M0 Mf k){D D':Nat->Bool}{nt:Nat}{a:Act}{w:World}(h:∀i,i<k->D i=D' i)(hi:T.Inv S w0 nt df D a w):T.Inv S w0 nt df D' a w:=by
 unfold Tf.Inv at*
 rw[<-T.env_congr k h,<-T.mem_congr k h]
 exact hi
theorem au (T:Tf P S w0 rg e0 M0 Mf k)(hdf:ut rg k=true){nt:Nat}{Q:Exit->Act->World->Prop}(hnt:∀i o,i<k->rg[i]?=some o->∀t,o.dst=some t->t<nt)
  (htail:∀a w,T.Inv S w0 nt df (fun _=>true) a w->wpListIn (tj lp) 0 P rg Q (rg.toList.drop k) a w):∀(fuel:Nat) (L:Array Bool) (a:Act) (w:World),L.size=rg.size->(L.toList.filter (fun b=> !b)).length=fuel->(∀i,k<=i->i<rg.size->∀d,L.getD i d=false)->
   (∀j o,j<k->L.getD j false=true->rg[j]?=some o->∀x,x∈qI o->L.getD x false=true)->T.Inv S w0 nt df (fun i=>L.getD i false) a w->wpAnyIn (tj lp) 0 P .any rg Q fuel L a w:=by
 have hkle:=gD hdf
 intro fuel
 induction fuel with
 |zero=>
  intro L a w hL hc hun hcl hinv
  have hall:∀i,i<rg.size->∀d,L.getD i d=true:=by
   intro i hi d
   have hlt:i<L.size:=zA
   simp only[II,Jm hlt,Option.getD_some]
   have:=JX.1 hc
   rw[List.filter_eq_nil_iff]at this
   have:=this L[i] z9
   simpa using this
  have hk:k=rg.size:=by
   by_cases h:k<rg.size
   ·have h1:=hun k (JZ _) h false
    rw[hall k h false]at h1;cases h1
   ·omega
  exact nO hdf 0 rg.size L a w rfl zA hL (fun i hi d=>by rw[hall i hi d];simp[hi]) (by
   have:=htail a w (T.inv_congr (fun i hi=>hall i zA false) hinv)
   rw[hk]at this
   exact this)
 |succ fuel ih=>
  intro L a w hL hc hun hcl hinv
  by_cases hdone:∀i,i<k->L.getD i false=true
  ·-- the first k are done
   have hl:∀i,i<rg.size->∀d,L.getD i d=decide (i<k):=by
    intro i hi d
    by_cases hik:i<k
    ·have:=hdone i hik
     have hlt:i<L.size:=zA
     simp only[II,Jm hlt,Option.getD_some]at this⊢
     simp[this,hik]
    ·rw[hun i zA hi d];simp[hik]
   have hcount:k+(fuel+1)=rg.size:=by
    have hLl:L.toList=(List.replicate k true)++List.replicate (rg.size-k) false:=by
     apply Jn
     intro i
     by_cases hi:i<rg.size
     ·have h1:=hl i hi false
      have hlt:i<L.size:=zA
      rw[IH,Jm hlt]
      simp only[II,Jm hlt,Option.getD_some]at h1
      rw[h1]
      by_cases hik:i<k
      ·rw[Jk (by simpa using hik),IR,if_pos hik];simp[hik]
      ·rw[Ju (by simpa using Nat.le_of_not_lt hik),IR,if_pos (by simp;omega)];simp[hik]
     ·rw[Jc (by simp;omega),Jc (by simp;omega)]
    rw[hLl]at hc
    simp at hc
    omega
   exact nO hdf (fuel+1) k L a w hcount (JZ _) hL hl (htail a w (T.inv_congr (fun i hi=>hdone i hi) hinv))
  ·-- one of the first k is not
   have hex:∃i,i<k/\L.getD i false=false/\∀j,j<i->L.getD j false=true:=by
    have:∃i,i<k/\L.getD i false=false:=by
     simp only[Classical.not_forall,Bool.not_eq_true]at hdone
     obtain⟨i,hi,h⟩:=hdone
     exact⟨i,hi,h⟩
    obtain⟨i,hi,h⟩:=this
    induction i using Nat.strongRecOn with
    |_ i ihh=>
     by_cases hj:∃j,j<i/\L.getD j false=false
     ·obtain⟨j,hji,hjf⟩:=hj
      exact ihh j hji zA hjf
     ·refine⟨i,hi,h,fun j hji=>?_⟩
      cases hv:L.getD j false with
      |true=>rfl
      |false=>exact absurd ⟨j,hji,hv⟩ hj
   obtain⟨i0,hi0,hf0,hm0⟩:=hex
   have conv:∀i,i<rg.size->∀d,L.getD i d=L.getD i false:=by
    intro i hi d
    have hlt:i<L.size:=zA
    simp only[II,Jm hlt,Option.getD_some]
   have hrdy:i0∈Region.ready .any rg L:=by
    have hlt:i0<rg.size:=zA
    have ho:rg[i0]?=some rg[i0]:=Jm hlt
    exact vk.2 ⟨hlt,by rw[conv i0 hlt true];exact hf0,rg[i0],ho,fun x hx=>hm0 x (wq hdf ho x hx)⟩
   refine⟨fun hh=>(by rw[hh]at hrdy;cases hrdy),fun i hi=>?_⟩
   obtain⟨h1,h2,o,ho,h3⟩:=vk.1 hi
   rw[conv i h1 true]at h2
   have hik:i<k:=by
    by_cases hh:i<k
    ·exact hh
    ·have:=(om hdf ho zA i0 zA).done (k:=rg.size) (D:=fun x=>L.getD x false) (fun y o' hy hyd ho' x hx=>by
      by_cases hyk:y<k
      ·exact hcl y o' hyk hyd ho' x hx
      ·have:=hun y zA hy false
       simp only[this]at hyd
       cases hyd) zA h3
     simp only[hf0]at this;cases this
   refine T.step_any hdf hnt hik (D:=fun i=>L.getD i false) h2 hcl (fun o' ho' x hx=>?_) hinv (fun a' w' hinv'=>?_)
   ·rw[ho]at ho';cases ho';exact h3 x hx
   ·have hset:∀d x,(L.setIfInBounds i true).getD x d=if x=i then true else L.getD x d:=fun d x=>vm zA d x
    refine ih (L.setIfInBounds i true) a' w' (by simp[hL]) ?_ ?_ ?_ ?_
    ·have hlt:i<L.size:=zA
     have hLi:L[i]=false:=by
      simp only[II,Jm hlt,Option.getD_some]at h2
      exact h2
     have hfl:∀(l:List Bool) (i:Nat),l[i]?=some false->((l.set i true).filter (fun b=> !b)).length+1=(l.filter (fun b=> !b)).length:=by
      intro l
      induction l with
      |nil=>intro i h;simp at h
      |cons x l ihl=>
       intro i h
       cases i with
       |zero=>simp at h;subst h;simp
       |succ i=>
        simp at h
        have:=ihl i h
        cases x<;>simp<;>omega
     have:=hfl L.toList i (by rw[IH,Jm hlt,hLi])
     rw[Array.toList_setIfInBounds]
     omega
    ·intro x hx hxs d
     rw[hset d x,if_neg zA]
     exact hun x hx hxs d
    ·intro j o' hj hjt ho' x hx
     rw[hset false x]
     by_cases hxi:x=i
     ·rw[if_pos hxi]
     ·rw[if_neg hxi]
      rw[hset false j]at hjt
      by_cases hji:j=i
      ·subst hji
       rw[ho]at ho';cases ho'
       exact h3 x hx
      ·rw[if_neg hji]at hjt
       exact hcl j o' hj hjt ho' x hx
    ·refine T.inv_congr (fun x _=>?_) hinv'
     rw[hset false x]
end
theorem Z2 {P:Program}{nt:Nat}{C:Cx}{r:List It}{id k:Nat}{rg:Array Oper}{e0 e:Env}{M0 Mf M:Mem}(hmix:P.follows .mixedOrders=true)(hdf:ut rg k=true)(hnt:rg.all (fun o=>yy nt o.dst)=true)
  {TT:List (Nat×Nat)} (htr:Tr P C.S C.w0 rg e0 M0 Mf (rg.toList.take k) e M TT) (hS:Sm P nt C (.ops rg (rg.toList.drop k)::r) e M):Sm P nt C (.code (.region id rg true)::r) e0 Mf:=by
 have hkle:=gD hdf
 have hlen:(rg.toList.take k).length=k:=by simp;omega
 obtain⟨T,hE,hM⟩:∃T:Tf P C.S C.w0 rg e0 M0 Mf k,T.E k=e/\T.MM k=M:=by
  have h:=htr.fn (fun i hi=>by
   rw[hlen]at hi
   rw[Iu,if_pos hi,IH])
  rw[hlen]at h
  obtain⟨T,h,_⟩:=h
  exact⟨T,h⟩
 intro β a w h1 h2 h3 h4
 have hfalse:∀j,T.mem (fun _=>false) j=Mf/\T.env (fun _=>false) j=e0:=by
  intro j
  induction j with
  |zero=>exact⟨rfl,rfl⟩
  |succ j ih=>
   refine⟨by simp[Tf.mem,ih.1],?_⟩
   rw[Tf.env]
   cases rg[j]?<;>simp[ih.2]
 refine wpIn_region_any hmix (au T hdf (S:=C.S) (w0:=C.w0) (nt:=nt) (df:=C.df) (lp:=C.lp) (fun i o _ ho t ht=>?_) (fun a w hinv=>?_) rg.size _ a _ z9 z9 (fun i _ hi d=>by simp[hi]) (fun j o _ hj=>by
  by_cases hjs:j<rg.size
  ·simp[hjs]at hj
  ·simp[hjs]at hj) (T.inv_congr (D:=fun _=>false) (fun i hi=>by
   have:i<rg.size:=zA
   simp[this]) ⟨β,?_,?_,h3,h4⟩))
 ·rw[I4]at hnt
  have:=hnt o (I6 ho)
  rw[ht]at this
  simpa[yy]using this
 ·obtain⟨β',g1,g2,g3,g4⟩:=hinv
  rw[T.mem_all _ k (JZ _) (fun _ _=>rfl),hM]at g1 g2
  rw[T.env_all _ k (JZ _) (fun _ _=>rfl),hE]at g2
  exact hS β' a w g1 g2 g3 g4
 ·rw[(hfalse k).1];exact h1.drew
 ·rw[(hfalse k).1,(hfalse k).2];exact h2
def Xq (N M:Mem):Bool:=N.all fun p=>(M.get p.1).isNone
def uF (T:List (Nat×Nat))(o:Oper)(N:Mem):Bool:=N.all fun p=>T.all fun q=> !(q.1==p.1||q.1==p.1+1000000)||(qI o).contains q.2
def nY (N M0 Ms M:Mem):Bool:=N.all fun p=>(M0.get p.1).isNone&&((Ms.get p.1).isSome||(M.get p.1).isNone)
def rj (e:Env)(M0 M:Mem):Op->Option (Nat×Bk)
 | .store _ x _=>match rd e x with
  |some (_,.c (.p n _))=>match M0.get n with
   |some _=>none
   |none=>match M.get n with
    |some b=>some (n,b)
    |none=>none
  |_=>none
 |_=>none
def me (x:Option (Nat×Bk))(M0:Mem):Mem:=
 match x with
 |some p=>p::M0
 |none=>M0
def eG (x:Option (Nat×Bk))(N:Mem):Bool:=
 match x with
 |some p=>(N.get p.1).isSome
 |none=>true
theorem uG {rg:Array Oper}{b:Nat}{T:List (Nat×Nat)}{o:Oper}{N M0 Ms M:Mem}(h1:nY N M0 Ms M=true)(h2:uF T o N=true):∀n,(N.get n).isSome=true->M0.get n=none/\((Ms.get n).isSome=true\/M.get n=none)/\∀i,Tc T n i->Anc rg b i o:=by
 intro n hn
 obtain⟨p,hp,hp1⟩:=JL.1 (wW hn)
 subst hp1
 have k1:=JD.1 h1 p hp
 have k2:=JD.1 h2 p hp
 simp only[JB,I8,Option.isNone_iff_eq_none]at k1
 refine⟨k1.1,k1.2,fun i hi=>?_⟩
 rcases hi with hi|hi
 ·have:=JD.1 k2 _ hi
  exact .base (by simpa using this)
 ·have:=JD.1 k2 _ hi
  exact .base (by simpa using this)
theorem eD {e:Env}{M0 M N:Mem}{op:Op}(h:eG (rj e M0 M op) N=true):∀n b,(me (rj e M0 M op) M0).get n=some b->M0.get n=some b\/((N.get n).isSome=true/\M.get n=some b):=by
 intro n b hb
 cases hx:rj e M0 M op with
 |none=>rw[hx]at hb;exact .inl hb
 |some p=>
  obtain⟨m,c⟩:=p
  rw[hx]at hb h
  have hm:M0.get m=none/\M.get m=some c:=by
   unfold rj at hx
   split at hx<;>first|(cases hx;done)|skip
   split at hx<;>first|(cases hx;done)|skip
   split at hx<;>first|(cases hx;done)|skip
   rename_i h0
   split at hx<;>simp at hx
   rename_i h1
   obtain⟨rfl,rfl⟩:=hx
   exact⟨h0,h1⟩
  simp only[me,Mem.get]at hb
  by_cases hmn:m=n
  ·subst hmn
   simp at hb
   subst hb
   exact .inr ⟨h,hm.2⟩
  ·have:(m==n)=false:=by simpa using hmn
   rw[this]at hb
   exact .inl (by simpa using hb)
def DrS (P:Program)(nt:Nat)(C:Cx)(id:Nat)(rg:Array Oper)(r:List It)(e0:Env)(M0 Mf:Mem)(k:Nat)(T:List (Nat×Nat))(i:Nat)(l:List Oper)(e:Env)(M:Mem):Prop:=
 P.follows .mixedOrders=true->ut rg k=true->rg.all (fun o=>yy nt o.dst)=true->∀done,done.length=i->done++l=rg.toList.take k->Tr P C.S C.w0 rg e0 M0 Mf done e M T->Sm P nt C (.code (.region id rg true)::r) e0 Mf
def vP (N:Mem)(i:Nat)(T:List (Nat×Nat)):List (Nat×Nat):=N.map (fun p=>(p.1,i))++T
def DCallQ (P:Program)(nt:Nat)(C:Cx)(id:Nat)(rg:Array Oper)(r:List It)(e0:Env)(M0 Mf:Mem)(k:Nat)(T:List (Nat×Nat))(i:Nat)(o:Oper)(f:FuncId)(vs:List (Option (Bool×V)))(g:Bool)(dst:Option Nat)(l:List Oper)(e:Env)(M:Mem):Prop:=
 ∃(M1 N Ms:Mem) (v:V) (xs:List V),(g=true->vs=xs.map fun x=>some (true,x))/\(g=true->jl P C f xs M1 v N)/\Sub M1 Ms/\ClM M1/\Fresh N M1 Ms/\(g=true\/N=[])/\((∀n b,Ms.get n=some b->M0.get n=some b\/((N.get n).isSome=true/\M.get n=some b))/\(∀n,(N.get n).isSome=true->M0.get n=none/\((Ms.get n).isSome=true\/M.get n=none)/\∀j,Tc T n j->Anc rg i j o))/\DrS P nt C id rg r e0 M0 Mf k (vP N i T) (i+1) l (e.put dst g v) (N++M)
def DOpQ (P:Program)(nt:Nat)(C:Cx)(id:Nat)(rg:Array Oper)(r:List It)(e0:Env)(M0 Mf:Mem)(k:Nat)(T:List (Nat×Nat))(i:Nat)(o:Oper)(g:Bool)(l:List Oper)(e:Env)(M:Mem):Prop:=
 (∃(N Ms:Mem) (v:V),(g=true->StpC P C.S C.w0 o e Ms v N)/\(g=true\/N=[])/\((∀n b,Ms.get n=some b->M0.get n=some b\/((N.get n).isSome=true/\M.get n=some b))/\(∀n,(N.get n).isSome=true->M0.get n=none/\((Ms.get n).isSome=true\/M.get n=none)/\∀j,Tc T n j->Anc rg i j o))/\DrS P nt C id rg r e0 M0 Mf k (vP N i T) (i+1) l (e.put o.dst g v) (N++M))\/
 ∃(X:List Nat) (Ms:Mem) (v:V),(g=true->StpC P C.S C.w0 o e Ms v [])/\(∀n b,Ms.get n=some b->M0.get n=some b\/(n∈X/\M.get n=some b))/\(∀n,n∈X->∀j,(n,j)∈T->Anc rg i j o)/\DrS P nt C id rg r e0 M0 Mf k (X.map (fun n=>(n+1000000,i))++T) (i+1) l (e.put o.dst g v) M
def wA (P:Program)(nt:Nat)(C:Cx)(todo:List It)(e:Env)(M:Mem)(nx:Nat):Prop:=run P nt C 1000 todo e M nx
@[go_sem] theorem Vi (P:Program)(nt:Nat)(C:Cx)(todo:List It)(e:Env)(M:Mem)(nx:Nat):wA P nt C todo e M nx=run P nt C 1000 todo e M nx:=rfl
def wz (P:Program)(nt:Nat)(C:Cx)(id:Nat)(rg:Array Oper)(r:List It)(e0:Env)(M0 Mf:Mem)(k:Nat)(kont:Env->Mem->Nat->Prop):List (Nat×Nat)->Nat->List Oper->Env->Mem->Nat->Prop
 |_,_,[],e,M,nx=>kont e M nx
 |T,i,o::l,e,M,nx=>
  match gd rg e o with
  |none=>DrS P nt C id rg r e0 M0 Mf k T i (o::l) e M
  |some g=>
   match Wb P e (me (rj e M0 M o.op) M0) nx o.dst.isNone o.op with
   |some (sc,v,N,nx')=>((g=true->sc)/\(g=true\/N=[])/\nY N M0 (me (rj e M0 M o.op) M0) M=true/\uF T o N=true/\eG (rj e M0 M o.op) N=true)/\wz P nt C id rg r e0 M0 Mf k kont (vP N i T) (i+1) l (e.put o.dst g v) (N++M) nx'
   |none=>
    match Wa P e M0 nx o.op with
    |some (sc,v,N,nx')=>((g=true->sc)/\(g=true\/N=[])/\nY N M0 M0 M=true/\uF T o N=true)/\wz P nt C id rg r e0 M0 Mf k kont (vP N i T) (i+1) l (e.put o.dst g v) (N++M) nx'
    |none=>
     match v6 e o.op with
     |some (g',f,vs)=>(g=true->g'=true)/\DCallQ P nt C id rg r e0 M0 Mf k T i o f vs g o.dst l e M
     |none=>DOpQ P nt C id rg r e0 M0 Mf k T i o g l e M
theorem nV {P:Program}{nt:Nat}{C:Cx}{id:Nat}{rg:Array Oper}{r:List It}{e0:Env}{M0 Mf:Mem}{k:Nat}{kont:Env->Mem->Nat->Prop}(hk:∀e M nx,kont e M nx->Sm P nt C (.ops rg (rg.toList.drop k)::r) e M):
  ∀(l:List Oper) (T:List (Nat×Nat)) (i:Nat) (e:Env) (M:Mem) (nx:Nat),wz P nt C id rg r e0 M0 Mf k kont T i l e M nx->DrS P nt C id rg r e0 M0 Mf k T i l e M:=by
 intro l
 induction l with
 |nil=>
  intro T i e M nx h hmix hdf hnt done hi hd htr
  rw[JK]at hd
  subst hd
  exact Z2 hmix hdf hnt htr (hk e M nx h)
 |cons o l ih=>
  intro T i e M nx h hmix hdf hnt done hi hd htr
  have hd':(done++[o])++l=rg.toList.take k:=by simpa using hd
  have hi':(done++[o]).length=i+1:=by simp[hi]
  subst hi
  have hM0:∀(N:Mem) n b,M0.get n=some b->M0.get n=some b\/((N.get n).isSome=true/\M.get n=some b):=fun _ _ _ h=> .inl h
  simp only[wz]at h
  split at h
  ·exact h hmix hdf hnt done rfl hd htr
  ·rename_i g hg
   split at h
   ·rename_i sc v N nx' hop
    obtain⟨⟨h1,h2,h3,h3',h3''⟩,h4⟩:=h
    exact ih _ _ _ _ _ h4 hmix hdf hnt _ hi' hd' (.snoc htr hg (fun hgt=>(jE hop (h1 hgt)).toC) h2 (eD h3'') (uG h3 h3'))
   ·split at h
    ·rename_i sc v N nx' hop
     obtain⟨⟨h1,h2,h3,h3'⟩,h4⟩:=h
     exact ih _ _ _ _ _ h4 hmix hdf hnt _ hi' hd' (.snoc htr hg (fun hgt=>(jD hop (h1 hgt)).toC) h2 (hM0 N) (uG h3 h3'))
    split at h
    ·rename_i g' f vs hop
     obtain⟨h0,M1,N,Ms,v,xs,k1,k2,k3,k4,k5,k6,k7,k8⟩:=h
     exact k8 hmix hdf hnt _ hi' hd' (.snoc htr hg (fun hgt=>qD (by rw[hop,h0 hgt]) (k1 hgt) (k2 hgt) k3 k4 k5) k6 k7.1 k7.2)
    ·rcases h with⟨N,Ms,v,k1,k2,k3,k4⟩|⟨X,Ms,v,k1,k2,k3,k4⟩
     ·exact k4 hmix hdf hnt _ hi' hd' (.snoc htr hg k1 k2 k3.1 k3.2)
     ·exact k4 hmix hdf hnt _ hi' hd' (.look X htr hg k1 k2 k3)
section
variable {P:Program} {nt:Nat} {C:Cx} {todo r:List It} {e e0:Env} {M M0 Mf:Mem}
theorem zB (nx:Nat)(h:run P nt C 1000 todo e M nx):Sm P nt C todo e M:=yP 1000 _ _ _ nx h
theorem cZ {id:Nat}{rg:Array Oper}(nx k:Nat)(hmix:P.follows .mixedOrders=true)(hdf:ut rg k=true)(hnt:rg.all (fun o=>yy nt o.dst)=true)
  (h:wz P nt C id rg r e M M k (wA P nt C (.ops rg (rg.toList.drop k)::r)) [] 0 (rg.toList.take k) e M nx):Sm P nt C (.code (.region id rg true)::r) e M:=
 nV (fun _ _ nx h=>yP 1000 _ _ _ nx h) _ _ _ _ _ _ h hmix hdf hnt [] rfl rfl (.nil fun _ _ h=>h)
def Mem.wo (W:List Nat):Mem->Mem
 |[]=>[]
 |(n,b)::M=>bif W.contains n then Mem.wo W M else(n,b)::Mem.wo W M
theorem th {W:List Nat}:∀{M:Mem} {n:Nat} {b:Bk},(Mem.wo W M).get n=some b->M.get n=some b
 |[],n,b,h=>by cases h
 |(k,c)::M,n,b,h=>by
  have hW:∀{M:Mem} {n:Nat} {b:Bk},(Mem.wo W M).get n=some b->W.contains n=false:=by
   intro M
   induction M with
   |nil=>intro n b h;cases h
   |cons p M ih=>
    obtain⟨j,d⟩:=p
    intro n b h
    simp only[Mem.wo]at h
    cases hw:W.contains j with
    |true=>rw[hw]at h;exact ih h
    |false=>
     rw[hw]at h
     simp only[cond_false,Mem.get]at h
     cases hj:(j==n)with
     |true=>have:j=n:=by simpa using hj
            subst this;exact hw
     |false=>rw[hj]at h;exact ih h
  have hn:=hW h
  simp only[Mem.wo]at h
  simp only[Mem.get]
  cases hw:W.contains k with
  |true=>
   rw[hw]at h
   have hk:(k==n)=false:=by
    rw[beq_eq_false_iff_ne]
    intro e
    rw[e,hn]at hw;cases hw
   rw[hk]
   exact th (M:=M) h
  |false=>
   rw[hw]at h
   simp only[cond_false,Mem.get]at h
   cases hk:(k==n)with
   |true=>rw[hk]at h;exact h
   |false=>rw[hk]at h;exact th (M:=M) h
theorem Z3 {id:Nat}{rg:Array Oper}(W:List Nat)(nx k:Nat)(hmix:P.follows .mixedOrders=true)(hdf:ut rg k=true)(hnt:rg.all (fun o=>yy nt o.dst)=true)
  (h:wz P nt C id rg r e (Mem.wo W M) M k (wA P nt C (.ops rg (rg.toList.drop k)::r)) [] 0 (rg.toList.take k) e M nx):Sm P nt C (.code (.region id rg true)::r) e M:=
 nV (fun _ _ nx h=>yP 1000 _ _ _ nx h) _ _ _ _ _ _ h hmix hdf hnt [] rfl rfl (.nil fun _ _ h=>th h)
theorem wX {id:Nat}{rg:Array Oper}{k:Nat}{T:List (Nat×Nat)}{i:Nat}{l:List Oper}(nx:Nat)(h:wz P nt C id rg r e0 M0 Mf k (wA P nt C (.ops rg (rg.toList.drop k)::r)) T i l e M nx):DrS P nt C id rg r e0 M0 Mf k T i l e M:=
 nV (fun _ _ nx h=>yP 1000 _ _ _ nx h) _ _ _ _ _ _ h
theorem Sub.nil (M:Mem):Sub [] M:=fun _ _ h=>by cases h
theorem ClM.nil:ClM []:=fun _ _ _ _ _ h=>by cases h
theorem Fresh.nil (M M':Mem):Fresh [] M M':=fun _ h=>by cases h
theorem CallQ.pure {f:FuncId}{vs:List (Option (Bool×V))}{g:Bool}{dst:Option Nat}{xs:List V}{v:V}(nx:Nat)(hc:CallOk P f xs [] v [])(hvs:vs=xs.map fun x=>some (true,x))(h:run P nt C 1000 todo (e.put dst g v) M nx):
  CallQ P nt C f vs g dst todo e M:= .inl ⟨[],[],v,xs,fun _=>hvs,fun _=> .inl (.inl hc),Sub.nil _,ClM.nil,Fresh.nil _ _,.inr rfl,yP 1000 _ _ _ nx h⟩
theorem DCallQ.pure {id:Nat}{rg:Array Oper}{k:Nat}{T:List (Nat×Nat)}{i:Nat}{o:Oper}{l:List Oper}{f:FuncId}{vs:List (Option (Bool×V))}{g:Bool}{dst:Option Nat}{xs:List V}{v:V}(nx:Nat)(hc:CallOk P f xs [] v [])(hvs:vs=xs.map fun x=>some (true,x))
  (h:wz P nt C id rg r e0 M0 Mf k (wA P nt C (.ops rg (rg.toList.drop k)::r)) T (i+1) l (e.put dst g v) M nx):DCallQ P nt C id rg r e0 M0 Mf k T i o f vs g dst l e M:=
 ⟨[],[],M0,v,xs,fun _=>hvs,fun _=> .inl (.inl hc),Sub.nil _,ClM.nil,Fresh.nil _ _,.inr rfl,⟨fun _ _ h=> .inl h,fun _ h=>by cases h⟩,wX nx h⟩
theorem CallQ.ext {f:FuncId}{vs:List (Option (Bool×V))}{g:Bool}{dst:Option Nat}{xs:List V}{v:V}(nx:Nat)(hc:pu P f xs v)(hvs:vs=xs.map fun x=>some (true,x))(h:run P nt C 1000 todo (e.put dst g v) M nx):
  CallQ P nt C f vs g dst todo e M:= .inl ⟨[],[],v,xs,fun _=>hvs,fun _=> .inl (.inr ⟨rfl,hc⟩),Sub.nil _,ClM.nil,Fresh.nil _ _,.inr rfl,yP 1000 _ _ _ nx h⟩
theorem CallQ.guard {f:FuncId}{vs:List (Option (Bool×V))}{g:Bool}{dst:Option Nat}{xs:List V}{v:V}(nx:Nat)(hc:g=true->CallOk P f xs [] v [])(hvs:g=true->vs=xs.map fun x=>some (true,x))(h:run P nt C 1000 todo (e.put dst g v) M nx):
  CallQ P nt C f vs g dst todo e M:= .inl ⟨[],[],v,xs,hvs,fun h=> .inl (.inl (hc h)),Sub.nil _,ClM.nil,Fresh.nil _ _,.inr rfl,yP 1000 _ _ _ nx h⟩
theorem DCallQ.guard {id:Nat}{rg:Array Oper}{k:Nat}{T:List (Nat×Nat)}{i:Nat}{o:Oper}{l:List Oper}{f:FuncId}{vs:List (Option (Bool×V))}{g:Bool}{dst:Option Nat}{xs:List V}{v:V}(nx:Nat)(hc:g=true->CallOk P f xs [] v [])(hvs:g=true->vs=xs.map fun x=>some (true,x))
  (h:wz P nt C id rg r e0 M0 Mf k (wA P nt C (.ops rg (rg.toList.drop k)::r)) T (i+1) l (e.put dst g v) M nx):DCallQ P nt C id rg r e0 M0 Mf k T i o f vs g dst l e M:=
 ⟨[],[],M0,v,xs,hvs,fun h=> .inl (.inl (hc h)),Sub.nil _,ClM.nil,Fresh.nil _ _,.inr rfl,⟨fun _ _ h=> .inl h,fun _ h=>by cases h⟩,wX nx h⟩
theorem CallOk.mk {P:Program}{f:FuncId}{fn:Func}{body:Code}{args:List V}{v:V}(nx:Nat)(hf:P.funcs[f]?=some fn)(hb:fn.body=some body)(hent:Enters P f)(hnt:args.length<=fn.ntmps)(hcl:∀x∈args,ClV [] x)
  (h:∀C,yr P C fn v []->run P fn.ntmps C 1000 [.code body] (wB 0 args) [] nx):CallOk P f args [] v []:=
 CallOk.intro hf hb hent hnt (fun _ _ h=>by cases h) (fun _ _ _ h=>by cases h) hcl (fun C hR _=>yP 1000 _ _ _ nx (h C hR))
theorem RetQ.pure {fn:Func}{v:V}{e:Env}{M:Mem}(hR:yr P C fn v []){sc:Prop}{u:V}(hres:sA P e M fn.results.toList=some (sc,u))(hs:sc)(hv:u=v)(hcv:ClV [] v):RetQ C e M:=
 zN hR hres hs hv (Sub.nil _) ClM.nil hcv
end
def Y6:Env->Env->Prop
 |[],_=>True
 |(t,x)::r,e'=>e'.get t=some x/\Y6 r e'
theorem wu:∀{e:Env} {t:Nat} {y:Bool×V},e.get t=some y->(t,y)∈e
 |[],t,y,h=>by cases h
 |(k,x)::r,t,y,h=>by
  simp only[Env.get]at h
  cases hk:(k==t)with
  |true=>
   rw[hk]at h
   have:k=t:=by simpa using hk
   subst this
   simp at h
   subst h
   simp
  |false=>
   rw[hk]at h
   exact I0 _ (wu h)
theorem RetQ.int {P:Program}{C:Cx}{fn:Func}{k:IntKind}{n m:Int}{e:Env}{M:Mem}(hR:yr P C fn (.c (.v (.int k n))) []){sc:Prop}(hres:sA P e M fn.results.toList=some (sc,.c (.v (.int k m))))(hs:sc)(hv:m=n):RetQ C e M:=
 RetQ.pure hR hres hs (by rw[hv]) (fun _ _ _=>rfl)
theorem RetQ.bool {P:Program}{C:Cx}{fn:Func}{n m:Bool}{e:Env}{M:Mem}(hR:yr P C fn (.c (.v (.bool n))) []){sc:Prop}(hres:sA P e M fn.results.toList=some (sc,.c (.v (.bool m))))(hs:sc)(hv:m=n):RetQ C e M:=
 RetQ.pure hR hres hs (by rw[hv]) (fun _ _ _=>rfl)
theorem zx {P:Program}{C:Cx}{fn:Func}{k k':IntKind}{n m n' m':Int}{e:Env}{M:Mem}(hR:yr P C fn (.tup [.c (.v (.int k n)),.c (.v (.int k' n'))]) []){sc:Prop}(hres:sA P e M fn.results.toList=some (sc,.tup [.c (.v (.int k m)),.c (.v (.int k' m'))]))(hs:sc)(hv:m=n)(hv':m'=n'):RetQ C e M:=
 RetQ.pure hR hres hs (by rw[hv,hv']) (fun _ _ _=>rfl)
def Cv.isV:Cv->Bool
 | .v _=>true
 |_=>false
theorem cg {x:Cv}(h:x.isV=true)(β β':Vl):x.g β'=x.g β:=by cases x<;>first|rfl|cases h
theorem zk:∀{M:Mem} {n:Nat} {b:Bk},M.get n=some b->(n,b)∈M
 |[],n,b,h=>by cases h
 |(k,c)::r,n,b,h=>by
  simp only[Mem.get]at h
  cases hk:(k==n)with
  |true=>
   rw[hk]at h
   have:k=n:=by simpa using hk
   subst this
   simp at h
   subst h
   simp
  |false=>
   rw[hk]at h
   exact I0 _ (zk h)
theorem ClM.v {M:Mem}(h:M.all (fun p=>p.2.cells.all Cv.isV)=true):ClM M:=by
 intro β β' _ n b hb
 have h1:=JD.1 h (n,b) (zk hb)
 refine JV fun x hx=>?_
 exact cg (JD.1 h1 x hx) β β'
@[go_sem] theorem N5 {n:Int}(h1: -9223372036854775808<=n)(h2:n<=9223372036854775807):IntKind.i64.wrap n=n:=IntWalk.i64_in n ⟨h1,h2⟩
theorem jk {P:Program}{f:FuncId}{fn:Func}{body:Code}{args:List V}{v:V}{M:Mem}(nx:Nat)(hf:P.funcs[f]?=some fn)(hb:fn.body=some body)(hent:Enters P f)(hnt:args.length<=fn.ntmps)(hcl:∀x∈args,ClV M x)
  (h:∀C,yr P C fn v M->run P fn.ntmps C 1000 [.code body] (wB 0 args) M nx):CallOk P f args M v []:=
 CallOk.intro hf hb hent hnt (fun _ _ h=>by cases h) (fun _ _ _ h=>by cases h) hcl (fun C hR _=>yP 1000 _ _ _ nx (h C hR))
theorem CallQ.mem {P:Program}{nt:Nat}{C:Cx}{todo:List It}{e:Env}{M:Mem}{f:FuncId}{vs:List (Option (Bool×V))}{g:Bool}{dst:Option Nat}{xs:List V}{v:V}{M1:Mem}(nx:Nat)(hc:CallOk P f xs M1 v [])(hvs:vs=xs.map fun x=>some (true,x))(hs:Sub M1 M)(hcl:ClM M1)(h:run P nt C 1000 todo (e.put dst g v) M nx):
  CallQ P nt C f vs g dst todo e M:= .inl ⟨M1,[],v,xs,fun _=>hvs,fun _=> .inl (.inl hc),hs,hcl,Fresh.nil _ _,.inr rfl,yP 1000 _ _ _ nx h⟩
theorem Sub.one {M:Mem}{n:Nat}{b b':Bk}(h:M.get n=some b')(hw:Wk b b'):Sub [(n,b)] M:=fun k c hk=>by
 simp only[Mem.get]at hk
 cases hkn:(n==k)with
 |true=>
  rw[hkn]at hk
  have:n=k:=by simpa using hkn
  subst this
  simp at hk
  subst hk
  exact⟨b',h,hw⟩
 |false=>rw[hkn]at hk;cases hk
attribute [go_sem] Y6 imp_self Bool.not_eq_true' cond_true cond_false true_and and_true and_self implies_true true_or or_true forall_const ne_eq not_false_eq_true decide_true decide_false beq_self_eq_true Option.isNone Option.bind_some Option.isNone_none Option.isNone_some Option.isSome_some Bool.true_and Bool.and_true beq_true beq_false Bool.not_true Bool.not_false eq_self Bool.true_eq_false Bool.false_eq_true false_implies true_implies or_false false_or and_false false_and List.map_cons List.map_nil List.all_cons List.all_nil List.take_succ_cons List.take_zero List.take_nil List.drop_succ_cons List.drop_zero List.drop_nil List.length_cons List.length_nil List.getElem?_cons_zero List.getElem?_cons_succ List.getElem?_toArray List.nil_append List.cons_append List.set_cons_zero List.set_cons_succ Nat.zero_add Nat.add_zero
attribute [go_sem] su Pt
attribute [go_sem] Mem.wo v6 run wz rj me eG nY uF vP qI Region.binds List.filter Option.isSome_none Bool.true_or Bool.or_true Bool.false_or Bool.or_false Bool.or_self List.contains_cons List.contains_nil List.elem wB gd UA ip Wb rd rD Env.get Env.put v9 yy rM Mem.get wQ V.ok1 V.cells Cv.one Value.oneCell' ZS QQ iU W.toV vo Xq sA mv eS V.toW
end Vg
namespace Vg
open Go.RowKit
def rn:List (Nat×Nat)->Nat->Nat
 |[],k=>k+1000000
 |(a,b)::r,k=>bif a==k then b else rn r k
def qF:List (Nat×Nat)->Bool
 |[]=>true
 |(_,b)::r=>decide (b<1000000)&&(r.all fun p=>p.2 !=b)&&qF r
theorem iD:∀(L:List (Nat×Nat)) (k:Nat),(∃p∈L,rn L k=p.2)\/rn L k=k+1000000
 |[],k=> .inr rfl
 |(a,b)::r,k=>by
  simp only[rn]
  cases h:(a==k)with
  |true=>exact .inl ⟨(a,b),z9,rfl⟩
  |false=>
   rcases iD r k with⟨p,hp,h1⟩|h1
   ·exact .inl ⟨p,by simp[hp],by simpa using h1⟩
   ·exact .inr (by simpa using h1)
theorem xk:∀(L:List (Nat×Nat)),qF L=true->∀n m,rn L n=rn L m->n=m
 |[],_,n,m,h=>by simp[rn]at h;exact h
 |(a,b)::r,hL,n,m,h=>by
  have hL':=hL
  simp only[qF,JB,decide_eq_true_eq,JD]at hL
  have key:∀k,rn r k≠b:=by
   intro k hk
   rcases iD r k with⟨p,hp,h1⟩|h1
   ·have:=hL.1.2 p hp
    simp at this
    exact this (by rw[<-h1,hk])
   ·omega
  simp only[rn]at h
  cases hn:(a==n)with
  |true=>
   cases hm:(a==m)with
   |true=>simp at hn hm;omega
   |false=>rw[hn,hm]at h;simp at h;exact absurd h.symm (key m)
  |false=>
   cases hm:(a==m)with
   |true=>rw[hn,hm]at h;simp at h;exact absurd h (key n)
   |false=>rw[hn,hm]at h;simp at h;exact xk r hL.2 n m h
def SubS:Mem->Mem->Prop
 |[],_=>True
 |(n,b)::r,M=>(∃b',M.get n=some b'/\Wk b b')/\SubS r M
theorem SubS.sub {M:Mem}:∀{M1:Mem},SubS M1 M->Sub M1 M
 |[],_,n,b,h=>by cases h
 |(k,c)::r,hs,n,b,h=>by
  rw[zE]at h
  split at h
  ·rename_i hk
   simp at h
   subst h hk
   exact hs.1
  ·exact SubS.sub hs.2 n b h
theorem xA {N M1 M:Mem}(h:N.all (fun p=>(M1.get p.1).isSome||(M.get p.1).isNone)=true):Fresh N M1 M:=by
 intro n hn
 obtain⟨b,hb⟩:=JE.1 hn
 have:=JD.1 h (n,b) (zk hb)
 simp at this
 rcases this with h|h
 ·exact .inl h
 ·exact .inr h
theorem ClM.ren {ρ:Nat->Nat}(hi:∀n m,ρ n=ρ m->n=m){M:Mem}(h:ClM M):ClM (M.ren ρ):=by
 intro β β' hag k b hb
 obtain⟨n,c,rfl,hn,rfl⟩:=ze hi hb
 have:=h (fun n=>β (ρ n)) (fun n=>β' (ρ n)) (fun j hj=>by
  obtain⟨d,hd⟩:=JE.1 hj
  exact hag (ρ j) (by rw[z8 hi,hd];rfl)) n c hn
 simp only[Bk.ren,tO]
 exact this
section
variable {P:Program} {nt:Nat} {C:Cx} {todo r:List It} {e e0:Env} {M M0 Mf:Mem}
theorem CallQ.ren {f:FuncId}{vs:List (Option (Bool×V))}{g:Bool}{dst:Option Nat}{xs:List V}{v:V}{M1 N:Mem}(L:List (Nat×Nat))(nx:Nat)(hc:CallOk P f xs M1 v N)(hcl:ClM M1)(hL:qF L=true)(hvs:vs=(xs.map (V.ren (rn L))).map fun x=>some (true,x))
  (hs:SubS (M1.ren (rn L)) M) (hfr:(N.ren (rn L)).all (fun p=>((M1.ren (rn L)).get p.1).isSome||(M.get p.1).isNone)=true) (hg:g=true\/N=[]) (h:run P nt C 1000 todo (e.put dst g (v.ren (rn L))) (N.ren (rn L)++M) nx):CallQ P nt C f vs g dst todo e M:=
 .inl ⟨M1.ren (rn L),N.ren (rn L),v.ren (rn L),xs.map (V.ren (rn L)),fun _=>hvs,fun _=> .inl (.inl (hc.ren (xk L hL))),hs.sub,hcl.ren (xk L hL),xA hfr,hg.imp (fun h=>h) (fun h=>by rw[h];rfl),yP 1000 _ _ _ nx h⟩
theorem DCallQ.ren {id:Nat}{rg:Array Oper}{k:Nat}{T:List (Nat×Nat)}{i:Nat}{o:Oper}{l:List Oper}{f:FuncId}{vs:List (Option (Bool×V))}{g:Bool}{dst:Option Nat}{xs:List V}{v:V}{M1 N:Mem}(L:List (Nat×Nat))(nx:Nat)(hc:CallOk P f xs M1 v N)(hcl:ClM M1)(hL:qF L=true)(hvs:vs=(xs.map (V.ren (rn L))).map fun x=>some (true,x))
  (hs:SubS (M1.ren (rn L)) M0) (hfr:(N.ren (rn L)).all (fun p=>((M1.ren (rn L)).get p.1).isSome||(M0.get p.1).isNone)=true) (hg:g=true\/N=[]) (hf2:nY (N.ren (rn L)) M0 M0 M=true) (hf3:uF T o (N.ren (rn L))=true)
  (h:wz P nt C id rg r e0 M0 Mf k (wA P nt C (.ops rg (rg.toList.drop k)::r)) (vP (N.ren (rn L)) i T) (i+1) l (e.put dst g (v.ren (rn L))) (N.ren (rn L)++M) nx):DCallQ P nt C id rg r e0 M0 Mf k T i o f vs g dst l e M:=
 ⟨M1.ren (rn L),N.ren (rn L),M0,v.ren (rn L),xs.map (V.ren (rn L)),fun _=>hvs,fun _=> .inl (.inl (hc.ren (xk L hL))),hs.sub,hcl.ren (xk L hL),xA hfr,hg.imp (fun h=>h) (fun h=>by rw[h];rfl),⟨fun _ _ h=> .inl h,uG hf2 hf3⟩,wX nx h⟩
end
def RenS (ρ:Nat->Nat)(M':Mem):List Nat->Mem->Prop
 |_,[]=>True
 |seen,(n,b)::r=>(n∈seen\/∃b',M'.get (ρ n)=some b'/\Wk (b.ren ρ) b')/\RenS ρ M' (n::seen) r
theorem RenS.sub {ρ:Nat->Nat}{M':Mem}:∀{M:Mem} {seen:List Nat},RenS ρ M' seen M->∀n b,n∉seen->M.get n=some b->∃b',M'.get (ρ n)=some b'/\Wk (b.ren ρ) b'
 |[],_,_,n,b,_,h=>by cases h
 |(k,c)::r,seen,hs,n,b,hns,h=>by
  rw[zE]at h
  split at h
  ·rename_i hk
   simp at h
   subst h hk
   rcases hs.1 with h|h
   ·exact absurd h hns
   ·exact h
  ·rename_i hk
   exact RenS.sub hs.2 n b (by simp only[J3,not_or];exact⟨hk,hns⟩) h
theorem RenS.ok {L:List (Nat×Nat)}{M M':Mem}(hL:qF L=true)(h:RenS (rn L) M' [] M):RenOk (rn L) M M':=⟨fun n m _ _ hh=>xk L hL n m hh,fun n b hb=>h.sub n b z9 hb⟩
def Pins (S:Bs)(M0:Mem):Prop:=∀n l,S.pin n=some l->(M0.get n).isSome=true
def pinS (ρ:Nat->Nat)(M:Mem):Mem->Prop
 |[]=>True
 |(n,_)::r=>(ρ n=n/\(M.get n).isSome=true)/\pinS ρ M r
theorem pinS.ok {ρ:Nat->Nat}{M:Mem}:∀{M0:Mem},pinS ρ M M0->∀n,(M0.get n).isSome=true->(M.get n).isSome=true/\ρ n=n
 |[],_,n,h=>by cases h
 |(k,c)::r,hs,n,h=>by
  rw[zE]at h
  split at h
  ·rename_i hk;subst hk;exact⟨hs.1.2,hs.1.1⟩
  ·exact pinS.ok hs.2 n h
def EnvLeR (ρ:Nat->Nat):Env->Env->Prop
 |[],_=>True
 |(t,x)::r,e'=>e'.get t=some (x.1,x.2.ren ρ)/\EnvLeR ρ r e'
theorem EnvLeR.ok {ρ:Nat->Nat}{e':Env}:∀{e:Env},EnvLeR ρ e e'->∀t y,e.get t=some y->e'.get t=some (y.1,y.2.ren ρ)
 |[],_,t,y,h=>by cases h
 |(k,x)::r,hle,t,y,h=>by
  simp only[Env.get]at h
  cases hk:(k==t)with
  |true=>
   rw[hk]at h
   have:k=t:=by simpa using hk
   subst this
   simp at h
   subst h
   exact hle.1
  |false=>
   rw[hk]at h
   exact EnvLeR.ok hle.2 t y h
theorem Wkn.ren {S:Bs}{e e':Env}{M M' M0:Mem}(L:List (Nat×Nat))(hP:Pins S M0)(hL:qF L=true)(hpin:pinS (rn L) M M0)(he:EnvLeR (rn L) e e')(hm:RenS (rn L) M' [] M)(hcm:ClM M)(hce:∀p∈e,ClV M p.2.2):Wkn S e M e' M':=by
 intro w0 β a w hrel hen
 refine⟨fun n=>β (rn L n),hrel.ren (hm.ok hL) hcm (fun n l hl=>hpin.ok n (hP n l hl)),fun β' hag t y hy=>?_⟩
 have h1:=hen β (Agree.refl _ _) t _ (he.ok t y hy)
 have h2:=hce (t,y) (wu hy) _ β' hag
 simp only at h2
 rw[h1]
 unfold gv
 rw[tN,h2]
theorem RetQ.ren {P:Program}{C:Cx}{fn:Func}{v:V}{NM M0:Mem}{e:Env}{M:Mem}(L:List (Nat×Nat))(hR:yr P C fn v NM)(hP:Pins C.S M0){sc:Prop}{r:V}(hres:sA P e M fn.results.toList=some (sc,r))(hs:sc)(hL:qF L=true)(hv:r=v.ren (rn L))
  (hpin:pinS (rn L) NM M0) (hm:RenS (rn L) M [] NM) (hcm:ClM NM) (hcv:ClV NM v):RetQ C e M:=by
 intro β a w hrel hen hd
 refine hR.2.1 (fun n=>β (rn L n)) a w (r.g β) (hrel.ren (hm.ok hL) hcm (fun n l hl=>hpin.ok n (hP n l hl))) (fun β'' hag=>?_) hd (uh hrel hen hres hs)
 rw[hv,tN]
 exact(hcv _ β'' hag).symm
theorem EnvOk.nil {β:Vl}{e:Env}{M:Mem}{a:Act}(h:EnvOk β M e a){nm:Nat}{b:Bk}(hn:M.get nm=none):EnvOk (fun k=>if k=nm then⟨0,0,0,true,none⟩else β k) ((nm,b)::M) e a:=fun β' hag t x hx=>by
 refine h β' (fun k hk=>?_) t x hx
 obtain⟨c,hc⟩:=JE.1 hk
 have hne:k≠nm:=by rintro rfl;rw[hn]at hc;cases hc
 rw[hag k (by rw[zE,if_neg hne];exact hk)]
 exact if_neg hne
theorem jj {P:Program}{f:FuncId}{fn:Func}{body:Code}{args:List V}{v:V}{M N:Mem}(nx:Nat)(hf:P.funcs[f]?=some fn)(hb:fn.body=some body)(hent:Enters P f)(hnt:args.length<=fn.ntmps)(hcl:∀x∈args,ClV M x)
  (hN:N.all (fun p=> !p.2.ro||(M.get p.1).isSome)=true) (hU:N.all (fun p=>match M.get p.1 with|some b=> !b.ro|none=>true)=true)
  (h:∀C,yr P C fn v (N++M)->Pins C.S M->run P fn.ntmps C 1000 [.code body] (wB 0 args) M nx):CallOk P f args M v N:=
 CallOk.intro hf hb hent hnt (fun n b h h0=>by have:=JD.1 hN (n,b) (zk h);simpa[h0]using this)
  (fun n b b' h h'=>by have:=JD.1 hU (n,b) (zk h);simp only[h']at this;simpa using this) hcl (fun C hR hP=>yP 1000 _ _ _ nx (h C hR hP))
attribute [go_sem] Wa Q4 ow Q5 V3 jG nQ ph bR rm wR rn Mem.ren Bk.ren V.ren W.ren Cv.ren Wq dead
attribute [go_sem] Int.toNat_zero Int.toNat_one bne_self_eq_false Nat.zero_mul Nat.mul_one Nat.one_mul Int.cast_ofNat_Int Int.toNat_natCast
theorem vv {p q:Prop}(hq:q)(h:p=q:=by conv=>lhs;simp(maxSteps:=2000000) only[go_sem,Nat.reduceBEq,Nat.reduceAdd,Nat.reduceLT,Nat.reduceLeDiff,Nat.reduceEqDiff,reduceCtorEq,Int.reduceAdd,Int.reduceSub,Int.reduceNeg,Int.reduceLE,Int.reduceLT,Int.reduceToNat,Int.reduceBEq,Int.reduceBNe,Int.reduceEq,Int.reduceNe,Nat.reduceMul,Nat.reduceSub]):p:=h▸hq
theorem yI {p:Prop}(h:p:=by first|exact trivial|exact⟨rfl,trivial⟩|exact⟨rfl,rfl,trivial⟩|exact⟨rfl,rfl,rfl,trivial⟩|exact⟨rfl,rfl,rfl,rfl,trivial⟩):p:=h
theorem f9 {p:Prop}(h:p:=by first|rfl|(simp(maxSteps:=2000000) only[go_sem,Nat.reduceBEq,Nat.reduceAdd,Nat.reduceLT,Nat.reduceLeDiff,Nat.reduceEqDiff,reduceCtorEq,Int.reduceAdd,Int.reduceSub,Int.reduceNeg,Int.reduceLE,Int.reduceLT,Int.reduceToNat,Int.reduceBEq,Int.reduceBNe,Int.reduceEq,Int.reduceNe,Nat.reduceMul,Nat.reduceSub];rfl)|simp(maxSteps:=2000000) only[go_sem,Nat.reduceBEq,Nat.reduceAdd,Nat.reduceLT,Nat.reduceLeDiff,Nat.reduceEqDiff,reduceCtorEq,Int.reduceAdd,Int.reduceSub,Int.reduceNeg,Int.reduceLE,Int.reduceLT,Int.reduceToNat,Int.reduceBEq,Int.reduceBNe,Int.reduceEq,Int.reduceNe,Nat.reduceMul,Nat.reduceSub]):p:=h
theorem Kj {p:Prop}(h:p:=by first|exact trivial|exact⟨rfl,trivial⟩|exact⟨rfl,rfl,trivial⟩|simp(maxSteps:=2000000) only[go_sem,Nat.reduceBEq,Nat.reduceAdd,Nat.reduceLT,Nat.reduceLeDiff,Nat.reduceEqDiff,reduceCtorEq,Int.reduceAdd,Int.reduceSub,Int.reduceNeg,Int.reduceLE,Int.reduceLT,Int.reduceToNat,Int.reduceBEq,Int.reduceBNe,Int.reduceEq,Int.reduceNe,Nat.reduceMul,Nat.reduceSub]):p:=h
theorem xz {p:Prop}(h:p:=by simp(maxSteps:=2000000) only[go_sem,Nat.reduceBEq,Nat.reduceAdd,Nat.reduceLT,Nat.reduceLeDiff,Nat.reduceEqDiff,reduceCtorEq,Int.reduceAdd,Int.reduceSub,Int.reduceNeg,Int.reduceLE,Int.reduceLT,Int.reduceToNat,Int.reduceBEq,Int.reduceBNe,Int.reduceEq,Int.reduceNe,Nat.reduceMul,Nat.reduceSub]<;>rfl):p:=h
theorem oR {A:Prop}{o:Option Bk}{b:Bk}(h:o=some b:=by exact rfl):A\/∃b',o=some b'/\Wk b b':= .inr ⟨_,h,.inl rfl⟩
theorem oS {o:Option Bk}{b:Bk}(h:o=some b:=by exact rfl):∃b',o=some b'/\Wk b b':=⟨_,h,.inl rfl⟩
theorem oL {n:Nat}{l:List Nat}{B:Prop}(h:n∈l:=by simp):n∈l\/B:= .inl h
theorem oV {A:Prop}{o:Option Bk}{b b1:Bk}(hw:b=b1)(h:o=some b1:=by exact rfl):A\/∃b',o=some b'/\Wk b b':= .inr ⟨_,h,.inl hw⟩
theorem oW {o:Option Bk}{b b1:Bk}(hw:b=b1)(h:o=some b1:=by exact rfl):∃b',o=some b'/\Wk b b':=⟨_,h,.inl hw⟩
end Vg
namespace Vg
open Go.RowKit
def Cv.inM (M:Mem):Cv->Bool
 | .v _=>true
 | .p n _=>(M.get n).isSome
 | .sl n _ _ _=>(M.get n).isSome
 | .fn _ cs=>cs.all fun c=>(M.get c.1).isSome
 | .s0 n _=>(M.get n).isSome
def W.inM (M:Mem):W->Bool
 | .c x=>x.inM M
 | .agg xs=>xs.all (Cv.inM M)
def V.inM (M:Mem):V->Bool
 | .c x=>x.inM M
 | .agg xs=>xs.all (Cv.inM M)
 | .tup xs=>xs.all (W.inM M)
theorem oF {M:Mem}{x:Cv}(h:x.inM M=true){β β':Vl}(hag:Agree M β β'):x.g β'=x.g β:=by
 cases x with
 |v _=>rfl
 |p n off=>simp only[Cv.g,hag n h]
 |sl n off len esz=>simp only[Cv.g,hag n h]
 |s0 n off=>simp only[Cv.g,hag n h]
 |fn f cs=>
  simp only[Cv.g]
  congr 2
  refine JV fun c hc=>?_
  have:=JD.1 h c hc
  simp only[xl,hag c.1 this]
theorem rV {M:Mem}{xs:List Cv}(h:xs.all (Cv.inM M)=true){β β':Vl}(hag:Agree M β β'):xs.map (Cv.g β')=xs.map (Cv.g β):=
 JV fun x hx=>oF (JD.1 h x hx) hag
theorem zG {M:Mem}{v:V}(h:v.inM M=true):ClV M v:=by
 intro β β' hag
 cases v with
 |c x=>exact oF h hag
 |agg xs=>simp only[V.g,rV h hag]
 |tup xs=>
  simp only[V.g]
  congr 2
  refine JV fun x hx=>?_
  have:=JD.1 h x hx
  cases x with
  |c x=>exact oF this hag
  |agg xs=>simp only[W.g,rV this hag]
theorem zD {M:Mem}(h:M.all (fun p=>p.2.cells.all (Cv.inM M))=true):ClM M:=fun _ _ hag n b hb=>rV (JD.1 h (n,b) (zk hb)) hag
theorem zO {M:Mem}{e:Env}(h:e.all (fun p=>p.2.2.inM M)=true):∀p∈e,ClV M p.2.2:=fun p hp=>zG (JD.1 h p hp)
def Y4 (S:Bs)(M0:Mem)(e:Env)(M:Mem)(e':Env)(M':Mem)(L:List (Nat×Nat)):Prop:=qF L=true/\pinS (rn L) M M0/\EnvLeR (rn L) e e'/\RenS (rn L) M' [] M
theorem zK {P:Program}{nt:Nat}{C:Cx}{r:List It}{e:Env}{M M0:Mem}{α:Type}{b:Code}(hP:Pins C.S M0)(E:α->Env)(Mm:α->Mem)(m:α->Nat)(x0:α)(hM:∀x,ClM (Mm x))(hE:∀x,∀p∈E x,ClV (Mm x) p.2.2)
  (L0:List (Nat×Nat)) (h0:Y4 C.S M0 (E x0) (Mm x0) e M L0)
  (round:∀(x:α) (J:Act->World->Prop),(∀e' M' x' L,m x'<m x->Y4 C.S M0 (E x') (Mm x') e' M' L->Sm P nt C (.stop J::r) e' M')->Sm P nt C (.code b:: .stop J::r) (E x) (Mm x)):
  Sm P nt C (.code (.loop b)::r) e M:=
 have hw:∀x e' M' L,Y4 C.S M0 (E x) (Mm x) e' M' L->Wkn C.S (E x) (Mm x) e' M':=fun x _ _ L h=>Wkn.ren L hP h.1 h.2.1 h.2.2.1 h.2.2.2 (hM x) (hE x)
 Sm.loop E Mm m x0 (hw _ _ _ _ h0) fun x J hb=>round x J fun e' M' x' L hlt hmet=>hb e' M' ⟨x',hlt,hw _ _ _ _ hmet⟩
theorem Pins.nil {S:Bs}{P:Program}{C:Cx}{fn:Func}{v:V}(hS:C.S=S)(hR:yr P C fn v []):Pins S []:=fun n l h=>by subst hS;exact hR.1 n l h
end Vg
namespace Vg
open Go.RowKit
def Cv.nn (nm esz:Nat):Cv->Cv
 | .v (.slice none 0 0)=> .sl nm 0 0 esz
 | .v x=> .v x
 | .p n o=> .p n o
 | .sl n o l z=> .sl n o l z
 | .fn f c=> .fn f c
 | .s0 n o=> .s0 n o
def W.nn (nm esz:Nat):W->W
 | .c x=> .c (x.nn nm esz)
 | .agg xs=> .agg (xs.map (Cv.nn nm esz))
def V.nn (nm esz:Nat):V->V
 | .c x=> .c (x.nn nm esz)
 | .agg xs=> .agg (xs.map (Cv.nn nm esz))
 | .tup xs=> .tup (xs.map (W.nn nm esz))
def Env.nn (nm esz:Nat)(q:List Nat)(e:Env):Env:=e.map fun p=>(p.1,p.2.1,bif q.contains p.1 then p.2.2.nn nm esz else p.2.2)
def Bk.nn (nm esz:Nat)(b:Bk):Bk:=⟨b.ro,b.cells.map (Cv.nn nm esz),b.elem⟩
def Mem.nn (nm esz:Nat)(k:List Nat)(M:Mem):Mem:=M.map fun p=>(p.1,bif k.contains p.1 then p.2.nn nm esz else p.2)
theorem mF {nm esz:Nat}{β:Vl}(h:(β nm).nul=true/\(β nm).odd=none)(x:Cv):(x.nn nm esz).g β=x.g β:=by
 unfold Cv.nn
 split<;>simp[Cv.g,Loc.emp,h.1,h.2]
theorem oD {nm esz:Nat}{β:Vl}(h:(β nm).nul=true/\(β nm).odd=none)(xs:List Cv):(xs.map (Cv.nn nm esz)).map (Cv.g β)=xs.map (Cv.g β):=by
 rw[Ja];exact JV fun x _=>mF h x
theorem W2 {nm esz:Nat}{β:Vl}(h:(β nm).nul=true/\(β nm).odd=none)(x:W):(x.nn nm esz).g β=x.g β:=by
 cases x with
 |c x=>exact mF h x
 |agg xs=>simp only[W.nn,W.g,oD h]
theorem W4 {nm esz:Nat}{β:Vl}(h:(β nm).nul=true/\(β nm).odd=none)(x:V):(x.nn nm esz).g β=x.g β:=by
 cases x with
 |c x=>exact mF h x
 |agg xs=>simp only[V.nn,V.g,oD h]
 |tup xs=>
  simp only[V.nn,V.g,Ja]
  rw[JV fun x _=>(show(W.g β ∘ W.nn nm esz) x=W.g β x from W2 h x)]
theorem uY (nm esz:Nat)(q:List Nat):∀(M:Mem) (n:Nat),(M.nn nm esz q).get n=(M.get n).map fun b=>bif q.contains n then b.nn nm esz else b
 |[],n=>rfl
 |(k,b)::M,n=>by
  simp only[Mem.nn,Ky,Mem.get]
  cases h:(k==n)with
  |true=>
   have:k=n:=by simpa using h
   subst this;rfl
  |false=>exact uY nm esz q M n
theorem pz (nm esz:Nat)(q:List Nat):∀(e:Env) (t:Nat),(e.nn nm esz q).get t=(e.get t).map fun y=>(y.1,bif q.contains t then y.2.nn nm esz else y.2)
 |[],t=>rfl
 |(k,y)::e,t=>by
  simp only[Env.nn,Ky,Env.get]
  cases h:(k==t)with
  |true=>
   have:k=t:=by simpa using h
   subst this;rfl
  |false=>exact pz nm esz q e t
theorem BkOk.nn {nm esz:Nat}{β:Vl}(h:(β nm).nul=true/\(β nm).odd=none){n:Nat}{b:Bk}{w:World}(hb:BkOk β n b w):BkOk β n (b.nn nm esz) w:=by
 unfold BkOk at*
 simp only[Bk.nn,oD h,Kv,Io]
 exact hb
theorem Rel.nn {S:Bs}{w0 w:World}{β:Vl}{M:Mem}(h:Rel S w0 β M w){nm:Nat}(esz:Nat)(q:List Nat)(hn:(M.get nm).isSome=true)(hu:(β nm).nul=true/\(β nm).odd=none):Rel S w0 β (M.nn nm esz q) w:=by
 have hg:∀n b',(M.nn nm esz q).get n=some b'->∃b,M.get n=some b/\b'=bif q.contains n then b.nn nm esz else b:=fun n b' hb=>by
  rw[uY]at hb
  cases hm:M.get n with
  |none=>rw[hm]at hb;cases hb
  |some b=>rw[hm]at hb;exact⟨b,rfl,(Ik hb).symm⟩
 have hs:∀n,((M.nn nm esz q).get n).isSome=(M.get n).isSome:=fun n=>by rw[uY];cases M.get n<;>rfl
 have hro:∀(c:Bool) (b:Bk),(bif c then b.nn nm esz else b).ro=b.ro:=fun c b=>by cases c<;>rfl
 refine⟨h.fr,⟨fun β' hag n b' hb=>?_,fun n b' hb hl=>?_,fun n m b b' hb hb' hne hr hl hu1 hu2=>?_⟩,fun n b' hb hr hl hS=>?_,fun n l hl=>?_⟩
 ·obtain⟨b,hb2,rfl⟩:=hg n b' hb
  have hag':Agree M β β':=fun k hk=>hag k (by rw[hs];exact hk)
  have h0:=h.mem.ok β' hag' n b hb2
  cases q.contains n with
  |true=>exact BkOk.nn (by rw[hag' nm hn];exact hu) h0
  |false=>exact h0
 ·obtain⟨b,hb2,rfl⟩:=hg n b' hb
  exact h.mem.there n b hb2 hl
 ·obtain⟨c,hc,rfl⟩:=hg n b hb
  obtain⟨c',hc',rfl⟩:=hg m b' hb'
  rw[hro]at hr
  refine h.mem.apart n m c c' hc hc' hne hr ?_ hu1 hu2
  rcases hl with hl|hl
  ·rw[hro]at hl;exact .inl hl
  ·refine .inr fun he=>hl ?_
   cases q.contains m with
   |true=>simp[Bk.nn,he]
   |false=>exact he
 ·obtain⟨b,hb2,rfl⟩:=hg n b' hb
  rw[hro]at hr
  exact h.own n b hb2 hr hl hS
 ·have:=h.pin n l hl
  exact⟨by rw[hs];exact this.1,this.2⟩
theorem EnvOk.nn {β:Vl}{M:Mem}{e:Env}{a:Act}(h:EnvOk β M e a){nm:Nat}(esz:Nat)(q k:List Nat)(hn:(M.get nm).isSome=true)(hu:(β nm).nul=true/\(β nm).odd=none):EnvOk β (M.nn nm esz k) (e.nn nm esz q) a:=fun β' hag t x hx=>by
 have hs:∀n,((M.nn nm esz k).get n).isSome=(M.get n).isSome:=fun n=>by rw[uY];cases M.get n<;>rfl
 have hag':Agree M β β':=fun k hk=>hag k (by rw[hs];exact hk)
 rw[pz]at hx
 cases he:e.get t with
 |none=>rw[he]at hx;cases hx
 |some y=>
  rw[he]at hx
  have:=Ik hx
  subst this
  rw[h β' hag' t y he]
  unfold gv
  cases q.contains t with
  |true=>
   show(bif y.1 then V.g β' y.2 else undef)=bif y.1 then V.g β' (y.2.nn nm esz)else undef
   rw[W4 (by rw[hag' nm hn];exact hu)]
  |false=>rfl
theorem x9 {P:Program}{nt:Nat}{C:Cx}{todo:List It}{e:Env}{M:Mem}(nm esz:Nat)(el:TypeId)(q k:List Nat)(hn:M.get nm=none)
  (h:Sm P nt C todo (e.nn nm esz q) (Mem.nn nm esz k ((nm,⟨false,[],el⟩)::M))):Sm P nt C todo e M:=fun β a w h1 h2 h3 h4=>by
 have r:=(h1.nil nm hn el).nn (nm:=nm) esz k (by rw[zE,if_pos rfl];rfl) z9
 exact h _ a w r ((h2.nil (b:=⟨false,[],el⟩) hn).nn (nm:=nm) esz q k (by rw[zE,if_pos rfl];rfl) z9) h3 h4
theorem yq {C:Cx}{e:Env}{M:Mem}(nm esz:Nat)(el:TypeId)(q k:List Nat)(hn:M.get nm=none)
  (h:RetQ C (e.nn nm esz q) (Mem.nn nm esz k ((nm,⟨false,[],el⟩)::M))):RetQ C e M:=fun β a w h1 h2 h4=>by
 have r:=(h1.nil nm hn el).nn (nm:=nm) esz k (by rw[zE,if_pos rfl];rfl) z9
 exact h _ a w r ((h2.nil (b:=⟨false,[],el⟩) hn).nn (nm:=nm) esz q k (by rw[zE,if_pos rfl];rfl) z9) h4
theorem xa {P:Program}{nt:Nat}{C:Cx}{todo:List It}{e:Env}{M M0:Mem}(hP:Pins C.S M0)(E:Env)(Mm:Mem)(L:List (Nat×Nat))(h0:Y4 C.S M0 E Mm e M L)(hM:ClM Mm)(hE:∀p∈E,ClV Mm p.2.2)(h:Sm P nt C todo E Mm):Sm P nt C todo e M:=
 cX (Wkn.ren L hP h0.1 h0.2.1 h0.2.2.1 h0.2.2.2 hM hE) h
attribute [go_sem] Cv.nn W.nn V.nn Env.nn Bk.nn Mem.nn List.contains_cons List.contains_nil
end Vg
namespace Vg
open Go.RowKit
def Yj (rg:Array Oper)(i:Nat)(T:List (Nat×Nat))(o:Oper)(N:Mem):Bool:=N.all fun p=>T.all fun q=> !(q.1==p.1||q.1==p.1+1000000)||je rg i 20 q.2 o
end Vg
namespace Vg
open Go.RowKit
theorem Rel.mark {S:Bs}{w0 w w':World}{β:Vl}{M:Mem}(h:Rel S w0 β M w){n nm:Nat}{b:Bk}(hb:M.get n=some b)(hr:b.ro=false)(hnu:(β n).nul=false)(hn:M.get nm=none)
  (hos:w'.os=w.os) (htp:w'.tape=w.tape) (hou:w'.output=w.output) (hsz:w'.heap.size=w.heap.size) (hcell:∀a,w'.cell? a=w.cell? a) (hoth:∀k,k≠(β n).blk->w'.heap[k]?=w.heap[k]?):
  Rel S w0 (fun k=>if k=nm then β n else β k) ((nm,⟨true,b.cells,b.elem⟩)::(n,dead b.elem)::M) w':=by
 have hne:∀k b,M.get k=some b->k≠nm:=by rintro k b hk rfl;rw[hn]at hk;cases hk
 have hnn:n≠nm:=hne n b hb
 have hget:∀k,Mem.get ((nm,⟨true,b.cells,b.elem⟩)::(n,dead b.elem)::M) k=if k=nm then some ⟨true,b.cells,b.elem⟩else if k=n then some (dead b.elem)else M.get k:=fun k=>by rw[zE,zE]
 refine⟨⟨hos.trans h.fr.os,htp.trans h.fr.tape,hou.trans h.fr.output,by rw[hsz];exact h.fr.size,fun k hS hk=>?_⟩,⟨fun β' hag k c hc=>?_,fun k c hc hu=>?_,fun k m c c' hc hc' hkm hro hlv hu hu'=>?_⟩,fun k c hc hro hu hS=>?_,fun k l hl=>?_⟩
 ·rw[hoth k ?_]
  ·exact h.fr.old k hS hk
  ·rintro rfl
   have:=h.own n b hb hr hnu hS
   omega
 ·have hag0:Agree M β β':=fun j hj=>by
   obtain⟨x,hx⟩:=JE.1 hj
   rw[hag j (by rw[hget];split<;>(try split)<;>simp_all)]
   exact if_neg (hne j x hx)
  rw[hget]at hc
  split at hc
  ·rename_i hk
   subst hk
   simp at hc
   subst hc
   have hl:β' k=β n:=by have:=hag k (by rw[hget];simp);simpa using this
   have hbo:=h.mem.ok β' hag0 n b hb
   have hβ:=hag0 n (by simp[hb])
   unfold BkOk
   rw[if_neg (by simp[hl,hnu]),if_pos z9,hl,<-hβ]
   exact⟨fun j v hj=>by rw[hcell];exact hbo.range j v hj,hbo.siz⟩
  ·split at hc
   ·simp at hc;subst hc;exact BkOk.dead
   ·rename_i hk hkn
    have hold:=h.mem.ok β' hag0 k c hc
    have hβ:=hag0 k (by simp[hc])
    cases hu:(β k).nul with
    |true=>
     unfold BkOk at hold⊢
     rw[if_pos (by rw[hβ];exact hu)]at hold⊢
     exact hold
    |false=>
     by_cases hlv:c.lv
     ·refine hold.same (hoth _ ?_)
      rw[hβ]
      exact fun hh=>h.mem.apart n k b c hb hc (fun hh'=>hkn hh'.symm) hr hlv hnu hu hh.symm
     ·unfold Bk.lv at hlv
      simp only[not_or,Bool.not_eq_false,ne_eq,Jg]at hlv
      unfold BkOk
      rw[if_neg (by rw[hβ];simp[hu]),if_pos hlv.1,hlv.2]
      exact⟨fun j v hj=>by simp at hj,z9⟩
 ·rw[hsz]
  rw[hget]at hc
  split at hc
  ·rename_i hk;simp only[if_pos hk];exact h.mem.there n b hb hnu
  ·rename_i hk
   simp only[if_neg hk]at hu⊢
   split at hc
   ·rename_i hkn;subst hkn;exact h.mem.there k b hb hu
   ·exact h.mem.there k c hc hu
 ·rw[hget]at hc hc'
  split at hc
  ·simp at hc;subst hc;cases hro
  ·rename_i hk
   split at hc
   ·simp at hc;subst hc;cases hro
   ·rename_i hkn
    simp only[if_neg hk]at hu⊢
    split at hc'
    ·rename_i hk'
     simp only[if_pos hk']
     exact h.mem.apart k n c b hc hb hkn hro (.inl hr) hu hnu
    ·rename_i hk'
     split at hc'
     ·simp at hc';subst hc';exact absurd hlv (qU _)
     ·simp only[if_neg hk']at hu'⊢
      exact h.mem.apart k m c c' hc hc' hkm hro hlv hu hu'
 ·rw[hget]at hc
  split at hc
  ·simp at hc;subst hc;cases hro
  ·rename_i hk
   simp only[if_neg hk]at hS hu⊢
   split at hc
   ·simp at hc;subst hc;cases hro
   ·exact h.own k c hc hro hu hS
 ·obtain⟨p1,p2⟩:=h.pin k l hl
  have hkn:k≠nm:=by rintro rfl;rw[hn]at p1;cases p1
  refine⟨?_,by simp only[if_neg hkn];exact p2⟩
  rw[hget,if_neg hkn]
  split
  ·rfl
  ·exact p1
theorem nv (w:World)(b:Addr)(n:Nat)(a:Addr):(w.freeze b n).cell? a=w.cell? a:=by
 unfold World.freeze
 split
 ·rfl
 ·unfold World.cell?
  simp only[Array.getElem?_modify]
  by_cases hk:b.block=a.block
  ·rw[if_pos hk]
   cases w.heap[a.block]? with
   |none=>rfl
   |some o=>cases o<;>rfl
  ·rw[if_neg hk]
end Vg
namespace Vg
open Go.RowKit
theorem vL {P:Program}{nt:Nat}{C:Cx}{fn:Func}{v:V}{NM:Mem}{e:Env}{M:Mem}(hR:yr P C fn v NM)(h:RetQ C e M):Sm P nt C [] e M:=fun β a w h1 h2 _ h4=>hR.2.2 a w (h β a w h1 h2 h4)
def Mx (C':Cx):Prop:=∀P nt e2 M2,RetQ C' e2 M2->Sm P nt C' [] e2 M2
theorem DOpQ.own {P:Program}{nt:Nat}{C:Cx}{id:Nat}{rg:Array Oper}{r:List It}{e0 e:Env}{M0 Mf M:Mem}{k:Nat}{T:List (Nat×Nat)}{i:Nat}{o:Oper}{g:Bool}{l:List Oper}{v:V}(nx:Nat)(hs:Stp P o e M0 v [])
  (h:wz P nt C id rg r e0 M0 Mf k (wA P nt C (.ops rg (rg.toList.drop k)::r)) T (i+1) l (e.put o.dst g v) M nx):DOpQ P nt C id rg r e0 M0 Mf k T i o g l e M:=
 Or.inl ⟨[],M0,v,fun _=>hs.toC,.inr rfl,⟨fun _ _ h=> .inl h,fun _ h=>(by cases h)⟩,wX nx h⟩
def sF (P:Program)(t:TypeId):Option TypeId:=
 match P.underlying t with
 |some (.pointer el)=>if (P.info? el).isSome then some el else none
 |_=>none
def Qn (P:Program)(t:TypeId):Bool:=
 match P.underlying t with
 |some .unsafePointer=>true
 |_=>false
theorem Rel.rw{S:Bs}{w0 w:World}{β:Vl}{M M':Mem}(h:Rel S w0 β M' w)(hsub:Sub M M'){n:Nat}{b:Bk}(hb:M.get n=some b)(hr:b.ro=false)(hc:b.cells≠[]):
  M'.get n=some b/\(β n).nul=false/\(β n).org=0/\∃junk:List Value,w.heap[(β n).blk]?=some (.cells (b.cells.map (Cv.g β)++junk).toArray b.elem (0,0))/\(β n).siz=b.cells.length+junk.length:=by
 obtain⟨b',hb',hwk⟩:=hsub n b hb
 obtain rfl:b=b':=by rcases hwk with h|h;exact h;rw[hr]at h;exact absurd h.1 z9
 have hbo:=h.mem.ok β (Agree.refl _ _) n b hb'
 have hnu:(β n).nul=false:=by
  cases h:(β n).nul with
  |false=>rfl
  |true=>exact absurd (hbo.nul_cells h) hc
 have:=hbo
 unfold BkOk at this
 rw[if_neg (by simp[hnu]),if_neg (by simp[hr])]at this
 exact⟨hb',hnu,this⟩
end Vg
namespace Vg
open Go.RowKit
theorem z4 {P:Program}{nt:Nat}{C:Cx}{rg:Array Oper}{o:Oper}{l:List Oper}{r:List It}{e:Env}{M:Mem}{g:Bool}{v:V}{N:Mem}(nx:Nat)(hg:gd rg e o=some g)(hd:yy nt o.dst=true)
  (hN:g=true\/N=[]) (hs:g=true->StpC P C.S C.w0 o e M v N) (hr:run P nt C 1000 (.ops rg l::r) (e.put o.dst g v) (N++M) nx):Sm P nt C (.ops rg (o::l)::r) e M:=fun β a w h1 h2 h3 h4=>by
 have hr:=yP 1000 _ _ _ nx hr
 have hd:=wn hd
 have hw:Region.wanted o (yielded rg a.tmps)=g:=tV (β:=β) hg (fun j want t y _ _ hy=>h2 β (Agree.refl _ _) t y hy)
 show wpListIn (tj C.lp) 0 P rg (xO P C.lp C.Q r) (o::l) a w
 refine wpListIn_step fun K hK=>?_
 rw[hw]
 cases g with
 |true=>
  simp only[if_true]
  refine yw C.lp (tW hg).1 ?_
  refine hs rfl β M a w (Sub.refl _) (Fresh.same _ _) h1 (fun β' hb x _ y hy=>wY h2 hb hy) K _ ?_
  intro β' u w' hag hrel hu
  refine hK _ _ (hr β' _ w' hrel ?_ ?_ ?_)
  ·exact h2.put hag h3 hd (fun β'' hb=>by rw[hu β'' hb];rfl)
  ·cases o.dst<;>simp[Act.put,h3]
  ·cases o.dst<;>simp[Act.put,h4]
 |false=>
  simp only[JS,if_false]
  obtain rfl:N=[]:=by rcases hN with hN|hN;exact absurd hN z9;exact hN
  refine⟨fun f _=>p8 _ f,?_⟩
  refine hK _ _ (hr β _ w h1 ?_ ?_ ?_)
  ·exact h2.put (N:=[]) (Agree.refl _ _) h3 hd (fun β'' _=>rfl)
  ·cases o.dst<;>simp[Act.put,h3]
  ·cases o.dst<;>simp[Act.put,h4]
theorem zF {P:Program}{nt:Nat}{C:Cx}{id:Nat}{rg:Array Oper}{r:List It}{e0 e:Env}{M0 Mf M:Mem}{k:Nat}{T:List (Nat×Nat)}{i:Nat}{o:Oper}{g:Bool}{l:List Oper}{v:V}(nx:Nat)(hs:g=true->StpC P C.S C.w0 o e M0 v [])
  (h:wz P nt C id rg r e0 M0 Mf k (wA P nt C (.ops rg (rg.toList.drop k)::r)) T (i+1) l (e.put o.dst g v) M nx):DOpQ P nt C id rg r e0 M0 Mf k T i o g l e M:=
 Or.inl ⟨[],M0,v,hs,.inr rfl,⟨fun _ _ h=> .inl h,fun _ h=>(by cases h)⟩,wX nx h⟩
end Vg
namespace Vg
open Go.RowKit
abbrev Hp:=Nat->Obj->Prop
def Hp.le (H H':Hp):Prop:=∀b o,H b o->H' b o
theorem Hp.le.refl (H:Hp):H.le H:=fun _ _ h=>h
theorem Hp.le.trans {A B C:Hp}(h:A.le B)(k:B.le C):A.le C:=fun b o x=>k b o (h b o x)
def Cx.hp (C:Cx):Hp:=fun b o=>C.S.s b/\¬C.S.z b/\C.w0.heap[b]?=some o
theorem Cx.hp_lt {C:Cx}{b:Nat}{o:Obj}(h:C.hp b o):b<C.w0.heap.size:=(Jz.1 h.2.2).1
theorem zy {C:Cx}{β:Vl}{M:Mem}{w:World}(h:Rel C.S C.w0 β M w){b:Nat}{o:Obj}(hb:C.hp b o):w.heap[b]?=some o:=by
 rw[h.fr.old b hb.1 (C.hp_lt hb)];exact hb.2.2
def Wrt (β:Vl)(M:Mem)(b:Nat):Prop:=∃n c,M.get n=some c/\c.ro=false/\(β n).nul=false/\b=(β n).blk
theorem yJ {C:Cx}{β:Vl}{M:Mem}{w:World}(h:Rel C.S C.w0 β M w){b:Nat}{o:Obj}(hb:C.hp b o):¬Wrt β M b:=by
 rintro⟨n,c,h1,h2,h3,rfl⟩
 have:=h.own n c h1 h2 h3 hb.1
 have:=C.hp_lt hb
 omega
structure Lf (C C':Cx):Prop where
 q:C'.Q=C.Q
 pin:C'.S.pin=C.S.pin
 lp:C'.lp=C.lp
 df:C'.df=C.df
 z:C'.S.z=C.S.z
 zok:∀b,C.S.z b->C.S.s b/\b<C.w0.heap.size
 sz:C.w0.heap.size<=C'.w0.heap.size
 fr:∀w,Fr C'.S.s C'.w0 w->Fr C.S.s C.w0 w
 own:∀b,(C'.S.s b->C'.w0.heap.size<=b)->C.S.s b->C.w0.heap.size<=b
theorem Lf.refl {C:Cx}(hz:∀b,C.S.z b->C.S.s b/\b<C.w0.heap.size):Lf C C:=⟨rfl,rfl,rfl,rfl,rfl,hz,JZ _,fun _ h=>h,fun _ h=>h⟩
theorem Lf.zok' {C C':Cx}(h:Lf C C'):∀b,C'.S.z b->C'.S.s b/\b<C'.w0.heap.size:=fun b hb=>by
 rw[h.z]at hb
 obtain⟨h1,h2⟩:=h.zok b hb
 refine⟨Jl fun hn=>?_,J1 h2 h.sz⟩
 have:=h.own b (fun hs=>absurd hs hn) h1
 omega
theorem Lf.rel {C C':Cx}(h:Lf C C'){β:Vl}{M:Mem}{w:World}(hr:Rel C'.S C'.w0 β M w):Rel C.S C.w0 β M w:=
 ⟨h.fr w hr.fr,hr.mem,fun n b hb h1 h2=>h.own _ (hr.own n b hb h1 h2),fun n l hl=>hr.pin n l (by rw[h.pin];exact hl)⟩
theorem Lf.pins {C C':Cx}(h:Lf C C'){M0:Mem}(hP:Pins C.S M0):Pins C'.S M0:=fun n l hl=>hP n l (by rw[<-h.pin];exact hl)
def Cx.at (C:Cx)(s:Nat->Prop)(w:World):Cx:=⟨⟨s,C.S.pin,C.S.z⟩,w,C.Q,C.lp,C.df⟩
theorem Lf.at {C Ck:Cx}(hL:Lf C Ck){β:Vl}{M:Mem}{w:World}(hrel:Rel Ck.S Ck.w0 β M w){s:Nat->Prop}(hs:∀b,¬s b->Wrt β M b):Lf C (C.at s w)/\Ck.hp.le (C.at s w).hp:=by
 have ownC:∀b,Wrt β M b->C.S.s b->C.w0.heap.size<=b:=by
  rintro b ⟨n,c,h1,h2,h3,rfl⟩
  exact hL.own _ (hrel.own n c h1 h2 h3)
 have frC:=hL.fr w hrel.fr
 have key:∀b,C.S.s b->b<C.w0.heap.size->s b:=fun b h1 h2=>Jl fun hn=>by
  have:=ownC b (hs b hn) h1
  omega
 refine⟨⟨rfl,rfl,rfl,rfl,rfl,hL.zok,frC.size,fun w2 h2=>⟨h2.os.trans frC.os,h2.tape.trans frC.tape,h2.output.trans frC.output,IE frC.size h2.size,fun b hS hb=>?_⟩,fun b hb hS=>?_⟩,fun b o hb=>⟨?_,?_,zy hrel hb⟩⟩
 ·exact(h2.old b (key b hS hb) (J1 hb frC.size)).trans (frC.old b hS hb)
 ·refine Jl fun hlt=>?_
  have:=hb (key b hS zA)
  have hw:C.w0.heap.size<=w.heap.size:=frC.size
  have:w.heap.size<=b:=this
  omega
 ·exact Jl fun hn=>yJ hrel hb (hs b hn)
 ·have:=hb.2.1
  rw[hL.z]at this;exact this
theorem Rel.at {C Ck:Cx}(hL:Lf C Ck){β:Vl}{M M':Mem}{w:World}(hrel:Rel Ck.S Ck.w0 β M w){s:Nat->Prop}(hs:∀b,Wrt β M' b->¬s b)(hm:MemOk β M' w)(hp:∀n l,C.S.pin n=some l->(M'.get n).isSome=true):Rel (C.at s w).S (C.at s w).w0 β M' w:=
 ⟨Fr.refl _ _,hm,fun n b hb hr hu hS=>absurd hS (hs _ ⟨n,b,hb,hr,hu,rfl⟩),fun n l hl=>⟨hp n l hl,(hrel.pin n l (by rw[hL.pin];exact hl)).2⟩⟩
def y7 (β:Vl)(c:Cv):Value:=c.g β
def Cv.conc (L:List Nat)(β:Vl):Cv->Cv
 | .v x=> .v x
 | .p n off=>bif L.contains n then .v (y7 β (.p n off))else .p n off
 | .sl n off len esz=>bif L.contains n then .v (y7 β (.sl n off len esz))else .sl n off len esz
 | .s0 n off=>bif L.contains n then .v (y7 β (.s0 n off))else .s0 n off
 | .fn f caps=>bif caps.any (fun c=>L.contains c.1)then .v (y7 β (.fn f caps))else .fn f caps
def Cv.cok (L:List Nat):Cv->Bool
 | .fn _ caps=> !(caps.any fun c=>L.contains c.1)||caps.all fun c=>L.contains c.1
 |_=>true
def W.conc (L:List Nat)(β:Vl):W->W
 | .c x=> .c (x.conc L β)
 | .agg xs=> .agg (xs.map (Cv.conc L β))
def W.cok (L:List Nat):W->Bool
 | .c x=>x.cok L
 | .agg xs=>xs.all (Cv.cok L)
def V.conc (L:List Nat)(β:Vl):V->V
 | .c x=> .c (x.conc L β)
 | .agg xs=> .agg (xs.map (Cv.conc L β))
 | .tup xs=> .tup (xs.map (W.conc L β))
def V.cok (L:List Nat):V->Bool
 | .c x=>x.cok L
 | .agg xs=>xs.all (Cv.cok L)
 | .tup xs=>xs.all (W.cok L)
def Bk.conc (L:List Nat)(β:Vl)(b:Bk):Bk:=⟨b.ro,b.cells.map (Cv.conc L β),b.elem⟩
def Mem.conc (L:List Nat)(β:Vl):Mem->Mem
 |[]=>[]
 |(n,b)::M=>bif L.contains n then Mem.conc L β M else(n,b.conc L β)::Mem.conc L β M
def Env.conc (L:List Nat)(β:Vl):Env->Env
 |[]=>[]
 |(t,g,v)::e=>(t,g,v.conc L β)::Env.conc L β e
def sK (L:List Nat)(β β':Vl):Vl:=fun n=>bif L.contains n then β n else β' n
theorem qR {L:List Nat}{β β':Vl}{n:Nat}(h:L.contains n=true):sK L β β' n=β n:=by unfold sK;rw[h];rfl
theorem um {L:List Nat}{β β':Vl}{n:Nat}(h:L.contains n=false):sK L β β' n=β' n:=by unfold sK;rw[h];rfl
theorem rW {L:List Nat}{β β':Vl}{c:Cv}(h:c.cok L=true):(c.conc L β).g β'=c.g (sK L β β'):=by
 cases c with
 |v x=>rfl
 |p n off=>
  simp only[Cv.conc]
  cases hn:L.contains n with
  |true=>simp only[cond_true,Cv.g,y7,qR hn]
  |false=>simp only[cond_false,Cv.g,um hn]
 |sl n off len esz=>
  simp only[Cv.conc]
  cases hn:L.contains n with
  |true=>simp only[cond_true,Cv.g,y7,qR hn]
  |false=>simp only[cond_false,Cv.g,um hn]
 |s0 n off=>
  simp only[Cv.conc]
  cases hn:L.contains n with
  |true=>simp only[cond_true,Cv.g,y7,qR hn]
  |false=>simp only[cond_false,Cv.g,um hn]
 |fn f caps=>
  simp only[Cv.conc]
  simp only[Cv.cok]at h
  cases hn:caps.any (fun c=>L.contains c.1)with
  |true=>
   rw[hn]at h
   simp only[IT,Ip]at h
   simp only[cond_true,Cv.g,y7]
   congr 2
   refine JV fun c hc=>?_
   have:=JD.1 h c hc
   simp only[xl,qR this]
  |false=>
   simp only[cond_false,Cv.g]
   congr 2
   refine JV fun c hc=>?_
   have:L.contains c.1=false:=by
    cases hq:L.contains c.1 with
    |false=>rfl
    |true=>rw[HF.2 ⟨c,hc,hq⟩]at hn;cases hn
   simp only[xl,um this]
theorem ti {L:List Nat}{β β':Vl}{xs:List Cv}(h:xs.all (Cv.cok L)=true):(xs.map (Cv.conc L β)).map (Cv.g β')=xs.map (Cv.g (sK L β β')):=by
 rw[Ja]
 exact JV fun x hx=>rW (JD.1 h x hx)
theorem po {L:List Nat}{β β':Vl}{v:V}(h:v.cok L=true):(v.conc L β).g β'=v.g (sK L β β'):=by
 cases v with
 |c x=>exact rW h
 |agg xs=>simp only[V.conc,V.g,ti h]
 |tup xs=>
  simp only[V.conc,V.g]
  congr 2
  rw[Ja]
  refine JV fun x hx=>?_
  have hx:=JD.1 h x hx
  cases x with
  |c x=>exact rW hx
  |agg xs=>simp only[Function.comp,W.conc,W.g,ti hx]
theorem xx {L:List Nat}{β:Vl}:∀(M:Mem) (n:Nat),(M.conc L β).get n=if L.contains n then none else(M.get n).map (Bk.conc L β)
 |[],n=>by simp[Mem.conc,Mem.get]
 |(k,b)::M,n=>by
  have ih:=xx (L:=L) (β:=β) M n
  simp only[Mem.conc]
  cases hk:L.contains k with
  |true=>
   rw[cond_true,ih,zE]
   by_cases hn:n=k
   ·subst hn;rw[if_pos hk,if_pos hk]
   ·rw[if_neg hn]
  |false=>
   rw[cond_false,zE,zE,ih]
   by_cases hn:n=k
   ·subst hn;simp only[if_true];rw[hk];simp
   ·rw[if_neg hn,if_neg hn]
theorem sh {L:List Nat}{β:Vl}:∀(e:Env) (t:Nat) (x:Bool×V),(e.conc L β).get t=some x->∃y,e.get t=some (x.1,y)/\x.2=y.conc L β
 |[],t,x,h=>by cases h
 |(k,g,v)::e,t,x,h=>by
  simp only[Env.conc,Env.get]at h⊢
  cases hk:(k==t)with
  |true=>
   rw[hk]at h
   simp at h
   subst h
   exact⟨v,rfl,rfl⟩
  |false=>
   rw[hk]at h
   exact sh e t x h
def Known (H:Hp)(β:Vl)(n:Nat)(b:Bk):Prop:=
 ((β n).nul=true/\b.cells=[])\/((β n).nul=false/\(β n).org=0/\∃junk:List Value,H (β n).blk (.cells (b.cells.map (Cv.g β)++junk).toArray b.elem (0,0))/\(β n).siz=b.cells.length+junk.length)
def yC (L:List Nat)(e:Env)(M:Mem):Bool:=e.all (fun p=>p.2.2.cok L)&&M.all (fun p=>p.2.cells.all (Cv.cok L))
theorem tA {C Ck:Cx}{e:Env}{M M0:Mem}(L:List Nat)(hL:Lf C Ck)(hP:Pins C.S M0)(h0:M0.all (fun p=> !L.contains p.1)=true)(hok:yC L e M=true){β:Vl}{a:Act}{w:World}(h1:Rel Ck.S Ck.w0 β M w)(h2:EnvOk β M e a):
  ∃Cn,Lf C Cn/\Ck.hp.le Cn.hp/\(∀n b,L.contains n=true->M.get n=some b->b.ro=false->Known Cn.hp β n b)/\Rel Cn.S Cn.w0 β (M.conc L β) w/\EnvOk β (M.conc L β) (e.conc L β) a:=by
 unfold yC at hok
 rw[JB]at hok
 have hW:∀b,Wrt β (M.conc L β) b->Wrt β M b:=by
  rintro b ⟨n,c,k1,k2,k3,rfl⟩
  rw[xx]at k1
  split at k1
  ·cases k1
  ·cases hq:M.get n with
   |none=>rw[hq]at k1;cases k1
   |some d=>rw[hq]at k1;simp at k1;subst k1;exact⟨n,d,hq,k2,k3,rfl⟩
 obtain⟨l1,l2⟩:=hL.at h1 (s:=fun b=>¬Wrt β (M.conc L β) b) (fun b hb=>hW b (Jg.1 hb))
 have hmixA:∀β',Agree (M.conc L β) β β'->Agree M β (sK L β β'):=fun β' hag n hn=>by
  unfold sK
  cases hq:L.contains n with
  |true=>rfl
  |false=>
   obtain⟨b,hb⟩:=JE.1 hn
   exact hag n (by rw[xx,hq,hb];rfl)
 have hget:∀n b,(M.conc L β).get n=some b->L.contains n=false/\∃d,M.get n=some d/\b=d.conc L β:=fun n b hb=>by
  rw[xx]at hb
  split at hb
  ·cases hb
  ·rename_i hn
   cases hq:M.get n with
   |none=>rw[hq]at hb;cases hb
   |some d=>rw[hq]at hb;simp at hb;exact⟨by simpa using hn,d,rfl,hb.symm⟩
 have hlv:∀d:Bk,(d.conc L β).lv->d.lv:=fun d hd=>by
  rcases hd with hd|hd
  ·exact .inl hd
  ·exact .inr (by simpa[Bk.conc]using hd)
 have hmem:MemOk β (M.conc L β) w:=by
  refine⟨fun β' hag n b hb=>?_,fun n b hb hu=>?_,fun n m b b' hb hb' hne hr hl hu hu'=>?_⟩
  ·obtain⟨hn,d,hd,rfl⟩:=hget n b hb
   have hold:=h1.mem.ok _ (hmixA β' hag) n d hd
   have e1:sK L β β' n=β' n:=um hn
   have e2:=ti (β:=β) (β':=β') (JD.1 hok.2 (n,d) (zk hd))
   unfold BkOk at hold⊢
   rw[e1]at hold
   simp only[Bk.conc,e2,Kv,Io]at hold⊢
   exact hold
  ·obtain⟨hn,d,hd,rfl⟩:=hget n b hb
   exact h1.mem.there n d hd hu
  ·obtain⟨hn,d,hd,rfl⟩:=hget n b hb
   obtain⟨hn',d',hd',rfl⟩:=hget m b' hb'
   exact h1.mem.apart n m d d' hd hd' hne hr (hlv _ hl) hu hu'
 have hp:∀n l,C.S.pin n=some l->((M.conc L β).get n).isSome=true:=fun n l hl=>by
  have hn:=hP n l hl
  obtain⟨b,hb⟩:=JE.1 hn
  have:=JD.1 h0 (n,b) (zk hb)
  simp only[Jh]at this
  rw[xx,this]
  have:=(h1.pin n l (by rw[hL.pin];exact hl)).1
  simpa using this
 have hrel:=h1.at hL (s:=fun b=>¬Wrt β (M.conc L β) b) (fun b hb hn=>hn hb) hmem hp
 refine⟨C.at (fun b=>¬Wrt β (M.conc L β) b) w,l1,l2,fun n b hn hb hr=>?_,hrel,fun β' hag t x hx=>?_⟩
 ·have hbo:=h1.mem.ok β (Agree.refl _ _) n b hb
  unfold BkOk at hbo
  cases hu:(β n).nul with
  |true=>rw[if_pos hu]at hbo;exact .inl ⟨hu,hbo.1⟩
  |false=>
   rw[if_neg (by simp[hu]),if_neg (by simp[hr])]at hbo
   obtain⟨k1,junk,k2,k3⟩:=hbo
   refine .inr ⟨hu,k1,junk,⟨?_,?_,k2⟩,k3⟩
   ·rintro⟨m,c,q1,q2,q3,q4⟩
    obtain⟨hm,d,hd,rfl⟩:=hget m c q1
    refine h1.mem.apart n m b d hb hd (fun hh=>?_) hr (.inl q2) hu q3 q4
    rw[hh,hm]at hn;cases hn
   ·intro hz
    have hz':Ck.S.z (β n).blk:=by rw[hL.z];exact hz
    obtain⟨z1,z2⟩:=hL.zok' _ hz'
    have:=h1.own n b hb hr hu z1
    omega
 ·obtain⟨y,hy,he⟩:=sh e t x hx
  have h5:=h2 _ (hmixA β' hag) t _ hy
  have hc:=JD.1 hok.1 (t,x.1,y) (wu hy)
  rw[h5]
  unfold gv
  rw[he,po hc]
theorem Sm.letgo {P:Program}{nt:Nat}{C Ck:Cx}{todo:List It}{e:Env}{M M0:Mem}(L:List Nat)(hL:Lf C Ck)(hP:Pins C.S M0)(h0:M0.all (fun p=> !L.contains p.1)=true)(hok:yC L e M=true)
  (h:∀β Cn,Lf C Cn->Ck.hp.le Cn.hp->(∀n b,L.contains n=true->M.get n=some b->b.ro=false->Known Cn.hp β n b)->Sm P nt Cn todo (e.conc L β) (M.conc L β)):Sm P nt Ck todo e M:=fun β a w h1 h2 h3 h4=>by
 obtain⟨Cn,l1,l2,l3,l4,l5⟩:=tA L hL hP h0 hok h1 h2
 rw[hL.q,hL.lp,<-l1.q,<-l1.lp]
 exact h β Cn l1 l2 l3 β a w l4 l5 h3 (h4.trans (hL.df.trans l1.df.symm))
def LcH (H:Hp)(l:Loc)(cs:List Value):Prop:=
 (l.nul=true->cs=[])/\cs.length<=l.siz/\(l.nul=false->∃c el mk,H l.blk (.cells c el mk)/\∀i x,cs[i]?=some x->c[l.org+i]?=some x)
theorem LcH.mono {H H':Hp}(h:H.le H'){l:Loc}{cs:List Value}(k:LcH H l cs):LcH H' l cs:=
 ⟨k.1,k.2.1,fun hn=>by obtain⟨c,el,mk,h1,h2⟩:=k.2.2 hn;exact⟨c,el,mk,h _ _ h1,h2⟩⟩
def SlH (H:Hp)(v:Value)(sz:Nat)(rows:List (List Value)):Prop:=
 ∃l:Loc,v=(Cv.sl 0 0 rows.length sz).g (fun _=>l)/\(∀r∈rows,r.length=sz)/\LcH H l rows.flatten
theorem SlH.mono {H H':Hp}(h:H.le H'){v:Value}{sz:Nat}{rows:List (List Value)}(k:SlH H v sz rows):SlH H' v sz rows:=by
 obtain⟨l,h1,h2,h3⟩:=k
 exact⟨l,h1,h2,h3.mono h⟩
def PtH (H:Hp)(v:Value)(cs:List Value):Prop:=∃l:Loc,v=xl (fun _=>l) 0 0/\l.nul=false/\LcH H l cs
theorem PtH.mono {H H':Hp}(h:H.le H'){v:Value}{cs:List Value}(k:PtH H v cs):PtH H' v cs:=by
 obtain⟨l,h1,h2,h3⟩:=k
 exact⟨l,h1,h2,h3.mono h⟩
theorem nG {P:Program}{nt:Nat}{C:Cx}{todo:List It}{e:Env}{M:Mem}{l:Loc}{cs:List Value}(nm:Nat)(el:TypeId)(t:Nat){g:Bool}{x x':V}(h:LcH C.hp l cs)(hn:M.get nm=none)(hx:e.get t=some (g,x))
  (hx':∀β:Vl,β nm=l->x'.g β=x.g β) (k:Sm P nt C todo ((t,g,x')::e) ((nm,⟨true,cs.map .v,el⟩)::M)):Sm P nt C todo e M:=fun β a w h1 h2 h3 h4=>by
 have hne:∀k b,M.get k=some b->k≠nm:=by rintro k b hk rfl;rw[hn]at hk;cases hk
 have hcells:∀β:Vl,(cs.map Cv.v).map (Cv.g β)=cs:=fun β=>by
  rw[Ja];conv=>rhs;rw[<-HI cs]
  exact JV fun _ _=>rfl
 have hag0:∀β',Agree ((nm,⟨true,cs.map .v,el⟩)::M) (fun k=>if k=nm then l else β k) β'->Agree M β β'/\β' nm=l:=fun β' hag=>by
  refine⟨fun j hj=>?_,by have:=hag nm (by rw[zE];simp);simpa using this⟩
  obtain⟨c,hc⟩:=JE.1 hj
  rw[hag j (by rw[zE];split<;>simp_all)]
  exact if_neg (hne j c hc)
 refine k (fun k=>if k=nm then l else β k) a w ⟨h1.fr,⟨fun β' hag k b hb=>?_,fun k b hb hu=>?_,fun k m b b' hb hb' hkm hr hlv hu hu'=>?_⟩,fun k b hb hr hu hS=>?_,fun k q hq=>?_⟩ (fun β' hag t' y hy=>?_) h3 h4
 ·obtain⟨g1,g2⟩:=hag0 β' hag
  rw[zE]at hb
  split at hb
  ·rename_i hk
   simp at hb;subst hb hk
   unfold BkOk
   rw[g2,hcells]
   cases hu:l.nul with
   |true=>simp only[if_true];rw[h.1 hu];exact⟨rfl,fun h=>by cases h⟩
   |false=>
    simp only[JS,if_false,if_true]
    obtain⟨c,el',mk,q1,q2⟩:=h.2.2 hu
    refine⟨fun j v hj=>?_,by simpa using h.2.1⟩
    simp[World.cell?,zy h1 q1,q2 j v hj]
  ·exact h1.mem.ok β' g1 k b hb
 ·rw[zE]at hb
  split at hb
  ·rename_i hk
   simp only[if_pos hk]at hu⊢
   obtain⟨c,el',mk,q1,q2⟩:=h.2.2 hu
   exact J1 (C.hp_lt q1) h1.fr.size
  ·rename_i hk;simp only[if_neg hk]at hu⊢;exact h1.mem.there k b hb hu
 ·rw[zE]at hb hb'
  split at hb
  ·simp at hb;subst hb;cases hr
  ·rename_i hk
   split at hb'
   ·rename_i hk'
    simp only[if_neg hk,if_pos hk']at hu hu'⊢
    obtain⟨c,el',mk,q1,q2⟩:=h.2.2 hu'
    exact fun hh=>yJ h1 q1 ⟨k,b,hb,hr,hu,hh.symm⟩
   ·rename_i hk'
    simp only[if_neg hk,if_neg hk']at hu hu'⊢
    exact h1.mem.apart k m b b' hb hb' hkm hr hlv hu hu'
 ·rw[zE]at hb
  split at hb
  ·simp at hb;subst hb;cases hr
  ·rename_i hk;simp only[if_neg hk]at hu hS⊢;exact h1.own k b hb hr hu hS
 ·obtain⟨p1,p2⟩:=h1.pin k q hq
  have hkn:k≠nm:=by rintro rfl;rw[hn]at p1;cases p1
  exact⟨by rw[zE,if_neg hkn];exact p1,by simp only[if_neg hkn];exact p2⟩
 ·obtain⟨g1,g2⟩:=hag0 β' hag
  simp only[Env.get]at hy
  cases ht:(t==t')with
  |true=>
   rw[ht]at hy
   have:t=t':=by simpa using ht
   subst this
   simp at hy
   subst hy
   have:=h2 β' g1 t _ hx
   rw[this]
   unfold gv
   simp only[hx' β' g2]
  |false=>
   rw[ht]at hy
   exact h2 β' g1 t' y hy
theorem QS {β:Vl}{l:Loc}{nm:Nat}(h:β nm=l)(n esz:Nat):(Cv.sl nm 0 n esz).g β=(Cv.sl 0 0 n esz).g (fun _=>l):=by subst h;rfl
theorem Sm.bring {P:Program}{nt:Nat}{C:Cx}{todo:List It}{e:Env}{M:Mem}{v:Value}{sz:Nat}{rows:List (List Value)}(nm:Nat)(el:TypeId)(t:Nat){g:Bool}(h:SlH C.hp v sz rows)(hn:M.get nm=none)(hx:e.get t=some (g,.c (.v v)))
  (k:Sm P nt C todo ((t,g,.c (.sl nm 0 rows.length sz))::e) ((nm,⟨true,rows.flatten.map .v,el⟩)::M)):Sm P nt C todo e M:=by
 obtain⟨l,h1,h2,h3⟩:=h
 exact nG nm el t h3 hn hx (fun β hb=>by show(Cv.sl nm 0 rows.length sz).g β=v;rw[h1,QS hb]) k
theorem zX {P:Program}{nt:Nat}{C:Cx}{todo:List It}{e:Env}{M:Mem}{v:Value}{cs:List Value}(nm:Nat)(el:TypeId)(t:Nat){g:Bool}(h:PtH C.hp v cs)(hn:M.get nm=none)(hx:e.get t=some (g,.c (.v v)))
  (k:Sm P nt C todo ((t,g,.c (.p nm 0))::e) ((nm,⟨true,cs.map .v,el⟩)::M)):Sm P nt C todo e M:=by
 obtain⟨l,h1,h2,h3⟩:=h
 exact nG nm el t h3 hn hx (fun β hb=>by show(Cv.p nm 0).g β=v;rw[h1];simp[Cv.g,xl,hb]) k
theorem Known.sl {H:Hp}{β:Vl}{n:Nat}{b:Bk}(h:Known H β n b){sz:Nat}{rows:List (List Value)}(hr:∀r∈rows,r.length=sz)(hc:b.cells=rows.flatten.map .v):SlH H (y7 β (.sl n 0 rows.length sz)) sz rows:=by
 refine⟨β n,QS rfl _ _,hr,?_⟩
 have hcells:(b.cells).map (Cv.g β)=rows.flatten:=by
  rw[hc,Ja];conv=>rhs;rw[<-HI rows.flatten]
  exact JV fun _ _=>rfl
 have hlen:rows.flatten.length=b.cells.length:=by rw[hc,Kv]
 rcases h with⟨h1,h2⟩|⟨h1,h2,junk,h3,h4⟩
 ·have:rows.flatten=[]:=by simpa[h2]using hc.symm
  exact⟨fun _=>this,by rw[this];simp,fun hh=>by rw[h1]at hh;cases hh⟩
 ·refine⟨fun hh=>by rw[h1]at hh;(cases hh),zA,fun _=>⟨_,_,_,h3,fun i x hx=>?_⟩⟩
  rw[h2,J4,hcells]
  simp only[Iy]
  rw[Jk (JW.1 hx).1];exact hx
theorem Known.pt {H:Hp}{β:Vl}{n:Nat}{b:Bk}(h:Known H β n b)(h0:b.cells≠[]):PtH H (y7 β (.p n 0)) (b.cells.map (Cv.g β)):=by
 rcases h with⟨h1,h2⟩|⟨h1,h2,junk,h3,h4⟩
 ·exact absurd h2 h0
 ·refine⟨β n,rfl,h1,fun hh=>by rw[h1]at hh;(cases hh),by rw[Kv];omega,fun _=>⟨_,_,_,h3,fun i x hx=>?_⟩⟩
  rw[h2,J4]
  simp only[Iy]
  rw[Jk (JW.1 hx).1];exact hx
theorem SlH.nil {H:Hp}(sz:Nat):SlH H (.slice none 0 0) sz []:=⟨⟨0,0,0,true,none⟩,by simp[Cv.g,Loc.emp],z9,fun _=>rfl,z9,fun h=>by cases h⟩
def CallX (H:Hp)(P:Program)(f:FuncId)(args:List V)(M:Mem){α:Type}(v:α->V)(N:α->Mem)(Q:α->Hp->Prop):Prop:=
 Enters P f/\(∀x n b,(N x).get n=some b->M.get n=none->b.ro=false)/\(∀x n b b',(N x).get n=some b->M.get n=some b'->b'.ro=false)/\
 ∀β w (Z:Nat->Prop),MemOk β M w->(∀b o,H b o->w.heap[b]?=some o/\¬Z b/\¬Wrt β M b)->(∀b,Z b->b<w.heap.size/\¬Wrt β M b)->Calls P f (args.map (V.g β)).toArray w fun en w'=>
  ∃x β' H',Agree M β β'/\(∀β'',Agree (N x++M) β' β''->en= .returned ((v x).g β''))/\MemOk β' (N x++M) w'/\Fr (fun k=>∀n b,M.get n=some b->b.ro=false->(β n).nul=false->k≠(β n).blk) w w'/\
   (∀n,((N x).get n).isSome=true->M.get n=none->(β' n).nul=false->(w.heap.size<=(β' n).blk\/∃k b c,M.get k=some b/\b.ro=false/\(β k).nul=false/\(N x).get k=some c/\¬c.lv/\(β' n).blk=(β k).blk))/\
   (∀b o,H' b o->w'.heap[b]?=some o/\¬Z b/\¬Wrt β' (N x++M) b)/\Q x H'
theorem mG {H:Hp}{P:Program}{f:FuncId}{fn:Func}{body:Code}{args:List V}{M:Mem}{α:Type}{v:α->V}{N:α->Mem}{Q:α->Hp->Prop}(hf:P.funcs[f]?=some fn)(hb:fn.body=some body)(hent:Enters P f)(hnt:args.length<=fn.ntmps)
  (hNrw:∀x n b,(N x).get n=some b->M.get n=none->b.ro=false) (hU:∀x n b b',(N x).get n=some b->M.get n=some b'->b'.ro=false) (hcl:∀x∈args,ClV M x)
  (h:∀C,(∀x Cn,Lf C Cn->Q x Cn.hp->yr P Cn fn (v x) (N x++M))->Pins C.S M->H.le C.hp->Lf C C->(∀n,(M.get n).isSome=true->∃l,C.S.pin n=some l)->Sm P fn.ntmps C [.code body] (wB 0 args) M):CallX H P f args M v N Q:=by
 refine⟨hent,hNrw,hU,fun β w Z hm hH hZ=>calls_of_wp hf hb ?_⟩
 let R:Ending->World->Prop:=fun en w'=>
  ∃x β' H',Agree M β β'/\(∀β'',Agree (N x++M) β' β''->en= .returned ((v x).g β''))/\MemOk β' (N x++M) w'/\Fr (fun k=>∀n b,M.get n=some b->b.ro=false->(β n).nul=false->k≠(β n).blk) w w'/\
   (∀n,((N x).get n).isSome=true->M.get n=none->(β' n).nul=false->(w.heap.size<=(β' n).blk\/∃k b c,M.get k=some b/\b.ro=false/\(β k).nul=false/\(N x).get k=some c/\¬c.lv/\(β' n).blk=(β k).blk))/\
   (∀b o,H' b o->w'.heap[b]?=some o/\¬Z b/\¬Wrt β' (N x++M) b)/\Q x H'
 let C:Cx:=⟨⟨fun k=>∀n b,M.get n=some b->b.ro=false->(β n).nul=false->k≠(β n).blk,fun n=>if (M.get n).isSome=true then some (β n)else none,Z⟩,w,bodyPost P fn R,none,[]⟩
 have hs:∀k,¬Wrt β M k->C.S.s k:=fun k hk n b h1 h2 h3 h4=>hk ⟨n,b,h1,h2,h3,h4⟩
 have hL:Lf C C:=Lf.refl fun b hb=>⟨hs b (hZ b hb).2,(hZ b hb).1⟩
 have hret:∀x Cn,Lf C Cn->Q x Cn.hp->yr P Cn fn (v x) (N x++M):=by
  intro x Cn hLn hQ
  refine⟨fun n l hl=>?_,fun β' a w' u hreln hu hd hres=>?_,fun a w'=>?_⟩
  ·rw[hLn.pin]at hl
   by_cases hh:(M.get n).isSome=true
   ·rw[zL];cases (N x).get n<;>simp[hh]
   ·simp[C,hh]at hl
  ·rw[hLn.q]
   have hrel:=hLn.rel hreln
   refine⟨hd.trans hLn.df,u,hres,x,β',Cn.hp,fun n hn=>?_,fun β'' hag=>by rw[hu β'' hag],hrel.mem,hrel.fr,fun n hn hM hu=>?_,fun b o hb=>⟨zy hreln hb,?_,yJ hreln hb⟩,hQ⟩
   ·exact(hrel.pin n (β n) (if_pos hn)).2
   ·obtain⟨b,hb⟩:=JE.1 hn
    have hg:(N x++M:Mem).get n=some b:=by rw[zL,hb];rfl
    by_cases hS:C.S.s (β' n).blk
    ·exact .inl (hrel.own n b hg (hNrw x n b hb hM) hu hS)
    ·right
     have hS':∃m c,M.get m=some c/\c.ro=false/\(β m).nul=false/\(β' n).blk=(β m).blk:=by
      refine Jl fun hno=>hS fun m c hm hr hum hh=>hno ⟨m,c,hm,hr,hum,hh⟩
     obtain⟨m,c,hm,hr,hum,hh⟩:=hS'
     have hm':((N x++M:Mem).get m).isSome=true:=by rw[zL];cases (N x).get m<;>simp[hm]
     obtain⟨d,hd'⟩:=JE.1 hm'
     have hp:=(hrel.pin m (β m) (if_pos (by simp[hm]))).2
     have hne:n≠m:=by
      rintro rfl
      rw[hM]at hm;cases hm
     have hlv:¬d.lv:=fun hlv=>hrel.mem.apart n m b d hg hd' hne (hNrw x n b hb hM) hlv hu (by rw[hp];exact hum) (by rw[hp];exact hh)
     have hNm:(N x).get m=some d:=by
      rw[zL]at hd'
      cases hN:(N x).get m with
      |some y=>rw[hN]at hd';simpa using hd'
      |none=>rw[hN,hm]at hd';simp at hd';subst hd';exact absurd (.inl hr) hlv
     exact⟨m,c,d,hm,hr,hum,hNm,hlv,hh⟩
   ·have:=hb.2.1
    rw[hLn.z]at this;exact this
  ·rw[hLn.q];exact fun h=>h
 refine(wpIn_wide (n:=0)).1 ?_
 refine h C hret (fun n l hl=>?_) (fun b o hb=>⟨hs b (hH b o hb).2.2,(hH b o hb).2.1,(hH b o hb).1⟩) hL (fun n hn=>⟨β n,if_pos hn⟩) β _ w ⟨Fr.refl _ _,hm,fun n b hb hr hu hS=>absurd rfl (hS n b hb hr hu),fun n l hl=>?_⟩ ?_ ?_ rfl
 ·by_cases hh:(M.get n).isSome=true
  ·exact hh
  ·simp[C,hh]at hl
 ·by_cases hh:(M.get n).isSome=true
  ·simp only[C,hh,if_true,Ji]at hl
   exact⟨hh,hl⟩
  ·simp[C,hh]at hl
 ·intro β' hag t y hy
  obtain⟨_,h2,h3⟩:=tH args 0 t y hy
  simp only[Nat.sub_zero]at h2
  have hlt:t<args.length:=(JW.1 h2).1
  obtain⟨g,x⟩:=y
  simp only at h2 h3
  subst h3
  have hx:x∈args:=In h2
  simp only[gv,cond_true,hcl x hx β β' hag]
  rw[JA hlt]at h2
  simp only[Ji]at h2
  simp[Array.getElem?_append,hlt,h2]
 ·simp;omega
theorem CallX.intro {H:Hp}{P:Program}{f:FuncId}{fn:Func}{body:Code}{args:List V}{M:Mem}{α:Type}{v:α->V}{N:α->Mem}{Q:α->Hp->Prop}(hf:P.funcs[f]?=some fn)(hb:fn.body=some body)(hent:Enters P f)(hnt:args.length<=fn.ntmps)
  (hNrw:∀x n b,(N x).get n=some b->M.get n=none->b.ro=false) (hU:∀x n b b',(N x).get n=some b->M.get n=some b'->b'.ro=false) (hcl:∀x∈args,ClV M x)
  (h:∀C,(∀x Cn,Lf C Cn->Q x Cn.hp->yr P Cn fn (v x) (N x++M))->Pins C.S M->H.le C.hp->Lf C C->Sm P fn.ntmps C [.code body] (wB 0 args) M):CallX H P f args M v N Q:=
 mG hf hb hent hnt hNrw hU hcl fun C hR hP hH hL _=>h C hR hP hH hL
theorem Wrt.sub {β:Vl}{M1 M:Mem}(hs:Sub M1 M){b:Nat}(h:Wrt β M1 b):Wrt β M b:=by
 obtain⟨n,c,h1,h2,h3,h4⟩:=h
 obtain⟨c',h5,h6⟩:=hs n c h1
 rcases h6 with rfl|⟨h7,_⟩
 ·exact⟨n,c,h5,h2,h3,h4⟩
 ·rw[h2]at h7;cases h7
theorem CallX.at {H:Hp}{P:Program}{f:FuncId}{xs:List V}{M1 M:Mem}{α:Type}{v:α->V}{N:α->Mem}{Q:α->Hp->Prop}{C Ck:Cx}(hc:CallX H P f xs M1 v N Q)(hL:Lf C Ck)(hH:H.le Ck.hp)(hs:Sub M1 M)(hcl:ClM M1)(hfr:∀x,Fresh (N x) M1 M){β:Vl}{w:World}(hrel:Rel Ck.S Ck.w0 β M w):
  Calls P f (xs.map (V.g β)).toArray w fun en w'=>∃x Cn β2 u H',en= .returned u/\Lf C Cn/\Ck.hp.le Cn.hp/\H'.le Cn.hp/\Q x H'/\Agree M β β2/\Rel Cn.S Cn.w0 β2 (N x++M) w'/\∀β'',Agree (N x++M) β2 β''->u=(v x).g β'':=by
 obtain⟨hent,hNrw,hU,hcall⟩:=hc
 refine(hcall β w (fun b=>(Ck.S.z b\/Wrt β M b)/\b<w.heap.size/\¬Wrt β M1 b) (hrel.mem.sub hs hcl) (fun b o hb=>?_) (fun b hb=>⟨hb.2.1,hb.2.2⟩)).mono ?_
 ·have h1:=hH b o hb
  refine⟨zy hrel h1,fun hz=>?_,fun hw=>yJ hrel h1 (hw.sub hs)⟩
  rcases hz.1 with h|h
  ·exact h1.2.1 h
  ·exact yJ hrel h1 h
 ·rintro en w' ⟨x,β',H',hag,hen,hmem,hfrm,hnew,hH',hQ⟩
  have hfresh:∀k,((N x).get k).isSome=true->(M.get k).isSome=true->(M1.get k).isSome=true:=by
   intro k h1 h2
   rcases hfr x k h1 with h3|h3
   ·exact h3
   ·rw[h3]at h2;cases h2
  obtain⟨β2,g1,g2,g3,g4⟩:=hrel.after hs (hNrw x) (hU x) hfresh hag hmem hfrm hnew
  have hpin:∀n l,C.S.pin n=some l->((N x++M:Mem).get n).isSome=true:=fun n l hl=>(g2.pin n l (by rw[hL.pin];exact hl)).1
  obtain⟨l1,l2⟩:=hL.at g2 (s:=fun b=>¬Wrt β2 (N x++M) b) (fun b hb=>Jg.1 hb)
  have g5:=g2.at hL (s:=fun b=>¬Wrt β2 (N x++M) b) (fun b hb hn=>hn hb) g2.mem hpin
  refine⟨x,_,β2,(v x).g β',H',hen β' (Agree.refl _ _),l1,l2,fun b o hb=>?_,hQ,g1,g5,fun β'' hag''=>?_⟩
  ·obtain⟨q1,q2,q3⟩:=hH' b o hb
   have hwr:¬Wrt β2 (N x++M) b:=by
    rintro⟨n,c,h1,h2,h3,rfl⟩
    rw[zL]at h1
    cases hN:(N x).get n with
    |some d=>
     rw[hN]at h1
     simp at h1;subst h1
     rw[g4 n (by simp[hN])]at h3 q3
     exact q3 ⟨n,d,by rw[zL,hN];rfl,h2,h3,rfl⟩
    |none=>
     rw[hN]at h1
     simp at h1
     have hb2:=g1 n (by simp[h1])
     rw[hb2]at h3 q3 q2
     by_cases hw:Wrt β M1 (β n).blk
     ·-- the block is named in M1 too:the same name
      obtain⟨m,d,k1,k2,k3,k4⟩:=hw
      obtain⟨d',k5,k6⟩:=hs m d k1
      obtain rfl:d=d':=by rcases k6 with h|⟨h,_⟩;exact h;rw[k2]at h;cases h
      by_cases hnm:n=m
      ·subst hnm
       have:β' n=β n:=hag n (by simp[k1])
       refine q3 ⟨n,d,by rw[zL,hN];simpa using k1,k2,by rw[this];exact k3,by rw[this]⟩
      ·exact hrel.mem.apart n m c d h1 k5 hnm h2 (.inl k2) h3 k3 k4
     ·exact q2 ⟨.inr ⟨n,c,h1,h2,h3,rfl⟩,hrel.mem.there n c h1 h3,hw⟩
   refine⟨hwr,fun hz=>?_,q1⟩
   have hz':Ck.S.z b:=by rw[hL.z];exact hz
   obtain⟨z1,z2⟩:=hL.zok' b hz'
   refine q2 ⟨.inl hz',J1 z2 hrel.fr.size,fun hw=>?_⟩
   obtain⟨m,d,k1,k2,k3,rfl⟩:=hw.sub hs
   have:=hrel.own m d k1 k2 k3 z1
   omega
  ·have e1:=hen β' (Agree.refl _ _)
   have e2:=hen β'' (g3 β'' hag'')
   rw[e1]at e2
   simpa using e2
theorem CallX.kx {H:Hp}{P:Program}{f:FuncId}{xs:List V}{M1:Mem}{v:V}{N:Mem}{α:Type}{v':α->V}{N':α->Mem}{Q:α->Hp->Prop}{C:Cx}(hc:CallX H P f xs M1 v' N' Q)(hH:H.le C.hp)(hcl:ClM M1)(hv:∀x,v' x=v)(hN:∀x,N' x=N):oG P C.S C.w0 f xs M1 v N:=by
 obtain⟨hent,hNrw,hU,hcall⟩:=hc
 refine⟨hent,fun β w M' hrel hs hfresh=>(hcall β w (fun _=>False) (hrel.mem.sub hs hcl) (fun b o hb=>?_) (fun b hb=>hb.elim)).mono ?_⟩
 ·have h1:=hH b o hb
  exact⟨zy hrel h1,fun hz=>hz,fun hw=>yJ hrel h1 (hw.sub hs)⟩
 ·rintro en w' ⟨x,β',H',hag,hen,hmem,hfrm,hnew,_,_⟩
  obtain rfl:=hN x
  obtain rfl:=hv x
  obtain⟨β2,h1,h2,h3,_⟩:=hrel.after hs (hNrw x) (hU x) hfresh hag hmem hfrm hnew
  refine⟨β2,(v' x).g β',hen β' (Agree.refl _ _),h1,h2,fun β'' hag''=>?_⟩
  have e1:=hen β' (Agree.refl _ _)
  have e2:=hen β'' (h3 β'' hag'')
  rw[e1]at e2
  simpa using e2
@[reducible] def CallH (H:Hp)(P:Program)(f:FuncId)(args:List V)(v:V):Prop:=CallX H P f args [] (fun _:Unit=>v) (fun _=>[]) (fun _ _=>True)
theorem CallH.kx {H:Hp}{P:Program}{f:FuncId}{xs:List V}{v:V}{C:Cx}(hc:CallH H P f xs v)(hH:H.le C.hp):oG P C.S C.w0 f xs [] v []:=CallX.kx hc hH (fun _ _ _ n b h=>by cases h) (fun _=>rfl) (fun _=>rfl)
section
variable {P:Program} {nt:Nat} {C Ck:Cx} {todo r:List It} {e e0:Env} {M M0 Mf:Mem}
theorem zM {H:Hp}{f:FuncId}{vs:List (Option (Bool×V))}{g:Bool}{dst:Option Nat}{xs:List V}{v:V}(nx:Nat)(hc:CallH H P f xs v)(hH:H.le C.hp)(hvs:vs=xs.map fun x=>some (true,x))(h:run P nt C 1000 todo (e.put dst g v) M nx):
  CallQ P nt C f vs g dst todo e M:=Or.inl ⟨[],[],v,xs,fun _=>hvs,fun _=> .inr (hc.kx hH),Sub.nil _,ClM.nil,Fresh.nil _ _,.inr rfl,yP 1000 _ _ _ nx h⟩
theorem zt {H:Hp}{f:FuncId}{vs:List (Option (Bool×V))}{g:Bool}{dst:Option Nat}{xs:List V}{v:V}(nx:Nat)(hc:g=true->CallH H P f xs v)(hH:H.le C.hp)(hvs:g=true->vs=xs.map fun x=>some (true,x))(h:run P nt C 1000 todo (e.put dst g v) M nx):
  CallQ P nt C f vs g dst todo e M:=Or.inl ⟨[],[],v,xs,hvs,fun h=> .inr ((hc h).kx hH),Sub.nil _,ClM.nil,Fresh.nil _ _,.inr rfl,yP 1000 _ _ _ nx h⟩
theorem yV {H:Hp}{id:Nat}{rg:Array Oper}{k:Nat}{T:List (Nat×Nat)}{i:Nat}{o:Oper}{l:List Oper}{f:FuncId}{vs:List (Option (Bool×V))}{g:Bool}{dst:Option Nat}{xs:List V}{v:V}(nx:Nat)(hc:g=true->CallH H P f xs v)(hH:H.le C.hp)(hvs:g=true->vs=xs.map fun x=>some (true,x))
  (h:wz P nt C id rg r e0 M0 Mf k (wA P nt C (.ops rg (rg.toList.drop k)::r)) T (i+1) l (e.put dst g v) M nx):DCallQ P nt C id rg r e0 M0 Mf k T i o f vs g dst l e M:=
 ⟨[],[],M0,v,xs,hvs,fun h=> .inr ((hc h).kx hH),Sub.nil _,ClM.nil,Fresh.nil _ _,.inr rfl,⟨fun _ _ h=> .inl h,fun _ h=>by cases h⟩,wX nx h⟩
theorem CallQ.x {H:Hp}{f:FuncId}{vs:List (Option (Bool×V))}{g:Bool}{dst:Option Nat}{xs:List V}{M1:Mem}{α:Type}{v:α->V}{N:α->Mem}{Q:α->Hp->Prop}(nx:Nat)(hL:Lf C Ck)(hc:CallX H P f xs M1 v N Q)(hH:H.le Ck.hp)(hs:Sub M1 M)(hcl:ClM M1)(hfr:∀x,Fresh (N x) M1 M)(hg:g=true)(hvs:vs=xs.map fun x=>some (true,x))(hd:yy nt dst=true)
  (h:∀x Cn H',Lf C Cn->Ck.hp.le Cn.hp->H'.le Cn.hp->Q x H'->run P nt Cn 1000 todo (e.put dst g (v x)) (N x++M) nx):CallQ P nt Ck f vs g dst todo e M:=by
 subst hg
 refine .inr ⟨rfl,xs,hvs,hc.1,fun β a w h1 h2 h3 h4=>(hc.at hL hH hs hcl hfr h1).mono ?_⟩
 rintro en w' ⟨x,Cn,β2,u,H',rfl,l1,l2,l3,hQ,g1,g2,g3⟩
 refine⟨u,rfl,?_⟩
 rw[hL.q,<-l1.q,hL.lp,<-l1.lp]
 refine yP 1000 _ _ _ nx (h x Cn H' l1 l2 l3 hQ) β2 _ w' g2 ?_ ?_ ?_
 ·exact EnvOk.put h2 g1 h3 (wn hd) (fun β'' hb=>by rw[g3 β'' hb];rfl)
 ·cases dst<;>simp[Act.put,h3]
 ·have h4:=h4.trans (hL.df.trans l1.df.symm)
  cases dst<;>simp[Act.put,h4]
theorem xH {α:Type}{b:Code}(hL:Lf C Ck)(hP:Pins C.S M0)(E:α->Env)(Mm:α->Mem)(I:α->Hp->Prop)(m:α->Nat)(x0:α)(hI:I x0 Ck.hp)(hM:∀x,ClM (Mm x))(hE:∀x,∀p∈E x,ClV (Mm x) p.2.2)
  (L0:List (Nat×Nat)) (h0:Y4 Ck.S M0 (E x0) (Mm x0) e M L0)
  (round:∀(x:α) (Cn:Cx) (J:Act->World->Prop),Lf C Cn->I x Cn.hp->(∀e' M' Cm x' L,Lf C Cm->I x' Cm.hp->m x'<m x->Y4 Cm.S M0 (E x') (Mm x') e' M' L->Sm P nt Cm (.stop J::r) e' M')->Sm P nt Cn (.code b:: .stop J::r) (E x) (Mm x)):
  Sm P nt Ck (.code (.loop b)::r) e M:=fun β a w h1 h2 h3 h4=>by
 have hw:∀(Cm:Cx) x e' M' L,Lf C Cm->Y4 Cm.S M0 (E x) (Mm x) e' M' L->Wkn Cm.S (E x) (Mm x) e' M':=fun Cm x _ _ L hl h=>Wkn.ren L (hl.pins hP) h.1 h.2.1 h.2.2.1 h.2.2.2 (hM x) (hE x)
 let St:α->Act->World->Prop:=fun x a w=>∃Cn β,Lf C Cn/\I x Cn.hp/\Rel Cn.S Cn.w0 β (Mm x) w/\EnvOk β (Mm x) (E x) a/\a.tmps.size=nt/\a.defers=Cn.df
 obtain⟨β1,g1,g2⟩:=hw Ck x0 _ _ L0 hL h0 _ β a w h1 h2
 have least:∀n a w,(∃x,m x<=n/\St x a w)->∃x,St x a w/\∀y,St y a w->m x<=m y:=by
  intro n
  induction n using Nat.strongRecOn with
  |_ n ih=>
   intro a w ⟨x,hx,hs⟩
   by_cases hl:∃y,m y<m x/\St y a w
   ·obtain⟨y,hy,hsy⟩:=hl
    exact ih (m y) zA a w ⟨y,JZ _,hsy⟩
   ·refine⟨x,hs,fun y hy=>?_⟩
    by_cases hh:m x<=m y
    ·exact hh
    ·exact absurd ⟨y,zA,hy⟩ hl
 classical
 refine wpIn_loop (fun a w=>∃x,St x a w) (fun a w=>if h:∃x,St x a w/\∀y,St y a w->m x<=m y then m h.choose else 0) ⟨x0,Ck,β1,hL,hI,g1,g2,h3,h4⟩ ?_
 intro a w ⟨x,hx⟩
 have hl:=least (m x) a w ⟨x,JZ _,hx⟩
 simp only[dif_pos hl]
 have hc:=hl.choose_spec
 generalize hl.choose=y at hc
 obtain⟨⟨Cn,β2,k0,kI,k1,k2,k3,k4⟩,hmin⟩:=hc
 let J:Act->World->Prop:=fun a' w'=>(∃x,St x a' w')/\(if h:∃x,St x a' w'/\∀y,St y a' w'->m x<=m y then m h.choose else 0)<m y
 have hJ:∀a' w',(∃x',m x'<m y/\St x' a' w')->J a' w':=by
  intro a' w' ⟨x',hlt,hs'⟩
  have hl':=least (m x') a' w' ⟨x',JZ _,hs'⟩
  refine⟨⟨x',hs'⟩,?_⟩
  rw[dif_pos hl']
  exact Nat.lt_of_le_of_lt (hl'.choose_spec.2 x' hs') hlt
 have hr:=round y Cn J k0 kI (fun e' M' Cm x' L hlm hIm hlt hmet=>Sm.stop fun β a w q1 q2 q3 q4=>by
  obtain⟨β5,q5,q6⟩:=hw Cm x' _ _ L hlm hmet _ β a w q1 q2
  exact hJ a w ⟨x',hlt,Cm,β5,hlm,hIm,q5,q6,q3,q4⟩) β2 a w k1 k2 k3 k4
 have hq:Ck.Q=Cn.Q:=by rw[hL.q,k0.q]
 have hlp:Ck.lp=Cn.lp:=by rw[hL.lp,k0.lp]
 rw[hq,hlp]
 refine Code.wpIn_mono ?_ hr
 intro x' a' w' hq
 cases x'<;>exact hq
end
end Vg
namespace Vg
open Go.RowKit
abbrev Al:=List (ByteArray×Value)
def w9:Al->ByteArray->Option Value
 |[],_=>none
 |(k,v)::r,s=>if k=s then some v else w9 r s
def uU:Al->ByteArray->Value->Al
 |[],s,v=>[(s,v)]
 |(k,w)::r,s,v=>if k=s then(k,v)::r else(k,w)::uU r s v
theorem tM (s:ByteArray)(v:Value):∀(l:Al) (t:ByteArray),w9 (uU l s v) t=if t=s then some v else w9 l t
 |[],t=>by
  simp only[uU,w9]
  by_cases h:t=s
  ·subst h;simp
  ·rw[if_neg h,if_neg (fun hh=>h hh.symm)]
 |(k,w)::r,t=>by
  simp only[uU]
  by_cases hk:k=s
  ·rw[if_pos hk]
   simp only[w9]
   by_cases h:t=s
   ·subst h;rw[if_pos hk,if_pos rfl]
   ·rw[if_neg h,if_neg (fun hh=>h (hh.symm.trans hk))]
    split
    ·rename_i hh;exact absurd (hh.symm.trans hk) h
    ·rfl
  ·rw[if_neg hk]
   simp only[w9]
   by_cases h:k=t
   ·rw[if_pos h]
    by_cases h2:t=s
    ·exact absurd (h.trans h2) hk
    ·rw[if_neg h2,if_pos h]
   ·rw[if_neg h,tM s v r t,if_neg h]
def fa (es:List MapEntry)(l:Al):Prop:=es.map (fun e=>(e.key,e.val))=l.map fun p=>(Value.string p.1,p.2)
def MpB (H:Hp)(b:Nat)(l:Al):Prop:=∃es clk,H b (.map es clk)/\fa es.toList l
theorem MpB.mono {H H':Hp}(h:H.le H'){b:Nat}{l:Al}(k:MpB H b l):MpB H' b l:=by
 obtain⟨es,clk,h1,h2⟩:=k
 exact⟨es,clk,h _ _ h1,h2⟩
theorem p7 (s:ByteArray):∀(es:List MapEntry) (l:Al) (i:Nat),fa es l->
  (w9 l s=none/\Instr.findNow .string (.string s) es i=some none/\uU l s=fun v=>l++[(s,v)])\/
  (∃j e,w9 l s=some e.val/\Instr.findNow .string (.string s) es i=some (some (i+j,e.val))/\es[j]?=some e/\e.key= .string s/\∀v,fa (es.modify j fun e=>{e with key:= .string s,val:=v}) (uU l s v))
 |[],[],i,_=> .inl ⟨rfl,rfl,rfl⟩
 |[],_::_,i,h=>by simp[fa]at h
 |_::_,[],i,h=>by simp[fa]at h
 |e::es,(k,w)::l,i,h=>by
  simp only[fa,Ky,List.cons.injEq,I3]at h
  obtain⟨⟨h1,h2⟩,h3⟩:=h
  by_cases hk:k=s
  ·right
   refine⟨0,e,by rw[w9,if_pos hk,h2],?_,rfl,by rw[h1,hk],fun v=>?_⟩
   ·simp only[Instr.findNow,h1,Instr.sameNow,hk,beq_self_eq_true]
    have:(s==s)=true:=(MapKept.bytes_beq s s).2 rfl
    rw[this];rfl
   ·simp only[uU]
    rw[if_pos hk]
    simp only[fa,List.modify_zero_cons,Ky,h3,hk]
  ·have hb:(s==k)=false:=by
    cases hq:(s==k)with
    |false=>rfl
    |true=>exact absurd ((MapKept.bytes_beq s k).1 hq).symm hk
   rcases p7 s es l (i+1) h3 with⟨g1,g2,g3⟩|⟨j,e',g1,g2,g3,g4,g5⟩
   ·left
    refine⟨by rw[w9,if_neg hk,g1],?_,?_⟩
    ·simp only[Instr.findNow,h1,Instr.sameNow,hb];exact g2
    ·funext v
     simp only[uU,if_neg hk,g3];rfl
   ·right
    refine⟨j+1,e',by rw[w9,if_neg hk,g1],?_,by simpa using g3,g4,fun v=>?_⟩
    ·simp only[Instr.findNow,h1,Instr.sameNow,hb];rw[g2];congr 3;omega
    ·have:=g5 v
     simp only[fa]at this⊢
     simp only[uU,if_neg hk,List.modify_succ_cons,Ky,this,h1,h2]
def jJ (P:Program)(t:TypeId):Option (TypeId×TypeId):=
 match P.underlying t with
 |some (.map k e)=>if tv P k then some (k,e)else none
 |_=>none
theorem ie {P:Program}{t k e:TypeId}(h:jJ P t=some (k,e)):P.underlying t=some (.map k e)/\P.underlying k=some .string:=by
 unfold jJ at h
 split at h
 ·split at h<;>simp at h
  rename_i hu hs
  obtain⟨rfl,rfl⟩:=h
  exact⟨hu,uf hs⟩
 ·cases h
def bB (P:Program)(t:TypeId):Option Value:=(P.info? t).bind (·.zero)
theorem ff {P:Program}{t:TypeId}{z:Value}(h:bB P t=some z)(w:World):(zeroValue t).run P w= .ok z w:=by
 unfold bB at h
 cases hi:P.info? t with
 |none=>simp[hi]at h
 |some i=>
  simp only[hi,Option.bind_some]at h
  simp[zeroValue,typeInfo,hi,h]
theorem mf {P:Program}{t k e:TypeId}{z:Value}(ht:jJ P t=some (k,e))(hz:bB P e=some z){w:World}{b:Nat}{es:Array MapEntry}{clk:Nat}{l:Al}(hb:w.heap[b]?=some (.map es clk))(hl:fa es.toList l)(s:ByteArray)(ok:Bool):
  (Instr.lookup t (.map (some b)) (.string s) ok).run P w= .ok (if ok then .tuple #[(w9 l s).getD z,.bool (w9 l s).isSome]else(w9 l s).getD z) w:=by
 obtain⟨h1,h2⟩:=ie ht
 have hck:(Instr.checkKey es.isEmpty 10000 k (.string s)).run P w= .ok () w:=MapKept.run_checkKey (d:= .string) (k:= .string s) h2 trivial _ 9999
 rcases p7 s es.toList l 0 hl with⟨g1,g2,_⟩|⟨j,e',g1,g2,_⟩
 ·have hf:=MapKept.run_findKey (P:=P) (w:=w) (kt:=k) h2 g2
  cases ok<;>simp[Instr.lookup,run_underlying h1,MapKept.run_getObj_map hb,hck,hf,ff hz,g1,Result.andThen]
 ·have hf:=MapKept.run_findKey (P:=P) (w:=w) (kt:=k) h2 g2
  cases ok<;>simp[Instr.lookup,run_underlying h1,MapKept.run_getObj_map hb,hck,hf,g1,Result.andThen]
theorem rk {P:Program}{t k e:TypeId}(ht:jJ P t=some (k,e)){w:World}{b:Nat}{es:Array MapEntry}{clk:Nat}{l:Al}(hb:w.heap[b]?=some (.map es clk))(hl:fa es.toList l)(s:ByteArray)(v:Value):
  ∃es' clk',(Instr.mapUpdate t (.map (some b)) (.string s) v).run P w= .ok () {w with heap:=w.heap.setIfInBounds b (.map es' clk')}/\fa es'.toList (uU l s v):=by
 obtain⟨h1,h2⟩:=ie ht
 have hck:(Instr.checkKey false 10000 k (.string s)).run P w= .ok () w:=MapKept.run_checkKey (d:= .string) (k:= .string s) h2 trivial _ 9999
 rcases p7 s es.toList l 0 hl with⟨g1,g2,g3⟩|⟨j,e',g1,g2,g3,g4,g5⟩
 ·have hf:=MapKept.run_findKey (P:=P) (w:=w) (kt:=k) h2 g2
  refine⟨es.push {key:= .string s,val:=v,born:=clk},clk+1,?_,?_⟩
  ·simp[Instr.mapUpdate,run_underlying h1,MapKept.run_getObj_map hb,hck,hf,MapKept.run_setObj_map _ hb,Result.andThen]
  ·rw[g3];simp only[fa]at hl⊢;simp[hl]
 ·have hf:=MapKept.run_findKey (P:=P) (w:=w) (kt:=k) h2 g2
  rw[J4]at hf
  have hj:es[j]?=some e':=by simpa using g3
  refine⟨es.modify j fun e=>{e with key:= .string s,val:=v},clk,?_,?_⟩
  ·have hst:=MapKept.run_keyThatStays (P:=P) (w:=w) (d:= .string) (k:= .string s) trivial
   simp[Instr.mapUpdate,run_underlying h1,MapKept.run_getObj_map hb,hck,hf,MapKept.run_setObj_map _ hb,Result.andThen,hj,g4,hst]
  ·simpa using g5 v
theorem Rel.hset {S:Bs}{w0 w:World}{β:Vl}{M:Mem}(h:Rel S w0 β M w){b:Nat}{o o':Obj}(hb:w.heap[b]?=some o)(hw:¬Wrt β M b)(hc:∀c el mk,o≠ .cells c el mk)(hS:S.s b->w0.heap.size<=b):Rel S w0 β M {w with heap:=w.heap.setIfInBounds b o'}:=by
 have hoth:∀k,k≠b->(w.heap.setIfInBounds b o')[k]?=w.heap[k]?:=fun k hk=>by simp[Ne.symm hk]
 refine⟨⟨h.fr.os,h.fr.tape,h.fr.output,by simpa using h.fr.size,fun k hk hlt=>?_⟩,⟨fun β' hag n c hn=>?_,fun n c hn hu=>by simpa using h.mem.there n c hn hu,h.mem.apart⟩,h.own,h.pin⟩
 ·show(w.heap.setIfInBounds b o')[k]?=_
  rw[hoth k (fun hh=>by subst hh;have:=hS hk;omega)]
  exact h.fr.old k hk hlt
 ·have hold:=h.mem.ok β' hag n c hn
  have hbn:β' n=β n:=hag n (by simp[hn])
  cases hu:(β n).nul with
  |true=>
   unfold BkOk at hold⊢
   rw[if_pos (by rw[hbn];exact hu)]at hold⊢
   exact hold
  |false=>
   by_cases hk:(β n).blk=b
   ·-- its block is the map's:then nothing is said of it
    by_cases hr:c.ro=false
    ·exact absurd ⟨n,c,hn,hr,hu,hk.symm⟩ hw
    ·have hr:c.ro=true:=by simpa using hr
     by_cases hcs:c.cells=[]
     ·unfold BkOk
      rw[if_neg (by rw[hbn];simp[hu]),if_pos hr,hcs]
      exact⟨fun j v hj=>by simp at hj,z9⟩
     ·unfold BkOk at hold
      rw[if_neg (by rw[hbn];simp[hu]),if_pos hr,hbn]at hold
      obtain⟨x,r,hx⟩:=List.exists_cons_of_ne_nil hcs
      have:=hold.1 0 (x.g β') (by rw[hx];rfl)
      rw[hk]at this
      simp only[World.cell?,hb]at this
      cases o with
      |cells cc el mk=>exact absurd rfl (hc cc el mk)
      |_=>simp at this
   ·exact hold.same (by rw[hbn];exact hoth _ hk)
theorem Rel.push {S:Bs}{w0 w:World}{β:Vl}{M:Mem}(h:Rel S w0 β M w)(o:Obj):Rel S w0 β M (w.alloc o):=by
 have hold:∀k,k<w.heap.size->(w.alloc o).heap[k]?=w.heap[k]?:=fun k hk=>Below.heap_alloc w o k hk
 refine⟨⟨h.fr.os,h.fr.tape,h.fr.output,IE h.fr.size z9,fun k hk hlt=>?_⟩,⟨fun β' hag n c hn=>?_,fun n c hn hu=>J1 (h.mem.there n c hn hu) z9,h.mem.apart⟩,h.own,h.pin⟩
 ·rw[hold k (J1 hlt h.fr.size)];exact h.fr.old k hk hlt
 ·have hk:=h.mem.ok β' hag n c hn
  have hbn:β' n=β n:=hag n (by simp[hn])
  cases hu:(β n).nul with
  |true=>
   unfold BkOk at hk⊢
   rw[if_pos (by rw[hbn];exact hu)]at hk⊢
   exact hk
  |false=>exact hk.same (by rw[hbn];exact hold _ (h.mem.there n c hn hu))
section
variable {P:Program} {nt:Nat} {C Ck:Cx} {rg:Array Oper} {o:Oper} {l:List Oper} {r:List It} {e:Env} {M:Mem}
theorem Sm.makeMap {t:TypeId}(hL:Lf C Ck)(hg:gd rg e o=some true)(hd:yy nt o.dst=true)(ho:o.op= .makeMap t none)
  (k:∀b Cn,Lf C Cn->Ck.hp.le Cn.hp->C.w0.heap.size<=b->Ck.w0.heap.size<=b->MpB Cn.hp b []->Sm P nt Cn (.ops rg l::r) (e.put o.dst true (.c (.v (.map (some b))))) M):Sm P nt Ck (.ops rg (o::l)::r) e M:=fun β a w h1 h2 h3 h4=>by
 have hw:Region.wanted o (yielded rg a.tmps)=true:=tV (β:=β) hg (fun j want t y _ _ hy=>h2 β (Agree.refl _ _) t y hy)
 show wpListIn (tj Ck.lp) 0 P rg (xO P Ck.lp Ck.Q r) (o::l) a w
 refine wpListIn_step fun K hK=>?_
 rw[hw]
 simp only[if_true]
 refine yw Ck.lp (tW hg).1 ?_
 unfold Oper.wp execOp
 have hrun:=run_makeMap (P:=P) t w
 simp only[ho,Option.map_none,Sem.run_bind,hrun,Result.andThen_ok,Sem.run_pure]
 show K _ _
 have hp:=h1.push (.map #[] 0)
 obtain⟨l1,l2⟩:=hL.at hp (s:=fun b=>¬Wrt β M b) (fun b hb=>Jg.1 hb)
 have hq:=hp.at hL (s:=fun b=>¬Wrt β M b) (fun b hb hn=>hn hb) hp.mem (fun n l hl=>(hp.pin n l (by rw[hL.pin];exact hl)).1)
 have hsz:C.w0.heap.size<=w.heap.size:=IE hL.sz h1.fr.size
 refine hK _ _ ?_
 rw[hL.q,hL.lp]
 refine k w.heap.size _ l1 l2 hsz h1.fr.size ⟨#[],0,⟨?_,?_,?_⟩,rfl⟩ β _ _ hq ?_ ?_ ?_
 ·rintro⟨n,c,q1,q2,q3,q4⟩
  have:=h1.mem.there n c q1 q3
  omega
 ·intro hz
  have:=(hL.zok _ hz).2
  omega
 ·show(w.heap.push _)[w.heap.size]?=_
  simp
 ·exact h2.put (N:=[]) (Agree.refl _ _) h3 (wn hd) (fun β'' _=>rfl)
 ·cases o.dst<;>simp[Act.put,h3]
 ·have h4:=h4.trans hL.df
  cases o.dst<;>simp[Act.put,h4,Cx.at]
theorem vz {t tk te:TypeId}{m x y:Operand}{b:Nat}{al:Al}{s:ByteArray}{v:V}{u:Value}(hL:Lf C Ck)(hg:gd rg e o=some true)(hd:o.dst=none)(ho:o.op= .mapUpdate t m x y)(ht:jJ P t=some (tk,te))
  (hm:rd e m=some (true,.c (.v (.map (some b))))) (hx:rd e x=some (true,.c (.v (.string s)))) (hy:rd e y=some (true,v)) (hv:∀β,v.g β=u) (hb:MpB Ck.hp b al) (hf:C.w0.heap.size<=b)
  (k:∀Cn,Lf C Cn->(∀b' o,b'≠b->Ck.hp b' o->Cn.hp b' o)->MpB Cn.hp b (uU al s u)->Sm P nt Cn (.ops rg l::r) e M):Sm P nt Ck (.ops rg (o::l)::r) e M:=fun β a w h1 h2 h3 h4=>by
 have hw:Region.wanted o (yielded rg a.tmps)=true:=tV (β:=β) hg (fun j want t y _ _ hy=>h2 β (Agree.refl _ _) t y hy)
 show wpListIn (tj Ck.lp) 0 P rg (xO P Ck.lp Ck.Q r) (o::l) a w
 refine wpListIn_step fun K hK=>?_
 rw[hw]
 simp only[if_true]
 refine yw Ck.lp (tW hg).1 ?_
 obtain⟨es,clk,q1,q2⟩:=hb
 have hbw:=zy h1 q1
 have hnw:=yJ h1 q1
 have em:=wY h2 (Agree.refl _ _) hm
 have ex:=wY h2 (Agree.refl _ _) hx
 have ey:=wY h2 (Agree.refl _ _) hy
 simp only[gv,V.g,Cv.g,cond_true]at em ex
 simp only[gv,cond_true,hv]at ey
 obtain⟨es',clk',hrun,hes⟩:=rk ht hbw q2 s u
 unfold Oper.wp execOp
 simp only[ho,em,ex,ey,Sem.run_bind,hrun,Result.andThen_ok,Sem.run_pure]
 show K _ _
 have hrelC:Rel C.S C.w0 β M w:=hL.rel h1
 -- the world behind,seen from the first view
 have hp:Rel C.S C.w0 β M {w with heap:=w.heap.setIfInBounds b (.map es' clk')}:=hrelC.hset hbw hnw (by intro c el mk hh;cases hh) (fun _=>hf)
 have hLC:Lf C C:=Lf.refl hL.zok
 obtain⟨l1,l2⟩:=hLC.at hp (s:=fun b=>¬Wrt β M b) (fun b hb=>Jg.1 hb)
 have hq:=hp.at hLC (s:=fun b=>¬Wrt β M b) (fun b hb hn=>hn hb) hp.mem (fun n l hl=>(hp.pin n l hl).1)
 have hlt:b<w.heap.size:=(Jz.1 hbw).1
 have hput:∀u,a.put o.dst u=a:=fun u=>by rw[hd];rfl
 rw[hput]
 have:=hK a {w with heap:=w.heap.setIfInBounds b (.map es' clk')} ?_
 ·simpa[hput]using this
 rw[hL.q,hL.lp]
 refine k _ l1 (fun b' o' hne ho'=>⟨yJ h1 ho',?_,?_⟩) ⟨es',clk',⟨hnw,?_,?_⟩,hes⟩ β a _ hq h2 h3 (h4.trans hL.df)
 ·have:=ho'.2.1
  rw[hL.z]at this;exact this
 ·show(w.heap.setIfInBounds b _)[b']?=_
  rw[IU (Ne.symm hne)]
  exact zy h1 ho'
 ·intro hz
  have:=(hL.zok _ hz).2
  omega
 ·show(w.heap.setIfInBounds b _)[b]?=_
  simp[hlt]
end
theorem StpC.lookup {P:Program}{C:Cx}{o:Oper}{e:Env}{M:Mem}{t tk te:TypeId}{m x:Operand}{b:Nat}{al:Al}{s:ByteArray}{z:Value}{v:V}{ok:Bool}(ho:o.op= .lookup t m x ok)(ht:jJ P t=some (tk,te))(hz:bB P te=some z)
  (hm:rd e m=some (true,.c (.v (.map (some b))))) (hx:rd e x=some (true,.c (.v (.string s)))) (hb:MpB C.hp b al)
  (hv:∀β,v.g β=if ok then .tuple #[(w9 al s).getD z,.bool (w9 al s).isSome]else(w9 al s).getD z):StpC P C.S C.w0 o e M v []:=by
 intro β M' a w _ _ hrel hop K Q hk
 obtain⟨es,clk,q1,q2⟩:=hb
 have hbw:=zy hrel q1
 have em:=hop β (Agree.refl _ _) m (by simp[ho,Op.operands]) _ hm
 have ex:=hop β (Agree.refl _ _) x (by simp[ho,Op.operands]) _ hx
 simp only[gv,V.g,Cv.g,cond_true]at em ex
 have hrun:=mf ht hz hbw q2 s ok
 unfold Oper.wp execOp
 simp only[ho,em,ex,Sem.run_bind,hrun,Result.andThen_ok,Sem.run_pure]
 exact hk β _ w (Agree.refl _ _) hrel (fun β'' _=>(hv β'').symm)
end Vg
namespace Vg
open Go.RowKit
theorem Lf.as {C Ck D:Cx}(hL:Lf C Ck)(hs:D.S.s=C.S.s)(hz:D.S.z=C.S.z)(hw:D.w0=C.w0):Lf D (D.at Ck.S.s Ck.w0):=by
 refine⟨rfl,rfl,rfl,rfl,rfl,fun b hb=>?_,?_,fun w h=>?_,fun b h1 h2=>?_⟩
 ·rw[hs,hw];exact hL.zok b (by rw[<-hz];exact hb)
 ·rw[hw];exact hL.sz
 ·rw[hs,hw];exact hL.fr w h
 ·rw[hw];rw[hs]at h2;exact hL.own b h1 h2
theorem pT {C Ck D:Cx}(hL:Lf C Ck)(hz:D.S.z=C.S.z):Ck.hp.le (D.at Ck.S.s Ck.w0).hp:=fun b o h=>⟨h.1,by
 have:=h.2.1
 rw[hL.z]at this
 show ¬D.S.z b
 rw[hz];exact this,h.2.2⟩
def Cx.inn (C:Cx)(β:Vl)(M:Mem)(Q:Exit->Act->World->Prop)(lp:Option Nat):Cx:=⟨⟨C.S.s,fun n=>if (M.get n).isSome=true then some (β n)else none,C.S.z⟩,C.w0,Q,lp,[]⟩
theorem sO {C:Cx}{β:Vl}{M:Mem}{Q:Exit->Act->World->Prop}{lp:Option Nat}{n:Nat}{l:Loc}(h:(C.inn β M Q lp).S.pin n=some l):(M.get n).isSome=true/\β n=l:=by
 by_cases hh:(M.get n).isSome=true
 ·simp only[Cx.inn,hh,if_true,Ji]at h
  exact⟨hh,h⟩
 ·simp[Cx.inn,hh]at h
theorem dT {C:Cx}{β:Vl}{M:Mem}{Q:Exit->Act->World->Prop}{lp:Option Nat}{n:Nat}(h:(M.get n).isSome=true):(C.inn β M Q lp).S.pin n=some (β n):=by simp[Cx.inn,h]
theorem Rel.inn {C Ck:Cx}{β:Vl}{M:Mem}{w:World}(h:Rel Ck.S Ck.w0 β M w)(Q:Exit->Act->World->Prop)(lp:Option Nat):Rel ((C.inn β M Q lp).at Ck.S.s Ck.w0).S ((C.inn β M Q lp).at Ck.S.s Ck.w0).w0 β M w:=
 ⟨h.fr,h.mem,h.own,fun n l hl=>by obtain⟨h1,h2⟩:=sO (C:=C) (Q:=Q) (lp:=lp) hl;exact⟨h1,h2⟩⟩
theorem Lf.pinned {D Dn:Cx}{C:Cx}{β β':Vl}{M M':Mem}{Q:Exit->Act->World->Prop}{lp:Option Nat}{w:World}(hD:D=C.inn β M Q lp)(h:Lf D Dn)(hr:Rel Dn.S Dn.w0 β' M' w):∀n,(M.get n).isSome=true->(M'.get n).isSome=true/\β' n=β n:=by
 subst hD
 intro n hn
 exact hr.pin n (β n) (by rw[h.pin];exact dT hn)
theorem EnvOk.on {β β':Vl}{M M':Mem}{e:Env}{a:Act}(h:EnvOk β M e a)(hp:∀n,(M.get n).isSome=true->(M'.get n).isSome=true/\β' n=β n):EnvOk β' M' e a:=fun β'' hag t x hx=>h β'' (fun n hn=>(hag n (hp n hn).1).trans (hp n hn).2) t x hx
def mq (fn:FuncId)(T:Array Value)(ps:Array Tmp)(assign body:Code)(dB:Nat)(st:LoopState)(pe:Option Code):Loop:={state:=st,pending:=pe,fn,tmps:=T,params:=ps,assign,body,defers:=dB}
structure RgOk (P:Program) (nt:Nat) (C D:Cx) (M:Mem) (e:Env) (ps:Array Tmp) (assign body:Code) (l:Nat) (rc:LoopState->Option Code->Loop):Prop where
 ex:∃(β:Vl) (T:Array Value) (Q:Exit->Act->World->Prop) (fn:FuncId) (dB:Nat),D=C.inn β M Q none/\EnvOk β M e ⟨T,[]⟩/\T.size=nt/\rc=mq fn T ps assign body dB
 fresh:D.w0.heap.size<=l
def Cx.mark (C:Cx)(dB:Nat):Cx:=⟨C.S,C.w0,C.Q,C.lp,{target:= .collected dB,args:= #[]}::C.df⟩
theorem Lf.mark {C Ck:Cx}(h:Lf C Ck)(dB:Nat):Lf (C.mark dB) (Ck.mark dB):=⟨h.q,h.pin,h.lp,by show _::_=_::_;rw[h.df],h.z,h.zok,h.sz,h.fr,h.own⟩
theorem pF {S:Bs}{w0 w:World}{β:Vl}{M:Mem}(h:Rel S w0 β M w){b:Nat}{o o':Obj}(hb:w.heap[b]?=some o)(hw:¬Wrt β M b)(hc:∀c el mk,o≠ .cells c el mk)(hS:S.s b->w0.heap.size<=b):Rel S w0 β M (w.putObj b o'):=h.hset hb hw hc hS
theorem Yi {D Dn:Cx}{β:Vl}{M:Mem}{w:World}{b:Nat}{o o':Obj}(hL:Lf D Dn)(hr:Rel Dn.S Dn.w0 β M w)(hb:Dn.hp b o)(hc:∀c el mk,o≠ .cells c el mk)(hf:D.w0.heap.size<=b):
  ∃s,Lf D (D.at s (w.putObj b o'))/\Rel (D.at s (w.putObj b o')).S (D.at s (w.putObj b o')).w0 β M (w.putObj b o')/\(∀b' x,b'≠b->Dn.hp b' x->(D.at s (w.putObj b o')).hp b' x)/\(D.at s (w.putObj b o')).hp b o':=by
 have hbw:=zy hr hb
 have hnw:=yJ hr hb
 have hp:Rel D.S D.w0 β M (w.putObj b o'):=pF (hL.rel hr) hbw hnw hc (fun _=>hf)
 have hLD:Lf D D:=Lf.refl hL.zok
 obtain⟨l1,l2⟩:=hLD.at hp (s:=fun b=>¬Wrt β M b) (fun b hb=>Jg.1 hb)
 have hq:=hp.at hLD (s:=fun b=>¬Wrt β M b) (fun b hb hn=>hn hb) hp.mem (fun n l hl=>(hp.pin n l hl).1)
 have hlt:b<w.heap.size:=(Jz.1 hbw).1
 refine⟨_,l1,hq,fun b' x hne hx=>⟨yJ hr hx,?_,?_⟩,hnw,?_,?_⟩
 ·have:=hx.2.1
  rw[hL.z]at this;exact this
 ·show(w.putObj b o').heap[b']?=_
  rw[World.putObj_heap_other hne];exact zy hr hx
 ·intro hz
  have:=(hL.zok _ hz).2
  omega
 ·exact World.putObj_heap_same hlt
theorem Sm.range {P:Program}{nt:Nat}{C Ck:Cx}{r:List It}{e:Env}{M:Mem}{g:Operand}{ps:Array Tmp}{assign body:Code}{gf:FuncId}{gfn:Func}{gbody:Code}{caps:Array Value}(nx:Nat)(hL:Lf C Ck)(hlp:C.lp=none)(hg:rd e g=some (true,.c (.v (.func (.func gf) #[] caps))))
  (hf:P.funcs[gf]?=some gfn) (hb:gfn.body=some gbody) (hent:Enters P gf) (hnt:caps.size+1<=gfn.ntmps)
  (h:∀D Dk l dB rc,Lf D Dk->Ck.hp.le Dk.hp->D.w0.heap.size=C.w0.heap.size->Dk.hp l (.loop (rc .ready none))->Dk.hp dB (.deferred (some []))->C.w0.heap.size<=dB->l≠dB->(∀b o,Ck.hp b o->b≠l/\b≠dB)->RgOk P nt C D M e ps assign body l rc->
   (∀Dn,Lf D Dn->Dn.hp l (.loop (rc .ready none))->∀e2 M2,(∀Cn,Lf (C.mark dB) Cn->(∀b o,b≠l->Dn.hp b o->Cn.hp b o)->Sm P nt Cn r e M2)->(∃sc v,sA P e2 M2 gfn.results.toList=some (sc,v)/\sc)->RetQ Dn e2 M2)->
   (∀Dn,Lf D Dn->Mx Dn)->Pins D.S M->run P gfn.ntmps Dk 1000 [.code gbody] (wB 0 (.c (.v (.func (.yield l) #[] #[]))::caps.toList.map v9)) M nx):
  Sm P nt Ck (.code (.rangeFunc g ps assign body)::r) e M:=fun β a w h1 h2 h3 h4=>by
 have hlpk:Ck.lp=none:=hL.lp.trans hlp
 show(Code.rangeFunc g ps assign body).wpIn (tj Ck.lp) 0 P (xO P Ck.lp Ck.Q r) a w
 rw[hlpk]
 refine wpIn_rangeFunc (F:=tj none) ?_
 intro fn _
 have hge:a.eval g= .func (.func gf) #[] caps:=by
  have:=wY h2 (Agree.refl _ _) hg
  simpa[gv,V.g,Cv.g]using this
 obtain⟨rc,hrc⟩:∃rc,rc=mq fn a.tmps ps assign body w.heap.size:=⟨_,rfl⟩
 let W:World:=(w.alloc (.deferred (some []))).alloc (.loop (rc .ready none))
 have hel:=run_enterLoop_outer (P:=P) (w:=w) fn a.tmps ps assign body
 have hl0:W.heap[w.heap.size+1]?=some (.loop (rc .ready none)):=by
  have:=World.alloc_heap_new (w.alloc (.deferred (some []))) (.loop (rc .ready none))
  rwa [World.size_alloc]at this
 have hd0:W.heap[w.heap.size]?=some (.deferred (some [])):=(Below.heap_alloc _ _ _ z9).trans (World.alloc_heap_new w _)
 refine⟨w.heap.size+1,[{target:= .collected w.heap.size,args:= #[]}],W,{target:= .fn (.func gf) caps,args:= #[.func (.yield (w.heap.size+1)) #[] #[]]},W,gf,#[.func (.yield (w.heap.size+1)) #[] #[]]++caps,W,?_,?_,fun _ _=>trivial,?_,fun hh=>(by cases hh),callsIn_wide.2 ?_⟩
 ·show(Instr.enterLoop fn a.tmps ps assign body none).run P w=_
  rw[hel]
  show _=Result.ok _ ((w.alloc (.deferred (some []))).alloc (.loop (rc .ready none)))
  rw[hrc];rfl
 ·have hr0:resolve a.eval (rangeCall g (w.heap.size+1)) 0=Pure.pure {target:= .fn (.func gf) caps,args:= #[.func (.yield (w.heap.size+1)) #[] #[]]}:=by
   simp[rangeCall,resolve,hge,Deferred.ofValue]
   rfl
  rw[hr0];rfl
 ·simp only[invoke]
  exact hent _ _
 -- the iterator's activation
 have hrW:Rel Ck.S Ck.w0 β M W:=(h1.push _).push _
 have hsz:C.w0.heap.size<=w.heap.size:=IE hL.sz h1.fr.size
 have hthere:∀b,Wrt β M b->b<w.heap.size:=by
  rintro b ⟨n,c,q1,q2,q3,rfl⟩;exact h1.mem.there n c q1 q3
 obtain⟨m1,m2⟩:=hL.at hrW (s:=fun b=>¬Wrt β M b) (fun b hb=>Jg.1 hb)
 have m3:=hrW.at hL (s:=fun b=>¬Wrt β M b) (fun b hb hn=>hn hb) hrW.mem (fun n l hl=>(hrW.pin n l (by rw[hL.pin];exact hl)).1)
 refine calls_of_wp hf hb ?_
 let R:Ending->World->Prop:=rangePost (tj none) 0 P (w.heap.size+1) (xO P none Ck.Q r) {a with defers:=[{target:= .collected w.heap.size,args:= #[]}]++a.defers}
 let D:Cx:=C.inn β M (bodyPost P gfn R) none
 let Dk:Cx:=D.at (fun b=>¬Wrt β M b) W
 have hDk:Lf D Dk:=m1.as rfl rfl rfl
 have hle:Ck.hp.le Dk.hp:=m2.trans (pT m1 rfl)
 have hnz:∀b,w.heap.size<=b->¬C.S.z b:=fun b hb hz=>by have:=(hL.zok _ hz).2;omega
 have hlk:Dk.hp (w.heap.size+1) (.loop (rc .ready none)):=⟨fun hw=>by have:=hthere _ hw;omega,hnz _ zA,hl0⟩
 have hdk:Dk.hp w.heap.size (.deferred (some [])):=⟨fun hw=>by have:=hthere _ hw;omega,hnz _ zA,hd0⟩
 have hrg:RgOk P nt C D M e ps assign body (w.heap.size+1) rc:=⟨⟨β,a.tmps,_,fn,w.heap.size,rfl,h2,h3,hrc⟩,by show C.w0.heap.size<=_;omega⟩
 have hfin:∀Dn,Lf D Dn->Dn.hp (w.heap.size+1) (.loop (rc .ready none))->∀e2 M2,(∀Cn,Lf (C.mark w.heap.size) Cn->(∀b o,b≠w.heap.size+1->Dn.hp b o->Cn.hp b o)->Sm P nt Cn r e M2)->(∃sc v,sA P e2 M2 gfn.results.toList=some (sc,v)/\sc)->RetQ Dn e2 M2:=by
  rintro Dn hDn hl e2 M2 hS ⟨sc,v,hres,hs⟩ β' a' w' hrel hen hdf
  have hrun:=uh hrel hen hres hs
  have hag:=Lf.pinned (C:=C) rfl hDn hrel
  rw[hDn.q]
  have hlw:=zy hrel hl
  have hend:=run_endLoop (P:=P) hlw (by rw[hrc];simp[mq])
  have hpe:(rc .ready none).pending=none:=by rw[hrc];rfl
  have hex:({rc .ready none with state:= .exhausted}:Loop)=rc .exhausted none:=by rw[hrc];rfl
  rw[hex,hpe]at hend
  refine⟨hdf.trans hDn.df,v.g β',hrun,none,_,hend,?_⟩
  obtain⟨s,t1,t2,t3,t4⟩:=Yi (o':= .loop (rc .exhausted none)) hDn hrel hl (by intro c el mk hh;cases hh) (by show C.w0.heap.size<=_;omega)
  have hb:Lf C (C.at s (w'.putObj (w.heap.size+1) (.loop (rc .exhausted none)))):=t1.as (C:=D) rfl rfl rfl
  have hbm:=hb.mark w.heap.size
  have hgo:=hS _ hbm (fun b o hne ho=>pT (C:=D) (D:=C) t1 rfl b o (t3 b o hne ho)) β' {a with defers:=[{target:= .collected w.heap.size,args:= #[]}]++a.defers} _ ⟨t2.fr,t2.mem,t2.own,fun n l hl=>?_⟩ ?_ h3 ?_
  ·have e1:((C.at s (w'.putObj (w.heap.size+1) (.loop (rc .exhausted none)))).mark w.heap.size).Q=Ck.Q:=hL.q.symm
   have e2:((C.at s (w'.putObj (w.heap.size+1) (.loop (rc .exhausted none)))).mark w.heap.size).lp=none:=hlp
   rw[e1,e2]at hgo
   exact hgo
  ·obtain⟨q1,q2⟩:=h1.pin n l (by rw[hL.pin];exact hl)
   exact⟨(hag n q1).1,(hag n q1).2.trans q2⟩
  ·exact EnvOk.on (a:=a) h2 hag
  ·show _::a.defers=_::C.df
   rw[h4,hL.df]
 have hnor:∀Dn,Lf D Dn->Mx Dn:=fun Dn hDn P' nt' e2 M2 hQ β' a' w' hrel hen _ hdf=>by
  have:=hQ β' a' w' hrel hen hdf
  rw[hDn.q]at this
  show xO P' Dn.lp Dn.Q [] .normal a' w'
  rw[hDn.q]
  exact this
 have hne:∀b o,Ck.hp b o->b≠w.heap.size+1/\b≠w.heap.size:=fun b o hb=>by
  have:=(Jz.1 (zy h1 hb)).1
  omega
 have hR:=yP 1000 _ _ _ nx (h D Dk _ _ rc hDk hle rfl hlk hdk hsz zA hne hrg hfin hnor (fun n l hl=>(sO hl).1))
 refine(wpIn_wide (n:=0)).1 ?_
 refine hR β _ W ⟨m3.fr,m3.mem,m3.own,fun n l hl=>by obtain⟨q1,q2⟩:=sO (C:=C) (Q:=bodyPost P gfn R) (lp:=none) hl;exact⟨q1,q2⟩⟩ ?_ ?_ rfl
 ·intro β' hag t y hy
  obtain⟨_,q2,q3⟩:=tH _ 0 t y hy
  simp only[Nat.sub_zero]at q2
  obtain⟨gg,x⟩:=y
  simp only at q2 q3
  subst q3
  simp only[gv,cond_true]
  cases t with
  |zero=>
   simp at q2;subst q2
   show Array.getD _ 0 undef=_
   rw[Array.append_assoc,II,Array.getElem?_append_left z9]
   rfl
  |succ t=>
   rw[J5,JO]at q2
   cases hc:caps.toList[t]? with
   |none=>rw[hc]at q2;cases q2
   |some c=>
    rw[hc]at q2
    simp at q2
    subst q2
    rw[lW]
    have hlt:t<caps.size:=by simpa using(JW.1 hc).1
    have hcc:caps[t]?=some c:=by simpa using hc
    show Array.getD _ (t+1) undef=_
    rw[Array.append_assoc,II,Array.getElem?_append_right z9,Array.getElem?_append_left (by simp;omega)]
    simp[hcc]
 ·simp;omega
def uk:Env->List (Tmp×V)->Env
 |e,[]=>e
 |e,(p,v)::r=>uk ((p,true,v)::e) r
theorem iN {β:Vl}{M:Mem}{nt:Nat}:∀(L:List (Tmp×V)) (e:Env) (T:Array Value),EnvOk β M e ⟨T,[]⟩->T.size=nt->(∀p∈L,p.1<nt/\ClV M p.2)->
  EnvOk β M (uk e L) ⟨L.foldl (fun T p=>T.setIfInBounds p.1 (p.2.g β)) T,[]⟩/\(L.foldl (fun T p=>T.setIfInBounds p.1 (p.2.g β)) T).size=nt
 |[],e,T,h,hs,_=>⟨h,hs⟩
 |(p,v)::L,e,T,h,hs,hL=>by
  obtain⟨h1,h2⟩:=hL (p,v) z9
  refine iN L _ _ (fun β' hag t x hx=>?_) (by simpa using hs) (fun q hq=>hL q (by simp[hq]))
  simp only[Env.get]at hx
  cases hpt:(p==t)with
  |true=>
   rw[hpt]at hx
   have:p=t:=by simpa using hpt
   subst this
   simp at hx
   subst hx
   simp only at h1 h2
   have hlt:p<T.size:=by rw[hs];exact h1
   simp[gv,hlt,h2 β β' hag]
  |false=>
   rw[hpt]at hx
   have hne:p≠t:=by simpa using hpt
   have:=h β' hag t x hx
   simpa[IU hne]using this
theorem mU {β:Vl}:∀(ps:List Tmp) (xs:List V) (T:Array Value),(ps.zip (xs.map (V.g β))).foldl (fun T p=>T.setIfInBounds p.1 p.2) T=(ps.zip xs).foldl (fun T p=>T.setIfInBounds p.1 (p.2.g β)) T
 |[],xs,T=>by simp
 |p::ps,[],T=>by simp
 |p::ps,x::xs,T=>by simp only[Ky,List.zip_cons_cons,List.foldl_cons];exact mU ps xs _
theorem Sm.yield {P:Program}{nt nt1:Nat}{C D Dn:Cx}{M M1:Mem}{e e1:Env}{ps:Array Tmp}{assign body:Code}{l:Nat}{rc:LoopState->Option Code->Loop}{rg:Array Oper}{o:Oper}{ol:List Oper}{r1:List It}{x:Operand}{as:Array Operand}{tys:Array TypeId}{xs:List V}
  (hrg:RgOk P nt C D M e ps assign body l rc) (hDn:Lf D Dn) (hl:Dn.hp l (.loop (rc .ready none))) (hlp:D.lp=none) (hg:gd rg e1 o=some true) (hd:yy nt1 o.dst=true) (ho:o.op= .call {callee:= .value x,args:=as,argTypes:=tys}) (hx:rd e1 x=some (true,.c (.v (.func (.yield l) #[] #[]))))
  (hvs:as.toList.map (rd e1)=xs.map fun x=>some (true,x)) (hsz:xs.length=ps.size) (hps:ps.all (fun p=>decide (p<nt))=true) (hcl:∀x∈xs,ClV M1 x)
  (h:∀(B Bk:Cx) (J:Act->World->Prop),Lf B Bk->B.w0.heap.size=D.w0.heap.size->Pins B.S M1->Dn.hp.le Bk.hp->
   (∀Bn e2 M2,Lf B Bn->Bn.hp l (.loop (rc .ready none))->
    (∀(B2 B2k:Cx),Lf B2 B2k->B2.w0.heap.size=D.w0.heap.size->Pins B2.S M1->(∀b o,b≠l->Bn.hp b o->B2k.hp b o)->B2k.hp l (.loop (rc .busy none))->
     (∀B2n e3 M3,Lf B2 B2n->B2n.hp l (.loop (rc .busy none))->(∀Dm,Lf D Dm->(∀b o,b≠l->B2n.hp b o->Dm.hp b o)->Dm.hp l (.loop (rc .ready none))->Sm P nt1 Dm (.ops rg ol::r1) (e1.put o.dst true (.c (.v (.bool true)))) M3)->Sm P nt B2n [] e3 M3)->
     Sm P nt B2k [.code body] e2 M2)->
    Sm P nt Bn [.stop J] e2 M2)->
   Sm P nt Bk [.code assign,.stop J] (uk e (ps.toList.zip xs)) M1):
  Sm P nt1 Dn (.ops rg (o::ol)::r1) e1 M1:=fun β a w h1 h2 h3 h4=>by
 have hw:Region.wanted o (yielded rg a.tmps)=true:=tV (β:=β) hg (fun j want t y _ _ hy=>h2 β (Agree.refl _ _) t y hy)
 have hlpn:Dn.lp=none:=hDn.lp.trans hlp
 show wpListIn (tj Dn.lp) 0 P rg (xO P Dn.lp Dn.Q r1) (o::ol) a w
 rw[hlpn]
 refine wpListIn_step fun K hK=>?_
 rw[hw]
 simp only[if_true]
 obtain⟨β0,T,Q,fn,dB,hD,hen,hT,hrc⟩:=hrg.ex
 have hfresh:=hrg.fresh
 have hpin:=Lf.pinned hD hDn h1
 have hargs:=pk ho hvs (fun y _ z hz=>wY h2 (Agree.refl _ _) hz)
 have hxe:a.eval x= .func (.yield l) #[] #[]:=by
  have:=wY h2 (Agree.refl _ _) hx
  simpa[gv,V.g,Cv.g]using this
 have hlw:=zy h1 hl
 have hy:=run_yield (P:=P) (args:=(xs.map (V.g β)).toArray) hlw (by rw[hrc];simp[mq,hsz])
 have hfold:((rc .ready none).params.zip (xs.map (V.g β)).toArray).foldl (fun tmps (t,a)=>tmps.setIfInBounds t a) (rc .ready none).tmps=(ps.toList.zip xs).foldl (fun T p=>T.setIfInBounds p.1 (p.2.g β)) T:=by
  rw[<-mU,<-Array.foldl_toList,hrc]
  simp[mq]
 rw[hfold]at hy
 have hsem:(o.semAt none a.eval).run P w= .ok (.round l (rc .ready none).fn ((ps.toList.zip xs).foldl (fun T p=>T.setIfInBounds p.1 (p.2.g β)) T) (rc .ready none).assign (rc .ready none).body) w:=by
  rw[Oper.semAt_none]
  unfold execOp
  simp only[ho,resolve,hxe,Deferred.ofValue,invoke,hargs,Sem.run_bind,Sem.run_pure,Result.andThen_ok,Array.append_empty]
  simpa using hy
 refine⟨fun _ _=>trivial,?_⟩
 show o.uponIn (tj none) 0 P a K _ ((o.semAt none a.eval).run P w)
 rw[hsem,Oper.uponIn_round]
 refine⟨fun hh=>(by cases hh),?_⟩
 have ha0:(rc .ready none).assign=assign:=by rw[hrc];rfl
 have hb0:(rc .ready none).body=body:=by rw[hrc];rfl
 rw[ha0,hb0]
 refine roundIn_of_wpIn (F:=tj none) trivial ?_
 -- the round's activation
 have henv:=iN (ps.toList.zip xs) e T (hen.on hpin:EnvOk β M1 e ⟨T,[]⟩) hT (fun p hp=>by
  obtain⟨q1,q2⟩:=List.of_mem_zip (show(p.1,p.2)∈_ from hp)
  refine⟨?_,hcl p.2 q2⟩
  rw[I4]at hps
  simpa using hps p.1 (by simpa using q1))
 let R:Ending->World->Prop:=fun
  | .returned v,w''=>K (a.put o.dst v) w''
  | .panicked chain,w''=>xO P none Dn.Q r1 (.panic chain) a w''
  | .outgrown,_=>LetsOut (xO P none Dn.Q r1)
 let J:Act->World->Prop:=fun a₁ w₁=>∃w₂,(Instr.beginRound l).run P w₁= .ok () w₂/\body.wpIn ((tj none).inRound l) 0 P (roundPost P l R) a₁ w₂
 let B:Cx:=D.inn β M1 (fun _ _ _=>False) (some l)
 let B2:Cx:=D.inn β M1 (roundPost P l R) (some l)
 have hBk:Lf B (B.at Dn.S.s Dn.w0):=hDn.as rfl rfl rfl
 have hass:=h B (B.at Dn.S.s Dn.w0) J hBk rfl (fun n l hl=>(sO hl).1) (pT hDn rfl) (fun Bn e2 M2 hBn hln hbody=>Sm.stop fun β2 a2 w2 k1 k2 k3 k4=>?_) β _ w (h1.inn _ _) henv.1 henv.2 rfl
 ·refine wpIn_mono (show assign.wpIn (tj (some l)) 0 P (xO P (some l) (fun _ _ _=>False) [.stop J]) _ w from hass) ?_
  intro e a w hq
  cases e<;>exact hq
 ·-- the round begins
  have hlw2:=zy k1 hln
  have hbeg:=run_beginRound (P:=P) hlw2 (by rw[hrc];rfl)
  obtain⟨s,t1,t2,t3,t4⟩:=Yi (o':= .loop {rc .ready none with state:= .busy}) hBn k1 hln (by intro c el mk hh;cases hh) hfresh
  have hbusy:({rc .ready none with state:= .busy}:Loop)=rc .busy none:=by rw[hrc];rfl
  rw[hbusy]at hbeg t1 t2 t3 t4
  refine⟨_,hbeg,?_⟩
  have hB2:Lf B2 (B2.at s (w2.putObj l (.loop (rc .busy none)))):=t1.as (C:=B) rfl rfl rfl
  have hgo:=hbody B2 (B2.at s (w2.putObj l (.loop (rc .busy none)))) hB2 rfl (fun n l hl=>(sO hl).1) (fun b o hne ho=>pT (C:=B) (D:=B2) t1 rfl b o (t3 b o hne ho)) (pT (C:=B) (D:=B2) t1 rfl _ _ t4) (fun B2n e3 M3 hB2n hl3 hS=>?_) β2 a2 _ ⟨t2.fr,t2.mem,t2.own,t2.pin⟩ k2 k3 (k4.trans hBn.df)
  ·exact hgo
  ·-- and ends
   intro β3 a3 w3 q1 q2 q3 q4
   show xO P B2n.lp B2n.Q [] .normal a3 w3
   rw[hB2n.q]
   have hlw3:=zy q1 hl3
   have hend:=run_endRound (P:=P) none hlw3
   have hready:({rc .busy none with state:=if (none:Option Code).isNone then .ready else .done,pending:=none}:Loop)=rc .ready none:=by rw[hrc];rfl
   rw[hready]at hend
   refine⟨_,_,hend,?_⟩
   show K (a.put o.dst (.bool true)) _
   obtain⟨s3,u1,u2,u3,u4⟩:=Yi (o':= .loop (rc .ready none)) hB2n q1 hl3 (by intro c el mk hh;cases hh) hfresh
   have hDm:Lf D (D.at s3 (w3.putObj l (.loop (rc .ready none)))):=u1.as (C:=B2) rfl rfl rfl
   have hpin3:=Lf.pinned (C:=D) (D:=B2) rfl hB2n q1
   refine hK _ _ ?_
   have hgo2:=hS _ hDm (fun b o hne ho=>pT (C:=B2) (D:=D) u1 rfl b o (u3 b o hne ho)) (pT (C:=B2) (D:=D) u1 rfl _ _ u4) β3 (a.put o.dst (.bool true)) _ ⟨u2.fr,u2.mem,u2.own,fun n loc hn=>?_⟩ ?_ ?_ ?_
   ·have e1:(D.at s3 (w3.putObj l (.loop (rc .ready none)))).Q=Dn.Q:=hDn.q.symm
    have e2:(D.at s3 (w3.putObj l (.loop (rc .ready none)))).lp=none:=hlp
    have hgo3:xO P (D.at s3 (w3.putObj l (.loop (rc .ready none)))).lp (D.at s3 (w3.putObj l (.loop (rc .ready none)))).Q (.ops rg ol::r1) .normal (a.put o.dst (.bool true)) _:=hgo2
    rw[e1,e2]at hgo3
    exact hgo3
   ·obtain⟨z1,z2⟩:=h1.pin n loc (by rw[hDn.pin];exact hn)
    exact⟨(hpin3 n z1).1,(hpin3 n z1).2.trans z2⟩
   ·have:=(h2.on hpin3).put (N:=[]) (Agree.refl _ _) h3 (wn hd) (g:=true) (v:= .c (.v (.bool true))) (u:= .bool true) (fun β'' _=>rfl)
    exact this
   ·cases o.dst<;>simp[Act.put,h3]
   ·have h4:=h4.trans hDn.df
    cases o.dst<;>simp[Act.put,h4,Cx.at]
end Vg
namespace Vg
open Go.RowKit
def Cx.marks (C:Cx):List Nat->Cx
 |[]=>C
 |d::ds=>(C.marks ds).mark d
theorem pL (C:Cx):∀ds,(C.marks ds).S=C.S/\(C.marks ds).w0=C.w0/\(C.marks ds).Q=C.Q/\(C.marks ds).lp=C.lp/\(C.marks ds).df=ds.map (fun d=>({target:= .collected d,args:= #[]}:Deferred))++C.df
 |[]=>⟨rfl,rfl,rfl,rfl,rfl⟩
 |d::ds=>by
  obtain⟨h1,h2,h3,h4,h5⟩:=pL C ds
  exact⟨h1,h2,h3,h4,by show _::(C.marks ds).df=_;rw[h5];rfl⟩
def Hp.wo (H:Hp)(ds:List Nat):Hp:=fun b o=>H b o/\b∉ds
def jS:ResultVar->Bool
 | .tmp _=>true
 |_=>false
theorem mr {P:Program}{fn:Func}(h:fn.results.toList.all jS=true)(tmps:Array Value):∃u,∀w,(results fn tmps).run P w= .ok u w:=by
 have hl:∀l:List ResultVar,l.all jS=true->∃vs:List Value,∀w,(l.mapM (ui tmps)).run P w= .ok vs w:=by
  intro l
  induction l with
  |nil=>intro _;exact⟨[],fun w=>z9⟩
  |cons x l ih=>
   intro hx
   rw[Kw,JB]at hx
   obtain⟨vs,hvs⟩:=ih hx.2
   cases x with
   |tmp t=>exact⟨tmps.getD t undef::vs,fun w=>by rw[List.mapM_cons,Sem.run_bind];simp[ui,hvs]⟩
   |cell a ty=>cases hx.1
 obtain⟨vs,hvs⟩:=hl _ h
 refine⟨if h:vs.toArray.size=1 then vs.toArray[0]else .tuple vs.toArray,fun w=>?_⟩
 rw[pE,Sem.run_bind,Array.mapM_eq_mapM_toList,Sem.run_map,hvs]
 rfl
theorem sL {P:Program}{fn:Func}{tmps:Array Value}{R:Ending->World->Prop}{S:Bs}{w0:World}{β:Vl}{M:Mem}:∀(ds:List Nat) (w:World),ds.Nodup->Rel S w0 β M w->(∀d∈ds,w.heap[d]?=some (.deferred (some []))/\¬Wrt β M d/\w0.heap.size<=d)->
  (∀w',Rel S w0 β M w'->(∀b,b∉ds->w'.heap[b]?=w.heap[b]?)->∃v,(results fn tmps).run P w'= .ok v w'/\R (.returned v) w')->LeavesInM Fence.wide 0 P fn tmps R (ds.map fun d=>({target:= .collected d,args:= #[]}:Deferred)) .returning w
 |[],w,_,hr,_,h=>by
  obtain⟨v,h1,h2⟩:=h w hr (fun _ _=>rfl)
  exact⟨v,h1,h2⟩
 |d::ds,w,hnd,hr,hd,h=>by
  obtain⟨k1,k2,k3⟩:=hd d z9
  rw[I9]at hnd
  refine⟨z9,.inl ⟨d,w.putObj d (.deferred none),rfl,run_takeDeferred k1,?_⟩⟩
  have hr':Rel S w0 β M (w.putObj d (.deferred none)):=pF hr k1 k2 (by intro c el mk hh;cases hh) (fun _=>k3)
  refine sL ds _ hnd.2 hr' (fun x hx=>?_) (fun w' hw' hoth=>h w' hw' (fun b hb=>?_))
  ·obtain⟨q1,q2,q3⟩:=hd x (by simp[hx])
   have hne:x≠d:=fun hh=>hnd.1 (by rw[<-hh];exact hx)
   exact⟨(World.putObj_heap_other hne).trans q1,q2,q3⟩
  ·rw[J3,not_or]at hb
   rw[hoth b hb.2,World.putObj_heap_other hb.1]
theorem sk {H:Hp}{P:Program}{f:FuncId}{fn:Func}{body:Code}{args:List V}{M:Mem}{α:Type}{v:α->V}{N:α->Mem}{Q:α->Hp->Prop}(hf:P.funcs[f]?=some fn)(hb:fn.body=some body)(hent:Enters P f)(hnt:args.length<=fn.ntmps)
  (hNrw:∀x n b,(N x).get n=some b->M.get n=none->b.ro=false) (hU:∀x n b b',(N x).get n=some b->M.get n=some b'->b'.ro=false) (hcl:∀x∈args,ClV M x) (hres:fn.results.toList.all jS=true)
  (h:∀C,C.lp=none->(∀ds x Cn,Lf (C.marks ds) Cn->ds.Nodup->(∀d∈ds,Cn.hp d (.deferred (some []))/\C.w0.heap.size<=d)->Q x (Cn.hp.wo ds)->yr P Cn fn (v x) (N x++M))->Pins C.S M->H.le C.hp->Lf C C->Sm P fn.ntmps C [.code body] (wB 0 args) M):CallX H P f args M v N Q:=by
 refine⟨hent,hNrw,hU,fun β w Z hm hH hZ=>callsIn_wide (n:=0)|>.1 (callsIn_of_wp_marks (F:=Fence.wide) hf hb trivial ?_)⟩
 let R:Ending->World->Prop:=fun en w'=>
  ∃x β' H',Agree M β β'/\(∀β'',Agree (N x++M) β' β''->en= .returned ((v x).g β''))/\MemOk β' (N x++M) w'/\Fr (fun k=>∀n b,M.get n=some b->b.ro=false->(β n).nul=false->k≠(β n).blk) w w'/\
   (∀n,((N x).get n).isSome=true->M.get n=none->(β' n).nul=false->(w.heap.size<=(β' n).blk\/∃k b c,M.get k=some b/\b.ro=false/\(β k).nul=false/\(N x).get k=some c/\¬c.lv/\(β' n).blk=(β k).blk))/\
   (∀b o,H' b o->w'.heap[b]?=some o/\¬Z b/\¬Wrt β' (N x++M) b)/\Q x H'
 let C:Cx:=⟨⟨fun k=>∀n b,M.get n=some b->b.ro=false->(β n).nul=false->k≠(β n).blk,fun n=>if (M.get n).isSome=true then some (β n)else none,Z⟩,w,bodyPostM Fence.wide 0 P fn R,none,[]⟩
 have hs:∀k,¬Wrt β M k->C.S.s k:=fun k hk n b h1 h2 h3 h4=>hk ⟨n,b,h1,h2,h3,h4⟩
 have hL:Lf C C:=Lf.refl fun b hb=>⟨hs b (hZ b hb).2,(hZ b hb).1⟩
 have hret:∀ds x Cn,Lf (C.marks ds) Cn->ds.Nodup->(∀d∈ds,Cn.hp d (.deferred (some []))/\C.w0.heap.size<=d)->Q x (Cn.hp.wo ds)->yr P Cn fn (v x) (N x++M):=by
  intro ds x Cn hLn hnd hds hQ
  obtain⟨e1,e2,e3,e4,e5⟩:=pL C ds
  have hpin:Cn.S.pin=C.S.pin:=by rw[hLn.pin,e1]
  refine⟨fun n l hl=>?_,fun β' a w' u hreln hu hd hrs=>?_,fun a w'=>?_⟩
  ·rw[hpin]at hl
   by_cases hh:(M.get n).isSome=true
   ·rw[zL];cases (N x).get n<;>simp[hh]
   ·simp[C,hh]at hl
  ·rw[hLn.q,e3]
   have hrel':=hLn.rel hreln
   rw[e1,e2]at hrel'
   have hdf:a.defers=ds.map (fun d=>({target:= .collected d,args:= #[]}:Deferred)):=by rw[hd,hLn.df,e5];exact JK _
   show LeavesInM Fence.wide 0 P fn a.tmps R a.defers .returning w'
   rw[hdf]
   obtain⟨u',hu'⟩:=mr (P:=P) hres a.tmps
   have huu:u'=u:=by
    have:=(hu' w').symm.trans hrs
    simpa using this
   refine sL (S:=C.S) (w0:=C.w0) ds w' hnd hrel' (fun d hdd=>⟨zy hreln (hds d hdd).1,yJ hreln (hds d hdd).1,(hds d hdd).2⟩) (fun w2 hrel hoth=>?_)
   refine⟨u',hu' w2,x,β',Cn.hp.wo ds,fun n hn=>?_,fun β'' hag=>by rw[huu,hu β'' hag],hrel.mem,hrel.fr,fun n hn hM hnu=>?_,fun b o hb=>⟨(hoth b hb.2).trans (zy hreln hb.1),?_,yJ hreln hb.1⟩,hQ⟩
   ·exact(hrel.pin n (β n) (if_pos hn)).2
   ·obtain⟨b,hb⟩:=JE.1 hn
    have hg:(N x++M:Mem).get n=some b:=by rw[zL,hb];rfl
    by_cases hS:C.S.s (β' n).blk
    ·exact .inl (hrel.own n b hg (hNrw x n b hb hM) hnu hS)
    ·right
     have hS':∃m c,M.get m=some c/\c.ro=false/\(β m).nul=false/\(β' n).blk=(β m).blk:=by
      refine Jl fun hno=>hS fun m c hm hr hum hh=>hno ⟨m,c,hm,hr,hum,hh⟩
     obtain⟨m,c,hm,hr,hum,hh⟩:=hS'
     have hm':((N x++M:Mem).get m).isSome=true:=by rw[zL];cases (N x).get m<;>simp[hm]
     obtain⟨d,hd'⟩:=JE.1 hm'
     have hp:=(hrel.pin m (β m) (if_pos (by simp[hm]))).2
     have hne:n≠m:=by
      rintro rfl
      rw[hM]at hm;cases hm
     have hlv:¬d.lv:=fun hlv=>hrel.mem.apart n m b d hg hd' hne (hNrw x n b hb hM) hlv hnu (by rw[hp];exact hum) (by rw[hp];exact hh)
     have hNm:(N x).get m=some d:=by
      rw[zL]at hd'
      cases hN:(N x).get m with
      |some y=>rw[hN]at hd';simpa using hd'
      |none=>rw[hN,hm]at hd';simp at hd';subst hd';exact absurd (.inl hr) hlv
     exact⟨m,c,d,hm,hr,hum,hNm,hlv,hh⟩
   ·have:=hb.1.2.1
    rw[hLn.z,e1]at this;exact this
  ·rw[hLn.q,e3];exact fun h=>h
 refine h C rfl hret (fun n l hl=>?_) (fun b o hb=>⟨hs b (hH b o hb).2.2,(hH b o hb).2.1,(hH b o hb).1⟩) hL β _ w ⟨Fr.refl _ _,hm,fun n b hb hr hu hS=>absurd rfl (hS n b hb hr hu),fun n l hl=>?_⟩ ?_ ?_ rfl
 ·by_cases hh:(M.get n).isSome=true
  ·exact hh
  ·simp[C,hh]at hl
 ·by_cases hh:(M.get n).isSome=true
  ·simp only[C,hh,if_true,Ji]at hl
   exact⟨hh,hl⟩
  ·simp[C,hh]at hl
 ·intro β' hag t y hy
  obtain⟨_,h2,h3⟩:=tH args 0 t y hy
  simp only[Nat.sub_zero]at h2
  have hlt:t<args.length:=(JW.1 h2).1
  obtain⟨g,x⟩:=y
  simp only at h2 h3
  subst h3
  have hx:x∈args:=In h2
  simp only[gv,cond_true,hcl x hx β β' hag]
  rw[JA hlt]at h2
  simp only[Ji]at h2
  simp[Array.getElem?_append,hlt,h2]
 ·simp;omega
theorem CallX.ren {H:Hp}{P:Program}{f:FuncId}{args:List V}{M:Mem}{α:Type}{v:α->V}{N:α->Mem}{Q:α->Hp->Prop}{ρ:Nat->Nat}(hi:∀n m,ρ n=ρ m->n=m)(h:CallX H P f args M v N Q):CallX H P f (args.map (V.ren ρ)) (M.ren ρ) (fun x=>(v x).ren ρ) (fun x=>(N x).ren ρ) Q:=by
 classical
 obtain⟨hent,hN,hU,hc⟩:=h
 have hwr:∀(β:Vl) (M:Mem) b,Wrt (fun n=>β (ρ n)) M b↔Wrt β (M.ren ρ) b:=by
  intro β M b
  constructor
  ·rintro⟨n,c,h1,h2,h3,h4⟩
   exact⟨ρ n,c.ren ρ,by rw[z8 hi,h1];rfl,h2,h3,h4⟩
  ·rintro⟨k,c,h1,h2,h3,h4⟩
   obtain⟨n,d,rfl,hn,rfl⟩:=ze hi h1
   exact⟨n,d,hn,h2,h3,h4⟩
 refine⟨hent,fun x n b hb hb'=>?_,fun x n b b' hb hb'=>?_,fun β w Z hm hH hZ=>?_⟩
 ·obtain⟨k,c,rfl,hk,rfl⟩:=ze hi hb
  refine hN x k c hk ?_
  rw[z8 hi]at hb'
  simpa using hb'
 ·obtain⟨k,c,rfl,hk,rfl⟩:=ze hi hb
  rw[z8 hi]at hb'
  cases hq:M.get k with
  |none=>simp[hq]at hb'
  |some d=>simp[hq]at hb';subst hb';exact hU x k c d hk hq
 let up:Vl->Vl->Vl:=fun β' β k=>if hk:∃n,ρ n=k then β' hk.choose else β k
 have hup:∀β' β n,up β' β (ρ n)=β' n:=by
  intro β' β n
  have hk:∃m,ρ m=ρ n:=⟨n,rfl⟩
  simp only[up,dif_pos hk]
  rw[hi _ _ hk.choose_spec]
 have hup':∀β' β,(fun n=>up β' β (ρ n))=β':=fun β' β=>funext fun n=>hup β' β n
 have hdown:MemOk (fun n=>β (ρ n)) M w:=by
  refine⟨fun β' hag n b hb=>?_,fun n b hb=>?_,fun n m b b' hb hb' hne hro hlv=>?_⟩
  ·have h1:=hm.ok (up β' β) (fun k hk=>by
    obtain⟨b,hb⟩:=JE.1 hk
    obtain⟨n,c,rfl,hn,_⟩:=ze hi hb
    rw[hup];exact hag n (by simp[hn])) (ρ n) (b.ren ρ) (by rw[z8 hi,hb];rfl)
   have h2:=BkOk.ren.1 h1
   rw[hup']at h2
   exact h2
  ·exact hm.there (ρ n) (b.ren ρ) (by rw[z8 hi,hb];rfl)
  ·exact hm.apart (ρ n) (ρ m) (b.ren ρ) (b'.ren ρ) (by rw[z8 hi,hb];rfl) (by rw[z8 hi,hb'];rfl) (fun hh=>hne (hi _ _ hh)) hro (rX hlv)
 have hC:=hc _ w Z hdown (fun b o hb=>by obtain⟨q1,q2,q3⟩:=hH b o hb;exact⟨q1,q2,fun hw=>q3 ((hwr β M b).1 hw)⟩) (fun b hb=>by obtain⟨q1,q2⟩:=hZ b hb;exact⟨q1,fun hw=>q2 ((hwr β M b).1 hw)⟩)
 have hargs:(args.map (V.ren ρ)).map (V.g β)=args.map (V.g fun n=>β (ρ n)):=by
  rw[Ja];exact JV fun x _=>tN ρ β x
 rw[hargs]
 refine hC.mono ?_
 rintro en w' ⟨x,β',H',hag,hen,hmem,hfr,hnew,hH',hQ⟩
 have happ:Mem.ren ρ (N x)++Mem.ren ρ M=Mem.ren ρ (N x++M):=by simp[Mem.ren]
 refine⟨x,up β' β,H',fun k hk=>?_,fun β'' hag''=>?_,?_,⟨hfr.os,hfr.tape,hfr.output,hfr.size,fun k hk hlt=>hfr.old k (fun n b hb hro hu=>?_) hlt⟩,fun k hk hM hu=>?_,fun b o hb=>?_,hQ⟩
 ·obtain⟨b,hb⟩:=JE.1 hk
  obtain⟨n,c,rfl,hn,_⟩:=ze hi hb
  rw[hup];exact hag n (by simp[hn])
 ·rw[tN]
  refine hen _ (fun n hn=>?_)
  rw[happ]at hag''
  obtain⟨b,hb⟩:=JE.1 hn
  rw[hag'' (ρ n) (by rw[z8 hi,hb];rfl),hup]
 ·rw[happ]
  refine⟨fun β'' hag'' k b hb=>?_,fun k b hb hu=>?_,fun k m b b' hb hb' hne hro hlv hu hu'=>?_⟩
  ·obtain⟨n,c,rfl,hn,rfl⟩:=ze hi hb
   refine BkOk.ren.2 (hmem.ok _ (fun j hj=>?_) n c hn)
   obtain⟨d,hd⟩:=JE.1 hj
   rw[hag'' (ρ j) (by rw[z8 hi,hd];rfl),hup]
  ·obtain⟨n,c,rfl,hn,rfl⟩:=ze hi hb
   rw[hup]at hu⊢
   exact hmem.there n c hn hu
  ·obtain⟨n,c,rfl,hn,rfl⟩:=ze hi hb
   obtain⟨n',c',rfl,hn',rfl⟩:=ze hi hb'
   rw[hup]at hu hu'⊢
   rw[hup]
   refine hmem.apart n n' c c' hn hn' (fun hh=>hne (by rw[hh])) hro ?_ hu hu'
   rcases hlv with h|h
   ·exact .inl h
   ·exact .inr (by simpa[Bk.ren]using h)
 ·exact hk (ρ n) (b.ren ρ) (by rw[z8 hi,hb];rfl) hro hu
 ·obtain⟨b,hb⟩:=JE.1 hk
  obtain⟨n,c,rfl,hn,_⟩:=ze hi hb
  rw[hup]at hu⊢
  rcases hnew n (by simp[hn]) (by rw[z8 hi]at hM;simpa using hM) hu with h|⟨k,d,y,g1,g2,g3,g4,g5,g6⟩
  ·exact .inl h
  ·refine .inr ⟨ρ k,d.ren ρ,y.ren ρ,by rw[z8 hi,g1];rfl,g2,g3,by rw[z8 hi,g4];rfl,fun hl=>g5 ?_,g6⟩
   rcases hl with h|h
   ·exact .inl h
   ·exact .inr (by simpa[Bk.ren]using h)
 ·obtain⟨q1,q2,q3⟩:=hH' b o hb
  refine⟨q1,q2,fun hw=>q3 ?_⟩
  rw[happ]at hw
  have:=(hwr (up β' β) (N x++M) b).2 hw
  rw[hup']at this
  exact this
section
variable {P:Program} {nt:Nat} {C Ck:Cx} {todo r:List It} {e e0:Env} {M M0 Mf:Mem}
theorem uD {H:Hp}{f:FuncId}{vs:List (Option (Bool×V))}{g:Bool}{dst:Option Nat}{xs:List V}{M1:Mem}{α:Type}{v:α->V}{N:α->Mem}{Q:α->Hp->Prop}(L:List (Nat×Nat))(nx:Nat)(hL:Lf C Ck)(hc:CallX H P f xs M1 v N Q)(hH:H.le Ck.hp)(hR:qF L=true)(hs:SubS (M1.ren (rn L)) M)(hcl:ClM M1)(hfr:∀x,((N x).ren (rn L)).all (fun p=>((M1.ren (rn L)).get p.1).isSome||(M.get p.1).isNone)=true)(hg:g=true)(hvs:vs=(xs.map (V.ren (rn L))).map fun x=>some (true,x))(hd:yy nt dst=true)
  (h:∀x Cn H',Lf C Cn->Ck.hp.le Cn.hp->H'.le Cn.hp->Q x H'->run P nt Cn 1000 todo (e.put dst g ((v x).ren (rn L))) ((N x).ren (rn L)++M) nx):CallQ P nt Ck f vs g dst todo e M:=
 CallQ.x nx hL (hc.ren (xk L hR)) hH hs.sub (hcl.ren (xk L hR)) (fun x=>xA (hfr x)) hg hvs hd h
theorem CallQ.hr {H:Hp}{f:FuncId}{vs:List (Option (Bool×V))}{g:Bool}{dst:Option Nat}{xs:List V}{v:V}{M1 N:Mem}(L:List (Nat×Nat))(nx:Nat)(hc:CallX H P f xs M1 (fun _:Unit=>v) (fun _=>N) (fun _ _=>True))(hH:H.le C.hp)(hcl:ClM M1)(hR:qF L=true)(hvs:vs=(xs.map (V.ren (rn L))).map fun x=>some (true,x))
  (hs:SubS (M1.ren (rn L)) M) (hfr:(N.ren (rn L)).all (fun p=>((M1.ren (rn L)).get p.1).isSome||(M.get p.1).isNone)=true) (hg:g=true\/N=[]) (h:run P nt C 1000 todo (e.put dst g (v.ren (rn L))) (N.ren (rn L)++M) nx):CallQ P nt C f vs g dst todo e M:=
 Or.inl ⟨M1.ren (rn L),N.ren (rn L),v.ren (rn L),xs.map (V.ren (rn L)),fun _=>hvs,fun _=> .inr (CallX.kx (hc.ren (xk L hR)) hH (hcl.ren (xk L hR)) (fun _=>rfl) (fun _=>rfl)),hs.sub,hcl.ren (xk L hR),xA hfr,hg.imp (fun h=>h) (fun h=>by rw[h];rfl),yP 1000 _ _ _ nx h⟩
end
attribute [go_sem] Mem.conc Env.conc Cv.conc V.conc W.conc Bk.conc Cv.cok V.cok W.cok yC List.any_cons List.any_nil uk
end Vg
namespace Vg
open Go.RowKit
theorem rU {P:Program}{nt:Nat}{C:Cx}{todo:List It}{e:Env}{M:Mem}(σ:Nat->Option Loc)(Mn:Mem)(e':Env)(hn:Mn.all (fun p=>(M.get p.1).isNone&&p.2.ro)=true)(hσ:∀n l,σ n=some l->(Mn.get n).isSome=true)
  (h:∀β:Vl,(∀n l,σ n=some l->β n=l)->(∀n b,Mn.get n=some b->LcH C.hp (β n) (b.cells.map (Cv.g β)))/\(∀t x,e'.get t=some x->∃y,e.get t=some y/\gv β x=gv β y))
  (k:Sm P nt C todo e' (Mn++M)):Sm P nt C todo e M:=fun β a w h1 h2 h3 h4=>by
 have hnone:∀n b,Mn.get n=some b->M.get n=none/\b.ro=true:=fun n b hb=>by
  have:=JD.1 hn (n,b) (zk hb)
  simpa using this
 have hold:∀n b,M.get n=some b->Mn.get n=none:=fun n b hb=>by
  cases hq:Mn.get n with
  |none=>rfl
  |some d=>rw[(hnone n d hq).1]at hb;cases hb
 have hσM:∀n b,M.get n=some b->σ n=none:=fun n b hb=>by
  cases hq:σ n with
  |none=>rfl
  |some l=>
   have:=hσ n l hq
   rw[hold n b hb]at this;cases this
 let β2:Vl:=fun n=>(σ n).getD (β n)
 have hb2:∀n l,σ n=some l->β2 n=l:=fun n l hl=>by simp[β2,hl]
 have hbM:∀n b,M.get n=some b->β2 n=β n:=fun n b hb=>by simp[β2,hσM n b hb]
 have hag:∀β',Agree (Mn++M) β2 β'->Agree M β β'/\∀n l,σ n=some l->β' n=l:=fun β' hag=>by
  refine⟨fun n hn'=>?_,fun n l hl=>?_⟩
  ·obtain⟨b,hb⟩:=JE.1 hn'
   rw[hag n (by rw[zL,hold n b hb];simpa using hn'),hbM n b hb]
  ·have h5:=hσ n l hl
   rw[hag n (by rw[zL];cases hq:Mn.get n with|none=>rw[hq]at h5;cases h5|some d=>rfl),hb2 n l hl]
 have hget:∀n b,(Mn++M:Mem).get n=some b->Mn.get n=some b\/(Mn.get n=none/\M.get n=some b):=fun n b hb=>by
  rw[zL]at hb
  cases hq:Mn.get n with
  |some d=>rw[hq]at hb;left;simpa using hb
  |none=>rw[hq]at hb;right;exact⟨rfl,by simpa using hb⟩
 have hH:∀n b,Mn.get n=some b->LcH C.hp (β2 n) (b.cells.map (Cv.g β2)):=fun n b hb=>(h β2 hb2).1 n b hb
 have hself:Agree (Mn++M) β2 β2:=Agree.refl _ _
 refine k β2 a w ⟨h1.fr,⟨fun β' hag' n b hb=>?_,fun n b hb hu=>?_,fun n m b b' hb hb' hnm hr hlv hu hu'=>?_⟩,fun n b hb hr hu hS=>?_,fun n q hq=>?_⟩ (fun β' hag' t x hx=>?_) h3 h4
 ·obtain⟨g1,g2⟩:=hag β' hag'
  rcases hget n b hb with hb|⟨_,hb⟩
  ·have hL:=(h β' g2).1 n b hb
   have hr:=(hnone n b hb).2
   unfold BkOk
   cases hu:(β' n).nul with
   |true=>
    simp only[if_true]
    have:=hL.1 hu
    exact⟨by simpa using this,fun hh=>by rw[hr]at hh;cases hh⟩
   |false=>
    simp only[JS,if_false,hr,if_true]
    obtain⟨c,el',mk,q1,q2⟩:=hL.2.2 hu
    refine⟨fun j v hj=>?_,by simpa using hL.2.1⟩
    simp[World.cell?,zy h1 q1,q2 j v hj]
  ·exact h1.mem.ok β' g1 n b hb
 ·rcases hget n b hb with hb|⟨_,hb⟩
  ·obtain⟨c,el',mk,q1,q2⟩:=(hH n b hb).2.2 hu
   exact J1 (C.hp_lt q1) h1.fr.size
  ·rw[hbM n b hb]at hu⊢
   exact h1.mem.there n b hb hu
 ·rcases hget n b hb with hb|⟨_,hb⟩
  ·rw[(hnone n b hb).2]at hr;cases hr
  ·rw[hbM n b hb]at hu⊢
   rcases hget m b' hb' with hb'|⟨_,hb'⟩
   ·obtain⟨c,el',mk,q1,q2⟩:=(hH m b' hb').2.2 hu'
    exact fun hh=>yJ h1 q1 ⟨n,b,hb,hr,hu,hh.symm⟩
   ·rw[hbM m b' hb']at hu'⊢
    exact h1.mem.apart n m b b' hb hb' hnm hr hlv hu hu'
 ·rcases hget n b hb with hb|⟨_,hb⟩
  ·rw[(hnone n b hb).2]at hr;cases hr
  ·rw[hbM n b hb]at hu hS⊢
   exact h1.own n b hb hr hu hS
 ·obtain⟨p1,p2⟩:=h1.pin n q hq
  obtain⟨b,hb⟩:=JE.1 p1
  exact⟨by rw[zL,hold n b hb];simpa using p1,by rw[hbM n b hb];exact p2⟩
 ·obtain⟨g1,g2⟩:=hag β' hag'
  obtain⟨y,hy,he⟩:=(h β' g2).2 t x hx
  rw[h2 β' g1 t y hy,he]
theorem SlH.loc {H:Hp}{v:Value}{sz:Nat}{rows:List (List Value)}(h:SlH H v sz rows):∃l:Loc,(∀(β:Vl) (nm:Nat),β nm=l->(Cv.sl nm 0 rows.length sz).g β=v)/\LcH H l rows.flatten/\∀r∈rows,r.length=sz:=by
 obtain⟨l,h1,h2,h3⟩:=h
 exact⟨l,fun β nm hb=>by rw[h1,QS hb],h3,h2⟩
theorem PtH.loc {H:Hp}{v:Value}{cs:List Value}(h:PtH H v cs):∃l:Loc,(∀(β:Vl) (nm:Nat),β nm=l->(Cv.p nm 0).g β=v)/\LcH H l cs:=by
 obtain⟨l,h1,h2,h3⟩:=h
 exact⟨l,fun β nm hb=>by rw[h1];simp[Cv.g,xl,hb],h3⟩
theorem pM (β:Vl)(cs:List Value):(cs.map Cv.v).map (Cv.g β)=cs:=by
 rw[Ja];conv=>rhs;rw[<-HI cs]
 exact JV fun _ _=>rfl
theorem SlH.odd {H:Hp}(a:Addr)(c sz:Nat):SlH H (.slice (some a) 0 c) sz []:=⟨⟨0,0,0,true,some (a,c)⟩,by simp[Cv.g,Loc.emp],z9,fun _=>rfl,z9,fun h=>by cases h⟩
def CallW (P:Program)(nt:Nat)(C:Cx)(f:FuncId)(xs:List V)(dst:Option Nat)(todo:List It)(e:Env)(M:Mem):Prop:=
 ∀β (a:Act) w,Rel C.S C.w0 β M w->EnvOk β M e a->a.tmps.size=nt->a.defers=C.df->
  Calls P f (xs.map (V.g β)).toArray w fun en w'=>∃u,en= .returned u/\xO P C.lp C.Q todo .normal (a.put dst u) w'
theorem fZ {P:Program}{nt:Nat}{C:Cx}{todo:List It}{e:Env}{M:Mem}{f:FuncId}{vs:List (Option (Bool×V))}{g:Bool}{dst:Option Nat}{xs:List V}(hent:Enters P f)(hg:g=true)(hvs:vs=xs.map fun x=>some (true,x))(h:CallW P nt C f xs dst todo e M):CallQ P nt C f vs g dst todo e M:=
 Or.inr ⟨hg,xs,hvs,hent,h⟩
theorem CallW.x {P:Program}{nt:Nat}{C Ck:Cx}{todo:List It}{e:Env}{M:Mem}{H:Hp}{f:FuncId}{dst:Option Nat}{xs:List V}{M1:Mem}{α:Type}{v:α->V}{N:α->Mem}{Q:α->Hp->Prop}(nx:Nat)(hL:Lf C Ck)(hc:CallX H P f xs M1 v N Q)(hH:H.le Ck.hp)(hs:Sub M1 M)(hcl:ClM M1)(hfr:∀x,Fresh (N x) M1 M)(hd:yy nt dst=true)
  (h:∀x Cn H',Lf C Cn->Ck.hp.le Cn.hp->H'.le Cn.hp->Q x H'->run P nt Cn 1000 todo (e.put dst true (v x)) (N x++M) nx):CallW P nt Ck f xs dst todo e M:=fun β a w h1 h2 h3 h4=>by
 refine(hc.at hL hH hs hcl hfr h1).mono ?_
 rintro en w' ⟨x,Cn,β2,u,H',rfl,l1,l2,l3,hQ,g1,g2,g3⟩
 refine⟨u,rfl,?_⟩
 rw[hL.q,<-l1.q,hL.lp,<-l1.lp]
 refine yP 1000 _ _ _ nx (h x Cn H' l1 l2 l3 hQ) β2 _ w' g2 ?_ ?_ ?_
 ·exact EnvOk.put h2 g1 h3 (wn hd) (fun β'' hb=>by rw[g3 β'' hb];rfl)
 ·cases dst<;>simp[Act.put,h3]
 ·have h4:=h4.trans (hL.df.trans l1.df.symm)
  cases dst<;>simp[Act.put,h4]
theorem yO {P:Program}{nt:Nat}{C Ck:Cx}{todo:List It}{e:Env}{M:Mem}{H:Hp}{f:FuncId}{dst:Option Nat}{xs:List V}{v:V}(nx:Nat)(hL:Lf C Ck)(hc:CallH H P f xs v)(hH:H.le Ck.hp)(hd:yy nt dst=true)
  (h:∀Cn,Lf C Cn->Ck.hp.le Cn.hp->run P nt Cn 1000 todo (e.put dst true v) M nx):CallW P nt Ck f xs dst todo e M:=
 CallW.x nx hL hc hH (Sub.nil _) ClM.nil (fun _=>Fresh.nil _ _) hd (fun _ Cn _ l1 l2 _ _=>h Cn l1 l2)
theorem CallQ.letgo {P:Program}{nt:Nat}{C Ck:Cx}{todo:List It}{e:Env}{M M0:Mem}{f:FuncId}{vs:List (Option (Bool×V))}{g:Bool}{dst:Option Nat}{xs:List V}(L:List Nat)(hL:Lf C Ck)(hP:Pins C.S M0)(h0:M0.all (fun p=> !L.contains p.1)=true)(hok:yC L e M=true)(hxs:xs.all (V.cok L)=true)(hent:Enters P f)(hg:g=true)(hvs:vs=xs.map fun x=>some (true,x))
  (h:∀β Cn,Lf C Cn->Ck.hp.le Cn.hp->(∀n b,L.contains n=true->M.get n=some b->b.ro=false->Known Cn.hp β n b)->CallW P nt Cn f (xs.map (V.conc L β)) dst todo (e.conc L β) (M.conc L β)):CallQ P nt Ck f vs g dst todo e M:=by
 refine fZ hent hg hvs fun β a w h1 h2 h3 h4=>?_
 obtain⟨Cn,l1,l2,l3,l4,l5⟩:=tA L hL hP h0 hok h1 h2
 have hb:sK L β β=β:=by
  funext n
  unfold sK
  cases L.contains n<;>rfl
 have hxe:(xs.map (V.conc L β)).map (V.g β)=xs.map (V.g β):=by
  rw[Ja]
  refine JV fun x hx=>?_
  have:=po (L:=L) (β:=β) (β':=β) (JD.1 hxs x hx)
  rw[hb]at this
  exact this
 have:=h β Cn l1 l2 l3 β a w l4 l5 h3 (h4.trans (hL.df.trans l1.df.symm))
 rw[hxe]at this
 rw[hL.q,hL.lp,<-l1.q,<-l1.lp]
 exact this
end Vg
namespace Vg
open Go.RowKit
theorem Stp.touchs {P:Program}{o:Oper}{e:Env}{M N X:Mem}{v:V}(h:Stp P o e M v N)(hX:∀n b,X.get n=some b->M.get n=some b/\b.ro=false):Stp P o e M v (N++X):=by
 intro S w0 β M' a w hsub hfr hrel hok K Q hk
 have hg:∀k,Mem.get ((N++X)++M') k=Mem.get (N++M') k:=fun k=>by
  rw[zL,zL,zL]
  cases hN:N.get k with
  |some y=>rfl
  |none=>
   cases hx:X.get k with
   |none=>rfl
   |some b=>
    obtain⟨q1,q2⟩:=hX k b hx
    obtain⟨b',hb',hwk⟩:=hsub k b q1
    obtain rfl:b=b':=by rcases hwk with h|h;exact h;rw[q2]at h;exact absurd h.1 z9
    simp[hb']
 refine h S w0 β M' a w hsub (fun k hk'=>hfr k (by rw[zL];cases hq:N.get k with|some y=>rfl|none=>rw[hq]at hk';cases hk')) hrel hok K Q (fun β' u w' hag hrel' hu=>hk β' u w' hag (hrel'.ext hg) (fun β'' hag2=>hu β'' (fun k hk=>hag2 k (by rw[hg];exact hk))))
def KX (M M0:Mem):Mem->Prop
 |[]=>True
 |(n,b)::X=>(M.get n=some b/\b.ro=false/\(M0.get n).isNone=true)/\KX M M0 X
theorem KX.ok {M M0:Mem}:∀{X:Mem},KX M M0 X->∀n b,X.get n=some b->M.get n=some b/\b.ro=false/\M0.get n=none
 |[],_,n,b,h=>by cases h
 |(k,c)::X,⟨h1,h2⟩,n,b,h=>by
  rw[zE]at h
  split at h
  ·rename_i hk;subst hk;cases h
   exact⟨h1.1,h1.2.1,by simpa using h1.2.2⟩
  ·exact KX.ok h2 n b h
theorem sj {P:Program}{nt:Nat}{C:Cx}{id:Nat}{rg:Array Oper}{r:List It}{e0 e:Env}{M0 Mf M:Mem}{k:Nat}{T:List (Nat×Nat)}{i:Nat}{o:Oper}{g:Bool}{l:List Oper}{v:V}{N0:Mem}{sc:Prop}{nx':Nat}(X:Mem)(nx:Nat)(hop:Wa P e (X++M0) nx o.op=some (sc,v,N0,nx'))(hs:sc)(hg:g=true)(hX:KX M M0 X)
  (hN:N0.all (fun p=>(M0.get p.1).isNone&&((X.get p.1).isSome||(M.get p.1).isNone))=true) (hA:Yj rg i T o (N0++X)=true)
  (h:wz P nt C id rg r e0 M0 Mf k (wA P nt C (.ops rg (rg.toList.drop k)::r)) (vP (N0++X) i T) (i+1) l (e.put o.dst g v) ((N0++X)++M) nx'):DOpQ P nt C id rg r e0 M0 Mf k T i o g l e M:=by
 have hst:Stp P o e (X++M0) v (N0++X):=(jD hop hs).touchs (fun n b hb=>⟨by rw[zL,hb];rfl,(hX.ok n b hb).2.1⟩)
 refine Or.inl ⟨N0++X,X++M0,v,fun _=>hst.toC,.inl hg,⟨fun n b hb=>?_,fun n hn=>?_⟩,wX nx' h⟩
 ·rw[zL]at hb
  cases hq:X.get n with
  |none=>rw[hq]at hb;left;simpa using hb
  |some c=>
   rw[hq]at hb
   have:c=b:=by simpa using hb
   subst this
   refine .inr ⟨?_,(hX.ok n c hq).1⟩
   rw[zL,hq];cases N0.get n<;>rfl
 ·have hmem:∃b,(N0++X:Mem).get n=some b:=JE.1 hn
  obtain⟨b,hb⟩:=hmem
  refine⟨?_,?_,fun j hj=>?_⟩
  ·rw[zL]at hb
   cases hq:N0.get n with
   |some c=>
    have:=JD.1 hN (n,c) (zk hq)
    simp only[JB]at this
    simpa using this.1
   |none=>
    rw[hq]at hb
    exact(hX.ok n b (by simpa using hb)).2.2
  ·rw[zL]
   cases hq:X.get n with
   |some c=>left;rfl
   |none=>
    right
    rw[zL,hq]at hb
    cases hq2:N0.get n with
    |none=>rw[hq2]at hb;cases hb
    |some c=>
     have:=JD.1 hN (n,c) (zk hq2)
     simp only[JB,hq,Option.isSome_none,Ip]at this
     simpa using this.2
  ·have k2:=JD.1 hA (n,b) (zk hb)
   rcases hj with hj|hj<;>
   ·have:=JD.1 k2 _ hj
    exact qZ 20 j o (by simpa using this)
def LookM (M:Mem):Mem->Prop
 |[]=>True
 |(n,b)::X=>M.get n=some b/\LookM M X
theorem LookM.ok {M:Mem}:∀{X:Mem},LookM M X->∀n b,X.get n=some b->M.get n=some b
 |[],_,n,b,h=>by cases h
 |(k,c)::X,⟨h1,h2⟩,n,b,h=>by
  rw[zE]at h
  split at h
  ·rename_i hk;subst hk;cases h;exact h1
  ·exact LookM.ok h2 n b h
def V9 (rg:Array Oper)(i:Nat)(T:List (Nat×Nat))(o:Oper)(X:Mem):Bool:=X.all fun p=>T.all fun q=> !(q.1==p.1)||je rg i 20 q.2 o
theorem DOpQ.look {P:Program}{nt:Nat}{C:Cx}{id:Nat}{rg:Array Oper}{r:List It}{e0 e:Env}{M0 Mf M:Mem}{k:Nat}{T:List (Nat×Nat)}{i:Nat}{o:Oper}{g:Bool}{l:List Oper}{v:V}{sc:Prop}{nx':Nat}(X:Mem)(nx:Nat)(hop:Wb P e (X++M0) nx o.dst.isNone o.op=some (sc,v,[],nx'))(hs:sc)(hX:LookM M X)
  (hA:V9 rg i T o X=true)
  (h:wz P nt C id rg r e0 M0 Mf k (wA P nt C (.ops rg (rg.toList.drop k)::r)) ((X.map (·.1)).map (fun n=>(n+1000000,i))++T) (i+1) l (e.put o.dst g v) M nx'):DOpQ P nt C id rg r e0 M0 Mf k T i o g l e M:=by
 refine Or.inr ⟨X.map (·.1),X++M0,v,fun _=>(jE hop hs).toC,fun n b hb=>?_,fun n hn j hj=>?_,wX nx' h⟩
 ·rw[zL]at hb
  cases hq:X.get n with
  |none=>rw[hq]at hb;left;simpa using hb
  |some c=>
   rw[hq]at hb
   have:c=b:=by simpa using hb
   subst this
   exact .inr ⟨JL.2 ⟨(n,c),zk hq,rfl⟩,hX.ok n c hq⟩
 ·obtain⟨p,hp,rfl⟩:=JL.1 hn
  have k2:=JD.1 hA p hp
  have:=JD.1 k2 _ hj
  exact qZ 20 j o (by simpa using this)
theorem zg {P:Program}{o:Oper}{e:Env}{M:Mem}{x:Operand}{a:Addr}(ho:o.op= .nilCheck x)(hx:rd e x=some (true,.c (.v (.pointer (some a))))):Stp P o e M (.c (.v (.pointer (some a)))) []:=by
 refine Stp.pure fun β a' hop w=>?_
 have he:=hop x (by simp[ho,Op.operands]) _ hx
 simp only[gv,V.g,Cv.g,cond_true]at he
 unfold execOp
 simp[ho,he,V.g,Cv.g]
theorem zT {P:Program}{o:Oper}{e:Env}{M:Mem}{s:TypeId}{x:Operand}{f b off k:Nat}(ho:o.op= .fieldAddr s x f)(hx:rd e x=some (true,.c (.v (.pointer (some ⟨b,off,none⟩)))))
  (hk:zY P s f=some k):Stp P o e M (.c (.v (.pointer (some ⟨b,off+k,none⟩)))) []:=by
 refine Stp.pure fun β a hop w=>?_
 have he:=hop x (by simp[ho,Op.operands]) _ hx
 simp only[gv,V.g,Cv.g,cond_true]at he
 unfold zY at hk
 cases hu:P.underlying s with
 |none=>simp[hu]at hk
 |some d=>
  cases d<;>simp[hu]at hk
  rename_i fs
  cases hf:fs[f]? with
  |none=>simp[hf]at hk
  |some fd=>
   simp[hf]at hk
   obtain⟨hsz,rfl⟩:=hk
   unfold execOp
   have hs:=yK (P:=P) (t:=fd.type) rfl hsz
   simp[ho,he,Instr.fieldAt,run_underlying hu,hf,Instr.sureAddr,fieldPlace,hs,hsz,V.g,Cv.g,Addr.add_mid,IC]
theorem zS {P:Program}{C:Cx}{o:Oper}{e:Env}{M:Mem}{ty:TypeId}{x:Operand}{b i:Nat}{c:Array Value}{el:TypeId}{mk:Nat×Nat}{v:Value}(hb:C.hp b (.cells c el mk))(hc:c[i]?=some v)(ho:o.op= .load ty x)(hx:rd e x=some (true,.c (.v (.pointer (some ⟨b,i,none⟩)))))
  (ha:z5 P ty=some false):StpC P C.S C.w0 o e M (.c (.v v)) []:=by
 intro β M' a w _ _ hrel hop K Q hk
 have he:=hop β (Agree.refl _ _) x (by simp[ho,Op.operands]) _ hx
 have hbw:=zy hrel hb
 have hcell:w.cell? ⟨b,i,none⟩=some v:=by simp[World.cell?,hbw,hc]
 simp only[gv,V.g,Cv.g,cond_true]at he
 have hrun:(execOp a.eval o).run P w= .ok (.value v) w:=by
  unfold execOp
  simp only[ho,he,Instr.loadAt,Instr.sureAddr,Sem.run_bind,Sem.run_pure,Result.andThen_ok,loadVar,xJ ha,JS,if_false,run_load,hcell,Sem.run_ite]
 unfold Oper.wp
 rw[hrun]
 exact hk β v w (Agree.refl _ _) hrel (fun β'' _=>rfl)
theorem PtH.at {H:Hp}{v:Value}{cs:List Value}(h:PtH H v cs):∃b o,v= .pointer (some ⟨b,o,none⟩)/\∃c el mk,H b (.cells c el mk)/\∀i x,cs[i]?=some x->c[o+i]?=some x:=by
 obtain⟨l,h1,h2,h3⟩:=h
 obtain⟨c,el,mk,q1,q2⟩:=h3.2.2 h2
 exact⟨l.blk,l.org,by rw[h1];rfl,c,el,mk,q1,q2⟩
end Vg
namespace Vg
open Go.RowKit
end Vg
namespace Vg
theorem nI {P:Program}{nt:Nat}{C:Cx}{todo:List It}{e:Env}{M:Mem}{f:FuncId}{vs:List (Option (Bool×V))}{g:Bool}{dst:Option Nat}{xs:List V}{v:V}{M1 N:Mem}(nx:Nat)(hc:CallOk P f xs M1 v N)(hcl:ClM M1)(hvs:vs=xs.map fun x=>some (true,x))
  (hs:SubS M1 M) (hfr:N.all (fun p=>(M1.get p.1).isSome||(M.get p.1).isNone)=true) (hg:g=true\/N=[]) (h:run P nt C 1000 todo (e.put dst g v) (N++M) nx):CallQ P nt C f vs g dst todo e M:=
 Or.inl ⟨M1,N,v,xs,fun _=>hvs,fun _=> .inl (.inl hc),hs.sub,hcl,xA hfr,hg,yP 1000 _ _ _ nx h⟩
theorem nH {H:Hp}{P:Program}{nt:Nat}{C:Cx}{todo:List It}{e:Env}{M:Mem}{f:FuncId}{vs:List (Option (Bool×V))}{g:Bool}{dst:Option Nat}{xs:List V}{v:V}{M1 N:Mem}(nx:Nat)(hc:CallX H P f xs M1 (fun _:Unit=>v) (fun _=>N) (fun _ _=>True))(hH:H.le C.hp)(hcl:ClM M1)(hvs:vs=xs.map fun x=>some (true,x))
  (hs:SubS M1 M) (hfr:N.all (fun p=>(M1.get p.1).isSome||(M.get p.1).isNone)=true) (hg:g=true\/N=[]) (h:run P nt C 1000 todo (e.put dst g v) (N++M) nx):CallQ P nt C f vs g dst todo e M:=
 Or.inl ⟨M1,N,v,xs,fun _=>hvs,fun _=> .inr (CallX.kx hc hH hcl (fun _=>rfl) (fun _=>rfl)),hs.sub,hcl,xA hfr,hg,yP 1000 _ _ _ nx h⟩
theorem ux {P:Program}{nt:Nat}{C:Cx}{todo:List It}{e:Env}{M:Mem}{f:FuncId}{vs:List (Option (Bool×V))}{g:Bool}{dst:Option Nat}{xs:List V}{v:V}{M1 N:Mem}(nx:Nat)(hc:CallOk P f xs M1 v N)(hcl:ClM M1)(hs:SubS M1 M)
  (h:run P nt C 1000 todo (e.put dst g v) (N++M) nx) (hvs:vs=xs.map fun x=>some (true,x):=by exact rfl) (hfr:N.all (fun p=>(M1.get p.1).isSome||(M.get p.1).isNone)=true:=by exact rfl) (hg:g=true\/N=[]:=by first|exact .inl rfl|exact .inr rfl):CallQ P nt C f vs g dst todo e M:=nI nx hc hcl hvs hs hfr hg h
end Vg
open Go.ChangeShapes Go.WideShapes Go.ChangeAt Go.RowKit
open Vg
def b1:Vl:=fun _=>⟨0,0,0,false,none⟩
section
variable {H:Type} {enc:TypeId×Value->H} {P:Program} {w:World} {base:Nat} {spare:Nat->Bool} {held:Bool} {r:Reach} {n0:Nat} {v:Value} {d:DataW H} {p:List MemPlace}
theorem Wf {k:IntKind}{n:Int}(h:(Lit.int k n).wf=true):k.min<=n/\n<=k.max:=by
 simpa[Lit.wf]using h
end
open Go.ChangeShapes Go.WideShapes Go.ChangeAt Go.RowKit
open Vg
section
variable {H:Type} {enc:TypeId×Value->H} {P:Program} {w:World} {base:Nat} {spare:Nat->Bool} {held:Bool} {r:Reach} {n0:Nat} {v:Value} {d:DataW H} {p:List MemPlace}
theorem lQ {α:Type}{k:Nat}(hk:0<k):∀(rows:List (List α)),(∀x∈rows,x.length=k)->∀j,rows.flatten[j]?=(rows[j/k]?).bind (·[j%k]?)
 |[],_,j=>by simp
 |x::rows,h,j=>by
  have hx:=h x z9
  rw[List.flatten_cons]
  by_cases hj:j<k
  ·rw[Jk zA,Nat.div_eq_of_lt hj,Nat.mod_eq_of_lt hj];rfl
  ·rw[Ju zA,hx,lQ hk rows (fun y hy=>h y (by simp[hy])) (j-k)]
   have e1:j/k=(j-k)/k+1:=by rw[<-Nat.div_eq_sub_div hk zA]
   have e2:(j-k)%k=j%k:=(Nat.mod_eq_sub_mod zA).symm
   rw[e1,e2,J5]
theorem sU {α:Type}{k:Nat}:∀(rows:List (List α)),(∀x∈rows,x.length=k)->rows.flatten.length=rows.length*k
 |[],_=>by simp
 |x::rows,h=>by rw[List.flatten_cons,JM,h x z9,sU rows (fun y hy=>h y (by simp[hy])),JQ,Iz];omega
end
open Go.ChangeShapes Go.WideShapes Go.ChangeAt Go.RowKit
open Vg
def b0:Vl:=fun _=>⟨0,0,0,false,none⟩
section
variable {H:Type} {enc:TypeId×Value->H} {P:Program}
theorem tT (hl:laidOutB P=true){W W':World}{sp:Nat->Bool}(hb:Below W.heap.size W W'):∀{ts:List TypeId} {vs:List Value} {ds:List (DataW H)} {ps:List MemPlace},
  (∀t∈ts,P.readableRec t=true/\t<P.types.size)->DataW.TrodAll enc P W 0 (fun _=>true) true ts vs ds ps->(∀p∈ps,p.block<W.heap.size)->(∀p∈ps,sp p.block=true)->
  DataW.TrodAll enc P W' 0 sp true ts vs ds ps
 |[],vs,ds,ps,_,h,_,_=>by
  cases vs<;>cases ds<;>simp_all [DataW.TrodAll]
 |t::ts,vs,ds,ps,hr,h,hlt,hs=>by
  obtain⟨v,vs',d,ds',p,q,rfl,rfl,rfl,hd,hrest⟩:=trodAll_cons h
  refine⟨p,q,WideElems.Trod_stays hl (hr t z9).1 (hr t z9).2 hd (fun x hx=>hb.same (hlt x (by simp[hx]))) (fun x hx=>hs x (by simp[hx])),?_,rfl⟩
  exact tT hl hb (fun t' ht'=>hr t' (by simp[ht'])) hrest (fun x hx=>hlt x (by simp[hx])) (fun x hx=>hs x (by simp[hx]))
theorem oN {f:Func}{s:ChangeSpec}{apart fresh handsOn again:Bool}{W W':World}{args:Array Value}{v:Value}{ds gs:List (DataW H)}{before pa pv:List MemPlace}
  (hW:DataW.Whole enc P f.params.toList s.vars apart W args.toList ds gs before)
  (hres:∀(b:Nat) (sp:Nat->Bool) (hd:Bool),DataW.TrodAll enc P W' b sp hd f.resultTypes.toList (v.resultList f.resultTypes.size) (s.fn H (ds++gs)).results [])
  (hargs:∀sp:Nat->Bool,(∀p∈before,sp p.block=true)->DataW.TrodAll enc P W' 0 sp true f.params.toList args.toList (s.fn H (ds++gs)).args pa)
  (hvars:∀sp:Nat->Bool,(∀p∈before,sp p.block=true)->DataW.TrodVars enc P W' sp s.vars (s.fn H (ds++gs)).vars pv)
  (hps:before=pa++pv) (hb:Below W.heap.size W W')
  (hok:∀(j:Nat) (t:TypeId) (r:Value),f.resultTypes[j]?=some t->(v.resultList f.resultTypes.size)[j]?=some r->Value.okWide P W' .any 0 t r):
  s.post enc P f apart fresh handsOn again W args v W':=by
 have hlt:∀p∈before,p.block<W.heap.size:=fun p hp=>hW.lt p hp
 have hold:∀p∈before,(fun b=>decide (b<W.heap.size)) p.block=true:=fun p hp=>by simpa using hlt p hp
 refine⟨ds,gs,before,[],pa,pv,hW,hres _ _ _,hargs _ hold,hvars _ hold,World.keptBut_mono (fun p hp=>⟨hp,?_⟩) (hb.frame (· ∈before)),fun _=>?_⟩
 ·rw[hps,IP]at hp
  exact Or.inr hp
 ·obtain⟨_,_,_,_,_,hz,hn⟩:=hW
  refine⟨hok,_,_,([]++pa)++pv,⟨[]++pa,pv,trodAll_append (hargs _ (fun _ _=>rfl)) (hres _ _ _),hvars _ (fun _ _=>rfl),rfl,?_,?_⟩,?_⟩
  ·intro b off hp
   have hin:MemPlace.cell b off∈before:=by rw[hps];simpa using hp
   rw[hb.frozen (hlt _ hin)]
   exact hz b off hin
  ·intro ha
   have:=hn ha
   rw[hps]at this
   simpa using this
  ·intro p hp _
   rw[hps]
   simpa using hp
theorem dM {f:Func}{s:ChangeSpec}{apart fresh handsOn again:Bool}{W W':World}{args:Array Value}{ds gs:List (DataW H)}{before:List MemPlace}{tb:TypeId}
  (hl:laidOutB P=true) (hp:∀t∈f.params.toList,P.readableRec t=true/\t<P.types.size) (hr:f.resultTypes= #[tb]) (hb4:P.underlying tb=some .bool) (hvars:s.vars=[])
  (hW:DataW.Whole enc P f.params.toList s.vars apart W args.toList ds gs before) (hfn:s.fn H ds={results:=[.lit (.bool true)],args:=ds}) (hb:Below W.heap.size W W'):
  s.post enc P f apart fresh handsOn again W args (.bool true) W':=by
 have hW':=hW
 obtain⟨p,q,hA,hV,rfl,hfz,hnd⟩:=hW
 rw[hvars]at hV
 obtain⟨rfl,rfl⟩:=trodVars_none hV
 have hlt:∀x∈p,x.block<W.heap.size:=fun x hx=>hW'.lt x (by simp[hx])
 refine oN (pa:=p) (pv:=[]) hW' (fun b sp hd=>?_) (fun sp hsp=>?_) (fun sp hsp=>?_) rfl hb (ok_one hr rfl (okWide_bool_mk hb4 _))
 ·rw[JK,hfn,hr]
  exact trodAll_mk1 (shut_bool hb4 _)
 ·rw[JK,hfn]
  exact tT hl hb hp hA hlt (fun x hx=>hsp x (by simp[hx]))
 ·rw[JK,hfn,hvars]
  rfl
end
open Go.ChangeShapes Go.WideShapes Go.ChangeAt Go.RowKit
open Vg
def mK (W:World):Hp:=fun b o=>W.heap[b]?=some o
theorem mH {P:Program}{f:FuncId}{args:List V}{k:Bool}{W:World}{α:Type}{Q:α->Hp->Prop}(h:CallX (mK W) P f args [] (fun _:α=> .c (.v (.bool k))) (fun _=>[]) Q):
  Calls P f (args.map (V.g b0)).toArray W fun e W'=>e= .returned (.bool k)/\Below W.heap.size W W':=by
 refine(h.2.2.2 b0 W (fun _=>False) ⟨fun _ _ n b hb=>by simp[Mem.get]at hb,fun n b hb=>by simp[Mem.get]at hb,fun n m b b' hb=>by simp[Mem.get]at hb⟩ (fun b o hb=>⟨hb,fun h=>h,fun h=>?_⟩) (fun b h=>h.elim)).mono ?_
 ·obtain⟨n,c,h,_⟩:=h;cases h
 ·rintro e W' ⟨x,β',H',_,hen,_,hfr,_⟩
  exact⟨hen b0 (fun n hn=>by simp[Mem.get]at hn),hfr.os,hfr.tape,hfr.output,hfr.size,fun k hk=>hfr.old k (fun n b hb=>by simp[Mem.get]at hb) hk⟩
inductive Lc where
 |i (k:IntKind)
 |b
 |s
 |l (t:TypeId)
def Ve (P:Program)(lf:TypeId->Option (List Lc)):Nat->List Field->Option (List Lc)
 |_,[]=>some []
 |off,f::fs=>
  match f.offset !=off with
  |true=>none
  |false=>match lf f.type with
   |none=>none
   |some ks=>match zm P f.type==ks.length&& !ks.isEmpty with
    |false=>none
    |true=>match Ve P lf (off+ks.length) fs with
     |some r=>some (ks++r)
     |none=>none
def sM (P:Program):Nat->TypeId->Option (List Lc)
 |0,_=>none
 |d+1,t=>match P.underlying t with
  |some (.int k)=>some [.i k]
  |some .bool=>some [.b]
  |some .string=>some [.s]
  |some (.slice _)=>some [.l t]
  |some (.struct fs)=>Ve P (sM P d) 0 fs.toList
  |_=>none
section
variable {H:Type} (enc:TypeId×Value->H) (P:Program) (w:World) (base:Nat) (spare:Nat->Bool) (held:Bool)
def uP:Lc->Value->Prop
 | .i k,v=>∃n,v= .int k n/\k.min<=n/\n<=k.max
 | .b,v=>∃x,v= .bool x
 | .s,v=>∃x:ByteArray,v= .string x/\x.data.toList.length<=reachBytes
 | .l t,v=>∃fuel x,DataW.trod enc P w base spare held fuel t [v]=some x/\∀n∈x.1.weights P t,n<=reachBytes
def xQ:List Lc->List Value->Prop
 |[],[]=>True
 |k::ks,v::vs=>uP enc P w base spare held k v/\xQ ks vs
 |_,_=>False
variable {enc P w base spare held}
theorem vI:∀{ks:List Lc} {vs:List Value},xQ enc P w base spare held ks vs->vs.length=ks.length
 |[],[],_=>rfl
 |[],_::_,h=>h.elim
 |_::_,[],h=>h.elim
 |k::ks,v::vs,h=>by rw[JQ,JQ,vI h.2]
theorem qC:∀{ks r:List Lc} {a b:List Value},xQ enc P w base spare held ks a->xQ enc P w base spare held r b->xQ enc P w base spare held (ks++r) (a++b)
 |[],r,[],b,_,h=>h
 |[],_,_::_,_,h,_=>h.elim
 |_::_,_,[],_,h,_=>h.elim
 |k::ks,r,v::a,b,h,h2=>⟨h.1,qC h.2 h2⟩
theorem sJ:∀(D:Nat) (t:TypeId) (ks:List Lc),sM P D t=some ks->zm P t=ks.length->∀(fuel:Nat) (cs:List Value) (x:DataW H×List MemPlace),DataW.trod enc P w base spare held fuel t cs=some x->(∀n∈x.1.weights P t,n<=reachBytes)->
  xQ enc P w base spare held ks cs
 |0,t,ks,h,hz,fuel,cs,x,hx,hw=>by cases h
 |D+1,t,ks,h,hz,fuel,cs,x,hx,hw=>by
  simp only[sM]at h
  split at h
  ·rename_i k hu
   simp at h;subst h
   obtain⟨n,rfl,_,hwf⟩:=DataW.trod_int hu hx
   exact⟨⟨n,rfl,Wf hwf⟩,trivial⟩
  ·rename_i hu
   simp at h;subst h
   obtain⟨n,rfl,_⟩:=DataW.trod_bool hu hx
   exact⟨⟨n,rfl⟩,trivial⟩
  ·rename_i hu
   simp at h;subst h
   obtain⟨n,rfl,rfl,_⟩:=DataW.trod_string hu hx
   exact⟨⟨n,rfl,hw _ (by simp[DataW.weights])⟩,trivial⟩
  ·rename_i e hu
   simp at h;subst h
   have hc1:∃v,cs=[v]:=by
    rcases Go.Deep.open_slice hu hx with⟨rfl,_⟩|⟨a,len,cap,m,n,D',Pl,rfl,_⟩
    ·exact⟨_,rfl⟩
    ·exact⟨_,rfl⟩
   obtain⟨v,rfl⟩:=hc1
   exact⟨⟨fuel,x,hx,hw⟩,trivial⟩
  ·rename_i fs hu
   obtain⟨ys,n,_,hxe,hlen,hsz,hg⟩:=DataW.trod_struct hu hx
   have hws:∀(j:Nat) (f:Field) (y:DataW H×List MemPlace),fs[j]?=some f->ys[j]?=some y->∀n∈y.1.weights P f.type,n<=reachBytes:=fun j f y hf hy n hn=>by
    refine hw n ?_
    rw[hxe]
    simp only[DataW.weights,hu]
    exact DataW.weights_mem_each (j:=j) (by simp[hf]) (by simp[hy]) n hn
   have go:∀(l:List Field) (off i:Nat) (ks:List Lc),Ve P (sM P D) off l=some ks->(∀j,l[j]?=fs[i+j]?)->i+l.length=fs.size->
     xQ enc P w base spare held ks ((cs.drop off).take ks.length):=by
    intro l
    induction l with
    |nil=>
     intro off i ks h _ _
     simp[Ve]at h;subst h
     simp[xQ]
    |cons f l ih=>
     intro off i ks h hl hi
     simp only[Ve]at h
     split at h<;>first|(cases h;done)|skip
     rename_i hname
     simp only[bne_eq_false_iff_eq]at hname
     split at h<;>first|(cases h;done)|skip
     rename_i ks1 hk1
     split at h<;>first|(cases h;done)|skip
     rename_i hsz'
     simp only[JB,beq_iff_eq,Jh,List.isEmpty_eq_false_iff]at hsz'
     split at h<;>simp at h
     rename_i ks2 hk2
     subst h
     have hf:fs[i]?=some f:=by have:=hl 0;simpa using this.symm
     have h1:=hg i f hf
     have hi':i<ys.length:=by rw[hsz];simp at hi;omega
     rw[JA hi',hname]at h1
     have o1:=sJ D f.type ks1 hk1 hsz'.1 n _ _ h1 (hws i f _ hf (JA hi'))
     have o2:=ih (off+ks1.length) (i+1) ks2 hk2 (fun j=>by have:=hl (j+1);simp only[J5]at this;rw[this];congr 1;omega) (by simp at hi;omega)
     have hcz:P.cellsOf f.type=ks1.length:=hsz'.1
     rw[hcz]at o1
     rw[JM,List.take_add,HR]
     exact qC o1 o2
   have o:=go fs.toList 0 0 ks h (fun j=>z9) z9
   rw[Jb]at o
   have:cs.length=ks.length:=hlen.trans hz
   rwa [JJ zA]at o
  ·cases h
theorem wc {e:TypeId}:∀{l:List (DataW H)} {d:DataW H},d∈l->∀n∈d.weights P e,n∈DataW.weightsAll P e l
 |d0::l,d,h,n,hn=>by
  simp only[DataW.weightsAll,IP]
  rcases J3.1 h with rfl|h
  ·exact .inl hn
  ·exact .inr (wc h n hn)
theorem vj {t e:TypeId}{ks:List Lc}(ht:P.underlying t=some (.slice e))(hl:sM P 20 e=some ks)(hz:zm P e=ks.length)(h0:ks≠[]){v:Value}(h:uP enc P w base spare held (.l t) v):
  ∃rows:List (List Value),SlH (mK w) v ks.length rows/\(∀r∈rows,xQ enc P w base spare held ks r)/\rows.length*P.bytesOf e<=reachBytes:=by
 obtain⟨fuel,x,h,hw⟩:=h
 have hcz:P.cellsOf e=ks.length:=hz
 have hk0:0<ks.length:=List.length_pos_iff.2 h0
 rcases Go.Deep.open_slice ht h with⟨hcs,_⟩|⟨a,len,cap,m,n,D,Pl,hcs,_,hlc,hcm,hm,hxe,hx⟩
 ·simp at hcs
  subst hcs
  exact⟨[],SlH.nil _,z9,z9⟩
 ·simp at hcs
  subst hcs
  have hlm:len<=m:=by rw[hm];split<;>omega
  have hwl:∀i,i<m->∀q∈(D i).weights P e,q<=reachBytes:=fun i hi q hq=>by
   refine hw q ?_
   rw[hxe]
   simp only[DataW.weights,ht,J3,IP]
   right
   by_cases hil:i<len
   ·exact .inl (wc (JL.2 ⟨i,Jo.2 hil,rfl⟩) q hq)
   ·refine .inr (wc (JL.2 ⟨i-len,Jo.2 zA,?_⟩) q hq)
    rw[show len+(i-len)=i by omega]
  have hbl:len*P.bytesOf e<=reachBytes:=by
   have:=hw (((List.range len).map D).length+((List.range (m-len)).map fun j=>D (len+j)).length|>(· *P.bytesOf e)) (by rw[hxe];simp[DataW.weights,ht])
   simp only[Kv,Im]at this
   exact IE (Nat.mul_le_mul_right _ zA) this
  rcases Nat.eq_zero_or_pos len with rfl|hlen
  ·exact⟨[],SlH.odd _ _ _,z9,z9⟩
  have hrow:∀i,∃y:List Value,i<m->xQ enc P w base spare held ks y/\∀q,q<ks.length->w.cell? ((a.add (i*ks.length)).add q)=y[q]?:=by
   intro i
   by_cases hi:i<m
   ·obtain⟨cs',h1,h2⟩:=hx i hi
    rw[hcz]at h1
    have o1:=sJ 20 e ks hl hz n _ _ h2 (hwl i hi)
    obtain⟨_,hl2,hcell⟩:=World.cells?_some h1
    exact⟨cs',fun _=>⟨o1,fun q hq=>hcell q hq⟩⟩
   ·exact⟨[],fun h=>absurd h hi⟩
  obtain⟨R,hR⟩:=Classical.axiomOfChoice hrow
  have hRl:∀r∈(List.range len).map R,r.length=ks.length:=fun r hr=>by
   obtain⟨i,hi,rfl⟩:=JL.1 hr
   have:=Jo.1 hi
   exact vI (hR i zA).1
  have hspot:a.spot=none:=by
   have h1:=(hR 0 zA).2 0 hk0
   have h2:(R 0).length=ks.length:=vI (hR 0 zA).1
   rw[JA zA]at h1
   have:=World.cell?_spot h1
   unfold Addr.add at this
   split at this<;>simp_all
  obtain⟨blk,off,sp⟩:=a
  simp only at hspot
  subst hspot
  have hcell:∀i q,i<m->q<ks.length->w.cell? ⟨blk,off+i*ks.length+q,none⟩=(R i)[q]?:=fun i q hi hq=>by
   have:=(hR i hi).2 q hq
   simpa[Addr.add_lit]using this
  have hobj:∃c el mk,w.heap[blk]?=some (.cells c el mk):=by
   have h1:=hcell 0 0 zA hk0
   have h2:(R 0).length=ks.length:=vI (hR 0 zA).1
   rw[JA zA]at h1
   unfold World.cell? at h1
   split at h1
   ·rename_i c el mk ho;exact⟨c,el,mk,ho⟩
   ·cases h1
  obtain⟨c,el,mk,ho⟩:=hobj
  refine⟨(List.range len).map R,⟨⟨blk,off,cap*ks.length,false,none⟩,?_,hRl,?_⟩,fun r hr=>?_,by simpa using hbl⟩
  ·simp only[Cv.g,JS,false_and,if_false,Kv,Im,Jx,Nat.sub_zero]
   rw[Ih _ hk0]
  ·refine⟨fun h=>(by cases h),?_,fun _=>⟨c,el,mk,ho,fun j x hj=>?_⟩⟩
   ·rw[sU _ hRl]
    simp only[Kv,Im]
    exact Nat.mul_le_mul_right _ hlc
   ·rw[lQ hk0 _ hRl]at hj
    have hjl:j/ks.length<len:=by
     rcases Nat.lt_or_ge (j/ks.length) len with h|h
     ·exact h
     ·rw[Jc (by simpa using h)]at hj;cases hj
    rw[JO,Jp hjl]at hj
    simp only[Jj,Option.bind_some]at hj
    have h1:=hcell (j/ks.length) (j%ks.length) zA (Nat.mod_lt _ hk0)
    rw[hj]at h1
    unfold World.cell? at h1
    rw[ho]at h1
    simp only[Option.isSome_none,JS,if_false]at h1
    have e:off+j/ks.length*ks.length+j%ks.length=off+j:=by
     rw[IC,Nat.mul_comm,Nat.div_add_mod]
    rw[e]at h1
    exact h1
  ·obtain⟨i,hi,rfl⟩:=JL.1 hr
   have:=Jo.1 hi
   exact(hR i zA).1
end
namespace Vg
theorem sS {p:Prop}(h:p:=by repeat (first|exact trivial|refine⟨oS,?_⟩)):p:=h
theorem PG {p:Prop}(h:p:=by first|exact trivial|exact⟨rfl,trivial⟩|exact⟨rfl,rfl,trivial⟩|exact⟨rfl,rfl,rfl,trivial⟩|exact⟨rfl,rfl,rfl,rfl,trivial⟩|simp (maxSteps := 2000000) only [go_sem, Nat.reduceBEq, Nat.reduceAdd, Nat.reduceLT, Nat.reduceLeDiff, Nat.reduceEqDiff, reduceCtorEq, Int.reduceAdd, Int.reduceSub, Int.reduceNeg, Int.reduceLE, Int.reduceLT, Int.reduceToNat, Int.reduceBEq, Int.reduceBNe, Int.reduceEq, Int.reduceNe, Nat.reduceMul, Nat.reduceSub]):p:=h
theorem yN {P:Program}{C:Cx}{fn:Func}{v:V}{NM:Mem}{e:Env}{M:Mem}{sc:Prop}{r:V}(hR:yr P C fn v NM)(hcm:ClM NM)(hres:sA P e M fn.results.toList=some (sc,r):=by exact rfl)(hs:sc:=by exact PG)(hv:r=v:=by exact f9)(hsub:Sub NM M:=by first|exact SubS.sub sS|exact Sub.refl _)(hcv:ClV NM v:=by exact zG rfl):RetQ C e M:=zN hR hres hs hv hsub hcm hcv
theorem zp {P:Program}{C:Cx}{fn:Func}{n m:Bool}{e:Env}{M:Mem}(hR:yr P C fn (.c (.v (.bool n))) [])(hv:m=n){sc:Prop}(hres:sA P e M fn.results.toList=some (sc,.c (.v (.bool m))):=by exact rfl)(hs:sc:=by exact PG):RetQ C e M:=RetQ.bool hR hres hs hv
theorem ww {P:Program}{C:Cx}{fn:Func}{k:IntKind}{n m:Int}{e:Env}{M:Mem}(hR:yr P C fn (.c (.v (.int k n))) [])(hv:m=n){sc:Prop}(hres:sA P e M fn.results.toList=some (sc,.c (.v (.int k m))):=by exact rfl)(hs:sc:=by exact PG):RetQ C e M:=RetQ.int hR hres hs hv
theorem kN {P:Program}{f:FuncId}{fn:Func}{body:Code}{args:List V}{v:V}{M N:Mem}{k:Nat}(nx:Nat)(hf:P.funcs[f]?=some fn)(hent:Enters P f)(hk:fn.ntmps=k)
 (h:∀C,yr P C fn v (N++M)->Pins C.S M->run P fn.ntmps C 1000 [.code body] (wB 0 args) M nx)(hb:fn.body=some body:=by exact rfl)(hnt:args.length<=k:=by exact Nat.le_of_ble_eq_true rfl)(hcl:∀x∈args,ClV M x:=by exact v8 rfl)
 (hN:N.all (fun p=> !p.2.ro||(M.get p.1).isSome)=true:=by exact rfl)(hU:N.all (fun p=>match M.get p.1 with|some b=> !b.ro|none=>true)=true:=by exact rfl):CallOk P f args M v N:=jj nx hf hb hent (hk▸hnt) hcl hN hU h
theorem kO {P:Program}{f:FuncId}{fn:Func}{body:Code}{args:List V}{v:V}{k:Nat}(nx:Nat)(hf:P.funcs[f]?=some fn)(hent:Enters P f)(hk:fn.ntmps=k)(hcl:∀x∈args,ClV [] x)
 (h:∀C,yr P C fn v []->run P fn.ntmps C 1000 [.code body] (wB 0 args) [] nx)(hb:fn.body=some body:=by exact rfl)(hnt:args.length<=k:=by exact Nat.le_of_ble_eq_true rfl):CallOk P f args [] v []:=CallOk.mk nx hf hb hent (hk▸hnt) hcl h
end Vg
theorem _root_.Go.Proofs.YtbnkiacicnnmkaaGreat.Vg.Sm.dg {P:Program}{nt:Nat}{C:Cx}{r:List It}{e:Env}{M:Mem}{id:Nat}{rg:Array Oper}(nx k:Nat)(hm:P.follows .mixedOrders=true)
 (h:wz P nt C id rg r e M M k (wA P nt C (.ops rg (rg.toList.drop k)::r)) [] 0 (rg.toList.take k) e M nx) (hd:ut rg k=true:=by decide+kernel) (hn:rg.all (fun o=>yy nt o.dst)=true:=by decide+kernel):Sm P nt C (.code (.region id rg true)::r) e M:=cZ nx k hm hd hn h
theorem _root_.Go.Proofs.YtbnkiacicnnmkaaGreat.Vg.Sm.dgW {P:Program}{nt:Nat}{C:Cx}{r:List It}{e:Env}{M:Mem}{id:Nat}{rg:Array Oper}(W:List Nat)(nx k:Nat)(hm:P.follows .mixedOrders=true)
 (h:wz P nt C id rg r e (Mem.wo W M) M k (wA P nt C (.ops rg (rg.toList.drop k)::r)) [] 0 (rg.toList.take k) e M nx) (hd:ut rg k=true:=by decide+kernel) (hn:rg.all (fun o=>yy nt o.dst)=true:=by decide+kernel):Sm P nt C (.code (.region id rg true)::r) e M:=Z3 W nx k hm hd hn h
end Go.Proofs.YtbnkiacicnnmkaaGreat
