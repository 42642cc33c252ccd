/-  -/
import Derived.Test.YtlnpgbnhcondjaaGreatDoorShB
import Derived.Test.YtlnpgbnhcondjaaGreatDoorWD
namespace Go.Proofs.YtlnpgbnhcondjaaGreatDoor
namespace Vg
open Go.RowKit
set_option linter.unusedVariables false
set_option maxHeartbeats 1000000
structure Tg (P:Program) (S:Bs) (w0:World) (rg:Array Oper) (e0:Env) (M0 Mf:Mem) (k:Nat) (F:Nat→Bool) where
 E:Nat→Env
 MM:Nat→Mem
 G:Nat→Bool
 W:Nat→V
 N:Nat→Mem
 X:Nat→List Nat
 e0:E 0=e0
 m0:MM 0=Mf
 sub:∀n b,M0.get n=some b→Mf.get n=some b
 step:∀i,i<k→∃o Ms,rg[i]?=some o∧gd rg (E i) o=some (G i)∧E (i+1)=(E i).put o.dst (G i) (W i)∧MM (i+1)=N i++MM i∧(G i=true→F i=false→StpC P S w0 o (E i) Ms (W i) (N i))∧(G i=true∨N i=[])∧
  (F i=false→∀n b,Ms.get n=some b→M0.get n=some b∨((((N i).get n).isSome=true∨n∈X i)∧(MM i).get n=some b))∧(∀n,((N i).get n).isSome=true→M0.get n=none∧(F i=false→((Ms.get n).isSome=true∨(MM i).get n=none))∧∀i',i'<i→(((N i').get n).isSome=true∨n∈X i')→Anc rg i i' o)∧(∀n,n∈X i→∀i',i'<i→((N i').get n).isSome=true→Anc rg i i' o)
section
variable {P:Program} {S:Bs} {w0:World} {rg:Array Oper} {e0:Env} {M0 Mf:Mem} {k:Nat} {F:Nat→Bool} {df:List Deferred} {lp:Option Nat}
def Tg.env (T:Tg P S w0 rg e0 M0 Mf k F)(D:Nat→Bool):Nat→Env
 |0=>e0
 |j+1=>match rg[j]? with
  |some o=>if D j then(T.env D j).put o.dst (T.G j) (T.W j)else T.env D j
  |none=>T.env D j
def Tg.mem (T:Tg P S w0 rg e0 M0 Mf k F)(D:Nat→Bool):Nat→Mem
 |0=>Mf
 |j+1=>(if D j then T.N j else[])++T.mem D j
theorem Tg.env_all (T:Tg P S w0 rg e0 M0 Mf k F)(D:Nat→Bool):∀j,j≤k→(∀i,i<j→D i=true)→T.env D j=T.E j
 |0,_,_=>T.e0.symm
 |j+1,hj,h=>by
  obtain⟨o,_,ho,_,hE,_⟩:=T.step j (by omega)
  rw[Tg.env,ho,hE,T.env_all D j (by omega) (fun i hi=>h i (by omega))]
  simp[h j (by omega)]
theorem Tg.mem_all (T:Tg P S w0 rg e0 M0 Mf k F)(D:Nat→Bool):∀j,j≤k→(∀i,i<j→D i=true)→T.mem D j=T.MM j
 |0,_,_=>T.m0.symm
 |j+1,hj,h=>by
  obtain⟨o,_,ho,_,_,hM,_⟩:=T.step j (by omega)
  rw[Tg.mem,hM,T.mem_all D j (by omega) (fun i hi=>h i (by omega))]
  simp[h j (by omega)]
theorem Tg.env_at (T:Tg P S w0 rg e0 M0 Mf k F)(D:Nat→Bool)(t i:Nat)(hi:i≤k)(h:∀j o,j<k→rg[j]?=some o→o.dst=some t→(D j=true↔j<i)):∀j,j≤k→(T.env D j).get t=(T.E (min i j)).get t
 |0,_=>by rw[Tg.env,Nat.min_zero,T.e0]
 |j+1,hj=>by
  have ih:=T.env_at D t i hi h j (by omega)
  obtain⟨o,_,ho,_,hE,_⟩:=T.step j (by omega)
  simp only[Tg.env,ho]
  by_cases hd:o.dst=some t
  ·have hiff:=h j o (by omega) ho hd
   by_cases hji:j<i
   ·rw[if_pos (hiff.2 hji),show min i (j+1)=j+1 from by omega,hE,Env.get_put,Env.get_put,if_pos hd,if_pos hd]
   ·rw[if_neg (by rw[hiff];exact hji),ih]
    congr 2;omega
  ·have e1:(if D j=true then(T.env D j).put o.dst (T.G j) (T.W j)else T.env D j).get t=(T.env D j).get t:=by
    split
    ·rw[Env.get_put,if_neg hd]
    ·rfl
   rw[e1,ih]
   by_cases hji:j<i
   ·rw[show min i (j+1)=j+1 from by omega,show min i j=j from by omega,hE,Env.get_put,if_neg hd]
   ·congr 2;omega
theorem Tg.env_more (T:Tg P S w0 rg e0 M0 Mf k F)(D:Nat→Bool)(i:Nat)(o:Oper)(ho:rg[i]?=some o)(hD:D i=false)(hu:∀j o',j<k→j≠i→rg[j]?=some o'→∀d,o.dst=some d→o'.dst≠some d)(t:Nat):
  ∀j,j≤k→(T.env (fun x=>if x=i then true else D x) j).get t=if i<j∧o.dst=some t then some (T.G i,T.W i)else(T.env D j).get t
 |0,_=>by simp[Tg.env]
 |j+1,hj=>by
  have ih:=T.env_more D i o ho hD hu t j (by omega)
  obtain⟨o',_,ho',_⟩:=T.step j (by omega)
  simp only[Tg.env,ho']
  by_cases hji:j=i
  ·subst hji
   rw[ho]at ho'
   cases ho'
   simp only[if_true,hD,Bool.false_eq_true,if_false]
   rw[Env.get_put,ih]
   by_cases hd:o.dst=some t
   ·rw[if_pos hd,if_pos ⟨by omega,hd⟩]
   ·rw[if_neg hd,if_neg (fun hh=>hd hh.2),if_neg (fun hh=>hd hh.2)]
  ·simp only[if_neg hji]
   have hlt:(i<j+1)↔(i<j):=by omega
   simp only[hlt]
   by_cases hDj:D j=true
   ·simp only[hDj,if_true]
    rw[Env.get_put,Env.get_put,ih]
    by_cases hd':o'.dst=some t
    ·have hno:¬(i<j∧o.dst=some t):=fun hh=>hu j o' (by omega) hji ho' t hh.2 hd'
     rw[if_pos hd',if_neg hno,if_pos hd']
    ·rw[if_neg hd',if_neg hd']
   ·simp only[hDj]
    exact ih
theorem Tg.names0 (T:Tg P S w0 rg e0 M0 Mf k F){i n:Nat}(hi:i<k)(h1:((T.N i).get n).isSome=true):M0.get n=none:=by
 obtain⟨_,_,_,_,_,_,_,_,_,hf,_⟩:=T.step i hi
 exact(hf n h1).1
theorem Tg.behind (T:Tg P S w0 rg e0 M0 Mf k F){i j n:Nat}{o:Oper}(hij:i<j)(hj:j<k)(ho:rg[j]?=some o)(h1:((T.N i).get n).isSome=true∨n∈T.X i)(h2:((T.N j).get n).isSome=true):Anc rg j i o:=by
 obtain⟨o',_,ho',_,_,_,_,_,_,hf,_⟩:=T.step j hj
 rw[ho]at ho'
 cases ho'
 exact(hf n h2).2.2 i hij h1
theorem Tg.behindX (T:Tg P S w0 rg e0 M0 Mf k F){i j n:Nat}{o:Oper}(hij:i<j)(hj:j<k)(ho:rg[j]?=some o)(h1:((T.N i).get n).isSome=true)(h2:((T.N j).get n).isSome=true∨n∈T.X j):Anc rg j i o:=by
 rcases h2 with h2|h2
 ·exact T.behind hij hj ho (.inl h1) h2
 ·obtain⟨o',_,ho',_,_,_,_,_,_,_,hf⟩:=T.step j hj
  rw[ho]at ho'
  cases ho'
  exact hf n h2 i hij h1
theorem Tg.mem_own (T:Tg P S w0 rg e0 M0 Mf k F)(D:Nat→Bool){i n:Nat}{o:Oper}(hi:i<k)(ho:rg[i]?=some o)(hD:D i=false)(hcl:∀j o,j<k→D j=true→rg[j]?=some o→∀x,x∈aft o→D x=true)(hed:∀x,x∈aft o→D x=true)
  (h1:((T.N i).get n).isSome=true∨n∈T.X i):∀j,j≤k→(T.mem D j).get n=(T.MM (min i j)).get n
 |0,_=>by rw[Tg.mem,Nat.min_zero,T.m0]
 |j+1,hj=>by
  have ih:=T.mem_own D hi ho hD hcl hed h1 j (by omega)
  obtain⟨o',_,ho',_,_,hM,_⟩:=T.step j (by omega)
  rw[Tg.mem,Mem.get_append,ih]
  rcases Nat.lt_trichotomy j i with hji|hji|hji
  ·rw[show min i (j+1)=j+1 from by omega,show min i j=j from by omega,hM,Mem.get_append]
   cases h2:(T.N j).get n with
   |none=>split<;>simp[h2,Mem.get]
   |some c=>rw[if_pos ((T.behindX hji hi ho (by simp[h2]) h1).done hcl (by omega) hed),h2]
  ·subst hji
   rw[show min j (j+1)=j from by omega,show min j j=j from by omega]
   simp[hD,Mem.get]
  ·rw[show min i (j+1)=i from by omega,show min i j=i from by omega]
   split
   ·rename_i hDj
    cases h2:(T.N j).get n with
    |none=>simp
    |some c=>
     have:=(T.behind hji (by omega) ho' h1 (by simp[h2])).done hcl (by omega) (hcl j o' (by omega) hDj ho')
     rw[hD]at this;cases this
   ·simp[Mem.get]
theorem Tg.mem_base (T:Tg P S w0 rg e0 M0 Mf k F)(D:Nat→Bool){n:Nat}{b:Bk}(h:M0.get n=some b):∀j,j≤k→(T.mem D j).get n=some b
 |0,_=>T.sub _ _ h
 |j+1,hj=>by
  rw[Tg.mem,Mem.get_append,T.mem_base D h j (by omega)]
  split
  ·cases h2:(T.N j).get n with
   |none=>rfl
   |some c=>
    have:=T.names0 (i:=j) (n:=n) (by omega) (by simp[h2])
    rw[h]at this;cases this
  ·rfl
theorem Tg.mem_more (T:Tg P S w0 rg e0 M0 Mf k F)(D:Nat→Bool){i:Nat}(hi:i<k)(hD:D i=false)(hcl:∀j o,j<k→D j=true→rg[j]?=some o→∀x,x∈aft o→D x=true)(n:Nat):∀j,j≤k→(T.mem (fun x=>if x=i then true else D x) j).get n=if i<j then(T.N i++T.mem D j:Mem).get n else(T.mem D j).get n
 |0,_=>by simp[Tg.mem]
 |j+1,hj=>by
  have ih:=T.mem_more D hi hD hcl n j (by omega)
  rw[Tg.mem,Mem.get_append]
  by_cases hji:j=i
  ·subst hji
   rw[if_pos rfl,if_pos rfl,ih,if_neg (by omega),if_pos (by omega),Mem.get_append]
   simp only[Tg.mem,hD,Bool.false_eq_true,if_false,List.nil_append]
  ·simp only[if_neg hji]
   rw[ih]
   have h12:i<j→D j=true→∀b c,(T.N i).get n=some b→(T.N j).get n=some c→False:=fun hij hDj b c h1 h2=>by
    obtain⟨o',_,ho',_⟩:=T.step j (by omega)
    have:=(T.behind (n:=n) hij (by omega) ho' (.inl (by simp[h1])) (by simp[h2])).done hcl (by omega) (hcl j o' (by omega) hDj ho')
    rw[hD]at this;cases this
   by_cases hij:i<j
   ·simp only[hij,show i<j+1 from by omega,if_true,Tg.mem,Mem.get_append]
    by_cases hDj:D j=true
    ·simp only[hDj,if_true]
     cases h1:(T.N i).get n with
     |none=>simp
     |some b=>
      cases h2:(T.N j).get n with
      |none=>simp
      |some c=>exact(h12 hij hDj b c h1 h2).elim
    ·simp[hDj,Mem.get]
   ·simp only[hij,show ¬i<j+1 from by omega,if_false,Tg.mem,Mem.get_append]
def Tg.Inv (T:Tg P S w0 rg e0 M0 Mf k F)(S:Bs)(w0:World)(nt:Nat)(df:List Deferred)(D:Nat→Bool)(a:Act)(w:World):Prop:=
 ∃β,Rel S w0 β (T.mem D k) w∧EnvOk β (T.mem D k) (T.env D k) a∧a.tmps.size=nt∧a.defers=df
theorem Tg.step_any (T:Tg P S w0 rg e0 M0 Mf k F)(hdf:dfOk rg k=true){nt:Nat}(hnt:∀i o,i<k→rg[i]?=some o→∀t,o.dst=some t→t<nt){D:Nat→Bool}{i:Nat}(hi:i<k)(hD:D i=false)(hF:F i=false)
  (hcl:∀j o,j<k→D j=true→rg[j]?=some o→∀x,x∈aft o→D x=true) (hed:∀o,rg[i]?=some o→∀x,x∈aft o→D x=true) {a:Act} {w:World} (hinv:T.Inv S w0 nt df D a w) {K:Act→World→Prop} {Q:Exit→Act→World→Prop}
  (hk:∀a' w',T.Inv S w0 nt df (fun x=>if x=i then true else D x) a' w'→K a' w'):wpOpIn (fen lp) 0 P rg Q i K a w:=by
 obtain⟨β,hrel,hen,hsz,hdf0⟩:=hinv
 obtain⟨o,Ms,ho,hg,hE,hM,hs,hN,hMs,hf,_⟩:=T.step i hi
 -- what the operation looks at reads as in the text's order
 have hlook:∀t,t∈o.looksAt rg→(T.env D k).get t=(T.E i).get t:=by
  intro t ht
  have:=T.env_at D t i (by omega) (fun j o' hj ho' hd=>?_) k (Nat.le_refl _)
  ·rwa [show min i k=i from by omega]at this
  ·by_cases hji:j=i
   ·subst hji;simp[hD]
   ·rcases(dfOk_two hdf ho ho' hi hj hji t hd).2 ht with h|h
    ·exact⟨fun _=>dfOk_edges hdf ho j h,fun _=>hed o ho j h⟩
    ·constructor
     ·intro hh
      have:=hcl j o' hj hh ho' i h
      rw[hD]at this;cases this
     ·intro hh
      have:=dfOk_edges hdf ho' i h
      omega
 have hwant:Region.wanted o (yielded rg a.tmps)=T.G i:=gd_ok (β:=β) hg (fun j want t y hgd ht hy=>by
  refine hen β (Agree.refl _ _) t y ?_
  rw[hlook t ?_]
  ·exact hy
  ·simp[Oper.looksAt,hgd,ht])
 have hmore:∀β' (N':Mem) u w',(T.N i=N'∨(N'=[]∧T.N i=[]))→Agree (T.mem D k) β β'→Rel S w0 β' (T.N i++T.mem D k) w'→(∀β'',Agree (T.N i++T.mem D k) β' β''→u=gv β'' (T.G i,T.W i))→T.Inv S w0 nt df (fun x=>if x=i then true else D x) (a.put o.dst u) w':=by
  intro β' N' u w' _ hag hrel' hu
  have hget:∀n,(T.mem (fun x=>if x=i then true else D x) k).get n=(T.N i++T.mem D k:Mem).get n:=fun n=>by rw[T.mem_more D hi hD hcl n k (Nat.le_refl _),if_pos hi]
  refine⟨β',hrel'.ext hget,?_,by cases o.dst<;>simp[Act.put,hsz],by cases o.dst<;>simp[Act.put,hdf0]⟩
  have hput:=hen.put (N:=T.N i) hag hsz (hnt i o hi ho) hu
  intro β'' hag'' t x hx
  refine hput β'' (fun n hn=>hag'' n (by rw[hget];exact hn)) t x ?_
  rw[Env.get_put]
  rw[T.env_more D i o ho hD (fun j o' hj hne ho' d hd hd'=>(dfOk_two hdf ho ho' hi hj hne d hd').1 hd) t k (Nat.le_refl _)]at hx
  by_cases hd:o.dst=some t
  ·rw[if_pos ⟨hi,hd⟩]at hx;rw[if_pos hd];exact hx
  ·rw[if_neg (fun hh=>hd hh.2)]at hx;rw[if_neg hd];exact hx
 unfold wpOpIn
 simp only[ho,hwant]
 cases hGi:T.G i with
 |true=>
  simp only[if_true]
  refine Oper.wp_in lp (gd_nd hg).1 ?_
  refine hs hGi hF β (T.mem D k) a w (fun n b hb=>⟨b,?_,.inl rfl⟩) (fun n hn=>?_) hrel ?_ K Q ?_
  ·rcases hMs hF n b hb with h|⟨h1,h2⟩
   ·exact T.mem_base D h k (Nat.le_refl _)
   ·rw[T.mem_own D hi ho hD hcl (hed o ho) h1 k (Nat.le_refl _),show min i k=i from by omega]
    exact h2
  ·rcases(hf n hn).2.1 hF with h|h
   ·exact .inl h
   ·right
    rw[T.mem_own D hi ho hD hcl (hed o ho) (.inl hn) k (Nat.le_refl _),show min i k=i from by omega]
    exact h
  ·intro β' hag x hx y hy
   cases x with
   |tmp t=>
    have ht:t∈o.looksAt rg:=List.mem_append_left _ (List.mem_filterMap.2 ⟨.tmp t,by simpa using hx,rfl⟩)
    exact hen β' hag t y (by rw[hlook t ht];exact hy)
   |const v=>simp[rd]at hy;subst hy;simp[gv,cst_g,Act.eval]
   |global g=>simp[rd]at hy;subst hy;simp[gv,V.g,Cv.g,Act.eval]
   |func f=>simp[rd]at hy;subst hy;simp[gv,V.g,Cv.g,Act.eval]
  ·intro β' u w' hag hrel' hu
   exact hk _ _ (hmore β' _ u w' (.inl rfl) hag hrel' (fun β'' h=>by rw[hu β'' h,hGi];rfl))
 |false=>
  simp only[Bool.false_eq_true,if_false]
  have hN0:T.N i=[]:=by rcases hN with h|h;rw[hGi]at h;cases h;exact h
  refine⟨fun f _=>fen_fn lp f,?_⟩
  exact hk _ _ (hmore β [] undef w (.inr ⟨rfl,hN0⟩) (Agree.refl _ _) (by rw[hN0];exact hrel) (fun β'' _=>by rw[hGi];rfl))
theorem Tg.env_congr (T:Tg P S w0 rg e0 M0 Mf k F){D D':Nat→Bool}:∀j,(∀i,i<j→D i=D' i)→T.env D j=T.env D' j
 |0,_=>rfl
 |j+1,h=>by simp only[Tg.env,T.env_congr j (fun i hi=>h i (by omega)),h j (by omega)]
theorem Tg.mem_congr (T:Tg P S w0 rg e0 M0 Mf k F){D D':Nat→Bool}:∀j,(∀i,i<j→D i=D' i)→T.mem D j=T.mem D' j
 |0,_=>rfl
 |j+1,h=>by simp only[Tg.mem,T.mem_congr j (fun i hi=>h i (by omega)),h j (by omega)]
theorem Tg.inv_congr (T:Tg P S w0 rg e0 M0 Mf k F){D D':Nat→Bool}{nt:Nat}{a:Act}{w:World}(h:∀i,i<k→D i=D' i)(hi:T.Inv S w0 nt df D a w):T.Inv S w0 nt df D' a w:=by
 unfold Tg.Inv at*
 rw[←T.env_congr k h,←T.mem_congr k h]
 exact hi
theorem draw_gen (hdf:dfOk rg k=true){Q:Exit→Act→World→Prop}{J:(Nat→Bool)→Act→World→Prop}(hcg:∀D D' a w,(∀i,i<k→D i=D' i)→J D a w→J D' a w)
  (hst:∀D i a w (K:Act→World→Prop),i<k→D i=false→(∀j o,j<k→D j=true→rg[j]?=some o→∀x,x∈aft o→D x=true)→(∀o,rg[i]?=some o→∀x,x∈aft o→D x=true)→J D a w→(∀a' w',J (fun x=>if x=i then true else D x) a' w'→K a' w')→wpOpIn (fen lp) 0 P rg Q i K a w)
  (htail:∀a w,J (fun _=>true) a w→wpListIn (fen lp) 0 P rg Q (rg.toList.drop k) a w):∀(fuel:Nat) (L:Array Bool) (a:Act) (w:World),L.size=rg.size→(L.toList.filter (fun b=> !b)).length=fuel→(∀i,k≤i→i<rg.size→∀d,L.getD i d=false)→
   (∀j o,j<k→L.getD j false=true→rg[j]?=some o→∀x,x∈aft o→L.getD x false=true)→J (fun i=>L.getD i false) a w→wpAnyIn (fen lp) 0 P .any rg Q fuel L a w:=by
 have hkle:=dfOk_le hdf
 intro fuel
 induction fuel with
 |zero=>
  intro L a w hL hc hun hcl hinv
  have hall:∀i,i<rg.size→∀d,L.getD i d=true:=by
   intro i hi d
   have hlt:i<L.size:=by omega
   simp only[Array.getD_eq_getD_getElem?,Array.getElem?_eq_getElem hlt,Option.getD_some]
   have:=List.length_eq_zero_iff.1 hc
   rw[List.filter_eq_nil_iff]at this
   have:=this L[i] (by simp)
   simpa using this
  have hk:k=rg.size:=by
   by_cases h:k<rg.size
   ·have h1:=hun k (Nat.le_refl _) h false
    rw[hall k h false]at h1;cases h1
   ·omega
  exact tail_ok hdf 0 rg.size L a w rfl (by omega) hL (fun i hi d=>by rw[hall i hi d];simp[hi]) (by
   have:=htail a w (hcg _ _ _ _ (fun i hi=>hall i (by omega) false) hinv)
   rw[hk]at this
   exact this)
 |succ fuel ih=>
  intro L a w hL hc hun hcl hinv
  by_cases hdone:∀i,i<k→L.getD i false=true
  ·-- the first k are done
   have hl:∀i,i<rg.size→∀d,L.getD i d=decide (i<k):=by
    intro i hi d
    by_cases hik:i<k
    ·have:=hdone i hik
     have hlt:i<L.size:=by omega
     simp only[Array.getD_eq_getD_getElem?,Array.getElem?_eq_getElem hlt,Option.getD_some]at this⊢
     simp[this,hik]
    ·rw[hun i (by omega) hi d];simp[hik]
   have hcount:k+(fuel+1)=rg.size:=by
    have hLl:L.toList=(List.replicate k true)++List.replicate (rg.size-k) false:=by
     apply List.ext_getElem?
     intro i
     by_cases hi:i<rg.size
     ·have h1:=hl i hi false
      have hlt:i<L.size:=by omega
      rw[Array.getElem?_toList,Array.getElem?_eq_getElem hlt]
      simp only[Array.getD_eq_getD_getElem?,Array.getElem?_eq_getElem hlt,Option.getD_some]at h1
      rw[h1]
      by_cases hik:i<k
      ·rw[List.getElem?_append_left (by simpa using hik),List.getElem?_replicate,if_pos hik];simp[hik]
      ·rw[List.getElem?_append_right (by simpa using Nat.le_of_not_lt hik),List.getElem?_replicate,if_pos (by simp;omega)];simp[hik]
     ·rw[List.getElem?_eq_none (by simp;omega),List.getElem?_eq_none (by simp;omega)]
    rw[hLl]at hc
    simp at hc
    omega
   exact tail_ok hdf (fuel+1) k L a w hcount (Nat.le_refl _) hL hl (htail a w (hcg _ _ _ _ (fun i hi=>hdone i hi) hinv))
  ·-- one of the first k is not
   have hex:∃i,i<k∧L.getD i false=false∧∀j,j<i→L.getD j false=true:=by
    have:∃i,i<k∧L.getD i false=false:=by
     simp only[Classical.not_forall,Bool.not_eq_true]at hdone
     obtain⟨i,hi,h⟩:=hdone
     exact⟨i,hi,h⟩
    obtain⟨i,hi,h⟩:=this
    induction i using Nat.strongRecOn with
    |_ i ihh=>
     by_cases hj:∃j,j<i∧L.getD j false=false
     ·obtain⟨j,hji,hjf⟩:=hj
      exact ihh j hji (by omega) hjf
     ·refine⟨i,hi,h,fun j hji=>?_⟩
      cases hv:L.getD j false with
      |true=>rfl
      |false=>exact absurd ⟨j,hji,hv⟩ hj
   obtain⟨i0,hi0,hf0,hm0⟩:=hex
   have conv:∀i,i<rg.size→∀d,L.getD i d=L.getD i false:=by
    intro i hi d
    have hlt:i<L.size:=by omega
    simp only[Array.getD_eq_getD_getElem?,Array.getElem?_eq_getElem hlt,Option.getD_some]
   have hrdy:i0∈Region.ready .any rg L:=by
    have hlt:i0<rg.size:=by omega
    have ho:rg[i0]?=some rg[i0]:=Array.getElem?_eq_getElem hlt
    exact mem_ready.2 ⟨hlt,by rw[conv i0 hlt true];exact hf0,rg[i0],ho,fun x hx=>hm0 x (dfOk_edges hdf ho x hx)⟩
   refine⟨fun hh=>(by rw[hh]at hrdy;cases hrdy),fun i hi=>?_⟩
   obtain⟨h1,h2,o,ho,h3⟩:=mem_ready.1 hi
   rw[conv i h1 true]at h2
   have hik:i<k:=by
    by_cases hh:i<k
    ·exact hh
    ·have:=(dfOk_tail hdf ho (by omega) i0 (by omega)).done (k:=rg.size) (D:=fun x=>L.getD x false) (fun y o' hy hyd ho' x hx=>by
      by_cases hyk:y<k
      ·exact hcl y o' hyk hyd ho' x hx
      ·have:=hun y (by omega) hy false
       simp only[this]at hyd
       cases hyd) (by omega) h3
     simp only[hf0]at this;cases this
   refine hst (fun i=>L.getD i false) i a w _ hik h2 hcl (fun o' ho' x hx=>?_) hinv (fun a' w' hinv'=>?_)
   ·rw[ho]at ho';cases ho';exact h3 x hx
   ·have hset:∀d x,(L.setIfInBounds i true).getD x d=if x=i then true else L.getD x d:=fun d x=>getD_set (by omega) d x
    refine ih (L.setIfInBounds i true) a' w' (by simp[hL]) ?_ ?_ ?_ ?_
    ·have hlt:i<L.size:=by omega
     have hLi:L[i]=false:=by
      simp only[Array.getD_eq_getD_getElem?,Array.getElem?_eq_getElem hlt,Option.getD_some]at h2
      exact h2
     have hfl:∀(l:List Bool) (i:Nat),l[i]?=some false→((l.set i true).filter (fun b=> !b)).length+1=(l.filter (fun b=> !b)).length:=by
      intro l
      induction l with
      |nil=>intro i h;simp at h
      |cons x l ihl=>
       intro i h
       cases i with
       |zero=>simp at h;subst h;simp
       |succ i=>
        simp at h
        have:=ihl i h
        cases x<;>simp<;>omega
     have:=hfl L.toList i (by rw[Array.getElem?_toList,Array.getElem?_eq_getElem hlt,hLi])
     rw[Array.toList_setIfInBounds]
     omega
    ·intro x hx hxs d
     rw[hset d x,if_neg (by omega)]
     exact hun x hx hxs d
    ·intro j o' hj hjt ho' x hx
     rw[hset false x]
     by_cases hxi:x=i
     ·rw[if_pos hxi]
     ·rw[if_neg hxi]
      rw[hset false j]at hjt
      by_cases hji:j=i
      ·subst hji
       rw[ho]at ho';cases ho'
       exact h3 x hx
      ·rw[if_neg hji]at hjt
       exact hcl j o' hj hjt ho' x hx
    ·refine hcg _ _ _ _ (fun x _=>?_) hinv'
     rw[hset false x]
end
inductive PTr (P:Program) (rg:Array Oper) (e0:Env) (M0:Mem):List Oper→Env→Prop where
 |nil:PTr P rg e0 M0 [] e0
 |snoc {l:List Oper} {e:Env} {o:Oper} {g:Bool} {v:V} (h:PTr P rg e0 M0 l e) (hg:gd rg e o=some g) (hs:g=true→Stp P o e M0 v []):PTr P rg e0 M0 (l++[o]) (e.put o.dst g v)
theorem PTr.fn {P:Program}{rg:Array Oper}{e0:Env}{M0:Mem}{l:List Oper}{e:Env}(h:PTr P rg e0 M0 l e)(hl:∀i,i<l.length→rg[i]?=l[i]?):
  ∃(E:Nat→Env) (G:Nat→Bool) (W:Nat→V),E 0=e0∧E l.length=e∧∀i,i<l.length→∃o,rg[i]?=some o∧gd rg (E i) o=some (G i)∧E (i+1)=(E i).put o.dst (G i) (W i)∧(G i=true→Stp P o (E i) M0 (W i) []):=by
 induction h with
 |nil=>exact⟨fun _=>e0,fun _=>true,fun _=> .agg [],rfl,rfl,fun i hi=>absurd hi (by simp)⟩
 | @snoc l e o g v h hg hs ih=>
  obtain⟨E,G,W,h0,h1,h2⟩:=ih (fun i hi=>by rw[hl i (by simp;omega),List.getElem?_append_left hi])
  refine⟨fun i=>if i≤l.length then E i else e.put o.dst g v,fun i=>if i<l.length then G i else g,fun i=>if i<l.length then W i else v,by simpa using h0,by simp;intro hh;omega,fun i hi=>?_⟩
  rw[List.length_append,List.length_singleton]at hi
  by_cases hlt:i<l.length
  ·obtain⟨o',k1,k2,k3,k4⟩:=h2 i hlt
   refine⟨o',k1,?_,?_,?_⟩
   ·simpa[hlt,Nat.le_of_lt hlt]using k2
   ·simpa[hlt,Nat.le_of_lt hlt,Nat.succ_le_of_lt hlt]using k3
   ·simpa[hlt,Nat.le_of_lt hlt]using k4
  ·obtain rfl:i=l.length:=by omega
   refine⟨o,?_,?_,?_,?_⟩
   ·rw[hl l.length (by simp)];simp
   ·simpa[h1]using hg
   ·simp[h1];intro hh;omega
   ·simpa[h1]using hs
theorem Tg.mem0 {P:Program}{S:Bs}{w0:World}{rg:Array Oper}{e0:Env}{M0 Mf:Mem}{k:Nat}{F:Nat→Bool}(T:Tg P S w0 rg e0 M0 Mf k F)(D:Nat→Bool):∀j,(∀i,i<j→D i=true→T.N i=[])→T.mem D j=Mf
 |0,_=>rfl
 |j+1,h=>by
  rw[Tg.mem,T.mem0 D j (fun i hi=>h i (by omega))]
  split
  ·rename_i hd;rw[h j (by omega) hd];rfl
  ·rfl
theorem Tg.env_eq {P:Program}{S S':Bs}{w0 w0':World}{rg:Array Oper}{e0:Env}{M0 Mf Mf':Mem}{k:Nat}{F F':Nat→Bool}(T:Tg P S w0 rg e0 M0 Mf k F)(T':Tg P S' w0' rg e0 M0 Mf' k F')(D:Nat→Bool):∀j,(∀i,i<j→D i=true→T.G i=T'.G i∧T.W i=T'.W i)→T.env D j=T'.env D j
 |0,_=>rfl
 |j+1,h=>by
  rw[Tg.env,Tg.env,T.env_eq T' D j (fun i hi=>h i (by omega))]
  cases rg[j]? with
  |none=>rfl
  |some o=>
   simp only
   split
   ·rename_i hd;obtain⟨h1,h2⟩:=h j (by omega) hd;rw[h1,h2]
   ·rfl
def runP (P:Program)(rg:Array Oper)(M0:Mem)(kont:Env→Nat→Prop):List Oper→Env→Nat→Prop
 |[],e,nx=>kont e nx
 |o::l,e,nx=>
  match gd rg e o with
  |some g=>
   match opE P e M0 nx o.dst.isNone o.op with
   |some (sc,v,N,nx')=>((g=true→sc)∧N=[])∧runP P rg M0 kont l (e.put o.dst g v) nx'
   |none=>False
  |none=>False
theorem runP_ok {P:Program}{rg:Array Oper}{e0:Env}{M0:Mem}{kont:Env→Nat→Prop}:∀(l done:List Oper) (e:Env) (nx:Nat),runP P rg M0 kont l e nx→PTr P rg e0 M0 done e→∃e' nx',PTr P rg e0 M0 (done++l) e'∧kont e' nx'
 |[],done,e,nx,h,hp=>⟨e,nx,by rw[List.append_nil];exact hp,h⟩
 |o::l,done,e,nx,h,hp=>by
  simp only[runP]at h
  split at h
  ·rename_i g hg
   split at h
   ·rename_i sc v N nx' hop
    obtain⟨⟨h1,rfl⟩,h2⟩:=h
    obtain⟨e',nx'',k1,k2⟩:=runP_ok l (done++[o]) _ _ h2 (.snoc hp hg (fun hgt=>opE_ok hop (h1 hgt)))
    exact⟨e',nx'',by simpa using k1,k2⟩
   ·exact h.elim
  ·exact h.elim
def runB (P:Program)(nt:Nat)(C:Cx)(rg:Array Oper)(r:List It)(l:List Oper)(ob:Oper)(e:Env)(M:Mem)(nx:Nat):Prop:=
 match opY P e [] nx ob.op with
 |some (sc,v,N,nx')=>(sc∧freshB N M=true)∧run P nt C 1000 (.ops rg l::r) (e.put ob.dst true v) (N++M) nx'
 |none=>False
def XQ (P:Program)(nt:Nat)(C:Cx)(rg:Array Oper)(r:List It)(M0:Mem)(oc ob:Oper)(l:List Oper)(f:FuncId)(vs:List (Option (Bool×V)))(e:Env)(Mf:Mem):Prop:=
 ∃(C0:Cx) (H:Hp) (α:Type) (v:α→V) (N:α→Mem) (Q:α→Hp→Prop) (M1:Mem) (xs:List V) (nx:Nat),vs=xs.map (fun x=>some (true,x))∧Lf C0 C∧CallX H P f xs M1 v N Q∧H.le C.hp∧Sub M1 Mf∧ClM M1∧(∀x,Fresh (N x) M1 Mf)∧(∀x,freshB (N x) M0=true)∧
  ∀x Cn H',Lf C0 Cn→C.hp.le Cn.hp→H'.le Cn.hp→Q x H'→runB P nt Cn rg r l ob (e.put oc.dst true (v x)) (N x++Mf) nx
def kontX (P:Program)(nt:Nat)(C:Cx)(rg:Array Oper)(r:List It)(M0 Mf:Mem)(L:List Oper)(e:Env):Prop:=
 match L with
 |oc::ob::l=>
  match callOf e oc.op with
  |some (g,f,vs)=>g=true∧XQ P nt C rg r M0 oc ob l f vs e Mf
  |none=>False
 |_=>False
def ugB (o:Oper):Bool:= !isDef o.op&&o.guard.isNone
theorem ug_ok {rg:Array Oper}{o:Oper}(h:ugB o=true)(e:Env):gd rg e o=some true:=by
 unfold ugB at h
 simp only[Bool.and_eq_true,Bool.not_eq_true',Option.isNone_iff_eq_none]at h
 unfold gd gd0
 simp[h.1,h.2]
attribute [go_sem] runP runB kontX freshB
end Vg
namespace Vg
open Go.RowKit
set_option linter.unusedVariables false
set_option linter.unusedSimpArgs false
set_option maxHeartbeats 1000000
def Tg.mkY {P:Program}{rg:Array Oper}{e0:Env}{M0 Mf:Mem}{c:Nat}(S:Bs)(w0:World)(F:Nat→Bool){E:Nat→Env}{G:Nat→Bool}{W:Nat→V}{oc ob:Oper}(h0:E 0=e0)(hM0:∀n b,M0.get n=some b→Mf.get n=some b)
  (hE:∀i,i<c→∃o,rg[i]?=some o∧gd rg (E i) o=some (G i)∧E (i+1)=(E i).put o.dst (G i) (W i)∧(G i=true→Stp P o (E i) M0 (W i) []))
  (hoc:rg[c]?=some oc) (hob:rg[c+1]?=some ob) (hgc:∀e,gd rg e oc=some true) (hgb:∀e,gd rg e ob=some true) (vc vb:V) (Nc:Mem) (hF:F c=true)
  (hNc:∀n,(Nc.get n).isSome=true→M0.get n=none)
  (hb:Stp P ob ((E c).put oc.dst true vc) M0 vb []):Tg P S w0 rg e0 M0 Mf (c+2) F where
 E i:=if i≤c then E i else if i=c+1 then(E c).put oc.dst true vc else((E c).put oc.dst true vc).put ob.dst true vb
 MM i:=if i≤c then Mf else Nc++Mf
 G i:=if i<c then G i else true
 W i:=if i<c then W i else if i=c then vc else vb
 N i:=if i=c then Nc else[]
 X _:=[]
 e0:=by simpa using h0
 m0:=by simp
 sub:=hM0
 step:=by
  intro i hi
  by_cases h1:i<c
  ·obtain⟨o,k1,k2,k3,k4⟩:=hE i h1
   have hne:¬i=c:=by omega
   refine⟨o,M0,k1,?_,?_,?_,?_,?_,?_,?_,?_⟩
   ·simpa[h1,Nat.le_of_lt h1]using k2
   ·simpa[h1,Nat.le_of_lt h1,Nat.succ_le_of_lt h1]using k3
   ·simp[h1,hne,Nat.le_of_lt h1,Nat.succ_le_of_lt h1]
   ·intro g _
    simp only[h1,hne,Nat.le_of_lt h1,if_true,if_false]at g⊢
    exact(k4 g).toC
   ·simp[hne]
   ·exact fun _ n b hb=> .inl hb
   ·intro n hn
    simp[hne,Mem.get]at hn
   ·intro n hn;cases hn
  ·by_cases h2:i=c
   ·subst h2
    have q1:¬(i+1≤i):=by omega
    refine⟨oc,[],hoc,?_,?_,?_,?_,?_,?_,?_,?_⟩
    ·simpa using hgc _
    ·simp[q1]
    ·simp[q1]
    ·intro _ hf;rw[hF]at hf;cases hf
    ·simp
    ·intro hf;rw[hF]at hf;cases hf
    ·intro n hn
     simp only[if_true]at hn
     refine⟨hNc n hn,fun hf=>(by rw[hF]at hf;cases hf),fun i' hi' hh=>?_⟩
     have:¬i'=i:=by omega
     simp[this,Mem.get]at hh
    ·intro n hn;cases hn
   ·obtain rfl:i=c+1:=by omega
    have q1:¬(c+1≤c):=by omega
    have q2:¬(c+1+1≤c):=by omega
    have q3:¬(c+1<c):=by omega
    refine⟨ob,M0,hob,?_,?_,?_,?_,?_,?_,?_,?_⟩
    ·simpa[q1,q3]using hgb _
    ·simp[q1,q2,q3]
    ·simp[q1,q2,q3]
    ·intro _ hf
     simpa[q1,q2,q3]using hb.toC
    ·simp
    ·exact fun _ n b hb=> .inl hb
    ·intro n hn
     simp[Mem.get]at hn
    ·intro n hn;cases hn
theorem Sm.drawY {P:Program}{nt:Nat}{C0 C:Cx}{r:List It}{id c:Nat}{rg:Array Oper}{e0 e:Env}{M0 Mf M1:Mem}{oc ob:Oper}{f:FuncId}{vs:List (Option (Bool×V))}{xs:List V}{H:Hp}{α:Type}{v:α→V}{N:α→Mem}{Q:α→Hp→Prop}
  (hmix:P.follows .mixedOrders=true) (hdf:dfOk rg (c+2)=true) (hnt:rg.all (fun o=>dstOk nt o.dst)=true) (hM0:∀n b,M0.get n=some b→Mf.get n=some b)
  (hpt:PTr P rg e0 M0 (rg.toList.take c) e) (hoc:rg[c]?=some oc) (hob:rg[c+1]?=some ob) (hgc:∀e,gd rg e oc=some true) (hgb:∀e,gd rg e ob=some true)
  (hq:callOf e oc.op=some (true,f,vs)) (hvs:vs=xs.map fun x=>some (true,x)) (hL:Lf C0 C) (hc:CallX H P f xs M1 v N Q) (hH:H.le C.hp) (hs:Sub M1 Mf) (hcl:ClM M1) (hfr:∀x,Fresh (N x) M1 Mf) (hN0:∀x n,((N x).get n).isSome=true→M0.get n=none)
  (vb:V) (hsb:∀u,Stp P ob (e.put oc.dst true u) M0 vb [])
  (hb:∀x Cn H',Lf C0 Cn→C.hp.le Cn.hp→H'.le Cn.hp→Q x H'→Sm P nt Cn (.ops rg (rg.toList.drop (c+2))::r) ((e.put oc.dst true (v x)).put ob.dst true vb) (N x++Mf)):
  Sm P nt C (.code (.region id rg true)::r) e0 Mf:=by
 have hkle:=dfOk_le hdf
 have hlen:(rg.toList.take c).length=c:=by simp;omega
 obtain⟨E,G,W,h0,h1,hE⟩:=hpt.fn (fun i hi=>by rw[hlen]at hi;rw[List.getElem?_take,if_pos hi,Array.getElem?_toList])
 rw[hlen]at h1 hE
 subst h1
 have hntd:∀(i:Nat) (o:Oper),rg[i]?=some o→∀t,o.dst=some t→t<nt:=fun i o ho t ht=>by
  rw[Array.all_eq_true_iff_forall_mem]at hnt
  have:=hnt o (Array.mem_of_getElem? ho)
  rw[ht]at this
  simpa[dstOk]using this
 have hNf:∀n:Nat,(Mem.get [] n).isSome=true→False:=fun n h=>by simp[Mem.get]at h
 have T1:∃T1:Tg P C.S C.w0 rg e0 M0 Mf (c+2) (fun i=>i==c),(∀i,T1.N i=[])∧T1.E c=E c∧(∀i,i<c→T1.G i=G i∧T1.W i=W i)∧T1.G (c+1)=true∧T1.W (c+1)=vb:=
  ⟨Tg.mkY (E:=E) (G:=G) (W:=W) C.S C.w0 (fun i=>i==c) h0 hM0 hE hoc hob hgc hgb (.agg []) vb [] (by simp) (fun n h=>(hNf n h).elim) (hsb _),
   fun i=>by show(if i=c then[]else[])=_;simp,by show(if c≤c then E c else _)=_;simp,fun i hi=>⟨by show(if i<c then G i else true)=_;simp[hi],by show(if i<c then W i else _)=_;simp[hi]⟩,by show(if c+1<c then _ else true)=_;simp,by show(if c+1<c then _ else if c+1=c then _ else vb)=_;rw[if_neg (by omega),if_neg (by omega)]⟩
 obtain⟨T1,t1N,t1E,t1G,t1Gb,t1Wb⟩:=T1
 let J:(Nat→Bool)→Act→World→Prop:=fun D a w=>(D c=false∧T1.Inv C.S C.w0 nt C.df D a w)∨(D c=true∧∃(Cn:Cx) (T2:Tg P Cn.S Cn.w0 rg e0 M0 Mf (c+2) (fun i=>i==c)),Lf C0 Cn∧Sm P nt Cn (.ops rg (rg.toList.drop (c+2))::r) (T2.E (c+2)) (T2.MM (c+2))∧T2.Inv Cn.S Cn.w0 nt C.df D a w)
 intro β a w hr1 hr2 hr3 hr4
 have hstart:T1.Inv C.S C.w0 nt C.df (fun _=>false) a {w with drawn:=w.drawn+1}:=by
  have hm:T1.mem (fun _=>false) (c+2)=Mf:=T1.mem0 _ _ (fun i _ _=>t1N i)
  have he:∀j,T1.env (fun _=>false) j=e0:=by
   intro j
   induction j with
   |zero=>rfl
   |succ j ih=>rw[Tg.env];cases rg[j]?<;>simp[ih]
  exact⟨β,by rw[hm];exact hr1.drew,by rw[hm,he];exact hr2,hr3,hr4⟩
 refine wpIn_region_any hmix (draw_gen hdf (J:=J) (lp:=C.lp) ?_ ?_ ?_ rg.size _ a _ (by simp) (by simp) (fun i _ hi d=>by simp[hi]) (fun j o _ hj=>by
  by_cases hjs:j<rg.size
  ·simp[hjs]at hj
  ·simp[hjs]at hj) ?_)
 ·-- the same set
  intro D D' a w h hJ
  rcases hJ with⟨k1,k3⟩|⟨k1,Cn,T2,k2,k3,k4⟩
  ·exact .inl ⟨by rw[←h c (by omega)];exact k1,T1.inv_congr h k3⟩
  ·exact .inr ⟨by rw[←h c (by omega)];exact k1,Cn,T2,k2,k3,T2.inv_congr h k4⟩
 ·-- a step
  intro D i a w K hi hD hcd hed hJ hk
  rcases hJ with⟨k1,k3⟩|⟨k1,Cn,T2,k2,k3,k4⟩
  ·by_cases hic:i=c
   ·subst hic
    obtain⟨β,hrel,hen,hsz,hdf0⟩:=k3
    have hm:T1.mem D (i+2)=Mf:=T1.mem0 _ _ (fun j _ _=>t1N j)
    rw[hm]at hrel hen
    have hlook:∀t,t∈oc.looksAt rg→(T1.env D (i+2)).get t=(E i).get t:=by
     intro t ht
     have:=T1.env_at D t i (by omega) (fun j o' hj ho' hd=>?_) (i+2) (Nat.le_refl _)
     ·rw[show min i (i+2)=i from by omega,t1E]at this
      exact this
     ·by_cases hji:j=i
      ·subst hji;simp[hD]
      ·rcases(dfOk_two hdf hoc ho' (by omega) hj hji t hd).2 ht with h|h
       ·exact⟨fun _=>dfOk_edges hdf hoc j h,fun _=>hed oc hoc j h⟩
       ·constructor
        ·intro hh
         have:=hcd j o' hj hh ho' i h
         rw[hD]at this;cases this
        ·intro hh
         have:=dfOk_edges hdf ho' i h
         omega
    have hwant:Region.wanted oc (yielded rg a.tmps)=true:=gd_ok (β:=β) (hgc (E i)) (fun j want t y hgd ht hy=>by
     refine hen β (Agree.refl _ _) t y ?_
     rw[hlook t ?_]
     ·exact hy
     ·simp[Oper.looksAt,hgd,ht])
    have hok:OpOk β Mf (E i) oc a:=by
     intro β' hag x hx y hy
     cases x with
     |tmp t=>
      have ht:t∈oc.looksAt rg:=List.mem_append_left _ (List.mem_filterMap.2 ⟨.tmp t,by simpa using hx,rfl⟩)
      exact hen β' hag t y (by rw[hlook t ht];exact hy)
     |const v=>simp[rd]at hy;subst hy;simp[gv,cst_g,Act.eval]
     |global g=>simp[rd]at hy;subst hy;simp[gv,V.g,Cv.g,Act.eval]
     |func f=>simp[rd]at hy;subst hy;simp[gv,V.g,Cv.g,Act.eval]
    unfold wpOpIn
    simp only[hoc,hwant,if_true]
    refine Oper.wp_in C.lp (gd_nd (hgc (E i))).1 ?_
    unfold Oper.wp
    rw[callO_run (M':=Mf) hq hvs hc.1 hok,Oper.upon_enter]
    refine(hc.at hL hH hs hcl hfr hrel).mono ?_
    rintro en w' ⟨x,Cn,β2,u,H',rfl,l1,l2,l3,hQ,g1,g2,g3⟩
    have hS:=hb x Cn H' l1 l2 l3 hQ
    have T2:∃T2:Tg P Cn.S Cn.w0 rg e0 M0 Mf (i+2) (fun j=>j==i),(∀j,j≠i→T2.N j=[])∧T2.N i=N x∧(∀j,j<i→T2.G j=G j∧T2.W j=W j)∧T2.G i=true∧T2.W i=v x∧T2.G (i+1)=true∧T2.W (i+1)=vb∧T2.E (i+2)=((E i).put oc.dst true (v x)).put ob.dst true vb∧T2.MM (i+2)=N x++Mf:=
     ⟨Tg.mkY (E:=E) (G:=G) (W:=W) Cn.S Cn.w0 (fun j=>j==i) h0 hM0 hE hoc hob hgc hgb (v x) vb (N x) (by simp) (hN0 x) (hsb _),
      fun j hj=>by show(if j=i then _ else[])=_;rw[if_neg hj],by show(if i=i then N x else[])=_;simp,fun j hj=>⟨by show(if j<i then G j else true)=_;simp[hj],by show(if j<i then W j else _)=_;simp[hj]⟩,
      by show(if i<i then G i else true)=_;simp,by show(if i<i then W i else if i=i then v x else vb)=_;simp,
      by show(if i+1<i then _ else true)=_;simp,by show(if i+1<i then _ else if i+1=i then _ else vb)=_;rw[if_neg (by omega),if_neg (by omega)],
      by show(if i+2≤i then E (i+2)else if i+2=i+1 then _ else _)=_;rw[if_neg (by omega),if_neg (by omega)],by show(if i+2≤i then Mf else _)=_;rw[if_neg (by omega)]⟩
    obtain⟨T2,t2N,t2Nc,t2G,t2Gc,t2Wc,t2Gb,t2Wb,t2E,t2M⟩:=T2
    have hlt:∀j,j<i+2→D j=true→j≠i:=fun j hj hd h1=>by
     subst h1;rw[k1]at hd;cases hd
    refine hk _ _ (.inr ⟨by simp,Cn,T2,l1,by rw[t2E,t2M];exact hS,?_⟩)
    have hget:∀n,(T2.mem (fun y=>if y=i then true else D y) (i+2)).get n=(N x++Mf:Mem).get n:=fun n=>by
     rw[T2.mem_more D (by omega) hD hcd n (i+2) (Nat.le_refl _),if_pos (by omega),t2Nc,T2.mem0 D (i+2) (fun j hj hd=>t2N j (hlt j hj hd))]
    have henv:T2.env D (i+2)=T1.env D (i+2):=T2.env_eq T1 D (i+2) (fun j hj hd=>by
     have hne:=hlt j hj hd
     by_cases hji:j<i
     ·have h1:=t2G j hji
      have h2:=t1G j hji
      exact⟨h1.1.trans h2.1.symm,h1.2.trans h2.2.symm⟩
     ·obtain rfl:j=i+1:=by omega
      exact⟨t2Gb.trans t1Gb.symm,t2Wb.trans t1Wb.symm⟩)
    refine⟨β2,g2.ext hget,?_,by cases oc.dst<;>simp[Act.put,hsz],by cases oc.dst<;>simp[Act.put,hdf0]⟩
    have hput:=hen.put (N:=N x) (g:=true) (v:=v x) (u:=u) g1 hsz (hntd i oc hoc) (fun β'' h=>by rw[g3 β'' h];rfl)
    intro β'' hag'' t y hy
    refine hput β'' (fun n hn=>hag'' n (by rw[hget];exact hn)) t y ?_
    rw[Env.get_put]
    rw[T2.env_more D i oc hoc hD (fun j o' hj hne ho' d hd hd'=>(dfOk_two hdf hoc ho' (by omega) hj hne d hd').1 hd) t (i+2) (Nat.le_refl _),t2Gc,t2Wc,henv]at hy
    by_cases hd:oc.dst=some t
    ·rw[if_pos ⟨by omega,hd⟩]at hy;rw[if_pos hd];exact hy
    ·rw[if_neg (fun hh=>hd hh.2)]at hy;rw[if_neg hd];exact hy
   ·refine T1.step_any hdf (fun i o _ ho=>hntd i o ho) hi hD (by simpa using hic) hcd hed k3 (fun a' w' hh=>hk a' w' (.inl ⟨?_,hh⟩))
    show(if c=i then true else D c)=false
    rw[if_neg (fun h=>hic h.symm)];exact k1
  ·have hic:i≠c:=fun h=>by subst h;rw[k1]at hD;cases hD
   refine T2.step_any hdf (fun i o _ ho=>hntd i o ho) hi hD (by simpa using hic) hcd hed k4 (fun a' w' hh=>hk a' w' (.inr ⟨?_,Cn,T2,k2,k3,hh⟩))
   show(if c=i then true else D c)=true
   rw[if_neg (fun h=>hic h.symm)];exact k1
 ·-- the rest
  intro a w hJ
  rcases hJ with⟨k1,_⟩|⟨_,Cn,T2,k2,k3,k4⟩
  ·cases k1
  ·obtain⟨β',g1,g2,g3,g4⟩:=k4
   rw[T2.mem_all _ _ (Nat.le_refl _) (fun _ _=>rfl)]at g1 g2
   rw[T2.env_all _ _ (Nat.le_refl _) (fun _ _=>rfl)]at g2
   have:=k3 β' a w g1 g2 g3 (g4.trans (hL.df.trans k2.df.symm))
   rw[k2.q,←hL.q,k2.lp,←hL.lp]at this
   exact this
 ·have q1:c<rg.size:=by omega
  have q2:c+1<rg.size:=by omega
  exact .inl ⟨by simp[q1],T1.inv_congr (D:=fun _=>false) (fun i hi=>by rw[Array.getD_eq_getD_getElem?,Array.getElem?_replicate,if_pos (by omega)];rfl) hstart⟩
theorem Stp.putN {P:Program}{o:Oper}{e:Env}{M N:Mem}{v:V}(h:Stp P o e M v N){d:Option Nat}{g:Bool}{u:V}(hd:∀t,d=some t→Operand.tmp t∉o.op.operands):Stp P o (e.put d g u) M v N:=fun S w0 β M' a w hs hf hr hok K Q hK=>by
 refine h S w0 β M' a w hs hf hr (fun β' hag x hx y hy=>?_) K Q hK
 refine hok β' hag x hx y ?_
 cases x with
 |tmp t=>
  show(e.put d g u).get t=some y
  rw[Env.get_put]
  by_cases hdt:d=some t
  ·exact absurd hx (hd t hdt)
  ·rw[if_neg hdt];exact hy
 |const v=>exact hy
 |global g=>exact hy
 |func f=>exact hy
def XY (P:Program)(nt:Nat)(C:Cx)(rg:Array Oper)(r:List It)(M0:Mem)(oc ob:Oper)(l:List Oper)(f:FuncId)(vs:List (Option (Bool×V)))(e:Env)(Mf:Mem)(vb:V):Prop:=
 ∃(C0:Cx) (H:Hp) (α:Type) (v:α→V) (N:α→Mem) (Q:α→Hp→Prop) (M1:Mem) (xs:List V) (nx:Nat),vs=xs.map (fun x=>some (true,x))∧Lf C0 C∧CallX H P f xs M1 v N Q∧H.le C.hp∧Sub M1 Mf∧ClM M1∧(∀x,Fresh (N x) M1 Mf)∧(∀x,freshB (N x) M0=true)∧
  ∀x Cn H',Lf C0 Cn→C.hp.le Cn.hp→H'.le Cn.hp→Q x H'→run P nt Cn 1000 (.ops rg l::r) ((e.put oc.dst true (v x)).put ob.dst true vb) (N x++Mf) nx
theorem XY.x {P:Program}{nt:Nat}{C0 C:Cx}{rg:Array Oper}{r:List It}{M0 Mf M1:Mem}{oc ob:Oper}{l:List Oper}{f:FuncId}{vs:List (Option (Bool×V))}{e:Env}{vb:V}{H:Hp}{α:Type}{v:α→V}{N:α→Mem}{Q:α→Hp→Prop}{xs:List V}(nx:Nat)(hL:Lf C0 C)(hc:CallX H P f xs M1 v N Q)(hH:H.le C.hp)
  (hs:SubS M1 Mf) (hcl:ClM M1) (hvs:vs=xs.map fun x=>some (true,x)) (hfr:∀x,(N x).all (fun p=>(M1.get p.1).isSome||(Mf.get p.1).isNone)=true) (h0:∀x,freshB (N x) M0=true)
  (h:∀x Cn H',Lf C0 Cn→C.hp.le Cn.hp→H'.le Cn.hp→Q x H'→run P nt Cn 1000 (.ops rg l::r) ((e.put oc.dst true (v x)).put ob.dst true vb) (N x++Mf) nx):XY P nt C rg r M0 oc ob l f vs e Mf vb:=
 ⟨C0,H,α,v,N,Q,M1,xs,nx,hvs,hL,hc,hH,hs.sub,hcl,fun x=>Fresh.of (hfr x),h0,h⟩
def kontY (P:Program)(nt:Nat)(C:Cx)(rg:Array Oper)(r:List It)(M0 Mf:Mem)(L:List Oper)(e:Env):Prop:=
 match L with
 |oc::ob::l=>
  match callOf e oc.op with
  |some (g,f,vs)=>
   match opE P e M0 0 ob.dst.isNone ob.op with
   |some (sc,vb,N,_)=>(g=true∧sc∧N=[])∧XY P nt C rg r M0 oc ob l f vs e Mf vb
   |none=>False
  |none=>False
 |_=>False
def shY (rg:Array Oper)(c:Nat):Bool:=match rg.toList.drop c with|oc::ob::_=>ugB oc&&(ugB ob&&(match oc.dst with|some t=>ob.op.operands.toList.all (fun x=>match x with| .tmp s=>s !=t|_=>true)|none=>true))|_=>false
theorem Sm.dgoY {P:Program}{nt:Nat}{C:Cx}{r:List It}{e0:Env}{Mf:Mem}{id:Nat}{rg:Array Oper}(W:List Nat)(nx c:Nat)(hmix:P.follows .mixedOrders=true)(hdf:(dfOk rg (c+2)&&shY rg c)=true)(hnt:rg.all (fun o=>dstOk nt o.dst)=true)
  (h:runP P rg (Mem.wo W Mf) (fun e _=>kontY P nt C rg r (Mem.wo W Mf) Mf (rg.toList.drop c) e) (rg.toList.take c) e0 nx):Sm P nt C (.code (.region id rg true)::r) e0 Mf:=by
 rw[Bool.and_eq_true]at hdf
 obtain⟨hdf,hsh⟩:=hdf
 obtain⟨e,nx',hp,hk⟩:=runP_ok (rg.toList.take c) [] e0 nx h .nil
 rw[List.nil_append]at hp
 unfold kontY at hk
 unfold shY at hsh
 split at hk
 ·rename_i oc ob l hd
  rw[hd]at hsh
  simp only[Bool.and_eq_true]at hsh
  obtain⟨u1,u2,u3⟩:=hsh
  split at hk
  ·rename_i g f vs hq
   split at hk
   ·rename_i sc vb Nb nx3 hop
    obtain⟨⟨rfl,hsc,rfl⟩,C0,H,α,v,N,Q,M1,xs,nx2,hvs,hL,hc,hH,hs,hcl,hfr,h0,hb⟩:=hk
    have g0:rg[c]?=some oc:=by
     have:(rg.toList.drop c)[0]?=some oc:=by rw[hd];rfl
     rw[List.getElem?_drop]at this
     simpa using this
    have g1:rg[c+1]?=some ob:=by
     have:(rg.toList.drop c)[1]?=some ob:=by rw[hd];rfl
     rw[List.getElem?_drop]at this
     simpa using this
    have g2:rg.toList.drop (c+2)=l:=by
     have:(rg.toList.drop c).drop 2=l:=by rw[hd];rfl
     rw[List.drop_drop]at this
     exact this
    refine Sm.drawY hmix hdf hnt (fun n b hb=>Mem.wo_get hb) hp g0 g1 (ug_ok u1) (ug_ok u2) hq hvs hL hc hH hs hcl hfr (fun x n hn=>freshB_ok (h0 x) n hn) vb (fun u=>(opE_ok hop hsc).putN (fun t ht hm=>?_)) (fun x Cn H' l1 l2 l3 hQ=>?_)
    ·rw[ht]at u3
     have u3:ob.op.operands.toList.all (fun x=>match x with| .tmp s=>s !=t|_=>true)=true:=u3
     have:=List.all_eq_true.1 u3 _ (by simpa using hm)
     simp at this
    ·rw[g2]
     exact run_ok 1000 _ _ _ nx2 (hb x Cn H' l1 l2 l3 hQ)
   ·exact hk.elim
  ·exact hk.elim
 ·exact hk.elim
attribute [go_sem] kontY
end Vg
end Go.Proofs.YtlnpgbnhcondjaaGreatDoor
