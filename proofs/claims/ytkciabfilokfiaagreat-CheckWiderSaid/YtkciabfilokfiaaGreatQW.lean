/-  -/
import Derived.Test.YtkciabfilokfiaaGreatPS
import Derived.Test.YtkciabfilokfiaaGreatXG2
import Derived.Test.YtkciabfilokfiaaGreatQT
namespace Go.Proofs.YtkciabfilokfiaaGreat.Fx
set_option linter.unusedVariables false
set_option maxHeartbeats 4000000
theorem lB_mono {a b:Ft}{x x' y y':Int}(ha:fin a x=fin a x')(hb:fin b y=fin b y')(hx:x'≤x)(hy:y≤y')(h:lB a x b y=true):lB a x' b y'=true:=by
 unfold lB at h⊢
 have e:lErr a x' b y'=lErr a x b y:=by unfold lErr;rw[ha,hb]
 rw[e]
 split at h
 ·rename_i h0
  rw[if_pos h0]
  have hf:fok a=true∧fok b=true:=by
   unfold lErr at h0
   split at h0
   ·cases h0
   ·rename_i hh
    cases hka:fok a with
    |false=>rw[hka]at hh;simp at hh
    |true=>cases hkb:fok b with
     |false=>rw[hkb]at hh;simp at hh
     |true=>exact⟨rfl,rfl⟩
  have h:=of_decide_eq_true h
  have m1:=fnu_mono hf.1 hx
  have m2:=fnu_mono hf.2 hy
  have b1:=fok_bd hf.1
  have b2:=fok_bd hf.2
  have q1:=Int.mul_le_mul_of_nonneg_right m1 (show 0≤b.den by omega)
  have q2:=Int.mul_le_mul_of_nonneg_right m2 (show 0≤a.den by omega)
  exact decide_eq_true (by omega)
 ·cases h
theorem fin_gd {a:Ft}{r:Int×Int}{x y:Int}(h:gdR a r)(ha:fok a=true)(h1:r.1≤x)(h2:x≤r.2)(h3:r.1≤y)(h4:y≤r.2):fin a x=fin a y:=by rw[fin_of h ha h1 h2,fin_of h ha h3 h4]
theorem lB_in {a b:Ft}{ra ra' rb rb':Int×Int}{x x' y y':Int}(ga:gdR a ra')(gb:gdR b rb')(h1:ra'.1≤x')(hx:x'≤x)(h2:x≤ra'.2)(h3:rb'.1≤y)(hy:y≤y')(h4:y'≤rb'.2)(h:lB a x b y=true):lB a x' b y'=true:=by
 have hf:fok a=true∧fok b=true:=by
  unfold lB at h
  split at h
  ·rename_i h0
   unfold lErr at h0
   split at h0
   ·cases h0
   ·rename_i hh
    cases hka:fok a with
    |false=>rw[hka]at hh;simp at hh
    |true=>cases hkb:fok b with
     |false=>rw[hkb]at hh;simp at hh
     |true=>exact⟨rfl,rfl⟩
  ·cases h
 exact lB_mono (fin_gd ga hf.1 (by omega) h2 h1 (by omega)) (fin_gd gb hf.2 h3 (by omega) (by omega) h4) hx hy h
theorem in_tru {m n m' n':Bool}(h1:m=true→m'=true)(h2:n=true→n'=true):inR (truR m n) (truR m' n'):=by
 unfold inR truR
 cases m<;>cases m'<;>cases n<;>cases n'<;>simp_all
theorem in_hul {a a' b b':Int×Int}(h1:inR a a')(h2:inR b b'):inR (hulR a b) (hulR a' b'):=by
 unfold inR hulR at*
 simp only at*
 omega
theorem in_lim {a a':Int×Int}(lo hi:Int)(h:inR a a'):inR (limR a lo hi) (limR a' lo hi):=by
 unfold inR limR at*
 simp only at*
 omega
theorem in_cnv {a t:Ft}{r r':Int×Int}(g:gdR a r)(g':gdR a r')(h:inR r r'):inR (cnvR r a t) (cnvR r' a t):=by
 obtain⟨h1,h2⟩:=h
 exact⟨gR_mono g' (Int.le_refl _) h1 (by have:=g.2.1;omega),gR_mono g' (by have:=g.2.1;omega) h2 (Int.le_refl _)⟩
theorem may1 {r r':Int×Int}(hr:r.1≤r.2)(h:inR r r')(h1:(mayQ r).1=true):(mayQ r').1=true:=by
 unfold mayQ inR at*
 simp only[Bool.not_eq_true',Bool.and_eq_false_iff,beq_eq_false_iff_ne]at h1⊢
 omega
theorem may2 {r r':Int×Int}(h:inR r r')(h1:(mayQ r).2=true):(mayQ r').2=true:=by
 unfold mayQ inR at*
 simp only[Bool.cond_eq_ite]at h1⊢
 split at h1
 ·rename_i q
  have q:=of_decide_eq_true q
  have h1:=of_decide_eq_true h1
  rw[if_pos (decide_eq_true (by omega))]
  exact decide_eq_true (by omega)
 ·cases h1
theorem may_o2 {r:Int×Int}(hr:r.1≤r.2)(h:(mayQ r).1=false):(mayQ r).2=true:=by
 unfold mayQ at*
 simp only[Bool.not_eq_false',Bool.and_eq_true,beq_iff_eq]at h
 simp only[h.1,h.2];rfl
theorem in_cmp {a b:Ft}{ra ra' rb rb':Int×Int}(less:Bool)(g1:gdR a ra)(g1':gdR a ra')(g2:gdR b rb)(g2':gdR b rb')(h1:inR ra ra')(h2:inR rb rb'):inR (cmpR less ra rb a b) (cmpR less ra' rb' a b):=by
 obtain⟨a1,a2⟩:=h1
 obtain⟨b1,b2⟩:=h2
 have c1:=g1.2.1
 have c2:=g2.2.1
 have hap:apB ra' rb' a b=true→apB ra rb a b=true:=by
  unfold apB
  intro h
  cases hq:lB a ra'.2 b rb'.1 with
  |true=>
   rw[lB_in (ra:=ra) (rb:=rb) g1' g2' (by omega) a2 (Int.le_refl _) (Int.le_refl _) b1 (by omega) hq];rfl
  |false=>
   rw[hq,cond_false]at h
   rw[lB_in (ra:=rb) (rb:=ra) g2' g1' (by omega) b2 (Int.le_refl _) (Int.le_refl _) a1 (by omega) h]
   cases lB a ra.2 b rb.1<;>rfl
 unfold cmpR
 cases less with
 |true=>
  simp only[cond_true]
  refine in_tru (fun h=>lB_in (ra:=ra) (rb:=rb) g1' g2' (Int.le_refl _) a1 (by omega) (by omega) b2 (Int.le_refl _) h) (fun h=>?_)
  cases hq:lB a ra'.2 b rb'.1 with
  |false=>rfl
  |true=>
   have:=lB_in (ra:=ra) (rb:=rb) g1' g2' (x':=ra.2) (y':=rb.1) (by omega) a2 (Int.le_refl _) (Int.le_refl _) b1 (by omega) hq
   rw[this]at h;cases h
 |false=>
  simp only[cond_false]
  refine in_tru (fun h=>?_) (fun h=>?_)
  ·cases hq:apB ra' rb' a b with
   |false=>rfl
   |true=>rw[hap hq]at h;cases h
  ·cases e1:ra'.1==ra'.2 with
   |false=>rfl
   |true=>
    have e1:=eq_of_beq e1
    simp only[cond_true]
    cases e2:rb'.1==rb'.2 with
    |false=>rfl
    |true=>
     have e2:=eq_of_beq e2
     have ea:ra=ra':=Prod.ext (by omega) (by omega)
     have eb:rb=rb':=Prod.ext (by omega) (by omega)
     rw[ea,eb,beq_iff_eq.2 e1,beq_iff_eq.2 e2]at h
     exact h
theorem in_log {a a' b b':Int×Int}(ka:a.1≤a.2)(kb:b.1≤b.2)(h1:inR a a')(h2:inR b b')(k:Nat):inR (logR k a b) (logR k a' b'):=by
 have p1:=may1 ka h1
 have p2:=may2 h1
 have q1:=may1 kb h2
 have q2:=may2 h2
 unfold logR
 match k with
 |0=>exact in_tru p2 p1
 |1=>
  refine in_tru (fun h=>?_) (fun h=>?_)
  ·cases x:(mayQ a).1 with
   |false=>rw[x]at h;cases h
   |true=>rw[x,cond_true]at h;rw[p1 x,cond_true];exact q1 h
  ·cases x:(mayQ a).2 with
   |true=>rw[p2 x];rfl
   |false=>rw[x,cond_false]at h;rw[q2 h];cases (mayQ a').2<;>rfl
 |k+2=>
  refine in_tru (fun h=>?_) (fun h=>?_)
  ·cases x:(mayQ a).1 with
   |true=>rw[p1 x];rfl
   |false=>rw[x,cond_false]at h;rw[q1 h];cases (mayQ a').1<;>rfl
  ·cases x:(mayQ a).2 with
   |false=>rw[x]at h;cases h
   |true=>rw[x,cond_true]at h;rw[p2 x,cond_true];exact q2 h
theorem blk_mono {t:Ft}{b:Bl}{rs rs':List (Int×Int)}{ts:List Ft}{pr tb tb':Int×Int}(ha:∀i,gdR (ts.getD i ft0) (rs.getD i (0,0)))(ha':∀i,gdR (ts.getD i ft0) (rs'.getD i (0,0)))(hi:∀i,inR (rs.getD i (0,0)) (rs'.getD i (0,0)))
  (htb:tabK b.kd=true→inR tb tb') (h0:(blkR t b rs ts pr tb).2=0):
  (blkR t b rs' ts pr tb').2=10∨((blkR t b rs' ts pr tb').2=0∧inR (blkR t b rs ts pr tb).1 (blkR t b rs' ts pr tb').1):=by
 have hc:∀i,inR (cvR rs ts t i) (cvR rs' ts t i):=fun i=>in_cnv (ha i) (ha' i) (hi i)
 have hm:∀i,(rs.getD i (0,0)).1≤(rs.getD i (0,0)).2:=fun i=>(ha i).2.1
 unfold blkR at h0⊢
 simp only at h0⊢
 have bif_l:∀{c:Bool} {x y x' y':(Int×Int)×Int},(bif c then x else y).2=0→(c=true→x.2=0→x'.2=10∨(x'.2=0∧inR x.1 x'.1))→(c=false→y.2=0→y'.2=10∨(y'.2=0∧inR y.1 y'.1))→(bif c then x' else y').2=10∨((bif c then x' else y').2=0∧inR (bif c then x else y).1 (bif c then x' else y').1):=fun{c x y x' y'} h h1 h2=>by
  cases c
  ·exact h2 rfl h
  ·exact h1 rfl h
 refine bif_l h0 (fun _ _=> .inr ⟨rfl,Int.le_refl _,Int.le_refl _⟩) fun _ h0=>?_
 refine bif_l h0 (fun _ h0=>?_) fun _ h0=>?_
 ·rcases vErr_wide h0 (ha' 0) (ha' 1)with h|h
  ·exact .inr ⟨h,vR_mono h0 h (hi 0) (hi 1)⟩
  ·exact .inl h
 refine bif_l h0 (fun _ _=> .inr ⟨rfl,gR_anti (ha' 0) (by have:=(hi 0).1;have:=hm 0;omega) (hi 0).2 (Int.le_refl _),gR_anti (ha' 0) (Int.le_refl _) (hi 0).1 (by have:=(hi 0).2;have:=hm 0;omega)⟩) fun _ h0=>?_
 refine bif_l h0 (fun _ _=> .inr ⟨rfl,hc 0⟩) fun _ h0=>?_
 refine bif_l h0 (fun _ _=> .inr ⟨rfl,?_⟩) fun _ h0=>?_
 ·obtain⟨a1,a2⟩:=hc 0
  obtain⟨b1,b2⟩:=hc 1
  exact⟨by show min _ _≤min _ _;omega,by show min _ _≤min _ _;omega⟩
 refine bif_l h0 (fun _ _=> .inr ⟨rfl,?_⟩) fun _ h0=>?_
 ·obtain⟨a1,a2⟩:=hc 0
  obtain⟨b1,b2⟩:=hc 1
  exact⟨by show max _ _≤max _ _;omega,by show max _ _≤max _ _;omega⟩
 refine bif_l h0 (fun _ _=> .inr ⟨rfl,in_lim _ _ (hc 0)⟩) fun _ h0=>?_
 refine bif_l h0 (fun h _=> .inr ⟨rfl,htb h⟩) fun _ h0=>?_
 refine bif_l h0 (fun _ _=> .inr ⟨rfl,?_⟩) fun _ h0=>?_
 ·have m1:=may1 (hm 0) (hi 0)
  have m2:=may2 (hi 0)
  have mo:=may_o2 (hm 0)
  show inR (bif _ then _ else bif _ then _ else _) (bif _ then _ else bif _ then _ else _)
  obtain⟨a1,a2⟩:=hc 1
  obtain⟨b1,b2⟩:=hc 2
  cases x1:(mayQ (rs.getD 0 (0,0))).1<;>cases x2:(mayQ (rs.getD 0 (0,0))).2<;>cases y1:(mayQ (rs'.getD 0 (0,0))).1<;>cases y2:(mayQ (rs'.getD 0 (0,0))).2<;>
   simp only[x1,x2,y1,y2,Bool.not_true,Bool.not_false,cond_true,cond_false]at m1 m2 mo⊢ <;>
   first
   |exact⟨a1,a2⟩
   |exact⟨b1,b2⟩
   |(exfalso;revert m1 m2 mo;simp;done)
   |(unfold inR hulR at*;simp only at*;omega)
 refine bif_l h0 (fun _ _=> .inr ⟨rfl,in_cmp _ (ha 0) (ha' 0) (ha 1) (ha' 1) (hi 0) (hi 1)⟩) fun _ h0=>?_
 refine bif_l h0 (fun _ _=> .inr ⟨rfl,in_log (b:=(0,0)) (b':=(0,0)) (hm 0) (Int.le_refl 0) (hi 0) ⟨Int.le_refl _,Int.le_refl _⟩ 0⟩) fun _ h0=>?_
 refine bif_l h0 (fun _ _=> .inr ⟨rfl,in_log (hm 0) (hm 1) (hi 0) (hi 1) 1⟩) fun _ h0=>?_
 refine bif_l h0 (fun _ _=> .inr ⟨rfl,in_log (hm 0) (hm 1) (hi 0) (hi 1) 2⟩) fun _ h0=>?_
 refine bif_l h0 (fun _ _=> .inr ⟨rfl,in_tru (fun h=>?_) (fun h=>?_)⟩) fun _ h0=>?_
 ·exact decide_eq_true (by have:=of_decide_eq_true h;have:=(hi 0).2;omega)
 ·exact decide_eq_true (by have:=of_decide_eq_true h;have:=(hi 0).1;omega)
 exact bif_l h0 (fun _ _=> .inr ⟨rfl,Int.le_refl _,Int.le_refl _⟩) fun _ _=> .inr ⟨rfl,in_hul ⟨Int.le_refl _,Int.le_refl _⟩ (hc 0)⟩
end Go.Proofs.YtkciabfilokfiaaGreat.Fx
namespace Go.Proofs.YtkciabfilokfiaaGreat.Fx
set_option linter.unusedVariables false
theorem eqR_iff {a b:Int×Int}:eqR a b=true↔a=b:=by
 unfold eqR
 rw[Bool.and_eq_true,beq_iff_eq,beq_iff_eq]
 exact⟨fun h=>Prod.ext h.1 h.2,fun h=>by rw[h];exact⟨rfl,rfl⟩⟩
def limD (d:Dg)(i:Nat):Int×Int:=limT (tyN d.tys (d.bls.getD i bl0).ty)
theorem kpR_get (d:Dg)(rs:List (Int×Int)):∀(l:List Nat) (st:List (Int×Int)) (ch:Bool) (i:Nat),i<st.length→l.Nodup→
  (kpR d true rs l st ch).1.getD i (0,0)=if i∈l∧newS d rs (st.getD i (0,0)) i≠st.getD i (0,0)then limD d i else st.getD i (0,0)
 |[],st,ch,i,hi,hn=>by simp[kpR]
 |j::l,st,ch,i,hi,hn=>by
  obtain⟨hj,hn⟩:=List.nodup_cons.1 hn
  unfold kpR
  cases he:eqR (newS d rs (st.getD j (0,0)) j) (st.getD j (0,0))with
  |true=>
   have he:=eqR_iff.1 he
   rw[cond_true,kpR_get d rs l st ch i hi hn]
   by_cases hij:i=j
   ·subst hij
    rw[if_neg (fun h=>hj h.1),if_neg (fun h=>h.2 he)]
   ·have:(i∈j::l)↔i∈l:=by rw[List.mem_cons];exact⟨fun h=>h.resolve_left hij,.inr⟩
    simp only[this]
  |false=>
   have he:¬newS d rs (st.getD j (0,0)) j=st.getD j (0,0):=fun h=>by rw[eqR_iff.2 h]at he;cases he
   rw[cond_false,kpR_get d rs l _ true i (by simpa using hi) hn,cond_true]
   by_cases hij:i=j
   ·subst hij
    rw[if_neg (fun h=>hj h.1),if_pos ⟨by simp,he⟩]
    rw[List.getD_eq_getElem?_getD,List.getElem?_set_self hi];rfl
   ·have:(i∈j::l)↔i∈l:=by rw[List.mem_cons];exact⟨fun h=>h.resolve_left hij,.inr⟩
    have hg:∀x,(st.set j x).getD i (0,0)=st.getD i (0,0):=fun x=>by
     rw[List.getD_eq_getElem?_getD,List.getD_eq_getElem?_getD,List.getElem?_set_ne (fun h=>hij h.symm)]
    simp only[this,hg]
theorem kpR_ch (d:Dg)(rs:List (Int×Int)):∀(l:List Nat) (st:List (Int×Int)) (ch:Bool),l.Nodup→(kpR d true rs l st ch).2=true→ch=true∨∃i∈l,newS d rs (st.getD i (0,0)) i≠st.getD i (0,0)
 |[],st,ch,hn,h=> .inl h
 |j::l,st,ch,hn,h=>by
  obtain⟨hj,hn⟩:=List.nodup_cons.1 hn
  unfold kpR at h
  cases he:eqR (newS d rs (st.getD j (0,0)) j) (st.getD j (0,0))with
  |true=>
   rw[he,cond_true]at h
   rcases kpR_ch d rs l st ch hn h with h1|⟨i,hi,h1⟩
   ·exact .inl h1
   ·exact .inr ⟨i,by simp[hi],h1⟩
  |false=>exact .inr ⟨j,by simp,fun h=>by rw[eqR_iff.2 h]at he;cases he⟩
def offP (d:Dg)(st:List (Int×Int)):Nat:=((List.range d.bls.length).filter fun i=> !eqR (st.getD i (0,0)) (limD d i)).length
theorem filter_lt {α:Type}{p q:α→Bool}:∀{l:List α},(∀x∈l,q x=true→p x=true)→(∃x∈l,p x=true∧q x=false)→(l.filter q).length<(l.filter p).length
 |[],_,h=>by obtain⟨x,hx,_⟩:=h;cases hx
 |y::l,h1,h2=>by
  have hle:(l.filter q).length≤(l.filter p).length:=by
   have h1:∀x∈l,q x=true→p x=true:=fun x hx=>h1 x (by simp[hx])
   clear h2
   induction l with
   |nil=>exact Nat.le_refl _
   |cons z l ih=>
    have:=ih (fun x hx=>(by assumption:∀x∈y::z::l,q x=true→p x=true) x (by rcases List.mem_cons.1 hx with rfl|hx<;>simp[*])) (fun x hx=>h1 x (by simp[hx]))
    have hz:=h1 z (by simp)
    simp only[List.filter_cons]
    cases hq:q z with
    |true=>rw[hz hq];simp;omega
    |false=>cases hp:p z<;>simp<;>omega
  have hy:=h1 y (by simp)
  obtain⟨x,hx,hp,hq⟩:=h2
  simp only[List.filter_cons]
  rcases List.mem_cons.1 hx with rfl|hx
  ·rw[hp,hq];simp;omega
  ·have ih:=filter_lt (l:=l) (fun x hx=>h1 x (by simp[hx])) ⟨x,hx,hp,hq⟩
   cases hq:q y with
   |true=>rw[hy hq];simp;omega
   |false=>cases hp:p y<;>simp<;>omega
def Stay (d:Dg)(rs st:List (Int×Int)):Prop:=∀i,i<d.bls.length→st.getD i (0,0)=limD d i→newS d rs (st.getD i (0,0)) i=st.getD i (0,0)
theorem offP_lt {d:Dg}{rs st:List (Int×Int)}(hl:st.length=d.bls.length)(hs:Stay d rs st)(hc:(kpR d true rs (List.range d.bls.length) st false).2=true):
  offP d (kpR d true rs (List.range d.bls.length) st false).1<offP d st:=by
 have hn:(List.range d.bls.length).Nodup:=List.nodup_range
 refine filter_lt (fun i hi hq=>?_) ?_
 ·have hi:i<d.bls.length:=List.mem_range.1 hi
  rw[kpR_get d rs _ st false i (by omega) hn]at hq
  cases hp:eqR (st.getD i (0,0)) (limD d i)with
  |false=>rfl
  |true=>
   have hp:=eqR_iff.1 hp
   rw[if_neg (fun h=>h.2 (hs i hi hp)),eqR_iff.2 hp]at hq
   cases hq
 ·rcases kpR_ch d rs _ st false hn hc with h|⟨i,hi,h⟩
  ·cases h
  ·have hi':i<d.bls.length:=List.mem_range.1 hi
   refine⟨i,hi,?_,?_⟩
   ·cases hp:eqR (st.getD i (0,0)) (limD d i)with
    |false=>rfl
    |true=>exact absurd (hs i hi' (eqR_iff.1 hp)) h
   ·rw[kpR_get d rs _ st false i (by omega) hn,if_pos ⟨hi,h⟩,eqR_iff.2 rfl];rfl
theorem rngR_ends {d:Dg}{T:Bl→List (Int×Int)→Int×Int}{od:List Nat}(hs:∀rs st,rs.length=d.ins.length+d.bls.length→st.length=d.bls.length→(rndR d T st od rs).2=none→Stay d (rndR d T st od rs).1 st):
  ∀(m:Nat) (n:Int) (rs st:List (Int×Int)),8≤n→rs.length=d.ins.length+d.bls.length→st.length=d.bls.length→offP d st≤m→∃r,rngR d T od (m+1) n rs st=some r
 |m,n,rs,st,hn,h1,h2,hm=>by
  unfold rngR
  cases he:(rndR d T st od rs).2 with
  |some e=>exact⟨_,rfl⟩
  |none=>
   simp only
   rw[decide_eq_true hn]
   cases hc:(kpR d true (rndR d T st od rs).1 (List.range d.bls.length) st false).2 with
   |false=>exact⟨_,rfl⟩
   |true=>
    have hlt:=offP_lt h2 (hs rs st h1 h2 he) hc
    rw[cond_true]
    cases m with
    |zero=>omega
    |succ m=>exact rngR_ends hs m (n+1) _ _ (by omega) (by rw[rndR_len];exact h1) (by rw[kpR_len];exact h2) (by omega)
theorem offP_le (d:Dg)(st:List (Int×Int)):offP d st≤d.bls.length:=by
 have:=List.length_filter_le (fun i=> !eqR (st.getD i (0,0)) (limD d i)) (List.range d.bls.length)
 rwa [List.length_range]at this
theorem rngR_ends8 {d:Dg}{T:Bl→List (Int×Int)→Int×Int}{od:List Nat}(hs:∀rs st,rs.length=d.ins.length+d.bls.length→st.length=d.bls.length→(rndR d T st od rs).2=none→Stay d (rndR d T st od rs).1 st):
  ∀(k:Nat) (n:Int) (rs st:List (Int×Int)),8≤n+k→rs.length=d.ins.length+d.bls.length→st.length=d.bls.length→∃r,rngR d T od (d.bls.length+1+k) n rs st=some r
 |0,n,rs,st,hn,h1,h2=>rngR_ends hs d.bls.length n rs st (by omega) h1 h2 (offP_le d st)
 |k+1,n,rs,st,hn,h1,h2=>by
  show ∃r,rngR d T od ((d.bls.length+1+k)+1) n rs st=some r
  unfold rngR
  cases he:(rndR d T st od rs).2 with
  |some e=>exact⟨_,rfl⟩
  |none=>
   simp only
   cases hc:(kpR d (decide (8≤n)) (rndR d T st od rs).1 (List.range d.bls.length) st false).2 with
   |false=>exact⟨_,rfl⟩
   |true=>
    rw[cond_true]
    exact rngR_ends8 hs k (n+1) _ _ (by omega) (by rw[rndR_len];exact h1) (by rw[kpR_len];exact h2)
theorem rndR_get (d:Dg)(T:Bl→List (Int×Int)→Int×Int)(st:List (Int×Int)):∀(l:List Nat) (rs:List (Int×Int)),l.Nodup→(∀i∈l,d.ins.length+i<rs.length)→(rndR d T st l rs).2=none→∀i,
  (i∈l→∃rq,rq.length=rs.length∧(rndR d T st l rs).1.getD (d.ins.length+i) (0,0)=(stepR d T rq st i).1∧(stepR d T rq st i).2=0)∧(i∉l→(rndR d T st l rs).1.getD (d.ins.length+i) (0,0)=rs.getD (d.ins.length+i) (0,0))
 |[],rs,hn,hl,he,i=>⟨by simp,fun _=>rfl⟩
 |j::l,rs,hn,hl,he,i=>by
  obtain⟨hj,hn⟩:=List.nodup_cons.1 hn
  unfold rndR at he⊢
  cases hc:(stepR d T rs st j).2==0 with
  |false=>rw[hc]at he;cases he
  |true=>
   rw[hc,cond_true]at he
   rw[cond_true]
   have hc0:(stepR d T rs st j).2=0:=by simpa using hc
   have ih:=rndR_get d T st l (rs.set (d.ins.length+j) (stepR d T rs st j).1) hn (fun i hi=>by rw[List.length_set];exact hl i (by simp[hi])) he i
   by_cases hij:i=j
   ·subst hij
    refine⟨fun _=>⟨rs,rfl,?_,hc0⟩,fun h=>absurd (by simp) h⟩
    rw[ih.2 hj,List.getD_eq_getElem?_getD,List.getElem?_set_self (hl i (by simp))];rfl
   ·refine⟨fun h=>?_,fun h=>?_⟩
    ·obtain⟨rq,q1,q2,q3⟩:=ih.1 (by rcases List.mem_cons.1 h with h|h;exact absurd h hij;exact h)
     exact⟨rq,by rw[q1,List.length_set],q2,q3⟩
    ·rw[ih.2 (fun hm=>h (by simp[hm])),List.getD_eq_getElem?_getD,List.getD_eq_getElem?_getD,List.getElem?_set_ne (by omega)]
theorem hul_lim {r:Int×Int}{a t:Ft}:hulR (limT t) (cnvR r a t)=limT t:=by
 have h1:=gR_lim a r.1 t
 have h2:=gR_lim a r.2 t
 unfold hulR cnvR
 refine Prod.ext ?_ ?_
 ·show min (limT t).1 (gR 1 a r.1 t)=_;omega
 ·show max (limT t).2 (gR 1 a r.2 t)=_;omega
theorem stay_ok {d:Dg}{T:Bl→List (Int×Int)→Int×Int}{od:List Nat}(hn:od.Nodup)(hlt:∀i∈od,i<d.bls.length)(hall:∀i,i<d.bls.length→i∈od)(rs st:List (Int×Int))(h1:rs.length=d.ins.length+d.bls.length)(h2:st.length=d.bls.length)
  (he:(rndR d T st od rs).2=none):Stay d (rndR d T st od rs).1 st:=by
 intro i hi hst
 obtain⟨rq,q1,q2,q3⟩:=(rndR_get d T st od rs hn (fun j hj=>by have:=hlt j hj;omega) he i).1 (hall i hi)
 rw[hst]
 unfold newS
 unfold newB
 rw[q2]
 unfold stepR
 rw[hst]
 unfold limD
 generalize d.bls.getD i bl0=b
 cases hk:b.kd==delT with
 |true=>rw[cond_true];exact hul_lim
 |false=>
  rw[cond_false]
  cases hl:b.kd==lagT with
  |false=>rfl
  |true=>
   rw[cond_true,blk_lagR (by simpa using hl)]
   exact hul_lim
theorem rngR_some {d:Dg}(T:Bl→List (Int×Int)→Int×Int){od:List Nat}(hn:od.Nodup)(hlt:∀i∈od,i<d.bls.length)(hall:∀i,i<d.bls.length→i∈od):∃r,rngR d T od (d.bls.length+8) 1 (r0 d) (s0 d)=some r:=
 rngR_ends8 (fun rs st h1 h2 he=>stay_ok hn hlt hall rs st h1 h2 he) 7 1 (r0 d) (s0 d) (by omega) (by simp[r0,upto]) (by simp[s0,upto])
end Go.Proofs.YtkciabfilokfiaaGreat.Fx
