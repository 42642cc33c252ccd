/-  -/
import Derived.Test.YtkciabfilokfiaaGreatPS
import Derived.Test.YtkciabfilokfiaaGreatQP
namespace Go.Proofs.YtkciabfilokfiaaGreat.Fx
set_option linter.unusedVariables false
set_option maxHeartbeats 4000000
theorem gR_lim' (s:Int)(a:Ft)(x:Int)(t:Ft):(limT t).1≤gR s a x t∧gR s a x t≤(limT t).2:=by
 unfold gR limT
 cases h:fok t with
 |true=>
  have:=flo_bd t h
  simp only[cond_true]
  split
  ·unfold fixR;omega
  ·omega
 |false=>
  have e:gErr a x t=1:=by rw[gErr,if_pos (.inr h)]
  rw[e];simp
theorem gR_lim (a:Ft)(x:Int)(t:Ft):(limT t).1≤gR 1 a x t∧gR 1 a x t≤(limT t).2:=gR_lim' 1 a x t
theorem lim0 (t:Ft):(limT t).1≤0∧0≤(limT t).2:=by
 unfold limT
 cases h:fok t with
 |true=>have:=flo_bd t h;simp only[cond_true];omega
 |false=>simp
theorem lim1 {t:Ft}(h:fok t=true):(limT t).1≤0∧1≤(limT t).2:=by
 have:=flo_bd t h
 unfold limT
 rw[h];simp only[cond_true];omega
def gdR (t:Ft)(r:Int×Int):Prop:=(limT t).1≤r.1∧r.1≤r.2∧r.2≤(limT t).2
theorem gd0 (t:Ft):gdR t (0,0):=⟨(lim0 t).1,Int.le_refl _,(lim0 t).2⟩
theorem rnd_mono {X X' Y:Int}(hY:0<Y)(h:X≤X'):rnd 3 X Y≤rnd 3 X' Y:=
 (le_rnd X' Y _ hY).2 (by have:=(le_rnd X Y (rnd 3 X Y) hY).1 (Int.le_refl _);omega)
theorem fixR_mono {t:Ft}{n n' d:Int}(ht:fok t=true)(hd:0<d)(h:n≤n'):fixR t n d≤fixR t n' d:=by
 have hb:=fok_bd ht
 have h1:=Int.mul_le_mul_of_nonneg_right h (show 0≤t.den by omega)
 have h2:rnd 3 (n*t.den-t.off*d) (d*t.num)≤rnd 3 (n'*t.den-t.off*d) (d*t.num):=rnd_mono (Int.mul_pos hd (by omega)) (by omega)
 unfold fixR;omega
theorem fin_of {a:Ft}{r:Int×Int}{x:Int}(h:gdR a r)(ha:fok a=true)(h1:r.1≤x)(h2:x≤r.2):fin a x=true:=by
 obtain⟨q1,q2,q3⟩:=h
 unfold limT at q1 q3
 rw[ha]at q1 q3
 simp only[cond_true]at q1 q3
 unfold fin
 rw[Bool.and_eq_true,decide_eq_true_eq,decide_eq_true_eq]
 omega
theorem gErr_eq {a t:Ft}{r:Int×Int}{x y:Int}(h:gdR a r)(h1:r.1≤x)(h2:x≤r.2)(h3:r.1≤y)(h4:y≤r.2):gErr a x t=gErr a y t:=by
 unfold gErr
 cases ha:fok a with
 |false=>simp
 |true=>rw[fin_of h ha h1 h2,fin_of h ha h3 h4]
theorem gR_mono {a t:Ft}{r:Int×Int}{x y:Int}(h:gdR a r)(h1:r.1≤x)(hxy:x≤y)(h4:y≤r.2):gR 1 a x t≤gR 1 a y t:=by
 have e:=gErr_eq (t:=t) h h1 (by omega) (by omega) h4
 unfold gR
 rw[e]
 split
 ·rename_i h0
  have hf:fok a=true∧fok t=true:=by
   unfold gErr at h0
   split at h0
   ·cases h0
   ·rename_i hh
    cases ha:fok a with
    |false=>rw[ha]at hh;simp at hh
    |true=>cases ht:fok t with
     |false=>rw[ht]at hh;simp at hh
     |true=>exact⟨rfl,rfl⟩
  have hb:=fok_bd hf.1
  have:=fnu_mono hf.1 hxy
  exact fixR_mono hf.2 (by omega) (by omega)
 ·exact Int.le_refl _
theorem gR_anti {a t:Ft}{r:Int×Int}{x y:Int}(h:gdR a r)(h1:r.1≤x)(hxy:x≤y)(h4:y≤r.2):gR (-1) a y t≤gR (-1) a x t:=by
 have e:=gErr_eq (t:=t) h h1 (by omega) (by omega) h4
 unfold gR
 rw[e]
 split
 ·rename_i h0
  have hf:fok a=true∧fok t=true:=by
   unfold gErr at h0
   split at h0
   ·cases h0
   ·rename_i hh
    cases ha:fok a with
    |false=>rw[ha]at hh;simp at hh
    |true=>cases ht:fok t with
     |false=>rw[ht]at hh;simp at hh
     |true=>exact⟨rfl,rfl⟩
  have hb:=fok_bd hf.1
  have:=fnu_mono hf.1 hxy
  exact fixR_mono hf.2 (by omega) (by omega)
 ·exact Int.le_refl _
theorem gd_cnv {a t:Ft}{r:Int×Int}(h:gdR a r):gdR t (cnvR r a t):=
 ⟨(gR_lim a r.1 t).1,gR_mono h (Int.le_refl _) h.2.1 (Int.le_refl _),(gR_lim a r.2 t).2⟩
theorem gd_hul {t:Ft}{a b:Int×Int}(ha:gdR t a)(hb:gdR t b):gdR t (hulR a b):=by
 obtain⟨a1,a2,a3⟩:=ha
 obtain⟨b1,b2,b3⟩:=hb
 unfold hulR
 refine⟨?_,?_,?_⟩
 ·show _≤min a.1 b.1;omega
 ·show min a.1 b.1≤max a.2 b.2;omega
 ·show max a.2 b.2≤_;omega
theorem gd_lim (t:Ft)(h:(limT t).1≤(limT t).2):gdR t (limT t):=⟨Int.le_refl _,h,Int.le_refl _⟩
theorem gd_limT (t:Ft):gdR t (limT t):=gd_lim t (by have:=lim0 t;omega)
theorem gd_tru {t:Ft}(ht:fok t=true){m n:Bool}(h:m=true∨n=true):gdR t (truR m n):=by
 have:=lim1 ht
 unfold truR
 cases m<;>cases n<;>simp only[cond_true,cond_false]
 ·simp at h
 ·exact⟨by show _≤(0:Int);omega,by decide,by show(0:Int)≤_;omega⟩
 ·exact⟨by show _≤(1:Int);omega,by decide,by show(1:Int)≤_;omega⟩
 ·exact⟨by show _≤(0:Int);omega,by decide,by show(1:Int)≤_;omega⟩
theorem may_or {r:Int×Int}(h:r.1≤r.2):(mayQ r).1=true∨(mayQ r).2=true:=by
 unfold mayQ
 simp only
 by_cases h0:r.1=0∧r.2=0
 ·right
  rw[h0.1,h0.2];rfl
 ·left
  rw[Bool.not_eq_true',Bool.and_eq_false_iff]
  rcases Classical.not_and_iff_not_or_not.1 h0 with h1|h1
  ·exact .inl (by simpa using h1)
  ·exact .inr (by simpa using h1)
theorem lB_lt {a b:Ft}{x y:Int}(h:lB a x b y=true):lErr a x b y=0∧fnu a x*b.den<fnu b y*a.den:=by
 unfold lB at h
 split at h
 ·rename_i h0;exact⟨h0,of_decide_eq_true h⟩
 ·cases h
theorem lErr_foks {a b:Ft}{x y:Int}(h:lErr a x b y=0):fok a=true∧fok b=true:=by
 unfold lErr at h
 split at h
 ·cases h
 ·rename_i hh
  cases ha:fok a with
  |false=>rw[ha]at hh;simp at hh
  |true=>cases hb:fok b with
   |false=>rw[hb]at hh;simp at hh
   |true=>exact⟨rfl,rfl⟩
theorem gd_cmp {t ta tb:Ft}{a b:Int×Int}(ht:fok t=true)(ha:gdR ta a)(hb:gdR tb b)(l:Bool):gdR t (cmpR l a b ta tb):=by
 unfold cmpR
 cases l with
 |true=>
  rw[cond_true]
  refine gd_tru ht ?_
  cases h1:lB ta a.2 tb b.1 with
  |false=>exact .inr rfl
  |true=>
   -- all of a lies below all of b
   left
   obtain⟨h2,h3⟩:=lB_lt h1
   obtain⟨f1,f2⟩:=lErr_foks h2
   have k1:=fnu_mono f1 ha.2.1
   have k2:=fnu_mono f2 hb.2.1
   have b1:=fok_bd f1
   have b2:=fok_bd f2
   have m1:=Int.mul_le_mul_of_nonneg_right k1 (show 0≤tb.den by omega)
   have m2:=Int.mul_le_mul_of_nonneg_right k2 (show 0≤ta.den by omega)
   have e:lErr ta a.1 tb b.2=0:=by
    unfold lErr at h2⊢
    rw[fin_of ha f1 (Int.le_refl _) ha.2.1,fin_of hb f2 hb.2.1 (Int.le_refl _)]
    rw[fin_of ha f1 ha.2.1 (Int.le_refl _),fin_of hb f2 (Int.le_refl _) hb.2.1]at h2
    exact h2
   unfold lB
   rw[if_pos e,decide_eq_true_eq]
   omega
 |false=>
  rw[cond_false]
  refine gd_tru ht ?_
  cases apB a b ta tb with
  |false=>exact .inl rfl
  |true=>right;cases (bif a.1==a.2 then b.1==b.2 else false)<;>rfl
theorem gd_log {t:Ft}{a b:Int×Int}(ht:fok t=true)(ha:a.1≤a.2)(hb:b.1≤b.2)(k:Nat):gdR t (logR k a b):=by
 have h1:=may_or ha
 have h2:=may_or hb
 unfold logR
 split
 ·exact gd_tru ht h1.symm
 ·refine gd_tru ht ?_
  revert h1 h2
  cases (mayQ a).1<;>cases (mayQ a).2<;>cases (mayQ b).1<;>cases (mayQ b).2<;>simp
 ·refine gd_tru ht ?_
  revert h1 h2
  cases (mayQ a).1<;>cases (mayQ a).2<;>cases (mayQ b).1<;>cases (mayQ b).2<;>simp
theorem gd_v {t ta tb:Ft}{a b:Int×Int}(ht:fok t=true)(op:Int):gdR t (vR op a b ta tb t):=by
 unfold vR vLo vHi
 by_cases h0:vErr op a.1 a.2 b.1 b.2 ta tb t=0
 ·rw[if_pos h0,if_pos h0]
  have q1:=oRaw_in op ta a.1 tb b.1 t ht
  have q2:=oRaw_in op ta a.1 tb b.2 t ht
  have q3:=oRaw_in op ta a.2 tb b.1 t ht
  have q4:=oRaw_in op ta a.2 tb b.2 t ht
  unfold gdR limT
  rw[ht]
  simp only[cond_true]
  omega
 ·rw[if_neg h0,if_neg h0]
  exact gd0 t
theorem wi_lim {t:Ft}{x:Int}(h:wiB t x=true):(limT t).1≤x∧x≤(limT t).2:=by
 unfold wiB at h
 rw[Bool.and_eq_true,decide_eq_true_eq,decide_eq_true_eq]at h
 exact h
theorem gd_limR {t:Ft}{r:Int×Int}{k0 k1:Int}(h:gdR t r)(h0:wiB t k0=true)(h1:wiB t k1=true)(hk:k0≤k1):gdR t (limR r k0 k1):=by
 obtain⟨a1,a2,a3⟩:=h
 have:=wi_lim h0
 have:=wi_lim h1
 unfold limR
 refine⟨?_,?_,?_⟩
 ·show _≤min (max r.1 k0) k1;omega
 ·show min (max r.1 k0) k1≤min (max r.2 k0) k1;omega
 ·show min (max r.2 k0) k1≤_;omega
theorem blk_good {t:Ft}{b:Bl}{rs:List (Int×Int)}{ts:List Ft}{pr tb:Int×Int}(ht:fok t=true)(hn:numB t b=true)(ha:∀i,gdR (ts.getD i ft0) (rs.getD i (0,0)))(hp:gdR t pr)(htb:tabK b.kd=true→gdR t tb):gdR t (blkR t b rs ts pr tb).1:=by
 have hc:∀i,gdR t (cvR rs ts t i):=fun i=>gd_cnv (ha i)
 have hm:∀i,(rs.getD i (0,0)).1≤(rs.getD i (0,0)).2:=fun i=>(ha i).2.1
 unfold blkR
 simp only
 have bif_l:∀{c:Bool} {x y:(Int×Int)×Int},(c=true→gdR t x.1)→(c=false→gdR t y.1)→gdR t (bif c then x else y).1:=fun{c x y} h1 h2=>by cases c;exact h2 rfl;exact h1 rfl
 refine bif_l (fun h=>?_) fun _=>?_
 ·have hk:b.kd=conS:=by simpa[conS]using h
  unfold numB at hn
  rw[if_pos (by rw[hk];decide)]at hn
  have:=wi_lim hn
  exact⟨this.1,Int.le_refl _,this.2⟩
 refine bif_l (fun _=>gd_v ht _) fun _=>?_
 refine bif_l (fun _=>⟨(gR_lim' _ _ _ _).1,gR_anti (ha 0) (Int.le_refl _) (hm 0) (Int.le_refl _),(gR_lim' _ _ _ _).2⟩) fun _=>?_
 refine bif_l (fun _=>hc 0) fun _=>?_
 refine bif_l (fun _=>?_) fun _=>?_
 ·obtain⟨a1,a2,a3⟩:=hc 0
  obtain⟨b1,b2,b3⟩:=hc 1
  exact⟨by show _≤min _ _;omega,by show min _ _≤min _ _;omega,by show min _ _≤_;omega⟩
 refine bif_l (fun _=>?_) fun _=>?_
 ·obtain⟨a1,a2,a3⟩:=hc 0
  obtain⟨b1,b2,b3⟩:=hc 1
  exact⟨by show _≤max _ _;omega,by show max _ _≤max _ _;omega,by show max _ _≤_;omega⟩
 refine bif_l (fun h=>?_) fun _=>?_
 ·have hk:b.kd=limS:=by simpa[limS]using h
  unfold numB at hn
  rw[if_neg (by rw[hk];decide),if_pos (by rw[hk];decide),Bool.and_eq_true,Bool.and_eq_true,decide_eq_true_eq]at hn
  exact gd_limR (hc 0) hn.1 hn.2.1 hn.2.2
 refine bif_l (fun h=>htb h) fun _=>?_
 refine bif_l (fun _=>?_) fun _=>?_
 ·show gdR t (bif _ then _ else bif _ then _ else _)
  cases (!(mayQ (rs.getD 0 (0,0))).2)with
  |true=>exact hc 1
  |false=>
   cases (!(mayQ (rs.getD 0 (0,0))).1)with
   |true=>exact hc 2
   |false=>exact gd_hul (hc 1) (hc 2)
 refine bif_l (fun _=>gd_cmp ht (ha 0) (ha 1) _) fun _=>?_
 refine bif_l (fun _=>gd_log (b:=(0,0)) ht (hm 0) (Int.le_refl 0) 0) fun _=>?_
 refine bif_l (fun _=>gd_log ht (hm 0) (hm 1) 1) fun _=>?_
 refine bif_l (fun _=>gd_log ht (hm 0) (hm 1) 2) fun _=>?_
 refine bif_l (fun _=>gd_tru ht ?_) fun _=>?_
 ·have:=hm 0
  by_cases h1:b.ks.getD 1 0≤(rs.getD 0 (0,0)).2
  ·exact .inl (decide_eq_true h1)
  ·exact .inr (decide_eq_true (by omega))
 refine bif_l (fun _=>hp) fun _=>gd_hul hp (hc 0)
theorem blk_lagR {t:Ft}{b:Bl}{rs:List (Int×Int)}{ts:List Ft}{pr tb:Int×Int}(h:b.kd=lagT):(blkR t b rs ts pr tb).1=hulR pr (cnvR (rs.getD 0 (0,0)) (ts.getD 0 ft0) t):=by
 unfold blkR
 rw[h]
 rfl
end Go.Proofs.YtkciabfilokfiaaGreat.Fx
