/-  -/
import Derived.Test.YtkciabfilokfiaaGreatPS
import Derived.Test.YtkciabfilokfiaaGreatRI
import Derived.Test.YtkciabfilokfiaaGreatQW
namespace Go.Proofs.YtkciabfilokfiaaGreat.Fx
open Vg Tf
set_option linter.unusedSimpArgs false
set_option linter.unusedVariables false
set_option maxRecDepth 100000
set_option maxHeartbeats 4000000
def putR (q:Int×Int)(y:Int):Int×Int:=(min q.1 y,max q.2 y)
theorem put_ (q:Int×Int)(y:Int):CallOk Tryz.prog 262 [I y,.c (.p 1 0)] [(1,⟨false,rC q,45⟩)] (.tup []) [(1,⟨false,rC (putR q y),45⟩)]:=by
 refine CallOk.mkN 100 Tryz.func262 rfl en262 (by simp[Tryz.ntmps262]) (ClA.of rfl) rfl rfl fun C hR hP=>?_
 refine vv ?_
 exact Sm.fall hR (RetQ.of hR rfl trivial rfl (sub_sh (SubS.sub ⟨⟨_,rfl,.inl rfl⟩,trivial⟩)) (clm_sh (ClM.of rfl)) (ClV.of rfl))
def ovrG (r:Int×Int):List (Int×Int)→Int×Int→Int×Int
 |[],q=>q
 |n::l,q=>ovrG r l (bif (bif decide (r.1<n.1)then decide (n.1<r.2)else false)then putR q n.2 else q)
def ovrQ (c:Cu)(r:Int×Int):(Int×Int)×Int:=
 bif (bif !cuOk c.xs c.ys then true else decide (r.2<r.1))then((0,0),1)else(ovrG r (c.xs.zip c.ys) (putR (valQ c r.1,valQ c r.1) (valQ c r.2)),0)
theorem over_ {H:Hp}(c:CuL)(hc:c.ok H)(hlx:c.c.xs.length≤1000000000000000)(hly:c.c.ys.length≤1000000000000000)(r:Int×Int):CallH H Tryz.prog 240 [.agg (cuV c),rA r] (rE (ovrQ c.c r)):=by
 have hval:=cvalid c.x c.y c.c.xs c.c.ys hc.x hc.y hlx hly
 have hil:(intsR c.c.xs).length=c.c.xs.length:=by simp[intsR]
 have hiy:(intsR c.c.ys).length=c.c.ys.length:=by simp[intsR]
 have hcv:cuV c=[.v (vsl c.x c.c.xs.length),.v (vsl c.y c.c.ys.length)]:=rfl
 refine CallH.mkS Tryz.func240 rfl en240 (by simp[Tryz.ntmps240]) (ClA.of rfl) fun C hR hP hH hL=>?_
 refine Sm.go 100 ?_
 refine vv ?_
 refine CallQ.h 110 hval hH rfl ?_
 refine vv ?_
 refine mtch (fun h0=>?_) (fun h0=>?_)
 ·have hq:ovrQ c.c r=((0,0),1):=by unfold ovrQ;rw[h0];rfl
  rw[hq]at hR
  exact RetQ.of (hR C hL) rfl (vv trivial) rvv (Sub.nil _) ClM.nil (ClV.of rfl)
 have hq:ovrQ c.c r=(ovrG r (c.c.xs.zip c.c.ys) (putR (valQ c.c r.1,valQ c.c r.1) (valQ c.c r.2)),0):=by unfold ovrQ;rw[h0];rfl
 rw[hq]at hR
 have hok:cuOk c.c.xs c.c.ys=true:=by
  cases hk:cuOk c.c.xs c.c.ys with
  |true=>rfl
  |false=>rw[hk]at h0;cases h0
 have k:=CuOk.of hok
 have k1:=k.len
 have k2:=k.two
 have k3:=k.big
 have hv1:=value_ c hc k r.1
 have hv2:=value_ c hc k r.2
 refine Sm.dg 120 10 mix ?_
 refine vv ?_
 refine DCallQ.h 130 (fun _=>hv1) hH (fun _=>rfl) ?_
 refine vv ?_
 refine DCallQ.h 130 (fun _=>hv1) hH (fun _=>rfl) ?_
 refine vv ?_
 refine CallQ.h 140 hv2 hH rfl ?_
 refine vv ?_
 refine CallQ.ren [(1,130)] 140 (put_ (valQ c.c r.1,valQ c.c r.1) (valQ c.c r.2)) (ClM.of rfl) rfl rfl ⟨⟨_,rfl,.inl rfl⟩,trivial⟩ rfl (.inl rfl) ?_
 simp only[Mem.ren,List.map_cons,List.map_nil,Bk.ren,List.map_map,V.ren,W.ren,Cv.ren,rn,Nat.reduceBEq,cond_true,cond_false,Function.comp_def]
 refine vv ?_
 refine Sm.bringI 5 3 38 (hc.x.mono hH) rfl rfl ?_
 have hzl:(c.c.xs.zip c.c.ys).length=c.c.xs.length:=by rw[List.length_zip];omega
 generalize hq0:putR (valQ c.c r.1,valQ c.c r.1) (valQ c.c r.2)=q0 at*
 generalize hRR:ovrG r (c.c.xs.zip c.c.ys) q0=RR at*
 refine Sm.loopM (M0:=[]) (α:={z:Nat×(Int×Int)//z.1≤c.c.xs.length∧ovrG r ((c.c.xs.zip c.c.ys).drop z.1) z.2=RR}) hP (fun z=>[(2,true,.c (.p 2 0)),(3,true,.c (.p 3 0)),(4,true,.c (.p 4 0)),(6,true,.c (.p 6 0)),(7,true,.c (.fn 262 [(6,0)])),(38,true,.c (.sl 5 0 c.c.xs.length 1)),(39,true,I c.c.xs.length),(40,true,I z.val.1)])
  (fun z=>[(2,⟨false,cuV c,82⟩),(3,⟨false,rC r,45⟩),(4,⟨false,rC (0,0),45⟩),(6,⟨false,rC z.val.2,45⟩),(5,⟨true,c.c.xs.map iC,3⟩)]) (fun z=>c.c.xs.length-z.val.1) ⟨(0,q0),by simp,hRR⟩ (fun _=>ClM.of (by simp only[List.all_cons,inMV (v_iC _)];rfl)) (fun _=>ClE.of rfl) [(2,100),(3,101),(4,102),(6,130),(5,5)] ?_ ?_
 ·exact⟨rfl,trivial,⟨rfl,rfl,rfl,rfl,rfl,rfl,rfl,rfl,trivial⟩,⟨.inr ⟨_,rfl,.inl rfl⟩,.inr ⟨_,rfl,.inl rfl⟩,.inr ⟨_,rfl,.inl rfl⟩,.inr ⟨_,rfl,.inl rfl⟩,.inr ⟨_,rfl,.inl (renV (v_iC _))⟩,trivial⟩⟩
 rintro⟨⟨i,q⟩,hi,hx⟩ J hj
 simp only at hj hi hx⊢
 refine Sm.go 150 ?_
 refine vv ?_
 refine mtch (fun hc2=>?_) (fun hc2=>?_)
 ·have hc2:=lt_of_dec hc2
  have hdz:(c.c.xs.zip c.c.ys).drop i=(c.c.xs.getD i 0,c.c.ys.getD i 0)::(c.c.xs.zip c.c.ys).drop (i+1):=by
   rw[List.drop_eq_getElem_cons (by omega),List.getElem_zip]
   rw[List.getD_eq_getElem?_getD,List.getElem?_eq_getElem hc2,List.getD_eq_getElem?_getD,List.getElem?_eq_getElem (show i<c.c.ys.length by omega)]
   rfl
  rw[hdz,ovrG]at hx
  have gx:=get_iD hc2
  have gy:=get_iD (l:=c.c.ys) (show i<c.c.ys.length by omega)
  generalize c.c.xs.getD i 0=xi at*
  generalize c.c.ys.getD i 0=yi at*
  simp(maxSteps:=2000000) only[go_sem,gx]
  refine⟨⟨by omega,by omega⟩,?_⟩
  refine mtch (fun h1=>?_) (fun h1=>?_)
  ·rw[h1,cond_true]at hx
   refine Sm.bringI 8 3 57 (hc.y.mono hH) rfl rfl (Sm.go 160 ?_)
   simp(maxSteps:=2000000) only[go_sem,gy]
   refine⟨⟨by omega,by omega⟩,?_⟩
   refine CallQ.ren [(1,6)] 170 (put_ q yi) (ClM.of rfl) rfl rfl ⟨⟨_,rfl,.inl rfl⟩,trivial⟩ rfl (.inl rfl) ?_
   simp only[Mem.ren,List.map_cons,List.map_nil,Bk.ren,List.map_map,V.ren,W.ren,Cv.ren,rn,Nat.reduceBEq,cond_true,cond_false,Function.comp_def]
   simp(maxSteps:=2000000) only[go_sem,wS (show i≤1000000000000000000 by omega)]
   exact hj _ _ ⟨(i+1,putR q yi),hc2,hx⟩ [(2,2),(3,3),(4,4),(6,6),(5,5)] (by simp only;omega) ⟨rfl,trivial,⟨rfl,rfl,rfl,rfl,rfl,rfl,rfl,rfl,trivial⟩,⟨.inr ⟨_,rfl,.inl rfl⟩,.inr ⟨_,rfl,.inl rfl⟩,.inr ⟨_,rfl,.inl rfl⟩,.inr ⟨_,rfl,.inl rfl⟩,.inr ⟨_,rfl,.inl (renV (v_iC _))⟩,trivial⟩⟩
  ·rw[h1,cond_false]at hx
   refine Sm.go 160 ?_
   simp(maxSteps:=2000000) only[go_sem,wS (show i≤1000000000000000000 by omega)]
   exact hj _ _ ⟨(i+1,q),hc2,hx⟩ [(2,2),(3,3),(4,4),(6,6),(5,5)] (by simp only;omega) ⟨rfl,trivial,⟨rfl,rfl,rfl,rfl,rfl,rfl,rfl,rfl,trivial⟩,⟨.inr ⟨_,rfl,.inl rfl⟩,.inr ⟨_,rfl,.inl rfl⟩,.inr ⟨_,rfl,.inl rfl⟩,.inr ⟨_,rfl,.inl rfl⟩,.inr ⟨_,rfl,.inl (renV (v_iC _))⟩,trivial⟩⟩
 ·have hc2:=eq_of_dec hi hc2
  rw[hc2,←hzl,List.drop_length]at hx
  have hx:q=RR:=hx
  subst hx
  exact RetQ.of (hR C hL) rfl (vv trivial) rvv (Sub.nil _) ClM.nil (ClV.of rfl)
end Go.Proofs.YtkciabfilokfiaaGreat.Fx
namespace Go.Proofs.YtkciabfilokfiaaGreat.Fx
set_option linter.unusedVariables false
theorem mulr_le {k a b:Int}(hk:0≤k)(h:a≤b):a*k≤b*k:=Int.mul_le_mul_of_nonneg_right h hk
theorem itp_up {x0 x1 y0 y1 p q:Int}(h:x0<x1)(hy:y0≤y1)(hpq:p≤q):itp x0 x1 y0 y1 p≤itp x0 x1 y0 y1 q:=by
 unfold itp
 have h1:(p-x0)*(y1-y0)≤(q-x0)*(y1-y0):=mulr_le (by omega) (by omega)
 have h2:=Int.ediv_le_ediv (show 0<x1-x0 by omega) h1
 omega
theorem itp_dn {x0 x1 y0 y1 p q:Int}(h:x0<x1)(hy:y1≤y0)(hpq:p≤q):itp x0 x1 y0 y1 q≤itp x0 x1 y0 y1 p:=by
 unfold itp
 have h0:(p-x0)*(y0-y1)≤(q-x0)*(y0-y1):=mulr_le (by omega) (by omega)
 have e1:(p-x0)*(y1-y0)= -((p-x0)*(y0-y1)):=by rw[←Int.mul_neg];congr 1;omega
 have e2:(q-x0)*(y1-y0)= -((q-x0)*(y0-y1)):=by rw[←Int.mul_neg];congr 1;omega
 have h1:(q-x0)*(y1-y0)≤(p-x0)*(y1-y0):=by omega
 have h2:=Int.ediv_le_ediv (show 0<x1-x0 by omega) h1
 omega
theorem itp_0 (x0 x1 y0 y1:Int):itp x0 x1 y0 y1 x0=y0:=by unfold itp;simp
theorem itp_1 {x0 x1 y0 y1:Int}(h:x0<x1):itp x0 x1 y0 y1 x1=y1:=by
 unfold itp
 rw[Int.mul_comm,Int.mul_ediv_cancel _ (by omega)];omega
theorem inc_lt {l:List Int}(h:incB l=true):∀(j i:Nat),i<j→j<l.length→l.getD i 0<l.getD j 0
 |0,i,h1,_=>by omega
 |j+1,i,h1,h2=>by
  have hs:=incB_get l h j h2
  rcases Nat.lt_or_ge i j with h3|h3
  ·have:=inc_lt h j i h3 (by omega);omega
  ·rw[show i=j by omega];exact hs
section
variable {c:Cu} (k:CuOk c)
include k
theorem val_seg {i:Nat}(hi:i+1<c.xs.length){x:Int}(h0:c.xs.getD i 0≤x)(h1:x≤c.xs.getD (i+1) 0):valQ c x=itp (c.xs.getD i 0) (c.xs.getD (i+1) 0) (c.ys.getD i 0) (c.ys.getD (i+1) 0) x:=by
 have hst:=incB_get _ k.inc i hi
 unfold valQ
 by_cases ha:x≤c.xs.getD 0 0
 ·rw[decide_eq_true ha,cond_true]
  have h00:i=0:=by
   rcases Nat.eq_zero_or_pos i with h|h
   ·exact h
   ·have:=inc_lt k.inc i 0 h (by omega);omega
  subst h00
  rw[show x=c.xs.getD 0 0 by omega,itp_0]
 ·rw[decide_eq_false ha,cond_false]
  by_cases hb:c.xs.getD (c.xs.length-1) 0≤x
  ·rw[decide_eq_true hb,cond_true]
   have hl:i+1=c.xs.length-1:=by
    rcases Nat.lt_or_ge (i+1) (c.xs.length-1)with h|h
    ·have:=inc_lt k.inc (c.xs.length-1) (i+1) h (by omega);omega
    ·omega
   rw[←hl]at hb⊢
   rw[show x=c.xs.getD (i+1) 0 by omega,itp_1 hst]
  ·rw[decide_eq_false hb,cond_false]
   obtain⟨s1,s2,s3,s4⟩:=seg_in k.two (by omega) (show x<_ by omega)
   generalize hs:segN c.xs x=s at*
   rcases Nat.lt_trichotomy (s-1) i with h|h|h
   ·-- s≤i
    have:c.xs.getD s 0≤c.xs.getD i 0:=by
     rcases Nat.lt_or_ge s i with h2|h2
     ·have:=inc_lt k.inc i s h2 (by omega);omega
     ·rw[show s=i by omega];exact Int.le_refl _
    omega
   ·subst h
    rw[show s-1+1=s by omega]
   ·have h5:c.xs.getD (i+1) 0≤c.xs.getD (s-1) 0:=by
     rcases Nat.lt_or_ge (i+1) (s-1)with h2|h2
     ·have:=inc_lt k.inc (s-1) (i+1) h2 (by omega);omega
     ·rw[show s-1=i+1 by omega];exact Int.le_refl _
    have hx:x=c.xs.getD (i+1) 0:=by omega
    have hx2:c.xs.getD (s-1) 0=c.xs.getD (i+1) 0:=by omega
    have hsi:s-1=i+1:=by
     rcases Nat.lt_or_ge (i+1) (s-1)with h2|h2
     ·have:=inc_lt k.inc (s-1) (i+1) h2 (by omega);omega
     ·omega
    rw[hsi,hx,itp_0,itp_1 hst]
end
theorem ovrG_ge (r:Int×Int)(B T:Int):∀(l:List (Int×Int)) (q:Int×Int),B≤q.1→q.2≤T→(∀n∈l,r.1<n.1→n.1<r.2→B≤n.2∧n.2≤T)→B≤(ovrG r l q).1∧(ovrG r l q).2≤T
 |[],q,h1,h2,_=>⟨h1,h2⟩
 |n::l,q,h1,h2,h=>by
  unfold ovrG
  cases hb:(bif decide (r.1<n.1)then decide (n.1<r.2)else false)with
  |false=>exact ovrG_ge r B T l q h1 h2 (fun m hm=>h m (by simp[hm]))
  |true=>
   have hn:r.1<n.1∧n.1<r.2:=by
    cases h3:decide (r.1<n.1)with
    |false=>rw[h3]at hb;cases hb
    |true=>rw[h3,cond_true]at hb;exact⟨of_decide_eq_true h3,of_decide_eq_true hb⟩
   obtain⟨b1,b2⟩:=h n (by simp) hn.1 hn.2
   refine ovrG_ge r B T l _ ?_ ?_ (fun m hm=>h m (by simp[hm]))
   ·show B≤min q.1 n.2;omega
   ·show max q.2 n.2≤T;omega
theorem ovrG_le2 (r:Int×Int):∀(l:List (Int×Int)) (q:Int×Int),(ovrG r l q).1≤q.1∧q.2≤(ovrG r l q).2∧∀n∈l,r.1<n.1→n.1<r.2→(ovrG r l q).1≤n.2∧n.2≤(ovrG r l q).2
 |[],q=>⟨Int.le_refl _,Int.le_refl _,by simp⟩
 |n::l,q=>by
  unfold ovrG
  cases hb:(bif decide (r.1<n.1)then decide (n.1<r.2)else false)with
  |false=>
   obtain⟨a1,a2,a3⟩:=ovrG_le2 r l q
   refine⟨a1,a2,fun m hm h1 h2=>?_⟩
   rcases List.mem_cons.1 hm with rfl|hm
   ·rw[decide_eq_true h1,decide_eq_true h2]at hb;cases hb
   ·exact a3 m hm h1 h2
  |true=>
   obtain⟨a1,a2,a3⟩:=ovrG_le2 r l (putR q n.2)
   have p1:(putR q n.2).1=min q.1 n.2:=rfl
   have p2:(putR q n.2).2=max q.2 n.2:=rfl
   rw[p1]at a1
   rw[p2]at a2
   simp only[cond_true]
   refine⟨by omega,by omega,fun m hm h1 h2=>?_⟩
   rcases List.mem_cons.1 hm with rfl|hm
   ·omega
   ·exact a3 m hm h1 h2
theorem zip_get {xs ys:List Int}(h:xs.length=ys.length){i:Nat}(hi:i<xs.length):(xs.getD i 0,ys.getD i 0)∈xs.zip ys:=by
 rw[List.mem_iff_getElem]
 refine⟨i,by rw[List.length_zip];omega,?_⟩
 rw[List.getElem_zip]
 simp[List.getD_eq_getElem?_getD,hi,show i<ys.length by omega]
theorem val_in {c:Cu}(k:CuOk c){r:Int×Int}{x:Int}(h1:r.1≤x)(h2:x≤r.2):
  (ovrG r (c.xs.zip c.ys) (putR (valQ c r.1,valQ c r.1) (valQ c r.2))).1≤valQ c x∧valQ c x≤(ovrG r (c.xs.zip c.ys) (putR (valQ c r.1,valQ c r.1) (valQ c r.2))).2:=by
 obtain⟨a1,a2,a3⟩:=ovrG_le2 r (c.xs.zip c.ys) (putR (valQ c r.1,valQ c r.1) (valQ c r.2))
 generalize hF:ovrG r (c.xs.zip c.ys) (putR (valQ c r.1,valQ c r.1) (valQ c r.2))=F at*
 have p1:(putR (valQ c r.1,valQ c r.1) (valQ c r.2)).1=min (valQ c r.1) (valQ c r.2):=rfl
 have p2:(putR (valQ c r.1,valQ c r.1) (valQ c r.2)).2=max (valQ c r.1) (valQ c r.2):=rfl
 rw[p1]at a1
 rw[p2]at a2
 have two:=k.two
 -- what the nodes and ends say
 have nd:∀i,i<c.xs.length→r.1<c.xs.getD i 0→c.xs.getD i 0<r.2→F.1≤c.ys.getD i 0∧c.ys.getD i 0≤F.2:=fun i hi q1 q2=>a3 _ (zip_get k.len hi) q1 q2
 by_cases c0:x≤c.xs.getD 0 0
 ·have e:∀z,z≤c.xs.getD 0 0→valQ c z=c.ys.getD 0 0:=fun z hz=>by unfold valQ;rw[decide_eq_true hz];rfl
  rw[e x c0]
  rw[e r.1 (by omega)]at a1 a2
  omega
 by_cases c1:c.xs.getD (c.xs.length-1) 0≤x
 ·have hl:=inc_lt k.inc (c.xs.length-1) 0 (by omega) (by omega)
  have e:∀z,c.xs.getD (c.xs.length-1) 0≤z→valQ c z=c.ys.getD (c.xs.length-1) 0:=fun z hz=>by
   unfold valQ
   rw[decide_eq_false (by omega),cond_false,decide_eq_true hz];rfl
  rw[e x c1]
  rw[e r.2 (by omega)]at a1 a2
  omega
 obtain⟨s1,s2,s3,s4⟩:=seg_in two (by omega) (show x<_ by omega)
 generalize segN c.xs x=s at*
 obtain⟨i,rfl⟩:∃i,s=i+1:=⟨s-1,by omega⟩
 rw[Nat.add_sub_cancel]at s3
 have hst:=incB_get _ k.inc i s2
 -- left and right
 have left:∃p,c.xs.getD i 0≤p∧p≤x∧F.1≤valQ c p∧valQ c p≤F.2:=by
  by_cases hp:r.1<c.xs.getD i 0
  ·by_cases hq:c.xs.getD i 0<r.2
   ·have:=nd i (by omega) hp hq
    refine⟨c.xs.getD i 0,Int.le_refl _,s3,?_⟩
    rw[val_seg k s2 (Int.le_refl _) (by omega),itp_0];exact this
   ·exact⟨r.2,by omega,by omega,by omega,by omega⟩
  ·exact⟨r.1,by omega,h1,by omega,by omega⟩
 have right:∃p,x≤p∧p≤c.xs.getD (i+1) 0∧F.1≤valQ c p∧valQ c p≤F.2:=by
  by_cases hp:c.xs.getD (i+1) 0<r.2
  ·have:=nd (i+1) s2 (by omega) hp
   refine⟨c.xs.getD (i+1) 0,by omega,Int.le_refl _,?_⟩
   rw[val_seg k s2 (by omega) (Int.le_refl _),itp_1 hst];exact this
  ·exact⟨r.2,h2,by omega,by omega,by omega⟩
 obtain⟨p,l1,l2,l3,l4⟩:=left
 obtain⟨q,m1,m2,m3,m4⟩:=right
 rw[val_seg k s2 l1 (by omega)]at l3 l4
 rw[val_seg k s2 (by omega) m2]at m3 m4
 rw[val_seg k s2 s3 (by omega)]
 rcases Int.le_total (c.ys.getD i 0) (c.ys.getD (i+1) 0)with hy|hy
 ·have t1:=itp_up hst hy l2
  have t2:=itp_up hst hy m1
  omega
 ·have t1:=itp_dn hst hy l2
  have t2:=itp_dn hst hy m1
  omega
theorem ovr_mono {c:Cu}{r r':Int×Int}(hr:r.1≤r.2)(h:inR r r'):inR (ovrQ c r).1 (ovrQ c r').1:=by
 have hr':r'.1≤r'.2:=by unfold inR at h;omega
 unfold ovrQ
 rw[decide_eq_false (show ¬r.2<r.1 by omega),decide_eq_false (show ¬r'.2<r'.1 by omega)]
 cases hk:cuOk c.xs c.ys with
 |false=>exact⟨Int.le_refl _,Int.le_refl _⟩
 |true=>
  have k:=CuOk.of hk
  simp only[Bool.not_true,cond_false]
  obtain⟨h1,h2⟩:=h
  have v1:=val_in k (r:=r') (x:=r.1) h1 (by omega)
  have v2:=val_in k (r:=r') (x:=r.2) (by omega) h2
  obtain⟨a1,a2,a3⟩:=ovrG_le2 r' (c.xs.zip c.ys) (putR (valQ c r'.1,valQ c r'.1) (valQ c r'.2))
  refine ovrG_ge r _ _ _ _ ?_ ?_ (fun n hn q1 q2=>a3 n hn (by omega) (by omega))
  ·show _≤min _ _
   simp only
   omega
  ·show max _ _≤_
   simp only
   omega
end Go.Proofs.YtkciabfilokfiaaGreat.Fx
