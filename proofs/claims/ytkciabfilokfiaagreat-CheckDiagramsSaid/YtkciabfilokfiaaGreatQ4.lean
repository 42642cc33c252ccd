/-  -/
import Derived.Test.YtkciabfilokfiaaGreatQ3
open Go.Proofs.Tryz
open Go.Proofs.Tryz renaming prog→Hf
set_option linter.unusedSimpArgs false
set_option linter.unusedVariables false
set_option maxRecDepth 100000
set_option maxHeartbeats 4000000
namespace Go.Proofs.YtkciabfilokfiaaGreat.Fx
open Vg Tf
@[go_sem] def wA (u:Un):List Value:=[.int .i64 u.m,.int .i64 u.kg,.int .i64 u.s,.int .i64 u.a,.int .i64 u.k]
theorem z6 {α:Type}{r:α->List Value}{k:Nat}(hk:∀x,(r x).length=k)(l:List α)(i:Nat)(h:i<l.length):((zD (l.map r)).drop (i*k)).take k=(r l[i]).map Cv.v:=by
 rw[tQ (l.map r) (fun x hx=>by obtain⟨y,_,rfl⟩:=JO.1 hx;exact hk y) i (by simpa using h)]
 simp
theorem zP {α:Type}{r:α->List Value}{k:Nat}(hk:∀x,(r x).length=k)(l:List α):(zD (l.map r)).length=l.length*k:=by
 rw[yx (k:=k) (l.map r) (fun x hx=>by obtain⟨y,_,rfl⟩:=JO.1 hx;exact hk y)]
 simp
theorem ua (x:V)(caps:List Value):[some (true,x)]++caps.map (fun c=>some (true,rR c))=(x::caps.map rR).map fun x=>some (true,x):=zc
abbrev Fv (g:FuncId)(caps:Array Value):V:= .c (.v (.func (.func g) #[] caps))
theorem Uf {H:Hp}(s:Sv)(l:List Td)(hs:SlH H (vsl s l.length) 11 (l.map Td.r))(hl:l.length<=1000000000000000)(g:FuncId)(caps:Array Value)(p:Td->Bool)(hp:∀x∈l,CallH H Hf g ((yD (Td.r x))::caps.toList.map rR) (Bo (p x))):
  CallH H Hf 79 [.c (.v (vsl s l.length)),Fv g caps] (I (tw p l 0)):=by
 have hlen:(l.map Td.r).length=l.length:=Ku _
 have hsz:=zP (r:=Td.r) (k:=11) (fun _=>rfl) l
 refine kH func79 OU ntmps79 fun C hR hP hH hL=>?_
 refine zB 100 (vv ?_)
 refine Sm.bringR 1 78 0 (hs.mono hH) rfl rfl ?_
 simp only[hlen]
 refine zG (M0:=[]) (α:={i:Nat//i<=l.length/\tw p l 0=tw p (l.drop i) i}) hP (fun i=>[(0,true,.c (.sl 1 0 l.length 11)),(1,true,Fv g caps),(7,true,I l.length),(8,true,I i.val)]) (fun _=>[(1,⟨true,zD (l.map Td.r),78⟩)]) (fun i=>l.length-i.val) ⟨0,zA,rfl⟩ (fun _=>ClM.v (by simp only[Ky,zS];rfl)) (fun _=>zO rfl) [(1,1)] ?_ ?_
 ·exact z9
 ·rintro⟨i,hi,hx⟩ J hb
  simp only at hb hi hx⊢
  refine zB 110 (vv ?_)
  refine zU (fun hc=>?_) (fun hc=>?_)
  ·have hc:=zH hc
   rw[wO p l i hc]at hx
   have htk:=z6 (r:=Td.r) (k:=11) (fun _=>rfl) l i hc
   simp only[htk,hsz]
   refine⟨⟨zA,zA⟩,zA,?_⟩
   refine z8 120 (hp l[i] (JE hc)) hH (ua _ _) (vv ?_)
   refine zU (fun hd=>?_) (fun hd=>?_)
   ·rw[hd,cond_true]at hx
    exact uT (hR C hL) hx.symm
   ·rw[hd,cond_false]at hx
    simp only[yT (i:=i)]
    exact hb _ _ ⟨i+1,hc,hx⟩ [(1,1)] yF z9
  ·have hc:=zL hi hc
   rw[hc,JL]at hx
   exact uT (hR C hL) hx.symm
theorem QV {H:Hp}(s:Sv)(l:List Td)(hs:SlH H (vsl s l.length) 11 (l.map Td.r))(hl:l.length<=1000000000000000)(g:FuncId)(caps:Array Value)(p:Td->Bool)(hp:∀x∈l,CallH H Hf g ((yD (Td.r x))::caps.toList.map rR) (Bo (p x))):
  CallH H Hf 32 [.c (.v (vsl s l.length)),Fv g caps] (Bo (l.any p)):=by
 refine kH func32 TD ntmps32 fun C hR hP hH hL=>?_
 refine zB 100 (vv ?_)
 refine z8 110 (Uf s l hs hl g caps p hp) hH rfl (vv ?_)
 exact yL (hR C hL) (ww p l 0 zA)
theorem UZ {H:Hp}(x:Td)(g:FuncId)(b:Bool)(hg:CallH H Hf g [(yD (Td.r x))] (Bo b))(pv:Value)(hpv:PtH H pv [.func (.func g) #[] #[]]):CallH H Hf 147 [(yD (Td.r x)),.c (.v pv)] (Bo (!b)):=by
 refine kH func147 R8 ntmps147 fun C hR hP hH hL=>?_
 refine zk 1 79 1 (hpv.mono hH) rfl rfl (zB 100 ?_)
 refine vv ?_
 refine z8 110 hg hH rfl (vv ?_)
 exact yL (hR C hL) rfl
theorem Qa {H:Hp}(s:Sv)(l:List Td)(hs:SlH H (vsl s l.length) 11 (l.map Td.r))(hl:l.length<=1000000000000000)(g:FuncId)(p:Td->Bool)(hp:∀x∈l,CallH H Hf g [(yD (Td.r x))] (Bo (p x))):
  CallH H Hf 82 [.c (.v (vsl s l.length)),Fv g #[]] (Bo (l.all p)):=by
 refine kH func82 OR ntmps82 fun C hR hP hH hL=>?_
 refine zB 100 (vv ?_)
 refine CallQ.letgo (xs:=[_,_]) [100] hL hP rfl rfl rfl TD rfl rfl (fun β Cn l1 l2 l3=>?_)
 have hpt:=(l3 100 _ rfl rfl rfl).pt zc
 refine xA 110 l1 (QV s l (hs.mono (hH.trans l2)) hl 147 #[ve β 100 0] (fun x=> !p x) (fun x hx=>UZ x g (p x) ((hp x hx).mono (hH.trans l2)) _ hpt)) (zV _) rfl (fun Cm m1 m2=>?_)
 refine vv ?_
 refine yL (hR Cm m1) ?_
 rw[JX]
theorem Ui {H:Hp}(s:Sv)(l:List CuL)(hs:SlH H (vsl s l.length) 3 (l.map CuL.r))(hl:l.length<=1000000000000000)(g:FuncId)(caps:Array Value)(p:CuL->Bool)(hp:∀x∈l,CallH H Hf g ((yD (CuL.r x))::caps.toList.map rR) (Bo (p x))):
  CallH H Hf 80 [.c (.v (vsl s l.length)),Fv g caps] (I (tw p l 0)):=by
 have hlen:(l.map CuL.r).length=l.length:=Ku _
 have hsz:=zP (r:=CuL.r) (k:=3) (fun _=>rfl) l
 refine kH func80 OT ntmps80 fun C hR hP hH hL=>?_
 refine zB 100 (vv ?_)
 refine Sm.bringR 1 84 0 (hs.mono hH) rfl rfl ?_
 simp only[hlen]
 refine zG (M0:=[]) (α:={i:Nat//i<=l.length/\tw p l 0=tw p (l.drop i) i}) hP (fun i=>[(0,true,.c (.sl 1 0 l.length 3)),(1,true,Fv g caps),(7,true,I l.length),(8,true,I i.val)]) (fun _=>[(1,⟨true,zD (l.map CuL.r),84⟩)]) (fun i=>l.length-i.val) ⟨0,zA,rfl⟩ (fun _=>ClM.v (by simp only[Ky,zS];rfl)) (fun _=>zO rfl) [(1,1)] ?_ ?_
 ·exact z9
 ·rintro⟨i,hi,hx⟩ J hb
  simp only at hb hi hx⊢
  refine zB 110 (vv ?_)
  refine zU (fun hc=>?_) (fun hc=>?_)
  ·have hc:=zH hc
   rw[wO p l i hc]at hx
   have htk:=z6 (r:=CuL.r) (k:=3) (fun _=>rfl) l i hc
   simp only[htk,hsz]
   refine⟨⟨zA,zA⟩,zA,?_⟩
   refine z8 120 (hp l[i] (JE hc)) hH (ua _ _) (vv ?_)
   refine zU (fun hd=>?_) (fun hd=>?_)
   ·rw[hd,cond_true]at hx
    exact uT (hR C hL) hx.symm
   ·rw[hd,cond_false]at hx
    simp only[yT (i:=i)]
    exact hb _ _ ⟨i+1,hc,hx⟩ [(1,1)] yF z9
  ·have hc:=zL hi hc
   rw[hc,JL]at hx
   exact uT (hR C hL) hx.symm
theorem Xp {H:Hp}(s:Sv)(l:List CuL)(hs:SlH H (vsl s l.length) 3 (l.map CuL.r))(hl:l.length<=1000000000000000)(g:FuncId)(caps:Array Value)(p:CuL->Bool)(hp:∀x∈l,CallH H Hf g ((yD (CuL.r x))::caps.toList.map rR) (Bo (p x))):
  CallH H Hf 34 [.c (.v (vsl s l.length)),Fv g caps] (Bo (l.any p)):=by
 refine kH func34 TC ntmps34 fun C hR hP hH hL=>?_
 refine zB 100 (vv ?_)
 refine z8 110 (Ui s l hs hl g caps p hp) hH rfl (vv ?_)
 exact yL (hR C hL) (ww p l 0 zA)
theorem U2 {H:Hp}(x:CuL)(g:FuncId)(b:Bool)(hg:CallH H Hf g [(yD (CuL.r x))] (Bo b))(pv:Value)(hpv:PtH H pv [.func (.func g) #[] #[]]):CallH H Hf 148 [(yD (CuL.r x)),.c (.v pv)] (Bo (!b)):=by
 refine kH func148 R7 ntmps148 fun C hR hP hH hL=>?_
 refine zk 1 85 1 (hpv.mono hH) rfl rfl (zB 100 ?_)
 refine vv ?_
 refine z8 110 hg hH rfl (vv ?_)
 exact yL (hR C hL) rfl
theorem Qe {H:Hp}(s:Sv)(l:List CuL)(hs:SlH H (vsl s l.length) 3 (l.map CuL.r))(hl:l.length<=1000000000000000)(g:FuncId)(p:CuL->Bool)(hp:∀x∈l,CallH H Hf g [(yD (CuL.r x))] (Bo (p x))):
  CallH H Hf 84 [.c (.v (vsl s l.length)),Fv g #[]] (Bo (l.all p)):=by
 refine kH func84 OP ntmps84 fun C hR hP hH hL=>?_
 refine zB 100 (vv ?_)
 refine CallQ.letgo (xs:=[_,_]) [100] hL hP rfl rfl rfl TC rfl rfl (fun β Cn l1 l2 l3=>?_)
 have hpt:=(l3 100 _ rfl rfl rfl).pt zc
 refine xA 110 l1 (Xp s l (hs.mono (hH.trans l2)) hl 148 #[ve β 100 0] (fun x=> !p x) (fun x hx=>U2 x g (p x) ((hp x hx).mono (hH.trans l2)) _ hpt)) (zV _) rfl (fun Cm m1 m2=>?_)
 refine vv ?_
 refine yL (hR Cm m1) ?_
 rw[JX]
theorem Uh {H:Hp}(s:Sv)(l:List MpL)(hs:SlH H (vsl s l.length) 4 (l.map MpL.r))(hl:l.length<=1000000000000000)(g:FuncId)(caps:Array Value)(p:MpL->Bool)(hp:∀x∈l,CallH H Hf g ((yD (MpL.r x))::caps.toList.map rR) (Bo (p x))):
  CallH H Hf 81 [.c (.v (vsl s l.length)),Fv g caps] (I (tw p l 0)):=by
 have hlen:(l.map MpL.r).length=l.length:=Ku _
 have hsz:=zP (r:=MpL.r) (k:=4) (fun _=>rfl) l
 refine kH func81 OS ntmps81 fun C hR hP hH hL=>?_
 refine zB 100 (vv ?_)
 refine Sm.bringR 1 91 0 (hs.mono hH) rfl rfl ?_
 simp only[hlen]
 refine zG (M0:=[]) (α:={i:Nat//i<=l.length/\tw p l 0=tw p (l.drop i) i}) hP (fun i=>[(0,true,.c (.sl 1 0 l.length 4)),(1,true,Fv g caps),(7,true,I l.length),(8,true,I i.val)]) (fun _=>[(1,⟨true,zD (l.map MpL.r),91⟩)]) (fun i=>l.length-i.val) ⟨0,zA,rfl⟩ (fun _=>ClM.v (by simp only[Ky,zS];rfl)) (fun _=>zO rfl) [(1,1)] ?_ ?_
 ·exact z9
 ·rintro⟨i,hi,hx⟩ J hb
  simp only at hb hi hx⊢
  refine zB 110 (vv ?_)
  refine zU (fun hc=>?_) (fun hc=>?_)
  ·have hc:=zH hc
   rw[wO p l i hc]at hx
   have htk:=z6 (r:=MpL.r) (k:=4) (fun _=>rfl) l i hc
   simp only[htk,hsz]
   refine⟨⟨zA,zA⟩,zA,?_⟩
   refine z8 120 (hp l[i] (JE hc)) hH (ua _ _) (vv ?_)
   refine zU (fun hd=>?_) (fun hd=>?_)
   ·rw[hd,cond_true]at hx
    exact uT (hR C hL) hx.symm
   ·rw[hd,cond_false]at hx
    simp only[yT (i:=i)]
    exact hb _ _ ⟨i+1,hc,hx⟩ [(1,1)] yF z9
  ·have hc:=zL hi hc
   rw[hc,JL]at hx
   exact uT (hR C hL) hx.symm
theorem Xo {H:Hp}(s:Sv)(l:List MpL)(hs:SlH H (vsl s l.length) 4 (l.map MpL.r))(hl:l.length<=1000000000000000)(g:FuncId)(caps:Array Value)(p:MpL->Bool)(hp:∀x∈l,CallH H Hf g ((yD (MpL.r x))::caps.toList.map rR) (Bo (p x))):
  CallH H Hf 36 [.c (.v (vsl s l.length)),Fv g caps] (Bo (l.any p)):=by
 refine kH func36 TB ntmps36 fun C hR hP hH hL=>?_
 refine zB 100 (vv ?_)
 refine z8 110 (Uh s l hs hl g caps p hp) hH rfl (vv ?_)
 exact yL (hR C hL) (ww p l 0 zA)
theorem U1 {H:Hp}(x:MpL)(g:FuncId)(b:Bool)(hg:CallH H Hf g [(yD (MpL.r x))] (Bo b))(pv:Value)(hpv:PtH H pv [.func (.func g) #[] #[]]):CallH H Hf 151 [(yD (MpL.r x)),.c (.v pv)] (Bo (!b)):=by
 refine kH func151 R2 ntmps151 fun C hR hP hH hL=>?_
 refine zk 1 92 1 (hpv.mono hH) rfl rfl (zB 100 ?_)
 refine vv ?_
 refine z8 110 hg hH rfl (vv ?_)
 exact yL (hR C hL) rfl
theorem Qd {H:Hp}(s:Sv)(l:List MpL)(hs:SlH H (vsl s l.length) 4 (l.map MpL.r))(hl:l.length<=1000000000000000)(g:FuncId)(p:MpL->Bool)(hp:∀x∈l,CallH H Hf g [(yD (MpL.r x))] (Bo (p x))):
  CallH H Hf 87 [.c (.v (vsl s l.length)),Fv g #[]] (Bo (l.all p)):=by
 refine kH func87 OM ntmps87 fun C hR hP hH hL=>?_
 refine zB 100 (vv ?_)
 refine CallQ.letgo (xs:=[_,_]) [100] hL hP rfl rfl rfl TB rfl rfl (fun β Cn l1 l2 l3=>?_)
 have hpt:=(l3 100 _ rfl rfl rfl).pt zc
 refine xA 110 l1 (Xo s l (hs.mono (hH.trans l2)) hl 151 #[ve β 100 0] (fun x=> !p x) (fun x hx=>U1 x g (p x) ((hp x hx).mono (hH.trans l2)) _ hpt)) (zV _) rfl (fun Cm m1 m2=>?_)
 refine vv ?_
 refine yL (hR Cm m1) ?_
 rw[JX]
theorem Ug {H:Hp}(s:Sv)(l:List Po)(hs:SlH H (vsl s l.length) 4 (l.map Po.r))(hl:l.length<=1000000000000000)(g:FuncId)(caps:Array Value)(p:Po->Bool)(hp:∀x∈l,CallH H Hf g ((yD (Po.r x))::caps.toList.map rR) (Bo (p x))):
  CallH H Hf 144 [.c (.v (vsl s l.length)),Fv g caps] (I (tw p l 0)):=by
 have hlen:(l.map Po.r).length=l.length:=Ku _
 have hsz:=zP (r:=Po.r) (k:=4) (fun _=>rfl) l
 refine kH func144 R9 ntmps144 fun C hR hP hH hL=>?_
 refine zB 100 (vv ?_)
 refine Sm.bringR 1 51 0 (hs.mono hH) rfl rfl ?_
 simp only[hlen]
 refine zG (M0:=[]) (α:={i:Nat//i<=l.length/\tw p l 0=tw p (l.drop i) i}) hP (fun i=>[(0,true,.c (.sl 1 0 l.length 4)),(1,true,Fv g caps),(7,true,I l.length),(8,true,I i.val)]) (fun _=>[(1,⟨true,zD (l.map Po.r),51⟩)]) (fun i=>l.length-i.val) ⟨0,zA,rfl⟩ (fun _=>ClM.v (by simp only[Ky,zS];rfl)) (fun _=>zO rfl) [(1,1)] ?_ ?_
 ·exact z9
 ·rintro⟨i,hi,hx⟩ J hb
  simp only at hb hi hx⊢
  refine zB 110 (vv ?_)
  refine zU (fun hc=>?_) (fun hc=>?_)
  ·have hc:=zH hc
   rw[wO p l i hc]at hx
   have htk:=z6 (r:=Po.r) (k:=4) (fun _=>rfl) l i hc
   simp only[htk,hsz]
   refine⟨⟨zA,zA⟩,zA,?_⟩
   refine z8 120 (hp l[i] (JE hc)) hH (ua _ _) (vv ?_)
   refine zU (fun hd=>?_) (fun hd=>?_)
   ·rw[hd,cond_true]at hx
    exact uT (hR C hL) hx.symm
   ·rw[hd,cond_false]at hx
    simp only[yT (i:=i)]
    exact hb _ _ ⟨i+1,hc,hx⟩ [(1,1)] yF z9
  ·have hc:=zL hi hc
   rw[hc,JL]at hx
   exact uT (hR C hL) hx.symm
theorem QW {H:Hp}(s:Sv)(l:List Po)(hs:SlH H (vsl s l.length) 4 (l.map Po.r))(hl:l.length<=1000000000000000)(g:FuncId)(caps:Array Value)(p:Po->Bool)(hp:∀x∈l,CallH H Hf g ((yD (Po.r x))::caps.toList.map rR) (Bo (p x))):
  CallH H Hf 155 [.c (.v (vsl s l.length)),Fv g caps] (Bo (l.any p)):=by
 refine kH func155 Xl ntmps155 fun C hR hP hH hL=>?_
 refine zB 100 (vv ?_)
 refine z8 110 (Ug s l hs hl g caps p hp) hH rfl (vv ?_)
 exact yL (hR C hL) (ww p l 0 zA)
theorem U0 {H:Hp}(x:Po)(g:FuncId)(b:Bool)(hg:CallH H Hf g [(yD (Po.r x))] (Bo b))(pv:Value)(hpv:PtH H pv [.func (.func g) #[] #[]]):CallH H Hf 156 [(yD (Po.r x)),.c (.v pv)] (Bo (!b)):=by
 refine kH func156 RY ntmps156 fun C hR hP hH hL=>?_
 refine zk 1 140 1 (hpv.mono hH) rfl rfl (zB 100 ?_)
 refine vv ?_
 refine z8 110 hg hH rfl (vv ?_)
 exact yL (hR C hL) rfl
theorem Qc {H:Hp}(s:Sv)(l:List Po)(hs:SlH H (vsl s l.length) 4 (l.map Po.r))(hl:l.length<=1000000000000000)(g:FuncId)(p:Po->Bool)(hp:∀x∈l,CallH H Hf g [(yD (Po.r x))] (Bo (p x))):
  CallH H Hf 90 [.c (.v (vsl s l.length)),Fv g #[]] (Bo (l.all p)):=by
 refine kH func90 OJ ntmps90 fun C hR hP hH hL=>?_
 refine zB 100 (vv ?_)
 refine CallQ.letgo (xs:=[_,_]) [100] hL hP rfl rfl rfl Xl rfl rfl (fun β Cn l1 l2 l3=>?_)
 have hpt:=(l3 100 _ rfl rfl rfl).pt zc
 refine xA 110 l1 (QW s l (hs.mono (hH.trans l2)) hl 156 #[ve β 100 0] (fun x=> !p x) (fun x hx=>U0 x g (p x) ((hp x hx).mono (hH.trans l2)) _ hpt)) (zV _) rfl (fun Cm m1 m2=>?_)
 refine vv ?_
 refine yL (hR Cm m1) ?_
 rw[JX]
theorem Uj {H:Hp}(s:Sv)(l:List BlL)(hs:SlH H (vsl s l.length) 6 (l.map BlL.r))(hl:l.length<=1000000000000000)(g:FuncId)(caps:Array Value)(p:BlL->Bool)(hp:∀x∈l,CallH H Hf g ((yD (BlL.r x))::caps.toList.map rR) (Bo (p x))):
  CallH H Hf 52 [.c (.v (vsl s l.length)),Fv g caps] (I (tw p l 0)):=by
 have hlen:(l.map BlL.r).length=l.length:=Ku _
 have hsz:=zP (r:=BlL.r) (k:=6) (fun _=>rfl) l
 refine kH func52 Oi ntmps52 fun C hR hP hH hL=>?_
 refine zB 100 (vv ?_)
 refine Sm.bringR 1 53 0 (hs.mono hH) rfl rfl ?_
 simp only[hlen]
 refine zG (M0:=[]) (α:={i:Nat//i<=l.length/\tw p l 0=tw p (l.drop i) i}) hP (fun i=>[(0,true,.c (.sl 1 0 l.length 6)),(1,true,Fv g caps),(7,true,I l.length),(8,true,I i.val)]) (fun _=>[(1,⟨true,zD (l.map BlL.r),53⟩)]) (fun i=>l.length-i.val) ⟨0,zA,rfl⟩ (fun _=>ClM.v (by simp only[Ky,zS];rfl)) (fun _=>zO rfl) [(1,1)] ?_ ?_
 ·exact z9
 ·rintro⟨i,hi,hx⟩ J hb
  simp only at hb hi hx⊢
  refine zB 110 (vv ?_)
  refine zU (fun hc=>?_) (fun hc=>?_)
  ·have hc:=zH hc
   rw[wO p l i hc]at hx
   have htk:=z6 (r:=BlL.r) (k:=6) (fun _=>rfl) l i hc
   simp only[htk,hsz]
   refine⟨⟨zA,zA⟩,zA,?_⟩
   refine z8 120 (hp l[i] (JE hc)) hH (ua _ _) (vv ?_)
   refine zU (fun hd=>?_) (fun hd=>?_)
   ·rw[hd,cond_true]at hx
    exact uT (hR C hL) hx.symm
   ·rw[hd,cond_false]at hx
    simp only[yT (i:=i)]
    exact hb _ _ ⟨i+1,hc,hx⟩ [(1,1)] yF z9
  ·have hc:=zL hi hc
   rw[hc,JL]at hx
   exact uT (hR C hL) hx.symm
theorem QX {H:Hp}(s:Sv)(l:List BlL)(hs:SlH H (vsl s l.length) 6 (l.map BlL.r))(hl:l.length<=1000000000000000)(g:FuncId)(caps:Array Value)(p:BlL->Bool)(hp:∀x∈l,CallH H Hf g ((yD (BlL.r x))::caps.toList.map rR) (Bo (p x))):
  CallH H Hf 16 [.c (.v (vsl s l.length)),Fv g caps] (Bo (l.any p)):=by
 refine kH func16 RU ntmps16 fun C hR hP hH hL=>?_
 refine zB 100 (vv ?_)
 refine z8 110 (Uj s l hs hl g caps p hp) hH rfl (vv ?_)
 exact yL (hR C hL) (ww p l 0 zA)
theorem U3 {H:Hp}(x:BlL)(g:FuncId)(b:Bool)(hg:CallH H Hf g [(yD (BlL.r x))] (Bo b))(pv:Value)(hpv:PtH H pv [.func (.func g) #[] #[]]):CallH H Hf 158 [(yD (BlL.r x)),.c (.v pv)] (Bo (!b)):=by
 refine kH func158 RW ntmps158 fun C hR hP hH hL=>?_
 refine zk 1 56 1 (hpv.mono hH) rfl rfl (zB 100 ?_)
 refine vv ?_
 refine z8 110 hg hH rfl (vv ?_)
 exact yL (hR C hL) rfl
theorem Qf {H:Hp}(s:Sv)(l:List BlL)(hs:SlH H (vsl s l.length) 6 (l.map BlL.r))(hl:l.length<=1000000000000000)(g:FuncId)(p:BlL->Bool)(hp:∀x∈l,CallH H Hf g [(yD (BlL.r x))] (Bo (p x))):
  CallH H Hf 92 [.c (.v (vsl s l.length)),Fv g #[]] (Bo (l.all p)):=by
 refine kH func92 OH ntmps92 fun C hR hP hH hL=>?_
 refine zB 100 (vv ?_)
 refine CallQ.letgo (xs:=[_,_]) [100] hL hP rfl rfl rfl RU rfl rfl (fun β Cn l1 l2 l3=>?_)
 have hpt:=(l3 100 _ rfl rfl rfl).pt zc
 refine xA 110 l1 (QX s l (hs.mono (hH.trans l2)) hl 158 #[ve β 100 0] (fun x=> !p x) (fun x hx=>U3 x g (p x) ((hp x hx).mono (hH.trans l2)) _ hpt)) (zV _) rfl (fun Cm m1 m2=>?_)
 refine vv ?_
 refine yL (hR Cm m1) ?_
 rw[JX]
theorem Ue {H:Hp}(s:Sv)(l:List Un)(hs:SlH H (vsl s l.length) 5 (l.map wA))(hl:l.length<=1000000000000000)(g:FuncId)(caps:Array Value)(p:Un->Bool)(hp:∀x∈l,CallH H Hf g ((yD (wA x))::caps.toList.map rR) (Bo (p x))):
  CallH H Hf 236 [.c (.v (vsl s l.length)),Fv g caps] (I (tw p l 0)):=by
 have hlen:(l.map wA).length=l.length:=Ku _
 have hsz:=zP (r:=wA) (k:=5) (fun _=>rfl) l
 refine kH func236 SJ ntmps236 fun C hR hP hH hL=>?_
 refine zB 100 (vv ?_)
 refine Sm.bringR 1 41 0 (hs.mono hH) rfl rfl ?_
 simp only[hlen]
 refine zG (M0:=[]) (α:={i:Nat//i<=l.length/\tw p l 0=tw p (l.drop i) i}) hP (fun i=>[(0,true,.c (.sl 1 0 l.length 5)),(1,true,Fv g caps),(7,true,I l.length),(8,true,I i.val)]) (fun _=>[(1,⟨true,zD (l.map wA),41⟩)]) (fun i=>l.length-i.val) ⟨0,zA,rfl⟩ (fun _=>ClM.v (by simp only[Ky,zS];rfl)) (fun _=>zO rfl) [(1,1)] ?_ ?_
 ·exact z9
 ·rintro⟨i,hi,hx⟩ J hb
  simp only at hb hi hx⊢
  refine zB 110 (vv ?_)
  refine zU (fun hc=>?_) (fun hc=>?_)
  ·have hc:=zH hc
   rw[wO p l i hc]at hx
   have htk:=z6 (r:=wA) (k:=5) (fun _=>rfl) l i hc
   simp only[htk,hsz]
   refine⟨⟨zA,zA⟩,zA,?_⟩
   refine z8 120 (hp l[i] (JE hc)) hH (ua _ _) (vv ?_)
   refine zU (fun hd=>?_) (fun hd=>?_)
   ·rw[hd,cond_true]at hx
    exact uT (hR C hL) hx.symm
   ·rw[hd,cond_false]at hx
    simp only[yT (i:=i)]
    exact hb _ _ ⟨i+1,hc,hx⟩ [(1,1)] yF z9
  ·have hc:=zL hi hc
   rw[hc,JL]at hx
   exact uT (hR C hL) hx.symm
theorem ti {H:Hp}(s:Sv)(l:List Un)(hs:SlH H (vsl s l.length) 5 (l.map wA))(hl:l.length<=1000000000000000)(g:FuncId)(caps:Array Value)(p:Un->Bool)(hp:∀x∈l,CallH H Hf g ((yD (wA x))::caps.toList.map rR) (Bo (p x))):
  CallH H Hf 203 [.c (.v (vsl s l.length)),Fv g caps] (Bo (l.any p)):=by
 refine kH func203 tG ntmps203 fun C hR hP hH hL=>?_
 refine zB 100 (vv ?_)
 refine z8 110 (Ue s l hs hl g caps p hp) hH rfl (vv ?_)
 exact yL (hR C hL) (ww p l 0 zA)
theorem Pp {H:Hp}(s:Sv)(l:List Str)(hs:SlH H (vsl s l.length) 1 (yH l))(hl:l.length<=1000000000000000)(g:FuncId)(caps:Array Value)(p:Str->Bool)(hp:∀x∈l,CallH H Hf g ((.c (sC x))::caps.toList.map rR) (Bo (p x))):
  CallH H Hf 201 [.c (.v (vsl s l.length)),Fv g caps] (I (tw p l 0)):=by
 refine kH func201 Se ntmps201 fun C hR hP hH hL=>?_
 refine zB 100 (vv ?_)
 refine Sm.bringS 1 9 0 (hs.mono hH) rfl rfl ?_
 refine zG (M0:=[]) (α:={i:Nat//i<=l.length/\tw p l 0=tw p (l.drop i) i}) hP (fun i=>[(0,true,.c (.sl 1 0 l.length 1)),(1,true,Fv g caps),(7,true,I l.length),(8,true,I i.val)]) (fun _=>[(1,⟨true,l.map sC,9⟩)]) (fun i=>l.length-i.val) ⟨0,zA,rfl⟩ (fun _=>ClM.v (by simp only[Ky,y7];rfl)) (fun _=>zO rfl) [(1,1)] ?_ ?_
 ·exact z9
 ·rintro⟨i,hi,hx⟩ J hb
  simp only at hb hi hx⊢
  refine zB 110 (vv ?_)
  refine zU (fun hc=>?_) (fun hc=>?_)
  ·have hc:=zH hc
   rw[wO p l i hc]at hx
   simp only[go_sem,xq hc]
   refine⟨⟨zA,zA⟩,?_⟩
   refine z8 120 (hp l[i] (JE hc)) hH (ua _ _) (vv ?_)
   refine zU (fun hd=>?_) (fun hd=>?_)
   ·rw[hd,cond_true]at hx
    exact uT (hR C hL) hx.symm
   ·rw[hd,cond_false]at hx
    simp only[yT (i:=i)]
    exact hb _ _ ⟨i+1,hc,hx⟩ [(1,1)] yF z9
  ·have hc:=zL hi hc
   rw[hc,JL]at hx
   exact uT (hR C hL) hx.symm
theorem NK {H:Hp}(s:Sv)(l:List Str)(hs:SlH H (vsl s l.length) 1 (yH l))(hl:l.length<=1000000000000000)(g:FuncId)(caps:Array Value)(p:Str->Bool)(hp:∀x∈l,CallH H Hf g ((.c (sC x))::caps.toList.map rR) (Bo (p x))):
  CallH H Hf 161 [.c (.v (vsl s l.length)),Fv g caps] (Bo (l.any p)):=by
 refine kH func161 Xk ntmps161 fun C hR hP hH hL=>?_
 refine zB 100 (vv ?_)
 refine z8 110 (Pp s l hs hl g caps p hp) hH rfl (vv ?_)
 exact yL (hR C hL) (ww p l 0 zA)
theorem Pc {H:Hp}(x:Str)(g:FuncId)(b:Bool)(hg:CallH H Hf g [(.c (sC x))] (Bo b))(pv:Value)(hpv:PtH H pv [.func (.func g) #[] #[]]):CallH H Hf 162 [(.c (sC x)),.c (.v pv)] (Bo (!b)):=by
 refine kH func162 RS ntmps162 fun C hR hP hH hL=>?_
 refine zk 1 68 1 (hpv.mono hH) rfl rfl (zB 100 ?_)
 refine vv ?_
 refine z8 110 hg hH rfl (vv ?_)
 exact yL (hR C hL) rfl
theorem Qb {H:Hp}(s:Sv)(l:List Str)(hs:SlH H (vsl s l.length) 1 (yH l))(hl:l.length<=1000000000000000)(g:FuncId)(p:Str->Bool)(hp:∀x∈l,CallH H Hf g [(.c (sC x))] (Bo (p x))):
  CallH H Hf 94 [.c (.v (vsl s l.length)),Fv g #[]] (Bo (l.all p)):=by
 refine kH func94 OF ntmps94 fun C hR hP hH hL=>?_
 refine zB 100 (vv ?_)
 refine CallQ.letgo (xs:=[_,_]) [100] hL hP rfl rfl rfl Xk rfl rfl (fun β Cn l1 l2 l3=>?_)
 have hpt:=(l3 100 _ rfl rfl rfl).pt zc
 refine xA 110 l1 (NK s l (hs.mono (hH.trans l2)) hl 162 #[ve β 100 0] (fun x=> !p x) (fun x hx=>Pc x g (p x) ((hp x hx).mono (hH.trans l2)) _ hpt)) (zV _) rfl (fun Cm m1 m2=>?_)
 refine vv ?_
 refine yL (hR Cm m1) ?_
 rw[JX]
theorem Pq {H:Hp}(s:Sv)(l:List Int)(hs:SlH H (vsl s l.length) 1 (zZ l))(hl:l.length<=1000000000000000)(g:FuncId)(caps:Array Value)(p:Int->Bool)(hp:∀x∈l,CallH H Hf g ((.c (iC x))::caps.toList.map rR) (Bo (p x))):
  CallH H Hf 171 [.c (.v (vsl s l.length)),Fv g caps] (I (tw p l 0)):=by
 refine kH func171 Xj ntmps171 fun C hR hP hH hL=>?_
 refine zB 100 (vv ?_)
 refine Sm.bringI 1 3 0 (hs.mono hH) rfl rfl ?_
 refine zG (M0:=[]) (α:={i:Nat//i<=l.length/\tw p l 0=tw p (l.drop i) i}) hP (fun i=>[(0,true,.c (.sl 1 0 l.length 1)),(1,true,Fv g caps),(7,true,I l.length),(8,true,I i.val)]) (fun _=>[(1,⟨true,l.map iC,3⟩)]) (fun i=>l.length-i.val) ⟨0,zA,rfl⟩ (fun _=>ClM.v (by simp only[Ky,yX];rfl)) (fun _=>zO rfl) [(1,1)] ?_ ?_
 ·exact z9
 ·rintro⟨i,hi,hx⟩ J hb
  simp only at hb hi hx⊢
  refine zB 110 (vv ?_)
  refine zU (fun hc=>?_) (fun hc=>?_)
  ·have hc:=zH hc
   rw[wO p l i hc]at hx
   simp only[go_sem,xt hc]
   refine⟨⟨zA,zA⟩,?_⟩
   refine z8 120 (hp l[i] (JE hc)) hH (ua _ _) (vv ?_)
   refine zU (fun hd=>?_) (fun hd=>?_)
   ·rw[hd,cond_true]at hx
    exact uT (hR C hL) hx.symm
   ·rw[hd,cond_false]at hx
    simp only[yT (i:=i)]
    exact hb _ _ ⟨i+1,hc,hx⟩ [(1,1)] yF z9
  ·have hc:=zL hi hc
   rw[hc,JL]at hx
   exact uT (hR C hL) hx.symm
theorem Ye {H:Hp}(s:Sv)(l:List Int)(hs:SlH H (vsl s l.length) 1 (zZ l))(hl:l.length<=1000000000000000)(g:FuncId)(caps:Array Value)(p:Int->Bool)(hp:∀x∈l,CallH H Hf g ((.c (iC x))::caps.toList.map rR) (Bo (p x))):
  CallH H Hf 106 [.c (.v (vsl s l.length)),Fv g caps] (Bo (l.any p)):=by
 refine kH func106 aa ntmps106 fun C hR hP hH hL=>?_
 refine zB 100 (vv ?_)
 refine z8 110 (Pq s l hs hl g caps p hp) hH rfl (vv ?_)
 exact yL (hR C hL) (ww p l 0 zA)
theorem Pd {H:Hp}(x:Int)(g:FuncId)(b:Bool)(hg:CallH H Hf g [(.c (iC x))] (Bo b))(pv:Value)(hpv:PtH H pv [.func (.func g) #[] #[]]):CallH H Hf 200 [(.c (iC x)),.c (.v pv)] (Bo (!b)):=by
 refine kH func200 Sf ntmps200 fun C hR hP hH hL=>?_
 refine zk 1 161 1 (hpv.mono hH) rfl rfl (zB 100 ?_)
 refine vv ?_
 refine z8 110 hg hH rfl (vv ?_)
 exact yL (hR C hL) rfl
theorem NU {H:Hp}(s:Sv)(l:List Int)(hs:SlH H (vsl s l.length) 1 (zZ l))(hl:l.length<=1000000000000000)(g:FuncId)(p:Int->Bool)(hp:∀x∈l,CallH H Hf g [(.c (iC x))] (Bo (p x))):
  CallH H Hf 160 [.c (.v (vsl s l.length)),Fv g #[]] (Bo (l.all p)):=by
 refine kH func160 RT ntmps160 fun C hR hP hH hL=>?_
 refine zB 100 (vv ?_)
 refine CallQ.letgo (xs:=[_,_]) [100] hL hP rfl rfl rfl aa rfl rfl (fun β Cn l1 l2 l3=>?_)
 have hpt:=(l3 100 _ rfl rfl rfl).pt zc
 refine xA 110 l1 (Ye s l (hs.mono (hH.trans l2)) hl 200 #[ve β 100 0] (fun x=> !p x) (fun x hx=>Pd x g (p x) ((hp x hx).mono (hH.trans l2)) _ hpt)) (zV _) rfl (fun Cm m1 m2=>?_)
 refine vv ?_
 refine yL (hR Cm m1) ?_
 rw[JX]
end Go.Proofs.YtkciabfilokfiaaGreat.Fx
