/-  -/
import Derived.Test.YtbnkiacicnnmkaaGreatQ3
open Go.Proofs.Tryz
open Go.Proofs.Tryz renaming prog→HT
set_option linter.unusedSimpArgs false
set_option linter.unusedVariables false
set_option maxRecDepth 100000
set_option maxHeartbeats 4000000
namespace Go.Proofs.YtbnkiacicnnmkaaGreat.Fx
open Vg Tf
@[go_sem] def xI (u:Un):List Value:=[.int .i64 u.m,.int .i64 u.kg,.int .i64 u.s,.int .i64 u.a,.int .i64 u.k]
theorem zW {α:Type}{r:α->List Value}{k:Nat}(hk:∀x,(r x).length=k)(l:List α)(i:Nat)(h:i<l.length):((zC (l.map r)).drop (i*k)).take k=(r l[i]).map Cv.v:=by
 rw[uH (l.map r) (fun x hx=>by obtain⟨y,_,rfl⟩:=JL.1 hx;exact hk y) i (by simpa using h)]
 simp
theorem zQ {α:Type}{r:α->List Value}{k:Nat}(hk:∀x,(r x).length=k)(l:List α):(zC (l.map r)).length=l.length*k:=by
 rw[yQ (k:=k) (l.map r) (fun x hx=>by obtain⟨y,_,rfl⟩:=JL.1 hx;exact hk y)]
 simp
theorem xR (x:V)(caps:List Value):[some (true,x)]++caps.map (fun c=>some (true,v9 c))=(x::caps.map v9).map fun x=>some (true,x):=z9
abbrev Fv (g:FuncId)(caps:Array Value):V:= .c (.v (.func (.func g) #[] caps))
theorem Zw {H:Hp}(s:Sv)(l:List Td)(hs:SlH H (vsl s l.length) 11 (l.map Td.r))(hl:l.length<=1000000000000000)(g:FuncId)(caps:Array Value)(p:Td->Bool)(hp:∀x∈l,CallH H HT g ((z3 (Td.r x))::caps.toList.map v9) (Bo (p x))):
  CallH H HT 150 [.c (.v (vsl s l.length)),Fv g caps] (I (xy p l 0)):=by
 have hlen:(l.map Td.r).length=l.length:=Kv _
 have hsz:=zQ (r:=Td.r) (k:=11) (fun _=>rfl) l
 refine kH func150 YQ ntmps150 fun C hR hP hH hL=>?_
 refine zB 100 (vv ?_)
 refine Sm.bringR 1 57 0 (hs.mono hH) rfl rfl ?_
 simp only[hlen]
 refine zK (M0:=[]) (α:={i:Nat//i<=l.length/\xy p l 0=xy p (l.drop i) i}) hP (fun i=>[(0,true,.c (.sl 1 0 l.length 11)),(1,true,Fv g caps),(7,true,I l.length),(8,true,I i.val)]) (fun _=>[(1,⟨true,zC (l.map Td.r),57⟩)]) (fun i=>l.length-i.val) ⟨0,zA,rfl⟩ (fun _=>ClM.v (by simp only[Kw,zJ];rfl)) (fun _=>zO rfl) [(1,1)] ?_ ?_
 ·exact zh
 ·rintro⟨i,hi,hx⟩ J hb
  simp only at hb hi hx⊢
  refine zB 110 (vv ?_)
  refine zV (fun hc=>?_) (fun hc=>?_)
  ·have hc:=zH hc
   rw[yU p l i hc]at hx
   have htk:=zW (r:=Td.r) (k:=11) (fun _=>rfl) l i hc
   simp only[htk,hsz]
   refine⟨⟨zA,zA⟩,zA,?_⟩
   refine zM 120 (hp l[i] (JH hc)) hH (xR _ _) (vv ?_)
   refine zV (fun hd=>?_) (fun hd=>?_)
   ·rw[hd,cond_true]at hx
    exact ww (hR C hL) hx.symm
   ·rw[hd,cond_false]at hx
    simp only[yu (i:=i)]
    exact hb _ _ ⟨i+1,hc,hx⟩ [(1,1)] yL zh
  ·have hc:=zI hi hc
   rw[hc,JI]at hx
   exact ww (hR C hL) hx.symm
theorem Rg {H:Hp}(s:Sv)(l:List Td)(hs:SlH H (vsl s l.length) 11 (l.map Td.r))(hl:l.length<=1000000000000000)(g:FuncId)(caps:Array Value)(p:Td->Bool)(hp:∀x∈l,CallH H HT g ((z3 (Td.r x))::caps.toList.map v9) (Bo (p x))):
  CallH H HT 183 [.c (.v (vsl s l.length)),Fv g caps] (Bo (l.any p)):=by
 refine kH func183 YM ntmps183 fun C hR hP hH hL=>?_
 refine zB 100 (vv ?_)
 refine zM 110 (Zw s l hs hl g caps p hp) hH rfl (vv ?_)
 exact zp (hR C hL) (yj p l 0 zA)
theorem VX {H:Hp}(x:Td)(g:FuncId)(b:Bool)(hg:CallH H HT g [(z3 (Td.r x))] (Bo b))(pv:Value)(hpv:PtH H pv [.func (.func g) #[] #[]]):CallH H HT 184 [(z3 (Td.r x)),.c (.v pv)] (Bo (!b)):=by
 refine kH func184 SN ntmps184 fun C hR hP hH hL=>?_
 refine zX 1 177 1 (hpv.mono hH) rfl rfl (zB 100 ?_)
 refine vv ?_
 refine zM 110 hg hH rfl (vv ?_)
 exact zp (hR C hL) rfl
theorem QI {H:Hp}(s:Sv)(l:List Td)(hs:SlH H (vsl s l.length) 11 (l.map Td.r))(hl:l.length<=1000000000000000)(g:FuncId)(p:Td->Bool)(hp:∀x∈l,CallH H HT g [(z3 (Td.r x))] (Bo (p x))):
  CallH H HT 100 [.c (.v (vsl s l.length)),Fv g #[]] (Bo (l.all p)):=by
 refine kH func100 Rc ntmps100 fun C hR hP hH hL=>?_
 refine zB 100 (vv ?_)
 refine CallQ.letgo (xs:=[_,_]) [100] hL hP rfl rfl rfl YM rfl rfl (fun β Cn l1 l2 l3=>?_)
 have hpt:=(l3 100 _ rfl rfl rfl).pt z9
 refine yO 110 l1 (Rg s l (hs.mono (hH.trans l2)) hl 184 #[xl β 100 0] (fun x=> !p x) (fun x hx=>VX x g (p x) ((hp x hx).mono (hH.trans l2)) _ hpt)) (Hp.le.refl _) rfl (fun Cm m1 m2=>?_)
 refine vv ?_
 refine zp (hR Cm m1) ?_
 rw[JU]
theorem Vs {H:Hp}(s:Sv)(l:List CuL)(hs:SlH H (vsl s l.length) 3 (l.map CuL.r))(hl:l.length<=1000000000000000)(g:FuncId)(caps:Array Value)(p:CuL->Bool)(hp:∀x∈l,CallH H HT g ((z3 (CuL.r x))::caps.toList.map v9) (Bo (p x))):
  CallH H HT 144 [.c (.v (vsl s l.length)),Fv g caps] (I (xy p l 0)):=by
 have hlen:(l.map CuL.r).length=l.length:=Kv _
 have hsz:=zQ (r:=CuL.r) (k:=3) (fun _=>rfl) l
 refine kH func144 Sp ntmps144 fun C hR hP hH hL=>?_
 refine zB 100 (vv ?_)
 refine Sm.bringR 1 138 0 (hs.mono hH) rfl rfl ?_
 simp only[hlen]
 refine zK (M0:=[]) (α:={i:Nat//i<=l.length/\xy p l 0=xy p (l.drop i) i}) hP (fun i=>[(0,true,.c (.sl 1 0 l.length 3)),(1,true,Fv g caps),(7,true,I l.length),(8,true,I i.val)]) (fun _=>[(1,⟨true,zC (l.map CuL.r),138⟩)]) (fun i=>l.length-i.val) ⟨0,zA,rfl⟩ (fun _=>ClM.v (by simp only[Kw,zJ];rfl)) (fun _=>zO rfl) [(1,1)] ?_ ?_
 ·exact zh
 ·rintro⟨i,hi,hx⟩ J hb
  simp only at hb hi hx⊢
  refine zB 110 (vv ?_)
  refine zV (fun hc=>?_) (fun hc=>?_)
  ·have hc:=zH hc
   rw[yU p l i hc]at hx
   have htk:=zW (r:=CuL.r) (k:=3) (fun _=>rfl) l i hc
   simp only[htk,hsz]
   refine⟨⟨zA,zA⟩,zA,?_⟩
   refine zM 120 (hp l[i] (JH hc)) hH (xR _ _) (vv ?_)
   refine zV (fun hd=>?_) (fun hd=>?_)
   ·rw[hd,cond_true]at hx
    exact ww (hR C hL) hx.symm
   ·rw[hd,cond_false]at hx
    simp only[yu (i:=i)]
    exact hb _ _ ⟨i+1,hc,hx⟩ [(1,1)] yL zh
  ·have hc:=zI hi hc
   rw[hc,JI]at hx
   exact ww (hR C hL) hx.symm
theorem Rl {H:Hp}(s:Sv)(l:List CuL)(hs:SlH H (vsl s l.length) 3 (l.map CuL.r))(hl:l.length<=1000000000000000)(g:FuncId)(caps:Array Value)(p:CuL->Bool)(hp:∀x∈l,CallH H HT g ((z3 (CuL.r x))::caps.toList.map v9) (Bo (p x))):
  CallH H HT 185 [.c (.v (vsl s l.length)),Fv g caps] (Bo (l.any p)):=by
 refine kH func185 YL ntmps185 fun C hR hP hH hL=>?_
 refine zB 100 (vv ?_)
 refine zM 110 (Vs s l hs hl g caps p hp) hH rfl (vv ?_)
 exact zp (hR C hL) (yj p l 0 zA)
theorem V0 {H:Hp}(x:CuL)(g:FuncId)(b:Bool)(hg:CallH H HT g [(z3 (CuL.r x))] (Bo b))(pv:Value)(hpv:PtH H pv [.func (.func g) #[] #[]]):CallH H HT 186 [(z3 (CuL.r x)),.c (.v pv)] (Bo (!b)):=by
 refine kH func186 SM ntmps186 fun C hR hP hH hL=>?_
 refine zX 1 179 1 (hpv.mono hH) rfl rfl (zB 100 ?_)
 refine vv ?_
 refine zM 110 hg hH rfl (vv ?_)
 exact zp (hR C hL) rfl
theorem QM {H:Hp}(s:Sv)(l:List CuL)(hs:SlH H (vsl s l.length) 3 (l.map CuL.r))(hl:l.length<=1000000000000000)(g:FuncId)(p:CuL->Bool)(hp:∀x∈l,CallH H HT g [(z3 (CuL.r x))] (Bo (p x))):
  CallH H HT 102 [.c (.v (vsl s l.length)),Fv g #[]] (Bo (l.all p)):=by
 refine kH func102 R8 ntmps102 fun C hR hP hH hL=>?_
 refine zB 100 (vv ?_)
 refine CallQ.letgo (xs:=[_,_]) [100] hL hP rfl rfl rfl YL rfl rfl (fun β Cn l1 l2 l3=>?_)
 have hpt:=(l3 100 _ rfl rfl rfl).pt z9
 refine yO 110 l1 (Rl s l (hs.mono (hH.trans l2)) hl 186 #[xl β 100 0] (fun x=> !p x) (fun x hx=>V0 x g (p x) ((hp x hx).mono (hH.trans l2)) _ hpt)) (Hp.le.refl _) rfl (fun Cm m1 m2=>?_)
 refine vv ?_
 refine zp (hR Cm m1) ?_
 rw[JU]
theorem Vp {H:Hp}(s:Sv)(l:List MpL)(hs:SlH H (vsl s l.length) 4 (l.map MpL.r))(hl:l.length<=1000000000000000)(g:FuncId)(caps:Array Value)(p:MpL->Bool)(hp:∀x∈l,CallH H HT g ((z3 (MpL.r x))::caps.toList.map v9) (Bo (p x))):
  CallH H HT 147 [.c (.v (vsl s l.length)),Fv g caps] (I (xy p l 0)):=by
 have hlen:(l.map MpL.r).length=l.length:=Kv _
 have hsz:=zQ (r:=MpL.r) (k:=4) (fun _=>rfl) l
 refine kH func147 So ntmps147 fun C hR hP hH hL=>?_
 refine zB 100 (vv ?_)
 refine Sm.bringR 1 140 0 (hs.mono hH) rfl rfl ?_
 simp only[hlen]
 refine zK (M0:=[]) (α:={i:Nat//i<=l.length/\xy p l 0=xy p (l.drop i) i}) hP (fun i=>[(0,true,.c (.sl 1 0 l.length 4)),(1,true,Fv g caps),(7,true,I l.length),(8,true,I i.val)]) (fun _=>[(1,⟨true,zC (l.map MpL.r),140⟩)]) (fun i=>l.length-i.val) ⟨0,zA,rfl⟩ (fun _=>ClM.v (by simp only[Kw,zJ];rfl)) (fun _=>zO rfl) [(1,1)] ?_ ?_
 ·exact zh
 ·rintro⟨i,hi,hx⟩ J hb
  simp only at hb hi hx⊢
  refine zB 110 (vv ?_)
  refine zV (fun hc=>?_) (fun hc=>?_)
  ·have hc:=zH hc
   rw[yU p l i hc]at hx
   have htk:=zW (r:=MpL.r) (k:=4) (fun _=>rfl) l i hc
   simp only[htk,hsz]
   refine⟨⟨zA,zA⟩,zA,?_⟩
   refine zM 120 (hp l[i] (JH hc)) hH (xR _ _) (vv ?_)
   refine zV (fun hd=>?_) (fun hd=>?_)
   ·rw[hd,cond_true]at hx
    exact ww (hR C hL) hx.symm
   ·rw[hd,cond_false]at hx
    simp only[yu (i:=i)]
    exact hb _ _ ⟨i+1,hc,hx⟩ [(1,1)] yL zh
  ·have hc:=zI hi hc
   rw[hc,JI]at hx
   exact ww (hR C hL) hx.symm
theorem Ri {H:Hp}(s:Sv)(l:List MpL)(hs:SlH H (vsl s l.length) 4 (l.map MpL.r))(hl:l.length<=1000000000000000)(g:FuncId)(caps:Array Value)(p:MpL->Bool)(hp:∀x∈l,CallH H HT g ((z3 (MpL.r x))::caps.toList.map v9) (Bo (p x))):
  CallH H HT 187 [.c (.v (vsl s l.length)),Fv g caps] (Bo (l.any p)):=by
 refine kH func187 YK ntmps187 fun C hR hP hH hL=>?_
 refine zB 100 (vv ?_)
 refine zM 110 (Vp s l hs hl g caps p hp) hH rfl (vv ?_)
 exact zp (hR C hL) (yj p l 0 zA)
theorem VZ {H:Hp}(x:MpL)(g:FuncId)(b:Bool)(hg:CallH H HT g [(z3 (MpL.r x))] (Bo b))(pv:Value)(hpv:PtH H pv [.func (.func g) #[] #[]]):CallH H HT 188 [(z3 (MpL.r x)),.c (.v pv)] (Bo (!b)):=by
 refine kH func188 SL ntmps188 fun C hR hP hH hL=>?_
 refine zX 1 181 1 (hpv.mono hH) rfl rfl (zB 100 ?_)
 refine vv ?_
 refine zM 110 hg hH rfl (vv ?_)
 exact zp (hR C hL) rfl
theorem QL {H:Hp}(s:Sv)(l:List MpL)(hs:SlH H (vsl s l.length) 4 (l.map MpL.r))(hl:l.length<=1000000000000000)(g:FuncId)(p:MpL->Bool)(hp:∀x∈l,CallH H HT g [(z3 (MpL.r x))] (Bo (p x))):
  CallH H HT 104 [.c (.v (vsl s l.length)),Fv g #[]] (Bo (l.all p)):=by
 refine kH func104 R6 ntmps104 fun C hR hP hH hL=>?_
 refine zB 100 (vv ?_)
 refine CallQ.letgo (xs:=[_,_]) [100] hL hP rfl rfl rfl YK rfl rfl (fun β Cn l1 l2 l3=>?_)
 have hpt:=(l3 100 _ rfl rfl rfl).pt z9
 refine yO 110 l1 (Ri s l (hs.mono (hH.trans l2)) hl 188 #[xl β 100 0] (fun x=> !p x) (fun x hx=>VZ x g (p x) ((hp x hx).mono (hH.trans l2)) _ hpt)) (Hp.le.refl _) rfl (fun Cm m1 m2=>?_)
 refine vv ?_
 refine zp (hR Cm m1) ?_
 rw[JU]
theorem Vn {H:Hp}(s:Sv)(l:List Po)(hs:SlH H (vsl s l.length) 4 (l.map Po.r))(hl:l.length<=1000000000000000)(g:FuncId)(caps:Array Value)(p:Po->Bool)(hp:∀x∈l,CallH H HT g ((z3 (Po.r x))::caps.toList.map v9) (Bo (p x))):
  CallH H HT 241 [.c (.v (vsl s l.length)),Fv g caps] (I (xy p l 0)):=by
 have hlen:(l.map Po.r).length=l.length:=Kv _
 have hsz:=zQ (r:=Po.r) (k:=4) (fun _=>rfl) l
 refine kH func241 TR ntmps241 fun C hR hP hH hL=>?_
 refine zB 100 (vv ?_)
 refine Sm.bringR 1 60 0 (hs.mono hH) rfl rfl ?_
 simp only[hlen]
 refine zK (M0:=[]) (α:={i:Nat//i<=l.length/\xy p l 0=xy p (l.drop i) i}) hP (fun i=>[(0,true,.c (.sl 1 0 l.length 4)),(1,true,Fv g caps),(7,true,I l.length),(8,true,I i.val)]) (fun _=>[(1,⟨true,zC (l.map Po.r),60⟩)]) (fun i=>l.length-i.val) ⟨0,zA,rfl⟩ (fun _=>ClM.v (by simp only[Kw,zJ];rfl)) (fun _=>zO rfl) [(1,1)] ?_ ?_
 ·exact zh
 ·rintro⟨i,hi,hx⟩ J hb
  simp only at hb hi hx⊢
  refine zB 110 (vv ?_)
  refine zV (fun hc=>?_) (fun hc=>?_)
  ·have hc:=zH hc
   rw[yU p l i hc]at hx
   have htk:=zW (r:=Po.r) (k:=4) (fun _=>rfl) l i hc
   simp only[htk,hsz]
   refine⟨⟨zA,zA⟩,zA,?_⟩
   refine zM 120 (hp l[i] (JH hc)) hH (xR _ _) (vv ?_)
   refine zV (fun hd=>?_) (fun hd=>?_)
   ·rw[hd,cond_true]at hx
    exact ww (hR C hL) hx.symm
   ·rw[hd,cond_false]at hx
    simp only[yu (i:=i)]
    exact hb _ _ ⟨i+1,hc,hx⟩ [(1,1)] yL zh
  ·have hc:=zI hi hc
   rw[hc,JI]at hx
   exact ww (hR C hL) hx.symm
theorem Rh {H:Hp}(s:Sv)(l:List Po)(hs:SlH H (vsl s l.length) 4 (l.map Po.r))(hl:l.length<=1000000000000000)(g:FuncId)(caps:Array Value)(p:Po->Bool)(hp:∀x∈l,CallH H HT g ((z3 (Po.r x))::caps.toList.map v9) (Bo (p x))):
  CallH H HT 189 [.c (.v (vsl s l.length)),Fv g caps] (Bo (l.any p)):=by
 refine kH func189 YJ ntmps189 fun C hR hP hH hL=>?_
 refine zB 100 (vv ?_)
 refine zM 110 (Vn s l hs hl g caps p hp) hH rfl (vv ?_)
 exact zp (hR C hL) (yj p l 0 zA)
theorem VY {H:Hp}(x:Po)(g:FuncId)(b:Bool)(hg:CallH H HT g [(z3 (Po.r x))] (Bo b))(pv:Value)(hpv:PtH H pv [.func (.func g) #[] #[]]):CallH H HT 190 [(z3 (Po.r x)),.c (.v pv)] (Bo (!b)):=by
 refine kH func190 SJ ntmps190 fun C hR hP hH hL=>?_
 refine zX 1 183 1 (hpv.mono hH) rfl rfl (zB 100 ?_)
 refine vv ?_
 refine zM 110 hg hH rfl (vv ?_)
 exact zp (hR C hL) rfl
theorem QK {H:Hp}(s:Sv)(l:List Po)(hs:SlH H (vsl s l.length) 4 (l.map Po.r))(hl:l.length<=1000000000000000)(g:FuncId)(p:Po->Bool)(hp:∀x∈l,CallH H HT g [(z3 (Po.r x))] (Bo (p x))):
  CallH H HT 106 [.c (.v (vsl s l.length)),Fv g #[]] (Bo (l.all p)):=by
 refine kH func106 RY ntmps106 fun C hR hP hH hL=>?_
 refine zB 100 (vv ?_)
 refine CallQ.letgo (xs:=[_,_]) [100] hL hP rfl rfl rfl YJ rfl rfl (fun β Cn l1 l2 l3=>?_)
 have hpt:=(l3 100 _ rfl rfl rfl).pt z9
 refine yO 110 l1 (Rh s l (hs.mono (hH.trans l2)) hl 190 #[xl β 100 0] (fun x=> !p x) (fun x hx=>VY x g (p x) ((hp x hx).mono (hH.trans l2)) _ hpt)) (Hp.le.refl _) rfl (fun Cm m1 m2=>?_)
 refine vv ?_
 refine zp (hR Cm m1) ?_
 rw[JU]
theorem Vu {H:Hp}(s:Sv)(l:List BlL)(hs:SlH H (vsl s l.length) 6 (l.map BlL.r))(hl:l.length<=1000000000000000)(g:FuncId)(caps:Array Value)(p:BlL->Bool)(hp:∀x∈l,CallH H HT g ((z3 (BlL.r x))::caps.toList.map v9) (Bo (p x))):
  CallH H HT 242 [.c (.v (vsl s l.length)),Fv g caps] (I (xy p l 0)):=by
 have hlen:(l.map BlL.r).length=l.length:=Kv _
 have hsz:=zQ (r:=BlL.r) (k:=6) (fun _=>rfl) l
 refine kH func242 TQ ntmps242 fun C hR hP hH hL=>?_
 refine zB 100 (vv ?_)
 refine Sm.bringR 1 64 0 (hs.mono hH) rfl rfl ?_
 simp only[hlen]
 refine zK (M0:=[]) (α:={i:Nat//i<=l.length/\xy p l 0=xy p (l.drop i) i}) hP (fun i=>[(0,true,.c (.sl 1 0 l.length 6)),(1,true,Fv g caps),(7,true,I l.length),(8,true,I i.val)]) (fun _=>[(1,⟨true,zC (l.map BlL.r),64⟩)]) (fun i=>l.length-i.val) ⟨0,zA,rfl⟩ (fun _=>ClM.v (by simp only[Kw,zJ];rfl)) (fun _=>zO rfl) [(1,1)] ?_ ?_
 ·exact zh
 ·rintro⟨i,hi,hx⟩ J hb
  simp only at hb hi hx⊢
  refine zB 110 (vv ?_)
  refine zV (fun hc=>?_) (fun hc=>?_)
  ·have hc:=zH hc
   rw[yU p l i hc]at hx
   have htk:=zW (r:=BlL.r) (k:=6) (fun _=>rfl) l i hc
   simp only[htk,hsz]
   refine⟨⟨zA,zA⟩,zA,?_⟩
   refine zM 120 (hp l[i] (JH hc)) hH (xR _ _) (vv ?_)
   refine zV (fun hd=>?_) (fun hd=>?_)
   ·rw[hd,cond_true]at hx
    exact ww (hR C hL) hx.symm
   ·rw[hd,cond_false]at hx
    simp only[yu (i:=i)]
    exact hb _ _ ⟨i+1,hc,hx⟩ [(1,1)] yL zh
  ·have hc:=zI hi hc
   rw[hc,JI]at hx
   exact ww (hR C hL) hx.symm
theorem Rm {H:Hp}(s:Sv)(l:List BlL)(hs:SlH H (vsl s l.length) 6 (l.map BlL.r))(hl:l.length<=1000000000000000)(g:FuncId)(caps:Array Value)(p:BlL->Bool)(hp:∀x∈l,CallH H HT g ((z3 (BlL.r x))::caps.toList.map v9) (Bo (p x))):
  CallH H HT 192 [.c (.v (vsl s l.length)),Fv g caps] (Bo (l.any p)):=by
 refine kH func192 YI ntmps192 fun C hR hP hH hL=>?_
 refine zB 100 (vv ?_)
 refine zM 110 (Vu s l hs hl g caps p hp) hH rfl (vv ?_)
 exact zp (hR C hL) (yj p l 0 zA)
theorem V1 {H:Hp}(x:BlL)(g:FuncId)(b:Bool)(hg:CallH H HT g [(z3 (BlL.r x))] (Bo b))(pv:Value)(hpv:PtH H pv [.func (.func g) #[] #[]]):CallH H HT 193 [(z3 (BlL.r x)),.c (.v pv)] (Bo (!b)):=by
 refine kH func193 SH ntmps193 fun C hR hP hH hL=>?_
 refine zX 1 185 1 (hpv.mono hH) rfl rfl (zB 100 ?_)
 refine vv ?_
 refine zM 110 hg hH rfl (vv ?_)
 exact zp (hR C hL) rfl
theorem QN {H:Hp}(s:Sv)(l:List BlL)(hs:SlH H (vsl s l.length) 6 (l.map BlL.r))(hl:l.length<=1000000000000000)(g:FuncId)(p:BlL->Bool)(hp:∀x∈l,CallH H HT g [(z3 (BlL.r x))] (Bo (p x))):
  CallH H HT 108 [.c (.v (vsl s l.length)),Fv g #[]] (Bo (l.all p)):=by
 refine kH func108 RW ntmps108 fun C hR hP hH hL=>?_
 refine zB 100 (vv ?_)
 refine CallQ.letgo (xs:=[_,_]) [100] hL hP rfl rfl rfl YI rfl rfl (fun β Cn l1 l2 l3=>?_)
 have hpt:=(l3 100 _ rfl rfl rfl).pt z9
 refine yO 110 l1 (Rm s l (hs.mono (hH.trans l2)) hl 193 #[xl β 100 0] (fun x=> !p x) (fun x hx=>V1 x g (p x) ((hp x hx).mono (hH.trans l2)) _ hpt)) (Hp.le.refl _) rfl (fun Cm m1 m2=>?_)
 refine vv ?_
 refine zp (hR Cm m1) ?_
 rw[JU]
theorem Vm {H:Hp}(s:Sv)(l:List Un)(hs:SlH H (vsl s l.length) 5 (l.map xI))(hl:l.length<=1000000000000000)(g:FuncId)(caps:Array Value)(p:Un->Bool)(hp:∀x∈l,CallH H HT g ((z3 (xI x))::caps.toList.map v9) (Bo (p x))):
  CallH H HT 278 [.c (.v (vsl s l.length)),Fv g caps] (I (xy p l 0)):=by
 have hlen:(l.map xI).length=l.length:=Kv _
 have hsz:=zQ (r:=xI) (k:=5) (fun _=>rfl) l
 refine kH func278 Uj ntmps278 fun C hR hP hH hL=>?_
 refine zB 100 (vv ?_)
 refine Sm.bringR 1 53 0 (hs.mono hH) rfl rfl ?_
 simp only[hlen]
 refine zK (M0:=[]) (α:={i:Nat//i<=l.length/\xy p l 0=xy p (l.drop i) i}) hP (fun i=>[(0,true,.c (.sl 1 0 l.length 5)),(1,true,Fv g caps),(7,true,I l.length),(8,true,I i.val)]) (fun _=>[(1,⟨true,zC (l.map xI),53⟩)]) (fun i=>l.length-i.val) ⟨0,zA,rfl⟩ (fun _=>ClM.v (by simp only[Kw,zJ];rfl)) (fun _=>zO rfl) [(1,1)] ?_ ?_
 ·exact zh
 ·rintro⟨i,hi,hx⟩ J hb
  simp only at hb hi hx⊢
  refine zB 110 (vv ?_)
  refine zV (fun hc=>?_) (fun hc=>?_)
  ·have hc:=zH hc
   rw[yU p l i hc]at hx
   have htk:=zW (r:=xI) (k:=5) (fun _=>rfl) l i hc
   simp only[htk,hsz]
   refine⟨⟨zA,zA⟩,zA,?_⟩
   refine zM 120 (hp l[i] (JH hc)) hH (xR _ _) (vv ?_)
   refine zV (fun hd=>?_) (fun hd=>?_)
   ·rw[hd,cond_true]at hx
    exact ww (hR C hL) hx.symm
   ·rw[hd,cond_false]at hx
    simp only[yu (i:=i)]
    exact hb _ _ ⟨i+1,hc,hx⟩ [(1,1)] yL zh
  ·have hc:=zI hi hc
   rw[hc,JI]at hx
   exact ww (hR C hL) hx.symm
theorem u6 {H:Hp}(s:Sv)(l:List Un)(hs:SlH H (vsl s l.length) 5 (l.map xI))(hl:l.length<=1000000000000000)(g:FuncId)(caps:Array Value)(p:Un->Bool)(hp:∀x∈l,CallH H HT g ((z3 (xI x))::caps.toList.map v9) (Bo (p x))):
  CallH H HT 248 [.c (.v (vsl s l.length)),Fv g caps] (Bo (l.any p)):=by
 refine kH func248 vr ntmps248 fun C hR hP hH hL=>?_
 refine zB 100 (vv ?_)
 refine zM 110 (Vm s l hs hl g caps p hp) hH rfl (vv ?_)
 exact zp (hR C hL) (yj p l 0 zA)
theorem Pd {H:Hp}(s:Sv)(l:List Str)(hs:SlH H (vsl s l.length) 1 (yH l))(hl:l.length<=1000000000000000)(g:FuncId)(caps:Array Value)(p:Str->Bool)(hp:∀x∈l,CallH H HT g ((.c (sC x))::caps.toList.map v9) (Bo (p x))):
  CallH H HT 245 [.c (.v (vsl s l.length)),Fv g caps] (I (xy p l 0)):=by
 refine kH func245 TN ntmps245 fun C hR hP hH hL=>?_
 refine zB 100 (vv ?_)
 refine Sm.bringS 1 9 0 (hs.mono hH) rfl rfl ?_
 refine zK (M0:=[]) (α:={i:Nat//i<=l.length/\xy p l 0=xy p (l.drop i) i}) hP (fun i=>[(0,true,.c (.sl 1 0 l.length 1)),(1,true,Fv g caps),(7,true,I l.length),(8,true,I i.val)]) (fun _=>[(1,⟨true,l.map sC,9⟩)]) (fun i=>l.length-i.val) ⟨0,zA,rfl⟩ (fun _=>ClM.v (by simp only[Kw,y8];rfl)) (fun _=>zO rfl) [(1,1)] ?_ ?_
 ·exact zh
 ·rintro⟨i,hi,hx⟩ J hb
  simp only at hb hi hx⊢
  refine zB 110 (vv ?_)
  refine zV (fun hc=>?_) (fun hc=>?_)
  ·have hc:=zH hc
   rw[yU p l i hc]at hx
   simp only[go_sem,vV hc]
   refine⟨⟨zA,zA⟩,?_⟩
   refine zM 120 (hp l[i] (JH hc)) hH (xR _ _) (vv ?_)
   refine zV (fun hd=>?_) (fun hd=>?_)
   ·rw[hd,cond_true]at hx
    exact ww (hR C hL) hx.symm
   ·rw[hd,cond_false]at hx
    simp only[yu (i:=i)]
    exact hb _ _ ⟨i+1,hc,hx⟩ [(1,1)] yL zh
  ·have hc:=zI hi hc
   rw[hc,JI]at hx
   exact ww (hR C hL) hx.symm
theorem NJ {H:Hp}(s:Sv)(l:List Str)(hs:SlH H (vsl s l.length) 1 (yH l))(hl:l.length<=1000000000000000)(g:FuncId)(caps:Array Value)(p:Str->Bool)(hp:∀x∈l,CallH H HT g ((.c (sC x))::caps.toList.map v9) (Bo (p x))):
  CallH H HT 196 [.c (.v (vsl s l.length)),Fv g caps] (Bo (l.any p)):=by
 refine kH func196 YH ntmps196 fun C hR hP hH hL=>?_
 refine zB 100 (vv ?_)
 refine zM 110 (Pd s l hs hl g caps p hp) hH rfl (vv ?_)
 exact zp (hR C hL) (yj p l 0 zA)
theorem PO {H:Hp}(x:Str)(g:FuncId)(b:Bool)(hg:CallH H HT g [(.c (sC x))] (Bo b))(pv:Value)(hpv:PtH H pv [.func (.func g) #[] #[]]):CallH H HT 197 [(.c (sC x)),.c (.v pv)] (Bo (!b)):=by
 refine kH func197 SE ntmps197 fun C hR hP hH hL=>?_
 refine zX 1 175 1 (hpv.mono hH) rfl rfl (zB 100 ?_)
 refine vv ?_
 refine zM 110 hg hH rfl (vv ?_)
 exact zp (hR C hL) rfl
theorem QJ {H:Hp}(s:Sv)(l:List Str)(hs:SlH H (vsl s l.length) 1 (yH l))(hl:l.length<=1000000000000000)(g:FuncId)(p:Str->Bool)(hp:∀x∈l,CallH H HT g [(.c (sC x))] (Bo (p x))):
  CallH H HT 110 [.c (.v (vsl s l.length)),Fv g #[]] (Bo (l.all p)):=by
 refine kH func110 RU ntmps110 fun C hR hP hH hL=>?_
 refine zB 100 (vv ?_)
 refine CallQ.letgo (xs:=[_,_]) [100] hL hP rfl rfl rfl YH rfl rfl (fun β Cn l1 l2 l3=>?_)
 have hpt:=(l3 100 _ rfl rfl rfl).pt z9
 refine yO 110 l1 (NJ s l (hs.mono (hH.trans l2)) hl 197 #[xl β 100 0] (fun x=> !p x) (fun x hx=>PO x g (p x) ((hp x hx).mono (hH.trans l2)) _ hpt)) (Hp.le.refl _) rfl (fun Cm m1 m2=>?_)
 refine vv ?_
 refine zp (hR Cm m1) ?_
 rw[JU]
theorem Pe {H:Hp}(s:Sv)(l:List Int)(hs:SlH H (vsl s l.length) 1 (zP l))(hl:l.length<=1000000000000000)(g:FuncId)(caps:Array Value)(p:Int->Bool)(hp:∀x∈l,CallH H HT g ((.c (iC x))::caps.toList.map v9) (Bo (p x))):
  CallH H HT 164 [.c (.v (vsl s l.length)),Fv g caps] (I (xy p l 0)):=by
 refine kH func164 YP ntmps164 fun C hR hP hH hL=>?_
 refine zB 100 (vv ?_)
 refine Sm.bringI 1 3 0 (hs.mono hH) rfl rfl ?_
 refine zK (M0:=[]) (α:={i:Nat//i<=l.length/\xy p l 0=xy p (l.drop i) i}) hP (fun i=>[(0,true,.c (.sl 1 0 l.length 1)),(1,true,Fv g caps),(7,true,I l.length),(8,true,I i.val)]) (fun _=>[(1,⟨true,l.map iC,3⟩)]) (fun i=>l.length-i.val) ⟨0,zA,rfl⟩ (fun _=>ClM.v (by simp only[Kw,zq];rfl)) (fun _=>zO rfl) [(1,1)] ?_ ?_
 ·exact zh
 ·rintro⟨i,hi,hx⟩ J hb
  simp only at hb hi hx⊢
  refine zB 110 (vv ?_)
  refine zV (fun hc=>?_) (fun hc=>?_)
  ·have hc:=zH hc
   rw[yU p l i hc]at hx
   simp only[go_sem,wC hc]
   refine⟨⟨zA,zA⟩,?_⟩
   refine zM 120 (hp l[i] (JH hc)) hH (xR _ _) (vv ?_)
   refine zV (fun hd=>?_) (fun hd=>?_)
   ·rw[hd,cond_true]at hx
    exact ww (hR C hL) hx.symm
   ·rw[hd,cond_false]at hx
    simp only[yu (i:=i)]
    exact hb _ _ ⟨i+1,hc,hx⟩ [(1,1)] yL zh
  ·have hc:=zI hi hc
   rw[hc,JI]at hx
   exact ww (hR C hL) hx.symm
theorem lZ {H:Hp}(s:Sv)(l:List Int)(hs:SlH H (vsl s l.length) 1 (zP l))(hl:l.length<=1000000000000000)(g:FuncId)(caps:Array Value)(p:Int->Bool)(hp:∀x∈l,CallH H HT g ((.c (iC x))::caps.toList.map v9) (Bo (p x))):
  CallH H HT 77 [.c (.v (vsl s l.length)),Fv g caps] (Bo (l.any p)):=by
 refine kH func77 WE ntmps77 fun C hR hP hH hL=>?_
 refine zB 100 (vv ?_)
 refine zM 110 (Pe s l hs hl g caps p hp) hH rfl (vv ?_)
 exact zp (hR C hL) (yj p l 0 zA)
theorem PP {H:Hp}(x:Int)(g:FuncId)(b:Bool)(hg:CallH H HT g [(.c (iC x))] (Bo b))(pv:Value)(hpv:PtH H pv [.func (.func g) #[] #[]]):CallH H HT 244 [(.c (iC x)),.c (.v pv)] (Bo (!b)):=by
 refine kH func244 TO ntmps244 fun C hR hP hH hL=>?_
 refine zX 1 155 1 (hpv.mono hH) rfl rfl (zB 100 ?_)
 refine vv ?_
 refine zM 110 hg hH rfl (vv ?_)
 exact zp (hR C hL) rfl
theorem NV {H:Hp}(s:Sv)(l:List Int)(hs:SlH H (vsl s l.length) 1 (zP l))(hl:l.length<=1000000000000000)(g:FuncId)(p:Int->Bool)(hp:∀x∈l,CallH H HT g [(.c (iC x))] (Bo (p x))):
  CallH H HT 195 [.c (.v (vsl s l.length)),Fv g #[]] (Bo (l.all p)):=by
 refine kH func195 SF ntmps195 fun C hR hP hH hL=>?_
 refine zB 100 (vv ?_)
 refine CallQ.letgo (xs:=[_,_]) [100] hL hP rfl rfl rfl WE rfl rfl (fun β Cn l1 l2 l3=>?_)
 have hpt:=(l3 100 _ rfl rfl rfl).pt z9
 refine yO 110 l1 (lZ s l (hs.mono (hH.trans l2)) hl 244 #[xl β 100 0] (fun x=> !p x) (fun x hx=>PP x g (p x) ((hp x hx).mono (hH.trans l2)) _ hpt)) (Hp.le.refl _) rfl (fun Cm m1 m2=>?_)
 refine vv ?_
 refine zp (hR Cm m1) ?_
 rw[JU]
end Go.Proofs.YtbnkiacicnnmkaaGreat.Fx
