/-  -/
import Derived.Test.YtbnkiacicnnmkaaGreatQ3
open Go.Proofs.Tryz
open Go.Proofs.Tryz renaming prog→KI
set_option linter.unusedSimpArgs false
set_option linter.unusedVariables false
set_option maxRecDepth 100000
set_option maxHeartbeats 4000000
namespace Go.Proofs.YtbnkiacicnnmkaaGreat.Fx
open Vg Tf
@[go_sem] def xG (u:Un):List Value:=[.int .i64 u.m,.int .i64 u.kg,.int .i64 u.s,.int .i64 u.a,.int .i64 u.k]
theorem zX {α:Type}{r:α->List Value}{k:Nat}(hk:∀x,(r x).length=k)(l:List α)(i:Nat)(h:i<l.length):((zC (l.map r)).drop (i*k)).take k=(r l[i]).map Cv.v:=by
 rw[vg (l.map r) (fun x hx=>by obtain⟨y,_,rfl⟩:=Nz.1 hx;exact hk y) i (by simpa using h)]
 simp
theorem zS {α:Type}{r:α->List Value}{k:Nat}(hk:∀x,(r x).length=k)(l:List α):(zC (l.map r)).length=l.length*k:=by
 rw[yS (k:=k) (l.map r) (fun x hx=>by obtain⟨y,_,rfl⟩:=Nz.1 hx;exact hk y)]
 simp
theorem xM (x:V)(caps:List Value):[some (true,x)]++caps.map (fun c=>some (true,vU c))=(x::caps.map vU).map fun x=>some (true,x):=zd
abbrev Fv (g:FuncId)(caps:Array Value):V:= .c (.v (.func (.func g) #[] caps))
theorem bK {H:Hp}(s:Sv)(l:List Td)(hs:SlH H (vsl s l.length) 11 (l.map Td.r))(hl:l.length<=1000000000000000)(g:FuncId)(caps:Array Value)(p:Td->Bool)(hp:∀x∈l,CallH H KI g ((ze (Td.r x))::caps.toList.map vU) (Bo (p x))):
  CallH H KI 150 [.c (.v (vsl s l.length)),Fv g caps] (I (xu p l 0)):=by
 have hlen:(l.map Td.r).length=l.length:=Ni _
 have hsz:=zS (r:=Td.r) (k:=11) (fun _=>rfl) l
 refine kH func150 bq ntmps150 fun C hR hP hH hL=>?_
 refine zB 100 (vv ?_)
 refine Sm.bringR 1 57 0 (hs.mono hH) rfl rfl ?_
 simp only[hlen]
 refine zL (M0:=[]) (α:={i:Nat//i<=l.length/\xu p l 0=xu p (l.drop i) i}) hP (fun i=>[(0,true,.c (.sl 1 0 l.length 11)),(1,true,Fv g caps),(7,true,I l.length),(8,true,I i.val)]) (fun _=>[(1,⟨true,zC (l.map Td.r),57⟩)]) (fun i=>l.length-i.val) ⟨0,zA,rfl⟩ (fun _=>ClM.v (by simp only[Nj,zK];rfl)) (fun _=>zP rfl) [(1,1)] ?_ ?_
 ·exact zk
 ·rintro⟨i,hi,hx⟩ J hb
  simp only at hb hi hx⊢
  refine zB 110 (vv ?_)
  refine zY (fun hc=>?_) (fun hc=>?_)
  ·have hc:=zI hc
   rw[yW p l i hc]at hx
   have htk:=zX (r:=Td.r) (k:=11) (fun _=>rfl) l i hc
   simp only[htk,hsz]
   refine⟨⟨zA,zA⟩,zA,?_⟩
   refine zO 120 (hp l[i] (Nv hc)) hH (xM _ _) (vv ?_)
   refine zY (fun hd=>?_) (fun hd=>?_)
   ·rw[hd,cond_true]at hx
    exact vK (hR C hL) hx.symm
   ·rw[hd,cond_false]at hx
    simp only[yt (i:=i)]
    exact hb _ _ ⟨i+1,hc,hx⟩ [(1,1)] yK zk
  ·have hc:=zJ hi hc
   rw[hc,Ny]at hx
   exact vK (hR C hL) hx.symm
theorem U6 {H:Hp}(s:Sv)(l:List Td)(hs:SlH H (vsl s l.length) 11 (l.map Td.r))(hl:l.length<=1000000000000000)(g:FuncId)(caps:Array Value)(p:Td->Bool)(hp:∀x∈l,CallH H KI g ((ze (Td.r x))::caps.toList.map vU) (Bo (p x))):
  CallH H KI 183 [.c (.v (vsl s l.length)),Fv g caps] (Bo (l.any p)):=by
 refine kH func183 bm ntmps183 fun C hR hP hH hL=>?_
 refine zB 100 (vv ?_)
 refine zO 110 (bK s l hs hl g caps p hp) hH rfl (vv ?_)
 exact zu (hR C hL) (yg p l 0 zA)
theorem Ys {H:Hp}(x:Td)(g:FuncId)(b:Bool)(hg:CallH H KI g [(ze (Td.r x))] (Bo b))(pv:Value)(hpv:PtH H pv [.func (.func g) #[] #[]]):CallH H KI 184 [(ze (Td.r x)),.c (.v pv)] (Bo (!b)):=by
 refine kH func184 VU ntmps184 fun C hR hP hH hL=>?_
 refine z3 1 177 1 (hpv.mono hH) rfl rfl (zB 100 ?_)
 refine vv ?_
 refine zO 110 hg hH rfl (vv ?_)
 exact zu (hR C hL) rfl
theorem Uz {H:Hp}(s:Sv)(l:List Td)(hs:SlH H (vsl s l.length) 11 (l.map Td.r))(hl:l.length<=1000000000000000)(g:FuncId)(p:Td->Bool)(hp:∀x∈l,CallH H KI g [(ze (Td.r x))] (Bo (p x))):
  CallH H KI 100 [.c (.v (vsl s l.length)),Fv g #[]] (Bo (l.all p)):=by
 refine kH func100 U2 ntmps100 fun C hR hP hH hL=>?_
 refine zB 100 (vv ?_)
 refine CallQ.letgo (xs:=[_,_]) [100] hL hP rfl rfl rfl bm rfl rfl (fun β Cn l1 l2 l3=>?_)
 have hpt:=(l3 100 _ rfl rfl rfl).pt zd
 refine yP 110 l1 (U6 s l (hs.mono (hH.trans l2)) hl 184 #[xh β 100 0] (fun x=> !p x) (fun x hx=>Ys x g (p x) ((hp x hx).mono (hH.trans l2)) _ hpt)) (zN _) rfl (fun Cm m1 m2=>?_)
 refine vv ?_
 refine zu (hR Cm m1) ?_
 rw[MI]
theorem XQ {H:Hp}(s:Sv)(l:List CuL)(hs:SlH H (vsl s l.length) 3 (l.map CuL.r))(hl:l.length<=1000000000000000)(g:FuncId)(caps:Array Value)(p:CuL->Bool)(hp:∀x∈l,CallH H KI g ((ze (CuL.r x))::caps.toList.map vU) (Bo (p x))):
  CallH H KI 144 [.c (.v (vsl s l.length)),Fv g caps] (I (xu p l 0)):=by
 have hlen:(l.map CuL.r).length=l.length:=Ni _
 have hsz:=zS (r:=CuL.r) (k:=3) (fun _=>rfl) l
 refine kH func144 Vo ntmps144 fun C hR hP hH hL=>?_
 refine zB 100 (vv ?_)
 refine Sm.bringR 1 138 0 (hs.mono hH) rfl rfl ?_
 simp only[hlen]
 refine zL (M0:=[]) (α:={i:Nat//i<=l.length/\xu p l 0=xu p (l.drop i) i}) hP (fun i=>[(0,true,.c (.sl 1 0 l.length 3)),(1,true,Fv g caps),(7,true,I l.length),(8,true,I i.val)]) (fun _=>[(1,⟨true,zC (l.map CuL.r),138⟩)]) (fun i=>l.length-i.val) ⟨0,zA,rfl⟩ (fun _=>ClM.v (by simp only[Nj,zK];rfl)) (fun _=>zP rfl) [(1,1)] ?_ ?_
 ·exact zk
 ·rintro⟨i,hi,hx⟩ J hb
  simp only at hb hi hx⊢
  refine zB 110 (vv ?_)
  refine zY (fun hc=>?_) (fun hc=>?_)
  ·have hc:=zI hc
   rw[yW p l i hc]at hx
   have htk:=zX (r:=CuL.r) (k:=3) (fun _=>rfl) l i hc
   simp only[htk,hsz]
   refine⟨⟨zA,zA⟩,zA,?_⟩
   refine zO 120 (hp l[i] (Nv hc)) hH (xM _ _) (vv ?_)
   refine zY (fun hd=>?_) (fun hd=>?_)
   ·rw[hd,cond_true]at hx
    exact vK (hR C hL) hx.symm
   ·rw[hd,cond_false]at hx
    simp only[yt (i:=i)]
    exact hb _ _ ⟨i+1,hc,hx⟩ [(1,1)] yK zk
  ·have hc:=zJ hi hc
   rw[hc,Ny]at hx
   exact vK (hR C hL) hx.symm
theorem Uc {H:Hp}(s:Sv)(l:List CuL)(hs:SlH H (vsl s l.length) 3 (l.map CuL.r))(hl:l.length<=1000000000000000)(g:FuncId)(caps:Array Value)(p:CuL->Bool)(hp:∀x∈l,CallH H KI g ((ze (CuL.r x))::caps.toList.map vU) (Bo (p x))):
  CallH H KI 185 [.c (.v (vsl s l.length)),Fv g caps] (Bo (l.any p)):=by
 refine kH func185 bj ntmps185 fun C hR hP hH hL=>?_
 refine zB 100 (vv ?_)
 refine zO 110 (XQ s l hs hl g caps p hp) hH rfl (vv ?_)
 exact zu (hR C hL) (yg p l 0 zA)
theorem Yv {H:Hp}(x:CuL)(g:FuncId)(b:Bool)(hg:CallH H KI g [(ze (CuL.r x))] (Bo b))(pv:Value)(hpv:PtH H pv [.func (.func g) #[] #[]]):CallH H KI 186 [(ze (CuL.r x)),.c (.v pv)] (Bo (!b)):=by
 refine kH func186 VT ntmps186 fun C hR hP hH hL=>?_
 refine z3 1 179 1 (hpv.mono hH) rfl rfl (zB 100 ?_)
 refine vv ?_
 refine zO 110 hg hH rfl (vv ?_)
 exact zu (hR C hL) rfl
theorem TD {H:Hp}(s:Sv)(l:List CuL)(hs:SlH H (vsl s l.length) 3 (l.map CuL.r))(hl:l.length<=1000000000000000)(g:FuncId)(p:CuL->Bool)(hp:∀x∈l,CallH H KI g [(ze (CuL.r x))] (Bo (p x))):
  CallH H KI 102 [.c (.v (vsl s l.length)),Fv g #[]] (Bo (l.all p)):=by
 refine kH func102 U0 ntmps102 fun C hR hP hH hL=>?_
 refine zB 100 (vv ?_)
 refine CallQ.letgo (xs:=[_,_]) [100] hL hP rfl rfl rfl bj rfl rfl (fun β Cn l1 l2 l3=>?_)
 have hpt:=(l3 100 _ rfl rfl rfl).pt zd
 refine yP 110 l1 (Uc s l (hs.mono (hH.trans l2)) hl 186 #[xh β 100 0] (fun x=> !p x) (fun x hx=>Yv x g (p x) ((hp x hx).mono (hH.trans l2)) _ hpt)) (zN _) rfl (fun Cm m1 m2=>?_)
 refine vv ?_
 refine zu (hR Cm m1) ?_
 rw[MI]
theorem XN {H:Hp}(s:Sv)(l:List MpL)(hs:SlH H (vsl s l.length) 4 (l.map MpL.r))(hl:l.length<=1000000000000000)(g:FuncId)(caps:Array Value)(p:MpL->Bool)(hp:∀x∈l,CallH H KI g ((ze (MpL.r x))::caps.toList.map vU) (Bo (p x))):
  CallH H KI 147 [.c (.v (vsl s l.length)),Fv g caps] (I (xu p l 0)):=by
 have hlen:(l.map MpL.r).length=l.length:=Ni _
 have hsz:=zS (r:=MpL.r) (k:=4) (fun _=>rfl) l
 refine kH func147 Vn ntmps147 fun C hR hP hH hL=>?_
 refine zB 100 (vv ?_)
 refine Sm.bringR 1 140 0 (hs.mono hH) rfl rfl ?_
 simp only[hlen]
 refine zL (M0:=[]) (α:={i:Nat//i<=l.length/\xu p l 0=xu p (l.drop i) i}) hP (fun i=>[(0,true,.c (.sl 1 0 l.length 4)),(1,true,Fv g caps),(7,true,I l.length),(8,true,I i.val)]) (fun _=>[(1,⟨true,zC (l.map MpL.r),140⟩)]) (fun i=>l.length-i.val) ⟨0,zA,rfl⟩ (fun _=>ClM.v (by simp only[Nj,zK];rfl)) (fun _=>zP rfl) [(1,1)] ?_ ?_
 ·exact zk
 ·rintro⟨i,hi,hx⟩ J hb
  simp only at hb hi hx⊢
  refine zB 110 (vv ?_)
  refine zY (fun hc=>?_) (fun hc=>?_)
  ·have hc:=zI hc
   rw[yW p l i hc]at hx
   have htk:=zX (r:=MpL.r) (k:=4) (fun _=>rfl) l i hc
   simp only[htk,hsz]
   refine⟨⟨zA,zA⟩,zA,?_⟩
   refine zO 120 (hp l[i] (Nv hc)) hH (xM _ _) (vv ?_)
   refine zY (fun hd=>?_) (fun hd=>?_)
   ·rw[hd,cond_true]at hx
    exact vK (hR C hL) hx.symm
   ·rw[hd,cond_false]at hx
    simp only[yt (i:=i)]
    exact hb _ _ ⟨i+1,hc,hx⟩ [(1,1)] yK zk
  ·have hc:=zJ hi hc
   rw[hc,Ny]at hx
   exact vK (hR C hL) hx.symm
theorem U9 {H:Hp}(s:Sv)(l:List MpL)(hs:SlH H (vsl s l.length) 4 (l.map MpL.r))(hl:l.length<=1000000000000000)(g:FuncId)(caps:Array Value)(p:MpL->Bool)(hp:∀x∈l,CallH H KI g ((ze (MpL.r x))::caps.toList.map vU) (Bo (p x))):
  CallH H KI 187 [.c (.v (vsl s l.length)),Fv g caps] (Bo (l.any p)):=by
 refine kH func187 bh ntmps187 fun C hR hP hH hL=>?_
 refine zB 100 (vv ?_)
 refine zO 110 (XN s l hs hl g caps p hp) hH rfl (vv ?_)
 exact zu (hR C hL) (yg p l 0 zA)
theorem Yu {H:Hp}(x:MpL)(g:FuncId)(b:Bool)(hg:CallH H KI g [(ze (MpL.r x))] (Bo b))(pv:Value)(hpv:PtH H pv [.func (.func g) #[] #[]]):CallH H KI 188 [(ze (MpL.r x)),.c (.v pv)] (Bo (!b)):=by
 refine kH func188 VS ntmps188 fun C hR hP hH hL=>?_
 refine z3 1 181 1 (hpv.mono hH) rfl rfl (zB 100 ?_)
 refine vv ?_
 refine zO 110 hg hH rfl (vv ?_)
 exact zu (hR C hL) rfl
theorem TC {H:Hp}(s:Sv)(l:List MpL)(hs:SlH H (vsl s l.length) 4 (l.map MpL.r))(hl:l.length<=1000000000000000)(g:FuncId)(p:MpL->Bool)(hp:∀x∈l,CallH H KI g [(ze (MpL.r x))] (Bo (p x))):
  CallH H KI 104 [.c (.v (vsl s l.length)),Fv g #[]] (Bo (l.all p)):=by
 refine kH func104 UY ntmps104 fun C hR hP hH hL=>?_
 refine zB 100 (vv ?_)
 refine CallQ.letgo (xs:=[_,_]) [100] hL hP rfl rfl rfl bh rfl rfl (fun β Cn l1 l2 l3=>?_)
 have hpt:=(l3 100 _ rfl rfl rfl).pt zd
 refine yP 110 l1 (U9 s l (hs.mono (hH.trans l2)) hl 188 #[xh β 100 0] (fun x=> !p x) (fun x hx=>Yu x g (p x) ((hp x hx).mono (hH.trans l2)) _ hpt)) (zN _) rfl (fun Cm m1 m2=>?_)
 refine vv ?_
 refine zu (hR Cm m1) ?_
 rw[MI]
theorem XL {H:Hp}(s:Sv)(l:List Po)(hs:SlH H (vsl s l.length) 4 (l.map Po.r))(hl:l.length<=1000000000000000)(g:FuncId)(caps:Array Value)(p:Po->Bool)(hp:∀x∈l,CallH H KI g ((ze (Po.r x))::caps.toList.map vU) (Bo (p x))):
  CallH H KI 241 [.c (.v (vsl s l.length)),Fv g caps] (I (xu p l 0)):=by
 have hlen:(l.map Po.r).length=l.length:=Ni _
 have hsz:=zS (r:=Po.r) (k:=4) (fun _=>rfl) l
 refine kH func241 W4 ntmps241 fun C hR hP hH hL=>?_
 refine zB 100 (vv ?_)
 refine Sm.bringR 1 60 0 (hs.mono hH) rfl rfl ?_
 simp only[hlen]
 refine zL (M0:=[]) (α:={i:Nat//i<=l.length/\xu p l 0=xu p (l.drop i) i}) hP (fun i=>[(0,true,.c (.sl 1 0 l.length 4)),(1,true,Fv g caps),(7,true,I l.length),(8,true,I i.val)]) (fun _=>[(1,⟨true,zC (l.map Po.r),60⟩)]) (fun i=>l.length-i.val) ⟨0,zA,rfl⟩ (fun _=>ClM.v (by simp only[Nj,zK];rfl)) (fun _=>zP rfl) [(1,1)] ?_ ?_
 ·exact zk
 ·rintro⟨i,hi,hx⟩ J hb
  simp only at hb hi hx⊢
  refine zB 110 (vv ?_)
  refine zY (fun hc=>?_) (fun hc=>?_)
  ·have hc:=zI hc
   rw[yW p l i hc]at hx
   have htk:=zX (r:=Po.r) (k:=4) (fun _=>rfl) l i hc
   simp only[htk,hsz]
   refine⟨⟨zA,zA⟩,zA,?_⟩
   refine zO 120 (hp l[i] (Nv hc)) hH (xM _ _) (vv ?_)
   refine zY (fun hd=>?_) (fun hd=>?_)
   ·rw[hd,cond_true]at hx
    exact vK (hR C hL) hx.symm
   ·rw[hd,cond_false]at hx
    simp only[yt (i:=i)]
    exact hb _ _ ⟨i+1,hc,hx⟩ [(1,1)] yK zk
  ·have hc:=zJ hi hc
   rw[hc,Ny]at hx
   exact vK (hR C hL) hx.symm
theorem U7 {H:Hp}(s:Sv)(l:List Po)(hs:SlH H (vsl s l.length) 4 (l.map Po.r))(hl:l.length<=1000000000000000)(g:FuncId)(caps:Array Value)(p:Po->Bool)(hp:∀x∈l,CallH H KI g ((ze (Po.r x))::caps.toList.map vU) (Bo (p x))):
  CallH H KI 189 [.c (.v (vsl s l.length)),Fv g caps] (Bo (l.any p)):=by
 refine kH func189 bg ntmps189 fun C hR hP hH hL=>?_
 refine zB 100 (vv ?_)
 refine zO 110 (XL s l hs hl g caps p hp) hH rfl (vv ?_)
 exact zu (hR C hL) (yg p l 0 zA)
theorem Yt {H:Hp}(x:Po)(g:FuncId)(b:Bool)(hg:CallH H KI g [(ze (Po.r x))] (Bo b))(pv:Value)(hpv:PtH H pv [.func (.func g) #[] #[]]):CallH H KI 190 [(ze (Po.r x)),.c (.v pv)] (Bo (!b)):=by
 refine kH func190 VQ ntmps190 fun C hR hP hH hL=>?_
 refine z3 1 183 1 (hpv.mono hH) rfl rfl (zB 100 ?_)
 refine vv ?_
 refine zO 110 hg hH rfl (vv ?_)
 exact zu (hR C hL) rfl
theorem TB {H:Hp}(s:Sv)(l:List Po)(hs:SlH H (vsl s l.length) 4 (l.map Po.r))(hl:l.length<=1000000000000000)(g:FuncId)(p:Po->Bool)(hp:∀x∈l,CallH H KI g [(ze (Po.r x))] (Bo (p x))):
  CallH H KI 106 [.c (.v (vsl s l.length)),Fv g #[]] (Bo (l.all p)):=by
 refine kH func106 UW ntmps106 fun C hR hP hH hL=>?_
 refine zB 100 (vv ?_)
 refine CallQ.letgo (xs:=[_,_]) [100] hL hP rfl rfl rfl bg rfl rfl (fun β Cn l1 l2 l3=>?_)
 have hpt:=(l3 100 _ rfl rfl rfl).pt zd
 refine yP 110 l1 (U7 s l (hs.mono (hH.trans l2)) hl 190 #[xh β 100 0] (fun x=> !p x) (fun x hx=>Yt x g (p x) ((hp x hx).mono (hH.trans l2)) _ hpt)) (zN _) rfl (fun Cm m1 m2=>?_)
 refine vv ?_
 refine zu (hR Cm m1) ?_
 rw[MI]
theorem XS {H:Hp}(s:Sv)(l:List BlL)(hs:SlH H (vsl s l.length) 6 (l.map BlL.r))(hl:l.length<=1000000000000000)(g:FuncId)(caps:Array Value)(p:BlL->Bool)(hp:∀x∈l,CallH H KI g ((ze (BlL.r x))::caps.toList.map vU) (Bo (p x))):
  CallH H KI 242 [.c (.v (vsl s l.length)),Fv g caps] (I (xu p l 0)):=by
 have hlen:(l.map BlL.r).length=l.length:=Ni _
 have hsz:=zS (r:=BlL.r) (k:=6) (fun _=>rfl) l
 refine kH func242 W3 ntmps242 fun C hR hP hH hL=>?_
 refine zB 100 (vv ?_)
 refine Sm.bringR 1 64 0 (hs.mono hH) rfl rfl ?_
 simp only[hlen]
 refine zL (M0:=[]) (α:={i:Nat//i<=l.length/\xu p l 0=xu p (l.drop i) i}) hP (fun i=>[(0,true,.c (.sl 1 0 l.length 6)),(1,true,Fv g caps),(7,true,I l.length),(8,true,I i.val)]) (fun _=>[(1,⟨true,zC (l.map BlL.r),64⟩)]) (fun i=>l.length-i.val) ⟨0,zA,rfl⟩ (fun _=>ClM.v (by simp only[Nj,zK];rfl)) (fun _=>zP rfl) [(1,1)] ?_ ?_
 ·exact zk
 ·rintro⟨i,hi,hx⟩ J hb
  simp only at hb hi hx⊢
  refine zB 110 (vv ?_)
  refine zY (fun hc=>?_) (fun hc=>?_)
  ·have hc:=zI hc
   rw[yW p l i hc]at hx
   have htk:=zX (r:=BlL.r) (k:=6) (fun _=>rfl) l i hc
   simp only[htk,hsz]
   refine⟨⟨zA,zA⟩,zA,?_⟩
   refine zO 120 (hp l[i] (Nv hc)) hH (xM _ _) (vv ?_)
   refine zY (fun hd=>?_) (fun hd=>?_)
   ·rw[hd,cond_true]at hx
    exact vK (hR C hL) hx.symm
   ·rw[hd,cond_false]at hx
    simp only[yt (i:=i)]
    exact hb _ _ ⟨i+1,hc,hx⟩ [(1,1)] yK zk
  ·have hc:=zJ hi hc
   rw[hc,Ny]at hx
   exact vK (hR C hL) hx.symm
theorem Ud {H:Hp}(s:Sv)(l:List BlL)(hs:SlH H (vsl s l.length) 6 (l.map BlL.r))(hl:l.length<=1000000000000000)(g:FuncId)(caps:Array Value)(p:BlL->Bool)(hp:∀x∈l,CallH H KI g ((ze (BlL.r x))::caps.toList.map vU) (Bo (p x))):
  CallH H KI 192 [.c (.v (vsl s l.length)),Fv g caps] (Bo (l.any p)):=by
 refine kH func192 bf ntmps192 fun C hR hP hH hL=>?_
 refine zB 100 (vv ?_)
 refine zO 110 (XS s l hs hl g caps p hp) hH rfl (vv ?_)
 exact zu (hR C hL) (yg p l 0 zA)
theorem Yw {H:Hp}(x:BlL)(g:FuncId)(b:Bool)(hg:CallH H KI g [(ze (BlL.r x))] (Bo b))(pv:Value)(hpv:PtH H pv [.func (.func g) #[] #[]]):CallH H KI 193 [(ze (BlL.r x)),.c (.v pv)] (Bo (!b)):=by
 refine kH func193 VO ntmps193 fun C hR hP hH hL=>?_
 refine z3 1 185 1 (hpv.mono hH) rfl rfl (zB 100 ?_)
 refine vv ?_
 refine zO 110 hg hH rfl (vv ?_)
 exact zu (hR C hL) rfl
theorem TE {H:Hp}(s:Sv)(l:List BlL)(hs:SlH H (vsl s l.length) 6 (l.map BlL.r))(hl:l.length<=1000000000000000)(g:FuncId)(p:BlL->Bool)(hp:∀x∈l,CallH H KI g [(ze (BlL.r x))] (Bo (p x))):
  CallH H KI 108 [.c (.v (vsl s l.length)),Fv g #[]] (Bo (l.all p)):=by
 refine kH func108 UU ntmps108 fun C hR hP hH hL=>?_
 refine zB 100 (vv ?_)
 refine CallQ.letgo (xs:=[_,_]) [100] hL hP rfl rfl rfl bf rfl rfl (fun β Cn l1 l2 l3=>?_)
 have hpt:=(l3 100 _ rfl rfl rfl).pt zd
 refine yP 110 l1 (Ud s l (hs.mono (hH.trans l2)) hl 193 #[xh β 100 0] (fun x=> !p x) (fun x hx=>Yw x g (p x) ((hp x hx).mono (hH.trans l2)) _ hpt)) (zN _) rfl (fun Cm m1 m2=>?_)
 refine vv ?_
 refine zu (hR Cm m1) ?_
 rw[MI]
theorem XK {H:Hp}(s:Sv)(l:List Un)(hs:SlH H (vsl s l.length) 5 (l.map xG))(hl:l.length<=1000000000000000)(g:FuncId)(caps:Array Value)(p:Un->Bool)(hp:∀x∈l,CallH H KI g ((ze (xG x))::caps.toList.map vU) (Bo (p x))):
  CallH H KI 278 [.c (.v (vsl s l.length)),Fv g caps] (I (xu p l 0)):=by
 have hlen:(l.map xG).length=l.length:=Ni _
 have hsz:=zS (r:=xG) (k:=5) (fun _=>rfl) l
 refine kH func278 Xx ntmps278 fun C hR hP hH hL=>?_
 refine zB 100 (vv ?_)
 refine Sm.bringR 1 53 0 (hs.mono hH) rfl rfl ?_
 simp only[hlen]
 refine zL (M0:=[]) (α:={i:Nat//i<=l.length/\xu p l 0=xu p (l.drop i) i}) hP (fun i=>[(0,true,.c (.sl 1 0 l.length 5)),(1,true,Fv g caps),(7,true,I l.length),(8,true,I i.val)]) (fun _=>[(1,⟨true,zC (l.map xG),53⟩)]) (fun i=>l.length-i.val) ⟨0,zA,rfl⟩ (fun _=>ClM.v (by simp only[Nj,zK];rfl)) (fun _=>zP rfl) [(1,1)] ?_ ?_
 ·exact zk
 ·rintro⟨i,hi,hx⟩ J hb
  simp only at hb hi hx⊢
  refine zB 110 (vv ?_)
  refine zY (fun hc=>?_) (fun hc=>?_)
  ·have hc:=zI hc
   rw[yW p l i hc]at hx
   have htk:=zX (r:=xG) (k:=5) (fun _=>rfl) l i hc
   simp only[htk,hsz]
   refine⟨⟨zA,zA⟩,zA,?_⟩
   refine zO 120 (hp l[i] (Nv hc)) hH (xM _ _) (vv ?_)
   refine zY (fun hd=>?_) (fun hd=>?_)
   ·rw[hd,cond_true]at hx
    exact vK (hR C hL) hx.symm
   ·rw[hd,cond_false]at hx
    simp only[yt (i:=i)]
    exact hb _ _ ⟨i+1,hc,hx⟩ [(1,1)] yK zk
  ·have hc:=zJ hi hc
   rw[hc,Ny]at hx
   exact vK (hR C hL) hx.symm
theorem uE {H:Hp}(s:Sv)(l:List Un)(hs:SlH H (vsl s l.length) 5 (l.map xG))(hl:l.length<=1000000000000000)(g:FuncId)(caps:Array Value)(p:Un->Bool)(hp:∀x∈l,CallH H KI g ((ze (xG x))::caps.toList.map vU) (Bo (p x))):
  CallH H KI 248 [.c (.v (vsl s l.length)),Fv g caps] (Bo (l.any p)):=by
 refine kH func248 v9 ntmps248 fun C hR hP hH hL=>?_
 refine zB 100 (vv ?_)
 refine zO 110 (XK s l hs hl g caps p hp) hH rfl (vv ?_)
 exact zu (hR C hL) (yg p l 0 zA)
theorem S9 {H:Hp}(s:Sv)(l:List Str)(hs:SlH H (vsl s l.length) 1 (yI l))(hl:l.length<=1000000000000000)(g:FuncId)(caps:Array Value)(p:Str->Bool)(hp:∀x∈l,CallH H KI g ((.c (sC x))::caps.toList.map vU) (Bo (p x))):
  CallH H KI 245 [.c (.v (vsl s l.length)),Fv g caps] (I (xu p l 0)):=by
 refine kH func245 W0 ntmps245 fun C hR hP hH hL=>?_
 refine zB 100 (vv ?_)
 refine Sm.bringS 1 9 0 (hs.mono hH) rfl rfl ?_
 refine zL (M0:=[]) (α:={i:Nat//i<=l.length/\xu p l 0=xu p (l.drop i) i}) hP (fun i=>[(0,true,.c (.sl 1 0 l.length 1)),(1,true,Fv g caps),(7,true,I l.length),(8,true,I i.val)]) (fun _=>[(1,⟨true,l.map sC,9⟩)]) (fun i=>l.length-i.val) ⟨0,zA,rfl⟩ (fun _=>ClM.v (by simp only[Nj,y7];rfl)) (fun _=>zP rfl) [(1,1)] ?_ ?_
 ·exact zk
 ·rintro⟨i,hi,hx⟩ J hb
  simp only at hb hi hx⊢
  refine zB 110 (vv ?_)
  refine zY (fun hc=>?_) (fun hc=>?_)
  ·have hc:=zI hc
   rw[yW p l i hc]at hx
   simp only[go_sem,vN hc]
   refine⟨⟨zA,zA⟩,?_⟩
   refine zO 120 (hp l[i] (Nv hc)) hH (xM _ _) (vv ?_)
   refine zY (fun hd=>?_) (fun hd=>?_)
   ·rw[hd,cond_true]at hx
    exact vK (hR C hL) hx.symm
   ·rw[hd,cond_false]at hx
    simp only[yt (i:=i)]
    exact hb _ _ ⟨i+1,hc,hx⟩ [(1,1)] yK zk
  ·have hc:=zJ hi hc
   rw[hc,Ny]at hx
   exact vK (hR C hL) hx.symm
theorem QM {H:Hp}(s:Sv)(l:List Str)(hs:SlH H (vsl s l.length) 1 (yI l))(hl:l.length<=1000000000000000)(g:FuncId)(caps:Array Value)(p:Str->Bool)(hp:∀x∈l,CallH H KI g ((.c (sC x))::caps.toList.map vU) (Bo (p x))):
  CallH H KI 196 [.c (.v (vsl s l.length)),Fv g caps] (Bo (l.any p)):=by
 refine kH func196 ba ntmps196 fun C hR hP hH hL=>?_
 refine zB 100 (vv ?_)
 refine zO 110 (S9 s l hs hl g caps p hp) hH rfl (vv ?_)
 exact zu (hR C hL) (yg p l 0 zA)
theorem SL {H:Hp}(x:Str)(g:FuncId)(b:Bool)(hg:CallH H KI g [(.c (sC x))] (Bo b))(pv:Value)(hpv:PtH H pv [.func (.func g) #[] #[]]):CallH H KI 197 [(.c (sC x)),.c (.v pv)] (Bo (!b)):=by
 refine kH func197 VL ntmps197 fun C hR hP hH hL=>?_
 refine z3 1 175 1 (hpv.mono hH) rfl rfl (zB 100 ?_)
 refine vv ?_
 refine zO 110 hg hH rfl (vv ?_)
 exact zu (hR C hL) rfl
theorem TA {H:Hp}(s:Sv)(l:List Str)(hs:SlH H (vsl s l.length) 1 (yI l))(hl:l.length<=1000000000000000)(g:FuncId)(p:Str->Bool)(hp:∀x∈l,CallH H KI g [(.c (sC x))] (Bo (p x))):
  CallH H KI 110 [.c (.v (vsl s l.length)),Fv g #[]] (Bo (l.all p)):=by
 refine kH func110 US ntmps110 fun C hR hP hH hL=>?_
 refine zB 100 (vv ?_)
 refine CallQ.letgo (xs:=[_,_]) [100] hL hP rfl rfl rfl ba rfl rfl (fun β Cn l1 l2 l3=>?_)
 have hpt:=(l3 100 _ rfl rfl rfl).pt zd
 refine yP 110 l1 (QM s l (hs.mono (hH.trans l2)) hl 197 #[xh β 100 0] (fun x=> !p x) (fun x hx=>SL x g (p x) ((hp x hx).mono (hH.trans l2)) _ hpt)) (zN _) rfl (fun Cm m1 m2=>?_)
 refine vv ?_
 refine zu (hR Cm m1) ?_
 rw[MI]
theorem Sa {H:Hp}(s:Sv)(l:List Int)(hs:SlH H (vsl s l.length) 1 (zT l))(hl:l.length<=1000000000000000)(g:FuncId)(caps:Array Value)(p:Int->Bool)(hp:∀x∈l,CallH H KI g ((.c (iC x))::caps.toList.map vU) (Bo (p x))):
  CallH H KI 164 [.c (.v (vsl s l.length)),Fv g caps] (I (xu p l 0)):=by
 refine kH func164 bp ntmps164 fun C hR hP hH hL=>?_
 refine zB 100 (vv ?_)
 refine Sm.bringI 1 3 0 (hs.mono hH) rfl rfl ?_
 refine zL (M0:=[]) (α:={i:Nat//i<=l.length/\xu p l 0=xu p (l.drop i) i}) hP (fun i=>[(0,true,.c (.sl 1 0 l.length 1)),(1,true,Fv g caps),(7,true,I l.length),(8,true,I i.val)]) (fun _=>[(1,⟨true,l.map iC,3⟩)]) (fun i=>l.length-i.val) ⟨0,zA,rfl⟩ (fun _=>ClM.v (by simp only[Nj,yD];rfl)) (fun _=>zP rfl) [(1,1)] ?_ ?_
 ·exact zk
 ·rintro⟨i,hi,hx⟩ J hb
  simp only at hb hi hx⊢
  refine zB 110 (vv ?_)
  refine zY (fun hc=>?_) (fun hc=>?_)
  ·have hc:=zI hc
   rw[yW p l i hc]at hx
   simp only[go_sem,xz hc]
   refine⟨⟨zA,zA⟩,?_⟩
   refine zO 120 (hp l[i] (Nv hc)) hH (xM _ _) (vv ?_)
   refine zY (fun hd=>?_) (fun hd=>?_)
   ·rw[hd,cond_true]at hx
    exact vK (hR C hL) hx.symm
   ·rw[hd,cond_false]at hx
    simp only[yt (i:=i)]
    exact hb _ _ ⟨i+1,hc,hx⟩ [(1,1)] yK zk
  ·have hc:=zJ hi hc
   rw[hc,Ny]at hx
   exact vK (hR C hL) hx.symm
theorem nk {H:Hp}(s:Sv)(l:List Int)(hs:SlH H (vsl s l.length) 1 (zT l))(hl:l.length<=1000000000000000)(g:FuncId)(caps:Array Value)(p:Int->Bool)(hp:∀x∈l,CallH H KI g ((.c (iC x))::caps.toList.map vU) (Bo (p x))):
  CallH H KI 77 [.c (.v (vsl s l.length)),Fv g caps] (Bo (l.any p)):=by
 refine kH func77 Zi ntmps77 fun C hR hP hH hL=>?_
 refine zB 100 (vv ?_)
 refine zO 110 (Sa s l hs hl g caps p hp) hH rfl (vv ?_)
 exact zu (hR C hL) (yg p l 0 zA)
theorem SM {H:Hp}(x:Int)(g:FuncId)(b:Bool)(hg:CallH H KI g [(.c (iC x))] (Bo b))(pv:Value)(hpv:PtH H pv [.func (.func g) #[] #[]]):CallH H KI 244 [(.c (iC x)),.c (.v pv)] (Bo (!b)):=by
 refine kH func244 W1 ntmps244 fun C hR hP hH hL=>?_
 refine z3 1 155 1 (hpv.mono hH) rfl rfl (zB 100 ?_)
 refine vv ?_
 refine zO 110 hg hH rfl (vv ?_)
 exact zu (hR C hL) rfl
theorem QY {H:Hp}(s:Sv)(l:List Int)(hs:SlH H (vsl s l.length) 1 (zT l))(hl:l.length<=1000000000000000)(g:FuncId)(p:Int->Bool)(hp:∀x∈l,CallH H KI g [(.c (iC x))] (Bo (p x))):
  CallH H KI 195 [.c (.v (vsl s l.length)),Fv g #[]] (Bo (l.all p)):=by
 refine kH func195 VM ntmps195 fun C hR hP hH hL=>?_
 refine zB 100 (vv ?_)
 refine CallQ.letgo (xs:=[_,_]) [100] hL hP rfl rfl rfl Zi rfl rfl (fun β Cn l1 l2 l3=>?_)
 have hpt:=(l3 100 _ rfl rfl rfl).pt zd
 refine yP 110 l1 (nk s l (hs.mono (hH.trans l2)) hl 244 #[xh β 100 0] (fun x=> !p x) (fun x hx=>SM x g (p x) ((hp x hx).mono (hH.trans l2)) _ hpt)) (zN _) rfl (fun Cm m1 m2=>?_)
 refine vv ?_
 refine zu (hR Cm m1) ?_
 rw[MI]
end Go.Proofs.YtbnkiacicnnmkaaGreat.Fx
