/-  -/
import Derived.Test.YtlnpgbnhcondjaaGreatDoorTf
import Derived.Test.YtlnpgbnhcondjaaGreatDoorQ4
import Derived.Test.YtlnpgbnhcondjaaGreatDoorY5
import Derived.Test.YtlnpgbnhcondjaaGreatDoorWC
import Derived.Test.YtlnpgbnhcondjaaGreatDoorZ1
namespace Go.Proofs.YtlnpgbnhcondjaaGreatDoor.Fx
open Vg Tf
set_option linter.unusedSimpArgs false
set_option linter.unusedVariables false
set_option maxRecDepth 100000
set_option maxHeartbeats 4000000
def exB (u:Un)(k:Nat):Prop:=∀j,j<5→ -9*(k:Int)≤ex u j∧ex u j≤9*(k:Int)
theorem fac1 (i:Nat):facT i 1=sy i:=by simp[facT]
theorem exB_mono {u:Un}{k k':Nat}(h:exB u k)(hk:k≤k'):exB u k':=fun j hj=>by
 have:=h j hj
 omega
theorem sub_cond {l s:List UInt8}{k:Nat}(hk:k≤l.length)(hs:1≤s.length):(bif decide (((k+s.length:Nat):Int)≤(l.length:Int))then((l.drop k).take (((k+s.length:Nat):Int)-(k:Int)).toNat==s)else false)=decide ((l.drop k).take s.length=s):=by
 rw[show(((k+s.length:Nat):Int)-(k:Int)).toNat=s.length by omega]
 by_cases h:k+s.length≤l.length
 ·rw[tru_of (by omega),cond_true]
  by_cases h2:(l.drop k).take s.length=s
  ·simp[h2]
  ·rw[beq_eq_false_iff_ne.2 h2,fal_of h2]
 ·rw[fal_of (by omega),cond_false,fal_of]
  intro h2
  have:=congrArg List.length h2
  simp at this
  omega
theorem mtA_tk {r:List UInt8}:∀n,∀{j:Nat},mtA r n=(j:Int)→r.take (sy j).length=sy j
 |0,j,h=>by unfold mtA at h;omega
 |n+1,j,h=>by
  unfold mtA at h
  split at h
  ·rename_i hq
   obtain rfl:n=j:=by omega
   exact hq
  ·exact mtA_tk n h
theorem mtA_le (l:List UInt8)(k:Nat){j:Nat}(h:mtA (l.drop k) 5=(j:Int)):(sy j).length≤l.length-k:=by
 have:=congrArg List.length (mtA_tk 5 h)
 simp at this
 omega
theorem bifA {A B:Nat}{q:Bool}(h:(bif decide ((A:Int)<(B:Int))then q else false)=true):(A:Int)<B:=by
 by_cases hA:(A:Int)<B
 ·exact hA
 ·rw[fal_of hA]at h;cases h
theorem bifB {p q:Bool}(h:(bif p then q else false)=true):p=true:=by
 cases p
 ·cases h
 ·rfl
theorem bifC (l:List UInt8)(n:Nat):(bif bif bif decide (((n+1:Nat):Int)<(l.length:Int))then((l.getD n 0).toNat:Int)==94 else false then decide ((50:Int)≤((l.getD (n+1) 0).toNat:Int))else false then decide (((l.getD (n+1) 0).toNat:Int)≤57)else false)=true↔(n+1<l.length∧(l.getD n 0)=94∧50≤(l.getD (n+1) 0).toNat∧(l.getD (n+1) 0).toNat≤57):=by
 have hE:(((l.getD n 0).toNat:Int)==94)=decide (l.getD n 0=94):=by
  by_cases h:l.getD n 0=94
  ·rw[h];rfl
  ·rw[fal_of h,beq_eq_false_iff_ne]
   intro h2
   exact h (UInt8.toNat_inj.1 (by show _=94;omega))
 have hb:∀p q:Bool,(bif p then q else false)=(p&&q):=fun p q=>by cases p<;>rfl
 rw[hE,hb,hb,hb]
 simp only[Bool.and_eq_true,decide_eq_true_eq]
 constructor
 ·rintro⟨⟨⟨a,b⟩,c⟩,d⟩
  exact⟨by omega,b,by omega,by omega⟩
 ·rintro⟨a,b,c,d⟩
  exact⟨⟨⟨by omega,b⟩,by omega⟩,by omega⟩
theorem expo_at (l:List UInt8)(n:Nat):expo (l.drop n)=if n+1<l.length∧(l.getD n 0)=94∧50≤(l.getD (n+1) 0).toNat∧(l.getD (n+1) 0).toNat≤57 then((l.getD (n+1) 0).toNat-48,2)else(1,0):=by
 have h0:(l.drop n).getD 0 0=l.getD n 0:=by simp[List.getD_eq_getElem?_getD]
 have h1:(l.drop n).getD 1 0=l.getD (n+1) 0:=by simp[List.getD_eq_getElem?_getD]
 unfold expo
 rw[h0,h1,List.length_drop]
 by_cases h:n+1<l.length
 ·simp only[h,show 1<l.length-n by omega]
 ·simp only[h,show ¬1<l.length-n by omega]
theorem exB_set {u:Un}{k k' j:Nat}{x:Int}(h:exB u k)(hj:j<5)(hx: -9≤x∧x≤9)(hk:k+1≤k'):exB (uset u j (ex u j+x)) k':=fun i hi=>by
 have h1:=h i hi
 rw[ex_uset _ _ j hj i hi]
 split
 ·rename_i e;subst e;omega
 ·omega
theorem rParse_ (l:List UInt8)(hl:l.length≤1000000):CallOk Tryz.prog 248 [S l] [] (.tup [Wuu (prs l).1,Wi (prs l).2]) []:=by
 by_cases h40:40<l.length
 ·have e:prs l=(u0,5):=by rw[prs,if_pos h40]
  have h1:decide ((40:Int)<l.length)=true:=tru_of (by omega)
  rw[e]
  refine CallOk.mkN 100 Tryz.func248 rfl en248 (by simp[Tryz.ntmps248]) (ClA.of rfl) rfl rfl fun C hR hP=>?_
  simp(maxSteps:=2000000) only[go_sem,h1]
  exact RetQ.of hR rfl (vv trivial) rvr (Sub.nil _) ClM.nil (ClV.of rfl)
 have h1:decide ((40:Int)<l.length)=false:=fal_of (by omega)
 by_cases hn:(nmd l).2=true
 ·have e:prs l=((nmd l).1,0):=by rw[prs,if_neg h40,if_pos hn]
  rw[e]
  refine CallOk.mkN 100 Tryz.func248 rfl en248 (by simp[Tryz.ntmps248]) (ClA.of rfl) rfl rfl fun C hR hP=>?_
  simp(maxSteps:=2000000) only[go_sem,h1]
  refine CallQ.pure 110 (rNamed l) rfl ?_
  refine vv ?_
  rw[hn]
  refine vv ?_
  exact RetQ.of hR rfl (vv trivial) rvr (Sub.nil _) ClM.nil (ClV.of rfl)
 obtain⟨w,hw,e⟩:=prs_scan l h40 hn
 have hn:(nmd l).2=false:=by simpa using hn
 refine CallOk.mkN 100 Tryz.func248 rfl en248 (by simp[Tryz.ntmps248]) (ClA.of rfl) rfl rfl fun C hR hP=>?_
 simp(maxSteps:=2000000) only[go_sem,h1]
 refine CallQ.pure 110 (rNamed l) rfl ?_
 refine vv ?_
 rw[hn]
 refine vv ?_
 refine Sm.loopM (M0:=[]) (α:={x:Nat×Int×Un//x.1≤l.length∧(x.2.1=1∨x.2.1= -1)∧exB x.2.2 x.1∧Scan x.2.1 x.2.2 (l.drop x.1) w}) hP
  (fun x=>[(0,true,S l),(2,true,.c (.p 4 0)),(6,true,slV 5 5),(7,true,I x.val.2.1),(8,true,I x.val.1)])
  (fun x=>[(4,⟨false,unL u0,89⟩),bL 5 x.val.2.2]) (fun x=>l.length-x.val.1) ⟨(0,1,u0),by simp,.inl rfl,fun j hj=>by simp[ex_u0 j hj],hw⟩ (fun _=>ClM.of rfl) (fun _=>ClE.of rfl) [(4,100),(5,111)] ?_ ?_
 ·exact⟨rfl,trivial,⟨rfl,rfl,rfl,rfl,rfl,trivial⟩,⟨oR,oR,trivial⟩⟩
 ·rintro⟨⟨k,sg,u⟩,hk,hsg,hub,hs⟩ J hb
  simp only at hb hk hsg hub hs⊢
  refine Sm.go 170 ?_
  refine vv ?_
  refine mtch (fun hc=>?_) (fun hc=>?_)
  ·have hc:k<l.length:=by have:=of_decide_eq_true hc;omega
   have hdr:l.drop k=l.getD k 0::l.drop (k+1):=by
    rw[List.getD_eq_getElem?_getD,List.getElem?_eq_getElem hc,List.drop_eq_getElem_cons hc];rfl
   refine⟨⟨by omega,by omega⟩,?_⟩
   refine mtch (fun h47=>?_) (fun h47=>?_)
   ·have h47:l.getD k 0=47:=by
     have h47:((l.getD k 0).toNat:Int)=47:=by simpa using h47
     exact UInt8.toNat_inj.1 (by show _=47;omega)
    have hsg':sgn (l.getD k 0) sg= -1:=by rw[sgn,if_pos h47]
    refine Sm.loopM (M0:=[]) (α:={j:Nat//j≤5}) hP
     (fun j=>[(0,true,S l),(2,true,.c (.p 4 0)),(6,true,slV 5 5),(7,true,I (-1)),(8,true,I k),(9,true,I (mtA (l.drop k) j.val)),(10,true,I j.val)])
     (fun _=>[(4,⟨false,unL u0,89⟩),bL 5 u]) (fun j=>5-j.val) ⟨0,by omega⟩ (fun _=>ClM.of rfl) (fun _=>ClE.of rfl) [(4,4),(5,5)] ?_ ?_
    ·exact⟨rfl,trivial,⟨rfl,rfl,rfl,rfl,rfl,rfl,rfl,trivial⟩,⟨oR,oR,trivial⟩⟩
    ·rintro⟨j,hj⟩ J2 hb2
     simp only at hb2 hj⊢
     refine Sm.go 300 ?_
     refine vv ?_
     refine mtch (fun hjc=>?_) (fun hjc=>?_)
     ·have hjc:j<5:=by have:=of_decide_eq_true hjc;omega
      have hfc:=rFactor j 1 hjc (by omega) (by omega)
      rw[fac1]at hfc
      have hsl:=sy_len j hjc
      have w1:IntKind.i64.wrap ((j:Int)+1)=((j+1:Nat):Int):=by rw[w64 (by omega) (by omega)];omega
      have w2:IntKind.i64.wrap ((k:Int)+((sy j).length:Int))=((k+(sy j).length:Nat):Int):=by rw[w64 (by omega) (by omega)];omega
      refine CallQ.pure 310 hfc rfl ?_
      simp(maxSteps:=2000000) only[go_sem,w2]
      rw[sub_cond hk (by omega)]
      refine⟨fun h=>⟨h,h,h,by omega,by omega,by have:=of_decide_eq_true h;omega⟩,?_⟩
      refine mtch (fun hq=>?_) (fun hq=>?_)
      ·have hq:mtA (l.drop k) (j+1)=j:=by rw[mtA,if_pos (of_decide_eq_true hq)]
       simp only[w1]
       refine hb2 _ _ ⟨j+1,hjc⟩ [(4,4),(5,5)] (by simp only;omega) ?_
       simp only[hq]
       exact⟨rfl,trivial,⟨rfl,rfl,rfl,rfl,rfl,rfl,rfl,trivial⟩,⟨oR,oR,trivial⟩⟩
      ·have hq:mtA (l.drop k) (j+1)=mtA (l.drop k) j:=by rw[mtA,if_neg (of_decide_eq_false hq)]
       simp only[w1]
       refine hb2 _ _ ⟨j+1,hjc⟩ [(4,4),(5,5)] (by simp only;omega) ?_
       simp only[hq]
       exact⟨rfl,trivial,⟨rfl,rfl,rfl,rfl,rfl,rfl,rfl,trivial⟩,⟨oR,oR,trivial⟩⟩
     ·have hjc:¬j<5:=by have:=of_decide_eq_false hjc;omega
      have hjc:j=5:=by omega
      subst hjc
      have hmb:=mtA_bd (l.drop k) 5
      by_cases hm:mtA (l.drop k) 5= -1
      ·have w1:IntKind.i64.wrap ((k:Int)+1)=((k+1:Nat):Int):=by rw[w64 (by omega) (by omega)];omega
       rw[hm]
       simp(maxSteps:=2000000) only[go_sem,w1]
       rw[hdr]at hs hm
       cases hs with
       |tok j hj _=>exfalso;rw[hj]at hm;omega
       |skip _ hs=>
        rw[hsg']at hs
        refine hb _ _ ⟨(k+1, -1,u),hc,by first|exact hsg|exact .inr rfl,exB_mono hub (by simp only;omega),hs⟩ [(4,4),(5,5)] (by simp only;omega) ?_
        exact⟨rfl,trivial,⟨rfl,rfl,rfl,rfl,rfl,trivial⟩,⟨oR,oR,trivial⟩⟩
      ·obtain⟨j,hjm⟩:∃j:Nat,mtA (l.drop k) 5=(j:Int):=⟨(mtA (l.drop k) 5).toNat,by omega⟩
       have hj5:j<5:=by omega
       have hfc:=rFactor j 1 hj5 (by omega) (by omega)
       rw[fac1]at hfc
       have hsl:=sy_len j hj5
       have hjn:decide ((j:Int)<0)=false:=fal_of (by omega)
       rw[hjm]
       simp(maxSteps:=2000000) only[go_sem,hjn]
       have w2:IntKind.i64.wrap ((k:Int)+((sy j).length:Int))=((k+(sy j).length:Nat):Int):=by rw[w64 (by omega) (by omega)];omega
       have w3:IntKind.i64.wrap (((k+(sy j).length:Nat):Int)+1)=((k+(sy j).length+1:Nat):Int):=by rw[w64 (by omega) (by omega)];omega
       have hx:=ex_get u hj5
       have hub5:=hub j hj5
       have hst:∀x:Int,[Cv.v (.int .i64 u.m),.v (.int .i64 u.kg),.v (.int .i64 u.s),.v (.int .i64 u.a),.v (.int .i64 u.k)].set j (.v (.int .i64 x))=unL (uset u j x):=fun x=>un_set u hj5 x
       have hsc:Scan (-1) (uset u j (ex u j+(-1)*(expo (l.drop (k+(sy j).length))).1)) (l.drop (k+(sy j).length+(expo (l.drop (k+(sy j).length))).2)) w:=by
        rw[hdr]at hs hjm
        cases hs with
        |skip h _=>exfalso;rw[h]at hjm;omega
        |tok j' h hs=>
         obtain rfl:j'=j:=by rw[hjm]at h;omega
         rw[hsg',←hdr,List.drop_drop,List.drop_drop]at hs
         exact hs
       have hxa:=expo_at l (k+(sy j).length)
       generalize hn1:k+(sy j).length=n1 at*
       generalize expo (l.drop n1)=ep at*
       refine CallQ.pure 310 hfc rfl ?_
       simp(maxSteps:=2000000) only[go_sem,w2,w3,hx]
       refine⟨fun h=>⟨h,h,by omega,by have:=of_decide_eq_true h;omega⟩,fun h=>⟨h,h,by omega,bifA h⟩,fun h=>⟨h,h,by omega,bifA (bifB h)⟩,?_⟩
       refine mtch (fun hq=>?_) (fun hq=>?_)
       ·have hq:n1+1<l.length∧(l.getD n1 0)=94∧50≤(l.getD (n1+1) 0).toNat∧(l.getD (n1+1) 0).toNat≤57:=(bifC _ _).1 hq
        rw[if_pos hq]at hxa
        obtain⟨q1,q2,q3,q4⟩:=hq
        rw[hxa]at hsc
        generalize (l.getD (n1+1) 0).toNat=b at*
        have w4:IntKind.u8.wrap ((b:Int)-48)=((b-48:Nat):Int):=by rw[IntKind.wrap_u8];omega
        have w5:IntKind.i64.wrap ((b-48:Nat):Int)=((b-48:Nat):Int):=by rw[w64 (by omega) (by omega)]
        have w6:IntKind.i64.wrap ((-1)*((b-48:Nat):Int))=(-1)*((b-48:Nat):Int):=by
         rcases hsg with rfl|rfl<;>rw[w64 (by omega) (by omega)]
        have w7:IntKind.i64.wrap (ex u j+(-1)*((b-48:Nat):Int))=ex u j+(-1)*((b-48:Nat):Int):=by
         rcases hsg with rfl|rfl<;>rw[w64 (by omega) (by omega)]
        have w8:IntKind.i64.wrap ((n1:Int)+2)=((n1+2:Nat):Int):=by rw[w64 (by omega) (by omega)];omega
        simp(maxSteps:=2000000) only[go_sem,w4,w5,w6,w7,w8,hst]
        refine⟨⟨by omega,by omega⟩,⟨by omega,by omega⟩,⟨by omega,by omega⟩,by omega,?_⟩
        refine hb _ _ ⟨(n1+2, -1,uset u j (ex u j+(-1)*((b-48:Nat):Int))),by simp only;omega,by first|exact hsg|exact .inr rfl,exB_set hub hj5 (by rcases hsg with rfl|rfl<;>omega) (by simp only;omega),hsc⟩ [(4,4),(5,5)] (by simp only;omega) ?_
        exact⟨rfl,trivial,⟨rfl,rfl,rfl,rfl,rfl,trivial⟩,⟨oR,oR,trivial⟩⟩
       ·have hq:¬(n1+1<l.length∧(l.getD n1 0)=94∧50≤(l.getD (n1+1) 0).toNat∧(l.getD (n1+1) 0).toNat≤57):=fun h=>by rw[(bifC _ _).2 h]at hq;cases hq
        rw[if_neg hq]at hxa
        rw[hxa]at hsc
        have hl1:n1≤l.length:=by have:=mtA_le l k hjm;omega
        have w6:IntKind.i64.wrap ((-1)*1)=(-1)*1:=by
         rcases hsg with rfl|rfl<;>rw[w64 (by omega) (by omega)]
        have w7:IntKind.i64.wrap (ex u j+(-1)*1)=ex u j+(-1)*((1:Nat):Int):=by
         rcases hsg with rfl|rfl<;>rw[w64 (by omega) (by omega)]<;>rfl
        simp(maxSteps:=2000000) only[go_sem,w6,w7,hst]
        refine⟨⟨by omega,by omega⟩,⟨by omega,by omega⟩,by omega,?_⟩
        refine hb _ _ ⟨(n1, -1,uset u j (ex u j+(-1)*((1:Nat):Int))),by simp only;omega,by first|exact hsg|exact .inr rfl,exB_set hub hj5 (by rcases hsg with rfl|rfl<;>omega) (by simp only;omega),hsc⟩ [(4,4),(5,5)] (by simp only;omega) ?_
        exact⟨rfl,trivial,⟨rfl,rfl,rfl,rfl,rfl,trivial⟩,⟨oR,oR,trivial⟩⟩
   ·have h47:l.getD k 0≠47:=by
     have h47:¬((l.getD k 0).toNat:Int)=47:=by simpa using h47
     intro h;rw[h]at h47;simp at h47
    have hsg':sgn (l.getD k 0) sg=sg:=by rw[sgn,if_neg h47]
    refine Sm.loopM (M0:=[]) (α:={j:Nat//j≤5}) hP
     (fun j=>[(0,true,S l),(2,true,.c (.p 4 0)),(6,true,slV 5 5),(7,true,I (sg)),(8,true,I k),(9,true,I (mtA (l.drop k) j.val)),(10,true,I j.val)])
     (fun _=>[(4,⟨false,unL u0,89⟩),bL 5 u]) (fun j=>5-j.val) ⟨0,by omega⟩ (fun _=>ClM.of rfl) (fun _=>ClE.of rfl) [(4,4),(5,5)] ?_ ?_
    ·exact⟨rfl,trivial,⟨rfl,rfl,rfl,rfl,rfl,rfl,rfl,trivial⟩,⟨oR,oR,trivial⟩⟩
    ·rintro⟨j,hj⟩ J2 hb2
     simp only at hb2 hj⊢
     refine Sm.go 300 ?_
     refine vv ?_
     refine mtch (fun hjc=>?_) (fun hjc=>?_)
     ·have hjc:j<5:=by have:=of_decide_eq_true hjc;omega
      have hfc:=rFactor j 1 hjc (by omega) (by omega)
      rw[fac1]at hfc
      have hsl:=sy_len j hjc
      have w1:IntKind.i64.wrap ((j:Int)+1)=((j+1:Nat):Int):=by rw[w64 (by omega) (by omega)];omega
      have w2:IntKind.i64.wrap ((k:Int)+((sy j).length:Int))=((k+(sy j).length:Nat):Int):=by rw[w64 (by omega) (by omega)];omega
      refine CallQ.pure 310 hfc rfl ?_
      simp(maxSteps:=2000000) only[go_sem,w2]
      rw[sub_cond hk (by omega)]
      refine⟨fun h=>⟨h,h,h,by omega,by omega,by have:=of_decide_eq_true h;omega⟩,?_⟩
      refine mtch (fun hq=>?_) (fun hq=>?_)
      ·have hq:mtA (l.drop k) (j+1)=j:=by rw[mtA,if_pos (of_decide_eq_true hq)]
       simp only[w1]
       refine hb2 _ _ ⟨j+1,hjc⟩ [(4,4),(5,5)] (by simp only;omega) ?_
       simp only[hq]
       exact⟨rfl,trivial,⟨rfl,rfl,rfl,rfl,rfl,rfl,rfl,trivial⟩,⟨oR,oR,trivial⟩⟩
      ·have hq:mtA (l.drop k) (j+1)=mtA (l.drop k) j:=by rw[mtA,if_neg (of_decide_eq_false hq)]
       simp only[w1]
       refine hb2 _ _ ⟨j+1,hjc⟩ [(4,4),(5,5)] (by simp only;omega) ?_
       simp only[hq]
       exact⟨rfl,trivial,⟨rfl,rfl,rfl,rfl,rfl,rfl,rfl,trivial⟩,⟨oR,oR,trivial⟩⟩
     ·have hjc:¬j<5:=by have:=of_decide_eq_false hjc;omega
      have hjc:j=5:=by omega
      subst hjc
      have hmb:=mtA_bd (l.drop k) 5
      by_cases hm:mtA (l.drop k) 5= -1
      ·have w1:IntKind.i64.wrap ((k:Int)+1)=((k+1:Nat):Int):=by rw[w64 (by omega) (by omega)];omega
       rw[hm]
       simp(maxSteps:=2000000) only[go_sem,w1]
       rw[hdr]at hs hm
       cases hs with
       |tok j hj _=>exfalso;rw[hj]at hm;omega
       |skip _ hs=>
        rw[hsg']at hs
        refine hb _ _ ⟨(k+1,sg,u),hc,by first|exact hsg|exact .inr rfl,exB_mono hub (by simp only;omega),hs⟩ [(4,4),(5,5)] (by simp only;omega) ?_
        exact⟨rfl,trivial,⟨rfl,rfl,rfl,rfl,rfl,trivial⟩,⟨oR,oR,trivial⟩⟩
      ·obtain⟨j,hjm⟩:∃j:Nat,mtA (l.drop k) 5=(j:Int):=⟨(mtA (l.drop k) 5).toNat,by omega⟩
       have hj5:j<5:=by omega
       have hfc:=rFactor j 1 hj5 (by omega) (by omega)
       rw[fac1]at hfc
       have hsl:=sy_len j hj5
       have hjn:decide ((j:Int)<0)=false:=fal_of (by omega)
       rw[hjm]
       simp(maxSteps:=2000000) only[go_sem,hjn]
       have w2:IntKind.i64.wrap ((k:Int)+((sy j).length:Int))=((k+(sy j).length:Nat):Int):=by rw[w64 (by omega) (by omega)];omega
       have w3:IntKind.i64.wrap (((k+(sy j).length:Nat):Int)+1)=((k+(sy j).length+1:Nat):Int):=by rw[w64 (by omega) (by omega)];omega
       have hx:=ex_get u hj5
       have hub5:=hub j hj5
       have hst:∀x:Int,[Cv.v (.int .i64 u.m),.v (.int .i64 u.kg),.v (.int .i64 u.s),.v (.int .i64 u.a),.v (.int .i64 u.k)].set j (.v (.int .i64 x))=unL (uset u j x):=fun x=>un_set u hj5 x
       have hsc:Scan (sg) (uset u j (ex u j+(sg)*(expo (l.drop (k+(sy j).length))).1)) (l.drop (k+(sy j).length+(expo (l.drop (k+(sy j).length))).2)) w:=by
        rw[hdr]at hs hjm
        cases hs with
        |skip h _=>exfalso;rw[h]at hjm;omega
        |tok j' h hs=>
         obtain rfl:j'=j:=by rw[hjm]at h;omega
         rw[hsg',←hdr,List.drop_drop,List.drop_drop]at hs
         exact hs
       have hxa:=expo_at l (k+(sy j).length)
       generalize hn1:k+(sy j).length=n1 at*
       generalize expo (l.drop n1)=ep at*
       refine CallQ.pure 310 hfc rfl ?_
       simp(maxSteps:=2000000) only[go_sem,w2,w3,hx]
       refine⟨fun h=>⟨h,h,by omega,by have:=of_decide_eq_true h;omega⟩,fun h=>⟨h,h,by omega,bifA h⟩,fun h=>⟨h,h,by omega,bifA (bifB h)⟩,?_⟩
       refine mtch (fun hq=>?_) (fun hq=>?_)
       ·have hq:n1+1<l.length∧(l.getD n1 0)=94∧50≤(l.getD (n1+1) 0).toNat∧(l.getD (n1+1) 0).toNat≤57:=(bifC _ _).1 hq
        rw[if_pos hq]at hxa
        obtain⟨q1,q2,q3,q4⟩:=hq
        rw[hxa]at hsc
        generalize (l.getD (n1+1) 0).toNat=b at*
        have w4:IntKind.u8.wrap ((b:Int)-48)=((b-48:Nat):Int):=by rw[IntKind.wrap_u8];omega
        have w5:IntKind.i64.wrap ((b-48:Nat):Int)=((b-48:Nat):Int):=by rw[w64 (by omega) (by omega)]
        have w6:IntKind.i64.wrap ((sg)*((b-48:Nat):Int))=(sg)*((b-48:Nat):Int):=by
         rcases hsg with rfl|rfl<;>rw[w64 (by omega) (by omega)]
        have w7:IntKind.i64.wrap (ex u j+(sg)*((b-48:Nat):Int))=ex u j+(sg)*((b-48:Nat):Int):=by
         rcases hsg with rfl|rfl<;>rw[w64 (by omega) (by omega)]
        have w8:IntKind.i64.wrap ((n1:Int)+2)=((n1+2:Nat):Int):=by rw[w64 (by omega) (by omega)];omega
        simp(maxSteps:=2000000) only[go_sem,w4,w5,w6,w7,w8,hst]
        refine⟨⟨by omega,by omega⟩,⟨by omega,by omega⟩,⟨by omega,by omega⟩,by omega,?_⟩
        refine hb _ _ ⟨(n1+2,sg,uset u j (ex u j+(sg)*((b-48:Nat):Int))),by simp only;omega,by first|exact hsg|exact .inr rfl,exB_set hub hj5 (by rcases hsg with rfl|rfl<;>omega) (by simp only;omega),hsc⟩ [(4,4),(5,5)] (by simp only;omega) ?_
        exact⟨rfl,trivial,⟨rfl,rfl,rfl,rfl,rfl,trivial⟩,⟨oR,oR,trivial⟩⟩
       ·have hq:¬(n1+1<l.length∧(l.getD n1 0)=94∧50≤(l.getD (n1+1) 0).toNat∧(l.getD (n1+1) 0).toNat≤57):=fun h=>by rw[(bifC _ _).2 h]at hq;cases hq
        rw[if_neg hq]at hxa
        rw[hxa]at hsc
        have hl1:n1≤l.length:=by have:=mtA_le l k hjm;omega
        have w6:IntKind.i64.wrap ((sg)*1)=(sg)*1:=by
         rcases hsg with rfl|rfl<;>rw[w64 (by omega) (by omega)]
        have w7:IntKind.i64.wrap (ex u j+(sg)*1)=ex u j+(sg)*((1:Nat):Int):=by
         rcases hsg with rfl|rfl<;>rw[w64 (by omega) (by omega)]<;>rfl
        simp(maxSteps:=2000000) only[go_sem,w6,w7,hst]
        refine⟨⟨by omega,by omega⟩,⟨by omega,by omega⟩,by omega,?_⟩
        refine hb _ _ ⟨(n1,sg,uset u j (ex u j+(sg)*((1:Nat):Int))),by simp only;omega,by first|exact hsg|exact .inr rfl,exB_set hub hj5 (by rcases hsg with rfl|rfl<;>omega) (by simp only;omega),hsc⟩ [(4,4),(5,5)] (by simp only;omega) ?_
        exact⟨rfl,trivial,⟨rfl,rfl,rfl,rfl,rfl,trivial⟩,⟨oR,oR,trivial⟩⟩
  ·have hc:¬k<l.length:=by have:=of_decide_eq_false hc;omega
   have hc:k=l.length:=by omega
   rw[hc,List.drop_length]at hs
   cases hs
   refine CallQ.ren [(1,5)] 180 (rOf w) (clLr _ _) rfl rfl ⟨⟨_,rfl,.inr ⟨rfl,[],rfl⟩⟩,trivial⟩ rfl (.inr rfl) ?_
   refine vv ?_
   refine CallQ.pure 190 (rValid w) rfl ?_
   refine vv ?_
   refine CallQ.guard 190 (fun _=>rText w) (fun h=>by rw[h];rfl) ?_
   refine vv ?_
   refine mtch (fun hq=>?_) (fun hq=>?_)
   ·have hq:uokU w=true∧txt w=l:=by
     cases hu:uokU w with
     |false=>rw[hu]at hq;cases hq
     |true=>rw[hu]at hq;exact⟨rfl,by simpa using hq⟩
    rw[if_pos hq]at e
    rw[e]at hR
    exact RetQ.of hR rfl (vv trivial) rvr (Sub.nil _) ClM.nil (ClV.of rfl)
   ·have hq:¬(uokU w=true∧txt w=l):=by
     rintro⟨h1,h2⟩
     rw[h1,h2]at hq
     simp at hq
    rw[if_neg hq]at e
    rw[e]at hR
    exact RetQ.of hR rfl (vv trivial) rvr (Sub.nil _) ClM.nil (ClV.of rfl)
def StU (U:List Tk):Prop:=lenS U≤100000
theorem lenS_drop (U:List Tk)(i:Nat)(h:i<U.length):lenS (U.drop i)=(U.getD i tk0).s.length+lenS (U.drop (i+1)):=by
 rw[List.drop_eq_getElem_cons h]
 have e:U.getD i tk0=U[i]:=by rw[List.getD_eq_getElem?_getD,List.getElem?_eq_getElem h];rfl
 rw[e];rfl
theorem lenS_dle (U:List Tk)(i:Nat):lenS (U.drop i)≤lenS U:=by
 have h:lenS U=lenS (U.take i)+lenS (U.drop i):=by rw[←lenS_app,List.take_append_drop]
 omega
theorem StU.h {U:List Tk}(hS:StU U)(p:Ps):(hereP U p).s.length≤100000:=by
 by_cases h:p.at_<U.length
 ·have h1:=lenS_drop U p.at_ h
  have h2:=lenS_dle U p.at_
  unfold StU at hS
  show(U.getD p.at_ tk0).s.length≤_
  omega
 ·have:hereP U p=tk0:=by unfold hereP;rw[List.getD_eq_getElem?_getD,List.getElem?_eq_none (by omega)];rfl
  rw[this];exact Nat.zero_le _
theorem rinput_ (U:List Tk)(V:VT U)(hS:StU U)(p:Ps)(h:p.at_<U.length):CallOk Tryz.prog 181 [.c (.p 1 0)] (rM U p) (rowV (rInp U p).1.r) [(1,⟨false,rsC U (rInp U p).2,124⟩)]:=by
 have hn:=V.n
 have hU:U.length≤100000:=by omega
 unfold rInp rbd
 have h1:=rNam_lt V h
 have c1:=rname_ U hU p h (hS.h p) h1
 generalize rNam U p=y1 at*
 have h2:=rTak_lt V (k:=3) (s:=[58]) (by decide) h1
 have c2:=rtake_ U hU y1.2 h1 3 [58]
 dsimp only
 generalize rTak U 3 [58] y1.2=p2 at*
 have h3:=rNam_lt V h2
 have c3:=rname_ U hU p2 h2 (hS.h p2) h3
 generalize rNam U p2=y3 at*
 have h4:=rNum_lt V h3
 have c4:=rnumber_ U hU y3.2 h3
 generalize rNum U y3.2=y4 at*
 have h5:=rNum_lt V h4
 have c5:=rnumber_ U hU y4.2 h4
 generalize rNum U y4.2=y5 at*
 have c6:=rend_ U hU y5.2 h5
 have hM2:=rM_cl U (rEnd U y5.2)
 generalize rEnd U y5.2=p6 at*
 refine CallOk.mkN 100 Tryz.func181 rfl en181 (by simp[Tryz.ntmps181]) (ClA.of rfl) rfl rfl fun C hR hP=>?_
 refine vv ?_
 refine CallQ.mi 110 c1 (rM_cl U (p)) ⟨oS,oS,trivial⟩ ?_
 refine vv ?_
 refine CallQ.mi 120 c2 (rM_cl U (y1.2)) ⟨oS,oS,trivial⟩ ?_
 refine vv ?_
 refine CallQ.mi 130 c3 (rM_cl U (p2)) ⟨oS,oS,trivial⟩ ?_
 refine vv ?_
 refine CallQ.mi 140 c4 (rM_cl U (y3.2)) ⟨oS,oS,trivial⟩ ?_
 refine vv ?_
 refine CallQ.mi 150 c5 (rM_cl U (y4.2)) ⟨oS,oS,trivial⟩ ?_
 refine vv ?_
 refine CallQ.mi 160 c6 (rM_cl U (y5.2)) ⟨oS,oS,trivial⟩ ?_
 refine vv ?_
 exact RetQ.of hR rfl (vv trivial) rvr (sub_sh (SubS.sub ⟨oS,oS,trivial⟩)) (clm_sh hM2) (ClV.of rfl)
theorem rtyped_ (U:List Tk)(V:VT U)(hS:StU U)(p:Ps)(h:p.at_<U.length):CallOk Tryz.prog 178 [.c (.p 1 0)] (rM U p) (rowV (rTyp U p).1.r) [(1,⟨false,rsC U (rTyp U p).2,124⟩)]:=by
 have hn:=V.n
 have hU:U.length≤100000:=by omega
 unfold rTyp rbd
 have h1:=rNam_lt V h
 have c1:=rname_ U hU p h (hS.h p) h1
 generalize rNam U p=y1 at*
 have h2:=rTak_lt V (k:=3) (s:=[61]) (by decide) h1
 have c2:=rtake_ U hU y1.2 h1 3 [61]
 dsimp only
 generalize rTak U 3 [61] y1.2=p2 at*
 have h3:=rNum_lt V h2
 have c3:=rnumber_ U hU p2 h2
 generalize rNum U p2=y3 at*
 have c4:=ris_ U hU y3.2 h3 1 sgnT
 have c4b:=rtake_ U hU y3.2 h3 1 usgT
 have h4:(rSgn U y3.2).2.at_<U.length:=by
  unfold rSgn
  cases hb:rIs U 1 sgnT y3.2 with
  |true=>exact rIs_lt V (by decide) h3 hb
  |false=>exact rTak_lt V (by decide) h3
 have h5:=rNum_lt V h4
 have c5:=rnumber_ U hU (rSgn U y3.2).2 h4
 generalize hy5:rNum U (rSgn U y3.2).2=y5 at*
 have h6:=rNum_lt V h5
 have c6:=rnumber_ U hU y5.2 h5
 generalize rNum U y5.2=y6 at*
 have h7:=rNum_lt V h6
 have c7:=rnumber_ U hU y6.2 h6
 generalize rNum U y6.2=y7 at*
 refine CallOk.mkN 100 Tryz.func178 rfl en178 (by simp[Tryz.ntmps178]) (ClA.of rfl) rfl rfl fun C hR hP=>?_
 refine vv ?_
 refine CallQ.mi 110 c1 (rM_cl U (p)) ⟨oS,oS,trivial⟩ ?_
 refine vv ?_
 refine CallQ.mi 120 c2 (rM_cl U (y1.2)) ⟨oS,oS,trivial⟩ ?_
 refine vv ?_
 refine CallQ.mi 130 c3 (rM_cl U (p2)) ⟨oS,oS,trivial⟩ ?_
 refine vv ?_
 refine CallQ.mi 140 c4 (rM_cl U y3.2) ⟨oS,oS,trivial⟩ ?_
 refine vv ?_
 unfold rSgn at hR c5 h4 hy5
 cases hb:rIs U 1 sgnT y3.2 with
 |true=>
  rw[hb]at hR c5 h4 hy5
  simp only[cond_true,cond_false]at hR c5 h4 hy5
  simp(maxSteps:=2000000) only[go_sem,aP hU h3]
  refine CallQ.mi 140 c5 (rM_cl U ((advP y3.2))) ⟨oS,oS,trivial⟩ ?_
  refine vv ?_
  refine CallQ.mi 150 c6 (rM_cl U (y5.2)) ⟨oS,oS,trivial⟩ ?_
  refine vv ?_
  refine CallQ.mi 160 c7 (rM_cl U (y6.2)) ⟨oS,oS,trivial⟩ ?_
  refine vv ?_
  have hre:rUnt U y7.2=rUn2 U y7.2.at_ (rCol U 40000 [] y7.2):=rfl
  refine Sm.loopM (M0:=rM U p) (α:={x:Str×Ps//x.2.at_<U.length∧x.1.length+lenS (U.drop x.2.at_)≤100000∧∃f,U.length≤x.2.at_+f∧rCol U 40000 [] y7.2=rCol U f x.1 x.2}) hP (fun x=>[(0,true,.c (.p 1 0)),(2,true,.c (.p 100 0)),(3,true,.c (.p 110 0)),(4,true,I y7.2.at_),(5,true,S x.val.1)])
   (fun x=>[(1,⟨false,rsC U x.val.2,124⟩),(2,⟨true,rowsC (U.map Tk.r),57⟩),(100,⟨false,[sC [],iC 0,.v (.bool false),iC 0,iC 0,iC 0,iC 0,iC 0,iC 0,iC 0,iC 0],93⟩),(110,⟨false,[sC y1.1,iC y3.1,.v (.bool true),iC y5.1,iC y6.1,iC y7.1,iC 0,iC 0,iC 0,iC 0,iC 0],93⟩)]) (fun x=>U.length-x.val.2.at_) ⟨([],y7.2),h7,by show 0+lenS (U.drop y7.2.at_)≤100000;have:=lenS_dle U y7.2.at_;unfold StU at hS;omega,40000,by show U.length≤y7.2.at_+40000;omega,rfl⟩ (fun _=>ClM.of (by simp only[List.all_cons,inMV (rowsC_isV _)];rfl)) (fun _=>ClE.of rfl) [(1,1),(2,2),(100,100),(110,110)] ?_ ?_
  ·exact⟨rfl,⟨⟨rfl,rfl⟩,⟨rfl,rfl⟩,trivial⟩,⟨rfl,rfl,rfl,rfl,rfl,trivial⟩,⟨oR,oV (renV (rowsC_isV _)),oR,oR,trivial⟩⟩
  rintro⟨⟨s,q⟩,hq,hl,f,hf,hx⟩ J hb
  simp only at hb hq hl hf hx⊢
  have hdl:=lenS_drop U q.at_ hq
  have hh:U.getD q.at_ tk0=hereP U q:=rfl
  obtain⟨t0,t1,_,_,_⟩:=tk_at U q.at_ hq
  rw[hh]at t0 t1 hdl
  have ek:(((hereP U q).k:Int)==4)=((hereP U q).k==4):=kB _ 4
  refine Sm.go 200 ?_
  cases he:q.e==0 with
  |false=>
   have hcs:rCol U f s q=(s,q):=by cases f with|zero=>rfl|succ f=>rw[rCol,he];rfl
   rw[hre,hx,hcs]at hR
   refine Sm.dg 200 14 mix ?_
   simp(maxSteps:=2000000) only[go_sem,he,t0]
   have hw:(bif q.e==0&&s==[]then wrnP U q else q)=q:=by rw[he];rfl
   unfold rUn2 at hR
   dsimp only at hR
   rw[hw]at hR
   have hpr:=rParse_ s (by omega)
   generalize prs s=z at*
   refine CallQ.pure 300 hpr rfl ?_
   refine vv ?_
   cases hz:z.2==0 with
   |true=>
    rw[hz]at hR
    simp only[cond_true]at hR
    simp(maxSteps:=2000000) only[go_sem,hz,bne]
    refine CallQ.pure 320 (rType_ (mkFt y3.1 true y5.1 y6.1 y7.1 z.1)) rfl ?_
    cases hfk:fok (mkFt y3.1 true y5.1 y6.1 y7.1 z.1)with
    |true=>
     rw[hfk]at hR
     refine vv ?_
     exact RetQ.of hR rfl (vv trivial) rvr (sub_sh (SubS.sub ⟨oS,oS,trivial⟩)) (clm_sh (rM_cl U (q))) (ClV.of rfl)
    |false=>
     rw[hfk]at hR
     refine vv ?_
     refine CallQ.mi 330 (refuse_ U hU (q) 0 (by omega) 1) (rM_cl U (q)) ⟨oS,oS,trivial⟩ ?_
     refine vv ?_
     exact RetQ.of hR rfl (vv trivial) rvr (sub_sh (SubS.sub ⟨oS,oS,trivial⟩)) (clm_sh (rM_cl U (rRef U 0 1 (q)))) (ClV.of rfl)
   |false=>
    rw[hz]at hR
    simp only[cond_false]at hR
    simp(maxSteps:=2000000) only[go_sem,hz,bne]
    refine CallQ.mi 310 (refuse_ U hU (q) y7.2.at_ h7 3) (rM_cl U (q)) ⟨oS,oS,trivial⟩ ?_
    refine vv ?_
    refine CallQ.pure 320 (rType_ (mkFt y3.1 true y5.1 y6.1 y7.1 z.1)) rfl ?_
    cases hfk:fok (mkFt y3.1 true y5.1 y6.1 y7.1 z.1)with
    |true=>
     rw[hfk]at hR
     refine vv ?_
     exact RetQ.of hR rfl (vv trivial) rvr (sub_sh (SubS.sub ⟨oS,oS,trivial⟩)) (clm_sh (rM_cl U (rRef U y7.2.at_ 3 (q)))) (ClV.of rfl)
    |false=>
     rw[hfk]at hR
     refine vv ?_
     refine CallQ.mi 330 (refuse_ U hU (rRef U y7.2.at_ 3 (q)) 0 (by omega) 1) (rM_cl U (rRef U y7.2.at_ 3 (q))) ⟨oS,oS,trivial⟩ ?_
     refine vv ?_
     exact RetQ.of hR rfl (vv trivial) rvr (sub_sh (SubS.sub ⟨oS,oS,trivial⟩)) (clm_sh (rM_cl U (rRef U 0 1 (rRef U y7.2.at_ 3 (q))))) (ClV.of rfl)
  |true=>
   cases hk:(hereP U q).k==4 with
   |true=>
    have hcs:rCol U f s q=(s,q):=by cases f with|zero=>rfl|succ f=>rw[rCol,he,hk];rfl
    rw[hre,hx,hcs]at hR
    refine Sm.dg 200 14 mix ?_
    simp(maxSteps:=2000000) only[go_sem,he,t0,ek,hk,bne]
    refine⟨⟨by omega,by omega⟩,?_⟩
    cases hs:s==[]with
    |true=>
     refine CallQ.mi 290 (rfail_ U hU q hq) (rM_cl U (q)) ⟨oS,oS,trivial⟩ ?_
     refine vv ?_
     have hw:(bif q.e==0&&s==[]then wrnP U q else q)=(wrnP U q):=by rw[he,hs];rfl
     unfold rUn2 at hR
     dsimp only at hR
     rw[hw]at hR
     have hpr:=rParse_ s (by omega)
     generalize prs s=z at*
     refine CallQ.pure 300 hpr rfl ?_
     refine vv ?_
     cases hz:z.2==0 with
     |true=>
      rw[hz]at hR
      simp only[cond_true]at hR
      simp(maxSteps:=2000000) only[go_sem,hz,bne]
      refine CallQ.pure 320 (rType_ (mkFt y3.1 true y5.1 y6.1 y7.1 z.1)) rfl ?_
      cases hfk:fok (mkFt y3.1 true y5.1 y6.1 y7.1 z.1)with
      |true=>
       rw[hfk]at hR
       refine vv ?_
       exact RetQ.of hR rfl (vv trivial) rvr (sub_sh (SubS.sub ⟨oS,oS,trivial⟩)) (clm_sh (rM_cl U ((wrnP U q)))) (ClV.of rfl)
      |false=>
       rw[hfk]at hR
       refine vv ?_
       refine CallQ.mi 330 (refuse_ U hU ((wrnP U q)) 0 (by omega) 1) (rM_cl U ((wrnP U q))) ⟨oS,oS,trivial⟩ ?_
       refine vv ?_
       exact RetQ.of hR rfl (vv trivial) rvr (sub_sh (SubS.sub ⟨oS,oS,trivial⟩)) (clm_sh (rM_cl U (rRef U 0 1 ((wrnP U q))))) (ClV.of rfl)
     |false=>
      rw[hz]at hR
      simp only[cond_false]at hR
      simp(maxSteps:=2000000) only[go_sem,hz,bne]
      refine CallQ.mi 310 (refuse_ U hU ((wrnP U q)) y7.2.at_ h7 3) (rM_cl U ((wrnP U q))) ⟨oS,oS,trivial⟩ ?_
      refine vv ?_
      refine CallQ.pure 320 (rType_ (mkFt y3.1 true y5.1 y6.1 y7.1 z.1)) rfl ?_
      cases hfk:fok (mkFt y3.1 true y5.1 y6.1 y7.1 z.1)with
      |true=>
       rw[hfk]at hR
       refine vv ?_
       exact RetQ.of hR rfl (vv trivial) rvr (sub_sh (SubS.sub ⟨oS,oS,trivial⟩)) (clm_sh (rM_cl U (rRef U y7.2.at_ 3 ((wrnP U q))))) (ClV.of rfl)
      |false=>
       rw[hfk]at hR
       refine vv ?_
       refine CallQ.mi 330 (refuse_ U hU (rRef U y7.2.at_ 3 ((wrnP U q))) 0 (by omega) 1) (rM_cl U (rRef U y7.2.at_ 3 ((wrnP U q)))) ⟨oS,oS,trivial⟩ ?_
       refine vv ?_
       exact RetQ.of hR rfl (vv trivial) rvr (sub_sh (SubS.sub ⟨oS,oS,trivial⟩)) (clm_sh (rM_cl U (rRef U 0 1 (rRef U y7.2.at_ 3 ((wrnP U q)))))) (ClV.of rfl)
    |false=>
     have hw:(bif q.e==0&&s==[]then wrnP U q else q)=q:=by rw[he,hs];rfl
     unfold rUn2 at hR
     dsimp only at hR
     rw[hw]at hR
     have hpr:=rParse_ s (by omega)
     generalize prs s=z at*
     refine CallQ.pure 300 hpr rfl ?_
     refine vv ?_
     cases hz:z.2==0 with
     |true=>
      rw[hz]at hR
      simp only[cond_true]at hR
      simp(maxSteps:=2000000) only[go_sem,hz,bne]
      refine CallQ.pure 320 (rType_ (mkFt y3.1 true y5.1 y6.1 y7.1 z.1)) rfl ?_
      cases hfk:fok (mkFt y3.1 true y5.1 y6.1 y7.1 z.1)with
      |true=>
       rw[hfk]at hR
       refine vv ?_
       exact RetQ.of hR rfl (vv trivial) rvr (sub_sh (SubS.sub ⟨oS,oS,trivial⟩)) (clm_sh (rM_cl U (q))) (ClV.of rfl)
      |false=>
       rw[hfk]at hR
       refine vv ?_
       refine CallQ.mi 330 (refuse_ U hU (q) 0 (by omega) 1) (rM_cl U (q)) ⟨oS,oS,trivial⟩ ?_
       refine vv ?_
       exact RetQ.of hR rfl (vv trivial) rvr (sub_sh (SubS.sub ⟨oS,oS,trivial⟩)) (clm_sh (rM_cl U (rRef U 0 1 (q)))) (ClV.of rfl)
     |false=>
      rw[hz]at hR
      simp only[cond_false]at hR
      simp(maxSteps:=2000000) only[go_sem,hz,bne]
      refine CallQ.mi 310 (refuse_ U hU (q) y7.2.at_ h7 3) (rM_cl U (q)) ⟨oS,oS,trivial⟩ ?_
      refine vv ?_
      refine CallQ.pure 320 (rType_ (mkFt y3.1 true y5.1 y6.1 y7.1 z.1)) rfl ?_
      cases hfk:fok (mkFt y3.1 true y5.1 y6.1 y7.1 z.1)with
      |true=>
       rw[hfk]at hR
       refine vv ?_
       exact RetQ.of hR rfl (vv trivial) rvr (sub_sh (SubS.sub ⟨oS,oS,trivial⟩)) (clm_sh (rM_cl U (rRef U y7.2.at_ 3 (q)))) (ClV.of rfl)
      |false=>
       rw[hfk]at hR
       refine vv ?_
       refine CallQ.mi 330 (refuse_ U hU (rRef U y7.2.at_ 3 (q)) 0 (by omega) 1) (rM_cl U (rRef U y7.2.at_ 3 (q))) ⟨oS,oS,trivial⟩ ?_
       refine vv ?_
       exact RetQ.of hR rfl (vv trivial) rvr (sub_sh (SubS.sub ⟨oS,oS,trivial⟩)) (clm_sh (rM_cl U (rRef U 0 1 (rRef U y7.2.at_ 3 (q))))) (ClV.of rfl)
   |false=>
    obtain⟨f',rfl⟩:∃f',f=f'+1:=⟨f-1,by omega⟩
    have hcs:rCol U (f'+1) s q=rCol U f' (s++(hereP U q).s) (advP q):=by rw[rCol,he,hk];rfl
    rw[hcs]at hx
    have ha:=(adv_on V.g hq (by simpa using hk)).1.2
    refine Sm.dg 200 14 mix ?_
    simp(maxSteps:=2000000) only[go_sem,he,t0,ek,hk,bne]
    refine⟨⟨by omega,by omega⟩,?_⟩
    refine Sm.dg 200 12 mix ?_
    simp(maxSteps:=2000000) only[go_sem,t1,aP hU hq]
    refine⟨⟨by omega,by omega⟩,by omega,?_⟩
    refine hb _ _ ⟨(s++(hereP U q).s,advP q),ha,by show(s++(hereP U q).s).length+lenS (U.drop (q.at_+1))≤_;rw[List.length_append];omega,f',by show U.length≤q.at_+1+f';omega,hx⟩ [(1,1),(2,2),(100,100),(110,110)] (by show U.length-(q.at_+1)<_;omega) ?_
    exact⟨rfl,⟨⟨rfl,rfl⟩,⟨rfl,rfl⟩,trivial⟩,⟨rfl,rfl,rfl,rfl,rfl,trivial⟩,⟨oR,oV (renV (rowsC_isV _)),oR,oR,trivial⟩⟩
 |false=>
  rw[hb]at hR c5 h4 hy5
  simp only[cond_true,cond_false]at hR c5 h4 hy5
  refine vv ?_
  refine CallQ.mi 140 c4b (rM_cl U y3.2) ⟨oS,oS,trivial⟩ ?_
  refine vv ?_
  refine CallQ.mi 140 c5 (rM_cl U ((rTak U 1 usgT y3.2))) ⟨oS,oS,trivial⟩ ?_
  refine vv ?_
  refine CallQ.mi 150 c6 (rM_cl U (y5.2)) ⟨oS,oS,trivial⟩ ?_
  refine vv ?_
  refine CallQ.mi 160 c7 (rM_cl U (y6.2)) ⟨oS,oS,trivial⟩ ?_
  refine vv ?_
  have hre:rUnt U y7.2=rUn2 U y7.2.at_ (rCol U 40000 [] y7.2):=rfl
  refine Sm.loopM (M0:=rM U p) (α:={x:Str×Ps//x.2.at_<U.length∧x.1.length+lenS (U.drop x.2.at_)≤100000∧∃f,U.length≤x.2.at_+f∧rCol U 40000 [] y7.2=rCol U f x.1 x.2}) hP (fun x=>[(0,true,.c (.p 1 0)),(2,true,.c (.p 100 0)),(3,true,.c (.p 110 0)),(4,true,I y7.2.at_),(5,true,S x.val.1)])
   (fun x=>[(1,⟨false,rsC U x.val.2,124⟩),(2,⟨true,rowsC (U.map Tk.r),57⟩),(100,⟨false,[sC [],iC 0,.v (.bool false),iC 0,iC 0,iC 0,iC 0,iC 0,iC 0,iC 0,iC 0],93⟩),(110,⟨false,[sC y1.1,iC y3.1,.v (.bool false),iC y5.1,iC y6.1,iC y7.1,iC 0,iC 0,iC 0,iC 0,iC 0],93⟩)]) (fun x=>U.length-x.val.2.at_) ⟨([],y7.2),h7,by show 0+lenS (U.drop y7.2.at_)≤100000;have:=lenS_dle U y7.2.at_;unfold StU at hS;omega,40000,by show U.length≤y7.2.at_+40000;omega,rfl⟩ (fun _=>ClM.of (by simp only[List.all_cons,inMV (rowsC_isV _)];rfl)) (fun _=>ClE.of rfl) [(1,1),(2,2),(100,100),(110,110)] ?_ ?_
  ·exact⟨rfl,⟨⟨rfl,rfl⟩,⟨rfl,rfl⟩,trivial⟩,⟨rfl,rfl,rfl,rfl,rfl,trivial⟩,⟨oR,oV (renV (rowsC_isV _)),oR,oR,trivial⟩⟩
  rintro⟨⟨s,q⟩,hq,hl,f,hf,hx⟩ J hb
  simp only at hb hq hl hf hx⊢
  have hdl:=lenS_drop U q.at_ hq
  have hh:U.getD q.at_ tk0=hereP U q:=rfl
  obtain⟨t0,t1,_,_,_⟩:=tk_at U q.at_ hq
  rw[hh]at t0 t1 hdl
  have ek:(((hereP U q).k:Int)==4)=((hereP U q).k==4):=kB _ 4
  refine Sm.go 200 ?_
  cases he:q.e==0 with
  |false=>
   have hcs:rCol U f s q=(s,q):=by cases f with|zero=>rfl|succ f=>rw[rCol,he];rfl
   rw[hre,hx,hcs]at hR
   refine Sm.dg 200 14 mix ?_
   simp(maxSteps:=2000000) only[go_sem,he,t0]
   have hw:(bif q.e==0&&s==[]then wrnP U q else q)=q:=by rw[he];rfl
   unfold rUn2 at hR
   dsimp only at hR
   rw[hw]at hR
   have hpr:=rParse_ s (by omega)
   generalize prs s=z at*
   refine CallQ.pure 300 hpr rfl ?_
   refine vv ?_
   cases hz:z.2==0 with
   |true=>
    rw[hz]at hR
    simp only[cond_true]at hR
    simp(maxSteps:=2000000) only[go_sem,hz,bne]
    refine CallQ.pure 320 (rType_ (mkFt y3.1 false y5.1 y6.1 y7.1 z.1)) rfl ?_
    cases hfk:fok (mkFt y3.1 false y5.1 y6.1 y7.1 z.1)with
    |true=>
     rw[hfk]at hR
     refine vv ?_
     exact RetQ.of hR rfl (vv trivial) rvr (sub_sh (SubS.sub ⟨oS,oS,trivial⟩)) (clm_sh (rM_cl U (q))) (ClV.of rfl)
    |false=>
     rw[hfk]at hR
     refine vv ?_
     refine CallQ.mi 330 (refuse_ U hU (q) 0 (by omega) 1) (rM_cl U (q)) ⟨oS,oS,trivial⟩ ?_
     refine vv ?_
     exact RetQ.of hR rfl (vv trivial) rvr (sub_sh (SubS.sub ⟨oS,oS,trivial⟩)) (clm_sh (rM_cl U (rRef U 0 1 (q)))) (ClV.of rfl)
   |false=>
    rw[hz]at hR
    simp only[cond_false]at hR
    simp(maxSteps:=2000000) only[go_sem,hz,bne]
    refine CallQ.mi 310 (refuse_ U hU (q) y7.2.at_ h7 3) (rM_cl U (q)) ⟨oS,oS,trivial⟩ ?_
    refine vv ?_
    refine CallQ.pure 320 (rType_ (mkFt y3.1 false y5.1 y6.1 y7.1 z.1)) rfl ?_
    cases hfk:fok (mkFt y3.1 false y5.1 y6.1 y7.1 z.1)with
    |true=>
     rw[hfk]at hR
     refine vv ?_
     exact RetQ.of hR rfl (vv trivial) rvr (sub_sh (SubS.sub ⟨oS,oS,trivial⟩)) (clm_sh (rM_cl U (rRef U y7.2.at_ 3 (q)))) (ClV.of rfl)
    |false=>
     rw[hfk]at hR
     refine vv ?_
     refine CallQ.mi 330 (refuse_ U hU (rRef U y7.2.at_ 3 (q)) 0 (by omega) 1) (rM_cl U (rRef U y7.2.at_ 3 (q))) ⟨oS,oS,trivial⟩ ?_
     refine vv ?_
     exact RetQ.of hR rfl (vv trivial) rvr (sub_sh (SubS.sub ⟨oS,oS,trivial⟩)) (clm_sh (rM_cl U (rRef U 0 1 (rRef U y7.2.at_ 3 (q))))) (ClV.of rfl)
  |true=>
   cases hk:(hereP U q).k==4 with
   |true=>
    have hcs:rCol U f s q=(s,q):=by cases f with|zero=>rfl|succ f=>rw[rCol,he,hk];rfl
    rw[hre,hx,hcs]at hR
    refine Sm.dg 200 14 mix ?_
    simp(maxSteps:=2000000) only[go_sem,he,t0,ek,hk,bne]
    refine⟨⟨by omega,by omega⟩,?_⟩
    cases hs:s==[]with
    |true=>
     refine CallQ.mi 290 (rfail_ U hU q hq) (rM_cl U (q)) ⟨oS,oS,trivial⟩ ?_
     refine vv ?_
     have hw:(bif q.e==0&&s==[]then wrnP U q else q)=(wrnP U q):=by rw[he,hs];rfl
     unfold rUn2 at hR
     dsimp only at hR
     rw[hw]at hR
     have hpr:=rParse_ s (by omega)
     generalize prs s=z at*
     refine CallQ.pure 300 hpr rfl ?_
     refine vv ?_
     cases hz:z.2==0 with
     |true=>
      rw[hz]at hR
      simp only[cond_true]at hR
      simp(maxSteps:=2000000) only[go_sem,hz,bne]
      refine CallQ.pure 320 (rType_ (mkFt y3.1 false y5.1 y6.1 y7.1 z.1)) rfl ?_
      cases hfk:fok (mkFt y3.1 false y5.1 y6.1 y7.1 z.1)with
      |true=>
       rw[hfk]at hR
       refine vv ?_
       exact RetQ.of hR rfl (vv trivial) rvr (sub_sh (SubS.sub ⟨oS,oS,trivial⟩)) (clm_sh (rM_cl U ((wrnP U q)))) (ClV.of rfl)
      |false=>
       rw[hfk]at hR
       refine vv ?_
       refine CallQ.mi 330 (refuse_ U hU ((wrnP U q)) 0 (by omega) 1) (rM_cl U ((wrnP U q))) ⟨oS,oS,trivial⟩ ?_
       refine vv ?_
       exact RetQ.of hR rfl (vv trivial) rvr (sub_sh (SubS.sub ⟨oS,oS,trivial⟩)) (clm_sh (rM_cl U (rRef U 0 1 ((wrnP U q))))) (ClV.of rfl)
     |false=>
      rw[hz]at hR
      simp only[cond_false]at hR
      simp(maxSteps:=2000000) only[go_sem,hz,bne]
      refine CallQ.mi 310 (refuse_ U hU ((wrnP U q)) y7.2.at_ h7 3) (rM_cl U ((wrnP U q))) ⟨oS,oS,trivial⟩ ?_
      refine vv ?_
      refine CallQ.pure 320 (rType_ (mkFt y3.1 false y5.1 y6.1 y7.1 z.1)) rfl ?_
      cases hfk:fok (mkFt y3.1 false y5.1 y6.1 y7.1 z.1)with
      |true=>
       rw[hfk]at hR
       refine vv ?_
       exact RetQ.of hR rfl (vv trivial) rvr (sub_sh (SubS.sub ⟨oS,oS,trivial⟩)) (clm_sh (rM_cl U (rRef U y7.2.at_ 3 ((wrnP U q))))) (ClV.of rfl)
      |false=>
       rw[hfk]at hR
       refine vv ?_
       refine CallQ.mi 330 (refuse_ U hU (rRef U y7.2.at_ 3 ((wrnP U q))) 0 (by omega) 1) (rM_cl U (rRef U y7.2.at_ 3 ((wrnP U q)))) ⟨oS,oS,trivial⟩ ?_
       refine vv ?_
       exact RetQ.of hR rfl (vv trivial) rvr (sub_sh (SubS.sub ⟨oS,oS,trivial⟩)) (clm_sh (rM_cl U (rRef U 0 1 (rRef U y7.2.at_ 3 ((wrnP U q)))))) (ClV.of rfl)
    |false=>
     have hw:(bif q.e==0&&s==[]then wrnP U q else q)=q:=by rw[he,hs];rfl
     unfold rUn2 at hR
     dsimp only at hR
     rw[hw]at hR
     have hpr:=rParse_ s (by omega)
     generalize prs s=z at*
     refine CallQ.pure 300 hpr rfl ?_
     refine vv ?_
     cases hz:z.2==0 with
     |true=>
      rw[hz]at hR
      simp only[cond_true]at hR
      simp(maxSteps:=2000000) only[go_sem,hz,bne]
      refine CallQ.pure 320 (rType_ (mkFt y3.1 false y5.1 y6.1 y7.1 z.1)) rfl ?_
      cases hfk:fok (mkFt y3.1 false y5.1 y6.1 y7.1 z.1)with
      |true=>
       rw[hfk]at hR
       refine vv ?_
       exact RetQ.of hR rfl (vv trivial) rvr (sub_sh (SubS.sub ⟨oS,oS,trivial⟩)) (clm_sh (rM_cl U (q))) (ClV.of rfl)
      |false=>
       rw[hfk]at hR
       refine vv ?_
       refine CallQ.mi 330 (refuse_ U hU (q) 0 (by omega) 1) (rM_cl U (q)) ⟨oS,oS,trivial⟩ ?_
       refine vv ?_
       exact RetQ.of hR rfl (vv trivial) rvr (sub_sh (SubS.sub ⟨oS,oS,trivial⟩)) (clm_sh (rM_cl U (rRef U 0 1 (q)))) (ClV.of rfl)
     |false=>
      rw[hz]at hR
      simp only[cond_false]at hR
      simp(maxSteps:=2000000) only[go_sem,hz,bne]
      refine CallQ.mi 310 (refuse_ U hU (q) y7.2.at_ h7 3) (rM_cl U (q)) ⟨oS,oS,trivial⟩ ?_
      refine vv ?_
      refine CallQ.pure 320 (rType_ (mkFt y3.1 false y5.1 y6.1 y7.1 z.1)) rfl ?_
      cases hfk:fok (mkFt y3.1 false y5.1 y6.1 y7.1 z.1)with
      |true=>
       rw[hfk]at hR
       refine vv ?_
       exact RetQ.of hR rfl (vv trivial) rvr (sub_sh (SubS.sub ⟨oS,oS,trivial⟩)) (clm_sh (rM_cl U (rRef U y7.2.at_ 3 (q)))) (ClV.of rfl)
      |false=>
       rw[hfk]at hR
       refine vv ?_
       refine CallQ.mi 330 (refuse_ U hU (rRef U y7.2.at_ 3 (q)) 0 (by omega) 1) (rM_cl U (rRef U y7.2.at_ 3 (q))) ⟨oS,oS,trivial⟩ ?_
       refine vv ?_
       exact RetQ.of hR rfl (vv trivial) rvr (sub_sh (SubS.sub ⟨oS,oS,trivial⟩)) (clm_sh (rM_cl U (rRef U 0 1 (rRef U y7.2.at_ 3 (q))))) (ClV.of rfl)
   |false=>
    obtain⟨f',rfl⟩:∃f',f=f'+1:=⟨f-1,by omega⟩
    have hcs:rCol U (f'+1) s q=rCol U f' (s++(hereP U q).s) (advP q):=by rw[rCol,he,hk];rfl
    rw[hcs]at hx
    have ha:=(adv_on V.g hq (by simpa using hk)).1.2
    refine Sm.dg 200 14 mix ?_
    simp(maxSteps:=2000000) only[go_sem,he,t0,ek,hk,bne]
    refine⟨⟨by omega,by omega⟩,?_⟩
    refine Sm.dg 200 12 mix ?_
    simp(maxSteps:=2000000) only[go_sem,t1,aP hU hq]
    refine⟨⟨by omega,by omega⟩,by omega,?_⟩
    refine hb _ _ ⟨(s++(hereP U q).s,advP q),ha,by show(s++(hereP U q).s).length+lenS (U.drop (q.at_+1))≤_;rw[List.length_append];omega,f',by show U.length≤q.at_+1+f';omega,hx⟩ [(1,1),(2,2),(100,100),(110,110)] (by show U.length-(q.at_+1)<_;omega) ?_
    exact⟨rfl,⟨⟨rfl,rfl⟩,⟨rfl,rfl⟩,trivial⟩,⟨rfl,rfl,rfl,rfl,rfl,trivial⟩,⟨oR,oV (renV (rowsC_isV _)),oR,oR,trivial⟩⟩
end Go.Proofs.YtlnpgbnhcondjaaGreatDoor.Fx
