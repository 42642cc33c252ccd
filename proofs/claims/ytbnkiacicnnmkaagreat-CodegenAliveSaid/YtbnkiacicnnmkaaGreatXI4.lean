/-  -/
import Derived.Test.YtbnkiacicnnmkaaGreatG0
open Go.Proofs.Tryz
open Go.Proofs.Tryz renaming prog→KI
set_option linter.unusedSimpArgs false
set_option linter.unusedVariables false
set_option maxRecDepth 100000
set_option maxHeartbeats 4000000
namespace Go.Proofs.YtbnkiacicnnmkaaGreat.Fx
open Vg Tf
theorem Y7 (s t:Str)(hs:s.length<=9223372036854775807)(ht:t.length<=9223372036854775807):CallOk KI 263 [S s,S t] [] (Bo (bif decide (t.length<=s.length)then s.drop (s.length-t.length)==t else false)) []:=by
 refine kN 100 func263 WL ntmps263 fun C hR hP=>?_
 refine vv ?_
 by_cases h:t.length<=s.length
 ·have e1:decide ((t.length:Int)<=(s.length:Int))=true:=yQ zA
  have e2:decide (t.length<=s.length)=true:=by simpa using h
  have e3:IntKind.i64.wrap ((s.length:Int)-t.length)=((s.length-t.length:Nat):Int):=by rw[y8 zA zA];omega
  simp only[go_sem,e1,e3,Int.toNat_natCast]
  refine⟨zA,?_⟩
  refine zu hR ?_
  rw[e2,cond_true,Nw zd]
 ·have e1:decide ((t.length:Int)<=(s.length:Int))=false:=yZ zA
  have e2:decide (t.length<=s.length)=false:=by simpa using h
  simp only[go_sem,e1]
  exact RetQ.bool hR rfl y6 (by rw[e2];rfl)
theorem SC (s t:Str)(hs:s.length<=9223372036854775807)(ht:t.length<=9223372036854775807):CallOk KI 218 [S s,S t] [] (Bo (bif decide (t.length<=s.length)then s.drop (s.length-t.length)==t else false)) []:=by
 refine kN 100 func218 Wp ntmps218 fun C hR hP=>?_
 refine vv ?_
 refine CallQ.pure 110 (Y7 s t hs ht) rfl (vv ?_)
 exact zu hR rfl
def gL:List (Str×Str×Int):=[([],[],0),([99,111,110,115,116],[65,75],1),([108,111,97,100],[65,75],2),([115,116,111,114,101],[65,75],2),([109,111,118,101],[65,66],1),([97,100,100],[65,66,67,75],3),([115,117,98],[65,66,67,75],3),([109,117,108],[65,66,67,75],4),([100,105,118],[65,66,67,75],12),([110,101,103],[65,66,75],3),([99,111,110,118,101,114,116],[65,66,75],4),([109,105,110],[65,66,67],1),([109,97,120],[65,66,67],1),([108,101,115,115],[65,66,67,75],3),([101,113,117,97,108],[65,66,67,75],4),([98,101,108,111,119],[65,66,67],1),([97,110,100],[65,66,67],1),([111,114],[65,66,67],1),([110,111,116],[65,66],1),([115,101,108,101,99,116],[65,66,67,75],2),([99,117,114,118,101],[65,66,75],20),([109,97,112],[65,66,67,75],40),([108,97,103],[65,66,75],8)]
def gM (r:Str×Str×Int):List Cv:=[.v (sv r.1),.v (sv r.2.1),.v (iv r.2.2)]
def nF:List Cv:=gL.flatMap gM
theorem ZG:CallOk KI 43 [] [] (.c (.sl 1 0 23 3)) [(1,⟨false,nF,107⟩)]:=by
 refine kN 100 func43 Rc ntmps43 fun C hR hP=>?_
 simp only[go_sem,List.range_zero,Nu,Nt,Nk,Nm,M4,MR]
 exact RetQ.ren [(1,100)] hR hP rfl y6 rfl rfl trivial ⟨oR,trivial⟩ (zD rfl) (zH rfl)
theorem mb (n:Nat)(h:n<23):(nF.drop (n*3)).take 3=gM (gL.getD n ([],[],0)):=by
 have:∀m,m<23->(nF.drop (m*3)).take 3=gM (gL.getD m ([],[],0)):=by
  intro m hm
  match m,hm with
  |0,_=>rfl
  |1,_=>rfl
  |2,_=>rfl
  |3,_=>rfl
  |4,_=>rfl
  |5,_=>rfl
  |6,_=>rfl
  |7,_=>rfl
  |8,_=>rfl
  |9,_=>rfl
  |10,_=>rfl
  |11,_=>rfl
  |12,_=>rfl
  |13,_=>rfl
  |14,_=>rfl
  |15,_=>rfl
  |16,_=>rfl
  |17,_=>rfl
  |18,_=>rfl
  |19,_=>rfl
  |20,_=>rfl
  |21,_=>rfl
  |22,_=>rfl
  |n+23,h=>exact absurd h zA
 exact this n h
theorem jZ:nF.length=69:=rfl
theorem gK (n:Nat)(h1:1<=n)(h:n<23):(gL.getD n ([],[],0)).2.1=ya n:=by
 match n,h1,h with
 |1,_,_=>rfl
 |2,_,_=>rfl
 |3,_,_=>rfl
 |4,_,_=>rfl
 |5,_,_=>rfl
 |6,_,_=>rfl
 |7,_,_=>rfl
 |8,_,_=>rfl
 |9,_,_=>rfl
 |10,_,_=>rfl
 |11,_,_=>rfl
 |12,_,_=>rfl
 |13,_,_=>rfl
 |14,_,_=>rfl
 |15,_,_=>rfl
 |16,_,_=>rfl
 |17,_,_=>rfl
 |18,_,_=>rfl
 |19,_,_=>rfl
 |20,_,_=>rfl
 |21,_,_=>rfl
 |22,_,_=>rfl
 |n+23,_,h=>exact absurd h zA
def wQ (op k:Int):Bool:=
 bif op==1 then decide (-1099511627776<=k/\k<=1099511627776)else
 bif op==19 then decide (0<=k/\k<16)else
 bif tI op then decide (0<=k/\k<2097152/\(k/128%128=0\/(op≠9/\op≠10))/\(k%128=0\/(op≠13/\op≠14)))else
 bif op==22 then decide (0<=k/\k<=32767/\k%32<=20)else decide (0<=k/\k<=32767)
theorem Ux (y:Int):bits .and .i64 y 31=y%32:=by
 have h1:(BitVec.ofInt 64 y).toNat=(y%18446744073709551616).toNat:=by rw[BitVec.toNat_ofInt];rfl
 show IntKind.i64.wrap ((BitVec.ofInt 64 y&&& BitVec.ofInt 64 31).toNat:Int)=_
 have e:∀n:Nat,n&&& 31=n%32:=fun n=>Nat.and_two_pow_sub_one_eq_mod n 5
 rw[BitVec.toNat_and,h1,show(BitVec.ofInt 64 31).toNat=31 by decide,e,y8 zA zA]
 omega
theorem jq (i:Ins):CallOk KI 219 [ze i.w] [] (Bo (wQ i.op i.k)) []:=by
 rw[xl]
 refine kN 100 func219 Wo ntmps219 fun C hR hP=>?_
 refine vv ?_
 refine CallQ.pure 110 (iz i.k) rfl (vv ?_)
 cases h1:(i.op==1)with
 |true=>
  have hc:wQ i.op i.k=decide (-1099511627776<=i.k/\i.k<=1099511627776):=by unfold wQ;rw[h1,cond_true]
  rw[hc]at hR
  refine zu hR ?_
  rw[MD];simp only[MK,decide_eq_true_eq];grind
 |false=>
 cases h2:(i.op==19)with
 |true=>
  have hc:wQ i.op i.k=decide (0<=i.k/\i.k<16):=by unfold wQ;rw[h1,cond_false,h2,cond_true]
  rw[hc]at hR
  refine zu hR ?_
  rw[MD];simp only[MK,decide_eq_true_eq];grind
 |false=>
 simp only
 refine CallQ.pure 130 (iu i.op) rfl (vv ?_)
 cases h3:tI i.op with
 |true=>
  have hc:wQ i.op i.k=decide (0<=i.k/\i.k<2097152/\(i.k/128%128=0\/(i.op≠9/\i.op≠10))/\(i.k%128=0\/(i.op≠13/\i.op≠14))):=by unfold wQ;rw[h1,cond_false,h2,cond_false,h3,cond_true]
  rw[hc]at hR
  show _/\_/\_/\_/\_
  have hA:(bif decide (0<=i.k)then decide (i.k<2097152)else false)=decide (0<=i.k/\i.k<2097152):=by rw[MD];simp only[MK,decide_eq_true_eq];grind
  rw[hA]
  refine⟨?_,?_,?_,?_,?_⟩
  ·intro h;simp at h⊢;exact⟨h,fun h'=>⟨h,h'⟩⟩
  ·intro h;simp at h⊢;exact⟨h,fun h'=>⟨h,h'⟩⟩
  ·intro h;simp at h⊢;exact⟨h,fun h'=>⟨h,h'⟩⟩
  ·intro h;simp at h⊢;exact⟨h,fun h'=>⟨h,h'⟩⟩
  refine zu hR ?_
  rw[MD];simp only[MK,decide_eq_true_eq,bne_iff_ne,beq_iff_eq];grind
 |false=>
 cases h4:(i.op==22)with
 |true=>
  have hc:wQ i.op i.k=decide (0<=i.k/\i.k<=32767/\i.k%32<=20):=by unfold wQ;rw[h1,cond_false,h2,cond_false,h3,cond_false,h4,cond_true]
  rw[hc]at hR
  refine zu hR ?_
  rw[Ux,MD];simp only[MK,decide_eq_true_eq];grind
 |false=>
  have hc:wQ i.op i.k=decide (0<=i.k/\i.k<=32767):=by unfold wQ;rw[h1,cond_false,h2,cond_false,h3,cond_false,h4,cond_false]
  rw[hc]at hR
  refine zu hR ?_
  rw[MD];simp only[MK,decide_eq_true_eq];grind
def iq (s:Str)(c:Int):Bool:=s.any fun b=>(b.toNat:Int)==c
theorem io (s:Str)(c:Int)(hs:s.length<=1000):CallOk KI 90 [S s,U8 c] [] (Bo (iq s c)) []:=by
 refine kN 100 func90 Sr ntmps90 fun C hR hP=>?_
 refine vv ?_
 refine zL (α:={i:Nat//i<=s.length/\(s.drop i).any (fun b=>(b.toNat:Int)==c)=iq s c}) hP (fun i=>[(0,true,S s),(1,true,U8 c),(5,true,I i.val)]) (fun _=>[]) (fun i=>s.length-i.val) ⟨0,zA,by rw[M5];rfl⟩ (fun _=>ClM.nil) (fun _=>zP rfl) [] ?_ ?_
 ·exact zk
 rintro⟨i,hi,hd⟩ J hj
 simp only at hj hi⊢
 refine zB 200 (vv ?_)
 refine zY (fun hc=>?_) (fun hc=>?_)
 ·have hc:=zI hc
  rw[Np hc,List.any_cons]at hd
  have hg:s.getD i 0=s[i]:=by rw[Nl,No hc];rfl
  have hwi:IntKind.i64.wrap ((i:Int)+1)=((i+1:Nat):Int):=wS zA
  simp only[go_sem,Int.toNat_natCast,hg]
  refine⟨⟨zA,zA⟩,?_⟩
  refine zY (fun he=>?_) (fun he=>?_)
  ·rw[he,Bool.true_or]at hd
   exact zu hR hd
  ·rw[he,Ll]at hd
   simp only[go_sem,hwi]
   exact hj _ _ ⟨i+1,hc,hd⟩ [] yK zk
 ·have hc:=zJ hi hc
  subst hc
  rw[Ny]at hd
  refine vv ?_
  exact zu hR hd
def dg (n:Nat):List Nat:=if h:n=0 then[]else n%(16777216:Nat)::dg (n/(16777216:Nat))
termination_by n
decreasing_by exact Nat.div_lt_self zA xW
abbrev dC (d:Nat):Cv:= .v (.int .i64 (d:Int))
@[reducible] def bn (nm:Nat)(n:Int):V:= .agg [.v (.bool (decide (n<0))),.sl nm 0 (dg n.natAbs).length 1]
@[go_sem ↓] theorem PR:rB 1 1=[(0,1)]:=rfl
@[reducible] def sg (neg:Bool)(m:Nat):Int:=bif neg then-(m:Int)else m
@[reducible] def bs (nm:Nat)(neg:Bool)(a:Nat):V:= .agg [.v (.bool neg),.sl nm 0 (dg a).length 1]
@[go_sem] theorem QH (f:Nat->Nat)(l:List Nat):List.map (Cv.ren f) (List.map dC l)=List.map dC l:=by simp[Function.comp_def,Cv.ren]
@[go_sem] def bW (nm:Nat)(n:Int):W:= .agg [.v (.bool (decide (n<0))),.sl nm 0 (dg n.natAbs).length 1]
theorem XV (x:Int):CallOk KI 166 [I x] [] (Bo (decide (-9<=x/\x<=9))) []:=by
 refine kO 100 func166 V6 ntmps166 (by simp[ClV,V.g,Cv.g]) fun C hR=>?_
 refine vv ?_
 refine zu hR ?_
 rw[MD]
 simp only[MK,decide_eq_true_eq]
 grind
theorem Ya (m kg s a k:Int):CallOk KI 84 [un m kg s a k] [] (Bo (wI m kg s a k)) []:=by
 refine kO 100 func84 Sz ntmps84 (by simp[ClV,V.g,Cv.g,un,ci]) fun C hR=>?_
 refine vv ?_
 refine CallQ.pure 101 (XV m) rfl (vv ?_)
 refine CallQ.guard 101 (fun _=>XV kg) (fun h=>by rw[h];rfl) (vv ?_)
 refine CallQ.guard 101 (fun _=>XV s) (fun h=>by rw[h];rfl) (vv ?_)
 refine CallQ.guard 101 (fun _=>XV a) (fun h=>by rw[h];rfl) (vv ?_)
 refine CallQ.guard 101 (fun _=>XV k) (fun h=>by rw[h];rfl) (vv ?_)
 refine zu hR ?_
 unfold wI
 rw[MD]
 simp only[MK,decide_eq_true_eq]
 grind
theorem aj (t:Ft):CallOk KI 34 [fx t] [] (Bo (fok t)) []:=by
 refine kO 100 func34 Rk ntmps34 (by simp[ClV,V.g,Cv.g,fx,ci]) fun C hR=>?_
 refine vv ?_
 by_cases hb:t.bits=8\/t.bits=16\/t.bits=32
 ·have e:(bif bif t.bits !=8 then t.bits !=16 else false then t.bits !=32 else false)=false:=by
   rcases hb with h|h|h<;>rw[h]<;>rfl
  simp only[e]
  refine CallQ.guard 101 (fun _=>Ya t.m t.kg t.s t.a t.k) (fun h=>by rw[h];rfl) (vv ?_)
  refine zu hR ?_
  unfold fok
  rw[MD]
  simp only[MK,Ns,decide_eq_true_eq,beq_iff_eq]
  generalize wI t.m t.kg t.s t.a t.k=u
  grind
 ·have e:(bif bif t.bits !=8 then t.bits !=16 else false then t.bits !=32 else false)=true:=by
   have e1:(t.bits !=8)=true:=by simp;omega
   have e2:(t.bits !=16)=true:=by simp;omega
   have e3:(t.bits !=32)=true:=by simp;omega
   rw[e1,e2,e3];rfl
  simp only[e]
  refine zu hR ?_
  unfold fok
  simp[hb]
@[go_sem ↓] theorem PP:rB 5 1=[(0,1),(1,1),(2,1),(3,1),(4,1)]:=rfl
@[reducible] def l5 (r:Bool)(nm:Nat)(m kg s a k:Int):Nat×Bk:=(nm,⟨r,[ci m,ci kg,ci s,ci a,ci k],3⟩)
theorem mY (m kg s a k:Int):CallOk KI 224 [un m kg s a k] [] (.c (.sl 1 0 5 1)) [l5 false 1 m kg s a k]:=by
 refine kN 100 func224 Wl ntmps224 fun C hR hP=>?_
 refine vv ?_
 exact RetQ.ren [(1,101)] hR hP rfl (vv trivial) rfl rfl trivial ⟨oR,trivial⟩ (zD rfl) (zH rfl)
theorem Ti (m kg s a k:Int):CallOk KI 225 [.c (.sl 1 0 5 1)] [l5 true 1 m kg s a k] (un m kg s a k) []:=by
 refine kN 100 func225 Wj ntmps225 fun C hR hP=>?_
 refine vv ?_
 refine Sm.dg 101 15 zw (vv ?_)
 exact zU hR rfl (vv trivial) rfl (Sub.one rfl (.inl rfl)) (zD rfl) (zH rfl)
theorem tH (m kg s a k:Int):CallOk KI 223 [un m kg s a k] [] (Bo (wI m kg s a k)) []:=by
 refine kO 100 func223 Wm ntmps223 (by simp[ClV,V.g,Cv.g,un,ci]) fun C hR=>?_
 refine vv ?_
 refine CallQ.ren [(1,110)] 111 (mY m kg s a k) (zD rfl) rfl rfl trivial rfl (.inl rfl) ?_
 simp only[Mem.ren,Nk,Nm,Bk.ren,MZ,V.ren,W.ren,Cv.ren,rn,Nat.reduceBEq,cond_true,cond_false,Function.comp_def]
 refine vv ?_
 refine zi 6 (zB 120 ?_)
 refine vv ?_
 have key:∀(x:Int) (A B:Prop),(¬(-9<=x/\x<=9)->A)->((-9<=x/\x<=9)->B)->(match (bif decide (x< -9)then true else decide (9<x))with|true=>A|false=>B):=by
  intro x A B h1 h2
  by_cases hx: -9<=x/\x<=9
  ·have e1:decide (x< -9)=false:=by simp;omega
   have e2:decide (9<x)=false:=by simp;omega
   rw[e1,e2];exact h2 hx
  ·have:(bif decide (x< -9)then true else decide (9<x))=true:=by
    by_cases h3:x< -9
    ·simp[h3]
    ·simp[h3];omega
   rw[this];exact h1 hx
 refine key m _ _ (fun h=>RetQ.bool hR rfl ⟨rfl,trivial⟩ (by unfold wI;simp[h])) fun h0=>?_
 refine key kg _ _ (fun h=>RetQ.bool hR rfl ⟨rfl,trivial⟩ (by unfold wI;simp[h])) fun h1=>?_
 refine key s _ _ (fun h=>RetQ.bool hR rfl ⟨rfl,trivial⟩ (by unfold wI;simp[h])) fun h2=>?_
 refine key a _ _ (fun h=>RetQ.bool hR rfl ⟨rfl,trivial⟩ (by unfold wI;simp[h])) fun h3=>?_
 refine key k _ _ (fun h=>RetQ.bool hR rfl ⟨rfl,trivial⟩ (by unfold wI;simp[h])) fun h4=>?_
 exact RetQ.bool hR rfl ⟨rfl,trivial⟩ (by unfold wI;simp[h0,h1,h2,h3,h4])
theorem qr (t u:Ft)(s:Int)(hs:s=1\/s= -1)(h:wI t.m t.kg t.s t.a t.k=true)(hu:wI u.m u.kg u.s u.a u.k=true):
  CallOk KI 167 [sL t,sL u,I s] [] (bif qf s t u then .tup [.agg [ci (t.m+s*u.m),ci (t.kg+s*u.kg),ci (t.s+s*u.s),ci (t.a+s*u.a),ci (t.k+s*u.k)],Wi 0]else .tup [.agg [ci 0,ci 0,ci 0,ci 0,ci 0],Wi 2]) []:=by
 have b1:=rk h
 have b2:=rk hu
 have hv:=tH t.m t.kg t.s t.a t.k
 rw[h]at hv
 have hv2:=tH u.m u.kg u.s u.a u.k
 rw[hu]at hv2
 have wr:∀x y:Int, -9<=x->x<=9-> -9<=y->y<=9->IntKind.i64.wrap (x+IntKind.i64.wrap (s*y))=x+s*y:=by
  intro x y h1 h2 h3 h4
  rcases hs with rfl|rfl
  ·rw[y8 (x:=1*y) zA zA,y8 zA zA]
  ·rw[y8 (x:= -1*y) zA zA,y8 zA zA]
 refine kO 100 func167 V5 ntmps167 (by simp[ClV,V.g,Cv.g,sL,ci]) fun C hR=>?_
 refine vv ?_
 refine CallQ.pure 104 hv rfl (vv ?_)
 refine CallQ.pure 104 hv2 rfl (vv ?_)
 refine Sm.dg 112 3 zw (vv ?_)
 refine DCallQ.ren [(1,110)] 112 (mY t.m t.kg t.s t.a t.k) (zD rfl) rfl rfl trivial rfl (.inl rfl) rfl rfl ?_
 simp only[Mem.ren,Nk,Nm,Bk.ren,MZ,V.ren,W.ren,Cv.ren,rn,Nat.reduceBEq,cond_true,cond_false,Function.comp_def]
 refine vv ?_
 refine CallQ.ren [(1,111)] 112 (mY u.m u.kg u.s u.a u.k) (zD rfl) rfl rfl trivial rfl (.inl rfl) ?_
 simp only[Mem.ren,Nk,Nm,Bk.ren,MZ,V.ren,W.ren,Cv.ren,rn,Nat.reduceBEq,cond_true,cond_false,Function.comp_def]
 refine vv ?_
 refine zi 6 (zB 112 ?_)
 refine vv ?_
 have w1:=wr t.m u.m zA zA zA zA
 have w2:=wr t.kg u.kg zA zA zA zA
 have w3:=wr t.s u.s zA zA zA zA
 have w4:=wr t.a u.a zA zA zA zA
 have w5:=wr t.k u.k zA zA zA zA
 refine Sm.dg 112 13 zw (vv ?_)
 simp only[w1]
 refine Sm.dg 112 13 zw (vv ?_)
 simp only[w2]
 refine Sm.dg 112 13 zw (vv ?_)
 simp only[w3]
 refine Sm.dg 112 13 zw (vv ?_)
 simp only[w4]
 refine Sm.dg 112 13 zw (vv ?_)
 simp only[w5]
 refine CallQ.ren [(1,110)] 112 (Ti (t.m+s*u.m) (t.kg+s*u.kg) (t.s+s*u.s) (t.a+s*u.a) (t.k+s*u.k)) (zD rfl) rfl rfl ⟨⟨_,rfl,.inr ⟨rfl,[],rfl⟩⟩,trivial⟩ rfl (.inr rfl) ?_
 simp only[Mem.ren,Nk,Nm,Bk.ren,MZ,V.ren,W.ren,Cv.ren,rn,Nat.reduceBEq,cond_true,cond_false,Function.comp_def]
 refine vv ?_
 refine CallQ.pure 113 (tH (t.m+s*u.m) (t.kg+s*u.kg) (t.s+s*u.s) (t.a+s*u.a) (t.k+s*u.k)) rfl (vv ?_)
 unfold qf at hR
 cases hc:wI (t.m+s*u.m) (t.kg+s*u.kg) (t.s+s*u.s) (t.a+s*u.a) (t.k+s*u.k)with
 |false=>
  rw[hc]at hR
  refine vv ?_
  exact RetQ.pure hR rfl (vv trivial) wq (zH rfl)
 |true=>
  rw[hc]at hR
  refine vv ?_
  exact RetQ.pure hR rfl (vv trivial) wq (zH rfl)
end Go.Proofs.YtbnkiacicnnmkaaGreat.Fx
