/-  -/
import Derived.Test.YtlnpgbnhcondjaaGreatDoorPS
import Derived.Test.YtlnpgbnhcondjaaGreatDoorQ0
import Derived.Test.YtlnpgbnhcondjaaGreatDoorMB
namespace Go.Proofs.YtlnpgbnhcondjaaGreatDoor.Fx
open Vg Tf
set_option linter.unusedSimpArgs false
set_option linter.unusedVariables false
set_option maxRecDepth 100000
set_option maxHeartbeats 4000000
theorem _root_.Go.Proofs.YtlnpgbnhcondjaaGreatDoor.Vg.CallX.mkS {H:Hp}{P:Program}{f:FuncId}{fn:Func}{body:Code}{args:List V}{M:Mem}{α:Type}{v:α→V}{N:α→Mem}{Q:α→Hp→Prop}(hf:P.funcs[f]?=some fn)(hb:fn.body=some body)(hent:Enters P f)(hnt:args.length≤fn.ntmps)(hcl:∀x∈args,ClV M x)
  (hN:∀x,(N x).all (fun p=> !p.2.ro||(M.get p.1).isSome)=true) (hU:∀x,(N x).all (fun p=>match M.get p.1 with|some b=> !b.ro|none=>true)=true)
  (h:∀C,(∀x Cn,Lf C Cn→Q x Cn.hp→RetOk P Cn fn (v x) (N x++M))→Pins C.S M→H.le C.hp→Lf C C→Sm P fn.ntmps C [.code body] (initE 0 args) M):CallX H P f args M v N Q:=
 CallX.intro hf hb hent hnt (fun x n b h h0=>by have:=List.all_eq_true.1 (hN x) (n,b) (Mem.mem_of_get h);simpa[h0]using this)
  (fun x n b b' h h'=>by have:=List.all_eq_true.1 (hU x) (n,b) (Mem.mem_of_get h);simp only[h']at this;simpa using this) hcl h
theorem _root_.Go.Proofs.YtlnpgbnhcondjaaGreatDoor.Vg.CallH.mkS {H:Hp}{P:Program}{f:FuncId}{fn:Func}{body:Code}{args:List V}{v:V}(hf:P.funcs[f]?=some fn)(hb:fn.body=some body)(hent:Enters P f)(hnt:args.length≤fn.ntmps)(hcl:∀x∈args,ClV [] x)
  (h:∀C,(∀Cn,Lf C Cn→RetOk P Cn fn v [])→Pins C.S []→H.le C.hp→Lf C C→Sm P fn.ntmps C [.code body] (initE 0 args) []):CallH H P f args v:=
 CallX.mkS hf hb hent hnt hcl (fun _=>rfl) (fun _=>rfl) fun C hR hP hH hL=>h C (fun Cn hl=>hR () Cn hl trivial) hP hH hL
theorem _root_.Go.Proofs.YtlnpgbnhcondjaaGreatDoor.Vg.CallOk.toX {H:Hp}{P:Program}{f:FuncId}{args:List V}{M N:Mem}{v:V}(h:CallOk P f args M v N):CallX H P f args M (fun _:Unit=>v) (fun _=>N) (fun _ _=>True):=by
 obtain⟨h1,h2,h3,h4⟩:=h
 refine⟨h1,fun _=>h2,fun _=>h3,fun β w Z hm _ _=>(h4 β w hm).mono ?_⟩
 rintro en w' ⟨β',k1,k2,k3,k4,k5⟩
 exact⟨(),β',fun _ _=>False,k1,k2,k3,k4,k5,fun _ _ h=>h.elim,trivial⟩
theorem _root_.Go.Proofs.YtlnpgbnhcondjaaGreatDoor.Vg.CallOk.toH {H:Hp}{P:Program}{f:FuncId}{args:List V}{v:V}(h:CallOk P f args [] v []):CallH H P f args v:=h.toX
theorem _root_.Go.Proofs.YtlnpgbnhcondjaaGreatDoor.Vg.CallX.mono {H H':Hp}{P:Program}{f:FuncId}{args:List V}{M:Mem}{α:Type}{v:α→V}{N:α→Mem}{Q:α→Hp→Prop}(h:CallX H P f args M v N Q)(hl:H.le H'):CallX H' P f args M v N Q:=
 ⟨h.1,h.2.1,h.2.2.1,fun β w Z hm hH hZ=>h.2.2.2 β w Z hm (fun b o hb=>hH b o (hl b o hb)) hZ⟩
theorem _root_.Go.Proofs.YtlnpgbnhcondjaaGreatDoor.Vg.Sm.bringR {P:Program}{nt:Nat}{C:Cx}{todo:List It}{e:Env}{M:Mem}{v:Value}{sz:Nat}{rows:List (List Value)}(nm:Nat)(el:TypeId)(t:Nat){g:Bool}(h:SlH C.hp v sz rows)(hn:M.get nm=none)(hx:e.get t=some (g,.c (.v v)))
  (k:Sm P nt C todo ((t,g,.c (.sl nm 0 rows.length sz))::e) ((nm,⟨true,rowsC rows,el⟩)::M)):Sm P nt C todo e M:=Sm.bring nm el t h hn hx k
theorem wS {i:Nat}(h:i≤1000000000000000000):IntKind.i64.wrap ((i:Int)+1)=((i+1:Nat):Int):=by rw[w64 (by omega) (by omega)];omega
theorem lt_of_dec {i n:Nat}(h:decide ((i:Int)<(n:Int))=true):i<n:=by have:=of_decide_eq_true h;omega
theorem eq_of_dec {i n:Nat}(hi:i≤n)(h:decide ((i:Int)<(n:Int))=false):i=n:=by have:=of_decide_eq_false h;omega
def ixF {α:Type}(p:α→Bool):List α→Int→Int
 |[],_=> -1
 |x::l,k=>bif p x then k else ixF p l (k+1)
theorem ixF_step {α:Type}(p:α→Bool)(l:List α)(i:Nat)(h:i<l.length)(k:Int):ixF p (l.drop i) k=bif p l[i]then k else ixF p (l.drop (i+1)) (k+1):=by
 rw[List.drop_eq_getElem_cons h];rfl
theorem ixF_any {α:Type}(p:α→Bool):∀(l:List α) (k:Int),0≤k→decide (0≤ixF p l k)=l.any p
 |[],k,_=>by simp[ixF]
 |x::l,k,h=>by
  rw[ixF,List.any_cons]
  cases p x with
  |true=>simp[h]
  |false=>rw[cond_false,Bool.false_or];exact ixF_any p l (k+1) (by omega)
@[reducible] def sC (s:Str):Cv:= .v (.string ⟨s.toArray⟩)
@[reducible] def iC (n:Int):Cv:= .v (.int .i64 n)
theorem strsC (l:List Str):rowsC (strsR l)=l.map sC:=by
 unfold rowsC strsR
 induction l with
 |nil=>rfl
 |cons x l ih=>simpa using ih
theorem intsC (l:List Int):rowsC (intsR l)=l.map iC:=by
 unfold rowsC intsR
 induction l with
 |nil=>rfl
 |cons x l ih=>simpa using ih
theorem v_sC (l:List Str):(l.map sC).all Cv.isV=true:=by simp[Cv.isV]
theorem v_iC (l:List Int):(l.map iC).all Cv.isV=true:=by simp[Cv.isV]
theorem get_sC {l:List Str}{i:Nat}(h:i<l.length):(l.map sC)[i]?=some (sC l[i]):=by simp[h]
theorem get_iC {l:List Int}{i:Nat}(h:i<l.length):(l.map iC)[i]?=some (iC l[i]):=by simp[h]
theorem _root_.Go.Proofs.YtlnpgbnhcondjaaGreatDoor.Vg.Sm.bringI {P:Program}{nt:Nat}{C:Cx}{todo:List It}{e:Env}{M:Mem}{v:Value}{l:List Int}(nm:Nat)(el:TypeId)(t:Nat){g:Bool}(h:SlH C.hp v 1 (intsR l))(hn:M.get nm=none)(hx:e.get t=some (g,.c (.v v)))
  (k:Sm P nt C todo ((t,g,.c (.sl nm 0 l.length 1))::e) ((nm,⟨true,l.map iC,el⟩)::M)):Sm P nt C todo e M:=by
 have hlen:(intsR l).length=l.length:=by simp[intsR]
 refine Sm.bringR nm el t h hn hx ?_
 rw[hlen,intsC];exact k
theorem _root_.Go.Proofs.YtlnpgbnhcondjaaGreatDoor.Vg.Sm.bringS {P:Program}{nt:Nat}{C:Cx}{todo:List It}{e:Env}{M:Mem}{v:Value}{l:List Str}(nm:Nat)(el:TypeId)(t:Nat){g:Bool}(h:SlH C.hp v 1 (strsR l))(hn:M.get nm=none)(hx:e.get t=some (g,.c (.v v)))
  (k:Sm P nt C todo ((t,g,.c (.sl nm 0 l.length 1))::e) ((nm,⟨true,l.map sC,el⟩)::M)):Sm P nt C todo e M:=by
 have hlen:(strsR l).length=l.length:=by simp[strsR]
 refine Sm.bringR nm el t h hn hx ?_
 rw[hlen,strsC];exact k
end Go.Proofs.YtlnpgbnhcondjaaGreatDoor.Fx
namespace Go.Proofs.YtlnpgbnhcondjaaGreatDoor.Fx
open Vg Tf
set_option linter.unusedSimpArgs false
set_option linter.unusedVariables false
set_option maxRecDepth 100000
set_option maxHeartbeats 4000000
@[go_sem ↓] theorem plS_7_1:plS 7 1=[(0,1),(1,1),(2,1),(3,1),(4,1),(5,1),(6,1)]:=rfl
@[go_sem ↓] theorem plS_21_4:plS 21 4=[(0,4),(4,4),(8,4),(12,4),(16,4),(20,4),(24,4),(28,4),(32,4),(36,4),(40,4),(44,4),(48,4),(52,4),(56,4),(60,4),(64,4),(68,4),(72,4),(76,4),(80,4)]:=rfl
theorem band_ (a b:Bool):(bif a then b else false)=(a&&b):=by cases a<;>rfl
theorem bor_ (a b:Bool):(bif a then true else b)=(a||b):=by cases a<;>rfl
theorem letter_ (c:UInt8):CallOk Tryz.prog 184 [Y c.toNat] [] (Bo (leB c)) []:=by
 refine CallOk.mkN 100 Tryz.func184 rfl en184 (by simp[Tryz.ntmps184]) (ClA.of rfl) rfl rfl fun C hR hP=>?_
 refine vv ?_
 refine⟨fun h=>⟨h,fun h2=>by rw[h,h2];rfl⟩,?_⟩
 refine RetQ.bool hR rfl ⟨rfl,trivial⟩ ?_
 unfold leB
 simp only[band_,bor_]
 have e1:decide ((97:Int)≤(c.toNat:Int))=decide (97≤c.toNat):=by rw[decide_eq_decide];omega
 have e2:decide ((c.toNat:Int)≤122)=decide (c.toNat≤122):=by rw[decide_eq_decide];omega
 have e3:decide ((65:Int)≤(c.toNat:Int))=decide (65≤c.toNat):=by rw[decide_eq_decide];omega
 have e4:decide ((c.toNat:Int)≤90)=decide (c.toNat≤90):=by rw[decide_eq_decide];omega
 rw[e1,e2,e3,e4]
theorem digit_ (c:UInt8):CallOk Tryz.prog 187 [Y c.toNat] [] (Bo (diB c)) []:=by
 refine CallOk.mkN 100 Tryz.func187 rfl en187 (by simp[Tryz.ntmps187]) (ClA.of rfl) rfl rfl fun C hR hP=>?_
 refine vv ?_
 refine RetQ.bool hR rfl ⟨rfl,trivial⟩ ?_
 unfold diB
 simp only[band_,bor_]
 have e1:decide ((48:Int)≤(c.toNat:Int))=decide (48≤c.toNat):=by rw[decide_eq_decide];omega
 have e2:decide ((c.toNat:Int)≤57)=decide (c.toNat≤57):=by rw[decide_eq_decide];omega
 rw[e1,e2]
theorem inner_ (c:UInt8):CallOk Tryz.prog 186 [Y c.toNat] [] (Bo (inB c)) []:=by
 refine CallOk.mkN 100 Tryz.func186 rfl en186 (by simp[Tryz.ntmps186]) (ClA.of rfl) rfl rfl fun C hR hP=>?_
 refine vv ?_
 refine CallQ.pure 110 (letter_ c) rfl ?_
 refine vv ?_
 refine CallQ.guard 110 (fun _=>digit_ c) (fun h=>by rw[h];rfl) ?_
 refine vv ?_
 refine RetQ.bool hR rfl ⟨rfl,trivial⟩ ?_
 unfold inB
 simp only[band_,bor_]
 have e1:((c.toNat:Int)==95)=decide (c.toNat=95):=by
  rw[Bool.eq_iff_iff,beq_iff_eq,decide_eq_true_eq];omega
 rw[e1,Bool.or_assoc]
def runN (p:UInt8→Bool)(s:Str)(k:Nat):Nat:=((s.drop k).takeWhile p).length
theorem run_ (s:Str)(k:Nat)(hk:k≤s.length)(hs:s.length≤1000000000000000)(g:FuncId)(p:UInt8→Bool)(hp:∀c:UInt8,CallOk Tryz.prog g [Y c.toNat] [] (Bo (p c)) []):
  CallOk Tryz.prog 185 [S s,I k,.c (.v (.func (.func g) #[] #[]))] [] (I (runN p s k)) []:=by
 refine CallOk.mkN 100 Tryz.func185 rfl en185 (by simp[Tryz.ntmps185]) (ClA.of rfl) rfl rfl fun C hR hP=>?_
 refine vv ?_
 refine Sm.loopM (M0:=[]) (α:={n:Nat//n+k≤s.length∧runN p s k=n+((s.drop (k+n)).takeWhile p).length}) hP
  (fun n=>[(0,true,S s),(1,true,I k),(2,true,.c (.v (.func (.func g) #[] #[]))),(7,true,I n.val)]) (fun _=>[]) (fun n=>s.length-n.val) ⟨0,by omega,by rw[runN];simp⟩ (fun _=>ClM.nil) (fun _=>ClE.of rfl) [] ?_ ?_
 ·exact⟨rfl,trivial,⟨rfl,rfl,rfl,rfl,trivial⟩,trivial⟩
 ·rintro⟨n,hn,hx⟩ J hb
  simp only at hb hn hx⊢
  refine Sm.go 120 ?_
  have w1:IntKind.i64.wrap ((k:Int)+(n:Int))=((k+n:Nat):Int):=by rw[w64 (by omega) (by omega)];omega
  simp(maxSteps:=2000000) only[go_sem,w1]
  by_cases hlt:k+n<s.length
  ·have h1:decide (((k+n:Nat):Int)<(s.length:Int))=true:=tru_of (by omega)
   have hd:s.drop (k+n)=s.getD (k+n) 0::s.drop (k+(n+1)):=by
    rw[List.getD_eq_getElem?_getD,List.getElem?_eq_getElem hlt,List.drop_eq_getElem_cons hlt];rfl
   rw[hd,List.takeWhile_cons]at hx
   simp(maxSteps:=2000000) only[go_sem,h1]
   refine⟨⟨by omega,by omega⟩,?_⟩
   refine CallQ.pure 130 (hp (s.getD (k+n) 0)) rfl ?_
   refine vv ?_
   refine mtch (fun hc=>?_) (fun hc=>?_)
   ·rw[if_pos hc]at hx
    simp only[wS (show n≤1000000000000000000 by omega)]
    exact hb _ _ ⟨n+1,by omega,by rw[hx];simp;omega⟩ [] (by simp only;omega) ⟨rfl,trivial,⟨rfl,rfl,rfl,rfl,trivial⟩,trivial⟩
   ·rw[if_neg (by rw[hc];simp)]at hx
    exact RetQ.int hR rfl ⟨rfl,trivial⟩ (by rw[hx];simp)
  ·have h1:decide (((k+n:Nat):Int)<(s.length:Int))=false:=fal_of (by omega)
   rw[List.drop_eq_nil_of_le (by omega)]at hx
   simp(maxSteps:=2000000) only[go_sem,h1]
   refine CallQ.guard (xs:=[]) (v:=Bo true) 130 (fun h=>by cases h) (fun h=>by cases h) ?_
   refine vv ?_
   exact RetQ.int hR rfl ⟨rfl,trivial⟩ (by rw[hx];simp)
def kindR:List (List Value):=kindT.map fun r=>[sv r.1,iv r.2.1,iv r.2.2.1,iv r.2.2.2]
@[reducible] def bKR (nm:Nat):Nat×Bk:=(nm,⟨false,rowsC kindR,264⟩)
theorem rows_:CallOk Tryz.prog 256 [] [] (.c (.sl 1 0 21 4)) [bKR 1]:=by
 refine CallOk.mkN 100 Tryz.func256 rfl en256 (by simp[Tryz.ntmps256]) (ClA.of rfl) rfl rfl fun C hR hP=>?_
 refine vv ?_
 exact RetQ.ren [(1,100)] hR hP rfl (vv trivial) rfl rfl trivial ⟨.inr ⟨_,rfl,.inl rfl⟩,trivial⟩ (ClM.of rfl) (ClV.of rfl)
end Go.Proofs.YtlnpgbnhcondjaaGreatDoor.Fx
