/-  -/
import Derived.Test.YtlnpgbnhcondjaaGreatDoorTf
import Derived.Test.YtlnpgbnhcondjaaGreatDoorO8
import Derived.Shelf.Strings.OnBuilder
import Derived.Shelf.Strconv.Itoa0
import Derived.Shelf.Strconv.Itoa1
import Derived.Shelf.LaysM
import Derived.Shelf.Strconv.Itoa2
import Derived.Shelf.Strconv.Itoa3
import Derived.Test.YtlnpgbnhcondjaaGreatDoorProg
import Derived.Test.YtlnpgbnhcondjaaGreatDoorYS
import Derived.Test.YtlnpgbnhcondjaaGreatDoorYC
import Derived.Lib.ItoaLen
import Derived.Test.YtlnpgbnhcondjaaGreatDoorO6
namespace Go.Proofs.YtlnpgbnhcondjaaGreatDoor.Fx
open Vg Tf
set_option linter.unusedSimpArgs false
set_option linter.unusedVariables false
set_option maxRecDepth 100000
set_option maxHeartbeats 4000000
section
variable {H:Hp} {g:FuncId} {cp:Array Value} {key:Str→Int} {ok:Str→Prop} (hc:CmpK H g cp key ok)
include hc
theorem symN_:∀(N:Nat) (A U V B:List Str),0<U.length→0<V.length→U.length+V.length≤N→SymOk H g cp key ok A U V B
 |0,_,_,_,_,h1,_,h3=>by omega
 |N+1,A,U,V,B,h1,h2,h3=>by
  by_cases u1:U.length=1
  ·obtain⟨x,rfl⟩:=List.length_eq_one_iff.1 u1
   exact sym1_ hc A V B x
  by_cases v1:V.length=1
  ·obtain⟨x,rfl⟩:=List.length_eq_one_iff.1 v1
   exact sym2_ hc A U B x (by omega)
  exact sym3_ hc A U V B (by omega) (by omega) fun A' U' V' B' q1 q2 q3=>symN_ N A' U' V' B' q1 q2 (by omega)
theorem sym_ (A U V B:List Str)(hU:0<U.length)(hV:0<V.length):SymOk H g cp key ok A U V B:=symN_ hc _ A U V B hU hV (Nat.le_refl _)
structure St1 (key:Str→Int) (L:List Str) where
 k:Nat
 X:List Str
 Y:List Str
 x:X.length=k*20
 r:Runs key 20 X
 s:Stb key L (X++Y)
structure St2 (key:Str→Int) (L:List Str) where
 bs:Nat
 l:List Str
 p:0<bs
 u:bs≤2*L.length+20
 r:Runs key bs l
 s:Stb key L l
structure St3 (key:Str→Int) (L:List Str) (bs:Nat) where
 k:Nat
 X:List Str
 Y:List Str
 x:X.length=k*(2*bs)
 r:Runs key (2*bs) X
 q:Runs key bs Y
 s:Stb key L (X++Y)
theorem stable_ (L:List Str)(n:Nat)(hn:L.length=n)(hl:n≤1000000)(hok:∀x∈L,ok x):
  CallX H Tryz.prog 55 [.c (.sl 1 0 n 1),I n,Fv g cp] [sB L] (fun _:Unit=> .tup []) (fun _=>[sB (isr key L)]) (fun _ _=>True):=by
 refine CallX.mkS Tryz.func55 rfl en55 (by simp[Tryz.ntmps55]) (ClA.of rfl) (fun _=>rfl) (fun _=>rfl) fun C hR hP hH hL=>?_
 have v_s:=v_sC
 refine Sm.go 100 ?_
 refine vv ?_
 refine Sm.loopM (M0:=[sB L]) (α:=St1 key L) hP (fun x=>[(0,true,.c (.sl 1 0 n 1)),(1,true,I n),(2,true,Fv g cp),(6,true,I 20),(7,true,I x.X.length),(8,true,I (x.X.length+20:Nat))])
  (fun x=>[sB (x.X++x.Y)]) (fun x=>x.Y.length) ⟨0,[],L,rfl,runs_nil _,Stb.refl _⟩ (fun _=>sB_cl _) (fun _=>ClE.of rfl) [(1,1)] ?_ ?_
 ·exact⟨rfl,⟨⟨rfl,rfl⟩,trivial⟩,⟨rfl,rfl,rfl,rfl,rfl,rfl,trivial⟩,⟨oV (renV (v_sC _)),trivial⟩⟩
 rintro⟨k,X,Y,x1,x2,x3⟩ J hj
 simp only at hj⊢
 have hlen:=x3.len
 rw[List.length_append,hn]at hlen
 have hoXY:∀z∈X++Y,ok z:=fun z hz=>hok z (x3.mem.1 hz)
 refine Sm.go 110 ?_
 refine vv ?_
 refine mtch (fun hd=>?_) (fun hd=>?_)
 ·have hd:X.length+20≤n:=by have:=of_decide_eq_true hd;omega
  have eY:Y=Y.take 20++Y.drop 20:=(List.take_append_drop _ _).symm
  have l1:(Y.take 20).length=20:=by rw[List.length_take];omega
  have l2:(Y.drop 20).length=Y.length-20:=List.length_drop
  have hins:=insort_ hc X (Y.take 20) (Y.drop 20) n X.length (X.length+20) (by rw[List.append_assoc,←eY,List.length_append];omega) rfl (by rw[l1]) hl (fun z hz=>hoXY z (List.mem_append.2 (.inr (List.mem_of_mem_take hz))))
  rw[show X++Y.take 20++Y.drop 20=X++Y from by rw[List.append_assoc,←eY]]at hins
  have hnx:Runs key 20 (X++isr key (Y.take 20)):=runs_snoc (by decide) x1 x2 (by rw[isr_len,l1];exact Nat.le_refl _) (isr_srt _)
  have hns:Stb key L (X++isr key (Y.take 20)++Y.drop 20):=x3.trans (by
   conv=>lhs;rw[eY,←List.append_assoc]
   exact Stb.app (Stb.app (Stb.refl X) (isr_stb _)) (Stb.refl _))
  have hnl:(X++isr key (Y.take 20)).length=X.length+20:=by rw[List.length_append,isr_len,l1]
  refine CallQ.xio 120 hins hH (sB_cl _) rfl ⟨oS,trivial⟩ rfl (.inl rfl) ?_
  have w1:IntKind.i64.wrap (((X.length+20:Nat):Int)+20)=(((X++isr key (Y.take 20)).length+20:Nat):Int):=by rw[w64 (by omega) (by omega)];omega
  generalize hZ:X++isr key (Y.take 20)=Z at*
  generalize Y.drop 20=Y2 at*
  simp(maxSteps:=2000000) only[go_sem,w1]
  rw[←hnl]
  exact hj _ _ ⟨k+1,Z,Y2,by rw[hnl,x1];omega,hnx,hns⟩ [(1,1)] (by simp only;omega) ⟨rfl,⟨⟨rfl,rfl⟩,trivial⟩,⟨rfl,rfl,rfl,rfl,rfl,rfl,trivial⟩,⟨oV (renV (v_sC _)),trivial⟩⟩
 have hd:n<X.length+20:=by have:=of_decide_eq_false hd;omega
 clear hj
 have hins:=insort_ hc X Y [] n X.length n (by rw[List.append_nil,List.length_append];omega) rfl (by omega) hl (fun z hz=>hoXY z (List.mem_append.2 (.inr hz)))
 rw[List.append_nil,List.append_nil]at hins
 have hnx:Runs key 20 (X++isr key Y):=runs_snoc (by decide) x1 x2 (by rw[isr_len];omega) (isr_srt _)
 have hns:Stb key L (X++isr key Y):=x3.trans (Stb.app (Stb.refl X) (isr_stb _))
 refine CallQ.xio 120 hins hH (sB_cl _) rfl ⟨oS,trivial⟩ rfl (.inl rfl) ?_
 generalize X++isr key Y=l0 at*
 refine vv ?_
 refine Sm.loopM (M0:=[sB L]) (α:=St2 key L) hP (fun x=>[(0,true,.c (.sl 1 0 n 1)),(1,true,I n),(2,true,Fv g cp),(6,true,I x.bs)])
  (fun x=>[sB x.l]) (fun x=>n-x.bs) ⟨20,l0,by decide,by omega,hnx,hns⟩ (fun _=>sB_cl _) (fun _=>ClE.of rfl) [(1,1)] ?_ ?_
 ·exact⟨rfl,⟨⟨rfl,rfl⟩,trivial⟩,⟨rfl,rfl,rfl,rfl,trivial⟩,⟨oV (renV (v_sC _)),trivial⟩⟩
 rintro⟨bs,l,p1,p2,p3,p4⟩ J hj
 simp only at hj⊢
 have hll:=p4.len
 rw[hn]at hll
 refine Sm.go 130 ?_
 refine vv ?_
 refine mtch (fun hd=>?_) (fun hd=>?_)
 ·have hd:bs<n:=lt_of_dec hd
  have w1:IntKind.i64.wrap (2*(bs:Int))=((2*bs:Nat):Int):=by rw[w64 (by omega) (by omega)];omega
  have w2:IntKind.i64.wrap ((bs:Int)*2)=((2*bs:Nat):Int):=by rw[w64 (by omega) (by omega)];omega
  simp(maxSteps:=2000000) only[go_sem,w1]
  refine Sm.loopM (M0:=[sB L]) (α:=St3 key L bs) hP (fun x=>[(0,true,.c (.sl 1 0 n 1)),(1,true,I n),(2,true,Fv g cp),(6,true,I bs),(7,true,I x.X.length),(8,true,I (2*bs+x.X.length:Nat))])
   (fun x=>[sB (x.X++x.Y)]) (fun x=>x.Y.length) ⟨0,[],l,(Nat.zero_mul _).symm,runs_nil _,p3,p4⟩ (fun _=>sB_cl _) (fun _=>ClE.of rfl) [(1,1)] ?_ ?_
  ·exact⟨rfl,⟨⟨rfl,rfl⟩,trivial⟩,⟨rfl,rfl,rfl,rfl,rfl,rfl,trivial⟩,⟨oV (renV (v_sC _)),trivial⟩⟩
  rintro⟨k,X,Y,x1,x2,x4,x3⟩ J2 hj2
  simp only at hj2⊢
  have hlen:=x3.len
  rw[List.length_append,hn]at hlen
  have hoXY:∀z∈X++Y,ok z:=fun z hz=>hok z (x3.mem.1 hz)
  refine Sm.go 140 ?_
  refine vv ?_
  refine mtch (fun he=>?_) (fun he=>?_)
  ·have he:X.length+2*bs≤n:=by have:=of_decide_eq_true he;omega
   have eY:Y=Y.take bs++(Y.drop bs).take bs++Y.drop (2*bs):=by
    conv=>lhs;rw[←List.take_append_drop bs Y,←List.take_append_drop bs (Y.drop bs)]
    rw[List.drop_drop,List.append_assoc,show bs+bs=2*bs from by omega]
   have l1:(Y.take bs).length=bs:=by rw[List.length_take];omega
   have l3:((Y.drop bs).take bs).length=bs:=by rw[List.length_take,List.length_drop];omega
   have l2:(Y.drop (2*bs)).length=Y.length-2*bs:=List.length_drop
   obtain⟨r1,r2⟩:=runs_two x4
   have r3:=runs_drop x4 2
   have hsy:=sym_ hc X (Y.take bs) ((Y.drop bs).take bs) (Y.drop (2*bs)) (by omega) (by omega) n X.length (X.length+bs) (2*bs+X.length)
   generalize Y.take bs=Y1 at*
   generalize (Y.drop bs).take bs=Y2 at*
   generalize Y.drop (2*bs)=Y3 at*
   have hsy:=hsy (by simp only[List.length_append];omega) rfl (by omega) (by omega) hl (fun z hz=>hoXY z (by rw[eY];simp[hz])) (fun z hz=>hoXY z (by rw[eY];simp[hz])) r1 r2
   rw[show X++Y1++Y2++Y3=X++Y from by rw[eY];simp]at hsy
   have hnx:Runs key (2*bs) (X++isr key (Y1++Y2)):=runs_snoc (by omega) x1 x2 (by rw[isr_len,List.length_append];omega) (isr_srt _)
   have hns:Stb key L (X++isr key (Y1++Y2)++Y3):=x3.trans (by
    rw[eY,←List.append_assoc]
    exact Stb.app (Stb.app (Stb.refl X) (isr_stb _)) (Stb.refl _))
   have hnl:(X++isr key (Y1++Y2)).length=2*bs+X.length:=by rw[List.length_append,isr_len,List.length_append];omega
   have w3:IntKind.i64.wrap ((X.length:Int)+(bs:Int))=((X.length+bs:Nat):Int):=by rw[w64 (by omega) (by omega)];omega
   simp(maxSteps:=2000000) only[go_sem,w3]
   refine CallQ.xio 150 hsy hH (sB_cl _) rfl ⟨oS,trivial⟩ rfl (.inl rfl) ?_
   generalize X++isr key (Y1++Y2)=Z at*
   have w4:IntKind.i64.wrap (((2*bs+X.length:Nat):Int)+((2*bs:Nat):Int))=((2*bs+Z.length:Nat):Int):=by rw[w64 (by omega) (by omega)];omega
   simp(maxSteps:=2000000) only[go_sem,w1,w4]
   rw[←hnl]
   exact hj2 _ _ ⟨k+1,Z,Y3,by rw[hnl,x1];exact(Nat.add_comm _ _).trans (Nat.succ_mul k (2*bs)).symm,hnx,r3,hns⟩ [(1,1)] (by simp only;omega) ⟨rfl,⟨⟨rfl,rfl⟩,trivial⟩,⟨rfl,rfl,rfl,rfl,rfl,rfl,trivial⟩,⟨oV (renV (v_sC _)),trivial⟩⟩
  have he:n<X.length+2*bs:=by have:=of_decide_eq_false he;omega
  clear hj2
  have w3:IntKind.i64.wrap ((X.length:Int)+(bs:Int))=((X.length+bs:Nat):Int):=by rw[w64 (by omega) (by omega)];omega
  have hnx:Runs key (2*bs) (X++isr key Y):=runs_snoc (by omega) x1 x2 (by rw[isr_len];omega) (isr_srt _)
  have hns:Stb key L (X++isr key Y):=x3.trans (Stb.app (Stb.refl X) (isr_stb _))
  simp(maxSteps:=2000000) only[go_sem,w3]
  refine mtch (fun hf=>?_) (fun hf=>?_)
  ·have hf:X.length+bs<n:=lt_of_dec hf
   have eY:Y=Y.take bs++Y.drop bs:=(List.take_append_drop _ _).symm
   have l1:(Y.take bs).length=bs:=by rw[List.length_take];omega
   have l2:(Y.drop bs).length=Y.length-bs:=List.length_drop
   obtain⟨r1,r2⟩:=runs_two x4
   rw[List.take_of_length_le (by omega)]at r2
   have hsy:=sym_ hc X (Y.take bs) (Y.drop bs) [] (by omega) (by omega) n X.length (X.length+bs) n (by rw[List.append_nil,List.append_assoc,←eY,List.length_append];omega) rfl (by omega) (by omega) hl (fun z hz=>hoXY z (List.mem_append.2 (.inr (List.mem_of_mem_take hz)))) (fun z hz=>hoXY z (List.mem_append.2 (.inr (List.mem_of_mem_drop hz)))) r1 r2
   rw[List.append_nil,List.append_nil,List.append_assoc,←eY]at hsy
   refine CallQ.xio 150 hsy hH (sB_cl _) rfl ⟨oS,trivial⟩ rfl (.inl rfl) ?_
   generalize X++isr key Y=Z at*
   simp(maxSteps:=2000000) only[go_sem,w2]
   exact hj _ _ ⟨2*bs,Z,by omega,by omega,hnx,hns⟩ [(1,1)] (by simp only;omega) ⟨rfl,⟨⟨rfl,rfl⟩,trivial⟩,⟨rfl,rfl,rfl,rfl,trivial⟩,⟨oV (renV (v_sC _)),trivial⟩⟩
  ·have hf:n≤X.length+bs:=by have:=of_decide_eq_false hf;omega
   have hY:isr key Y=Y:=isr_self (runs_all x4 (by omega))
   rw[hY]at hnx hns
   generalize X++Y=Z at*
   simp(maxSteps:=2000000) only[go_sem,w2]
   exact hj _ _ ⟨2*bs,Z,by omega,by omega,hnx,hns⟩ [(1,1)] (by simp only;omega) ⟨rfl,⟨⟨rfl,rfl⟩,trivial⟩,⟨rfl,rfl,rfl,rfl,trivial⟩,⟨oV (renV (v_sC _)),trivial⟩⟩
 ·have hd:n≤bs:=by have:=of_decide_eq_false hd;omega
  clear hj
  have hfin:l=isr key L:=isr_of (runs_all p3 (by omega)) p4
  rw[hfin]
  exact Sm.fall (hR () C hL trivial) (RetQ.of (hR () C hL trivial) rfl trivial rfl (sub_sh (SubS.sub ⟨oS,trivial⟩)) (clm_sh (sB_cl _)) (ClV.of rfl))
theorem sortS_ (L:List Str)(n:Nat)(hn:L.length=n)(hl:n≤1000000)(hok:∀x∈L,ok x):
  CallX H Tryz.prog 19 [.c (.sl 1 0 n 1),Fv g cp] [sB L] (fun _:Unit=> .tup []) (fun _=>[sB (isr key L)]) (fun _ _=>True):=by
 refine CallX.mkS Tryz.func19 rfl en19 (by simp[Tryz.ntmps19]) (ClA.of rfl) (fun _=>rfl) (fun _=>rfl) fun C hR hP hH hL=>?_
 refine Sm.go 100 ?_
 refine vv ?_
 refine CallQ.xio 120 (stable_ hc L n hn hl hok) hH (sB_cl _) rfl ⟨oS,trivial⟩ rfl (.inl rfl) ?_
 refine vv ?_
 exact Sm.fall (hR () C hL trivial) (RetQ.of (hR () C hL trivial) rfl trivial rfl (sub_sh (SubS.sub ⟨oS,trivial⟩)) (clm_sh (sB_cl _)) (ClV.of rfl))
end
end Go.Proofs.YtlnpgbnhcondjaaGreatDoor.Fx
namespace Go.Proofs
set_option linter.unusedSimpArgs false
set_option linter.unusedVariables false
open Go.Shelf
def Tryz.lays156_ren:Go.Shelf.Ren:=⟨fun|156=>21|165=>56|166=>25|169=>27|240=>68|241=>167|276=>190|277=>245|n=>n,fun|31=>28|9=>9|3=>3|4=>4|0=>0|20=>20|72=>55|76=>60|70=>53|37=>49|75=>59|127=>130|164=>208|5=>5|80=>63|n=>n,fun|n=>n⟩
theorem Tryz.lays156:Go.Proofs.Lays.n156 Tryz.prog Tryz.lays156_ren:={
 mixed:=by kernel_rfl
 f156:=Tryz.func21.trans (congrArg some (by kernel_rfl))
 f165:=Tryz.func56.trans (congrArg some (by kernel_rfl))
 f166:=Tryz.func25.trans (congrArg some (by kernel_rfl))
 f169:=Tryz.func27.trans (congrArg some (by kernel_rfl))
 f240:=Tryz.func68.trans (congrArg some (by kernel_rfl))
 f241:=Tryz.func167.trans (congrArg some (by kernel_rfl))
 f276:=Tryz.func190.trans (congrArg some (by kernel_rfl))
 f277:=Tryz.func245.trans (congrArg some (by kernel_rfl))
 t0:=Tryz.underlying0
 a0:=Tryz.isAgg0
 z0:=Tryz.sizeOf0
 v0:=Tryz.zeroValue0
 t3:=Tryz.underlying3
 a3:=Tryz.isAgg3
 z3:=Tryz.sizeOf3
 v3:=Tryz.zeroValue3
 t4:=Tryz.underlying4
 a4:=Tryz.isAgg4
 z4:=Tryz.sizeOf4
 v4:=Tryz.zeroValue4
 t9:=Tryz.underlying9
 a9:=Tryz.isAgg9
 z9:=Tryz.sizeOf9
 v9:=Tryz.zeroValue9
 t20:=Tryz.underlying20
 a20:=Tryz.isAgg20
 z20:=Tryz.sizeOf20
 v20:=Tryz.zeroValue20
 t31:=Tryz.underlying28
 a31:=Tryz.isAgg28
 z31:=Tryz.sizeOf28
 v31:=Tryz.zeroValue28
 t37:=Tryz.underlying49
 a37:=Tryz.isAgg49
 z37:=Tryz.sizeOf49
 v37:=Tryz.zeroValue49
 t70:=Tryz.underlying53
 a70:=Tryz.isAgg53
 z70:=Tryz.sizeOf53
 v70:=Tryz.zeroValue53
 t72:=Tryz.underlying55
 a72:=Tryz.isAgg55
 z72:=Tryz.sizeOf55
 v72:=Tryz.zeroValue55
 t75:=Tryz.underlying59
 a75:=Tryz.isAgg59
 z75:=Tryz.sizeOf59
 v75:=Tryz.zeroValue59
 t76:=Tryz.underlying60
 a76:=Tryz.isAgg60
 z76:=Tryz.sizeOf60
 v76:=Tryz.zeroValue60
 t127:=Tryz.underlying130
 a127:=Tryz.isAgg130
 z127:=Tryz.sizeOf130
 v127:=Tryz.zeroValue130
 t164:=Tryz.underlying208
 a164:=Tryz.isAgg208
 z164:=Tryz.sizeOf208
 v164:=Tryz.zeroValue208}
theorem Tryz.Builder_Extra_156:Builder.Extra Tryz.prog Tryz.lays156_ren:={
 sizeBuilder:=by kernel_rfl
 liesBuilder:=by kernel_rfl
 t5:=Tryz.underlying5
 a5:=Tryz.isAgg5
 z5:=Tryz.sizeOf5
 v5:=Tryz.zeroValue5
 infoByte:=by kernel_rfl
 cellsByte:=by kernel_rfl
 sizeByte:=by kernel_rfl
 neB5:=by decide}
open Go.RowKit in
theorem Tryz.strings_Join_none (a:Option Addr)(c:Nat)(sep:ByteArray)(w:World):
  Calls Tryz.prog 21 #[.slice a 0 c,.string sep] w fun e w'=>e= .returned (.string ⟨#[]⟩)∧w'=w:=Any.strings_Join_none Tryz.lays156 Tryz.Builder_Extra_156 a c sep w
open Go.RowKit in
theorem Tryz.strings_Join (bk o c:Nat)(xs:List ByteArray)(sep:ByteArray)(w:World)(hcells:∀(j:Nat) x,xs[j]?=some x→w.cell? ⟨bk,o+j,none⟩=some (.string x))(hbk:bk<w.heap.size)(hN:xs.length≤140737488355328)(hcap:xs.length≤c)(hlen:(Lib.join (xs.map (·.data.toList)) sep.data.toList).length≤140737488355328):
  Calls Tryz.prog 21 #[.slice (some ⟨bk,o,none⟩) xs.length c,.string sep] w fun e w'=>e= .returned (.string ⟨(Lib.join (xs.map (·.data.toList)) sep.data.toList).toArray⟩)∧Below w.heap.size w w':=Any.strings_Join Tryz.lays156 Tryz.Builder_Extra_156 bk o c xs sep w hcells hbk hN hcap hlen
end Go.Proofs
namespace Go.Proofs.YtlnpgbnhcondjaaGreatDoor.Fx
open Vg Tf Go.Sort
set_option linter.unusedSimpArgs false
set_option linter.unusedVariables false
set_option maxRecDepth 100000
theorem joinH {H:Hp}(s:Sv)(l:List Str)(sep:Str)(hs:SlH H (vsl s l.length) 1 (strsR l))(hl:l.length≤100000)(hlen:(Lib.join l sep).length≤140737488355328):CallH H Tryz.prog 21 [.c (.v (vsl s l.length)),S sep] (S (Lib.join l sep)):=by
 refine callX_below (Q:=fun _=>True) en21 fun β w hw=>?_
 cases l with
 |nil=>
  refine(Tryz.strings_Join_none s.o s.c ⟨sep.toArray⟩ w).mono ?_
  rintro e w' ⟨rfl,rfl⟩
  refine⟨(),fun _=>?_,RowKit.Below.refl _ _,trivial⟩
  have:Lib.join [] sep=[]:=by unfold Lib.join;rfl
  rw[this];rfl
 |cons x0 l0=>
  have hne:0<(x0::l0).length:=by simp
  generalize x0::l0=l at*
  obtain⟨lc,h1,h2,h3⟩:=hs
  have hfl:=strs_flat l
  have hsl:(strsR l).length=l.length:=by unfold strsR;rw[List.length_map]
  rw[hfl]at h3
  have hn:lc.nul=false:=by
   cases hq:lc.nul with
   |false=>rfl
   |true=>
    have:=congrArg List.length (h3.1 hq)
    rw[List.length_map]at this
    have:l.length=0:=this
    omega
  obtain⟨c,el,mk,q1,q2⟩:=h3.2.2 hn
  have hs:=h3.2.1
  rw[List.length_map]at hs
  rw[hsl]at h1
  have hv:vsl s l.length= .slice (some ⟨lc.blk,lc.org,none⟩) l.length lc.siz:=by
   rw[h1]
   simp only[Cv.g,hn,Bool.false_eq_true,false_and,if_false,Nat.add_zero,Nat.sub_zero,Nat.div_one]
  have hhp:=hw _ _ q1
  have hxs:(l.map fun x:Str=>(⟨x.toArray⟩:ByteArray)).length=l.length:=List.length_map _
  have hjn:Lib.join ((l.map fun x:Str=>(⟨x.toArray⟩:ByteArray)).map (·.data.toList)) (⟨sep.toArray⟩:ByteArray).data.toList=Lib.join l sep:=by
   rw[List.map_map]
   congr 1
   exact(List.map_congr_left fun x _=>rfl).trans (List.map_id _)
  have hargs:([V.c (.v (vsl s l.length)),S sep].map (V.g β)).toArray= #[.slice (some ⟨lc.blk,lc.org,none⟩) (l.map fun x:Str=>(⟨x.toArray⟩:ByteArray)).length lc.siz,.string ⟨sep.toArray⟩]:=by
   rw[hxs,hv];rfl
  rw[hargs]
  refine(Tryz.strings_Join lc.blk lc.org lc.siz (l.map fun x:Str=>(⟨x.toArray⟩:ByteArray)) ⟨sep.toArray⟩ w (fun j x hj=>?_) ?_ (by rw[hxs];omega) (by rw[hxs];omega) (by rw[hjn];exact hlen)).mono ?_
  ·rw[List.getElem?_map,Option.map_eq_some_iff]at hj
   obtain⟨y,hy,rfl⟩:=hj
   have:=q2 j (sv y) (by rw[List.getElem?_map,hy];rfl)
   simp[World.cell?,hhp,this]
  ·exact(Array.getElem?_eq_some_iff.1 hhp).1
  ·rintro e w' ⟨rfl,hb⟩
   exact⟨(),fun _=>by rw[hjn];rfl,hb,trivial⟩
set_option maxHeartbeats 4000000
def spcW:List Value:=Lib.asciiSpaceTab.map fun z=>Value.int .u8 z
def SpR (H:Hp):Prop:=∃el mk,H 0 (.cells spcW.toArray el mk)
theorem SpR.mono {H H':Hp}(hl:H.le H')(h:SpR H):SpR H':=by
 obtain⟨el,mk,hc⟩:=h
 exact⟨el,mk,hl _ _ hc⟩
theorem SpR.tab {H:Hp}(h:SpR H){w:World}(hw:∀b o,H b o→w.heap[b]?=some o):Lib.TabIs Tryz.prog w "strings.asciiSpace" .u8 Lib.asciiSpaceTab:=by
 obtain⟨el,mk,hc⟩:=h
 have hg:GlW [(0,spcW)] w:=fun g cs hm=>by
  obtain⟨rfl,rfl⟩:g=0∧cs=spcW:=by simpa using hm
  exact⟨el,mk,hw _ _ hc⟩
 exact hg.var (g:=0) (cs:=spcW) (by simp) (by kernel_rfl)
def Asc (l:Str):Prop:=∀c∈l,c.toNat<128
theorem Asc.at {l:Str}(h:Asc l)(j:Nat)(b:UInt8)(hj:(⟨l.toArray⟩:ByteArray).data.toList[j]?=some b):b.toNat<128:=h b (List.mem_of_getElem? hj)
theorem trimH {H:Hp}(hS:SpR H)(l:Str)(ha:Asc l)(hl:l.length≤1000000):CallH H Tryz.prog 18 [S l] (S (Lib.trimSpace l)):=by
 refine callX_below (Q:=fun _=>True) en18 fun β w hw=>?_
 refine(Tryz.strings_TrimSpace ⟨l.toArray⟩ w (by show l.length≤_;omega) (fun j b hj=>ha.at j b hj) (hS.tab hw)).mono ?_
 rintro e w' ⟨rfl,rfl⟩
 exact⟨(),fun _=>rfl,below_bytes w 5 _,trivial⟩
theorem prefH {H:Hp}(a b:Str):CallH H Tryz.prog 17 [S a,S b] (Bo (Lib.hasPrefix a b)):=by
 refine callX_below (Q:=fun _=>True) en17 fun β w hw=>?_
 refine(Tryz.strings_HasPrefix ⟨a.toArray⟩ ⟨b.toArray⟩ w).mono ?_
 rintro e w' ⟨rfl,rfl⟩
 exact⟨(),fun _=>rfl,RowKit.Below.refl _ _,trivial⟩
theorem fieldsX {H:Hp}(hS:SpR H)(l:Str)(ha:Asc l)(hl:l.length≤1000000):CallX H Tryz.prog 16 [S l] [] (fun x:Sv=> .c (.v (vsl x (Lib.fields l).length))) (fun _=>[]) (fun x H'=>SlH H' (vsl x (Lib.fields l).length) 1 (strsR (Lib.fields l))):=by
 refine⟨en16,fun _ n b hn=>(by cases hn),fun _ n b b' hn=>(by cases hn),fun β w Z hm hH hZ=>?_⟩
 refine(Tryz.strings_Fields ⟨l.toArray⟩ w (by show l.length<_;omega) (fun j b hj=>ha.at j b hj) (hS.tab fun b o hb=>(hH b o hb).1)).mono ?_
 rintro e w' ⟨rfl,rfl⟩
 have hfl:(strsR (Lib.fields l)).flatten=(Lib.fields l).map sv:=strs_flat _
 refine⟨⟨some ⟨w.heap.size,0,none⟩,(Lib.fields l).length⟩,β,fun b o=>b=w.heap.size∧o= .cells ((Lib.fields l).map fun l=>Value.string ⟨l.toArray⟩).toArray 9 (0,0),Agree.refl _ _,fun β'' _=>rfl,⟨fun β' _ n b hn=>(by cases hn),fun n b hn=>(by cases hn),fun n m b b' hn=>(by cases hn)⟩,⟨rfl,rfl,rfl,by simp,fun b _ hb=>Go.RowKit.Below.heap_alloc w _ b hb⟩,fun n hn=>(by cases hn),?_,?_⟩
 ·rintro b o ⟨rfl,rfl⟩
  refine⟨?_,fun hz=>?_,?_⟩
  ·show(w.heap.push _)[w.heap.size]?=_
   simp
  ·have:=(hZ _ hz).1
   omega
  ·rintro⟨n,c,h1,_⟩
   cases h1
 ·refine⟨⟨w.heap.size,0,(Lib.fields l).length,false,none⟩,?_,fun r hr=>?_,⟨(fun h=>by cases h),?_,fun _=>⟨_,_,_,⟨rfl,rfl⟩,fun i v hv=>?_⟩⟩⟩
  ·have:(strsR (Lib.fields l)).length=(Lib.fields l).length:=by unfold strsR;rw[List.length_map]
   rw[this]
   simp[vsl,Cv.g]
  ·obtain⟨x,_,rfl⟩:=List.mem_map.1 hr
   rfl
  ·rw[hfl,List.length_map];exact Nat.le_refl _
  ·rw[hfl]at hv
   simpa using hv
end Go.Proofs.YtlnpgbnhcondjaaGreatDoor.Fx
