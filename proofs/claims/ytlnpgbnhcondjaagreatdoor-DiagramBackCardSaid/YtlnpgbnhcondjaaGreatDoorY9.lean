/-  -/
import Derived.Test.YtlnpgbnhcondjaaGreatDoorTf
import Derived.Shelf.LaysC
import Derived.Shelf.Strconv.AtoiAll
import Derived.Shelf.Strconv.ErrVarAll
import Derived.Test.YtlnpgbnhcondjaaGreatDoorProg
import Derived.Test.YtlnpgbnhcondjaaGreatDoorYJ
namespace Go.Proofs
set_option linter.unusedSimpArgs false
set_option linter.unusedVariables false
open Go.Shelf
def Tryz.laysC172_ren:Go.Shelf.Ren:=⟨fun|172=>277|244=>285|245=>286|247=>290|279=>291|280=>292|281=>293|282=>294|287=>300|316=>301|171=>259|205=>302|321=>308|322=>309|243=>278|246=>287|283=>295|284=>296|285=>297|286=>298|129=>304|317=>303|318=>305|319=>306|320=>307|337=>310|338=>311|n=>n,fun|9=>9|3=>3|75=>59|76=>60|4=>4|5=>5|167=>298|37=>49|0=>0|85=>299|2=>2|168=>301|53=>279|175=>309|46=>245|210=>312|127=>130|145=>321|143=>319|21=>21|171=>304|173=>307|212=>315|51=>191|20=>20|213=>316|232=>323|233=>324|80=>63|n=>n,fun|15=>5|16=>6|17=>7|18=>8|19=>9|n=>n⟩
theorem Tryz.laysC172:Go.Proofs.LaysC.n172 Tryz.prog Tryz.laysC172_ren:={
 mixed:=by kernel_rfl
 f129:=Tryz.func304.trans (congrArg some (by kernel_rfl))
 f171:=Tryz.func259.trans (congrArg some (by kernel_rfl))
 f172:=Tryz.func277.trans (congrArg some (by kernel_rfl))
 f205:=Tryz.func302.trans (congrArg some (by kernel_rfl))
 f243:=Tryz.func278.trans (congrArg some (by kernel_rfl))
 f244:=Tryz.func285.trans (congrArg some (by kernel_rfl))
 f245:=Tryz.func286.trans (congrArg some (by kernel_rfl))
 f246:=Tryz.func287.trans (congrArg some (by kernel_rfl))
 f247:=Tryz.func290.trans (congrArg some (by kernel_rfl))
 f279:=Tryz.func291.trans (congrArg some (by kernel_rfl))
 f280:=Tryz.func292.trans (congrArg some (by kernel_rfl))
 f281:=Tryz.func293.trans (congrArg some (by kernel_rfl))
 f282:=Tryz.func294.trans (congrArg some (by kernel_rfl))
 f283:=Tryz.func295.trans (congrArg some (by kernel_rfl))
 f284:=Tryz.func296.trans (congrArg some (by kernel_rfl))
 f285:=Tryz.func297.trans (congrArg some (by kernel_rfl))
 f286:=Tryz.func298.trans (congrArg some (by kernel_rfl))
 f287:=Tryz.func300.trans (congrArg some (by kernel_rfl))
 f316:=Tryz.func301.trans (congrArg some (by kernel_rfl))
 f317:=Tryz.func303.trans (congrArg some (by kernel_rfl))
 f318:=Tryz.func305.trans (congrArg some (by kernel_rfl))
 f319:=Tryz.func306.trans (congrArg some (by kernel_rfl))
 f320:=Tryz.func307.trans (congrArg some (by kernel_rfl))
 f321:=Tryz.func308.trans (congrArg some (by kernel_rfl))
 f322:=Tryz.func309.trans (congrArg some (by kernel_rfl))
 f337:=Tryz.func310.trans (congrArg some (by kernel_rfl))
 f338:=Tryz.func311.trans (congrArg some (by kernel_rfl))
 t0:=Tryz.underlying0
 a0:=Tryz.isAgg0
 z0:=Tryz.sizeOf0
 v0:=Tryz.zeroValue0
 t2:=Tryz.underlying2
 a2:=Tryz.isAgg2
 z2:=Tryz.sizeOf2
 v2:=Tryz.zeroValue2
 t3:=Tryz.underlying3
 a3:=Tryz.isAgg3
 z3:=Tryz.sizeOf3
 v3:=Tryz.zeroValue3
 t4:=Tryz.underlying4
 a4:=Tryz.isAgg4
 z4:=Tryz.sizeOf4
 v4:=Tryz.zeroValue4
 t5:=Tryz.underlying5
 a5:=Tryz.isAgg5
 z5:=Tryz.sizeOf5
 v5:=Tryz.zeroValue5
 t9:=Tryz.underlying9
 a9:=Tryz.isAgg9
 z9:=Tryz.sizeOf9
 v9:=Tryz.zeroValue9
 t20:=Tryz.underlying20
 a20:=Tryz.isAgg20
 z20:=Tryz.sizeOf20
 v20:=Tryz.zeroValue20
 t21:=Tryz.underlying21
 a21:=Tryz.isAgg21
 z21:=Tryz.sizeOf21
 v21:=Tryz.zeroValue21
 t37:=Tryz.underlying49
 a37:=Tryz.isAgg49
 z37:=Tryz.sizeOf49
 v37:=Tryz.zeroValue49
 t46:=Tryz.underlying245
 a46:=Tryz.isAgg245
 z46:=Tryz.sizeOf245
 v46:=Tryz.zeroValue245
 t51:=Tryz.underlying191
 a51:=Tryz.isAgg191
 z51:=Tryz.sizeOf191
 v51:=Tryz.zeroValue191
 t53:=Tryz.underlying279
 a53:=Tryz.isAgg279
 z53:=Tryz.sizeOf279
 v53:=Tryz.zeroValue279
 t75:=Tryz.underlying59
 a75:=Tryz.isAgg59
 z75:=Tryz.sizeOf59
 v75:=Tryz.zeroValue59
 t76:=Tryz.underlying60
 a76:=Tryz.isAgg60
 z76:=Tryz.sizeOf60
 v76:=Tryz.zeroValue60
 t85:=Tryz.underlying299
 a85:=Tryz.isAgg299
 z85:=Tryz.sizeOf299
 v85:=Tryz.zeroValue299
 t127:=Tryz.underlying130
 a127:=Tryz.isAgg130
 z127:=Tryz.sizeOf130
 v127:=Tryz.zeroValue130
 t143:=Tryz.underlying319
 a143:=Tryz.isAgg319
 z143:=Tryz.sizeOf319
 v143:=Tryz.zeroValue319
 t145:=Tryz.underlying321
 a145:=Tryz.isAgg321
 z145:=Tryz.sizeOf321
 v145:=Tryz.zeroValue321
 t167:=Tryz.underlying298
 a167:=Tryz.isAgg298
 z167:=Tryz.sizeOf298
 v167:=Tryz.zeroValue298
 t168:=Tryz.underlying301
 a168:=Tryz.isAgg301
 z168:=Tryz.sizeOf301
 v168:=Tryz.zeroValue301
 t171:=Tryz.underlying304
 a171:=Tryz.isAgg304
 z171:=Tryz.sizeOf304
 v171:=Tryz.zeroValue304
 t173:=Tryz.underlying307
 a173:=Tryz.isAgg307
 z173:=Tryz.sizeOf307
 v173:=Tryz.zeroValue307
 t175:=Tryz.underlying309
 a175:=Tryz.isAgg309
 z175:=Tryz.sizeOf309
 v175:=Tryz.zeroValue309
 t210:=Tryz.underlying312
 a210:=Tryz.isAgg312
 z210:=Tryz.sizeOf312
 v210:=Tryz.zeroValue312
 t212:=Tryz.underlying315
 a212:=Tryz.isAgg315
 z212:=Tryz.sizeOf315
 v212:=Tryz.zeroValue315
 t213:=Tryz.underlying316
 a213:=Tryz.isAgg316
 z213:=Tryz.sizeOf316
 t232:=Tryz.underlying323
 a232:=Tryz.isAgg323
 z232:=Tryz.sizeOf323
 v232:=Tryz.zeroValue323
 t233:=Tryz.underlying324
 a233:=Tryz.isAgg324
 z233:=Tryz.sizeOf324
 v233:=Tryz.zeroValue324
 g15:=by kernel_rfl
 g16:=by kernel_rfl
 g17:=by kernel_rfl
 g18:=by kernel_rfl
 g19:=by kernel_rfl
 t80:=Tryz.underlying63
 a80:=Tryz.isAgg63
 z80:=Tryz.sizeOf63
 v80:=Tryz.zeroValue63
 i0:=by kernel_rfl
 i2:=by kernel_rfl
 i3:=by kernel_rfl
 i4:=by kernel_rfl
 i5:=by kernel_rfl
 i9:=by kernel_rfl
 i20:=by kernel_rfl
 i21:=by kernel_rfl
 i37:=by kernel_rfl
 i46:=by kernel_rfl
 i51:=by kernel_rfl
 i53:=by kernel_rfl
 i75:=by kernel_rfl
 i76:=by kernel_rfl
 i80:=by kernel_rfl
 i85:=by kernel_rfl
 i127:=by kernel_rfl
 i143:=by kernel_rfl
 i145:=by kernel_rfl
 i167:=by kernel_rfl
 i168:=by kernel_rfl
 i171:=by kernel_rfl
 i173:=by kernel_rfl
 i175:=by kernel_rfl
 i210:=by kernel_rfl
 i212:=by kernel_rfl
 i232:=by kernel_rfl
 i233:=by kernel_rfl
 m15:=by kernel_rfl
 m16:=by kernel_rfl
 m17:=by kernel_rfl
 m18:=by kernel_rfl
 m19:=by kernel_rfl
 c0:=by kernel_rfl
 c2:=by kernel_rfl
 c3:=by kernel_rfl
 c4:=by kernel_rfl
 c5:=by kernel_rfl
 c9:=by kernel_rfl
 c20:=by kernel_rfl
 c21:=by kernel_rfl
 c37:=by kernel_rfl
 c46:=by kernel_rfl
 c51:=by kernel_rfl
 c53:=by kernel_rfl
 c75:=by kernel_rfl
 c76:=by kernel_rfl
 c80:=by kernel_rfl
 c85:=by kernel_rfl
 c127:=by kernel_rfl
 c143:=by kernel_rfl
 c145:=by kernel_rfl
 c167:=by kernel_rfl
 c168:=by kernel_rfl
 c171:=by kernel_rfl
 c173:=by kernel_rfl
 c175:=by kernel_rfl
 c210:=by kernel_rfl
 c212:=by kernel_rfl
 c213:=by kernel_rfl
 c232:=by kernel_rfl
 c233:=by kernel_rfl}
open Go.RowKit in
theorem Tryz.strconv_Atoi_ok (s:ByteArray)(hmax:s.size≤9223372036854775806)(v:Int)(h:Lib.atoiAll s.data.toList= .ok v)(w:World):
  Calls Tryz.prog 277 #[.string s] w fun e w'=>e= .returned (.tuple #[.int .i64 v,.nilIface])∧(w'=w∨∃t,w'=Lib.bytesWorld w 5 t):=Any.strconv_Atoi_ok Tryz.laysC172 s hmax v h w
open Go.RowKit in
theorem Tryz.strconv_Atoi_range (s:ByteArray)(hlim:s.size≤281474976710656)(h:Lib.atoiAll s.data.toList= .range)(ev:Value)(w:World)(hv:w.cell? ⟨6,0,none⟩=some ev)(hev:ev= .nilIface∨∃te pe,ev= .iface te pe):
  Calls Tryz.prog 277 #[.string s] w fun e w'=>∃N,e= .returned (.tuple #[.int .i64 (Lib.atoiSat s.data.toList),.iface 301 (.pointer (some ⟨N,0,none⟩))])∧w.heap.size≤N∧w'.heap[N]?=some (.cells #[.string ⟨#[65,116,111,105]⟩,.string s,ev] 312 (0,0))∧Below w.heap.size w w':=Any.strconv_Atoi_range Tryz.laysC172 s hlim h ev w hv hev
end Go.Proofs
namespace Go.Proofs.YtlnpgbnhcondjaaGreatDoor.Fx
open Vg Tf Go.Sort
set_option linter.unusedSimpArgs false
set_option linter.unusedVariables false
set_option maxRecDepth 100000
set_option maxHeartbeats 4000000
def digA (a:Nat)(l:Str):Nat:=l.foldl (fun a c=>a*10+(c.toNat-48)) a
theorem digA_ge:∀(l:Str) (a:Nat),a≤digA a l
 |[],a=>Nat.le_refl _
 |c::l,a=>by
  have:=digA_ge l (a*10+(c.toNat-48))
  show a≤digA (a*10+(c.toNat-48)) l
  omega
theorem pu_digs:∀(l:Str) (a:Nat),a<18446744073709551616→l.all diB=true→Lib.parseUint10 a l=if digA a l<18446744073709551616 then .ok (digA a l)else .range
 |[],a,ha,_=>by rw[if_pos (by exact ha)];rfl
 |c::l,a,ha,h=>by
  rw[List.all_cons,Bool.and_eq_true]at h
  have hc:48≤c.toNat∧c.toNat≤57:=by have:=h.1;unfold diB at this;simpa using this
  have e:digA a (c::l)=digA (a*10+(c.toNat-48)) l:=rfl
  have hge:=digA_ge l (a*10+(c.toNat-48))
  rw[Lib.parseUint10,if_pos hc,e]
  by_cases h1:1844674407370955162≤a
  ·rw[if_pos h1,if_neg (by omega)]
  ·rw[if_neg h1]
   by_cases h2:18446744073709551616≤a*10+(c.toNat-48)
   ·rw[if_pos h2,if_neg (by omega)]
   ·rw[if_neg h2,pu_digs l _ (by omega) h.2]
theorem pm_digs {l:Str}(h0:l≠[])(h:l.all diB=true):Lib.parseMag l=if digV l<18446744073709551616 then .ok (digV l)else .range:=by
 rw[Lib.parseMag,if_neg h0,pu_digs l 0 (by omega) h];rfl
theorem atoi_num {s:Str}(h0:dgT s≠[])(h:(dgT s).all diB=true):Lib.atoiAll s=if-9223372036854775808≤numV s∧numV s≤9223372036854775807 then .ok (numV s)else .range:=by
 cases s with
 |nil=>exact absurd rfl h0
 |cons c r=>
  have hn:ngB (c::r)=(c==45):=rfl
  unfold numV
  rw[hn]at*
  have hd:dgT (c::r)=bif c==45 then r else c::r:=by unfold dgT;rw[hn];rfl
  rw[hd]at h0 h⊢
  unfold Lib.atoiAll
  cases hc:c==45 with
  |true=>
   rw[hc]at h0 h
   simp only[cond_true]at h0 h⊢
   have hc:c.toNat=45:=by rw[eq_of_beq hc];rfl
   simp only[hc,or_true,if_true,true_and,not_true_eq_false,false_and,if_false,cond_true]
   rw[pm_digs h0 h]
   by_cases h1:digV r<18446744073709551616
   ·rw[if_pos h1]
    simp only
    by_cases h2:9223372036854775808<digV r
    ·rw[if_pos h2,if_neg (by omega)]
    ·rw[if_neg h2,if_pos (by omega)]
   ·rw[if_neg h1,if_neg (by omega)]
  |false=>
   rw[hc]at h0 h
   simp only[cond_false]at h0 h⊢
   have hd2:diB c=true:=by rw[List.all_cons,Bool.and_eq_true]at h;exact h.1
   have hcc:48≤c.toNat∧c.toNat≤57:=by unfold diB at hd2;simpa using hd2
   have q1:¬c.toNat=43:=by omega
   have q2:¬c.toNat=45:=by omega
   simp only[q1,q2,or_false,if_false,not_false_eq_true,true_and,false_and,cond_false]
   rw[pm_digs h0 h]
   by_cases h1:digV (c::r)<18446744073709551616
   ·rw[if_pos h1]
    simp only
    by_cases h2:9223372036854775808≤digV (c::r)
    ·rw[if_pos h2,if_neg (by omega)]
    ·rw[if_neg h2,if_pos (by omega)]
   ·rw[if_neg h1,if_neg (by omega)]
end Go.Proofs.YtlnpgbnhcondjaaGreatDoor.Fx
namespace Go.Proofs.YtlnpgbnhcondjaaGreatDoor.Fx
open Vg Tf
set_option linter.unusedSimpArgs false
set_option linter.unusedVariables false
set_option maxRecDepth 100000
set_option maxHeartbeats 4000000
theorem callX_below {H:Hp}{P:Program}{f:FuncId}{args:List V}{α:Type}{v:α→V}{Q:α→Prop}(he:Enters P f)
  (h:∀β w,(∀b o,H b o→w.heap[b]?=some o)→Calls P f (args.map (V.g β)).toArray w fun en w'=>∃x,(∀β'',en= .returned ((v x).g β''))∧RowKit.Below w.heap.size w w'∧Q x):CallX H P f args [] v (fun _=>[]) (fun x _=>Q x):=by
 refine⟨he,fun _ n b hn=>(by cases hn),fun _ n b b' hn=>(by cases hn),fun β w Z hm hH hZ=>(h β w fun b o hb=>(hH b o hb).1).mono ?_⟩
 rintro en w' ⟨x,hx,hb,hq⟩
 refine⟨x,β,fun _ _=>False,Agree.refl _ _,fun β'' _=>hx β'',⟨fun β' _ n b hn=>(by cases hn),fun n b hn=>(by cases hn),fun n m b b' hn=>(by cases hn)⟩,⟨hb.os,hb.tape,hb.output,hb.size,fun k _ hk=>hb.block k hk⟩,fun n hn=>(by cases hn),fun _ _ hf=>hf.elim,hq⟩
theorem below_bytes (w:World)(e:TypeId)(s:ByteArray):RowKit.Below w.heap.size w (Lib.bytesWorld w e s):=
 ⟨rfl,rfl,rfl,by rw[Lib.bytesWorld_size];omega,fun k hk=>Lib.bytesWorld_at_old w e s k hk⟩
theorem _root_.Go.Proofs.YtlnpgbnhcondjaaGreatDoor.Vg.Sm.neqI {P:Program}{nt:Nat}{C:Cx}{rg:Array Oper}{o:Oper}{l:List Oper}{r:List It}{e:Env}{M:Mem}{x:Operand}{t1 t2:TypeId}{v:Value}(b:Bool)(hg:gd rg e o=some true)(hd:dstOk nt o.dst=true)(ho:o.op= .binOp .neq t1 x (.const .nilIface) t2)
  (hx:rd e x=some (true,.c (.v v))) (hu:P.underlying t1=some (.interface (P.methodsAt t1))) (hv:(b=false∧v= .nilIface)∨(b=true∧∃u z,v= .iface u z))
  (h:Sm P nt C (.ops rg l::r) (e.put o.dst true (.c (.v (.bool b)))) M):Sm P nt C (.ops rg (o::l)::r) e M:=fun β a w h1 h2 h3 h4=>by
 have hw:Region.wanted o (yielded rg a.tmps)=true:=gd_ok (β:=β) hg (fun j want t y _ _ hy=>h2 β (Agree.refl _ _) t y hy)
 have ex:a.eval x=v:=by
  have:=rd_ok h2 (Agree.refl _ _) hx
  simpa[gv,V.g,Cv.g]using this
 have ey:a.eval (.const .nilIface)= .nilIface:=rfl
 have hrun:(execOp a.eval o).run P w= .ok (.value (.bool b)) w:=by
  rcases hv with⟨rfl,rfl⟩|⟨rfl,u,z,rfl⟩
  ·unfold execOp
   have hq:=fun w=>run_equal_nil_nil (P:=P) w t1 hu
   simp[ho,ex,ey,eqGuard,binOp,hq]
  ·unfold execOp
   have hq:=fun w=>run_equal_held_nil (P:=P) w t1 u z hu
   simp[ho,ex,ey,eqGuard,binOp,hq]
 show wpListIn (fen C.lp) 0 P rg (cont P C.lp C.Q r) (o::l) a w
 refine wpListIn_step fun K hK=>?_
 rw[hw]
 simp only[if_true]
 refine Oper.wp_in C.lp (gd_nd hg).1 ?_
 unfold Oper.wp
 rw[hrun]
 refine hK _ _ (h β _ w h1 ?_ ?_ ?_)
 ·exact h2.put (N:=[]) (Agree.refl _ _) h3 (dstOk_lt hd) (fun β'' _=>rfl)
 ·cases o.dst<;>simp[Act.put,h3]
 ·cases o.dst<;>simp[Act.put,h4]
abbrev Wv (v:Value):W:= .c (.v v)
theorem atoi_ok {H:Hp}(s:Str)(hs:s.length≤1000000)(h0:dgT s≠[])(h:(dgT s).all diB=true)(hv: -9223372036854775808≤numV s∧numV s≤9223372036854775807):CallH H Tryz.prog 277 [S s] (.tup [Wi (numV s),Wv .nilIface]):=by
 refine callX_below (Q:=fun _=>True) en277 fun β w _=>?_
 refine(Tryz.strconv_Atoi_ok ⟨s.toArray⟩ (by show s.toArray.size≤_;rw[List.size_toArray];omega) (numV s) (by show Lib.atoiAll s=_;rw[atoi_num h0 h,if_pos hv]) w).mono ?_
 rintro e w' ⟨rfl,hw⟩
 refine⟨(),fun _=>rfl,?_,trivial⟩
 rcases hw with rfl|⟨t,rfl⟩
 ·exact RowKit.Below.refl _ _
 ·exact below_bytes _ _ _
def ErR (H:Hp):Prop:=∃ev el mk,H 6 (.cells #[ev] el mk)∧(ev= .nilIface∨∃te pe,ev= .iface te pe)
theorem atoi_rg {H:Hp}(hE:ErR H)(s:Str)(hs:s.length≤1000000)(h0:dgT s≠[])(h:(dgT s).all diB=true)(hv:¬(-9223372036854775808≤numV s∧numV s≤9223372036854775807)):
  CallX H Tryz.prog 277 [S s] [] (fun x:Nat=> .tup [Wi (Lib.atoiSat s),Wv (.iface 301 (.pointer (some ⟨x,0,none⟩)))]) (fun _=>[]) (fun _ _=>True):=by
 obtain⟨ev,el,mk,hc,hev⟩:=hE
 refine callX_below (Q:=fun _=>True) en277 fun β w hw=>?_
 refine(Tryz.strconv_Atoi_range ⟨s.toArray⟩ (by show s.toArray.size≤_;rw[List.size_toArray];omega) (by show Lib.atoiAll s=_;rw[atoi_num h0 h,if_neg hv]) ev w (by simp[World.cell?,hw _ _ hc]) hev).mono ?_
 rintro e w' ⟨N,rfl,_,_,hb⟩
 exact⟨N,fun _=>rfl,hb,trivial⟩
theorem hlp (l:Str)(h:(l==[])=false):(0:Int)<(l.length:Int):=by
 cases l with
 |nil=>cases h
 |cons a b=>simp only[List.length_cons];omega
theorem apz (s d:Str)(hd:dgT s=d):(dgT s==[]||((dgT s).getD 0 0==48&&decide (1<s.length)))=(bif d==[]then true else bif ((d.getD 0 0).toNat:Int)==48 then decide ((1:Int)<(s.length:Int))else false):=by
 rw[hd]
 have e1:(d.getD 0 0==48)=(((d.getD 0 0).toNat:Int)==48):=by
  rw[Bool.eq_iff_iff,beq_iff_eq,beq_iff_eq]
  constructor
  ·intro h;rw[h];rfl
  ·intro h;exact UInt8.toNat_inj.1 (by show _=48;omega)
 have e2:decide (1<s.length)=decide ((1:Int)<(s.length:Int)):=by rw[decide_eq_decide];omega
 rw[e1,e2]
 cases d==[]<;>cases ((d.getD 0 0).toNat:Int)==48<;>rfl
theorem arp_ {H:Hp}(s:Str)(hE:¬(-9223372036854775808≤numV s∧numV s≤9223372036854775807)→ErR H)(hs:s.length≤1000000):CallH H Tryz.prog 251 [S s] (.tup [Wi (aprQ s).1,Wi (aprQ s).2]):=by
 refine CallH.mkS Tryz.func251 rfl en251 (by simp[Tryz.ntmps251]) (ClA.of rfl) fun C hR hP hH hL=>?_
 have hR0:=hR
 unfold aprQ at hR0
 have hR:=hR0 C hL
 by_cases h24:24<s.length
 ·have h1:decide ((24:Int)<(s.length:Int))=true:=tru_of (by omega)
  rw[if_pos h24]at hR
  refine Sm.go 100 ?_
  simp(maxSteps:=2000000) only[go_sem,h1]
  exact RetQ.of hR rfl scc rvv (Sub.nil _) ClM.nil (ClV.of rfl)
 have h1:decide ((24:Int)<(s.length:Int))=false:=fal_of (by omega)
 simp only[if_neg h24]at hR hR0
 refine Sm.go 100 ?_
 simp(maxSteps:=2000000) only[go_sem,h1]
 have hng:ngB s=bif !s==[]then((s.getD 0 0).toNat:Int)==45 else false:=by
  unfold ngB
  cases s with
  |nil=>rfl
  |cons c r=>
   show(c==45)=((c.toNat:Int)==45)
   rw[Bool.eq_iff_iff,beq_iff_eq,beq_iff_eq]
   constructor
   ·intro h;rw[h];rfl
   ·intro h;exact UInt8.toNat_inj.1 (by show _=45;omega)
 refine⟨fun h=>⟨h,hlp s h⟩,?_⟩
 refine mtch (fun hg=>?_) (fun hg=>?_)
 ·have hng:=hng.trans hg
  have hd:dgT s=s.drop 1:=by unfold dgT;rw[hng];rfl
  have hne:(s==[])=false:=by cases s with|nil=>cases hg|cons=>rfl
  have hl0:=hlp s hne
  have htk:List.take ((s.length:Int)-1).toNat (List.drop 1 s)=s.drop 1:=List.take_of_length_le (by rw[List.length_drop];omega)
  simp only[htk]
  have hz3:=apz s _ hd
  have hdl:(s.drop 1).length≤1000000:=by rw[List.length_drop];omega
  have hnv:numV s=numV s:=rfl
  generalize s.drop 1=d at*
  refine⟨⟨by omega,by omega⟩,?_⟩
  refine⟨fun h=>⟨h,hlp d h⟩,fun h=>⟨h,fun h2=>by rw[h,h2];rfl⟩,?_⟩
  refine mtch (fun hz=>?_) (fun hz=>?_)
  ·rw[if_pos (hz3.trans hz)]at hR
   exact RetQ.of hR rfl scc rvv (Sub.nil _) ClM.nil (ClV.of rfl)
  ·have hdne:dgT s≠[]:=by
    intro e
    have:=hz3.trans hz
    rw[e]at this;cases this
   rw[hd]at hdne
   simp only[if_neg (show ¬(dgT s==[]||((dgT s).getD 0 0==48&&decide (1<s.length)))=true by rw[hz3.trans hz];simp)]at hR hR0
   simp only[hd]at hR hR0
   refine Sm.loopM (M0:=[]) (α:={i:Nat//i≤d.length∧(d.take i).all diB=true}) hP (fun i=>[(0,true,S s),(4,true,S d),(34,true,I d.length),(35,true,I i.val)]) (fun _=>[]) (fun i=>d.length-i.val) ⟨0,by omega,rfl⟩ (fun _=>ClM.nil) (fun _=>ClE.of rfl) [] ?_ ?_
   ·exact⟨rfl,trivial,⟨rfl,rfl,rfl,rfl,trivial⟩,trivial⟩
   ·rintro⟨i,hi,hx⟩ J hb
    simp only at hb hi hx⊢
    refine Sm.go 120 ?_
    refine vv ?_
    refine mtch (fun hc=>?_) (fun hc=>?_)
    ·have hc:=lt_of_dec hc
     have htk:d.take (i+1)=d.take i++[d.getD i 0]:=by rw[List.take_succ_eq_append_getElem hc,List.getD_eq_getElem?_getD,List.getElem?_eq_getElem hc];rfl
     have hmem:d.getD i 0∈d:=by rw[List.getD_eq_getElem?_getD,List.getElem?_eq_getElem hc];exact List.getElem_mem hc
     refine⟨⟨by omega,by omega⟩,fun h=>⟨h,by omega,by omega⟩,?_⟩
     refine mtch (fun hq=>?_) (fun hq=>?_)
     ·have hbad:diB (d.getD i 0)=false:=by
       unfold diB
       generalize (d.getD i 0).toNat=c at hq
       by_cases h48:48≤c
       ·have e1:decide ((c:Int)<48)=false:=fal_of (by omega)
        rw[e1,cond_false]at hq
        have:=of_decide_eq_true hq
        rw[decide_eq_true h48,decide_eq_false (by omega)];rfl
       ·rw[decide_eq_false h48];rfl
      have hall:d.all diB=false:=by rw[List.all_eq_false];exact⟨_,hmem,by rw[hbad];simp⟩
      simp only[hall,if_true]at hR
      exact RetQ.of hR rfl scc rvv (Sub.nil _) ClM.nil (ClV.of rfl)
     ·have hgood:diB (d.getD i 0)=true:=by
       unfold diB
       generalize (d.getD i 0).toNat=c at hq
       by_cases h48:48≤c
       ·have e1:decide ((c:Int)<48)=false:=fal_of (by omega)
        rw[e1,cond_false]at hq
        have:=of_decide_eq_false hq
        rw[decide_eq_true h48,decide_eq_true (by omega)];rfl
       ·have e1:decide ((c:Int)<48)=true:=tru_of (by omega)
        rw[e1,cond_true]at hq;cases hq
      simp only[wS (show i≤1000000000000000000 by omega)]
      exact hb _ _ ⟨i+1,hc,by rw[htk,List.all_append,hx,List.all_cons,hgood];rfl⟩ [] (by simp only;omega) ⟨rfl,trivial,⟨rfl,rfl,rfl,rfl,trivial⟩,trivial⟩
    ·have hc:=eq_of_dec hi hc
     subst hc
     rw[List.take_length]at hx
     simp only[hx,Bool.true_eq_false,if_false]at hR hR0
     by_cases hv: -9223372036854775808≤numV s∧numV s≤9223372036854775807
     ·simp only[if_pos hv]at hR
      refine CallQ.h 130 (atoi_ok (H:=H) s hs (by rw[hd];exact hdne) (by rw[hd];exact hx) hv) hH rfl ?_
      refine vv ?_
      refine Sm.neqI false rfl rfl rfl rfl Tryz.underlying59 (.inl ⟨rfl,rfl⟩) (Sm.go 140 ?_)
      refine vv ?_
      exact RetQ.of hR rfl scc rvv (Sub.nil _) ClM.nil (ClV.of rfl)
     ·simp only[if_neg hv]at hR0
      refine CallQ.x 130 hL (atoi_rg (hE hv) s hs (by rw[hd];exact hdne) (by rw[hd];exact hx) hv) hH (Sub.nil _) ClM.nil (fun _=>Fresh.nil _ _) rfl rfl rfl (fun N Cn H' l1 _ _ _=>?_)
      have hR:=hR0 Cn l1
      refine vv ?_
      refine Sm.neqI true rfl rfl rfl rfl Tryz.underlying59 (.inr ⟨rfl,_,_,rfl⟩) (Sm.go 140 ?_)
      refine vv ?_
      exact RetQ.of hR rfl scc rvv (Sub.nil _) ClM.nil (ClV.of rfl)
 ·have hng:=hng.trans hg
  have hd:dgT s=s:=by unfold dgT;rw[hng];rfl
  have hz3:=apz s _ hd
  have hdl:=hs
  refine⟨fun h=>⟨h,hlp s h⟩,fun h=>⟨h,fun h2=>by rw[h,h2];rfl⟩,?_⟩
  refine mtch (fun hz=>?_) (fun hz=>?_)
  ·rw[if_pos (hz3.trans hz)]at hR
   exact RetQ.of hR rfl scc rvv (Sub.nil _) ClM.nil (ClV.of rfl)
  ·have hdne:dgT s≠[]:=by
    intro e
    have:=hz3.trans hz
    rw[e]at this;cases this
   rw[hd]at hdne
   simp only[if_neg (show ¬(dgT s==[]||((dgT s).getD 0 0==48&&decide (1<s.length)))=true by rw[hz3.trans hz];simp)]at hR hR0
   simp only[hd]at hR hR0
   refine Sm.loopM (M0:=[]) (α:={i:Nat//i≤s.length∧(s.take i).all diB=true}) hP (fun i=>[(0,true,S s),(4,true,S s),(34,true,I s.length),(35,true,I i.val)]) (fun _=>[]) (fun i=>s.length-i.val) ⟨0,by omega,rfl⟩ (fun _=>ClM.nil) (fun _=>ClE.of rfl) [] ?_ ?_
   ·exact⟨rfl,trivial,⟨rfl,rfl,rfl,rfl,trivial⟩,trivial⟩
   ·rintro⟨i,hi,hx⟩ J hb
    simp only at hb hi hx⊢
    refine Sm.go 120 ?_
    refine vv ?_
    refine mtch (fun hc=>?_) (fun hc=>?_)
    ·have hc:=lt_of_dec hc
     have htk:s.take (i+1)=s.take i++[s.getD i 0]:=by rw[List.take_succ_eq_append_getElem hc,List.getD_eq_getElem?_getD,List.getElem?_eq_getElem hc];rfl
     have hmem:s.getD i 0∈s:=by rw[List.getD_eq_getElem?_getD,List.getElem?_eq_getElem hc];exact List.getElem_mem hc
     refine⟨⟨by omega,by omega⟩,fun h=>⟨h,by omega,by omega⟩,?_⟩
     refine mtch (fun hq=>?_) (fun hq=>?_)
     ·have hbad:diB (s.getD i 0)=false:=by
       unfold diB
       generalize (s.getD i 0).toNat=c at hq
       by_cases h48:48≤c
       ·have e1:decide ((c:Int)<48)=false:=fal_of (by omega)
        rw[e1,cond_false]at hq
        have:=of_decide_eq_true hq
        rw[decide_eq_true h48,decide_eq_false (by omega)];rfl
       ·rw[decide_eq_false h48];rfl
      have hall:s.all diB=false:=by rw[List.all_eq_false];exact⟨_,hmem,by rw[hbad];simp⟩
      simp only[hall,if_true]at hR
      exact RetQ.of hR rfl scc rvv (Sub.nil _) ClM.nil (ClV.of rfl)
     ·have hgood:diB (s.getD i 0)=true:=by
       unfold diB
       generalize (s.getD i 0).toNat=c at hq
       by_cases h48:48≤c
       ·have e1:decide ((c:Int)<48)=false:=fal_of (by omega)
        rw[e1,cond_false]at hq
        have:=of_decide_eq_false hq
        rw[decide_eq_true h48,decide_eq_true (by omega)];rfl
       ·have e1:decide ((c:Int)<48)=true:=tru_of (by omega)
        rw[e1,cond_true]at hq;cases hq
      simp only[wS (show i≤1000000000000000000 by omega)]
      exact hb _ _ ⟨i+1,hc,by rw[htk,List.all_append,hx,List.all_cons,hgood];rfl⟩ [] (by simp only;omega) ⟨rfl,trivial,⟨rfl,rfl,rfl,rfl,trivial⟩,trivial⟩
    ·have hc:=eq_of_dec hi hc
     subst hc
     rw[List.take_length]at hx
     simp only[hx,Bool.true_eq_false,if_false]at hR hR0
     by_cases hv: -9223372036854775808≤numV s∧numV s≤9223372036854775807
     ·simp only[if_pos hv]at hR
      refine CallQ.h 130 (atoi_ok (H:=H) s hs (by rw[hd];exact hdne) (by rw[hd];exact hx) hv) hH rfl ?_
      refine vv ?_
      refine Sm.neqI false rfl rfl rfl rfl Tryz.underlying59 (.inl ⟨rfl,rfl⟩) (Sm.go 140 ?_)
      refine vv ?_
      exact RetQ.of hR rfl scc rvv (Sub.nil _) ClM.nil (ClV.of rfl)
     ·simp only[if_neg hv]at hR0
      refine CallQ.x 130 hL (atoi_rg (hE hv) s hs (by rw[hd];exact hdne) (by rw[hd];exact hx) hv) hH (Sub.nil _) ClM.nil (fun _=>Fresh.nil _ _) rfl rfl rfl (fun N Cn H' l1 _ _ _=>?_)
      have hR:=hR0 Cn l1
      refine vv ?_
      refine Sm.neqI true rfl rfl rfl rfl Tryz.underlying59 (.inr ⟨rfl,_,_,rfl⟩) (Sm.go 140 ?_)
      refine vv ?_
      exact RetQ.of hR rfl scc rvv (Sub.nil _) ClM.nil (ClV.of rfl)
theorem num_ {H:Hp}(s:Str)(hE:¬(-9223372036854775808≤numV s∧numV s≤9223372036854775807)→ErR H)(hs:s.length≤1000000):CallH H Tryz.prog 266 [S s] (.tup [Wi (nmbQ s).1,Wi (nmbQ s).2]):=by
 have ha:=arp_ s hE hs
 refine CallH.mkS Tryz.func266 rfl en266 (by simp[Tryz.ntmps266]) (ClA.of rfl) fun C hR hP hH hL=>?_
 have hR:=hR C hL
 unfold nmbQ at hR
 generalize aprQ s=r at*
 obtain⟨n,e⟩:=r
 simp only at ha hR
 refine Sm.go 100 ?_
 refine vv ?_
 refine CallQ.h 110 ha hH rfl ?_
 refine vv ?_
 cases he:e==0 with
 |false=>
  have hne:e≠0:=fun h=>by rw[h]at he;cases he
  simp only[hne,ne_eq,not_false_eq_true,if_true]at hR
  simp(maxSteps:=2000000) only[go_sem,he,bne]
  exact RetQ.of hR rfl scc rvv (Sub.nil _) ClM.nil (ClV.of rfl)
 |true=>
  have h0:e=0:=eq_of_beq he
  simp only[h0,ne_eq,not_true_eq_false,if_false]at hR
  simp(maxSteps:=2000000) only[go_sem,he,bne]
  refine mtch (fun hq=>?_) (fun hq=>?_)
  ·have hb:1099511627776<n∨n< -1099511627776:=by
    by_cases h1:1099511627776<n
    ·exact .inl h1
    ·rw[decide_eq_false h1,cond_false]at hq;exact .inr (of_decide_eq_true hq)
   simp only[if_pos hb]at hR
   exact RetQ.of hR rfl scc rvv (Sub.nil _) ClM.nil (ClV.of rfl)
  ·have hb:¬(1099511627776<n∨n< -1099511627776):=by
    by_cases h1:1099511627776<n
    ·rw[decide_eq_true h1,cond_true]at hq;cases hq
    ·rw[decide_eq_false h1,cond_false]at hq
     have:=of_decide_eq_false hq
     omega
   simp only[if_neg hb]at hR
   exact RetQ.of hR rfl scc rvv (Sub.nil _) ClM.nil (ClV.of rfl)
def gdN (s:Str):Prop:=s.length≤1000000∧ -9223372036854775808≤numV s∧numV s≤9223372036854775807
theorem _root_.Go.Proofs.YtlnpgbnhcondjaaGreatDoor.Vg.CallX.toOk {P:Program}{f:FuncId}{args:List V}{M N:Mem}{v:V}{Q:Unit→Hp→Prop}(h:CallX (fun _ _=>False) P f args M (fun _:Unit=>v) (fun _=>N) Q):CallOk P f args M v N:=by
 obtain⟨h1,h2,h3,h4⟩:=h
 refine⟨h1,h2 (),h3 (),fun β w hm=>(h4 β w (fun _=>False) hm (fun _ _ h=>h.elim) (fun _ h=>h.elim)).mono ?_⟩
 rintro en w' ⟨_,β',H',k1,k2,k3,k4,k5,_⟩
 exact⟨β',k1,k2,k3,k4,k5⟩
theorem numG_ {s:Str}(h:gdN s):CallOk Tryz.prog 266 [S s] [] (.tup [Wi (nmbQ s).1,Wi (nmbQ s).2]) []:=(num_ s (fun hn=>absurd h.2 hn) h.1).toOk
end Go.Proofs.YtlnpgbnhcondjaaGreatDoor.Fx
