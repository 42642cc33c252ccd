/-  -/
import Derived.Test.YtlnpgbnhcondjaaGreatDoorPS
import Derived.Shelf.LaysC
import Derived.Shelf.Strconv.AtoiAll
import Derived.Shelf.Strconv.ErrVarAll
import Derived.Test.YtlnpgbnhcondjaaGreatDoorProg
import Derived.Test.YtlnpgbnhcondjaaGreatDoorYJ
namespace Go.Proofs
set_option linter.unusedSimpArgs false
set_option linter.unusedVariables false
open Go.Shelf
def Tryz.laysC172_ren:Go.Shelf.Ren:=⟨fun|172=>277|244=>285|245=>286|247=>290|279=>291|280=>292|281=>293|282=>294|287=>300|316=>301|171=>259|205=>302|321=>308|322=>309|243=>278|246=>287|283=>295|284=>296|285=>297|286=>298|129=>304|317=>303|318=>305|319=>306|320=>307|337=>310|338=>311|n=>n,fun|9=>9|3=>3|75=>59|76=>60|4=>4|5=>5|167=>298|37=>49|0=>0|85=>299|2=>2|168=>301|53=>279|175=>309|46=>245|210=>312|127=>130|145=>321|143=>319|21=>21|171=>304|173=>307|212=>315|51=>191|20=>20|213=>316|232=>323|233=>324|80=>63|n=>n,fun|15=>5|16=>6|17=>7|18=>8|19=>9|n=>n⟩
theorem Tryz.laysC172:Go.Proofs.LaysC.n172 Tryz.prog Tryz.laysC172_ren:={
 mixed:=by kernel_rfl
 f129:=Tryz.func304.trans (congrArg some (by kernel_rfl))
 f171:=Tryz.func259.trans (congrArg some (by kernel_rfl))
 f172:=Tryz.func277.trans (congrArg some (by kernel_rfl))
 f205:=Tryz.func302.trans (congrArg some (by kernel_rfl))
 f243:=Tryz.func278.trans (congrArg some (by kernel_rfl))
 f244:=Tryz.func285.trans (congrArg some (by kernel_rfl))
 f245:=Tryz.func286.trans (congrArg some (by kernel_rfl))
 f246:=Tryz.func287.trans (congrArg some (by kernel_rfl))
 f247:=Tryz.func290.trans (congrArg some (by kernel_rfl))
 f279:=Tryz.func291.trans (congrArg some (by kernel_rfl))
 f280:=Tryz.func292.trans (congrArg some (by kernel_rfl))
 f281:=Tryz.func293.trans (congrArg some (by kernel_rfl))
 f282:=Tryz.func294.trans (congrArg some (by kernel_rfl))
 f283:=Tryz.func295.trans (congrArg some (by kernel_rfl))
 f284:=Tryz.func296.trans (congrArg some (by kernel_rfl))
 f285:=Tryz.func297.trans (congrArg some (by kernel_rfl))
 f286:=Tryz.func298.trans (congrArg some (by kernel_rfl))
 f287:=Tryz.func300.trans (congrArg some (by kernel_rfl))
 f316:=Tryz.func301.trans (congrArg some (by kernel_rfl))
 f317:=Tryz.func303.trans (congrArg some (by kernel_rfl))
 f318:=Tryz.func305.trans (congrArg some (by kernel_rfl))
 f319:=Tryz.func306.trans (congrArg some (by kernel_rfl))
 f320:=Tryz.func307.trans (congrArg some (by kernel_rfl))
 f321:=Tryz.func308.trans (congrArg some (by kernel_rfl))
 f322:=Tryz.func309.trans (congrArg some (by kernel_rfl))
 f337:=Tryz.func310.trans (congrArg some (by kernel_rfl))
 f338:=Tryz.func311.trans (congrArg some (by kernel_rfl))
 t0:=Tryz.underlying0
 a0:=Tryz.isAgg0
 z0:=Tryz.sizeOf0
 v0:=Tryz.zeroValue0
 t2:=Tryz.underlying2
 a2:=Tryz.isAgg2
 z2:=Tryz.sizeOf2
 v2:=Tryz.zeroValue2
 t3:=Tryz.underlying3
 a3:=Tryz.isAgg3
 z3:=Tryz.sizeOf3
 v3:=Tryz.zeroValue3
 t4:=Tryz.underlying4
 a4:=Tryz.isAgg4
 z4:=Tryz.sizeOf4
 v4:=Tryz.zeroValue4
 t5:=Tryz.underlying5
 a5:=Tryz.isAgg5
 z5:=Tryz.sizeOf5
 v5:=Tryz.zeroValue5
 t9:=Tryz.underlying9
 a9:=Tryz.isAgg9
 z9:=Tryz.sizeOf9
 v9:=Tryz.zeroValue9
 t20:=Tryz.underlying20
 a20:=Tryz.isAgg20
 z20:=Tryz.sizeOf20
 v20:=Tryz.zeroValue20
 t21:=Tryz.underlying21
 a21:=Tryz.isAgg21
 z21:=Tryz.sizeOf21
 v21:=Tryz.zeroValue21
 t37:=Tryz.underlying49
 a37:=Tryz.isAgg49
 z37:=Tryz.sizeOf49
 v37:=Tryz.zeroValue49
 t46:=Tryz.underlying245
 a46:=Tryz.isAgg245
 z46:=Tryz.sizeOf245
 v46:=Tryz.zeroValue245
 t51:=Tryz.underlying191
 a51:=Tryz.isAgg191
 z51:=Tryz.sizeOf191
 v51:=Tryz.zeroValue191
 t53:=Tryz.underlying279
 a53:=Tryz.isAgg279
 z53:=Tryz.sizeOf279
 v53:=Tryz.zeroValue279
 t75:=Tryz.underlying59
 a75:=Tryz.isAgg59
 z75:=Tryz.sizeOf59
 v75:=Tryz.zeroValue59
 t76:=Tryz.underlying60
 a76:=Tryz.isAgg60
 z76:=Tryz.sizeOf60
 v76:=Tryz.zeroValue60
 t85:=Tryz.underlying299
 a85:=Tryz.isAgg299
 z85:=Tryz.sizeOf299
 v85:=Tryz.zeroValue299
 t127:=Tryz.underlying130
 a127:=Tryz.isAgg130
 z127:=Tryz.sizeOf130
 v127:=Tryz.zeroValue130
 t143:=Tryz.underlying319
 a143:=Tryz.isAgg319
 z143:=Tryz.sizeOf319
 v143:=Tryz.zeroValue319
 t145:=Tryz.underlying321
 a145:=Tryz.isAgg321
 z145:=Tryz.sizeOf321
 v145:=Tryz.zeroValue321
 t167:=Tryz.underlying298
 a167:=Tryz.isAgg298
 z167:=Tryz.sizeOf298
 v167:=Tryz.zeroValue298
 t168:=Tryz.underlying301
 a168:=Tryz.isAgg301
 z168:=Tryz.sizeOf301
 v168:=Tryz.zeroValue301
 t171:=Tryz.underlying304
 a171:=Tryz.isAgg304
 z171:=Tryz.sizeOf304
 v171:=Tryz.zeroValue304
 t173:=Tryz.underlying307
 a173:=Tryz.isAgg307
 z173:=Tryz.sizeOf307
 v173:=Tryz.zeroValue307
 t175:=Tryz.underlying309
 a175:=Tryz.isAgg309
 z175:=Tryz.sizeOf309
 v175:=Tryz.zeroValue309
 t210:=Tryz.underlying312
 a210:=Tryz.isAgg312
 z210:=Tryz.sizeOf312
 v210:=Tryz.zeroValue312
 t212:=Tryz.underlying315
 a212:=Tryz.isAgg315
 z212:=Tryz.sizeOf315
 v212:=Tryz.zeroValue315
 t213:=Tryz.underlying316
 a213:=Tryz.isAgg316
 z213:=Tryz.sizeOf316
 t232:=Tryz.underlying323
 a232:=Tryz.isAgg323
 z232:=Tryz.sizeOf323
 v232:=Tryz.zeroValue323
 t233:=Tryz.underlying324
 a233:=Tryz.isAgg324
 z233:=Tryz.sizeOf324
 v233:=Tryz.zeroValue324
 g15:=by kernel_rfl
 g16:=by kernel_rfl
 g17:=by kernel_rfl
 g18:=by kernel_rfl
 g19:=by kernel_rfl
 t80:=Tryz.underlying63
 a80:=Tryz.isAgg63
 z80:=Tryz.sizeOf63
 v80:=Tryz.zeroValue63
 i0:=by kernel_rfl
 i2:=by kernel_rfl
 i3:=by kernel_rfl
 i4:=by kernel_rfl
 i5:=by kernel_rfl
 i9:=by kernel_rfl
 i20:=by kernel_rfl
 i21:=by kernel_rfl
 i37:=by kernel_rfl
 i46:=by kernel_rfl
 i51:=by kernel_rfl
 i53:=by kernel_rfl
 i75:=by kernel_rfl
 i76:=by kernel_rfl
 i80:=by kernel_rfl
 i85:=by kernel_rfl
 i127:=by kernel_rfl
 i143:=by kernel_rfl
 i145:=by kernel_rfl
 i167:=by kernel_rfl
 i168:=by kernel_rfl
 i171:=by kernel_rfl
 i173:=by kernel_rfl
 i175:=by kernel_rfl
 i210:=by kernel_rfl
 i212:=by kernel_rfl
 i232:=by kernel_rfl
 i233:=by kernel_rfl
 m15:=by kernel_rfl
 m16:=by kernel_rfl
 m17:=by kernel_rfl
 m18:=by kernel_rfl
 m19:=by kernel_rfl
 c0:=by kernel_rfl
 c2:=by kernel_rfl
 c3:=by kernel_rfl
 c4:=by kernel_rfl
 c5:=by kernel_rfl
 c9:=by kernel_rfl
 c20:=by kernel_rfl
 c21:=by kernel_rfl
 c37:=by kernel_rfl
 c46:=by kernel_rfl
 c51:=by kernel_rfl
 c53:=by kernel_rfl
 c75:=by kernel_rfl
 c76:=by kernel_rfl
 c80:=by kernel_rfl
 c85:=by kernel_rfl
 c127:=by kernel_rfl
 c143:=by kernel_rfl
 c145:=by kernel_rfl
 c167:=by kernel_rfl
 c168:=by kernel_rfl
 c171:=by kernel_rfl
 c173:=by kernel_rfl
 c175:=by kernel_rfl
 c210:=by kernel_rfl
 c212:=by kernel_rfl
 c213:=by kernel_rfl
 c232:=by kernel_rfl
 c233:=by kernel_rfl}
open Go.RowKit in
theorem Tryz.strconv_Atoi_ok (s:ByteArray)(hmax:s.size≤9223372036854775806)(v:Int)(h:Lib.atoiAll s.data.toList= .ok v)(w:World):
  Calls Tryz.prog 277 #[.string s] w fun e w'=>e= .returned (.tuple #[.int .i64 v,.nilIface])∧(w'=w∨∃t,w'=Lib.bytesWorld w 5 t):=Any.strconv_Atoi_ok Tryz.laysC172 s hmax v h w
open Go.RowKit in
theorem Tryz.strconv_Atoi_range (s:ByteArray)(hlim:s.size≤281474976710656)(h:Lib.atoiAll s.data.toList= .range)(ev:Value)(w:World)(hv:w.cell? ⟨6,0,none⟩=some ev)(hev:ev= .nilIface∨∃te pe,ev= .iface te pe):
  Calls Tryz.prog 277 #[.string s] w fun e w'=>∃N,e= .returned (.tuple #[.int .i64 (Lib.atoiSat s.data.toList),.iface 301 (.pointer (some ⟨N,0,none⟩))])∧w.heap.size≤N∧w'.heap[N]?=some (.cells #[.string ⟨#[65,116,111,105]⟩,.string s,ev] 312 (0,0))∧Below w.heap.size w w':=Any.strconv_Atoi_range Tryz.laysC172 s hlim h ev w hv hev
end Go.Proofs
namespace Go.Proofs.YtlnpgbnhcondjaaGreatDoor.Fx
open Vg Tf Go.Sort
set_option linter.unusedSimpArgs false
set_option linter.unusedVariables false
set_option maxRecDepth 100000
set_option maxHeartbeats 4000000
def digA (a:Nat)(l:Str):Nat:=l.foldl (fun a c=>a*10+(c.toNat-48)) a
theorem digA_ge:∀(l:Str) (a:Nat),a≤digA a l
 |[],a=>Nat.le_refl _
 |c::l,a=>by
  have:=digA_ge l (a*10+(c.toNat-48))
  show a≤digA (a*10+(c.toNat-48)) l
  omega
theorem pu_digs:∀(l:Str) (a:Nat),a<18446744073709551616→l.all diB=true→Lib.parseUint10 a l=if digA a l<18446744073709551616 then .ok (digA a l)else .range
 |[],a,ha,_=>by rw[if_pos (by exact ha)];rfl
 |c::l,a,ha,h=>by
  rw[List.all_cons,Bool.and_eq_true]at h
  have hc:48≤c.toNat∧c.toNat≤57:=by have:=h.1;unfold diB at this;simpa using this
  have e:digA a (c::l)=digA (a*10+(c.toNat-48)) l:=rfl
  have hge:=digA_ge l (a*10+(c.toNat-48))
  rw[Lib.parseUint10,if_pos hc,e]
  by_cases h1:1844674407370955162≤a
  ·rw[if_pos h1,if_neg (by omega)]
  ·rw[if_neg h1]
   by_cases h2:18446744073709551616≤a*10+(c.toNat-48)
   ·rw[if_pos h2,if_neg (by omega)]
   ·rw[if_neg h2,pu_digs l _ (by omega) h.2]
theorem pm_digs {l:Str}(h0:l≠[])(h:l.all diB=true):Lib.parseMag l=if digV l<18446744073709551616 then .ok (digV l)else .range:=by
 rw[Lib.parseMag,if_neg h0,pu_digs l 0 (by omega) h];rfl
theorem atoi_num {s:Str}(h0:dgT s≠[])(h:(dgT s).all diB=true):Lib.atoiAll s=if-9223372036854775808≤numV s∧numV s≤9223372036854775807 then .ok (numV s)else .range:=by
 cases s with
 |nil=>exact absurd rfl h0
 |cons c r=>
  have hn:ngB (c::r)=(c==45):=rfl
  unfold numV
  rw[hn]at*
  have hd:dgT (c::r)=bif c==45 then r else c::r:=by unfold dgT;rw[hn];rfl
  rw[hd]at h0 h⊢
  unfold Lib.atoiAll
  cases hc:c==45 with
  |true=>
   rw[hc]at h0 h
   simp only[cond_true]at h0 h⊢
   have hc:c.toNat=45:=by rw[eq_of_beq hc];rfl
   simp only[hc,or_true,if_true,true_and,not_true_eq_false,false_and,if_false,cond_true]
   rw[pm_digs h0 h]
   by_cases h1:digV r<18446744073709551616
   ·rw[if_pos h1]
    simp only
    by_cases h2:9223372036854775808<digV r
    ·rw[if_pos h2,if_neg (by omega)]
    ·rw[if_neg h2,if_pos (by omega)]
   ·rw[if_neg h1,if_neg (by omega)]
  |false=>
   rw[hc]at h0 h
   simp only[cond_false]at h0 h⊢
   have hd2:diB c=true:=by rw[List.all_cons,Bool.and_eq_true]at h;exact h.1
   have hcc:48≤c.toNat∧c.toNat≤57:=by unfold diB at hd2;simpa using hd2
   have q1:¬c.toNat=43:=by omega
   have q2:¬c.toNat=45:=by omega
   simp only[q1,q2,or_false,if_false,not_false_eq_true,true_and,false_and,cond_false]
   rw[pm_digs h0 h]
   by_cases h1:digV (c::r)<18446744073709551616
   ·rw[if_pos h1]
    simp only
    by_cases h2:9223372036854775808≤digV (c::r)
    ·rw[if_pos h2,if_neg (by omega)]
    ·rw[if_neg h2,if_pos (by omega)]
   ·rw[if_neg h1,if_neg (by omega)]
end Go.Proofs.YtlnpgbnhcondjaaGreatDoor.Fx
