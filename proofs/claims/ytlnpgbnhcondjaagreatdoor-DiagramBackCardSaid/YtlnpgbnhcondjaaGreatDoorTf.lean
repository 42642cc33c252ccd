/-  -/
import Derived.Test.YtlnpgbnhcondjaaGreatDoorMB
import Derived.Shelf.Strings.OnBuilder
import Derived.Shelf.Strconv.Itoa0
import Derived.Shelf.Strconv.Itoa1
import Derived.Shelf.LaysM
import Derived.Shelf.Strconv.Itoa2
import Derived.Shelf.Strconv.Itoa3
import Derived.Test.YtlnpgbnhcondjaaGreatDoorProg
import Derived.Test.YtlnpgbnhcondjaaGreatDoorMA
import Derived.KernelRfl
attribute [go_sem_proc] Nat.reduceBEq Nat.reduceAdd Nat.reduceLT Nat.reduceLeDiff Nat.reduceEqDiff reduceCtorEq Int.reduceAdd Int.reduceSub Int.reduceNeg Int.reduceLE Int.reduceLT Int.reduceToNat Int.reduceBEq Int.reduceBNe Int.reduceEq Int.reduceNe Nat.reduceMul Nat.reduceSub
namespace Go.Proofs
set_option linter.unusedSimpArgs false
set_option linter.unusedVariables false
open Go.Shelf
def Tryz.lays156_ren:Go.Shelf.Ren:=⟨fun|156=>21|165=>56|166=>25|169=>27|240=>68|241=>167|276=>190|277=>245|n=>n,fun|31=>28|9=>9|3=>3|4=>4|0=>0|20=>20|72=>55|76=>60|70=>53|37=>49|75=>59|127=>130|164=>208|5=>5|80=>63|n=>n,fun|n=>n⟩
theorem Tryz.lays156:Go.Proofs.Lays.n156 Tryz.prog Tryz.lays156_ren:={
 mixed:=by kernel_rfl
 f156:=Tryz.func21.trans (congrArg some (by kernel_rfl))
 f165:=Tryz.func56.trans (congrArg some (by kernel_rfl))
 f166:=Tryz.func25.trans (congrArg some (by kernel_rfl))
 f169:=Tryz.func27.trans (congrArg some (by kernel_rfl))
 f240:=Tryz.func68.trans (congrArg some (by kernel_rfl))
 f241:=Tryz.func167.trans (congrArg some (by kernel_rfl))
 f276:=Tryz.func190.trans (congrArg some (by kernel_rfl))
 f277:=Tryz.func245.trans (congrArg some (by kernel_rfl))
 t0:=Tryz.underlying0
 a0:=Tryz.isAgg0
 z0:=Tryz.sizeOf0
 v0:=Tryz.zeroValue0
 t3:=Tryz.underlying3
 a3:=Tryz.isAgg3
 z3:=Tryz.sizeOf3
 v3:=Tryz.zeroValue3
 t4:=Tryz.underlying4
 a4:=Tryz.isAgg4
 z4:=Tryz.sizeOf4
 v4:=Tryz.zeroValue4
 t9:=Tryz.underlying9
 a9:=Tryz.isAgg9
 z9:=Tryz.sizeOf9
 v9:=Tryz.zeroValue9
 t20:=Tryz.underlying20
 a20:=Tryz.isAgg20
 z20:=Tryz.sizeOf20
 v20:=Tryz.zeroValue20
 t31:=Tryz.underlying28
 a31:=Tryz.isAgg28
 z31:=Tryz.sizeOf28
 v31:=Tryz.zeroValue28
 t37:=Tryz.underlying49
 a37:=Tryz.isAgg49
 z37:=Tryz.sizeOf49
 v37:=Tryz.zeroValue49
 t70:=Tryz.underlying53
 a70:=Tryz.isAgg53
 z70:=Tryz.sizeOf53
 v70:=Tryz.zeroValue53
 t72:=Tryz.underlying55
 a72:=Tryz.isAgg55
 z72:=Tryz.sizeOf55
 v72:=Tryz.zeroValue55
 t75:=Tryz.underlying59
 a75:=Tryz.isAgg59
 z75:=Tryz.sizeOf59
 v75:=Tryz.zeroValue59
 t76:=Tryz.underlying60
 a76:=Tryz.isAgg60
 z76:=Tryz.sizeOf60
 v76:=Tryz.zeroValue60
 t127:=Tryz.underlying130
 a127:=Tryz.isAgg130
 z127:=Tryz.sizeOf130
 v127:=Tryz.zeroValue130
 t164:=Tryz.underlying208
 a164:=Tryz.isAgg208
 z164:=Tryz.sizeOf208
 v164:=Tryz.zeroValue208}
theorem Tryz.Builder_Extra_156:Builder.Extra Tryz.prog Tryz.lays156_ren:={
 sizeBuilder:=by kernel_rfl
 liesBuilder:=by kernel_rfl
 t5:=Tryz.underlying5
 a5:=Tryz.isAgg5
 z5:=Tryz.sizeOf5
 v5:=Tryz.zeroValue5
 infoByte:=by kernel_rfl
 cellsByte:=by kernel_rfl
 sizeByte:=by kernel_rfl
 neB5:=by decide}
open Go.RowKit in
theorem Tryz.strings_Join_none (a:Option Addr)(c:Nat)(sep:ByteArray)(w:World):
  Calls Tryz.prog 21 #[.slice a 0 c,.string sep] w fun e w'=>e= .returned (.string ⟨#[]⟩)∧w'=w:=Any.strings_Join_none Tryz.lays156 Tryz.Builder_Extra_156 a c sep w
open Go.RowKit in
theorem Tryz.strings_Join (bk o c:Nat)(xs:List ByteArray)(sep:ByteArray)(w:World)(hcells:∀(j:Nat) x,xs[j]?=some x→w.cell? ⟨bk,o+j,none⟩=some (.string x))(hbk:bk<w.heap.size)(hN:xs.length≤140737488355328)(hcap:xs.length≤c)(hlen:(Lib.join (xs.map (·.data.toList)) sep.data.toList).length≤140737488355328):
  Calls Tryz.prog 21 #[.slice (some ⟨bk,o,none⟩) xs.length c,.string sep] w fun e w'=>e= .returned (.string ⟨(Lib.join (xs.map (·.data.toList)) sep.data.toList).toArray⟩)∧Below w.heap.size w w':=Any.strings_Join Tryz.lays156 Tryz.Builder_Extra_156 bk o c xs sep w hcells hbk hN hcap hlen
def Tryz.laysM171_ren:Go.Shelf.Ren:=⟨fun|171=>259|243=>278|246=>287|283=>295|284=>296|285=>297|286=>298|129=>304|317=>303|318=>305|319=>306|320=>307|337=>310|338=>311|n=>n,fun|3=>3|9=>9|2=>2|4=>4|171=>304|0=>0|53=>279|37=>49|5=>5|173=>307|212=>315|51=>191|20=>20|213=>316|46=>245|232=>323|233=>324|n=>n,fun|17=>7|18=>8|19=>9|n=>n⟩
theorem Tryz.laysM171:Go.Proofs.LaysM.n171 Tryz.prog Tryz.laysM171_ren:={
 mixed:=by kernel_rfl
 f129:=Tryz.func304.trans (congrArg some (by kernel_rfl))
 f171:=Tryz.func259.trans (congrArg some (by kernel_rfl))
 f243:=Tryz.func278.trans (congrArg some (by kernel_rfl))
 f246:=Tryz.func287.trans (congrArg some (by kernel_rfl))
 f283:=Tryz.func295.trans (congrArg some (by kernel_rfl))
 f284:=Tryz.func296.trans (congrArg some (by kernel_rfl))
 f285:=Tryz.func297.trans (congrArg some (by kernel_rfl))
 f286:=Tryz.func298.trans (congrArg some (by kernel_rfl))
 f317:=Tryz.func303.trans (congrArg some (by kernel_rfl))
 f318:=Tryz.func305.trans (congrArg some (by kernel_rfl))
 f319:=Tryz.func306.trans (congrArg some (by kernel_rfl))
 f320:=Tryz.func307.trans (congrArg some (by kernel_rfl))
 f337:=Tryz.func310.trans (congrArg some (by kernel_rfl))
 f338:=Tryz.func311.trans (congrArg some (by kernel_rfl))
 t0:=Tryz.underlying0
 a0:=Tryz.isAgg0
 z0:=Tryz.sizeOf0
 v0:=Tryz.zeroValue0
 t2:=Tryz.underlying2
 a2:=Tryz.isAgg2
 z2:=Tryz.sizeOf2
 v2:=Tryz.zeroValue2
 t3:=Tryz.underlying3
 a3:=Tryz.isAgg3
 z3:=Tryz.sizeOf3
 v3:=Tryz.zeroValue3
 t4:=Tryz.underlying4
 a4:=Tryz.isAgg4
 z4:=Tryz.sizeOf4
 v4:=Tryz.zeroValue4
 t5:=Tryz.underlying5
 a5:=Tryz.isAgg5
 z5:=Tryz.sizeOf5
 v5:=Tryz.zeroValue5
 t9:=Tryz.underlying9
 a9:=Tryz.isAgg9
 z9:=Tryz.sizeOf9
 v9:=Tryz.zeroValue9
 t20:=Tryz.underlying20
 a20:=Tryz.isAgg20
 z20:=Tryz.sizeOf20
 v20:=Tryz.zeroValue20
 t37:=Tryz.underlying49
 a37:=Tryz.isAgg49
 z37:=Tryz.sizeOf49
 v37:=Tryz.zeroValue49
 t46:=Tryz.underlying245
 a46:=Tryz.isAgg245
 z46:=Tryz.sizeOf245
 v46:=Tryz.zeroValue245
 t51:=Tryz.underlying191
 a51:=Tryz.isAgg191
 z51:=Tryz.sizeOf191
 v51:=Tryz.zeroValue191
 t53:=Tryz.underlying279
 a53:=Tryz.isAgg279
 z53:=Tryz.sizeOf279
 v53:=Tryz.zeroValue279
 t171:=Tryz.underlying304
 a171:=Tryz.isAgg304
 z171:=Tryz.sizeOf304
 v171:=Tryz.zeroValue304
 t173:=Tryz.underlying307
 a173:=Tryz.isAgg307
 z173:=Tryz.sizeOf307
 v173:=Tryz.zeroValue307
 t212:=Tryz.underlying315
 a212:=Tryz.isAgg315
 z212:=Tryz.sizeOf315
 v212:=Tryz.zeroValue315
 t213:=Tryz.underlying316
 a213:=Tryz.isAgg316
 z213:=Tryz.sizeOf316
 t232:=Tryz.underlying323
 a232:=Tryz.isAgg323
 z232:=Tryz.sizeOf323
 v232:=Tryz.zeroValue323
 t233:=Tryz.underlying324
 a233:=Tryz.isAgg324
 z233:=Tryz.sizeOf324
 v233:=Tryz.zeroValue324
 g17:=by kernel_rfl
 g18:=by kernel_rfl
 g19:=by kernel_rfl
 i0:=by kernel_rfl
 i2:=by kernel_rfl
 i3:=by kernel_rfl
 i4:=by kernel_rfl
 i5:=by kernel_rfl
 i9:=by kernel_rfl
 i20:=by kernel_rfl
 i37:=by kernel_rfl
 i46:=by kernel_rfl
 i51:=by kernel_rfl
 i53:=by kernel_rfl
 i171:=by kernel_rfl
 i173:=by kernel_rfl
 i212:=by kernel_rfl
 i232:=by kernel_rfl
 i233:=by kernel_rfl
 m17:=by kernel_rfl
 m18:=by kernel_rfl
 m19:=by kernel_rfl}
open Go.RowKit Go.Sort Go.Lib in
theorem Tryz.strconv_Itoa (n:Int)(h0: -9223372036854775808≤n)(h1:n≤9223372036854775807)(w:World)(htab:Lib.TabIs Tryz.prog w "internal/strconv.uint64pow10" .u64 Lib.pow10Tab):
  Calls Tryz.prog 259 #[.int .i64 n] w fun e w'=>e= .returned (.string ⟨(Lib.itoa n).toArray⟩)∧∃k os,w'=grow (w.drewN k) os:=Any.strconv_Itoa Tryz.laysM171 n h0 h1 w htab
end Go.Proofs
namespace Go.Proofs.YtlnpgbnhcondjaaGreatDoor
open Vg
namespace Tf
set_option linter.unusedSimpArgs false
set_option linter.unusedVariables false
@[go_sem] theorem us1:(Tryz.prog.underlying 1).isSome=true∧(Tryz.prog.underlying 2).isSome=true:=by and_intros<;>kernel_rfl
@[go_sem] theorem ki2:kiOf Tryz.prog 2=some .i64:=by kernel_rfl
@[go_sem] theorem sz3:szOf Tryz.prog 3=1:=by kernel_rfl
@[go_sem] theorem ag3:aggOf Tryz.prog 3=some false∧(Tryz.prog.underlying 3).isSome=true∧zeroOf Tryz.prog 3=some [Value.int .i64 0]∧byOf Tryz.prog 3=8:=by and_intros<;>kernel_rfl
@[go_sem] theorem ki3:kiOf Tryz.prog 3=some .i64:=by kernel_rfl
@[go_sem] theorem sz4:szOf Tryz.prog 4=1∧aggOf Tryz.prog 4=some false∧(Tryz.prog.underlying 4).isSome=true:=by and_intros<;>kernel_rfl
@[go_sem] theorem ub4:Tryz.prog.underlying 4=some .bool:=by kernel_rfl
@[go_sem] theorem us5:(Tryz.prog.underlying 5).isSome=true∧zeroOf Tryz.prog 5=some [Value.int .u8 0]∧byOf Tryz.prog 5=1:=by and_intros<;>kernel_rfl
@[go_sem] theorem ki5:kiOf Tryz.prog 5=some .u8:=by kernel_rfl
@[go_sem] theorem us6:(Tryz.prog.underlying 6).isSome=true:=by kernel_rfl
@[go_sem] theorem ki6:kiOf Tryz.prog 6=some .u8:=by kernel_rfl
@[go_sem] theorem us7:(Tryz.prog.underlying 7).isSome=true∧(Tryz.prog.underlying 8).isSome=true:=by and_intros<;>kernel_rfl
@[go_sem] theorem sz9:szOf Tryz.prog 9=1:=by kernel_rfl
@[go_sem] theorem ag9:aggOf Tryz.prog 9=some false:=by kernel_rfl
@[go_sem] theorem us9:(Tryz.prog.underlying 9).isSome=true∧zeroOf Tryz.prog 9=some [Value.string ⟨#[]⟩]∧strOf Tryz.prog 9=true∧byOf Tryz.prog 9=16∧(Tryz.prog.underlying 10).isSome=true∧(Tryz.prog.underlying 11).isSome=true∧(Tryz.prog.underlying 12).isSome=true:=by and_intros<;>kernel_rfl
@[go_sem] theorem ki12:kiOf Tryz.prog 12=some .u64:=by kernel_rfl
@[go_sem] theorem us13:(Tryz.prog.underlying 13).isSome=true∧(Tryz.prog.underlying 14).isSome=true∧(Tryz.prog.underlying 15).isSome=true:=by and_intros<;>kernel_rfl
@[go_sem] theorem pt15:ptOf Tryz.prog 15=some 326:=by kernel_rfl
@[go_sem] theorem us16:(Tryz.prog.underlying 16).isSome=true:=by kernel_rfl
@[go_sem] theorem pt16:ptOf Tryz.prog 16=some 329:=by kernel_rfl
@[go_sem] theorem us17:(Tryz.prog.underlying 17).isSome=true:=by kernel_rfl
@[go_sem] theorem pt17:ptOf Tryz.prog 17=some 336:=by kernel_rfl
@[go_sem] theorem us18:(Tryz.prog.underlying 18).isSome=true∧(Tryz.prog.underlying 19).isSome=true∧(Tryz.prog.underlying 20).isSome=true∧(Tryz.prog.underlying 21).isSome=true:=by and_intros<;>kernel_rfl
@[go_sem] theorem ki21:kiOf Tryz.prog 21=some .i32:=by kernel_rfl
@[go_sem] theorem us22:(Tryz.prog.underlying 22).isSome=true∧szOf Tryz.prog 23=1∧aggOf Tryz.prog 23=some false∧(Tryz.prog.underlying 23).isSome=true∧slOf Tryz.prog 23=some (93,11)∧szOf Tryz.prog 24=1∧aggOf Tryz.prog 24=some false∧(Tryz.prog.underlying 24).isSome=true∧slOf Tryz.prog 24=some (110,3)∧szOf Tryz.prog 25=1∧aggOf Tryz.prog 25=some false∧(Tryz.prog.underlying 25).isSome=true:=by and_intros<;>kernel_rfl
@[go_sem] theorem sl25:slOf Tryz.prog 25=some (115,4)∧szOf Tryz.prog 26=1∧aggOf Tryz.prog 26=some false∧(Tryz.prog.underlying 26).isSome=true∧slOf Tryz.prog 26=some (118,4)∧szOf Tryz.prog 27=1∧aggOf Tryz.prog 27=some false∧(Tryz.prog.underlying 27).isSome=true∧slOf Tryz.prog 27=some (82,6)∧szOf Tryz.prog 28=1∧aggOf Tryz.prog 28=some false∧(Tryz.prog.underlying 28).isSome=true:=by and_intros<;>kernel_rfl
@[go_sem] theorem zr28:zeroOf Tryz.prog 28=some [Value.slice none 0 0]:=by kernel_rfl
@[go_sem] theorem sl28:slOf Tryz.prog 28=some (9,1):=by kernel_rfl
@[go_sem] theorem us29:(Tryz.prog.underlying 29).isSome=true:=by kernel_rfl
@[go_sem] theorem sz30:szOf Tryz.prog 30=7:=by kernel_rfl
@[go_sem] theorem ag30:aggOf Tryz.prog 30=some true∧(Tryz.prog.underlying 30).isSome=true∧zeroOf Tryz.prog 30=some [Value.string ⟨#[]⟩,Value.slice none 0 0,Value.slice none 0 0,Value.slice none 0 0,Value.slice none 0 0,Value.slice none 0 0,Value.slice none 0 0]∧plOf Tryz.prog 30=some [(0,1),(1,1),(2,1),(3,1),(4,1),(5,1),(6,1)]∧offOf Tryz.prog 30 0=some 0∧offOf Tryz.prog 30 1=some 1∧offOf Tryz.prog 30 2=some 2∧offOf Tryz.prog 30 3=some 3∧offOf Tryz.prog 30 4=some 4∧offOf Tryz.prog 30 5=some 5∧offOf Tryz.prog 30 6=some 6∧(Tryz.prog.underlying 31).isSome=true:=by and_intros<;>kernel_rfl
@[go_sem] theorem sz32:szOf Tryz.prog 32=2:=by kernel_rfl
@[go_sem] theorem ag32:aggOf Tryz.prog 32=some true:=by kernel_rfl
@[go_sem] theorem us32:(Tryz.prog.underlying 32).isSome=true∧zeroOf Tryz.prog 32=some [Value.int .i64 0,Value.int .i64 0]∧plOf Tryz.prog 32=some [(0,1),(1,1)]∧szOf Tryz.prog 33=1∧aggOf Tryz.prog 33=some false∧(Tryz.prog.underlying 33).isSome=true:=by and_intros<;>kernel_rfl
@[go_sem] theorem ki33:kiOf Tryz.prog 33=some .i64:=by kernel_rfl
@[go_sem] theorem us40:(Tryz.prog.underlying 40).isSome=true∧aggOf Tryz.prog 48=some false∧(Tryz.prog.underlying 48).isSome=true∧szOf Tryz.prog 49=1∧aggOf Tryz.prog 49=some false∧(Tryz.prog.underlying 49).isSome=true∧slOf Tryz.prog 49=some (5,1)∧aggOf Tryz.prog 50=some false∧(Tryz.prog.underlying 50).isSome=true∧slOf Tryz.prog 50=some (57,4)∧szOf Tryz.prog 53=1∧aggOf Tryz.prog 53=some false:=by and_intros<;>kernel_rfl
@[go_sem] theorem us53:(Tryz.prog.underlying 53).isSome=true∧slOf Tryz.prog 53=none:=by and_intros<;>kernel_rfl
@[go_sem] theorem pt53:ptOf Tryz.prog 53=some 55:=by kernel_rfl
@[go_sem] theorem us54:(Tryz.prog.underlying 54).isSome=true:=by kernel_rfl
@[go_sem] theorem sz55:szOf Tryz.prog 55=2:=by kernel_rfl
@[go_sem] theorem us55:(Tryz.prog.underlying 55).isSome=true∧zeroOf Tryz.prog 55=some [Value.pointer none,Value.slice none 0 0]∧offOf Tryz.prog 55 0=some 0∧offOf Tryz.prog 55 1=some 1∧(Tryz.prog.underlying 56).isSome=true∧szOf Tryz.prog 57=4∧aggOf Tryz.prog 57=some true∧(Tryz.prog.underlying 57).isSome=true∧zeroOf Tryz.prog 57=some [Value.int .i64 0,Value.string ⟨#[]⟩,Value.int .i64 0,Value.int .i64 0]∧byOf Tryz.prog 57=40∧plOf Tryz.prog 57=some [(0,1),(1,1),(2,2)]∧fldOf Tryz.prog 57 0=some (0,1,false):=by and_intros<;>kernel_rfl
@[go_sem] theorem of57_0:offOf Tryz.prog 57 0=some 0∧fldOf Tryz.prog 57 1=some (1,1,false)∧offOf Tryz.prog 57 1=some 1∧fldOf Tryz.prog 57 2=some (2,2,true)∧offOf Tryz.prog 57 2=some 2∧(Tryz.prog.underlying 58).isSome=true∧(Tryz.prog.underlying 59).isSome=true∧szOf Tryz.prog 70=1∧aggOf Tryz.prog 70=some false∧(Tryz.prog.underlying 70).isSome=true∧slOf Tryz.prog 70=some (73,1):=by and_intros<;>kernel_rfl
@[go_sem] theorem sz73:szOf Tryz.prog 73=1:=by kernel_rfl
@[go_sem] theorem ag73:aggOf Tryz.prog 73=some false∧(Tryz.prog.underlying 73).isSome=true∧zeroOf Tryz.prog 73=some [Value.slice none 0 0]∧strOf Tryz.prog 73=false∧byOf Tryz.prog 73=24∧slOf Tryz.prog 73=some (3,1)∧paOf Tryz.prog 73=none∧(Tryz.prog.underlying 81).isSome=true:=by and_intros<;>kernel_rfl
@[go_sem] theorem sz82:szOf Tryz.prog 82=6:=by kernel_rfl
@[go_sem] theorem ag82:aggOf Tryz.prog 82=some true∧(Tryz.prog.underlying 82).isSome=true∧zeroOf Tryz.prog 82=some [Value.string ⟨#[]⟩,Value.string ⟨#[]⟩,Value.string ⟨#[]⟩,Value.slice none 0 0,Value.string ⟨#[]⟩,Value.slice none 0 0]∧byOf Tryz.prog 82=112∧offOf Tryz.prog 82 0=some 0∧offOf Tryz.prog 82 1=some 1∧offOf Tryz.prog 82 2=some 2∧offOf Tryz.prog 82 3=some 3∧offOf Tryz.prog 82 4=some 4∧offOf Tryz.prog 82 5=some 5∧(Tryz.prog.underlying 88).isSome=true∧szOf Tryz.prog 89=5:=by and_intros<;>kernel_rfl
@[go_sem] theorem ag89:aggOf Tryz.prog 89=some true:=by kernel_rfl
@[go_sem] theorem us89:(Tryz.prog.underlying 89).isSome=true∧zeroOf Tryz.prog 89=some [Value.int .i64 0,Value.int .i64 0,Value.int .i64 0,Value.int .i64 0,Value.int .i64 0]∧plOf Tryz.prog 89=some [(0,1),(1,1),(2,1),(3,1),(4,1)]∧offOf Tryz.prog 89 0=some 0∧offOf Tryz.prog 89 1=some 1∧offOf Tryz.prog 89 2=some 2∧offOf Tryz.prog 89 3=some 3∧offOf Tryz.prog 89 4=some 4∧(Tryz.prog.underlying 90).isSome=true∧szOf Tryz.prog 91=10∧aggOf Tryz.prog 91=some true∧(Tryz.prog.underlying 91).isSome=true:=by and_intros<;>kernel_rfl
@[go_sem] theorem of91_0:offOf Tryz.prog 91 0=some 0∧offOf Tryz.prog 91 1=some 1∧offOf Tryz.prog 91 2=some 2∧offOf Tryz.prog 91 3=some 3∧offOf Tryz.prog 91 4=some 4∧offOf Tryz.prog 91 5=some 5∧(Tryz.prog.underlying 92).isSome=true:=by and_intros<;>kernel_rfl
@[go_sem] theorem sz93:szOf Tryz.prog 93=11:=by kernel_rfl
@[go_sem] theorem ag93:aggOf Tryz.prog 93=some true:=by kernel_rfl
@[go_sem] theorem us93:(Tryz.prog.underlying 93).isSome=true:=by kernel_rfl
@[go_sem] theorem zr93:zeroOf Tryz.prog 93=some [Value.string ⟨#[]⟩,Value.int .i64 0,Value.bool false,Value.int .i64 0,Value.int .i64 0,Value.int .i64 0,Value.int .i64 0,Value.int .i64 0,Value.int .i64 0,Value.int .i64 0,Value.int .i64 0]:=by kernel_rfl
@[go_sem] theorem by93:byOf Tryz.prog 93=96∧offOf Tryz.prog 93 0=some 0∧offOf Tryz.prog 93 1=some 1∧(Tryz.prog.underlying 94).isSome=true:=by and_intros<;>kernel_rfl
@[go_sem] theorem pt94:ptOf Tryz.prog 94=some 96:=by kernel_rfl
@[go_sem] theorem us95:(Tryz.prog.underlying 95).isSome=true∧(Tryz.prog.underlying 96).isSome=true∧zeroOf Tryz.prog 96=some [Value.slice none 0 0,Value.int .i64 0,Value.int .i64 0,Value.int .i64 0,Value.int .i64 0]∧plOf Tryz.prog 96=some [(0,1),(1,1),(2,1),(3,2)]∧offOf Tryz.prog 96 0=some 0∧offOf Tryz.prog 96 1=some 1∧offOf Tryz.prog 96 2=some 2∧offOf Tryz.prog 96 3=some 3∧(Tryz.prog.underlying 98).isSome=true:=by and_intros<;>kernel_rfl
@[go_sem] theorem pt98:ptOf Tryz.prog 98=some 30:=by kernel_rfl
@[go_sem] theorem us107:(Tryz.prog.underlying 107).isSome=true∧szOf Tryz.prog 108=2∧aggOf Tryz.prog 108=some true∧(Tryz.prog.underlying 108).isSome=true∧offOf Tryz.prog 108 0=some 0∧offOf Tryz.prog 108 1=some 1∧(Tryz.prog.underlying 109).isSome=true:=by and_intros<;>kernel_rfl
@[go_sem] theorem sz110:szOf Tryz.prog 110=3:=by kernel_rfl
@[go_sem] theorem ag110:aggOf Tryz.prog 110=some true∧(Tryz.prog.underlying 110).isSome=true∧zeroOf Tryz.prog 110=some [Value.string ⟨#[]⟩,Value.slice none 0 0,Value.slice none 0 0]∧byOf Tryz.prog 110=64∧offOf Tryz.prog 110 0=some 0∧offOf Tryz.prog 110 1=some 1∧(Tryz.prog.underlying 112).isSome=true∧szOf Tryz.prog 113=3∧aggOf Tryz.prog 113=some true∧(Tryz.prog.underlying 113).isSome=true∧offOf Tryz.prog 113 0=some 0∧offOf Tryz.prog 113 1=some 1:=by and_intros<;>kernel_rfl
@[go_sem] theorem of113_2:offOf Tryz.prog 113 2=some 2∧(Tryz.prog.underlying 114).isSome=true:=by and_intros<;>kernel_rfl
@[go_sem] theorem sz115:szOf Tryz.prog 115=4:=by kernel_rfl
@[go_sem] theorem ag115:aggOf Tryz.prog 115=some true∧(Tryz.prog.underlying 115).isSome=true∧zeroOf Tryz.prog 115=some [Value.string ⟨#[]⟩,Value.slice none 0 0,Value.slice none 0 0,Value.slice none 0 0]∧byOf Tryz.prog 115=88∧offOf Tryz.prog 115 0=some 0∧offOf Tryz.prog 115 1=some 1∧(Tryz.prog.underlying 117).isSome=true:=by and_intros<;>kernel_rfl
@[go_sem] theorem sz118:szOf Tryz.prog 118=4:=by kernel_rfl
@[go_sem] theorem ag118:aggOf Tryz.prog 118=some true:=by kernel_rfl
@[go_sem] theorem us118:(Tryz.prog.underlying 118).isSome=true∧zeroOf Tryz.prog 118=some [Value.string ⟨#[]⟩,Value.string ⟨#[]⟩,Value.int .i64 0,Value.int .i64 0]∧byOf Tryz.prog 118=48∧offOf Tryz.prog 118 0=some 0∧offOf Tryz.prog 118 1=some 1∧offOf Tryz.prog 118 2=some 2∧offOf Tryz.prog 118 3=some 3∧(Tryz.prog.underlying 119).isSome=true:=by and_intros<;>kernel_rfl
@[go_sem] theorem pt122:ptOf Tryz.prog 122=some 124:=by kernel_rfl
@[go_sem] theorem us127:(Tryz.prog.underlying 127).isSome=true∧(Tryz.prog.underlying 130).isSome=true:=by and_intros<;>kernel_rfl
@[go_sem] theorem pt130:ptOf Tryz.prog 130=some 5:=by kernel_rfl
@[go_sem] theorem sz133:szOf Tryz.prog 133=1∧aggOf Tryz.prog 133=some false∧(Tryz.prog.underlying 133).isSome=true∧zeroOf Tryz.prog 133=some [Value.nilFunc]∧(Tryz.prog.underlying 135).isSome=true∧szOf Tryz.prog 136=1∧aggOf Tryz.prog 136=some false∧(Tryz.prog.underlying 136).isSome=true∧zeroOf Tryz.prog 136=some [Value.nilFunc]∧aggOf Tryz.prog 138=some false∧(Tryz.prog.underlying 138).isSome=true∧aggOf Tryz.prog 140=some false:=by and_intros<;>kernel_rfl
@[go_sem] theorem us140:(Tryz.prog.underlying 140).isSome=true∧aggOf Tryz.prog 142=some false∧(Tryz.prog.underlying 142).isSome=true∧aggOf Tryz.prog 144=some false∧(Tryz.prog.underlying 144).isSome=true∧aggOf Tryz.prog 146=some false∧(Tryz.prog.underlying 146).isSome=true∧aggOf Tryz.prog 152=some false∧(Tryz.prog.underlying 152).isSome=true∧(Tryz.prog.underlying 154).isSome=true:=by and_intros<;>kernel_rfl
@[go_sem] theorem pt154:ptOf Tryz.prog 154=some 9:=by kernel_rfl
@[go_sem] theorem pt159:ptOf Tryz.prog 159=some 82:=by kernel_rfl
@[go_sem] theorem us166:(Tryz.prog.underlying 166).isSome=true∧(Tryz.prog.underlying 169).isSome=true∧(Tryz.prog.underlying 171).isSome=true∧(Tryz.prog.underlying 173).isSome=true∧(Tryz.prog.underlying 175).isSome=true∧(Tryz.prog.underlying 177).isSome=true∧(Tryz.prog.underlying 178).isSome=true∧(Tryz.prog.underlying 180).isSome=true∧(Tryz.prog.underlying 184).isSome=true∧(Tryz.prog.underlying 186).isSome=true∧(Tryz.prog.underlying 191).isSome=true:=by and_intros<;>kernel_rfl
@[go_sem] theorem ki191:kiOf Tryz.prog 191=some .u32:=by kernel_rfl
@[go_sem] theorem pt193:ptOf Tryz.prog 193=some 237:=by kernel_rfl
@[go_sem] theorem us199:(Tryz.prog.underlying 199).isSome=true∧(Tryz.prog.underlying 206).isSome=true∧(Tryz.prog.underlying 208).isSome=true∧slOf Tryz.prog 208=none:=by and_intros<;>kernel_rfl
@[go_sem] theorem up208:upOf Tryz.prog 208=true:=by kernel_rfl
@[go_sem] theorem us220:(Tryz.prog.underlying 220).isSome=true∧aggOf Tryz.prog 226=some false∧(Tryz.prog.underlying 226).isSome=true:=by and_intros<;>kernel_rfl
@[go_sem] theorem pt226:ptOf Tryz.prog 226=some 3:=by kernel_rfl
@[go_sem] theorem us228:(Tryz.prog.underlying 228).isSome=true:=by kernel_rfl
@[go_sem] theorem pt228:ptOf Tryz.prog 228=some 89:=by kernel_rfl
@[go_sem] theorem us231:(Tryz.prog.underlying 231).isSome=true:=by kernel_rfl
@[go_sem] theorem pt231:ptOf Tryz.prog 231=some 73:=by kernel_rfl
@[go_sem] theorem us233:(Tryz.prog.underlying 233).isSome=true:=by kernel_rfl
@[go_sem] theorem pt233:ptOf Tryz.prog 233=some 28:=by kernel_rfl
@[go_sem] theorem ki238:kiOf Tryz.prog 238=some .u16:=by kernel_rfl
@[go_sem] theorem us245:(Tryz.prog.underlying 245).isSome=true:=by kernel_rfl
@[go_sem] theorem ki245:kiOf Tryz.prog 245=some .u64:=by kernel_rfl
@[go_sem] theorem sz258:szOf Tryz.prog 258=5:=by kernel_rfl
@[go_sem] theorem ag258:aggOf Tryz.prog 258=some true∧(Tryz.prog.underlying 258).isSome=true∧zeroOf Tryz.prog 258=some [Value.pointer none,Value.pointer none,Value.pointer none,Value.pointer none,Value.pointer none]∧paOf Tryz.prog 258=some (5,1):=by and_intros<;>kernel_rfl
@[go_sem] theorem ar258:arrOf Tryz.prog 258=some 5:=by kernel_rfl
@[go_sem] theorem pl258:plOf Tryz.prog 258=some [(0,1),(1,1),(2,1),(3,1),(4,1)]∧(Tryz.prog.underlying 261).isSome=true∧slOf Tryz.prog 261=some (264,4)∧(Tryz.prog.underlying 263).isSome=true∧szOf Tryz.prog 264=4∧aggOf Tryz.prog 264=some true∧(Tryz.prog.underlying 264).isSome=true∧zeroOf Tryz.prog 264=some [Value.string ⟨#[]⟩,Value.int .i64 0,Value.int .i64 0,Value.int .i64 0]∧plOf Tryz.prog 264=some [(0,1),(1,1),(2,1),(3,1)]∧offOf Tryz.prog 264 0=some 0∧offOf Tryz.prog 264 1=some 1∧offOf Tryz.prog 264 2=some 2:=by and_intros<;>kernel_rfl
@[go_sem] theorem of264_3:offOf Tryz.prog 264 3=some 3∧szOf Tryz.prog 267=5∧(Tryz.prog.underlying 267).isSome=true∧zeroOf Tryz.prog 267=some [Value.string ⟨#[]⟩,Value.string ⟨#[]⟩,Value.string ⟨#[]⟩,Value.string ⟨#[]⟩,Value.string ⟨#[]⟩]∧paOf Tryz.prog 267=some (5,1):=by and_intros<;>kernel_rfl
@[go_sem] theorem ar267:arrOf Tryz.prog 267=some 5:=by kernel_rfl
@[go_sem] theorem pl267:plOf Tryz.prog 267=some [(0,1),(1,1),(2,1),(3,1),(4,1)]:=by kernel_rfl
@[go_sem] theorem pt274:ptOf Tryz.prog 274=some 240:=by kernel_rfl
@[go_sem] theorem pt275:ptOf Tryz.prog 275=some 243:=by kernel_rfl
@[go_sem] theorem us279:(Tryz.prog.underlying 279).isSome=true:=by kernel_rfl
@[go_sem] theorem ki279:kiOf Tryz.prog 279=some .u64:=by kernel_rfl
@[go_sem] theorem us292:(Tryz.prog.underlying 292).isSome=true∧slOf Tryz.prog 292=some (295,6)∧(Tryz.prog.underlying 294).isSome=true∧szOf Tryz.prog 295=6∧aggOf Tryz.prog 295=some true∧(Tryz.prog.underlying 295).isSome=true∧zeroOf Tryz.prog 295=some [Value.string ⟨#[]⟩,Value.int .i64 0,Value.int .i64 0,Value.int .i64 0,Value.int .i64 0,Value.int .i64 0]∧plOf Tryz.prog 295=some [(0,1),(1,5)]∧offOf Tryz.prog 295 0=some 0∧offOf Tryz.prog 295 1=some 1:=by and_intros<;>kernel_rfl
@[go_sem] theorem ki298:kiOf Tryz.prog 298=some .i64:=by kernel_rfl
@[go_sem] theorem pt301:ptOf Tryz.prog 301=some 312:=by kernel_rfl
@[go_sem] theorem us304:(Tryz.prog.underlying 304).isSome=true:=by kernel_rfl
@[go_sem] theorem ar304:arrOf Tryz.prog 304=some 24:=by kernel_rfl
@[go_sem] theorem ar315:arrOf Tryz.prog 315=some 20:=by kernel_rfl
@[go_sem] theorem pt319:ptOf Tryz.prog 319=some 321:=by kernel_rfl
@[go_sem] theorem ar323:arrOf Tryz.prog 323=some 32:=by kernel_rfl
@[go_sem] theorem ar324:arrOf Tryz.prog 324=some 64:=by kernel_rfl
@[go_sem] theorem us325:(Tryz.prog.underlying 325).isSome=true∧(Tryz.prog.underlying 326).isSome=true∧(Tryz.prog.underlying 327).isSome=true:=by and_intros<;>kernel_rfl
@[go_sem] theorem ar327:arrOf Tryz.prog 327=some 0:=by kernel_rfl
@[go_sem] theorem us328:(Tryz.prog.underlying 328).isSome=true∧(Tryz.prog.underlying 329).isSome=true∧(Tryz.prog.underlying 330).isSome=true:=by and_intros<;>kernel_rfl
@[go_sem] theorem ki330:kiOf Tryz.prog 330=some .u8:=by kernel_rfl
@[go_sem] theorem us331:(Tryz.prog.underlying 331).isSome=true:=by kernel_rfl
@[go_sem] theorem ki331:kiOf Tryz.prog 331=some .u8:=by kernel_rfl
@[go_sem] theorem us332:(Tryz.prog.underlying 332).isSome=true∧(Tryz.prog.underlying 333).isSome=true:=by and_intros<;>kernel_rfl
@[go_sem] theorem ki333:kiOf Tryz.prog 333=some .i32:=by kernel_rfl
@[go_sem] theorem us334:(Tryz.prog.underlying 334).isSome=true:=by kernel_rfl
@[go_sem] theorem ki334:kiOf Tryz.prog 334=some .i32:=by kernel_rfl
@[go_sem] theorem us335:(Tryz.prog.underlying 335).isSome=true∧(Tryz.prog.underlying 336).isSome=true:=by and_intros<;>kernel_rfl
theorem eqg32:Tryz.prog.eqGuardType Tryz.prog.depth 32=false:=by kernel_rfl
theorem lf32:lfOf Tryz.prog 20 32=some [.i .i64,.i .i64]:=by kernel_rfl
@[go_sem] theorem eq32 (a0 b0:Int)(a1 b1:Int):EqAny Tryz.prog 32 [.v (.int .i64 a0),.v (.int .i64 a1)] [.v (.int .i64 b0),.v (.int .i64 b1)]:=fun _ h=>EqOk.of lf32 ag32 eqg32 rfl rfl h
theorem eqg89:Tryz.prog.eqGuardType Tryz.prog.depth 89=false:=by kernel_rfl
theorem lf89:lfOf Tryz.prog 20 89=some [.i .i64,.i .i64,.i .i64,.i .i64,.i .i64]:=by kernel_rfl
@[go_sem] theorem eq89 (a0 b0:Int)(a1 b1:Int)(a2 b2:Int)(a3 b3:Int)(a4 b4:Int):EqAny Tryz.prog 89 [.v (.int .i64 a0),.v (.int .i64 a1),.v (.int .i64 a2),.v (.int .i64 a3),.v (.int .i64 a4)] [.v (.int .i64 b0),.v (.int .i64 b1),.v (.int .i64 b2),.v (.int .i64 b3),.v (.int .i64 b4)]:=fun _ h=>EqOk.of lf89 ag89 eqg89 rfl rfl h
theorem eqg93:Tryz.prog.eqGuardType Tryz.prog.depth 93=false:=by kernel_rfl
theorem lf93:lfOf Tryz.prog 20 93=some [.s,.i .i64,.b,.i .i64,.i .i64,.i .i64,.i .i64,.i .i64,.i .i64,.i .i64,.i .i64]:=by kernel_rfl
@[go_sem] theorem eq93 (a0 b0:ByteArray)(a1 b1:Int)(a2 b2:Bool)(a3 b3:Int)(a4 b4:Int)(a5 b5:Int)(a6 b6:Int)(a7 b7:Int)(a8 b8:Int)(a9 b9:Int)(a10 b10:Int):EqAny Tryz.prog 93 [.v (.string a0),.v (.int .i64 a1),.v (.bool a2),.v (.int .i64 a3),.v (.int .i64 a4),.v (.int .i64 a5),.v (.int .i64 a6),.v (.int .i64 a7),.v (.int .i64 a8),.v (.int .i64 a9),.v (.int .i64 a10)] [.v (.string b0),.v (.int .i64 b1),.v (.bool b2),.v (.int .i64 b3),.v (.int .i64 b4),.v (.int .i64 b5),.v (.int .i64 b6),.v (.int .i64 b7),.v (.int .i64 b8),.v (.int .i64 b9),.v (.int .i64 b10)]:=fun _ h=>EqOk.of lf93 ag93 eqg93 rfl rfl h
theorem eqg118:Tryz.prog.eqGuardType Tryz.prog.depth 118=false:=by kernel_rfl
theorem lf118:lfOf Tryz.prog 20 118=some [.s,.s,.i .i64,.i .i64]:=by kernel_rfl
@[go_sem] theorem eq118 (a0 b0:ByteArray)(a1 b1:ByteArray)(a2 b2:Int)(a3 b3:Int):EqAny Tryz.prog 118 [.v (.string a0),.v (.string a1),.v (.int .i64 a2),.v (.int .i64 a3)] [.v (.string b0),.v (.string b1),.v (.int .i64 b2),.v (.int .i64 b3)]:=fun _ h=>EqOk.of lf118 ag118 eqg118 rfl rfl h
theorem Enters.of {f:FuncId}{fn:Func}{b:Code}(hf:Tryz.prog.funcs[f]?=some fn)(hn:(fn.name== "runtime.NumGoroutine")=false)(hb:fn.body=some b):Enters Tryz.prog f:=fun args w=>by
 have h1:fn.name≠ "runtime.NumGoroutine" :=by simpa using hn
 simp[callFunc,hf,h1,hb]
theorem en11:Enters Tryz.prog 11:=Enters.of Tryz.func11 (by kernel_rfl) rfl
attribute [go_sem] Tryz.ntmps11
theorem en12:Enters Tryz.prog 12:=Enters.of Tryz.func12 (by kernel_rfl) rfl
attribute [go_sem] Tryz.ntmps12
theorem en13:Enters Tryz.prog 13:=Enters.of Tryz.func13 (by kernel_rfl) rfl
attribute [go_sem] Tryz.ntmps13
theorem en14:Enters Tryz.prog 14:=Enters.of Tryz.func14 (by kernel_rfl) rfl
attribute [go_sem] Tryz.ntmps14
theorem en21:Enters Tryz.prog 21:=Enters.of Tryz.func21 (by kernel_rfl) rfl
attribute [go_sem] Tryz.ntmps21
theorem en22:Enters Tryz.prog 22:=Enters.of Tryz.func22 (by kernel_rfl) rfl
attribute [go_sem] Tryz.ntmps22
theorem en24:Enters Tryz.prog 24:=Enters.of Tryz.func24 (by kernel_rfl) rfl
attribute [go_sem] Tryz.ntmps24
theorem en25:Enters Tryz.prog 25:=Enters.of Tryz.func25 (by kernel_rfl) rfl
attribute [go_sem] Tryz.ntmps25
theorem en26:Enters Tryz.prog 26:=Enters.of Tryz.func26 (by kernel_rfl) rfl
attribute [go_sem] Tryz.ntmps26
theorem en27:Enters Tryz.prog 27:=Enters.of Tryz.func27 (by kernel_rfl) rfl
attribute [go_sem] Tryz.ntmps27
theorem en30:Enters Tryz.prog 30:=Enters.of Tryz.func30 (by kernel_rfl) rfl
attribute [go_sem] Tryz.ntmps30
theorem en31:Enters Tryz.prog 31:=Enters.of Tryz.func31 (by kernel_rfl) rfl
attribute [go_sem] Tryz.ntmps31
theorem en32:Enters Tryz.prog 32:=Enters.of Tryz.func32 (by kernel_rfl) rfl
attribute [go_sem] Tryz.ntmps32
theorem en39:Enters Tryz.prog 39:=Enters.of Tryz.func39 (by kernel_rfl) rfl
attribute [go_sem] Tryz.ntmps39
theorem en42:Enters Tryz.prog 42:=Enters.of Tryz.func42 (by kernel_rfl) rfl
attribute [go_sem] Tryz.ntmps42
theorem en43:Enters Tryz.prog 43:=Enters.of Tryz.func43 (by kernel_rfl) rfl
attribute [go_sem] Tryz.ntmps43
theorem en45:Enters Tryz.prog 45:=Enters.of Tryz.func45 (by kernel_rfl) rfl
attribute [go_sem] Tryz.ntmps45
theorem en46:Enters Tryz.prog 46:=Enters.of Tryz.func46 (by kernel_rfl) rfl
attribute [go_sem] Tryz.ntmps46
theorem en48:Enters Tryz.prog 48:=Enters.of Tryz.func48 (by kernel_rfl) rfl
attribute [go_sem] Tryz.ntmps48
theorem en49:Enters Tryz.prog 49:=Enters.of Tryz.func49 (by kernel_rfl) rfl
attribute [go_sem] Tryz.ntmps49
theorem en52:Enters Tryz.prog 52:=Enters.of Tryz.func52 (by kernel_rfl) rfl
attribute [go_sem] Tryz.ntmps52
theorem en57:Enters Tryz.prog 57:=Enters.of Tryz.func57 (by kernel_rfl) rfl
attribute [go_sem] Tryz.ntmps57
theorem en58:Enters Tryz.prog 58:=Enters.of Tryz.func58 (by kernel_rfl) rfl
attribute [go_sem] Tryz.ntmps58
theorem en59:Enters Tryz.prog 59:=Enters.of Tryz.func59 (by kernel_rfl) rfl
attribute [go_sem] Tryz.ntmps59
theorem en60:Enters Tryz.prog 60:=Enters.of Tryz.func60 (by kernel_rfl) rfl
attribute [go_sem] Tryz.ntmps60
theorem en66:Enters Tryz.prog 66:=Enters.of Tryz.func66 (by kernel_rfl) rfl
attribute [go_sem] Tryz.ntmps66
theorem en67:Enters Tryz.prog 67:=Enters.of Tryz.func67 (by kernel_rfl) rfl
attribute [go_sem] Tryz.ntmps67
theorem en68:Enters Tryz.prog 68:=Enters.of Tryz.func68 (by kernel_rfl) rfl
attribute [go_sem] Tryz.ntmps68
theorem en70:Enters Tryz.prog 70:=Enters.of Tryz.func70 (by kernel_rfl) rfl
attribute [go_sem] Tryz.ntmps70
theorem en71:Enters Tryz.prog 71:=Enters.of Tryz.func71 (by kernel_rfl) rfl
attribute [go_sem] Tryz.ntmps71
theorem en72:Enters Tryz.prog 72:=Enters.of Tryz.func72 (by kernel_rfl) rfl
attribute [go_sem] Tryz.ntmps72
theorem en73:Enters Tryz.prog 73:=Enters.of Tryz.func73 (by kernel_rfl) rfl
attribute [go_sem] Tryz.ntmps73
theorem en74:Enters Tryz.prog 74:=Enters.of Tryz.func74 (by kernel_rfl) rfl
attribute [go_sem] Tryz.ntmps74
theorem en75:Enters Tryz.prog 75:=Enters.of Tryz.func75 (by kernel_rfl) rfl
attribute [go_sem] Tryz.ntmps75
theorem en76:Enters Tryz.prog 76:=Enters.of Tryz.func76 (by kernel_rfl) rfl
attribute [go_sem] Tryz.ntmps76
theorem en77:Enters Tryz.prog 77:=Enters.of Tryz.func77 (by kernel_rfl) rfl
attribute [go_sem] Tryz.ntmps77
theorem en78:Enters Tryz.prog 78:=Enters.of Tryz.func78 (by kernel_rfl) rfl
attribute [go_sem] Tryz.ntmps78
theorem en79:Enters Tryz.prog 79:=Enters.of Tryz.func79 (by kernel_rfl) rfl
attribute [go_sem] Tryz.ntmps79
theorem en80:Enters Tryz.prog 80:=Enters.of Tryz.func80 (by kernel_rfl) rfl
attribute [go_sem] Tryz.ntmps80
theorem en81:Enters Tryz.prog 81:=Enters.of Tryz.func81 (by kernel_rfl) rfl
attribute [go_sem] Tryz.ntmps81
theorem en82:Enters Tryz.prog 82:=Enters.of Tryz.func82 (by kernel_rfl) rfl
attribute [go_sem] Tryz.ntmps82
theorem en83:Enters Tryz.prog 83:=Enters.of Tryz.func83 (by kernel_rfl) rfl
attribute [go_sem] Tryz.ntmps83
theorem en84:Enters Tryz.prog 84:=Enters.of Tryz.func84 (by kernel_rfl) rfl
attribute [go_sem] Tryz.ntmps84
theorem en85:Enters Tryz.prog 85:=Enters.of Tryz.func85 (by kernel_rfl) rfl
attribute [go_sem] Tryz.ntmps85
theorem en86:Enters Tryz.prog 86:=Enters.of Tryz.func86 (by kernel_rfl) rfl
attribute [go_sem] Tryz.ntmps86
theorem en87:Enters Tryz.prog 87:=Enters.of Tryz.func87 (by kernel_rfl) rfl
attribute [go_sem] Tryz.ntmps87
theorem en88:Enters Tryz.prog 88:=Enters.of Tryz.func88 (by kernel_rfl) rfl
attribute [go_sem] Tryz.ntmps88
theorem en89:Enters Tryz.prog 89:=Enters.of Tryz.func89 (by kernel_rfl) rfl
attribute [go_sem] Tryz.ntmps89
theorem en90:Enters Tryz.prog 90:=Enters.of Tryz.func90 (by kernel_rfl) rfl
attribute [go_sem] Tryz.ntmps90
theorem en98:Enters Tryz.prog 98:=Enters.of Tryz.func98 (by kernel_rfl) rfl
attribute [go_sem] Tryz.ntmps98
theorem en102:Enters Tryz.prog 102:=Enters.of Tryz.func102 (by kernel_rfl) rfl
attribute [go_sem] Tryz.ntmps102
theorem en104:Enters Tryz.prog 104:=Enters.of Tryz.func104 (by kernel_rfl) rfl
attribute [go_sem] Tryz.ntmps104
theorem en105:Enters Tryz.prog 105:=Enters.of Tryz.func105 (by kernel_rfl) rfl
attribute [go_sem] Tryz.ntmps105
theorem en106:Enters Tryz.prog 106:=Enters.of Tryz.func106 (by kernel_rfl) rfl
attribute [go_sem] Tryz.ntmps106
theorem en107:Enters Tryz.prog 107:=Enters.of Tryz.func107 (by kernel_rfl) rfl
attribute [go_sem] Tryz.ntmps107
theorem en108:Enters Tryz.prog 108:=Enters.of Tryz.func108 (by kernel_rfl) rfl
attribute [go_sem] Tryz.ntmps108
theorem en109:Enters Tryz.prog 109:=Enters.of Tryz.func109 (by kernel_rfl) rfl
attribute [go_sem] Tryz.ntmps109
theorem en110:Enters Tryz.prog 110:=Enters.of Tryz.func110 (by kernel_rfl) rfl
attribute [go_sem] Tryz.ntmps110
theorem en111:Enters Tryz.prog 111:=Enters.of Tryz.func111 (by kernel_rfl) rfl
attribute [go_sem] Tryz.ntmps111
theorem en112:Enters Tryz.prog 112:=Enters.of Tryz.func112 (by kernel_rfl) rfl
attribute [go_sem] Tryz.ntmps112
theorem en113:Enters Tryz.prog 113:=Enters.of Tryz.func113 (by kernel_rfl) rfl
attribute [go_sem] Tryz.ntmps113
theorem en114:Enters Tryz.prog 114:=Enters.of Tryz.func114 (by kernel_rfl) rfl
attribute [go_sem] Tryz.ntmps114
theorem en115:Enters Tryz.prog 115:=Enters.of Tryz.func115 (by kernel_rfl) rfl
attribute [go_sem] Tryz.ntmps115
theorem en116:Enters Tryz.prog 116:=Enters.of Tryz.func116 (by kernel_rfl) rfl
attribute [go_sem] Tryz.ntmps116
theorem en117:Enters Tryz.prog 117:=Enters.of Tryz.func117 (by kernel_rfl) rfl
attribute [go_sem] Tryz.ntmps117
theorem en118:Enters Tryz.prog 118:=Enters.of Tryz.func118 (by kernel_rfl) rfl
attribute [go_sem] Tryz.ntmps118
theorem en119:Enters Tryz.prog 119:=Enters.of Tryz.func119 (by kernel_rfl) rfl
attribute [go_sem] Tryz.ntmps119
theorem en120:Enters Tryz.prog 120:=Enters.of Tryz.func120 (by kernel_rfl) rfl
attribute [go_sem] Tryz.ntmps120
theorem en121:Enters Tryz.prog 121:=Enters.of Tryz.func121 (by kernel_rfl) rfl
attribute [go_sem] Tryz.ntmps121
theorem en122:Enters Tryz.prog 122:=Enters.of Tryz.func122 (by kernel_rfl) rfl
attribute [go_sem] Tryz.ntmps122
theorem en123:Enters Tryz.prog 123:=Enters.of Tryz.func123 (by kernel_rfl) rfl
attribute [go_sem] Tryz.ntmps123
theorem en124:Enters Tryz.prog 124:=Enters.of Tryz.func124 (by kernel_rfl) rfl
attribute [go_sem] Tryz.ntmps124
theorem en125:Enters Tryz.prog 125:=Enters.of Tryz.func125 (by kernel_rfl) rfl
attribute [go_sem] Tryz.ntmps125
theorem en126:Enters Tryz.prog 126:=Enters.of Tryz.func126 (by kernel_rfl) rfl
attribute [go_sem] Tryz.ntmps126
theorem en127:Enters Tryz.prog 127:=Enters.of Tryz.func127 (by kernel_rfl) rfl
attribute [go_sem] Tryz.ntmps127
theorem en128:Enters Tryz.prog 128:=Enters.of Tryz.func128 (by kernel_rfl) rfl
attribute [go_sem] Tryz.ntmps128
theorem en129:Enters Tryz.prog 129:=Enters.of Tryz.func129 (by kernel_rfl) rfl
attribute [go_sem] Tryz.ntmps129
theorem en130:Enters Tryz.prog 130:=Enters.of Tryz.func130 (by kernel_rfl) rfl
attribute [go_sem] Tryz.ntmps130
theorem en131:Enters Tryz.prog 131:=Enters.of Tryz.func131 (by kernel_rfl) rfl
attribute [go_sem] Tryz.ntmps131
theorem en132:Enters Tryz.prog 132:=Enters.of Tryz.func132 (by kernel_rfl) rfl
attribute [go_sem] Tryz.ntmps132
theorem en133:Enters Tryz.prog 133:=Enters.of Tryz.func133 (by kernel_rfl) rfl
attribute [go_sem] Tryz.ntmps133
theorem en134:Enters Tryz.prog 134:=Enters.of Tryz.func134 (by kernel_rfl) rfl
attribute [go_sem] Tryz.ntmps134
theorem en135:Enters Tryz.prog 135:=Enters.of Tryz.func135 (by kernel_rfl) rfl
attribute [go_sem] Tryz.ntmps135
theorem en136:Enters Tryz.prog 136:=Enters.of Tryz.func136 (by kernel_rfl) rfl
attribute [go_sem] Tryz.ntmps136
theorem en137:Enters Tryz.prog 137:=Enters.of Tryz.func137 (by kernel_rfl) rfl
attribute [go_sem] Tryz.ntmps137
theorem en138:Enters Tryz.prog 138:=Enters.of Tryz.func138 (by kernel_rfl) rfl
attribute [go_sem] Tryz.ntmps138
theorem en139:Enters Tryz.prog 139:=Enters.of Tryz.func139 (by kernel_rfl) rfl
attribute [go_sem] Tryz.ntmps139
theorem en140:Enters Tryz.prog 140:=Enters.of Tryz.func140 (by kernel_rfl) rfl
attribute [go_sem] Tryz.ntmps140
theorem en141:Enters Tryz.prog 141:=Enters.of Tryz.func141 (by kernel_rfl) rfl
attribute [go_sem] Tryz.ntmps141
theorem en147:Enters Tryz.prog 147:=Enters.of Tryz.func147 (by kernel_rfl) rfl
attribute [go_sem] Tryz.ntmps147
theorem en148:Enters Tryz.prog 148:=Enters.of Tryz.func148 (by kernel_rfl) rfl
attribute [go_sem] Tryz.ntmps148
theorem en149:Enters Tryz.prog 149:=Enters.of Tryz.func149 (by kernel_rfl) rfl
attribute [go_sem] Tryz.ntmps149
theorem en150:Enters Tryz.prog 150:=Enters.of Tryz.func150 (by kernel_rfl) rfl
attribute [go_sem] Tryz.ntmps150
theorem en151:Enters Tryz.prog 151:=Enters.of Tryz.func151 (by kernel_rfl) rfl
attribute [go_sem] Tryz.ntmps151
theorem en152:Enters Tryz.prog 152:=Enters.of Tryz.func152 (by kernel_rfl) rfl
attribute [go_sem] Tryz.ntmps152
theorem en153:Enters Tryz.prog 153:=Enters.of Tryz.func153 (by kernel_rfl) rfl
attribute [go_sem] Tryz.ntmps153
theorem en154:Enters Tryz.prog 154:=Enters.of Tryz.func154 (by kernel_rfl) rfl
attribute [go_sem] Tryz.ntmps154
theorem en155:Enters Tryz.prog 155:=Enters.of Tryz.func155 (by kernel_rfl) rfl
attribute [go_sem] Tryz.ntmps155
theorem en156:Enters Tryz.prog 156:=Enters.of Tryz.func156 (by kernel_rfl) rfl
attribute [go_sem] Tryz.ntmps156
theorem en157:Enters Tryz.prog 157:=Enters.of Tryz.func157 (by kernel_rfl) rfl
attribute [go_sem] Tryz.ntmps157
theorem en159:Enters Tryz.prog 159:=Enters.of Tryz.func159 (by kernel_rfl) rfl
attribute [go_sem] Tryz.ntmps159
theorem en160:Enters Tryz.prog 160:=Enters.of Tryz.func160 (by kernel_rfl) rfl
attribute [go_sem] Tryz.ntmps160
theorem en168:Enters Tryz.prog 168:=Enters.of Tryz.func168 (by kernel_rfl) rfl
attribute [go_sem] Tryz.ntmps168
theorem en169:Enters Tryz.prog 169:=Enters.of Tryz.func169 (by kernel_rfl) rfl
attribute [go_sem] Tryz.ntmps169
theorem en184:Enters Tryz.prog 184:=Enters.of Tryz.func184 (by kernel_rfl) rfl
attribute [go_sem] Tryz.ntmps184
theorem en185:Enters Tryz.prog 185:=Enters.of Tryz.func185 (by kernel_rfl) rfl
attribute [go_sem] Tryz.ntmps185
theorem en186:Enters Tryz.prog 186:=Enters.of Tryz.func186 (by kernel_rfl) rfl
attribute [go_sem] Tryz.ntmps186
theorem en187:Enters Tryz.prog 187:=Enters.of Tryz.func187 (by kernel_rfl) rfl
attribute [go_sem] Tryz.ntmps187
theorem en188:Enters Tryz.prog 188:=Enters.of Tryz.func188 (by kernel_rfl) rfl
attribute [go_sem] Tryz.ntmps188
theorem en189:Enters Tryz.prog 189:=Enters.of Tryz.func189 (by kernel_rfl) rfl
attribute [go_sem] Tryz.ntmps189
theorem en192:Enters Tryz.prog 192:=Enters.of Tryz.func192 (by kernel_rfl) rfl
attribute [go_sem] Tryz.ntmps192
theorem en193:Enters Tryz.prog 193:=Enters.of Tryz.func193 (by kernel_rfl) rfl
attribute [go_sem] Tryz.ntmps193
theorem en194:Enters Tryz.prog 194:=Enters.of Tryz.func194 (by kernel_rfl) rfl
attribute [go_sem] Tryz.ntmps194
theorem en195:Enters Tryz.prog 195:=Enters.of Tryz.func195 (by kernel_rfl) rfl
attribute [go_sem] Tryz.ntmps195
theorem en196:Enters Tryz.prog 196:=Enters.of Tryz.func196 (by kernel_rfl) rfl
attribute [go_sem] Tryz.ntmps196
theorem en204:Enters Tryz.prog 204:=Enters.of Tryz.func204 (by kernel_rfl) rfl
attribute [go_sem] Tryz.ntmps204
theorem en205:Enters Tryz.prog 205:=Enters.of Tryz.func205 (by kernel_rfl) rfl
attribute [go_sem] Tryz.ntmps205
theorem en206:Enters Tryz.prog 206:=Enters.of Tryz.func206 (by kernel_rfl) rfl
attribute [go_sem] Tryz.ntmps206
theorem en207:Enters Tryz.prog 207:=Enters.of Tryz.func207 (by kernel_rfl) rfl
attribute [go_sem] Tryz.ntmps207
theorem en208:Enters Tryz.prog 208:=Enters.of Tryz.func208 (by kernel_rfl) rfl
attribute [go_sem] Tryz.ntmps208
theorem en209:Enters Tryz.prog 209:=Enters.of Tryz.func209 (by kernel_rfl) rfl
attribute [go_sem] Tryz.ntmps209
theorem en210:Enters Tryz.prog 210:=Enters.of Tryz.func210 (by kernel_rfl) rfl
attribute [go_sem] Tryz.ntmps210
theorem en211:Enters Tryz.prog 211:=Enters.of Tryz.func211 (by kernel_rfl) rfl
attribute [go_sem] Tryz.ntmps211
theorem en212:Enters Tryz.prog 212:=Enters.of Tryz.func212 (by kernel_rfl) rfl
attribute [go_sem] Tryz.ntmps212
theorem en213:Enters Tryz.prog 213:=Enters.of Tryz.func213 (by kernel_rfl) rfl
attribute [go_sem] Tryz.ntmps213
theorem en214:Enters Tryz.prog 214:=Enters.of Tryz.func214 (by kernel_rfl) rfl
attribute [go_sem] Tryz.ntmps214
theorem en215:Enters Tryz.prog 215:=Enters.of Tryz.func215 (by kernel_rfl) rfl
attribute [go_sem] Tryz.ntmps215
theorem en216:Enters Tryz.prog 216:=Enters.of Tryz.func216 (by kernel_rfl) rfl
attribute [go_sem] Tryz.ntmps216
theorem en217:Enters Tryz.prog 217:=Enters.of Tryz.func217 (by kernel_rfl) rfl
attribute [go_sem] Tryz.ntmps217
theorem en218:Enters Tryz.prog 218:=Enters.of Tryz.func218 (by kernel_rfl) rfl
attribute [go_sem] Tryz.ntmps218
theorem en219:Enters Tryz.prog 219:=Enters.of Tryz.func219 (by kernel_rfl) rfl
attribute [go_sem] Tryz.ntmps219
theorem en220:Enters Tryz.prog 220:=Enters.of Tryz.func220 (by kernel_rfl) rfl
attribute [go_sem] Tryz.ntmps220
theorem en221:Enters Tryz.prog 221:=Enters.of Tryz.func221 (by kernel_rfl) rfl
attribute [go_sem] Tryz.ntmps221
theorem en222:Enters Tryz.prog 222:=Enters.of Tryz.func222 (by kernel_rfl) rfl
attribute [go_sem] Tryz.ntmps222
theorem en223:Enters Tryz.prog 223:=Enters.of Tryz.func223 (by kernel_rfl) rfl
attribute [go_sem] Tryz.ntmps223
theorem en224:Enters Tryz.prog 224:=Enters.of Tryz.func224 (by kernel_rfl) rfl
attribute [go_sem] Tryz.ntmps224
theorem en225:Enters Tryz.prog 225:=Enters.of Tryz.func225 (by kernel_rfl) rfl
attribute [go_sem] Tryz.ntmps225
theorem en229:Enters Tryz.prog 229:=Enters.of Tryz.func229 (by kernel_rfl) rfl
attribute [go_sem] Tryz.ntmps229
theorem en230:Enters Tryz.prog 230:=Enters.of Tryz.func230 (by kernel_rfl) rfl
attribute [go_sem] Tryz.ntmps230
theorem en231:Enters Tryz.prog 231:=Enters.of Tryz.func231 (by kernel_rfl) rfl
attribute [go_sem] Tryz.ntmps231
theorem en232:Enters Tryz.prog 232:=Enters.of Tryz.func232 (by kernel_rfl) rfl
attribute [go_sem] Tryz.ntmps232
theorem en233:Enters Tryz.prog 233:=Enters.of Tryz.func233 (by kernel_rfl) rfl
attribute [go_sem] Tryz.ntmps233
theorem en234:Enters Tryz.prog 234:=Enters.of Tryz.func234 (by kernel_rfl) rfl
attribute [go_sem] Tryz.ntmps234
theorem en235:Enters Tryz.prog 235:=Enters.of Tryz.func235 (by kernel_rfl) rfl
attribute [go_sem] Tryz.ntmps235
theorem en238:Enters Tryz.prog 238:=Enters.of Tryz.func238 (by kernel_rfl) rfl
attribute [go_sem] Tryz.ntmps238
theorem en250:Enters Tryz.prog 250:=Enters.of Tryz.func250 (by kernel_rfl) rfl
attribute [go_sem] Tryz.ntmps250
theorem en251:Enters Tryz.prog 251:=Enters.of Tryz.func251 (by kernel_rfl) rfl
attribute [go_sem] Tryz.ntmps251
theorem en253:Enters Tryz.prog 253:=Enters.of Tryz.func253 (by kernel_rfl) rfl
attribute [go_sem] Tryz.ntmps253
theorem en254:Enters Tryz.prog 254:=Enters.of Tryz.func254 (by kernel_rfl) rfl
attribute [go_sem] Tryz.ntmps254
theorem en255:Enters Tryz.prog 255:=Enters.of Tryz.func255 (by kernel_rfl) rfl
attribute [go_sem] Tryz.ntmps255
theorem en256:Enters Tryz.prog 256:=Enters.of Tryz.func256 (by kernel_rfl) rfl
attribute [go_sem] Tryz.ntmps256
theorem en257:Enters Tryz.prog 257:=Enters.of Tryz.func257 (by kernel_rfl) rfl
attribute [go_sem] Tryz.ntmps257
theorem en258:Enters Tryz.prog 258:=Enters.of Tryz.func258 (by kernel_rfl) rfl
attribute [go_sem] Tryz.ntmps258
theorem en259:Enters Tryz.prog 259:=Enters.of Tryz.func259 (by kernel_rfl) rfl
attribute [go_sem] Tryz.ntmps259
theorem en260:Enters Tryz.prog 260:=Enters.of Tryz.func260 (by kernel_rfl) rfl
attribute [go_sem] Tryz.ntmps260
theorem en261:Enters Tryz.prog 261:=Enters.of Tryz.func261 (by kernel_rfl) rfl
attribute [go_sem] Tryz.ntmps261
theorem en262:Enters Tryz.prog 262:=Enters.of Tryz.func262 (by kernel_rfl) rfl
attribute [go_sem] Tryz.ntmps262
theorem en263:Enters Tryz.prog 263:=Enters.of Tryz.func263 (by kernel_rfl) rfl
attribute [go_sem] Tryz.ntmps263
theorem en266:Enters Tryz.prog 266:=Enters.of Tryz.func266 (by kernel_rfl) rfl
attribute [go_sem] Tryz.ntmps266
theorem en267:Enters Tryz.prog 267:=Enters.of Tryz.func267 (by kernel_rfl) rfl
attribute [go_sem] Tryz.ntmps267
theorem en276:Enters Tryz.prog 276:=Enters.of Tryz.func276 (by kernel_rfl) rfl
attribute [go_sem] Tryz.ntmps276
theorem en277:Enters Tryz.prog 277:=Enters.of Tryz.func277 (by kernel_rfl) rfl
attribute [go_sem] Tryz.ntmps277
theorem en278:Enters Tryz.prog 278:=Enters.of Tryz.func278 (by kernel_rfl) rfl
attribute [go_sem] Tryz.ntmps278
theorem en280:Enters Tryz.prog 280:=Enters.of Tryz.func280 (by kernel_rfl) rfl
attribute [go_sem] Tryz.ntmps280
theorem en281:Enters Tryz.prog 281:=Enters.of Tryz.func281 (by kernel_rfl) rfl
attribute [go_sem] Tryz.ntmps281
theorem en287:Enters Tryz.prog 287:=Enters.of Tryz.func287 (by kernel_rfl) rfl
attribute [go_sem] Tryz.ntmps287
theorem en288:Enters Tryz.prog 288:=Enters.of Tryz.func288 (by kernel_rfl) rfl
attribute [go_sem] Tryz.ntmps288
theorem en289:Enters Tryz.prog 289:=Enters.of Tryz.func289 (by kernel_rfl) rfl
attribute [go_sem] Tryz.ntmps289
theorem en295:Enters Tryz.prog 295:=Enters.of Tryz.func295 (by kernel_rfl) rfl
attribute [go_sem] Tryz.ntmps295
theorem en299:Enters Tryz.prog 299:=Enters.of Tryz.func299 (by kernel_rfl) rfl
attribute [go_sem] Tryz.ntmps299
theorem mix:Tryz.prog.follows .mixedOrders=true:=by kernel_rfl
end Tf
end Go.Proofs.YtlnpgbnhcondjaaGreatDoor
