/-  -/
import Derived.Test.YtlnpgbnhcondjaaGreatDoorMB
import Derived.Shelf.Strings.TrimSpace
import Derived.Shelf.Strings.Prefix
import Derived.Shelf.Strings.Fields
import Derived.Test.YtlnpgbnhcondjaaGreatDoorProg
import Derived.Test.YtlnpgbnhcondjaaGreatDoorMA
import Derived.KernelRfl
attribute [go_sem_proc] Nat.reduceBEq Nat.reduceAdd Nat.reduceLT Nat.reduceLeDiff Nat.reduceEqDiff reduceCtorEq Int.reduceAdd Int.reduceSub Int.reduceNeg Int.reduceLE Int.reduceLT Int.reduceToNat Int.reduceBEq Int.reduceBNe Int.reduceEq Int.reduceNe Nat.reduceMul Nat.reduceSub
namespace Go.Proofs
set_option linter.unusedSimpArgs false
set_option linter.unusedVariables false
open Go.Shelf
def Tryz.lays163_ren:Go.Shelf.Ren:=⟨fun|163=>18|237=>53|199=>51|238=>54|272=>162|261=>161|273=>163|197=>164|315=>241|311=>239|312=>240|271=>242|260=>243|120=>271|n=>n,fun|9=>9|37=>49|3=>3|0=>0|5=>5|4=>4|40=>102|119=>100|21=>21|51=>191|141=>193|105=>195|196=>237|193=>234|198=>240|49=>238|194=>235|201=>243|226=>274|46=>245|227=>275|139=>278|138=>277|n=>n,fun|0=>0|6=>1|3=>3|4=>4|n=>n⟩
theorem Tryz.lays163:Go.Proofs.Lays.n163 Tryz.prog Tryz.lays163_ren:={
 mixed:=by kernel_rfl
 f120:=Tryz.func271.trans (congrArg some (by kernel_rfl))
 f163:=Tryz.func18.trans (congrArg some (by kernel_rfl))
 f197:=Tryz.func164.trans (congrArg some (by kernel_rfl))
 f199:=Tryz.func51.trans (congrArg some (by kernel_rfl))
 f237:=Tryz.func53.trans (congrArg some (by kernel_rfl))
 f238:=Tryz.func54.trans (congrArg some (by kernel_rfl))
 f260:=Tryz.func243.trans (congrArg some (by kernel_rfl))
 f261:=Tryz.func161.trans (congrArg some (by kernel_rfl))
 f271:=Tryz.func242.trans (congrArg some (by kernel_rfl))
 f272:=Tryz.func162.trans (congrArg some (by kernel_rfl))
 f273:=Tryz.func163.trans (congrArg some (by kernel_rfl))
 f311:=Tryz.func239.trans (congrArg some (by kernel_rfl))
 f312:=Tryz.func240.trans (congrArg some (by kernel_rfl))
 f315:=Tryz.func241.trans (congrArg some (by kernel_rfl))
 t0:=Tryz.underlying0
 a0:=Tryz.isAgg0
 z0:=Tryz.sizeOf0
 v0:=Tryz.zeroValue0
 t3:=Tryz.underlying3
 a3:=Tryz.isAgg3
 z3:=Tryz.sizeOf3
 v3:=Tryz.zeroValue3
 t4:=Tryz.underlying4
 a4:=Tryz.isAgg4
 z4:=Tryz.sizeOf4
 v4:=Tryz.zeroValue4
 t5:=Tryz.underlying5
 a5:=Tryz.isAgg5
 z5:=Tryz.sizeOf5
 v5:=Tryz.zeroValue5
 t9:=Tryz.underlying9
 a9:=Tryz.isAgg9
 z9:=Tryz.sizeOf9
 v9:=Tryz.zeroValue9
 t21:=Tryz.underlying21
 a21:=Tryz.isAgg21
 z21:=Tryz.sizeOf21
 v21:=Tryz.zeroValue21
 t37:=Tryz.underlying49
 a37:=Tryz.isAgg49
 z37:=Tryz.sizeOf49
 v37:=Tryz.zeroValue49
 t40:=Tryz.underlying102
 a40:=Tryz.isAgg102
 z40:=Tryz.sizeOf102
 v40:=Tryz.zeroValue102
 t46:=Tryz.underlying245
 a46:=Tryz.isAgg245
 z46:=Tryz.sizeOf245
 v46:=Tryz.zeroValue245
 t49:=Tryz.underlying238
 a49:=Tryz.isAgg238
 z49:=Tryz.sizeOf238
 v49:=Tryz.zeroValue238
 t51:=Tryz.underlying191
 a51:=Tryz.isAgg191
 z51:=Tryz.sizeOf191
 v51:=Tryz.zeroValue191
 t105:=Tryz.underlying195
 a105:=Tryz.isAgg195
 z105:=Tryz.sizeOf195
 v105:=Tryz.zeroValue195
 t119:=Tryz.underlying100
 a119:=Tryz.isAgg100
 z119:=Tryz.sizeOf100
 t138:=Tryz.underlying277
 a138:=Tryz.isAgg277
 z138:=Tryz.sizeOf277
 v138:=Tryz.zeroValue277
 t139:=Tryz.underlying278
 a139:=Tryz.isAgg278
 z139:=Tryz.sizeOf278
 v139:=Tryz.zeroValue278
 t141:=Tryz.underlying193
 a141:=Tryz.isAgg193
 z141:=Tryz.sizeOf193
 v141:=Tryz.zeroValue193
 t193:=Tryz.underlying234
 a193:=Tryz.isAgg234
 z193:=Tryz.sizeOf234
 v193:=Tryz.zeroValue234
 t194:=Tryz.underlying235
 a194:=Tryz.isAgg235
 z194:=Tryz.sizeOf235
 v194:=Tryz.zeroValue235
 t196:=Tryz.underlying237
 a196:=Tryz.isAgg237
 z196:=Tryz.sizeOf237
 v196:=Tryz.zeroValue237
 t198:=Tryz.underlying240
 a198:=Tryz.isAgg240
 z198:=Tryz.sizeOf240
 v198:=Tryz.zeroValue240
 t201:=Tryz.underlying243
 a201:=Tryz.isAgg243
 z201:=Tryz.sizeOf243
 v201:=Tryz.zeroValue243
 t226:=Tryz.underlying274
 a226:=Tryz.isAgg274
 z226:=Tryz.sizeOf274
 v226:=Tryz.zeroValue274
 t227:=Tryz.underlying275
 a227:=Tryz.isAgg275
 z227:=Tryz.sizeOf275
 v227:=Tryz.zeroValue275
 g0:=by kernel_rfl
 g3:=by kernel_rfl
 g4:=by kernel_rfl
 g6:=by kernel_rfl}
theorem Tryz.Space_Extra_163:Space.Extra Tryz.prog Tryz.lays163_ren:={
 gNamed:=by kernel_rfl}
open Go.RowKit in
theorem Tryz.strings_TrimSpace (s:ByteArray)(w:World)(hs:s.size≤9223372036854775807)(hascii:∀(j:Nat) b,s.data.toList[j]?=some b→b.toNat<128)(htab:Lib.TabIs Tryz.prog w "strings.asciiSpace" .u8 Lib.asciiSpaceTab):
  Calls Tryz.prog 18 #[.string s] w fun e w'=>e= .returned (.string ⟨(Lib.trimSpace s.data.toList).toArray⟩)∧w'=Lib.bytesWorld w 5 s:=Any.strings_TrimSpace Tryz.lays163 Tryz.Space_Extra_163 s w hs hascii htab
def Tryz.lays99_ren:Go.Shelf.Ren:=⟨fun|99=>17|206=>52|n=>n,fun|9=>9|4=>4|3=>3|n=>n,fun|n=>n⟩
theorem Tryz.lays99:Go.Proofs.Lays.n99 Tryz.prog Tryz.lays99_ren:={
 mixed:=by kernel_rfl
 f99:=Tryz.func17.trans (congrArg some (by kernel_rfl))
 f206:=Tryz.func52.trans (congrArg some (by kernel_rfl))
 t3:=Tryz.underlying3
 a3:=Tryz.isAgg3
 z3:=Tryz.sizeOf3
 v3:=Tryz.zeroValue3
 t4:=Tryz.underlying4
 a4:=Tryz.isAgg4
 z4:=Tryz.sizeOf4
 v4:=Tryz.zeroValue4
 t9:=Tryz.underlying9
 a9:=Tryz.isAgg9
 z9:=Tryz.sizeOf9
 v9:=Tryz.zeroValue9}
open Go.RowKit Go.Lib in
theorem Tryz.strings_HasPrefix (s p:ByteArray)(w:World):
  Calls Tryz.prog 17 #[.string s,.string p] w fun e w'=>e= .returned (.bool (Lib.hasPrefix s.data.toList p.data.toList))∧w'=w:=Any.strings_HasPrefix Tryz.lays99 s p w
def Tryz.lays157_ren:Go.Shelf.Ren:=⟨fun|157=>16|229=>50|199=>51|261=>161|311=>239|312=>240|n=>n,fun|9=>9|31=>28|3=>3|5=>5|4=>4|119=>100|0=>0|40=>102|152=>188|21=>21|154=>190|51=>191|141=>193|196=>237|193=>234|198=>240|49=>238|194=>235|201=>243|226=>274|46=>245|227=>275|n=>n,fun|0=>0|6=>1|n=>n⟩
theorem Tryz.lays157:Go.Proofs.Lays.n157 Tryz.prog Tryz.lays157_ren:={
 mixed:=by kernel_rfl
 f157:=Tryz.func16.trans (congrArg some (by kernel_rfl))
 f199:=Tryz.func51.trans (congrArg some (by kernel_rfl))
 f229:=Tryz.func50.trans (congrArg some (by kernel_rfl))
 f261:=Tryz.func161.trans (congrArg some (by kernel_rfl))
 f311:=Tryz.func239.trans (congrArg some (by kernel_rfl))
 f312:=Tryz.func240.trans (congrArg some (by kernel_rfl))
 t0:=Tryz.underlying0
 a0:=Tryz.isAgg0
 z0:=Tryz.sizeOf0
 v0:=Tryz.zeroValue0
 t3:=Tryz.underlying3
 a3:=Tryz.isAgg3
 z3:=Tryz.sizeOf3
 v3:=Tryz.zeroValue3
 t4:=Tryz.underlying4
 a4:=Tryz.isAgg4
 z4:=Tryz.sizeOf4
 v4:=Tryz.zeroValue4
 t5:=Tryz.underlying5
 a5:=Tryz.isAgg5
 z5:=Tryz.sizeOf5
 v5:=Tryz.zeroValue5
 t9:=Tryz.underlying9
 a9:=Tryz.isAgg9
 z9:=Tryz.sizeOf9
 v9:=Tryz.zeroValue9
 t21:=Tryz.underlying21
 a21:=Tryz.isAgg21
 z21:=Tryz.sizeOf21
 v21:=Tryz.zeroValue21
 t31:=Tryz.underlying28
 a31:=Tryz.isAgg28
 z31:=Tryz.sizeOf28
 v31:=Tryz.zeroValue28
 t40:=Tryz.underlying102
 a40:=Tryz.isAgg102
 z40:=Tryz.sizeOf102
 v40:=Tryz.zeroValue102
 t46:=Tryz.underlying245
 a46:=Tryz.isAgg245
 z46:=Tryz.sizeOf245
 v46:=Tryz.zeroValue245
 t49:=Tryz.underlying238
 a49:=Tryz.isAgg238
 z49:=Tryz.sizeOf238
 v49:=Tryz.zeroValue238
 t51:=Tryz.underlying191
 a51:=Tryz.isAgg191
 z51:=Tryz.sizeOf191
 v51:=Tryz.zeroValue191
 t119:=Tryz.underlying100
 a119:=Tryz.isAgg100
 z119:=Tryz.sizeOf100
 t141:=Tryz.underlying193
 a141:=Tryz.isAgg193
 z141:=Tryz.sizeOf193
 v141:=Tryz.zeroValue193
 t152:=Tryz.underlying188
 a152:=Tryz.isAgg188
 z152:=Tryz.sizeOf188
 v152:=Tryz.zeroValue188
 t154:=Tryz.underlying190
 a154:=Tryz.isAgg190
 z154:=Tryz.sizeOf190
 v154:=Tryz.zeroValue190
 t193:=Tryz.underlying234
 a193:=Tryz.isAgg234
 z193:=Tryz.sizeOf234
 v193:=Tryz.zeroValue234
 t194:=Tryz.underlying235
 a194:=Tryz.isAgg235
 z194:=Tryz.sizeOf235
 v194:=Tryz.zeroValue235
 t196:=Tryz.underlying237
 a196:=Tryz.isAgg237
 z196:=Tryz.sizeOf237
 v196:=Tryz.zeroValue237
 t198:=Tryz.underlying240
 a198:=Tryz.isAgg240
 z198:=Tryz.sizeOf240
 v198:=Tryz.zeroValue240
 t201:=Tryz.underlying243
 a201:=Tryz.isAgg243
 z201:=Tryz.sizeOf243
 v201:=Tryz.zeroValue243
 t226:=Tryz.underlying274
 a226:=Tryz.isAgg274
 z226:=Tryz.sizeOf274
 v226:=Tryz.zeroValue274
 t227:=Tryz.underlying275
 a227:=Tryz.isAgg275
 z227:=Tryz.sizeOf275
 v227:=Tryz.zeroValue275
 g0:=by kernel_rfl
 g6:=by kernel_rfl}
open Go.RowKit Go.Lib in
theorem Tryz.strings_Fields (s:ByteArray)(w:World)(hs:s.size<4294967281)(hascii:∀(j:Nat) b,s.data.toList[j]?=some b→b.toNat<128)(htab:Lib.TabIs Tryz.prog w "strings.asciiSpace" .u8 Lib.asciiSpaceTab):
  Calls Tryz.prog 16 #[.string s] w fun e w'=>
   e= .returned (.slice (some ⟨w.heap.size,0,none⟩) (Lib.fields s.data.toList).length (Lib.fields s.data.toList).length)∧w'=w.alloc (.cells ((Lib.fields s.data.toList).map fun l=>Value.string ⟨l.toArray⟩).toArray 9):=Any.strings_Fields Tryz.lays157 (by kernel_rfl) (by kernel_rfl) s w hs hascii htab
end Go.Proofs
namespace Go.Proofs.YtlnpgbnhcondjaaGreatDoor
open Vg
namespace Tf
set_option linter.unusedSimpArgs false
set_option linter.unusedVariables false
@[go_sem] theorem us1:(Tryz.prog.underlying 1).isSome=true∧(Tryz.prog.underlying 2).isSome=true:=by and_intros<;>kernel_rfl
@[go_sem] theorem ki2:kiOf Tryz.prog 2=some .i64:=by kernel_rfl
@[go_sem] theorem sz3:szOf Tryz.prog 3=1∧aggOf Tryz.prog 3=some false∧(Tryz.prog.underlying 3).isSome=true∧zeroOf Tryz.prog 3=some [Value.int .i64 0]∧byOf Tryz.prog 3=8:=by and_intros<;>kernel_rfl
@[go_sem] theorem ki3:kiOf Tryz.prog 3=some .i64:=by kernel_rfl
@[go_sem] theorem sz4:szOf Tryz.prog 4=1∧(Tryz.prog.underlying 4).isSome=true:=by and_intros<;>kernel_rfl
@[go_sem] theorem ub4:Tryz.prog.underlying 4=some .bool:=by kernel_rfl
@[go_sem] theorem sz5:szOf Tryz.prog 5=1:=by kernel_rfl
@[go_sem] theorem ag5:aggOf Tryz.prog 5=some false:=by kernel_rfl
@[go_sem] theorem us5:(Tryz.prog.underlying 5).isSome=true∧zeroOf Tryz.prog 5=some [Value.int .u8 0]∧byOf Tryz.prog 5=1:=by and_intros<;>kernel_rfl
@[go_sem] theorem ki5:kiOf Tryz.prog 5=some .u8:=by kernel_rfl
@[go_sem] theorem us6:(Tryz.prog.underlying 6).isSome=true:=by kernel_rfl
@[go_sem] theorem ki6:kiOf Tryz.prog 6=some .u8:=by kernel_rfl
@[go_sem] theorem us7:(Tryz.prog.underlying 7).isSome=true∧(Tryz.prog.underlying 8).isSome=true:=by and_intros<;>kernel_rfl
@[go_sem] theorem sz9:szOf Tryz.prog 9=1:=by kernel_rfl
@[go_sem] theorem ag9:aggOf Tryz.prog 9=some false:=by kernel_rfl
@[go_sem] theorem us9:(Tryz.prog.underlying 9).isSome=true∧zeroOf Tryz.prog 9=some [Value.string ⟨#[]⟩]∧strOf Tryz.prog 9=true∧byOf Tryz.prog 9=16∧(Tryz.prog.underlying 10).isSome=true∧(Tryz.prog.underlying 11).isSome=true∧(Tryz.prog.underlying 12).isSome=true:=by and_intros<;>kernel_rfl
@[go_sem] theorem ki12:kiOf Tryz.prog 12=some .u64:=by kernel_rfl
@[go_sem] theorem us13:(Tryz.prog.underlying 13).isSome=true∧(Tryz.prog.underlying 14).isSome=true∧(Tryz.prog.underlying 15).isSome=true:=by and_intros<;>kernel_rfl
@[go_sem] theorem pt15:ptOf Tryz.prog 15=some 326:=by kernel_rfl
@[go_sem] theorem us16:(Tryz.prog.underlying 16).isSome=true:=by kernel_rfl
@[go_sem] theorem pt16:ptOf Tryz.prog 16=some 329:=by kernel_rfl
@[go_sem] theorem us17:(Tryz.prog.underlying 17).isSome=true:=by kernel_rfl
@[go_sem] theorem pt17:ptOf Tryz.prog 17=some 336:=by kernel_rfl
@[go_sem] theorem us18:(Tryz.prog.underlying 18).isSome=true∧(Tryz.prog.underlying 19).isSome=true∧(Tryz.prog.underlying 20).isSome=true∧(Tryz.prog.underlying 21).isSome=true:=by and_intros<;>kernel_rfl
@[go_sem] theorem ki21:kiOf Tryz.prog 21=some .i32:=by kernel_rfl
@[go_sem] theorem us22:(Tryz.prog.underlying 22).isSome=true∧szOf Tryz.prog 23=1∧aggOf Tryz.prog 23=some false∧(Tryz.prog.underlying 23).isSome=true∧slOf Tryz.prog 23=some (93,11)∧szOf Tryz.prog 24=1∧aggOf Tryz.prog 24=some false∧(Tryz.prog.underlying 24).isSome=true∧slOf Tryz.prog 24=some (110,3)∧szOf Tryz.prog 25=1∧aggOf Tryz.prog 25=some false∧(Tryz.prog.underlying 25).isSome=true:=by and_intros<;>kernel_rfl
@[go_sem] theorem sl25:slOf Tryz.prog 25=some (115,4)∧szOf Tryz.prog 26=1∧aggOf Tryz.prog 26=some false∧(Tryz.prog.underlying 26).isSome=true∧slOf Tryz.prog 26=some (118,4)∧szOf Tryz.prog 27=1∧aggOf Tryz.prog 27=some false∧(Tryz.prog.underlying 27).isSome=true∧slOf Tryz.prog 27=some (82,6)∧szOf Tryz.prog 28=1∧aggOf Tryz.prog 28=some false∧(Tryz.prog.underlying 28).isSome=true:=by and_intros<;>kernel_rfl
@[go_sem] theorem zr28:zeroOf Tryz.prog 28=some [Value.slice none 0 0]:=by kernel_rfl
@[go_sem] theorem sl28:slOf Tryz.prog 28=some (9,1):=by kernel_rfl
@[go_sem] theorem us29:(Tryz.prog.underlying 29).isSome=true∧szOf Tryz.prog 30=7∧aggOf Tryz.prog 30=some true∧(Tryz.prog.underlying 30).isSome=true∧zeroOf Tryz.prog 30=some [Value.string ⟨#[]⟩,Value.slice none 0 0,Value.slice none 0 0,Value.slice none 0 0,Value.slice none 0 0,Value.slice none 0 0,Value.slice none 0 0]∧plOf Tryz.prog 30=some [(0,1),(1,1),(2,1),(3,1),(4,1),(5,1),(6,1)]∧offOf Tryz.prog 30 0=some 0∧offOf Tryz.prog 30 1=some 1∧offOf Tryz.prog 30 2=some 2∧offOf Tryz.prog 30 3=some 3∧offOf Tryz.prog 30 4=some 4∧offOf Tryz.prog 30 5=some 5:=by and_intros<;>kernel_rfl
@[go_sem] theorem of30_6:offOf Tryz.prog 30 6=some 6∧(Tryz.prog.underlying 31).isSome=true∧szOf Tryz.prog 32=2∧aggOf Tryz.prog 32=some true∧(Tryz.prog.underlying 32).isSome=true∧zeroOf Tryz.prog 32=some [Value.int .i64 0,Value.int .i64 0]∧plOf Tryz.prog 32=some [(0,1),(1,1)]∧szOf Tryz.prog 33=1∧aggOf Tryz.prog 33=some false∧(Tryz.prog.underlying 33).isSome=true:=by and_intros<;>kernel_rfl
@[go_sem] theorem ki33:kiOf Tryz.prog 33=some .i64:=by kernel_rfl
@[go_sem] theorem sz39:szOf Tryz.prog 39=1∧aggOf Tryz.prog 39=some false∧(Tryz.prog.underlying 39).isSome=true∧zeroOf Tryz.prog 39=some [Value.nilFunc]∧(Tryz.prog.underlying 42).isSome=true∧szOf Tryz.prog 49=1∧aggOf Tryz.prog 49=some false∧(Tryz.prog.underlying 49).isSome=true∧slOf Tryz.prog 49=some (5,1)∧aggOf Tryz.prog 50=some false∧(Tryz.prog.underlying 50).isSome=true∧slOf Tryz.prog 50=some (57,4):=by and_intros<;>kernel_rfl
@[go_sem] theorem sz53:szOf Tryz.prog 53=1∧aggOf Tryz.prog 53=some false∧(Tryz.prog.underlying 53).isSome=true∧slOf Tryz.prog 53=none:=by and_intros<;>kernel_rfl
@[go_sem] theorem pt53:ptOf Tryz.prog 53=some 55:=by kernel_rfl
@[go_sem] theorem us54:(Tryz.prog.underlying 54).isSome=true:=by kernel_rfl
@[go_sem] theorem sz55:szOf Tryz.prog 55=2:=by kernel_rfl
@[go_sem] theorem us55:(Tryz.prog.underlying 55).isSome=true∧zeroOf Tryz.prog 55=some [Value.pointer none,Value.slice none 0 0]∧offOf Tryz.prog 55 0=some 0∧offOf Tryz.prog 55 1=some 1∧(Tryz.prog.underlying 56).isSome=true∧szOf Tryz.prog 57=4∧aggOf Tryz.prog 57=some true∧(Tryz.prog.underlying 57).isSome=true∧zeroOf Tryz.prog 57=some [Value.int .i64 0,Value.string ⟨#[]⟩,Value.int .i64 0,Value.int .i64 0]∧byOf Tryz.prog 57=40∧plOf Tryz.prog 57=some [(0,1),(1,1),(2,2)]∧fldOf Tryz.prog 57 0=some (0,1,false):=by and_intros<;>kernel_rfl
@[go_sem] theorem of57_0:offOf Tryz.prog 57 0=some 0∧fldOf Tryz.prog 57 1=some (1,1,false)∧offOf Tryz.prog 57 1=some 1∧fldOf Tryz.prog 57 2=some (2,2,true)∧offOf Tryz.prog 57 2=some 2∧(Tryz.prog.underlying 58).isSome=true∧(Tryz.prog.underlying 59).isSome=true∧szOf Tryz.prog 70=1∧aggOf Tryz.prog 70=some false∧(Tryz.prog.underlying 70).isSome=true∧slOf Tryz.prog 70=some (73,1)∧szOf Tryz.prog 73=1:=by and_intros<;>kernel_rfl
@[go_sem] theorem ag73:aggOf Tryz.prog 73=some false∧(Tryz.prog.underlying 73).isSome=true∧zeroOf Tryz.prog 73=some [Value.slice none 0 0]∧strOf Tryz.prog 73=false∧byOf Tryz.prog 73=24∧slOf Tryz.prog 73=some (3,1)∧(Tryz.prog.underlying 81).isSome=true∧szOf Tryz.prog 82=6∧aggOf Tryz.prog 82=some true∧(Tryz.prog.underlying 82).isSome=true∧zeroOf Tryz.prog 82=some [Value.string ⟨#[]⟩,Value.string ⟨#[]⟩,Value.string ⟨#[]⟩,Value.slice none 0 0,Value.string ⟨#[]⟩,Value.slice none 0 0]∧byOf Tryz.prog 82=112:=by and_intros<;>kernel_rfl
@[go_sem] theorem of82_0:offOf Tryz.prog 82 0=some 0∧offOf Tryz.prog 82 1=some 1∧offOf Tryz.prog 82 2=some 2∧offOf Tryz.prog 82 3=some 3∧offOf Tryz.prog 82 4=some 4∧offOf Tryz.prog 82 5=some 5∧(Tryz.prog.underlying 88).isSome=true∧szOf Tryz.prog 89=5:=by and_intros<;>kernel_rfl
@[go_sem] theorem ag89:aggOf Tryz.prog 89=some true:=by kernel_rfl
@[go_sem] theorem us89:(Tryz.prog.underlying 89).isSome=true∧zeroOf Tryz.prog 89=some [Value.int .i64 0,Value.int .i64 0,Value.int .i64 0,Value.int .i64 0,Value.int .i64 0]∧plOf Tryz.prog 89=some [(0,1),(1,1),(2,1),(3,1),(4,1)]∧offOf Tryz.prog 89 0=some 0∧offOf Tryz.prog 89 1=some 1∧offOf Tryz.prog 89 2=some 2∧offOf Tryz.prog 89 3=some 3∧offOf Tryz.prog 89 4=some 4∧(Tryz.prog.underlying 90).isSome=true∧szOf Tryz.prog 91=10∧aggOf Tryz.prog 91=some true∧(Tryz.prog.underlying 91).isSome=true:=by and_intros<;>kernel_rfl
@[go_sem] theorem of91_0:offOf Tryz.prog 91 0=some 0∧offOf Tryz.prog 91 1=some 1∧offOf Tryz.prog 91 2=some 2∧offOf Tryz.prog 91 3=some 3∧offOf Tryz.prog 91 4=some 4∧offOf Tryz.prog 91 5=some 5∧(Tryz.prog.underlying 92).isSome=true∧szOf Tryz.prog 93=11:=by and_intros<;>kernel_rfl
@[go_sem] theorem ag93:aggOf Tryz.prog 93=some true:=by kernel_rfl
@[go_sem] theorem us93:(Tryz.prog.underlying 93).isSome=true:=by kernel_rfl
@[go_sem] theorem zr93:zeroOf Tryz.prog 93=some [Value.string ⟨#[]⟩,Value.int .i64 0,Value.bool false,Value.int .i64 0,Value.int .i64 0,Value.int .i64 0,Value.int .i64 0,Value.int .i64 0,Value.int .i64 0,Value.int .i64 0,Value.int .i64 0]:=by kernel_rfl
@[go_sem] theorem by93:byOf Tryz.prog 93=96∧offOf Tryz.prog 93 0=some 0∧offOf Tryz.prog 93 1=some 1∧(Tryz.prog.underlying 94).isSome=true:=by and_intros<;>kernel_rfl
@[go_sem] theorem pt94:ptOf Tryz.prog 94=some 96:=by kernel_rfl
@[go_sem] theorem us95:(Tryz.prog.underlying 95).isSome=true∧(Tryz.prog.underlying 96).isSome=true∧zeroOf Tryz.prog 96=some [Value.slice none 0 0,Value.int .i64 0,Value.int .i64 0,Value.int .i64 0,Value.int .i64 0]∧plOf Tryz.prog 96=some [(0,1),(1,1),(2,1),(3,2)]∧offOf Tryz.prog 96 0=some 0∧offOf Tryz.prog 96 1=some 1∧offOf Tryz.prog 96 2=some 2∧offOf Tryz.prog 96 3=some 3∧(Tryz.prog.underlying 98).isSome=true:=by and_intros<;>kernel_rfl
@[go_sem] theorem pt98:ptOf Tryz.prog 98=some 30:=by kernel_rfl
@[go_sem] theorem us100:(Tryz.prog.underlying 100).isSome=true∧(Tryz.prog.underlying 102).isSome=true∧(Tryz.prog.underlying 107).isSome=true∧szOf Tryz.prog 108=2∧aggOf Tryz.prog 108=some true∧(Tryz.prog.underlying 108).isSome=true∧offOf Tryz.prog 108 0=some 0∧offOf Tryz.prog 108 1=some 1∧(Tryz.prog.underlying 109).isSome=true∧szOf Tryz.prog 110=3∧aggOf Tryz.prog 110=some true∧(Tryz.prog.underlying 110).isSome=true:=by and_intros<;>kernel_rfl
@[go_sem] theorem zr110:zeroOf Tryz.prog 110=some [Value.string ⟨#[]⟩,Value.slice none 0 0,Value.slice none 0 0]∧byOf Tryz.prog 110=64∧offOf Tryz.prog 110 0=some 0∧offOf Tryz.prog 110 1=some 1∧(Tryz.prog.underlying 112).isSome=true∧szOf Tryz.prog 113=3∧aggOf Tryz.prog 113=some true∧(Tryz.prog.underlying 113).isSome=true∧offOf Tryz.prog 113 0=some 0∧offOf Tryz.prog 113 1=some 1∧offOf Tryz.prog 113 2=some 2∧(Tryz.prog.underlying 114).isSome=true:=by and_intros<;>kernel_rfl
@[go_sem] theorem sz115:szOf Tryz.prog 115=4∧aggOf Tryz.prog 115=some true∧(Tryz.prog.underlying 115).isSome=true∧zeroOf Tryz.prog 115=some [Value.string ⟨#[]⟩,Value.slice none 0 0,Value.slice none 0 0,Value.slice none 0 0]∧byOf Tryz.prog 115=88∧offOf Tryz.prog 115 0=some 0∧offOf Tryz.prog 115 1=some 1∧(Tryz.prog.underlying 117).isSome=true∧szOf Tryz.prog 118=4:=by and_intros<;>kernel_rfl
@[go_sem] theorem ag118:aggOf Tryz.prog 118=some true:=by kernel_rfl
@[go_sem] theorem us118:(Tryz.prog.underlying 118).isSome=true∧zeroOf Tryz.prog 118=some [Value.string ⟨#[]⟩,Value.string ⟨#[]⟩,Value.int .i64 0,Value.int .i64 0]∧byOf Tryz.prog 118=48∧offOf Tryz.prog 118 0=some 0∧offOf Tryz.prog 118 1=some 1∧offOf Tryz.prog 118 2=some 2∧offOf Tryz.prog 118 3=some 3:=by and_intros<;>kernel_rfl
@[go_sem] theorem pt122:ptOf Tryz.prog 122=some 124:=by kernel_rfl
@[go_sem] theorem us127:(Tryz.prog.underlying 127).isSome=true∧(Tryz.prog.underlying 130).isSome=true:=by and_intros<;>kernel_rfl
@[go_sem] theorem pt130:ptOf Tryz.prog 130=some 5:=by kernel_rfl
@[go_sem] theorem us144:(Tryz.prog.underlying 144).isSome=true∧(Tryz.prog.underlying 146).isSome=true∧(Tryz.prog.underlying 152).isSome=true∧(Tryz.prog.underlying 154).isSome=true:=by and_intros<;>kernel_rfl
@[go_sem] theorem pt154:ptOf Tryz.prog 154=some 9:=by kernel_rfl
@[go_sem] theorem pt159:ptOf Tryz.prog 159=some 82:=by kernel_rfl
@[go_sem] theorem us184:(Tryz.prog.underlying 184).isSome=true∧(Tryz.prog.underlying 186).isSome=true∧(Tryz.prog.underlying 191).isSome=true:=by and_intros<;>kernel_rfl
@[go_sem] theorem ki191:kiOf Tryz.prog 191=some .u32:=by kernel_rfl
@[go_sem] theorem pt193:ptOf Tryz.prog 193=some 237:=by kernel_rfl
@[go_sem] theorem us199:(Tryz.prog.underlying 199).isSome=true∧(Tryz.prog.underlying 206).isSome=true∧(Tryz.prog.underlying 208).isSome=true∧slOf Tryz.prog 208=none:=by and_intros<;>kernel_rfl
@[go_sem] theorem up208:upOf Tryz.prog 208=true:=by kernel_rfl
@[go_sem] theorem ag226:aggOf Tryz.prog 226=some false∧(Tryz.prog.underlying 226).isSome=true:=by and_intros<;>kernel_rfl
@[go_sem] theorem pt226:ptOf Tryz.prog 226=some 3:=by kernel_rfl
@[go_sem] theorem us228:(Tryz.prog.underlying 228).isSome=true:=by kernel_rfl
@[go_sem] theorem pt228:ptOf Tryz.prog 228=some 89:=by kernel_rfl
@[go_sem] theorem us231:(Tryz.prog.underlying 231).isSome=true:=by kernel_rfl
@[go_sem] theorem pt231:ptOf Tryz.prog 231=some 73:=by kernel_rfl
@[go_sem] theorem us233:(Tryz.prog.underlying 233).isSome=true:=by kernel_rfl
@[go_sem] theorem pt233:ptOf Tryz.prog 233=some 28:=by kernel_rfl
@[go_sem] theorem ki238:kiOf Tryz.prog 238=some .u16:=by kernel_rfl
@[go_sem] theorem us245:(Tryz.prog.underlying 245).isSome=true:=by kernel_rfl
@[go_sem] theorem ki245:kiOf Tryz.prog 245=some .u64:=by kernel_rfl
@[go_sem] theorem sz258:szOf Tryz.prog 258=5:=by kernel_rfl
@[go_sem] theorem ag258:aggOf Tryz.prog 258=some true∧(Tryz.prog.underlying 258).isSome=true∧zeroOf Tryz.prog 258=some [Value.pointer none,Value.pointer none,Value.pointer none,Value.pointer none,Value.pointer none]∧paOf Tryz.prog 258=some (5,1):=by and_intros<;>kernel_rfl
@[go_sem] theorem ar258:arrOf Tryz.prog 258=some 5:=by kernel_rfl
@[go_sem] theorem pl258:plOf Tryz.prog 258=some [(0,1),(1,1),(2,1),(3,1),(4,1)]∧(Tryz.prog.underlying 261).isSome=true∧slOf Tryz.prog 261=some (264,4)∧(Tryz.prog.underlying 263).isSome=true∧szOf Tryz.prog 264=4∧aggOf Tryz.prog 264=some true∧(Tryz.prog.underlying 264).isSome=true∧zeroOf Tryz.prog 264=some [Value.string ⟨#[]⟩,Value.int .i64 0,Value.int .i64 0,Value.int .i64 0]∧plOf Tryz.prog 264=some [(0,1),(1,1),(2,1),(3,1)]∧offOf Tryz.prog 264 0=some 0∧offOf Tryz.prog 264 1=some 1∧offOf Tryz.prog 264 2=some 2:=by and_intros<;>kernel_rfl
@[go_sem] theorem of264_3:offOf Tryz.prog 264 3=some 3∧szOf Tryz.prog 267=5∧(Tryz.prog.underlying 267).isSome=true∧zeroOf Tryz.prog 267=some [Value.string ⟨#[]⟩,Value.string ⟨#[]⟩,Value.string ⟨#[]⟩,Value.string ⟨#[]⟩,Value.string ⟨#[]⟩]∧paOf Tryz.prog 267=some (5,1):=by and_intros<;>kernel_rfl
@[go_sem] theorem ar267:arrOf Tryz.prog 267=some 5:=by kernel_rfl
@[go_sem] theorem pl267:plOf Tryz.prog 267=some [(0,1),(1,1),(2,1),(3,1),(4,1)]:=by kernel_rfl
@[go_sem] theorem pt274:ptOf Tryz.prog 274=some 240:=by kernel_rfl
@[go_sem] theorem pt275:ptOf Tryz.prog 275=some 243:=by kernel_rfl
@[go_sem] theorem us279:(Tryz.prog.underlying 279).isSome=true:=by kernel_rfl
@[go_sem] theorem ki279:kiOf Tryz.prog 279=some .u64:=by kernel_rfl
@[go_sem] theorem us292:(Tryz.prog.underlying 292).isSome=true∧slOf Tryz.prog 292=some (295,6)∧(Tryz.prog.underlying 294).isSome=true∧szOf Tryz.prog 295=6∧aggOf Tryz.prog 295=some true∧(Tryz.prog.underlying 295).isSome=true∧zeroOf Tryz.prog 295=some [Value.string ⟨#[]⟩,Value.int .i64 0,Value.int .i64 0,Value.int .i64 0,Value.int .i64 0,Value.int .i64 0]∧plOf Tryz.prog 295=some [(0,1),(1,5)]∧offOf Tryz.prog 295 0=some 0∧offOf Tryz.prog 295 1=some 1:=by and_intros<;>kernel_rfl
@[go_sem] theorem ki298:kiOf Tryz.prog 298=some .i64:=by kernel_rfl
@[go_sem] theorem pt301:ptOf Tryz.prog 301=some 312:=by kernel_rfl
@[go_sem] theorem us304:(Tryz.prog.underlying 304).isSome=true:=by kernel_rfl
@[go_sem] theorem ar304:arrOf Tryz.prog 304=some 24:=by kernel_rfl
@[go_sem] theorem ar315:arrOf Tryz.prog 315=some 20:=by kernel_rfl
@[go_sem] theorem pt319:ptOf Tryz.prog 319=some 321:=by kernel_rfl
@[go_sem] theorem ar323:arrOf Tryz.prog 323=some 32:=by kernel_rfl
@[go_sem] theorem ar324:arrOf Tryz.prog 324=some 64:=by kernel_rfl
@[go_sem] theorem us325:(Tryz.prog.underlying 325).isSome=true∧(Tryz.prog.underlying 326).isSome=true∧(Tryz.prog.underlying 327).isSome=true:=by and_intros<;>kernel_rfl
@[go_sem] theorem ar327:arrOf Tryz.prog 327=some 0:=by kernel_rfl
@[go_sem] theorem us328:(Tryz.prog.underlying 328).isSome=true∧(Tryz.prog.underlying 329).isSome=true∧(Tryz.prog.underlying 330).isSome=true:=by and_intros<;>kernel_rfl
@[go_sem] theorem ki330:kiOf Tryz.prog 330=some .u8:=by kernel_rfl
@[go_sem] theorem us331:(Tryz.prog.underlying 331).isSome=true:=by kernel_rfl
@[go_sem] theorem ki331:kiOf Tryz.prog 331=some .u8:=by kernel_rfl
@[go_sem] theorem us332:(Tryz.prog.underlying 332).isSome=true∧(Tryz.prog.underlying 333).isSome=true:=by and_intros<;>kernel_rfl
@[go_sem] theorem ki333:kiOf Tryz.prog 333=some .i32:=by kernel_rfl
@[go_sem] theorem us334:(Tryz.prog.underlying 334).isSome=true:=by kernel_rfl
@[go_sem] theorem ki334:kiOf Tryz.prog 334=some .i32:=by kernel_rfl
@[go_sem] theorem us335:(Tryz.prog.underlying 335).isSome=true∧(Tryz.prog.underlying 336).isSome=true:=by and_intros<;>kernel_rfl
theorem eqg89:Tryz.prog.eqGuardType Tryz.prog.depth 89=false:=by kernel_rfl
theorem lf89:lfOf Tryz.prog 20 89=some [.i .i64,.i .i64,.i .i64,.i .i64,.i .i64]:=by kernel_rfl
@[go_sem] theorem eq89 (a0 b0:Int)(a1 b1:Int)(a2 b2:Int)(a3 b3:Int)(a4 b4:Int):EqAny Tryz.prog 89 [.v (.int .i64 a0),.v (.int .i64 a1),.v (.int .i64 a2),.v (.int .i64 a3),.v (.int .i64 a4)] [.v (.int .i64 b0),.v (.int .i64 b1),.v (.int .i64 b2),.v (.int .i64 b3),.v (.int .i64 b4)]:=fun _ h=>EqOk.of lf89 ag89 eqg89 rfl rfl h
theorem eqg93:Tryz.prog.eqGuardType Tryz.prog.depth 93=false:=by kernel_rfl
theorem lf93:lfOf Tryz.prog 20 93=some [.s,.i .i64,.b,.i .i64,.i .i64,.i .i64,.i .i64,.i .i64,.i .i64,.i .i64,.i .i64]:=by kernel_rfl
@[go_sem] theorem eq93 (a0 b0:ByteArray)(a1 b1:Int)(a2 b2:Bool)(a3 b3:Int)(a4 b4:Int)(a5 b5:Int)(a6 b6:Int)(a7 b7:Int)(a8 b8:Int)(a9 b9:Int)(a10 b10:Int):EqAny Tryz.prog 93 [.v (.string a0),.v (.int .i64 a1),.v (.bool a2),.v (.int .i64 a3),.v (.int .i64 a4),.v (.int .i64 a5),.v (.int .i64 a6),.v (.int .i64 a7),.v (.int .i64 a8),.v (.int .i64 a9),.v (.int .i64 a10)] [.v (.string b0),.v (.int .i64 b1),.v (.bool b2),.v (.int .i64 b3),.v (.int .i64 b4),.v (.int .i64 b5),.v (.int .i64 b6),.v (.int .i64 b7),.v (.int .i64 b8),.v (.int .i64 b9),.v (.int .i64 b10)]:=fun _ h=>EqOk.of lf93 ag93 eqg93 rfl rfl h
theorem eqg118:Tryz.prog.eqGuardType Tryz.prog.depth 118=false:=by kernel_rfl
theorem lf118:lfOf Tryz.prog 20 118=some [.s,.s,.i .i64,.i .i64]:=by kernel_rfl
@[go_sem] theorem eq118 (a0 b0:ByteArray)(a1 b1:ByteArray)(a2 b2:Int)(a3 b3:Int):EqAny Tryz.prog 118 [.v (.string a0),.v (.string a1),.v (.int .i64 a2),.v (.int .i64 a3)] [.v (.string b0),.v (.string b1),.v (.int .i64 b2),.v (.int .i64 b3)]:=fun _ h=>EqOk.of lf118 ag118 eqg118 rfl rfl h
theorem Enters.of {f:FuncId}{fn:Func}{b:Code}(hf:Tryz.prog.funcs[f]?=some fn)(hn:(fn.name== "runtime.NumGoroutine")=false)(hb:fn.body=some b):Enters Tryz.prog f:=fun args w=>by
 have h1:fn.name≠ "runtime.NumGoroutine" :=by simpa using hn
 simp[callFunc,hf,h1,hb]
theorem en3:Enters Tryz.prog 3:=Enters.of Tryz.func3 (by kernel_rfl) rfl
attribute [go_sem] Tryz.ntmps3
theorem en12:Enters Tryz.prog 12:=Enters.of Tryz.func12 (by kernel_rfl) rfl
attribute [go_sem] Tryz.ntmps12
theorem en13:Enters Tryz.prog 13:=Enters.of Tryz.func13 (by kernel_rfl) rfl
attribute [go_sem] Tryz.ntmps13
theorem en14:Enters Tryz.prog 14:=Enters.of Tryz.func14 (by kernel_rfl) rfl
attribute [go_sem] Tryz.ntmps14
theorem en15:Enters Tryz.prog 15:=Enters.of Tryz.func15 (by kernel_rfl) rfl
attribute [go_sem] Tryz.ntmps15
theorem en16:Enters Tryz.prog 16:=Enters.of Tryz.func16 (by kernel_rfl) rfl
attribute [go_sem] Tryz.ntmps16
theorem en17:Enters Tryz.prog 17:=Enters.of Tryz.func17 (by kernel_rfl) rfl
attribute [go_sem] Tryz.ntmps17
theorem en18:Enters Tryz.prog 18:=Enters.of Tryz.func18 (by kernel_rfl) rfl
attribute [go_sem] Tryz.ntmps18
theorem en19:Enters Tryz.prog 19:=Enters.of Tryz.func19 (by kernel_rfl) rfl
attribute [go_sem] Tryz.ntmps19
theorem en20:Enters Tryz.prog 20:=Enters.of Tryz.func20 (by kernel_rfl) rfl
attribute [go_sem] Tryz.ntmps20
theorem en21:Enters Tryz.prog 21:=Enters.of Tryz.func21 (by kernel_rfl) rfl
attribute [go_sem] Tryz.ntmps21
theorem en22:Enters Tryz.prog 22:=Enters.of Tryz.func22 (by kernel_rfl) rfl
attribute [go_sem] Tryz.ntmps22
theorem en24:Enters Tryz.prog 24:=Enters.of Tryz.func24 (by kernel_rfl) rfl
attribute [go_sem] Tryz.ntmps24
theorem en25:Enters Tryz.prog 25:=Enters.of Tryz.func25 (by kernel_rfl) rfl
attribute [go_sem] Tryz.ntmps25
theorem en26:Enters Tryz.prog 26:=Enters.of Tryz.func26 (by kernel_rfl) rfl
attribute [go_sem] Tryz.ntmps26
theorem en27:Enters Tryz.prog 27:=Enters.of Tryz.func27 (by kernel_rfl) rfl
attribute [go_sem] Tryz.ntmps27
theorem en30:Enters Tryz.prog 30:=Enters.of Tryz.func30 (by kernel_rfl) rfl
attribute [go_sem] Tryz.ntmps30
theorem en32:Enters Tryz.prog 32:=Enters.of Tryz.func32 (by kernel_rfl) rfl
attribute [go_sem] Tryz.ntmps32
theorem en43:Enters Tryz.prog 43:=Enters.of Tryz.func43 (by kernel_rfl) rfl
attribute [go_sem] Tryz.ntmps43
theorem en48:Enters Tryz.prog 48:=Enters.of Tryz.func48 (by kernel_rfl) rfl
attribute [go_sem] Tryz.ntmps48
theorem en49:Enters Tryz.prog 49:=Enters.of Tryz.func49 (by kernel_rfl) rfl
attribute [go_sem] Tryz.ntmps49
theorem en52:Enters Tryz.prog 52:=Enters.of Tryz.func52 (by kernel_rfl) rfl
attribute [go_sem] Tryz.ntmps52
theorem en55:Enters Tryz.prog 55:=Enters.of Tryz.func55 (by kernel_rfl) rfl
attribute [go_sem] Tryz.ntmps55
theorem en57:Enters Tryz.prog 57:=Enters.of Tryz.func57 (by kernel_rfl) rfl
attribute [go_sem] Tryz.ntmps57
theorem en58:Enters Tryz.prog 58:=Enters.of Tryz.func58 (by kernel_rfl) rfl
attribute [go_sem] Tryz.ntmps58
theorem en59:Enters Tryz.prog 59:=Enters.of Tryz.func59 (by kernel_rfl) rfl
attribute [go_sem] Tryz.ntmps59
theorem en60:Enters Tryz.prog 60:=Enters.of Tryz.func60 (by kernel_rfl) rfl
attribute [go_sem] Tryz.ntmps60
theorem en66:Enters Tryz.prog 66:=Enters.of Tryz.func66 (by kernel_rfl) rfl
attribute [go_sem] Tryz.ntmps66
theorem en67:Enters Tryz.prog 67:=Enters.of Tryz.func67 (by kernel_rfl) rfl
attribute [go_sem] Tryz.ntmps67
theorem en68:Enters Tryz.prog 68:=Enters.of Tryz.func68 (by kernel_rfl) rfl
attribute [go_sem] Tryz.ntmps68
theorem en70:Enters Tryz.prog 70:=Enters.of Tryz.func70 (by kernel_rfl) rfl
attribute [go_sem] Tryz.ntmps70
theorem en87:Enters Tryz.prog 87:=Enters.of Tryz.func87 (by kernel_rfl) rfl
attribute [go_sem] Tryz.ntmps87
theorem en88:Enters Tryz.prog 88:=Enters.of Tryz.func88 (by kernel_rfl) rfl
attribute [go_sem] Tryz.ntmps88
theorem en89:Enters Tryz.prog 89:=Enters.of Tryz.func89 (by kernel_rfl) rfl
attribute [go_sem] Tryz.ntmps89
theorem en90:Enters Tryz.prog 90:=Enters.of Tryz.func90 (by kernel_rfl) rfl
attribute [go_sem] Tryz.ntmps90
theorem en98:Enters Tryz.prog 98:=Enters.of Tryz.func98 (by kernel_rfl) rfl
attribute [go_sem] Tryz.ntmps98
theorem en106:Enters Tryz.prog 106:=Enters.of Tryz.func106 (by kernel_rfl) rfl
attribute [go_sem] Tryz.ntmps106
theorem en109:Enters Tryz.prog 109:=Enters.of Tryz.func109 (by kernel_rfl) rfl
attribute [go_sem] Tryz.ntmps109
theorem en112:Enters Tryz.prog 112:=Enters.of Tryz.func112 (by kernel_rfl) rfl
attribute [go_sem] Tryz.ntmps112
theorem en118:Enters Tryz.prog 118:=Enters.of Tryz.func118 (by kernel_rfl) rfl
attribute [go_sem] Tryz.ntmps118
theorem en147:Enters Tryz.prog 147:=Enters.of Tryz.func147 (by kernel_rfl) rfl
attribute [go_sem] Tryz.ntmps147
theorem en148:Enters Tryz.prog 148:=Enters.of Tryz.func148 (by kernel_rfl) rfl
attribute [go_sem] Tryz.ntmps148
theorem en149:Enters Tryz.prog 149:=Enters.of Tryz.func149 (by kernel_rfl) rfl
attribute [go_sem] Tryz.ntmps149
theorem en150:Enters Tryz.prog 150:=Enters.of Tryz.func150 (by kernel_rfl) rfl
attribute [go_sem] Tryz.ntmps150
theorem en151:Enters Tryz.prog 151:=Enters.of Tryz.func151 (by kernel_rfl) rfl
attribute [go_sem] Tryz.ntmps151
theorem en152:Enters Tryz.prog 152:=Enters.of Tryz.func152 (by kernel_rfl) rfl
attribute [go_sem] Tryz.ntmps152
theorem en153:Enters Tryz.prog 153:=Enters.of Tryz.func153 (by kernel_rfl) rfl
attribute [go_sem] Tryz.ntmps153
theorem en154:Enters Tryz.prog 154:=Enters.of Tryz.func154 (by kernel_rfl) rfl
attribute [go_sem] Tryz.ntmps154
theorem en155:Enters Tryz.prog 155:=Enters.of Tryz.func155 (by kernel_rfl) rfl
attribute [go_sem] Tryz.ntmps155
theorem en156:Enters Tryz.prog 156:=Enters.of Tryz.func156 (by kernel_rfl) rfl
attribute [go_sem] Tryz.ntmps156
theorem en157:Enters Tryz.prog 157:=Enters.of Tryz.func157 (by kernel_rfl) rfl
attribute [go_sem] Tryz.ntmps157
theorem en159:Enters Tryz.prog 159:=Enters.of Tryz.func159 (by kernel_rfl) rfl
attribute [go_sem] Tryz.ntmps159
theorem en160:Enters Tryz.prog 160:=Enters.of Tryz.func160 (by kernel_rfl) rfl
attribute [go_sem] Tryz.ntmps160
theorem en165:Enters Tryz.prog 165:=Enters.of Tryz.func165 (by kernel_rfl) rfl
attribute [go_sem] Tryz.ntmps165
theorem en166:Enters Tryz.prog 166:=Enters.of Tryz.func166 (by kernel_rfl) rfl
attribute [go_sem] Tryz.ntmps166
theorem en168:Enters Tryz.prog 168:=Enters.of Tryz.func168 (by kernel_rfl) rfl
attribute [go_sem] Tryz.ntmps168
theorem en169:Enters Tryz.prog 169:=Enters.of Tryz.func169 (by kernel_rfl) rfl
attribute [go_sem] Tryz.ntmps169
theorem en184:Enters Tryz.prog 184:=Enters.of Tryz.func184 (by kernel_rfl) rfl
attribute [go_sem] Tryz.ntmps184
theorem en185:Enters Tryz.prog 185:=Enters.of Tryz.func185 (by kernel_rfl) rfl
attribute [go_sem] Tryz.ntmps185
theorem en186:Enters Tryz.prog 186:=Enters.of Tryz.func186 (by kernel_rfl) rfl
attribute [go_sem] Tryz.ntmps186
theorem en187:Enters Tryz.prog 187:=Enters.of Tryz.func187 (by kernel_rfl) rfl
attribute [go_sem] Tryz.ntmps187
theorem en188:Enters Tryz.prog 188:=Enters.of Tryz.func188 (by kernel_rfl) rfl
attribute [go_sem] Tryz.ntmps188
theorem en189:Enters Tryz.prog 189:=Enters.of Tryz.func189 (by kernel_rfl) rfl
attribute [go_sem] Tryz.ntmps189
theorem en204:Enters Tryz.prog 204:=Enters.of Tryz.func204 (by kernel_rfl) rfl
attribute [go_sem] Tryz.ntmps204
theorem en206:Enters Tryz.prog 206:=Enters.of Tryz.func206 (by kernel_rfl) rfl
attribute [go_sem] Tryz.ntmps206
theorem en208:Enters Tryz.prog 208:=Enters.of Tryz.func208 (by kernel_rfl) rfl
attribute [go_sem] Tryz.ntmps208
theorem en209:Enters Tryz.prog 209:=Enters.of Tryz.func209 (by kernel_rfl) rfl
attribute [go_sem] Tryz.ntmps209
theorem en210:Enters Tryz.prog 210:=Enters.of Tryz.func210 (by kernel_rfl) rfl
attribute [go_sem] Tryz.ntmps210
theorem en212:Enters Tryz.prog 212:=Enters.of Tryz.func212 (by kernel_rfl) rfl
attribute [go_sem] Tryz.ntmps212
theorem en213:Enters Tryz.prog 213:=Enters.of Tryz.func213 (by kernel_rfl) rfl
attribute [go_sem] Tryz.ntmps213
theorem en214:Enters Tryz.prog 214:=Enters.of Tryz.func214 (by kernel_rfl) rfl
attribute [go_sem] Tryz.ntmps214
theorem en218:Enters Tryz.prog 218:=Enters.of Tryz.func218 (by kernel_rfl) rfl
attribute [go_sem] Tryz.ntmps218
theorem en223:Enters Tryz.prog 223:=Enters.of Tryz.func223 (by kernel_rfl) rfl
attribute [go_sem] Tryz.ntmps223
theorem en229:Enters Tryz.prog 229:=Enters.of Tryz.func229 (by kernel_rfl) rfl
attribute [go_sem] Tryz.ntmps229
theorem en230:Enters Tryz.prog 230:=Enters.of Tryz.func230 (by kernel_rfl) rfl
attribute [go_sem] Tryz.ntmps230
theorem en231:Enters Tryz.prog 231:=Enters.of Tryz.func231 (by kernel_rfl) rfl
attribute [go_sem] Tryz.ntmps231
theorem en232:Enters Tryz.prog 232:=Enters.of Tryz.func232 (by kernel_rfl) rfl
attribute [go_sem] Tryz.ntmps232
theorem en233:Enters Tryz.prog 233:=Enters.of Tryz.func233 (by kernel_rfl) rfl
attribute [go_sem] Tryz.ntmps233
theorem en234:Enters Tryz.prog 234:=Enters.of Tryz.func234 (by kernel_rfl) rfl
attribute [go_sem] Tryz.ntmps234
theorem en235:Enters Tryz.prog 235:=Enters.of Tryz.func235 (by kernel_rfl) rfl
attribute [go_sem] Tryz.ntmps235
theorem en238:Enters Tryz.prog 238:=Enters.of Tryz.func238 (by kernel_rfl) rfl
attribute [go_sem] Tryz.ntmps238
theorem en244:Enters Tryz.prog 244:=Enters.of Tryz.func244 (by kernel_rfl) rfl
attribute [go_sem] Tryz.ntmps244
theorem en250:Enters Tryz.prog 250:=Enters.of Tryz.func250 (by kernel_rfl) rfl
attribute [go_sem] Tryz.ntmps250
theorem en251:Enters Tryz.prog 251:=Enters.of Tryz.func251 (by kernel_rfl) rfl
attribute [go_sem] Tryz.ntmps251
theorem en253:Enters Tryz.prog 253:=Enters.of Tryz.func253 (by kernel_rfl) rfl
attribute [go_sem] Tryz.ntmps253
theorem en254:Enters Tryz.prog 254:=Enters.of Tryz.func254 (by kernel_rfl) rfl
attribute [go_sem] Tryz.ntmps254
theorem en255:Enters Tryz.prog 255:=Enters.of Tryz.func255 (by kernel_rfl) rfl
attribute [go_sem] Tryz.ntmps255
theorem en256:Enters Tryz.prog 256:=Enters.of Tryz.func256 (by kernel_rfl) rfl
attribute [go_sem] Tryz.ntmps256
theorem en259:Enters Tryz.prog 259:=Enters.of Tryz.func259 (by kernel_rfl) rfl
attribute [go_sem] Tryz.ntmps259
theorem en260:Enters Tryz.prog 260:=Enters.of Tryz.func260 (by kernel_rfl) rfl
attribute [go_sem] Tryz.ntmps260
theorem en261:Enters Tryz.prog 261:=Enters.of Tryz.func261 (by kernel_rfl) rfl
attribute [go_sem] Tryz.ntmps261
theorem en262:Enters Tryz.prog 262:=Enters.of Tryz.func262 (by kernel_rfl) rfl
attribute [go_sem] Tryz.ntmps262
theorem en263:Enters Tryz.prog 263:=Enters.of Tryz.func263 (by kernel_rfl) rfl
attribute [go_sem] Tryz.ntmps263
theorem en266:Enters Tryz.prog 266:=Enters.of Tryz.func266 (by kernel_rfl) rfl
attribute [go_sem] Tryz.ntmps266
theorem en267:Enters Tryz.prog 267:=Enters.of Tryz.func267 (by kernel_rfl) rfl
attribute [go_sem] Tryz.ntmps267
theorem en272:Enters Tryz.prog 272:=Enters.of Tryz.func272 (by kernel_rfl) rfl
attribute [go_sem] Tryz.ntmps272
theorem en276:Enters Tryz.prog 276:=Enters.of Tryz.func276 (by kernel_rfl) rfl
attribute [go_sem] Tryz.ntmps276
theorem en277:Enters Tryz.prog 277:=Enters.of Tryz.func277 (by kernel_rfl) rfl
attribute [go_sem] Tryz.ntmps277
theorem en278:Enters Tryz.prog 278:=Enters.of Tryz.func278 (by kernel_rfl) rfl
attribute [go_sem] Tryz.ntmps278
theorem en280:Enters Tryz.prog 280:=Enters.of Tryz.func280 (by kernel_rfl) rfl
attribute [go_sem] Tryz.ntmps280
theorem en281:Enters Tryz.prog 281:=Enters.of Tryz.func281 (by kernel_rfl) rfl
attribute [go_sem] Tryz.ntmps281
theorem en287:Enters Tryz.prog 287:=Enters.of Tryz.func287 (by kernel_rfl) rfl
attribute [go_sem] Tryz.ntmps287
theorem en288:Enters Tryz.prog 288:=Enters.of Tryz.func288 (by kernel_rfl) rfl
attribute [go_sem] Tryz.ntmps288
theorem en289:Enters Tryz.prog 289:=Enters.of Tryz.func289 (by kernel_rfl) rfl
attribute [go_sem] Tryz.ntmps289
theorem en295:Enters Tryz.prog 295:=Enters.of Tryz.func295 (by kernel_rfl) rfl
attribute [go_sem] Tryz.ntmps295
theorem en299:Enters Tryz.prog 299:=Enters.of Tryz.func299 (by kernel_rfl) rfl
attribute [go_sem] Tryz.ntmps299
theorem mix:Tryz.prog.follows .mixedOrders=true:=by kernel_rfl
end Tf
end Go.Proofs.YtlnpgbnhcondjaaGreatDoor
