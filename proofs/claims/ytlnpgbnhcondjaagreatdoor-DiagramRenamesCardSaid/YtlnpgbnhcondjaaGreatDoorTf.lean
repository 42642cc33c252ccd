/-  -/
import Derived.Test.YtlnpgbnhcondjaaGreatDoorPS
import Derived.Test.YtlnpgbnhcondjaaGreatDoorProg
import Derived.Test.YtlnpgbnhcondjaaGreatDoorMB
import Derived.Test.YtlnpgbnhcondjaaGreatDoorMA
import Derived.KernelRfl
namespace Go.Proofs.YtlnpgbnhcondjaaGreatDoor
open Vg
namespace Tf
set_option linter.unusedSimpArgs false
set_option linter.unusedVariables false
@[go_sem] theorem sz1:szOf Tryz.prog 1=1∧aggOf Tryz.prog 1=some false∧(Tryz.prog.underlying 1).isSome=true∧zeroOf Tryz.prog 1=some [Value.nilFunc]∧strOf Tryz.prog 1=false:=by and_intros<;>kernel_rfl
@[go_sem] theorem by1:byOf Tryz.prog 1=8:=by kernel_rfl
@[go_sem] theorem sl1:slOf Tryz.prog 1=none∧paOf Tryz.prog 1=none∧szOf Tryz.prog 2=1∧aggOf Tryz.prog 2=some false∧(Tryz.prog.underlying 2).isSome=true∧zeroOf Tryz.prog 2=some [Value.int .i64 0]∧strOf Tryz.prog 2=false∧byOf Tryz.prog 2=8∧slOf Tryz.prog 2=none∧paOf Tryz.prog 2=none:=by and_intros<;>kernel_rfl
@[go_sem] theorem ki2:kiOf Tryz.prog 2=some .i64:=by kernel_rfl
@[go_sem] theorem sz3:szOf Tryz.prog 3=1:=by kernel_rfl
@[go_sem] theorem ag3:aggOf Tryz.prog 3=some false∧(Tryz.prog.underlying 3).isSome=true∧zeroOf Tryz.prog 3=some [Value.int .i64 0]∧strOf Tryz.prog 3=false∧byOf Tryz.prog 3=8∧slOf Tryz.prog 3=none∧paOf Tryz.prog 3=none:=by and_intros<;>kernel_rfl
@[go_sem] theorem ki3:kiOf Tryz.prog 3=some .i64:=by kernel_rfl
@[go_sem] theorem sz4:szOf Tryz.prog 4=1∧aggOf Tryz.prog 4=some false∧(Tryz.prog.underlying 4).isSome=true∧zeroOf Tryz.prog 4=some [Value.bool false]∧strOf Tryz.prog 4=false∧byOf Tryz.prog 4=1∧slOf Tryz.prog 4=none∧paOf Tryz.prog 4=none:=by and_intros<;>kernel_rfl
@[go_sem] theorem ub4:Tryz.prog.underlying 4=some .bool:=by kernel_rfl
@[go_sem] theorem sz5:szOf Tryz.prog 5=1∧aggOf Tryz.prog 5=some false∧(Tryz.prog.underlying 5).isSome=true∧zeroOf Tryz.prog 5=some [Value.int .u8 0]∧strOf Tryz.prog 5=false∧byOf Tryz.prog 5=1∧slOf Tryz.prog 5=none∧paOf Tryz.prog 5=none:=by and_intros<;>kernel_rfl
@[go_sem] theorem ki5:kiOf Tryz.prog 5=some .u8:=by kernel_rfl
@[go_sem] theorem sz6:szOf Tryz.prog 6=1∧aggOf Tryz.prog 6=some false∧(Tryz.prog.underlying 6).isSome=true∧zeroOf Tryz.prog 6=some [Value.int .u8 0]∧strOf Tryz.prog 6=false∧byOf Tryz.prog 6=1∧slOf Tryz.prog 6=none∧paOf Tryz.prog 6=none:=by and_intros<;>kernel_rfl
@[go_sem] theorem ki6:kiOf Tryz.prog 6=some .u8:=by kernel_rfl
@[go_sem] theorem sz7:szOf Tryz.prog 7=4∧aggOf Tryz.prog 7=some true∧(Tryz.prog.underlying 7).isSome=true∧zeroOf Tryz.prog 7=some [Value.int .i64 0,Value.int .i64 0,Value.bool false,Value.int .u8 0]∧strOf Tryz.prog 7=false∧byOf Tryz.prog 7=24∧slOf Tryz.prog 7=none∧paOf Tryz.prog 7=none∧plOf Tryz.prog 7=some [(0,1),(1,1),(2,1),(3,1)]∧fldOf Tryz.prog 7 0=some (0,1,false)∧offOf Tryz.prog 7 0=some 0∧fldOf Tryz.prog 7 1=some (1,1,false):=by and_intros<;>kernel_rfl
@[go_sem] theorem of7_1:offOf Tryz.prog 7 1=some 1∧fldOf Tryz.prog 7 2=some (2,1,false)∧offOf Tryz.prog 7 2=some 2∧fldOf Tryz.prog 7 3=some (3,1,false)∧offOf Tryz.prog 7 3=some 3∧szOf Tryz.prog 8=4∧aggOf Tryz.prog 8=some true∧(Tryz.prog.underlying 8).isSome=true∧zeroOf Tryz.prog 8=some [Value.int .i64 0,Value.int .i64 0,Value.bool false,Value.int .u8 0]∧strOf Tryz.prog 8=false∧byOf Tryz.prog 8=24∧slOf Tryz.prog 8=none:=by and_intros<;>kernel_rfl
@[go_sem] theorem pa8:paOf Tryz.prog 8=none∧plOf Tryz.prog 8=some [(0,1),(1,1),(2,1),(3,1)]∧fldOf Tryz.prog 8 0=some (0,1,false)∧offOf Tryz.prog 8 0=some 0∧fldOf Tryz.prog 8 1=some (1,1,false)∧offOf Tryz.prog 8 1=some 1∧fldOf Tryz.prog 8 2=some (2,1,false)∧offOf Tryz.prog 8 2=some 2∧fldOf Tryz.prog 8 3=some (3,1,false)∧offOf Tryz.prog 8 3=some 3:=by and_intros<;>kernel_rfl
@[go_sem] theorem sz9:szOf Tryz.prog 9=1:=by kernel_rfl
@[go_sem] theorem ag9:aggOf Tryz.prog 9=some false:=by kernel_rfl
@[go_sem] theorem us9:(Tryz.prog.underlying 9).isSome=true∧zeroOf Tryz.prog 9=some [Value.string ⟨#[]⟩]∧strOf Tryz.prog 9=true∧byOf Tryz.prog 9=16∧slOf Tryz.prog 9=none∧paOf Tryz.prog 9=none∧szOf Tryz.prog 10=1∧aggOf Tryz.prog 10=some false∧(Tryz.prog.underlying 10).isSome=true∧zeroOf Tryz.prog 10=some [Value.string ⟨#[]⟩]∧strOf Tryz.prog 10=true∧byOf Tryz.prog 10=16:=by and_intros<;>kernel_rfl
@[go_sem] theorem sl10:slOf Tryz.prog 10=none∧paOf Tryz.prog 10=none∧szOf Tryz.prog 11=1∧aggOf Tryz.prog 11=some false∧(Tryz.prog.underlying 11).isSome=true∧zeroOf Tryz.prog 11=some [Value.string ⟨#[]⟩]∧strOf Tryz.prog 11=true∧byOf Tryz.prog 11=16∧slOf Tryz.prog 11=none∧paOf Tryz.prog 11=none∧szOf Tryz.prog 12=1∧aggOf Tryz.prog 12=some false:=by and_intros<;>kernel_rfl
@[go_sem] theorem us12:(Tryz.prog.underlying 12).isSome=true∧zeroOf Tryz.prog 12=some [Value.int .u64 0]∧strOf Tryz.prog 12=false∧byOf Tryz.prog 12=8∧slOf Tryz.prog 12=none∧paOf Tryz.prog 12=none:=by and_intros<;>kernel_rfl
@[go_sem] theorem ki12:kiOf Tryz.prog 12=some .u64:=by kernel_rfl
@[go_sem] theorem sz13:szOf Tryz.prog 13=2∧aggOf Tryz.prog 13=some true∧(Tryz.prog.underlying 13).isSome=true∧zeroOf Tryz.prog 13=some [Value.string ⟨#[]⟩,Value.int .u64 0]∧strOf Tryz.prog 13=false∧byOf Tryz.prog 13=24∧slOf Tryz.prog 13=none∧paOf Tryz.prog 13=none∧plOf Tryz.prog 13=some [(0,1),(1,1)]∧fldOf Tryz.prog 13 0=some (0,1,false)∧offOf Tryz.prog 13 0=some 0∧fldOf Tryz.prog 13 1=some (1,1,false):=by and_intros<;>kernel_rfl
@[go_sem] theorem of13_1:offOf Tryz.prog 13 1=some 1∧szOf Tryz.prog 14=2∧aggOf Tryz.prog 14=some true∧(Tryz.prog.underlying 14).isSome=true∧zeroOf Tryz.prog 14=some [Value.string ⟨#[]⟩,Value.int .u64 0]∧strOf Tryz.prog 14=false∧byOf Tryz.prog 14=24∧slOf Tryz.prog 14=none∧paOf Tryz.prog 14=none∧plOf Tryz.prog 14=some [(0,1),(1,1)]∧fldOf Tryz.prog 14 0=some (0,1,false)∧offOf Tryz.prog 14 0=some 0:=by and_intros<;>kernel_rfl
@[go_sem] theorem fl14_1:fldOf Tryz.prog 14 1=some (1,1,false)∧offOf Tryz.prog 14 1=some 1∧szOf Tryz.prog 15=1∧aggOf Tryz.prog 15=some false∧(Tryz.prog.underlying 15).isSome=true∧zeroOf Tryz.prog 15=some [Value.pointer none]∧strOf Tryz.prog 15=false∧byOf Tryz.prog 15=8∧slOf Tryz.prog 15=none∧paOf Tryz.prog 15=none:=by and_intros<;>kernel_rfl
@[go_sem] theorem pt15:ptOf Tryz.prog 15=some 326:=by kernel_rfl
@[go_sem] theorem sz16:szOf Tryz.prog 16=1∧aggOf Tryz.prog 16=some false∧(Tryz.prog.underlying 16).isSome=true∧zeroOf Tryz.prog 16=some [Value.pointer none]∧strOf Tryz.prog 16=false∧byOf Tryz.prog 16=8∧slOf Tryz.prog 16=none∧paOf Tryz.prog 16=none:=by and_intros<;>kernel_rfl
@[go_sem] theorem pt16:ptOf Tryz.prog 16=some 329:=by kernel_rfl
@[go_sem] theorem sz17:szOf Tryz.prog 17=1∧aggOf Tryz.prog 17=some false∧(Tryz.prog.underlying 17).isSome=true∧zeroOf Tryz.prog 17=some [Value.pointer none]∧strOf Tryz.prog 17=false∧byOf Tryz.prog 17=8∧slOf Tryz.prog 17=none∧paOf Tryz.prog 17=none:=by and_intros<;>kernel_rfl
@[go_sem] theorem pt17:ptOf Tryz.prog 17=some 336:=by kernel_rfl
@[go_sem] theorem sz18:szOf Tryz.prog 18=1∧aggOf Tryz.prog 18=some true∧(Tryz.prog.underlying 18).isSome=true∧zeroOf Tryz.prog 18=some [Value.pointer none]∧strOf Tryz.prog 18=false∧byOf Tryz.prog 18=8∧slOf Tryz.prog 18=none∧paOf Tryz.prog 18=none∧plOf Tryz.prog 18=some [(0,1)]∧fldOf Tryz.prog 18 0=some (0,1,false)∧offOf Tryz.prog 18 0=some 0∧szOf Tryz.prog 19=1:=by and_intros<;>kernel_rfl
@[go_sem] theorem ag19:aggOf Tryz.prog 19=some true∧(Tryz.prog.underlying 19).isSome=true∧zeroOf Tryz.prog 19=some [Value.pointer none]∧strOf Tryz.prog 19=false∧byOf Tryz.prog 19=8∧slOf Tryz.prog 19=none∧paOf Tryz.prog 19=none∧plOf Tryz.prog 19=some [(0,1)]∧fldOf Tryz.prog 19 0=some (0,1,false)∧offOf Tryz.prog 19 0=some 0∧szOf Tryz.prog 20=1∧aggOf Tryz.prog 20=some false:=by and_intros<;>kernel_rfl
@[go_sem] theorem us20:(Tryz.prog.underlying 20).isSome=true∧zeroOf Tryz.prog 20=some [Value.nilIface]∧strOf Tryz.prog 20=false∧byOf Tryz.prog 20=16∧slOf Tryz.prog 20=none∧paOf Tryz.prog 20=none∧szOf Tryz.prog 21=1∧aggOf Tryz.prog 21=some false∧(Tryz.prog.underlying 21).isSome=true∧zeroOf Tryz.prog 21=some [Value.int .i32 0]∧strOf Tryz.prog 21=false∧byOf Tryz.prog 21=4:=by and_intros<;>kernel_rfl
@[go_sem] theorem sl21:slOf Tryz.prog 21=none∧paOf Tryz.prog 21=none:=by and_intros<;>kernel_rfl
@[go_sem] theorem ki21:kiOf Tryz.prog 21=some .i32:=by kernel_rfl
@[go_sem] theorem sz22:szOf Tryz.prog 22=1∧aggOf Tryz.prog 22=some false∧(Tryz.prog.underlying 22).isSome=true∧zeroOf Tryz.prog 22=some [Value.nilFunc]∧strOf Tryz.prog 22=false∧byOf Tryz.prog 22=8∧slOf Tryz.prog 22=none∧paOf Tryz.prog 22=none∧szOf Tryz.prog 23=1∧aggOf Tryz.prog 23=some false∧(Tryz.prog.underlying 23).isSome=true∧zeroOf Tryz.prog 23=some [Value.slice none 0 0]:=by and_intros<;>kernel_rfl
@[go_sem] theorem st23:strOf Tryz.prog 23=false∧byOf Tryz.prog 23=24∧slOf Tryz.prog 23=some (93,11)∧paOf Tryz.prog 23=none∧szOf Tryz.prog 24=1∧aggOf Tryz.prog 24=some false∧(Tryz.prog.underlying 24).isSome=true∧zeroOf Tryz.prog 24=some [Value.slice none 0 0]∧strOf Tryz.prog 24=false∧byOf Tryz.prog 24=24∧slOf Tryz.prog 24=some (110,3)∧paOf Tryz.prog 24=none:=by and_intros<;>kernel_rfl
@[go_sem] theorem sz25:szOf Tryz.prog 25=1∧aggOf Tryz.prog 25=some false∧(Tryz.prog.underlying 25).isSome=true∧zeroOf Tryz.prog 25=some [Value.slice none 0 0]∧strOf Tryz.prog 25=false∧byOf Tryz.prog 25=24∧slOf Tryz.prog 25=some (115,4)∧paOf Tryz.prog 25=none∧szOf Tryz.prog 26=1∧aggOf Tryz.prog 26=some false∧(Tryz.prog.underlying 26).isSome=true∧zeroOf Tryz.prog 26=some [Value.slice none 0 0]:=by and_intros<;>kernel_rfl
@[go_sem] theorem st26:strOf Tryz.prog 26=false∧byOf Tryz.prog 26=24∧slOf Tryz.prog 26=some (118,4)∧paOf Tryz.prog 26=none∧szOf Tryz.prog 27=1∧aggOf Tryz.prog 27=some false∧(Tryz.prog.underlying 27).isSome=true∧zeroOf Tryz.prog 27=some [Value.slice none 0 0]∧strOf Tryz.prog 27=false∧byOf Tryz.prog 27=24∧slOf Tryz.prog 27=some (82,6)∧paOf Tryz.prog 27=none:=by and_intros<;>kernel_rfl
@[go_sem] theorem sz28:szOf Tryz.prog 28=1∧aggOf Tryz.prog 28=some false∧(Tryz.prog.underlying 28).isSome=true∧zeroOf Tryz.prog 28=some [Value.slice none 0 0]∧strOf Tryz.prog 28=false∧byOf Tryz.prog 28=24:=by and_intros<;>kernel_rfl
@[go_sem] theorem sl28:slOf Tryz.prog 28=some (9,1):=by kernel_rfl
@[go_sem] theorem pa28:paOf Tryz.prog 28=none∧szOf Tryz.prog 29=7∧aggOf Tryz.prog 29=some true∧(Tryz.prog.underlying 29).isSome=true∧zeroOf Tryz.prog 29=some [Value.string ⟨#[]⟩,Value.slice none 0 0,Value.slice none 0 0,Value.slice none 0 0,Value.slice none 0 0,Value.slice none 0 0,Value.slice none 0 0]∧strOf Tryz.prog 29=false∧byOf Tryz.prog 29=160∧slOf Tryz.prog 29=none∧paOf Tryz.prog 29=none∧plOf Tryz.prog 29=some [(0,1),(1,1),(2,1),(3,1),(4,1),(5,1),(6,1)]∧fldOf Tryz.prog 29 0=some (0,1,false)∧offOf Tryz.prog 29 0=some 0:=by and_intros<;>kernel_rfl
@[go_sem] theorem fl29_1:fldOf Tryz.prog 29 1=some (1,1,false)∧offOf Tryz.prog 29 1=some 1∧fldOf Tryz.prog 29 2=some (2,1,false)∧offOf Tryz.prog 29 2=some 2∧fldOf Tryz.prog 29 3=some (3,1,false)∧offOf Tryz.prog 29 3=some 3∧fldOf Tryz.prog 29 4=some (4,1,false)∧offOf Tryz.prog 29 4=some 4∧fldOf Tryz.prog 29 5=some (5,1,false)∧offOf Tryz.prog 29 5=some 5∧fldOf Tryz.prog 29 6=some (6,1,false)∧offOf Tryz.prog 29 6=some 6:=by and_intros<;>kernel_rfl
@[go_sem] theorem sz30:szOf Tryz.prog 30=7:=by kernel_rfl
@[go_sem] theorem ag30:aggOf Tryz.prog 30=some true∧(Tryz.prog.underlying 30).isSome=true∧zeroOf Tryz.prog 30=some [Value.string ⟨#[]⟩,Value.slice none 0 0,Value.slice none 0 0,Value.slice none 0 0,Value.slice none 0 0,Value.slice none 0 0,Value.slice none 0 0]∧strOf Tryz.prog 30=false∧byOf Tryz.prog 30=160∧slOf Tryz.prog 30=none∧paOf Tryz.prog 30=none∧plOf Tryz.prog 30=some [(0,1),(1,1),(2,1),(3,1),(4,1),(5,1),(6,1)]∧fldOf Tryz.prog 30 0=some (0,1,false)∧offOf Tryz.prog 30 0=some 0∧fldOf Tryz.prog 30 1=some (1,1,false)∧offOf Tryz.prog 30 1=some 1:=by and_intros<;>kernel_rfl
@[go_sem] theorem fl30_2:fldOf Tryz.prog 30 2=some (2,1,false)∧offOf Tryz.prog 30 2=some 2∧fldOf Tryz.prog 30 3=some (3,1,false)∧offOf Tryz.prog 30 3=some 3∧fldOf Tryz.prog 30 4=some (4,1,false)∧offOf Tryz.prog 30 4=some 4∧fldOf Tryz.prog 30 5=some (5,1,false)∧offOf Tryz.prog 30 5=some 5∧fldOf Tryz.prog 30 6=some (6,1,false)∧offOf Tryz.prog 30 6=some 6∧szOf Tryz.prog 31=2∧aggOf Tryz.prog 31=some true:=by and_intros<;>kernel_rfl
@[go_sem] theorem us31:(Tryz.prog.underlying 31).isSome=true∧zeroOf Tryz.prog 31=some [Value.int .i64 0,Value.int .i64 0]∧strOf Tryz.prog 31=false∧byOf Tryz.prog 31=16∧slOf Tryz.prog 31=none∧paOf Tryz.prog 31=none∧plOf Tryz.prog 31=some [(0,1),(1,1)]∧fldOf Tryz.prog 31 0=some (0,1,false)∧offOf Tryz.prog 31 0=some 0∧fldOf Tryz.prog 31 1=some (1,1,false)∧offOf Tryz.prog 31 1=some 1∧szOf Tryz.prog 32=2:=by and_intros<;>kernel_rfl
@[go_sem] theorem ag32:aggOf Tryz.prog 32=some true:=by kernel_rfl
@[go_sem] theorem us32:(Tryz.prog.underlying 32).isSome=true∧zeroOf Tryz.prog 32=some [Value.int .i64 0,Value.int .i64 0]∧strOf Tryz.prog 32=false∧byOf Tryz.prog 32=16∧slOf Tryz.prog 32=none∧paOf Tryz.prog 32=none∧plOf Tryz.prog 32=some [(0,1),(1,1)]∧fldOf Tryz.prog 32 0=some (0,1,false)∧offOf Tryz.prog 32 0=some 0∧fldOf Tryz.prog 32 1=some (1,1,false)∧offOf Tryz.prog 32 1=some 1∧szOf Tryz.prog 33=1:=by and_intros<;>kernel_rfl
@[go_sem] theorem ag33:aggOf Tryz.prog 33=some false∧(Tryz.prog.underlying 33).isSome=true∧zeroOf Tryz.prog 33=some [Value.int .i64 0]∧strOf Tryz.prog 33=false∧byOf Tryz.prog 33=8∧slOf Tryz.prog 33=none∧paOf Tryz.prog 33=none:=by and_intros<;>kernel_rfl
@[go_sem] theorem ki33:kiOf Tryz.prog 33=some .i64:=by kernel_rfl
@[go_sem] theorem sz48:szOf Tryz.prog 48=1∧aggOf Tryz.prog 48=some false∧(Tryz.prog.underlying 48).isSome=true∧zeroOf Tryz.prog 48=some [Value.nilFunc]∧strOf Tryz.prog 48=false∧byOf Tryz.prog 48=8∧slOf Tryz.prog 48=none∧paOf Tryz.prog 48=none∧szOf Tryz.prog 49=1∧aggOf Tryz.prog 49=some false∧(Tryz.prog.underlying 49).isSome=true∧zeroOf Tryz.prog 49=some [Value.slice none 0 0]:=by and_intros<;>kernel_rfl
@[go_sem] theorem st49:strOf Tryz.prog 49=false∧byOf Tryz.prog 49=24∧slOf Tryz.prog 49=some (5,1)∧paOf Tryz.prog 49=none∧szOf Tryz.prog 50=1∧aggOf Tryz.prog 50=some false∧(Tryz.prog.underlying 50).isSome=true∧zeroOf Tryz.prog 50=some [Value.slice none 0 0]∧strOf Tryz.prog 50=false∧byOf Tryz.prog 50=24∧slOf Tryz.prog 50=some (57,4)∧paOf Tryz.prog 50=none:=by and_intros<;>kernel_rfl
@[go_sem] theorem sz53:szOf Tryz.prog 53=1∧aggOf Tryz.prog 53=some false∧(Tryz.prog.underlying 53).isSome=true∧zeroOf Tryz.prog 53=some [Value.pointer none]∧strOf Tryz.prog 53=false∧byOf Tryz.prog 53=8∧slOf Tryz.prog 53=none∧paOf Tryz.prog 53=none:=by and_intros<;>kernel_rfl
@[go_sem] theorem pt53:ptOf Tryz.prog 53=some 55:=by kernel_rfl
@[go_sem] theorem sz54:szOf Tryz.prog 54=2∧aggOf Tryz.prog 54=some true∧(Tryz.prog.underlying 54).isSome=true∧zeroOf Tryz.prog 54=some [Value.pointer none,Value.slice none 0 0]∧strOf Tryz.prog 54=false∧byOf Tryz.prog 54=32∧slOf Tryz.prog 54=none∧paOf Tryz.prog 54=none∧plOf Tryz.prog 54=some [(0,1),(1,1)]∧fldOf Tryz.prog 54 0=some (0,1,false)∧offOf Tryz.prog 54 0=some 0∧fldOf Tryz.prog 54 1=some (1,1,false):=by and_intros<;>kernel_rfl
@[go_sem] theorem of54_1:offOf Tryz.prog 54 1=some 1:=by kernel_rfl
@[go_sem] theorem sz55:szOf Tryz.prog 55=2:=by kernel_rfl
@[go_sem] theorem ag55:aggOf Tryz.prog 55=some true∧(Tryz.prog.underlying 55).isSome=true∧zeroOf Tryz.prog 55=some [Value.pointer none,Value.slice none 0 0]∧strOf Tryz.prog 55=false∧byOf Tryz.prog 55=32∧slOf Tryz.prog 55=none∧paOf Tryz.prog 55=none∧plOf Tryz.prog 55=some [(0,1),(1,1)]∧fldOf Tryz.prog 55 0=some (0,1,false)∧offOf Tryz.prog 55 0=some 0∧fldOf Tryz.prog 55 1=some (1,1,false)∧offOf Tryz.prog 55 1=some 1:=by and_intros<;>kernel_rfl
@[go_sem] theorem sz56:szOf Tryz.prog 56=4∧aggOf Tryz.prog 56=some true∧(Tryz.prog.underlying 56).isSome=true∧zeroOf Tryz.prog 56=some [Value.int .i64 0,Value.string ⟨#[]⟩,Value.int .i64 0,Value.int .i64 0]∧strOf Tryz.prog 56=false∧byOf Tryz.prog 56=40∧slOf Tryz.prog 56=none∧paOf Tryz.prog 56=none∧plOf Tryz.prog 56=some [(0,1),(1,1),(2,2)]∧fldOf Tryz.prog 56 0=some (0,1,false)∧offOf Tryz.prog 56 0=some 0∧fldOf Tryz.prog 56 1=some (1,1,false):=by and_intros<;>kernel_rfl
@[go_sem] theorem of56_1:offOf Tryz.prog 56 1=some 1∧fldOf Tryz.prog 56 2=some (2,2,true)∧offOf Tryz.prog 56 2=some 2∧szOf Tryz.prog 57=4:=by and_intros<;>kernel_rfl
@[go_sem] theorem ag57:aggOf Tryz.prog 57=some true:=by kernel_rfl
@[go_sem] theorem us57:(Tryz.prog.underlying 57).isSome=true∧zeroOf Tryz.prog 57=some [Value.int .i64 0,Value.string ⟨#[]⟩,Value.int .i64 0,Value.int .i64 0]∧strOf Tryz.prog 57=false∧byOf Tryz.prog 57=40∧slOf Tryz.prog 57=none∧paOf Tryz.prog 57=none∧plOf Tryz.prog 57=some [(0,1),(1,1),(2,2)]∧fldOf Tryz.prog 57 0=some (0,1,false)∧offOf Tryz.prog 57 0=some 0∧fldOf Tryz.prog 57 1=some (1,1,false)∧offOf Tryz.prog 57 1=some 1∧fldOf Tryz.prog 57 2=some (2,2,true):=by and_intros<;>kernel_rfl
@[go_sem] theorem of57_2:offOf Tryz.prog 57 2=some 2∧szOf Tryz.prog 58=1∧aggOf Tryz.prog 58=some false∧(Tryz.prog.underlying 58).isSome=true∧zeroOf Tryz.prog 58=some [Value.nilIface]∧strOf Tryz.prog 58=false∧byOf Tryz.prog 58=16∧slOf Tryz.prog 58=none∧paOf Tryz.prog 58=none∧szOf Tryz.prog 59=1∧aggOf Tryz.prog 59=some false∧(Tryz.prog.underlying 59).isSome=true:=by and_intros<;>kernel_rfl
@[go_sem] theorem zr59:zeroOf Tryz.prog 59=some [Value.nilIface]∧strOf Tryz.prog 59=false∧byOf Tryz.prog 59=16∧slOf Tryz.prog 59=none∧paOf Tryz.prog 59=none∧szOf Tryz.prog 70=1∧aggOf Tryz.prog 70=some false∧(Tryz.prog.underlying 70).isSome=true∧zeroOf Tryz.prog 70=some [Value.slice none 0 0]∧strOf Tryz.prog 70=false∧byOf Tryz.prog 70=24∧slOf Tryz.prog 70=some (73,1):=by and_intros<;>kernel_rfl
@[go_sem] theorem pa70:paOf Tryz.prog 70=none:=by kernel_rfl
@[go_sem] theorem sz73:szOf Tryz.prog 73=1:=by kernel_rfl
@[go_sem] theorem ag73:aggOf Tryz.prog 73=some false∧(Tryz.prog.underlying 73).isSome=true∧zeroOf Tryz.prog 73=some [Value.slice none 0 0]∧strOf Tryz.prog 73=false∧byOf Tryz.prog 73=24∧slOf Tryz.prog 73=some (3,1)∧paOf Tryz.prog 73=none∧szOf Tryz.prog 81=6∧aggOf Tryz.prog 81=some true∧(Tryz.prog.underlying 81).isSome=true∧zeroOf Tryz.prog 81=some [Value.string ⟨#[]⟩,Value.string ⟨#[]⟩,Value.string ⟨#[]⟩,Value.slice none 0 0,Value.string ⟨#[]⟩,Value.slice none 0 0]∧strOf Tryz.prog 81=false:=by and_intros<;>kernel_rfl
@[go_sem] theorem by81:byOf Tryz.prog 81=112∧slOf Tryz.prog 81=none∧paOf Tryz.prog 81=none∧plOf Tryz.prog 81=some [(0,1),(1,1),(2,1),(3,1),(4,1),(5,1)]∧fldOf Tryz.prog 81 0=some (0,1,false)∧offOf Tryz.prog 81 0=some 0∧fldOf Tryz.prog 81 1=some (1,1,false)∧offOf Tryz.prog 81 1=some 1∧fldOf Tryz.prog 81 2=some (2,1,false)∧offOf Tryz.prog 81 2=some 2∧fldOf Tryz.prog 81 3=some (3,1,false)∧offOf Tryz.prog 81 3=some 3:=by and_intros<;>kernel_rfl
@[go_sem] theorem fl81_4:fldOf Tryz.prog 81 4=some (4,1,false)∧offOf Tryz.prog 81 4=some 4∧fldOf Tryz.prog 81 5=some (5,1,false)∧offOf Tryz.prog 81 5=some 5:=by and_intros<;>kernel_rfl
@[go_sem] theorem sz82:szOf Tryz.prog 82=6:=by kernel_rfl
@[go_sem] theorem ag82:aggOf Tryz.prog 82=some true∧(Tryz.prog.underlying 82).isSome=true∧zeroOf Tryz.prog 82=some [Value.string ⟨#[]⟩,Value.string ⟨#[]⟩,Value.string ⟨#[]⟩,Value.slice none 0 0,Value.string ⟨#[]⟩,Value.slice none 0 0]∧strOf Tryz.prog 82=false∧byOf Tryz.prog 82=112∧slOf Tryz.prog 82=none∧paOf Tryz.prog 82=none∧plOf Tryz.prog 82=some [(0,1),(1,1),(2,1),(3,1),(4,1),(5,1)]∧fldOf Tryz.prog 82 0=some (0,1,false)∧offOf Tryz.prog 82 0=some 0∧fldOf Tryz.prog 82 1=some (1,1,false)∧offOf Tryz.prog 82 1=some 1:=by and_intros<;>kernel_rfl
@[go_sem] theorem fl82_2:fldOf Tryz.prog 82 2=some (2,1,false)∧offOf Tryz.prog 82 2=some 2∧fldOf Tryz.prog 82 3=some (3,1,false)∧offOf Tryz.prog 82 3=some 3∧fldOf Tryz.prog 82 4=some (4,1,false)∧offOf Tryz.prog 82 4=some 4∧fldOf Tryz.prog 82 5=some (5,1,false)∧offOf Tryz.prog 82 5=some 5∧szOf Tryz.prog 88=5∧aggOf Tryz.prog 88=some true∧(Tryz.prog.underlying 88).isSome=true∧zeroOf Tryz.prog 88=some [Value.int .i64 0,Value.int .i64 0,Value.int .i64 0,Value.int .i64 0,Value.int .i64 0]:=by and_intros<;>kernel_rfl
@[go_sem] theorem st88:strOf Tryz.prog 88=false∧byOf Tryz.prog 88=40∧slOf Tryz.prog 88=none∧paOf Tryz.prog 88=none∧plOf Tryz.prog 88=some [(0,1),(1,1),(2,1),(3,1),(4,1)]∧fldOf Tryz.prog 88 0=some (0,1,false)∧offOf Tryz.prog 88 0=some 0∧fldOf Tryz.prog 88 1=some (1,1,false)∧offOf Tryz.prog 88 1=some 1∧fldOf Tryz.prog 88 2=some (2,1,false)∧offOf Tryz.prog 88 2=some 2∧fldOf Tryz.prog 88 3=some (3,1,false):=by and_intros<;>kernel_rfl
@[go_sem] theorem of88_3:offOf Tryz.prog 88 3=some 3∧fldOf Tryz.prog 88 4=some (4,1,false)∧offOf Tryz.prog 88 4=some 4∧szOf Tryz.prog 89=5:=by and_intros<;>kernel_rfl
@[go_sem] theorem ag89:aggOf Tryz.prog 89=some true:=by kernel_rfl
@[go_sem] theorem us89:(Tryz.prog.underlying 89).isSome=true∧zeroOf Tryz.prog 89=some [Value.int .i64 0,Value.int .i64 0,Value.int .i64 0,Value.int .i64 0,Value.int .i64 0]∧strOf Tryz.prog 89=false∧byOf Tryz.prog 89=40∧slOf Tryz.prog 89=none∧paOf Tryz.prog 89=none∧plOf Tryz.prog 89=some [(0,1),(1,1),(2,1),(3,1),(4,1)]∧fldOf Tryz.prog 89 0=some (0,1,false)∧offOf Tryz.prog 89 0=some 0∧fldOf Tryz.prog 89 1=some (1,1,false)∧offOf Tryz.prog 89 1=some 1∧fldOf Tryz.prog 89 2=some (2,1,false):=by and_intros<;>kernel_rfl
@[go_sem] theorem of89_2:offOf Tryz.prog 89 2=some 2∧fldOf Tryz.prog 89 3=some (3,1,false)∧offOf Tryz.prog 89 3=some 3∧fldOf Tryz.prog 89 4=some (4,1,false)∧offOf Tryz.prog 89 4=some 4∧szOf Tryz.prog 90=10∧aggOf Tryz.prog 90=some true∧(Tryz.prog.underlying 90).isSome=true:=by and_intros<;>kernel_rfl
@[go_sem] theorem zr90:zeroOf Tryz.prog 90=some [Value.int .i64 0,Value.bool false,Value.int .i64 0,Value.int .i64 0,Value.int .i64 0,Value.int .i64 0,Value.int .i64 0,Value.int .i64 0,Value.int .i64 0,Value.int .i64 0]:=by kernel_rfl
@[go_sem] theorem st90:strOf Tryz.prog 90=false∧byOf Tryz.prog 90=80∧slOf Tryz.prog 90=none∧paOf Tryz.prog 90=none∧plOf Tryz.prog 90=some [(0,1),(1,1),(2,1),(3,1),(4,1),(5,5)]∧fldOf Tryz.prog 90 0=some (0,1,false)∧offOf Tryz.prog 90 0=some 0∧fldOf Tryz.prog 90 1=some (1,1,false)∧offOf Tryz.prog 90 1=some 1∧fldOf Tryz.prog 90 2=some (2,1,false)∧offOf Tryz.prog 90 2=some 2∧fldOf Tryz.prog 90 3=some (3,1,false):=by and_intros<;>kernel_rfl
@[go_sem] theorem of90_3:offOf Tryz.prog 90 3=some 3∧fldOf Tryz.prog 90 4=some (4,1,false)∧offOf Tryz.prog 90 4=some 4∧fldOf Tryz.prog 90 5=some (5,5,true)∧offOf Tryz.prog 90 5=some 5∧szOf Tryz.prog 91=10:=by and_intros<;>kernel_rfl
@[go_sem] theorem ag91:aggOf Tryz.prog 91=some true:=by kernel_rfl
@[go_sem] theorem us91:(Tryz.prog.underlying 91).isSome=true:=by kernel_rfl
@[go_sem] theorem zr91:zeroOf Tryz.prog 91=some [Value.int .i64 0,Value.bool false,Value.int .i64 0,Value.int .i64 0,Value.int .i64 0,Value.int .i64 0,Value.int .i64 0,Value.int .i64 0,Value.int .i64 0,Value.int .i64 0]:=by kernel_rfl
@[go_sem] theorem st91:strOf Tryz.prog 91=false∧byOf Tryz.prog 91=80∧slOf Tryz.prog 91=none∧paOf Tryz.prog 91=none∧plOf Tryz.prog 91=some [(0,1),(1,1),(2,1),(3,1),(4,1),(5,5)]∧fldOf Tryz.prog 91 0=some (0,1,false)∧offOf Tryz.prog 91 0=some 0∧fldOf Tryz.prog 91 1=some (1,1,false)∧offOf Tryz.prog 91 1=some 1∧fldOf Tryz.prog 91 2=some (2,1,false)∧offOf Tryz.prog 91 2=some 2∧fldOf Tryz.prog 91 3=some (3,1,false):=by and_intros<;>kernel_rfl
@[go_sem] theorem of91_3:offOf Tryz.prog 91 3=some 3∧fldOf Tryz.prog 91 4=some (4,1,false)∧offOf Tryz.prog 91 4=some 4∧fldOf Tryz.prog 91 5=some (5,5,true)∧offOf Tryz.prog 91 5=some 5∧szOf Tryz.prog 92=11∧aggOf Tryz.prog 92=some true∧(Tryz.prog.underlying 92).isSome=true:=by and_intros<;>kernel_rfl
@[go_sem] theorem zr92:zeroOf Tryz.prog 92=some [Value.string ⟨#[]⟩,Value.int .i64 0,Value.bool false,Value.int .i64 0,Value.int .i64 0,Value.int .i64 0,Value.int .i64 0,Value.int .i64 0,Value.int .i64 0,Value.int .i64 0,Value.int .i64 0]:=by kernel_rfl
@[go_sem] theorem st92:strOf Tryz.prog 92=false∧byOf Tryz.prog 92=96∧slOf Tryz.prog 92=none∧paOf Tryz.prog 92=none∧plOf Tryz.prog 92=some [(0,1),(1,10)]∧fldOf Tryz.prog 92 0=some (0,1,false)∧offOf Tryz.prog 92 0=some 0∧fldOf Tryz.prog 92 1=some (1,10,true)∧offOf Tryz.prog 92 1=some 1:=by and_intros<;>kernel_rfl
@[go_sem] theorem sz93:szOf Tryz.prog 93=11:=by kernel_rfl
@[go_sem] theorem ag93:aggOf Tryz.prog 93=some true:=by kernel_rfl
@[go_sem] theorem us93:(Tryz.prog.underlying 93).isSome=true:=by kernel_rfl
@[go_sem] theorem zr93:zeroOf Tryz.prog 93=some [Value.string ⟨#[]⟩,Value.int .i64 0,Value.bool false,Value.int .i64 0,Value.int .i64 0,Value.int .i64 0,Value.int .i64 0,Value.int .i64 0,Value.int .i64 0,Value.int .i64 0,Value.int .i64 0]:=by kernel_rfl
@[go_sem] theorem st93:strOf Tryz.prog 93=false∧byOf Tryz.prog 93=96∧slOf Tryz.prog 93=none∧paOf Tryz.prog 93=none∧plOf Tryz.prog 93=some [(0,1),(1,10)]∧fldOf Tryz.prog 93 0=some (0,1,false)∧offOf Tryz.prog 93 0=some 0∧fldOf Tryz.prog 93 1=some (1,10,true)∧offOf Tryz.prog 93 1=some 1∧szOf Tryz.prog 94=1∧aggOf Tryz.prog 94=some false∧(Tryz.prog.underlying 94).isSome=true:=by and_intros<;>kernel_rfl
@[go_sem] theorem zr94:zeroOf Tryz.prog 94=some [Value.pointer none]∧strOf Tryz.prog 94=false∧byOf Tryz.prog 94=8∧slOf Tryz.prog 94=none∧paOf Tryz.prog 94=none:=by and_intros<;>kernel_rfl
@[go_sem] theorem pt94:ptOf Tryz.prog 94=some 96:=by kernel_rfl
@[go_sem] theorem sz95:szOf Tryz.prog 95=5∧aggOf Tryz.prog 95=some true∧(Tryz.prog.underlying 95).isSome=true∧zeroOf Tryz.prog 95=some [Value.slice none 0 0,Value.int .i64 0,Value.int .i64 0,Value.int .i64 0,Value.int .i64 0]∧strOf Tryz.prog 95=false∧byOf Tryz.prog 95=56∧slOf Tryz.prog 95=none∧paOf Tryz.prog 95=none∧plOf Tryz.prog 95=some [(0,1),(1,1),(2,1),(3,2)]∧fldOf Tryz.prog 95 0=some (0,1,false)∧offOf Tryz.prog 95 0=some 0∧fldOf Tryz.prog 95 1=some (1,1,false):=by and_intros<;>kernel_rfl
@[go_sem] theorem of95_1:offOf Tryz.prog 95 1=some 1∧fldOf Tryz.prog 95 2=some (2,1,false)∧offOf Tryz.prog 95 2=some 2∧fldOf Tryz.prog 95 3=some (3,2,true)∧offOf Tryz.prog 95 3=some 3∧szOf Tryz.prog 96=5∧aggOf Tryz.prog 96=some true∧(Tryz.prog.underlying 96).isSome=true∧zeroOf Tryz.prog 96=some [Value.slice none 0 0,Value.int .i64 0,Value.int .i64 0,Value.int .i64 0,Value.int .i64 0]∧strOf Tryz.prog 96=false∧byOf Tryz.prog 96=56∧slOf Tryz.prog 96=none:=by and_intros<;>kernel_rfl
@[go_sem] theorem pa96:paOf Tryz.prog 96=none∧plOf Tryz.prog 96=some [(0,1),(1,1),(2,1),(3,2)]∧fldOf Tryz.prog 96 0=some (0,1,false)∧offOf Tryz.prog 96 0=some 0∧fldOf Tryz.prog 96 1=some (1,1,false)∧offOf Tryz.prog 96 1=some 1∧fldOf Tryz.prog 96 2=some (2,1,false)∧offOf Tryz.prog 96 2=some 2∧fldOf Tryz.prog 96 3=some (3,2,true)∧offOf Tryz.prog 96 3=some 3∧szOf Tryz.prog 98=1∧aggOf Tryz.prog 98=some false:=by and_intros<;>kernel_rfl
@[go_sem] theorem us98:(Tryz.prog.underlying 98).isSome=true∧zeroOf Tryz.prog 98=some [Value.pointer none]∧strOf Tryz.prog 98=false∧byOf Tryz.prog 98=8∧slOf Tryz.prog 98=none∧paOf Tryz.prog 98=none:=by and_intros<;>kernel_rfl
@[go_sem] theorem pt98:ptOf Tryz.prog 98=some 30:=by kernel_rfl
@[go_sem] theorem sz107:szOf Tryz.prog 107=2∧aggOf Tryz.prog 107=some true∧(Tryz.prog.underlying 107).isSome=true∧zeroOf Tryz.prog 107=some [Value.slice none 0 0,Value.slice none 0 0]∧strOf Tryz.prog 107=false∧byOf Tryz.prog 107=48∧slOf Tryz.prog 107=none∧paOf Tryz.prog 107=none∧plOf Tryz.prog 107=some [(0,1),(1,1)]∧fldOf Tryz.prog 107 0=some (0,1,false)∧offOf Tryz.prog 107 0=some 0∧fldOf Tryz.prog 107 1=some (1,1,false):=by and_intros<;>kernel_rfl
@[go_sem] theorem of107_1:offOf Tryz.prog 107 1=some 1∧szOf Tryz.prog 108=2∧aggOf Tryz.prog 108=some true∧(Tryz.prog.underlying 108).isSome=true∧zeroOf Tryz.prog 108=some [Value.slice none 0 0,Value.slice none 0 0]∧strOf Tryz.prog 108=false∧byOf Tryz.prog 108=48∧slOf Tryz.prog 108=none∧paOf Tryz.prog 108=none∧plOf Tryz.prog 108=some [(0,1),(1,1)]∧fldOf Tryz.prog 108 0=some (0,1,false)∧offOf Tryz.prog 108 0=some 0:=by and_intros<;>kernel_rfl
@[go_sem] theorem fl108_1:fldOf Tryz.prog 108 1=some (1,1,false)∧offOf Tryz.prog 108 1=some 1∧szOf Tryz.prog 109=3∧aggOf Tryz.prog 109=some true∧(Tryz.prog.underlying 109).isSome=true∧zeroOf Tryz.prog 109=some [Value.string ⟨#[]⟩,Value.slice none 0 0,Value.slice none 0 0]∧strOf Tryz.prog 109=false∧byOf Tryz.prog 109=64∧slOf Tryz.prog 109=none∧paOf Tryz.prog 109=none∧plOf Tryz.prog 109=some [(0,1),(1,2)]∧fldOf Tryz.prog 109 0=some (0,1,false):=by and_intros<;>kernel_rfl
@[go_sem] theorem of109_0:offOf Tryz.prog 109 0=some 0∧fldOf Tryz.prog 109 1=some (1,2,true)∧offOf Tryz.prog 109 1=some 1:=by and_intros<;>kernel_rfl
@[go_sem] theorem sz110:szOf Tryz.prog 110=3:=by kernel_rfl
@[go_sem] theorem ag110:aggOf Tryz.prog 110=some true∧(Tryz.prog.underlying 110).isSome=true∧zeroOf Tryz.prog 110=some [Value.string ⟨#[]⟩,Value.slice none 0 0,Value.slice none 0 0]∧strOf Tryz.prog 110=false∧byOf Tryz.prog 110=64∧slOf Tryz.prog 110=none∧paOf Tryz.prog 110=none∧plOf Tryz.prog 110=some [(0,1),(1,2)]∧fldOf Tryz.prog 110 0=some (0,1,false)∧offOf Tryz.prog 110 0=some 0∧fldOf Tryz.prog 110 1=some (1,2,true)∧offOf Tryz.prog 110 1=some 1:=by and_intros<;>kernel_rfl
@[go_sem] theorem sz112:szOf Tryz.prog 112=3∧aggOf Tryz.prog 112=some true∧(Tryz.prog.underlying 112).isSome=true∧zeroOf Tryz.prog 112=some [Value.slice none 0 0,Value.slice none 0 0,Value.slice none 0 0]∧strOf Tryz.prog 112=false∧byOf Tryz.prog 112=72∧slOf Tryz.prog 112=none∧paOf Tryz.prog 112=none∧plOf Tryz.prog 112=some [(0,1),(1,1),(2,1)]∧fldOf Tryz.prog 112 0=some (0,1,false)∧offOf Tryz.prog 112 0=some 0∧fldOf Tryz.prog 112 1=some (1,1,false):=by and_intros<;>kernel_rfl
@[go_sem] theorem of112_1:offOf Tryz.prog 112 1=some 1∧fldOf Tryz.prog 112 2=some (2,1,false)∧offOf Tryz.prog 112 2=some 2∧szOf Tryz.prog 113=3∧aggOf Tryz.prog 113=some true∧(Tryz.prog.underlying 113).isSome=true∧zeroOf Tryz.prog 113=some [Value.slice none 0 0,Value.slice none 0 0,Value.slice none 0 0]∧strOf Tryz.prog 113=false∧byOf Tryz.prog 113=72∧slOf Tryz.prog 113=none∧paOf Tryz.prog 113=none∧plOf Tryz.prog 113=some [(0,1),(1,1),(2,1)]:=by and_intros<;>kernel_rfl
@[go_sem] theorem fl113_0:fldOf Tryz.prog 113 0=some (0,1,false)∧offOf Tryz.prog 113 0=some 0∧fldOf Tryz.prog 113 1=some (1,1,false)∧offOf Tryz.prog 113 1=some 1∧fldOf Tryz.prog 113 2=some (2,1,false)∧offOf Tryz.prog 113 2=some 2∧szOf Tryz.prog 114=4∧aggOf Tryz.prog 114=some true∧(Tryz.prog.underlying 114).isSome=true∧zeroOf Tryz.prog 114=some [Value.string ⟨#[]⟩,Value.slice none 0 0,Value.slice none 0 0,Value.slice none 0 0]∧strOf Tryz.prog 114=false∧byOf Tryz.prog 114=88:=by and_intros<;>kernel_rfl
@[go_sem] theorem sl114:slOf Tryz.prog 114=none∧paOf Tryz.prog 114=none∧plOf Tryz.prog 114=some [(0,1),(1,3)]∧fldOf Tryz.prog 114 0=some (0,1,false)∧offOf Tryz.prog 114 0=some 0∧fldOf Tryz.prog 114 1=some (1,3,true)∧offOf Tryz.prog 114 1=some 1:=by and_intros<;>kernel_rfl
@[go_sem] theorem sz115:szOf Tryz.prog 115=4:=by kernel_rfl
@[go_sem] theorem ag115:aggOf Tryz.prog 115=some true∧(Tryz.prog.underlying 115).isSome=true∧zeroOf Tryz.prog 115=some [Value.string ⟨#[]⟩,Value.slice none 0 0,Value.slice none 0 0,Value.slice none 0 0]∧strOf Tryz.prog 115=false∧byOf Tryz.prog 115=88∧slOf Tryz.prog 115=none∧paOf Tryz.prog 115=none∧plOf Tryz.prog 115=some [(0,1),(1,3)]∧fldOf Tryz.prog 115 0=some (0,1,false)∧offOf Tryz.prog 115 0=some 0∧fldOf Tryz.prog 115 1=some (1,3,true)∧offOf Tryz.prog 115 1=some 1:=by and_intros<;>kernel_rfl
@[go_sem] theorem sz117:szOf Tryz.prog 117=4∧aggOf Tryz.prog 117=some true∧(Tryz.prog.underlying 117).isSome=true∧zeroOf Tryz.prog 117=some [Value.string ⟨#[]⟩,Value.string ⟨#[]⟩,Value.int .i64 0,Value.int .i64 0]∧strOf Tryz.prog 117=false∧byOf Tryz.prog 117=48∧slOf Tryz.prog 117=none∧paOf Tryz.prog 117=none∧plOf Tryz.prog 117=some [(0,1),(1,1),(2,1),(3,1)]∧fldOf Tryz.prog 117 0=some (0,1,false)∧offOf Tryz.prog 117 0=some 0∧fldOf Tryz.prog 117 1=some (1,1,false):=by and_intros<;>kernel_rfl
@[go_sem] theorem of117_1:offOf Tryz.prog 117 1=some 1∧fldOf Tryz.prog 117 2=some (2,1,false)∧offOf Tryz.prog 117 2=some 2∧fldOf Tryz.prog 117 3=some (3,1,false)∧offOf Tryz.prog 117 3=some 3:=by and_intros<;>kernel_rfl
@[go_sem] theorem sz118:szOf Tryz.prog 118=4:=by kernel_rfl
@[go_sem] theorem ag118:aggOf Tryz.prog 118=some true:=by kernel_rfl
@[go_sem] theorem us118:(Tryz.prog.underlying 118).isSome=true∧zeroOf Tryz.prog 118=some [Value.string ⟨#[]⟩,Value.string ⟨#[]⟩,Value.int .i64 0,Value.int .i64 0]∧strOf Tryz.prog 118=false∧byOf Tryz.prog 118=48∧slOf Tryz.prog 118=none∧paOf Tryz.prog 118=none∧plOf Tryz.prog 118=some [(0,1),(1,1),(2,1),(3,1)]∧fldOf Tryz.prog 118 0=some (0,1,false)∧offOf Tryz.prog 118 0=some 0∧fldOf Tryz.prog 118 1=some (1,1,false)∧offOf Tryz.prog 118 1=some 1∧fldOf Tryz.prog 118 2=some (2,1,false):=by and_intros<;>kernel_rfl
@[go_sem] theorem of118_2:offOf Tryz.prog 118 2=some 2∧fldOf Tryz.prog 118 3=some (3,1,false)∧offOf Tryz.prog 118 3=some 3:=by and_intros<;>kernel_rfl
@[go_sem] theorem pt122:ptOf Tryz.prog 122=some 124:=by kernel_rfl
@[go_sem] theorem sz127:szOf Tryz.prog 127=1∧aggOf Tryz.prog 127=some false∧(Tryz.prog.underlying 127).isSome=true∧zeroOf Tryz.prog 127=some [Value.nilFunc]∧strOf Tryz.prog 127=false∧byOf Tryz.prog 127=8∧slOf Tryz.prog 127=none∧paOf Tryz.prog 127=none∧szOf Tryz.prog 130=1∧aggOf Tryz.prog 130=some false∧(Tryz.prog.underlying 130).isSome=true∧zeroOf Tryz.prog 130=some [Value.pointer none]:=by and_intros<;>kernel_rfl
@[go_sem] theorem st130:strOf Tryz.prog 130=false∧byOf Tryz.prog 130=8∧slOf Tryz.prog 130=none∧paOf Tryz.prog 130=none:=by and_intros<;>kernel_rfl
@[go_sem] theorem pt130:ptOf Tryz.prog 130=some 5:=by kernel_rfl
@[go_sem] theorem sz133:szOf Tryz.prog 133=1∧aggOf Tryz.prog 133=some false∧(Tryz.prog.underlying 133).isSome=true∧zeroOf Tryz.prog 133=some [Value.nilFunc]∧strOf Tryz.prog 133=false∧byOf Tryz.prog 133=8∧slOf Tryz.prog 133=none∧paOf Tryz.prog 133=none∧szOf Tryz.prog 135=1∧aggOf Tryz.prog 135=some false∧(Tryz.prog.underlying 135).isSome=true∧zeroOf Tryz.prog 135=some [Value.nilFunc]:=by and_intros<;>kernel_rfl
@[go_sem] theorem st135:strOf Tryz.prog 135=false∧byOf Tryz.prog 135=8∧slOf Tryz.prog 135=none∧paOf Tryz.prog 135=none∧szOf Tryz.prog 136=1∧aggOf Tryz.prog 136=some false∧(Tryz.prog.underlying 136).isSome=true∧zeroOf Tryz.prog 136=some [Value.nilFunc]∧strOf Tryz.prog 136=false∧byOf Tryz.prog 136=8∧slOf Tryz.prog 136=none∧paOf Tryz.prog 136=none:=by and_intros<;>kernel_rfl
@[go_sem] theorem sz138:szOf Tryz.prog 138=1∧aggOf Tryz.prog 138=some false∧(Tryz.prog.underlying 138).isSome=true∧zeroOf Tryz.prog 138=some [Value.nilFunc]∧strOf Tryz.prog 138=false∧byOf Tryz.prog 138=8∧slOf Tryz.prog 138=none∧paOf Tryz.prog 138=none∧szOf Tryz.prog 140=1∧aggOf Tryz.prog 140=some false∧(Tryz.prog.underlying 140).isSome=true∧zeroOf Tryz.prog 140=some [Value.nilFunc]:=by and_intros<;>kernel_rfl
@[go_sem] theorem st140:strOf Tryz.prog 140=false∧byOf Tryz.prog 140=8∧slOf Tryz.prog 140=none∧paOf Tryz.prog 140=none∧szOf Tryz.prog 142=1∧aggOf Tryz.prog 142=some false∧(Tryz.prog.underlying 142).isSome=true∧zeroOf Tryz.prog 142=some [Value.nilFunc]∧strOf Tryz.prog 142=false∧byOf Tryz.prog 142=8∧slOf Tryz.prog 142=none∧paOf Tryz.prog 142=none:=by and_intros<;>kernel_rfl
@[go_sem] theorem sz144:szOf Tryz.prog 144=1∧aggOf Tryz.prog 144=some false∧(Tryz.prog.underlying 144).isSome=true∧zeroOf Tryz.prog 144=some [Value.nilFunc]∧strOf Tryz.prog 144=false∧byOf Tryz.prog 144=8∧slOf Tryz.prog 144=none∧paOf Tryz.prog 144=none∧szOf Tryz.prog 146=1∧aggOf Tryz.prog 146=some false∧(Tryz.prog.underlying 146).isSome=true∧zeroOf Tryz.prog 146=some [Value.nilFunc]:=by and_intros<;>kernel_rfl
@[go_sem] theorem st146:strOf Tryz.prog 146=false∧byOf Tryz.prog 146=8∧slOf Tryz.prog 146=none∧paOf Tryz.prog 146=none∧szOf Tryz.prog 152=1∧aggOf Tryz.prog 152=some false∧(Tryz.prog.underlying 152).isSome=true∧zeroOf Tryz.prog 152=some [Value.nilFunc]∧strOf Tryz.prog 152=false∧byOf Tryz.prog 152=8∧slOf Tryz.prog 152=none∧paOf Tryz.prog 152=none:=by and_intros<;>kernel_rfl
@[go_sem] theorem sz154:szOf Tryz.prog 154=1∧aggOf Tryz.prog 154=some false∧(Tryz.prog.underlying 154).isSome=true∧zeroOf Tryz.prog 154=some [Value.pointer none]∧strOf Tryz.prog 154=false∧byOf Tryz.prog 154=8∧slOf Tryz.prog 154=none∧paOf Tryz.prog 154=none:=by and_intros<;>kernel_rfl
@[go_sem] theorem pt154:ptOf Tryz.prog 154=some 9:=by kernel_rfl
@[go_sem] theorem sz155:szOf Tryz.prog 155=1∧aggOf Tryz.prog 155=some false∧(Tryz.prog.underlying 155).isSome=true∧zeroOf Tryz.prog 155=some [Value.nilFunc]∧strOf Tryz.prog 155=false∧byOf Tryz.prog 155=8∧slOf Tryz.prog 155=none∧paOf Tryz.prog 155=none∧szOf Tryz.prog 159=1∧aggOf Tryz.prog 159=some false∧(Tryz.prog.underlying 159).isSome=true∧zeroOf Tryz.prog 159=some [Value.pointer none]:=by and_intros<;>kernel_rfl
@[go_sem] theorem st159:strOf Tryz.prog 159=false∧byOf Tryz.prog 159=8∧slOf Tryz.prog 159=none∧paOf Tryz.prog 159=none:=by and_intros<;>kernel_rfl
@[go_sem] theorem pt159:ptOf Tryz.prog 159=some 82:=by kernel_rfl
@[go_sem] theorem sz184:szOf Tryz.prog 184=1∧aggOf Tryz.prog 184=some false∧(Tryz.prog.underlying 184).isSome=true∧zeroOf Tryz.prog 184=some [Value.nilFunc]∧strOf Tryz.prog 184=false∧byOf Tryz.prog 184=8∧slOf Tryz.prog 184=none∧paOf Tryz.prog 184=none∧szOf Tryz.prog 186=1∧aggOf Tryz.prog 186=some false∧(Tryz.prog.underlying 186).isSome=true∧zeroOf Tryz.prog 186=some [Value.map none]:=by and_intros<;>kernel_rfl
@[go_sem] theorem st186:strOf Tryz.prog 186=false∧byOf Tryz.prog 186=8∧slOf Tryz.prog 186=none∧paOf Tryz.prog 186=none∧szOf Tryz.prog 191=1∧aggOf Tryz.prog 191=some false∧(Tryz.prog.underlying 191).isSome=true∧zeroOf Tryz.prog 191=some [Value.int .u32 0]∧strOf Tryz.prog 191=false∧byOf Tryz.prog 191=4∧slOf Tryz.prog 191=none∧paOf Tryz.prog 191=none:=by and_intros<;>kernel_rfl
@[go_sem] theorem ki191:kiOf Tryz.prog 191=some .u32:=by kernel_rfl
@[go_sem] theorem pt193:ptOf Tryz.prog 193=some 237:=by kernel_rfl
@[go_sem] theorem sz199:szOf Tryz.prog 199=1∧aggOf Tryz.prog 199=some false∧(Tryz.prog.underlying 199).isSome=true∧zeroOf Tryz.prog 199=some [Value.nilFunc]∧strOf Tryz.prog 199=false∧byOf Tryz.prog 199=8∧slOf Tryz.prog 199=none∧paOf Tryz.prog 199=none∧szOf Tryz.prog 206=1∧aggOf Tryz.prog 206=some false∧(Tryz.prog.underlying 206).isSome=true∧zeroOf Tryz.prog 206=some [Value.nilFunc]:=by and_intros<;>kernel_rfl
@[go_sem] theorem st206:strOf Tryz.prog 206=false∧byOf Tryz.prog 206=8∧slOf Tryz.prog 206=none∧paOf Tryz.prog 206=none∧szOf Tryz.prog 208=1∧aggOf Tryz.prog 208=some false∧(Tryz.prog.underlying 208).isSome=true∧zeroOf Tryz.prog 208=some [Value.pointer none]∧strOf Tryz.prog 208=false∧byOf Tryz.prog 208=8∧slOf Tryz.prog 208=none∧paOf Tryz.prog 208=none:=by and_intros<;>kernel_rfl
@[go_sem] theorem up208:upOf Tryz.prog 208=true:=by kernel_rfl
@[go_sem] theorem sz226:szOf Tryz.prog 226=1∧aggOf Tryz.prog 226=some false∧(Tryz.prog.underlying 226).isSome=true∧zeroOf Tryz.prog 226=some [Value.pointer none]∧strOf Tryz.prog 226=false∧byOf Tryz.prog 226=8∧slOf Tryz.prog 226=none∧paOf Tryz.prog 226=none:=by and_intros<;>kernel_rfl
@[go_sem] theorem pt226:ptOf Tryz.prog 226=some 3:=by kernel_rfl
@[go_sem] theorem sz228:szOf Tryz.prog 228=1∧aggOf Tryz.prog 228=some false∧(Tryz.prog.underlying 228).isSome=true∧zeroOf Tryz.prog 228=some [Value.pointer none]∧strOf Tryz.prog 228=false∧byOf Tryz.prog 228=8∧slOf Tryz.prog 228=none∧paOf Tryz.prog 228=none:=by and_intros<;>kernel_rfl
@[go_sem] theorem pt228:ptOf Tryz.prog 228=some 89:=by kernel_rfl
@[go_sem] theorem sz231:szOf Tryz.prog 231=1∧aggOf Tryz.prog 231=some false∧(Tryz.prog.underlying 231).isSome=true∧zeroOf Tryz.prog 231=some [Value.pointer none]∧strOf Tryz.prog 231=false∧byOf Tryz.prog 231=8∧slOf Tryz.prog 231=none∧paOf Tryz.prog 231=none:=by and_intros<;>kernel_rfl
@[go_sem] theorem pt231:ptOf Tryz.prog 231=some 73:=by kernel_rfl
@[go_sem] theorem sz233:szOf Tryz.prog 233=1∧aggOf Tryz.prog 233=some false∧(Tryz.prog.underlying 233).isSome=true∧zeroOf Tryz.prog 233=some [Value.pointer none]∧strOf Tryz.prog 233=false∧byOf Tryz.prog 233=8∧slOf Tryz.prog 233=none∧paOf Tryz.prog 233=none:=by and_intros<;>kernel_rfl
@[go_sem] theorem pt233:ptOf Tryz.prog 233=some 28:=by kernel_rfl
@[go_sem] theorem ki238:kiOf Tryz.prog 238=some .u16:=by kernel_rfl
@[go_sem] theorem sz245:szOf Tryz.prog 245=1∧aggOf Tryz.prog 245=some false∧(Tryz.prog.underlying 245).isSome=true∧zeroOf Tryz.prog 245=some [Value.int .u64 0]∧strOf Tryz.prog 245=false∧byOf Tryz.prog 245=8∧slOf Tryz.prog 245=none∧paOf Tryz.prog 245=none:=by and_intros<;>kernel_rfl
@[go_sem] theorem ki245:kiOf Tryz.prog 245=some .u64:=by kernel_rfl
@[go_sem] theorem sz258:szOf Tryz.prog 258=5:=by kernel_rfl
@[go_sem] theorem ag258:aggOf Tryz.prog 258=some true∧(Tryz.prog.underlying 258).isSome=true∧zeroOf Tryz.prog 258=some [Value.pointer none,Value.pointer none,Value.pointer none,Value.pointer none,Value.pointer none]∧strOf Tryz.prog 258=false∧byOf Tryz.prog 258=40∧slOf Tryz.prog 258=none∧paOf Tryz.prog 258=some (5,1):=by and_intros<;>kernel_rfl
@[go_sem] theorem ar258:arrOf Tryz.prog 258=some 5:=by kernel_rfl
@[go_sem] theorem pl258:plOf Tryz.prog 258=some [(0,1),(1,1),(2,1),(3,1),(4,1)]∧szOf Tryz.prog 261=1∧aggOf Tryz.prog 261=some false∧(Tryz.prog.underlying 261).isSome=true∧zeroOf Tryz.prog 261=some [Value.slice none 0 0]∧strOf Tryz.prog 261=false∧byOf Tryz.prog 261=24∧slOf Tryz.prog 261=some (264,4)∧paOf Tryz.prog 261=none∧szOf Tryz.prog 263=4∧aggOf Tryz.prog 263=some true∧(Tryz.prog.underlying 263).isSome=true:=by and_intros<;>kernel_rfl
@[go_sem] theorem zr263:zeroOf Tryz.prog 263=some [Value.string ⟨#[]⟩,Value.int .i64 0,Value.int .i64 0,Value.int .i64 0]∧strOf Tryz.prog 263=false∧byOf Tryz.prog 263=40∧slOf Tryz.prog 263=none∧paOf Tryz.prog 263=none∧plOf Tryz.prog 263=some [(0,1),(1,1),(2,1),(3,1)]∧fldOf Tryz.prog 263 0=some (0,1,false)∧offOf Tryz.prog 263 0=some 0∧fldOf Tryz.prog 263 1=some (1,1,false)∧offOf Tryz.prog 263 1=some 1∧fldOf Tryz.prog 263 2=some (2,1,false)∧offOf Tryz.prog 263 2=some 2:=by and_intros<;>kernel_rfl
@[go_sem] theorem fl263_3:fldOf Tryz.prog 263 3=some (3,1,false)∧offOf Tryz.prog 263 3=some 3∧szOf Tryz.prog 264=4:=by and_intros<;>kernel_rfl
@[go_sem] theorem ag264:aggOf Tryz.prog 264=some true:=by kernel_rfl
@[go_sem] theorem us264:(Tryz.prog.underlying 264).isSome=true∧zeroOf Tryz.prog 264=some [Value.string ⟨#[]⟩,Value.int .i64 0,Value.int .i64 0,Value.int .i64 0]∧strOf Tryz.prog 264=false∧byOf Tryz.prog 264=40∧slOf Tryz.prog 264=none∧paOf Tryz.prog 264=none∧plOf Tryz.prog 264=some [(0,1),(1,1),(2,1),(3,1)]∧fldOf Tryz.prog 264 0=some (0,1,false)∧offOf Tryz.prog 264 0=some 0∧fldOf Tryz.prog 264 1=some (1,1,false)∧offOf Tryz.prog 264 1=some 1∧fldOf Tryz.prog 264 2=some (2,1,false):=by and_intros<;>kernel_rfl
@[go_sem] theorem of264_2:offOf Tryz.prog 264 2=some 2∧fldOf Tryz.prog 264 3=some (3,1,false)∧offOf Tryz.prog 264 3=some 3∧szOf Tryz.prog 267=5∧aggOf Tryz.prog 267=some true∧(Tryz.prog.underlying 267).isSome=true∧zeroOf Tryz.prog 267=some [Value.string ⟨#[]⟩,Value.string ⟨#[]⟩,Value.string ⟨#[]⟩,Value.string ⟨#[]⟩,Value.string ⟨#[]⟩]∧strOf Tryz.prog 267=false∧byOf Tryz.prog 267=80∧slOf Tryz.prog 267=none∧paOf Tryz.prog 267=some (5,1):=by and_intros<;>kernel_rfl
@[go_sem] theorem ar267:arrOf Tryz.prog 267=some 5:=by kernel_rfl
@[go_sem] theorem pl267:plOf Tryz.prog 267=some [(0,1),(1,1),(2,1),(3,1),(4,1)]:=by kernel_rfl
@[go_sem] theorem pt274:ptOf Tryz.prog 274=some 240:=by kernel_rfl
@[go_sem] theorem pt275:ptOf Tryz.prog 275=some 243:=by kernel_rfl
@[go_sem] theorem sz279:szOf Tryz.prog 279=1∧aggOf Tryz.prog 279=some false∧(Tryz.prog.underlying 279).isSome=true∧zeroOf Tryz.prog 279=some [Value.int .u64 0]∧strOf Tryz.prog 279=false∧byOf Tryz.prog 279=8∧slOf Tryz.prog 279=none∧paOf Tryz.prog 279=none:=by and_intros<;>kernel_rfl
@[go_sem] theorem ki279:kiOf Tryz.prog 279=some .u64:=by kernel_rfl
@[go_sem] theorem sz292:szOf Tryz.prog 292=1∧aggOf Tryz.prog 292=some false∧(Tryz.prog.underlying 292).isSome=true∧zeroOf Tryz.prog 292=some [Value.slice none 0 0]∧strOf Tryz.prog 292=false∧byOf Tryz.prog 292=24∧slOf Tryz.prog 292=some (295,6)∧paOf Tryz.prog 292=none∧szOf Tryz.prog 294=6∧aggOf Tryz.prog 294=some true∧(Tryz.prog.underlying 294).isSome=true∧zeroOf Tryz.prog 294=some [Value.string ⟨#[]⟩,Value.int .i64 0,Value.int .i64 0,Value.int .i64 0,Value.int .i64 0,Value.int .i64 0]:=by and_intros<;>kernel_rfl
@[go_sem] theorem st294:strOf Tryz.prog 294=false∧byOf Tryz.prog 294=56∧slOf Tryz.prog 294=none∧paOf Tryz.prog 294=none∧plOf Tryz.prog 294=some [(0,1),(1,5)]∧fldOf Tryz.prog 294 0=some (0,1,false)∧offOf Tryz.prog 294 0=some 0∧fldOf Tryz.prog 294 1=some (1,5,true)∧offOf Tryz.prog 294 1=some 1∧szOf Tryz.prog 295=6:=by and_intros<;>kernel_rfl
@[go_sem] theorem ag295:aggOf Tryz.prog 295=some true:=by kernel_rfl
@[go_sem] theorem us295:(Tryz.prog.underlying 295).isSome=true∧zeroOf Tryz.prog 295=some [Value.string ⟨#[]⟩,Value.int .i64 0,Value.int .i64 0,Value.int .i64 0,Value.int .i64 0,Value.int .i64 0]∧strOf Tryz.prog 295=false∧byOf Tryz.prog 295=56∧slOf Tryz.prog 295=none∧paOf Tryz.prog 295=none∧plOf Tryz.prog 295=some [(0,1),(1,5)]∧fldOf Tryz.prog 295 0=some (0,1,false)∧offOf Tryz.prog 295 0=some 0∧fldOf Tryz.prog 295 1=some (1,5,true)∧offOf Tryz.prog 295 1=some 1:=by and_intros<;>kernel_rfl
@[go_sem] theorem ki298:kiOf Tryz.prog 298=some .i64:=by kernel_rfl
@[go_sem] theorem pt301:ptOf Tryz.prog 301=some 312:=by kernel_rfl
@[go_sem] theorem sz304:szOf Tryz.prog 304=24∧aggOf Tryz.prog 304=some true∧(Tryz.prog.underlying 304).isSome=true:=by and_intros<;>kernel_rfl
@[go_sem] theorem zr304:zeroOf Tryz.prog 304=some [Value.int .u8 0,Value.int .u8 0,Value.int .u8 0,Value.int .u8 0,Value.int .u8 0,Value.int .u8 0,Value.int .u8 0,Value.int .u8 0,Value.int .u8 0,Value.int .u8 0,Value.int .u8 0,Value.int .u8 0,Value.int .u8 0,Value.int .u8 0,Value.int .u8 0,Value.int .u8 0,Value.int .u8 0,Value.int .u8 0,Value.int .u8 0,Value.int .u8 0,Value.int .u8 0,Value.int .u8 0,Value.int .u8 0,Value.int .u8 0]:=by kernel_rfl
@[go_sem] theorem st304:strOf Tryz.prog 304=false∧byOf Tryz.prog 304=24∧slOf Tryz.prog 304=none∧paOf Tryz.prog 304=some (24,1):=by and_intros<;>kernel_rfl
@[go_sem] theorem ar304:arrOf Tryz.prog 304=some 24:=by kernel_rfl
@[go_sem] theorem pl304:plOf Tryz.prog 304=some [(0,1),(1,1),(2,1),(3,1),(4,1),(5,1),(6,1),(7,1),(8,1),(9,1),(10,1),(11,1),(12,1),(13,1),(14,1),(15,1),(16,1),(17,1),(18,1),(19,1),(20,1),(21,1),(22,1),(23,1)]:=by kernel_rfl
@[go_sem] theorem ar315:arrOf Tryz.prog 315=some 20:=by kernel_rfl
@[go_sem] theorem pt319:ptOf Tryz.prog 319=some 321:=by kernel_rfl
@[go_sem] theorem ar323:arrOf Tryz.prog 323=some 32:=by kernel_rfl
@[go_sem] theorem ar324:arrOf Tryz.prog 324=some 64:=by kernel_rfl
@[go_sem] theorem sz325:szOf Tryz.prog 325=4∧aggOf Tryz.prog 325=some true∧(Tryz.prog.underlying 325).isSome=true∧zeroOf Tryz.prog 325=some [Value.pointer none,Value.pointer none,Value.pointer none,Value.string ⟨#[]⟩]∧strOf Tryz.prog 325=false∧byOf Tryz.prog 325=40∧slOf Tryz.prog 325=none∧paOf Tryz.prog 325=none∧plOf Tryz.prog 325=some [(0,1),(1,1),(2,1),(3,1)]∧fldOf Tryz.prog 325 0=some (0,1,false)∧offOf Tryz.prog 325 0=some 0∧fldOf Tryz.prog 325 1=some (1,1,false):=by and_intros<;>kernel_rfl
@[go_sem] theorem of325_1:offOf Tryz.prog 325 1=some 1∧fldOf Tryz.prog 325 2=some (2,1,false)∧offOf Tryz.prog 325 2=some 2∧fldOf Tryz.prog 325 3=some (3,1,false)∧offOf Tryz.prog 325 3=some 3∧szOf Tryz.prog 326=4∧aggOf Tryz.prog 326=some true∧(Tryz.prog.underlying 326).isSome=true∧zeroOf Tryz.prog 326=some [Value.pointer none,Value.pointer none,Value.pointer none,Value.string ⟨#[]⟩]∧strOf Tryz.prog 326=false∧byOf Tryz.prog 326=40∧slOf Tryz.prog 326=none:=by and_intros<;>kernel_rfl
@[go_sem] theorem pa326:paOf Tryz.prog 326=none∧plOf Tryz.prog 326=some [(0,1),(1,1),(2,1),(3,1)]∧fldOf Tryz.prog 326 0=some (0,1,false)∧offOf Tryz.prog 326 0=some 0∧fldOf Tryz.prog 326 1=some (1,1,false)∧offOf Tryz.prog 326 1=some 1∧fldOf Tryz.prog 326 2=some (2,1,false)∧offOf Tryz.prog 326 2=some 2∧fldOf Tryz.prog 326 3=some (3,1,false)∧offOf Tryz.prog 326 3=some 3∧szOf Tryz.prog 327=0∧aggOf Tryz.prog 327=some true:=by and_intros<;>kernel_rfl
@[go_sem] theorem us327:(Tryz.prog.underlying 327).isSome=true∧zeroOf Tryz.prog 327=some []∧strOf Tryz.prog 327=false∧byOf Tryz.prog 327=0∧slOf Tryz.prog 327=none∧paOf Tryz.prog 327=some (0,1):=by and_intros<;>kernel_rfl
@[go_sem] theorem ar327:arrOf Tryz.prog 327=some 0:=by kernel_rfl
@[go_sem] theorem pl327:plOf Tryz.prog 327=some []∧szOf Tryz.prog 328=0∧aggOf Tryz.prog 328=some true∧(Tryz.prog.underlying 328).isSome=true∧zeroOf Tryz.prog 328=some []∧strOf Tryz.prog 328=false∧byOf Tryz.prog 328=0∧slOf Tryz.prog 328=none∧paOf Tryz.prog 328=none∧plOf Tryz.prog 328=some [(0,0)]∧szOf Tryz.prog 329=0∧aggOf Tryz.prog 329=some true:=by and_intros<;>kernel_rfl
@[go_sem] theorem us329:(Tryz.prog.underlying 329).isSome=true∧zeroOf Tryz.prog 329=some []∧strOf Tryz.prog 329=false∧byOf Tryz.prog 329=0∧slOf Tryz.prog 329=none∧paOf Tryz.prog 329=none∧plOf Tryz.prog 329=some [(0,0)]∧szOf Tryz.prog 330=1∧aggOf Tryz.prog 330=some false∧(Tryz.prog.underlying 330).isSome=true∧zeroOf Tryz.prog 330=some [Value.int .u8 0]∧strOf Tryz.prog 330=false:=by and_intros<;>kernel_rfl
@[go_sem] theorem by330:byOf Tryz.prog 330=1∧slOf Tryz.prog 330=none∧paOf Tryz.prog 330=none:=by and_intros<;>kernel_rfl
@[go_sem] theorem ki330:kiOf Tryz.prog 330=some .u8:=by kernel_rfl
@[go_sem] theorem sz331:szOf Tryz.prog 331=1∧aggOf Tryz.prog 331=some false∧(Tryz.prog.underlying 331).isSome=true∧zeroOf Tryz.prog 331=some [Value.int .u8 0]∧strOf Tryz.prog 331=false∧byOf Tryz.prog 331=1∧slOf Tryz.prog 331=none∧paOf Tryz.prog 331=none:=by and_intros<;>kernel_rfl
@[go_sem] theorem ki331:kiOf Tryz.prog 331=some .u8:=by kernel_rfl
@[go_sem] theorem sz332:szOf Tryz.prog 332=1∧aggOf Tryz.prog 332=some false∧(Tryz.prog.underlying 332).isSome=true∧zeroOf Tryz.prog 332=some [Value.nilFunc]∧strOf Tryz.prog 332=false∧byOf Tryz.prog 332=8∧slOf Tryz.prog 332=none∧paOf Tryz.prog 332=none∧szOf Tryz.prog 333=1∧aggOf Tryz.prog 333=some false∧(Tryz.prog.underlying 333).isSome=true∧zeroOf Tryz.prog 333=some [Value.int .i32 0]:=by and_intros<;>kernel_rfl
@[go_sem] theorem st333:strOf Tryz.prog 333=false∧byOf Tryz.prog 333=4∧slOf Tryz.prog 333=none∧paOf Tryz.prog 333=none:=by and_intros<;>kernel_rfl
@[go_sem] theorem ki333:kiOf Tryz.prog 333=some .i32:=by kernel_rfl
@[go_sem] theorem sz334:szOf Tryz.prog 334=1∧aggOf Tryz.prog 334=some false∧(Tryz.prog.underlying 334).isSome=true∧zeroOf Tryz.prog 334=some [Value.int .i32 0]∧strOf Tryz.prog 334=false∧byOf Tryz.prog 334=4∧slOf Tryz.prog 334=none∧paOf Tryz.prog 334=none:=by and_intros<;>kernel_rfl
@[go_sem] theorem ki334:kiOf Tryz.prog 334=some .i32:=by kernel_rfl
@[go_sem] theorem sz335:szOf Tryz.prog 335=11∧aggOf Tryz.prog 335=some true∧(Tryz.prog.underlying 335).isSome=true:=by and_intros<;>kernel_rfl
@[go_sem] theorem zr335:zeroOf Tryz.prog 335=some [Value.int .u64 0,Value.int .u64 0,Value.int .u32 0,Value.int .u8 0,Value.int .u8 0,Value.int .u8 0,Value.int .u8 0,Value.nilFunc,Value.pointer none,Value.int .i32 0,Value.int .i32 0]:=by kernel_rfl
@[go_sem] theorem st335:strOf Tryz.prog 335=false∧byOf Tryz.prog 335=48∧slOf Tryz.prog 335=none∧paOf Tryz.prog 335=none∧plOf Tryz.prog 335=some [(0,1),(1,1),(2,1),(3,1),(4,1),(5,1),(6,1),(7,1),(8,1),(9,1),(10,1)]∧fldOf Tryz.prog 335 0=some (0,1,false)∧offOf Tryz.prog 335 0=some 0∧fldOf Tryz.prog 335 1=some (1,1,false)∧offOf Tryz.prog 335 1=some 1∧fldOf Tryz.prog 335 2=some (2,1,false)∧offOf Tryz.prog 335 2=some 2∧fldOf Tryz.prog 335 3=some (3,1,false):=by and_intros<;>kernel_rfl
@[go_sem] theorem of335_3:offOf Tryz.prog 335 3=some 3∧fldOf Tryz.prog 335 4=some (4,1,false)∧offOf Tryz.prog 335 4=some 4∧fldOf Tryz.prog 335 5=some (5,1,false)∧offOf Tryz.prog 335 5=some 5∧fldOf Tryz.prog 335 6=some (6,1,false)∧offOf Tryz.prog 335 6=some 6∧fldOf Tryz.prog 335 7=some (7,1,false)∧offOf Tryz.prog 335 7=some 7∧fldOf Tryz.prog 335 8=some (8,1,false)∧offOf Tryz.prog 335 8=some 8∧fldOf Tryz.prog 335 9=some (9,1,false):=by and_intros<;>kernel_rfl
@[go_sem] theorem of335_9:offOf Tryz.prog 335 9=some 9∧fldOf Tryz.prog 335 10=some (10,1,false)∧offOf Tryz.prog 335 10=some 10∧szOf Tryz.prog 336=11∧aggOf Tryz.prog 336=some true∧(Tryz.prog.underlying 336).isSome=true:=by and_intros<;>kernel_rfl
@[go_sem] theorem zr336:zeroOf Tryz.prog 336=some [Value.int .u64 0,Value.int .u64 0,Value.int .u32 0,Value.int .u8 0,Value.int .u8 0,Value.int .u8 0,Value.int .u8 0,Value.nilFunc,Value.pointer none,Value.int .i32 0,Value.int .i32 0]:=by kernel_rfl
@[go_sem] theorem st336:strOf Tryz.prog 336=false∧byOf Tryz.prog 336=48∧slOf Tryz.prog 336=none∧paOf Tryz.prog 336=none∧plOf Tryz.prog 336=some [(0,1),(1,1),(2,1),(3,1),(4,1),(5,1),(6,1),(7,1),(8,1),(9,1),(10,1)]∧fldOf Tryz.prog 336 0=some (0,1,false)∧offOf Tryz.prog 336 0=some 0∧fldOf Tryz.prog 336 1=some (1,1,false)∧offOf Tryz.prog 336 1=some 1∧fldOf Tryz.prog 336 2=some (2,1,false)∧offOf Tryz.prog 336 2=some 2∧fldOf Tryz.prog 336 3=some (3,1,false):=by and_intros<;>kernel_rfl
@[go_sem] theorem of336_3:offOf Tryz.prog 336 3=some 3∧fldOf Tryz.prog 336 4=some (4,1,false)∧offOf Tryz.prog 336 4=some 4∧fldOf Tryz.prog 336 5=some (5,1,false)∧offOf Tryz.prog 336 5=some 5∧fldOf Tryz.prog 336 6=some (6,1,false)∧offOf Tryz.prog 336 6=some 6∧fldOf Tryz.prog 336 7=some (7,1,false)∧offOf Tryz.prog 336 7=some 7∧fldOf Tryz.prog 336 8=some (8,1,false)∧offOf Tryz.prog 336 8=some 8∧fldOf Tryz.prog 336 9=some (9,1,false):=by and_intros<;>kernel_rfl
@[go_sem] theorem of336_9:offOf Tryz.prog 336 9=some 9∧fldOf Tryz.prog 336 10=some (10,1,false)∧offOf Tryz.prog 336 10=some 10:=by and_intros<;>kernel_rfl
theorem eqg32:Tryz.prog.eqGuardType Tryz.prog.depth 32=false:=by kernel_rfl
theorem lf32:lfOf Tryz.prog 20 32=some [.i .i64,.i .i64]:=by kernel_rfl
@[go_sem] theorem eq32 (a0 b0:Int)(a1 b1:Int):EqAny Tryz.prog 32 [.v (.int .i64 a0),.v (.int .i64 a1)] [.v (.int .i64 b0),.v (.int .i64 b1)]:=fun _ h=>EqOk.of lf32 ag32 eqg32 rfl rfl h
theorem eqg57:Tryz.prog.eqGuardType Tryz.prog.depth 57=false:=by kernel_rfl
theorem lf57:lfOf Tryz.prog 20 57=some [.i .i64,.s,.i .i64,.i .i64]:=by kernel_rfl
@[go_sem] theorem eq57 (a0 b0:Int)(a1 b1:ByteArray)(a2 b2:Int)(a3 b3:Int):EqAny Tryz.prog 57 [.v (.int .i64 a0),.v (.string a1),.v (.int .i64 a2),.v (.int .i64 a3)] [.v (.int .i64 b0),.v (.string b1),.v (.int .i64 b2),.v (.int .i64 b3)]:=fun _ h=>EqOk.of lf57 ag57 eqg57 rfl rfl h
theorem eqg89:Tryz.prog.eqGuardType Tryz.prog.depth 89=false:=by kernel_rfl
theorem lf89:lfOf Tryz.prog 20 89=some [.i .i64,.i .i64,.i .i64,.i .i64,.i .i64]:=by kernel_rfl
@[go_sem] theorem eq89 (a0 b0:Int)(a1 b1:Int)(a2 b2:Int)(a3 b3:Int)(a4 b4:Int):EqAny Tryz.prog 89 [.v (.int .i64 a0),.v (.int .i64 a1),.v (.int .i64 a2),.v (.int .i64 a3),.v (.int .i64 a4)] [.v (.int .i64 b0),.v (.int .i64 b1),.v (.int .i64 b2),.v (.int .i64 b3),.v (.int .i64 b4)]:=fun _ h=>EqOk.of lf89 ag89 eqg89 rfl rfl h
theorem eqg91:Tryz.prog.eqGuardType Tryz.prog.depth 91=false:=by kernel_rfl
theorem lf91:lfOf Tryz.prog 20 91=some [.i .i64,.b,.i .i64,.i .i64,.i .i64,.i .i64,.i .i64,.i .i64,.i .i64,.i .i64]:=by kernel_rfl
@[go_sem] theorem eq91 (a0 b0:Int)(a1 b1:Bool)(a2 b2:Int)(a3 b3:Int)(a4 b4:Int)(a5 b5:Int)(a6 b6:Int)(a7 b7:Int)(a8 b8:Int)(a9 b9:Int):EqAny Tryz.prog 91 [.v (.int .i64 a0),.v (.bool a1),.v (.int .i64 a2),.v (.int .i64 a3),.v (.int .i64 a4),.v (.int .i64 a5),.v (.int .i64 a6),.v (.int .i64 a7),.v (.int .i64 a8),.v (.int .i64 a9)] [.v (.int .i64 b0),.v (.bool b1),.v (.int .i64 b2),.v (.int .i64 b3),.v (.int .i64 b4),.v (.int .i64 b5),.v (.int .i64 b6),.v (.int .i64 b7),.v (.int .i64 b8),.v (.int .i64 b9)]:=fun _ h=>EqOk.of lf91 ag91 eqg91 rfl rfl h
theorem eqg93:Tryz.prog.eqGuardType Tryz.prog.depth 93=false:=by kernel_rfl
theorem lf93:lfOf Tryz.prog 20 93=some [.s,.i .i64,.b,.i .i64,.i .i64,.i .i64,.i .i64,.i .i64,.i .i64,.i .i64,.i .i64]:=by kernel_rfl
@[go_sem] theorem eq93 (a0 b0:ByteArray)(a1 b1:Int)(a2 b2:Bool)(a3 b3:Int)(a4 b4:Int)(a5 b5:Int)(a6 b6:Int)(a7 b7:Int)(a8 b8:Int)(a9 b9:Int)(a10 b10:Int):EqAny Tryz.prog 93 [.v (.string a0),.v (.int .i64 a1),.v (.bool a2),.v (.int .i64 a3),.v (.int .i64 a4),.v (.int .i64 a5),.v (.int .i64 a6),.v (.int .i64 a7),.v (.int .i64 a8),.v (.int .i64 a9),.v (.int .i64 a10)] [.v (.string b0),.v (.int .i64 b1),.v (.bool b2),.v (.int .i64 b3),.v (.int .i64 b4),.v (.int .i64 b5),.v (.int .i64 b6),.v (.int .i64 b7),.v (.int .i64 b8),.v (.int .i64 b9),.v (.int .i64 b10)]:=fun _ h=>EqOk.of lf93 ag93 eqg93 rfl rfl h
theorem eqg118:Tryz.prog.eqGuardType Tryz.prog.depth 118=false:=by kernel_rfl
theorem lf118:lfOf Tryz.prog 20 118=some [.s,.s,.i .i64,.i .i64]:=by kernel_rfl
@[go_sem] theorem eq118 (a0 b0:ByteArray)(a1 b1:ByteArray)(a2 b2:Int)(a3 b3:Int):EqAny Tryz.prog 118 [.v (.string a0),.v (.string a1),.v (.int .i64 a2),.v (.int .i64 a3)] [.v (.string b0),.v (.string b1),.v (.int .i64 b2),.v (.int .i64 b3)]:=fun _ h=>EqOk.of lf118 ag118 eqg118 rfl rfl h
theorem eqg264:Tryz.prog.eqGuardType Tryz.prog.depth 264=false:=by kernel_rfl
theorem lf264:lfOf Tryz.prog 20 264=some [.s,.i .i64,.i .i64,.i .i64]:=by kernel_rfl
@[go_sem] theorem eq264 (a0 b0:ByteArray)(a1 b1:Int)(a2 b2:Int)(a3 b3:Int):EqAny Tryz.prog 264 [.v (.string a0),.v (.int .i64 a1),.v (.int .i64 a2),.v (.int .i64 a3)] [.v (.string b0),.v (.int .i64 b1),.v (.int .i64 b2),.v (.int .i64 b3)]:=fun _ h=>EqOk.of lf264 ag264 eqg264 rfl rfl h
theorem eqg295:Tryz.prog.eqGuardType Tryz.prog.depth 295=false:=by kernel_rfl
theorem lf295:lfOf Tryz.prog 20 295=some [.s,.i .i64,.i .i64,.i .i64,.i .i64,.i .i64]:=by kernel_rfl
@[go_sem] theorem eq295 (a0 b0:ByteArray)(a1 b1:Int)(a2 b2:Int)(a3 b3:Int)(a4 b4:Int)(a5 b5:Int):EqAny Tryz.prog 295 [.v (.string a0),.v (.int .i64 a1),.v (.int .i64 a2),.v (.int .i64 a3),.v (.int .i64 a4),.v (.int .i64 a5)] [.v (.string b0),.v (.int .i64 b1),.v (.int .i64 b2),.v (.int .i64 b3),.v (.int .i64 b4),.v (.int .i64 b5)]:=fun _ h=>EqOk.of lf295 ag295 eqg295 rfl rfl h
theorem Enters.of {f:FuncId}{fn:Func}{b:Code}(hf:Tryz.prog.funcs[f]?=some fn)(hn:(fn.name== "runtime.NumGoroutine")=false)(hb:fn.body=some b):Enters Tryz.prog f:=fun args w=>by
 have h1:fn.name≠ "runtime.NumGoroutine" :=by simpa using hn
 simp[callFunc,hf,h1,hb]
theorem en8:Enters Tryz.prog 8:=Enters.of Tryz.func8 (by kernel_rfl) rfl
attribute [go_sem] Tryz.ntmps8
theorem en12:Enters Tryz.prog 12:=Enters.of Tryz.func12 (by kernel_rfl) rfl
attribute [go_sem] Tryz.ntmps12
theorem en13:Enters Tryz.prog 13:=Enters.of Tryz.func13 (by kernel_rfl) rfl
attribute [go_sem] Tryz.ntmps13
theorem en14:Enters Tryz.prog 14:=Enters.of Tryz.func14 (by kernel_rfl) rfl
attribute [go_sem] Tryz.ntmps14
theorem en22:Enters Tryz.prog 22:=Enters.of Tryz.func22 (by kernel_rfl) rfl
attribute [go_sem] Tryz.ntmps22
theorem en24:Enters Tryz.prog 24:=Enters.of Tryz.func24 (by kernel_rfl) rfl
attribute [go_sem] Tryz.ntmps24
theorem en25:Enters Tryz.prog 25:=Enters.of Tryz.func25 (by kernel_rfl) rfl
attribute [go_sem] Tryz.ntmps25
theorem en26:Enters Tryz.prog 26:=Enters.of Tryz.func26 (by kernel_rfl) rfl
attribute [go_sem] Tryz.ntmps26
theorem en27:Enters Tryz.prog 27:=Enters.of Tryz.func27 (by kernel_rfl) rfl
attribute [go_sem] Tryz.ntmps27
theorem en30:Enters Tryz.prog 30:=Enters.of Tryz.func30 (by kernel_rfl) rfl
attribute [go_sem] Tryz.ntmps30
theorem en31:Enters Tryz.prog 31:=Enters.of Tryz.func31 (by kernel_rfl) rfl
attribute [go_sem] Tryz.ntmps31
theorem en32:Enters Tryz.prog 32:=Enters.of Tryz.func32 (by kernel_rfl) rfl
attribute [go_sem] Tryz.ntmps32
theorem en33:Enters Tryz.prog 33:=Enters.of Tryz.func33 (by kernel_rfl) rfl
attribute [go_sem] Tryz.ntmps33
theorem en35:Enters Tryz.prog 35:=Enters.of Tryz.func35 (by kernel_rfl) rfl
attribute [go_sem] Tryz.ntmps35
theorem en40:Enters Tryz.prog 40:=Enters.of Tryz.func40 (by kernel_rfl) rfl
attribute [go_sem] Tryz.ntmps40
theorem en41:Enters Tryz.prog 41:=Enters.of Tryz.func41 (by kernel_rfl) rfl
attribute [go_sem] Tryz.ntmps41
theorem en42:Enters Tryz.prog 42:=Enters.of Tryz.func42 (by kernel_rfl) rfl
attribute [go_sem] Tryz.ntmps42
theorem en43:Enters Tryz.prog 43:=Enters.of Tryz.func43 (by kernel_rfl) rfl
attribute [go_sem] Tryz.ntmps43
theorem en48:Enters Tryz.prog 48:=Enters.of Tryz.func48 (by kernel_rfl) rfl
attribute [go_sem] Tryz.ntmps48
theorem en49:Enters Tryz.prog 49:=Enters.of Tryz.func49 (by kernel_rfl) rfl
attribute [go_sem] Tryz.ntmps49
theorem en52:Enters Tryz.prog 52:=Enters.of Tryz.func52 (by kernel_rfl) rfl
attribute [go_sem] Tryz.ntmps52
theorem en57:Enters Tryz.prog 57:=Enters.of Tryz.func57 (by kernel_rfl) rfl
attribute [go_sem] Tryz.ntmps57
theorem en58:Enters Tryz.prog 58:=Enters.of Tryz.func58 (by kernel_rfl) rfl
attribute [go_sem] Tryz.ntmps58
theorem en59:Enters Tryz.prog 59:=Enters.of Tryz.func59 (by kernel_rfl) rfl
attribute [go_sem] Tryz.ntmps59
theorem en60:Enters Tryz.prog 60:=Enters.of Tryz.func60 (by kernel_rfl) rfl
attribute [go_sem] Tryz.ntmps60
theorem en66:Enters Tryz.prog 66:=Enters.of Tryz.func66 (by kernel_rfl) rfl
attribute [go_sem] Tryz.ntmps66
theorem en67:Enters Tryz.prog 67:=Enters.of Tryz.func67 (by kernel_rfl) rfl
attribute [go_sem] Tryz.ntmps67
theorem en68:Enters Tryz.prog 68:=Enters.of Tryz.func68 (by kernel_rfl) rfl
attribute [go_sem] Tryz.ntmps68
theorem en70:Enters Tryz.prog 70:=Enters.of Tryz.func70 (by kernel_rfl) rfl
attribute [go_sem] Tryz.ntmps70
theorem en71:Enters Tryz.prog 71:=Enters.of Tryz.func71 (by kernel_rfl) rfl
attribute [go_sem] Tryz.ntmps71
theorem en72:Enters Tryz.prog 72:=Enters.of Tryz.func72 (by kernel_rfl) rfl
attribute [go_sem] Tryz.ntmps72
theorem en73:Enters Tryz.prog 73:=Enters.of Tryz.func73 (by kernel_rfl) rfl
attribute [go_sem] Tryz.ntmps73
theorem en74:Enters Tryz.prog 74:=Enters.of Tryz.func74 (by kernel_rfl) rfl
attribute [go_sem] Tryz.ntmps74
theorem en75:Enters Tryz.prog 75:=Enters.of Tryz.func75 (by kernel_rfl) rfl
attribute [go_sem] Tryz.ntmps75
theorem en76:Enters Tryz.prog 76:=Enters.of Tryz.func76 (by kernel_rfl) rfl
attribute [go_sem] Tryz.ntmps76
theorem en77:Enters Tryz.prog 77:=Enters.of Tryz.func77 (by kernel_rfl) rfl
attribute [go_sem] Tryz.ntmps77
theorem en78:Enters Tryz.prog 78:=Enters.of Tryz.func78 (by kernel_rfl) rfl
attribute [go_sem] Tryz.ntmps78
theorem en79:Enters Tryz.prog 79:=Enters.of Tryz.func79 (by kernel_rfl) rfl
attribute [go_sem] Tryz.ntmps79
theorem en80:Enters Tryz.prog 80:=Enters.of Tryz.func80 (by kernel_rfl) rfl
attribute [go_sem] Tryz.ntmps80
theorem en81:Enters Tryz.prog 81:=Enters.of Tryz.func81 (by kernel_rfl) rfl
attribute [go_sem] Tryz.ntmps81
theorem en82:Enters Tryz.prog 82:=Enters.of Tryz.func82 (by kernel_rfl) rfl
attribute [go_sem] Tryz.ntmps82
theorem en83:Enters Tryz.prog 83:=Enters.of Tryz.func83 (by kernel_rfl) rfl
attribute [go_sem] Tryz.ntmps83
theorem en84:Enters Tryz.prog 84:=Enters.of Tryz.func84 (by kernel_rfl) rfl
attribute [go_sem] Tryz.ntmps84
theorem en85:Enters Tryz.prog 85:=Enters.of Tryz.func85 (by kernel_rfl) rfl
attribute [go_sem] Tryz.ntmps85
theorem en86:Enters Tryz.prog 86:=Enters.of Tryz.func86 (by kernel_rfl) rfl
attribute [go_sem] Tryz.ntmps86
theorem en87:Enters Tryz.prog 87:=Enters.of Tryz.func87 (by kernel_rfl) rfl
attribute [go_sem] Tryz.ntmps87
theorem en88:Enters Tryz.prog 88:=Enters.of Tryz.func88 (by kernel_rfl) rfl
attribute [go_sem] Tryz.ntmps88
theorem en89:Enters Tryz.prog 89:=Enters.of Tryz.func89 (by kernel_rfl) rfl
attribute [go_sem] Tryz.ntmps89
theorem en90:Enters Tryz.prog 90:=Enters.of Tryz.func90 (by kernel_rfl) rfl
attribute [go_sem] Tryz.ntmps90
theorem en91:Enters Tryz.prog 91:=Enters.of Tryz.func91 (by kernel_rfl) rfl
attribute [go_sem] Tryz.ntmps91
theorem en92:Enters Tryz.prog 92:=Enters.of Tryz.func92 (by kernel_rfl) rfl
attribute [go_sem] Tryz.ntmps92
theorem en93:Enters Tryz.prog 93:=Enters.of Tryz.func93 (by kernel_rfl) rfl
attribute [go_sem] Tryz.ntmps93
theorem en94:Enters Tryz.prog 94:=Enters.of Tryz.func94 (by kernel_rfl) rfl
attribute [go_sem] Tryz.ntmps94
theorem en95:Enters Tryz.prog 95:=Enters.of Tryz.func95 (by kernel_rfl) rfl
attribute [go_sem] Tryz.ntmps95
theorem en96:Enters Tryz.prog 96:=Enters.of Tryz.func96 (by kernel_rfl) rfl
attribute [go_sem] Tryz.ntmps96
theorem en97:Enters Tryz.prog 97:=Enters.of Tryz.func97 (by kernel_rfl) rfl
attribute [go_sem] Tryz.ntmps97
theorem en98:Enters Tryz.prog 98:=Enters.of Tryz.func98 (by kernel_rfl) rfl
attribute [go_sem] Tryz.ntmps98
theorem en99:Enters Tryz.prog 99:=Enters.of Tryz.func99 (by kernel_rfl) rfl
attribute [go_sem] Tryz.ntmps99
theorem en100:Enters Tryz.prog 100:=Enters.of Tryz.func100 (by kernel_rfl) rfl
attribute [go_sem] Tryz.ntmps100
theorem en101:Enters Tryz.prog 101:=Enters.of Tryz.func101 (by kernel_rfl) rfl
attribute [go_sem] Tryz.ntmps101
theorem en102:Enters Tryz.prog 102:=Enters.of Tryz.func102 (by kernel_rfl) rfl
attribute [go_sem] Tryz.ntmps102
theorem en103:Enters Tryz.prog 103:=Enters.of Tryz.func103 (by kernel_rfl) rfl
attribute [go_sem] Tryz.ntmps103
theorem en104:Enters Tryz.prog 104:=Enters.of Tryz.func104 (by kernel_rfl) rfl
attribute [go_sem] Tryz.ntmps104
theorem en105:Enters Tryz.prog 105:=Enters.of Tryz.func105 (by kernel_rfl) rfl
attribute [go_sem] Tryz.ntmps105
theorem en106:Enters Tryz.prog 106:=Enters.of Tryz.func106 (by kernel_rfl) rfl
attribute [go_sem] Tryz.ntmps106
theorem en107:Enters Tryz.prog 107:=Enters.of Tryz.func107 (by kernel_rfl) rfl
attribute [go_sem] Tryz.ntmps107
theorem en108:Enters Tryz.prog 108:=Enters.of Tryz.func108 (by kernel_rfl) rfl
attribute [go_sem] Tryz.ntmps108
theorem en109:Enters Tryz.prog 109:=Enters.of Tryz.func109 (by kernel_rfl) rfl
attribute [go_sem] Tryz.ntmps109
theorem en110:Enters Tryz.prog 110:=Enters.of Tryz.func110 (by kernel_rfl) rfl
attribute [go_sem] Tryz.ntmps110
theorem en111:Enters Tryz.prog 111:=Enters.of Tryz.func111 (by kernel_rfl) rfl
attribute [go_sem] Tryz.ntmps111
theorem en112:Enters Tryz.prog 112:=Enters.of Tryz.func112 (by kernel_rfl) rfl
attribute [go_sem] Tryz.ntmps112
theorem en113:Enters Tryz.prog 113:=Enters.of Tryz.func113 (by kernel_rfl) rfl
attribute [go_sem] Tryz.ntmps113
theorem en114:Enters Tryz.prog 114:=Enters.of Tryz.func114 (by kernel_rfl) rfl
attribute [go_sem] Tryz.ntmps114
theorem en115:Enters Tryz.prog 115:=Enters.of Tryz.func115 (by kernel_rfl) rfl
attribute [go_sem] Tryz.ntmps115
theorem en116:Enters Tryz.prog 116:=Enters.of Tryz.func116 (by kernel_rfl) rfl
attribute [go_sem] Tryz.ntmps116
theorem en117:Enters Tryz.prog 117:=Enters.of Tryz.func117 (by kernel_rfl) rfl
attribute [go_sem] Tryz.ntmps117
theorem en118:Enters Tryz.prog 118:=Enters.of Tryz.func118 (by kernel_rfl) rfl
attribute [go_sem] Tryz.ntmps118
theorem en147:Enters Tryz.prog 147:=Enters.of Tryz.func147 (by kernel_rfl) rfl
attribute [go_sem] Tryz.ntmps147
theorem en148:Enters Tryz.prog 148:=Enters.of Tryz.func148 (by kernel_rfl) rfl
attribute [go_sem] Tryz.ntmps148
theorem en149:Enters Tryz.prog 149:=Enters.of Tryz.func149 (by kernel_rfl) rfl
attribute [go_sem] Tryz.ntmps149
theorem en150:Enters Tryz.prog 150:=Enters.of Tryz.func150 (by kernel_rfl) rfl
attribute [go_sem] Tryz.ntmps150
theorem en151:Enters Tryz.prog 151:=Enters.of Tryz.func151 (by kernel_rfl) rfl
attribute [go_sem] Tryz.ntmps151
theorem en152:Enters Tryz.prog 152:=Enters.of Tryz.func152 (by kernel_rfl) rfl
attribute [go_sem] Tryz.ntmps152
theorem en153:Enters Tryz.prog 153:=Enters.of Tryz.func153 (by kernel_rfl) rfl
attribute [go_sem] Tryz.ntmps153
theorem en154:Enters Tryz.prog 154:=Enters.of Tryz.func154 (by kernel_rfl) rfl
attribute [go_sem] Tryz.ntmps154
theorem en155:Enters Tryz.prog 155:=Enters.of Tryz.func155 (by kernel_rfl) rfl
attribute [go_sem] Tryz.ntmps155
theorem en156:Enters Tryz.prog 156:=Enters.of Tryz.func156 (by kernel_rfl) rfl
attribute [go_sem] Tryz.ntmps156
theorem en157:Enters Tryz.prog 157:=Enters.of Tryz.func157 (by kernel_rfl) rfl
attribute [go_sem] Tryz.ntmps157
theorem en159:Enters Tryz.prog 159:=Enters.of Tryz.func159 (by kernel_rfl) rfl
attribute [go_sem] Tryz.ntmps159
theorem en160:Enters Tryz.prog 160:=Enters.of Tryz.func160 (by kernel_rfl) rfl
attribute [go_sem] Tryz.ntmps160
theorem en168:Enters Tryz.prog 168:=Enters.of Tryz.func168 (by kernel_rfl) rfl
attribute [go_sem] Tryz.ntmps168
theorem en169:Enters Tryz.prog 169:=Enters.of Tryz.func169 (by kernel_rfl) rfl
attribute [go_sem] Tryz.ntmps169
theorem en170:Enters Tryz.prog 170:=Enters.of Tryz.func170 (by kernel_rfl) rfl
attribute [go_sem] Tryz.ntmps170
theorem en171:Enters Tryz.prog 171:=Enters.of Tryz.func171 (by kernel_rfl) rfl
attribute [go_sem] Tryz.ntmps171
theorem en172:Enters Tryz.prog 172:=Enters.of Tryz.func172 (by kernel_rfl) rfl
attribute [go_sem] Tryz.ntmps172
theorem en184:Enters Tryz.prog 184:=Enters.of Tryz.func184 (by kernel_rfl) rfl
attribute [go_sem] Tryz.ntmps184
theorem en185:Enters Tryz.prog 185:=Enters.of Tryz.func185 (by kernel_rfl) rfl
attribute [go_sem] Tryz.ntmps185
theorem en186:Enters Tryz.prog 186:=Enters.of Tryz.func186 (by kernel_rfl) rfl
attribute [go_sem] Tryz.ntmps186
theorem en187:Enters Tryz.prog 187:=Enters.of Tryz.func187 (by kernel_rfl) rfl
attribute [go_sem] Tryz.ntmps187
theorem en188:Enters Tryz.prog 188:=Enters.of Tryz.func188 (by kernel_rfl) rfl
attribute [go_sem] Tryz.ntmps188
theorem en189:Enters Tryz.prog 189:=Enters.of Tryz.func189 (by kernel_rfl) rfl
attribute [go_sem] Tryz.ntmps189
theorem en192:Enters Tryz.prog 192:=Enters.of Tryz.func192 (by kernel_rfl) rfl
attribute [go_sem] Tryz.ntmps192
theorem en193:Enters Tryz.prog 193:=Enters.of Tryz.func193 (by kernel_rfl) rfl
attribute [go_sem] Tryz.ntmps193
theorem en194:Enters Tryz.prog 194:=Enters.of Tryz.func194 (by kernel_rfl) rfl
attribute [go_sem] Tryz.ntmps194
theorem en195:Enters Tryz.prog 195:=Enters.of Tryz.func195 (by kernel_rfl) rfl
attribute [go_sem] Tryz.ntmps195
theorem en196:Enters Tryz.prog 196:=Enters.of Tryz.func196 (by kernel_rfl) rfl
attribute [go_sem] Tryz.ntmps196
theorem en197:Enters Tryz.prog 197:=Enters.of Tryz.func197 (by kernel_rfl) rfl
attribute [go_sem] Tryz.ntmps197
theorem en198:Enters Tryz.prog 198:=Enters.of Tryz.func198 (by kernel_rfl) rfl
attribute [go_sem] Tryz.ntmps198
theorem en199:Enters Tryz.prog 199:=Enters.of Tryz.func199 (by kernel_rfl) rfl
attribute [go_sem] Tryz.ntmps199
theorem en200:Enters Tryz.prog 200:=Enters.of Tryz.func200 (by kernel_rfl) rfl
attribute [go_sem] Tryz.ntmps200
theorem en201:Enters Tryz.prog 201:=Enters.of Tryz.func201 (by kernel_rfl) rfl
attribute [go_sem] Tryz.ntmps201
theorem en202:Enters Tryz.prog 202:=Enters.of Tryz.func202 (by kernel_rfl) rfl
attribute [go_sem] Tryz.ntmps202
theorem en203:Enters Tryz.prog 203:=Enters.of Tryz.func203 (by kernel_rfl) rfl
attribute [go_sem] Tryz.ntmps203
theorem en204:Enters Tryz.prog 204:=Enters.of Tryz.func204 (by kernel_rfl) rfl
attribute [go_sem] Tryz.ntmps204
theorem en205:Enters Tryz.prog 205:=Enters.of Tryz.func205 (by kernel_rfl) rfl
attribute [go_sem] Tryz.ntmps205
theorem en206:Enters Tryz.prog 206:=Enters.of Tryz.func206 (by kernel_rfl) rfl
attribute [go_sem] Tryz.ntmps206
theorem en207:Enters Tryz.prog 207:=Enters.of Tryz.func207 (by kernel_rfl) rfl
attribute [go_sem] Tryz.ntmps207
theorem en208:Enters Tryz.prog 208:=Enters.of Tryz.func208 (by kernel_rfl) rfl
attribute [go_sem] Tryz.ntmps208
theorem en209:Enters Tryz.prog 209:=Enters.of Tryz.func209 (by kernel_rfl) rfl
attribute [go_sem] Tryz.ntmps209
theorem en210:Enters Tryz.prog 210:=Enters.of Tryz.func210 (by kernel_rfl) rfl
attribute [go_sem] Tryz.ntmps210
theorem en211:Enters Tryz.prog 211:=Enters.of Tryz.func211 (by kernel_rfl) rfl
attribute [go_sem] Tryz.ntmps211
theorem en212:Enters Tryz.prog 212:=Enters.of Tryz.func212 (by kernel_rfl) rfl
attribute [go_sem] Tryz.ntmps212
theorem en213:Enters Tryz.prog 213:=Enters.of Tryz.func213 (by kernel_rfl) rfl
attribute [go_sem] Tryz.ntmps213
theorem en214:Enters Tryz.prog 214:=Enters.of Tryz.func214 (by kernel_rfl) rfl
attribute [go_sem] Tryz.ntmps214
theorem en215:Enters Tryz.prog 215:=Enters.of Tryz.func215 (by kernel_rfl) rfl
attribute [go_sem] Tryz.ntmps215
theorem en216:Enters Tryz.prog 216:=Enters.of Tryz.func216 (by kernel_rfl) rfl
attribute [go_sem] Tryz.ntmps216
theorem en217:Enters Tryz.prog 217:=Enters.of Tryz.func217 (by kernel_rfl) rfl
attribute [go_sem] Tryz.ntmps217
theorem en218:Enters Tryz.prog 218:=Enters.of Tryz.func218 (by kernel_rfl) rfl
attribute [go_sem] Tryz.ntmps218
theorem en219:Enters Tryz.prog 219:=Enters.of Tryz.func219 (by kernel_rfl) rfl
attribute [go_sem] Tryz.ntmps219
theorem en220:Enters Tryz.prog 220:=Enters.of Tryz.func220 (by kernel_rfl) rfl
attribute [go_sem] Tryz.ntmps220
theorem en223:Enters Tryz.prog 223:=Enters.of Tryz.func223 (by kernel_rfl) rfl
attribute [go_sem] Tryz.ntmps223
theorem en229:Enters Tryz.prog 229:=Enters.of Tryz.func229 (by kernel_rfl) rfl
attribute [go_sem] Tryz.ntmps229
theorem en230:Enters Tryz.prog 230:=Enters.of Tryz.func230 (by kernel_rfl) rfl
attribute [go_sem] Tryz.ntmps230
theorem en231:Enters Tryz.prog 231:=Enters.of Tryz.func231 (by kernel_rfl) rfl
attribute [go_sem] Tryz.ntmps231
theorem en232:Enters Tryz.prog 232:=Enters.of Tryz.func232 (by kernel_rfl) rfl
attribute [go_sem] Tryz.ntmps232
theorem en233:Enters Tryz.prog 233:=Enters.of Tryz.func233 (by kernel_rfl) rfl
attribute [go_sem] Tryz.ntmps233
theorem en234:Enters Tryz.prog 234:=Enters.of Tryz.func234 (by kernel_rfl) rfl
attribute [go_sem] Tryz.ntmps234
theorem en235:Enters Tryz.prog 235:=Enters.of Tryz.func235 (by kernel_rfl) rfl
attribute [go_sem] Tryz.ntmps235
theorem en238:Enters Tryz.prog 238:=Enters.of Tryz.func238 (by kernel_rfl) rfl
attribute [go_sem] Tryz.ntmps238
theorem en250:Enters Tryz.prog 250:=Enters.of Tryz.func250 (by kernel_rfl) rfl
attribute [go_sem] Tryz.ntmps250
theorem en251:Enters Tryz.prog 251:=Enters.of Tryz.func251 (by kernel_rfl) rfl
attribute [go_sem] Tryz.ntmps251
theorem en252:Enters Tryz.prog 252:=Enters.of Tryz.func252 (by kernel_rfl) rfl
attribute [go_sem] Tryz.ntmps252
theorem en253:Enters Tryz.prog 253:=Enters.of Tryz.func253 (by kernel_rfl) rfl
attribute [go_sem] Tryz.ntmps253
theorem en254:Enters Tryz.prog 254:=Enters.of Tryz.func254 (by kernel_rfl) rfl
attribute [go_sem] Tryz.ntmps254
theorem en255:Enters Tryz.prog 255:=Enters.of Tryz.func255 (by kernel_rfl) rfl
attribute [go_sem] Tryz.ntmps255
theorem en256:Enters Tryz.prog 256:=Enters.of Tryz.func256 (by kernel_rfl) rfl
attribute [go_sem] Tryz.ntmps256
theorem en257:Enters Tryz.prog 257:=Enters.of Tryz.func257 (by kernel_rfl) rfl
attribute [go_sem] Tryz.ntmps257
theorem en259:Enters Tryz.prog 259:=Enters.of Tryz.func259 (by kernel_rfl) rfl
attribute [go_sem] Tryz.ntmps259
theorem en260:Enters Tryz.prog 260:=Enters.of Tryz.func260 (by kernel_rfl) rfl
attribute [go_sem] Tryz.ntmps260
theorem en261:Enters Tryz.prog 261:=Enters.of Tryz.func261 (by kernel_rfl) rfl
attribute [go_sem] Tryz.ntmps261
theorem en262:Enters Tryz.prog 262:=Enters.of Tryz.func262 (by kernel_rfl) rfl
attribute [go_sem] Tryz.ntmps262
theorem en263:Enters Tryz.prog 263:=Enters.of Tryz.func263 (by kernel_rfl) rfl
attribute [go_sem] Tryz.ntmps263
theorem en266:Enters Tryz.prog 266:=Enters.of Tryz.func266 (by kernel_rfl) rfl
attribute [go_sem] Tryz.ntmps266
theorem en267:Enters Tryz.prog 267:=Enters.of Tryz.func267 (by kernel_rfl) rfl
attribute [go_sem] Tryz.ntmps267
theorem en276:Enters Tryz.prog 276:=Enters.of Tryz.func276 (by kernel_rfl) rfl
attribute [go_sem] Tryz.ntmps276
theorem en277:Enters Tryz.prog 277:=Enters.of Tryz.func277 (by kernel_rfl) rfl
attribute [go_sem] Tryz.ntmps277
theorem en278:Enters Tryz.prog 278:=Enters.of Tryz.func278 (by kernel_rfl) rfl
attribute [go_sem] Tryz.ntmps278
theorem en280:Enters Tryz.prog 280:=Enters.of Tryz.func280 (by kernel_rfl) rfl
attribute [go_sem] Tryz.ntmps280
theorem en281:Enters Tryz.prog 281:=Enters.of Tryz.func281 (by kernel_rfl) rfl
attribute [go_sem] Tryz.ntmps281
theorem en287:Enters Tryz.prog 287:=Enters.of Tryz.func287 (by kernel_rfl) rfl
attribute [go_sem] Tryz.ntmps287
theorem en288:Enters Tryz.prog 288:=Enters.of Tryz.func288 (by kernel_rfl) rfl
attribute [go_sem] Tryz.ntmps288
theorem en289:Enters Tryz.prog 289:=Enters.of Tryz.func289 (by kernel_rfl) rfl
attribute [go_sem] Tryz.ntmps289
theorem en295:Enters Tryz.prog 295:=Enters.of Tryz.func295 (by kernel_rfl) rfl
attribute [go_sem] Tryz.ntmps295
theorem en299:Enters Tryz.prog 299:=Enters.of Tryz.func299 (by kernel_rfl) rfl
attribute [go_sem] Tryz.ntmps299
theorem mix:Tryz.prog.follows .mixedOrders=true:=by kernel_rfl
end Tf
end Go.Proofs.YtlnpgbnhcondjaaGreatDoor
