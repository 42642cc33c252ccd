/-  -/
import Derived.Test.YtkciabfilokfiaaGreatProg
import Derived.Test.YtkciabfilokfiaaGreatMB
import Derived.Test.YtkciabfilokfiaaGreatMA
import Derived.KernelRfl
namespace Go.Proofs.YtkciabfilokfiaaGreat
open Vg
namespace Tf
set_option linter.unusedSimpArgs false
set_option linter.unusedVariables false
@[go_sem] theorem sz1:szOf Tryz.prog 1=1∧aggOf Tryz.prog 1=some false∧(Tryz.prog.underlying 1).isSome=true∧zeroOf Tryz.prog 1=some [Value.nilFunc]∧strOf Tryz.prog 1=false:=by and_intros<;>kernel_rfl
@[go_sem] theorem by1:byOf Tryz.prog 1=8:=by kernel_rfl
@[go_sem] theorem sl1:slOf Tryz.prog 1=none:=by kernel_rfl
@[go_sem] theorem pa1:paOf Tryz.prog 1=none:=by kernel_rfl
@[go_sem] theorem sz2:szOf Tryz.prog 2=1∧aggOf Tryz.prog 2=some false∧(Tryz.prog.underlying 2).isSome=true∧zeroOf Tryz.prog 2=some [Value.int .i64 0]∧strOf Tryz.prog 2=false∧byOf Tryz.prog 2=8∧slOf Tryz.prog 2=none:=by and_intros<;>kernel_rfl
@[go_sem] theorem pa2:paOf Tryz.prog 2=none:=by kernel_rfl
@[go_sem] theorem ki2:kiOf Tryz.prog 2=some .i64:=by kernel_rfl
@[go_sem] theorem sz3:szOf Tryz.prog 3=1:=by kernel_rfl
@[go_sem] theorem ag3:aggOf Tryz.prog 3=some false∧(Tryz.prog.underlying 3).isSome=true:=by and_intros<;>kernel_rfl
@[go_sem] theorem zr3:zeroOf Tryz.prog 3=some [Value.int .i64 0]:=by kernel_rfl
@[go_sem] theorem st3:strOf Tryz.prog 3=false∧byOf Tryz.prog 3=8:=by and_intros<;>kernel_rfl
@[go_sem] theorem sl3:slOf Tryz.prog 3=none:=by kernel_rfl
@[go_sem] theorem pa3:paOf Tryz.prog 3=none:=by kernel_rfl
@[go_sem] theorem ki3:kiOf Tryz.prog 3=some .i64:=by kernel_rfl
@[go_sem] theorem sz4:szOf Tryz.prog 4=1∧aggOf Tryz.prog 4=some false∧(Tryz.prog.underlying 4).isSome=true∧zeroOf Tryz.prog 4=some [Value.bool false]∧strOf Tryz.prog 4=false∧byOf Tryz.prog 4=1∧slOf Tryz.prog 4=none∧paOf Tryz.prog 4=none:=by and_intros<;>kernel_rfl
@[go_sem] theorem ub4:Tryz.prog.underlying 4=some .bool:=by kernel_rfl
@[go_sem] theorem sz5:szOf Tryz.prog 5=1∧aggOf Tryz.prog 5=some false∧(Tryz.prog.underlying 5).isSome=true∧zeroOf Tryz.prog 5=some [Value.int .u8 0]∧strOf Tryz.prog 5=false∧byOf Tryz.prog 5=1∧slOf Tryz.prog 5=none∧paOf Tryz.prog 5=none:=by and_intros<;>kernel_rfl
@[go_sem] theorem ki5:kiOf Tryz.prog 5=some .u8:=by kernel_rfl
@[go_sem] theorem sz6:szOf Tryz.prog 6=1∧aggOf Tryz.prog 6=some false∧(Tryz.prog.underlying 6).isSome=true∧zeroOf Tryz.prog 6=some [Value.int .u8 0]∧strOf Tryz.prog 6=false∧byOf Tryz.prog 6=1∧slOf Tryz.prog 6=none∧paOf Tryz.prog 6=none:=by and_intros<;>kernel_rfl
@[go_sem] theorem ki6:kiOf Tryz.prog 6=some .u8:=by kernel_rfl
@[go_sem] theorem sz7:szOf Tryz.prog 7=4∧aggOf Tryz.prog 7=some true∧(Tryz.prog.underlying 7).isSome=true∧zeroOf Tryz.prog 7=some [Value.int .i64 0,Value.int .i64 0,Value.bool false,Value.int .u8 0]∧strOf Tryz.prog 7=false∧byOf Tryz.prog 7=24∧slOf Tryz.prog 7=none∧paOf Tryz.prog 7=none∧plOf Tryz.prog 7=some [(0,1),(1,1),(2,1),(3,1)]∧fldOf Tryz.prog 7 0=some (0,1,false)∧offOf Tryz.prog 7 0=some 0∧fldOf Tryz.prog 7 1=some (1,1,false):=by and_intros<;>kernel_rfl
@[go_sem] theorem of7_1:offOf Tryz.prog 7 1=some 1∧fldOf Tryz.prog 7 2=some (2,1,false)∧offOf Tryz.prog 7 2=some 2∧fldOf Tryz.prog 7 3=some (3,1,false)∧offOf Tryz.prog 7 3=some 3∧szOf Tryz.prog 8=4∧aggOf Tryz.prog 8=some true∧(Tryz.prog.underlying 8).isSome=true∧zeroOf Tryz.prog 8=some [Value.int .i64 0,Value.int .i64 0,Value.bool false,Value.int .u8 0]∧strOf Tryz.prog 8=false∧byOf Tryz.prog 8=24∧slOf Tryz.prog 8=none:=by and_intros<;>kernel_rfl
@[go_sem] theorem pa8:paOf Tryz.prog 8=none∧plOf Tryz.prog 8=some [(0,1),(1,1),(2,1),(3,1)]∧fldOf Tryz.prog 8 0=some (0,1,false)∧offOf Tryz.prog 8 0=some 0∧fldOf Tryz.prog 8 1=some (1,1,false)∧offOf Tryz.prog 8 1=some 1∧fldOf Tryz.prog 8 2=some (2,1,false)∧offOf Tryz.prog 8 2=some 2∧fldOf Tryz.prog 8 3=some (3,1,false)∧offOf Tryz.prog 8 3=some 3:=by and_intros<;>kernel_rfl
@[go_sem] theorem sz9:szOf Tryz.prog 9=1:=by kernel_rfl
@[go_sem] theorem ag9:aggOf Tryz.prog 9=some false∧(Tryz.prog.underlying 9).isSome=true∧zeroOf Tryz.prog 9=some [Value.string ⟨#[]⟩]∧strOf Tryz.prog 9=true∧byOf Tryz.prog 9=16∧slOf Tryz.prog 9=none∧paOf Tryz.prog 9=none∧szOf Tryz.prog 10=1∧aggOf Tryz.prog 10=some false∧(Tryz.prog.underlying 10).isSome=true∧zeroOf Tryz.prog 10=some [Value.string ⟨#[]⟩]∧strOf Tryz.prog 10=true:=by and_intros<;>kernel_rfl
@[go_sem] theorem by10:byOf Tryz.prog 10=16∧slOf Tryz.prog 10=none∧paOf Tryz.prog 10=none∧szOf Tryz.prog 11=1∧aggOf Tryz.prog 11=some false∧(Tryz.prog.underlying 11).isSome=true∧zeroOf Tryz.prog 11=some [Value.string ⟨#[]⟩]∧strOf Tryz.prog 11=true∧byOf Tryz.prog 11=16∧slOf Tryz.prog 11=none∧paOf Tryz.prog 11=none∧szOf Tryz.prog 12=1:=by and_intros<;>kernel_rfl
@[go_sem] theorem ag12:aggOf Tryz.prog 12=some false∧(Tryz.prog.underlying 12).isSome=true∧zeroOf Tryz.prog 12=some [Value.int .u64 0]∧strOf Tryz.prog 12=false∧byOf Tryz.prog 12=8∧slOf Tryz.prog 12=none∧paOf Tryz.prog 12=none:=by and_intros<;>kernel_rfl
@[go_sem] theorem ki12:kiOf Tryz.prog 12=some .u64:=by kernel_rfl
@[go_sem] theorem sz13:szOf Tryz.prog 13=2∧aggOf Tryz.prog 13=some true∧(Tryz.prog.underlying 13).isSome=true∧zeroOf Tryz.prog 13=some [Value.string ⟨#[]⟩,Value.int .u64 0]∧strOf Tryz.prog 13=false∧byOf Tryz.prog 13=24∧slOf Tryz.prog 13=none∧paOf Tryz.prog 13=none∧plOf Tryz.prog 13=some [(0,1),(1,1)]∧fldOf Tryz.prog 13 0=some (0,1,false)∧offOf Tryz.prog 13 0=some 0∧fldOf Tryz.prog 13 1=some (1,1,false):=by and_intros<;>kernel_rfl
@[go_sem] theorem of13_1:offOf Tryz.prog 13 1=some 1∧szOf Tryz.prog 14=2∧aggOf Tryz.prog 14=some true∧(Tryz.prog.underlying 14).isSome=true∧zeroOf Tryz.prog 14=some [Value.string ⟨#[]⟩,Value.int .u64 0]∧strOf Tryz.prog 14=false∧byOf Tryz.prog 14=24∧slOf Tryz.prog 14=none∧paOf Tryz.prog 14=none∧plOf Tryz.prog 14=some [(0,1),(1,1)]∧fldOf Tryz.prog 14 0=some (0,1,false)∧offOf Tryz.prog 14 0=some 0:=by and_intros<;>kernel_rfl
@[go_sem] theorem fl14_1:fldOf Tryz.prog 14 1=some (1,1,false)∧offOf Tryz.prog 14 1=some 1∧szOf Tryz.prog 15=1∧aggOf Tryz.prog 15=some false∧(Tryz.prog.underlying 15).isSome=true∧zeroOf Tryz.prog 15=some [Value.pointer none]∧strOf Tryz.prog 15=false∧byOf Tryz.prog 15=8∧slOf Tryz.prog 15=none∧paOf Tryz.prog 15=none:=by and_intros<;>kernel_rfl
@[go_sem] theorem pt15:ptOf Tryz.prog 15=some 322:=by kernel_rfl
@[go_sem] theorem sz16:szOf Tryz.prog 16=1∧aggOf Tryz.prog 16=some false∧(Tryz.prog.underlying 16).isSome=true∧zeroOf Tryz.prog 16=some [Value.pointer none]∧strOf Tryz.prog 16=false∧byOf Tryz.prog 16=8∧slOf Tryz.prog 16=none∧paOf Tryz.prog 16=none:=by and_intros<;>kernel_rfl
@[go_sem] theorem pt16:ptOf Tryz.prog 16=some 325:=by kernel_rfl
@[go_sem] theorem sz17:szOf Tryz.prog 17=1∧aggOf Tryz.prog 17=some false∧(Tryz.prog.underlying 17).isSome=true∧zeroOf Tryz.prog 17=some [Value.pointer none]∧strOf Tryz.prog 17=false∧byOf Tryz.prog 17=8∧slOf Tryz.prog 17=none∧paOf Tryz.prog 17=none:=by and_intros<;>kernel_rfl
@[go_sem] theorem pt17:ptOf Tryz.prog 17=some 335:=by kernel_rfl
@[go_sem] theorem sz18:szOf Tryz.prog 18=1∧aggOf Tryz.prog 18=some true∧(Tryz.prog.underlying 18).isSome=true∧zeroOf Tryz.prog 18=some [Value.pointer none]∧strOf Tryz.prog 18=false∧byOf Tryz.prog 18=8∧slOf Tryz.prog 18=none∧paOf Tryz.prog 18=none∧plOf Tryz.prog 18=some [(0,1)]∧fldOf Tryz.prog 18 0=some (0,1,false)∧offOf Tryz.prog 18 0=some 0∧szOf Tryz.prog 19=1:=by and_intros<;>kernel_rfl
@[go_sem] theorem ag19:aggOf Tryz.prog 19=some true∧(Tryz.prog.underlying 19).isSome=true∧zeroOf Tryz.prog 19=some [Value.pointer none]∧strOf Tryz.prog 19=false∧byOf Tryz.prog 19=8∧slOf Tryz.prog 19=none∧paOf Tryz.prog 19=none∧plOf Tryz.prog 19=some [(0,1)]∧fldOf Tryz.prog 19 0=some (0,1,false)∧offOf Tryz.prog 19 0=some 0∧szOf Tryz.prog 20=1∧aggOf Tryz.prog 20=some false:=by and_intros<;>kernel_rfl
@[go_sem] theorem us20:(Tryz.prog.underlying 20).isSome=true∧zeroOf Tryz.prog 20=some [Value.nilIface]∧strOf Tryz.prog 20=false∧byOf Tryz.prog 20=16∧slOf Tryz.prog 20=none∧paOf Tryz.prog 20=none∧szOf Tryz.prog 21=1∧aggOf Tryz.prog 21=some false∧(Tryz.prog.underlying 21).isSome=true∧zeroOf Tryz.prog 21=some [Value.int .i32 0]∧strOf Tryz.prog 21=false∧byOf Tryz.prog 21=4:=by and_intros<;>kernel_rfl
@[go_sem] theorem sl21:slOf Tryz.prog 21=none∧paOf Tryz.prog 21=none:=by and_intros<;>kernel_rfl
@[go_sem] theorem ki21:kiOf Tryz.prog 21=some .i32:=by kernel_rfl
@[go_sem] theorem sz22:szOf Tryz.prog 22=1∧aggOf Tryz.prog 22=some false∧(Tryz.prog.underlying 22).isSome=true∧zeroOf Tryz.prog 22=some [Value.slice none 0 0]∧strOf Tryz.prog 22=false∧byOf Tryz.prog 22=24∧slOf Tryz.prog 22=some (78,11)∧paOf Tryz.prog 22=none∧szOf Tryz.prog 23=1∧aggOf Tryz.prog 23=some false∧(Tryz.prog.underlying 23).isSome=true∧zeroOf Tryz.prog 23=some [Value.slice none 0 0]:=by and_intros<;>kernel_rfl
@[go_sem] theorem st23:strOf Tryz.prog 23=false∧byOf Tryz.prog 23=24∧slOf Tryz.prog 23=some (84,3)∧paOf Tryz.prog 23=none∧szOf Tryz.prog 24=1∧aggOf Tryz.prog 24=some false∧(Tryz.prog.underlying 24).isSome=true∧zeroOf Tryz.prog 24=some [Value.slice none 0 0]∧strOf Tryz.prog 24=false∧byOf Tryz.prog 24=24∧slOf Tryz.prog 24=some (91,4)∧paOf Tryz.prog 24=none:=by and_intros<;>kernel_rfl
@[go_sem] theorem sz25:szOf Tryz.prog 25=1∧aggOf Tryz.prog 25=some false∧(Tryz.prog.underlying 25).isSome=true∧zeroOf Tryz.prog 25=some [Value.slice none 0 0]∧strOf Tryz.prog 25=false∧byOf Tryz.prog 25=24∧slOf Tryz.prog 25=some (51,4)∧paOf Tryz.prog 25=none∧szOf Tryz.prog 26=1∧aggOf Tryz.prog 26=some false∧(Tryz.prog.underlying 26).isSome=true∧zeroOf Tryz.prog 26=some [Value.slice none 0 0]:=by and_intros<;>kernel_rfl
@[go_sem] theorem st26:strOf Tryz.prog 26=false∧byOf Tryz.prog 26=24∧slOf Tryz.prog 26=some (53,6)∧paOf Tryz.prog 26=none∧szOf Tryz.prog 27=1∧aggOf Tryz.prog 27=some false∧(Tryz.prog.underlying 27).isSome=true∧zeroOf Tryz.prog 27=some [Value.slice none 0 0]∧strOf Tryz.prog 27=false∧byOf Tryz.prog 27=24∧slOf Tryz.prog 27=some (9,1)∧paOf Tryz.prog 27=none:=by and_intros<;>kernel_rfl
@[go_sem] theorem sz28:szOf Tryz.prog 28=7∧aggOf Tryz.prog 28=some true∧(Tryz.prog.underlying 28).isSome=true∧zeroOf Tryz.prog 28=some [Value.string ⟨#[]⟩,Value.slice none 0 0,Value.slice none 0 0,Value.slice none 0 0,Value.slice none 0 0,Value.slice none 0 0,Value.slice none 0 0]∧strOf Tryz.prog 28=false∧byOf Tryz.prog 28=160∧slOf Tryz.prog 28=none∧paOf Tryz.prog 28=none∧plOf Tryz.prog 28=some [(0,1),(1,1),(2,1),(3,1),(4,1),(5,1),(6,1)]∧fldOf Tryz.prog 28 0=some (0,1,false)∧offOf Tryz.prog 28 0=some 0∧fldOf Tryz.prog 28 1=some (1,1,false):=by and_intros<;>kernel_rfl
@[go_sem] theorem of28_1:offOf Tryz.prog 28 1=some 1∧fldOf Tryz.prog 28 2=some (2,1,false)∧offOf Tryz.prog 28 2=some 2∧fldOf Tryz.prog 28 3=some (3,1,false)∧offOf Tryz.prog 28 3=some 3∧fldOf Tryz.prog 28 4=some (4,1,false)∧offOf Tryz.prog 28 4=some 4∧fldOf Tryz.prog 28 5=some (5,1,false)∧offOf Tryz.prog 28 5=some 5∧fldOf Tryz.prog 28 6=some (6,1,false)∧offOf Tryz.prog 28 6=some 6:=by and_intros<;>kernel_rfl
@[go_sem] theorem sz29:szOf Tryz.prog 29=7:=by kernel_rfl
@[go_sem] theorem ag29:aggOf Tryz.prog 29=some true∧(Tryz.prog.underlying 29).isSome=true∧zeroOf Tryz.prog 29=some [Value.string ⟨#[]⟩,Value.slice none 0 0,Value.slice none 0 0,Value.slice none 0 0,Value.slice none 0 0,Value.slice none 0 0,Value.slice none 0 0]∧strOf Tryz.prog 29=false∧byOf Tryz.prog 29=160∧slOf Tryz.prog 29=none∧paOf Tryz.prog 29=none∧plOf Tryz.prog 29=some [(0,1),(1,1),(2,1),(3,1),(4,1),(5,1),(6,1)]∧fldOf Tryz.prog 29 0=some (0,1,false)∧offOf Tryz.prog 29 0=some 0∧fldOf Tryz.prog 29 1=some (1,1,false)∧offOf Tryz.prog 29 1=some 1:=by and_intros<;>kernel_rfl
@[go_sem] theorem fl29_2:fldOf Tryz.prog 29 2=some (2,1,false)∧offOf Tryz.prog 29 2=some 2∧fldOf Tryz.prog 29 3=some (3,1,false)∧offOf Tryz.prog 29 3=some 3∧fldOf Tryz.prog 29 4=some (4,1,false)∧offOf Tryz.prog 29 4=some 4∧fldOf Tryz.prog 29 5=some (5,1,false)∧offOf Tryz.prog 29 5=some 5∧fldOf Tryz.prog 29 6=some (6,1,false)∧offOf Tryz.prog 29 6=some 6∧szOf Tryz.prog 32=1∧aggOf Tryz.prog 32=some false:=by and_intros<;>kernel_rfl
@[go_sem] theorem us32:(Tryz.prog.underlying 32).isSome=true∧zeroOf Tryz.prog 32=some [Value.slice none 0 0]∧strOf Tryz.prog 32=false∧byOf Tryz.prog 32=24∧slOf Tryz.prog 32=some (47,13)∧paOf Tryz.prog 32=none:=by and_intros<;>kernel_rfl
@[go_sem] theorem sz33:szOf Tryz.prog 33=1:=by kernel_rfl
@[go_sem] theorem ag33:aggOf Tryz.prog 33=some false∧(Tryz.prog.underlying 33).isSome=true∧zeroOf Tryz.prog 33=some [Value.slice none 0 0]∧strOf Tryz.prog 33=false∧byOf Tryz.prog 33=24:=by and_intros<;>kernel_rfl
@[go_sem] theorem sl33:slOf Tryz.prog 33=some (3,1):=by kernel_rfl
@[go_sem] theorem pa33:paOf Tryz.prog 33=none∧szOf Tryz.prog 34=9∧aggOf Tryz.prog 34=some true∧(Tryz.prog.underlying 34).isSome=true:=by and_intros<;>kernel_rfl
@[go_sem] theorem zr34:zeroOf Tryz.prog 34=some [Value.string ⟨#[]⟩,Value.slice none 0 0,Value.slice none 0 0,Value.slice none 0 0,Value.slice none 0 0,Value.slice none 0 0,Value.slice none 0 0,Value.slice none 0 0,Value.slice none 0 0]:=by kernel_rfl
@[go_sem] theorem st34:strOf Tryz.prog 34=false∧byOf Tryz.prog 34=208∧slOf Tryz.prog 34=none∧paOf Tryz.prog 34=none∧plOf Tryz.prog 34=some [(0,7),(7,1),(8,1)]∧fldOf Tryz.prog 34 0=some (0,7,true)∧offOf Tryz.prog 34 0=some 0∧fldOf Tryz.prog 34 1=some (7,1,false)∧offOf Tryz.prog 34 1=some 7∧fldOf Tryz.prog 34 2=some (8,1,false)∧offOf Tryz.prog 34 2=some 8∧szOf Tryz.prog 35=9:=by and_intros<;>kernel_rfl
@[go_sem] theorem ag35:aggOf Tryz.prog 35=some true∧(Tryz.prog.underlying 35).isSome=true:=by and_intros<;>kernel_rfl
@[go_sem] theorem zr35:zeroOf Tryz.prog 35=some [Value.string ⟨#[]⟩,Value.slice none 0 0,Value.slice none 0 0,Value.slice none 0 0,Value.slice none 0 0,Value.slice none 0 0,Value.slice none 0 0,Value.slice none 0 0,Value.slice none 0 0]:=by kernel_rfl
@[go_sem] theorem st35:strOf Tryz.prog 35=false∧byOf Tryz.prog 35=208∧slOf Tryz.prog 35=none∧paOf Tryz.prog 35=none∧plOf Tryz.prog 35=some [(0,7),(7,1),(8,1)]∧fldOf Tryz.prog 35 0=some (0,7,true)∧offOf Tryz.prog 35 0=some 0∧fldOf Tryz.prog 35 1=some (7,1,false)∧offOf Tryz.prog 35 1=some 7∧fldOf Tryz.prog 35 2=some (8,1,false)∧offOf Tryz.prog 35 2=some 8∧szOf Tryz.prog 36=1:=by and_intros<;>kernel_rfl
@[go_sem] theorem ag36:aggOf Tryz.prog 36=some false∧(Tryz.prog.underlying 36).isSome=true∧zeroOf Tryz.prog 36=some [Value.int .i64 0]∧strOf Tryz.prog 36=false∧byOf Tryz.prog 36=8∧slOf Tryz.prog 36=none∧paOf Tryz.prog 36=none:=by and_intros<;>kernel_rfl
@[go_sem] theorem ki36:kiOf Tryz.prog 36=some .i64:=by kernel_rfl
@[go_sem] theorem sz40:szOf Tryz.prog 40=5∧aggOf Tryz.prog 40=some true∧(Tryz.prog.underlying 40).isSome=true∧zeroOf Tryz.prog 40=some [Value.int .i64 0,Value.int .i64 0,Value.int .i64 0,Value.int .i64 0,Value.int .i64 0]∧strOf Tryz.prog 40=false∧byOf Tryz.prog 40=40∧slOf Tryz.prog 40=none∧paOf Tryz.prog 40=none∧plOf Tryz.prog 40=some [(0,1),(1,1),(2,1),(3,1),(4,1)]∧fldOf Tryz.prog 40 0=some (0,1,false)∧offOf Tryz.prog 40 0=some 0∧fldOf Tryz.prog 40 1=some (1,1,false):=by and_intros<;>kernel_rfl
@[go_sem] theorem of40_1:offOf Tryz.prog 40 1=some 1∧fldOf Tryz.prog 40 2=some (2,1,false)∧offOf Tryz.prog 40 2=some 2∧fldOf Tryz.prog 40 3=some (3,1,false)∧offOf Tryz.prog 40 3=some 3∧fldOf Tryz.prog 40 4=some (4,1,false)∧offOf Tryz.prog 40 4=some 4∧szOf Tryz.prog 41=5:=by and_intros<;>kernel_rfl
@[go_sem] theorem ag41:aggOf Tryz.prog 41=some true:=by kernel_rfl
@[go_sem] theorem us41:(Tryz.prog.underlying 41).isSome=true∧zeroOf Tryz.prog 41=some [Value.int .i64 0,Value.int .i64 0,Value.int .i64 0,Value.int .i64 0,Value.int .i64 0]∧strOf Tryz.prog 41=false∧byOf Tryz.prog 41=40∧slOf Tryz.prog 41=none∧paOf Tryz.prog 41=none∧plOf Tryz.prog 41=some [(0,1),(1,1),(2,1),(3,1),(4,1)]∧fldOf Tryz.prog 41 0=some (0,1,false)∧offOf Tryz.prog 41 0=some 0∧fldOf Tryz.prog 41 1=some (1,1,false)∧offOf Tryz.prog 41 1=some 1∧fldOf Tryz.prog 41 2=some (2,1,false):=by and_intros<;>kernel_rfl
@[go_sem] theorem of41_2:offOf Tryz.prog 41 2=some 2∧fldOf Tryz.prog 41 3=some (3,1,false)∧offOf Tryz.prog 41 3=some 3∧fldOf Tryz.prog 41 4=some (4,1,false)∧offOf Tryz.prog 41 4=some 4∧szOf Tryz.prog 42=10∧aggOf Tryz.prog 42=some true∧(Tryz.prog.underlying 42).isSome=true:=by and_intros<;>kernel_rfl
@[go_sem] theorem zr42:zeroOf Tryz.prog 42=some [Value.int .i64 0,Value.bool false,Value.int .i64 0,Value.int .i64 0,Value.int .i64 0,Value.int .i64 0,Value.int .i64 0,Value.int .i64 0,Value.int .i64 0,Value.int .i64 0]:=by kernel_rfl
@[go_sem] theorem st42:strOf Tryz.prog 42=false∧byOf Tryz.prog 42=80∧slOf Tryz.prog 42=none∧paOf Tryz.prog 42=none∧plOf Tryz.prog 42=some [(0,1),(1,1),(2,1),(3,1),(4,1),(5,5)]∧fldOf Tryz.prog 42 0=some (0,1,false)∧offOf Tryz.prog 42 0=some 0∧fldOf Tryz.prog 42 1=some (1,1,false)∧offOf Tryz.prog 42 1=some 1∧fldOf Tryz.prog 42 2=some (2,1,false)∧offOf Tryz.prog 42 2=some 2∧fldOf Tryz.prog 42 3=some (3,1,false):=by and_intros<;>kernel_rfl
@[go_sem] theorem of42_3:offOf Tryz.prog 42 3=some 3∧fldOf Tryz.prog 42 4=some (4,1,false)∧offOf Tryz.prog 42 4=some 4∧fldOf Tryz.prog 42 5=some (5,5,true)∧offOf Tryz.prog 42 5=some 5∧szOf Tryz.prog 43=10:=by and_intros<;>kernel_rfl
@[go_sem] theorem ag43:aggOf Tryz.prog 43=some true:=by kernel_rfl
@[go_sem] theorem us43:(Tryz.prog.underlying 43).isSome=true:=by kernel_rfl
@[go_sem] theorem zr43:zeroOf Tryz.prog 43=some [Value.int .i64 0,Value.bool false,Value.int .i64 0,Value.int .i64 0,Value.int .i64 0,Value.int .i64 0,Value.int .i64 0,Value.int .i64 0,Value.int .i64 0,Value.int .i64 0]:=by kernel_rfl
@[go_sem] theorem st43:strOf Tryz.prog 43=false∧byOf Tryz.prog 43=80∧slOf Tryz.prog 43=none∧paOf Tryz.prog 43=none∧plOf Tryz.prog 43=some [(0,1),(1,1),(2,1),(3,1),(4,1),(5,5)]∧fldOf Tryz.prog 43 0=some (0,1,false)∧offOf Tryz.prog 43 0=some 0∧fldOf Tryz.prog 43 1=some (1,1,false)∧offOf Tryz.prog 43 1=some 1∧fldOf Tryz.prog 43 2=some (2,1,false)∧offOf Tryz.prog 43 2=some 2∧fldOf Tryz.prog 43 3=some (3,1,false):=by and_intros<;>kernel_rfl
@[go_sem] theorem of43_3:offOf Tryz.prog 43 3=some 3∧fldOf Tryz.prog 43 4=some (4,1,false)∧offOf Tryz.prog 43 4=some 4∧fldOf Tryz.prog 43 5=some (5,5,true)∧offOf Tryz.prog 43 5=some 5∧szOf Tryz.prog 44=2∧aggOf Tryz.prog 44=some true∧(Tryz.prog.underlying 44).isSome=true∧zeroOf Tryz.prog 44=some [Value.int .i64 0,Value.int .i64 0]∧strOf Tryz.prog 44=false∧byOf Tryz.prog 44=16∧slOf Tryz.prog 44=none:=by and_intros<;>kernel_rfl
@[go_sem] theorem pa44:paOf Tryz.prog 44=none∧plOf Tryz.prog 44=some [(0,1),(1,1)]∧fldOf Tryz.prog 44 0=some (0,1,false)∧offOf Tryz.prog 44 0=some 0∧fldOf Tryz.prog 44 1=some (1,1,false)∧offOf Tryz.prog 44 1=some 1∧szOf Tryz.prog 45=2:=by and_intros<;>kernel_rfl
@[go_sem] theorem ag45:aggOf Tryz.prog 45=some true:=by kernel_rfl
@[go_sem] theorem us45:(Tryz.prog.underlying 45).isSome=true∧zeroOf Tryz.prog 45=some [Value.int .i64 0,Value.int .i64 0]∧strOf Tryz.prog 45=false∧byOf Tryz.prog 45=16∧slOf Tryz.prog 45=none∧paOf Tryz.prog 45=none∧plOf Tryz.prog 45=some [(0,1),(1,1)]∧fldOf Tryz.prog 45 0=some (0,1,false)∧offOf Tryz.prog 45 0=some 0∧fldOf Tryz.prog 45 1=some (1,1,false)∧offOf Tryz.prog 45 1=some 1∧szOf Tryz.prog 46=13:=by and_intros<;>kernel_rfl
@[go_sem] theorem ag46:aggOf Tryz.prog 46=some true∧(Tryz.prog.underlying 46).isSome=true:=by and_intros<;>kernel_rfl
@[go_sem] theorem zr46:zeroOf Tryz.prog 46=some [Value.string ⟨#[]⟩,Value.int .i64 0,Value.bool false,Value.int .i64 0,Value.int .i64 0,Value.int .i64 0,Value.int .i64 0,Value.int .i64 0,Value.int .i64 0,Value.int .i64 0,Value.int .i64 0,Value.int .i64 0,Value.int .i64 0]:=by kernel_rfl
@[go_sem] theorem st46:strOf Tryz.prog 46=false∧byOf Tryz.prog 46=112∧slOf Tryz.prog 46=none∧paOf Tryz.prog 46=none∧plOf Tryz.prog 46=some [(0,1),(1,10),(11,2)]∧fldOf Tryz.prog 46 0=some (0,1,false)∧offOf Tryz.prog 46 0=some 0∧fldOf Tryz.prog 46 1=some (1,10,true)∧offOf Tryz.prog 46 1=some 1∧fldOf Tryz.prog 46 2=some (11,2,true)∧offOf Tryz.prog 46 2=some 11∧szOf Tryz.prog 47=13:=by and_intros<;>kernel_rfl
@[go_sem] theorem ag47:aggOf Tryz.prog 47=some true:=by kernel_rfl
@[go_sem] theorem us47:(Tryz.prog.underlying 47).isSome=true:=by kernel_rfl
@[go_sem] theorem zr47:zeroOf Tryz.prog 47=some [Value.string ⟨#[]⟩,Value.int .i64 0,Value.bool false,Value.int .i64 0,Value.int .i64 0,Value.int .i64 0,Value.int .i64 0,Value.int .i64 0,Value.int .i64 0,Value.int .i64 0,Value.int .i64 0,Value.int .i64 0,Value.int .i64 0]:=by kernel_rfl
@[go_sem] theorem st47:strOf Tryz.prog 47=false∧byOf Tryz.prog 47=112∧slOf Tryz.prog 47=none∧paOf Tryz.prog 47=none∧plOf Tryz.prog 47=some [(0,1),(1,10),(11,2)]∧fldOf Tryz.prog 47 0=some (0,1,false)∧offOf Tryz.prog 47 0=some 0∧fldOf Tryz.prog 47 1=some (1,10,true)∧offOf Tryz.prog 47 1=some 1∧fldOf Tryz.prog 47 2=some (11,2,true)∧offOf Tryz.prog 47 2=some 11∧szOf Tryz.prog 50=4:=by and_intros<;>kernel_rfl
@[go_sem] theorem ag50:aggOf Tryz.prog 50=some true∧(Tryz.prog.underlying 50).isSome=true∧zeroOf Tryz.prog 50=some [Value.string ⟨#[]⟩,Value.string ⟨#[]⟩,Value.int .i64 0,Value.int .i64 0]∧strOf Tryz.prog 50=false∧byOf Tryz.prog 50=48∧slOf Tryz.prog 50=none∧paOf Tryz.prog 50=none∧plOf Tryz.prog 50=some [(0,1),(1,1),(2,1),(3,1)]∧fldOf Tryz.prog 50 0=some (0,1,false)∧offOf Tryz.prog 50 0=some 0∧fldOf Tryz.prog 50 1=some (1,1,false)∧offOf Tryz.prog 50 1=some 1:=by and_intros<;>kernel_rfl
@[go_sem] theorem fl50_2:fldOf Tryz.prog 50 2=some (2,1,false)∧offOf Tryz.prog 50 2=some 2∧fldOf Tryz.prog 50 3=some (3,1,false)∧offOf Tryz.prog 50 3=some 3:=by and_intros<;>kernel_rfl
@[go_sem] theorem sz51:szOf Tryz.prog 51=4:=by kernel_rfl
@[go_sem] theorem ag51:aggOf Tryz.prog 51=some true:=by kernel_rfl
@[go_sem] theorem us51:(Tryz.prog.underlying 51).isSome=true∧zeroOf Tryz.prog 51=some [Value.string ⟨#[]⟩,Value.string ⟨#[]⟩,Value.int .i64 0,Value.int .i64 0]∧strOf Tryz.prog 51=false∧byOf Tryz.prog 51=48∧slOf Tryz.prog 51=none∧paOf Tryz.prog 51=none∧plOf Tryz.prog 51=some [(0,1),(1,1),(2,1),(3,1)]∧fldOf Tryz.prog 51 0=some (0,1,false)∧offOf Tryz.prog 51 0=some 0∧fldOf Tryz.prog 51 1=some (1,1,false)∧offOf Tryz.prog 51 1=some 1∧fldOf Tryz.prog 51 2=some (2,1,false):=by and_intros<;>kernel_rfl
@[go_sem] theorem of51_2:offOf Tryz.prog 51 2=some 2∧fldOf Tryz.prog 51 3=some (3,1,false)∧offOf Tryz.prog 51 3=some 3∧szOf Tryz.prog 52=6∧aggOf Tryz.prog 52=some true∧(Tryz.prog.underlying 52).isSome=true∧zeroOf Tryz.prog 52=some [Value.string ⟨#[]⟩,Value.string ⟨#[]⟩,Value.string ⟨#[]⟩,Value.slice none 0 0,Value.string ⟨#[]⟩,Value.slice none 0 0]∧strOf Tryz.prog 52=false∧byOf Tryz.prog 52=112∧slOf Tryz.prog 52=none∧paOf Tryz.prog 52=none∧plOf Tryz.prog 52=some [(0,1),(1,1),(2,1),(3,1),(4,1),(5,1)]:=by and_intros<;>kernel_rfl
@[go_sem] theorem fl52_0:fldOf Tryz.prog 52 0=some (0,1,false)∧offOf Tryz.prog 52 0=some 0∧fldOf Tryz.prog 52 1=some (1,1,false)∧offOf Tryz.prog 52 1=some 1∧fldOf Tryz.prog 52 2=some (2,1,false)∧offOf Tryz.prog 52 2=some 2∧fldOf Tryz.prog 52 3=some (3,1,false)∧offOf Tryz.prog 52 3=some 3∧fldOf Tryz.prog 52 4=some (4,1,false)∧offOf Tryz.prog 52 4=some 4∧fldOf Tryz.prog 52 5=some (5,1,false)∧offOf Tryz.prog 52 5=some 5:=by and_intros<;>kernel_rfl
@[go_sem] theorem sz53:szOf Tryz.prog 53=6:=by kernel_rfl
@[go_sem] theorem ag53:aggOf Tryz.prog 53=some true∧(Tryz.prog.underlying 53).isSome=true∧zeroOf Tryz.prog 53=some [Value.string ⟨#[]⟩,Value.string ⟨#[]⟩,Value.string ⟨#[]⟩,Value.slice none 0 0,Value.string ⟨#[]⟩,Value.slice none 0 0]∧strOf Tryz.prog 53=false∧byOf Tryz.prog 53=112∧slOf Tryz.prog 53=none∧paOf Tryz.prog 53=none∧plOf Tryz.prog 53=some [(0,1),(1,1),(2,1),(3,1),(4,1),(5,1)]∧fldOf Tryz.prog 53 0=some (0,1,false)∧offOf Tryz.prog 53 0=some 0∧fldOf Tryz.prog 53 1=some (1,1,false)∧offOf Tryz.prog 53 1=some 1:=by and_intros<;>kernel_rfl
@[go_sem] theorem fl53_2:fldOf Tryz.prog 53 2=some (2,1,false)∧offOf Tryz.prog 53 2=some 2∧fldOf Tryz.prog 53 3=some (3,1,false)∧offOf Tryz.prog 53 3=some 3∧fldOf Tryz.prog 53 4=some (4,1,false)∧offOf Tryz.prog 53 4=some 4∧fldOf Tryz.prog 53 5=some (5,1,false)∧offOf Tryz.prog 53 5=some 5:=by and_intros<;>kernel_rfl
@[go_sem] theorem sz54:szOf Tryz.prog 54=1:=by kernel_rfl
@[go_sem] theorem ag54:aggOf Tryz.prog 54=some false:=by kernel_rfl
@[go_sem] theorem us54:(Tryz.prog.underlying 54).isSome=true∧zeroOf Tryz.prog 54=some [Value.int .u16 0]∧strOf Tryz.prog 54=false∧byOf Tryz.prog 54=2∧slOf Tryz.prog 54=none∧paOf Tryz.prog 54=none:=by and_intros<;>kernel_rfl
@[go_sem] theorem ki54:kiOf Tryz.prog 54=some .u16:=by kernel_rfl
@[go_sem] theorem sz56:szOf Tryz.prog 56=1∧aggOf Tryz.prog 56=some false∧(Tryz.prog.underlying 56).isSome=true∧zeroOf Tryz.prog 56=some [Value.nilFunc]∧strOf Tryz.prog 56=false∧byOf Tryz.prog 56=8∧slOf Tryz.prog 56=none∧paOf Tryz.prog 56=none∧szOf Tryz.prog 58=1∧aggOf Tryz.prog 58=some false∧(Tryz.prog.underlying 58).isSome=true∧zeroOf Tryz.prog 58=some [Value.pointer none]:=by and_intros<;>kernel_rfl
@[go_sem] theorem st58:strOf Tryz.prog 58=false∧byOf Tryz.prog 58=8∧slOf Tryz.prog 58=none∧paOf Tryz.prog 58=none:=by and_intros<;>kernel_rfl
@[go_sem] theorem pt58:ptOf Tryz.prog 58=some 51:=by kernel_rfl
@[go_sem] theorem sz67:szOf Tryz.prog 67=1∧aggOf Tryz.prog 67=some false∧(Tryz.prog.underlying 67).isSome=true∧zeroOf Tryz.prog 67=some [Value.map none]∧strOf Tryz.prog 67=false∧byOf Tryz.prog 67=8∧slOf Tryz.prog 67=none∧paOf Tryz.prog 67=none∧szOf Tryz.prog 68=1∧aggOf Tryz.prog 68=some false∧(Tryz.prog.underlying 68).isSome=true∧zeroOf Tryz.prog 68=some [Value.nilFunc]:=by and_intros<;>kernel_rfl
@[go_sem] theorem st68:strOf Tryz.prog 68=false∧byOf Tryz.prog 68=8∧slOf Tryz.prog 68=none∧paOf Tryz.prog 68=none∧szOf Tryz.prog 77=11∧aggOf Tryz.prog 77=some true∧(Tryz.prog.underlying 77).isSome=true:=by and_intros<;>kernel_rfl
@[go_sem] theorem zr77:zeroOf Tryz.prog 77=some [Value.string ⟨#[]⟩,Value.int .i64 0,Value.bool false,Value.int .i64 0,Value.int .i64 0,Value.int .i64 0,Value.int .i64 0,Value.int .i64 0,Value.int .i64 0,Value.int .i64 0,Value.int .i64 0]:=by kernel_rfl
@[go_sem] theorem st77:strOf Tryz.prog 77=false∧byOf Tryz.prog 77=96∧slOf Tryz.prog 77=none∧paOf Tryz.prog 77=none∧plOf Tryz.prog 77=some [(0,1),(1,10)]∧fldOf Tryz.prog 77 0=some (0,1,false)∧offOf Tryz.prog 77 0=some 0∧fldOf Tryz.prog 77 1=some (1,10,true)∧offOf Tryz.prog 77 1=some 1:=by and_intros<;>kernel_rfl
@[go_sem] theorem sz78:szOf Tryz.prog 78=11:=by kernel_rfl
@[go_sem] theorem ag78:aggOf Tryz.prog 78=some true:=by kernel_rfl
@[go_sem] theorem us78:(Tryz.prog.underlying 78).isSome=true:=by kernel_rfl
@[go_sem] theorem zr78:zeroOf Tryz.prog 78=some [Value.string ⟨#[]⟩,Value.int .i64 0,Value.bool false,Value.int .i64 0,Value.int .i64 0,Value.int .i64 0,Value.int .i64 0,Value.int .i64 0,Value.int .i64 0,Value.int .i64 0,Value.int .i64 0]:=by kernel_rfl
@[go_sem] theorem st78:strOf Tryz.prog 78=false∧byOf Tryz.prog 78=96∧slOf Tryz.prog 78=none∧paOf Tryz.prog 78=none∧plOf Tryz.prog 78=some [(0,1),(1,10)]∧fldOf Tryz.prog 78 0=some (0,1,false)∧offOf Tryz.prog 78 0=some 0∧fldOf Tryz.prog 78 1=some (1,10,true)∧offOf Tryz.prog 78 1=some 1∧szOf Tryz.prog 79=1∧aggOf Tryz.prog 79=some false∧(Tryz.prog.underlying 79).isSome=true:=by and_intros<;>kernel_rfl
@[go_sem] theorem zr79:zeroOf Tryz.prog 79=some [Value.nilFunc]∧strOf Tryz.prog 79=false∧byOf Tryz.prog 79=8∧slOf Tryz.prog 79=none∧paOf Tryz.prog 79=none∧szOf Tryz.prog 81=2∧aggOf Tryz.prog 81=some true∧(Tryz.prog.underlying 81).isSome=true∧zeroOf Tryz.prog 81=some [Value.slice none 0 0,Value.slice none 0 0]∧strOf Tryz.prog 81=false∧byOf Tryz.prog 81=48∧slOf Tryz.prog 81=none:=by and_intros<;>kernel_rfl
@[go_sem] theorem pa81:paOf Tryz.prog 81=none∧plOf Tryz.prog 81=some [(0,1),(1,1)]∧fldOf Tryz.prog 81 0=some (0,1,false)∧offOf Tryz.prog 81 0=some 0∧fldOf Tryz.prog 81 1=some (1,1,false)∧offOf Tryz.prog 81 1=some 1∧szOf Tryz.prog 82=2∧aggOf Tryz.prog 82=some true∧(Tryz.prog.underlying 82).isSome=true∧zeroOf Tryz.prog 82=some [Value.slice none 0 0,Value.slice none 0 0]∧strOf Tryz.prog 82=false∧byOf Tryz.prog 82=48:=by and_intros<;>kernel_rfl
@[go_sem] theorem sl82:slOf Tryz.prog 82=none∧paOf Tryz.prog 82=none∧plOf Tryz.prog 82=some [(0,1),(1,1)]∧fldOf Tryz.prog 82 0=some (0,1,false)∧offOf Tryz.prog 82 0=some 0∧fldOf Tryz.prog 82 1=some (1,1,false)∧offOf Tryz.prog 82 1=some 1∧szOf Tryz.prog 83=3∧aggOf Tryz.prog 83=some true∧(Tryz.prog.underlying 83).isSome=true∧zeroOf Tryz.prog 83=some [Value.string ⟨#[]⟩,Value.slice none 0 0,Value.slice none 0 0]∧strOf Tryz.prog 83=false:=by and_intros<;>kernel_rfl
@[go_sem] theorem by83:byOf Tryz.prog 83=64∧slOf Tryz.prog 83=none∧paOf Tryz.prog 83=none∧plOf Tryz.prog 83=some [(0,1),(1,2)]∧fldOf Tryz.prog 83 0=some (0,1,false)∧offOf Tryz.prog 83 0=some 0∧fldOf Tryz.prog 83 1=some (1,2,true)∧offOf Tryz.prog 83 1=some 1:=by and_intros<;>kernel_rfl
@[go_sem] theorem sz84:szOf Tryz.prog 84=3:=by kernel_rfl
@[go_sem] theorem ag84:aggOf Tryz.prog 84=some true∧(Tryz.prog.underlying 84).isSome=true∧zeroOf Tryz.prog 84=some [Value.string ⟨#[]⟩,Value.slice none 0 0,Value.slice none 0 0]∧strOf Tryz.prog 84=false∧byOf Tryz.prog 84=64∧slOf Tryz.prog 84=none∧paOf Tryz.prog 84=none∧plOf Tryz.prog 84=some [(0,1),(1,2)]∧fldOf Tryz.prog 84 0=some (0,1,false)∧offOf Tryz.prog 84 0=some 0∧fldOf Tryz.prog 84 1=some (1,2,true)∧offOf Tryz.prog 84 1=some 1:=by and_intros<;>kernel_rfl
@[go_sem] theorem sz85:szOf Tryz.prog 85=1∧aggOf Tryz.prog 85=some false∧(Tryz.prog.underlying 85).isSome=true∧zeroOf Tryz.prog 85=some [Value.nilFunc]∧strOf Tryz.prog 85=false∧byOf Tryz.prog 85=8∧slOf Tryz.prog 85=none∧paOf Tryz.prog 85=none∧szOf Tryz.prog 87=1∧aggOf Tryz.prog 87=some false∧(Tryz.prog.underlying 87).isSome=true∧zeroOf Tryz.prog 87=some [Value.slice none 0 0]:=by and_intros<;>kernel_rfl
@[go_sem] theorem st87:strOf Tryz.prog 87=false∧byOf Tryz.prog 87=24:=by and_intros<;>kernel_rfl
@[go_sem] theorem sl87:slOf Tryz.prog 87=some (33,1):=by kernel_rfl
@[go_sem] theorem pa87:paOf Tryz.prog 87=none∧szOf Tryz.prog 88=3∧aggOf Tryz.prog 88=some true∧(Tryz.prog.underlying 88).isSome=true∧zeroOf Tryz.prog 88=some [Value.slice none 0 0,Value.slice none 0 0,Value.slice none 0 0]∧strOf Tryz.prog 88=false∧byOf Tryz.prog 88=72∧slOf Tryz.prog 88=none∧paOf Tryz.prog 88=none∧plOf Tryz.prog 88=some [(0,1),(1,1),(2,1)]∧fldOf Tryz.prog 88 0=some (0,1,false)∧offOf Tryz.prog 88 0=some 0:=by and_intros<;>kernel_rfl
@[go_sem] theorem fl88_1:fldOf Tryz.prog 88 1=some (1,1,false)∧offOf Tryz.prog 88 1=some 1∧fldOf Tryz.prog 88 2=some (2,1,false)∧offOf Tryz.prog 88 2=some 2∧szOf Tryz.prog 89=3∧aggOf Tryz.prog 89=some true∧(Tryz.prog.underlying 89).isSome=true∧zeroOf Tryz.prog 89=some [Value.slice none 0 0,Value.slice none 0 0,Value.slice none 0 0]∧strOf Tryz.prog 89=false∧byOf Tryz.prog 89=72∧slOf Tryz.prog 89=none∧paOf Tryz.prog 89=none:=by and_intros<;>kernel_rfl
@[go_sem] theorem pl89:plOf Tryz.prog 89=some [(0,1),(1,1),(2,1)]∧fldOf Tryz.prog 89 0=some (0,1,false)∧offOf Tryz.prog 89 0=some 0∧fldOf Tryz.prog 89 1=some (1,1,false)∧offOf Tryz.prog 89 1=some 1∧fldOf Tryz.prog 89 2=some (2,1,false)∧offOf Tryz.prog 89 2=some 2∧szOf Tryz.prog 90=4∧aggOf Tryz.prog 90=some true∧(Tryz.prog.underlying 90).isSome=true∧zeroOf Tryz.prog 90=some [Value.string ⟨#[]⟩,Value.slice none 0 0,Value.slice none 0 0,Value.slice none 0 0]∧strOf Tryz.prog 90=false:=by and_intros<;>kernel_rfl
@[go_sem] theorem by90:byOf Tryz.prog 90=88∧slOf Tryz.prog 90=none∧paOf Tryz.prog 90=none∧plOf Tryz.prog 90=some [(0,1),(1,3)]∧fldOf Tryz.prog 90 0=some (0,1,false)∧offOf Tryz.prog 90 0=some 0∧fldOf Tryz.prog 90 1=some (1,3,true)∧offOf Tryz.prog 90 1=some 1:=by and_intros<;>kernel_rfl
@[go_sem] theorem sz91:szOf Tryz.prog 91=4:=by kernel_rfl
@[go_sem] theorem ag91:aggOf Tryz.prog 91=some true∧(Tryz.prog.underlying 91).isSome=true∧zeroOf Tryz.prog 91=some [Value.string ⟨#[]⟩,Value.slice none 0 0,Value.slice none 0 0,Value.slice none 0 0]∧strOf Tryz.prog 91=false∧byOf Tryz.prog 91=88∧slOf Tryz.prog 91=none∧paOf Tryz.prog 91=none∧plOf Tryz.prog 91=some [(0,1),(1,3)]∧fldOf Tryz.prog 91 0=some (0,1,false)∧offOf Tryz.prog 91 0=some 0∧fldOf Tryz.prog 91 1=some (1,3,true)∧offOf Tryz.prog 91 1=some 1:=by and_intros<;>kernel_rfl
@[go_sem] theorem sz92:szOf Tryz.prog 92=1∧aggOf Tryz.prog 92=some false∧(Tryz.prog.underlying 92).isSome=true∧zeroOf Tryz.prog 92=some [Value.nilFunc]∧strOf Tryz.prog 92=false∧byOf Tryz.prog 92=8∧slOf Tryz.prog 92=none∧paOf Tryz.prog 92=none∧szOf Tryz.prog 97=1∧aggOf Tryz.prog 97=some false∧(Tryz.prog.underlying 97).isSome=true∧zeroOf Tryz.prog 97=some [Value.pointer none]:=by and_intros<;>kernel_rfl
@[go_sem] theorem st97:strOf Tryz.prog 97=false∧byOf Tryz.prog 97=8∧slOf Tryz.prog 97=none∧paOf Tryz.prog 97=none:=by and_intros<;>kernel_rfl
@[go_sem] theorem pt97:ptOf Tryz.prog 97=some 147:=by kernel_rfl
@[go_sem] theorem sz100:szOf Tryz.prog 100=1∧aggOf Tryz.prog 100=some false∧(Tryz.prog.underlying 100).isSome=true∧zeroOf Tryz.prog 100=some [Value.nilFunc]∧strOf Tryz.prog 100=false∧byOf Tryz.prog 100=8∧slOf Tryz.prog 100=none∧paOf Tryz.prog 100=none∧szOf Tryz.prog 104=1∧aggOf Tryz.prog 104=some false∧(Tryz.prog.underlying 104).isSome=true∧zeroOf Tryz.prog 104=some [Value.slice none 0 0]:=by and_intros<;>kernel_rfl
@[go_sem] theorem st104:strOf Tryz.prog 104=false∧byOf Tryz.prog 104=24∧slOf Tryz.prog 104=some (45,2)∧paOf Tryz.prog 104=none:=by and_intros<;>kernel_rfl
@[go_sem] theorem pt129:ptOf Tryz.prog 129=some 9:=by kernel_rfl
@[go_sem] theorem sz133:szOf Tryz.prog 133=1∧aggOf Tryz.prog 133=some false∧(Tryz.prog.underlying 133).isSome=true∧zeroOf Tryz.prog 133=some [Value.pointer none]∧strOf Tryz.prog 133=false∧byOf Tryz.prog 133=8∧slOf Tryz.prog 133=none∧paOf Tryz.prog 133=none:=by and_intros<;>kernel_rfl
@[go_sem] theorem pt133:ptOf Tryz.prog 133=some 53:=by kernel_rfl
@[go_sem] theorem sz140:szOf Tryz.prog 140=1∧aggOf Tryz.prog 140=some false∧(Tryz.prog.underlying 140).isSome=true∧zeroOf Tryz.prog 140=some [Value.nilFunc]∧strOf Tryz.prog 140=false∧byOf Tryz.prog 140=8∧slOf Tryz.prog 140=none∧paOf Tryz.prog 140=none∧szOf Tryz.prog 142=1∧aggOf Tryz.prog 142=some false∧(Tryz.prog.underlying 142).isSome=true∧zeroOf Tryz.prog 142=some [Value.map none]:=by and_intros<;>kernel_rfl
@[go_sem] theorem st142:strOf Tryz.prog 142=false∧byOf Tryz.prog 142=8∧slOf Tryz.prog 142=none∧paOf Tryz.prog 142=none∧szOf Tryz.prog 143=1∧aggOf Tryz.prog 143=some false∧(Tryz.prog.underlying 143).isSome=true∧zeroOf Tryz.prog 143=some [Value.map none]∧strOf Tryz.prog 143=false∧byOf Tryz.prog 143=8∧slOf Tryz.prog 143=none∧paOf Tryz.prog 143=none:=by and_intros<;>kernel_rfl
@[go_sem] theorem sz144:szOf Tryz.prog 144=1∧aggOf Tryz.prog 144=some false∧(Tryz.prog.underlying 144).isSome=true∧zeroOf Tryz.prog 144=some [Value.map none]∧strOf Tryz.prog 144=false∧byOf Tryz.prog 144=8∧slOf Tryz.prog 144=none∧paOf Tryz.prog 144=none∧szOf Tryz.prog 145=1∧aggOf Tryz.prog 145=some false∧(Tryz.prog.underlying 145).isSome=true∧zeroOf Tryz.prog 145=some [Value.map none]:=by and_intros<;>kernel_rfl
@[go_sem] theorem st145:strOf Tryz.prog 145=false∧byOf Tryz.prog 145=8∧slOf Tryz.prog 145=none∧paOf Tryz.prog 145=none∧szOf Tryz.prog 146=11∧aggOf Tryz.prog 146=some true∧(Tryz.prog.underlying 146).isSome=true:=by and_intros<;>kernel_rfl
@[go_sem] theorem zr146:zeroOf Tryz.prog 146=some [Value.string ⟨#[]⟩,Value.slice none 0 0,Value.slice none 0 0,Value.slice none 0 0,Value.slice none 0 0,Value.slice none 0 0,Value.slice none 0 0,Value.map none,Value.map none,Value.map none,Value.map none]:=by kernel_rfl
@[go_sem] theorem st146:strOf Tryz.prog 146=false∧byOf Tryz.prog 146=192∧slOf Tryz.prog 146=none∧paOf Tryz.prog 146=none∧plOf Tryz.prog 146=some [(0,7),(7,1),(8,1),(9,1),(10,1)]∧fldOf Tryz.prog 146 0=some (0,7,true)∧offOf Tryz.prog 146 0=some 0∧fldOf Tryz.prog 146 1=some (7,1,false)∧offOf Tryz.prog 146 1=some 7∧fldOf Tryz.prog 146 2=some (8,1,false)∧offOf Tryz.prog 146 2=some 8∧fldOf Tryz.prog 146 3=some (9,1,false):=by and_intros<;>kernel_rfl
@[go_sem] theorem of146_3:offOf Tryz.prog 146 3=some 9∧fldOf Tryz.prog 146 4=some (10,1,false)∧offOf Tryz.prog 146 4=some 10∧szOf Tryz.prog 147=11∧aggOf Tryz.prog 147=some true∧(Tryz.prog.underlying 147).isSome=true:=by and_intros<;>kernel_rfl
@[go_sem] theorem zr147:zeroOf Tryz.prog 147=some [Value.string ⟨#[]⟩,Value.slice none 0 0,Value.slice none 0 0,Value.slice none 0 0,Value.slice none 0 0,Value.slice none 0 0,Value.slice none 0 0,Value.map none,Value.map none,Value.map none,Value.map none]:=by kernel_rfl
@[go_sem] theorem st147:strOf Tryz.prog 147=false∧byOf Tryz.prog 147=192∧slOf Tryz.prog 147=none∧paOf Tryz.prog 147=none∧plOf Tryz.prog 147=some [(0,7),(7,1),(8,1),(9,1),(10,1)]∧fldOf Tryz.prog 147 0=some (0,7,true)∧offOf Tryz.prog 147 0=some 0∧fldOf Tryz.prog 147 1=some (7,1,false)∧offOf Tryz.prog 147 1=some 7∧fldOf Tryz.prog 147 2=some (8,1,false)∧offOf Tryz.prog 147 2=some 8∧fldOf Tryz.prog 147 3=some (9,1,false):=by and_intros<;>kernel_rfl
@[go_sem] theorem of147_3:offOf Tryz.prog 147 3=some 9∧fldOf Tryz.prog 147 4=some (10,1,false)∧offOf Tryz.prog 147 4=some 10∧szOf Tryz.prog 148=1∧aggOf Tryz.prog 148=some false∧(Tryz.prog.underlying 148).isSome=true∧zeroOf Tryz.prog 148=some [Value.nilFunc]∧strOf Tryz.prog 148=false∧byOf Tryz.prog 148=8∧slOf Tryz.prog 148=none∧paOf Tryz.prog 148=none∧szOf Tryz.prog 149=1:=by and_intros<;>kernel_rfl
@[go_sem] theorem ag149:aggOf Tryz.prog 149=some false∧(Tryz.prog.underlying 149).isSome=true∧zeroOf Tryz.prog 149=some [Value.nilFunc]∧strOf Tryz.prog 149=false∧byOf Tryz.prog 149=8∧slOf Tryz.prog 149=none∧paOf Tryz.prog 149=none∧szOf Tryz.prog 151=1∧aggOf Tryz.prog 151=some false∧(Tryz.prog.underlying 151).isSome=true∧zeroOf Tryz.prog 151=some [Value.nilFunc]∧strOf Tryz.prog 151=false:=by and_intros<;>kernel_rfl
@[go_sem] theorem by151:byOf Tryz.prog 151=8∧slOf Tryz.prog 151=none∧paOf Tryz.prog 151=none∧szOf Tryz.prog 152=1∧aggOf Tryz.prog 152=some false∧(Tryz.prog.underlying 152).isSome=true∧zeroOf Tryz.prog 152=some [Value.nilFunc]∧strOf Tryz.prog 152=false∧byOf Tryz.prog 152=8∧slOf Tryz.prog 152=none∧paOf Tryz.prog 152=none∧szOf Tryz.prog 154=1:=by and_intros<;>kernel_rfl
@[go_sem] theorem ag154:aggOf Tryz.prog 154=some false∧(Tryz.prog.underlying 154).isSome=true∧zeroOf Tryz.prog 154=some [Value.nilFunc]∧strOf Tryz.prog 154=false∧byOf Tryz.prog 154=8∧slOf Tryz.prog 154=none∧paOf Tryz.prog 154=none∧szOf Tryz.prog 155=1∧aggOf Tryz.prog 155=some false∧(Tryz.prog.underlying 155).isSome=true∧zeroOf Tryz.prog 155=some [Value.nilFunc]∧strOf Tryz.prog 155=false:=by and_intros<;>kernel_rfl
@[go_sem] theorem by155:byOf Tryz.prog 155=8∧slOf Tryz.prog 155=none∧paOf Tryz.prog 155=none∧szOf Tryz.prog 157=1∧aggOf Tryz.prog 157=some false∧(Tryz.prog.underlying 157).isSome=true∧zeroOf Tryz.prog 157=some [Value.nilFunc]∧strOf Tryz.prog 157=false∧byOf Tryz.prog 157=8∧slOf Tryz.prog 157=none∧paOf Tryz.prog 157=none∧szOf Tryz.prog 158=1:=by and_intros<;>kernel_rfl
@[go_sem] theorem ag158:aggOf Tryz.prog 158=some false∧(Tryz.prog.underlying 158).isSome=true∧zeroOf Tryz.prog 158=some [Value.nilFunc]∧strOf Tryz.prog 158=false∧byOf Tryz.prog 158=8∧slOf Tryz.prog 158=none∧paOf Tryz.prog 158=none∧szOf Tryz.prog 160=1∧aggOf Tryz.prog 160=some false∧(Tryz.prog.underlying 160).isSome=true∧zeroOf Tryz.prog 160=some [Value.slice none 0 0]∧strOf Tryz.prog 160=false:=by and_intros<;>kernel_rfl
@[go_sem] theorem by160:byOf Tryz.prog 160=24∧slOf Tryz.prog 160=some (100,1)∧paOf Tryz.prog 160=none∧szOf Tryz.prog 161=1∧aggOf Tryz.prog 161=some false∧(Tryz.prog.underlying 161).isSome=true∧zeroOf Tryz.prog 161=some [Value.nilFunc]∧strOf Tryz.prog 161=false∧byOf Tryz.prog 161=8∧slOf Tryz.prog 161=none∧paOf Tryz.prog 161=none∧szOf Tryz.prog 162=1:=by and_intros<;>kernel_rfl
@[go_sem] theorem ag162:aggOf Tryz.prog 162=some false∧(Tryz.prog.underlying 162).isSome=true∧zeroOf Tryz.prog 162=some [Value.slice none 0 0]∧strOf Tryz.prog 162=false∧byOf Tryz.prog 162=24∧slOf Tryz.prog 162=some (4,1)∧paOf Tryz.prog 162=none∧szOf Tryz.prog 170=1∧aggOf Tryz.prog 170=some false∧(Tryz.prog.underlying 170).isSome=true∧zeroOf Tryz.prog 170=some [Value.pointer none]∧strOf Tryz.prog 170=false:=by and_intros<;>kernel_rfl
@[go_sem] theorem by170:byOf Tryz.prog 170=8∧slOf Tryz.prog 170=none∧paOf Tryz.prog 170=none:=by and_intros<;>kernel_rfl
@[go_sem] theorem pt170:ptOf Tryz.prog 170=some 82:=by kernel_rfl
@[go_sem] theorem sz171:szOf Tryz.prog 171=1∧aggOf Tryz.prog 171=some false∧(Tryz.prog.underlying 171).isSome=true∧zeroOf Tryz.prog 171=some [Value.pointer none]∧strOf Tryz.prog 171=false∧byOf Tryz.prog 171=8∧slOf Tryz.prog 171=none∧paOf Tryz.prog 171=none:=by and_intros<;>kernel_rfl
@[go_sem] theorem pt171:ptOf Tryz.prog 171=some 89:=by kernel_rfl
@[go_sem] theorem sz173:szOf Tryz.prog 173=1∧aggOf Tryz.prog 173=some false∧(Tryz.prog.underlying 173).isSome=true∧zeroOf Tryz.prog 173=some [Value.nilFunc]∧strOf Tryz.prog 173=false∧byOf Tryz.prog 173=8∧slOf Tryz.prog 173=none∧paOf Tryz.prog 173=none∧szOf Tryz.prog 182=1∧aggOf Tryz.prog 182=some false∧(Tryz.prog.underlying 182).isSome=true∧zeroOf Tryz.prog 182=some [Value.slice none 0 0]:=by and_intros<;>kernel_rfl
@[go_sem] theorem st182:strOf Tryz.prog 182=false∧byOf Tryz.prog 182=24∧slOf Tryz.prog 182=some (43,10)∧paOf Tryz.prog 182=none∧szOf Tryz.prog 189=1∧aggOf Tryz.prog 189=some false∧(Tryz.prog.underlying 189).isSome=true∧zeroOf Tryz.prog 189=some [Value.nilFunc]∧strOf Tryz.prog 189=false∧byOf Tryz.prog 189=8∧slOf Tryz.prog 189=none∧paOf Tryz.prog 189=none:=by and_intros<;>kernel_rfl
@[go_sem] theorem sz195:szOf Tryz.prog 195=1∧aggOf Tryz.prog 195=some false∧(Tryz.prog.underlying 195).isSome=true∧zeroOf Tryz.prog 195=some [Value.nilFunc]∧strOf Tryz.prog 195=false∧byOf Tryz.prog 195=8∧slOf Tryz.prog 195=none∧paOf Tryz.prog 195=none∧szOf Tryz.prog 196=1∧aggOf Tryz.prog 196=some false∧(Tryz.prog.underlying 196).isSome=true∧zeroOf Tryz.prog 196=some [Value.nilFunc]:=by and_intros<;>kernel_rfl
@[go_sem] theorem st196:strOf Tryz.prog 196=false∧byOf Tryz.prog 196=8∧slOf Tryz.prog 196=none∧paOf Tryz.prog 196=none∧szOf Tryz.prog 197=1∧aggOf Tryz.prog 197=some false∧(Tryz.prog.underlying 197).isSome=true∧zeroOf Tryz.prog 197=some [Value.nilFunc]∧strOf Tryz.prog 197=false∧byOf Tryz.prog 197=8∧slOf Tryz.prog 197=none∧paOf Tryz.prog 197=none:=by and_intros<;>kernel_rfl
@[go_sem] theorem sz198:szOf Tryz.prog 198=1∧aggOf Tryz.prog 198=some false∧(Tryz.prog.underlying 198).isSome=true∧zeroOf Tryz.prog 198=some [Value.nilFunc]∧strOf Tryz.prog 198=false∧byOf Tryz.prog 198=8∧slOf Tryz.prog 198=none∧paOf Tryz.prog 198=none∧szOf Tryz.prog 205=1∧aggOf Tryz.prog 205=some false∧(Tryz.prog.underlying 205).isSome=true∧zeroOf Tryz.prog 205=some [Value.pointer none]:=by and_intros<;>kernel_rfl
@[go_sem] theorem st205:strOf Tryz.prog 205=false∧byOf Tryz.prog 205=8∧slOf Tryz.prog 205=none∧paOf Tryz.prog 205=none:=by and_intros<;>kernel_rfl
@[go_sem] theorem pt205:ptOf Tryz.prog 205=some 3:=by kernel_rfl
@[go_sem] theorem sz206:szOf Tryz.prog 206=5:=by kernel_rfl
@[go_sem] theorem ag206:aggOf Tryz.prog 206=some true∧(Tryz.prog.underlying 206).isSome=true∧zeroOf Tryz.prog 206=some [Value.pointer none,Value.pointer none,Value.pointer none,Value.pointer none,Value.pointer none]∧strOf Tryz.prog 206=false∧byOf Tryz.prog 206=40∧slOf Tryz.prog 206=none∧paOf Tryz.prog 206=some (5,1):=by and_intros<;>kernel_rfl
@[go_sem] theorem ar206:arrOf Tryz.prog 206=some 5:=by kernel_rfl
@[go_sem] theorem pl206:plOf Tryz.prog 206=some [(0,1),(1,1),(2,1),(3,1),(4,1)]∧szOf Tryz.prog 208=1∧aggOf Tryz.prog 208=some false∧(Tryz.prog.underlying 208).isSome=true∧zeroOf Tryz.prog 208=some [Value.pointer none]∧strOf Tryz.prog 208=false∧byOf Tryz.prog 208=8∧slOf Tryz.prog 208=none∧paOf Tryz.prog 208=none:=by and_intros<;>kernel_rfl
@[go_sem] theorem pt208:ptOf Tryz.prog 208=some 41:=by kernel_rfl
@[go_sem] theorem sz213:szOf Tryz.prog 213=1∧aggOf Tryz.prog 213=some false∧(Tryz.prog.underlying 213).isSome=true∧zeroOf Tryz.prog 213=some [Value.nilFunc]∧strOf Tryz.prog 213=false∧byOf Tryz.prog 213=8∧slOf Tryz.prog 213=none∧paOf Tryz.prog 213=none∧szOf Tryz.prog 222=1∧aggOf Tryz.prog 222=some false∧(Tryz.prog.underlying 222).isSome=true∧zeroOf Tryz.prog 222=some [Value.slice none 0 0]:=by and_intros<;>kernel_rfl
@[go_sem] theorem st222:strOf Tryz.prog 222=false∧byOf Tryz.prog 222=24∧slOf Tryz.prog 222=some (225,4)∧paOf Tryz.prog 222=none∧szOf Tryz.prog 224=4∧aggOf Tryz.prog 224=some true∧(Tryz.prog.underlying 224).isSome=true∧zeroOf Tryz.prog 224=some [Value.string ⟨#[]⟩,Value.int .i64 0,Value.int .i64 0,Value.int .i64 0]∧strOf Tryz.prog 224=false∧byOf Tryz.prog 224=40∧slOf Tryz.prog 224=none∧paOf Tryz.prog 224=none:=by and_intros<;>kernel_rfl
@[go_sem] theorem pl224:plOf Tryz.prog 224=some [(0,1),(1,1),(2,1),(3,1)]∧fldOf Tryz.prog 224 0=some (0,1,false)∧offOf Tryz.prog 224 0=some 0∧fldOf Tryz.prog 224 1=some (1,1,false)∧offOf Tryz.prog 224 1=some 1∧fldOf Tryz.prog 224 2=some (2,1,false)∧offOf Tryz.prog 224 2=some 2∧fldOf Tryz.prog 224 3=some (3,1,false)∧offOf Tryz.prog 224 3=some 3∧szOf Tryz.prog 225=4:=by and_intros<;>kernel_rfl
@[go_sem] theorem ag225:aggOf Tryz.prog 225=some true:=by kernel_rfl
@[go_sem] theorem us225:(Tryz.prog.underlying 225).isSome=true∧zeroOf Tryz.prog 225=some [Value.string ⟨#[]⟩,Value.int .i64 0,Value.int .i64 0,Value.int .i64 0]∧strOf Tryz.prog 225=false∧byOf Tryz.prog 225=40∧slOf Tryz.prog 225=none∧paOf Tryz.prog 225=none∧plOf Tryz.prog 225=some [(0,1),(1,1),(2,1),(3,1)]∧fldOf Tryz.prog 225 0=some (0,1,false)∧offOf Tryz.prog 225 0=some 0∧fldOf Tryz.prog 225 1=some (1,1,false)∧offOf Tryz.prog 225 1=some 1∧fldOf Tryz.prog 225 2=some (2,1,false):=by and_intros<;>kernel_rfl
@[go_sem] theorem of225_2:offOf Tryz.prog 225 2=some 2∧fldOf Tryz.prog 225 3=some (3,1,false)∧offOf Tryz.prog 225 3=some 3∧szOf Tryz.prog 227=1∧aggOf Tryz.prog 227=some false∧(Tryz.prog.underlying 227).isSome=true∧zeroOf Tryz.prog 227=some [Value.slice none 0 0]∧strOf Tryz.prog 227=false∧byOf Tryz.prog 227=24∧slOf Tryz.prog 227=some (41,5)∧paOf Tryz.prog 227=none∧szOf Tryz.prog 234=11:=by and_intros<;>kernel_rfl
@[go_sem] theorem ag234:aggOf Tryz.prog 234=some true∧(Tryz.prog.underlying 234).isSome=true:=by and_intros<;>kernel_rfl
@[go_sem] theorem zr234:zeroOf Tryz.prog 234=some [Value.int .i64 0,Value.bool false,Value.int .i64 0,Value.int .i64 0,Value.int .i64 0,Value.int .i64 0,Value.int .i64 0,Value.int .i64 0,Value.int .i64 0,Value.int .i64 0,Value.int .i64 0]:=by kernel_rfl
@[go_sem] theorem st234:strOf Tryz.prog 234=false∧byOf Tryz.prog 234=88∧slOf Tryz.prog 234=none∧paOf Tryz.prog 234=none∧plOf Tryz.prog 234=some [(0,10),(10,1)]∧fldOf Tryz.prog 234 0=some (0,10,true)∧offOf Tryz.prog 234 0=some 0∧fldOf Tryz.prog 234 1=some (10,1,false)∧offOf Tryz.prog 234 1=some 10∧szOf Tryz.prog 235=11:=by and_intros<;>kernel_rfl
@[go_sem] theorem ag235:aggOf Tryz.prog 235=some true:=by kernel_rfl
@[go_sem] theorem us235:(Tryz.prog.underlying 235).isSome=true:=by kernel_rfl
@[go_sem] theorem zr235:zeroOf Tryz.prog 235=some [Value.int .i64 0,Value.bool false,Value.int .i64 0,Value.int .i64 0,Value.int .i64 0,Value.int .i64 0,Value.int .i64 0,Value.int .i64 0,Value.int .i64 0,Value.int .i64 0,Value.int .i64 0]:=by kernel_rfl
@[go_sem] theorem st235:strOf Tryz.prog 235=false∧byOf Tryz.prog 235=88∧slOf Tryz.prog 235=none∧paOf Tryz.prog 235=none∧plOf Tryz.prog 235=some [(0,10),(10,1)]∧fldOf Tryz.prog 235 0=some (0,10,true)∧offOf Tryz.prog 235 0=some 0∧fldOf Tryz.prog 235 1=some (10,1,false)∧offOf Tryz.prog 235 1=some 10∧szOf Tryz.prog 238=1∧aggOf Tryz.prog 238=some false∧(Tryz.prog.underlying 238).isSome=true:=by and_intros<;>kernel_rfl
@[go_sem] theorem zr238:zeroOf Tryz.prog 238=some [Value.nilFunc]∧strOf Tryz.prog 238=false∧byOf Tryz.prog 238=8∧slOf Tryz.prog 238=none∧paOf Tryz.prog 238=none∧szOf Tryz.prog 277=1∧aggOf Tryz.prog 277=some false∧(Tryz.prog.underlying 277).isSome=true∧zeroOf Tryz.prog 277=some [Value.int .u64 0]∧strOf Tryz.prog 277=false∧byOf Tryz.prog 277=8∧slOf Tryz.prog 277=none:=by and_intros<;>kernel_rfl
@[go_sem] theorem pa277:paOf Tryz.prog 277=none:=by kernel_rfl
@[go_sem] theorem ki277:kiOf Tryz.prog 277=some .u64:=by kernel_rfl
@[go_sem] theorem sz278:szOf Tryz.prog 278=2∧aggOf Tryz.prog 278=some true∧(Tryz.prog.underlying 278).isSome=true∧zeroOf Tryz.prog 278=some [Value.int .u64 0,Value.int .u64 0]∧strOf Tryz.prog 278=false∧byOf Tryz.prog 278=16∧slOf Tryz.prog 278=none∧paOf Tryz.prog 278=none∧plOf Tryz.prog 278=some [(0,1),(1,1)]∧fldOf Tryz.prog 278 0=some (0,1,false)∧offOf Tryz.prog 278 0=some 0∧fldOf Tryz.prog 278 1=some (1,1,false):=by and_intros<;>kernel_rfl
@[go_sem] theorem of278_1:offOf Tryz.prog 278 1=some 1∧szOf Tryz.prog 279=2:=by and_intros<;>kernel_rfl
@[go_sem] theorem ag279:aggOf Tryz.prog 279=some true:=by kernel_rfl
@[go_sem] theorem us279:(Tryz.prog.underlying 279).isSome=true∧zeroOf Tryz.prog 279=some [Value.int .u64 0,Value.int .u64 0]∧strOf Tryz.prog 279=false∧byOf Tryz.prog 279=16∧slOf Tryz.prog 279=none∧paOf Tryz.prog 279=none∧plOf Tryz.prog 279=some [(0,1),(1,1)]∧fldOf Tryz.prog 279 0=some (0,1,false)∧offOf Tryz.prog 279 0=some 0∧fldOf Tryz.prog 279 1=some (1,1,false)∧offOf Tryz.prog 279 1=some 1∧szOf Tryz.prog 280=4:=by and_intros<;>kernel_rfl
@[go_sem] theorem ag280:aggOf Tryz.prog 280=some true∧(Tryz.prog.underlying 280).isSome=true∧zeroOf Tryz.prog 280=some [Value.int .u64 0,Value.int .u64 0,Value.int .u64 0,Value.int .u64 0]∧strOf Tryz.prog 280=false∧byOf Tryz.prog 280=32∧slOf Tryz.prog 280=none∧paOf Tryz.prog 280=none∧plOf Tryz.prog 280=some [(0,2),(2,2)]∧fldOf Tryz.prog 280 0=some (0,2,true)∧offOf Tryz.prog 280 0=some 0∧fldOf Tryz.prog 280 1=some (2,2,true)∧offOf Tryz.prog 280 1=some 2:=by and_intros<;>kernel_rfl
@[go_sem] theorem sz281:szOf Tryz.prog 281=4:=by kernel_rfl
@[go_sem] theorem ag281:aggOf Tryz.prog 281=some true:=by kernel_rfl
@[go_sem] theorem us281:(Tryz.prog.underlying 281).isSome=true∧zeroOf Tryz.prog 281=some [Value.int .u64 0,Value.int .u64 0,Value.int .u64 0,Value.int .u64 0]∧strOf Tryz.prog 281=false∧byOf Tryz.prog 281=32∧slOf Tryz.prog 281=none∧paOf Tryz.prog 281=none∧plOf Tryz.prog 281=some [(0,2),(2,2)]∧fldOf Tryz.prog 281 0=some (0,2,true)∧offOf Tryz.prog 281 0=some 0∧fldOf Tryz.prog 281 1=some (2,2,true)∧offOf Tryz.prog 281 1=some 2∧szOf Tryz.prog 285=1:=by and_intros<;>kernel_rfl
@[go_sem] theorem ag285:aggOf Tryz.prog 285=some false∧(Tryz.prog.underlying 285).isSome=true∧zeroOf Tryz.prog 285=some [Value.nilFunc]∧strOf Tryz.prog 285=false∧byOf Tryz.prog 285=8∧slOf Tryz.prog 285=none∧paOf Tryz.prog 285=none∧szOf Tryz.prog 303=1∧aggOf Tryz.prog 303=some false∧(Tryz.prog.underlying 303).isSome=true∧zeroOf Tryz.prog 303=some [Value.int .u64 0]∧strOf Tryz.prog 303=false:=by and_intros<;>kernel_rfl
@[go_sem] theorem by303:byOf Tryz.prog 303=8∧slOf Tryz.prog 303=none∧paOf Tryz.prog 303=none:=by and_intros<;>kernel_rfl
@[go_sem] theorem ki303:kiOf Tryz.prog 303=some .u64:=by kernel_rfl
@[go_sem] theorem sz316:szOf Tryz.prog 316=1∧aggOf Tryz.prog 316=some false∧(Tryz.prog.underlying 316).isSome=true∧zeroOf Tryz.prog 316=some [Value.nilIface]∧strOf Tryz.prog 316=false∧byOf Tryz.prog 316=16∧slOf Tryz.prog 316=none∧paOf Tryz.prog 316=none∧szOf Tryz.prog 317=1∧aggOf Tryz.prog 317=some false∧(Tryz.prog.underlying 317).isSome=true∧zeroOf Tryz.prog 317=some [Value.nilIface]:=by and_intros<;>kernel_rfl
@[go_sem] theorem st317:strOf Tryz.prog 317=false∧byOf Tryz.prog 317=16∧slOf Tryz.prog 317=none∧paOf Tryz.prog 317=none:=by and_intros<;>kernel_rfl
@[go_sem] theorem pt319:ptOf Tryz.prog 319=some 337:=by kernel_rfl
@[go_sem] theorem sz321:szOf Tryz.prog 321=4∧aggOf Tryz.prog 321=some true∧(Tryz.prog.underlying 321).isSome=true∧zeroOf Tryz.prog 321=some [Value.pointer none,Value.pointer none,Value.pointer none,Value.string ⟨#[]⟩]∧strOf Tryz.prog 321=false∧byOf Tryz.prog 321=40∧slOf Tryz.prog 321=none∧paOf Tryz.prog 321=none∧plOf Tryz.prog 321=some [(0,1),(1,1),(2,1),(3,1)]∧fldOf Tryz.prog 321 0=some (0,1,false)∧offOf Tryz.prog 321 0=some 0∧fldOf Tryz.prog 321 1=some (1,1,false):=by and_intros<;>kernel_rfl
@[go_sem] theorem of321_1:offOf Tryz.prog 321 1=some 1∧fldOf Tryz.prog 321 2=some (2,1,false)∧offOf Tryz.prog 321 2=some 2∧fldOf Tryz.prog 321 3=some (3,1,false)∧offOf Tryz.prog 321 3=some 3∧szOf Tryz.prog 322=4∧aggOf Tryz.prog 322=some true∧(Tryz.prog.underlying 322).isSome=true∧zeroOf Tryz.prog 322=some [Value.pointer none,Value.pointer none,Value.pointer none,Value.string ⟨#[]⟩]∧strOf Tryz.prog 322=false∧byOf Tryz.prog 322=40∧slOf Tryz.prog 322=none:=by and_intros<;>kernel_rfl
@[go_sem] theorem pa322:paOf Tryz.prog 322=none∧plOf Tryz.prog 322=some [(0,1),(1,1),(2,1),(3,1)]∧fldOf Tryz.prog 322 0=some (0,1,false)∧offOf Tryz.prog 322 0=some 0∧fldOf Tryz.prog 322 1=some (1,1,false)∧offOf Tryz.prog 322 1=some 1∧fldOf Tryz.prog 322 2=some (2,1,false)∧offOf Tryz.prog 322 2=some 2∧fldOf Tryz.prog 322 3=some (3,1,false)∧offOf Tryz.prog 322 3=some 3∧szOf Tryz.prog 323=0∧aggOf Tryz.prog 323=some true:=by and_intros<;>kernel_rfl
@[go_sem] theorem us323:(Tryz.prog.underlying 323).isSome=true∧zeroOf Tryz.prog 323=some []∧strOf Tryz.prog 323=false∧byOf Tryz.prog 323=0∧slOf Tryz.prog 323=none∧paOf Tryz.prog 323=some (0,1):=by and_intros<;>kernel_rfl
@[go_sem] theorem ar323:arrOf Tryz.prog 323=some 0:=by kernel_rfl
@[go_sem] theorem pl323:plOf Tryz.prog 323=some []∧szOf Tryz.prog 324=0∧aggOf Tryz.prog 324=some true∧(Tryz.prog.underlying 324).isSome=true∧zeroOf Tryz.prog 324=some []∧strOf Tryz.prog 324=false∧byOf Tryz.prog 324=0∧slOf Tryz.prog 324=none∧paOf Tryz.prog 324=none∧plOf Tryz.prog 324=some [(0,0)]∧szOf Tryz.prog 325=0∧aggOf Tryz.prog 325=some true:=by and_intros<;>kernel_rfl
@[go_sem] theorem us325:(Tryz.prog.underlying 325).isSome=true∧zeroOf Tryz.prog 325=some []∧strOf Tryz.prog 325=false∧byOf Tryz.prog 325=0∧slOf Tryz.prog 325=none∧paOf Tryz.prog 325=none∧plOf Tryz.prog 325=some [(0,0)]∧szOf Tryz.prog 327=1∧aggOf Tryz.prog 327=some false∧(Tryz.prog.underlying 327).isSome=true∧zeroOf Tryz.prog 327=some [Value.int .u32 0]∧strOf Tryz.prog 327=false:=by and_intros<;>kernel_rfl
@[go_sem] theorem by327:byOf Tryz.prog 327=4∧slOf Tryz.prog 327=none∧paOf Tryz.prog 327=none:=by and_intros<;>kernel_rfl
@[go_sem] theorem ki327:kiOf Tryz.prog 327=some .u32:=by kernel_rfl
@[go_sem] theorem sz328:szOf Tryz.prog 328=1∧aggOf Tryz.prog 328=some false∧(Tryz.prog.underlying 328).isSome=true∧zeroOf Tryz.prog 328=some [Value.int .u8 0]∧strOf Tryz.prog 328=false∧byOf Tryz.prog 328=1∧slOf Tryz.prog 328=none∧paOf Tryz.prog 328=none:=by and_intros<;>kernel_rfl
@[go_sem] theorem ki328:kiOf Tryz.prog 328=some .u8:=by kernel_rfl
@[go_sem] theorem sz329:szOf Tryz.prog 329=1∧aggOf Tryz.prog 329=some false∧(Tryz.prog.underlying 329).isSome=true∧zeroOf Tryz.prog 329=some [Value.int .u8 0]∧strOf Tryz.prog 329=false∧byOf Tryz.prog 329=1∧slOf Tryz.prog 329=none∧paOf Tryz.prog 329=none:=by and_intros<;>kernel_rfl
@[go_sem] theorem ki329:kiOf Tryz.prog 329=some .u8:=by kernel_rfl
@[go_sem] theorem sz330:szOf Tryz.prog 330=1∧aggOf Tryz.prog 330=some false∧(Tryz.prog.underlying 330).isSome=true∧zeroOf Tryz.prog 330=some [Value.nilFunc]∧strOf Tryz.prog 330=false∧byOf Tryz.prog 330=8∧slOf Tryz.prog 330=none∧paOf Tryz.prog 330=none∧szOf Tryz.prog 331=1∧aggOf Tryz.prog 331=some false∧(Tryz.prog.underlying 331).isSome=true∧zeroOf Tryz.prog 331=some [Value.pointer none]:=by and_intros<;>kernel_rfl
@[go_sem] theorem st331:strOf Tryz.prog 331=false∧byOf Tryz.prog 331=8∧slOf Tryz.prog 331=none∧paOf Tryz.prog 331=none:=by and_intros<;>kernel_rfl
@[go_sem] theorem pt331:ptOf Tryz.prog 331=some 5:=by kernel_rfl
@[go_sem] theorem sz332:szOf Tryz.prog 332=1∧aggOf Tryz.prog 332=some false∧(Tryz.prog.underlying 332).isSome=true∧zeroOf Tryz.prog 332=some [Value.int .i32 0]∧strOf Tryz.prog 332=false∧byOf Tryz.prog 332=4∧slOf Tryz.prog 332=none∧paOf Tryz.prog 332=none:=by and_intros<;>kernel_rfl
@[go_sem] theorem ki332:kiOf Tryz.prog 332=some .i32:=by kernel_rfl
@[go_sem] theorem sz333:szOf Tryz.prog 333=1∧aggOf Tryz.prog 333=some false∧(Tryz.prog.underlying 333).isSome=true∧zeroOf Tryz.prog 333=some [Value.int .i32 0]∧strOf Tryz.prog 333=false∧byOf Tryz.prog 333=4∧slOf Tryz.prog 333=none∧paOf Tryz.prog 333=none:=by and_intros<;>kernel_rfl
@[go_sem] theorem ki333:kiOf Tryz.prog 333=some .i32:=by kernel_rfl
@[go_sem] theorem sz334:szOf Tryz.prog 334=11∧aggOf Tryz.prog 334=some true∧(Tryz.prog.underlying 334).isSome=true:=by and_intros<;>kernel_rfl
@[go_sem] theorem zr334:zeroOf Tryz.prog 334=some [Value.int .u64 0,Value.int .u64 0,Value.int .u32 0,Value.int .u8 0,Value.int .u8 0,Value.int .u8 0,Value.int .u8 0,Value.nilFunc,Value.pointer none,Value.int .i32 0,Value.int .i32 0]:=by kernel_rfl
@[go_sem] theorem st334:strOf Tryz.prog 334=false∧byOf Tryz.prog 334=48∧slOf Tryz.prog 334=none∧paOf Tryz.prog 334=none∧plOf Tryz.prog 334=some [(0,1),(1,1),(2,1),(3,1),(4,1),(5,1),(6,1),(7,1),(8,1),(9,1),(10,1)]∧fldOf Tryz.prog 334 0=some (0,1,false)∧offOf Tryz.prog 334 0=some 0∧fldOf Tryz.prog 334 1=some (1,1,false)∧offOf Tryz.prog 334 1=some 1∧fldOf Tryz.prog 334 2=some (2,1,false)∧offOf Tryz.prog 334 2=some 2∧fldOf Tryz.prog 334 3=some (3,1,false):=by and_intros<;>kernel_rfl
@[go_sem] theorem of334_3:offOf Tryz.prog 334 3=some 3∧fldOf Tryz.prog 334 4=some (4,1,false)∧offOf Tryz.prog 334 4=some 4∧fldOf Tryz.prog 334 5=some (5,1,false)∧offOf Tryz.prog 334 5=some 5∧fldOf Tryz.prog 334 6=some (6,1,false)∧offOf Tryz.prog 334 6=some 6∧fldOf Tryz.prog 334 7=some (7,1,false)∧offOf Tryz.prog 334 7=some 7∧fldOf Tryz.prog 334 8=some (8,1,false)∧offOf Tryz.prog 334 8=some 8∧fldOf Tryz.prog 334 9=some (9,1,false):=by and_intros<;>kernel_rfl
@[go_sem] theorem of334_9:offOf Tryz.prog 334 9=some 9∧fldOf Tryz.prog 334 10=some (10,1,false)∧offOf Tryz.prog 334 10=some 10∧szOf Tryz.prog 335=11∧aggOf Tryz.prog 335=some true∧(Tryz.prog.underlying 335).isSome=true:=by and_intros<;>kernel_rfl
@[go_sem] theorem zr335:zeroOf Tryz.prog 335=some [Value.int .u64 0,Value.int .u64 0,Value.int .u32 0,Value.int .u8 0,Value.int .u8 0,Value.int .u8 0,Value.int .u8 0,Value.nilFunc,Value.pointer none,Value.int .i32 0,Value.int .i32 0]:=by kernel_rfl
@[go_sem] theorem st335:strOf Tryz.prog 335=false∧byOf Tryz.prog 335=48∧slOf Tryz.prog 335=none∧paOf Tryz.prog 335=none∧plOf Tryz.prog 335=some [(0,1),(1,1),(2,1),(3,1),(4,1),(5,1),(6,1),(7,1),(8,1),(9,1),(10,1)]∧fldOf Tryz.prog 335 0=some (0,1,false)∧offOf Tryz.prog 335 0=some 0∧fldOf Tryz.prog 335 1=some (1,1,false)∧offOf Tryz.prog 335 1=some 1∧fldOf Tryz.prog 335 2=some (2,1,false)∧offOf Tryz.prog 335 2=some 2∧fldOf Tryz.prog 335 3=some (3,1,false):=by and_intros<;>kernel_rfl
@[go_sem] theorem of335_3:offOf Tryz.prog 335 3=some 3∧fldOf Tryz.prog 335 4=some (4,1,false)∧offOf Tryz.prog 335 4=some 4∧fldOf Tryz.prog 335 5=some (5,1,false)∧offOf Tryz.prog 335 5=some 5∧fldOf Tryz.prog 335 6=some (6,1,false)∧offOf Tryz.prog 335 6=some 6∧fldOf Tryz.prog 335 7=some (7,1,false)∧offOf Tryz.prog 335 7=some 7∧fldOf Tryz.prog 335 8=some (8,1,false)∧offOf Tryz.prog 335 8=some 8∧fldOf Tryz.prog 335 9=some (9,1,false):=by and_intros<;>kernel_rfl
@[go_sem] theorem of335_9:offOf Tryz.prog 335 9=some 9∧fldOf Tryz.prog 335 10=some (10,1,false)∧offOf Tryz.prog 335 10=some 10:=by and_intros<;>kernel_rfl
@[go_sem] theorem up338:upOf Tryz.prog 338=true:=by kernel_rfl
theorem eqg41:Tryz.prog.eqGuardType Tryz.prog.depth 41=false:=by kernel_rfl
theorem lf41:lfOf Tryz.prog 20 41=some [.i .i64,.i .i64,.i .i64,.i .i64,.i .i64]:=by kernel_rfl
@[go_sem] theorem eq41 (a0 b0:Int)(a1 b1:Int)(a2 b2:Int)(a3 b3:Int)(a4 b4:Int):EqAny Tryz.prog 41 [.v (.int .i64 a0),.v (.int .i64 a1),.v (.int .i64 a2),.v (.int .i64 a3),.v (.int .i64 a4)] [.v (.int .i64 b0),.v (.int .i64 b1),.v (.int .i64 b2),.v (.int .i64 b3),.v (.int .i64 b4)]:=fun _ h=>EqOk.of lf41 ag41 eqg41 rfl rfl h
theorem eqg43:Tryz.prog.eqGuardType Tryz.prog.depth 43=false:=by kernel_rfl
theorem lf43:lfOf Tryz.prog 20 43=some [.i .i64,.b,.i .i64,.i .i64,.i .i64,.i .i64,.i .i64,.i .i64,.i .i64,.i .i64]:=by kernel_rfl
@[go_sem] theorem eq43 (a0 b0:Int)(a1 b1:Bool)(a2 b2:Int)(a3 b3:Int)(a4 b4:Int)(a5 b5:Int)(a6 b6:Int)(a7 b7:Int)(a8 b8:Int)(a9 b9:Int):EqAny Tryz.prog 43 [.v (.int .i64 a0),.v (.bool a1),.v (.int .i64 a2),.v (.int .i64 a3),.v (.int .i64 a4),.v (.int .i64 a5),.v (.int .i64 a6),.v (.int .i64 a7),.v (.int .i64 a8),.v (.int .i64 a9)] [.v (.int .i64 b0),.v (.bool b1),.v (.int .i64 b2),.v (.int .i64 b3),.v (.int .i64 b4),.v (.int .i64 b5),.v (.int .i64 b6),.v (.int .i64 b7),.v (.int .i64 b8),.v (.int .i64 b9)]:=fun _ h=>EqOk.of lf43 ag43 eqg43 rfl rfl h
theorem eqg45:Tryz.prog.eqGuardType Tryz.prog.depth 45=false:=by kernel_rfl
theorem lf45:lfOf Tryz.prog 20 45=some [.i .i64,.i .i64]:=by kernel_rfl
@[go_sem] theorem eq45 (a0 b0:Int)(a1 b1:Int):EqAny Tryz.prog 45 [.v (.int .i64 a0),.v (.int .i64 a1)] [.v (.int .i64 b0),.v (.int .i64 b1)]:=fun _ h=>EqOk.of lf45 ag45 eqg45 rfl rfl h
theorem eqg47:Tryz.prog.eqGuardType Tryz.prog.depth 47=false:=by kernel_rfl
theorem lf47:lfOf Tryz.prog 20 47=some [.s,.i .i64,.b,.i .i64,.i .i64,.i .i64,.i .i64,.i .i64,.i .i64,.i .i64,.i .i64,.i .i64,.i .i64]:=by kernel_rfl
@[go_sem] theorem eq47 (a0 b0:ByteArray)(a1 b1:Int)(a2 b2:Bool)(a3 b3:Int)(a4 b4:Int)(a5 b5:Int)(a6 b6:Int)(a7 b7:Int)(a8 b8:Int)(a9 b9:Int)(a10 b10:Int)(a11 b11:Int)(a12 b12:Int):EqAny Tryz.prog 47 [.v (.string a0),.v (.int .i64 a1),.v (.bool a2),.v (.int .i64 a3),.v (.int .i64 a4),.v (.int .i64 a5),.v (.int .i64 a6),.v (.int .i64 a7),.v (.int .i64 a8),.v (.int .i64 a9),.v (.int .i64 a10),.v (.int .i64 a11),.v (.int .i64 a12)] [.v (.string b0),.v (.int .i64 b1),.v (.bool b2),.v (.int .i64 b3),.v (.int .i64 b4),.v (.int .i64 b5),.v (.int .i64 b6),.v (.int .i64 b7),.v (.int .i64 b8),.v (.int .i64 b9),.v (.int .i64 b10),.v (.int .i64 b11),.v (.int .i64 b12)]:=fun _ h=>EqOk.of lf47 ag47 eqg47 rfl rfl h
theorem eqg51:Tryz.prog.eqGuardType Tryz.prog.depth 51=false:=by kernel_rfl
theorem lf51:lfOf Tryz.prog 20 51=some [.s,.s,.i .i64,.i .i64]:=by kernel_rfl
@[go_sem] theorem eq51 (a0 b0:ByteArray)(a1 b1:ByteArray)(a2 b2:Int)(a3 b3:Int):EqAny Tryz.prog 51 [.v (.string a0),.v (.string a1),.v (.int .i64 a2),.v (.int .i64 a3)] [.v (.string b0),.v (.string b1),.v (.int .i64 b2),.v (.int .i64 b3)]:=fun _ h=>EqOk.of lf51 ag51 eqg51 rfl rfl h
theorem eqg78:Tryz.prog.eqGuardType Tryz.prog.depth 78=false:=by kernel_rfl
theorem lf78:lfOf Tryz.prog 20 78=some [.s,.i .i64,.b,.i .i64,.i .i64,.i .i64,.i .i64,.i .i64,.i .i64,.i .i64,.i .i64]:=by kernel_rfl
@[go_sem] theorem eq78 (a0 b0:ByteArray)(a1 b1:Int)(a2 b2:Bool)(a3 b3:Int)(a4 b4:Int)(a5 b5:Int)(a6 b6:Int)(a7 b7:Int)(a8 b8:Int)(a9 b9:Int)(a10 b10:Int):EqAny Tryz.prog 78 [.v (.string a0),.v (.int .i64 a1),.v (.bool a2),.v (.int .i64 a3),.v (.int .i64 a4),.v (.int .i64 a5),.v (.int .i64 a6),.v (.int .i64 a7),.v (.int .i64 a8),.v (.int .i64 a9),.v (.int .i64 a10)] [.v (.string b0),.v (.int .i64 b1),.v (.bool b2),.v (.int .i64 b3),.v (.int .i64 b4),.v (.int .i64 b5),.v (.int .i64 b6),.v (.int .i64 b7),.v (.int .i64 b8),.v (.int .i64 b9),.v (.int .i64 b10)]:=fun _ h=>EqOk.of lf78 ag78 eqg78 rfl rfl h
theorem eqg225:Tryz.prog.eqGuardType Tryz.prog.depth 225=false:=by kernel_rfl
theorem lf225:lfOf Tryz.prog 20 225=some [.s,.i .i64,.i .i64,.i .i64]:=by kernel_rfl
@[go_sem] theorem eq225 (a0 b0:ByteArray)(a1 b1:Int)(a2 b2:Int)(a3 b3:Int):EqAny Tryz.prog 225 [.v (.string a0),.v (.int .i64 a1),.v (.int .i64 a2),.v (.int .i64 a3)] [.v (.string b0),.v (.int .i64 b1),.v (.int .i64 b2),.v (.int .i64 b3)]:=fun _ h=>EqOk.of lf225 ag225 eqg225 rfl rfl h
theorem eqg235:Tryz.prog.eqGuardType Tryz.prog.depth 235=false:=by kernel_rfl
theorem lf235:lfOf Tryz.prog 20 235=some [.i .i64,.b,.i .i64,.i .i64,.i .i64,.i .i64,.i .i64,.i .i64,.i .i64,.i .i64,.i .i64]:=by kernel_rfl
@[go_sem] theorem eq235 (a0 b0:Int)(a1 b1:Bool)(a2 b2:Int)(a3 b3:Int)(a4 b4:Int)(a5 b5:Int)(a6 b6:Int)(a7 b7:Int)(a8 b8:Int)(a9 b9:Int)(a10 b10:Int):EqAny Tryz.prog 235 [.v (.int .i64 a0),.v (.bool a1),.v (.int .i64 a2),.v (.int .i64 a3),.v (.int .i64 a4),.v (.int .i64 a5),.v (.int .i64 a6),.v (.int .i64 a7),.v (.int .i64 a8),.v (.int .i64 a9),.v (.int .i64 a10)] [.v (.int .i64 b0),.v (.bool b1),.v (.int .i64 b2),.v (.int .i64 b3),.v (.int .i64 b4),.v (.int .i64 b5),.v (.int .i64 b6),.v (.int .i64 b7),.v (.int .i64 b8),.v (.int .i64 b9),.v (.int .i64 b10)]:=fun _ h=>EqOk.of lf235 ag235 eqg235 rfl rfl h
theorem eqg279:Tryz.prog.eqGuardType Tryz.prog.depth 279=false:=by kernel_rfl
theorem lf279:lfOf Tryz.prog 20 279=some [.i .u64,.i .u64]:=by kernel_rfl
@[go_sem] theorem eq279 (a0 b0:Int)(a1 b1:Int):EqAny Tryz.prog 279 [.v (.int .u64 a0),.v (.int .u64 a1)] [.v (.int .u64 b0),.v (.int .u64 b1)]:=fun _ h=>EqOk.of lf279 ag279 eqg279 rfl rfl h
theorem eqg281:Tryz.prog.eqGuardType Tryz.prog.depth 281=false:=by kernel_rfl
theorem lf281:lfOf Tryz.prog 20 281=some [.i .u64,.i .u64,.i .u64,.i .u64]:=by kernel_rfl
@[go_sem] theorem eq281 (a0 b0:Int)(a1 b1:Int)(a2 b2:Int)(a3 b3:Int):EqAny Tryz.prog 281 [.v (.int .u64 a0),.v (.int .u64 a1),.v (.int .u64 a2),.v (.int .u64 a3)] [.v (.int .u64 b0),.v (.int .u64 b1),.v (.int .u64 b2),.v (.int .u64 b3)]:=fun _ h=>EqOk.of lf281 ag281 eqg281 rfl rfl h
theorem Enters.of {f:FuncId}{fn:Func}{b:Code}(hf:Tryz.prog.funcs[f]?=some fn)(hn:(fn.name== "runtime.NumGoroutine")=false)(hb:fn.body=some b):Enters Tryz.prog f:=fun args w=>by
 have h1:fn.name≠ "runtime.NumGoroutine" :=by simpa using hn
 simp[callFunc,hf,h1,hb]
theorem en4:Enters Tryz.prog 4:=Enters.of Tryz.func4 (by kernel_rfl) rfl
attribute [go_sem] Tryz.ntmps4
theorem en11:Enters Tryz.prog 11:=Enters.of Tryz.func11 (by kernel_rfl) rfl
attribute [go_sem] Tryz.ntmps11
theorem en12:Enters Tryz.prog 12:=Enters.of Tryz.func12 (by kernel_rfl) rfl
attribute [go_sem] Tryz.ntmps12
theorem en13:Enters Tryz.prog 13:=Enters.of Tryz.func13 (by kernel_rfl) rfl
attribute [go_sem] Tryz.ntmps13
theorem en14:Enters Tryz.prog 14:=Enters.of Tryz.func14 (by kernel_rfl) rfl
attribute [go_sem] Tryz.ntmps14
theorem en15:Enters Tryz.prog 15:=Enters.of Tryz.func15 (by kernel_rfl) rfl
attribute [go_sem] Tryz.ntmps15
theorem en16:Enters Tryz.prog 16:=Enters.of Tryz.func16 (by kernel_rfl) rfl
attribute [go_sem] Tryz.ntmps16
theorem en17:Enters Tryz.prog 17:=Enters.of Tryz.func17 (by kernel_rfl) rfl
attribute [go_sem] Tryz.ntmps17
theorem en18:Enters Tryz.prog 18:=Enters.of Tryz.func18 (by kernel_rfl) rfl
attribute [go_sem] Tryz.ntmps18
theorem en20:Enters Tryz.prog 20:=Enters.of Tryz.func20 (by kernel_rfl) rfl
attribute [go_sem] Tryz.ntmps20
theorem en29:Enters Tryz.prog 29:=Enters.of Tryz.func29 (by kernel_rfl) rfl
attribute [go_sem] Tryz.ntmps29
theorem en32:Enters Tryz.prog 32:=Enters.of Tryz.func32 (by kernel_rfl) rfl
attribute [go_sem] Tryz.ntmps32
theorem en34:Enters Tryz.prog 34:=Enters.of Tryz.func34 (by kernel_rfl) rfl
attribute [go_sem] Tryz.ntmps34
theorem en36:Enters Tryz.prog 36:=Enters.of Tryz.func36 (by kernel_rfl) rfl
attribute [go_sem] Tryz.ntmps36
theorem en38:Enters Tryz.prog 38:=Enters.of Tryz.func38 (by kernel_rfl) rfl
attribute [go_sem] Tryz.ntmps38
theorem en39:Enters Tryz.prog 39:=Enters.of Tryz.func39 (by kernel_rfl) rfl
attribute [go_sem] Tryz.ntmps39
theorem en40:Enters Tryz.prog 40:=Enters.of Tryz.func40 (by kernel_rfl) rfl
attribute [go_sem] Tryz.ntmps40
theorem en41:Enters Tryz.prog 41:=Enters.of Tryz.func41 (by kernel_rfl) rfl
attribute [go_sem] Tryz.ntmps41
theorem en42:Enters Tryz.prog 42:=Enters.of Tryz.func42 (by kernel_rfl) rfl
attribute [go_sem] Tryz.ntmps42
theorem en43:Enters Tryz.prog 43:=Enters.of Tryz.func43 (by kernel_rfl) rfl
attribute [go_sem] Tryz.ntmps43
theorem en44:Enters Tryz.prog 44:=Enters.of Tryz.func44 (by kernel_rfl) rfl
attribute [go_sem] Tryz.ntmps44
theorem en45:Enters Tryz.prog 45:=Enters.of Tryz.func45 (by kernel_rfl) rfl
attribute [go_sem] Tryz.ntmps45
theorem en46:Enters Tryz.prog 46:=Enters.of Tryz.func46 (by kernel_rfl) rfl
attribute [go_sem] Tryz.ntmps46
theorem en47:Enters Tryz.prog 47:=Enters.of Tryz.func47 (by kernel_rfl) rfl
attribute [go_sem] Tryz.ntmps47
theorem en48:Enters Tryz.prog 48:=Enters.of Tryz.func48 (by kernel_rfl) rfl
attribute [go_sem] Tryz.ntmps48
theorem en49:Enters Tryz.prog 49:=Enters.of Tryz.func49 (by kernel_rfl) rfl
attribute [go_sem] Tryz.ntmps49
theorem en50:Enters Tryz.prog 50:=Enters.of Tryz.func50 (by kernel_rfl) rfl
attribute [go_sem] Tryz.ntmps50
theorem en51:Enters Tryz.prog 51:=Enters.of Tryz.func51 (by kernel_rfl) rfl
attribute [go_sem] Tryz.ntmps51
theorem en52:Enters Tryz.prog 52:=Enters.of Tryz.func52 (by kernel_rfl) rfl
attribute [go_sem] Tryz.ntmps52
theorem en66:Enters Tryz.prog 66:=Enters.of Tryz.func66 (by kernel_rfl) rfl
attribute [go_sem] Tryz.ntmps66
theorem en67:Enters Tryz.prog 67:=Enters.of Tryz.func67 (by kernel_rfl) rfl
attribute [go_sem] Tryz.ntmps67
theorem en68:Enters Tryz.prog 68:=Enters.of Tryz.func68 (by kernel_rfl) rfl
attribute [go_sem] Tryz.ntmps68
theorem en69:Enters Tryz.prog 69:=Enters.of Tryz.func69 (by kernel_rfl) rfl
attribute [go_sem] Tryz.ntmps69
theorem en70:Enters Tryz.prog 70:=Enters.of Tryz.func70 (by kernel_rfl) rfl
attribute [go_sem] Tryz.ntmps70
theorem en71:Enters Tryz.prog 71:=Enters.of Tryz.func71 (by kernel_rfl) rfl
attribute [go_sem] Tryz.ntmps71
theorem en73:Enters Tryz.prog 73:=Enters.of Tryz.func73 (by kernel_rfl) rfl
attribute [go_sem] Tryz.ntmps73
theorem en74:Enters Tryz.prog 74:=Enters.of Tryz.func74 (by kernel_rfl) rfl
attribute [go_sem] Tryz.ntmps74
theorem en77:Enters Tryz.prog 77:=Enters.of Tryz.func77 (by kernel_rfl) rfl
attribute [go_sem] Tryz.ntmps77
theorem en78:Enters Tryz.prog 78:=Enters.of Tryz.func78 (by kernel_rfl) rfl
attribute [go_sem] Tryz.ntmps78
theorem en79:Enters Tryz.prog 79:=Enters.of Tryz.func79 (by kernel_rfl) rfl
attribute [go_sem] Tryz.ntmps79
theorem en80:Enters Tryz.prog 80:=Enters.of Tryz.func80 (by kernel_rfl) rfl
attribute [go_sem] Tryz.ntmps80
theorem en81:Enters Tryz.prog 81:=Enters.of Tryz.func81 (by kernel_rfl) rfl
attribute [go_sem] Tryz.ntmps81
theorem en82:Enters Tryz.prog 82:=Enters.of Tryz.func82 (by kernel_rfl) rfl
attribute [go_sem] Tryz.ntmps82
theorem en83:Enters Tryz.prog 83:=Enters.of Tryz.func83 (by kernel_rfl) rfl
attribute [go_sem] Tryz.ntmps83
theorem en84:Enters Tryz.prog 84:=Enters.of Tryz.func84 (by kernel_rfl) rfl
attribute [go_sem] Tryz.ntmps84
theorem en85:Enters Tryz.prog 85:=Enters.of Tryz.func85 (by kernel_rfl) rfl
attribute [go_sem] Tryz.ntmps85
theorem en86:Enters Tryz.prog 86:=Enters.of Tryz.func86 (by kernel_rfl) rfl
attribute [go_sem] Tryz.ntmps86
theorem en87:Enters Tryz.prog 87:=Enters.of Tryz.func87 (by kernel_rfl) rfl
attribute [go_sem] Tryz.ntmps87
theorem en88:Enters Tryz.prog 88:=Enters.of Tryz.func88 (by kernel_rfl) rfl
attribute [go_sem] Tryz.ntmps88
theorem en89:Enters Tryz.prog 89:=Enters.of Tryz.func89 (by kernel_rfl) rfl
attribute [go_sem] Tryz.ntmps89
theorem en90:Enters Tryz.prog 90:=Enters.of Tryz.func90 (by kernel_rfl) rfl
attribute [go_sem] Tryz.ntmps90
theorem en91:Enters Tryz.prog 91:=Enters.of Tryz.func91 (by kernel_rfl) rfl
attribute [go_sem] Tryz.ntmps91
theorem en92:Enters Tryz.prog 92:=Enters.of Tryz.func92 (by kernel_rfl) rfl
attribute [go_sem] Tryz.ntmps92
theorem en93:Enters Tryz.prog 93:=Enters.of Tryz.func93 (by kernel_rfl) rfl
attribute [go_sem] Tryz.ntmps93
theorem en94:Enters Tryz.prog 94:=Enters.of Tryz.func94 (by kernel_rfl) rfl
attribute [go_sem] Tryz.ntmps94
theorem en95:Enters Tryz.prog 95:=Enters.of Tryz.func95 (by kernel_rfl) rfl
attribute [go_sem] Tryz.ntmps95
theorem en96:Enters Tryz.prog 96:=Enters.of Tryz.func96 (by kernel_rfl) rfl
attribute [go_sem] Tryz.ntmps96
theorem en97:Enters Tryz.prog 97:=Enters.of Tryz.func97 (by kernel_rfl) rfl
attribute [go_sem] Tryz.ntmps97
theorem en98:Enters Tryz.prog 98:=Enters.of Tryz.func98 (by kernel_rfl) rfl
attribute [go_sem] Tryz.ntmps98
theorem en99:Enters Tryz.prog 99:=Enters.of Tryz.func99 (by kernel_rfl) rfl
attribute [go_sem] Tryz.ntmps99
theorem en100:Enters Tryz.prog 100:=Enters.of Tryz.func100 (by kernel_rfl) rfl
attribute [go_sem] Tryz.ntmps100
theorem en101:Enters Tryz.prog 101:=Enters.of Tryz.func101 (by kernel_rfl) rfl
attribute [go_sem] Tryz.ntmps101
theorem en102:Enters Tryz.prog 102:=Enters.of Tryz.func102 (by kernel_rfl) rfl
attribute [go_sem] Tryz.ntmps102
theorem en103:Enters Tryz.prog 103:=Enters.of Tryz.func103 (by kernel_rfl) rfl
attribute [go_sem] Tryz.ntmps103
theorem en104:Enters Tryz.prog 104:=Enters.of Tryz.func104 (by kernel_rfl) rfl
attribute [go_sem] Tryz.ntmps104
theorem en105:Enters Tryz.prog 105:=Enters.of Tryz.func105 (by kernel_rfl) rfl
attribute [go_sem] Tryz.ntmps105
theorem en106:Enters Tryz.prog 106:=Enters.of Tryz.func106 (by kernel_rfl) rfl
attribute [go_sem] Tryz.ntmps106
theorem en107:Enters Tryz.prog 107:=Enters.of Tryz.func107 (by kernel_rfl) rfl
attribute [go_sem] Tryz.ntmps107
theorem en108:Enters Tryz.prog 108:=Enters.of Tryz.func108 (by kernel_rfl) rfl
attribute [go_sem] Tryz.ntmps108
theorem en109:Enters Tryz.prog 109:=Enters.of Tryz.func109 (by kernel_rfl) rfl
attribute [go_sem] Tryz.ntmps109
theorem en110:Enters Tryz.prog 110:=Enters.of Tryz.func110 (by kernel_rfl) rfl
attribute [go_sem] Tryz.ntmps110
theorem en111:Enters Tryz.prog 111:=Enters.of Tryz.func111 (by kernel_rfl) rfl
attribute [go_sem] Tryz.ntmps111
theorem en112:Enters Tryz.prog 112:=Enters.of Tryz.func112 (by kernel_rfl) rfl
attribute [go_sem] Tryz.ntmps112
theorem en113:Enters Tryz.prog 113:=Enters.of Tryz.func113 (by kernel_rfl) rfl
attribute [go_sem] Tryz.ntmps113
theorem en114:Enters Tryz.prog 114:=Enters.of Tryz.func114 (by kernel_rfl) rfl
attribute [go_sem] Tryz.ntmps114
theorem en115:Enters Tryz.prog 115:=Enters.of Tryz.func115 (by kernel_rfl) rfl
attribute [go_sem] Tryz.ntmps115
theorem en137:Enters Tryz.prog 137:=Enters.of Tryz.func137 (by kernel_rfl) rfl
attribute [go_sem] Tryz.ntmps137
theorem en138:Enters Tryz.prog 138:=Enters.of Tryz.func138 (by kernel_rfl) rfl
attribute [go_sem] Tryz.ntmps138
theorem en139:Enters Tryz.prog 139:=Enters.of Tryz.func139 (by kernel_rfl) rfl
attribute [go_sem] Tryz.ntmps139
theorem en140:Enters Tryz.prog 140:=Enters.of Tryz.func140 (by kernel_rfl) rfl
attribute [go_sem] Tryz.ntmps140
theorem en141:Enters Tryz.prog 141:=Enters.of Tryz.func141 (by kernel_rfl) rfl
attribute [go_sem] Tryz.ntmps141
theorem en142:Enters Tryz.prog 142:=Enters.of Tryz.func142 (by kernel_rfl) rfl
attribute [go_sem] Tryz.ntmps142
theorem en143:Enters Tryz.prog 143:=Enters.of Tryz.func143 (by kernel_rfl) rfl
attribute [go_sem] Tryz.ntmps143
theorem en144:Enters Tryz.prog 144:=Enters.of Tryz.func144 (by kernel_rfl) rfl
attribute [go_sem] Tryz.ntmps144
theorem en147:Enters Tryz.prog 147:=Enters.of Tryz.func147 (by kernel_rfl) rfl
attribute [go_sem] Tryz.ntmps147
theorem en148:Enters Tryz.prog 148:=Enters.of Tryz.func148 (by kernel_rfl) rfl
attribute [go_sem] Tryz.ntmps148
theorem en149:Enters Tryz.prog 149:=Enters.of Tryz.func149 (by kernel_rfl) rfl
attribute [go_sem] Tryz.ntmps149
theorem en150:Enters Tryz.prog 150:=Enters.of Tryz.func150 (by kernel_rfl) rfl
attribute [go_sem] Tryz.ntmps150
theorem en151:Enters Tryz.prog 151:=Enters.of Tryz.func151 (by kernel_rfl) rfl
attribute [go_sem] Tryz.ntmps151
theorem en152:Enters Tryz.prog 152:=Enters.of Tryz.func152 (by kernel_rfl) rfl
attribute [go_sem] Tryz.ntmps152
theorem en153:Enters Tryz.prog 153:=Enters.of Tryz.func153 (by kernel_rfl) rfl
attribute [go_sem] Tryz.ntmps153
theorem en154:Enters Tryz.prog 154:=Enters.of Tryz.func154 (by kernel_rfl) rfl
attribute [go_sem] Tryz.ntmps154
theorem en155:Enters Tryz.prog 155:=Enters.of Tryz.func155 (by kernel_rfl) rfl
attribute [go_sem] Tryz.ntmps155
theorem en156:Enters Tryz.prog 156:=Enters.of Tryz.func156 (by kernel_rfl) rfl
attribute [go_sem] Tryz.ntmps156
theorem en157:Enters Tryz.prog 157:=Enters.of Tryz.func157 (by kernel_rfl) rfl
attribute [go_sem] Tryz.ntmps157
theorem en158:Enters Tryz.prog 158:=Enters.of Tryz.func158 (by kernel_rfl) rfl
attribute [go_sem] Tryz.ntmps158
theorem en159:Enters Tryz.prog 159:=Enters.of Tryz.func159 (by kernel_rfl) rfl
attribute [go_sem] Tryz.ntmps159
theorem en160:Enters Tryz.prog 160:=Enters.of Tryz.func160 (by kernel_rfl) rfl
attribute [go_sem] Tryz.ntmps160
theorem en161:Enters Tryz.prog 161:=Enters.of Tryz.func161 (by kernel_rfl) rfl
attribute [go_sem] Tryz.ntmps161
theorem en162:Enters Tryz.prog 162:=Enters.of Tryz.func162 (by kernel_rfl) rfl
attribute [go_sem] Tryz.ntmps162
theorem en163:Enters Tryz.prog 163:=Enters.of Tryz.func163 (by kernel_rfl) rfl
attribute [go_sem] Tryz.ntmps163
theorem en164:Enters Tryz.prog 164:=Enters.of Tryz.func164 (by kernel_rfl) rfl
attribute [go_sem] Tryz.ntmps164
theorem en165:Enters Tryz.prog 165:=Enters.of Tryz.func165 (by kernel_rfl) rfl
attribute [go_sem] Tryz.ntmps165
theorem en166:Enters Tryz.prog 166:=Enters.of Tryz.func166 (by kernel_rfl) rfl
attribute [go_sem] Tryz.ntmps166
theorem en167:Enters Tryz.prog 167:=Enters.of Tryz.func167 (by kernel_rfl) rfl
attribute [go_sem] Tryz.ntmps167
theorem en168:Enters Tryz.prog 168:=Enters.of Tryz.func168 (by kernel_rfl) rfl
attribute [go_sem] Tryz.ntmps168
theorem en169:Enters Tryz.prog 169:=Enters.of Tryz.func169 (by kernel_rfl) rfl
attribute [go_sem] Tryz.ntmps169
theorem en170:Enters Tryz.prog 170:=Enters.of Tryz.func170 (by kernel_rfl) rfl
attribute [go_sem] Tryz.ntmps170
theorem en171:Enters Tryz.prog 171:=Enters.of Tryz.func171 (by kernel_rfl) rfl
attribute [go_sem] Tryz.ntmps171
theorem en172:Enters Tryz.prog 172:=Enters.of Tryz.func172 (by kernel_rfl) rfl
attribute [go_sem] Tryz.ntmps172
theorem en173:Enters Tryz.prog 173:=Enters.of Tryz.func173 (by kernel_rfl) rfl
attribute [go_sem] Tryz.ntmps173
theorem en174:Enters Tryz.prog 174:=Enters.of Tryz.func174 (by kernel_rfl) rfl
attribute [go_sem] Tryz.ntmps174
theorem en175:Enters Tryz.prog 175:=Enters.of Tryz.func175 (by kernel_rfl) rfl
attribute [go_sem] Tryz.ntmps175
theorem en197:Enters Tryz.prog 197:=Enters.of Tryz.func197 (by kernel_rfl) rfl
attribute [go_sem] Tryz.ntmps197
theorem en198:Enters Tryz.prog 198:=Enters.of Tryz.func198 (by kernel_rfl) rfl
attribute [go_sem] Tryz.ntmps198
theorem en199:Enters Tryz.prog 199:=Enters.of Tryz.func199 (by kernel_rfl) rfl
attribute [go_sem] Tryz.ntmps199
theorem en200:Enters Tryz.prog 200:=Enters.of Tryz.func200 (by kernel_rfl) rfl
attribute [go_sem] Tryz.ntmps200
theorem en201:Enters Tryz.prog 201:=Enters.of Tryz.func201 (by kernel_rfl) rfl
attribute [go_sem] Tryz.ntmps201
theorem en202:Enters Tryz.prog 202:=Enters.of Tryz.func202 (by kernel_rfl) rfl
attribute [go_sem] Tryz.ntmps202
theorem en203:Enters Tryz.prog 203:=Enters.of Tryz.func203 (by kernel_rfl) rfl
attribute [go_sem] Tryz.ntmps203
theorem en204:Enters Tryz.prog 204:=Enters.of Tryz.func204 (by kernel_rfl) rfl
attribute [go_sem] Tryz.ntmps204
theorem en205:Enters Tryz.prog 205:=Enters.of Tryz.func205 (by kernel_rfl) rfl
attribute [go_sem] Tryz.ntmps205
theorem en206:Enters Tryz.prog 206:=Enters.of Tryz.func206 (by kernel_rfl) rfl
attribute [go_sem] Tryz.ntmps206
theorem en207:Enters Tryz.prog 207:=Enters.of Tryz.func207 (by kernel_rfl) rfl
attribute [go_sem] Tryz.ntmps207
theorem en208:Enters Tryz.prog 208:=Enters.of Tryz.func208 (by kernel_rfl) rfl
attribute [go_sem] Tryz.ntmps208
theorem en209:Enters Tryz.prog 209:=Enters.of Tryz.func209 (by kernel_rfl) rfl
attribute [go_sem] Tryz.ntmps209
theorem en210:Enters Tryz.prog 210:=Enters.of Tryz.func210 (by kernel_rfl) rfl
attribute [go_sem] Tryz.ntmps210
theorem en211:Enters Tryz.prog 211:=Enters.of Tryz.func211 (by kernel_rfl) rfl
attribute [go_sem] Tryz.ntmps211
theorem en212:Enters Tryz.prog 212:=Enters.of Tryz.func212 (by kernel_rfl) rfl
attribute [go_sem] Tryz.ntmps212
theorem en213:Enters Tryz.prog 213:=Enters.of Tryz.func213 (by kernel_rfl) rfl
attribute [go_sem] Tryz.ntmps213
theorem en214:Enters Tryz.prog 214:=Enters.of Tryz.func214 (by kernel_rfl) rfl
attribute [go_sem] Tryz.ntmps214
theorem en215:Enters Tryz.prog 215:=Enters.of Tryz.func215 (by kernel_rfl) rfl
attribute [go_sem] Tryz.ntmps215
theorem en216:Enters Tryz.prog 216:=Enters.of Tryz.func216 (by kernel_rfl) rfl
attribute [go_sem] Tryz.ntmps216
theorem en217:Enters Tryz.prog 217:=Enters.of Tryz.func217 (by kernel_rfl) rfl
attribute [go_sem] Tryz.ntmps217
theorem en218:Enters Tryz.prog 218:=Enters.of Tryz.func218 (by kernel_rfl) rfl
attribute [go_sem] Tryz.ntmps218
theorem en219:Enters Tryz.prog 219:=Enters.of Tryz.func219 (by kernel_rfl) rfl
attribute [go_sem] Tryz.ntmps219
theorem en220:Enters Tryz.prog 220:=Enters.of Tryz.func220 (by kernel_rfl) rfl
attribute [go_sem] Tryz.ntmps220
theorem en236:Enters Tryz.prog 236:=Enters.of Tryz.func236 (by kernel_rfl) rfl
attribute [go_sem] Tryz.ntmps236
theorem en237:Enters Tryz.prog 237:=Enters.of Tryz.func237 (by kernel_rfl) rfl
attribute [go_sem] Tryz.ntmps237
theorem en238:Enters Tryz.prog 238:=Enters.of Tryz.func238 (by kernel_rfl) rfl
attribute [go_sem] Tryz.ntmps238
theorem en239:Enters Tryz.prog 239:=Enters.of Tryz.func239 (by kernel_rfl) rfl
attribute [go_sem] Tryz.ntmps239
theorem en240:Enters Tryz.prog 240:=Enters.of Tryz.func240 (by kernel_rfl) rfl
attribute [go_sem] Tryz.ntmps240
theorem en241:Enters Tryz.prog 241:=Enters.of Tryz.func241 (by kernel_rfl) rfl
attribute [go_sem] Tryz.ntmps241
theorem en242:Enters Tryz.prog 242:=Enters.of Tryz.func242 (by kernel_rfl) rfl
attribute [go_sem] Tryz.ntmps242
theorem en253:Enters Tryz.prog 253:=Enters.of Tryz.func253 (by kernel_rfl) rfl
attribute [go_sem] Tryz.ntmps253
theorem en254:Enters Tryz.prog 254:=Enters.of Tryz.func254 (by kernel_rfl) rfl
attribute [go_sem] Tryz.ntmps254
theorem en255:Enters Tryz.prog 255:=Enters.of Tryz.func255 (by kernel_rfl) rfl
attribute [go_sem] Tryz.ntmps255
theorem en256:Enters Tryz.prog 256:=Enters.of Tryz.func256 (by kernel_rfl) rfl
attribute [go_sem] Tryz.ntmps256
theorem en257:Enters Tryz.prog 257:=Enters.of Tryz.func257 (by kernel_rfl) rfl
attribute [go_sem] Tryz.ntmps257
theorem en258:Enters Tryz.prog 258:=Enters.of Tryz.func258 (by kernel_rfl) rfl
attribute [go_sem] Tryz.ntmps258
theorem en259:Enters Tryz.prog 259:=Enters.of Tryz.func259 (by kernel_rfl) rfl
attribute [go_sem] Tryz.ntmps259
theorem en260:Enters Tryz.prog 260:=Enters.of Tryz.func260 (by kernel_rfl) rfl
attribute [go_sem] Tryz.ntmps260
theorem en261:Enters Tryz.prog 261:=Enters.of Tryz.func261 (by kernel_rfl) rfl
attribute [go_sem] Tryz.ntmps261
theorem en262:Enters Tryz.prog 262:=Enters.of Tryz.func262 (by kernel_rfl) rfl
attribute [go_sem] Tryz.ntmps262
theorem en263:Enters Tryz.prog 263:=Enters.of Tryz.func263 (by kernel_rfl) rfl
attribute [go_sem] Tryz.ntmps263
theorem en264:Enters Tryz.prog 264:=Enters.of Tryz.func264 (by kernel_rfl) rfl
attribute [go_sem] Tryz.ntmps264
theorem en265:Enters Tryz.prog 265:=Enters.of Tryz.func265 (by kernel_rfl) rfl
attribute [go_sem] Tryz.ntmps265
theorem en266:Enters Tryz.prog 266:=Enters.of Tryz.func266 (by kernel_rfl) rfl
attribute [go_sem] Tryz.ntmps266
theorem en267:Enters Tryz.prog 267:=Enters.of Tryz.func267 (by kernel_rfl) rfl
attribute [go_sem] Tryz.ntmps267
theorem en268:Enters Tryz.prog 268:=Enters.of Tryz.func268 (by kernel_rfl) rfl
attribute [go_sem] Tryz.ntmps268
theorem en275:Enters Tryz.prog 275:=Enters.of Tryz.func275 (by kernel_rfl) rfl
attribute [go_sem] Tryz.ntmps275
theorem en276:Enters Tryz.prog 276:=Enters.of Tryz.func276 (by kernel_rfl) rfl
attribute [go_sem] Tryz.ntmps276
theorem en277:Enters Tryz.prog 277:=Enters.of Tryz.func277 (by kernel_rfl) rfl
attribute [go_sem] Tryz.ntmps277
theorem en278:Enters Tryz.prog 278:=Enters.of Tryz.func278 (by kernel_rfl) rfl
attribute [go_sem] Tryz.ntmps278
theorem en279:Enters Tryz.prog 279:=Enters.of Tryz.func279 (by kernel_rfl) rfl
attribute [go_sem] Tryz.ntmps279
theorem en280:Enters Tryz.prog 280:=Enters.of Tryz.func280 (by kernel_rfl) rfl
attribute [go_sem] Tryz.ntmps280
theorem en281:Enters Tryz.prog 281:=Enters.of Tryz.func281 (by kernel_rfl) rfl
attribute [go_sem] Tryz.ntmps281
theorem en282:Enters Tryz.prog 282:=Enters.of Tryz.func282 (by kernel_rfl) rfl
attribute [go_sem] Tryz.ntmps282
theorem en283:Enters Tryz.prog 283:=Enters.of Tryz.func283 (by kernel_rfl) rfl
attribute [go_sem] Tryz.ntmps283
theorem en284:Enters Tryz.prog 284:=Enters.of Tryz.func284 (by kernel_rfl) rfl
attribute [go_sem] Tryz.ntmps284
theorem en285:Enters Tryz.prog 285:=Enters.of Tryz.func285 (by kernel_rfl) rfl
attribute [go_sem] Tryz.ntmps285
theorem en288:Enters Tryz.prog 288:=Enters.of Tryz.func288 (by kernel_rfl) rfl
attribute [go_sem] Tryz.ntmps288
theorem en289:Enters Tryz.prog 289:=Enters.of Tryz.func289 (by kernel_rfl) rfl
attribute [go_sem] Tryz.ntmps289
theorem en290:Enters Tryz.prog 290:=Enters.of Tryz.func290 (by kernel_rfl) rfl
attribute [go_sem] Tryz.ntmps290
theorem en291:Enters Tryz.prog 291:=Enters.of Tryz.func291 (by kernel_rfl) rfl
attribute [go_sem] Tryz.ntmps291
theorem en292:Enters Tryz.prog 292:=Enters.of Tryz.func292 (by kernel_rfl) rfl
attribute [go_sem] Tryz.ntmps292
theorem en293:Enters Tryz.prog 293:=Enters.of Tryz.func293 (by kernel_rfl) rfl
attribute [go_sem] Tryz.ntmps293
theorem en297:Enters Tryz.prog 297:=Enters.of Tryz.func297 (by kernel_rfl) rfl
attribute [go_sem] Tryz.ntmps297
theorem en298:Enters Tryz.prog 298:=Enters.of Tryz.func298 (by kernel_rfl) rfl
attribute [go_sem] Tryz.ntmps298
theorem en299:Enters Tryz.prog 299:=Enters.of Tryz.func299 (by kernel_rfl) rfl
attribute [go_sem] Tryz.ntmps299
theorem en300:Enters Tryz.prog 300:=Enters.of Tryz.func300 (by kernel_rfl) rfl
attribute [go_sem] Tryz.ntmps300
theorem en301:Enters Tryz.prog 301:=Enters.of Tryz.func301 (by kernel_rfl) rfl
attribute [go_sem] Tryz.ntmps301
theorem mix:Tryz.prog.follows .mixedOrders=true:=by kernel_rfl
end Tf
end Go.Proofs.YtkciabfilokfiaaGreat
