/-  -/
import Derived.Test.YtkciabfilokfiaaGreatMB
import Derived.Test.YtkciabfilokfiaaGreatProg
import Derived.KernelRfl
open Go.Proofs.Tryz
open Go.Proofs.Tryz renaming prog→Hf
set_option linter.unusedSimpArgs false
set_option linter.unusedVariables false
attribute [go_sem_proc] Nat.reduceBEq Nat.reduceAdd Nat.reduceLT Nat.reduceLeDiff Nat.reduceEqDiff reduceCtorEq Int.reduceAdd Int.reduceSub Int.reduceNeg Int.reduceLE Int.reduceLT Int.reduceToNat Int.reduceBEq Int.reduceBNe Int.reduceEq Int.reduceNe Nat.reduceMul Nat.reduceSub
namespace Go.Proofs.YtkciabfilokfiaaGreat
open Vg
namespace Tf
@[go_sem] theorem Ki:(Hf.underlying 1).isSome=true/\(Hf.underlying 2).isSome=true:=by and_intros<;>kernel_rfl
@[go_sem] theorem Kq:tA Hf 2=some .i64:=by kernel_rfl
@[go_sem] theorem LK:yG Hf 3=1:=by kernel_rfl
@[go_sem] theorem Kt:zm Hf 3=some false/\(Hf.underlying 3).isSome=true:=by and_intros<;>kernel_rfl
@[go_sem] theorem Mk:zx Hf 3=some [Value.int .i64 0]:=by kernel_rfl
@[go_sem] theorem Kr:v6 Hf 3=8:=by kernel_rfl
@[go_sem] theorem Nr:xQ Hf 3=none:=by kernel_rfl
@[go_sem] theorem Kp:tA Hf 3=some .i64:=by kernel_rfl
@[go_sem] theorem Kl:yG Hf 4=1/\zm Hf 4=some false/\(Hf.underlying 4).isSome=true/\zx Hf 4=some [Value.bool false]/\v6 Hf 4=1:=by and_intros<;>kernel_rfl
@[go_sem] theorem Kj:Hf.underlying 4=some .bool:=by kernel_rfl
@[go_sem] theorem Kh:(Hf.underlying 5).isSome=true:=by kernel_rfl
@[go_sem] theorem Ko:tA Hf 5=some .u8:=by kernel_rfl
@[go_sem] theorem Kg:(Hf.underlying 6).isSome=true:=by kernel_rfl
@[go_sem] theorem Kn:tA Hf 6=some .u8:=by kernel_rfl
@[go_sem] theorem Kf:(Hf.underlying 7).isSome=true/\(Hf.underlying 8).isSome=true:=by and_intros<;>kernel_rfl
@[go_sem] theorem LJ:yG Hf 9=1:=by kernel_rfl
@[go_sem] theorem Ks:zm Hf 9=some false/\(Hf.underlying 9).isSome=true/\zx Hf 9=some [Value.string ⟨#[]⟩]/\rL Hf 9=true/\v6 Hf 9=16/\(Hf.underlying 10).isSome=true/\(Hf.underlying 11).isSome=true/\(Hf.underlying 12).isSome=true:=by and_intros<;>kernel_rfl
@[go_sem] theorem Lr:tA Hf 12=some .u64:=by kernel_rfl
@[go_sem] theorem LH:(Hf.underlying 13).isSome=true/\(Hf.underlying 14).isSome=true/\(Hf.underlying 15).isSome=true:=by and_intros<;>kernel_rfl
@[go_sem] theorem LW:qj Hf 15=some 322:=by kernel_rfl
@[go_sem] theorem LG:(Hf.underlying 16).isSome=true:=by kernel_rfl
@[go_sem] theorem LV:qj Hf 16=some 325:=by kernel_rfl
@[go_sem] theorem LF:(Hf.underlying 17).isSome=true:=by kernel_rfl
@[go_sem] theorem LU:qj Hf 17=some 335:=by kernel_rfl
@[go_sem] theorem LE:(Hf.underlying 18).isSome=true/\(Hf.underlying 19).isSome=true/\(Hf.underlying 20).isSome=true/\(Hf.underlying 21).isSome=true:=by and_intros<;>kernel_rfl
@[go_sem] theorem Lq:tA Hf 21=some .i32:=by kernel_rfl
@[go_sem] theorem LO:yG Hf 22=1/\zm Hf 22=some false/\(Hf.underlying 22).isSome=true:=by and_intros<;>kernel_rfl
@[go_sem] theorem vm:xQ Hf 22=some (78,11):=by kernel_rfl
@[go_sem] theorem LN:yG Hf 23=1/\zm Hf 23=some false/\(Hf.underlying 23).isSome=true:=by and_intros<;>kernel_rfl
@[go_sem] theorem P6:xQ Hf 23=some (84,3):=by kernel_rfl
@[go_sem] theorem LM:yG Hf 24=1/\zm Hf 24=some false/\(Hf.underlying 24).isSome=true:=by and_intros<;>kernel_rfl
@[go_sem] theorem P5:xQ Hf 24=some (91,4):=by kernel_rfl
@[go_sem] theorem LL:yG Hf 25=1/\zm Hf 25=some false/\(Hf.underlying 25).isSome=true/\rL Hf 25=false/\xQ Hf 25=some (51,4)/\yG Hf 26=1/\zm Hf 26=some false/\(Hf.underlying 26).isSome=true/\xQ Hf 26=some (53,6)/\dN Hf 26=none/\yG Hf 27=1/\zm Hf 27=some false:=by and_intros<;>kernel_rfl
@[go_sem] theorem LD:(Hf.underlying 27).isSome=true:=by kernel_rfl
@[go_sem] theorem jE:xQ Hf 27=some (9,1):=by kernel_rfl
@[go_sem] theorem LC:(Hf.underlying 28).isSome=true:=by kernel_rfl
@[go_sem] theorem P0:yG Hf 29=7:=by kernel_rfl
@[go_sem] theorem Kb:zm Hf 29=some true/\(Hf.underlying 29).isSome=true/\zx Hf 29=some [Value.string ⟨#[]⟩,Value.slice none 0 0,Value.slice none 0 0,Value.slice none 0 0,Value.slice none 0 0,Value.slice none 0 0,Value.slice none 0 0]/\ux Hf 29=some [(0,1),(1,1),(2,1),(3,1),(4,1),(5,1),(6,1)]/\zu Hf 29 0=some 0/\zu Hf 29 1=some 1/\zu Hf 29 2=some 2/\zu Hf 29 3=some 3/\zu Hf 29 4=some 4/\zu Hf 29 5=some 5/\zu Hf 29 6=some 6/\yG Hf 32=1:=by and_intros<;>kernel_rfl
@[go_sem] theorem Ka:zm Hf 32=some false/\(Hf.underlying 32).isSome=true/\xQ Hf 32=some (47,13):=by and_intros<;>kernel_rfl
@[go_sem] theorem PZ:yG Hf 33=1:=by kernel_rfl
@[go_sem] theorem K9:zm Hf 33=some false/\(Hf.underlying 33).isSome=true/\zx Hf 33=some [Value.slice none 0 0]/\rL Hf 33=false/\v6 Hf 33=24:=by and_intros<;>kernel_rfl
@[go_sem] theorem tj:xQ Hf 33=some (3,1):=by kernel_rfl
@[go_sem] theorem LY:dN Hf 33=none/\(Hf.underlying 34).isSome=true/\yG Hf 35=9/\zm Hf 35=some true/\(Hf.underlying 35).isSome=true:=by and_intros<;>kernel_rfl
@[go_sem] theorem Mj:zx Hf 35=some [Value.string ⟨#[]⟩,Value.slice none 0 0,Value.slice none 0 0,Value.slice none 0 0,Value.slice none 0 0,Value.slice none 0 0,Value.slice none 0 0,Value.slice none 0 0,Value.slice none 0 0]:=by kernel_rfl
@[go_sem] theorem LX:ux Hf 35=some [(0,7),(7,1),(8,1)]/\zu Hf 35 0=some 0/\zu Hf 35 1=some 7/\zu Hf 35 2=some 8/\(Hf.underlying 36).isSome=true:=by and_intros<;>kernel_rfl
@[go_sem] theorem Lp:tA Hf 36=some .i64:=by kernel_rfl
@[go_sem] theorem LB:(Hf.underlying 40).isSome=true/\yG Hf 41=5:=by and_intros<;>kernel_rfl
@[go_sem] theorem NZ:zm Hf 41=some true:=by kernel_rfl
@[go_sem] theorem LA:(Hf.underlying 41).isSome=true/\zx Hf 41=some [Value.int .i64 0,Value.int .i64 0,Value.int .i64 0,Value.int .i64 0,Value.int .i64 0]/\v6 Hf 41=40/\ux Hf 41=some [(0,1),(1,1),(2,1),(3,1),(4,1)]/\zu Hf 41 0=some 0/\zu Hf 41 1=some 1/\zu Hf 41 2=some 2/\zu Hf 41 3=some 3/\zu Hf 41 4=some 4/\(Hf.underlying 42).isSome=true/\yG Hf 43=10/\zm Hf 43=some true:=by and_intros<;>kernel_rfl
@[go_sem] theorem Mz:(Hf.underlying 43).isSome=true:=by kernel_rfl
@[go_sem] theorem Mi:zx Hf 43=some [Value.int .i64 0,Value.bool false,Value.int .i64 0,Value.int .i64 0,Value.int .i64 0,Value.int .i64 0,Value.int .i64 0,Value.int .i64 0,Value.int .i64 0,Value.int .i64 0]:=by kernel_rfl
@[go_sem] theorem KY:v6 Hf 43=80/\ux Hf 43=some [(0,1),(1,1),(2,1),(3,1),(4,1),(5,5)]/\zu Hf 43 0=some 0/\zu Hf 43 1=some 1/\zu Hf 43 2=some 2/\zu Hf 43 3=some 3/\zu Hf 43 4=some 4/\eP Hf 43 5=some (5,5,true)/\zu Hf 43 5=some 5/\(Hf.underlying 44).isSome=true/\yG Hf 45=2:=by and_intros<;>kernel_rfl
@[go_sem] theorem NY:zm Hf 45=some true:=by kernel_rfl
@[go_sem] theorem My:(Hf.underlying 45).isSome=true/\zx Hf 45=some [Value.int .i64 0,Value.int .i64 0]/\v6 Hf 45=16/\ux Hf 45=some [(0,1),(1,1)]/\zu Hf 45 0=some 0/\zu Hf 45 1=some 1/\(Hf.underlying 46).isSome=true/\yG Hf 47=13:=by and_intros<;>kernel_rfl
@[go_sem] theorem NX:zm Hf 47=some true:=by kernel_rfl
@[go_sem] theorem Mx:(Hf.underlying 47).isSome=true:=by kernel_rfl
@[go_sem] theorem Mh:zx Hf 47=some [Value.string ⟨#[]⟩,Value.int .i64 0,Value.bool false,Value.int .i64 0,Value.int .i64 0,Value.int .i64 0,Value.int .i64 0,Value.int .i64 0,Value.int .i64 0,Value.int .i64 0,Value.int .i64 0,Value.int .i64 0,Value.int .i64 0]:=by kernel_rfl
@[go_sem] theorem KW:v6 Hf 47=112/\ux Hf 47=some [(0,1),(1,10),(11,2)]/\zu Hf 47 0=some 0/\zu Hf 47 2=some 11/\(Hf.underlying 50).isSome=true:=by and_intros<;>kernel_rfl
@[go_sem] theorem PY:yG Hf 51=4:=by kernel_rfl
@[go_sem] theorem NW:zm Hf 51=some true:=by kernel_rfl
@[go_sem] theorem Mw:(Hf.underlying 51).isSome=true/\zx Hf 51=some [Value.string ⟨#[]⟩,Value.string ⟨#[]⟩,Value.int .i64 0,Value.int .i64 0]/\v6 Hf 51=48/\ux Hf 51=some [(0,1),(1,1),(2,1),(3,1)]/\zu Hf 51 0=some 0/\zu Hf 51 1=some 1/\zu Hf 51 2=some 2/\zu Hf 51 3=some 3/\(Hf.underlying 52).isSome=true:=by and_intros<;>kernel_rfl
@[go_sem] theorem PX:yG Hf 53=6:=by kernel_rfl
@[go_sem] theorem K8:zm Hf 53=some true/\(Hf.underlying 53).isSome=true/\zx Hf 53=some [Value.string ⟨#[]⟩,Value.string ⟨#[]⟩,Value.string ⟨#[]⟩,Value.slice none 0 0,Value.string ⟨#[]⟩,Value.slice none 0 0]/\v6 Hf 53=112/\ux Hf 53=some [(0,1),(1,1),(2,1),(3,1),(4,1),(5,1)]/\zu Hf 53 0=some 0/\zu Hf 53 1=some 1/\zu Hf 53 2=some 2/\zu Hf 53 3=some 3/\zu Hf 53 4=some 4/\zu Hf 53 5=some 5:=by and_intros<;>kernel_rfl
@[go_sem] theorem Lo:tA Hf 54=some .u16:=by kernel_rfl
@[go_sem] theorem K7:zm Hf 56=some false/\(Hf.underlying 56).isSome=true:=by and_intros<;>kernel_rfl
@[go_sem] theorem LT:qj Hf 58=some 51:=by kernel_rfl
@[go_sem] theorem Mv:(Hf.underlying 67).isSome=true/\zm Hf 68=some false/\(Hf.underlying 68).isSome=true/\(Hf.underlying 77).isSome=true:=by and_intros<;>kernel_rfl
@[go_sem] theorem PW:yG Hf 78=11:=by kernel_rfl
@[go_sem] theorem NV:zm Hf 78=some true:=by kernel_rfl
@[go_sem] theorem Mu:(Hf.underlying 78).isSome=true:=by kernel_rfl
@[go_sem] theorem Mg:zx Hf 78=some [Value.string ⟨#[]⟩,Value.int .i64 0,Value.bool false,Value.int .i64 0,Value.int .i64 0,Value.int .i64 0,Value.int .i64 0,Value.int .i64 0,Value.int .i64 0,Value.int .i64 0,Value.int .i64 0]:=by kernel_rfl
@[go_sem] theorem KV:v6 Hf 78=96/\ux Hf 78=some [(0,1),(1,10)]/\zu Hf 78 0=some 0/\zu Hf 78 1=some 1/\zm Hf 79=some false/\(Hf.underlying 79).isSome=true/\(Hf.underlying 81).isSome=true/\yG Hf 82=2/\zm Hf 82=some true/\(Hf.underlying 82).isSome=true/\zx Hf 82=some [Value.slice none 0 0,Value.slice none 0 0]/\zu Hf 82 0=some 0:=by and_intros<;>kernel_rfl
@[go_sem] theorem Pb:zu Hf 82 1=some 1/\(Hf.underlying 83).isSome=true:=by and_intros<;>kernel_rfl
@[go_sem] theorem PV:yG Hf 84=3:=by kernel_rfl
@[go_sem] theorem K6:zm Hf 84=some true/\(Hf.underlying 84).isSome=true/\zx Hf 84=some [Value.string ⟨#[]⟩,Value.slice none 0 0,Value.slice none 0 0]/\v6 Hf 84=64/\zu Hf 84 0=some 0/\zu Hf 84 1=some 1/\zm Hf 85=some false/\(Hf.underlying 85).isSome=true/\yG Hf 87=1/\zm Hf 87=some false/\(Hf.underlying 87).isSome=true:=by and_intros<;>kernel_rfl
@[go_sem] theorem dE:xQ Hf 87=some (33,1):=by kernel_rfl
@[go_sem] theorem Mt:(Hf.underlying 88).isSome=true/\yG Hf 89=3/\zm Hf 89=some true/\(Hf.underlying 89).isSome=true/\zx Hf 89=some [Value.slice none 0 0,Value.slice none 0 0,Value.slice none 0 0]/\zu Hf 89 0=some 0/\zu Hf 89 1=some 1/\zu Hf 89 2=some 2/\(Hf.underlying 90).isSome=true:=by and_intros<;>kernel_rfl
@[go_sem] theorem PU:yG Hf 91=4:=by kernel_rfl
@[go_sem] theorem K5:zm Hf 91=some true/\(Hf.underlying 91).isSome=true/\zx Hf 91=some [Value.string ⟨#[]⟩,Value.slice none 0 0,Value.slice none 0 0,Value.slice none 0 0]/\v6 Hf 91=88/\zu Hf 91 0=some 0/\zu Hf 91 1=some 1/\zm Hf 92=some false/\(Hf.underlying 92).isSome=true/\yG Hf 97=1/\zm Hf 97=some false/\(Hf.underlying 97).isSome=true/\zx Hf 97=some [Value.pointer none]:=by and_intros<;>kernel_rfl
@[go_sem] theorem LS:qj Hf 97=some 147:=by kernel_rfl
@[go_sem] theorem Mb:zm Hf 100=some false/\(Hf.underlying 100).isSome=true/\zx Hf 100=some [Value.nilFunc]/\zm Hf 104=some false/\(Hf.underlying 104).isSome=true/\xQ Hf 104=some (45,2):=by and_intros<;>kernel_rfl
@[go_sem] theorem MD:qj Hf 129=some 9:=by kernel_rfl
@[go_sem] theorem Np:(Hf.underlying 133).isSome=true:=by kernel_rfl
@[go_sem] theorem MC:qj Hf 133=some 53:=by kernel_rfl
@[go_sem] theorem Ma:zm Hf 140=some false/\(Hf.underlying 140).isSome=true/\zm Hf 142=some false/\(Hf.underlying 142).isSome=true/\zm Hf 143=some false/\(Hf.underlying 143).isSome=true/\zm Hf 144=some false/\(Hf.underlying 144).isSome=true/\yG Hf 145=1/\zm Hf 145=some false/\(Hf.underlying 145).isSome=true/\(Hf.underlying 146).isSome=true:=by and_intros<;>kernel_rfl
@[go_sem] theorem No:(Hf.underlying 147).isSome=true:=by kernel_rfl
@[go_sem] theorem N4:zx Hf 147=some [Value.string ⟨#[]⟩,Value.slice none 0 0,Value.slice none 0 0,Value.slice none 0 0,Value.slice none 0 0,Value.slice none 0 0,Value.slice none 0 0,Value.map none,Value.map none,Value.map none,Value.map none]:=by kernel_rfl
@[go_sem] theorem MK:ux Hf 147=some [(0,7),(7,1),(8,1),(9,1),(10,1)]/\zu Hf 147 0=some 0/\zu Hf 147 1=some 7/\zu Hf 147 2=some 8/\zu Hf 147 3=some 9/\zu Hf 147 4=some 10/\(Hf.underlying 148).isSome=true/\(Hf.underlying 149).isSome=true/\(Hf.underlying 151).isSome=true/\(Hf.underlying 152).isSome=true/\(Hf.underlying 154).isSome=true/\(Hf.underlying 155).isSome=true:=by and_intros<;>kernel_rfl
@[go_sem] theorem Nm:(Hf.underlying 157).isSome=true/\(Hf.underlying 158).isSome=true/\(Hf.underlying 160).isSome=true/\xQ Hf 160=some (100,1)/\yG Hf 161=1/\zm Hf 161=some false/\(Hf.underlying 161).isSome=true/\zx Hf 161=some [Value.nilFunc]/\yG Hf 162=1/\zm Hf 162=some false/\(Hf.underlying 162).isSome=true/\zx Hf 162=some [Value.slice none 0 0]:=by and_intros<;>kernel_rfl
@[go_sem] theorem Ns:xQ Hf 162=some (4,1)/\dN Hf 162=none/\(Hf.underlying 170).isSome=true:=by and_intros<;>kernel_rfl
@[go_sem] theorem MB:qj Hf 170=some 82:=by kernel_rfl
@[go_sem] theorem Nl:(Hf.underlying 171).isSome=true:=by kernel_rfl
@[go_sem] theorem MA:qj Hf 171=some 89:=by kernel_rfl
@[go_sem] theorem Nk:(Hf.underlying 173).isSome=true/\zm Hf 182=some false/\(Hf.underlying 182).isSome=true/\xQ Hf 182=some (43,10)/\(Hf.underlying 189).isSome=true/\(Hf.underlying 195).isSome=true/\(Hf.underlying 196).isSome=true/\(Hf.underlying 197).isSome=true/\(Hf.underlying 198).isSome=true/\zm Hf 205=some false/\(Hf.underlying 205).isSome=true:=by and_intros<;>kernel_rfl
@[go_sem] theorem Nz:qj Hf 205=some 3:=by kernel_rfl
@[go_sem] theorem XO:yG Hf 206=5:=by kernel_rfl
@[go_sem] theorem Nj:(Hf.underlying 206).isSome=true/\zx Hf 206=some [Value.pointer none,Value.pointer none,Value.pointer none,Value.pointer none,Value.pointer none]/\dN Hf 206=some (5,1):=by and_intros<;>kernel_rfl
@[go_sem] theorem M7:eX Hf 206=some 5:=by kernel_rfl
@[go_sem] theorem MJ:ux Hf 206=some [(0,1),(1,1),(2,1),(3,1),(4,1)]/\(Hf.underlying 208).isSome=true:=by and_intros<;>kernel_rfl
@[go_sem] theorem Ny:qj Hf 208=some 41:=by kernel_rfl
@[go_sem] theorem Ni:(Hf.underlying 213).isSome=true/\(Hf.underlying 222).isSome=true/\xQ Hf 222=some (225,4)/\(Hf.underlying 224).isSome=true/\yG Hf 225=4/\zm Hf 225=some true/\(Hf.underlying 225).isSome=true/\zx Hf 225=some [Value.string ⟨#[]⟩,Value.int .i64 0,Value.int .i64 0,Value.int .i64 0]/\ux Hf 225=some [(0,1),(1,1),(2,1),(3,1)]/\zu Hf 225 0=some 0/\zu Hf 225 1=some 1/\zu Hf 225 2=some 2:=by and_intros<;>kernel_rfl
@[go_sem] theorem Qy:zu Hf 225 3=some 3/\(Hf.underlying 227).isSome=true/\xQ Hf 227=some (41,5)/\(Hf.underlying 234).isSome=true/\yG Hf 235=11/\zm Hf 235=some true/\(Hf.underlying 235).isSome=true:=by and_intros<;>kernel_rfl
@[go_sem] theorem N3:zx Hf 235=some [Value.int .i64 0,Value.bool false,Value.int .i64 0,Value.int .i64 0,Value.int .i64 0,Value.int .i64 0,Value.int .i64 0,Value.int .i64 0,Value.int .i64 0,Value.int .i64 0,Value.int .i64 0]:=by kernel_rfl
@[go_sem] theorem MI:ux Hf 235=some [(0,10),(10,1)]/\zu Hf 235 0=some 0/\zu Hf 235 1=some 10/\(Hf.underlying 238).isSome=true/\(Hf.underlying 248).isSome=true/\yG Hf 249=2/\zm Hf 249=some true/\(Hf.underlying 249).isSome=true/\zx Hf 249=some [Value.bool false,Value.slice none 0 0]/\ux Hf 249=some [(0,1),(1,1)]/\zu Hf 249 0=some 0/\zu Hf 249 1=some 1:=by and_intros<;>kernel_rfl
@[go_sem] theorem M9:zm Hf 277=some false/\(Hf.underlying 277).isSome=true:=by and_intros<;>kernel_rfl
@[go_sem] theorem MX:tA Hf 277=some .u64:=by kernel_rfl
@[go_sem] theorem Nh:(Hf.underlying 278).isSome=true/\yG Hf 279=2/\zm Hf 279=some true/\(Hf.underlying 279).isSome=true/\zx Hf 279=some [Value.int .u64 0,Value.int .u64 0]/\ux Hf 279=some [(0,1),(1,1)]/\zu Hf 279 0=some 0/\zu Hf 279 1=some 1/\(Hf.underlying 280).isSome=true/\yG Hf 281=4/\zm Hf 281=some true/\(Hf.underlying 281).isSome=true:=by and_intros<;>kernel_rfl
@[go_sem] theorem N2:zx Hf 281=some [Value.int .u64 0,Value.int .u64 0,Value.int .u64 0,Value.int .u64 0]/\ux Hf 281=some [(0,2),(2,2)]/\zu Hf 281 0=some 0/\zu Hf 281 1=some 2/\(Hf.underlying 285).isSome=true/\(Hf.underlying 303).isSome=true:=by and_intros<;>kernel_rfl
@[go_sem] theorem MW:tA Hf 303=some .u64:=by kernel_rfl
@[go_sem] theorem Ng:(Hf.underlying 310).isSome=true:=by kernel_rfl
@[go_sem] theorem cU:yG Hf 311=2:=by kernel_rfl
@[go_sem] theorem Nf:(Hf.underlying 311).isSome=true/\zx Hf 311=some [Value.int .u64 0,Value.int .u64 0]/\ux Hf 311=some [(0,1),(1,1)]/\zu Hf 311 0=some 0/\zu Hf 311 1=some 1/\(Hf.underlying 316).isSome=true/\(Hf.underlying 317).isSome=true:=by and_intros<;>kernel_rfl
@[go_sem] theorem Nx:qj Hf 319=some 337:=by kernel_rfl
@[go_sem] theorem Nd:(Hf.underlying 321).isSome=true/\(Hf.underlying 322).isSome=true/\(Hf.underlying 323).isSome=true:=by and_intros<;>kernel_rfl
@[go_sem] theorem M6:eX Hf 323=some 0:=by kernel_rfl
@[go_sem] theorem Nc:(Hf.underlying 324).isSome=true/\(Hf.underlying 325).isSome=true/\(Hf.underlying 327).isSome=true:=by and_intros<;>kernel_rfl
@[go_sem] theorem MV:tA Hf 327=some .u32:=by kernel_rfl
@[go_sem] theorem Nb:(Hf.underlying 328).isSome=true:=by kernel_rfl
@[go_sem] theorem MU:tA Hf 328=some .u8:=by kernel_rfl
@[go_sem] theorem Na:(Hf.underlying 329).isSome=true:=by kernel_rfl
@[go_sem] theorem MT:tA Hf 329=some .u8:=by kernel_rfl
@[go_sem] theorem N9:(Hf.underlying 330).isSome=true/\(Hf.underlying 331).isSome=true:=by and_intros<;>kernel_rfl
@[go_sem] theorem Nw:qj Hf 331=some 5:=by kernel_rfl
@[go_sem] theorem N8:(Hf.underlying 332).isSome=true:=by kernel_rfl
@[go_sem] theorem MS:tA Hf 332=some .i32:=by kernel_rfl
@[go_sem] theorem N7:(Hf.underlying 333).isSome=true:=by kernel_rfl
@[go_sem] theorem MR:tA Hf 333=some .i32:=by kernel_rfl
@[go_sem] theorem N6:(Hf.underlying 334).isSome=true/\(Hf.underlying 335).isSome=true:=by and_intros<;>kernel_rfl
@[go_sem] theorem Nq:PP Hf 338=true:=by kernel_rfl
theorem Uw:Hf.eqGuardType Hf.depth 41=false:=by kernel_rfl
theorem Pm:pX Hf 20 41=some [.i .i64,.i .i64,.i .i64,.i .i64,.i .i64]:=by kernel_rfl
@[go_sem] theorem KF (a0 b0:Int)(a1 b1:Int)(a2 b2:Int)(a3 b3:Int)(a4 b4:Int):mm Hf 41 [.v (.int .i64 a0),.v (.int .i64 a1),.v (.int .i64 a2),.v (.int .i64 a3),.v (.int .i64 a4)] [.v (.int .i64 b0),.v (.int .i64 b1),.v (.int .i64 b2),.v (.int .i64 b3),.v (.int .i64 b4)]:=fun _ h=>qO Pm NZ Uw rfl rfl h
theorem Uv:Hf.eqGuardType Hf.depth 45=false:=by kernel_rfl
theorem Pk:pX Hf 20 45=some [.i .i64,.i .i64]:=by kernel_rfl
@[go_sem] theorem KE (a0 b0:Int)(a1 b1:Int):mm Hf 45 [.v (.int .i64 a0),.v (.int .i64 a1)] [.v (.int .i64 b0),.v (.int .i64 b1)]:=fun _ h=>qO Pk NY Uv rfl rfl h
theorem Uu:Hf.eqGuardType Hf.depth 47=false:=by kernel_rfl
theorem Pj:pX Hf 20 47=some [.s,.i .i64,.b,.i .i64,.i .i64,.i .i64,.i .i64,.i .i64,.i .i64,.i .i64,.i .i64,.i .i64,.i .i64]:=by kernel_rfl
@[go_sem] theorem KD (a0 b0:ByteArray)(a1 b1:Int)(a2 b2:Bool)(a3 b3:Int)(a4 b4:Int)(a5 b5:Int)(a6 b6:Int)(a7 b7:Int)(a8 b8:Int)(a9 b9:Int)(a10 b10:Int)(a11 b11:Int)(a12 b12:Int):mm Hf 47 [.v (.string a0),.v (.int .i64 a1),.v (.bool a2),.v (.int .i64 a3),.v (.int .i64 a4),.v (.int .i64 a5),.v (.int .i64 a6),.v (.int .i64 a7),.v (.int .i64 a8),.v (.int .i64 a9),.v (.int .i64 a10),.v (.int .i64 a11),.v (.int .i64 a12)] [.v (.string b0),.v (.int .i64 b1),.v (.bool b2),.v (.int .i64 b3),.v (.int .i64 b4),.v (.int .i64 b5),.v (.int .i64 b6),.v (.int .i64 b7),.v (.int .i64 b8),.v (.int .i64 b9),.v (.int .i64 b10),.v (.int .i64 b11),.v (.int .i64 b12)]:=fun _ h=>qO Pj NX Uu rfl rfl h
theorem Ut:Hf.eqGuardType Hf.depth 51=false:=by kernel_rfl
theorem Pi:pX Hf 20 51=some [.s,.s,.i .i64,.i .i64]:=by kernel_rfl
@[go_sem] theorem KC (a0 b0:ByteArray)(a1 b1:ByteArray)(a2 b2:Int)(a3 b3:Int):mm Hf 51 [.v (.string a0),.v (.string a1),.v (.int .i64 a2),.v (.int .i64 a3)] [.v (.string b0),.v (.string b1),.v (.int .i64 b2),.v (.int .i64 b3)]:=fun _ h=>qO Pi NW Ut rfl rfl h
theorem Us:Hf.eqGuardType Hf.depth 78=false:=by kernel_rfl
theorem Ph:pX Hf 20 78=some [.s,.i .i64,.b,.i .i64,.i .i64,.i .i64,.i .i64,.i .i64,.i .i64,.i .i64,.i .i64]:=by kernel_rfl
@[go_sem] theorem KB (a0 b0:ByteArray)(a1 b1:Int)(a2 b2:Bool)(a3 b3:Int)(a4 b4:Int)(a5 b5:Int)(a6 b6:Int)(a7 b7:Int)(a8 b8:Int)(a9 b9:Int)(a10 b10:Int):mm Hf 78 [.v (.string a0),.v (.int .i64 a1),.v (.bool a2),.v (.int .i64 a3),.v (.int .i64 a4),.v (.int .i64 a5),.v (.int .i64 a6),.v (.int .i64 a7),.v (.int .i64 a8),.v (.int .i64 a9),.v (.int .i64 a10)] [.v (.string b0),.v (.int .i64 b1),.v (.bool b2),.v (.int .i64 b3),.v (.int .i64 b4),.v (.int .i64 b5),.v (.int .i64 b6),.v (.int .i64 b7),.v (.int .i64 b8),.v (.int .i64 b9),.v (.int .i64 b10)]:=fun _ h=>qO Ph NV Us rfl rfl h
theorem dn {f:FuncId}{fn:Func}{b:Code}(hf:Hf.funcs[f]?=some fn)(hn:(fn.name== "runtime.NumGoroutine")=false)(hb:fn.body=some b):Enters Hf f:=fun args w=>by
 have h1:fn.name≠ "runtime.NumGoroutine" :=by simpa using hn
 simp[callFunc,hf,h1,hb]
theorem zd {f:FuncId}{fn:Func}{b:Code}(hf:Hf.funcs[f]?=some fn)(hn:(fn.name== "runtime.NumGoroutine")=false:=by kernel_rfl)(hb:fn.body=some b:=by exact rfl):Enters Hf f:=dn hf hn hb
theorem KG:Enters Hf 5:=zd func5
theorem NH:Enters Hf 11:=zd func11
theorem NG:Enters Hf 12:=zd func12
theorem Rm:Enters Hf 13:=zd func13
theorem NF:Enters Hf 14:=zd func14
theorem NE:Enters Hf 15:=zd func15
theorem RU:Enters Hf 16:=zd func16
theorem ND:Enters Hf 18:=zd func18
theorem NC:Enters Hf 19:=zd func19
theorem Sh:Enters Hf 20:=zd func20
theorem NB:Enters Hf 21:=zd func21
theorem SZ:Enters Hf 22:=zd func22
theorem NA:Enters Hf 23:=zd func23
theorem Oz:Enters Hf 29:=zd func29
theorem TD:Enters Hf 32:=zd func32
theorem TC:Enters Hf 34:=zd func34
theorem TB:Enters Hf 36:=zd func36
theorem Oy:Enters Hf 38:=zd func38
theorem Ox:Enters Hf 39:=zd func39
theorem Ow:Enters Hf 40:=zd func40
theorem Ov:Enters Hf 41:=zd func41
theorem Ou:Enters Hf 42:=zd func42
theorem Ot:Enters Hf 43:=zd func43
theorem Oq:Enters Hf 44:=zd func44
theorem Oo:Enters Hf 45:=zd func45
theorem On:Enters Hf 46:=zd func46
theorem Om:Enters Hf 47:=zd func47
theorem Ol:Enters Hf 48:=zd func48
theorem TA:Enters Hf 49:=zd func49
theorem Ok:Enters Hf 50:=zd func50
theorem Oj:Enters Hf 51:=zd func51
theorem Oi:Enters Hf 52:=zd func52
theorem Oh:Enters Hf 53:=zd func53
theorem Og:Enters Hf 54:=zd func54
theorem Of:Enters Hf 55:=zd func55
theorem Oe:Enters Hf 56:=zd func56
theorem Od:Enters Hf 57:=zd func57
theorem Oc:Enters Hf 58:=zd func58
theorem Ob:Enters Hf 59:=zd func59
theorem Oa:Enters Hf 60:=zd func60
theorem O9:Enters Hf 61:=zd func61
theorem O8:Enters Hf 62:=zd func62
theorem O7:Enters Hf 63:=zd func63
theorem O6:Enters Hf 64:=zd func64
theorem O5:Enters Hf 65:=zd func65
theorem O4:Enters Hf 66:=zd func66
theorem O3:Enters Hf 67:=zd func67
theorem O2:Enters Hf 68:=zd func68
theorem O1:Enters Hf 69:=zd func69
theorem O0:Enters Hf 70:=zd func70
theorem OZ:Enters Hf 71:=zd func71
theorem OY:Enters Hf 72:=zd func72
theorem OX:Enters Hf 73:=zd func73
theorem Uz:Enters Hf 74:=zd func74
theorem OW:Enters Hf 77:=zd func77
theorem OV:Enters Hf 78:=zd func78
theorem OU:Enters Hf 79:=zd func79
theorem OT:Enters Hf 80:=zd func80
theorem OS:Enters Hf 81:=zd func81
theorem OR:Enters Hf 82:=zd func82
theorem OQ:Enters Hf 83:=zd func83
theorem OP:Enters Hf 84:=zd func84
theorem OO:Enters Hf 85:=zd func85
theorem ON:Enters Hf 86:=zd func86
theorem OM:Enters Hf 87:=zd func87
theorem OL:Enters Hf 88:=zd func88
theorem OK:Enters Hf 89:=zd func89
theorem OJ:Enters Hf 90:=zd func90
theorem OI:Enters Hf 91:=zd func91
theorem OH:Enters Hf 92:=zd func92
theorem OG:Enters Hf 93:=zd func93
theorem OF:Enters Hf 94:=zd func94
theorem OE:Enters Hf 95:=zd func95
theorem OD:Enters Hf 96:=zd func96
theorem OC:Enters Hf 97:=zd func97
theorem Uy:Enters Hf 98:=zd func98
theorem OB:Enters Hf 99:=zd func99
theorem QP:Enters Hf 100:=zd func100
theorem QO:Enters Hf 101:=zd func101
theorem QN:Enters Hf 102:=zd func102
theorem QM:Enters Hf 103:=zd func103
theorem QL:Enters Hf 104:=zd func104
theorem QK:Enters Hf 105:=zd func105
theorem aa:Enters Hf 106:=zd func106
theorem QJ:Enters Hf 107:=zd func107
theorem QI:Enters Hf 108:=zd func108
theorem QH:Enters Hf 109:=zd func109
theorem QG:Enters Hf 110:=zd func110
theorem QF:Enters Hf 111:=zd func111
theorem QE:Enters Hf 112:=zd func112
theorem QD:Enters Hf 113:=zd func113
theorem QC:Enters Hf 114:=zd func114
theorem QB:Enters Hf 115:=zd func115
theorem QA:Enters Hf 116:=zd func116
theorem Rz:Enters Hf 117:=zd func117
theorem Ry:Enters Hf 118:=zd func118
theorem Rx:Enters Hf 119:=zd func119
theorem Rw:Enters Hf 120:=zd func120
theorem Rv:Enters Hf 121:=zd func121
theorem Ru:Enters Hf 122:=zd func122
theorem Rt:Enters Hf 123:=zd func123
theorem Rs:Enters Hf 124:=zd func124
theorem Rr:Enters Hf 125:=zd func125
theorem Rq:Enters Hf 126:=zd func126
theorem Rp:Enters Hf 127:=zd func127
theorem Ro:Enters Hf 128:=zd func128
theorem Rn:Enters Hf 129:=zd func129
theorem aZ:Enters Hf 130:=zd func130
theorem Rl:Enters Hf 131:=zd func131
theorem Rk:Enters Hf 132:=zd func132
theorem wU:Enters Hf 133:=zd func133
theorem Rj:Enters Hf 134:=zd func134
theorem Ri:Enters Hf 135:=zd func135
theorem Rh:Enters Hf 136:=zd func136
theorem Rg:Enters Hf 137:=zd func137
theorem Rf:Enters Hf 138:=zd func138
theorem Re:Enters Hf 139:=zd func139
theorem Rd:Enters Hf 140:=zd func140
theorem Rc:Enters Hf 141:=zd func141
theorem Rb:Enters Hf 142:=zd func142
theorem Ra:Enters Hf 143:=zd func143
theorem R9:Enters Hf 144:=zd func144
theorem R8:Enters Hf 147:=zd func147
theorem R7:Enters Hf 148:=zd func148
theorem R6:Enters Hf 149:=zd func149
theorem R3:Enters Hf 150:=zd func150
theorem R2:Enters Hf 151:=zd func151
theorem R1:Enters Hf 152:=zd func152
theorem R0:Enters Hf 153:=zd func153
theorem RZ:Enters Hf 154:=zd func154
theorem Xl:Enters Hf 155:=zd func155
theorem RY:Enters Hf 156:=zd func156
theorem RX:Enters Hf 157:=zd func157
theorem RW:Enters Hf 158:=zd func158
theorem RV:Enters Hf 159:=zd func159
theorem RT:Enters Hf 160:=zd func160
theorem Xk:Enters Hf 161:=zd func161
theorem RS:Enters Hf 162:=zd func162
theorem RQ:Enters Hf 163:=zd func163
theorem RP:Enters Hf 164:=zd func164
theorem RO:Enters Hf 165:=zd func165
theorem RN:Enters Hf 166:=zd func166
theorem RM:Enters Hf 167:=zd func167
theorem RL:Enters Hf 168:=zd func168
theorem RK:Enters Hf 169:=zd func169
theorem RJ:Enters Hf 170:=zd func170
theorem Xj:Enters Hf 171:=zd func171
theorem wT:Enters Hf 172:=zd func172
theorem RI:Enters Hf 173:=zd func173
theorem RH:Enters Hf 174:=zd func174
theorem RG:Enters Hf 175:=zd func175
theorem Xi:Enters Hf 176:=zd func176
theorem RF:Enters Hf 177:=zd func177
theorem Xh:Enters Hf 178:=zd func178
theorem RE:Enters Hf 179:=zd func179
theorem RD:Enters Hf 180:=zd func180
theorem RC:Enters Hf 181:=zd func181
theorem RB:Enters Hf 182:=zd func182
theorem RA:Enters Hf 183:=zd func183
theorem Sz:Enters Hf 184:=zd func184
theorem Sy:Enters Hf 185:=zd func185
theorem Sx:Enters Hf 186:=zd func186
theorem mU:Enters Hf 187:=zd func187
theorem Sw:Enters Hf 188:=zd func188
theorem Su:Enters Hf 189:=zd func189
theorem Ss:Enters Hf 190:=zd func190
theorem Sr:Enters Hf 191:=zd func191
theorem Sq:Enters Hf 192:=zd func192
theorem Sp:Enters Hf 193:=zd func193
theorem So:Enters Hf 194:=zd func194
theorem Sn:Enters Hf 195:=zd func195
theorem Sl:Enters Hf 196:=zd func196
theorem Sk:Enters Hf 197:=zd func197
theorem Sj:Enters Hf 198:=zd func198
theorem Si:Enters Hf 199:=zd func199
theorem Sf:Enters Hf 200:=zd func200
theorem Se:Enters Hf 201:=zd func201
theorem Sd:Enters Hf 202:=zd func202
theorem tG:Enters Hf 203:=zd func203
theorem Sc:Enters Hf 204:=zd func204
theorem Xg:Enters Hf 205:=zd func205
theorem Xf:Enters Hf 206:=zd func206
theorem Sb:Enters Hf 207:=zd func207
theorem Sa:Enters Hf 208:=zd func208
theorem S9:Enters Hf 209:=zd func209
theorem S8:Enters Hf 210:=zd func210
theorem S7:Enters Hf 211:=zd func211
theorem S6:Enters Hf 212:=zd func212
theorem S5:Enters Hf 213:=zd func213
theorem Xe:Enters Hf 214:=zd func214
theorem S4:Enters Hf 215:=zd func215
theorem S2:Enters Hf 216:=zd func216
theorem aY:Enters Hf 217:=zd func217
theorem S1:Enters Hf 218:=zd func218
theorem S0:Enters Hf 219:=zd func219
theorem SY:Enters Hf 220:=zd func220
theorem SX:Enters Hf 221:=zd func221
theorem SW:Enters Hf 222:=zd func222
theorem Xd:Enters Hf 223:=zd func223
theorem SV:Enters Hf 224:=zd func224
theorem SU:Enters Hf 225:=zd func225
theorem ST:Enters Hf 226:=zd func226
theorem SS:Enters Hf 227:=zd func227
theorem SR:Enters Hf 228:=zd func228
theorem SQ:Enters Hf 229:=zd func229
theorem SP:Enters Hf 230:=zd func230
theorem SO:Enters Hf 231:=zd func231
theorem SN:Enters Hf 232:=zd func232
theorem SM:Enters Hf 233:=zd func233
theorem SL:Enters Hf 234:=zd func234
theorem SK:Enters Hf 235:=zd func235
theorem SJ:Enters Hf 236:=zd func236
theorem Xc:Enters Hf 237:=zd func237
theorem SI:Enters Hf 238:=zd func238
theorem SH:Enters Hf 239:=zd func239
theorem SG:Enters Hf 240:=zd func240
theorem SF:Enters Hf 241:=zd func241
theorem SE:Enters Hf 242:=zd func242
theorem SD:Enters Hf 243:=zd func243
theorem SC:Enters Hf 244:=zd func244
theorem aX:Enters Hf 245:=zd func245
theorem SB:Enters Hf 246:=zd func246
theorem SA:Enters Hf 247:=zd func247
theorem Tz:Enters Hf 248:=zd func248
theorem Ty:Enters Hf 249:=zd func249
theorem Tx:Enters Hf 250:=zd func250
theorem Tw:Enters Hf 251:=zd func251
theorem jm:Enters Hf 252:=zd func252
theorem Tv:Enters Hf 253:=zd func253
theorem Tu:Enters Hf 254:=zd func254
theorem Ts:Enters Hf 255:=zd func255
theorem Tq:Enters Hf 256:=zd func256
theorem Tp:Enters Hf 257:=zd func257
theorem To:Enters Hf 258:=zd func258
theorem Tn:Enters Hf 259:=zd func259
theorem Tm:Enters Hf 260:=zd func260
theorem Tl:Enters Hf 261:=zd func261
theorem Tk:Enters Hf 262:=zd func262
theorem Tj:Enters Hf 263:=zd func263
theorem Ti:Enters Hf 264:=zd func264
theorem Th:Enters Hf 265:=zd func265
theorem Tg:Enters Hf 266:=zd func266
theorem Te:Enters Hf 267:=zd func267
theorem Tb:Enters Hf 268:=zd func268
theorem Ta:Enters Hf 269:=zd func269
theorem T9:Enters Hf 270:=zd func270
theorem T8:Enters Hf 271:=zd func271
theorem T7:Enters Hf 272:=zd func272
theorem T6:Enters Hf 273:=zd func273
theorem T5:Enters Hf 274:=zd func274
theorem T4:Enters Hf 275:=zd func275
theorem T3:Enters Hf 276:=zd func276
theorem T2:Enters Hf 277:=zd func277
theorem T1:Enters Hf 278:=zd func278
theorem TZ:Enters Hf 279:=zd func279
theorem TY:Enters Hf 280:=zd func280
theorem TX:Enters Hf 281:=zd func281
theorem TW:Enters Hf 282:=zd func282
theorem TV:Enters Hf 283:=zd func283
theorem TU:Enters Hf 284:=zd func284
theorem TS:Enters Hf 285:=zd func285
theorem TR:Enters Hf 286:=zd func286
theorem TQ:Enters Hf 288:=zd func288
theorem TP:Enters Hf 289:=zd func289
theorem TO:Enters Hf 290:=zd func290
theorem TN:Enters Hf 291:=zd func291
theorem TM:Enters Hf 292:=zd func292
theorem TL:Enters Hf 293:=zd func293
theorem TK:Enters Hf 294:=zd func294
theorem Xb:Enters Hf 295:=zd func295
theorem TJ:Enters Hf 296:=zd func296
theorem TI:Enters Hf 297:=zd func297
theorem TH:Enters Hf 298:=zd func298
theorem TG:Enters Hf 299:=zd func299
theorem TF:Enters Hf 300:=zd func300
theorem TE:Enters Hf 301:=zd func301
theorem ze:Hf.follows .mixedOrders=true:=by kernel_rfl
attribute [go_sem] ntmps5 ntmps11 ntmps12 ntmps13 ntmps14 ntmps15 ntmps16 ntmps18 ntmps19 ntmps20 ntmps21 ntmps22 ntmps23 ntmps29 ntmps32 ntmps34 ntmps36 ntmps38 ntmps39 ntmps40 ntmps41 ntmps42 ntmps43 ntmps44 ntmps45 ntmps46 ntmps47 ntmps48 ntmps49 ntmps50 ntmps51 ntmps52 ntmps53 ntmps54 ntmps55 ntmps56 ntmps57 ntmps58 ntmps59 ntmps60 ntmps61 ntmps62 ntmps63 ntmps64 ntmps65 ntmps66 ntmps67 ntmps68 ntmps69 ntmps70 ntmps71 ntmps72 ntmps73 ntmps74 ntmps77 ntmps78 ntmps79 ntmps80 ntmps81 ntmps82 ntmps83 ntmps84 ntmps85 ntmps86 ntmps87 ntmps88 ntmps89 ntmps90 ntmps91 ntmps92 ntmps93 ntmps94 ntmps95 ntmps96 ntmps97 ntmps98 ntmps99 ntmps100 ntmps101 ntmps102 ntmps103 ntmps104 ntmps105 ntmps106 ntmps107 ntmps108 ntmps109 ntmps110 ntmps111 ntmps112 ntmps113 ntmps114 ntmps115 ntmps116 ntmps117 ntmps118 ntmps119 ntmps120 ntmps121 ntmps122 ntmps123 ntmps124 ntmps125 ntmps126 ntmps127 ntmps128 ntmps129 ntmps130 ntmps131 ntmps132 ntmps133 ntmps134 ntmps135 ntmps136 ntmps137 ntmps138 ntmps139 ntmps140 ntmps141 ntmps142 ntmps143 ntmps144 ntmps147 ntmps148 ntmps149 ntmps150 ntmps151 ntmps152 ntmps153 ntmps154 ntmps155 ntmps156 ntmps157 ntmps158 ntmps159 ntmps160 ntmps161 ntmps162 ntmps163 ntmps164 ntmps165 ntmps166 ntmps167 ntmps168 ntmps169 ntmps170 ntmps171 ntmps172 ntmps173 ntmps174 ntmps175 ntmps176 ntmps177 ntmps178 ntmps179 ntmps180 ntmps181 ntmps182 ntmps183 ntmps184 ntmps185 ntmps186 ntmps187 ntmps188 ntmps189 ntmps190 ntmps191 ntmps192 ntmps193 ntmps194 ntmps195 ntmps196 ntmps197 ntmps198 ntmps199 ntmps200 ntmps201 ntmps202 ntmps203 ntmps204 ntmps205 ntmps206 ntmps207 ntmps208 ntmps209 ntmps210 ntmps211 ntmps212 ntmps213 ntmps214 ntmps215 ntmps216 ntmps217 ntmps218 ntmps219 ntmps220 ntmps221 ntmps222 ntmps223 ntmps224 ntmps225 ntmps226 ntmps227 ntmps228 ntmps229 ntmps230 ntmps231 ntmps232 ntmps233 ntmps234 ntmps235 ntmps236 ntmps237 ntmps238 ntmps239 ntmps240 ntmps241 ntmps242 ntmps243 ntmps244 ntmps245 ntmps246 ntmps247 ntmps248 ntmps249 ntmps250 ntmps251 ntmps252 ntmps253 ntmps254 ntmps255 ntmps256 ntmps257 ntmps258 ntmps259 ntmps260 ntmps261 ntmps262 ntmps263 ntmps264 ntmps265 ntmps266 ntmps267 ntmps268 ntmps269 ntmps270 ntmps271 ntmps272 ntmps273 ntmps274 ntmps275 ntmps276 ntmps277 ntmps278 ntmps279 ntmps280 ntmps281 ntmps282 ntmps283 ntmps284 ntmps285 ntmps286 ntmps288 ntmps289 ntmps290 ntmps291 ntmps292 ntmps293 ntmps294 ntmps295 ntmps296 ntmps297 ntmps298 ntmps299 ntmps300 ntmps301
end Tf
end Go.Proofs.YtkciabfilokfiaaGreat
