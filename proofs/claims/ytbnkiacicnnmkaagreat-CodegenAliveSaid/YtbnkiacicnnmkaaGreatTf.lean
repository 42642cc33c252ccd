/-  -/
import Derived.Test.YtbnkiacicnnmkaaGreatProg
import Derived.Test.YtbnkiacicnnmkaaGreatMB
import Derived.KernelRfl
open Go.Proofs.Tryz
open Go.Proofs.Tryz renaming prog→KI
set_option linter.unusedSimpArgs false
set_option linter.unusedVariables false
namespace Go.Proofs.YtbnkiacicnnmkaaGreat
open Vg
namespace Tf
@[go_sem] theorem N3:(KI.underlying 1).isSome=true:=by kernel_rfl
@[go_sem] theorem PA:yV KI 1=none:=by kernel_rfl
@[go_sem] theorem N2:(KI.underlying 2).isSome=true:=by kernel_rfl
@[go_sem] theorem Nb:wu KI 2=some .i64:=by kernel_rfl
@[go_sem] theorem OR:zt KI 3=1:=by kernel_rfl
@[go_sem] theorem Nh:z5 KI 3=some false/\(KI.underlying 3).isSome=true:=by and_intros<;>kernel_rfl
@[go_sem] theorem OB:zg KI 3=some [Value.int .i64 0]:=by kernel_rfl
@[go_sem] theorem Nf:wA KI 3=8:=by kernel_rfl
@[go_sem] theorem Qz:yV KI 3=none:=by kernel_rfl
@[go_sem] theorem Na:wu KI 3=some .i64:=by kernel_rfl
@[go_sem] theorem N6:zt KI 4=1/\z5 KI 4=some false/\(KI.underlying 4).isSome=true/\zg KI 4=some [Value.bool false]/\wA KI 4=1:=by and_intros<;>kernel_rfl
@[go_sem] theorem N4:KI.underlying 4=some .bool:=by kernel_rfl
@[go_sem] theorem Ng:z5 KI 5=some false/\(KI.underlying 5).isSome=true/\zg KI 5=some [Value.int .u8 0]:=by and_intros<;>kernel_rfl
@[go_sem] theorem N9:wu KI 5=some .u8:=by kernel_rfl
@[go_sem] theorem N1:(KI.underlying 6).isSome=true:=by kernel_rfl
@[go_sem] theorem N8:wu KI 6=some .u8:=by kernel_rfl
@[go_sem] theorem NZ:(KI.underlying 7).isSome=true/\(KI.underlying 8).isSome=true/\zt KI 9=1/\z5 KI 9=some false/\(KI.underlying 9).isSome=true/\zg KI 9=some [Value.string ⟨#[]⟩]/\tX KI 9=true/\wA KI 9=16/\(KI.underlying 10).isSome=true/\(KI.underlying 11).isSome=true/\(KI.underlying 12).isSome=true:=by and_intros<;>kernel_rfl
@[go_sem] theorem Oi:wu KI 12=some .u64:=by kernel_rfl
@[go_sem] theorem ON:(KI.underlying 13).isSome=true/\(KI.underlying 14).isSome=true/\(KI.underlying 15).isSome=true:=by and_intros<;>kernel_rfl
@[go_sem] theorem OY:t6 KI 15=some 352:=by kernel_rfl
@[go_sem] theorem OM:(KI.underlying 16).isSome=true:=by kernel_rfl
@[go_sem] theorem OX:t6 KI 16=some 355:=by kernel_rfl
@[go_sem] theorem OL:(KI.underlying 17).isSome=true:=by kernel_rfl
@[go_sem] theorem OW:t6 KI 17=some 364:=by kernel_rfl
@[go_sem] theorem OK:(KI.underlying 18).isSome=true/\(KI.underlying 19).isSome=true/\(KI.underlying 20).isSome=true/\(KI.underlying 21).isSome=true:=by and_intros<;>kernel_rfl
@[go_sem] theorem Oh:wu KI 21=some .i32:=by kernel_rfl
@[go_sem] theorem OS:zt KI 22=1/\z5 KI 22=some false/\(KI.underlying 22).isSome=true:=by and_intros<;>kernel_rfl
@[go_sem] theorem ae:yV KI 22=some (42,5):=by kernel_rfl
@[go_sem] theorem O5:mg KI 22=none/\zt KI 23=1/\z5 KI 23=some false/\(KI.underlying 23).isSome=true:=by and_intros<;>kernel_rfl
@[go_sem] theorem oq:yV KI 23=some (55,10):=by kernel_rfl
@[go_sem] theorem NX:z5 KI 24=some false/\(KI.underlying 24).isSome=true:=by and_intros<;>kernel_rfl
@[go_sem] theorem SA:yV KI 24=some (78,2):=by kernel_rfl
@[go_sem] theorem NW:z5 KI 25=some false/\(KI.underlying 25).isSome=true:=by and_intros<;>kernel_rfl
@[go_sem] theorem Tz:yV KI 25=some (82,3):=by kernel_rfl
@[go_sem] theorem Ts:zt KI 26=1:=by kernel_rfl
@[go_sem] theorem NV:z5 KI 26=some false/\(KI.underlying 26).isSome=true/\zg KI 26=some [Value.slice none 0 0]/\tX KI 26=false/\wA KI 26=24:=by and_intros<;>kernel_rfl
@[go_sem] theorem uv:yV KI 26=some (3,1):=by kernel_rfl
@[go_sem] theorem O4:mg KI 26=none/\(KI.underlying 27).isSome=true:=by and_intros<;>kernel_rfl
@[go_sem] theorem Tq:zt KI 28=9:=by kernel_rfl
@[go_sem] theorem NU:z5 KI 28=some true/\(KI.underlying 28).isSome=true:=by and_intros<;>kernel_rfl
@[go_sem] theorem OC:zg KI 28=some [Value.slice none 0 0,Value.slice none 0 0,Value.slice none 0 0,Value.slice none 0 0,Value.int .i64 0,Value.slice none 0 0,Value.slice none 0 0,Value.slice none 0 0,Value.slice none 0 0]:=by kernel_rfl
@[go_sem] theorem O2:wL KI 28=some [(0,1),(1,1),(2,1),(3,1),(4,1),(5,1),(6,1),(7,1),(8,1)]/\z4 KI 28 0=some 0/\z4 KI 28 1=some 1/\z4 KI 28 2=some 2/\z4 KI 28 3=some 3/\z4 KI 28 4=some 4/\z4 KI 28 5=some 5/\z4 KI 28 6=some 6/\z4 KI 28 7=some 7/\z4 KI 28 8=some 8/\(KI.underlying 32).isSome=true:=by and_intros<;>kernel_rfl
@[go_sem] theorem Og:wu KI 32=some .i64:=by kernel_rfl
@[go_sem] theorem OQ:zt KI 38=1/\z5 KI 38=some false/\(KI.underlying 38).isSome=true:=by and_intros<;>kernel_rfl
@[go_sem] theorem Y3:yV KI 38=some (26,1):=by kernel_rfl
@[go_sem] theorem OJ:(KI.underlying 41).isSome=true:=by kernel_rfl
@[go_sem] theorem Tp:zt KI 42=5:=by kernel_rfl
@[go_sem] theorem Q1:z5 KI 42=some true:=by kernel_rfl
@[go_sem] theorem OI:(KI.underlying 42).isSome=true/\zg KI 42=some [Value.int .i64 0,Value.int .i64 0,Value.int .i64 0,Value.int .i64 0,Value.int .i64 0]/\wA KI 42=40/\wL KI 42=some [(0,1),(1,1),(2,1),(3,1),(4,1)]/\z4 KI 42 0=some 0/\z4 KI 42 1=some 1/\z4 KI 42 2=some 2/\z4 KI 42 3=some 3/\z4 KI 42 4=some 4/\zt KI 43=16/\(KI.underlying 43).isSome=true:=by and_intros<;>kernel_rfl
@[go_sem] theorem OA:zg KI 43=some [Value.int .i64 0,Value.int .i64 0,Value.int .i64 0,Value.int .i64 0,Value.int .i64 0,Value.int .i64 0,Value.int .i64 0,Value.int .i64 0,Value.int .i64 0,Value.int .i64 0,Value.int .i64 0,Value.int .i64 0,Value.int .i64 0,Value.int .i64 0,Value.int .i64 0,Value.int .i64 0]:=by kernel_rfl
@[go_sem] theorem O3:mg KI 43=some (16,1):=by kernel_rfl
@[go_sem] theorem NQ:nw KI 43=some 16:=by kernel_rfl
@[go_sem] theorem O1:wL KI 43=some [(0,1),(1,1),(2,1),(3,1),(4,1),(5,1),(6,1),(7,1),(8,1),(9,1),(10,1),(11,1),(12,1),(13,1),(14,1),(15,1)]/\(KI.underlying 44).isSome=true/\zt KI 45=17/\z5 KI 45=some true/\(KI.underlying 45).isSome=true:=by and_intros<;>kernel_rfl
@[go_sem] theorem Pz:zg KI 45=some [Value.int .i64 0,Value.int .i64 0,Value.int .i64 0,Value.int .i64 0,Value.int .i64 0,Value.int .i64 0,Value.int .i64 0,Value.int .i64 0,Value.int .i64 0,Value.int .i64 0,Value.int .i64 0,Value.int .i64 0,Value.int .i64 0,Value.int .i64 0,Value.int .i64 0,Value.int .i64 0,Value.slice none 0 0]:=by kernel_rfl
@[go_sem] theorem O0:wL KI 45=some [(0,16),(16,1)]/\z4 KI 45 0=some 0/\z4 KI 45 1=some 16/\(KI.underlying 52).isSome=true/\zt KI 53=5:=by and_intros<;>kernel_rfl
@[go_sem] theorem Q0:z5 KI 53=some true:=by kernel_rfl
@[go_sem] theorem OH:(KI.underlying 53).isSome=true/\zg KI 53=some [Value.int .i64 0,Value.int .i64 0,Value.int .i64 0,Value.int .i64 0,Value.int .i64 0]/\wA KI 53=40/\wL KI 53=some [(0,1),(1,1),(2,1),(3,1),(4,1)]/\z4 KI 53 0=some 0/\z4 KI 53 1=some 1/\z4 KI 53 2=some 2/\z4 KI 53 3=some 3/\z4 KI 53 4=some 4/\(KI.underlying 54).isSome=true:=by and_intros<;>kernel_rfl
@[go_sem] theorem To:zt KI 55=10:=by kernel_rfl
@[go_sem] theorem QZ:z5 KI 55=some true:=by kernel_rfl
@[go_sem] theorem OG:(KI.underlying 55).isSome=true:=by kernel_rfl
@[go_sem] theorem Py:zg KI 55=some [Value.int .i64 0,Value.bool false,Value.int .i64 0,Value.int .i64 0,Value.int .i64 0,Value.int .i64 0,Value.int .i64 0,Value.int .i64 0,Value.int .i64 0,Value.int .i64 0]:=by kernel_rfl
@[go_sem] theorem NN:wA KI 55=80/\wL KI 55=some [(0,1),(1,1),(2,1),(3,1),(4,1),(5,5)]/\z4 KI 55 0=some 0/\z4 KI 55 1=some 1/\z4 KI 55 2=some 2/\z4 KI 55 3=some 3/\z4 KI 55 4=some 4/\jE KI 55 5=some (5,5,true)/\z4 KI 55 5=some 5/\(KI.underlying 56).isSome=true/\zt KI 57=11/\z5 KI 57=some true:=by and_intros<;>kernel_rfl
@[go_sem] theorem OF:(KI.underlying 57).isSome=true:=by kernel_rfl
@[go_sem] theorem Px:zg KI 57=some [Value.string ⟨#[]⟩,Value.int .i64 0,Value.bool false,Value.int .i64 0,Value.int .i64 0,Value.int .i64 0,Value.int .i64 0,Value.int .i64 0,Value.int .i64 0,Value.int .i64 0,Value.int .i64 0]:=by kernel_rfl
@[go_sem] theorem NL:wA KI 57=96/\wL KI 57=some [(0,1),(1,10)]/\z4 KI 57 0=some 0/\z4 KI 57 1=some 1/\zt KI 58=1/\z5 KI 58=some false/\(KI.underlying 58).isSome=true/\yV KI 58=some (57,11)/\(KI.underlying 59).isSome=true/\zt KI 60=4/\z5 KI 60=some true/\(KI.underlying 60).isSome=true:=by and_intros<;>kernel_rfl
@[go_sem] theorem Pw:zg KI 60=some [Value.string ⟨#[]⟩,Value.string ⟨#[]⟩,Value.int .i64 0,Value.int .i64 0]/\wA KI 60=48/\wL KI 60=some [(0,1),(1,1),(2,1),(3,1)]/\z4 KI 60 0=some 0/\z4 KI 60 1=some 1/\z4 KI 60 2=some 2/\z4 KI 60 3=some 3/\zt KI 61=1/\z5 KI 61=some false/\(KI.underlying 61).isSome=true/\yV KI 61=some (60,4)/\zt KI 62=1:=by and_intros<;>kernel_rfl
@[go_sem] theorem NT:z5 KI 62=some false/\(KI.underlying 62).isSome=true/\yV KI 62=some (9,1)/\(KI.underlying 63).isSome=true/\zt KI 64=6/\z5 KI 64=some true/\(KI.underlying 64).isSome=true/\zg KI 64=some [Value.string ⟨#[]⟩,Value.string ⟨#[]⟩,Value.string ⟨#[]⟩,Value.slice none 0 0,Value.string ⟨#[]⟩,Value.slice none 0 0]/\wA KI 64=112/\wL KI 64=some [(0,1),(1,1),(2,1),(3,1),(4,1),(5,1)]/\z4 KI 64 0=some 0/\z4 KI 64 1=some 1:=by and_intros<;>kernel_rfl
@[go_sem] theorem SI:z4 KI 64 2=some 2/\z4 KI 64 3=some 3/\z4 KI 64 4=some 4/\z4 KI 64 5=some 5/\zt KI 65=1/\z5 KI 65=some false/\(KI.underlying 65).isSome=true:=by and_intros<;>kernel_rfl
@[go_sem] theorem Y2:yV KI 65=some (64,6):=by kernel_rfl
@[go_sem] theorem OP:zt KI 66=1/\z5 KI 66=some false/\(KI.underlying 66).isSome=true/\yV KI 66=some (138,3)/\zt KI 67=1/\z5 KI 67=some false/\(KI.underlying 67).isSome=true/\yV KI 67=some (140,4)/\(KI.underlying 68).isSome=true/\zt KI 69=7/\z5 KI 69=some true/\(KI.underlying 69).isSome=true:=by and_intros<;>kernel_rfl
@[go_sem] theorem Pv:zg KI 69=some [Value.string ⟨#[]⟩,Value.slice none 0 0,Value.slice none 0 0,Value.slice none 0 0,Value.slice none 0 0,Value.slice none 0 0,Value.slice none 0 0]/\wL KI 69=some [(0,1),(1,1),(2,1),(3,1),(4,1),(5,1),(6,1)]/\z4 KI 69 0=some 0/\z4 KI 69 1=some 1/\z4 KI 69 2=some 2/\z4 KI 69 3=some 3/\z4 KI 69 4=some 4/\z4 KI 69 5=some 5/\z4 KI 69 6=some 6/\zt KI 70=1/\z5 KI 70=some false/\(KI.underlying 70).isSome=true:=by and_intros<;>kernel_rfl
@[go_sem] theorem OU:yV KI 70=some (131,13)/\(KI.underlying 71).isSome=true/\zt KI 72=9/\z5 KI 72=some true/\(KI.underlying 72).isSome=true:=by and_intros<;>kernel_rfl
@[go_sem] theorem Pu:zg KI 72=some [Value.string ⟨#[]⟩,Value.slice none 0 0,Value.slice none 0 0,Value.slice none 0 0,Value.slice none 0 0,Value.slice none 0 0,Value.slice none 0 0,Value.slice none 0 0,Value.slice none 0 0]:=by kernel_rfl
@[go_sem] theorem OZ:wL KI 72=some [(0,7),(7,1),(8,1)]/\z4 KI 72 0=some 0/\z4 KI 72 1=some 7/\z4 KI 72 2=some 8/\(KI.underlying 77).isSome=true:=by and_intros<;>kernel_rfl
@[go_sem] theorem Tn:zt KI 78=2:=by kernel_rfl
@[go_sem] theorem NS:z5 KI 78=some true/\(KI.underlying 78).isSome=true/\zg KI 78=some [Value.slice none 0 0,Value.slice none 0 0]/\z4 KI 78 0=some 0/\z4 KI 78 1=some 1/\(KI.underlying 79).isSome=true/\(KI.underlying 81).isSome=true:=by and_intros<;>kernel_rfl
@[go_sem] theorem Tm:zt KI 82=3:=by kernel_rfl
@[go_sem] theorem NR:z5 KI 82=some true/\(KI.underlying 82).isSome=true/\zg KI 82=some [Value.slice none 0 0,Value.slice none 0 0,Value.slice none 0 0]/\z4 KI 82 0=some 0/\z4 KI 82 1=some 1/\z4 KI 82 2=some 2/\(KI.underlying 84).isSome=true/\(KI.underlying 85).isSome=true/\zt KI 86=1/\z5 KI 86=some false/\(KI.underlying 86).isSome=true/\zg KI 86=some [Value.slice none 0 0]:=by and_intros<;>kernel_rfl
@[go_sem] theorem OT:yV KI 86=some (4,1)/\mg KI 86=none/\zt KI 87=1/\z5 KI 87=some false/\(KI.underlying 87).isSome=true/\zg KI 87=some [Value.pointer none]:=by and_intros<;>kernel_rfl
@[go_sem] theorem OV:t6 KI 87=some 91:=by kernel_rfl
@[go_sem] theorem OO:zt KI 89=1/\z5 KI 89=some false/\(KI.underlying 89).isSome=true:=by and_intros<;>kernel_rfl
@[go_sem] theorem Of:wu KI 89=some .u16:=by kernel_rfl
@[go_sem] theorem OE:(KI.underlying 90).isSome=true/\(KI.underlying 91).isSome=true/\zg KI 91=some [Value.int .u16 0,Value.slice none 0 0]/\wL KI 91=some [(0,1),(1,1)]/\z4 KI 91 0=some 0/\z4 KI 91 1=some 1/\(KI.underlying 92).isSome=true/\(KI.underlying 93).isSome=true/\(KI.underlying 95).isSome=true/\(KI.underlying 99).isSome=true/\(KI.underlying 102).isSome=true/\zt KI 103=2:=by and_intros<;>kernel_rfl
@[go_sem] theorem Pr:z5 KI 103=some true/\(KI.underlying 103).isSome=true/\zg KI 103=some [Value.slice none 0 0,Value.slice none 0 0]/\wL KI 103=some [(0,1),(1,1)]/\z4 KI 103 0=some 0/\z4 KI 103 1=some 1/\(KI.underlying 106).isSome=true/\zt KI 107=3/\z5 KI 107=some true/\(KI.underlying 107).isSome=true/\zg KI 107=some [Value.string ⟨#[]⟩,Value.string ⟨#[]⟩,Value.int .i64 0]/\wL KI 107=some [(0,1),(1,1),(2,1)]:=by and_intros<;>kernel_rfl
@[go_sem] theorem T1:z4 KI 107 1=some 1/\(KI.underlying 108).isSome=true/\yV KI 108=some (107,3)/\(KI.underlying 113).isSome=true:=by and_intros<;>kernel_rfl
@[go_sem] theorem PN:t6 KI 113=some 45:=by kernel_rfl
@[go_sem] theorem Qx:zt KI 115=1/\z5 KI 115=some false/\(KI.underlying 115).isSome=true/\zg KI 115=some [Value.pointer none]:=by and_intros<;>kernel_rfl
@[go_sem] theorem PM:t6 KI 115=some 191:=by kernel_rfl
@[go_sem] theorem Pq:z5 KI 118=some false/\(KI.underlying 118).isSome=true/\zg KI 118=some [Value.nilFunc]/\z5 KI 122=some false/\(KI.underlying 122).isSome=true/\yV KI 122=some (129,2)/\(KI.underlying 128).isSome=true/\zt KI 129=2:=by and_intros<;>kernel_rfl
@[go_sem] theorem TG:z5 KI 129=some true:=by kernel_rfl
@[go_sem] theorem Qv:(KI.underlying 129).isSome=true/\zg KI 129=some [Value.int .i64 0,Value.int .i64 0]/\wA KI 129=16/\wL KI 129=some [(0,1),(1,1)]/\z4 KI 129 0=some 0/\z4 KI 129 1=some 1/\(KI.underlying 130).isSome=true/\zt KI 131=13:=by and_intros<;>kernel_rfl
@[go_sem] theorem TF:z5 KI 131=some true:=by kernel_rfl
@[go_sem] theorem Qu:(KI.underlying 131).isSome=true:=by kernel_rfl
@[go_sem] theorem Q7:zg KI 131=some [Value.string ⟨#[]⟩,Value.int .i64 0,Value.bool false,Value.int .i64 0,Value.int .i64 0,Value.int .i64 0,Value.int .i64 0,Value.int .i64 0,Value.int .i64 0,Value.int .i64 0,Value.int .i64 0,Value.int .i64 0,Value.int .i64 0]:=by kernel_rfl
@[go_sem] theorem Ph:wA KI 131=112/\wL KI 131=some [(0,1),(1,10),(11,2)]/\z4 KI 131 0=some 0/\z5 KI 134=some false/\(KI.underlying 134).isSome=true:=by and_intros<;>kernel_rfl
@[go_sem] theorem PL:t6 KI 134=some 136:=by kernel_rfl
@[go_sem] theorem Qt:(KI.underlying 135).isSome=true/\(KI.underlying 136).isSome=true:=by and_intros<;>kernel_rfl
@[go_sem] theorem Q6:zg KI 136=some [Value.string ⟨#[]⟩,Value.slice none 0 0,Value.slice none 0 0,Value.slice none 0 0,Value.slice none 0 0,Value.slice none 0 0,Value.slice none 0 0,Value.slice none 0 0,Value.slice none 0 0,Value.slice none 0 0,Value.slice none 0 0,Value.slice none 0 0,Value.slice none 0 0,Value.int .i64 0,Value.slice none 0 0,Value.slice none 0 0,Value.slice none 0 0,Value.slice none 0 0,Value.slice none 0 0,Value.int .i64 0]:=by kernel_rfl
@[go_sem] theorem PV:wL KI 136=some [(0,9),(9,9),(18,1),(19,1)]/\z4 KI 136 0=some 0/\z4 KI 136 1=some 9/\z4 KI 136 2=some 18/\z4 KI 136 3=some 19/\(KI.underlying 137).isSome=true/\zt KI 138=3/\z5 KI 138=some true/\(KI.underlying 138).isSome=true/\zg KI 138=some [Value.string ⟨#[]⟩,Value.slice none 0 0,Value.slice none 0 0]/\wA KI 138=64/\z4 KI 138 0=some 0:=by and_intros<;>kernel_rfl
@[go_sem] theorem TZ:z4 KI 138 1=some 1/\(KI.underlying 139).isSome=true/\zt KI 140=4/\z5 KI 140=some true/\(KI.underlying 140).isSome=true/\zg KI 140=some [Value.string ⟨#[]⟩,Value.slice none 0 0,Value.slice none 0 0,Value.slice none 0 0]/\wA KI 140=88/\z4 KI 140 0=some 0/\z4 KI 140 1=some 1/\zt KI 141=1/\z5 KI 141=some false/\(KI.underlying 141).isSome=true:=by and_intros<;>kernel_rfl
@[go_sem] theorem Qs:(KI.underlying 144).isSome=true/\(KI.underlying 146).isSome=true/\(KI.underlying 147).isSome=true/\zt KI 151=1/\z5 KI 151=some false/\(KI.underlying 151).isSome=true/\zg KI 151=some [Value.nilFunc]/\zt KI 155=1/\z5 KI 155=some false/\(KI.underlying 155).isSome=true/\zg KI 155=some [Value.nilFunc]/\(KI.underlying 157).isSome=true:=by and_intros<;>kernel_rfl
@[go_sem] theorem Qr:(KI.underlying 160).isSome=true/\z5 KI 175=some false/\(KI.underlying 175).isSome=true/\z5 KI 177=some false/\(KI.underlying 177).isSome=true/\z5 KI 179=some false/\(KI.underlying 179).isSome=true/\z5 KI 181=some false/\(KI.underlying 181).isSome=true/\z5 KI 183=some false/\(KI.underlying 183).isSome=true/\z5 KI 185=some false:=by and_intros<;>kernel_rfl
@[go_sem] theorem Qq:(KI.underlying 185).isSome=true/\z5 KI 187=some false/\(KI.underlying 187).isSome=true/\z5 KI 188=some false/\(KI.underlying 188).isSome=true/\z5 KI 189=some false/\(KI.underlying 189).isSome=true/\(KI.underlying 190).isSome=true/\(KI.underlying 191).isSome=true:=by and_intros<;>kernel_rfl
@[go_sem] theorem Q5:zg KI 191=some [Value.string ⟨#[]⟩,Value.slice none 0 0,Value.slice none 0 0,Value.slice none 0 0,Value.slice none 0 0,Value.slice none 0 0,Value.slice none 0 0,Value.map none,Value.map none,Value.map none,Value.map none]:=by kernel_rfl
@[go_sem] theorem PU:wL KI 191=some [(0,7),(7,1),(8,1),(9,1),(10,1)]/\z4 KI 191 0=some 0/\z4 KI 191 1=some 7/\z4 KI 191 2=some 8/\z4 KI 191 3=some 9/\z4 KI 191 4=some 10/\(KI.underlying 192).isSome=true/\(KI.underlying 193).isSome=true/\(KI.underlying 195).isSome=true/\(KI.underlying 196).isSome=true/\(KI.underlying 198).isSome=true/\(KI.underlying 199).isSome=true:=by and_intros<;>kernel_rfl
@[go_sem] theorem Qp:(KI.underlying 201).isSome=true/\(KI.underlying 202).isSome=true/\(KI.underlying 204).isSome=true/\yV KI 204=some (118,1)/\(KI.underlying 214).isSome=true:=by and_intros<;>kernel_rfl
@[go_sem] theorem PK:t6 KI 214=some 78:=by kernel_rfl
@[go_sem] theorem Qo:(KI.underlying 215).isSome=true:=by kernel_rfl
@[go_sem] theorem PJ:t6 KI 215=some 82:=by kernel_rfl
@[go_sem] theorem Qn:(KI.underlying 217).isSome=true:=by kernel_rfl
@[go_sem] theorem PI:t6 KI 217=some 64:=by kernel_rfl
@[go_sem] theorem Qm:(KI.underlying 220).isSome=true/\zt KI 222=1/\(KI.underlying 222).isSome=true/\zg KI 222=some [Value.slice none 0 0]/\(KI.underlying 226).isSome=true/\(KI.underlying 233).isSome=true:=by and_intros<;>kernel_rfl
@[go_sem] theorem P7:wu KI 233=some .u64:=by kernel_rfl
@[go_sem] theorem Ql:(KI.underlying 245).isSome=true/\zt KI 246=11/\z5 KI 246=some true/\(KI.underlying 246).isSome=true:=by and_intros<;>kernel_rfl
@[go_sem] theorem Q4:zg KI 246=some [Value.int .i64 0,Value.bool false,Value.int .i64 0,Value.int .i64 0,Value.int .i64 0,Value.int .i64 0,Value.int .i64 0,Value.int .i64 0,Value.int .i64 0,Value.int .i64 0,Value.int .i64 0]:=by kernel_rfl
@[go_sem] theorem PT:wL KI 246=some [(0,10),(10,1)]/\z4 KI 246 0=some 0/\z4 KI 246 1=some 10/\(KI.underlying 253).isSome=true/\(KI.underlying 257).isSome=true/\(KI.underlying 258).isSome=true/\(KI.underlying 259).isSome=true/\(KI.underlying 260).isSome=true/\z5 KI 276=some false/\(KI.underlying 276).isSome=true:=by and_intros<;>kernel_rfl
@[go_sem] theorem PH:t6 KI 276=some 3:=by kernel_rfl
@[go_sem] theorem ce:zt KI 277=5:=by kernel_rfl
@[go_sem] theorem Qk:(KI.underlying 277).isSome=true/\zg KI 277=some [Value.pointer none,Value.pointer none,Value.pointer none,Value.pointer none,Value.pointer none]/\mg KI 277=some (5,1):=by and_intros<;>kernel_rfl
@[go_sem] theorem Pk:nw KI 277=some 5:=by kernel_rfl
@[go_sem] theorem PS:wL KI 277=some [(0,1),(1,1),(2,1),(3,1),(4,1)]/\(KI.underlying 279).isSome=true:=by and_intros<;>kernel_rfl
@[go_sem] theorem PG:t6 KI 279=some 53:=by kernel_rfl
@[go_sem] theorem Qj:(KI.underlying 280).isSome=true:=by kernel_rfl
@[go_sem] theorem Y4:yV KI 280=some (5,1):=by kernel_rfl
@[go_sem] theorem Pp:z5 KI 293=some false/\(KI.underlying 293).isSome=true:=by and_intros<;>kernel_rfl
@[go_sem] theorem P6:wu KI 293=some .u64:=by kernel_rfl
@[go_sem] theorem Qi:(KI.underlying 294).isSome=true/\zt KI 295=2/\z5 KI 295=some true/\(KI.underlying 295).isSome=true/\zg KI 295=some [Value.int .u64 0,Value.int .u64 0]/\wL KI 295=some [(0,1),(1,1)]/\z4 KI 295 0=some 0/\z4 KI 295 1=some 1/\(KI.underlying 300).isSome=true/\yV KI 300=some (303,4)/\(KI.underlying 302).isSome=true/\zt KI 303=4:=by and_intros<;>kernel_rfl
@[go_sem] theorem Pn:z5 KI 303=some true/\(KI.underlying 303).isSome=true/\zg KI 303=some [Value.string ⟨#[]⟩,Value.int .i64 0,Value.int .i64 0,Value.int .i64 0]/\wL KI 303=some [(0,1),(1,1),(2,1),(3,1)]/\z4 KI 303 0=some 0/\z4 KI 303 1=some 1/\z4 KI 303 2=some 2/\z4 KI 303 3=some 3/\(KI.underlying 305).isSome=true/\(KI.underlying 307).isSome=true/\yV KI 307=some (53,5)/\(KI.underlying 310).isSome=true:=by and_intros<;>kernel_rfl
@[go_sem] theorem Qh:(KI.underlying 323).isSome=true/\zt KI 324=4/\z5 KI 324=some true/\(KI.underlying 324).isSome=true/\zg KI 324=some [Value.int .u64 0,Value.int .u64 0,Value.int .u64 0,Value.int .u64 0]/\wL KI 324=some [(0,2),(2,2)]/\z4 KI 324 0=some 0/\z4 KI 324 1=some 2/\(KI.underlying 341).isSome=true/\(KI.underlying 346).isSome=true/\(KI.underlying 347).isSome=true:=by and_intros<;>kernel_rfl
@[go_sem] theorem PF:t6 KI 349=some 366:=by kernel_rfl
@[go_sem] theorem Qg:(KI.underlying 351).isSome=true/\(KI.underlying 352).isSome=true/\(KI.underlying 353).isSome=true:=by and_intros<;>kernel_rfl
@[go_sem] theorem Pj:nw KI 353=some 0:=by kernel_rfl
@[go_sem] theorem Qf:(KI.underlying 354).isSome=true/\(KI.underlying 355).isSome=true/\(KI.underlying 356).isSome=true:=by and_intros<;>kernel_rfl
@[go_sem] theorem P5:wu KI 356=some .u32:=by kernel_rfl
@[go_sem] theorem Qe:(KI.underlying 357).isSome=true:=by kernel_rfl
@[go_sem] theorem P4:wu KI 357=some .u8:=by kernel_rfl
@[go_sem] theorem Qd:(KI.underlying 358).isSome=true:=by kernel_rfl
@[go_sem] theorem P3:wu KI 358=some .u8:=by kernel_rfl
@[go_sem] theorem Qc:(KI.underlying 359).isSome=true/\(KI.underlying 360).isSome=true:=by and_intros<;>kernel_rfl
@[go_sem] theorem PE:t6 KI 360=some 5:=by kernel_rfl
@[go_sem] theorem Qb:(KI.underlying 361).isSome=true:=by kernel_rfl
@[go_sem] theorem P2:wu KI 361=some .i32:=by kernel_rfl
@[go_sem] theorem Qa:(KI.underlying 362).isSome=true:=by kernel_rfl
@[go_sem] theorem P1:wu KI 362=some .i32:=by kernel_rfl
@[go_sem] theorem Q9:(KI.underlying 363).isSome=true/\(KI.underlying 364).isSome=true:=by and_intros<;>kernel_rfl
@[go_sem] theorem Qw:Th KI 367=true:=by kernel_rfl
theorem X9:KI.eqGuardType KI.depth 42=false:=by kernel_rfl
theorem SZ:rM KI 20 42=some [.i .i64,.i .i64,.i .i64,.i .i64,.i .i64]:=by kernel_rfl
@[go_sem] theorem Oy (a0 b0:Int)(a1 b1:Int)(a2 b2:Int)(a3 b3:Int)(a4 b4:Int):pO KI 42 [.v (.int .i64 a0),.v (.int .i64 a1),.v (.int .i64 a2),.v (.int .i64 a3),.v (.int .i64 a4)] [.v (.int .i64 b0),.v (.int .i64 b1),.v (.int .i64 b2),.v (.int .i64 b3),.v (.int .i64 b4)]:=fun _ h=>sG SZ Q1 X9 rfl rfl h
theorem X8:KI.eqGuardType KI.depth 53=false:=by kernel_rfl
theorem SY:rM KI 20 53=some [.i .i64,.i .i64,.i .i64,.i .i64,.i .i64]:=by kernel_rfl
@[go_sem] theorem Ox (a0 b0:Int)(a1 b1:Int)(a2 b2:Int)(a3 b3:Int)(a4 b4:Int):pO KI 53 [.v (.int .i64 a0),.v (.int .i64 a1),.v (.int .i64 a2),.v (.int .i64 a3),.v (.int .i64 a4)] [.v (.int .i64 b0),.v (.int .i64 b1),.v (.int .i64 b2),.v (.int .i64 b3),.v (.int .i64 b4)]:=fun _ h=>sG SY Q0 X8 rfl rfl h
theorem X7:KI.eqGuardType KI.depth 55=false:=by kernel_rfl
theorem SX:rM KI 20 55=some [.i .i64,.b,.i .i64,.i .i64,.i .i64,.i .i64,.i .i64,.i .i64,.i .i64,.i .i64]:=by kernel_rfl
@[go_sem] theorem Ow (a0 b0:Int)(a1 b1:Bool)(a2 b2:Int)(a3 b3:Int)(a4 b4:Int)(a5 b5:Int)(a6 b6:Int)(a7 b7:Int)(a8 b8:Int)(a9 b9:Int):pO KI 55 [.v (.int .i64 a0),.v (.bool a1),.v (.int .i64 a2),.v (.int .i64 a3),.v (.int .i64 a4),.v (.int .i64 a5),.v (.int .i64 a6),.v (.int .i64 a7),.v (.int .i64 a8),.v (.int .i64 a9)] [.v (.int .i64 b0),.v (.bool b1),.v (.int .i64 b2),.v (.int .i64 b3),.v (.int .i64 b4),.v (.int .i64 b5),.v (.int .i64 b6),.v (.int .i64 b7),.v (.int .i64 b8),.v (.int .i64 b9)]:=fun _ h=>sG SX QZ X7 rfl rfl h
theorem Ze:KI.eqGuardType KI.depth 129=false:=by kernel_rfl
theorem XF:rM KI 20 129=some [.i .i64,.i .i64]:=by kernel_rfl
@[go_sem] theorem Pc (a0 b0:Int)(a1 b1:Int):pO KI 129 [.v (.int .i64 a0),.v (.int .i64 a1)] [.v (.int .i64 b0),.v (.int .i64 b1)]:=fun _ h=>sG XF TG Ze rfl rfl h
theorem Zd:KI.eqGuardType KI.depth 131=false:=by kernel_rfl
theorem XE:rM KI 20 131=some [.s,.i .i64,.b,.i .i64,.i .i64,.i .i64,.i .i64,.i .i64,.i .i64,.i .i64,.i .i64,.i .i64,.i .i64]:=by kernel_rfl
@[go_sem] theorem Pb (a0 b0:ByteArray)(a1 b1:Int)(a2 b2:Bool)(a3 b3:Int)(a4 b4:Int)(a5 b5:Int)(a6 b6:Int)(a7 b7:Int)(a8 b8:Int)(a9 b9:Int)(a10 b10:Int)(a11 b11:Int)(a12 b12:Int):pO KI 131 [.v (.string a0),.v (.int .i64 a1),.v (.bool a2),.v (.int .i64 a3),.v (.int .i64 a4),.v (.int .i64 a5),.v (.int .i64 a6),.v (.int .i64 a7),.v (.int .i64 a8),.v (.int .i64 a9),.v (.int .i64 a10),.v (.int .i64 a11),.v (.int .i64 a12)] [.v (.string b0),.v (.int .i64 b1),.v (.bool b2),.v (.int .i64 b3),.v (.int .i64 b4),.v (.int .i64 b5),.v (.int .i64 b6),.v (.int .i64 b7),.v (.int .i64 b8),.v (.int .i64 b9),.v (.int .i64 b10),.v (.int .i64 b11),.v (.int .i64 b12)]:=fun _ h=>sG XE TF Zd rfl rfl h
theorem iS {f:FuncId}{fn:Func}{b:Code}(hf:KI.funcs[f]?=some fn)(hn:(fn.name== "runtime.NumGoroutine")=false)(hb:fn.body=some b):Enters KI f:=fun args w=>by
 have h1:fn.name≠ "runtime.NumGoroutine" :=by simpa using hn
 simp[callFunc,hf,h1,hb]
theorem z8 {f:FuncId}{fn:Func}{b:Code}(hf:KI.funcs[f]?=some fn)(hn:(fn.name== "runtime.NumGoroutine")=false:=by kernel_rfl)(hb:fn.body=some b:=by exact rfl):Enters KI f:=iS hf hn hb
theorem NC:Enters KI 3:=z8 func3
theorem NB:Enters KI 5:=z8 func5
theorem NA:Enters KI 6:=z8 func6
theorem Pe:Enters KI 7:=z8 func7
theorem Pd:Enters KI 8:=z8 func8
theorem Oz:Enters KI 9:=z8 func9
theorem Zj:Enters KI 10:=z8 func10
theorem QD:Enters KI 11:=z8 func11
theorem QC:Enters KI 12:=z8 func12
theorem QB:Enters KI 13:=z8 func13
theorem QA:Enters KI 16:=z8 func16
theorem V2:Enters KI 17:=z8 func17
theorem Rz:Enters KI 18:=z8 func18
theorem VR:Enters KI 19:=z8 func19
theorem Ry:Enters KI 20:=z8 func20
theorem Rx:Enters KI 21:=z8 func21
theorem Rw:Enters KI 22:=z8 func22
theorem Rv:Enters KI 23:=z8 func23
theorem Ru:Enters KI 24:=z8 func24
theorem Rt:Enters KI 25:=z8 func25
theorem Rs:Enters KI 26:=z8 func26
theorem Rr:Enters KI 27:=z8 func27
theorem Rq:Enters KI 28:=z8 func28
theorem Rp:Enters KI 29:=z8 func29
theorem Ro:Enters KI 30:=z8 func30
theorem Rn:Enters KI 31:=z8 func31
theorem Rm:Enters KI 32:=z8 func32
theorem Rl:Enters KI 33:=z8 func33
theorem Rk:Enters KI 34:=z8 func34
theorem Rj:Enters KI 35:=z8 func35
theorem Ri:Enters KI 36:=z8 func36
theorem Rh:Enters KI 37:=z8 func37
theorem Rg:Enters KI 38:=z8 func38
theorem Rf:Enters KI 39:=z8 func39
theorem Re:Enters KI 40:=z8 func40
theorem Xi:Enters KI 41:=z8 func41
theorem Rd:Enters KI 42:=z8 func42
theorem Rc:Enters KI 43:=z8 func43
theorem Rb:Enters KI 44:=z8 func44
theorem Ra:Enters KI 45:=z8 func45
theorem Xh:Enters KI 46:=z8 func46
theorem R9:Enters KI 47:=z8 func47
theorem R8:Enters KI 48:=z8 func48
theorem R7:Enters KI 49:=z8 func49
theorem R6:Enters KI 50:=z8 func50
theorem R0:Enters KI 51:=z8 func51
theorem RZ:Enters KI 52:=z8 func52
theorem RY:Enters KI 53:=z8 func53
theorem Xg:Enters KI 54:=z8 func54
theorem RX:Enters KI 55:=z8 func55
theorem RW:Enters KI 56:=z8 func56
theorem RV:Enters KI 57:=z8 func57
theorem RU:Enters KI 58:=z8 func58
theorem RT:Enters KI 59:=z8 func59
theorem RS:Enters KI 62:=z8 func62
theorem RQ:Enters KI 63:=z8 func63
theorem RP:Enters KI 64:=z8 func64
theorem RO:Enters KI 65:=z8 func65
theorem RN:Enters KI 66:=z8 func66
theorem Xf:Enters KI 67:=z8 func67
theorem RM:Enters KI 68:=z8 func68
theorem RL:Enters KI 69:=z8 func69
theorem RK:Enters KI 70:=z8 func70
theorem RJ:Enters KI 71:=z8 func71
theorem RI:Enters KI 72:=z8 func72
theorem RH:Enters KI 73:=z8 func73
theorem RG:Enters KI 74:=z8 func74
theorem RF:Enters KI 75:=z8 func75
theorem RE:Enters KI 76:=z8 func76
theorem Zi:Enters KI 77:=z8 func77
theorem RD:Enters KI 78:=z8 func78
theorem Zh:Enters KI 79:=z8 func79
theorem RC:Enters KI 80:=z8 func80
theorem RB:Enters KI 81:=z8 func81
theorem Xe:Enters KI 82:=z8 func82
theorem RA:Enters KI 83:=z8 func83
theorem Sz:Enters KI 84:=z8 func84
theorem Sy:Enters KI 85:=z8 func85
theorem Sx:Enters KI 86:=z8 func86
theorem Sw:Enters KI 87:=z8 func87
theorem Su:Enters KI 88:=z8 func88
theorem Ss:Enters KI 89:=z8 func89
theorem Sr:Enters KI 90:=z8 func90
theorem Sq:Enters KI 91:=z8 func91
theorem Zg:Enters KI 92:=z8 func92
theorem Sp:Enters KI 93:=z8 func93
theorem Xd:Enters KI 99:=z8 func99
theorem U2:Enters KI 100:=z8 func100
theorem U1:Enters KI 101:=z8 func101
theorem U0:Enters KI 102:=z8 func102
theorem UZ:Enters KI 103:=z8 func103
theorem UY:Enters KI 104:=z8 func104
theorem UX:Enters KI 105:=z8 func105
theorem UW:Enters KI 106:=z8 func106
theorem UV:Enters KI 107:=z8 func107
theorem UU:Enters KI 108:=z8 func108
theorem UT:Enters KI 109:=z8 func109
theorem US:Enters KI 110:=z8 func110
theorem UR:Enters KI 111:=z8 func111
theorem UQ:Enters KI 112:=z8 func112
theorem UP:Enters KI 113:=z8 func113
theorem br:Enters KI 114:=z8 func114
theorem UO:Enters KI 115:=z8 func115
theorem UN:Enters KI 116:=z8 func116
theorem UM:Enters KI 117:=z8 func117
theorem UK:Enters KI 118:=z8 func118
theorem UJ:Enters KI 119:=z8 func119
theorem UI:Enters KI 120:=z8 func120
theorem UH:Enters KI 121:=z8 func121
theorem UG:Enters KI 122:=z8 func122
theorem UE:Enters KI 123:=z8 func123
theorem UD:Enters KI 124:=z8 func124
theorem UC:Enters KI 125:=z8 func125
theorem UB:Enters KI 126:=z8 func126
theorem UA:Enters KI 127:=z8 func127
theorem Vz:Enters KI 128:=z8 func128
theorem Vy:Enters KI 129:=z8 func129
theorem Vx:Enters KI 130:=z8 func130
theorem Vw:Enters KI 131:=z8 func131
theorem Vv:Enters KI 132:=z8 func132
theorem Vu:Enters KI 133:=z8 func133
theorem Vt:Enters KI 134:=z8 func134
theorem Vs:Enters KI 135:=z8 func135
theorem Vr:Enters KI 136:=z8 func136
theorem Vq:Enters KI 137:=z8 func137
theorem Vp:Enters KI 141:=z8 func141
theorem Vo:Enters KI 144:=z8 func144
theorem Vn:Enters KI 147:=z8 func147
theorem Vm:Enters KI 149:=z8 func149
theorem bq:Enters KI 150:=z8 func150
theorem Vk:Enters KI 151:=z8 func151
theorem Vj:Enters KI 152:=z8 func152
theorem Vi:Enters KI 153:=z8 func153
theorem Vh:Enters KI 154:=z8 func154
theorem Vf:Enters KI 155:=z8 func155
theorem Ve:Enters KI 156:=z8 func156
theorem Vd:Enters KI 157:=z8 func157
theorem Vc:Enters KI 158:=z8 func158
theorem Vb:Enters KI 159:=z8 func159
theorem Va:Enters KI 160:=z8 func160
theorem V9:Enters KI 161:=z8 func161
theorem V8:Enters KI 162:=z8 func162
theorem V7:Enters KI 163:=z8 func163
theorem bp:Enters KI 164:=z8 func164
theorem bo:Enters KI 165:=z8 func165
theorem V6:Enters KI 166:=z8 func166
theorem V5:Enters KI 167:=z8 func167
theorem V4:Enters KI 168:=z8 func168
theorem V3:Enters KI 169:=z8 func169
theorem V1:Enters KI 172:=z8 func172
theorem V0:Enters KI 173:=z8 func173
theorem VZ:Enters KI 178:=z8 func178
theorem VY:Enters KI 179:=z8 func179
theorem VX:Enters KI 180:=z8 func180
theorem VW:Enters KI 181:=z8 func181
theorem VV:Enters KI 182:=z8 func182
theorem bm:Enters KI 183:=z8 func183
theorem VU:Enters KI 184:=z8 func184
theorem bj:Enters KI 185:=z8 func185
theorem VT:Enters KI 186:=z8 func186
theorem bh:Enters KI 187:=z8 func187
theorem VS:Enters KI 188:=z8 func188
theorem bg:Enters KI 189:=z8 func189
theorem VQ:Enters KI 190:=z8 func190
theorem VP:Enters KI 191:=z8 func191
theorem bf:Enters KI 192:=z8 func192
theorem VO:Enters KI 193:=z8 func193
theorem VN:Enters KI 194:=z8 func194
theorem VM:Enters KI 195:=z8 func195
theorem ba:Enters KI 196:=z8 func196
theorem VL:Enters KI 197:=z8 func197
theorem VK:Enters KI 198:=z8 func198
theorem VJ:Enters KI 199:=z8 func199
theorem VI:Enters KI 200:=z8 func200
theorem VH:Enters KI 201:=z8 func201
theorem VG:Enters KI 202:=z8 func202
theorem VF:Enters KI 203:=z8 func203
theorem VE:Enters KI 204:=z8 func204
theorem VD:Enters KI 205:=z8 func205
theorem VC:Enters KI 206:=z8 func206
theorem VB:Enters KI 207:=z8 func207
theorem VA:Enters KI 208:=z8 func208
theorem xV:Enters KI 209:=z8 func209
theorem Wz:Enters KI 210:=z8 func210
theorem Wy:Enters KI 211:=z8 func211
theorem Wx:Enters KI 212:=z8 func212
theorem Ww:Enters KI 213:=z8 func213
theorem Wv:Enters KI 214:=z8 func214
theorem Wt:Enters KI 215:=z8 func215
theorem Wr:Enters KI 216:=z8 func216
theorem Wq:Enters KI 217:=z8 func217
theorem Wp:Enters KI 218:=z8 func218
theorem Wo:Enters KI 219:=z8 func219
theorem Wn:Enters KI 220:=z8 func220
theorem bZ:Enters KI 221:=z8 func221
theorem bX:Enters KI 222:=z8 func222
theorem Wm:Enters KI 223:=z8 func223
theorem Wl:Enters KI 224:=z8 func224
theorem Wj:Enters KI 225:=z8 func225
theorem Wh:Enters KI 226:=z8 func226
theorem Wg:Enters KI 227:=z8 func227
theorem Wf:Enters KI 228:=z8 func228
theorem We:Enters KI 229:=z8 func229
theorem Wd:Enters KI 230:=z8 func230
theorem Wc:Enters KI 232:=z8 func232
theorem Wb:Enters KI 234:=z8 func234
theorem Wa:Enters KI 235:=z8 func235
theorem W9:Enters KI 236:=z8 func236
theorem W8:Enters KI 237:=z8 func237
theorem W7:Enters KI 238:=z8 func238
theorem W6:Enters KI 239:=z8 func239
theorem W5:Enters KI 240:=z8 func240
theorem W4:Enters KI 241:=z8 func241
theorem W3:Enters KI 242:=z8 func242
theorem W2:Enters KI 243:=z8 func243
theorem W1:Enters KI 244:=z8 func244
theorem W0:Enters KI 245:=z8 func245
theorem WZ:Enters KI 246:=z8 func246
theorem WY:Enters KI 247:=z8 func247
theorem v9:Enters KI 248:=z8 func248
theorem WX:Enters KI 249:=z8 func249
theorem WW:Enters KI 250:=z8 func250
theorem WV:Enters KI 251:=z8 func251
theorem WU:Enters KI 252:=z8 func252
theorem WT:Enters KI 253:=z8 func253
theorem WS:Enters KI 254:=z8 func254
theorem WR:Enters KI 255:=z8 func255
theorem bV:Enters KI 256:=z8 func256
theorem WQ:Enters KI 257:=z8 func257
theorem WP:Enters KI 258:=z8 func258
theorem fW:Enters KI 259:=z8 func259
theorem WO:Enters KI 260:=z8 func260
theorem WN:Enters KI 261:=z8 func261
theorem WM:Enters KI 262:=z8 func262
theorem WL:Enters KI 263:=z8 func263
theorem bU:Enters KI 264:=z8 func264
theorem WK:Enters KI 265:=z8 func265
theorem WJ:Enters KI 266:=z8 func266
theorem WI:Enters KI 267:=z8 func267
theorem WH:Enters KI 268:=z8 func268
theorem WG:Enters KI 269:=z8 func269
theorem WF:Enters KI 270:=z8 func270
theorem WE:Enters KI 271:=z8 func271
theorem WD:Enters KI 272:=z8 func272
theorem WC:Enters KI 273:=z8 func273
theorem WB:Enters KI 274:=z8 func274
theorem WA:Enters KI 275:=z8 func275
theorem Xz:Enters KI 276:=z8 func276
theorem Xy:Enters KI 277:=z8 func277
theorem Xx:Enters KI 278:=z8 func278
theorem Xw:Enters KI 279:=z8 func279
theorem Xv:Enters KI 280:=z8 func280
theorem Xu:Enters KI 281:=z8 func281
theorem Xt:Enters KI 282:=z8 func282
theorem Xs:Enters KI 284:=z8 func284
theorem Xr:Enters KI 285:=z8 func285
theorem Xq:Enters KI 287:=z8 func287
theorem Xp:Enters KI 288:=z8 func288
theorem Xo:Enters KI 289:=z8 func289
theorem Xn:Enters KI 290:=z8 func290
theorem Xm:Enters KI 291:=z8 func291
theorem Xl:Enters KI 292:=z8 func292
theorem Xk:Enters KI 293:=z8 func293
theorem Xj:Enters KI 294:=z8 func294
theorem zw:KI.follows .mixedOrders=true:=by kernel_rfl
attribute [go_sem] ntmps3 ntmps5 ntmps6 ntmps7 ntmps8 ntmps9 ntmps10 ntmps11 ntmps12 ntmps13 ntmps16 ntmps17 ntmps18 ntmps19 ntmps20 ntmps21 ntmps22 ntmps23 ntmps24 ntmps25 ntmps26 ntmps27 ntmps28 ntmps29 ntmps30 ntmps31 ntmps32 ntmps33 ntmps34 ntmps35 ntmps36 ntmps37 ntmps38 ntmps39 ntmps40 ntmps41 ntmps42 ntmps43 ntmps44 ntmps45 ntmps46 ntmps47 ntmps48 ntmps49 ntmps50 ntmps51 ntmps52 ntmps53 ntmps54 ntmps55 ntmps56 ntmps57 ntmps58 ntmps59 ntmps62 ntmps63 ntmps64 ntmps65 ntmps66 ntmps67 ntmps68 ntmps69 ntmps70 ntmps71 ntmps72 ntmps73 ntmps74 ntmps75 ntmps76 ntmps77 ntmps78 ntmps79 ntmps80 ntmps81 ntmps82 ntmps83 ntmps84 ntmps85 ntmps86 ntmps87 ntmps88 ntmps89 ntmps90 ntmps91 ntmps92 ntmps93 ntmps99 ntmps100 ntmps101 ntmps102 ntmps103 ntmps104 ntmps105 ntmps106 ntmps107 ntmps108 ntmps109 ntmps110 ntmps111 ntmps112 ntmps113 ntmps114 ntmps115 ntmps116 ntmps117 ntmps118 ntmps119 ntmps120 ntmps121 ntmps122 ntmps123 ntmps124 ntmps125 ntmps126 ntmps127 ntmps128 ntmps129 ntmps130 ntmps131 ntmps132 ntmps133 ntmps134 ntmps135 ntmps136 ntmps137 ntmps141 ntmps144 ntmps147 ntmps149 ntmps150 ntmps151 ntmps152 ntmps153 ntmps154 ntmps155 ntmps156 ntmps157 ntmps158 ntmps159 ntmps160 ntmps161 ntmps162 ntmps163 ntmps164 ntmps165 ntmps166 ntmps167 ntmps168 ntmps169 ntmps172 ntmps173 ntmps178 ntmps179 ntmps180 ntmps181 ntmps182 ntmps183 ntmps184 ntmps185 ntmps186 ntmps187 ntmps188 ntmps189 ntmps190 ntmps191 ntmps192 ntmps193 ntmps194 ntmps195 ntmps196 ntmps197 ntmps198 ntmps199 ntmps200 ntmps201 ntmps202 ntmps203 ntmps204 ntmps205 ntmps206 ntmps207 ntmps208 ntmps209 ntmps210 ntmps211 ntmps212 ntmps213 ntmps214 ntmps215 ntmps216 ntmps217 ntmps218 ntmps219 ntmps220 ntmps221 ntmps222 ntmps223 ntmps224 ntmps225 ntmps226 ntmps227 ntmps228 ntmps229 ntmps230 ntmps232 ntmps234 ntmps235 ntmps236 ntmps237 ntmps238 ntmps239 ntmps240 ntmps241 ntmps242 ntmps243 ntmps244 ntmps245 ntmps246 ntmps247 ntmps248 ntmps249 ntmps250 ntmps251 ntmps252 ntmps253 ntmps254 ntmps255 ntmps256 ntmps257 ntmps258 ntmps259 ntmps260 ntmps261 ntmps262 ntmps263 ntmps264 ntmps265 ntmps266 ntmps267 ntmps268 ntmps269 ntmps270 ntmps271 ntmps272 ntmps273 ntmps274 ntmps275 ntmps276 ntmps277 ntmps278 ntmps279 ntmps280 ntmps281 ntmps282 ntmps284 ntmps285 ntmps287 ntmps288 ntmps289 ntmps290 ntmps291 ntmps292 ntmps293 ntmps294
end Tf
end Go.Proofs.YtbnkiacicnnmkaaGreat
