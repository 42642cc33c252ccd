/-  -/
import Derived.Test.YtbnkiacicnnmkaaGreatProg
import Derived.Test.YtbnkiacicnnmkaaGreatMB
import Derived.KernelRfl
open Go.Proofs.Tryz
open Go.Proofs.Tryz renaming prog→HT
set_option linter.unusedSimpArgs false
set_option linter.unusedVariables false
namespace Go.Proofs.YtbnkiacicnnmkaaGreat
open Vg
namespace Tf
@[go_sem] theorem Ke:(HT.underlying 1).isSome=true/\(HT.underlying 2).isSome=true:=by and_intros<;>kernel_rfl
@[go_sem] theorem Kp:vB HT 2=some .i64:=by kernel_rfl
@[go_sem] theorem LV:zm HT 3=1:=by kernel_rfl
@[go_sem] theorem Ku:z5 HT 3=some false/\(HT.underlying 3).isSome=true:=by and_intros<;>kernel_rfl
@[go_sem] theorem LG:zd HT 3=some [Value.int .i64 0]:=by kernel_rfl
@[go_sem] theorem Ks:wD HT 3=8:=by kernel_rfl
@[go_sem] theorem Nx:yX HT 3=none:=by kernel_rfl
@[go_sem] theorem Ko:vB HT 3=some .i64:=by kernel_rfl
@[go_sem] theorem Kh:zm HT 4=1/\z5 HT 4=some false/\(HT.underlying 4).isSome=true/\zd HT 4=some [Value.bool false]/\wD HT 4=1:=by and_intros<;>kernel_rfl
@[go_sem] theorem Kf:HT.underlying 4=some .bool:=by kernel_rfl
@[go_sem] theorem Kt:z5 HT 5=some false/\(HT.underlying 5).isSome=true/\zd HT 5=some [Value.int .u8 0]:=by and_intros<;>kernel_rfl
@[go_sem] theorem Kn:vB HT 5=some .u8:=by kernel_rfl
@[go_sem] theorem Kd:(HT.underlying 6).isSome=true:=by kernel_rfl
@[go_sem] theorem Km:vB HT 6=some .u8:=by kernel_rfl
@[go_sem] theorem Kc:(HT.underlying 7).isSome=true/\(HT.underlying 8).isSome=true/\zm HT 9=1/\z5 HT 9=some false/\(HT.underlying 9).isSome=true/\zd HT 9=some [Value.string ⟨#[]⟩]/\tv HT 9=true/\wD HT 9=16/\(HT.underlying 10).isSome=true/\(HT.underlying 11).isSome=true/\(HT.underlying 12).isSome=true:=by and_intros<;>kernel_rfl
@[go_sem] theorem Lq:vB HT 12=some .u64:=by kernel_rfl
@[go_sem] theorem LR:(HT.underlying 13).isSome=true/\(HT.underlying 14).isSome=true/\(HT.underlying 15).isSome=true:=by and_intros<;>kernel_rfl
@[go_sem] theorem L3:sF HT 15=some 352:=by kernel_rfl
@[go_sem] theorem LQ:(HT.underlying 16).isSome=true:=by kernel_rfl
@[go_sem] theorem L2:sF HT 16=some 355:=by kernel_rfl
@[go_sem] theorem LP:(HT.underlying 17).isSome=true:=by kernel_rfl
@[go_sem] theorem L1:sF HT 17=some 364:=by kernel_rfl
@[go_sem] theorem LO:(HT.underlying 18).isSome=true/\(HT.underlying 19).isSome=true/\(HT.underlying 20).isSome=true/\(HT.underlying 21).isSome=true:=by and_intros<;>kernel_rfl
@[go_sem] theorem Lp:vB HT 21=some .i32:=by kernel_rfl
@[go_sem] theorem LW:zm HT 22=1/\z5 HT 22=some false/\(HT.underlying 22).isSome=true:=by and_intros<;>kernel_rfl
@[go_sem] theorem Yr:yX HT 22=some (42,5):=by kernel_rfl
@[go_sem] theorem La:kw HT 22=none/\zm HT 23=1/\z5 HT 23=some false/\(HT.underlying 23).isSome=true:=by and_intros<;>kernel_rfl
@[go_sem] theorem m9:yX HT 23=some (55,10):=by kernel_rfl
@[go_sem] theorem Ka:z5 HT 24=some false/\(HT.underlying 24).isSome=true:=by and_intros<;>kernel_rfl
@[go_sem] theorem PD:yX HT 24=some (78,2):=by kernel_rfl
@[go_sem] theorem K9:z5 HT 25=some false/\(HT.underlying 25).isSome=true:=by and_intros<;>kernel_rfl
@[go_sem] theorem PC:yX HT 25=some (82,3):=by kernel_rfl
@[go_sem] theorem Wn:zm HT 26=1:=by kernel_rfl
@[go_sem] theorem K8:z5 HT 26=some false/\(HT.underlying 26).isSome=true/\zd HT 26=some [Value.slice none 0 0]/\tv HT 26=false/\wD HT 26=24:=by and_intros<;>kernel_rfl
@[go_sem] theorem tP:yX HT 26=some (3,1):=by kernel_rfl
@[go_sem] theorem L9:kw HT 26=none/\(HT.underlying 27).isSome=true:=by and_intros<;>kernel_rfl
@[go_sem] theorem Qw:zm HT 28=9:=by kernel_rfl
@[go_sem] theorem K6:z5 HT 28=some true/\(HT.underlying 28).isSome=true:=by and_intros<;>kernel_rfl
@[go_sem] theorem LH:zd HT 28=some [Value.slice none 0 0,Value.slice none 0 0,Value.slice none 0 0,Value.slice none 0 0,Value.int .i64 0,Value.slice none 0 0,Value.slice none 0 0,Value.slice none 0 0,Value.slice none 0 0]:=by kernel_rfl
@[go_sem] theorem PL:zY HT 28 0=some 0/\zY HT 28 1=some 1/\zY HT 28 2=some 2/\zY HT 28 3=some 3/\zY HT 28 4=some 4/\zY HT 28 5=some 5/\zY HT 28 6=some 6/\zY HT 28 7=some 7/\zY HT 28 8=some 8/\(HT.underlying 32).isSome=true:=by and_intros<;>kernel_rfl
@[go_sem] theorem Lo:vB HT 32=some .i64:=by kernel_rfl
@[go_sem] theorem Qv:zm HT 38=1:=by kernel_rfl
@[go_sem] theorem K5:z5 HT 38=some false/\(HT.underlying 38).isSome=true:=by and_intros<;>kernel_rfl
@[go_sem] theorem Ww:yX HT 38=some (26,1):=by kernel_rfl
@[go_sem] theorem LN:(HT.underlying 41).isSome=true:=by kernel_rfl
@[go_sem] theorem Qu:zm HT 42=5:=by kernel_rfl
@[go_sem] theorem NX:z5 HT 42=some true:=by kernel_rfl
@[go_sem] theorem LM:(HT.underlying 42).isSome=true/\zd HT 42=some [Value.int .i64 0,Value.int .i64 0,Value.int .i64 0,Value.int .i64 0,Value.int .i64 0]/\wD HT 42=40/\wT HT 42=some [(0,1),(1,1),(2,1),(3,1),(4,1)]/\zY HT 42 0=some 0/\zY HT 42 1=some 1/\zY HT 42 2=some 2/\zY HT 42 3=some 3/\zY HT 42 4=some 4/\zm HT 43=16/\(HT.underlying 43).isSome=true:=by and_intros<;>kernel_rfl
@[go_sem] theorem LF:zd HT 43=some [Value.int .i64 0,Value.int .i64 0,Value.int .i64 0,Value.int .i64 0,Value.int .i64 0,Value.int .i64 0,Value.int .i64 0,Value.int .i64 0,Value.int .i64 0,Value.int .i64 0,Value.int .i64 0,Value.int .i64 0,Value.int .i64 0,Value.int .i64 0,Value.int .i64 0,Value.int .i64 0]:=by kernel_rfl
@[go_sem] theorem L8:kw HT 43=some (16,1):=by kernel_rfl
@[go_sem] theorem KV:li HT 43=some 16:=by kernel_rfl
@[go_sem] theorem L6:wT HT 43=some [(0,1),(1,1),(2,1),(3,1),(4,1),(5,1),(6,1),(7,1),(8,1),(9,1),(10,1),(11,1),(12,1),(13,1),(14,1),(15,1)]/\(HT.underlying 44).isSome=true/\zm HT 45=17/\z5 HT 45=some true/\(HT.underlying 45).isSome=true:=by and_intros<;>kernel_rfl
@[go_sem] theorem LD:zd HT 45=some [Value.int .i64 0,Value.int .i64 0,Value.int .i64 0,Value.int .i64 0,Value.int .i64 0,Value.int .i64 0,Value.int .i64 0,Value.int .i64 0,Value.int .i64 0,Value.int .i64 0,Value.int .i64 0,Value.int .i64 0,Value.int .i64 0,Value.int .i64 0,Value.int .i64 0,Value.int .i64 0,Value.slice none 0 0]:=by kernel_rfl
@[go_sem] theorem L5:wT HT 45=some [(0,16),(16,1)]/\zY HT 45 0=some 0/\zY HT 45 1=some 16/\(HT.underlying 52).isSome=true/\zm HT 53=5:=by and_intros<;>kernel_rfl
@[go_sem] theorem NW:z5 HT 53=some true:=by kernel_rfl
@[go_sem] theorem LL:(HT.underlying 53).isSome=true/\zd HT 53=some [Value.int .i64 0,Value.int .i64 0,Value.int .i64 0,Value.int .i64 0,Value.int .i64 0]/\wD HT 53=40/\wT HT 53=some [(0,1),(1,1),(2,1),(3,1),(4,1)]/\zY HT 53 0=some 0/\zY HT 53 1=some 1/\zY HT 53 2=some 2/\zY HT 53 3=some 3/\zY HT 53 4=some 4/\(HT.underlying 54).isSome=true:=by and_intros<;>kernel_rfl
@[go_sem] theorem Qt:zm HT 55=10:=by kernel_rfl
@[go_sem] theorem K4:z5 HT 55=some true/\(HT.underlying 55).isSome=true:=by and_intros<;>kernel_rfl
@[go_sem] theorem LC:zd HT 55=some [Value.int .i64 0,Value.bool false,Value.int .i64 0,Value.int .i64 0,Value.int .i64 0,Value.int .i64 0,Value.int .i64 0,Value.int .i64 0,Value.int .i64 0,Value.int .i64 0]:=by kernel_rfl
@[go_sem] theorem KS:wD HT 55=80/\wT HT 55=some [(0,1),(1,1),(2,1),(3,1),(4,1),(5,5)]/\zY HT 55 0=some 0/\zY HT 55 1=some 1/\zY HT 55 2=some 2/\zY HT 55 3=some 3/\zY HT 55 4=some 4/\iy HT 55 5=some (5,5,true)/\zY HT 55 5=some 5/\(HT.underlying 56).isSome=true/\zm HT 57=11/\z5 HT 57=some true:=by and_intros<;>kernel_rfl
@[go_sem] theorem LK:(HT.underlying 57).isSome=true:=by kernel_rfl
@[go_sem] theorem LB:zd HT 57=some [Value.string ⟨#[]⟩,Value.int .i64 0,Value.bool false,Value.int .i64 0,Value.int .i64 0,Value.int .i64 0,Value.int .i64 0,Value.int .i64 0,Value.int .i64 0,Value.int .i64 0,Value.int .i64 0]:=by kernel_rfl
@[go_sem] theorem KR:wD HT 57=96/\wT HT 57=some [(0,1),(1,10)]/\zY HT 57 0=some 0/\zY HT 57 1=some 1/\zm HT 58=1/\z5 HT 58=some false/\(HT.underlying 58).isSome=true/\yX HT 58=some (57,11)/\(HT.underlying 59).isSome=true/\zm HT 60=4/\z5 HT 60=some true/\(HT.underlying 60).isSome=true:=by and_intros<;>kernel_rfl
@[go_sem] theorem LA:zd HT 60=some [Value.string ⟨#[]⟩,Value.string ⟨#[]⟩,Value.int .i64 0,Value.int .i64 0]/\wD HT 60=48/\wT HT 60=some [(0,1),(1,1),(2,1),(3,1)]/\zY HT 60 0=some 0/\zY HT 60 1=some 1/\zY HT 60 2=some 2/\zY HT 60 3=some 3/\zm HT 61=1/\z5 HT 61=some false/\(HT.underlying 61).isSome=true/\yX HT 61=some (60,4)/\zm HT 62=1:=by and_intros<;>kernel_rfl
@[go_sem] theorem KZ:z5 HT 62=some false/\(HT.underlying 62).isSome=true/\yX HT 62=some (9,1)/\(HT.underlying 63).isSome=true/\zm HT 64=6/\z5 HT 64=some true/\(HT.underlying 64).isSome=true/\zd HT 64=some [Value.string ⟨#[]⟩,Value.string ⟨#[]⟩,Value.string ⟨#[]⟩,Value.slice none 0 0,Value.string ⟨#[]⟩,Value.slice none 0 0]/\wD HT 64=112/\wT HT 64=some [(0,1),(1,1),(2,1),(3,1),(4,1),(5,1)]/\zY HT 64 0=some 0/\zY HT 64 1=some 1:=by and_intros<;>kernel_rfl
@[go_sem] theorem PK:zY HT 64 2=some 2/\zY HT 64 3=some 3/\zY HT 64 4=some 4/\zY HT 64 5=some 5/\zm HT 65=1/\z5 HT 65=some false/\(HT.underlying 65).isSome=true:=by and_intros<;>kernel_rfl
@[go_sem] theorem Wv:yX HT 65=some (64,6):=by kernel_rfl
@[go_sem] theorem LU:zm HT 66=1/\z5 HT 66=some false/\(HT.underlying 66).isSome=true/\yX HT 66=some (138,3)/\zm HT 67=1/\z5 HT 67=some false/\(HT.underlying 67).isSome=true/\yX HT 67=some (140,4)/\(HT.underlying 68).isSome=true/\zm HT 69=7/\z5 HT 69=some true/\(HT.underlying 69).isSome=true:=by and_intros<;>kernel_rfl
@[go_sem] theorem Mz:zd HT 69=some [Value.string ⟨#[]⟩,Value.slice none 0 0,Value.slice none 0 0,Value.slice none 0 0,Value.slice none 0 0,Value.slice none 0 0,Value.slice none 0 0]/\wT HT 69=some [(0,1),(1,1),(2,1),(3,1),(4,1),(5,1),(6,1)]/\zY HT 69 0=some 0/\zY HT 69 1=some 1/\zY HT 69 2=some 2/\zY HT 69 3=some 3/\zY HT 69 4=some 4/\zY HT 69 5=some 5/\zY HT 69 6=some 6/\zm HT 70=1/\z5 HT 70=some false/\(HT.underlying 70).isSome=true:=by and_intros<;>kernel_rfl
@[go_sem] theorem LY:yX HT 70=some (131,13)/\(HT.underlying 71).isSome=true/\zm HT 72=9/\z5 HT 72=some true/\(HT.underlying 72).isSome=true:=by and_intros<;>kernel_rfl
@[go_sem] theorem My:zd HT 72=some [Value.string ⟨#[]⟩,Value.slice none 0 0,Value.slice none 0 0,Value.slice none 0 0,Value.slice none 0 0,Value.slice none 0 0,Value.slice none 0 0,Value.slice none 0 0,Value.slice none 0 0]:=by kernel_rfl
@[go_sem] theorem L4:wT HT 72=some [(0,7),(7,1),(8,1)]/\zY HT 72 0=some 0/\zY HT 72 1=some 7/\zY HT 72 2=some 8/\(HT.underlying 77).isSome=true:=by and_intros<;>kernel_rfl
@[go_sem] theorem Qs:zm HT 78=2:=by kernel_rfl
@[go_sem] theorem KY:z5 HT 78=some true/\(HT.underlying 78).isSome=true/\zd HT 78=some [Value.slice none 0 0,Value.slice none 0 0]/\zY HT 78 0=some 0/\zY HT 78 1=some 1/\(HT.underlying 79).isSome=true/\(HT.underlying 81).isSome=true:=by and_intros<;>kernel_rfl
@[go_sem] theorem Qr:zm HT 82=3:=by kernel_rfl
@[go_sem] theorem KW:z5 HT 82=some true/\(HT.underlying 82).isSome=true/\zd HT 82=some [Value.slice none 0 0,Value.slice none 0 0,Value.slice none 0 0]/\zY HT 82 0=some 0/\zY HT 82 1=some 1/\zY HT 82 2=some 2/\(HT.underlying 84).isSome=true/\(HT.underlying 85).isSome=true/\zm HT 86=1/\z5 HT 86=some false/\(HT.underlying 86).isSome=true/\zd HT 86=some [Value.slice none 0 0]:=by and_intros<;>kernel_rfl
@[go_sem] theorem LX:yX HT 86=some (4,1)/\kw HT 86=none/\zm HT 87=1/\z5 HT 87=some false/\(HT.underlying 87).isSome=true/\zd HT 87=some [Value.pointer none]:=by and_intros<;>kernel_rfl
@[go_sem] theorem LZ:sF HT 87=some 91:=by kernel_rfl
@[go_sem] theorem LS:zm HT 89=1/\z5 HT 89=some false/\(HT.underlying 89).isSome=true:=by and_intros<;>kernel_rfl
@[go_sem] theorem Ln:vB HT 89=some .u16:=by kernel_rfl
@[go_sem] theorem LJ:(HT.underlying 90).isSome=true/\(HT.underlying 91).isSome=true/\zd HT 91=some [Value.int .u16 0,Value.slice none 0 0]/\wT HT 91=some [(0,1),(1,1)]/\zY HT 91 0=some 0/\zY HT 91 1=some 1/\(HT.underlying 92).isSome=true/\(HT.underlying 93).isSome=true/\(HT.underlying 95).isSome=true/\(HT.underlying 99).isSome=true/\(HT.underlying 106).isSome=true/\zm HT 107=3:=by and_intros<;>kernel_rfl
@[go_sem] theorem Mv:z5 HT 107=some true/\(HT.underlying 107).isSome=true/\zd HT 107=some [Value.string ⟨#[]⟩,Value.string ⟨#[]⟩,Value.int .i64 0]/\wT HT 107=some [(0,1),(1,1),(2,1)]/\zY HT 107 1=some 1/\zY HT 107 2=some 2/\(HT.underlying 108).isSome=true/\yX HT 108=some (107,3)/\(HT.underlying 113).isSome=true:=by and_intros<;>kernel_rfl
@[go_sem] theorem ML:sF HT 113=some 45:=by kernel_rfl
@[go_sem] theorem Nw:zm HT 115=1/\z5 HT 115=some false/\(HT.underlying 115).isSome=true/\zd HT 115=some [Value.pointer none]:=by and_intros<;>kernel_rfl
@[go_sem] theorem MK:sF HT 115=some 191:=by kernel_rfl
@[go_sem] theorem Mu:z5 HT 118=some false/\(HT.underlying 118).isSome=true/\zd HT 118=some [Value.nilFunc]/\z5 HT 122=some false/\(HT.underlying 122).isSome=true/\yX HT 122=some (129,2)/\(HT.underlying 128).isSome=true/\zm HT 129=2:=by and_intros<;>kernel_rfl
@[go_sem] theorem QP:z5 HT 129=some true:=by kernel_rfl
@[go_sem] theorem Nu:(HT.underlying 129).isSome=true/\zd HT 129=some [Value.int .i64 0,Value.int .i64 0]/\wD HT 129=16/\wT HT 129=some [(0,1),(1,1)]/\zY HT 129 0=some 0/\zY HT 129 1=some 1/\(HT.underlying 130).isSome=true/\zm HT 131=13:=by and_intros<;>kernel_rfl
@[go_sem] theorem QO:z5 HT 131=some true:=by kernel_rfl
@[go_sem] theorem Nt:(HT.underlying 131).isSome=true:=by kernel_rfl
@[go_sem] theorem N4:zd HT 131=some [Value.string ⟨#[]⟩,Value.int .i64 0,Value.bool false,Value.int .i64 0,Value.int .i64 0,Value.int .i64 0,Value.int .i64 0,Value.int .i64 0,Value.int .i64 0,Value.int .i64 0,Value.int .i64 0,Value.int .i64 0,Value.int .i64 0]:=by kernel_rfl
@[go_sem] theorem Mj:wD HT 131=112/\wT HT 131=some [(0,1),(1,10),(11,2)]/\zY HT 131 0=some 0/\z5 HT 134=some false/\(HT.underlying 134).isSome=true:=by and_intros<;>kernel_rfl
@[go_sem] theorem MJ:sF HT 134=some 136:=by kernel_rfl
@[go_sem] theorem Ns:(HT.underlying 135).isSome=true/\(HT.underlying 136).isSome=true:=by and_intros<;>kernel_rfl
@[go_sem] theorem N3:zd HT 136=some [Value.string ⟨#[]⟩,Value.slice none 0 0,Value.slice none 0 0,Value.slice none 0 0,Value.slice none 0 0,Value.slice none 0 0,Value.slice none 0 0,Value.slice none 0 0,Value.slice none 0 0,Value.slice none 0 0,Value.slice none 0 0,Value.slice none 0 0,Value.slice none 0 0,Value.int .i64 0,Value.slice none 0 0,Value.slice none 0 0,Value.slice none 0 0,Value.slice none 0 0,Value.slice none 0 0,Value.int .i64 0]:=by kernel_rfl
@[go_sem] theorem MU:wT HT 136=some [(0,9),(9,9),(18,1),(19,1)]/\zY HT 136 0=some 0/\zY HT 136 1=some 9/\zY HT 136 2=some 18/\zY HT 136 3=some 19/\(HT.underlying 137).isSome=true/\zm HT 138=3/\z5 HT 138=some true/\(HT.underlying 138).isSome=true/\zd HT 138=some [Value.string ⟨#[]⟩,Value.slice none 0 0,Value.slice none 0 0]/\wD HT 138=64/\zY HT 138 0=some 0:=by and_intros<;>kernel_rfl
@[go_sem] theorem Q6:zY HT 138 1=some 1/\(HT.underlying 139).isSome=true/\zm HT 140=4/\z5 HT 140=some true/\(HT.underlying 140).isSome=true/\zd HT 140=some [Value.string ⟨#[]⟩,Value.slice none 0 0,Value.slice none 0 0,Value.slice none 0 0]/\wD HT 140=88/\zY HT 140 0=some 0/\zY HT 140 1=some 1/\zm HT 141=1/\z5 HT 141=some false/\(HT.underlying 141).isSome=true:=by and_intros<;>kernel_rfl
@[go_sem] theorem Nr:(HT.underlying 144).isSome=true/\(HT.underlying 146).isSome=true/\(HT.underlying 147).isSome=true/\zm HT 151=1/\z5 HT 151=some false/\(HT.underlying 151).isSome=true/\zd HT 151=some [Value.nilFunc]/\zm HT 155=1/\z5 HT 155=some false/\(HT.underlying 155).isSome=true/\zd HT 155=some [Value.nilFunc]/\(HT.underlying 157).isSome=true:=by and_intros<;>kernel_rfl
@[go_sem] theorem Nq:(HT.underlying 160).isSome=true/\z5 HT 175=some false/\(HT.underlying 175).isSome=true/\z5 HT 177=some false/\(HT.underlying 177).isSome=true/\z5 HT 179=some false/\(HT.underlying 179).isSome=true/\z5 HT 181=some false/\(HT.underlying 181).isSome=true/\z5 HT 183=some false/\(HT.underlying 183).isSome=true/\z5 HT 185=some false:=by and_intros<;>kernel_rfl
@[go_sem] theorem Np:(HT.underlying 185).isSome=true/\z5 HT 187=some false/\(HT.underlying 187).isSome=true/\z5 HT 188=some false/\(HT.underlying 188).isSome=true/\z5 HT 189=some false/\(HT.underlying 189).isSome=true/\(HT.underlying 190).isSome=true/\(HT.underlying 191).isSome=true:=by and_intros<;>kernel_rfl
@[go_sem] theorem N2:zd HT 191=some [Value.string ⟨#[]⟩,Value.slice none 0 0,Value.slice none 0 0,Value.slice none 0 0,Value.slice none 0 0,Value.slice none 0 0,Value.slice none 0 0,Value.map none,Value.map none,Value.map none,Value.map none]:=by kernel_rfl
@[go_sem] theorem MT:wT HT 191=some [(0,7),(7,1),(8,1),(9,1),(10,1)]/\zY HT 191 0=some 0/\zY HT 191 1=some 7/\zY HT 191 2=some 8/\zY HT 191 3=some 9/\zY HT 191 4=some 10/\(HT.underlying 192).isSome=true/\(HT.underlying 193).isSome=true/\(HT.underlying 195).isSome=true/\(HT.underlying 196).isSome=true/\(HT.underlying 198).isSome=true/\(HT.underlying 199).isSome=true:=by and_intros<;>kernel_rfl
@[go_sem] theorem No:(HT.underlying 201).isSome=true/\(HT.underlying 202).isSome=true/\(HT.underlying 204).isSome=true/\yX HT 204=some (118,1)/\(HT.underlying 214).isSome=true:=by and_intros<;>kernel_rfl
@[go_sem] theorem MI:sF HT 214=some 78:=by kernel_rfl
@[go_sem] theorem Nm:(HT.underlying 215).isSome=true:=by kernel_rfl
@[go_sem] theorem MH:sF HT 215=some 82:=by kernel_rfl
@[go_sem] theorem Nl:(HT.underlying 217).isSome=true:=by kernel_rfl
@[go_sem] theorem MG:sF HT 217=some 64:=by kernel_rfl
@[go_sem] theorem Nk:(HT.underlying 220).isSome=true/\zm HT 222=1/\(HT.underlying 222).isSome=true/\zd HT 222=some [Value.slice none 0 0]/\(HT.underlying 226).isSome=true/\(HT.underlying 233).isSome=true:=by and_intros<;>kernel_rfl
@[go_sem] theorem Mb:vB HT 233=some .u64:=by kernel_rfl
@[go_sem] theorem Nj:(HT.underlying 241).isSome=true/\zm HT 242=2/\(HT.underlying 242).isSome=true/\zd HT 242=some [Value.int .i64 0,Value.int .i64 0]/\wT HT 242=some [(0,1),(1,1)]/\zY HT 242 0=some 0/\zY HT 242 1=some 1/\(HT.underlying 245).isSome=true/\zm HT 246=11/\z5 HT 246=some true/\(HT.underlying 246).isSome=true:=by and_intros<;>kernel_rfl
@[go_sem] theorem N1:zd HT 246=some [Value.int .i64 0,Value.bool false,Value.int .i64 0,Value.int .i64 0,Value.int .i64 0,Value.int .i64 0,Value.int .i64 0,Value.int .i64 0,Value.int .i64 0,Value.int .i64 0,Value.int .i64 0]:=by kernel_rfl
@[go_sem] theorem MS:wT HT 246=some [(0,10),(10,1)]/\zY HT 246 0=some 0/\zY HT 246 1=some 10/\(HT.underlying 253).isSome=true/\(HT.underlying 257).isSome=true/\(HT.underlying 258).isSome=true/\(HT.underlying 259).isSome=true/\(HT.underlying 260).isSome=true/\z5 HT 276=some false/\(HT.underlying 276).isSome=true:=by and_intros<;>kernel_rfl
@[go_sem] theorem MF:sF HT 276=some 3:=by kernel_rfl
@[go_sem] theorem Za:zm HT 277=5:=by kernel_rfl
@[go_sem] theorem Ni:(HT.underlying 277).isSome=true/\zd HT 277=some [Value.pointer none,Value.pointer none,Value.pointer none,Value.pointer none,Value.pointer none]/\kw HT 277=some (5,1):=by and_intros<;>kernel_rfl
@[go_sem] theorem Mo:li HT 277=some 5:=by kernel_rfl
@[go_sem] theorem MR:wT HT 277=some [(0,1),(1,1),(2,1),(3,1),(4,1)]/\(HT.underlying 279).isSome=true:=by and_intros<;>kernel_rfl
@[go_sem] theorem ME:sF HT 279=some 53:=by kernel_rfl
@[go_sem] theorem Nh:(HT.underlying 280).isSome=true:=by kernel_rfl
@[go_sem] theorem Wx:yX HT 280=some (5,1):=by kernel_rfl
@[go_sem] theorem Mt:z5 HT 293=some false/\(HT.underlying 293).isSome=true:=by and_intros<;>kernel_rfl
@[go_sem] theorem Ma:vB HT 293=some .u64:=by kernel_rfl
@[go_sem] theorem Ng:(HT.underlying 294).isSome=true/\zm HT 295=2/\z5 HT 295=some true/\(HT.underlying 295).isSome=true/\zd HT 295=some [Value.int .u64 0,Value.int .u64 0]/\wT HT 295=some [(0,1),(1,1)]/\zY HT 295 0=some 0/\zY HT 295 1=some 1/\(HT.underlying 300).isSome=true/\yX HT 300=some (303,4)/\(HT.underlying 302).isSome=true/\zm HT 303=4:=by and_intros<;>kernel_rfl
@[go_sem] theorem Mr:z5 HT 303=some true/\(HT.underlying 303).isSome=true/\zd HT 303=some [Value.string ⟨#[]⟩,Value.int .i64 0,Value.int .i64 0,Value.int .i64 0]/\wT HT 303=some [(0,1),(1,1),(2,1),(3,1)]/\zY HT 303 0=some 0/\zY HT 303 1=some 1/\zY HT 303 2=some 2/\zY HT 303 3=some 3/\(HT.underlying 305).isSome=true/\(HT.underlying 307).isSome=true/\yX HT 307=some (53,5)/\(HT.underlying 310).isSome=true:=by and_intros<;>kernel_rfl
@[go_sem] theorem Nf:(HT.underlying 323).isSome=true/\zm HT 324=4/\z5 HT 324=some true/\(HT.underlying 324).isSome=true/\zd HT 324=some [Value.int .u64 0,Value.int .u64 0,Value.int .u64 0,Value.int .u64 0]/\wT HT 324=some [(0,2),(2,2)]/\zY HT 324 0=some 0/\zY HT 324 1=some 2/\(HT.underlying 341).isSome=true/\(HT.underlying 346).isSome=true/\(HT.underlying 347).isSome=true:=by and_intros<;>kernel_rfl
@[go_sem] theorem MD:sF HT 349=some 366:=by kernel_rfl
@[go_sem] theorem Nd:(HT.underlying 351).isSome=true/\(HT.underlying 352).isSome=true/\(HT.underlying 353).isSome=true:=by and_intros<;>kernel_rfl
@[go_sem] theorem Ml:li HT 353=some 0:=by kernel_rfl
@[go_sem] theorem Nc:(HT.underlying 354).isSome=true/\(HT.underlying 355).isSome=true/\(HT.underlying 356).isSome=true:=by and_intros<;>kernel_rfl
@[go_sem] theorem M9:vB HT 356=some .u32:=by kernel_rfl
@[go_sem] theorem Nb:(HT.underlying 357).isSome=true:=by kernel_rfl
@[go_sem] theorem M8:vB HT 357=some .u8:=by kernel_rfl
@[go_sem] theorem Na:(HT.underlying 358).isSome=true:=by kernel_rfl
@[go_sem] theorem M7:vB HT 358=some .u8:=by kernel_rfl
@[go_sem] theorem N9:(HT.underlying 359).isSome=true/\(HT.underlying 360).isSome=true:=by and_intros<;>kernel_rfl
@[go_sem] theorem MC:sF HT 360=some 5:=by kernel_rfl
@[go_sem] theorem N8:(HT.underlying 361).isSome=true:=by kernel_rfl
@[go_sem] theorem M6:vB HT 361=some .i32:=by kernel_rfl
@[go_sem] theorem N7:(HT.underlying 362).isSome=true:=by kernel_rfl
@[go_sem] theorem M5:vB HT 362=some .i32:=by kernel_rfl
@[go_sem] theorem N6:(HT.underlying 363).isSome=true/\(HT.underlying 364).isSome=true:=by and_intros<;>kernel_rfl
@[go_sem] theorem Nv:Qn HT 367=true:=by kernel_rfl
theorem UV:HT.eqGuardType HT.depth 42=false:=by kernel_rfl
theorem P2:pO HT 20 42=some [.i .i64,.i .i64,.i .i64,.i .i64,.i .i64]:=by kernel_rfl
@[go_sem] theorem KC (a0 b0:Int)(a1 b1:Int)(a2 b2:Int)(a3 b3:Int)(a4 b4:Int):lz HT 42 [.v (.int .i64 a0),.v (.int .i64 a1),.v (.int .i64 a2),.v (.int .i64 a3),.v (.int .i64 a4)] [.v (.int .i64 b0),.v (.int .i64 b1),.v (.int .i64 b2),.v (.int .i64 b3),.v (.int .i64 b4)]:=fun _ h=>qg P2 NX UV rfl rfl h
theorem UU:HT.eqGuardType HT.depth 53=false:=by kernel_rfl
theorem P1:pO HT 20 53=some [.i .i64,.i .i64,.i .i64,.i .i64,.i .i64]:=by kernel_rfl
@[go_sem] theorem KB (a0 b0:Int)(a1 b1:Int)(a2 b2:Int)(a3 b3:Int)(a4 b4:Int):lz HT 53 [.v (.int .i64 a0),.v (.int .i64 a1),.v (.int .i64 a2),.v (.int .i64 a3),.v (.int .i64 a4)] [.v (.int .i64 b0),.v (.int .i64 b1),.v (.int .i64 b2),.v (.int .i64 b3),.v (.int .i64 b4)]:=fun _ h=>qg P1 NW UU rfl rfl h
theorem WA:HT.eqGuardType HT.depth 129=false:=by kernel_rfl
theorem Vd:pO HT 20 129=some [.i .i64,.i .i64]:=by kernel_rfl
@[go_sem] theorem Mh (a0 b0:Int)(a1 b1:Int):lz HT 129 [.v (.int .i64 a0),.v (.int .i64 a1)] [.v (.int .i64 b0),.v (.int .i64 b1)]:=fun _ h=>qg Vd QP WA rfl rfl h
theorem Xz:HT.eqGuardType HT.depth 131=false:=by kernel_rfl
theorem Vc:pO HT 20 131=some [.s,.i .i64,.b,.i .i64,.i .i64,.i .i64,.i .i64,.i .i64,.i .i64,.i .i64,.i .i64,.i .i64,.i .i64]:=by kernel_rfl
@[go_sem] theorem Mg (a0 b0:ByteArray)(a1 b1:Int)(a2 b2:Bool)(a3 b3:Int)(a4 b4:Int)(a5 b5:Int)(a6 b6:Int)(a7 b7:Int)(a8 b8:Int)(a9 b9:Int)(a10 b10:Int)(a11 b11:Int)(a12 b12:Int):lz HT 131 [.v (.string a0),.v (.int .i64 a1),.v (.bool a2),.v (.int .i64 a3),.v (.int .i64 a4),.v (.int .i64 a5),.v (.int .i64 a6),.v (.int .i64 a7),.v (.int .i64 a8),.v (.int .i64 a9),.v (.int .i64 a10),.v (.int .i64 a11),.v (.int .i64 a12)] [.v (.string b0),.v (.int .i64 b1),.v (.bool b2),.v (.int .i64 b3),.v (.int .i64 b4),.v (.int .i64 b5),.v (.int .i64 b6),.v (.int .i64 b7),.v (.int .i64 b8),.v (.int .i64 b9),.v (.int .i64 b10),.v (.int .i64 b11),.v (.int .i64 b12)]:=fun _ h=>qg Vc QO Xz rfl rfl h
theorem fY {f:FuncId}{fn:Func}{b:Code}(hf:HT.funcs[f]?=some fn)(hn:(fn.name== "runtime.NumGoroutine")=false)(hb:fn.body=some b):Enters HT f:=fun args w=>by
 have h1:fn.name≠ "runtime.NumGoroutine" :=by simpa using hn
 simp[callFunc,hf,h1,hb]
theorem zZ {f:FuncId}{fn:Func}{b:Code}(hf:HT.funcs[f]?=some fn)(hn:(fn.name== "runtime.NumGoroutine")=false:=by kernel_rfl)(hb:fn.body=some b:=by exact rfl):Enters HT f:=fY hf hn hb
theorem KI:Enters HT 4:=zZ func4
theorem KH:Enters HT 5:=zZ func5
theorem KG:Enters HT 6:=zZ func6
theorem KF:Enters HT 7:=zZ func7
theorem KE:Enters HT 8:=zZ func8
theorem KD:Enters HT 9:=zZ func9
theorem WG:Enters HT 10:=zZ func10
theorem NA:Enters HT 14:=zZ func14
theorem Oz:Enters HT 15:=zZ func15
theorem Sb:Enters HT 16:=zZ func16
theorem WF:Enters HT 17:=zZ func17
theorem SR:Enters HT 18:=zZ func18
theorem SK:Enters HT 19:=zZ func19
theorem Oy:Enters HT 20:=zZ func20
theorem Ox:Enters HT 21:=zZ func21
theorem Ow:Enters HT 22:=zZ func22
theorem Ov:Enters HT 23:=zZ func23
theorem Ou:Enters HT 24:=zZ func24
theorem Ot:Enters HT 25:=zZ func25
theorem Oq:Enters HT 26:=zZ func26
theorem Oo:Enters HT 27:=zZ func27
theorem On:Enters HT 28:=zZ func28
theorem Om:Enters HT 29:=zZ func29
theorem Ol:Enters HT 30:=zZ func30
theorem Ok:Enters HT 31:=zZ func31
theorem Oj:Enters HT 32:=zZ func32
theorem Oi:Enters HT 33:=zZ func33
theorem Oh:Enters HT 34:=zZ func34
theorem Og:Enters HT 35:=zZ func35
theorem Of:Enters HT 36:=zZ func36
theorem Oe:Enters HT 37:=zZ func37
theorem Od:Enters HT 38:=zZ func38
theorem Oc:Enters HT 39:=zZ func39
theorem Ob:Enters HT 43:=zZ func43
theorem U3:Enters HT 44:=zZ func44
theorem U2:Enters HT 45:=zZ func45
theorem jZ:Enters HT 46:=zZ func46
theorem Oa:Enters HT 47:=zZ func47
theorem O9:Enters HT 48:=zZ func48
theorem O8:Enters HT 49:=zZ func49
theorem O7:Enters HT 50:=zZ func50
theorem O6:Enters HT 51:=zZ func51
theorem O5:Enters HT 52:=zZ func52
theorem O4:Enters HT 53:=zZ func53
theorem U1:Enters HT 54:=zZ func54
theorem O3:Enters HT 55:=zZ func55
theorem O2:Enters HT 56:=zZ func56
theorem O1:Enters HT 57:=zZ func57
theorem O0:Enters HT 58:=zZ func58
theorem OZ:Enters HT 59:=zZ func59
theorem OY:Enters HT 62:=zZ func62
theorem OX:Enters HT 63:=zZ func63
theorem OW:Enters HT 64:=zZ func64
theorem OV:Enters HT 65:=zZ func65
theorem OU:Enters HT 66:=zZ func66
theorem U0:Enters HT 67:=zZ func67
theorem OT:Enters HT 68:=zZ func68
theorem OS:Enters HT 69:=zZ func69
theorem OR:Enters HT 70:=zZ func70
theorem OQ:Enters HT 71:=zZ func71
theorem OP:Enters HT 72:=zZ func72
theorem OO:Enters HT 73:=zZ func73
theorem ON:Enters HT 74:=zZ func74
theorem OM:Enters HT 75:=zZ func75
theorem OL:Enters HT 76:=zZ func76
theorem WE:Enters HT 77:=zZ func77
theorem OK:Enters HT 78:=zZ func78
theorem WD:Enters HT 79:=zZ func79
theorem OJ:Enters HT 80:=zZ func80
theorem OI:Enters HT 81:=zZ func81
theorem UZ:Enters HT 82:=zZ func82
theorem OH:Enters HT 83:=zZ func83
theorem OG:Enters HT 84:=zZ func84
theorem OF:Enters HT 85:=zZ func85
theorem OE:Enters HT 86:=zZ func86
theorem OD:Enters HT 87:=zZ func87
theorem OC:Enters HT 88:=zZ func88
theorem OB:Enters HT 89:=zZ func89
theorem OA:Enters HT 90:=zZ func90
theorem Pz:Enters HT 91:=zZ func91
theorem WC:Enters HT 92:=zZ func92
theorem Py:Enters HT 94:=zZ func94
theorem Px:Enters HT 95:=zZ func95
theorem Pw:Enters HT 96:=zZ func96
theorem Pv:Enters HT 97:=zZ func97
theorem Pu:Enters HT 98:=zZ func98
theorem UY:Enters HT 99:=zZ func99
theorem Rc:Enters HT 100:=zZ func100
theorem R9:Enters HT 101:=zZ func101
theorem R8:Enters HT 102:=zZ func102
theorem R7:Enters HT 103:=zZ func103
theorem R6:Enters HT 104:=zZ func104
theorem RZ:Enters HT 105:=zZ func105
theorem RY:Enters HT 106:=zZ func106
theorem RX:Enters HT 107:=zZ func107
theorem RW:Enters HT 108:=zZ func108
theorem RV:Enters HT 109:=zZ func109
theorem RU:Enters HT 110:=zZ func110
theorem RT:Enters HT 111:=zZ func111
theorem RS:Enters HT 112:=zZ func112
theorem RQ:Enters HT 113:=zZ func113
theorem YR:Enters HT 114:=zZ func114
theorem RP:Enters HT 115:=zZ func115
theorem RO:Enters HT 116:=zZ func116
theorem RN:Enters HT 117:=zZ func117
theorem RM:Enters HT 118:=zZ func118
theorem RL:Enters HT 119:=zZ func119
theorem RK:Enters HT 120:=zZ func120
theorem RJ:Enters HT 121:=zZ func121
theorem RI:Enters HT 122:=zZ func122
theorem RH:Enters HT 123:=zZ func123
theorem RG:Enters HT 124:=zZ func124
theorem RF:Enters HT 125:=zZ func125
theorem RE:Enters HT 126:=zZ func126
theorem RD:Enters HT 127:=zZ func127
theorem RC:Enters HT 128:=zZ func128
theorem RB:Enters HT 129:=zZ func129
theorem RA:Enters HT 130:=zZ func130
theorem Sz:Enters HT 131:=zZ func131
theorem Sy:Enters HT 132:=zZ func132
theorem Sx:Enters HT 133:=zZ func133
theorem Sw:Enters HT 134:=zZ func134
theorem Su:Enters HT 135:=zZ func135
theorem Ss:Enters HT 136:=zZ func136
theorem Sr:Enters HT 137:=zZ func137
theorem Sq:Enters HT 141:=zZ func141
theorem Sp:Enters HT 144:=zZ func144
theorem So:Enters HT 147:=zZ func147
theorem Sn:Enters HT 149:=zZ func149
theorem YQ:Enters HT 150:=zZ func150
theorem Sl:Enters HT 151:=zZ func151
theorem Sk:Enters HT 152:=zZ func152
theorem Sj:Enters HT 153:=zZ func153
theorem Si:Enters HT 154:=zZ func154
theorem Sh:Enters HT 155:=zZ func155
theorem Sf:Enters HT 156:=zZ func156
theorem Se:Enters HT 157:=zZ func157
theorem Sd:Enters HT 158:=zZ func158
theorem Sc:Enters HT 159:=zZ func159
theorem Sa:Enters HT 160:=zZ func160
theorem S9:Enters HT 161:=zZ func161
theorem S8:Enters HT 162:=zZ func162
theorem S7:Enters HT 163:=zZ func163
theorem YP:Enters HT 164:=zZ func164
theorem YO:Enters HT 165:=zZ func165
theorem S6:Enters HT 166:=zZ func166
theorem S5:Enters HT 167:=zZ func167
theorem S4:Enters HT 168:=zZ func168
theorem S2:Enters HT 169:=zZ func169
theorem YN:Enters HT 170:=zZ func170
theorem S1:Enters HT 171:=zZ func171
theorem S0:Enters HT 172:=zZ func172
theorem SZ:Enters HT 173:=zZ func173
theorem SY:Enters HT 174:=zZ func174
theorem SX:Enters HT 175:=zZ func175
theorem SW:Enters HT 176:=zZ func176
theorem SV:Enters HT 177:=zZ func177
theorem SU:Enters HT 178:=zZ func178
theorem SS:Enters HT 179:=zZ func179
theorem SQ:Enters HT 180:=zZ func180
theorem SP:Enters HT 181:=zZ func181
theorem SO:Enters HT 182:=zZ func182
theorem YM:Enters HT 183:=zZ func183
theorem SN:Enters HT 184:=zZ func184
theorem YL:Enters HT 185:=zZ func185
theorem SM:Enters HT 186:=zZ func186
theorem YK:Enters HT 187:=zZ func187
theorem SL:Enters HT 188:=zZ func188
theorem YJ:Enters HT 189:=zZ func189
theorem SJ:Enters HT 190:=zZ func190
theorem SI:Enters HT 191:=zZ func191
theorem YI:Enters HT 192:=zZ func192
theorem SH:Enters HT 193:=zZ func193
theorem SG:Enters HT 194:=zZ func194
theorem SF:Enters HT 195:=zZ func195
theorem YH:Enters HT 196:=zZ func196
theorem SE:Enters HT 197:=zZ func197
theorem SD:Enters HT 198:=zZ func198
theorem SC:Enters HT 199:=zZ func199
theorem SB:Enters HT 200:=zZ func200
theorem SA:Enters HT 201:=zZ func201
theorem Tz:Enters HT 202:=zZ func202
theorem Ty:Enters HT 203:=zZ func203
theorem Tx:Enters HT 204:=zZ func204
theorem Tw:Enters HT 205:=zZ func205
theorem Tv:Enters HT 206:=zZ func206
theorem Tu:Enters HT 207:=zZ func207
theorem Ts:Enters HT 208:=zZ func208
theorem x7:Enters HT 209:=zZ func209
theorem Tq:Enters HT 210:=zZ func210
theorem Tp:Enters HT 211:=zZ func211
theorem To:Enters HT 212:=zZ func212
theorem Tn:Enters HT 213:=zZ func213
theorem Tm:Enters HT 214:=zZ func214
theorem Tl:Enters HT 215:=zZ func215
theorem Tk:Enters HT 216:=zZ func216
theorem Tj:Enters HT 217:=zZ func217
theorem Ti:Enters HT 218:=zZ func218
theorem Th:Enters HT 219:=zZ func219
theorem Tg:Enters HT 220:=zZ func220
theorem YG:Enters HT 221:=zZ func221
theorem YF:Enters HT 222:=zZ func222
theorem Te:Enters HT 223:=zZ func223
theorem Tb:Enters HT 224:=zZ func224
theorem Ta:Enters HT 225:=zZ func225
theorem T9:Enters HT 226:=zZ func226
theorem T8:Enters HT 227:=zZ func227
theorem T7:Enters HT 228:=zZ func228
theorem T6:Enters HT 229:=zZ func229
theorem T5:Enters HT 230:=zZ func230
theorem T4:Enters HT 231:=zZ func231
theorem T3:Enters HT 232:=zZ func232
theorem T2:Enters HT 233:=zZ func233
theorem T1:Enters HT 234:=zZ func234
theorem TZ:Enters HT 235:=zZ func235
theorem TX:Enters HT 236:=zZ func236
theorem TW:Enters HT 237:=zZ func237
theorem TV:Enters HT 238:=zZ func238
theorem TU:Enters HT 239:=zZ func239
theorem TS:Enters HT 240:=zZ func240
theorem TR:Enters HT 241:=zZ func241
theorem TQ:Enters HT 242:=zZ func242
theorem TP:Enters HT 243:=zZ func243
theorem TO:Enters HT 244:=zZ func244
theorem TN:Enters HT 245:=zZ func245
theorem TM:Enters HT 246:=zZ func246
theorem TL:Enters HT 247:=zZ func247
theorem vr:Enters HT 248:=zZ func248
theorem TK:Enters HT 249:=zZ func249
theorem TJ:Enters HT 250:=zZ func250
theorem TI:Enters HT 251:=zZ func251
theorem TH:Enters HT 252:=zZ func252
theorem TG:Enters HT 253:=zZ func253
theorem TF:Enters HT 254:=zZ func254
theorem TE:Enters HT 255:=zZ func255
theorem YE:Enters HT 256:=zZ func256
theorem TD:Enters HT 257:=zZ func257
theorem TC:Enters HT 258:=zZ func258
theorem dt:Enters HT 259:=zZ func259
theorem TB:Enters HT 260:=zZ func260
theorem TA:Enters HT 261:=zZ func261
theorem Uz:Enters HT 262:=zZ func262
theorem Uy:Enters HT 263:=zZ func263
theorem YD:Enters HT 264:=zZ func264
theorem Ux:Enters HT 265:=zZ func265
theorem Uw:Enters HT 266:=zZ func266
theorem Uv:Enters HT 267:=zZ func267
theorem Uu:Enters HT 268:=zZ func268
theorem Ut:Enters HT 269:=zZ func269
theorem Us:Enters HT 270:=zZ func270
theorem Ur:Enters HT 271:=zZ func271
theorem Uq:Enters HT 272:=zZ func272
theorem Up:Enters HT 273:=zZ func273
theorem Uo:Enters HT 274:=zZ func274
theorem Um:Enters HT 275:=zZ func275
theorem Ul:Enters HT 276:=zZ func276
theorem Uk:Enters HT 277:=zZ func277
theorem Uj:Enters HT 278:=zZ func278
theorem Ui:Enters HT 279:=zZ func279
theorem Uh:Enters HT 280:=zZ func280
theorem Ug:Enters HT 281:=zZ func281
theorem Uf:Enters HT 282:=zZ func282
theorem Ue:Enters HT 284:=zZ func284
theorem Ud:Enters HT 285:=zZ func285
theorem Uc:Enters HT 287:=zZ func287
theorem Ub:Enters HT 288:=zZ func288
theorem Ua:Enters HT 289:=zZ func289
theorem U9:Enters HT 290:=zZ func290
theorem U7:Enters HT 291:=zZ func291
theorem U6:Enters HT 292:=zZ func292
theorem U5:Enters HT 293:=zZ func293
theorem U4:Enters HT 294:=zZ func294
theorem zi:HT.follows .mixedOrders=true:=by kernel_rfl
attribute [go_sem] ntmps4 ntmps5 ntmps6 ntmps7 ntmps8 ntmps9 ntmps10 ntmps14 ntmps15 ntmps16 ntmps17 ntmps18 ntmps19 ntmps20 ntmps21 ntmps22 ntmps23 ntmps24 ntmps25 ntmps26 ntmps27 ntmps28 ntmps29 ntmps30 ntmps31 ntmps32 ntmps33 ntmps34 ntmps35 ntmps36 ntmps37 ntmps38 ntmps39 ntmps43 ntmps44 ntmps45 ntmps46 ntmps47 ntmps48 ntmps49 ntmps50 ntmps51 ntmps52 ntmps53 ntmps54 ntmps55 ntmps56 ntmps57 ntmps58 ntmps59 ntmps62 ntmps63 ntmps64 ntmps65 ntmps66 ntmps67 ntmps68 ntmps69 ntmps70 ntmps71 ntmps72 ntmps73 ntmps74 ntmps75 ntmps76 ntmps77 ntmps78 ntmps79 ntmps80 ntmps81 ntmps82 ntmps83 ntmps84 ntmps85 ntmps86 ntmps87 ntmps88 ntmps89 ntmps90 ntmps91 ntmps92 ntmps94 ntmps95 ntmps96 ntmps97 ntmps98 ntmps99 ntmps100 ntmps101 ntmps102 ntmps103 ntmps104 ntmps105 ntmps106 ntmps107 ntmps108 ntmps109 ntmps110 ntmps111 ntmps112 ntmps113 ntmps114 ntmps115 ntmps116 ntmps117 ntmps118 ntmps119 ntmps120 ntmps121 ntmps122 ntmps123 ntmps124 ntmps125 ntmps126 ntmps127 ntmps128 ntmps129 ntmps130 ntmps131 ntmps132 ntmps133 ntmps134 ntmps135 ntmps136 ntmps137 ntmps141 ntmps144 ntmps147 ntmps149 ntmps150 ntmps151 ntmps152 ntmps153 ntmps154 ntmps155 ntmps156 ntmps157 ntmps158 ntmps159 ntmps160 ntmps161 ntmps162 ntmps163 ntmps164 ntmps165 ntmps166 ntmps167 ntmps168 ntmps169 ntmps170 ntmps171 ntmps172 ntmps173 ntmps174 ntmps175 ntmps176 ntmps177 ntmps178 ntmps179 ntmps180 ntmps181 ntmps182 ntmps183 ntmps184 ntmps185 ntmps186 ntmps187 ntmps188 ntmps189 ntmps190 ntmps191 ntmps192 ntmps193 ntmps194 ntmps195 ntmps196 ntmps197 ntmps198 ntmps199 ntmps200 ntmps201 ntmps202 ntmps203 ntmps204 ntmps205 ntmps206 ntmps207 ntmps208 ntmps209 ntmps210 ntmps211 ntmps212 ntmps213 ntmps214 ntmps215 ntmps216 ntmps217 ntmps218 ntmps219 ntmps220 ntmps221 ntmps222 ntmps223 ntmps224 ntmps225 ntmps226 ntmps227 ntmps228 ntmps229 ntmps230 ntmps231 ntmps232 ntmps233 ntmps234 ntmps235 ntmps236 ntmps237 ntmps238 ntmps239 ntmps240 ntmps241 ntmps242 ntmps243 ntmps244 ntmps245 ntmps246 ntmps247 ntmps248 ntmps249 ntmps250 ntmps251 ntmps252 ntmps253 ntmps254 ntmps255 ntmps256 ntmps257 ntmps258 ntmps259 ntmps260 ntmps261 ntmps262 ntmps263 ntmps264 ntmps265 ntmps266 ntmps267 ntmps268 ntmps269 ntmps270 ntmps271 ntmps272 ntmps273 ntmps274 ntmps275 ntmps276 ntmps277 ntmps278 ntmps279 ntmps280 ntmps281 ntmps282 ntmps284 ntmps285 ntmps287 ntmps288 ntmps289 ntmps290 ntmps291 ntmps292 ntmps293 ntmps294
end Tf
end Go.Proofs.YtbnkiacicnnmkaaGreat
