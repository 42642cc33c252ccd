/-  -/
import Derived.Test.YtbnkiacicnnmkaaGreatProg
import Derived.Test.YtbnkiacicnnmkaaGreatMB
import Derived.KernelRfl
open Go.Proofs.Tryz
open Go.Proofs.Tryz renaming prog→HN
set_option linter.unusedSimpArgs false
set_option linter.unusedVariables false
namespace Go.Proofs.YtbnkiacicnnmkaaGreat
open Vg
namespace Tf
@[go_sem] theorem K9:(HN.underlying 1).isSome=true/\(HN.underlying 2).isSome=true:=by and_intros<;>kernel_rfl
@[go_sem] theorem Kk:vB HN 2=some .i64:=by kernel_rfl
@[go_sem] theorem LQ:zm HN 3=1:=by kernel_rfl
@[go_sem] theorem Kp:z5 HN 3=some false/\(HN.underlying 3).isSome=true:=by and_intros<;>kernel_rfl
@[go_sem] theorem LC:zd HN 3=some [Value.int .i64 0]:=by kernel_rfl
@[go_sem] theorem Kn:wD HN 3=8:=by kernel_rfl
@[go_sem] theorem Nu:yX HN 3=none:=by kernel_rfl
@[go_sem] theorem Kj:vB HN 3=some .i64:=by kernel_rfl
@[go_sem] theorem Kc:zm HN 4=1/\z5 HN 4=some false/\(HN.underlying 4).isSome=true/\zd HN 4=some [Value.bool false]/\wD HN 4=1:=by and_intros<;>kernel_rfl
@[go_sem] theorem Ka:HN.underlying 4=some .bool:=by kernel_rfl
@[go_sem] theorem Ko:z5 HN 5=some false/\(HN.underlying 5).isSome=true/\zd HN 5=some [Value.int .u8 0]:=by and_intros<;>kernel_rfl
@[go_sem] theorem Ki:vB HN 5=some .u8:=by kernel_rfl
@[go_sem] theorem K8:(HN.underlying 6).isSome=true:=by kernel_rfl
@[go_sem] theorem Kh:vB HN 6=some .u8:=by kernel_rfl
@[go_sem] theorem K6:(HN.underlying 7).isSome=true/\(HN.underlying 8).isSome=true/\zm HN 9=1/\z5 HN 9=some false/\(HN.underlying 9).isSome=true/\zd HN 9=some [Value.string ⟨#[]⟩]/\tv HN 9=true/\wD HN 9=16/\(HN.underlying 10).isSome=true/\(HN.underlying 11).isSome=true/\(HN.underlying 12).isSome=true:=by and_intros<;>kernel_rfl
@[go_sem] theorem Ll:vB HN 12=some .u64:=by kernel_rfl
@[go_sem] theorem LN:(HN.underlying 13).isSome=true/\(HN.underlying 14).isSome=true/\(HN.underlying 15).isSome=true:=by and_intros<;>kernel_rfl
@[go_sem] theorem LX:sF HN 15=some 352:=by kernel_rfl
@[go_sem] theorem LM:(HN.underlying 16).isSome=true:=by kernel_rfl
@[go_sem] theorem LW:sF HN 16=some 355:=by kernel_rfl
@[go_sem] theorem LL:(HN.underlying 17).isSome=true:=by kernel_rfl
@[go_sem] theorem LV:sF HN 17=some 364:=by kernel_rfl
@[go_sem] theorem LK:(HN.underlying 18).isSome=true/\(HN.underlying 19).isSome=true/\(HN.underlying 20).isSome=true/\(HN.underlying 21).isSome=true:=by and_intros<;>kernel_rfl
@[go_sem] theorem Lj:vB HN 21=some .i32:=by kernel_rfl
@[go_sem] theorem LR:zm HN 22=1/\z5 HN 22=some false/\(HN.underlying 22).isSome=true:=by and_intros<;>kernel_rfl
@[go_sem] theorem Yq:yX HN 22=some (42,5):=by kernel_rfl
@[go_sem] theorem L5:kv HN 22=none/\zm HN 23=1/\z5 HN 23=some false/\(HN.underlying 23).isSome=true:=by and_intros<;>kernel_rfl
@[go_sem] theorem m9:yX HN 23=some (55,10):=by kernel_rfl
@[go_sem] theorem K4:z5 HN 24=some false/\(HN.underlying 24).isSome=true:=by and_intros<;>kernel_rfl
@[go_sem] theorem PB:yX HN 24=some (78,2):=by kernel_rfl
@[go_sem] theorem KZ:z5 HN 25=some false/\(HN.underlying 25).isSome=true:=by and_intros<;>kernel_rfl
@[go_sem] theorem PA:yX HN 25=some (82,3):=by kernel_rfl
@[go_sem] theorem Wm:zm HN 26=1:=by kernel_rfl
@[go_sem] theorem KY:z5 HN 26=some false/\(HN.underlying 26).isSome=true/\zd HN 26=some [Value.slice none 0 0]/\tv HN 26=false/\wD HN 26=24:=by and_intros<;>kernel_rfl
@[go_sem] theorem tP:yX HN 26=some (3,1):=by kernel_rfl
@[go_sem] theorem L4:kv HN 26=none/\(HN.underlying 27).isSome=true:=by and_intros<;>kernel_rfl
@[go_sem] theorem Qu:zm HN 28=9:=by kernel_rfl
@[go_sem] theorem KW:z5 HN 28=some true/\(HN.underlying 28).isSome=true:=by and_intros<;>kernel_rfl
@[go_sem] theorem LD:zd HN 28=some [Value.slice none 0 0,Value.slice none 0 0,Value.slice none 0 0,Value.slice none 0 0,Value.int .i64 0,Value.slice none 0 0,Value.slice none 0 0,Value.slice none 0 0,Value.slice none 0 0]:=by kernel_rfl
@[go_sem] theorem PJ:zY HN 28 0=some 0/\zY HN 28 1=some 1/\zY HN 28 2=some 2/\zY HN 28 3=some 3/\zY HN 28 4=some 4/\zY HN 28 5=some 5/\zY HN 28 6=some 6/\zY HN 28 7=some 7/\zY HN 28 8=some 8/\(HN.underlying 32).isSome=true:=by and_intros<;>kernel_rfl
@[go_sem] theorem Li:vB HN 32=some .i64:=by kernel_rfl
@[go_sem] theorem Qt:zm HN 38=1:=by kernel_rfl
@[go_sem] theorem KV:z5 HN 38=some false/\(HN.underlying 38).isSome=true:=by and_intros<;>kernel_rfl
@[go_sem] theorem Wv:yX HN 38=some (26,1):=by kernel_rfl
@[go_sem] theorem LJ:(HN.underlying 41).isSome=true:=by kernel_rfl
@[go_sem] theorem Qs:zm HN 42=5:=by kernel_rfl
@[go_sem] theorem NU:z5 HN 42=some true:=by kernel_rfl
@[go_sem] theorem LI:(HN.underlying 42).isSome=true/\zd HN 42=some [Value.int .i64 0,Value.int .i64 0,Value.int .i64 0,Value.int .i64 0,Value.int .i64 0]/\wD HN 42=40/\wT HN 42=some [(0,1),(1,1),(2,1),(3,1),(4,1)]/\zY HN 42 0=some 0/\zY HN 42 1=some 1/\zY HN 42 2=some 2/\zY HN 42 3=some 3/\zY HN 42 4=some 4/\zm HN 43=16/\(HN.underlying 43).isSome=true:=by and_intros<;>kernel_rfl
@[go_sem] theorem LB:zd HN 43=some [Value.int .i64 0,Value.int .i64 0,Value.int .i64 0,Value.int .i64 0,Value.int .i64 0,Value.int .i64 0,Value.int .i64 0,Value.int .i64 0,Value.int .i64 0,Value.int .i64 0,Value.int .i64 0,Value.int .i64 0,Value.int .i64 0,Value.int .i64 0,Value.int .i64 0,Value.int .i64 0]:=by kernel_rfl
@[go_sem] theorem L3:kv HN 43=some (16,1):=by kernel_rfl
@[go_sem] theorem KQ:lh HN 43=some 16:=by kernel_rfl
@[go_sem] theorem L1:wT HN 43=some [(0,1),(1,1),(2,1),(3,1),(4,1),(5,1),(6,1),(7,1),(8,1),(9,1),(10,1),(11,1),(12,1),(13,1),(14,1),(15,1)]/\(HN.underlying 44).isSome=true/\zm HN 45=17/\z5 HN 45=some true/\(HN.underlying 45).isSome=true:=by and_intros<;>kernel_rfl
@[go_sem] theorem LA:zd HN 45=some [Value.int .i64 0,Value.int .i64 0,Value.int .i64 0,Value.int .i64 0,Value.int .i64 0,Value.int .i64 0,Value.int .i64 0,Value.int .i64 0,Value.int .i64 0,Value.int .i64 0,Value.int .i64 0,Value.int .i64 0,Value.int .i64 0,Value.int .i64 0,Value.int .i64 0,Value.int .i64 0,Value.slice none 0 0]:=by kernel_rfl
@[go_sem] theorem LZ:wT HN 45=some [(0,16),(16,1)]/\zY HN 45 0=some 0/\zY HN 45 1=some 16/\(HN.underlying 52).isSome=true/\zm HN 53=5:=by and_intros<;>kernel_rfl
@[go_sem] theorem NT:z5 HN 53=some true:=by kernel_rfl
@[go_sem] theorem LH:(HN.underlying 53).isSome=true/\zd HN 53=some [Value.int .i64 0,Value.int .i64 0,Value.int .i64 0,Value.int .i64 0,Value.int .i64 0]/\wD HN 53=40/\wT HN 53=some [(0,1),(1,1),(2,1),(3,1),(4,1)]/\zY HN 53 0=some 0/\zY HN 53 1=some 1/\zY HN 53 2=some 2/\zY HN 53 3=some 3/\zY HN 53 4=some 4/\(HN.underlying 54).isSome=true:=by and_intros<;>kernel_rfl
@[go_sem] theorem Qr:zm HN 55=10:=by kernel_rfl
@[go_sem] theorem KU:z5 HN 55=some true/\(HN.underlying 55).isSome=true:=by and_intros<;>kernel_rfl
@[go_sem] theorem Mz:zd HN 55=some [Value.int .i64 0,Value.bool false,Value.int .i64 0,Value.int .i64 0,Value.int .i64 0,Value.int .i64 0,Value.int .i64 0,Value.int .i64 0,Value.int .i64 0,Value.int .i64 0]:=by kernel_rfl
@[go_sem] theorem KN:wD HN 55=80/\wT HN 55=some [(0,1),(1,1),(2,1),(3,1),(4,1),(5,5)]/\zY HN 55 0=some 0/\zY HN 55 1=some 1/\zY HN 55 2=some 2/\zY HN 55 3=some 3/\zY HN 55 4=some 4/\ix HN 55 5=some (5,5,true)/\zY HN 55 5=some 5/\(HN.underlying 56).isSome=true/\zm HN 57=11/\z5 HN 57=some true:=by and_intros<;>kernel_rfl
@[go_sem] theorem LG:(HN.underlying 57).isSome=true:=by kernel_rfl
@[go_sem] theorem My:zd HN 57=some [Value.string ⟨#[]⟩,Value.int .i64 0,Value.bool false,Value.int .i64 0,Value.int .i64 0,Value.int .i64 0,Value.int .i64 0,Value.int .i64 0,Value.int .i64 0,Value.int .i64 0,Value.int .i64 0]:=by kernel_rfl
@[go_sem] theorem KM:wD HN 57=96/\wT HN 57=some [(0,1),(1,10)]/\zY HN 57 0=some 0/\zY HN 57 1=some 1/\zm HN 58=1/\z5 HN 58=some false/\(HN.underlying 58).isSome=true/\yX HN 58=some (57,11)/\(HN.underlying 59).isSome=true/\zm HN 60=4/\z5 HN 60=some true/\(HN.underlying 60).isSome=true:=by and_intros<;>kernel_rfl
@[go_sem] theorem Mx:zd HN 60=some [Value.string ⟨#[]⟩,Value.string ⟨#[]⟩,Value.int .i64 0,Value.int .i64 0]/\wD HN 60=48/\wT HN 60=some [(0,1),(1,1),(2,1),(3,1)]/\zY HN 60 0=some 0/\zY HN 60 1=some 1/\zY HN 60 2=some 2/\zY HN 60 3=some 3/\zm HN 61=1/\z5 HN 61=some false/\(HN.underlying 61).isSome=true/\yX HN 61=some (60,4)/\zm HN 62=1:=by and_intros<;>kernel_rfl
@[go_sem] theorem KT:z5 HN 62=some false/\(HN.underlying 62).isSome=true/\yX HN 62=some (9,1)/\(HN.underlying 63).isSome=true/\zm HN 64=6/\z5 HN 64=some true/\(HN.underlying 64).isSome=true/\zd HN 64=some [Value.string ⟨#[]⟩,Value.string ⟨#[]⟩,Value.string ⟨#[]⟩,Value.slice none 0 0,Value.string ⟨#[]⟩,Value.slice none 0 0]/\wD HN 64=112/\wT HN 64=some [(0,1),(1,1),(2,1),(3,1),(4,1),(5,1)]/\zY HN 64 0=some 0/\zY HN 64 1=some 1:=by and_intros<;>kernel_rfl
@[go_sem] theorem PI:zY HN 64 2=some 2/\zY HN 64 3=some 3/\zY HN 64 4=some 4/\zY HN 64 5=some 5/\zm HN 65=1/\z5 HN 65=some false/\(HN.underlying 65).isSome=true:=by and_intros<;>kernel_rfl
@[go_sem] theorem Wt:yX HN 65=some (64,6):=by kernel_rfl
@[go_sem] theorem LP:zm HN 66=1/\z5 HN 66=some false/\(HN.underlying 66).isSome=true/\yX HN 66=some (138,3)/\zm HN 67=1/\z5 HN 67=some false/\(HN.underlying 67).isSome=true/\yX HN 67=some (140,4)/\(HN.underlying 68).isSome=true/\zm HN 69=7/\z5 HN 69=some true/\(HN.underlying 69).isSome=true:=by and_intros<;>kernel_rfl
@[go_sem] theorem Mw:zd HN 69=some [Value.string ⟨#[]⟩,Value.slice none 0 0,Value.slice none 0 0,Value.slice none 0 0,Value.slice none 0 0,Value.slice none 0 0,Value.slice none 0 0]/\wT HN 69=some [(0,1),(1,1),(2,1),(3,1),(4,1),(5,1),(6,1)]/\zY HN 69 0=some 0/\zY HN 69 1=some 1/\zY HN 69 2=some 2/\zY HN 69 3=some 3/\zY HN 69 4=some 4/\zY HN 69 5=some 5/\zY HN 69 6=some 6/\zm HN 70=1/\z5 HN 70=some false/\(HN.underlying 70).isSome=true:=by and_intros<;>kernel_rfl
@[go_sem] theorem LT:yX HN 70=some (131,13)/\(HN.underlying 71).isSome=true/\zm HN 72=9/\z5 HN 72=some true/\(HN.underlying 72).isSome=true:=by and_intros<;>kernel_rfl
@[go_sem] theorem Mv:zd HN 72=some [Value.string ⟨#[]⟩,Value.slice none 0 0,Value.slice none 0 0,Value.slice none 0 0,Value.slice none 0 0,Value.slice none 0 0,Value.slice none 0 0,Value.slice none 0 0,Value.slice none 0 0]:=by kernel_rfl
@[go_sem] theorem LY:wT HN 72=some [(0,7),(7,1),(8,1)]/\zY HN 72 0=some 0/\zY HN 72 1=some 7/\zY HN 72 2=some 8/\(HN.underlying 77).isSome=true:=by and_intros<;>kernel_rfl
@[go_sem] theorem Qq:zm HN 78=2:=by kernel_rfl
@[go_sem] theorem KS:z5 HN 78=some true/\(HN.underlying 78).isSome=true/\zd HN 78=some [Value.slice none 0 0,Value.slice none 0 0]/\zY HN 78 0=some 0/\zY HN 78 1=some 1/\(HN.underlying 79).isSome=true/\(HN.underlying 81).isSome=true:=by and_intros<;>kernel_rfl
@[go_sem] theorem Qp:zm HN 82=3:=by kernel_rfl
@[go_sem] theorem KR:z5 HN 82=some true/\(HN.underlying 82).isSome=true/\zd HN 82=some [Value.slice none 0 0,Value.slice none 0 0,Value.slice none 0 0]/\zY HN 82 0=some 0/\zY HN 82 1=some 1/\zY HN 82 2=some 2/\(HN.underlying 84).isSome=true/\(HN.underlying 85).isSome=true/\zm HN 86=1/\z5 HN 86=some false/\(HN.underlying 86).isSome=true/\zd HN 86=some [Value.slice none 0 0]:=by and_intros<;>kernel_rfl
@[go_sem] theorem LS:yX HN 86=some (4,1)/\kv HN 86=none/\zm HN 87=1/\z5 HN 87=some false/\(HN.underlying 87).isSome=true/\zd HN 87=some [Value.pointer none]:=by and_intros<;>kernel_rfl
@[go_sem] theorem LU:sF HN 87=some 91:=by kernel_rfl
@[go_sem] theorem LO:zm HN 89=1/\z5 HN 89=some false/\(HN.underlying 89).isSome=true:=by and_intros<;>kernel_rfl
@[go_sem] theorem Lh:vB HN 89=some .u16:=by kernel_rfl
@[go_sem] theorem LF:(HN.underlying 90).isSome=true/\(HN.underlying 91).isSome=true/\zd HN 91=some [Value.int .u16 0,Value.slice none 0 0]/\wT HN 91=some [(0,1),(1,1)]/\zY HN 91 0=some 0/\zY HN 91 1=some 1/\(HN.underlying 92).isSome=true/\(HN.underlying 93).isSome=true/\(HN.underlying 95).isSome=true/\(HN.underlying 99).isSome=true/\(HN.underlying 106).isSome=true/\zm HN 107=3:=by and_intros<;>kernel_rfl
@[go_sem] theorem Mr:z5 HN 107=some true/\(HN.underlying 107).isSome=true/\zd HN 107=some [Value.string ⟨#[]⟩,Value.string ⟨#[]⟩,Value.int .i64 0]/\wT HN 107=some [(0,1),(1,1),(2,1)]/\zY HN 107 1=some 1/\zY HN 107 2=some 2/\(HN.underlying 108).isSome=true/\yX HN 108=some (107,3)/\(HN.underlying 113).isSome=true:=by and_intros<;>kernel_rfl
@[go_sem] theorem MI:sF HN 113=some 45:=by kernel_rfl
@[go_sem] theorem Nt:zm HN 115=1/\z5 HN 115=some false/\(HN.underlying 115).isSome=true/\zd HN 115=some [Value.pointer none]:=by and_intros<;>kernel_rfl
@[go_sem] theorem MH:sF HN 115=some 191:=by kernel_rfl
@[go_sem] theorem Mq:z5 HN 118=some false/\(HN.underlying 118).isSome=true/\zd HN 118=some [Value.nilFunc]/\z5 HN 122=some false/\(HN.underlying 122).isSome=true/\yX HN 122=some (129,2)/\(HN.underlying 128).isSome=true/\zm HN 129=2:=by and_intros<;>kernel_rfl
@[go_sem] theorem QN:z5 HN 129=some true:=by kernel_rfl
@[go_sem] theorem Nr:(HN.underlying 129).isSome=true/\zd HN 129=some [Value.int .i64 0,Value.int .i64 0]/\wD HN 129=16/\wT HN 129=some [(0,1),(1,1)]/\zY HN 129 0=some 0/\zY HN 129 1=some 1/\(HN.underlying 130).isSome=true/\zm HN 131=13:=by and_intros<;>kernel_rfl
@[go_sem] theorem QM:z5 HN 131=some true:=by kernel_rfl
@[go_sem] theorem Nq:(HN.underlying 131).isSome=true:=by kernel_rfl
@[go_sem] theorem N1:zd HN 131=some [Value.string ⟨#[]⟩,Value.int .i64 0,Value.bool false,Value.int .i64 0,Value.int .i64 0,Value.int .i64 0,Value.int .i64 0,Value.int .i64 0,Value.int .i64 0,Value.int .i64 0,Value.int .i64 0,Value.int .i64 0,Value.int .i64 0]:=by kernel_rfl
@[go_sem] theorem Mg:wD HN 131=112/\wT HN 131=some [(0,1),(1,10),(11,2)]/\zY HN 131 0=some 0/\z5 HN 134=some false/\(HN.underlying 134).isSome=true:=by and_intros<;>kernel_rfl
@[go_sem] theorem MG:sF HN 134=some 136:=by kernel_rfl
@[go_sem] theorem Np:(HN.underlying 135).isSome=true/\(HN.underlying 136).isSome=true:=by and_intros<;>kernel_rfl
@[go_sem] theorem NZ:zd HN 136=some [Value.string ⟨#[]⟩,Value.slice none 0 0,Value.slice none 0 0,Value.slice none 0 0,Value.slice none 0 0,Value.slice none 0 0,Value.slice none 0 0,Value.slice none 0 0,Value.slice none 0 0,Value.slice none 0 0,Value.slice none 0 0,Value.slice none 0 0,Value.slice none 0 0,Value.int .i64 0,Value.slice none 0 0,Value.slice none 0 0,Value.slice none 0 0,Value.slice none 0 0,Value.slice none 0 0,Value.int .i64 0]:=by kernel_rfl
@[go_sem] theorem MR:wT HN 136=some [(0,9),(9,9),(18,1),(19,1)]/\zY HN 136 0=some 0/\zY HN 136 1=some 9/\zY HN 136 2=some 18/\zY HN 136 3=some 19/\(HN.underlying 137).isSome=true/\zm HN 138=3/\z5 HN 138=some true/\(HN.underlying 138).isSome=true/\zd HN 138=some [Value.string ⟨#[]⟩,Value.slice none 0 0,Value.slice none 0 0]/\wD HN 138=64/\zY HN 138 0=some 0:=by and_intros<;>kernel_rfl
@[go_sem] theorem Q4:zY HN 138 1=some 1/\(HN.underlying 139).isSome=true/\zm HN 140=4/\z5 HN 140=some true/\(HN.underlying 140).isSome=true/\zd HN 140=some [Value.string ⟨#[]⟩,Value.slice none 0 0,Value.slice none 0 0,Value.slice none 0 0]/\wD HN 140=88/\zY HN 140 0=some 0/\zY HN 140 1=some 1/\zm HN 141=1/\z5 HN 141=some false/\(HN.underlying 141).isSome=true:=by and_intros<;>kernel_rfl
@[go_sem] theorem No:(HN.underlying 144).isSome=true/\(HN.underlying 146).isSome=true/\(HN.underlying 147).isSome=true/\zm HN 151=1/\z5 HN 151=some false/\(HN.underlying 151).isSome=true/\zd HN 151=some [Value.nilFunc]/\zm HN 155=1/\z5 HN 155=some false/\(HN.underlying 155).isSome=true/\zd HN 155=some [Value.nilFunc]/\(HN.underlying 157).isSome=true:=by and_intros<;>kernel_rfl
@[go_sem] theorem Nm:(HN.underlying 160).isSome=true/\z5 HN 175=some false/\(HN.underlying 175).isSome=true/\z5 HN 177=some false/\(HN.underlying 177).isSome=true/\z5 HN 179=some false/\(HN.underlying 179).isSome=true/\z5 HN 181=some false/\(HN.underlying 181).isSome=true/\z5 HN 183=some false/\(HN.underlying 183).isSome=true/\z5 HN 185=some false:=by and_intros<;>kernel_rfl
@[go_sem] theorem Nl:(HN.underlying 185).isSome=true/\z5 HN 187=some false/\(HN.underlying 187).isSome=true/\z5 HN 188=some false/\(HN.underlying 188).isSome=true/\z5 HN 189=some false/\(HN.underlying 189).isSome=true/\(HN.underlying 190).isSome=true/\(HN.underlying 191).isSome=true:=by and_intros<;>kernel_rfl
@[go_sem] theorem NY:zd HN 191=some [Value.string ⟨#[]⟩,Value.slice none 0 0,Value.slice none 0 0,Value.slice none 0 0,Value.slice none 0 0,Value.slice none 0 0,Value.slice none 0 0,Value.map none,Value.map none,Value.map none,Value.map none]:=by kernel_rfl
@[go_sem] theorem MQ:wT HN 191=some [(0,7),(7,1),(8,1),(9,1),(10,1)]/\zY HN 191 0=some 0/\zY HN 191 1=some 7/\zY HN 191 2=some 8/\zY HN 191 3=some 9/\zY HN 191 4=some 10/\(HN.underlying 192).isSome=true/\(HN.underlying 193).isSome=true/\(HN.underlying 195).isSome=true/\(HN.underlying 196).isSome=true/\(HN.underlying 198).isSome=true/\(HN.underlying 199).isSome=true:=by and_intros<;>kernel_rfl
@[go_sem] theorem Nk:(HN.underlying 201).isSome=true/\(HN.underlying 202).isSome=true/\(HN.underlying 204).isSome=true/\yX HN 204=some (118,1)/\(HN.underlying 214).isSome=true:=by and_intros<;>kernel_rfl
@[go_sem] theorem MF:sF HN 214=some 78:=by kernel_rfl
@[go_sem] theorem Nj:(HN.underlying 215).isSome=true:=by kernel_rfl
@[go_sem] theorem ME:sF HN 215=some 82:=by kernel_rfl
@[go_sem] theorem Ni:(HN.underlying 217).isSome=true:=by kernel_rfl
@[go_sem] theorem MD:sF HN 217=some 64:=by kernel_rfl
@[go_sem] theorem Nh:(HN.underlying 220).isSome=true/\zm HN 222=1/\(HN.underlying 222).isSome=true/\zd HN 222=some [Value.slice none 0 0]/\(HN.underlying 226).isSome=true/\(HN.underlying 233).isSome=true:=by and_intros<;>kernel_rfl
@[go_sem] theorem M8:vB HN 233=some .u64:=by kernel_rfl
@[go_sem] theorem Ng:(HN.underlying 241).isSome=true/\zm HN 242=2/\(HN.underlying 242).isSome=true/\zd HN 242=some [Value.int .i64 0,Value.int .i64 0]/\wT HN 242=some [(0,1),(1,1)]/\zY HN 242 0=some 0/\zY HN 242 1=some 1/\(HN.underlying 245).isSome=true/\zm HN 246=11/\z5 HN 246=some true/\(HN.underlying 246).isSome=true:=by and_intros<;>kernel_rfl
@[go_sem] theorem NX:zd HN 246=some [Value.int .i64 0,Value.bool false,Value.int .i64 0,Value.int .i64 0,Value.int .i64 0,Value.int .i64 0,Value.int .i64 0,Value.int .i64 0,Value.int .i64 0,Value.int .i64 0,Value.int .i64 0]:=by kernel_rfl
@[go_sem] theorem MP:wT HN 246=some [(0,10),(10,1)]/\zY HN 246 0=some 0/\zY HN 246 1=some 10/\(HN.underlying 253).isSome=true/\(HN.underlying 257).isSome=true/\(HN.underlying 258).isSome=true/\(HN.underlying 259).isSome=true/\(HN.underlying 260).isSome=true/\z5 HN 276=some false/\(HN.underlying 276).isSome=true:=by and_intros<;>kernel_rfl
@[go_sem] theorem MC:sF HN 276=some 3:=by kernel_rfl
@[go_sem] theorem Z9:zm HN 277=5:=by kernel_rfl
@[go_sem] theorem Nf:(HN.underlying 277).isSome=true/\zd HN 277=some [Value.pointer none,Value.pointer none,Value.pointer none,Value.pointer none,Value.pointer none]/\kv HN 277=some (5,1):=by and_intros<;>kernel_rfl
@[go_sem] theorem Mj:lh HN 277=some 5:=by kernel_rfl
@[go_sem] theorem MO:wT HN 277=some [(0,1),(1,1),(2,1),(3,1),(4,1)]/\(HN.underlying 279).isSome=true:=by and_intros<;>kernel_rfl
@[go_sem] theorem MB:sF HN 279=some 53:=by kernel_rfl
@[go_sem] theorem Nd:(HN.underlying 280).isSome=true:=by kernel_rfl
@[go_sem] theorem Ww:yX HN 280=some (5,1):=by kernel_rfl
@[go_sem] theorem Mo:z5 HN 293=some false/\(HN.underlying 293).isSome=true:=by and_intros<;>kernel_rfl
@[go_sem] theorem M7:vB HN 293=some .u64:=by kernel_rfl
@[go_sem] theorem Nc:(HN.underlying 294).isSome=true/\zm HN 295=2/\z5 HN 295=some true/\(HN.underlying 295).isSome=true/\zd HN 295=some [Value.int .u64 0,Value.int .u64 0]/\wT HN 295=some [(0,1),(1,1)]/\zY HN 295 0=some 0/\zY HN 295 1=some 1/\(HN.underlying 300).isSome=true/\yX HN 300=some (303,4)/\(HN.underlying 302).isSome=true/\zm HN 303=4:=by and_intros<;>kernel_rfl
@[go_sem] theorem Ml:z5 HN 303=some true/\(HN.underlying 303).isSome=true/\zd HN 303=some [Value.string ⟨#[]⟩,Value.int .i64 0,Value.int .i64 0,Value.int .i64 0]/\wT HN 303=some [(0,1),(1,1),(2,1),(3,1)]/\zY HN 303 0=some 0/\zY HN 303 1=some 1/\zY HN 303 2=some 2/\zY HN 303 3=some 3/\(HN.underlying 305).isSome=true/\(HN.underlying 307).isSome=true/\yX HN 307=some (53,5)/\(HN.underlying 310).isSome=true:=by and_intros<;>kernel_rfl
@[go_sem] theorem Nb:(HN.underlying 323).isSome=true/\zm HN 324=4/\z5 HN 324=some true/\(HN.underlying 324).isSome=true/\zd HN 324=some [Value.int .u64 0,Value.int .u64 0,Value.int .u64 0,Value.int .u64 0]/\wT HN 324=some [(0,2),(2,2)]/\zY HN 324 0=some 0/\zY HN 324 1=some 2/\(HN.underlying 341).isSome=true/\(HN.underlying 346).isSome=true/\(HN.underlying 347).isSome=true:=by and_intros<;>kernel_rfl
@[go_sem] theorem Nz:sF HN 349=some 366:=by kernel_rfl
@[go_sem] theorem Na:(HN.underlying 351).isSome=true/\(HN.underlying 352).isSome=true/\(HN.underlying 353).isSome=true:=by and_intros<;>kernel_rfl
@[go_sem] theorem Mi:lh HN 353=some 0:=by kernel_rfl
@[go_sem] theorem N9:(HN.underlying 354).isSome=true/\(HN.underlying 355).isSome=true/\(HN.underlying 356).isSome=true:=by and_intros<;>kernel_rfl
@[go_sem] theorem M6:vB HN 356=some .u32:=by kernel_rfl
@[go_sem] theorem N8:(HN.underlying 357).isSome=true:=by kernel_rfl
@[go_sem] theorem M5:vB HN 357=some .u8:=by kernel_rfl
@[go_sem] theorem N7:(HN.underlying 358).isSome=true:=by kernel_rfl
@[go_sem] theorem M4:vB HN 358=some .u8:=by kernel_rfl
@[go_sem] theorem N6:(HN.underlying 359).isSome=true/\(HN.underlying 360).isSome=true:=by and_intros<;>kernel_rfl
@[go_sem] theorem Ny:sF HN 360=some 5:=by kernel_rfl
@[go_sem] theorem N5:(HN.underlying 361).isSome=true:=by kernel_rfl
@[go_sem] theorem MZ:vB HN 361=some .i32:=by kernel_rfl
@[go_sem] theorem N4:(HN.underlying 362).isSome=true:=by kernel_rfl
@[go_sem] theorem MY:vB HN 362=some .i32:=by kernel_rfl
@[go_sem] theorem N3:(HN.underlying 363).isSome=true/\(HN.underlying 364).isSome=true:=by and_intros<;>kernel_rfl
@[go_sem] theorem Ns:Ql HN 367=true:=by kernel_rfl
theorem UU:HN.eqGuardType HN.depth 42=false:=by kernel_rfl
theorem P0:pO HN 20 42=some [.i .i64,.i .i64,.i .i64,.i .i64,.i .i64]:=by kernel_rfl
@[go_sem] theorem Lx (a0 b0:Int)(a1 b1:Int)(a2 b2:Int)(a3 b3:Int)(a4 b4:Int):lw HN 42 [.v (.int .i64 a0),.v (.int .i64 a1),.v (.int .i64 a2),.v (.int .i64 a3),.v (.int .i64 a4)] [.v (.int .i64 b0),.v (.int .i64 b1),.v (.int .i64 b2),.v (.int .i64 b3),.v (.int .i64 b4)]:=fun _ h=>qg P0 NU UU rfl rfl h
theorem UT:HN.eqGuardType HN.depth 53=false:=by kernel_rfl
theorem PZ:pO HN 20 53=some [.i .i64,.i .i64,.i .i64,.i .i64,.i .i64]:=by kernel_rfl
@[go_sem] theorem Lw (a0 b0:Int)(a1 b1:Int)(a2 b2:Int)(a3 b3:Int)(a4 b4:Int):lw HN 53 [.v (.int .i64 a0),.v (.int .i64 a1),.v (.int .i64 a2),.v (.int .i64 a3),.v (.int .i64 a4)] [.v (.int .i64 b0),.v (.int .i64 b1),.v (.int .i64 b2),.v (.int .i64 b3),.v (.int .i64 b4)]:=fun _ h=>qg PZ NT UT rfl rfl h
theorem Xz:HN.eqGuardType HN.depth 129=false:=by kernel_rfl
theorem Vc:pO HN 20 129=some [.i .i64,.i .i64]:=by kernel_rfl
@[go_sem] theorem Md (a0 b0:Int)(a1 b1:Int):lw HN 129 [.v (.int .i64 a0),.v (.int .i64 a1)] [.v (.int .i64 b0),.v (.int .i64 b1)]:=fun _ h=>qg Vc QN Xz rfl rfl h
theorem Xy:HN.eqGuardType HN.depth 131=false:=by kernel_rfl
theorem Vb:pO HN 20 131=some [.s,.i .i64,.b,.i .i64,.i .i64,.i .i64,.i .i64,.i .i64,.i .i64,.i .i64,.i .i64,.i .i64,.i .i64]:=by kernel_rfl
@[go_sem] theorem Mc (a0 b0:ByteArray)(a1 b1:Int)(a2 b2:Bool)(a3 b3:Int)(a4 b4:Int)(a5 b5:Int)(a6 b6:Int)(a7 b7:Int)(a8 b8:Int)(a9 b9:Int)(a10 b10:Int)(a11 b11:Int)(a12 b12:Int):lw HN 131 [.v (.string a0),.v (.int .i64 a1),.v (.bool a2),.v (.int .i64 a3),.v (.int .i64 a4),.v (.int .i64 a5),.v (.int .i64 a6),.v (.int .i64 a7),.v (.int .i64 a8),.v (.int .i64 a9),.v (.int .i64 a10),.v (.int .i64 a11),.v (.int .i64 a12)] [.v (.string b0),.v (.int .i64 b1),.v (.bool b2),.v (.int .i64 b3),.v (.int .i64 b4),.v (.int .i64 b5),.v (.int .i64 b6),.v (.int .i64 b7),.v (.int .i64 b8),.v (.int .i64 b9),.v (.int .i64 b10),.v (.int .i64 b11),.v (.int .i64 b12)]:=fun _ h=>qg Vb QM Xy rfl rfl h
theorem fX {f:FuncId}{fn:Func}{b:Code}(hf:HN.funcs[f]?=some fn)(hn:(fn.name== "runtime.NumGoroutine")=false)(hb:fn.body=some b):Enters HN f:=fun args w=>by
 have h1:fn.name≠ "runtime.NumGoroutine" :=by simpa using hn
 simp[callFunc,hf,h1,hb]
theorem zZ {f:FuncId}{fn:Func}{b:Code}(hf:HN.funcs[f]?=some fn)(hn:(fn.name== "runtime.NumGoroutine")=false:=by kernel_rfl)(hb:fn.body=some b:=by exact rfl):Enters HN f:=fX hf hn hb
theorem KD:Enters HN 4:=zZ func4
theorem KC:Enters HN 5:=zZ func5
theorem KB:Enters HN 6:=zZ func6
theorem KA:Enters HN 7:=zZ func7
theorem Lz:Enters HN 8:=zZ func8
theorem Ly:Enters HN 9:=zZ func9
theorem WF:Enters HN 10:=zZ func10
theorem Ox:Enters HN 14:=zZ func14
theorem Ow:Enters HN 15:=zZ func15
theorem S9:Enters HN 16:=zZ func16
theorem WE:Enters HN 17:=zZ func17
theorem SQ:Enters HN 18:=zZ func18
theorem SJ:Enters HN 19:=zZ func19
theorem Ov:Enters HN 20:=zZ func20
theorem Ou:Enters HN 21:=zZ func21
theorem Ot:Enters HN 22:=zZ func22
theorem Oq:Enters HN 23:=zZ func23
theorem Oo:Enters HN 24:=zZ func24
theorem On:Enters HN 25:=zZ func25
theorem Om:Enters HN 26:=zZ func26
theorem Ol:Enters HN 27:=zZ func27
theorem Ok:Enters HN 28:=zZ func28
theorem Oj:Enters HN 29:=zZ func29
theorem Oi:Enters HN 30:=zZ func30
theorem Oh:Enters HN 31:=zZ func31
theorem Og:Enters HN 32:=zZ func32
theorem Of:Enters HN 33:=zZ func33
theorem Oe:Enters HN 34:=zZ func34
theorem Od:Enters HN 35:=zZ func35
theorem Oc:Enters HN 36:=zZ func36
theorem Ob:Enters HN 37:=zZ func37
theorem Oa:Enters HN 38:=zZ func38
theorem O9:Enters HN 39:=zZ func39
theorem O8:Enters HN 43:=zZ func43
theorem U2:Enters HN 44:=zZ func44
theorem U1:Enters HN 45:=zZ func45
theorem jY:Enters HN 46:=zZ func46
theorem O7:Enters HN 47:=zZ func47
theorem O6:Enters HN 48:=zZ func48
theorem O5:Enters HN 49:=zZ func49
theorem O4:Enters HN 50:=zZ func50
theorem O3:Enters HN 51:=zZ func51
theorem O2:Enters HN 52:=zZ func52
theorem O1:Enters HN 53:=zZ func53
theorem U0:Enters HN 54:=zZ func54
theorem O0:Enters HN 55:=zZ func55
theorem OZ:Enters HN 56:=zZ func56
theorem OY:Enters HN 57:=zZ func57
theorem OX:Enters HN 58:=zZ func58
theorem OW:Enters HN 59:=zZ func59
theorem OV:Enters HN 62:=zZ func62
theorem OU:Enters HN 63:=zZ func63
theorem OT:Enters HN 64:=zZ func64
theorem OS:Enters HN 65:=zZ func65
theorem OR:Enters HN 66:=zZ func66
theorem UZ:Enters HN 67:=zZ func67
theorem OQ:Enters HN 68:=zZ func68
theorem OP:Enters HN 69:=zZ func69
theorem OO:Enters HN 70:=zZ func70
theorem ON:Enters HN 71:=zZ func71
theorem OM:Enters HN 72:=zZ func72
theorem OL:Enters HN 73:=zZ func73
theorem OK:Enters HN 74:=zZ func74
theorem OJ:Enters HN 75:=zZ func75
theorem OI:Enters HN 76:=zZ func76
theorem WD:Enters HN 77:=zZ func77
theorem OH:Enters HN 78:=zZ func78
theorem WC:Enters HN 79:=zZ func79
theorem OG:Enters HN 80:=zZ func80
theorem OF:Enters HN 81:=zZ func81
theorem UY:Enters HN 82:=zZ func82
theorem OE:Enters HN 83:=zZ func83
theorem OD:Enters HN 84:=zZ func84
theorem OC:Enters HN 85:=zZ func85
theorem OB:Enters HN 86:=zZ func86
theorem OA:Enters HN 87:=zZ func87
theorem Pz:Enters HN 88:=zZ func88
theorem Py:Enters HN 89:=zZ func89
theorem Px:Enters HN 90:=zZ func90
theorem Pw:Enters HN 91:=zZ func91
theorem WB:Enters HN 92:=zZ func92
theorem Pv:Enters HN 94:=zZ func94
theorem Pu:Enters HN 95:=zZ func95
theorem Pt:Enters HN 96:=zZ func96
theorem Ps:Enters HN 97:=zZ func97
theorem Pr:Enters HN 98:=zZ func98
theorem UX:Enters HN 99:=zZ func99
theorem R8:Enters HN 100:=zZ func100
theorem R7:Enters HN 101:=zZ func101
theorem R6:Enters HN 102:=zZ func102
theorem RZ:Enters HN 103:=zZ func103
theorem RY:Enters HN 104:=zZ func104
theorem RX:Enters HN 105:=zZ func105
theorem RW:Enters HN 106:=zZ func106
theorem RV:Enters HN 107:=zZ func107
theorem RU:Enters HN 108:=zZ func108
theorem RT:Enters HN 109:=zZ func109
theorem RS:Enters HN 110:=zZ func110
theorem RQ:Enters HN 111:=zZ func111
theorem RP:Enters HN 112:=zZ func112
theorem RO:Enters HN 113:=zZ func113
theorem YQ:Enters HN 114:=zZ func114
theorem RN:Enters HN 115:=zZ func115
theorem RM:Enters HN 116:=zZ func116
theorem RL:Enters HN 117:=zZ func117
theorem RK:Enters HN 118:=zZ func118
theorem RJ:Enters HN 119:=zZ func119
theorem RI:Enters HN 120:=zZ func120
theorem RH:Enters HN 121:=zZ func121
theorem RG:Enters HN 122:=zZ func122
theorem RF:Enters HN 123:=zZ func123
theorem RE:Enters HN 124:=zZ func124
theorem RD:Enters HN 125:=zZ func125
theorem RC:Enters HN 126:=zZ func126
theorem RB:Enters HN 127:=zZ func127
theorem RA:Enters HN 128:=zZ func128
theorem Sz:Enters HN 129:=zZ func129
theorem Sy:Enters HN 130:=zZ func130
theorem Sx:Enters HN 131:=zZ func131
theorem Sw:Enters HN 132:=zZ func132
theorem Su:Enters HN 133:=zZ func133
theorem Ss:Enters HN 134:=zZ func134
theorem Sr:Enters HN 135:=zZ func135
theorem Sq:Enters HN 136:=zZ func136
theorem Sp:Enters HN 137:=zZ func137
theorem So:Enters HN 141:=zZ func141
theorem Sn:Enters HN 144:=zZ func144
theorem Sl:Enters HN 147:=zZ func147
theorem Sk:Enters HN 149:=zZ func149
theorem YP:Enters HN 150:=zZ func150
theorem Sj:Enters HN 151:=zZ func151
theorem Si:Enters HN 152:=zZ func152
theorem Sh:Enters HN 153:=zZ func153
theorem Sf:Enters HN 154:=zZ func154
theorem Se:Enters HN 155:=zZ func155
theorem Sd:Enters HN 156:=zZ func156
theorem Sc:Enters HN 157:=zZ func157
theorem Sb:Enters HN 158:=zZ func158
theorem Sa:Enters HN 159:=zZ func159
theorem S8:Enters HN 160:=zZ func160
theorem S7:Enters HN 161:=zZ func161
theorem S6:Enters HN 162:=zZ func162
theorem S5:Enters HN 163:=zZ func163
theorem YO:Enters HN 164:=zZ func164
theorem YN:Enters HN 165:=zZ func165
theorem S4:Enters HN 166:=zZ func166
theorem S2:Enters HN 167:=zZ func167
theorem S1:Enters HN 168:=zZ func168
theorem S0:Enters HN 169:=zZ func169
theorem YM:Enters HN 170:=zZ func170
theorem SZ:Enters HN 171:=zZ func171
theorem SY:Enters HN 172:=zZ func172
theorem SX:Enters HN 173:=zZ func173
theorem SW:Enters HN 174:=zZ func174
theorem SV:Enters HN 175:=zZ func175
theorem SU:Enters HN 176:=zZ func176
theorem ST:Enters HN 177:=zZ func177
theorem SS:Enters HN 178:=zZ func178
theorem SR:Enters HN 179:=zZ func179
theorem SP:Enters HN 180:=zZ func180
theorem SO:Enters HN 181:=zZ func181
theorem SN:Enters HN 182:=zZ func182
theorem YL:Enters HN 183:=zZ func183
theorem SM:Enters HN 184:=zZ func184
theorem YK:Enters HN 185:=zZ func185
theorem SL:Enters HN 186:=zZ func186
theorem YJ:Enters HN 187:=zZ func187
theorem SK:Enters HN 188:=zZ func188
theorem YI:Enters HN 189:=zZ func189
theorem SI:Enters HN 190:=zZ func190
theorem SH:Enters HN 191:=zZ func191
theorem YH:Enters HN 192:=zZ func192
theorem SG:Enters HN 193:=zZ func193
theorem SF:Enters HN 194:=zZ func194
theorem SE:Enters HN 195:=zZ func195
theorem YG:Enters HN 196:=zZ func196
theorem SD:Enters HN 197:=zZ func197
theorem SC:Enters HN 198:=zZ func198
theorem SB:Enters HN 199:=zZ func199
theorem SA:Enters HN 200:=zZ func200
theorem Tz:Enters HN 201:=zZ func201
theorem Ty:Enters HN 202:=zZ func202
theorem Tx:Enters HN 203:=zZ func203
theorem Tw:Enters HN 204:=zZ func204
theorem Tv:Enters HN 205:=zZ func205
theorem Tu:Enters HN 206:=zZ func206
theorem Ts:Enters HN 207:=zZ func207
theorem Tq:Enters HN 208:=zZ func208
theorem x7:Enters HN 209:=zZ func209
theorem Tp:Enters HN 210:=zZ func210
theorem To:Enters HN 211:=zZ func211
theorem Tn:Enters HN 212:=zZ func212
theorem Tm:Enters HN 213:=zZ func213
theorem Tl:Enters HN 214:=zZ func214
theorem Tk:Enters HN 215:=zZ func215
theorem Tj:Enters HN 216:=zZ func216
theorem Ti:Enters HN 217:=zZ func217
theorem Th:Enters HN 218:=zZ func218
theorem Tg:Enters HN 219:=zZ func219
theorem Te:Enters HN 220:=zZ func220
theorem YF:Enters HN 221:=zZ func221
theorem YE:Enters HN 222:=zZ func222
theorem Tb:Enters HN 223:=zZ func223
theorem Ta:Enters HN 224:=zZ func224
theorem T9:Enters HN 225:=zZ func225
theorem T8:Enters HN 226:=zZ func226
theorem T7:Enters HN 227:=zZ func227
theorem T6:Enters HN 228:=zZ func228
theorem T5:Enters HN 229:=zZ func229
theorem T4:Enters HN 230:=zZ func230
theorem T3:Enters HN 231:=zZ func231
theorem T2:Enters HN 232:=zZ func232
theorem T1:Enters HN 233:=zZ func233
theorem TZ:Enters HN 234:=zZ func234
theorem TX:Enters HN 235:=zZ func235
theorem TW:Enters HN 236:=zZ func236
theorem TV:Enters HN 237:=zZ func237
theorem TU:Enters HN 238:=zZ func238
theorem TS:Enters HN 239:=zZ func239
theorem TR:Enters HN 240:=zZ func240
theorem TQ:Enters HN 241:=zZ func241
theorem TP:Enters HN 242:=zZ func242
theorem TO:Enters HN 243:=zZ func243
theorem TN:Enters HN 244:=zZ func244
theorem TM:Enters HN 245:=zZ func245
theorem TL:Enters HN 246:=zZ func246
theorem TK:Enters HN 247:=zZ func247
theorem vr:Enters HN 248:=zZ func248
theorem TJ:Enters HN 249:=zZ func249
theorem TI:Enters HN 250:=zZ func250
theorem TH:Enters HN 251:=zZ func251
theorem TG:Enters HN 252:=zZ func252
theorem TF:Enters HN 253:=zZ func253
theorem TE:Enters HN 254:=zZ func254
theorem TD:Enters HN 255:=zZ func255
theorem YD:Enters HN 256:=zZ func256
theorem TC:Enters HN 257:=zZ func257
theorem TB:Enters HN 258:=zZ func258
theorem dr:Enters HN 259:=zZ func259
theorem TA:Enters HN 260:=zZ func260
theorem Uz:Enters HN 261:=zZ func261
theorem Uy:Enters HN 262:=zZ func262
theorem Ux:Enters HN 263:=zZ func263
theorem YC:Enters HN 264:=zZ func264
theorem Uw:Enters HN 265:=zZ func265
theorem Uv:Enters HN 266:=zZ func266
theorem Uu:Enters HN 267:=zZ func267
theorem Ut:Enters HN 268:=zZ func268
theorem Us:Enters HN 269:=zZ func269
theorem Ur:Enters HN 270:=zZ func270
theorem Uq:Enters HN 271:=zZ func271
theorem Up:Enters HN 272:=zZ func272
theorem Uo:Enters HN 273:=zZ func273
theorem Um:Enters HN 274:=zZ func274
theorem Ul:Enters HN 275:=zZ func275
theorem Uk:Enters HN 276:=zZ func276
theorem Uj:Enters HN 277:=zZ func277
theorem Ui:Enters HN 278:=zZ func278
theorem Uh:Enters HN 279:=zZ func279
theorem Ug:Enters HN 280:=zZ func280
theorem Uf:Enters HN 281:=zZ func281
theorem Ue:Enters HN 282:=zZ func282
theorem Ud:Enters HN 284:=zZ func284
theorem Uc:Enters HN 285:=zZ func285
theorem Ub:Enters HN 287:=zZ func287
theorem Ua:Enters HN 288:=zZ func288
theorem U9:Enters HN 289:=zZ func289
theorem U7:Enters HN 290:=zZ func290
theorem U6:Enters HN 291:=zZ func291
theorem U5:Enters HN 292:=zZ func292
theorem U4:Enters HN 293:=zZ func293
theorem U3:Enters HN 294:=zZ func294
theorem zi:HN.follows .mixedOrders=true:=by kernel_rfl
attribute [go_sem] ntmps4 ntmps5 ntmps6 ntmps7 ntmps8 ntmps9 ntmps10 ntmps14 ntmps15 ntmps16 ntmps17 ntmps18 ntmps19 ntmps20 ntmps21 ntmps22 ntmps23 ntmps24 ntmps25 ntmps26 ntmps27 ntmps28 ntmps29 ntmps30 ntmps31 ntmps32 ntmps33 ntmps34 ntmps35 ntmps36 ntmps37 ntmps38 ntmps39 ntmps43 ntmps44 ntmps45 ntmps46 ntmps47 ntmps48 ntmps49 ntmps50 ntmps51 ntmps52 ntmps53 ntmps54 ntmps55 ntmps56 ntmps57 ntmps58 ntmps59 ntmps62 ntmps63 ntmps64 ntmps65 ntmps66 ntmps67 ntmps68 ntmps69 ntmps70 ntmps71 ntmps72 ntmps73 ntmps74 ntmps75 ntmps76 ntmps77 ntmps78 ntmps79 ntmps80 ntmps81 ntmps82 ntmps83 ntmps84 ntmps85 ntmps86 ntmps87 ntmps88 ntmps89 ntmps90 ntmps91 ntmps92 ntmps94 ntmps95 ntmps96 ntmps97 ntmps98 ntmps99 ntmps100 ntmps101 ntmps102 ntmps103 ntmps104 ntmps105 ntmps106 ntmps107 ntmps108 ntmps109 ntmps110 ntmps111 ntmps112 ntmps113 ntmps114 ntmps115 ntmps116 ntmps117 ntmps118 ntmps119 ntmps120 ntmps121 ntmps122 ntmps123 ntmps124 ntmps125 ntmps126 ntmps127 ntmps128 ntmps129 ntmps130 ntmps131 ntmps132 ntmps133 ntmps134 ntmps135 ntmps136 ntmps137 ntmps141 ntmps144 ntmps147 ntmps149 ntmps150 ntmps151 ntmps152 ntmps153 ntmps154 ntmps155 ntmps156 ntmps157 ntmps158 ntmps159 ntmps160 ntmps161 ntmps162 ntmps163 ntmps164 ntmps165 ntmps166 ntmps167 ntmps168 ntmps169 ntmps170 ntmps171 ntmps172 ntmps173 ntmps174 ntmps175 ntmps176 ntmps177 ntmps178 ntmps179 ntmps180 ntmps181 ntmps182 ntmps183 ntmps184 ntmps185 ntmps186 ntmps187 ntmps188 ntmps189 ntmps190 ntmps191 ntmps192 ntmps193 ntmps194 ntmps195 ntmps196 ntmps197 ntmps198 ntmps199 ntmps200 ntmps201 ntmps202 ntmps203 ntmps204 ntmps205 ntmps206 ntmps207 ntmps208 ntmps209 ntmps210 ntmps211 ntmps212 ntmps213 ntmps214 ntmps215 ntmps216 ntmps217 ntmps218 ntmps219 ntmps220 ntmps221 ntmps222 ntmps223 ntmps224 ntmps225 ntmps226 ntmps227 ntmps228 ntmps229 ntmps230 ntmps231 ntmps232 ntmps233 ntmps234 ntmps235 ntmps236 ntmps237 ntmps238 ntmps239 ntmps240 ntmps241 ntmps242 ntmps243 ntmps244 ntmps245 ntmps246 ntmps247 ntmps248 ntmps249 ntmps250 ntmps251 ntmps252 ntmps253 ntmps254 ntmps255 ntmps256 ntmps257 ntmps258 ntmps259 ntmps260 ntmps261 ntmps262 ntmps263 ntmps264 ntmps265 ntmps266 ntmps267 ntmps268 ntmps269 ntmps270 ntmps271 ntmps272 ntmps273 ntmps274 ntmps275 ntmps276 ntmps277 ntmps278 ntmps279 ntmps280 ntmps281 ntmps282 ntmps284 ntmps285 ntmps287 ntmps288 ntmps289 ntmps290 ntmps291 ntmps292 ntmps293 ntmps294
end Tf
end Go.Proofs.YtbnkiacicnnmkaaGreat
