/-  -/
import Derived.Test.YtbnkiacicnnmkaaGreatProg
import Derived.Test.YtbnkiacicnnmkaaGreatMB
import Derived.KernelRfl
open Go.Proofs.Tryz
open Go.Proofs.Tryz renaming prog→HR
set_option linter.unusedSimpArgs false
set_option linter.unusedVariables false
namespace Go.Proofs.YtbnkiacicnnmkaaGreat
open Vg
namespace Tf
@[go_sem] theorem Kc:(HR.underlying 1).isSome=true/\(HR.underlying 2).isSome=true:=by and_intros<;>kernel_rfl
@[go_sem] theorem Kn:vB HR 2=some .i64:=by kernel_rfl
@[go_sem] theorem LS:zm HR 3=1:=by kernel_rfl
@[go_sem] theorem Ks:z5 HR 3=some false/\(HR.underlying 3).isSome=true:=by and_intros<;>kernel_rfl
@[go_sem] theorem LD:zd HR 3=some [Value.int .i64 0]:=by kernel_rfl
@[go_sem] theorem Kq:wD HR 3=8:=by kernel_rfl
@[go_sem] theorem Nv:yX HR 3=none:=by kernel_rfl
@[go_sem] theorem Km:vB HR 3=some .i64:=by kernel_rfl
@[go_sem] theorem Kf:zm HR 4=1/\z5 HR 4=some false/\(HR.underlying 4).isSome=true/\zd HR 4=some [Value.bool false]/\wD HR 4=1:=by and_intros<;>kernel_rfl
@[go_sem] theorem Kd:HR.underlying 4=some .bool:=by kernel_rfl
@[go_sem] theorem Kr:z5 HR 5=some false/\(HR.underlying 5).isSome=true/\zd HR 5=some [Value.int .u8 0]:=by and_intros<;>kernel_rfl
@[go_sem] theorem Kl:vB HR 5=some .u8:=by kernel_rfl
@[go_sem] theorem Kb:(HR.underlying 6).isSome=true:=by kernel_rfl
@[go_sem] theorem Kk:vB HR 6=some .u8:=by kernel_rfl
@[go_sem] theorem Ka:(HR.underlying 7).isSome=true/\(HR.underlying 8).isSome=true/\zm HR 9=1/\z5 HR 9=some false/\(HR.underlying 9).isSome=true/\zd HR 9=some [Value.string ⟨#[]⟩]/\tv HR 9=true/\wD HR 9=16/\(HR.underlying 10).isSome=true/\(HR.underlying 11).isSome=true/\(HR.underlying 12).isSome=true:=by and_intros<;>kernel_rfl
@[go_sem] theorem Lo:vB HR 12=some .u64:=by kernel_rfl
@[go_sem] theorem LP:(HR.underlying 13).isSome=true/\(HR.underlying 14).isSome=true/\(HR.underlying 15).isSome=true:=by and_intros<;>kernel_rfl
@[go_sem] theorem L1:sF HR 15=some 352:=by kernel_rfl
@[go_sem] theorem LO:(HR.underlying 16).isSome=true:=by kernel_rfl
@[go_sem] theorem LZ:sF HR 16=some 355:=by kernel_rfl
@[go_sem] theorem LN:(HR.underlying 17).isSome=true:=by kernel_rfl
@[go_sem] theorem LY:sF HR 17=some 364:=by kernel_rfl
@[go_sem] theorem LM:(HR.underlying 18).isSome=true/\(HR.underlying 19).isSome=true/\(HR.underlying 20).isSome=true/\(HR.underlying 21).isSome=true:=by and_intros<;>kernel_rfl
@[go_sem] theorem Ln:vB HR 21=some .i32:=by kernel_rfl
@[go_sem] theorem LU:zm HR 22=1/\z5 HR 22=some false/\(HR.underlying 22).isSome=true:=by and_intros<;>kernel_rfl
@[go_sem] theorem Yq:yX HR 22=some (42,5):=by kernel_rfl
@[go_sem] theorem L8:kv HR 22=none/\zm HR 23=1/\z5 HR 23=some false/\(HR.underlying 23).isSome=true:=by and_intros<;>kernel_rfl
@[go_sem] theorem m9:yX HR 23=some (55,10):=by kernel_rfl
@[go_sem] theorem K8:z5 HR 24=some false/\(HR.underlying 24).isSome=true:=by and_intros<;>kernel_rfl
@[go_sem] theorem PB:yX HR 24=some (78,2):=by kernel_rfl
@[go_sem] theorem K6:z5 HR 25=some false/\(HR.underlying 25).isSome=true:=by and_intros<;>kernel_rfl
@[go_sem] theorem PA:yX HR 25=some (82,3):=by kernel_rfl
@[go_sem] theorem Wm:zm HR 26=1:=by kernel_rfl
@[go_sem] theorem K5:z5 HR 26=some false/\(HR.underlying 26).isSome=true/\zd HR 26=some [Value.slice none 0 0]/\tv HR 26=false/\wD HR 26=24:=by and_intros<;>kernel_rfl
@[go_sem] theorem tP:yX HR 26=some (3,1):=by kernel_rfl
@[go_sem] theorem L7:kv HR 26=none/\(HR.underlying 27).isSome=true:=by and_intros<;>kernel_rfl
@[go_sem] theorem Qu:zm HR 28=9:=by kernel_rfl
@[go_sem] theorem K4:z5 HR 28=some true/\(HR.underlying 28).isSome=true:=by and_intros<;>kernel_rfl
@[go_sem] theorem LF:zd HR 28=some [Value.slice none 0 0,Value.slice none 0 0,Value.slice none 0 0,Value.slice none 0 0,Value.int .i64 0,Value.slice none 0 0,Value.slice none 0 0,Value.slice none 0 0,Value.slice none 0 0]:=by kernel_rfl
@[go_sem] theorem PJ:zY HR 28 0=some 0/\zY HR 28 1=some 1/\zY HR 28 2=some 2/\zY HR 28 3=some 3/\zY HR 28 4=some 4/\zY HR 28 5=some 5/\zY HR 28 6=some 6/\zY HR 28 7=some 7/\zY HR 28 8=some 8/\(HR.underlying 32).isSome=true:=by and_intros<;>kernel_rfl
@[go_sem] theorem Lm:vB HR 32=some .i64:=by kernel_rfl
@[go_sem] theorem Qt:zm HR 38=1:=by kernel_rfl
@[go_sem] theorem KZ:z5 HR 38=some false/\(HR.underlying 38).isSome=true:=by and_intros<;>kernel_rfl
@[go_sem] theorem Wv:yX HR 38=some (26,1):=by kernel_rfl
@[go_sem] theorem LL:(HR.underlying 41).isSome=true:=by kernel_rfl
@[go_sem] theorem Qs:zm HR 42=5:=by kernel_rfl
@[go_sem] theorem NV:z5 HR 42=some true:=by kernel_rfl
@[go_sem] theorem LK:(HR.underlying 42).isSome=true/\zd HR 42=some [Value.int .i64 0,Value.int .i64 0,Value.int .i64 0,Value.int .i64 0,Value.int .i64 0]/\wD HR 42=40/\wT HR 42=some [(0,1),(1,1),(2,1),(3,1),(4,1)]/\zY HR 42 0=some 0/\zY HR 42 1=some 1/\zY HR 42 2=some 2/\zY HR 42 3=some 3/\zY HR 42 4=some 4/\zm HR 43=16/\(HR.underlying 43).isSome=true:=by and_intros<;>kernel_rfl
@[go_sem] theorem LC:zd HR 43=some [Value.int .i64 0,Value.int .i64 0,Value.int .i64 0,Value.int .i64 0,Value.int .i64 0,Value.int .i64 0,Value.int .i64 0,Value.int .i64 0,Value.int .i64 0,Value.int .i64 0,Value.int .i64 0,Value.int .i64 0,Value.int .i64 0,Value.int .i64 0,Value.int .i64 0,Value.int .i64 0]:=by kernel_rfl
@[go_sem] theorem L6:kv HR 43=some (16,1):=by kernel_rfl
@[go_sem] theorem KT:lh HR 43=some 16:=by kernel_rfl
@[go_sem] theorem L4:wT HR 43=some [(0,1),(1,1),(2,1),(3,1),(4,1),(5,1),(6,1),(7,1),(8,1),(9,1),(10,1),(11,1),(12,1),(13,1),(14,1),(15,1)]/\(HR.underlying 44).isSome=true/\zm HR 45=17/\z5 HR 45=some true/\(HR.underlying 45).isSome=true:=by and_intros<;>kernel_rfl
@[go_sem] theorem LB:zd HR 45=some [Value.int .i64 0,Value.int .i64 0,Value.int .i64 0,Value.int .i64 0,Value.int .i64 0,Value.int .i64 0,Value.int .i64 0,Value.int .i64 0,Value.int .i64 0,Value.int .i64 0,Value.int .i64 0,Value.int .i64 0,Value.int .i64 0,Value.int .i64 0,Value.int .i64 0,Value.int .i64 0,Value.slice none 0 0]:=by kernel_rfl
@[go_sem] theorem L3:wT HR 45=some [(0,16),(16,1)]/\zY HR 45 0=some 0/\zY HR 45 1=some 16/\(HR.underlying 52).isSome=true/\zm HR 53=5:=by and_intros<;>kernel_rfl
@[go_sem] theorem NU:z5 HR 53=some true:=by kernel_rfl
@[go_sem] theorem LJ:(HR.underlying 53).isSome=true/\zd HR 53=some [Value.int .i64 0,Value.int .i64 0,Value.int .i64 0,Value.int .i64 0,Value.int .i64 0]/\wD HR 53=40/\wT HR 53=some [(0,1),(1,1),(2,1),(3,1),(4,1)]/\zY HR 53 0=some 0/\zY HR 53 1=some 1/\zY HR 53 2=some 2/\zY HR 53 3=some 3/\zY HR 53 4=some 4/\(HR.underlying 54).isSome=true:=by and_intros<;>kernel_rfl
@[go_sem] theorem Qr:zm HR 55=10:=by kernel_rfl
@[go_sem] theorem KY:z5 HR 55=some true/\(HR.underlying 55).isSome=true:=by and_intros<;>kernel_rfl
@[go_sem] theorem LA:zd HR 55=some [Value.int .i64 0,Value.bool false,Value.int .i64 0,Value.int .i64 0,Value.int .i64 0,Value.int .i64 0,Value.int .i64 0,Value.int .i64 0,Value.int .i64 0,Value.int .i64 0]:=by kernel_rfl
@[go_sem] theorem KQ:wD HR 55=80/\wT HR 55=some [(0,1),(1,1),(2,1),(3,1),(4,1),(5,5)]/\zY HR 55 0=some 0/\zY HR 55 1=some 1/\zY HR 55 2=some 2/\zY HR 55 3=some 3/\zY HR 55 4=some 4/\ix HR 55 5=some (5,5,true)/\zY HR 55 5=some 5/\(HR.underlying 56).isSome=true/\zm HR 57=11/\z5 HR 57=some true:=by and_intros<;>kernel_rfl
@[go_sem] theorem LI:(HR.underlying 57).isSome=true:=by kernel_rfl
@[go_sem] theorem Mz:zd HR 57=some [Value.string ⟨#[]⟩,Value.int .i64 0,Value.bool false,Value.int .i64 0,Value.int .i64 0,Value.int .i64 0,Value.int .i64 0,Value.int .i64 0,Value.int .i64 0,Value.int .i64 0,Value.int .i64 0]:=by kernel_rfl
@[go_sem] theorem KP:wD HR 57=96/\wT HR 57=some [(0,1),(1,10)]/\zY HR 57 0=some 0/\zY HR 57 1=some 1/\zm HR 58=1/\z5 HR 58=some false/\(HR.underlying 58).isSome=true/\yX HR 58=some (57,11)/\(HR.underlying 59).isSome=true/\zm HR 60=4/\z5 HR 60=some true/\(HR.underlying 60).isSome=true:=by and_intros<;>kernel_rfl
@[go_sem] theorem My:zd HR 60=some [Value.string ⟨#[]⟩,Value.string ⟨#[]⟩,Value.int .i64 0,Value.int .i64 0]/\wD HR 60=48/\wT HR 60=some [(0,1),(1,1),(2,1),(3,1)]/\zY HR 60 0=some 0/\zY HR 60 1=some 1/\zY HR 60 2=some 2/\zY HR 60 3=some 3/\zm HR 61=1/\z5 HR 61=some false/\(HR.underlying 61).isSome=true/\yX HR 61=some (60,4)/\zm HR 62=1:=by and_intros<;>kernel_rfl
@[go_sem] theorem KW:z5 HR 62=some false/\(HR.underlying 62).isSome=true/\yX HR 62=some (9,1)/\(HR.underlying 63).isSome=true/\zm HR 64=6/\z5 HR 64=some true/\(HR.underlying 64).isSome=true/\zd HR 64=some [Value.string ⟨#[]⟩,Value.string ⟨#[]⟩,Value.string ⟨#[]⟩,Value.slice none 0 0,Value.string ⟨#[]⟩,Value.slice none 0 0]/\wD HR 64=112/\wT HR 64=some [(0,1),(1,1),(2,1),(3,1),(4,1),(5,1)]/\zY HR 64 0=some 0/\zY HR 64 1=some 1:=by and_intros<;>kernel_rfl
@[go_sem] theorem PI:zY HR 64 2=some 2/\zY HR 64 3=some 3/\zY HR 64 4=some 4/\zY HR 64 5=some 5/\zm HR 65=1/\z5 HR 65=some false/\(HR.underlying 65).isSome=true:=by and_intros<;>kernel_rfl
@[go_sem] theorem Wt:yX HR 65=some (64,6):=by kernel_rfl
@[go_sem] theorem LR:zm HR 66=1/\z5 HR 66=some false/\(HR.underlying 66).isSome=true/\yX HR 66=some (138,3)/\zm HR 67=1/\z5 HR 67=some false/\(HR.underlying 67).isSome=true/\yX HR 67=some (140,4)/\(HR.underlying 68).isSome=true/\zm HR 69=7/\z5 HR 69=some true/\(HR.underlying 69).isSome=true:=by and_intros<;>kernel_rfl
@[go_sem] theorem Mx:zd HR 69=some [Value.string ⟨#[]⟩,Value.slice none 0 0,Value.slice none 0 0,Value.slice none 0 0,Value.slice none 0 0,Value.slice none 0 0,Value.slice none 0 0]/\wT HR 69=some [(0,1),(1,1),(2,1),(3,1),(4,1),(5,1),(6,1)]/\zY HR 69 0=some 0/\zY HR 69 1=some 1/\zY HR 69 2=some 2/\zY HR 69 3=some 3/\zY HR 69 4=some 4/\zY HR 69 5=some 5/\zY HR 69 6=some 6/\zm HR 70=1/\z5 HR 70=some false/\(HR.underlying 70).isSome=true:=by and_intros<;>kernel_rfl
@[go_sem] theorem LW:yX HR 70=some (131,13)/\(HR.underlying 71).isSome=true/\zm HR 72=9/\z5 HR 72=some true/\(HR.underlying 72).isSome=true:=by and_intros<;>kernel_rfl
@[go_sem] theorem Mw:zd HR 72=some [Value.string ⟨#[]⟩,Value.slice none 0 0,Value.slice none 0 0,Value.slice none 0 0,Value.slice none 0 0,Value.slice none 0 0,Value.slice none 0 0,Value.slice none 0 0,Value.slice none 0 0]:=by kernel_rfl
@[go_sem] theorem L2:wT HR 72=some [(0,7),(7,1),(8,1)]/\zY HR 72 0=some 0/\zY HR 72 1=some 7/\zY HR 72 2=some 8/\(HR.underlying 77).isSome=true:=by and_intros<;>kernel_rfl
@[go_sem] theorem Qq:zm HR 78=2:=by kernel_rfl
@[go_sem] theorem KV:z5 HR 78=some true/\(HR.underlying 78).isSome=true/\zd HR 78=some [Value.slice none 0 0,Value.slice none 0 0]/\zY HR 78 0=some 0/\zY HR 78 1=some 1/\(HR.underlying 79).isSome=true/\(HR.underlying 81).isSome=true:=by and_intros<;>kernel_rfl
@[go_sem] theorem Qp:zm HR 82=3:=by kernel_rfl
@[go_sem] theorem KU:z5 HR 82=some true/\(HR.underlying 82).isSome=true/\zd HR 82=some [Value.slice none 0 0,Value.slice none 0 0,Value.slice none 0 0]/\zY HR 82 0=some 0/\zY HR 82 1=some 1/\zY HR 82 2=some 2/\(HR.underlying 84).isSome=true/\(HR.underlying 85).isSome=true/\zm HR 86=1/\z5 HR 86=some false/\(HR.underlying 86).isSome=true/\zd HR 86=some [Value.slice none 0 0]:=by and_intros<;>kernel_rfl
@[go_sem] theorem LV:yX HR 86=some (4,1)/\kv HR 86=none/\zm HR 87=1/\z5 HR 87=some false/\(HR.underlying 87).isSome=true/\zd HR 87=some [Value.pointer none]:=by and_intros<;>kernel_rfl
@[go_sem] theorem LX:sF HR 87=some 91:=by kernel_rfl
@[go_sem] theorem LQ:zm HR 89=1/\z5 HR 89=some false/\(HR.underlying 89).isSome=true:=by and_intros<;>kernel_rfl
@[go_sem] theorem Ll:vB HR 89=some .u16:=by kernel_rfl
@[go_sem] theorem LH:(HR.underlying 90).isSome=true/\(HR.underlying 91).isSome=true/\zd HR 91=some [Value.int .u16 0,Value.slice none 0 0]/\wT HR 91=some [(0,1),(1,1)]/\zY HR 91 0=some 0/\zY HR 91 1=some 1/\(HR.underlying 92).isSome=true/\(HR.underlying 93).isSome=true/\(HR.underlying 95).isSome=true/\(HR.underlying 99).isSome=true/\(HR.underlying 106).isSome=true/\zm HR 107=3:=by and_intros<;>kernel_rfl
@[go_sem] theorem Mt:z5 HR 107=some true/\(HR.underlying 107).isSome=true/\zd HR 107=some [Value.string ⟨#[]⟩,Value.string ⟨#[]⟩,Value.int .i64 0]/\wT HR 107=some [(0,1),(1,1),(2,1)]/\zY HR 107 1=some 1/\zY HR 107 2=some 2/\(HR.underlying 108).isSome=true/\yX HR 108=some (107,3)/\(HR.underlying 113).isSome=true:=by and_intros<;>kernel_rfl
@[go_sem] theorem MJ:sF HR 113=some 45:=by kernel_rfl
@[go_sem] theorem Nu:zm HR 115=1/\z5 HR 115=some false/\(HR.underlying 115).isSome=true/\zd HR 115=some [Value.pointer none]:=by and_intros<;>kernel_rfl
@[go_sem] theorem MI:sF HR 115=some 191:=by kernel_rfl
@[go_sem] theorem Mr:z5 HR 118=some false/\(HR.underlying 118).isSome=true/\zd HR 118=some [Value.nilFunc]/\z5 HR 122=some false/\(HR.underlying 122).isSome=true/\yX HR 122=some (129,2)/\(HR.underlying 128).isSome=true/\zm HR 129=2:=by and_intros<;>kernel_rfl
@[go_sem] theorem QN:z5 HR 129=some true:=by kernel_rfl
@[go_sem] theorem Ns:(HR.underlying 129).isSome=true/\zd HR 129=some [Value.int .i64 0,Value.int .i64 0]/\wD HR 129=16/\wT HR 129=some [(0,1),(1,1)]/\zY HR 129 0=some 0/\zY HR 129 1=some 1/\(HR.underlying 130).isSome=true/\zm HR 131=13:=by and_intros<;>kernel_rfl
@[go_sem] theorem QM:z5 HR 131=some true:=by kernel_rfl
@[go_sem] theorem Nr:(HR.underlying 131).isSome=true:=by kernel_rfl
@[go_sem] theorem N2:zd HR 131=some [Value.string ⟨#[]⟩,Value.int .i64 0,Value.bool false,Value.int .i64 0,Value.int .i64 0,Value.int .i64 0,Value.int .i64 0,Value.int .i64 0,Value.int .i64 0,Value.int .i64 0,Value.int .i64 0,Value.int .i64 0,Value.int .i64 0]:=by kernel_rfl
@[go_sem] theorem Mh:wD HR 131=112/\wT HR 131=some [(0,1),(1,10),(11,2)]/\zY HR 131 0=some 0/\z5 HR 134=some false/\(HR.underlying 134).isSome=true:=by and_intros<;>kernel_rfl
@[go_sem] theorem MH:sF HR 134=some 136:=by kernel_rfl
@[go_sem] theorem Nq:(HR.underlying 135).isSome=true/\(HR.underlying 136).isSome=true:=by and_intros<;>kernel_rfl
@[go_sem] theorem N1:zd HR 136=some [Value.string ⟨#[]⟩,Value.slice none 0 0,Value.slice none 0 0,Value.slice none 0 0,Value.slice none 0 0,Value.slice none 0 0,Value.slice none 0 0,Value.slice none 0 0,Value.slice none 0 0,Value.slice none 0 0,Value.slice none 0 0,Value.slice none 0 0,Value.slice none 0 0,Value.int .i64 0,Value.slice none 0 0,Value.slice none 0 0,Value.slice none 0 0,Value.slice none 0 0,Value.slice none 0 0,Value.int .i64 0]:=by kernel_rfl
@[go_sem] theorem MS:wT HR 136=some [(0,9),(9,9),(18,1),(19,1)]/\zY HR 136 0=some 0/\zY HR 136 1=some 9/\zY HR 136 2=some 18/\zY HR 136 3=some 19/\(HR.underlying 137).isSome=true/\zm HR 138=3/\z5 HR 138=some true/\(HR.underlying 138).isSome=true/\zd HR 138=some [Value.string ⟨#[]⟩,Value.slice none 0 0,Value.slice none 0 0]/\wD HR 138=64/\zY HR 138 0=some 0:=by and_intros<;>kernel_rfl
@[go_sem] theorem Q4:zY HR 138 1=some 1/\(HR.underlying 139).isSome=true/\zm HR 140=4/\z5 HR 140=some true/\(HR.underlying 140).isSome=true/\zd HR 140=some [Value.string ⟨#[]⟩,Value.slice none 0 0,Value.slice none 0 0,Value.slice none 0 0]/\wD HR 140=88/\zY HR 140 0=some 0/\zY HR 140 1=some 1/\zm HR 141=1/\z5 HR 141=some false/\(HR.underlying 141).isSome=true:=by and_intros<;>kernel_rfl
@[go_sem] theorem Np:(HR.underlying 144).isSome=true/\(HR.underlying 146).isSome=true/\(HR.underlying 147).isSome=true/\zm HR 151=1/\z5 HR 151=some false/\(HR.underlying 151).isSome=true/\zd HR 151=some [Value.nilFunc]/\zm HR 155=1/\z5 HR 155=some false/\(HR.underlying 155).isSome=true/\zd HR 155=some [Value.nilFunc]/\(HR.underlying 157).isSome=true:=by and_intros<;>kernel_rfl
@[go_sem] theorem No:(HR.underlying 160).isSome=true/\z5 HR 175=some false/\(HR.underlying 175).isSome=true/\z5 HR 177=some false/\(HR.underlying 177).isSome=true/\z5 HR 179=some false/\(HR.underlying 179).isSome=true/\z5 HR 181=some false/\(HR.underlying 181).isSome=true/\z5 HR 183=some false/\(HR.underlying 183).isSome=true/\z5 HR 185=some false:=by and_intros<;>kernel_rfl
@[go_sem] theorem Nm:(HR.underlying 185).isSome=true/\z5 HR 187=some false/\(HR.underlying 187).isSome=true/\z5 HR 188=some false/\(HR.underlying 188).isSome=true/\z5 HR 189=some false/\(HR.underlying 189).isSome=true/\(HR.underlying 190).isSome=true/\(HR.underlying 191).isSome=true:=by and_intros<;>kernel_rfl
@[go_sem] theorem NZ:zd HR 191=some [Value.string ⟨#[]⟩,Value.slice none 0 0,Value.slice none 0 0,Value.slice none 0 0,Value.slice none 0 0,Value.slice none 0 0,Value.slice none 0 0,Value.map none,Value.map none,Value.map none,Value.map none]:=by kernel_rfl
@[go_sem] theorem MR:wT HR 191=some [(0,7),(7,1),(8,1),(9,1),(10,1)]/\zY HR 191 0=some 0/\zY HR 191 1=some 7/\zY HR 191 2=some 8/\zY HR 191 3=some 9/\zY HR 191 4=some 10/\(HR.underlying 192).isSome=true/\(HR.underlying 193).isSome=true/\(HR.underlying 195).isSome=true/\(HR.underlying 196).isSome=true/\(HR.underlying 198).isSome=true/\(HR.underlying 199).isSome=true:=by and_intros<;>kernel_rfl
@[go_sem] theorem Nl:(HR.underlying 201).isSome=true/\(HR.underlying 202).isSome=true/\(HR.underlying 204).isSome=true/\yX HR 204=some (118,1)/\(HR.underlying 214).isSome=true:=by and_intros<;>kernel_rfl
@[go_sem] theorem MG:sF HR 214=some 78:=by kernel_rfl
@[go_sem] theorem Nk:(HR.underlying 215).isSome=true:=by kernel_rfl
@[go_sem] theorem MF:sF HR 215=some 82:=by kernel_rfl
@[go_sem] theorem Nj:(HR.underlying 217).isSome=true:=by kernel_rfl
@[go_sem] theorem ME:sF HR 217=some 64:=by kernel_rfl
@[go_sem] theorem Ni:(HR.underlying 220).isSome=true/\zm HR 222=1/\(HR.underlying 222).isSome=true/\zd HR 222=some [Value.slice none 0 0]/\(HR.underlying 226).isSome=true/\(HR.underlying 233).isSome=true:=by and_intros<;>kernel_rfl
@[go_sem] theorem M9:vB HR 233=some .u64:=by kernel_rfl
@[go_sem] theorem Nh:(HR.underlying 241).isSome=true/\zm HR 242=2/\(HR.underlying 242).isSome=true/\zd HR 242=some [Value.int .i64 0,Value.int .i64 0]/\wT HR 242=some [(0,1),(1,1)]/\zY HR 242 0=some 0/\zY HR 242 1=some 1/\(HR.underlying 245).isSome=true/\zm HR 246=11/\z5 HR 246=some true/\(HR.underlying 246).isSome=true:=by and_intros<;>kernel_rfl
@[go_sem] theorem NY:zd HR 246=some [Value.int .i64 0,Value.bool false,Value.int .i64 0,Value.int .i64 0,Value.int .i64 0,Value.int .i64 0,Value.int .i64 0,Value.int .i64 0,Value.int .i64 0,Value.int .i64 0,Value.int .i64 0]:=by kernel_rfl
@[go_sem] theorem MQ:wT HR 246=some [(0,10),(10,1)]/\zY HR 246 0=some 0/\zY HR 246 1=some 10/\(HR.underlying 253).isSome=true/\(HR.underlying 257).isSome=true/\(HR.underlying 258).isSome=true/\(HR.underlying 259).isSome=true/\(HR.underlying 260).isSome=true/\z5 HR 276=some false/\(HR.underlying 276).isSome=true:=by and_intros<;>kernel_rfl
@[go_sem] theorem MD:sF HR 276=some 3:=by kernel_rfl
@[go_sem] theorem Z9:zm HR 277=5:=by kernel_rfl
@[go_sem] theorem Ng:(HR.underlying 277).isSome=true/\zd HR 277=some [Value.pointer none,Value.pointer none,Value.pointer none,Value.pointer none,Value.pointer none]/\kv HR 277=some (5,1):=by and_intros<;>kernel_rfl
@[go_sem] theorem Mk:lh HR 277=some 5:=by kernel_rfl
@[go_sem] theorem MP:wT HR 277=some [(0,1),(1,1),(2,1),(3,1),(4,1)]/\(HR.underlying 279).isSome=true:=by and_intros<;>kernel_rfl
@[go_sem] theorem MC:sF HR 279=some 53:=by kernel_rfl
@[go_sem] theorem Nf:(HR.underlying 280).isSome=true:=by kernel_rfl
@[go_sem] theorem Ww:yX HR 280=some (5,1):=by kernel_rfl
@[go_sem] theorem Mq:z5 HR 293=some false/\(HR.underlying 293).isSome=true:=by and_intros<;>kernel_rfl
@[go_sem] theorem M8:vB HR 293=some .u64:=by kernel_rfl
@[go_sem] theorem Nd:(HR.underlying 294).isSome=true/\zm HR 295=2/\z5 HR 295=some true/\(HR.underlying 295).isSome=true/\zd HR 295=some [Value.int .u64 0,Value.int .u64 0]/\wT HR 295=some [(0,1),(1,1)]/\zY HR 295 0=some 0/\zY HR 295 1=some 1/\(HR.underlying 300).isSome=true/\yX HR 300=some (303,4)/\(HR.underlying 302).isSome=true/\zm HR 303=4:=by and_intros<;>kernel_rfl
@[go_sem] theorem Mo:z5 HR 303=some true/\(HR.underlying 303).isSome=true/\zd HR 303=some [Value.string ⟨#[]⟩,Value.int .i64 0,Value.int .i64 0,Value.int .i64 0]/\wT HR 303=some [(0,1),(1,1),(2,1),(3,1)]/\zY HR 303 0=some 0/\zY HR 303 1=some 1/\zY HR 303 2=some 2/\zY HR 303 3=some 3/\(HR.underlying 305).isSome=true/\(HR.underlying 307).isSome=true/\yX HR 307=some (53,5)/\(HR.underlying 310).isSome=true:=by and_intros<;>kernel_rfl
@[go_sem] theorem Nc:(HR.underlying 323).isSome=true/\zm HR 324=4/\z5 HR 324=some true/\(HR.underlying 324).isSome=true/\zd HR 324=some [Value.int .u64 0,Value.int .u64 0,Value.int .u64 0,Value.int .u64 0]/\wT HR 324=some [(0,2),(2,2)]/\zY HR 324 0=some 0/\zY HR 324 1=some 2/\(HR.underlying 341).isSome=true/\(HR.underlying 346).isSome=true/\(HR.underlying 347).isSome=true:=by and_intros<;>kernel_rfl
@[go_sem] theorem MB:sF HR 349=some 366:=by kernel_rfl
@[go_sem] theorem Nb:(HR.underlying 351).isSome=true/\(HR.underlying 352).isSome=true/\(HR.underlying 353).isSome=true:=by and_intros<;>kernel_rfl
@[go_sem] theorem Mj:lh HR 353=some 0:=by kernel_rfl
@[go_sem] theorem Na:(HR.underlying 354).isSome=true/\(HR.underlying 355).isSome=true/\(HR.underlying 356).isSome=true:=by and_intros<;>kernel_rfl
@[go_sem] theorem M7:vB HR 356=some .u32:=by kernel_rfl
@[go_sem] theorem N9:(HR.underlying 357).isSome=true:=by kernel_rfl
@[go_sem] theorem M6:vB HR 357=some .u8:=by kernel_rfl
@[go_sem] theorem N8:(HR.underlying 358).isSome=true:=by kernel_rfl
@[go_sem] theorem M5:vB HR 358=some .u8:=by kernel_rfl
@[go_sem] theorem N7:(HR.underlying 359).isSome=true/\(HR.underlying 360).isSome=true:=by and_intros<;>kernel_rfl
@[go_sem] theorem Nz:sF HR 360=some 5:=by kernel_rfl
@[go_sem] theorem N6:(HR.underlying 361).isSome=true:=by kernel_rfl
@[go_sem] theorem M4:vB HR 361=some .i32:=by kernel_rfl
@[go_sem] theorem N5:(HR.underlying 362).isSome=true:=by kernel_rfl
@[go_sem] theorem MZ:vB HR 362=some .i32:=by kernel_rfl
@[go_sem] theorem N4:(HR.underlying 363).isSome=true/\(HR.underlying 364).isSome=true:=by and_intros<;>kernel_rfl
@[go_sem] theorem Nt:Ql HR 367=true:=by kernel_rfl
theorem UU:HR.eqGuardType HR.depth 42=false:=by kernel_rfl
theorem P0:pO HR 20 42=some [.i .i64,.i .i64,.i .i64,.i .i64,.i .i64]:=by kernel_rfl
@[go_sem] theorem KA (a0 b0:Int)(a1 b1:Int)(a2 b2:Int)(a3 b3:Int)(a4 b4:Int):lw HR 42 [.v (.int .i64 a0),.v (.int .i64 a1),.v (.int .i64 a2),.v (.int .i64 a3),.v (.int .i64 a4)] [.v (.int .i64 b0),.v (.int .i64 b1),.v (.int .i64 b2),.v (.int .i64 b3),.v (.int .i64 b4)]:=fun _ h=>qg P0 NV UU rfl rfl h
theorem UT:HR.eqGuardType HR.depth 53=false:=by kernel_rfl
theorem PZ:pO HR 20 53=some [.i .i64,.i .i64,.i .i64,.i .i64,.i .i64]:=by kernel_rfl
@[go_sem] theorem Lz (a0 b0:Int)(a1 b1:Int)(a2 b2:Int)(a3 b3:Int)(a4 b4:Int):lw HR 53 [.v (.int .i64 a0),.v (.int .i64 a1),.v (.int .i64 a2),.v (.int .i64 a3),.v (.int .i64 a4)] [.v (.int .i64 b0),.v (.int .i64 b1),.v (.int .i64 b2),.v (.int .i64 b3),.v (.int .i64 b4)]:=fun _ h=>qg PZ NU UT rfl rfl h
theorem Xz:HR.eqGuardType HR.depth 129=false:=by kernel_rfl
theorem Vc:pO HR 20 129=some [.i .i64,.i .i64]:=by kernel_rfl
@[go_sem] theorem Me (a0 b0:Int)(a1 b1:Int):lw HR 129 [.v (.int .i64 a0),.v (.int .i64 a1)] [.v (.int .i64 b0),.v (.int .i64 b1)]:=fun _ h=>qg Vc QN Xz rfl rfl h
theorem Xy:HR.eqGuardType HR.depth 131=false:=by kernel_rfl
theorem Vb:pO HR 20 131=some [.s,.i .i64,.b,.i .i64,.i .i64,.i .i64,.i .i64,.i .i64,.i .i64,.i .i64,.i .i64,.i .i64,.i .i64]:=by kernel_rfl
@[go_sem] theorem Md (a0 b0:ByteArray)(a1 b1:Int)(a2 b2:Bool)(a3 b3:Int)(a4 b4:Int)(a5 b5:Int)(a6 b6:Int)(a7 b7:Int)(a8 b8:Int)(a9 b9:Int)(a10 b10:Int)(a11 b11:Int)(a12 b12:Int):lw HR 131 [.v (.string a0),.v (.int .i64 a1),.v (.bool a2),.v (.int .i64 a3),.v (.int .i64 a4),.v (.int .i64 a5),.v (.int .i64 a6),.v (.int .i64 a7),.v (.int .i64 a8),.v (.int .i64 a9),.v (.int .i64 a10),.v (.int .i64 a11),.v (.int .i64 a12)] [.v (.string b0),.v (.int .i64 b1),.v (.bool b2),.v (.int .i64 b3),.v (.int .i64 b4),.v (.int .i64 b5),.v (.int .i64 b6),.v (.int .i64 b7),.v (.int .i64 b8),.v (.int .i64 b9),.v (.int .i64 b10),.v (.int .i64 b11),.v (.int .i64 b12)]:=fun _ h=>qg Vb QM Xy rfl rfl h
theorem fX {f:FuncId}{fn:Func}{b:Code}(hf:HR.funcs[f]?=some fn)(hn:(fn.name== "runtime.NumGoroutine")=false)(hb:fn.body=some b):Enters HR f:=fun args w=>by
 have h1:fn.name≠ "runtime.NumGoroutine" :=by simpa using hn
 simp[callFunc,hf,h1,hb]
theorem zZ {f:FuncId}{fn:Func}{b:Code}(hf:HR.funcs[f]?=some fn)(hn:(fn.name== "runtime.NumGoroutine")=false:=by kernel_rfl)(hb:fn.body=some b:=by exact rfl):Enters HR f:=fX hf hn hb
theorem KG:Enters HR 4:=zZ func4
theorem KF:Enters HR 5:=zZ func5
theorem KE:Enters HR 6:=zZ func6
theorem KD:Enters HR 7:=zZ func7
theorem KC:Enters HR 8:=zZ func8
theorem KB:Enters HR 9:=zZ func9
theorem WF:Enters HR 10:=zZ func10
theorem Oy:Enters HR 14:=zZ func14
theorem Ox:Enters HR 15:=zZ func15
theorem S9:Enters HR 16:=zZ func16
theorem WE:Enters HR 17:=zZ func17
theorem SQ:Enters HR 18:=zZ func18
theorem SJ:Enters HR 19:=zZ func19
theorem Ow:Enters HR 20:=zZ func20
theorem Ov:Enters HR 21:=zZ func21
theorem Ou:Enters HR 22:=zZ func22
theorem Ot:Enters HR 23:=zZ func23
theorem Oq:Enters HR 24:=zZ func24
theorem Oo:Enters HR 25:=zZ func25
theorem On:Enters HR 26:=zZ func26
theorem Om:Enters HR 27:=zZ func27
theorem Ol:Enters HR 28:=zZ func28
theorem Ok:Enters HR 29:=zZ func29
theorem Oj:Enters HR 30:=zZ func30
theorem Oi:Enters HR 31:=zZ func31
theorem Oh:Enters HR 32:=zZ func32
theorem Og:Enters HR 33:=zZ func33
theorem Of:Enters HR 34:=zZ func34
theorem Oe:Enters HR 35:=zZ func35
theorem Od:Enters HR 36:=zZ func36
theorem Oc:Enters HR 37:=zZ func37
theorem Ob:Enters HR 38:=zZ func38
theorem Oa:Enters HR 39:=zZ func39
theorem O9:Enters HR 43:=zZ func43
theorem U2:Enters HR 44:=zZ func44
theorem U1:Enters HR 45:=zZ func45
theorem jY:Enters HR 46:=zZ func46
theorem O8:Enters HR 47:=zZ func47
theorem O7:Enters HR 48:=zZ func48
theorem O6:Enters HR 49:=zZ func49
theorem O5:Enters HR 50:=zZ func50
theorem O4:Enters HR 51:=zZ func51
theorem O3:Enters HR 52:=zZ func52
theorem O2:Enters HR 53:=zZ func53
theorem U0:Enters HR 54:=zZ func54
theorem O1:Enters HR 55:=zZ func55
theorem O0:Enters HR 56:=zZ func56
theorem OZ:Enters HR 57:=zZ func57
theorem OY:Enters HR 58:=zZ func58
theorem OX:Enters HR 59:=zZ func59
theorem OW:Enters HR 62:=zZ func62
theorem OV:Enters HR 63:=zZ func63
theorem OU:Enters HR 64:=zZ func64
theorem OT:Enters HR 65:=zZ func65
theorem OS:Enters HR 66:=zZ func66
theorem UZ:Enters HR 67:=zZ func67
theorem OR:Enters HR 68:=zZ func68
theorem OQ:Enters HR 69:=zZ func69
theorem OP:Enters HR 70:=zZ func70
theorem OO:Enters HR 71:=zZ func71
theorem ON:Enters HR 72:=zZ func72
theorem OM:Enters HR 73:=zZ func73
theorem OL:Enters HR 74:=zZ func74
theorem OK:Enters HR 75:=zZ func75
theorem OJ:Enters HR 76:=zZ func76
theorem WD:Enters HR 77:=zZ func77
theorem OI:Enters HR 78:=zZ func78
theorem WC:Enters HR 79:=zZ func79
theorem OH:Enters HR 80:=zZ func80
theorem OG:Enters HR 81:=zZ func81
theorem UY:Enters HR 82:=zZ func82
theorem OF:Enters HR 83:=zZ func83
theorem OE:Enters HR 84:=zZ func84
theorem OD:Enters HR 85:=zZ func85
theorem OC:Enters HR 86:=zZ func86
theorem OB:Enters HR 87:=zZ func87
theorem OA:Enters HR 88:=zZ func88
theorem Pz:Enters HR 89:=zZ func89
theorem Py:Enters HR 90:=zZ func90
theorem Px:Enters HR 91:=zZ func91
theorem WB:Enters HR 92:=zZ func92
theorem Pw:Enters HR 94:=zZ func94
theorem Pv:Enters HR 95:=zZ func95
theorem Pu:Enters HR 96:=zZ func96
theorem Pt:Enters HR 97:=zZ func97
theorem Ps:Enters HR 98:=zZ func98
theorem UX:Enters HR 99:=zZ func99
theorem R8:Enters HR 100:=zZ func100
theorem R7:Enters HR 101:=zZ func101
theorem R6:Enters HR 102:=zZ func102
theorem RZ:Enters HR 103:=zZ func103
theorem RY:Enters HR 104:=zZ func104
theorem RX:Enters HR 105:=zZ func105
theorem RW:Enters HR 106:=zZ func106
theorem RV:Enters HR 107:=zZ func107
theorem RU:Enters HR 108:=zZ func108
theorem RT:Enters HR 109:=zZ func109
theorem RS:Enters HR 110:=zZ func110
theorem RQ:Enters HR 111:=zZ func111
theorem RP:Enters HR 112:=zZ func112
theorem RO:Enters HR 113:=zZ func113
theorem YQ:Enters HR 114:=zZ func114
theorem RN:Enters HR 115:=zZ func115
theorem RM:Enters HR 116:=zZ func116
theorem RL:Enters HR 117:=zZ func117
theorem RK:Enters HR 118:=zZ func118
theorem RJ:Enters HR 119:=zZ func119
theorem RI:Enters HR 120:=zZ func120
theorem RH:Enters HR 121:=zZ func121
theorem RG:Enters HR 122:=zZ func122
theorem RF:Enters HR 123:=zZ func123
theorem RE:Enters HR 124:=zZ func124
theorem RD:Enters HR 125:=zZ func125
theorem RC:Enters HR 126:=zZ func126
theorem RB:Enters HR 127:=zZ func127
theorem RA:Enters HR 128:=zZ func128
theorem Sz:Enters HR 129:=zZ func129
theorem Sy:Enters HR 130:=zZ func130
theorem Sx:Enters HR 131:=zZ func131
theorem Sw:Enters HR 132:=zZ func132
theorem Su:Enters HR 133:=zZ func133
theorem Ss:Enters HR 134:=zZ func134
theorem Sr:Enters HR 135:=zZ func135
theorem Sq:Enters HR 136:=zZ func136
theorem Sp:Enters HR 137:=zZ func137
theorem So:Enters HR 141:=zZ func141
theorem Sn:Enters HR 144:=zZ func144
theorem Sl:Enters HR 147:=zZ func147
theorem Sk:Enters HR 149:=zZ func149
theorem YP:Enters HR 150:=zZ func150
theorem Sj:Enters HR 151:=zZ func151
theorem Si:Enters HR 152:=zZ func152
theorem Sh:Enters HR 153:=zZ func153
theorem Sf:Enters HR 154:=zZ func154
theorem Se:Enters HR 155:=zZ func155
theorem Sd:Enters HR 156:=zZ func156
theorem Sc:Enters HR 157:=zZ func157
theorem Sb:Enters HR 158:=zZ func158
theorem Sa:Enters HR 159:=zZ func159
theorem S8:Enters HR 160:=zZ func160
theorem S7:Enters HR 161:=zZ func161
theorem S6:Enters HR 162:=zZ func162
theorem S5:Enters HR 163:=zZ func163
theorem YO:Enters HR 164:=zZ func164
theorem YN:Enters HR 165:=zZ func165
theorem S4:Enters HR 166:=zZ func166
theorem S2:Enters HR 167:=zZ func167
theorem S1:Enters HR 168:=zZ func168
theorem S0:Enters HR 169:=zZ func169
theorem YM:Enters HR 170:=zZ func170
theorem SZ:Enters HR 171:=zZ func171
theorem SY:Enters HR 172:=zZ func172
theorem SX:Enters HR 173:=zZ func173
theorem SW:Enters HR 174:=zZ func174
theorem SV:Enters HR 175:=zZ func175
theorem SU:Enters HR 176:=zZ func176
theorem ST:Enters HR 177:=zZ func177
theorem SS:Enters HR 178:=zZ func178
theorem SR:Enters HR 179:=zZ func179
theorem SP:Enters HR 180:=zZ func180
theorem SO:Enters HR 181:=zZ func181
theorem SN:Enters HR 182:=zZ func182
theorem YL:Enters HR 183:=zZ func183
theorem SM:Enters HR 184:=zZ func184
theorem YK:Enters HR 185:=zZ func185
theorem SL:Enters HR 186:=zZ func186
theorem YJ:Enters HR 187:=zZ func187
theorem SK:Enters HR 188:=zZ func188
theorem YI:Enters HR 189:=zZ func189
theorem SI:Enters HR 190:=zZ func190
theorem SH:Enters HR 191:=zZ func191
theorem YH:Enters HR 192:=zZ func192
theorem SG:Enters HR 193:=zZ func193
theorem SF:Enters HR 194:=zZ func194
theorem SE:Enters HR 195:=zZ func195
theorem YG:Enters HR 196:=zZ func196
theorem SD:Enters HR 197:=zZ func197
theorem SC:Enters HR 198:=zZ func198
theorem SB:Enters HR 199:=zZ func199
theorem SA:Enters HR 200:=zZ func200
theorem Tz:Enters HR 201:=zZ func201
theorem Ty:Enters HR 202:=zZ func202
theorem Tx:Enters HR 203:=zZ func203
theorem Tw:Enters HR 204:=zZ func204
theorem Tv:Enters HR 205:=zZ func205
theorem Tu:Enters HR 206:=zZ func206
theorem Ts:Enters HR 207:=zZ func207
theorem Tq:Enters HR 208:=zZ func208
theorem x7:Enters HR 209:=zZ func209
theorem Tp:Enters HR 210:=zZ func210
theorem To:Enters HR 211:=zZ func211
theorem Tn:Enters HR 212:=zZ func212
theorem Tm:Enters HR 213:=zZ func213
theorem Tl:Enters HR 214:=zZ func214
theorem Tk:Enters HR 215:=zZ func215
theorem Tj:Enters HR 216:=zZ func216
theorem Ti:Enters HR 217:=zZ func217
theorem Th:Enters HR 218:=zZ func218
theorem Tg:Enters HR 219:=zZ func219
theorem Te:Enters HR 220:=zZ func220
theorem YF:Enters HR 221:=zZ func221
theorem YE:Enters HR 222:=zZ func222
theorem Tb:Enters HR 223:=zZ func223
theorem Ta:Enters HR 224:=zZ func224
theorem T9:Enters HR 225:=zZ func225
theorem T8:Enters HR 226:=zZ func226
theorem T7:Enters HR 227:=zZ func227
theorem T6:Enters HR 228:=zZ func228
theorem T5:Enters HR 229:=zZ func229
theorem T4:Enters HR 230:=zZ func230
theorem T3:Enters HR 231:=zZ func231
theorem T2:Enters HR 232:=zZ func232
theorem T1:Enters HR 233:=zZ func233
theorem TZ:Enters HR 234:=zZ func234
theorem TX:Enters HR 235:=zZ func235
theorem TW:Enters HR 236:=zZ func236
theorem TV:Enters HR 237:=zZ func237
theorem TU:Enters HR 238:=zZ func238
theorem TS:Enters HR 239:=zZ func239
theorem TR:Enters HR 240:=zZ func240
theorem TQ:Enters HR 241:=zZ func241
theorem TP:Enters HR 242:=zZ func242
theorem TO:Enters HR 243:=zZ func243
theorem TN:Enters HR 244:=zZ func244
theorem TM:Enters HR 245:=zZ func245
theorem TL:Enters HR 246:=zZ func246
theorem TK:Enters HR 247:=zZ func247
theorem vr:Enters HR 248:=zZ func248
theorem TJ:Enters HR 249:=zZ func249
theorem TI:Enters HR 250:=zZ func250
theorem TH:Enters HR 251:=zZ func251
theorem TG:Enters HR 252:=zZ func252
theorem TF:Enters HR 253:=zZ func253
theorem TE:Enters HR 254:=zZ func254
theorem TD:Enters HR 255:=zZ func255
theorem YD:Enters HR 256:=zZ func256
theorem TC:Enters HR 257:=zZ func257
theorem TB:Enters HR 258:=zZ func258
theorem dr:Enters HR 259:=zZ func259
theorem TA:Enters HR 260:=zZ func260
theorem Uz:Enters HR 261:=zZ func261
theorem Uy:Enters HR 262:=zZ func262
theorem Ux:Enters HR 263:=zZ func263
theorem YC:Enters HR 264:=zZ func264
theorem Uw:Enters HR 265:=zZ func265
theorem Uv:Enters HR 266:=zZ func266
theorem Uu:Enters HR 267:=zZ func267
theorem Ut:Enters HR 268:=zZ func268
theorem Us:Enters HR 269:=zZ func269
theorem Ur:Enters HR 270:=zZ func270
theorem Uq:Enters HR 271:=zZ func271
theorem Up:Enters HR 272:=zZ func272
theorem Uo:Enters HR 273:=zZ func273
theorem Um:Enters HR 274:=zZ func274
theorem Ul:Enters HR 275:=zZ func275
theorem Uk:Enters HR 276:=zZ func276
theorem Uj:Enters HR 277:=zZ func277
theorem Ui:Enters HR 278:=zZ func278
theorem Uh:Enters HR 279:=zZ func279
theorem Ug:Enters HR 280:=zZ func280
theorem Uf:Enters HR 281:=zZ func281
theorem Ue:Enters HR 282:=zZ func282
theorem Ud:Enters HR 284:=zZ func284
theorem Uc:Enters HR 285:=zZ func285
theorem Ub:Enters HR 287:=zZ func287
theorem Ua:Enters HR 288:=zZ func288
theorem U9:Enters HR 289:=zZ func289
theorem U7:Enters HR 290:=zZ func290
theorem U6:Enters HR 291:=zZ func291
theorem U5:Enters HR 292:=zZ func292
theorem U4:Enters HR 293:=zZ func293
theorem U3:Enters HR 294:=zZ func294
theorem zi:HR.follows .mixedOrders=true:=by kernel_rfl
attribute [go_sem] ntmps4 ntmps5 ntmps6 ntmps7 ntmps8 ntmps9 ntmps10 ntmps14 ntmps15 ntmps16 ntmps17 ntmps18 ntmps19 ntmps20 ntmps21 ntmps22 ntmps23 ntmps24 ntmps25 ntmps26 ntmps27 ntmps28 ntmps29 ntmps30 ntmps31 ntmps32 ntmps33 ntmps34 ntmps35 ntmps36 ntmps37 ntmps38 ntmps39 ntmps43 ntmps44 ntmps45 ntmps46 ntmps47 ntmps48 ntmps49 ntmps50 ntmps51 ntmps52 ntmps53 ntmps54 ntmps55 ntmps56 ntmps57 ntmps58 ntmps59 ntmps62 ntmps63 ntmps64 ntmps65 ntmps66 ntmps67 ntmps68 ntmps69 ntmps70 ntmps71 ntmps72 ntmps73 ntmps74 ntmps75 ntmps76 ntmps77 ntmps78 ntmps79 ntmps80 ntmps81 ntmps82 ntmps83 ntmps84 ntmps85 ntmps86 ntmps87 ntmps88 ntmps89 ntmps90 ntmps91 ntmps92 ntmps94 ntmps95 ntmps96 ntmps97 ntmps98 ntmps99 ntmps100 ntmps101 ntmps102 ntmps103 ntmps104 ntmps105 ntmps106 ntmps107 ntmps108 ntmps109 ntmps110 ntmps111 ntmps112 ntmps113 ntmps114 ntmps115 ntmps116 ntmps117 ntmps118 ntmps119 ntmps120 ntmps121 ntmps122 ntmps123 ntmps124 ntmps125 ntmps126 ntmps127 ntmps128 ntmps129 ntmps130 ntmps131 ntmps132 ntmps133 ntmps134 ntmps135 ntmps136 ntmps137 ntmps141 ntmps144 ntmps147 ntmps149 ntmps150 ntmps151 ntmps152 ntmps153 ntmps154 ntmps155 ntmps156 ntmps157 ntmps158 ntmps159 ntmps160 ntmps161 ntmps162 ntmps163 ntmps164 ntmps165 ntmps166 ntmps167 ntmps168 ntmps169 ntmps170 ntmps171 ntmps172 ntmps173 ntmps174 ntmps175 ntmps176 ntmps177 ntmps178 ntmps179 ntmps180 ntmps181 ntmps182 ntmps183 ntmps184 ntmps185 ntmps186 ntmps187 ntmps188 ntmps189 ntmps190 ntmps191 ntmps192 ntmps193 ntmps194 ntmps195 ntmps196 ntmps197 ntmps198 ntmps199 ntmps200 ntmps201 ntmps202 ntmps203 ntmps204 ntmps205 ntmps206 ntmps207 ntmps208 ntmps209 ntmps210 ntmps211 ntmps212 ntmps213 ntmps214 ntmps215 ntmps216 ntmps217 ntmps218 ntmps219 ntmps220 ntmps221 ntmps222 ntmps223 ntmps224 ntmps225 ntmps226 ntmps227 ntmps228 ntmps229 ntmps230 ntmps231 ntmps232 ntmps233 ntmps234 ntmps235 ntmps236 ntmps237 ntmps238 ntmps239 ntmps240 ntmps241 ntmps242 ntmps243 ntmps244 ntmps245 ntmps246 ntmps247 ntmps248 ntmps249 ntmps250 ntmps251 ntmps252 ntmps253 ntmps254 ntmps255 ntmps256 ntmps257 ntmps258 ntmps259 ntmps260 ntmps261 ntmps262 ntmps263 ntmps264 ntmps265 ntmps266 ntmps267 ntmps268 ntmps269 ntmps270 ntmps271 ntmps272 ntmps273 ntmps274 ntmps275 ntmps276 ntmps277 ntmps278 ntmps279 ntmps280 ntmps281 ntmps282 ntmps284 ntmps285 ntmps287 ntmps288 ntmps289 ntmps290 ntmps291 ntmps292 ntmps293 ntmps294
end Tf
end Go.Proofs.YtbnkiacicnnmkaaGreat
