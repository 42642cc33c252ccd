/-
  NARROWER THAN 'FOR EVERY INPUT', by the rows' own cells (each row's printed sentence says how): FixedTexts: laid · UnitTexts: laid · UnitBack: laid · UnitProducts: laid · UnitGroup: laid · UnitNames: laid · UnitDerived: laid · UnitPowers: laid · UnitLaws: laid · FixedParses: laid · FixedReads: laid.
  DERIVED. THE GIVEN ROWS OF THIS SEAT. 11 by the template 'for every input the law returns true; each argument reads behind the call as it read before'; 0 by the template 'total and deterministic' (their statements: YtoioclmfjmgaaaaDoorTotals.lean).
  GIVEN WITH THE SEED: the statements are not yours to turn. If you find one false, say at which input.
  Laid BY PROGRAM, IN A SANDBOX (cutbox-rows.mjs): the forced cells as the released guide's own fill.sh prints them over the translation f154e7fbcad82da3… (all of the seat's roots in one cut). By AI agents, Wed Nov 11 2026. No macro, syntax, notation, axiom, sorry.
-/
import Derived.Test.YtoioclmfjmgaaaaDoorChecked
import GoSem.PinnedTables
import GoSem.Claim
import GoSem.ClaimJoined
import GoSem.ClaimMapViews
import Derived.JoinedTies
import Derived.KernelRfl
namespace Go.Proofs.YtoioclmfjmgaaaaDoor
/- THE CELL 'sum', in the pinned program and in every row, IS THE sha256 OF THE DUMP (.gsa) THAT YtoioclmfjmgaaaaDoorProg.lean LOADS. Nothing in Lean hashes anything: it is a label: what it is worth is what the hold of that sum in a sandbox is worth. -/
noncomputable def Tryd.pinned : Pinned := { name := "ytoioclmfjmgaaaadoor", sum := "f154e7fbcad82da3b5efb5a7a988cb0687828510fbb3597d98e6c153e08bbe95", checked := Tryd.checked }
namespace Rows
def none {H : Type} : Left H := { results := [], args := [] }

/- WHAT THE LISTED PACKAGE-LEVEL VARIABLES READ AS WHEN THE CALL BEGINS. Each datum BY PROGRAM (the guide's laid-datum.mjs) off the statement by which the dump's own 'gosem.cut.vars' lays the variable. In a bare row this is a premise. The card (YtoioclmfjmgaaaaDoorCards.lean) ties it to the program's text. -/
def laid_math_bits_deBruijn32tab {H : Type} : DataW H := .agg [.lit (.int .u8 0), .lit (.int .u8 1), .lit (.int .u8 28), .lit (.int .u8 2), .lit (.int .u8 29), .lit (.int .u8 14), .lit (.int .u8 24), .lit (.int .u8 3), .lit (.int .u8 30), .lit (.int .u8 22), .lit (.int .u8 20), .lit (.int .u8 15), .lit (.int .u8 25), .lit (.int .u8 17), .lit (.int .u8 4), .lit (.int .u8 8), .lit (.int .u8 31), .lit (.int .u8 27), .lit (.int .u8 13), .lit (.int .u8 23), .lit (.int .u8 21), .lit (.int .u8 19), .lit (.int .u8 16), .lit (.int .u8 7), .lit (.int .u8 26), .lit (.int .u8 12), .lit (.int .u8 18), .lit (.int .u8 6), .lit (.int .u8 11), .lit (.int .u8 5), .lit (.int .u8 10), .lit (.int .u8 9)]
def laid_math_bits_deBruijn64tab {H : Type} : DataW H := .agg [.lit (.int .u8 0), .lit (.int .u8 1), .lit (.int .u8 56), .lit (.int .u8 2), .lit (.int .u8 57), .lit (.int .u8 49), .lit (.int .u8 28), .lit (.int .u8 3), .lit (.int .u8 61), .lit (.int .u8 58), .lit (.int .u8 42), .lit (.int .u8 50), .lit (.int .u8 38), .lit (.int .u8 29), .lit (.int .u8 17), .lit (.int .u8 4), .lit (.int .u8 62), .lit (.int .u8 47), .lit (.int .u8 59), .lit (.int .u8 36), .lit (.int .u8 45), .lit (.int .u8 43), .lit (.int .u8 51), .lit (.int .u8 22), .lit (.int .u8 53), .lit (.int .u8 39), .lit (.int .u8 33), .lit (.int .u8 30), .lit (.int .u8 24), .lit (.int .u8 18), .lit (.int .u8 12), .lit (.int .u8 5), .lit (.int .u8 63), .lit (.int .u8 55), .lit (.int .u8 48), .lit (.int .u8 27), .lit (.int .u8 60), .lit (.int .u8 41), .lit (.int .u8 37), .lit (.int .u8 16), .lit (.int .u8 46), .lit (.int .u8 35), .lit (.int .u8 44), .lit (.int .u8 21), .lit (.int .u8 52), .lit (.int .u8 32), .lit (.int .u8 23), .lit (.int .u8 11), .lit (.int .u8 54), .lit (.int .u8 26), .lit (.int .u8 40), .lit (.int .u8 15), .lit (.int .u8 34), .lit (.int .u8 20), .lit (.int .u8 31), .lit (.int .u8 10), .lit (.int .u8 25), .lit (.int .u8 14), .lit (.int .u8 19), .lit (.int .u8 9), .lit (.int .u8 13), .lit (.int .u8 8), .lit (.int .u8 7), .lit (.int .u8 6)]
def laid_internal_strconv_uint64pow10 {H : Type} : DataW H := .agg [.lit (.int .u64 1), .lit (.int .u64 10), .lit (.int .u64 100), .lit (.int .u64 1000), .lit (.int .u64 10000), .lit (.int .u64 100000), .lit (.int .u64 1000000), .lit (.int .u64 10000000), .lit (.int .u64 100000000), .lit (.int .u64 1000000000), .lit (.int .u64 10000000000), .lit (.int .u64 100000000000), .lit (.int .u64 1000000000000), .lit (.int .u64 10000000000000), .lit (.int .u64 100000000000000), .lit (.int .u64 1000000000000000), .lit (.int .u64 10000000000000000), .lit (.int .u64 100000000000000000), .lit (.int .u64 1000000000000000000), .lit (.int .u64 10000000000000000000)]
def laid_magneto_fixed_tens {H : Type} : DataW H := .agg [.lit (.int .i64 1), .lit (.int .i64 10), .lit (.int .i64 100), .lit (.int .i64 1000), .lit (.int .i64 10000), .lit (.int .i64 100000), .lit (.int .i64 1000000)]
def laid_unicode_utf8_acceptRanges {H : Type} : DataW H := .agg [.agg [.lit (.int .u8 128), .lit (.int .u8 191)], .agg [.lit (.int .u8 160), .lit (.int .u8 191)], .agg [.lit (.int .u8 128), .lit (.int .u8 159)], .agg [.lit (.int .u8 144), .lit (.int .u8 191)], .agg [.lit (.int .u8 128), .lit (.int .u8 143)], .agg [.lit (.int .u8 0), .lit (.int .u8 0)], .agg [.lit (.int .u8 0), .lit (.int .u8 0)], .agg [.lit (.int .u8 0), .lit (.int .u8 0)], .agg [.lit (.int .u8 0), .lit (.int .u8 0)], .agg [.lit (.int .u8 0), .lit (.int .u8 0)], .agg [.lit (.int .u8 0), .lit (.int .u8 0)], .agg [.lit (.int .u8 0), .lit (.int .u8 0)], .agg [.lit (.int .u8 0), .lit (.int .u8 0)], .agg [.lit (.int .u8 0), .lit (.int .u8 0)], .agg [.lit (.int .u8 0), .lit (.int .u8 0)], .agg [.lit (.int .u8 0), .lit (.int .u8 0)]]
/-- One of Go's own tables, pinned by name: the form's constant. -/
def laid_unicode_utf8_first : DataW Unit := Go.Pinned.utf8First

/-- 'magnetolaw03.FixedTexts': WHATEVER THE INPUT: true; the input reads as it did. -/
def fixedTextsSpec : ChangeSpec := { name := "fixedTexts", fn := fun _ => fun
  | [d1, d2, d3] => { results := [.lit (.bool true)], args := [d1, d2, d3] }
  | _ => none }
def fixedTextsRow : OpenClaim := { program := "ytoioclmfjmgaaaadoor", sum := "f154e7fbcad82da3b5efb5a7a988cb0687828510fbb3597d98e6c153e08bbe95", func := "magneto/magnetolaw03.FixedTexts", spec := "fixedTexts", inPlace := ["internal/abi.NoEscape"], unfollowed := true, recurses := true, named := ["math/bits.divideError", "math/bits.overflowError", "magneto/fixed.tens", "internal/strconv.uint64pow10", "math/bits.deBruijn32tab", "math/bits.deBruijn64tab"], apart := false, laid := [("math/bits.deBruijn32tab", laid_math_bits_deBruijn32tab), ("math/bits.deBruijn64tab", laid_math_bits_deBruijn64tab), ("internal/strconv.uint64pow10", laid_internal_strconv_uint64pow10), ("magneto/fixed.tens", laid_magneto_fixed_tens)] }
def FixedTextsSaid : Prop := fixedTextsRow.holds Tryd.pinned (OpenSpec.ofChange fixedTextsSpec)

/-- ITS FALSE NEIGHBOUR: 'it returns false'. Refute it at one input. -/
def fixedTextsWrong : ChangeSpec := { name := "fixedTexts", fn := fun _ => fun
  | [d1, d2, d3] => { results := [.lit (.bool false)], args := [d1, d2, d3] }
  | _ => none }
def FixedTextsWrongFalsely : Prop := fixedTextsRow.holds Tryd.pinned (OpenSpec.ofChange fixedTextsWrong)

/-- 'magnetolaw02.UnitTexts': WHATEVER THE INPUT: true; the input reads as it did. -/
def unitTextsSpec : ChangeSpec := { name := "unitTexts", fn := fun _ => fun
  | [d1, d2] => { results := [.lit (.bool true)], args := [d1, d2] }
  | _ => none }
def unitTextsRow : OpenClaim := { program := "ytoioclmfjmgaaaadoor", sum := "f154e7fbcad82da3b5efb5a7a988cb0687828510fbb3597d98e6c153e08bbe95", func := "magneto/magnetolaw02.UnitTexts", spec := "unitTexts", inPlace := ["internal/bytealg.CountString", "internal/bytealg.IndexByteString", "internal/bytealg.IndexString", "internal/abi.NoEscape"], unfollowed := true, recurses := true, named := ["unicode/utf8.first", "unicode/utf8.acceptRanges", "internal/bytealg.MaxLen", "internal/strconv.uint64pow10", "math/bits.deBruijn32tab", "math/bits.deBruijn64tab"], apart := false, laid := [("math/bits.deBruijn32tab", laid_math_bits_deBruijn32tab), ("math/bits.deBruijn64tab", laid_math_bits_deBruijn64tab), ("internal/strconv.uint64pow10", laid_internal_strconv_uint64pow10), ("unicode/utf8.acceptRanges", laid_unicode_utf8_acceptRanges), ("unicode/utf8.first", laid_unicode_utf8_first)] }
def UnitTextsSaid : Prop := unitTextsRow.holds Tryd.pinned (OpenSpec.ofChange unitTextsSpec)

/-- ITS FALSE NEIGHBOUR: 'it returns false'. Refute it at one input. -/
def unitTextsWrong : ChangeSpec := { name := "unitTexts", fn := fun _ => fun
  | [d1, d2] => { results := [.lit (.bool false)], args := [d1, d2] }
  | _ => none }
def UnitTextsWrongFalsely : Prop := unitTextsRow.holds Tryd.pinned (OpenSpec.ofChange unitTextsWrong)

/-- 'magnetolaw02.UnitBack': WHATEVER THE INPUT: true; the input reads as it did. -/
def unitBackSpec : ChangeSpec := { name := "unitBack", fn := fun _ => fun
  | [d1, d2] => { results := [.lit (.bool true)], args := [d1, d2] }
  | _ => none }
def unitBackRow : OpenClaim := { program := "ytoioclmfjmgaaaadoor", sum := "f154e7fbcad82da3b5efb5a7a988cb0687828510fbb3597d98e6c153e08bbe95", func := "magneto/magnetolaw02.UnitBack", spec := "unitBack", inPlace := ["internal/bytealg.CountString", "internal/bytealg.IndexByteString", "internal/bytealg.IndexString", "internal/abi.NoEscape"], unfollowed := true, recurses := true, named := ["unicode/utf8.first", "unicode/utf8.acceptRanges", "internal/bytealg.MaxLen", "internal/strconv.uint64pow10", "math/bits.deBruijn32tab", "math/bits.deBruijn64tab"], apart := false, laid := [("math/bits.deBruijn32tab", laid_math_bits_deBruijn32tab), ("math/bits.deBruijn64tab", laid_math_bits_deBruijn64tab), ("internal/strconv.uint64pow10", laid_internal_strconv_uint64pow10), ("unicode/utf8.acceptRanges", laid_unicode_utf8_acceptRanges), ("unicode/utf8.first", laid_unicode_utf8_first)] }
def UnitBackSaid : Prop := unitBackRow.holds Tryd.pinned (OpenSpec.ofChange unitBackSpec)

/-- ITS FALSE NEIGHBOUR: 'it returns false'. Refute it at one input. -/
def unitBackWrong : ChangeSpec := { name := "unitBack", fn := fun _ => fun
  | [d1, d2] => { results := [.lit (.bool false)], args := [d1, d2] }
  | _ => none }
def UnitBackWrongFalsely : Prop := unitBackRow.holds Tryd.pinned (OpenSpec.ofChange unitBackWrong)

/-- 'magnetolaw02.UnitProducts': WHATEVER THE INPUT: true; the input reads as it did. -/
def unitProductsSpec : ChangeSpec := { name := "unitProducts", fn := fun _ => fun
  | [d1, d2] => { results := [.lit (.bool true)], args := [d1, d2] }
  | _ => none }
def unitProductsRow : OpenClaim := { program := "ytoioclmfjmgaaaadoor", sum := "f154e7fbcad82da3b5efb5a7a988cb0687828510fbb3597d98e6c153e08bbe95", func := "magneto/magnetolaw02.UnitProducts", spec := "unitProducts", inPlace := ["internal/bytealg.CountString", "internal/bytealg.IndexByteString", "internal/bytealg.IndexString", "internal/abi.NoEscape"], unfollowed := true, recurses := true, named := ["unicode/utf8.first", "unicode/utf8.acceptRanges", "internal/bytealg.MaxLen", "internal/strconv.uint64pow10", "math/bits.deBruijn32tab", "math/bits.deBruijn64tab"], apart := false, laid := [("math/bits.deBruijn32tab", laid_math_bits_deBruijn32tab), ("math/bits.deBruijn64tab", laid_math_bits_deBruijn64tab), ("internal/strconv.uint64pow10", laid_internal_strconv_uint64pow10), ("unicode/utf8.acceptRanges", laid_unicode_utf8_acceptRanges), ("unicode/utf8.first", laid_unicode_utf8_first)] }
def UnitProductsSaid : Prop := unitProductsRow.holds Tryd.pinned (OpenSpec.ofChange unitProductsSpec)

/-- ITS FALSE NEIGHBOUR: 'it returns false'. Refute it at one input. -/
def unitProductsWrong : ChangeSpec := { name := "unitProducts", fn := fun _ => fun
  | [d1, d2] => { results := [.lit (.bool false)], args := [d1, d2] }
  | _ => none }
def UnitProductsWrongFalsely : Prop := unitProductsRow.holds Tryd.pinned (OpenSpec.ofChange unitProductsWrong)

/-- 'magnetolaw02.UnitGroup': WHATEVER THE INPUT: true; the input reads as it did. -/
def unitGroupSpec : ChangeSpec := { name := "unitGroup", fn := fun _ => fun
  | [d1, d2, d3] => { results := [.lit (.bool true)], args := [d1, d2, d3] }
  | _ => none }
def unitGroupRow : OpenClaim := { program := "ytoioclmfjmgaaaadoor", sum := "f154e7fbcad82da3b5efb5a7a988cb0687828510fbb3597d98e6c153e08bbe95", func := "magneto/magnetolaw02.UnitGroup", spec := "unitGroup", inPlace := ["internal/bytealg.CountString", "internal/bytealg.IndexByteString", "internal/bytealg.IndexString", "internal/abi.NoEscape"], unfollowed := true, recurses := true, named := ["unicode/utf8.first", "unicode/utf8.acceptRanges", "internal/bytealg.MaxLen", "internal/strconv.uint64pow10", "math/bits.deBruijn32tab", "math/bits.deBruijn64tab"], apart := false, laid := [("math/bits.deBruijn32tab", laid_math_bits_deBruijn32tab), ("math/bits.deBruijn64tab", laid_math_bits_deBruijn64tab), ("internal/strconv.uint64pow10", laid_internal_strconv_uint64pow10), ("unicode/utf8.acceptRanges", laid_unicode_utf8_acceptRanges), ("unicode/utf8.first", laid_unicode_utf8_first)] }
def UnitGroupSaid : Prop := unitGroupRow.holds Tryd.pinned (OpenSpec.ofChange unitGroupSpec)

/-- ITS FALSE NEIGHBOUR: 'it returns false'. Refute it at one input. -/
def unitGroupWrong : ChangeSpec := { name := "unitGroup", fn := fun _ => fun
  | [d1, d2, d3] => { results := [.lit (.bool false)], args := [d1, d2, d3] }
  | _ => none }
def UnitGroupWrongFalsely : Prop := unitGroupRow.holds Tryd.pinned (OpenSpec.ofChange unitGroupWrong)

/-- 'magnetolaw02.UnitNames': WHATEVER THE INPUT: true; the input reads as it did. -/
def unitNamesSpec : ChangeSpec := { name := "unitNames", fn := fun _ => fun
  | [d1, d2] => { results := [.lit (.bool true)], args := [d1, d2] }
  | _ => none }
def unitNamesRow : OpenClaim := { program := "ytoioclmfjmgaaaadoor", sum := "f154e7fbcad82da3b5efb5a7a988cb0687828510fbb3597d98e6c153e08bbe95", func := "magneto/magnetolaw02.UnitNames", spec := "unitNames", inPlace := ["internal/bytealg.CountString", "internal/bytealg.IndexByteString", "internal/bytealg.IndexString", "internal/abi.NoEscape"], unfollowed := true, recurses := true, named := ["unicode/utf8.first", "unicode/utf8.acceptRanges", "internal/bytealg.MaxLen", "internal/strconv.uint64pow10", "math/bits.deBruijn32tab", "math/bits.deBruijn64tab"], apart := false, laid := [("math/bits.deBruijn32tab", laid_math_bits_deBruijn32tab), ("math/bits.deBruijn64tab", laid_math_bits_deBruijn64tab), ("internal/strconv.uint64pow10", laid_internal_strconv_uint64pow10), ("unicode/utf8.acceptRanges", laid_unicode_utf8_acceptRanges), ("unicode/utf8.first", laid_unicode_utf8_first)] }
def UnitNamesSaid : Prop := unitNamesRow.holds Tryd.pinned (OpenSpec.ofChange unitNamesSpec)

/-- ITS FALSE NEIGHBOUR: 'it returns false'. Refute it at one input. -/
def unitNamesWrong : ChangeSpec := { name := "unitNames", fn := fun _ => fun
  | [d1, d2] => { results := [.lit (.bool false)], args := [d1, d2] }
  | _ => none }
def UnitNamesWrongFalsely : Prop := unitNamesRow.holds Tryd.pinned (OpenSpec.ofChange unitNamesWrong)

/-- 'magnetolaw02.UnitDerived': WHATEVER THE INPUT: true; the input reads as it did. -/
def unitDerivedSpec : ChangeSpec := { name := "unitDerived", fn := fun _ => fun
  | [d] => { results := [.lit (.bool true)], args := [d] }
  | _ => none }
def unitDerivedRow : OpenClaim := { program := "ytoioclmfjmgaaaadoor", sum := "f154e7fbcad82da3b5efb5a7a988cb0687828510fbb3597d98e6c153e08bbe95", func := "magneto/magnetolaw02.UnitDerived", spec := "unitDerived", inPlace := ["internal/bytealg.CountString", "internal/bytealg.IndexByteString", "internal/bytealg.IndexString", "internal/abi.NoEscape"], unfollowed := true, recurses := true, named := ["unicode/utf8.first", "unicode/utf8.acceptRanges", "internal/bytealg.MaxLen", "internal/strconv.uint64pow10", "math/bits.deBruijn32tab", "math/bits.deBruijn64tab"], apart := false, laid := [("math/bits.deBruijn32tab", laid_math_bits_deBruijn32tab), ("math/bits.deBruijn64tab", laid_math_bits_deBruijn64tab), ("internal/strconv.uint64pow10", laid_internal_strconv_uint64pow10), ("unicode/utf8.acceptRanges", laid_unicode_utf8_acceptRanges), ("unicode/utf8.first", laid_unicode_utf8_first)] }
def UnitDerivedSaid : Prop := unitDerivedRow.holds Tryd.pinned (OpenSpec.ofChange unitDerivedSpec)

/-- ITS FALSE NEIGHBOUR: 'it returns false'. Refute it at one input. -/
def unitDerivedWrong : ChangeSpec := { name := "unitDerived", fn := fun _ => fun
  | [d] => { results := [.lit (.bool false)], args := [d] }
  | _ => none }
def UnitDerivedWrongFalsely : Prop := unitDerivedRow.holds Tryd.pinned (OpenSpec.ofChange unitDerivedWrong)

/-- 'magnetolaw02.UnitPowers': WHATEVER THE INPUT: true; the input reads as it did. -/
def unitPowersSpec : ChangeSpec := { name := "unitPowers", fn := fun _ => fun
  | [d1, d2] => { results := [.lit (.bool true)], args := [d1, d2] }
  | _ => none }
def unitPowersRow : OpenClaim := { program := "ytoioclmfjmgaaaadoor", sum := "f154e7fbcad82da3b5efb5a7a988cb0687828510fbb3597d98e6c153e08bbe95", func := "magneto/magnetolaw02.UnitPowers", spec := "unitPowers", inPlace := ["internal/bytealg.CountString", "internal/bytealg.IndexByteString", "internal/bytealg.IndexString", "internal/abi.NoEscape"], unfollowed := true, recurses := true, named := ["unicode/utf8.first", "unicode/utf8.acceptRanges", "internal/bytealg.MaxLen", "internal/strconv.uint64pow10", "math/bits.deBruijn32tab", "math/bits.deBruijn64tab"], apart := false, laid := [("math/bits.deBruijn32tab", laid_math_bits_deBruijn32tab), ("math/bits.deBruijn64tab", laid_math_bits_deBruijn64tab), ("internal/strconv.uint64pow10", laid_internal_strconv_uint64pow10), ("unicode/utf8.acceptRanges", laid_unicode_utf8_acceptRanges), ("unicode/utf8.first", laid_unicode_utf8_first)] }
def UnitPowersSaid : Prop := unitPowersRow.holds Tryd.pinned (OpenSpec.ofChange unitPowersSpec)

/-- ITS FALSE NEIGHBOUR: 'it returns false'. Refute it at one input. -/
def unitPowersWrong : ChangeSpec := { name := "unitPowers", fn := fun _ => fun
  | [d1, d2] => { results := [.lit (.bool false)], args := [d1, d2] }
  | _ => none }
def UnitPowersWrongFalsely : Prop := unitPowersRow.holds Tryd.pinned (OpenSpec.ofChange unitPowersWrong)

/-- 'magnetolaw02.UnitLaws': WHATEVER THE INPUT: true; the input reads as it did. -/
def unitLawsSpec : ChangeSpec := { name := "unitLaws", fn := fun _ => fun
  | [d1, d2, d3, d4] => { results := [.lit (.bool true)], args := [d1, d2, d3, d4] }
  | _ => none }
def unitLawsRow : OpenClaim := { program := "ytoioclmfjmgaaaadoor", sum := "f154e7fbcad82da3b5efb5a7a988cb0687828510fbb3597d98e6c153e08bbe95", func := "magneto/magnetolaw02.UnitLaws", spec := "unitLaws", inPlace := ["internal/bytealg.CountString", "internal/bytealg.IndexByteString", "internal/bytealg.IndexString", "internal/abi.NoEscape"], unfollowed := true, recurses := true, named := ["unicode/utf8.first", "unicode/utf8.acceptRanges", "internal/bytealg.MaxLen", "internal/strconv.uint64pow10", "math/bits.deBruijn32tab", "math/bits.deBruijn64tab"], apart := false, laid := [("math/bits.deBruijn32tab", laid_math_bits_deBruijn32tab), ("math/bits.deBruijn64tab", laid_math_bits_deBruijn64tab), ("internal/strconv.uint64pow10", laid_internal_strconv_uint64pow10), ("unicode/utf8.acceptRanges", laid_unicode_utf8_acceptRanges), ("unicode/utf8.first", laid_unicode_utf8_first)] }
def UnitLawsSaid : Prop := unitLawsRow.holds Tryd.pinned (OpenSpec.ofChange unitLawsSpec)

/-- ITS FALSE NEIGHBOUR: 'it returns false'. Refute it at one input. -/
def unitLawsWrong : ChangeSpec := { name := "unitLaws", fn := fun _ => fun
  | [d1, d2, d3, d4] => { results := [.lit (.bool false)], args := [d1, d2, d3, d4] }
  | _ => none }
def UnitLawsWrongFalsely : Prop := unitLawsRow.holds Tryd.pinned (OpenSpec.ofChange unitLawsWrong)

/-- 'magnetolaw03.FixedParses': WHATEVER THE INPUT: true; the input reads as it did. -/
def fixedParsesSpec : ChangeSpec := { name := "fixedParses", fn := fun _ => fun
  | [d1, d2] => { results := [.lit (.bool true)], args := [d1, d2] }
  | _ => none }
def fixedParsesRow : OpenClaim := { program := "ytoioclmfjmgaaaadoor", sum := "f154e7fbcad82da3b5efb5a7a988cb0687828510fbb3597d98e6c153e08bbe95", func := "magneto/magnetolaw03.FixedParses", spec := "fixedParses", inPlace := ["internal/bytealg.IndexByteString", "internal/bytealg.IndexString", "internal/bytealg.CountString", "internal/abi.NoEscape"], unfollowed := true, recurses := true, named := ["math/bits.divideError", "math/bits.overflowError", "internal/bytealg.MaxLen", "magneto/fixed.tens", "unicode/utf8.first", "unicode/utf8.acceptRanges", "internal/strconv.uint64pow10", "math/bits.deBruijn32tab", "math/bits.deBruijn64tab"], apart := false, laid := [("math/bits.deBruijn32tab", laid_math_bits_deBruijn32tab), ("math/bits.deBruijn64tab", laid_math_bits_deBruijn64tab), ("internal/strconv.uint64pow10", laid_internal_strconv_uint64pow10), ("unicode/utf8.acceptRanges", laid_unicode_utf8_acceptRanges), ("magneto/fixed.tens", laid_magneto_fixed_tens), ("unicode/utf8.first", laid_unicode_utf8_first)] }
def FixedParsesSaid : Prop := fixedParsesRow.holds Tryd.pinned (OpenSpec.ofChange fixedParsesSpec)

/-- ITS FALSE NEIGHBOUR: 'it returns false'. Refute it at one input. -/
def fixedParsesWrong : ChangeSpec := { name := "fixedParses", fn := fun _ => fun
  | [d1, d2] => { results := [.lit (.bool false)], args := [d1, d2] }
  | _ => none }
def FixedParsesWrongFalsely : Prop := fixedParsesRow.holds Tryd.pinned (OpenSpec.ofChange fixedParsesWrong)

/-- 'magnetolaw03.FixedReads': WHATEVER THE INPUT: true; the input reads as it did. -/
def fixedReadsSpec : ChangeSpec := { name := "fixedReads", fn := fun _ => fun
  | [d1, d2] => { results := [.lit (.bool true)], args := [d1, d2] }
  | _ => none }
def fixedReadsRow : OpenClaim := { program := "ytoioclmfjmgaaaadoor", sum := "f154e7fbcad82da3b5efb5a7a988cb0687828510fbb3597d98e6c153e08bbe95", func := "magneto/magnetolaw03.FixedReads", spec := "fixedReads", inPlace := ["internal/abi.NoEscape", "internal/bytealg.IndexByteString", "internal/bytealg.IndexString", "internal/bytealg.CountString"], unfollowed := true, recurses := true, named := ["math/bits.divideError", "math/bits.overflowError", "magneto/fixed.tens", "internal/strconv.uint64pow10", "math/bits.deBruijn32tab", "math/bits.deBruijn64tab", "internal/bytealg.MaxLen", "unicode/utf8.first", "unicode/utf8.acceptRanges"], apart := false, laid := [("math/bits.deBruijn32tab", laid_math_bits_deBruijn32tab), ("math/bits.deBruijn64tab", laid_math_bits_deBruijn64tab), ("internal/strconv.uint64pow10", laid_internal_strconv_uint64pow10), ("unicode/utf8.acceptRanges", laid_unicode_utf8_acceptRanges), ("magneto/fixed.tens", laid_magneto_fixed_tens), ("unicode/utf8.first", laid_unicode_utf8_first)] }
def FixedReadsSaid : Prop := fixedReadsRow.holds Tryd.pinned (OpenSpec.ofChange fixedReadsSpec)

/-- ITS FALSE NEIGHBOUR: 'it returns false'. Refute it at one input. -/
def fixedReadsWrong : ChangeSpec := { name := "fixedReads", fn := fun _ => fun
  | [d1, d2] => { results := [.lit (.bool false)], args := [d1, d2] }
  | _ => none }
def FixedReadsWrongFalsely : Prop := fixedReadsRow.holds Tryd.pinned (OpenSpec.ofChange fixedReadsWrong)

/- THE SECOND FORM. 'bulk': how many values and letters a reading holds, each counted each time it is reached (what is shared counts as often as it is met; a slice's spare places count too). A statement '..UptoSaid' is the law's where the arguments, and the package variables that the reading takes, are together of bulk at most 1048576: NARROWER than '..Said'. Prove '..Said' where nothing that the law and all that it calls make is longer than what came in: it says more and counts as full. Else prove '..UptoSaid'. A law counts once. -/
mutual
def uptoBulk {H : Type} : DataW H → Nat
  | .lit (.string bytes) => bytes.length + 1
  | .lit _ => 1
  | .nil => 1
  | .ptr d => uptoBulk d + 1
  | .slice elems spare => uptoBulkAll elems + uptoBulkAll spare + 1
  | .agg parts => uptoBulkAll parts + 1
  | .iface _ d => uptoBulk d + 1
  | .map entries => uptoBulkEntries entries + 1
  | .held _ => 1
def uptoBulkAll {H : Type} : List (DataW H) → Nat
  | [] => 0
  | d :: r => uptoBulk d + uptoBulkAll r
def uptoBulkEntries {H : Type} : List (Lit × DataW H) → Nat
  | [] => 0
  | x :: r => uptoBulkEntry x + uptoBulkEntries r
def uptoBulkEntry {H : Type} : Lit × DataW H → Nat
  | (.string bytes, d) => bytes.length + uptoBulk d + 1
  | (_, d) => uptoBulk d + 1
 end
def uptoSmall : (H : Type) → List (DataW H) → Bool := fun _ ds => decide (uptoBulkAll ds ≤ 1048576)
def OpenSpec.upto (s : _root_.Go.ChangeSpec) : _root_.Go.OpenSpec := { _root_.Go.OpenSpec.ofChange s with cond := some uptoSmall }

/-- 'magnetolaw03.FixedTexts', WHERE WHAT IT READS IS OF BULK AT MOST 1048576: true; the input reads as it did. -/
def fixedTextsUptoRow : OpenClaim := { program := "ytoioclmfjmgaaaadoor", sum := "f154e7fbcad82da3b5efb5a7a988cb0687828510fbb3597d98e6c153e08bbe95", func := "magneto/magnetolaw03.FixedTexts", spec := "fixedTexts", inPlace := ["internal/abi.NoEscape"], unfollowed := true, recurses := true, named := ["math/bits.divideError", "math/bits.overflowError", "magneto/fixed.tens", "internal/strconv.uint64pow10", "math/bits.deBruijn32tab", "math/bits.deBruijn64tab"], apart := false, laid := [("math/bits.deBruijn32tab", laid_math_bits_deBruijn32tab), ("math/bits.deBruijn64tab", laid_math_bits_deBruijn64tab), ("internal/strconv.uint64pow10", laid_internal_strconv_uint64pow10), ("magneto/fixed.tens", laid_magneto_fixed_tens)], narrowed := true }
def FixedTextsUptoSaid : Prop := fixedTextsUptoRow.holds Tryd.pinned (OpenSpec.upto fixedTextsSpec)

/-- 'magnetolaw02.UnitTexts', WHERE WHAT IT READS IS OF BULK AT MOST 1048576: true; the input reads as it did. -/
def unitTextsUptoRow : OpenClaim := { program := "ytoioclmfjmgaaaadoor", sum := "f154e7fbcad82da3b5efb5a7a988cb0687828510fbb3597d98e6c153e08bbe95", func := "magneto/magnetolaw02.UnitTexts", spec := "unitTexts", inPlace := ["internal/bytealg.CountString", "internal/bytealg.IndexByteString", "internal/bytealg.IndexString", "internal/abi.NoEscape"], unfollowed := true, recurses := true, named := ["unicode/utf8.first", "unicode/utf8.acceptRanges", "internal/bytealg.MaxLen", "internal/strconv.uint64pow10", "math/bits.deBruijn32tab", "math/bits.deBruijn64tab"], apart := false, laid := [("math/bits.deBruijn32tab", laid_math_bits_deBruijn32tab), ("math/bits.deBruijn64tab", laid_math_bits_deBruijn64tab), ("internal/strconv.uint64pow10", laid_internal_strconv_uint64pow10), ("unicode/utf8.acceptRanges", laid_unicode_utf8_acceptRanges), ("unicode/utf8.first", laid_unicode_utf8_first)], narrowed := true }
def UnitTextsUptoSaid : Prop := unitTextsUptoRow.holds Tryd.pinned (OpenSpec.upto unitTextsSpec)

/-- 'magnetolaw02.UnitBack', WHERE WHAT IT READS IS OF BULK AT MOST 1048576: true; the input reads as it did. -/
def unitBackUptoRow : OpenClaim := { program := "ytoioclmfjmgaaaadoor", sum := "f154e7fbcad82da3b5efb5a7a988cb0687828510fbb3597d98e6c153e08bbe95", func := "magneto/magnetolaw02.UnitBack", spec := "unitBack", inPlace := ["internal/bytealg.CountString", "internal/bytealg.IndexByteString", "internal/bytealg.IndexString", "internal/abi.NoEscape"], unfollowed := true, recurses := true, named := ["unicode/utf8.first", "unicode/utf8.acceptRanges", "internal/bytealg.MaxLen", "internal/strconv.uint64pow10", "math/bits.deBruijn32tab", "math/bits.deBruijn64tab"], apart := false, laid := [("math/bits.deBruijn32tab", laid_math_bits_deBruijn32tab), ("math/bits.deBruijn64tab", laid_math_bits_deBruijn64tab), ("internal/strconv.uint64pow10", laid_internal_strconv_uint64pow10), ("unicode/utf8.acceptRanges", laid_unicode_utf8_acceptRanges), ("unicode/utf8.first", laid_unicode_utf8_first)], narrowed := true }
def UnitBackUptoSaid : Prop := unitBackUptoRow.holds Tryd.pinned (OpenSpec.upto unitBackSpec)

/-- 'magnetolaw02.UnitProducts', WHERE WHAT IT READS IS OF BULK AT MOST 1048576: true; the input reads as it did. -/
def unitProductsUptoRow : OpenClaim := { program := "ytoioclmfjmgaaaadoor", sum := "f154e7fbcad82da3b5efb5a7a988cb0687828510fbb3597d98e6c153e08bbe95", func := "magneto/magnetolaw02.UnitProducts", spec := "unitProducts", inPlace := ["internal/bytealg.CountString", "internal/bytealg.IndexByteString", "internal/bytealg.IndexString", "internal/abi.NoEscape"], unfollowed := true, recurses := true, named := ["unicode/utf8.first", "unicode/utf8.acceptRanges", "internal/bytealg.MaxLen", "internal/strconv.uint64pow10", "math/bits.deBruijn32tab", "math/bits.deBruijn64tab"], apart := false, laid := [("math/bits.deBruijn32tab", laid_math_bits_deBruijn32tab), ("math/bits.deBruijn64tab", laid_math_bits_deBruijn64tab), ("internal/strconv.uint64pow10", laid_internal_strconv_uint64pow10), ("unicode/utf8.acceptRanges", laid_unicode_utf8_acceptRanges), ("unicode/utf8.first", laid_unicode_utf8_first)], narrowed := true }
def UnitProductsUptoSaid : Prop := unitProductsUptoRow.holds Tryd.pinned (OpenSpec.upto unitProductsSpec)

/-- 'magnetolaw02.UnitGroup', WHERE WHAT IT READS IS OF BULK AT MOST 1048576: true; the input reads as it did. -/
def unitGroupUptoRow : OpenClaim := { program := "ytoioclmfjmgaaaadoor", sum := "f154e7fbcad82da3b5efb5a7a988cb0687828510fbb3597d98e6c153e08bbe95", func := "magneto/magnetolaw02.UnitGroup", spec := "unitGroup", inPlace := ["internal/bytealg.CountString", "internal/bytealg.IndexByteString", "internal/bytealg.IndexString", "internal/abi.NoEscape"], unfollowed := true, recurses := true, named := ["unicode/utf8.first", "unicode/utf8.acceptRanges", "internal/bytealg.MaxLen", "internal/strconv.uint64pow10", "math/bits.deBruijn32tab", "math/bits.deBruijn64tab"], apart := false, laid := [("math/bits.deBruijn32tab", laid_math_bits_deBruijn32tab), ("math/bits.deBruijn64tab", laid_math_bits_deBruijn64tab), ("internal/strconv.uint64pow10", laid_internal_strconv_uint64pow10), ("unicode/utf8.acceptRanges", laid_unicode_utf8_acceptRanges), ("unicode/utf8.first", laid_unicode_utf8_first)], narrowed := true }
def UnitGroupUptoSaid : Prop := unitGroupUptoRow.holds Tryd.pinned (OpenSpec.upto unitGroupSpec)

/-- 'magnetolaw02.UnitNames', WHERE WHAT IT READS IS OF BULK AT MOST 1048576: true; the input reads as it did. -/
def unitNamesUptoRow : OpenClaim := { program := "ytoioclmfjmgaaaadoor", sum := "f154e7fbcad82da3b5efb5a7a988cb0687828510fbb3597d98e6c153e08bbe95", func := "magneto/magnetolaw02.UnitNames", spec := "unitNames", inPlace := ["internal/bytealg.CountString", "internal/bytealg.IndexByteString", "internal/bytealg.IndexString", "internal/abi.NoEscape"], unfollowed := true, recurses := true, named := ["unicode/utf8.first", "unicode/utf8.acceptRanges", "internal/bytealg.MaxLen", "internal/strconv.uint64pow10", "math/bits.deBruijn32tab", "math/bits.deBruijn64tab"], apart := false, laid := [("math/bits.deBruijn32tab", laid_math_bits_deBruijn32tab), ("math/bits.deBruijn64tab", laid_math_bits_deBruijn64tab), ("internal/strconv.uint64pow10", laid_internal_strconv_uint64pow10), ("unicode/utf8.acceptRanges", laid_unicode_utf8_acceptRanges), ("unicode/utf8.first", laid_unicode_utf8_first)], narrowed := true }
def UnitNamesUptoSaid : Prop := unitNamesUptoRow.holds Tryd.pinned (OpenSpec.upto unitNamesSpec)

/-- 'magnetolaw02.UnitDerived', WHERE WHAT IT READS IS OF BULK AT MOST 1048576: true; the input reads as it did. -/
def unitDerivedUptoRow : OpenClaim := { program := "ytoioclmfjmgaaaadoor", sum := "f154e7fbcad82da3b5efb5a7a988cb0687828510fbb3597d98e6c153e08bbe95", func := "magneto/magnetolaw02.UnitDerived", spec := "unitDerived", inPlace := ["internal/bytealg.CountString", "internal/bytealg.IndexByteString", "internal/bytealg.IndexString", "internal/abi.NoEscape"], unfollowed := true, recurses := true, named := ["unicode/utf8.first", "unicode/utf8.acceptRanges", "internal/bytealg.MaxLen", "internal/strconv.uint64pow10", "math/bits.deBruijn32tab", "math/bits.deBruijn64tab"], apart := false, laid := [("math/bits.deBruijn32tab", laid_math_bits_deBruijn32tab), ("math/bits.deBruijn64tab", laid_math_bits_deBruijn64tab), ("internal/strconv.uint64pow10", laid_internal_strconv_uint64pow10), ("unicode/utf8.acceptRanges", laid_unicode_utf8_acceptRanges), ("unicode/utf8.first", laid_unicode_utf8_first)], narrowed := true }
def UnitDerivedUptoSaid : Prop := unitDerivedUptoRow.holds Tryd.pinned (OpenSpec.upto unitDerivedSpec)

/-- 'magnetolaw02.UnitPowers', WHERE WHAT IT READS IS OF BULK AT MOST 1048576: true; the input reads as it did. -/
def unitPowersUptoRow : OpenClaim := { program := "ytoioclmfjmgaaaadoor", sum := "f154e7fbcad82da3b5efb5a7a988cb0687828510fbb3597d98e6c153e08bbe95", func := "magneto/magnetolaw02.UnitPowers", spec := "unitPowers", inPlace := ["internal/bytealg.CountString", "internal/bytealg.IndexByteString", "internal/bytealg.IndexString", "internal/abi.NoEscape"], unfollowed := true, recurses := true, named := ["unicode/utf8.first", "unicode/utf8.acceptRanges", "internal/bytealg.MaxLen", "internal/strconv.uint64pow10", "math/bits.deBruijn32tab", "math/bits.deBruijn64tab"], apart := false, laid := [("math/bits.deBruijn32tab", laid_math_bits_deBruijn32tab), ("math/bits.deBruijn64tab", laid_math_bits_deBruijn64tab), ("internal/strconv.uint64pow10", laid_internal_strconv_uint64pow10), ("unicode/utf8.acceptRanges", laid_unicode_utf8_acceptRanges), ("unicode/utf8.first", laid_unicode_utf8_first)], narrowed := true }
def UnitPowersUptoSaid : Prop := unitPowersUptoRow.holds Tryd.pinned (OpenSpec.upto unitPowersSpec)

/-- 'magnetolaw02.UnitLaws', WHERE WHAT IT READS IS OF BULK AT MOST 1048576: true; the input reads as it did. -/
def unitLawsUptoRow : OpenClaim := { program := "ytoioclmfjmgaaaadoor", sum := "f154e7fbcad82da3b5efb5a7a988cb0687828510fbb3597d98e6c153e08bbe95", func := "magneto/magnetolaw02.UnitLaws", spec := "unitLaws", inPlace := ["internal/bytealg.CountString", "internal/bytealg.IndexByteString", "internal/bytealg.IndexString", "internal/abi.NoEscape"], unfollowed := true, recurses := true, named := ["unicode/utf8.first", "unicode/utf8.acceptRanges", "internal/bytealg.MaxLen", "internal/strconv.uint64pow10", "math/bits.deBruijn32tab", "math/bits.deBruijn64tab"], apart := false, laid := [("math/bits.deBruijn32tab", laid_math_bits_deBruijn32tab), ("math/bits.deBruijn64tab", laid_math_bits_deBruijn64tab), ("internal/strconv.uint64pow10", laid_internal_strconv_uint64pow10), ("unicode/utf8.acceptRanges", laid_unicode_utf8_acceptRanges), ("unicode/utf8.first", laid_unicode_utf8_first)], narrowed := true }
def UnitLawsUptoSaid : Prop := unitLawsUptoRow.holds Tryd.pinned (OpenSpec.upto unitLawsSpec)

/-- 'magnetolaw03.FixedParses', WHERE WHAT IT READS IS OF BULK AT MOST 1048576: true; the input reads as it did. -/
def fixedParsesUptoRow : OpenClaim := { program := "ytoioclmfjmgaaaadoor", sum := "f154e7fbcad82da3b5efb5a7a988cb0687828510fbb3597d98e6c153e08bbe95", func := "magneto/magnetolaw03.FixedParses", spec := "fixedParses", inPlace := ["internal/bytealg.IndexByteString", "internal/bytealg.IndexString", "internal/bytealg.CountString", "internal/abi.NoEscape"], unfollowed := true, recurses := true, named := ["math/bits.divideError", "math/bits.overflowError", "internal/bytealg.MaxLen", "magneto/fixed.tens", "unicode/utf8.first", "unicode/utf8.acceptRanges", "internal/strconv.uint64pow10", "math/bits.deBruijn32tab", "math/bits.deBruijn64tab"], apart := false, laid := [("math/bits.deBruijn32tab", laid_math_bits_deBruijn32tab), ("math/bits.deBruijn64tab", laid_math_bits_deBruijn64tab), ("internal/strconv.uint64pow10", laid_internal_strconv_uint64pow10), ("unicode/utf8.acceptRanges", laid_unicode_utf8_acceptRanges), ("magneto/fixed.tens", laid_magneto_fixed_tens), ("unicode/utf8.first", laid_unicode_utf8_first)], narrowed := true }
def FixedParsesUptoSaid : Prop := fixedParsesUptoRow.holds Tryd.pinned (OpenSpec.upto fixedParsesSpec)

/-- 'magnetolaw03.FixedReads', WHERE WHAT IT READS IS OF BULK AT MOST 1048576: true; the input reads as it did. -/
def fixedReadsUptoRow : OpenClaim := { program := "ytoioclmfjmgaaaadoor", sum := "f154e7fbcad82da3b5efb5a7a988cb0687828510fbb3597d98e6c153e08bbe95", func := "magneto/magnetolaw03.FixedReads", spec := "fixedReads", inPlace := ["internal/abi.NoEscape", "internal/bytealg.IndexByteString", "internal/bytealg.IndexString", "internal/bytealg.CountString"], unfollowed := true, recurses := true, named := ["math/bits.divideError", "math/bits.overflowError", "magneto/fixed.tens", "internal/strconv.uint64pow10", "math/bits.deBruijn32tab", "math/bits.deBruijn64tab", "internal/bytealg.MaxLen", "unicode/utf8.first", "unicode/utf8.acceptRanges"], apart := false, laid := [("math/bits.deBruijn32tab", laid_math_bits_deBruijn32tab), ("math/bits.deBruijn64tab", laid_math_bits_deBruijn64tab), ("internal/strconv.uint64pow10", laid_internal_strconv_uint64pow10), ("unicode/utf8.acceptRanges", laid_unicode_utf8_acceptRanges), ("magneto/fixed.tens", laid_magneto_fixed_tens), ("unicode/utf8.first", laid_unicode_utf8_first)], narrowed := true }
def FixedReadsUptoSaid : Prop := fixedReadsUptoRow.holds Tryd.pinned (OpenSpec.upto fixedReadsSpec)

end Rows
end Go.Proofs.YtoioclmfjmgaaaaDoor
