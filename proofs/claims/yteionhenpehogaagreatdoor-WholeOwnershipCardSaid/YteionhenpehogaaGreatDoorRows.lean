/-
  NARROWER THAN 'FOR EVERY INPUT', by the rows' own cells (each row's printed sentence says how): WholeDilution: laid · WholeOwnership: laid · LinearSolves: laid · LinearMeasures: laid · LinearApplies: laid · ShareEffective: laid · ShareSingle: laid · ShareRest: laid · ShareOutside: laid · ShareWhole: laid · ShareCheck: laid · ShareChains: laid.
  DERIVED. THE GIVEN ROWS OF THIS SEAT. 12 by the template 'for every input the law returns true; each argument reads behind the call as it read before'; 0 by the template 'total and deterministic' (their statements: YteionhenpehogaaGreatDoorTotals.lean).
  GIVEN WITH THE SEED: the statements are not yours to turn. If you find one false, say at which input.
  Laid BY PROGRAM, IN A SANDBOX (cutbox-rows.mjs): the forced cells as the released guide's own fill.sh prints them over the translation 64a0badee476a0d9… (all of the seat's roots in one cut). By AI agents, Wed Nov 11 2026. No macro, syntax, notation, axiom, sorry.
-/
import Derived.Test.YteionhenpehogaaGreatDoorChecked
import GoSem.Claim
import GoSem.ClaimJoined
import GoSem.ClaimMapViews
import Derived.JoinedTies
import Derived.KernelRfl
namespace Go.Proofs.YteionhenpehogaaGreatDoor
/- THE CELL 'sum', in the pinned program and in every row, IS THE sha256 OF THE DUMP (.gsa) THAT YteionhenpehogaaGreatDoorProg.lean LOADS. Nothing in Lean hashes anything: it is a label: what it is worth is what the hold of that sum in a sandbox is worth. -/
noncomputable def Tryz.pinned : Pinned := { name := "yteionhenpehogaagreatdoor", sum := "64a0badee476a0d9fd7d01331a41c7819d75c79827403c2972f170b1911ddb82", checked := Tryz.checked }
namespace Rows
def none {H : Type} : Left H := { results := [], args := [] }

/- WHAT THE LISTED PACKAGE-LEVEL VARIABLES READ AS WHEN THE CALL BEGINS. Each datum BY PROGRAM (the guide's laid-datum.mjs) off the statement by which the dump's own 'gosem.cut.vars' lays the variable. In a bare row this is a premise. The card (YteionhenpehogaaGreatDoorCards.lean) ties it to the program's text. -/
def laid_math_bits_deBruijn32tab {H : Type} : DataW H := .agg [.lit (.int .u8 0), .lit (.int .u8 1), .lit (.int .u8 28), .lit (.int .u8 2), .lit (.int .u8 29), .lit (.int .u8 14), .lit (.int .u8 24), .lit (.int .u8 3), .lit (.int .u8 30), .lit (.int .u8 22), .lit (.int .u8 20), .lit (.int .u8 15), .lit (.int .u8 25), .lit (.int .u8 17), .lit (.int .u8 4), .lit (.int .u8 8), .lit (.int .u8 31), .lit (.int .u8 27), .lit (.int .u8 13), .lit (.int .u8 23), .lit (.int .u8 21), .lit (.int .u8 19), .lit (.int .u8 16), .lit (.int .u8 7), .lit (.int .u8 26), .lit (.int .u8 12), .lit (.int .u8 18), .lit (.int .u8 6), .lit (.int .u8 11), .lit (.int .u8 5), .lit (.int .u8 10), .lit (.int .u8 9)]
def laid_math_bits_deBruijn64tab {H : Type} : DataW H := .agg [.lit (.int .u8 0), .lit (.int .u8 1), .lit (.int .u8 56), .lit (.int .u8 2), .lit (.int .u8 57), .lit (.int .u8 49), .lit (.int .u8 28), .lit (.int .u8 3), .lit (.int .u8 61), .lit (.int .u8 58), .lit (.int .u8 42), .lit (.int .u8 50), .lit (.int .u8 38), .lit (.int .u8 29), .lit (.int .u8 17), .lit (.int .u8 4), .lit (.int .u8 62), .lit (.int .u8 47), .lit (.int .u8 59), .lit (.int .u8 36), .lit (.int .u8 45), .lit (.int .u8 43), .lit (.int .u8 51), .lit (.int .u8 22), .lit (.int .u8 53), .lit (.int .u8 39), .lit (.int .u8 33), .lit (.int .u8 30), .lit (.int .u8 24), .lit (.int .u8 18), .lit (.int .u8 12), .lit (.int .u8 5), .lit (.int .u8 63), .lit (.int .u8 55), .lit (.int .u8 48), .lit (.int .u8 27), .lit (.int .u8 60), .lit (.int .u8 41), .lit (.int .u8 37), .lit (.int .u8 16), .lit (.int .u8 46), .lit (.int .u8 35), .lit (.int .u8 44), .lit (.int .u8 21), .lit (.int .u8 52), .lit (.int .u8 32), .lit (.int .u8 23), .lit (.int .u8 11), .lit (.int .u8 54), .lit (.int .u8 26), .lit (.int .u8 40), .lit (.int .u8 15), .lit (.int .u8 34), .lit (.int .u8 20), .lit (.int .u8 31), .lit (.int .u8 10), .lit (.int .u8 25), .lit (.int .u8 14), .lit (.int .u8 19), .lit (.int .u8 9), .lit (.int .u8 13), .lit (.int .u8 8), .lit (.int .u8 7), .lit (.int .u8 6)]
def laid_internal_strconv_uint64pow10 {H : Type} : DataW H := .agg [.lit (.int .u64 1), .lit (.int .u64 10), .lit (.int .u64 100), .lit (.int .u64 1000), .lit (.int .u64 10000), .lit (.int .u64 100000), .lit (.int .u64 1000000), .lit (.int .u64 10000000), .lit (.int .u64 100000000), .lit (.int .u64 1000000000), .lit (.int .u64 10000000000), .lit (.int .u64 100000000000), .lit (.int .u64 1000000000000), .lit (.int .u64 10000000000000), .lit (.int .u64 100000000000000), .lit (.int .u64 1000000000000000), .lit (.int .u64 10000000000000000), .lit (.int .u64 100000000000000000), .lit (.int .u64 1000000000000000000), .lit (.int .u64 10000000000000000000)]

/-- 'tallystonetop.WholeDilution': WHATEVER THE INPUT: true; the input reads as it did. -/
def wholeDilutionSpec : ChangeSpec := { name := "wholeDilution", fn := fun _ => fun
  | [d1, d2, d3] => { results := [.lit (.bool true)], args := [d1, d2, d3] }
  | _ => none }
def wholeDilutionRow : OpenClaim := { program := "yteionhenpehogaagreatdoor", sum := "64a0badee476a0d9fd7d01331a41c7819d75c79827403c2972f170b1911ddb82", func := "tallystone/tallystonetop.WholeDilution", spec := "wholeDilution", inPlace := ["internal/abi.NoEscape", "internal/bytealg.MakeNoZero"], unfollowed := true, recurses := true, named := ["internal/strconv.uint64pow10", "math/bits.deBruijn32tab", "math/bits.deBruijn64tab"], plainKeys := false, apart := false, laid := [("math/bits.deBruijn32tab", laid_math_bits_deBruijn32tab), ("math/bits.deBruijn64tab", laid_math_bits_deBruijn64tab), ("internal/strconv.uint64pow10", laid_internal_strconv_uint64pow10)] }
def WholeDilutionSaid : Prop := wholeDilutionRow.holds Tryz.pinned (OpenSpec.ofChange wholeDilutionSpec)

/-- ITS FALSE NEIGHBOUR: 'it returns false'. Refute it at one input. -/
def wholeDilutionWrong : ChangeSpec := { name := "wholeDilution", fn := fun _ => fun
  | [d1, d2, d3] => { results := [.lit (.bool false)], args := [d1, d2, d3] }
  | _ => none }
def WholeDilutionWrongFalsely : Prop := wholeDilutionRow.holds Tryz.pinned (OpenSpec.ofChange wholeDilutionWrong)

/-- 'tallystonetop.WholeOwnership': WHATEVER THE INPUT: true; the input reads as it did. -/
def wholeOwnershipSpec : ChangeSpec := { name := "wholeOwnership", fn := fun _ => fun
  | [d1, d2, d3] => { results := [.lit (.bool true)], args := [d1, d2, d3] }
  | _ => none }
def wholeOwnershipRow : OpenClaim := { program := "yteionhenpehogaagreatdoor", sum := "64a0badee476a0d9fd7d01331a41c7819d75c79827403c2972f170b1911ddb82", func := "tallystone/tallystonetop.WholeOwnership", spec := "wholeOwnership", inPlace := ["internal/abi.NoEscape", "internal/bytealg.MakeNoZero"], unfollowed := true, recurses := true, named := ["internal/strconv.uint64pow10", "math/bits.deBruijn32tab", "math/bits.deBruijn64tab"], plainKeys := false, apart := false, laid := [("math/bits.deBruijn32tab", laid_math_bits_deBruijn32tab), ("math/bits.deBruijn64tab", laid_math_bits_deBruijn64tab), ("internal/strconv.uint64pow10", laid_internal_strconv_uint64pow10)] }
def WholeOwnershipSaid : Prop := wholeOwnershipRow.holds Tryz.pinned (OpenSpec.ofChange wholeOwnershipSpec)

/-- ITS FALSE NEIGHBOUR: 'it returns false'. Refute it at one input. -/
def wholeOwnershipWrong : ChangeSpec := { name := "wholeOwnership", fn := fun _ => fun
  | [d1, d2, d3] => { results := [.lit (.bool false)], args := [d1, d2, d3] }
  | _ => none }
def WholeOwnershipWrongFalsely : Prop := wholeOwnershipRow.holds Tryz.pinned (OpenSpec.ofChange wholeOwnershipWrong)

/-- 'tallystonelaw22.LinearSolves': WHATEVER THE INPUT: true; the input reads as it did. -/
def linearSolvesSpec : ChangeSpec := { name := "linearSolves", fn := fun _ => fun
  | [d1, d2] => { results := [.lit (.bool true)], args := [d1, d2] }
  | _ => none }
def linearSolvesRow : OpenClaim := { program := "yteionhenpehogaagreatdoor", sum := "64a0badee476a0d9fd7d01331a41c7819d75c79827403c2972f170b1911ddb82", func := "tallystone/tallystonelaw22.LinearSolves", spec := "linearSolves", inPlace := ["internal/abi.NoEscape", "internal/bytealg.MakeNoZero"], unfollowed := true, recurses := true, named := ["internal/strconv.uint64pow10", "math/bits.deBruijn32tab", "math/bits.deBruijn64tab"], plainKeys := false, apart := false, laid := [("math/bits.deBruijn32tab", laid_math_bits_deBruijn32tab), ("math/bits.deBruijn64tab", laid_math_bits_deBruijn64tab), ("internal/strconv.uint64pow10", laid_internal_strconv_uint64pow10)] }
def LinearSolvesSaid : Prop := linearSolvesRow.holds Tryz.pinned (OpenSpec.ofChange linearSolvesSpec)

/-- ITS FALSE NEIGHBOUR: 'it returns false'. Refute it at one input. -/
def linearSolvesWrong : ChangeSpec := { name := "linearSolves", fn := fun _ => fun
  | [d1, d2] => { results := [.lit (.bool false)], args := [d1, d2] }
  | _ => none }
def LinearSolvesWrongFalsely : Prop := linearSolvesRow.holds Tryz.pinned (OpenSpec.ofChange linearSolvesWrong)

/-- 'tallystonelaw22.LinearMeasures': WHATEVER THE INPUT: true; the input reads as it did. -/
def linearMeasuresSpec : ChangeSpec := { name := "linearMeasures", fn := fun _ => fun
  | [d] => { results := [.lit (.bool true)], args := [d] }
  | _ => none }
def linearMeasuresRow : OpenClaim := { program := "yteionhenpehogaagreatdoor", sum := "64a0badee476a0d9fd7d01331a41c7819d75c79827403c2972f170b1911ddb82", func := "tallystone/tallystonelaw22.LinearMeasures", spec := "linearMeasures", inPlace := ["internal/abi.NoEscape", "internal/bytealg.MakeNoZero"], unfollowed := true, recurses := true, named := ["internal/strconv.uint64pow10", "math/bits.deBruijn32tab", "math/bits.deBruijn64tab"], plainKeys := false, apart := false, laid := [("math/bits.deBruijn32tab", laid_math_bits_deBruijn32tab), ("math/bits.deBruijn64tab", laid_math_bits_deBruijn64tab), ("internal/strconv.uint64pow10", laid_internal_strconv_uint64pow10)] }
def LinearMeasuresSaid : Prop := linearMeasuresRow.holds Tryz.pinned (OpenSpec.ofChange linearMeasuresSpec)

/-- ITS FALSE NEIGHBOUR: 'it returns false'. Refute it at one input. -/
def linearMeasuresWrong : ChangeSpec := { name := "linearMeasures", fn := fun _ => fun
  | [d] => { results := [.lit (.bool false)], args := [d] }
  | _ => none }
def LinearMeasuresWrongFalsely : Prop := linearMeasuresRow.holds Tryz.pinned (OpenSpec.ofChange linearMeasuresWrong)

/-- 'tallystonelaw22.LinearApplies': WHATEVER THE INPUT: true; the input reads as it did. -/
def linearAppliesSpec : ChangeSpec := { name := "linearApplies", fn := fun _ => fun
  | [d1, d2, d3] => { results := [.lit (.bool true)], args := [d1, d2, d3] }
  | _ => none }
def linearAppliesRow : OpenClaim := { program := "yteionhenpehogaagreatdoor", sum := "64a0badee476a0d9fd7d01331a41c7819d75c79827403c2972f170b1911ddb82", func := "tallystone/tallystonelaw22.LinearApplies", spec := "linearApplies", inPlace := ["internal/abi.NoEscape", "internal/bytealg.MakeNoZero"], unfollowed := true, recurses := true, named := ["internal/strconv.uint64pow10", "math/bits.deBruijn32tab", "math/bits.deBruijn64tab"], plainKeys := false, apart := false, laid := [("math/bits.deBruijn32tab", laid_math_bits_deBruijn32tab), ("math/bits.deBruijn64tab", laid_math_bits_deBruijn64tab), ("internal/strconv.uint64pow10", laid_internal_strconv_uint64pow10)] }
def LinearAppliesSaid : Prop := linearAppliesRow.holds Tryz.pinned (OpenSpec.ofChange linearAppliesSpec)

/-- ITS FALSE NEIGHBOUR: 'it returns false'. Refute it at one input. -/
def linearAppliesWrong : ChangeSpec := { name := "linearApplies", fn := fun _ => fun
  | [d1, d2, d3] => { results := [.lit (.bool false)], args := [d1, d2, d3] }
  | _ => none }
def LinearAppliesWrongFalsely : Prop := linearAppliesRow.holds Tryz.pinned (OpenSpec.ofChange linearAppliesWrong)

/-- 'tallystonelaw23.ShareEffective': WHATEVER THE INPUT: true; the input reads as it did. -/
def shareEffectiveSpec : ChangeSpec := { name := "shareEffective", fn := fun _ => fun
  | [d1, d2, d3] => { results := [.lit (.bool true)], args := [d1, d2, d3] }
  | _ => none }
def shareEffectiveRow : OpenClaim := { program := "yteionhenpehogaagreatdoor", sum := "64a0badee476a0d9fd7d01331a41c7819d75c79827403c2972f170b1911ddb82", func := "tallystone/tallystonelaw23.ShareEffective", spec := "shareEffective", inPlace := ["internal/abi.NoEscape", "internal/bytealg.MakeNoZero"], unfollowed := true, recurses := true, named := ["internal/strconv.uint64pow10", "math/bits.deBruijn32tab", "math/bits.deBruijn64tab"], plainKeys := false, apart := false, laid := [("math/bits.deBruijn32tab", laid_math_bits_deBruijn32tab), ("math/bits.deBruijn64tab", laid_math_bits_deBruijn64tab), ("internal/strconv.uint64pow10", laid_internal_strconv_uint64pow10)] }
def ShareEffectiveSaid : Prop := shareEffectiveRow.holds Tryz.pinned (OpenSpec.ofChange shareEffectiveSpec)

/-- ITS FALSE NEIGHBOUR: 'it returns false'. Refute it at one input. -/
def shareEffectiveWrong : ChangeSpec := { name := "shareEffective", fn := fun _ => fun
  | [d1, d2, d3] => { results := [.lit (.bool false)], args := [d1, d2, d3] }
  | _ => none }
def ShareEffectiveWrongFalsely : Prop := shareEffectiveRow.holds Tryz.pinned (OpenSpec.ofChange shareEffectiveWrong)

/-- 'tallystonelaw23.ShareSingle': WHATEVER THE INPUT: true; the input reads as it did. -/
def shareSingleSpec : ChangeSpec := { name := "shareSingle", fn := fun _ => fun
  | [d1, d2, d3] => { results := [.lit (.bool true)], args := [d1, d2, d3] }
  | _ => none }
def shareSingleRow : OpenClaim := { program := "yteionhenpehogaagreatdoor", sum := "64a0badee476a0d9fd7d01331a41c7819d75c79827403c2972f170b1911ddb82", func := "tallystone/tallystonelaw23.ShareSingle", spec := "shareSingle", inPlace := ["internal/abi.NoEscape", "internal/bytealg.MakeNoZero"], unfollowed := true, recurses := true, named := ["internal/strconv.uint64pow10", "math/bits.deBruijn32tab", "math/bits.deBruijn64tab"], plainKeys := false, apart := false, laid := [("math/bits.deBruijn32tab", laid_math_bits_deBruijn32tab), ("math/bits.deBruijn64tab", laid_math_bits_deBruijn64tab), ("internal/strconv.uint64pow10", laid_internal_strconv_uint64pow10)] }
def ShareSingleSaid : Prop := shareSingleRow.holds Tryz.pinned (OpenSpec.ofChange shareSingleSpec)

/-- ITS FALSE NEIGHBOUR: 'it returns false'. Refute it at one input. -/
def shareSingleWrong : ChangeSpec := { name := "shareSingle", fn := fun _ => fun
  | [d1, d2, d3] => { results := [.lit (.bool false)], args := [d1, d2, d3] }
  | _ => none }
def ShareSingleWrongFalsely : Prop := shareSingleRow.holds Tryz.pinned (OpenSpec.ofChange shareSingleWrong)

/-- 'tallystonelaw23.ShareRest': WHATEVER THE INPUT: true; the input reads as it did. -/
def shareRestSpec : ChangeSpec := { name := "shareRest", fn := fun _ => fun
  | [d] => { results := [.lit (.bool true)], args := [d] }
  | _ => none }
def shareRestRow : OpenClaim := { program := "yteionhenpehogaagreatdoor", sum := "64a0badee476a0d9fd7d01331a41c7819d75c79827403c2972f170b1911ddb82", func := "tallystone/tallystonelaw23.ShareRest", spec := "shareRest", inPlace := ["internal/abi.NoEscape", "internal/bytealg.MakeNoZero"], unfollowed := true, recurses := true, named := ["internal/strconv.uint64pow10", "math/bits.deBruijn32tab", "math/bits.deBruijn64tab"], plainKeys := false, apart := false, laid := [("math/bits.deBruijn32tab", laid_math_bits_deBruijn32tab), ("math/bits.deBruijn64tab", laid_math_bits_deBruijn64tab), ("internal/strconv.uint64pow10", laid_internal_strconv_uint64pow10)] }
def ShareRestSaid : Prop := shareRestRow.holds Tryz.pinned (OpenSpec.ofChange shareRestSpec)

/-- ITS FALSE NEIGHBOUR: 'it returns false'. Refute it at one input. -/
def shareRestWrong : ChangeSpec := { name := "shareRest", fn := fun _ => fun
  | [d] => { results := [.lit (.bool false)], args := [d] }
  | _ => none }
def ShareRestWrongFalsely : Prop := shareRestRow.holds Tryz.pinned (OpenSpec.ofChange shareRestWrong)

/-- 'tallystonelaw23.ShareOutside': WHATEVER THE INPUT: true; the input reads as it did. -/
def shareOutsideSpec : ChangeSpec := { name := "shareOutside", fn := fun _ => fun
  | [d1, d2, d3] => { results := [.lit (.bool true)], args := [d1, d2, d3] }
  | _ => none }
def shareOutsideRow : OpenClaim := { program := "yteionhenpehogaagreatdoor", sum := "64a0badee476a0d9fd7d01331a41c7819d75c79827403c2972f170b1911ddb82", func := "tallystone/tallystonelaw23.ShareOutside", spec := "shareOutside", inPlace := ["internal/abi.NoEscape", "internal/bytealg.MakeNoZero"], unfollowed := true, recurses := true, named := ["internal/strconv.uint64pow10", "math/bits.deBruijn32tab", "math/bits.deBruijn64tab"], plainKeys := false, apart := false, laid := [("math/bits.deBruijn32tab", laid_math_bits_deBruijn32tab), ("math/bits.deBruijn64tab", laid_math_bits_deBruijn64tab), ("internal/strconv.uint64pow10", laid_internal_strconv_uint64pow10)] }
def ShareOutsideSaid : Prop := shareOutsideRow.holds Tryz.pinned (OpenSpec.ofChange shareOutsideSpec)

/-- ITS FALSE NEIGHBOUR: 'it returns false'. Refute it at one input. -/
def shareOutsideWrong : ChangeSpec := { name := "shareOutside", fn := fun _ => fun
  | [d1, d2, d3] => { results := [.lit (.bool false)], args := [d1, d2, d3] }
  | _ => none }
def ShareOutsideWrongFalsely : Prop := shareOutsideRow.holds Tryz.pinned (OpenSpec.ofChange shareOutsideWrong)

/-- 'tallystonelaw23.ShareWhole': WHATEVER THE INPUT: true; the input reads as it did. -/
def shareWholeSpec : ChangeSpec := { name := "shareWhole", fn := fun _ => fun
  | [d1, d2, d3] => { results := [.lit (.bool true)], args := [d1, d2, d3] }
  | _ => none }
def shareWholeRow : OpenClaim := { program := "yteionhenpehogaagreatdoor", sum := "64a0badee476a0d9fd7d01331a41c7819d75c79827403c2972f170b1911ddb82", func := "tallystone/tallystonelaw23.ShareWhole", spec := "shareWhole", inPlace := ["internal/abi.NoEscape", "internal/bytealg.MakeNoZero"], unfollowed := true, recurses := true, named := ["internal/strconv.uint64pow10", "math/bits.deBruijn32tab", "math/bits.deBruijn64tab"], plainKeys := false, apart := false, laid := [("math/bits.deBruijn32tab", laid_math_bits_deBruijn32tab), ("math/bits.deBruijn64tab", laid_math_bits_deBruijn64tab), ("internal/strconv.uint64pow10", laid_internal_strconv_uint64pow10)] }
def ShareWholeSaid : Prop := shareWholeRow.holds Tryz.pinned (OpenSpec.ofChange shareWholeSpec)

/-- ITS FALSE NEIGHBOUR: 'it returns false'. Refute it at one input. -/
def shareWholeWrong : ChangeSpec := { name := "shareWhole", fn := fun _ => fun
  | [d1, d2, d3] => { results := [.lit (.bool false)], args := [d1, d2, d3] }
  | _ => none }
def ShareWholeWrongFalsely : Prop := shareWholeRow.holds Tryz.pinned (OpenSpec.ofChange shareWholeWrong)

/-- 'tallystonelaw23.ShareCheck': WHATEVER THE INPUT: true; the input reads as it did. -/
def shareCheckSpec : ChangeSpec := { name := "shareCheck", fn := fun _ => fun
  | [d1, d2, d3] => { results := [.lit (.bool true)], args := [d1, d2, d3] }
  | _ => none }
def shareCheckRow : OpenClaim := { program := "yteionhenpehogaagreatdoor", sum := "64a0badee476a0d9fd7d01331a41c7819d75c79827403c2972f170b1911ddb82", func := "tallystone/tallystonelaw23.ShareCheck", spec := "shareCheck", inPlace := ["internal/abi.NoEscape", "internal/bytealg.MakeNoZero"], unfollowed := true, recurses := true, named := ["internal/strconv.uint64pow10", "math/bits.deBruijn32tab", "math/bits.deBruijn64tab"], plainKeys := false, apart := false, laid := [("math/bits.deBruijn32tab", laid_math_bits_deBruijn32tab), ("math/bits.deBruijn64tab", laid_math_bits_deBruijn64tab), ("internal/strconv.uint64pow10", laid_internal_strconv_uint64pow10)] }
def ShareCheckSaid : Prop := shareCheckRow.holds Tryz.pinned (OpenSpec.ofChange shareCheckSpec)

/-- ITS FALSE NEIGHBOUR: 'it returns false'. Refute it at one input. -/
def shareCheckWrong : ChangeSpec := { name := "shareCheck", fn := fun _ => fun
  | [d1, d2, d3] => { results := [.lit (.bool false)], args := [d1, d2, d3] }
  | _ => none }
def ShareCheckWrongFalsely : Prop := shareCheckRow.holds Tryz.pinned (OpenSpec.ofChange shareCheckWrong)

/-- 'tallystonelaw23.ShareChains': WHATEVER THE INPUT: true; the input reads as it did. -/
def shareChainsSpec : ChangeSpec := { name := "shareChains", fn := fun _ => fun
  | [d1, d2, d3] => { results := [.lit (.bool true)], args := [d1, d2, d3] }
  | _ => none }
def shareChainsRow : OpenClaim := { program := "yteionhenpehogaagreatdoor", sum := "64a0badee476a0d9fd7d01331a41c7819d75c79827403c2972f170b1911ddb82", func := "tallystone/tallystonelaw23.ShareChains", spec := "shareChains", inPlace := ["internal/abi.NoEscape", "internal/bytealg.MakeNoZero"], unfollowed := true, recurses := true, named := ["internal/strconv.uint64pow10", "math/bits.deBruijn32tab", "math/bits.deBruijn64tab"], plainKeys := false, apart := false, laid := [("math/bits.deBruijn32tab", laid_math_bits_deBruijn32tab), ("math/bits.deBruijn64tab", laid_math_bits_deBruijn64tab), ("internal/strconv.uint64pow10", laid_internal_strconv_uint64pow10)] }
def ShareChainsSaid : Prop := shareChainsRow.holds Tryz.pinned (OpenSpec.ofChange shareChainsSpec)

/-- ITS FALSE NEIGHBOUR: 'it returns false'. Refute it at one input. -/
def shareChainsWrong : ChangeSpec := { name := "shareChains", fn := fun _ => fun
  | [d1, d2, d3] => { results := [.lit (.bool false)], args := [d1, d2, d3] }
  | _ => none }
def ShareChainsWrongFalsely : Prop := shareChainsRow.holds Tryz.pinned (OpenSpec.ofChange shareChainsWrong)

/- THE SECOND FORM. 'bulk': how many values and letters a reading holds, each counted each time it is reached (what is shared counts as often as it is met; a slice's spare places count too). A statement '..UptoSaid' is the law's where the arguments, and the package variables that the reading takes, are together of bulk at most 1048576: NARROWER than '..Said'. Prove '..Said' where nothing that the law and all that it calls make is longer than what came in: it says more and counts as full. Else prove '..UptoSaid'. A law counts once. -/
mutual
def uptoBulk {H : Type} : DataW H → Nat
  | .lit (.string bytes) => bytes.length + 1
  | .lit _ => 1
  | .nil => 1
  | .ptr d => uptoBulk d + 1
  | .slice elems spare => uptoBulkAll elems + uptoBulkAll spare + 1
  | .agg parts => uptoBulkAll parts + 1
  | .iface _ d => uptoBulk d + 1
  | .map entries => uptoBulkEntries entries + 1
  | .held _ => 1
def uptoBulkAll {H : Type} : List (DataW H) → Nat
  | [] => 0
  | d :: r => uptoBulk d + uptoBulkAll r
def uptoBulkEntries {H : Type} : List (Lit × DataW H) → Nat
  | [] => 0
  | x :: r => uptoBulkEntry x + uptoBulkEntries r
def uptoBulkEntry {H : Type} : Lit × DataW H → Nat
  | (.string bytes, d) => bytes.length + uptoBulk d + 1
  | (_, d) => uptoBulk d + 1
 end
def uptoSmall : (H : Type) → List (DataW H) → Bool := fun _ ds => decide (uptoBulkAll ds ≤ 1048576)
def OpenSpec.upto (s : _root_.Go.ChangeSpec) : _root_.Go.OpenSpec := { _root_.Go.OpenSpec.ofChange s with cond := some uptoSmall }

/-- 'tallystonetop.WholeDilution', WHERE WHAT IT READS IS OF BULK AT MOST 1048576: true; the input reads as it did. -/
def wholeDilutionUptoRow : OpenClaim := { program := "yteionhenpehogaagreatdoor", sum := "64a0badee476a0d9fd7d01331a41c7819d75c79827403c2972f170b1911ddb82", func := "tallystone/tallystonetop.WholeDilution", spec := "wholeDilution", inPlace := ["internal/abi.NoEscape", "internal/bytealg.MakeNoZero"], unfollowed := true, recurses := true, named := ["internal/strconv.uint64pow10", "math/bits.deBruijn32tab", "math/bits.deBruijn64tab"], plainKeys := false, apart := false, laid := [("math/bits.deBruijn32tab", laid_math_bits_deBruijn32tab), ("math/bits.deBruijn64tab", laid_math_bits_deBruijn64tab), ("internal/strconv.uint64pow10", laid_internal_strconv_uint64pow10)], narrowed := true }
def WholeDilutionUptoSaid : Prop := wholeDilutionUptoRow.holds Tryz.pinned (OpenSpec.upto wholeDilutionSpec)

/-- 'tallystonetop.WholeOwnership', WHERE WHAT IT READS IS OF BULK AT MOST 1048576: true; the input reads as it did. -/
def wholeOwnershipUptoRow : OpenClaim := { program := "yteionhenpehogaagreatdoor", sum := "64a0badee476a0d9fd7d01331a41c7819d75c79827403c2972f170b1911ddb82", func := "tallystone/tallystonetop.WholeOwnership", spec := "wholeOwnership", inPlace := ["internal/abi.NoEscape", "internal/bytealg.MakeNoZero"], unfollowed := true, recurses := true, named := ["internal/strconv.uint64pow10", "math/bits.deBruijn32tab", "math/bits.deBruijn64tab"], plainKeys := false, apart := false, laid := [("math/bits.deBruijn32tab", laid_math_bits_deBruijn32tab), ("math/bits.deBruijn64tab", laid_math_bits_deBruijn64tab), ("internal/strconv.uint64pow10", laid_internal_strconv_uint64pow10)], narrowed := true }
def WholeOwnershipUptoSaid : Prop := wholeOwnershipUptoRow.holds Tryz.pinned (OpenSpec.upto wholeOwnershipSpec)

/-- 'tallystonelaw22.LinearSolves', WHERE WHAT IT READS IS OF BULK AT MOST 1048576: true; the input reads as it did. -/
def linearSolvesUptoRow : OpenClaim := { program := "yteionhenpehogaagreatdoor", sum := "64a0badee476a0d9fd7d01331a41c7819d75c79827403c2972f170b1911ddb82", func := "tallystone/tallystonelaw22.LinearSolves", spec := "linearSolves", inPlace := ["internal/abi.NoEscape", "internal/bytealg.MakeNoZero"], unfollowed := true, recurses := true, named := ["internal/strconv.uint64pow10", "math/bits.deBruijn32tab", "math/bits.deBruijn64tab"], plainKeys := false, apart := false, laid := [("math/bits.deBruijn32tab", laid_math_bits_deBruijn32tab), ("math/bits.deBruijn64tab", laid_math_bits_deBruijn64tab), ("internal/strconv.uint64pow10", laid_internal_strconv_uint64pow10)], narrowed := true }
def LinearSolvesUptoSaid : Prop := linearSolvesUptoRow.holds Tryz.pinned (OpenSpec.upto linearSolvesSpec)

/-- 'tallystonelaw22.LinearMeasures', WHERE WHAT IT READS IS OF BULK AT MOST 1048576: true; the input reads as it did. -/
def linearMeasuresUptoRow : OpenClaim := { program := "yteionhenpehogaagreatdoor", sum := "64a0badee476a0d9fd7d01331a41c7819d75c79827403c2972f170b1911ddb82", func := "tallystone/tallystonelaw22.LinearMeasures", spec := "linearMeasures", inPlace := ["internal/abi.NoEscape", "internal/bytealg.MakeNoZero"], unfollowed := true, recurses := true, named := ["internal/strconv.uint64pow10", "math/bits.deBruijn32tab", "math/bits.deBruijn64tab"], plainKeys := false, apart := false, laid := [("math/bits.deBruijn32tab", laid_math_bits_deBruijn32tab), ("math/bits.deBruijn64tab", laid_math_bits_deBruijn64tab), ("internal/strconv.uint64pow10", laid_internal_strconv_uint64pow10)], narrowed := true }
def LinearMeasuresUptoSaid : Prop := linearMeasuresUptoRow.holds Tryz.pinned (OpenSpec.upto linearMeasuresSpec)

/-- 'tallystonelaw22.LinearApplies', WHERE WHAT IT READS IS OF BULK AT MOST 1048576: true; the input reads as it did. -/
def linearAppliesUptoRow : OpenClaim := { program := "yteionhenpehogaagreatdoor", sum := "64a0badee476a0d9fd7d01331a41c7819d75c79827403c2972f170b1911ddb82", func := "tallystone/tallystonelaw22.LinearApplies", spec := "linearApplies", inPlace := ["internal/abi.NoEscape", "internal/bytealg.MakeNoZero"], unfollowed := true, recurses := true, named := ["internal/strconv.uint64pow10", "math/bits.deBruijn32tab", "math/bits.deBruijn64tab"], plainKeys := false, apart := false, laid := [("math/bits.deBruijn32tab", laid_math_bits_deBruijn32tab), ("math/bits.deBruijn64tab", laid_math_bits_deBruijn64tab), ("internal/strconv.uint64pow10", laid_internal_strconv_uint64pow10)], narrowed := true }
def LinearAppliesUptoSaid : Prop := linearAppliesUptoRow.holds Tryz.pinned (OpenSpec.upto linearAppliesSpec)

/-- 'tallystonelaw23.ShareEffective', WHERE WHAT IT READS IS OF BULK AT MOST 1048576: true; the input reads as it did. -/
def shareEffectiveUptoRow : OpenClaim := { program := "yteionhenpehogaagreatdoor", sum := "64a0badee476a0d9fd7d01331a41c7819d75c79827403c2972f170b1911ddb82", func := "tallystone/tallystonelaw23.ShareEffective", spec := "shareEffective", inPlace := ["internal/abi.NoEscape", "internal/bytealg.MakeNoZero"], unfollowed := true, recurses := true, named := ["internal/strconv.uint64pow10", "math/bits.deBruijn32tab", "math/bits.deBruijn64tab"], plainKeys := false, apart := false, laid := [("math/bits.deBruijn32tab", laid_math_bits_deBruijn32tab), ("math/bits.deBruijn64tab", laid_math_bits_deBruijn64tab), ("internal/strconv.uint64pow10", laid_internal_strconv_uint64pow10)], narrowed := true }
def ShareEffectiveUptoSaid : Prop := shareEffectiveUptoRow.holds Tryz.pinned (OpenSpec.upto shareEffectiveSpec)

/-- 'tallystonelaw23.ShareSingle', WHERE WHAT IT READS IS OF BULK AT MOST 1048576: true; the input reads as it did. -/
def shareSingleUptoRow : OpenClaim := { program := "yteionhenpehogaagreatdoor", sum := "64a0badee476a0d9fd7d01331a41c7819d75c79827403c2972f170b1911ddb82", func := "tallystone/tallystonelaw23.ShareSingle", spec := "shareSingle", inPlace := ["internal/abi.NoEscape", "internal/bytealg.MakeNoZero"], unfollowed := true, recurses := true, named := ["internal/strconv.uint64pow10", "math/bits.deBruijn32tab", "math/bits.deBruijn64tab"], plainKeys := false, apart := false, laid := [("math/bits.deBruijn32tab", laid_math_bits_deBruijn32tab), ("math/bits.deBruijn64tab", laid_math_bits_deBruijn64tab), ("internal/strconv.uint64pow10", laid_internal_strconv_uint64pow10)], narrowed := true }
def ShareSingleUptoSaid : Prop := shareSingleUptoRow.holds Tryz.pinned (OpenSpec.upto shareSingleSpec)

/-- 'tallystonelaw23.ShareRest', WHERE WHAT IT READS IS OF BULK AT MOST 1048576: true; the input reads as it did. -/
def shareRestUptoRow : OpenClaim := { program := "yteionhenpehogaagreatdoor", sum := "64a0badee476a0d9fd7d01331a41c7819d75c79827403c2972f170b1911ddb82", func := "tallystone/tallystonelaw23.ShareRest", spec := "shareRest", inPlace := ["internal/abi.NoEscape", "internal/bytealg.MakeNoZero"], unfollowed := true, recurses := true, named := ["internal/strconv.uint64pow10", "math/bits.deBruijn32tab", "math/bits.deBruijn64tab"], plainKeys := false, apart := false, laid := [("math/bits.deBruijn32tab", laid_math_bits_deBruijn32tab), ("math/bits.deBruijn64tab", laid_math_bits_deBruijn64tab), ("internal/strconv.uint64pow10", laid_internal_strconv_uint64pow10)], narrowed := true }
def ShareRestUptoSaid : Prop := shareRestUptoRow.holds Tryz.pinned (OpenSpec.upto shareRestSpec)

/-- 'tallystonelaw23.ShareOutside', WHERE WHAT IT READS IS OF BULK AT MOST 1048576: true; the input reads as it did. -/
def shareOutsideUptoRow : OpenClaim := { program := "yteionhenpehogaagreatdoor", sum := "64a0badee476a0d9fd7d01331a41c7819d75c79827403c2972f170b1911ddb82", func := "tallystone/tallystonelaw23.ShareOutside", spec := "shareOutside", inPlace := ["internal/abi.NoEscape", "internal/bytealg.MakeNoZero"], unfollowed := true, recurses := true, named := ["internal/strconv.uint64pow10", "math/bits.deBruijn32tab", "math/bits.deBruijn64tab"], plainKeys := false, apart := false, laid := [("math/bits.deBruijn32tab", laid_math_bits_deBruijn32tab), ("math/bits.deBruijn64tab", laid_math_bits_deBruijn64tab), ("internal/strconv.uint64pow10", laid_internal_strconv_uint64pow10)], narrowed := true }
def ShareOutsideUptoSaid : Prop := shareOutsideUptoRow.holds Tryz.pinned (OpenSpec.upto shareOutsideSpec)

/-- 'tallystonelaw23.ShareWhole', WHERE WHAT IT READS IS OF BULK AT MOST 1048576: true; the input reads as it did. -/
def shareWholeUptoRow : OpenClaim := { program := "yteionhenpehogaagreatdoor", sum := "64a0badee476a0d9fd7d01331a41c7819d75c79827403c2972f170b1911ddb82", func := "tallystone/tallystonelaw23.ShareWhole", spec := "shareWhole", inPlace := ["internal/abi.NoEscape", "internal/bytealg.MakeNoZero"], unfollowed := true, recurses := true, named := ["internal/strconv.uint64pow10", "math/bits.deBruijn32tab", "math/bits.deBruijn64tab"], plainKeys := false, apart := false, laid := [("math/bits.deBruijn32tab", laid_math_bits_deBruijn32tab), ("math/bits.deBruijn64tab", laid_math_bits_deBruijn64tab), ("internal/strconv.uint64pow10", laid_internal_strconv_uint64pow10)], narrowed := true }
def ShareWholeUptoSaid : Prop := shareWholeUptoRow.holds Tryz.pinned (OpenSpec.upto shareWholeSpec)

/-- 'tallystonelaw23.ShareCheck', WHERE WHAT IT READS IS OF BULK AT MOST 1048576: true; the input reads as it did. -/
def shareCheckUptoRow : OpenClaim := { program := "yteionhenpehogaagreatdoor", sum := "64a0badee476a0d9fd7d01331a41c7819d75c79827403c2972f170b1911ddb82", func := "tallystone/tallystonelaw23.ShareCheck", spec := "shareCheck", inPlace := ["internal/abi.NoEscape", "internal/bytealg.MakeNoZero"], unfollowed := true, recurses := true, named := ["internal/strconv.uint64pow10", "math/bits.deBruijn32tab", "math/bits.deBruijn64tab"], plainKeys := false, apart := false, laid := [("math/bits.deBruijn32tab", laid_math_bits_deBruijn32tab), ("math/bits.deBruijn64tab", laid_math_bits_deBruijn64tab), ("internal/strconv.uint64pow10", laid_internal_strconv_uint64pow10)], narrowed := true }
def ShareCheckUptoSaid : Prop := shareCheckUptoRow.holds Tryz.pinned (OpenSpec.upto shareCheckSpec)

/-- 'tallystonelaw23.ShareChains', WHERE WHAT IT READS IS OF BULK AT MOST 1048576: true; the input reads as it did. -/
def shareChainsUptoRow : OpenClaim := { program := "yteionhenpehogaagreatdoor", sum := "64a0badee476a0d9fd7d01331a41c7819d75c79827403c2972f170b1911ddb82", func := "tallystone/tallystonelaw23.ShareChains", spec := "shareChains", inPlace := ["internal/abi.NoEscape", "internal/bytealg.MakeNoZero"], unfollowed := true, recurses := true, named := ["internal/strconv.uint64pow10", "math/bits.deBruijn32tab", "math/bits.deBruijn64tab"], plainKeys := false, apart := false, laid := [("math/bits.deBruijn32tab", laid_math_bits_deBruijn32tab), ("math/bits.deBruijn64tab", laid_math_bits_deBruijn64tab), ("internal/strconv.uint64pow10", laid_internal_strconv_uint64pow10)], narrowed := true }
def ShareChainsUptoSaid : Prop := shareChainsUptoRow.holds Tryz.pinned (OpenSpec.upto shareChainsSpec)

end Rows
end Go.Proofs.YteionhenpehogaaGreatDoor
