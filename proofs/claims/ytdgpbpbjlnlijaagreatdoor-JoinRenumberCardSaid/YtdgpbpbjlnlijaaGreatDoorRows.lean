/-
  NARROWER THAN 'FOR EVERY INPUT', by the rows' own cells (each row's printed sentence says how): GroupDefinition: laid · GroupAlways: laid · GroupBounds: laid · GroupCounts: laid · GroupSplits: laid · JoinInner: laid · JoinLeftOuter: laid · JoinSplits: laid · JoinNormal: laid · JoinContains: laid · JoinRenumber: laid.
  DERIVED. THE GIVEN ROWS OF THIS SEAT. 11 by the template 'for every input the law returns true; each argument reads behind the call as it read before'; 0 by the template 'total and deterministic' (their statements: YtdgpbpbjlnlijaaGreatDoorTotals.lean).
  GIVEN WITH THE SEED: the statements are not yours to turn. If you find one false, say at which input.
  Laid BY PROGRAM, IN A SANDBOX (cutbox-rows.mjs): the forced cells as the released guide's own fill.sh prints them over the translation 44f73e8099927208… (all of the seat's roots in one cut). By AI agents, Wed Nov 11 2026. No macro, syntax, notation, axiom, sorry.
-/
import Derived.Test.YtdgpbpbjlnlijaaGreatDoorChecked
import GoSem.Claim
import GoSem.ClaimJoined
import GoSem.ClaimMapViews
import Derived.JoinedTies
import Derived.KernelRfl
namespace Go.Proofs.YtdgpbpbjlnlijaaGreatDoor
/- THE CELL 'sum', in the pinned program and in every row, IS THE sha256 OF THE DUMP (.gsa) THAT YtdgpbpbjlnlijaaGreatDoorProg.lean LOADS. Nothing in Lean hashes anything: it is a label: what it is worth is what the hold of that sum in a sandbox is worth. -/
noncomputable def Tryz.pinned : Pinned := { name := "ytdgpbpbjlnlijaagreatdoor", sum := "44f73e80999272086fd6a431fac794a7baf8404d8a66a13025cc419328c76a4f", checked := Tryz.checked }
namespace Rows
def none {H : Type} : Left H := { results := [], args := [] }

/- WHAT THE LISTED PACKAGE-LEVEL VARIABLES READ AS WHEN THE CALL BEGINS. Each datum BY PROGRAM (the guide's laid-datum.mjs) off the statement by which the dump's own 'gosem.cut.vars' lays the variable. In a bare row this is a premise. The card (YtdgpbpbjlnlijaaGreatDoorCards.lean) ties it to the program's text. -/
def laid_math_bits_deBruijn32tab {H : Type} : DataW H := .agg [.lit (.int .u8 0), .lit (.int .u8 1), .lit (.int .u8 28), .lit (.int .u8 2), .lit (.int .u8 29), .lit (.int .u8 14), .lit (.int .u8 24), .lit (.int .u8 3), .lit (.int .u8 30), .lit (.int .u8 22), .lit (.int .u8 20), .lit (.int .u8 15), .lit (.int .u8 25), .lit (.int .u8 17), .lit (.int .u8 4), .lit (.int .u8 8), .lit (.int .u8 31), .lit (.int .u8 27), .lit (.int .u8 13), .lit (.int .u8 23), .lit (.int .u8 21), .lit (.int .u8 19), .lit (.int .u8 16), .lit (.int .u8 7), .lit (.int .u8 26), .lit (.int .u8 12), .lit (.int .u8 18), .lit (.int .u8 6), .lit (.int .u8 11), .lit (.int .u8 5), .lit (.int .u8 10), .lit (.int .u8 9)]
def laid_math_bits_deBruijn64tab {H : Type} : DataW H := .agg [.lit (.int .u8 0), .lit (.int .u8 1), .lit (.int .u8 56), .lit (.int .u8 2), .lit (.int .u8 57), .lit (.int .u8 49), .lit (.int .u8 28), .lit (.int .u8 3), .lit (.int .u8 61), .lit (.int .u8 58), .lit (.int .u8 42), .lit (.int .u8 50), .lit (.int .u8 38), .lit (.int .u8 29), .lit (.int .u8 17), .lit (.int .u8 4), .lit (.int .u8 62), .lit (.int .u8 47), .lit (.int .u8 59), .lit (.int .u8 36), .lit (.int .u8 45), .lit (.int .u8 43), .lit (.int .u8 51), .lit (.int .u8 22), .lit (.int .u8 53), .lit (.int .u8 39), .lit (.int .u8 33), .lit (.int .u8 30), .lit (.int .u8 24), .lit (.int .u8 18), .lit (.int .u8 12), .lit (.int .u8 5), .lit (.int .u8 63), .lit (.int .u8 55), .lit (.int .u8 48), .lit (.int .u8 27), .lit (.int .u8 60), .lit (.int .u8 41), .lit (.int .u8 37), .lit (.int .u8 16), .lit (.int .u8 46), .lit (.int .u8 35), .lit (.int .u8 44), .lit (.int .u8 21), .lit (.int .u8 52), .lit (.int .u8 32), .lit (.int .u8 23), .lit (.int .u8 11), .lit (.int .u8 54), .lit (.int .u8 26), .lit (.int .u8 40), .lit (.int .u8 15), .lit (.int .u8 34), .lit (.int .u8 20), .lit (.int .u8 31), .lit (.int .u8 10), .lit (.int .u8 25), .lit (.int .u8 14), .lit (.int .u8 19), .lit (.int .u8 9), .lit (.int .u8 13), .lit (.int .u8 8), .lit (.int .u8 7), .lit (.int .u8 6)]
def laid_internal_strconv_uint64pow10 {H : Type} : DataW H := .agg [.lit (.int .u64 1), .lit (.int .u64 10), .lit (.int .u64 100), .lit (.int .u64 1000), .lit (.int .u64 10000), .lit (.int .u64 100000), .lit (.int .u64 1000000), .lit (.int .u64 10000000), .lit (.int .u64 100000000), .lit (.int .u64 1000000000), .lit (.int .u64 10000000000), .lit (.int .u64 100000000000), .lit (.int .u64 1000000000000), .lit (.int .u64 10000000000000), .lit (.int .u64 100000000000000), .lit (.int .u64 1000000000000000), .lit (.int .u64 10000000000000000), .lit (.int .u64 100000000000000000), .lit (.int .u64 1000000000000000000), .lit (.int .u64 10000000000000000000)]
def laid_annalist_group_allDays {H : Type} : DataW H := .agg [.lit (.int .i64 0), .lit (.int .i64 1000000)]

/-- 'annalistlaw16.GroupDefinition': WHATEVER THE INPUT: true; the input reads as it did. -/
def groupDefinitionSpec : ChangeSpec := { name := "groupDefinition", fn := fun _ => fun
  | [d1, d2, d3, d4] => { results := [.lit (.bool true)], args := [d1, d2, d3, d4] }
  | _ => none }
def groupDefinitionRow : OpenClaim := { program := "ytdgpbpbjlnlijaagreatdoor", sum := "44f73e80999272086fd6a431fac794a7baf8404d8a66a13025cc419328c76a4f", func := "annalist/annalistlaw16.GroupDefinition", spec := "groupDefinition", inPlace := ["internal/bytealg.abigen_runtime_cmpstring", "internal/abi.NoEscape", "math/bits.Add64"], unfollowed := true, recurses := true, named := ["annalist/group.allDays", "internal/strconv.uint64pow10", "math/bits.deBruijn32tab", "math/bits.deBruijn64tab"], plainKeys := false, apart := false, laid := [("math/bits.deBruijn32tab", laid_math_bits_deBruijn32tab), ("math/bits.deBruijn64tab", laid_math_bits_deBruijn64tab), ("internal/strconv.uint64pow10", laid_internal_strconv_uint64pow10), ("annalist/group.allDays", laid_annalist_group_allDays)] }
def GroupDefinitionSaid : Prop := groupDefinitionRow.holds Tryz.pinned (OpenSpec.ofChange groupDefinitionSpec)

/-- ITS FALSE NEIGHBOUR: 'it returns false'. Refute it at one input. -/
def groupDefinitionWrong : ChangeSpec := { name := "groupDefinition", fn := fun _ => fun
  | [d1, d2, d3, d4] => { results := [.lit (.bool false)], args := [d1, d2, d3, d4] }
  | _ => none }
def GroupDefinitionWrongFalsely : Prop := groupDefinitionRow.holds Tryz.pinned (OpenSpec.ofChange groupDefinitionWrong)

/-- 'annalistlaw16.GroupAlways': WHATEVER THE INPUT: true; the input reads as it did. -/
def groupAlwaysSpec : ChangeSpec := { name := "groupAlways", fn := fun _ => fun
  | [d1, d2, d3] => { results := [.lit (.bool true)], args := [d1, d2, d3] }
  | _ => none }
def groupAlwaysRow : OpenClaim := { program := "ytdgpbpbjlnlijaagreatdoor", sum := "44f73e80999272086fd6a431fac794a7baf8404d8a66a13025cc419328c76a4f", func := "annalist/annalistlaw16.GroupAlways", spec := "groupAlways", inPlace := ["internal/bytealg.abigen_runtime_cmpstring", "internal/abi.NoEscape", "math/bits.Add64"], unfollowed := true, recurses := true, named := ["annalist/group.allDays", "internal/strconv.uint64pow10", "math/bits.deBruijn32tab", "math/bits.deBruijn64tab"], plainKeys := false, apart := false, laid := [("math/bits.deBruijn32tab", laid_math_bits_deBruijn32tab), ("math/bits.deBruijn64tab", laid_math_bits_deBruijn64tab), ("internal/strconv.uint64pow10", laid_internal_strconv_uint64pow10), ("annalist/group.allDays", laid_annalist_group_allDays)] }
def GroupAlwaysSaid : Prop := groupAlwaysRow.holds Tryz.pinned (OpenSpec.ofChange groupAlwaysSpec)

/-- ITS FALSE NEIGHBOUR: 'it returns false'. Refute it at one input. -/
def groupAlwaysWrong : ChangeSpec := { name := "groupAlways", fn := fun _ => fun
  | [d1, d2, d3] => { results := [.lit (.bool false)], args := [d1, d2, d3] }
  | _ => none }
def GroupAlwaysWrongFalsely : Prop := groupAlwaysRow.holds Tryz.pinned (OpenSpec.ofChange groupAlwaysWrong)

/-- 'annalistlaw16.GroupBounds': WHATEVER THE INPUT: true; the input reads as it did. -/
def groupBoundsSpec : ChangeSpec := { name := "groupBounds", fn := fun _ => fun
  | [d1, d2, d3] => { results := [.lit (.bool true)], args := [d1, d2, d3] }
  | _ => none }
def groupBoundsRow : OpenClaim := { program := "ytdgpbpbjlnlijaagreatdoor", sum := "44f73e80999272086fd6a431fac794a7baf8404d8a66a13025cc419328c76a4f", func := "annalist/annalistlaw16.GroupBounds", spec := "groupBounds", inPlace := ["internal/bytealg.abigen_runtime_cmpstring", "internal/abi.NoEscape", "math/bits.Add64"], unfollowed := true, recurses := true, named := ["annalist/group.allDays", "internal/strconv.uint64pow10", "math/bits.deBruijn32tab", "math/bits.deBruijn64tab"], plainKeys := false, apart := false, laid := [("math/bits.deBruijn32tab", laid_math_bits_deBruijn32tab), ("math/bits.deBruijn64tab", laid_math_bits_deBruijn64tab), ("internal/strconv.uint64pow10", laid_internal_strconv_uint64pow10), ("annalist/group.allDays", laid_annalist_group_allDays)] }
def GroupBoundsSaid : Prop := groupBoundsRow.holds Tryz.pinned (OpenSpec.ofChange groupBoundsSpec)

/-- ITS FALSE NEIGHBOUR: 'it returns false'. Refute it at one input. -/
def groupBoundsWrong : ChangeSpec := { name := "groupBounds", fn := fun _ => fun
  | [d1, d2, d3] => { results := [.lit (.bool false)], args := [d1, d2, d3] }
  | _ => none }
def GroupBoundsWrongFalsely : Prop := groupBoundsRow.holds Tryz.pinned (OpenSpec.ofChange groupBoundsWrong)

/-- 'annalistlaw16.GroupCounts': WHATEVER THE INPUT: true; the input reads as it did. -/
def groupCountsSpec : ChangeSpec := { name := "groupCounts", fn := fun _ => fun
  | [d1, d2, d3] => { results := [.lit (.bool true)], args := [d1, d2, d3] }
  | _ => none }
def groupCountsRow : OpenClaim := { program := "ytdgpbpbjlnlijaagreatdoor", sum := "44f73e80999272086fd6a431fac794a7baf8404d8a66a13025cc419328c76a4f", func := "annalist/annalistlaw16.GroupCounts", spec := "groupCounts", inPlace := ["internal/bytealg.abigen_runtime_cmpstring", "internal/abi.NoEscape", "math/bits.Add64"], unfollowed := true, recurses := true, named := ["annalist/group.allDays", "internal/strconv.uint64pow10", "math/bits.deBruijn32tab", "math/bits.deBruijn64tab"], plainKeys := false, apart := false, laid := [("math/bits.deBruijn32tab", laid_math_bits_deBruijn32tab), ("math/bits.deBruijn64tab", laid_math_bits_deBruijn64tab), ("internal/strconv.uint64pow10", laid_internal_strconv_uint64pow10), ("annalist/group.allDays", laid_annalist_group_allDays)] }
def GroupCountsSaid : Prop := groupCountsRow.holds Tryz.pinned (OpenSpec.ofChange groupCountsSpec)

/-- ITS FALSE NEIGHBOUR: 'it returns false'. Refute it at one input. -/
def groupCountsWrong : ChangeSpec := { name := "groupCounts", fn := fun _ => fun
  | [d1, d2, d3] => { results := [.lit (.bool false)], args := [d1, d2, d3] }
  | _ => none }
def GroupCountsWrongFalsely : Prop := groupCountsRow.holds Tryz.pinned (OpenSpec.ofChange groupCountsWrong)

/-- 'annalistlaw16.GroupSplits': WHATEVER THE INPUT: true; the input reads as it did. -/
def groupSplitsSpec : ChangeSpec := { name := "groupSplits", fn := fun _ => fun
  | [d1, d2, d3, d4] => { results := [.lit (.bool true)], args := [d1, d2, d3, d4] }
  | _ => none }
def groupSplitsRow : OpenClaim := { program := "ytdgpbpbjlnlijaagreatdoor", sum := "44f73e80999272086fd6a431fac794a7baf8404d8a66a13025cc419328c76a4f", func := "annalist/annalistlaw16.GroupSplits", spec := "groupSplits", inPlace := ["internal/bytealg.abigen_runtime_cmpstring", "internal/abi.NoEscape", "math/bits.Add64"], unfollowed := true, recurses := true, named := ["annalist/group.allDays", "internal/strconv.uint64pow10", "math/bits.deBruijn32tab", "math/bits.deBruijn64tab"], plainKeys := false, apart := false, laid := [("math/bits.deBruijn32tab", laid_math_bits_deBruijn32tab), ("math/bits.deBruijn64tab", laid_math_bits_deBruijn64tab), ("internal/strconv.uint64pow10", laid_internal_strconv_uint64pow10), ("annalist/group.allDays", laid_annalist_group_allDays)] }
def GroupSplitsSaid : Prop := groupSplitsRow.holds Tryz.pinned (OpenSpec.ofChange groupSplitsSpec)

/-- ITS FALSE NEIGHBOUR: 'it returns false'. Refute it at one input. -/
def groupSplitsWrong : ChangeSpec := { name := "groupSplits", fn := fun _ => fun
  | [d1, d2, d3, d4] => { results := [.lit (.bool false)], args := [d1, d2, d3, d4] }
  | _ => none }
def GroupSplitsWrongFalsely : Prop := groupSplitsRow.holds Tryz.pinned (OpenSpec.ofChange groupSplitsWrong)

/-- 'annalistlaw14.JoinInner': WHATEVER THE INPUT: true; the input reads as it did. -/
def joinInnerSpec : ChangeSpec := { name := "joinInner", fn := fun _ => fun
  | [d1, d2, d3, d4] => { results := [.lit (.bool true)], args := [d1, d2, d3, d4] }
  | _ => none }
def joinInnerRow : OpenClaim := { program := "ytdgpbpbjlnlijaagreatdoor", sum := "44f73e80999272086fd6a431fac794a7baf8404d8a66a13025cc419328c76a4f", func := "annalist/annalistlaw14.JoinInner", spec := "joinInner", inPlace := ["internal/bytealg.abigen_runtime_cmpstring", "internal/abi.NoEscape"], unfollowed := true, recurses := true, named := ["internal/strconv.uint64pow10", "math/bits.deBruijn32tab", "math/bits.deBruijn64tab"], plainKeys := false, apart := false, laid := [("math/bits.deBruijn32tab", laid_math_bits_deBruijn32tab), ("math/bits.deBruijn64tab", laid_math_bits_deBruijn64tab), ("internal/strconv.uint64pow10", laid_internal_strconv_uint64pow10)] }
def JoinInnerSaid : Prop := joinInnerRow.holds Tryz.pinned (OpenSpec.ofChange joinInnerSpec)

/-- ITS FALSE NEIGHBOUR: 'it returns false'. Refute it at one input. -/
def joinInnerWrong : ChangeSpec := { name := "joinInner", fn := fun _ => fun
  | [d1, d2, d3, d4] => { results := [.lit (.bool false)], args := [d1, d2, d3, d4] }
  | _ => none }
def JoinInnerWrongFalsely : Prop := joinInnerRow.holds Tryz.pinned (OpenSpec.ofChange joinInnerWrong)

/-- 'annalistlaw14.JoinLeftOuter': WHATEVER THE INPUT: true; the input reads as it did. -/
def joinLeftOuterSpec : ChangeSpec := { name := "joinLeftOuter", fn := fun _ => fun
  | [d1, d2, d3, d4, d5] => { results := [.lit (.bool true)], args := [d1, d2, d3, d4, d5] }
  | _ => none }
def joinLeftOuterRow : OpenClaim := { program := "ytdgpbpbjlnlijaagreatdoor", sum := "44f73e80999272086fd6a431fac794a7baf8404d8a66a13025cc419328c76a4f", func := "annalist/annalistlaw14.JoinLeftOuter", spec := "joinLeftOuter", inPlace := ["internal/bytealg.abigen_runtime_cmpstring", "internal/abi.NoEscape"], unfollowed := true, recurses := true, named := ["internal/strconv.uint64pow10", "math/bits.deBruijn32tab", "math/bits.deBruijn64tab"], plainKeys := false, apart := false, laid := [("math/bits.deBruijn32tab", laid_math_bits_deBruijn32tab), ("math/bits.deBruijn64tab", laid_math_bits_deBruijn64tab), ("internal/strconv.uint64pow10", laid_internal_strconv_uint64pow10)] }
def JoinLeftOuterSaid : Prop := joinLeftOuterRow.holds Tryz.pinned (OpenSpec.ofChange joinLeftOuterSpec)

/-- ITS FALSE NEIGHBOUR: 'it returns false'. Refute it at one input. -/
def joinLeftOuterWrong : ChangeSpec := { name := "joinLeftOuter", fn := fun _ => fun
  | [d1, d2, d3, d4, d5] => { results := [.lit (.bool false)], args := [d1, d2, d3, d4, d5] }
  | _ => none }
def JoinLeftOuterWrongFalsely : Prop := joinLeftOuterRow.holds Tryz.pinned (OpenSpec.ofChange joinLeftOuterWrong)

/-- 'annalistlaw14.JoinSplits': WHATEVER THE INPUT: true; the input reads as it did. -/
def joinSplitsSpec : ChangeSpec := { name := "joinSplits", fn := fun _ => fun
  | [d1, d2, d3, d4] => { results := [.lit (.bool true)], args := [d1, d2, d3, d4] }
  | _ => none }
def joinSplitsRow : OpenClaim := { program := "ytdgpbpbjlnlijaagreatdoor", sum := "44f73e80999272086fd6a431fac794a7baf8404d8a66a13025cc419328c76a4f", func := "annalist/annalistlaw14.JoinSplits", spec := "joinSplits", inPlace := ["internal/bytealg.abigen_runtime_cmpstring", "internal/abi.NoEscape"], unfollowed := true, recurses := true, named := ["internal/strconv.uint64pow10", "math/bits.deBruijn32tab", "math/bits.deBruijn64tab"], plainKeys := false, apart := false, laid := [("math/bits.deBruijn32tab", laid_math_bits_deBruijn32tab), ("math/bits.deBruijn64tab", laid_math_bits_deBruijn64tab), ("internal/strconv.uint64pow10", laid_internal_strconv_uint64pow10)] }
def JoinSplitsSaid : Prop := joinSplitsRow.holds Tryz.pinned (OpenSpec.ofChange joinSplitsSpec)

/-- ITS FALSE NEIGHBOUR: 'it returns false'. Refute it at one input. -/
def joinSplitsWrong : ChangeSpec := { name := "joinSplits", fn := fun _ => fun
  | [d1, d2, d3, d4] => { results := [.lit (.bool false)], args := [d1, d2, d3, d4] }
  | _ => none }
def JoinSplitsWrongFalsely : Prop := joinSplitsRow.holds Tryz.pinned (OpenSpec.ofChange joinSplitsWrong)

/-- 'annalistlaw14.JoinNormal': WHATEVER THE INPUT: true; the input reads as it did. -/
def joinNormalSpec : ChangeSpec := { name := "joinNormal", fn := fun _ => fun
  | [d1, d2, d3] => { results := [.lit (.bool true)], args := [d1, d2, d3] }
  | _ => none }
def joinNormalRow : OpenClaim := { program := "ytdgpbpbjlnlijaagreatdoor", sum := "44f73e80999272086fd6a431fac794a7baf8404d8a66a13025cc419328c76a4f", func := "annalist/annalistlaw14.JoinNormal", spec := "joinNormal", inPlace := ["internal/bytealg.abigen_runtime_cmpstring", "internal/abi.NoEscape"], unfollowed := true, recurses := true, named := ["internal/strconv.uint64pow10", "math/bits.deBruijn32tab", "math/bits.deBruijn64tab"], plainKeys := false, apart := false, laid := [("math/bits.deBruijn32tab", laid_math_bits_deBruijn32tab), ("math/bits.deBruijn64tab", laid_math_bits_deBruijn64tab), ("internal/strconv.uint64pow10", laid_internal_strconv_uint64pow10)] }
def JoinNormalSaid : Prop := joinNormalRow.holds Tryz.pinned (OpenSpec.ofChange joinNormalSpec)

/-- ITS FALSE NEIGHBOUR: 'it returns false'. Refute it at one input. -/
def joinNormalWrong : ChangeSpec := { name := "joinNormal", fn := fun _ => fun
  | [d1, d2, d3] => { results := [.lit (.bool false)], args := [d1, d2, d3] }
  | _ => none }
def JoinNormalWrongFalsely : Prop := joinNormalRow.holds Tryz.pinned (OpenSpec.ofChange joinNormalWrong)

/-- 'annalistlaw14.JoinContains': WHATEVER THE INPUT: true; the input reads as it did. -/
def joinContainsSpec : ChangeSpec := { name := "joinContains", fn := fun _ => fun
  | [d1, d2, d3, d4] => { results := [.lit (.bool true)], args := [d1, d2, d3, d4] }
  | _ => none }
def joinContainsRow : OpenClaim := { program := "ytdgpbpbjlnlijaagreatdoor", sum := "44f73e80999272086fd6a431fac794a7baf8404d8a66a13025cc419328c76a4f", func := "annalist/annalistlaw14.JoinContains", spec := "joinContains", inPlace := ["internal/bytealg.abigen_runtime_cmpstring", "internal/abi.NoEscape"], unfollowed := true, recurses := true, named := ["internal/strconv.uint64pow10", "math/bits.deBruijn32tab", "math/bits.deBruijn64tab"], plainKeys := false, apart := false, laid := [("math/bits.deBruijn32tab", laid_math_bits_deBruijn32tab), ("math/bits.deBruijn64tab", laid_math_bits_deBruijn64tab), ("internal/strconv.uint64pow10", laid_internal_strconv_uint64pow10)] }
def JoinContainsSaid : Prop := joinContainsRow.holds Tryz.pinned (OpenSpec.ofChange joinContainsSpec)

/-- ITS FALSE NEIGHBOUR: 'it returns false'. Refute it at one input. -/
def joinContainsWrong : ChangeSpec := { name := "joinContains", fn := fun _ => fun
  | [d1, d2, d3, d4] => { results := [.lit (.bool false)], args := [d1, d2, d3, d4] }
  | _ => none }
def JoinContainsWrongFalsely : Prop := joinContainsRow.holds Tryz.pinned (OpenSpec.ofChange joinContainsWrong)

/-- 'annalistlaw14.JoinRenumber': WHATEVER THE INPUT: true; the input reads as it did. -/
def joinRenumberSpec : ChangeSpec := { name := "joinRenumber", fn := fun _ => fun
  | [d1, d2, d3] => { results := [.lit (.bool true)], args := [d1, d2, d3] }
  | _ => none }
def joinRenumberRow : OpenClaim := { program := "ytdgpbpbjlnlijaagreatdoor", sum := "44f73e80999272086fd6a431fac794a7baf8404d8a66a13025cc419328c76a4f", func := "annalist/annalistlaw14.JoinRenumber", spec := "joinRenumber", inPlace := ["internal/bytealg.abigen_runtime_cmpstring", "internal/abi.NoEscape"], unfollowed := true, recurses := true, named := ["internal/strconv.uint64pow10", "math/bits.deBruijn32tab", "math/bits.deBruijn64tab"], plainKeys := false, apart := false, laid := [("math/bits.deBruijn32tab", laid_math_bits_deBruijn32tab), ("math/bits.deBruijn64tab", laid_math_bits_deBruijn64tab), ("internal/strconv.uint64pow10", laid_internal_strconv_uint64pow10)] }
def JoinRenumberSaid : Prop := joinRenumberRow.holds Tryz.pinned (OpenSpec.ofChange joinRenumberSpec)

/-- ITS FALSE NEIGHBOUR: 'it returns false'. Refute it at one input. -/
def joinRenumberWrong : ChangeSpec := { name := "joinRenumber", fn := fun _ => fun
  | [d1, d2, d3] => { results := [.lit (.bool false)], args := [d1, d2, d3] }
  | _ => none }
def JoinRenumberWrongFalsely : Prop := joinRenumberRow.holds Tryz.pinned (OpenSpec.ofChange joinRenumberWrong)

/- THE SECOND FORM. 'bulk': how many values and letters a reading holds, each counted each time it is reached (what is shared counts as often as it is met; a slice's spare places count too). A statement '..UptoSaid' is the law's where the arguments, and the package variables that the reading takes, are together of bulk at most 1048576: NARROWER than '..Said'. Prove '..Said' where nothing that the law and all that it calls make is longer than what came in: it says more and counts as full. Else prove '..UptoSaid'. A law counts once. -/
mutual
def uptoBulk {H : Type} : DataW H → Nat
  | .lit (.string bytes) => bytes.length + 1
  | .lit _ => 1
  | .nil => 1
  | .ptr d => uptoBulk d + 1
  | .slice elems spare => uptoBulkAll elems + uptoBulkAll spare + 1
  | .agg parts => uptoBulkAll parts + 1
  | .iface _ d => uptoBulk d + 1
  | .map entries => uptoBulkEntries entries + 1
  | .held _ => 1
def uptoBulkAll {H : Type} : List (DataW H) → Nat
  | [] => 0
  | d :: r => uptoBulk d + uptoBulkAll r
def uptoBulkEntries {H : Type} : List (Lit × DataW H) → Nat
  | [] => 0
  | x :: r => uptoBulkEntry x + uptoBulkEntries r
def uptoBulkEntry {H : Type} : Lit × DataW H → Nat
  | (.string bytes, d) => bytes.length + uptoBulk d + 1
  | (_, d) => uptoBulk d + 1
 end
def uptoSmall : (H : Type) → List (DataW H) → Bool := fun _ ds => decide (uptoBulkAll ds ≤ 1048576)
def OpenSpec.upto (s : _root_.Go.ChangeSpec) : _root_.Go.OpenSpec := { _root_.Go.OpenSpec.ofChange s with cond := some uptoSmall }

/-- 'annalistlaw16.GroupDefinition', WHERE WHAT IT READS IS OF BULK AT MOST 1048576: true; the input reads as it did. -/
def groupDefinitionUptoRow : OpenClaim := { program := "ytdgpbpbjlnlijaagreatdoor", sum := "44f73e80999272086fd6a431fac794a7baf8404d8a66a13025cc419328c76a4f", func := "annalist/annalistlaw16.GroupDefinition", spec := "groupDefinition", inPlace := ["internal/bytealg.abigen_runtime_cmpstring", "internal/abi.NoEscape", "math/bits.Add64"], unfollowed := true, recurses := true, named := ["annalist/group.allDays", "internal/strconv.uint64pow10", "math/bits.deBruijn32tab", "math/bits.deBruijn64tab"], plainKeys := false, apart := false, laid := [("math/bits.deBruijn32tab", laid_math_bits_deBruijn32tab), ("math/bits.deBruijn64tab", laid_math_bits_deBruijn64tab), ("internal/strconv.uint64pow10", laid_internal_strconv_uint64pow10), ("annalist/group.allDays", laid_annalist_group_allDays)], narrowed := true }
def GroupDefinitionUptoSaid : Prop := groupDefinitionUptoRow.holds Tryz.pinned (OpenSpec.upto groupDefinitionSpec)

/-- 'annalistlaw16.GroupAlways', WHERE WHAT IT READS IS OF BULK AT MOST 1048576: true; the input reads as it did. -/
def groupAlwaysUptoRow : OpenClaim := { program := "ytdgpbpbjlnlijaagreatdoor", sum := "44f73e80999272086fd6a431fac794a7baf8404d8a66a13025cc419328c76a4f", func := "annalist/annalistlaw16.GroupAlways", spec := "groupAlways", inPlace := ["internal/bytealg.abigen_runtime_cmpstring", "internal/abi.NoEscape", "math/bits.Add64"], unfollowed := true, recurses := true, named := ["annalist/group.allDays", "internal/strconv.uint64pow10", "math/bits.deBruijn32tab", "math/bits.deBruijn64tab"], plainKeys := false, apart := false, laid := [("math/bits.deBruijn32tab", laid_math_bits_deBruijn32tab), ("math/bits.deBruijn64tab", laid_math_bits_deBruijn64tab), ("internal/strconv.uint64pow10", laid_internal_strconv_uint64pow10), ("annalist/group.allDays", laid_annalist_group_allDays)], narrowed := true }
def GroupAlwaysUptoSaid : Prop := groupAlwaysUptoRow.holds Tryz.pinned (OpenSpec.upto groupAlwaysSpec)

/-- 'annalistlaw16.GroupBounds', WHERE WHAT IT READS IS OF BULK AT MOST 1048576: true; the input reads as it did. -/
def groupBoundsUptoRow : OpenClaim := { program := "ytdgpbpbjlnlijaagreatdoor", sum := "44f73e80999272086fd6a431fac794a7baf8404d8a66a13025cc419328c76a4f", func := "annalist/annalistlaw16.GroupBounds", spec := "groupBounds", inPlace := ["internal/bytealg.abigen_runtime_cmpstring", "internal/abi.NoEscape", "math/bits.Add64"], unfollowed := true, recurses := true, named := ["annalist/group.allDays", "internal/strconv.uint64pow10", "math/bits.deBruijn32tab", "math/bits.deBruijn64tab"], plainKeys := false, apart := false, laid := [("math/bits.deBruijn32tab", laid_math_bits_deBruijn32tab), ("math/bits.deBruijn64tab", laid_math_bits_deBruijn64tab), ("internal/strconv.uint64pow10", laid_internal_strconv_uint64pow10), ("annalist/group.allDays", laid_annalist_group_allDays)], narrowed := true }
def GroupBoundsUptoSaid : Prop := groupBoundsUptoRow.holds Tryz.pinned (OpenSpec.upto groupBoundsSpec)

/-- 'annalistlaw16.GroupCounts', WHERE WHAT IT READS IS OF BULK AT MOST 1048576: true; the input reads as it did. -/
def groupCountsUptoRow : OpenClaim := { program := "ytdgpbpbjlnlijaagreatdoor", sum := "44f73e80999272086fd6a431fac794a7baf8404d8a66a13025cc419328c76a4f", func := "annalist/annalistlaw16.GroupCounts", spec := "groupCounts", inPlace := ["internal/bytealg.abigen_runtime_cmpstring", "internal/abi.NoEscape", "math/bits.Add64"], unfollowed := true, recurses := true, named := ["annalist/group.allDays", "internal/strconv.uint64pow10", "math/bits.deBruijn32tab", "math/bits.deBruijn64tab"], plainKeys := false, apart := false, laid := [("math/bits.deBruijn32tab", laid_math_bits_deBruijn32tab), ("math/bits.deBruijn64tab", laid_math_bits_deBruijn64tab), ("internal/strconv.uint64pow10", laid_internal_strconv_uint64pow10), ("annalist/group.allDays", laid_annalist_group_allDays)], narrowed := true }
def GroupCountsUptoSaid : Prop := groupCountsUptoRow.holds Tryz.pinned (OpenSpec.upto groupCountsSpec)

/-- 'annalistlaw16.GroupSplits', WHERE WHAT IT READS IS OF BULK AT MOST 1048576: true; the input reads as it did. -/
def groupSplitsUptoRow : OpenClaim := { program := "ytdgpbpbjlnlijaagreatdoor", sum := "44f73e80999272086fd6a431fac794a7baf8404d8a66a13025cc419328c76a4f", func := "annalist/annalistlaw16.GroupSplits", spec := "groupSplits", inPlace := ["internal/bytealg.abigen_runtime_cmpstring", "internal/abi.NoEscape", "math/bits.Add64"], unfollowed := true, recurses := true, named := ["annalist/group.allDays", "internal/strconv.uint64pow10", "math/bits.deBruijn32tab", "math/bits.deBruijn64tab"], plainKeys := false, apart := false, laid := [("math/bits.deBruijn32tab", laid_math_bits_deBruijn32tab), ("math/bits.deBruijn64tab", laid_math_bits_deBruijn64tab), ("internal/strconv.uint64pow10", laid_internal_strconv_uint64pow10), ("annalist/group.allDays", laid_annalist_group_allDays)], narrowed := true }
def GroupSplitsUptoSaid : Prop := groupSplitsUptoRow.holds Tryz.pinned (OpenSpec.upto groupSplitsSpec)

/-- 'annalistlaw14.JoinInner', WHERE WHAT IT READS IS OF BULK AT MOST 1048576: true; the input reads as it did. -/
def joinInnerUptoRow : OpenClaim := { program := "ytdgpbpbjlnlijaagreatdoor", sum := "44f73e80999272086fd6a431fac794a7baf8404d8a66a13025cc419328c76a4f", func := "annalist/annalistlaw14.JoinInner", spec := "joinInner", inPlace := ["internal/bytealg.abigen_runtime_cmpstring", "internal/abi.NoEscape"], unfollowed := true, recurses := true, named := ["internal/strconv.uint64pow10", "math/bits.deBruijn32tab", "math/bits.deBruijn64tab"], plainKeys := false, apart := false, laid := [("math/bits.deBruijn32tab", laid_math_bits_deBruijn32tab), ("math/bits.deBruijn64tab", laid_math_bits_deBruijn64tab), ("internal/strconv.uint64pow10", laid_internal_strconv_uint64pow10)], narrowed := true }
def JoinInnerUptoSaid : Prop := joinInnerUptoRow.holds Tryz.pinned (OpenSpec.upto joinInnerSpec)

/-- 'annalistlaw14.JoinLeftOuter', WHERE WHAT IT READS IS OF BULK AT MOST 1048576: true; the input reads as it did. -/
def joinLeftOuterUptoRow : OpenClaim := { program := "ytdgpbpbjlnlijaagreatdoor", sum := "44f73e80999272086fd6a431fac794a7baf8404d8a66a13025cc419328c76a4f", func := "annalist/annalistlaw14.JoinLeftOuter", spec := "joinLeftOuter", inPlace := ["internal/bytealg.abigen_runtime_cmpstring", "internal/abi.NoEscape"], unfollowed := true, recurses := true, named := ["internal/strconv.uint64pow10", "math/bits.deBruijn32tab", "math/bits.deBruijn64tab"], plainKeys := false, apart := false, laid := [("math/bits.deBruijn32tab", laid_math_bits_deBruijn32tab), ("math/bits.deBruijn64tab", laid_math_bits_deBruijn64tab), ("internal/strconv.uint64pow10", laid_internal_strconv_uint64pow10)], narrowed := true }
def JoinLeftOuterUptoSaid : Prop := joinLeftOuterUptoRow.holds Tryz.pinned (OpenSpec.upto joinLeftOuterSpec)

/-- 'annalistlaw14.JoinSplits', WHERE WHAT IT READS IS OF BULK AT MOST 1048576: true; the input reads as it did. -/
def joinSplitsUptoRow : OpenClaim := { program := "ytdgpbpbjlnlijaagreatdoor", sum := "44f73e80999272086fd6a431fac794a7baf8404d8a66a13025cc419328c76a4f", func := "annalist/annalistlaw14.JoinSplits", spec := "joinSplits", inPlace := ["internal/bytealg.abigen_runtime_cmpstring", "internal/abi.NoEscape"], unfollowed := true, recurses := true, named := ["internal/strconv.uint64pow10", "math/bits.deBruijn32tab", "math/bits.deBruijn64tab"], plainKeys := false, apart := false, laid := [("math/bits.deBruijn32tab", laid_math_bits_deBruijn32tab), ("math/bits.deBruijn64tab", laid_math_bits_deBruijn64tab), ("internal/strconv.uint64pow10", laid_internal_strconv_uint64pow10)], narrowed := true }
def JoinSplitsUptoSaid : Prop := joinSplitsUptoRow.holds Tryz.pinned (OpenSpec.upto joinSplitsSpec)

/-- 'annalistlaw14.JoinNormal', WHERE WHAT IT READS IS OF BULK AT MOST 1048576: true; the input reads as it did. -/
def joinNormalUptoRow : OpenClaim := { program := "ytdgpbpbjlnlijaagreatdoor", sum := "44f73e80999272086fd6a431fac794a7baf8404d8a66a13025cc419328c76a4f", func := "annalist/annalistlaw14.JoinNormal", spec := "joinNormal", inPlace := ["internal/bytealg.abigen_runtime_cmpstring", "internal/abi.NoEscape"], unfollowed := true, recurses := true, named := ["internal/strconv.uint64pow10", "math/bits.deBruijn32tab", "math/bits.deBruijn64tab"], plainKeys := false, apart := false, laid := [("math/bits.deBruijn32tab", laid_math_bits_deBruijn32tab), ("math/bits.deBruijn64tab", laid_math_bits_deBruijn64tab), ("internal/strconv.uint64pow10", laid_internal_strconv_uint64pow10)], narrowed := true }
def JoinNormalUptoSaid : Prop := joinNormalUptoRow.holds Tryz.pinned (OpenSpec.upto joinNormalSpec)

/-- 'annalistlaw14.JoinContains', WHERE WHAT IT READS IS OF BULK AT MOST 1048576: true; the input reads as it did. -/
def joinContainsUptoRow : OpenClaim := { program := "ytdgpbpbjlnlijaagreatdoor", sum := "44f73e80999272086fd6a431fac794a7baf8404d8a66a13025cc419328c76a4f", func := "annalist/annalistlaw14.JoinContains", spec := "joinContains", inPlace := ["internal/bytealg.abigen_runtime_cmpstring", "internal/abi.NoEscape"], unfollowed := true, recurses := true, named := ["internal/strconv.uint64pow10", "math/bits.deBruijn32tab", "math/bits.deBruijn64tab"], plainKeys := false, apart := false, laid := [("math/bits.deBruijn32tab", laid_math_bits_deBruijn32tab), ("math/bits.deBruijn64tab", laid_math_bits_deBruijn64tab), ("internal/strconv.uint64pow10", laid_internal_strconv_uint64pow10)], narrowed := true }
def JoinContainsUptoSaid : Prop := joinContainsUptoRow.holds Tryz.pinned (OpenSpec.upto joinContainsSpec)

/-- 'annalistlaw14.JoinRenumber', WHERE WHAT IT READS IS OF BULK AT MOST 1048576: true; the input reads as it did. -/
def joinRenumberUptoRow : OpenClaim := { program := "ytdgpbpbjlnlijaagreatdoor", sum := "44f73e80999272086fd6a431fac794a7baf8404d8a66a13025cc419328c76a4f", func := "annalist/annalistlaw14.JoinRenumber", spec := "joinRenumber", inPlace := ["internal/bytealg.abigen_runtime_cmpstring", "internal/abi.NoEscape"], unfollowed := true, recurses := true, named := ["internal/strconv.uint64pow10", "math/bits.deBruijn32tab", "math/bits.deBruijn64tab"], plainKeys := false, apart := false, laid := [("math/bits.deBruijn32tab", laid_math_bits_deBruijn32tab), ("math/bits.deBruijn64tab", laid_math_bits_deBruijn64tab), ("internal/strconv.uint64pow10", laid_internal_strconv_uint64pow10)], narrowed := true }
def JoinRenumberUptoSaid : Prop := joinRenumberUptoRow.holds Tryz.pinned (OpenSpec.upto joinRenumberSpec)

end Rows
end Go.Proofs.YtdgpbpbjlnlijaaGreatDoor
