/-
  NARROWER THAN 'FOR EVERY INPUT', by the rows' own cells (each row's printed sentence says how): AlgebraCheck: laid · AlgebraEval: laid · AlgebraQueries: laid · AlgebraOrder: laid · AlgebraLineage: laid · AlgebraFull: laid · AlgebraBalance: laid · AlgebraGroups: laid · AlgebraPushdown: laid · AlgebraLeftJoin: laid · GroupSlices: laid · JoinSlices: laid.
  DERIVED. THE GIVEN ROWS OF THIS SEAT. 12 by the template 'for every input the law returns true; each argument reads behind the call as it read before'; 0 by the template 'total and deterministic' (their statements: YtombmdaohcjokaaGreatDoorTotals.lean).
  GIVEN WITH THE SEED: the statements are not yours to turn. If you find one false, say at which input.
  Laid BY PROGRAM, IN A SANDBOX (cutbox-rows.mjs): the forced cells as the released guide's own fill.sh prints them over the translation 74b96e9cca2353dc… (all of the seat's roots in one cut). By AI agents, Wed Nov 11 2026. No macro, syntax, notation, axiom, sorry.
-/
import Derived.Test.YtombmdaohcjokaaGreatDoorChecked
import GoSem.Claim
import GoSem.ClaimJoined
import GoSem.ClaimMapViews
import Derived.JoinedTies
import Derived.KernelRfl
namespace Go.Proofs.YtombmdaohcjokaaGreatDoor
/- THE CELL 'sum', in the pinned program and in every row, IS THE sha256 OF THE DUMP (.gsa) THAT YtombmdaohcjokaaGreatDoorProg.lean LOADS. Nothing in Lean hashes anything: it is a label: what it is worth is what the hold of that sum in a sandbox is worth. -/
noncomputable def Tryz.pinned : Pinned := { name := "ytombmdaohcjokaagreatdoor", sum := "74b96e9cca2353dc357905a668e3ff6c6acefbbb57fa8647bdecf21ac064d9f4", checked := Tryz.checked }
namespace Rows
def none {H : Type} : Left H := { results := [], args := [] }

/- WHAT THE LISTED PACKAGE-LEVEL VARIABLES READ AS WHEN THE CALL BEGINS. Each datum BY PROGRAM (the guide's laid-datum.mjs) off the statement by which the dump's own 'gosem.cut.vars' lays the variable. In a bare row this is a premise. The card (YtombmdaohcjokaaGreatDoorCards.lean) ties it to the program's text. -/
def laid_math_bits_deBruijn32tab {H : Type} : DataW H := .agg [.lit (.int .u8 0), .lit (.int .u8 1), .lit (.int .u8 28), .lit (.int .u8 2), .lit (.int .u8 29), .lit (.int .u8 14), .lit (.int .u8 24), .lit (.int .u8 3), .lit (.int .u8 30), .lit (.int .u8 22), .lit (.int .u8 20), .lit (.int .u8 15), .lit (.int .u8 25), .lit (.int .u8 17), .lit (.int .u8 4), .lit (.int .u8 8), .lit (.int .u8 31), .lit (.int .u8 27), .lit (.int .u8 13), .lit (.int .u8 23), .lit (.int .u8 21), .lit (.int .u8 19), .lit (.int .u8 16), .lit (.int .u8 7), .lit (.int .u8 26), .lit (.int .u8 12), .lit (.int .u8 18), .lit (.int .u8 6), .lit (.int .u8 11), .lit (.int .u8 5), .lit (.int .u8 10), .lit (.int .u8 9)]
def laid_math_bits_deBruijn64tab {H : Type} : DataW H := .agg [.lit (.int .u8 0), .lit (.int .u8 1), .lit (.int .u8 56), .lit (.int .u8 2), .lit (.int .u8 57), .lit (.int .u8 49), .lit (.int .u8 28), .lit (.int .u8 3), .lit (.int .u8 61), .lit (.int .u8 58), .lit (.int .u8 42), .lit (.int .u8 50), .lit (.int .u8 38), .lit (.int .u8 29), .lit (.int .u8 17), .lit (.int .u8 4), .lit (.int .u8 62), .lit (.int .u8 47), .lit (.int .u8 59), .lit (.int .u8 36), .lit (.int .u8 45), .lit (.int .u8 43), .lit (.int .u8 51), .lit (.int .u8 22), .lit (.int .u8 53), .lit (.int .u8 39), .lit (.int .u8 33), .lit (.int .u8 30), .lit (.int .u8 24), .lit (.int .u8 18), .lit (.int .u8 12), .lit (.int .u8 5), .lit (.int .u8 63), .lit (.int .u8 55), .lit (.int .u8 48), .lit (.int .u8 27), .lit (.int .u8 60), .lit (.int .u8 41), .lit (.int .u8 37), .lit (.int .u8 16), .lit (.int .u8 46), .lit (.int .u8 35), .lit (.int .u8 44), .lit (.int .u8 21), .lit (.int .u8 52), .lit (.int .u8 32), .lit (.int .u8 23), .lit (.int .u8 11), .lit (.int .u8 54), .lit (.int .u8 26), .lit (.int .u8 40), .lit (.int .u8 15), .lit (.int .u8 34), .lit (.int .u8 20), .lit (.int .u8 31), .lit (.int .u8 10), .lit (.int .u8 25), .lit (.int .u8 14), .lit (.int .u8 19), .lit (.int .u8 9), .lit (.int .u8 13), .lit (.int .u8 8), .lit (.int .u8 7), .lit (.int .u8 6)]
def laid_internal_strconv_uint64pow10 {H : Type} : DataW H := .agg [.lit (.int .u64 1), .lit (.int .u64 10), .lit (.int .u64 100), .lit (.int .u64 1000), .lit (.int .u64 10000), .lit (.int .u64 100000), .lit (.int .u64 1000000), .lit (.int .u64 10000000), .lit (.int .u64 100000000), .lit (.int .u64 1000000000), .lit (.int .u64 10000000000), .lit (.int .u64 100000000000), .lit (.int .u64 1000000000000), .lit (.int .u64 10000000000000), .lit (.int .u64 100000000000000), .lit (.int .u64 1000000000000000), .lit (.int .u64 10000000000000000), .lit (.int .u64 100000000000000000), .lit (.int .u64 1000000000000000000), .lit (.int .u64 10000000000000000000)]
def laid_annalist_group_allDays {H : Type} : DataW H := .agg [.lit (.int .i64 0), .lit (.int .i64 1000000)]

/-- 'annalistlaw9.AlgebraCheck': WHATEVER THE INPUT: true; the input reads as it did. -/
def algebraCheckSpec : ChangeSpec := { name := "algebraCheck", fn := fun _ => fun
  | [d1, d2] => { results := [.lit (.bool true)], args := [d1, d2] }
  | _ => none }
def algebraCheckRow : OpenClaim := { program := "ytombmdaohcjokaagreatdoor", sum := "74b96e9cca2353dc357905a668e3ff6c6acefbbb57fa8647bdecf21ac064d9f4", func := "annalist/annalistlaw9.AlgebraCheck", spec := "algebraCheck", inPlace := ["internal/bytealg.abigen_runtime_cmpstring", "internal/abi.NoEscape", "math/bits.Add64"], unfollowed := true, recurses := true, named := ["internal/strconv.uint64pow10", "math/bits.deBruijn32tab", "math/bits.deBruijn64tab"], plainKeys := false, apart := false, laid := [("math/bits.deBruijn32tab", laid_math_bits_deBruijn32tab), ("math/bits.deBruijn64tab", laid_math_bits_deBruijn64tab), ("internal/strconv.uint64pow10", laid_internal_strconv_uint64pow10)] }
def AlgebraCheckSaid : Prop := algebraCheckRow.holds Tryz.pinned (OpenSpec.ofChange algebraCheckSpec)

/-- ITS FALSE NEIGHBOUR: 'it returns false'. Refute it at one input. -/
def algebraCheckWrong : ChangeSpec := { name := "algebraCheck", fn := fun _ => fun
  | [d1, d2] => { results := [.lit (.bool false)], args := [d1, d2] }
  | _ => none }
def AlgebraCheckWrongFalsely : Prop := algebraCheckRow.holds Tryz.pinned (OpenSpec.ofChange algebraCheckWrong)

/-- 'annalistlaw9.AlgebraEval': WHATEVER THE INPUT: true; the input reads as it did. -/
def algebraEvalSpec : ChangeSpec := { name := "algebraEval", fn := fun _ => fun
  | [d1, d2] => { results := [.lit (.bool true)], args := [d1, d2] }
  | _ => none }
def algebraEvalRow : OpenClaim := { program := "ytombmdaohcjokaagreatdoor", sum := "74b96e9cca2353dc357905a668e3ff6c6acefbbb57fa8647bdecf21ac064d9f4", func := "annalist/annalistlaw9.AlgebraEval", spec := "algebraEval", inPlace := ["internal/bytealg.abigen_runtime_cmpstring", "internal/abi.NoEscape", "math/bits.Add64"], unfollowed := true, recurses := true, named := ["internal/strconv.uint64pow10", "math/bits.deBruijn32tab", "math/bits.deBruijn64tab"], plainKeys := false, apart := false, laid := [("math/bits.deBruijn32tab", laid_math_bits_deBruijn32tab), ("math/bits.deBruijn64tab", laid_math_bits_deBruijn64tab), ("internal/strconv.uint64pow10", laid_internal_strconv_uint64pow10)] }
def AlgebraEvalSaid : Prop := algebraEvalRow.holds Tryz.pinned (OpenSpec.ofChange algebraEvalSpec)

/-- ITS FALSE NEIGHBOUR: 'it returns false'. Refute it at one input. -/
def algebraEvalWrong : ChangeSpec := { name := "algebraEval", fn := fun _ => fun
  | [d1, d2] => { results := [.lit (.bool false)], args := [d1, d2] }
  | _ => none }
def AlgebraEvalWrongFalsely : Prop := algebraEvalRow.holds Tryz.pinned (OpenSpec.ofChange algebraEvalWrong)

/-- 'annalistlaw9.AlgebraQueries': WHATEVER THE INPUT: true; the input reads as it did. -/
def algebraQueriesSpec : ChangeSpec := { name := "algebraQueries", fn := fun _ => fun
  | [d1, d2, d3] => { results := [.lit (.bool true)], args := [d1, d2, d3] }
  | _ => none }
def algebraQueriesRow : OpenClaim := { program := "ytombmdaohcjokaagreatdoor", sum := "74b96e9cca2353dc357905a668e3ff6c6acefbbb57fa8647bdecf21ac064d9f4", func := "annalist/annalistlaw9.AlgebraQueries", spec := "algebraQueries", inPlace := ["internal/bytealg.abigen_runtime_cmpstring", "internal/abi.NoEscape", "math/bits.Add64"], unfollowed := true, recurses := true, named := ["internal/strconv.uint64pow10", "math/bits.deBruijn32tab", "math/bits.deBruijn64tab"], plainKeys := false, apart := false, laid := [("math/bits.deBruijn32tab", laid_math_bits_deBruijn32tab), ("math/bits.deBruijn64tab", laid_math_bits_deBruijn64tab), ("internal/strconv.uint64pow10", laid_internal_strconv_uint64pow10)] }
def AlgebraQueriesSaid : Prop := algebraQueriesRow.holds Tryz.pinned (OpenSpec.ofChange algebraQueriesSpec)

/-- ITS FALSE NEIGHBOUR: 'it returns false'. Refute it at one input. -/
def algebraQueriesWrong : ChangeSpec := { name := "algebraQueries", fn := fun _ => fun
  | [d1, d2, d3] => { results := [.lit (.bool false)], args := [d1, d2, d3] }
  | _ => none }
def AlgebraQueriesWrongFalsely : Prop := algebraQueriesRow.holds Tryz.pinned (OpenSpec.ofChange algebraQueriesWrong)

/-- 'annalistlaw9.AlgebraOrder': WHATEVER THE INPUT: true; the input reads as it did. -/
def algebraOrderSpec : ChangeSpec := { name := "algebraOrder", fn := fun _ => fun
  | [d1, d2, d3, d4] => { results := [.lit (.bool true)], args := [d1, d2, d3, d4] }
  | _ => none }
def algebraOrderRow : OpenClaim := { program := "ytombmdaohcjokaagreatdoor", sum := "74b96e9cca2353dc357905a668e3ff6c6acefbbb57fa8647bdecf21ac064d9f4", func := "annalist/annalistlaw9.AlgebraOrder", spec := "algebraOrder", inPlace := ["internal/bytealg.abigen_runtime_cmpstring", "internal/abi.NoEscape", "math/bits.Add64"], unfollowed := true, recurses := true, named := ["internal/strconv.uint64pow10", "math/bits.deBruijn32tab", "math/bits.deBruijn64tab"], plainKeys := false, apart := false, laid := [("math/bits.deBruijn32tab", laid_math_bits_deBruijn32tab), ("math/bits.deBruijn64tab", laid_math_bits_deBruijn64tab), ("internal/strconv.uint64pow10", laid_internal_strconv_uint64pow10)] }
def AlgebraOrderSaid : Prop := algebraOrderRow.holds Tryz.pinned (OpenSpec.ofChange algebraOrderSpec)

/-- ITS FALSE NEIGHBOUR: 'it returns false'. Refute it at one input. -/
def algebraOrderWrong : ChangeSpec := { name := "algebraOrder", fn := fun _ => fun
  | [d1, d2, d3, d4] => { results := [.lit (.bool false)], args := [d1, d2, d3, d4] }
  | _ => none }
def AlgebraOrderWrongFalsely : Prop := algebraOrderRow.holds Tryz.pinned (OpenSpec.ofChange algebraOrderWrong)

/-- 'annalistlaw9.AlgebraLineage': WHATEVER THE INPUT: true; the input reads as it did. -/
def algebraLineageSpec : ChangeSpec := { name := "algebraLineage", fn := fun _ => fun
  | [d1, d2, d3] => { results := [.lit (.bool true)], args := [d1, d2, d3] }
  | _ => none }
def algebraLineageRow : OpenClaim := { program := "ytombmdaohcjokaagreatdoor", sum := "74b96e9cca2353dc357905a668e3ff6c6acefbbb57fa8647bdecf21ac064d9f4", func := "annalist/annalistlaw9.AlgebraLineage", spec := "algebraLineage", inPlace := ["internal/bytealg.abigen_runtime_cmpstring", "internal/abi.NoEscape", "math/bits.Add64"], unfollowed := true, recurses := true, named := ["internal/strconv.uint64pow10", "math/bits.deBruijn32tab", "math/bits.deBruijn64tab"], plainKeys := false, apart := false, laid := [("math/bits.deBruijn32tab", laid_math_bits_deBruijn32tab), ("math/bits.deBruijn64tab", laid_math_bits_deBruijn64tab), ("internal/strconv.uint64pow10", laid_internal_strconv_uint64pow10)] }
def AlgebraLineageSaid : Prop := algebraLineageRow.holds Tryz.pinned (OpenSpec.ofChange algebraLineageSpec)

/-- ITS FALSE NEIGHBOUR: 'it returns false'. Refute it at one input. -/
def algebraLineageWrong : ChangeSpec := { name := "algebraLineage", fn := fun _ => fun
  | [d1, d2, d3] => { results := [.lit (.bool false)], args := [d1, d2, d3] }
  | _ => none }
def AlgebraLineageWrongFalsely : Prop := algebraLineageRow.holds Tryz.pinned (OpenSpec.ofChange algebraLineageWrong)

/-- 'annalistlaw9.AlgebraFull': WHATEVER THE INPUT: true; the input reads as it did. -/
def algebraFullSpec : ChangeSpec := { name := "algebraFull", fn := fun _ => fun
  | [d1, d2] => { results := [.lit (.bool true)], args := [d1, d2] }
  | _ => none }
def algebraFullRow : OpenClaim := { program := "ytombmdaohcjokaagreatdoor", sum := "74b96e9cca2353dc357905a668e3ff6c6acefbbb57fa8647bdecf21ac064d9f4", func := "annalist/annalistlaw9.AlgebraFull", spec := "algebraFull", inPlace := ["internal/bytealg.abigen_runtime_cmpstring", "internal/abi.NoEscape", "math/bits.Add64"], unfollowed := true, recurses := true, named := ["internal/strconv.uint64pow10", "math/bits.deBruijn32tab", "math/bits.deBruijn64tab"], plainKeys := false, apart := false, laid := [("math/bits.deBruijn32tab", laid_math_bits_deBruijn32tab), ("math/bits.deBruijn64tab", laid_math_bits_deBruijn64tab), ("internal/strconv.uint64pow10", laid_internal_strconv_uint64pow10)] }
def AlgebraFullSaid : Prop := algebraFullRow.holds Tryz.pinned (OpenSpec.ofChange algebraFullSpec)

/-- ITS FALSE NEIGHBOUR: 'it returns false'. Refute it at one input. -/
def algebraFullWrong : ChangeSpec := { name := "algebraFull", fn := fun _ => fun
  | [d1, d2] => { results := [.lit (.bool false)], args := [d1, d2] }
  | _ => none }
def AlgebraFullWrongFalsely : Prop := algebraFullRow.holds Tryz.pinned (OpenSpec.ofChange algebraFullWrong)

/-- 'annalistlaw9.AlgebraBalance': WHATEVER THE INPUT: true; the input reads as it did. -/
def algebraBalanceSpec : ChangeSpec := { name := "algebraBalance", fn := fun _ => fun
  | [d1, d2] => { results := [.lit (.bool true)], args := [d1, d2] }
  | _ => none }
def algebraBalanceRow : OpenClaim := { program := "ytombmdaohcjokaagreatdoor", sum := "74b96e9cca2353dc357905a668e3ff6c6acefbbb57fa8647bdecf21ac064d9f4", func := "annalist/annalistlaw9.AlgebraBalance", spec := "algebraBalance", inPlace := ["internal/bytealg.abigen_runtime_cmpstring", "internal/abi.NoEscape", "math/bits.Add64"], unfollowed := true, recurses := true, named := ["internal/strconv.uint64pow10", "math/bits.deBruijn32tab", "math/bits.deBruijn64tab"], plainKeys := false, apart := false, laid := [("math/bits.deBruijn32tab", laid_math_bits_deBruijn32tab), ("math/bits.deBruijn64tab", laid_math_bits_deBruijn64tab), ("internal/strconv.uint64pow10", laid_internal_strconv_uint64pow10)] }
def AlgebraBalanceSaid : Prop := algebraBalanceRow.holds Tryz.pinned (OpenSpec.ofChange algebraBalanceSpec)

/-- ITS FALSE NEIGHBOUR: 'it returns false'. Refute it at one input. -/
def algebraBalanceWrong : ChangeSpec := { name := "algebraBalance", fn := fun _ => fun
  | [d1, d2] => { results := [.lit (.bool false)], args := [d1, d2] }
  | _ => none }
def AlgebraBalanceWrongFalsely : Prop := algebraBalanceRow.holds Tryz.pinned (OpenSpec.ofChange algebraBalanceWrong)

/-- 'annalistlaw9.AlgebraGroups': WHATEVER THE INPUT: true; the input reads as it did. -/
def algebraGroupsSpec : ChangeSpec := { name := "algebraGroups", fn := fun _ => fun
  | [d1, d2] => { results := [.lit (.bool true)], args := [d1, d2] }
  | _ => none }
def algebraGroupsRow : OpenClaim := { program := "ytombmdaohcjokaagreatdoor", sum := "74b96e9cca2353dc357905a668e3ff6c6acefbbb57fa8647bdecf21ac064d9f4", func := "annalist/annalistlaw9.AlgebraGroups", spec := "algebraGroups", inPlace := ["internal/bytealg.abigen_runtime_cmpstring", "internal/abi.NoEscape", "math/bits.Add64"], unfollowed := true, recurses := true, named := ["internal/strconv.uint64pow10", "math/bits.deBruijn32tab", "math/bits.deBruijn64tab"], plainKeys := false, apart := false, laid := [("math/bits.deBruijn32tab", laid_math_bits_deBruijn32tab), ("math/bits.deBruijn64tab", laid_math_bits_deBruijn64tab), ("internal/strconv.uint64pow10", laid_internal_strconv_uint64pow10)] }
def AlgebraGroupsSaid : Prop := algebraGroupsRow.holds Tryz.pinned (OpenSpec.ofChange algebraGroupsSpec)

/-- ITS FALSE NEIGHBOUR: 'it returns false'. Refute it at one input. -/
def algebraGroupsWrong : ChangeSpec := { name := "algebraGroups", fn := fun _ => fun
  | [d1, d2] => { results := [.lit (.bool false)], args := [d1, d2] }
  | _ => none }
def AlgebraGroupsWrongFalsely : Prop := algebraGroupsRow.holds Tryz.pinned (OpenSpec.ofChange algebraGroupsWrong)

/-- 'annalistlaw9.AlgebraPushdown': WHATEVER THE INPUT: true; the input reads as it did. -/
def algebraPushdownSpec : ChangeSpec := { name := "algebraPushdown", fn := fun _ => fun
  | [d1, d2, d3, d4] => { results := [.lit (.bool true)], args := [d1, d2, d3, d4] }
  | _ => none }
def algebraPushdownRow : OpenClaim := { program := "ytombmdaohcjokaagreatdoor", sum := "74b96e9cca2353dc357905a668e3ff6c6acefbbb57fa8647bdecf21ac064d9f4", func := "annalist/annalistlaw9.AlgebraPushdown", spec := "algebraPushdown", inPlace := ["internal/bytealg.abigen_runtime_cmpstring", "internal/abi.NoEscape", "math/bits.Add64"], unfollowed := true, recurses := true, named := ["internal/strconv.uint64pow10", "math/bits.deBruijn32tab", "math/bits.deBruijn64tab"], plainKeys := false, apart := false, laid := [("math/bits.deBruijn32tab", laid_math_bits_deBruijn32tab), ("math/bits.deBruijn64tab", laid_math_bits_deBruijn64tab), ("internal/strconv.uint64pow10", laid_internal_strconv_uint64pow10)] }
def AlgebraPushdownSaid : Prop := algebraPushdownRow.holds Tryz.pinned (OpenSpec.ofChange algebraPushdownSpec)

/-- ITS FALSE NEIGHBOUR: 'it returns false'. Refute it at one input. -/
def algebraPushdownWrong : ChangeSpec := { name := "algebraPushdown", fn := fun _ => fun
  | [d1, d2, d3, d4] => { results := [.lit (.bool false)], args := [d1, d2, d3, d4] }
  | _ => none }
def AlgebraPushdownWrongFalsely : Prop := algebraPushdownRow.holds Tryz.pinned (OpenSpec.ofChange algebraPushdownWrong)

/-- 'annalistlaw9.AlgebraLeftJoin': WHATEVER THE INPUT: true; the input reads as it did. -/
def algebraLeftJoinSpec : ChangeSpec := { name := "algebraLeftJoin", fn := fun _ => fun
  | [d1, d2, d3] => { results := [.lit (.bool true)], args := [d1, d2, d3] }
  | _ => none }
def algebraLeftJoinRow : OpenClaim := { program := "ytombmdaohcjokaagreatdoor", sum := "74b96e9cca2353dc357905a668e3ff6c6acefbbb57fa8647bdecf21ac064d9f4", func := "annalist/annalistlaw9.AlgebraLeftJoin", spec := "algebraLeftJoin", inPlace := ["internal/bytealg.abigen_runtime_cmpstring", "internal/abi.NoEscape", "math/bits.Add64"], unfollowed := true, recurses := true, named := ["internal/strconv.uint64pow10", "math/bits.deBruijn32tab", "math/bits.deBruijn64tab"], plainKeys := false, apart := false, laid := [("math/bits.deBruijn32tab", laid_math_bits_deBruijn32tab), ("math/bits.deBruijn64tab", laid_math_bits_deBruijn64tab), ("internal/strconv.uint64pow10", laid_internal_strconv_uint64pow10)] }
def AlgebraLeftJoinSaid : Prop := algebraLeftJoinRow.holds Tryz.pinned (OpenSpec.ofChange algebraLeftJoinSpec)

/-- ITS FALSE NEIGHBOUR: 'it returns false'. Refute it at one input. -/
def algebraLeftJoinWrong : ChangeSpec := { name := "algebraLeftJoin", fn := fun _ => fun
  | [d1, d2, d3] => { results := [.lit (.bool false)], args := [d1, d2, d3] }
  | _ => none }
def AlgebraLeftJoinWrongFalsely : Prop := algebraLeftJoinRow.holds Tryz.pinned (OpenSpec.ofChange algebraLeftJoinWrong)

/-- 'annalistlaw16.GroupSlices': WHATEVER THE INPUT: true; the input reads as it did. -/
def groupSlicesSpec : ChangeSpec := { name := "groupSlices", fn := fun _ => fun
  | [d1, d2, d3, d4] => { results := [.lit (.bool true)], args := [d1, d2, d3, d4] }
  | _ => none }
def groupSlicesRow : OpenClaim := { program := "ytombmdaohcjokaagreatdoor", sum := "74b96e9cca2353dc357905a668e3ff6c6acefbbb57fa8647bdecf21ac064d9f4", func := "annalist/annalistlaw16.GroupSlices", spec := "groupSlices", inPlace := ["internal/bytealg.abigen_runtime_cmpstring", "internal/abi.NoEscape", "math/bits.Add64"], unfollowed := true, recurses := true, named := ["internal/strconv.uint64pow10", "math/bits.deBruijn32tab", "math/bits.deBruijn64tab", "annalist/group.allDays"], plainKeys := false, apart := false, laid := [("math/bits.deBruijn32tab", laid_math_bits_deBruijn32tab), ("math/bits.deBruijn64tab", laid_math_bits_deBruijn64tab), ("internal/strconv.uint64pow10", laid_internal_strconv_uint64pow10), ("annalist/group.allDays", laid_annalist_group_allDays)] }
def GroupSlicesSaid : Prop := groupSlicesRow.holds Tryz.pinned (OpenSpec.ofChange groupSlicesSpec)

/-- ITS FALSE NEIGHBOUR: 'it returns false'. Refute it at one input. -/
def groupSlicesWrong : ChangeSpec := { name := "groupSlices", fn := fun _ => fun
  | [d1, d2, d3, d4] => { results := [.lit (.bool false)], args := [d1, d2, d3, d4] }
  | _ => none }
def GroupSlicesWrongFalsely : Prop := groupSlicesRow.holds Tryz.pinned (OpenSpec.ofChange groupSlicesWrong)

/-- 'annalistlaw14.JoinSlices': WHATEVER THE INPUT: true; the input reads as it did. -/
def joinSlicesSpec : ChangeSpec := { name := "joinSlices", fn := fun _ => fun
  | [d1, d2, d3, d4] => { results := [.lit (.bool true)], args := [d1, d2, d3, d4] }
  | _ => none }
def joinSlicesRow : OpenClaim := { program := "ytombmdaohcjokaagreatdoor", sum := "74b96e9cca2353dc357905a668e3ff6c6acefbbb57fa8647bdecf21ac064d9f4", func := "annalist/annalistlaw14.JoinSlices", spec := "joinSlices", inPlace := ["internal/bytealg.abigen_runtime_cmpstring", "internal/abi.NoEscape", "math/bits.Add64"], unfollowed := true, recurses := true, named := ["internal/strconv.uint64pow10", "math/bits.deBruijn32tab", "math/bits.deBruijn64tab"], plainKeys := false, apart := false, laid := [("math/bits.deBruijn32tab", laid_math_bits_deBruijn32tab), ("math/bits.deBruijn64tab", laid_math_bits_deBruijn64tab), ("internal/strconv.uint64pow10", laid_internal_strconv_uint64pow10)] }
def JoinSlicesSaid : Prop := joinSlicesRow.holds Tryz.pinned (OpenSpec.ofChange joinSlicesSpec)

/-- ITS FALSE NEIGHBOUR: 'it returns false'. Refute it at one input. -/
def joinSlicesWrong : ChangeSpec := { name := "joinSlices", fn := fun _ => fun
  | [d1, d2, d3, d4] => { results := [.lit (.bool false)], args := [d1, d2, d3, d4] }
  | _ => none }
def JoinSlicesWrongFalsely : Prop := joinSlicesRow.holds Tryz.pinned (OpenSpec.ofChange joinSlicesWrong)

/- THE SECOND FORM. 'bulk': how many values and letters a reading holds, each counted each time it is reached (what is shared counts as often as it is met; a slice's spare places count too). A statement '..UptoSaid' is the law's where the arguments, and the package variables that the reading takes, are together of bulk at most 1048576: NARROWER than '..Said'. Prove '..Said' where nothing that the law and all that it calls make is longer than what came in: it says more and counts as full. Else prove '..UptoSaid'. A law counts once. -/
mutual
def uptoBulk {H : Type} : DataW H → Nat
  | .lit (.string bytes) => bytes.length + 1
  | .lit _ => 1
  | .nil => 1
  | .ptr d => uptoBulk d + 1
  | .slice elems spare => uptoBulkAll elems + uptoBulkAll spare + 1
  | .agg parts => uptoBulkAll parts + 1
  | .iface _ d => uptoBulk d + 1
  | .map entries => uptoBulkEntries entries + 1
  | .held _ => 1
def uptoBulkAll {H : Type} : List (DataW H) → Nat
  | [] => 0
  | d :: r => uptoBulk d + uptoBulkAll r
def uptoBulkEntries {H : Type} : List (Lit × DataW H) → Nat
  | [] => 0
  | x :: r => uptoBulkEntry x + uptoBulkEntries r
def uptoBulkEntry {H : Type} : Lit × DataW H → Nat
  | (.string bytes, d) => bytes.length + uptoBulk d + 1
  | (_, d) => uptoBulk d + 1
 end
def uptoSmall : (H : Type) → List (DataW H) → Bool := fun _ ds => decide (uptoBulkAll ds ≤ 1048576)
def OpenSpec.upto (s : _root_.Go.ChangeSpec) : _root_.Go.OpenSpec := { _root_.Go.OpenSpec.ofChange s with cond := some uptoSmall }

/-- 'annalistlaw9.AlgebraCheck', WHERE WHAT IT READS IS OF BULK AT MOST 1048576: true; the input reads as it did. -/
def algebraCheckUptoRow : OpenClaim := { program := "ytombmdaohcjokaagreatdoor", sum := "74b96e9cca2353dc357905a668e3ff6c6acefbbb57fa8647bdecf21ac064d9f4", func := "annalist/annalistlaw9.AlgebraCheck", spec := "algebraCheck", inPlace := ["internal/bytealg.abigen_runtime_cmpstring", "internal/abi.NoEscape", "math/bits.Add64"], unfollowed := true, recurses := true, named := ["internal/strconv.uint64pow10", "math/bits.deBruijn32tab", "math/bits.deBruijn64tab"], plainKeys := false, apart := false, laid := [("math/bits.deBruijn32tab", laid_math_bits_deBruijn32tab), ("math/bits.deBruijn64tab", laid_math_bits_deBruijn64tab), ("internal/strconv.uint64pow10", laid_internal_strconv_uint64pow10)], narrowed := true }
def AlgebraCheckUptoSaid : Prop := algebraCheckUptoRow.holds Tryz.pinned (OpenSpec.upto algebraCheckSpec)

/-- 'annalistlaw9.AlgebraEval', WHERE WHAT IT READS IS OF BULK AT MOST 1048576: true; the input reads as it did. -/
def algebraEvalUptoRow : OpenClaim := { program := "ytombmdaohcjokaagreatdoor", sum := "74b96e9cca2353dc357905a668e3ff6c6acefbbb57fa8647bdecf21ac064d9f4", func := "annalist/annalistlaw9.AlgebraEval", spec := "algebraEval", inPlace := ["internal/bytealg.abigen_runtime_cmpstring", "internal/abi.NoEscape", "math/bits.Add64"], unfollowed := true, recurses := true, named := ["internal/strconv.uint64pow10", "math/bits.deBruijn32tab", "math/bits.deBruijn64tab"], plainKeys := false, apart := false, laid := [("math/bits.deBruijn32tab", laid_math_bits_deBruijn32tab), ("math/bits.deBruijn64tab", laid_math_bits_deBruijn64tab), ("internal/strconv.uint64pow10", laid_internal_strconv_uint64pow10)], narrowed := true }
def AlgebraEvalUptoSaid : Prop := algebraEvalUptoRow.holds Tryz.pinned (OpenSpec.upto algebraEvalSpec)

/-- 'annalistlaw9.AlgebraQueries', WHERE WHAT IT READS IS OF BULK AT MOST 1048576: true; the input reads as it did. -/
def algebraQueriesUptoRow : OpenClaim := { program := "ytombmdaohcjokaagreatdoor", sum := "74b96e9cca2353dc357905a668e3ff6c6acefbbb57fa8647bdecf21ac064d9f4", func := "annalist/annalistlaw9.AlgebraQueries", spec := "algebraQueries", inPlace := ["internal/bytealg.abigen_runtime_cmpstring", "internal/abi.NoEscape", "math/bits.Add64"], unfollowed := true, recurses := true, named := ["internal/strconv.uint64pow10", "math/bits.deBruijn32tab", "math/bits.deBruijn64tab"], plainKeys := false, apart := false, laid := [("math/bits.deBruijn32tab", laid_math_bits_deBruijn32tab), ("math/bits.deBruijn64tab", laid_math_bits_deBruijn64tab), ("internal/strconv.uint64pow10", laid_internal_strconv_uint64pow10)], narrowed := true }
def AlgebraQueriesUptoSaid : Prop := algebraQueriesUptoRow.holds Tryz.pinned (OpenSpec.upto algebraQueriesSpec)

/-- 'annalistlaw9.AlgebraOrder', WHERE WHAT IT READS IS OF BULK AT MOST 1048576: true; the input reads as it did. -/
def algebraOrderUptoRow : OpenClaim := { program := "ytombmdaohcjokaagreatdoor", sum := "74b96e9cca2353dc357905a668e3ff6c6acefbbb57fa8647bdecf21ac064d9f4", func := "annalist/annalistlaw9.AlgebraOrder", spec := "algebraOrder", inPlace := ["internal/bytealg.abigen_runtime_cmpstring", "internal/abi.NoEscape", "math/bits.Add64"], unfollowed := true, recurses := true, named := ["internal/strconv.uint64pow10", "math/bits.deBruijn32tab", "math/bits.deBruijn64tab"], plainKeys := false, apart := false, laid := [("math/bits.deBruijn32tab", laid_math_bits_deBruijn32tab), ("math/bits.deBruijn64tab", laid_math_bits_deBruijn64tab), ("internal/strconv.uint64pow10", laid_internal_strconv_uint64pow10)], narrowed := true }
def AlgebraOrderUptoSaid : Prop := algebraOrderUptoRow.holds Tryz.pinned (OpenSpec.upto algebraOrderSpec)

/-- 'annalistlaw9.AlgebraLineage', WHERE WHAT IT READS IS OF BULK AT MOST 1048576: true; the input reads as it did. -/
def algebraLineageUptoRow : OpenClaim := { program := "ytombmdaohcjokaagreatdoor", sum := "74b96e9cca2353dc357905a668e3ff6c6acefbbb57fa8647bdecf21ac064d9f4", func := "annalist/annalistlaw9.AlgebraLineage", spec := "algebraLineage", inPlace := ["internal/bytealg.abigen_runtime_cmpstring", "internal/abi.NoEscape", "math/bits.Add64"], unfollowed := true, recurses := true, named := ["internal/strconv.uint64pow10", "math/bits.deBruijn32tab", "math/bits.deBruijn64tab"], plainKeys := false, apart := false, laid := [("math/bits.deBruijn32tab", laid_math_bits_deBruijn32tab), ("math/bits.deBruijn64tab", laid_math_bits_deBruijn64tab), ("internal/strconv.uint64pow10", laid_internal_strconv_uint64pow10)], narrowed := true }
def AlgebraLineageUptoSaid : Prop := algebraLineageUptoRow.holds Tryz.pinned (OpenSpec.upto algebraLineageSpec)

/-- 'annalistlaw9.AlgebraFull', WHERE WHAT IT READS IS OF BULK AT MOST 1048576: true; the input reads as it did. -/
def algebraFullUptoRow : OpenClaim := { program := "ytombmdaohcjokaagreatdoor", sum := "74b96e9cca2353dc357905a668e3ff6c6acefbbb57fa8647bdecf21ac064d9f4", func := "annalist/annalistlaw9.AlgebraFull", spec := "algebraFull", inPlace := ["internal/bytealg.abigen_runtime_cmpstring", "internal/abi.NoEscape", "math/bits.Add64"], unfollowed := true, recurses := true, named := ["internal/strconv.uint64pow10", "math/bits.deBruijn32tab", "math/bits.deBruijn64tab"], plainKeys := false, apart := false, laid := [("math/bits.deBruijn32tab", laid_math_bits_deBruijn32tab), ("math/bits.deBruijn64tab", laid_math_bits_deBruijn64tab), ("internal/strconv.uint64pow10", laid_internal_strconv_uint64pow10)], narrowed := true }
def AlgebraFullUptoSaid : Prop := algebraFullUptoRow.holds Tryz.pinned (OpenSpec.upto algebraFullSpec)

/-- 'annalistlaw9.AlgebraBalance', WHERE WHAT IT READS IS OF BULK AT MOST 1048576: true; the input reads as it did. -/
def algebraBalanceUptoRow : OpenClaim := { program := "ytombmdaohcjokaagreatdoor", sum := "74b96e9cca2353dc357905a668e3ff6c6acefbbb57fa8647bdecf21ac064d9f4", func := "annalist/annalistlaw9.AlgebraBalance", spec := "algebraBalance", inPlace := ["internal/bytealg.abigen_runtime_cmpstring", "internal/abi.NoEscape", "math/bits.Add64"], unfollowed := true, recurses := true, named := ["internal/strconv.uint64pow10", "math/bits.deBruijn32tab", "math/bits.deBruijn64tab"], plainKeys := false, apart := false, laid := [("math/bits.deBruijn32tab", laid_math_bits_deBruijn32tab), ("math/bits.deBruijn64tab", laid_math_bits_deBruijn64tab), ("internal/strconv.uint64pow10", laid_internal_strconv_uint64pow10)], narrowed := true }
def AlgebraBalanceUptoSaid : Prop := algebraBalanceUptoRow.holds Tryz.pinned (OpenSpec.upto algebraBalanceSpec)

/-- 'annalistlaw9.AlgebraGroups', WHERE WHAT IT READS IS OF BULK AT MOST 1048576: true; the input reads as it did. -/
def algebraGroupsUptoRow : OpenClaim := { program := "ytombmdaohcjokaagreatdoor", sum := "74b96e9cca2353dc357905a668e3ff6c6acefbbb57fa8647bdecf21ac064d9f4", func := "annalist/annalistlaw9.AlgebraGroups", spec := "algebraGroups", inPlace := ["internal/bytealg.abigen_runtime_cmpstring", "internal/abi.NoEscape", "math/bits.Add64"], unfollowed := true, recurses := true, named := ["internal/strconv.uint64pow10", "math/bits.deBruijn32tab", "math/bits.deBruijn64tab"], plainKeys := false, apart := false, laid := [("math/bits.deBruijn32tab", laid_math_bits_deBruijn32tab), ("math/bits.deBruijn64tab", laid_math_bits_deBruijn64tab), ("internal/strconv.uint64pow10", laid_internal_strconv_uint64pow10)], narrowed := true }
def AlgebraGroupsUptoSaid : Prop := algebraGroupsUptoRow.holds Tryz.pinned (OpenSpec.upto algebraGroupsSpec)

/-- 'annalistlaw9.AlgebraPushdown', WHERE WHAT IT READS IS OF BULK AT MOST 1048576: true; the input reads as it did. -/
def algebraPushdownUptoRow : OpenClaim := { program := "ytombmdaohcjokaagreatdoor", sum := "74b96e9cca2353dc357905a668e3ff6c6acefbbb57fa8647bdecf21ac064d9f4", func := "annalist/annalistlaw9.AlgebraPushdown", spec := "algebraPushdown", inPlace := ["internal/bytealg.abigen_runtime_cmpstring", "internal/abi.NoEscape", "math/bits.Add64"], unfollowed := true, recurses := true, named := ["internal/strconv.uint64pow10", "math/bits.deBruijn32tab", "math/bits.deBruijn64tab"], plainKeys := false, apart := false, laid := [("math/bits.deBruijn32tab", laid_math_bits_deBruijn32tab), ("math/bits.deBruijn64tab", laid_math_bits_deBruijn64tab), ("internal/strconv.uint64pow10", laid_internal_strconv_uint64pow10)], narrowed := true }
def AlgebraPushdownUptoSaid : Prop := algebraPushdownUptoRow.holds Tryz.pinned (OpenSpec.upto algebraPushdownSpec)

/-- 'annalistlaw9.AlgebraLeftJoin', WHERE WHAT IT READS IS OF BULK AT MOST 1048576: true; the input reads as it did. -/
def algebraLeftJoinUptoRow : OpenClaim := { program := "ytombmdaohcjokaagreatdoor", sum := "74b96e9cca2353dc357905a668e3ff6c6acefbbb57fa8647bdecf21ac064d9f4", func := "annalist/annalistlaw9.AlgebraLeftJoin", spec := "algebraLeftJoin", inPlace := ["internal/bytealg.abigen_runtime_cmpstring", "internal/abi.NoEscape", "math/bits.Add64"], unfollowed := true, recurses := true, named := ["internal/strconv.uint64pow10", "math/bits.deBruijn32tab", "math/bits.deBruijn64tab"], plainKeys := false, apart := false, laid := [("math/bits.deBruijn32tab", laid_math_bits_deBruijn32tab), ("math/bits.deBruijn64tab", laid_math_bits_deBruijn64tab), ("internal/strconv.uint64pow10", laid_internal_strconv_uint64pow10)], narrowed := true }
def AlgebraLeftJoinUptoSaid : Prop := algebraLeftJoinUptoRow.holds Tryz.pinned (OpenSpec.upto algebraLeftJoinSpec)

/-- 'annalistlaw16.GroupSlices', WHERE WHAT IT READS IS OF BULK AT MOST 1048576: true; the input reads as it did. -/
def groupSlicesUptoRow : OpenClaim := { program := "ytombmdaohcjokaagreatdoor", sum := "74b96e9cca2353dc357905a668e3ff6c6acefbbb57fa8647bdecf21ac064d9f4", func := "annalist/annalistlaw16.GroupSlices", spec := "groupSlices", inPlace := ["internal/bytealg.abigen_runtime_cmpstring", "internal/abi.NoEscape", "math/bits.Add64"], unfollowed := true, recurses := true, named := ["internal/strconv.uint64pow10", "math/bits.deBruijn32tab", "math/bits.deBruijn64tab", "annalist/group.allDays"], plainKeys := false, apart := false, laid := [("math/bits.deBruijn32tab", laid_math_bits_deBruijn32tab), ("math/bits.deBruijn64tab", laid_math_bits_deBruijn64tab), ("internal/strconv.uint64pow10", laid_internal_strconv_uint64pow10), ("annalist/group.allDays", laid_annalist_group_allDays)], narrowed := true }
def GroupSlicesUptoSaid : Prop := groupSlicesUptoRow.holds Tryz.pinned (OpenSpec.upto groupSlicesSpec)

/-- 'annalistlaw14.JoinSlices', WHERE WHAT IT READS IS OF BULK AT MOST 1048576: true; the input reads as it did. -/
def joinSlicesUptoRow : OpenClaim := { program := "ytombmdaohcjokaagreatdoor", sum := "74b96e9cca2353dc357905a668e3ff6c6acefbbb57fa8647bdecf21ac064d9f4", func := "annalist/annalistlaw14.JoinSlices", spec := "joinSlices", inPlace := ["internal/bytealg.abigen_runtime_cmpstring", "internal/abi.NoEscape", "math/bits.Add64"], unfollowed := true, recurses := true, named := ["internal/strconv.uint64pow10", "math/bits.deBruijn32tab", "math/bits.deBruijn64tab"], plainKeys := false, apart := false, laid := [("math/bits.deBruijn32tab", laid_math_bits_deBruijn32tab), ("math/bits.deBruijn64tab", laid_math_bits_deBruijn64tab), ("internal/strconv.uint64pow10", laid_internal_strconv_uint64pow10)], narrowed := true }
def JoinSlicesUptoSaid : Prop := joinSlicesUptoRow.holds Tryz.pinned (OpenSpec.upto joinSlicesSpec)

end Rows
end Go.Proofs.YtombmdaohcjokaaGreatDoor
