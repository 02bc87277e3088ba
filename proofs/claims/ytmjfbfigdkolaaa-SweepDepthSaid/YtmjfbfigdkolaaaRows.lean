/-
  No cell of these rows narrows 'for every input' (looked for: loops, veiled, ifaces, maps, wideKeys, modest, calm, conditions, laid).
  DERIVED. THE GIVEN ROWS OF THIS SEAT. 10 by the template 'for every input the law returns true; each argument reads behind the call as it read before'; 0 by the template 'total and deterministic' (their statements: YtmjfbfigdkolaaaTotals.lean).
  GIVEN WITH THE SEED: the statements are not yours to turn. If you find one false, say at which input.
  Laid BY PROGRAM, IN A SANDBOX (cutbox-rows.mjs): the forced cells as the released guide's own fill.sh prints them over the translation f10a35245093cbff… (all of the seat's roots in one cut). By AI agents, Wed Nov 11 2026. No macro, syntax, notation, axiom, sorry.
-/
import Derived.Test.YtmjfbfigdkolaaaChecked
import GoSem.Claim
import GoSem.ClaimJoined
import GoSem.ClaimMapViews
import Derived.JoinedTies
import Derived.KernelRfl
namespace Go.Proofs.Ytmjfbfigdkolaaa
/- THE CELL 'sum', in the pinned program and in every row, IS THE sha256 OF THE DUMP (.gsa) THAT YtmjfbfigdkolaaaProg.lean LOADS. Nothing in Lean hashes anything: it is a label: what it is worth is what the hold of that sum in a sandbox is worth. -/
noncomputable def Try.pinned : Pinned := { name := "ytmjfbfigdkolaaa", sum := "f10a35245093cbffc07408fb782cd34b3dd3e58bdacf130a92fb1fe129985cec", checked := Try.checked }
namespace Rows
def none {H : Type} : Left H := { results := [], args := [] }

/-- 'annalistlaw8.BagSort': WHATEVER THE INPUT: true; the input reads as it did. -/
def bagSortSpec : ChangeSpec := { name := "bagSort", fn := fun _ => fun
  | [d1, d2] => { results := [.lit (.bool true)], args := [d1, d2] }
  | _ => none }
def bagSortRow : OpenClaim := { program := "ytmjfbfigdkolaaa", sum := "f10a35245093cbffc07408fb782cd34b3dd3e58bdacf130a92fb1fe129985cec", func := "annalist/annalistlaw8.BagSort", spec := "bagSort", inPlace := ["internal/bytealg.abigen_runtime_cmpstring"], unfollowed := true, recurses := true, apart := false }
def BagSortSaid : Prop := bagSortRow.holds Try.pinned (OpenSpec.ofChange bagSortSpec)

/-- ITS FALSE NEIGHBOUR: 'it returns false'. Refute it at one input. -/
def bagSortWrong : ChangeSpec := { name := "bagSort", fn := fun _ => fun
  | [d1, d2] => { results := [.lit (.bool false)], args := [d1, d2] }
  | _ => none }
def BagSortWrongFalsely : Prop := bagSortRow.holds Try.pinned (OpenSpec.ofChange bagSortWrong)

/-- 'annalistlaw8.BagMerge': WHATEVER THE INPUT: true; the input reads as it did. -/
def bagMergeSpec : ChangeSpec := { name := "bagMerge", fn := fun _ => fun
  | [d1, d2, d3, d4] => { results := [.lit (.bool true)], args := [d1, d2, d3, d4] }
  | _ => none }
def bagMergeRow : OpenClaim := { program := "ytmjfbfigdkolaaa", sum := "f10a35245093cbffc07408fb782cd34b3dd3e58bdacf130a92fb1fe129985cec", func := "annalist/annalistlaw8.BagMerge", spec := "bagMerge", inPlace := ["internal/bytealg.abigen_runtime_cmpstring"], unfollowed := true, recurses := true, apart := false }
def BagMergeSaid : Prop := bagMergeRow.holds Try.pinned (OpenSpec.ofChange bagMergeSpec)

/-- ITS FALSE NEIGHBOUR: 'it returns false'. Refute it at one input. -/
def bagMergeWrong : ChangeSpec := { name := "bagMerge", fn := fun _ => fun
  | [d1, d2, d3, d4] => { results := [.lit (.bool false)], args := [d1, d2, d3, d4] }
  | _ => none }
def BagMergeWrongFalsely : Prop := bagMergeRow.holds Try.pinned (OpenSpec.ofChange bagMergeWrong)

/-- 'annalistlaw8.BagPermute': WHATEVER THE INPUT: true; the input reads as it did. -/
def bagPermuteSpec : ChangeSpec := { name := "bagPermute", fn := fun _ => fun
  | [d1, d2] => { results := [.lit (.bool true)], args := [d1, d2] }
  | _ => none }
def bagPermuteRow : OpenClaim := { program := "ytmjfbfigdkolaaa", sum := "f10a35245093cbffc07408fb782cd34b3dd3e58bdacf130a92fb1fe129985cec", func := "annalist/annalistlaw8.BagPermute", spec := "bagPermute", inPlace := ["internal/bytealg.abigen_runtime_cmpstring"], unfollowed := true, recurses := true, apart := false }
def BagPermuteSaid : Prop := bagPermuteRow.holds Try.pinned (OpenSpec.ofChange bagPermuteSpec)

/-- ITS FALSE NEIGHBOUR: 'it returns false'. Refute it at one input. -/
def bagPermuteWrong : ChangeSpec := { name := "bagPermute", fn := fun _ => fun
  | [d1, d2] => { results := [.lit (.bool false)], args := [d1, d2] }
  | _ => none }
def BagPermuteWrongFalsely : Prop := bagPermuteRow.holds Try.pinned (OpenSpec.ofChange bagPermuteWrong)

/-- 'annalistlaw8.BagLineage': WHATEVER THE INPUT: true; the input reads as it did. -/
def bagLineageSpec : ChangeSpec := { name := "bagLineage", fn := fun _ => fun
  | [d1, d2, d3] => { results := [.lit (.bool true)], args := [d1, d2, d3] }
  | _ => none }
def bagLineageRow : OpenClaim := { program := "ytmjfbfigdkolaaa", sum := "f10a35245093cbffc07408fb782cd34b3dd3e58bdacf130a92fb1fe129985cec", func := "annalist/annalistlaw8.BagLineage", spec := "bagLineage", inPlace := ["internal/bytealg.abigen_runtime_cmpstring"], unfollowed := true, recurses := true, apart := false }
def BagLineageSaid : Prop := bagLineageRow.holds Try.pinned (OpenSpec.ofChange bagLineageSpec)

/-- ITS FALSE NEIGHBOUR: 'it returns false'. Refute it at one input. -/
def bagLineageWrong : ChangeSpec := { name := "bagLineage", fn := fun _ => fun
  | [d1, d2, d3] => { results := [.lit (.bool false)], args := [d1, d2, d3] }
  | _ => none }
def BagLineageWrongFalsely : Prop := bagLineageRow.holds Try.pinned (OpenSpec.ofChange bagLineageWrong)

/-- 'annalistlaw8.BagBalance': WHATEVER THE INPUT: true; the input reads as it did. -/
def bagBalanceSpec : ChangeSpec := { name := "bagBalance", fn := fun _ => fun
  | [d1, d2] => { results := [.lit (.bool true)], args := [d1, d2] }
  | _ => none }
def bagBalanceRow : OpenClaim := { program := "ytmjfbfigdkolaaa", sum := "f10a35245093cbffc07408fb782cd34b3dd3e58bdacf130a92fb1fe129985cec", func := "annalist/annalistlaw8.BagBalance", spec := "bagBalance", inPlace := ["internal/bytealg.abigen_runtime_cmpstring"], unfollowed := true, recurses := true, apart := false }
def BagBalanceSaid : Prop := bagBalanceRow.holds Try.pinned (OpenSpec.ofChange bagBalanceSpec)

/-- ITS FALSE NEIGHBOUR: 'it returns false'. Refute it at one input. -/
def bagBalanceWrong : ChangeSpec := { name := "bagBalance", fn := fun _ => fun
  | [d1, d2] => { results := [.lit (.bool false)], args := [d1, d2] }
  | _ => none }
def BagBalanceWrongFalsely : Prop := bagBalanceRow.holds Try.pinned (OpenSpec.ofChange bagBalanceWrong)

/-- 'annalistlaw8.BagDiffEmpty': WHATEVER THE INPUT: true; the input reads as it did. -/
def bagDiffEmptySpec : ChangeSpec := { name := "bagDiffEmpty", fn := fun _ => fun
  | [d1, d2] => { results := [.lit (.bool true)], args := [d1, d2] }
  | _ => none }
def bagDiffEmptyRow : OpenClaim := { program := "ytmjfbfigdkolaaa", sum := "f10a35245093cbffc07408fb782cd34b3dd3e58bdacf130a92fb1fe129985cec", func := "annalist/annalistlaw8.BagDiffEmpty", spec := "bagDiffEmpty", inPlace := ["internal/bytealg.abigen_runtime_cmpstring"], unfollowed := true, recurses := true, apart := false }
def BagDiffEmptySaid : Prop := bagDiffEmptyRow.holds Try.pinned (OpenSpec.ofChange bagDiffEmptySpec)

/-- ITS FALSE NEIGHBOUR: 'it returns false'. Refute it at one input. -/
def bagDiffEmptyWrong : ChangeSpec := { name := "bagDiffEmpty", fn := fun _ => fun
  | [d1, d2] => { results := [.lit (.bool false)], args := [d1, d2] }
  | _ => none }
def BagDiffEmptyWrongFalsely : Prop := bagDiffEmptyRow.holds Try.pinned (OpenSpec.ofChange bagDiffEmptyWrong)

/-- 'annalistlaw13.SweepPairs': WHATEVER THE INPUT: true; the input reads as it did. -/
def sweepPairsSpec : ChangeSpec := { name := "sweepPairs", fn := fun _ => fun
  | [d1, d2] => { results := [.lit (.bool true)], args := [d1, d2] }
  | _ => none }
def sweepPairsRow : OpenClaim := { program := "ytmjfbfigdkolaaa", sum := "f10a35245093cbffc07408fb782cd34b3dd3e58bdacf130a92fb1fe129985cec", func := "annalist/annalistlaw13.SweepPairs", spec := "sweepPairs", unfollowed := true, recurses := true, apart := false }
def SweepPairsSaid : Prop := sweepPairsRow.holds Try.pinned (OpenSpec.ofChange sweepPairsSpec)

/-- ITS FALSE NEIGHBOUR: 'it returns false'. Refute it at one input. -/
def sweepPairsWrong : ChangeSpec := { name := "sweepPairs", fn := fun _ => fun
  | [d1, d2] => { results := [.lit (.bool false)], args := [d1, d2] }
  | _ => none }
def SweepPairsWrongFalsely : Prop := sweepPairsRow.holds Try.pinned (OpenSpec.ofChange sweepPairsWrong)

/-- 'annalistlaw13.SweepDepth': WHATEVER THE INPUT: true; the input reads as it did. -/
def sweepDepthSpec : ChangeSpec := { name := "sweepDepth", fn := fun _ => fun
  | [d] => { results := [.lit (.bool true)], args := [d] }
  | _ => none }
def sweepDepthRow : OpenClaim := { program := "ytmjfbfigdkolaaa", sum := "f10a35245093cbffc07408fb782cd34b3dd3e58bdacf130a92fb1fe129985cec", func := "annalist/annalistlaw13.SweepDepth", spec := "sweepDepth", unfollowed := true, recurses := true, apart := false }
def SweepDepthSaid : Prop := sweepDepthRow.holds Try.pinned (OpenSpec.ofChange sweepDepthSpec)

/-- ITS FALSE NEIGHBOUR: 'it returns false'. Refute it at one input. -/
def sweepDepthWrong : ChangeSpec := { name := "sweepDepth", fn := fun _ => fun
  | [d] => { results := [.lit (.bool false)], args := [d] }
  | _ => none }
def SweepDepthWrongFalsely : Prop := sweepDepthRow.holds Try.pinned (OpenSpec.ofChange sweepDepthWrong)

/-- 'annalistlaw13.SweepSwap': WHATEVER THE INPUT: true; the input reads as it did. -/
def sweepSwapSpec : ChangeSpec := { name := "sweepSwap", fn := fun _ => fun
  | [d1, d2] => { results := [.lit (.bool true)], args := [d1, d2] }
  | _ => none }
def sweepSwapRow : OpenClaim := { program := "ytmjfbfigdkolaaa", sum := "f10a35245093cbffc07408fb782cd34b3dd3e58bdacf130a92fb1fe129985cec", func := "annalist/annalistlaw13.SweepSwap", spec := "sweepSwap", unfollowed := true, recurses := true, apart := false }
def SweepSwapSaid : Prop := sweepSwapRow.holds Try.pinned (OpenSpec.ofChange sweepSwapSpec)

/-- ITS FALSE NEIGHBOUR: 'it returns false'. Refute it at one input. -/
def sweepSwapWrong : ChangeSpec := { name := "sweepSwap", fn := fun _ => fun
  | [d1, d2] => { results := [.lit (.bool false)], args := [d1, d2] }
  | _ => none }
def SweepSwapWrongFalsely : Prop := sweepSwapRow.holds Try.pinned (OpenSpec.ofChange sweepSwapWrong)

/-- 'annalistlaw13.SweepArea': WHATEVER THE INPUT: true; the input reads as it did. -/
def sweepAreaSpec : ChangeSpec := { name := "sweepArea", fn := fun _ => fun
  | [d] => { results := [.lit (.bool true)], args := [d] }
  | _ => none }
def sweepAreaRow : OpenClaim := { program := "ytmjfbfigdkolaaa", sum := "f10a35245093cbffc07408fb782cd34b3dd3e58bdacf130a92fb1fe129985cec", func := "annalist/annalistlaw13.SweepArea", spec := "sweepArea", unfollowed := true, recurses := true, apart := false }
def SweepAreaSaid : Prop := sweepAreaRow.holds Try.pinned (OpenSpec.ofChange sweepAreaSpec)

/-- ITS FALSE NEIGHBOUR: 'it returns false'. Refute it at one input. -/
def sweepAreaWrong : ChangeSpec := { name := "sweepArea", fn := fun _ => fun
  | [d] => { results := [.lit (.bool false)], args := [d] }
  | _ => none }
def SweepAreaWrongFalsely : Prop := sweepAreaRow.holds Try.pinned (OpenSpec.ofChange sweepAreaWrong)

/- THE SECOND FORM. 'bulk': how many values and letters a reading holds, each counted each time it is reached (what is shared counts as often as it is met; a slice's spare places count too). A statement '..UptoSaid' is the law's where the arguments, and the package variables that the reading takes, are together of bulk at most 1048576: NARROWER than '..Said'. Prove '..Said' where nothing that the law and all that it calls make is longer than what came in: it says more and counts as full. Else prove '..UptoSaid'. A law counts once. -/
mutual
def uptoBulk {H : Type} : DataW H → Nat
  | .lit (.string bytes) => bytes.length + 1
  | .lit _ => 1
  | .nil => 1
  | .ptr d => uptoBulk d + 1
  | .slice elems spare => uptoBulkAll elems + uptoBulkAll spare + 1
  | .agg parts => uptoBulkAll parts + 1
  | .iface _ d => uptoBulk d + 1
  | .map entries => uptoBulkEntries entries + 1
  | .held _ => 1
def uptoBulkAll {H : Type} : List (DataW H) → Nat
  | [] => 0
  | d :: r => uptoBulk d + uptoBulkAll r
def uptoBulkEntries {H : Type} : List (Lit × DataW H) → Nat
  | [] => 0
  | x :: r => uptoBulkEntry x + uptoBulkEntries r
def uptoBulkEntry {H : Type} : Lit × DataW H → Nat
  | (.string bytes, d) => bytes.length + uptoBulk d + 1
  | (_, d) => uptoBulk d + 1
 end
def uptoSmall : (H : Type) → List (DataW H) → Bool := fun _ ds => decide (uptoBulkAll ds ≤ 1048576)
def OpenSpec.upto (s : _root_.Go.ChangeSpec) : _root_.Go.OpenSpec := { _root_.Go.OpenSpec.ofChange s with cond := some uptoSmall }

/-- 'annalistlaw8.BagSort', WHERE WHAT IT READS IS OF BULK AT MOST 1048576: true; the input reads as it did. -/
def bagSortUptoRow : OpenClaim := { program := "ytmjfbfigdkolaaa", sum := "f10a35245093cbffc07408fb782cd34b3dd3e58bdacf130a92fb1fe129985cec", func := "annalist/annalistlaw8.BagSort", spec := "bagSort", inPlace := ["internal/bytealg.abigen_runtime_cmpstring"], unfollowed := true, recurses := true, apart := false, narrowed := true }
def BagSortUptoSaid : Prop := bagSortUptoRow.holds Try.pinned (OpenSpec.upto bagSortSpec)

/-- 'annalistlaw8.BagMerge', WHERE WHAT IT READS IS OF BULK AT MOST 1048576: true; the input reads as it did. -/
def bagMergeUptoRow : OpenClaim := { program := "ytmjfbfigdkolaaa", sum := "f10a35245093cbffc07408fb782cd34b3dd3e58bdacf130a92fb1fe129985cec", func := "annalist/annalistlaw8.BagMerge", spec := "bagMerge", inPlace := ["internal/bytealg.abigen_runtime_cmpstring"], unfollowed := true, recurses := true, apart := false, narrowed := true }
def BagMergeUptoSaid : Prop := bagMergeUptoRow.holds Try.pinned (OpenSpec.upto bagMergeSpec)

/-- 'annalistlaw8.BagPermute', WHERE WHAT IT READS IS OF BULK AT MOST 1048576: true; the input reads as it did. -/
def bagPermuteUptoRow : OpenClaim := { program := "ytmjfbfigdkolaaa", sum := "f10a35245093cbffc07408fb782cd34b3dd3e58bdacf130a92fb1fe129985cec", func := "annalist/annalistlaw8.BagPermute", spec := "bagPermute", inPlace := ["internal/bytealg.abigen_runtime_cmpstring"], unfollowed := true, recurses := true, apart := false, narrowed := true }
def BagPermuteUptoSaid : Prop := bagPermuteUptoRow.holds Try.pinned (OpenSpec.upto bagPermuteSpec)

/-- 'annalistlaw8.BagLineage', WHERE WHAT IT READS IS OF BULK AT MOST 1048576: true; the input reads as it did. -/
def bagLineageUptoRow : OpenClaim := { program := "ytmjfbfigdkolaaa", sum := "f10a35245093cbffc07408fb782cd34b3dd3e58bdacf130a92fb1fe129985cec", func := "annalist/annalistlaw8.BagLineage", spec := "bagLineage", inPlace := ["internal/bytealg.abigen_runtime_cmpstring"], unfollowed := true, recurses := true, apart := false, narrowed := true }
def BagLineageUptoSaid : Prop := bagLineageUptoRow.holds Try.pinned (OpenSpec.upto bagLineageSpec)

/-- 'annalistlaw8.BagBalance', WHERE WHAT IT READS IS OF BULK AT MOST 1048576: true; the input reads as it did. -/
def bagBalanceUptoRow : OpenClaim := { program := "ytmjfbfigdkolaaa", sum := "f10a35245093cbffc07408fb782cd34b3dd3e58bdacf130a92fb1fe129985cec", func := "annalist/annalistlaw8.BagBalance", spec := "bagBalance", inPlace := ["internal/bytealg.abigen_runtime_cmpstring"], unfollowed := true, recurses := true, apart := false, narrowed := true }
def BagBalanceUptoSaid : Prop := bagBalanceUptoRow.holds Try.pinned (OpenSpec.upto bagBalanceSpec)

/-- 'annalistlaw8.BagDiffEmpty', WHERE WHAT IT READS IS OF BULK AT MOST 1048576: true; the input reads as it did. -/
def bagDiffEmptyUptoRow : OpenClaim := { program := "ytmjfbfigdkolaaa", sum := "f10a35245093cbffc07408fb782cd34b3dd3e58bdacf130a92fb1fe129985cec", func := "annalist/annalistlaw8.BagDiffEmpty", spec := "bagDiffEmpty", inPlace := ["internal/bytealg.abigen_runtime_cmpstring"], unfollowed := true, recurses := true, apart := false, narrowed := true }
def BagDiffEmptyUptoSaid : Prop := bagDiffEmptyUptoRow.holds Try.pinned (OpenSpec.upto bagDiffEmptySpec)

/-- 'annalistlaw13.SweepPairs', WHERE WHAT IT READS IS OF BULK AT MOST 1048576: true; the input reads as it did. -/
def sweepPairsUptoRow : OpenClaim := { program := "ytmjfbfigdkolaaa", sum := "f10a35245093cbffc07408fb782cd34b3dd3e58bdacf130a92fb1fe129985cec", func := "annalist/annalistlaw13.SweepPairs", spec := "sweepPairs", unfollowed := true, recurses := true, apart := false, narrowed := true }
def SweepPairsUptoSaid : Prop := sweepPairsUptoRow.holds Try.pinned (OpenSpec.upto sweepPairsSpec)

/-- 'annalistlaw13.SweepDepth', WHERE WHAT IT READS IS OF BULK AT MOST 1048576: true; the input reads as it did. -/
def sweepDepthUptoRow : OpenClaim := { program := "ytmjfbfigdkolaaa", sum := "f10a35245093cbffc07408fb782cd34b3dd3e58bdacf130a92fb1fe129985cec", func := "annalist/annalistlaw13.SweepDepth", spec := "sweepDepth", unfollowed := true, recurses := true, apart := false, narrowed := true }
def SweepDepthUptoSaid : Prop := sweepDepthUptoRow.holds Try.pinned (OpenSpec.upto sweepDepthSpec)

/-- 'annalistlaw13.SweepSwap', WHERE WHAT IT READS IS OF BULK AT MOST 1048576: true; the input reads as it did. -/
def sweepSwapUptoRow : OpenClaim := { program := "ytmjfbfigdkolaaa", sum := "f10a35245093cbffc07408fb782cd34b3dd3e58bdacf130a92fb1fe129985cec", func := "annalist/annalistlaw13.SweepSwap", spec := "sweepSwap", unfollowed := true, recurses := true, apart := false, narrowed := true }
def SweepSwapUptoSaid : Prop := sweepSwapUptoRow.holds Try.pinned (OpenSpec.upto sweepSwapSpec)

/-- 'annalistlaw13.SweepArea', WHERE WHAT IT READS IS OF BULK AT MOST 1048576: true; the input reads as it did. -/
def sweepAreaUptoRow : OpenClaim := { program := "ytmjfbfigdkolaaa", sum := "f10a35245093cbffc07408fb782cd34b3dd3e58bdacf130a92fb1fe129985cec", func := "annalist/annalistlaw13.SweepArea", spec := "sweepArea", unfollowed := true, recurses := true, apart := false, narrowed := true }
def SweepAreaUptoSaid : Prop := sweepAreaUptoRow.holds Try.pinned (OpenSpec.upto sweepAreaSpec)

end Rows
end Go.Proofs.Ytmjfbfigdkolaaa
