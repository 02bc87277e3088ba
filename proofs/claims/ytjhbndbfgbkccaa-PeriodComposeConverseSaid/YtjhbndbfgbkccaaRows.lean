/-
  No cell of these rows narrows 'for every input' (looked for: loops, veiled, ifaces, maps, wideKeys, modest, calm, conditions, laid).
  DERIVED. THE GIVEN ROWS OF THIS SEAT. 7 by the template 'for every input the law returns true; each argument reads behind the call as it read before'; 0 by the template 'total and deterministic' (their statements: YtjhbndbfgbkccaaTotals.lean).
  GIVEN WITH THE SEED: the statements are not yours to turn. If you find one false, say at which input.
  Laid BY PROGRAM, IN A SANDBOX (cutbox-rows.mjs): the forced cells as the released guide's own fill.sh prints them over the translation d6d1c2f522a22ac4… (all of the seat's roots in one cut). By AI agents, Wed Nov 11 2026. No macro, syntax, notation, axiom, sorry.
-/
import Derived.Test.YtjhbndbfgbkccaaChecked
import GoSem.Claim
import GoSem.ClaimJoined
import GoSem.ClaimMapViews
import Derived.JoinedTies
import Derived.KernelRfl
namespace Go.Proofs.Ytjhbndbfgbkccaa
/- THE CELL 'sum', in the pinned program and in every row, IS THE sha256 OF THE DUMP (.gsa) THAT YtjhbndbfgbkccaaProg.lean LOADS. Nothing in Lean hashes anything: it is a label: what it is worth is what the hold of that sum in a sandbox is worth. -/
noncomputable def Try.pinned : Pinned := { name := "ytjhbndbfgbkccaa", sum := "d6d1c2f522a22ac4b548bb50841564499b1129bdd46628b569a477a333922eda", checked := Try.checked }
namespace Rows
def none {H : Type} : Left H := { results := [], args := [] }

/-- 'annalistlaw4.PeriodConverse': WHATEVER THE INPUT: true; the input reads as it did. -/
def periodConverseSpec : ChangeSpec := { name := "periodConverse", fn := fun _ => fun
  | [d1, d2] => { results := [.lit (.bool true)], args := [d1, d2] }
  | _ => none }
def periodConverseRow : OpenClaim := { program := "ytjhbndbfgbkccaa", sum := "d6d1c2f522a22ac4b548bb50841564499b1129bdd46628b569a477a333922eda", func := "annalist/annalistlaw4.PeriodConverse", spec := "periodConverse", apart := false }
def PeriodConverseSaid : Prop := periodConverseRow.holds Try.pinned (OpenSpec.ofChange periodConverseSpec)

/-- ITS FALSE NEIGHBOUR: 'it returns false'. Refute it at one input. -/
def periodConverseWrong : ChangeSpec := { name := "periodConverse", fn := fun _ => fun
  | [d1, d2] => { results := [.lit (.bool false)], args := [d1, d2] }
  | _ => none }
def PeriodConverseWrongFalsely : Prop := periodConverseRow.holds Try.pinned (OpenSpec.ofChange periodConverseWrong)

/-- 'annalistlaw4.PeriodCompose': WHATEVER THE INPUT: true; the input reads as it did. -/
def periodComposeSpec : ChangeSpec := { name := "periodCompose", fn := fun _ => fun
  | [d1, d2] => { results := [.lit (.bool true)], args := [d1, d2] }
  | _ => none }
def periodComposeRow : OpenClaim := { program := "ytjhbndbfgbkccaa", sum := "d6d1c2f522a22ac4b548bb50841564499b1129bdd46628b569a477a333922eda", func := "annalist/annalistlaw4.PeriodCompose", spec := "periodCompose", apart := false }
def PeriodComposeSaid : Prop := periodComposeRow.holds Try.pinned (OpenSpec.ofChange periodComposeSpec)

/-- ITS FALSE NEIGHBOUR: 'it returns false'. Refute it at one input. -/
def periodComposeWrong : ChangeSpec := { name := "periodCompose", fn := fun _ => fun
  | [d1, d2] => { results := [.lit (.bool false)], args := [d1, d2] }
  | _ => none }
def PeriodComposeWrongFalsely : Prop := periodComposeRow.holds Try.pinned (OpenSpec.ofChange periodComposeWrong)

/-- 'annalistlaw4.PeriodComposeSound': WHATEVER THE INPUT: true; the input reads as it did. -/
def periodComposeSoundSpec : ChangeSpec := { name := "periodComposeSound", fn := fun _ => fun
  | [d1, d2, d3] => { results := [.lit (.bool true)], args := [d1, d2, d3] }
  | _ => none }
def periodComposeSoundRow : OpenClaim := { program := "ytjhbndbfgbkccaa", sum := "d6d1c2f522a22ac4b548bb50841564499b1129bdd46628b569a477a333922eda", func := "annalist/annalistlaw4.PeriodComposeSound", spec := "periodComposeSound", apart := false }
def PeriodComposeSoundSaid : Prop := periodComposeSoundRow.holds Try.pinned (OpenSpec.ofChange periodComposeSoundSpec)

/-- ITS FALSE NEIGHBOUR: 'it returns false'. Refute it at one input. -/
def periodComposeSoundWrong : ChangeSpec := { name := "periodComposeSound", fn := fun _ => fun
  | [d1, d2, d3] => { results := [.lit (.bool false)], args := [d1, d2, d3] }
  | _ => none }
def PeriodComposeSoundWrongFalsely : Prop := periodComposeSoundRow.holds Try.pinned (OpenSpec.ofChange periodComposeSoundWrong)

/-- 'annalistlaw4.PeriodComposeConverse': WHATEVER THE INPUT: true; the input reads as it did. -/
def periodComposeConverseSpec : ChangeSpec := { name := "periodComposeConverse", fn := fun _ => fun
  | [d1, d2] => { results := [.lit (.bool true)], args := [d1, d2] }
  | _ => none }
def periodComposeConverseRow : OpenClaim := { program := "ytjhbndbfgbkccaa", sum := "d6d1c2f522a22ac4b548bb50841564499b1129bdd46628b569a477a333922eda", func := "annalist/annalistlaw4.PeriodComposeConverse", spec := "periodComposeConverse", apart := false }
def PeriodComposeConverseSaid : Prop := periodComposeConverseRow.holds Try.pinned (OpenSpec.ofChange periodComposeConverseSpec)

/-- ITS FALSE NEIGHBOUR: 'it returns false'. Refute it at one input. -/
def periodComposeConverseWrong : ChangeSpec := { name := "periodComposeConverse", fn := fun _ => fun
  | [d1, d2] => { results := [.lit (.bool false)], args := [d1, d2] }
  | _ => none }
def PeriodComposeConverseWrongFalsely : Prop := periodComposeConverseRow.holds Try.pinned (OpenSpec.ofChange periodComposeConverseWrong)

/-- 'annalistlaw4.PeriodRelation': WHATEVER THE INPUT: true; the input reads as it did. -/
def periodRelationSpec : ChangeSpec := { name := "periodRelation", fn := fun _ => fun
  | [d1, d2, d3, d4] => { results := [.lit (.bool true)], args := [d1, d2, d3, d4] }
  | _ => none }
def periodRelationRow : OpenClaim := { program := "ytjhbndbfgbkccaa", sum := "d6d1c2f522a22ac4b548bb50841564499b1129bdd46628b569a477a333922eda", func := "annalist/annalistlaw4.PeriodRelation", spec := "periodRelation", apart := false }
def PeriodRelationSaid : Prop := periodRelationRow.holds Try.pinned (OpenSpec.ofChange periodRelationSpec)

/-- ITS FALSE NEIGHBOUR: 'it returns false'. Refute it at one input. -/
def periodRelationWrong : ChangeSpec := { name := "periodRelation", fn := fun _ => fun
  | [d1, d2, d3, d4] => { results := [.lit (.bool false)], args := [d1, d2, d3, d4] }
  | _ => none }
def PeriodRelationWrongFalsely : Prop := periodRelationRow.holds Try.pinned (OpenSpec.ofChange periodRelationWrong)

/-- 'annalistlaw4.PeriodOperations': WHATEVER THE INPUT: true; the input reads as it did. -/
def periodOperationsSpec : ChangeSpec := { name := "periodOperations", fn := fun _ => fun
  | [d1, d2] => { results := [.lit (.bool true)], args := [d1, d2] }
  | _ => none }
def periodOperationsRow : OpenClaim := { program := "ytjhbndbfgbkccaa", sum := "d6d1c2f522a22ac4b548bb50841564499b1129bdd46628b569a477a333922eda", func := "annalist/annalistlaw4.PeriodOperations", spec := "periodOperations", apart := false }
def PeriodOperationsSaid : Prop := periodOperationsRow.holds Try.pinned (OpenSpec.ofChange periodOperationsSpec)

/-- ITS FALSE NEIGHBOUR: 'it returns false'. Refute it at one input. -/
def periodOperationsWrong : ChangeSpec := { name := "periodOperations", fn := fun _ => fun
  | [d1, d2] => { results := [.lit (.bool false)], args := [d1, d2] }
  | _ => none }
def PeriodOperationsWrongFalsely : Prop := periodOperationsRow.holds Try.pinned (OpenSpec.ofChange periodOperationsWrong)

/-- 'annalistlaw4.PeriodPoints': WHATEVER THE INPUT: true; the input reads as it did. -/
def periodPointsSpec : ChangeSpec := { name := "periodPoints", fn := fun _ => fun
  | [d1, d2, d3] => { results := [.lit (.bool true)], args := [d1, d2, d3] }
  | _ => none }
def periodPointsRow : OpenClaim := { program := "ytjhbndbfgbkccaa", sum := "d6d1c2f522a22ac4b548bb50841564499b1129bdd46628b569a477a333922eda", func := "annalist/annalistlaw4.PeriodPoints", spec := "periodPoints", apart := false }
def PeriodPointsSaid : Prop := periodPointsRow.holds Try.pinned (OpenSpec.ofChange periodPointsSpec)

/-- ITS FALSE NEIGHBOUR: 'it returns false'. Refute it at one input. -/
def periodPointsWrong : ChangeSpec := { name := "periodPoints", fn := fun _ => fun
  | [d1, d2, d3] => { results := [.lit (.bool false)], args := [d1, d2, d3] }
  | _ => none }
def PeriodPointsWrongFalsely : Prop := periodPointsRow.holds Try.pinned (OpenSpec.ofChange periodPointsWrong)

/- THE SECOND FORM. 'bulk': how many values and letters a reading holds, each counted each time it is reached (what is shared counts as often as it is met; a slice's spare places count too). A statement '..UptoSaid' is the law's where the arguments, and the package variables that the reading takes, are together of bulk at most 1048576: NARROWER than '..Said'. Prove '..Said' where nothing that the law and all that it calls make is longer than what came in: it says more and counts as full. Else prove '..UptoSaid'. A law counts once. -/
mutual
def uptoBulk {H : Type} : DataW H → Nat
  | .lit (.string bytes) => bytes.length + 1
  | .lit _ => 1
  | .nil => 1
  | .ptr d => uptoBulk d + 1
  | .slice elems spare => uptoBulkAll elems + uptoBulkAll spare + 1
  | .agg parts => uptoBulkAll parts + 1
  | .iface _ d => uptoBulk d + 1
  | .map entries => uptoBulkEntries entries + 1
  | .held _ => 1
def uptoBulkAll {H : Type} : List (DataW H) → Nat
  | [] => 0
  | d :: r => uptoBulk d + uptoBulkAll r
def uptoBulkEntries {H : Type} : List (Lit × DataW H) → Nat
  | [] => 0
  | x :: r => uptoBulkEntry x + uptoBulkEntries r
def uptoBulkEntry {H : Type} : Lit × DataW H → Nat
  | (.string bytes, d) => bytes.length + uptoBulk d + 1
  | (_, d) => uptoBulk d + 1
 end
def uptoSmall : (H : Type) → List (DataW H) → Bool := fun _ ds => decide (uptoBulkAll ds ≤ 1048576)
def OpenSpec.upto (s : _root_.Go.ChangeSpec) : _root_.Go.OpenSpec := { _root_.Go.OpenSpec.ofChange s with cond := some uptoSmall }

/-- 'annalistlaw4.PeriodConverse', WHERE WHAT IT READS IS OF BULK AT MOST 1048576: true; the input reads as it did. -/
def periodConverseUptoRow : OpenClaim := { program := "ytjhbndbfgbkccaa", sum := "d6d1c2f522a22ac4b548bb50841564499b1129bdd46628b569a477a333922eda", func := "annalist/annalistlaw4.PeriodConverse", spec := "periodConverse", apart := false, narrowed := true }
def PeriodConverseUptoSaid : Prop := periodConverseUptoRow.holds Try.pinned (OpenSpec.upto periodConverseSpec)

/-- 'annalistlaw4.PeriodCompose', WHERE WHAT IT READS IS OF BULK AT MOST 1048576: true; the input reads as it did. -/
def periodComposeUptoRow : OpenClaim := { program := "ytjhbndbfgbkccaa", sum := "d6d1c2f522a22ac4b548bb50841564499b1129bdd46628b569a477a333922eda", func := "annalist/annalistlaw4.PeriodCompose", spec := "periodCompose", apart := false, narrowed := true }
def PeriodComposeUptoSaid : Prop := periodComposeUptoRow.holds Try.pinned (OpenSpec.upto periodComposeSpec)

/-- 'annalistlaw4.PeriodComposeSound', WHERE WHAT IT READS IS OF BULK AT MOST 1048576: true; the input reads as it did. -/
def periodComposeSoundUptoRow : OpenClaim := { program := "ytjhbndbfgbkccaa", sum := "d6d1c2f522a22ac4b548bb50841564499b1129bdd46628b569a477a333922eda", func := "annalist/annalistlaw4.PeriodComposeSound", spec := "periodComposeSound", apart := false, narrowed := true }
def PeriodComposeSoundUptoSaid : Prop := periodComposeSoundUptoRow.holds Try.pinned (OpenSpec.upto periodComposeSoundSpec)

/-- 'annalistlaw4.PeriodComposeConverse', WHERE WHAT IT READS IS OF BULK AT MOST 1048576: true; the input reads as it did. -/
def periodComposeConverseUptoRow : OpenClaim := { program := "ytjhbndbfgbkccaa", sum := "d6d1c2f522a22ac4b548bb50841564499b1129bdd46628b569a477a333922eda", func := "annalist/annalistlaw4.PeriodComposeConverse", spec := "periodComposeConverse", apart := false, narrowed := true }
def PeriodComposeConverseUptoSaid : Prop := periodComposeConverseUptoRow.holds Try.pinned (OpenSpec.upto periodComposeConverseSpec)

/-- 'annalistlaw4.PeriodRelation', WHERE WHAT IT READS IS OF BULK AT MOST 1048576: true; the input reads as it did. -/
def periodRelationUptoRow : OpenClaim := { program := "ytjhbndbfgbkccaa", sum := "d6d1c2f522a22ac4b548bb50841564499b1129bdd46628b569a477a333922eda", func := "annalist/annalistlaw4.PeriodRelation", spec := "periodRelation", apart := false, narrowed := true }
def PeriodRelationUptoSaid : Prop := periodRelationUptoRow.holds Try.pinned (OpenSpec.upto periodRelationSpec)

/-- 'annalistlaw4.PeriodOperations', WHERE WHAT IT READS IS OF BULK AT MOST 1048576: true; the input reads as it did. -/
def periodOperationsUptoRow : OpenClaim := { program := "ytjhbndbfgbkccaa", sum := "d6d1c2f522a22ac4b548bb50841564499b1129bdd46628b569a477a333922eda", func := "annalist/annalistlaw4.PeriodOperations", spec := "periodOperations", apart := false, narrowed := true }
def PeriodOperationsUptoSaid : Prop := periodOperationsUptoRow.holds Try.pinned (OpenSpec.upto periodOperationsSpec)

/-- 'annalistlaw4.PeriodPoints', WHERE WHAT IT READS IS OF BULK AT MOST 1048576: true; the input reads as it did. -/
def periodPointsUptoRow : OpenClaim := { program := "ytjhbndbfgbkccaa", sum := "d6d1c2f522a22ac4b548bb50841564499b1129bdd46628b569a477a333922eda", func := "annalist/annalistlaw4.PeriodPoints", spec := "periodPoints", apart := false, narrowed := true }
def PeriodPointsUptoSaid : Prop := periodPointsUptoRow.holds Try.pinned (OpenSpec.upto periodPointsSpec)

end Rows
end Go.Proofs.Ytjhbndbfgbkccaa
