/- The tied card GroupDefinitionUptoCard: the call returns true for every input whose arguments are together of bulk at most 1048576 (the given condition of the second form), and each argument reads as it did. Condition: the listed package-level variables (two tables of math/bits, the table of powers of internal/strconv, annalist/group.allDays) start as the program's text lays them; the card ties that to the text. -/
import Derived.Test.YtkddkbpoefidpaaGreatDoorRows
import Derived.Test.YtkddkbpoefidpaaGreatDoorTie
import Derived.Test.YtkddkbpoefidpaaGreatDoorCards
import Derived.Test.YtkddkbpoefidpaaGreatDoorKG25
import Derived.Test.YtkddkbpoefidpaaGreatDoorClGroupDefinitionz
import Derived.ProofKit
import Derived.OpenShut
import Derived.ChangeOld
import Derived.Lib.SmallJoins
import Derived.Below
import Derived.LaidMore
import Derived.Stop.Joined
import Derived.Deep.DeepHandedRow
import Derived.Deep.DeepWitnessRowRef
import Derived.JoinedCond
import Derived.SevenTiedAt
namespace Go.Proofs.YtkddkbpoefidpaaGreatDoor.groupDefinition
open Go.ChangeShapes Go.WideShapes Go.ChangeAt Go.RowKit Go.Joins

theorem own : ownKnob Tryz.prog.godebug = none := by kernel_rfl
theorem laidOut : laidOutB Tryz.prog = true := by kernel_rfl

set_option maxRecDepth 100000 in
theorem contract (H : Type) (enc : TypeId × Value → H) (W : World) (base : Nat) (args : Array Value) (ds gs : List (DataW H)) (before : List MemPlace)
    (hval : ∀ (j : Nat) t v, Tryz.f3.params[j]? = some t → args[j]? = some v → Value.okWide Tryz.prog W .any base t v)
    (hW : DataW.Whole enc Tryz.prog Tryz.f3.params.toList Rows.groupDefinitionSpec.vars false W args.toList ds gs before) (hk : Rows.uptoSmall H (ds ++ gs) = true) (hL : laidMetH Tryz.prog laid4 W) :
    Calls Tryz.prog 3 args W fun e W' => ∃ v, e = .returned v ∧ Rows.groupDefinitionSpec.post enc Tryz.prog Tryz.f3 false true false false W args v W' := by
  have hb : Rows.uptoBulkAll (ds ++ gs) ≤ 1048576 := of_decide_eq_true hk
  clear hk
  have hW' := hW
  obtain ⟨p, q, hA0, hV, rfl, hfz, hnd⟩ := hW
  have hA : DataW.TrodAll enc Tryz.prog W 0 (fun _ => true) true Tryz.f3.params.toList args.toList ds p := hA0
  rw [Tryz.params3] at hA hval
  obtain ⟨v0, vs0, d0, ds0, p0, q0, hargs, rfl, rfl, h0, r0⟩ := trodAll_cons hA
  obtain ⟨v1, vs1, d1, ds1, p1, q1, rfl, rfl, rfl, h1, r1⟩ := trodAll_cons r0
  obtain ⟨v2, vs2, d2, ds2, p2, q2, rfl, rfl, rfl, h2, r2⟩ := trodAll_cons r1
  obtain ⟨v3, vs3, d3, ds3, p3, q3, rfl, rfl, rfl, h3, r3⟩ := trodAll_cons r2
  obtain ⟨rfl, rfl, rfl⟩ := trodAll_nil r3
  obtain rfl : args = #[v0, v1, v2, v3] := by cases args; simp_all
  obtain ⟨rfl, rfl⟩ := trodVars_none hV
  have k0 := h0
  have lt0 : ∀ x ∈ p0, x.block < W.heap.size := by obtain ⟨m, hm⟩ := k0; exact DataW.trod_lt m _ _ _ hm
  obtain ⟨a0, w0, y0⟩ := open_argB Tryz.underlying22 opensB_tups (hval 0 22 v0 rfl rfl) h0
  have z0 : ∀ t ∈ a0, ∀ v ∈ t.vals, v.s.size ≤ 1048576 := fun t ht v hv => Nat.le_trans (y0 t ht v hv) (Nat.le_trans (bulk_part (by simp)) hb)
  have k1 := h1
  have lt1 : ∀ x ∈ p1, x.block < W.heap.size := by obtain ⟨m, hm⟩ := k1; exact DataW.trod_lt m _ _ _ hm
  obtain ⟨a1, w1, y1⟩ := open_argB Tryz.underlying23 opensB_exprs (hval 1 23 v1 rfl rfl) h1
  have z1 : ∀ x ∈ a1, x.c.s.size ≤ 1048576 := fun x hx => Nat.le_trans (y1 x hx) (Nat.le_trans (bulk_part (by simp)) hb)
  have k2 := h2
  have lt2 : ∀ x ∈ p2, x.block < W.heap.size := by obtain ⟨m, hm⟩ := k2; exact DataW.trod_lt m _ _ _ hm
  obtain ⟨a2, w2⟩ := open_arg Tryz.underlying24 opens_ints (hval 2 24 v2 rfl rfl) h2
  have k3 := h3
  have lt3 : ∀ x ∈ p3, x.block < W.heap.size := by obtain ⟨m, hm⟩ := k3; exact DataW.trod_lt m _ _ _ hm
  obtain ⟨a3, w3⟩ := open_arg Tryz.underlying25 opens_aggs (hval 3 25 v3 rfl rfl) h3
  obtain ⟨hT, hD⟩ := of_laid hL
  clear hA0
  refine (GroupDefinition_walk v0 a0 v1 a1 v2 a2 v3 a3 w0 w1 w2 w3 z0 z1 hT hD).mono fun e W' ⟨he, bel⟩ => ?_
  subst he
  exact ⟨_, rfl, _, _, _, [], _, [], hW', trodAll_mk1 (shut_bool Tryz.underlying4 _), (trodAll_cons_mk (Below.trod laidOut (by kernel_rfl) (of_decide_eq_true (by kernel_rfl)) k0 bel lt0) (trodAll_cons_mk (Below.trod laidOut (by kernel_rfl) (of_decide_eq_true (by kernel_rfl)) k1 bel lt1) (trodAll_cons_mk (Below.trod laidOut (by kernel_rfl) (of_decide_eq_true (by kernel_rfl)) k2 bel lt2) (trodAll_cons_mk (Below.trod laidOut (by kernel_rfl) (of_decide_eq_true (by kernel_rfl)) k3 bel lt3) trodAll_mk0)))), rfl, bel.frame _, fun h => by cases h⟩

set_option maxRecDepth 100000 in
theorem witness_row (os : Os) {H : Type} (enc : TypeId × Value → H) :
    (Rows.OpenSpec.upto Rows.groupDefinitionSpec).preRow enc Tryz.prog Tryz.f3 Rows.groupDefinitionUptoRow.domain false Rows.groupDefinitionUptoRow.laid ((World.doorLaid Tryz.prog 29 os).forCall (fun _ _ => 0) ⟨#[], #[.slice none 0 0, .slice none 0 0, .slice none 0 0, .slice none 0 0], []⟩).memory #[.slice none 0 0, .slice none 0 0, .slice none 0 0, .slice none 0 0] := by
  have hw : (DataW.whole enc Tryz.prog ((World.doorLaid Tryz.prog 29 os).forCall (fun _ _ => 0) ⟨#[], #[.slice none 0 0, .slice none 0 0, .slice none 0 0, .slice none 0 0], []⟩).memory Tryz.f3.params.toList Rows.groupDefinitionSpec.vars false [.slice none 0 0, .slice none 0 0, .slice none 0 0, .slice none 0 0] 8).map (fun x => (x.1, x.2.1)) = some ([.nil, .nil, .nil, .nil], []) := by kernel_rfl
  obtain ⟨⟨x1, x2, x3⟩, hx, hx1⟩ := Option.map_eq_some_iff.1 hw
  simp only [Prod.mk.injEq] at hx1
  obtain ⟨rfl, rfl⟩ := hx1
  exact OpenSpec.preRow_of_cond 8 hx (by kernel_rfl) (fun k hk => by cases hk; kernel_rfl) (by kernel_rfl) (door_met os _)
set_option maxRecDepth 100000 in
theorem lifted (os : Os) (started : os.Started) (H : Type) (enc : TypeId × Value → H) (F : Stop.Interp) :
    ReturnsInHanded {} Tryz.checked os 3 .any ((Rows.OpenSpec.upto Rows.groupDefinitionSpec).preRow enc Tryz.prog Tryz.f3 Rows.groupDefinitionUptoRow.domain false Rows.groupDefinitionUptoRow.laid) (((Rows.OpenSpec.upto Rows.groupDefinitionSpec).at F).post enc Tryz.prog Tryz.f3 false true false false) := by
  refine returnsInHanded_of_row (C := Tryz.checked) (s := Rows.OpenSpec.upto Rows.groupDefinitionSpec) own started (by kernel_rfl) Tryz.func3
    (witness_row_atRef (enc := enc) (C := Tryz.checked) false (World.doorLaid Tryz.prog 29 os) #[.slice none 0 0, .slice none 0 0, .slice none 0 0, .slice none 0 0] rfl (by kernel_rfl) (by kernel_rfl) (by kernel_rfl) (witness_row os enc)) ?_
  intro W base args ds gs before hval hW _ hcond _ hL _ _
  exact contract H enc W base args ds gs before hval hW (hcond _ rfl) hL

theorem hfn : Tryz.prog.funcNamed Rows.groupDefinitionUptoRow.func = some 3 := by kernel_rfl
theorem hinst : Tryz.f3.isInstance Tryz.prog Rows.groupDefinitionUptoRow.origin Rows.groupDefinitionUptoRow.targs := of_decide_eq_true (by kernel_rfl)
theorem hwrap : Tryz.f3.isWrapper Tryz.prog Rows.groupDefinitionUptoRow.wrapper Rows.groupDefinitionUptoRow.mainSum := by
  unfold Func.isWrapper
  first
  | (rw [if_pos (by decide +kernel)]; kernel_rfl)
  | (rw [if_neg (by decide +kernel)]; exact ⟨rfl, rfl⟩)
theorem over : Rows.groupDefinitionUptoRow.holds Tryz.pinned (Rows.OpenSpec.upto Rows.groupDefinitionSpec) :=
  OpenClaim.holds_of_cond 3 Tryz.f3 rfl rfl rfl rfl rfl rfl rfl ⟨rfl, rfl, rfl, rfl, rfl⟩ rfl rfl rfl rfl rfl hfn Tryz.func3 closed hinst hwrap (fun os started H enc _ F => by rw [OpenClaim.pre_eq_preRow]; exact lifted os started H enc F)

set_option maxRecDepth 100000 in
theorem wf : Rows.groupDefinitionUptoRow.wfByText (Rows.OpenSpec.upto Rows.groupDefinitionSpec) = true := by kernel_rfl
theorem mainIs : Tryz.prog.mainIs = some (true, "098133fadc27d79e5da989f7a8df2c1e865486f12c897ab7a9dc841c85a58d2d".toList) := by kernel_rfl
set_option maxRecDepth 100000 in
theorem looksIs : true = Tryz.prog.looks [] := by kernel_rfl
theorem noStand : ([22, 23, 24, 25].all fun u => !Tryz.prog.wantsStandIn u) = true := by kernel_rfl
set_option maxRecDepth 100000 in
theorem goes : false = Rows.groupDefinitionUptoRow.goesBy Tryz.prog := by kernel_rfl
theorem hl : ∀ f fn, Tryz.prog.funcNamed Rows.groupDefinitionUptoRow.func = some f → Tryz.prog.funcs[f]? = some fn → true = Tryz.prog.looks [] ∧ ∀ (j : Nat) t, fn.params[j]? = some t → Tryz.prog.wantsStandIn t = false := fun f fn hf hfn2 => by
  obtain rfl : f = 3 := Option.some.inj (hfn.symm.trans hf) |>.symm
  obtain rfl : fn = Tryz.f3 := (Option.some.inj (Tryz.func3.symm.trans hfn2)).symm
  refine ⟨looksIs, fun j t ht => ?_⟩
  rw [Tryz.params3] at ht
  have hm : t ∈ [22, 23, 24, 25] := by simpa using Array.mem_of_getElem? ht
  exact (show Tryz.prog.wantsStandIn t = false by simpa using List.all_eq_true.1 noStand t hm)
theorem proved : Rows.GroupDefinitionUptoCardSaid :=
  Claim7.holds_tied_plain_at .later [] [.data, .data, .data, .data] true (true, "098133fadc27d79e5da989f7a8df2c1e865486f12c897ab7a9dc841c85a58d2d") true over (fun _ h => by cases h) wf (fun _ h => by cases h) groupDefinitionUpto_row_tie rfl ⟨rfl, rfl⟩ mainIs rfl hl goes
#print axioms proved
end Go.Proofs.YtkddkbpoefidpaaGreatDoor.groupDefinition
