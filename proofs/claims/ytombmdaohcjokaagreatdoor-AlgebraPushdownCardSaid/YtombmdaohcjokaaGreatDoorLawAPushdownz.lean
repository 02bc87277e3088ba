/- The tied card AlgebraPushdownCard: the call returns true for every input, and each argument reads as it did. Condition: the three listed package-level variables (two tables of math/bits, the table of powers of internal/strconv) start as the program's text lays them; the card ties that to the text. -/
import Derived.Test.YtombmdaohcjokaaGreatDoorRows
import Derived.Test.YtombmdaohcjokaaGreatDoorTie
import Derived.Test.YtombmdaohcjokaaGreatDoorCards
import Derived.Test.YtombmdaohcjokaaGreatDoorKX23
import Derived.Test.YtombmdaohcjokaaGreatDoorClAlgebraPushdownz
import Derived.ProofKit
import Derived.OpenShut
import Derived.ChangeOld
import Derived.Lib.SmallJoins
import Derived.Below
import Derived.LaidMore
import Derived.Stop.Joined
import Derived.SevenTiedAt
namespace Go.Proofs.YtombmdaohcjokaaGreatDoor.algebraPushdown
open Go.ChangeShapes Go.WideShapes Go.ChangeAt Go.RowKit Go.Joins

theorem own : ownKnob Tryz.prog.godebug = none := by kernel_rfl
theorem laidOut : laidOutB Tryz.prog = true := by kernel_rfl

set_option maxRecDepth 100000 in
theorem lifted (os : Os) (started : os.Started) (H : Type) (enc : TypeId × Value → H) :
    ReturnsInHanded {} Tryz.checked os 11 .any (fun w args => (Rows.algebraPushdownSpec.pre enc Tryz.prog Tryz.f11 [] false w args ∧ laidMetH Tryz.prog laid3 w) ∧ sizedMet enc Tryz.prog Tryz.f11 (OpenSpec.ofChange Rows.algebraPushdownSpec) false w args) (Rows.algebraPushdownSpec.post enc Tryz.prog Tryz.f11 false true false false) := by
  refine returnsInHanded_of_change_and (C := Tryz.checked) (X := fun w _ => laidMetH Tryz.prog laid3 w) (fun _ _ _ hh h => h.of_heap hh) own started (by kernel_rfl) Tryz.func11
    (ChangeSpec.witness_shaped (enc := enc) (C := Tryz.checked) (os := os) (X := fun w _ => laidMetH Tryz.prog laid3 w) false (World.doorLaid Tryz.prog 29 os) #[.slice none 0 0, .slice none 0 0, .agg #[.int .u16 0, .int .u16 0, .int .u16 0, .int .u16 0], .int .u8 0] 8 rfl (World.shaped_of_RefB (by kernel_rfl) (by kernel_rfl)) (by kernel_rfl) (by kernel_rfl) (by kernel_rfl) (door_met3 os _)) ?_
  intro W base args ds gs before hval0 hW _ _ hL _
  have hval : ∀ (j : Nat) t v, Tryz.f11.params[j]? = some t → args[j]? = some v → Value.okWide Tryz.prog W .any base t v := hval0
  have hW' := hW
  obtain ⟨p, q, hA0, hV, rfl, hfz, hnd⟩ := hW
  have hA : DataW.TrodAll enc Tryz.prog W 0 (fun _ => true) true Tryz.f11.params.toList args.toList ds p := hA0
  rw [Tryz.params11] at hA hval
  obtain ⟨v0, vs0, d0, ds0, p0, q0, hargs, rfl, rfl, h0, r0⟩ := trodAll_cons hA
  obtain ⟨v1, vs1, d1, ds1, p1, q1, rfl, rfl, rfl, h1, r1⟩ := trodAll_cons r0
  obtain ⟨v2, vs2, d2, ds2, p2, q2, rfl, rfl, rfl, h2, r2⟩ := trodAll_cons r1
  obtain ⟨v3, vs3, d3, ds3, p3, q3, rfl, rfl, rfl, h3, r3⟩ := trodAll_cons r2
  obtain ⟨rfl, rfl, rfl⟩ := trodAll_nil r3
  obtain rfl : args = #[v0, v1, v2, v3] := by cases args; simp_all
  obtain ⟨rfl, rfl⟩ := trodVars_none hV
  have k0 := h0
  have lt0 : ∀ x ∈ p0, x.block < W.heap.size := by obtain ⟨m, hm⟩ := k0; exact DataW.trod_lt m _ _ _ hm
  obtain ⟨a0, w0⟩ := open_arg Tryz.underlying48 opens_nums (hval 0 48 v0 rfl rfl) h0
  have k1 := h1
  have lt1 : ∀ x ∈ p1, x.block < W.heap.size := by obtain ⟨m, hm⟩ := k1; exact DataW.trod_lt m _ _ _ hm
  obtain ⟨a1, w1⟩ := open_arg Tryz.underlying48 opens_nums (hval 1 48 v1 rfl rfl) h1
  have k2 := h2
  have lt2 : ∀ x ∈ p2, x.block < W.heap.size := by obtain ⟨m, hm⟩ := k2; exact DataW.trod_lt m _ _ _ hm
  obtain ⟨a2, b2, c2, f2, rfl, wa2, wb2, wc2, wd2⟩ := open_arr4 (hval 2 70 v2 rfl rfl) h2
  have k3 := h3
  have lt3 : ∀ x ∈ p3, x.block < W.heap.size := by obtain ⟨m, hm⟩ := k3; exact DataW.trod_lt m _ _ _ hm
  obtain ⟨a3, rfl, rfl, hp3, w3⟩ := open_int Tryz.underlying5 (hval 3 5 v3 rfl rfl) h3
  have hT := of_laid3 hL
  clear hA0 hval0
  refine (AlgebraPushdown_walk v0 a0 v1 a1 a2 b2 c2 f2 a3 w0 w1 wa2 wb2 wc2 wd2 w3 hT).mono fun e W' ⟨he, bel⟩ => ?_
  subst he
  exact ⟨_, rfl, _, _, _, [], _, [], hW', trodAll_mk1 (shut_bool Tryz.underlying4 _), (trodAll_cons_mk (Below.trod laidOut (by kernel_rfl) (of_decide_eq_true (by kernel_rfl)) k0 bel lt0) (trodAll_cons_mk (Below.trod laidOut (by kernel_rfl) (of_decide_eq_true (by kernel_rfl)) k1 bel lt1) (trodAll_cons_mk (Below.trod laidOut (by kernel_rfl) (of_decide_eq_true (by kernel_rfl)) k2 bel lt2) (trodAll_cons_mk (Below.trod laidOut (by kernel_rfl) (of_decide_eq_true (by kernel_rfl)) k3 bel lt3) trodAll_mk0)))), rfl, bel.frame _, fun h => by cases h⟩

theorem hfn : Tryz.prog.funcNamed Rows.algebraPushdownRow.func = some 11 := by kernel_rfl
theorem hinst : Tryz.f11.isInstance Tryz.prog Rows.algebraPushdownRow.origin Rows.algebraPushdownRow.targs := of_decide_eq_true (by kernel_rfl)
theorem hwrap : Tryz.f11.isWrapper Tryz.prog Rows.algebraPushdownRow.wrapper Rows.algebraPushdownRow.mainSum := by
  unfold Func.isWrapper
  first
  | (rw [if_pos (by decide +kernel)]; kernel_rfl)
  | (rw [if_neg (by decide +kernel)]; exact ⟨rfl, rfl⟩)
theorem over : Rows.algebraPushdownRow.holds Tryz.pinned (OpenSpec.ofChange Rows.algebraPushdownSpec) :=
  OpenClaim.holds_of_wide 11 Tryz.f11 rfl rfl rfl rfl rfl rfl rfl ⟨rfl, rfl, rfl, rfl, rfl⟩ rfl rfl rfl rfl rfl hfn Tryz.func11 closed hinst hwrap (fun os started H enc _ => lifted os started H enc)

set_option maxRecDepth 100000 in
theorem wf : Rows.algebraPushdownRow.wfByText (OpenSpec.ofChange Rows.algebraPushdownSpec) = true := by kernel_rfl
theorem mainIs : Tryz.prog.mainIs = some (true, "b4ebeb7a3d63efefbdb92e5342c7a1a6f7d345f0b4cac0aaf43c9a3ce7f59c12".toList) := by kernel_rfl
set_option maxRecDepth 100000 in
theorem looksIs : true = Tryz.prog.looks [] := by kernel_rfl
theorem noStand : ([48, 48, 70, 5].all fun u => !Tryz.prog.wantsStandIn u) = true := by kernel_rfl
set_option maxRecDepth 100000 in
theorem goes : false = Rows.algebraPushdownRow.goesBy Tryz.prog := by kernel_rfl
theorem hl : ∀ f fn, Tryz.prog.funcNamed Rows.algebraPushdownRow.func = some f → Tryz.prog.funcs[f]? = some fn → true = Tryz.prog.looks [] ∧ ∀ (j : Nat) t, fn.params[j]? = some t → Tryz.prog.wantsStandIn t = false := fun f fn hf hfn2 => by
  obtain rfl : f = 11 := Option.some.inj (hfn.symm.trans hf) |>.symm
  obtain rfl : fn = Tryz.f11 := (Option.some.inj (Tryz.func11.symm.trans hfn2)).symm
  refine ⟨looksIs, fun j t ht => ?_⟩
  rw [Tryz.params11] at ht
  have hm : t ∈ [48, 48, 70, 5] := by simpa using Array.mem_of_getElem? ht
  exact (show Tryz.prog.wantsStandIn t = false by simpa using List.all_eq_true.1 noStand t hm)
theorem proved : Rows.AlgebraPushdownCardSaid :=
  Claim7.holds_tied_plain_at .later [] [.data, .data, .data] true (true, "b4ebeb7a3d63efefbdb92e5342c7a1a6f7d345f0b4cac0aaf43c9a3ce7f59c12") true over (fun _ h => by cases h) wf (fun _ h => by cases h) algebraPushdown_row_tie rfl ⟨rfl, rfl⟩ mainIs rfl hl goes
#print axioms proved
end Go.Proofs.YtombmdaohcjokaaGreatDoor.algebraPushdown
