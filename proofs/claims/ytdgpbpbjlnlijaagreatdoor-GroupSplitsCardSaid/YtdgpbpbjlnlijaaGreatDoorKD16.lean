/- joined texts of a proof: GrpY, GrpX, SortedV, PlainM, PlainJ, HeapA -/
import Derived.Test.YtdgpbpbjlnlijaaGreatDoorKD14
import Derived.Test.YtdgpbpbjlnlijaaGreatDoorKD15
import Derived.RangeFuncBox
import Derived.RangeFuncLeaves
import Derived.Shelf.Abstract
import Derived.WalkKit
import Derived.OwnWalkIn
import Derived.TacticsInMore
import Derived.LoopNIn
import Derived.LoopIn
import Derived.Maps.AppendAt
import Derived.Test.YtdgpbpbjlnlijaaGreatDoorKD05
import Derived.Test.YtdgpbpbjlnlijaaGreatDoorKD07
import Derived.Test.YtdgpbpbjlnlijaaGreatDoorKD06
import Derived.Test.YtdgpbpbjlnlijaaGreatDoorKD10
import Derived.Test.YtdgpbpbjlnlijaaGreatDoorKD04
import Derived.Test.YtdgpbpbjlnlijaaGreatDoorKD01
import Derived.Shelf.SlSortCmp.KitK
import Derived.Sort.WalkB2
import Derived.Sort.WalkB12
import Derived.Deep.LoopGhost

/- rows of all aggregates: the contract, the bounds -/
namespace Go.Proofs.YtdgpbpbjlnlijaaGreatDoor
open Go.RowKit Go.Maps

def aggsL (c : Int) : List AggI := [⟨1, 0⟩, ⟨2, 0⟩, ⟨3, c⟩, ⟨4, c⟩]
def aggF (a : AggI) (vss : List (List Val)) : Val := aggVal a.kind a.arg vss
def allV (c : Int) (vss : List (List Val)) : List Val := (aggsL c).map fun a => aggF a vss
theorem exC_col (i : Nat) (h : i < exC.length) : exC[i].col = i := by
  match i, h with
  | 0, _ => rfl
  | 1, _ => rfl
theorem ok_sumV (xs : List Val) : okVal (sumV xs) := by
  unfold sumV
  split
  · rename_i h
    exact ⟨by simp [intVal], by simp only [intVal]; omega, by simp [intVal, maxLen]⟩
  · exact ok_nV
theorem ok_aggVal {k c : Int} {vss : List (List Val)} (hl : vss.length ≤ 4096) (h : ∀ vs ∈ vss, ∀ v ∈ vs, okVal v) : okVal (aggVal k c vss) := by
  unfold aggVal
  split
  · exact ⟨by simp [intVal], by simp only [intVal]; omega, by simp [intVal, maxLen]⟩
  split
  · exact ok_sumV _
  split
  · exact ok_nV
  rename_i hne
  split
  · exact args_ok h _ (pickMin_law hne).1
  split
  · exact args_ok h _ (pickMax_mem hne)
  · exact ok_nV
theorem fit_colAt {vs : List Val} (h : ∀ v ∈ vs, v.s.size ≤ 1048576) (c : Int) : (colAt vs c).s.size ≤ 1048576 := by
  unfold colAt
  split
  · rename_i hc
    have hlt : c.toNat < vs.length := by omega
    rw [List.getD_eq_getElem?_getD, List.getElem?_eq_getElem hlt]
    exact h _ (List.getElem_mem _)
  · exact Nat.zero_le _
theorem fit_args {c : Int} {vss : List (List Val)} (h : ∀ vs ∈ vss, ∀ v ∈ vs, v.s.size ≤ 1048576) : ∀ v ∈ argsC c vss, v.s.size ≤ 1048576 := fun v hv => by
  obtain ⟨vs, h1, rfl⟩ := List.mem_map.1 (List.mem_filter.1 hv).1
  exact fit_colAt (h vs h1) c
theorem fit_aggVal {k c : Int} {vss : List (List Val)} (h : ∀ vs ∈ vss, ∀ v ∈ vs, v.s.size ≤ 1048576) : (aggVal k c vss).s.size ≤ 1048576 := by
  unfold aggVal
  split
  · exact Nat.zero_le _
  split
  · unfold sumV; split
    · exact Nat.zero_le _
    · exact Nat.zero_le _
  split
  · exact Nat.zero_le _
  rename_i hne
  split
  · exact fit_args h _ (pickMin_law hne).1
  split
  · exact fit_args h _ (pickMax_mem hne)
  · exact Nat.zero_le _
theorem all_fit {l : List Tup} (hf : ∀ t ∈ l, fitVals t.vals ∧ t.lin.length ≤ 256) (c : Int) : ∀ vss : List (List Val), (∀ vs ∈ vss, ∃ u ∈ l, vs = u.vals) → (allV c vss).length ≤ 1000 ∧ ∀ x ∈ allV c vss, x.s.size ≤ 1048576 := fun vss h => by
  refine ⟨by simp [allV, aggsL], fun x hx => ?_⟩
  obtain ⟨a, _, rfl⟩ := List.mem_map.1 hx
  exact fit_aggVal fun vs hvs v hv => by
    obtain ⟨u, hu, rfl⟩ := h vs hvs
    exact (hf u hu).1.2 v hv
theorem tups_ok {h : View} {v : Value} {l : List Tup} (k : SliceOf Rep.tup h v l) : ∀ t ∈ l, ∀ x ∈ t.vals, okVal x := by
  intro t ht
  obtain ⟨i, hi, rfl⟩ := List.getElem_of_mem ht
  obtain ⟨p, cap, rfl, _, _, hp⟩ := k.form
  obtain ⟨b, o, rfl⟩ := hp (by decide) (by omega)
  obtain ⟨_, _, _, _, _, _, g, _⟩ := tup_at k i hi
  exact vals_ok g
theorem rowLaw_all {w : World} {ve va : Value} {l : List Tup} {K : Nat} {c : Int} (hc : c = 0 ∨ c = 1) (he : SliceOf Rep.expr w.cell? ve exC) (ha : SliceOf Rep.agg w.cell? va (aggsL c)) (hK : K ≤ 1000) (hl : l.length ≤ 400) (hf : ∀ t ∈ l, fitVals t.vals ∧ t.lin.length ≤ 256) : RowLaw w ve va l K (allV c) := by
  intro G kv key tv ms t w1 hx h0 h1 hk hkl hm hml hmm
  obtain ⟨pe, ce, hve, _⟩ := he.form
  have hmv : (memV ms t).length ≤ 400 := by unfold memV; rw [List.length_map]; exact Nat.le_trans (List.length_filter_le _ _) (by omega)
  have hok : ∀ vs ∈ memV ms t, ∀ v ∈ vs, okVal v := fun vs hvs => by
    obtain ⟨m, hm1, rfl⟩ := List.mem_map.1 hvs
    exact tups_ok hm m (List.mem_filter.1 hm1).1
  refine row_gen G ve va (aggsL c) kv key tv ms t w1 h0 ⟨_, _, _, hve⟩ h1 (ha.ext hx.full) aggF (fun a hma => ⟨ok_aggVal (by omega) hok, fun mv wx hwx hmv2 => ?_⟩) (by simp [aggsL]) hk (by omega) hm (by omega) (fun m hm' => by obtain ⟨u, hu, _, e⟩ := hmm m hm'; rw [e]; exact (hf u hu).2)
  have hsz : ∀ i : Nat, i < exC.length → (hi : i < exC.length) → exC[i].col = (i : Int) := fun i _ hi => exC_col i hi
  have hgen : ∀ (kd : Int) (i : Nat), i < exC.length → (kd = 2 ∨ kd = 3 ∨ kd = 4) → Calls Tryz.prog 92 #[ve, .agg #[.int .i64 kd, .int .i64 (i : Int)], mv] wx fun e w' => e = .returned (valV (aggF ⟨kd, i⟩ (memV ms t))) ∧ Ext wx w' := fun kd i hi hkd => by
    have h := aggregate_any ve exC kd i mv (memV ms t) wx (he.ext (hx.trans hwx).full) exC_op (by simp [exC]) hi hmv2 (by omega) hkd
    rw [exC_col i hi] at h
    exact h
  unfold aggsL at hma
  simp only [List.mem_cons, List.not_mem_nil, or_false] at hma
  have hel : exC.length = 2 := rfl
  rcases hma with rfl | rfl | rfl | rfl
  · obtain ⟨pm, cm, rfl, _⟩ := hmv2.form
    exact aggregate_count ve pm _ cm 0 wx
  · exact hgen 2 0 (by omega) (by omega)
  · rcases hc with rfl | rfl
    · exact hgen 3 0 (by omega) (by omega)
    · exact hgen 3 1 (by omega) (by omega)
  · rcases hc with rfl | rfl
    · exact hgen 4 0 (by omega) (by omega)
    · exact hgen 4 1 (by omega) (by omega)

set_option maxRecDepth 100000 in
set_option maxHeartbeats 4000000 in
theorem allAggs_any (k : Int) (w : World) (h0 : 0 ≤ k) (h1 : k ≤ 255) : Calls Tryz.prog 21 #[.int .u8 k] w fun e w' => ∃ v, e = .returned v ∧ SliceOf Rep.agg w'.cell? v (aggsL (k % 2)) ∧ Ext w w' := by
  obtain ⟨c, hc⟩ : ∃ c, k % 2 = c := ⟨_, rfl⟩
  have hc2 : c = 0 ∨ c = 1 := by omega
  rw [hc]
  go_enter Tryz.func21, Tryz.ntmps21
  go_wp2_with fail
  go_ret
  refine ⟨_, rfl, ?_, (Ext.refl w).alloc _⟩
  exact slice_lit Rep.agg w [.int .i64 1, .int .i64 0, .int .i64 2, .int .i64 0, .int .i64 3, .int .i64 c, .int .i64 4, .int .i64 c] 48 [[.int .i64 1, .int .i64 0], [.int .i64 2, .int .i64 0], [.int .i64 3, .int .i64 c], [.int .i64 4, .int .i64 c]] (aggsL c) rfl ⟨⟨rfl, by unfold okI; dsimp only; omega, by unfold okI; dsimp only; omega⟩, ⟨rfl, by unfold okI; dsimp only; omega, by unfold okI; dsimp only; omega⟩, ⟨rfl, by unfold okI; dsimp only; omega, by unfold okI; dsimp only; omega⟩, ⟨rfl, by unfold okI; dsimp only; omega, by unfold okI; dsimp only; omega⟩, trivial⟩ (by simp [aggsL, maxLen])

end Go.Proofs.YtdgpbpbjlnlijaaGreatDoor

/- the laws' sanity check (annalistlaw16.awake) -/
namespace Go.Proofs.YtdgpbpbjlnlijaaGreatDoor
open Go.RowKit Go.Maps

set_option maxRecDepth 100000 in
set_option maxHeartbeats 8000000 in
theorem awake_group (w : World) (ht : TabW w) (hD : DaysW w) : Calls Tryz.prog 15 #[] w fun e w' => e = .returned (.bool true) ∧ Ext w w' := by
  have HT := Lib.hid (And.intro ht hD)
  clear ht hD
  go_enter Tryz.func15, Tryz.ntmps15
  go_wp2_with fail
  have LA := Lib.hid (show SliceOf Rep.agg (w.alloc (.cells #[.int .i64 1, .int .i64 0] 48)).cell? (.slice (some ⟨w.heap.size, 0, none⟩) 1 1) [⟨1, 0⟩] from slice_lit Rep.agg w [.int .i64 1, .int .i64 0] 48 [[.int .i64 1, .int .i64 0]] [⟨1, 0⟩] rfl ⟨⟨rfl, by unfold okI; dsimp only; omega, by unfold okI; dsimp only; omega⟩, trivial⟩ (by simp [maxLen]))
  have X0 := Lib.hid ((Ext.refl w).alloc (.cells #[.int .i64 1, .int .i64 0] 48))
  refine (group_any (.slice none 0 0) [] (.slice none 0 0) [] (.slice none 0 0) [] _ (cntV 1) _ (SliceOf.nil _ _) (by simp) (by simp) (SliceOf.nil _ _) (by simp) (by simp) (SliceOf.nil _ _) (by simp) (by simp) ⟨_, _, _, rfl⟩ (rowLaw_count ⟨_, _, _, rfl⟩ LA.out (by simp) (by simp) (by simp)) (cnt_fit []) (HT.out.1.ext X0.out) (HT.out.2.ext X0.out)).mono ?_
  rintro e w1 ⟨v1, rfl, s1, x1⟩
  have hnone : aggT (projC [] []) (cntV 1) (decide (([] : List Int).length = 0)) [] = [⟨[intVal 0], 0, 1000000, []⟩] := agg_none _
  rw [hnone] at s1
  have S1 := s1.ext (on_sub _ _)
  have X1 := Lib.hid (X0.out.trans x1)
  clear s1 x1 X0 LA hnone
  obtain ⟨p1, c1, rfl, _, _, hp1⟩ := S1.form
  obtain ⟨b, o, rfl⟩ := hp1 (by decide) (by simp)
  obtain ⟨ta, tb, c0, c1', c2, c3, g0, g1, _, _⟩ := tup_at S1 0 (by simp)
  obtain ⟨pa, ka, rfl, _, _, hpa⟩ := g0.form
  obtain ⟨pb, kb, rfl, _⟩ := g1.form
  obtain ⟨b2, o2, rfl⟩ := hpa (by decide) (by simp)
  obtain ⟨k0, k1, k2, _, _⟩ := val_cells g0 0 (by simp)
  simp only [Nat.zero_mul, Nat.add_zero, List.getElem_cons_zero, List.length_singleton, List.length_nil, intVal] at c0 c1' c2 c3 k0 k1 k2
  clear S1 g0 g1 hp1 hpa
  have mkS : ∀ w', Ext w1 w' → Ext w1 w' ∧ w'.cell? ⟨b, o, none⟩ = some (.slice (some ⟨b2, o2, none⟩) 1 ka) ∧ w'.cell? ⟨b, o + 1, none⟩ = some (.int .i64 0) ∧ w'.cell? ⟨b, o + 2, none⟩ = some (.int .i64 1000000) ∧ w'.cell? ⟨b, o + 3, none⟩ = some (.slice pb 0 kb) ∧ w'.cell? ⟨b2, o2, none⟩ = some (.int .i64 1) ∧ w'.cell? ⟨b2, o2 + 1, none⟩ = some (.int .i64 0) ∧ w'.cell? ⟨b2, o2 + 2, none⟩ = some (.string ByteArray.empty) :=
    fun w' h => ⟨h, h.at c0, h.at c1', h.at c2, h.at c3, h.at k0, h.at k1, h.at k2⟩
  have MK := Lib.hid mkS
  have hS0 := mkS _ (Ext.refl w1).drew
  have hv0 : valV (intVal 0) = .agg #[.int .i64 1, .int .i64 0, .string ByteArray.empty] := rfl
  have HV0 := Lib.hid hv0
  have hll : ([⟨[intVal 0], 0, 1000000, []⟩] : List Tup).length = 1 := rfl
  rw [hll]
  clear mkS c0 c1' c2 c3 k0 k1 k2 hv0 hll
  go_wp2_with fail
  go_region_held3 (fun w' => Ext w1 w' ∧ w'.cell? ⟨b, o, none⟩ = some (.slice (some ⟨b2, o2, none⟩) 1 ka) ∧ w'.cell? ⟨b, o + 1, none⟩ = some (.int .i64 0) ∧ w'.cell? ⟨b, o + 2, none⟩ = some (.int .i64 1000000) ∧ w'.cell? ⟨b, o + 3, none⟩ = some (.slice pb 0 kb) ∧ w'.cell? ⟨b2, o2, none⟩ = some (.int .i64 1) ∧ w'.cell? ⟨b2, o2 + 1, none⟩ = some (.int .i64 0) ∧ w'.cell? ⟨b2, o2 + 2, none⟩ = some (.string ByteArray.empty))
    (first | with_reducible assumption | exact MK.out _ hw9)
    (first | (go_at_call 38; refine (int_value 0 _).mono ?_; rintro e w8 ⟨rfl, x8⟩; rw [HV0.out]; have hw9 : Ext w1 w8 := Ext.trans (And.left (by assumption)) x8))
  all_goals go_wp2_with fail
  all_goals go_ret
  all_goals exact ⟨rfl, X1.out.trans hw9⟩

end Go.Proofs.YtdgpbpbjlnlijaaGreatDoor

/- slices.Sorted of slices.Values: a sorted copy of a slice of ints -/
namespace Go.Proofs.YtdgpbpbjlnlijaaGreatDoor
open Go.RowKit Go.Shelf

attribute [local go_sem] Oper.semAt_some

/-- what has come when k rounds are over -/
def uptoF {α : Type} (f : Nat → α) (k : Nat) : List α := (List.range k).map f
theorem uptoF_succ {α : Type} (f : Nat → α) (k : Nat) : uptoF f (k + 1) = uptoF f k ++ [f k] := by simp [uptoF, List.range_succ]
theorem uptoF_length {α : Type} (f : Nat → α) (k : Nat) : (uptoF f k).length = k := by simp [uptoF]
theorem uptoF_take (zs : List Int) {k : Nat} (hk : k ≤ zs.length) : uptoF (fun j => zs[j]?.getD 0) k = zs.take k := by
  apply List.ext_getElem
  · simp [uptoF, hk]
  · intro i h1 h2
    have : i < zs.length := by simp [uptoF] at h1; omega
    simp [uptoF, this]
theorem uptoF_all (zs : List Int) : uptoF (fun j => zs[j]?.getD 0) zs.length = zs := by rw [uptoF_take zs (Nat.le_refl _), List.take_length]

set_option maxRecDepth 100000 in
set_option maxHeartbeats 2000000 in
theorem values1_in (F : Fence) (n : Nat) (h7 : F.fn 107) (hro : F.round = none) (hn : 1 ≤ n) (l Bs n₀ b off len cap : Nat) (zs : List Int) (hreach : len * 8 ≤ 140737488351232) (hb : b < n₀) (J Jx : List Int → World → Prop)
    (hY : ∀ pre x W, J pre W → pre.length < len → YieldAt F (n - 1) Tryz.prog l #[.int .i64 x] W fun e W' =>
      (e = .returned (.bool true) ∧ J (pre ++ [x]) W' ∧ Below n₀ W W') ∨ (e = .returned (.bool false) ∧ Jx (pre ++ [x]) W'))
    (W : World) (hBs : W.cell? ⟨Bs, 0, none⟩ = some (.slice (some ⟨b, off, none⟩) len cap)) (hc : ∀ j, j < len → W.cell? ⟨b, off + j, none⟩ = some (.int .i64 (zs[j]?.getD 0))) (h0 : J [] W) :
    CallsIn F n Tryz.prog 107 #[.func (.yield l) #[] #[], .pointer (some ⟨Bs, 0, none⟩)] W fun e W' => (∃ v, e = .returned v) ∧
      ((∃ ys, ys = uptoF (fun j => zs[j]?.getD 0) len ∧ J ys W') ∨ (∃ pre, (∃ k, k ≤ len ∧ pre = uptoF (fun j => zs[j]?.getD 0) k) ∧ Jx pre W')) := by
  refine callsIn_of_wp Tryz.func107 rfl h7 ?_ hro
  simp only [Tryz.ntmps107, List.size_toArray, List.length_cons, List.length_nil, Nat.reduceAdd, Nat.reduceSub, Array.replicate_succ, Array.replicate_zero, List.push_toArray, List.append_toArray, List.nil_append, List.cons_append]
  gi_wp2
  gi_loopw [7] (fun i wr => ∃ k : Nat, k ≤ len ∧ i = .int .i64 k ∧ J (uptoF (fun j => zs[j]?.getD 0) k) wr ∧ Below n₀ W wr)
    (fun i _ => len - (intOf i).toNat)
  case atStart => exact ⟨0, Nat.zero_le _, rfl, h0, Below.refl _ _⟩
  case round =>
    obtain ⟨k, hk, rfl, hJs, hnx⟩ := hrel
    have hcx : k < len → wr.cell? ⟨b, off + k, none⟩ = some (.int .i64 (zs[k]?.getD 0)) := fun h => (hnx.cell (p := ⟨b, off + k, none⟩) hb).trans (hc k h)
    by_cases hlt : k < len
    · obtain ⟨fn, tmps, assign, body, hy, hR⟩ := hY _ (zs[k]?.getD 0) wr hJs (by rw [uptoF_length]; exact hlt)
      have hcx' := hcx hlt
      gi_wp2
      refine hR.mono ?_
      rintro e W3 (⟨rfl, hJ3, hk3⟩ | ⟨rfl, hJx3⟩)
      · gi_wp2
        go_roundw
        case rel => exact ⟨k + 1, by omega, by simp, by rw [uptoF_succ]; exact hJ3, hnx.trans hk3⟩
        case measure => simp [intOf]; omega
      · gi_wp2
        refine bodyPost_ret (results_none rfl _ _ _) rfl ?_
        exact ⟨⟨_, rfl⟩, .inr ⟨_, ⟨k + 1, by omega, (uptoF_succ _ _).symm⟩, hJx3⟩⟩
    · obtain rfl : k = len := by omega
      gi_wp2
      go_end0
      exact ⟨⟨_, rfl⟩, .inl ⟨_, rfl, hJs⟩⟩

/-- the slice value holds the ints, in a block below n₀; or it is nil and there are none -/
def IntsAt (n₀ : Nat) (W : World) (sv : Value) (zs : List Int) : Prop :=
  ((∃ p c, sv = .slice p 0 c) ∧ zs = []) ∨ ∃ b off cap, sv = .slice (some ⟨b, off, none⟩) zs.length cap ∧ b < n₀ ∧ ∀ j, j < zs.length → W.cell? ⟨b, off + j, none⟩ = some (.int .i64 (zs[j]?.getD 0))
theorem IntsAt.below {n₀ : Nat} {A B : World} (h : Below n₀ A B) {sv : Value} {zs : List Int} : IntsAt n₀ A sv zs → IntsAt n₀ B sv zs
  | .inl e => .inl e
  | .inr ⟨b, off, cap, e, hb, hc⟩ => .inr ⟨b, off, cap, e, hb, fun j hj => (h.cell (p := ⟨b, off + j, none⟩) hb).trans (hc j hj)⟩

set_option maxRecDepth 100000 in
set_option maxHeartbeats 1000000 in
theorem values1_nil (F : Fence) (n : Nat) (h7 : F.fn 107) (hro : F.round = none) (l Bs : Nat) (p : Option Addr) (cap : Nat) (J : List Int → World → Prop) (W : World) (hBs : W.cell? ⟨Bs, 0, none⟩ = some (.slice p 0 cap)) (h0 : J [] W) :
    CallsIn F n Tryz.prog 107 #[.func (.yield l) #[] #[], .pointer (some ⟨Bs, 0, none⟩)] W fun e W' => (∃ v, e = .returned v) ∧ J [] W' := by
  refine callsIn_of_wp Tryz.func107 rfl h7 ?_ hro
  simp only [Tryz.ntmps107, List.size_toArray, List.length_cons, List.length_nil, Nat.reduceAdd, Nat.reduceSub, Array.replicate_succ, Array.replicate_zero, List.push_toArray, List.append_toArray, List.nil_append, List.cons_append]
  gi_wp2
  gi_loopw [7] (fun i wr => i = .int .i64 0 ∧ J [] wr) (fun _ _ => 0)
  case atStart => exact ⟨rfl, h0⟩
  case round =>
    obtain ⟨rfl, hJs⟩ := hrel
    gi_wp2
    go_end0
    exact ⟨⟨_, rfl⟩, hJs⟩

theorem values_stops (F : Fence) (n : Nat) (h7 : F.fn 107) (hro : F.round = none) (hn : 1 ≤ n) (Bs n₀ : Nat) (sv : Value) (zs : List Int) (hreach : zs.length * 8 ≤ 140737488351232) (w : World) (hBs : Bs < w.heap.size) (hn₀ : n₀ ≤ w.heap.size)
    (hc : w.cell? ⟨Bs, 0, none⟩ = some sv) (hI : IntsAt n₀ w sv zs) :
    SeqStopsK F n Tryz.prog 107 #[.pointer (some ⟨Bs, 0, none⟩)] (fun x : Int => #[Value.int .i64 x]) (Below n₀) (fun ys => ys = zs) (fun pre => pre <+: zs) zs.length w := fun l J Jx W hW _ _ hY h0 => by
  have hc' := (hW.cell (p := ⟨Bs, 0, none⟩) hBs).trans hc
  rcases hI.below (hW.mono hn₀) with ⟨⟨p, c, rfl⟩, rfl⟩ | ⟨b, off, cap, rfl, hb, hcs⟩
  · exact (values1_nil F n h7 hro l Bs p c J W hc' h0).mono fun e W' ⟨he, hj⟩ => ⟨he, .inl ⟨_, rfl, hj⟩⟩
  · refine (values1_in F n h7 hro hn l Bs n₀ b off zs.length cap zs hreach hb J Jx hY W hc' hcs h0).mono ?_
    rintro e W' ⟨he, ⟨ys, rfl, hj⟩ | ⟨pre, ⟨k, hk, rfl⟩, hj⟩⟩
    · exact ⟨he, .inl ⟨_, uptoF_all zs, hj⟩⟩
    · exact ⟨he, .inr ⟨_, by rw [uptoF_take zs hk]; exact List.take_prefix _ _, hj⟩⟩

set_option maxRecDepth 100000 in
set_option maxHeartbeats 4000000 in
/-- slices.AppendSeq(nil, slices.Values(s)): a copy -/
theorem appendSeq_in (F : Fence) (n : Nat) (h3 : F.fn 156) (h5 : F.fn 107) (hro : F.round = none) (hn : 3 ≤ n) (Bs n₀ : Nat) (sv : Value) (zs : List Int) (hreach : zs.length * 8 ≤ 140737488351232) (w : World) (hBs : Bs < w.heap.size) (hn₀ : n₀ ≤ w.heap.size)
    (hc0 : w.cell? ⟨Bs, 0, none⟩ = some sv) (hI0 : IntsAt n₀ w sv zs) (hlen : zs.length ≤ maxLen) (hbytes : zs.length * 8 ≤ 140737488355328) :
    CallsIn F n Tryz.prog 156 #[.slice none 0 0, .func (.func 107) #[] #[.pointer (some ⟨Bs, 0, none⟩)]] w fun e W' => ∃ v, e = .returned v ∧ W'.ownsRow w.heap.size 3 1 v zs.length (zs.map (Value.int .i64)) ∧ Below w.heap.size w W' := by
  have h1 : 1 ≤ n := by omega
  obtain ⟨i0, hi, hz0, hz1, hz2⟩ := info_parts info_ints
  refine callsIn_of_wp_marks Tryz.func156 rfl h3 ?_ hro
  simp only [Tryz.ntmps156, List.size_toArray, List.length_cons, List.length_nil, Nat.reduceAdd, Nat.reduceSub, Array.replicate_succ, Array.replicate_zero, List.push_toArray, List.append_toArray, List.nil_append, List.cons_append]
  gi_wp2
  have bO := Boxed.new w 24 (.slice none 0 0)
  have hB0 : Below w.heap.size w (w.alloc (.cells #[.slice none 0 0] 24)) := (Below.refl _ w).alloc (Nat.le_refl _) _
  have hc1 : (w.alloc (.cells #[.slice none 0 0] 24)).cell? ⟨Bs, 0, none⟩ = some sv := (hB0.cell (p := ⟨Bs, 0, none⟩) hBs).trans hc0
  refine wpIn_rangeFunc_ownG hro h1 (gf := 107) (lb := #[.pointer (some ⟨Bs, 0, none⟩)]) rfl h5 (enters_of Tryz.func107 (by kernel_rfl) rfl)
    (values_stops F (n - 1) h5 hro (by omega) Bs w.heap.size sv zs hreach _ (by simp; omega) (by simp) hc1 ((show IntsAt w.heap.size w sv zs from by
      rcases hI0 with h | ⟨b, off, cap, e, hb, hc⟩
      · exact .inl h
      · exact .inr ⟨b, off, cap, e, by omega, hc⟩).below hB0)) belowK_t (belowK_b (by simp)) (Below.refl _ _) (fun _ => rfl)
    (fun pre W => (∃ v, Boxed W w.heap.size 24 v ∧ W.ownsRow w.heap.size 3 1 v pre.length (pre.map (Value.int .i64)) ∧ True) ∧ Below w.heap.size w W)
    (fun _ _ _ => False)
    (OwnFrom.and (Own.from (holdsRow_own w.heap.size w.heap.size 24 3 1 (fun pre : List Int => pre.length) (fun pre => pre.map (Value.int .i64)) (fun _ _ => True)) _) (ownFrom_below (Nat.le_refl _) (by simp)))
    (fun _ _ _ _ _ hs _ _ => hs)
    ⟨⟨_, bO, World.ownsRow_nil _ _ _ _, trivial⟩, hB0⟩
    (fun x => { tmps := #[.slice none 0 0, .func (.func 107) #[] #[.pointer (some ⟨Bs, 0, none⟩)], .pointer (some ⟨w.heap.size, 0, none⟩), undef, .slice none 0 0, .int .i64 x, .func (.func 107) #[] #[.pointer (some ⟨Bs, 0, none⟩)], .int .i64 x, undef, undef, undef, undef, undef], defers := [] }) ?assign ?body ?done ?stop
  case assign =>
    intro l x W K hK
    gi_wp2
    exact hK
  case body =>
    rintro l pre x W ⟨⟨v, hv, hrow, _⟩, hB⟩ hlt
    have hc := hv.cell
    gi_wp2_with (gi_at_builtin; refine wpListIn_append_own _ rfl _ _ 24 rfl w.heap.size 3 i0 (.int .i64 0) 1 8 Tryz.underlying24 hi hz0 hz1 hz2 rfl (by decide) _ _ _ rfl (hrow.alloc _) ⟨W.heap.size, 0, none⟩ 1 1 [.int .i64 x] rfl rfl (cell_one_new _ _ _) (by simp [Value.oneCell']) (by omega) (by omega) (by have := hB.size; simp; omega) ?_; intro v' w1 hown' hgrow _; obtain ⟨g', cap', rfl⟩ := ownsRow_succ hown'; obtain ⟨hv1, hv2, hr2, hk2, hb2⟩ := hv.appended (by decide) hrow hB.size (Nat.le_refl _) hown' hgrow; have hc1 := hv1.cell; have hf1 := hv1.frozen)
    exact ⟨hk2.from _, hb2, ⟨_, hv2, by simpa using hr2, trivial⟩, hB.trans hb2⟩
  case done =>
    rintro D ys W hD rfl ⟨⟨v, hv, hrow, _⟩, hB⟩ hK
    have hc := hv.cell
    gi_wp2
    refine ⟨by simp, .inl ⟨_, _, rfl, run_takeDeferred hK, ?_⟩⟩
    exact ⟨_, results_tmp rfl _ _ _, v, rfl, ownsRow_putObj hrow _ hK rfl, hB.trans (belowK_b (w := w) (Nat.le_refl _) W D _ _ (by simp at hD; omega) hK rfl rfl)⟩
  case stop =>
    rintro D c pre W _ _ h _
    exact h.elim

theorem intsAt_of {w : World} {v : Value} {zs : List Int} (h : SliceOf Rep.int w.cell? v zs) : IntsAt w.heap.size w v zs := by
  obtain ⟨p, cap, rfl, h1, h2, h3⟩ := h.form
  by_cases h0 : zs.length = 0
  · have hz : zs = [] := List.eq_nil_of_length_eq_zero h0
    subst hz
    exact .inl ⟨⟨p, cap, rfl⟩, rfl⟩
  · obtain ⟨b, o, rfl⟩ := h3 (by decide) (by omega)
    have hc : ∀ j, j < zs.length → w.cell? ⟨b, o + j, none⟩ = some (.int .i64 (zs[j]?.getD 0)) := fun j hj => by
      rw [List.getElem?_eq_getElem hj]
      exact (int_at h j hj).1
    exact .inr ⟨b, o, cap, rfl, cell_lt (hc 0 (by omega)), hc⟩
theorem appendSeq_any (B : Nat) (sv : Value) (zs : List Int) (w : World) (hc : w.cell? ⟨B, 0, none⟩ = some sv) (hv : SliceOf Rep.int w.cell? sv zs) (hl : zs.length ≤ 1048576) :
    Calls Tryz.prog 156 #[.slice none 0 0, .func (.func 107) #[] #[.pointer (some ⟨B, 0, none⟩)]] w fun e W' => ∃ v, e = .returned v ∧ OwnOf Rep.int W' (fun _ => True) w.heap.size 3 v zs ∧ Ext w W' := by
  refine ((callsIn_wide (n := 6)).1 (appendSeq_in Fence.wide 6 trivial trivial rfl (by omega) B w.heap.size sv zs (by omega) w (cell_lt hc) (Nat.le_refl _) hc (intsAt_of hv) (by unfold maxLen; omega) (by omega))).mono ?_
  rintro e W' ⟨v, rfl, h1, h2⟩
  exact ⟨v, rfl, OwnOf.ofInts _ h1 hv.ints, h2⟩

set_option maxHeartbeats 1000000 in
theorem values_any (p : Option Addr) (n c : Nat) (w : World) :
    Calls Tryz.prog 60 #[.slice p n c] w fun e w' => e = .returned (.func (.func 107) #[] #[.pointer (some ⟨w.heap.size, 0, none⟩)]) ∧ w' = w.alloc (.cells #[.slice p n c] 24) := by
  go_enter Tryz.func60, Tryz.ntmps60
  go_wp2_with fail
  go_ret
  exact ⟨rfl, rfl⟩
set_option maxHeartbeats 1000000 in
theorem collect_any (B : Nat) (sv : Value) (zs : List Int) (w : World) (hc : w.cell? ⟨B, 0, none⟩ = some sv) (hv : SliceOf Rep.int w.cell? sv zs) (hl : zs.length ≤ 1048576) :
    Calls Tryz.prog 106 #[.func (.func 107) #[] #[.pointer (some ⟨B, 0, none⟩)]] w fun e W' => ∃ v, e = .returned v ∧ OwnOf Rep.int W' (fun _ => True) w.heap.size 3 v zs ∧ Ext w W' := by
  have HC := Lib.hid hc
  have HV := Lib.hid hv
  clear hc hv
  go_enter Tryz.func106, Tryz.ntmps106
  go_wp2_with fail
  refine (appendSeq_any B sv zs _ HC.out HV.out hl).mono ?_
  rintro e w1 ⟨v, rfl, h1, h2⟩
  have H1 := Lib.hid h1
  obtain ⟨p, n, rfl, _⟩ := h1.slice.form
  clear h1
  go_wp2_with fail
  go_ret
  exact ⟨_, rfl, H1.out, h2⟩
def sortI (zs : List Int) : List Int := zs.mergeSort fun x y => decide (x ≤ y)
set_option maxHeartbeats 1000000 in
theorem sorted_any (B : Nat) (sv : Value) (zs : List Int) (w : World) (hc : w.cell? ⟨B, 0, none⟩ = some sv) (hv : SliceOf Rep.int w.cell? sv zs) (hl : zs.length ≤ 1048576) :
    Calls Tryz.prog 59 #[.func (.func 107) #[] #[.pointer (some ⟨B, 0, none⟩)]] w fun e W' => ∃ v, e = .returned v ∧ OwnOf Rep.int W' (fun _ => True) w.heap.size 3 v (sortI zs) ∧ Ext w W' := by
  have HC := Lib.hid hc
  have HV := Lib.hid hv
  clear hc hv
  go_enter Tryz.func59, Tryz.ntmps59
  go_wp2_with fail
  refine (collect_any B sv zs _ HC.out HV.out hl).mono ?_
  rintro e w1 ⟨v, rfl, h1, h2⟩
  have H1 := Lib.hid h1
  have H2 := Lib.hid h2
  obtain ⟨p, n, rfl, _⟩ := h1.slice.form
  clear h1 h2
  go_wp2_with fail
  refine (sort_ints _ _ zs _ _ _ H1.out (by omega)).mono ?_
  rintro e w2 ⟨rfl, h3, h4⟩
  have H3 := Lib.hid h3
  have H4 := Lib.hid (Ext.grownNew H2.out h4 H1.out.base)
  clear h3 h4
  go_wp2_with fail
  go_ret
  exact ⟨_, rfl, H3.out, H4.out⟩

end Go.Proofs.YtdgpbpbjlnlijaaGreatDoor

/- plain: the normal form depends on the timeslices alone; no program in sight -/
namespace Go.Proofs.YtdgpbpbjlnlijaaGreatDoor
open Go.RowKit

/-- the levels, point by point -/
def runL (c : Int → Nat) (l : List Int) (q : List Int × List Per) : List Int × List Per := l.foldl (fun q x => levStep (c x) x q) q
theorem levStep_same (x : Int) (q : List Int × List Per) : levStep q.1.length x q = q := by
  unfold levStep
  rw [List.take_length, Nat.sub_self, List.drop_length]
  simp
theorem levOf_run {P : List Int} (f : Nat → Nat) (c : Int → Nat) (h : ∀ i, i < P.length → f i = c P[i]!) (k : Nat) (hk : k ≤ P.length) : levOf P f k = runL c (P.take k) ([], []) := by
  induction k with
  | zero => rfl
  | succ k ih =>
    have e : runL c (P.take (k + 1)) ([], []) = levStep (c P[k]!) P[k]! (runL c (P.take k) ([], [])) := by
      unfold runL
      rw [List.take_succ_eq_append_getElem (by omega), List.foldl_append, getElem!_pos P k (by omega)]
      rfl
    rw [e, ← ih (by omega), ← h k (by omega)]
    rfl
/-- where p does not hold nothing changes -/
def Still (c : Int → Nat) (p : Int → Bool) : Nat → List Int → Prop
  | _, [] => True
  | d, x :: l => (p x = false → c x = d) ∧ Still c p (c x) l
theorem run_still (c : Int → Nat) (p : Int → Bool) : ∀ (l : List Int) (q : List Int × List Per), Still c p q.1.length l → runL c l q = runL c (l.filter p) q := by
  intro l
  induction l with
  | nil => intro q _; rfl
  | cons x l ih =>
    intro q h
    obtain ⟨h1, h2⟩ := h
    have hs : runL c (x :: l) q = runL c l (levStep (c x) x q) := rfl
    rw [hs]
    cases hp : p x with
    | true =>
      rw [List.filter_cons_of_pos hp, ih _ (by rw [levStep_len]; exact h2)]
      rfl
    | false =>
      have e := h1 hp
      rw [List.filter_cons_of_neg (by simp [hp]), e, levStep_same]
      exact ih q (by rw [← e]; exact h2)
theorem bnd_mem {l : List Tup} {t : Tup} (ht : t ∈ l) (hv : validT t = true) : t.from_ ∈ bnd l ∧ t.to_ ∈ bnd l := by
  unfold bnd
  constructor
  · exact List.mem_flatMap.2 ⟨t, ht, by rw [if_pos hv]; simp⟩
  · exact List.mem_flatMap.2 ⟨t, ht, by rw [if_pos hv]; simp⟩
theorem cnt_still (l : List Tup) {y x : Int} (hyx : y ≤ x) (h : ∀ z ∈ bnd l, z ≤ y ∨ x < z) : cntAt l y = cntAt l x := by
  unfold cntAt
  congr 1
  refine List.filter_congr fun t ht => ?_
  unfold holdsAt
  cases hv : validT t with
  | false => rfl
  | true =>
    obtain ⟨h1, h2⟩ := bnd_mem ht hv
    have h1 := h _ h1
    have h2 := h _ h2
    rw [Bool.true_and, Bool.true_and, Bool.eq_iff_iff]
    simp only [Bool.and_eq_true, decide_eq_true_eq]
    omega
theorem cnt_early (l : List Tup) {x : Int} (h : ∀ z ∈ bnd l, x < z) : cntAt l x = 0 := by
  unfold cntAt
  rw [List.length_eq_zero_iff, List.filter_eq_nil_iff]
  intro t ht hh
  unfold holdsAt at hh
  simp only [Bool.and_eq_true, decide_eq_true_eq] at hh
  have := h _ (bnd_mem ht hh.1.1).1
  omega
theorem still_on (l : List Tup) : ∀ (R : List Int) (y : Int), (∀ x ∈ R, y < x) → R.Pairwise (· < ·) → (∀ z ∈ bnd l, z ≤ y ∨ z ∈ R) → Still (cntAt l) (fun x => decide (x ∈ bnd l)) (cntAt l y) R := by
  intro R
  induction R with
  | nil => intro y _ _ _; trivial
  | cons x R ih =>
    intro y h1 h2 h3
    obtain ⟨g1, g2⟩ := List.pairwise_cons.1 h2
    refine ⟨fun hp => ?_, ih x g1 g2 fun z hz => ?_⟩
    · symm
      refine cnt_still l (by have := h1 x (by simp); omega) fun z hz => ?_
      rcases h3 z hz with c | c
      · exact .inl c
      · rcases List.mem_cons.1 c with rfl | c
        · simp [hz] at hp
        · exact .inr (g1 z c)
    · rcases h3 z hz with c | c
      · exact .inl (by have := h1 x (by simp); omega)
      · rcases List.mem_cons.1 c with rfl | c
        · exact .inl (Int.le_refl _)
        · exact .inr c
theorem still_all (l : List Tup) {R : List Int} (hR : R.Pairwise (· < ·)) (h : ∀ z ∈ bnd l, z ∈ R) : Still (cntAt l) (fun x => decide (x ∈ bnd l)) 0 R := by
  cases R with
  | nil => trivial
  | cons x R =>
    obtain ⟨g1, g2⟩ := List.pairwise_cons.1 hR
    refine ⟨fun hp => ?_, still_on l R x g1 g2 fun z hz => ?_⟩
    · refine cnt_early l fun z hz => ?_
      rcases List.mem_cons.1 (h z hz) with rfl | c
      · simp [hz] at hp
      · exact g1 z c
    · rcases List.mem_cons.1 (h z hz) with rfl | c
      · exact .inl (Int.le_refl _)
      · exact .inr c
theorem levels_over (ps : List Per) {R : List Int} (hR : R.Pairwise (· < ·)) (h : ∀ z ∈ bnd (ps.map perT), z ∈ R) : levels ps = (runL (cntAt (ps.map perT)) R ([], [])).2 := by
  obtain ⟨p1, p2, _⟩ := pts_law (ps.map perT)
  have e : R.filter (fun x => decide (x ∈ bnd (ps.map perT))) = levPts ps := by
    refine List.Perm.eq_of_pairwise (le := (· < ·)) (fun x y _ _ h1 h2 => by omega) (hR.filter _) p1 ((List.perm_ext_iff_of_nodup ((hR.filter _).imp fun h => by omega) (p1.imp fun h => by omega)).2 fun x => ?_)
    rw [p2, List.mem_filter, decide_eq_true_eq]
    exact ⟨fun hx => hx.2, fun hx => ⟨h x hx, hx⟩⟩
  rw [run_still _ _ R ([], []) (still_all _ hR h), e]
  unfold levels
  rw [levOf_run (levF ps) (cntAt (ps.map perT)) (fun i _ => rfl) _ (Nat.le_refl _), List.take_length]
theorem levels_congr {ps qs : List Per} (h : ∀ t, cntAt (ps.map perT) t = cntAt (qs.map perT) t) : levels ps = levels qs := by
  obtain ⟨p1, p2, _⟩ := pts_law (ps.map perT ++ qs.map perT)
  rw [levels_over ps p1 fun z hz => (p2 z).2 (by rw [bnd_append]; exact List.mem_append_left _ hz), levels_over qs p1 fun z hz => (p2 z).2 (by rw [bnd_append]; exact List.mem_append_right _ hz)]
  rw [show cntAt (ps.map perT) = cntAt (qs.map perT) from funext h]

section
open Classical
theorem row_mem (l : List Tup) (r : Row) : (∃ t ∈ l, validT t = true ∧ tupRow t = r) ↔ ∃ x, r ∈ sliceRows l x := by
  unfold sliceRows
  constructor
  · rintro ⟨t, h1, h2, rfl⟩
    refine ⟨t.from_, List.mem_map.2 ⟨t, List.mem_filter.2 ⟨h1, ?_⟩, rfl⟩⟩
    have hv : validB t.from_ t.to_ = true := h2
    have := validB_lt hv
    unfold holdsAt
    rw [h2, Bool.true_and]
    simp only [Bool.and_eq_true, decide_eq_true_eq]
    omega
  · rintro ⟨x, hx⟩
    obtain ⟨t, h1, h2⟩ := List.mem_map.1 hx
    obtain ⟨h3, h4⟩ := List.mem_filter.1 h1
    unfold holdsAt at h4
    simp only [Bool.and_eq_true] at h4
    exact ⟨t, h3, h4.1.1, h2⟩
theorem persOf_cnt (r : Row) (l : List Tup) (t : Int) : cntAt ((persOf r l).map perT) t = ((sliceRows l t).filter fun x => decide (x = r)).length := by
  unfold cntAt persOf sliceRows
  rw [List.filter_map, List.length_map, List.filter_map, List.length_map, List.filter_filter, List.filter_filter, List.filter_map, List.length_map, List.filter_filter]
  congr 1
  refine List.filter_congr fun x _ => ?_
  have e : holdsAt t (perT (tupPer x)) = holdsAt t x := rfl
  simp only [Function.comp, e]
  have e2 : holdsAt t x = (validT x && holdsAt t x) := by
    unfold holdsAt
    cases validT x <;> rfl
  cases h1 : holdsAt t x
  · simp
  · rw [h1, Bool.and_true] at e2
    rw [← e2]
    simp
theorem normT_congr {a b : List Tup} (h : ∀ t, (sliceRows a t).Perm (sliceRows b t)) : normT a = normT b := by
  have hr : ∀ r, r ∈ rowsOf a ↔ ∃ t ∈ b, validT t = true ∧ tupRow t = r := fun r => by
    rw [row_mem]
    have e : r ∈ rowsOf a ↔ ∃ t ∈ a, validT t = true ∧ tupRow t = r := by
      unfold rowsOf
      rw [mem_once, List.mem_map]
      constructor
      · rintro ⟨t, h1, h3⟩; exact ⟨t, (List.mem_filter.1 h1).1, (List.mem_filter.1 h1).2, h3⟩
      · rintro ⟨t, h1, h2, h3⟩; exact ⟨t, List.mem_filter.2 ⟨h1, h2⟩, h3⟩
    rw [e, row_mem]
    constructor
    · rintro ⟨x, hx⟩; exact ⟨x, (h x).mem_iff.1 hx⟩
    · rintro ⟨x, hx⟩; exact ⟨x, (h x).mem_iff.2 hx⟩
  refine normT_of (once_nodup _) hr ?_
  unfold normRaw
  refine List.Perm.of_eq (flat_congr fun r _ => ?_)
  have e : levels (persOf r a) = levels (persOf r b) := levels_congr fun t => by rw [persOf_cnt, persOf_cnt, ((h t).filter _).length_eq]
  rw [e]
theorem normT_idem (l : List Tup) : normT (normT l) = normT l := normT_congr fun t => normT_rows l t
end

end Go.Proofs.YtdgpbpbjlnlijaaGreatDoor

/- plain: joins over time and their timeslices; no program in sight -/
namespace Go.Proofs.YtdgpbpbjlnlijaaGreatDoor
open Go.RowKit

def pairRow (x y : Row) : Row := ⟨x.vals ++ y.vals, mergeL x.lin y.lin⟩
/-- the two together, where they meet -/
def meetT (x y : Tup) : List Tup := if validT x = true ∧ validT y = true ∧ max x.from_ y.from_ < min x.to_ y.to_ then [tupOf (pairRow (tupRow x) (tupRow y)) ⟨max x.from_ y.from_, min x.to_ y.to_⟩] else []
def tupD : Tup := ⟨[], 0, 0, []⟩
def pairT (a b : List Tup) (p : Pair) : Tup := tupOf (pairRow (tupRow (a.getD p.a tupD)) (tupRow (b.getD p.b tupD))) ⟨p.from_, p.to_⟩
def joinRaw (tr : List Val → Bool) (a b : List Tup) : List Tup := ((pairsOf a b).map (pairT a b)).filter fun t => tr t.vals
theorem drop_head {α : Type} {l m : List α} {k : Nat} {x : α} (h : l.drop k = x :: m) (d : α) : l.getD k d = x ∧ l.drop (k + 1) = m := by
  have h1 : l[k]? = some x := by
    have := congrArg List.head? h
    rw [List.head?_drop] at this
    exact this
  refine ⟨by rw [List.getD_eq_getElem?_getD, h1]; rfl, ?_⟩
  rw [← List.drop_drop, h]
  rfl
theorem raw_inner (a b : List Tup) (i : Nat) (t : Tup) (ht : a.getD i tupD = t) : ∀ (l : List Tup) (k : Nat), b.drop k = l → ((evs true k l).flatMap (meet ⟨false, i, t.from_, t.to_⟩)).map (pairT a b) = l.flatMap (meetT t) := by
  intro l
  induction l with
  | nil => intro k _; rfl
  | cons y l ih =>
    intro k hk
    obtain ⟨h1, h2⟩ := drop_head hk tupD
    rw [evs, List.flatMap_cons, List.map_append, List.flatMap_cons, ih (k + 1) h2]
    congr 1
    unfold meet meetT
    have e : ((false : Bool) ≠ true ∧ okEv ⟨false, i, t.from_, t.to_⟩ = true ∧ okEv ⟨true, k, y.from_, y.to_⟩ = true ∧ max t.from_ y.from_ < min t.to_ y.to_) ↔ (validT t = true ∧ validT y = true ∧ max t.from_ y.from_ < min t.to_ y.to_) := by
      constructor
      · rintro ⟨_, g⟩; exact g
      · exact fun g => ⟨by decide, g⟩
    by_cases c : validT t = true ∧ validT y = true ∧ max t.from_ y.from_ < min t.to_ y.to_
    · rw [if_pos (e.2 c), if_pos c, List.map_cons, List.map_nil]
      unfold pairT mkPair
      simp only [Bool.false_eq_true, if_false, ht, h1]
    · rw [if_neg (fun g => c (e.1 g)), if_neg c]
      rfl
theorem raw_join (a b : List Tup) : (rawPairs a b).map (pairT a b) = a.flatMap fun x => b.flatMap (meetT x) := by
  have h : ∀ (l : List Tup) (k : Nat), a.drop k = l → ((evs false k l).flatMap fun x => (evs true 0 b).flatMap (meet x)).map (pairT a b) = l.flatMap fun x => b.flatMap (meetT x) := by
    intro l
    induction l with
    | nil => intro k _; rfl
    | cons t l ih =>
      intro k hk
      obtain ⟨h1, h2⟩ := drop_head hk tupD
      rw [evs, List.flatMap_cons, List.map_append, List.flatMap_cons, ih (k + 1) h2, raw_inner a b k t h1 b 0 rfl]
  exact h a 0 rfl

theorem slice_flatX {α : Type} (ks : List α) (G : α → List Tup) (t : Int) : sliceRows (ks.flatMap G) t = ks.flatMap fun r => sliceRows (G r) t := by
  induction ks with
  | nil => rfl
  | cons r ks ih => rw [List.flatMap_cons, List.flatMap_cons, sliceRows_append, ih]
theorem filter_flat {α β : Type} (p : β → Bool) (f : α → List β) (l : List α) : (l.flatMap f).filter p = l.flatMap fun x => (f x).filter p := by
  induction l with
  | nil => rfl
  | cons x l ih => rw [List.flatMap_cons, List.filter_append, ih, List.flatMap_cons]
theorem flat_filter {α β : Type} (p : α → Bool) (f : α → List β) (l : List α) : (l.flatMap fun x => if p x = true then f x else []) = (l.filter p).flatMap f := by
  induction l with
  | nil => rfl
  | cons x l ih =>
    rw [List.flatMap_cons, ih, List.filter_cons]
    split
    · rw [List.flatMap_cons]
    · rfl
theorem flat_perm2 {α β : Type} (f g : α → List β) (l : List α) : (l.flatMap f ++ l.flatMap g).Perm (l.flatMap fun x => f x ++ g x) := by
  induction l with
  | nil => exact .refl _
  | cons x l ih =>
    rw [List.flatMap_cons, List.flatMap_cons, List.flatMap_cons]
    have h1 : ((f x ++ l.flatMap f) ++ (g x ++ l.flatMap g)).Perm ((f x ++ g x) ++ (l.flatMap f ++ l.flatMap g)) := by
      rw [List.append_assoc, List.append_assoc]
      refine List.Perm.append_left _ ?_
      rw [← List.append_assoc, ← List.append_assoc]
      exact List.Perm.append_right _ List.perm_append_comm
    exact h1.trans (List.Perm.append_left _ ih)
/-- the join of two timeslices -/
def joinRow (tr : List Val → Bool) (B : List Row) (x : Row) : List Row := (B.map (pairRow x)).filter fun r => tr r.vals
def snapJoin (tr : List Val → Bool) (A B : List Row) : List Row := A.flatMap (joinRow tr B)
theorem joinRow_flat (tr : List Val → Bool) (B : List Row) (x : Row) : joinRow tr B x = B.flatMap fun y => if tr (x.vals ++ y.vals) = true then [pairRow x y] else [] := by
  unfold joinRow
  induction B with
  | nil => rfl
  | cons y B ih =>
    rw [List.map_cons, List.filter_cons, ih, List.flatMap_cons]
    show (if tr (x.vals ++ y.vals) = true then _ else _) = _
    split <;> rfl
theorem meet_slice (tr : List Val → Bool) (t : Int) (x y : Tup) : sliceRows ((meetT x y).filter fun z => tr z.vals) t = if holdsAt t x = true then (if holdsAt t y = true then (if tr (x.vals ++ y.vals) = true then [pairRow (tupRow x) (tupRow y)] else []) else []) else [] := by
  unfold meetT
  by_cases c : validT x = true ∧ validT y = true ∧ max x.from_ y.from_ < min x.to_ y.to_
  · rw [if_pos c]
    have hvx := validB_lt (show validB x.from_ x.to_ = true from c.1)
    have hvy := validB_lt (show validB y.from_ y.to_ = true from c.2.1)
    have hv : validT (tupOf (pairRow (tupRow x) (tupRow y)) ⟨max x.from_ y.from_, min x.to_ y.to_⟩) = true := by
      unfold validT validB tupOf
      simp only [Bool.and_eq_true, decide_eq_true_eq]
      omega
    have hh : holdsAt t (tupOf (pairRow (tupRow x) (tupRow y)) ⟨max x.from_ y.from_, min x.to_ y.to_⟩) = (holdsAt t x && holdsAt t y) := by
      unfold holdsAt
      rw [hv, c.1, c.2.1, Bool.true_and, Bool.true_and, Bool.true_and, Bool.eq_iff_iff]
      unfold tupOf
      simp only [Bool.and_eq_true, decide_eq_true_eq]
      omega
    rw [List.filter_cons, List.filter_nil]
    show sliceRows (if tr (x.vals ++ y.vals) = true then _ else _) t = _
    unfold sliceRows
    by_cases c3 : tr (x.vals ++ y.vals) = true
    · rw [if_pos c3, List.filter_cons, List.filter_nil, hh, if_pos c3]
      cases holdsAt t x <;> cases holdsAt t y <;> rfl
    · rw [if_neg c3, if_neg c3]
      cases holdsAt t x <;> cases holdsAt t y <;> rfl
  · rw [if_neg c]
    by_cases c1 : holdsAt t x = true
    · by_cases c2 : holdsAt t y = true
      · exfalso
        apply c
        unfold holdsAt at c1 c2
        simp only [Bool.and_eq_true, decide_eq_true_eq] at c1 c2
        exact ⟨c1.1.1, c2.1.1, by omega⟩
      · rw [if_pos c1, if_neg c2]; rfl
    · rw [if_neg c1]; rfl
theorem slice_flatRow {β : Type} (l : List Tup) (t : Int) (f : Row → List β) : (sliceRows l t).flatMap f = (l.filter (holdsAt t)).flatMap fun x => f (tupRow x) := by
  unfold sliceRows
  rw [List.flatMap_map]
theorem join_rows (tr : List Val → Bool) (a b : List Tup) (t : Int) : (sliceRows (joinRaw tr a b) t).Perm (snapJoin tr (sliceRows a t) (sliceRows b t)) := by
  have h1 : (joinRaw tr a b).Perm (((rawPairs a b).map (pairT a b)).filter fun t => tr t.vals) := ((pairsOf_perm a b).map _).filter _
  have h2 : (sliceRows (joinRaw tr a b) t).Perm (sliceRows (((rawPairs a b).map (pairT a b)).filter fun t => tr t.vals) t) := (h1.filter _).map _
  refine h2.trans (List.Perm.of_eq ?_)
  rw [raw_join, filter_flat, slice_flatX]
  unfold snapJoin
  rw [slice_flatRow, ← flat_filter]
  refine flat_congr fun x _ => ?_
  rw [filter_flat, slice_flatX, joinRow_flat, slice_flatRow, ← flat_filter]
  by_cases c : holdsAt t x = true
  · rw [if_pos c]
    refine flat_congr fun y _ => ?_
    rw [meet_slice, if_pos c]
    rfl
  · rw [if_neg c]
    rw [List.flatMap_eq_nil_iff]
    intro y _
    rw [meet_slice, if_neg c]
noncomputable def innerT (tr : List Val → Bool) (a b : List Tup) : List Tup := normT (joinRaw tr a b)
theorem inner_rows (tr : List Val → Bool) (a b : List Tup) (t : Int) : (sliceRows (innerT tr a b) t).Perm (snapJoin tr (sliceRows a t) (sliceRows b t)) := (normT_rows _ t).trans (join_rows tr a b t)
theorem joinRow_perm (tr : List Val → Bool) {B B' : List Row} (h : B.Perm B') (x : Row) : (joinRow tr B x).Perm (joinRow tr B' x) := (h.map _).filter _
theorem flat_permF {α β : Type} {f g : α → List β} (l : List α) (h : ∀ x ∈ l, (f x).Perm (g x)) : (l.flatMap f).Perm (l.flatMap g) := by
  induction l with
  | nil => exact .refl _
  | cons x l ih => rw [List.flatMap_cons, List.flatMap_cons]; exact (h x (by simp)).append (ih fun y hy => h y (by simp [hy]))
theorem snapJoin_perm (tr : List Val → Bool) {A A' B B' : List Row} (h : A.Perm A') (k : B.Perm B') : (snapJoin tr A B).Perm (snapJoin tr A' B') := (h.flatMap_right _).trans (flat_permF _ fun x _ => joinRow_perm tr k x)
theorem inner_congr (tr : List Val → Bool) {a a' b b' : List Tup} (h : ∀ t, (sliceRows a t).Perm (sliceRows a' t)) (k : ∀ t, (sliceRows b t).Perm (sliceRows b' t)) : innerT tr a b = innerT tr a' b' :=
  normT_congr fun t => (join_rows tr a b t).trans ((snapJoin_perm tr (h t) (k t)).trans (join_rows tr a' b' t).symm)

/-- what is left of [at, to) beside the set -/
def subP1 (tz : Int) : Int → List Per → List Per
  | at_, [] => if at_ < tz then [⟨at_, tz⟩] else []
  | at_, q :: qs => if q.to_ ≤ at_ ∨ tz ≤ q.from_ then subP1 tz at_ qs else (if at_ < q.from_ then [⟨at_, q.from_⟩] else []) ++ subP1 tz q.to_ qs
theorem subP1_ends (tz : Int) : ∀ (qs : List Per) (at_ : Int), ∀ p ∈ subP1 tz at_ qs, at_ ≤ p.from_ ∧ p.from_ < p.to_ ∧ p.to_ ≤ tz := by
  intro qs
  induction qs with
  | nil =>
    intro at_ p hp
    unfold subP1 at hp
    split at hp
    · rw [List.mem_singleton] at hp; subst hp; simp only; omega
    · cases hp
  | cons q qs ih =>
    intro at_ p hp
    unfold subP1 at hp
    split at hp
    · exact ih at_ p hp
    · rename_i c
      rcases List.mem_append.1 hp with hp | hp
      · split at hp
        · rw [List.mem_singleton] at hp; subst hp; simp only; omega
        · cases hp
      · have := ih _ p hp; omega
open Classical in
theorem subP1_at (tz x : Int) : ∀ (qs : List Per) (at_ : Int), NormPer qs → ((subP1 tz at_ qs).filter (perHas x)).length = if at_ ≤ x ∧ x < tz ∧ ¬ inPer qs x then 1 else 0 := by
  intro qs
  induction qs with
  | nil =>
    intro at_ _
    unfold subP1
    by_cases c : at_ ≤ x ∧ x < tz
    · rw [if_pos (by omega), if_pos ⟨c.1, c.2, inPer_nil⟩, List.filter_cons, List.filter_nil, if_pos (by unfold perHas; simp [c])]
      rfl
    · have e : (if at_ ≤ x ∧ x < tz ∧ ¬ inPer [] x then 1 else 0) = 0 := if_neg fun h => c ⟨h.1, h.2.1⟩
      rw [e]
      split
      · rw [List.filter_cons, List.filter_nil, if_neg (by unfold perHas; simpa using c)]; rfl
      · rfl
  | cons q qs ih =>
    intro at_ hn
    obtain ⟨n1, n2⟩ := hn.head
    have hq : inPer (q :: qs) x ↔ (q.from_ ≤ x ∧ x < q.to_) ∨ inPer qs x := inPer_cons
    have hlater : inPer qs x → q.to_ < x := fun ⟨p, hp, h1, _⟩ => by have := n2 p hp; omega
    unfold subP1
    by_cases c : q.to_ ≤ at_ ∨ tz ≤ q.from_
    · rw [if_pos c, ih at_ hn.tail]
      by_cases c2 : inPer qs x
      · rw [if_neg (fun h => h.2.2 c2), if_neg (fun h => h.2.2 (hq.2 (.inr c2)))]
      · by_cases c3 : at_ ≤ x ∧ x < tz
        · rw [if_pos ⟨c3.1, c3.2, c2⟩, if_pos ⟨c3.1, c3.2, fun h => by
            rcases hq.1 h with h | h
            · omega
            · exact c2 h⟩]
        · rw [if_neg (fun h => c3 ⟨h.1, h.2.1⟩), if_neg (fun h => c3 ⟨h.1, h.2.1⟩)]
    · rw [if_neg c, List.filter_append, List.length_append, ih q.to_ hn.tail]
      have hone : ((if at_ < q.from_ then [(⟨at_, q.from_⟩ : Per)] else []).filter (perHas x)).length = if at_ ≤ x ∧ x < q.from_ then 1 else 0 := by
        by_cases c2 : at_ ≤ x ∧ x < q.from_
        · rw [if_pos c2, if_pos (by omega), List.filter_cons, List.filter_nil, if_pos (by unfold perHas; simp [c2])]; rfl
        · rw [if_neg c2]
          split
          · rw [List.filter_cons, List.filter_nil, if_neg (by unfold perHas; simpa using c2)]; rfl
          · rfl
      rw [hone]
      by_cases c2 : inPer qs x
      · have := hlater c2
        rw [if_neg (by omega), if_neg (fun h => h.2.2 c2), if_neg (fun h => h.2.2 (hq.2 (.inr c2)))]
      · by_cases c3 : x < q.from_
        · rw [if_neg (show ¬ (q.to_ ≤ x ∧ x < tz ∧ ¬ inPer qs x) from fun h => by omega)]
          by_cases c4 : at_ ≤ x
          · rw [if_pos ⟨c4, c3⟩, if_pos ⟨c4, by omega, fun h => by
              rcases hq.1 h with h | h
              · omega
              · exact c2 h⟩]
          · rw [if_neg (fun h => c4 h.1), if_neg (fun h => c4 h.1)]
        · rw [if_neg (show ¬ (at_ ≤ x ∧ x < q.from_) from fun h => c3 h.2)]
          by_cases c4 : x < q.to_
          · rw [if_neg (by omega), if_neg (fun h => h.2.2 (hq.2 (.inl ⟨by omega, c4⟩)))]
          · by_cases c5 : x < tz
            · rw [if_pos ⟨by omega, c5, c2⟩, if_pos ⟨by omega, c5, fun h => by
                rcases hq.1 h with h | h
                · omega
                · exact c2 h⟩]
            · rw [if_neg (fun h => c5 h.2.1), if_neg (fun h => c5 h.2.1)]
def subPs (a b : List Per) : List Per := (refNorm a).flatMap fun p => subP1 p.to_ p.from_ (refNorm b)
theorem refNorm_one (p : Per) : refNorm [p] = if validB p.from_ p.to_ = true then [p] else [] := by
  unfold refNorm
  rw [List.filter_cons, List.filter_nil]
  split
  · rfl
  · rfl
/-- the periods in which a tuple has partners -/
def partners (tr : List Val → Bool) (a b : List Tup) (i : Nat) : List Per := ((pairsOf a b).filter fun p => decide (p.a = i) && tr (pairT a b p).vals).map fun p => ⟨p.from_, p.to_⟩
def padRow (w : Nat) (r : Row) : Row := ⟨r.vals ++ List.replicate w nV, r.lin⟩
def padAt (tr : List Val → Bool) (w : Nat) (a b : List Tup) (k : Nat) : List Tup := (subPs [tupPer (a.getD k tupD)] (partners tr a b k)).map (tupOf (padRow w (tupRow (a.getD k tupD))))
def padUpto (tr : List Val → Bool) (w : Nat) (a b : List Tup) : Nat → List Tup
  | 0 => []
  | k + 1 => padUpto tr w a b k ++ padAt tr w a b k
def leftRaw (tr : List Val → Bool) (w : Nat) (a b : List Tup) : List Tup := joinRaw tr a b ++ padUpto tr w a b a.length
noncomputable def leftT (tr : List Val → Bool) (w : Nat) (a b : List Tup) : List Tup := normT (leftRaw tr w a b)
def padOf (w : Nat) (m : List Row) (x : Row) : List Row := if m.isEmpty = true then [padRow w x] else []
def snapLeft (tr : List Val → Bool) (w : Nat) (A B : List Row) : List Row := A.flatMap fun x => joinRow tr B x ++ padOf w (joinRow tr B x) x
theorem pairs_valid {a b : List Tup} {p : Pair} (h : p ∈ pairsOf a b) : validB p.from_ p.to_ = true := by
  obtain ⟨x, y, _, _, h3, h4, h5, h6, h7⟩ := rawPairs_iff.1 ((pairsOf_perm a b).mem_iff.1 h)
  have := validB_lt h6
  have := validB_lt h7
  unfold validB
  simp only [Bool.and_eq_true, decide_eq_true_eq]
  omega
theorem getD_some {α : Type} {l : List α} {k : Nat} {x d : α} (h : l[k]? = some x) : l.getD k d = x := by rw [List.getD_eq_getElem?_getD, h]; rfl
theorem joinRow_none (tr : List Val → Bool) (b : List Tup) (t : Int) (r : Row) : (joinRow tr (sliceRows b t) r).isEmpty = false ↔ ∃ y ∈ b, holdsAt t y = true ∧ tr (r.vals ++ y.vals) = true := by
  rw [List.isEmpty_eq_false_iff_exists_mem]
  unfold joinRow sliceRows
  constructor
  · rintro ⟨z, hz⟩
    obtain ⟨h1, h2⟩ := List.mem_filter.1 hz
    obtain ⟨u, hu, rfl⟩ := List.mem_map.1 h1
    obtain ⟨y, hy, rfl⟩ := List.mem_map.1 hu
    exact ⟨y, (List.mem_filter.1 hy).1, (List.mem_filter.1 hy).2, h2⟩
  · rintro ⟨y, h1, h2, h3⟩
    exact ⟨pairRow r (tupRow y), List.mem_filter.2 ⟨List.mem_map.2 ⟨tupRow y, List.mem_map.2 ⟨y, List.mem_filter.2 ⟨h1, h2⟩, rfl⟩, rfl⟩, h3⟩⟩
theorem partners_at (tr : List Val → Bool) (a b : List Tup) (k : Nat) (hk : k < a.length) (t : Int) (hh : holdsAt t a[k] = true) : inPer (refNorm (partners tr a b k)) t ↔ (joinRow tr (sliceRows b t) (tupRow a[k])).isEmpty = false := by
  rw [(refNorm_law _).2, joinRow_none]
  have hk2 : a[k]? = some a[k] := List.getElem?_eq_getElem hk
  unfold holdsAt at hh
  simp only [Bool.and_eq_true, decide_eq_true_eq] at hh
  constructor
  · rintro ⟨p, hp, h1, h2⟩
    obtain ⟨hp1, _⟩ := List.mem_filter.1 hp
    obtain ⟨q, hq, rfl⟩ := List.mem_map.1 hp1
    obtain ⟨hq1, hq2⟩ := List.mem_filter.1 hq
    simp only [Bool.and_eq_true, decide_eq_true_eq] at hq2
    obtain ⟨x, y, g1, g2, g3, g4, g5, g6, g7⟩ := rawPairs_iff.1 ((pairsOf_perm a b).mem_iff.1 hq1)
    have hx : a[k]? = some x := by rw [← hq2.1]; exact g1
    rw [hk2] at hx
    have hxe := Option.some.inj hx
    simp only at h1 h2
    refine ⟨y, List.mem_of_getElem? g2, ?_, ?_⟩
    · unfold holdsAt validT
      rw [g7, Bool.true_and]
      simp only [Bool.and_eq_true, decide_eq_true_eq]
      omega
    · have := hq2.2
      unfold pairT pairRow tupOf at this
      simp only [getD_some g1, getD_some g2] at this
      rw [hxe]
      exact this
  · rintro ⟨y, h1, h2, h3⟩
    obtain ⟨j, hj, rfl⟩ := List.getElem_of_mem h1
    unfold holdsAt at h2
    simp only [Bool.and_eq_true, decide_eq_true_eq] at h2
    have hv1 : validB a[k].from_ a[k].to_ = true := hh.1.1
    have hv2 : validB b[j].from_ b[j].to_ = true := h2.1.1
    have hj2 : b[j]? = some b[j] := List.getElem?_eq_getElem hj
    have hm : (⟨k, j, max a[k].from_ b[j].from_, min a[k].to_ b[j].to_⟩ : Pair) ∈ pairsOf a b := (pairsOf_perm a b).mem_iff.2 (rawPairs_iff.2 ⟨a[k], b[j], hk2, hj2, rfl, rfl, by simp only; omega, hv1, hv2⟩)
    refine ⟨⟨max a[k].from_ b[j].from_, min a[k].to_ b[j].to_⟩, List.mem_filter.2 ⟨?_, pairs_valid hm⟩, by simp only; omega, by simp only; omega⟩
    refine List.mem_map.2 ⟨_, List.mem_filter.2 ⟨hm, ?_⟩, rfl⟩
    simp only [decide_true, Bool.true_and]
    unfold pairT pairRow tupOf
    simp only [getD_some hk2, getD_some hj2]
    exact h3
theorem padAt_slice (tr : List Val → Bool) (w : Nat) (a b : List Tup) (k : Nat) (hk : k < a.length) (t : Int) : sliceRows (padAt tr w a b k) t = if holdsAt t a[k] = true then padOf w (joinRow tr (sliceRows b t) (tupRow a[k])) (tupRow a[k]) else [] := by
  have hg : a.getD k tupD = a[k] := getD_some (List.getElem?_eq_getElem hk)
  unfold padAt subPs
  rw [hg, refNorm_one]
  by_cases hv : validB (tupPer a[k]).from_ (tupPer a[k]).to_ = true
  · rw [if_pos hv, List.flatMap_cons, List.flatMap_nil, List.append_nil]
    have hvl := validB_lt hv
    have e1 : sliceRows ((subP1 (tupPer a[k]).to_ (tupPer a[k]).from_ (refNorm (partners tr a b k))).map (tupOf (padRow w (tupRow a[k])))) t = List.replicate ((subP1 (tupPer a[k]).to_ (tupPer a[k]).from_ (refNorm (partners tr a b k))).filter (perHas t)).length (padRow w (tupRow a[k])) := by
      unfold sliceRows
      rw [List.filter_map, List.map_map, show (tupRow ∘ tupOf (padRow w (tupRow a[k]))) = fun _ => padRow w (tupRow a[k]) from rfl, List.map_const']
      congr 2
      refine List.filter_congr fun p hp => ?_
      have hp := subP1_ends _ _ _ p hp
      have hvp : validB p.from_ p.to_ = true := by
        unfold validB
        simp only [Bool.and_eq_true, decide_eq_true_eq]
        omega
      simp only [Function.comp, holdsAt, validT, tupOf, perHas]
      rw [hvp, Bool.true_and]
      rfl
    have hlen := subP1_at (tupPer a[k]).to_ t (refNorm (partners tr a b k)) (tupPer a[k]).from_ (refNorm_law _).1
    have hlen1 := fun h => hlen.trans (if_pos h)
    have hlen0 := fun h => hlen.trans (if_neg h)
    rw [e1]
    have hpf : (tupPer a[k]).from_ = a[k].from_ := rfl
    have hpt : (tupPer a[k]).to_ = a[k].to_ := rfl
    have hv' : validT a[k] = true := hv
    have hh : holdsAt t a[k] = true ↔ (tupPer a[k]).from_ ≤ t ∧ t < (tupPer a[k]).to_ := by
      unfold holdsAt
      rw [hv', Bool.true_and, hpf, hpt]
      simp only [Bool.and_eq_true, decide_eq_true_eq]
    by_cases c : holdsAt t a[k] = true
    · have hp := partners_at tr a b k hk t c
      rw [if_pos c]
      unfold padOf
      obtain ⟨c1, c2⟩ := hh.1 c
      cases hm : (joinRow tr (sliceRows b t) (tupRow a[k])).isEmpty with
      | false => rw [hlen0 (fun h => h.2.2 (hp.2 hm)), if_neg (by simp)]; rfl
      | true => rw [hlen1 ⟨c1, c2, fun h => by rw [hp.1 h] at hm; cases hm⟩, if_pos rfl]; rfl
    · rw [hlen0 (fun h => c (hh.2 ⟨h.1, h.2.1⟩)), if_neg c]
      rfl
  · rw [if_neg hv]
    have : holdsAt t a[k] = false := by
      unfold holdsAt
      have : validT a[k] = false := by simpa using (show ¬ validT a[k] = true from hv)
      rw [this]
      rfl
    rw [this]
    rfl
theorem padUpto_slice (tr : List Val → Bool) (w : Nat) (a b : List Tup) (t : Int) (k : Nat) (hk : k ≤ a.length) : sliceRows (padUpto tr w a b k) t = ((a.take k).filter (holdsAt t)).flatMap fun x => padOf w (joinRow tr (sliceRows b t) (tupRow x)) (tupRow x) := by
  induction k with
  | zero => rfl
  | succ k ih =>
    rw [padUpto, sliceRows_append, ih (by omega), padAt_slice tr w a b k (by omega), List.take_succ_eq_append_getElem (by omega), List.filter_append, List.flatMap_append]
    congr 1
    rw [List.filter_cons, List.filter_nil]
    split
    · rw [List.flatMap_cons, List.flatMap_nil, List.append_nil]
    · rfl
theorem leftRaw_rows (tr : List Val → Bool) (w : Nat) (a b : List Tup) (t : Int) : (sliceRows (leftRaw tr w a b) t).Perm (snapLeft tr w (sliceRows a t) (sliceRows b t)) := by
  unfold leftRaw snapLeft
  rw [sliceRows_append, padUpto_slice tr w a b t a.length (Nat.le_refl _), List.take_length]
  have h1 := join_rows tr a b t
  unfold snapJoin at h1
  refine (h1.append_right _).trans ?_
  rw [← slice_flatRow (f := fun x => padOf w (joinRow tr (sliceRows b t) x) x)]
  exact flat_perm2 _ _ _
theorem left_rows (tr : List Val → Bool) (w : Nat) (a b : List Tup) (t : Int) : (sliceRows (leftT tr w a b) t).Perm (snapLeft tr w (sliceRows a t) (sliceRows b t)) := (normT_rows _ t).trans (leftRaw_rows tr w a b t)
theorem padOf_perm (w : Nat) {m m' : List Row} (h : m.Perm m') (x : Row) : padOf w m x = padOf w m' x := by
  unfold padOf
  rw [h.isEmpty_eq]
theorem snapLeft_perm (tr : List Val → Bool) (w : Nat) {A A' B B' : List Row} (h : A.Perm A') (k : B.Perm B') : (snapLeft tr w A B).Perm (snapLeft tr w A' B') :=
  (h.flatMap_right _).trans (flat_permF _ fun x _ => by
    have h1 := joinRow_perm tr k x
    rw [padOf_perm w h1 x]
    exact h1.append_right _)
theorem left_congr (tr : List Val → Bool) (w : Nat) {a a' b b' : List Tup} (h : ∀ t, (sliceRows a t).Perm (sliceRows a' t)) (k : ∀ t, (sliceRows b t).Perm (sliceRows b' t)) : leftT tr w a b = leftT tr w a' b' :=
  normT_congr fun t => (leftRaw_rows tr w a b t).trans ((snapLeft_perm tr w (h t) (k t)).trans (leftRaw_rows tr w a' b' t).symm)

/-- a tuple cut at points -/
def cutT (t : Tup) : Int → List Int → List Tup
  | from_, [] => [⟨t.vals, from_, t.to_, t.lin⟩]
  | from_, p :: ps => if t.to_ ≤ p then [⟨t.vals, from_, t.to_, t.lin⟩] else if from_ < p then ⟨t.vals, from_, p, t.lin⟩ :: cutT t p ps else cutT t from_ ps
def splitT (l : List Tup) (P : List Int) : List Tup := l.flatMap fun t => if validT t = true then cutT t t.from_ P else []
theorem cutT_slice (t : Tup) (x : Int) : ∀ (P : List Int) (f : Int), validB f t.to_ = true → sliceRows (cutT t f P) x = if f ≤ x ∧ x < t.to_ then [tupRow t] else [] := by
  have hone : ∀ f g : Int, validB f g = true → sliceRows [⟨t.vals, f, g, t.lin⟩] x = if f ≤ x ∧ x < g then [tupRow t] else [] := fun f g h => by
    unfold sliceRows
    rw [List.filter_cons, List.filter_nil]
    have e : holdsAt x ⟨t.vals, f, g, t.lin⟩ = (decide (f ≤ x) && decide (x < g)) := by
      unfold holdsAt validT
      simp only
      rw [h, Bool.true_and]
    rw [e]
    by_cases c : f ≤ x ∧ x < g
    · rw [if_pos c, if_pos (by simp [c])]; rfl
    · rw [if_neg c, if_neg (by simpa using c)]; rfl
  intro P
  induction P with
  | nil => intro f h; exact hone f _ h
  | cons p P ih =>
    intro f h
    have hv := validB_lt h
    unfold cutT
    split
    · exact hone f _ h
    split
    · rename_i c1 c2
      have v1 : validB f p = true := by unfold validB; simp only [Bool.and_eq_true, decide_eq_true_eq]; omega
      have v2 : validB p t.to_ = true := by unfold validB; simp only [Bool.and_eq_true, decide_eq_true_eq]; omega
      have e : sliceRows (⟨t.vals, f, p, t.lin⟩ :: cutT t p P) x = sliceRows [⟨t.vals, f, p, t.lin⟩] x ++ sliceRows (cutT t p P) x := sliceRows_append [_] _ x
      rw [e, hone f p v1, ih p v2]
      by_cases a1 : f ≤ x ∧ x < p
      · rw [if_pos a1, if_neg (by omega), if_pos (by omega)]; rfl
      · rw [if_neg a1]
        by_cases a2 : p ≤ x ∧ x < t.to_
        · rw [if_pos a2, if_pos (by omega)]; rfl
        · rw [if_neg a2, if_neg (by omega)]; rfl
    · exact ih f h
theorem split_slice (l : List Tup) (P : List Int) (x : Int) : sliceRows (splitT l P) x = sliceRows l x := by
  unfold splitT
  rw [slice_flatX]
  induction l with
  | nil => rfl
  | cons t l ih =>
    rw [List.flatMap_cons, ih]
    have e : sliceRows (t :: l) x = sliceRows [t] x ++ sliceRows l x := sliceRows_append [t] l x
    rw [e]
    congr 1
    cases hv : validT t with
    | false =>
      rw [if_neg (by simp)]
      unfold sliceRows holdsAt
      rw [List.filter_cons, hv]
      rfl
    | true =>
      rw [if_pos rfl, cutT_slice t x P _ hv]
      unfold sliceRows
      rw [List.filter_cons, List.filter_nil]
      unfold holdsAt
      rw [hv, Bool.true_and]
      by_cases c : t.from_ ≤ x ∧ x < t.to_
      · rw [if_pos c, if_pos (by simp [c])]; rfl
      · rw [if_neg c, if_neg (by simpa using c)]; rfl

end Go.Proofs.YtdgpbpbjlnlijaaGreatDoor

/- the queue of active tuples: its row of cells; the methods Len, Less, Swap -/
namespace Go.Proofs.YtdgpbpbjlnlijaaGreatDoor
open Go.RowKit Go.Shelf Go.Sort

instance : Inhabited Ev := ⟨⟨false, 0, 0, 0⟩⟩
def actEnc (x : Ev) : List Value := [.int .i64 x.idx, .int .i64 x.to_]
def okE (x : Ev) : Prop := x.idx ≤ 1048576 ∧ -9223372036854775808 ≤ x.to_ ∧ x.to_ ≤ 9223372036854775807
def Rep.act : Rep Ev where
  size := 2
  holds _ cs x := cs = actEnc x ∧ okE x
  len := by rintro w cs x ⟨rfl, _⟩; rfl
  ext := by rintro w w' cs x h _; exact h
  one := by rintro w cs x ⟨rfl, _⟩; simp [actEnc, Value.oneCell']
theorem flat_act : Rep.act.flat := fun _ _ _ _ h => h
theorem act_len (x : Ev) : (actEnc x).length = 2 := rfl
theorem act_one (x : Ev) : ∀ v ∈ actEnc x, v.oneCell' = true := by simp [actEnc, Value.oneCell']

section
variable {α : Type} {R : Rep α} {enc : α → List Value} {ok : α → Prop}
theorem css_enc (hR : ∀ h cs x, R.holds h cs x ↔ cs = enc x ∧ ok x) {h : View} {css : List (List Value)} {xs : List α} (k : RepAll R h css xs) : css = xs.map enc ∧ ∀ x ∈ xs, ok x := by
  induction xs generalizing css with
  | nil =>
    cases css with
    | nil => simp
    | cons c css => exact k.elim
  | cons x xs ih =>
    cases css with
    | nil => exact k.elim
    | cons c css =>
      obtain ⟨h1, h2⟩ := ih k.2
      obtain ⟨h3, h4⟩ := (hR _ _ _).1 k.1
      exact ⟨by rw [h3, h1]; rfl, by simpa using ⟨h4, h2⟩⟩
theorem enc_css (hR : ∀ h cs x, R.holds h cs x ↔ cs = enc x ∧ ok x) {h : View} {xs : List α} (k : ∀ x ∈ xs, ok x) : RepAll R h (xs.map enc) xs := by
  have := repAll_map R h xs enc id (fun x hx => (hR _ _ _).2 ⟨rfl, k x hx⟩)
  simpa using this
variable [Inhabited α]
/-- a row of one's own, as an array that is sorted in place -/
theorem own_split (hR : ∀ h cs x, R.holds h cs x ↔ cs = enc x ∧ ok x) {w : World} {S : Nat → Prop} {base : Nat} {e : TypeId} {v : Value} {xs : List α} (hown : OwnOf R w S base e v xs) (hn : 0 < xs.length) :
    ∃ g cap cur, v = .slice (some ⟨g, 0, none⟩) xs.length cap ∧ base ≤ g ∧ w.heap[g]? = some (.cells cur e (0, 0)) ∧ xs.length ≤ cap ∧ cap ≤ maxLen ∧ cur.size = cap * R.size ∧ HoldsK enc R.size w g 0 xs.toArray ∧ ∀ x ∈ xs, ok x := by
  obtain ⟨css, h1, h2⟩ := hown
  obtain ⟨rfl, hok⟩ := css_enc hR h1
  obtain ⟨h2l, h2⟩ := h2
  rcases h2 with ⟨_, h0⟩ | ⟨gB, cap, cur, rfl, hb, hh, hc1, hc2, hsz, htk⟩
  · omega
  refine ⟨gB, cap, cur, rfl, hb, hh, hc1, hc2, hsz, ?_, hok⟩
  have hel : ∀ x ∈ xs, (enc x).length = R.size := fun x hx => R.len ((hR w.cell? _ _).2 ⟨rfl, hok x hx⟩)
  have hflat : ∀ j, j < xs.length * R.size → ((xs.map enc).flatten)[j]? = some (flatK enc R.size xs.toArray)[j]! := by
    intro j hj
    have hk0 : 0 < R.size := by
      rcases Nat.eq_zero_or_pos R.size with h | h
      · rw [h] at hj; simp at hj
      · exact h
    have hdiv : j / R.size < xs.length := by rw [Nat.div_lt_iff_lt_mul hk0]; exact hj
    have hmod := Nat.mod_lt j hk0
    rw [get_flatK _ _ _ _ (by simpa using hj)]
    rw [getElem!_pos xs.toArray _ (by simpa using hdiv)]
    have key : ∀ (l : List α) (i r : Nat) (x : α), (∀ y ∈ l, (enc y).length = R.size) → l[i]? = some x → r < R.size → (l.map enc).flatten[i * R.size + r]? = some ((enc x)[r]!) := by
      intro l
      induction l with
      | nil => intro i r x _ h; simp at h
      | cons y l ih =>
        intro i r x hl h hr
        have hy := hl y (by simp)
        cases i with
        | zero =>
          simp at h
          subst h
          rw [List.map_cons, List.flatten_cons, Nat.zero_mul, Nat.zero_add, List.getElem?_append_left (by rw [hy]; exact hr)]
          rw [getElem!_pos _ r (by rw [hy]; exact hr), List.getElem?_eq_getElem]
        | succ i =>
          rw [List.map_cons, List.flatten_cons, List.getElem?_append_right (by rw [hy, Nat.succ_mul]; omega), hy]
          rw [show (i + 1) * R.size + r - R.size = i * R.size + r from by rw [Nat.succ_mul]; omega]
          exact ih i r x (fun z hz => hl z (by simp [hz])) (by simpa using h) hr
    have := key xs (j / R.size) (j % R.size) (xs[j / R.size]) hel (List.getElem?_eq_getElem hdiv) hmod
    rw [show j / R.size * R.size + j % R.size = j from by rw [Nat.mul_comm]; exact Nat.div_add_mod j R.size] at this
    rw [this]
    simp
  intro j hj
  have hj' : j < xs.length * R.size := by simpa using hj
  constructor
  · have hu := hflat j hj'
    rw [← htk, List.getElem?_take, if_pos hj'] at hu
    rw [Nat.zero_add, cell_of_row w gB j cur e (0, 0) hh]
    simpa using hu
  · simp [World.frozen?, hh]
theorem own_back (hR : ∀ h cs x, R.holds h cs x ↔ cs = enc x ∧ ok x) (hel : ∀ x, (enc x).length = R.size) {w : World} {S : Nat → Prop} {base : Nat} {e : TypeId} {g cap : Nat} {cur : Array Value} {n m : Nat} {d : Array α} {os : Array Obj} (hb : base ≤ g) (hh : w.heap[g]? = some (.cells cur e (0, 0))) (hc1 : n ≤ cap) (hc2 : cap ≤ maxLen) (hsz : cur.size = cap * R.size)
    (hd : d.size = n) (hok : ∀ x ∈ d.toList, ok x) : OwnOf R (sortWorldK enc R.size w g 0 m d os) S base e (.slice (some ⟨g, 0, none⟩) n cap) d.toList := by
  subst hd
  refine ⟨d.toList.map enc, enc_css hR hok, ?_, .inr ⟨g, cap, putCells id 0 (flatK enc R.size d) cur, by simp, hb, sortWorld_row enc R.size w g 0 m d os cur e (0, 0) hh, by simpa using hc1, hc2, by simp [putCells, hsz], ?_⟩⟩
  · rw [← flatK_toList enc R.size hel]; simp
  · rw [← flatK_toList enc R.size hel]
    apply List.ext_getElem?
    intro j
    rw [List.getElem?_take]
    by_cases hj : j < d.size * R.size
    · have hjc : j < cur.size := by rw [hsz]; exact Nat.lt_of_lt_of_le hj (Nat.mul_le_mul_right _ hc1)
      simp [putCells, hjc, hj]
    · rw [if_neg (by simpa using hj), List.getElem?_eq_none (by simpa using Nat.le_of_not_lt hj)]
end

theorem act_iff : ∀ h cs x, Rep.act.holds h cs x ↔ cs = actEnc x ∧ okE x := fun _ _ _ => Iff.rfl
theorem act_cell {w : World} {g : Nat} {d : Array Ev} (h : HoldsK actEnc 2 w g 0 d) (i : Nat) (hi : i < d.size) :
    w.cell? ⟨g, i * 2, none⟩ = some (.int .i64 d[i]!.idx) ∧ w.cell? ⟨g, i * 2 + 1, none⟩ = some (.int .i64 d[i]!.to_) := by
  have g0 := (h (i * 2) (by simp; omega)).1
  have g1 := (h (i * 2 + 1) (by simp; omega)).1
  rw [Nat.zero_add, get_flatK _ _ _ _ (by omega)] at g0 g1
  rw [show i * 2 / 2 = i by omega, show i * 2 % 2 = 0 by omega] at g0
  rw [show (i * 2 + 1) / 2 = i by omega, show (i * 2 + 1) % 2 = 1 by omega] at g1
  exact ⟨g0, g1⟩
def ltAct (x y : Ev) : Bool := decide (x.to_ < y.to_)
theorem swo_act : SWO ltAct where
  irrefl x := by simp [ltAct]
  trans x y z := by simp only [ltAct, decide_eq_true_eq]; omega
  ntrans x y z := by simp only [ltAct, decide_eq_false_iff_not]; omega

theorem mixedOrd : Tryz.prog.follows Departure.mixedOrders = true := by kernel_rfl
theorem len_act (p : Option Addr) (n cap : Nat) (w : World) : Calls Tryz.prog 225 #[.slice p n cap] w fun e w' => e = .returned (.int .i64 n) ∧ w = w' := by
  go_enter Tryz.func225, Tryz.ntmps225
  go_wp2_with fail
  go_ret
  exact ⟨rfl, rfl⟩

set_option maxHeartbeats 1000000 in
theorem less_act (g n cap : Nat) (d : Array Ev) (i j : Nat) (w : World) (hH : HoldsK actEnc 2 w g 0 d) (hn : d.size = n) (hi : i < d.size) (hj : j < d.size) :
    Calls Tryz.prog 300 #[.slice (some ⟨g, 0, none⟩) n cap, .int .i64 i, .int .i64 j] w fun e w' => e = .returned (.bool (ltAct d[i]! d[j]!)) ∧ Gro w w' := by
  subst hn
  obtain ⟨_, ci⟩ := act_cell hH i hi
  obtain ⟨_, cj⟩ := act_cell hH j hj
  have hiz : (i : Int) < (d.size : Int) := by omega
  have hjz : (j : Int) < (d.size : Int) := by omega
  clear hH
  unfold ltAct
  generalize d[i]!.to_ = ti at ci ⊢
  generalize d[j]!.to_ = tj at cj ⊢
  have mixed := mixedOrd
  go_enter Tryz.func300, Tryz.ntmps300
  go_wp2_with fail
  go_big_region_o
  all_goals go_wp2_with fail
  all_goals go_ret
  all_goals exact ⟨rfl, (Gro.refl w).drew⟩

theorem act_free {w : World} {g : Nat} {d : Array Ev} (h : HoldsK actEnc 2 w g 0 d) (i : Nat) (hi : i < d.size) :
    w.frozen? ⟨g, i * 2, none⟩ = false ∧ w.frozen? ⟨g, i * 2 + 1, none⟩ = false := by
  have g0 := (h (i * 2) (by simp; omega)).2
  have g1 := (h (i * 2 + 1) (by simp; omega)).2
  rw [Nat.zero_add] at g0 g1
  exact ⟨g0, g1⟩
set_option maxHeartbeats 4000000 in
theorem swap_act (g n cap : Nat) (d0 d : Array Ev) (i j : Nat) (w0 w : World) (R : RowK actEnc 2 w0 g 0 d0) (hs : d.size = d0.size) (hn : d.size = n) (S : SWK actEnc 2 w0 g 0 d w) (hi : i < d.size) (hj : j < d.size) :
    Calls Tryz.prog 301 #[.slice (some ⟨g, 0, none⟩) n cap, .int .i64 i, .int .i64 j] w fun e w' => e = .returned (.tuple #[]) ∧ SWK actEnc 2 w0 g 0 (swp d i j) w' := by
  subst hn
  have mixed := mixedOrd
  have hiz : (i : Int) < (d.size : Int) := by omega
  have hjz : (j : Int) < (d.size : Int) := by omega
  have S2 : Aside (SWK actEnc 2 w0 g 0 (swp d i j) ((w.drew.setCells g (0 + i * 2) (actEnc d[j]!)).setCells g (0 + j * 2) (actEnc d[i]!))) := S.swapped R i j hi hj
  have hH := S.holds R.hblk R.hH hs
  obtain ⟨ci0, ci1⟩ := act_cell hH i hi
  obtain ⟨cj0, cj1⟩ := act_cell hH j hj
  obtain ⟨fi0, fi1⟩ := act_free hH i hi
  obtain ⟨fj0, fj1⟩ := act_free hH j hj
  simp only [actEnc, World.setCells, Nat.zero_add] at S2
  clear S hH
  by_cases hij : i = j
  · subst hij
    clear cj0 cj1 fj0 fj1 hjz hj
    generalize d[i]!.to_ = ti at S2 ci1
    generalize d[i]!.idx = ni at S2 ci0
    go_enter Tryz.func301, Tryz.ntmps301
    go_wp2_with fail
    go_big_region_o
    all_goals go_wp2_with fail
    all_goals go_end0
    all_goals exact ⟨rfl, S2.out⟩
  · generalize d[i]!.to_ = ti at S2 ci1
    generalize d[j]!.to_ = tj at S2 cj1
    generalize d[i]!.idx = ni at S2 ci0
    generalize d[j]!.idx = nj at S2 cj0
    have e1 : ¬ i * 2 = j * 2 := by omega
    have e2 : ¬ i * 2 + 1 = j * 2 := by omega
    have e3 : ¬ i * 2 = j * 2 + 1 := by omega
    have e4 : ¬ i * 2 + 1 = j * 2 + 1 := by omega
    go_enter Tryz.func301, Tryz.ntmps301
    go_wp2_with fail
    go_big_region_o
    all_goals go_wp2_with fail
    all_goals go_end0
    all_goals exact ⟨rfl, S2.out⟩

end Go.Proofs.YtdgpbpbjlnlijaaGreatDoor
