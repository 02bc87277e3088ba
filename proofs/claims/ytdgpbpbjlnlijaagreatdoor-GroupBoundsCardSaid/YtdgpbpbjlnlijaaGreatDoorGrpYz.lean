/- rows of all aggregates: the contract, the bounds -/
import Derived.Test.YtdgpbpbjlnlijaaGreatDoorKC14
import Derived.Test.YtdgpbpbjlnlijaaGreatDoorRowGz
import Derived.Test.YtdgpbpbjlnlijaaGreatDoorAggMz
namespace Go.Proofs.YtdgpbpbjlnlijaaGreatDoor
open Go.RowKit Go.Maps

def aggsL (c : Int) : List AggI := [⟨1, 0⟩, ⟨2, 0⟩, ⟨3, c⟩, ⟨4, c⟩]
def aggF (a : AggI) (vss : List (List Val)) : Val := aggVal a.kind a.arg vss
def allV (c : Int) (vss : List (List Val)) : List Val := (aggsL c).map fun a => aggF a vss
theorem exC_col (i : Nat) (h : i < exC.length) : exC[i].col = i := by
  match i, h with
  | 0, _ => rfl
  | 1, _ => rfl
theorem ok_sumV (xs : List Val) : okVal (sumV xs) := by
  unfold sumV
  split
  · rename_i h
    exact ⟨by simp [intVal], by simp only [intVal]; omega, by simp [intVal, maxLen]⟩
  · exact ok_nV
theorem ok_aggVal {k c : Int} {vss : List (List Val)} (hl : vss.length ≤ 4096) (h : ∀ vs ∈ vss, ∀ v ∈ vs, okVal v) : okVal (aggVal k c vss) := by
  unfold aggVal
  split
  · exact ⟨by simp [intVal], by simp only [intVal]; omega, by simp [intVal, maxLen]⟩
  split
  · exact ok_sumV _
  split
  · exact ok_nV
  rename_i hne
  split
  · exact args_ok h _ (pickMin_law hne).1
  split
  · exact args_ok h _ (pickMax_mem hne)
  · exact ok_nV
theorem fit_colAt {vs : List Val} (h : ∀ v ∈ vs, v.s.size ≤ 1048576) (c : Int) : (colAt vs c).s.size ≤ 1048576 := by
  unfold colAt
  split
  · rename_i hc
    have hlt : c.toNat < vs.length := by omega
    rw [List.getD_eq_getElem?_getD, List.getElem?_eq_getElem hlt]
    exact h _ (List.getElem_mem _)
  · exact Nat.zero_le _
theorem fit_args {c : Int} {vss : List (List Val)} (h : ∀ vs ∈ vss, ∀ v ∈ vs, v.s.size ≤ 1048576) : ∀ v ∈ argsC c vss, v.s.size ≤ 1048576 := fun v hv => by
  obtain ⟨vs, h1, rfl⟩ := List.mem_map.1 (List.mem_filter.1 hv).1
  exact fit_colAt (h vs h1) c
theorem fit_aggVal {k c : Int} {vss : List (List Val)} (h : ∀ vs ∈ vss, ∀ v ∈ vs, v.s.size ≤ 1048576) : (aggVal k c vss).s.size ≤ 1048576 := by
  unfold aggVal
  split
  · exact Nat.zero_le _
  split
  · unfold sumV; split
    · exact Nat.zero_le _
    · exact Nat.zero_le _
  split
  · exact Nat.zero_le _
  rename_i hne
  split
  · exact fit_args h _ (pickMin_law hne).1
  split
  · exact fit_args h _ (pickMax_mem hne)
  · exact Nat.zero_le _
theorem all_fit {l : List Tup} (hf : ∀ t ∈ l, fitVals t.vals ∧ t.lin.length ≤ 256) (c : Int) : ∀ vss : List (List Val), (∀ vs ∈ vss, ∃ u ∈ l, vs = u.vals) → (allV c vss).length ≤ 1000 ∧ ∀ x ∈ allV c vss, x.s.size ≤ 1048576 := fun vss h => by
  refine ⟨by simp [allV, aggsL], fun x hx => ?_⟩
  obtain ⟨a, _, rfl⟩ := List.mem_map.1 hx
  exact fit_aggVal fun vs hvs v hv => by
    obtain ⟨u, hu, rfl⟩ := h vs hvs
    exact (hf u hu).1.2 v hv
theorem tups_ok {h : View} {v : Value} {l : List Tup} (k : SliceOf Rep.tup h v l) : ∀ t ∈ l, ∀ x ∈ t.vals, okVal x := by
  intro t ht
  obtain ⟨i, hi, rfl⟩ := List.getElem_of_mem ht
  obtain ⟨p, cap, rfl, _, _, hp⟩ := k.form
  obtain ⟨b, o, rfl⟩ := hp (by decide) (by omega)
  obtain ⟨_, _, _, _, _, _, g, _⟩ := tup_at k i hi
  exact vals_ok g
theorem rowLaw_all {w : World} {ve va : Value} {l : List Tup} {K : Nat} {c : Int} (hc : c = 0 ∨ c = 1) (he : SliceOf Rep.expr w.cell? ve exC) (ha : SliceOf Rep.agg w.cell? va (aggsL c)) (hK : K ≤ 1000) (hl : l.length ≤ 40) (hf : ∀ t ∈ l, fitVals t.vals ∧ t.lin.length ≤ 256) : RowLaw w ve va l K (allV c) := by
  intro G kv key tv ms t w1 hx h0 h1 hk hkl hm hml hmm
  obtain ⟨pe, ce, hve, _⟩ := he.form
  have hmv : (memV ms t).length ≤ 40 := by unfold memV; rw [List.length_map]; exact Nat.le_trans (List.length_filter_le _ _) (by omega)
  have hok : ∀ vs ∈ memV ms t, ∀ v ∈ vs, okVal v := fun vs hvs => by
    obtain ⟨m, hm1, rfl⟩ := List.mem_map.1 hvs
    exact tups_ok hm m (List.mem_filter.1 hm1).1
  refine row_gen G ve va (aggsL c) kv key tv ms t w1 h0 ⟨_, _, _, hve⟩ h1 (ha.ext hx.full) aggF (fun a hma => ⟨ok_aggVal (by omega) hok, fun mv wx hwx hmv2 => ?_⟩) (by simp [aggsL]) hk (by omega) hm (by omega) (fun m hm' => by obtain ⟨u, hu, _, e⟩ := hmm m hm'; rw [e]; exact (hf u hu).2)
  have hsz : ∀ i : Nat, i < exC.length → (hi : i < exC.length) → exC[i].col = (i : Int) := fun i _ hi => exC_col i hi
  have hgen : ∀ (kd : Int) (i : Nat), i < exC.length → (kd = 2 ∨ kd = 3 ∨ kd = 4) → Calls Tryz.prog 92 #[ve, .agg #[.int .i64 kd, .int .i64 (i : Int)], mv] wx fun e w' => e = .returned (valV (aggF ⟨kd, i⟩ (memV ms t))) ∧ Ext wx w' := fun kd i hi hkd => by
    have h := aggregate_any ve exC kd i mv (memV ms t) wx (he.ext (hx.trans hwx).full) exC_op (by simp [exC]) hi hmv2 (by omega) hkd
    rw [exC_col i hi] at h
    exact h
  unfold aggsL at hma
  simp only [List.mem_cons, List.not_mem_nil, or_false] at hma
  have hel : exC.length = 2 := rfl
  rcases hma with rfl | rfl | rfl | rfl
  · obtain ⟨pm, cm, rfl, _⟩ := hmv2.form
    exact aggregate_count ve pm _ cm 0 wx
  · exact hgen 2 0 (by omega) (by omega)
  · rcases hc with rfl | rfl
    · exact hgen 3 0 (by omega) (by omega)
    · exact hgen 3 1 (by omega) (by omega)
  · rcases hc with rfl | rfl
    · exact hgen 4 0 (by omega) (by omega)
    · exact hgen 4 1 (by omega) (by omega)

set_option maxRecDepth 100000 in
set_option maxHeartbeats 4000000 in
theorem allAggs_any (k : Int) (w : World) (h0 : 0 ≤ k) (h1 : k ≤ 255) : Calls Tryz.prog 21 #[.int .u8 k] w fun e w' => ∃ v, e = .returned v ∧ SliceOf Rep.agg w'.cell? v (aggsL (k % 2)) ∧ Ext w w' := by
  obtain ⟨c, hc⟩ : ∃ c, k % 2 = c := ⟨_, rfl⟩
  have hc2 : c = 0 ∨ c = 1 := by omega
  rw [hc]
  go_enter Tryz.func21, Tryz.ntmps21
  go_wp2_with fail
  go_ret
  refine ⟨_, rfl, ?_, (Ext.refl w).alloc _⟩
  exact slice_lit Rep.agg w [.int .i64 1, .int .i64 0, .int .i64 2, .int .i64 0, .int .i64 3, .int .i64 c, .int .i64 4, .int .i64 c] 48 [[.int .i64 1, .int .i64 0], [.int .i64 2, .int .i64 0], [.int .i64 3, .int .i64 c], [.int .i64 4, .int .i64 c]] (aggsL c) rfl ⟨⟨rfl, by unfold okI; dsimp only; omega, by unfold okI; dsimp only; omega⟩, ⟨rfl, by unfold okI; dsimp only; omega, by unfold okI; dsimp only; omega⟩, ⟨rfl, by unfold okI; dsimp only; omega, by unfold okI; dsimp only; omega⟩, ⟨rfl, by unfold okI; dsimp only; omega, by unfold okI; dsimp only; omega⟩, trivial⟩ (by simp [aggsL, maxLen])

end Go.Proofs.YtdgpbpbjlnlijaaGreatDoor
