/- Compose of the reference: which relations it hands back, for all ints. -/
import Derived.Test.YtjhbndbfgbkccaaPerL
namespace Go.Proofs.Ytjhbndbfgbkccaa
open Go.RowKit

set_option maxHeartbeats 1000000 in
set_option maxRecDepth 100000 in
theorem rcompose_any (r s : Int) (w : World) :
    Calls Try.prog 16 #[.int .i64 r, .int .i64 s] w fun e w' =>
      ∃ v, e = .returned v ∧ w'.ownsRow w.heap.size 3 1 v (compL r s).length ((compL r s).map (Value.int .i64)) ∧ Ext w w' := by
  obtain ⟨i0, hi, hz0, hz1, hz2⟩ := info_parts infoPer
  obtain ⟨i1, hj, hy0, hy1, hy2⟩ := info_parts infoInt
  go_enter Try.func16, Try.ntmps16
  go_wp2_with fail
  go_loopg [6, 7] 5 (fun gk v i wr => ∃ k : Nat, k ≤ 5 ∧ gk = 5 - k ∧ i = .int .i64 k ∧ wr.ownsRow (w.heap.size + 1) 23 2 v (perL k).length (perCells (perL k)) ∧ Below (w.heap.size + 1) (w.alloc noMarks) wr)
  case atStart => exact ⟨0, by omega, rfl, rfl, World.ownsRow_nil _ _ _ _, Below.refl _ _⟩
  case round =>
    obtain ⟨k, hk, rfl, rfl, hown, hbel⟩ := hrel
    obtain ⟨wo, rfl⟩ : ∃ wo : World, wo = wr := ⟨_, rfl⟩
    by_cases hk5 : k < 5
    · have hd : decide ((k : Int) < 5) = true := by simp; omega
      go_wp2_with fail
      go_loopg [6, 8] (6 - (k + 1)) (fun gk v j ws => ∃ n : Nat, k + 1 ≤ n ∧ n ≤ 6 ∧ gk = 6 - n ∧ j = .int .i64 n ∧ ws.ownsRow (w.heap.size + 1) 23 2 v (perL k ++ rowL k (n - (k + 1))).length (perCells (perL k ++ rowL k (n - (k + 1)))) ∧ Below (w.heap.size + 1) (w.alloc noMarks) ws)
      case atStart => exact ⟨k + 1, by omega, by omega, rfl, by go_num, by simpa [rowL] using hown, hbel⟩
      case round =>
        obtain ⟨n, hn1, hn2, rfl, rfl, hown2, hbel2⟩ := hrel
        obtain ⟨ws, rfl⟩ : ∃ ws : World, ws = wr := ⟨_, rfl⟩
        by_cases hn5 : n < 6
        · have hlen := perL_le k
          have hlr := rowL_len k (n - (k + 1))
          have hsz : w.heap.size + 1 ≤ ws.heap.size := by have := hbel2.size; simpa using this
          go_wp2_with (at_builtin; refine wpList_append_own _ rfl _ _ 40 rfl (w.heap.size + 1) 23 i0 _ 2 16 Try.underlying40 hi hz0 hz1 hz2 rfl (by decide) _ _ _ rfl (hown2.alloc _) ⟨ws.heap.size, 0, none⟩ 1 1 [.int .i64 k, .int .i64 n] rfl rfl ?c1 ?c2 ?c3 ?c4 ?c5 ?_)
          case c1 => exact cells_new ws [.int .i64 k, .int .i64 n] _
          case c2 => simp [Value.oneCell']
          case c3 => unfold maxLen; simp; omega
          case c4 => simp; omega
          case c5 => simp; omega
          intro v' w1 hown' hgrow _
          go_wp2_with fail
          go_roundg (6 - (n + 1))
          case measure => omega
          case rel =>
            have e1 : n + 1 - (k + 1) = n - (k + 1) + 1 := by omega
            refine ⟨n + 1, by omega, by omega, rfl, by go_num, ?_, (hbel2.alloc hsz _).grown hgrow (by simp; omega) (fun j hj => by have := (hown2.lt j hj).1; omega)⟩
            rw [e1, rowL_succ, ← List.append_assoc, perCells_app, show k + 1 + (n - (k + 1)) = n from by omega]
            simpa [perCells, Nat.add_assoc, hlr] using hown'
        · have : n = 6 := by omega
          subst this
          go_wp2_with fail
          go_roundg (5 - (k + 1))
          case measure => omega
          case rel => exact ⟨k + 1, by omega, rfl, by go_num, by rw [perL_succ]; simpa [show 6 - (k + 1) = 5 - k from by omega] using hown2, hbel2⟩
    · have : k = 5 := by omega
      subst this
      obtain ⟨g, cap, rfl, hg1, hg2, hcap1, hcap2, hall⟩ := all_cells hown
      have hm0 := fun t ht => noMarks_at w t ht
      have hst0 : CompSt w.heap.size g w.heap.size (fun _ => false) w wo := ⟨hall, fun t ht => by rw [hbel.cell (by simp), hbel.frozen (by simp)]; exact hm0 t ht, by omega, hg2, by omega, Nat.le_refl _, ((Below.refl w.heap.size w).alloc (Nat.le_refl _) _).trans (hbel.mono (by omega))⟩
      clear hown hm0
      go_wp2_with fail
      go_loopg [35] 15 (fun gk t wr => ∃ i : Nat, i ≤ 15 ∧ gk = 15 - i ∧ t = .int .i64 i ∧ ∃ M : Nat → Bool, CompSt w.heap.size g w.heap.size M w wr ∧ ∀ t, (M t = true ↔ DoneA (FR r s) t i))
      case atStart => exact ⟨0, by omega, rfl, rfl, fun _ => false, hst0, by simp [DoneA]⟩
      case round =>
        obtain ⟨i, hi, rfl, rfl, M, hst, hM⟩ := hrel
        obtain ⟨wa, rfl⟩ : ∃ ws : World, ws = wr := ⟨_, rfl⟩
        by_cases hi5 : i < 15
        · have hc0 := hst.all i hi5
          have hc1 := hc0.2
          replace hc0 := hc0.1
          have hdi : decide ((i : Int) < 15) = true := by simp; omega
          have hpa := Nat.ne_of_lt hst.ps
          go_wp2_with fail
          clear hc0 hc1
          go_loopg [41] 15 (fun gk t wr => ∃ j : Nat, j ≤ 15 ∧ gk = 15 - j ∧ t = .int .i64 j ∧ Box wa.heap.size (perAt i).1 (perAt i).2 wr ∧ ∃ M : Nat → Bool, CompSt w.heap.size g w.heap.size M w wr ∧ ∀ t, (M t = true ↔ DoneB (FR r s) t i j))
          case atStart => exact ⟨0, by omega, rfl, rfl, Box.new _ _ _ _, M, hst.alloc _, by simpa [DoneB] using hM⟩
          case round =>
            clear hM hst
            obtain ⟨j, hj, rfl, rfl, hbox, M, hst, hM⟩ := hrel
            obtain ⟨wb, rfl⟩ : ∃ ws : World, ws = wr := ⟨_, rfl⟩
            by_cases hj5 : j < 15
            · have hc0 := hst.all j hj5
              have hc1 := hc0.2
              replace hc0 := hc0.1
              have hdj : decide ((j : Int) < 15) = true := by simp; omega
              have hpb := Nat.ne_of_lt hst.ps
              have hb1 := hbox.fst
              have hb2 := hbox.snd
              have hb3 := hbox.lt
              go_wp2_with fail
              refine (rrelation_any _ _ _ _ _ (perAt_valid _ hi5) (perAt_valid _ hj5)).mono ?_
              rintro e w1 ⟨rfl, hbel1⟩
              generalize hr1 : relI _ _ _ _ = q1
              have Hr1 := Lib.hid hr1
              clear hr1
              have hz1 := hbel1.size
              simp at hz1
              obtain ⟨hcc, hff⟩ := bcell (hbel1.mono (B' := wb.heap.size + 1) (by simp))
              have hst1 := (hst.alloc (.cells #[.int .i64 (perAt j).1, .int .i64 (perAt j).2] 23)).below hbel1 (Nat.le_refl _)
              have hbx1 := (hbox.alloc (.cells #[.int .i64 (perAt j).1, .int .i64 (perAt j).2] 23)).below hbel1 (by simp; omega)
              have hby1 := (Box.new wb (perAt j).1 (perAt j).2 23).below hbel1 (by simp)
              clear hcc hff hc0 hc1 hb1 hb2 hb3 hbel1
              by_cases hq : q1 = r
              · have hqb : (q1 != r) = false := by simp [hq]
                have Hq := Lib.hid hq
                clear hq
                go_wp2_with fail
                go_loopg [52] 15 (fun gk t wr => ∃ k : Nat, k ≤ 15 ∧ gk = 15 - k ∧ t = .int .i64 k ∧ Box wa.heap.size (perAt i).1 (perAt i).2 wr ∧ Box wb.heap.size (perAt j).1 (perAt j).2 wr ∧ ∃ M : Nat → Bool, CompSt w.heap.size g w.heap.size M w wr ∧ ∀ t, (M t = true ↔ DoneC (FR r s) t i j k))
                case atStart => exact ⟨0, by omega, rfl, rfl, hbx1, hby1, M, hst1, by simpa [DoneC] using hM⟩
                case round =>
                  clear hM hst1 hst hbx1 hby1 hbox
                  obtain ⟨k, hk, rfl, rfl, hbx, hby, M, hst, hM⟩ := hrel
                  obtain ⟨wc, rfl⟩ : ∃ ws : World, ws = wr := ⟨_, rfl⟩
                  by_cases hk5 : k < 15
                  · have hc0 := hst.all k hk5
                    have hc1 := hc0.2
                    replace hc0 := hc0.1
                    have hdk : decide ((k : Int) < 15) = true := by simp; omega
                    have hb1 := hby.fst
                    have hb2 := hby.snd
                    have hb3 := hby.lt
                    go_wp2_with fail
                    refine (rrelation_any _ _ _ _ _ (perAt_valid _ hj5) (perAt_valid _ hk5)).mono ?_
                    rintro e w1 ⟨rfl, hbel1⟩
                    generalize hr2 : relI _ _ _ _ = q2
                    have Hr2 := Lib.hid hr2
                    clear hr2
                    have hz1 := hbel1.size
                    simp at hz1
                    have hst1 := (hst.alloc (.cells #[.int .i64 (perAt k).1, .int .i64 (perAt k).2] 23)).below hbel1 (Nat.le_refl _)
                    have hbx1 := (hbx.alloc (.cells #[.int .i64 (perAt k).1, .int .i64 (perAt k).2] 23)).below hbel1 (by have := hbx.lt; simp; omega)
                    have hby1 := (hby.alloc (.cells #[.int .i64 (perAt k).1, .int .i64 (perAt k).2] 23)).below hbel1 (by have := hby.lt; simp; omega)
                    have hbz1 := (Box.new wc (perAt k).1 (perAt k).2 23).below hbel1 (by simp)
                    clear hc0 hc1 hb1 hb2 hb3 hbel1 hst hbx hby
                    by_cases hs : q2 = s
                    · have hsb : (q2 == s) = true := by simp [hs]
                      have Hs := Lib.hid hs
                      clear hs
                      have hb1 := hbx1.fst
                      have hb2 := hbx1.snd
                      have hb3 := hbz1.fst
                      have hb4 := hbz1.snd
                      go_wp2_with fail
                      refine (rrelation_any _ _ _ _ _ (perAt_valid _ hi5) (perAt_valid _ hk5)).mono ?_
                      rintro e w2 ⟨rfl, hbel2⟩
                      obtain ⟨t, ht, ht14⟩ := relI_nat (perAt i).1 (perAt i).2 (perAt k).1 (perAt k).2
                      rw [ht]
                      have Ht := Lib.hid ht
                      clear ht
                      have hst2 := hst1.below hbel2 (Nat.le_refl _)
                      have hbx2 := hbx1.below hbel2 hbx1.lt
                      have hby2 := hby1.below hbel2 hby1.lt
                      have hm1 := (hst2.marks t ht14).1
                      have hm2 := (hst2.marks t ht14).2
                      clear hb1 hb2 hb3 hb4 hbz1 hbel2 hz1
                      go_wp2_with fail
                      go_roundg (15 - (k + 1))
                      case measure => omega
                      case rel =>
                        refine ⟨k + 1, by omega, rfl, by go_num, hbx2.set hpa _, hby2.set hpb _, _, hst2.set t, fun u => doneC_hit (hM u) (by unfold FR relP; rw [Hr1.out, Hr2.out, Ht.out]; exact hitF Hq.out Hs.out rfl)⟩
                    · have hsb : (q2 == s) = false := by simp [hs]
                      have Hs := Lib.hid hs
                      clear hs
                      go_wp2_with fail
                      go_roundg (15 - (k + 1))
                      case measure => omega
                      case rel =>
                        refine ⟨k + 1, by omega, rfl, by go_num, hbx1, hby1, M, hst1, fun u => doneC_miss (hM u) (by unfold FR relP; rw [Hr2.out]; exact fun h => Hs.out h.2.1)⟩
                  · have : k = 15 := by omega
                    subst this
                    go_wp2_with fail
                    go_roundg (15 - (j + 1))
                    case measure => omega
                    case rel =>
                      exact ⟨j + 1, by omega, rfl, by go_num, hbx, M, hst, fun u => doneB_next (hM u)⟩
              · have hqb : (q1 != r) = true := by simp [hq]
                have Hq := Lib.hid hq
                clear hq
                go_wp2_with fail
                go_roundg (15 - (j + 1))
                case measure => omega
                case rel =>
                  exact ⟨j + 1, by omega, rfl, by go_num, hbx1, M, hst1, fun u => doneB_miss (hM u) (fun z => by unfold FR relP; rw [Hr1.out]; exact fun h => Hq.out h.1)⟩
            · have : j = 15 := by omega
              subst this
              go_wp2_with fail
              go_roundg (15 - (i + 1))
              case measure => omega
              case rel =>
                exact ⟨i + 1, by omega, rfl, by go_num, M, hst, fun u => doneA_next (hM u)⟩
        · have : i = 15 := by omega
          subst this
          have hmk := fun t ht => (hst.marks t ht).1
          have hbw := hst.bel
          have hpw := hst.ps
          clear hst hall hbel hg1 hg2 hcap1 hcap2
          go_wp2_with fail
          go_loopg [15, 16] 13 (fun gk v t wr => ∃ n : Nat, n ≤ 13 ∧ gk = 13 - n ∧ t = .int .i64 ((1 + n : Nat) : Int) ∧ wr.ownsRow wa.heap.size 3 1 v (compUp r s n).length ((compUp r s n).map (Value.int .i64)) ∧ Below wa.heap.size wa wr)
          case atStart => exact ⟨0, by omega, rfl, rfl, World.ownsRow_nil _ _ _ _, Below.refl _ _⟩
          case round =>
            obtain ⟨n, hn, rfl, rfl, hown, hbl⟩ := hrel
            obtain ⟨wd, rfl⟩ : ∃ ws : World, ws = wr := ⟨_, rfl⟩
            generalize hm : 1 + n = m
            have Hm := Lib.hid hm
            have hm1 : 1 ≤ m := by omega
            have hm2 : m ≤ 14 := by omega
            clear hm
            by_cases hm13 : m < 14
            · have hmc : wd.cell? ⟨w.heap.size, m, none⟩ = some (.bool (M m)) := by rw [hbl.cell hpw]; exact hmk m hm13
              have hlen := compUp_le r s n
              have hsz := hbl.size
              cases hMm : M m with
              | true =>
                rw [hMm] at hmc
                go_wp2_with (at_builtin; refine wpList_append_own _ rfl _ _ 30 rfl wa.heap.size 3 i1 _ 1 8 Try.underlying30 hj hy0 hy1 hy2 rfl (by decide) _ _ _ rfl (hown.alloc _) ⟨wd.heap.size, 0, none⟩ 1 1 [.int .i64 m] rfl rfl ?c1 ?c2 ?c3 ?c4 ?c5 ?_)
                case c1 => exact cells_new wd [.int .i64 m] _
                case c2 => simp [Value.oneCell']
                case c3 => unfold maxLen; omega
                case c4 => omega
                case c5 => simp; omega
                intro v' w1 hown' hgrow _
                go_wp2_with fail
                go_roundg (13 - (n + 1))
                case measure => have := Hm.out; omega
                case rel =>
                  refine ⟨n + 1, by have := Hm.out; omega, rfl, by have := Hm.out; subst this; go_num, ?_, (hbl.alloc hsz _).grown hgrow (by simp; omega) (fun j hj => by have := (hown.lt j hj).1; omega)⟩
                  rw [compUp_hit r s n (by rw [Hm.out]; exact (compOk_iffR r s m).2 ((hM m).1 hMm)), Hm.out]
                  simpa using hown'
              | false =>
                rw [hMm] at hmc
                go_wp2_with fail
                go_roundg (13 - (n + 1))
                case measure => have := Hm.out; omega
                case rel =>
                  refine ⟨n + 1, by have := Hm.out; omega, rfl, by have := Hm.out; subst this; go_num, ?_, hbl⟩
                  rw [compUp_miss r s n (by rw [Hm.out]; exact Bool.eq_false_iff.2 fun h => by rw [(hM m).2 ((compOk_iffR r s m).1 h)] at hMm; cases hMm)]
                  exact hown
            · have : n = 13 := by have := Hm.out; omega
              subst this
              have : m = 14 := by omega
              subst this
              go_wp2_with fail
              go_ret
              exact ⟨_, rfl, ownsRow_weak hown hbw.size, hbw.trans (hbl.mono hbw.size)⟩

end Go.Proofs.Ytjhbndbfgbkccaa
