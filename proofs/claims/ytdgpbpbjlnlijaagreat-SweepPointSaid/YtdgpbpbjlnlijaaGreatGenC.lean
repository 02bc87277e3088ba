/- annalistlaw0.Tuples and Rows -/
import Derived.Test.YtdgpbpbjlnlijaaGreatGenB
import Derived.Test.YtdgpbpbjlnlijaaGreatBagN
namespace Go.Proofs.YtdgpbpbjlnlijaaGreat
open Go.RowKit

theorem infoTup : (Tryz.prog.info? 45).map (fun i => (i.zero, i.size, i.bytes)) = some (some (.agg #[.slice none 0 0, .int .i64 0, .int .i64 0, .slice none 0 0]), Rep.tup.size, 64) := by kernel_rfl
theorem num_at {w : View} {b o n cap : Nat} {xs : List Num5} (h : SliceOf Rep.num w (.slice (some ⟨b, o, none⟩) n cap) xs) (i : Nat) (hi : i < xs.length) :
    w ⟨b, o + i * 5, none⟩ = some (.int .u16 xs[i].a) ∧ w ⟨b, o + i * 5 + 1, none⟩ = some (.int .u16 xs[i].b) ∧ w ⟨b, o + i * 5 + 2, none⟩ = some (.int .u16 xs[i].c) ∧ w ⟨b, o + i * 5 + 3, none⟩ = some (.int .u16 xs[i].d) ∧ w ⟨b, o + i * 5 + 4, none⟩ = some (.int .u16 xs[i].e) ∧ okNum xs[i] := by
  obtain ⟨c, ⟨rfl, h1⟩, h2⟩ := h.at i hi
  exact ⟨h2 0 _ rfl, h2 1 _ rfl, h2 2 _ rfl, h2 3 _ rfl, h2 4 _ rfl, h1⟩
def genTups (l : List Num5) (most : Nat) : List Tup := (l.take most).map genTup
theorem genTups_len (l : List Num5) (most : Nat) : (genTups l most).length ≤ most := by simp [genTups]; omega

set_option maxRecDepth 100000 in
set_option maxHeartbeats 4000000 in
theorem tuples_gen (v : Value) (l : List Num5) (most : Nat) (hmost : most ≤ 1000) (w : World) (hv : SliceOf Rep.num w.cell? v l) :
    Calls Tryz.prog 4 #[v, .int .i64 most] w fun e w' => ∃ v', e = .returned v' ∧ SliceOf Rep.tup (on w' (since w)) v' (genTups l most) ∧ Ext w w' := by
  obtain ⟨i0, hi, hz0, hz1, hz2⟩ := info_parts infoTup
  obtain ⟨pa, ca, rfl, ha1, ha2, ha3⟩ := hv.form
  unfold maxLen at ha2
  go_enter Tryz.func4, Tryz.ntmps4
  go_wp2_with fail
  go_loopg [5, 6] l.length (fun gk out i wr => ∃ k : Nat, k ≤ l.length ∧ k ≤ most ∧ gk = l.length - k ∧ i = .int .i64 k ∧ OwnOf Rep.tup wr (since w) w.heap.size 45 out (genTups l k) ∧ Ext w wr)
  case atStart => exact ⟨0, by omega, by omega, rfl, rfl, OwnOf.nil _ _ _ _ _, Ext.refl w⟩
  case round =>
    obtain ⟨k, hk, hkm, rfl, rfl, hown, hx⟩ := hrel
    by_cases hlt : k < l.length ∧ k < most
    · obtain ⟨hlt, hlt2⟩ := hlt
      obtain ⟨ba, oa, rfl⟩ := ha3 (by decide) (by omega)
      obtain ⟨c1, c2, c3, c4, c5, hok⟩ := num_at hv k hlt
      have htk : genTups l (k + 1) = genTups l k ++ [genTup l[k]] := by unfold genTups; rw [List.take_succ_eq_append_getElem hlt, List.map_append]; rfl
      have hlen : (genTups l k).length = k := by simp [genTups]; omega
      replace c1 := hx.at c1
      replace c2 := hx.at c2
      replace c3 := hx.at c3
      replace c4 := hx.at c4
      replace c5 := hx.at c5
      generalize l[k] = x at c1 c2 c3 c4 c5 hok htk
      have HT := Lib.hid htk
      have HO := Lib.hid hown
      have HOK := Lib.hid hok
      have HLEN := Lib.hid hlen
      have hd : decide ((k : Int) < (l.length : Int)) = true := by simp; omega
      have hd2 : decide ((k : Int) < (most : Int)) = true := by simp; omega
      clear htk hown hok hlen hv ha3
      go_wp2_with fail
      refine (tuple_gen x _ HOK.out).mono ?_
      rintro e w2 ⟨a, b, rfl, t1, t2, hx2⟩
      obtain ⟨a2, k2, rfl, _⟩ := t1.form
      obtain ⟨b2, j2, rfl, _⟩ := t2.form
      have T1 := Lib.hid t1
      have T2 := Lib.hid t2
      have hz := hx2.size
      have hw := hx.size
      clear t1 t2 c1 c2 c3 c4 c5
      go_wp2_with (at_builtin; refine wpList_append_one Rep.tup (since w) rfl _ _ 24 rfl w.heap.size 45 i0 _ 64 Tryz.underlying24 hi hz0 hz1 hz2 rfl (by decide) _ (genTups l k) rfl ((HO.out.ext hx2).ext ((Ext.refl _).alloc _)) ⟨w2.heap.size, 0, none⟩ 1 (genTup x) [.slice a2 (genTup x).vals.length k2, .int .i64 (genTup x).from_, .int .i64 (genTup x).to_, .slice b2 (genTup x).lin.length j2] rfl ?c1 ?c2 ?c3 ?c4 ?c5 ?_)
      case c1 =>
        have hlt2 := HO.out.lt
        have hs : ∀ u : Value, (∀ j, u.ownBlock = some j → j < wr.heap.size) → Sub (on w2 (fun j => wr.heap.size ≤ j)) (on (w2.alloc (.cells #[.slice a2 (genTup x).vals.length k2, .int .i64 (genTup x).from_, .int .i64 (genTup x).to_, .slice b2 (genTup x).lin.length j2] 45)) (avoid (since w) u)) := fun u hu => by
          refine (((Ext.refl w2).alloc _).sub _).trans (on_mono _ fun j _ hj => ⟨fun he => ?_, ?_⟩)
          · have := hu j he.symm
            omega
          · simp only [since]
            omega
        have hg := gen_per x.a x.b
        exact ⟨_, _, rfl, T1.out.ext (hs _ fun j hj => (hlt2 j hj).2), T2.out.ext (hs _ fun j hj => (hlt2 j hj).2), by simp only [genTup]; omega, by simp only [genTup]; omega⟩
      case c2 => exact cells_new w2 [.slice a2 (genTup x).vals.length k2, .int .i64 (genTup x).from_, .int .i64 (genTup x).to_, .slice b2 (genTup x).lin.length j2] _
      case c3 => rw [HLEN.out]; unfold maxLen; omega
      case c4 => rw [HLEN.out]; omega
      case c5 => simp; omega
      intro g cap w3 hown3 hgr _
      go_wp2_with fail
      go_roundg (l.length - (k + 1))
      case measure => omega
      case rel =>
        refine ⟨k + 1, by omega, by omega, rfl, by go_num, by rw [HT.out]; exact hown3, ?_⟩
        exact Below.grown ((hx.trans hx2).alloc _) hgr (by simp; omega) (fun j hj => (HO.out.lt j hj).1)
    · have hd : (decide ((k : Int) < (l.length : Int)) && decide ((k : Int) < (most : Int))) = false := by
        rw [Bool.and_eq_false_iff]
        simp only [decide_eq_false_iff_not]
        omega
      have hfull : genTups l k = genTups l most := by
        unfold genTups
        by_cases h : k < l.length
        · rw [show k = most by omega]
        · rw [List.take_of_length_le (by omega), List.take_of_length_le (by omega)]
      have hend : (¬ (k : Int) < (l.length : Int)) ∨ ((k : Int) < (l.length : Int) ∧ ¬ (k : Int) < (most : Int)) := by omega
      rw [hfull] at hown
      have hs := hown.sliceIn (T := since w) (fun _ _ h => h) (fun _ h => h)
      obtain ⟨pf, qf, rfl, _⟩ := hs.form
      have HS := Lib.hid hs
      clear hown hs hfull hd hv ha3
      rcases hend with hend | ⟨hd1, hend⟩
      · have hd1 : decide ((k : Int) < (l.length : Int)) = false := by simpa using hend
        go_wp2_with fail
        go_ret
        exact ⟨_, rfl, HS.out, hx⟩
      · have hd2 : decide ((k : Int) < (most : Int)) = false := by simpa using hend
        go_wp2_with fail
        go_ret
        exact ⟨_, rfl, HS.out, hx⟩

/-- a tuple without its period -/
def rowOf (t : Tup) : Row := ⟨t.vals, t.lin⟩
def genRows (l : List Num5) (most : Nat) : List Row := (genTups l most).map rowOf
theorem genRows_len (l : List Num5) (most : Nat) : (genRows l most).length ≤ most := by simpa [genRows] using genTups_len l most

end Go.Proofs.YtdgpbpbjlnlijaaGreat
