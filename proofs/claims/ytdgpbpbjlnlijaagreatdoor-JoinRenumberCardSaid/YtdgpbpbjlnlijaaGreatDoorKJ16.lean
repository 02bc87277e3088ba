/- joined texts of a proof: NormA, SubW, SortedV -/
import Derived.Test.YtdgpbpbjlnlijaaGreatDoorKJ04
import Derived.Test.YtdgpbpbjlnlijaaGreatDoorKJ05
import Derived.Test.YtdgpbpbjlnlijaaGreatDoorKJ15
import Derived.Test.YtdgpbpbjlnlijaaGreatDoorKJ14
import Derived.Test.YtdgpbpbjlnlijaaGreatDoorKJ08
import Derived.Test.YtdgpbpbjlnlijaaGreatDoorKJ07
import Derived.RangeFuncBox
import Derived.RangeFuncLeaves
import Derived.Shelf.Abstract
import Derived.WalkKit
import Derived.OwnWalkIn
import Derived.TacticsInMore
import Derived.LoopNIn
import Derived.LoopIn
import Derived.Maps.AppendAt

/- periodset.Normalize, sweep.Coverage -/
namespace Go.Proofs.YtdgpbpbjlnlijaaGreatDoor
open Go.RowKit Go.Shelf Go.Sort

def cmpPer (x y : Per) : Int := cmpI x.from_ y.from_
theorem swo_per : SWO (ltOf cmpPer) := swo_pull ord_int.swo fun x : Per => x.from_
set_option maxHeartbeats 1000000 in
theorem cmpPer_any (x y : Per) (w : World) : Calls Tryz.prog 177 #[.agg (perEnc x).toArray, .agg (perEnc y).toArray] w fun e w' => e = .returned (.int .i64 (cmpPer x y)) ∧ Gro w w' := by
  unfold perEnc cmpPer
  obtain ⟨f1, t1⟩ := x
  obtain ⟨f2, t2⟩ := y
  dsimp only
  go_enter Tryz.func177, Tryz.ntmps177
  go_wp2_with fail
  refine (compare_int _ _ _).mono ?_
  rintro e w1 ⟨rfl, rfl⟩
  go_wp2_with fail
  go_ret
  exact ⟨rfl, ((Gro.refl w).alloc _).alloc _⟩
theorem cmpPer_enter : ∀ args w, (callFunc 177 args).run Tryz.prog w = .ok (.enter 177 args) w := fun args w => by kernel_rfl
theorem sortPers_any (w : World) (S : Nat → Prop) (base : Nat) (e : TypeId) (v : Value) (xs : List Per) (hown : OwnOf Rep.per w S base e v xs) (hlen : xs.length < 4611686018427387904) :
    Calls Tryz.prog 176 #[v, .func (.func 177) #[] #[]] w fun en w' => ∃ ys, en = .returned (.tuple #[]) ∧ ys.Perm xs ∧ (ys.Pairwise fun a b => ¬ cmpPer b a < 0) ∧ OwnOf Rep.per w' S base e v ys ∧ w.grownBy w' v.ownBlock :=
  sortFunc_gen Rep.per cmpPer swo_per 177 176 4611686018427387904
    (fun β _ enc hel h1 cf hO blk off cap d w hcmp hH hblk hsz => AnyQ.slices_SortFunc Tryz.sortPers Rep.per.size (fun w => by kernel_rfl) (fun w => by kernel_rfl) enc hel h1 cf hO 177 #[] blk off cap d w cmpPer_enter hcmp hH hblk hsz)
    (fun p cap w => AnyF.slices_SortFunc_none Tryz.sortPers p cap (.func (.func 177) #[] #[]) w)
    (fun W x y cx cy hx hy => by obtain ⟨rfl, _⟩ := hx; obtain ⟨rfl, _⟩ := hy; exact cmpPer_any x y W) w S base e v xs hown hlen
def okPer (p : Per) : Bool := validB p.from_ p.to_
theorem per_take (l : List Per) (k : Nat) (h : k < l.length) : (l.take (k + 1)).filter okPer = (l.take k).filter okPer ++ if okPer l[k] = true then [l[k]] else [] := by
  rw [List.take_succ_eq_append_getElem h, List.filter_append]
  congr 1
  rw [List.filter_cons, List.filter_nil]

set_option maxRecDepth 100000 in
set_option maxHeartbeats 8000000 in
theorem norm_any (v : Value) (l : List Per) (w : World) (hv : SliceOf Rep.per w.cell? v l) (hl : l.length ≤ 20000) :
    Calls Tryz.prog 122 #[v] w fun e w' => ∃ v', e = .returned v' ∧ SliceOf Rep.per (on w' (fun k => w.heap.size ≤ k)) v' (refNorm l) ∧ Ext w w' := by
  obtain ⟨i0, hi, hz0, hz1, hz2⟩ := info_parts info_per
  have mixed := mixedOrd
  obtain ⟨p, cap, rfl, hc1, hc2, hp⟩ := hv.form
  obtain ⟨N, hN⟩ : ∃ N, N = l.length := ⟨_, rfl⟩
  have HV := Lib.hid hv
  rw [← hN]
  have HN := Lib.hid hN
  have HP := Lib.hid hp
  have hNl : N ≤ 20000 := by omega
  clear hv hN hp hc1 hc2
  go_enter Tryz.func122, Tryz.ntmps122
  go_wp2_with fail
  go_loopg [3, 12] N (fun gk vo vi wr => ∃ (k : Nat) (u : Value), k ≤ N ∧ gk = N - k ∧ vi = .int .i64 k ∧ u = vo ∧ Hid (OwnOf Rep.per wr (fun _ => True) w.heap.size 52 u ((l.take k).filter okPer)) ∧ Ext w wr)
  case atStart => exact ⟨0, _, by omega, rfl, rfl, rfl, OwnOf.nil _ _ _ _ _, Ext.refl w⟩
  case round =>
    obtain ⟨k, u, hk, rfl, rfl, rfl, OW, hx⟩ := hrel
    by_cases hlt : k < N
    · have hkl : k < l.length := by have := HN.out; omega
      obtain ⟨b, o, rfl⟩ := HP.out (by decide) (by omega)
      have hv := HV.out
      rw [← HN.out] at hv
      obtain ⟨c0, c1, r1, r2⟩ := per_at hv k hkl
      replace c0 := hx.at c0
      replace c1 := hx.at c1
      have hst := per_take l k hkl
      have hlen : ((l.take k).filter okPer).length ≤ 20000 := by have := List.length_filter_le okPer (l.take k); simp at this; omega
      obtain ⟨y, hy⟩ : ∃ y, y = l[k] := ⟨_, rfl⟩
      rw [← hy] at c0 c1 r1 r2 hst
      have HST := Lib.hid hst
      have HL := Lib.hid hlen
      have HR := Lib.hid (And.intro r1 r2)
      have hd : decide ((k : Int) < (N : Int)) = true := by simp; omega
      have e0 := cell_lt c0
      obtain ⟨f, t⟩ := y
      dsimp only at c0 c1
      clear hst hlen hv r1 r2 hy
      go_wp2_with fail
      refine (valid_any f t _).mono ?_
      rintro e w1 ⟨rfl, hx1⟩
      have d0 : w1.cell? ⟨wr.heap.size, 0, none⟩ = some (.int .i64 f) := hx1.at (by go_simp)
      have d1 : w1.cell? ⟨wr.heap.size, 1, none⟩ = some (.int .i64 t) := hx1.at (by go_simp)
      have hx2 : Ext wr w1 := ((Ext.refl wr).alloc _).trans hx1
      clear hx1 c0 c1 e0
      cases hvb : validB f t with
      | true =>
        have HVB := Lib.hid hvb
        clear hvb
        have B1 : ((l.take k).filter okPer).length + [(⟨f, t⟩ : Per)].length ≤ maxLen := by simp only [List.length_singleton, maxLen]; have := HL.out; omega
        have B2 : (((l.take k).filter okPer).length + [(⟨f, t⟩ : Per)].length) * 16 ≤ 140737488355328 := by simp only [List.length_singleton]; have := HL.out; omega
        go_wp2_with (at_builtin; refine wpList_append_all Rep.per (fun _ => True) rfl _ _ 112 rfl w.heap.size 52 i0 _ 16 Tryz.underlying112 hi hz0 hz1 hz2 rfl (by decide) u ((l.take k).filter okPer) rfl (by exact OW.out.ext (hx2.alloc _)) _ [⟨f, t⟩] rfl (by exact lone_flat (T := 52) (cs := perEnc ⟨f, t⟩) flat_per ⟨rfl, HR.out⟩ (OW.out.ext hx2)) B1 B2 (by exact Nat.le_trans hx.size (hx2.alloc _).size) ?_)
        intro v' w3 own gr _
        have hxx : Ext w w3 := (hx.trans (hx2.alloc _)).grownNew gr OW.out.base
        have OW2 := Lib.hid own
        clear own gr
        go_wp2_with fail
        go_roundg (N - (k + 1))
        case measure => omega
        case rel => exact ⟨k + 1, v', by omega, rfl, by go_num, rfl, by show OwnOf _ _ _ _ _ _ _; rw [HST.out, if_pos (show okPer ⟨f, t⟩ = true from HVB.out)]; exact OW2.out, hxx⟩
      | false =>
        have HVB := Lib.hid hvb
        clear hvb
        go_wp2_with fail
        go_roundg (N - (k + 1))
        case measure => omega
        case rel => exact ⟨k + 1, u, by omega, rfl, by go_num, rfl, by show OwnOf _ _ _ _ _ _ _; rw [HST.out, if_neg (show ¬ okPer ⟨f, t⟩ = true from by show ¬ validB f t = true; rw [HVB.out]; decide), List.append_nil]; exact OW.out.ext hx2, hx.trans hx2⟩
    · have hkN : k = N := by omega
      have hd : ¬ (k : Int) < (N : Int) := by omega
      have OW2 := Lib.hid (show OwnOf Rep.per wr (fun _ => True) w.heap.size 52 u (l.filter okPer) from by have h := OW.out; rwa [hkN, HN.out, List.take_length] at h)
      have HL := Lib.hid (show (l.filter okPer).length ≤ 20000 from by have := List.length_filter_le okPer l; have := HN.out; omega)
      clear hkN OW
      go_wp2_with fail
      refine (sortPers_any _ _ _ _ _ _ OW2.out (by have := HL.out; omega)).mono ?_
      rintro e w4 ⟨s, rfl, hperm, hsort, own4, gr4⟩
      have X4 := Lib.hid (Ext.grownNew hx gr4 OW2.out.base)
      have hsorted : s.Pairwise fun a b => a.from_ ≤ b.from_ := hsort.imp fun {a b} h => by unfold cmpPer cmpI at h; (repeat' split at h) <;> omega
      have HFIN := Lib.hid (norm_agree hperm hsorted)
      have hsl : s.length ≤ 20000 := by rw [hperm.length_eq]; exact HL.out
      have HRG := Lib.hid (show ∀ p ∈ s, okI p.from_ ∧ okI p.to_ from fun p hp => by
        have h1 := (List.mem_filter.1 (hperm.mem_iff.1 hp)).2
        have h2 := validB_lt h1
        unfold okI
        omega)
      obtain ⟨pu, cu, rfl, hpu⟩ := own4.shapeLen
      have HPU := Lib.hid hpu
      obtain ⟨M, hM⟩ : ∃ M, M = s.length := ⟨_, rfl⟩
      obtain ⟨B, hB⟩ : ∃ B, B = w4.heap.size := ⟨_, rfl⟩
      have HB := Lib.hid (show w.heap.size ≤ B ∧ B = w4.heap.size from ⟨by rw [hB]; exact X4.out.size, hB⟩)
      have HUP := Lib.hid (show ∀ j, (Value.slice pu M cu).ownBlock = some j → j < B from fun j hj => by have h1 := (own4.lt j (by cases pu <;> exact hj)).2; omega)
      have OP4 := Lib.hid own4
      rw [← hM] at OP4 hsl ⊢
      have HM := Lib.hid hM
      clear hperm hsort hsorted own4 gr4 hpu hB hM OW2 hx
      go_wp2_with fail
      go_loopg [4, 27] M (fun gk vo vi wr => ∃ (k : Nat) (uo : Value) (out : List Per), k ≤ M ∧ gk = M - k ∧ vi = .int .i64 k ∧ uo = vo ∧ Hid (out = mergePer (s.take k)) ∧ out.length ≤ k ∧ Hid (OwnOf Rep.per wr (fun _ => True) B 52 uo out) ∧ Hid (OwnOf Rep.per wr (fun _ => True) w.heap.size 52 (.slice pu M cu) s) ∧ Hid (Ext w wr) ∧ Hid (B ≤ wr.heap.size))
      case atStart => exact ⟨0, _, [], by omega, rfl, rfl, rfl, rfl, by simp, OwnOf.nil _ _ _ _ _, OP4.out, X4.out, (by show B ≤ w4.heap.size; have := HB.out; omega)⟩
      case round =>
        clear OP4 X4
        obtain ⟨k, uo, out, hk, rfl, rfl, rfl, HOUT, hol, OO, OP, X5, HW5⟩ := hrel
        by_cases hlt2 : k < M
        · have hkl : k < s.length := by have := HM.out; omega
          have hd2 : decide ((k : Int) < (M : Int)) = true := by simp; omega
          obtain ⟨gp, rfl, _⟩ := HPU.out (by omega)
          obtain ⟨c0, c1, r1, r2⟩ := per_at OP.out.slice k hkl
          rw [Nat.zero_add] at c0 c1
          obtain ⟨y, hy⟩ : ∃ y, y = s[k] := ⟨_, rfl⟩
          rw [← hy] at c0 c1 r1 r2
          have HSN := Lib.hid (show mergePer (s.take (k + 1)) = addPer out y from by rw [List.take_succ_eq_append_getElem hkl, mergePer_snoc, ← hy, ← HOUT.out])
          obtain ⟨f, t⟩ := y
          dsimp only at c0 c1 r1 r2
          have HR := Lib.hid (And.intro r1 r2)
          obtain ⟨po, co, rfl, hpo⟩ := OO.out.shapeLen
          have HPO := Lib.hid hpo
          obtain ⟨n, hn⟩ : ∃ n, n = out.length := ⟨_, rfl⟩
          have HNN := Lib.hid hn
          have hn100 : n ≤ 30000 := by omega
          have e0 := cell_lt c0
          rw [← hn] at OO ⊢
          clear hn hy r1 r2 hpo
          by_cases hn0 : n = 0
          · have hnz : decide ((0 : Int) < (n : Int)) = false := decide_eq_false (by omega)
            have hnz2 : decide (0 < n) = false := decide_eq_false (by omega)
            have hnz3 : ¬ 0 < n := by omega
            have HN0 := Lib.hid hn0
            have hn1 : n ≤ 0 := by omega
            clear hn0
            go_wp2_with fail
            have X6 := Lib.hid ((Ext.refl wr).alloc (.cells #[.int .i64 f, .int .i64 t] 52))
            have m0 : (wr.alloc (.cells #[.int .i64 f, .int .i64 t] 52)).cell? ⟨wr.heap.size, 0, none⟩ = some (.int .i64 f) := by simp
            have m1 : (wr.alloc (.cells #[.int .i64 f, .int .i64 t] 52)).cell? ⟨wr.heap.size, 1, none⟩ = some (.int .i64 t) := by simp
            clear c0 c1 e0
            generalize wr.alloc (.cells #[.int .i64 f, .int .i64 t] 52) = W5 at m0 m1 X6 ⊢
            go_big_region_o
            have B1 : out.length + [(⟨f, t⟩ : Per)].length ≤ maxLen := by simp only [List.length_singleton, maxLen]; omega
            have B2 : (out.length + [(⟨f, t⟩ : Per)].length) * 16 ≤ 140737488355328 := by simp only [List.length_singleton]; omega
            go_wp2_with (at_builtin; refine wpList_append_all Rep.per (fun _ => True) rfl _ _ 112 rfl B 52 i0 _ 16 Tryz.underlying112 hi hz0 hz1 hz2 rfl (by decide) (.slice po n co) out rfl (by exact OO.out.ext (X6.out.alloc (.cells (perEnc ⟨f, t⟩).toArray 52)).drew) _ [⟨f, t⟩] rfl (by exact lone_flat (T := 52) (cs := perEnc ⟨f, t⟩) flat_per ⟨rfl, HR.out⟩ (OO.out.ext X6.out)) B1 B2 (by exact Nat.le_trans HW5.out (X6.out.alloc (.cells (perEnc ⟨f, t⟩).toArray 52)).drew.size) ?_)
            intro v' w6 own gr _
            have hob := fun j hj => (OO.out.lt j hj).1
            have OP6 := Lib.hid ((OP.out.ext ((X6.out.alloc (.cells (perEnc ⟨f, t⟩).toArray 52)).drew)).chg flat_per (chg_grown gr) fun j hj e => by have h1 := hob j e; have h2 := HUP.out j hj; omega)
            have X7 := Lib.hid (Chg.below (chg_grown gr) (X5.out.trans ((X6.out.alloc (.cells (perEnc ⟨f, t⟩).toArray 52)).drew)) fun b hb => by have h1 := hob b hb; have h2 := HB.out; omega)
            have HW6 := Lib.hid (Nat.le_trans (Nat.le_trans HW5.out ((X6.out.alloc (.cells (perEnc ⟨f, t⟩).toArray 52)).drew).size) gr.size)
            have OW := Lib.hid own
            clear own gr hob OP X5
            go_wp2_with fail
            go_roundg (M - (k + 1))
            case measure => omega
            case rel => exact ⟨k + 1, v', out ++ [(⟨f, t⟩ : Per)], by omega, rfl, by go_num, rfl, (by
              show _ = _
              rw [HSN.out, addPer_new (fun hn => absurd hn (by have h1 := HN0.out; have h2 := HNN.out; omega))]), by simp only [List.length_append, List.length_singleton]; omega, OW.out, OP6.out, X7.out, HW6.out⟩
          · have hnz : decide ((0 : Int) < (n : Int)) = true := decide_eq_true (by omega)
            have hnz2 : decide (0 < n) = true := decide_eq_true (by omega)
            have hnz3 : 0 < n := by omega
            obtain ⟨go, rfl, hgo⟩ := HPO.out (by rw [← HNN.out]; omega)
            obtain ⟨m, hm⟩ : ∃ m, m = n - 1 := ⟨_, rfl⟩
            have em : (n : Int) - 1 = (m : Int) := by omega
            have hmo : m < out.length := by rw [← HNN.out]; omega
            obtain ⟨s0, s1, _, _⟩ := per_at OO.out.slice m hmo
            rw [Nat.zero_add] at s1
            have hf1 : wr.frozen? ⟨go, m * 2 + 1, none⟩ = false := by
              obtain ⟨css, _, q2⟩ := OO.out
              rw [← HNN.out] at q2
              exact q2.frozenAt _
            have hmn : (m : Int) < (n : Int) := by omega
            have hmn2 : m < n := by omega
            have HEM := Lib.hid (show m = out.length - 1 from by have := HNN.out; omega)
            obtain ⟨lt, hlt3⟩ : ∃ z, z = (out[m]'hmo).to_ := ⟨_, rfl⟩
            rw [← hlt3] at s1
            have HLT := Lib.hid hlt3
            clear hn0 hm s0 hlt3
            go_wp2_with fail
            have X6 := Lib.hid ((Ext.refl wr).alloc (.cells #[.int .i64 f, .int .i64 t] 52))
            have m0 : (wr.alloc (.cells #[.int .i64 f, .int .i64 t] 52)).cell? ⟨wr.heap.size, 0, none⟩ = some (.int .i64 f) := by simp
            have m1 : (wr.alloc (.cells #[.int .i64 f, .int .i64 t] 52)).cell? ⟨wr.heap.size, 1, none⟩ = some (.int .i64 t) := by simp
            have m2 := X6.out.at s1
            have m3 := X6.out.unfrozen s1 hf1
            clear c0 c1 e0 s1 hf1
            generalize wr.alloc (.cells #[.int .i64 f, .int .i64 t] 52) = W5 at m0 m1 m2 m3 X6 ⊢
            have e2 := cell_lt m0
            have e3 := cell_lt m2
            by_cases hle : f ≤ lt
            · have hb2 : decide (f ≤ lt) = true := decide_eq_true hle
              have HLE := Lib.hid hle
              clear hle
              have hst := OwnOf.store flat_per (by have h := OO.out.ext X6.out; rw [HNN.out] at h; exact h) m 1 hmo (by decide) (.int .i64 (max lt t)) ⟨out[m].from_, max lt t⟩ (fun cs hcs => by
                obtain ⟨rfl, h1, h2⟩ := hcs
                refine ⟨by simp [perEnc]; try rfl, h1, ?_⟩
                have h3 := HR.out.2
                rw [← HLT.out] at h2
                simp only [okI] at h2 h3 ⊢
                omega)
              rw [show Rep.per.size = 2 from rfl] at hst
              have hob := fun j hj => (OO.out.lt j hj).1
              have OP6 := Lib.hid ((OP.out.ext X6.out).chg flat_per (chg_grown hst.2) fun j hj e => by have h1 := hob j e; have h2 := HUP.out j hj; omega)
              have X7 := Lib.hid (Chg.below (chg_grown hst.2) (X5.out.trans X6.out) fun b hb => by have h1 := hob b hb; have h2 := HB.out; omega)
              have HW6 := Lib.hid (Nat.le_trans (Nat.le_trans HW5.out X6.out.size) hst.2.size)
              have OW := Lib.hid hst.1
              rw [← HNN.out] at OW
              clear hst hob OP X5
              go_big_region_o
              all_goals go_wp2_with fail
              all_goals go_big_region_o
              all_goals go_wp2_with fail
              all_goals go_roundg (M - (k + 1))
              all_goals first
                | (case measure => omega)
                | (case rel => exact ⟨k + 1, .slice (some ⟨go, 0, none⟩) n co, out.set m ⟨out[m].from_, max lt t⟩, by omega, rfl, by go_num, rfl, (by
                    show _ = _
                    rw [HSN.out, addPer_old (by omega) (by simp only [← HEM.out]; rw [← HLT.out]; exact HLE.out)]
                    simp only [← HEM.out]
                    rw [← HLT.out]), by simp only [List.length_set]; omega, OW.out.ext (Ext.refl _).drew.drew, OP6.out.ext (Ext.refl _).drew.drew, X7.out.drew.drew, HW6.out⟩)
            · have hb2 : decide (f ≤ lt) = false := decide_eq_false hle
              have HLE := Lib.hid hle
              clear hle
              go_big_region_o
              have B1 : out.length + [(⟨f, t⟩ : Per)].length ≤ maxLen := by simp only [List.length_singleton, maxLen]; omega
              have B2 : (out.length + [(⟨f, t⟩ : Per)].length) * 16 ≤ 140737488355328 := by simp only [List.length_singleton]; omega
              go_wp2_with (at_builtin; refine wpList_append_all Rep.per (fun _ => True) rfl _ _ 112 rfl B 52 i0 _ 16 Tryz.underlying112 hi hz0 hz1 hz2 rfl (by decide) (.slice (some ⟨go, 0, none⟩) n co) out rfl (by exact OO.out.ext (X6.out.alloc (.cells (perEnc ⟨f, t⟩).toArray 52)).drew) _ [⟨f, t⟩] rfl (by exact lone_flat (T := 52) (cs := perEnc ⟨f, t⟩) flat_per ⟨rfl, HR.out⟩ (OO.out.ext X6.out)) B1 B2 (by exact Nat.le_trans HW5.out (X6.out.alloc (.cells (perEnc ⟨f, t⟩).toArray 52)).drew.size) ?_)
              intro v' w6 own gr _
              have hob := fun j hj => (OO.out.lt j hj).1
              have OP6 := Lib.hid ((OP.out.ext ((X6.out.alloc (.cells (perEnc ⟨f, t⟩).toArray 52)).drew)).chg flat_per (chg_grown gr) fun j hj e => by have h1 := hob j e; have h2 := HUP.out j hj; omega)
              have X7 := Lib.hid (Chg.below (chg_grown gr) (X5.out.trans ((X6.out.alloc (.cells (perEnc ⟨f, t⟩).toArray 52)).drew)) fun b hb => by have h1 := hob b hb; have h2 := HB.out; omega)
              have HW6 := Lib.hid (Nat.le_trans (Nat.le_trans HW5.out ((X6.out.alloc (.cells (perEnc ⟨f, t⟩).toArray 52)).drew).size) gr.size)
              have OW := Lib.hid own
              clear own gr hob OP X5
              go_wp2_with fail
              go_roundg (M - (k + 1))
              case measure => omega
              case rel => exact ⟨k + 1, v', out ++ [(⟨f, t⟩ : Per)], by omega, rfl, by go_num, rfl, (by
                show _ = _
                rw [HSN.out, addPer_new (fun hn => by simp only [← HEM.out]; rw [← HLT.out]; have h9 := HLE.out; omega)]), by simp only [List.length_append, List.length_singleton]; omega, OW.out, OP6.out, X7.out, HW6.out⟩
        · have hkM : k = M := by omega
          have hd2 : ¬ (k : Int) < (M : Int) := by omega
          have HF := Lib.hid (show out = refNorm l from by rw [HOUT.out, hkM, HM.out, List.take_length]; exact HFIN.out)
          obtain ⟨po, co, rfl, _⟩ := OO.out.shapeLen
          clear hkM
          go_wp2_with fail
          go_ret
          exact ⟨_, rfl, by have h := (OO.out.weak (T := fun _ => True) (fun _ _ h => h) HB.out.1).fresh flat_per; rw [HF.out] at h; rw [HF.out]; exact h, X5.out⟩


def perOf (t : Tup) : Per := ⟨t.from_, t.to_⟩
end Go.Proofs.YtdgpbpbjlnlijaaGreatDoor

/- periodset.Subtract -/
namespace Go.Proofs.YtdgpbpbjlnlijaaGreatDoor
open Go.RowKit

theorem cells_new2 (w : World) (o : Obj) (xs : List Value) (T : TypeId) : ∀ j u, xs[j]? = some u → ((w.alloc o).alloc (.cells xs.toArray T)).cell? ((⟨w.heap.size + 1, 0, none⟩ : Addr).add j) = some u := by
  have h := cells_new (w.alloc o) xs T
  rw [show (w.alloc o).heap.size = w.heap.size + 1 by simp] at h
  exact h
def subUpto (A B : List Per) (k : Nat) : List Per := (A.take k).flatMap fun p => subP1 p.to_ p.from_ B
theorem subUpto_snoc (A B : List Per) (k : Nat) (h : k < A.length) : subUpto A B (k + 1) = subUpto A B k ++ subP1 A[k].to_ A[k].from_ B := by
  unfold subUpto
  rw [List.take_succ_eq_append_getElem h, List.flatMap_append, List.flatMap_cons, List.flatMap_nil, List.append_nil]
theorem subP1_len (tz : Int) : ∀ (B : List Per) (f : Int), (subP1 tz f B).length ≤ B.length + 1 := by
  intro B
  induction B with
  | nil => intro f; unfold subP1; split <;> simp
  | cons q B ih =>
    intro f
    unfold subP1
    split
    · have := ih f; simp; omega
    · have := ih q.to_
      rw [List.length_append, List.length_cons]
      split <;> simp <;> omega
theorem subUpto_len (A B : List Per) (k : Nat) : (subUpto A B k).length ≤ A.length * (B.length + 1) := by
  have h : ∀ l : List Per, (l.flatMap fun p => subP1 p.to_ p.from_ B).length ≤ l.length * (B.length + 1) := fun l => by
    induction l with
    | nil => simp
    | cons p l ih =>
      rw [List.flatMap_cons, List.length_append, List.length_cons, Nat.succ_mul]
      have := subP1_len p.to_ B p.from_
      omega
  refine Nat.le_trans (h _) (Nat.mul_le_mul_right _ ?_)
  exact List.length_take_le' _ _

set_option maxRecDepth 100000 in
set_option maxHeartbeats 8000000 in
theorem subtract_any (va vb : Value) (la lb : List Per) (w : World) (ha : SliceOf Rep.per w.cell? va la) (hb : SliceOf Rep.per w.cell? vb lb) (hl : la.length ≤ 20000) (hl2 : lb.length ≤ 20000) :
    Calls Tryz.prog 77 #[va, vb] w fun e w' => ∃ v', e = .returned v' ∧ OwnOf Rep.per w' (fun _ => True) w.heap.size 52 v' (subPs la lb) ∧ Ext w w' := by
  obtain ⟨i1, hi1, hz10, hz11, hz12⟩ := info_parts info_per
  have HA := Lib.hid ha
  have HB := Lib.hid hb
  have HL := Lib.hid (And.intro hl hl2)
  obtain ⟨p0, q0, rfl, _⟩ := ha.form
  obtain ⟨p1, q1, rfl, _⟩ := hb.form
  obtain ⟨n0, hn0⟩ : ∃ n, n = la.length := ⟨_, rfl⟩
  obtain ⟨n1, hn1⟩ : ∃ n, n = lb.length := ⟨_, rfl⟩
  rw [← hn0] at HA ⊢
  rw [← hn1] at HB ⊢
  clear ha hb hl hl2 hn0 hn1
  go_enter Tryz.func77, Tryz.ntmps77
  go_wp2_with fail
  refine (norm_any _ lb _ HB.out HL.out.2).mono ?_
  rintro e w1 ⟨u1, rfl, t1, x1⟩
  obtain ⟨D, hD⟩ : ∃ D, D = refNorm lb := ⟨_, rfl⟩
  have hDl : D.length ≤ 20000 := by rw [hD]; exact Nat.le_trans (refNorm_len lb) HL.out.2
  rw [← hD] at t1
  obtain ⟨pd, cd, rfl, hd1, hd2, hd3⟩ := t1.form
  obtain ⟨nd, hnd⟩ : ∃ n, n = D.length := ⟨_, rfl⟩
  have T1 := Lib.hid (t1.ext (on_sub _ _))
  rw [← hnd] at T1 hd3 hDl ⊢
  have HND := Lib.hid hnd
  have HDF := Lib.hid hd3
  have HDD := Lib.hid hD
  have X1 := Lib.hid x1
  clear t1 x1 hnd hd3 hd1 hd2 hD
  go_wp2_with fail
  refine (norm_any _ la _ (HA.out.ext X1.out.full) HL.out.1).mono ?_
  rintro e w2 ⟨u2, rfl, t2, x2⟩
  obtain ⟨C, hC⟩ : ∃ C, C = refNorm la := ⟨_, rfl⟩
  have hCl : C.length ≤ 20000 := by rw [hC]; exact Nat.le_trans (refNorm_len la) HL.out.1
  rw [← hC] at t2
  obtain ⟨pc, cc, rfl, hc1, hc2, hc3⟩ := t2.form
  obtain ⟨nc, hnc⟩ : ∃ n, n = C.length := ⟨_, rfl⟩
  have T2 := Lib.hid (t2.ext (on_sub _ _))
  rw [← hnc] at T2 hc3 hCl ⊢
  have HNC := Lib.hid hnc
  have HCF := Lib.hid hc3
  have HCC := Lib.hid hC
  have X2 := Lib.hid (X1.out.trans x2)
  have T12 := Lib.hid (T1.out.ext x2.full)
  clear t2 x2 hnc hc3 hc1 hc2 hC T1 HA HB
  go_wp2_with fail
  go_loopg [5, 16] nc (fun gk vo vi wr => ∃ (k : Nat) (u : Value), k ≤ nc ∧ gk = nc - k ∧ vi = .int .i64 k ∧ u = vo ∧ Hid (OwnOf Rep.per wr (fun _ => True) w2.heap.size 52 u (subUpto C D k)) ∧ Ext w2 wr)
  case atStart => exact ⟨0, _, by omega, rfl, rfl, rfl, OwnOf.nil _ _ _ _ _, Ext.refl w2⟩
  case round =>
    obtain ⟨k, u, hk, rfl, rfl, rfl, OU, hx⟩ := hrel
    by_cases hlt : k < nc
    · have hkl : k < C.length := by have := HNC.out; omega
      obtain ⟨b, o, rfl⟩ := HCF.out (by decide) (by omega)
      have hst := subUpto_snoc C D k hkl
      obtain ⟨c0, c1, r1, r2⟩ := per_at (by have h := T2.out; exact h) k hkl
      have hlen := subUpto_len C D k
      generalize C[k] = t at c0 c1 r1 r2 hst
      replace c0 := hx.at c0
      replace c1 := hx.at c1
      obtain ⟨f, tz⟩ := t
      dsimp only at c0 c1 r1 r2 hst
      have hd : decide ((k : Int) < (nc : Int)) = true := by simp; omega
      have e0 := cell_lt c0
      obtain ⟨ys0, hys0⟩ : ∃ ys, ys = subUpto C D k := ⟨_, rfl⟩
      have hyl : ys0.length ≤ 400020000 := by
        have h1 := HNC.out
        have h2 := HND.out
        have h3 : C.length * (D.length + 1) ≤ 20000 * 20001 := Nat.mul_le_mul (by omega) (by omega)
        rw [hys0]; omega
      rw [← hys0] at OU hst
      have HST := Lib.hid hst
      have HYL := Lib.hid hyl
      have HRR := Lib.hid (And.intro r1 r2)
      have HX := Lib.hid hx
      clear hst hlen hys0 hyl r1 r2 hx
      go_wp2_with fail
      obtain ⟨bp, hbp⟩ : ∃ z, z = wr.heap.size := ⟨_, rfl⟩
      have hW4 : ∃ W4, W4 = wr.alloc (.cells #[.int .i64 f, .int .i64 tz] 52) := ⟨_, rfl⟩
      obtain ⟨W4, hW4⟩ := hW4
      have A4 := Lib.hid (show Ext w2 W4 ∧ W4.cell? ⟨bp, 0, none⟩ = some (.int .i64 f) ∧ W4.cell? ⟨bp, 1, none⟩ = some (.int .i64 tz) from by rw [hW4, hbp]; exact ⟨HX.out.alloc _, by go_simp, by go_simp⟩)
      have O4 := Lib.hid (show OwnOf Rep.per W4 (fun _ => True) w2.heap.size 52 u ys0 from by rw [hW4]; exact OU.out.ext ((Ext.refl wr).alloc _))
      have HU4 := Lib.hid (show ∀ x, u.ownBlock = some x → x ≠ bp from fun x hx e => by have := (OU.out.lt x hx).2; omega)
      rw [← hW4, ← hbp]
      clear hW4 hbp c0 c1 e0 OU HX hd
      go_wp2_with fail
      go_loopg [5, 8, 24] nd (fun gj vo va vi wq => ∃ (j : Nat) (uq : Value) (ys : List Per) (a : Int), j ≤ nd ∧ gj = nd - j ∧ vi = .int .i64 j ∧ uq = vo ∧ va = .int .i64 a ∧ Hid (OwnOf Rep.per wq (fun _ => True) w2.heap.size 52 uq ys) ∧ Hid (ys ++ subP1 tz a (D.drop j) = ys0 ++ subP1 tz f D) ∧ Hid (okI a) ∧ Hid (ys.length ≤ ys0.length + j) ∧ Hid (Ext w2 wq ∧ wq.cell? ⟨bp, 0, none⟩ = some (.int .i64 f) ∧ wq.cell? ⟨bp, 1, none⟩ = some (.int .i64 tz)) ∧ Hid (∀ x, uq.ownBlock = some x → x ≠ bp))
      case atStart => exact ⟨0, u, ys0, f, by omega, rfl, rfl, rfl, rfl, O4.out, rfl, HRR.out.1, Nat.le_refl _, A4.out, HU4.out⟩
      case round =>
        clear O4 HU4 A4
        obtain ⟨j, uq, ys, a, hj, rfl, rfl, rfl, rfl, OI, HCUT, HOA, HLEN, AI, HUXI⟩ := hrel
        obtain ⟨hxI, a0, a1⟩ := AI.out
        have HXI := Lib.hid hxI
        have eb := cell_lt a0
        have HUL := Lib.hid (show ∀ x, uq.ownBlock = some x → w2.heap.size ≤ x ∧ x < wr.heap.size from fun x hx => OI.out.lt x hx)
        have B1 : ys.length + 1 ≤ maxLen := by have h1 := HYL.out; have h2 := HLEN.out; unfold maxLen; omega
        have B2 : (ys.length + 1) * 16 ≤ 140737488355328 := by have h1 := HYL.out; have h2 := HLEN.out; omega
        clear hxI
        by_cases hjl : j < nd
        · have hjr : j < D.length := by have := HND.out; omega
          obtain ⟨bd, od, rfl⟩ := HDF.out (by decide) (by omega)
          have hyr : D.drop j = D[j] :: D.drop (j + 1) := List.drop_eq_getElem_cons hjr
          have hcut := HCUT.out
          rw [hyr, subP1] at hcut
          obtain ⟨c0, c1, rq1, rq2⟩ := per_at (by have h := T12.out; exact h) j hjr
          generalize D[j] = q at c0 c1 rq1 rq2 hcut
          obtain ⟨qf, qt⟩ := q
          dsimp only at c0 c1 rq1 rq2 hcut
          have hd : decide ((j : Int) < (nd : Int)) = true := by simp; omega
          replace c0 := HXI.out.at c0
          replace c1 := HXI.out.at c1
          have e0 := cell_lt c0
          clear hyr
          by_cases h1 : qt ≤ a
          · rw [if_pos (.inl h1)] at hcut
            have HCUT2 := Lib.hid hcut
            have b1 : decide (qt ≤ a) = true := decide_eq_true h1
            have AJ := Lib.hid (show Ext w2 (wr.alloc (.cells #[.int .i64 qf, .int .i64 qt] 52)) ∧ (wr.alloc (.cells #[.int .i64 qf, .int .i64 qt] 52)).cell? ⟨bp, 0, none⟩ = some (.int .i64 f) ∧ (wr.alloc (.cells #[.int .i64 qf, .int .i64 qt] 52)).cell? ⟨bp, 1, none⟩ = some (.int .i64 tz) from ⟨HXI.out.alloc _, ((Ext.refl wr).alloc _).at a0, ((Ext.refl wr).alloc _).at a1⟩)
            have OJ := Lib.hid (OI.out.ext ((Ext.refl wr).alloc (.cells #[.int .i64 qf, .int .i64 qt] 52)))
            clear hcut HCUT h1 OI
            go_wp2_with fail
            go_roundg (nd - (j + 1))
            case measure => omega
            case rel => exact ⟨j + 1, _, ys, a, by omega, rfl, by go_num, rfl, rfl, OJ.out, HCUT2.out, HOA.out, by have := HLEN.out; show ys.length ≤ ys0.length + (j + 1); omega, AJ.out, HUXI.out⟩
          · have b1 : decide (qt ≤ a) = false := decide_eq_false h1
            by_cases h2 : tz ≤ qf
            · rw [if_pos (.inr h2)] at hcut
              have HCUT2 := Lib.hid hcut
              have b2 : decide (tz ≤ qf) = true := decide_eq_true h2
              have AJ := Lib.hid (show Ext w2 (wr.alloc (.cells #[.int .i64 qf, .int .i64 qt] 52)) ∧ (wr.alloc (.cells #[.int .i64 qf, .int .i64 qt] 52)).cell? ⟨bp, 0, none⟩ = some (.int .i64 f) ∧ (wr.alloc (.cells #[.int .i64 qf, .int .i64 qt] 52)).cell? ⟨bp, 1, none⟩ = some (.int .i64 tz) from ⟨HXI.out.alloc _, ((Ext.refl wr).alloc _).at a0, ((Ext.refl wr).alloc _).at a1⟩)
              have OJ := Lib.hid (OI.out.ext ((Ext.refl wr).alloc (.cells #[.int .i64 qf, .int .i64 qt] 52)))
              clear hcut HCUT h1 h2 OI
              go_wp2_with fail
              go_roundg (nd - (j + 1))
              case measure => omega
              case rel => exact ⟨j + 1, _, ys, a, by omega, rfl, by go_num, rfl, rfl, OJ.out, HCUT2.out, HOA.out, by have := HLEN.out; show ys.length ≤ ys0.length + (j + 1); omega, AJ.out, HUXI.out⟩
            · have b2 : decide (tz ≤ qf) = false := decide_eq_false h2
              rw [if_neg (by omega)] at hcut
              by_cases h3 : a < qf
              · rw [if_pos h3, ← List.append_assoc] at hcut
                have HCUT2 := Lib.hid hcut
                have b3 : decide (a < qf) = true := decide_eq_true h3
                have HOKX := Lib.hid (And.intro HOA.out rq1)
                have HOQ := Lib.hid rq2
                obtain ⟨W5, hW5⟩ : ∃ W5, W5 = wr.alloc (.cells #[.int .i64 qf, .int .i64 qt] 52) := ⟨_, rfl⟩
                have X5 := Lib.hid (show Ext w2 W5 from by rw [hW5]; exact HXI.out.alloc _)
                have OJ := Lib.hid (show OwnOf Rep.per W5 (fun _ => True) w2.heap.size 52 uq ys from by rw [hW5]; exact OI.out.ext ((Ext.refl wr).alloc _))
                have d0 : W5.cell? ⟨wr.heap.size, 0, none⟩ = some (.int .i64 qf) := by rw [hW5]; go_simp
                have d1 : W5.cell? ⟨wr.heap.size, 1, none⟩ = some (.int .i64 qt) := by rw [hW5]; go_simp
                have m0 : W5.cell? ⟨bp, 0, none⟩ = some (.int .i64 f) := by rw [hW5]; exact ((Ext.refl wr).alloc _).at a0
                have m1 : W5.cell? ⟨bp, 1, none⟩ = some (.int .i64 tz) := by rw [hW5]; exact ((Ext.refl wr).alloc _).at a1
                have HUQ := Lib.hid (show ∀ x, uq.ownBlock = some x → x ≠ wr.heap.size from fun x hx e => by have := (HUL.out x hx).2; omega)
                clear OI HCUT hcut h1 h2 h3
                subst hW5
                go_wp2_with (at_builtin; go_loud (refine wpList_append_one Rep.per (fun _ => True) rfl _ _ 112 rfl w2.heap.size 52 i1 _ 16 Tryz.underlying112 hi1 hz10 hz11 hz12 rfl (by decide) uq ys rfl (OJ.out.ext ((Ext.refl _).alloc _)) ⟨_, 0, none⟩ 1 ⟨a, qf⟩ [.int .i64 a, .int .i64 qf] rfl ⟨rfl, HOKX.out⟩ (by exact cells_new2 _ _ [.int .i64 a, .int .i64 qf] _) B1 B2 (Nat.le_trans X5.out.size ((Ext.refl _).alloc _).size) ?_))
                intro g8 cap8 w8 own8 gr8 hg8
                have Y8 : Ext w2 w8 := ext_grown (X5.out.trans ((Ext.refl _).alloc (.cells #[.int .i64 a, .int .i64 qf] 52))) gr8 (fun x hx => (HUL.out x hx).1)
                have y0 := cell_grown gr8 (((Ext.refl _).alloc (.cells #[.int .i64 a, .int .i64 qf] 52)).at m0) (fun x hx => HUXI.out x hx)
                have y1 := cell_grown gr8 (((Ext.refl _).alloc (.cells #[.int .i64 a, .int .i64 qf] 52)).at m1) (fun x hx => HUXI.out x hx)
                have y2 := cell_grown gr8 (((Ext.refl _).alloc (.cells #[.int .i64 a, .int .i64 qf] 52)).at d0) (fun x hx => HUQ.out x hx)
                have y3 := cell_grown gr8 (((Ext.refl _).alloc (.cells #[.int .i64 a, .int .i64 qf] 52)).at d1) (fun x hx => HUQ.out x hx)
                have e8 := cell_lt y2
                have OU9 := Lib.hid own8
                have K9 := Lib.hid (show Ext w2 w8 ∧ w8.cell? ⟨bp, 0, none⟩ = some (.int .i64 f) ∧ w8.cell? ⟨bp, 1, none⟩ = some (.int .i64 tz) from ⟨Y8, y0, y1⟩)
                have HU9 := Lib.hid (show ∀ x, (Value.slice (some ⟨g8, 0, none⟩) (ys.length + 1) cap8).ownBlock = some x → x ≠ bp from fun x hx => by
                  rcases hg8 with h | h
                  · exact HUXI.out x (h.trans hx)
                  · have h2 : g8 = x := Option.some.inj hx
                    have h3 : wr.heap.size ≤ g8 := by rw [h]; omega
                    intro h4
                    omega)
                clear own8 gr8 hg8 m0 m1 d0 d1 y0 y1 e0 c0 c1 a0 a1
                go_wp2_with fail
                go_roundg (nd - (j + 1))
                case measure => omega
                case rel => exact ⟨j + 1, _, ys ++ [(⟨a, qf⟩ : Per)], qt, by omega, rfl, by go_num, rfl, rfl, OU9.out, HCUT2.out, HOQ.out, by have := HLEN.out; show (ys ++ [(⟨a, qf⟩ : Per)]).length ≤ ys0.length + (j + 1); simp; omega, K9.out, HU9.out⟩
              · rw [if_neg h3, List.nil_append] at hcut
                have HCUT2 := Lib.hid hcut
                have b3 : decide (a < qf) = false := decide_eq_false h3
                have AJ := Lib.hid (show Ext w2 (wr.alloc (.cells #[.int .i64 qf, .int .i64 qt] 52)) ∧ (wr.alloc (.cells #[.int .i64 qf, .int .i64 qt] 52)).cell? ⟨bp, 0, none⟩ = some (.int .i64 f) ∧ (wr.alloc (.cells #[.int .i64 qf, .int .i64 qt] 52)).cell? ⟨bp, 1, none⟩ = some (.int .i64 tz) from ⟨HXI.out.alloc _, ((Ext.refl wr).alloc _).at a0, ((Ext.refl wr).alloc _).at a1⟩)
                have OJ := Lib.hid (OI.out.ext ((Ext.refl wr).alloc (.cells #[.int .i64 qf, .int .i64 qt] 52)))
                have HOQ := Lib.hid rq2
                clear hcut HCUT h1 h2 h3 OI rq1 rq2
                go_wp2_with fail
                go_roundg (nd - (j + 1))
                case measure => omega
                case rel => exact ⟨j + 1, _, ys, qt, by omega, rfl, by go_num, rfl, rfl, OJ.out, HCUT2.out, HOQ.out, by have := HLEN.out; show ys.length ≤ ys0.length + (j + 1); omega, AJ.out, HUXI.out⟩
        · have hd : ¬ (j : Int) < (nd : Int) := by omega
          have hnil : D.drop j = [] := List.drop_eq_nil_of_le (by have := HND.out; omega)
          have hcut := HCUT.out
          rw [hnil, subP1] at hcut
          by_cases h4 : a < tz
          · rw [if_pos h4] at hcut
            have HFIN := Lib.hid (show subUpto C D (k + 1) = ys ++ [⟨a, tz⟩] from by rw [HST.out, ← hcut])
            have b4 : decide (a < tz) = true := decide_eq_true h4
            have HOKX := Lib.hid (And.intro HOA.out HRR.out.2)
            have OJ := OI
            have X5 := HXI
            clear hcut hnil HCUT h4 OI
            go_wp2_with (at_builtin; go_loud (refine wpList_append_one Rep.per (fun _ => True) rfl _ _ 112 rfl w2.heap.size 52 i1 _ 16 Tryz.underlying112 hi1 hz10 hz11 hz12 rfl (by decide) uq ys rfl (OJ.out.ext ((Ext.refl _).alloc _)) ⟨_, 0, none⟩ 1 ⟨a, tz⟩ [.int .i64 a, .int .i64 tz] rfl ⟨rfl, HOKX.out⟩ (by exact cells_new _ [.int .i64 a, .int .i64 tz] _) B1 B2 (Nat.le_trans X5.out.size ((Ext.refl _).alloc _).size) ?_))
            intro g8 cap8 w8 own8 gr8 hg8
            have X9 := Lib.hid (show Ext w2 w8 from ext_grown (X5.out.trans ((Ext.refl _).alloc (.cells #[.int .i64 a, .int .i64 tz] 52))) gr8 (fun x hx => (HUL.out x hx).1))
            have OU9 := Lib.hid (show OwnOf Rep.per w8 (fun _ => True) w2.heap.size 52 (.slice (some ⟨g8, 0, none⟩) (ys.length + 1) cap8) (subUpto C D (k + 1)) from by rw [HFIN.out]; exact own8)
            clear own8 gr8 hg8
            go_wp2_with fail
            go_roundg (nc - (k + 1))
            case measure => omega
            case rel => exact ⟨k + 1, _, by omega, rfl, by go_num, rfl, OU9.out, X9.out⟩
          · rw [if_neg h4, List.append_nil] at hcut
            have HFIN := Lib.hid (show subUpto C D (k + 1) = ys from by rw [HST.out, ← hcut])
            have b4 : decide (a < tz) = false := decide_eq_false h4
            clear hcut hnil HCUT h4
            go_wp2_with fail
            go_roundg (nc - (k + 1))
            case measure => omega
            case rel => exact ⟨k + 1, _, by omega, rfl, by go_num, rfl, by show OwnOf _ _ _ _ _ _ _; rw [HFIN.out]; exact OI.out, HXI.out⟩
    · have hkN : k = nc := by omega
      have hd : ¬ (k : Int) < (nc : Int) := by omega
      have HFI := Lib.hid (show subUpto C D k = subPs la lb from by unfold subUpto subPs; rw [hkN, HNC.out, List.take_length, HCC.out, HDD.out])
      have HX := Lib.hid (X2.out.trans hx)
      have HO := Lib.hid (OU.out.weak (S := fun _ => True) (T := fun _ => True) (fun _ _ h => h) X2.out.size)
      clear hkN hx OU
      go_wp2_with fail
      go_ret
      exact ⟨_, rfl, by have h := HO.out; rw [HFI.out] at h; exact h, HX.out⟩

end Go.Proofs.YtdgpbpbjlnlijaaGreatDoor

/- slices.Sorted of slices.Values: a sorted copy of a slice of ints -/
namespace Go.Proofs.YtdgpbpbjlnlijaaGreatDoor
open Go.RowKit Go.Shelf

attribute [local go_sem] Oper.semAt_some

/-- what has come when k rounds are over -/
def uptoF {α : Type} (f : Nat → α) (k : Nat) : List α := (List.range k).map f
theorem uptoF_succ {α : Type} (f : Nat → α) (k : Nat) : uptoF f (k + 1) = uptoF f k ++ [f k] := by simp [uptoF, List.range_succ]
theorem uptoF_length {α : Type} (f : Nat → α) (k : Nat) : (uptoF f k).length = k := by simp [uptoF]
theorem uptoF_take (zs : List Int) {k : Nat} (hk : k ≤ zs.length) : uptoF (fun j => zs[j]?.getD 0) k = zs.take k := by
  apply List.ext_getElem
  · simp [uptoF, hk]
  · intro i h1 h2
    have : i < zs.length := by simp [uptoF] at h1; omega
    simp [uptoF, this]
theorem uptoF_all (zs : List Int) : uptoF (fun j => zs[j]?.getD 0) zs.length = zs := by rw [uptoF_take zs (Nat.le_refl _), List.take_length]

set_option maxRecDepth 100000 in
set_option maxHeartbeats 2000000 in
theorem values1_in (F : Fence) (n : Nat) (h7 : F.fn 107) (hro : F.round = none) (hn : 1 ≤ n) (l Bs n₀ b off len cap : Nat) (zs : List Int) (hreach : len * 8 ≤ 140737488351232) (hb : b < n₀) (J Jx : List Int → World → Prop)
    (hY : ∀ pre x W, J pre W → pre.length < len → YieldAt F (n - 1) Tryz.prog l #[.int .i64 x] W fun e W' =>
      (e = .returned (.bool true) ∧ J (pre ++ [x]) W' ∧ Below n₀ W W') ∨ (e = .returned (.bool false) ∧ Jx (pre ++ [x]) W'))
    (W : World) (hBs : W.cell? ⟨Bs, 0, none⟩ = some (.slice (some ⟨b, off, none⟩) len cap)) (hc : ∀ j, j < len → W.cell? ⟨b, off + j, none⟩ = some (.int .i64 (zs[j]?.getD 0))) (h0 : J [] W) :
    CallsIn F n Tryz.prog 107 #[.func (.yield l) #[] #[], .pointer (some ⟨Bs, 0, none⟩)] W fun e W' => (∃ v, e = .returned v) ∧
      ((∃ ys, ys = uptoF (fun j => zs[j]?.getD 0) len ∧ J ys W') ∨ (∃ pre, (∃ k, k ≤ len ∧ pre = uptoF (fun j => zs[j]?.getD 0) k) ∧ Jx pre W')) := by
  refine callsIn_of_wp Tryz.func107 rfl h7 ?_ hro
  simp only [Tryz.ntmps107, List.size_toArray, List.length_cons, List.length_nil, Nat.reduceAdd, Nat.reduceSub, Array.replicate_succ, Array.replicate_zero, List.push_toArray, List.append_toArray, List.nil_append, List.cons_append]
  gi_wp2
  gi_loopw [7] (fun i wr => ∃ k : Nat, k ≤ len ∧ i = .int .i64 k ∧ J (uptoF (fun j => zs[j]?.getD 0) k) wr ∧ Below n₀ W wr)
    (fun i _ => len - (intOf i).toNat)
  case atStart => exact ⟨0, Nat.zero_le _, rfl, h0, Below.refl _ _⟩
  case round =>
    obtain ⟨k, hk, rfl, hJs, hnx⟩ := hrel
    have hcx : k < len → wr.cell? ⟨b, off + k, none⟩ = some (.int .i64 (zs[k]?.getD 0)) := fun h => (hnx.cell (p := ⟨b, off + k, none⟩) hb).trans (hc k h)
    by_cases hlt : k < len
    · obtain ⟨fn, tmps, assign, body, hy, hR⟩ := hY _ (zs[k]?.getD 0) wr hJs (by rw [uptoF_length]; exact hlt)
      have hcx' := hcx hlt
      gi_wp2
      refine hR.mono ?_
      rintro e W3 (⟨rfl, hJ3, hk3⟩ | ⟨rfl, hJx3⟩)
      · gi_wp2
        go_roundw
        case rel => exact ⟨k + 1, by omega, by simp, by rw [uptoF_succ]; exact hJ3, hnx.trans hk3⟩
        case measure => simp [intOf]; omega
      · gi_wp2
        refine bodyPost_ret (results_none rfl _ _ _) rfl ?_
        exact ⟨⟨_, rfl⟩, .inr ⟨_, ⟨k + 1, by omega, (uptoF_succ _ _).symm⟩, hJx3⟩⟩
    · obtain rfl : k = len := by omega
      gi_wp2
      go_end0
      exact ⟨⟨_, rfl⟩, .inl ⟨_, rfl, hJs⟩⟩

/-- the slice value holds the ints, in a block below n₀; or it is nil and there are none -/
def IntsAt (n₀ : Nat) (W : World) (sv : Value) (zs : List Int) : Prop :=
  ((∃ p c, sv = .slice p 0 c) ∧ zs = []) ∨ ∃ b off cap, sv = .slice (some ⟨b, off, none⟩) zs.length cap ∧ b < n₀ ∧ ∀ j, j < zs.length → W.cell? ⟨b, off + j, none⟩ = some (.int .i64 (zs[j]?.getD 0))
theorem IntsAt.below {n₀ : Nat} {A B : World} (h : Below n₀ A B) {sv : Value} {zs : List Int} : IntsAt n₀ A sv zs → IntsAt n₀ B sv zs
  | .inl e => .inl e
  | .inr ⟨b, off, cap, e, hb, hc⟩ => .inr ⟨b, off, cap, e, hb, fun j hj => (h.cell (p := ⟨b, off + j, none⟩) hb).trans (hc j hj)⟩

set_option maxRecDepth 100000 in
set_option maxHeartbeats 1000000 in
theorem values1_nil (F : Fence) (n : Nat) (h7 : F.fn 107) (hro : F.round = none) (l Bs : Nat) (p : Option Addr) (cap : Nat) (J : List Int → World → Prop) (W : World) (hBs : W.cell? ⟨Bs, 0, none⟩ = some (.slice p 0 cap)) (h0 : J [] W) :
    CallsIn F n Tryz.prog 107 #[.func (.yield l) #[] #[], .pointer (some ⟨Bs, 0, none⟩)] W fun e W' => (∃ v, e = .returned v) ∧ J [] W' := by
  refine callsIn_of_wp Tryz.func107 rfl h7 ?_ hro
  simp only [Tryz.ntmps107, List.size_toArray, List.length_cons, List.length_nil, Nat.reduceAdd, Nat.reduceSub, Array.replicate_succ, Array.replicate_zero, List.push_toArray, List.append_toArray, List.nil_append, List.cons_append]
  gi_wp2
  gi_loopw [7] (fun i wr => i = .int .i64 0 ∧ J [] wr) (fun _ _ => 0)
  case atStart => exact ⟨rfl, h0⟩
  case round =>
    obtain ⟨rfl, hJs⟩ := hrel
    gi_wp2
    go_end0
    exact ⟨⟨_, rfl⟩, hJs⟩

theorem values_stops (F : Fence) (n : Nat) (h7 : F.fn 107) (hro : F.round = none) (hn : 1 ≤ n) (Bs n₀ : Nat) (sv : Value) (zs : List Int) (hreach : zs.length * 8 ≤ 140737488351232) (w : World) (hBs : Bs < w.heap.size) (hn₀ : n₀ ≤ w.heap.size)
    (hc : w.cell? ⟨Bs, 0, none⟩ = some sv) (hI : IntsAt n₀ w sv zs) :
    SeqStopsK F n Tryz.prog 107 #[.pointer (some ⟨Bs, 0, none⟩)] (fun x : Int => #[Value.int .i64 x]) (Below n₀) (fun ys => ys = zs) (fun pre => pre <+: zs) zs.length w := fun l J Jx W hW _ _ hY h0 => by
  have hc' := (hW.cell (p := ⟨Bs, 0, none⟩) hBs).trans hc
  rcases hI.below (hW.mono hn₀) with ⟨⟨p, c, rfl⟩, rfl⟩ | ⟨b, off, cap, rfl, hb, hcs⟩
  · exact (values1_nil F n h7 hro l Bs p c J W hc' h0).mono fun e W' ⟨he, hj⟩ => ⟨he, .inl ⟨_, rfl, hj⟩⟩
  · refine (values1_in F n h7 hro hn l Bs n₀ b off zs.length cap zs hreach hb J Jx hY W hc' hcs h0).mono ?_
    rintro e W' ⟨he, ⟨ys, rfl, hj⟩ | ⟨pre, ⟨k, hk, rfl⟩, hj⟩⟩
    · exact ⟨he, .inl ⟨_, uptoF_all zs, hj⟩⟩
    · exact ⟨he, .inr ⟨_, by rw [uptoF_take zs hk]; exact List.take_prefix _ _, hj⟩⟩

set_option maxRecDepth 100000 in
set_option maxHeartbeats 4000000 in
/-- slices.AppendSeq(nil, slices.Values(s)): a copy -/
theorem appendSeq_in (F : Fence) (n : Nat) (h3 : F.fn 156) (h5 : F.fn 107) (hro : F.round = none) (hn : 3 ≤ n) (Bs n₀ : Nat) (sv : Value) (zs : List Int) (hreach : zs.length * 8 ≤ 140737488351232) (w : World) (hBs : Bs < w.heap.size) (hn₀ : n₀ ≤ w.heap.size)
    (hc0 : w.cell? ⟨Bs, 0, none⟩ = some sv) (hI0 : IntsAt n₀ w sv zs) (hlen : zs.length ≤ maxLen) (hbytes : zs.length * 8 ≤ 140737488355328) :
    CallsIn F n Tryz.prog 156 #[.slice none 0 0, .func (.func 107) #[] #[.pointer (some ⟨Bs, 0, none⟩)]] w fun e W' => ∃ v, e = .returned v ∧ W'.ownsRow w.heap.size 3 1 v zs.length (zs.map (Value.int .i64)) ∧ Below w.heap.size w W' := by
  have h1 : 1 ≤ n := by omega
  obtain ⟨i0, hi, hz0, hz1, hz2⟩ := info_parts info_ints
  refine callsIn_of_wp_marks Tryz.func156 rfl h3 ?_ hro
  simp only [Tryz.ntmps156, List.size_toArray, List.length_cons, List.length_nil, Nat.reduceAdd, Nat.reduceSub, Array.replicate_succ, Array.replicate_zero, List.push_toArray, List.append_toArray, List.nil_append, List.cons_append]
  gi_wp2
  have bO := Boxed.new w 24 (.slice none 0 0)
  have hB0 : Below w.heap.size w (w.alloc (.cells #[.slice none 0 0] 24)) := (Below.refl _ w).alloc (Nat.le_refl _) _
  have hc1 : (w.alloc (.cells #[.slice none 0 0] 24)).cell? ⟨Bs, 0, none⟩ = some sv := (hB0.cell (p := ⟨Bs, 0, none⟩) hBs).trans hc0
  refine wpIn_rangeFunc_ownG hro h1 (gf := 107) (lb := #[.pointer (some ⟨Bs, 0, none⟩)]) rfl h5 (enters_of Tryz.func107 (by kernel_rfl) rfl)
    (values_stops F (n - 1) h5 hro (by omega) Bs w.heap.size sv zs hreach _ (by simp; omega) (by simp) hc1 ((show IntsAt w.heap.size w sv zs from by
      rcases hI0 with h | ⟨b, off, cap, e, hb, hc⟩
      · exact .inl h
      · exact .inr ⟨b, off, cap, e, by omega, hc⟩).below hB0)) belowK_t (belowK_b (by simp)) (Below.refl _ _) (fun _ => rfl)
    (fun pre W => (∃ v, Boxed W w.heap.size 24 v ∧ W.ownsRow w.heap.size 3 1 v pre.length (pre.map (Value.int .i64)) ∧ True) ∧ Below w.heap.size w W)
    (fun _ _ _ => False)
    (OwnFrom.and (Own.from (holdsRow_own w.heap.size w.heap.size 24 3 1 (fun pre : List Int => pre.length) (fun pre => pre.map (Value.int .i64)) (fun _ _ => True)) _) (ownFrom_below (Nat.le_refl _) (by simp)))
    (fun _ _ _ _ _ hs _ _ => hs)
    ⟨⟨_, bO, World.ownsRow_nil _ _ _ _, trivial⟩, hB0⟩
    (fun x => { tmps := #[.slice none 0 0, .func (.func 107) #[] #[.pointer (some ⟨Bs, 0, none⟩)], .pointer (some ⟨w.heap.size, 0, none⟩), undef, .slice none 0 0, .int .i64 x, .func (.func 107) #[] #[.pointer (some ⟨Bs, 0, none⟩)], .int .i64 x, undef, undef, undef, undef, undef], defers := [] }) ?assign ?body ?done ?stop
  case assign =>
    intro l x W K hK
    gi_wp2
    exact hK
  case body =>
    rintro l pre x W ⟨⟨v, hv, hrow, _⟩, hB⟩ hlt
    have hc := hv.cell
    gi_wp2_with (gi_at_builtin; refine wpListIn_append_own _ rfl _ _ 24 rfl w.heap.size 3 i0 (.int .i64 0) 1 8 Tryz.underlying24 hi hz0 hz1 hz2 rfl (by decide) _ _ _ rfl (hrow.alloc _) ⟨W.heap.size, 0, none⟩ 1 1 [.int .i64 x] rfl rfl (cell_one_new _ _ _) (by simp [Value.oneCell']) (by omega) (by omega) (by have := hB.size; simp; omega) ?_; intro v' w1 hown' hgrow _; obtain ⟨g', cap', rfl⟩ := ownsRow_succ hown'; obtain ⟨hv1, hv2, hr2, hk2, hb2⟩ := hv.appended (by decide) hrow hB.size (Nat.le_refl _) hown' hgrow; have hc1 := hv1.cell; have hf1 := hv1.frozen)
    exact ⟨hk2.from _, hb2, ⟨_, hv2, by simpa using hr2, trivial⟩, hB.trans hb2⟩
  case done =>
    rintro D ys W hD rfl ⟨⟨v, hv, hrow, _⟩, hB⟩ hK
    have hc := hv.cell
    gi_wp2
    refine ⟨by simp, .inl ⟨_, _, rfl, run_takeDeferred hK, ?_⟩⟩
    exact ⟨_, results_tmp rfl _ _ _, v, rfl, ownsRow_putObj hrow _ hK rfl, hB.trans (belowK_b (w := w) (Nat.le_refl _) W D _ _ (by simp at hD; omega) hK rfl rfl)⟩
  case stop =>
    rintro D c pre W _ _ h _
    exact h.elim

theorem intsAt_of {w : World} {v : Value} {zs : List Int} (h : SliceOf Rep.int w.cell? v zs) : IntsAt w.heap.size w v zs := by
  obtain ⟨p, cap, rfl, h1, h2, h3⟩ := h.form
  by_cases h0 : zs.length = 0
  · have hz : zs = [] := List.eq_nil_of_length_eq_zero h0
    subst hz
    exact .inl ⟨⟨p, cap, rfl⟩, rfl⟩
  · obtain ⟨b, o, rfl⟩ := h3 (by decide) (by omega)
    have hc : ∀ j, j < zs.length → w.cell? ⟨b, o + j, none⟩ = some (.int .i64 (zs[j]?.getD 0)) := fun j hj => by
      rw [List.getElem?_eq_getElem hj]
      exact (int_at h j hj).1
    exact .inr ⟨b, o, cap, rfl, cell_lt (hc 0 (by omega)), hc⟩
theorem appendSeq_any (B : Nat) (sv : Value) (zs : List Int) (w : World) (hc : w.cell? ⟨B, 0, none⟩ = some sv) (hv : SliceOf Rep.int w.cell? sv zs) (hl : zs.length ≤ 1048576) :
    Calls Tryz.prog 156 #[.slice none 0 0, .func (.func 107) #[] #[.pointer (some ⟨B, 0, none⟩)]] w fun e W' => ∃ v, e = .returned v ∧ OwnOf Rep.int W' (fun _ => True) w.heap.size 3 v zs ∧ Ext w W' := by
  refine ((callsIn_wide (n := 6)).1 (appendSeq_in Fence.wide 6 trivial trivial rfl (by omega) B w.heap.size sv zs (by omega) w (cell_lt hc) (Nat.le_refl _) hc (intsAt_of hv) (by unfold maxLen; omega) (by omega))).mono ?_
  rintro e W' ⟨v, rfl, h1, h2⟩
  exact ⟨v, rfl, OwnOf.ofInts _ h1 hv.ints, h2⟩

set_option maxHeartbeats 1000000 in
theorem values_any (p : Option Addr) (n c : Nat) (w : World) :
    Calls Tryz.prog 60 #[.slice p n c] w fun e w' => e = .returned (.func (.func 107) #[] #[.pointer (some ⟨w.heap.size, 0, none⟩)]) ∧ w' = w.alloc (.cells #[.slice p n c] 24) := by
  go_enter Tryz.func60, Tryz.ntmps60
  go_wp2_with fail
  go_ret
  exact ⟨rfl, rfl⟩
set_option maxHeartbeats 1000000 in
theorem collect_any (B : Nat) (sv : Value) (zs : List Int) (w : World) (hc : w.cell? ⟨B, 0, none⟩ = some sv) (hv : SliceOf Rep.int w.cell? sv zs) (hl : zs.length ≤ 1048576) :
    Calls Tryz.prog 106 #[.func (.func 107) #[] #[.pointer (some ⟨B, 0, none⟩)]] w fun e W' => ∃ v, e = .returned v ∧ OwnOf Rep.int W' (fun _ => True) w.heap.size 3 v zs ∧ Ext w W' := by
  have HC := Lib.hid hc
  have HV := Lib.hid hv
  clear hc hv
  go_enter Tryz.func106, Tryz.ntmps106
  go_wp2_with fail
  refine (appendSeq_any B sv zs _ HC.out HV.out hl).mono ?_
  rintro e w1 ⟨v, rfl, h1, h2⟩
  have H1 := Lib.hid h1
  obtain ⟨p, n, rfl, _⟩ := h1.slice.form
  clear h1
  go_wp2_with fail
  go_ret
  exact ⟨_, rfl, H1.out, h2⟩
def sortI (zs : List Int) : List Int := zs.mergeSort fun x y => decide (x ≤ y)
set_option maxHeartbeats 1000000 in
theorem sorted_any (B : Nat) (sv : Value) (zs : List Int) (w : World) (hc : w.cell? ⟨B, 0, none⟩ = some sv) (hv : SliceOf Rep.int w.cell? sv zs) (hl : zs.length ≤ 1048576) :
    Calls Tryz.prog 59 #[.func (.func 107) #[] #[.pointer (some ⟨B, 0, none⟩)]] w fun e W' => ∃ v, e = .returned v ∧ OwnOf Rep.int W' (fun _ => True) w.heap.size 3 v (sortI zs) ∧ Ext w W' := by
  have HC := Lib.hid hc
  have HV := Lib.hid hv
  clear hc hv
  go_enter Tryz.func59, Tryz.ntmps59
  go_wp2_with fail
  refine (collect_any B sv zs _ HC.out HV.out hl).mono ?_
  rintro e w1 ⟨v, rfl, h1, h2⟩
  have H1 := Lib.hid h1
  have H2 := Lib.hid h2
  obtain ⟨p, n, rfl, _⟩ := h1.slice.form
  clear h1 h2
  go_wp2_with fail
  refine (sort_ints _ _ zs _ _ _ H1.out (by omega)).mono ?_
  rintro e w2 ⟨rfl, h3, h4⟩
  have H3 := Lib.hid h3
  have H4 := Lib.hid (Ext.grownNew H2.out h4 H1.out.base)
  clear h3 h4
  go_wp2_with fail
  go_ret
  exact ⟨_, rfl, H3.out, H4.out⟩

end Go.Proofs.YtdgpbpbjlnlijaaGreatDoor
