/- joined texts of a proof: NormA -/
import Derived.Test.YtdgpbpbjlnlijaaGreatDoorKC07
import Derived.Test.YtdgpbpbjlnlijaaGreatDoorKC08
import Derived.Test.YtdgpbpbjlnlijaaGreatDoorKC17

/- periodset.Normalize, sweep.Coverage -/
namespace Go.Proofs.YtdgpbpbjlnlijaaGreatDoor
open Go.RowKit Go.Shelf Go.Sort

def cmpPer (x y : Per) : Int := cmpI x.from_ y.from_
theorem swo_per : SWO (ltOf cmpPer) := swo_pull ord_int.swo fun x : Per => x.from_
set_option maxHeartbeats 1000000 in
theorem cmpPer_any (x y : Per) (w : World) : Calls Tryz.prog 177 #[.agg (perEnc x).toArray, .agg (perEnc y).toArray] w fun e w' => e = .returned (.int .i64 (cmpPer x y)) ∧ Gro w w' := by
  unfold perEnc cmpPer
  obtain ⟨f1, t1⟩ := x
  obtain ⟨f2, t2⟩ := y
  dsimp only
  go_enter Tryz.func177, Tryz.ntmps177
  go_wp2_with fail
  refine (compare_int _ _ _).mono ?_
  rintro e w1 ⟨rfl, rfl⟩
  go_wp2_with fail
  go_ret
  exact ⟨rfl, ((Gro.refl w).alloc _).alloc _⟩
theorem cmpPer_enter : ∀ args w, (callFunc 177 args).run Tryz.prog w = .ok (.enter 177 args) w := fun args w => by kernel_rfl
theorem sortPers_any (w : World) (S : Nat → Prop) (base : Nat) (e : TypeId) (v : Value) (xs : List Per) (hown : OwnOf Rep.per w S base e v xs) (hlen : xs.length < 4611686018427387904) :
    Calls Tryz.prog 176 #[v, .func (.func 177) #[] #[]] w fun en w' => ∃ ys, en = .returned (.tuple #[]) ∧ ys.Perm xs ∧ (ys.Pairwise fun a b => ¬ cmpPer b a < 0) ∧ OwnOf Rep.per w' S base e v ys ∧ w.grownBy w' v.ownBlock :=
  sortFunc_gen Rep.per cmpPer swo_per 177 176 4611686018427387904
    (fun β _ enc hel h1 cf hO blk off cap d w hcmp hH hblk hsz => AnyQ.slices_SortFunc Tryz.sortPers Rep.per.size (fun w => by kernel_rfl) (fun w => by kernel_rfl) enc hel h1 cf hO 177 #[] blk off cap d w cmpPer_enter hcmp hH hblk hsz)
    (fun p cap w => AnyF.slices_SortFunc_none Tryz.sortPers p cap (.func (.func 177) #[] #[]) w)
    (fun W x y cx cy hx hy => by obtain ⟨rfl, _⟩ := hx; obtain ⟨rfl, _⟩ := hy; exact cmpPer_any x y W) w S base e v xs hown hlen
def okPer (p : Per) : Bool := validB p.from_ p.to_
theorem per_take (l : List Per) (k : Nat) (h : k < l.length) : (l.take (k + 1)).filter okPer = (l.take k).filter okPer ++ if okPer l[k] = true then [l[k]] else [] := by
  rw [List.take_succ_eq_append_getElem h, List.filter_append]
  congr 1
  rw [List.filter_cons, List.filter_nil]

set_option maxRecDepth 100000 in
set_option maxHeartbeats 8000000 in
theorem norm_any (v : Value) (l : List Per) (w : World) (hv : SliceOf Rep.per w.cell? v l) (hl : l.length ≤ 50) :
    Calls Tryz.prog 122 #[v] w fun e w' => ∃ v', e = .returned v' ∧ SliceOf Rep.per (on w' (fun k => w.heap.size ≤ k)) v' (refNorm l) ∧ Ext w w' := by
  obtain ⟨i0, hi, hz0, hz1, hz2⟩ := info_parts info_per
  have mixed := mixedOrd
  obtain ⟨p, cap, rfl, hc1, hc2, hp⟩ := hv.form
  obtain ⟨N, hN⟩ : ∃ N, N = l.length := ⟨_, rfl⟩
  have HV := Lib.hid hv
  rw [← hN]
  have HN := Lib.hid hN
  have HP := Lib.hid hp
  have hNl : N ≤ 50 := by omega
  clear hv hN hp hc1 hc2
  go_enter Tryz.func122, Tryz.ntmps122
  go_wp2_with fail
  go_loopg [3, 12] N (fun gk vo vi wr => ∃ (k : Nat) (u : Value), k ≤ N ∧ gk = N - k ∧ vi = .int .i64 k ∧ u = vo ∧ Hid (OwnOf Rep.per wr (fun _ => True) w.heap.size 52 u ((l.take k).filter okPer)) ∧ Ext w wr)
  case atStart => exact ⟨0, _, by omega, rfl, rfl, rfl, OwnOf.nil _ _ _ _ _, Ext.refl w⟩
  case round =>
    obtain ⟨k, u, hk, rfl, rfl, rfl, OW, hx⟩ := hrel
    by_cases hlt : k < N
    · have hkl : k < l.length := by have := HN.out; omega
      obtain ⟨b, o, rfl⟩ := HP.out (by decide) (by omega)
      have hv := HV.out
      rw [← HN.out] at hv
      obtain ⟨c0, c1, r1, r2⟩ := per_at hv k hkl
      replace c0 := hx.at c0
      replace c1 := hx.at c1
      have hst := per_take l k hkl
      have hlen : ((l.take k).filter okPer).length ≤ 50 := by have := List.length_filter_le okPer (l.take k); simp at this; omega
      obtain ⟨y, hy⟩ : ∃ y, y = l[k] := ⟨_, rfl⟩
      rw [← hy] at c0 c1 r1 r2 hst
      have HST := Lib.hid hst
      have HL := Lib.hid hlen
      have HR := Lib.hid (And.intro r1 r2)
      have hd : decide ((k : Int) < (N : Int)) = true := by simp; omega
      have e0 := cell_lt c0
      obtain ⟨f, t⟩ := y
      dsimp only at c0 c1
      clear hst hlen hv r1 r2 hy
      go_wp2_with fail
      refine (valid_any f t _).mono ?_
      rintro e w1 ⟨rfl, hx1⟩
      have d0 : w1.cell? ⟨wr.heap.size, 0, none⟩ = some (.int .i64 f) := hx1.at (by go_simp)
      have d1 : w1.cell? ⟨wr.heap.size, 1, none⟩ = some (.int .i64 t) := hx1.at (by go_simp)
      have hx2 : Ext wr w1 := ((Ext.refl wr).alloc _).trans hx1
      clear hx1 c0 c1 e0
      cases hvb : validB f t with
      | true =>
        have HVB := Lib.hid hvb
        clear hvb
        have B1 : ((l.take k).filter okPer).length + [(⟨f, t⟩ : Per)].length ≤ maxLen := by simp only [List.length_singleton, maxLen]; have := HL.out; omega
        have B2 : (((l.take k).filter okPer).length + [(⟨f, t⟩ : Per)].length) * 16 ≤ 140737488355328 := by simp only [List.length_singleton]; have := HL.out; omega
        go_wp2_with (at_builtin; refine wpList_append_all Rep.per (fun _ => True) rfl _ _ 112 rfl w.heap.size 52 i0 _ 16 Tryz.underlying112 hi hz0 hz1 hz2 rfl (by decide) u ((l.take k).filter okPer) rfl (by exact OW.out.ext (hx2.alloc _)) _ [⟨f, t⟩] rfl (by exact lone_flat (T := 52) (cs := perEnc ⟨f, t⟩) flat_per ⟨rfl, HR.out⟩ (OW.out.ext hx2)) B1 B2 (by exact Nat.le_trans hx.size (hx2.alloc _).size) ?_)
        intro v' w3 own gr _
        have hxx : Ext w w3 := (hx.trans (hx2.alloc _)).grownNew gr OW.out.base
        have OW2 := Lib.hid own
        clear own gr
        go_wp2_with fail
        go_roundg (N - (k + 1))
        case measure => omega
        case rel => exact ⟨k + 1, v', by omega, rfl, by go_num, rfl, by show OwnOf _ _ _ _ _ _ _; rw [HST.out, if_pos (show okPer ⟨f, t⟩ = true from HVB.out)]; exact OW2.out, hxx⟩
      | false =>
        have HVB := Lib.hid hvb
        clear hvb
        go_wp2_with fail
        go_roundg (N - (k + 1))
        case measure => omega
        case rel => exact ⟨k + 1, u, by omega, rfl, by go_num, rfl, by show OwnOf _ _ _ _ _ _ _; rw [HST.out, if_neg (show ¬ okPer ⟨f, t⟩ = true from by show ¬ validB f t = true; rw [HVB.out]; decide), List.append_nil]; exact OW.out.ext hx2, hx.trans hx2⟩
    · have hkN : k = N := by omega
      have hd : ¬ (k : Int) < (N : Int) := by omega
      have OW2 := Lib.hid (show OwnOf Rep.per wr (fun _ => True) w.heap.size 52 u (l.filter okPer) from by have h := OW.out; rwa [hkN, HN.out, List.take_length] at h)
      have HL := Lib.hid (show (l.filter okPer).length ≤ 50 from by have := List.length_filter_le okPer l; have := HN.out; omega)
      clear hkN OW
      go_wp2_with fail
      refine (sortPers_any _ _ _ _ _ _ OW2.out (by have := HL.out; omega)).mono ?_
      rintro e w4 ⟨s, rfl, hperm, hsort, own4, gr4⟩
      have X4 := Lib.hid (Ext.grownNew hx gr4 OW2.out.base)
      have hsorted : s.Pairwise fun a b => a.from_ ≤ b.from_ := hsort.imp fun {a b} h => by unfold cmpPer cmpI at h; (repeat' split at h) <;> omega
      have HFIN := Lib.hid (norm_agree hperm hsorted)
      have hsl : s.length ≤ 50 := by rw [hperm.length_eq]; exact HL.out
      have HRG := Lib.hid (show ∀ p ∈ s, okI p.from_ ∧ okI p.to_ from fun p hp => by
        have h1 := (List.mem_filter.1 (hperm.mem_iff.1 hp)).2
        have h2 := validB_lt h1
        unfold okI
        omega)
      obtain ⟨pu, cu, rfl, hpu⟩ := own4.shapeLen
      have HPU := Lib.hid hpu
      obtain ⟨M, hM⟩ : ∃ M, M = s.length := ⟨_, rfl⟩
      obtain ⟨B, hB⟩ : ∃ B, B = w4.heap.size := ⟨_, rfl⟩
      have HB := Lib.hid (show w.heap.size ≤ B ∧ B = w4.heap.size from ⟨by rw [hB]; exact X4.out.size, hB⟩)
      have HUP := Lib.hid (show ∀ j, (Value.slice pu M cu).ownBlock = some j → j < B from fun j hj => by have h1 := (own4.lt j (by cases pu <;> exact hj)).2; omega)
      have OP4 := Lib.hid own4
      rw [← hM] at OP4 hsl ⊢
      have HM := Lib.hid hM
      clear hperm hsort hsorted own4 gr4 hpu hB hM OW2 hx
      go_wp2_with fail
      go_loopg [4, 27] M (fun gk vo vi wr => ∃ (k : Nat) (uo : Value) (out : List Per), k ≤ M ∧ gk = M - k ∧ vi = .int .i64 k ∧ uo = vo ∧ Hid (out = mergePer (s.take k)) ∧ out.length ≤ k ∧ Hid (OwnOf Rep.per wr (fun _ => True) B 52 uo out) ∧ Hid (OwnOf Rep.per wr (fun _ => True) w.heap.size 52 (.slice pu M cu) s) ∧ Hid (Ext w wr) ∧ Hid (B ≤ wr.heap.size))
      case atStart => exact ⟨0, _, [], by omega, rfl, rfl, rfl, rfl, by simp, OwnOf.nil _ _ _ _ _, OP4.out, X4.out, (by show B ≤ w4.heap.size; have := HB.out; omega)⟩
      case round =>
        clear OP4 X4
        obtain ⟨k, uo, out, hk, rfl, rfl, rfl, HOUT, hol, OO, OP, X5, HW5⟩ := hrel
        by_cases hlt2 : k < M
        · have hkl : k < s.length := by have := HM.out; omega
          have hd2 : decide ((k : Int) < (M : Int)) = true := by simp; omega
          obtain ⟨gp, rfl, _⟩ := HPU.out (by omega)
          obtain ⟨c0, c1, r1, r2⟩ := per_at OP.out.slice k hkl
          rw [Nat.zero_add] at c0 c1
          obtain ⟨y, hy⟩ : ∃ y, y = s[k] := ⟨_, rfl⟩
          rw [← hy] at c0 c1 r1 r2
          have HSN := Lib.hid (show mergePer (s.take (k + 1)) = addPer out y from by rw [List.take_succ_eq_append_getElem hkl, mergePer_snoc, ← hy, ← HOUT.out])
          obtain ⟨f, t⟩ := y
          dsimp only at c0 c1 r1 r2
          have HR := Lib.hid (And.intro r1 r2)
          obtain ⟨po, co, rfl, hpo⟩ := OO.out.shapeLen
          have HPO := Lib.hid hpo
          obtain ⟨n, hn⟩ : ∃ n, n = out.length := ⟨_, rfl⟩
          have HNN := Lib.hid hn
          have hn100 : n ≤ 100 := by omega
          have e0 := cell_lt c0
          rw [← hn] at OO ⊢
          clear hn hy r1 r2 hpo
          by_cases hn0 : n = 0
          · have hnz : decide ((0 : Int) < (n : Int)) = false := decide_eq_false (by omega)
            have hnz2 : decide (0 < n) = false := decide_eq_false (by omega)
            have hnz3 : ¬ 0 < n := by omega
            have HN0 := Lib.hid hn0
            have hn1 : n ≤ 0 := by omega
            clear hn0
            go_wp2_with fail
            have X6 := Lib.hid ((Ext.refl wr).alloc (.cells #[.int .i64 f, .int .i64 t] 52))
            have m0 : (wr.alloc (.cells #[.int .i64 f, .int .i64 t] 52)).cell? ⟨wr.heap.size, 0, none⟩ = some (.int .i64 f) := by simp
            have m1 : (wr.alloc (.cells #[.int .i64 f, .int .i64 t] 52)).cell? ⟨wr.heap.size, 1, none⟩ = some (.int .i64 t) := by simp
            clear c0 c1 e0
            generalize wr.alloc (.cells #[.int .i64 f, .int .i64 t] 52) = W5 at m0 m1 X6 ⊢
            go_big_region_o
            have B1 : out.length + [(⟨f, t⟩ : Per)].length ≤ maxLen := by simp only [List.length_singleton, maxLen]; omega
            have B2 : (out.length + [(⟨f, t⟩ : Per)].length) * 16 ≤ 140737488355328 := by simp only [List.length_singleton]; omega
            go_wp2_with (at_builtin; refine wpList_append_all Rep.per (fun _ => True) rfl _ _ 112 rfl B 52 i0 _ 16 Tryz.underlying112 hi hz0 hz1 hz2 rfl (by decide) (.slice po n co) out rfl (by exact OO.out.ext (X6.out.alloc (.cells (perEnc ⟨f, t⟩).toArray 52)).drew) _ [⟨f, t⟩] rfl (by exact lone_flat (T := 52) (cs := perEnc ⟨f, t⟩) flat_per ⟨rfl, HR.out⟩ (OO.out.ext X6.out)) B1 B2 (by exact Nat.le_trans HW5.out (X6.out.alloc (.cells (perEnc ⟨f, t⟩).toArray 52)).drew.size) ?_)
            intro v' w6 own gr _
            have hob := fun j hj => (OO.out.lt j hj).1
            have OP6 := Lib.hid ((OP.out.ext ((X6.out.alloc (.cells (perEnc ⟨f, t⟩).toArray 52)).drew)).chg flat_per (chg_grown gr) fun j hj e => by have h1 := hob j e; have h2 := HUP.out j hj; omega)
            have X7 := Lib.hid (Chg.below (chg_grown gr) (X5.out.trans ((X6.out.alloc (.cells (perEnc ⟨f, t⟩).toArray 52)).drew)) fun b hb => by have h1 := hob b hb; have h2 := HB.out; omega)
            have HW6 := Lib.hid (Nat.le_trans (Nat.le_trans HW5.out ((X6.out.alloc (.cells (perEnc ⟨f, t⟩).toArray 52)).drew).size) gr.size)
            have OW := Lib.hid own
            clear own gr hob OP X5
            go_wp2_with fail
            go_roundg (M - (k + 1))
            case measure => omega
            case rel => exact ⟨k + 1, v', out ++ [(⟨f, t⟩ : Per)], by omega, rfl, by go_num, rfl, (by
              show _ = _
              rw [HSN.out, addPer_new (fun hn => absurd hn (by have h1 := HN0.out; have h2 := HNN.out; omega))]), by simp only [List.length_append, List.length_singleton]; omega, OW.out, OP6.out, X7.out, HW6.out⟩
          · have hnz : decide ((0 : Int) < (n : Int)) = true := decide_eq_true (by omega)
            have hnz2 : decide (0 < n) = true := decide_eq_true (by omega)
            have hnz3 : 0 < n := by omega
            obtain ⟨go, rfl, hgo⟩ := HPO.out (by rw [← HNN.out]; omega)
            obtain ⟨m, hm⟩ : ∃ m, m = n - 1 := ⟨_, rfl⟩
            have em : (n : Int) - 1 = (m : Int) := by omega
            have hmo : m < out.length := by rw [← HNN.out]; omega
            obtain ⟨s0, s1, _, _⟩ := per_at OO.out.slice m hmo
            rw [Nat.zero_add] at s1
            have hf1 : wr.frozen? ⟨go, m * 2 + 1, none⟩ = false := by
              obtain ⟨css, _, q2⟩ := OO.out
              rw [← HNN.out] at q2
              exact q2.frozenAt _
            have hmn : (m : Int) < (n : Int) := by omega
            have hmn2 : m < n := by omega
            have HEM := Lib.hid (show m = out.length - 1 from by have := HNN.out; omega)
            obtain ⟨lt, hlt3⟩ : ∃ z, z = (out[m]'hmo).to_ := ⟨_, rfl⟩
            rw [← hlt3] at s1
            have HLT := Lib.hid hlt3
            clear hn0 hm s0 hlt3
            go_wp2_with fail
            have X6 := Lib.hid ((Ext.refl wr).alloc (.cells #[.int .i64 f, .int .i64 t] 52))
            have m0 : (wr.alloc (.cells #[.int .i64 f, .int .i64 t] 52)).cell? ⟨wr.heap.size, 0, none⟩ = some (.int .i64 f) := by simp
            have m1 : (wr.alloc (.cells #[.int .i64 f, .int .i64 t] 52)).cell? ⟨wr.heap.size, 1, none⟩ = some (.int .i64 t) := by simp
            have m2 := X6.out.at s1
            have m3 := X6.out.unfrozen s1 hf1
            clear c0 c1 e0 s1 hf1
            generalize wr.alloc (.cells #[.int .i64 f, .int .i64 t] 52) = W5 at m0 m1 m2 m3 X6 ⊢
            have e2 := cell_lt m0
            have e3 := cell_lt m2
            by_cases hle : f ≤ lt
            · have hb2 : decide (f ≤ lt) = true := decide_eq_true hle
              have HLE := Lib.hid hle
              clear hle
              have hst := OwnOf.store flat_per (by have h := OO.out.ext X6.out; rw [HNN.out] at h; exact h) m 1 hmo (by decide) (.int .i64 (max lt t)) ⟨out[m].from_, max lt t⟩ (fun cs hcs => by
                obtain ⟨rfl, h1, h2⟩ := hcs
                refine ⟨by simp [perEnc]; try rfl, h1, ?_⟩
                have h3 := HR.out.2
                rw [← HLT.out] at h2
                simp only [okI] at h2 h3 ⊢
                omega)
              rw [show Rep.per.size = 2 from rfl] at hst
              have hob := fun j hj => (OO.out.lt j hj).1
              have OP6 := Lib.hid ((OP.out.ext X6.out).chg flat_per (chg_grown hst.2) fun j hj e => by have h1 := hob j e; have h2 := HUP.out j hj; omega)
              have X7 := Lib.hid (Chg.below (chg_grown hst.2) (X5.out.trans X6.out) fun b hb => by have h1 := hob b hb; have h2 := HB.out; omega)
              have HW6 := Lib.hid (Nat.le_trans (Nat.le_trans HW5.out X6.out.size) hst.2.size)
              have OW := Lib.hid hst.1
              rw [← HNN.out] at OW
              clear hst hob OP X5
              go_big_region_o
              all_goals go_wp2_with fail
              all_goals go_big_region_o
              all_goals go_wp2_with fail
              all_goals go_roundg (M - (k + 1))
              all_goals first
                | (case measure => omega)
                | (case rel => exact ⟨k + 1, .slice (some ⟨go, 0, none⟩) n co, out.set m ⟨out[m].from_, max lt t⟩, by omega, rfl, by go_num, rfl, (by
                    show _ = _
                    rw [HSN.out, addPer_old (by omega) (by simp only [← HEM.out]; rw [← HLT.out]; exact HLE.out)]
                    simp only [← HEM.out]
                    rw [← HLT.out]), by simp only [List.length_set]; omega, OW.out.ext (Ext.refl _).drew.drew, OP6.out.ext (Ext.refl _).drew.drew, X7.out.drew.drew, HW6.out⟩)
            · have hb2 : decide (f ≤ lt) = false := decide_eq_false hle
              have HLE := Lib.hid hle
              clear hle
              go_big_region_o
              have B1 : out.length + [(⟨f, t⟩ : Per)].length ≤ maxLen := by simp only [List.length_singleton, maxLen]; omega
              have B2 : (out.length + [(⟨f, t⟩ : Per)].length) * 16 ≤ 140737488355328 := by simp only [List.length_singleton]; omega
              go_wp2_with (at_builtin; refine wpList_append_all Rep.per (fun _ => True) rfl _ _ 112 rfl B 52 i0 _ 16 Tryz.underlying112 hi hz0 hz1 hz2 rfl (by decide) (.slice (some ⟨go, 0, none⟩) n co) out rfl (by exact OO.out.ext (X6.out.alloc (.cells (perEnc ⟨f, t⟩).toArray 52)).drew) _ [⟨f, t⟩] rfl (by exact lone_flat (T := 52) (cs := perEnc ⟨f, t⟩) flat_per ⟨rfl, HR.out⟩ (OO.out.ext X6.out)) B1 B2 (by exact Nat.le_trans HW5.out (X6.out.alloc (.cells (perEnc ⟨f, t⟩).toArray 52)).drew.size) ?_)
              intro v' w6 own gr _
              have hob := fun j hj => (OO.out.lt j hj).1
              have OP6 := Lib.hid ((OP.out.ext ((X6.out.alloc (.cells (perEnc ⟨f, t⟩).toArray 52)).drew)).chg flat_per (chg_grown gr) fun j hj e => by have h1 := hob j e; have h2 := HUP.out j hj; omega)
              have X7 := Lib.hid (Chg.below (chg_grown gr) (X5.out.trans ((X6.out.alloc (.cells (perEnc ⟨f, t⟩).toArray 52)).drew)) fun b hb => by have h1 := hob b hb; have h2 := HB.out; omega)
              have HW6 := Lib.hid (Nat.le_trans (Nat.le_trans HW5.out ((X6.out.alloc (.cells (perEnc ⟨f, t⟩).toArray 52)).drew).size) gr.size)
              have OW := Lib.hid own
              clear own gr hob OP X5
              go_wp2_with fail
              go_roundg (M - (k + 1))
              case measure => omega
              case rel => exact ⟨k + 1, v', out ++ [(⟨f, t⟩ : Per)], by omega, rfl, by go_num, rfl, (by
                show _ = _
                rw [HSN.out, addPer_new (fun hn => by simp only [← HEM.out]; rw [← HLT.out]; have h9 := HLE.out; omega)]), by simp only [List.length_append, List.length_singleton]; omega, OW.out, OP6.out, X7.out, HW6.out⟩
        · have hkM : k = M := by omega
          have hd2 : ¬ (k : Int) < (M : Int) := by omega
          have HF := Lib.hid (show out = refNorm l from by rw [HOUT.out, hkM, HM.out, List.take_length]; exact HFIN.out)
          obtain ⟨po, co, rfl, _⟩ := OO.out.shapeLen
          clear hkM
          go_wp2_with fail
          go_ret
          exact ⟨_, rfl, by have h := (OO.out.weak (T := fun _ => True) (fun _ _ h => h) HB.out.1).fresh flat_per; rw [HF.out] at h; rw [HF.out]; exact h, X5.out⟩


theorem alloc_size (w : World) (o : Obj) : (w.alloc o).heap.size = w.heap.size + 1 := by simp
def perOf (t : Tup) : Per := ⟨t.from_, t.to_⟩
end Go.Proofs.YtdgpbpbjlnlijaaGreatDoor
