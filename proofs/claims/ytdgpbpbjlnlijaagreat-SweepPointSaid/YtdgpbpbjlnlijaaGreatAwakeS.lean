/- annalistlaw13.awake -/
import Derived.Test.YtdgpbpbjlnlijaaGreatDepthX
import Derived.Test.YtdgpbpbjlnlijaaGreatNormA
import Derived.Test.YtdgpbpbjlnlijaaGreatPairE
import Derived.Test.YtdgpbpbjlnlijaaGreatGenA
namespace Go.Proofs.YtdgpbpbjlnlijaaGreat
open Go.RowKit

def tA : Tup := ⟨[], 0, 5, []⟩
def tB : Tup := ⟨[], 3, 9, []⟩
theorem pairs_AB : pairsOf [tA] [tB] = [⟨0, 0, 3, 5⟩] := by
  refine (pairs_unique (l := [⟨0, 0, 3, 5⟩]) ?_ (by simp)).symm
  exact List.Perm.refl _
theorem pts_AB : pts [tA, tB] = [0, 3, 5, 9] := by
  obtain ⟨p1, p2, _⟩ := pts_law [tA, tB]
  refine asc_unique p1 (by decide) fun x => ?_
  rw [p2]
  have : bnd [tA, tB] = [0, 5, 3, 9] := by rfl
  rw [this]
  simp
  omega
theorem depth_AB : depthOf [tA, tB] = [⟨0, 3, 1⟩, ⟨3, 5, 2⟩, ⟨5, 9, 1⟩] := by
  unfold depthOf
  rw [pts_AB]
  rfl
theorem cover_AB : refNorm ([tA, tB].map perOf) = [⟨0, 9⟩] := by rfl
theorem rep_t (h : View) (a b : Int) (ha : okI a) (hb : okI b) : Rep.tup.holds h [.slice none 0 0, .int .i64 a, .int .i64 b, .slice none 0 0] ⟨[], a, b, []⟩ := ⟨_, _, rfl, SliceOf.nil _ _, SliceOf.nil _ _, ha, hb⟩
theorem lone_t (w : World) (T : TypeId) (a b : Int) (ha : okI a) (hb : okI b) : SliceOf Rep.tup (w.alloc (.cells #[.slice none 0 0, .int .i64 a, .int .i64 b, .slice none 0 0] T)).cell? (.slice (some ⟨w.heap.size, 0, none⟩) 1 1) [⟨[], a, b, []⟩] :=
  slice_lit Rep.tup w [.slice none 0 0, .int .i64 a, .int .i64 b, .slice none 0 0] T [[.slice none 0 0, .int .i64 a, .int .i64 b, .slice none 0 0]] [⟨[], a, b, []⟩] rfl ⟨rep_t _ a b ha hb, trivial⟩ (by simp [maxLen])
theorem away_new {w w1 : World} {v u : Value} {l : List Tup} {α : Type} {R : Rep α} {S : Nat → Prop} {base : Nat} {e : TypeId} {xs : List α} (h : SliceOf Rep.tup w.cell? v l) (hx : Ext w w1) (ho : OwnOf R w1 S base e u xs) (hb : w.heap.size ≤ base) : SliceOf Rep.tup (on w1 (avoid (fun _ => True) u)) v l :=
  h.ext fun p x e => on_some.2 ⟨⟨fun e2 => by have h1 := (ho.lt _ e2.symm).1; have h2 := World.block_lt_of_cell? w p e; omega, trivial⟩, hx.at e⟩
theorem info_tup : (Tryz.prog.info? 45).map (fun i => (i.zero, i.size, i.bytes)) = some (some (.agg #[.slice none 0 0, .int .i64 0, .int .i64 0, .slice none 0 0]), Rep.tup.size, 64) := by kernel_rfl

set_option maxRecDepth 100000 in
set_option maxHeartbeats 8000000 in
theorem awake_sweep (w : World) : Calls Tryz.prog 8 #[] w fun e w' => e = .returned (.bool true) ∧ Ext w w' := by
  obtain ⟨it, hit, ht0, ht1, ht2⟩ := info_parts info_tup
  have mixed := mixedOrd
  go_enter Tryz.func8, Tryz.ntmps8
  go_wp2_with fail
  have LA := Lib.hid (lone_t w 45 0 5 (by unfold okI; omega) (by unfold okI; omega))
  have LB := Lib.hid (lone_t (w.alloc (.cells #[.slice none 0 0, .int .i64 0, .int .i64 5, .slice none 0 0] 45)) 45 3 9 (by unfold okI; omega) (by unfold okI; omega))
  have X2 := Lib.hid ((Ext.refl (w.alloc (.cells #[.slice none 0 0, .int .i64 0, .int .i64 5, .slice none 0 0] 45))).alloc (.cells #[.slice none 0 0, .int .i64 3, .int .i64 9, .slice none 0 0] 45))
  have LA2 := Lib.hid (LA.out.ext X2.out.full)
  have XW := Lib.hid (((Ext.refl w).alloc (.cells #[.slice none 0 0, .int .i64 0, .int .i64 5, .slice none 0 0] 45)).alloc (.cells #[.slice none 0 0, .int .i64 3, .int .i64 9, .slice none 0 0] 45))
  rw [alloc_size] at LB
  clear LA X2
  generalize (w.alloc (.cells #[.slice none 0 0, .int .i64 0, .int .i64 5, .slice none 0 0] 45)).alloc (.cells #[.slice none 0 0, .int .i64 3, .int .i64 9, .slice none 0 0] 45) = w0 at LA2 LB XW ⊢
  refine (overlap_any _ _ [tA] [tB] _ LA2.out LB.out (by simp) (by simp)).mono ?_
  rintro e w1 ⟨v1, rfl, s1, x1⟩
  rw [pairs_AB] at s1
  have S1 := Lib.hid (s1.ext (on_sub _ _))
  have X1 := Lib.hid x1
  clear s1 x1
  obtain ⟨p1, c1, rfl, _⟩ := S1.out.form
  go_wp2_with (at_builtin; refine wpList_append_all Rep.tup (fun _ => True) rfl _ _ 24 rfl w1.heap.size 45 it _ 64 Tryz.underlying24 hit ht0 ht1 ht2 rfl (by decide) (.slice none 0 0) [] rfl (OwnOf.nil _ _ _ _ _) _ [tA] rfl ((LA2.out.ext X1.out.full).ext (all_nil w1)) (by simp [maxLen]) (by simp) (Nat.le_refl _) ?_)
  intro v2 w2 own2 gr2 _
  have X12 := Lib.hid ((Ext.refl w1).grownNew gr2 (own_nil _))
  go_wp2_with (at_builtin; refine wpList_append_all Rep.tup (fun _ => True) rfl _ _ 24 rfl w1.heap.size 45 it _ 64 Tryz.underlying24 hit ht0 ht1 ht2 rfl (by decide) v2 ([] ++ [tA]) rfl own2 _ [tB] rfl (away_new (LB.out.ext X1.out.full) X12.out own2 (Nat.le_refl _)) (by simp [maxLen]) (by simp) X12.out.size ?_)
  intro v3 w3 own3 gr3 _
  have X13 := Lib.hid (Chg.below (chg_grown gr3) X12.out fun b hb => own2.base b hb)
  have X3 := Lib.hid (X1.out.trans X13.out)
  have S3 := Lib.hid (show SliceOf Rep.tup w3.cell? v3 [tA, tB] from own3.slice)
  clear own2 gr2 X12 own3 gr3
  go_wp2_with fail
  refine (depth_any v3 [tA, tB] _ S3.out (by simp)).mono ?_
  rintro e w4 ⟨v4, rfl, s4, x4⟩
  rw [depth_AB] at s4
  have S4 := Lib.hid (s4.ext (on_sub _ _))
  have X4 := Lib.hid (X3.out.trans x4)
  have S1b := Lib.hid (S1.out.ext (X13.out.trans x4).full)
  clear s4 x4 S3 X3 X13 S1
  obtain ⟨p4, c4, rfl, _⟩ := S4.out.form
  go_wp2_with (at_builtin; refine wpList_append_all Rep.tup (fun _ => True) rfl _ _ 24 rfl w4.heap.size 45 it _ 64 Tryz.underlying24 hit ht0 ht1 ht2 rfl (by decide) (.slice none 0 0) [] rfl (OwnOf.nil _ _ _ _ _) _ [tA] rfl ((LA2.out.ext X4.out.full).ext (all_nil w4)) (by simp [maxLen]) (by simp) (Nat.le_refl _) ?_)
  intro v5 w5 own5 gr5 _
  have X45 := Lib.hid ((Ext.refl w4).grownNew gr5 (own_nil _))
  go_wp2_with (at_builtin; refine wpList_append_all Rep.tup (fun _ => True) rfl _ _ 24 rfl w4.heap.size 45 it _ 64 Tryz.underlying24 hit ht0 ht1 ht2 rfl (by decide) v5 ([] ++ [tA]) rfl own5 _ [tB] rfl (away_new (LB.out.ext X4.out.full) X45.out own5 (Nat.le_refl _)) (by simp [maxLen]) (by simp) X45.out.size ?_)
  intro v6 w6 own6 gr6 _
  have X46 := Lib.hid (Chg.below (chg_grown gr6) X45.out fun b hb => own5.base b hb)
  have S6 := Lib.hid (show SliceOf Rep.tup w6.cell? v6 [tA, tB] from own6.slice)
  clear own5 gr5 X45 own6 gr6
  go_wp2_with fail
  refine (coverage_any v6 [tA, tB] _ S6.out (by simp)).mono ?_
  rintro e w7 ⟨v7, rfl, s7, x7⟩
  rw [cover_AB] at s7
  have S7 := Lib.hid (s7.ext (on_sub _ _))
  have X7 := Lib.hid (X46.out.trans x7)
  have XF := Lib.hid (XW.out.trans (X4.out.trans X7.out))
  have S1c := S1b.out.ext X7.out.full
  have S4c := S4.out.ext X7.out.full
  have S7c := S7.out
  clear s7 x7 S6 X4 S1b S4 S7 X46 X7 LA2 LB XW X1
  obtain ⟨p1', c1', e1, _, _, h1⟩ := S1c.form
  obtain ⟨p4', c4', e4, _, _, h4⟩ := S4c.form
  obtain ⟨p7, c7, rfl, _, _, h7⟩ := S7c.form
  obtain ⟨b1, o1, rfl⟩ := h1 (by decide) (by simp)
  obtain ⟨b4, o4, rfl⟩ := h4 (by decide) (by simp)
  obtain ⟨b7, o7, rfl⟩ := h7 (by decide) (by simp)
  injection e1 with e1 _ _
  injection e4 with e4 _ _
  subst e1 e4
  obtain ⟨q1, ⟨rfl, _⟩, k1⟩ := S1c.at 0 (by simp)
  obtain ⟨q4, ⟨rfl, _⟩, k4⟩ := S4c.at 1 (by simp)
  obtain ⟨q7, ⟨rfl, _⟩, k7⟩ := S7c.at 0 (by simp)
  have y1 : w7.cell? ⟨b1, o1 + 2, none⟩ = some (.int .i64 3) := by have := k1 2 _ rfl; simpa [show Rep.pair.size = 4 from rfl] using this
  have y2 : w7.cell? ⟨b1, o1 + 3, none⟩ = some (.int .i64 5) := by have := k1 3 _ rfl; simpa [show Rep.pair.size = 4 from rfl] using this
  have y3 : w7.cell? ⟨b4, o4 + 7, none⟩ = some (.int .i64 1) := by have := k4 2 _ rfl; simpa [show Rep.step.size = 5 from rfl] using this
  have y4 : w7.cell? ⟨b4, o4 + 8, none⟩ = some (.int .i64 2) := by have := k4 3 _ rfl; simpa [show Rep.step.size = 5 from rfl] using this
  have y5 : w7.cell? ⟨b4, o4 + 9, none⟩ = some (.string ByteArray.empty) := by have := k4 4 _ rfl; simpa [show Rep.step.size = 5 from rfl] using this
  have y6 : w7.cell? ⟨b7, o7, none⟩ = some (.int .i64 0) := by have := k7 0 _ rfl; simpa [show Rep.per.size = 2 from rfl] using this
  have y7 : w7.cell? ⟨b7, o7 + 1, none⟩ = some (.int .i64 9) := by have := k7 1 _ rfl; simpa [show Rep.per.size = 2 from rfl] using this
  have mkS : ∀ w', Ext w7 w' → Ext w7 w' ∧ w'.cell? ⟨b1, o1 + 2, none⟩ = some (.int .i64 3) ∧ w'.cell? ⟨b1, o1 + 3, none⟩ = some (.int .i64 5) ∧ w'.cell? ⟨b4, o4 + 7, none⟩ = some (.int .i64 1) ∧ w'.cell? ⟨b4, o4 + 8, none⟩ = some (.int .i64 2) ∧ w'.cell? ⟨b4, o4 + 9, none⟩ = some (.string ByteArray.empty) ∧ w'.cell? ⟨b7, o7, none⟩ = some (.int .i64 0) ∧ w'.cell? ⟨b7, o7 + 1, none⟩ = some (.int .i64 9) :=
    fun w' h => ⟨h, h.at y1, h.at y2, h.at y3, h.at y4, h.at y5, h.at y6, h.at y7⟩
  have MK := Lib.hid mkS
  have hS0 := mkS _ (Ext.refl w7).drew
  have hv2 : valV (intVal 2) = .agg #[.int .i64 1, .int .i64 2, .string ByteArray.empty] := rfl
  have HV2 := Lib.hid hv2
  clear mkS y1 y2 y3 y4 y5 y6 y7 k1 k4 k7 h1 h4 h7 S1c S4c S7c hv2
  go_wp2_with fail
  go_region_held3 (fun w' => Ext w7 w' ∧ w'.cell? ⟨b1, o1 + 2, none⟩ = some (.int .i64 3) ∧ w'.cell? ⟨b1, o1 + 3, none⟩ = some (.int .i64 5) ∧ w'.cell? ⟨b4, o4 + 7, none⟩ = some (.int .i64 1) ∧ w'.cell? ⟨b4, o4 + 8, none⟩ = some (.int .i64 2) ∧ w'.cell? ⟨b4, o4 + 9, none⟩ = some (.string ByteArray.empty) ∧ w'.cell? ⟨b7, o7, none⟩ = some (.int .i64 0) ∧ w'.cell? ⟨b7, o7 + 1, none⟩ = some (.int .i64 9))
    (first | with_reducible assumption | exact MK.out _ hw9)
    (first | (go_at_call 26; refine (int_value 2 _).mono ?_; rintro e w8 ⟨rfl, x8⟩; rw [HV2.out]; have hw9 : Ext w7 w8 := Ext.trans (And.left (by assumption)) x8))
  all_goals go_wp2_with fail
  all_goals go_ret
  all_goals exact ⟨rfl, XF.out.trans hw9⟩

end Go.Proofs.YtdgpbpbjlnlijaaGreat
