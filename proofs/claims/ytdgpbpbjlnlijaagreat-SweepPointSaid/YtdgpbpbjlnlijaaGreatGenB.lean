/- the tuples that the laws build out of numbers (annalistlaw0.Tuple) -/
import Derived.Test.YtdgpbpbjlnlijaaGreatGenA
import Derived.IntWalk
namespace Go.Proofs.YtdgpbpbjlnlijaaGreat
open Go.RowKit

/-- five numbers of 16 bits -/
structure Num5 where
  a : Int
  b : Int
  c : Int
  d : Int
  e : Int
def okNum (x : Num5) : Prop := (0 ≤ x.a ∧ x.a ≤ 65535) ∧ (0 ≤ x.b ∧ x.b ≤ 65535) ∧ (0 ≤ x.c ∧ x.c ≤ 65535) ∧ (0 ≤ x.d ∧ x.d ≤ 65535) ∧ (0 ≤ x.e ∧ x.e ≤ 65535)
def Rep.num : Rep Num5 where
  size := 5
  holds _ cs x := cs = [.int .u16 x.a, .int .u16 x.b, .int .u16 x.c, .int .u16 x.d, .int .u16 x.e] ∧ okNum x
  len := by rintro w cs x ⟨rfl, _⟩; rfl
  ext := by rintro w w' cs x h _; exact h
  one := by rintro w cs x ⟨rfl, _⟩; simp [Value.oneCell']
def genTup (x : Num5) : Tup := ⟨genVals x.c x.d, genFrom x.a, genTo x.a x.b, [1 + x.e % 5]⟩

/-- five cells of a block, kept by the store of four others -/
theorem keepW4 {W wa : World} {B b : Nat} {u0 u1 u2 u3 v0 v1 v2 v3 v4 : Value}
    (h : Ext W wa ∧ wa.cell? ⟨b, 0, none⟩ = some v0 ∧ wa.cell? ⟨b, 1, none⟩ = some v1 ∧ wa.cell? ⟨b, 2, none⟩ = some v2 ∧ wa.cell? ⟨b, 3, none⟩ = some v3 ∧ wa.cell? ⟨b, 4, none⟩ = some v4) (hB : W.heap.size ≤ B) (hb : B ≠ b) :
    Ext W ((((wa.setCell ⟨B, 0, none⟩ u0).setCell ⟨B, 1, none⟩ u1).setCell ⟨B, 2, none⟩ u2).setCell ⟨B, 3, none⟩ u3) ∧ ((((wa.setCell ⟨B, 0, none⟩ u0).setCell ⟨B, 1, none⟩ u1).setCell ⟨B, 2, none⟩ u2).setCell ⟨B, 3, none⟩ u3).cell? ⟨b, 0, none⟩ = some v0 ∧ ((((wa.setCell ⟨B, 0, none⟩ u0).setCell ⟨B, 1, none⟩ u1).setCell ⟨B, 2, none⟩ u2).setCell ⟨B, 3, none⟩ u3).cell? ⟨b, 1, none⟩ = some v1 ∧ ((((wa.setCell ⟨B, 0, none⟩ u0).setCell ⟨B, 1, none⟩ u1).setCell ⟨B, 2, none⟩ u2).setCell ⟨B, 3, none⟩ u3).cell? ⟨b, 2, none⟩ = some v2 ∧ ((((wa.setCell ⟨B, 0, none⟩ u0).setCell ⟨B, 1, none⟩ u1).setCell ⟨B, 2, none⟩ u2).setCell ⟨B, 3, none⟩ u3).cell? ⟨b, 3, none⟩ = some v3 ∧ ((((wa.setCell ⟨B, 0, none⟩ u0).setCell ⟨B, 1, none⟩ u1).setCell ⟨B, 2, none⟩ u2).setCell ⟨B, 3, none⟩ u3).cell? ⟨b, 4, none⟩ = some v4 :=
  ⟨Below.setCell (Below.setCell (Below.setCell (Below.setCell h.1 hB u0) hB u1) hB u2) hB u3, cell_set (cell_set (cell_set (cell_set h.2.1 hb) hb) hb) hb, cell_set (cell_set (cell_set (cell_set h.2.2.1 hb) hb) hb) hb, cell_set (cell_set (cell_set (cell_set h.2.2.2.1 hb) hb) hb) hb, cell_set (cell_set (cell_set (cell_set h.2.2.2.2.1 hb) hb) hb) hb, cell_set (cell_set (cell_set (cell_set h.2.2.2.2.2 hb) hb) hb) hb⟩
/-- four cells that may be written, as they stand in a later world -/
def Free4 (w : World) (B : Nat) : Prop := (∃ u, w.cell? ⟨B, 0, none⟩ = some u) ∧ (∃ u, w.cell? ⟨B, 1, none⟩ = some u) ∧ (∃ u, w.cell? ⟨B, 2, none⟩ = some u) ∧ (∃ u, w.cell? ⟨B, 3, none⟩ = some u) ∧ w.frozen? ⟨B, 0, none⟩ = false ∧ w.frozen? ⟨B, 1, none⟩ = false ∧ w.frozen? ⟨B, 2, none⟩ = false ∧ w.frozen? ⟨B, 3, none⟩ = false
theorem Free4.ext {w w' : World} {B : Nat} (h : Free4 w B) (hx : Ext w w') : Free4 w' B := by
  obtain ⟨⟨a, ha⟩, ⟨b, hb⟩, ⟨c, hc⟩, ⟨d, hd⟩, fa, fb, fc, fd⟩ := h
  exact ⟨⟨a, hx.at ha⟩, ⟨b, hx.at hb⟩, ⟨c, hx.at hc⟩, ⟨d, hx.at hd⟩, hx.unfrozen ha fa, hx.unfrozen hb fb, hx.unfrozen hc fc, hx.unfrozen hd fd⟩

theorem set4_read {wa : World} {B : Nat} (h : Free4 wa B) (u0 u1 u2 u3 : Value) :
    ((((wa.setCell ⟨B, 0, none⟩ u0).setCell ⟨B, 1, none⟩ u1).setCell ⟨B, 2, none⟩ u2).setCell ⟨B, 3, none⟩ u3).cell? ⟨B, 0, none⟩ = some u0 ∧ ((((wa.setCell ⟨B, 0, none⟩ u0).setCell ⟨B, 1, none⟩ u1).setCell ⟨B, 2, none⟩ u2).setCell ⟨B, 3, none⟩ u3).cell? ⟨B, 1, none⟩ = some u1 ∧ ((((wa.setCell ⟨B, 0, none⟩ u0).setCell ⟨B, 1, none⟩ u1).setCell ⟨B, 2, none⟩ u2).setCell ⟨B, 3, none⟩ u3).cell? ⟨B, 2, none⟩ = some u2 ∧ ((((wa.setCell ⟨B, 0, none⟩ u0).setCell ⟨B, 1, none⟩ u1).setCell ⟨B, 2, none⟩ u2).setCell ⟨B, 3, none⟩ u3).cell? ⟨B, 3, none⟩ = some u3 := by
  obtain ⟨⟨a, ha⟩, ⟨b, hb⟩, ⟨c, hc⟩, ⟨d, hd⟩, _⟩ := h
  refine ⟨?_, ?_, ?_, ?_⟩ <;> go_simp
theorem alloc4_read {w : World} {B : Nat} {u0 u1 u2 u3 : Value} (h : w.cell? ⟨B, 0, none⟩ = some u0 ∧ w.cell? ⟨B, 1, none⟩ = some u1 ∧ w.cell? ⟨B, 2, none⟩ = some u2 ∧ w.cell? ⟨B, 3, none⟩ = some u3) (o : Obj) :
    (w.alloc o).cell? ⟨B, 0, none⟩ = some u0 ∧ (w.alloc o).cell? ⟨B, 1, none⟩ = some u1 ∧ (w.alloc o).cell? ⟨B, 2, none⟩ = some u2 ∧ (w.alloc o).cell? ⟨B, 3, none⟩ = some u3 :=
  ⟨cell_alloc h.1 o, cell_alloc h.2.1 o, cell_alloc h.2.2.1 o, cell_alloc h.2.2.2 o⟩

theorem ret4 {P : Program} {fn : Func} {R : Ending → World → Prop} {a : Act} {wa : World} {B : Nat} {u0 u1 u2 u3 : Value} (h : Free4 wa B)
    (hr : (((((wa.setCell ⟨B, 0, none⟩ u0).setCell ⟨B, 1, none⟩ u1).setCell ⟨B, 2, none⟩ u2).setCell ⟨B, 3, none⟩ u3).cell? ⟨B, 0, none⟩ = some u0 ∧ ((((wa.setCell ⟨B, 0, none⟩ u0).setCell ⟨B, 1, none⟩ u1).setCell ⟨B, 2, none⟩ u2).setCell ⟨B, 3, none⟩ u3).cell? ⟨B, 1, none⟩ = some u1 ∧ ((((wa.setCell ⟨B, 0, none⟩ u0).setCell ⟨B, 1, none⟩ u1).setCell ⟨B, 2, none⟩ u2).setCell ⟨B, 3, none⟩ u3).cell? ⟨B, 2, none⟩ = some u2 ∧ ((((wa.setCell ⟨B, 0, none⟩ u0).setCell ⟨B, 1, none⟩ u1).setCell ⟨B, 2, none⟩ u2).setCell ⟨B, 3, none⟩ u3).cell? ⟨B, 3, none⟩ = some u3) → (results fn a.tmps).run P ((((wa.setCell ⟨B, 0, none⟩ u0).setCell ⟨B, 1, none⟩ u1).setCell ⟨B, 2, none⟩ u2).setCell ⟨B, 3, none⟩ u3) = .ok (.agg #[u0, u1, u2, u3]) ((((wa.setCell ⟨B, 0, none⟩ u0).setCell ⟨B, 1, none⟩ u1).setCell ⟨B, 2, none⟩ u2).setCell ⟨B, 3, none⟩ u3)) (hd : a.defers = [])
    (hR : R (.returned (.agg #[u0, u1, u2, u3])) ((((wa.setCell ⟨B, 0, none⟩ u0).setCell ⟨B, 1, none⟩ u1).setCell ⟨B, 2, none⟩ u2).setCell ⟨B, 3, none⟩ u3)) : bodyPost P fn R .ret a ((((wa.setCell ⟨B, 0, none⟩ u0).setCell ⟨B, 1, none⟩ u1).setCell ⟨B, 2, none⟩ u2).setCell ⟨B, 3, none⟩ u3) := bodyPost_ret (hr (set4_read h u0 u1 u2 u3)) hd hR
theorem ret4a {P : Program} {fn : Func} {R : Ending → World → Prop} {a : Act} {wa : World} {B : Nat} {u0 u1 u2 u3 : Value} {o : Obj} (h : Free4 wa B)
    (hr : ((((((wa.setCell ⟨B, 0, none⟩ u0).setCell ⟨B, 1, none⟩ u1).setCell ⟨B, 2, none⟩ u2).setCell ⟨B, 3, none⟩ u3).alloc o).cell? ⟨B, 0, none⟩ = some u0 ∧ (((((wa.setCell ⟨B, 0, none⟩ u0).setCell ⟨B, 1, none⟩ u1).setCell ⟨B, 2, none⟩ u2).setCell ⟨B, 3, none⟩ u3).alloc o).cell? ⟨B, 1, none⟩ = some u1 ∧ (((((wa.setCell ⟨B, 0, none⟩ u0).setCell ⟨B, 1, none⟩ u1).setCell ⟨B, 2, none⟩ u2).setCell ⟨B, 3, none⟩ u3).alloc o).cell? ⟨B, 2, none⟩ = some u2 ∧ (((((wa.setCell ⟨B, 0, none⟩ u0).setCell ⟨B, 1, none⟩ u1).setCell ⟨B, 2, none⟩ u2).setCell ⟨B, 3, none⟩ u3).alloc o).cell? ⟨B, 3, none⟩ = some u3) → (results fn a.tmps).run P (((((wa.setCell ⟨B, 0, none⟩ u0).setCell ⟨B, 1, none⟩ u1).setCell ⟨B, 2, none⟩ u2).setCell ⟨B, 3, none⟩ u3).alloc o) = .ok (.agg #[u0, u1, u2, u3]) (((((wa.setCell ⟨B, 0, none⟩ u0).setCell ⟨B, 1, none⟩ u1).setCell ⟨B, 2, none⟩ u2).setCell ⟨B, 3, none⟩ u3).alloc o)) (hd : a.defers = [])
    (hR : R (.returned (.agg #[u0, u1, u2, u3])) (((((wa.setCell ⟨B, 0, none⟩ u0).setCell ⟨B, 1, none⟩ u1).setCell ⟨B, 2, none⟩ u2).setCell ⟨B, 3, none⟩ u3).alloc o)) : bodyPost P fn R .ret a (((((wa.setCell ⟨B, 0, none⟩ u0).setCell ⟨B, 1, none⟩ u1).setCell ⟨B, 2, none⟩ u2).setCell ⟨B, 3, none⟩ u3).alloc o) := bodyPost_ret (hr (alloc4_read (set4_read h u0 u1 u2 u3) o)) hd hR

theorem sub4 (wa : World) {B : Nat} (u0 u1 u2 u3 : Value) {S : Nat → Prop} (hB : ¬ S B) : Sub (on wa S) (on ((((wa.setCell ⟨B, 0, none⟩ u0).setCell ⟨B, 1, none⟩ u1).setCell ⟨B, 2, none⟩ u2).setCell ⟨B, 3, none⟩ u3) S) :=
  (((set_sub wa _ u0 hB).trans (set_sub _ _ u1 hB)).trans (set_sub _ _ u2 hB)).trans (set_sub _ _ u3 hB)
theorem vals_end {w w2 w3 : World} {B : Nat} {u0 u1 u2 u3 v : Value} {T : Nat → Prop} {xs : List Val} (s2 : SliceOf Rep.val (on w2 T) v xs) (hT : ∀ k, k < w2.heap.size → T k → B < k) (hB : w.heap.size ≤ B) (hx : Ext w2 w3) :
    SliceOf Rep.val (on ((((w3.setCell ⟨B, 0, none⟩ u0).setCell ⟨B, 1, none⟩ u1).setCell ⟨B, 2, none⟩ u2).setCell ⟨B, 3, none⟩ u3) (fun j => w.heap.size ≤ j)) v xs :=
  s2.ext (((on_mono w2 (T := fun k => B < k) hT).trans (hx.sub _)).trans ((sub4 w3 u0 u1 u2 u3 (Nat.lt_irrefl B)).trans (on_mono _ fun k _ (hk : B < k) => Nat.le_trans hB (Nat.le_of_lt hk))))
theorem vals_enda {w w2 w3 : World} {B : Nat} {u0 u1 u2 u3 v : Value} {T : Nat → Prop} {xs : List Val} {o : Obj} (s2 : SliceOf Rep.val (on w2 T) v xs) (hT : ∀ k, k < w2.heap.size → T k → B < k) (hB : w.heap.size ≤ B) (hx : Ext w2 w3) :
    SliceOf Rep.val (on (((((w3.setCell ⟨B, 0, none⟩ u0).setCell ⟨B, 1, none⟩ u1).setCell ⟨B, 2, none⟩ u2).setCell ⟨B, 3, none⟩ u3).alloc o) (fun j => w.heap.size ≤ j)) v xs :=
  (vals_end (u0 := u0) (u1 := u1) (u2 := u2) (u3 := u3) s2 hT hB hx).ext (((Ext.refl _).alloc o).sub _)
theorem lin_end {w w3 : World} {B b : Nat} {u0 u1 u2 u3 : Value} {x : Int} (hr : -9223372036854775808 ≤ x ∧ x ≤ 9223372036854775807) (hb : w.heap.size ≤ b) (hne : B ≠ b) (hc : w3.cell? ⟨b, 0, none⟩ = some (.int .i64 x)) :
    SliceOf Rep.int (on ((((w3.setCell ⟨B, 0, none⟩ u0).setCell ⟨B, 1, none⟩ u1).setCell ⟨B, 2, none⟩ u2).setCell ⟨B, 3, none⟩ u3) (fun j => w.heap.size ≤ j)) (.slice (some ⟨b, 0, none⟩) 1 1) [x] :=
  int_lone _ _ _ hr (on_some.2 ⟨hb, cell_set (cell_set (cell_set (cell_set hc hne) hne) hne) hne⟩)
theorem lin_enda {w w3 : World} {B : Nat} {u0 u1 u2 u3 : Value} {x : Int} {T : TypeId} (hr : -9223372036854775808 ≤ x ∧ x ≤ 9223372036854775807) (hb : w.heap.size ≤ w3.heap.size) :
    SliceOf Rep.int (on (((((w3.setCell ⟨B, 0, none⟩ u0).setCell ⟨B, 1, none⟩ u1).setCell ⟨B, 2, none⟩ u2).setCell ⟨B, 3, none⟩ u3).alloc (.cells #[.int .i64 x] T)) (fun j => w.heap.size ≤ j)) (.slice (some ⟨w3.heap.size, 0, none⟩) 1 1) [x] := by
  have h := cells_new ((((w3.setCell ⟨B, 0, none⟩ u0).setCell ⟨B, 1, none⟩ u1).setCell ⟨B, 2, none⟩ u2).setCell ⟨B, 3, none⟩ u3) [.int .i64 x] T 0 _ rfl
  rw [show (((((w3.setCell ⟨B, 0, none⟩ u0).setCell ⟨B, 1, none⟩ u1).setCell ⟨B, 2, none⟩ u2).setCell ⟨B, 3, none⟩ u3).heap.size) = w3.heap.size by simp] at h
  exact int_lone _ _ _ hr (on_some.2 ⟨hb, h⟩)

set_option maxRecDepth 100000 in
set_option maxHeartbeats 4000000 in
theorem tuple_gen (x : Num5) (w : World) (h : okNum x) :
    Calls Tryz.prog 9 #[.agg #[.int .u16 x.a, .int .u16 x.b, .int .u16 x.c, .int .u16 x.d, .int .u16 x.e]] w fun e w' => ∃ a b, e = .returned (.agg #[a, .int .i64 (genTup x).from_, .int .i64 (genTup x).to_, b]) ∧ SliceOf Rep.val (on w' (fun j => w.heap.size ≤ j)) a (genTup x).vals ∧ SliceOf Rep.int (on w' (fun j => w.heap.size ≤ j)) b (genTup x).lin ∧ Ext w w' := by
  obtain ⟨⟨a0, a1⟩, ⟨b0, b1⟩, ⟨c0, c1⟩, ⟨d0, d1⟩, e0, e1⟩ := h
  obtain ⟨xa, xb, xc, xd, xe⟩ := x
  dsimp only [genTup] at *
  go_enter Tryz.func9, Tryz.ntmps9
  go_wp2_with fail
  have k0 : ((w.alloc (.cells #[.int .u16 xa, .int .u16 xb, .int .u16 xc, .int .u16 xd, .int .u16 xe] 47)).alloc (.cells #[.slice none 0 0, .int .i64 0, .int .i64 0, .slice none 0 0] 45)).cell? ⟨w.heap.size, 0, none⟩ = some (.int .u16 xa) := by go_simp
  have k1 : ((w.alloc (.cells #[.int .u16 xa, .int .u16 xb, .int .u16 xc, .int .u16 xd, .int .u16 xe] 47)).alloc (.cells #[.slice none 0 0, .int .i64 0, .int .i64 0, .slice none 0 0] 45)).cell? ⟨w.heap.size, 1, none⟩ = some (.int .u16 xb) := by go_simp
  have k2 : ((w.alloc (.cells #[.int .u16 xa, .int .u16 xb, .int .u16 xc, .int .u16 xd, .int .u16 xe] 47)).alloc (.cells #[.slice none 0 0, .int .i64 0, .int .i64 0, .slice none 0 0] 45)).cell? ⟨w.heap.size, 2, none⟩ = some (.int .u16 xc) := by go_simp
  have k3 : ((w.alloc (.cells #[.int .u16 xa, .int .u16 xb, .int .u16 xc, .int .u16 xd, .int .u16 xe] 47)).alloc (.cells #[.slice none 0 0, .int .i64 0, .int .i64 0, .slice none 0 0] 45)).cell? ⟨w.heap.size, 3, none⟩ = some (.int .u16 xd) := by go_simp
  have k4 : ((w.alloc (.cells #[.int .u16 xa, .int .u16 xb, .int .u16 xc, .int .u16 xd, .int .u16 xe] 47)).alloc (.cells #[.slice none 0 0, .int .i64 0, .int .i64 0, .slice none 0 0] 45)).cell? ⟨w.heap.size, 4, none⟩ = some (.int .u16 xe) := by go_simp
  have g0 : ((w.alloc (.cells #[.int .u16 xa, .int .u16 xb, .int .u16 xc, .int .u16 xd, .int .u16 xe] 47)).alloc (.cells #[.slice none 0 0, .int .i64 0, .int .i64 0, .slice none 0 0] 45)).cell? ⟨w.heap.size + 1, 0, none⟩ = some (.slice none 0 0) := by go_simp
  have f0 : ((w.alloc (.cells #[.int .u16 xa, .int .u16 xb, .int .u16 xc, .int .u16 xd, .int .u16 xe] 47)).alloc (.cells #[.slice none 0 0, .int .i64 0, .int .i64 0, .slice none 0 0] 45)).frozen? ⟨w.heap.size + 1, 0, none⟩ = false := by go_simp
  have g1 : ((w.alloc (.cells #[.int .u16 xa, .int .u16 xb, .int .u16 xc, .int .u16 xd, .int .u16 xe] 47)).alloc (.cells #[.slice none 0 0, .int .i64 0, .int .i64 0, .slice none 0 0] 45)).cell? ⟨w.heap.size + 1, 1, none⟩ = some (.int .i64 0) := by go_simp
  have f1 : ((w.alloc (.cells #[.int .u16 xa, .int .u16 xb, .int .u16 xc, .int .u16 xd, .int .u16 xe] 47)).alloc (.cells #[.slice none 0 0, .int .i64 0, .int .i64 0, .slice none 0 0] 45)).frozen? ⟨w.heap.size + 1, 1, none⟩ = false := by go_simp
  have g2 : ((w.alloc (.cells #[.int .u16 xa, .int .u16 xb, .int .u16 xc, .int .u16 xd, .int .u16 xe] 47)).alloc (.cells #[.slice none 0 0, .int .i64 0, .int .i64 0, .slice none 0 0] 45)).cell? ⟨w.heap.size + 1, 2, none⟩ = some (.int .i64 0) := by go_simp
  have f2 : ((w.alloc (.cells #[.int .u16 xa, .int .u16 xb, .int .u16 xc, .int .u16 xd, .int .u16 xe] 47)).alloc (.cells #[.slice none 0 0, .int .i64 0, .int .i64 0, .slice none 0 0] 45)).frozen? ⟨w.heap.size + 1, 2, none⟩ = false := by go_simp
  have g3 : ((w.alloc (.cells #[.int .u16 xa, .int .u16 xb, .int .u16 xc, .int .u16 xd, .int .u16 xe] 47)).alloc (.cells #[.slice none 0 0, .int .i64 0, .int .i64 0, .slice none 0 0] 45)).cell? ⟨w.heap.size + 1, 3, none⟩ = some (.slice none 0 0) := by go_simp
  have f3 : ((w.alloc (.cells #[.int .u16 xa, .int .u16 xb, .int .u16 xc, .int .u16 xd, .int .u16 xe] 47)).alloc (.cells #[.slice none 0 0, .int .i64 0, .int .i64 0, .slice none 0 0] 45)).frozen? ⟨w.heap.size + 1, 3, none⟩ = false := by go_simp
  have hxx : Ext w ((w.alloc (.cells #[.int .u16 xa, .int .u16 xb, .int .u16 xc, .int .u16 xd, .int .u16 xe] 47)).alloc (.cells #[.slice none 0 0, .int .i64 0, .int .i64 0, .slice none 0 0] 45)) := ((Ext.refl w).alloc _).alloc _
  generalize ((w.alloc (.cells #[.int .u16 xa, .int .u16 xb, .int .u16 xc, .int .u16 xd, .int .u16 xe] 47)).alloc (.cells #[.slice none 0 0, .int .i64 0, .int .i64 0, .slice none 0 0] 45)) = W1 at k0 k1 k2 k3 k4 g0 g1 g2 g3 f0 f1 f2 f3 hxx ⊢
  have hF0 : Free4 W1 (w.heap.size + 1) := ⟨⟨_, g0⟩, ⟨_, g1⟩, ⟨_, g2⟩, ⟨_, g3⟩, f0, f1, f2, f3⟩
  have hF1 : Free4 W1.drew (w.heap.size + 1) := Free4.ext hF0 (Ext.refl W1).drew
  have hz1 := cell_lt g0
  clear g0 g1 g2 g3 f0 f1 f2 f3
  have e2 : xe.tmod 5 = xe % 5 := Int.tmod_eq_emod_of_nonneg e0
  have e3 : IntKind.i64.wrap (xe % 5) = xe % 5 := IntWalk.i64_in _ (by omega)
  have e4 : IntKind.i64.wrap (1 + xe % 5) = 1 + xe % 5 := IntWalk.i64_in _ (by omega)
  have hS0 : Ext w W1.drew ∧ W1.drew.cell? ⟨w.heap.size, 0, none⟩ = some (.int .u16 xa) ∧ W1.drew.cell? ⟨w.heap.size, 1, none⟩ = some (.int .u16 xb) ∧ W1.drew.cell? ⟨w.heap.size, 2, none⟩ = some (.int .u16 xc) ∧ W1.drew.cell? ⟨w.heap.size, 3, none⟩ = some (.int .u16 xd) ∧ W1.drew.cell? ⟨w.heap.size, 4, none⟩ = some (.int .u16 xe) := ⟨hxx.drew, k0, k1, k2, k3, k4⟩
  go_region_held3 (fun w' => Ext w w' ∧ w'.cell? ⟨w.heap.size, 0, none⟩ = some (.int .u16 xa) ∧ w'.cell? ⟨w.heap.size, 1, none⟩ = some (.int .u16 xb) ∧ w'.cell? ⟨w.heap.size, 2, none⟩ = some (.int .u16 xc) ∧ w'.cell? ⟨w.heap.size, 3, none⟩ = some (.int .u16 xd) ∧ w'.cell? ⟨w.heap.size, 4, none⟩ = some (.int .u16 xe))
    (first | with_reducible assumption | with_reducible exact keepE5 (by assumption) hx2 | with_reducible exact keepE5 (by assumption) hx3 | with_reducible exact keepE5 (by assumption) ((Ext.refl _).alloc _) | with_reducible exact keepW4 (by assumption) (Nat.le_succ _) (Nat.succ_ne_self _) | with_reducible exact keepE5 (keepW4 (by assumption) (Nat.le_succ _) (Nat.succ_ne_self _)) ((Ext.refl _).alloc _))
    (first | (go_at_call 27; refine (vals_gen xc xd _ c0 c1 d0 d1).mono ?_; rintro e w2 ⟨v2, rfl, s2, hx2⟩; obtain ⟨p2, q2, rfl, _⟩ := s2.form; have hS2 : Ext w w2 ∧ w2.cell? ⟨w.heap.size, 0, none⟩ = some (.int .u16 xa) ∧ w2.cell? ⟨w.heap.size, 1, none⟩ = some (.int .u16 xb) ∧ w2.cell? ⟨w.heap.size, 2, none⟩ = some (.int .u16 xc) ∧ w2.cell? ⟨w.heap.size, 3, none⟩ = some (.int .u16 xd) ∧ w2.cell? ⟨w.heap.size, 4, none⟩ = some (.int .u16 xe) := (by with_reducible exact keepE5 (by assumption) hx2); have hF2 : Free4 w2 (w.heap.size + 1) := (by first | exact Free4.ext (by assumption) hx2 | exact Free4.ext (by assumption) (((Ext.refl _).alloc _).trans hx2) | exact Free4.ext hF0 ((((Ext.refl W1).alloc _).drew).trans hx2)); obtain ⟨⟨m20, y20⟩, ⟨m21, y21⟩, ⟨m22, y22⟩, ⟨m23, y23⟩, y24, y25, y26, y27⟩ := id hF2; have z2 := cell_lt y20) | (go_at_call 28; refine (period_gen xa xb _ a0 a1 b0 b1).mono ?_; rintro e w3 ⟨rfl, hx3⟩; have hS3 : Ext w w3 ∧ w3.cell? ⟨w.heap.size, 0, none⟩ = some (.int .u16 xa) ∧ w3.cell? ⟨w.heap.size, 1, none⟩ = some (.int .u16 xb) ∧ w3.cell? ⟨w.heap.size, 2, none⟩ = some (.int .u16 xc) ∧ w3.cell? ⟨w.heap.size, 3, none⟩ = some (.int .u16 xd) ∧ w3.cell? ⟨w.heap.size, 4, none⟩ = some (.int .u16 xe) := (by with_reducible exact keepE5 (by assumption) hx3); have hF3 : Free4 w3 (w.heap.size + 1) := (by first | exact Free4.ext (by assumption) hx3 | exact Free4.ext (by assumption) (((Ext.refl _).alloc _).trans hx3) | exact Free4.ext hF0 ((((Ext.refl W1).alloc _).drew).trans hx3)); obtain ⟨⟨m30, y30⟩, ⟨m31, y31⟩, ⟨m32, y32⟩, ⟨m33, y33⟩, y34, y35, y36, y37⟩ := id hF3; have z3 := cell_lt y30))
  all_goals
    have hfin := And.left ‹Ext w (_ : World) ∧ _›
    clear hS0
    go_wp2_with fail
    have hr : -9223372036854775808 ≤ 1 + xe % 5 ∧ 1 + xe % 5 ≤ 9223372036854775807 := by omega
  · with_reducible refine ret4a hF3 ?_ ?_ ?_
    · intro j
      simp [results, Tryz.results9, go_sem, j]
    · rfl
    exact ⟨_, _, rfl, vals_enda s2 (fun k _ hk => by simp at hk; omega) (by omega) hx3, lin_enda hr (by omega), hfin⟩
  · with_reducible refine ret4 hF3 ?_ ?_ ?_
    · intro j
      simp [results, Tryz.results9, go_sem, j]
    · rfl
    exact ⟨_, _, rfl, vals_end s2 (fun k _ hk => by simp at hk; omega) (by omega) (((Ext.refl w2).alloc _).trans hx3), lin_end hr (by omega) (by omega) (hx3.at (cells_new w2 [.int .i64 (1 + xe % 5)] 3 0 _ rfl)), hfin⟩
  · with_reducible refine ret4 hF3 ?_ ?_ ?_
    · intro j
      simp [results, Tryz.results9, go_sem, j]
    · rfl
    exact ⟨_, _, rfl, vals_end s2 (fun k _ hk => by simp at hk; omega) (by omega) hx3, lin_end hr (by omega) (by omega) (hx3.at (hx2.at ((Ext.refl _).drew.at (cells_new W1 [.int .i64 (1 + xe % 5)] 3 0 _ rfl)))), hfin⟩

end Go.Proofs.YtdgpbpbjlnlijaaGreat
