/- joined texts of a proof: EvalC, AggW, BndW, ClipW, BagM -/
import Derived.Test.YtdgpbpbjlnlijaaGreatDoorKD10
import Derived.WalkMore
import Derived.Test.YtdgpbpbjlnlijaaGreatDoorKD08
import Derived.Test.YtdgpbpbjlnlijaaGreatDoorKD07
import Derived.Test.YtdgpbpbjlnlijaaGreatDoorKD09
import Derived.Test.YtdgpbpbjlnlijaaGreatDoorKD05
import Derived.Deep.RegionLaw
import Derived.Laws.OwnMore
import Derived.OneCell

/- expr.Eval of columns -/
namespace Go.Proofs.YtdgpbpbjlnlijaaGreatDoor
open Go.RowKit

structure ExprI where
  op : Int
  a : Int
  b : Int
  col : Int
  c : Val
def exprEnc (x : ExprI) : List Value := [.int .i64 x.op, .int .i64 x.a, .int .i64 x.b, .int .i64 x.col, .int .i64 x.c.kind, .int .i64 x.c.n, .string x.c.s]
def Rep.expr : Rep ExprI where
  size := 7
  holds _ cs x := cs = exprEnc x ∧ (okI x.op ∧ okI x.a ∧ okI x.b ∧ okI x.col) ∧ okVal x.c
  len := by rintro w cs x ⟨rfl, _⟩; rfl
  ext := by rintro w w' cs x h _; exact h
  one := by rintro w cs x ⟨rfl, _⟩; simp [exprEnc, Value.oneCell']
theorem flat_expr : Rep.expr.flat := fun _ _ _ _ h => h
/-- a column of a row -/
def colAt (vals : List Val) (c : Int) : Val := if 0 ≤ c ∧ c < vals.length then vals.getD c.toNat nV else nV
theorem colAt_in {vals : List Val} {c : Nat} (h : c < vals.length) : colAt vals c = vals[c] := by
  unfold colAt
  rw [if_pos (by omega)]
  simp [h]
theorem colAt_out {vals : List Val} {c : Int} (h : ¬ (0 ≤ c ∧ c < vals.length)) : colAt vals c = nV := if_neg h

set_option maxRecDepth 100000 in
set_option maxHeartbeats 4000000 in
theorem apply_col (x : ExprI) (hop : x.op = 2) (pa : Option Addr) (na ka : Nat) (v : Value) (vals : List Val) (w : World) (hv : SliceOf Rep.val w.cell? v vals) :
    Calls Tryz.prog 129 #[.agg (exprEnc x).toArray, .slice pa na ka, v] w fun e w' => e = .returned (valV (colAt vals x.col)) ∧ Ext w w' := by
  obtain ⟨p, cap, rfl, _, _, hp⟩ := hv.form
  obtain ⟨op, a, b, col, ⟨ck, cn, cs⟩⟩ := x
  dsimp only at hop
  subst hop
  unfold exprEnc
  dsimp only
  have HV := Lib.hid hv
  have HP := Lib.hid hp
  clear hv hp
  by_cases h0 : col < 0
  · have hd : decide (col < 0) = true := by simp [h0]
    have HC := Lib.hid (colAt_out (vals := vals) (c := col) (by omega))
    go_enter Tryz.func129, Tryz.ntmps129
    go_wp2_with fail
    refine bodyPost_ret (v := valV (colAt vals col)) (by rw [HC.out]; simp [results, Tryz.results129, go_sem, valV, nV]; rfl) rfl ⟨rfl, ?_⟩
    exact ((Ext.refl w).alloc _).alloc _
  · have hd : decide (col < 0) = false := by simp [h0]
    by_cases h1 : col < vals.length
    · obtain ⟨c, hc⟩ : ∃ c : Nat, col = c := ⟨col.toNat, by omega⟩
      subst hc
      have hcl : c < vals.length := by omega
      have hd2 : decide ((vals.length : Int) ≤ (c : Int)) = false := by simp; omega
      have hb1 : (c : Int) < (vals.length : Int) := by omega
      obtain ⟨bb, o, rfl⟩ := HP.out (by decide) (by omega)
      obtain ⟨c0, c1, c2, _⟩ := val_cells HV.out c hcl
      have HC := Lib.hid (colAt_in hcl)
      generalize vals[c] = y at c0 c1 c2 HC
      obtain ⟨yk, yn, ys⟩ := y
      dsimp only at c0 c1 c2
      have e0 := cell_lt c0
      clear h0 h1
      go_enter Tryz.func129, Tryz.ntmps129
      go_wp2_with fail
      refine bodyPost_ret (v := valV (colAt vals c)) (by rw [HC.out]; simp [results, Tryz.results129, go_sem, valV]) rfl ⟨rfl, ?_⟩
      exact ((Ext.refl w).alloc _).alloc _
    · have hd2 : decide ((vals.length : Int) ≤ col) = true := by simp; omega
      have hb1 : ¬ col < (vals.length : Int) := h1
      have HC := Lib.hid (colAt_out (vals := vals) (c := col) (by omega))
      clear h0 h1
      go_enter Tryz.func129, Tryz.ntmps129
      go_wp2_with fail
      refine bodyPost_ret (v := valV (colAt vals col)) (by rw [HC.out]; simp [results, Tryz.results129, go_sem, valV, nV]; rfl) rfl ⟨rfl, ?_⟩
      exact ((Ext.refl w).alloc _).alloc _

theorem arity_col (w : World) : Calls Tryz.prog 178 #[.int .i64 2] w fun e w' => e = .returned (.int .i64 0) ∧ Ext w w' := by
  go_enter Tryz.func178, Tryz.ntmps178
  go_wp2_with fail
  go_ret
  exact ⟨rfl, Ext.refl w⟩

set_option maxRecDepth 100000 in
set_option maxHeartbeats 4000000 in
theorem operands_col (x : ExprI) (hop : x.op = 2) (w : World) :
    Calls Tryz.prog 127 #[.agg (exprEnc x).toArray] w fun e w' => ∃ p c, e = .returned (.slice p 0 c) ∧ Ext w w' := by
  obtain ⟨op, a, b, col, ⟨ck, cn, cs⟩⟩ := x
  dsimp only at hop
  subst hop
  unfold exprEnc
  dsimp only
  go_enter Tryz.func127, Tryz.ntmps127
  go_wp2_with fail
  have k0 : (w.alloc (.cells #[.int .i64 2, .int .i64 a, .int .i64 b, .int .i64 col, .int .i64 ck, .int .i64 cn, .string cs] 73)).cell? ⟨w.heap.size, 0, none⟩ = some (.int .i64 2) := by go_simp
  have k1 : (w.alloc (.cells #[.int .i64 2, .int .i64 a, .int .i64 b, .int .i64 col, .int .i64 ck, .int .i64 cn, .string cs] 73)).cell? ⟨w.heap.size, 1, none⟩ = some (.int .i64 a) := by go_simp
  have k2 : (w.alloc (.cells #[.int .i64 2, .int .i64 a, .int .i64 b, .int .i64 col, .int .i64 ck, .int .i64 cn, .string cs] 73)).cell? ⟨w.heap.size, 2, none⟩ = some (.int .i64 b) := by go_simp
  have x0 : Ext w (w.alloc (.cells #[.int .i64 2, .int .i64 a, .int .i64 b, .int .i64 col, .int .i64 ck, .int .i64 cn, .string cs] 73)) := (Ext.refl w).alloc _
  generalize w.alloc (.cells #[.int .i64 2, .int .i64 a, .int .i64 b, .int .i64 col, .int .i64 ck, .int .i64 cn, .string cs] 73) = W at k0 k1 k2 x0 ⊢
  have hS0 : Ext w W.drew ∧ W.drew.cell? ⟨w.heap.size, 0, none⟩ = some (.int .i64 2) ∧ W.drew.cell? ⟨w.heap.size, 1, none⟩ = some (.int .i64 a) ∧ W.drew.cell? ⟨w.heap.size, 2, none⟩ = some (.int .i64 b) := ⟨x0.drew, k0, k1, k2⟩
  clear k0 k1 k2
  go_region_held3 (fun w' => Ext w w' ∧ w'.cell? ⟨w.heap.size, 0, none⟩ = some (.int .i64 2) ∧ w'.cell? ⟨w.heap.size, 1, none⟩ = some (.int .i64 a) ∧ w'.cell? ⟨w.heap.size, 2, none⟩ = some (.int .i64 b))
    (first | with_reducible assumption | with_reducible exact keepE3 (by assumption) hx2 | with_reducible exact keepE3 (by assumption) ((Ext.refl _).alloc _))
    (first | (go_at_call 178; refine (arity_col _).mono ?_; rintro e w2 ⟨rfl, hx2⟩))
  all_goals (obtain ⟨hfin, _⟩ := ‹Ext w _ ∧ _›)
  all_goals go_wp2_with fail
  all_goals go_ret
  all_goals exact ⟨_, _, rfl, hfin⟩

/-- n cells of a block may be written -/
def FreeN (w : World) (g n : Nat) : Prop := ∀ j, j < n → (∃ u, w.cell? ⟨g, j, none⟩ = some u) ∧ w.frozen? ⟨g, j, none⟩ = false
theorem FreeN.set {w : World} {g n : Nat} (h : FreeN w g n) (i : Nat) (u : Value) : FreeN (w.setCell ⟨g, i, none⟩ u) g n := fun j hj => by
  obtain ⟨⟨z, h1⟩, h2⟩ := h j hj
  by_cases e : j = i
  · subst e
    exact ⟨⟨u, by go_simp⟩, by go_simp⟩
  · exact ⟨⟨z, by rw [World.cell?_setCell_other _ _ _ _ (by simp only [ne_eq, Addr.mk.injEq, true_and, and_true]; omega)]; exact h1⟩, by go_simp⟩
theorem FreeN.ext {w w' : World} {g n : Nat} (h : FreeN w g n) (hx : Ext w w') : FreeN w' g n := fun j hj => by
  obtain ⟨⟨z, h1⟩, h2⟩ := h j hj
  exact ⟨⟨z, hx.at h1⟩, hx.unfrozen h1 h2⟩
theorem FreeN.made {w : World} {base g n c k : Nat} {e : TypeId} {xs : List Value} (h : w.ownsRow base e k (.slice (some ⟨g, 0, none⟩) n c) n xs) : FreeN w g (c * k) := fun j hj => by
  rcases h.2 with ⟨h1, _⟩ | ⟨g', cap, cur, he, _, hg, _, _, hsz, _⟩
  · cases h1
  · injection he with e1 e2 e3
    injection e1 with e1
    injection e1 with e1
    subst e1 e3
    refine ⟨⟨cur[j]'(by omega), ?_⟩, Lib.frozen_of_heap hg j⟩
    rw [Lib.cell_of_heap hg]
    exact Array.getElem?_eq_getElem _
theorem info_val3 : (Tryz.prog.info? 44).map (fun i => (i.zero, i.size, i.bytes)) = some (some (.agg #[.int .i64 0, .int .i64 0, .string ByteArray.empty]), 3, 32) := by kernel_rfl
theorem expr_at {h : View} {b o n cap : Nat} {xs : List ExprI} (k : SliceOf Rep.expr h (.slice (some ⟨b, o, none⟩) n cap) xs) (i : Nat) (hi : i < xs.length) :
    h ⟨b, o + i * 7, none⟩ = some (.int .i64 xs[i].op) ∧ h ⟨b, o + i * 7 + 1, none⟩ = some (.int .i64 xs[i].a) ∧ h ⟨b, o + i * 7 + 2, none⟩ = some (.int .i64 xs[i].b) ∧ h ⟨b, o + i * 7 + 3, none⟩ = some (.int .i64 xs[i].col) ∧ h ⟨b, o + i * 7 + 4, none⟩ = some (.int .i64 xs[i].c.kind) ∧ h ⟨b, o + i * 7 + 5, none⟩ = some (.int .i64 xs[i].c.n) ∧ h ⟨b, o + i * 7 + 6, none⟩ = some (.string xs[i].c.s) := by
  obtain ⟨c, ⟨rfl, _⟩, h2⟩ := k.at i hi
  exact ⟨h2 0 _ rfl, h2 1 _ rfl, h2 2 _ rfl, h2 3 _ rfl, h2 4 _ rfl, h2 5 _ rfl, h2 6 _ rfl⟩

set_option maxRecDepth 100000 in
set_option maxHeartbeats 8000000 in
theorem eval_col (v : Value) (es : List ExprI) (root : Nat) (vv : Value) (vals : List Val) (w : World) (he : SliceOf Rep.expr w.cell? v es) (hcol : ∀ e ∈ es, e.op = 2) (hr : root < es.length) (hl : es.length ≤ 1000) (hv : SliceOf Rep.val w.cell? vv vals) :
    Calls Tryz.prog 85 #[v, .int .i64 root, vv] w fun e w' => e = .returned (valV (colAt vals (es[root].col))) ∧ Ext w w' := by
  obtain ⟨i3, hi3, hz30, hz31, hz32⟩ := info_parts info_val3
  obtain ⟨p, cap, rfl, hc1, hc2, hp⟩ := he.form
  obtain ⟨q, qc, rfl, _⟩ := hv.form
  obtain ⟨bb, ob, rfl⟩ := hp (by decide) (by omega)
  obtain ⟨y, hy⟩ : ∃ y, y = colAt vals (es[root].col) := ⟨_, rfl⟩
  rw [← hy]
  have HY := Lib.hid hy
  obtain ⟨N, hN⟩ : ∃ N, N = es.length := ⟨_, rfl⟩
  have HE := Lib.hid he
  rw [← hN] at HE hc1 ⊢
  have HV := Lib.hid hv
  have HCOL := Lib.hid hcol
  have HN := Lib.hid hN
  obtain ⟨M, hM⟩ : ∃ M, M = root + 1 := ⟨_, rfl⟩
  have HM := Lib.hid hM
  have hMN : M ≤ N := by omega
  have hM1 : M ≤ 1000 := by omega
  have em : (root : Int) + 1 = (M : Int) := by omega
  have hw1 : IntKind.i64.wrap (M : Int) = (M : Int) := by rw [IntKind.wrap_i64]; omega
  have hd0 : decide ((root : Int) < 0) = false := by simp
  have hd1 : decide ((N : Int) ≤ (root : Int)) = false := by simp; omega
  have hrM : (root : Int) < (M : Int) := by omega
  have hMc : M ≤ cap := by omega
  have hMc' : (M : Int) ≤ (cap : Int) := by omega
  clear he hv hcol hN hl hy hM hc2 hp
  go_enter Tryz.func85, Tryz.ntmps85
  go_wp2_with fail
  go_step3
  go_wp2_with (at_make; go_loud (refine wpList_make_full _ rfl _ _ 40 rfl w.heap.size 44 i3 _ 3 Tryz.underlying40 hi3 hz30 hz31 .i64 .i64 (M : Int) (M : Int) M rfl rfl rfl rfl (by rw [hz32]; omega) (by unfold maxLen; omega) (by simp) ?_))
  intro w1 own1 gr1
  have hF1 := FreeN.made own1
  have X1 := Lib.hid (ext_grown ((Ext.refl w).alloc _) gr1 (fun k hk => by cases hk))
  have xz := ext_grown (Ext.refl _) gr1 (fun k hk => by cases hk)
  have HX0 := Lib.hid (show (w1.cell? ⟨w.heap.size, 0, none⟩ = some (.int .i64 0) ∧ w1.cell? ⟨w.heap.size, 1, none⟩ = some (.int .i64 0) ∧ w1.cell? ⟨w.heap.size, 2, none⟩ = some (.string ⟨#[]⟩)) ∧ w1.frozen? ⟨w.heap.size, 0, none⟩ = false ∧ w1.frozen? ⟨w.heap.size, 1, none⟩ = false ∧ w1.frozen? ⟨w.heap.size, 2, none⟩ = false from
    ⟨⟨xz.at (by go_simp), xz.at (by go_simp), xz.at (by go_simp)⟩, xz.unfrozen (p := ⟨w.heap.size, 0, none⟩) (v := .int .i64 0) (by go_simp) (by go_simp), xz.unfrozen (p := ⟨w.heap.size, 1, none⟩) (v := .int .i64 0) (by go_simp) (by go_simp), xz.unfrozen (p := ⟨w.heap.size, 2, none⟩) (v := .string ⟨#[]⟩) (by go_simp) (by go_simp)⟩)
  clear xz
  obtain ⟨g, hg⟩ : ∃ g, g = w.heap.size + 1 := ⟨_, rfl⟩
  have hF2 : FreeN w1 g (M * 3) := by
    rw [hg]
    exact hF1
  have HG := Lib.hid hg
  have HF2 := Lib.hid hF2
  have HX1 := Lib.hid (show Ext w w1 from X1.out)
  have hgl : ∀ z : Nat, z = w.heap.size + 1 → (⟨z, 0, none⟩ : Addr) = ⟨g, 0, none⟩ := fun z hz => by rw [hz, hg]
  try rw [← hg]
  clear hF1 hF2 own1 gr1 X1 hg hgl
  go_wp2_with fail
  refine wp_label ?_
  go_wp2_with fail
  go_loopg [30] M (fun gk vi wr => ∃ (k : Nat), k ≤ M ∧ gk = M - k ∧ vi = .int .i64 k ∧ Hid (FreeN wr g (M * 3)) ∧ Hid (k = M → wr.cell? ⟨g, root * 3, none⟩ = some (.int .i64 y.kind) ∧ wr.cell? ⟨g, root * 3 + 1, none⟩ = some (.int .i64 y.n) ∧ wr.cell? ⟨g, root * 3 + 2, none⟩ = some (.string y.s)) ∧ Hid (FreeN wr w.heap.size 3) ∧ Ext w wr)
  case atStart => exact ⟨0, by omega, rfl, rfl, HF2.out, fun h => by omega, (fun j hj => by
    obtain ⟨⟨a0, a1, a2⟩, b0, b1, b2⟩ := HX0.out
    rcases (by omega : j = 0 ∨ j = 1 ∨ j = 2) with rfl | rfl | rfl
    · exact ⟨⟨_, a0⟩, b0⟩
    · exact ⟨⟨_, a1⟩, b1⟩
    · exact ⟨⟨_, a2⟩, b2⟩), HX1.out⟩
  case round =>
    clear HF2 HX1 HX0
    obtain ⟨k, hk, rfl, rfl, HFR, HLS, HRS, hx⟩ := hrel
    by_cases hlt : k < M
    · have hd : decide ((k : Int) < (M : Int)) = true := by simp; omega
      have hkM : (k : Int) < (M : Int) := by omega
      have hkn : k < es.length := by have := HN.out; omega
      obtain ⟨c0, c1, c2, c3, c4, c5, c6⟩ := expr_at HE.out k hkn
      have hop := HCOL.out es[k] (List.getElem_mem hkn)
      have hyk : k + 1 = M → colAt vals es[k].col = y := fun e => by
        have h1 := HM.out
        have h2 : k = root := by omega
        subst h2
        exact HY.out.symm
      generalize es[k] = x at c0 c1 c2 c3 c4 c5 c6 hop hyk
      obtain ⟨xo, xa, xb, xc, ⟨xk, xn, xs⟩⟩ := x
      dsimp only at c0 c1 c2 c3 c4 c5 c6 hop hyk
      replace c0 := hx.at c0
      replace c1 := hx.at c1
      replace c2 := hx.at c2
      replace c3 := hx.at c3
      replace c4 := hx.at c4
      replace c5 := hx.at c5
      replace c6 := hx.at c6
      have HOP := Lib.hid hop
      have HYK := Lib.hid hyk
      have e0 := cell_lt c0
      clear hop hyk
      go_wp2_with fail
      refine (operands_col ⟨xo, xa, xb, xc, ⟨xk, xn, xs⟩⟩ HOP.out _).mono ?_
      rintro e w2 ⟨p2, d2, rfl, x2⟩
      have a0 : w2.cell? ⟨wr.heap.size, 0, none⟩ = some (.int .i64 xo) := x2.at (by go_simp)
      have a1 : w2.cell? ⟨wr.heap.size, 1, none⟩ = some (.int .i64 xa) := x2.at (by go_simp)
      have a2 : w2.cell? ⟨wr.heap.size, 2, none⟩ = some (.int .i64 xb) := x2.at (by go_simp)
      have a3 : w2.cell? ⟨wr.heap.size, 3, none⟩ = some (.int .i64 xc) := x2.at (by go_simp)
      have a4 : w2.cell? ⟨wr.heap.size, 4, none⟩ = some (.int .i64 xk) := x2.at (by go_simp)
      have a5 : w2.cell? ⟨wr.heap.size, 5, none⟩ = some (.int .i64 xn) := x2.at (by go_simp)
      have a6 : w2.cell? ⟨wr.heap.size, 6, none⟩ = some (.string xs) := x2.at (by go_simp)
      have X2 := Lib.hid (show Ext wr w2 from ((Ext.refl wr).alloc _).trans x2)
      have e2 := cell_lt a0
      clear x2 c0 c1 c2 c3 c4 c5 c6 e0
      go_wp2_with fail
      have HFR2 := Lib.hid (HFR.out.ext X2.out)
      have HRS2 := Lib.hid (HRS.out.ext X2.out)
      have HX2 := Lib.hid (hx.trans X2.out)
      clear HFR HRS HLS hx X2
      go_loopg [10, 38] 0 (fun gk va vi wq => gk = 0 ∧ va = .slice none 0 0 ∧ vi = .int .i64 0 ∧ wq = w2)
      case atStart => exact ⟨rfl, rfl, rfl, rfl⟩
      case round =>
        obtain ⟨rfl, rfl, rfl, rfl⟩ := hrel
        go_wp2_with fail
        refine (apply_col ⟨xo, xa, xb, xc, ⟨xk, xn, xs⟩⟩ HOP.out none 0 0 _ vals _ (HV.out.ext HX2.out.full)).mono ?_
        rintro e w3 ⟨rfl, x3⟩
        dsimp only
        obtain ⟨yy, hyy⟩ : ∃ z, z = colAt vals xc := ⟨_, rfl⟩
        rw [← hyy]
        have HYY := Lib.hid (show k + 1 = M → yy = y from fun e => by rw [hyy]; exact HYK.out e)
        obtain ⟨zk, zn, zs⟩ := yy
        have HFR3 := Lib.hid (HFR2.out.ext x3)
        have HRS3 := Lib.hid (HRS2.out.ext x3)
        have HX3 := Lib.hid (HX2.out.trans x3)
        obtain ⟨⟨o0, p0⟩, f0⟩ := HFR3.out (k * 3) (by omega)
        obtain ⟨⟨o1, p1⟩, f1⟩ := HFR3.out (k * 3 + 1) (by omega)
        obtain ⟨⟨o2, p2'⟩, f2⟩ := HFR3.out (k * 3 + 2) (by omega)
        have e3 := cell_lt p0
        have HGB := Lib.hid (show w.heap.size ≤ g ∧ g ≠ w.heap.size from by have := HG.out; omega)
        clear hyy HYK HFR2 HRS2 HX2 x3 a0 a1 a2 a3 a4 a5 a6 e2
        go_wp2_with fail
        go_roundg (M - (k + 1))
        case measure => omega
        case rel =>
          refine ⟨k + 1, by omega, rfl, by go_num, ((HFR3.out.set _ _).set _ _).set _ _, fun e => ?_, fun j hj => ?_, Below.setCell (Below.setCell (Below.setCell HX3.out HGB.out.1 _) HGB.out.1 _) HGB.out.1 _⟩
          · have h1 := HYY.out e
            have h2 : k = root := by have := HM.out; omega
            subst h2
            rw [← h1]
            refine ⟨?_, ?_, ?_⟩ <;> go_simp
          · obtain ⟨⟨u, hu⟩, hf⟩ := HRS3.out j hj
            exact ⟨⟨u, cell_set (cell_set (cell_set hu HGB.out.2) HGB.out.2) HGB.out.2⟩, by go_simp⟩
    · have hkM : k = M := by omega
      have hd : ¬ (k : Int) < (M : Int) := by omega
      obtain ⟨s0, s1, s2⟩ := HLS.out hkM
      obtain ⟨⟨o0, p0⟩, f0⟩ := HRS.out 0 (by omega)
      obtain ⟨⟨o1, p1⟩, f1⟩ := HRS.out 1 (by omega)
      obtain ⟨⟨o2, p2⟩, f2⟩ := HRS.out 2 (by omega)
      have e3 := cell_lt s0
      have e4 := cell_lt p0
      have HXF := Lib.hid hx
      clear hkM HLS HRS HFR hx
      go_wp2_with fail
      exact bodyPost_ret (v := valV y) (by simp [results, Tryz.results85, go_sem, p0, p1, p2]) rfl ⟨rfl, Below.setCell (Below.setCell (Below.setCell HXF.out (Nat.le_refl _) _) (Nat.le_refl _) _) (Nat.le_refl _) _⟩

end Go.Proofs.YtdgpbpbjlnlijaaGreatDoor

/- algebra.Project of columns, algebra.Aggregate of the count -/
namespace Go.Proofs.YtdgpbpbjlnlijaaGreatDoor
open Go.RowKit

/-- the columns that the keys name -/
def projC (es : List ExprI) (keys : List Int) (vals : List Val) : List Val := keys.map fun k => colAt vals ((es.map ExprI.col).getD k.toNat 0)
theorem proj_take (es : List ExprI) (keys : List Int) (vals : List Val) (k : Nat) (h : k < keys.length) : projC es (keys.take (k + 1)) vals = projC es (keys.take k) vals ++ [colAt vals ((es.map ExprI.col).getD keys[k].toNat 0)] := by
  rw [List.take_succ_eq_append_getElem h]
  unfold projC
  rw [List.map_append]
  rfl
theorem ok_colAt {vals : List Val} (h : ∀ x ∈ vals, okVal x) (c : Int) : okVal (colAt vals c) := by
  unfold colAt
  split
  · rename_i hc
    have hlt : c.toNat < vals.length := by omega
    rw [List.getD_eq_getElem?_getD, List.getElem?_eq_getElem hlt]
    exact h _ (List.getElem_mem hlt)
  · exact ok_nV
theorem vals_ok {h : View} {v : Value} {vs : List Val} (k : SliceOf Rep.val h v vs) : ∀ x ∈ vs, okVal x := by
  intro x hx
  obtain ⟨i, hi, rfl⟩ := List.getElem_of_mem hx
  obtain ⟨p, cap, rfl, _, _, hp⟩ := k.form
  obtain ⟨b, o, rfl⟩ := hp (by decide) (by omega)
  obtain ⟨c, ⟨_, h3⟩, _⟩ := k.at i hi
  exact h3

set_option maxRecDepth 100000 in
set_option maxHeartbeats 4000000 in
theorem project_col (v : Value) (es : List ExprI) (kv : Value) (keys : List Int) (vv : Value) (vals : List Val) (w : World) (he : SliceOf Rep.expr w.cell? v es) (hcol : ∀ e ∈ es, e.op = 2) (hl : es.length ≤ 1000) (hk : SliceOf Rep.int w.cell? kv keys) (hkr : ∀ k ∈ keys, 0 ≤ k ∧ k < es.length) (hkl : keys.length ≤ 1000) (hv : SliceOf Rep.val w.cell? vv vals) :
    Calls Tryz.prog 42 #[v, kv, vv] w fun e w' => ∃ v', e = .returned v' ∧ OwnOf Rep.val w' (fun _ => True) w.heap.size 44 v' (projC es keys vals) ∧ Ext w w' := by
  obtain ⟨i3, hi3, hz30, hz31, hz32⟩ := info_parts info_val3
  obtain ⟨pe, ce, rfl, _⟩ := he.form
  obtain ⟨pv, cv, rfl, _⟩ := hv.form
  obtain ⟨p, cap, rfl, hc1, hc2, hp⟩ := hk.form
  obtain ⟨N, hN⟩ : ∃ N, N = keys.length := ⟨_, rfl⟩
  have HK := Lib.hid hk
  rw [← hN]
  have HN := Lib.hid hN
  have HP := Lib.hid hp
  have HE := Lib.hid he
  have HV := Lib.hid hv
  have HCOL := Lib.hid hcol
  have HKR := Lib.hid hkr
  have HL := Lib.hid hl
  have hNl : N ≤ 1000 := by omega
  clear he hcol hl hk hkr hkl hv hp hc1 hc2 hN
  go_enter Tryz.func42, Tryz.ntmps42
  go_wp2_with fail
  go_loopg [7, 12] N (fun gk vo vi wr => ∃ (k : Nat) (u : Value) (o : List Val), k ≤ N ∧ gk = N - k ∧ vi = .int .i64 k ∧ u = vo ∧ Hid (OwnOf Rep.val wr (fun _ => True) w.heap.size 44 u o) ∧ Hid (o = projC es (keys.take k) vals) ∧ Ext w wr)
  case atStart => exact ⟨0, _, [], by omega, rfl, rfl, rfl, OwnOf.nil _ _ _ _ _, rfl, Ext.refl w⟩
  case round =>
    obtain ⟨k, u, o, hk, rfl, rfl, rfl, OW, AS, hx⟩ := hrel
    by_cases hlt : k < N
    · have hkl : k < keys.length := by have := HN.out; omega
      have hd : decide ((k : Int) < (N : Int)) = true := by simp; omega
      obtain ⟨b, o', rfl⟩ := HP.out (by decide) (by omega)
      have hv := HK.out
      rw [← HN.out] at hv
      obtain ⟨c0, _⟩ := int_at hv k hkl
      replace c0 := hx.at c0
      have hst := proj_take es keys vals k hkl
      have hkr := HKR.out keys[k] (List.getElem_mem hkl)
      have hol : o.length ≤ 1000 := by rw [AS.out]; unfold projC; rw [List.length_map, List.length_take]; omega
      rw [← AS.out] at hst
      generalize keys[k] = x at c0 hst hkr
      obtain ⟨root, rfl⟩ : ∃ r : Nat, x = r := ⟨x.toNat, by omega⟩
      have hrl : root < es.length := by omega
      have hcx : (es.map ExprI.col).getD (Int.toNat (root : Int)) 0 = es[root].col := by
        rw [Int.toNat_natCast, List.getD_eq_getElem?_getD, List.getElem?_map, List.getElem?_eq_getElem hrl]
        rfl
      rw [hcx] at hst
      obtain ⟨y, hy⟩ : ∃ y, y = colAt vals es[root].col := ⟨_, rfl⟩
      have hoy : okVal y := by rw [hy]; exact ok_colAt (vals_ok HV.out) _
      have e0 := cell_lt c0
      have HST := Lib.hid hst
      have HHY := Lib.hid hy
      have HOY := Lib.hid hoy
      have B1 : o.length + 1 ≤ maxLen := by unfold maxLen; omega
      have B2 : (o.length + 1) * 32 ≤ 140737488355328 := by omega
      clear hst hkr hv hol hcx hy hoy
      go_wp2_with fail
      refine (eval_col _ es root _ vals _ (HE.out.ext hx.full) HCOL.out hrl HL.out (HV.out.ext hx.full)).mono ?_
      rintro e w1 ⟨rfl, x1⟩
      rw [← HHY.out]
      have HX1 := Lib.hid x1
      obtain ⟨yk, yn, ys⟩ := y
      clear x1
      dsimp only
      go_wp2_with (at_builtin; go_loud (refine wpList_append_one Rep.val (fun _ => True) rfl _ _ 40 rfl w.heap.size 44 i3 _ 32 Tryz.underlying40 hi3 hz30 hz31 hz32 rfl (by decide) u o rfl (OW.out.ext (HX1.out.alloc _)) ⟨w1.heap.size, 0, none⟩ 1 ⟨yk, yn, ys⟩ [.int .i64 yk, .int .i64 yn, .string ys] rfl ⟨rfl, HOY.out⟩ (by exact cells_new w1 [.int .i64 yk, .int .i64 yn, .string ys] _) B1 B2 (by exact (hx.trans (HX1.out.alloc _)).size) ?_))
      intro g cap3 w3 own gr _
      have hxx : Ext w w3 := Ext.grownNew (hx.trans (HX1.out.alloc _)) gr OW.out.base
      have OW2 := Lib.hid own
      clear own gr
      go_wp2_with fail
      go_roundg (N - (k + 1))
      case measure => omega
      case rel => exact ⟨k + 1, _, _, by omega, rfl, by go_num, rfl, OW2.out, by show _ = _; rw [HST.out, ← HHY.out], hxx⟩
    · have hkN : k = N := by omega
      have hd : ¬ (k : Int) < (N : Int) := by omega
      have HF := Lib.hid (show o = projC es keys vals from by
        have h := AS.out
        rw [hkN, HN.out, List.take_length] at h
        exact h)
      clear hkN
      go_wp2_with fail
      go_ret
      exact ⟨u, rfl, by rw [← HF.out]; exact OW.out, hx⟩

set_option maxRecDepth 100000 in
set_option maxHeartbeats 4000000 in
theorem aggregate_count (v : Value) (pg : Option Addr) (ng cg : Nat) (arg : Int) (w : World) :
    Calls Tryz.prog 92 #[v, .agg #[.int .i64 1, .int .i64 arg], .slice pg ng cg] w fun e w' => e = .returned (valV (intVal ng)) ∧ Ext w w' := by
  go_enter Tryz.func92, Tryz.ntmps92
  go_wp2_with fail
  exact bodyPost_ret (v := valV (intVal ng)) (by simp [results, Tryz.results92, go_sem, valV, intVal]; rfl) rfl ⟨rfl, ((Ext.refl w).alloc _).alloc _⟩

end Go.Proofs.YtdgpbpbjlnlijaaGreatDoor

/- tuple.Boundaries, group.clip -/
namespace Go.Proofs.YtdgpbpbjlnlijaaGreatDoor
open Go.RowKit

theorem bnd_take (l : List Tup) (k : Nat) (h : k < l.length) : bnd (l.take (k + 1)) = bnd (l.take k) ++ if validB l[k].from_ l[k].to_ = true then [l[k].from_, l[k].to_] else [] := by
  rw [List.take_succ_eq_append_getElem h, bnd_append]
  simp only [bnd, List.flatMap_cons, List.flatMap_nil, List.append_nil]
  rfl

set_option maxRecDepth 100000 in
set_option maxHeartbeats 4000000 in
theorem bounds_any (v : Value) (l : List Tup) (w : World) (hv : SliceOf Rep.tup w.cell? v l) (hl : l.length ≤ 1048576) :
    Calls Tryz.prog 44 #[v] w fun e w' => ∃ v', e = .returned v' ∧ OwnOf Rep.int w' (fun _ => True) w.heap.size 3 v' (pts l) ∧ Ext w w' := by
  obtain ⟨i2, hi2, hz20, hz21, hz22⟩ := info_parts info_ints
  obtain ⟨p, cap, rfl, hc1, hc2, hp⟩ := hv.form
  obtain ⟨N, hN⟩ : ∃ N, N = l.length := ⟨_, rfl⟩
  have HV := Lib.hid hv
  rw [← hN]
  have HN := Lib.hid hN
  have HP := Lib.hid hp
  have hNl : N ≤ 1048576 := by omega
  clear hv hN hp hc1 hc2 hl
  go_enter Tryz.func44, Tryz.ntmps44
  go_wp2_with fail
  go_loopg [3, 8] N (fun gk vo vi wr => ∃ (k : Nat) (u : Value) (o : List Int), k ≤ N ∧ gk = N - k ∧ vi = .int .i64 k ∧ u = vo ∧ Hid (OwnOf Rep.int wr (fun _ => True) w.heap.size 3 u o) ∧ Hid (o = bnd (l.take k)) ∧ Ext w wr)
  case atStart => exact ⟨0, _, [], by omega, rfl, rfl, rfl, OwnOf.nil _ _ _ _ _, rfl, Ext.refl w⟩
  case round =>
    obtain ⟨k, u, o, hk, rfl, rfl, rfl, OW, AS, hx⟩ := hrel
    by_cases hlt : k < N
    · have hkl : k < l.length := by have := HN.out; omega
      obtain ⟨b, o', rfl⟩ := HP.out (by decide) (by omega)
      have hv := HV.out
      rw [← HN.out] at hv
      obtain ⟨ta, tb, c0, c1, c2, c3, g0, g1, r1, r2⟩ := tup_at hv k hkl
      obtain ⟨pa, ka, ta', _⟩ := g0.form
      obtain ⟨pb, kb, tb', _⟩ := g1.form
      subst ta' tb'
      replace c0 := hx.at c0
      replace c1 := hx.at c1
      replace c2 := hx.at c2
      replace c3 := hx.at c3
      have hst := bnd_take l k hkl
      have hol : o.length ≤ 2097152 := by
        have h2 := bnd_len (l.take k)
        have h3 := List.length_take_le k l
        rw [AS.out]
        omega
      rw [← AS.out] at hst
      generalize l[k].from_ = f at c1 hst r1
      generalize l[k].to_ = t at c2 hst r2
      generalize l[k].vals.length = na at c0
      generalize l[k].lin.length = nb at c3
      have HST := Lib.hid hst
      have HR := Lib.hid (show okI f ∧ okI t from ⟨r1, r2⟩)
      have B1 : o.length + 2 ≤ maxLen := by unfold maxLen; omega
      have B2 : (o.length + 2) * 8 ≤ 140737488355328 := by omega
      have hd : decide ((k : Int) < (N : Int)) = true := by simp; omega
      have e0 := cell_lt c0
      clear hst g0 g1 r1 r2 hv hol
      go_wp2_with fail
      refine (valid_any f t _).mono ?_
      rintro e w1 ⟨rfl, x1⟩
      have d1 : w1.cell? ⟨wr.heap.size, 1, none⟩ = some (.int .i64 f) := x1.at (by go_simp)
      have d2 : w1.cell? ⟨wr.heap.size, 2, none⟩ = some (.int .i64 t) := x1.at (by go_simp)
      have X1 := Lib.hid (show Ext wr w1 from ((Ext.refl wr).alloc _).trans x1)
      have e1 := cell_lt d1
      clear x1 c0 c1 c2 c3 e0
      cases hvb : validB f t with
      | true =>
        have HVB := Lib.hid hvb
        clear hvb
        go_wp2_with (at_builtin; refine wpList_append_all Rep.int (fun _ => True) rfl _ _ 24 rfl w.heap.size 3 i2 _ 8 Tryz.underlying24 hi2 hz20 hz21 hz22 rfl (by decide) u o rfl (OW.out.ext (X1.out.alloc _)) _ [f, t] rfl (lit_new (R := Rep.int) w1 [.int .i64 f, .int .i64 t] 3 [[.int .i64 f], [.int .i64 t]] [f, t] rfl (fun _ => ⟨⟨rfl, HR.out.1⟩, ⟨rfl, HR.out.2⟩, trivial⟩) (by simp [maxLen]) (fun x hx => Nat.lt_of_lt_of_le (OW.out.lt x hx).2 X1.out.size)) B1 B2 (by exact (hx.trans (X1.out.alloc _)).size) ?_)
        intro v3 w3 own gr _
        have hxx : Ext w w3 := Ext.grownNew (hx.trans (X1.out.alloc _)) gr OW.out.base
        have OW2 := Lib.hid own
        clear own gr d1 d2 e1
        go_wp2_with fail
        go_roundg (N - (k + 1))
        case measure => omega
        case rel => exact ⟨k + 1, v3, _, by omega, rfl, by go_num, rfl, OW2.out, by show _ = _; rw [HST.out, if_pos HVB.out], hxx⟩
      | false =>
        have HVB := Lib.hid hvb
        clear hvb
        go_wp2_with fail
        go_roundg (N - (k + 1))
        case measure => omega
        case rel => exact ⟨k + 1, u, o, by omega, rfl, by go_num, rfl, OW.out.ext X1.out, by show _ = _; rw [HST.out, HVB.out, if_neg (by decide), List.append_nil], hx.trans X1.out⟩
    · have hkN : k = N := by omega
      have hd : ¬ (k : Int) < (N : Int) := by omega
      have HF := Lib.hid (show o = bnd l from by
        have h := AS.out
        rw [hkN, HN.out, List.take_length] at h
        exact h)
      have hol : o.length ≤ 2097152 := by
        have h2 := bnd_len l
        have := HN.out
        rw [HF.out]
        omega
      have HOL := Lib.hid hol
      clear hkN hol
      go_wp2_with fail
      refine (sort_ints (fun _ => True) _ _ _ _ _ OW.out (by have := HOL.out; omega)).mono ?_
      rintro e w4 ⟨rfl, own4, gr4⟩
      have X4 := Lib.hid (Ext.grownNew hx gr4 OW.out.base)
      have OW4 := Lib.hid own4
      clear own4 gr4
      go_wp2_with fail
      refine (compact_ints (fun _ => True) _ _ _ _ _ OW4.out).mono ?_
      rintro e w5 ⟨v5, rfl, own5, gr5⟩
      have X5 := Lib.hid (Ext.grownNew X4.out gr5 OW4.out.base)
      have OW5 := Lib.hid (show OwnOf Rep.int w5 (fun _ => True) w.heap.size 3 v5 (pts l) from by
        have h : pts l = Lib.compact (o.mergeSort fun x y => decide (x ≤ y)) := by unfold pts mergeL; rw [List.append_nil, HF.out]
        rw [h]
        exact own5)
      clear own5 gr5
      go_wp2_with fail
      go_ret
      exact ⟨v5, rfl, OW5.out, X5.out⟩

end Go.Proofs.YtdgpbpbjlnlijaaGreatDoor

/- group.clip -/
namespace Go.Proofs.YtdgpbpbjlnlijaaGreatDoor
open Go.RowKit

theorem clip_take (l : List Tup) (k : Nat) (h : k < l.length) : clipT (l.take (k + 1)) = clipT (l.take k) ++ if interB l[k].from_ l[k].to_ 0 1000000 = true then [⟨l[k].vals, max l[k].from_ 0, min l[k].to_ 1000000, l[k].lin⟩] else [] := by
  rw [List.take_succ_eq_append_getElem h]
  unfold clipT
  rw [List.filterMap_append, List.filterMap_cons, List.filterMap_nil]
  congr 1
  have e : interB l[k].from_ l[k].to_ 0 1000000 = (validB l[k].from_ l[k].to_ && decide (max l[k].from_ 0 < min l[k].to_ 1000000)) := by
    unfold interB
    rw [show validB 0 1000000 = true by decide, Bool.and_true]
  unfold clip1 validT
  rw [e]
  by_cases c : validB l[k].from_ l[k].to_ = true ∧ max l[k].from_ 0 < min l[k].to_ 1000000
  · rw [if_pos c, if_pos (by rw [Bool.and_eq_true, decide_eq_true_eq]; exact c)]
  · rw [if_neg c, if_neg (by rw [Bool.and_eq_true, decide_eq_true_eq]; exact c)]
theorem clip_len (l : List Tup) : (clipT l).length ≤ l.length := List.length_filterMap_le _ _

theorem old_avoidS {w w' : World} {S : Nat → Prop} {u : Value} {α : Type} {R : Rep α} {e : TypeId} {xs : List α} (hS : ∀ x, S x → x < w.heap.size) (hx : Ext w w') (own : OwnOf R w' S w.heap.size e u xs) : Sub (on w S) (on w' (avoid S u)) := fun p v h => by
  obtain ⟨h1, h2⟩ := on_some.1 h
  exact on_some.2 ⟨⟨fun e => by have := (own.lt _ e.symm).1; have := hS _ h1; omega, h1⟩, hx.at h2⟩
set_option maxRecDepth 100000 in
set_option maxHeartbeats 4000000 in
theorem clip_any (v : Value) (l : List Tup) (w : World) (S : Nat → Prop) (hS : ∀ x, S x → x < w.heap.size) (hv : SliceOf Rep.tup (on w S) v l) (hl : l.length ≤ 1048576) (hD : DaysW w) :
    Calls Tryz.prog 41 #[v] w fun e w' => ∃ v', e = .returned v' ∧ OwnOf Rep.tup w' S w.heap.size 77 v' (clipT l) ∧ Ext w w' := by
  obtain ⟨i2, hi2, hz20, hz21, hz22⟩ := info_parts info_tupN
  obtain ⟨p, cap, rfl, hc1, hc2, hp⟩ := hv.form
  obtain ⟨N, hN⟩ : ∃ N, N = l.length := ⟨_, rfl⟩
  have HV := Lib.hid hv
  rw [← hN]
  have HN := Lib.hid hN
  have HP := Lib.hid hp
  have HD := Lib.hid hD
  have HSS := Lib.hid hS
  have hNl : N ≤ 1048576 := by omega
  clear hv hN hp hc1 hc2 hl hD hS
  go_enter Tryz.func41, Tryz.ntmps41
  go_wp2_with fail
  go_loopg [3, 10] N (fun gk vo vi wr => ∃ (k : Nat) (u : Value) (o : List Tup), k ≤ N ∧ gk = N - k ∧ vi = .int .i64 k ∧ u = vo ∧ Hid (OwnOf Rep.tup wr S w.heap.size 77 u o) ∧ Hid (o = clipT (l.take k)) ∧ Ext w wr)
  case atStart => exact ⟨0, _, [], by omega, rfl, rfl, rfl, OwnOf.nil _ _ _ _ _, rfl, Ext.refl w⟩
  case round =>
    obtain ⟨k, u, o, hk, rfl, rfl, rfl, OW, AS, hx⟩ := hrel
    by_cases hlt : k < N
    · have hkl : k < l.length := by have := HN.out; omega
      have hd : decide ((k : Int) < (N : Int)) = true := by simp; omega
      obtain ⟨b, o', rfl⟩ := HP.out (by decide) (by omega)
      have hv := HV.out
      rw [← HN.out] at hv
      obtain ⟨ta, tb, c0, c1, c2, c3, g0, g1, r1, r2⟩ := tup_at hv k hkl
      obtain ⟨pa, ka, ta', _⟩ := g0.form
      obtain ⟨pb, kb, tb', _⟩ := g1.form
      subst ta' tb'
      replace c0 := hx.at (on_some.1 c0).2
      replace c1 := hx.at (on_some.1 c1).2
      replace c2 := hx.at (on_some.1 c2).2
      replace c3 := hx.at (on_some.1 c3).2
      have hst := clip_take l k hkl
      have hol : o.length ≤ 1048576 := by
        rw [AS.out]
        exact Nat.le_trans (clip_len _) (Nat.le_trans (List.length_take_le _ _) (by omega))
      rw [← AS.out] at hst
      generalize l[k] = y at c0 c1 c2 c3 g0 g1 r1 r2 hst
      obtain ⟨vs, f, t, ln⟩ := y
      dsimp only at c0 c1 c2 c3 g0 g1 r1 r2 hst
      have HST := Lib.hid hst
      have G0 := Lib.hid g0
      have G1 := Lib.hid g1
      have HR := Lib.hid (show okI f ∧ okI t from ⟨r1, r2⟩)
      have e0 := cell_lt c0
      obtain ⟨y0, y1⟩ := days_cells (HD.out.ext hx)
      have e9 := cell_lt y0
      clear hst g0 g1 r1 r2 hv
      go_wp2_with fail
      refine (intersect_any f t 0 1000000 _).mono ?_
      rintro e w1 ⟨rfl, x1⟩
      have d0 : w1.cell? ⟨wr.heap.size, 0, none⟩ = some (.slice pa vs.length ka) := x1.at (by go_simp)
      have d1 : w1.cell? ⟨wr.heap.size, 1, none⟩ = some (.int .i64 f) := x1.at (by go_simp)
      have d2 : w1.cell? ⟨wr.heap.size, 2, none⟩ = some (.int .i64 t) := x1.at (by go_simp)
      have d3 : w1.cell? ⟨wr.heap.size, 3, none⟩ = some (.slice pb ln.length kb) := x1.at (by go_simp)
      have u1 : w1.frozen? ⟨wr.heap.size, 1, none⟩ = false := x1.unfrozen (p := ⟨wr.heap.size, 1, none⟩) (v := .int .i64 f) (by go_simp) (by go_simp)
      have u2 : w1.frozen? ⟨wr.heap.size, 2, none⟩ = false := x1.unfrozen (p := ⟨wr.heap.size, 2, none⟩) (v := .int .i64 t) (by go_simp) (by go_simp)
      have X1 := Lib.hid (show Ext wr w1 from ((Ext.refl wr).alloc _).trans x1)
      have e1 := cell_lt d0
      clear x1 c0 c1 c2 c3 e0 y0 y1 e9
      obtain ⟨f', hf'⟩ : ∃ x, x = max f 0 := ⟨_, rfl⟩
      obtain ⟨t', ht'⟩ : ∃ x, x = min t 1000000 := ⟨_, rfl⟩
      have HFT := Lib.hid (And.intro hf' ht')
      cases hib : interB f t 0 1000000 with
      | true =>
        have HIB := Lib.hid hib
        have hok : okI f' ∧ okI t' := by have := HR.out; unfold okI at *; omega
        have HOK := Lib.hid hok
        rw [interV_yes hib hf' ht']
        unfold perV
        have B1 : o.length + 1 ≤ maxLen := by unfold maxLen; omega
        have B2 : (o.length + 1) * 64 ≤ 140737488355328 := by omega
        clear hib hok hf' ht'
        have XW0 : Ext wr (((w1.setCell ⟨wr.heap.size, 1, none⟩ (.int .i64 f')).setCell ⟨wr.heap.size, 2, none⟩ (.int .i64 t')).alloc (.cells #[.int .i64 f', .int .i64 t'] 52)) := Ext.alloc (Below.setCell (Below.setCell X1.out (Nat.le_refl _) _) (Nat.le_refl _) _) _
        have hsz : (((w1.setCell ⟨wr.heap.size, 1, none⟩ (.int .i64 f')).setCell ⟨wr.heap.size, 2, none⟩ (.int .i64 t')).alloc (.cells #[.int .i64 f', .int .i64 t'] 52)).heap.size = w1.heap.size + 1 := by simp
        have HXW := Lib.hid (And.intro XW0 hsz)
        clear XW0 hsz
        have HC := Lib.hid (show ∀ (j : Nat) (z : Value), [.slice pa vs.length ka, .int .i64 f', .int .i64 t', .slice pb ln.length kb][j]? = some z → ((((w1.setCell ⟨wr.heap.size, 1, none⟩ (.int .i64 f')).setCell ⟨wr.heap.size, 2, none⟩ (.int .i64 t')).alloc (.cells #[.int .i64 f', .int .i64 t'] 52)).alloc (.cells #[.slice pa vs.length ka, .int .i64 f', .int .i64 t', .slice pb ln.length kb] 77)).cell? ((⟨w1.heap.size + 1, 0, none⟩ : Addr).add j) = some z from by
          have h := cells_new (((w1.setCell ⟨wr.heap.size, 1, none⟩ (.int .i64 f')).setCell ⟨wr.heap.size, 2, none⟩ (.int .i64 t')).alloc (.cells #[.int .i64 f', .int .i64 t'] 52)) [.slice pa vs.length ka, .int .i64 f', .int .i64 t', .slice pb ln.length kb] 77
          rw [HXW.out.2] at h
          exact h)
        have HH := Lib.hid (show Rep.tup.holds (on ((((w1.setCell ⟨wr.heap.size, 1, none⟩ (.int .i64 f')).setCell ⟨wr.heap.size, 2, none⟩ (.int .i64 t')).alloc (.cells #[.int .i64 f', .int .i64 t'] 52)).alloc (.cells #[.slice pa vs.length ka, .int .i64 f', .int .i64 t', .slice pb ln.length kb] 77)) (avoid S u)) [.slice pa vs.length ka, .int .i64 f', .int .i64 t', .slice pb ln.length kb] ⟨vs, f', t', ln⟩ from by
          have hs : Sub (on w S) (on ((((w1.setCell ⟨wr.heap.size, 1, none⟩ (.int .i64 f')).setCell ⟨wr.heap.size, 2, none⟩ (.int .i64 t')).alloc (.cells #[.int .i64 f', .int .i64 t'] 52)).alloc (.cells #[.slice pa vs.length ka, .int .i64 f', .int .i64 t', .slice pb ln.length kb] 77)) (avoid S u)) := old_avoidS HSS.out (hx.trans (HXW.out.1.alloc _)) (OW.out.ext (HXW.out.1.alloc _))
          exact ⟨_, _, rfl, G0.out.ext hs, G1.out.ext hs, HOK.out.1, HOK.out.2⟩)
        go_wp2_with (at_builtin; refine wpList_append_one Rep.tup S rfl _ _ 22 rfl w.heap.size 77 i2 _ 64 Tryz.underlying22 hi2 hz20 hz21 hz22 rfl (by decide) u o rfl (OW.out.ext (HXW.out.1.alloc _)) ⟨w1.heap.size + 1, 0, none⟩ 1 ⟨vs, f', t', ln⟩ [.slice pa vs.length ka, .int .i64 f', .int .i64 t', .slice pb ln.length kb] rfl HH.out HC.out B1 B2 (by exact (hx.trans (HXW.out.1.alloc _)).size) ?_)
        intro g cap3 w3 own gr _
        have hxx : Ext w w3 := Ext.grownNew (hx.trans (HXW.out.1.alloc _)) gr OW.out.base
        have OW2 := Lib.hid own
        clear own gr d0 d1 d2 d3 e1 HC HH
        go_wp2_with fail
        go_roundg (N - (k + 1))
        case measure => omega
        case rel => exact ⟨k + 1, _, o ++ [(⟨vs, f', t', ln⟩ : Tup)], by omega, rfl, by go_num, rfl, OW2.out, by show _ = _; rw [HST.out, if_pos HIB.out, HFT.out.1, HFT.out.2], hxx⟩
      | false =>
        have HIB := Lib.hid hib
        rw [interV_no hib]
        unfold perV
        clear hib hf' ht'
        go_wp2_with fail
        go_roundg (N - (k + 1))
        case measure => omega
        case rel => exact ⟨k + 1, u, o, by omega, rfl, by go_num, rfl, OW.out.ext (X1.out.alloc _), by show _ = _; rw [HST.out, HIB.out, if_neg (by decide), List.append_nil], hx.trans (X1.out.alloc _)⟩
    · have hkN : k = N := by omega
      have hd : ¬ (k : Int) < (N : Int) := by omega
      have HF := Lib.hid (show o = clipT l from by
        have h := AS.out
        rw [hkN, HN.out, List.take_length] at h
        exact h)
      clear hkN
      go_wp2_with fail
      go_ret
      exact ⟨u, rfl, by rw [← HF.out]; exact OW.out, hx⟩

end Go.Proofs.YtdgpbpbjlnlijaaGreatDoor

/- bag.runs -/
namespace Go.Proofs.YtdgpbpbjlnlijaaGreatDoor
open Go.RowKit Go.Deep

/-- rows in runs of equal values: each run is whole -/
inductive Runs : List (List Row) → Prop
  | nil : Runs []
  | snoc (rs : List (List Row)) (run : List Row) (v : List Val) : Runs rs → run ≠ [] → (∀ r ∈ run, r.vals = v) → (∀ p, rs.flatten.getLast? = some p → p.vals ≠ v) → Runs (rs ++ [run])
theorem Runs.at {rs : List (List Row)} (h : Runs rs) (t : Nat) (ht : t < rs.length) : ∃ v, rs[t] ≠ [] ∧ (∀ r ∈ rs[t], r.vals = v) ∧ ∀ p, (rs.take t).flatten.getLast? = some p → p.vals ≠ v := by
  induction h with
  | nil => simp at ht
  | snoc rs run v h1 h2 h3 h4 ih =>
    by_cases hlt : t < rs.length
    · obtain ⟨v', g1, g2, g3⟩ := ih hlt
      have e : (rs ++ [run])[t] = rs[t] := List.getElem_append_left hlt
      rw [e, List.take_append_of_le_length (by omega)]
      exact ⟨v', g1, g2, g3⟩
    · have : t = rs.length := by simp at ht; omega
      subst this
      have e : (rs ++ [run])[rs.length] = run := by simp
      rw [e]
      refine ⟨v, h2, h3, ?_⟩
      rw [List.take_left']
      · exact h4
      · rfl
/-- .. up to the k-th row -/
def RunsTo (l : List Row) (k : Nat) (done : List (List Row)) (cur : List Row) : Prop :=
  ∃ v, Runs done ∧ cur ≠ [] ∧ (∀ r ∈ cur, r.vals = v) ∧ (∀ p, done.flatten.getLast? = some p → p.vals ≠ v) ∧ done.flatten ++ cur = l.take k
theorem RunsTo.start (l : List Row) (h : 0 < l.length) : RunsTo l 1 [] [l[0]] :=
  ⟨l[0].vals, .nil, by simp, by simp, by simp, by rw [List.take_succ_eq_append_getElem h]; simp⟩
theorem RunsTo.last {l : List Row} {k : Nat} {done : List (List Row)} {cur : List Row} (h : RunsTo l k done cur) (hk : 0 < k) (hkl : k ≤ l.length) : (∀ r ∈ cur, r.vals = (l[k - 1]'(by omega)).vals) ∧ cur.getLast? = some (l[k - 1]'(by omega)) := by
  obtain ⟨v, h1, h2, h3, h4, h5⟩ := h
  have e : (l.take k).getLast? = some (l[k - 1]'(by omega)) := by
    rw [List.getLast?_take]
    rw [if_neg (by omega), List.getElem?_eq_getElem (by omega)]
    rfl
  have e2 : cur.getLast? = some (l[k - 1]'(by omega)) := by
    rw [← h5, List.getLast?_append] at e
    cases hc : cur.getLast? with
    | none => exact (h2 (List.getLast?_eq_none_iff.1 hc)).elim
    | some x => rw [hc] at e; simpa using e
  have e3 : (l[k - 1]'(by omega)).vals = v := h3 _ (List.mem_of_getLast? e2)
  exact ⟨by rw [e3]; exact h3, e2⟩
theorem RunsTo.same {l : List Row} {k : Nat} {done : List (List Row)} {cur : List Row} (h : RunsTo l k done cur) (hk : 0 < k) (hkl : k < l.length) (he : (l[k - 1]'(by omega)).vals = l[k].vals) : RunsTo l (k + 1) done (cur ++ [l[k]]) := by
  obtain ⟨g1, g2⟩ := h.last hk (by omega)
  obtain ⟨v, h1, h2, h3, h4, h5⟩ := h
  have hv : l[k].vals = v := by rw [← he]; exact h3 _ (List.mem_of_getLast? g2)
  refine ⟨v, h1, by simp, fun r hr => ?_, h4, ?_⟩
  · rcases List.mem_append.1 hr with hr | hr
    · exact h3 r hr
    · rw [List.mem_singleton.1 hr]; exact hv
  · rw [List.take_succ_eq_append_getElem hkl, ← List.append_assoc, h5]
theorem RunsTo.close {l : List Row} {k : Nat} {done : List (List Row)} {cur : List Row} (h : RunsTo l k done cur) : Runs (done ++ [cur]) ∧ (done ++ [cur]).flatten = l.take k := by
  obtain ⟨v, h1, h2, h3, h4, h5⟩ := h
  refine ⟨.snoc _ _ v h1 h2 h3 h4, ?_⟩
  rw [List.flatten_append]
  simpa using h5
theorem RunsTo.next {l : List Row} {k : Nat} {done : List (List Row)} {cur : List Row} (h : RunsTo l k done cur) (hk : 0 < k) (hkl : k < l.length) (he : (l[k - 1]'(by omega)).vals ≠ l[k].vals) : RunsTo l (k + 1) (done ++ [cur]) [l[k]] := by
  obtain ⟨g1, g2⟩ := h.last hk (by omega)
  obtain ⟨h1, h2⟩ := h.close
  refine ⟨l[k].vals, h1, by simp, by simp, fun p hp => ?_, ?_⟩
  · rw [List.flatten_append, List.getLast?_append] at hp
    simp only [List.flatten_cons, List.flatten_nil, List.append_nil] at hp
    rw [g2] at hp
    simp at hp
    rw [← hp]
    exact he
  · rw [List.take_succ_eq_append_getElem hkl, h2]

/-- the row of runs while its last run grows: that one's cells are the call's own too -/
structure RunsAt (w : World) (base : Nat) (e1 e2 : TypeId) (v u : Value) (done : List (List Row)) (cur : List Row) : Prop where
  us : ∃ css, RepAll (Rep.slice Rep.row) (on w (fun k => some k ≠ v.ownBlock ∧ some k ≠ u.ownBlock)) css done ∧ w.ownsRow base e1 1 v (done.length + 1) (css.flatten ++ [u])
  cur : OwnOf Rep.row w (fun k => k < base) base e2 u cur
  ne : ∀ k, u.ownBlock = some k → v.ownBlock ≠ some k
theorem vslice_own {w : World} {base : Nat} {e : TypeId} {size : Nat} {v : Value} {n : Nat} {xs : List Value} (h : w.ownsRow base e size v n xs) : VSlice (on w (fun k => v.ownBlock = some k)) v n xs := by
  rcases h.2 with ⟨hv, h0⟩ | ⟨g, cap, cur, hv, hb, hg, h1, h2, _, _⟩
  · subst h0
    exact .inl ⟨hv, rfl, List.eq_nil_of_length_eq_zero (by rw [h.1]; simp)⟩
  · refine .inr ⟨_, cap, hv, h1, h2, .inr ⟨g, 0, rfl, fun j u hj => on_some.2 ⟨by rw [hv]; rfl, ?_⟩⟩⟩
    have := h.cells (g := g) (by rw [hv]; rfl) j u hj
    rwa [add_lit] at this
theorem RunsAt.whole {w : World} {base : Nat} {e1 e2 : TypeId} {v u : Value} {done : List (List Row)} {cur : List Row} (h : RunsAt w base e1 e2 v u done cur) : OwnOf (Rep.slice Rep.row) w (fun _ => True) base e1 v (done ++ [cur]) := by
  obtain ⟨⟨css, h1, h2⟩, h3, h4⟩ := h
  obtain ⟨dss, h5, h6⟩ := h3
  refine ⟨css ++ [[u]], (h1.ext (on_mono _ fun k _ hk => ⟨hk.1, trivial⟩)).append (RepAll.one ⟨u, rfl, dss, h5.ext (on_mono _ fun k _ hk => ⟨fun he => ?_, trivial⟩), (vslice_own h6).sub (on_mono _ fun k _ hk => ⟨fun he => h4 k hk he.symm, trivial⟩)⟩), ?_⟩
  · have := (h2.lt k he.symm).1
    have := hk.2
    omega
  · rw [show (Rep.slice Rep.row).size = 1 from rfl]
    simpa using h2
section
variable {P : Program} {w : World} {ops : Array Oper} {rest : List Oper} {o : Oper} {a : Act} {Q : Exit → Act → World → Prop}
/-- 'append(out, nil)': a new run is begun -/
theorem wpList_append_run (hgd : o.guard = none) (s x : Operand) (t : TypeId)
    (ho : o.op = .call { callee := .builtin .append, args := #[s, x], argTypes := #[t, t] })
    (base : Nat) (e e2 : TypeId) (i : TypeInfo) (z : Value) (ht : P.underlying t = some (.slice e)) (hi : P.info? e = some i) (hz : i.zero = some z)
    (hsize : i.size = 1) (hby : i.bytes = 24) (hzs : z.cells.size = 1)
    (v : Value) (rs : List (List Row)) (hs : a.eval s = v) (hown : OwnOf (Rep.slice Rep.row) w (fun _ => True) base e v rs)
    (ad : Addr) (c : Nat) (hx : a.eval x = .slice (some ad) 1 c) (hnews : w.cell? (ad.add 0) = some (.slice none 0 0))
    (h63 : rs.length + 1 ≤ 1048577) (hbase : base ≤ w.heap.size)
    (h : ∀ g cap w', RunsAt w' base e e2 (.slice (some ⟨g, 0, none⟩) (rs.length + 1) cap) (.slice none 0 0) rs [] → w.grownBy w' v.ownBlock → wpList P ops Q rest (a.put o.dst (.slice (some ⟨g, 0, none⟩) (rs.length + 1) cap)) w') : wpList P ops Q (o :: rest) a w := by
  have hlt := hown.lt
  obtain ⟨css, h1, h2⟩ := hown
  refine wpList_append_lies w hgd s x t ho base e i z 1 24 ht hi hz hsize hby hzs (by decide) v rs.length css.flatten hs h2 ad 1 c [.slice none 0 0] hx (by simp) (fun j u hj => ?_) (fun u hu => ?_) (by omega) (by unfold maxLen; omega) (by omega) hbase w.heap.size rfl
    fun g cap w' g1 g2 g3 _ => h g cap w' ⟨⟨css, h1.ext ?_, g1⟩, OwnOf.nil _ _ _ _ _, fun k hk => by cases hk⟩ g2
  · cases j with
    | zero => simp at hj; rw [← hj]; exact hnews
    | succ j => simp at hj
  · rw [List.mem_singleton.1 hu]; rfl
  · intro p u e
    obtain ⟨e1, e2⟩ := on_some.1 e
    have hp := World.block_lt_of_cell? w p e2
    refine on_some.2 ⟨⟨fun he => ?_, fun he => by cases he⟩, g2.cell e2 e1.1⟩
    injection he with he
    simp only at he
    rcases g3 with g3 | g3
    · exact e1.1 (by rw [g3, he])
    · omega
theorem step_append_one {α : Type} {K : Act → World → Prop} {E : Prop} (R : Rep α) (S : Nat → Prop) (hgd : o.guard = none) (s x : Operand) (t : TypeId)
    (ho : o.op = .call { callee := .builtin .append, args := #[s, x], argTypes := #[t, t] })
    (base : Nat) (e : TypeId) (i : TypeInfo) (z : Value) (bytes : Nat) (ht : P.underlying t = some (.slice e)) (hi : P.info? e = some i) (hz : i.zero = some z)
    (hsize : i.size = R.size) (hby : i.bytes = bytes) (hzs : z.cells.size = R.size) (hsz : 0 < R.size)
    (v : Value) (xs : List α) (hs : a.eval s = v) (hown : OwnOf R w S base e v xs)
    (ad : Addr) (c : Nat) (y : α) (news : List Value) (hx : a.eval x = .slice (some ad) 1 c) (hy : R.holds (on w (avoid S v)) news y) (hnews : ∀ j u, news[j]? = some u → w.cell? (ad.add j) = some u)
    (h63 : xs.length + 1 ≤ maxLen) (hbytes : (xs.length + 1) * bytes ≤ 140737488355328) (hbase : base ≤ w.heap.size)
    (h : ∀ g cap w', OwnOf R w' S base e (.slice (some ⟨g, 0, none⟩) (xs.length + 1) cap) (xs ++ [y]) → w.grownBy w' v.ownBlock → (v.ownBlock = some g ∨ g = w.heap.size) → K (a.put o.dst (.slice (some ⟨g, 0, none⟩) (xs.length + 1) cap)) w') :
    if Region.wanted o (yielded ops a.tmps) = true then Oper.wp P o a w K Q else E := by
  obtain ⟨css, h1, h2⟩ := hown
  exact step_append_lies w hgd s x t ho base e i z R.size bytes ht hi hz hsize hby hzs hsz v xs.length css.flatten hs h2 ad 1 c news hx (by rw [R.len hy, Nat.one_mul]) hnews (R.one hy) (by omega) h63 hbytes hbase w.heap.size rfl
    fun g cap w' g1 g2 g3 _ => h g cap w' (OwnOf.push h1 hy g1 g2 g3) g2 g3
end
/-- behind the append to the last run and the store -/
theorem RunsAt.push {w w3 : World} {base : Nat} {e1 e2 : TypeId} {u u' : Value} {g cap : Nat} {done : List (List Row)} {cur cur' : List Row} (h : RunsAt w base e1 e2 (.slice (some ⟨g, 0, none⟩) (done.length + 1) cap) u done cur) (hown : OwnOf Rep.row w3 (fun k => k < base) base e2 u' cur') (hg : w.grownBy w3 u.ownBlock) (hat : u'.ownBlock = u.ownBlock ∨ u'.ownBlock = some w.heap.size) :
    RunsAt (w3.setCell ⟨g, done.length, none⟩ u') base e1 e2 (.slice (some ⟨g, 0, none⟩) (done.length + 1) cap) u' done cur' := by
  obtain ⟨⟨css, h1, h2⟩, h3, h4⟩ := h
  have hgl := h2.lt g rfl
  have hgu : some g ≠ u'.ownBlock := fun e => by
    rcases hat with hat | hat
    · exact h4 g (by rw [← hat, ← e]) rfl
    · rw [hat] at e; injection e with e; omega
  have hgu0 : some g ≠ u.ownBlock := fun e => h4 g e.symm rfl
  have hlen : css.flatten.length = done.length := by rw [h1.flat]; simp [Rep.slice]
  have h5 := ((h2.kept hg (.inr fun e => hgu0 (by rw [← e]; rfl))).stored done.length u').1
  refine ⟨⟨css, h1.ext ?_, by rw [List.set_append, if_neg (by omega), hlen, Nat.sub_self] at h5; exact h5⟩, ?_, fun k hk he => hgu (by rw [hk]; exact he)⟩
  · intro p x e
    obtain ⟨⟨e1, e2⟩, e3⟩ := on_some.1 e
    have hp := World.block_lt_of_cell? w p e3
    refine on_some.2 ⟨⟨e1, fun he => ?_⟩, cell_set (hg.cell e3 e2) fun e => e1 (by rw [← e]; rfl)⟩
    rcases hat with hat | hat
    · exact e2 (by rw [he, hat])
    · rw [hat] at he; injection he with he; omega
  · obtain ⟨dss, h6, h7⟩ := hown
    refine ⟨dss, h6.ext (set_sub _ _ _ fun hh => ?_), ownsRow_setCell_other h7 (fun e => hgu e.symm) u'⟩
    have := hh.2
    simp at this
    omega

theorem infoRows : (Tryz.prog.info? 35).map (fun i => (i.zero, i.size, i.bytes)) = some (some (.slice none 0 0), 1, 24) := by kernel_rfl

theorem grown_cell {w w' : World} {row : Option Nat} {p : Addr} {v : Value} (hg : w.grownBy w' row) (h : w.cell? p = some v) (hf : w.frozen? p = false) (hne : some p.block ≠ row) : w'.cell? p = some v ∧ w'.frozen? p = false :=
  ⟨hg.cell h hne, (World.frozen?_of_block (hg.block _ (World.block_lt_of_cell? w p h) hne)).trans hf⟩
theorem RunsAt.ext {w w' : World} {base : Nat} {e1 e2 : TypeId} {v u : Value} {done : List (List Row)} {cur : List Row} (h : RunsAt w base e1 e2 v u done cur) (hx : Ext w w') : RunsAt w' base e1 e2 v u done cur := by
  obtain ⟨⟨css, h1, h2⟩, h3, h4⟩ := h
  exact ⟨⟨css, h1.ext (hx.sub _), own_ext h2 hx⟩, h3.ext hx, h4⟩
theorem RunsAt.lit {w : World} {base : Nat} {e1 e2 : TypeId} {g n cap : Nat} {u : Value} {done : List (List Row)} {cur : List Row} (h : RunsAt w base e1 e2 (.slice (some ⟨g, 0, none⟩) n cap) u done cur) :
    base ≤ g ∧ g < w.heap.size ∧ w.cell? ⟨g, done.length, none⟩ = some u ∧ w.frozen? ⟨g, done.length, none⟩ = false ∧ some g ≠ u.ownBlock ∧ ∀ k, u.ownBlock = some k → base ≤ k ∧ k < w.heap.size := by
  obtain ⟨⟨css, h1, h2⟩, h3, h4⟩ := h
  have hn : n = done.length + 1 := by
    rcases h2.2 with ⟨e, _⟩ | ⟨_, _, _, e, _⟩
    · cases e
    · injection e
  subst hn
  have hl := h2.lt g rfl
  have hlen : css.flatten.length = done.length := by rw [h1.flat]; simp [Rep.slice]
  refine ⟨hl.1, hl.2, ?_, h2.frozenAt _, fun e => h4 g e.symm rfl, h3.lt⟩
  rw [h2.cellAt _ (by omega), List.getElem?_append_right (by omega), hlen, Nat.sub_self]
  rfl
theorem RunsAt.form {w : World} {base : Nat} {e1 e2 : TypeId} {v u : Value} {done : List (List Row)} {cur : List Row} (h : RunsAt w base e1 e2 v u done cur) :
    (∃ g cap, v = .slice (some ⟨g, 0, none⟩) (done.length + 1) cap) ∧ ∃ a cap, u = .slice a cur.length cap := by
  obtain ⟨⟨css, h1, h2⟩, h3, h4⟩ := h
  obtain ⟨g, cap, e, _⟩ := own_cells h2 (by omega)
  obtain ⟨a, c, e2, _⟩ := h3.slice.form
  exact ⟨⟨g, cap, e⟩, a, c, e2⟩
theorem Runs.few {rs : List (List Row)} (h : Runs rs) : rs.length ≤ rs.flatten.length := by
  induction h with
  | nil => simp
  | snoc rs run v h1 h2 h3 h4 ih =>
    have := List.length_pos_iff.2 h2
    simp at ih ⊢
    omega
theorem RunsTo.lens {l : List Row} {k : Nat} {done : List (List Row)} {cur : List Row} (h : RunsTo l k done cur) (hk : k ≤ l.length) : done.length + cur.length ≤ k := by
  obtain ⟨v, h1, _, _, _, h5⟩ := h
  have := h1.few
  have h6 : (done.flatten ++ cur).length = k := by rw [h5]; simp; omega
  rw [List.length_append] at h6
  omega

end Go.Proofs.YtdgpbpbjlnlijaaGreatDoor
