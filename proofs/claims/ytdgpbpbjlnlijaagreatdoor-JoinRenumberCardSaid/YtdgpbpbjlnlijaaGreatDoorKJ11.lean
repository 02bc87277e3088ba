/- joined texts of a proof: EvalE, IsTrue, HeapA, ShelfC, StabX, PairA -/
import Derived.Test.YtdgpbpbjlnlijaaGreatDoorKJ10
import Derived.Test.YtdgpbpbjlnlijaaGreatDoorKJ03
import Derived.Test.YtdgpbpbjlnlijaaGreatDoorKJ01
import Derived.Test.YtdgpbpbjlnlijaaGreatDoorKJ05
import Derived.Shelf.SlSortCmp.KitK
import Derived.Sort.WalkB2
import Derived.Sort.WalkB12
import Derived.Deep.LoopGhost
import Derived.Ground.SlsfProg
import Derived.Shelf.SlSortCmp.WholeK
import Derived.Shelf.Spec.SlicesGrow
import Derived.Ground.Names8Prog
import Derived.Test.YtdgpbpbjlnlijaaGreatDoorProg
import Derived.Shelf.SlSortCmp.PdqK
import Derived.Test.YtdgpbpbjlnlijaaGreatDoorKJ06
import Derived.Test.YtdgpbpbjlnlijaaGreatDoorKJ02

/- expr.Eval of any expression -/
namespace Go.Proofs.YtdgpbpbjlnlijaaGreatDoor
open Go.RowKit

/-- a value lies at place j of the block -/
def VC (w : World) (g j : Nat) (y : Val) : Prop := w.cell? ⟨g, j * 3, none⟩ = some (.int .i64 y.kind) ∧ w.cell? ⟨g, j * 3 + 1, none⟩ = some (.int .i64 y.n) ∧ w.cell? ⟨g, j * 3 + 2, none⟩ = some (.string y.s)
theorem VC.ext {w w' : World} {g j : Nat} {y : Val} (h : VC w g j y) (hx : Ext w w') : VC w' g j y := ⟨hx.at h.1, hx.at h.2.1, hx.at h.2.2⟩
theorem VC.far {w : World} {g j k r : Nat} {y : Val} {u : Value} (h : VC w g j y) (hr : r < 3) (hne : j ≠ k) : VC (w.setCell ⟨g, k * 3 + r, none⟩ u) g j y := by
  have h1 : ∀ s, s < 3 → (⟨g, k * 3 + r, none⟩ : Addr) ≠ ⟨g, j * 3 + s, none⟩ := fun s hs e => by
    injection e with _ e _
    omega
  refine ⟨?_, ?_, ?_⟩
  · rw [World.cell?_setCell_other _ _ _ _ (by exact h1 0 (by omega))]; exact h.1
  · rw [World.cell?_setCell_other _ _ _ _ (by exact h1 1 (by omega))]; exact h.2.1
  · rw [World.cell?_setCell_other _ _ _ _ (by exact h1 2 (by omega))]; exact h.2.2
theorem VC.put {w : World} {g M k : Nat} {f : Nat → Val} (F : FreeN w g (M * 3)) (h : ∀ j, j < M → VC w g j (f j)) (hk : k < M) (y : Val) :
    ∀ j, j < M → VC (((w.setCell ⟨g, k * 3, none⟩ (.int .i64 y.kind)).setCell ⟨g, k * 3 + 1, none⟩ (.int .i64 y.n)).setCell ⟨g, k * 3 + 2, none⟩ (.string y.s)) g j (if j = k then y else f j) := by
  intro j hj
  by_cases e : j = k
  · subst e
    rw [if_pos rfl]
    obtain ⟨⟨o0, p0⟩, f0⟩ := F (j * 3) (by omega)
    obtain ⟨⟨o1, p1⟩, f1⟩ := F (j * 3 + 1) (by omega)
    obtain ⟨⟨o2, p2⟩, f2⟩ := F (j * 3 + 2) (by omega)
    refine ⟨?_, ?_, ?_⟩ <;> go_simp
  · rw [if_neg e]
    exact ((((h j hj).far (r := 0) (by omega) e).far (r := 1) (by omega) e).far (r := 2) (by omega) e)
theorem made3 (a b c : Value) (n j r : Nat) (h : j < n) (hr : r < 3) : (madeCells #[a, b, c] (n * 3)).toList[j * 3 + r]? = some (#[a, b, c][r]!) := by
  unfold madeCells
  rw [Array.toList_map, List.getElem?_map, Array.toList_range, List.getElem?_range (by omega)]
  have e : (j * 3 + r) % (#[a, b, c] : Array Value).size = r := by
    show (j * 3 + r) % 3 = r
    omega
  show some ((#[a, b, c])[(j * 3 + r) % (#[a, b, c] : Array Value).size]!) = _
  rw [e]
theorem evalAll_put (es : List ExprI) (row : List Val) (k j : Nat) : (evalAll es row (k + 1)).getD j nV = if j = k then stepE row (evalAll es row k) es[k]! else (evalAll es row k).getD j nV := by
  by_cases e : j = k
  · subst e; rw [if_pos rfl, evalAll_get es row (j + 1) j (by omega)]
  · rw [if_neg e, evalAll, List.getD_eq_getElem?_getD, List.getD_eq_getElem?_getD]
    by_cases c : j < k
    · rw [List.getElem?_append_left (by rw [evalAll_len]; exact c)]
    · rw [List.getElem?_eq_none (by rw [List.length_append, evalAll_len]; simp; omega), List.getElem?_eq_none (by rw [evalAll_len]; omega)]
theorem expr_ok {h : View} {v : Value} {xs : List ExprI} (k : SliceOf Rep.expr h v xs) : ∀ x ∈ xs, (okI x.a ∧ okI x.b) ∧ okVal x.c := by
  intro x hx
  obtain ⟨i, hi, rfl⟩ := List.getElem_of_mem hx
  obtain ⟨p, cap, rfl, _, _, hp⟩ := k.form
  obtain ⟨b, o, rfl⟩ := hp (by decide) (by omega)
  obtain ⟨c, ⟨rfl, h1, h2⟩, _⟩ := k.at i hi
  exact ⟨⟨h1.2.1, h1.2.2.1⟩, h2⟩
theorem legalE_iff (i : Nat) (x : ExprI) : legalE i x = true ↔ ∀ o ∈ opsE x, 0 ≤ o ∧ o < i := by
  unfold legalE
  rw [List.all_eq_true]
  constructor
  · intro h o ho; have := h o ho; simp only [Bool.and_eq_true, decide_eq_true_eq] at this; exact this
  · intro h o ho; simp only [Bool.and_eq_true, decide_eq_true_eq]; exact h o ho
theorem opsE_ok {x : ExprI} (h : okI x.a ∧ okI x.b) : ∀ o ∈ opsE x, okI o := by
  intro o ho
  have := List.mem_of_mem_take ho
  simp only [List.mem_cons, List.not_mem_nil, or_false] at this
  rcases this with rfl | rfl
  · exact h.1
  · exact h.2

set_option maxRecDepth 100000 in
set_option maxHeartbeats 8000000 in
theorem eval_in (v : Value) (es : List ExprI) (root : Nat) (vv : Value) (vals : List Val) (w : World) (he : SliceOf Rep.expr w.cell? v es) (hr : root < es.length) (hl : es.length ≤ 1000) (hv : SliceOf Rep.val w.cell? vv vals) :
    Calls Tryz.prog 85 #[v, .int .i64 root, vv] w fun e w' => e = .returned (valV (evalE es root vals)) ∧ Ext w w' := by
  obtain ⟨i3, hi3, hz30, hz31, hz32⟩ := info_parts info_val3
  have HXO := Lib.hid (expr_ok he)
  have HVO := Lib.hid (vals_ok hv)
  obtain ⟨p, cap, rfl, hc1, hc2, hp⟩ := he.form
  obtain ⟨q, qc, rfl, _⟩ := hv.form
  obtain ⟨bb, ob, rfl⟩ := hp (by decide) (by omega)
  obtain ⟨y, hy⟩ : ∃ y, y = evalE es root vals := ⟨_, rfl⟩
  rw [← hy]
  have HY := Lib.hid hy
  obtain ⟨N, hN⟩ : ∃ N, N = es.length := ⟨_, rfl⟩
  have HE := Lib.hid he
  rw [← hN] at HE hc1 ⊢
  have HV := Lib.hid hv
  have HN := Lib.hid hN
  obtain ⟨M, hM⟩ : ∃ M, M = root + 1 := ⟨_, rfl⟩
  have HM := Lib.hid hM
  have hMN : M ≤ N := by omega
  have hM1 : M ≤ 1000 := by omega
  have em : (root : Int) + 1 = (M : Int) := by omega
  have hw1 : IntKind.i64.wrap (M : Int) = (M : Int) := by rw [IntKind.wrap_i64]; omega
  have hd0 : decide ((root : Int) < 0) = false := by simp
  have hd1 : decide ((N : Int) ≤ (root : Int)) = false := by simp; omega
  have hrM : (root : Int) < (M : Int) := by omega
  have hMc : M ≤ cap := by omega
  have hMc' : (M : Int) ≤ (cap : Int) := by omega
  have hM0 : 0 < M := by omega
  clear he hv hN hl hy hM hc2 hp
  go_enter Tryz.func85, Tryz.ntmps85
  go_wp2_with fail
  go_step3
  go_wp2_with (at_make; go_loud (refine wpList_make_full _ rfl _ _ 40 rfl w.heap.size 44 i3 _ 3 Tryz.underlying40 hi3 hz30 hz31 .i64 .i64 (M : Int) (M : Int) M rfl rfl rfl rfl (by rw [hz32]; omega) (by unfold maxLen; omega) (by simp) ?_))
  intro w1 own1 gr1
  have hF1 := FreeN.made own1
  have hC1 : ∀ j, j < M → VC w1 (w.heap.size + 1) j nV := fun j hj => by
    obtain ⟨g', cap', e1, _, _, _, _, hc⟩ := own_cells own1 hM0
    injection e1 with e1
    injection e1 with e1
    injection e1 with e1
    subst e1
    exact ⟨hc (j * 3) _ (made3 _ _ _ M j 0 hj (by omega)), hc (j * 3 + 1) _ (made3 _ _ _ M j 1 hj (by omega)), hc (j * 3 + 2) _ (made3 _ _ _ M j 2 hj (by omega))⟩
  have X1 := Lib.hid (ext_grown ((Ext.refl w).alloc _) gr1 (fun k hk => by cases hk))
  have xz := ext_grown (Ext.refl _) gr1 (fun k hk => by cases hk)
  have HX0 := Lib.hid (show (w1.cell? ⟨w.heap.size, 0, none⟩ = some (.int .i64 0) ∧ w1.cell? ⟨w.heap.size, 1, none⟩ = some (.int .i64 0) ∧ w1.cell? ⟨w.heap.size, 2, none⟩ = some (.string ⟨#[]⟩)) ∧ w1.frozen? ⟨w.heap.size, 0, none⟩ = false ∧ w1.frozen? ⟨w.heap.size, 1, none⟩ = false ∧ w1.frozen? ⟨w.heap.size, 2, none⟩ = false from
    ⟨⟨xz.at (by go_simp), xz.at (by go_simp), xz.at (by go_simp)⟩, xz.unfrozen (p := ⟨w.heap.size, 0, none⟩) (v := .int .i64 0) (by go_simp) (by go_simp), xz.unfrozen (p := ⟨w.heap.size, 1, none⟩) (v := .int .i64 0) (by go_simp) (by go_simp), xz.unfrozen (p := ⟨w.heap.size, 2, none⟩) (v := .string ⟨#[]⟩) (by go_simp) (by go_simp)⟩)
  clear xz
  obtain ⟨g, hg⟩ : ∃ g, g = w.heap.size + 1 := ⟨_, rfl⟩
  have hF2 : FreeN w1 g (M * 3) := by
    rw [hg]
    exact hF1
  rw [← hg] at hC1
  have HG := Lib.hid hg
  have HF2 := Lib.hid hF2
  have HC2 := Lib.hid hC1
  have HX1 := Lib.hid (show Ext w w1 from X1.out)
  try rw [← hg]
  clear hF1 hF2 own1 gr1 X1 hg hC1
  go_wp2_with fail
  refine wp_label ?_
  go_wp2_with fail
  go_loopg [30] M (fun gk vi wr => ∃ (k : Nat), k ≤ M ∧ gk = M - k ∧ vi = .int .i64 k ∧ Hid (FreeN wr g (M * 3)) ∧ Hid (∀ j, j < M → VC wr g j ((evalAll es vals k).getD j nV)) ∧ Hid (FreeN wr w.heap.size 3) ∧ Ext w wr)
  case atStart => exact ⟨0, by omega, rfl, rfl, HF2.out, HC2.out, (fun j hj => by
    obtain ⟨⟨a0, a1, a2⟩, b0, b1, b2⟩ := HX0.out
    rcases (by omega : j = 0 ∨ j = 1 ∨ j = 2) with rfl | rfl | rfl
    · exact ⟨⟨_, a0⟩, b0⟩
    · exact ⟨⟨_, a1⟩, b1⟩
    · exact ⟨⟨_, a2⟩, b2⟩), HX1.out⟩
  case round =>
    clear HF2 HX1 HX0 HC2
    obtain ⟨k, hk, rfl, rfl, HFR, HCC, HRS, hx⟩ := hrel
    by_cases hlt : k < M
    · have hd : decide ((k : Int) < (M : Int)) = true := by simp; omega
      have hkM : (k : Int) < (M : Int) := by omega
      have hkn : k < es.length := by have := HN.out; omega
      obtain ⟨c0, c1, c2, c3, c4, c5, c6⟩ := expr_at HE.out k hkn
      have hok := HXO.out es[k] (List.getElem_mem hkn)
      have hput : ∀ j, (evalAll es vals (k + 1)).getD j nV = if j = k then stepE vals (evalAll es vals k) es[k] else (evalAll es vals k).getD j nV := fun j => by
        rw [evalAll_put, getElem!_pos es k hkn]
      have hDO : ∀ v ∈ evalAll es vals k, okVal v := ok_evalAll (fun z hz => (HXO.out z hz).2) HVO.out k (by omega)
      generalize es[k] = x at c0 c1 c2 c3 c4 c5 c6 hok hput
      obtain ⟨xo, xa, xb, xc, ⟨xk, xn, xs⟩⟩ := x
      dsimp only at c0 c1 c2 c3 c4 c5 c6 hok
      have hdl : (evalAll es vals k).length = k := evalAll_len es vals k
      have HDO := Lib.hid hDO
      have HPUT := Lib.hid hput
      clear hput hDO
      generalize hD : evalAll es vals k = D at HCC HPUT HDO hdl
      have HD := Lib.hid hdl
      replace c0 := hx.at c0
      replace c1 := hx.at c1
      replace c2 := hx.at c2
      replace c3 := hx.at c3
      replace c4 := hx.at c4
      replace c5 := hx.at c5
      replace c6 := hx.at c6
      have HOK := Lib.hid hok
      have e0 := cell_lt c0
      clear hok hdl hD
      go_wp2_with fail
      refine (operands_any ⟨xo, xa, xb, xc, ⟨xk, xn, xs⟩⟩ HOK.out.1.1 HOK.out.1.2 _).mono ?_
      rintro e w2 ⟨v2, rfl, s2, x2⟩
      have a0 : w2.cell? ⟨wr.heap.size, 0, none⟩ = some (.int .i64 xo) := x2.at (by go_simp)
      have a1 : w2.cell? ⟨wr.heap.size, 1, none⟩ = some (.int .i64 xa) := x2.at (by go_simp)
      have a2 : w2.cell? ⟨wr.heap.size, 2, none⟩ = some (.int .i64 xb) := x2.at (by go_simp)
      have a3 : w2.cell? ⟨wr.heap.size, 3, none⟩ = some (.int .i64 xc) := x2.at (by go_simp)
      have a4 : w2.cell? ⟨wr.heap.size, 4, none⟩ = some (.int .i64 xk) := x2.at (by go_simp)
      have a5 : w2.cell? ⟨wr.heap.size, 5, none⟩ = some (.int .i64 xn) := x2.at (by go_simp)
      have a6 : w2.cell? ⟨wr.heap.size, 6, none⟩ = some (.string xs) := x2.at (by go_simp)
      have X2 := Lib.hid (show Ext wr w2 from ((Ext.refl wr).alloc _).trans x2)
      have e2 := cell_lt a0
      obtain ⟨p2, d2, rfl, hpc1, hpc2, hp2⟩ := s2.form
      have hleg := legalE_iff k ⟨xo, xa, xb, xc, ⟨xk, xn, xs⟩⟩
      have hoks := opsE_ok (x := ⟨xo, xa, xb, xc, ⟨xk, xn, xs⟩⟩) HOK.out.1
      have hol := opsE_len ⟨xo, xa, xb, xc, ⟨xk, xn, xs⟩⟩
      obtain ⟨O, hO⟩ : ∃ O, O = opsE ⟨xo, xa, xb, xc, ⟨xk, xn, xs⟩⟩ := ⟨_, rfl⟩
      rw [← hO] at hleg hoks hol s2 hpc1 hp2 ⊢
      obtain ⟨n, hn⟩ : ∃ n, n = O.length := ⟨_, rfl⟩
      rw [← hn] at hol s2 hpc1 hp2 ⊢
      dsimp only at hol
      have hn2 : n ≤ 2 := by have := arityE_le xo; omega
      have HLEG := Lib.hid hleg
      have HOKS := Lib.hid hoks
      have HOL := Lib.hid hol
      have HO := Lib.hid hO
      have HNO := Lib.hid hn
      have S2 := Lib.hid s2
      have HP2 := Lib.hid hp2
      clear x2 c0 c1 c2 c3 c4 c5 c6 e0 hleg hoks hol hO hn s2 hp2 hpc1 hpc2
      go_wp2_with fail
      have HFR2 := Lib.hid (HFR.out.ext X2.out)
      have HRS2 := Lib.hid (HRS.out.ext X2.out)
      have HCC2 := Lib.hid (show ∀ j, j < M → VC w2 g j (D.getD j nV) from fun j hj => (HCC.out j hj).ext X2.out)
      have HX2 := Lib.hid (hx.trans X2.out)
      clear HFR HRS HCC hx X2
      go_loopg [10, 12, 38] n (fun gj va vo vi wq => ∃ (j : Nat) (u : Value), j ≤ n ∧ gj = n - j ∧ vi = .int .i64 j ∧ u = va ∧ Hid (OwnOf Rep.val wq (fun _ => True) w2.heap.size 44 u ((O.take j).map (argE D))) ∧ Hid (∀ o ∈ O.take j, 0 ≤ o ∧ o < k) ∧ Ext w2 wq)
      case atStart => exact ⟨0, _, by omega, rfl, rfl, rfl, OwnOf.nil _ _ _ _ _, (fun o ho => by simp at ho), Ext.refl w2⟩
      case round =>
        obtain ⟨j, u, hj, rfl, rfl, rfl, OW, HLJ, hq⟩ := hrel
        by_cases hjn : j < n
        · obtain ⟨b2, o2, rfl⟩ := HP2.out (by decide) (by omega)
          have hjl : j < O.length := by have := HNO.out; omega
          have sv := S2.out
          rw [HNO.out] at sv
          obtain ⟨d0, _⟩ := int_at sv j hjl
          replace d0 := hq.at d0
          have hdj : decide ((j : Int) < (n : Int)) = true := by simp; omega
          have hmem : O[j] ∈ O := List.getElem_mem hjl
          have htk : O.take (j + 1) = O.take j ++ [O[j]] := List.take_succ_eq_append_getElem hjl
          have hoo := HOKS.out O[j] hmem
          generalize O[j] = z at d0 htk hoo hmem
          have HMEM := Lib.hid hmem
          have HTK := Lib.hid htk
          have HOO := Lib.hid hoo
          have e1 := cell_lt d0
          have ol1 : ((O.take j).map (argE D)).length ≤ 2 := by rw [List.length_map, List.length_take]; omega
          obtain ⟨o', ho'⟩ : ∃ o', o' = (O.take j).map (argE D) := ⟨_, rfl⟩
          rw [← ho'] at OW ol1
          have HO1 := Lib.hid ho'
          have B1 : o'.length + 1 ≤ maxLen := by unfold maxLen; omega
          have B2 : (o'.length + 1) * 32 ≤ 140737488355328 := by omega
          clear hmem htk hoo sv ho'
          go_wp2_with fail
          refine (legal_any k z _).mono ?_
          rintro e w3 ⟨rfl, rfl⟩
          by_cases hlz : 0 ≤ z ∧ z < k
          · have hb : (decide (0 ≤ z) && decide (z < (k : Int))) = true := by simp; exact hlz
            rw [hb]
            obtain ⟨m, rfl⟩ : ∃ m : Nat, z = m := ⟨z.toNat, by omega⟩
            have hmk : m < k := by omega
            have hmM : (m : Int) < (M : Int) := by omega
            obtain ⟨q0, q1, q2⟩ := (HCC2.out m (by omega)).ext hq
            have hoy := ok_getD HDO.out m
            have hyz : argE D (m : Int) = D.getD m nV := rfl
            generalize D.getD m nV = yy at q0 q1 q2 hoy hyz
            have HYZ := Lib.hid hyz
            have HOY := Lib.hid hoy
            obtain ⟨yk, yn, ys⟩ := yy
            dsimp only at q0 q1 q2
            have e5 := cell_lt q0
            clear hb hlz hyz hoy
            go_wp2_with (at_builtin; go_loud (refine wpList_append_one Rep.val (fun _ => True) rfl _ _ 40 rfl w2.heap.size 44 i3 _ 32 Tryz.underlying40 hi3 hz30 hz31 hz32 rfl (by decide) u o' rfl (OW.out.ext ((Ext.refl wr).alloc _)) ⟨wr.heap.size, 0, none⟩ 1 ⟨yk, yn, ys⟩ [.int .i64 yk, .int .i64 yn, .string ys] rfl ⟨rfl, HOY.out⟩ (by exact cells_new wr [.int .i64 yk, .int .i64 yn, .string ys] _) B1 B2 (by exact (hq.trans ((Ext.refl wr).alloc _)).size) ?_))
            intro g3 cap3 w3 own gr _
            have hxx : Ext w2 w3 := Ext.grownNew (hq.trans ((Ext.refl wr).alloc _)) gr OW.out.base
            have OW2 := Lib.hid own
            clear own gr
            go_wp2_with fail
            go_roundg (n - (j + 1))
            case measure => omega
            case rel =>
              refine ⟨j + 1, _, by omega, rfl, by go_num, rfl, ?_, ?_, hxx⟩
              · show OwnOf _ _ _ _ _ _ _
                have e9 : (O.take (j + 1)).map (argE D) = o' ++ [⟨yk, yn, ys⟩] := by rw [HTK.out, List.map_append, ← HO1.out, List.map_cons, HYZ.out]; rfl
                rw [e9]
                exact OW2.out
              · show ∀ o ∈ O.take (j + 1), _
                rw [HTK.out]
                intro o ho
                rcases List.mem_append.1 ho with ho | ho
                · exact HLJ.out o ho
                · rw [List.mem_singleton] at ho
                  subst ho
                  omega
          · have hb : (decide (0 ≤ z) && decide (z < (k : Int))) = false := by
              rw [Bool.eq_false_iff]
              intro hh
              simp only [Bool.and_eq_true, decide_eq_true_eq] at hh
              exact hlz hh
            rw [hb]
            have hnl : legalE k ⟨xo, xa, xb, xc, ⟨xk, xn, xs⟩⟩ = false := by
              rw [Bool.eq_false_iff]
              intro hh
              exact hlz (HLEG.out.1 hh z HMEM.out)
            have HSAME := Lib.hid (show ∀ i, (evalAll es vals (k + 1)).getD i nV = D.getD i nV from fun i => by
              rw [HPUT.out]
              split
              · rename_i e
                subst e
                unfold stepE
                rw [HD.out, hnl, if_neg (by decide), List.getD_eq_getElem?_getD, List.getElem?_eq_none (by have := HD.out; omega)]
                rfl
              · rfl)
            clear hb hlz hnl
            go_wp2_with fail
            go_roundg (M - (k + 1))
            case measure => omega
            case rel => exact ⟨k + 1, by omega, rfl, by go_num, HFR2.out.ext hq, (fun i hi => by rw [HSAME.out]; exact (HCC2.out i hi).ext hq), HRS2.out.ext hq, HX2.out.trans hq⟩
        · have hjn2 : j = n := by omega
          have hdj : ¬ (j : Int) < (n : Int) := by omega
          have hall : O.take j = O := by rw [hjn2, HNO.out, List.take_length]
          have HLA := Lib.hid HLJ.out
          rw [hall] at OW HLA
          have hag : O.map (argE D) = argsE ⟨xo, xa, xb, xc, ⟨xk, xn, xs⟩⟩ D := by unfold argsE; rw [← HO.out]
          have hlen : (argsE ⟨xo, xa, xb, xc, ⟨xk, xn, xs⟩⟩ D).length = (arityE xo).toNat := by rw [← hag, List.length_map, ← HNO.out, HOL.out]
          have hst : stepE vals D ⟨xo, xa, xb, xc, ⟨xk, xn, xs⟩⟩ = applyV ⟨xo, xa, xb, xc, ⟨xk, xn, xs⟩⟩ ((argsE ⟨xo, xa, xb, xc, ⟨xk, xn, xs⟩⟩ D).getD 0 nV) ((argsE ⟨xo, xa, xb, xc, ⟨xk, xn, xs⟩⟩ D).getD 1 nV) vals := by
            unfold stepE
            rw [HD.out, if_pos (HLEG.out.2 HLA.out)]
          rw [hag] at OW
          have HST := Lib.hid hst
          have HLEN := Lib.hid hlen
          replace a0 := hq.at a0
          replace a1 := hq.at a1
          replace a2 := hq.at a2
          replace a3 := hq.at a3
          replace a4 := hq.at a4
          replace a5 := hq.at a5
          replace a6 := hq.at a6
          replace e2 := cell_lt a0
          clear hall hag hlen hst hjn2 hjn
          go_wp2_with fail
          refine (apply_any ⟨xo, xa, xb, xc, ⟨xk, xn, xs⟩⟩ _ (argsE ⟨xo, xa, xb, xc, ⟨xk, xn, xs⟩⟩ D) HLEN.out _ vals _ OW.out.slice (HV.out.ext (HX2.out.trans hq).full)).mono ?_
          rintro e w3 ⟨rfl, x3⟩
          obtain ⟨yy, hyy⟩ : ∃ z, z = applyV ⟨xo, xa, xb, xc, ⟨xk, xn, xs⟩⟩ ((argsE ⟨xo, xa, xb, xc, ⟨xk, xn, xs⟩⟩ D).getD 0 nV) ((argsE ⟨xo, xa, xb, xc, ⟨xk, xn, xs⟩⟩ D).getD 1 nV) vals := ⟨_, rfl⟩
          rw [← hyy]
          have HYY := Lib.hid (show stepE vals D ⟨xo, xa, xb, xc, ⟨xk, xn, xs⟩⟩ = yy from by rw [HST.out, hyy])
          have HQ3 := Lib.hid (hq.trans x3)
          have HFR3 := Lib.hid (HFR2.out.ext HQ3.out)
          have HRS3 := Lib.hid (HRS2.out.ext HQ3.out)
          have HCC3 := Lib.hid (show ∀ i, i < M → VC w3 g i (D.getD i nV) from fun i hi => (HCC2.out i hi).ext HQ3.out)
          have HX3 := Lib.hid (HX2.out.trans HQ3.out)
          obtain ⟨yk, yn, ys⟩ := yy
          obtain ⟨⟨o0, p0⟩, f0⟩ := HFR3.out (k * 3) (by omega)
          obtain ⟨⟨o1, p1⟩, f1⟩ := HFR3.out (k * 3 + 1) (by omega)
          obtain ⟨⟨o2, p2'⟩, f2⟩ := HFR3.out (k * 3 + 2) (by omega)
          have e3 := cell_lt p0
          have HGB := Lib.hid (show w.heap.size ≤ g ∧ g ≠ w.heap.size from by have := HG.out; omega)
          clear hyy HFR2 HRS2 HCC2 HX2 x3 a0 a1 a2 a3 a4 a5 a6 e2 HST hq OW
          unfold valV
          dsimp only
          go_wp2_with fail
          go_roundg (M - (k + 1))
          case measure => omega
          case rel =>
            refine ⟨k + 1, by omega, rfl, by go_num, ((HFR3.out.set _ _).set _ _).set _ _, (fun i hi => ?_), fun j hj => ?_, Below.setCell (Below.setCell (Below.setCell HX3.out HGB.out.1 _) HGB.out.1 _) HGB.out.1 _⟩
            · rw [HPUT.out, HYY.out]
              exact VC.put HFR3.out HCC3.out hlt ⟨yk, yn, ys⟩ i hi
            · obtain ⟨⟨u, hu⟩, hf⟩ := HRS3.out j hj
              exact ⟨⟨u, cell_set (cell_set (cell_set hu HGB.out.2) HGB.out.2) HGB.out.2⟩, by go_simp⟩
    · have hkM : k = M := by omega
      have hd : ¬ (k : Int) < (M : Int) := by omega
      obtain ⟨s0, s1, s2⟩ := HCC.out root (by have := HM.out; omega)
      have hyy : (evalAll es vals k).getD root nV = y := by
        have h1 := HY.out
        have h2 := HN.out
        have h3 := HM.out
        rw [h1]
        unfold evalE
        rw [if_pos (by omega), Int.toNat_natCast, show k = root + 1 by omega]
      rw [hyy] at s0 s1 s2
      obtain ⟨⟨o0, p0⟩, f0⟩ := HRS.out 0 (by omega)
      obtain ⟨⟨o1, p1⟩, f1⟩ := HRS.out 1 (by omega)
      obtain ⟨⟨o2, p2⟩, f2⟩ := HRS.out 2 (by omega)
      have e3 := cell_lt s0
      have e4 := cell_lt p0
      have HXF := Lib.hid hx
      clear hkM HCC HRS HFR hx hyy
      go_wp2_with fail
      exact bodyPost_ret (v := valV y) (by simp [results, Tryz.results85, go_sem, p0, p1, p2]) rfl ⟨rfl, Below.setCell (Below.setCell (Below.setCell HXF.out (Nat.le_refl _) _) (Nat.le_refl _) _) (Nat.le_refl _) _⟩

end Go.Proofs.YtdgpbpbjlnlijaaGreatDoor

/- expr.Eval at any root, algebra.IsTrue -/
namespace Go.Proofs.YtdgpbpbjlnlijaaGreatDoor
open Go.RowKit

set_option maxRecDepth 100000 in
set_option maxHeartbeats 4000000 in
theorem eval_any (v : Value) (es : List ExprI) (root : Int) (vv : Value) (vals : List Val) (w : World) (he : SliceOf Rep.expr w.cell? v es) (hl : es.length ≤ 1000) (hv : SliceOf Rep.val w.cell? vv vals) :
    Calls Tryz.prog 85 #[v, .int .i64 root, vv] w fun e w' => e = .returned (valV (evalE es root vals)) ∧ Ext w w' := by
  by_cases h0 : root < 0
  · have hy : evalE es root vals = nV := by unfold evalE; rw [if_neg (by omega)]
    rw [hy]
    obtain ⟨p, cap, rfl, _⟩ := he.form
    have hd0 : decide (root < 0) = true := by simp; omega
    clear hy h0 he hv
    go_enter Tryz.func85, Tryz.ntmps85
    go_wp2_with fail
    go_step3
    go_wp2_with fail
    rw [Exit.noGoto_ret]
    exact bodyPost_ret (v := valV nV) (by simp [results, Tryz.results85, go_sem, valV, nV]; rfl) rfl ⟨rfl, (Ext.refl w).alloc _⟩
  · by_cases h1 : root < es.length
    · obtain ⟨r, rfl⟩ : ∃ r : Nat, root = r := ⟨root.toNat, by omega⟩
      exact eval_in v es r vv vals w he (by omega) hl hv
    · have hy : evalE es root vals = nV := by unfold evalE; rw [if_neg (by omega)]
      rw [hy]
      obtain ⟨p, cap, rfl, _⟩ := he.form
      have hd0 : decide (root < 0) = false := by simp; omega
      have hd1 : decide ((es.length : Int) ≤ root) = true := by simp; omega
      clear hy h0 h1 he hv
      go_enter Tryz.func85, Tryz.ntmps85
      go_wp2_with fail
      go_step3
      go_wp2_with fail
      rw [Exit.noGoto_ret]
      exact bodyPost_ret (v := valV nV) (by simp [results, Tryz.results85, go_sem, valV, nV]; rfl) rfl ⟨rfl, (Ext.refl w).alloc _⟩

/-- is the predicate true of the values? -/
def trE (es : List ExprI) (pred : Int) (vals : List Val) : Bool := trueV (evalE es pred vals)
set_option maxRecDepth 100000 in
set_option maxHeartbeats 4000000 in
theorem isTrueE_any (v : Value) (es : List ExprI) (root : Int) (vv : Value) (vals : List Val) (w : World) (he : SliceOf Rep.expr w.cell? v es) (hl : es.length ≤ 1000) (hv : SliceOf Rep.val w.cell? vv vals) :
    Calls Tryz.prog 76 #[v, .int .i64 root, vv] w fun e w' => e = .returned (.bool (trE es root vals)) ∧ Ext w w' := by
  have HE := Lib.hid he
  have HV := Lib.hid hv
  have HL := Lib.hid hl
  unfold trE trueV
  obtain ⟨y, hy⟩ : ∃ y, y = evalE es root vals := ⟨_, rfl⟩
  rw [← hy]
  have HY := Lib.hid hy
  obtain ⟨yk, yn, ys⟩ := y
  dsimp only
  clear he hv hl hy
  obtain ⟨pe, ce, hve, _⟩ := HE.out.form
  obtain ⟨pv, cv, hvv, _⟩ := HV.out.form
  by_cases h : yk = 3
  · subst h
    have e : (yn == 1) = decide (yn = 1) := by rw [Bool.eq_iff_iff]; simp
    have HQ := Lib.hid e
    clear e
    have d : decide ((3 : Int) = 3) = true := rfl
    rw [d, Bool.true_and]
    clear d hve hvv
    go_enter Tryz.func76, Tryz.ntmps76
    go_wp2_with fail
    refine (eval_any v es root vv vals _ HE.out HL.out HV.out).mono ?_
    rintro e w1 ⟨rfl, x1⟩
    rw [← HY.out]
    unfold valV
    dsimp only
    go_wp2_with fail
    go_ret
    exact ⟨ret_bool HQ.out, x1.alloc _⟩
  · have b : (yk == 3) = false := by simp [h]
    have d : decide (yk = 3) = false := decide_eq_false h
    rw [d, Bool.false_and]
    clear d h hve hvv
    go_enter Tryz.func76, Tryz.ntmps76
    go_wp2_with fail
    refine (eval_any v es root vv vals _ HE.out HL.out HV.out).mono ?_
    rintro e w1 ⟨rfl, x1⟩
    rw [← HY.out]
    unfold valV
    dsimp only
    go_wp2_with fail
    go_ret
    exact ⟨rfl, x1.alloc _⟩

end Go.Proofs.YtdgpbpbjlnlijaaGreatDoor

/- the queue of active tuples: its row of cells; the methods Len, Less, Swap -/
namespace Go.Proofs.YtdgpbpbjlnlijaaGreatDoor
open Go.RowKit Go.Shelf Go.Sort

instance : Inhabited Ev := ⟨⟨false, 0, 0, 0⟩⟩
def actEnc (x : Ev) : List Value := [.int .i64 x.idx, .int .i64 x.to_]
def okE (x : Ev) : Prop := x.idx ≤ 1048576 ∧ -9223372036854775808 ≤ x.to_ ∧ x.to_ ≤ 9223372036854775807
def Rep.act : Rep Ev where
  size := 2
  holds _ cs x := cs = actEnc x ∧ okE x
  len := by rintro w cs x ⟨rfl, _⟩; rfl
  ext := by rintro w w' cs x h _; exact h
  one := by rintro w cs x ⟨rfl, _⟩; simp [actEnc, Value.oneCell']
theorem flat_act : Rep.act.flat := fun _ _ _ _ h => h
theorem act_len (x : Ev) : (actEnc x).length = 2 := rfl
theorem act_one (x : Ev) : ∀ v ∈ actEnc x, v.oneCell' = true := by simp [actEnc, Value.oneCell']

section
variable {α : Type} {R : Rep α} {enc : α → List Value} {ok : α → Prop}
theorem css_enc (hR : ∀ h cs x, R.holds h cs x ↔ cs = enc x ∧ ok x) {h : View} {css : List (List Value)} {xs : List α} (k : RepAll R h css xs) : css = xs.map enc ∧ ∀ x ∈ xs, ok x := by
  induction xs generalizing css with
  | nil =>
    cases css with
    | nil => simp
    | cons c css => exact k.elim
  | cons x xs ih =>
    cases css with
    | nil => exact k.elim
    | cons c css =>
      obtain ⟨h1, h2⟩ := ih k.2
      obtain ⟨h3, h4⟩ := (hR _ _ _).1 k.1
      exact ⟨by rw [h3, h1]; rfl, by simpa using ⟨h4, h2⟩⟩
theorem enc_css (hR : ∀ h cs x, R.holds h cs x ↔ cs = enc x ∧ ok x) {h : View} {xs : List α} (k : ∀ x ∈ xs, ok x) : RepAll R h (xs.map enc) xs := by
  have := repAll_map R h xs enc id (fun x hx => (hR _ _ _).2 ⟨rfl, k x hx⟩)
  simpa using this
variable [Inhabited α]
/-- a row of one's own, as an array that is sorted in place -/
theorem own_split (hR : ∀ h cs x, R.holds h cs x ↔ cs = enc x ∧ ok x) {w : World} {S : Nat → Prop} {base : Nat} {e : TypeId} {v : Value} {xs : List α} (hown : OwnOf R w S base e v xs) (hn : 0 < xs.length) :
    ∃ g cap cur, v = .slice (some ⟨g, 0, none⟩) xs.length cap ∧ base ≤ g ∧ w.heap[g]? = some (.cells cur e (0, 0)) ∧ xs.length ≤ cap ∧ cap ≤ maxLen ∧ cur.size = cap * R.size ∧ HoldsK enc R.size w g 0 xs.toArray ∧ ∀ x ∈ xs, ok x := by
  obtain ⟨css, h1, h2⟩ := hown
  obtain ⟨rfl, hok⟩ := css_enc hR h1
  obtain ⟨h2l, h2⟩ := h2
  rcases h2 with ⟨_, h0⟩ | ⟨gB, cap, cur, rfl, hb, hh, hc1, hc2, hsz, htk⟩
  · omega
  refine ⟨gB, cap, cur, rfl, hb, hh, hc1, hc2, hsz, ?_, hok⟩
  have hel : ∀ x ∈ xs, (enc x).length = R.size := fun x hx => R.len ((hR w.cell? _ _).2 ⟨rfl, hok x hx⟩)
  have hflat : ∀ j, j < xs.length * R.size → ((xs.map enc).flatten)[j]? = some (flatK enc R.size xs.toArray)[j]! := by
    intro j hj
    have hk0 : 0 < R.size := by
      rcases Nat.eq_zero_or_pos R.size with h | h
      · rw [h] at hj; simp at hj
      · exact h
    have hdiv : j / R.size < xs.length := by rw [Nat.div_lt_iff_lt_mul hk0]; exact hj
    have hmod := Nat.mod_lt j hk0
    rw [get_flatK _ _ _ _ (by simpa using hj)]
    rw [getElem!_pos xs.toArray _ (by simpa using hdiv)]
    have key : ∀ (l : List α) (i r : Nat) (x : α), (∀ y ∈ l, (enc y).length = R.size) → l[i]? = some x → r < R.size → (l.map enc).flatten[i * R.size + r]? = some ((enc x)[r]!) := by
      intro l
      induction l with
      | nil => intro i r x _ h; simp at h
      | cons y l ih =>
        intro i r x hl h hr
        have hy := hl y (by simp)
        cases i with
        | zero =>
          simp at h
          subst h
          rw [List.map_cons, List.flatten_cons, Nat.zero_mul, Nat.zero_add, List.getElem?_append_left (by rw [hy]; exact hr)]
          rw [getElem!_pos _ r (by rw [hy]; exact hr), List.getElem?_eq_getElem]
        | succ i =>
          rw [List.map_cons, List.flatten_cons, List.getElem?_append_right (by rw [hy, Nat.succ_mul]; omega), hy]
          rw [show (i + 1) * R.size + r - R.size = i * R.size + r from by rw [Nat.succ_mul]; omega]
          exact ih i r x (fun z hz => hl z (by simp [hz])) (by simpa using h) hr
    have := key xs (j / R.size) (j % R.size) (xs[j / R.size]) hel (List.getElem?_eq_getElem hdiv) hmod
    rw [show j / R.size * R.size + j % R.size = j from by rw [Nat.mul_comm]; exact Nat.div_add_mod j R.size] at this
    rw [this]
    simp
  intro j hj
  have hj' : j < xs.length * R.size := by simpa using hj
  constructor
  · have hu := hflat j hj'
    rw [← htk, List.getElem?_take, if_pos hj'] at hu
    rw [Nat.zero_add, cell_of_row w gB j cur e (0, 0) hh]
    simpa using hu
  · simp [World.frozen?, hh]
theorem own_back (hR : ∀ h cs x, R.holds h cs x ↔ cs = enc x ∧ ok x) (hel : ∀ x, (enc x).length = R.size) {w : World} {S : Nat → Prop} {base : Nat} {e : TypeId} {g cap : Nat} {cur : Array Value} {n m : Nat} {d : Array α} {os : Array Obj} (hb : base ≤ g) (hh : w.heap[g]? = some (.cells cur e (0, 0))) (hc1 : n ≤ cap) (hc2 : cap ≤ maxLen) (hsz : cur.size = cap * R.size)
    (hd : d.size = n) (hok : ∀ x ∈ d.toList, ok x) : OwnOf R (sortWorldK enc R.size w g 0 m d os) S base e (.slice (some ⟨g, 0, none⟩) n cap) d.toList := by
  subst hd
  refine ⟨d.toList.map enc, enc_css hR hok, ?_, .inr ⟨g, cap, putCells id 0 (flatK enc R.size d) cur, by simp, hb, sortWorld_row enc R.size w g 0 m d os cur e (0, 0) hh, by simpa using hc1, hc2, by simp [putCells, hsz], ?_⟩⟩
  · rw [← flatK_toList enc R.size hel]; simp
  · rw [← flatK_toList enc R.size hel]
    apply List.ext_getElem?
    intro j
    rw [List.getElem?_take]
    by_cases hj : j < d.size * R.size
    · have hjc : j < cur.size := by rw [hsz]; exact Nat.lt_of_lt_of_le hj (Nat.mul_le_mul_right _ hc1)
      simp [putCells, hjc, hj]
    · rw [if_neg (by simpa using hj), List.getElem?_eq_none (by simpa using Nat.le_of_not_lt hj)]
end

theorem act_iff : ∀ h cs x, Rep.act.holds h cs x ↔ cs = actEnc x ∧ okE x := fun _ _ _ => Iff.rfl
theorem act_cell {w : World} {g : Nat} {d : Array Ev} (h : HoldsK actEnc 2 w g 0 d) (i : Nat) (hi : i < d.size) :
    w.cell? ⟨g, i * 2, none⟩ = some (.int .i64 d[i]!.idx) ∧ w.cell? ⟨g, i * 2 + 1, none⟩ = some (.int .i64 d[i]!.to_) := by
  have g0 := (h (i * 2) (by simp; omega)).1
  have g1 := (h (i * 2 + 1) (by simp; omega)).1
  rw [Nat.zero_add, get_flatK _ _ _ _ (by omega)] at g0 g1
  rw [show i * 2 / 2 = i by omega, show i * 2 % 2 = 0 by omega] at g0
  rw [show (i * 2 + 1) / 2 = i by omega, show (i * 2 + 1) % 2 = 1 by omega] at g1
  exact ⟨g0, g1⟩
def ltAct (x y : Ev) : Bool := decide (x.to_ < y.to_)
theorem swo_act : SWO ltAct where
  irrefl x := by simp [ltAct]
  trans x y z := by simp only [ltAct, decide_eq_true_eq]; omega
  ntrans x y z := by simp only [ltAct, decide_eq_false_iff_not]; omega

theorem mixedOrd : Tryz.prog.follows Departure.mixedOrders = true := by kernel_rfl
theorem len_act (p : Option Addr) (n cap : Nat) (w : World) : Calls Tryz.prog 225 #[.slice p n cap] w fun e w' => e = .returned (.int .i64 n) ∧ w = w' := by
  go_enter Tryz.func225, Tryz.ntmps225
  go_wp2_with fail
  go_ret
  exact ⟨rfl, rfl⟩

set_option maxHeartbeats 1000000 in
theorem less_act (g n cap : Nat) (d : Array Ev) (i j : Nat) (w : World) (hH : HoldsK actEnc 2 w g 0 d) (hn : d.size = n) (hi : i < d.size) (hj : j < d.size) :
    Calls Tryz.prog 300 #[.slice (some ⟨g, 0, none⟩) n cap, .int .i64 i, .int .i64 j] w fun e w' => e = .returned (.bool (ltAct d[i]! d[j]!)) ∧ Gro w w' := by
  subst hn
  obtain ⟨_, ci⟩ := act_cell hH i hi
  obtain ⟨_, cj⟩ := act_cell hH j hj
  have hiz : (i : Int) < (d.size : Int) := by omega
  have hjz : (j : Int) < (d.size : Int) := by omega
  clear hH
  unfold ltAct
  generalize d[i]!.to_ = ti at ci ⊢
  generalize d[j]!.to_ = tj at cj ⊢
  have mixed := mixedOrd
  go_enter Tryz.func300, Tryz.ntmps300
  go_wp2_with fail
  go_big_region_o
  all_goals go_wp2_with fail
  all_goals go_ret
  all_goals exact ⟨rfl, (Gro.refl w).drew⟩

theorem act_free {w : World} {g : Nat} {d : Array Ev} (h : HoldsK actEnc 2 w g 0 d) (i : Nat) (hi : i < d.size) :
    w.frozen? ⟨g, i * 2, none⟩ = false ∧ w.frozen? ⟨g, i * 2 + 1, none⟩ = false := by
  have g0 := (h (i * 2) (by simp; omega)).2
  have g1 := (h (i * 2 + 1) (by simp; omega)).2
  rw [Nat.zero_add] at g0 g1
  exact ⟨g0, g1⟩
set_option maxHeartbeats 4000000 in
theorem swap_act (g n cap : Nat) (d0 d : Array Ev) (i j : Nat) (w0 w : World) (R : RowK actEnc 2 w0 g 0 d0) (hs : d.size = d0.size) (hn : d.size = n) (S : SWK actEnc 2 w0 g 0 d w) (hi : i < d.size) (hj : j < d.size) :
    Calls Tryz.prog 301 #[.slice (some ⟨g, 0, none⟩) n cap, .int .i64 i, .int .i64 j] w fun e w' => e = .returned (.tuple #[]) ∧ SWK actEnc 2 w0 g 0 (swp d i j) w' := by
  subst hn
  have mixed := mixedOrd
  have hiz : (i : Int) < (d.size : Int) := by omega
  have hjz : (j : Int) < (d.size : Int) := by omega
  have S2 : Aside (SWK actEnc 2 w0 g 0 (swp d i j) ((w.drew.setCells g (0 + i * 2) (actEnc d[j]!)).setCells g (0 + j * 2) (actEnc d[i]!))) := S.swapped R i j hi hj
  have hH := S.holds R.hblk R.hH hs
  obtain ⟨ci0, ci1⟩ := act_cell hH i hi
  obtain ⟨cj0, cj1⟩ := act_cell hH j hj
  obtain ⟨fi0, fi1⟩ := act_free hH i hi
  obtain ⟨fj0, fj1⟩ := act_free hH j hj
  simp only [actEnc, World.setCells, Nat.zero_add] at S2
  clear S hH
  by_cases hij : i = j
  · subst hij
    clear cj0 cj1 fj0 fj1 hjz hj
    generalize d[i]!.to_ = ti at S2 ci1
    generalize d[i]!.idx = ni at S2 ci0
    go_enter Tryz.func301, Tryz.ntmps301
    go_wp2_with fail
    go_big_region_o
    all_goals go_wp2_with fail
    all_goals go_end0
    all_goals exact ⟨rfl, S2.out⟩
  · generalize d[i]!.to_ = ti at S2 ci1
    generalize d[j]!.to_ = tj at S2 cj1
    generalize d[i]!.idx = ni at S2 ci0
    generalize d[j]!.idx = nj at S2 cj0
    have e1 : ¬ i * 2 = j * 2 := by omega
    have e2 : ¬ i * 2 + 1 = j * 2 := by omega
    have e3 : ¬ i * 2 = j * 2 + 1 := by omega
    have e4 : ¬ i * 2 + 1 = j * 2 + 1 := by omega
    go_enter Tryz.func301, Tryz.ntmps301
    go_wp2_with fail
    go_big_region_o
    all_goals go_wp2_with fail
    all_goals go_end0
    all_goals exact ⟨rfl, S2.out⟩

end Go.Proofs.YtdgpbpbjlnlijaaGreatDoor

/-
  DERIVED: THE SHELF's CONTRACTS AT THIS DUMP, IN PLAIN WORDS (tools/lay-plain.mjs out of 'TryzShelfC.lean', which tools/lay-shelf.mjs wrote): THE SAME DECLARATIONS UNDER THE SAME NAMES: 'import', 'namespace', 'open', 'def', 'theorem' AND NOTHING ELSE: no command of the shelf's: FOR A HAND-IN. Each laying: the table of numbers ('.._ren') and one theorem, a field a fact of the dump's own or the kernel's comparison; each contract: ONE APPLICATION.
-/
namespace Go.Proofs
open Go.Shelf
def Tryz.insEv_ren : Go.Shelf.Ren := ⟨fun | 20 => 246 | n => n, fun | 24 => 218 | 22 => 215 | 3 => 3 | 25 => 221 | 4 => 4 | 0 => 0 | n => n, fun | n => n⟩
theorem Tryz.insEv : Go.Proofs.SlLaysF0.n20 Tryz.prog Tryz.insEv_ren := {
  mixed := by kernel_rfl
  f20 := ⟨Tryz.f246.name, by decide, Tryz.func246.trans (congrArg some (by kernel_rfl))⟩
  t0 := Tryz.underlying0
  a0 := Tryz.isAgg0
  z0 := Tryz.sizeOf0
  v0 := Tryz.zeroValue0
  t3 := Tryz.underlying3
  a3 := Tryz.isAgg3
  z3 := Tryz.sizeOf3
  v3 := Tryz.zeroValue3
  t4 := Tryz.underlying4
  a4 := Tryz.isAgg4
  z4 := Tryz.sizeOf4
  v4 := Tryz.zeroValue4
  t22 := Tryz.underlying215
  a22 := Tryz.isAgg215
  z22 := Tryz.sizeOf215
  v22 := Tryz.zeroValue215
  t25 := Tryz.underlying221
  a25 := Tryz.isAgg221
  z25 := Tryz.sizeOf221
  v25 := Tryz.zeroValue221 }
def Tryz.sortPairs_ren : Go.Shelf.Ren := ⟨fun | 6 => 174 | 15 => 105 | 14 => 228 | 28 => 154 | 29 => 155 | 20 => 249 | 21 => 250 | 22 => 251 | 23 => 252 | 24 => 253 | 25 => 254 | 26 => 255 | 27 => 256 | 46 => 273 | 47 => 208 | 48 => 209 | 49 => 274 | 50 => 275 | 57 => 280 | n => n, fun | 22 => 178 | 24 => 181 | 25 => 233 | 3 => 3 | 39 => 159 | 0 => 0 | 53 => 203 | 55 => 205 | 4 => 4 | 46 => 197 | 45 => 196 | 50 => 107 | 5 => 5 | 9 => 9 | 66 => 261 | 70 => 265 | 76 => 294 | 77 => 295 | n => n, fun | n => n⟩
theorem Tryz.sortPairs : Go.Proofs.SlLaysF0.n6 Tryz.prog Tryz.sortPairs_ren := {
  mixed := by kernel_rfl
  f6 := ⟨Tryz.f174.name, by decide, Tryz.func174.trans (congrArg some (by kernel_rfl))⟩
  f14 := ⟨Tryz.f228.name, by decide, Tryz.func228.trans (congrArg some (by kernel_rfl))⟩
  f15 := Tryz.func105.trans (congrArg some (by kernel_rfl))
  f20 := ⟨Tryz.f249.name, by decide, Tryz.func249.trans (congrArg some (by kernel_rfl))⟩
  f21 := ⟨Tryz.f250.name, by decide, Tryz.func250.trans (congrArg some (by kernel_rfl))⟩
  f22 := ⟨Tryz.f251.name, by decide, Tryz.func251.trans (congrArg some (by kernel_rfl))⟩
  f23 := ⟨Tryz.f252.name, by decide, Tryz.func252.trans (congrArg some (by kernel_rfl))⟩
  f24 := ⟨Tryz.f253.name, by decide, Tryz.func253.trans (congrArg some (by kernel_rfl))⟩
  f25 := ⟨Tryz.f254.name, by decide, Tryz.func254.trans (congrArg some (by kernel_rfl))⟩
  f26 := ⟨Tryz.f255.name, by decide, Tryz.func255.trans (congrArg some (by kernel_rfl))⟩
  f27 := ⟨Tryz.f256.name, by decide, Tryz.func256.trans (congrArg some (by kernel_rfl))⟩
  f28 := Tryz.func154.trans (congrArg some (by kernel_rfl))
  f29 := Tryz.func155.trans (congrArg some (by kernel_rfl))
  f46 := ⟨Tryz.f273.name, by decide, Tryz.func273.trans (congrArg some (by kernel_rfl))⟩
  f47 := Tryz.func208.trans (congrArg some (by kernel_rfl))
  f48 := Tryz.func209.trans (congrArg some (by kernel_rfl))
  f49 := ⟨Tryz.f274.name, by decide, Tryz.func274.trans (congrArg some (by kernel_rfl))⟩
  f50 := ⟨Tryz.f275.name, by decide, Tryz.func275.trans (congrArg some (by kernel_rfl))⟩
  f57 := ⟨Tryz.f280.name, by decide, Tryz.func280.trans (congrArg some (by kernel_rfl))⟩
  t0 := Tryz.underlying0
  a0 := Tryz.isAgg0
  z0 := Tryz.sizeOf0
  v0 := Tryz.zeroValue0
  t3 := Tryz.underlying3
  a3 := Tryz.isAgg3
  z3 := Tryz.sizeOf3
  v3 := Tryz.zeroValue3
  t4 := Tryz.underlying4
  a4 := Tryz.isAgg4
  z4 := Tryz.sizeOf4
  v4 := Tryz.zeroValue4
  t5 := Tryz.underlying5
  a5 := Tryz.isAgg5
  z5 := Tryz.sizeOf5
  v5 := Tryz.zeroValue5
  t9 := Tryz.underlying9
  a9 := Tryz.isAgg9
  z9 := Tryz.sizeOf9
  v9 := Tryz.zeroValue9
  t22 := Tryz.underlying178
  a22 := Tryz.isAgg178
  z22 := Tryz.sizeOf178
  v22 := Tryz.zeroValue178
  t25 := Tryz.underlying233
  a25 := Tryz.isAgg233
  z25 := Tryz.sizeOf233
  v25 := Tryz.zeroValue233
  t39 := Tryz.underlying159
  a39 := Tryz.isAgg159
  z39 := Tryz.sizeOf159
  v39 := Tryz.zeroValue159
  t45 := Tryz.underlying196
  a45 := Tryz.isAgg196
  z45 := Tryz.sizeOf196
  v45 := Tryz.zeroValue196
  t46 := Tryz.underlying197
  a46 := Tryz.isAgg197
  z46 := Tryz.sizeOf197
  v46 := Tryz.zeroValue197
  t50 := Tryz.underlying107
  a50 := Tryz.isAgg107
  z50 := Tryz.sizeOf107
  v50 := Tryz.zeroValue107
  t53 := Tryz.underlying203
  a53 := Tryz.isAgg203
  z53 := Tryz.sizeOf203
  v53 := Tryz.zeroValue203
  t55 := Tryz.underlying205
  a55 := Tryz.isAgg205
  z55 := Tryz.sizeOf205
  v55 := Tryz.zeroValue205
  t66 := Tryz.underlying261
  a66 := Tryz.isAgg261
  z66 := Tryz.sizeOf261
  v66 := Tryz.zeroValue261
  t70 := Tryz.underlying265
  a70 := Tryz.isAgg265
  z70 := Tryz.sizeOf265
  v70 := Tryz.zeroValue265
  t76 := Tryz.underlying294
  a76 := Tryz.isAgg294
  z76 := Tryz.sizeOf294
  v76 := Tryz.zeroValue294
  t77 := Tryz.underlying295
  a77 := Tryz.isAgg295
  z77 := Tryz.sizeOf295
  v77 := Tryz.zeroValue295 }
def Tryz.sortPers_ren : Go.Shelf.Ren := ⟨fun | 6 => 176 | 15 => 105 | 14 => 229 | 28 => 154 | 29 => 155 | 20 => 257 | 21 => 258 | 22 => 259 | 23 => 260 | 24 => 261 | 25 => 262 | 26 => 263 | 27 => 264 | 46 => 276 | 47 => 208 | 48 => 209 | 49 => 277 | 50 => 278 | 57 => 281 | n => n, fun | 22 => 112 | 24 => 52 | 25 => 235 | 3 => 3 | 39 => 159 | 0 => 0 | 53 => 203 | 55 => 205 | 4 => 4 | 46 => 197 | 45 => 196 | 50 => 107 | 5 => 5 | 9 => 9 | 66 => 261 | 70 => 265 | 76 => 294 | 77 => 295 | n => n, fun | n => n⟩
theorem Tryz.sortPers : Go.Proofs.SlLaysF0.n6 Tryz.prog Tryz.sortPers_ren := {
  mixed := by kernel_rfl
  f6 := ⟨Tryz.f176.name, by decide, Tryz.func176.trans (congrArg some (by kernel_rfl))⟩
  f14 := ⟨Tryz.f229.name, by decide, Tryz.func229.trans (congrArg some (by kernel_rfl))⟩
  f15 := Tryz.func105.trans (congrArg some (by kernel_rfl))
  f20 := ⟨Tryz.f257.name, by decide, Tryz.func257.trans (congrArg some (by kernel_rfl))⟩
  f21 := ⟨Tryz.f258.name, by decide, Tryz.func258.trans (congrArg some (by kernel_rfl))⟩
  f22 := ⟨Tryz.f259.name, by decide, Tryz.func259.trans (congrArg some (by kernel_rfl))⟩
  f23 := ⟨Tryz.f260.name, by decide, Tryz.func260.trans (congrArg some (by kernel_rfl))⟩
  f24 := ⟨Tryz.f261.name, by decide, Tryz.func261.trans (congrArg some (by kernel_rfl))⟩
  f25 := ⟨Tryz.f262.name, by decide, Tryz.func262.trans (congrArg some (by kernel_rfl))⟩
  f26 := ⟨Tryz.f263.name, by decide, Tryz.func263.trans (congrArg some (by kernel_rfl))⟩
  f27 := ⟨Tryz.f264.name, by decide, Tryz.func264.trans (congrArg some (by kernel_rfl))⟩
  f28 := Tryz.func154.trans (congrArg some (by kernel_rfl))
  f29 := Tryz.func155.trans (congrArg some (by kernel_rfl))
  f46 := ⟨Tryz.f276.name, by decide, Tryz.func276.trans (congrArg some (by kernel_rfl))⟩
  f47 := Tryz.func208.trans (congrArg some (by kernel_rfl))
  f48 := Tryz.func209.trans (congrArg some (by kernel_rfl))
  f49 := ⟨Tryz.f277.name, by decide, Tryz.func277.trans (congrArg some (by kernel_rfl))⟩
  f50 := ⟨Tryz.f278.name, by decide, Tryz.func278.trans (congrArg some (by kernel_rfl))⟩
  f57 := ⟨Tryz.f281.name, by decide, Tryz.func281.trans (congrArg some (by kernel_rfl))⟩
  t0 := Tryz.underlying0
  a0 := Tryz.isAgg0
  z0 := Tryz.sizeOf0
  v0 := Tryz.zeroValue0
  t3 := Tryz.underlying3
  a3 := Tryz.isAgg3
  z3 := Tryz.sizeOf3
  v3 := Tryz.zeroValue3
  t4 := Tryz.underlying4
  a4 := Tryz.isAgg4
  z4 := Tryz.sizeOf4
  v4 := Tryz.zeroValue4
  t5 := Tryz.underlying5
  a5 := Tryz.isAgg5
  z5 := Tryz.sizeOf5
  v5 := Tryz.zeroValue5
  t9 := Tryz.underlying9
  a9 := Tryz.isAgg9
  z9 := Tryz.sizeOf9
  v9 := Tryz.zeroValue9
  t22 := Tryz.underlying112
  a22 := Tryz.isAgg112
  z22 := Tryz.sizeOf112
  v22 := Tryz.zeroValue112
  t25 := Tryz.underlying235
  a25 := Tryz.isAgg235
  z25 := Tryz.sizeOf235
  v25 := Tryz.zeroValue235
  t39 := Tryz.underlying159
  a39 := Tryz.isAgg159
  z39 := Tryz.sizeOf159
  v39 := Tryz.zeroValue159
  t45 := Tryz.underlying196
  a45 := Tryz.isAgg196
  z45 := Tryz.sizeOf196
  v45 := Tryz.zeroValue196
  t46 := Tryz.underlying197
  a46 := Tryz.isAgg197
  z46 := Tryz.sizeOf197
  v46 := Tryz.zeroValue197
  t50 := Tryz.underlying107
  a50 := Tryz.isAgg107
  z50 := Tryz.sizeOf107
  v50 := Tryz.zeroValue107
  t53 := Tryz.underlying203
  a53 := Tryz.isAgg203
  z53 := Tryz.sizeOf203
  v53 := Tryz.zeroValue203
  t55 := Tryz.underlying205
  a55 := Tryz.isAgg205
  z55 := Tryz.sizeOf205
  v55 := Tryz.zeroValue205
  t66 := Tryz.underlying261
  a66 := Tryz.isAgg261
  z66 := Tryz.sizeOf261
  v66 := Tryz.zeroValue261
  t70 := Tryz.underlying265
  a70 := Tryz.isAgg265
  z70 := Tryz.sizeOf265
  v70 := Tryz.zeroValue265
  t76 := Tryz.underlying294
  a76 := Tryz.isAgg294
  z76 := Tryz.sizeOf294
  v76 := Tryz.zeroValue294
  t77 := Tryz.underlying295
  a77 := Tryz.isAgg295
  z77 := Tryz.sizeOf295
  v77 := Tryz.zeroValue295 }
def Tryz.growEv_ren : Go.Shelf.Ren := ⟨fun | 4 => 223 | n => n, fun | 22 => 215 | 25 => 218 | 3 => 3 | 4 => 4 | 9 => 9 | 20 => 20 | 0 => 0 | n => n, fun | n => n⟩
theorem Tryz.growEv : Go.Proofs.Lays8.n4 Tryz.prog Tryz.growEv_ren := {
  mixed := by kernel_rfl
  f4 := ⟨Tryz.f223.name, by decide, Tryz.func223.trans (congrArg some (by kernel_rfl))⟩
  t0 := Tryz.underlying0
  a0 := Tryz.isAgg0
  z0 := Tryz.sizeOf0
  v0 := Tryz.zeroValue0
  t3 := Tryz.underlying3
  a3 := Tryz.isAgg3
  z3 := Tryz.sizeOf3
  v3 := Tryz.zeroValue3
  t4 := Tryz.underlying4
  a4 := Tryz.isAgg4
  z4 := Tryz.sizeOf4
  v4 := Tryz.zeroValue4
  t9 := Tryz.underlying9
  a9 := Tryz.isAgg9
  z9 := Tryz.sizeOf9
  v9 := Tryz.zeroValue9
  t20 := Tryz.underlying20
  a20 := Tryz.isAgg20
  z20 := Tryz.sizeOf20
  v20 := Tryz.zeroValue20
  t22 := Tryz.underlying215
  a22 := Tryz.isAgg215
  z22 := Tryz.sizeOf215
  v22 := Tryz.zeroValue215 }
end Go.Proofs

/- StabA, StabB, joined -/

/- the starts of the tuples as a row of cells; the exchange of blocks, the rotation (slices.SortStableFunc's family) -/
namespace Go.Proofs.YtdgpbpbjlnlijaaGreatDoor
open Go.RowKit Go.Shelf Go.Sort

def sideI (b : Bool) : Int := if b then 1 else 0
def evEnc (x : Ev) : List Value := [.int .i64 x.from_, .int .i64 (sideI x.side), .int .i64 x.idx]
def okS (x : Ev) : Prop := x.idx ≤ 1048576 ∧ -9223372036854775808 ≤ x.from_ ∧ x.from_ ≤ 9223372036854775807
def Rep.ev : Rep Ev where
  size := 3
  holds _ cs x := cs = evEnc x ∧ okS x
  len := by rintro w cs x ⟨rfl, _⟩; rfl
  ext := by rintro w w' cs x h _; exact h
  one := by rintro w cs x ⟨rfl, _⟩; simp [evEnc, Value.oneCell']
theorem flat_ev : Rep.ev.flat := fun _ _ _ _ h => h
theorem ev_len (x : Ev) : (evEnc x).length = 3 := rfl
theorem ev_one (x : Ev) : ∀ v ∈ evEnc x, v.oneCell' = true := by simp [evEnc, Value.oneCell']
theorem ev_iff : ∀ h cs x, Rep.ev.holds h cs x ↔ cs = evEnc x ∧ okS x := fun _ _ _ => Iff.rfl
theorem ev_cell {w : World} {g : Nat} {d : Array Ev} (h : HoldsK evEnc 3 w g 0 d) (i : Nat) (hi : i < d.size) :
    w.cell? ⟨g, i * 3, none⟩ = some (.int .i64 d[i]!.from_) ∧ w.cell? ⟨g, i * 3 + 1, none⟩ = some (.int .i64 (sideI d[i]!.side)) ∧ w.cell? ⟨g, i * 3 + 2, none⟩ = some (.int .i64 d[i]!.idx) := by
  have g0 := (h (i * 3) (by simp; omega)).1
  have g1 := (h (i * 3 + 1) (by simp; omega)).1
  have g2 := (h (i * 3 + 2) (by simp; omega)).1
  rw [Nat.zero_add, get_flatK _ _ _ _ (by omega)] at g0 g1 g2
  rw [show i * 3 / 3 = i by omega, show i * 3 % 3 = 0 by omega] at g0
  rw [show (i * 3 + 1) / 3 = i by omega, show (i * 3 + 1) % 3 = 1 by omega] at g1
  rw [show (i * 3 + 2) / 3 = i by omega, show (i * 3 + 2) % 3 = 2 by omega] at g2
  exact ⟨g0, g1, g2⟩
theorem ev_free {w : World} {g : Nat} {d : Array Ev} (h : HoldsK evEnc 3 w g 0 d) (i : Nat) (hi : i < d.size) :
    w.frozen? ⟨g, i * 3, none⟩ = false ∧ w.frozen? ⟨g, i * 3 + 1, none⟩ = false ∧ w.frozen? ⟨g, i * 3 + 2, none⟩ = false := by
  have g0 := (h (i * 3) (by simp; omega)).2
  have g1 := (h (i * 3 + 1) (by simp; omega)).2
  have g2 := (h (i * 3 + 2) (by simp; omega)).2
  rw [Nat.zero_add] at g0 g1 g2
  exact ⟨g0, g1, g2⟩
def cmpEv (x y : Ev) : Int := cmpI x.from_ y.from_
theorem swo_ev : SWO (ltOf cmpEv) := swo_pull ord_int.swo fun x : Ev => x.from_
theorem ev_agg : ∀ w, (isAgg 218).run Tryz.prog w = .ok true w := fun w => by kernel_rfl
theorem ev_size : ∀ w, (Go.sizeOf 218).run Tryz.prog w = .ok 3 w := fun w => by kernel_rfl

theorem drew_set (w : World) (p : Addr) (v : Value) : w.drew.setCell p v = (w.setCell p v).drew := rfl
/-- an exchange of two starts, as a walk meets it -/
theorem swk_exch (blk N : Nat) (d0 dk : Array Ev) (w0 wr : World) (R : RowK evEnc 3 w0 blk 0 d0) (hd0 : d0.size = N) (hdk : dk.size = N) (S : SWK evEnc 3 w0 blk 0 dk wr) (x y : Nat) (hx : x < N) (hy : y < N) :
    ∃ f1 s1 i1 f2 s2 i2 : Int, wr.cell? ⟨blk, x * 3, none⟩ = some (.int .i64 f1) ∧ wr.cell? ⟨blk, x * 3 + 1, none⟩ = some (.int .i64 s1) ∧ wr.cell? ⟨blk, x * 3 + 2, none⟩ = some (.int .i64 i1) ∧
      wr.cell? ⟨blk, y * 3, none⟩ = some (.int .i64 f2) ∧ wr.cell? ⟨blk, y * 3 + 1, none⟩ = some (.int .i64 s2) ∧ wr.cell? ⟨blk, y * 3 + 2, none⟩ = some (.int .i64 i2) ∧
      wr.frozen? ⟨blk, x * 3, none⟩ = false ∧ wr.frozen? ⟨blk, x * 3 + 1, none⟩ = false ∧ wr.frozen? ⟨blk, x * 3 + 2, none⟩ = false ∧ wr.frozen? ⟨blk, y * 3, none⟩ = false ∧ wr.frozen? ⟨blk, y * 3 + 1, none⟩ = false ∧ wr.frozen? ⟨blk, y * 3 + 2, none⟩ = false ∧
      Hid (SWK evEnc 3 w0 blk 0 (swp dk x y) ((((((wr.setCell ⟨blk, x * 3, none⟩ (.int .i64 f2)).setCell ⟨blk, x * 3 + 1, none⟩ (.int .i64 s2)).setCell ⟨blk, x * 3 + 2, none⟩ (.int .i64 i2)).setCell ⟨blk, y * 3, none⟩ (.int .i64 f1)).setCell ⟨blk, y * 3 + 1, none⟩ (.int .i64 s1)).setCell ⟨blk, y * 3 + 2, none⟩ (.int .i64 i1)).drew) := by
  have hH := S.holds R.hblk R.hH (by omega)
  obtain ⟨a1, a2, a3⟩ := ev_cell hH x (by omega)
  obtain ⟨b1, b2, b3⟩ := ev_cell hH y (by omega)
  obtain ⟨p1, p2, p3⟩ := ev_free hH x (by omega)
  obtain ⟨r1, r2, r3⟩ := ev_free hH y (by omega)
  refine ⟨_, _, _, _, _, _, a1, a2, a3, b1, b2, b3, p1, p2, p3, r1, r2, r3, ?_⟩
  have h := S.swapped R x y (by omega) (by omega)
  simp only [evEnc, World.setCells, Nat.zero_add, Nat.add_assoc, Nat.reduceAdd, drew_set] at h
  exact h

set_option maxRecDepth 100000 in
set_option maxHeartbeats 4000000 in
theorem swapRange_ev (gq blk cap a b n N : Nat) (d0 d : Array Ev) (w0 w : World) (R : RowK evEnc 3 w0 blk 0 d0) (hd0 : d0.size = N) (hd : d.size = N) (S : SWK evEnc 3 w0 blk 0 d w) (hab : a + n ≤ b) (hb : b + n ≤ N) (hsz : N ≤ 1048576) :
    Calls Tryz.prog 279 #[.slice (some ⟨blk, 0, none⟩) N cap, .int .i64 a, .int .i64 b, .int .i64 n, .func (.func gq) #[] #[]] w fun e w' => e = .returned (.tuple #[]) ∧ ∃ d', SwapOf d d' a b n ∧ PermIn a (b + n) d d' ∧ SWK evEnc 3 w0 blk 0 d' w' := by
  have mixed := mixedOrd
  have S0 := Lib.hid S
  have W0 := Lib.hid (SwapOf.zero d a b)
  have P0 := Lib.hid (permIn_refl d a (b + n))
  clear S
  go_enter Tryz.func279, Tryz.ntmps279
  go_wp2_with fail
  go_loopg [10] n (fun gk vi wr => ∃ (k : Nat) (dk : Array Ev), gk = n - k ∧ vi = .int .i64 k ∧ k ≤ n ∧ dk.size = N ∧ Hid (SwapOf d dk a b k) ∧ Hid (PermIn a (b + n) d dk) ∧ Hid (SWK evEnc 3 w0 blk 0 dk wr))
  case atStart => exact ⟨0, d, rfl, rfl, by omega, hd, W0, P0, S0⟩
  case round =>
    obtain ⟨k, dk, rfl, rfl, hk, hdk, W1, P1, S1⟩ := hrel
    clear S0 W0 P0
    by_cases hkn : k < n
    · have hkz : (k : Int) < (n : Int) := by omega
      obtain ⟨x, hx⟩ : ∃ x, x = a + k := ⟨_, rfl⟩
      obtain ⟨y, hy⟩ : ∃ y, y = b + k := ⟨_, rfl⟩
      have e1 : (a : Int) + (k : Int) = (x : Int) := by omega
      have e2 : (b : Int) + (k : Int) = (y : Int) := by omega
      have hxN : x < N := by omega
      have hyN : y < N := by omega
      have hxz : (x : Int) < (N : Int) := by omega
      have hyz : (y : Int) < (N : Int) := by omega
      have hne : x ≠ y := by omega
      have hrx : IntKind.i64.wrap (x : Int) = (x : Int) := by rw [IntKind.wrap_i64]; omega
      have hry : IntKind.i64.wrap (y : Int) = (y : Int) := by rw [IntKind.wrap_i64]; omega
      obtain ⟨f1, s1, i1, f2, s2, i2, c1, c2, c3, c4, c5, c6, r1, r2, r3, r4, r5, r6, S2⟩ := swk_exch blk N d0 dk w0 wr R hd0 hdk S1.out x y hxN hyN
      have HX := Lib.hid hx
      have HY := Lib.hid hy
      clear S1 hx hy
      have q1 : ¬ x * 3 = y * 3 := by omega
      have q2 : ¬ x * 3 + 1 = y * 3 + 1 := by omega
      have q3 : ¬ x * 3 + 2 = y * 3 + 2 := by omega
      have q4 : ¬ x * 3 = y * 3 + 1 := by omega
      have q5 : ¬ x * 3 = y * 3 + 2 := by omega
      have q6 : ¬ x * 3 + 1 = y * 3 := by omega
      have q7 : ¬ x * 3 + 1 = y * 3 + 2 := by omega
      have q8 : ¬ x * 3 + 2 = y * 3 := by omega
      have q9 : ¬ x * 3 + 2 = y * 3 + 1 := by omega
      go_wp2_with fail
      go_big_region_o
      all_goals go_wp2_with fail
      all_goals go_roundg (n - (k + 1))
      all_goals first
        | (case measure => omega)
        | (case rel =>
            refine ⟨k + 1, swp dk x y, rfl, by simp, by omega, by rw [size_swp]; exact hdk, ?_, ?_, S2.out⟩
            · have := SwapOf.step W1.out (by omega) (by omega)
              rw [← HX.out, ← HY.out] at this
              exact this
            · exact permIn_trans _ _ _ _ _ P1.out (swp_permIn _ _ _ _ _ (by have := HX.out; omega) (by have := HX.out; omega) (by have := HY.out; omega) (by have := HY.out; omega) (by omega)))
    · have hkz : ¬ (k : Int) < (n : Int) := by omega
      have hke : k = n := by omega
      subst hke
      go_wp2_with fail
      go_end0
      exact ⟨rfl, dk, W1.out, P1.out, S1.out⟩

end Go.Proofs.YtdgpbpbjlnlijaaGreatDoor

/- slices.rotateCmpFunc at the starts -/
namespace Go.Proofs.YtdgpbpbjlnlijaaGreatDoor
open Go.RowKit Go.Shelf Go.Sort

set_option maxRecDepth 100000 in
set_option maxHeartbeats 4000000 in
theorem rotate_ev (gq blk cap a m b N : Nat) (d0 d : Array Ev) (w0 w : World) (R : RowK evEnc 3 w0 blk 0 d0) (hd0 : d0.size = N) (hd : d.size = N) (S : SWK evEnc 3 w0 blk 0 d w) (ham : a < m) (hmb : m < b) (hb : b ≤ N) (hsz : N ≤ 1048576) :
    Calls Tryz.prog 272 #[.slice (some ⟨blk, 0, none⟩) N cap, .int .i64 a, .int .i64 m, .int .i64 b, .func (.func gq) #[] #[]] w fun e w' => e = .returned (.tuple #[]) ∧ ∃ d', RotOf d d' a (m - a) (b - m) ∧ PermIn a b d d' ∧ SWK evEnc 3 w0 blk 0 d' w' := by
  have S0 := Lib.hid S
  have P0 := Lib.hid (permIn_refl d a b)
  obtain ⟨i0, hi0⟩ : ∃ i0, i0 = m - a := ⟨_, rfl⟩
  obtain ⟨j0, hj0⟩ : ∃ j0, j0 = b - m := ⟨_, rfl⟩
  have Z0 := Lib.hid (show ∀ d', RotOf d d' (m - i0) i0 j0 → RotOf d d' a (m - a) (b - m) from fun d' h => by rw [hi0, hj0, show m - (m - a) = a by omega] at h; exact h)
  have e1 : (m : Int) - (a : Int) = (i0 : Int) := by omega
  have e2 : (b : Int) - (m : Int) = (j0 : Int) := by omega
  have hi1 : i0 ≤ m - a ∧ 0 < i0 := by omega
  have hj1 : j0 ≤ b - m ∧ 0 < j0 := by omega
  clear S hi0 hj0
  go_enter Tryz.func272, Tryz.ntmps272
  go_wp2_with fail
  go_loopg [10, 11] (i0 + j0) (fun gk vi vj wr => ∃ (i j : Nat) (dk : Array Ev), gk = i + j ∧ vi = .int .i64 i ∧ vj = .int .i64 j ∧ 0 < i ∧ 0 < j ∧ i ≤ m - a ∧ j ≤ b - m ∧ dk.size = N ∧ Hid (∀ d', RotOf dk d' (m - i) i j → RotOf d d' a (m - a) (b - m)) ∧ Hid (PermIn a b d dk) ∧ Hid (SWK evEnc 3 w0 blk 0 dk wr))
  case atStart => exact ⟨i0, j0, d, rfl, rfl, rfl, hi1.2, hj1.2, hi1.1, hj1.1, hd, Z0, P0, S0⟩
  case round =>
    obtain ⟨i, j, dk, rfl, rfl, rfl, hi, hj, him, hjb, hdk, Z1, P1, S1⟩ := hrel
    clear S0 P0 Z0 e1 e2 hi1 hj1
    obtain ⟨lo, hlo⟩ : ∃ lo, lo = m - i := ⟨_, rfl⟩
    have e1 : (m : Int) - (i : Int) = (lo : Int) := by omega
    have HLO := Lib.hid hlo
    have hlm : lo + i = m := by omega
    have HLM := Lib.hid hlm
    have hal : a ≤ lo := by omega
    clear hlo hlm
    by_cases hij : i = j
    · subst hij
      go_wp2_with fail
      refine (swapRange_ev gq blk cap lo m i N d0 dk w0 _ R hd0 hdk S1.out (by have := HLM.out; omega) (by omega) hsz).mono ?_
      rintro e w1 ⟨rfl, d1, W1, Q1, S2⟩
      go_wp2_with fail
      go_end0
      refine ⟨rfl, d1, Z1.out d1 ?_, permIn_trans _ _ _ _ _ P1.out (permIn_mono _ _ _ _ _ _ hal (by omega) (by omega) Q1), S2⟩
      have := HLM.out
      rw [← HLO.out]
      exact RotOf.last (by rw [this]; exact W1)
    · by_cases hji : j < i
      · have hz : ¬ (i : Int) = (j : Int) := by omega
        have hz2 : (j : Int) < (i : Int) := by omega
        obtain ⟨k, hk⟩ : ∃ k, k = i - j := ⟨_, rfl⟩
        have e3 : (i : Int) - (j : Int) = (k : Int) := by omega
        have HK := Lib.hid hk
        have hk0 : 0 < k := by omega
        clear hk
        go_wp2_with fail
        refine (swapRange_ev gq blk cap lo m j N d0 dk w0 _ R hd0 hdk S1.out (by have := HLM.out; omega) (by omega) hsz).mono ?_
        rintro e w1 ⟨rfl, d1, W1, Q1, S2⟩
        go_wp2_with fail
        go_roundg (k + j)
        case measure => have := HK.out; omega
        case rel =>
          refine ⟨k, j, d1, rfl, rfl, rfl, hk0, hj, by have := HK.out; omega, hjb, by rw [Q1.1]; exact hdk, ?_, permIn_trans _ _ _ _ _ P1.out (permIn_mono _ _ _ _ _ _ hal (by omega) (by omega) Q1), S2⟩
          show ∀ d', _ → _
          intro d' h
          refine Z1.out d' ?_
          have := HLM.out
          have hk := HK.out
          rw [← HLO.out]
          refine RotOf.left (by rw [this]; exact W1) hji ?_
          rw [← hk, show lo + j = m - k by omega]
          exact h
      · have hz : ¬ (i : Int) = (j : Int) := by omega
        have hz2 : ¬ (j : Int) < (i : Int) := by omega
        obtain ⟨k, hk⟩ : ∃ k, k = j - i := ⟨_, rfl⟩
        have e3 : (j : Int) - (i : Int) = (k : Int) := by omega
        obtain ⟨q, hq⟩ : ∃ q, q = m + j - i := ⟨_, rfl⟩
        have e4 : (m : Int) + (j : Int) - (i : Int) = (q : Int) := by omega
        have HK := Lib.hid hk
        have HQ := Lib.hid hq
        have hk0 : 0 < k := by omega
        have hqN : q + i ≤ N := by omega
        clear hk hq
        go_wp2_with fail
        refine (swapRange_ev gq blk cap lo q i N d0 dk w0 _ R hd0 hdk S1.out (by have := HLM.out; have := HQ.out; omega) hqN hsz).mono ?_
        rintro e w1 ⟨rfl, d1, W1, Q1, S2⟩
        go_wp2_with fail
        go_roundg (i + k)
        case measure => have := HK.out; omega
        case rel =>
          refine ⟨i, k, d1, rfl, rfl, rfl, hi, hk0, him, by have := HK.out; omega, by rw [Q1.1]; exact hdk, ?_, permIn_trans _ _ _ _ _ P1.out (permIn_mono _ _ _ _ _ _ hal (by have := HQ.out; omega) (by omega) Q1), S2⟩
          show ∀ d', _ → _
          intro d' h
          refine Z1.out d' ?_
          have hl := HLM.out
          have hq := HQ.out
          have hk := HK.out
          rw [← HLO.out]
          refine RotOf.right (by rw [show lo + j = q by omega]; exact W1) (by omega) ?_
          rw [← hk, HLO.out]
          exact h

end Go.Proofs.YtdgpbpbjlnlijaaGreatDoor

/- the pairs as a row of cells; the comparisons of starts and of pairs -/
namespace Go.Proofs.YtdgpbpbjlnlijaaGreatDoor
open Go.RowKit Go.Shelf Go.Sort

instance : Inhabited Pair := ⟨⟨0, 0, 0, 0⟩⟩
def pairEnc (x : Pair) : List Value := [.int .i64 x.a, .int .i64 x.b, .int .i64 x.from_, .int .i64 x.to_]
def okP (x : Pair) : Prop := (x.a ≤ 1048576 ∧ x.b ≤ 1048576) ∧ (-9223372036854775808 ≤ x.from_ ∧ x.from_ ≤ 9223372036854775807) ∧ (-9223372036854775808 ≤ x.to_ ∧ x.to_ ≤ 9223372036854775807)
def Rep.pair : Rep Pair where
  size := 4
  holds _ cs x := cs = pairEnc x ∧ okP x
  len := by rintro w cs x ⟨rfl, _⟩; rfl
  ext := by rintro w w' cs x h _; exact h
  one := by rintro w cs x ⟨rfl, _⟩; simp [pairEnc, Value.oneCell']
theorem flat_pair : Rep.pair.flat := fun _ _ _ _ h => h

set_option maxHeartbeats 1000000 in
theorem cmpEv_any (x y : Ev) (w : World) : Calls Tryz.prog 171 #[.agg (evEnc x).toArray, .agg (evEnc y).toArray] w fun e w' => e = .returned (.int .i64 (cmpEv x y)) ∧ Gro w w' := by
  unfold evEnc cmpEv
  generalize sideI x.side = s1
  generalize sideI y.side = s2
  obtain ⟨_, i1, f1, _⟩ := x
  obtain ⟨_, i2, f2, _⟩ := y
  dsimp only
  go_enter Tryz.func171, Tryz.ntmps171
  go_wp2_with fail
  refine (compare_int _ _ _).mono ?_
  rintro e w1 ⟨rfl, rfl⟩
  go_wp2_with fail
  go_ret
  exact ⟨rfl, ((Gro.refl w).alloc _).alloc _⟩

set_option maxHeartbeats 4000000 in
theorem comparePairs_any (x y : Pair) (w : World) : Calls Tryz.prog 175 #[.agg (pairEnc x).toArray, .agg (pairEnc y).toArray] w fun e w' => e = .returned (.int .i64 (cmpPair x y)) ∧ Gro w w' := by
  obtain ⟨a1, b1, f1, t1⟩ := x
  obtain ⟨a2, b2, f2, t2⟩ := y
  have hor : cmpPair ⟨a1, b1, f1, t1⟩ ⟨a2, b2, f2, t2⟩ = orI [cmpI f1 f2, cmpI a1 a2, cmpI b1 b2] := by
    simp only [cmpPair, orI]
    (repeat' split) <;> simp_all
  have HO := Lib.hid hor
  clear hor
  unfold pairEnc
  dsimp only
  go_enter Tryz.func175, Tryz.ntmps175
  go_wp2_with fail
  have c1 : ((w.alloc (.cells #[.int .i64 a1, .int .i64 b1, .int .i64 f1, .int .i64 t1] 181)).alloc (.cells #[.int .i64 a2, .int .i64 b2, .int .i64 f2, .int .i64 t2] 181)).cell? ⟨w.heap.size, 0, none⟩ = some (.int .i64 a1) := by go_simp
  have c2 : ((w.alloc (.cells #[.int .i64 a1, .int .i64 b1, .int .i64 f1, .int .i64 t1] 181)).alloc (.cells #[.int .i64 a2, .int .i64 b2, .int .i64 f2, .int .i64 t2] 181)).cell? ⟨w.heap.size, 1, none⟩ = some (.int .i64 b1) := by go_simp
  have c3 : ((w.alloc (.cells #[.int .i64 a1, .int .i64 b1, .int .i64 f1, .int .i64 t1] 181)).alloc (.cells #[.int .i64 a2, .int .i64 b2, .int .i64 f2, .int .i64 t2] 181)).cell? ⟨w.heap.size, 2, none⟩ = some (.int .i64 f1) := by go_simp
  have c4 : ((w.alloc (.cells #[.int .i64 a1, .int .i64 b1, .int .i64 f1, .int .i64 t1] 181)).alloc (.cells #[.int .i64 a2, .int .i64 b2, .int .i64 f2, .int .i64 t2] 181)).cell? ⟨w.heap.size + 1, 0, none⟩ = some (.int .i64 a2) := by go_simp
  have c5 : ((w.alloc (.cells #[.int .i64 a1, .int .i64 b1, .int .i64 f1, .int .i64 t1] 181)).alloc (.cells #[.int .i64 a2, .int .i64 b2, .int .i64 f2, .int .i64 t2] 181)).cell? ⟨w.heap.size + 1, 1, none⟩ = some (.int .i64 b2) := by go_simp
  have c6 : ((w.alloc (.cells #[.int .i64 a1, .int .i64 b1, .int .i64 f1, .int .i64 t1] 181)).alloc (.cells #[.int .i64 a2, .int .i64 b2, .int .i64 f2, .int .i64 t2] 181)).cell? ⟨w.heap.size + 1, 2, none⟩ = some (.int .i64 f2) := by go_simp
  have hxx := ((Gro.refl w).alloc (.cells #[.int .i64 a1, .int .i64 b1, .int .i64 f1, .int .i64 t1] 181)).alloc (.cells #[.int .i64 a2, .int .i64 b2, .int .i64 f2, .int .i64 t2] 181)
  generalize ((w.alloc (.cells #[.int .i64 a1, .int .i64 b1, .int .i64 f1, .int .i64 t1] 181)).alloc (.cells #[.int .i64 a2, .int .i64 b2, .int .i64 f2, .int .i64 t2] 181)) = w1 at c1 c2 c3 c4 c5 c6 hxx ⊢
  go_region_held3 (fun w' => Gro w w' ∧ w'.cell? ⟨w.heap.size, 0, none⟩ = some (.int .i64 a1) ∧ w'.cell? ⟨w.heap.size, 1, none⟩ = some (.int .i64 b1) ∧ w'.cell? ⟨w.heap.size, 2, none⟩ = some (.int .i64 f1) ∧ w'.cell? ⟨w.heap.size + 1, 0, none⟩ = some (.int .i64 a2) ∧ w'.cell? ⟨w.heap.size + 1, 1, none⟩ = some (.int .i64 b2) ∧ w'.cell? ⟨w.heap.size + 1, 2, none⟩ = some (.int .i64 f2))
    (first | exact ⟨hxx.drew, c1, c2, c3, c4, c5, c6⟩ | assumption | exact keepG6 (by assumption) ((Gro.refl _).alloc _))
    (first | (go_at_call 112; refine (compare_int _ _ _).mono ?_; rintro e w2 ⟨rfl, rfl⟩) | (go_at_call 114; refine (or_any w1.heap.size 0 3 [cmpI f1 f2, cmpI a1 a2, cmpI b1 b2] _ (by simp [maxLen]) (by exact fun k hk => or_new w1 [cmpI f1 f2, cmpI a1 a2, cmpI b1 b2] 3 k hk)).mono ?_; rintro e w2 ⟨rfl, rfl⟩))
  all_goals (obtain ⟨hfin, _⟩ := ‹Gro w _ ∧ _›)
  all_goals go_wp2_with fail
  all_goals go_ret
  all_goals rw [HO.out]
  all_goals exact ⟨rfl, hfin⟩

end Go.Proofs.YtdgpbpbjlnlijaaGreatDoor
