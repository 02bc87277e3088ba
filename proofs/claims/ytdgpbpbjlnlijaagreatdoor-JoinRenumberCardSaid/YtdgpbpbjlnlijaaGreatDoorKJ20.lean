/- joined texts of a proof: PredW, PrJ, SameT, NrmJ -/
import Derived.Test.YtdgpbpbjlnlijaaGreatDoorKJ19
import Derived.Test.YtdgpbpbjlnlijaaGreatDoorKJ01
import Derived.Test.YtdgpbpbjlnlijaaGreatDoorKJ09
import Derived.Test.YtdgpbpbjlnlijaaGreatDoorKJ03
import Derived.Test.YtdgpbpbjlnlijaaGreatDoorKJ08

/- annalistlaw0.Predicate -/
namespace Go.Proofs.YtdgpbpbjlnlijaaGreatDoor
open Go.RowKit

structure PIn (w0 wr : World) (bx base : Nat) (T : TypeId) (x0 x1 x2 x3 : Int) (u0 u : Value) (es : List ExprI) : Prop where
  own : OwnOf Rep.expr wr (fun _ => True) base T u es
  chg : Chg (fun k => u0.ownBlock = some k) w0 wr
  b0 : wr.cell? ⟨bx, 0, none⟩ = some (.int .u16 x0)
  b1 : wr.cell? ⟨bx, 1, none⟩ = some (.int .u16 x1)
  b2 : wr.cell? ⟨bx, 2, none⟩ = some (.int .u16 x2)
  b3 : wr.cell? ⟨bx, 3, none⟩ = some (.int .u16 x3)
  ne : ∀ k, u.ownBlock = some k → k ≠ bx ∧ (u0.ownBlock = some k ∨ w0.heap.size ≤ k)
  hb : base ≤ wr.heap.size
section
variable {w0 wr w' : World} {bx base : Nat} {T : TypeId} {x0 x1 x2 x3 : Int} {u0 u : Value} {es ys : List ExprI}
theorem PIn.ext (h : PIn w0 wr bx base T x0 x1 x2 x3 u0 u es) (hx : Ext wr w') : PIn w0 w' bx base T x0 x1 x2 x3 u0 u es :=
  ⟨h.own.ext hx, h.chg.ext hx, hx.at h.b0, hx.at h.b1, hx.at h.b2, hx.at h.b3, h.ne, Nat.le_trans h.hb hx.size⟩
theorem PIn.push (h : PIn w0 wr bx base T x0 x1 x2 x3 u0 u es) {g a b : Nat} (own : OwnOf Rep.expr w' (fun _ => True) base T (.slice (some ⟨g, 0, none⟩) a b) ys) (gr : wr.grownBy w' u.ownBlock) (hg : u.ownBlock = some g ∨ g = wr.heap.size) :
    PIn w0 w' bx base T x0 x1 x2 x3 u0 (.slice (some ⟨g, 0, none⟩) a b) ys := by
  have hne : ∀ k, u.ownBlock = some k → k ≠ bx := fun k hk => (h.ne k hk).1
  refine ⟨own, h.chg.grown gr fun k hk => (h.ne k hk).2, cell_grown gr h.b0 hne, cell_grown gr h.b1 hne, cell_grown gr h.b2 hne, cell_grown gr h.b3 hne, fun k hk => ?_, Nat.le_trans h.hb gr.size⟩
  have e : g = k := Option.some.inj hk
  subst e
  rcases hg with hg | hg
  · exact h.ne g hg
  · have h1 := cell_lt h.b0
    have h2 := h.chg.size
    exact ⟨by omega, .inr (by omega)⟩
end
theorem keepC2 {wa wb : World} {p1 p2 : Addr} {v1 v2 : Value} (h : wa.cell? p1 = some v1 ∧ wa.cell? p2 = some v2) (hx : Ext wa wb) : wb.cell? p1 = some v1 ∧ wb.cell? p2 = some v2 := ⟨hx.at h.1, hx.at h.2⟩
def selE (kinds : List Int) (x2 x3 : Int) (i k : Nat) : ExprI := if kinds.getD i 0 = kinds.getD k 0 ∧ x2 % 5 < 3 then ⟨2, 0, 0, k, nV⟩ else ⟨1, 0, 0, 0, constV (kinds.getD i 0) x3⟩
/-- the expressions of a predicate behind n others -/
def predL (kinds : List Int) (x0 x1 x2 x3 : Int) (n : Nat) : List ExprI :=
  [⟨2, 0, 0, pickI x0 kinds.length, nV⟩] ++ if x2 % 5 = 0 then [⟨11, n, 0, 0, nV⟩] else
    [selE kinds x2 x3 (pickI x0 kinds.length).toNat (pickI x1 kinds.length).toNat, ⟨if x2 % 2 = 0 then 7 else 6, n, n + 1, 0, nV⟩] ++ if x3 % 4 = 0 then [⟨10, n + 2, 0, 0, nV⟩] else []
theorem okI_small {z : Int} (h : 0 ≤ z ∧ z ≤ 1000000) : okI z := by unfold okI; omega
theorem info_exprP : (Tryz.prog.info? 73).map (fun i => (i.zero, i.size, i.bytes)) = some (some (.agg #[.int .i64 0, .int .i64 0, .int .i64 0, .int .i64 0, .int .i64 0, .int .i64 0, .string ByteArray.empty]), Rep.expr.size, 64) := by kernel_rfl

/-- the expressions with the predicate behind them, in a row of one's own, and the predicate's index -/
def PredPost (u : Value) (w : World) (base : Nat) (full : List ExprI) (e : Ending) (w' : World) : Prop :=
  ∃ u', e = .returned (.tuple #[u', .int .i64 ((full.length - 1 : Nat) : Int)]) ∧ OwnOf Rep.expr w' (fun _ => True) base 73 u' full ∧ Chg (fun k => u.ownBlock = some k) w w' ∧ ∀ k, u'.ownBlock = some k → u.ownBlock = some k ∨ w.heap.size ≤ k
theorem PIn.fin {w0 wr : World} {bx base : Nat} {x0 x1 x2 x3 : Int} {u0 u : Value} {es full : List ExprI} (h : PIn w0 wr bx base 73 x0 x1 x2 x3 u0 u es) (hf : full = es) {z : Int} (hz : z = ((es.length - 1 : Nat) : Int)) : PredPost u0 w0 base full (.returned (.tuple #[u, .int .i64 z])) wr := by
  subst hf hz
  exact ⟨u, rfl, h.own, h.chg, fun k hk => (h.ne k hk).2⟩
set_option maxRecDepth 100000 in
set_option maxHeartbeats 8000000 in
theorem predicate_own (u : Value) (es : List ExprI) (kv : Value) (kinds : List Int) (x0 x1 x2 x3 : Int) (base : Nat) (w : World) (own : OwnOf Rep.expr w (fun _ => True) base 73 u es) (hb : base ≤ w.heap.size) (hkv : SliceOf Rep.int (on w (fun k => u.ownBlock ≠ some k)) kv kinds)
    (hk0 : 0 < kinds.length) (hk1 : kinds.length ≤ 1000) (hes : es.length ≤ 100000) (h0 : 0 ≤ x0 ∧ x0 ≤ 65535) (h1 : 0 ≤ x1 ∧ x1 ≤ 65535) (h2 : 0 ≤ x2 ∧ x2 ≤ 65535) (h3 : 0 ≤ x3 ∧ x3 ≤ 65535) :
    Calls Tryz.prog 79 #[u, kv, .agg #[.int .u16 x0, .int .u16 x1, .int .u16 x2, .int .u16 x3]] w (PredPost u w base (es ++ predL kinds x0 x1 x2 x3 es.length)) := by
  obtain ⟨i7, hi7, hz70, hz71, hz72⟩ := info_parts info_exprP
  have HX := Lib.hid (And.intro h0 (And.intro h1 (And.intro h2 h3)))
  obtain ⟨n, hn⟩ : ∃ n, n = kinds.length := ⟨_, rfl⟩
  obtain ⟨i, hi⟩ : ∃ i : Nat, pickI x0 n = i := ⟨(pickI x0 n).toNat, by have := pick_rng (k := x0) (n := n) (by omega); omega⟩
  obtain ⟨k, hk⟩ : ∃ k : Nat, pickI x1 n = k := ⟨(pickI x1 n).toNat, by have := pick_rng (k := x1) (n := n) (by omega); omega⟩
  have hin : i < n := by have := pick_rng (k := x0) (n := n) (by omega); omega
  have hkn : k < n := by have := pick_rng (k := x1) (n := n) (by omega); omega
  have HI := Lib.hid hi
  have HK := Lib.hid hk
  obtain ⟨m, hm⟩ : ∃ m, m = es.length := ⟨_, rfl⟩
  have hpl : predL kinds x0 x1 x2 x3 m = [⟨2, 0, 0, i, nV⟩] ++ if x2 % 5 = 0 then [⟨11, m, 0, 0, nV⟩] else [selE kinds x2 x3 i k, ⟨if x2 % 2 = 0 then 7 else 6, m, m + 1, 0, nV⟩] ++ if x3 % 4 = 0 then [⟨10, m + 2, 0, 0, nV⟩] else [] := by
    unfold predL
    rw [← hn, hi, hk]
    rfl
  rw [← hm, hpl]
  obtain ⟨full, hfull⟩ : ∃ z, z = es ++ ([⟨2, 0, 0, i, nV⟩] ++ if x2 % 5 = 0 then [⟨11, m, 0, 0, nV⟩] else [selE kinds x2 x3 i k, ⟨if x2 % 2 = 0 then 7 else 6, m, m + 1, 0, nV⟩] ++ if x3 % 4 = 0 then [⟨10, m + 2, 0, 0, nV⟩] else []) := ⟨_, rfl⟩
  rw [← hfull]
  obtain ⟨pk, ck, rfl, hk1', hk2', hk3'⟩ := hkv.form
  rw [← hn] at hkv hk3' hk1 ⊢
  obtain ⟨bk, ok, rfl⟩ := hk3' (by decide) (by omega)
  have hki := (int_at (by have h := hkv; rw [hn] at h; exact h) i (by omega))
  have hkk := (int_at (by have h := hkv; rw [hn] at h; exact h) k (by omega))
  have hgi : kinds.getD i 0 = kinds[i]'(by omega) := by rw [List.getD_eq_getElem?_getD, List.getElem?_eq_getElem (by omega)]; rfl
  have hgk : kinds.getD k 0 = kinds[k]'(by omega) := by rw [List.getD_eq_getElem?_getD, List.getElem?_eq_getElem (by omega)]; rfl
  rw [← hgi] at hki
  rw [← hgk] at hkk
  unfold selE at hfull
  generalize kinds.getD i 0 = ki at hki hfull
  generalize kinds.getD k 0 = kk at hkk hfull
  have HFULL := Lib.hid hfull
  have HKI := Lib.hid hki
  have HKK := Lib.hid hkk
  have HM := Lib.hid hm
  have HOW := Lib.hid own
  have HBA := Lib.hid hb
  have hml : m ≤ 100000 := by omega
  obtain ⟨pe, ce, rfl, _⟩ := own.slice.form
  rw [← hm] at HOW HKI HKK ⊢
  clear hfull hgi hgk hki hkk own hkv hk1' hk2' hk3' hpl hi hk hn hm hk0 hes hb
  go_enter Tryz.func79, Tryz.ntmps79
  go_wp2_with fail
  have hS0 : Ext w (w.alloc (.cells #[.int .u16 x0, .int .u16 x1, .int .u16 x2, .int .u16 x3] 64)).drew ∧ (w.alloc (.cells #[.int .u16 x0, .int .u16 x1, .int .u16 x2, .int .u16 x3] 64)).drew.cell? ⟨w.heap.size, 0, none⟩ = some (.int .u16 x0) ∧ (w.alloc (.cells #[.int .u16 x0, .int .u16 x1, .int .u16 x2, .int .u16 x3] 64)).drew.cell? ⟨w.heap.size, 1, none⟩ = some (.int .u16 x1) ∧ (w.alloc (.cells #[.int .u16 x0, .int .u16 x1, .int .u16 x2, .int .u16 x3] 64)).drew.cell? ⟨w.heap.size, 2, none⟩ = some (.int .u16 x2) ∧ (w.alloc (.cells #[.int .u16 x0, .int .u16 x1, .int .u16 x2, .int .u16 x3] 64)).drew.cell? ⟨w.heap.size, 3, none⟩ = some (.int .u16 x3) := ⟨((Ext.refl w).alloc _).drew, by go_simp, by go_simp, by go_simp, by go_simp⟩
  have r0 := HX.out.1
  have r1 := HX.out.2.1
  obtain ⟨q0, q1⟩ := r0
  obtain ⟨q2, q3⟩ := r1
  have wr0 : IntKind.i64.wrap x0 = x0 := by rw [IntKind.wrap_i64]; omega
  have wr1 : IntKind.i64.wrap x1 = x1 := by rw [IntKind.wrap_i64]; omega
  go_region_held3 (fun w' => Ext w w' ∧ w'.cell? ⟨w.heap.size, 0, none⟩ = some (.int .u16 x0) ∧ w'.cell? ⟨w.heap.size, 1, none⟩ = some (.int .u16 x1) ∧ w'.cell? ⟨w.heap.size, 2, none⟩ = some (.int .u16 x2) ∧ w'.cell? ⟨w.heap.size, 3, none⟩ = some (.int .u16 x3))
    (first | with_reducible assumption)
    (first
      | (go_at_call 124; (with_reducible refine (pick_any x0 n _ (by omega) (by omega) (by omega) (by omega)).mono ?_); rintro e wz ⟨rfl, rfl⟩; rw [HI.out])
      | (go_at_call 124; (with_reducible refine (pick_any x1 n _ (by omega) (by omega) (by omega) (by omega)).mono ?_); rintro e wz ⟨rfl, rfl⟩; rw [HK.out]))
  all_goals
    obtain ⟨bx, hbx⟩ : ∃ z, z = w.heap.size := ⟨_, rfl⟩
    obtain ⟨W1, hW1⟩ : ∃ W1, W1 = (w.alloc (.cells #[.int .u16 x0, .int .u16 x1, .int .u16 x2, .int .u16 x3] 64)).drew := ⟨_, rfl⟩
    rw [← hbx, ← hW1] at hS0
    have PI := Lib.hid (show PIn w W1 bx base 73 x0 x1 x2 x3 (.slice pe m ce) (.slice pe m ce) es from
      ⟨HOW.out.ext hS0.1, hS0.1.chg _, hS0.2.1, hS0.2.2.1, hS0.2.2.2.1, hS0.2.2.2.2, fun k hk => ⟨by have := (HOW.out.lt k hk).2; omega, .inl hk⟩, Nat.le_trans HBA.out hS0.1.size⟩)
    have e0 := cell_lt hS0.2.1
    rw [← hbx, ← hW1]
    have HBX := Lib.hid hbx
    have A1 : es.length + 1 ≤ maxLen := by have := HM.out; unfold maxLen; omega
    have A2 : (es.length + 1) * 64 ≤ 140737488355328 := by have := HM.out; omega
    have hii : okI (i : Int) := by unfold okI; omega
    have HII := Lib.hid hii
    clear hS0 hW1 hbx q0 q1 q2 q3 wr0 wr1 hii HOW HI HK
    go_wp2_with (at_builtin; go_loud (refine wpList_append_one Rep.expr (fun _ => True) rfl _ _ 23 rfl base 73 i7 _ 64 Tryz.underlying23 hi7 hz70 hz71 hz72 rfl (by decide) (.slice pe m ce) es rfl (PI.out.own.ext ((Ext.refl _).alloc _)) ⟨_, 0, none⟩ 1 ⟨2, 0, 0, i, nV⟩ [.int .i64 2, .int .i64 0, .int .i64 0, .int .i64 i, .int .i64 0, .int .i64 0, .string ⟨#[]⟩] rfl ⟨rfl, ⟨okI_small (z := 2) (by decide), okI_small (z := 0) (by decide), okI_small (z := 0) (by decide), HII.out⟩, ok_nV⟩ (by exact cells_new _ [.int .i64 2, .int .i64 0, .int .i64 0, .int .i64 i, .int .i64 0, .int .i64 0, .string ⟨#[]⟩] _) A1 A2 (Nat.le_trans PI.out.hb ((Ext.refl _).alloc _).size) ?_))
    intro g2 cap2 w2 own2 gr2 hg2
    rw [← HM.out] at own2 ⊢
    have PJ := Lib.hid ((PI.out.ext ((Ext.refl _).alloc _)).push own2 gr2 (by rcases hg2 with h | h; exact .inl h; exact .inr (by rw [h]; simp)))
    clear own2 gr2 hg2 PI e0 A1 A2
    have b2 := PJ.out.b2
    have b3 := PJ.out.b3
    have e1 := cell_lt b2
    obtain ⟨es2, hes2⟩ : ∃ z, z = es ++ [(⟨2, 0, 0, i, nV⟩ : ExprI)] := ⟨_, rfl⟩
    rw [← hes2] at PJ
    have HE2 := Lib.hid hes2
    have HLes2 := Lib.hid (show es2.length = m + 1 from by rw [hes2, List.length_append, ← HM.out]; rfl)
    have kc0 := PJ.out.chg.at (on_some.1 HKI.out.1).2 (on_some.1 HKI.out.1).1
    have kc1 := PJ.out.chg.at (on_some.1 HKK.out.1).2 (on_some.1 HKK.out.1).1
    have hinI : (i : Int) < (n : Int) := by omega
    have hknI : (k : Int) < (n : Int) := by omega
    clear hes2
    by_cases c1 : x2 % 5 = 0
    · have hb1 : (x2 % 5 == 0) = true := by simp [c1]
      have A1 : es2.length + 1 ≤ maxLen := by have := HLes2.out; unfold maxLen; omega
      have A2 : (es2.length + 1) * 64 ≤ 140737488355328 := by have := HLes2.out; omega
      go_wp2_with (at_builtin; go_loud (refine wpList_append_one Rep.expr (fun _ => True) rfl _ _ 23 rfl base 73 i7 _ 64 Tryz.underlying23 hi7 hz70 hz71 hz72 rfl (by decide) (.slice (some ⟨g2, 0, none⟩) (m + 1) cap2) es2 rfl (PJ.out.own.ext ((Ext.refl _).alloc _)) ⟨_, 0, none⟩ 1 ⟨11, m, 0, 0, nV⟩ [.int .i64 11, .int .i64 m, .int .i64 0, .int .i64 0, .int .i64 0, .int .i64 0, .string ⟨#[]⟩] rfl ⟨rfl, ⟨okI_small (z := 11) (by decide), (show okI (m : Int) from by unfold okI; omega), okI_small (z := 0) (by decide), okI_small (z := 0) (by decide)⟩, ok_nV⟩ (by exact cells_new _ [.int .i64 11, .int .i64 m, .int .i64 0, .int .i64 0, .int .i64 0, .int .i64 0, .string ⟨#[]⟩] _) A1 A2 (Nat.le_trans PJ.out.hb ((Ext.refl _).alloc _).size) ?_))
      intro g3 cap3 w3 own3 gr3 hg3
      rw [HLes2.out] at own3 ⊢
      have PK0 := Lib.hid ((PJ.out.ext ((Ext.refl _).alloc _)).push own3 gr3 (by rcases hg3 with h | h; exact .inl h; exact .inr (by rw [h]; simp)))
      obtain ⟨es3, hes3⟩ : ∃ z, z = es2 ++ [⟨11, m, 0, 0, nV⟩] := ⟨_, rfl⟩
      rw [← hes3] at PK0
      have PK := PK0
      have HE3 := Lib.hid hes3
      have HLes3 := Lib.hid (show es3.length = m + 1 + 1 from by rw [hes3, List.length_append, HLes2.out]; rfl)
      clear own3 gr3 hg3 PJ A1 A2 hes3 PK0 b2 b3 e1
      have HLLAST := HLes3
      go_wp2_with fail
      exact bodyPost_ret (v := .tuple #[.slice (some ⟨g3, 0, none⟩) (m + 1 + 1) cap3, .int .i64 ((m : Int) + 1)]) (by simp [results, Tryz.results79, go_sem]) rfl (PK.out.fin (by rw [HE3.out, HE2.out, HFULL.out, if_pos c1]; simp) (by have h := HLLAST.out; omega))
    · have hb1 : (x2 % 5 == 0) = false := by simp [c1]
      by_cases c2 : ki = kk
      · have hb2 : (ki == kk) = true := by simp [c2]
        have C2 := Lib.hid c2
        clear c2
        by_cases c3 : x2 % 5 < 3
        · have hb3 : decide (x2 % 5 < 3) = true := by simp [c3]
          go_wp2_with fail
          go_quiet (fail)
          have PK := Lib.hid (PJ.out.ext ((Ext.refl w2).drewN nq))
          clear b2 b3 e1 kc0 kc1 PJ
          have A1 : es2.length + 1 ≤ maxLen := by have := HLes2.out; unfold maxLen; omega
          have A2 : (es2.length + 1) * 64 ≤ 140737488355328 := by have := HLes2.out; omega
          go_wp2_with (at_builtin; go_loud (refine wpList_append_one Rep.expr (fun _ => True) rfl _ _ 23 rfl base 73 i7 _ 64 Tryz.underlying23 hi7 hz70 hz71 hz72 rfl (by decide) (.slice (some ⟨g2, 0, none⟩) (m + 1) cap2) es2 rfl (PK.out.own.ext ((Ext.refl _).alloc _)) ⟨_, 0, none⟩ 1 ⟨2, 0, 0, k, nV⟩ [.int .i64 2, .int .i64 0, .int .i64 0, .int .i64 k, .int .i64 0, .int .i64 0, .string ⟨#[]⟩] rfl ⟨rfl, ⟨okI_small (z := 2) (by decide), okI_small (z := 0) (by decide), okI_small (z := 0) (by decide), (show okI (k : Int) from by unfold okI; omega)⟩, ok_nV⟩ (by exact cells_new _ [.int .i64 2, .int .i64 0, .int .i64 0, .int .i64 k, .int .i64 0, .int .i64 0, .string ⟨#[]⟩] _) A1 A2 (Nat.le_trans PK.out.hb ((Ext.refl _).alloc _).size) ?_))
          intro g4 cap4 w4 own4 gr4 hg4
          rw [HLes2.out] at own4 ⊢
          have PL0 := Lib.hid ((PK.out.ext ((Ext.refl _).alloc _)).push own4 gr4 (by rcases hg4 with h | h; exact .inl h; exact .inr (by rw [h]; simp)))
          obtain ⟨es4, hes4⟩ : ∃ z, z = es2 ++ [⟨2, 0, 0, k, nV⟩] := ⟨_, rfl⟩
          rw [← hes4] at PL0
          have PL := PL0
          have HE4 := Lib.hid hes4
          have HLes4 := Lib.hid (show es4.length = m + 1 + 1 from by rw [hes4, List.length_append, HLes2.out]; rfl)
          clear own4 gr4 hg4 PK A1 A2 hes4 PL0 
          by_cases c4 : x2 % 2 = 0
          · have hb4 : (x2 % 2 == 0) = true := by simp [c4]
            have b2 := PL.out.b2
            have b3 := PL.out.b3
            have e2 := cell_lt b2
            have hmI : okI ((m : Int) + 1) := by unfold okI; omega
            have A1 : es4.length + 1 ≤ maxLen := by have := HLes4.out; unfold maxLen; omega
            have A2 : (es4.length + 1) * 64 ≤ 140737488355328 := by have := HLes4.out; omega
            go_wp2_with (at_builtin; go_loud (refine wpList_append_one Rep.expr (fun _ => True) rfl _ _ 23 rfl base 73 i7 _ 64 Tryz.underlying23 hi7 hz70 hz71 hz72 rfl (by decide) (.slice (some ⟨g4, 0, none⟩) (m + 1 + 1) cap4) es4 rfl (PL.out.own.ext ((Ext.refl _).alloc _)) ⟨_, 0, none⟩ 1 ⟨7, m, (m : Int) + 1, 0, nV⟩ [.int .i64 7, .int .i64 m, .int .i64 ((m : Int) + 1), .int .i64 0, .int .i64 0, .int .i64 0, .string ⟨#[]⟩] rfl ⟨rfl, ⟨okI_small (z := 7) (by decide), (show okI (m : Int) from by unfold okI; omega), hmI, okI_small (z := 0) (by decide)⟩, ok_nV⟩ (by exact cells_new _ [.int .i64 7, .int .i64 m, .int .i64 ((m : Int) + 1), .int .i64 0, .int .i64 0, .int .i64 0, .string ⟨#[]⟩] _) A1 A2 (Nat.le_trans PL.out.hb ((Ext.refl _).alloc _).size) ?_))
            intro g5 cap5 w5 own5 gr5 hg5
            rw [HLes4.out] at own5 ⊢
            have PM0 := Lib.hid ((PL.out.ext ((Ext.refl _).alloc _)).push own5 gr5 (by rcases hg5 with h | h; exact .inl h; exact .inr (by rw [h]; simp)))
            obtain ⟨es5, hes5⟩ : ∃ z, z = es4 ++ [⟨7, m, (m : Int) + 1, 0, nV⟩] := ⟨_, rfl⟩
            rw [← hes5] at PM0
            have PM := PM0
            have HE5 := Lib.hid hes5
            have HLes5 := Lib.hid (show es5.length = m + 1 + 1 + 1 from by rw [hes5, List.length_append, HLes4.out]; rfl)
            clear own5 gr5 hg5 PL A1 A2 hes5 PM0 b2 b3 e2 hmI
            have b3 := PM.out.b3
            have e3 := cell_lt b3
            by_cases c5 : x3 % 4 = 0
            · have hb5 : (x3 % 4 == 0) = true := by simp [c5]
              have hmJ : okI ((m : Int) + 2) := by unfold okI; omega
              have A1 : es5.length + 1 ≤ maxLen := by have := HLes5.out; unfold maxLen; omega
              have A2 : (es5.length + 1) * 64 ≤ 140737488355328 := by have := HLes5.out; omega
              go_wp2_with (at_builtin; go_loud (refine wpList_append_one Rep.expr (fun _ => True) rfl _ _ 23 rfl base 73 i7 _ 64 Tryz.underlying23 hi7 hz70 hz71 hz72 rfl (by decide) (.slice (some ⟨g5, 0, none⟩) (m + 1 + 1 + 1) cap5) es5 rfl (PM.out.own.ext ((Ext.refl _).alloc _)) ⟨_, 0, none⟩ 1 ⟨10, (m : Int) + 2, 0, 0, nV⟩ [.int .i64 10, .int .i64 ((m : Int) + 2), .int .i64 0, .int .i64 0, .int .i64 0, .int .i64 0, .string ⟨#[]⟩] rfl ⟨rfl, ⟨okI_small (z := 10) (by decide), hmJ, okI_small (z := 0) (by decide), okI_small (z := 0) (by decide)⟩, ok_nV⟩ (by exact cells_new _ [.int .i64 10, .int .i64 ((m : Int) + 2), .int .i64 0, .int .i64 0, .int .i64 0, .int .i64 0, .string ⟨#[]⟩] _) A1 A2 (Nat.le_trans PM.out.hb ((Ext.refl _).alloc _).size) ?_))
              intro g6 cap6 w6 own6 gr6 hg6
              rw [HLes5.out] at own6 ⊢
              have PQ0 := Lib.hid ((PM.out.ext ((Ext.refl _).alloc _)).push own6 gr6 (by rcases hg6 with h | h; exact .inl h; exact .inr (by rw [h]; simp)))
              obtain ⟨es6, hes6⟩ : ∃ z, z = es5 ++ [⟨10, (m : Int) + 2, 0, 0, nV⟩] := ⟨_, rfl⟩
              rw [← hes6] at PQ0
              have PQ := PQ0
              have HE6 := Lib.hid hes6
              have HLes6 := Lib.hid (show es6.length = m + 1 + 1 + 1 + 1 from by rw [hes6, List.length_append, HLes5.out]; rfl)
              clear own6 gr6 hg6 PM A1 A2 hes6 PQ0 b3 e3 hmJ
              have HLLAST := HLes6
              go_wp2_with fail
              exact bodyPost_ret (v := .tuple #[.slice (some ⟨g6, 0, none⟩) (m + 1 + 1 + 1 + 1) cap6, .int .i64 ((m : Int) + 1 + 1 + 1)]) (by simp [results, Tryz.results79, go_sem]) rfl (PQ.out.fin (by rw [HE6.out, HE5.out, HE4.out, HE2.out, HFULL.out, if_neg c1, if_pos ⟨C2.out, c3⟩, if_pos c4, if_pos c5]; simp) (by have h := HLLAST.out; omega))
            · have hb5 : (x3 % 4 == 0) = false := by simp [c5]
              have HLLAST := HLes5
              go_wp2_with fail
              exact bodyPost_ret (v := .tuple #[.slice (some ⟨g5, 0, none⟩) (m + 1 + 1 + 1) cap5, .int .i64 ((m : Int) + 1 + 1)]) (by simp [results, Tryz.results79, go_sem]) rfl (PM.out.fin (by rw [HE5.out, HE4.out, HE2.out, HFULL.out, if_neg c1, if_pos ⟨C2.out, c3⟩, if_pos c4, if_neg c5]; simp) (by have h := HLLAST.out; omega))
          · have hb4 : (x2 % 2 == 0) = false := by simp [c4]
            have b2 := PL.out.b2
            have b3 := PL.out.b3
            have e2 := cell_lt b2
            have hmI : okI ((m : Int) + 1) := by unfold okI; omega
            have A1 : es4.length + 1 ≤ maxLen := by have := HLes4.out; unfold maxLen; omega
            have A2 : (es4.length + 1) * 64 ≤ 140737488355328 := by have := HLes4.out; omega
            go_wp2_with (at_builtin; go_loud (refine wpList_append_one Rep.expr (fun _ => True) rfl _ _ 23 rfl base 73 i7 _ 64 Tryz.underlying23 hi7 hz70 hz71 hz72 rfl (by decide) (.slice (some ⟨g4, 0, none⟩) (m + 1 + 1) cap4) es4 rfl (PL.out.own.ext ((Ext.refl _).alloc _)) ⟨_, 0, none⟩ 1 ⟨6, m, (m : Int) + 1, 0, nV⟩ [.int .i64 6, .int .i64 m, .int .i64 ((m : Int) + 1), .int .i64 0, .int .i64 0, .int .i64 0, .string ⟨#[]⟩] rfl ⟨rfl, ⟨okI_small (z := 6) (by decide), (show okI (m : Int) from by unfold okI; omega), hmI, okI_small (z := 0) (by decide)⟩, ok_nV⟩ (by exact cells_new _ [.int .i64 6, .int .i64 m, .int .i64 ((m : Int) + 1), .int .i64 0, .int .i64 0, .int .i64 0, .string ⟨#[]⟩] _) A1 A2 (Nat.le_trans PL.out.hb ((Ext.refl _).alloc _).size) ?_))
            intro g5 cap5 w5 own5 gr5 hg5
            rw [HLes4.out] at own5 ⊢
            have PM0 := Lib.hid ((PL.out.ext ((Ext.refl _).alloc _)).push own5 gr5 (by rcases hg5 with h | h; exact .inl h; exact .inr (by rw [h]; simp)))
            obtain ⟨es5, hes5⟩ : ∃ z, z = es4 ++ [⟨6, m, (m : Int) + 1, 0, nV⟩] := ⟨_, rfl⟩
            rw [← hes5] at PM0
            have PM := PM0
            have HE5 := Lib.hid hes5
            have HLes5 := Lib.hid (show es5.length = m + 1 + 1 + 1 from by rw [hes5, List.length_append, HLes4.out]; rfl)
            clear own5 gr5 hg5 PL A1 A2 hes5 PM0 b2 b3 e2 hmI
            have b3 := PM.out.b3
            have e3 := cell_lt b3
            by_cases c5 : x3 % 4 = 0
            · have hb5 : (x3 % 4 == 0) = true := by simp [c5]
              have hmJ : okI ((m : Int) + 2) := by unfold okI; omega
              have A1 : es5.length + 1 ≤ maxLen := by have := HLes5.out; unfold maxLen; omega
              have A2 : (es5.length + 1) * 64 ≤ 140737488355328 := by have := HLes5.out; omega
              go_wp2_with (at_builtin; go_loud (refine wpList_append_one Rep.expr (fun _ => True) rfl _ _ 23 rfl base 73 i7 _ 64 Tryz.underlying23 hi7 hz70 hz71 hz72 rfl (by decide) (.slice (some ⟨g5, 0, none⟩) (m + 1 + 1 + 1) cap5) es5 rfl (PM.out.own.ext ((Ext.refl _).alloc _)) ⟨_, 0, none⟩ 1 ⟨10, (m : Int) + 2, 0, 0, nV⟩ [.int .i64 10, .int .i64 ((m : Int) + 2), .int .i64 0, .int .i64 0, .int .i64 0, .int .i64 0, .string ⟨#[]⟩] rfl ⟨rfl, ⟨okI_small (z := 10) (by decide), hmJ, okI_small (z := 0) (by decide), okI_small (z := 0) (by decide)⟩, ok_nV⟩ (by exact cells_new _ [.int .i64 10, .int .i64 ((m : Int) + 2), .int .i64 0, .int .i64 0, .int .i64 0, .int .i64 0, .string ⟨#[]⟩] _) A1 A2 (Nat.le_trans PM.out.hb ((Ext.refl _).alloc _).size) ?_))
              intro g6 cap6 w6 own6 gr6 hg6
              rw [HLes5.out] at own6 ⊢
              have PQ0 := Lib.hid ((PM.out.ext ((Ext.refl _).alloc _)).push own6 gr6 (by rcases hg6 with h | h; exact .inl h; exact .inr (by rw [h]; simp)))
              obtain ⟨es6, hes6⟩ : ∃ z, z = es5 ++ [⟨10, (m : Int) + 2, 0, 0, nV⟩] := ⟨_, rfl⟩
              rw [← hes6] at PQ0
              have PQ := PQ0
              have HE6 := Lib.hid hes6
              have HLes6 := Lib.hid (show es6.length = m + 1 + 1 + 1 + 1 from by rw [hes6, List.length_append, HLes5.out]; rfl)
              clear own6 gr6 hg6 PM A1 A2 hes6 PQ0 b3 e3 hmJ
              have HLLAST := HLes6
              go_wp2_with fail
              exact bodyPost_ret (v := .tuple #[.slice (some ⟨g6, 0, none⟩) (m + 1 + 1 + 1 + 1) cap6, .int .i64 ((m : Int) + 1 + 1 + 1)]) (by simp [results, Tryz.results79, go_sem]) rfl (PQ.out.fin (by rw [HE6.out, HE5.out, HE4.out, HE2.out, HFULL.out, if_neg c1, if_pos ⟨C2.out, c3⟩, if_neg c4, if_pos c5]; simp) (by have h := HLLAST.out; omega))
            · have hb5 : (x3 % 4 == 0) = false := by simp [c5]
              have HLLAST := HLes5
              go_wp2_with fail
              exact bodyPost_ret (v := .tuple #[.slice (some ⟨g5, 0, none⟩) (m + 1 + 1 + 1) cap5, .int .i64 ((m : Int) + 1 + 1)]) (by simp [results, Tryz.results79, go_sem]) rfl (PM.out.fin (by rw [HE5.out, HE4.out, HE2.out, HFULL.out, if_neg c1, if_pos ⟨C2.out, c3⟩, if_neg c4, if_neg c5]; simp) (by have h := HLLAST.out; omega))
        · have hb3 : decide (x2 % 5 < 3) = false := by simp [c3]
          go_wp2_with fail
          go_quiet (fail)
          obtain ⟨wq, hwq⟩ : ∃ z, z = w2.drewN nq := ⟨_, rfl⟩
          have PK := Lib.hid (show PIn w wq bx base 73 x0 x1 x2 x3 (.slice pe m ce) (.slice (some ⟨g2, 0, none⟩) (m + 1) cap2) es2 from by rw [hwq]; exact PJ.out.ext ((Ext.refl w2).drewN nq))
          rw [← hwq]
          have HNB := Lib.hid (show ∀ x, (Value.slice (some ⟨g2, 0, none⟩) (m + 1) cap2).ownBlock = some x → x ≠ bk ∧ x ≠ bx from fun x hx => ⟨fun e => by
            have h1 := (PJ.out.ne x hx).2
            have h2 := on_some.1 HKI.out.1
            have h3 := cell_lt h2.2
            rcases h1 with h1 | h1
            · exact h2.1 (by rw [h1, e])
            · omega, (PJ.out.ne x hx).1⟩)
          have hS0 : wq.drew.cell? ⟨bk, ok + i, none⟩ = some (.int .i64 ki) ∧ wq.drew.cell? ⟨bx, 3, none⟩ = some (.int .u16 x3) := ⟨PK.out.chg.drew.at (on_some.1 HKI.out.1).2 (on_some.1 HKI.out.1).1, (Ext.refl wq).drew.at PK.out.b3⟩
          obtain ⟨y, hy⟩ : ∃ y, y = constV ki x3 := ⟨_, rfl⟩
          have HOY := Lib.hid (show okVal y from by rw [hy]; exact ok_constV _ _)
          have HCON := Lib.hid (fun wz => constant_any ki x3 wz HX.out.2.2.2.1 HX.out.2.2.2.2)
          rw [← hy] at HCON
          have HY := Lib.hid hy
          obtain ⟨yk, yn, ys⟩ := y
          have A1 : es2.length + 1 ≤ maxLen := by have := HLes2.out; unfold maxLen; omega
          have A2 : (es2.length + 1) * 64 ≤ 140737488355328 := by have := HLes2.out; omega
          have e5 := cell_lt PK.out.b3
          clear b2 b3 e1 kc0 kc1 PJ hwq hy
          go_wp2_with fail
          go_region_held3 (fun w' => w'.cell? ⟨bk, ok + i, none⟩ = some (.int .i64 ki) ∧ w'.cell? ⟨bx, 3, none⟩ = some (.int .u16 x3))
            (first | with_reducible assumption | with_reducible exact K7 | with_reducible exact keepC2 K7 ((Ext.refl _).alloc _) | with_reducible exact K8)
            (first
              | (go_at_call 125; (with_reducible refine (HCON.out _).mono ?_); rintro e w7 ⟨rfl, x7⟩; unfold valV; dsimp only; have X7 := Lib.hid (show Ext wq w7 from (Ext.refl wq).drew.trans x7); have K7 : w7.cell? ⟨bk, ok + i, none⟩ = some (.int .i64 ki) ∧ w7.cell? ⟨bx, 3, none⟩ = some (.int .u16 x3) := ⟨x7.at hS0.1, x7.at hS0.2⟩)
              | (refine step_append_one Rep.expr (fun _ => True) rfl _ _ 23 rfl base 73 i7 _ 64 Tryz.underlying23 hi7 hz70 hz71 hz72 rfl (by decide) (.slice (some ⟨g2, 0, none⟩) (m + 1) cap2) es2 rfl (PK.out.own.ext (X7.out.alloc _)) ⟨_, 0, none⟩ 1 ⟨1, 0, 0, 0, ⟨yk, yn, ys⟩⟩ [.int .i64 1, .int .i64 0, .int .i64 0, .int .i64 0, .int .i64 yk, .int .i64 yn, .string ys] rfl ⟨rfl, ⟨okI_small (z := 1) (by decide), okI_small (z := 0) (by decide), okI_small (z := 0) (by decide), okI_small (z := 0) (by decide)⟩, HOY.out⟩ (cells_new _ [.int .i64 1, .int .i64 0, .int .i64 0, .int .i64 0, .int .i64 yk, .int .i64 yn, .string ys] _) A1 A2 (Nat.le_trans PK.out.hb (X7.out.alloc (.cells [.int .i64 1, .int .i64 0, .int .i64 0, .int .i64 0, .int .i64 yk, .int .i64 yn, .string ys].toArray 73)).size) ?_; intro g4 cap4 w4 own4 gr4 hg4; have X7a := X7.out.alloc (.cells [.int .i64 1, .int .i64 0, .int .i64 0, .int .i64 0, .int .i64 yk, .int .i64 yn, .string ys].toArray 73); have K8 : w4.cell? ⟨bk, ok + i, none⟩ = some (.int .i64 ki) ∧ w4.cell? ⟨bx, 3, none⟩ = some (.int .u16 x3) := ⟨cell_grown gr4 (((Ext.refl w7).alloc _).at K7.1) (fun x hx => (HNB.out x hx).1), cell_grown gr4 (((Ext.refl w7).alloc _).at K7.2) (fun x hx => (HNB.out x hx).2)⟩))
          rw [HLes2.out] at own4 ⊢
          have PL0 := Lib.hid ((PK.out.ext X7a).push own4 gr4 (by rcases hg4 with h | h; exact .inl h; exact .inr (by rw [h]; try simp)))
          obtain ⟨es4, hes4⟩ : ∃ z, z = es2 ++ [(⟨1, 0, 0, 0, ⟨yk, yn, ys⟩⟩ : ExprI)] := ⟨_, rfl⟩
          rw [← hes4] at PL0
          have PL := PL0
          have HE4 := Lib.hid (show es4 = es2 ++ [⟨1, 0, 0, 0, constV ki x3⟩] from by rw [hes4, HY.out])
          have HLes4 := Lib.hid (show es4.length = m + 1 + 1 from by rw [hes4, List.length_append, HLes2.out]; rfl)
          clear own4 gr4 hg4 PK A1 A2 hes4 PL0 K8 K7 X7a x7 hS0 e5
          by_cases c4 : x2 % 2 = 0
          · have hb4 : (x2 % 2 == 0) = true := by simp [c4]
            have b2 := PL.out.b2
            have b3 := PL.out.b3
            have e2 := cell_lt b2
            have hmI : okI ((m : Int) + 1) := by unfold okI; omega
            have A1 : es4.length + 1 ≤ maxLen := by have := HLes4.out; unfold maxLen; omega
            have A2 : (es4.length + 1) * 64 ≤ 140737488355328 := by have := HLes4.out; omega
            go_wp2_with (at_builtin; go_loud (refine wpList_append_one Rep.expr (fun _ => True) rfl _ _ 23 rfl base 73 i7 _ 64 Tryz.underlying23 hi7 hz70 hz71 hz72 rfl (by decide) (.slice (some ⟨g4, 0, none⟩) (m + 1 + 1) cap4) es4 rfl (PL.out.own.ext ((Ext.refl _).alloc _)) ⟨_, 0, none⟩ 1 ⟨7, m, (m : Int) + 1, 0, nV⟩ [.int .i64 7, .int .i64 m, .int .i64 ((m : Int) + 1), .int .i64 0, .int .i64 0, .int .i64 0, .string ⟨#[]⟩] rfl ⟨rfl, ⟨okI_small (z := 7) (by decide), (show okI (m : Int) from by unfold okI; omega), hmI, okI_small (z := 0) (by decide)⟩, ok_nV⟩ (by exact cells_new _ [.int .i64 7, .int .i64 m, .int .i64 ((m : Int) + 1), .int .i64 0, .int .i64 0, .int .i64 0, .string ⟨#[]⟩] _) A1 A2 (Nat.le_trans PL.out.hb ((Ext.refl _).alloc _).size) ?_))
            intro g5 cap5 w5 own5 gr5 hg5
            rw [HLes4.out] at own5 ⊢
            have PM0 := Lib.hid ((PL.out.ext ((Ext.refl _).alloc _)).push own5 gr5 (by rcases hg5 with h | h; exact .inl h; exact .inr (by rw [h]; simp)))
            obtain ⟨es5, hes5⟩ : ∃ z, z = es4 ++ [⟨7, m, (m : Int) + 1, 0, nV⟩] := ⟨_, rfl⟩
            rw [← hes5] at PM0
            have PM := PM0
            have HE5 := Lib.hid hes5
            have HLes5 := Lib.hid (show es5.length = m + 1 + 1 + 1 from by rw [hes5, List.length_append, HLes4.out]; rfl)
            clear own5 gr5 hg5 PL A1 A2 hes5 PM0 b2 b3 e2 hmI
            have b3 := PM.out.b3
            have e3 := cell_lt b3
            by_cases c5 : x3 % 4 = 0
            · have hb5 : (x3 % 4 == 0) = true := by simp [c5]
              have hmJ : okI ((m : Int) + 2) := by unfold okI; omega
              have A1 : es5.length + 1 ≤ maxLen := by have := HLes5.out; unfold maxLen; omega
              have A2 : (es5.length + 1) * 64 ≤ 140737488355328 := by have := HLes5.out; omega
              go_wp2_with (at_builtin; go_loud (refine wpList_append_one Rep.expr (fun _ => True) rfl _ _ 23 rfl base 73 i7 _ 64 Tryz.underlying23 hi7 hz70 hz71 hz72 rfl (by decide) (.slice (some ⟨g5, 0, none⟩) (m + 1 + 1 + 1) cap5) es5 rfl (PM.out.own.ext ((Ext.refl _).alloc _)) ⟨_, 0, none⟩ 1 ⟨10, (m : Int) + 2, 0, 0, nV⟩ [.int .i64 10, .int .i64 ((m : Int) + 2), .int .i64 0, .int .i64 0, .int .i64 0, .int .i64 0, .string ⟨#[]⟩] rfl ⟨rfl, ⟨okI_small (z := 10) (by decide), hmJ, okI_small (z := 0) (by decide), okI_small (z := 0) (by decide)⟩, ok_nV⟩ (by exact cells_new _ [.int .i64 10, .int .i64 ((m : Int) + 2), .int .i64 0, .int .i64 0, .int .i64 0, .int .i64 0, .string ⟨#[]⟩] _) A1 A2 (Nat.le_trans PM.out.hb ((Ext.refl _).alloc _).size) ?_))
              intro g6 cap6 w6 own6 gr6 hg6
              rw [HLes5.out] at own6 ⊢
              have PQ0 := Lib.hid ((PM.out.ext ((Ext.refl _).alloc _)).push own6 gr6 (by rcases hg6 with h | h; exact .inl h; exact .inr (by rw [h]; simp)))
              obtain ⟨es6, hes6⟩ : ∃ z, z = es5 ++ [⟨10, (m : Int) + 2, 0, 0, nV⟩] := ⟨_, rfl⟩
              rw [← hes6] at PQ0
              have PQ := PQ0
              have HE6 := Lib.hid hes6
              have HLes6 := Lib.hid (show es6.length = m + 1 + 1 + 1 + 1 from by rw [hes6, List.length_append, HLes5.out]; rfl)
              clear own6 gr6 hg6 PM A1 A2 hes6 PQ0 b3 e3 hmJ
              have HLLAST := HLes6
              go_wp2_with fail
              exact bodyPost_ret (v := .tuple #[.slice (some ⟨g6, 0, none⟩) (m + 1 + 1 + 1 + 1) cap6, .int .i64 ((m : Int) + 1 + 1 + 1)]) (by simp [results, Tryz.results79, go_sem]) rfl (PQ.out.fin (by rw [HE6.out, HE5.out, HE4.out, HE2.out, HFULL.out, if_neg c1, if_neg (fun h => by have := h.2; omega), if_pos c4, if_pos c5]; simp) (by have h := HLLAST.out; omega))
            · have hb5 : (x3 % 4 == 0) = false := by simp [c5]
              have HLLAST := HLes5
              go_wp2_with fail
              exact bodyPost_ret (v := .tuple #[.slice (some ⟨g5, 0, none⟩) (m + 1 + 1 + 1) cap5, .int .i64 ((m : Int) + 1 + 1)]) (by simp [results, Tryz.results79, go_sem]) rfl (PM.out.fin (by rw [HE5.out, HE4.out, HE2.out, HFULL.out, if_neg c1, if_neg (fun h => by have := h.2; omega), if_pos c4, if_neg c5]; simp) (by have h := HLLAST.out; omega))
          · have hb4 : (x2 % 2 == 0) = false := by simp [c4]
            have b2 := PL.out.b2
            have b3 := PL.out.b3
            have e2 := cell_lt b2
            have hmI : okI ((m : Int) + 1) := by unfold okI; omega
            have A1 : es4.length + 1 ≤ maxLen := by have := HLes4.out; unfold maxLen; omega
            have A2 : (es4.length + 1) * 64 ≤ 140737488355328 := by have := HLes4.out; omega
            go_wp2_with (at_builtin; go_loud (refine wpList_append_one Rep.expr (fun _ => True) rfl _ _ 23 rfl base 73 i7 _ 64 Tryz.underlying23 hi7 hz70 hz71 hz72 rfl (by decide) (.slice (some ⟨g4, 0, none⟩) (m + 1 + 1) cap4) es4 rfl (PL.out.own.ext ((Ext.refl _).alloc _)) ⟨_, 0, none⟩ 1 ⟨6, m, (m : Int) + 1, 0, nV⟩ [.int .i64 6, .int .i64 m, .int .i64 ((m : Int) + 1), .int .i64 0, .int .i64 0, .int .i64 0, .string ⟨#[]⟩] rfl ⟨rfl, ⟨okI_small (z := 6) (by decide), (show okI (m : Int) from by unfold okI; omega), hmI, okI_small (z := 0) (by decide)⟩, ok_nV⟩ (by exact cells_new _ [.int .i64 6, .int .i64 m, .int .i64 ((m : Int) + 1), .int .i64 0, .int .i64 0, .int .i64 0, .string ⟨#[]⟩] _) A1 A2 (Nat.le_trans PL.out.hb ((Ext.refl _).alloc _).size) ?_))
            intro g5 cap5 w5 own5 gr5 hg5
            rw [HLes4.out] at own5 ⊢
            have PM0 := Lib.hid ((PL.out.ext ((Ext.refl _).alloc _)).push own5 gr5 (by rcases hg5 with h | h; exact .inl h; exact .inr (by rw [h]; simp)))
            obtain ⟨es5, hes5⟩ : ∃ z, z = es4 ++ [⟨6, m, (m : Int) + 1, 0, nV⟩] := ⟨_, rfl⟩
            rw [← hes5] at PM0
            have PM := PM0
            have HE5 := Lib.hid hes5
            have HLes5 := Lib.hid (show es5.length = m + 1 + 1 + 1 from by rw [hes5, List.length_append, HLes4.out]; rfl)
            clear own5 gr5 hg5 PL A1 A2 hes5 PM0 b2 b3 e2 hmI
            have b3 := PM.out.b3
            have e3 := cell_lt b3
            by_cases c5 : x3 % 4 = 0
            · have hb5 : (x3 % 4 == 0) = true := by simp [c5]
              have hmJ : okI ((m : Int) + 2) := by unfold okI; omega
              have A1 : es5.length + 1 ≤ maxLen := by have := HLes5.out; unfold maxLen; omega
              have A2 : (es5.length + 1) * 64 ≤ 140737488355328 := by have := HLes5.out; omega
              go_wp2_with (at_builtin; go_loud (refine wpList_append_one Rep.expr (fun _ => True) rfl _ _ 23 rfl base 73 i7 _ 64 Tryz.underlying23 hi7 hz70 hz71 hz72 rfl (by decide) (.slice (some ⟨g5, 0, none⟩) (m + 1 + 1 + 1) cap5) es5 rfl (PM.out.own.ext ((Ext.refl _).alloc _)) ⟨_, 0, none⟩ 1 ⟨10, (m : Int) + 2, 0, 0, nV⟩ [.int .i64 10, .int .i64 ((m : Int) + 2), .int .i64 0, .int .i64 0, .int .i64 0, .int .i64 0, .string ⟨#[]⟩] rfl ⟨rfl, ⟨okI_small (z := 10) (by decide), hmJ, okI_small (z := 0) (by decide), okI_small (z := 0) (by decide)⟩, ok_nV⟩ (by exact cells_new _ [.int .i64 10, .int .i64 ((m : Int) + 2), .int .i64 0, .int .i64 0, .int .i64 0, .int .i64 0, .string ⟨#[]⟩] _) A1 A2 (Nat.le_trans PM.out.hb ((Ext.refl _).alloc _).size) ?_))
              intro g6 cap6 w6 own6 gr6 hg6
              rw [HLes5.out] at own6 ⊢
              have PQ0 := Lib.hid ((PM.out.ext ((Ext.refl _).alloc _)).push own6 gr6 (by rcases hg6 with h | h; exact .inl h; exact .inr (by rw [h]; simp)))
              obtain ⟨es6, hes6⟩ : ∃ z, z = es5 ++ [⟨10, (m : Int) + 2, 0, 0, nV⟩] := ⟨_, rfl⟩
              rw [← hes6] at PQ0
              have PQ := PQ0
              have HE6 := Lib.hid hes6
              have HLes6 := Lib.hid (show es6.length = m + 1 + 1 + 1 + 1 from by rw [hes6, List.length_append, HLes5.out]; rfl)
              clear own6 gr6 hg6 PM A1 A2 hes6 PQ0 b3 e3 hmJ
              have HLLAST := HLes6
              go_wp2_with fail
              exact bodyPost_ret (v := .tuple #[.slice (some ⟨g6, 0, none⟩) (m + 1 + 1 + 1 + 1) cap6, .int .i64 ((m : Int) + 1 + 1 + 1)]) (by simp [results, Tryz.results79, go_sem]) rfl (PQ.out.fin (by rw [HE6.out, HE5.out, HE4.out, HE2.out, HFULL.out, if_neg c1, if_neg (fun h => by have := h.2; omega), if_neg c4, if_pos c5]; simp) (by have h := HLLAST.out; omega))
            · have hb5 : (x3 % 4 == 0) = false := by simp [c5]
              have HLLAST := HLes5
              go_wp2_with fail
              exact bodyPost_ret (v := .tuple #[.slice (some ⟨g5, 0, none⟩) (m + 1 + 1 + 1) cap5, .int .i64 ((m : Int) + 1 + 1)]) (by simp [results, Tryz.results79, go_sem]) rfl (PM.out.fin (by rw [HE5.out, HE4.out, HE2.out, HFULL.out, if_neg c1, if_neg (fun h => by have := h.2; omega), if_neg c4, if_neg c5]; simp) (by have h := HLLAST.out; omega))
      · have hb2 : (ki == kk) = false := by simp [c2]
        go_wp2_with fail
        go_quiet (fail)
        obtain ⟨wq, hwq⟩ : ∃ z, z = w2.drewN nq := ⟨_, rfl⟩
        have PK := Lib.hid (show PIn w wq bx base 73 x0 x1 x2 x3 (.slice pe m ce) (.slice (some ⟨g2, 0, none⟩) (m + 1) cap2) es2 from by rw [hwq]; exact PJ.out.ext ((Ext.refl w2).drewN nq))
        rw [← hwq]
        have HNB := Lib.hid (show ∀ x, (Value.slice (some ⟨g2, 0, none⟩) (m + 1) cap2).ownBlock = some x → x ≠ bk ∧ x ≠ bx from fun x hx => ⟨fun e => by
          have h1 := (PJ.out.ne x hx).2
          have h2 := on_some.1 HKI.out.1
          have h3 := cell_lt h2.2
          rcases h1 with h1 | h1
          · exact h2.1 (by rw [h1, e])
          · omega, (PJ.out.ne x hx).1⟩)
        have hS0 : wq.drew.cell? ⟨bk, ok + i, none⟩ = some (.int .i64 ki) ∧ wq.drew.cell? ⟨bx, 3, none⟩ = some (.int .u16 x3) := ⟨PK.out.chg.drew.at (on_some.1 HKI.out.1).2 (on_some.1 HKI.out.1).1, (Ext.refl wq).drew.at PK.out.b3⟩
        obtain ⟨y, hy⟩ : ∃ y, y = constV ki x3 := ⟨_, rfl⟩
        have HOY := Lib.hid (show okVal y from by rw [hy]; exact ok_constV _ _)
        have HCON := Lib.hid (fun wz => constant_any ki x3 wz HX.out.2.2.2.1 HX.out.2.2.2.2)
        rw [← hy] at HCON
        have HY := Lib.hid hy
        obtain ⟨yk, yn, ys⟩ := y
        have A1 : es2.length + 1 ≤ maxLen := by have := HLes2.out; unfold maxLen; omega
        have A2 : (es2.length + 1) * 64 ≤ 140737488355328 := by have := HLes2.out; omega
        have e5 := cell_lt PK.out.b3
        clear b2 b3 e1 kc0 kc1 PJ hwq hy
        go_wp2_with fail
        go_region_held3 (fun w' => w'.cell? ⟨bk, ok + i, none⟩ = some (.int .i64 ki) ∧ w'.cell? ⟨bx, 3, none⟩ = some (.int .u16 x3))
          (first | with_reducible assumption | with_reducible exact K7 | with_reducible exact keepC2 K7 ((Ext.refl _).alloc _) | with_reducible exact K8)
          (first
            | (go_at_call 125; (with_reducible refine (HCON.out _).mono ?_); rintro e w7 ⟨rfl, x7⟩; unfold valV; dsimp only; have X7 := Lib.hid (show Ext wq w7 from (Ext.refl wq).drew.trans x7); have K7 : w7.cell? ⟨bk, ok + i, none⟩ = some (.int .i64 ki) ∧ w7.cell? ⟨bx, 3, none⟩ = some (.int .u16 x3) := ⟨x7.at hS0.1, x7.at hS0.2⟩)
            | (refine step_append_one Rep.expr (fun _ => True) rfl _ _ 23 rfl base 73 i7 _ 64 Tryz.underlying23 hi7 hz70 hz71 hz72 rfl (by decide) (.slice (some ⟨g2, 0, none⟩) (m + 1) cap2) es2 rfl (PK.out.own.ext (X7.out.alloc _)) ⟨_, 0, none⟩ 1 ⟨1, 0, 0, 0, ⟨yk, yn, ys⟩⟩ [.int .i64 1, .int .i64 0, .int .i64 0, .int .i64 0, .int .i64 yk, .int .i64 yn, .string ys] rfl ⟨rfl, ⟨okI_small (z := 1) (by decide), okI_small (z := 0) (by decide), okI_small (z := 0) (by decide), okI_small (z := 0) (by decide)⟩, HOY.out⟩ (cells_new _ [.int .i64 1, .int .i64 0, .int .i64 0, .int .i64 0, .int .i64 yk, .int .i64 yn, .string ys] _) A1 A2 (Nat.le_trans PK.out.hb (X7.out.alloc (.cells [.int .i64 1, .int .i64 0, .int .i64 0, .int .i64 0, .int .i64 yk, .int .i64 yn, .string ys].toArray 73)).size) ?_; intro g4 cap4 w4 own4 gr4 hg4; have X7a := X7.out.alloc (.cells [.int .i64 1, .int .i64 0, .int .i64 0, .int .i64 0, .int .i64 yk, .int .i64 yn, .string ys].toArray 73); have K8 : w4.cell? ⟨bk, ok + i, none⟩ = some (.int .i64 ki) ∧ w4.cell? ⟨bx, 3, none⟩ = some (.int .u16 x3) := ⟨cell_grown gr4 (((Ext.refl w7).alloc _).at K7.1) (fun x hx => (HNB.out x hx).1), cell_grown gr4 (((Ext.refl w7).alloc _).at K7.2) (fun x hx => (HNB.out x hx).2)⟩))
        rw [HLes2.out] at own4 ⊢
        have PL0 := Lib.hid ((PK.out.ext X7a).push own4 gr4 (by rcases hg4 with h | h; exact .inl h; exact .inr (by rw [h]; try simp)))
        obtain ⟨es4, hes4⟩ : ∃ z, z = es2 ++ [(⟨1, 0, 0, 0, ⟨yk, yn, ys⟩⟩ : ExprI)] := ⟨_, rfl⟩
        rw [← hes4] at PL0
        have PL := PL0
        have HE4 := Lib.hid (show es4 = es2 ++ [⟨1, 0, 0, 0, constV ki x3⟩] from by rw [hes4, HY.out])
        have HLes4 := Lib.hid (show es4.length = m + 1 + 1 from by rw [hes4, List.length_append, HLes2.out]; rfl)
        clear own4 gr4 hg4 PK A1 A2 hes4 PL0 K8 K7 X7a x7 hS0 e5
        by_cases c4 : x2 % 2 = 0
        · have hb4 : (x2 % 2 == 0) = true := by simp [c4]
          have b2 := PL.out.b2
          have b3 := PL.out.b3
          have e2 := cell_lt b2
          have hmI : okI ((m : Int) + 1) := by unfold okI; omega
          have A1 : es4.length + 1 ≤ maxLen := by have := HLes4.out; unfold maxLen; omega
          have A2 : (es4.length + 1) * 64 ≤ 140737488355328 := by have := HLes4.out; omega
          go_wp2_with (at_builtin; go_loud (refine wpList_append_one Rep.expr (fun _ => True) rfl _ _ 23 rfl base 73 i7 _ 64 Tryz.underlying23 hi7 hz70 hz71 hz72 rfl (by decide) (.slice (some ⟨g4, 0, none⟩) (m + 1 + 1) cap4) es4 rfl (PL.out.own.ext ((Ext.refl _).alloc _)) ⟨_, 0, none⟩ 1 ⟨7, m, (m : Int) + 1, 0, nV⟩ [.int .i64 7, .int .i64 m, .int .i64 ((m : Int) + 1), .int .i64 0, .int .i64 0, .int .i64 0, .string ⟨#[]⟩] rfl ⟨rfl, ⟨okI_small (z := 7) (by decide), (show okI (m : Int) from by unfold okI; omega), hmI, okI_small (z := 0) (by decide)⟩, ok_nV⟩ (by exact cells_new _ [.int .i64 7, .int .i64 m, .int .i64 ((m : Int) + 1), .int .i64 0, .int .i64 0, .int .i64 0, .string ⟨#[]⟩] _) A1 A2 (Nat.le_trans PL.out.hb ((Ext.refl _).alloc _).size) ?_))
          intro g5 cap5 w5 own5 gr5 hg5
          rw [HLes4.out] at own5 ⊢
          have PM0 := Lib.hid ((PL.out.ext ((Ext.refl _).alloc _)).push own5 gr5 (by rcases hg5 with h | h; exact .inl h; exact .inr (by rw [h]; simp)))
          obtain ⟨es5, hes5⟩ : ∃ z, z = es4 ++ [⟨7, m, (m : Int) + 1, 0, nV⟩] := ⟨_, rfl⟩
          rw [← hes5] at PM0
          have PM := PM0
          have HE5 := Lib.hid hes5
          have HLes5 := Lib.hid (show es5.length = m + 1 + 1 + 1 from by rw [hes5, List.length_append, HLes4.out]; rfl)
          clear own5 gr5 hg5 PL A1 A2 hes5 PM0 b2 b3 e2 hmI
          have b3 := PM.out.b3
          have e3 := cell_lt b3
          by_cases c5 : x3 % 4 = 0
          · have hb5 : (x3 % 4 == 0) = true := by simp [c5]
            have hmJ : okI ((m : Int) + 2) := by unfold okI; omega
            have A1 : es5.length + 1 ≤ maxLen := by have := HLes5.out; unfold maxLen; omega
            have A2 : (es5.length + 1) * 64 ≤ 140737488355328 := by have := HLes5.out; omega
            go_wp2_with (at_builtin; go_loud (refine wpList_append_one Rep.expr (fun _ => True) rfl _ _ 23 rfl base 73 i7 _ 64 Tryz.underlying23 hi7 hz70 hz71 hz72 rfl (by decide) (.slice (some ⟨g5, 0, none⟩) (m + 1 + 1 + 1) cap5) es5 rfl (PM.out.own.ext ((Ext.refl _).alloc _)) ⟨_, 0, none⟩ 1 ⟨10, (m : Int) + 2, 0, 0, nV⟩ [.int .i64 10, .int .i64 ((m : Int) + 2), .int .i64 0, .int .i64 0, .int .i64 0, .int .i64 0, .string ⟨#[]⟩] rfl ⟨rfl, ⟨okI_small (z := 10) (by decide), hmJ, okI_small (z := 0) (by decide), okI_small (z := 0) (by decide)⟩, ok_nV⟩ (by exact cells_new _ [.int .i64 10, .int .i64 ((m : Int) + 2), .int .i64 0, .int .i64 0, .int .i64 0, .int .i64 0, .string ⟨#[]⟩] _) A1 A2 (Nat.le_trans PM.out.hb ((Ext.refl _).alloc _).size) ?_))
            intro g6 cap6 w6 own6 gr6 hg6
            rw [HLes5.out] at own6 ⊢
            have PQ0 := Lib.hid ((PM.out.ext ((Ext.refl _).alloc _)).push own6 gr6 (by rcases hg6 with h | h; exact .inl h; exact .inr (by rw [h]; simp)))
            obtain ⟨es6, hes6⟩ : ∃ z, z = es5 ++ [⟨10, (m : Int) + 2, 0, 0, nV⟩] := ⟨_, rfl⟩
            rw [← hes6] at PQ0
            have PQ := PQ0
            have HE6 := Lib.hid hes6
            have HLes6 := Lib.hid (show es6.length = m + 1 + 1 + 1 + 1 from by rw [hes6, List.length_append, HLes5.out]; rfl)
            clear own6 gr6 hg6 PM A1 A2 hes6 PQ0 b3 e3 hmJ
            have HLLAST := HLes6
            go_wp2_with fail
            exact bodyPost_ret (v := .tuple #[.slice (some ⟨g6, 0, none⟩) (m + 1 + 1 + 1 + 1) cap6, .int .i64 ((m : Int) + 1 + 1 + 1)]) (by simp [results, Tryz.results79, go_sem]) rfl (PQ.out.fin (by rw [HE6.out, HE5.out, HE4.out, HE2.out, HFULL.out, if_neg c1, if_neg (fun h => c2 h.1), if_pos c4, if_pos c5]; simp) (by have h := HLLAST.out; omega))
          · have hb5 : (x3 % 4 == 0) = false := by simp [c5]
            have HLLAST := HLes5
            go_wp2_with fail
            exact bodyPost_ret (v := .tuple #[.slice (some ⟨g5, 0, none⟩) (m + 1 + 1 + 1) cap5, .int .i64 ((m : Int) + 1 + 1)]) (by simp [results, Tryz.results79, go_sem]) rfl (PM.out.fin (by rw [HE5.out, HE4.out, HE2.out, HFULL.out, if_neg c1, if_neg (fun h => c2 h.1), if_pos c4, if_neg c5]; simp) (by have h := HLLAST.out; omega))
        · have hb4 : (x2 % 2 == 0) = false := by simp [c4]
          have b2 := PL.out.b2
          have b3 := PL.out.b3
          have e2 := cell_lt b2
          have hmI : okI ((m : Int) + 1) := by unfold okI; omega
          have A1 : es4.length + 1 ≤ maxLen := by have := HLes4.out; unfold maxLen; omega
          have A2 : (es4.length + 1) * 64 ≤ 140737488355328 := by have := HLes4.out; omega
          go_wp2_with (at_builtin; go_loud (refine wpList_append_one Rep.expr (fun _ => True) rfl _ _ 23 rfl base 73 i7 _ 64 Tryz.underlying23 hi7 hz70 hz71 hz72 rfl (by decide) (.slice (some ⟨g4, 0, none⟩) (m + 1 + 1) cap4) es4 rfl (PL.out.own.ext ((Ext.refl _).alloc _)) ⟨_, 0, none⟩ 1 ⟨6, m, (m : Int) + 1, 0, nV⟩ [.int .i64 6, .int .i64 m, .int .i64 ((m : Int) + 1), .int .i64 0, .int .i64 0, .int .i64 0, .string ⟨#[]⟩] rfl ⟨rfl, ⟨okI_small (z := 6) (by decide), (show okI (m : Int) from by unfold okI; omega), hmI, okI_small (z := 0) (by decide)⟩, ok_nV⟩ (by exact cells_new _ [.int .i64 6, .int .i64 m, .int .i64 ((m : Int) + 1), .int .i64 0, .int .i64 0, .int .i64 0, .string ⟨#[]⟩] _) A1 A2 (Nat.le_trans PL.out.hb ((Ext.refl _).alloc _).size) ?_))
          intro g5 cap5 w5 own5 gr5 hg5
          rw [HLes4.out] at own5 ⊢
          have PM0 := Lib.hid ((PL.out.ext ((Ext.refl _).alloc _)).push own5 gr5 (by rcases hg5 with h | h; exact .inl h; exact .inr (by rw [h]; simp)))
          obtain ⟨es5, hes5⟩ : ∃ z, z = es4 ++ [⟨6, m, (m : Int) + 1, 0, nV⟩] := ⟨_, rfl⟩
          rw [← hes5] at PM0
          have PM := PM0
          have HE5 := Lib.hid hes5
          have HLes5 := Lib.hid (show es5.length = m + 1 + 1 + 1 from by rw [hes5, List.length_append, HLes4.out]; rfl)
          clear own5 gr5 hg5 PL A1 A2 hes5 PM0 b2 b3 e2 hmI
          have b3 := PM.out.b3
          have e3 := cell_lt b3
          by_cases c5 : x3 % 4 = 0
          · have hb5 : (x3 % 4 == 0) = true := by simp [c5]
            have hmJ : okI ((m : Int) + 2) := by unfold okI; omega
            have A1 : es5.length + 1 ≤ maxLen := by have := HLes5.out; unfold maxLen; omega
            have A2 : (es5.length + 1) * 64 ≤ 140737488355328 := by have := HLes5.out; omega
            go_wp2_with (at_builtin; go_loud (refine wpList_append_one Rep.expr (fun _ => True) rfl _ _ 23 rfl base 73 i7 _ 64 Tryz.underlying23 hi7 hz70 hz71 hz72 rfl (by decide) (.slice (some ⟨g5, 0, none⟩) (m + 1 + 1 + 1) cap5) es5 rfl (PM.out.own.ext ((Ext.refl _).alloc _)) ⟨_, 0, none⟩ 1 ⟨10, (m : Int) + 2, 0, 0, nV⟩ [.int .i64 10, .int .i64 ((m : Int) + 2), .int .i64 0, .int .i64 0, .int .i64 0, .int .i64 0, .string ⟨#[]⟩] rfl ⟨rfl, ⟨okI_small (z := 10) (by decide), hmJ, okI_small (z := 0) (by decide), okI_small (z := 0) (by decide)⟩, ok_nV⟩ (by exact cells_new _ [.int .i64 10, .int .i64 ((m : Int) + 2), .int .i64 0, .int .i64 0, .int .i64 0, .int .i64 0, .string ⟨#[]⟩] _) A1 A2 (Nat.le_trans PM.out.hb ((Ext.refl _).alloc _).size) ?_))
            intro g6 cap6 w6 own6 gr6 hg6
            rw [HLes5.out] at own6 ⊢
            have PQ0 := Lib.hid ((PM.out.ext ((Ext.refl _).alloc _)).push own6 gr6 (by rcases hg6 with h | h; exact .inl h; exact .inr (by rw [h]; simp)))
            obtain ⟨es6, hes6⟩ : ∃ z, z = es5 ++ [⟨10, (m : Int) + 2, 0, 0, nV⟩] := ⟨_, rfl⟩
            rw [← hes6] at PQ0
            have PQ := PQ0
            have HE6 := Lib.hid hes6
            have HLes6 := Lib.hid (show es6.length = m + 1 + 1 + 1 + 1 from by rw [hes6, List.length_append, HLes5.out]; rfl)
            clear own6 gr6 hg6 PM A1 A2 hes6 PQ0 b3 e3 hmJ
            have HLLAST := HLes6
            go_wp2_with fail
            exact bodyPost_ret (v := .tuple #[.slice (some ⟨g6, 0, none⟩) (m + 1 + 1 + 1 + 1) cap6, .int .i64 ((m : Int) + 1 + 1 + 1)]) (by simp [results, Tryz.results79, go_sem]) rfl (PQ.out.fin (by rw [HE6.out, HE5.out, HE4.out, HE2.out, HFULL.out, if_neg c1, if_neg (fun h => c2 h.1), if_neg c4, if_pos c5]; simp) (by have h := HLLAST.out; omega))
          · have hb5 : (x3 % 4 == 0) = false := by simp [c5]
            have HLLAST := HLes5
            go_wp2_with fail
            exact bodyPost_ret (v := .tuple #[.slice (some ⟨g5, 0, none⟩) (m + 1 + 1 + 1) cap5, .int .i64 ((m : Int) + 1 + 1)]) (by simp [results, Tryz.results79, go_sem]) rfl (PM.out.fin (by rw [HE5.out, HE4.out, HE2.out, HFULL.out, if_neg c1, if_neg (fun h => c2 h.1), if_neg c4, if_neg c5]; simp) (by have h := HLLAST.out; omega))

end Go.Proofs.YtdgpbpbjlnlijaaGreatDoor

/- annalistlaw14.predicate -/
namespace Go.Proofs.YtdgpbpbjlnlijaaGreatDoor
open Go.RowKit

theorem keepB4 {W wa wb : World} {b : Nat} {v1 v2 v3 v4 : Value} {row : Option Nat} (h : Ext W wa ∧ wa.cell? ⟨b, 0, none⟩ = some v1 ∧ wa.cell? ⟨b, 1, none⟩ = some v2 ∧ wa.cell? ⟨b, 2, none⟩ = some v3 ∧ wa.cell? ⟨b, 3, none⟩ = some v4) (gr : wa.grownBy wb row) (hr : ∀ k, row = some k → W.heap.size ≤ k) (hb : ∀ k, row = some k → k ≠ b) :
    Ext W wb ∧ wb.cell? ⟨b, 0, none⟩ = some v1 ∧ wb.cell? ⟨b, 1, none⟩ = some v2 ∧ wb.cell? ⟨b, 2, none⟩ = some v3 ∧ wb.cell? ⟨b, 3, none⟩ = some v4 :=
  ⟨ext_grown h.1 gr hr, cell_grown gr h.2.1 hb, cell_grown gr h.2.2.1 hb, cell_grown gr h.2.2.2.1 hb, cell_grown gr h.2.2.2.2 hb⟩
theorem info_int2 : (Tryz.prog.info? 3).map (fun i => (i.zero, i.size, i.bytes)) = some (some (.int .i64 0), Rep.int.size, 8) := by kernel_rfl
set_option maxRecDepth 100000 in
set_option maxHeartbeats 8000000 in
theorem predicate_join (x0 x1 x2 x3 : Int) (w : World) (h0 : 0 ≤ x0 ∧ x0 ≤ 65535) (h1 : 0 ≤ x1 ∧ x1 ≤ 65535) (h2 : 0 ≤ x2 ∧ x2 ≤ 65535) (h3 : 0 ≤ x3 ∧ x3 ≤ 65535) :
    Calls Tryz.prog 34 #[.agg #[.int .u16 x0, .int .u16 x1, .int .u16 x2, .int .u16 x3]] w fun e w' => ∃ u, e = .returned (.tuple #[u, .int .i64 (((predL [1, 2, 1, 2] x0 x1 x2 x3 0).length - 1 : Nat) : Int)]) ∧ SliceOf Rep.expr w'.cell? u (predL [1, 2, 1, 2] x0 x1 x2 x3 0) ∧ Ext w w' := by
  obtain ⟨i0, hi, hz0, hz1, hz2⟩ := info_parts info_int2
  have HX := Lib.hid (And.intro h0 (And.intro h1 (And.intro h2 h3)))
  obtain ⟨L, hL⟩ : ∃ L, L = predL [1, 2, 1, 2] x0 x1 x2 x3 0 := ⟨_, rfl⟩
  have HP := Lib.hid (fun (v : Value) (wz : World) (hs : SliceOf Rep.int wz.cell? v [1, 2, 1, 2]) => predicate_own (.slice none 0 0) [] v [1, 2, 1, 2] x0 x1 x2 x3 wz.heap.size wz (OwnOf.nil _ _ _ _ _) (Nat.le_refl _) (hs.ext (fun p x e => on_some.2 ⟨(fun h => by cases h), e⟩)) (by decide) (by decide) (by decide) h0 h1 h2 h3)
  have hL0 : ([] : List ExprI) ++ predL [1, 2, 1, 2] x0 x1 x2 x3 ([] : List ExprI).length = L := by rw [hL]; rfl
  rw [hL0] at HP
  rw [← hL]
  have B1 : ([1, 2] : List Int).length + ([1, 2] : List Int).length ≤ maxLen := by simp [maxLen]
  have B2 : (([1, 2] : List Int).length + ([1, 2] : List Int).length) * 8 ≤ 140737488355328 := by simp
  clear hL hL0 h0 h1 h2 h3
  go_enter Tryz.func34, Tryz.ntmps34
  go_wp2_with fail
  obtain ⟨bx, hbx⟩ : ∃ z, z = w.heap.size := ⟨_, rfl⟩
  obtain ⟨W1, hW1⟩ : ∃ W1, W1 = w.alloc (.cells #[.int .u16 x0, .int .u16 x1, .int .u16 x2, .int .u16 x3] 64) := ⟨_, rfl⟩
  have hS0 : Ext w W1.drew ∧ W1.drew.cell? ⟨bx, 0, none⟩ = some (.int .u16 x0) ∧ W1.drew.cell? ⟨bx, 1, none⟩ = some (.int .u16 x1) ∧ W1.drew.cell? ⟨bx, 2, none⟩ = some (.int .u16 x2) ∧ W1.drew.cell? ⟨bx, 3, none⟩ = some (.int .u16 x3) := by
    rw [hbx, hW1]
    exact ⟨((Ext.refl w).alloc _).drew, (by go_simp), (by go_simp), (by go_simp), (by go_simp)⟩
  try rw [← hbx]
  try rw [← hW1]
  clear hbx hW1
  go_region_held3 (fun w' => Ext w w' ∧ w'.cell? ⟨bx, 0, none⟩ = some (.int .u16 x0) ∧ w'.cell? ⟨bx, 1, none⟩ = some (.int .u16 x1) ∧ w'.cell? ⟨bx, 2, none⟩ = some (.int .u16 x2) ∧ w'.cell? ⟨bx, 3, none⟩ = some (.int .u16 x3))
    (first | with_reducible assumption)
    (first
      | (go_at_call 79; refine (HP.out _ _ SL6.out).mono ?_; rintro e w7 ⟨u7, rfl, o7, c7, _⟩; have x7 : Ext w6 w7 := Chg.below c7 (Ext.refl w6) (fun k e => by cases e); have K7 := keepE4 K6 x7; have O7 := Lib.hid o7.slice)
      | (refine step_append_all Rep.int (fun _ => True) rfl _ _ 24 rfl w.heap.size 3 i0 _ 8 Tryz.underlying24 hi hz0 hz1 hz2 rfl (by decide) (.slice (some ⟨g4, 0, none⟩) 2 2) [1, 2] rfl ((O4.out.ext X5.out).weak (fun _ _ h => h) K0.out.size) (.slice (some ⟨g5, 0, none⟩) 2 2) [1, 2] rfl (O5.out.fresh flat_int |>.ext (on_mono w5 (fun x _ hx => ⟨fun e => by have h1 := (O4.out.lt x e.symm).2; have hx : w4.heap.size ≤ x := hx; omega, trivial⟩))) B1 B2 K5.1.size ?_; intro v6 w6 own6 gr6 at6; have K6 : Ext w w6 ∧ w6.cell? ⟨bx, 0, none⟩ = some (.int .u16 x0) ∧ w6.cell? ⟨bx, 1, none⟩ = some (.int .u16 x1) ∧ w6.cell? ⟨bx, 2, none⟩ = some (.int .u16 x2) ∧ w6.cell? ⟨bx, 3, none⟩ = some (.int .u16 x3) := keepB4 K5 gr6 (fun x hx => Nat.le_trans K0.out.size (O4.out.lt x hx).1) (fun x hx e => by have h1 := (O4.out.lt x hx).1; have h2 := cell_lt hS0.2.1; omega); have SL6 := Lib.hid own6.slice)
      | (go_at_call 80; (with_reducible have q4 := O4.out); refine (kinds_own (fun _ => True) _).mono ?_; rintro e w5 ⟨g5, rfl, o5, x5⟩; have O5 := Lib.hid o5; have X5 := Lib.hid x5; have K5 := keepE4 K4 x5; clear o5 q4)
      | (go_at_call 80; refine (kinds_own (fun _ => True) _).mono ?_; rintro e w4 ⟨g4, rfl, o4, x4⟩; have O4 := Lib.hid o4; have K4 := keepE4 hS0 x4; have K0 := Lib.hid hS0.1; clear o4)
      | fail)
  all_goals
    go_wp2_with fail
    exact bodyPost_ret (v := .tuple #[u7, .int .i64 ((L.length - 1 : Nat) : Int)]) (by simp [results, Tryz.results34, go_sem]) rfl ⟨u7, rfl, O7.out, K7.1⟩
end Go.Proofs.YtdgpbpbjlnlijaaGreatDoor

/- the reference's row, SameTuples of equal lists -/
namespace Go.Proofs.YtdgpbpbjlnlijaaGreatDoor
open Go.RowKit

set_option maxHeartbeats 1000000 in
theorem row_ref (p : Option Addr) (n c : Nat) (q : Option Addr) (m d : Nat) (f t : Int) (w : World) :
    Calls Tryz.prog 40 #[.agg #[.slice p n c, .int .i64 f, .int .i64 t, .slice q m d]] w fun e w' => e = .returned (.agg #[.slice p n c, .slice q m d]) ∧ Ext w w' := by
  go_enter Tryz.func40, Tryz.ntmps40
  go_wp2_with fail
  exact bodyPost_ret (v := .agg #[.slice p n c, .slice q m d]) (by simp [results, Tryz.results40, go_sem]) rfl ⟨rfl, ((Ext.refl w).alloc _).alloc _⟩

set_option maxRecDepth 100000 in
set_option maxHeartbeats 4000000 in
theorem same_tuples (va vb : Value) (l : List Tup) (w : World) (ha : SliceOf Rep.tup w.cell? va l) (hb : SliceOf Rep.tup w.cell? vb l) :
    Calls Tryz.prog 16 #[va, vb] w fun e w' => e = .returned (.bool true) ∧ Ext w w' := by
  obtain ⟨pa, ca, rfl, ha1, ha2, ha3⟩ := ha.form
  obtain ⟨pb, cb, rfl, hb1, hb2, hb3⟩ := hb.form
  unfold maxLen at ha2 hb2
  obtain ⟨N, hN⟩ : ∃ N, N = l.length := ⟨_, rfl⟩
  rw [← hN] at ha1 ha3 hb1 hb3 ha hb ⊢
  have HN := Lib.hid hN
  have HA := Lib.hid ha
  have HB := Lib.hid hb
  have HP := Lib.hid (And.intro ha3 hb3)
  clear ha hb hN ha3 hb3
  go_enter Tryz.func16, Tryz.ntmps16
  go_wp2_with fail
  go_loopg [5] N (fun gk i wr => ∃ k : Nat, k ≤ N ∧ gk = N - k ∧ i = .int .i64 k ∧ Ext w wr)
  case atStart => exact ⟨0, by omega, rfl, rfl, Ext.refl w⟩
  case round =>
    obtain ⟨k, hk, rfl, rfl, hx⟩ := hrel
    by_cases hlt : k < N
    · have hkl : k < l.length := by have := HN.out; omega
      obtain ⟨ba, oa, rfl⟩ := HP.out.1 (by decide) (by omega)
      obtain ⟨bb, ob, rfl⟩ := HP.out.2 (by decide) (by omega)
      have hva := HA.out
      have hvb := HB.out
      rw [HN.out] at hva hvb
      obtain ⟨u1, u2, c1, c2, c3, c4, s1, s2, _, _⟩ := tup_at hva k hkl
      obtain ⟨v1, v2, d1, d2, d3, d4, t1, t2, _, _⟩ := tup_at hvb k hkl
      generalize l[k] = x at c2 c3 d2 d3 s1 s2 t1 t2
      replace c1 := hx.at c1
      replace c2 := hx.at c2
      replace c3 := hx.at c3
      replace c4 := hx.at c4
      replace d1 := hx.at d1
      replace d2 := hx.at d2
      replace d3 := hx.at d3
      replace d4 := hx.at d4
      obtain ⟨p1, q1, rfl, _⟩ := s1.form
      obtain ⟨p2, q2, rfl, _⟩ := s2.form
      obtain ⟨p3, q3, rfl, _⟩ := t1.form
      obtain ⟨p4, q4, rfl, _⟩ := t2.form
      have S1 := Lib.hid (s1.ext hx.full)
      have S2 := Lib.hid (s2.ext hx.full)
      have T1 := Lib.hid (t1.ext hx.full)
      have T2 := Lib.hid (t2.ext hx.full)
      obtain ⟨xv, xf, xt, xl⟩ := x
      dsimp only at c2 c3 d2 d3 c1 c4 d1 d4 S1 S2 T1 T2
      obtain ⟨n1, hn1⟩ : ∃ n, n = xv.length := ⟨_, rfl⟩
      obtain ⟨n2, hn2⟩ : ∃ n, n = xl.length := ⟨_, rfl⟩
      have HX0 := Lib.hid hx
      rw [← hn1] at c1 d1 S1 T1
      rw [← hn2] at c4 d4 S2 T2
      have hd : decide ((k : Int) < (N : Int)) = true := by simp; omega
      have hd1 : (k : Int) < (N : Int) := by omega
      have hS0 : Ext wr wr.drew ∧ wr.drew.cell? ⟨ba, oa + k * 4, none⟩ = some (.slice p1 n1 q1) ∧ wr.drew.cell? ⟨ba, oa + k * 4 + 1, none⟩ = some (.int .i64 xf) ∧ wr.drew.cell? ⟨ba, oa + k * 4 + 2, none⟩ = some (.int .i64 xt) ∧ wr.drew.cell? ⟨ba, oa + k * 4 + 3, none⟩ = some (.slice p2 n2 q2) ∧ wr.drew.cell? ⟨bb, ob + k * 4, none⟩ = some (.slice p3 n1 q3) ∧ wr.drew.cell? ⟨bb, ob + k * 4 + 1, none⟩ = some (.int .i64 xf) ∧ wr.drew.cell? ⟨bb, ob + k * 4 + 2, none⟩ = some (.int .i64 xt) ∧ wr.drew.cell? ⟨bb, ob + k * 4 + 3, none⟩ = some (.slice p4 n2 q4) := ⟨(Ext.refl wr).drew, c1, c2, c3, c4, d1, d2, d3, d4⟩
      clear s1 s2 t1 t2 hn1 hn2 hva hvb hx c1 c2 c3 c4 d1 d2 d3 d4
      go_wp2_with fail
      go_region_held3 (fun w' => Ext wr w' ∧ w'.cell? ⟨ba, oa + k * 4, none⟩ = some (.slice p1 n1 q1) ∧ w'.cell? ⟨ba, oa + k * 4 + 1, none⟩ = some (.int .i64 xf) ∧ w'.cell? ⟨ba, oa + k * 4 + 2, none⟩ = some (.int .i64 xt) ∧ w'.cell? ⟨ba, oa + k * 4 + 3, none⟩ = some (.slice p2 n2 q2) ∧ w'.cell? ⟨bb, ob + k * 4, none⟩ = some (.slice p3 n1 q3) ∧ w'.cell? ⟨bb, ob + k * 4 + 1, none⟩ = some (.int .i64 xf) ∧ w'.cell? ⟨bb, ob + k * 4 + 2, none⟩ = some (.int .i64 xt) ∧ w'.cell? ⟨bb, ob + k * 4 + 3, none⟩ = some (.slice p4 n2 q4))
        (first | with_reducible assumption | with_reducible exact keepE8 (by assumption) hx2)
        (first
          | (go_at_call 40; refine (row_ref _ _ _ _ _ _ _ _ _).mono ?_; rintro e w2 ⟨rfl, hx2⟩)
          | (go_at_call 39; refine (ref_sameRow _ _ _ _ ⟨xv, xl⟩ ⟨xv, xl⟩ _ (by exact S1.out.ext (And.left ‹Ext wr _ ∧ _›).full) (by exact T1.out.ext (And.left ‹Ext wr _ ∧ _›).full) (by exact S2.out.ext (And.left ‹Ext wr _ ∧ _›).full) (by exact T2.out.ext (And.left ‹Ext wr _ ∧ _›).full)).mono ?_; rintro e w2 ⟨rfl, hg2⟩; have hx2 := Gro.ext hg2))
      all_goals (obtain ⟨hfin, _⟩ := ‹Ext wr _ ∧ _›)
      all_goals (have HF := Lib.hid (HX0.out.trans hfin))
      all_goals (have hq : eqB (⟨xv, xl⟩ : Row) ⟨xv, xl⟩ = true := eqB_iff.2 rfl)
      all_goals rw [hq]
      all_goals go_wp2_with fail
      all_goals
        go_roundg (N - (k + 1))
        case measure => omega
        case rel => exact ⟨k + 1, by omega, rfl, by go_num, HF.out⟩
    · have hd : ¬ (k : Int) < (N : Int) := by omega
      go_wp2_with fail
      go_ret
      exact ⟨rfl, hx⟩

end Go.Proofs.YtdgpbpbjlnlijaaGreatDoor

/- the walk of JoinNormal -/
namespace Go.Proofs.YtdgpbpbjlnlijaaGreatDoor
open Go.RowKit

theorem normT_lenJ (l : List Tup) : (normT l).length ≤ 2 * l.length * l.length := by
  unfold normT
  rw [sortBy_length]
  exact normRaw_len2 l (once_nodup _)
theorem normT_fromJ {l : List Tup} {t : Tup} (h : t ∈ normT l) : ∃ u ∈ l, t.vals = u.vals ∧ t.lin = u.lin := by
  unfold normT at h
  have h := (sortBy_perm _ _).mem_iff.1 h
  unfold normRaw at h
  obtain ⟨r, h1, h2⟩ := List.mem_flatMap.1 h
  obtain ⟨p, _, rfl⟩ := List.mem_map.1 h2
  unfold rowsOf at h1
  rw [mem_once, List.mem_map] at h1
  obtain ⟨u, h3, rfl⟩ := h1
  exact ⟨u, (List.mem_filter.1 h3).1, rfl, rfl⟩
theorem genTups_few (x : List Num5) (m : Nat) : fewT (genTups x m) := fun t ht => by
  obtain ⟨y, _, rfl⟩ := List.mem_map.1 ht
  have h := genVals_few y.c y.d
  exact ⟨h.1, h.2, by simp [genTup]⟩
theorem predL_len (ks : List Int) (x0 x1 x2 x3 : Int) (n : Nat) : (predL ks x0 x1 x2 x3 n).length ≤ 4 := by
  unfold predL
  (repeat' split) <;> simp
theorem fit_of_raw {l : List Tup} (hl : l.length ≤ 180) (hf : ∀ t ∈ l, t.vals.length ≤ 2000 ∧ (∀ x ∈ t.vals, x.s.size ≤ 1048576) ∧ t.lin.length ≤ 2000) : fitN (normT l) := by
  refine ⟨?_, fun t ht => ?_⟩
  · have h1 := normT_lenJ l
    have h2 : 2 * l.length * l.length ≤ 2 * 180 * 180 := Nat.mul_le_mul (by omega) hl
    omega
  · obtain ⟨u, hu, e1, e2⟩ := normT_fromJ ht
    obtain ⟨h1, h2, h3⟩ := hf u hu
    rw [e1, e2]
    exact ⟨⟨by omega, h2⟩, by omega⟩
theorem inner_fitN {tr : List Val → Bool} {a b : List Tup} (ha : fewT a) (hb : fewT b) (hla : a.length ≤ 8) (hlb : b.length ≤ 8) : fitN (innerT tr a b) :=
  fit_of_raw (by have h1 := joinRaw_len tr a b; have h2 : a.length * b.length ≤ 8 * 8 := Nat.mul_le_mul hla hlb; omega) (join_fit ha hb)
theorem left_fitN {tr : List Val → Bool} {W : Nat} {a b : List Tup} (ha : fewT a) (hb : fewT b) (hla : a.length ≤ 8) (hlb : b.length ≤ 8) (hW : W ≤ 64) : fitN (leftT tr W a b) :=
  fit_of_raw (by
    have h1 := joinRaw_len tr a b
    have h2 : a.length * b.length ≤ 8 * 8 := Nat.mul_le_mul hla hlb
    have h3 := padUpto_len tr W a b a.length
    have h4 := partners_sum tr a b a.length
    unfold leftRaw
    rw [List.length_append]
    omega) (left_fit ha hb hW)

set_option maxRecDepth 100000 in
set_option maxHeartbeats 4000000 in
theorem JoinNormal_walk (v0 : Value) (x : List Num5) (v1 : Value) (y : List Num5) (x0 x1 x2 x3 : Int) {w : World} (s0 : SliceOf Rep.num w.cell? v0 x) (s1 : SliceOf Rep.num w.cell? v1 y)
    (h0 : 0 ≤ x0 ∧ x0 ≤ 65535) (h1 : 0 ≤ x1 ∧ x1 ≤ 65535) (h2 : 0 ≤ x2 ∧ x2 ≤ 65535) (h3 : 0 ≤ x3 ∧ x3 ≤ 65535) (hT : TabW w) :
    Calls Tryz.prog 11 #[v0, v1, .agg #[.int .u16 x0, .int .u16 x1, .int .u16 x2, .int .u16 x3]] w fun e w' => e = .returned (.bool true) ∧ Ext w w' := by
  have S0 := Lib.hid s0
  have S1 := Lib.hid s1
  obtain ⟨p0, q0, rfl, _⟩ := s0.form
  obtain ⟨p1, q1, rfl, _⟩ := s1.form
  have HT := Lib.hid hT
  have HX := Lib.hid (And.intro h0 (And.intro h1 (And.intro h2 h3)))
  clear s0 s1 hT h0 h1 h2 h3
  go_enter Tryz.func11, Tryz.ntmps11
  go_wp2_with fail
  obtain ⟨bx, hbx⟩ : ∃ z, z = w.heap.size := ⟨_, rfl⟩
  obtain ⟨wb, hwb⟩ : ∃ z, z = w.alloc (.cells #[.int .u16 x0, .int .u16 x1, .int .u16 x2, .int .u16 x3] 64) := ⟨_, rfl⟩
  have HXB := Lib.hid (show Ext w wb from by rw [hwb]; exact (Ext.refl w).alloc _)
  have HBX := Lib.hid (show wb.cell? ⟨bx, 0, none⟩ = some (.int .u16 x0) ∧ wb.cell? ⟨bx, 1, none⟩ = some (.int .u16 x1) ∧ wb.cell? ⟨bx, 2, none⟩ = some (.int .u16 x2) ∧ wb.cell? ⟨bx, 3, none⟩ = some (.int .u16 x3) from by
    rw [hbx, hwb]
    exact ⟨(by go_simp), (by go_simp), (by go_simp), (by go_simp)⟩)
  try rw [← hbx]
  try rw [← hwb]
  clear hbx hwb
  refine (tuples_gen _ x 8 (by decide) _ (S0.out.ext HXB.out.full)).mono ?_
  rintro e w1 ⟨u1, rfl, t1, x1'⟩
  have la := genTups_len x 8
  have fa := genTups_few x 8
  generalize genTups x 8 = a at t1 la fa
  obtain ⟨r1, k1, rfl, _⟩ := t1.form
  have TA := Lib.hid (t1.ext (on_sub _ _))
  have X1 := Lib.hid (HXB.out.trans x1')
  have XB1 := Lib.hid x1'
  have HLA := Lib.hid la
  have HFA := Lib.hid fa
  obtain ⟨na, hna⟩ : ∃ z, z = a.length := ⟨_, rfl⟩
  rw [← hna] at TA ⊢
  clear t1 x1' la fa S0 HXB hna
  go_wp2_with fail
  refine (tuples_gen _ y 8 (by decide) _ (S1.out.ext X1.out.full)).mono ?_
  rintro e w2 ⟨u2, rfl, t2, x2'⟩
  have lb := genTups_len y 8
  have fb := genTups_few y 8
  generalize genTups y 8 = b at t2 lb fb
  obtain ⟨r2, k2, rfl, _⟩ := t2.form
  have TB := Lib.hid (t2.ext (on_sub _ _))
  replace TA := Lib.hid (TA.out.ext x2'.full)
  have X2 := Lib.hid (X1.out.trans x2')
  have HLB := Lib.hid lb
  have HFB := Lib.hid fb
  obtain ⟨nb, hnb⟩ : ∃ z, z = b.length := ⟨_, rfl⟩
  rw [← hnb] at TB ⊢
  have xb2 := XB1.out.trans x2'
  have d0 := xb2.at HBX.out.1
  have d1 := xb2.at HBX.out.2.1
  have d2 := xb2.at HBX.out.2.2.1
  have d3 := xb2.at HBX.out.2.2.2
  have e0 := cell_lt d0
  clear t2 x2' lb fb S1 X1 XB1 HBX xb2 hnb
  go_wp2_with fail
  refine (predicate_join x0 x1 x2 x3 _ HX.out.1 HX.out.2.1 HX.out.2.2.1 HX.out.2.2.2).mono ?_
  rintro e w3 ⟨u3, rfl, t3, x3'⟩
  have hel := predL_len [1, 2, 1, 2] x0 x1 x2 x3 0
  obtain ⟨pr, hpr⟩ : ∃ z : Int, z = (((predL [1, 2, 1, 2] x0 x1 x2 x3 0).length - 1 : Nat) : Int) := ⟨_, rfl⟩
  rw [← hpr]
  generalize predL [1, 2, 1, 2] x0 x1 x2 x3 0 = es at t3 hel
  obtain ⟨p3, q3, rfl, _⟩ := t3.form
  have HE := Lib.hid t3
  have HEL := Lib.hid (show es.length ≤ 1000 from by omega)
  obtain ⟨ne, hne⟩ : ∃ z, z = es.length := ⟨_, rfl⟩
  rw [← hne] at HE ⊢
  replace TA := Lib.hid (TA.out.ext x3'.full)
  replace TB := Lib.hid (TB.out.ext x3'.full)
  have X3 := Lib.hid (X2.out.trans x3')
  clear t3 x3' X2 d0 d1 d2 d3 e0 hpr hel hne
  go_wp2_with fail
  refine (innerAligned_any _ _ a b _ es pr _ TA.out TB.out HLA.out HLB.out HE.out HEL.out HFA.out HFB.out (HT.out.ext X3.out)).mono ?_
  rintro e w4 ⟨u4, rfl, t4, x4'⟩
  obtain ⟨tr, htr⟩ : ∃ tr, tr = trE es pr := ⟨_, rfl⟩
  rw [← htr] at t4
  have HTR := Lib.hid htr
  have hif : fitN (innerT tr a b) := inner_fitN HFA.out HFB.out HLA.out HLB.out
  have hin : normT (innerT tr a b) = innerT tr a b := normT_idem _
  generalize innerT tr a b = I at t4 hif hin
  obtain ⟨r4, k4, rfl, _⟩ := t4.form
  have T4 := Lib.hid (t4.ext (on_sub _ _))
  have HIF := Lib.hid hif
  have HIN := Lib.hid hin
  replace TA := Lib.hid (TA.out.ext x4'.full)
  replace TB := Lib.hid (TB.out.ext x4'.full)
  replace HE := Lib.hid (HE.out.ext x4'.full)
  have X4 := Lib.hid (X3.out.trans x4')
  obtain ⟨nI, hnI⟩ : ∃ z, z = I.length := ⟨_, rfl⟩
  rw [← hnI] at T4 ⊢
  clear t4 x4' X3 hif hin htr hnI
  go_wp2_with fail
  refine (leftOuter_any _ _ a b _ es pr 2 _ TA.out TB.out (by have := HLA.out; omega) (by have := HLB.out; omega) HE.out HEL.out HFA.out HFB.out (HT.out.ext X4.out)).mono ?_
  rintro e w5 ⟨u5, rfl, t5, x5'⟩
  rw [← HTR.out, nullW_two] at t5
  have hjf : fitN (leftT tr 2 a b) := left_fitN HFA.out HFB.out HLA.out HLB.out (by decide)
  have hjn : normT (leftT tr 2 a b) = leftT tr 2 a b := normT_idem _
  generalize leftT tr 2 a b = J at t5 hjf hjn
  obtain ⟨r5, k5, rfl, _⟩ := t5.form
  have T5 := Lib.hid (t5.ext (on_sub _ _))
  have HJF := Lib.hid hjf
  have HJN := Lib.hid hjn
  replace T4 := Lib.hid (T4.out.ext x5'.full)
  have X5 := Lib.hid (X4.out.trans x5')
  obtain ⟨nJ, hnJ⟩ : ∃ z, z = J.length := ⟨_, rfl⟩
  rw [← hnJ] at T5 ⊢
  clear t5 x5' X4 hjf hjn hnJ TA TB HE
  go_wp2_with fail
  refine (awake_join _ (HT.out.ext X5.out)).mono ?_
  rintro e w6 ⟨rfl, x6⟩
  replace T4 := Lib.hid (T4.out.ext x6.full)
  replace T5 := Lib.hid (T5.out.ext x6.full)
  have X6 := Lib.hid (X5.out.trans x6)
  clear x6 X5
  go_wp2_with fail
  refine (normalize_any _ I _ T4.out HIF.out (HT.out.ext X6.out)).mono ?_
  rintro e w7 ⟨u7, rfl, t7, x7⟩
  rw [HIN.out] at t7
  obtain ⟨r7, k7, rfl, _⟩ := t7.form
  have T7 := Lib.hid (t7.ext (on_sub _ _))
  replace T4 := Lib.hid (T4.out.ext x7.full)
  replace T5 := Lib.hid (T5.out.ext x7.full)
  have X7 := Lib.hid (X6.out.trans x7)
  clear t7 x7 X6
  go_wp2_with fail
  refine (same_tuples _ _ I _ T7.out T4.out).mono ?_
  rintro e w8 ⟨rfl, x8⟩
  replace T5 := Lib.hid (T5.out.ext x8.full)
  have X8 := Lib.hid (X7.out.trans x8)
  clear x8 X7 T7 T4
  go_wp2_with fail
  refine (normalize_any _ J _ T5.out HJF.out (HT.out.ext X8.out)).mono ?_
  rintro e w9 ⟨u9, rfl, t9, x9⟩
  rw [HJN.out] at t9
  obtain ⟨r9, k9, rfl, _⟩ := t9.form
  have T9 := Lib.hid (t9.ext (on_sub _ _))
  replace T5 := Lib.hid (T5.out.ext x9.full)
  have X9 := Lib.hid (X8.out.trans x9)
  clear t9 x9 X8
  go_wp2_with fail
  refine (same_tuples _ _ J _ T9.out T5.out).mono ?_
  rintro e w10 ⟨rfl, x10⟩
  have X10 := Lib.hid (X9.out.trans x10)
  clear x10 X9
  go_wp2_with fail
  go_ret
  exact ⟨by simp, X10.out⟩

end Go.Proofs.YtdgpbpbjlnlijaaGreatDoor
