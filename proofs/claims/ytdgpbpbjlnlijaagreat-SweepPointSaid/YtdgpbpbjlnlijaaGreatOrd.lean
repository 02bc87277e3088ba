/- The orders of values, of lists and of rows are total; no program is named here. -/
import Derived.Test.YtdgpbpbjlnlijaaGreatBagC
namespace Go.Proofs.YtdgpbpbjlnlijaaGreat

/-- c compares as a total order does, by -1, 0 and 1 -/
structure Ord3 {α : Type} (c : α → α → Int) : Prop where
  rng : ∀ x y, c x y = -1 ∨ c x y = 0 ∨ c x y = 1
  eq : ∀ x y, c x y = 0 ↔ x = y
  anti : ∀ x y, c y x = -c x y
  tr : ∀ x y z, c x y < 0 → c y z < 0 → c x z < 0

theorem ord_int : Ord3 cmpI where
  rng x y := by unfold cmpI; (repeat' split) <;> omega
  eq x y := by unfold cmpI; (repeat' split) <;> omega
  anti x y := by unfold cmpI; (repeat' split) <;> omega
  tr x y z := by unfold cmpI; (repeat' split) <;> omega

theorem ord_bytes : Ord3 Lib.compareBytes where
  rng x := by
    induction x with
    | nil => intro y; cases y <;> simp [Lib.compareBytes]
    | cons a x ih => intro y; cases y with
      | nil => simp [Lib.compareBytes]
      | cons b y =>
        simp only [Lib.compareBytes]
        split
        · simp
        · split
          · simp
          · exact ih y
  eq x := by
    induction x with
    | nil => intro y; cases y <;> simp [Lib.compareBytes]
    | cons a x ih => intro y; cases y with
      | nil => simp [Lib.compareBytes]
      | cons b y =>
        simp only [Lib.compareBytes, List.cons.injEq]
        split
        · rename_i h
          simp
          intro e; subst e; simp at h
        · split
          · rename_i h
            simp
            intro e; subst e; simp at h
          · rename_i h1 h2
            have : a = b := UInt8.le_antisymm (UInt8.not_lt.1 h2) (UInt8.not_lt.1 h1)
            simp [this, ih y]
  anti x := by
    induction x with
    | nil => intro y; cases y <;> simp [Lib.compareBytes]
    | cons a x ih => intro y; cases y with
      | nil => simp [Lib.compareBytes]
      | cons b y =>
        simp only [Lib.compareBytes]
        by_cases h1 : a < b
        · have h2 : ¬ b < a := UInt8.not_lt.2 (UInt8.le_of_lt h1)
          simp [h1, h2]
        · by_cases h2 : b < a
          · simp [h1, h2]
          · simp [h1, h2, ih y]
  tr x := by
    induction x with
    | nil => intro y z; cases y <;> cases z <;> simp [Lib.compareBytes]
    | cons a x ih => intro y z; cases y with
      | nil => simp [Lib.compareBytes]
      | cons b y => cases z with
        | nil => simp [Lib.compareBytes]
        | cons d z =>
          simp only [Lib.compareBytes]
          intro h1 h2
          by_cases ab : a < b
          · by_cases bd : b < d
            · simp [UInt8.lt_trans ab bd]
            · by_cases db : d < b
              · simp [bd, db] at h2
              · have : b = d := UInt8.le_antisymm (UInt8.not_lt.1 db) (UInt8.not_lt.1 bd)
                subst this
                simp [ab]
          · by_cases ba : b < a
            · simp [ab, ba] at h1
            · have : a = b := UInt8.le_antisymm (UInt8.not_lt.1 ba) (UInt8.not_lt.1 ab)
              subst this
              simp [ab] at h1
              by_cases bd : a < d
              · simp [bd]
              · by_cases db : d < a
                · simp [bd, db] at h2
                · simp [bd, db] at h2 ⊢
                  exact ih y z h1 h2

theorem ord_pull {α β : Type} {c : β → β → Int} (h : Ord3 c) (f : α → β) (inj : ∀ x y, f x = f y → x = y) : Ord3 fun x y => c (f x) (f y) where
  rng x y := h.rng _ _
  eq x y := (h.eq _ _).trans ⟨inj x y, fun e => by rw [e]⟩
  anti x y := h.anti _ _
  tr x y z := h.tr _ _ _

theorem ord_then {α β γ : Type} {c : β → β → Int} {d : γ → γ → Int} (h : Ord3 c) (k : Ord3 d) (f : α → β) (g : α → γ) (inj : ∀ x y, f x = f y → g x = g y → x = y) :
    Ord3 fun x y => if c (f x) (f y) = 0 then d (g x) (g y) else c (f x) (f y) where
  rng x y := by
    split
    · exact k.rng _ _
    · exact h.rng _ _
  eq x y := by
    split
    · rename_i e
      exact ⟨fun e2 => inj x y ((h.eq _ _).1 e) ((k.eq _ _).1 e2), fun e2 => (k.eq _ _).2 (by rw [e2])⟩
    · rename_i e
      exact ⟨fun e2 => (e e2).elim, fun e2 => (h.eq _ _).2 (by rw [e2])⟩
  anti x y := by
    rw [h.anti (f x) (f y), k.anti (g x) (g y)]
    split <;> split <;> omega
  tr x y z := by
    intro h1 h2
    by_cases e1 : c (f x) (f y) = 0
    · rw [if_pos e1] at h1
      have : f x = f y := (h.eq _ _).1 e1
      rw [this]
      by_cases e2 : c (f y) (f z) = 0
      · rw [if_pos e2] at h2 ⊢
        exact k.tr _ _ _ h1 h2
      · rw [if_neg e2] at h2 ⊢
        exact h2
    · rw [if_neg e1] at h1
      by_cases e2 : c (f y) (f z) = 0
      · have : f y = f z := (h.eq _ _).1 e2
        rw [← this, if_neg e1]
        exact h1
      · rw [if_neg e2] at h2
        have := h.tr _ _ _ h1 h2
        rw [if_neg (by omega)]
        exact this

theorem ord_lex {α : Type} {c : α → α → Int} (h : Ord3 c) : Ord3 (lexI c) where
  rng x := by
    induction x with
    | nil => intro y; cases y <;> simp [lexI]
    | cons a x ih => intro y; cases y with
      | nil => simp [lexI]
      | cons b y =>
        simp only [lexI]
        split
        · exact ih y
        · exact h.rng _ _
  eq x := by
    induction x with
    | nil => intro y; cases y <;> simp [lexI]
    | cons a x ih => intro y; cases y with
      | nil => simp [lexI]
      | cons b y =>
        simp only [lexI, List.cons.injEq]
        split
        · rename_i e
          rw [ih y]
          simp [(h.eq _ _).1 e]
        · rename_i e
          simp [e]
          intro e2
          exact (e ((h.eq _ _).2 e2)).elim
  anti x := by
    induction x with
    | nil => intro y; cases y <;> simp [lexI]
    | cons a x ih => intro y; cases y with
      | nil => simp [lexI]
      | cons b y =>
        simp only [lexI]
        rw [h.anti a b, ih y]
        split <;> split <;> omega
  tr x := by
    induction x with
    | nil => intro y z; cases y <;> cases z <;> simp [lexI]
    | cons a x ih => intro y z; cases y with
      | nil => simp [lexI]
      | cons b y => cases z with
        | nil => simp [lexI]
        | cons d z =>
          simp only [lexI]
          intro h1 h2
          by_cases e1 : c a b = 0
          · have : a = b := (h.eq _ _).1 e1
            subst this
            rw [if_pos e1] at h1
            by_cases e2 : c a d = 0
            · rw [if_pos e2] at h2 ⊢
              exact ih _ _ h1 h2
            · rw [if_neg e2] at h2 ⊢
              exact h2
          · rw [if_neg e1] at h1
            by_cases e2 : c b d = 0
            · have : b = d := (h.eq _ _).1 e2
              subst this
              rw [if_neg e1]
              exact h1
            · rw [if_neg e2] at h2
              have := h.tr _ _ _ h1 h2
              rw [if_neg (by omega)]
              exact this

theorem ord_str : Ord3 cmpS := ord_pull ord_bytes (fun s : ByteArray => s.data.toList) fun x y h => by
  obtain ⟨⟨x⟩⟩ := x
  obtain ⟨⟨y⟩⟩ := y
  simp at h
  rw [h]
theorem ord_val : Ord3 cmpVal := by
  have h := ord_then (α := Val) ord_int (ord_then (α := Int × ByteArray) ord_int ord_str (fun p => p.1) (fun p => p.2) (fun x y h1 h2 => Prod.ext h1 h2)) (fun v => v.kind) (fun v => (v.n, v.s))
    (fun x y h1 h2 => by cases x; cases y; simp at h1 h2; rw [h1, h2.1, h2.2])
  have e : (fun x y : Val => if cmpI x.kind y.kind = 0 then (if cmpI x.n y.n = 0 then cmpS x.s y.s else cmpI x.n y.n) else cmpI x.kind y.kind) = cmpVal := by
    funext x y
    unfold cmpVal orI orI orI orI
    split
    · split
      · split
        · omega
        · rfl
      · rfl
    · rfl
  rw [← e]; exact h
theorem ord_vals : Ord3 cmpVals := ord_lex ord_val
theorem ord_ints : Ord3 cmpInts := ord_lex ord_int
theorem ord_row : Ord3 cmpRow := by
  have h := ord_then ord_vals ord_ints (fun r : Row => r.vals) (fun r => r.lin) (fun x y h1 h2 => by cases x; cases y; simp at h1 h2; rw [h1, h2])
  have e : (fun x y : Row => if cmpVals x.vals y.vals = 0 then cmpInts x.lin y.lin else cmpVals x.vals y.vals) = cmpRow := by
    funext x y
    unfold cmpRow orI orI orI
    split
    · split
      · omega
      · rfl
    · rfl
  rw [← e]; exact h

end Go.Proofs.YtdgpbpbjlnlijaaGreat
