/- the reference's Diff -/
import Derived.Test.YtmjfbfigdkolaaaBagN
import Derived.Test.YtmjfbfigdkolaaaBagK
namespace Go.Proofs.Ytmjfbfigdkolaaa
open Go.RowKit Go.Deep

theorem surp_part {l b : List Row} (hs : l.Pairwise fun a b => cmpRow a b ≤ 0) (i j : Nat) (hij : i < j) (hj : j ≤ l.length) (v : List Val) (hst : ∀ p, (l.take i).getLast? = some p → p.vals ≠ v)
    (hv : ∀ (t : Nat) (ht : t < l.length), i ≤ t → t < j → l[t].vals = v) : surpA b [] (l.take j) = surpA b [] (l.take i) ++ ((l.take j).drop i).drop (mult v b) := by
  have e1 : l.take j = l.take i ++ (l.take j).drop i := by
    conv => lhs; rw [← List.take_append_drop i (l.take j)]
    rw [List.take_take, Nat.min_eq_left (by omega)]
  have hrun : ∀ r ∈ (l.take j).drop i, r.vals = v := by
    intro r hr
    obtain ⟨t, ht, rfl⟩ := List.mem_iff_getElem.1 hr
    simp at ht
    rw [List.getElem_drop, List.getElem_take]
    exact hv _ _ (by omega) (by omega)
  have hne : (l.take j).drop i ≠ [] := fun e => by have := congrArg List.length e; simp at this; omega
  have h4 : mult v (l.take i) = 0 := by
    refine fresh_run (rest := l.drop j) hs ?_ hne hrun hst
    rw [← e1, List.take_append_drop]
  conv => lhs; rw [e1]
  rw [surpA_append, List.nil_append, surpA_run b _ _ v hrun, h4, Nat.sub_zero]

theorem last_ne (l : List Row) (k n : Nat) (hkn : k < n) (h : n < l.length) (v : List Val) (hall : ∀ (t : Nat) (ht : t < l.length), k ≤ t → t < n → l[t].vals = v) (hne : l[n].vals ≠ v) : ∀ p, (l.take n).getLast? = some p → p.vals ≠ l[n].vals := by
  intro p hp
  rw [List.getLast?_eq_getElem?, List.length_take, Nat.min_eq_left (by omega), List.getElem?_take, if_pos (by omega), List.getElem?_eq_getElem (by omega)] at hp
  injection hp with hp
  rw [← hp, hall (n - 1) (by omega) (by omega) (by omega)]
  exact fun e => hne e.symm

theorem SliceOf.part {α : Type} {R : Rep α} {w : View} {b o cap n : Nat} {xs : List α} (h : SliceOf R w (.slice (some ⟨b, o, none⟩) n cap) xs) (i j : Nat) (hij : i ≤ j) (hj : j ≤ xs.length) :
    SliceOf R w (.slice (some ⟨b, o + i * R.size, none⟩) (j - i) (cap - i)) ((xs.take j).drop i) := by
  have h1 := h.takeV j hj
  have h2 := h1.dropV i (by simp; omega)
  rwa [show (xs.take j).length = j from by simp; omega] at h2

set_option maxRecDepth 100000 in
set_option maxHeartbeats 4000000 in
theorem ref_surplus (va vb : Value) (a b : List Row) (w : World) (ha : SliceOf Rep.row w.cell? va a) (hb : SliceOf Rep.row w.cell? vb b) (hf : fitRows a) (hf' : b.length ≤ 1048576) :
    Calls Try.prog 48 #[va, vb] w fun e w' => ∃ v', e = .returned v' ∧ SliceOf Rep.row w'.cell? v' (surpA b [] (sortBy cmpRow a)) ∧ Ext w w' := by
  obtain ⟨i0, hi, hz0, hz1, hz2⟩ := info_parts infoRow
  have HA := Lib.hid ha
  have HB := Lib.hid hb
  have hf1 := hf.1
  obtain ⟨pa, ca, rfl, _⟩ := ha.form
  obtain ⟨pb, cb, rfl, _⟩ := hb.form
  clear ha hb hf
  go_enter Try.func48, Try.ntmps48
  go_wp2_with fail
  refine (ref_sort a.length a (Nat.le_refl _) _ _ hf1 HA.out).mono ?_
  rintro e w1 ⟨v1, rfl, s1, hx1⟩
  have hsp0 := sortBy_pair ord_row a
  have hsl := sortBy_length cmpRow a
  generalize hla : sortBy cmpRow a = l at s1 hsp0 hsl
  have A0 := Lib.hid (s1.ext (full_on w1 (fun k => k < w1.heap.size) fun k hk => hk))
  have hsp := Lib.hid hsp0
  have HLA := Lib.hid hla
  obtain ⟨p1, q1, rfl, hr1, hr2, hr3⟩ := s1.form
  have hl6 : l.length ≤ 1048576 := by omega
  unfold maxLen at hr2
  replace HB := Lib.hid (HB.out.ext hx1.full)
  clear s1 hla hsp0 hsl HA
  go_wp2_with fail
  go_loopg [5, 6] l.length (fun gk out i wr => ∃ k : Nat, k ≤ l.length ∧ gk = l.length - k ∧ i = .int .i64 k ∧ OwnOf Rep.row wr (fun k => k < w1.heap.size) w1.heap.size 32 out (surpA b [] (l.take k)) ∧ (∀ (h : k < l.length) p, (l.take k).getLast? = some p → p.vals ≠ l[k].vals) ∧ Below w1.heap.size w1 wr)
  case atStart => exact ⟨0, by omega, rfl, rfl, by simpa [surpA] using OwnOf.nil _ _ _ _ _, by simp, Below.refl _ _⟩
  case round =>
    obtain ⟨k, hk, rfl, rfl, hown, hst, hbw⟩ := hrel
    obtain ⟨wA, rfl⟩ : ∃ wA : World, wA = wr := ⟨_, rfl⟩
    by_cases hlt : k < l.length
    · replace hst := hst hlt
      obtain ⟨ba, oa, rfl⟩ := hr3 (by decide) (by omega)
      obtain ⟨u1, u2, c1, _, s1, _⟩ := row_at A0.out k hlt
      have hvk : l[k].vals = l[k].vals := rfl
      generalize hvv : l[k].vals = v at s1 hst hvk
      have HVK := Lib.hid hvv
      obtain ⟨pu, qu, rfl, _⟩ := s1.form
      have HST := Lib.hid hst
      have S1 := Lib.hid s1
      have HO := Lib.hid hown
      have C1 := Lib.hid c1
      have hd : decide ((k : Int) < (l.length : Int)) = true := by simp; omega
      clear hst s1 hown hvk hvv c1
      go_wp2_with fail
      go_loopg [7] (l.length - k) (fun gk j wr => ∃ n : Nat, k ≤ n ∧ n ≤ l.length ∧ gk = l.length - n ∧ j = .int .i64 n ∧ (∀ (t : Nat) (ht : t < l.length), k ≤ t → t < n → l[t].vals = v) ∧ Ext wA wr)
      case atStart => exact ⟨k, by omega, by omega, rfl, rfl, fun t _ _ _ => by omega, Ext.refl _⟩
      case round =>
        obtain ⟨n, hn1, hn2, rfl, rfl, hall, hxr⟩ := hrel
        have HALL := Lib.hid hall
        clear hall
        have hbr := Below.trans hbw (hxr.mono hbw.size)
        have c1 := (on_some.1 (below_sub hbr (fun _ h => h) _ _ C1.out)).2
        have hsv : Sub (on w1 (fun k => k < w1.heap.size)) wr.cell? := (below_sub hbr (fun _ h => h)).trans (on_sub _ _)
        have T1 := Lib.hid (S1.out.ext hsv)
        have hxw := Gro.refl wr
        have hd0 : (k : Int) < (l.length : Int) := by omega
        by_cases hnl : n < l.length
        · obtain ⟨x1, x2, d1, _, t1, _⟩ := row_at A0.out n hnl
          have hvn : l[n].vals = l[n].vals := rfl
          generalize hxx : l[n].vals = x at t1 hvn
          replace d1 := (on_some.1 (below_sub hbr (fun _ h => h) _ _ d1)).2
          obtain ⟨px, qx, rfl, _⟩ := t1.form
          have T2 := Lib.hid (t1.ext hsv)
          have HX := Lib.hid hxx
          have hd1 : decide ((n : Int) < (l.length : Int)) = true := by simp; omega
          have hd2 : (n : Int) < (l.length : Int) := by omega
          clear t1 hvn hxx hsv
          go_wp2_with fail
          go_region_held3 (fun w' => Gro wr w' ∧ w'.cell? ⟨ba, oa + k * 2, none⟩ = some (.slice pu v.length qu) ∧ w'.cell? ⟨ba, oa + n * 2, none⟩ = some (.slice px x.length qx))
            (first | exact ⟨hxw.drew, c1, d1⟩ | assumption | exact keepG2 (by assumption) hx2)
            (first | (go_at_call 50; refine (ref_compareRows _ _ x v _ (by exact T2.out.ext (And.left ‹Gro wr _ ∧ _›).ext.full) (by exact T1.out.ext (And.left ‹Gro wr _ ∧ _›).ext.full)).mono ?_; rintro e w2 ⟨rfl, hx2⟩))
          all_goals (obtain ⟨hfin, _⟩ := ‹Gro wr _ ∧ _›)
          all_goals clear c1 d1
          all_goals generalize hq : cmpVals x v = q
          all_goals (have HQ := Lib.hid hq)
          all_goals clear hq
          all_goals (replace hxr := hxr.trans hfin.ext)
          all_goals clear hbr hfin
          all_goals by_cases hq0 : q = 0
          all_goals first
          | (subst hq0
             have HQ0 := Lib.hid ((ord_vals.eq _ _).1 HQ.out)
             clear HQ
             go_wp2_with fail
             go_roundg (l.length - (n + 1))
             case measure => omega
             case rel => exact ⟨n + 1, by omega, by omega, rfl, by go_num, fun t ht h1 h2 => by
               by_cases htn : t < n
               · exact HALL.out t ht h1 htn
               · have : t = n := by omega
                 subst this
                 rw [HX.out, HQ0.out], hxr⟩)
          | (have hne : x ≠ v := fun e => hq0 (by rw [← HQ.out]; exact (ord_vals.eq _ _).2 e)
             have hnk : n ≠ k := fun e => by subst e; exact hne (by rw [← HX.out, HVK.out])
             have hqb : (q == 0) = false := by simp [hq0]
             have HNE := Lib.hid hne
             clear hne hq0 HQ
             have hkn : k < n := by omega
             have hpart := surp_part (b := b) hsp.out k n hkn hn2 v HST.out HALL.out
             have hbr3 := Below.trans hbw (hxr.mono hbw.size)
             have c1 := (on_some.1 (below_sub hbr3 (fun _ h => h) _ _ C1.out)).2
             have hsv : Sub (on w1 (fun k => k < w1.heap.size)) _ := (below_sub hbr3 (fun _ h => h)).trans (on_sub _ _)
             have T3 := Lib.hid (S1.out.ext hsv)
             have hkl2 : (k : Int) < (l.length : Int) := by omega
             have B3 := Lib.hid (HB.out.ext ((full_on w1 (fun k => k < w1.heap.size) fun k hk => hk).trans hsv))
             clear hsv
             go_wp2_with fail
             refine (ref_multiplicity _ _ b v _ B3.out T3.out).mono ?_
             rintro e w3 ⟨rfl, hx3⟩
             have hbw3 := Below.trans hbr3 (hx3.mono hbr3.size)
             have HO3 := Lib.hid (HO.out.ext (hxr.trans hx3))
             have hml : mult v b ≤ b.length := List.countP_le_length
             have hsl2 : (surpA b [] (l.take k)).length ≤ (l.take k).length := surpA_len _ _ _
             rw [List.length_take] at hsl2
             generalize mult v b = m at hpart hml
             have HP := Lib.hid hpart
             clear c1 hpart B3 T3 hbr3 hx3
             by_cases hmn : m < n - k
             · have hmi : (m : Int) < (n : Int) - (k : Int) := by omega
               have hs3 := A0.out.part (k + m) n (by omega) hn2
               have S3 := Lib.hid (hs3.ext (old_avoid hbw3 HO3.out))
               have hl3 : ((l.take n).drop (k + m)).length ≤ 1048576 := by simp; omega
               have HL3 := Lib.hid hl3
               have hcu : ¬ k + m = q1 := by omega
               have hcu2 : ¬ (k : Int) + (m : Int) = (q1 : Int) := by omega
               clear hs3 hl3
               go_wp2_with (at_builtin; refine wpList_append_all Rep.row (fun k => k < w1.heap.size) rfl _ _ 22 rfl w1.heap.size 32 i0 _ 48 Try.underlying22 hi hz0 hz1 hz2 rfl (by decide) _ (surpA b [] (l.take k)) rfl HO3.out _ ((l.take n).drop (k + m)) rfl S3.out ?c1 ?c2 ?c3 ?_)
               case c1 => have := HL3.out; unfold maxLen; omega
               case c2 => have := HL3.out; omega
               case c3 => exact hbw3.size
               intro v' w4 hown4 hgr _
               go_wp2_with fail
               go_roundg (l.length - n)
               case measure => omega
               case rel => exact ⟨n, by omega, rfl, rfl, by rw [HP.out, List.drop_drop]; exact hown4, fun h p hp => last_ne l k n hkn h v HALL.out (by rw [HX.out]; exact HNE.out) p hp, Below.grown hbw3 hgr hbw3.size (fun j hj => (HO3.out.lt j hj).1)⟩
             · have hmi : ¬ (m : Int) < (n : Int) - (k : Int) := by omega
               have hdn : ((l.take n).drop k).drop m = [] := List.drop_eq_nil_of_le (by simp; omega)
               have HDN := Lib.hid hdn
               clear hdn
               go_wp2_with fail
               go_roundg (l.length - n)
               case measure => omega
               case rel => exact ⟨n, by omega, rfl, rfl, by rw [HP.out, HDN.out, List.append_nil]; exact HO3.out, fun h p hp => last_ne l k n hkn h v HALL.out (by rw [HX.out]; exact HNE.out) p hp, hbw3⟩)
        · have hd1 : decide ((n : Int) < (l.length : Int)) = false := by simp; omega
          clear c1 hsv hbr
          go_wp2_with fail
          go_quiet (fail)
          replace hxr := hxr.trans (hxw.ext.drewN nq)
          have hkn : k < n := by omega
          have hpart := surp_part (b := b) hsp.out k n hkn hn2 v HST.out HALL.out
          have hbr3 := Below.trans hbw (hxr.mono hbw.size)
          have c1 := (on_some.1 (below_sub hbr3 (fun _ h => h) _ _ C1.out)).2
          have hsv : Sub (on w1 (fun k => k < w1.heap.size)) _ := (below_sub hbr3 (fun _ h => h)).trans (on_sub _ _)
          have T3 := Lib.hid (S1.out.ext hsv)
          have hkl2 : (k : Int) < (l.length : Int) := by omega
          have B3 := Lib.hid (HB.out.ext ((full_on w1 (fun k => k < w1.heap.size) fun k hk => hk).trans hsv))
          clear hsv
          go_wp2_with fail
          refine (ref_multiplicity _ _ b v _ B3.out T3.out).mono ?_
          rintro e w3 ⟨rfl, hx3⟩
          have hbw3 := Below.trans hbr3 (hx3.mono hbr3.size)
          have HO3 := Lib.hid (HO.out.ext (hxr.trans hx3))
          have hml : mult v b ≤ b.length := List.countP_le_length
          have hsl2 : (surpA b [] (l.take k)).length ≤ (l.take k).length := surpA_len _ _ _
          rw [List.length_take] at hsl2
          generalize mult v b = m at hpart hml
          have HP := Lib.hid hpart
          clear c1 hpart B3 T3 hbr3 hx3
          by_cases hmn : m < n - k
          · have hmi : (m : Int) < (n : Int) - (k : Int) := by omega
            have hs3 := A0.out.part (k + m) n (by omega) hn2
            have S3 := Lib.hid (hs3.ext (old_avoid hbw3 HO3.out))
            have hl3 : ((l.take n).drop (k + m)).length ≤ 1048576 := by simp; omega
            have HL3 := Lib.hid hl3
            have hcu : ¬ k + m = q1 := by omega
            have hcu2 : ¬ (k : Int) + (m : Int) = (q1 : Int) := by omega
            clear hs3 hl3
            go_wp2_with (at_builtin; refine wpList_append_all Rep.row (fun k => k < w1.heap.size) rfl _ _ 22 rfl w1.heap.size 32 i0 _ 48 Try.underlying22 hi hz0 hz1 hz2 rfl (by decide) _ (surpA b [] (l.take k)) rfl HO3.out _ ((l.take n).drop (k + m)) rfl S3.out ?c1 ?c2 ?c3 ?_)
            case c1 => have := HL3.out; unfold maxLen; omega
            case c2 => have := HL3.out; omega
            case c3 => exact hbw3.size
            intro v' w4 hown4 hgr _
            go_wp2_with fail
            go_roundg (l.length - n)
            case measure => omega
            case rel => exact ⟨n, by omega, rfl, rfl, by rw [HP.out, List.drop_drop]; exact hown4, fun h => by omega, Below.grown hbw3 hgr hbw3.size (fun j hj => (HO3.out.lt j hj).1)⟩
          · have hmi : ¬ (m : Int) < (n : Int) - (k : Int) := by omega
            have hdn : ((l.take n).drop k).drop m = [] := List.drop_eq_nil_of_le (by simp; omega)
            have HDN := Lib.hid hdn
            clear hdn
            go_wp2_with fail
            go_roundg (l.length - n)
            case measure => omega
            case rel => exact ⟨n, by omega, rfl, rfl, by rw [HP.out, HDN.out, List.append_nil]; exact HO3.out, fun h => by omega, hbw3⟩
    · have : k = l.length := by omega
      subst this
      rw [List.take_length] at hown
      obtain ⟨pf, qf, rfl, _⟩ := hown.slice.form
      have HO := Lib.hid hown.slice
      clear hown hst
      go_wp2_with fail
      go_ret
      exact ⟨_, rfl, by rw [HLA.out]; exact HO.out, Ext.trans hx1 hbw⟩

theorem ref_diff (va vb : Value) (a b : List Row) (w : World) (ha : SliceOf Rep.row w.cell? va a) (hb : SliceOf Rep.row w.cell? vb b) (hf : fitRows a) (hf' : fitRows b) :
    Calls Try.prog 21 #[va, vb] w fun e w' => ∃ v' u', e = .returned (.tuple #[v', u']) ∧ SliceOf Rep.row w'.cell? v' (surpA b [] (sortBy cmpRow a)) ∧ SliceOf Rep.row w'.cell? u' (surpA a [] (sortBy cmpRow b)) ∧ Ext w w' := by
  have HA := Lib.hid ha
  have HB := Lib.hid hb
  have HF := Lib.hid hf
  have HF' := Lib.hid hf'
  obtain ⟨pa, ca, rfl, _⟩ := ha.form
  obtain ⟨pb, cb, rfl, _⟩ := hb.form
  clear ha hb hf hf'
  go_enter Try.func21, Try.ntmps21
  go_wp2_with fail
  refine (ref_surplus _ _ a b _ HA.out HB.out HF.out HF'.out.1).mono ?_
  rintro e w1 ⟨v1, rfl, s1, hx1⟩
  have S1 := Lib.hid s1
  obtain ⟨p1, q1, rfl, _⟩ := s1.form
  clear s1
  go_wp2_with fail
  refine (ref_surplus _ _ b a _ (HB.out.ext hx1.full) (HA.out.ext hx1.full) HF'.out HF.out.1).mono ?_
  rintro e w2 ⟨v2, rfl, s2, hx2⟩
  have S2 := Lib.hid s2
  obtain ⟨p2, q2, rfl, _⟩ := s2.form
  clear s2
  go_wp2_with fail
  refine bodyPost_ret (v := .tuple #[.slice p1 (surpA b [] (sortBy cmpRow a)).length q1, .slice p2 (surpA a [] (sortBy cmpRow b)).length q2]) (by simp [results, Try.results21, go_sem]) rfl ⟨_, _, rfl, S1.out.ext hx2.full, S2.out, hx1.trans hx2⟩

end Go.Proofs.Ytmjfbfigdkolaaa

