/- joined texts of a proof: PairX -/
import Derived.Test.YtdgpbpbjlnlijaaGreatDoorKJ11
import Derived.Test.YtdgpbpbjlnlijaaGreatDoorKJ12
import Derived.Test.YtdgpbpbjlnlijaaGreatDoorKJ04
import Derived.Test.YtdgpbpbjlnlijaaGreatDoorKJ13

/- PairB, PairC, PairD, joined -/

/- sweep.starts -/
namespace Go.Proofs.YtdgpbpbjlnlijaaGreatDoor
open Go.RowKit Go.Shelf Go.Sort

theorem info_ev : (Tryz.prog.info? 218).map (fun i => (i.zero, i.size, i.bytes)) = some (some (.agg #[.int .i64 0, .int .i64 0, .int .i64 0]), Rep.ev.size, 24) := by kernel_rfl
theorem lone_flat {α : Type} {R : Rep α} (hR : R.flat) {w : World} {v : Value} {cs : List Value} {x : α} {xs : List α} {S : Nat → Prop} {base : Nat} {e T : TypeId} (hr : R.holds w.cell? cs x) (own : OwnOf R w S base e v xs) :
    SliceOf R (on (w.alloc (.cells cs.toArray T)) (avoid (fun _ => True) v)) (.slice (some ⟨w.heap.size, 0, none⟩) 1 1) [x] :=
  flat_lone _ _ cs x (hR _ _ _ _ hr) fun j u hj => on_some.2 ⟨⟨fun e => Nat.lt_irrefl _ (own.lt _ e.symm).2, trivial⟩, by
    have := cells_new w cs T j u hj
    rwa [add_lit, Nat.zero_add] at this⟩

set_option maxRecDepth 100000 in
set_option maxHeartbeats 4000000 in
theorem starts_any (v : Value) (l : List Tup) (c : Bool) (w : World) (hv : SliceOf Rep.tup w.cell? v l) (hl : l.length ≤ 1000) :
    Calls Tryz.prog 169 #[v, .int .i64 (sideI c)] w fun e w' => ∃ v', e = .returned v' ∧ OwnOf Rep.ev w' (fun _ => True) w.heap.size 218 v' (starts c l) ∧ Ext w w' := by
  obtain ⟨i0, hi, hz0, hz1, hz2⟩ := info_parts info_ev
  obtain ⟨p, cap, rfl, hc1, hc2, hp⟩ := hv.form
  unfold maxLen at hc2
  obtain ⟨N, hN⟩ : ∃ N, N = l.length := ⟨_, rfl⟩
  obtain ⟨sc, hsc⟩ : ∃ sc, sc = sideI c := ⟨_, rfl⟩
  have HV := Lib.hid hv
  rw [← hN, ← hsc]
  have HN := Lib.hid hN
  have HSC := Lib.hid hsc
  have HP := Lib.hid hp
  have hNl : N ≤ 1000 := by omega
  clear hv hN hsc hp hc1
  go_enter Tryz.func169, Tryz.ntmps169
  go_wp2_with fail
  go_loopg [5, 10] N (fun gk vo vi wr => ∃ (k : Nat) (u : Value), k ≤ N ∧ gk = N - k ∧ vi = .int .i64 k ∧ u = vo ∧ Hid (OwnOf Rep.ev wr (fun _ => True) w.heap.size 218 u (starts c (l.take k))) ∧ Ext w wr)
  case atStart => exact ⟨0, _, by omega, rfl, rfl, rfl, OwnOf.nil _ _ _ _ _, Ext.refl w⟩
  case round =>
    obtain ⟨k, u, hk, rfl, rfl, rfl, OW, hx⟩ := hrel
    by_cases hlt : k < N
    · have hkl : k < l.length := by have := HN.out; omega
      obtain ⟨b, o, rfl⟩ := HP.out (by decide) (by omega)
      have hv := HV.out
      rw [← HN.out] at hv
      obtain ⟨ta, tb, c0, c1, c2, c3, g0, g1, r1, r2⟩ := tup_at hv k hkl
      obtain ⟨pa, ka, ta', _⟩ := g0.form
      obtain ⟨pb, kb, tb', _⟩ := g1.form
      subst ta' tb'
      replace c0 := hx.at c0
      replace c1 := hx.at c1
      replace c2 := hx.at c2
      replace c3 := hx.at c3
      have hst := starts_take c l k hkl
      have hok : okS (⟨c, k, l[k].from_, l[k].to_⟩ : Ev) := ⟨by show k ≤ 1048576; omega, r1⟩
      have hlen := starts_len c (l.take k)
      have hlen2 : (starts c (l.take k)).length ≤ 1000 := by simp at hlen; omega
      generalize l[k].from_ = f at c1 hst hok
      generalize l[k].to_ = t at c2 hst hok
      generalize l[k].vals.length = na at c0
      generalize l[k].lin.length = nb at c3
      have HST := Lib.hid hst
      have HOK := Lib.hid hok
      have HL := Lib.hid hlen2
      have hd : decide ((k : Int) < (N : Int)) = true := by simp; omega
      have e0 := cell_lt c0
      clear hst hok g0 g1 r1 r2 hv hlen hlen2
      go_wp2_with fail
      refine (valid_any f t _).mono ?_
      rintro e w1 ⟨rfl, hx1⟩
      have d1 : w1.cell? ⟨wr.heap.size, 1, none⟩ = some (.int .i64 f) := hx1.at (by go_simp)
      have hx2 : Ext wr w1 := ((Ext.refl wr).alloc _).trans hx1
      clear hx1 c0 c1 c2 c3 e0
      cases hvb : validB f t with
      | true =>
        have HVB := Lib.hid hvb
        clear hvb
        have B1 : (starts c (l.take k)).length + [(⟨c, k, f, t⟩ : Ev)].length ≤ maxLen := by simp [maxLen]; have := HL.out; omega
        have B2 : ((starts c (l.take k)).length + [(⟨c, k, f, t⟩ : Ev)].length) * 24 ≤ 140737488355328 := by simp; have := HL.out; omega
        go_wp2_with (at_builtin; refine wpList_append_all Rep.ev (fun _ => True) rfl _ _ 215 rfl w.heap.size 218 i0 _ 24 Tryz.underlying215 hi hz0 hz1 hz2 rfl (by decide) u (starts c (l.take k)) rfl (by exact OW.out.ext (hx2.alloc _)) _ [⟨c, k, f, t⟩] rfl (by have h := lone_flat (T := 218) (cs := evEnc ⟨c, k, f, t⟩) flat_ev ⟨rfl, HOK.out⟩ (OW.out.ext hx2); unfold evEnc at h; rw [← HSC.out] at h; exact h) B1 B2 (by exact Nat.le_trans hx.size (hx2.alloc _).size) ?_)
        intro v' w3 own gr _
        have hxx : Ext w w3 := (hx.trans (hx2.alloc _)).grownNew gr OW.out.base
        have OW2 := Lib.hid own
        clear own gr
        go_wp2_with fail
        go_roundg (N - (k + 1))
        case measure => omega
        case rel => exact ⟨k + 1, v', by omega, rfl, by go_num, rfl, by show OwnOf _ _ _ _ _ _ _; rw [HST.out, if_pos HVB.out]; exact OW2.out, hxx⟩
      | false =>
        have HVB := Lib.hid hvb
        clear hvb
        go_wp2_with fail
        go_roundg (N - (k + 1))
        case measure => omega
        case rel => exact ⟨k + 1, u, by omega, rfl, by go_num, rfl, by show OwnOf _ _ _ _ _ _ _; rw [HST.out, HVB.out, if_neg (by decide), List.append_nil]; exact OW.out.ext hx2, hx.trans hx2⟩
    · have hkN : k = N := by omega
      subst hkN
      have hd : decide ((k : Int) < (k : Int)) = false := by simp
      go_wp2_with fail
      go_ret
      exact ⟨u, rfl, by have h := OW.out; rw [HN.out, List.take_length] at h; exact h, hx⟩

end Go.Proofs.YtdgpbpbjlnlijaaGreatDoor

/- slices.Grow, slices.Concat at the starts; printed by gen_concat.py -/
namespace Go.Proofs.YtdgpbpbjlnlijaaGreatDoor
open Go.RowKit Go.Shelf

theorem grow_ev (S : Nat → Prop) (n : Nat) (w : World) (hn : n ≤ 1099511627776) : Calls Tryz.prog 223 #[.slice none 0 0, .int .i64 n] w fun e w' => ∃ v', e = .returned v' ∧ OwnOf Rep.ev w' S w.heap.size 218 v' [] ∧ Ext w w' := by
  obtain ⟨i0, hi, hz0, hz1, hz2⟩ := info_parts info_ev
  by_cases h0 : n = 0
  · subst h0
    refine (Any8.slices_Grow_room Tryz.growEv none 0 0 0 w (Nat.le_refl _) (by omega) (by omega) (by omega)).mono ?_
    rintro e w' ⟨rfl, rfl⟩
    exact ⟨_, rfl, OwnOf.nil _ _ _ _ _, Ext.refl _⟩
  · refine (Any8.slices_Grow_grow Tryz.growEv i0 _ hi hz0 (by rw [hz1]; decide) none 0 0 n [] w (Nat.le_refl _) (by omega) (by rw [hz2]; omega) (by omega) (by simp) (fun _ => rfl) (fun a h => by cases h)).mono ?_
    rintro e w' ⟨rfl, rfl⟩
    have hg := grownCap_ge w (0 + n) 0 (Tryz.growEv_ren.t 25)
    have hg2 := grownCap_le_maxLen w (0 + n) 0 (Tryz.growEv_ren.t 25) (by unfold maxLen; omega)
    refine ⟨_, rfl, ⟨[], trivial, ?_⟩, (Ext.refl w).drew.alloc _⟩
    refine World.ownsRow_made w.drew _ _ (Nat.le_refl _) hg2 ?_
    generalize grownCap w (0 + n) 0 (Tryz.growEv_ren.t 25) = cap at hg
    rw [show Rep.ev.size = 3 from rfl]
    simp [size_zeroCells, Value.cells]
    omega

set_option maxHeartbeats 2000000 in
theorem concat_ev (v : Value) (ls : List (List Ev)) (w : World) (hv : SliceOf (Rep.slice Rep.ev) w.cell? v ls) (hbig : ls.flatten.length ≤ 1099511627776) :
    Calls Tryz.prog 168 #[v] w fun e w' => ∃ v', e = .returned v' ∧ OwnOf Rep.ev w' (fun _ => True) w.heap.size 218 v' ls.flatten ∧ Ext w w' := by
  obtain ⟨i0, hi, hz0, hz1, hz2⟩ := info_parts info_ev
  obtain ⟨pa, ca, rfl, ha1, ha2, ha3⟩ := hv.form
  have HV := Lib.hid hv
  unfold maxLen at ha2
  go_enter Tryz.func168, Tryz.ntmps168
  go_wp2_with fail
  go_loopg [3, 11] ls.length (fun gk n i wr => ∃ k m : Nat, k ≤ ls.length ∧ gk = ls.length - k ∧ i = .int .i64 k ∧ n = .int .i64 m ∧ m = (ls.take k).flatten.length ∧ w = wr)
  case atStart => exact ⟨0, 0, by omega, rfl, rfl, rfl, by simp, rfl⟩
  case round =>
    obtain ⟨k, m, hk, rfl, rfl, rfl, hm, rfl⟩ := hrel
    have hle := flatten_take_le ls k
    by_cases hlt : k < ls.length
    · obtain ⟨ba, oa, rfl⟩ := ha3 (by decide) (by omega)
      obtain ⟨u, c1, s1⟩ := slice_at hv k hlt
      have ht := flatten_take ls k hlt
      have hle2 := flatten_take_le ls (k + 1)
      obtain ⟨p1, q1, rfl, hq1, hq2, _⟩ := s1.form
      have hml : (ls.take (k + 1)).flatten.length = m + ls[k].length := by rw [ht, List.length_append, hm]
      rw [hml] at hle2
      rw [← hm] at hle
      generalize ls[k].length = n1 at hml hle2 hq1 c1 s1
      have HL := Lib.hid hml
      have HM := Lib.hid hm
      unfold maxLen at hq2
      have hd : decide ((k : Int) < (ls.length : Int)) = true := by simp; omega
      have hd1 : (k : Int) < (ls.length : Int) := by omega
      have hd2 : decide ((m : Int) + (n1 : Int) < 0) = false := by simp; omega
      clear s1 ht hml hm hv ha3
      go_wp2_with fail
      go_roundg (ls.length - (k + 1))
      case measure => omega
      case rel => exact ⟨k + 1, m + n1, by omega, rfl, by go_num, by go_num, HL.out.symm, rfl⟩
    · have : k = ls.length := by omega
      subst this
      rw [List.take_length] at hm
      have hmb : m ≤ 1099511627776 := by rw [hm]; exact hbig
      clear hv hle hm
      have HB := Lib.hid hbig
      clear hbig
      go_wp2_with fail
      refine (grow_ev (fun _ => True) m _ hmb).mono ?_
      rintro e w1 ⟨v1, rfl, hown, hx⟩
      have HO := Lib.hid hown
      clear hown
      go_wp2_with fail
      go_loopg [6, 27] ls.length (fun gk v i wr => ∃ k : Nat, k ≤ ls.length ∧ gk = ls.length - k ∧ i = .int .i64 k ∧ OwnOf Rep.ev wr (fun _ => True) w.heap.size 218 v (ls.take k).flatten ∧ Ext w wr)
      case atStart => exact ⟨0, by omega, rfl, rfl, by simpa using HO.out, hx⟩
      case round =>
        clear HO hx
        obtain ⟨k, hk, rfl, rfl, hown, hx⟩ := hrel
        by_cases hlt : k < ls.length
        · obtain ⟨ba, oa, rfl⟩ := ha3 (by decide) (by omega)
          obtain ⟨u, c1, s1⟩ := slice_at HV.out k hlt
          have ht := flatten_take ls k hlt
          have hle2 := flatten_take_le ls (k + 1)
          have HO := Lib.hid hown
          have hbg := Nat.le_trans hle2 HB.out
          rw [ht, List.length_append] at hbg
          have hsub : ∀ v', OwnOf Rep.ev wr (fun _ => True) w.heap.size 218 v' (ls.take k).flatten → Sub w.cell? (on wr (avoid (fun _ => True) v')) := fun v' ho p u e => by
            have hlt2 := World.block_lt_of_cell? w p e
            refine on_some.2 ⟨⟨fun he => ?_, trivial⟩, hx.at e⟩
            have := (ho.lt _ he.symm).1
            omega
          replace s1 := s1.ext (hsub _ hown)
          replace c1 := hx.at c1
          generalize ls[k] = x at s1 ht hbg
          have HT := Lib.hid ht
          have HG := Lib.hid hbg
          have S1 := Lib.hid s1
          obtain ⟨p1, q1, rfl, hq1, hq2, _⟩ := s1.form
          have hd : decide ((k : Int) < (ls.length : Int)) = true := by simp; omega
          have hd1 : (k : Int) < (ls.length : Int) := by omega
          clear s1 ht hbg hown ha3 hle2 hsub
          go_wp2_with (at_builtin; refine wpList_append_all Rep.ev (fun _ => True) rfl _ _ 215 rfl w.heap.size 218 i0 _ 24 Tryz.underlying215 hi hz0 hz1 hz2 rfl (by decide) _ (ls.take k).flatten rfl HO.out _ x rfl S1.out ?c1 ?c2 ?c3 ?_)
          case c1 => have := HG.out; unfold maxLen; omega
          case c2 => have := HG.out; omega
          case c3 => exact hx.size
          intro v' w3 hown3 hgr _
          go_wp2_with fail
          go_roundg (ls.length - (k + 1))
          case measure => omega
          case rel => exact ⟨k + 1, by omega, rfl, by go_num, by rw [HT.out]; exact hown3, Below.grown hx hgr hx.size (fun j hj => (HO.out.lt j hj).1)⟩
        · have : k = ls.length := by omega
          subst this
          rw [List.take_length] at hown
          have HO := Lib.hid hown
          clear hown ha3
          go_wp2_with fail
          go_ret
          exact ⟨_, rfl, HO.out, hx⟩


end Go.Proofs.YtdgpbpbjlnlijaaGreatDoor

/- the state of the sweep, and what each step does to it; no walk -/
namespace Go.Proofs.YtdgpbpbjlnlijaaGreatDoor
open Go.RowKit Go.Shelf Go.Sort

def sideN (c : Bool) : Nat := if c then 1 else 0
theorem sideN_ne (c : Bool) : sideN (!c) ≠ sideN c := by cases c <;> decide
theorem info_pair : (Tryz.prog.info? 181).map (fun i => (i.zero, i.size, i.bytes)) = some (some (.agg #[.int .i64 0, .int .i64 0, .int .i64 0, .int .i64 0]), Rep.pair.size, 32) := by kernel_rfl
def upd {α : Type} (f : Bool → α) (c : Bool) (x : α) : Bool → α := fun d => if d = c then x else f d
theorem upd_same {α : Type} (f : Bool → α) (c : Bool) (x : α) : upd f c x c = x := if_pos rfl
theorem upd_not {α : Type} (f : Bool → α) (c : Bool) (x : α) : upd f c x (!c) = f (!c) := if_neg (by cases c <;> decide)
theorem QAt.grow {w w' : World} {qb s B : Nat} {v : Value} {xs : List Ev} (h : QAt w qb s B v xs) (hx : Ext w w') : QAt w' qb s B v xs :=
  h.chg (hx.chg fun _ => False) (fun h => h) (fun _ _ h => h)
/-- between two rounds -/
structure Sweep (w wr : World) (sb qb B : Nat) (va vb v3 : Value) (es : List Ev) (q : Bool → List Ev) (u : Bool → Value) (vo : Value) (out : List Pair) : Prop where
  ext : Ext w wr
  ev : OwnOf Rep.ev wr (fun _ => True) w.heap.size 218 v3 es
  evB : ∀ k, v3.ownBlock = some k → k < B ∧ k ≠ qb
  s0 : wr.cell? ⟨sb, 0, none⟩ = some va
  s1 : wr.cell? ⟨sb, 1, none⟩ = some vb
  sbB : sb < B ∧ sb ≠ qb
  qbB : qb < B ∧ w.heap.size ≤ qb
  qs : ∀ c, QAt wr qb (sideN c) B (u c) (q c)
  hp : ∀ c, HeapL (q c)
  dj : ∀ c k, (u c).ownBlock = some k → (u (!c)).ownBlock ≠ some k
  out : OwnOf Rep.pair wr (fun _ => True) B 181 vo out
  dq : ∀ c k, (u c).ownBlock = some k → vo.ownBlock ≠ some k
theorem Sweep.base {w wr : World} {sb qb B : Nat} {va vb v3 : Value} {es : List Ev} {q : Bool → List Ev} {u : Bool → Value} {vo : Value} {out : List Pair} (h : Sweep w wr sb qb B va vb v3 es q u vo out) : B ≤ wr.heap.size := (h.qs true).base
theorem Sweep.qsz {w wr : World} {sb qb B : Nat} {va vb v3 : Value} {es : List Ev} {q : Bool → List Ev} {u : Bool → Value} {vo : Value} {out : List Pair} (h : Sweep w wr sb qb B va vb v3 es q u vo out) : qb < wr.heap.size := Nat.lt_of_lt_of_le h.qbB.1 h.base
theorem Sweep.grow {w wr w' : World} {sb qb B : Nat} {va vb v3 : Value} {es : List Ev} {q : Bool → List Ev} {u : Bool → Value} {vo : Value} {out : List Pair} (h : Sweep w wr sb qb B va vb v3 es q u vo out) (hx : Ext wr w') : Sweep w w' sb qb B va vb v3 es q u vo out :=
  ⟨h.ext.trans hx, h.ev.ext hx, h.evB, hx.at h.s0, hx.at h.s1, h.sbB, h.qbB, fun c => (h.qs c).grow hx, h.hp, h.dj, h.out.ext hx, h.dq⟩
/-- a queue has changed -/
theorem Sweep.queue {w wr w' : World} {sb qb B : Nat} {va vb v3 : Value} {es : List Ev} {q : Bool → List Ev} {u : Bool → Value} {vo : Value} {out : List Pair} (h : Sweep w wr sb qb B va vb v3 es q u vo out) {c : Bool} {v' : Value} {xs' : List Ev}
    (hq : QAt w' qb (sideN c) B v' xs') (hh : HeapL xs') (hat : v'.ownBlock = (u c).ownBlock ∨ ∃ k, v'.ownBlock = some k ∧ wr.heap.size ≤ k) (hx : Chg (fun k => k = qb ∨ (u c).ownBlock = some k) wr w') (ho : Oth wr w' qb (sideN c)) :
    Sweep w w' sb qb B va vb v3 es (upd q c xs') (upd u c v') vo out := by
  have hB := h.base
  have hul : ∀ c k, (u c).ownBlock = some k → B ≤ k ∧ k < wr.heap.size := fun c k hk => (h.qs c).own.lt k hk
  refine ⟨hx.below h.ext fun b hb => ?_, h.ev.chg flat_ev hx fun k hk hc => ?_, h.evB, hx.at h.s0 ?_, hx.at h.s1 ?_, h.sbB, h.qbB, fun d => ?_, fun d => ?_, fun d k hk => ?_, h.out.chg flat_pair hx fun k hk hc => ?_, fun d k hk => ?_⟩
  · rcases hb with rfl | hb
    · exact h.qbB.2
    · have := hul c b hb
      have := h.qbB
      omega
  · have h1 := h.evB k hk
    rcases hc with hc | hc
    · exact h1.2 hc
    · have := hul c k hc
      omega
  · rintro (hc | hc)
    · exact h.sbB.2 hc
    · have := hul c _ hc
      have := h.sbB.1
      simp at *
      omega
  · rintro (hc | hc)
    · exact h.sbB.2 hc
    · have := hul c _ hc
      have := h.sbB.1
      simp at *
      omega
  · by_cases hd : d = c
    · subst hd
      rw [upd_same, upd_same]
      exact hq
    · have hdn : d = !c := by cases d <;> cases c <;> simp_all
      subst hdn
      rw [upd_not, upd_not]
      have h1 := h.qs (!c)
      have h2 := ho (sideN (!c)) (sideN_ne c)
      exact ⟨h2.1.trans h1.cell, h2.2.trans h1.free, h1.own.chg flat_act hx (fun k hk hc => by
        rcases hc with hc | hc
        · exact h1.ne (by rw [hk, hc])
        · exact h.dj c k hc hk), h1.ne, Nat.le_trans h1.base hx.size⟩
  · by_cases hd : d = c
    · subst hd
      rw [upd_same]
      exact hh
    · have hdn : d = !c := by cases d <;> cases c <;> simp_all
      subst hdn
      rw [upd_not]
      exact h.hp _
  · by_cases hd : d = c
    · subst hd
      rw [upd_same] at hk
      rw [upd_not]
      rcases hat with hat | ⟨j, hj, hjl⟩
      · exact h.dj d k (by rw [← hat]; exact hk)
      · rw [hj] at hk
        injection hk with hk
        intro e
        have := hul (!d) k e
        omega
    · have hdn : d = !c := by cases d <;> cases c <;> simp_all
      subst hdn
      rw [upd_not] at hk
      rw [Bool.not_not, upd_same]
      rcases hat with hat | ⟨j, hj, hjl⟩
      · rw [hat]
        exact fun e => h.dj c k e hk
      · rw [hj]
        intro e
        injection e with e
        have := hul (!c) k hk
        omega
  · rcases hc with hc | hc
    · have := h.out.lt k hk
      have := h.qbB.1
      omega
    · exact h.dq c k hc hk
  · by_cases hd : d = c
    · subst hd
      rw [upd_same] at hk
      rcases hat with hat | ⟨j, hj, hjl⟩
      · exact h.dq d k (by rw [← hat]; exact hk)
      · rw [hj] at hk
        injection hk with hk
        intro e
        have := h.out.lt k e
        omega
    · have hdn : d = !c := by cases d <;> cases c <;> simp_all
      subst hdn
      rw [upd_not] at hk
      exact h.dq _ k hk
/-- the row of pairs has grown -/
theorem Sweep.push {w wr w' : World} {sb qb B : Nat} {va vb v3 : Value} {es : List Ev} {q : Bool → List Ev} {u : Bool → Value} {vo vo' : Value} {out out' : List Pair} (h : Sweep w wr sb qb B va vb v3 es q u vo out)
    (ho : OwnOf Rep.pair w' (fun _ => True) B 181 vo' out') (hg : wr.grownBy w' vo.ownBlock) (hat : vo'.ownBlock = vo.ownBlock ∨ vo'.ownBlock = some wr.heap.size) : Sweep w w' sb qb B va vb v3 es q u vo' out' := by
  have hB := h.base
  have hx := chg_grown hg
  have hol : ∀ k, vo.ownBlock = some k → B ≤ k ∧ k < wr.heap.size := fun k hk => h.out.lt k hk
  refine ⟨hx.below h.ext fun b hb => ?_, h.ev.chg flat_ev hx fun k hk hc => ?_, h.evB, hx.at h.s0 ?_, hx.at h.s1 ?_, h.sbB, h.qbB, fun d => (h.qs d).chg hx ?_ fun k hk hc => h.dq d k hk hc, h.hp, h.dj, ho, fun d k hk => ?_⟩
  · have := hol b hb
    have := h.qbB
    omega
  · have h1 := h.evB k hk
    have := hol k hc
    omega
  · intro hc
    have := hol _ hc
    have := h.sbB.1
    simp at *
    omega
  · intro hc
    have := hol _ hc
    have := h.sbB.1
    simp at *
    omega
  · intro hc
    have := hol _ hc
    have := h.qbB.1
    omega
  · rcases hat with hat | hat
    · rw [hat]; exact h.dq d k hk
    · rw [hat]
      intro e
      injection e with e
      have := ((h.qs d).own.lt k hk).2
      omega
/-- the cells of a pointer's copy of a start, kept by what changes elsewhere -/
structure Kept (w : World) (b : Nat) (x y z : Int) : Prop where
  c0 : w.cell? ⟨b, 0, none⟩ = some (.int .i64 x)
  c1 : w.cell? ⟨b, 1, none⟩ = some (.int .i64 y)
  c2 : w.cell? ⟨b, 2, none⟩ = some (.int .i64 z)
theorem Kept.chg {w w' : World} {b : Nat} {x y z : Int} (h : Kept w b x y z) {C : Nat → Prop} (hx : Chg C w w') (hn : ¬ C b) : Kept w' b x y z := ⟨hx.at h.c0 hn, hx.at h.c1 hn, hx.at h.c2 hn⟩
theorem Kept.grow {w w' : World} {b : Nat} {x y z : Int} (h : Kept w b x y z) (hx : Ext w w') : Kept w' b x y z := ⟨hx.at h.c0, hx.at h.c1, hx.at h.c2⟩
theorem Kept.new (w : World) (x y z : Int) (T : TypeId) : Kept (w.alloc (.cells #[.int .i64 x, .int .i64 y, .int .i64 z] T)) w.heap.size x y z := ⟨by simp, by simp, by simp⟩

theorem OwnOf.shapeLen {α : Type} {R : Rep α} {w : World} {S : Nat → Prop} {base : Nat} {e : TypeId} {v : Value} {xs : List α} (h : OwnOf R w S base e v xs) : ∃ p c, v = .slice p xs.length c ∧ (0 < xs.length → ∃ g, p = some ⟨g, 0, none⟩ ∧ base ≤ g) := by
  rcases h.form with ⟨rfl, rfl⟩ | ⟨g, cap, rfl, hb, _⟩
  · exact ⟨_, _, rfl, fun h => by simp at h⟩
  · exact ⟨_, _, rfl, fun _ => ⟨g, rfl, hb⟩⟩
theorem ev_at {h : View} {g n cap : Nat} {xs : List Ev} (k : SliceOf Rep.ev h (.slice (some ⟨g, 0, none⟩) n cap) xs) (i : Nat) (hi : i < xs.length) :
    h ⟨g, i * 3, none⟩ = some (.int .i64 xs[i].from_) ∧ h ⟨g, i * 3 + 1, none⟩ = some (.int .i64 (sideI xs[i].side)) ∧ h ⟨g, i * 3 + 2, none⟩ = some (.int .i64 xs[i].idx) := by
  obtain ⟨c, ⟨rfl, _⟩, h2⟩ := k.at i hi
  have a0 := h2 0 _ rfl
  have a1 := h2 1 _ rfl
  have a2 := h2 2 _ rfl
  rw [show Rep.ev.size = 3 from rfl, Nat.zero_add] at a0 a1 a2
  exact ⟨a0, a1, a2⟩
theorem act_at {h : View} {g n cap : Nat} {xs : List Ev} (k : SliceOf Rep.act h (.slice (some ⟨g, 0, none⟩) n cap) xs) (i : Nat) (hi : i < xs.length) :
    h ⟨g, i * 2, none⟩ = some (.int .i64 xs[i].idx) ∧ h ⟨g, i * 2 + 1, none⟩ = some (.int .i64 xs[i].to_) := by
  obtain ⟨c, ⟨rfl, _⟩, h2⟩ := k.at i hi
  have a0 := h2 0 _ rfl
  have a1 := h2 1 _ rfl
  rw [show Rep.act.size = 2 from rfl, Nat.zero_add] at a0 a1
  exact ⟨a0, a1⟩
/-- the ends of a tuple, as a walk reads them -/
theorem ends_at {h : View} {b o n cap : Nat} {l : List Tup} (k : SliceOf Rep.tup h (.slice (some ⟨b, o, none⟩) n cap) l) (i : Nat) (hi : i < l.length) :
    h ⟨b, o + i * 4 + 1, none⟩ = some (.int .i64 l[i].from_) ∧ h ⟨b, o + i * 4 + 2, none⟩ = some (.int .i64 l[i].to_) := by
  obtain ⟨_, _, _, h1, h2, _⟩ := tup_at k i hi
  exact ⟨h1, h2⟩
/-- the first state -/
theorem Sweep.first {w w4 : World} {va vb v3 : Value} {es : List Ev} (T1 T2 : TypeId) (hx : Ext w w4) (ho : OwnOf Rep.ev w4 (fun _ => True) w.heap.size 218 v3 es) :
    Sweep w ((w4.alloc (.cells #[va, vb] T1)).alloc (.cells #[.slice none 0 0, .slice none 0 0] T2)) w4.heap.size (w4.heap.size + 1) (w4.heap.size + 2) va vb v3 es (fun _ => []) (fun _ => .slice none 0 0) (.slice none 0 0) [] := by
  have hx2 : Ext w4 ((w4.alloc (.cells #[va, vb] T1)).alloc (.cells #[.slice none 0 0, .slice none 0 0] T2)) := ((Ext.refl w4).alloc _).alloc _
  refine ⟨hx.trans hx2, ho.ext hx2, fun k hk => ?_, by simp, by simp, ⟨by omega, by omega⟩, ⟨by omega, Nat.le_trans hx.size (by omega)⟩, fun c => ?_, fun c => ?_, fun c k hk => ?_, OwnOf.nil _ _ _ _ _, fun c k hk => ?_⟩
  · have := (ho.lt k hk).2
    omega
  · cases c
    · exact ⟨by simp [sideN], by simp [sideN], OwnOf.nil _ _ _ _ _, by simp [Value.ownBlock], by simp⟩
    · exact ⟨by simp [sideN], by simp [sideN], OwnOf.nil _ _ _ _ _, by simp [Value.ownBlock], by simp⟩
  · intro k h0 hk
    simp at hk
  · simp [Value.ownBlock] at hk
  · simp [Value.ownBlock] at hk

/-- what is known of each start -/
def Known (a b : List Tup) (e : Ev) : Prop := okEv e = true ∧ okS e ∧ okE e ∧ ∃ h : e.idx < (if e.side then b else a).length, (if e.side then b else a)[e.idx].from_ = e.from_ ∧ (if e.side then b else a)[e.idx].to_ = e.to_
theorem known_of {a b : List Tup} {c : Bool} {l : List Tup} (hl : l = if c then b else a) (hlen : l.length ≤ 1000) (hr : ∀ t ∈ l, (-9223372036854775808 ≤ t.from_ ∧ t.from_ ≤ 9223372036854775807) ∧ (-9223372036854775808 ≤ t.to_ ∧ t.to_ ≤ 9223372036854775807)) {e : Ev} (he : e ∈ starts c l) : Known a b e := by
  obtain ⟨h1, h2, t, h3, h4, h5⟩ := starts_mem he
  obtain ⟨h6, h7⟩ := List.getElem?_eq_some_iff.1 h3
  obtain ⟨h8, h9⟩ := hr t (by rw [← h7]; exact List.getElem_mem _)
  refine ⟨h2, ⟨by omega, by rw [h4]; exact h8⟩, ⟨by omega, by rw [h5]; exact h9⟩, ?_⟩
  rw [h1, ← hl]
  exact ⟨h6, by rw [h7, h4], by rw [h7, h5]⟩
theorem tup_rng {h : View} {v : Value} {l : List Tup} (k : SliceOf Rep.tup h v l) : ∀ t ∈ l, (-9223372036854775808 ≤ t.from_ ∧ t.from_ ≤ 9223372036854775807) ∧ (-9223372036854775808 ≤ t.to_ ∧ t.to_ ≤ 9223372036854775807) := by
  obtain ⟨css, h1, h2⟩ := k
  clear h2
  induction l generalizing css with
  | nil => simp
  | cons t l ih =>
    cases css with
    | nil => exact h1.elim
    | cons c css =>
      intro x hx
      rcases List.mem_cons.1 hx with rfl | hx
      · obtain ⟨_, _, _, _, _, r⟩ := h1.1
        exact r
      · exact ih css h1.2 x hx

theorem comparePairs_enter : ∀ args w, (callFunc 175 args).run Tryz.prog w = .ok (.enter 175 args) w := fun args w => by kernel_rfl
theorem sortPairs_any (w : World) (S : Nat → Prop) (base : Nat) (e : TypeId) (v : Value) (xs : List Pair) (hown : OwnOf Rep.pair w S base e v xs) (hlen : xs.length < 4611686018427387904) :
    Calls Tryz.prog 174 #[v, .func (.func 175) #[] #[]] w fun en w' => ∃ ys, en = .returned (.tuple #[]) ∧ ys.Perm xs ∧ (ys.Pairwise fun a b => ¬ cmpPair b a < 0) ∧ OwnOf Rep.pair w' S base e v ys ∧ w.grownBy w' v.ownBlock :=
  sortFunc_gen Rep.pair cmpPair swo_pair 175 174 4611686018427387904
    (fun β _ enc hel h1 cf hO blk off cap d w hcmp hH hblk hsz => AnyQ.slices_SortFunc Tryz.sortPairs Rep.pair.size (fun w => by kernel_rfl) (fun w => by kernel_rfl) enc hel h1 cf hO 175 #[] blk off cap d w comparePairs_enter hcmp hH hblk hsz)
    (fun p cap w => AnyF.slices_SortFunc_none Tryz.sortPairs p cap (.func (.func 175) #[] #[]) w)
    (fun W x y cx cy hx hy => by obtain ⟨rfl, _⟩ := hx; obtain ⟨rfl, _⟩ := hy; exact comparePairs_any x y W) w S base e v xs hown hlen

end Go.Proofs.YtdgpbpbjlnlijaaGreatDoor
