/- joined texts of a proof: PairX, DepthX -/
import Derived.Test.YtdgpbpbjlnlijaaGreatDoorKC14
import Derived.Test.YtdgpbpbjlnlijaaGreatDoorKC15
import Derived.Test.YtdgpbpbjlnlijaaGreatDoorKC05
import Derived.Test.YtdgpbpbjlnlijaaGreatDoorKC16
import Derived.Test.YtdgpbpbjlnlijaaGreatDoorKC07
import Derived.Test.YtdgpbpbjlnlijaaGreatDoorKC08
import Derived.Maps.Own
import Derived.Maps.OwnOps
import Derived.Maps.RangeWalk
import Derived.Maps.Views

/- PairB, PairC, PairD, joined -/

/- sweep.starts -/
namespace Go.Proofs.YtdgpbpbjlnlijaaGreatDoor
open Go.RowKit Go.Shelf Go.Sort

theorem info_ev : (Tryz.prog.info? 218).map (fun i => (i.zero, i.size, i.bytes)) = some (some (.agg #[.int .i64 0, .int .i64 0, .int .i64 0]), Rep.ev.size, 24) := by kernel_rfl
theorem lone_flat {α : Type} {R : Rep α} (hR : R.flat) {w : World} {v : Value} {cs : List Value} {x : α} {xs : List α} {S : Nat → Prop} {base : Nat} {e T : TypeId} (hr : R.holds w.cell? cs x) (own : OwnOf R w S base e v xs) :
    SliceOf R (on (w.alloc (.cells cs.toArray T)) (avoid (fun _ => True) v)) (.slice (some ⟨w.heap.size, 0, none⟩) 1 1) [x] :=
  flat_lone _ _ cs x (hR _ _ _ _ hr) fun j u hj => on_some.2 ⟨⟨fun e => Nat.lt_irrefl _ (own.lt _ e.symm).2, trivial⟩, by
    have := cells_new w cs T j u hj
    rwa [add_lit, Nat.zero_add] at this⟩

set_option maxRecDepth 100000 in
set_option maxHeartbeats 4000000 in
theorem starts_any (v : Value) (l : List Tup) (c : Bool) (w : World) (hv : SliceOf Rep.tup w.cell? v l) (hl : l.length ≤ 1000) :
    Calls Tryz.prog 169 #[v, .int .i64 (sideI c)] w fun e w' => ∃ v', e = .returned v' ∧ OwnOf Rep.ev w' (fun _ => True) w.heap.size 218 v' (starts c l) ∧ Ext w w' := by
  obtain ⟨i0, hi, hz0, hz1, hz2⟩ := info_parts info_ev
  obtain ⟨p, cap, rfl, hc1, hc2, hp⟩ := hv.form
  unfold maxLen at hc2
  obtain ⟨N, hN⟩ : ∃ N, N = l.length := ⟨_, rfl⟩
  obtain ⟨sc, hsc⟩ : ∃ sc, sc = sideI c := ⟨_, rfl⟩
  have HV := Lib.hid hv
  rw [← hN, ← hsc]
  have HN := Lib.hid hN
  have HSC := Lib.hid hsc
  have HP := Lib.hid hp
  have hNl : N ≤ 1000 := by omega
  clear hv hN hsc hp hc1
  go_enter Tryz.func169, Tryz.ntmps169
  go_wp2_with fail
  go_loopg [5, 10] N (fun gk vo vi wr => ∃ (k : Nat) (u : Value), k ≤ N ∧ gk = N - k ∧ vi = .int .i64 k ∧ u = vo ∧ Hid (OwnOf Rep.ev wr (fun _ => True) w.heap.size 218 u (starts c (l.take k))) ∧ Ext w wr)
  case atStart => exact ⟨0, _, by omega, rfl, rfl, rfl, OwnOf.nil _ _ _ _ _, Ext.refl w⟩
  case round =>
    obtain ⟨k, u, hk, rfl, rfl, rfl, OW, hx⟩ := hrel
    by_cases hlt : k < N
    · have hkl : k < l.length := by have := HN.out; omega
      obtain ⟨b, o, rfl⟩ := HP.out (by decide) (by omega)
      have hv := HV.out
      rw [← HN.out] at hv
      obtain ⟨ta, tb, c0, c1, c2, c3, g0, g1, r1, r2⟩ := tup_at hv k hkl
      obtain ⟨pa, ka, ta', _⟩ := g0.form
      obtain ⟨pb, kb, tb', _⟩ := g1.form
      subst ta' tb'
      replace c0 := hx.at c0
      replace c1 := hx.at c1
      replace c2 := hx.at c2
      replace c3 := hx.at c3
      have hst := starts_take c l k hkl
      have hok : okS (⟨c, k, l[k].from_, l[k].to_⟩ : Ev) := ⟨by show k ≤ 1048576; omega, r1⟩
      have hlen := starts_len c (l.take k)
      have hlen2 : (starts c (l.take k)).length ≤ 1000 := by simp at hlen; omega
      generalize l[k].from_ = f at c1 hst hok
      generalize l[k].to_ = t at c2 hst hok
      generalize l[k].vals.length = na at c0
      generalize l[k].lin.length = nb at c3
      have HST := Lib.hid hst
      have HOK := Lib.hid hok
      have HL := Lib.hid hlen2
      have hd : decide ((k : Int) < (N : Int)) = true := by simp; omega
      have e0 := cell_lt c0
      clear hst hok g0 g1 r1 r2 hv hlen hlen2
      go_wp2_with fail
      refine (valid_any f t _).mono ?_
      rintro e w1 ⟨rfl, hx1⟩
      have d1 : w1.cell? ⟨wr.heap.size, 1, none⟩ = some (.int .i64 f) := hx1.at (by go_simp)
      have hx2 : Ext wr w1 := ((Ext.refl wr).alloc _).trans hx1
      clear hx1 c0 c1 c2 c3 e0
      cases hvb : validB f t with
      | true =>
        have HVB := Lib.hid hvb
        clear hvb
        have B1 : (starts c (l.take k)).length + [(⟨c, k, f, t⟩ : Ev)].length ≤ maxLen := by simp [maxLen]; have := HL.out; omega
        have B2 : ((starts c (l.take k)).length + [(⟨c, k, f, t⟩ : Ev)].length) * 24 ≤ 140737488355328 := by simp; have := HL.out; omega
        go_wp2_with (at_builtin; refine wpList_append_all Rep.ev (fun _ => True) rfl _ _ 215 rfl w.heap.size 218 i0 _ 24 Tryz.underlying215 hi hz0 hz1 hz2 rfl (by decide) u (starts c (l.take k)) rfl (by exact OW.out.ext (hx2.alloc _)) _ [⟨c, k, f, t⟩] rfl (by have h := lone_flat (T := 218) (cs := evEnc ⟨c, k, f, t⟩) flat_ev ⟨rfl, HOK.out⟩ (OW.out.ext hx2); unfold evEnc at h; rw [← HSC.out] at h; exact h) B1 B2 (by exact Nat.le_trans hx.size (hx2.alloc _).size) ?_)
        intro v' w3 own gr _
        have hxx : Ext w w3 := (hx.trans (hx2.alloc _)).grownNew gr OW.out.base
        have OW2 := Lib.hid own
        clear own gr
        go_wp2_with fail
        go_roundg (N - (k + 1))
        case measure => omega
        case rel => exact ⟨k + 1, v', by omega, rfl, by go_num, rfl, by show OwnOf _ _ _ _ _ _ _; rw [HST.out, if_pos HVB.out]; exact OW2.out, hxx⟩
      | false =>
        have HVB := Lib.hid hvb
        clear hvb
        go_wp2_with fail
        go_roundg (N - (k + 1))
        case measure => omega
        case rel => exact ⟨k + 1, u, by omega, rfl, by go_num, rfl, by show OwnOf _ _ _ _ _ _ _; rw [HST.out, HVB.out, if_neg (by decide), List.append_nil]; exact OW.out.ext hx2, hx.trans hx2⟩
    · have hkN : k = N := by omega
      subst hkN
      have hd : decide ((k : Int) < (k : Int)) = false := by simp
      go_wp2_with fail
      go_ret
      exact ⟨u, rfl, by have h := OW.out; rw [HN.out, List.take_length] at h; exact h, hx⟩

end Go.Proofs.YtdgpbpbjlnlijaaGreatDoor

/- slices.Grow, slices.Concat at the starts; printed by gen_concat.py -/
namespace Go.Proofs.YtdgpbpbjlnlijaaGreatDoor
open Go.RowKit Go.Shelf

theorem grow_ev (S : Nat → Prop) (n : Nat) (w : World) (hn : n ≤ 1099511627776) : Calls Tryz.prog 223 #[.slice none 0 0, .int .i64 n] w fun e w' => ∃ v', e = .returned v' ∧ OwnOf Rep.ev w' S w.heap.size 218 v' [] ∧ Ext w w' := by
  obtain ⟨i0, hi, hz0, hz1, hz2⟩ := info_parts info_ev
  by_cases h0 : n = 0
  · subst h0
    refine (Any8.slices_Grow_room Tryz.growEv none 0 0 0 w (Nat.le_refl _) (by omega) (by omega) (by omega)).mono ?_
    rintro e w' ⟨rfl, rfl⟩
    exact ⟨_, rfl, OwnOf.nil _ _ _ _ _, Ext.refl _⟩
  · refine (Any8.slices_Grow_grow Tryz.growEv i0 _ hi hz0 (by rw [hz1]; decide) none 0 0 n [] w (Nat.le_refl _) (by omega) (by rw [hz2]; omega) (by omega) (by simp) (fun _ => rfl) (fun a h => by cases h)).mono ?_
    rintro e w' ⟨rfl, rfl⟩
    have hg := grownCap_ge w (0 + n) 0 (Tryz.growEv_ren.t 25)
    have hg2 := grownCap_le_maxLen w (0 + n) 0 (Tryz.growEv_ren.t 25) (by unfold maxLen; omega)
    refine ⟨_, rfl, ⟨[], trivial, ?_⟩, (Ext.refl w).drew.alloc _⟩
    refine World.ownsRow_made w.drew _ _ (Nat.le_refl _) hg2 ?_
    generalize grownCap w (0 + n) 0 (Tryz.growEv_ren.t 25) = cap at hg
    rw [show Rep.ev.size = 3 from rfl]
    simp [size_zeroCells, Value.cells]
    omega

set_option maxHeartbeats 2000000 in
theorem concat_ev (v : Value) (ls : List (List Ev)) (w : World) (hv : SliceOf (Rep.slice Rep.ev) w.cell? v ls) (hbig : ls.flatten.length ≤ 1099511627776) :
    Calls Tryz.prog 168 #[v] w fun e w' => ∃ v', e = .returned v' ∧ OwnOf Rep.ev w' (fun _ => True) w.heap.size 218 v' ls.flatten ∧ Ext w w' := by
  obtain ⟨i0, hi, hz0, hz1, hz2⟩ := info_parts info_ev
  obtain ⟨pa, ca, rfl, ha1, ha2, ha3⟩ := hv.form
  have HV := Lib.hid hv
  unfold maxLen at ha2
  go_enter Tryz.func168, Tryz.ntmps168
  go_wp2_with fail
  go_loopg [3, 11] ls.length (fun gk n i wr => ∃ k m : Nat, k ≤ ls.length ∧ gk = ls.length - k ∧ i = .int .i64 k ∧ n = .int .i64 m ∧ m = (ls.take k).flatten.length ∧ w = wr)
  case atStart => exact ⟨0, 0, by omega, rfl, rfl, rfl, by simp, rfl⟩
  case round =>
    obtain ⟨k, m, hk, rfl, rfl, rfl, hm, rfl⟩ := hrel
    have hle := flatten_take_le ls k
    by_cases hlt : k < ls.length
    · obtain ⟨ba, oa, rfl⟩ := ha3 (by decide) (by omega)
      obtain ⟨u, c1, s1⟩ := slice_at hv k hlt
      have ht := flatten_take ls k hlt
      have hle2 := flatten_take_le ls (k + 1)
      obtain ⟨p1, q1, rfl, hq1, hq2, _⟩ := s1.form
      have hml : (ls.take (k + 1)).flatten.length = m + ls[k].length := by rw [ht, List.length_append, hm]
      rw [hml] at hle2
      rw [← hm] at hle
      generalize ls[k].length = n1 at hml hle2 hq1 c1 s1
      have HL := Lib.hid hml
      have HM := Lib.hid hm
      unfold maxLen at hq2
      have hd : decide ((k : Int) < (ls.length : Int)) = true := by simp; omega
      have hd1 : (k : Int) < (ls.length : Int) := by omega
      have hd2 : decide ((m : Int) + (n1 : Int) < 0) = false := by simp; omega
      clear s1 ht hml hm hv ha3
      go_wp2_with fail
      go_roundg (ls.length - (k + 1))
      case measure => omega
      case rel => exact ⟨k + 1, m + n1, by omega, rfl, by go_num, by go_num, HL.out.symm, rfl⟩
    · have : k = ls.length := by omega
      subst this
      rw [List.take_length] at hm
      have hmb : m ≤ 1099511627776 := by rw [hm]; exact hbig
      clear hv hle hm
      have HB := Lib.hid hbig
      clear hbig
      go_wp2_with fail
      refine (grow_ev (fun _ => True) m _ hmb).mono ?_
      rintro e w1 ⟨v1, rfl, hown, hx⟩
      have HO := Lib.hid hown
      clear hown
      go_wp2_with fail
      go_loopg [6, 27] ls.length (fun gk v i wr => ∃ k : Nat, k ≤ ls.length ∧ gk = ls.length - k ∧ i = .int .i64 k ∧ OwnOf Rep.ev wr (fun _ => True) w.heap.size 218 v (ls.take k).flatten ∧ Ext w wr)
      case atStart => exact ⟨0, by omega, rfl, rfl, by simpa using HO.out, hx⟩
      case round =>
        clear HO hx
        obtain ⟨k, hk, rfl, rfl, hown, hx⟩ := hrel
        by_cases hlt : k < ls.length
        · obtain ⟨ba, oa, rfl⟩ := ha3 (by decide) (by omega)
          obtain ⟨u, c1, s1⟩ := slice_at HV.out k hlt
          have ht := flatten_take ls k hlt
          have hle2 := flatten_take_le ls (k + 1)
          have HO := Lib.hid hown
          have hbg := Nat.le_trans hle2 HB.out
          rw [ht, List.length_append] at hbg
          have hsub : ∀ v', OwnOf Rep.ev wr (fun _ => True) w.heap.size 218 v' (ls.take k).flatten → Sub w.cell? (on wr (avoid (fun _ => True) v')) := fun v' ho p u e => by
            have hlt2 := World.block_lt_of_cell? w p e
            refine on_some.2 ⟨⟨fun he => ?_, trivial⟩, hx.at e⟩
            have := (ho.lt _ he.symm).1
            omega
          replace s1 := s1.ext (hsub _ hown)
          replace c1 := hx.at c1
          generalize ls[k] = x at s1 ht hbg
          have HT := Lib.hid ht
          have HG := Lib.hid hbg
          have S1 := Lib.hid s1
          obtain ⟨p1, q1, rfl, hq1, hq2, _⟩ := s1.form
          have hd : decide ((k : Int) < (ls.length : Int)) = true := by simp; omega
          have hd1 : (k : Int) < (ls.length : Int) := by omega
          clear s1 ht hbg hown ha3 hle2 hsub
          go_wp2_with (at_builtin; refine wpList_append_all Rep.ev (fun _ => True) rfl _ _ 215 rfl w.heap.size 218 i0 _ 24 Tryz.underlying215 hi hz0 hz1 hz2 rfl (by decide) _ (ls.take k).flatten rfl HO.out _ x rfl S1.out ?c1 ?c2 ?c3 ?_)
          case c1 => have := HG.out; unfold maxLen; omega
          case c2 => have := HG.out; omega
          case c3 => exact hx.size
          intro v' w3 hown3 hgr _
          go_wp2_with fail
          go_roundg (ls.length - (k + 1))
          case measure => omega
          case rel => exact ⟨k + 1, by omega, rfl, by go_num, by rw [HT.out]; exact hown3, Below.grown hx hgr hx.size (fun j hj => (HO.out.lt j hj).1)⟩
        · have : k = ls.length := by omega
          subst this
          rw [List.take_length] at hown
          have HO := Lib.hid hown
          clear hown ha3
          go_wp2_with fail
          go_ret
          exact ⟨_, rfl, HO.out, hx⟩


end Go.Proofs.YtdgpbpbjlnlijaaGreatDoor

/- the state of the sweep, and what each step does to it; no walk -/
namespace Go.Proofs.YtdgpbpbjlnlijaaGreatDoor
open Go.RowKit Go.Shelf Go.Sort

def sideN (c : Bool) : Nat := if c then 1 else 0
theorem sideN_ne (c : Bool) : sideN (!c) ≠ sideN c := by cases c <;> decide
theorem info_pair : (Tryz.prog.info? 181).map (fun i => (i.zero, i.size, i.bytes)) = some (some (.agg #[.int .i64 0, .int .i64 0, .int .i64 0, .int .i64 0]), Rep.pair.size, 32) := by kernel_rfl
def upd {α : Type} (f : Bool → α) (c : Bool) (x : α) : Bool → α := fun d => if d = c then x else f d
theorem upd_same {α : Type} (f : Bool → α) (c : Bool) (x : α) : upd f c x c = x := if_pos rfl
theorem upd_not {α : Type} (f : Bool → α) (c : Bool) (x : α) : upd f c x (!c) = f (!c) := if_neg (by cases c <;> decide)
theorem QAt.grow {w w' : World} {qb s B : Nat} {v : Value} {xs : List Ev} (h : QAt w qb s B v xs) (hx : Ext w w') : QAt w' qb s B v xs :=
  h.chg (hx.chg fun _ => False) (fun h => h) (fun _ _ h => h)
/-- between two rounds -/
structure Sweep (w wr : World) (sb qb B : Nat) (va vb v3 : Value) (es : List Ev) (q : Bool → List Ev) (u : Bool → Value) (vo : Value) (out : List Pair) : Prop where
  ext : Ext w wr
  ev : OwnOf Rep.ev wr (fun _ => True) w.heap.size 218 v3 es
  evB : ∀ k, v3.ownBlock = some k → k < B ∧ k ≠ qb
  s0 : wr.cell? ⟨sb, 0, none⟩ = some va
  s1 : wr.cell? ⟨sb, 1, none⟩ = some vb
  sbB : sb < B ∧ sb ≠ qb
  qbB : qb < B ∧ w.heap.size ≤ qb
  qs : ∀ c, QAt wr qb (sideN c) B (u c) (q c)
  hp : ∀ c, HeapL (q c)
  dj : ∀ c k, (u c).ownBlock = some k → (u (!c)).ownBlock ≠ some k
  out : OwnOf Rep.pair wr (fun _ => True) B 181 vo out
  dq : ∀ c k, (u c).ownBlock = some k → vo.ownBlock ≠ some k
theorem Sweep.base {w wr : World} {sb qb B : Nat} {va vb v3 : Value} {es : List Ev} {q : Bool → List Ev} {u : Bool → Value} {vo : Value} {out : List Pair} (h : Sweep w wr sb qb B va vb v3 es q u vo out) : B ≤ wr.heap.size := (h.qs true).base
theorem Sweep.qsz {w wr : World} {sb qb B : Nat} {va vb v3 : Value} {es : List Ev} {q : Bool → List Ev} {u : Bool → Value} {vo : Value} {out : List Pair} (h : Sweep w wr sb qb B va vb v3 es q u vo out) : qb < wr.heap.size := Nat.lt_of_lt_of_le h.qbB.1 h.base
theorem Sweep.grow {w wr w' : World} {sb qb B : Nat} {va vb v3 : Value} {es : List Ev} {q : Bool → List Ev} {u : Bool → Value} {vo : Value} {out : List Pair} (h : Sweep w wr sb qb B va vb v3 es q u vo out) (hx : Ext wr w') : Sweep w w' sb qb B va vb v3 es q u vo out :=
  ⟨h.ext.trans hx, h.ev.ext hx, h.evB, hx.at h.s0, hx.at h.s1, h.sbB, h.qbB, fun c => (h.qs c).grow hx, h.hp, h.dj, h.out.ext hx, h.dq⟩
/-- a queue has changed -/
theorem Sweep.queue {w wr w' : World} {sb qb B : Nat} {va vb v3 : Value} {es : List Ev} {q : Bool → List Ev} {u : Bool → Value} {vo : Value} {out : List Pair} (h : Sweep w wr sb qb B va vb v3 es q u vo out) {c : Bool} {v' : Value} {xs' : List Ev}
    (hq : QAt w' qb (sideN c) B v' xs') (hh : HeapL xs') (hat : v'.ownBlock = (u c).ownBlock ∨ ∃ k, v'.ownBlock = some k ∧ wr.heap.size ≤ k) (hx : Chg (fun k => k = qb ∨ (u c).ownBlock = some k) wr w') (ho : Oth wr w' qb (sideN c)) :
    Sweep w w' sb qb B va vb v3 es (upd q c xs') (upd u c v') vo out := by
  have hB := h.base
  have hul : ∀ c k, (u c).ownBlock = some k → B ≤ k ∧ k < wr.heap.size := fun c k hk => (h.qs c).own.lt k hk
  refine ⟨hx.below h.ext fun b hb => ?_, h.ev.chg flat_ev hx fun k hk hc => ?_, h.evB, hx.at h.s0 ?_, hx.at h.s1 ?_, h.sbB, h.qbB, fun d => ?_, fun d => ?_, fun d k hk => ?_, h.out.chg flat_pair hx fun k hk hc => ?_, fun d k hk => ?_⟩
  · rcases hb with rfl | hb
    · exact h.qbB.2
    · have := hul c b hb
      have := h.qbB
      omega
  · have h1 := h.evB k hk
    rcases hc with hc | hc
    · exact h1.2 hc
    · have := hul c k hc
      omega
  · rintro (hc | hc)
    · exact h.sbB.2 hc
    · have := hul c _ hc
      have := h.sbB.1
      simp at *
      omega
  · rintro (hc | hc)
    · exact h.sbB.2 hc
    · have := hul c _ hc
      have := h.sbB.1
      simp at *
      omega
  · by_cases hd : d = c
    · subst hd
      rw [upd_same, upd_same]
      exact hq
    · have hdn : d = !c := by cases d <;> cases c <;> simp_all
      subst hdn
      rw [upd_not, upd_not]
      have h1 := h.qs (!c)
      have h2 := ho (sideN (!c)) (sideN_ne c)
      exact ⟨h2.1.trans h1.cell, h2.2.trans h1.free, h1.own.chg flat_act hx (fun k hk hc => by
        rcases hc with hc | hc
        · exact h1.ne (by rw [hk, hc])
        · exact h.dj c k hc hk), h1.ne, Nat.le_trans h1.base hx.size⟩
  · by_cases hd : d = c
    · subst hd
      rw [upd_same]
      exact hh
    · have hdn : d = !c := by cases d <;> cases c <;> simp_all
      subst hdn
      rw [upd_not]
      exact h.hp _
  · by_cases hd : d = c
    · subst hd
      rw [upd_same] at hk
      rw [upd_not]
      rcases hat with hat | ⟨j, hj, hjl⟩
      · exact h.dj d k (by rw [← hat]; exact hk)
      · rw [hj] at hk
        injection hk with hk
        intro e
        have := hul (!d) k e
        omega
    · have hdn : d = !c := by cases d <;> cases c <;> simp_all
      subst hdn
      rw [upd_not] at hk
      rw [Bool.not_not, upd_same]
      rcases hat with hat | ⟨j, hj, hjl⟩
      · rw [hat]
        exact fun e => h.dj c k e hk
      · rw [hj]
        intro e
        injection e with e
        have := hul (!c) k hk
        omega
  · rcases hc with hc | hc
    · have := h.out.lt k hk
      have := h.qbB.1
      omega
    · exact h.dq c k hc hk
  · by_cases hd : d = c
    · subst hd
      rw [upd_same] at hk
      rcases hat with hat | ⟨j, hj, hjl⟩
      · exact h.dq d k (by rw [← hat]; exact hk)
      · rw [hj] at hk
        injection hk with hk
        intro e
        have := h.out.lt k e
        omega
    · have hdn : d = !c := by cases d <;> cases c <;> simp_all
      subst hdn
      rw [upd_not] at hk
      exact h.dq _ k hk
/-- the row of pairs has grown -/
theorem Sweep.push {w wr w' : World} {sb qb B : Nat} {va vb v3 : Value} {es : List Ev} {q : Bool → List Ev} {u : Bool → Value} {vo vo' : Value} {out out' : List Pair} (h : Sweep w wr sb qb B va vb v3 es q u vo out)
    (ho : OwnOf Rep.pair w' (fun _ => True) B 181 vo' out') (hg : wr.grownBy w' vo.ownBlock) (hat : vo'.ownBlock = vo.ownBlock ∨ vo'.ownBlock = some wr.heap.size) : Sweep w w' sb qb B va vb v3 es q u vo' out' := by
  have hB := h.base
  have hx := chg_grown hg
  have hol : ∀ k, vo.ownBlock = some k → B ≤ k ∧ k < wr.heap.size := fun k hk => h.out.lt k hk
  refine ⟨hx.below h.ext fun b hb => ?_, h.ev.chg flat_ev hx fun k hk hc => ?_, h.evB, hx.at h.s0 ?_, hx.at h.s1 ?_, h.sbB, h.qbB, fun d => (h.qs d).chg hx ?_ fun k hk hc => h.dq d k hk hc, h.hp, h.dj, ho, fun d k hk => ?_⟩
  · have := hol b hb
    have := h.qbB
    omega
  · have h1 := h.evB k hk
    have := hol k hc
    omega
  · intro hc
    have := hol _ hc
    have := h.sbB.1
    simp at *
    omega
  · intro hc
    have := hol _ hc
    have := h.sbB.1
    simp at *
    omega
  · intro hc
    have := hol _ hc
    have := h.qbB.1
    omega
  · rcases hat with hat | hat
    · rw [hat]; exact h.dq d k hk
    · rw [hat]
      intro e
      injection e with e
      have := ((h.qs d).own.lt k hk).2
      omega
/-- the cells of a pointer's copy of a start, kept by what changes elsewhere -/
structure Kept (w : World) (b : Nat) (x y z : Int) : Prop where
  c0 : w.cell? ⟨b, 0, none⟩ = some (.int .i64 x)
  c1 : w.cell? ⟨b, 1, none⟩ = some (.int .i64 y)
  c2 : w.cell? ⟨b, 2, none⟩ = some (.int .i64 z)
theorem Kept.chg {w w' : World} {b : Nat} {x y z : Int} (h : Kept w b x y z) {C : Nat → Prop} (hx : Chg C w w') (hn : ¬ C b) : Kept w' b x y z := ⟨hx.at h.c0 hn, hx.at h.c1 hn, hx.at h.c2 hn⟩
theorem Kept.grow {w w' : World} {b : Nat} {x y z : Int} (h : Kept w b x y z) (hx : Ext w w') : Kept w' b x y z := ⟨hx.at h.c0, hx.at h.c1, hx.at h.c2⟩
theorem Kept.new (w : World) (x y z : Int) (T : TypeId) : Kept (w.alloc (.cells #[.int .i64 x, .int .i64 y, .int .i64 z] T)) w.heap.size x y z := ⟨by simp, by simp, by simp⟩

theorem OwnOf.shapeLen {α : Type} {R : Rep α} {w : World} {S : Nat → Prop} {base : Nat} {e : TypeId} {v : Value} {xs : List α} (h : OwnOf R w S base e v xs) : ∃ p c, v = .slice p xs.length c ∧ (0 < xs.length → ∃ g, p = some ⟨g, 0, none⟩ ∧ base ≤ g) := by
  rcases h.form with ⟨rfl, rfl⟩ | ⟨g, cap, rfl, hb, _⟩
  · exact ⟨_, _, rfl, fun h => by simp at h⟩
  · exact ⟨_, _, rfl, fun _ => ⟨g, rfl, hb⟩⟩
theorem ev_at {h : View} {g n cap : Nat} {xs : List Ev} (k : SliceOf Rep.ev h (.slice (some ⟨g, 0, none⟩) n cap) xs) (i : Nat) (hi : i < xs.length) :
    h ⟨g, i * 3, none⟩ = some (.int .i64 xs[i].from_) ∧ h ⟨g, i * 3 + 1, none⟩ = some (.int .i64 (sideI xs[i].side)) ∧ h ⟨g, i * 3 + 2, none⟩ = some (.int .i64 xs[i].idx) := by
  obtain ⟨c, ⟨rfl, _⟩, h2⟩ := k.at i hi
  have a0 := h2 0 _ rfl
  have a1 := h2 1 _ rfl
  have a2 := h2 2 _ rfl
  rw [show Rep.ev.size = 3 from rfl, Nat.zero_add] at a0 a1 a2
  exact ⟨a0, a1, a2⟩
theorem act_at {h : View} {g n cap : Nat} {xs : List Ev} (k : SliceOf Rep.act h (.slice (some ⟨g, 0, none⟩) n cap) xs) (i : Nat) (hi : i < xs.length) :
    h ⟨g, i * 2, none⟩ = some (.int .i64 xs[i].idx) ∧ h ⟨g, i * 2 + 1, none⟩ = some (.int .i64 xs[i].to_) := by
  obtain ⟨c, ⟨rfl, _⟩, h2⟩ := k.at i hi
  have a0 := h2 0 _ rfl
  have a1 := h2 1 _ rfl
  rw [show Rep.act.size = 2 from rfl, Nat.zero_add] at a0 a1
  exact ⟨a0, a1⟩
/-- the ends of a tuple, as a walk reads them -/
theorem ends_at {h : View} {b o n cap : Nat} {l : List Tup} (k : SliceOf Rep.tup h (.slice (some ⟨b, o, none⟩) n cap) l) (i : Nat) (hi : i < l.length) :
    h ⟨b, o + i * 4 + 1, none⟩ = some (.int .i64 l[i].from_) ∧ h ⟨b, o + i * 4 + 2, none⟩ = some (.int .i64 l[i].to_) := by
  obtain ⟨_, _, _, h1, h2, _⟩ := tup_at k i hi
  exact ⟨h1, h2⟩
/-- the first state -/
theorem Sweep.first {w w4 : World} {va vb v3 : Value} {es : List Ev} (T1 T2 : TypeId) (hx : Ext w w4) (ho : OwnOf Rep.ev w4 (fun _ => True) w.heap.size 218 v3 es) :
    Sweep w ((w4.alloc (.cells #[va, vb] T1)).alloc (.cells #[.slice none 0 0, .slice none 0 0] T2)) w4.heap.size (w4.heap.size + 1) (w4.heap.size + 2) va vb v3 es (fun _ => []) (fun _ => .slice none 0 0) (.slice none 0 0) [] := by
  have hx2 : Ext w4 ((w4.alloc (.cells #[va, vb] T1)).alloc (.cells #[.slice none 0 0, .slice none 0 0] T2)) := ((Ext.refl w4).alloc _).alloc _
  refine ⟨hx.trans hx2, ho.ext hx2, fun k hk => ?_, by simp, by simp, ⟨by omega, by omega⟩, ⟨by omega, Nat.le_trans hx.size (by omega)⟩, fun c => ?_, fun c => ?_, fun c k hk => ?_, OwnOf.nil _ _ _ _ _, fun c k hk => ?_⟩
  · have := (ho.lt k hk).2
    omega
  · cases c
    · exact ⟨by simp [sideN], by simp [sideN], OwnOf.nil _ _ _ _ _, by simp [Value.ownBlock], by simp⟩
    · exact ⟨by simp [sideN], by simp [sideN], OwnOf.nil _ _ _ _ _, by simp [Value.ownBlock], by simp⟩
  · intro k h0 hk
    simp at hk
  · simp [Value.ownBlock] at hk
  · simp [Value.ownBlock] at hk

/-- what is known of each start -/
def Known (a b : List Tup) (e : Ev) : Prop := okEv e = true ∧ okS e ∧ okE e ∧ ∃ h : e.idx < (if e.side then b else a).length, (if e.side then b else a)[e.idx].from_ = e.from_ ∧ (if e.side then b else a)[e.idx].to_ = e.to_
theorem known_of {a b : List Tup} {c : Bool} {l : List Tup} (hl : l = if c then b else a) (hlen : l.length ≤ 1000) (hr : ∀ t ∈ l, (-9223372036854775808 ≤ t.from_ ∧ t.from_ ≤ 9223372036854775807) ∧ (-9223372036854775808 ≤ t.to_ ∧ t.to_ ≤ 9223372036854775807)) {e : Ev} (he : e ∈ starts c l) : Known a b e := by
  obtain ⟨h1, h2, t, h3, h4, h5⟩ := starts_mem he
  obtain ⟨h6, h7⟩ := List.getElem?_eq_some_iff.1 h3
  obtain ⟨h8, h9⟩ := hr t (by rw [← h7]; exact List.getElem_mem _)
  refine ⟨h2, ⟨by omega, by rw [h4]; exact h8⟩, ⟨by omega, by rw [h5]; exact h9⟩, ?_⟩
  rw [h1, ← hl]
  exact ⟨h6, by rw [h7, h4], by rw [h7, h5]⟩
theorem tup_rng {h : View} {v : Value} {l : List Tup} (k : SliceOf Rep.tup h v l) : ∀ t ∈ l, (-9223372036854775808 ≤ t.from_ ∧ t.from_ ≤ 9223372036854775807) ∧ (-9223372036854775808 ≤ t.to_ ∧ t.to_ ≤ 9223372036854775807) := by
  obtain ⟨css, h1, h2⟩ := k
  clear h2
  induction l generalizing css with
  | nil => simp
  | cons t l ih =>
    cases css with
    | nil => exact h1.elim
    | cons c css =>
      intro x hx
      rcases List.mem_cons.1 hx with rfl | hx
      · obtain ⟨_, _, _, _, _, r⟩ := h1.1
        exact r
      · exact ih css h1.2 x hx

theorem comparePairs_enter : ∀ args w, (callFunc 175 args).run Tryz.prog w = .ok (.enter 175 args) w := fun args w => by kernel_rfl
theorem sortPairs_any (w : World) (S : Nat → Prop) (base : Nat) (e : TypeId) (v : Value) (xs : List Pair) (hown : OwnOf Rep.pair w S base e v xs) (hlen : xs.length < 4611686018427387904) :
    Calls Tryz.prog 174 #[v, .func (.func 175) #[] #[]] w fun en w' => ∃ ys, en = .returned (.tuple #[]) ∧ ys.Perm xs ∧ (ys.Pairwise fun a b => ¬ cmpPair b a < 0) ∧ OwnOf Rep.pair w' S base e v ys ∧ w.grownBy w' v.ownBlock :=
  sortFunc_gen Rep.pair cmpPair swo_pair 175 174 4611686018427387904
    (fun β _ enc hel h1 cf hO blk off cap d w hcmp hH hblk hsz => AnyQ.slices_SortFunc Tryz.sortPairs Rep.pair.size (fun w => by kernel_rfl) (fun w => by kernel_rfl) enc hel h1 cf hO 175 #[] blk off cap d w comparePairs_enter hcmp hH hblk hsz)
    (fun p cap w => AnyF.slices_SortFunc_none Tryz.sortPairs p cap (.func (.func 175) #[] #[]) w)
    (fun W x y cx cy hx hy => by obtain ⟨rfl, _⟩ := hx; obtain ⟨rfl, _⟩ := hy; exact comparePairs_any x y W) w S base e v xs hown hlen

end Go.Proofs.YtdgpbpbjlnlijaaGreatDoor

/- DepthA, DepthB, joined -/

/- the steps of a function of time as a row of cells; the map of changes; no walk -/
namespace Go.Proofs.YtdgpbpbjlnlijaaGreatDoor
open Go.RowKit Go.Maps

def stepEnc (s : StepI) : List Value := [.int .i64 s.from_, .int .i64 s.to_, .int .i64 1, .int .i64 s.n, .string ByteArray.empty]
def Rep.step : Rep StepI where
  size := 5
  holds _ cs x := cs = stepEnc x ∧ okI x.from_ ∧ okI x.to_ ∧ okI x.n
  len := by rintro w cs x ⟨rfl, _⟩; rfl
  ext := by rintro w w' cs x h _; exact h
  one := by rintro w cs x ⟨rfl, _⟩; simp [stepEnc, Value.oneCell']
theorem flat_step : Rep.step.flat := fun _ _ _ _ h => h
theorem info_step : (Tryz.prog.info? 54).map (fun i => (i.zero, i.size, i.bytes)) = some (some (.agg #[.int .i64 0, .int .i64 0, .int .i64 0, .int .i64 0, .string ByteArray.empty]), Rep.step.size, 48) := by kernel_rfl

theorem flatten_set {u : Value} : ∀ (css : List (List Value)) (k i r : Nat), (∀ c ∈ css, c.length = k) → (hi : i < css.length) → r < k → css.flatten.set (i * k + r) u = (css.set i (css[i].set r u)).flatten := by
  intro css
  induction css with
  | nil => intro k i r _ hi; simp at hi
  | cons c css ih =>
    intro k i r hl hi hr
    have hc := hl c (by simp)
    cases i with
    | zero => simp only [Nat.zero_mul, Nat.zero_add, List.flatten_cons, List.set_cons_zero, List.getElem_cons_zero]; rw [List.set_append_left _ _ (by omega)]
    | succ i =>
      simp only [List.flatten_cons, List.set_cons_succ, List.getElem_cons_succ]
      rw [List.set_append_right _ _ (by rw [Nat.succ_mul]; omega), hc, show (i + 1) * k + r - k = i * k + r by rw [Nat.succ_mul]; omega, ih k i r (fun d hd => hl d (by simp [hd])) (by simpa using hi) hr]
theorem RepAll.set {α : Type} {R : Rep α} {h : View} {css : List (List Value)} {xs : List α} (k : RepAll R h css xs) {c : List Value} {y : α} (hy : R.holds h c y) : ∀ i, RepAll R h (css.set i c) (xs.set i y) := by
  induction css generalizing xs with
  | nil =>
    cases xs with
    | nil => intro i; simpa using k
    | cons x xs => exact k.elim
  | cons d css ih =>
    cases xs with
    | nil => exact k.elim
    | cons x xs =>
      intro i
      cases i with
      | zero => exact ⟨hy, k.2⟩
      | succ i => exact ⟨k.1, ih k.2 i⟩
/-- a store into one field of a datum of the call's own row -/
theorem OwnOf.store {α : Type} {R : Rep α} (hR : R.flat) {w : World} {S : Nat → Prop} {base : Nat} {e : TypeId} {g cap : Nat} {xs : List α} (h : OwnOf R w S base e (.slice (some ⟨g, 0, none⟩) xs.length cap) xs) (i r : Nat) (hi : i < xs.length) (hr : r < R.size) (u : Value) (y : α)
    (hy : ∀ cs, R.holds w.cell? cs xs[i] → R.holds w.cell? (cs.set r u) y) :
    OwnOf R (w.setCell ⟨g, i * R.size + r, none⟩ u) S base e (.slice (some ⟨g, 0, none⟩) xs.length cap) (xs.set i y) ∧ w.grownBy (w.setCell ⟨g, i * R.size + r, none⟩ u) (some g) := by
  obtain ⟨css, h1, h2⟩ := h
  have hcl := h1.length
  obtain ⟨h3, h4⟩ := h2.stored (i * R.size + r) u
  refine ⟨⟨css.set i ((css[i]'(by omega)).set r u), ?_, ?_⟩, h4⟩
  · have h5 : RepAll R w.cell? css xs := h1.flatView hR
    obtain ⟨c, g1, g2, _⟩ := h5.at i hi
    rw [List.getElem?_eq_getElem (by omega)] at g2
    injection g2 with g2
    rw [g2]
    exact RepAll.flatView hR (RepAll.set h5 (hy c g1) i)
  · rw [List.length_set, ← flatten_set css R.size i r (repAll_len' h1) (by omega) hr]
    exact h3

theorem chg_rng (l : List Tup) (x : Int) : -(l.length : Int) ≤ chg l x ∧ chg l x ≤ l.length := by
  induction l with
  | nil => simp [chg]
  | cons t l ih =>
    simp only [chg, chg1, List.length_cons]
    (repeat' split) <;> omega
theorem key_lit (x : Int) : WideAt.IsKeyLit (Lit.int .i64 x) := trivial
/-- the map of changes, key by key -/
structure MapIs (D : DataW Unit) (l : List Tup) : Prop where
  map : IsMap D
  val : ∀ x, D.atKey (.int .i64 x) (.lit (.int .i64 0)) = .lit (.int .i64 (chg l x))
  has : ∀ x, Maps.has D (.int .i64 x) = true ↔ x ∈ bnd l
theorem MapIs.nil : MapIs (.map []) [] := ⟨isMap_empty, fun _ => rfl, fun x => by simp [Maps.has, bnd]⟩
theorem isMap_put {D : DataW Unit} (h : IsMap D) (k : Lit) (d : DataW Unit) : IsMap (D.put k d) := by
  obtain ⟨es, rfl⟩ := h
  exact ⟨_, rfl⟩
theorem MapIs.skip {D : DataW Unit} {l : List Tup} (h : MapIs D l) {t : Tup} (hv : validT t = false) : MapIs D (l ++ [t]) :=
  ⟨h.map, fun x => by rw [h.val, chg_append]; simp [chg, chg1, hv], fun x => by rw [h.has, bnd_append]; simp [bnd, hv]⟩
theorem lit_ne {x y : Int} (h : x ≠ y) : (Lit.int .i64 x) ≠ .int .i64 y := fun e => by injection e with _ e; exact h e
theorem MapIs.step {D : DataW Unit} {l : List Tup} (h : MapIs D l) {t : Tup} (hv : validT t = true) :
    (D.put (.int .i64 t.from_) (.lit (.int .i64 (chg l t.from_ + 1)))).atKey (.int .i64 t.to_) (.lit (.int .i64 0)) = .lit (.int .i64 (chg l t.to_)) ∧
    MapIs ((D.put (.int .i64 t.from_) (.lit (.int .i64 (chg l t.from_ + 1)))).put (.int .i64 t.to_) (.lit (.int .i64 (chg l t.to_ - 1)))) (l ++ [t]) := by
  have hlt := validB_lt hv
  have hm := isMap_put h.map (.int .i64 t.from_) (.lit (.int .i64 (chg l t.from_ + 1)))
  refine ⟨by rw [atKey_put_other (lit_ne (by omega)), h.val], isMap_put hm _ _, fun x => ?_, fun x => ?_⟩
  · rw [chg_append]
    simp only [chg, chg1, hv, if_true]
    by_cases e1 : x = t.to_
    · subst e1
      rw [atKey_put_same hm (key_lit _), if_neg (by omega), if_pos rfl]
      congr 2
    · rw [atKey_put_other (lit_ne e1)]
      by_cases e2 : x = t.from_
      · subst e2
        rw [atKey_put_same h.map (key_lit _), if_pos rfl, if_neg (by omega)]
        congr 2
      · rw [atKey_put_other (lit_ne e2), h.val, if_neg (by omega), if_neg (by omega)]
        congr 2; omega
  · rw [bnd_append]
    have hb : bnd [t] = [t.from_, t.to_] := by simp [bnd, hv]
    rw [hb]
    by_cases e1 : x = t.to_
    · subst e1
      simp [has_put_same hm (k := Lit.int .i64 t.to_) trivial]
    · rw [has_put_other (lit_ne e1)]
      by_cases e2 : x = t.from_
      · subst e2
        simp [has_put_same h.map (k := Lit.int .i64 t.from_) trivial]
      · rw [has_put_other (lit_ne e2), h.has]
        simp [e1, e2]
/-- the keys that have been drawn so far -/
def ColI (D : DataW Unit) (left : Lit → Bool) (ss : List Int) : Prop := ss.Nodup ∧ ∀ x, x ∈ ss ↔ (Maps.has D (.int .i64 x) = true ∧ left (.int .i64 x) = false)
theorem ColI.start (D : DataW Unit) : ColI D (Maps.has D) [] := ⟨List.nodup_nil, fun x => by cases Maps.has D (.int .i64 x) <;> simp⟩
theorem sameKey_int (x y : Int) : (Lit.int .i64 y).sameKey (.int .i64 x) = decide (y = x) := by
  by_cases h : y = x
  · subst h; rw [WideAt.sameKey_self (key_lit _)]; simp
  · rw [sameKey_ne (lit_ne h)]; simp [h]
theorem ColI.step {D : DataW Unit} {left : Lit → Bool} {ss : List Int} (h : ColI D left ss) {x : Int} {y : DataW Unit} (hlk : left (.int .i64 x) = true) (hat : ∀ zd, D.atKey (.int .i64 x) zd = y) : ColI D (fun z => left z && !z.sameKey (.int .i64 x)) (ss ++ [x]) := by
  have hhas : Maps.has D (.int .i64 x) = true := has_true_of_atKey hat
  have hnew : x ∉ ss := fun hx => by have := ((h.2 x).1 hx).2; rw [hlk] at this; cases this
  refine ⟨List.nodup_append.2 ⟨h.1, by simp, fun a ha b hb => by simp at hb; subst hb; exact fun e => hnew (e ▸ ha)⟩, fun y => ?_⟩
  by_cases hy : y = x
  · subst hy; simp [hhas, sameKey_int]
  · simp [h.2 y, hy, sameKey_int]
theorem ColI.sorted {D : DataW Unit} {left : Lit → Bool} {ss : List Int} {l : List Tup} (h : ColI D left ss) (hD : MapIs D l) (hl : ∀ kl, left kl = false) : (ss.mergeSort fun x y => decide (x ≤ y)) = pts l := by
  have hp := List.mergeSort_perm ss fun x y => decide (x ≤ y)
  have hs : (ss.mergeSort fun x y => decide (x ≤ y)).Pairwise (· ≤ ·) := by
    have := List.pairwise_mergeSort (le := fun x y : Int => decide (x ≤ y)) (fun a b c h1 h2 => by simp only [decide_eq_true_eq] at *; omega) (fun a b => by simp only [Bool.or_eq_true, decide_eq_true_eq]; omega) ss
    exact this.imp (by simp)
  have hnd : (ss.mergeSort fun x y => decide (x ≤ y)).Nodup := hp.nodup_iff.2 h.1
  have hlt : (ss.mergeSort fun x y => decide (x ≤ y)).Pairwise (· < ·) := by
    have := hs.and hnd
    exact this.imp fun {a b} ⟨h1, h2⟩ => by omega
  obtain ⟨p1, p2, _⟩ := pts_law l
  refine asc_unique hlt p1 fun x => ?_
  rw [hp.mem_iff, h.2 x, hl, p2, ← hD.has x]
  simp
theorem pts_rng (l : List Tup) : ∀ x ∈ pts l, okI x := by
  intro x hx
  obtain ⟨_, p2, _⟩ := pts_law l
  have h := (p2 x).1 hx
  unfold bnd at h
  obtain ⟨t, _, ht⟩ := List.mem_flatMap.1 h
  split at ht
  · rename_i hv
    have h1 := validB_lt hv
    unfold okI
    simp at ht
    omega
  · simp at ht
theorem pts_len (l : List Tup) : (pts l).length ≤ 2 * l.length := by
  obtain ⟨_, _, p3⟩ := pts_law l
  exact Nat.le_trans p3 (bnd_len l)
theorem cnt_len (l : List Tup) (x : Int) : cntAt l x ≤ l.length := List.length_filter_le _ _
theorem size_le {w : World} {P : Program} {k : TypeId} {R : Value → Option (DataW Unit × List MemPlace)} {b n : Nat} {D : DataW Unit} (h : w.ownsMap P k R b n D) : Maps.size D ≤ n := by
  obtain ⟨es, clock, hb, F, hs, rfl⟩ := h
  simpa [Maps.size, length_sorted] using hs
theorem wf_of {x : Int} (h1 : -9223372036854775808 ≤ x) (h2 : x ≤ 9223372036854775807) : (Lit.int .i64 x).wf = true := by
  simp [Lit.wf, IntKind.min, IntKind.max, IntKind.signed, IntKind.bits]; omega
theorem key_int (x : Int) (h : okI x) : keyOf Tryz.prog 3 (.int .i64 x) = some (.int .i64 x) := by
  unfold okI at h
  have hw : (Lit.int .i64 x).wf = true := by simp [Lit.wf, IntKind.min, IntKind.max, IntKind.signed, IntKind.bits]; omega
  simp [keyOf, mapKey, Tryz.underlying3, hw]

end Go.Proofs.YtdgpbpbjlnlijaaGreatDoor

/- sweep.Depth -/
namespace Go.Proofs.YtdgpbpbjlnlijaaGreatDoor
open Go.RowKit Go.Maps

def fDep (l : List Tup) (i : Nat) : Int := cntAt l (pts l)[i]!
theorem depthOf_eq (l : List Tup) : depthOf l = stepsOf (pts l) (fDep l) ((pts l).length - 1) := rfl
theorem steps_rng (l : List Tup) (hl : l.length ≤ 50) : ∀ k, k < (pts l).length → ∀ s ∈ stepsOf (pts l) (fDep l) k, okI s.from_ ∧ okI s.to_ ∧ okI s.n := by
  have hp : ∀ i, i < (pts l).length → okI (pts l)[i]! := fun i hi => by rw [getElem!_pos (pts l) i hi]; exact pts_rng l _ (List.getElem_mem _)
  have hn : ∀ i, okI (fDep l i) := fun i => by have := cnt_len l (pts l)[i]!; unfold fDep okI; omega
  intro k
  induction k with
  | zero => intro _ s hs; simp [stepsOf] at hs
  | succ k ih =>
    intro hk s hs
    have ih' := ih (by omega)
    rw [stepsOf] at hs
    unfold addStep at hs
    split at hs
    · rename_i p hp'
      have hpm := List.mem_of_getLast? hp'
      split at hs
      · rcases List.mem_append.1 hs with h | h
        · exact ih' s (List.dropLast_subset _ h)
        · rw [List.mem_singleton] at h
          subst h
          exact ⟨(ih' p hpm).1, hp (k + 1) (by omega), (ih' p hpm).2.2⟩
      · rcases List.mem_append.1 hs with h | h
        · exact ih' s h
        · rw [List.mem_singleton] at h
          subst h
          exact ⟨hp k (by omega), hp (k + 1) (by omega), hn k⟩
    · rw [List.mem_singleton] at hs
      subst hs
      exact ⟨hp k (by omega), hp (k + 1) (by omega), hn k⟩
theorem step_at {h : View} {g n cap : Nat} {xs : List StepI} (k : SliceOf Rep.step h (.slice (some ⟨g, 0, none⟩) n cap) xs) (i : Nat) (hi : i < xs.length) :
    h ⟨g, i * 5, none⟩ = some (.int .i64 xs[i].from_) ∧ h ⟨g, i * 5 + 1, none⟩ = some (.int .i64 xs[i].to_) ∧ h ⟨g, i * 5 + 2, none⟩ = some (.int .i64 1) ∧ h ⟨g, i * 5 + 3, none⟩ = some (.int .i64 xs[i].n) ∧ h ⟨g, i * 5 + 4, none⟩ = some (.string ByteArray.empty) := by
  obtain ⟨c, ⟨rfl, _⟩, h2⟩ := k.at i hi
  have a0 := h2 0 _ rfl
  have a1 := h2 1 _ rfl
  have a2 := h2 2 _ rfl
  have a3 := h2 3 _ rfl
  have a4 := h2 4 _ rfl
  rw [show Rep.step.size = 5 from rfl, Nat.zero_add] at a0 a1 a2 a3 a4
  exact ⟨a0, a1, a2, a3, a4⟩

set_option maxRecDepth 100000 in
set_option maxHeartbeats 8000000 in
theorem depth_any (v : Value) (l : List Tup) (w : World) (hv : SliceOf Rep.tup w.cell? v l) (hl : l.length ≤ 50) :
    Calls Tryz.prog 25 #[v] w fun e w' => ∃ v', e = .returned v' ∧ SliceOf Rep.step (on w' (fun k => w.heap.size ≤ k)) v' (depthOf l) ∧ Ext w w' := by
  obtain ⟨i0, hi, hz0, hz1, hz2⟩ := info_parts info_ints
  obtain ⟨i9, hi9, hz90, hz91, hz92⟩ := info_parts info_step
  obtain ⟨p, cap, rfl, hc1, hc2, hp⟩ := hv.form
  obtain ⟨N, hN⟩ : ∃ N, N = l.length := ⟨_, rfl⟩
  have HV := Lib.hid hv
  rw [← hN]
  have HN := Lib.hid hN
  have HP := Lib.hid hp
  have hNl : N ≤ 50 := by omega
  clear hv hN hp hc1 hc2
  have hmk : (Instr.makeMap 100 none).run Tryz.prog w = .ok (.map (some w.heap.size)) (w.alloc (.map #[] 0)) := by kernel_rfl
  go_enter Tryz.func25, Tryz.ntmps25
  go_wp2_with fail
  have HM := Lib.hid (World.ownsMap_made (H := Unit) w Tryz.prog 3 (plainElem Tryz.prog 2))
  have HX := Lib.hid ((Ext.refl w).alloc (.map #[] 0))
  generalize w.alloc (.map #[] 0) = w0 at HM HX ⊢
  obtain ⟨mb, hmb⟩ : ∃ mb, mb = w.heap.size := ⟨_, rfl⟩
  rw [← hmb] at HM ⊢
  have HMB := Lib.hid (show w.heap.size ≤ mb from Nat.le_of_eq hmb.symm)
  clear hmb
  go_loopg [16] N (fun gk vi wr => ∃ (k : Nat) (D : DataW Unit), k ≤ N ∧ gk = N - k ∧ vi = .int .i64 k ∧ Hid (wr.ownsMap Tryz.prog 3 (plainElem Tryz.prog 2) mb (2 * k) D) ∧ Hid (MapIs D (l.take k)) ∧ Hid (Ext w wr))
  case atStart => exact ⟨0, _, by omega, rfl, rfl, HM.out, MapIs.nil, HX.out⟩
  case round =>
    clear HM HX
    obtain ⟨k, D, hk, rfl, rfl, OM, MI, X1⟩ := hrel
    by_cases hlt : k < N
    · have hkl : k < l.length := by have := HN.out; omega
      obtain ⟨b, o, rfl⟩ := HP.out (by decide) (by omega)
      have hv := HV.out
      rw [← HN.out] at hv
      obtain ⟨ta, tb, c0, c1, c2, c3, g0, g1, r1, r2⟩ := tup_at hv k hkl
      obtain ⟨pa, ka, ta', _⟩ := g0.form
      obtain ⟨pb, kb, tb', _⟩ := g1.form
      subst ta' tb'
      replace c0 := X1.out.at c0
      replace c1 := X1.out.at c1
      replace c2 := X1.out.at c2
      replace c3 := X1.out.at c3
      obtain ⟨tt, htt⟩ : ∃ tt, tt = l[k] := ⟨_, rfl⟩
      have htk : l.take (k + 1) = l.take k ++ [tt] := by rw [List.take_succ_eq_append_getElem hkl, htt]
      rw [← htt] at c1 c2 r1 r2
      have HTK := Lib.hid htk
      have hcr1 := chg_rng (l.take k) tt.from_
      have hcr2 := chg_rng (l.take k) tt.to_
      generalize l[k].vals.length = na at c0
      generalize l[k].lin.length = nb at c3
      have hll : (l.take k).length ≤ 50 := by rw [List.length_take]; omega
      have hd : decide ((k : Int) < (N : Int)) = true := by simp; omega
      have e0 := cell_lt c0
      have HST := Lib.hid (fun (h : validT tt = true) => MI.out.step h)
      have HVAL := Lib.hid MI.out.val
      obtain ⟨f, hf⟩ : ∃ f, f = tt.from_ := ⟨_, rfl⟩
      obtain ⟨t, ht⟩ : ∃ t, t = tt.to_ := ⟨_, rfl⟩
      rw [← hf] at c1 r1 hcr1
      rw [← ht] at c2 r2 hcr2
      have HF := Lib.hid hf
      have HT := Lib.hid ht
      clear htt htk g0 g1 hv hf ht
      go_wp2_with fail
      refine (valid_any f t _).mono ?_
      rintro e w1 ⟨rfl, hx1⟩
      have d1 : w1.cell? ⟨wr.heap.size, 1, none⟩ = some (.int .i64 f) := hx1.at (by go_simp)
      have d2 : w1.cell? ⟨wr.heap.size, 2, none⟩ = some (.int .i64 t) := hx1.at (by go_simp)
      have hx2 : Ext wr w1 := ((Ext.refl wr).alloc _).trans hx1
      have X2 := Lib.hid (X1.out.trans hx2)
      have hz : wr.heap.size < w1.heap.size := by have := hx1.size; simp at this; omega
      have hmz : mb < wr.heap.size := OM.out.lt
      have OM1 := Lib.hid (show w1.ownsMap Tryz.prog 3 (plainElem Tryz.prog 2) mb (2 * k) D from OM.out.kept (row := none) ⟨hx2.os, hx2.tape, hx2.output, hx2.size, fun i hi _ => hx2.block i hi⟩ (by simp))
      clear hx1 hx2 c0 c1 c2 c3 e0 X1 OM
      cases hvb : validB f t with
      | true =>
        have hvt : validT tt = true := by unfold validT; rw [← HF.out, ← HT.out]; exact hvb
        obtain ⟨hstep1, hstep2⟩ := HST.out hvt
        have HS1 := Lib.hid hstep1
        have HS2 := Lib.hid hstep2
        clear hvb hstep1 hstep2 hvt
        generalize hbb : wr.heap.size = bb at d1 d2 hz hmz ⊢
        have hne : bb ≠ mb := by omega
        clear hbb
        go_wp2_with (first
          | (at_lookup; refine wpList_lookup_own_int _ rfl _ _ 100 rfl 3 2 .i64 (int_keyed Tryz.underlying3) Tryz.underlying100 Tryz.underlying2 (Tryz.zeroValue2 _) mb _ D rfl OM1.out _ _ rfl (key_int f r1) ?_))
        intro c hat _
        have hc : c = chg (l.take k) f := by rw [HVAL.out] at hat; injection hat with hat; injection hat with _ hat; exact hat.symm
        subst hc
        have hc1 : IntKind.i64.wrap (chg (l.take k) f + 1) = chg (l.take k) f + 1 := by rw [IntKind.wrap_i64]; omega
        clear hat
        go_wp2_with (first
          | (at_mapUpdate; refine wpList_mapUpdate_own _ rfl _ _ _ 100 rfl 3 2 (int_keyed Tryz.underlying3) Tryz.underlying100 (plainElem Tryz.prog 2) mb _ D rfl OM1.out (by unfold maxLen; omega) _ _ _ rfl rfl (key_int f r1) _ _ (plainElem_int Tryz.underlying2 (wf_of (by omega) (by omega))) ?_))
        intro w2 om2 gr2
        have OM2 := Lib.hid om2
        have hxx2 := Lib.hid (Chg.below (chg_grown gr2) X2.out fun b hb => by injection hb with hb; have := HMB.out; omega)
        have d1' := gr2.cell d1 (by simpa using hne)
        have d2' := gr2.cell d2 (by simpa using hne)
        have hz2 : bb < w2.heap.size := cell_lt d1'
        clear om2 gr2 d1 d2 OM1 X2 hz
        go_wp2_with (first
          | (at_lookup; refine wpList_lookup_own_int _ rfl _ _ 100 rfl 3 2 .i64 (int_keyed Tryz.underlying3) Tryz.underlying100 Tryz.underlying2 (Tryz.zeroValue2 _) mb _ _ rfl OM2.out _ _ rfl (key_int t r2) ?_))
        intro c hat _
        have hc : c = chg (l.take k) t := by rw [HF.out, HT.out, HS1.out] at hat; injection hat with hat; injection hat with _ hat; rw [HT.out]; exact hat.symm
        subst hc
        have hc2 : IntKind.i64.wrap (chg (l.take k) t - 1) = chg (l.take k) t - 1 := by rw [IntKind.wrap_i64]; omega
        clear hat
        go_wp2_with (first
          | (at_mapUpdate; refine wpList_mapUpdate_own _ rfl _ _ _ 100 rfl 3 2 (int_keyed Tryz.underlying3) Tryz.underlying100 (plainElem Tryz.prog 2) mb _ _ rfl OM2.out (by unfold maxLen; omega) _ _ _ rfl rfl (key_int t r2) _ _ (plainElem_int Tryz.underlying2 (wf_of (by omega) (by omega))) ?_))
        intro w3 om3 gr3
        have OM3 := Lib.hid om3
        have hxx3 := Lib.hid (Chg.below (chg_grown gr3) hxx2.out fun b hb => by injection hb with hb; have := HMB.out; omega)
        clear om3 gr3 d1' d2' OM2 hxx2
        go_wp2_with fail
        go_roundg (N - (k + 1))
        case measure => omega
        case rel => exact ⟨k + 1, _, by omega, rfl, by go_num, OM3.out, by show MapIs _ _; rw [HTK.out, HF.out, HT.out]; exact HS2.out, hxx3⟩
      | false =>
        have hvt : validT tt = false := by unfold validT; rw [← HF.out, ← HT.out]; exact hvb
        have HSK := Lib.hid (MI.out.skip hvt)
        clear hvb hvt
        go_wp2_with fail
        go_roundg (N - (k + 1))
        case measure => omega
        case rel => exact ⟨k + 1, D, by omega, rfl, by go_num, OM1.out.mono (by omega), by show MapIs _ _; rw [HTK.out]; exact HSK.out, X2⟩
    · have hkN : k = N := by omega
      have hd : ¬ (k : Int) < (N : Int) := by omega
      have MI2 := Lib.hid (show MapIs D l from by have h := MI.out; rwa [hkN, HN.out, List.take_length] at h)
      have OM2 := Lib.hid (OM.out.mono (show 2 * k ≤ 100 by omega))
      have HWM := Lib.hid OM.out.lt
      clear hkN MI OM
      go_wp2_with (first | (at_range; refine wpList_range_own _ rfl _ 100 rfl 3 2 (int_keyed Tryz.underlying3) Tryz.underlying100 _ mb _ D rfl OM2.out ?_))
      intro w2 rg2 gr2 sz2
      have X2 := Lib.hid (Chg.below (chg_grown gr2) X1.out fun b hb => by cases hb)
      have HRB := Lib.hid (show w.heap.size ≤ wr.heap.size ∧ mb < wr.heap.size ∧ wr.heap.size < w2.heap.size from ⟨X1.out.size, HWM.out, by omega⟩)
      have hs0 := size_le OM2.out
      clear OM2 X1 gr2 sz2 HWM
      generalize wr.heap.size = rb at rg2 HRB ⊢
      obtain ⟨B, hB⟩ : ∃ B, B = w2.heap.size := ⟨_, rfl⟩
      have HB := Lib.hid (show w.heap.size ≤ rb ∧ mb < rb ∧ rb < B ∧ B = w2.heap.size from ⟨HRB.out.1, HRB.out.2.1, by rw [hB]; exact HRB.out.2.2, hB⟩)
      have RG2 := Lib.hid rg2
      clear rg2 hB HRB
      generalize hsz : Maps.size D = s0 at hs0 RG2
      clear hsz
      go_wp2_with fail
      go_loopg [6] s0 (fun gk vu wr => ∃ (left : Lit → Bool) (cnt : Nat) (ss : List Int) (u : Value), cnt ≤ gk ∧ u = vu ∧ Hid (wr.ranges Tryz.prog 3 (plainElem Tryz.prog 2) mb rb 100 D left cnt) ∧ Hid (ColI D left ss) ∧ Hid (OwnOf Rep.int wr (fun _ => True) B 3 u ss) ∧ ss.length + cnt ≤ s0 ∧ Hid (Ext w wr) ∧ Hid (B ≤ wr.heap.size))
      case atStart => exact ⟨_, _, [], _, Nat.le_refl _, rfl, RG2.out, ColI.start D, OwnOf.nil _ _ _ _ _, by simp, X2.out, by show B ≤ w2.heap.size; have := HB.out; omega⟩
      case round =>
        clear RG2 X2
        obtain ⟨left, cnt, ss, u, hgk, rfl, RG, CO, OU, hlen, X3, HW⟩ := hrel
        have HUB := Lib.hid (show ∀ k, u.ownBlock = some k → B ≤ k from fun k hk => (OU.out.lt k hk).1)
        go_wp2_with (first | (at_next; refine wpList_next_ranges_ii _ rfl _ rfl 3 2 .i64 .i64 (int_keyed Tryz.underlying3) Tryz.underlying3 Tryz.underlying2 mb rb _ _ _ _ rfl RG.out ?_ ?_))
        · intro hc0 hl0
          have hs := CO.out.sorted MI2.out hl0
          have OM3 := Lib.hid RG.out.owns
          have HSL := Lib.hid (show ss.length < 4611686018427387904 from by omega)
          have HS := Lib.hid hs
          clear hs hl0 hc0 RG CO hgk
          go_wp2_with fail
          refine (sort_ints (fun _ => True) _ _ _ B 3 OU.out HSL.out).mono ?_
          rintro e w4 ⟨rfl, own4, gr4⟩
          rw [HS.out] at own4
          have hum : some mb ≠ u.ownBlock := fun e => by have h1 := HUB.out mb e.symm; have h2 := HB.out; omega
          have OM4 := Lib.hid (OM3.out.kept gr4 hum)
          have X4 := Lib.hid (Chg.below (chg_grown gr4) X3.out fun b hb => by have h1 := HUB.out b hb; have h2 := HB.out; omega)
          obtain ⟨B2, hB2⟩ : ∃ B2, B2 = w4.heap.size := ⟨_, rfl⟩
          have HB2 := Lib.hid (show B ≤ B2 ∧ B2 = w4.heap.size from ⟨by rw [hB2]; exact Nat.le_trans HW.out gr4.size, hB2⟩)
          obtain ⟨P, hP⟩ : ∃ P, P = pts l := ⟨_, rfl⟩
          rw [← hP] at own4
          have HPL := Lib.hid hP
          have HML := Lib.hid (show P.length ≤ 100 from by rw [hP]; have h1 := pts_len l; have h2 := HN.out; omega)
          have HSUM := Lib.hid (show ∀ (i : Nat) (hi : i < P.length), sumL ((P.take (i + 1)).map (chg l)) = cntAt l P[i] from fun i hi => sum_chg l P (by rw [hP]; exact (pts_law l).1) (fun x hx => by rw [hP]; exact ((pts_law l).2.1 x).2 hx) i hi)
          have HRNG := Lib.hid (show ∀ x ∈ P, okI x from by rw [hP]; exact pts_rng l)
          obtain ⟨pu, cu, rfl, hpu⟩ := own4.shapeLen
          have HPU := Lib.hid hpu
          obtain ⟨M, hM⟩ : ∃ M, M = P.length := ⟨_, rfl⟩
          have HUP := Lib.hid (show ∀ j, (Value.slice pu M cu).ownBlock = some j → j < B2 from fun j hj => by have h1 := (own4.lt j (by cases pu <;> exact hj)).2; have h2 := HB2.out; omega)
          have OP4 := Lib.hid own4
          rw [← hM] at OP4 ⊢
          have HM := Lib.hid (show M = P.length ∧ M ≤ 100 from ⟨hM, by rw [hM]; exact HML.out⟩)
          have hM100 : M ≤ 100 := HM.out.2
          clear own4 gr4 hum hB2 hP hpu hM OU OM3 X3 HS HSL hlen
          go_wp2_with fail
          go_loopg [8, 9, 50] M (fun gk vo vd vi wr => ∃ (k : Nat) (uo : Value) (out : List StepI) (d : Int), k ≤ M ∧ gk = M - k ∧ vi = .int .i64 k ∧ vd = .int .i64 d ∧ uo = vo ∧ Hid (d = sumL ((P.take k).map (chg l))) ∧ 0 ≤ d ∧ d ≤ 50 ∧ Hid (out = stepsOf P (fDep l) (min k (M - 1))) ∧ out.length ≤ k ∧
            Hid (OwnOf Rep.step wr (fun _ => True) B2 54 uo out) ∧ Hid (wr.ownsMap Tryz.prog 3 (plainElem Tryz.prog 2) mb 100 D) ∧ Hid (OwnOf Rep.int wr (fun _ => True) B 3 (.slice pu M cu) P) ∧ Hid (Ext w wr) ∧ Hid (B2 ≤ wr.heap.size))
          case atStart => exact ⟨0, _, [], 0, by omega, rfl, rfl, rfl, rfl, rfl, by omega, by omega, (by show _ = _; rw [Nat.zero_min]; rfl), by simp, OwnOf.nil _ _ _ _ _, OM4.out, OP4.out, X4.out, (by show B2 ≤ w4.heap.size; have := HB2.out; omega)⟩
          case round =>
            clear OM4 OP4 X4
            obtain ⟨k, uo, out, d, hk, rfl, rfl, rfl, rfl, HD, hd0, hd1, HOUT, hol, OO, OM, OP, X5, HW5⟩ := hrel
            by_cases hlt : k < M
            · have hkl : k < P.length := by have := HM.out; omega
              have hdt : decide ((k : Int) < (M : Int)) = true := by simp; omega
              obtain ⟨gp, rfl, hgp⟩ := HPU.out (by omega)
              have c0 := (int_at OP.out.slice k hkl).1
              rw [Nat.zero_add] at c0
              have hsum := HSUM.out k hkl
              have hcl := cnt_len l P[k]
              have hxr := HRNG.out _ (List.getElem_mem hkl)
              obtain ⟨x, hx⟩ : ∃ x, x = P[k] := ⟨_, rfl⟩
              rw [← hx] at c0 hsum hcl hxr
              obtain ⟨dn, hdn⟩ : ∃ dn : Int, dn = cntAt l x := ⟨_, rfl⟩
              have hdn0 : 0 ≤ dn ∧ dn ≤ 50 := by have h1 := HN.out; omega
              have hdx : d + chg l x = dn := by
                have h1 := HD.out
                rw [List.take_succ_eq_append_getElem hkl, List.map_append, sumL_append, ← h1] at hsum
                rw [← hx] at hsum
                simp [sumL] at hsum
                omega
              have HDN := Lib.hid (show dn = sumL ((P.take (k + 1)).map (chg l)) from by rw [HSUM.out k hkl, ← hx]; exact hdn)
              have HDX := Lib.hid (show dn = fDep l k from by unfold fDep; rw [← HPL.out, getElem!_pos P k hkl, ← hx]; exact hdn)
              have HXX := Lib.hid hx
              have HVAL := Lib.hid MI2.out.val
              obtain ⟨po, co, rfl, hpo⟩ := OO.out.shapeLen
              have HPO := Lib.hid hpo
              obtain ⟨n, hn⟩ : ∃ n, n = out.length := ⟨_, rfl⟩
              have HNN := Lib.hid hn
              have hn100 : n ≤ 100 := by omega
              clear hsum hcl hdn hx hpo
              generalize hcx : chg l x = cx at hdx
              have HCX := Lib.hid hcx
              have hwr : IntKind.i64.wrap (d + cx) = dn := by rw [hdx, IntKind.wrap_i64]; omega
              have HDD := Lib.hid hdx
              clear hcx
              rw [← hn] at OO ⊢
              clear hn
              go_wp2_with (first
                | (at_lookup; refine wpList_lookup_own_int _ rfl _ _ 100 rfl 3 2 .i64 (int_keyed Tryz.underlying3) Tryz.underlying100 Tryz.underlying2 (Tryz.zeroValue2 _) mb _ _ rfl OM.out _ _ rfl (key_int x hxr) ?_))
              intro c hat _
              have hc : c = cx := by rw [HVAL.out, HCX.out] at hat; injection hat with hat; injection hat with _ hat; exact hat.symm
              subst hc
              clear hat
              obtain ⟨k1, hk1⟩ : ∃ u, u = k + 1 := ⟨_, rfl⟩
              have ek : (k : Int) + 1 = (k1 : Int) := by omega
              have HK1 := Lib.hid hk1
              by_cases hkM : k1 = M
              · have hb1 : ((k1 : Int) == (M : Int)) = true := by simp; omega
                have hkk : k < k1 := by omega
                have HKM := Lib.hid hkM
                have HO2 := Lib.hid (show out = stepsOf P (fDep l) (min k1 (M - 1)) from by rw [HOUT.out]; congr 1; omega)
                clear hk1 hkM
                go_wp2_with fail
                go_roundg (M - k1)
                case measure => omega
                case rel => exact ⟨k1, .slice po n co, out, dn, Nat.le_of_eq HKM.out, rfl, rfl, rfl, rfl, (by show dn = _; rw [HK1.out]; exact HDN.out), hdn0.1, hdn0.2, HO2.out, by omega, OO.out, OM.out, OP.out, X5.out, HW5.out⟩
              · have hb1 : ((k1 : Int) == (M : Int)) = false := by simp; omega
                have hk1M : k1 < M := by omega
                have hk1l : k1 < P.length := by have := HM.out; omega
                have c1 := (int_at OP.out.slice k1 hk1l).1
                rw [Nat.zero_add] at c1
                have hyr := HRNG.out _ (List.getElem_mem hk1l)
                obtain ⟨y2, hy2⟩ : ∃ y, y = P[k1] := ⟨_, rfl⟩
                rw [← hy2] at c1 hyr
                have hdok : okI dn := by unfold okI; omega
                have HSK := Lib.hid (show out = stepsOf P (fDep l) k from by rw [HOUT.out, Nat.min_eq_left (by omega)])
                have HSS := Lib.hid (show (⟨x, y2, dn⟩ : StepI) = ⟨P[k]!, P[k + 1]!, fDep l k⟩ from by rw [getElem!_pos P k hkl, getElem!_pos P (k + 1) (by omega), ← HXX.out, ← HDX.out, hy2]; simp [hk1])
                have hkk : k < k1 := by omega
                clear hkM hk1 hy2 HOUT
                by_cases hn0 : n = 0
                · have hnz : ¬ (0 : Int) < (n : Int) := by omega
                  have HN0 := Lib.hid hn0
                  have hn1 : n ≤ 0 := by omega
                  clear hn0
                  have B1 : out.length + [(⟨x, y2, dn⟩ : StepI)].length ≤ maxLen := by simp [maxLen]; omega
                  have B3 : (out.length + [(⟨x, y2, dn⟩ : StepI)].length) * 48 ≤ 140737488355328 := by simp; omega
                  go_wp2_with (at_builtin; refine wpList_append_all Rep.step (fun _ => True) rfl _ _ 49 rfl B2 54 i9 _ 48 Tryz.underlying49 hi9 hz90 hz91 hz92 rfl (by decide) (.slice po n co) out rfl (by exact OO.out.ext ((Ext.refl wr).alloc _)) _ [⟨x, y2, dn⟩] rfl (by exact lone_flat (T := 54) (cs := stepEnc ⟨x, y2, dn⟩) flat_step ⟨rfl, hxr, hyr, hdok⟩ OO.out) B1 B3 (by exact Nat.le_trans HW5.out ((Ext.refl wr).alloc _).size) ?_)
                  intro v' w6 own gr _
                  have hob := fun j hj => (OO.out.lt j hj).1
                  have OM6 := Lib.hid ((OM.out.alloc (.cells (stepEnc ⟨x, y2, dn⟩).toArray 54)).kept gr (fun e => by have h1 := hob mb e.symm; have h2 := HB.out; have h3 := HB2.out; omega))
                  have OP6 := Lib.hid ((OP.out.ext ((Ext.refl wr).alloc (.cells (stepEnc ⟨x, y2, dn⟩).toArray 54))).chg flat_int (chg_grown gr) fun j hj e => by have h1 := hob j e; have h2 := HUP.out j hj; omega)
                  have X6 := Lib.hid (Chg.below (chg_grown gr) (X5.out.alloc (.cells (stepEnc ⟨x, y2, dn⟩).toArray 54)) fun b hb => by have h1 := hob b hb; have h2 := HB.out; have h3 := HB2.out; omega)
                  have HW6 := Lib.hid (Nat.le_trans (Nat.le_trans HW5.out ((Ext.refl wr).alloc (.cells (stepEnc ⟨x, y2, dn⟩).toArray 54)).size) gr.size)
                  have OW := Lib.hid own
                  clear own gr hob OM OP X5
                  go_wp2_with fail
                  go_roundg (M - k1)
                  case measure => have := HK1.out; omega
                  case rel => exact ⟨k1, v', out ++ [(⟨x, y2, dn⟩ : StepI)], dn, by omega, rfl, rfl, rfl, rfl, (by show dn = _; rw [HK1.out]; exact HDN.out), hdn0.1, hdn0.2, (by
                    show _ = _
                    rw [Nat.min_eq_left (by omega), HK1.out, stepsOf, ← HSK.out, ← HSS.out, addStep_new (fun hn => absurd hn (by have h1 := HN0.out; have h2 := HNN.out; omega))]), (by have := HK1.out; simp; omega), OW.out, OM6.out, OP6.out, X6.out, HW6.out⟩
                · have hnz : (0 : Int) < (n : Int) := by omega
                  obtain ⟨go, rfl, hgo⟩ := HPO.out (by rw [← HNN.out]; omega)
                  obtain ⟨m, hm⟩ : ∃ m, m = n - 1 := ⟨_, rfl⟩
                  have em : (n : Int) - 1 = (m : Int) := by omega
                  have hmo : m < out.length := by rw [← HNN.out]; omega
                  obtain ⟨s0, s1, s2, s3, s4⟩ := step_at OO.out.slice m hmo
                  have hf1 : wr.frozen? ⟨go, m * 5 + 1, none⟩ = false := by
                    obtain ⟨css, _, q2⟩ := OO.out
                    rw [← HNN.out] at q2
                    exact q2.frozenAt _
                  have hmn : (m : Int) < (n : Int) := by omega
                  have hmn2 : m < n := by omega
                  have HMM := Lib.hid hm
                  have HOM := Lib.hid hmo
                  have hem : m = out.length - 1 := by have := HNN.out; omega
                  have HEM := Lib.hid hem
                  obtain ⟨ln, hln⟩ : ∃ z, z = (out[m]'hmo).n := ⟨_, rfl⟩
                  rw [← hln] at s3
                  have HLN := Lib.hid hln
                  clear hn0 hm hem s0 s2 s4
                  by_cases hld : ln = dn
                  · have hb2 : (ln == dn) = true := by simp [hld]
                    have HLD := Lib.hid hld
                    clear hln hld
                    have hst := OwnOf.store flat_step (by have h := OO.out; rw [HNN.out] at h; exact h) m 1 hmo (by decide) (.int .i64 y2) ⟨out[m].from_, y2, dn⟩ (fun cs hcs => by
                      obtain ⟨rfl, h1, h2, h3⟩ := hcs
                      exact ⟨by simp [stepEnc, ← HLN.out, HLD.out]; rfl, h1, hyr, hdok⟩)
                    rw [show Rep.step.size = 5 from rfl] at hst
                    have hob := fun j hj => (OO.out.lt j hj).1
                    have OM6 := Lib.hid (OM.out.kept hst.2 (fun e => by have h1 := hob mb e.symm; have h2 := HB.out; have h3 := HB2.out; omega))
                    have OP6 := Lib.hid (OP.out.chg flat_int (chg_grown hst.2) fun j hj e => by have h1 := hob j e; have h2 := HUP.out j hj; omega)
                    have X6 := Lib.hid (Chg.below (chg_grown hst.2) X5.out fun b hb => by have h1 := hob b hb; have h2 := HB.out; have h3 := HB2.out; omega)
                    have HW6 := Lib.hid (Nat.le_trans HW5.out hst.2.size)
                    have OW := Lib.hid hst.1
                    rw [← HNN.out] at OW
                    clear hst hob OM OP X5
                    go_wp2_with fail
                    go_roundg (M - k1)
                    case measure => have := HK1.out; omega
                    case rel => exact ⟨k1, .slice (some ⟨go, 0, none⟩) n co, out.set m ⟨out[m].from_, y2, dn⟩, dn, by omega, rfl, rfl, rfl, rfl, (by show dn = _; rw [HK1.out]; exact HDN.out), hdn0.1, hdn0.2, (by
                      show _ = _
                      rw [Nat.min_eq_left (by omega), HK1.out, stepsOf, ← HSK.out, ← HSS.out, addStep_old (by omega) (by simp only [← HEM.out]; rw [← HLN.out]; exact HLD.out)]
                      simp only [← HEM.out]
                      rfl), (by have := HK1.out; simp; omega), OW.out, OM6.out, OP6.out, X6.out, HW6.out⟩
                  · have hb2 : (ln == dn) = false := by simp [hld]
                    have HLD := Lib.hid hld
                    clear hln hld
                    have B1 : out.length + [(⟨x, y2, dn⟩ : StepI)].length ≤ maxLen := by simp [maxLen]; omega
                    have B3 : (out.length + [(⟨x, y2, dn⟩ : StepI)].length) * 48 ≤ 140737488355328 := by simp; omega
                    go_wp2_with (at_builtin; refine wpList_append_all Rep.step (fun _ => True) rfl _ _ 49 rfl B2 54 i9 _ 48 Tryz.underlying49 hi9 hz90 hz91 hz92 rfl (by decide) (.slice (some ⟨go, 0, none⟩) n co) out rfl (by exact OO.out.ext ((Ext.refl wr).alloc _)) _ [⟨x, y2, dn⟩] rfl (by exact lone_flat (T := 54) (cs := stepEnc ⟨x, y2, dn⟩) flat_step ⟨rfl, hxr, hyr, hdok⟩ OO.out) B1 B3 (by exact Nat.le_trans HW5.out ((Ext.refl wr).alloc _).size) ?_)
                    intro v' w6 own gr _
                    have hob := fun j hj => (OO.out.lt j hj).1
                    have OM6 := Lib.hid ((OM.out.alloc (.cells (stepEnc ⟨x, y2, dn⟩).toArray 54)).kept gr (fun e => by have h1 := hob mb e.symm; have h2 := HB.out; have h3 := HB2.out; omega))
                    have OP6 := Lib.hid ((OP.out.ext ((Ext.refl wr).alloc (.cells (stepEnc ⟨x, y2, dn⟩).toArray 54))).chg flat_int (chg_grown gr) fun j hj e => by have h1 := hob j e; have h2 := HUP.out j hj; omega)
                    have X6 := Lib.hid (Chg.below (chg_grown gr) (X5.out.alloc (.cells (stepEnc ⟨x, y2, dn⟩).toArray 54)) fun b hb => by have h1 := hob b hb; have h2 := HB.out; have h3 := HB2.out; omega)
                    have HW6 := Lib.hid (Nat.le_trans (Nat.le_trans HW5.out ((Ext.refl wr).alloc (.cells (stepEnc ⟨x, y2, dn⟩).toArray 54)).size) gr.size)
                    have OW := Lib.hid own
                    clear own gr hob OM OP X5
                    go_wp2_with fail
                    go_roundg (M - k1)
                    case measure => have := HK1.out; omega
                    case rel => exact ⟨k1, v', out ++ [(⟨x, y2, dn⟩ : StepI)], dn, by omega, rfl, rfl, rfl, rfl, (by show dn = _; rw [HK1.out]; exact HDN.out), hdn0.1, hdn0.2, (by
                      show _ = _
                      rw [Nat.min_eq_left (by omega), HK1.out, stepsOf, ← HSK.out, ← HSS.out, addStep_new (fun hn => by simp only [← HEM.out]; rw [← HLN.out]; exact HLD.out)]), (by have := HK1.out; simp; omega), OW.out, OM6.out, OP6.out, X6.out, HW6.out⟩
            · have hkM : k = M := by omega
              have hdt : ¬ (k : Int) < (M : Int) := by omega
              have HF := Lib.hid (show out = depthOf l from by rw [HOUT.out, depthOf_eq, ← HPL.out, ← HM.out.1, hkM, Nat.min_eq_right (Nat.sub_le M 1)])
              have HWB := Lib.hid (show w.heap.size ≤ B2 from by have h1 := HB.out; have h2 := HB2.out; omega)
              obtain ⟨po, co, rfl, _⟩ := OO.out.shapeLen
              clear hkM
              go_wp2_with fail
              go_ret
              exact ⟨_, rfl, by have h := (OO.out.weak (T := fun _ => True) (fun _ _ h => h) HWB.out).fresh flat_step; rw [HF.out] at h; rw [HF.out]; exact h, X5.out⟩
        · intro x c w1 cnt1 hwx hwc hlx hat hrg1 hlt hg1 hs1 hen
          have RG1 := Lib.hid hrg1
          have CO1 := Lib.hid (CO.out.step hlx hat)
          have OU1 := Lib.hid (OU.out.chg flat_int (chg_grown hg1) fun k hk e => by injection e with e; have h1 := HUB.out k hk; have h2 := HB.out; omega)
          have X4 := Lib.hid (Chg.below (chg_grown hg1) X3.out fun b hb => by injection hb with hb; have h2 := HB.out; omega)
          have hwx' := wf_i64 hwx
          have B1 : ss.length + [x].length ≤ maxLen := by simp [maxLen]; omega
          have B3 : (ss.length + [x].length) * 8 ≤ 140737488355328 := by simp; omega
          have HW1 := Lib.hid (Nat.le_trans HW.out hg1.size)
          clear hrg1 hat hlx hg1 hs1 CO OU RG X3 hwx hwc
          go_wp2_with (at_builtin; refine wpList_append_all Rep.int (fun _ => True) rfl _ _ 24 rfl B 3 i0 _ 8 Tryz.underlying24 hi hz0 hz1 hz2 rfl (by decide) u ss rfl (by exact OU1.out.ext ((Ext.refl w1).alloc _)) _ [x] rfl (by exact lone_new (T := 3) hwx' OU1.out) B1 B3 (by exact Nat.le_trans HW1.out ((Ext.refl w1).alloc _).size) ?_)
          intro v' w3 own gr hat
          have RG3 := Lib.hid ((RG1.out.alloc _).kept gr (fun e => by have h1 := HUB.out mb e.symm; have h2 := HB.out; omega) (fun e => by have h1 := HUB.out rb e.symm; have h2 := HB.out; omega))
          have X6 := Lib.hid (Chg.below (chg_grown gr) (X4.out.alloc _) fun b hb => by have h1 := HUB.out b hb; have h2 := HB.out; omega)
          have HW3 := Lib.hid (Nat.le_trans (Nat.le_trans HW1.out ((Ext.refl w1).alloc (.cells #[.int .i64 x] 3)).size) gr.size)
          have OW := Lib.hid own
          clear own gr hat RG1 OU1 X4 hen
          go_wp2_with fail
          go_roundg cnt1
          case measure => omega
          case rel => exact ⟨_, cnt1, ss ++ [x], v', Nat.le_refl _, rfl, RG3.out, CO1.out, OW.out, by simp; omega, X6.out, HW3.out⟩

end Go.Proofs.YtdgpbpbjlnlijaaGreatDoor
