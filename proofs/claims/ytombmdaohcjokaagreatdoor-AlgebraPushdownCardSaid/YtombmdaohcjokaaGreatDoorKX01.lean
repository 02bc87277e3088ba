/- joined texts of a proof: Kit, Rep, BagA, Keep, Shelf -/
import Derived.WalkKit
import Derived.WalkSpells
import Derived.WalkLawsBesides
import Derived.Deep.LoopGhost
import Derived.Lib.Hide
import Derived.Deep.Slices
import Derived.Deep.AppendLies
import Derived.Laws.AppendOwnNone
import Derived.Sort.Grow
import Derived.Test.YtombmdaohcjokaaGreatDoorProg
import Derived.Deep.QuietTactic
import Derived.BigQuiet
import Derived.Deep.RegionHeld3
import Derived.Shelf.SlSortCmp.WholeK
import Derived.Ground.SlsfProg
import Derived.Ground.NamesProg
import Derived.Shelf.Strings.Builder1
import Derived.Shelf.Small.Bits
import Derived.Shelf.Small.Strs
import Derived.Shelf.Small.Wraps
import Derived.Shelf.Strings.BuilderF
import Derived.Shelf.Strings.BuilderK
import Derived.Shelf.Strconv.Itoa0
import Derived.Shelf.Strconv.Itoa1
import Derived.Shelf.LaysM
import Derived.Shelf.Strconv.Itoa2
import Derived.Shelf.Strconv.Itoa3
import Derived.Shelf.Strconv.Itoa4
import Derived.Shelf.Sort.Plain
import Derived.Shelf.Bits.Mul64
import Derived.Ground.Names2Prog
import Derived.Shelf.Slices.Clone
import Derived.Shelf.Slices.CompactI
import Derived.Shelf.Slices.SearchI
import Derived.Shelf.Slices.Cells
import Derived.Shelf.Slices.In.SortNone
import Derived.Shelf.Slices.Empties
import Derived.Ground.SlgnProg
import Derived.Shelf.SlicesE.Clone
namespace Go.Proofs.YtombmdaohcjokaaGreatDoor
open Go.RowKit
theorem ret_bool {a b:Bool} (h:a=b):Ending.returned (.bool a) = .returned (.bool b):=by rw [h]
theorem ret_int {k:IntKind} {a b:Int} (h:a=b):Ending.returned (.int k a) = .returned (.int k b):=by rw [h]
theorem below_drewN {B:Nat} {a w:World} (h:Below B a w) (n:Nat):Below B a (w.drewN n):=⟨h.os,h.tape,h.output,h.size,h.block⟩
theorem add_lit (b o j:Nat):(⟨b,o,none⟩:Addr).add j=⟨b,o+j,none⟩:=by simp [Addr.add]
theorem cells_new (w:World) (xs:List Value) (T:TypeId) : ∀j u,xs[j]?=some u→(w.alloc (.cells xs.toArray T)).cell? ((⟨w.heap.size,0,none⟩:Addr).add j)=some u:=by
 intro j u h
 rw [add_lit,World.cell?_alloc_at _ _ _ _ rfl]
 simpa using h
theorem own_cells {w:World} {base:Nat} {e:TypeId} {size:Nat} {v:Value} {n:Nat} {xs:List Value} (h:w.ownsRow base e size v n xs) (hn:0<n) :
  ∃g cap,v = .slice (some ⟨g,0,none⟩) n cap∧base≤g∧g<w.heap.size∧n≤cap∧cap≤maxLen∧(∀j u,xs[j]?=some u→w.cell? ⟨g,j,none⟩=some u):=by
 rcases h.2 with ⟨_,h0⟩ | ⟨g,cap,cur,hv,hb,hg,h1,h2,_,_⟩
 ·omega
 ·refine⟨g,cap,hv,hb,(Array.getElem?_eq_some_iff.1 hg).1,h1,h2,fun j u hj=> ?_⟩
  have:=h.cells (g:=g) (by rw [hv];rfl) j u hj
  rwa [add_lit,Nat.zero_add]at this
theorem ownsRow_weak {w:World} {base base':Nat} {e:TypeId} {size:Nat} {v:Value} {n:Nat} {xs:List Value} (h:w.ownsRow base e size v n xs) (hb:base'≤base):w.ownsRow base' e size v n xs:=by
 obtain⟨h1,h2⟩:=h
 refine⟨h1,?_⟩
 rcases h2 with h2 | ⟨g,cap,cur,hv,hg,r⟩
 ·exact .inl h2
 ·exact .inr ⟨g,cap,cur,hv,by omega,r⟩
abbrev Ext (w w':World):Prop:=Below w.heap.size w w'
theorem Ext.refl (w:World):Ext w w:=Below.refl _ _
theorem Ext.trans {a b c:World} (h:Ext a b) (k:Ext b c):Ext a c:=Below.trans h (k.mono h.size)
theorem Ext.alloc {a w:World} (h:Ext a w) (o:Obj):Ext a (w.alloc o):=Below.alloc h h.size o
theorem Ext.drewN {a w:World} (h:Ext a w) (n:Nat):Ext a (w.drewN n):=below_drewN h n
theorem Ext.drew {a w:World} (h:Ext a w):Ext a w.drew:=Below.drew h
theorem Ext.at {w w':World} (h:Ext w w') {p:Addr} {v:Value} (hc:w.cell? p=some v):w'.cell? p=some v :=
 (Below.cell h (World.block_lt_of_cell? w p hc)).trans hc
theorem Ext.unfrozen {w w':World} (h:Ext w w') {p:Addr} {v:Value} (hc:w.cell? p=some v) (hf:w.frozen? p=false):w'.frozen? p=false :=
 (Below.frozen h (World.block_lt_of_cell? w p hc)).trans hf
theorem cell_alloc {w:World} {p:Addr} {v:Value} (h:w.cell? p=some v) (o:Obj):(w.alloc o).cell? p=some v :=
 (Ext.alloc (Ext.refl w) o).at h
theorem cell_set {w:World} {p q:Addr} {v u:Value} (h:w.cell? p=some v) (hq:q.block≠p.block):(w.setCell q u).cell? p=some v:=by
 rw [World.cell?_setCell_other _ _ _ _ (by intro e;exact hq (by rw [e]))];exact h
theorem cell_lt {w:World} {b o:Nat} {v:Value} (h:w.cell? ⟨b,o,none⟩=some v):b<w.heap.size:=World.block_lt_of_cell? w ⟨b,o,none⟩ h
def SliceAt (w:World) (v:Value) (n:Nat) (xs:List Value):Prop :=
 ∃a cap,v = .slice a n cap∧n≤cap∧cap≤maxLen∧(xs = []∨ ∃b o,a=some ⟨b,o,none⟩∧ ∀j u,xs[j]?=some u→w.cell? ⟨b,o+j,none⟩=some u)
end Go.Proofs.YtombmdaohcjokaaGreatDoor
namespace Go.Proofs.YtombmdaohcjokaaGreatDoor
open Go.RowKit Go.Deep
abbrev View:=Addr→Option Value
def Sub (h h':View):Prop:= ∀p v,h p=some v→h' p=some v
theorem Sub.trans {a b c:View} (h:Sub a b) (k:Sub b c):Sub a c:=fun p v e=>k p v (h p v e)
open Classical in
noncomputable def on (w:World) (S:Nat→Prop):View:=fun p=>if S p.block then w.cell? p else none
theorem on_some {w:World} {S:Nat→Prop} {p:Addr} {v:Value}:on w S p=some v↔S p.block∧w.cell? p=some v:=by
 unfold on
 split
 ·simp [*]
 ·simp [*]
theorem on_sub (w:World) (S:Nat→Prop):Sub (on w S) w.cell?:=fun _ _ e=>(on_some.1 e).2
theorem on_mono (w:World) {S T:Nat→Prop} (h : ∀k,k<w.heap.size→S k→T k):Sub (on w S) (on w T):=fun p _ e=>by
 obtain⟨h1,h2⟩:=on_some.1 e
 exact on_some.2 ⟨h _ (World.block_lt_of_cell? w p h2) h1,h2⟩
theorem Ext.sub {w w':World} (h:Ext w w') (S:Nat→Prop):Sub (on w S) (on w' S):=fun p v e=>by
 obtain⟨h1,h2⟩:=on_some.1 e
 exact on_some.2 ⟨h1,h.at h2⟩
theorem Ext.full {w w':World} (h:Ext w w'):Sub w.cell? w'.cell?:=fun _ _ e=>h.at e
theorem below_sub {w w':World} {B:Nat} (h:Below B w w') {S:Nat→Prop} (hS : ∀k,S k→k<B):Sub (on w S) (on w' S):=fun p v e=>by
 obtain⟨h1,h2⟩:=on_some.1 e
 exact on_some.2 ⟨h1,(h.cell (hS _ h1)).trans h2⟩
theorem grown_sub {w w':World} {row:Option Nat} (h:w.grownBy w' row) {S:Nat→Prop} (hS : ∀k,S k→some k≠row):Sub (on w S) (on w' S):=fun p v e=>by
 obtain⟨h1,h2⟩:=on_some.1 e
 exact on_some.2 ⟨h1,h.cell h2 (hS _ h1)⟩
theorem set_sub (w:World) (p:Addr) (v:Value) {S:Nat→Prop} (hS : ¬S p.block):Sub (on w S) (on (w.setCell p v) S):=fun q u e=>by
 obtain⟨h1,h2⟩:=on_some.1 e
 exact on_some.2 ⟨h1,cell_set h2 fun e=>hS (e▸h1)⟩
theorem full_on (w:World) (S:Nat→Prop) (h : ∀k,k<w.heap.size→S k):Sub w.cell? (on w S):=fun p _ e=>on_some.2 ⟨h _ (World.block_lt_of_cell? w p e),e⟩
def VSlice (h:View) (v:Value) (n:Nat) (xs:List Value):Prop :=
 (v = .slice none 0 0∧n=0∧xs = []) ∨
 ∃ad cap,v = .slice (some ad) n cap∧n≤cap∧cap≤maxLen∧(xs = []∨ ∃b o,ad=⟨b,o,none⟩∧ ∀j u,xs[j]?=some u→h ⟨b,o+j,none⟩=some u)
theorem VSlice.sub {h h':View} {v:Value} {n:Nat} {xs:List Value} (k:VSlice h v n xs) (hs:Sub h h'):VSlice h' v n xs:=by
 rcases k with k | ⟨ad,cap,hv,h1,h2,h3⟩
 ·exact .inl k
 ·refine .inr ⟨ad,cap,hv,h1,h2,?_⟩
  rcases h3 with h3 | ⟨b,o,ha,h3⟩
  ·exact .inl h3
  ·exact .inr ⟨b,o,ha,fun j u hj=>hs _ _ (h3 j u hj)⟩
theorem VSlice.nil (h:View):VSlice h (.slice none 0 0) 0 []:= .inl ⟨rfl,rfl,rfl⟩
theorem VSlice.own {w:World} {base:Nat} {e:TypeId} {size:Nat} {v:Value} {n:Nat} {xs:List Value} (h:w.ownsRow base e size v n xs):VSlice (on w (fun k=>base≤k)) v n xs:=by
 rcases h.2 with ⟨hv,h0⟩ | ⟨g,cap,cur,hv,hb,hg,h1,h2,_,_⟩
 ·subst h0
  exact .inl ⟨hv,rfl,List.eq_nil_of_length_eq_zero (by rw [h.1];simp)⟩
 ·refine .inr ⟨_,cap,hv,h1,h2,.inr ⟨g,0,rfl,fun j u hj=>on_some.2 ⟨hb,?_⟩⟩⟩
  have:=h.cells (g:=g) (by rw [hv];rfl) j u hj
  rwa [add_lit]at this
theorem VSlice.src {h:View} {v:Value} {n:Nat} {xs:List Value} (k:VSlice h v n xs) :
  (v = .slice none 0 0∧n=0∧xs = [])∨ ∃ad cap,v = .slice (some ad) n cap∧n≤cap∧cap≤maxLen∧ ∀j u,xs[j]?=some u→h (ad.add j)=some u:=by
 rcases k with k | ⟨ad,cap,hv,h1,h2,h3⟩
 ·exact .inl k
 ·refine .inr ⟨ad,cap,hv,h1,h2,fun j u hj=> ?_⟩
  rcases h3 with h3 | ⟨b,o,rfl,h3⟩
  ·rw [h3]at hj;simp at hj
  ·rw [add_lit];exact h3 j u hj
structure Rep (α:Type) where
 size:Nat
 holds:View→List Value→α→Prop
 len : ∀ {w cs x},holds w cs x→cs.length=size
 ext : ∀ {w w' cs x},holds w cs x→Sub w w'→holds w' cs x
 one : ∀ {w cs x},holds w cs x→ ∀u∈cs,u.oneCell'=true
def RepAll {α:Type} (R:Rep α) (w:View):List (List Value)→List α→Prop
 |[],[]=>True
 |c::cs,x::xs=>R.holds w c x∧RepAll R w cs xs
 |_,_=>False
section
variable {α:Type} {R:Rep α} {w w':View}
theorem RepAll.ext {css:List (List Value)} {xs:List α} (h:RepAll R w css xs) (hx:Sub w w'):RepAll R w' css xs:=by
 induction css generalizing xs with
 |nil=>cases xs with
  |nil=>trivial
  |cons x xs=>exact h.elim
 |cons c css ih=>cases xs with
  |nil=>exact h.elim
  |cons x xs=>exact⟨R.ext h.1 hx,ih h.2⟩
theorem RepAll.length {css:List (List Value)} {xs:List α} (h:RepAll R w css xs):css.length=xs.length:=by
 induction css generalizing xs with
 |nil=>cases xs with
  |nil=>rfl
  |cons x xs=>exact h.elim
 |cons c css ih=>cases xs with
  |nil=>exact h.elim
  |cons x xs=>simp [ih h.2]
theorem RepAll.flat {css:List (List Value)} {xs:List α} (h:RepAll R w css xs):css.flatten.length=xs.length*R.size:=by
 induction css generalizing xs with
 |nil=>cases xs with
  |nil=>simp
  |cons x xs=>exact h.elim
 |cons c css ih=>cases xs with
  |nil=>exact h.elim
  |cons x xs=>simp [ih h.2,R.len h.1,Nat.succ_mul];omega
theorem RepAll.append {c1 c2:List (List Value)} {x1 x2:List α} (h1:RepAll R w c1 x1) (h2:RepAll R w c2 x2):RepAll R w (c1++c2) (x1++x2):=by
 induction c1 generalizing x1 with
 |nil=>cases x1 with
  |nil=>exact h2
  |cons x xs=>exact h1.elim
 |cons c css ih=>cases x1 with
  |nil=>exact h1.elim
  |cons x xs=>exact⟨h1.1,ih h1.2⟩
theorem RepAll.one {c:List Value} {x:α} (h:R.holds w c x):RepAll R w [c] [x]:=⟨h,trivial⟩
theorem RepAll.at {css:List (List Value)} {xs:List α} (h:RepAll R w css xs) (i:Nat) (hi:i<xs.length) :
  ∃c,R.holds w c xs[i]∧css[i]?=some c∧ ∀j u,c[j]?=some u→css.flatten[i*R.size+j]?=some u:=by
 induction css generalizing xs i with
 |nil=>cases xs with
  |nil=>simp at hi
  |cons x xs=>exact h.elim
 |cons c css ih=>cases xs with
  |nil=>exact h.elim
  |cons x xs =>
   cases i with
   |zero =>
    refine⟨c,h.1,rfl,fun j u hj=> ?_⟩
    have hl:j<c.length:=(List.getElem?_eq_some_iff.1 hj).1
    simp [List.getElem?_append_left hl,hj]
   |succ i =>
    obtain⟨d,h1,h2,h3⟩:=ih h.2 i (by simpa using hi)
    refine⟨d,h1,h2,fun j u hj=> ?_⟩
    have:=h3 j u hj
    have hc:=R.len h.1
    rw [List.flatten_cons,List.getElem?_append_right (by rw [hc,Nat.succ_mul];omega),hc]
    rwa [show (i+1)*R.size+j - R.size=i*R.size+j from by rw [Nat.succ_mul];omega]
theorem RepAll.ones {css:List (List Value)} {xs:List α} (h:RepAll R w css xs) : ∀u∈css.flatten,u.oneCell'=true:=by
 induction css generalizing xs with
 |nil=>simp
 |cons c css ih=>cases xs with
  |nil=>exact h.elim
  |cons x xs =>
   intro u hu
   rw [List.flatten_cons]at hu
   rcases List.mem_append.1 hu with hu | hu
   ·exact R.one h.1 u hu
   ·exact ih h.2 u hu
theorem RepAll.take {css:List (List Value)} {xs:List α} (h:RepAll R w css xs) (n:Nat):RepAll R w (css.take n) (xs.take n):=by
 induction css generalizing xs n with
 |nil=>cases xs with
  |nil=>simp [RepAll]
  |cons x xs=>exact h.elim
 |cons c css ih=>cases xs with
  |nil=>exact h.elim
  |cons x xs=>cases n with
   |zero=>trivial
   |succ n=>exact⟨h.1,ih h.2 n⟩
theorem RepAll.drop {css:List (List Value)} {xs:List α} (h:RepAll R w css xs) (n:Nat):RepAll R w (css.drop n) (xs.drop n):=by
 induction css generalizing xs n with
 |nil=>cases xs with
  |nil=>simp [RepAll]
  |cons x xs=>exact h.elim
 |cons c css ih=>cases xs with
  |nil=>exact h.elim
  |cons x xs=>cases n with
   |zero=>exact h
   |succ n=>exact ih h.2 n
end
def SliceOf {α:Type} (R:Rep α) (w:View) (v:Value) (xs:List α):Prop:= ∃css,RepAll R w css xs∧VSlice w v xs.length css.flatten
theorem SliceOf.ext {α:Type} {R:Rep α} {w w':View} {v:Value} {xs:List α} (h:SliceOf R w v xs) (hx:Sub w w'):SliceOf R w' v xs:=by
 obtain⟨css,h1,h2⟩:=h
 exact⟨css,h1.ext hx,h2.sub hx⟩
theorem SliceOf.nil {α:Type} (R:Rep α) (w:View):SliceOf R w (.slice none 0 0) []:=⟨[],trivial,VSlice.nil w⟩
theorem SliceOf.form {α:Type} {R:Rep α} {w:View} {v:Value} {xs:List α} (h:SliceOf R w v xs) :
  ∃a cap,v = .slice a xs.length cap∧xs.length≤cap∧cap≤maxLen∧(0<R.size→0<xs.length→ ∃b o,a=some ⟨b,o,none⟩):=by
 obtain⟨css,h1,h2⟩:=h
 rcases h2 with ⟨hv,h0,_⟩ | ⟨ad,cap,hv,hc1,hc2,h2⟩
 ·exact⟨none,0,by rw [hv,h0],by omega,by simp [maxLen],fun _ h=>by omega⟩
 ·refine⟨some ad,cap,hv,hc1,hc2,fun hs hx=> ?_⟩
  rcases h2 with h2 | ⟨b,o,ha,_⟩
  ·have:=h1.flat
   rw [h2]at this
   have:xs.length*R.size=0:=by simpa using this.symm
   rcases Nat.mul_eq_zero.1 this with h | h <;> omega
  ·exact⟨b,o,by rw [ha]⟩
theorem SliceOf.at {α:Type} {R:Rep α} {w:View} {b o n cap:Nat} {xs:List α} (h:SliceOf R w (.slice (some ⟨b,o,none⟩) n cap) xs) (i:Nat) (hi:i<xs.length) :
  ∃c,R.holds w c xs[i]∧ ∀j u,c[j]?=some u→w ⟨b,o+i*R.size+j,none⟩=some u:=by
 obtain⟨css,h1,h2⟩:=h
 obtain⟨c,g1,_,g3⟩:=h1.at i hi
 refine⟨c,g1,fun j u hj=> ?_⟩
 rcases h2 with ⟨hv,_⟩ | ⟨ad,cap',hv,hc1,hc2,h2⟩
 ·cases hv
 ·rcases h2 with h2 | ⟨b',o',ha,h2⟩
  ·have:=g3 j u hj
   rw [h2]at this
   simp at this
  ·injection hv with e1 e2 e3
   rw [ha]at e1
   injection e1 with e1
   injection e1 with e4 e5
   subst e4 e5
   rw [Nat.add_assoc]
   exact h2 _ u (g3 j u hj)
def avoid (S:Nat→Prop) (v:Value) (k:Nat):Prop:=some k≠v.ownBlock∧S k
def OwnOf {α:Type} (R:Rep α) (w:World) (S:Nat→Prop) (base:Nat) (e:TypeId) (v:Value) (xs:List α):Prop:= ∃css,RepAll R (on w (avoid S v)) css xs∧w.ownsRow base e R.size v xs.length css.flatten
theorem OwnOf.slice {α:Type} {R:Rep α} {w:World} {S:Nat→Prop} {base:Nat} {e:TypeId} {v:Value} {xs:List α} (h:OwnOf R w S base e v xs):SliceOf R w.cell? v xs:=by
 obtain⟨css,h1,h2⟩:=h
 exact⟨css,h1.ext (on_sub _ _),(VSlice.own h2).sub (on_sub _ _)⟩
theorem OwnOf.sliceIn {α:Type} {R:Rep α} {w:World} {S T:Nat→Prop} {base:Nat} {e:TypeId} {v:Value} {xs:List α} (h:OwnOf R w S base e v xs) (hS : ∀k,k<w.heap.size→S k→T k) (hb : ∀k,base≤k→T k):SliceOf R (on w T) v xs:=by
 obtain⟨css,h1,h2⟩:=h
 exact⟨css,h1.ext (on_mono _ fun k hk hs=>hS k hk hs.2),(VSlice.own h2).sub (on_mono _ fun k _ hk=>hb k hk)⟩
theorem OwnOf.weak {α:Type} {R:Rep α} {w:World} {S T:Nat→Prop} {base base':Nat} {e:TypeId} {v:Value} {xs:List α} (h:OwnOf R w S base e v xs) (hS : ∀k,k<w.heap.size→S k→T k) (hb:base'≤base):OwnOf R w T base' e v xs:=by
 obtain⟨css,h1,h2⟩:=h
 exact⟨css,h1.ext (on_mono _ fun k hk hs=>⟨hs.1,hS k hk hs.2⟩),ownsRow_weak h2 hb⟩
theorem OwnOf.nil {α:Type} (R:Rep α) (w:World) (S:Nat→Prop) (base:Nat) (e:TypeId):OwnOf R w S base e (.slice none 0 0) []:=⟨[],trivial,World.ownsRow_nil _ _ _ _⟩
theorem own_ext {w w':World} {base:Nat} {e:TypeId} {size:Nat} {v:Value} {n:Nat} {xs:List Value} (h:w.ownsRow base e size v n xs) (hx:Ext w w'):w'.ownsRow base e size v n xs:=by
 refine⟨h.1,?_⟩
 rcases h.2 with h2 | ⟨g,cap,cur,hv,hb,hg,r⟩
 ·exact .inl h2
 ·exact .inr ⟨g,cap,cur,hv,hb,by rw [hx.block g (Array.getElem?_eq_some_iff.1 hg).1];exact hg,r⟩
theorem OwnOf.ext {α:Type} {R:Rep α} {w w':World} {S:Nat→Prop} {base:Nat} {e:TypeId} {v:Value} {xs:List α} (h:OwnOf R w S base e v xs) (hx:Ext w w'):OwnOf R w' S base e v xs:=by
 obtain⟨css,h1,h2⟩:=h
 exact⟨css,h1.ext (hx.sub _),own_ext h2 hx⟩
theorem OwnOf.lt {α:Type} {R:Rep α} {w:World} {S:Nat→Prop} {base:Nat} {e:TypeId} {v:Value} {xs:List α} (h:OwnOf R w S base e v xs) : ∀k,v.ownBlock=some k→base≤k∧k<w.heap.size:=by
 obtain⟨css,_,h2⟩:=h
 exact h2.lt
theorem OwnOf.push {α:Type} {R:Rep α} {W w1:World} {S:Nat→Prop} {base:Nat} {e:TypeId} {v:Value} {xs:List α} {css:List (List Value)} {c:List Value} {y:α} {g cap:Nat}
  (h1:RepAll R (on W (avoid S v)) css xs) (hy:R.holds (on W (avoid S v)) c y)
  (hown:w1.ownsRow base e R.size (.slice (some ⟨g,0,none⟩) (xs.length+1) cap) (xs.length+1) (css.flatten++c)) (hg:W.grownBy w1 v.ownBlock) (hat:v.ownBlock=some g∨g=W.heap.size) :
  OwnOf R w1 S base e (.slice (some ⟨g,0,none⟩) (xs.length+1) cap) (xs ++ [y]):=by
 have hs:Sub (on W (avoid S v)) (on w1 (avoid S (.slice (some ⟨g,0,none⟩) (xs.length+1) cap))):=by
  intro p u e
  obtain⟨e1,e2⟩:=on_some.1 e
  refine on_some.2 ⟨⟨?_,e1.2⟩,hg.cell e2 e1.1⟩
  replace e1:=e1.1
  rcases hat with hat | hat
  ·rw [hat]at e1
   exact e1
  ·have:=World.block_lt_of_cell? W p e2
   simp [Value.ownBlock]
   omega
 refine⟨css ++ [c],(h1.ext hs).append (RepAll.one (R.ext hy hs)),?_⟩
 simpa using hown
section
variable {P:Program} {w:World} {ops:Array Oper} {rest:List Oper} {o:Oper} {a:Act} {Q:Exit→Act→World→Prop}
theorem wpList_append_one {α:Type} (R:Rep α) (S:Nat→Prop) (hgd:o.guard=none) (s x:Operand) (t:TypeId)
  (ho:o.op = .call { callee:= .builtin .append,args:= #[s,x],argTypes:= #[t,t] })
  (base:Nat) (e:TypeId) (i:TypeInfo) (z:Value) (bytes:Nat) (ht:P.underlying t=some (.slice e)) (hi:P.info? e=some i) (hz:i.zero=some z)
  (hsize:i.size=R.size) (hby:i.bytes=bytes) (hzs:z.cells.size=R.size) (hsz:0<R.size)
  (v:Value) (xs:List α) (hs:a.eval s=v) (hown:OwnOf R w S base e v xs)
  (ad:Addr) (c:Nat) (y:α) (news:List Value) (hx:a.eval x = .slice (some ad) 1 c) (hy:R.holds (on w (avoid S v)) news y) (hnews : ∀j u,news[j]?=some u→w.cell? (ad.add j)=some u)
  (h63:xs.length+1≤maxLen) (hbytes:(xs.length+1)*bytes≤140737488355328) (hbase:base≤w.heap.size)
  (h : ∀g cap w',OwnOf R w' S base e (.slice (some ⟨g,0,none⟩) (xs.length+1) cap) (xs ++ [y])→w.grownBy w' v.ownBlock→(v.ownBlock=some g∨g=w.heap.size)→wpList P ops Q rest (a.put o.dst (.slice (some ⟨g,0,none⟩) (xs.length+1) cap)) w'):wpList P ops Q (o::rest) a w:=by
 obtain⟨css,h1,h2⟩:=hown
 exact wpList_append_lies w hgd s x t ho base e i z R.size bytes ht hi hz hsize hby hzs hsz v xs.length css.flatten hs h2 ad 1 c news hx (by rw [R.len hy,Nat.one_mul]) hnews (R.one hy) (by omega) h63 hbytes hbase w.heap.size rfl
  fun g cap w' g1 g2 g3 _=>h g cap w' (OwnOf.push h1 hy g1 g2 g3) g2 g3
end
theorem OwnOf.pushAll {α:Type} {R:Rep α} {W w1:World} {S:Nat→Prop} {base:Nat} {e:TypeId} {v v':Value} {xs ys:List α} {css dss:List (List Value)}
  (h1:RepAll R (on W (avoid S v)) css xs) (hy:RepAll R (on W (avoid S v)) dss ys)
  (hown:w1.ownsRow base e R.size v' (xs.length+ys.length) (css.flatten++dss.flatten)) (hg:W.grownBy w1 v.ownBlock) (hat:v'.ownBlock=v.ownBlock∨v'.ownBlock=some W.heap.size) :
  OwnOf R w1 S base e v' (xs++ys):=by
 have hs:Sub (on W (avoid S v)) (on w1 (avoid S v')):=by
  intro p u e
  obtain⟨e1,e2⟩:=on_some.1 e
  refine on_some.2 ⟨⟨?_,e1.2⟩,hg.cell e2 e1.1⟩
  rcases hat with hat | hat
  ·rw [hat];exact e1.1
  ·have:=World.block_lt_of_cell? W p e2
   rw [hat]
   simp
   omega
 refine⟨css++dss,(h1.ext hs).append (hy.ext hs),?_⟩
 simpa using hown
section
variable {P:Program} {w:World} {ops:Array Oper} {rest:List Oper} {o:Oper} {a:Act} {Q:Exit→Act→World→Prop}
theorem wpList_append_all {α:Type} (R:Rep α) (S:Nat→Prop) (hgd:o.guard=none) (s x:Operand) (t:TypeId)
  (ho:o.op = .call { callee:= .builtin .append,args:= #[s,x],argTypes:= #[t,t] })
  (base:Nat) (e:TypeId) (i:TypeInfo) (z:Value) (bytes:Nat) (ht:P.underlying t=some (.slice e)) (hi:P.info? e=some i) (hz:i.zero=some z)
  (hsize:i.size=R.size) (hby:i.bytes=bytes) (hzs:z.cells.size=R.size) (hsz:0<R.size)
  (v:Value) (xs:List α) (hs:a.eval s=v) (hown:OwnOf R w S base e v xs)
  (u:Value) (ys:List α) (hx:a.eval x=u) (hy:SliceOf R (on w (avoid S v)) u ys)
  (h63:xs.length+ys.length≤maxLen) (hbytes:(xs.length+ys.length)*bytes≤140737488355328) (hbase:base≤w.heap.size)
  (h : ∀v' w',OwnOf R w' S base e v' (xs++ys)→w.grownBy w' v.ownBlock→(v'.ownBlock=v.ownBlock∨v'.ownBlock=some w.heap.size)→wpList P ops Q rest (a.put o.dst v') w'):wpList P ops Q (o::rest) a w:=by
 obtain⟨css,h1,h2⟩:=hown
 obtain⟨dss,h3,h4⟩:=hy
 rcases h4.src with ⟨rfl,hn,hd⟩ | ⟨ad,cap,rfl,_,_,hc⟩
 ·have hys:ys = []:=List.eq_nil_of_length_eq_zero hn
  subst hys
  exact wpList_append_own_none hgd s x t ho base e i R.size ht hi v xs.length css.flatten hs h2 hx
   (h v w (by rw [List.append_nil];exact⟨css,h1,h2⟩) ⟨rfl,rfl,rfl,Nat.le_refl _,fun _ _ _=>rfl⟩ (.inl rfl))
 ·exact wpList_append_own_at w hgd s x t ho base e i z R.size bytes ht hi hz hsize hby hzs hsz v xs.length css.flatten hs h2 ad ys.length cap dss.flatten hx h3.flat (fun j u hj=>(on_some.1 (hc j u hj)).2) h3.ones h63 hbytes hbase
   fun v' w' g1 g2 _ g3=>h v' w' (OwnOf.pushAll h1 h3 g1 g2 g3) g2 g3
end
def Rep.int:Rep Int where
 size:=1
 holds _ cs x:=cs = [.int .i64 x]∧ -9223372036854775808≤x∧x≤9223372036854775807
 len:=by rintro w cs x ⟨rfl,_⟩;rfl
 ext:=by rintro w w' cs x h _;exact h
 one:=by rintro w cs x ⟨rfl,_⟩;simp [Value.oneCell']
structure Val where
 kind:Int
 n:Int
 s:ByteArray
def Rep.val:Rep Val where
 size:=3
 holds _ cs x:=cs = [.int .i64 x.kind,.int .i64 x.n,.string x.s]∧(-9223372036854775808≤x.kind∧x.kind≤9223372036854775807)∧(-9223372036854775808≤x.n∧x.n≤9223372036854775807)∧x.s.size≤maxLen
 len:=by rintro w cs x ⟨rfl,_⟩;rfl
 ext:=by rintro w w' cs x h _;exact h
 one:=by rintro w cs x ⟨rfl,_⟩;simp [Value.oneCell']
def Rep.slice {α:Type} (R:Rep α):Rep (List α) where
 size:=1
 holds w cs xs:= ∃v,cs = [v]∧SliceOf R w v xs
 len:=by rintro w cs x ⟨v,rfl,_⟩;rfl
 ext:=by rintro w w' cs x ⟨v,rfl,h⟩ hx;exact⟨v,rfl,h.ext hx⟩
 one:=by
  rintro w cs x ⟨v,rfl,h⟩
  obtain⟨a,cap,rfl,_⟩:=h.form
  simp [Value.oneCell']
structure Row where
 vals:List Val
 lin:List Int
def Rep.row:Rep Row where
 size:=2
 holds w cs r:= ∃a b,cs = [a,b]∧SliceOf Rep.val w a r.vals∧SliceOf Rep.int w b r.lin
 len:=by rintro w cs x ⟨a,b,rfl,_⟩;rfl
 ext:=by rintro w w' cs x ⟨a,b,rfl,h1,h2⟩ hx;exact⟨a,b,rfl,h1.ext hx,h2.ext hx⟩
 one:=by
  rintro w cs x ⟨a,b,rfl,h1,h2⟩
  obtain⟨a',cap,rfl,_⟩:=h1.form
  obtain⟨b',cap',rfl,_⟩:=h2.form
  simp [Value.oneCell']
structure Tup where
 vals:List Val
 from_:Int
 to_:Int
 lin:List Int
def Rep.tup:Rep Tup where
 size:=4
 holds w cs r:= ∃a b,cs = [a,.int .i64 r.from_,.int .i64 r.to_,b]∧SliceOf Rep.val w a r.vals∧SliceOf Rep.int w b r.lin∧(-9223372036854775808≤r.from_∧r.from_≤9223372036854775807)∧(-9223372036854775808≤r.to_∧r.to_≤9223372036854775807)
 len:=by rintro w cs x ⟨a,b,rfl,_⟩;rfl
 ext:=by rintro w w' cs x ⟨a,b,rfl,h1,h2,h3⟩ hx;exact⟨a,b,rfl,h1.ext hx,h2.ext hx,h3⟩
 one:=by
  rintro w cs x ⟨a,b,rfl,h1,h2,_⟩
  obtain⟨a',cap,rfl,_⟩:=h1.form
  obtain⟨b',cap',rfl,_⟩:=h2.form
  simp [Value.oneCell']
def Rep.flat {α:Type} (R:Rep α):Prop:= ∀h h' cs x,R.holds h cs x→R.holds h' cs x
theorem flat_int:Rep.int.flat:=fun _ _ _ _ h=>h
theorem flat_val:Rep.val.flat:=fun _ _ _ _ h=>h
theorem RepAll.flatView {α:Type} {R:Rep α} (hR:R.flat) {h h':View} {css:List (List Value)} {xs:List α} (k:RepAll R h css xs):RepAll R h' css xs:=by
 induction css generalizing xs with
 |nil=>cases xs with
  |nil=>trivial
  |cons x xs=>exact k.elim
 |cons c css ih=>cases xs with
  |nil=>exact k.elim
  |cons x xs=>exact⟨hR _ _ _ _ k.1,ih k.2⟩
theorem OwnOf.fresh {α:Type} {R:Rep α} (hR:R.flat) {w:World} {S:Nat→Prop} {base:Nat} {e:TypeId} {v:Value} {xs:List α} (h:OwnOf R w S base e v xs):SliceOf R (on w (fun k=>base≤k)) v xs:=by
 obtain⟨css,h1,h2⟩:=h
 exact⟨css,h1.flatView hR,VSlice.own h2⟩
theorem SliceOf.flatOn {α:Type} {R:Rep α} (hR:R.flat) {w:World} {S:Nat→Prop} {v:Value} {xs:List α} (h:SliceOf R w.cell? v xs) (hv : ∀ad n c,v = .slice (some ad) n c→S ad.block):SliceOf R (on w S) v xs:=by
 obtain⟨css,h1,h2⟩:=h
 refine⟨css,h1.flatView hR,?_⟩
 rcases h2 with h2 | ⟨ad,cap,rfl,g1,g2,g3⟩
 ·exact .inl h2
 ·refine .inr ⟨ad,cap,rfl,g1,g2,?_⟩
  rcases g3 with g3 | ⟨b,o,rfl,g3⟩
  ·exact .inl g3
  ·exact .inr ⟨b,o,rfl,fun j u hj=>on_some.2 ⟨hv ⟨b,o,none⟩ _ _ rfl,g3 j u hj⟩⟩
theorem OwnOf.made {α:Type} (R:Rep α) (w:World) (S:Nat→Prop) (e:TypeId):OwnOf R (w.alloc (.cells #[] e)) S w.heap.size e (.slice (some ⟨w.heap.size,0,none⟩) 0 0) [] :=
 ⟨[],trivial,World.ownsRow_made w #[] 0 (Nat.le_refl _) (Nat.zero_le _) (by simp)⟩
theorem int_at {w:View} {b o n cap:Nat} {xs:List Int} (h:SliceOf Rep.int w (.slice (some ⟨b,o,none⟩) n cap) xs) (i:Nat) (hi:i<xs.length) :
  w ⟨b,o+i,none⟩=some (.int .i64 xs[i])∧ -9223372036854775808≤xs[i]∧xs[i]≤9223372036854775807:=by
 obtain⟨c,⟨rfl,h1⟩,h2⟩:=h.at i hi
 have:=h2 0 _ rfl
 rw [show Rep.int.size=1 from rfl,Nat.mul_one,Nat.add_zero]at this
 exact⟨this,h1⟩
theorem val_at {w:View} {b o n cap:Nat} {xs:List Val} (h:SliceOf Rep.val w (.slice (some ⟨b,o,none⟩) n cap) xs) (i:Nat) (hi:i<xs.length) :
  w ⟨b,o+i*3,none⟩=some (.int .i64 xs[i].kind)∧w ⟨b,o+i*3+1,none⟩=some (.int .i64 xs[i].n)∧w ⟨b,o+i*3+2,none⟩=some (.string xs[i].s):=by
 obtain⟨c,⟨rfl,_⟩,h2⟩:=h.at i hi
 exact⟨h2 0 _ rfl,h2 1 _ rfl,h2 2 _ rfl⟩
theorem row_at {w:View} {b o n cap:Nat} {xs:List Row} (h:SliceOf Rep.row w (.slice (some ⟨b,o,none⟩) n cap) xs) (i:Nat) (hi:i<xs.length) :
  ∃u v,w ⟨b,o+i*2,none⟩=some u∧w ⟨b,o+i*2+1,none⟩=some v∧SliceOf Rep.val w u xs[i].vals∧SliceOf Rep.int w v xs[i].lin:=by
 obtain⟨c,⟨u,v,rfl,g1,g2⟩,h2⟩:=h.at i hi
 exact⟨u,v,h2 0 _ rfl,h2 1 _ rfl,g1,g2⟩
theorem tup_at {w:View} {b o n cap:Nat} {xs:List Tup} (h:SliceOf Rep.tup w (.slice (some ⟨b,o,none⟩) n cap) xs) (i:Nat) (hi:i<xs.length) :
  ∃u v,w ⟨b,o+i*4,none⟩=some u∧w ⟨b,o+i*4+1,none⟩=some (.int .i64 xs[i].from_)∧w ⟨b,o+i*4+2,none⟩=some (.int .i64 xs[i].to_)∧w ⟨b,o+i*4+3,none⟩=some v ∧
   SliceOf Rep.val w u xs[i].vals∧SliceOf Rep.int w v xs[i].lin∧(-9223372036854775808≤xs[i].from_∧xs[i].from_≤9223372036854775807)∧(-9223372036854775808≤xs[i].to_∧xs[i].to_≤9223372036854775807):=by
 obtain⟨c,⟨u,v,rfl,g1,g2,g3⟩,h2⟩:=h.at i hi
 exact⟨u,v,h2 0 _ rfl,h2 1 _ rfl,h2 2 _ rfl,h2 3 _ rfl,g1,g2,g3⟩
structure Gro (w w':World):Prop where
 ext:Ext w w'
 drawn:w.drawn≤w'.drawn
theorem Gro.refl (w:World):Gro w w:=⟨Ext.refl w,Nat.le_refl _⟩
theorem Gro.trans {a b c:World} (h:Gro a b) (k:Gro b c):Gro a c:=⟨h.ext.trans k.ext,Nat.le_trans h.drawn k.drawn⟩
theorem Gro.alloc {a w:World} (h:Gro a w) (o:Obj):Gro a (w.alloc o):=⟨h.ext.alloc o,h.drawn⟩
theorem Gro.drew {a w:World} (h:Gro a w):Gro a w.drew:=⟨h.ext.drew,Nat.le_trans h.drawn (Nat.le_succ _)⟩
theorem Gro.drewN {a w:World} (h:Gro a w) (n:Nat):Gro a (w.drewN n):=⟨h.ext.drewN n,Nat.le_trans h.drawn (Nat.le_add_right _ _)⟩
theorem Gro.at {w w':World} (h:Gro w w') {p:Addr} {v:Value} (hc:w.cell? p=some v):w'.cell? p=some v:=h.ext.at hc
theorem Gro.grown {w w':World} (h:Gro w w') : ∃n os,w'=Go.Sort.grow (w.drewN n) os:=by
 obtain⟨⟨h1,h2,h3,h4,h5⟩,h6⟩:=h
 refine⟨w'.drawn - w.drawn,w'.heap.extract w.heap.size w'.heap.size,?_⟩
 have hh:w'.heap=w.heap++w'.heap.extract w.heap.size w'.heap.size:=by
  apply Array.ext_getElem?
  intro i
  rw [Array.getElem?_append]
  split
  ·exact h5 i (by assumption)
  ·rw [Array.getElem?_extract]
   split
   ·congr 1;omega
   ·rw [Array.getElem?_eq_none (by omega)]
 have hd:w'.drawn=w.drawn+(w'.drawn - w.drawn):=by omega
 cases w'
 simp only [Go.Sort.grow,World.drewN]at *
 subst h1 h2 h3
 congr 1
theorem Gro.of_grow (w:World) (n:Nat) (os:Array Obj):Gro w (Go.Sort.grow (w.drewN n) os) :=
 ⟨⟨rfl,rfl,rfl,by simp [Go.Sort.grow,World.drewN],fun k hk=>Go.Sort.heap_grow_old _ _ hk⟩,Nat.le_add_right _ _⟩
end Go.Proofs.YtombmdaohcjokaaGreatDoor
namespace Go.Proofs.YtombmdaohcjokaaGreatDoor
open Go.RowKit
def cmpI (a b:Int):Int:=if a<b then -1 else if b<a then 1 else 0
theorem isNaN_int (a:Int) (w:World):Calls Tryz.prog 220 #[.int .i64 a] w fun e w'=>e = .returned (.bool false)∧w=w':=by
 go_enter Tryz.func220,Tryz.ntmps220
 go_wp2
 go_ret
 exact⟨rfl,rfl⟩
theorem isNaN_int64 (a:Int) (w:World):Calls Tryz.prog 221 #[.int .i64 a] w fun e w'=>e = .returned (.bool false)∧w=w':=by
 go_enter Tryz.func221,Tryz.ntmps221
 go_wp2
 go_ret
 exact⟨rfl,rfl⟩
theorem compare_int (a b:Int) (w:World):Calls Tryz.prog 174 #[.int .i64 a,.int .i64 b] w fun e w'=>e = .returned (.int .i64 (cmpI a b))∧w=w':=by
 go_enter Tryz.func174,Tryz.ntmps174
 go_wp2_with (go_at_call 220;refine(isNaN_int _ _).mono ?_;rintro e w' ⟨rfl,rfl⟩)
 all_goals
  go_ret
  refine⟨ret_int ?_,rfl⟩
  unfold cmpI
  repeat (first | rw [if_pos (by omega)] | rw [if_neg (by omega)])
theorem compare_int64 (a b:Int) (w:World):Calls Tryz.prog 175 #[.int .i64 a,.int .i64 b] w fun e w'=>e = .returned (.int .i64 (cmpI a b))∧w=w':=by
 go_enter Tryz.func175,Tryz.ntmps175
 go_wp2_with (go_at_call 221;refine(isNaN_int64 _ _).mono ?_;rintro e w' ⟨rfl,rfl⟩)
 all_goals
  go_ret
  refine⟨ret_int ?_,rfl⟩
  unfold cmpI
  repeat (first | rw [if_pos (by omega)] | rw [if_neg (by omega)])
def orI:List Int→Int
 |[]=>0
 |x::xs=>if x=0 then orI xs else x
theorem orI_drop (l:List Int) (k:Nat) (hk:k<l.length):orI (l.drop k)=if l[k]=0 then orI (l.drop (k+1))else l[k]:=by
 rw [List.drop_eq_getElem_cons hk];rfl
set_option maxHeartbeats 1000000 in
theorem or_any (b o cap:Nat) (l:List Int) (w:World) (hcap:l.length≤maxLen) (hl : ∀k (h:k<l.length),w.cell? ⟨b,o+k,none⟩=some (.int .i64 l[k])) :
  Calls Tryz.prog 157 #[.slice (some ⟨b,o,none⟩) l.length cap] w fun e w'=>e = .returned (.int .i64 (orI l))∧w=w':=by
 unfold maxLen at hcap
 go_enter Tryz.func157,Tryz.ntmps157
 go_wp2_with fail
 go_loop [8] (fun i=> ∃k:Nat,k≤l.length∧i = .int .i64 k∧orI l=orI (l.drop k)) (fun i=>l.length - (intOf i).toNat)
 case atStart=>exact⟨0,by omega,rfl,rfl⟩
 case round =>
  obtain⟨k,hk,rfl,ho⟩:=hrel
  have HO:=Lib.hid ho
  clear ho
  by_cases hlt:k<l.length
  ·have c:=hl k hlt
   have hd:=orI_drop l k hlt
   generalize l[k]=x at c hd
   have hdi:decide ((k:Int)<(l.length:Int))=true:=by simp;omega
   have hdj:(k:Int)<(l.length:Int):=by omega
   have HD:=Lib.hid hd
   clear hd hl
   by_cases hx:x=0
   ·have hb:(x != 0)=false:=by simp [hx]
    have HX:=Lib.hid hx
    clear hx
    go_wp2_with fail
    go_round
    case rel=>exact⟨k+1,by omega,by go_num,by rw [HO.out,HD.out,if_pos HX.out]⟩
    case measure=>simp [intOf];omega
   ·have hb:(x != 0)=true:=by simp [hx]
    have HX:=Lib.hid hx
    clear hx
    go_wp2_with fail
    go_ret
    exact⟨ret_int (by rw [HO.out,HD.out,if_neg HX.out]),rfl⟩
  ·have:k=l.length:=by omega
   subst this
   go_wp2_with fail
   go_ret
   exact⟨ret_int (by rw [HO.out,List.drop_length];rfl),rfl⟩
end Go.Proofs.YtombmdaohcjokaaGreatDoor
namespace Go.Proofs.YtombmdaohcjokaaGreatDoor
open Go.RowKit
theorem keepE1 {W wa wb:World} {p1:Addr} {v1:Value} (h:Ext W wa∧wa.cell? p1=some v1) (hx:Ext wa wb):Ext W wb∧wb.cell? p1=some v1 :=
 ⟨h.1.trans hx,hx.at (h.2)⟩
theorem keepE2 {W wa wb:World} {p1 p2:Addr} {v1 v2:Value} (h:Ext W wa∧wa.cell? p1=some v1∧wa.cell? p2=some v2) (hx:Ext wa wb):Ext W wb∧wb.cell? p1=some v1∧wb.cell? p2=some v2 :=
 ⟨h.1.trans hx,hx.at (h.2.1),hx.at (h.2.2)⟩
theorem keepE3 {W wa wb:World} {p1 p2 p3:Addr} {v1 v2 v3:Value} (h:Ext W wa∧wa.cell? p1=some v1∧wa.cell? p2=some v2∧wa.cell? p3=some v3) (hx:Ext wa wb):Ext W wb∧wb.cell? p1=some v1∧wb.cell? p2=some v2∧wb.cell? p3=some v3 :=
 ⟨h.1.trans hx,hx.at (h.2.1),hx.at (h.2.2.1),hx.at (h.2.2.2)⟩
theorem keepE4 {W wa wb:World} {p1 p2 p3 p4:Addr} {v1 v2 v3 v4:Value} (h:Ext W wa∧wa.cell? p1=some v1∧wa.cell? p2=some v2∧wa.cell? p3=some v3∧wa.cell? p4=some v4) (hx:Ext wa wb):Ext W wb∧wb.cell? p1=some v1∧wb.cell? p2=some v2∧wb.cell? p3=some v3∧wb.cell? p4=some v4 :=
 ⟨h.1.trans hx,hx.at (h.2.1),hx.at (h.2.2.1),hx.at (h.2.2.2.1),hx.at (h.2.2.2.2)⟩
theorem keepE5 {W wa wb:World} {p1 p2 p3 p4 p5:Addr} {v1 v2 v3 v4 v5:Value} (h:Ext W wa∧wa.cell? p1=some v1∧wa.cell? p2=some v2∧wa.cell? p3=some v3∧wa.cell? p4=some v4∧wa.cell? p5=some v5) (hx:Ext wa wb):Ext W wb∧wb.cell? p1=some v1∧wb.cell? p2=some v2∧wb.cell? p3=some v3∧wb.cell? p4=some v4∧wb.cell? p5=some v5 :=
 ⟨h.1.trans hx,hx.at (h.2.1),hx.at (h.2.2.1),hx.at (h.2.2.2.1),hx.at (h.2.2.2.2.1),hx.at (h.2.2.2.2.2)⟩
theorem keepE6 {W wa wb:World} {p1 p2 p3 p4 p5 p6:Addr} {v1 v2 v3 v4 v5 v6:Value} (h:Ext W wa∧wa.cell? p1=some v1∧wa.cell? p2=some v2∧wa.cell? p3=some v3∧wa.cell? p4=some v4∧wa.cell? p5=some v5∧wa.cell? p6=some v6) (hx:Ext wa wb):Ext W wb∧wb.cell? p1=some v1∧wb.cell? p2=some v2∧wb.cell? p3=some v3∧wb.cell? p4=some v4∧wb.cell? p5=some v5∧wb.cell? p6=some v6 :=
 ⟨h.1.trans hx,hx.at (h.2.1),hx.at (h.2.2.1),hx.at (h.2.2.2.1),hx.at (h.2.2.2.2.1),hx.at (h.2.2.2.2.2.1),hx.at (h.2.2.2.2.2.2)⟩
theorem keepE8 {W wa wb:World} {p1 p2 p3 p4 p5 p6 p7 p8:Addr} {v1 v2 v3 v4 v5 v6 v7 v8:Value} (h:Ext W wa∧wa.cell? p1=some v1∧wa.cell? p2=some v2∧wa.cell? p3=some v3∧wa.cell? p4=some v4∧wa.cell? p5=some v5∧wa.cell? p6=some v6∧wa.cell? p7=some v7∧wa.cell? p8=some v8) (hx:Ext wa wb):Ext W wb∧wb.cell? p1=some v1∧wb.cell? p2=some v2∧wb.cell? p3=some v3∧wb.cell? p4=some v4∧wb.cell? p5=some v5∧wb.cell? p6=some v6∧wb.cell? p7=some v7∧wb.cell? p8=some v8 :=
 ⟨h.1.trans hx,hx.at (h.2.1),hx.at (h.2.2.1),hx.at (h.2.2.2.1),hx.at (h.2.2.2.2.1),hx.at (h.2.2.2.2.2.1),hx.at (h.2.2.2.2.2.2.1),hx.at (h.2.2.2.2.2.2.2.1),hx.at (h.2.2.2.2.2.2.2.2)⟩
theorem keepE10 {W wa wb:World} {p1 p2 p3 p4 p5 p6 p7 p8 p9 p10:Addr} {v1 v2 v3 v4 v5 v6 v7 v8 v9 v10:Value} (h:Ext W wa∧wa.cell? p1=some v1∧wa.cell? p2=some v2∧wa.cell? p3=some v3∧wa.cell? p4=some v4∧wa.cell? p5=some v5∧wa.cell? p6=some v6∧wa.cell? p7=some v7∧wa.cell? p8=some v8∧wa.cell? p9=some v9∧wa.cell? p10=some v10) (hx:Ext wa wb):Ext W wb∧wb.cell? p1=some v1∧wb.cell? p2=some v2∧wb.cell? p3=some v3∧wb.cell? p4=some v4∧wb.cell? p5=some v5∧wb.cell? p6=some v6∧wb.cell? p7=some v7∧wb.cell? p8=some v8∧wb.cell? p9=some v9∧wb.cell? p10=some v10 :=
 ⟨h.1.trans hx,hx.at (h.2.1),hx.at (h.2.2.1),hx.at (h.2.2.2.1),hx.at (h.2.2.2.2.1),hx.at (h.2.2.2.2.2.1),hx.at (h.2.2.2.2.2.2.1),hx.at (h.2.2.2.2.2.2.2.1),hx.at (h.2.2.2.2.2.2.2.2.1),hx.at (h.2.2.2.2.2.2.2.2.2.1),hx.at (h.2.2.2.2.2.2.2.2.2.2)⟩
theorem keepG2 {W wa wb:World} {p1 p2:Addr} {v1 v2:Value} (h:Gro W wa∧wa.cell? p1=some v1∧wa.cell? p2=some v2) (hx:Gro wa wb):Gro W wb∧wb.cell? p1=some v1∧wb.cell? p2=some v2 :=
 ⟨h.1.trans hx,hx.at (h.2.1),hx.at (h.2.2)⟩
theorem keepG4 {W wa wb:World} {p1 p2 p3 p4:Addr} {v1 v2 v3 v4:Value} (h:Gro W wa∧wa.cell? p1=some v1∧wa.cell? p2=some v2∧wa.cell? p3=some v3∧wa.cell? p4=some v4) (hx:Gro wa wb):Gro W wb∧wb.cell? p1=some v1∧wb.cell? p2=some v2∧wb.cell? p3=some v3∧wb.cell? p4=some v4 :=
 ⟨h.1.trans hx,hx.at (h.2.1),hx.at (h.2.2.1),hx.at (h.2.2.2.1),hx.at (h.2.2.2.2)⟩
theorem keepG6 {W wa wb:World} {p1 p2 p3 p4 p5 p6:Addr} {v1 v2 v3 v4 v5 v6:Value} (h:Gro W wa∧wa.cell? p1=some v1∧wa.cell? p2=some v2∧wa.cell? p3=some v3∧wa.cell? p4=some v4∧wa.cell? p5=some v5∧wa.cell? p6=some v6) (hx:Gro wa wb):Gro W wb∧wb.cell? p1=some v1∧wb.cell? p2=some v2∧wb.cell? p3=some v3∧wb.cell? p4=some v4∧wb.cell? p5=some v5∧wb.cell? p6=some v6 :=
 ⟨h.1.trans hx,hx.at (h.2.1),hx.at (h.2.2.1),hx.at (h.2.2.2.1),hx.at (h.2.2.2.2.1),hx.at (h.2.2.2.2.2.1),hx.at (h.2.2.2.2.2.2)⟩
end Go.Proofs.YtombmdaohcjokaaGreatDoor
namespace Go.Proofs
open Go.Shelf
def Tryz.lays170_ren:Go.Shelf.Ren:=⟨fun | 170=>342 | n=>n,fun | 70=>192 | 3=>3 | 0=>0 | 72=>195 | 37=>193 | 5=>5 | n=>n,fun | n=>n⟩
def Tryz.lays169_ren:Go.Shelf.Ren:=⟨fun | 169=>129 | n=>n,fun | 70=>192 | 9=>9 | 0=>0 | 72=>195 | 37=>193 | 127=>254 | 3=>3 | 5=>5 | n=>n,fun | n=>n⟩
theorem Tryz.lays169:Go.Proofs.Lays.n169 Tryz.prog Tryz.lays169_ren:= {
 mixed:=by kernel_rfl
 f169:=Tryz.func129.trans (congrArg some (by kernel_rfl))
 t0:=Tryz.underlying0
 a0:=Tryz.isAgg0
 z0:=Tryz.sizeOf0
 v0:=Tryz.zeroValue0
 t3:=Tryz.underlying3
 a3:=Tryz.isAgg3
 z3:=Tryz.sizeOf3
 v3:=Tryz.zeroValue3
 t9:=Tryz.underlying9
 a9:=Tryz.isAgg9
 z9:=Tryz.sizeOf9
 v9:=Tryz.zeroValue9
 t37:=Tryz.underlying193
 a37:=Tryz.isAgg193
 z37:=Tryz.sizeOf193
 v37:=Tryz.zeroValue193
 t70:=Tryz.underlying192
 a70:=Tryz.isAgg192
 z70:=Tryz.sizeOf192
 v70:=Tryz.zeroValue192
 t72:=Tryz.underlying195
 a72:=Tryz.isAgg195
 z72:=Tryz.sizeOf195
 v72:=Tryz.zeroValue195
 t127:=Tryz.underlying254
 a127:=Tryz.isAgg254
 z127:=Tryz.sizeOf254
 v127:=Tryz.zeroValue254 }
theorem Tryz.Builder_Extra_169:Builder.Extra Tryz.prog Tryz.lays169_ren:= {
 sizeBuilder:=by kernel_rfl
 liesBuilder:=by kernel_rfl
 t5:=Tryz.underlying5
 a5:=Tryz.isAgg5
 z5:=Tryz.sizeOf5
 v5:=Tryz.zeroValue5
 infoByte:=by kernel_rfl
 cellsByte:=by kernel_rfl
 sizeByte:=by kernel_rfl
 neB5:=by decide }
open Go.RowKit in
theorem Tryz.Builder_String_any (B b:Nat) (l:List UInt8) (w:World) (h:Lib.IsBuilder 195 5 B b (Lib.byteCells l) w) (hBw:B≤w.heap.size) :
 Calls Tryz.prog 129 #[.pointer (some ⟨b,0,none⟩)] w fun e w'=>e = .returned (.string ⟨l.toArray⟩)∧Below B w w':=Any.Builder_String_any Tryz.lays169 Tryz.Builder_Extra_169 B b l w h hBw
def Tryz.lays128_ren:Go.Shelf.Ren:=⟨fun | 128=>172 | n=>n,fun | 51=>247 | 3=>3 | 4=>4 | 46=>185 | 5=>5 | 9=>9 | n=>n,fun | n=>n⟩
def Tryz.lays125_ren:Go.Shelf.Ren:=⟨fun | 125=>118 | 128=>172 | 129=>173 | n=>n,fun | 46=>185 | 3=>3 | 51=>247 | 53=>249 | 4=>4 | 5=>5 | 9=>9 | n=>n,fun | n=>n⟩
def Tryz.lays213_ren:Go.Shelf.Ren:=⟨fun | 213=>222 | 265=>261 | n=>n,fun | 9=>9 | 3=>3 | n=>n,fun | n=>n⟩
def Tryz.lays106_ren:Go.Shelf.Ren:=⟨fun | 106=>176 | 213=>222 | 265=>261 | n=>n,fun | 9=>9 | 3=>3 | n=>n,fun | n=>n⟩
theorem Tryz.lays106:Go.Proofs.Lays.n106 Tryz.prog Tryz.lays106_ren:= {
 mixed:=by kernel_rfl
 f106:=Tryz.func176.trans (congrArg some (by kernel_rfl))
 f213:=Tryz.func222.trans (congrArg some (by kernel_rfl))
 f265:=Tryz.func261.trans (congrArg some (by kernel_rfl))
 t3:=Tryz.underlying3
 a3:=Tryz.isAgg3
 z3:=Tryz.sizeOf3
 v3:=Tryz.zeroValue3
 t9:=Tryz.underlying9
 a9:=Tryz.isAgg9
 z9:=Tryz.sizeOf9
 v9:=Tryz.zeroValue9 }
open Go.RowKit in
theorem Tryz.strings_Compare (a b:ByteArray) (w:World) :
 Calls Tryz.prog 176 #[.string a,.string b] w fun e w'=>e = .returned (.int .i64 (Lib.compareBytes a.data.toList b.data.toList))∧w'=w:=Any.strings_Compare Tryz.lays106 a b w
def Tryz.lays215_ren:Go.Shelf.Ren:=⟨fun | 215=>220 | n=>n,fun | 3=>3 | 4=>4 | n=>n,fun | n=>n⟩
def Tryz.lays122_ren:Go.Shelf.Ren:=⟨fun | 122=>174 | 215=>220 | n=>n,fun | 3=>3 | 4=>4 | n=>n,fun | n=>n⟩
def Tryz.lays129_ren:Go.Shelf.Ren:=⟨fun | 129=>173 | n=>n,fun | 53=>249 | 3=>3 | 4=>4 | 46=>185 | 5=>5 | 9=>9 | n=>n,fun | n=>n⟩
def Tryz.lays317_ren:Go.Shelf.Ren:=⟨fun | 317=>263 | n=>n,fun | 3=>3 | 46=>185 | n=>n,fun | n=>n⟩
def Tryz.lays318_ren:Go.Shelf.Ren:=⟨fun | 318=>264 | n=>n,fun | 3=>3 | 4=>4 | n=>n,fun | n=>n⟩
def Tryz.lays283_ren:Go.Shelf.Ren:=⟨fun | 283=>228 | n=>n,fun | 3=>3 | 9=>9 | 4=>4 | n=>n,fun | n=>n⟩
def Tryz.laysM284_ren:Go.Shelf.Ren:=⟨fun | 284=>229 | 129=>173 | 317=>263 | 318=>264 | n=>n,fun | 53=>249 | 3=>3 | 212=>353 | 0=>0 | 4=>4 | 46=>185 | 5=>5 | 9=>9 | n=>n,fun | 17=>2 | n=>n⟩
def Tryz.lays285_ren:Go.Shelf.Ren:=⟨fun | 285=>230 | n=>n,fun | 37=>193 | 53=>249 | 3=>3 | 4=>4 | 51=>247 | 9=>9 | 5=>5 | 0=>0 | n=>n,fun | n=>n⟩
def Tryz.laysM246_ren:Go.Shelf.Ren:=⟨fun | 246=>182 | 283=>228 | 284=>229 | 285=>230 | 286=>231 | 129=>173 | 317=>263 | 318=>264 | 319=>265 | 320=>266 | 337=>305 | 338=>306 | n=>n,fun | 2=>2 | 3=>3 | 9=>9 | 4=>4 | 171=>310 | 0=>0 | 53=>249 | 37=>193 | 5=>5 | 173=>312 | 212=>353 | 51=>247 | 20=>20 | 213=>354 | 46=>185 | 232=>393 | 233=>394 | n=>n,fun | 17=>2 | 18=>3 | 19=>4 | n=>n⟩
def Tryz.lays246_ren:Go.Shelf.Ren:=⟨fun | 246=>182 | 283=>228 | 284=>229 | 285=>230 | 286=>231 | 129=>173 | 317=>263 | 318=>264 | 319=>265 | 320=>266 | 337=>305 | 338=>306 | n=>n,fun | 2=>2 | 3=>3 | 9=>9 | 4=>4 | 171=>310 | 0=>0 | 53=>249 | 37=>193 | 5=>5 | 173=>312 | 212=>353 | 51=>247 | 20=>20 | 213=>354 | 46=>185 | 232=>393 | 233=>394 | n=>n,fun | 17=>2 | 18=>3 | 19=>4 | n=>n⟩
def Tryz.laysM243_ren:Go.Shelf.Ren:=⟨fun | 243=>181 | 246=>182 | 283=>228 | 284=>229 | 285=>230 | 286=>231 | 129=>173 | 317=>263 | 318=>264 | 319=>265 | 320=>266 | 337=>305 | 338=>306 | n=>n,fun | 3=>3 | 9=>9 | 2=>2 | 4=>4 | 171=>310 | 0=>0 | 53=>249 | 37=>193 | 5=>5 | 173=>312 | 212=>353 | 51=>247 | 20=>20 | 213=>354 | 46=>185 | 232=>393 | 233=>394 | n=>n,fun | 17=>2 | 18=>3 | 19=>4 | n=>n⟩
def Tryz.lays243_ren:Go.Shelf.Ren:=⟨fun | 243=>181 | 246=>182 | 283=>228 | 284=>229 | 285=>230 | 286=>231 | 129=>173 | 317=>263 | 318=>264 | 319=>265 | 320=>266 | 337=>305 | 338=>306 | n=>n,fun | 3=>3 | 9=>9 | 2=>2 | 4=>4 | 171=>310 | 0=>0 | 53=>249 | 37=>193 | 5=>5 | 173=>312 | 212=>353 | 51=>247 | 20=>20 | 213=>354 | 46=>185 | 232=>393 | 233=>394 | n=>n,fun | 17=>2 | 18=>3 | 19=>4 | n=>n⟩
def Tryz.laysM171_ren:Go.Shelf.Ren:=⟨fun | 171=>127 | 243=>181 | 246=>182 | 283=>228 | 284=>229 | 285=>230 | 286=>231 | 129=>173 | 317=>263 | 318=>264 | 319=>265 | 320=>266 | 337=>305 | 338=>306 | n=>n,fun | 3=>3 | 9=>9 | 2=>2 | 4=>4 | 171=>310 | 0=>0 | 53=>249 | 37=>193 | 5=>5 | 173=>312 | 212=>353 | 51=>247 | 20=>20 | 213=>354 | 46=>185 | 232=>393 | 233=>394 | n=>n,fun | 17=>2 | 18=>3 | 19=>4 | n=>n⟩
theorem Tryz.laysM171:Go.Proofs.LaysM.n171 Tryz.prog Tryz.laysM171_ren:= {
 mixed:=by kernel_rfl
 f129:=Tryz.func173.trans (congrArg some (by kernel_rfl))
 f171:=Tryz.func127.trans (congrArg some (by kernel_rfl))
 f243:=Tryz.func181.trans (congrArg some (by kernel_rfl))
 f246:=Tryz.func182.trans (congrArg some (by kernel_rfl))
 f283:=Tryz.func228.trans (congrArg some (by kernel_rfl))
 f284:=Tryz.func229.trans (congrArg some (by kernel_rfl))
 f285:=Tryz.func230.trans (congrArg some (by kernel_rfl))
 f286:=Tryz.func231.trans (congrArg some (by kernel_rfl))
 f317:=Tryz.func263.trans (congrArg some (by kernel_rfl))
 f318:=Tryz.func264.trans (congrArg some (by kernel_rfl))
 f319:=Tryz.func265.trans (congrArg some (by kernel_rfl))
 f320:=Tryz.func266.trans (congrArg some (by kernel_rfl))
 f337:=Tryz.func305.trans (congrArg some (by kernel_rfl))
 f338:=Tryz.func306.trans (congrArg some (by kernel_rfl))
 t0:=Tryz.underlying0
 a0:=Tryz.isAgg0
 z0:=Tryz.sizeOf0
 v0:=Tryz.zeroValue0
 t2:=Tryz.underlying2
 a2:=Tryz.isAgg2
 z2:=Tryz.sizeOf2
 v2:=Tryz.zeroValue2
 t3:=Tryz.underlying3
 a3:=Tryz.isAgg3
 z3:=Tryz.sizeOf3
 v3:=Tryz.zeroValue3
 t4:=Tryz.underlying4
 a4:=Tryz.isAgg4
 z4:=Tryz.sizeOf4
 v4:=Tryz.zeroValue4
 t5:=Tryz.underlying5
 a5:=Tryz.isAgg5
 z5:=Tryz.sizeOf5
 v5:=Tryz.zeroValue5
 t9:=Tryz.underlying9
 a9:=Tryz.isAgg9
 z9:=Tryz.sizeOf9
 v9:=Tryz.zeroValue9
 t20:=Tryz.underlying20
 a20:=Tryz.isAgg20
 z20:=Tryz.sizeOf20
 v20:=Tryz.zeroValue20
 t37:=Tryz.underlying193
 a37:=Tryz.isAgg193
 z37:=Tryz.sizeOf193
 v37:=Tryz.zeroValue193
 t46:=Tryz.underlying185
 a46:=Tryz.isAgg185
 z46:=Tryz.sizeOf185
 v46:=Tryz.zeroValue185
 t51:=Tryz.underlying247
 a51:=Tryz.isAgg247
 z51:=Tryz.sizeOf247
 v51:=Tryz.zeroValue247
 t53:=Tryz.underlying249
 a53:=Tryz.isAgg249
 z53:=Tryz.sizeOf249
 v53:=Tryz.zeroValue249
 t171:=Tryz.underlying310
 a171:=Tryz.isAgg310
 z171:=Tryz.sizeOf310
 v171:=Tryz.zeroValue310
 t173:=Tryz.underlying312
 a173:=Tryz.isAgg312
 z173:=Tryz.sizeOf312
 v173:=Tryz.zeroValue312
 t212:=Tryz.underlying353
 a212:=Tryz.isAgg353
 z212:=Tryz.sizeOf353
 v212:=Tryz.zeroValue353
 t213:=Tryz.underlying354
 a213:=Tryz.isAgg354
 z213:=Tryz.sizeOf354
 t232:=Tryz.underlying393
 a232:=Tryz.isAgg393
 z232:=Tryz.sizeOf393
 v232:=Tryz.zeroValue393
 t233:=Tryz.underlying394
 a233:=Tryz.isAgg394
 z233:=Tryz.sizeOf394
 v233:=Tryz.zeroValue394
 g17:=by kernel_rfl
 g18:=by kernel_rfl
 g19:=by kernel_rfl
 i0:=by kernel_rfl
 i2:=by kernel_rfl
 i3:=by kernel_rfl
 i4:=by kernel_rfl
 i5:=by kernel_rfl
 i9:=by kernel_rfl
 i20:=by kernel_rfl
 i37:=by kernel_rfl
 i46:=by kernel_rfl
 i51:=by kernel_rfl
 i53:=by kernel_rfl
 i171:=by kernel_rfl
 i173:=by kernel_rfl
 i212:=by kernel_rfl
 i232:=by kernel_rfl
 i233:=by kernel_rfl
 m17:=by kernel_rfl
 m18:=by kernel_rfl
 m19:=by kernel_rfl }
open Go.RowKit Go.Sort Go.Lib in
theorem Tryz.strconv_Itoa (n:Int) (h0 : -9223372036854775808≤n) (h1:n≤9223372036854775807) (w:World) (htab:Lib.TabIs Tryz.prog w "internal/strconv.uint64pow10" .u64 Lib.pow10Tab) :
 Calls Tryz.prog 127 #[.int .i64 n] w fun e w'=>e = .returned (.string ⟨(Lib.itoa n).toArray⟩)∧ ∃k os,w'=grow (w.drewN k) os:=Any.strconv_Itoa Tryz.laysM171 n h0 h1 w htab
def Tryz.lays171_ren:Go.Shelf.Ren:=⟨fun | 171=>127 | 243=>181 | 246=>182 | 283=>228 | 284=>229 | 285=>230 | 286=>231 | 129=>173 | 317=>263 | 318=>264 | 319=>265 | 320=>266 | 337=>305 | 338=>306 | n=>n,fun | 3=>3 | 9=>9 | 2=>2 | 4=>4 | 171=>310 | 0=>0 | 53=>249 | 37=>193 | 5=>5 | 173=>312 | 212=>353 | 51=>247 | 20=>20 | 213=>354 | 46=>185 | 232=>393 | 233=>394 | n=>n,fun | 17=>2 | 18=>3 | 19=>4 | n=>n⟩
def Tryz.laysM173_ren:Go.Shelf.Ren:=⟨fun | 173=>128 | 246=>182 | 283=>228 | 284=>229 | 285=>230 | 286=>231 | 129=>173 | 317=>263 | 318=>264 | 319=>265 | 320=>266 | 337=>305 | 338=>306 | n=>n,fun | 2=>2 | 3=>3 | 9=>9 | 4=>4 | 171=>310 | 0=>0 | 53=>249 | 37=>193 | 5=>5 | 173=>312 | 212=>353 | 51=>247 | 20=>20 | 213=>354 | 46=>185 | 232=>393 | 233=>394 | n=>n,fun | 17=>2 | 18=>3 | 19=>4 | n=>n⟩
theorem Tryz.laysM173:Go.Proofs.LaysM.n173 Tryz.prog Tryz.laysM173_ren:= {
 mixed:=by kernel_rfl
 f129:=Tryz.func173.trans (congrArg some (by kernel_rfl))
 f173:=Tryz.func128.trans (congrArg some (by kernel_rfl))
 f246:=Tryz.func182.trans (congrArg some (by kernel_rfl))
 f283:=Tryz.func228.trans (congrArg some (by kernel_rfl))
 f284:=Tryz.func229.trans (congrArg some (by kernel_rfl))
 f285:=Tryz.func230.trans (congrArg some (by kernel_rfl))
 f286:=Tryz.func231.trans (congrArg some (by kernel_rfl))
 f317:=Tryz.func263.trans (congrArg some (by kernel_rfl))
 f318:=Tryz.func264.trans (congrArg some (by kernel_rfl))
 f319:=Tryz.func265.trans (congrArg some (by kernel_rfl))
 f320:=Tryz.func266.trans (congrArg some (by kernel_rfl))
 f337:=Tryz.func305.trans (congrArg some (by kernel_rfl))
 f338:=Tryz.func306.trans (congrArg some (by kernel_rfl))
 t0:=Tryz.underlying0
 a0:=Tryz.isAgg0
 z0:=Tryz.sizeOf0
 v0:=Tryz.zeroValue0
 t2:=Tryz.underlying2
 a2:=Tryz.isAgg2
 z2:=Tryz.sizeOf2
 v2:=Tryz.zeroValue2
 t3:=Tryz.underlying3
 a3:=Tryz.isAgg3
 z3:=Tryz.sizeOf3
 v3:=Tryz.zeroValue3
 t4:=Tryz.underlying4
 a4:=Tryz.isAgg4
 z4:=Tryz.sizeOf4
 v4:=Tryz.zeroValue4
 t5:=Tryz.underlying5
 a5:=Tryz.isAgg5
 z5:=Tryz.sizeOf5
 v5:=Tryz.zeroValue5
 t9:=Tryz.underlying9
 a9:=Tryz.isAgg9
 z9:=Tryz.sizeOf9
 v9:=Tryz.zeroValue9
 t20:=Tryz.underlying20
 a20:=Tryz.isAgg20
 z20:=Tryz.sizeOf20
 v20:=Tryz.zeroValue20
 t37:=Tryz.underlying193
 a37:=Tryz.isAgg193
 z37:=Tryz.sizeOf193
 v37:=Tryz.zeroValue193
 t46:=Tryz.underlying185
 a46:=Tryz.isAgg185
 z46:=Tryz.sizeOf185
 v46:=Tryz.zeroValue185
 t51:=Tryz.underlying247
 a51:=Tryz.isAgg247
 z51:=Tryz.sizeOf247
 v51:=Tryz.zeroValue247
 t53:=Tryz.underlying249
 a53:=Tryz.isAgg249
 z53:=Tryz.sizeOf249
 v53:=Tryz.zeroValue249
 t171:=Tryz.underlying310
 a171:=Tryz.isAgg310
 z171:=Tryz.sizeOf310
 v171:=Tryz.zeroValue310
 t173:=Tryz.underlying312
 a173:=Tryz.isAgg312
 z173:=Tryz.sizeOf312
 v173:=Tryz.zeroValue312
 t212:=Tryz.underlying353
 a212:=Tryz.isAgg353
 z212:=Tryz.sizeOf353
 v212:=Tryz.zeroValue353
 t213:=Tryz.underlying354
 a213:=Tryz.isAgg354
 z213:=Tryz.sizeOf354
 t232:=Tryz.underlying393
 a232:=Tryz.isAgg393
 z232:=Tryz.sizeOf393
 v232:=Tryz.zeroValue393
 t233:=Tryz.underlying394
 a233:=Tryz.isAgg394
 z233:=Tryz.sizeOf394
 v233:=Tryz.zeroValue394
 g17:=by kernel_rfl
 g18:=by kernel_rfl
 g19:=by kernel_rfl
 i0:=by kernel_rfl
 i2:=by kernel_rfl
 i3:=by kernel_rfl
 i4:=by kernel_rfl
 i5:=by kernel_rfl
 i9:=by kernel_rfl
 i20:=by kernel_rfl
 i37:=by kernel_rfl
 i46:=by kernel_rfl
 i51:=by kernel_rfl
 i53:=by kernel_rfl
 i171:=by kernel_rfl
 i173:=by kernel_rfl
 i212:=by kernel_rfl
 i232:=by kernel_rfl
 i233:=by kernel_rfl
 m17:=by kernel_rfl
 m18:=by kernel_rfl
 m19:=by kernel_rfl }
open Go.RowKit Go.Sort Go.Lib in
theorem Tryz.strconv_FormatInt_10 (n:Int) (h0 : -9223372036854775808≤n) (h1:n≤9223372036854775807) (w:World) (htab:Lib.TabIs Tryz.prog w "internal/strconv.uint64pow10" .u64 Lib.pow10Tab) :
 Calls Tryz.prog 128 #[.int .i64 n,.int .i64 10] w fun e w'=>e = .returned (.string ⟨(Lib.itoa n).toArray⟩)∧ ∃k os,w'=grow (w.drewN k) os:=Any.strconv_FormatInt_10 Tryz.laysM173 n h0 h1 w htab
def Tryz.lays173_ren:Go.Shelf.Ren:=⟨fun | 173=>128 | 246=>182 | 283=>228 | 284=>229 | 285=>230 | 286=>231 | 129=>173 | 317=>263 | 318=>264 | 319=>265 | 320=>266 | 337=>305 | 338=>306 | n=>n,fun | 2=>2 | 3=>3 | 9=>9 | 4=>4 | 171=>310 | 0=>0 | 53=>249 | 37=>193 | 5=>5 | 173=>312 | 212=>353 | 51=>247 | 20=>20 | 213=>354 | 46=>185 | 232=>393 | 233=>394 | n=>n,fun | 17=>2 | 18=>3 | 19=>4 | n=>n⟩
def Tryz.lays189_ren:Go.Shelf.Ren:=⟨fun | 189=>70 | 125=>118 | 257=>117 | 128=>172 | 129=>173 | 294=>163 | 295=>164 | 296=>165 | 297=>166 | 298=>167 | 299=>168 | 216=>169 | 300=>170 | 301=>171 | 328=>215 | 329=>216 | 330=>217 | 331=>218 | 332=>219 | 215=>220 | 343=>260 | n=>n,fun | 28=>29 | 3=>3 | 46=>185 | 0=>0 | 51=>247 | 53=>249 | 4=>4 | 183=>240 | 182=>239 | 131=>229 | 5=>5 | 9=>9 | 218=>301 | 222=>305 | 228=>349 | 229=>224 | n=>n,fun | n=>n⟩
theorem Tryz.lays189:Go.Proofs.Lays.n189 Tryz.prog Tryz.lays189_ren:= {
 mixed:=by kernel_rfl
 f125:=Tryz.func118.trans (congrArg some (by kernel_rfl))
 f128:=Tryz.func172.trans (congrArg some (by kernel_rfl))
 f129:=Tryz.func173.trans (congrArg some (by kernel_rfl))
 f189:=Tryz.func70.trans (congrArg some (by kernel_rfl))
 f215:=Tryz.func220.trans (congrArg some (by kernel_rfl))
 f216:=Tryz.func169.trans (congrArg some (by kernel_rfl))
 f257:=Tryz.func117.trans (congrArg some (by kernel_rfl))
 f294:=Tryz.func163.trans (congrArg some (by kernel_rfl))
 f295:=Tryz.func164.trans (congrArg some (by kernel_rfl))
 f296:=Tryz.func165.trans (congrArg some (by kernel_rfl))
 f297:=Tryz.func166.trans (congrArg some (by kernel_rfl))
 f298:=Tryz.func167.trans (congrArg some (by kernel_rfl))
 f299:=Tryz.func168.trans (congrArg some (by kernel_rfl))
 f300:=Tryz.func170.trans (congrArg some (by kernel_rfl))
 f301:=Tryz.func171.trans (congrArg some (by kernel_rfl))
 f328:=Tryz.func215.trans (congrArg some (by kernel_rfl))
 f329:=Tryz.func216.trans (congrArg some (by kernel_rfl))
 f330:=Tryz.func217.trans (congrArg some (by kernel_rfl))
 f331:=Tryz.func218.trans (congrArg some (by kernel_rfl))
 f332:=Tryz.func219.trans (congrArg some (by kernel_rfl))
 f343:=Tryz.func260.trans (congrArg some (by kernel_rfl))
 t0:=Tryz.underlying0
 a0:=Tryz.isAgg0
 z0:=Tryz.sizeOf0
 v0:=Tryz.zeroValue0
 t3:=Tryz.underlying3
 a3:=Tryz.isAgg3
 z3:=Tryz.sizeOf3
 v3:=Tryz.zeroValue3
 t4:=Tryz.underlying4
 a4:=Tryz.isAgg4
 z4:=Tryz.sizeOf4
 v4:=Tryz.zeroValue4
 t5:=Tryz.underlying5
 a5:=Tryz.isAgg5
 z5:=Tryz.sizeOf5
 v5:=Tryz.zeroValue5
 t9:=Tryz.underlying9
 a9:=Tryz.isAgg9
 z9:=Tryz.sizeOf9
 v9:=Tryz.zeroValue9
 t28:=Tryz.underlying29
 a28:=Tryz.isAgg29
 z28:=Tryz.sizeOf29
 v28:=Tryz.zeroValue29
 t46:=Tryz.underlying185
 a46:=Tryz.isAgg185
 z46:=Tryz.sizeOf185
 v46:=Tryz.zeroValue185
 t51:=Tryz.underlying247
 a51:=Tryz.isAgg247
 z51:=Tryz.sizeOf247
 v51:=Tryz.zeroValue247
 t53:=Tryz.underlying249
 a53:=Tryz.isAgg249
 z53:=Tryz.sizeOf249
 v53:=Tryz.zeroValue249
 t131:=Tryz.underlying229
 a131:=Tryz.isAgg229
 z131:=Tryz.sizeOf229
 v131:=Tryz.zeroValue229
 t182:=Tryz.underlying239
 a182:=Tryz.isAgg239
 z182:=Tryz.sizeOf239
 v182:=Tryz.zeroValue239
 t183:=Tryz.underlying240
 a183:=Tryz.isAgg240
 z183:=Tryz.sizeOf240
 v183:=Tryz.zeroValue240
 t218:=Tryz.underlying301
 a218:=Tryz.isAgg301
 z218:=Tryz.sizeOf301
 v218:=Tryz.zeroValue301
 t222:=Tryz.underlying305
 a222:=Tryz.isAgg305
 z222:=Tryz.sizeOf305
 v222:=Tryz.zeroValue305
 t228:=Tryz.underlying349
 a228:=Tryz.isAgg349
 z228:=Tryz.sizeOf349
 v228:=Tryz.zeroValue349
 t229:=Tryz.underlying224
 a229:=Tryz.isAgg224
 z229:=Tryz.sizeOf224
 v229:=Tryz.zeroValue224 }
open Go.Sort Go.RowKit in
theorem Tryz.slices_Sort_int (blk off cap:Nat) (zs:List Int) (w:World) (hH:Holds (Value.int .i64) w blk off zs.toArray) (hblk:blk<w.heap.size) (hsz:zs.length<4611686018427387904) :
 Calls Tryz.prog 70 #[.slice (some ⟨blk,off,none⟩) zs.length cap] w fun e w' =>
  e = .returned (.tuple #[])∧ ∃n os,w'=grow (putRow (Value.int .i64) (Sort.ahead w n) blk off (zs.mergeSort fun x y=>decide (x≤y)).toArray) os:=Any.slices_Sort_int Tryz.lays189 blk off cap zs w hH hblk hsz
def Tryz.lays264_ren:Go.Shelf.Ren:=⟨fun | 264=>304 | n=>n,fun | 53=>249 | 46=>185 | n=>n,fun | n=>n⟩
theorem Tryz.lays264:Go.Proofs.Lays.n264 Tryz.prog Tryz.lays264_ren:= {
 mixed:=by kernel_rfl
 f264:=Tryz.func304.trans (congrArg some (by kernel_rfl))
 t46:=Tryz.underlying185
 a46:=Tryz.isAgg185
 z46:=Tryz.sizeOf185
 v46:=Tryz.zeroValue185
 t53:=Tryz.underlying249
 a53:=Tryz.isAgg249
 z53:=Tryz.sizeOf249
 v53:=Tryz.zeroValue249 }
open Go.RowKit Go.Lib in
theorem Tryz.bits_Mul64 (x y:Nat) (hx:x<18446744073709551616) (hy:y<18446744073709551616) (w:World) :
 Calls Tryz.prog 304 #[.int .u64 x,.int .u64 y] w fun e w'=>e = .returned (.tuple #[.int .u64 ((x*y / 18446744073709551616:Nat):Int),.int .u64 ((x*y % 18446744073709551616:Nat):Int)])∧w'=w:=Any.bits_Mul64 Tryz.lays264 x y hx hy w
def Tryz.laysNm215_ren:Go.Shelf.Ren:=⟨fun | 15=>51 | n=>n,fun | 22=>29 | 3=>3 | 4=>4 | n=>n,fun | n=>n⟩
def Tryz.laysNm220_ren:Go.Shelf.Ren:=⟨fun | 20=>71 | n=>n,fun | 22=>29 | 3=>3 | 4=>4 | 0=>0 | n=>n,fun | n=>n⟩
theorem Tryz.laysNm220:Go.Proofs.Lays2.n20 Tryz.prog Tryz.laysNm220_ren:= {
 mixed:=by kernel_rfl
 f20:=Tryz.func71.trans (congrArg some (by kernel_rfl))
 t0:=Tryz.underlying0
 a0:=Tryz.isAgg0
 z0:=Tryz.sizeOf0
 v0:=Tryz.zeroValue0
 t3:=Tryz.underlying3
 a3:=Tryz.isAgg3
 z3:=Tryz.sizeOf3
 v3:=Tryz.zeroValue3
 t4:=Tryz.underlying4
 a4:=Tryz.isAgg4
 z4:=Tryz.sizeOf4
 v4:=Tryz.zeroValue4
 t22:=Tryz.underlying29
 a22:=Tryz.isAgg29
 z22:=Tryz.sizeOf29
 v22:=Tryz.zeroValue29
 i3:=by kernel_rfl }
open Go.RowKit Go.Lib Go.Sort in
theorem Tryz.slices_Compact_int (blk off cap:Nat) (zs:List Int) (w:World) (hH:Holds (Value.int .i64) w blk off zs.toArray) (hsz:zs.length≤9223372036854775807) (hcap:zs.length≤cap) :
 Calls Tryz.prog 71 #[.slice (some ⟨blk,off,none⟩) zs.length cap] w fun e w'=>e = .returned (.slice (some ⟨blk,off,none⟩) (Lib.compact zs).length cap)∧ ∃q,w'=putRow (Value.int .i64) (Sort.ahead w q) blk off (Lib.compact zs++List.replicate (zs.length - (Lib.compact zs).length) 0).toArray:=Any.slices_Compact_int Tryz.laysNm220 blk off cap zs w hH hsz hcap
open Go.RowKit Go.Lib Go.Sort in
theorem Tryz.slices_Compact_int_empty (a:Option Addr) (cap:Nat) (w:World) :
 Calls Tryz.prog 71 #[.slice a 0 cap] w fun e w'=>e = .returned (.slice a 0 cap)∧w'=w:=Any.slices_Compact_int_empty Tryz.laysNm220 a cap w
def Tryz.laysNm237_ren:Go.Shelf.Ren:=⟨fun | 37=>220 | n=>n,fun | 3=>3 | 4=>4 | n=>n,fun | n=>n⟩
def Tryz.laysNm232_ren:Go.Shelf.Ren:=⟨fun | 32=>281 | n=>n,fun | 3=>3 | 4=>4 | n=>n,fun | n=>n⟩
def Tryz.laysNm231_ren:Go.Shelf.Ren:=⟨fun | 31=>169 | 37=>220 | n=>n,fun | 3=>3 | 4=>4 | n=>n,fun | n=>n⟩
def Tryz.laysNm225_ren:Go.Shelf.Ren:=⟨fun | 25=>246 | 31=>169 | 32=>281 | 37=>220 | n=>n,fun | 22=>29 | 3=>3 | 4=>4 | 40=>185 | 0=>0 | n=>n,fun | n=>n⟩
open Go.RowKit Go.Sort in
theorem Tryz.slices_Sort_int_none (p:Option Addr) (cap:Nat) (w:World) :
 Calls Tryz.prog 70 #[.slice p 0 cap] w fun e w'=>e = .returned (.tuple #[])∧w'=w:=Any.slices_Sort_int_none Tryz.lays189 p cap w
def Tryz.laysSlE041_f51_ren:Go.Shelf.Ren:=⟨fun | 41=>51 | n=>n,fun | 22=>29 | 23=>3 | 4=>4 | n=>n,fun | n=>n⟩
def Tryz.cloneVal_ren:Go.Shelf.Ren:=⟨fun | 41=>155 | n=>n,fun | 22=>56 | 23=>61 | 4=>4 | n=>n,fun | n=>n⟩
def Tryz.cloneInt_ren:Go.Shelf.Ren:=⟨fun | 41=>51 | n=>n,fun | 22=>29 | 23=>3 | 4=>4 | n=>n,fun | n=>n⟩
def Tryz.sortRows_ren:Go.Shelf.Ren:=⟨fun | 6=>102 | 15=>118 | 14=>156 | 28=>172 | 29=>173 | 20=>203 | 21=>204 | 22=>205 | 23=>206 | 24=>207 | 25=>208 | 26=>209 | 27=>210 | 46=>257 | 47=>216 | 48=>217 | 49=>258 | 50=>259 | 57=>302 | n=>n,fun | 22=>40 | 24=>58 | 25=>169 | 3=>3 | 39=>185 | 0=>0 | 53=>247 | 55=>249 | 4=>4 | 46=>240 | 45=>239 | 50=>229 | 5=>5 | 9=>9 | 66=>301 | 70=>305 | 76=>349 | 77=>224 | n=>n,fun | n=>n⟩
theorem Tryz.sortRows:Go.Proofs.SlLaysF0.n6 Tryz.prog Tryz.sortRows_ren:= {
 mixed:=by kernel_rfl
 f6:=⟨Tryz.f102.name,by decide,Tryz.func102.trans (congrArg some (by kernel_rfl))⟩
 f14:=⟨Tryz.f156.name,by decide,Tryz.func156.trans (congrArg some (by kernel_rfl))⟩
 f15:=Tryz.func118.trans (congrArg some (by kernel_rfl))
 f20:=⟨Tryz.f203.name,by decide,Tryz.func203.trans (congrArg some (by kernel_rfl))⟩
 f21:=⟨Tryz.f204.name,by decide,Tryz.func204.trans (congrArg some (by kernel_rfl))⟩
 f22:=⟨Tryz.f205.name,by decide,Tryz.func205.trans (congrArg some (by kernel_rfl))⟩
 f23:=⟨Tryz.f206.name,by decide,Tryz.func206.trans (congrArg some (by kernel_rfl))⟩
 f24:=⟨Tryz.f207.name,by decide,Tryz.func207.trans (congrArg some (by kernel_rfl))⟩
 f25:=⟨Tryz.f208.name,by decide,Tryz.func208.trans (congrArg some (by kernel_rfl))⟩
 f26:=⟨Tryz.f209.name,by decide,Tryz.func209.trans (congrArg some (by kernel_rfl))⟩
 f27:=⟨Tryz.f210.name,by decide,Tryz.func210.trans (congrArg some (by kernel_rfl))⟩
 f28:=Tryz.func172.trans (congrArg some (by kernel_rfl))
 f29:=Tryz.func173.trans (congrArg some (by kernel_rfl))
 f46:=⟨Tryz.f257.name,by decide,Tryz.func257.trans (congrArg some (by kernel_rfl))⟩
 f47:=Tryz.func216.trans (congrArg some (by kernel_rfl))
 f48:=Tryz.func217.trans (congrArg some (by kernel_rfl))
 f49:=⟨Tryz.f258.name,by decide,Tryz.func258.trans (congrArg some (by kernel_rfl))⟩
 f50:=⟨Tryz.f259.name,by decide,Tryz.func259.trans (congrArg some (by kernel_rfl))⟩
 f57:=⟨Tryz.f302.name,by decide,Tryz.func302.trans (congrArg some (by kernel_rfl))⟩
 t0:=Tryz.underlying0
 a0:=Tryz.isAgg0
 z0:=Tryz.sizeOf0
 v0:=Tryz.zeroValue0
 t3:=Tryz.underlying3
 a3:=Tryz.isAgg3
 z3:=Tryz.sizeOf3
 v3:=Tryz.zeroValue3
 t4:=Tryz.underlying4
 a4:=Tryz.isAgg4
 z4:=Tryz.sizeOf4
 v4:=Tryz.zeroValue4
 t5:=Tryz.underlying5
 a5:=Tryz.isAgg5
 z5:=Tryz.sizeOf5
 v5:=Tryz.zeroValue5
 t9:=Tryz.underlying9
 a9:=Tryz.isAgg9
 z9:=Tryz.sizeOf9
 v9:=Tryz.zeroValue9
 t22:=Tryz.underlying40
 a22:=Tryz.isAgg40
 z22:=Tryz.sizeOf40
 v22:=Tryz.zeroValue40
 t25:=Tryz.underlying169
 a25:=Tryz.isAgg169
 z25:=Tryz.sizeOf169
 v25:=Tryz.zeroValue169
 t39:=Tryz.underlying185
 a39:=Tryz.isAgg185
 z39:=Tryz.sizeOf185
 v39:=Tryz.zeroValue185
 t45:=Tryz.underlying239
 a45:=Tryz.isAgg239
 z45:=Tryz.sizeOf239
 v45:=Tryz.zeroValue239
 t46:=Tryz.underlying240
 a46:=Tryz.isAgg240
 z46:=Tryz.sizeOf240
 v46:=Tryz.zeroValue240
 t50:=Tryz.underlying229
 a50:=Tryz.isAgg229
 z50:=Tryz.sizeOf229
 v50:=Tryz.zeroValue229
 t53:=Tryz.underlying247
 a53:=Tryz.isAgg247
 z53:=Tryz.sizeOf247
 v53:=Tryz.zeroValue247
 t55:=Tryz.underlying249
 a55:=Tryz.isAgg249
 z55:=Tryz.sizeOf249
 v55:=Tryz.zeroValue249
 t66:=Tryz.underlying301
 a66:=Tryz.isAgg301
 z66:=Tryz.sizeOf301
 v66:=Tryz.zeroValue301
 t70:=Tryz.underlying305
 a70:=Tryz.isAgg305
 z70:=Tryz.sizeOf305
 v70:=Tryz.zeroValue305
 t76:=Tryz.underlying349
 a76:=Tryz.isAgg349
 z76:=Tryz.sizeOf349
 v76:=Tryz.zeroValue349
 t77:=Tryz.underlying224
 a77:=Tryz.isAgg224
 z77:=Tryz.sizeOf224
 v77:=Tryz.zeroValue224 }
end Go.Proofs
