/- joined texts of a proof: EvP, EvaA, Fam, MatI, ShelfE, ConcV, CombW, Box, ClsA, GrpW, ShelfC, StabX, PairA, HeapQ, StabC, StabY, PairX, Open -/
import Derived.Test.YtombmdaohcjokaaGreatDoorKX07
import Derived.Test.YtombmdaohcjokaaGreatDoorKX10
import Derived.Test.YtombmdaohcjokaaGreatDoorKX09
import Derived.Test.YtombmdaohcjokaaGreatDoorKX03
import Derived.Test.YtombmdaohcjokaaGreatDoorKX04
import Derived.Shelf.Spec.SlicesGrow
import Derived.Ground.Names8Prog
import Derived.Test.YtombmdaohcjokaaGreatDoorProg
import Derived.Test.YtombmdaohcjokaaGreatDoorKX08
import Derived.Laws.OwnMore
import Derived.Maps.OwnSet
import Derived.Test.YtombmdaohcjokaaGreatDoorKX05
import Derived.Deep.DeepCutAuto
import Derived.Ground.SlsfProg
import Derived.Shelf.SlSortCmp.WholeK
import Derived.Test.YtombmdaohcjokaaGreatDoorKX02
import Derived.Shelf.SlSortCmp.PdqK
import Derived.OneCell
import Derived.Test.YtombmdaohcjokaaGreatDoorKX01
import Derived.Shelf.SlSortCmp.QuietGrown
import Derived.Shelf.SlSortCmp.NoneTotal
import Derived.ProofKit
import Derived.OpenShut
import Derived.Deep.Strs
import Derived.Lib.SmallJoins
namespace Go.Proofs.YtombmdaohcjokaaGreatDoor
open Go.RowKit
theorem keyVal_ne (v:Val):keyVal v≠ []:=by
 unfold keyVal
 intro h
 have:=congrArg List.length h
 simp at this
theorem keyVals_all : ∀ {vs us:List Val},keyVals vs=keyVals us→vs=us:=by
 intro vs
 induction vs with
 |nil =>
  intro us h
  cases us with
  |nil=>rfl
  |cons u us =>
   unfold keyVals at h
   rw [List.flatMap_cons]at h
   exact absurd (List.append_eq_nil_iff.1 h.symm).1 (keyVal_ne u)
 |cons v vs ih =>
  intro us h
  cases us with
  |nil =>
   unfold keyVals at h
   rw [List.flatMap_cons]at h
   exact absurd (List.append_eq_nil_iff.1 h).1 (keyVal_ne v)
  |cons u us =>
   unfold keyVals at h
   rw [List.flatMap_cons,List.flatMap_cons]at h
   obtain⟨h1,h2⟩:=keyVal_inj h
   rw [h1,ih h2]
section
open Classical
noncomputable def addOnce {κ:Type} (ks:List κ) (k:κ):List κ:=if k∈ks then ks else ks ++ [k]
noncomputable def firsts {κ:Type} (l:List κ):List κ:=l.foldl addOnce []
theorem firsts_snoc {κ:Type} (l:List κ) (k:κ):firsts (l ++ [k])=addOnce (firsts l) k:=by
 unfold firsts
 rw [List.foldl_append]
 rfl
theorem mem_addOnce {κ:Type} {ks:List κ} {k x:κ}:x∈addOnce ks k↔x∈ks∨x=k:=by
 unfold addOnce
 split
 ·rename_i h
  exact⟨.inl,fun e=>by rcases e with e | rfl;exact e;exact h⟩
 ·rw [List.mem_append,List.mem_singleton]
theorem firsts_law {κ:Type} (l:List κ):(firsts l).Nodup∧ ∀x,x∈firsts l↔x∈l:=by
 have h : ∀n,n≤l.length→(firsts (l.take n)).Nodup∧ ∀x,x∈firsts (l.take n)↔x∈l.take n:=by
  intro n
  induction n with
  |zero=>intro _;rw [List.take_zero];exact⟨List.nodup_nil,fun x=>Iff.rfl⟩
  |succ n ih =>
   intro hn
   obtain⟨h1,h2⟩:=ih (by omega)
   rw [List.take_succ_eq_append_getElem (by omega),firsts_snoc]
   refine⟨?_,fun x=>by rw [mem_addOnce,h2,List.mem_append,List.mem_singleton]⟩
   unfold addOnce
   split
   ·exact h1
   ·rename_i hx
    rw [List.nodup_append]
    refine⟨h1,by simp,fun a ha b hb=> ?_⟩
    rw [List.mem_singleton.1 hb]
    rintro rfl
    exact hx ha
 have:=h l.length (Nat.le_refl _)
 rwa [List.take_length]at this
theorem nodup_len {κ:Type} : ∀ {l m:List κ},l.Nodup→(∀x∈l,x∈m)→l.length≤m.length:=by
 intro l
 induction l with
 |nil=>intro m _ _;exact Nat.zero_le _
 |cons x l ih =>
  intro m h1 h2
  obtain⟨hx,hl⟩:=List.nodup_cons.1 h1
  have hm:x∈m:=h2 x (List.mem_cons_self ..)
  have:=ih (m:=m.erase x) hl fun y hy=>(List.mem_erase_of_ne (fun e=>hx (by rw [←e];exact hy))).2 (h2 y (List.mem_cons_of_mem _ hy))
  rw [List.length_erase_of_mem hm]at this
  have:=List.length_pos_of_mem hm
  rw [List.length_cons]
  omega
theorem firsts_len {κ:Type} (l:List κ):(firsts l).length≤l.length:=nodup_len (firsts_law l).1 fun x hx=>((firsts_law l).2 x).1 hx
noncomputable def selV (A:List Row) (kv:List Val):List Row:=A.filter fun r=>decide (r.vals=kv)
noncomputable def distP (A:List Row):List Row:=(firsts (A.map Row.vals)).map fun kv=>⟨kv,linS (selV A kv)⟩
def cntS (kind:Int) (m k:Nat):Nat:=if kind=7 then m - min m k else min m k
noncomputable def setRow (kind:Int) (A B:List Row) (kv:List Val):List Row:=List.replicate (cntS kind (selV A kv).length (selV B kv).length) ⟨kv,linS (selV A kv++selV B kv)⟩
noncomputable def setP (kind:Int) (A B:List Row):List Row:=(firsts (A.map Row.vals)).flatMap (setRow kind A B)
noncomputable def groupP (es:List ExprI) (keys:List Int) (aggs:List AggI) (A:List Row):List Row :=
 (if keys.length=0 then [[]]else firsts (A.map fun r=>projE es keys r.vals)).map fun kv=>gRowS (aggsE es aggs) kv (selS (projE es keys) A kv)
def scanP (db:List TabI) (name:ByteArray):List Row:=match db.find? (fun t=>decide (t.typ.name=name))with
 |some t=>t.rows
 |none=> []
theorem scanP_cons (t:TabI) (ts:List TabI) (nm:ByteArray):scanP (t::ts) nm=if t.typ.name=nm then t.rows else scanP ts nm:=by
 unfold scanP
 by_cases h:t.typ.name=nm
 ·rw [List.find?_cons_of_pos (by simp [h]),if_pos h]
 ·rw [List.find?_cons_of_neg (by simp [h]),if_neg h]
noncomputable def nodeP (es:List ExprI) (db:List TabI) (cols:List (List Int)) (done:List (List Row)) (x:NodeI):List Row :=
 if x.kind=1 then scanP db x.table
 else if x.kind=2 then(done.getD x.a.toNat []).filter fun r=>trE es x.pred r.vals
 else if x.kind=3 then(done.getD x.a.toNat []).map fun r=>⟨projE es x.exprs r.vals,r.lin⟩
 else if x.kind=4 then snapJoin (trE es x.pred) (done.getD x.a.toNat []) (done.getD x.b.toNat [])
 else if x.kind=5 then snapLeft (trE es x.pred) (cols.getD x.b.toNat []).length (done.getD x.a.toNat []) (done.getD x.b.toNat [])
 else if x.kind=6 then done.getD x.a.toNat []++done.getD x.b.toNat []
 else if x.kind=7∨x.kind=8 then setP x.kind (done.getD x.a.toNat []) (done.getD x.b.toNat [])
 else if x.kind=9 then distP (done.getD x.a.toNat [])
 else groupP es x.exprs x.aggs (done.getD x.a.toNat [])
noncomputable def evalUpto (q:QueryI) (db:List TabI) (cols:List (List Int)):Nat→List (List Row)×Int
 |0=>([],0)
 |i+1 =>
  if (evalUpto q db cols i).2≠0 then([],(evalUpto q db cols i).2)
  else if 4096<(nodeP q.exprs db cols (evalUpto q db cols i).1 q.nodes[i]!).length then([],12)
  else((evalUpto q db cols i).1 ++ [nodeP q.exprs db cols (evalUpto q db cols i).1 q.nodes[i]!],0)
noncomputable def evalQ (q:QueryI) (db:List TabI):List Row×Int :=
 if (columnsQ q (db.map TabI.typ)).2≠0 then([],(columnsQ q (db.map TabI.typ)).2)
 else if (evalUpto q db (columnsQ q (db.map TabI.typ)).1 q.nodes.length).2≠0 then([],(evalUpto q db (columnsQ q (db.map TabI.typ)).1 q.nodes.length).2)
 else(sortBy cmpRow ((evalUpto q db (columnsQ q (db.map TabI.typ)).1 q.nodes.length).1.getLastD []),0)
theorem evalUpto_len (q:QueryI) (db:List TabI) (cols:List (List Int)) (i:Nat) (h:(evalUpto q db cols i).2=0):(evalUpto q db cols i).1.length=i:=by
 induction i with
 |zero=>rfl
 |succ i ih =>
  unfold evalUpto at h ⊢
  repeat' split
  all_goals simp_all
theorem evalUpto_err (q:QueryI) (db:List TabI) (cols:List (List Int)) {i n:Nat} (h:i≤n) {e:Int} (he:e≠0) (hi:evalUpto q db cols i=([],e)):evalUpto q db cols n=([],e):=by
 induction n with
 |zero =>
  obtain rfl:i=0:=by omega
  exact hi
 |succ n ih =>
  by_cases c:i=n+1
  ·rw [←c];exact hi
  ·have h2:=ih (by omega)
   unfold evalUpto
   rw [h2,if_pos he]
theorem evalUpto_4096 (q:QueryI) (db:List TabI) (cols:List (List Int)) (i:Nat) : ∀l∈(evalUpto q db cols i).1,l.length≤4096:=by
 induction i with
 |zero=>intro l hl;simp [evalUpto]at hl
 |succ i ih =>
  intro l hl
  unfold evalUpto at hl
  by_cases c1:(evalUpto q db cols i).2≠0
  ·rw [if_pos c1]at hl;cases hl
  rw [if_neg c1]at hl
  by_cases c2:4096<(nodeP q.exprs db cols (evalUpto q db cols i).1 q.nodes[i]!).length
  ·rw [if_pos c2]at hl;cases hl
  rw [if_neg c2]at hl
  rcases List.mem_append.1 hl with hl | hl
  ·exact ih l hl
  ·rw [List.mem_singleton.1 hl];omega
theorem aggsC_kinds (es:List ExprI) (cols:List Int) : ∀(gs:List AggI) (acc:List Int) (mis:Bool),(aggsC es cols gs acc mis).2=0→ ∀g∈gs,1≤g.kind∧g.kind≤4:=by
 intro gs
 induction gs with
 |nil=>intro _ _ _ g hg;cases hg
 |cons a gs ih =>
  intro acc mis h g hg
  unfold aggsC at h
  by_cases c1:a.kind=1
  ·rw [if_pos c1]at h
   rcases List.mem_cons.1 hg with rfl | hg
   ·omega
   ·exact ih _ _ h g hg
  rw [if_neg c1]at h
  by_cases c2:a.kind<1∨4<a.kind
  ·rw [if_pos c2]at h;cases h
  rw [if_neg c2]at h
  by_cases c3:(checkE es cols a.arg).2≠0
  ·rw [if_pos c3]at h;exact absurd h c3
  rw [if_neg c3]at h
  by_cases c4:a.kind=2
  ·rw [if_pos c4]at h
   rcases List.mem_cons.1 hg with rfl | hg
   ·omega
   ·exact ih _ _ h g hg
  rw [if_neg c4]at h
  rcases List.mem_cons.1 hg with rfl | hg
  ·omega
  ·exact ih _ _ h g hg
theorem colsN_ok (es:List ExprI) (types:List TypI) (done:List (List Int)) (x:NodeI) (h:(colsN es types done x).2=0) :
  (1≤x.kind∧x.kind≤10)∧(x.kind≠1→legN done.length x.a=true)∧(binK x.kind=true→legN done.length x.b=true)∧(x.kind=10→ ∀g∈x.aggs,1≤g.kind∧g.kind≤4):=by
 unfold colsN at h
 by_cases c1:x.kind<1∨10<x.kind
 ·rw [if_pos c1]at h;cases h
 rw [if_neg c1]at h
 by_cases c2:x.kind=1
 ·refine⟨by omega,fun e=>absurd c2 e,fun e=> ?_,fun e=>by omega⟩
  unfold binK at e
  rw [c2]at e
  cases e
 rw [if_neg c2]at h
 by_cases c3:legN done.length x.a=false∨(binK x.kind=true∧legN done.length x.b=false)
 ·rw [if_pos c3]at h;cases h
 refine⟨by omega,fun _=> ?_,fun e=> ?_,fun e=> ?_⟩
 ·exact Bool.not_eq_false _ |>.mp fun e=>c3 (.inl e)
 ·exact Bool.not_eq_false _ |>.mp fun e2=>c3 (.inr ⟨e,e2⟩)
 ·rw [if_neg c3,if_neg (by omega),if_neg (by omega),if_neg (by omega),if_neg (by omega),if_pos e]at h
  unfold groupC at h
  by_cases c4:(exprsC es (inputC done x) x.exprs []).2≠0
  ·rw [if_pos c4]at h;exact absurd h c4
  rw [if_neg c4]at h
  exact aggsC_kinds _ _ _ _ _ h
theorem colsUpto_stop (q:QueryI) (types:List TypI) {i n:Nat} (h:i≤n) (hn:(colsUpto q types n).2=0):(colsUpto q types i).2=0:=by
 induction n with
 |zero =>
  obtain rfl:i=0:=by omega
  exact hn
 |succ n ih =>
  by_cases c:i=n+1
  ·rw [c];exact hn
  ·refine ih (by omega) ?_
   unfold colsUpto at hn
   by_cases c1:(colsUpto q types n).2≠0
   ·rw [if_pos c1]at hn;exact absurd hn c1
   ·exact Decidable.not_not.1 c1
theorem colsUpto_size (q:QueryI) (types:List TypI) (i:Nat) (h:(colsUpto q types i).2=0):(colsUpto q types i).1.length=i:=by
 induction i with
 |zero=>rfl
 |succ i ih =>
  unfold colsUpto at h ⊢
  repeat' split
  all_goals simp_all
theorem columnsQ_ok (q:QueryI) (types:List TypI) (h:(columnsQ q types).2=0):(columnsQ q types).1.length=q.nodes.length∧(0<q.nodes.length∧q.nodes.length≤40∧q.exprs.length≤200)∧ ∀i,i<q.nodes.length →
  (1≤q.nodes[i]!.kind∧q.nodes[i]!.kind≤10)∧(q.nodes[i]!.kind≠1→legN i q.nodes[i]!.a=true)∧(binK q.nodes[i]!.kind=true→legN i q.nodes[i]!.b=true)∧(q.nodes[i]!.kind=10→ ∀g∈q.nodes[i]!.aggs,1≤g.kind∧g.kind≤4):=by
 unfold columnsQ at h ⊢
 by_cases c:q.nodes.length=0∨40<q.nodes.length∨200<q.exprs.length
 ·rw [if_pos c]at h;cases h
 rw [if_neg c]at h ⊢
 refine⟨colsUpto_size q types _ h,by omega,fun i hi=> ?_⟩
 have h1:=colsUpto_stop q types (i:=i) (by omega) h
 have h2:=colsUpto_stop q types (i:=i+1) (by omega) h
 have h3:=colsUpto_size q types i h1
 unfold colsUpto at h2
 rw [if_neg (fun e=>e h1)]at h2
 by_cases c1:(colsN q.exprs types (colsUpto q types i).1 q.nodes[i]!).2≠0
 ·rw [if_pos c1]at h2;exact absurd h2 c1
 have:=colsN_ok _ _ _ _ (Decidable.not_not.1 c1)
 rwa [h3]at this
def PermAll:List (List Row)→List (List Row)→Prop
 |[],[]=>True
 |a::l,b::m=>a.Perm b∧PermAll l m
 |_,_=>False
end
end Go.Proofs.YtombmdaohcjokaaGreatDoor
namespace Go.Proofs.YtombmdaohcjokaaGreatDoor
open Go.RowKit
structure EvA (w:World) (E:Nat) (q:QueryI) (db:List TabI) (cols:List (List Int)) (vr:Value) (done:List (List Row)):Prop where
 nn : ∃v,w.cell? ⟨E,0,none⟩=some v∧SliceOf Rep.node (on w (avoid (fun b=>b≠E) vr)) v q.nodes
 ee : ∃v,w.cell? ⟨E,1,none⟩=some v∧SliceOf Rep.expr (on w (avoid (fun b=>b≠E) vr)) v q.exprs
 dd : ∃v,w.cell? ⟨E,2,none⟩=some v∧SliceOf Rep.tab (on w (avoid (fun b=>b≠E) vr)) v db
 cc : ∃v,w.cell? ⟨E,3,none⟩=some v∧SliceOf (Rep.slice Rep.int) (on w (avoid (fun b=>b≠E) vr)) v cols
 rr:w.cell? ⟨E,4,none⟩=some vr
 ff:w.frozen? ⟨E,4,none⟩=false
 own:OwnOf (Rep.slice Rep.row) w (fun b=>b≠E) (E+1) 40 vr done
theorem EvA.ext {w w':World} {E:Nat} {q:QueryI} {db:List TabI} {cols:List (List Int)} {vr:Value} {done:List (List Row)} (h:EvA w E q db cols vr done) (hx:Ext w w'):EvA w' E q db cols vr done:=by
 obtain⟨⟨v1,a1,b1⟩,⟨v2,a2,b2⟩,⟨v3,a3,b3⟩,⟨v4,a4,b4⟩,h4,h5,h6⟩:=h
 exact⟨⟨v1,hx.at a1,b1.ext (hx.sub _)⟩,⟨v2,hx.at a2,b2.ext (hx.sub _)⟩,⟨v3,hx.at a3,b3.ext (hx.sub _)⟩,⟨v4,hx.at a4,b4.ext (hx.sub _)⟩,hx.at h4,hx.unfrozen h4 h5,h6.ext hx⟩
theorem EvA.newT {w:World} {E:Nat} {q:QueryI} {db:List TabI} {cols:List (List Int)} {vr:Value} {done:List (List Row)} (h:EvA w E q db cols vr done) : ∀k,w.heap.size≤k→avoid (fun b=>b≠E) vr k:=fun k hk =>
 ⟨fun e=>by have:=(h.own.lt k e.symm).2;omega,fun e=>by have h1:=cell_lt h.rr;omega⟩
theorem EvA.row {w:World} {E:Nat} {q:QueryI} {db:List TabI} {cols:List (List Int)} {vr:Value} {done:List (List Row)} (h:EvA w E q db cols vr done) {i:Nat} (hi:i<done.length) :
  ∃g cap p n c,vr = .slice (some ⟨g,0,none⟩) done.length cap∧w.cell? ⟨g,i,none⟩=some (.slice p n c)∧n=(done.getD i []).length∧(0<n→ ∃b o,p=some ⟨b,o,none⟩)∧SliceOf Rep.row (on w (avoid (fun b=>b≠E) vr)) (.slice p n c) (done.getD i []):=by
 obtain⟨g,cap,u,h1,h2,h3⟩:=own_row h.own i hi
 rw [List.getD_eq_getElem?_getD,List.getElem?_eq_getElem hi,Option.getD_some]
 obtain⟨p,c,rfl,_,_,hp⟩:=h3.form
 exact⟨g,cap,p,_,c,h1,h2,rfl,fun h=>hp (by decide) h,h3⟩
def fitE (r:Row):Prop:=r.vals.length≤1000∧(∀x∈r.vals,x.s.size≤1048576)∧r.lin.length≤1000
theorem same_row {g g' cap cap' n:Nat} (h:(Value.slice (some ⟨g,0,none⟩) n cap) = .slice (some ⟨g',0,none⟩) n cap'):g=g'∧cap=cap':=by
 injection h with e2 _ e4
 injection e2 with e2
 injection e2 with e2
 exact⟨e2,e4⟩
end Go.Proofs.YtombmdaohcjokaaGreatDoor
namespace Go.Proofs.YtombmdaohcjokaaGreatDoor
open Go.RowKit
def updF {α:Type} (f:Nat→α) (i:Nat) (v:α):Nat→α:=fun j=>if j=i then v else f j
theorem updF_same {α:Type} (f:Nat→α) (i:Nat) (v:α):updF f i v i=v:=if_pos rfl
theorem updF_other {α:Type} (f:Nat→α) {i j:Nat} (v:α) (h:j≠i):updF f i v j=f j:=if_neg h
theorem OwnOf.set {α:Type} {R:Rep α} {w:World} {S:Nat→Prop} {base:Nat} {e:TypeId} {v:Value} {xs:List α} (h:OwnOf R w S base e v xs) {p:Addr} (u:Value) (hp:p.block<base) (hS : ¬S p.block):OwnOf R (w.setCell p u) S base e v xs:=by
 have hb:=h.base
 obtain⟨css,h1,h2⟩:=h
 exact⟨css,h1.ext (set_sub w p u fun hh=>hS hh.2),(chg_set w p u).own h2 fun k hk e=>by have:=hb k hk;omega⟩
structure Fam {α:Type} (R:Rep α) (w:World) (S:Nat→Prop) (base:Nat) (e:TypeId) (n:Nat) (f:Nat→Value) (xs:Nat→List α):Prop where
 own : ∀i,i<n→OwnOf R w S base e (f i) (xs i)
 ap : ∀i j,i<n→j<n→i≠j→Apart (f i) (f j)
section
variable {α:Type} {R:Rep α} {w w':World} {S:Nat→Prop} {base:Nat} {e:TypeId} {n:Nat} {f:Nat→Value} {xs:Nat→List α}
theorem Fam.ext (h:Fam R w S base e n f xs) (hx:Ext w w'):Fam R w' S base e n f xs:=⟨fun i hi=>(h.own i hi).ext hx,h.ap⟩
theorem Fam.set (h:Fam R w S base e n f xs) {p:Addr} (u:Value) (hp:p.block<base) (hS : ¬S p.block):Fam R (w.setCell p u) S base e n f xs:=⟨fun i hi=>(h.own i hi).set u hp hS,h.ap⟩
end
def Off (f:Nat→Value) (n pb:Nat) (k:Nat):Prop:=k≠pb∧ ∀i,i<n→(f i).ownBlock≠some k
end Go.Proofs.YtombmdaohcjokaaGreatDoor
namespace Go.Proofs.YtombmdaohcjokaaGreatDoor
open Go.RowKit
structure MInv (w:World) (pb n base:Nat) (T1 T2:TypeId) (f:Nat→Value) (u:Value) (js:List Tup) (ps:Nat→List Per):Prop where
 fam:Fam Rep.per w (fun _=>False) base T1 n f ps
 out:OwnOf Rep.tup w (Off f n pb) base T2 u js
 cell : ∀i,i<n→w.cell? ⟨pb,i,none⟩=some (f i)
 free : ∀i,i<n→w.frozen? ⟨pb,i,none⟩=false
 ap : ∀i,i<n→Apart u (f i)
 lo:pb<base
 hi:base≤w.heap.size
section
variable {w w':World} {pb n base:Nat} {T1 T2:TypeId} {f:Nat→Value} {u:Value} {js:List Tup} {ps:Nat→List Per}
theorem rep_fam {α:Type} {R:Rep α} {h:View} {f:Nat→Value} {xs:Nat→List α} (n:Nat) (k : ∀i,i<n→SliceOf R h (f i) (xs i)):RepAll (Rep.slice R) h ((List.range n).map fun i=> [f i]) ((List.range n).map xs):=by
 induction n with
 |zero=>trivial
 |succ n ih =>
  rw [List.range_succ,List.map_append,List.map_append]
  exact(ih fun i hi=>k i (by omega)).append (RepAll.one ⟨_,rfl,k n (by omega)⟩)
theorem flat_sing {α β:Type} (f:α→β) (l:List α):l.flatMap (fun i=> [f i])=l.map f:=by
 induction l with
 |nil=>rfl
 |cons x l ih=>rw [List.flatMap_cons,ih];rfl
end
def joinUpto (tr:List Val→Bool) (a b:List Tup) (L:List Pair) (k:Nat):List Tup:=((L.take k).map (pairT a b)).filter fun t=>tr t.vals
def partUpto (tr:List Val→Bool) (a b:List Tup) (L:List Pair) (k i:Nat):List Per:=((L.take k).filter fun p=>decide (p.a=i)&&tr (pairT a b p).vals).map fun p=>⟨p.from_,p.to_⟩
end Go.Proofs.YtombmdaohcjokaaGreatDoor
namespace Go.Proofs
open Go.Shelf
def Tryz.growVal_ren:Go.Shelf.Ren:=⟨fun | 4=>140 | n=>n,fun | 22=>56 | 25=>61 | 3=>3 | 4=>4 | 9=>9 | 20=>20 | 0=>0 | n=>n,fun | n=>n⟩
theorem Tryz.growVal:Go.Proofs.Lays8.n4 Tryz.prog Tryz.growVal_ren:= {
 mixed:=by kernel_rfl
 f4:=⟨Tryz.f140.name,by decide,Tryz.func140.trans (congrArg some (by kernel_rfl))⟩
 t0:=Tryz.underlying0
 a0:=Tryz.isAgg0
 z0:=Tryz.sizeOf0
 v0:=Tryz.zeroValue0
 t3:=Tryz.underlying3
 a3:=Tryz.isAgg3
 z3:=Tryz.sizeOf3
 v3:=Tryz.zeroValue3
 t4:=Tryz.underlying4
 a4:=Tryz.isAgg4
 z4:=Tryz.sizeOf4
 v4:=Tryz.zeroValue4
 t9:=Tryz.underlying9
 a9:=Tryz.isAgg9
 z9:=Tryz.sizeOf9
 v9:=Tryz.zeroValue9
 t20:=Tryz.underlying20
 a20:=Tryz.isAgg20
 z20:=Tryz.sizeOf20
 v20:=Tryz.zeroValue20
 t22:=Tryz.underlying56
 a22:=Tryz.isAgg56
 z22:=Tryz.sizeOf56
 v22:=Tryz.zeroValue56 }
def Tryz.growTup_ren:Go.Shelf.Ren:=⟨fun | 4=>189 | n=>n,fun | 22=>85 | 25=>125 | 3=>3 | 4=>4 | 9=>9 | 20=>20 | 0=>0 | n=>n,fun | n=>n⟩
end Go.Proofs
namespace Go.Proofs.YtombmdaohcjokaaGreatDoor
open Go.RowKit Go.Shelf
theorem grow_val (S:Nat→Prop) (n:Nat) (w:World) (hn:n≤1099511627776):Calls Tryz.prog 140 #[.slice none 0 0,.int .i64 n] w fun e w'=> ∃v',e = .returned v'∧OwnOf Rep.val w' S w.heap.size 61 v' []∧Ext w w':=by
 obtain⟨i0,hi,hz0,hz1,hz2⟩:=info_parts info_val
 by_cases h0:n=0
 ·subst h0
  refine(Any8.slices_Grow_room Tryz.growVal none 0 0 0 w (Nat.le_refl _) (by omega) (by omega) (by omega)).mono ?_
  rintro e w' ⟨rfl,rfl⟩
  exact⟨_,rfl,OwnOf.nil _ _ _ _ _,Ext.refl _⟩
 ·refine(Any8.slices_Grow_grow Tryz.growVal i0 _ hi hz0 (by rw [hz1];decide) none 0 0 n [] w (Nat.le_refl _) (by omega) (by rw [hz2];omega) (by omega) (by simp) (fun _=>rfl) (fun a h=>by cases h)).mono ?_
  rintro e w' ⟨rfl,rfl⟩
  have hg:=grownCap_ge w (0+n) 0 (Tryz.growVal_ren.t 25)
  have hg2:=grownCap_le_maxLen w (0+n) 0 (Tryz.growVal_ren.t 25) (by unfold maxLen;omega)
  refine⟨_,rfl,⟨[],trivial,?_⟩,(Ext.refl w).drew.alloc _⟩
  refine World.ownsRow_made w.drew _ _ (Nat.le_refl _) hg2 ?_
  generalize grownCap w (0+n) 0 (Tryz.growVal_ren.t 25)=cap at hg
  rw [show Rep.val.size=3 from rfl]
  simp [size_zeroCells,Value.cells]
  omega
set_option maxHeartbeats 2000000 in
theorem concat_val (v:Value) (ls:List (List Val)) (w:World) (hv:SliceOf (Rep.slice Rep.val) w.cell? v ls) (hbig:ls.flatten.length≤1099511627776) :
  Calls Tryz.prog 89 #[v] w fun e w'=> ∃v',e = .returned v'∧OwnOf Rep.val w' (fun _=>True) w.heap.size 61 v' ls.flatten∧Ext w w':=by
 obtain⟨i0,hi,hz0,hz1,hz2⟩:=info_parts info_val
 obtain⟨pa,ca,rfl,ha1,ha2,ha3⟩:=hv.form
 have HV:=Lib.hid hv
 unfold maxLen at ha2
 go_enter Tryz.func89,Tryz.ntmps89
 go_wp2_with fail
 go_loopg [3,11] ls.length (fun gk n i wr=> ∃k m:Nat,k≤ls.length∧gk=ls.length - k∧i = .int .i64 k∧n = .int .i64 m∧m=(ls.take k).flatten.length∧w=wr)
 case atStart=>exact⟨0,0,by omega,rfl,rfl,rfl,by simp,rfl⟩
 case round =>
  obtain⟨k,m,hk,rfl,rfl,rfl,hm,rfl⟩:=hrel
  have hle:=flatten_take_le ls k
  by_cases hlt:k<ls.length
  ·obtain⟨ba,oa,rfl⟩:=ha3 (by decide) (by omega)
   obtain⟨u,c1,s1⟩:=slice_at hv k hlt
   have ht:=flatten_take ls k hlt
   have hle2:=flatten_take_le ls (k+1)
   obtain⟨p1,q1,rfl,hq1,hq2,_⟩:=s1.form
   have hml:(ls.take (k+1)).flatten.length=m+ls[k].length:=by rw [ht,List.length_append,hm]
   rw [hml]at hle2
   rw [←hm]at hle
   generalize ls[k].length=n1 at hml hle2 hq1 c1 s1
   have HL:=Lib.hid hml
   have HM:=Lib.hid hm
   unfold maxLen at hq2
   have hd:decide ((k:Int)<(ls.length:Int))=true:=by simp;omega
   have hd1:(k:Int)<(ls.length:Int):=by omega
   have hd2:decide ((m:Int)+(n1:Int)<0)=false:=by simp;omega
   clear s1 ht hml hm hv ha3
   go_wp2_with fail
   go_roundg (ls.length - (k+1))
   case measure=>omega
   case rel=>exact⟨k+1,m+n1,by omega,rfl,by go_num,by go_num,HL.out.symm,rfl⟩
  ·have:k=ls.length:=by omega
   subst this
   rw [List.take_length]at hm
   have hmb:m≤1099511627776:=by rw [hm];exact hbig
   clear hv hle hm
   have HB:=Lib.hid hbig
   clear hbig
   go_wp2_with fail
   refine(grow_val (fun _=>True) m _ hmb).mono ?_
   rintro e w1 ⟨v1,rfl,hown,hx⟩
   have HO:=Lib.hid hown
   clear hown
   go_wp2_with fail
   go_loopg [6,27] ls.length (fun gk v i wr=> ∃k:Nat,k≤ls.length∧gk=ls.length - k∧i = .int .i64 k∧OwnOf Rep.val wr (fun _=>True) w.heap.size 61 v (ls.take k).flatten∧Ext w wr)
   case atStart=>exact⟨0,by omega,rfl,rfl,by simpa using HO.out,hx⟩
   case round =>
    clear HO hx
    obtain⟨k,hk,rfl,rfl,hown,hx⟩:=hrel
    by_cases hlt:k<ls.length
    ·obtain⟨ba,oa,rfl⟩:=ha3 (by decide) (by omega)
     obtain⟨u,c1,s1⟩:=slice_at HV.out k hlt
     have ht:=flatten_take ls k hlt
     have hle2:=flatten_take_le ls (k+1)
     have HO:=Lib.hid hown
     have hbg:=Nat.le_trans hle2 HB.out
     rw [ht,List.length_append]at hbg
     have hsub : ∀v',OwnOf Rep.val wr (fun _=>True) w.heap.size 61 v' (ls.take k).flatten→Sub w.cell? (on wr (avoid (fun _=>True) v')):=fun v' ho p u e=>by
      have hlt2:=World.block_lt_of_cell? w p e
      refine on_some.2 ⟨⟨fun he=> ?_,trivial⟩,hx.at e⟩
      have:=(ho.lt _ he.symm).1
      omega
     replace s1:=s1.ext (hsub _ hown)
     replace c1:=hx.at c1
     generalize ls[k]=x at s1 ht hbg
     have HT:=Lib.hid ht
     have HG:=Lib.hid hbg
     have S1:=Lib.hid s1
     obtain⟨p1,q1,rfl,hq1,hq2,_⟩:=s1.form
     have hd:decide ((k:Int)<(ls.length:Int))=true:=by simp;omega
     have hd1:(k:Int)<(ls.length:Int):=by omega
     clear s1 ht hbg hown ha3 hle2 hsub
     go_wp2_with (at_builtin;refine wpList_append_all Rep.val (fun _=>True) rfl _ _ 56 rfl w.heap.size 61 i0 _ 32 Tryz.underlying56 hi hz0 hz1 hz2 rfl (by decide) _ (ls.take k).flatten rfl HO.out _ x rfl S1.out ?c1 ?c2 ?c3 ?_)
     case c1=>have:=HG.out;unfold maxLen;omega
     case c2=>have:=HG.out;omega
     case c3=>exact hx.size
     intro v' w3 hown3 hgr _
     go_wp2_with fail
     go_roundg (ls.length - (k+1))
     case measure=>omega
     case rel=>exact⟨k+1,by omega,rfl,by go_num,by rw [HT.out];exact hown3,Below.grown hx hgr hx.size (fun j hj=>(HO.out.lt j hj).1)⟩
    ·have:k=ls.length:=by omega
     subst this
     rw [List.take_length]at hown
     have HO:=Lib.hid hown
     clear hown ha3
     go_wp2_with fail
     go_ret
     exact⟨_,rfl,HO.out,hx⟩
end Go.Proofs.YtombmdaohcjokaaGreatDoor
namespace Go.Proofs.YtombmdaohcjokaaGreatDoor
open Go.RowKit
end Go.Proofs.YtombmdaohcjokaaGreatDoor
namespace Go.Proofs.YtombmdaohcjokaaGreatDoor
open Go.RowKit
theorem Ext.ofDrew {w w':World} (h:Ext w w'):Ext w.drew w':=⟨h.os,h.tape,h.output,h.size,h.block⟩
theorem frozen_grown {w w':World} {row:Option Nat} {b o:Nat} {v:Value} (gr:w.grownBy w' row) (hc:w.cell? ⟨b,o,none⟩=some v) (hf:w.frozen? ⟨b,o,none⟩=false) (hne : ∀k,row=some k→k≠b):w'.frozen? ⟨b,o,none⟩=false :=
 (World.frozen?_of_block (w:=w) (gr.block b (cell_lt hc) (fun e=>hne b e.symm rfl))).trans hf
structure TupBox (w0 W:World) (nb:Nat) (u0 u3:Value) (f t:Int) (vs:List Val) (ls:List Int):Prop where
 c0:W.cell? ⟨nb,0,none⟩=some u0
 c1:W.cell? ⟨nb,1,none⟩=some (.int .i64 f)
 c2:W.cell? ⟨nb,2,none⟩=some (.int .i64 t)
 c3:W.cell? ⟨nb,3,none⟩=some u3
 sv:SliceOf Rep.val (on W (fun k=>k≠nb∧w0.heap.size≤k)) u0 vs
 sl:SliceOf Rep.int (on W (fun k=>k≠nb∧w0.heap.size≤k)) u3 ls
 ext:Ext w0 W
 lo:w0.heap.size≤nb
section
variable {w0 w1 w4:World} {u0 u3:Value} {f t:Int} {vs:List Val} {ls:List Int} {z0 z1 z2 z3:Value} {T:TypeId}
end
end Go.Proofs.YtombmdaohcjokaaGreatDoor
namespace Go.Proofs.YtombmdaohcjokaaGreatDoor
open Go.RowKit Go.Maps
theorem keyG_all {a b:List Val} (h:keyG a=keyG b):a=b:=by
 unfold keyG at h
 injection h with h
 exact keyVals_all h
def Rep.sl:Rep Value where
 size:=1
 holds _ cs x:=cs = [x]∧ ∃p n c,x = .slice p n c
 len:=by rintro w cs x ⟨rfl,_⟩;rfl
 ext:=by rintro w w' cs x h _;exact h
 one:=by
  rintro w cs x ⟨rfl,p,n,c,rfl⟩
  simp [Value.oneCell']
theorem all_sl {h:View} {css:List (List Value)} {xs:List Value} (k:RepAll Rep.sl h css xs):css.flatten=xs∧ ∀x∈xs,∃p n c,x = .slice p n c:=by
 induction css generalizing xs with
 |nil=>cases xs with
  |nil=>exact⟨rfl,fun x hx=>by cases hx⟩
  |cons x xs=>exact k.elim
 |cons c css ih=>cases xs with
  |nil=>exact k.elim
  |cons x xs =>
   obtain⟨⟨h1,h2⟩,h3⟩:=k
   obtain⟨h4,h5⟩:=ih h3
   refine⟨by rw [List.flatten_cons,h4,h1];rfl,fun y hy=> ?_⟩
   rcases List.mem_cons.1 hy with rfl | hy
   ·exact h2
   ·exact h5 y hy
theorem sl_all {h:View} {xs:List Value} (k : ∀x∈xs,∃p n c,x = .slice p n c):RepAll Rep.sl h (xs.map fun x=> [x]) xs:=by
 induction xs with
 |nil=>trivial
 |cons x xs ih=>exact⟨⟨rfl,k x (List.mem_cons_self ..)⟩,ih fun y hy=>k y (List.mem_cons_of_mem _ hy)⟩
theorem sl_at {w:World} {S:Nat→Prop} {base:Nat} {e:TypeId} {g n cap:Nat} {xs:List Value} (h:OwnOf Rep.sl w S base e (.slice (some ⟨g,0,none⟩) n cap) xs) (i:Nat) (hi:i<xs.length):w.cell? ⟨g,i,none⟩=some xs[i]∧w.frozen? ⟨g,i,none⟩=false:=by
 obtain⟨css,h1,h2⟩:=h
 have hn:n=xs.length:=by
  rcases h2.2 with ⟨e,_⟩ | ⟨_,_,_,e,_⟩
  ·cases e
  ·injection e
 subst hn
 have hc:=h2.cells (g:=g) rfl i xs[i] (by rw [(all_sl h1).1,List.getElem?_eq_getElem hi])
 rw [add_lit,Nat.zero_add]at hc
 exact⟨hc,h2.frozenAt i⟩
theorem sl_set {w:World} {S:Nat→Prop} {base:Nat} {e:TypeId} {g n cap:Nat} {xs:List Value} (h:OwnOf Rep.sl w S base e (.slice (some ⟨g,0,none⟩) n cap) xs) (i:Nat) {u:Value} (hu : ∃p n c,u = .slice p n c):OwnOf Rep.sl (w.setCell ⟨g,i,none⟩ u) S base e (.slice (some ⟨g,0,none⟩) n cap) (xs.set i u):=by
 obtain⟨css,h1,h2⟩:=h
 have hn:n=xs.length:=by
  rcases h2.2 with ⟨e,_⟩ | ⟨_,_,_,e,_⟩
  ·cases e
  ·injection e
 subst hn
 obtain⟨h3,h4⟩:=all_sl h1
 have h5 : ∀x∈xs.set i u,∃p n c,x = .slice p n c:=fun x hx=>by
  rcases List.mem_or_eq_of_mem_set hx with hx | rfl
  ·exact h4 x hx
  ·exact hu
 refine⟨_,sl_all h5,?_⟩
 have:=(h2.stored i u).1
 rw [h3]at this
 rw [←List.flatMap_def,flat_sing,List.map_id',List.length_set]
 exact this
section
variable (C mb:Nat) (vv rv:Value) (n:Nat) (f:Nat→Value)
def InC (k:Nat):Prop:=k=C∨k=mb∨vv.ownBlock=some k∨rv.ownBlock=some k∨ ∃i,i<n∧(f i).ownBlock=some k
def OutC (T:Nat→Prop) (k:Nat):Prop:=T k∧ ¬InC C mb vv rv n f k
end
def ShI (v:Value):Prop:= ∃i:Int,v = .int .i64 i
def IdxOk (m:Lit→Option Value) (ks:List (List Val)):Prop:=(∀(i:Nat) (h:i<ks.length),m (keyG ks[i])=some (.int .i64 i))∧ ∀kv,kv∉ks→m (keyG kv)=none
theorem IdxOk.nil:IdxOk (fun _=>none) []:=⟨fun i h=>absurd h (Nat.not_lt_zero i),fun _ _=>rfl⟩
theorem IdxOk.step {m:Lit→Option Value} {ks:List (List Val)} {kv:List Val} (h:IdxOk m ks) (hn:kv∉ks):IdxOk (putV m (keyG kv) (.int .i64 (ks.length:Nat))) (ks ++ [kv]):=by
 refine⟨fun i hi=> ?_,fun z hz=> ?_⟩
 ·by_cases c:i<ks.length
  ·rw [List.getElem_append_left c,putV_other]
   ·exact h.1 i c
   ·exact fun e=>hn (by rw [←keyG_all e];exact List.getElem_mem c)
  ·have e:i=ks.length:=by rw [List.length_append,List.length_singleton]at hi;omega
   subst e
   rw [List.getElem_append_right (Nat.le_refl _)]
   simp only [Nat.sub_self,List.getElem_cons_zero]
   exact putV_same _ _ _
 ·rw [putV_other]
  ·exact h.2 z fun e=>hz (List.mem_append_left _ e)
  ·exact fun e=>hz (by rw [keyG_all e];simp)
structure Cls (w:World) (T:Nat→Prop) (base C mb:Nat) (cv cr vv rv:Value) (n:Nat) (f:Nat→Value) (ix ks:List (List Val)) (gs:Nat→List Row):Prop where
 c0:w.cell? ⟨C,0,none⟩=some (.map (some mb))
 c1:w.cell? ⟨C,1,none⟩=some cv
 c2:w.cell? ⟨C,2,none⟩=some cr
 f1:w.frozen? ⟨C,1,none⟩=false
 f2:w.frozen? ⟨C,2,none⟩=false
 mp : ∃m,MapV w Tryz.prog 9 ShI mb ix.length m∧IdxOk m ix
 vals:OwnOf (Rep.slice Rep.val) w (OutC C mb vv rv n f T) base 56 vv ks
 rows:OwnOf Rep.sl w (fun _=>False) base 40 rv ((List.range n).map f)
 fam:Fam Rep.row w (OutC C mb vv rv n f T) base 58 n f gs
 ap:Apart vv rv
 apv : ∀i,i<n→Apart vv (f i)
 apr : ∀i,i<n→Apart rv (f i)
 lo:C<base∧mb<base∧C≠mb
 hi:base≤w.heap.size
section
variable {w w':World} {T:Nat→Prop} {base C mb:Nat} {cv cr vv rv:Value} {n:Nat} {f:Nat→Value} {ix ks:List (List Val)} {gs:Nat→List Row}
theorem own_regrow {α:Type} {R:Rep α} {row:Option Nat} {S T:Nat→Prop} {e:TypeId} {v:Value} {xs:List α} (h:OwnOf R w S base e v xs) (gr:w.grownBy w' row) (hS : ∀k,k<w.heap.size→S k→row≠some k∧T k) (hv : ∀k,v.ownBlock=some k→row≠some k):OwnOf R w' T base e v xs:=by
 have h1:OwnOf R w (fun k=>row≠some k∧T k) base e v xs:=h.weak (fun k hk hs=>hS k hk hs) (Nat.le_refl _)
 exact(own_grown h1 gr (fun k hk=>hk.1) hv).weak (fun k _ hk=>hk.2) (Nat.le_refl _)
theorem Cls.ext (h:Cls w T base C mb cv cr vv rv n f ix ks gs) (hx:Ext w w'):Cls w' T base C mb cv cr vv rv n f ix ks gs:=by
 obtain⟨m,m1,m2⟩:=h.mp
 exact⟨hx.at h.c0,hx.at h.c1,hx.at h.c2,hx.unfrozen h.c1 h.f1,hx.unfrozen h.c2 h.f2,⟨m,m1.kept (Ext.grows hx) (by simp),m2⟩,h.vals.ext hx,h.rows.ext hx,h.fam.ext hx,h.ap,h.apv,h.apr,h.lo,Nat.le_trans h.hi hx.size⟩
theorem Cls.lt (h:Cls w T base C mb cv cr vv rv n f ix ks gs) : ∀k,InC C mb vv rv n f k→k<w.heap.size:=by
 rintro k (rfl | rfl | e | e | ⟨i,hi,e⟩)
 ·exact cell_lt h.c0
 ·obtain⟨m,m1,_⟩:=h.mp
  exact m1.lt
 ·exact(h.vals.lt k e).2
 ·exact(h.rows.lt k e).2
 ·exact((h.fam.own i hi).lt k e).2
theorem Cls.index (h:Cls w T base C mb cv cr vv rv n f ix ks gs) {ix':List (List Val)} {m:Lit→Option Value} (hm:MapV w' Tryz.prog 9 ShI mb ix'.length m) (hi:IdxOk m ix') (gr:w.grownBy w' (some mb)):Cls w' T base C mb cv cr vv rv n f ix' ks gs:=by
 have h1:=h.lo
 have hne : ∀k,(some mb:Option Nat)=some k→k≠C:=fun k e e2=>h1.2.2 (by rw [←e2];exact(Option.some.inj e).symm)
 have hb : ∀k,base≤k→(some mb:Option Nat)≠some k:=fun k hk e=>by have:=Option.some.inj e;omega
 have hS : ∀k,k<w.heap.size→OutC C mb vv rv n f T k→(some mb:Option Nat)≠some k∧OutC C mb vv rv n f T k:=fun k _ hk=>⟨fun e=>hk.2 (.inr (.inl (Option.some.inj e).symm)),hk⟩
 exact⟨cell_grown gr h.c0 hne,cell_grown gr h.c1 hne,cell_grown gr h.c2 hne,frozen_grown gr h.c1 h.f1 hne,frozen_grown gr h.c2 h.f2 hne,⟨m,hm,hi⟩,
  own_regrow h.vals gr hS (fun k hk=>hb k (h.vals.base k hk)),own_grown h.rows gr (fun k hk=>hk.elim) (fun k hk=>hb k (h.rows.base k hk)),
  ⟨fun i hi=>own_regrow (h.fam.own i hi) gr hS (fun k hk=>hb k ((h.fam.own i hi).base k hk)),h.fam.ap⟩,h.ap,h.apv,h.apr,h.lo,Nat.le_trans h.hi gr.size⟩
theorem out_v {g a b:Nat} (hg:vv.ownBlock=some g∨g=w.heap.size) : ∀k,k<w.heap.size→ ¬InC C mb vv rv n f k→ ¬InC C mb (.slice (some ⟨g,0,none⟩) a b) rv n f k:=by
 rintro k hk hn (e | e | e | e | e)
 ·exact hn (.inl e)
 ·exact hn (.inr (.inl e))
 ·have e:g=k:=Option.some.inj e
  rcases hg with hg | hg
  ·exact hn (.inr (.inr (.inl (by rw [hg,e]))))
  ·omega
 ·exact hn (.inr (.inr (.inr (.inl e))))
 ·exact hn (.inr (.inr (.inr (.inr e))))
theorem Cls.pushV (h:Cls w T base C mb cv cr vv rv n f ix ks gs) {g a b:Nat} {ks':List (List Val)} (own:OwnOf (Rep.slice Rep.val) w' (fun k=>k<w.heap.size∧OutC C mb vv rv n f T k) base 56 (.slice (some ⟨g,0,none⟩) a b) ks') (gr:w.grownBy w' vv.ownBlock) (hg:vv.ownBlock=some g∨g=w.heap.size) :
  Cls w' T base C mb cv cr (.slice (some ⟨g,0,none⟩) a b) rv n f ix ks' gs:=by
 have h1:=h.lo
 have hb : ∀k,vv.ownBlock=some k→base≤k:=fun k hk=>h.vals.base k hk
 have hne : ∀k,vv.ownBlock=some k→k≠C:=fun k e e2=>by have:=hb k e;omega
 have hout:=out_v (C:=C) (mb:=mb) (rv:=rv) (n:=n) (f:=f) (a:=a) (b:=b) hg
 have hS : ∀k,k<w.heap.size→OutC C mb vv rv n f T k→vv.ownBlock≠some k∧OutC C mb (.slice (some ⟨g,0,none⟩) a b) rv n f T k:=fun k hk hn=>⟨fun e=>hn.2 (.inr (.inr (.inl e))),hn.1,hout k hk hn.2⟩
 obtain⟨m,m1,m2⟩:=h.mp
 exact⟨cell_grown gr h.c0 hne,cell_grown gr h.c1 hne,cell_grown gr h.c2 hne,frozen_grown gr h.c1 h.f1 hne,frozen_grown gr h.c2 h.f2 hne,⟨m,m1.kept gr (fun e=>by have:=hb mb e.symm;omega),m2⟩,
  own.weak (fun k _ hk=>⟨hk.2.1,hout k hk.1 hk.2.2⟩) (Nat.le_refl _),own_grown h.rows gr (fun k hk=>hk.elim) (fun k hk e=>h.ap k e hk),
  ⟨fun i hi=>own_regrow (h.fam.own i hi) gr hS (fun k hk e=>h.apv i hi k e hk),h.fam.ap⟩,
  (h.ap.symm.grow (fun k hk=>(h.rows.lt k hk).2) hg).symm,fun i hi=>((h.apv i hi).symm.grow (fun k hk=>((h.fam.own i hi).lt k hk).2) hg).symm,h.apr,h.lo,Nat.le_trans h.hi gr.size⟩
theorem Cls.setV (h:Cls w T base C mb cv cr vv rv n f ix ks gs) (v:Value):Cls (w.setCell ⟨C,1,none⟩ v) T base C mb v cr vv rv n f ix ks gs:=by
 obtain⟨m,m1,m2⟩:=h.mp
 have gr:w.grownBy (w.setCell ⟨C,1,none⟩ v) (some C):=⟨rfl,rfl,rfl,by simp [World.setCell],fun k _ hk=>Below.heap_setCell _ _ _ _ (fun e=>hk (by rw [e]))⟩
 exact⟨cell_far h.c0 (by decide),World.cell?_setCell_same' _ _ _ (by rw [h.c1];rfl),cell_far h.c2 (by decide),(frozen_set _ _ _ _).trans h.f1,(frozen_set _ _ _ _).trans h.f2,⟨m,m1.kept gr (fun e=>h.lo.2.2 (Option.some.inj e).symm),m2⟩,
  h.vals.set _ h.lo.1 (fun hn=>hn.2 (.inl rfl)),h.rows.set _ h.lo.1 (fun hn=>hn),h.fam.set _ h.lo.1 (fun hn=>hn.2 (.inl rfl)),h.ap,h.apv,h.apr,h.lo,Nat.le_trans h.hi (chg_set w _ _).size⟩
theorem Cls.setR (h:Cls w T base C mb cv cr vv rv n f ix ks gs) (v:Value):Cls (w.setCell ⟨C,2,none⟩ v) T base C mb cv v vv rv n f ix ks gs:=by
 obtain⟨m,m1,m2⟩:=h.mp
 have gr:w.grownBy (w.setCell ⟨C,2,none⟩ v) (some C):=⟨rfl,rfl,rfl,by simp [World.setCell],fun k _ hk=>Below.heap_setCell _ _ _ _ (fun e=>hk (by rw [e]))⟩
 exact⟨cell_far h.c0 (by decide),cell_far h.c1 (by decide),World.cell?_setCell_same' _ _ _ (by rw [h.c2];rfl),(frozen_set _ _ _ _).trans h.f1,(frozen_set _ _ _ _).trans h.f2,⟨m,m1.kept gr (fun e=>h.lo.2.2 (Option.some.inj e).symm),m2⟩,
  h.vals.set _ h.lo.1 (fun hn=>hn.2 (.inl rfl)),h.rows.set _ h.lo.1 (fun hn=>hn),h.fam.set _ h.lo.1 (fun hn=>hn.2 (.inl rfl)),h.ap,h.apv,h.apr,h.lo,Nat.le_trans h.hi (chg_set w _ _).size⟩
theorem map_updF {α:Type} (f:Nat→α) (n:Nat) (v:α):(List.range (n+1)).map (updF f n v)=(List.range n).map f ++ [v]:=by
 rw [List.range_succ,List.map_append]
 congr 1
 ·refine List.map_congr_left fun i hi=>updF_other f v ?_
  have:=List.mem_range.1 hi
  omega
 ·simp [updF_same]
theorem map_set {α:Type} (f:Nat→α) (n i:Nat) (v:α):((List.range n).map f).set i v=(List.range n).map (updF f i v):=by
 apply List.ext_getElem?
 intro j
 rw [List.getElem?_set]
 by_cases c:i=j
 ·subst c
  rw [if_pos rfl,List.length_map,List.length_range]
  split
  ·rename_i hc
   rw [List.getElem?_map,List.getElem?_range hc]
   simp [updF_same]
  ·rename_i hc
   rw [List.getElem?_eq_none (by simpa using hc)]
 ·rw [if_neg c,List.getElem?_map,List.getElem?_map]
  by_cases hc:j<n
  ·rw [List.getElem?_range hc]
   simp [updF_other f v (fun e=>c e.symm)]
  ·rw [List.getElem?_eq_none (by simpa using hc)]
   rfl
theorem Cls.pushR (h:Cls w T base C mb cv cr vv rv n f ix ks gs) {g a b:Nat} (own:OwnOf Rep.sl w' (fun _=>False) base 40 (.slice (some ⟨g,0,none⟩) a b) ((List.range n).map f ++ [.slice none 0 0])) (gr:w.grownBy w' rv.ownBlock) (hg:rv.ownBlock=some g∨g=w.heap.size) :
  Cls w' T base C mb cv cr vv (.slice (some ⟨g,0,none⟩) a b) (n+1) (updF f n (.slice none 0 0)) ix ks (updF gs n []):=by
 have h1:=h.lo
 have hb : ∀k,rv.ownBlock=some k→base≤k:=fun k hk=>h.rows.base k hk
 have hne : ∀k,rv.ownBlock=some k→k≠C:=fun k e e2=>by have:=hb k e;omega
 have hf : ∀i,i<n→updF f n (.slice none 0 0) i=f i:=fun i hi=>updF_other _ _ (by omega)
 have hout : ∀k,k<w.heap.size→ ¬InC C mb vv rv n f k→ ¬InC C mb vv (.slice (some ⟨g,0,none⟩) a b) (n+1) (updF f n (.slice none 0 0)) k:=by
  rintro k hk hn (e | e | e | e | ⟨i,hi,e⟩)
  ·exact hn (.inl e)
  ·exact hn (.inr (.inl e))
  ·exact hn (.inr (.inr (.inl e)))
  ·have e:g=k:=Option.some.inj e
   rcases hg with hg | hg
   ·exact hn (.inr (.inr (.inr (.inl (by rw [hg,e])))))
   ·omega
  ·by_cases c:i=n
   ·rw [c,updF_same]at e;cases e
   ·rw [updF_other _ _ c]at e
    exact hn (.inr (.inr (.inr (.inr ⟨i,by omega,e⟩))))
 have hS : ∀k,k<w.heap.size→OutC C mb vv rv n f T k→rv.ownBlock≠some k∧OutC C mb vv (.slice (some ⟨g,0,none⟩) a b) (n+1) (updF f n (.slice none 0 0)) T k:=fun k hk hn=>⟨fun e=>hn.2 (.inr (.inr (.inr (.inl e)))),hn.1,hout k hk hn.2⟩
 obtain⟨m,m1,m2⟩:=h.mp
 refine⟨cell_grown gr h.c0 hne,cell_grown gr h.c1 hne,cell_grown gr h.c2 hne,frozen_grown gr h.c1 h.f1 hne,frozen_grown gr h.c2 h.f2 hne,⟨m,m1.kept gr (fun e=>by have:=hb mb e.symm;omega),m2⟩,
  own_regrow h.vals gr hS (fun k hk e=>h.ap k hk e),by rw [map_updF];exact own,
  ⟨fun i hi=> ?_,fun i j hi hj hij=> ?_⟩,h.ap.grow (fun k hk=>(h.vals.lt k hk).2) hg,fun i hi=> ?_,fun i hi=> ?_,h.lo,Nat.le_trans h.hi gr.size⟩
 ·by_cases c:i=n
  ·subst c
   rw [updF_same,updF_same]
   exact OwnOf.nil _ _ _ _ _
  ·rw [updF_other _ _ c,updF_other _ _ c]
   exact own_regrow (h.fam.own i (by omega)) gr hS (fun k hk e=>h.apr i (by omega) k e hk)
 ·intro k e1 e2
  by_cases c:i=n
  ·rw [c,updF_same]at e1;cases e1
  ·by_cases c2:j=n
   ·rw [c2,updF_same]at e2;cases e2
   ·rw [updF_other _ _ c]at e1
    rw [updF_other _ _ c2]at e2
    exact h.fam.ap i j (by omega) (by omega) hij k e1 e2
 ·intro k e1 e2
  by_cases c:i=n
  ·rw [c,updF_same]at e2;cases e2
  ·rw [updF_other _ _ c]at e2
   exact h.apv i (by omega) k e1 e2
 ·by_cases c:i=n
  ·rw [c,updF_same];intro k _ e2;cases e2
  ·rw [updF_other _ _ c]
   exact((h.apr i (by omega)).symm.grow (fun k hk=>((h.fam.own i (by omega)).lt k hk).2) hg).symm
theorem Cls.part (h:Cls w T base C mb cv cr vv rv n f ix ks gs) {i rb ra rc:Nat} (hrv:rv = .slice (some ⟨rb,0,none⟩) ra rc) (hi:i<n) {g a b:Nat} {ys:List Row} (own:OwnOf Rep.row w' (fun k=>k<w.heap.size∧OutC C mb vv rv n f T k) base 58 (.slice (some ⟨g,0,none⟩) a b) ys) (gr:w.grownBy w' (f i).ownBlock) (hg:(f i).ownBlock=some g∨g=w.heap.size) :
  Cls (w'.setCell ⟨rb,i,none⟩ (.slice (some ⟨g,0,none⟩) a b)) T base C mb cv cr vv rv n (updF f i (.slice (some ⟨g,0,none⟩) a b)) ix ks (updF gs i ys):=by
 have h1:=h.lo
 have hb : ∀k,(f i).ownBlock=some k→base≤k:=fun k hk=>(h.fam.own i hi).base k hk
 have hne : ∀k,(f i).ownBlock=some k→k≠C:=fun k e e2=>by have:=hb k e;omega
 have hrb:base≤rb:=h.rows.base rb (by rw [hrv];rfl)
 have hout : ∀k,k<w.heap.size→ ¬InC C mb vv rv n f k→ ¬InC C mb vv rv n (updF f i (.slice (some ⟨g,0,none⟩) a b)) k:=by
  rintro k hk hn (e | e | e | e | ⟨j,hj,e⟩)
  ·exact hn (.inl e)
  ·exact hn (.inr (.inl e))
  ·exact hn (.inr (.inr (.inl e)))
  ·exact hn (.inr (.inr (.inr (.inl e))))
  ·by_cases c:j=i
   ·rw [c,updF_same]at e
    have e:g=k:=Option.some.inj e
    rcases hg with hg | hg
    ·exact hn (.inr (.inr (.inr (.inr ⟨i,hi,by rw [hg,e]⟩))))
    ·omega
   ·rw [updF_other _ _ c]at e
    exact hn (.inr (.inr (.inr (.inr ⟨j,hj,e⟩))))
 have hS : ∀k,k<w.heap.size→OutC C mb vv rv n f T k→(f i).ownBlock≠some k∧OutC C mb vv rv n (updF f i (.slice (some ⟨g,0,none⟩) a b)) T k:=fun k hk hn=>⟨fun e=>hn.2 (.inr (.inr (.inr (.inr ⟨i,hi,e⟩)))),hn.1,hout k hk hn.2⟩
 have hrbI:rv.ownBlock=some rb:=by rw [hrv];rfl
 obtain⟨m,m1,m2⟩:=h.mp
 have gs1 : ∀(u:Value),w'.grownBy (w'.setCell ⟨rb,i,none⟩ u) (some rb):=fun u=>⟨rfl,rfl,rfl,by simp [World.setCell],fun k _ hk=>Below.heap_setCell _ _ _ _ (fun e=>hk (by rw [e]))⟩
 have hneR : ∀k,(some rb:Option Nat)=some k→k≠C:=fun k e e2=>by have:=Option.some.inj e;omega
 have k0:=cell_grown gr h.c0 hne
 have k1:=cell_grown gr h.c1 hne
 have k2:=cell_grown gr h.c2 hne
 have own2 : ∀ {α:Type} {R:Rep α} {e:TypeId} {v:Value} {xs:List α},OwnOf R w' (OutC C mb vv rv n (updF f i (.slice (some ⟨g,0,none⟩) a b)) T) base e v xs→v.ownBlock≠some rb→OwnOf R (w'.setCell ⟨rb,i,none⟩ (.slice (some ⟨g,0,none⟩) a b)) (OutC C mb vv rv n (updF f i (.slice (some ⟨g,0,none⟩) a b)) T) base e v xs:=fun ho hv=>own_grown ho (gs1 _) (fun k hk e=>hk.2 (.inr (.inr (.inr (.inl (by rw [hrbI,e])))))) (fun k hk e=>hv (by rw [hk,e]))
 have apg : ∀v:Value,(∀k,v.ownBlock=some k→k<w.heap.size)→Apart v (f i)→Apart v (.slice (some ⟨g,0,none⟩) a b):=fun v hl ha=>ha.grow hl hg
 have hvlt : ∀k,vv.ownBlock=some k→k<w.heap.size:=fun k hk=>(h.vals.lt k hk).2
 have hrlt : ∀k,rv.ownBlock=some k→k<w.heap.size:=fun k hk=>(h.rows.lt k hk).2
 have hflt : ∀j,j<n→ ∀k,(f j).ownBlock=some k→k<w.heap.size:=fun j hj k hk=>((h.fam.own j hj).lt k hk).2
 refine⟨cell_grown (gs1 _) k0 hneR,cell_grown (gs1 _) k1 hneR,cell_grown (gs1 _) k2 hneR,frozen_grown (gs1 _) k1 (frozen_grown gr h.c1 h.f1 hne) hneR,frozen_grown (gs1 _) k2 (frozen_grown gr h.c2 h.f2 hne) hneR,
  ⟨m,(m1.kept gr (fun e=>by have:=hb mb e.symm;omega)).kept (gs1 _) (fun e=>by have:=Option.some.inj e;omega),m2⟩,
  own2 (own_regrow h.vals gr hS (fun k hk e=>h.apv i hi k hk e)) (fun e=>h.ap rb e hrbI),?_,⟨fun j hj=> ?_,fun j k hj hk hjk=> ?_⟩,h.ap,fun j hj=> ?_,fun j hj=> ?_,h.lo,?_⟩
 ·have hr1:=own_grown h.rows gr (fun k hk=>hk.elim) (fun k hk e=>h.apr i hi k hk e)
  rw [hrv]at hr1 ⊢
  rw [←map_set]
  exact sl_set hr1 i ⟨_,_,_,rfl⟩
 ·by_cases c:j=i
  ·subst c
   rw [updF_same,updF_same]
   refine own2 (own.weak (fun k _ hk=>⟨hk.2.1,hout k hk.1 hk.2.2⟩) (Nat.le_refl _)) fun e=> ?_
   exact(apg rv hrlt (h.apr j hj)) rb hrbI e
  ·rw [updF_other _ _ c,updF_other _ _ c]
   exact own2 (own_regrow (h.fam.own j hj) gr hS (fun k hk e=>h.fam.ap j i hj hi c k hk e)) (fun e=>h.apr j hj rb hrbI e)
 ·by_cases c:j=i
  ·by_cases c2:k=i
   ·exact absurd (c.trans c2.symm) hjk
   ·subst c
    rw [updF_same,updF_other _ _ c2]
    exact(apg (f k) (hflt k hk) (h.fam.ap k j hk hj c2)).symm
  ·by_cases c2:k=i
   ·subst c2
    rw [updF_same,updF_other _ _ c]
    exact apg (f j) (hflt j hj) (h.fam.ap j k hj hk c)
   ·rw [updF_other _ _ c,updF_other _ _ c2]
    exact h.fam.ap j k hj hk hjk
 ·by_cases c:j=i
  ·subst c;rw [updF_same];exact apg vv hvlt (h.apv j hj)
  ·rw [updF_other _ _ c];exact h.apv j hj
 ·by_cases c:j=i
  ·subst c;rw [updF_same];exact apg rv hrlt (h.apr j hj)
  ·rw [updF_other _ _ c];exact h.apr j hj
 ·exact Nat.le_trans h.hi (Nat.le_trans gr.size (chg_set w' _ _).size)
theorem Cls.read (h:Cls w T base C mb cv cr vv rv n f ix ks gs) (hT : ∀k,base≤k→T k):SliceOf (Rep.slice Rep.val) (on w T) vv ks∧SliceOf (Rep.slice Rep.row) (on w T) rv ((List.range n).map gs):=by
 refine⟨h.vals.sliceIn (fun k _ hk=>hk.1) hT,?_⟩
 obtain⟨css,h1,h2⟩:=h.rows
 obtain⟨h3,_⟩:=all_sl h1
 have h4:=VSlice.own h2
 rw [h3]at h4
 refine⟨_,rep_fam n (f:=f) fun i hi=>(h.fam.own i hi).sliceIn (fun k _ hk=>hk.1) hT,?_⟩
 rw [List.length_map,List.length_range,←List.flatMap_def,flat_sing]
 rw [List.length_map,List.length_range]at h4
 exact h4.sub (on_mono _ fun k _ hk=>hT k hk)
end
theorem Cls.congr {w:World} {T:Nat→Prop} {base C mb:Nat} {cv cr vv rv:Value} {n:Nat} {f:Nat→Value} {ix ks:List (List Val)} {gs gs':Nat→List Row} (h:Cls w T base C mb cv cr vv rv n f ix ks gs) (he : ∀i,i<n→gs' i=gs i):Cls w T base C mb cv cr vv rv n f ix ks gs':=by
 obtain⟨h0,h1,h2,h3,h4,h5,h6,h7,h8,h9,h10,h11,h12,h13⟩:=h
 exact⟨h0,h1,h2,h3,h4,h5,h6,h7,⟨fun i hi=>by rw [he i hi];exact h8.own i hi,h8.ap⟩,h9,h10,h11,h12,h13⟩
section
open Classical
noncomputable def ksL (l:List (List Val×Row)):List (List Val):=firsts (l.map Prod.fst)
noncomputable def gsL (l:List (List Val×Row)) (i:Nat):List Row:=(l.filter fun p=>decide (p.1=(ksL l).getD i [])).map Prod.snd
theorem ksL_len (l:List (List Val×Row)):(ksL l).length≤l.length:=by
 unfold ksL
 exact Nat.le_trans (firsts_len _) (by rw [List.length_map];exact Nat.le_refl _)
theorem gsL_len (l:List (List Val×Row)) (i:Nat):(gsL l i).length≤l.length:=by
 unfold gsL
 rw [List.length_map]
 exact List.length_filter_le _ _
theorem ksL_snoc (l:List (List Val×Row)) (kv:List Val) (r:Row):ksL (l ++ [(kv,r)])=addOnce (ksL l) kv:=by
 unfold ksL
 rw [List.map_append,List.map_cons,List.map_nil,firsts_snoc]
theorem gsL_snoc (l:List (List Val×Row)) (kv:List Val) (r:Row) (j:Nat):gsL (l ++ [(kv,r)]) j=(l.filter fun p=>decide (p.1=(addOnce (ksL l) kv).getD j [])).map Prod.snd++if kv=(addOnce (ksL l) kv).getD j []then [r]else []:=by
 unfold gsL
 rw [ksL_snoc,List.filter_append,List.map_append,List.filter_cons,List.filter_nil]
 congr 1
 by_cases c:kv=(addOnce (ksL l) kv).getD j []
 ·rw [if_pos c,if_pos (by simpa using c)]
  rfl
 ·rw [if_neg c,if_neg (by simpa using c)]
  rfl
theorem gsL_old {l:List (List Val×Row)} {kv:List Val} (r:Row) {i:Nat} (hi:i<(ksL l).length) (h:(ksL l)[i]=kv) :
  ksL (l ++ [(kv,r)])=ksL l∧ ∀j,j<(ksL l).length→gsL (l ++ [(kv,r)]) j=updF (gsL l) i (gsL l i ++ [r]) j:=by
 have ha:addOnce (ksL l) kv=ksL l:=by unfold addOnce;rw [if_pos (by rw [←h];exact List.getElem_mem hi)]
 refine⟨by rw [ksL_snoc,ha],fun j hj=> ?_⟩
 rw [gsL_snoc,ha]
 by_cases c:j=i
 ·subst c
  rw [updF_same,if_pos (by rw [List.getD_eq_getElem?_getD,List.getElem?_eq_getElem hi,Option.getD_some,h])]
  rfl
 ·rw [updF_other _ _ c,if_neg,List.append_nil]
  ·rfl
  ·intro e
   rw [List.getD_eq_getElem?_getD,List.getElem?_eq_getElem hj,Option.getD_some,←h]at e
   exact c ((List.getElem_inj (firsts_law _).1).1 e).symm
theorem gsL_new {l:List (List Val×Row)} {kv:List Val} (r:Row) (h:kv∉ksL l) :
  ksL (l ++ [(kv,r)])=ksL l ++ [kv]∧ ∀j,j<(ksL l).length+1→gsL (l ++ [(kv,r)]) j=updF (updF (gsL l) (ksL l).length []) (ksL l).length ([] ++ [r]) j:=by
 have ha:addOnce (ksL l) kv=ksL l ++ [kv]:=by unfold addOnce;rw [if_neg h]
 refine⟨by rw [ksL_snoc,ha],fun j hj=> ?_⟩
 rw [gsL_snoc,ha]
 by_cases c:j=(ksL l).length
 ·subst c
  rw [updF_same,List.getD_eq_getElem?_getD,List.getElem?_append_right (Nat.le_refl _),Nat.sub_self]
  simp only [List.getElem?_cons_zero,Option.getD_some,if_true]
  congr 1
  rw [List.map_eq_nil_iff,List.filter_eq_nil_iff]
  intro p hp e
  have e:p.1=kv:=by simpa using e
  exact h (((firsts_law _).2 _).2 (by rw [←e];exact List.mem_map_of_mem hp))
 ·have hj2:j<(ksL l).length:=by omega
  rw [updF_other _ _ c,updF_other _ _ c]
  have e1:(ksL l ++ [kv]).getD j []=(ksL l).getD j []:=by
   rw [List.getD_eq_getElem?_getD,List.getElem?_append_left hj2,←List.getD_eq_getElem?_getD]
  rw [e1,if_neg,List.append_nil]
  ·rfl
  ·intro e
   rw [List.getD_eq_getElem?_getD,List.getElem?_eq_getElem hj2,Option.getD_some]at e
   exact h (by rw [e];exact List.getElem_mem hj2)
def prs (proj:List Val→List Val) (rows:List Row):List (List Val×Row):=rows.map fun r=>(proj r.vals,r)
theorem ksL_prs (proj:List Val→List Val) (rows:List Row):ksL (prs proj rows)=firsts (rows.map fun r=>proj r.vals):=by
 unfold ksL prs
 rw [List.map_map]
 rfl
theorem gsL_prs (proj:List Val→List Val) (rows:List Row):(List.range (ksL (prs proj rows)).length).map (gsL (prs proj rows))=(firsts (rows.map fun r=>proj r.vals)).map (selS proj rows):=by
 rw [←ksL_prs]
 apply List.ext_getElem (by simp)
 intro i h1 h2
 rw [List.length_map,List.length_range]at h1
 rw [List.getElem_map,List.getElem_map,List.getElem_range]
 unfold gsL
 rw [List.getD_eq_getElem?_getD,List.getElem?_eq_getElem h1,Option.getD_some]
 generalize (ksL (prs proj rows))[i]=kv
 unfold prs selS
 rw [List.filter_map,List.map_map]
 exact List.map_id _
end
theorem wpList_lookupOk_v {P:Program} (w:World) {ops:Array Oper} {rest:List Oper} {o:Oper} {a:Act} {Q:Exit→Act→World→Prop}
  (hg:o.guard=none) (m x:Operand) (t:TypeId) (hop:o.op=Op.lookup t m x true)
  (k e:TypeId) (K:Go.Maps.Keyed P k) (ht:P.underlying t=some (.map k e)) (z:Value) (hz:(zeroValue e).run P w = .ok z w) (S:Value→Prop) (hS:S z) (b n:Nat) (mp:Lit→Option Value)
  (hm:a.eval m = .map (some b)) (hown:MapV w P k S b n mp) (key:Value) (kl:Lit) (hx:a.eval x=key) (hkey:keyOf P k key=some kl) (hlit:WideAt.IsKeyLit kl) (c:Value) (ok:Bool) (hc:(mp kl).getD z=c) (hok:(mp kl).isSome=ok)
  (hK:wpList P ops Q rest (a.put o.dst (.tuple #[c,.bool ok])) w) :
  wpList P ops Q (o::rest) a w:=by
 obtain⟨D,h1,h2⟩:=hown
 refine wpList_lookup_own_ok w hg m x t hop k e K ht (rawR S) hz (.held z) [] (rawR_mk hS) b n D hm h1 key kl hx hkey fun v ps hv=> ?_
 obtain⟨hs,hv⟩:=rawR_inv hv
 injection hv with hv _
 rw [h2.2 kl hlit]at hv
 rw [h2.has hlit,hok]
 have:v=c:=by
  rw [←hc]
  cases hmk:mp kl with
  |none=>rw [hmk]at hv;injection hv with hv;exact hv.symm
  |some u=>rw [hmk]at hv;injection hv with hv;exact hv.symm
 rw [this]
 exact hK
end Go.Proofs.YtombmdaohcjokaaGreatDoor
namespace Go.Proofs.YtombmdaohcjokaaGreatDoor
open Go.RowKit Go.Maps
theorem keyG_len {h1:View} {v:Value} {vs:List Val} (k:SliceOf Rep.val h1 v vs) (hl:vs.length≤1000) (hf : ∀x∈vs,x.s.size≤1048576):(keyVals vs).length≤maxLen:=by
 have h2:=keyVals_len (vals_range k) hf
 unfold maxLen
 omega
structure RawSl where
 p:Option Addr
 n:Nat
 c:Nat
def mkSl (c:RawSl):Value:= .slice c.p c.n c.c
def RowLaw (w:World) (ve va:Value) (l:List Tup) (K:Nat) (aggV:List (List Val)→List Val):Prop :=
 ∀(G:Nat) (kv:Value) (key:List Val) (tv:Value) (ms:List Tup) (t:Int) (w1:World),Ext w w1→w1.cell? ⟨G,0,none⟩=some ve→w1.cell? ⟨G,1,none⟩=some va→SliceOf Rep.val w1.cell? kv key→key.length=K→SliceOf Rep.tup w1.cell? tv ms→ms.length≤l.length→(∀m∈ms,∃u∈l,m.vals=u.vals∧m.lin=u.lin) →
  Calls Tryz.prog 83 #[.pointer (some ⟨G,0,none⟩),kv,tv,.int .i64 t] w1 fun e w'=> ∃a b,e = .returned (.tuple #[.agg #[a,b],.bool (decide (0<(memV ms t).length))])∧SliceOf Rep.val (on w' (since w1)) a (gRow aggV key ms t).vals∧SliceOf Rep.int (on w' (since w1)) b (gRow aggV key ms t).lin∧Ext w1 w'
end Go.Proofs.YtombmdaohcjokaaGreatDoor
namespace Go.Proofs
open Go.Shelf
def Tryz.insEv_ren:Go.Shelf.Ren:=⟨fun | 20=>282 | n=>n,fun | 24=>268 | 22=>265 | 3=>3 | 25=>271 | 4=>4 | 0=>0 | n=>n,fun | n=>n⟩
def Tryz.sortPairs_ren:Go.Shelf.Ren:=⟨fun | 6=>197 | 15=>118 | 14=>252 | 28=>172 | 29=>173 | 20=>285 | 21=>286 | 22=>287 | 23=>288 | 24=>289 | 25=>290 | 26=>291 | 27=>292 | 46=>313 | 47=>216 | 48=>217 | 49=>314 | 50=>315 | 57=>323 | n=>n,fun | 22=>214 | 24=>217 | 25=>283 | 3=>3 | 39=>185 | 0=>0 | 53=>247 | 55=>249 | 4=>4 | 46=>240 | 45=>239 | 50=>229 | 5=>5 | 9=>9 | 66=>301 | 70=>305 | 76=>349 | 77=>224 | n=>n,fun | n=>n⟩
def Tryz.sortPers_ren:Go.Shelf.Ren:=⟨fun | 6=>199 | 15=>118 | 14=>253 | 28=>172 | 29=>173 | 20=>293 | 21=>294 | 22=>295 | 23=>296 | 24=>297 | 25=>298 | 26=>299 | 27=>300 | 46=>316 | 47=>216 | 48=>217 | 49=>317 | 50=>318 | 57=>324 | n=>n,fun | 22=>149 | 24=>123 | 25=>285 | 3=>3 | 39=>185 | 0=>0 | 53=>247 | 55=>249 | 4=>4 | 46=>240 | 45=>239 | 50=>229 | 5=>5 | 9=>9 | 66=>301 | 70=>305 | 76=>349 | 77=>224 | n=>n,fun | n=>n⟩
def Tryz.growEv_ren:Go.Shelf.Ren:=⟨fun | 4=>247 | n=>n,fun | 22=>265 | 25=>268 | 3=>3 | 4=>4 | 9=>9 | 20=>20 | 0=>0 | n=>n,fun | n=>n⟩
end Go.Proofs
namespace Go.Proofs.YtombmdaohcjokaaGreatDoor
open Go.RowKit Go.Shelf Go.Sort
def sideI (b:Bool):Int:=if b then 1 else 0
def evEnc (x:Ev):List Value:= [.int .i64 x.from_,.int .i64 (sideI x.side),.int .i64 x.idx]
def okS (x:Ev):Prop:=x.idx≤1048576∧ -9223372036854775808≤x.from_∧x.from_≤9223372036854775807
def Rep.ev:Rep Ev where
 size:=3
 holds _ cs x:=cs=evEnc x∧okS x
 len:=by rintro w cs x ⟨rfl,_⟩;rfl
 ext:=by rintro w w' cs x h _;exact h
 one:=by rintro w cs x ⟨rfl,_⟩;simp [evEnc,Value.oneCell']
theorem ev_len (x:Ev):(evEnc x).length=3:=rfl
def cmpEv (x y:Ev):Int:=cmpI x.from_ y.from_
theorem drew_set (w:World) (p:Addr) (v:Value):w.drew.setCell p v=(w.setCell p v).drew:=rfl
end Go.Proofs.YtombmdaohcjokaaGreatDoor
namespace Go.Proofs.YtombmdaohcjokaaGreatDoor
open Go.RowKit Go.Shelf Go.Sort
end Go.Proofs.YtombmdaohcjokaaGreatDoor
namespace Go.Proofs.YtombmdaohcjokaaGreatDoor
open Go.RowKit Go.Shelf Go.Sort
instance:Inhabited Pair:=⟨⟨0,0,0,0⟩⟩
def pairEnc (x:Pair):List Value:= [.int .i64 x.a,.int .i64 x.b,.int .i64 x.from_,.int .i64 x.to_]
def okP (x:Pair):Prop:=(x.a≤1048576∧x.b≤1048576)∧(-9223372036854775808≤x.from_∧x.from_≤9223372036854775807)∧(-9223372036854775808≤x.to_∧x.to_≤9223372036854775807)
def Rep.pair:Rep Pair where
 size:=4
 holds _ cs x:=cs=pairEnc x∧okP x
 len:=by rintro w cs x ⟨rfl,_⟩;rfl
 ext:=by rintro w w' cs x h _;exact h
 one:=by rintro w cs x ⟨rfl,_⟩;simp [pairEnc,Value.oneCell']
end Go.Proofs.YtombmdaohcjokaaGreatDoor
namespace Go.Proofs.YtombmdaohcjokaaGreatDoor
open Go.RowKit Go.Shelf Go.Sort
end Go.Proofs.YtombmdaohcjokaaGreatDoor
namespace Go.Proofs.YtombmdaohcjokaaGreatDoor
open Go.RowKit Go.Shelf Go.Sort
end Go.Proofs.YtombmdaohcjokaaGreatDoor
namespace Go.Proofs.YtombmdaohcjokaaGreatDoor
open Go.RowKit Go.Shelf Go.Sort
structure QAt (w:World) (qb s B:Nat) (v:Value) (xs:List Ev):Prop where
 cell:w.cell? ⟨qb,s,none⟩=some v
 free:w.frozen? ⟨qb,s,none⟩=false
 own:OwnOf Rep.act w (fun _=>True) B 278 v xs
 ne:v.ownBlock≠some qb
 base:B≤w.heap.size
def Oth (w w':World) (qb s:Nat):Prop:= ∀j,j≠s→w'.cell? ⟨qb,j,none⟩=w.cell? ⟨qb,j,none⟩∧w'.frozen? ⟨qb,j,none⟩=w.frozen? ⟨qb,j,none⟩
end Go.Proofs.YtombmdaohcjokaaGreatDoor
namespace Go.Proofs.YtombmdaohcjokaaGreatDoor
open Go.RowKit Go.Shelf Go.Sort
def HeapL (xs:List Ev):Prop:=HeapTo ltAct xs.length xs.toArray
end Go.Proofs.YtombmdaohcjokaaGreatDoor
namespace Go.Proofs.YtombmdaohcjokaaGreatDoor
open Go.RowKit Go.Shelf Go.Sort
end Go.Proofs.YtombmdaohcjokaaGreatDoor
namespace Go.Proofs.YtombmdaohcjokaaGreatDoor
open Go.RowKit Go.Shelf Go.Sort
end Go.Proofs.YtombmdaohcjokaaGreatDoor
namespace Go.Proofs.YtombmdaohcjokaaGreatDoor
open Go.RowKit Go.Shelf Go.Sort
def Bk (s lo hi:Nat) (d:Array Ev):Prop:= ∀i j,lo≤i→i<j→j<hi→i / s=j / s→ltOf cmpEv d[j]! d[i]! = false
end Go.Proofs.YtombmdaohcjokaaGreatDoor
namespace Go.Proofs.YtombmdaohcjokaaGreatDoor
open Go.RowKit Go.Shelf Go.Sort
end Go.Proofs.YtombmdaohcjokaaGreatDoor
namespace Go.Proofs.YtombmdaohcjokaaGreatDoor
open Go.RowKit Go.Shelf Go.Sort
end Go.Proofs.YtombmdaohcjokaaGreatDoor
namespace Go.Proofs.YtombmdaohcjokaaGreatDoor
open Go.RowKit Go.Shelf
end Go.Proofs.YtombmdaohcjokaaGreatDoor
namespace Go.Proofs.YtombmdaohcjokaaGreatDoor
open Go.RowKit Go.Shelf Go.Sort
def sideN (c:Bool):Nat:=if c then 1 else 0
def upd {α:Type} (f:Bool→α) (c:Bool) (x:α):Bool→α:=fun d=>if d=c then x else f d
structure Sweep (w wr:World) (sb qb B:Nat) (va vb v3:Value) (es:List Ev) (q:Bool→List Ev) (u:Bool→Value) (vo:Value) (out:List Pair):Prop where
 ext:Ext w wr
 ev:OwnOf Rep.ev wr (fun _=>True) w.heap.size 268 v3 es
 evB : ∀k,v3.ownBlock=some k→k<B∧k≠qb
 s0:wr.cell? ⟨sb,0,none⟩=some va
 s1:wr.cell? ⟨sb,1,none⟩=some vb
 sbB:sb<B∧sb≠qb
 qbB:qb<B∧w.heap.size≤qb
 qs : ∀c,QAt wr qb (sideN c) B (u c) (q c)
 hp : ∀c,HeapL (q c)
 dj : ∀c k,(u c).ownBlock=some k→(u (!c)).ownBlock≠some k
 out:OwnOf Rep.pair wr (fun _=>True) B 217 vo out
 dq : ∀c k,(u c).ownBlock=some k→vo.ownBlock≠some k
structure Kept (w:World) (b:Nat) (x y z:Int):Prop where
 c0:w.cell? ⟨b,0,none⟩=some (.int .i64 x)
 c1:w.cell? ⟨b,1,none⟩=some (.int .i64 y)
 c2:w.cell? ⟨b,2,none⟩=some (.int .i64 z)
def Known (a b:List Tup) (e:Ev):Prop:=okEv e=true∧okS e∧okE e∧ ∃h:e.idx<(if e.side then b else a).length,(if e.side then b else a)[e.idx].from_=e.from_∧(if e.side then b else a)[e.idx].to_=e.to_
end Go.Proofs.YtombmdaohcjokaaGreatDoor
namespace Go.Proofs.YtombmdaohcjokaaGreatDoor
open Go.RowKit Go.Deep Go.ChangeShapes Go.WideShapes Go.ChangeAt
def Opens {α:Type} (P:Program) (t:TypeId) (R:Rep α):Prop :=
 ∀(H:Type) (enc:TypeId×Value→H) (w:World) (base:Nat) (spare:Nat→Bool) (held:Bool) (fuel:Nat) (cs:List Value) (x:DataW H×List MemPlace),
  DataW.trod enc P w base spare held fuel t cs=some x→ ∃y,R.holds w.cell? cs y
theorem repAll_of {α:Type} (R:Rep α) (h:View) (p:Nat→List Value→Prop) (n:Nat) (hp : ∀i,i<n→ ∃cs y,R.holds h cs y∧p i cs) :
  ∃css ys,css.length=n∧RepAll R h css ys∧ ∀i c,css[i]?=some c→p i c:=by
 induction n with
 |zero=>exact⟨[],[],rfl,trivial,fun i c hc=>by simp at hc⟩
 |succ n ih =>
  obtain⟨css,ys,h1,h2,h3⟩:=ih fun i hi=>hp i (by omega)
  obtain⟨c,y,h4,h5⟩:=hp n (by omega)
  refine⟨css ++ [c],ys ++ [y],by simp [h1],h2.append (RepAll.one h4),fun i d hd=> ?_⟩
  by_cases hi:i<css.length
  ·rw [List.getElem?_append_left hi]at hd
   exact h3 i d hd
  ·rw [List.getElem?_append_right (by omega)]at hd
   have:i=n:=by
    have:=(List.getElem?_eq_some_iff.1 hd).1
    simp at this
    omega
   subst this
   rw [h1,Nat.sub_self]at hd
   simp at hd
   subst hd
   exact h5
theorem flat_at {css:List (List Value)} {k:Nat} (hk : ∀c∈css,c.length=k) (j:Nat) (u:Value) (h:css.flatten[j]?=some u) : ∃i r c,css[i]?=some c∧c[r]?=some u∧j=i*k+r:=by
 induction css generalizing j with
 |nil=>simp at h
 |cons c css ih =>
  by_cases hj:j<c.length
  ·rw [List.flatten_cons,List.getElem?_append_left hj]at h
   exact⟨0,j,c,rfl,h,by simp⟩
  ·rw [List.flatten_cons,List.getElem?_append_right (by omega)]at h
   obtain⟨i,r,d,h1,h2,h3⟩:=ih (fun d hd=>hk d (by simp [hd])) _ h
   have:=hk c (by simp)
   exact⟨i+1,r,d,by simpa using h1,h2,by rw [Nat.succ_mul];omega⟩
theorem repAll_len {α:Type} {R:Rep α} {h:View} {css:List (List Value)} {ys:List α} (k:RepAll R h css ys) : ∀c∈css,c.length=R.size:=by
 induction css generalizing ys with
 |nil=>simp
 |cons c css ih =>
  cases ys with
  |nil=>exact k.elim
  |cons y ys =>
   intro d hd
   rcases List.mem_cons.1 hd with rfl | hd
   ·exact R.len k.1
   ·exact ih k.2 d hd
theorem opens_slice {α:Type} {P:Program} {t e:TypeId} {R:Rep α} (ht:P.underlying t=some (.slice e)) (hc:P.cellsOf e=R.size) (hR:Opens P e R):Opens P t R.slice:=by
 intro H enc w base spare held fuel cs x h
 rcases open_slice ht h with ⟨rfl,_⟩ | ⟨a,len,cap,m,n,D,Pl,rfl,hb,hl,hm,hmm,_,hx⟩
 ·exact⟨[],_,rfl,SliceOf.nil R _⟩
 ·have hlm:len≤m:=by rw [hmm];split <;> omega
  obtain⟨css,ys,h1,h2,h3⟩:=repAll_of R w.cell? (fun i cs'=>w.cells? base (a.add (i*P.cellsOf e)) (P.cellsOf e)=some cs') len fun i hi=>by
   obtain⟨cs',g1,g2⟩:=hx i (by omega)
   obtain⟨y,hy⟩:=hR H enc w base spare held n cs' _ g2
   exact⟨cs',y,hy,g1⟩
  have hlen:ys.length=len:=by rw [←h2.length,h1]
  refine⟨ys,_,rfl,css,h2,?_⟩
  rw [hlen]
  refine .inr ⟨a,cap,rfl,hl,hm,?_⟩
  have hcell : ∀j u,css.flatten[j]?=some u→w.cell? (a.add j)=some u:=by
   intro j u hj
   obtain⟨i,r,c,g1,g2,g3⟩:=flat_at (repAll_len h2) j u hj
   obtain⟨_,g5,g6⟩:=World.cells?_some (h3 i c g1)
   have hr:r<P.cellsOf e:=by rw [←g5];exact(List.getElem?_eq_some_iff.1 g2).1
   have:=g6 r hr
   rw [g2,Addr.add_add,hc,←g3]at this
   exact this
  by_cases hne:css.flatten = []
  ·exact .inl hne
  ·right
   obtain⟨u,us,hu⟩:=List.exists_cons_of_ne_nil hne
   have h0:=hcell 0 u (by rw [hu];rfl)
   obtain⟨b,o,sp⟩:=a
   have hsp:sp=none:=by
    cases sp with
    |none=>rfl
    |some s=>simp [World.cell?,Addr.add]at h0;split at h0 <;> simp at h0
   subst hsp
   exact⟨b,o,rfl,fun j u hj=>by have:=hcell j u hj;rwa [add_lit]at this⟩
end Go.Proofs.YtombmdaohcjokaaGreatDoor
