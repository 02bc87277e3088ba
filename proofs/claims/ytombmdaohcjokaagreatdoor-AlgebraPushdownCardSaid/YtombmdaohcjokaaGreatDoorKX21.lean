/- joined texts of a proof: TypP, AwkQ, PlainU, BagQ, BagR, BagX, GrpsP, BagLineageW, PlainC -/
import Derived.Test.YtombmdaohcjokaaGreatDoorKX19
import Derived.Test.YtombmdaohcjokaaGreatDoorKX20
import Derived.Test.YtombmdaohcjokaaGreatDoorKX10
import Derived.Test.YtombmdaohcjokaaGreatDoorKX13
import Derived.Test.YtombmdaohcjokaaGreatDoorKX11
import Derived.Test.YtombmdaohcjokaaGreatDoorKX03
import Derived.Test.YtombmdaohcjokaaGreatDoorKX09
namespace Go.Proofs.YtombmdaohcjokaaGreatDoor
open Go.RowKit
theorem chkAll_app (es fs:List ExprI) (cols:List Int) : ∀k,k≤es.length→chkAll (es++fs) cols k=chkAll es cols k:=by
 intro k
 induction k with
 |zero=>intro _;rfl
 |succ k ih =>
  intro hk
  have e:(es++fs)[k]! = es[k]! := by
   rw [getElem!_pos (es++fs) k (by rw [List.length_append];omega),getElem!_pos es k (by omega),List.getElem_append_left (by omega)]
  rw [chkAll,chkAll,ih (by omega),e]
theorem check_app {es fs:List ExprI} {cols:List Int} (hl:(es++fs).length≤200) {r:Int} (hr:(checkE es cols r).2=0):checkE (es++fs) cols r=checkE es cols r:=by
 rw [List.length_append]at hl
 unfold checkE at hr ⊢
 rw [if_neg (by omega)]at hr
 rw [if_neg (by rw [List.length_append];omega),if_neg (show ¬ 200<es.length by omega)]
 by_cases c:r<0∨(es.length:Int)≤r
 ·rw [if_pos c]at hr;cases hr
 ·rw [if_neg c,if_neg (by rw [List.length_append];omega),chkAll_app es fs cols _ (by omega)]
theorem exprsC_app {es fs:List ExprI} {cols:List Int} (hl:(es++fs).length≤200) : ∀ {xs acc:List Int},(exprsC es cols xs acc).2=0→exprsC (es++fs) cols xs acc=exprsC es cols xs acc:=by
 intro xs
 induction xs with
 |nil=>intro acc _;rfl
 |cons x xs ih =>
  intro acc h
  unfold exprsC at h ⊢
  by_cases c:(checkE es cols x).2≠0
  ·rw [if_pos c]at h;exact absurd h c
  ·rw [if_neg c]at h
   rw [check_app hl (Decidable.not_not.1 c),if_neg c,if_neg c,ih h]
theorem aggsC_app {es fs:List ExprI} {cols:List Int} (hl:(es++fs).length≤200) : ∀ {gs:List AggI} {acc:List Int} {mis:Bool},(aggsC es cols gs acc mis).2=0→aggsC (es++fs) cols gs acc mis=aggsC es cols gs acc mis:=by
 intro gs
 induction gs with
 |nil=>intro acc mis _;rfl
 |cons g gs ih =>
  intro acc mis h
  unfold aggsC at h ⊢
  by_cases c1:g.kind=1
  ·rw [if_pos c1]at h
   rw [if_pos c1,if_pos c1,ih h]
  rw [if_neg c1]at h
  rw [if_neg c1,if_neg c1]
  by_cases c2:g.kind<1∨4<g.kind
  ·rw [if_pos c2]at h;cases h
  rw [if_neg c2]at h
  rw [if_neg c2,if_neg c2]
  by_cases c3:(checkE es cols g.arg).2≠0
  ·rw [if_pos c3]at h;exact absurd h c3
  rw [if_neg c3]at h
  rw [check_app hl (Decidable.not_not.1 c3),if_neg c3,if_neg c3]
  by_cases c4:g.kind=2
  ·rw [if_pos c4]at h
   rw [if_pos c4,if_pos c4,ih h]
  ·rw [if_neg c4]at h
   rw [if_neg c4,if_neg c4,ih h]
theorem predC_zero {es:List ExprI} {cols:List Int} {p:Int} (h:predC es cols p=0):(checkE es cols p).2=0:=by
 unfold predC at h
 split at h
 ·cases h
 ·exact h
theorem predC_app {es fs:List ExprI} {cols:List Int} (hl:(es++fs).length≤200) {p:Int} (h:predC es cols p=0):predC (es++fs) cols p=0:=by
 have:=predC_zero h
 unfold predC at h ⊢
 rwa [check_app hl this]
theorem groupC_app {es fs:List ExprI} {cols:List Int} (hl:(es++fs).length≤200) {n:NodeI} (h:(groupC es cols n).2=0):groupC (es++fs) cols n=groupC es cols n:=by
 unfold groupC at h ⊢
 by_cases c:(exprsC es cols n.exprs []).2≠0
 ·rw [if_pos c]at h;exact absurd h c
 rw [if_neg c]at h
 rw [exprsC_app hl (Decidable.not_not.1 c),if_neg c,if_neg c,aggsC_app hl h]
theorem colsN_app {es fs:List ExprI} {types:List TypI} {done:List (List Int)} (hl:(es++fs).length≤200) {n:NodeI} (h:(colsN es types done n).2=0):colsN (es++fs) types done n=colsN es types done n:=by
 unfold colsN at h ⊢
 by_cases c1:n.kind<1∨10<n.kind
 ·rw [if_pos c1]at h;cases h
 rw [if_neg c1]at h
 rw [if_neg c1,if_neg c1]
 by_cases c2:n.kind=1
 ·rw [if_pos c2,if_pos c2]
 rw [if_neg c2]at h
 rw [if_neg c2,if_neg c2]
 by_cases c3:legN done.length n.a=false∨(binK n.kind=true∧legN done.length n.b=false)
 ·rw [if_pos c3]at h;cases h
 rw [if_neg c3]at h
 rw [if_neg c3,if_neg c3]
 by_cases c4:n.kind=2
 ·rw [if_pos c4]at h
  rw [if_pos c4,if_pos c4,predC_app hl h]
  exact Prod.ext rfl h.symm
 rw [if_neg c4]at h
 rw [if_neg c4,if_neg c4]
 by_cases c5:n.kind=4∨n.kind=5
 ·rw [if_pos c5]at h
  rw [if_pos c5,if_pos c5,predC_app hl h]
  exact Prod.ext rfl h.symm
 rw [if_neg c5]at h
 rw [if_neg c5,if_neg c5]
 by_cases c6:n.kind=3
 ·rw [if_pos c6]at h
  rw [if_pos c6,if_pos c6,exprsC_app hl h]
 rw [if_neg c6]at h
 rw [if_neg c6,if_neg c6]
 by_cases c7:6≤n.kind∧n.kind≤8
 ·rw [if_pos c7,if_pos c7]
 rw [if_neg c7]at h
 rw [if_neg c7,if_neg c7]
 by_cases c8:n.kind=10
 ·rw [if_pos c8]at h
  rw [if_pos c8,if_pos c8,groupC_app hl h]
 ·rw [if_neg c8,if_neg c8]
structure Typed (types:List TypI) (q:QueryI) (cols:List (List Int)):Prop where
 len:cols.length=q.nodes.length
 ex:q.exprs.length≤200
 at_ : ∀i,i<q.nodes.length→colsN q.exprs types (cols.take i) q.nodes[i]! = (cols.getD i [],0)∧1≤(cols.getD i []).length∧(cols.getD i []).length≤64
theorem Typed.upto {types:List TypI} {q:QueryI} {cols:List (List Int)} (h:Typed types q cols) : ∀i,i≤q.nodes.length→colsUpto q types i=(cols.take i,0):=by
 intro i
 induction i with
 |zero=>intro _;rfl
 |succ i ih =>
  intro hi
  obtain⟨h1,h2,h3⟩:=h.at_ i (by omega)
  have hlt:i<cols.length:=by rw [h.len];omega
  unfold colsUpto
  rw [ih (by omega),if_neg (fun e=>e rfl)]
  dsimp only
  rw [h1,if_neg (fun e=>e rfl),if_neg (by dsimp only;omega),List.take_succ_eq_append_getElem hlt,List.getD_eq_getElem?_getD,List.getElem?_eq_getElem hlt]
  rfl
theorem Typed.cols {types:List TypI} {q:QueryI} {cols:List (List Int)} (h:Typed types q cols) (h0:0<q.nodes.length) (h1:q.nodes.length≤40):columnsQ q types=(cols,0):=by
 unfold columnsQ
 rw [if_neg (by have:=h.ex;omega),h.upto _ (Nat.le_refl _),←h.len,List.take_length]
theorem Typed.snoc {types:List TypI} {q:QueryI} {cols:List (List Int)} (h:Typed types q cols) (fs:List ExprI) (n:NodeI) (c:List Int) (hl:(q.exprs++fs).length≤200) (hc:colsN (q.exprs++fs) types cols n=(c,0)) (h1:1≤c.length) (h2:c.length≤64):Typed types ⟨q.nodes ++ [n],q.exprs++fs⟩ (cols ++ [c]):=by
 refine⟨by rw [List.length_append,List.length_append,h.len];rfl,hl,fun i hi=> ?_⟩
 rw [List.length_append,List.length_singleton]at hi
 by_cases e:i<q.nodes.length
 ·obtain⟨a1,a2,a3⟩:=h.at_ i e
  have e1:(q.nodes ++ [n])[i]! = q.nodes[i]! := by
   rw [getElem!_pos (q.nodes ++ [n]) i (by rw [List.length_append,List.length_singleton];omega),getElem!_pos q.nodes i e,List.getElem_append_left e]
  have e2:(cols ++ [c]).getD i []=cols.getD i []:=by rw [getD_snoc,if_neg (by rw [h.len];omega)]
  have e3:(cols ++ [c]).take i=cols.take i:=List.take_append_of_le_length (by rw [h.len];omega)
  dsimp only
  rw [e1,e2,e3,colsN_app hl (by rw [a1]),a1]
  exact⟨rfl,a2,a3⟩
 ·have e0:i=q.nodes.length:=by omega
  have e1:(q.nodes ++ [n])[i]! = n:=by
   rw [getElem!_pos (q.nodes ++ [n]) i (by rw [List.length_append,List.length_singleton];omega),List.getElem_append_right (by omega)]
   simp [e0]
  have e2:(cols ++ [c]).getD i []=c:=by rw [getD_snoc,if_pos (by rw [h.len];omega)]
  have e3:(cols ++ [c]).take i=cols:=by rw [List.take_append_of_le_length (by rw [h.len];omega),List.take_of_length_le (by rw [h.len];omega)]
  dsimp only
  rw [e1,e2,e3,hc]
  exact⟨rfl,h1,h2⟩
theorem exprsC_lenT {es:List ExprI} {cols:List Int} : ∀ {xs acc:List Int},(exprsC es cols xs acc).2=0→(exprsC es cols xs acc).1.length=acc.length+xs.length:=by
 intro xs
 induction xs with
 |nil=>intro acc _;rfl
 |cons x xs ih =>
  intro acc h
  unfold exprsC at h ⊢
  by_cases c:(checkE es cols x).2≠0
  ·rw [if_pos c]at h;exact absurd h c
  ·rw [if_neg c]at h ⊢
   rw [ih h,List.length_append,List.length_cons,List.length_nil,List.length_cons]
   omega
theorem aggsC_lenT {es:List ExprI} {cols:List Int} : ∀ {gs:List AggI} {acc:List Int} {mis:Bool},(aggsC es cols gs acc mis).2=0→(aggsC es cols gs acc mis).1.length=acc.length+gs.length:=by
 intro gs
 induction gs with
 |nil =>
  intro acc mis h
  unfold aggsC at h ⊢
  split at h
  ·cases h
  ·rename_i c;rw [if_neg c];rfl
 |cons g gs ih =>
  intro acc mis h
  unfold aggsC at h ⊢
  by_cases c1:g.kind=1
  ·rw [if_pos c1]at h ⊢
   rw [ih h,List.length_append,List.length_cons,List.length_nil,List.length_cons]
   omega
  rw [if_neg c1]at h ⊢
  by_cases c2:g.kind<1∨4<g.kind
  ·rw [if_pos c2]at h;cases h
  rw [if_neg c2]at h ⊢
  by_cases c3:(checkE es cols g.arg).2≠0
  ·rw [if_pos c3]at h;exact absurd h c3
  rw [if_neg c3]at h ⊢
  by_cases c4:g.kind=2
  ·rw [if_pos c4]at h ⊢
   rw [ih h,List.length_append,List.length_cons,List.length_nil,List.length_cons]
   omega
  ·rw [if_neg c4]at h ⊢
   rw [ih h,List.length_append,List.length_cons,List.length_nil,List.length_cons]
   omega
theorem compatC_lenT : ∀ {a b:List Int},(compatC a b).2=0→(compatC a b).1.length=a.length∧a.length=b.length:=by
 intro a
 induction a with
 |nil =>
  intro b h
  cases b with
  |nil=>exact⟨rfl,rfl⟩
  |cons y b=>cases h
 |cons x a ih =>
  intro b h
  cases b with
  |nil=>cases h
  |cons y b =>
   unfold compatC at h ⊢
   by_cases c1:badC x y=true
   ·rw [if_pos c1]at h;cases h
   rw [if_neg c1]at h ⊢
   by_cases c2:(compatC a b).2≠0
   ·rw [if_pos c2]at h;cases h
   rw [if_neg c2]
   have:=ih (Decidable.not_not.1 c2)
   simp only [List.length_cons]
   omega
theorem leg_take {cols:List (List Int)} {i:Nat} (hi:i≤cols.length) {a:Int} (h:legN (cols.take i).length a=true):(cols.take i).getD a.toNat []=cols.getD a.toNat []:=by
 unfold legN at h
 rw [List.length_take,Nat.min_eq_left hi]at h
 simp only [Bool.and_eq_true,decide_eq_true_eq]at h
 rw [List.getD_eq_getElem?_getD,List.getD_eq_getElem?_getD,List.getElem?_take,if_pos (by omega)]
theorem Typed.wide {types:List TypI} {q:QueryI} {cols:List (List Int)} (h:Typed types q cols) (i:Nat) (hi:i<q.nodes.length):(1≤q.nodes[i]!.kind∧q.nodes[i]!.kind≤10)∧wideN cols (fun j=>(cols.getD j []).length) q.nodes[i]! (cols.getD i []).length:=by
 obtain⟨h1,-,-⟩:=h.at_ i hi
 have hil:i≤cols.length:=by rw [h.len];omega
 generalize q.nodes[i]! = n at h1
 have hk:=colsN_ok _ _ _ _ (show (colsN q.exprs types (cols.take i) n).2=0 by rw [h1])
 obtain⟨k1,k2,k3,k4⟩:=hk
 refine⟨k1,?_⟩
 generalize cols.getD i []=c at h1
 have ha:n.kind≠1→(cols.take i).getD n.a.toNat []=cols.getD n.a.toNat []:=fun e=>leg_take hil (k2 e)
 have hb:binK n.kind=true→(cols.take i).getD n.b.toNat []=cols.getD n.b.toNat []:=fun e=>leg_take hil (k3 e)
 unfold colsN at h1
 rw [if_neg (by omega)]at h1
 by_cases c2:n.kind=1
 ·exact⟨fun e=>by omega,fun e=>by omega,fun e=>by omega,fun e=>by omega,fun e=>by omega,fun e=>by omega⟩
 rw [if_neg c2]at h1
 have hb4:4≤n.kind→n.kind≤8→binK n.kind=true:=fun x y=>by unfold binK;simp [x,y]
 rw [if_neg (fun e=>e.elim (fun e=>by rw [k2 c2]at e;cases e) (fun e=>by rw [k3 e.1]at e;cases e.2))]at h1
 by_cases c4:n.kind=2
 ·rw [if_pos c4,ha c2]at h1
  have e1:=congrArg Prod.fst h1
  dsimp only at e1
  rw [←e1]
  exact⟨fun e=>Nat.le_refl _,fun e=>by omega,fun e=>by omega,fun e=>by omega,fun e=>by omega,fun e=>by omega⟩
 rw [if_neg c4]at h1
 by_cases c5:n.kind=4∨n.kind=5
 ·rw [if_pos c5]at h1
  have e1:=congrArg Prod.fst h1
  dsimp only at e1
  unfold inputC at e1
  rw [if_pos (hb4 (by omega) (by omega)),ha c2,hb (hb4 (by omega) (by omega))]at e1
  have e2:=congrArg List.length e1
  rw [List.length_append]at e2
  exact⟨fun e=>by omega,fun e=>by omega,fun e=>by omega,fun e=>by dsimp only;omega,fun e=>by dsimp only;omega,fun e=>by omega⟩
 rw [if_neg c5]at h1
 by_cases c6:n.kind=3
 ·rw [if_pos c6]at h1
  have e1:=exprsC_lenT (show (exprsC q.exprs (inputC (cols.take i) n) n.exprs []).2=0 by rw [h1])
  rw [h1]at e1
  dsimp only at e1
  rw [List.length_nil]at e1
  exact⟨fun e=>by omega,fun e=>by omega,fun e=>by omega,fun e=>by omega,fun e=>by omega,fun e=>by omega⟩
 rw [if_neg c6]at h1
 by_cases c7:6≤n.kind∧n.kind≤8
 ·rw [if_pos c7]at h1
  have e1:=compatC_lenT (show (compatC ((cols.take i).getD n.a.toNat []) ((cols.take i).getD n.b.toNat [])).2=0 by rw [h1])
  rw [h1,ha c2,hb (hb4 (by omega) (by omega))]at e1
  dsimp only at e1
  exact⟨fun e=>by dsimp only;omega,fun e=>by dsimp only;omega,fun e=>by omega,fun e=>by omega,fun e=>by omega,fun e=>by omega⟩
 rw [if_neg c7]at h1
 by_cases c8:n.kind=10
 ·rw [if_pos c8]at h1
  unfold groupC at h1
  by_cases c9:(exprsC q.exprs (inputC (cols.take i) n) n.exprs []).2≠0
  ·rw [if_pos c9]at h1
   exact absurd (congrArg Prod.snd h1) c9
  rw [if_neg c9]at h1
  have e1:=exprsC_lenT (Decidable.not_not.1 c9)
  have e2:=aggsC_lenT (show (aggsC q.exprs (inputC (cols.take i) n) n.aggs (exprsC q.exprs (inputC (cols.take i) n) n.exprs []).1 false).2=0 by rw [h1])
  rw [h1,e1]at e2
  dsimp only at e2
  rw [List.length_nil]at e2
  exact⟨fun e=>by omega,fun e=>by omega,fun e=>by omega,fun e=>by omega,fun e=>by omega,fun e=>by omega⟩
 ·rw [if_neg c8,ha c2]at h1
  have e1:=congrArg Prod.fst h1
  dsimp only at e1
  rw [←e1]
  exact⟨fun e=>Nat.le_refl _,fun e=>by omega,fun e=>by omega,fun e=>by omega,fun e=>by omega,fun e=>by omega⟩
theorem scan_cols {nm:ByteArray} {c:List Int} : ∀ {db:List TabI},scanC (db.map TabI.typ) nm=(c,0)→ ∀r∈scanP db nm,∃t∈db,t.typ.kinds=c∧r∈t.rows:=by
 intro db
 induction db with
 |nil=>intro h;cases h
 |cons t ts ih =>
  intro h r hr
  rw [scanP_cons]at hr
  unfold scanC at h
  rw [List.map_cons]at h
  by_cases c1:t.typ.name=nm
  ·rw [if_pos c1]at hr
   rw [List.find?_cons_of_pos (by simpa using c1)]at h
   exact⟨t,List.mem_cons_self ..,congrArg Prod.fst h,hr⟩
  ·rw [if_neg c1]at hr
   rw [List.find?_cons_of_neg (by simpa using c1)]at h
   obtain⟨u,hu,h2⟩:=ih (by unfold scanC;exact h) r hr
   exact⟨u,List.mem_cons_of_mem _ hu,h2⟩
theorem Typed.fit {ids:List Int} {L:List Int→Prop} (H:LinP ids L) (hL : ∀l,L l→l.length≤1000) {q:QueryI} {db:List TabI} {cols:List (List Int)} (h:Typed (db.map TabI.typ) q cols) (h0:0<q.nodes.length) (h1:q.nodes.length≤40)
  (he : ∀x∈q.exprs,fitV x.c) (hdb : ∀t∈db,∀r∈t.rows,rowP L t.typ.kinds.length r):FitRun q db∧ ∀r∈(evalQ q db).1,rowP L 64 r:=by
 have hn : ∀i,i<q.nodes.length→(1≤q.nodes[i]!.kind∧q.nodes[i]!.kind≤10)∧(q.nodes[i]!.kind=1→ ∀r∈scanP db q.nodes[i]!.table,rowP L (cols.getD i []).length r)∧wideN (columnsQ q (db.map TabI.typ)).1 (fun j=>(cols.getD j []).length) q.nodes[i]! (cols.getD i []).length:=fun i hi=>by
  obtain⟨k1,k2⟩:=h.wide i hi
  refine⟨k1,fun e r hr=> ?_,by rw [h.cols h0 h1];exact k2⟩
  have h2:=(h.at_ i hi).1
  unfold colsN at h2
  rw [if_neg (by omega),if_pos e]at h2
  obtain⟨t,ht,e1,hr2⟩:=scan_cols h2 r hr
  rw [←e1]
  exact hdb t ht r hr2
 have hw : ∀i,(cols.getD i []).length≤64:=fun i=>by
  by_cases c:i<q.nodes.length
  ·exact(h.at_ i c).2.2
  ·rw [List.getD_eq_getElem?_getD,List.getElem?_eq_none (by rw [h.len];omega)]
   exact Nat.zero_le _
 exact⟨run_fit H hL q he db (fun j=>(cols.getD j []).length) (fun i=>Nat.le_trans (hw i) (by decide)) hn,fun r hr=>(eval_rows H q he db (fun j=>(cols.getD j []).length) hn r hr).wide (hw _)⟩
def typT (es:List ExprI) (cols:List Int) (j:Nat):Int×Int:=chkStep cols (chkAll es cols j) es[j]!
theorem check_at {es:List ExprI} {cols:List Int} {r:Nat} (h:r<es.length) (hl:es.length≤200):checkE es cols (r:Int)=typT es cols r:=by
 unfold checkE
 rw [if_neg (by omega),if_neg (by omega),Int.toNat_natCast,chkAll_get es cols (r+1) r (by omega)]
 rfl
theorem typ_get {es:List ExprI} {cols:List Int} {j a:Nat} (h:a<j):(chkAll es cols j).getD a (0,0)=typT es cols a:=chkAll_get es cols j a h
theorem typ_col {es:List ExprI} {cols:List Int} {j i:Nat} (he:es[j]! = ⟨2,0,0,i,nV⟩) (hi:i<cols.length):typT es cols j=(cols.getD i 0,0):=by
 unfold typT
 rw [he]
 unfold chkStep
 rw [if_neg (by simp [arityE]),if_neg (by simp [legalE,opsE,arityE]),if_neg (by dsimp only;omega),if_neg (by simp [opsE,arityE,kindsE])]
 simp [combineE]
theorem typ_const {es:List ExprI} {cols:List Int} {j:Nat} {c:Val} (he:es[j]! = ⟨1,0,0,0,c⟩) (hc:validV c=true):typT es cols j=(c.kind,0):=by
 unfold typT
 rw [he]
 unfold chkStep
 rw [if_neg (by simp [arityE,hc]),if_neg (by simp [legalE,opsE,arityE]),if_neg (by simp),if_neg (by simp [opsE,arityE,kindsE])]
 simp [combineE]
theorem typ_null {es:List ExprI} {cols:List Int} {j a:Nat} (he:es[j]! = ⟨11,a,0,0,nV⟩) (ha:a<j) (h:(typT es cols a).2=0):typT es cols j=(3,0):=by
 have hg:=typ_get (es:=es) (cols:=cols) ha
 rw [←hg]at h
 unfold typT
 rw [he]
 unfold chkStep
 rw [chkAll_len,if_neg (by simp [arityE]),if_neg (by simp [legalE,opsE,arityE];omega),if_neg (by simp)]
 have e:kindsE (chkAll es cols j) (opsE ⟨11,a,0,0,nV⟩) []=([((chkAll es cols j).getD a (0,0)).1],0):=by
  simp only [opsE,arityE]
  simp [kindsE,List.getD_eq_getElem?_getD]at h ⊢
  exact h
 rw [e,if_neg (by simp)]
 simp [combineE]
theorem typ_not {es:List ExprI} {cols:List Int} {j a:Nat} (he:es[j]! = ⟨10,a,0,0,nV⟩) (ha:a<j) (h:typT es cols a=(3,0)):typT es cols j=(3,0):=by
 have hg:=typ_get (es:=es) (cols:=cols) ha
 rw [←hg]at h
 unfold typT
 rw [he]
 unfold chkStep
 rw [chkAll_len,if_neg (by simp [arityE]),if_neg (by simp [legalE,opsE,arityE];omega),if_neg (by simp)]
 have e:kindsE (chkAll es cols j) (opsE ⟨10,a,0,0,nV⟩) []=([3],0):=by
  simp only [opsE,arityE]
  simp [kindsE,List.getD_eq_getElem?_getD]at h ⊢
  simp [h]
 rw [e,if_neg (by simp)]
 simp [combineE,accE]
theorem typ_cmp {es:List ExprI} {cols:List Int} {j a b:Nat} {op k:Int} (hop:op=6∨op=7) (he:es[j]! = ⟨op,a,b,0,nV⟩) (ha:a<j) (hb:b<j) (h:typT es cols a=(k,0)) (h2:typT es cols b=(k,0)):typT es cols j=(3,0):=by
 have hg:=typ_get (es:=es) (cols:=cols) ha
 have hg2:=typ_get (es:=es) (cols:=cols) hb
 rw [←hg]at h
 rw [←hg2]at h2
 unfold typT
 rw [he]
 unfold chkStep
 have har:arityE op=2:=by rcases hop with rfl | rfl <;> rfl
 have e:kindsE (chkAll es cols j) (opsE ⟨op,a,b,0,nV⟩) []=([k,k],0):=by
  simp only [opsE,har]
  simp [kindsE,List.getD_eq_getElem?_getD]at h h2 ⊢
  simp [h,h2]
 rw [chkAll_len,if_neg (by dsimp only;rw [har];omega),if_neg (by simp [legalE,opsE,har];omega),if_neg (by dsimp only;omega),e,if_neg (by simp)]
 unfold combineE
 rw [if_neg (by dsimp only;omega),if_neg (by dsimp only;omega),if_neg (by dsimp only;omega),if_pos hop,if_neg (by simp [accE])]
theorem valid_int (n:Int):validV (intVal n)=true:=by
 unfold validV intVal
 rw [if_neg (by simp),if_pos rfl]
 have h:ByteArray.empty.toList.isEmpty=true:=by simp
 exact h
theorem valid_text (x:Int):validV ⟨2,0,genStr x⟩=true:=by
 unfold validV
 rw [if_neg (by simp),if_neg (by simp),if_pos rfl]
 have h:(genStr x).size≤2:=by unfold genStr;split;exact Nat.zero_le _;split <;> decide
 simp
 omega
theorem const_typ {k:Int} (hk:k=1∨k=2) (x:Int):validV (constV k x)=true∧(constV k x).kind=k:=by
 unfold constV
 have h7 : ¬(x % 6) % 7=6:=by omega
 rcases hk with rfl | rfl
 ·rw [if_pos rfl]
  unfold genV0
  rw [if_neg h7]
  exact⟨valid_int _,rfl⟩
 ·rw [if_neg (by decide),if_pos rfl]
  unfold genV1
  rw [if_neg h7]
  exact⟨valid_text _,rfl⟩
theorem nth_app {es fs:List ExprI} {j:Nat} {f:ExprI} (h:fs[j]?=some f):(es++fs)[es.length+j]! = f:=by
 have hj:j<fs.length:=(List.getElem?_eq_some_iff.1 h).1
 rw [getElem!_pos (es++fs) (es.length+j) (by rw [List.length_append];omega),List.getElem_append_right (by omega)]
 have:=(List.getElem?_eq_some_iff.1 h).2
 simpa using this
theorem pred_typ (es:List ExprI) (kinds:List Int) (x0 x1 x2 x3:Int) (hk:0<kinds.length) (hr : ∀k∈kinds,k=1∨k=2) (hl:es.length≤190) :
  checkE (es++predL kinds x0 x1 x2 x3 es.length) kinds (((es++predL kinds x0 x1 x2 x3 es.length).length - 1:Nat):Int)=(3,0):=by
 obtain⟨i,hi⟩ : ∃i:Nat,pickI x0 kinds.length=i:=⟨(pickI x0 kinds.length).toNat,by have:=pick_rng (k:=x0) (n:=kinds.length) (by omega);omega⟩
 obtain⟨k,hk2⟩ : ∃k:Nat,pickI x1 kinds.length=k:=⟨(pickI x1 kinds.length).toNat,by have:=pick_rng (k:=x1) (n:=kinds.length) (by omega);omega⟩
 have hin:i<kinds.length:=by have:=pick_rng (k:=x0) (n:=kinds.length) (by omega);omega
 have hkn:k<kinds.length:=by have:=pick_rng (k:=x1) (n:=kinds.length) (by omega);omega
 have hki:kinds.getD i 0=1∨kinds.getD i 0=2:=by rw [List.getD_eq_getElem?_getD,List.getElem?_eq_getElem hin];exact hr _ (List.getElem_mem hin)
 obtain⟨m,hm⟩ : ∃m,m=es.length:=⟨_,rfl⟩
 have hpl:predL kinds x0 x1 x2 x3 m = [⟨2,0,0,i,nV⟩]++if x2 % 5=0 then [⟨11,m,0,0,nV⟩]else [selE kinds x2 x3 i k,⟨if x2 % 2=0 then 7 else 6,m,m+1,0,nV⟩]++if x3 % 4=0 then [⟨10,m+2,0,0,nV⟩]else []:=by
  unfold predL
  rw [hi,hk2]
  rfl
 rw [←hm,hpl]
 by_cases c1:x2 % 5=0
 ·rw [if_pos c1]
  have h0:(es++([⟨2,0,0,i,nV⟩] ++ [⟨11,m,0,0,nV⟩]))[es.length+0]! = ⟨2,0,0,i,nV⟩:=nth_app rfl
  have h1:(es++([⟨2,0,0,i,nV⟩] ++ [⟨11,m,0,0,nV⟩]))[es.length+1]! = ⟨11,m,0,0,nV⟩:=nth_app rfl
  have hlen:(es++([(⟨2,0,0,i,nV⟩:ExprI)] ++ [(⟨11,m,0,0,nV⟩:ExprI)])).length=m+2:=by rw [List.length_append,hm];rfl
  generalize es++([(⟨2,0,0,i,nV⟩:ExprI)] ++ [(⟨11,m,0,0,nV⟩:ExprI)])=full at h0 h1 hlen
  rw [←hm]at h0 h1
  rw [Nat.add_zero]at h0
  rw [hlen,show m+2 - 1=m+1 from rfl,check_at (by omega) (by omega)]
  exact typ_null h1 (by omega) (by rw [typ_col h0 hin])
 ·rw [if_neg c1]
  have hs : ∀full:List ExprI,full[m+1]! = selE kinds x2 x3 i k→typT full kinds (m+1)=(kinds.getD i 0,0):=fun full h=>by
   unfold selE at h
   split at h
   ·rename_i c
    rw [typ_col h hkn,c.1]
   ·rw [typ_const h (const_typ hki x3).1,(const_typ hki x3).2]
  have hop:(if x2 % 2=0 then(7:Int)else 6)=6∨(if x2 % 2=0 then(7:Int)else 6)=7:=by split <;> simp
  generalize (if x2 % 2=0 then(7:Int)else 6)=op at hop
  generalize selE kinds x2 x3 i k=se at hs
  by_cases c2:x3 % 4=0
  ·rw [if_pos c2]
   have h0:(es++([⟨2,0,0,i,nV⟩]++([se,⟨op,m,m+1,0,nV⟩] ++ [⟨10,m+2,0,0,nV⟩])))[es.length+0]! = ⟨2,0,0,i,nV⟩:=nth_app rfl
   have h1:(es++([⟨2,0,0,i,nV⟩]++([se,⟨op,m,m+1,0,nV⟩] ++ [⟨10,m+2,0,0,nV⟩])))[es.length+1]! = se:=nth_app rfl
   have h2:(es++([⟨2,0,0,i,nV⟩]++([se,⟨op,m,m+1,0,nV⟩] ++ [⟨10,m+2,0,0,nV⟩])))[es.length+2]! = ⟨op,m,m+1,0,nV⟩:=nth_app rfl
   have h3:(es++([⟨2,0,0,i,nV⟩]++([se,⟨op,m,m+1,0,nV⟩] ++ [⟨10,m+2,0,0,nV⟩])))[es.length+3]! = ⟨10,m+2,0,0,nV⟩:=nth_app rfl
   have hlen:(es++([(⟨2,0,0,i,nV⟩:ExprI)]++([se,(⟨op,m,m+1,0,nV⟩:ExprI)] ++ [(⟨10,m+2,0,0,nV⟩:ExprI)]))).length=m+4:=by rw [List.length_append,hm];rfl
   generalize es++([(⟨2,0,0,i,nV⟩:ExprI)]++([se,(⟨op,m,m+1,0,nV⟩:ExprI)] ++ [(⟨10,m+2,0,0,nV⟩:ExprI)]))=full at h0 h1 h2 h3 hlen
   rw [←hm]at h0 h1 h2 h3
   rw [Nat.add_zero]at h0
   rw [hlen,show m+4 - 1=m+3 from rfl,check_at (by omega) (by omega)]
   exact typ_not (a:=m+2) h3 (by omega) (typ_cmp (a:=m) (b:=m+1) hop h2 (by omega) (by omega) (typ_col h0 hin) (hs _ h1))
  ·rw [if_neg c2]
   have h0:(es++([⟨2,0,0,i,nV⟩]++([se,⟨op,m,m+1,0,nV⟩] ++ [])))[es.length+0]! = ⟨2,0,0,i,nV⟩:=nth_app rfl
   have h1:(es++([⟨2,0,0,i,nV⟩]++([se,⟨op,m,m+1,0,nV⟩] ++ [])))[es.length+1]! = se:=nth_app rfl
   have h2:(es++([⟨2,0,0,i,nV⟩]++([se,⟨op,m,m+1,0,nV⟩] ++ [])))[es.length+2]! = ⟨op,m,m+1,0,nV⟩:=nth_app rfl
   have hlen:(es++([(⟨2,0,0,i,nV⟩:ExprI)]++([se,(⟨op,m,m+1,0,nV⟩:ExprI)] ++ []))).length=m+3:=by rw [List.length_append,hm];rfl
   generalize es++([(⟨2,0,0,i,nV⟩:ExprI)]++([se,(⟨op,m,m+1,0,nV⟩:ExprI)] ++ []))=full at h0 h1 h2 hlen
   rw [←hm]at h0 h1 h2
   rw [Nat.add_zero]at h0
   rw [hlen,show m+3 - 1=m+2 from rfl,check_at (by omega) (by omega)]
   exact typ_cmp (a:=m) (b:=m+1) hop h2 (by omega) (by omega) (typ_col h0 hin) (hs _ h1)
theorem predL_fit (kinds:List Int) (x0 x1 x2 x3:Int) (n:Nat):(predL kinds x0 x1 x2 x3 n).length≤4∧ ∀e∈predL kinds x0 x1 x2 x3 n,fitV e.c:=by
 have hn:fitV nV:=fit_nV
 have hc : ∀k,fitV (constV k x3):=fun k=>by
  have h : ∀z,(genStr z).size≤2:=fun z=>by unfold genStr;split;exact Nat.zero_le _;split <;> decide
  unfold constV genV0 genV1 fitV
  repeat' split
  all_goals first | exact Nat.zero_le _ | exact Nat.le_trans (h _) (by decide)
 have hs : ∀i k,fitV (selE kinds x2 x3 i k).c:=fun i k=>by
  unfold selE
  split
  ·exact hn
  ·exact hc _
 refine⟨?_,fun e he=> ?_⟩
 ·unfold predL
  rw [List.length_append]
  have h1 : ∀(c:Prop) [Decidable c] (a b:List ExprI),a.length≤3→b.length≤3→(if c then a else b).length≤3:=fun c _ a b ha hb=>by split <;> assumption
  have h2 : ∀(c:Prop) [Decidable c] (a b:List ExprI),a.length≤1→b.length≤1→(if c then a else b).length≤1:=fun c _ a b ha hb=>by split <;> assumption
  refine Nat.le_trans (Nat.add_le_add_left (h1 _ _ _ (by simp) ?_) _) (by simp)
  rw [List.length_append]
  have:=h2 (x3 % 4=0) [(⟨10,n+2,0,0,nV⟩:ExprI)] [] (by simp) (by simp)
  simp only [List.length_cons,List.length_nil]at this ⊢
  omega
 ·unfold predL at he
  rcases List.mem_append.1 he with he | he
  ·rw [List.mem_singleton.1 he];exact hn
  ·split at he
   ·rw [List.mem_singleton.1 he];exact hn
   ·rcases List.mem_append.1 he with he | he
    ·simp only [List.mem_cons,List.not_mem_nil,or_false]at he
     rcases he with rfl | rfl
     ·exact hs _ _
     ·exact hn
    ·split at he
     ·rw [List.mem_singleton.1 he];exact hn
     ·cases he
end Go.Proofs.YtombmdaohcjokaaGreatDoor
namespace Go.Proofs.YtombmdaohcjokaaGreatDoor
open Go.RowKit
theorem genV_few (x y:Int):(genVals x y).length≤900∧ ∀z∈genVals x y,z.s.size≤1048576:=by
 refine⟨by simp [genVals],fun v hv=> ?_⟩
 have hv:v∈ [genV0 x,genV1 y]:=hv
 have h : ∀z,(genStr z).size≤2:=fun z=>by unfold genStr;split;exact Nat.zero_le _;split <;> decide
 simp only [List.mem_cons,List.not_mem_nil,or_false]at hv
 rcases hv with rfl | rfl
 ·unfold genV0;split
  ·exact Nat.zero_le _
  ·exact Nat.zero_le _
 ·unfold genV1;split
  ·exact Nat.zero_le _
  ·exact Nat.le_trans (h _) (by decide)
theorem lit_q1 (w:World):SliceOf Rep.node (((w.alloc (.cells #[.int .i64 1,.int .i64 0] 74)).alloc (.cells #[.int .i64 1,.int .i64 0,.int .i64 0,.int .i64 0,.string ⟨#[114]⟩,.slice none 0 0,.slice none 0 0,.int .i64 10,.int .i64 0,.int .i64 0,.int .i64 0,.string ⟨#[]⟩,.slice none 0 0,.slice (some ⟨w.heap.size,0,none⟩) 1 1] 64)).alloc (.cells #[.slice (some ⟨w.heap.size+1,0,none⟩) 2 2,.slice none 0 0] 25)).cell? (.slice (some ⟨w.heap.size+1,0,none⟩) 2 2) qA1.nodes∧((((w.alloc (.cells #[.int .i64 1,.int .i64 0] 74)).alloc (.cells #[.int .i64 1,.int .i64 0,.int .i64 0,.int .i64 0,.string ⟨#[114]⟩,.slice none 0 0,.slice none 0 0,.int .i64 10,.int .i64 0,.int .i64 0,.int .i64 0,.string ⟨#[]⟩,.slice none 0 0,.slice (some ⟨w.heap.size,0,none⟩) 1 1] 64)).alloc (.cells #[.slice (some ⟨w.heap.size+1,0,none⟩) 2 2,.slice none 0 0] 25)).cell? ⟨w.heap.size+1+1,0,none⟩=some (.slice (some ⟨w.heap.size+1,0,none⟩) 2 2)∧(((w.alloc (.cells #[.int .i64 1,.int .i64 0] 74)).alloc (.cells #[.int .i64 1,.int .i64 0,.int .i64 0,.int .i64 0,.string ⟨#[114]⟩,.slice none 0 0,.slice none 0 0,.int .i64 10,.int .i64 0,.int .i64 0,.int .i64 0,.string ⟨#[]⟩,.slice none 0 0,.slice (some ⟨w.heap.size,0,none⟩) 1 1] 64)).alloc (.cells #[.slice (some ⟨w.heap.size+1,0,none⟩) 2 2,.slice none 0 0] 25)).cell? ⟨w.heap.size+1+1,1,none⟩=some (.slice none 0 0))∧Ext w (((w.alloc (.cells #[.int .i64 1,.int .i64 0] 74)).alloc (.cells #[.int .i64 1,.int .i64 0,.int .i64 0,.int .i64 0,.string ⟨#[114]⟩,.slice none 0 0,.slice none 0 0,.int .i64 10,.int .i64 0,.int .i64 0,.int .i64 0,.string ⟨#[]⟩,.slice none 0 0,.slice (some ⟨w.heap.size,0,none⟩) 1 1] 64)).alloc (.cells #[.slice (some ⟨w.heap.size+1,0,none⟩) 2 2,.slice none 0 0] 25)):=by
 have xa:=(Ext.refl (w.alloc (.cells #[.int .i64 1,.int .i64 0] 74))).alloc (.cells #[.int .i64 1,.int .i64 0,.int .i64 0,.int .i64 0,.string ⟨#[114]⟩,.slice none 0 0,.slice none 0 0,.int .i64 10,.int .i64 0,.int .i64 0,.int .i64 0,.string ⟨#[]⟩,.slice none 0 0,.slice (some ⟨w.heap.size,0,none⟩) 1 1] 64)
 have a:SliceOf Rep.agg (w.alloc (.cells #[.int .i64 1,.int .i64 0] 74)).cell? (.slice (some ⟨w.heap.size,0,none⟩) 1 1) [⟨1,0⟩]:=slice_lit Rep.agg w [.int .i64 1,.int .i64 0] 74 [[.int .i64 1,.int .i64 0]] [⟨1,0⟩] rfl ⟨⟨rfl,by unfold okI;dsimp only;omega⟩,trivial⟩ (by simp [maxLen])
 have n:SliceOf Rep.node ((w.alloc (.cells #[.int .i64 1,.int .i64 0] 74)).alloc (.cells #[.int .i64 1,.int .i64 0,.int .i64 0,.int .i64 0,.string ⟨#[114]⟩,.slice none 0 0,.slice none 0 0,.int .i64 10,.int .i64 0,.int .i64 0,.int .i64 0,.string ⟨#[]⟩,.slice none 0 0,.slice (some ⟨w.heap.size,0,none⟩) 1 1] 64)).cell? (.slice (some ⟨(w.alloc (.cells #[.int .i64 1,.int .i64 0] 74)).heap.size,0,none⟩) 2 2) qA1.nodes:=slice_lit Rep.node (w.alloc (.cells #[.int .i64 1,.int .i64 0] 74)) [.int .i64 1,.int .i64 0,.int .i64 0,.int .i64 0,.string ⟨#[114]⟩,.slice none 0 0,.slice none 0 0,.int .i64 10,.int .i64 0,.int .i64 0,.int .i64 0,.string ⟨#[]⟩,.slice none 0 0,.slice (some ⟨w.heap.size,0,none⟩) 1 1] 64 [[.int .i64 1,.int .i64 0,.int .i64 0,.int .i64 0,.string ⟨#[114]⟩,.slice none 0 0,.slice none 0 0],[.int .i64 10,.int .i64 0,.int .i64 0,.int .i64 0,.string ⟨#[]⟩,.slice none 0 0,.slice (some ⟨w.heap.size,0,none⟩) 1 1]] qA1.nodes rfl
  ⟨⟨_,_,rfl,SliceOf.nil _ _,SliceOf.nil _ _,⟨by unfold okI;dsimp only;omega,by unfold okI;dsimp only;omega,by unfold okI;dsimp only;omega,by unfold okI;dsimp only;omega⟩,(show (⟨#[114]⟩:ByteArray).size≤maxLen by decide)⟩,⟨_,_,rfl,SliceOf.nil _ _,a.ext xa.full,⟨by unfold okI;dsimp only;omega,by unfold okI;dsimp only;omega,by unfold okI;dsimp only;omega,by unfold okI;dsimp only;omega⟩,(show (⟨#[]⟩:ByteArray).size≤maxLen by decide)⟩,trivial⟩ (by simp [maxLen,qA1])
 have hz:(w.alloc (.cells #[.int .i64 1,.int .i64 0] 74)).heap.size=w.heap.size+1:=by simp
 rw [hz]at n
 exact⟨n.ext ((Ext.refl _).alloc _).full,⟨by go_simp,by go_simp⟩,(((Ext.refl w).alloc _).alloc _).alloc _⟩
theorem lit_q2 (w:World):SliceOf Rep.node (((w.alloc (.cells #[.int .i64 1,.int .i64 0,.int .i64 0,.int .i64 0,.string ⟨#[114]⟩,.slice none 0 0,.slice none 0 0,.int .i64 1,.int .i64 0,.int .i64 0,.int .i64 0,.string ⟨#[115]⟩,.slice none 0 0,.slice none 0 0,.int .i64 5,.int .i64 0,.int .i64 1,.int .i64 0,.string ⟨#[]⟩,.slice none 0 0,.slice none 0 0] 64)).alloc (.cells #[.int .i64 1,.int .i64 0,.int .i64 0,.int .i64 0,.int .i64 3,.int .i64 1,.string ⟨#[]⟩] 66)).alloc (.cells #[.slice (some ⟨w.heap.size,0,none⟩) 3 3,.slice (some ⟨w.heap.size+1,0,none⟩) 1 1] 25)).cell? (.slice (some ⟨w.heap.size,0,none⟩) 3 3) qA2.nodes∧SliceOf Rep.expr (((w.alloc (.cells #[.int .i64 1,.int .i64 0,.int .i64 0,.int .i64 0,.string ⟨#[114]⟩,.slice none 0 0,.slice none 0 0,.int .i64 1,.int .i64 0,.int .i64 0,.int .i64 0,.string ⟨#[115]⟩,.slice none 0 0,.slice none 0 0,.int .i64 5,.int .i64 0,.int .i64 1,.int .i64 0,.string ⟨#[]⟩,.slice none 0 0,.slice none 0 0] 64)).alloc (.cells #[.int .i64 1,.int .i64 0,.int .i64 0,.int .i64 0,.int .i64 3,.int .i64 1,.string ⟨#[]⟩] 66)).alloc (.cells #[.slice (some ⟨w.heap.size,0,none⟩) 3 3,.slice (some ⟨w.heap.size+1,0,none⟩) 1 1] 25)).cell? (.slice (some ⟨w.heap.size+1,0,none⟩) 1 1) qA2.exprs∧((((w.alloc (.cells #[.int .i64 1,.int .i64 0,.int .i64 0,.int .i64 0,.string ⟨#[114]⟩,.slice none 0 0,.slice none 0 0,.int .i64 1,.int .i64 0,.int .i64 0,.int .i64 0,.string ⟨#[115]⟩,.slice none 0 0,.slice none 0 0,.int .i64 5,.int .i64 0,.int .i64 1,.int .i64 0,.string ⟨#[]⟩,.slice none 0 0,.slice none 0 0] 64)).alloc (.cells #[.int .i64 1,.int .i64 0,.int .i64 0,.int .i64 0,.int .i64 3,.int .i64 1,.string ⟨#[]⟩] 66)).alloc (.cells #[.slice (some ⟨w.heap.size,0,none⟩) 3 3,.slice (some ⟨w.heap.size+1,0,none⟩) 1 1] 25)).cell? ⟨w.heap.size+1+1,0,none⟩=some (.slice (some ⟨w.heap.size,0,none⟩) 3 3)∧(((w.alloc (.cells #[.int .i64 1,.int .i64 0,.int .i64 0,.int .i64 0,.string ⟨#[114]⟩,.slice none 0 0,.slice none 0 0,.int .i64 1,.int .i64 0,.int .i64 0,.int .i64 0,.string ⟨#[115]⟩,.slice none 0 0,.slice none 0 0,.int .i64 5,.int .i64 0,.int .i64 1,.int .i64 0,.string ⟨#[]⟩,.slice none 0 0,.slice none 0 0] 64)).alloc (.cells #[.int .i64 1,.int .i64 0,.int .i64 0,.int .i64 0,.int .i64 3,.int .i64 1,.string ⟨#[]⟩] 66)).alloc (.cells #[.slice (some ⟨w.heap.size,0,none⟩) 3 3,.slice (some ⟨w.heap.size+1,0,none⟩) 1 1] 25)).cell? ⟨w.heap.size+1+1,1,none⟩=some (.slice (some ⟨w.heap.size+1,0,none⟩) 1 1))∧Ext w (((w.alloc (.cells #[.int .i64 1,.int .i64 0,.int .i64 0,.int .i64 0,.string ⟨#[114]⟩,.slice none 0 0,.slice none 0 0,.int .i64 1,.int .i64 0,.int .i64 0,.int .i64 0,.string ⟨#[115]⟩,.slice none 0 0,.slice none 0 0,.int .i64 5,.int .i64 0,.int .i64 1,.int .i64 0,.string ⟨#[]⟩,.slice none 0 0,.slice none 0 0] 64)).alloc (.cells #[.int .i64 1,.int .i64 0,.int .i64 0,.int .i64 0,.int .i64 3,.int .i64 1,.string ⟨#[]⟩] 66)).alloc (.cells #[.slice (some ⟨w.heap.size,0,none⟩) 3 3,.slice (some ⟨w.heap.size+1,0,none⟩) 1 1] 25)):=by
 have n:SliceOf Rep.node (w.alloc (.cells #[.int .i64 1,.int .i64 0,.int .i64 0,.int .i64 0,.string ⟨#[114]⟩,.slice none 0 0,.slice none 0 0,.int .i64 1,.int .i64 0,.int .i64 0,.int .i64 0,.string ⟨#[115]⟩,.slice none 0 0,.slice none 0 0,.int .i64 5,.int .i64 0,.int .i64 1,.int .i64 0,.string ⟨#[]⟩,.slice none 0 0,.slice none 0 0] 64)).cell? (.slice (some ⟨w.heap.size,0,none⟩) 3 3) qA2.nodes:=slice_lit Rep.node w [.int .i64 1,.int .i64 0,.int .i64 0,.int .i64 0,.string ⟨#[114]⟩,.slice none 0 0,.slice none 0 0,.int .i64 1,.int .i64 0,.int .i64 0,.int .i64 0,.string ⟨#[115]⟩,.slice none 0 0,.slice none 0 0,.int .i64 5,.int .i64 0,.int .i64 1,.int .i64 0,.string ⟨#[]⟩,.slice none 0 0,.slice none 0 0] 64 [[.int .i64 1,.int .i64 0,.int .i64 0,.int .i64 0,.string ⟨#[114]⟩,.slice none 0 0,.slice none 0 0],[.int .i64 1,.int .i64 0,.int .i64 0,.int .i64 0,.string ⟨#[115]⟩,.slice none 0 0,.slice none 0 0],[.int .i64 5,.int .i64 0,.int .i64 1,.int .i64 0,.string ⟨#[]⟩,.slice none 0 0,.slice none 0 0]] qA2.nodes rfl
  ⟨⟨_,_,rfl,SliceOf.nil _ _,SliceOf.nil _ _,⟨by unfold okI;dsimp only;omega,by unfold okI;dsimp only;omega,by unfold okI;dsimp only;omega,by unfold okI;dsimp only;omega⟩,(show (⟨#[114]⟩:ByteArray).size≤maxLen by decide)⟩,⟨_,_,rfl,SliceOf.nil _ _,SliceOf.nil _ _,⟨by unfold okI;dsimp only;omega,by unfold okI;dsimp only;omega,by unfold okI;dsimp only;omega,by unfold okI;dsimp only;omega⟩,(show (⟨#[115]⟩:ByteArray).size≤maxLen by decide)⟩,⟨_,_,rfl,SliceOf.nil _ _,SliceOf.nil _ _,⟨by unfold okI;dsimp only;omega,by unfold okI;dsimp only;omega,by unfold okI;dsimp only;omega,by unfold okI;dsimp only;omega⟩,(show (⟨#[]⟩:ByteArray).size≤maxLen by decide)⟩,trivial⟩ (by simp [maxLen,qA2])
 have e:SliceOf Rep.expr ((w.alloc (.cells #[.int .i64 1,.int .i64 0,.int .i64 0,.int .i64 0,.string ⟨#[114]⟩,.slice none 0 0,.slice none 0 0,.int .i64 1,.int .i64 0,.int .i64 0,.int .i64 0,.string ⟨#[115]⟩,.slice none 0 0,.slice none 0 0,.int .i64 5,.int .i64 0,.int .i64 1,.int .i64 0,.string ⟨#[]⟩,.slice none 0 0,.slice none 0 0] 64)).alloc (.cells #[.int .i64 1,.int .i64 0,.int .i64 0,.int .i64 0,.int .i64 3,.int .i64 1,.string ⟨#[]⟩] 66)).cell? (.slice (some ⟨(w.alloc (.cells #[.int .i64 1,.int .i64 0,.int .i64 0,.int .i64 0,.string ⟨#[114]⟩,.slice none 0 0,.slice none 0 0,.int .i64 1,.int .i64 0,.int .i64 0,.int .i64 0,.string ⟨#[115]⟩,.slice none 0 0,.slice none 0 0,.int .i64 5,.int .i64 0,.int .i64 1,.int .i64 0,.string ⟨#[]⟩,.slice none 0 0,.slice none 0 0] 64)).heap.size,0,none⟩) 1 1) qA2.exprs:=slice_lit Rep.expr (w.alloc (.cells #[.int .i64 1,.int .i64 0,.int .i64 0,.int .i64 0,.string ⟨#[114]⟩,.slice none 0 0,.slice none 0 0,.int .i64 1,.int .i64 0,.int .i64 0,.int .i64 0,.string ⟨#[115]⟩,.slice none 0 0,.slice none 0 0,.int .i64 5,.int .i64 0,.int .i64 1,.int .i64 0,.string ⟨#[]⟩,.slice none 0 0,.slice none 0 0] 64)) [.int .i64 1,.int .i64 0,.int .i64 0,.int .i64 0,.int .i64 3,.int .i64 1,.string ⟨#[]⟩] 66 [[.int .i64 1,.int .i64 0,.int .i64 0,.int .i64 0,.int .i64 3,.int .i64 1,.string ⟨#[]⟩]] qA2.exprs rfl
  ⟨⟨rfl,by unfold okI;dsimp only;omega,⟨by dsimp only;omega,by dsimp only;omega,Nat.zero_le _⟩⟩,trivial⟩ (by simp [maxLen,qA2])
 have hz:(w.alloc (.cells #[.int .i64 1,.int .i64 0,.int .i64 0,.int .i64 0,.string ⟨#[114]⟩,.slice none 0 0,.slice none 0 0,.int .i64 1,.int .i64 0,.int .i64 0,.int .i64 0,.string ⟨#[115]⟩,.slice none 0 0,.slice none 0 0,.int .i64 5,.int .i64 0,.int .i64 1,.int .i64 0,.string ⟨#[]⟩,.slice none 0 0,.slice none 0 0] 64)).heap.size=w.heap.size+1:=by simp
 rw [hz]at e
 exact⟨n.ext (((Ext.refl _).alloc _).alloc _).full,e.ext ((Ext.refl _).alloc _).full,⟨by go_simp,by go_simp⟩,(((Ext.refl w).alloc _).alloc _).alloc _⟩
theorem keepAw {w1 w w':World} {a b:Addr} {u v:Value} (h:Ext w1 w∧w.cell? a=some u∧w.cell? b=some v) (x:Ext w w'):Ext w1 w'∧w'.cell? a=some u∧w'.cell? b=some v:=⟨h.1.trans x,x.at h.2.1,x.at h.2.2⟩
theorem emptyB:ByteArray.empty=⟨#[]⟩:=rfl
theorem rowLitA {w4:World} {p:Option Addr} {c:Nat} {ga gb:Val} (s:SliceOf Rep.val w4.cell? (.slice p 2 c) [ga,gb]) :
  SliceOf Rep.row ((w4.alloc (.cells #[.int .i64 7] 3)).alloc (.cells #[.slice p 2 c,.slice (some ⟨w4.heap.size,0,none⟩) 1 1] 58)).cell? (.slice (some ⟨w4.heap.size+1,0,none⟩) 1 1) [⟨[ga,gb],[7]⟩]:=by
 have l:=slice_lit Rep.int w4 [.int .i64 7] 3 [[.int .i64 7]] [7] rfl ⟨⟨rfl,by omega⟩,trivial⟩ (by simp [maxLen])
 have hx:=((Ext.refl w4).alloc (.cells #[.int .i64 7] 3)).alloc (.cells #[.slice p 2 c,.slice (some ⟨w4.heap.size,0,none⟩) 1 1] 58)
 have a:SliceOf Rep.row ((w4.alloc (.cells #[.int .i64 7] 3)).alloc (.cells #[.slice p 2 c,.slice (some ⟨w4.heap.size,0,none⟩) 1 1] 58)).cell? (.slice (some ⟨(w4.alloc (.cells #[.int .i64 7] 3)).heap.size,0,none⟩) 1 1) [⟨[ga,gb],[7]⟩] :=
  slice_lit Rep.row (w4.alloc (.cells #[.int .i64 7] 3)) [.slice p 2 c,.slice (some ⟨w4.heap.size,0,none⟩) 1 1] 58 [[.slice p 2 c,.slice (some ⟨w4.heap.size,0,none⟩) 1 1]] [⟨[ga,gb],[7]⟩] rfl ⟨⟨_,_,rfl,s.ext hx.full,l.ext ((Ext.refl _).alloc _).full⟩,trivial⟩ (by simp [maxLen])
 rwa [show (w4.alloc (.cells #[.int .i64 7] 3)).heap.size=w4.heap.size+1 by simp]at a
theorem rowLitB {wl w4:World} {p:Option Addr} {c:Nat} {ga gb:Val} (x:Ext (wl.alloc (.cells #[.int .i64 7] 3)) w4) (s:SliceOf Rep.val w4.cell? (.slice p 2 c) [ga,gb]) :
  SliceOf Rep.row (w4.alloc (.cells #[.slice p 2 c,.slice (some ⟨wl.heap.size,0,none⟩) 1 1] 58)).cell? (.slice (some ⟨w4.heap.size,0,none⟩) 1 1) [⟨[ga,gb],[7]⟩]:=by
 have l:=slice_lit Rep.int wl [.int .i64 7] 3 [[.int .i64 7]] [7] rfl ⟨⟨rfl,by omega⟩,trivial⟩ (by simp [maxLen])
 have hx:=(Ext.refl w4).alloc (.cells #[.slice p 2 c,.slice (some ⟨wl.heap.size,0,none⟩) 1 1] 58)
 exact slice_lit Rep.row w4 [.slice p 2 c,.slice (some ⟨wl.heap.size,0,none⟩) 1 1] 58 [[.slice p 2 c,.slice (some ⟨wl.heap.size,0,none⟩) 1 1]] [⟨[ga,gb],[7]⟩] rfl ⟨⟨_,_,rfl,s.ext hx.full,l.ext (x.trans hx).full⟩,trivial⟩ (by simp [maxLen])
theorem keepAw8 {w1 w w':World} {a0 a1 a2 a3 a4 a5 a6 a7:Addr} {u0 u1 u2 u3 u4 u5 u6 u7:Value}
  (h:Ext w1 w∧w.cell? a0=some u0∧w.cell? a1=some u1∧w.cell? a2=some u2∧w.cell? a3=some u3∧w.cell? a4=some u4∧w.cell? a5=some u5∧w.cell? a6=some u6∧w.cell? a7=some u7) (x:Ext w w') :
  Ext w1 w'∧w'.cell? a0=some u0∧w'.cell? a1=some u1∧w'.cell? a2=some u2∧w'.cell? a3=some u3∧w'.cell? a4=some u4∧w'.cell? a5=some u5∧w'.cell? a6=some u6∧w'.cell? a7=some u7 :=
 ⟨h.1.trans x,x.at h.2.1,x.at h.2.2.1,x.at h.2.2.2.1,x.at h.2.2.2.2.1,x.at h.2.2.2.2.2.1,x.at h.2.2.2.2.2.2.1,x.at h.2.2.2.2.2.2.2.1,x.at h.2.2.2.2.2.2.2.2⟩
theorem keepAw2 {w1 w w':World} {a b:Addr} {u v:Value} {A B:Obj} (h:Ext w1 w∧w.cell? a=some u∧w.cell? b=some v) (x:Ext ((w.alloc A).alloc B) w'):Ext w1 w'∧w'.cell? a=some u∧w'.cell? b=some v:=keepAw (keepAw h (((Ext.refl _).alloc _).alloc _)) x
theorem keepAw1 {w1 w w':World} {a b:Addr} {u v:Value} {A:Obj} (h:Ext w1 w∧w.cell? a=some u∧w.cell? b=some v) (x:Ext (w.alloc A) w'):Ext w1 w'∧w'.cell? a=some u∧w'.cell? b=some v:=keepAw (keepAw h ((Ext.refl _).alloc _)) x
set_option maxRecDepth 100000 in
set_option maxHeartbeats 16000000 in
theorem awake_algebra (w:World) (ht:TabW w):Calls Tryz.prog 16 #[] w fun e w'=>e = .returned (.bool true)∧Ext w w':=by
 have HT:=Lib.hid ht
 clear ht
 go_enter Tryz.func16,Tryz.ntmps16
 go_wp2_with fail
 obtain⟨n1,⟨c0,c1⟩,x1⟩:=lit_q1 w
 obtain⟨b,hb⟩ : ∃z,z=w.heap.size+1+1:=⟨_,rfl⟩
 obtain⟨bn,hbn⟩ : ∃z,z=w.heap.size+1:=⟨_,rfl⟩
 obtain⟨w1,hw1⟩ : ∃z,z=((w.alloc (.cells #[.int .i64 1,.int .i64 0] 74)).alloc (.cells #[.int .i64 1,.int .i64 0,.int .i64 0,.int .i64 0,.string ⟨#[114]⟩,.slice none 0 0,.slice none 0 0,.int .i64 10,.int .i64 0,.int .i64 0,.int .i64 0,.string ⟨#[]⟩,.slice none 0 0,.slice (some ⟨w.heap.size,0,none⟩) 1 1] 64)).alloc (.cells #[.slice (some ⟨w.heap.size+1,0,none⟩) 2 2,.slice none 0 0] 25):=⟨_,rfl⟩
 rw [←hw1]at n1 c0 c1 x1 ⊢
 rw [←hb]at c0 c1 ⊢
 rw [←hbn]at n1 c0 ⊢
 clear hw1 hb hbn
 have NN:=Lib.hid n1
 have X1:=Lib.hid x1
 have e0:=cell_lt c0
 clear n1 x1
 have hS0:Ext w1 w1.drew∧w1.drew.cell? ⟨b,0,none⟩=some (.slice (some ⟨bn,0,none⟩) 2 2)∧w1.drew.cell? ⟨b,1,none⟩=some (.slice none 0 0):=⟨(Ext.refl _).drew,(Ext.refl _).drew.at c0,(Ext.refl _).drew.at c1⟩
 go_region_held3 (fun w'=>Ext w1 w'∧w'.cell? ⟨b,0,none⟩=some (.slice (some ⟨bn,0,none⟩) 2 2)∧w'.cell? ⟨b,1,none⟩=some (.slice none 0 0))
  (first |with_reducible assumption | with_reducible exact K3 | with_reducible exact K2)
  (first
   |(go_at_call 25;refine(rowdb_any _ _ [] [] _ (SliceOf.nil _ _) (SliceOf.nil _ _)).mono ?_;rintro e w2 ⟨v2,rfl,s2,x2⟩;have K2:=keepAw hS0 x2;have S2:=Lib.hid s2)
   |(go_at_call 21;refine(eval_query qA1 (dbA [] []) _ _ _ _ (NN.out.ext K2.1.full) (SliceOf.nil _ _) S2.out (by simp [dbA]) fitQA1 fitA1 (HT.out.ext (X1.out.trans K2.1))).mono ?_;rintro e w3 ⟨v3,rfl,s3,x3⟩;have K3:=keepAw K2 x3;have S3:=Lib.hid s3)
   |fail)
 clear hS0
 have X3:=Lib.hid (X1.out.trans K3.1)
 clear K2 K3 S2 s2 x2 NN c0 c1 e0 X1 S3
 rw [evalA1]at s3 ⊢
 obtain⟨p3,k3,rfl,-,-,h3⟩:=s3.form
 obtain⟨b3,o3,rfl⟩:=h3 (by decide) (by simp)
 have HL:=Lib.hid s3
 clear s3 h3
 dsimp only at HL ⊢
 have hl1:([⟨[intVal 0],[]⟩]:List Row).length=1:=rfl
 rw [hl1]at HL ⊢
 clear hl1
 go_wp2_with fail
 obtain⟨n1,e1,⟨c0,c1⟩,x1⟩:=lit_q2 w3
 obtain⟨b2,hb⟩ : ∃z,z=w3.heap.size+1+1:=⟨_,rfl⟩
 obtain⟨be,hbe⟩ : ∃z,z=w3.heap.size+1:=⟨_,rfl⟩
 obtain⟨bn2,hbn⟩ : ∃z,z=w3.heap.size:=⟨_,rfl⟩
 obtain⟨w4,hw4⟩ : ∃z,z=((w3.alloc (.cells #[.int .i64 1,.int .i64 0,.int .i64 0,.int .i64 0,.string ⟨#[114]⟩,.slice none 0 0,.slice none 0 0,.int .i64 1,.int .i64 0,.int .i64 0,.int .i64 0,.string ⟨#[115]⟩,.slice none 0 0,.slice none 0 0,.int .i64 5,.int .i64 0,.int .i64 1,.int .i64 0,.string ⟨#[]⟩,.slice none 0 0,.slice none 0 0] 64)).alloc (.cells #[.int .i64 1,.int .i64 0,.int .i64 0,.int .i64 0,.int .i64 3,.int .i64 1,.string ⟨#[]⟩] 66)).alloc (.cells #[.slice (some ⟨w3.heap.size,0,none⟩) 3 3,.slice (some ⟨w3.heap.size+1,0,none⟩) 1 1] 25):=⟨_,rfl⟩
 rw [←hw4]at n1 e1 c0 c1 x1 ⊢
 rw [←hb]at c0 c1 ⊢
 rw [←hbe]at e1 c1 ⊢
 rw [←hbn]at n1 c0 ⊢
 clear hw4 hb hbe hbn
 have NN:=Lib.hid n1
 have EE:=Lib.hid e1
 have X4:=Lib.hid (X3.out.trans x1)
 have HL4:=Lib.hid (HL.out.ext x1.full)
 have e0:=cell_lt c0
 clear n1 e1 x1 HL X3
 have hS0:Ext w4 w4.drew∧w4.drew.cell? ⟨b2,0,none⟩=some (.slice (some ⟨bn2,0,none⟩) 3 3)∧w4.drew.cell? ⟨b2,1,none⟩=some (.slice (some ⟨be,0,none⟩) 1 1):=⟨(Ext.refl _).drew,(Ext.refl _).drew.at c0,(Ext.refl _).drew.at c1⟩
 have hB0:Ext w4 (w4.alloc (.cells #[.int .i64 7] 3)).drew∧(w4.alloc (.cells #[.int .i64 7] 3)).drew.cell? ⟨b2,0,none⟩=some (.slice (some ⟨bn2,0,none⟩) 3 3)∧(w4.alloc (.cells #[.int .i64 7] 3)).drew.cell? ⟨b2,1,none⟩=some (.slice (some ⟨be,0,none⟩) 1 1):=keepAw ⟨Ext.refl w4,c0,c1⟩ ((Ext.refl _).alloc _).drew
 go_region_held3 (fun w'=>Ext w4 w'∧w'.cell? ⟨b2,0,none⟩=some (.slice (some ⟨bn2,0,none⟩) 3 3)∧w'.cell? ⟨b2,1,none⟩=some (.slice (some ⟨be,0,none⟩) 1 1))
  (first |with_reducible assumption | with_reducible exact K7 | with_reducible exact K6 | with_reducible exact K5 | with_reducible exact keepAw K5 ((Ext.refl _).alloc _) | with_reducible exact keepAw K5 (((Ext.refl _).alloc _).alloc _) | with_reducible exact keepAw hS0 ((Ext.refl _).alloc _))
  (first
   |(go_at_call 49;refine(vals_gen 0 0 _ (by omega) (by omega) (by omega) (by omega)).mono ?_;rintro e w5 ⟨v5,rfl,s5,x5⟩;have K5:=keepAw hS0 x5;replace s5:=s5.ext (on_sub _ _);obtain⟨g,hg⟩ : ∃g,g=genVals 0 0:=⟨_,rfl⟩;rw [←hg]at s5;obtain⟨ga,gb,hgg⟩ : ∃a b,g = [a,b]:=⟨_,_,hg⟩;have hgf:=genV_few 0 0;rw [←hg]at hgf;subst hgg;obtain⟨p5,k5,rfl,-⟩:=s5.form;have hl5:([ga,gb]:List Val).length=2:=rfl;rw [hl5]at s5 ⊢;have S5:=Lib.hid (show SliceOf Rep.row _ _ [⟨[ga,gb],[7]⟩]from rowLitA s5);have HGF:=Lib.hid hgf;clear s5 hl5 hgf hg)
   |(go_at_call 49;refine(vals_gen 0 0 _ (by omega) (by omega) (by omega) (by omega)).mono ?_;rintro e w5 ⟨v5,rfl,s5,x5⟩;have K5:=keepAw hB0 x5;replace s5:=s5.ext (on_sub _ _);obtain⟨g,hg⟩ : ∃g,g=genVals 0 0:=⟨_,rfl⟩;rw [←hg]at s5;obtain⟨ga,gb,hgg⟩ : ∃a b,g = [a,b]:=⟨_,_,hg⟩;have hgf:=genV_few 0 0;rw [←hg]at hgf;subst hgg;obtain⟨p5,k5,rfl,-⟩:=s5.form;have hl5:([ga,gb]:List Val).length=2:=rfl;rw [hl5]at s5 ⊢;have S5:=Lib.hid (show SliceOf Rep.row _ _ [⟨[ga,gb],[7]⟩]from rowLitB ((Ext.refl _).drew.trans x5) s5);have HGF:=Lib.hid hgf;clear s5 hl5 hgf hg)
   |(go_at_call 25;refine(rowdb_any _ _ [⟨[ga,gb],[7]⟩] [] _ S5.out (SliceOf.nil _ _)).mono ?_;rintro e w6 ⟨v6,rfl,s6,x6⟩;have K6:=keepAw2 K5 x6;have S6:=Lib.hid s6;clear s6)
   |(go_at_call 25;refine(rowdb_any _ _ [⟨[ga,gb],[7]⟩] [] _ S5.out (SliceOf.nil _ _)).mono ?_;rintro e w6 ⟨v6,rfl,s6,x6⟩;have K6:=keepAw1 K5 x6;have S6:=Lib.hid s6;clear s6)
   |(go_at_call 21;refine(eval_query qA2 (dbA [⟨[ga,gb],[7]⟩] []) _ _ _ _ (NN.out.ext K6.1.full) (EE.out.ext K6.1.full) S6.out (by simp [dbA]) fitQA2 (fitA2 _ HGF.out) (HT.out.ext (X4.out.trans K6.1))).mono ?_;rintro e w7 ⟨v7,rfl,s7,x7⟩;have K7:=keepAw K6 x7;have S7:=Lib.hid s7;clear s7)
   |fail)
 all_goals
  have s7:=S7.out
  rw [evalA2]at s7 ⊢
  obtain⟨p7,k7,rfl,-,-,h7⟩:=s7.form
  obtain⟨b7,o7,rfl⟩:=h7 (by decide) (by simp)
  dsimp only at s7 ⊢
  have hl7:([⟨[ga,gb] ++ [nV,nV],[7]⟩]:List Row).length=1:=rfl
  rw [hl7]at s7 ⊢
  have HM:=Lib.hid s7
  have HL:=Lib.hid (HL4.out.ext K7.1.full)
  have X7:=Lib.hid (X4.out.trans K7.1)
  have N7:=Lib.hid (NN.out.ext K7.1.full)
  have E7:=Lib.hid (EE.out.ext K7.1.full)
  have q0:=K7.2.1
  have q1:=K7.2.2
  have e7:=cell_lt q0
  clear hS0 hB0 K5 K6 K7 x7 x6 x5 S5 S6 S7 HGF NN EE X4 HL4 c0 c1 e0 s7 h7 hl7
  go_wp2_with fail
  refine(check_any qA2 [] _ _ _ _ N7.out E7.out (SliceOf.nil _ _) (by simp) (fun x hx=>⟨Nat.le_trans (fitQA2.2 x hx).1 (by decide),Nat.le_trans (fitQA2.2 x hx).2 (by decide)⟩)).mono ?_
  rintro e w8 ⟨v8,rfl,s8,x8⟩
  rw [checkA2]
  clear s8 q0 q1 e7 N7 E7
  have X8:=Lib.hid (X7.out.trans x8)
  obtain⟨la,lb,a0,a1,sa,ai⟩:=row_at (HL.out.ext x8.full) 0 (by simp)
  obtain⟨ma,mb,d0,d1,ds,di⟩:=row_at (HM.out.ext x8.full) 0 (by simp)
  simp only [Nat.zero_mul,Nat.add_zero,List.getElem_cons_zero,List.cons_append,List.nil_append]at a0 d0 sa ds
  obtain⟨pa,ka,rfl,-,-,ha⟩:=sa.form
  obtain⟨ba,oa,rfl⟩:=ha (by decide) (by simp)
  obtain⟨pm,km,rfl,-,-,hm⟩:=ds.form
  obtain⟨bm,om,rfl⟩:=hm (by decide) (by simp)
  have hla:([intVal 0]:List Val).length=1:=rfl
  have hlm:([ga,gb,nV,nV]:List Val).length=4:=rfl
  rw [hla]at a0 sa
  rw [hlm]at d0 ds
  obtain⟨f0,f1,f2,-⟩:=val_cells sa 0 (by simp)
  obtain⟨g0,g1,g2,-⟩:=val_cells ds 3 (by simp)
  simp only [Nat.zero_mul,Nat.add_zero,List.getElem_cons_zero,List.getElem_cons_succ,intVal,nV,Nat.reduceMul,emptyB]at f0 f1 f2 g0 g1 g2
  have e1:=cell_lt a0
  have e2:=cell_lt d0
  have e3:=cell_lt f0
  have e4:=cell_lt g0
  clear x8 sa ds ai di a1 d1 ha hm hla hlm HL HM X7
  go_wp2_with fail
  have hS0:Ext w8 w8.drew∧w8.drew.cell? ⟨b3,o3,none⟩=some (.slice (some ⟨ba,oa,none⟩) 1 ka)∧w8.drew.cell? ⟨ba,oa,none⟩=some (.int .i64 1)∧w8.drew.cell? ⟨ba,oa+1,none⟩=some (.int .i64 0)∧w8.drew.cell? ⟨ba,oa+2,none⟩=some (.string ⟨#[]⟩)∧w8.drew.cell? ⟨b7,o7,none⟩=some (.slice (some ⟨bm,om,none⟩) 4 km)∧w8.drew.cell? ⟨bm,om+9,none⟩=some (.int .i64 0)∧w8.drew.cell? ⟨bm,om+9+1,none⟩=some (.int .i64 0)∧w8.drew.cell? ⟨bm,om+9+2,none⟩=some (.string ⟨#[]⟩):=keepAw8 ⟨Ext.refl w8,a0,f0,f1,f2,d0,g0,g1,g2⟩ (Ext.refl w8).drew
  go_region_held3 (fun w'=>Ext w8 w'∧w'.cell? ⟨b3,o3,none⟩=some (.slice (some ⟨ba,oa,none⟩) 1 ka)∧w'.cell? ⟨ba,oa,none⟩=some (.int .i64 1)∧w'.cell? ⟨ba,oa+1,none⟩=some (.int .i64 0)∧w'.cell? ⟨ba,oa+2,none⟩=some (.string ⟨#[]⟩)∧w'.cell? ⟨b7,o7,none⟩=some (.slice (some ⟨bm,om,none⟩) 4 km)∧w'.cell? ⟨bm,om+9,none⟩=some (.int .i64 0)∧w'.cell? ⟨bm,om+9+1,none⟩=some (.int .i64 0)∧w'.cell? ⟨bm,om+9+2,none⟩=some (.string ⟨#[]⟩))
   (first |with_reducible assumption | with_reducible exact K9)
   (first
    |(go_at_call 32;refine(int_value 0 _).mono ?_;rintro e w9 ⟨rfl,x9⟩;have K9:=keepAw8 hS0 x9;simp only [valV,intVal,emptyB])
    |fail)
  all_goals
   go_wp2_with fail
   go_ret
   exact⟨rfl,X8.out.trans K9.1⟩
end Go.Proofs.YtombmdaohcjokaaGreatDoor
namespace Go.Proofs.YtombmdaohcjokaaGreatDoor
open Go.RowKit
theorem mult_nil (v:List Val):mult v []=0:=rfl
theorem mult_cons (v:List Val) (r:Row) (l:List Row):mult v (r::l)=mult v [r]+mult v l:=by
 rw [←mult_append]
 rfl
theorem mult_other {vs:List Val} {r:Row} (h:r.vals≠vs):mult vs [r]=0:=mult_zero (by simpa using h)
theorem surpA_mult (v:List Val) (b pre l:List Row):mult v (surpA b pre l)=mult v pre+mult v l - max (mult v b) (mult v pre):=by
 induction l generalizing pre with
 |nil =>
  have h0:=mult_nil v
  simp only [surpA,h0]
  omega
 |cons r l ih =>
  have h1:=ih (pre ++ [r])
  rw [mult_append]at h1
  rw [mult_cons v r l]
  simp only [surpA]
  by_cases hv:r.vals=v
  ·have h2:=mult_one hv
   rw [h2]at h1 ⊢
   rw [hv]
   split
   ·rw [mult_cons,h2]
    omega
   ·omega
  ·have h2:=mult_other hv
   rw [h2]at h1 ⊢
   split
   ·rw [mult_cons,h2]
    omega
   ·omega
theorem mult_perm (v:List Val) {l l':List Row} (h:l.Perm l'):mult v l=mult v l':=h.countP_eq _
theorem surp_mult (v:List Val) (a b:List Row):mult v (surpA b [] (sortBy cmpRow a))=mult v a - mult v b:=by
 rw [surpA_mult,mult_perm v (sortBy_perm cmpRow a),mult_nil]
 omega
theorem mult_len (v:List Val) (l:List Row):mult v l≤l.length:=List.countP_le_length
def plainRow (r:Row):Row:=⟨r.vals,[]⟩
theorem surp_nil (a b:List Row):surpA b [] (sortBy cmpRow a) = []↔ ∀v,mult v a≤mult v b:=by
 constructor
 ·intro h v
  have h1:=surp_mult v a b
  rw [h,mult_nil]at h1
  omega
 ·intro h
  cases hl:surpA b [] (sortBy cmpRow a)with
  |nil=>rfl
  |cons r l =>
   have h1:=surp_mult r.vals a b
   rw [hl,mult_cons,mult_one rfl]at h1
   have h2:=h r.vals
   omega
end Go.Proofs.YtombmdaohcjokaaGreatDoor
namespace Go.Proofs.YtombmdaohcjokaaGreatDoor
open Go.RowKit Go.Deep Go.ChangeShapes Go.WideShapes Go.ChangeAt
theorem open_arg {α:Type} {P:Program} {t e:TypeId} {R:Rep α} (ht:P.underlying t=some (.slice e)) (hR:Opens P t (Rep.slice R)) {H:Type} {enc:TypeId×Value→H} {w:World} {base:Nat} {spare:Nat→Bool} {held:Bool} {v:Value} {d:DataW H} {ps:List MemPlace} {r:Reach} {b0:Nat}
  (hv:Value.okWide P w r b0 t v) (h:DataW.Trod enc P w base spare held t v d ps) : ∃xs,SliceOf R w.cell? v xs:=by
 obtain⟨a,n,c,rfl⟩:=okWide_slice ht hv
 obtain⟨m,hm⟩:=h
 obtain⟨xs,v',e,hs⟩:=hR H enc w base spare held m _ _ hm
 simp [Value.cells]at e
 subst e
 exact⟨xs,hs⟩
end Go.Proofs.YtombmdaohcjokaaGreatDoor
namespace Go.Proofs.YtombmdaohcjokaaGreatDoor
open Go.RowKit
end Go.Proofs.YtombmdaohcjokaaGreatDoor
namespace Go.Proofs.YtombmdaohcjokaaGreatDoor
open Go.RowKit
end Go.Proofs.YtombmdaohcjokaaGreatDoor
namespace Go.Proofs.YtombmdaohcjokaaGreatDoor
open Go.RowKit
def grpE (c:Int):List ExprI:= [⟨2,0,0,c,⟨0,0,⟨#[]⟩⟩⟩,⟨2,0,0,0,⟨0,0,⟨#[]⟩⟩⟩]
def scanR:NodeI:=⟨1,0,0,0,⟨#[114]⟩,[],[]⟩
def grpN0:NodeI:=⟨10,0,0,0,⟨#[]⟩,[0],[⟨1,0⟩]⟩
def grpN1:NodeI:=⟨10,1,0,0,⟨#[]⟩,[1],[⟨1,0⟩]⟩
def grpOne (c:Int):QueryI:=⟨[scanR,grpN0],grpE c⟩
def grpTwo (c:Int):QueryI:=⟨[scanR,grpN0,grpN1],grpE c⟩
def grpDis:QueryI:=⟨[scanR,⟨9,0,0,0,⟨#[]⟩,[],[]⟩],[]⟩
theorem part_sum (pj:List Val→List Val) : ∀(A:List Row) (ks:List (List Val)),ks.Nodup→(∀r∈A,pj r.vals∈ks)→(ks.map fun k=>(selS pj A k).length).sum=A.length:=by
 classical
 intro A
 induction A with
 |nil =>
  intro ks _ _
  have:(ks.map fun k=>(selS pj [] k).length)=ks.map fun _=>0:=List.map_congr_left fun k _=>rfl
  rw [this]
  clear this
  induction ks with
  |nil=>rfl
  |cons k ks ih=>simp_all
 |cons r A ih =>
  intro ks hn hk
  have h1:=ih ks hn fun x hx=>hk x (List.mem_cons_of_mem _ hx)
  have h2 : ∀ks:List (List Val),ks.Nodup→(ks.map fun k=>(selS pj (r::A) k).length).sum=(ks.map fun k=>(selS pj A k).length).sum+if pj r.vals∈ks then 1 else 0:=by
   intro ks
   induction ks with
   |nil=>intro _;simp
   |cons k ks ihk =>
    intro hn
    obtain⟨h3,h4⟩:=List.nodup_cons.1 hn
    rw [List.map_cons,List.sum_cons,List.map_cons,List.sum_cons,ihk h4]
    unfold selS
    rw [List.filter_cons]
    by_cases hkr:pj r.vals=k
    ·subst hkr
     rw [if_pos (by simp),if_neg h3,if_pos (List.mem_cons_self ..),List.length_cons]
     omega
    ·rw [if_neg (by simpa using hkr)]
     by_cases hm:pj r.vals∈ks
     ·rw [if_pos hm,if_pos (List.mem_cons_of_mem _ hm)]
      omega
     ·rw [if_neg hm,if_neg (by rw [List.mem_cons];exact fun h=>h.elim hkr hm)]
      omega
  rw [h2 ks hn,h1,if_pos (hk r (List.mem_cons_self ..)),List.length_cons]
def cntOf (r:Row):Int:=(r.vals.getD 1 nV).n
theorem node_grp0 (es:List ExprI) (db:List TabI) (cols:List (List Int)) (A:List Row):nodeP es db cols [A] grpN0=groupP es [0] [⟨1,0⟩] A:=rfl
theorem node_grp1 (es:List ExprI) (db:List TabI) (cols:List (List Int)) (A B:List Row):nodeP es db cols [A,B] grpN1=groupP es [1] [⟨1,0⟩] B:=rfl
theorem node_dis (es:List ExprI) (db:List TabI) (cols:List (List Int)) (A:List Row):nodeP es db cols [A] ⟨9,0,0,0,⟨#[]⟩,[],[]⟩=distP A:=rfl
def smallR (x:List Row):Prop:=x.length≤12∧ ∀r∈x,r.vals.length≤1000∧(∀v∈r.vals,v.s.size≤1048576)∧r.lin.length≤1
end Go.Proofs.YtombmdaohcjokaaGreatDoor
namespace Go.Proofs.YtombmdaohcjokaaGreatDoor
open Go.RowKit
end Go.Proofs.YtombmdaohcjokaaGreatDoor
namespace Go.Proofs.YtombmdaohcjokaaGreatDoor
open Go.RowKit
def starts4 (vs:List Val) (r:Row):Bool:=decide (r.vals.length=4)&&(cmpVals (r.vals.take 2) vs==0)
def startN (vs:List Val) (l:List Row):Nat:=l.countP (starts4 vs)
def turnR (r:Row):Row:=⟨r.vals.drop 2++r.vals.take 2,r.lin⟩
def eqCols:List ExprI:= [⟨2,0,0,0,nV⟩,⟨2,0,0,2,nV⟩,⟨6,0,1,0,nV⟩]
end Go.Proofs.YtombmdaohcjokaaGreatDoor
