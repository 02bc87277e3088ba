/- joined texts of a proof: PlainT, AlgR, ChkA, ChkB -/
import Derived.Test.YtombmdaohcjokaaGreatDoorKG10
import Derived.Test.YtombmdaohcjokaaGreatDoorKG09
import Derived.Deep.QuietTactic
import Derived.BigQuiet
namespace Go.Proofs.YtombmdaohcjokaaGreatDoor
open Go.RowKit
structure NodeI where
 kind:Int
 a:Int
 b:Int
 pred:Int
 table:ByteArray
 exprs:List Int
 aggs:List AggI
instance:Inhabited NodeI:=⟨⟨0,0,0,0,ByteArray.empty,[],[]⟩⟩
structure QueryI where
 nodes:List NodeI
 exprs:List ExprI
structure TypI where
 name:ByteArray
 kinds:List Int
structure TabI where
 typ:TypI
 rows:List Row
def accE (k r:Int):Bool:=decide (k=0)||decide (k=r)
def validV (v:Val):Bool :=
 if v.kind=0 then decide (v.n=0)&&v.s.toList.isEmpty
 else if v.kind=1 then v.s.toList.isEmpty
 else if v.kind=2 then decide (v.n=0)&&decide (v.s.size≤200)
 else if v.kind=3 then(decide (v.n=0)||decide (v.n=1))&&v.s.toList.isEmpty
 else false
def combineE (x:ExprI) (ks cols:List Int):Int×Int :=
 if x.op=1 then(x.c.kind,0)
 else if x.op=2 then(cols.getD x.col.toNat 0,0)
 else if x.op=11 then(3,0)
 else if x.op=6∨x.op=7 then(if accE (ks.getD 0 0) (ks.getD 1 0)=false∧accE (ks.getD 1 0) (ks.getD 0 0)=false then(0,7)else(3,0))
 else if 3≤x.op∧x.op≤5 then(if ks.all (accE · 1)=true then(1,0)else(0,7))
 else if ks.all (accE · 3)=true then(3,0)else(0,7)
def kindsE (done:List (Int×Int)):List Int→List Int→List Int×Int
 |[],acc=>(acc,0)
 |o::os,acc=>if (done.getD o.toNat (0,0)).2≠0 then([],(done.getD o.toNat (0,0)).2)else kindsE done os (acc ++ [(done.getD o.toNat (0,0)).1])
def chkStep (cols:List Int) (done:List (Int×Int)) (x:ExprI):Int×Int :=
 if arityE x.op<0∨(x.op=1∧validV x.c=false)then(0,5)
 else if legalE done.length x=false then(0,10)
 else if x.op=2∧(x.col<0∨(cols.length:Int)≤x.col)then(0,10)
 else if (kindsE done (opsE x) []).2≠0 then(0,(kindsE done (opsE x) []).2)
 else combineE x (kindsE done (opsE x) []).1 cols
def chkAll (es:List ExprI) (cols:List Int):Nat→List (Int×Int)
 |0=> []
 |k+1=>chkAll es cols k ++ [chkStep cols (chkAll es cols k) es[k]!]
def checkE (es:List ExprI) (cols:List Int) (root:Int):Int×Int :=
 if 200<es.length then(0,4)else if root<0∨(es.length:Int)≤root then(0,10)else(chkAll es cols (root.toNat+1)).getD root.toNat (0,0)
theorem chkAll_len (es:List ExprI) (cols:List Int) (k:Nat):(chkAll es cols k).length=k:=by
 induction k with
 |zero=>rfl
 |succ k ih=>rw [chkAll,List.length_append,ih];rfl
theorem chkAll_get (es:List ExprI) (cols:List Int) (k j:Nat) (h:j<k):(chkAll es cols k).getD j (0,0)=chkStep cols (chkAll es cols j) es[j]! := by
 induction k with
 |zero=>omega
 |succ k ih =>
  rw [chkAll,List.getD_eq_getElem?_getD]
  by_cases c:j<k
  ·rw [List.getElem?_append_left (by rw [chkAll_len];exact c),←List.getD_eq_getElem?_getD,ih c]
  ·have e:j=k:=by omega
   subst e
   rw [List.getElem?_append_right (by rw [chkAll_len];exact Nat.le_refl _),chkAll_len,Nat.sub_self]
   rfl
def binK (k:Int):Bool:=decide (4≤k)&&decide (k≤8)
def scanC (types:List TypI) (name:ByteArray):List Int×Int:=match types.find? (fun t=>decide (t.name=name))with
 |some t=>(t.kinds,0)
 |none=>([],8)
def meetC (x y:Int):Int:=if x=0 then y else x
def badC (x y:Int):Bool:=decide (x≠0)&&(decide (x≠y)&&decide (y≠0))
def compatC:List Int→List Int→List Int×Int
 |[],[]=>([],0)
 |x::a,y::b=>if badC x y=true then([],7)else if (compatC a b).2≠0 then([],7)else(meetC x y::(compatC a b).1,0)
 |_,_=>([],7)
def exprsC (es:List ExprI) (cols:List Int):List Int→List Int→List Int×Int
 |[],acc=>(acc,0)
 |x::xs,acc=>if (checkE es cols x).2≠0 then([],(checkE es cols x).2)else exprsC es cols xs (acc ++ [(checkE es cols x).1])
def aggsC (es:List ExprI) (cols:List Int):List AggI→List Int→Bool→List Int×Int
 |[],acc,mis=>if mis=true then([],7)else(acc,0)
 |g::gs,acc,mis =>
  if g.kind=1 then aggsC es cols gs (acc ++ [1]) mis
  else if g.kind<1∨4<g.kind then([],5)
  else if (checkE es cols g.arg).2≠0 then([],(checkE es cols g.arg).2)
  else if g.kind=2 then aggsC es cols gs (acc ++ [1]) (mis||(decide ((checkE es cols g.arg).1≠1)&&decide ((checkE es cols g.arg).1≠0)))
  else aggsC es cols gs (acc ++ [(checkE es cols g.arg).1]) mis
def groupC (es:List ExprI) (cols:List Int) (n:NodeI):List Int×Int :=
 if (exprsC es cols n.exprs []).2≠0 then([],(exprsC es cols n.exprs []).2)else aggsC es cols n.aggs (exprsC es cols n.exprs []).1 false
def predC (es:List ExprI) (cols:List Int) (pred:Int):Int:=if (checkE es cols pred).2=0∧(checkE es cols pred).1≠3∧(checkE es cols pred).1≠0 then 7 else(checkE es cols pred).2
def legN (n:Nat) (i:Int):Bool:=decide (0≤i)&&decide (i<n)
def inputC (done:List (List Int)) (n:NodeI):List Int:=if binK n.kind=true then done.getD n.a.toNat []++done.getD n.b.toNat []else done.getD n.a.toNat []
def colsN (es:List ExprI) (types:List TypI) (done:List (List Int)) (n:NodeI):List Int×Int :=
 if n.kind<1∨10<n.kind then([],5)
 else if n.kind=1 then scanC types n.table
 else if legN done.length n.a=false∨(binK n.kind=true∧legN done.length n.b=false)then([],10)
 else if n.kind=2 then(done.getD n.a.toNat [],predC es (inputC done n) n.pred)
 else if n.kind=4∨n.kind=5 then(inputC done n,predC es (inputC done n) n.pred)
 else if n.kind=3 then exprsC es (inputC done n) n.exprs []
 else if 6≤n.kind∧n.kind≤8 then compatC (done.getD n.a.toNat []) (done.getD n.b.toNat [])
 else if n.kind=10 then groupC es (inputC done n) n
 else(done.getD n.a.toNat [],0)
def colsUpto (q:QueryI) (types:List TypI):Nat→List (List Int)×Int
 |0=>([],0)
 |i+1 =>
  if (colsUpto q types i).2≠0 then([],(colsUpto q types i).2)
  else if (colsN q.exprs types (colsUpto q types i).1 q.nodes[i]!).2≠0 then([],(colsN q.exprs types (colsUpto q types i).1 q.nodes[i]!).2)
  else if (colsN q.exprs types (colsUpto q types i).1 q.nodes[i]!).1.length=0∨64<(colsN q.exprs types (colsUpto q types i).1 q.nodes[i]!).1.length then([],4)
  else((colsUpto q types i).1 ++ [(colsN q.exprs types (colsUpto q types i).1 q.nodes[i]!).1],0)
def columnsQ (q:QueryI) (types:List TypI):List (List Int)×Int :=
 if q.nodes.length=0∨40<q.nodes.length∨200<q.exprs.length then([],4)else colsUpto q types q.nodes.length
def checkQ (q:QueryI) (types:List TypI):List Int×Int :=
 if (columnsQ q types).2≠0 then([],(columnsQ q types).2)else((columnsQ q types).1.getLastD [],0)
end Go.Proofs.YtombmdaohcjokaaGreatDoor
namespace Go.Proofs.YtombmdaohcjokaaGreatDoor
open Go.RowKit
def Rep.node:Rep NodeI where
 size:=7
 holds w cs x:= ∃ve va,cs = [.int .i64 x.kind,.int .i64 x.a,.int .i64 x.b,.int .i64 x.pred,.string x.table,ve,va]∧SliceOf Rep.int w ve x.exprs∧SliceOf Rep.agg w va x.aggs∧(okI x.kind∧okI x.a∧okI x.b∧okI x.pred)∧x.table.size≤maxLen
 len:=by rintro w cs x ⟨ve,va,rfl,_⟩;rfl
 ext:=by rintro w w' cs x ⟨ve,va,rfl,h1,h2,h3⟩ hx;exact⟨ve,va,rfl,h1.ext hx,h2.ext hx,h3⟩
 one:=by
  rintro w cs x ⟨ve,va,rfl,h1,h2,_⟩
  obtain⟨a',cap,rfl,_⟩:=h1.form
  obtain⟨b',cap',rfl,_⟩:=h2.form
  simp [Value.oneCell']
def Rep.typ:Rep TypI where
 size:=2
 holds w cs x:= ∃vk,cs = [.string x.name,vk]∧SliceOf Rep.int w vk x.kinds∧x.name.size≤maxLen
 len:=by rintro w cs x ⟨vk,rfl,_⟩;rfl
 ext:=by rintro w w' cs x ⟨vk,rfl,h1,h2⟩ hx;exact⟨vk,rfl,h1.ext hx,h2⟩
 one:=by
  rintro w cs x ⟨vk,rfl,h1,_⟩
  obtain⟨a',cap,rfl,_⟩:=h1.form
  simp [Value.oneCell']
def Rep.tab:Rep TabI where
 size:=3
 holds w cs x:= ∃vk vr,cs = [.string x.typ.name,vk,vr]∧SliceOf Rep.int w vk x.typ.kinds∧SliceOf Rep.row w vr x.rows∧x.typ.name.size≤maxLen
 len:=by rintro w cs x ⟨vk,vr,rfl,_⟩;rfl
 ext:=by rintro w w' cs x ⟨vk,vr,rfl,h1,h2,h3⟩ hx;exact⟨vk,vr,rfl,h1.ext hx,h2.ext hx,h3⟩
 one:=by
  rintro w cs x ⟨vk,vr,rfl,h1,h2,_⟩
  obtain⟨a',cap,rfl,_⟩:=h1.form
  obtain⟨b',cap',rfl,_⟩:=h2.form
  simp [Value.oneCell']
theorem node_at {h:View} {b o n cap:Nat} {xs:List NodeI} (k:SliceOf Rep.node h (.slice (some ⟨b,o,none⟩) n cap) xs) (i:Nat) (hi:i<xs.length) :
  ∃ve va,h ⟨b,o+i*7,none⟩=some (.int .i64 xs[i].kind)∧h ⟨b,o+i*7+1,none⟩=some (.int .i64 xs[i].a)∧h ⟨b,o+i*7+2,none⟩=some (.int .i64 xs[i].b)∧h ⟨b,o+i*7+3,none⟩=some (.int .i64 xs[i].pred)∧h ⟨b,o+i*7+4,none⟩=some (.string xs[i].table)∧h ⟨b,o+i*7+5,none⟩=some ve∧h ⟨b,o+i*7+6,none⟩=some va ∧
   SliceOf Rep.int h ve xs[i].exprs∧SliceOf Rep.agg h va xs[i].aggs∧(okI xs[i].kind∧okI xs[i].a∧okI xs[i].b∧okI xs[i].pred)∧xs[i].table.size≤maxLen:=by
 obtain⟨c,⟨ve,va,rfl,h1,h2,h3⟩,hc⟩:=k.at i hi
 exact⟨ve,va,hc 0 _ rfl,hc 1 _ rfl,hc 2 _ rfl,hc 3 _ rfl,hc 4 _ rfl,hc 5 _ rfl,hc 6 _ rfl,h1,h2,h3⟩
theorem typ_at {h:View} {b o n cap:Nat} {xs:List TypI} (k:SliceOf Rep.typ h (.slice (some ⟨b,o,none⟩) n cap) xs) (i:Nat) (hi:i<xs.length) :
  ∃vk,h ⟨b,o+i*2,none⟩=some (.string xs[i].name)∧h ⟨b,o+i*2+1,none⟩=some vk∧SliceOf Rep.int h vk xs[i].kinds∧xs[i].name.size≤maxLen:=by
 obtain⟨c,⟨vk,rfl,h1,h2⟩,hc⟩:=k.at i hi
 exact⟨vk,hc 0 _ rfl,hc 1 _ rfl,h1,h2⟩
theorem tab_at {h:View} {b o n cap:Nat} {xs:List TabI} (k:SliceOf Rep.tab h (.slice (some ⟨b,o,none⟩) n cap) xs) (i:Nat) (hi:i<xs.length) :
  ∃vk vr,h ⟨b,o+i*3,none⟩=some (.string xs[i].typ.name)∧h ⟨b,o+i*3+1,none⟩=some vk∧h ⟨b,o+i*3+2,none⟩=some vr∧SliceOf Rep.int h vk xs[i].typ.kinds∧SliceOf Rep.row h vr xs[i].rows∧xs[i].typ.name.size≤maxLen:=by
 obtain⟨c,⟨vk,vr,rfl,h1,h2,h3⟩,hc⟩:=k.at i hi
 exact⟨vk,vr,hc 0 _ rfl,hc 1 _ rfl,hc 2 _ rfl,h1,h2,h3⟩
theorem rows_at {α:Type} {R:Rep α} {h:View} {b o n cap:Nat} {gs:List (List α)} (k:SliceOf (Rep.slice R) h (.slice (some ⟨b,o,none⟩) n cap) gs) (i:Nat) (hi:i<gs.length) : ∃v,h ⟨b,o+i,none⟩=some v∧SliceOf R h v gs[i]:=by
 obtain⟨c,⟨v,rfl,g⟩,h2⟩:=k.at i hi
 have:=h2 0 _ rfl
 rw [show (Rep.slice R).size=1 from rfl,Nat.mul_one,Nat.add_zero]at this
 exact⟨v,this,g⟩
@[reducible] def nodeV (x:NodeI) (ve va:Value):Value:= .agg #[.int .i64 x.kind,.int .i64 x.a,.int .i64 x.b,.int .i64 x.pred,.string x.table,ve,va]
theorem mixedA:Tryz.prog.follows Departure.mixedOrders=true:=by kernel_rfl
structure Bx2 (w:World) (E:Nat) (u0 u1:Value):Prop where
 c0:w.cell? ⟨E,0,none⟩=some u0
 c1:w.cell? ⟨E,1,none⟩=some u1
 f0:w.frozen? ⟨E,0,none⟩=false
 f1:w.frozen? ⟨E,1,none⟩=false
end Go.Proofs.YtombmdaohcjokaaGreatDoor
namespace Go.Proofs.YtombmdaohcjokaaGreatDoor
open Go.RowKit
theorem accepts_any (k r:Int) (w:World):Calls Tryz.prog 325 #[.int .i64 k,.int .i64 r] w fun e w'=>e = .returned (.bool (accE k r))∧w=w':=by
 unfold accE
 by_cases h0:k=0
 ·have b0:(k==0)=true:=by simp [h0]
  rw [decide_eq_true h0,Bool.true_or]
  clear h0
  go_enter Tryz.func325,Tryz.ntmps325
  go_wp2_with fail
  go_ret
  exact⟨rfl,rfl⟩
 ·have b0:(k==0)=false:=by simp [h0]
  rw [decide_eq_false h0,Bool.false_or]
  clear h0
  by_cases h1:k=r
  ·have b1:(k==r)=true:=by simp [h1]
   rw [decide_eq_true h1]
   clear h1
   go_enter Tryz.func325,Tryz.ntmps325
   go_wp2_with fail
   go_ret
   exact⟨rfl,rfl⟩
  ·have b1:(k==r)=false:=by simp [h1]
   rw [decide_eq_false h1]
   clear h1
   go_enter Tryz.func325,Tryz.ntmps325
   go_wp2_with fail
   go_ret
   exact⟨rfl,rfl⟩
set_option maxHeartbeats 2000000 in
theorem valid_val (v:Val) (w:World):Calls Tryz.prog 319 #[valV v] w fun e w'=>e = .returned (.bool (validV v))∧Ext w w':=by
 obtain⟨k,n,s⟩:=v
 have hn0:(n==0)=decide (n=0):=by rw [Bool.eq_iff_iff];simp
 have hn1:(n==1)=decide (n=1):=by rw [Bool.eq_iff_iff];simp
 have hl:decide ((s.size:Int)≤200)=decide (s.size≤200):=by rw [Bool.eq_iff_iff];simp;omega
 unfold validV
 dsimp only
 obtain⟨bs,hs⟩ : ∃bs,s.toList.isEmpty=bs:=⟨_,rfl⟩
 rw [hs]
 generalize decide (n=0)=b0 at hn0 ⊢
 generalize decide (n=1)=b1 at hn1 ⊢
 generalize decide (s.size≤200)=bl at hl ⊢
 by_cases h0:k=0
 ·subst h0
  rw [if_pos rfl]
  cases b0 <;> cases bs <;> (go_enter Tryz.func319,Tryz.ntmps319;go_wp2_with fail;go_ret;exact⟨by first | rfl | simp_all,(Ext.refl w).alloc _⟩)
 ·have c0:(k==0)=false:=by simp [h0]
  rw [if_neg h0]
  by_cases h1:k=1
  ·subst h1
   rw [if_pos rfl]
   clear h0
   cases bs <;> (go_enter Tryz.func319,Tryz.ntmps319;go_wp2_with fail;go_ret;exact⟨by first | rfl | simp_all,(Ext.refl w).alloc _⟩)
  ·have c1:(k==1)=false:=by simp [h1]
   rw [if_neg h1]
   by_cases h2:k=2
   ·subst h2
    rw [if_pos rfl]
    clear h0 h1
    cases b0 <;> cases bl <;> (go_enter Tryz.func319,Tryz.ntmps319;go_wp2_with fail;go_ret;exact⟨by first | rfl | simp_all,(Ext.refl w).alloc _⟩)
   ·have c2:(k==2)=false:=by simp [h2]
    rw [if_neg h2]
    by_cases h3:k=3
    ·subst h3
     rw [if_pos rfl]
     clear h0 h1 h2
     cases b0 <;> cases b1 <;> cases bs <;> (go_enter Tryz.func319,Tryz.ntmps319;go_wp2_with fail;go_ret;exact⟨by first | rfl | simp_all,(Ext.refl w).alloc _⟩)
    ·have c3:(k==3)=false:=by simp [h3]
     rw [if_neg h3]
     clear h0 h1 h2 h3
     go_enter Tryz.func319,Tryz.ntmps319
     go_wp2_with fail
     go_ret
     exact⟨rfl,(Ext.refl w).alloc _⟩
end Go.Proofs.YtombmdaohcjokaaGreatDoor
namespace Go.Proofs.YtombmdaohcjokaaGreatDoor
open Go.RowKit
theorem accepts_eq (k r:Int) (w:World):Calls Tryz.prog 325 #[.int .i64 k,.int .i64 r] w fun e w'=>e = .returned (.bool (accE k r))∧w'=w :=
 (accepts_any k r w).mono fun _ _ ⟨h1,h2⟩=>⟨h1,h2.symm⟩
set_option maxRecDepth 100000 in
set_option maxHeartbeats 4000000 in
theorem combine_const (C:Nat) (x:ExprI) (hop:x.op=1) (kv:Value) (w:World) :
  Calls Tryz.prog 320 #[.pointer (some ⟨C,0,none⟩),.agg (exprEnc x).toArray,kv] w fun e w'=>e = .returned (.tuple #[.int .i64 x.c.kind,.int .i64 0])∧Ext w w':=by
 obtain⟨op,xa,xb,col,⟨ck,cn,cs⟩⟩:=x
 dsimp only at hop
 subst hop
 unfold exprEnc
 dsimp only
 go_enter Tryz.func320,Tryz.ntmps320
 go_wp2_with fail
 exact bodyPost_ret (v:= .tuple #[.int .i64 ck,.int .i64 0]) (by simp [results,Tryz.results320,go_sem]) rfl ⟨rfl,(Ext.refl w).alloc _⟩
set_option maxRecDepth 100000 in
set_option maxHeartbeats 4000000 in
theorem combine_isnull (C:Nat) (x:ExprI) (hop:x.op=11) (kv:Value) (w:World) :
  Calls Tryz.prog 320 #[.pointer (some ⟨C,0,none⟩),.agg (exprEnc x).toArray,kv] w fun e w'=>e = .returned (.tuple #[.int .i64 3,.int .i64 0])∧Ext w w':=by
 obtain⟨op,xa,xb,col,⟨ck,cn,cs⟩⟩:=x
 dsimp only at hop
 subst hop
 unfold exprEnc
 dsimp only
 go_enter Tryz.func320,Tryz.ntmps320
 go_wp2_with fail
 exact bodyPost_ret (v:= .tuple #[.int .i64 3,.int .i64 0]) (by simp [results,Tryz.results320,go_sem]) rfl ⟨rfl,(Ext.refl w).alloc _⟩
set_option maxRecDepth 100000 in
set_option maxHeartbeats 4000000 in
theorem combine_col (C:Nat) (x:ExprI) (hop:x.op=2) (kv vc:Value) (cols:List Int) (w:World) (hC:w.cell? ⟨C,1,none⟩=some vc) (hc:SliceOf Rep.int w.cell? vc cols) (hcol:0≤x.col∧x.col<cols.length) :
  Calls Tryz.prog 320 #[.pointer (some ⟨C,0,none⟩),.agg (exprEnc x).toArray,kv] w fun e w'=>e = .returned (.tuple #[.int .i64 (cols.getD x.col.toNat 0),.int .i64 0])∧Ext w w':=by
 obtain⟨op,xa,xb,col,⟨ck,cn,cs⟩⟩:=x
 dsimp only at hop
 dsimp only at hcol ⊢
 subst hop
 unfold exprEnc
 dsimp only
 have mixed:=mixedA
 obtain⟨pc,cc,rfl,_,_,hpc⟩:=hc.form
 obtain⟨c,rfl⟩ : ∃c:Nat,col=c:=⟨col.toNat,by omega⟩
 have hcl:c<cols.length:=by omega
 obtain⟨bc,oc,rfl⟩:=hpc (by decide) (by omega)
 obtain⟨c0,-⟩:=int_at hc c hcl
 have hb1:(c:Int)<(cols.length:Int):=by omega
 have HR:=Lib.hid (show cols.getD (c:Int).toNat 0=cols[c]from by rw [Int.toNat_natCast,List.getD_eq_getElem?_getD,List.getElem?_eq_getElem hcl];rfl)
 rw [HR.out]
 generalize cols[c]=k at c0 ⊢
 obtain⟨n,hn⟩ : ∃n,n=cols.length:=⟨_,rfl⟩
 rw [←hn]at hC hb1
 have e0:=cell_lt c0
 have e1:=cell_lt hC
 clear hc hpc hcol hcl hn HR
 go_enter Tryz.func320,Tryz.ntmps320
 go_wp2_with fail
 go_big_region_o
 go_wp2_with fail
 exact bodyPost_ret (v:= .tuple #[.int .i64 k,.int .i64 0]) (by simp [results,Tryz.results320,go_sem]) rfl ⟨rfl,((Ext.refl w).alloc _).drew⟩
set_option maxRecDepth 100000 in
set_option maxHeartbeats 4000000 in
theorem combine_cmp6 (C:Nat) (x:ExprI) (hop:x.op=6) (kv:Value) (k0 k1:Int) (w:World) (hk:SliceOf Rep.int w.cell? kv [k0,k1]) :
  Calls Tryz.prog 320 #[.pointer (some ⟨C,0,none⟩),.agg (exprEnc x).toArray,kv] w fun e w'=>e = .returned (.tuple #[.int .i64 (if accE k0 k1=false∧accE k1 k0=false then(0,7)else(3,0):Int×Int).1,.int .i64 (if accE k0 k1=false∧accE k1 k0=false then(0,7)else(3,0):Int×Int).2])∧Ext w w':=by
 obtain⟨op,xa,xb,col,⟨ck,cn,cs⟩⟩:=x
 dsimp only at hop
 subst hop
 unfold exprEnc
 dsimp only
 obtain⟨pk,kk,rfl,_,_,hpk⟩:=hk.form
 obtain⟨bk,ok,rfl⟩:=hpk (by decide) (by simp)
 obtain⟨c0,-⟩:=int_at hk 0 (by simp)
 obtain⟨c1,-⟩:=int_at hk 1 (by simp)
 simp only [Nat.add_zero,List.getElem_cons_zero,List.getElem_cons_succ]at c0 c1
 obtain⟨rp,hrp⟩ : ∃p,p=(if accE k0 k1=false∧accE k1 k0=false then(0,7)else(3,0):Int×Int):=⟨_,rfl⟩
 rw [←hrp]
 have HRP:=Lib.hid hrp
 have mixed:=mixedA
 have e0:=cell_lt c0
 clear hk hpk hrp
 cases hq0:accE k0 k1 <;> cases hq1:accE k1 k0
 all_goals
  rw [hq0,hq1]at HRP
  go_enter Tryz.func320,Tryz.ntmps320
  go_wp2_with fail
  have b0:=((Ext.refl w).alloc (.cells #[.int .i64 6,.int .i64 xa,.int .i64 xb,.int .i64 col,.int .i64 ck,.int .i64 cn,.string cs] 66)).at c0
  have b1:=((Ext.refl w).alloc (.cells #[.int .i64 6,.int .i64 xa,.int .i64 xb,.int .i64 col,.int .i64 ck,.int .i64 cn,.string cs] 66)).at c1
  have X:=Lib.hid ((Ext.refl w).alloc (.cells #[.int .i64 6,.int .i64 xa,.int .i64 xb,.int .i64 col,.int .i64 ck,.int .i64 cn,.string cs] 66))
  generalize w.alloc (.cells #[.int .i64 6,.int .i64 xa,.int .i64 xb,.int .i64 col,.int .i64 ck,.int .i64 cn,.string cs] 66)=W at b0 b1 X ⊢
  clear c0 c1 e0
  have e0:=cell_lt b0
  go_quiet ((go_at_call 325;exact Calls.quiet_of_same (accepts_eq _ _ _)))
  go_wp2_with fail
 ·exact bodyPost_ret (v:= .tuple #[.int .i64 0,.int .i64 7]) (by simp [results,Tryz.results320,go_sem]) rfl ⟨by rw [HRP.out];simp,X.out.trans ((Ext.refl W).drewN _)⟩
 ·exact bodyPost_ret (v:= .tuple #[.int .i64 3,.int .i64 0]) (by simp [results,Tryz.results320,go_sem]) rfl ⟨by rw [HRP.out];simp,X.out.trans ((Ext.refl W).drewN _)⟩
 ·exact bodyPost_ret (v:= .tuple #[.int .i64 3,.int .i64 0]) (by simp [results,Tryz.results320,go_sem]) rfl ⟨by rw [HRP.out];simp,X.out.trans ((Ext.refl W).drewN _)⟩
 ·exact bodyPost_ret (v:= .tuple #[.int .i64 3,.int .i64 0]) (by simp [results,Tryz.results320,go_sem]) rfl ⟨by rw [HRP.out];simp,X.out.trans ((Ext.refl W).drewN _)⟩
set_option maxRecDepth 100000 in
set_option maxHeartbeats 4000000 in
theorem combine_cmp7 (C:Nat) (x:ExprI) (hop:x.op=7) (kv:Value) (k0 k1:Int) (w:World) (hk:SliceOf Rep.int w.cell? kv [k0,k1]) :
  Calls Tryz.prog 320 #[.pointer (some ⟨C,0,none⟩),.agg (exprEnc x).toArray,kv] w fun e w'=>e = .returned (.tuple #[.int .i64 (if accE k0 k1=false∧accE k1 k0=false then(0,7)else(3,0):Int×Int).1,.int .i64 (if accE k0 k1=false∧accE k1 k0=false then(0,7)else(3,0):Int×Int).2])∧Ext w w':=by
 obtain⟨op,xa,xb,col,⟨ck,cn,cs⟩⟩:=x
 dsimp only at hop
 subst hop
 unfold exprEnc
 dsimp only
 obtain⟨pk,kk,rfl,_,_,hpk⟩:=hk.form
 obtain⟨bk,ok,rfl⟩:=hpk (by decide) (by simp)
 obtain⟨c0,-⟩:=int_at hk 0 (by simp)
 obtain⟨c1,-⟩:=int_at hk 1 (by simp)
 simp only [Nat.add_zero,List.getElem_cons_zero,List.getElem_cons_succ]at c0 c1
 obtain⟨rp,hrp⟩ : ∃p,p=(if accE k0 k1=false∧accE k1 k0=false then(0,7)else(3,0):Int×Int):=⟨_,rfl⟩
 rw [←hrp]
 have HRP:=Lib.hid hrp
 have mixed:=mixedA
 have e0:=cell_lt c0
 clear hk hpk hrp
 cases hq0:accE k0 k1 <;> cases hq1:accE k1 k0
 all_goals
  rw [hq0,hq1]at HRP
  go_enter Tryz.func320,Tryz.ntmps320
  go_wp2_with fail
  have b0:=((Ext.refl w).alloc (.cells #[.int .i64 7,.int .i64 xa,.int .i64 xb,.int .i64 col,.int .i64 ck,.int .i64 cn,.string cs] 66)).at c0
  have b1:=((Ext.refl w).alloc (.cells #[.int .i64 7,.int .i64 xa,.int .i64 xb,.int .i64 col,.int .i64 ck,.int .i64 cn,.string cs] 66)).at c1
  have X:=Lib.hid ((Ext.refl w).alloc (.cells #[.int .i64 7,.int .i64 xa,.int .i64 xb,.int .i64 col,.int .i64 ck,.int .i64 cn,.string cs] 66))
  generalize w.alloc (.cells #[.int .i64 7,.int .i64 xa,.int .i64 xb,.int .i64 col,.int .i64 ck,.int .i64 cn,.string cs] 66)=W at b0 b1 X ⊢
  clear c0 c1 e0
  have e0:=cell_lt b0
  go_quiet ((go_at_call 325;exact Calls.quiet_of_same (accepts_eq _ _ _)))
  go_wp2_with fail
 ·exact bodyPost_ret (v:= .tuple #[.int .i64 0,.int .i64 7]) (by simp [results,Tryz.results320,go_sem]) rfl ⟨by rw [HRP.out];simp,X.out.trans ((Ext.refl W).drewN _)⟩
 ·exact bodyPost_ret (v:= .tuple #[.int .i64 3,.int .i64 0]) (by simp [results,Tryz.results320,go_sem]) rfl ⟨by rw [HRP.out];simp,X.out.trans ((Ext.refl W).drewN _)⟩
 ·exact bodyPost_ret (v:= .tuple #[.int .i64 3,.int .i64 0]) (by simp [results,Tryz.results320,go_sem]) rfl ⟨by rw [HRP.out];simp,X.out.trans ((Ext.refl W).drewN _)⟩
 ·exact bodyPost_ret (v:= .tuple #[.int .i64 3,.int .i64 0]) (by simp [results,Tryz.results320,go_sem]) rfl ⟨by rw [HRP.out];simp,X.out.trans ((Ext.refl W).drewN _)⟩
set_option maxRecDepth 100000 in
set_option maxHeartbeats 4000000 in
theorem combine_all3 (C:Nat) (x:ExprI) (hop:x.op=3) (kv:Value) (ks:List Int) (w:World) (hk:SliceOf Rep.int w.cell? kv ks) (hkl:ks.length≤1000) :
  Calls Tryz.prog 320 #[.pointer (some ⟨C,0,none⟩),.agg (exprEnc x).toArray,kv] w fun e w'=>e = .returned (.tuple #[.int .i64 (if ks.all (accE · 1)=true then(1,0)else(0,7):Int×Int).1,.int .i64 (if ks.all (accE · 1)=true then(1,0)else(0,7):Int×Int).2])∧Ext w w':=by
 obtain⟨op,xa,xb,col,⟨ck,cn,cs⟩⟩:=x
 dsimp only at hop
 subst hop
 unfold exprEnc
 dsimp only
 obtain⟨pk,kk,rfl,_,_,hpk⟩:=hk.form
 obtain⟨N,hN⟩ : ∃z,z=ks.length:=⟨_,rfl⟩
 rw [←hN]at hk hpk ⊢
 obtain⟨rp,hrp⟩ : ∃p,p=(if ks.all (accE · 1)=true then(1,0)else(0,7):Int×Int):=⟨_,rfl⟩
 rw [←hrp]
 have HRP:=Lib.hid hrp
 have HK:=Lib.hid hk
 have HP:=Lib.hid hpk
 have HN:=Lib.hid hN
 have hNl:N≤1000:=by omega
 clear hk hpk hN hkl hrp
 go_enter Tryz.func320,Tryz.ntmps320
 go_wp2_with fail
 have X:=Lib.hid ((Ext.refl w).alloc (.cells #[.int .i64 3,.int .i64 xa,.int .i64 xb,.int .i64 col,.int .i64 ck,.int .i64 cn,.string cs] 66))
 generalize w.alloc (.cells #[.int .i64 3,.int .i64 xa,.int .i64 xb,.int .i64 col,.int .i64 ck,.int .i64 cn,.string cs] 66)=W at X ⊢
 go_loopg [57] N (fun gk vi wr=> ∃(k:Nat),k≤N∧gk=N - k∧vi = .int .i64 k∧Hid ((ks.take k).all (accE · 1)=true)∧W=wr)
 case atStart=>exact⟨0,by omega,rfl,rfl,rfl,rfl⟩
 case round =>
  obtain⟨k,hk,rfl,rfl,HA,rfl⟩:=hrel
  by_cases hlt:k<N
  ·have hkl:k<ks.length:=by have:=HN.out;omega
   have hd:decide ((k:Int)<(N:Int))=true:=by simp;omega
   obtain⟨bk,ok,rfl⟩:=HP.out (by decide) (by omega)
   have hv:=HK.out
   obtain⟨c0,-⟩:=int_at hv k hkl
   replace c0:=X.out.at c0
   have HT:=Lib.hid (show (ks.take (k+1)).all (accE · 1)=accE ks[k] 1 from by rw [List.take_succ_eq_append_getElem hkl,List.all_append,HA.out];simp)
   have HM:=Lib.hid (List.getElem_mem hkl)
   generalize ks[k]=y at c0 HT HM
   have e0:=cell_lt c0
   clear hv hkl
   go_wp2_with fail
   refine(accepts_any y 1 _).mono ?_
   rintro e w4 ⟨rfl,rfl⟩
   cases hq:accE y 1
   ·have HQ:=Lib.hid (show ks.all (accE · 1)=false from by
     cases h:ks.all (accE · 1)with
     |false=>rfl
     |true=>rw [List.all_eq_true]at h;rw [h y HM.out]at hq;cases hq)
    clear hq
    go_wp2_with fail
    exact bodyPost_ret (v:= .tuple #[.int .i64 0,.int .i64 7]) (by simp [results,Tryz.results320,go_sem]) rfl ⟨by rw [HRP.out,HQ.out];simp,X.out⟩
   ·rw [hq]at HT
    clear hq
    go_wp2_with fail
    go_roundg (N - (k+1))
    case measure=>omega
    case rel=>exact⟨k+1,by omega,rfl,by go_num,HT.out,rfl⟩
  ·have hkN:k=N:=by omega
   have hd : ¬(k:Int)<(N:Int):=by omega
   have HQ:=Lib.hid (show ks.all (accE · 1)=true from by have h:=HA.out;rw [hkN,HN.out,List.take_length]at h;exact h)
   clear hkN
   go_wp2_with fail
   exact bodyPost_ret (v:= .tuple #[.int .i64 1,.int .i64 0]) (by simp [results,Tryz.results320,go_sem]) rfl ⟨by rw [HRP.out,HQ.out];simp,X.out⟩
set_option maxRecDepth 100000 in
set_option maxHeartbeats 4000000 in
theorem combine_all4 (C:Nat) (x:ExprI) (hop:x.op=4) (kv:Value) (ks:List Int) (w:World) (hk:SliceOf Rep.int w.cell? kv ks) (hkl:ks.length≤1000) :
  Calls Tryz.prog 320 #[.pointer (some ⟨C,0,none⟩),.agg (exprEnc x).toArray,kv] w fun e w'=>e = .returned (.tuple #[.int .i64 (if ks.all (accE · 1)=true then(1,0)else(0,7):Int×Int).1,.int .i64 (if ks.all (accE · 1)=true then(1,0)else(0,7):Int×Int).2])∧Ext w w':=by
 obtain⟨op,xa,xb,col,⟨ck,cn,cs⟩⟩:=x
 dsimp only at hop
 subst hop
 unfold exprEnc
 dsimp only
 obtain⟨pk,kk,rfl,_,_,hpk⟩:=hk.form
 obtain⟨N,hN⟩ : ∃z,z=ks.length:=⟨_,rfl⟩
 rw [←hN]at hk hpk ⊢
 obtain⟨rp,hrp⟩ : ∃p,p=(if ks.all (accE · 1)=true then(1,0)else(0,7):Int×Int):=⟨_,rfl⟩
 rw [←hrp]
 have HRP:=Lib.hid hrp
 have HK:=Lib.hid hk
 have HP:=Lib.hid hpk
 have HN:=Lib.hid hN
 have hNl:N≤1000:=by omega
 clear hk hpk hN hkl hrp
 go_enter Tryz.func320,Tryz.ntmps320
 go_wp2_with fail
 have X:=Lib.hid ((Ext.refl w).alloc (.cells #[.int .i64 4,.int .i64 xa,.int .i64 xb,.int .i64 col,.int .i64 ck,.int .i64 cn,.string cs] 66))
 generalize w.alloc (.cells #[.int .i64 4,.int .i64 xa,.int .i64 xb,.int .i64 col,.int .i64 ck,.int .i64 cn,.string cs] 66)=W at X ⊢
 go_loopg [57] N (fun gk vi wr=> ∃(k:Nat),k≤N∧gk=N - k∧vi = .int .i64 k∧Hid ((ks.take k).all (accE · 1)=true)∧W=wr)
 case atStart=>exact⟨0,by omega,rfl,rfl,rfl,rfl⟩
 case round =>
  obtain⟨k,hk,rfl,rfl,HA,rfl⟩:=hrel
  by_cases hlt:k<N
  ·have hkl:k<ks.length:=by have:=HN.out;omega
   have hd:decide ((k:Int)<(N:Int))=true:=by simp;omega
   obtain⟨bk,ok,rfl⟩:=HP.out (by decide) (by omega)
   have hv:=HK.out
   obtain⟨c0,-⟩:=int_at hv k hkl
   replace c0:=X.out.at c0
   have HT:=Lib.hid (show (ks.take (k+1)).all (accE · 1)=accE ks[k] 1 from by rw [List.take_succ_eq_append_getElem hkl,List.all_append,HA.out];simp)
   have HM:=Lib.hid (List.getElem_mem hkl)
   generalize ks[k]=y at c0 HT HM
   have e0:=cell_lt c0
   clear hv hkl
   go_wp2_with fail
   refine(accepts_any y 1 _).mono ?_
   rintro e w4 ⟨rfl,rfl⟩
   cases hq:accE y 1
   ·have HQ:=Lib.hid (show ks.all (accE · 1)=false from by
     cases h:ks.all (accE · 1)with
     |false=>rfl
     |true=>rw [List.all_eq_true]at h;rw [h y HM.out]at hq;cases hq)
    clear hq
    go_wp2_with fail
    exact bodyPost_ret (v:= .tuple #[.int .i64 0,.int .i64 7]) (by simp [results,Tryz.results320,go_sem]) rfl ⟨by rw [HRP.out,HQ.out];simp,X.out⟩
   ·rw [hq]at HT
    clear hq
    go_wp2_with fail
    go_roundg (N - (k+1))
    case measure=>omega
    case rel=>exact⟨k+1,by omega,rfl,by go_num,HT.out,rfl⟩
  ·have hkN:k=N:=by omega
   have hd : ¬(k:Int)<(N:Int):=by omega
   have HQ:=Lib.hid (show ks.all (accE · 1)=true from by have h:=HA.out;rw [hkN,HN.out,List.take_length]at h;exact h)
   clear hkN
   go_wp2_with fail
   exact bodyPost_ret (v:= .tuple #[.int .i64 1,.int .i64 0]) (by simp [results,Tryz.results320,go_sem]) rfl ⟨by rw [HRP.out,HQ.out];simp,X.out⟩
set_option maxRecDepth 100000 in
set_option maxHeartbeats 4000000 in
theorem combine_all5 (C:Nat) (x:ExprI) (hop:x.op=5) (kv:Value) (ks:List Int) (w:World) (hk:SliceOf Rep.int w.cell? kv ks) (hkl:ks.length≤1000) :
  Calls Tryz.prog 320 #[.pointer (some ⟨C,0,none⟩),.agg (exprEnc x).toArray,kv] w fun e w'=>e = .returned (.tuple #[.int .i64 (if ks.all (accE · 1)=true then(1,0)else(0,7):Int×Int).1,.int .i64 (if ks.all (accE · 1)=true then(1,0)else(0,7):Int×Int).2])∧Ext w w':=by
 obtain⟨op,xa,xb,col,⟨ck,cn,cs⟩⟩:=x
 dsimp only at hop
 subst hop
 unfold exprEnc
 dsimp only
 obtain⟨pk,kk,rfl,_,_,hpk⟩:=hk.form
 obtain⟨N,hN⟩ : ∃z,z=ks.length:=⟨_,rfl⟩
 rw [←hN]at hk hpk ⊢
 obtain⟨rp,hrp⟩ : ∃p,p=(if ks.all (accE · 1)=true then(1,0)else(0,7):Int×Int):=⟨_,rfl⟩
 rw [←hrp]
 have HRP:=Lib.hid hrp
 have HK:=Lib.hid hk
 have HP:=Lib.hid hpk
 have HN:=Lib.hid hN
 have hNl:N≤1000:=by omega
 clear hk hpk hN hkl hrp
 go_enter Tryz.func320,Tryz.ntmps320
 go_wp2_with fail
 have X:=Lib.hid ((Ext.refl w).alloc (.cells #[.int .i64 5,.int .i64 xa,.int .i64 xb,.int .i64 col,.int .i64 ck,.int .i64 cn,.string cs] 66))
 generalize w.alloc (.cells #[.int .i64 5,.int .i64 xa,.int .i64 xb,.int .i64 col,.int .i64 ck,.int .i64 cn,.string cs] 66)=W at X ⊢
 go_loopg [57] N (fun gk vi wr=> ∃(k:Nat),k≤N∧gk=N - k∧vi = .int .i64 k∧Hid ((ks.take k).all (accE · 1)=true)∧W=wr)
 case atStart=>exact⟨0,by omega,rfl,rfl,rfl,rfl⟩
 case round =>
  obtain⟨k,hk,rfl,rfl,HA,rfl⟩:=hrel
  by_cases hlt:k<N
  ·have hkl:k<ks.length:=by have:=HN.out;omega
   have hd:decide ((k:Int)<(N:Int))=true:=by simp;omega
   obtain⟨bk,ok,rfl⟩:=HP.out (by decide) (by omega)
   have hv:=HK.out
   obtain⟨c0,-⟩:=int_at hv k hkl
   replace c0:=X.out.at c0
   have HT:=Lib.hid (show (ks.take (k+1)).all (accE · 1)=accE ks[k] 1 from by rw [List.take_succ_eq_append_getElem hkl,List.all_append,HA.out];simp)
   have HM:=Lib.hid (List.getElem_mem hkl)
   generalize ks[k]=y at c0 HT HM
   have e0:=cell_lt c0
   clear hv hkl
   go_wp2_with fail
   refine(accepts_any y 1 _).mono ?_
   rintro e w4 ⟨rfl,rfl⟩
   cases hq:accE y 1
   ·have HQ:=Lib.hid (show ks.all (accE · 1)=false from by
     cases h:ks.all (accE · 1)with
     |false=>rfl
     |true=>rw [List.all_eq_true]at h;rw [h y HM.out]at hq;cases hq)
    clear hq
    go_wp2_with fail
    exact bodyPost_ret (v:= .tuple #[.int .i64 0,.int .i64 7]) (by simp [results,Tryz.results320,go_sem]) rfl ⟨by rw [HRP.out,HQ.out];simp,X.out⟩
   ·rw [hq]at HT
    clear hq
    go_wp2_with fail
    go_roundg (N - (k+1))
    case measure=>omega
    case rel=>exact⟨k+1,by omega,rfl,by go_num,HT.out,rfl⟩
  ·have hkN:k=N:=by omega
   have hd : ¬(k:Int)<(N:Int):=by omega
   have HQ:=Lib.hid (show ks.all (accE · 1)=true from by have h:=HA.out;rw [hkN,HN.out,List.take_length]at h;exact h)
   clear hkN
   go_wp2_with fail
   exact bodyPost_ret (v:= .tuple #[.int .i64 1,.int .i64 0]) (by simp [results,Tryz.results320,go_sem]) rfl ⟨by rw [HRP.out,HQ.out];simp,X.out⟩
set_option maxRecDepth 100000 in
set_option maxHeartbeats 4000000 in
theorem combine_all8 (C:Nat) (x:ExprI) (hop:x.op=8) (kv:Value) (ks:List Int) (w:World) (hk:SliceOf Rep.int w.cell? kv ks) (hkl:ks.length≤1000) :
  Calls Tryz.prog 320 #[.pointer (some ⟨C,0,none⟩),.agg (exprEnc x).toArray,kv] w fun e w'=>e = .returned (.tuple #[.int .i64 (if ks.all (accE · 3)=true then(3,0)else(0,7):Int×Int).1,.int .i64 (if ks.all (accE · 3)=true then(3,0)else(0,7):Int×Int).2])∧Ext w w':=by
 obtain⟨op,xa,xb,col,⟨ck,cn,cs⟩⟩:=x
 dsimp only at hop
 subst hop
 unfold exprEnc
 dsimp only
 obtain⟨pk,kk,rfl,_,_,hpk⟩:=hk.form
 obtain⟨N,hN⟩ : ∃z,z=ks.length:=⟨_,rfl⟩
 rw [←hN]at hk hpk ⊢
 obtain⟨rp,hrp⟩ : ∃p,p=(if ks.all (accE · 3)=true then(3,0)else(0,7):Int×Int):=⟨_,rfl⟩
 rw [←hrp]
 have HRP:=Lib.hid hrp
 have HK:=Lib.hid hk
 have HP:=Lib.hid hpk
 have HN:=Lib.hid hN
 have hNl:N≤1000:=by omega
 clear hk hpk hN hkl hrp
 go_enter Tryz.func320,Tryz.ntmps320
 go_wp2_with fail
 have X:=Lib.hid ((Ext.refl w).alloc (.cells #[.int .i64 8,.int .i64 xa,.int .i64 xb,.int .i64 col,.int .i64 ck,.int .i64 cn,.string cs] 66))
 generalize w.alloc (.cells #[.int .i64 8,.int .i64 xa,.int .i64 xb,.int .i64 col,.int .i64 ck,.int .i64 cn,.string cs] 66)=W at X ⊢
 go_loopg [57] N (fun gk vi wr=> ∃(k:Nat),k≤N∧gk=N - k∧vi = .int .i64 k∧Hid ((ks.take k).all (accE · 3)=true)∧W=wr)
 case atStart=>exact⟨0,by omega,rfl,rfl,rfl,rfl⟩
 case round =>
  obtain⟨k,hk,rfl,rfl,HA,rfl⟩:=hrel
  by_cases hlt:k<N
  ·have hkl:k<ks.length:=by have:=HN.out;omega
   have hd:decide ((k:Int)<(N:Int))=true:=by simp;omega
   obtain⟨bk,ok,rfl⟩:=HP.out (by decide) (by omega)
   have hv:=HK.out
   obtain⟨c0,-⟩:=int_at hv k hkl
   replace c0:=X.out.at c0
   have HT:=Lib.hid (show (ks.take (k+1)).all (accE · 3)=accE ks[k] 3 from by rw [List.take_succ_eq_append_getElem hkl,List.all_append,HA.out];simp)
   have HM:=Lib.hid (List.getElem_mem hkl)
   generalize ks[k]=y at c0 HT HM
   have e0:=cell_lt c0
   clear hv hkl
   go_wp2_with fail
   refine(accepts_any y 3 _).mono ?_
   rintro e w4 ⟨rfl,rfl⟩
   cases hq:accE y 3
   ·have HQ:=Lib.hid (show ks.all (accE · 3)=false from by
     cases h:ks.all (accE · 3)with
     |false=>rfl
     |true=>rw [List.all_eq_true]at h;rw [h y HM.out]at hq;cases hq)
    clear hq
    go_wp2_with fail
    exact bodyPost_ret (v:= .tuple #[.int .i64 0,.int .i64 7]) (by simp [results,Tryz.results320,go_sem]) rfl ⟨by rw [HRP.out,HQ.out];simp,X.out⟩
   ·rw [hq]at HT
    clear hq
    go_wp2_with fail
    go_roundg (N - (k+1))
    case measure=>omega
    case rel=>exact⟨k+1,by omega,rfl,by go_num,HT.out,rfl⟩
  ·have hkN:k=N:=by omega
   have hd : ¬(k:Int)<(N:Int):=by omega
   have HQ:=Lib.hid (show ks.all (accE · 3)=true from by have h:=HA.out;rw [hkN,HN.out,List.take_length]at h;exact h)
   clear hkN
   go_wp2_with fail
   exact bodyPost_ret (v:= .tuple #[.int .i64 3,.int .i64 0]) (by simp [results,Tryz.results320,go_sem]) rfl ⟨by rw [HRP.out,HQ.out];simp,X.out⟩
set_option maxRecDepth 100000 in
set_option maxHeartbeats 4000000 in
theorem combine_all9 (C:Nat) (x:ExprI) (hop:x.op=9) (kv:Value) (ks:List Int) (w:World) (hk:SliceOf Rep.int w.cell? kv ks) (hkl:ks.length≤1000) :
  Calls Tryz.prog 320 #[.pointer (some ⟨C,0,none⟩),.agg (exprEnc x).toArray,kv] w fun e w'=>e = .returned (.tuple #[.int .i64 (if ks.all (accE · 3)=true then(3,0)else(0,7):Int×Int).1,.int .i64 (if ks.all (accE · 3)=true then(3,0)else(0,7):Int×Int).2])∧Ext w w':=by
 obtain⟨op,xa,xb,col,⟨ck,cn,cs⟩⟩:=x
 dsimp only at hop
 subst hop
 unfold exprEnc
 dsimp only
 obtain⟨pk,kk,rfl,_,_,hpk⟩:=hk.form
 obtain⟨N,hN⟩ : ∃z,z=ks.length:=⟨_,rfl⟩
 rw [←hN]at hk hpk ⊢
 obtain⟨rp,hrp⟩ : ∃p,p=(if ks.all (accE · 3)=true then(3,0)else(0,7):Int×Int):=⟨_,rfl⟩
 rw [←hrp]
 have HRP:=Lib.hid hrp
 have HK:=Lib.hid hk
 have HP:=Lib.hid hpk
 have HN:=Lib.hid hN
 have hNl:N≤1000:=by omega
 clear hk hpk hN hkl hrp
 go_enter Tryz.func320,Tryz.ntmps320
 go_wp2_with fail
 have X:=Lib.hid ((Ext.refl w).alloc (.cells #[.int .i64 9,.int .i64 xa,.int .i64 xb,.int .i64 col,.int .i64 ck,.int .i64 cn,.string cs] 66))
 generalize w.alloc (.cells #[.int .i64 9,.int .i64 xa,.int .i64 xb,.int .i64 col,.int .i64 ck,.int .i64 cn,.string cs] 66)=W at X ⊢
 go_loopg [57] N (fun gk vi wr=> ∃(k:Nat),k≤N∧gk=N - k∧vi = .int .i64 k∧Hid ((ks.take k).all (accE · 3)=true)∧W=wr)
 case atStart=>exact⟨0,by omega,rfl,rfl,rfl,rfl⟩
 case round =>
  obtain⟨k,hk,rfl,rfl,HA,rfl⟩:=hrel
  by_cases hlt:k<N
  ·have hkl:k<ks.length:=by have:=HN.out;omega
   have hd:decide ((k:Int)<(N:Int))=true:=by simp;omega
   obtain⟨bk,ok,rfl⟩:=HP.out (by decide) (by omega)
   have hv:=HK.out
   obtain⟨c0,-⟩:=int_at hv k hkl
   replace c0:=X.out.at c0
   have HT:=Lib.hid (show (ks.take (k+1)).all (accE · 3)=accE ks[k] 3 from by rw [List.take_succ_eq_append_getElem hkl,List.all_append,HA.out];simp)
   have HM:=Lib.hid (List.getElem_mem hkl)
   generalize ks[k]=y at c0 HT HM
   have e0:=cell_lt c0
   clear hv hkl
   go_wp2_with fail
   refine(accepts_any y 3 _).mono ?_
   rintro e w4 ⟨rfl,rfl⟩
   cases hq:accE y 3
   ·have HQ:=Lib.hid (show ks.all (accE · 3)=false from by
     cases h:ks.all (accE · 3)with
     |false=>rfl
     |true=>rw [List.all_eq_true]at h;rw [h y HM.out]at hq;cases hq)
    clear hq
    go_wp2_with fail
    exact bodyPost_ret (v:= .tuple #[.int .i64 0,.int .i64 7]) (by simp [results,Tryz.results320,go_sem]) rfl ⟨by rw [HRP.out,HQ.out];simp,X.out⟩
   ·rw [hq]at HT
    clear hq
    go_wp2_with fail
    go_roundg (N - (k+1))
    case measure=>omega
    case rel=>exact⟨k+1,by omega,rfl,by go_num,HT.out,rfl⟩
  ·have hkN:k=N:=by omega
   have hd : ¬(k:Int)<(N:Int):=by omega
   have HQ:=Lib.hid (show ks.all (accE · 3)=true from by have h:=HA.out;rw [hkN,HN.out,List.take_length]at h;exact h)
   clear hkN
   go_wp2_with fail
   exact bodyPost_ret (v:= .tuple #[.int .i64 3,.int .i64 0]) (by simp [results,Tryz.results320,go_sem]) rfl ⟨by rw [HRP.out,HQ.out];simp,X.out⟩
set_option maxRecDepth 100000 in
set_option maxHeartbeats 4000000 in
theorem combine_all10 (C:Nat) (x:ExprI) (hop:x.op=10) (kv:Value) (ks:List Int) (w:World) (hk:SliceOf Rep.int w.cell? kv ks) (hkl:ks.length≤1000) :
  Calls Tryz.prog 320 #[.pointer (some ⟨C,0,none⟩),.agg (exprEnc x).toArray,kv] w fun e w'=>e = .returned (.tuple #[.int .i64 (if ks.all (accE · 3)=true then(3,0)else(0,7):Int×Int).1,.int .i64 (if ks.all (accE · 3)=true then(3,0)else(0,7):Int×Int).2])∧Ext w w':=by
 obtain⟨op,xa,xb,col,⟨ck,cn,cs⟩⟩:=x
 dsimp only at hop
 subst hop
 unfold exprEnc
 dsimp only
 obtain⟨pk,kk,rfl,_,_,hpk⟩:=hk.form
 obtain⟨N,hN⟩ : ∃z,z=ks.length:=⟨_,rfl⟩
 rw [←hN]at hk hpk ⊢
 obtain⟨rp,hrp⟩ : ∃p,p=(if ks.all (accE · 3)=true then(3,0)else(0,7):Int×Int):=⟨_,rfl⟩
 rw [←hrp]
 have HRP:=Lib.hid hrp
 have HK:=Lib.hid hk
 have HP:=Lib.hid hpk
 have HN:=Lib.hid hN
 have hNl:N≤1000:=by omega
 clear hk hpk hN hkl hrp
 go_enter Tryz.func320,Tryz.ntmps320
 go_wp2_with fail
 have X:=Lib.hid ((Ext.refl w).alloc (.cells #[.int .i64 10,.int .i64 xa,.int .i64 xb,.int .i64 col,.int .i64 ck,.int .i64 cn,.string cs] 66))
 generalize w.alloc (.cells #[.int .i64 10,.int .i64 xa,.int .i64 xb,.int .i64 col,.int .i64 ck,.int .i64 cn,.string cs] 66)=W at X ⊢
 go_loopg [57] N (fun gk vi wr=> ∃(k:Nat),k≤N∧gk=N - k∧vi = .int .i64 k∧Hid ((ks.take k).all (accE · 3)=true)∧W=wr)
 case atStart=>exact⟨0,by omega,rfl,rfl,rfl,rfl⟩
 case round =>
  obtain⟨k,hk,rfl,rfl,HA,rfl⟩:=hrel
  by_cases hlt:k<N
  ·have hkl:k<ks.length:=by have:=HN.out;omega
   have hd:decide ((k:Int)<(N:Int))=true:=by simp;omega
   obtain⟨bk,ok,rfl⟩:=HP.out (by decide) (by omega)
   have hv:=HK.out
   obtain⟨c0,-⟩:=int_at hv k hkl
   replace c0:=X.out.at c0
   have HT:=Lib.hid (show (ks.take (k+1)).all (accE · 3)=accE ks[k] 3 from by rw [List.take_succ_eq_append_getElem hkl,List.all_append,HA.out];simp)
   have HM:=Lib.hid (List.getElem_mem hkl)
   generalize ks[k]=y at c0 HT HM
   have e0:=cell_lt c0
   clear hv hkl
   go_wp2_with fail
   refine(accepts_any y 3 _).mono ?_
   rintro e w4 ⟨rfl,rfl⟩
   cases hq:accE y 3
   ·have HQ:=Lib.hid (show ks.all (accE · 3)=false from by
     cases h:ks.all (accE · 3)with
     |false=>rfl
     |true=>rw [List.all_eq_true]at h;rw [h y HM.out]at hq;cases hq)
    clear hq
    go_wp2_with fail
    exact bodyPost_ret (v:= .tuple #[.int .i64 0,.int .i64 7]) (by simp [results,Tryz.results320,go_sem]) rfl ⟨by rw [HRP.out,HQ.out];simp,X.out⟩
   ·rw [hq]at HT
    clear hq
    go_wp2_with fail
    go_roundg (N - (k+1))
    case measure=>omega
    case rel=>exact⟨k+1,by omega,rfl,by go_num,HT.out,rfl⟩
  ·have hkN:k=N:=by omega
   have hd : ¬(k:Int)<(N:Int):=by omega
   have HQ:=Lib.hid (show ks.all (accE · 3)=true from by have h:=HA.out;rw [hkN,HN.out,List.take_length]at h;exact h)
   clear hkN
   go_wp2_with fail
   exact bodyPost_ret (v:= .tuple #[.int .i64 3,.int .i64 0]) (by simp [results,Tryz.results320,go_sem]) rfl ⟨by rw [HRP.out,HQ.out];simp,X.out⟩
theorem combineT_any (C:Nat) (x:ExprI) (kv vc:Value) (ks cols:List Int) (w:World) (hC:w.cell? ⟨C,1,none⟩=some vc) (hc:SliceOf Rep.int w.cell? vc cols) (hk:SliceOf Rep.int w.cell? kv ks) (har:0≤arityE x.op) (hkl:ks.length=(arityE x.op).toNat) (hcol:x.op=2→0≤x.col∧x.col<cols.length) :
  Calls Tryz.prog 320 #[.pointer (some ⟨C,0,none⟩),.agg (exprEnc x).toArray,kv] w fun e w'=>e = .returned (.tuple #[.int .i64 (combineE x ks cols).1,.int .i64 (combineE x ks cols).2])∧Ext w w':=by
 have h2:x.op=1∨x.op=2∨x.op=11∨(x.op=6∨x.op=7)∨x.op=3∨x.op=4∨x.op=5∨x.op=8∨x.op=9∨x.op=10:=by
  unfold arityE at har
  split at har
  ·omega
  split at har
  ·omega
  split at har
  ·omega
  ·omega
 have hkl2:ks.length≤1000:=by have:=arityE_le x.op;omega
 rcases h2 with h | h | h | h | h | h | h | h | h | h
 ·have e:combineE x ks cols=(x.c.kind,0):=by unfold combineE;rw [if_pos h]
  rw [e];exact combine_const C x h kv w
 ·have e:combineE x ks cols=(cols.getD x.col.toNat 0,0):=by unfold combineE;rw [if_neg (by omega),if_pos h]
  rw [e];exact combine_col C x h kv vc cols w hC hc (hcol h)
 ·have e:combineE x ks cols=(3,0):=by unfold combineE;rw [if_neg (by omega),if_neg (by omega),if_pos h]
  rw [e];exact combine_isnull C x h kv w
 ·have ha2:arityE x.op=2:=by unfold arityE;rw [if_neg (by omega),if_neg (by omega),if_pos (by omega)]
  obtain⟨k0,k1,rfl⟩:=two_of (hkl.trans (by rw [ha2];rfl))
  have e:combineE x [k0,k1] cols=if accE k0 k1=false∧accE k1 k0=false then(0,7)else(3,0):=by unfold combineE;rw [if_neg (by omega),if_neg (by omega),if_neg (by omega),if_pos h];rfl
  rw [e]
  rcases h with h | h
  ·exact combine_cmp6 C x h kv k0 k1 w hk
  ·exact combine_cmp7 C x h kv k0 k1 w hk
 ·have e:combineE x ks cols=if ks.all (accE · 1)=true then(1,0)else(0,7):=by unfold combineE;rw [if_neg (by omega),if_neg (by omega),if_neg (by omega),if_neg (by omega),if_pos (by omega)]
  rw [e];exact combine_all3 C x h kv ks w hk hkl2
 ·have e:combineE x ks cols=if ks.all (accE · 1)=true then(1,0)else(0,7):=by unfold combineE;rw [if_neg (by omega),if_neg (by omega),if_neg (by omega),if_neg (by omega),if_pos (by omega)]
  rw [e];exact combine_all4 C x h kv ks w hk hkl2
 ·have e:combineE x ks cols=if ks.all (accE · 1)=true then(1,0)else(0,7):=by unfold combineE;rw [if_neg (by omega),if_neg (by omega),if_neg (by omega),if_neg (by omega),if_pos (by omega)]
  rw [e];exact combine_all5 C x h kv ks w hk hkl2
 ·have e:combineE x ks cols=if ks.all (accE · 3)=true then(3,0)else(0,7):=by unfold combineE;rw [if_neg (by omega),if_neg (by omega),if_neg (by omega),if_neg (by omega),if_neg (by omega)]
  rw [e];exact combine_all8 C x h kv ks w hk hkl2
 ·have e:combineE x ks cols=if ks.all (accE · 3)=true then(3,0)else(0,7):=by unfold combineE;rw [if_neg (by omega),if_neg (by omega),if_neg (by omega),if_neg (by omega),if_neg (by omega)]
  rw [e];exact combine_all9 C x h kv ks w hk hkl2
 ·have e:combineE x ks cols=if ks.all (accE · 3)=true then(3,0)else(0,7):=by unfold combineE;rw [if_neg (by omega),if_neg (by omega),if_neg (by omega),if_neg (by omega),if_neg (by omega)]
  rw [e];exact combine_all10 C x h kv ks w hk hkl2
end Go.Proofs.YtombmdaohcjokaaGreatDoor
