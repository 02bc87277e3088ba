/- joined texts of a proof: PlainK, MapV, PlainE, PerR, Chg, Cut, Step, ShelfD -/
import Derived.Lib.ItoaNum
import Derived.Test.YtombmdaohcjokaaGreatDoorKG01
import Derived.Maps.Own
import Derived.Maps.OwnOps
import Derived.Maps.RangeWalk
import Derived.Maps.Views
import Derived.Test.YtombmdaohcjokaaGreatDoorKG03
import Derived.Test.YtombmdaohcjokaaGreatDoorKG02
import Derived.Deep.RegionLaw
import Derived.Ground.SlsfProg
import Derived.Shelf.SlSortCmp.WholeK
import Derived.Test.YtombmdaohcjokaaGreatDoorProg
namespace Go.Proofs.YtombmdaohcjokaaGreatDoor
open Go.Lib
def numCh (c:UInt8):Bool:=decide (c=45)||(decide (48≤c.toNat)&&decide (c.toNat≤57))
theorem digit_ch {d:Nat} (h:d<10):(UInt8.ofNat (48+d)).toNat=48+d:=by
 simp only [UInt8.toNat_ofNat']
 omega
theorem digits_ch (u:Nat) : ∀c∈decDigits u,48≤c.toNat∧c.toNat≤57:=by
 induction u using decDigits.induct with
 |case1 u h =>
  rw [decDigits,dif_pos h]
  intro c hc
  rw [List.mem_singleton]at hc
  subst hc
  rw [digit_ch h]
  omega
 |case2 u h ih =>
  rw [decDigits,dif_neg h]
  intro c hc
  rcases List.mem_append.1 hc with hc | hc
  ·exact ih c hc
  ·rw [List.mem_singleton]at hc
   subst hc
   rw [digit_ch (by omega)]
   omega
def readDec (l:List UInt8):Nat:=l.foldl (fun v c=>v*10+(c.toNat - 48)) 0
theorem readDec_digits (u:Nat):readDec (decDigits u)=u:=by
 induction u using decDigits.induct with
 |case1 u h =>
  rw [decDigits,dif_pos h]
  show 0*10+((UInt8.ofNat (48+u)).toNat - 48)=u
  rw [digit_ch h]
  omega
 |case2 u h ih =>
  rw [decDigits,dif_neg h]
  unfold readDec at ih ⊢
  rw [List.foldl_append,ih]
  show u / 10*10+((UInt8.ofNat (48+u % 10)).toNat - 48)=u
  rw [digit_ch (by omega)]
  omega
theorem digits_inj {u v:Nat} (h:decDigits u=decDigits v):u=v:=by rw [←readDec_digits u,h,readDec_digits]
theorem minus_digits {u v:Nat} (h:45::decDigits u=decDigits v):False:=by
 have:=digits_ch v 45 (by rw [←h];simp)
 have e:(45:UInt8).toNat=45:=rfl
 omega
theorem itoa_inj {a b:Int} (h:itoa a=itoa b):a=b:=by
 unfold itoa at h
 split at h <;> split at h
 ·injection h with _ h
  have:=digits_inj h
  omega
 ·exact(minus_digits h).elim
 ·exact(minus_digits h.symm).elim
 ·have:=digits_inj h
  omega
theorem itoa_ch (n:Int) : ∀c∈itoa n,numCh c=true:=by
 have key : ∀u,∀c∈decDigits u,numCh c=true:=fun u c hc=>by
  have:=digits_ch u c hc
  unfold numCh
  simp [this.1,this.2]
 unfold itoa
 split
 ·intro c hc
  rcases List.mem_cons.1 hc with rfl | hc
  ·rfl
  ·exact key _ c hc
 ·exact key _
def Over (x:List UInt8):Prop:= ∀c r,x=c::r→numCh c=false
theorem Over.nil:Over []:=fun c r h=>by cases h
theorem Over.cons {c:UInt8} {r:List UInt8} (h:numCh c=false):Over (c::r):=fun c' r' e=>by cases e;exact h
theorem take_num (n:Int) {x:List UInt8} (hx:Over x):(itoa n++x).takeWhile numCh=itoa n∧(itoa n++x).dropWhile numCh=x:=by
 rw [List.takeWhile_append_of_pos (itoa_ch n),List.dropWhile_append_of_pos (itoa_ch n)]
 cases x with
 |nil=>simp
 |cons c r=>rw [List.takeWhile_cons_of_neg (by rw [hx c r rfl];decide),List.dropWhile_cons_of_neg (by rw [hx c r rfl];decide)];simp
theorem split_num {a b:Int} {x y:List UInt8} (hx:Over x) (hy:Over y) (h:itoa a++x=itoa b++y):a=b∧x=y:=by
 obtain⟨h1,h2⟩:=take_num a hx
 obtain⟨h3,h4⟩:=take_num b hy
 rw [h]at h1 h2
 exact⟨itoa_inj (h1.symm.trans h3),h2.symm.trans h4⟩
def keyVal (v:Val):List UInt8:=itoa v.kind++44::(itoa v.n++44::(itoa v.s.size++58::v.s.data.toList))
def keyVals (vs:List Val):List UInt8:=vs.flatMap keyVal
def keyLin (l:List Int):List UInt8:=l.flatMap fun id=>44::itoa id
def keyRow (r:Row):List UInt8:=itoa r.vals.length++59::(keyVals r.vals++keyLin r.lin)
theorem keyVal_inj {v u:Val} {x y:List UInt8} (h:keyVal v++x=keyVal u++y):v=u∧x=y:=by
 unfold keyVal at h
 simp only [List.append_assoc,List.cons_append]at h
 obtain⟨h1,h⟩:=split_num (Over.cons (by decide)) (Over.cons (by decide)) h
 injection h with _ h
 obtain⟨h2,h⟩:=split_num (Over.cons (by decide)) (Over.cons (by decide)) h
 injection h with _ h
 obtain⟨h3,h⟩:=split_num (Over.cons (by decide)) (Over.cons (by decide)) h
 injection h with _ h
 have hl:v.s.data.toList.length=u.s.data.toList.length:=by
  have e1:v.s.data.toList.length=v.s.size:=Array.length_toList
  have e2:u.s.data.toList.length=u.s.size:=Array.length_toList
  omega
 obtain⟨h4,h5⟩:=List.append_inj h hl
 obtain⟨k1,n1,⟨⟨s1⟩⟩⟩:=v
 obtain⟨k2,n2,⟨⟨s2⟩⟩⟩:=u
 simp only at h1 h2 h4
 subst h1 h2 h4
 exact⟨rfl,h5⟩
theorem keyVals_inj : ∀ {vs us:List Val} {x y:List UInt8},vs.length=us.length→keyVals vs++x=keyVals us++y→vs=us∧x=y:=by
 intro vs
 induction vs with
 |nil =>
  intro us x y hl h
  cases us with
  |nil=>exact⟨rfl,h⟩
  |cons u us=>cases hl
 |cons v vs ih =>
  intro us x y hl h
  cases us with
  |nil=>cases hl
  |cons u us =>
   unfold keyVals at h ih
   rw [List.flatMap_cons,List.flatMap_cons,List.append_assoc,List.append_assoc]at h
   obtain⟨h1,h2⟩:=keyVal_inj h
   obtain⟨h3,h4⟩:=ih (by simpa using hl) h2
   exact⟨by rw [h1,h3],h4⟩
theorem keyLin_over (l:List Int):Over (keyLin l):=by
 cases l with
 |nil=>exact Over.nil
 |cons x l=>exact Over.cons (by decide)
theorem keyLin_inj : ∀ {l k:List Int},keyLin l=keyLin k→l=k:=by
 intro l
 induction l with
 |nil =>
  intro k h
  cases k with
  |nil=>rfl
  |cons x k=>unfold keyLin at h;rw [List.flatMap_cons]at h;cases h
 |cons x l ih =>
  intro k h
  cases k with
  |nil=>unfold keyLin at h;rw [List.flatMap_cons]at h;cases h
  |cons y k =>
   unfold keyLin at h
   rw [List.flatMap_cons,List.flatMap_cons,List.cons_append,List.cons_append]at h
   injection h with _ h
   obtain⟨h1,h2⟩:=split_num (keyLin_over l) (keyLin_over k) h
   rw [h1,ih h2]
theorem keyRow_inj {a b:Row} (h:keyRow a=keyRow b):a=b:=by
 unfold keyRow at h
 obtain⟨h1,h⟩:=split_num (Over.cons (by decide)) (Over.cons (by decide)) h
 injection h with _ h
 obtain⟨h2,h3⟩:=keyVals_inj (by omega) h
 obtain⟨v1,l1⟩:=a
 obtain⟨v2,l2⟩:=b
 simp only at h2 h3
 rw [h2,keyLin_inj h3]
end Go.Proofs.YtombmdaohcjokaaGreatDoor
namespace Go.Proofs.YtombmdaohcjokaaGreatDoor
open Go.RowKit Go.Maps
open Classical in
noncomputable def rawR (S:Value→Prop) (v:Value):Option (DataW Value×List MemPlace):=if S v then some (.held v,[])else none
theorem rawR_mk {S:Value→Prop} {v:Value} (h:S v):rawR S v=some (.held v,[]):=by unfold rawR;rw [if_pos h]
theorem rawR_inv {S:Value→Prop} {v:Value} {y:DataW Value×List MemPlace} (h:rawR S v=some y):S v∧y=(.held v,[]):=by
 unfold rawR at h
 split at h
 ·rename_i hs
  exact⟨hs,(Option.some.inj h).symm⟩
 ·cases h
def readV (o:Option Value) (z:DataW Value):DataW Value:=match o with | some v=> .held v | none=>z
def Reads (D:DataW Value) (m:Lit→Option Value):Prop:=IsMap D∧ ∀kl,WideAt.IsKeyLit kl→ ∀z,D.atKey kl z=readV (m kl) z
theorem Reads.empty:Reads (.map []) fun _=>none:=⟨isMap_empty,fun _ _ _=>rfl⟩
open Classical in
noncomputable def putV (m:Lit→Option Value) (kl:Lit) (v:Value):Lit→Option Value:=fun z=>if z=kl then some v else m z
theorem putV_same (m:Lit→Option Value) (kl:Lit) (v:Value):putV m kl v kl=some v:=if_pos rfl
theorem putV_other (m:Lit→Option Value) {kl z:Lit} (v:Value) (h:z≠kl):putV m kl v z=m z:=if_neg h
theorem Reads.put {D:DataW Value} {m:Lit→Option Value} (h:Reads D m) {kl:Lit} (hk:WideAt.IsKeyLit kl) (v:Value):Reads (D.put kl (.held v)) (putV m kl v):=by
 refine⟨h.1.put _ _,fun z hz zd=> ?_⟩
 by_cases e:z=kl
 ·subst e
  rw [atKey_put_same h.1 hk,putV_same]
  rfl
 ·rw [atKey_put_other e,putV_other m v e]
  exact h.2 z hz zd
theorem Reads.has {D:DataW Value} {m:Lit→Option Value} (h:Reads D m) {kl:Lit} (hk:WideAt.IsKeyLit kl):Maps.has D kl=(m kl).isSome:=by
 cases hm:m kl with
 |none=>exact has_false_of_atKey fun z=>by rw [h.2 kl hk z,hm];rfl
 |some v=>exact has_true_of_atKey (y:= .held v) fun z=>by rw [h.2 kl hk z,hm];rfl
def MapV (w:World) (P:Program) (k:TypeId) (S:Value→Prop) (b n:Nat) (m:Lit→Option Value):Prop:= ∃D,w.ownsMap P k (rawR S) b n D∧Reads D m
theorem MapV.made (w:World) (P:Program) (k:TypeId) (S:Value→Prop):MapV (w.alloc (.map #[] 0)) P k S w.heap.size 0 fun _=>none:=⟨_,World.ownsMap_made w P k _,Reads.empty⟩
theorem MapV.lt {w:World} {P:Program} {k:TypeId} {S:Value→Prop} {b n:Nat} {m:Lit→Option Value} (h:MapV w P k S b n m):b<w.heap.size:=by obtain⟨D,h1,_⟩:=h;exact h1.lt
theorem MapV.kept {w w':World} {P:Program} {k:TypeId} {S:Value→Prop} {b n:Nat} {m:Lit→Option Value} {row:Option Nat} (h:MapV w P k S b n m) (hg:w.grownBy w' row) (hne:some b≠row):MapV w' P k S b n m:=by
 obtain⟨D,h1,h2⟩:=h
 exact⟨D,h1.kept hg hne,h2⟩
theorem MapV.alloc {w:World} {P:Program} {k:TypeId} {S:Value→Prop} {b n:Nat} {m:Lit→Option Value} (h:MapV w P k S b n m) (o:Obj):MapV (w.alloc o) P k S b n m:=by
 obtain⟨D,h1,h2⟩:=h
 exact⟨D,h1.alloc o,h2⟩
theorem MapV.mono {w:World} {P:Program} {k:TypeId} {S:Value→Prop} {b n n':Nat} {m:Lit→Option Value} (h:MapV w P k S b n m) (hn:n≤n'):MapV w P k S b n' m:=by
 obtain⟨D,h1,h2⟩:=h
 exact⟨D,h1.mono hn,h2⟩
theorem wpList_lookup_v {P:Program} (w:World) {ops:Array Oper} {rest:List Oper} {o:Oper} {a:Act} {Q:Exit→Act→World→Prop}
  (hg:o.guard=none) (m x:Operand) (t:TypeId) (hop:o.op=Op.lookup t m x false)
  (k e:TypeId) (K:Go.Maps.Keyed P k) (ht:P.underlying t=some (.map k e)) (z:Value) (hz:(zeroValue e).run P w = .ok z w) (S:Value→Prop) (hS:S z) (b n:Nat) (mp:Lit→Option Value)
  (hm:a.eval m = .map (some b)) (hown:MapV w P k S b n mp) (key:Value) (kl:Lit) (hx:a.eval x=key) (hkey:keyOf P k key=some kl)
  (hK : ∀v,Hid (v=(mp kl).getD z)→S v→wpList P ops Q rest (a.put o.dst v) w) :
  wpList P ops Q (o::rest) a w:=by
 refine wpList_plain hg fun K' hK'=> ?_
 obtain⟨D,h1,h2⟩:=hown
 obtain⟨v,ps,hrun,hat⟩:=h1.lookup K ht hz (rawR_mk hS) hkey
 obtain⟨hs,hv⟩:=rawR_inv hat
 have hvv:v=(mp kl).getD z:=by
  have h3:=h2.2 kl (K.key hkey) (.held z)
  rw [(Prod.mk.inj hv).1]at h3
  cases hmk:mp kl with
  |none=>rw [hmk]at h3;injection h3
  |some u=>rw [hmk]at h3;injection h3
 unfold Oper.wp
 simp [execOp,hop,hm,hx,hrun,Result.andThen]
 exact hK' _ _ (hK v (Lib.hid hvv) hs)
theorem wpList_store_v {P:Program} (w:World) {ops:Array Oper} {rest:List Oper} {o:Oper} {a:Act} {Q:Exit→Act→World→Prop}
  (hg:o.guard=none) (m x v:Operand) (t:TypeId) (hop:o.op=Op.mapUpdate t m x v)
  (k e:TypeId) (K:Go.Maps.Keyed P k) (ht:P.underlying t=some (.map k e)) (S:Value→Prop) (b n:Nat) (mp:Lit→Option Value)
  (hm:a.eval m = .map (some b)) (hown:MapV w P k S b n mp) (hn:n<maxLen) (key val:Value) (kl:Lit) (hx:a.eval x=key) (hv:a.eval v=val) (hkey:keyOf P k key=some kl) (hval:S val)
  (hK : ∀w',MapV w' P k S b (n+1) (putV mp kl val)→w.grownBy w' (some b)→wpList P ops Q rest (a.put o.dst undef) w') :
  wpList P ops Q (o::rest) a w:=by
 obtain⟨D,h1,h2⟩:=hown
 exact wpList_mapUpdate_own w hg m x v t hop k e K ht (rawR S) b n D hm h1 hn key val kl hx hv hkey (.held val) [] (rawR_mk hval) fun w' h3 h4=>hK w' ⟨_,h3,h2.put (K.key hkey) val⟩ h4
def RangeV (w:World) (P:Program) (k:TypeId) (S:Value→Prop) (b r n:Nat) (m:Lit→Option Value) (left:Lit→Bool) (cnt:Nat):Prop:= ∃D,w.ranges P k (rawR S) b r n D left cnt∧Reads D m
theorem RangeV.kept {w w':World} {P:Program} {k:TypeId} {S:Value→Prop} {b r n:Nat} {m:Lit→Option Value} {left:Lit→Bool} {cnt:Nat} {row:Option Nat} (h:RangeV w P k S b r n m left cnt) (hg:w.grownBy w' row) (hb:some b≠row) (hr:some r≠row):RangeV w' P k S b r n m left cnt:=by
 obtain⟨D,h1,h2⟩:=h
 exact⟨D,h1.kept hg hb hr,h2⟩
theorem wpList_range_v {P:Program} (w:World) {ops:Array Oper} {rest:List Oper} {o:Oper} {a:Act} {Q:Exit→Act→World→Prop}
  (hg:o.guard=none) (m:Operand) (t:TypeId) (hop:o.op=Op.range t m) (k e:TypeId) (K:Go.Maps.Keyed P k) (ht:P.underlying t=some (.map k e)) (S:Value→Prop) (b n:Nat) (mp:Lit→Option Value)
  (hm:a.eval m = .map (some b)) (hown:MapV w P k S b n mp)
  (hK : ∀w' left cnt,RangeV w' P k S b w.heap.size n mp left cnt→(∀kl,WideAt.IsKeyLit kl→left kl=(mp kl).isSome)→cnt≤n→w.grownBy w' none→w'.heap.size=w.heap.size+1→wpList P ops Q rest (a.put o.dst (.pointer (some ⟨w.heap.size,0,none⟩))) w') :
  wpList P ops Q (o::rest) a w:=by
 obtain⟨D,h1,h2⟩:=hown
 exact wpList_range_own w hg m t hop k e K ht (rawR S) b n D hm h1 fun w' h3 h4 h5=>hK w' _ _ ⟨D,h3,h2⟩ (fun kl hk=>h2.has hk) h1.size_le h4 h5
theorem wpList_next_v {β:Type} {P:Program} (w:World) {ops:Array Oper} {rest:List Oper} {o:Oper} {a:Act} {Q:Exit→Act→World→Prop}
  (hg:o.guard=none) (it:Operand) (hop:o.op=Op.next it false) (k:TypeId) (hk:P.underlying k=some .string) (K:Go.Maps.Keyed P k) (S:Value→Prop) (mkV:β→Value) (invV : ∀v,S v→ ∃c,v=mkV c)
  (b r n:Nat) (mp:Lit→Option Value) (left:Lit→Bool) (cnt:Nat) (hit:a.eval it = .pointer (some ⟨r,0,none⟩)) (h:RangeV w P k S b r n mp left cnt)
  (hDone:cnt=0→(∀kl,left kl=false)→wpList P ops Q rest (a.put o.dst (.tuple #[.bool false])) w)
  (hMore : ∀(x:ByteArray) (c:β) (w':World) (cnt':Nat),keyOf P k (.string x)=some (.string x.data.toList)→left (.string x.data.toList)=true→mp (.string x.data.toList)=some (mkV c)→S (mkV c)→RangeV w' P k S b r n mp (fun z=>left z && !z.sameKey (.string x.data.toList)) cnt'→cnt'<cnt →
   w.grownBy w' (some r)→w'.heap.size=w.heap.size→(Instr.entry (.pointer (some ⟨r,0,none⟩))).run P w' = .ok (.tuple #[.string x,mkV c]) w'→wpList P ops Q rest (a.put o.dst (.tuple #[.bool true,.string x,mkV c])) w') :
  wpList P ops Q (o::rest) a w:=by
 obtain⟨D,h1,h2⟩:=h
 refine wpList_next_ranges w hg it hop k K (rawR S) Value.string mkV (fun key kl hkey=> ?_) (fun v y hv=>invV v (rawR_inv hv).1) b r n D left cnt hit h1 hDone ?_
 ·rw [keyOf_string hk]at hkey
  unfold mapKey at hkey
  rw [hk]at hkey
  cases key <;> simp at hkey
  exact⟨_,rfl⟩
 ·intro x c kl y w' cnt' hkey hlk hv hat hrg hlt hgr hsz hen
  have hkl:kl = .string x.data.toList:=by
   rw [keyOf_string hk]at hkey
   unfold mapKey at hkey
   rw [hk]at hkey
   simp at hkey
   exact hkey.2.symm
  subst hkl
  obtain⟨hs,rfl⟩:=rawR_inv hv
  refine hMore x c w' cnt' hkey hlk ?_ hs ⟨D,hrg,h2⟩ hlt hgr hsz hen
  have h3:=h2.2 _ (K.key hkey) (.held undef)
  have h4:=h2.2 _ (K.key hkey) .nil
  rw [hat]at h3 h4
  cases hm:mp (.string x.data.toList)with
  |none=>rw [hm]at h4;cases h4
  |some u=>rw [hm]at h4;injection h4 with h4;rw [h4]
end Go.Proofs.YtombmdaohcjokaaGreatDoor
namespace Go.Proofs.YtombmdaohcjokaaGreatDoor
open Go.RowKit
structure Evt where
 at_:Int
 d:Int
def evtsOf (ps:List Per):List Evt:=ps.flatMap fun p=> [⟨p.from_,1⟩,⟨p.to_,-1⟩]
def dsum:List Evt→Int
 |[]=>0
 |e::l=>e.d+dsum l
theorem dsum_append (a b:List Evt):dsum (a++b)=dsum a+dsum b:=by
 induction a with
 |nil=>simp [dsum]
 |cons x a ih=>rw [List.cons_append,dsum,dsum,ih];omega
theorem dsum_perm {a b:List Evt} (h:a.Perm b):dsum a=dsum b:=by
 induction h with
 |nil=>rfl
 |cons x _ ih=>rw [dsum,dsum,ih]
 |swap x y l=>simp only [dsum];omega
 |trans _ _ ih1 ih2=>rw [ih1,ih2]
theorem evts_len (ps:List Per):(evtsOf ps).length=2*ps.length:=by
 induction ps with
 |nil=>rfl
 |cons p ps ih =>
  have h:evtsOf (p::ps) = [⟨p.from_,1⟩,⟨p.to_,-1⟩]++evtsOf ps:=rfl
  rw [h,List.length_append,ih,List.length_cons]
  simp only [List.length_cons,List.length_nil]
  omega
def upto (es:List Evt) (x:Int):Nat:=es.countP fun e=>decide (e.at_≤x)
theorem upto_take {es:List Evt} (hs:es.Pairwise fun a b=>a.at_≤b.at_) (x:Int):es.take (upto es x)=es.filter fun e=>decide (e.at_≤x):=by
 unfold upto
 induction es with
 |nil=>rfl
 |cons e es ih =>
  obtain⟨h1,h2⟩:=List.pairwise_cons.1 hs
  by_cases c:e.at_≤x
  ·rw [List.countP_cons_of_pos (by simpa using c),List.take_succ_cons,List.filter_cons_of_pos (by simpa using c),ih h2]
  ·have h0:es.countP (fun e=>decide (e.at_≤x))=0:=List.countP_eq_zero.2 fun y hy=>by have:=h1 y hy;simp;omega
   rw [List.countP_cons_of_neg (by simpa using c),h0,List.take_zero,List.filter_cons_of_neg (by simpa using c)]
   symm
   rw [List.filter_eq_nil_iff]
   intro y hy
   have:=h1 y hy
   simp;omega
theorem upto_iff {es:List Evt} (hs:es.Pairwise fun a b=>a.at_≤b.at_) (x:Int) (j:Nat) (hj:j<es.length):j<upto es x↔es[j].at_≤x:=by
 have ht:=upto_take hs x
 constructor
 ·intro h
  have hm:es[j]∈es.take (upto es x):=by
   rw [List.mem_take_iff_getElem]
   exact⟨j,by omega,rfl⟩
  rw [ht]at hm
  simpa using (List.mem_filter.1 hm).2
 ·intro h
  have hd:es.drop (upto es x)=es.filter fun e=> !decide (e.at_≤x):=by
   have hperm:=List.filter_append_perm (fun e:Evt=>decide (e.at_≤x)) es
   clear ht h hj
   unfold upto
   induction es with
   |nil=>rfl
   |cons e es ih =>
    obtain⟨h1,h2⟩:=List.pairwise_cons.1 hs
    by_cases c:e.at_≤x
    ·rw [List.countP_cons_of_pos (by simpa using c),List.drop_succ_cons,List.filter_cons_of_neg (by simpa using c)]
     exact ih h2 (List.filter_append_perm _ es)
    ·have h0:es.countP (fun e=>decide (e.at_≤x))=0:=List.countP_eq_zero.2 fun y hy=>by have:=h1 y hy;simp;omega
     rw [List.countP_cons_of_neg (by simpa using c),h0,List.drop_zero]
     symm
     rw [List.filter_eq_self]
     intro y hy
     rcases List.mem_cons.1 hy with rfl | hy
     ·simp;omega
     ·have:=h1 y hy;simp;omega
  rcases Nat.lt_or_ge j (upto es x)with g | g
  ·exact g
  ·have hm:es[j]∈es.drop (upto es x):=by
    rw [List.mem_drop_iff_getElem]
    exact⟨j - upto es x,by omega,by simp only [show upto es x+(j - upto es x)=j by omega]⟩
   rw [hd]at hm
   have:=(List.mem_filter.1 hm).2
   simp at this
   omega
theorem upto_le (es:List Evt) (x:Int):upto es x≤es.length:=List.countP_le_length
theorem dsum_evts {ps:List Per} (hv : ∀p∈ps,validB p.from_ p.to_=true) (x:Int):dsum ((evtsOf ps).filter fun e=>decide (e.at_≤x))=(cntAt (ps.map perT) x:Int):=by
 induction ps with
 |nil=>rfl
 |cons p ps ih =>
  have h:evtsOf (p::ps) = [⟨p.from_,1⟩,⟨p.to_,-1⟩]++evtsOf ps:=rfl
  have hp:=validB_lt (hv p (by simp))
  rw [h,List.filter_append,dsum_append,ih fun q hq=>hv q (by simp [hq])]
  unfold cntAt
  rw [List.map_cons,List.filter_cons (x:=perT p)]
  have hh:holdsAt x (perT p)=(decide (p.from_≤x)&&decide (x<p.to_)):=by
   unfold holdsAt validT perT
   simp only
   rw [hv p (by simp),Bool.true_and]
  rw [hh]
  by_cases c1:p.from_≤x
  ·by_cases c2:x<p.to_
   ·have c3 : ¬p.to_≤x:=by omega
    simp [c1,c2,c3,dsum]
    omega
   ·have c3:p.to_≤x:=by omega
    simp [c1,c2,c3,dsum]
  ·have c3 : ¬p.to_≤x:=by omega
   simp [c1,c3,dsum]
def idxOf (es:List Evt) (P:List Int):Nat→Nat
 |0=>0
 |k+1=>upto es P[k]!
structure EvtsAt (ps:List Per) (es:List Evt):Prop where
 perm:es.Perm (evtsOf ps)
 srt:es.Pairwise fun a b=>a.at_≤b.at_
 ok : ∀p∈ps,validB p.from_ p.to_=true
theorem EvtsAt.mem {ps:List Per} {es:List Evt} (h:EvtsAt ps es) (x:Int):x∈levPts ps↔ ∃e∈es,e.at_=x:=by
 obtain⟨_,p2,_⟩:=pts_law (ps.map perT)
 show x∈pts (ps.map perT)↔_
 rw [p2 x]
 unfold bnd
 rw [List.mem_flatMap]
 constructor
 ·rintro⟨t,ht,hx⟩
  obtain⟨p,hp,rfl⟩:=List.mem_map.1 ht
  have hv:validT (perT p)=true:=h.ok p hp
  rw [hv,if_pos rfl]at hx
  simp [perT]at hx
  rcases hx with rfl | rfl
  ·exact⟨⟨p.from_,1⟩,h.perm.mem_iff.2 (List.mem_flatMap.2 ⟨p,hp,by simp⟩),rfl⟩
  ·exact⟨⟨p.to_,-1⟩,h.perm.mem_iff.2 (List.mem_flatMap.2 ⟨p,hp,by simp⟩),rfl⟩
 ·rintro⟨e,he,rfl⟩
  obtain⟨p,hp,hx⟩:=List.mem_flatMap.1 (h.perm.mem_iff.1 he)
  refine⟨perT p,List.mem_map_of_mem hp,?_⟩
  have hv:validT (perT p)=true:=h.ok p hp
  rw [hv,if_pos rfl]
  simp at hx
  rcases hx with rfl | rfl <;> simp [perT]
theorem EvtsAt.at_mem {ps:List Per} {es:List Evt} (h:EvtsAt ps es) {j:Nat} (hj:j<es.length):es[j].at_∈levPts ps:=(h.mem _).2 ⟨_,List.getElem_mem hj,rfl⟩
theorem EvtsAt.asc {ps:List Per} {es:List Evt} (_:EvtsAt ps es):(levPts ps).Pairwise (· < ·):=(pts_law (ps.map perT)).1
theorem EvtsAt.ge {ps:List Per} {es:List Evt} (h:EvtsAt ps es) {k j:Nat} (hk:k<(levPts ps).length) (hj:j<es.length) (hi:idxOf es (levPts ps) k≤j):(levPts ps)[k]! ≤es[j].at_:=by
 cases k with
 |zero=>exact first_le h.asc (h.at_mem hj)
 |succ k =>
  have h1 : ¬j<upto es (levPts ps)[k]! := by
   have hi':upto es (levPts ps)[k]! ≤j:=hi
   omega
  rw [upto_iff h.srt _ j hj]at h1
  exact gap h.asc (h.at_mem hj) hk (by omega)
theorem EvtsAt.next {ps:List Per} {es:List Evt} (h:EvtsAt ps es) {k:Nat} (hk:k<(levPts ps).length) : ∃hi:idxOf es (levPts ps) k<es.length,es[idxOf es (levPts ps) k].at_=(levPts ps)[k]! := by
 have hm:(levPts ps)[k]! ∈levPts ps:=by rw [getElem!_pos _ k hk];exact List.getElem_mem _
 obtain⟨e,he,hx⟩:=(h.mem _).1 hm
 obtain⟨j,hj,rfl⟩:=List.getElem_of_mem he
 have hge:idxOf es (levPts ps) k≤j:=by
  cases k with
  |zero=>exact Nat.zero_le _
  |succ k =>
   rcases Nat.lt_or_ge j (upto es (levPts ps)[k]!)with g | g
   ·have:=(upto_iff h.srt _ j hj).1 g
    have h2:=asc_at h.asc (show k<k+1 by omega) hk
    omega
   ·exact g
 refine⟨by omega,?_⟩
 have h1:=h.ge hk (show idxOf es (levPts ps) k<es.length by omega) (Nat.le_refl _)
 have h2:es[idxOf es (levPts ps) k].at_≤es[j].at_:=by
  rcases Nat.lt_or_eq_of_le hge with g | g
  ·exact List.pairwise_iff_getElem.1 h.srt _ _ (by omega) hj g
  ·simp only [g];exact Int.le_refl _
 omega
theorem EvtsAt.last {ps:List Per} {es:List Evt} (h:EvtsAt ps es):idxOf es (levPts ps) (levPts ps).length=es.length:=by
 rcases Nat.eq_zero_or_pos (levPts ps).length with h0 | h0
 ·have hnil:levPts ps = []:=List.length_eq_zero_iff.1 h0
  have:es = []:=by
   cases es with
   |nil=>rfl
   |cons e es=>have:=(h.mem e.at_).2 ⟨e,by simp,rfl⟩;rw [hnil]at this;cases this
  rw [h0,this]
  rfl
 ·obtain⟨n,hn⟩ : ∃n,(levPts ps).length=n+1:=⟨(levPts ps).length - 1,by omega⟩
  have hle : ∀e∈es,e.at_≤(levPts ps)[n]! := fun e he=>by
   have:=le_last h.asc ((h.mem e.at_).2 ⟨e,he,rfl⟩)
   rw [hn]at this
   exact this
  rw [hn]
  show upto es (levPts ps)[n]! = es.length
  exact List.countP_eq_length.2 fun e he=>by simpa using hle e he
theorem EvtsAt.here {ps:List Per} {es:List Evt} (h:EvtsAt ps es) {k j:Nat} (hk:k<(levPts ps).length) (hi:idxOf es (levPts ps) k≤j) (hj:j<es.length):es[j].at_=(levPts ps)[k]! ↔j<idxOf es (levPts ps) (k+1):=by
 show _↔j<upto es (levPts ps)[k]!
 rw [upto_iff h.srt _ j hj]
 have:=h.ge hk hj hi
 omega
theorem EvtsAt.mono {ps:List Per} {es:List Evt} (h:EvtsAt ps es) {k:Nat} (hk:k<(levPts ps).length):idxOf es (levPts ps) k<idxOf es (levPts ps) (k+1):=by
 obtain⟨h1,h2⟩:=h.next hk
 exact(h.here hk (Nat.le_refl _) h1).1 h2
theorem EvtsAt.idx_ge {ps:List Per} {es:List Evt} (h:EvtsAt ps es) : ∀k,k≤(levPts ps).length→k≤idxOf es (levPts ps) k:=by
 intro k
 induction k with
 |zero=>intro _;exact Nat.zero_le _
 |succ k ih=>intro hk;have:=ih (by omega);have:=h.mono (k:=k) (by omega);omega
theorem EvtsAt.depth {ps:List Per} {es:List Evt} (h:EvtsAt ps es) {k:Nat}:dsum (es.take (idxOf es (levPts ps) (k+1)))=(levF ps k:Int):=by
 show dsum (es.take (upto es (levPts ps)[k]!))=_
 rw [upto_take h.srt,dsum_perm (h.perm.filter _),dsum_evts h.ok]
 rfl
theorem EvtsAt.openLen {ps:List Per} {es:List Evt} (h:EvtsAt ps es) {k:Nat} (hk:k≤(levPts ps).length):((levOf (levPts ps) (levF ps) k).1.length:Int)=dsum (es.take (idxOf es (levPts ps) k)):=by
 cases k with
 |zero=>rfl
 |succ k =>
  rw [h.depth,(levOf_law h.asc (levF ps) (k+1) hk).2.2.2 (by omega)]
  rfl
theorem dsum_take (es:List Evt) (j:Nat) (hj:j<es.length):dsum (es.take (j+1))=dsum (es.take j)+es[j].d:=by
 rw [List.take_succ_eq_append_getElem hj,dsum_append]
 simp [dsum]
end Go.Proofs.YtombmdaohcjokaaGreatDoor
namespace Go.Proofs.YtombmdaohcjokaaGreatDoor
open Go.RowKit Go.Shelf Go.Sort
def okI (x:Int):Prop:= -9223372036854775808≤x∧x≤9223372036854775807
def perEnc (x:Per):List Value:= [.int .i64 x.from_,.int .i64 x.to_]
def Rep.per:Rep Per where
 size:=2
 holds _ cs x:=cs=perEnc x∧okI x.from_∧okI x.to_
 len:=by rintro w cs x ⟨rfl,_⟩;rfl
 ext:=by rintro w w' cs x h _;exact h
 one:=by rintro w cs x ⟨rfl,_⟩;simp [perEnc,Value.oneCell']
theorem flat_per:Rep.per.flat:=fun _ _ _ _ h=>h
theorem info_per:(Tryz.prog.info? 123).map (fun i=>(i.zero,i.size,i.bytes))=some (some (.agg #[.int .i64 0,.int .i64 0]),Rep.per.size,16):=by kernel_rfl
theorem per_at {h:View} {b o n cap:Nat} {xs:List Per} (k:SliceOf Rep.per h (.slice (some ⟨b,o,none⟩) n cap) xs) (i:Nat) (hi:i<xs.length) :
  h ⟨b,o+i*2,none⟩=some (.int .i64 xs[i].from_)∧h ⟨b,o+i*2+1,none⟩=some (.int .i64 xs[i].to_)∧okI xs[i].from_∧okI xs[i].to_:=by
 obtain⟨c,⟨rfl,h1⟩,h2⟩:=k.at i hi
 exact⟨h2 0 _ rfl,h2 1 _ rfl,h1⟩
end Go.Proofs.YtombmdaohcjokaaGreatDoor
namespace Go.Proofs.YtombmdaohcjokaaGreatDoor
open Go.RowKit
structure Chg (C:Nat→Prop) (w w':World):Prop where
 os:w'.os=w.os
 tape:w'.tape=w.tape
 output:w'.output=w.output
 size:w.heap.size≤w'.heap.size
 block : ∀k,k<w.heap.size→ ¬C k→w'.heap[k]?=w.heap[k]?
theorem Chg.refl (C:Nat→Prop) (w:World):Chg C w w:=⟨rfl,rfl,rfl,Nat.le_refl _,fun _ _ _=>rfl⟩
theorem Chg.trans {C:Nat→Prop} {a b c:World} (h:Chg C a b) (k:Chg C b c):Chg C a c :=
 ⟨k.os.trans h.os,k.tape.trans h.tape,k.output.trans h.output,Nat.le_trans h.size k.size,fun i hi hc=>(k.block i (Nat.lt_of_lt_of_le hi h.size) hc).trans (h.block i hi hc)⟩
theorem Ext.chg {a b:World} (h:Ext a b) (C:Nat→Prop):Chg C a b:=⟨h.os,h.tape,h.output,h.size,fun k hk _=>h.block k hk⟩
theorem chg_grown {a b:World} {row:Option Nat} (h:a.grownBy b row):Chg (fun k=>row=some k) a b:=⟨h.os,h.tape,h.output,h.size,fun k hk hc=>h.block k hk fun e=>hc e.symm⟩
theorem chg_set (w:World) (p:Addr) (u:Value):Chg (fun k=>k=p.block) w (w.setCell p u):=⟨rfl,rfl,rfl,by simp [World.setCell],fun k _ hc=>Below.heap_setCell _ _ _ _ hc⟩
theorem Chg.alloc {C:Nat→Prop} {a w:World} (h:Chg C a w) (o:Obj):Chg C a (w.alloc o):=h.trans (((Ext.refl w).alloc o).chg C)
theorem Chg.ext {C:Nat→Prop} {a w w':World} (h:Chg C a w) (k:Ext w w'):Chg C a w':=h.trans (k.chg C)
theorem Chg.setCell {C:Nat→Prop} {a w:World} (h:Chg C a w) {p:Addr} (hp:C p.block∨a.heap.size≤p.block) (u:Value):Chg C a (w.setCell p u) :=
 ⟨h.os,h.tape,h.output,Nat.le_trans h.size (by simp [World.setCell]),fun k hk hc=>by
  rw [Below.heap_setCell]
  ·exact h.block k hk hc
  ·rintro rfl;rcases hp with hp | hp
   ·exact hc hp
   ·omega⟩
theorem Chg.grown {C:Nat→Prop} {a w w':World} {row:Option Nat} (h:Chg C a w) (hg:w.grownBy w' row) (hr : ∀k,row=some k→C k∨a.heap.size≤k):Chg C a w' :=
 ⟨hg.os.trans h.os,hg.tape.trans h.tape,hg.output.trans h.output,Nat.le_trans h.size hg.size,fun k hk hc=>by
  rw [hg.block k (Nat.lt_of_lt_of_le hk h.size) (fun e=>by rcases hr k e.symm with hr | hr;exact hc hr;omega)]
  exact h.block k hk hc⟩
theorem Chg.at {C:Nat→Prop} {w w':World} (h:Chg C w w') {p:Addr} {v:Value} (hc:w.cell? p=some v) (hn : ¬C p.block):w'.cell? p=some v :=
 (World.cell?_of_block (w:=w) (h.block p.block (World.block_lt_of_cell? w p hc) hn)).trans hc
theorem Chg.free {C:Nat→Prop} {w w':World} (h:Chg C w w') {p:Addr} {v:Value} (hc:w.cell? p=some v) (hf:w.frozen? p=false) (hn : ¬C p.block):w'.frozen? p=false :=
 (World.frozen?_of_block (w:=w) (h.block p.block (World.block_lt_of_cell? w p hc) hn)).trans hf
theorem Chg.below {C:Nat→Prop} {a w w':World} (h:Chg C w w') (k:Ext a w) (hC : ∀b,C b→a.heap.size≤b):Ext a w' :=
 ⟨h.os.trans k.os,h.tape.trans k.tape,h.output.trans k.output,Nat.le_trans k.size h.size,fun b hb=>(h.block b (Nat.lt_of_lt_of_le hb k.size) fun hc=>by have:=hC b hc;omega).trans (k.block b hb)⟩
theorem Chg.own {C:Nat→Prop} {w w':World} (h:Chg C w w') {base:Nat} {e:TypeId} {size:Nat} {v:Value} {n:Nat} {xs:List Value} (hv:w.ownsRow base e size v n xs) (hn : ∀k,v.ownBlock=some k→ ¬C k):w'.ownsRow base e size v n xs:=by
 refine⟨hv.1,?_⟩
 rcases hv.2 with h2 | ⟨g,cap,cur,he,hb,hg,r⟩
 ·exact .inl h2
 ·exact .inr ⟨g,cap,cur,he,hb,by rw [h.block g (Array.getElem?_eq_some_iff.1 hg).1 (hn g (by rw [he];rfl))];exact hg,r⟩
theorem OwnOf.chg {α:Type} {R:Rep α} (hR:R.flat) {C:Nat→Prop} {w w':World} {S:Nat→Prop} {base:Nat} {e:TypeId} {v:Value} {xs:List α} (h:OwnOf R w S base e v xs) (hx:Chg C w w') (hn : ∀k,v.ownBlock=some k→ ¬C k):OwnOf R w' S base e v xs:=by
 obtain⟨css,h1,h2⟩:=h
 exact⟨css,h1.flatView hR,hx.own h2 hn⟩
theorem SliceOf.chg {α:Type} {R:Rep α} {C:Nat→Prop} {w w':World} {S:Nat→Prop} {v:Value} {xs:List α} (h:SliceOf R (on w S) v xs) (hx:Chg C w w') (hS : ∀k,S k→ ¬C k):SliceOf R (on w' S) v xs :=
 h.ext fun p u e=>by
  obtain⟨h1,h2⟩:=on_some.1 e
  exact on_some.2 ⟨h1,hx.at h2 (hS _ h1)⟩
theorem OwnOf.form {α:Type} {R:Rep α} {w:World} {S:Nat→Prop} {base:Nat} {e:TypeId} {v:Value} {xs:List α} (h:OwnOf R w S base e v xs):(v = .slice none 0 0∧xs = [])∨ ∃g cap,v = .slice (some ⟨g,0,none⟩) xs.length cap∧base≤g∧xs.length≤cap∧cap≤maxLen:=by
 obtain⟨css,h1,_,h2⟩:=h
 rcases h2 with ⟨rfl,h2⟩ | ⟨g,cap,cur,rfl,hb,hg,h3,h4,_⟩
 ·exact .inl ⟨rfl,List.eq_nil_of_length_eq_zero h2⟩
 ·exact .inr ⟨g,cap,rfl,hb,h3,h4⟩
end Go.Proofs.YtombmdaohcjokaaGreatDoor
namespace Go.Proofs.YtombmdaohcjokaaGreatDoor
open Go.RowKit
theorem OwnOf.take {α:Type} {R:Rep α} {w:World} {S:Nat→Prop} {base:Nat} {e:TypeId} {g cap n:Nat} {xs:List α} (h:OwnOf R w S base e (.slice (some ⟨g,0,none⟩) xs.length cap) xs) (hn:n≤xs.length) :
  OwnOf R w S base e (.slice (some ⟨g,0,none⟩) n cap) (xs.take n):=by
 obtain⟨css,h1,h2,h3⟩:=h
 have hcl:=h1.length
 have hlen : ∀c∈css,c.length=R.size:=repAll_len' h1
 have ht:RepAll R (on w (avoid S (.slice (some ⟨g,0,none⟩) n cap))) (css.take n) (xs.take n):=RepAll.take h1 n
 have hfl : ∀(l:List (List Value)) (k:Nat),(∀c∈l,c.length=R.size)→k≤l.length→(l.take k).flatten=l.flatten.take (k*R.size)∧(l.take k).flatten.length=k*R.size:=by
  intro l
  induction l with
  |nil=>intro k _ hk;simp at hk;subst hk;simp
  |cons c l ih =>
   intro k hl hk
   cases k with
   |zero=>simp
   |succ k =>
    obtain⟨i1,i2⟩:=ih k (fun d hd=>hl d (by simp [hd])) (by simpa using hk)
    have hc:=hl c (by simp)
    have ht:List.take (k*R.size+R.size) c=c:=List.take_of_length_le (by omega)
    rw [List.take_succ_cons,List.flatten_cons,List.flatten_cons,List.length_append,hc,i2,Nat.succ_mul]
    rw [List.take_append,ht,hc,Nat.add_sub_cancel,i1]
    exact⟨rfl,by omega⟩
 obtain⟨f1,f2⟩:=hfl css n hlen (by rw [hcl];exact hn)
 refine⟨css.take n,ht,?_,?_⟩
 ·rw [f2,List.length_take,Nat.min_eq_left hn]
 ·rcases h3 with ⟨h3,h4⟩ | ⟨g',cap',cur,he,hb,hg,hc1,hc2,hsz,htk⟩
  ·cases h3
  ·injection he with e1 e2 e3
   injection e1 with e1
   injection e1 with e1
   subst e1 e3
   refine .inr ⟨g,cap,cur,?_,hb,hg,?_,hc2,hsz,?_⟩
   ·rw [List.length_take,Nat.min_eq_left hn]
   ·rw [List.length_take,Nat.min_eq_left hn];omega
   ·rw [f1,←htk,List.length_take,Nat.min_eq_left hn,List.take_take,Nat.min_eq_left (Nat.mul_le_mul_right _ hn)]
end Go.Proofs.YtombmdaohcjokaaGreatDoor
namespace Go.Proofs.YtombmdaohcjokaaGreatDoor
open Go.RowKit
section
variable {P:Program} {w:World} {o:Oper} {a:Act} {K:Act→World→Prop} {Q:Exit→Act→World→Prop} {E:Prop}
theorem key_op {yd:Nat→Option Bool} (n:Nat) {op:Op} {ty:TypeId} {pos:String} {after:Array Edge} {g:Option (Nat×Bool)} (h:if Region.wanted ⟨some n,op,ty,pos,after,g⟩ yd=true then Oper.wp P ⟨some n,op,ty,pos,after,g⟩ a w K Q else E) :
 if Region.wanted ⟨some n,op,ty,pos,after,g⟩ yd=true then Oper.wp P ⟨some n,op,ty,pos,after,g⟩ a w K Q else E:=h
theorem step_append_all {α:Type} {yd:Nat→Option Bool} (R:Rep α) (S:Nat→Prop) (hgd:o.guard=none) (s x:Operand) (t:TypeId)
  (ho:o.op = .call { callee:= .builtin .append,args:= #[s,x],argTypes:= #[t,t] })
  (base:Nat) (e:TypeId) (i:TypeInfo) (z:Value) (bytes:Nat) (ht:P.underlying t=some (.slice e)) (hi:P.info? e=some i) (hz:i.zero=some z)
  (hsize:i.size=R.size) (hby:i.bytes=bytes) (hzs:z.cells.size=R.size) (hsz:0<R.size)
  (v:Value) (xs:List α) (hs:a.eval s=v) (hown:OwnOf R w S base e v xs)
  (u:Value) (ys:List α) (hx:a.eval x=u) (hy:SliceOf R (on w (avoid S v)) u ys)
  (h63:xs.length+ys.length≤maxLen) (hbytes:(xs.length+ys.length)*bytes≤140737488355328) (hbase:base≤w.heap.size)
  (h : ∀v' w',OwnOf R w' S base e v' (xs++ys)→w.grownBy w' v.ownBlock→(v'.ownBlock=v.ownBlock∨v'.ownBlock=some w.heap.size)→K (a.put o.dst v') w') :
  if Region.wanted o yd=true then Oper.wp P o a w K Q else E:=by
 have hw:Region.wanted o yd=true:=by simp [Region.wanted,hgd]
 rw [if_pos hw]
 obtain⟨css,h1,h2⟩:=hown
 obtain⟨dss,h3,h4⟩:=hy
 rcases h4.src with ⟨rfl,hn,hd⟩ | ⟨ad,cap,rfl,_,_,hc⟩
 ·have hys:ys = []:=List.eq_nil_of_length_eq_zero hn
  subst hys
  have hrun:=run_append_owned_none (P:=P) (w:=w) base t o.type e i R.size ht hi v xs.length css.flatten h2
  unfold Oper.wp
  simp [execOp,ho,resolve,invoke,builtin,hs,hx,hrun,Result.andThen]
  exact h v w (by rw [List.append_nil];exact⟨css,h1,h2⟩) ⟨rfl,rfl,rfl,Nat.le_refl _,fun _ _ _=>rfl⟩ (.inl rfl)
 ·obtain⟨v',w',hr,g1,g2,_,g3⟩:=run_append_own_at (P:=P) w base t o.type e i z R.size bytes ht hi hz hsize hby hzs hsz v xs.length css.flatten h2 ad ys.length cap dss.flatten h3.flat (fun j u hj=>(on_some.1 (hc j u hj)).2) h3.ones h63 hbytes hbase
  unfold Oper.wp execOp
  simp only [ho,resolve,invoke,builtin,Sem.run_bind,Sem.run_pure,Result.andThen_ok,List.map_toArray,List.map_cons,List.map_nil,hs,hx,hr]
  exact h v' w' (OwnOf.pushAll h1 h3 g1 g2 g3) g2 g3
end
theorem Ext.grownNew {a w w':World} {v:Value} (h:Ext a w) (hg:w.grownBy w' v.ownBlock) (hv : ∀k,v.ownBlock=some k→a.heap.size≤k):Ext a w' :=
 Below.grown h hg h.size hv
theorem OwnOf.base {α:Type} {R:Rep α} {w:World} {S:Nat→Prop} {base:Nat} {e:TypeId} {v:Value} {xs:List α} (h:OwnOf R w S base e v xs) : ∀k,v.ownBlock=some k→base≤k:=fun k hk=>(h.lt k hk).1
theorem int_lone (h:View) (b:Nat) (x:Int) (hr : -9223372036854775808≤x∧x≤9223372036854775807) (h0:h ⟨b,0,none⟩=some (.int .i64 x)):SliceOf Rep.int h (.slice (some ⟨b,0,none⟩) 1 1) [x] :=
 ⟨[[.int .i64 x]],⟨⟨rfl,hr⟩,trivial⟩,.inr ⟨_,1,rfl,Nat.le_refl _,by simp [maxLen],.inr ⟨b,0,rfl,fun j u hj=>by
  match j,hj with
  |0,hj=>simp at hj;rw [←hj];exact h0⟩⟩⟩
theorem SliceOf.away {α:Type} {R:Rep α} (hR:R.flat) {w w':World} {v u:Value} {xs:List α} (h:SliceOf R w.cell? v xs) (hx:Ext w w') (hv : ∀k,u.ownBlock=some k→w.heap.size≤k):SliceOf R (on w' (avoid (fun _=>True) u)) v xs:=by
 obtain⟨css,h1,h2⟩:=h
 exact⟨css,h1.flatView hR,h2.sub fun p x e=>on_some.2 ⟨⟨fun e2=>by have:=hv _ e2.symm;have:=World.block_lt_of_cell? w p e;omega,trivial⟩,hx.at e⟩⟩
theorem slice_lit {α:Type} (R:Rep α) (w:World) (cells:List Value) (T:TypeId) (css:List (List Value)) (xs:List α) (hc:css.flatten=cells) (h:RepAll R (w.alloc (.cells cells.toArray T)).cell? css xs) (hl:xs.length≤maxLen) :
  SliceOf R (w.alloc (.cells cells.toArray T)).cell? (.slice (some ⟨w.heap.size,0,none⟩) xs.length xs.length) xs:=by
 refine⟨css,h,.inr ⟨_,_,rfl,Nat.le_refl _,hl,.inr ⟨_,0,rfl,fun j u hj=> ?_⟩⟩⟩
 rw [World.cell?_alloc_at _ _ _ _ rfl]
 rw [hc]at hj
 simpa using hj
end Go.Proofs.YtombmdaohcjokaaGreatDoor
namespace Go.Proofs
open Go.Shelf
def Tryz.sortTups_ren:Go.Shelf.Ren:=⟨fun | 6=>133 | 15=>118 | 14=>188 | 28=>172 | 29=>173 | 20=>236 | 21=>237 | 22=>238 | 23=>239 | 24=>240 | 25=>241 | 26=>242 | 27=>243 | 46=>276 | 47=>216 | 48=>217 | 49=>277 | 50=>278 | 57=>310 | n=>n,fun | 22=>85 | 24=>125 | 25=>209 | 3=>3 | 39=>185 | 0=>0 | 53=>247 | 55=>249 | 4=>4 | 46=>240 | 45=>239 | 50=>229 | 5=>5 | 9=>9 | 66=>301 | 70=>305 | 76=>349 | 77=>224 | n=>n,fun | n=>n⟩
theorem Tryz.sortTups:Go.Proofs.SlLaysF0.n6 Tryz.prog Tryz.sortTups_ren:= {
 mixed:=by kernel_rfl
 f6:=⟨Tryz.f133.name,by decide,Tryz.func133.trans (congrArg some (by kernel_rfl))⟩
 f14:=⟨Tryz.f188.name,by decide,Tryz.func188.trans (congrArg some (by kernel_rfl))⟩
 f15:=Tryz.func118.trans (congrArg some (by kernel_rfl))
 f20:=⟨Tryz.f236.name,by decide,Tryz.func236.trans (congrArg some (by kernel_rfl))⟩
 f21:=⟨Tryz.f237.name,by decide,Tryz.func237.trans (congrArg some (by kernel_rfl))⟩
 f22:=⟨Tryz.f238.name,by decide,Tryz.func238.trans (congrArg some (by kernel_rfl))⟩
 f23:=⟨Tryz.f239.name,by decide,Tryz.func239.trans (congrArg some (by kernel_rfl))⟩
 f24:=⟨Tryz.f240.name,by decide,Tryz.func240.trans (congrArg some (by kernel_rfl))⟩
 f25:=⟨Tryz.f241.name,by decide,Tryz.func241.trans (congrArg some (by kernel_rfl))⟩
 f26:=⟨Tryz.f242.name,by decide,Tryz.func242.trans (congrArg some (by kernel_rfl))⟩
 f27:=⟨Tryz.f243.name,by decide,Tryz.func243.trans (congrArg some (by kernel_rfl))⟩
 f28:=Tryz.func172.trans (congrArg some (by kernel_rfl))
 f29:=Tryz.func173.trans (congrArg some (by kernel_rfl))
 f46:=⟨Tryz.f276.name,by decide,Tryz.func276.trans (congrArg some (by kernel_rfl))⟩
 f47:=Tryz.func216.trans (congrArg some (by kernel_rfl))
 f48:=Tryz.func217.trans (congrArg some (by kernel_rfl))
 f49:=⟨Tryz.f277.name,by decide,Tryz.func277.trans (congrArg some (by kernel_rfl))⟩
 f50:=⟨Tryz.f278.name,by decide,Tryz.func278.trans (congrArg some (by kernel_rfl))⟩
 f57:=⟨Tryz.f310.name,by decide,Tryz.func310.trans (congrArg some (by kernel_rfl))⟩
 t0:=Tryz.underlying0
 a0:=Tryz.isAgg0
 z0:=Tryz.sizeOf0
 v0:=Tryz.zeroValue0
 t3:=Tryz.underlying3
 a3:=Tryz.isAgg3
 z3:=Tryz.sizeOf3
 v3:=Tryz.zeroValue3
 t4:=Tryz.underlying4
 a4:=Tryz.isAgg4
 z4:=Tryz.sizeOf4
 v4:=Tryz.zeroValue4
 t5:=Tryz.underlying5
 a5:=Tryz.isAgg5
 z5:=Tryz.sizeOf5
 v5:=Tryz.zeroValue5
 t9:=Tryz.underlying9
 a9:=Tryz.isAgg9
 z9:=Tryz.sizeOf9
 v9:=Tryz.zeroValue9
 t22:=Tryz.underlying85
 a22:=Tryz.isAgg85
 z22:=Tryz.sizeOf85
 v22:=Tryz.zeroValue85
 t25:=Tryz.underlying209
 a25:=Tryz.isAgg209
 z25:=Tryz.sizeOf209
 v25:=Tryz.zeroValue209
 t39:=Tryz.underlying185
 a39:=Tryz.isAgg185
 z39:=Tryz.sizeOf185
 v39:=Tryz.zeroValue185
 t45:=Tryz.underlying239
 a45:=Tryz.isAgg239
 z45:=Tryz.sizeOf239
 v45:=Tryz.zeroValue239
 t46:=Tryz.underlying240
 a46:=Tryz.isAgg240
 z46:=Tryz.sizeOf240
 v46:=Tryz.zeroValue240
 t50:=Tryz.underlying229
 a50:=Tryz.isAgg229
 z50:=Tryz.sizeOf229
 v50:=Tryz.zeroValue229
 t53:=Tryz.underlying247
 a53:=Tryz.isAgg247
 z53:=Tryz.sizeOf247
 v53:=Tryz.zeroValue247
 t55:=Tryz.underlying249
 a55:=Tryz.isAgg249
 z55:=Tryz.sizeOf249
 v55:=Tryz.zeroValue249
 t66:=Tryz.underlying301
 a66:=Tryz.isAgg301
 z66:=Tryz.sizeOf301
 v66:=Tryz.zeroValue301
 t70:=Tryz.underlying305
 a70:=Tryz.isAgg305
 z70:=Tryz.sizeOf305
 v70:=Tryz.zeroValue305
 t76:=Tryz.underlying349
 a76:=Tryz.isAgg349
 z76:=Tryz.sizeOf349
 v76:=Tryz.zeroValue349
 t77:=Tryz.underlying224
 a77:=Tryz.isAgg224
 z77:=Tryz.sizeOf224
 v77:=Tryz.zeroValue224 }
def Tryz.sortEvts_ren:Go.Shelf.Ren:=⟨fun | 6=>186 | 15=>118 | 14=>235 | 28=>172 | 29=>173 | 20=>268 | 21=>269 | 22=>270 | 23=>271 | 24=>272 | 25=>273 | 26=>274 | 27=>275 | 46=>307 | 47=>216 | 48=>217 | 49=>308 | 50=>309 | 57=>321 | n=>n,fun | 22=>256 | 24=>258 | 25=>260 | 3=>3 | 39=>185 | 0=>0 | 53=>247 | 55=>249 | 4=>4 | 46=>240 | 45=>239 | 50=>229 | 5=>5 | 9=>9 | 66=>301 | 70=>305 | 76=>349 | 77=>224 | n=>n,fun | n=>n⟩
theorem Tryz.sortEvts:Go.Proofs.SlLaysF0.n6 Tryz.prog Tryz.sortEvts_ren:= {
 mixed:=by kernel_rfl
 f6:=⟨Tryz.f186.name,by decide,Tryz.func186.trans (congrArg some (by kernel_rfl))⟩
 f14:=⟨Tryz.f235.name,by decide,Tryz.func235.trans (congrArg some (by kernel_rfl))⟩
 f15:=Tryz.func118.trans (congrArg some (by kernel_rfl))
 f20:=⟨Tryz.f268.name,by decide,Tryz.func268.trans (congrArg some (by kernel_rfl))⟩
 f21:=⟨Tryz.f269.name,by decide,Tryz.func269.trans (congrArg some (by kernel_rfl))⟩
 f22:=⟨Tryz.f270.name,by decide,Tryz.func270.trans (congrArg some (by kernel_rfl))⟩
 f23:=⟨Tryz.f271.name,by decide,Tryz.func271.trans (congrArg some (by kernel_rfl))⟩
 f24:=⟨Tryz.f272.name,by decide,Tryz.func272.trans (congrArg some (by kernel_rfl))⟩
 f25:=⟨Tryz.f273.name,by decide,Tryz.func273.trans (congrArg some (by kernel_rfl))⟩
 f26:=⟨Tryz.f274.name,by decide,Tryz.func274.trans (congrArg some (by kernel_rfl))⟩
 f27:=⟨Tryz.f275.name,by decide,Tryz.func275.trans (congrArg some (by kernel_rfl))⟩
 f28:=Tryz.func172.trans (congrArg some (by kernel_rfl))
 f29:=Tryz.func173.trans (congrArg some (by kernel_rfl))
 f46:=⟨Tryz.f307.name,by decide,Tryz.func307.trans (congrArg some (by kernel_rfl))⟩
 f47:=Tryz.func216.trans (congrArg some (by kernel_rfl))
 f48:=Tryz.func217.trans (congrArg some (by kernel_rfl))
 f49:=⟨Tryz.f308.name,by decide,Tryz.func308.trans (congrArg some (by kernel_rfl))⟩
 f50:=⟨Tryz.f309.name,by decide,Tryz.func309.trans (congrArg some (by kernel_rfl))⟩
 f57:=⟨Tryz.f321.name,by decide,Tryz.func321.trans (congrArg some (by kernel_rfl))⟩
 t0:=Tryz.underlying0
 a0:=Tryz.isAgg0
 z0:=Tryz.sizeOf0
 v0:=Tryz.zeroValue0
 t3:=Tryz.underlying3
 a3:=Tryz.isAgg3
 z3:=Tryz.sizeOf3
 v3:=Tryz.zeroValue3
 t4:=Tryz.underlying4
 a4:=Tryz.isAgg4
 z4:=Tryz.sizeOf4
 v4:=Tryz.zeroValue4
 t5:=Tryz.underlying5
 a5:=Tryz.isAgg5
 z5:=Tryz.sizeOf5
 v5:=Tryz.zeroValue5
 t9:=Tryz.underlying9
 a9:=Tryz.isAgg9
 z9:=Tryz.sizeOf9
 v9:=Tryz.zeroValue9
 t22:=Tryz.underlying256
 a22:=Tryz.isAgg256
 z22:=Tryz.sizeOf256
 v22:=Tryz.zeroValue256
 t25:=Tryz.underlying260
 a25:=Tryz.isAgg260
 z25:=Tryz.sizeOf260
 v25:=Tryz.zeroValue260
 t39:=Tryz.underlying185
 a39:=Tryz.isAgg185
 z39:=Tryz.sizeOf185
 v39:=Tryz.zeroValue185
 t45:=Tryz.underlying239
 a45:=Tryz.isAgg239
 z45:=Tryz.sizeOf239
 v45:=Tryz.zeroValue239
 t46:=Tryz.underlying240
 a46:=Tryz.isAgg240
 z46:=Tryz.sizeOf240
 v46:=Tryz.zeroValue240
 t50:=Tryz.underlying229
 a50:=Tryz.isAgg229
 z50:=Tryz.sizeOf229
 v50:=Tryz.zeroValue229
 t53:=Tryz.underlying247
 a53:=Tryz.isAgg247
 z53:=Tryz.sizeOf247
 v53:=Tryz.zeroValue247
 t55:=Tryz.underlying249
 a55:=Tryz.isAgg249
 z55:=Tryz.sizeOf249
 v55:=Tryz.zeroValue249
 t66:=Tryz.underlying301
 a66:=Tryz.isAgg301
 z66:=Tryz.sizeOf301
 v66:=Tryz.zeroValue301
 t70:=Tryz.underlying305
 a70:=Tryz.isAgg305
 z70:=Tryz.sizeOf305
 v70:=Tryz.zeroValue305
 t76:=Tryz.underlying349
 a76:=Tryz.isAgg349
 z76:=Tryz.sizeOf349
 v76:=Tryz.zeroValue349
 t77:=Tryz.underlying224
 a77:=Tryz.isAgg224
 z77:=Tryz.sizeOf224
 v77:=Tryz.zeroValue224 }
end Go.Proofs
