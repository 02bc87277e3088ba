/- joined texts of a proof: Pick, RefX, PlainH, PlainQ, PlainF, RefY, SameT, MapS, PerK, AliW, AliV, LeftW, AwkP, AwkW, Pred, PredW, PrJ, NrmJ, BagQ, OpT, InnJ -/
import Derived.Test.YtkddkbpoefidpaaGreatDoorKG07
import Derived.Test.YtkddkbpoefidpaaGreatDoorKG04
import Derived.Laws.OwnMore
import Derived.Test.YtkddkbpoefidpaaGreatDoorKG02
import Derived.Test.YtkddkbpoefidpaaGreatDoorKG14
import Derived.Test.YtkddkbpoefidpaaGreatDoorKG09
import Derived.Test.YtkddkbpoefidpaaGreatDoorKG22
import Derived.Test.YtkddkbpoefidpaaGreatDoorKG18
import Derived.Test.YtkddkbpoefidpaaGreatDoorKG21
import Derived.Test.YtkddkbpoefidpaaGreatDoorKG23
import Derived.Test.YtkddkbpoefidpaaGreatDoorKG13
import Derived.Test.YtkddkbpoefidpaaGreatDoorKG01
import Derived.WideKeyEntry
import Derived.DeepKeys4
import Derived.Test.YtkddkbpoefidpaaGreatDoorKG08
import Derived.Test.YtkddkbpoefidpaaGreatDoorKG12
import Derived.Deep.QuietTactic
import Derived.BigQuiet
import Derived.Test.YtkddkbpoefidpaaGreatDoorKG17
namespace Go.Proofs.YtkddkbpoefidpaaGreatDoor
open Go.RowKit
theorem OwnOf.lit {α:Type} {R:Rep α} (hR:R.flat) (w:World) (S:Nat→Prop) (cells:List Value) (T:TypeId) (css:List (List Value)) (xs:List α) (hc:css.flatten=cells) (h:RepAll R w.cell? css xs) (hl:xs.length≤maxLen) :
  OwnOf R (w.alloc (.cells cells.toArray T)) S w.heap.size T (.slice (some ⟨w.heap.size,0,none⟩) xs.length xs.length) xs:=by
 refine⟨css,h.flatView hR,?_⟩
 have:=World.ownsRow_lit (base:=w.heap.size) (e:=T) (size:=R.size) w cells.toArray xs.length (Nat.le_refl _) hl (by rw [List.size_toArray,←hc,h.flat])
 rw [hc]
 simpa using this
def pickI (k n:Int):Int:=if n≤0 then 0 else(k % n+n) % n
end Go.Proofs.YtkddkbpoefidpaaGreatDoor
namespace Go.Proofs.YtkddkbpoefidpaaGreatDoor
open Go.RowKit
def inL (e:Int) (l:List Int):List Int:=l.filter fun p=>decide (0<p)&&decide (p<e)
def withinL (l:List Int) (e:Int):List Int:=0::inL e l ++ [e]
theorem inL_take (e:Int) (l:List Int) (k:Nat) (h:k<l.length):inL e (l.take (k+1))=inL e (l.take k)++if 0<l[k]∧l[k]<e then [l[k]]else []:=by
 unfold inL
 rw [List.take_succ_eq_append_getElem h,List.filter_append]
 congr 1
 rw [List.filter_cons,List.filter_nil]
 by_cases c:0<l[k]∧l[k]<e
 ·rw [if_pos c,if_pos (by simp [c])]
 ·rw [if_neg c,if_neg (by simpa using c)]
theorem inL_len (e:Int) (l:List Int):(inL e l).length≤l.length:=List.length_filter_le _ _
set_option maxRecDepth 100000 in
set_option maxHeartbeats 4000000 in
theorem refWithin_any (v:Value) (l:List Int) (en:Int) (w:World) (hv:SliceOf Rep.int w.cell? v l) (hl:l.length≤1048576) (hen:okI en) :
  Calls Tryz.prog 59 #[v,.int .i64 en] w fun e w'=> ∃v',e = .returned v'∧OwnOf Rep.int w' (fun _=>True) w.heap.size 3 v' (withinL l en)∧Ext w w':=by
 obtain⟨i3,hi3,hz30,hz31,hz32⟩:=info_parts info_ints
 obtain⟨p,cap,rfl,hc1,hc2,hp⟩:=hv.form
 obtain⟨N,hN⟩ : ∃N,N=l.length:=⟨_,rfl⟩
 have HV:=Lib.hid hv
 rw [←hN]at HV
 rw [←hN]
 have HN:=Lib.hid hN
 have HP:=Lib.hid hp
 have HEN:=Lib.hid hen
 have hNl:N≤1048576:=by omega
 have HLIT:=Lib.hid (OwnOf.lit (R:=Rep.int) (fun _ _ _ _ h=>h) w (fun _=>True) [.int .i64 0] 3 [[.int .i64 0]] [0] rfl ⟨⟨rfl,by constructor <;> omega⟩,trivial⟩ (by unfold maxLen;simp))
 clear hv hl hp hc1 hc2 hN hen
 go_enter Tryz.func59,Tryz.ntmps59
 go_wp2_with fail
 go_loopg [5,11] N (fun gk vo vi wr=> ∃(k:Nat) (u:Value) (o:List Int),k≤N∧gk=N - k∧vi = .int .i64 k∧u=vo∧Hid (OwnOf Rep.int wr (fun _=>True) w.heap.size 3 u o)∧Hid (o=0::inL en (l.take k))∧Ext w wr)
 case atStart=>exact⟨0,_,[0],by omega,rfl,rfl,rfl,HLIT.out,rfl,(Ext.refl w).alloc _⟩
 case round =>
  obtain⟨k,u,o,hk,rfl,rfl,rfl,OW,AS,hx⟩:=hrel
  have hol:o.length≤1048577:=by
   have:=inL_len en (l.take k)
   rw [List.length_take]at this
   rw [AS.out,List.length_cons]
   omega
  by_cases hlt:k<N
  ·have hkl:k<l.length:=by have:=HN.out;omega
   have hd:decide ((k:Int)<(N:Int))=true:=by simp;omega
   obtain⟨b,o',rfl⟩:=HP.out (by decide) (by omega)
   have hv:=HV.out
   obtain⟨c0,r0⟩:=int_at hv k hkl
   replace c0:=hx.at c0
   have hst:=inL_take en l k hkl
   generalize l[k]=x at c0 hst r0
   have e0:=cell_lt c0
   have HOX:=Lib.hid r0
   have HST:=Lib.hid hst
   clear hst hv hkl r0
   by_cases h0:0<x
   ·have hb0:decide (0<x)=true:=by simp [h0]
    by_cases h1:x<en
    ·have hb1:decide (x<en)=true:=by simp [h1]
     have HC:=Lib.hid (And.intro h0 h1)
     have B1:o.length+1≤maxLen:=by unfold maxLen;omega
     have B2:(o.length+1)*8≤140737488355328:=by omega
     clear h0 h1 hol
     go_wp2_with (at_builtin;go_loud (refine wpList_append_one Rep.int (fun _=>True) rfl _ _ 24 rfl w.heap.size 3 i3 _ 8 Tryz.underlying24 hi3 hz30 hz31 hz32 rfl (by decide) u o rfl (OW.out.ext ((Ext.refl wr).alloc _)) ⟨wr.heap.size,0,none⟩ 1 x [.int .i64 x] rfl ⟨rfl,HOX.out⟩ (by exact cells_new wr [.int .i64 x] _) B1 B2 (by exact(hx.alloc _).size) ?_))
     intro g cap3 w3 own gr _
     have hxx:Ext w w3:=Ext.grownNew (hx.alloc _) gr OW.out.base
     have OW2:=Lib.hid own
     clear own gr
     go_wp2_with fail
     go_roundg (N - (k+1))
     case measure=>omega
     case rel=>exact⟨k+1,_,_,by omega,rfl,by go_num,rfl,OW2.out,by show _=_;rw [HST.out,if_pos HC.out,AS.out];rfl,hxx⟩
    ·have hb1:decide (x<en)=false:=by simp;omega
     have HC:=Lib.hid h1
     clear h0 h1 hol
     go_wp2_with fail
     go_roundg (N - (k+1))
     case measure=>omega
     case rel=>exact⟨k+1,u,o,by omega,rfl,by go_num,rfl,OW.out,by show _=_;rw [HST.out,if_neg (fun h=>by have h2:=HC.out;omega),List.append_nil];exact AS.out,hx⟩
   ·have hb0:decide (0<x)=false:=by simp;omega
    have HC:=Lib.hid h0
    clear h0 hol
    go_wp2_with fail
    go_roundg (N - (k+1))
    case measure=>omega
    case rel=>exact⟨k+1,u,o,by omega,rfl,by go_num,rfl,OW.out,by show _=_;rw [HST.out,if_neg (fun h=>by have h2:=HC.out;omega),List.append_nil];exact AS.out,hx⟩
  ·have hkN:k=N:=by omega
   have hd : ¬(k:Int)<(N:Int):=by omega
   have HF:=Lib.hid (show o ++ [en]=withinL l en from by
    have h:=AS.out
    rw [hkN,HN.out,List.take_length]at h
    rw [h]
    rfl)
   have B1:o.length+1≤maxLen:=by unfold maxLen;omega
   have B2:(o.length+1)*8≤140737488355328:=by omega
   clear hkN hol
   go_wp2_with (at_builtin;go_loud (refine wpList_append_one Rep.int (fun _=>True) rfl _ _ 24 rfl w.heap.size 3 i3 _ 8 Tryz.underlying24 hi3 hz30 hz31 hz32 rfl (by decide) u o rfl (OW.out.ext ((Ext.refl wr).alloc _)) ⟨wr.heap.size,0,none⟩ 1 en [.int .i64 en] rfl ⟨rfl,HEN.out⟩ (by exact cells_new wr [.int .i64 en] _) B1 B2 (by exact(hx.alloc _).size) ?_))
   intro g cap3 w3 own gr _
   have hxx:Ext w w3:=Ext.grownNew (hx.alloc _) gr OW.out.base
   have OW2:=Lib.hid own
   clear own gr
   go_wp2_with fail
   go_ret
   exact⟨_,rfl,by rw [←HF.out];exact OW2.out,hxx⟩
end Go.Proofs.YtkddkbpoefidpaaGreatDoor
namespace Go.Proofs.YtkddkbpoefidpaaGreatDoor
open Go.RowKit
def daySlice (l:List Tup) (t:Int):List Row:=if 0≤t∧t<1000000 then sliceRows l t else []
theorem clip_slice (l:List Tup) (t:Int):sliceRows (clipT l) t=daySlice l t:=by
 unfold daySlice
 induction l with
 |nil=>split <;> rfl
 |cons x l ih =>
  have e1:sliceRows (x::l) t=sliceRows [x] t++sliceRows l t:=sliceRows_append [x] l t
  have e2:sliceRows (clipT (x::l)) t=sliceRows (clipT [x]) t++sliceRows (clipT l) t:=by
   rw [←sliceRows_append]
   unfold clipT
   rw [←List.filterMap_append]
   rfl
  have e3:sliceRows (clipT [x]) t=if 0≤t∧t<1000000 then sliceRows [x] t else []:=by
   unfold clipT
   rw [List.filterMap_cons,List.filterMap_nil]
   have hx:sliceRows [x] t=if holdsAt t x=true then [tupRow x]else []:=by
    unfold sliceRows
    rw [List.filter_cons,List.filter_nil]
    split <;> rfl
   rw [hx]
   cases hc:clip1 x with
   |none =>
    unfold clip1 at hc
    split at hc
    ·cases hc
    ·rename_i c
     show ([]:List Row)=_
     split
     ·rename_i c2
      rw [if_neg]
      intro hh
      unfold holdsAt at hh
      simp only [Bool.and_eq_true,decide_eq_true_eq]at hh
      apply c
      exact⟨hh.1.1,by omega⟩
     ·rfl
   |some y =>
    unfold clip1 at hc
    split at hc
    ·rename_i c
     cases hc
     show sliceRows [_] t=_
     unfold sliceRows
     rw [List.filter_cons,List.filter_nil]
     have hv:validT (⟨x.vals,max x.from_ 0,min x.to_ 1000000,x.lin⟩:Tup)=true:=by
      have:=validB_lt (show validB x.from_ x.to_=true from c.1)
      unfold validT validB
      simp only [Bool.and_eq_true,decide_eq_true_eq]
      omega
     unfold holdsAt
     rw [hv,c.1,Bool.true_and,Bool.true_and]
     simp only [Bool.and_eq_true,decide_eq_true_eq]
     by_cases c2:0≤t∧t<1000000
     ·rw [if_pos c2]
      by_cases c3:x.from_≤t∧t<x.to_
      ·rw [if_pos c3,if_pos (by omega)];rfl
      ·rw [if_neg c3,if_neg (by omega)];rfl
     ·rw [if_neg c2,if_neg (by omega)];rfl
    ·cases hc
  rw [e2,e1,e3,ih]
  split <;> simp
theorem flat_single {α β:Type} (p:α→Prop) [DecidablePred p] (f:α→β) (l:List α):(l.flatMap fun x=>if p x then [f x]else [])=(l.filter fun x=>decide (p x)).map f:=by
 induction l with
 |nil=>rfl
 |cons x l ih =>
  rw [List.flatMap_cons,ih,List.filter_cons]
  by_cases c:p x
  ·rw [if_pos c,if_pos (by simpa using c)];rfl
  ·rw [if_neg c,if_neg (by simpa using c)];rfl
section
open Classical
variable (proj:List Val→List Val) (aggV:List (List Val)→List Val)
def gRowS (kv:List Val) (S:List Row):Row:=⟨kv++aggV (S.map Row.vals),mergeL (S.flatMap Row.lin) []⟩
theorem gRow_S (kv:List Val) (ms:List Tup) (t:Int):gRow aggV kv ms t=gRowS aggV kv (sliceRows ms t):=by
 unfold gRow gRowS sliceRows
 rw [List.map_map,List.flatMap_map]
 rfl
noncomputable def selS (S:List Row) (kv:List Val):List Row:=S.filter fun r=>decide (proj r.vals=kv)
theorem gMem_slice (l:List Tup) (kv:List Val) (t:Int):sliceRows (gMem proj l kv) t=selS proj (daySlice l t) kv:=by
 rw [←clip_slice]
 unfold gMem selS sliceRows
 rw [List.filter_map,List.filter_filter,List.filter_filter]
 congr 1
 refine List.filter_congr fun x _=> ?_
 rw [Bool.and_comm]
 rfl
noncomputable def gSnap (always:Bool) (S:List Row):List Row:=(if always=true then [[]]else once (S.map fun r=>proj r.vals)).map fun kv=>gRowS aggV kv (selS proj S kv)
theorem any_slice (ms:List Tup) (t:Int):ms.any (holdsAt t)=true↔sliceRows ms t≠ []:=by
 unfold sliceRows
 rw [List.any_eq_true,ne_eq,List.map_eq_nil_iff,List.filter_eq_nil_iff]
 constructor
 ·rintro⟨x,hx,h⟩ g;exact g x hx h
 ·intro g
  rcases Classical.em (∃x∈ms,holdsAt t x=true)with h | h
  ·exact h
  ·exact absurd (fun x hx hh=>h ⟨x,hx,hh⟩) g
theorem rowsAt_snap (always:Bool) (l:List Tup) (t:Int):(rowsAt proj aggV always l t).Perm (if always=true∧ ¬(0≤t∧t<1000000)then []else gSnap proj aggV always (daySlice l t)):=by
 unfold rowsAt
 have e:((gKeys proj always l).flatMap fun kv=>if (always=true∧0≤t∧t<1000000)∨(always=false∧(gMem proj l kv).any (holdsAt t)=true)then [gRow aggV kv (gMem proj l kv) t]else [])=((gKeys proj always l).filter fun kv=>decide ((always=true∧0≤t∧t<1000000)∨(always=false∧(gMem proj l kv).any (holdsAt t)=true))).map fun kv=>gRowS aggV kv (selS proj (daySlice l t) kv):=by
  rw [←flat_single (fun kv=>(always=true∧0≤t∧t<1000000)∨(always=false∧(gMem proj l kv).any (holdsAt t)=true))]
  refine flat_congr fun kv _=> ?_
  rw [gRow_S,gMem_slice]
 rw [e]
 cases always with
 |true =>
  unfold gKeys gSnap
  rw [if_pos rfl]
  by_cases c:0≤t∧t<1000000
  ·rw [if_neg (fun h=>h.2 c),List.filter_cons,if_pos (by simp [c]),List.filter_nil]
   exact .refl _
  ·rw [if_pos ⟨rfl,c⟩,List.filter_cons,if_neg (by simp;omega),List.filter_nil]
   exact .refl _
 |false =>
  rw [if_neg (by simp)]
  unfold gSnap
  rw [if_neg (by simp)]
  refine List.Perm.map _ ((List.perm_ext_iff_of_nodup ((gKeys_nodup proj false l).filter _) (once_nodup _)).2 fun kv=> ?_)
  rw [List.mem_filter,mem_once,decide_eq_true_eq,any_slice,gMem_slice]
  have hk:(∃r∈daySlice l t,proj r.vals=kv)↔selS proj (daySlice l t) kv≠ []:=by
   unfold selS
   rw [ne_eq,List.filter_eq_nil_iff]
   constructor
   ·rintro⟨r,hr,h⟩ g;exact g r hr (by simpa using h)
   ·intro g
    rcases Classical.em (∃r∈daySlice l t,proj r.vals=kv)with h | h
    ·exact h
    ·exact absurd (fun r hr hh=>h ⟨r,hr,by simpa using hh⟩) g
  rw [List.mem_map]
  constructor
  ·rintro⟨_,h | h⟩
   ·exact absurd h.1 (by decide)
   ·exact hk.2 h.2
  ·intro h
   refine⟨?_,.inr ⟨rfl,hk.1 h⟩⟩
   unfold gKeys
   rw [if_neg (by decide),mem_once,List.mem_map]
   obtain⟨r,hr,hk2⟩:=h
   rw [←clip_slice]at hr
   unfold sliceRows at hr
   obtain⟨x,hx,rfl⟩:=List.mem_map.1 hr
   exact⟨x,(List.mem_filter.1 hx).1,hk2⟩
theorem agg_snap (always:Bool) (l:List Tup) (t:Int):(sliceRows (aggT proj aggV always l) t).Perm (if always=true∧ ¬(0≤t∧t<1000000)then []else gSnap proj aggV always (daySlice l t)):=(agg_rows proj aggV always l t).trans (rowsAt_snap proj aggV always l t)
theorem agg_normal (always:Bool) (l:List Tup):normT (aggT proj aggV always l)=aggT proj aggV always l:=normT_idem _
end
end Go.Proofs.YtkddkbpoefidpaaGreatDoor
namespace Go.Proofs.YtkddkbpoefidpaaGreatDoor
open Go.RowKit
def linS (S:List Row):List Int:=mergeL (S.flatMap Row.lin) []
theorem linS_mem (S:List Row) (x:Int):x∈linS S↔ ∃r∈S,x∈r.lin:=by
 unfold linS
 rw [(mergeL_law _ _).2,List.mem_flatMap]
 simp
theorem linS_perm {S S':List Row} (h:S.Perm S'):linS S=linS S':=asc_unique (mergeL_law _ _).1 (mergeL_law _ _).1 fun x=>by
 show x∈mergeL (S.flatMap Row.lin) []↔x∈mergeL (S'.flatMap Row.lin) []
 rw [show x∈mergeL (S.flatMap Row.lin) []↔_ from linS_mem S x,show x∈mergeL (S'.flatMap Row.lin) []↔_ from linS_mem S' x]
 exact⟨fun⟨r,a,b⟩=>⟨r,h.mem_iff.1 a,b⟩,fun⟨r,a,b⟩=>⟨r,h.mem_iff.2 a,b⟩⟩
theorem gLin_from (g:List Row) : ∀a:List Int,a.Pairwise (· < ·)→(g.foldl (fun a r=>mergeL a r.lin) a).Pairwise (· < ·)∧ ∀x,x∈g.foldl (fun a r=>mergeL a r.lin) a↔x∈a∨ ∃r∈g,x∈r.lin:=by
 induction g with
 |nil=>intro a ha;exact⟨ha,fun x=>by simp⟩
 |cons r g ih =>
  intro a ha
  obtain⟨h1,h2⟩:=ih (mergeL a r.lin) (mergeL_law a r.lin).1
  refine⟨h1,fun x=> ?_⟩
  rw [List.foldl_cons,h2,(mergeL_law a r.lin).2]
  constructor
  ·rintro((h | h) | ⟨y,hy,h⟩)
   ·exact .inl h
   ·exact .inr ⟨r,by simp,h⟩
   ·exact .inr ⟨y,by simp [hy],h⟩
  ·rintro(h | ⟨y,hy,h⟩)
   ·exact .inl (.inl h)
   ·rcases List.mem_cons.1 hy with rfl | hy
    ·exact .inl (.inr h)
    ·exact .inr ⟨y,hy,h⟩
theorem gLin_linS (g:List Row):gLin g=linS g:=asc_unique (gLin_from g [] List.Pairwise.nil).1 (mergeL_law _ _).1 fun x=>by
 refine((gLin_from g [] List.Pairwise.nil).2 x).trans ?_
 rw [linS_mem]
 simp
theorem sumI_cons (x:Val) (xs:List Val):sumI (x::xs)=(if x.kind=1 then x.n else 0)+sumI xs:=sumF_cons (fun n=>n) x xs
theorem sumI_perm {xs ys:List Val} (h:xs.Perm ys):sumI xs=sumI ys:=by
 induction h with
 |nil=>rfl
 |cons x _ ih=>rw [sumI_cons,sumI_cons,ih]
 |swap x y l=>rw [sumI_cons,sumI_cons,sumI_cons,sumI_cons];exact Int.add_left_comm _ _ _
 |trans _ _ i j=>exact i.trans j
theorem anyI_perm {xs ys:List Val} (h:xs.Perm ys):anyI xs=anyI ys:=by
 unfold anyI
 rw [Bool.eq_iff_iff,List.any_eq_true,List.any_eq_true]
 exact⟨fun⟨r,a,b⟩=>⟨r,h.mem_iff.1 a,b⟩,fun⟨r,a,b⟩=>⟨r,h.mem_iff.2 a,b⟩⟩
theorem sumV_perm {xs ys:List Val} (h:xs.Perm ys):sumV xs=sumV ys:=by
 unfold sumV
 rw [sumI_perm h,anyI_perm h]
theorem pickMin_perm {xs ys:List Val} (h:xs.Perm ys):pickMin xs=pickMin ys:=by
 by_cases e:xs = []
 ·subst e;rw [h.nil_eq]
 ·have e2:ys≠ []:=fun e2=>e (by subst e2;exact h.eq_nil)
  obtain⟨a1,a2⟩:=pickMin_law e
  obtain⟨b1,b2⟩:=pickMin_law e2
  exact ord_val.le_anti _ _ (a2 _ (h.mem_iff.2 b1)) (b2 _ (h.mem_iff.1 a1))
theorem fold_max_ge (xs:List Val) : ∀x,cmpVal x (xs.foldl (fun m y=>if 0<cmpVal y m then y else m) x)≤0∧ ∀y∈xs,cmpVal y (xs.foldl (fun m y=>if 0<cmpVal y m then y else m) x)≤0:=by
 induction xs with
 |nil=>exact fun x=>⟨by rw [List.foldl_nil,(ord_val.eq x x).2 rfl];decide,fun y hy=>by cases hy⟩
 |cons z xs ih =>
  intro x
  rw [List.foldl_cons]
  by_cases c:0<cmpVal z x
  ·rw [if_pos c]
   obtain⟨h1,h2⟩:=ih z
   refine⟨ord_val.le_tr _ _ _ (by have:=ord_val.anti z x;omega) h1,fun y hy=> ?_⟩
   rcases List.mem_cons.1 hy with rfl | hy
   ·exact h1
   ·exact h2 y hy
  ·rw [if_neg c]
   obtain⟨h1,h2⟩:=ih x
   refine⟨h1,fun y hy=> ?_⟩
   rcases List.mem_cons.1 hy with rfl | hy
   ·exact ord_val.le_tr _ _ _ (by omega) h1
   ·exact h2 y hy
theorem pickMax_law {xs:List Val} (h:xs≠ []):pickMax xs∈xs∧ ∀y∈xs,cmpVal y (pickMax xs)≤0:=by
 refine⟨pickMax_mem h,?_⟩
 cases xs with
 |nil=>exact absurd rfl h
 |cons x xs =>
  intro y hy
  obtain⟨h1,h2⟩:=fold_max_ge xs x
  rcases List.mem_cons.1 hy with rfl | hy
  ·exact h1
  ·exact h2 y hy
theorem pickMax_perm {xs ys:List Val} (h:xs.Perm ys):pickMax xs=pickMax ys:=by
 by_cases e:xs = []
 ·subst e;rw [h.nil_eq]
 ·have e2:ys≠ []:=fun e2=>e (by subst e2;exact h.eq_nil)
  obtain⟨a1,a2⟩:=pickMax_law e
  obtain⟨b1,b2⟩:=pickMax_law e2
  exact ord_val.le_anti _ _ (b2 _ (h.mem_iff.1 a1)) (a2 _ (h.mem_iff.2 b1))
theorem nn_nil {xs ys:List Val} (h:xs.Perm ys):nnV xs = []↔nnV ys = []:=by
 have h2:(nnV xs).Perm (nnV ys):=h.filter _
 exact⟨fun e=>by rw [e]at h2;exact h2.symm.eq_nil,fun e=>by rw [e]at h2;exact h2.eq_nil⟩
theorem aggR_perm (kind:Int) {xs ys:List Val} (h:xs.Perm ys):aggR kind xs=aggR kind ys:=by
 have h2:(nnV xs).Perm (nnV ys):=h.filter _
 unfold aggR bestMin bestMax
 rw [h.length_eq,sumV_perm h,pickMin_perm h2,pickMax_perm h2]
 by_cases e:nnV xs = []
 ·rw [if_pos e,if_pos e,if_pos ((nn_nil h).1 e),if_pos ((nn_nil h).1 e)]
 ·rw [if_neg e,if_neg e,if_neg (fun c=>e ((nn_nil h).2 c)),if_neg (fun c=>e ((nn_nil h).2 c))]
theorem sumV_nn (xs:List Val):sumV (nnV xs)=sumV xs:=by
 have h1:sumI (nnV xs)=sumI xs∧anyI (nnV xs)=anyI xs:=by
  induction xs with
  |nil=>exact⟨rfl,rfl⟩
  |cons x xs ih =>
   unfold nnV at ih ⊢
   rw [List.filter_cons]
   have e:anyI (x::xs)=(decide (x.kind=1)||anyI xs):=rfl
   by_cases c:x.kind=0
   ·rw [if_neg (by simp [c]),ih.1,ih.2,sumI_cons,if_neg (by omega),e,decide_eq_false (by omega)]
    exact⟨by omega,rfl⟩
   ·rw [if_pos (by simp [c]),sumI_cons,sumI_cons,ih.1,e]
    exact⟨rfl,by rw [←ih.2];rfl⟩
 unfold sumV
 rw [h1.1,h1.2]
theorem aggE_R (es:List ExprI) (kind arg:Int) (vss:List (List Val)):aggE es kind arg vss=aggR kind (vss.map fun vs=>evalE es arg vs):=by
 have e:argsG es arg vss=nnV (vss.map fun vs=>evalE es arg vs):=rfl
 unfold aggE aggR bestMin bestMax
 rw [e,sumV_nn,List.length_map,ite_self]
theorem runs_groups {κ α:Type} (dec:α→κ→Bool) (f:α→κ) (hd : ∀x k,dec x k=true↔f x=k) : ∀ps:List (κ×List α),(ps.map Prod.fst).Nodup→(∀p∈ps,∀x∈p.2,f x=p.1)→ ∀p∈ps,p.2=((ps.map Prod.snd).flatten).filter fun x=>dec x p.1:=by
 intro ps
 induction ps with
 |nil=>intro _ _ p hp;cases hp
 |cons q ps ih =>
  intro hn hc p hp
  rw [List.map_cons,List.nodup_cons]at hn
  rw [List.map_cons,List.flatten_cons,List.filter_append]
  have hin : ∀x∈(ps.map Prod.snd).flatten,∃r∈ps,f x=r.1:=fun x hx=>by
   obtain⟨l,hl,hxl⟩:=List.mem_flatten.1 hx
   obtain⟨r,hr,rfl⟩:=List.mem_map.1 hl
   exact⟨r,hr,hc r (by simp [hr]) x hxl⟩
  rcases List.mem_cons.1 hp with rfl | hp
  ·rw [List.filter_eq_self.2 (fun x hx=>(hd x _).2 (hc p (by simp) x hx)),List.filter_eq_nil_iff.2 (fun x hx e=>by
    obtain⟨r,hr,h1⟩:=hin x hx
    exact hn.1 (List.mem_map.2 ⟨r,hr,by rw [←h1];exact(hd x _).1 e⟩)),List.append_nil]
  ·rw [List.filter_eq_nil_iff.2 (fun x hx e=>by
    have h1:=hc q (by simp) x hx
    exact hn.1 (List.mem_map.2 ⟨p,hp,by rw [←h1];exact((hd x _).1 e).symm⟩)),List.nil_append]
   exact ih hn.2 (fun r hr=>hc r (by simp [hr])) p hp
theorem lex_take {α:Type} (c:α→α→Int) : ∀(K:Nat) (xs ys:List α),lexI c xs ys≤0→lexI c (xs.take K) (ys.take K)≤0:=by
 intro K
 induction K with
 |zero=>intro xs ys _;simp [lexI]
 |succ K ih =>
  intro xs ys h
  cases xs with
  |nil =>
   cases ys with
   |nil=>simp [lexI]
   |cons y ys=>simp [lexI]
  |cons x xs =>
   cases ys with
   |nil=>simp [lexI]at h
   |cons y ys =>
    rw [List.take_succ_cons,List.take_succ_cons]
    unfold lexI at h ⊢
    split
    ·rename_i e
     rw [if_pos e]at h
     exact ih xs ys h
    ·rename_i e
     rw [if_neg e]at h
     exact h
theorem gRuns_pairs (K:Nat) (hK:K≠0) (L:List Row) (hs:L.Pairwise fun a b=>cmpVals (a.vals.take K) (b.vals.take K)≤0) : ∀k,k≤L.length→ ∃ps:List (List Val×List Row),gRuns K (L.take k)=ps.map Prod.snd∧(ps.Pairwise fun a b=>cmpVals a.1 b.1<0)∧(∀p∈ps,p.2≠ []∧ ∀x∈p.2,x.vals.take K=p.1)∧(ps.map Prod.snd).flatten=L.take k:=by
 intro k
 induction k with
 |zero=>intro _;exact⟨[],by rw [List.take_zero];unfold gRuns gStart;rw [if_neg hK];rfl,List.Pairwise.nil,(fun p hp=>absurd hp List.not_mem_nil),by simp⟩
 |succ k ih =>
  intro hk
  obtain⟨ps,e1,e2,e3,e4⟩:=ih (by omega)
  have hkl:k<L.length:=by omega
  rw [gRuns_take K L k hkl,e1,List.take_succ_eq_append_getElem hkl,←e4]
  have hle : ∀y∈L.take k,cmpVals (y.vals.take K) (L[k].vals.take K)≤0:=fun y hy=>by
   have h:=hs
   rw [←List.take_append_drop k L]at h
   exact(List.pairwise_append.1 h).2.2 y hy _ (by rw [List.drop_eq_getElem_cons hkl];exact List.mem_cons_self)
  generalize L[k]=x at hle
  rcases List.eq_nil_or_concat ps with rfl | ⟨qs,⟨kl,cur⟩,rfl⟩
  ·exact⟨[(x.vals.take K,[x])],rfl,List.pairwise_singleton _ _,fun p hp=>by rw [List.mem_singleton.1 hp];exact⟨by simp,fun y hy=>by rw [List.mem_singleton.1 hy]⟩,by simp⟩
  ·rw [List.concat_eq_append]at e1 e2 e3 e4 ⊢
   have e5:=e3 (kl,cur) (by simp)
   obtain⟨c,cs,hcur⟩:=List.exists_cons_of_ne_nil e5.1
   have hc:c.vals.take K=kl:=e5.2 c (by rw [show (kl,cur).2=c::cs from hcur];simp)
   have hin:c∈L.take k:=by
    rw [←e4]
    exact List.mem_flatten.2 ⟨cur,List.mem_map.2 ⟨(kl,cur),by simp,rfl⟩,by rw [show cur=c::cs from hcur];simp⟩
   have hlc:=hle c hin
   rw [hc]at hlc
   have hg:gNew K cur x=(cmpVals kl (x.vals.take K) != 0):=by
    have hcur2:cur=c::cs:=hcur
    unfold gNew
    rw [hcur2]
    simp [hc]
   obtain⟨p1,p2,p3⟩:=List.pairwise_append.1 e2
   rw [List.map_append,List.map_cons,List.map_nil]
   by_cases e:cmpVals kl (x.vals.take K)=0
   ·rw [gStep_old K _ _ _ (by rw [hg,e];rfl)]
    have hk2:kl=x.vals.take K:=(ord_vals.eq _ _).1 e
    refine⟨qs ++ [(kl,cur ++ [x])],by simp,?_,?_,by simp⟩
    ·refine List.pairwise_append.2 ⟨p1,List.pairwise_singleton _ _,fun a ha b hb=> ?_⟩
     rw [List.mem_singleton.1 hb]
     exact p3 a ha (kl,cur) (by simp)
    ·intro p hp
     rcases List.mem_append.1 hp with hp | hp
     ·exact e3 p (by simp [hp])
     ·rw [List.mem_singleton.1 hp]
      refine⟨by simp,fun y hy=> ?_⟩
      rcases List.mem_append.1 hy with hy | hy
      ·exact e5.2 y hy
      ·rw [List.mem_singleton.1 hy,←hk2]
   ·rw [gStep_new K _ _ _ (by rw [hg];simpa using e)]
    refine⟨qs ++ [(kl,cur)] ++ [(x.vals.take K,[x])],by simp,?_,?_,by simp⟩
    ·refine List.pairwise_append.2 ⟨e2,List.pairwise_singleton _ _,fun a ha b hb=> ?_⟩
     rw [List.mem_singleton.1 hb]
     have hlt:cmpVals kl (x.vals.take K)<0:=by omega
     rcases List.mem_append.1 ha with ha | ha
     ·exact ord_vals.tr _ _ _ (p3 a ha (kl,cur) (by simp)) hlt
     ·rw [List.mem_singleton.1 ha];exact hlt
    ·intro p hp
     rcases List.mem_append.1 hp with hp | hp
     ·exact e3 p hp
     ·rw [List.mem_singleton.1 hp]
      exact⟨by simp,fun y hy=>by rw [List.mem_singleton.1 hy]⟩
theorem gRuns_zero (L:List Row):gRuns 0 L = [L]:=by
 have h : ∀(l:List Row) (c:List Row),l.foldl (gStep 0) [c] = [c++l]:=by
  intro l
  induction l with
  |nil=>intro c;simp
  |cons x l ih =>
   intro c
   rw [List.foldl_cons]
   have e:gStep 0 [c] x = [c ++ [x]]:=by
    have:=gStep_old 0 [] c x (by unfold gNew;simp [cmpVals,lexI])
    simpa using this
   rw [e,ih]
   simp
 exact h L []
section
open Classical
def aggsE (es:List ExprI) (aggs:List AggI) (vss:List (List Val)):List Val:=aggs.map fun a=>aggE es a.kind a.arg vss
theorem aggsE_perm (es:List ExprI) (aggs:List AggI) {v u:List (List Val)} (h:v.Perm u):aggsE es aggs v=aggsE es aggs u:=by
 unfold aggsE
 refine List.map_congr_left fun a _=> ?_
 rw [aggE_R,aggE_R]
 exact aggR_perm _ (h.map _)
theorem groupR_snap (es:List ExprI) (keys:List Int) (aggs:List AggI) (rows:List Row):(groupR es keys aggs rows).Perm (gSnap (projE es keys) (aggsE es aggs) (decide (keys.length=0)) rows):=by
 obtain⟨K,hK⟩ : ∃K,K=keys.length:=⟨_,rfl⟩
 obtain⟨L,hL⟩ : ∃L,L=sortBy cmpRow (rows.map (keyR es keys)):=⟨_,rfl⟩
 have hperm:L.Perm (rows.map (keyR es keys)):=by rw [hL];exact sortBy_perm _ _
 have hrow : ∀(g:List Row) (kv:List Val) (S:List Row),g.Perm (S.map (keyR es keys))→(g.headD ⟨[],[]⟩).vals.take K=kv→gRow1 es K aggs g=gRowS (aggsE es aggs) kv S:=by
  intro g kv S hg hh
  unfold gRow1 gRowS aggsE
  rw [hh,gLin_linS,linS_perm hg]
  congr 1
  ·congr 1
   refine List.map_congr_left fun a _=> ?_
   rw [aggE_R,aggR_perm a.kind (hg.map _),List.map_map,List.map_map]
   congr 1
   refine List.map_congr_left fun r _=> ?_
   show evalE es a.arg ((projE es keys r.vals++r.vals).drop K)=evalE es a.arg r.vals
   rw [List.drop_append_of_le_length (by rw [projE_len];omega),List.drop_of_length_le (by rw [projE_len];omega),List.nil_append]
  ·unfold linS
   rw [List.flatMap_map]
   rfl
 have hkey : ∀r:Row,(keyR es keys r).vals.take K=projE es keys r.vals:=fun r=>by
  show (projE es keys r.vals++r.vals).take K=_
  rw [List.take_append_of_le_length (by rw [projE_len];omega),List.take_of_length_le (by rw [projE_len];omega)]
 unfold groupR gSnap
 rw [←hK,←hL]
 by_cases h0:K=0
 ·subst h0
  rw [gRuns_zero,if_pos (by simp)]
  have e:selS (projE es keys) rows []=rows:=by
   unfold selS
   exact List.filter_eq_self.2 fun r _=>decide_eq_true (List.eq_nil_of_length_eq_zero (by rw [projE_len];omega))
  rw [List.map_cons,List.map_nil,List.map_cons,List.map_nil,e,hrow L [] rows hperm (by simp)]
 ·rw [if_neg (by simp;exact h0)]
  have hs:L.Pairwise fun a b=>cmpVals (a.vals.take K) (b.vals.take K)≤0:=by
   rw [hL]
   exact(sortBy_pair ord_row _).imp fun h=>lex_take _ K _ _ (cmpRow_vals h)
  obtain⟨ps,e1,e2,e3,e4⟩:=gRuns_pairs K h0 L hs L.length (Nat.le_refl _)
  rw [List.take_length]at e1 e4
  have hn:(ps.map Prod.fst).Nodup:=List.pairwise_map.2 (e2.imp fun h e=>by rw [e,(ord_vals.eq _ _).2 rfl]at h;omega)
  have hg:=runs_groups (fun(x:Row) k=>decide (x.vals.take K=k)) (fun x=>x.vals.take K) (fun x k=>by simp) ps hn fun p hp=>(e3 p hp).2
  rw [e4]at hg
  have e5:(gRuns K L).map (gRow1 es K aggs)=(ps.map Prod.fst).map fun kv=>gRowS (aggsE es aggs) kv (selS (projE es keys) rows kv):=by
   rw [e1,List.map_map,List.map_map]
   refine List.map_congr_left fun p hp=> ?_
   refine hrow p.2 p.1 _ ?_ ?_
   ·have h1:=hg p hp
    have h2:=hperm.filter fun x=>decide (x.vals.take K=p.1)
    rw [←h1,List.filter_map]at h2
    refine h2.trans (List.Perm.of_eq ?_)
    unfold selS
    congr 1
    refine List.filter_congr fun r _=> ?_
    show decide ((keyR es keys r).vals.take K=p.1)=_
    rw [hkey]
   ·obtain⟨c,cs,hc⟩:=List.exists_cons_of_ne_nil (e3 p hp).1
    rw [hc]
    exact(e3 p hp).2 c (by rw [hc];simp)
  rw [e5]
  refine List.Perm.map _ ((List.perm_ext_iff_of_nodup hn (once_nodup _)).2 fun kv=> ?_)
  rw [mem_once]
  have hm : ∀x,x∈(ps.map Prod.snd).flatten↔x∈rows.map (keyR es keys):=fun x=>by rw [e4];exact hperm.mem_iff
  constructor
  ·intro h
   obtain⟨p,hp,rfl⟩:=List.mem_map.1 h
   obtain⟨c,cs,hc⟩:=List.exists_cons_of_ne_nil (e3 p hp).1
   have hin:c∈p.2:=by rw [hc];simp
   obtain⟨r,hr,he⟩:=List.mem_map.1 ((hm c).1 (List.mem_flatten.2 ⟨p.2,List.mem_map.2 ⟨p,hp,rfl⟩,hin⟩))
   exact List.mem_map.2 ⟨r,hr,by rw [←hkey,he];exact(e3 p hp).2 c hin⟩
  ·intro h
   obtain⟨r,hr,rfl⟩:=List.mem_map.1 h
   obtain⟨g,hg1,hg2⟩:=List.mem_flatten.1 ((hm _).2 (List.mem_map.2 ⟨r,hr,rfl⟩))
   obtain⟨p,hp,rfl⟩:=List.mem_map.1 hg1
   exact List.mem_map.2 ⟨p,hp,by rw [←(e3 p hp).2 _ hg2,hkey]⟩
end
end Go.Proofs.YtkddkbpoefidpaaGreatDoor
namespace Go.Proofs.YtkddkbpoefidpaaGreatDoor
open Go.RowKit
theorem within_law (l:List Tup):(withinL (pts l) 1000000).Pairwise (· < ·)∧(∀x∈withinL (pts l) 1000000,0≤x∧x≤1000000)∧(∀x∈pts l,0<x→x<1000000→x∈withinL (pts l) 1000000)∧(withinL (pts l) 1000000)[0]! = 0∧(withinL (pts l) 1000000)[(withinL (pts l) 1000000).length - 1]! = 1000000∧2≤(withinL (pts l) 1000000).length:=by
 obtain⟨p1,p2,_⟩:=pts_law l
 have hin : ∀x,x∈inL 1000000 (pts l)↔x∈pts l∧0<x∧x<1000000:=fun x=>by
  unfold inL
  rw [List.mem_filter]
  simp only [Bool.and_eq_true,decide_eq_true_eq]
 have h1:(inL 1000000 (pts l)).Pairwise (· < ·):=p1.filter _
 have hl:(withinL (pts l) 1000000).length=(inL 1000000 (pts l)).length+2:=by unfold withinL;simp
 refine⟨?_,?_,?_,rfl,?_,by omega⟩
 ·unfold withinL
  rw [List.cons_append,List.pairwise_cons]
  refine⟨fun x hx=> ?_,List.pairwise_append.2 ⟨h1,List.pairwise_singleton _ _,fun a ha b hb=> ?_⟩⟩
  ·rcases List.mem_append.1 hx with hx | hx
   ·exact((hin x).1 hx).2.1
   ·rw [List.mem_singleton.1 hx];decide
  ·rw [List.mem_singleton.1 hb]
   exact((hin a).1 ha).2.2
 ·intro x hx
  unfold withinL at hx
  rw [List.cons_append]at hx
  rcases List.mem_cons.1 hx with rfl | hx
  ·omega
  ·rcases List.mem_append.1 hx with hx | hx
   ·have:=(hin x).1 hx;omega
   ·rw [List.mem_singleton.1 hx];omega
 ·intro x hx h0 h1
  unfold withinL
  rw [List.cons_append]
  exact List.mem_cons_of_mem _ (List.mem_append_left _ ((hin x).2 ⟨hx,h0,h1⟩))
 ·have h3:(withinL (pts l) 1000000)[(withinL (pts l) 1000000).length - 1]?=some 1000000:=by
   rw [hl]
   unfold withinL
   rw [List.cons_append,show (inL 1000000 (pts l)).length+2 - 1=(inL 1000000 (pts l)).length+1 by omega,List.getElem?_cons_succ,List.getElem?_append_right (Nat.le_refl _),Nat.sub_self]
   rfl
  rw [List.getElem!_eq_getElem?_getD,h3]
  rfl
theorem within_gap (l:List Tup) {t:Int} (h0:0≤t) (h1:t<1000000) : ∃i,i+1<(withinL (pts l) 1000000).length∧(withinL (pts l) 1000000)[i]! ≤t∧t<(withinL (pts l) 1000000)[i+1]! ∧ ∀x∈l,holdsAt (withinL (pts l) 1000000)[i]! x=holdsAt t x:=by
 obtain⟨a1,a2,a3,a4,a5,a6⟩:=within_law l
 obtain⟨p1,p2,_⟩:=pts_law l
 obtain⟨P,hP⟩ : ∃P,P=withinL (pts l) 1000000:=⟨_,rfl⟩
 rw [←hP]at a1 a2 a3 a4 a5 a6 ⊢
 rcases gap_or (P:=P) t (P.length - 1) (Nat.le_refl _)with ⟨i,hi,g1,g2⟩ | h
 ·refine⟨i,by omega,g1,g2,fun x hx=> ?_⟩
  have hpi:=a2 P[i]! (by rw [getElem!_pos P i (by omega)];exact List.getElem_mem _)
  unfold holdsAt
  cases hv:validT x with
  |false=>rfl
  |true =>
   obtain⟨b1,b2⟩:=bnd_mem hx hv
   have c1:=(p2 _).2 b1
   have c2:=(p2 _).2 b2
   have hb:=bnd_rng l _ b1
   have e1:decide (x.from_≤P[i]!)=decide (x.from_≤t):=by
    by_cases c:x.from_≤P[i]!
    ·rw [decide_eq_true c,decide_eq_true (by omega)]
    ·rw [decide_eq_false c,decide_eq_false]
     intro c3
     have:=gap a1 (a3 _ c1 (by omega) (by omega)) (k:=i) (by omega) (by omega)
     omega
   have e2:decide (P[i]! < x.to_)=decide (t<x.to_):=by
    by_cases c:t<x.to_
    ·rw [decide_eq_true c,decide_eq_true (by omega)]
    ·rw [decide_eq_false c,decide_eq_false]
     intro c3
     have:=gap a1 (a3 _ c2 (by omega) (by omega)) (k:=i) (by omega) (by omega)
     omega
   rw [e1,e2]
 ·omega
theorem slice_holds {l:List Tup} {x y:Int} (h : ∀z∈l,holdsAt x z=holdsAt y z):sliceRows l x=sliceRows l y:=by
 unfold sliceRows
 rw [List.filter_congr h]
theorem within_rows (G:Int→List Row) (l:List Tup) (hG : ∀x y,(∀z∈l,holdsAt x z=holdsAt y z)→G x=G y) (t:Int):sliceRows (binUpto G (withinL (pts l) 1000000) ((withinL (pts l) 1000000).length - 1)) t=if 0≤t∧t<1000000 then G t else []:=by
 obtain⟨a1,a2,a3,a4,a5,a6⟩:=within_law l
 have hr : ∀x∈withinL (pts l) 1000000,0≤x∧x≤1099511627776:=fun x hx=>by have:=a2 x hx;omega
 obtain⟨h1,h2⟩:=bin_at G a1 hr t ((withinL (pts l) 1000000).length - 1) (Nat.le_refl _)
 by_cases c:0≤t∧t<1000000
 ·rw [if_pos c]
  obtain⟨i,hi,g1,g2,g3⟩:=within_gap l c.1 c.2
  rw [h1 i (by omega) g1 g2]
  exact hG _ _ g3
 ·rw [if_neg c]
  refine h2 fun i hi ⟨g3,g4⟩=>c ?_
  have b1:=a2 (withinL (pts l) 1000000)[i]! (by rw [getElem!_pos _ i (by omega)];exact List.getElem_mem _)
  have b2:=a2 (withinL (pts l) 1000000)[i+1]! (by rw [getElem!_pos _ (i+1) (by omega)];exact List.getElem_mem _)
  omega
noncomputable def refAggRaw (es:List ExprI) (keys:List Int) (aggs:List AggI) (l:List Tup):List Tup:=binUpto (fun x=>groupR es keys aggs (sortBy cmpRow (sliceRows l x))) (withinL (pts l) 1000000) ((withinL (pts l) 1000000).length - 1)
theorem once_perm {α:Type} {a b:List α} (h:a.Perm b):(once a).Perm (once b):=(List.perm_ext_iff_of_nodup (once_nodup _) (once_nodup _)).2 fun x=>by rw [mem_once,mem_once];exact h.mem_iff
theorem gRowS_perm (aggV:List (List Val)→List Val) (hA : ∀v u,v.Perm u→aggV v=aggV u) (kv:List Val) {S S':List Row} (h:S.Perm S'):gRowS aggV kv S=gRowS aggV kv S':=by
 unfold gRowS
 rw [hA _ _ (h.map _),show mergeL (S.flatMap Row.lin) []=mergeL (S'.flatMap Row.lin) []from linS_perm h]
theorem gSnap_perm (proj:List Val→List Val) (aggV:List (List Val)→List Val) (hA : ∀v u,v.Perm u→aggV v=aggV u) (always:Bool) {S S':List Row} (h:S.Perm S'):(gSnap proj aggV always S).Perm (gSnap proj aggV always S'):=by
 have hr : ∀kv,gRowS aggV kv (selS proj S kv)=gRowS aggV kv (selS proj S' kv):=fun kv=>gRowS_perm aggV hA kv (h.filter _)
 unfold gSnap
 rw [show (fun kv=>gRowS aggV kv (selS proj S kv))=fun kv=>gRowS aggV kv (selS proj S' kv)from funext hr]
 refine List.Perm.map _ ?_
 split
 ·exact List.Perm.refl _
 ·exact once_perm (h.map _)
theorem refAgg_group (es:List ExprI) (keys:List Int) (aggs:List AggI) (l:List Tup):normT (refAggRaw es keys aggs l)=aggT (projE es keys) (aggsE es aggs) (decide (keys.length=0)) l:=by
 have h0:aggT (projE es keys) (aggsE es aggs) (decide (keys.length=0)) l=normT (aggT (projE es keys) (aggsE es aggs) (decide (keys.length=0)) l):=(agg_normal _ _ _ _).symm
 rw [h0]
 refine normT_congr fun t=> ?_
 refine List.Perm.trans ?_ (agg_snap (projE es keys) (aggsE es aggs) (decide (keys.length=0)) l t).symm
 unfold refAggRaw
 rw [within_rows _ l (fun x y h=>by rw [slice_holds h])]
 unfold daySlice
 by_cases c:0≤t∧t<1000000
 ·rw [if_pos c,if_neg (fun h=>h.2 c),if_pos c]
  exact(groupR_snap es keys aggs _).trans (gSnap_perm _ _ (fun v u h=>aggsE_perm es aggs h) _ (sortBy_perm _ _))
 ·rw [if_neg c,if_neg c]
  by_cases k:keys.length=0
  ·rw [if_pos ⟨by simpa using k,c⟩]
  ·rw [if_neg (fun h=>k (by simpa using h.1))]
   unfold gSnap
   rw [if_neg (by simpa using k)]
   exact List.Perm.refl _
end Go.Proofs.YtkddkbpoefidpaaGreatDoor
namespace Go.Proofs.YtkddkbpoefidpaaGreatDoor
open Go.RowKit
noncomputable def grpG (es:List ExprI) (keys:List Int) (aggs:List AggI) (l:List Tup) (x:Int):List Row:=groupR es keys aggs (sortBy cmpRow (sliceRows l x))
theorem groupR_len (es:List ExprI) (keys:List Int) (aggs:List AggI) (rows:List Row):(groupR es keys aggs rows).length≤rows.length+1:=by
 unfold groupR
 rw [List.length_map]
 have h:=(gRuns_len keys.length (sortBy cmpRow (rows.map (keyR es keys)))).2
 rw [sortBy_length,List.length_map]at h
 exact h
theorem grpG_len (es:List ExprI) (keys:List Int) (aggs:List AggI) (l:List Tup) (hl:l.length≤9) (x:Int):(grpG es keys aggs l x).length≤10:=by
 have h1:=groupR_len es keys aggs (sortBy cmpRow (sliceRows l x))
 have h2:=slice_le l x
 unfold grpG
 omega
set_option maxRecDepth 100000 in
set_option maxHeartbeats 8000000 in
theorem refAggregate_any (va:Value) (l:List Tup) (ve:Value) (es:List ExprI) (vk:Value) (keys:List Int) (vg:Value) (aggs:List AggI) (w:World) (ha:SliceOf Rep.tup w.cell? va l) (hla:l.length≤9)
  (he:SliceOf Rep.expr w.cell? ve es) (hel:es.length≤1000) (hk:SliceOf Rep.int w.cell? vk keys) (hkl:keys.length≤1000) (hg:SliceOf Rep.agg w.cell? vg aggs) (hgl:aggs.length≤1000) (hfa:fewT l) :
  Calls Tryz.prog 19 #[va,ve,vk,vg] w fun e w'=> ∃v',e = .returned v'∧SliceOf Rep.tup w'.cell? v' (normT (refAggRaw es keys aggs l))∧Ext w w':=by
 obtain⟨i1,hi1,hz10,hz11,hz12⟩:=info_parts info_tupR
 have HA:=Lib.hid ha
 have HE:=Lib.hid he
 have HK:=Lib.hid hk
 have HG:=Lib.hid hg
 have HEL:=Lib.hid (And.intro hel (And.intro hkl hgl))
 have HFA:=Lib.hid hfa
 have HLL:=Lib.hid hla
 obtain⟨pa,ca,rfl,_⟩:=ha.form
 obtain⟨pe,ce,rfl,_⟩:=he.form
 obtain⟨pk,ck,rfl,_⟩:=hk.form
 obtain⟨pg,cg,rfl,_⟩:=hg.form
 obtain⟨na,hna⟩ : ∃n,n=l.length:=⟨_,rfl⟩
 obtain⟨ne,hne⟩ : ∃n,n=es.length:=⟨_,rfl⟩
 obtain⟨nk,hnk⟩ : ∃n,n=keys.length:=⟨_,rfl⟩
 obtain⟨ng,hng⟩ : ∃n,n=aggs.length:=⟨_,rfl⟩
 rw [←hna]at HA ⊢
 rw [←hne]at HE ⊢
 rw [←hnk]at HK ⊢
 rw [←hng]at HG ⊢
 clear ha he hel hk hkl hg hgl hfa hla hna hne hnk hng
 go_enter Tryz.func19,Tryz.ntmps19
 go_wp2_with fail
 refine(ref_bounds _ l _ HA.out (by have:=HLL.out;omega)).mono ?_
 rintro e w0 ⟨u0,rfl,t0,x0⟩
 obtain⟨Q,hQ⟩ : ∃P,P=pts l:=⟨_,rfl⟩
 have hql:Q.length≤18:=by rw [hQ];have h:=pts_len l;have:=HLL.out;omega
 rw [←hQ]at t0
 obtain⟨pq,cq,rfl,_⟩:=t0.form
 have T0:=Lib.hid t0
 have X0:=Lib.hid x0
 have HQ:=Lib.hid hQ
 have HQL:=Lib.hid hql
 obtain⟨nq,hnq⟩ : ∃n,n=Q.length:=⟨_,rfl⟩
 rw [←hnq]at T0 ⊢
 clear t0 x0 hQ hql hnq
 go_wp2_with fail
 refine(refWithin_any _ Q 1000000 _ T0.out (by have:=HQL.out;omega) (by constructor <;> omega)).mono ?_
 rintro e w1 ⟨u1,rfl,own1,x1⟩
 have t1:=own1.slice
 have X1:=Lib.hid (X0.out.trans x1)
 obtain⟨P,hP⟩ : ∃P,P=withinL (pts l) 1000000:=⟨_,rfl⟩
 have hpl:P.length≤20:=by
  rw [hP,←HQ.out]
  have h1:=inL_len 1000000 Q
  have h2:=HQL.out
  unfold withinL
  rw [List.length_append,List.length_cons]
  simp only [List.length_cons,List.length_nil]
  omega
 rw [HQ.out,←hP]at t1
 obtain⟨bp,cp,rfl,_,_,hpp⟩:=t1.form
 have T1:=Lib.hid t1
 have HPF:=Lib.hid hpp
 have HOKP:=Lib.hid (show ∀x∈P,okI x from fun x hx=>t1.ints x hx)
 have HPV:=Lib.hid (show ∀i,i+1<P.length→validB P[i]! P[i+1]! = true from fun i hi=>by
  obtain⟨p1,p2,_⟩:=within_law l
  rw [←hP]at p1 p2
  exact pts_valid p1 (fun x hx=>by have:=p2 x hx;omega) hi)
 have T1B:=Lib.hid (show ∀q oo,bp=some ⟨q,oo,none⟩→0<P.length→q<w1.heap.size from fun q oo hq h0=>by
  subst hq
  exact cell_lt (int_at t1 0 h0).1)
 have HREF:=Lib.hid (show refAggRaw es keys aggs l=binUpto (grpG es keys aggs l) P (P.length - 1)from by rw [hP];rfl)
 obtain⟨M,hM⟩ : ∃M,M=P.length:=⟨_,rfl⟩
 rw [←hM]at T1 HPF hpl ⊢
 have HM:=Lib.hid hM
 have AT:=Lib.hid (HA.out.ext X1.out.full)
 have ET:=Lib.hid (HE.out.ext X1.out.full)
 have KT:=Lib.hid (HK.out.ext X1.out.full)
 have GT:=Lib.hid (HG.out.ext X1.out.full)
 clear t1 own1 x1 hP hpp hM HA HE HK HG T0 X0
 go_wp2_with fail
 go_loopg [10,11] M (fun gk vo vi wr=> ∃(k:Nat) (u:Value),k≤M∧(0<k→k<M)∧gk=M - k∧vi = .int .i64 k∧u=vo∧Hid (OwnOf Rep.tup wr (fun _=>True) w1.heap.size 96 u (binUpto (grpG es keys aggs l) P k))∧Hid (Ext w1 wr))
 case atStart=>exact⟨0,_,by omega,by omega,rfl,rfl,rfl,OwnOf.nil _ _ _ _ _,Ext.refl w1⟩
 case round =>
  obtain⟨k,u,hk,hk2,rfl,rfl,rfl,OT,X2⟩:=hrel
  have hw0:IntKind.i64.wrap ((k:Int)+1)=(k:Int)+1:=by rw [IntKind.wrap_i64];omega
  by_cases hlt:k+1<M
  ·have hd:decide ((k:Int)+1<(M:Int))=true:=by simp;omega
   obtain⟨wo,rfl⟩ : ∃z,z=wr:=⟨wr,rfl⟩
   have hkl:k<P.length:=by have:=HM.out;omega
   have hkl2:k+1<P.length:=by have:=HM.out;omega
   obtain⟨bq,op_,rfl⟩:=HPF.out (by decide) (by omega)
   have hpv:=T1.out
   rw [HM.out]at hpv
   obtain⟨cp0,_⟩:=int_at hpv k hkl
   obtain⟨cp1,_⟩:=int_at hpv (k+1) hkl2
   have hbk:binUpto (grpG es keys aggs l) P (k+1)=binUpto (grpG es keys aggs l) P k++(grpG es keys aggs l P[k]!).map fun r=>tupOf r ⟨P[k]!,P[k+1]!⟩:=rfl
   have hval:=HPV.out k hkl2
   rw [getElem!_pos P k hkl,getElem!_pos P (k+1) hkl2]at hbk hval
   have hok:=And.intro (HOKP.out P[k] (List.getElem_mem hkl)) (HOKP.out P[k+1] (List.getElem_mem hkl2))
   have hol:(binUpto (grpG es keys aggs l) P k).length≤400:=Nat.le_trans (binUpto_len _ P 10 (grpG_len es keys aggs l HLL.out) k) (by omega)
   obtain⟨OL,hOL⟩ : ∃z,z=binUpto (grpG es keys aggs l) P k:=⟨_,rfl⟩
   rw [←hOL]at OT hbk hol
   replace cp0:=X2.out.at cp0
   replace cp1:=X2.out.at cp1
   generalize P[k]=px at cp0 hbk hval hok
   generalize P[k+1]=py at cp1 hbk hval hok
   have HBK:=Lib.hid hbk
   have HVAL:=Lib.hid hval
   have HOK:=Lib.hid hok
   have HOL:=Lib.hid hol
   have HBQ:=Lib.hid (Nat.lt_of_lt_of_le (T1B.out bq op_ rfl (by omega)) (Nat.le_refl w1.heap.size))
   have CPX:=Lib.hid (And.intro cp0 cp1)
   have hkM:(k:Int)<(M:Int):=by omega
   have hkM2:k<M:=by omega
   have hi3:(0:Int)≤(k:Int)+1:=by omega
   have hi4:(k:Int)+1<(M:Int):=by omega
   obtain⟨T,hT⟩ : ∃T:Nat→Prop,T=fun q=>wo.heap.size≤q:=⟨_,rfl⟩
   have HTN:=Lib.hid (show ∀wz,Ext wo wz→ ∀q,wz.heap.size≤q→T q from fun wz hz q hq=>by rw [hT];exact Nat.le_trans hz.size hq)
   have HTA:=Lib.hid (show ∀b,Value.ownBlock u=some b→ ¬T b from fun b hb ht=>by
    have h1:=OT.out.lt b hb
    rw [hT]at ht
    omega)
   have e0:=cell_lt cp0
   clear hpv hbk hval hok hol hOL hT cp1
   go_wp2_with fail
   refine(ref_timesliceT (fun _=>True) _ l px _ (fun _ _=>trivial) ((AT.out.ext X2.out.full).ext (full_on wo _ fun _ _=>trivial)) (by have:=HLL.out;omega)).mono ?_
   rintro e w5 ⟨v5,rfl,s5,x5⟩
   have hsl:=slice_le l px
   have hsf:=slice_fitJ HFA.out px
   have hgg:grpG es keys aggs l px=groupR es keys aggs (sortBy cmpRow (sliceRows l px)):=rfl
   obtain⟨RS,hRS⟩ : ∃z,z=sortBy cmpRow (sliceRows l px):=⟨_,rfl⟩
   rw [←hRS]at s5 hsl hsf hgg
   obtain⟨p5,c5,rfl,_⟩:=s5.form
   have S5:=Lib.hid (s5.ext (on_sub _ _))
   have HSL:=Lib.hid (And.intro hsl hsf)
   have HGG:=Lib.hid hgg
   obtain⟨n5,hn5⟩ : ∃n,n=RS.length:=⟨_,rfl⟩
   rw [←hn5]at S5 ⊢
   have X5:=Lib.hid x5
   clear s5 hsl hsf hgg hRS hn5 x5 cp0 e0
   go_wp2_with fail
   refine(refGroup_any _ RS _ es _ keys _ aggs _ S5.out (by have:=HSL.out.1;have:=HLL.out;omega) HSL.out.2 (ET.out.ext (X2.out.trans X5.out).full) HEL.out.1 (KT.out.ext (X2.out.trans X5.out).full) HEL.out.2.1 (GT.out.ext (X2.out.trans X5.out).full) HEL.out.2.2).mono ?_
   rintro e w7 ⟨v7,rfl,s7,x7⟩
   rw [←HGG.out]at s7
   have hgl:=grpG_len es keys aggs l HLL.out px
   obtain⟨GL,hGL⟩ : ∃z,z=grpG es keys aggs l px:=⟨_,rfl⟩
   rw [←hGL]at s7 hgl HBK
   have S7:=Lib.hid (show SliceOf Rep.row (on w7 T) v7 GL from s7.ext (on_mono w7 fun q _ hq=>HTN.out w5 X5.out q hq))
   obtain⟨p7,c7,rfl,_⟩:=s7.form
   obtain⟨n7,hn7⟩ : ∃n,n=GL.length:=⟨_,rfl⟩
   rw [←hn7]at S7 ⊢
   have X7:=Lib.hid (X5.out.trans x7)
   have cp0:=X7.out.at CPX.out.1
   have cp1:=X7.out.at CPX.out.2
   have HGL:=Lib.hid hgl
   have hS0:Ext wo w7.drew∧w7.drew.cell? ⟨bq,op_+k,none⟩=some (.int .i64 px)∧w7.drew.cell? ⟨bq,op_+(k+1),none⟩=some (.int .i64 py):=⟨X7.out.drew,cp0,cp1⟩
   have C1:OL.length+(GL.map fun r=>tupOf r ⟨px,py⟩).length≤maxLen:=by rw [List.length_map];have:=HOL.out;unfold maxLen;omega
   have C2:(OL.length+(GL.map fun r=>tupOf r ⟨px,py⟩).length)*64≤140737488355328:=by rw [List.length_map];have:=HOL.out;omega
   have HC:=Lib.hid (And.intro C1 C2)
   clear s7 hGL hgl x7 cp0 cp1 C1 C2 S5 HSL HGG hn7
   go_wp2_with fail
   go_region_held3 (fun w'=>Ext w1 w'∧w'.cell? ⟨bq,op_+k,none⟩=some (.int .i64 px)∧w'.cell? ⟨bq,op_+(k+1),none⟩=some (.int .i64 py))
    (first |exact⟨X2.out.trans hS0.1,hS0.2.1,hS0.2.2⟩ | with_reducible assumption | with_reducible exact keepE2 (by assumption) x8)
    (first
     |((with_reducible have q8:=O8.out);refine step_append_all Rep.tup (fun _=>True) rfl _ _ 22 rfl w1.heap.size 96 i1 _ 64 Tryz.underlying22 hi1 hz10 hz11 hz12 rfl (by decide) u OL rfl (OT.out.ext X8.out) v8 (GL.map fun r=>tupOf r ⟨px,py⟩) rfl (O8.out.ext (on_mono _ fun q _ hq=>⟨fun e=>HTA.out q e.symm hq,trivial⟩)) HC.out.1 HC.out.2 (X2.out.trans X8.out).size ?_;intro v9 w9 own9 gr9 _;have K9:=keepP2 K8 gr9 (fun q hq=>(OT.out.lt q hq).1) (fun q hq=>by have h1:=(OT.out.lt q hq).1;have h2:=HBQ.out;exact⟨by omega,by omega⟩);have O9:=Lib.hid own9;clear own9 q8)
     |(go_at_call 63;refine(refFromRows_any T _ GL px py _ (by exact HTN.out _ hS0.1) (by exact S7.out.ext ((Ext.refl _).drew.sub _)) (by have:=HGL.out;omega) HOK.out HVAL.out).mono ?_;rintro e w8 ⟨v8,rfl,s8,x8⟩;have O8:=Lib.hid s8;have X8:=Lib.hid (hS0.1.trans x8);have K8:Ext w1 w8∧w8.cell? ⟨bq,op_+k,none⟩=some (.int .i64 px)∧w8.cell? ⟨bq,op_+(k+1),none⟩=some (.int .i64 py):=⟨X2.out.trans X8.out,x8.at hS0.2.1,x8.at hS0.2.2⟩;clear s8)
     |fail)
   all_goals
    have X12:=Lib.hid K9.1
    clear hS0
    go_wp2_with fail
    go_roundg (M - (k+1))
    case measure=>omega
    case rel=>exact⟨k+1,_,by omega,by omega,rfl,by go_num,rfl,by show OwnOf _ _ _ _ _ _ _;rw [HBK.out];exact O9.out,X12.out⟩
  ·have hd : ¬(k:Int)+1<(M:Int):=by omega
   have hkM:k=P.length - 1:=by have:=HM.out;omega
   have hall:binUpto (grpG es keys aggs l) P k=refAggRaw es keys aggs l:=by rw [HREF.out,hkM]
   have hol:(binUpto (grpG es keys aggs l) P k).length≤400:=Nat.le_trans (binUpto_len _ P 10 (grpG_len es keys aggs l HLL.out) k) (by omega)
   have hop2:(pts (binUpto (grpG es keys aggs l) P k)).length≤1000:=by
    refine Nat.le_trans (asc_len (pts_law _).1 (xs:=P) fun x hx=>binUpto_bnd _ P k (by omega) x (((pts_law _).2.1 x).1 hx)) ?_
    have:=HM.out
    omega
   rw [hall]at OT hol hop2
   have HOL:=Lib.hid (And.intro hol hop2)
   clear hkM hall hol hop2
   go_wp2_with fail
   refine(refNormT_any _ _ _ OT.out.slice (by have:=HOL.out;omega) HOL.out.2).mono ?_
   rintro e w12 ⟨v12,rfl,s12,x12⟩
   have S12:=Lib.hid s12
   have X12:=Lib.hid ((X1.out.trans X2.out).trans x12)
   clear s12 x12
   go_wp2_with fail
   go_ret
   exact⟨_,rfl,S12.out,X12.out⟩
end Go.Proofs.YtkddkbpoefidpaaGreatDoor
namespace Go.Proofs.YtkddkbpoefidpaaGreatDoor
open Go.RowKit
set_option maxHeartbeats 1000000 in
theorem row_ref (p:Option Addr) (n c:Nat) (q:Option Addr) (m d:Nat) (f t:Int) (w:World) :
  Calls Tryz.prog 51 #[.agg #[.slice p n c,.int .i64 f,.int .i64 t,.slice q m d]] w fun e w'=>e = .returned (.agg #[.slice p n c,.slice q m d])∧Ext w w':=by
 go_enter Tryz.func51,Tryz.ntmps51
 go_wp2_with fail
 exact bodyPost_ret (v:= .agg #[.slice p n c,.slice q m d]) (by simp [results,Tryz.results51,go_sem]) rfl ⟨rfl,((Ext.refl w).alloc _).alloc _⟩
set_option maxRecDepth 100000 in
set_option maxHeartbeats 4000000 in
theorem same_tuples (va vb:Value) (l:List Tup) (w:World) (ha:SliceOf Rep.tup w.cell? va l) (hb:SliceOf Rep.tup w.cell? vb l) :
  Calls Tryz.prog 17 #[va,vb] w fun e w'=>e = .returned (.bool true)∧Ext w w':=by
 obtain⟨pa,ca,rfl,ha1,ha2,ha3⟩:=ha.form
 obtain⟨pb,cb,rfl,hb1,hb2,hb3⟩:=hb.form
 unfold maxLen at ha2 hb2
 obtain⟨N,hN⟩ : ∃N,N=l.length:=⟨_,rfl⟩
 rw [←hN]at ha1 ha3 hb1 hb3 ha hb ⊢
 have HN:=Lib.hid hN
 have HA:=Lib.hid ha
 have HB:=Lib.hid hb
 have HP:=Lib.hid (And.intro ha3 hb3)
 clear ha hb hN ha3 hb3
 go_enter Tryz.func17,Tryz.ntmps17
 go_wp2_with fail
 go_loopg [5] N (fun gk i wr=> ∃k:Nat,k≤N∧gk=N - k∧i = .int .i64 k∧Ext w wr)
 case atStart=>exact⟨0,by omega,rfl,rfl,Ext.refl w⟩
 case round =>
  obtain⟨k,hk,rfl,rfl,hx⟩:=hrel
  by_cases hlt:k<N
  ·have hkl:k<l.length:=by have:=HN.out;omega
   obtain⟨ba,oa,rfl⟩:=HP.out.1 (by decide) (by omega)
   obtain⟨bb,ob,rfl⟩:=HP.out.2 (by decide) (by omega)
   have hva:=HA.out
   have hvb:=HB.out
   rw [HN.out]at hva hvb
   obtain⟨u1,u2,c1,c2,c3,c4,s1,s2,_,_⟩:=tup_at hva k hkl
   obtain⟨v1,v2,d1,d2,d3,d4,t1,t2,_,_⟩:=tup_at hvb k hkl
   generalize l[k]=x at c2 c3 d2 d3 s1 s2 t1 t2
   replace c1:=hx.at c1
   replace c2:=hx.at c2
   replace c3:=hx.at c3
   replace c4:=hx.at c4
   replace d1:=hx.at d1
   replace d2:=hx.at d2
   replace d3:=hx.at d3
   replace d4:=hx.at d4
   obtain⟨p1,q1,rfl,_⟩:=s1.form
   obtain⟨p2,q2,rfl,_⟩:=s2.form
   obtain⟨p3,q3,rfl,_⟩:=t1.form
   obtain⟨p4,q4,rfl,_⟩:=t2.form
   have S1:=Lib.hid (s1.ext hx.full)
   have S2:=Lib.hid (s2.ext hx.full)
   have T1:=Lib.hid (t1.ext hx.full)
   have T2:=Lib.hid (t2.ext hx.full)
   obtain⟨xv,xf,xt,xl⟩:=x
   dsimp only at c2 c3 d2 d3 c1 c4 d1 d4 S1 S2 T1 T2
   obtain⟨n1,hn1⟩ : ∃n,n=xv.length:=⟨_,rfl⟩
   obtain⟨n2,hn2⟩ : ∃n,n=xl.length:=⟨_,rfl⟩
   have HX0:=Lib.hid hx
   rw [←hn1]at c1 d1 S1 T1
   rw [←hn2]at c4 d4 S2 T2
   have hd:decide ((k:Int)<(N:Int))=true:=by simp;omega
   have hd1:(k:Int)<(N:Int):=by omega
   have hS0:Ext wr wr.drew∧wr.drew.cell? ⟨ba,oa+k*4,none⟩=some (.slice p1 n1 q1)∧wr.drew.cell? ⟨ba,oa+k*4+1,none⟩=some (.int .i64 xf)∧wr.drew.cell? ⟨ba,oa+k*4+2,none⟩=some (.int .i64 xt)∧wr.drew.cell? ⟨ba,oa+k*4+3,none⟩=some (.slice p2 n2 q2)∧wr.drew.cell? ⟨bb,ob+k*4,none⟩=some (.slice p3 n1 q3)∧wr.drew.cell? ⟨bb,ob+k*4+1,none⟩=some (.int .i64 xf)∧wr.drew.cell? ⟨bb,ob+k*4+2,none⟩=some (.int .i64 xt)∧wr.drew.cell? ⟨bb,ob+k*4+3,none⟩=some (.slice p4 n2 q4):=⟨(Ext.refl wr).drew,c1,c2,c3,c4,d1,d2,d3,d4⟩
   clear s1 s2 t1 t2 hn1 hn2 hva hvb hx c1 c2 c3 c4 d1 d2 d3 d4
   go_wp2_with fail
   go_region_held3 (fun w'=>Ext wr w'∧w'.cell? ⟨ba,oa+k*4,none⟩=some (.slice p1 n1 q1)∧w'.cell? ⟨ba,oa+k*4+1,none⟩=some (.int .i64 xf)∧w'.cell? ⟨ba,oa+k*4+2,none⟩=some (.int .i64 xt)∧w'.cell? ⟨ba,oa+k*4+3,none⟩=some (.slice p2 n2 q2)∧w'.cell? ⟨bb,ob+k*4,none⟩=some (.slice p3 n1 q3)∧w'.cell? ⟨bb,ob+k*4+1,none⟩=some (.int .i64 xf)∧w'.cell? ⟨bb,ob+k*4+2,none⟩=some (.int .i64 xt)∧w'.cell? ⟨bb,ob+k*4+3,none⟩=some (.slice p4 n2 q4))
    (first |with_reducible assumption | with_reducible exact keepE8 (by assumption) hx2)
    (first
     |(go_at_call 51;refine(row_ref _ _ _ _ _ _ _ _ _).mono ?_;rintro e w2 ⟨rfl,hx2⟩)
     |(go_at_call 50;refine(ref_sameRow _ _ _ _ ⟨xv,xl⟩ ⟨xv,xl⟩ _ (by exact S1.out.ext (And.left ‹Ext wr _∧_›).full) (by exact T1.out.ext (And.left ‹Ext wr _∧_›).full) (by exact S2.out.ext (And.left ‹Ext wr _∧_›).full) (by exact T2.out.ext (And.left ‹Ext wr _∧_›).full)).mono ?_;rintro e w2 ⟨rfl,hg2⟩;have hx2:=Gro.ext hg2))
   all_goals (obtain⟨hfin,_⟩:= ‹Ext wr _∧_›)
   all_goals (have HF:=Lib.hid (HX0.out.trans hfin))
   all_goals (have hq:eqB (⟨xv,xl⟩:Row) ⟨xv,xl⟩=true:=eqB_iff.2 rfl)
   all_goals rw [hq]
   all_goals go_wp2_with fail
   all_goals
    go_roundg (N - (k+1))
    case measure=>omega
    case rel=>exact⟨k+1,by omega,rfl,by go_num,HF.out⟩
  ·have hd : ¬(k:Int)<(N:Int):=by omega
   go_wp2_with fail
   go_ret
   exact⟨rfl,hx⟩
end Go.Proofs.YtkddkbpoefidpaaGreatDoor
namespace Go.Proofs.YtkddkbpoefidpaaGreatDoor
open Go.RowKit Go.Maps Go.ChangeMaps Go.MapKept
open Go.WideMaps (KeyLaw)
open Go.WideElems (Fit)
end Go.Proofs.YtkddkbpoefidpaaGreatDoor
namespace Go.Proofs.YtkddkbpoefidpaaGreatDoor
open Go.RowKit Go.Maps
noncomputable def perKey (p:Per):Lit:= .string (keyBytes [.int .i64 p.from_,.int .i64 p.to_])
open Classical in
noncomputable def ofPer (l:List Tup) (p:Per):List Tup:=l.filter fun y=>decide (tupPer y=p)
structure CInv (w:World) (S:Nat→Prop) (base:Nat) (T:TypeId) (l:List Tup) (mp:Lit→Option Value):Prop where
 ok : ∀t∈l,okI (tupPer t).from_∧okI (tupPer t).to_
 p1 : ∀kl v,mp kl=some v→ ∃t∈l,kl=perKey (tupPer t)∧OwnOf Rep.tup w S base T v (ofPer l (tupPer t))
 p2 : ∀t∈l,(mp (perKey (tupPer t))).isSome=true
 ap : ∀kl kl' v v',kl≠kl'→mp kl=some v→mp kl'=some v'→Apart v v'
section
variable {w w':World} {S:Nat→Prop} {base:Nat} {T:TypeId} {l:List Tup} {mp:Lit→Option Value}
end
end Go.Proofs.YtkddkbpoefidpaaGreatDoor
namespace Go.Proofs.YtkddkbpoefidpaaGreatDoor
open Go.RowKit Go.Maps
noncomputable def aliUpto (tr:List Val→Bool) (A B:List Tup) (k:Nat):List Tup:=(A.take k).flatMap (alignRow tr B)
def rowUpto (tr:List Val→Bool) (x:Tup) (L:List Tup) (j:Nat):List Tup:=((L.take j).map fun y=>tupOf (pairRow (tupRow x) (tupRow y)) (tupPer x)).filter fun z=>tr z.vals
end Go.Proofs.YtkddkbpoefidpaaGreatDoor
namespace Go.Proofs.YtkddkbpoefidpaaGreatDoor
open Go.RowKit Go.Maps
end Go.Proofs.YtkddkbpoefidpaaGreatDoor
namespace Go.Proofs.YtkddkbpoefidpaaGreatDoor
open Go.RowKit
def nullW (width:Int):Nat:=(min (max width 0) 64).toNat
end Go.Proofs.YtkddkbpoefidpaaGreatDoor
namespace Go.Proofs.YtkddkbpoefidpaaGreatDoor
open Go.RowKit
def awkE:List ExprI:= [⟨1,0,0,0,⟨3,1,ByteArray.empty⟩⟩]
theorem awk_tr (row:List Val):trE awkE 0 row=true:=rfl
def awkA (v:List Val):Tup:=⟨v,0,9,[1]⟩
def awkB (v:List Val):Tup:=⟨v,5,20,[2]⟩
end Go.Proofs.YtkddkbpoefidpaaGreatDoor
namespace Go.Proofs.YtkddkbpoefidpaaGreatDoor
open Go.RowKit
end Go.Proofs.YtkddkbpoefidpaaGreatDoor
namespace Go.Proofs.YtkddkbpoefidpaaGreatDoor
open Go.RowKit
def constV (kind x:Int):Val:=if kind=1 then genV0 (x % 6)else if kind=2 then genV1 (x % 6)else if kind=3 then⟨3,x % 2,ByteArray.empty⟩else nV
end Go.Proofs.YtkddkbpoefidpaaGreatDoor
namespace Go.Proofs.YtkddkbpoefidpaaGreatDoor
open Go.RowKit
structure PIn (w0 wr:World) (bx base:Nat) (T:TypeId) (x0 x1 x2 x3:Int) (u0 u:Value) (es:List ExprI):Prop where
 own:OwnOf Rep.expr wr (fun _=>True) base T u es
 chg:Chg (fun k=>u0.ownBlock=some k) w0 wr
 b0:wr.cell? ⟨bx,0,none⟩=some (.int .u16 x0)
 b1:wr.cell? ⟨bx,1,none⟩=some (.int .u16 x1)
 b2:wr.cell? ⟨bx,2,none⟩=some (.int .u16 x2)
 b3:wr.cell? ⟨bx,3,none⟩=some (.int .u16 x3)
 ne : ∀k,u.ownBlock=some k→k≠bx∧(u0.ownBlock=some k∨w0.heap.size≤k)
 hb:base≤wr.heap.size
section
variable {w0 wr w':World} {bx base:Nat} {T:TypeId} {x0 x1 x2 x3:Int} {u0 u:Value} {es ys:List ExprI}
end
def selE (kinds:List Int) (x2 x3:Int) (i k:Nat):ExprI:=if kinds.getD i 0=kinds.getD k 0∧x2 % 5<3 then⟨2,0,0,k,nV⟩else⟨1,0,0,0,constV (kinds.getD i 0) x3⟩
def predL (kinds:List Int) (x0 x1 x2 x3:Int) (n:Nat):List ExprI :=
 [⟨2,0,0,pickI x0 kinds.length,nV⟩]++if x2 % 5=0 then [⟨11,n,0,0,nV⟩]else
  [selE kinds x2 x3 (pickI x0 kinds.length).toNat (pickI x1 kinds.length).toNat,⟨if x2 % 2=0 then 7 else 6,n,n+1,0,nV⟩]++if x3 % 4=0 then [⟨10,n+2,0,0,nV⟩]else []
def PredPost (u:Value) (w:World) (base:Nat) (full:List ExprI) (e:Ending) (w':World):Prop :=
 ∃u',e = .returned (.tuple #[u',.int .i64 ((full.length - 1:Nat):Int)])∧OwnOf Rep.expr w' (fun _=>True) base 77 u' full∧Chg (fun k=>u.ownBlock=some k) w w'∧ ∀k,u'.ownBlock=some k→u.ownBlock=some k∨w.heap.size≤k
end Go.Proofs.YtkddkbpoefidpaaGreatDoor
namespace Go.Proofs.YtkddkbpoefidpaaGreatDoor
open Go.RowKit
end Go.Proofs.YtkddkbpoefidpaaGreatDoor
namespace Go.Proofs.YtkddkbpoefidpaaGreatDoor
open Go.RowKit
end Go.Proofs.YtkddkbpoefidpaaGreatDoor
namespace Go.Proofs.YtkddkbpoefidpaaGreatDoor
open Go.RowKit Go.Deep Go.ChangeShapes Go.WideShapes Go.ChangeAt
theorem cellsVal:Tryz.prog.cellsOf 73=3:=by kernel_rfl
theorem cellsInt:Tryz.prog.cellsOf 3=1:=by kernel_rfl
theorem cellsInt64:Tryz.prog.cellsOf 2=1:=by kernel_rfl
theorem cellsStr:Tryz.prog.cellsOf 9=1:=by kernel_rfl
theorem cellsVals:Tryz.prog.cellsOf 68=1:=by kernel_rfl
theorem cellsInts:Tryz.prog.cellsOf 24=1:=by kernel_rfl
theorem list_three {α:Type} {l:List α} (h:l.length=3) : ∃a b c,l = [a,b,c]:=by
 match l,h with
 |[a,b,c],_=>exact⟨a,b,c,rfl⟩
theorem opens_val:Opens Tryz.prog 73 Rep.val:=by
 intro H enc w base spare held fuel cs x h
 obtain⟨y0,y1,y2,n,_,hl,h0,h1,h2⟩:=trod_struct3 Tryz.underlying73 h
 rw [cellsVal]at hl
 obtain⟨c0,c1,c2,rfl⟩:=list_three hl
 simp [cellsInt,cellsInt64,cellsStr]at h0 h1 h2
 obtain⟨a0,e0,_,w0⟩:=DataW.trod_int Tryz.underlying3 h0
 obtain⟨a1,e1,_,w1⟩:=DataW.trod_int Tryz.underlying2 h1
 obtain⟨a2,e2,_,w2⟩:=DataW.trod_string Tryz.underlying9 h2
 simp at e0 e1 e2
 subst e0 e1 e2
 exact⟨⟨a0,a1,a2⟩,rfl,wf_i64 w0,wf_i64 w1,w2⟩
theorem opens_ints:Opens Tryz.prog 24 (Rep.slice Rep.int):=opens_slice Tryz.underlying24 cellsInt (opens_int Tryz.underlying3)
theorem open_arg {α:Type} {P:Program} {t e:TypeId} {R:Rep α} (ht:P.underlying t=some (.slice e)) (hR:Opens P t (Rep.slice R)) {H:Type} {enc:TypeId×Value→H} {w:World} {base:Nat} {spare:Nat→Bool} {held:Bool} {v:Value} {d:DataW H} {ps:List MemPlace} {r:Reach} {b0:Nat}
  (hv:Value.okWide P w r b0 t v) (h:DataW.Trod enc P w base spare held t v d ps) : ∃xs,SliceOf R w.cell? v xs:=by
 obtain⟨a,n,c,rfl⟩:=okWide_slice ht hv
 obtain⟨m,hm⟩:=h
 obtain⟨xs,v',e,hs⟩:=hR H enc w base spare held m _ _ hm
 simp [Value.cells]at e
 subst e
 exact⟨xs,hs⟩
end Go.Proofs.YtkddkbpoefidpaaGreatDoor
namespace Go.Proofs.YtkddkbpoefidpaaGreatDoor
open Go.RowKit Go.Deep Go.ChangeShapes Go.WideShapes Go.ChangeAt
theorem cellsTup:Tryz.prog.cellsOf 96=4:=by kernel_rfl
theorem cellsPer:Tryz.prog.cellsOf 94=2:=by kernel_rfl
theorem cellsExpr:Tryz.prog.cellsOf 77=7:=by kernel_rfl
theorem list_fourT {α:Type} {l:List α} (h:l.length=4) : ∃a b c d,l = [a,b,c,d]:=by
 match l,h with
 |[a,b,c,d],_=>exact⟨a,b,c,d,rfl⟩
theorem list_seven {α:Type} {l:List α} (h:l.length=7) : ∃a b c d e f g,l = [a,b,c,d,e,f,g]:=by
 match l,h with
 |[a,b,c,d,e,f,g],_=>exact⟨a,b,c,d,e,f,g,rfl⟩
theorem opens_expr:Opens Tryz.prog 77 Rep.expr:=by
 intro H enc w base spare held fuel cs x h
 obtain⟨ys,n,_,rfl,hl,hlen,hf⟩:=DataW.trod_struct Tryz.underlying77 h
 rw [cellsExpr]at hl
 obtain⟨c0,c1,c2,c3,c4,c5,c6,rfl⟩:=list_seven hl
 match ys,hlen with
 |[y0,y1,y2,y3,y4],_ =>
  have h0:=hf 0 _ rfl
  have h1:=hf 1 _ rfl
  have h2:=hf 2 _ rfl
  have h3:=hf 3 _ rfl
  have h4:=hf 4 _ rfl
  simp [cellsInt,cellsVal]at h0 h1 h2 h3 h4
  obtain⟨a0,e0,_,w0⟩:=DataW.trod_int Tryz.underlying3 h0
  obtain⟨a1,e1,_,w1⟩:=DataW.trod_int Tryz.underlying3 h1
  obtain⟨a2,e2,_,w2⟩:=DataW.trod_int Tryz.underlying3 h2
  obtain⟨a3,e3,_,w3⟩:=DataW.trod_int Tryz.underlying3 h3
  obtain⟨⟨vk,vn,vs⟩,e4,ho⟩:=opens_val H enc w base spare held n _ _ h4
  simp at e0 e1 e2 e3 e4
  obtain⟨rfl,rfl,rfl⟩:=e4
  subst e0 e1 e2 e3
  exact⟨⟨a0,a1,a2,a3,⟨vk,vn,vs⟩⟩,rfl,⟨wf_i64 w0,wf_i64 w1,wf_i64 w2,wf_i64 w3⟩,ho⟩
theorem opens_exprs:Opens Tryz.prog 23 (Rep.slice Rep.expr):=opens_slice Tryz.underlying23 cellsExpr opens_expr
def fewN (n:Nat) (l:List Tup):Prop:=l.length≤n∧ ∀t∈l,t.vals.length≤6∧t.lin.length≤6
set_option maxHeartbeats 2000000 in
theorem fewTups_any (va:Value) (n:Nat) (hn:n≤1000) (l:List Tup) (w:World) (ha:SliceOf Rep.tup w.cell? va l) :
  Calls Tryz.prog 15 #[va,.int .i64 n] w fun e w'=> ∃b,e = .returned (.bool b)∧(b=true→fewN n l)∧w=w':=by
 obtain⟨pa,ca,rfl,ha1,ha2,ha3⟩:=ha.form
 unfold maxLen at ha2
 go_enter Tryz.func15,Tryz.ntmps15
 go_wp2_with fail
 go_loopg [5] l.length (fun gk i wr=> ∃k:Nat,k≤l.length∧gk=l.length - k∧i = .int .i64 k∧k≤n+1∧Hid (∀t∈l.take k,t.vals.length≤6∧t.lin.length≤6)∧w=wr)
 case atStart=>exact⟨0,by omega,rfl,rfl,by omega,(fun t ht=>by simp at ht),rfl⟩
 case round =>
  obtain⟨k,hk,rfl,rfl,hkn,HK,rfl⟩:=hrel
  by_cases hlt:k<l.length∧k≤n
  ·obtain⟨hlt,hlt2⟩:=hlt
   obtain⟨ba,oa,rfl⟩:=ha3 (by decide) (by omega)
   obtain⟨u1,u2,c1,_,_,c2,s1,s2,_,_⟩:=tup_at ha k hlt
   obtain⟨p1,q1,rfl,hp1,hp2,_⟩:=s1.form
   obtain⟨p2,q2,rfl,hp3,hp4,_⟩:=s2.form
   have hnx:(l[k].vals.length≤6∧l[k].lin.length≤6)→ ∀t∈l.take (k+1),t.vals.length≤6∧t.lin.length≤6:=fun h t ht=>by
    rw [List.take_succ_eq_append_getElem hlt]at ht
    rcases List.mem_append.1 ht with ht | ht
    ·exact HK.out t ht
    ·rw [List.mem_singleton]at ht;subst ht;exact h
   generalize l[k].vals.length=n1 at c1 hp1 hnx
   generalize l[k].lin.length=n2 at c2 hp3 hnx
   have HX:=Lib.hid hnx
   clear hnx
   unfold maxLen at hp2 hp4
   have hd:decide ((k:Int)<(l.length:Int))=true:=by simp;omega
   have hdb:decide ((k:Int)≤(n:Int))=true:=by simp;omega
   have hd1:(k:Int)<(l.length:Int):=by omega
   clear s1 s2 ha ha3
   by_cases hsh:n1≤6∧n2≤6
   ·have hb1:decide ((n1:Int)>6)=false:=by simp;omega
    have hb2:decide ((n2:Int)>6)=false:=by simp;omega
    have hb3:decide ((6:Int)<(n1:Int))=false:=by simp;omega
    have hb4:decide ((6:Int)<(n2:Int))=false:=by simp;omega
    have HNX:=Lib.hid (HX.out hsh)
    clear hsh
    go_wp2_with fail
    go_roundg (l.length - (k+1))
    case measure=>omega
    case rel=>exact⟨k+1,by omega,rfl,by go_num,by omega,HNX.out,rfl⟩
   ·by_cases hv6:n1≤6
    ·have hb1:decide ((n1:Int)>6)=false:=by simp;omega
     have hb2:decide ((n2:Int)>6)=true:=by simp;omega
     have hb3:decide ((6:Int)<(n1:Int))=false:=by simp;omega
     have hb4:decide ((6:Int)<(n2:Int))=true:=by simp;omega
     clear hsh hv6
     go_wp2_with fail
     go_ret
     exact⟨_,rfl,by simp,rfl⟩
    ·have hb1:decide ((n1:Int)>6)=true:=by simp;omega
     have hb3:decide ((6:Int)<(n1:Int))=true:=by simp;omega
     clear hsh hv6
     go_wp2_with fail
     go_ret
     exact⟨_,rfl,by simp,rfl⟩
  ·by_cases hk3:k<l.length
   ·have hd:decide ((k:Int)<(l.length:Int))=true:=by simp;omega
    have hdb:decide ((k:Int)≤(n:Int))=false:=by simp;omega
    go_wp2_with fail
    go_ret
    exact⟨_,rfl,fun h=>absurd h (by simp;omega),rfl⟩
   ·have hd:decide ((k:Int)<(l.length:Int))=false:=by simp;omega
    have:k=l.length:=by omega
    subst this
    go_wp2_with fail
    go_ret
    exact⟨_,rfl,fun h=>⟨by simpa using h,fun t ht=>HK.out t (by rw [List.take_length];exact ht)⟩,rfl⟩
end Go.Proofs.YtkddkbpoefidpaaGreatDoor
namespace Go.Proofs.YtkddkbpoefidpaaGreatDoor
open Go.RowKit
theorem fewN_T {n:Nat} {l:List Tup} (h:fewN n l) (hs : ∀t∈l,∀v∈t.vals,v.s.size≤1048576):fewT l:=fun t ht=>⟨by have:=h.2 t ht;omega,hs t ht,by have:=h.2 t ht;omega⟩
end Go.Proofs.YtkddkbpoefidpaaGreatDoor
