/- joined texts of a proof: SortedV, BagM, BagN, GenC, SplitW, PlainB -/
import Derived.RangeFuncBox
import Derived.RangeFuncLeaves
import Derived.Shelf.Abstract
import Derived.WalkKit
import Derived.OwnWalkIn
import Derived.TacticsInMore
import Derived.LoopNIn
import Derived.LoopIn
import Derived.Maps.AppendAt
import Derived.Test.YtkddkbpoefidpaaGreatDoorKI03
import Derived.Deep.RegionLaw
import Derived.Laws.OwnMore
import Derived.OneCell
import Derived.Test.YtkddkbpoefidpaaGreatDoorKI04
import Derived.Test.YtkddkbpoefidpaaGreatDoorKI05
import Derived.Test.YtkddkbpoefidpaaGreatDoorKI08
import Derived.Test.YtkddkbpoefidpaaGreatDoorKI09
import Derived.Test.YtkddkbpoefidpaaGreatDoorKI13
import Derived.Deep.DeepCutAuto
import Derived.Test.YtkddkbpoefidpaaGreatDoorKI17
namespace Go.Proofs.YtkddkbpoefidpaaGreatDoor
open Go.RowKit Go.Shelf
attribute [local go_sem] Oper.semAt_some
def uptoF {α:Type} (f:Nat→α) (k:Nat):List α:=(List.range k).map f
theorem uptoF_succ {α:Type} (f:Nat→α) (k:Nat):uptoF f (k+1)=uptoF f k ++ [f k]:=by simp [uptoF,List.range_succ]
theorem uptoF_length {α:Type} (f:Nat→α) (k:Nat):(uptoF f k).length=k:=by simp [uptoF]
theorem uptoF_take (zs:List Int) {k:Nat} (hk:k≤zs.length):uptoF (fun j=>zs[j]?.getD 0) k=zs.take k:=by
 apply List.ext_getElem
 ·simp [uptoF,hk]
 ·intro i h1 h2
  have:i<zs.length:=by simp [uptoF]at h1;omega
  simp [uptoF,this]
theorem uptoF_all (zs:List Int):uptoF (fun j=>zs[j]?.getD 0) zs.length=zs:=by rw [uptoF_take zs (Nat.le_refl _),List.take_length]
set_option maxRecDepth 100000 in
set_option maxHeartbeats 2000000 in
theorem values1_in (F:Fence) (n:Nat) (h7:F.fn 250) (hro:F.round=none) (hn:1≤n) (l Bs n₀ b off len cap:Nat) (zs:List Int) (hreach:len*8≤140737488351232) (hb:b<n₀) (J Jx:List Int→World→Prop)
  (hY : ∀pre x W,J pre W→pre.length<len→YieldAt F (n - 1) Tryz.prog l #[.int .i64 x] W fun e W' =>
   (e = .returned (.bool true)∧J (pre ++ [x]) W'∧Below n₀ W W')∨(e = .returned (.bool false)∧Jx (pre ++ [x]) W'))
  (W:World) (hBs:W.cell? ⟨Bs,0,none⟩=some (.slice (some ⟨b,off,none⟩) len cap)) (hc : ∀j,j<len→W.cell? ⟨b,off+j,none⟩=some (.int .i64 (zs[j]?.getD 0))) (h0:J [] W) :
  CallsIn F n Tryz.prog 250 #[.func (.yield l) #[] #[],.pointer (some ⟨Bs,0,none⟩)] W fun e W'=>(∃v,e = .returned v) ∧
   ((∃ys,ys=uptoF (fun j=>zs[j]?.getD 0) len∧J ys W')∨(∃pre,(∃k,k≤len∧pre=uptoF (fun j=>zs[j]?.getD 0) k)∧Jx pre W')):=by
 refine callsIn_of_wp Tryz.func250 rfl h7 ?_ hro
 simp only [Tryz.ntmps250,List.size_toArray,List.length_cons,List.length_nil,Nat.reduceAdd,Nat.reduceSub,Array.replicate_succ,Array.replicate_zero,List.push_toArray,List.append_toArray,List.nil_append,List.cons_append]
 gi_wp2
 gi_loopw [7] (fun i wr=> ∃k:Nat,k≤len∧i = .int .i64 k∧J (uptoF (fun j=>zs[j]?.getD 0) k) wr∧Below n₀ W wr)
  (fun i _=>len - (intOf i).toNat)
 case atStart=>exact⟨0,Nat.zero_le _,rfl,h0,Below.refl _ _⟩
 case round =>
  obtain⟨k,hk,rfl,hJs,hnx⟩:=hrel
  have hcx:k<len→wr.cell? ⟨b,off+k,none⟩=some (.int .i64 (zs[k]?.getD 0)):=fun h=>(hnx.cell (p:=⟨b,off+k,none⟩) hb).trans (hc k h)
  by_cases hlt:k<len
  ·obtain⟨fn,tmps,assign,body,hy,hR⟩:=hY _ (zs[k]?.getD 0) wr hJs (by rw [uptoF_length];exact hlt)
   have hcx':=hcx hlt
   gi_wp2
   refine hR.mono ?_
   rintro e W3 (⟨rfl,hJ3,hk3⟩ | ⟨rfl,hJx3⟩)
   · gi_wp2
     go_roundw
     case rel=>exact⟨k+1,by omega,by simp,by rw [uptoF_succ];exact hJ3,hnx.trans hk3⟩
     case measure=>simp [intOf];omega
   · gi_wp2
     refine bodyPost_ret (results_none rfl _ _ _) rfl ?_
     exact⟨⟨_,rfl⟩,.inr ⟨_,⟨k+1,by omega,(uptoF_succ _ _).symm⟩,hJx3⟩⟩
  ·obtain rfl:k=len:=by omega
   gi_wp2
   go_end0
   exact⟨⟨_,rfl⟩,.inl ⟨_,rfl,hJs⟩⟩
def IntsAt (n₀:Nat) (W:World) (sv:Value) (zs:List Int):Prop :=
 ((∃p c,sv = .slice p 0 c)∧zs = [])∨ ∃b off cap,sv = .slice (some ⟨b,off,none⟩) zs.length cap∧b<n₀∧ ∀j,j<zs.length→W.cell? ⟨b,off+j,none⟩=some (.int .i64 (zs[j]?.getD 0))
theorem IntsAt.below {n₀:Nat} {A B:World} (h:Below n₀ A B) {sv:Value} {zs:List Int}:IntsAt n₀ A sv zs→IntsAt n₀ B sv zs
 |.inl e=> .inl e
 |.inr ⟨b,off,cap,e,hb,hc⟩=> .inr ⟨b,off,cap,e,hb,fun j hj=>(h.cell (p:=⟨b,off+j,none⟩) hb).trans (hc j hj)⟩
set_option maxRecDepth 100000 in
set_option maxHeartbeats 1000000 in
theorem values1_nil (F:Fence) (n:Nat) (h7:F.fn 250) (hro:F.round=none) (l Bs:Nat) (p:Option Addr) (cap:Nat) (J:List Int→World→Prop) (W:World) (hBs:W.cell? ⟨Bs,0,none⟩=some (.slice p 0 cap)) (h0:J [] W) :
  CallsIn F n Tryz.prog 250 #[.func (.yield l) #[] #[],.pointer (some ⟨Bs,0,none⟩)] W fun e W'=>(∃v,e = .returned v)∧J [] W':=by
 refine callsIn_of_wp Tryz.func250 rfl h7 ?_ hro
 simp only [Tryz.ntmps250,List.size_toArray,List.length_cons,List.length_nil,Nat.reduceAdd,Nat.reduceSub,Array.replicate_succ,Array.replicate_zero,List.push_toArray,List.append_toArray,List.nil_append,List.cons_append]
 gi_wp2
 gi_loopw [7] (fun i wr=>i = .int .i64 0∧J [] wr) (fun _ _=>0)
 case atStart=>exact⟨rfl,h0⟩
 case round =>
  obtain⟨rfl,hJs⟩:=hrel
  gi_wp2
  go_end0
  exact⟨⟨_,rfl⟩,hJs⟩
theorem values_stops (F:Fence) (n:Nat) (h7:F.fn 250) (hro:F.round=none) (hn:1≤n) (Bs n₀:Nat) (sv:Value) (zs:List Int) (hreach:zs.length*8≤140737488351232) (w:World) (hBs:Bs<w.heap.size) (hn₀:n₀≤w.heap.size)
  (hc:w.cell? ⟨Bs,0,none⟩=some sv) (hI:IntsAt n₀ w sv zs) :
  SeqStopsK F n Tryz.prog 250 #[.pointer (some ⟨Bs,0,none⟩)] (fun x:Int=> #[Value.int .i64 x]) (Below n₀) (fun ys=>ys=zs) (fun pre=>pre <+: zs) zs.length w:=fun l J Jx W hW _ _ hY h0=>by
 have hc':=(hW.cell (p:=⟨Bs,0,none⟩) hBs).trans hc
 rcases hI.below (hW.mono hn₀)with ⟨⟨p,c,rfl⟩,rfl⟩ | ⟨b,off,cap,rfl,hb,hcs⟩
 ·exact(values1_nil F n h7 hro l Bs p c J W hc' h0).mono fun e W' ⟨he,hj⟩=>⟨he,.inl ⟨_,rfl,hj⟩⟩
 ·refine(values1_in F n h7 hro hn l Bs n₀ b off zs.length cap zs hreach hb J Jx hY W hc' hcs h0).mono ?_
  rintro e W' ⟨he,⟨ys,rfl,hj⟩ | ⟨pre,⟨k,hk,rfl⟩,hj⟩⟩
  ·exact⟨he,.inl ⟨_,uptoF_all zs,hj⟩⟩
  ·exact⟨he,.inr ⟨_,by rw [uptoF_take zs hk];exact List.take_prefix _ _,hj⟩⟩
set_option maxRecDepth 100000 in
set_option maxHeartbeats 4000000 in
theorem appendSeq_in (F:Fence) (n:Nat) (h3:F.fn 298) (h5:F.fn 250) (hro:F.round=none) (hn:3≤n) (Bs n₀:Nat) (sv:Value) (zs:List Int) (hreach:zs.length*8≤140737488351232) (w:World) (hBs:Bs<w.heap.size) (hn₀:n₀≤w.heap.size)
  (hc0:w.cell? ⟨Bs,0,none⟩=some sv) (hI0:IntsAt n₀ w sv zs) (hlen:zs.length≤maxLen) (hbytes:zs.length*8≤140737488355328) :
  CallsIn F n Tryz.prog 298 #[.slice none 0 0,.func (.func 250) #[] #[.pointer (some ⟨Bs,0,none⟩)]] w fun e W'=> ∃v,e = .returned v∧W'.ownsRow w.heap.size 3 1 v zs.length (zs.map (Value.int .i64))∧Below w.heap.size w W':=by
 have h1:1≤n:=by omega
 obtain⟨i0,hi,hz0,hz1,hz2⟩:=info_parts info_ints
 refine callsIn_of_wp_marks Tryz.func298 rfl h3 ?_ hro
 simp only [Tryz.ntmps298,List.size_toArray,List.length_cons,List.length_nil,Nat.reduceAdd,Nat.reduceSub,Array.replicate_succ,Array.replicate_zero,List.push_toArray,List.append_toArray,List.nil_append,List.cons_append]
 gi_wp2
 have bO:=Boxed.new w 24 (.slice none 0 0)
 have hB0:Below w.heap.size w (w.alloc (.cells #[.slice none 0 0] 24)):=(Below.refl _ w).alloc (Nat.le_refl _) _
 have hc1:(w.alloc (.cells #[.slice none 0 0] 24)).cell? ⟨Bs,0,none⟩=some sv:=(hB0.cell (p:=⟨Bs,0,none⟩) hBs).trans hc0
 refine wpIn_rangeFunc_ownG hro h1 (gf:=250) (lb:= #[.pointer (some ⟨Bs,0,none⟩)]) rfl h5 (enters_of Tryz.func250 (by kernel_rfl) rfl)
  (values_stops F (n - 1) h5 hro (by omega) Bs w.heap.size sv zs hreach _ (by simp;omega) (by simp) hc1 ((show IntsAt w.heap.size w sv zs from by
   rcases hI0 with h | ⟨b,off,cap,e,hb,hc⟩
   ·exact .inl h
   ·exact .inr ⟨b,off,cap,e,by omega,hc⟩).below hB0)) belowK_t (belowK_b (by simp)) (Below.refl _ _) (fun _=>rfl)
  (fun pre W=>(∃v,Boxed W w.heap.size 24 v∧W.ownsRow w.heap.size 3 1 v pre.length (pre.map (Value.int .i64))∧True)∧Below w.heap.size w W)
  (fun _ _ _=>False)
  (OwnFrom.and (Own.from (holdsRow_own w.heap.size w.heap.size 24 3 1 (fun pre:List Int=>pre.length) (fun pre=>pre.map (Value.int .i64)) (fun _ _=>True)) _) (ownFrom_below (Nat.le_refl _) (by simp)))
  (fun _ _ _ _ _ hs _ _=>hs)
  ⟨⟨_,bO,World.ownsRow_nil _ _ _ _,trivial⟩,hB0⟩
  (fun x=> { tmps:= #[.slice none 0 0,.func (.func 250) #[] #[.pointer (some ⟨Bs,0,none⟩)],.pointer (some ⟨w.heap.size,0,none⟩),undef,.slice none 0 0,.int .i64 x,.func (.func 250) #[] #[.pointer (some ⟨Bs,0,none⟩)],.int .i64 x,undef,undef,undef,undef,undef],defers:= [] }) ?assign ?body ?done ?stop
 case assign =>
  intro l x W K hK
  gi_wp2
  exact hK
 case body =>
  rintro l pre x W ⟨⟨v,hv,hrow,_⟩,hB⟩ hlt
  have hc:=hv.cell
  gi_wp2_with (gi_at_builtin;refine wpListIn_append_own _ rfl _ _ 24 rfl w.heap.size 3 i0 (.int .i64 0) 1 8 Tryz.underlying24 hi hz0 hz1 hz2 rfl (by decide) _ _ _ rfl (hrow.alloc _) ⟨W.heap.size,0,none⟩ 1 1 [.int .i64 x] rfl rfl (cell_one_new _ _ _) (by simp [Value.oneCell']) (by omega) (by omega) (by have:=hB.size;simp;omega) ?_;intro v' w1 hown' hgrow _;obtain⟨g',cap',rfl⟩:=ownsRow_succ hown';obtain⟨hv1,hv2,hr2,hk2,hb2⟩:=hv.appended (by decide) hrow hB.size (Nat.le_refl _) hown' hgrow;have hc1:=hv1.cell;have hf1:=hv1.frozen)
  exact⟨hk2.from _,hb2,⟨_,hv2,by simpa using hr2,trivial⟩,hB.trans hb2⟩
 case done =>
  rintro D ys W hD rfl ⟨⟨v,hv,hrow,_⟩,hB⟩ hK
  have hc:=hv.cell
  gi_wp2
  refine⟨by simp,.inl ⟨_,_,rfl,run_takeDeferred hK,?_⟩⟩
  exact⟨_,results_tmp rfl _ _ _,v,rfl,ownsRow_putObj hrow _ hK rfl,hB.trans (belowK_b (w:=w) (Nat.le_refl _) W D _ _ (by simp at hD;omega) hK rfl rfl)⟩
 case stop =>
  rintro D c pre W _ _ h _
  exact h.elim
theorem intsAt_of {w:World} {v:Value} {zs:List Int} (h:SliceOf Rep.int w.cell? v zs):IntsAt w.heap.size w v zs:=by
 obtain⟨p,cap,rfl,h1,h2,h3⟩:=h.form
 by_cases h0:zs.length=0
 ·have hz:zs = []:=List.eq_nil_of_length_eq_zero h0
  subst hz
  exact .inl ⟨⟨p,cap,rfl⟩,rfl⟩
 ·obtain⟨b,o,rfl⟩:=h3 (by decide) (by omega)
  have hc : ∀j,j<zs.length→w.cell? ⟨b,o+j,none⟩=some (.int .i64 (zs[j]?.getD 0)):=fun j hj=>by
   rw [List.getElem?_eq_getElem hj]
   exact(int_at h j hj).1
  exact .inr ⟨b,o,cap,rfl,cell_lt (hc 0 (by omega)),hc⟩
theorem appendSeq_any (B:Nat) (sv:Value) (zs:List Int) (w:World) (hc:w.cell? ⟨B,0,none⟩=some sv) (hv:SliceOf Rep.int w.cell? sv zs) (hl:zs.length≤1048576) :
  Calls Tryz.prog 298 #[.slice none 0 0,.func (.func 250) #[] #[.pointer (some ⟨B,0,none⟩)]] w fun e W'=> ∃v,e = .returned v∧OwnOf Rep.int W' (fun _=>True) w.heap.size 3 v zs∧Ext w W':=by
 refine((callsIn_wide (n:=6)).1 (appendSeq_in Fence.wide 6 trivial trivial rfl (by omega) B w.heap.size sv zs (by omega) w (cell_lt hc) (Nat.le_refl _) hc (intsAt_of hv) (by unfold maxLen;omega) (by omega))).mono ?_
 rintro e W' ⟨v,rfl,h1,h2⟩
 exact⟨v,rfl,OwnOf.ofInts _ h1 hv.ints,h2⟩
set_option maxHeartbeats 1000000 in
theorem values_any (p:Option Addr) (n c:Nat) (w:World) :
  Calls Tryz.prog 183 #[.slice p n c] w fun e w'=>e = .returned (.func (.func 250) #[] #[.pointer (some ⟨w.heap.size,0,none⟩)])∧w'=w.alloc (.cells #[.slice p n c] 24):=by
 go_enter Tryz.func183,Tryz.ntmps183
 go_wp2_with fail
 go_ret
 exact⟨rfl,rfl⟩
set_option maxHeartbeats 1000000 in
theorem collect_any (B:Nat) (sv:Value) (zs:List Int) (w:World) (hc:w.cell? ⟨B,0,none⟩=some sv) (hv:SliceOf Rep.int w.cell? sv zs) (hl:zs.length≤1048576) :
  Calls Tryz.prog 249 #[.func (.func 250) #[] #[.pointer (some ⟨B,0,none⟩)]] w fun e W'=> ∃v,e = .returned v∧OwnOf Rep.int W' (fun _=>True) w.heap.size 3 v zs∧Ext w W':=by
 have HC:=Lib.hid hc
 have HV:=Lib.hid hv
 clear hc hv
 go_enter Tryz.func249,Tryz.ntmps249
 go_wp2_with fail
 refine(appendSeq_any B sv zs _ HC.out HV.out hl).mono ?_
 rintro e w1 ⟨v,rfl,h1,h2⟩
 have H1:=Lib.hid h1
 obtain⟨p,n,rfl,_⟩:=h1.slice.form
 clear h1
 go_wp2_with fail
 go_ret
 exact⟨_,rfl,H1.out,h2⟩
def sortI (zs:List Int):List Int:=zs.mergeSort fun x y=>decide (x≤y)
set_option maxHeartbeats 1000000 in
theorem sorted_any (B:Nat) (sv:Value) (zs:List Int) (w:World) (hc:w.cell? ⟨B,0,none⟩=some sv) (hv:SliceOf Rep.int w.cell? sv zs) (hl:zs.length≤1048576) :
  Calls Tryz.prog 182 #[.func (.func 250) #[] #[.pointer (some ⟨B,0,none⟩)]] w fun e W'=> ∃v,e = .returned v∧OwnOf Rep.int W' (fun _=>True) w.heap.size 3 v (sortI zs)∧Ext w W':=by
 have HC:=Lib.hid hc
 have HV:=Lib.hid hv
 clear hc hv
 go_enter Tryz.func182,Tryz.ntmps182
 go_wp2_with fail
 refine(collect_any B sv zs _ HC.out HV.out hl).mono ?_
 rintro e w1 ⟨v,rfl,h1,h2⟩
 have H1:=Lib.hid h1
 have H2:=Lib.hid h2
 obtain⟨p,n,rfl,_⟩:=h1.slice.form
 clear h1 h2
 go_wp2_with fail
 refine(sort_ints _ _ zs _ _ _ H1.out (by omega)).mono ?_
 rintro e w2 ⟨rfl,h3,h4⟩
 have H3:=Lib.hid h3
 have H4:=Lib.hid (Ext.grownNew H2.out h4 H1.out.base)
 clear h3 h4
 go_wp2_with fail
 go_ret
 exact⟨_,rfl,H3.out,H4.out⟩
end Go.Proofs.YtkddkbpoefidpaaGreatDoor
namespace Go.Proofs.YtkddkbpoefidpaaGreatDoor
open Go.RowKit Go.Deep
inductive Runs:List (List Row)→Prop
 |nil:Runs []
 |snoc (rs:List (List Row)) (run:List Row) (v:List Val):Runs rs→run≠ []→(∀r∈run,r.vals=v)→(∀p,rs.flatten.getLast?=some p→p.vals≠v)→Runs (rs ++ [run])
def RunsTo (l:List Row) (k:Nat) (done:List (List Row)) (cur:List Row):Prop :=
 ∃v,Runs done∧cur≠ []∧(∀r∈cur,r.vals=v)∧(∀p,done.flatten.getLast?=some p→p.vals≠v)∧done.flatten++cur=l.take k
structure RunsAt (w:World) (base:Nat) (e1 e2:TypeId) (v u:Value) (done:List (List Row)) (cur:List Row):Prop where
 us : ∃css,RepAll (Rep.slice Rep.row) (on w (fun k=>some k≠v.ownBlock∧some k≠u.ownBlock)) css done∧w.ownsRow base e1 1 v (done.length+1) (css.flatten ++ [u])
 cur:OwnOf Rep.row w (fun k=>k<base) base e2 u cur
 ne : ∀k,u.ownBlock=some k→v.ownBlock≠some k
section
variable {P:Program} {w:World} {ops:Array Oper} {rest:List Oper} {o:Oper} {a:Act} {Q:Exit→Act→World→Prop}
theorem step_append_one {α:Type} {K:Act→World→Prop} {E:Prop} (R:Rep α) (S:Nat→Prop) (hgd:o.guard=none) (s x:Operand) (t:TypeId)
  (ho:o.op = .call { callee:= .builtin .append,args:= #[s,x],argTypes:= #[t,t] })
  (base:Nat) (e:TypeId) (i:TypeInfo) (z:Value) (bytes:Nat) (ht:P.underlying t=some (.slice e)) (hi:P.info? e=some i) (hz:i.zero=some z)
  (hsize:i.size=R.size) (hby:i.bytes=bytes) (hzs:z.cells.size=R.size) (hsz:0<R.size)
  (v:Value) (xs:List α) (hs:a.eval s=v) (hown:OwnOf R w S base e v xs)
  (ad:Addr) (c:Nat) (y:α) (news:List Value) (hx:a.eval x = .slice (some ad) 1 c) (hy:R.holds (on w (avoid S v)) news y) (hnews : ∀j u,news[j]?=some u→w.cell? (ad.add j)=some u)
  (h63:xs.length+1≤maxLen) (hbytes:(xs.length+1)*bytes≤140737488355328) (hbase:base≤w.heap.size)
  (h : ∀g cap w',OwnOf R w' S base e (.slice (some ⟨g,0,none⟩) (xs.length+1) cap) (xs ++ [y])→w.grownBy w' v.ownBlock→(v.ownBlock=some g∨g=w.heap.size)→K (a.put o.dst (.slice (some ⟨g,0,none⟩) (xs.length+1) cap)) w') :
  if Region.wanted o (yielded ops a.tmps)=true then Oper.wp P o a w K Q else E:=by
 obtain⟨css,h1,h2⟩:=hown
 exact step_append_lies w hgd s x t ho base e i z R.size bytes ht hi hz hsize hby hzs hsz v xs.length css.flatten hs h2 ad 1 c news hx (by rw [R.len hy,Nat.one_mul]) hnews (R.one hy) (by omega) h63 hbytes hbase w.heap.size rfl
  fun g cap w' g1 g2 g3 _=>h g cap w' (OwnOf.push h1 hy g1 g2 g3) g2 g3
end
end Go.Proofs.YtkddkbpoefidpaaGreatDoor
namespace Go.Proofs.YtkddkbpoefidpaaGreatDoor
open Go.RowKit Go.Deep
def surpA (b:List Row):List Row→List Row→List Row
 |_,[]=> []
 |pre,r::rest=>if mult r.vals b≤mult r.vals pre then r::surpA b (pre ++ [r]) rest else surpA b (pre ++ [r]) rest
end Go.Proofs.YtkddkbpoefidpaaGreatDoor
namespace Go.Proofs.YtkddkbpoefidpaaGreatDoor
open Go.RowKit
theorem infoTup:(Tryz.prog.info? 96).map (fun i=>(i.zero,i.size,i.bytes))=some (some (.agg #[.slice none 0 0,.int .i64 0,.int .i64 0,.slice none 0 0]),Rep.tup.size,64):=by kernel_rfl
def genTups (l:List Num5) (most:Nat):List Tup:=(l.take most).map genTup
def rowOf (t:Tup):Row:=⟨t.vals,t.lin⟩
def genRows (l:List Num5) (most:Nat):List Row:=(genTups l most).map rowOf
end Go.Proofs.YtkddkbpoefidpaaGreatDoor
namespace Go.Proofs.YtkddkbpoefidpaaGreatDoor
open Go.RowKit
theorem sortI_perm (zs:List Int):(sortI zs).Perm zs:=List.mergeSort_perm _ _
theorem sortI_asc (zs:List Int):(sortI zs).Pairwise (· ≤ ·):=by
 have:=List.pairwise_mergeSort (le:=fun x y:Int=>decide (x≤y)) (fun a b c h1 h2=>by simp at *;omega) (fun a b=>by simp;omega) zs
 exact this.imp fun h=>by simpa using h
theorem cutT_len (t:Tup) : ∀(P:List Int) (f:Int),(cutT t f P).length≤P.length+1:=by
 intro P
 induction P with
 |nil=>intro f;exact Nat.le_refl _
 |cons p P ih =>
  intro f
  unfold cutT
  split
  ·simp
  split
  ·have:=ih p;simp;omega
  ·have:=ih f;simp;omega
theorem splitT_len (l:List Tup) (P:List Int):(splitT l P).length≤l.length*(P.length+1):=by
 unfold splitT
 induction l with
 |nil=>simp
 |cons t l ih =>
  rw [List.flatMap_cons,List.length_append,List.length_cons,Nat.succ_mul]
  have:(if validT t=true then cutT t t.from_ P else []).length≤P.length+1:=by
   split
   ·exact cutT_len t P _
   ·exact Nat.zero_le _
  omega
theorem splitT_snoc (l:List Tup) (P:List Int) (k:Nat) (h:k<l.length):splitT (l.take (k+1)) P=splitT (l.take k) P++if validT l[k]=true then cutT l[k] l[k].from_ P else []:=by
 unfold splitT
 rw [List.take_succ_eq_append_getElem h,List.flatMap_append,List.flatMap_cons,List.flatMap_nil,List.append_nil]
theorem cutT_drop (t:Tup) (f:Int) (hf:f<t.to_) : ∀(P:List Int) (m:Nat),(∀p∈P.take m,p≤f)→cutT t f P=cutT t f (P.drop m):=by
 intro P
 induction P with
 |nil=>intro m _;rw [List.drop_nil]
 |cons p P ih =>
  intro m h
  cases m with
  |zero=>rfl
  |succ m =>
   rw [List.take_succ_cons]at h
   have hp:=h p (by simp)
   rw [List.drop_succ_cons,←ih m fun q hq=>h q (by simp [hq])]
   rw [cutT,if_neg (by omega),if_neg (by omega)]
theorem below_first {P:List Int} (h:P.Pairwise (· ≤ ·)) (x:Int) : ∀p∈P.take (P.countP (· < x)),p<x:=by
 induction P with
 |nil=>intro p hp;simp at hp
 |cons a P ih =>
  obtain⟨h1,h2⟩:=List.pairwise_cons.1 h
  intro p hp
  by_cases c:a<x
  ·rw [List.countP_cons_of_pos (by simpa using c),List.take_succ_cons]at hp
   rcases List.mem_cons.1 hp with rfl | hp
   ·exact c
   ·exact ih h2 p hp
  ·have h0:P.countP (· < x)=0:=List.countP_eq_zero.2 fun y hy=>by have:=h1 y hy;simp;omega
   rw [List.countP_cons_of_neg (by simpa using c),h0]at hp
   simp at hp
theorem int_rest {h:View} {g cap:Nat} {xs:List Int} {n:Nat} (hn:n=xs.length) (k:SliceOf Rep.int h (.slice (some ⟨g,0,none⟩) n cap) xs) (m:Nat) (hm:m≤xs.length):SliceOf Rep.int h (.slice (some ⟨g,m,none⟩) (n - m) (cap - m)) (xs.drop m):=by
 subst hn
 have:=SliceOf.dropV k m hm
 simpa [Rep.int] using this
theorem bsearch_any (v:Value) (Q:List Int) (x:Int) (w:World) (hv:SliceOf Rep.int w.cell? v Q) (hs:Q.Pairwise (· ≤ ·)) (hl:Q.length≤1048576) :
  Calls Tryz.prog 184 #[v,.int .i64 x] w fun e w'=> ∃r,e = .returned (.tuple #[.int .i64 (Q.countP (· < x):Nat),.bool r])∧Ext w w':=by
 obtain⟨p,cap,rfl,h1,h2,h3⟩:=hv.form
 by_cases h0:Q.length=0
 ·have hz:Q = []:=List.eq_nil_of_length_eq_zero h0
  subst hz
  refine(Tryz.slices_BinarySearch_int_empty p cap x w).mono ?_
  rintro e w' ⟨rfl,rfl⟩
  exact⟨_,rfl,Ext.refl _⟩
 ·obtain⟨b,o,rfl⟩:=h3 (by decide) (by omega)
  refine(Tryz.slices_BinarySearch_int b o Q.length cap Q x w (Nat.le_refl _) (by omega) (fun j hj=>by rw [List.getD_eq_getElem?_getD,List.getElem?_eq_getElem hj];exact(int_at hv j hj).1) (by rw [List.take_length];exact hs)).mono ?_
  rintro e w' ⟨rfl,q,rfl⟩
  rw [List.take_length]
  exact⟨_,rfl,(Ext.refl w).drewN q⟩
set_option maxRecDepth 100000 in
set_option maxHeartbeats 8000000 in
theorem split_any (v pv:Value) (l:List Tup) (P:List Int) (w:World) (hv:SliceOf Rep.tup w.cell? v l) (hp:SliceOf Rep.int w.cell? pv P) (hl:l.length≤50) (hpl:P.length≤100) (hf : ∀t∈l,t.vals.length≤1048576∧t.lin.length≤1048576) :
  Calls Tryz.prog 129 #[v,pv] w fun e w'=> ∃v',e = .returned v'∧OwnOf Rep.tup w' (fun _=>True) w.heap.size 96 v' (splitT l (sortI P))∧Ext w w':=by
 obtain⟨i2,hi2,hz20,hz21,hz22⟩:=info_parts infoTup
 have mixed:=mixedOrd
 obtain⟨p,cap,rfl,hc1,hc2,hpt⟩:=hv.form
 obtain⟨pp,pc,rfl,_⟩:=hp.form
 obtain⟨N,hN⟩ : ∃N,N=l.length:=⟨_,rfl⟩
 have HV:=Lib.hid hv
 rw [←hN]
 have HN:=Lib.hid hN
 have HP:=Lib.hid hp
 have HPT:=Lib.hid hpt
 have HF:=Lib.hid hf
 have HPL:=Lib.hid hpl
 have hasc0:=sortI_asc P
 have hql0:(sortI P).length≤100:=by rw [(sortI_perm P).length_eq];exact hpl
 obtain⟨Q,hQ⟩ : ∃Q,Q=sortI P:=⟨_,rfl⟩
 rw [←hQ]at hasc0 hql0 ⊢
 have HASC:=Lib.hid hasc0
 have HQL:=Lib.hid hql0
 have HQQ:=Lib.hid hQ
 clear hasc0 hql0 hQ
 have hNl:N≤50:=by omega
 have hz0:(w.alloc (.cells #[.slice pp P.length pc] 24)).cell? ⟨w.heap.size,0,none⟩=some (.slice pp P.length pc):=by go_simp
 have HZ0:=Lib.hid hz0
 clear hv hp hpt hf hN hl hpl hc1 hc2 hz0
 go_enter Tryz.func129,Tryz.ntmps129
 go_wp2_with fail
 refine(values_any pp _ pc _).mono ?_
 rintro e w1 ⟨rfl,rfl⟩
 go_wp2_with fail
 refine(sorted_any w.heap.size (.slice pp P.length pc) P _ HZ0.out (HP.out.ext ((Ext.refl w).alloc _).full) (by have:=HPL.out;omega)).mono ?_
 rintro e w2 ⟨vs,rfl,o2,x2⟩
 rw [←HQQ.out]at o2
 have hql:=HQL.out
 have X2:=Lib.hid (((Ext.refl w).alloc _).trans x2)
 have SQ:=Lib.hid o2.slice
 have hfm : ∀(pq:Option Addr) (n cq:Nat),vs = .slice pq n cq→(pq=none∧cq=0)∨ ∃g,pq=some ⟨g,0,none⟩:=fun pq n cq e=>by
  rcases o2.form with ⟨h,_⟩ | ⟨g,c,h,_⟩
  ·rw [h]at e;injection e with e1 e2 e3;exact .inl ⟨e1.symm,e3.symm⟩
  ·rw [h]at e;injection e with e1 e2 e3;exact .inr ⟨g,e1.symm⟩
 obtain⟨pq,cq,rfl,hq1,hq2,hq3⟩:=o2.slice.form
 have HFM:=Lib.hid (hfm _ _ _ rfl)
 have HQ3:=Lib.hid hq3
 obtain⟨nq,hnq⟩ : ∃nq,nq=Q.length:=⟨_,rfl⟩
 have HNQ:=Lib.hid hnq
 rw [←hnq]at SQ HQ3 hq1 hql ⊢
 clear o2 x2 hq3 hnq HZ0 HP HPL hfm
 go_wp2_with fail
 go_loopg [5,18] N (fun gk vo vi wr=> ∃(k:Nat) (u:Value),k≤N∧gk=N - k∧vi = .int .i64 k∧u=vo∧Hid (OwnOf Rep.tup wr (fun _=>True) w2.heap.size 96 u (splitT (l.take k) Q))∧Ext w2 wr)
 case atStart=>exact⟨0,_,by omega,rfl,rfl,rfl,OwnOf.nil _ _ _ _ _,Ext.refl w2⟩
 case round =>
  obtain⟨k,u,hk,rfl,rfl,rfl,OU,hx⟩:=hrel
  by_cases hlt:k<N
  ·have hkl:k<l.length:=by have:=HN.out;omega
   obtain⟨b,o,rfl⟩:=HPT.out (by decide) (by omega)
   have hst:=splitT_snoc l Q k hkl
   obtain⟨ua,ub,c0,c1,c2,c3,g0,g1,r1,r2⟩:=tup_at HV.out k hkl
   have hfk:=HF.out l[k] (List.getElem_mem hkl)
   have hlen:=splitT_len (l.take k) Q
   generalize l[k]=t at c1 c2 g0 g1 r1 r2 hst hfk
   have hx0:=X2.out.trans hx
   replace c0:=hx0.at c0
   replace c1:=hx0.at c1
   replace c2:=hx0.at c2
   replace c3:=hx0.at c3
   obtain⟨pa,ka,rfl,_⟩:=g0.form
   obtain⟨pb,kb,rfl,_⟩:=g1.form
   have G0:=Lib.hid (g0.ext X2.out.full)
   have G1:=Lib.hid (g1.ext X2.out.full)
   have HFK:=Lib.hid hfk
   have HST:=Lib.hid hst
   have HRR:=Lib.hid (And.intro r1 r2)
   have hyl:(splitT (l.take k) Q).length≤50*101:=by
    have h1:(l.take k).length≤50:=by rw [List.length_take];omega
    have h2:Q.length+1≤101:=by have:=HNQ.out;omega
    exact Nat.le_trans hlen (Nat.mul_le_mul h1 h2)
   obtain⟨ys0,hys0⟩ : ∃ys,ys=splitT (l.take k) Q:=⟨_,rfl⟩
   rw [←hys0]at OU hyl HST
   have HYS0:=Lib.hid hys0
   have HYL:=Lib.hid hyl
   have hd:decide ((k:Int)<(N:Int))=true:=by simp;omega
   have e0:=cell_lt c0
   obtain⟨tv,tf,tt,tl⟩:=t
   dsimp only at c0 c1 c2 c3 G0 G1 HFK HRR
   obtain⟨n1,hn1⟩ : ∃n,n=tv.length:=⟨_,rfl⟩
   obtain⟨n2,hn2⟩ : ∃n,n=tl.length:=⟨_,rfl⟩
   rw [←hn1]at c0 G0
   rw [←hn2]at c3 G1
   have HN1:=Lib.hid hn1
   have HN2:=Lib.hid hn2
   clear hst g0 g1 r1 r2 hfk hx0 hlen hyl hys0 hn1 hn2
   go_wp2_with fail
   refine(valid_any tf tt _).mono ?_
   rintro e w3 ⟨rfl,x3⟩
   obtain⟨bx,hbx⟩ : ∃z,z=wr.heap.size:=⟨_,rfl⟩
   have a0:w3.cell? ⟨bx,0,none⟩=some (.slice pa n1 ka):=by rw [hbx];exact x3.at (by go_simp)
   have a1:w3.cell? ⟨bx,1,none⟩=some (.int .i64 tf):=by rw [hbx];exact x3.at (by go_simp)
   have a2:w3.cell? ⟨bx,2,none⟩=some (.int .i64 tt):=by rw [hbx];exact x3.at (by go_simp)
   have a3:w3.cell? ⟨bx,3,none⟩=some (.slice pb n2 kb):=by rw [hbx];exact x3.at (by go_simp)
   have X3:=Lib.hid (show Ext wr w3 from ((Ext.refl wr).alloc _).trans x3)
   have HBX:=Lib.hid hbx
   rw [←hbx]
   have e1:=cell_lt a0
   clear x3 c0 c1 c2 c3 e0 hbx
   cases hvb:validB tf tt with
   |false =>
    have hnone:splitT (l.take (k+1)) Q=ys0:=by
     rw [HST.out,if_neg (by show ¬validB tf tt=true;rw [hvb];decide),List.append_nil]
    have HNO:=Lib.hid hnone
    have OU2:=Lib.hid (OU.out.ext X3.out)
    have HX:=Lib.hid (hx.trans X3.out)
    clear hnone hvb OU hx
    go_wp2_with fail
    go_roundg (N - (k+1))
    case measure=>omega
    case rel=>exact⟨k+1,u,by omega,rfl,by go_num,rfl,by show OwnOf _ _ _ _ _ _ _;rw [HNO.out];exact OU2.out,HX.out⟩
   |true =>
    have hvl:=validB_lt hvb
    have HST2:=Lib.hid (show splitT (l.take (k+1)) Q=ys0++cutT ⟨tv,tf,tt,tl⟩ tf Q from by rw [HST.out,if_pos (show validT ⟨tv,tf,tt,tl⟩=true from hvb)])
    obtain⟨h0,h1,h2⟩:=hvl
    have HVL:=Lib.hid (And.intro h0 (And.intro h1 h2))
    have hw1:IntKind.i64.wrap (tf+1)=tf+1:=by rw [IntKind.wrap_i64];omega
    clear HST hvb
    go_wp2_with fail
    refine(bsearch_any _ Q (tf+1) _ (SQ.out.ext (hx.trans X3.out).full) HASC.out (by have:=HNQ.out;omega)).mono ?_
    rintro e w4 ⟨fr,rfl,x4⟩
    have hm1:Q.countP (· < tf+1)≤nq:=by rw [HNQ.out];exact List.countP_le_length
    have hdrop:=cutT_drop ⟨tv,tf,tt,tl⟩ tf h1 Q (Q.countP (· < tf+1)) (fun p hp=>by have:=below_first HASC.out (tf+1) p hp;omega)
    generalize Q.countP (· < tf+1)=m at hm1 hdrop
    have hmI:(m:Int)≤(nq:Int):=by omega
    have hmc:m≤cq:=by omega
    have HX4:=Lib.hid (hx.trans (X3.out.trans x4))
    have G04:=Lib.hid (G0.out)
    have G14:=Lib.hid (G1.out)
    have OU4:=Lib.hid (OU.out.ext (X3.out.trans x4))
    have HUX:=Lib.hid (show ∀x,u.ownBlock=some x→x≠bx from fun x hx e=>by have h1:=(OU.out.lt x hx).2;have h2:=HBX.out;omega)
    replace a0:=x4.at a0
    replace a1:=x4.at a1
    replace a2:=x4.at a2
    replace a3:=x4.at a3
    replace e1:=cell_lt a0
    clear x4 hx OU X3 G0 G1
    by_cases hcm:cq=m
    ·have hnm:nq=m:=by omega
     subst hcm
     subst hnm
     have hdr0:Q.drop nq = []:=List.drop_eq_nil_of_le (by have:=HNQ.out;omega)
     have HFIN:=Lib.hid (show splitT (l.take (k+1)) Q=ys0 ++ [⟨tv,tf,tt,tl⟩]from by rw [HST2.out,hdrop,hdr0];rfl)
     have OUq:=OU4
     have HUXq:=HUX
     have HXq:=HX4
     have HYB:=Lib.hid (show ys0.length≤6000 from by have:=HYL.out;omega)
     have HFR:=Lib.hid (show okI tf∧okI tt from HRR.out)
     clear hdr0 hdrop hm1 OU4 HUX HX4
     go_wp2_with fail
     go_loopg [5,8,40] 0 (fun gj vo vf vi wq=>gj=0∧u=vo∧vf = .int .i64 tf∧vi = .int .i64 0∧w4=wq)
     case atStart=>exact⟨rfl,rfl,rfl,rfl,rfl⟩
     case round =>
      obtain⟨rfl,rfl,rfl,rfl,rfl⟩:=hrel
      have eb:=cell_lt a0
      have HUL:=Lib.hid (show ∀x,(u).ownBlock=some x→w2.heap.size≤x∧x<(w4).heap.size from fun x hx=>OUq.out.lt x hx)
      have B1:(ys0).length+1≤maxLen:=by have:=HYB.out;unfold maxLen;omega
      have B2:((ys0).length+1)*64≤140737488355328:=by have:=HYB.out;omega
      have HW24:=Lib.hid (show w2.heap.size≤(w4).heap.size from HXq.out.size)
      have hS0:Ext w2 (w4).drew∧(w4).drew.cell? ⟨bx,0,none⟩=some (.slice pa n1 ka)∧(w4).drew.cell? ⟨bx,1,none⟩=some (.int .i64 tf)∧(w4).drew.cell? ⟨bx,2,none⟩=some (.int .i64 tt)∧(w4).drew.cell? ⟨bx,3,none⟩=some (.slice pb n2 kb):=⟨HXq.out.drew,a0,a1,a2,a3⟩
      go_wp2_with fail
      go_upto_region 17 with fail
      clear a0 a1 a2 a3
      go_region_held3 (fun w'=>Ext w2 w'∧w'.cell? ⟨bx,0,none⟩=some (.slice pa n1 ka)∧w'.cell? ⟨bx,1,none⟩=some (.int .i64 tf)∧w'.cell? ⟨bx,2,none⟩=some (.int .i64 tt)∧w'.cell? ⟨bx,3,none⟩=some (.slice pb n2 kb))
       (first |with_reducible assumption | with_reducible exact keepE4 (by assumption) ((Ext.refl _).alloc _))
       (first
        |(go_at_call 99;refine(tup_row _ _ _ _ _ _ _ _ _).mono ?_;rintro e w5 ⟨rfl,g5⟩;have x5:=Gro.ext g5;have X5:=Lib.hid (show Ext (w4) w5 from (Ext.refl _).drew.trans x5);have K5:Ext w2 w5∧w5.cell? ⟨bx,0,none⟩=some (.slice pa n1 ka)∧w5.cell? ⟨bx,1,none⟩=some (.int .i64 tf)∧w5.cell? ⟨bx,2,none⟩=some (.int .i64 tt)∧w5.cell? ⟨bx,3,none⟩=some (.slice pb n2 kb):=keepE4 (hS0) x5)
        |(go_at_call 57;refine(during_any _ _ ⟨tv,tl⟩ tf tt _ (by exact G04.out.ext (HXq.out.trans X5.out).full) (by exact G14.out.ext (HXq.out.trans X5.out).full) HFK.out.1 HFK.out.2).mono ?_;rintro e w6 ⟨da,db,rfl,sa,sb,x6⟩;have SA:=Lib.hid sa;have SB:=Lib.hid sb;obtain⟨pc,kc,rfl,_⟩:=sa.form;obtain⟨pd,kd,rfl,_⟩:=sb.form;have X6:=Lib.hid (X5.out.trans x6);have K6:Ext w2 w6∧w6.cell? ⟨bx,0,none⟩=some (.slice pa n1 ka)∧w6.cell? ⟨bx,1,none⟩=some (.int .i64 tf)∧w6.cell? ⟨bx,2,none⟩=some (.int .i64 tt)∧w6.cell? ⟨bx,3,none⟩=some (.slice pb n2 kb):=keepE4 K5 x6;dsimp only;dsimp only at SA SB;rw [←HN1.out]at SA;rw [←HN2.out]at SB;rw [←HN1.out,←HN2.out];clear sa sb)
        |(refine step_append_one Rep.tup (fun _=>True) rfl _ _ 22 rfl w2.heap.size 96 i2 _ 64 Tryz.underlying22 hi2 hz20 hz21 hz22 rfl (by decide) (u) (ys0) rfl (by exact OUq.out.ext (X6.out.alloc _)) ⟨_,0,none⟩ 1 ⟨tv,tf,tt,tl⟩ [.slice pc n1 kc,.int .i64 tf,.int .i64 tt,.slice pd n2 kd] rfl (by have hsub : ∀(o:Obj),Sub (on w6 (since w5)) (on (w6.alloc o) (avoid (fun _=>True) (u))):=fun o=>(on_mono w6 fun x _ hx=>⟨fun e=>by(have h1:=(HUL.out x e.symm).2;have h2:=X5.out.size;simp [since]at hx;omega),trivial⟩).trans (((Ext.refl w6).alloc o).sub _);exact⟨_,_,rfl,SA.out.ext (hsub _),SB.out.ext (hsub _),by have h:=HFR.out;exact h.1,by have h:=HFR.out;exact h.2⟩) (by exact cells_new _ [.slice pc n1 kc,.int .i64 tf,.int .i64 tt,.slice pd n2 kd] _) B1 B2 (by exact Nat.le_trans HW24.out (X6.out.alloc (.cells [.slice pc n1 kc,.int .i64 tf,.int .i64 tt,.slice pd n2 kd].toArray 96)).size) ?_;intro g8 cap8 w8 own8 gr8 hg8;have X6a:=X6.out.alloc (.cells [.slice pc n1 kc,.int .i64 tf,.int .i64 tt,.slice pd n2 kd].toArray 96);have K8:Ext w2 w8∧w8.cell? ⟨bx,0,none⟩=some (.slice pa n1 ka)∧w8.cell? ⟨bx,1,none⟩=some (.int .i64 tf)∧w8.cell? ⟨bx,2,none⟩=some (.int .i64 tt)∧w8.cell? ⟨bx,3,none⟩=some (.slice pb n2 kb):=⟨ext_grown (HXq.out.trans X6a) gr8 (fun x hx=>(HUL.out x hx).1),cell_grown gr8 (((Ext.refl w6).alloc _).at K6.2.1) (fun x hx=>HUXq.out x hx),cell_grown gr8 (((Ext.refl w6).alloc _).at K6.2.2.1) (fun x hx=>HUXq.out x hx),cell_grown gr8 (((Ext.refl w6).alloc _).at K6.2.2.2.1) (fun x hx=>HUXq.out x hx),cell_grown gr8 (((Ext.refl w6).alloc _).at K6.2.2.2.2) (fun x hx=>HUXq.out x hx)⟩))
      all_goals
       have OU9:=Lib.hid (show OwnOf Rep.tup w8 (fun _=>True) w2.heap.size 96 (.slice (some ⟨g8,0,none⟩) ((ys0).length+1) cap8) (splitT (l.take (k+1)) Q)from by rw [HFIN.out];exact own8)
       have X9:=Lib.hid K8.1
       clear own8 gr8 hg8 K8 K6 K5 X6a hS0
       go_wp2_with fail
       go_roundg (N - (k+1))
       case measure=>omega
       case rel=>exact⟨k+1,_,by omega,rfl,by go_num,rfl,OU9.out,X9.out⟩
    ·obtain⟨g,rfl⟩ : ∃g,pq=some ⟨g,0,none⟩:=by
      rcases HFM.out with ⟨_,h⟩ | h
      ·exact absurd (show cq=m by omega) hcm
      ·exact h
     have RST:=Lib.hid (int_rest HNQ.out SQ.out m (by have:=HNQ.out;omega))
     have hnrl:(Q.drop m).length=nq - m:=by rw [List.length_drop,←HNQ.out]
     obtain⟨R,hR⟩ : ∃R,R=Q.drop m:=⟨_,rfl⟩
     rw [←hR]at hdrop hnrl RST
     obtain⟨nr,hnr⟩ : ∃n,n=nq - m:=⟨_,rfl⟩
     rw [←hnr]at hnrl RST
     have HNR:=Lib.hid hnrl
     have HFIN0:=Lib.hid (show splitT (l.take (k+1)) Q=ys0++cutT ⟨tv,tf,tt,tl⟩ tf R from by rw [HST2.out,hdrop])
     have hnrI:((nq:Int) - (m:Int))=(nr:Int):=by omega
     have HNRM:=Lib.hid hnr
     have A:=Lib.hid (show Ext w2 w4∧w4.cell? ⟨bx,0,none⟩=some (.slice pa n1 ka)∧w4.cell? ⟨bx,1,none⟩=some (.int .i64 tf)∧w4.cell? ⟨bx,2,none⟩=some (.int .i64 tt)∧w4.cell? ⟨bx,3,none⟩=some (.slice pb n2 kb)from ⟨HX4.out,a0,a1,a2,a3⟩)
     clear hdrop hnrl hR hnr h0 h1 h2 hd
     go_wp2_with fail
     go_loopg [5,8,40] nr (fun gj vo vf vi wq=> ∃(j:Nat) (uq:Value) (ys:List Tup) (f:Int),j≤nr∧gj=nr - j∧vi = .int .i64 j∧uq=vo∧vf = .int .i64 f∧Hid (OwnOf Rep.tup wq (fun _=>True) w2.heap.size 96 uq ys)∧Hid (ys++cutT ⟨tv,tf,tt,tl⟩ f (R.drop j)=ys0++cutT ⟨tv,tf,tt,tl⟩ tf R)∧Hid (f<tt)∧Hid (okI f)∧Hid (ys.length≤ys0.length+j)∧Hid (Ext w2 wq∧wq.cell? ⟨bx,0,none⟩=some (.slice pa n1 ka)∧wq.cell? ⟨bx,1,none⟩=some (.int .i64 tf)∧wq.cell? ⟨bx,2,none⟩=some (.int .i64 tt)∧wq.cell? ⟨bx,3,none⟩=some (.slice pb n2 kb))∧Hid (∀x,uq.ownBlock=some x→x≠bx))
     case atStart=>exact⟨0,u,ys0,tf,by omega,rfl,rfl,rfl,rfl,OU4.out,rfl,HVL.out.2.1,HRR.out.1,Nat.le_refl _,A.out,HUX.out⟩
     case round =>
      obtain⟨j,uq,ys,f,hj,rfl,rfl,rfl,rfl,OUI,HCUT,HFT,HFO,HLEN,AI,HUXI⟩:=hrel
      clear OU4 HUX A a0 a1 a2 a3
      by_cases hjl:j<nr
      ·have hjr:j<R.length:=by have:=HNR.out;omega
       have hyr:R.drop j=R[j]::R.drop (j+1):=List.drop_eq_getElem_cons hjr
       have hcut:=HCUT.out
       rw [hyr]at hcut
       obtain⟨c0,hpo⟩:=int_at RST.out j hjr
       generalize R[j]=p at c0 hpo hcut
       have hd:decide ((j:Int)<(nr:Int))=true:=by simp;omega
       replace c0:=AI.out.1.at c0
       by_cases hge:tt≤p
       ·rw [cutT,if_pos hge]at hcut
        have HFIN:=Lib.hid (show splitT (l.take (k+1)) Q=ys ++ [⟨tv,f,tt,tl⟩]from by rw [HFIN0.out,←hcut])
        have HFR:=Lib.hid (show okI f∧okI tt from ⟨HFO.out,HRR.out.2⟩)
        clear hcut hpo hyr
        have OUq:=OUI
        have HUXq:=HUXI
        have HXq:=Lib.hid AI.out.1
        obtain⟨a0,a1,a2,a3⟩:=AI.out.2
        have HYB:=Lib.hid (show ys.length≤6000 from by have h1:=HYL.out;have h2:=HLEN.out;have h3:=HNR.out;have h4:=HQL.out;have h5:=HNRM.out;have h6:=HNQ.out;omega)
        clear OUI HUXI
        have eb:=cell_lt a0
        have HUL:=Lib.hid (show ∀x,(uq).ownBlock=some x→w2.heap.size≤x∧x<(wr).heap.size from fun x hx=>OUq.out.lt x hx)
        have B1:(ys).length+1≤maxLen:=by have:=HYB.out;unfold maxLen;omega
        have B2:((ys).length+1)*64≤140737488355328:=by have:=HYB.out;omega
        have HW24:=Lib.hid (show w2.heap.size≤(wr).heap.size from HXq.out.size)
        have hS0:Ext w2 (wr).drew∧(wr).drew.cell? ⟨bx,0,none⟩=some (.slice pa n1 ka)∧(wr).drew.cell? ⟨bx,1,none⟩=some (.int .i64 tf)∧(wr).drew.cell? ⟨bx,2,none⟩=some (.int .i64 tt)∧(wr).drew.cell? ⟨bx,3,none⟩=some (.slice pb n2 kb):=⟨HXq.out.drew,a0,a1,a2,a3⟩
        go_wp2_with fail
        go_upto_region 17 with fail
        clear a0 a1 a2 a3
        go_region_held3 (fun w'=>Ext w2 w'∧w'.cell? ⟨bx,0,none⟩=some (.slice pa n1 ka)∧w'.cell? ⟨bx,1,none⟩=some (.int .i64 tf)∧w'.cell? ⟨bx,2,none⟩=some (.int .i64 tt)∧w'.cell? ⟨bx,3,none⟩=some (.slice pb n2 kb))
         (first |with_reducible assumption | with_reducible exact keepE4 (by assumption) ((Ext.refl _).alloc _))
         (first
          |(go_at_call 99;refine(tup_row _ _ _ _ _ _ _ _ _).mono ?_;rintro e w5 ⟨rfl,g5⟩;have x5:=Gro.ext g5;have X5:=Lib.hid (show Ext (wr) w5 from (Ext.refl _).drew.trans x5);have K5:Ext w2 w5∧w5.cell? ⟨bx,0,none⟩=some (.slice pa n1 ka)∧w5.cell? ⟨bx,1,none⟩=some (.int .i64 tf)∧w5.cell? ⟨bx,2,none⟩=some (.int .i64 tt)∧w5.cell? ⟨bx,3,none⟩=some (.slice pb n2 kb):=keepE4 (hS0) x5)
          |(go_at_call 57;refine(during_any _ _ ⟨tv,tl⟩ f tt _ (by exact G04.out.ext (HXq.out.trans X5.out).full) (by exact G14.out.ext (HXq.out.trans X5.out).full) HFK.out.1 HFK.out.2).mono ?_;rintro e w6 ⟨da,db,rfl,sa,sb,x6⟩;have SA:=Lib.hid sa;have SB:=Lib.hid sb;obtain⟨pc,kc,rfl,_⟩:=sa.form;obtain⟨pd,kd,rfl,_⟩:=sb.form;have X6:=Lib.hid (X5.out.trans x6);have K6:Ext w2 w6∧w6.cell? ⟨bx,0,none⟩=some (.slice pa n1 ka)∧w6.cell? ⟨bx,1,none⟩=some (.int .i64 tf)∧w6.cell? ⟨bx,2,none⟩=some (.int .i64 tt)∧w6.cell? ⟨bx,3,none⟩=some (.slice pb n2 kb):=keepE4 K5 x6;dsimp only;dsimp only at SA SB;rw [←HN1.out]at SA;rw [←HN2.out]at SB;rw [←HN1.out,←HN2.out];clear sa sb)
          |(refine step_append_one Rep.tup (fun _=>True) rfl _ _ 22 rfl w2.heap.size 96 i2 _ 64 Tryz.underlying22 hi2 hz20 hz21 hz22 rfl (by decide) (uq) (ys) rfl (by exact OUq.out.ext (X6.out.alloc _)) ⟨_,0,none⟩ 1 ⟨tv,f,tt,tl⟩ [.slice pc n1 kc,.int .i64 f,.int .i64 tt,.slice pd n2 kd] rfl (by have hsub : ∀(o:Obj),Sub (on w6 (since w5)) (on (w6.alloc o) (avoid (fun _=>True) (uq))):=fun o=>(on_mono w6 fun x _ hx=>⟨fun e=>by(have h1:=(HUL.out x e.symm).2;have h2:=X5.out.size;simp [since]at hx;omega),trivial⟩).trans (((Ext.refl w6).alloc o).sub _);exact⟨_,_,rfl,SA.out.ext (hsub _),SB.out.ext (hsub _),by have h:=HFR.out;exact h.1,by have h:=HFR.out;exact h.2⟩) (by exact cells_new _ [.slice pc n1 kc,.int .i64 f,.int .i64 tt,.slice pd n2 kd] _) B1 B2 (by exact Nat.le_trans HW24.out (X6.out.alloc (.cells [.slice pc n1 kc,.int .i64 f,.int .i64 tt,.slice pd n2 kd].toArray 96)).size) ?_;intro g8 cap8 w8 own8 gr8 hg8;have X6a:=X6.out.alloc (.cells [.slice pc n1 kc,.int .i64 f,.int .i64 tt,.slice pd n2 kd].toArray 96);have K8:Ext w2 w8∧w8.cell? ⟨bx,0,none⟩=some (.slice pa n1 ka)∧w8.cell? ⟨bx,1,none⟩=some (.int .i64 tf)∧w8.cell? ⟨bx,2,none⟩=some (.int .i64 tt)∧w8.cell? ⟨bx,3,none⟩=some (.slice pb n2 kb):=⟨ext_grown (HXq.out.trans X6a) gr8 (fun x hx=>(HUL.out x hx).1),cell_grown gr8 (((Ext.refl w6).alloc _).at K6.2.1) (fun x hx=>HUXq.out x hx),cell_grown gr8 (((Ext.refl w6).alloc _).at K6.2.2.1) (fun x hx=>HUXq.out x hx),cell_grown gr8 (((Ext.refl w6).alloc _).at K6.2.2.2.1) (fun x hx=>HUXq.out x hx),cell_grown gr8 (((Ext.refl w6).alloc _).at K6.2.2.2.2) (fun x hx=>HUXq.out x hx)⟩))
        all_goals
         have OU9:=Lib.hid (show OwnOf Rep.tup w8 (fun _=>True) w2.heap.size 96 (.slice (some ⟨g8,0,none⟩) ((ys).length+1) cap8) (splitT (l.take (k+1)) Q)from by rw [HFIN.out];exact own8)
         have X9:=Lib.hid K8.1
         clear own8 gr8 hg8 K8 K6 K5 X6a hS0
         go_wp2_with fail
         go_roundg (N - (k+1))
         case measure=>omega
         case rel=>exact⟨k+1,_,by omega,rfl,by go_num,rfl,OU9.out,X9.out⟩
       ·have hnge : ¬tt≤p:=hge
        by_cases hgt:f<p
        ·rw [cutT,if_neg hge,if_pos hgt]at hcut
         have HFIN:=Lib.hid (show (ys ++ [⟨tv,f,p,tl⟩])++cutT ⟨tv,tf,tt,tl⟩ p (R.drop (j+1))=ys0++cutT ⟨tv,tf,tt,tl⟩ tf R from by rw [←hcut,List.append_assoc];rfl)
         have HFR:=Lib.hid (show okI f∧okI p from ⟨HFO.out,hpo⟩)
         have HPT2:=Lib.hid (show p<tt from by omega)
         clear hcut hpo hyr
         have OUq:=OUI
         have HUXq:=HUXI
         have HXq:=Lib.hid AI.out.1
         obtain⟨a0,a1,a2,a3⟩:=AI.out.2
         have HYB:=Lib.hid (show ys.length≤6000 from by have h1:=HYL.out;have h2:=HLEN.out;have h3:=HNR.out;have h4:=HQL.out;have h5:=HNRM.out;have h6:=HNQ.out;omega)
         clear OUI HUXI
         have eb:=cell_lt a0
         have HUL:=Lib.hid (show ∀x,(uq).ownBlock=some x→w2.heap.size≤x∧x<(wr).heap.size from fun x hx=>OUq.out.lt x hx)
         have B1:(ys).length+1≤maxLen:=by have:=HYB.out;unfold maxLen;omega
         have B2:((ys).length+1)*64≤140737488355328:=by have:=HYB.out;omega
         have HW24:=Lib.hid (show w2.heap.size≤(wr).heap.size from HXq.out.size)
         have K4:=AI
         go_wp2_with fail
         refine(tup_row _ _ _ _ _ _ _ _ _).mono ?_
         rintro e w5 ⟨rfl,g5⟩
         have x5:=Gro.ext g5
         have X5:=Lib.hid (show Ext (wr) w5 from x5)
         have K5:Ext w2 w5∧w5.cell? ⟨bx,0,none⟩=some (.slice pa n1 ka)∧w5.cell? ⟨bx,1,none⟩=some (.int .i64 tf)∧w5.cell? ⟨bx,2,none⟩=some (.int .i64 tt)∧w5.cell? ⟨bx,3,none⟩=some (.slice pb n2 kb):=keepE4 (K4.out) x5
         go_wp2_with fail
         refine(during_any _ _ ⟨tv,tl⟩ f p _ (by exact G04.out.ext (HXq.out.trans X5.out).full) (by exact G14.out.ext (HXq.out.trans X5.out).full) HFK.out.1 HFK.out.2).mono ?_
         rintro e w6 ⟨da,db,rfl,sa,sb,x6⟩
         have SA:=Lib.hid sa
         have SB:=Lib.hid sb
         obtain⟨pc,kc,rfl,_⟩:=sa.form
         obtain⟨pd,kd,rfl,_⟩:=sb.form
         have X6:=Lib.hid (X5.out.trans x6)
         have K6:Ext w2 w6∧w6.cell? ⟨bx,0,none⟩=some (.slice pa n1 ka)∧w6.cell? ⟨bx,1,none⟩=some (.int .i64 tf)∧w6.cell? ⟨bx,2,none⟩=some (.int .i64 tt)∧w6.cell? ⟨bx,3,none⟩=some (.slice pb n2 kb):=keepE4 K5 x6
         dsimp only
         dsimp only at SA SB
         rw [←HN1.out]at SA
         rw [←HN2.out]at SB
         rw [←HN1.out,←HN2.out]
         clear sa sb
         go_wp2_with (at_builtin;go_loud (refine wpList_append_one Rep.tup (fun _=>True) rfl _ _ 22 rfl w2.heap.size 96 i2 _ 64 Tryz.underlying22 hi2 hz20 hz21 hz22 rfl (by decide) (uq) (ys) rfl (by exact OUq.out.ext (X6.out.alloc _)) ⟨_,0,none⟩ 1 ⟨tv,f,p,tl⟩ [.slice pc n1 kc,.int .i64 f,.int .i64 p,.slice pd n2 kd] rfl (by have hsub : ∀(o:Obj),Sub (on w6 (since w5)) (on (w6.alloc o) (avoid (fun _=>True) (uq))):=fun o=>(on_mono w6 fun x _ hx=>⟨fun e=>by(have h1:=(HUL.out x e.symm).2;have h2:=X5.out.size;simp [since]at hx;omega),trivial⟩).trans (((Ext.refl w6).alloc o).sub _);exact⟨_,_,rfl,SA.out.ext (hsub _),SB.out.ext (hsub _),by have h:=HFR.out;exact h.1,by have h:=HFR.out;exact h.2⟩) (by exact cells_new _ [.slice pc n1 kc,.int .i64 f,.int .i64 p,.slice pd n2 kd] _) B1 B2 (by exact Nat.le_trans HW24.out (X6.out.alloc (.cells [.slice pc n1 kc,.int .i64 f,.int .i64 p,.slice pd n2 kd].toArray 96)).size) ?_))
         intro g8 cap8 w8 own8 gr8 hg8
         have X6a:=X6.out.alloc (.cells [.slice pc n1 kc,.int .i64 f,.int .i64 p,.slice pd n2 kd].toArray 96)
         have K8:Ext w2 w8∧w8.cell? ⟨bx,0,none⟩=some (.slice pa n1 ka)∧w8.cell? ⟨bx,1,none⟩=some (.int .i64 tf)∧w8.cell? ⟨bx,2,none⟩=some (.int .i64 tt)∧w8.cell? ⟨bx,3,none⟩=some (.slice pb n2 kb):=⟨ext_grown (HXq.out.trans X6a) gr8 (fun x hx=>(HUL.out x hx).1),cell_grown gr8 (((Ext.refl w6).alloc _).at K6.2.1) (fun x hx=>HUXq.out x hx),cell_grown gr8 (((Ext.refl w6).alloc _).at K6.2.2.1) (fun x hx=>HUXq.out x hx),cell_grown gr8 (((Ext.refl w6).alloc _).at K6.2.2.2.1) (fun x hx=>HUXq.out x hx),cell_grown gr8 (((Ext.refl w6).alloc _).at K6.2.2.2.2) (fun x hx=>HUXq.out x hx)⟩
         have OU9:=Lib.hid own8
         have K9:=Lib.hid K8
         have HU9:=Lib.hid (show ∀x,(Value.slice (some ⟨g8,0,none⟩) (ys.length+1) cap8).ownBlock=some x→x≠bx from fun x hx=>by
          rcases hg8 with h | h
          ·exact HUXq.out x (h.trans hx)
          ·have h2:g8=x:=Option.some.inj hx
           have h3:wr.heap.size≤g8:=by have h5:=X6.out.size;rw [h];omega
           intro h4
           omega)
         clear own8 gr8 hg8 K8 K6 K5 X6a a0 a1 a2 a3 c0
         go_wp2_with fail
         go_roundg (nr - (j+1))
         case measure=>omega
         case rel=>exact⟨j+1,_,ys ++ [(⟨tv,f,p,tl⟩:Tup)],p,by omega,rfl,by go_num,rfl,rfl,OU9.out,HFIN.out,HPT2.out,HFR.out.2,by have:=HLEN.out;show (ys ++ [(⟨tv,f,p,tl⟩:Tup)]).length≤ys0.length+(j+1);simp;omega,K9.out,HU9.out⟩
        ·rw [cutT,if_neg hge,if_neg hgt]at hcut
         have HCUT2:=Lib.hid hcut
         have AJ:=AI
         obtain⟨_,a0,a1,a2,a3⟩:=AI.out
         have eb:=cell_lt a0
         clear hcut hpo hyr HCUT
         go_wp2_with fail
         go_roundg (nr - (j+1))
         case measure=>omega
         case rel=>exact⟨j+1,_,ys,f,by omega,rfl,by go_num,rfl,rfl,OUI.out,HCUT2.out,HFT.out,HFO.out,by have:=HLEN.out;show ys.length≤ys0.length+(j+1);omega,AJ.out,HUXI.out⟩
      ·have hd : ¬(j:Int)<(nr:Int):=by omega
       have hnil:R.drop j = []:=List.drop_eq_nil_of_le (by have:=HNR.out;omega)
       have hcut:=HCUT.out
       rw [hnil,cutT]at hcut
       have HFIN:=Lib.hid (show splitT (l.take (k+1)) Q=ys ++ [⟨tv,f,tt,tl⟩]from by rw [HFIN0.out,←hcut])
       have HFR:=Lib.hid (show okI f∧okI tt from ⟨HFO.out,HRR.out.2⟩)
       clear hcut hnil
       have OUq:=OUI
       have HUXq:=HUXI
       have HXq:=Lib.hid AI.out.1
       obtain⟨a0,a1,a2,a3⟩:=AI.out.2
       have HYB:=Lib.hid (show ys.length≤6000 from by have h1:=HYL.out;have h2:=HLEN.out;have h3:=HNR.out;have h4:=HQL.out;have h5:=HNRM.out;have h6:=HNQ.out;omega)
       clear OUI HUXI
       have eb:=cell_lt a0
       have HUL:=Lib.hid (show ∀x,(uq).ownBlock=some x→w2.heap.size≤x∧x<(wr).heap.size from fun x hx=>OUq.out.lt x hx)
       have B1:(ys).length+1≤maxLen:=by have:=HYB.out;unfold maxLen;omega
       have B2:((ys).length+1)*64≤140737488355328:=by have:=HYB.out;omega
       have HW24:=Lib.hid (show w2.heap.size≤(wr).heap.size from HXq.out.size)
       have hS0:Ext w2 (wr).drew∧(wr).drew.cell? ⟨bx,0,none⟩=some (.slice pa n1 ka)∧(wr).drew.cell? ⟨bx,1,none⟩=some (.int .i64 tf)∧(wr).drew.cell? ⟨bx,2,none⟩=some (.int .i64 tt)∧(wr).drew.cell? ⟨bx,3,none⟩=some (.slice pb n2 kb):=⟨HXq.out.drew,a0,a1,a2,a3⟩
       go_wp2_with fail
       go_upto_region 17 with fail
       clear a0 a1 a2 a3
       go_region_held3 (fun w'=>Ext w2 w'∧w'.cell? ⟨bx,0,none⟩=some (.slice pa n1 ka)∧w'.cell? ⟨bx,1,none⟩=some (.int .i64 tf)∧w'.cell? ⟨bx,2,none⟩=some (.int .i64 tt)∧w'.cell? ⟨bx,3,none⟩=some (.slice pb n2 kb))
        (first |with_reducible assumption | with_reducible exact keepE4 (by assumption) ((Ext.refl _).alloc _))
        (first
         |(go_at_call 99;refine(tup_row _ _ _ _ _ _ _ _ _).mono ?_;rintro e w5 ⟨rfl,g5⟩;have x5:=Gro.ext g5;have X5:=Lib.hid (show Ext (wr) w5 from (Ext.refl _).drew.trans x5);have K5:Ext w2 w5∧w5.cell? ⟨bx,0,none⟩=some (.slice pa n1 ka)∧w5.cell? ⟨bx,1,none⟩=some (.int .i64 tf)∧w5.cell? ⟨bx,2,none⟩=some (.int .i64 tt)∧w5.cell? ⟨bx,3,none⟩=some (.slice pb n2 kb):=keepE4 (hS0) x5)
         |(go_at_call 57;refine(during_any _ _ ⟨tv,tl⟩ f tt _ (by exact G04.out.ext (HXq.out.trans X5.out).full) (by exact G14.out.ext (HXq.out.trans X5.out).full) HFK.out.1 HFK.out.2).mono ?_;rintro e w6 ⟨da,db,rfl,sa,sb,x6⟩;have SA:=Lib.hid sa;have SB:=Lib.hid sb;obtain⟨pc,kc,rfl,_⟩:=sa.form;obtain⟨pd,kd,rfl,_⟩:=sb.form;have X6:=Lib.hid (X5.out.trans x6);have K6:Ext w2 w6∧w6.cell? ⟨bx,0,none⟩=some (.slice pa n1 ka)∧w6.cell? ⟨bx,1,none⟩=some (.int .i64 tf)∧w6.cell? ⟨bx,2,none⟩=some (.int .i64 tt)∧w6.cell? ⟨bx,3,none⟩=some (.slice pb n2 kb):=keepE4 K5 x6;dsimp only;dsimp only at SA SB;rw [←HN1.out]at SA;rw [←HN2.out]at SB;rw [←HN1.out,←HN2.out];clear sa sb)
         |(refine step_append_one Rep.tup (fun _=>True) rfl _ _ 22 rfl w2.heap.size 96 i2 _ 64 Tryz.underlying22 hi2 hz20 hz21 hz22 rfl (by decide) (uq) (ys) rfl (by exact OUq.out.ext (X6.out.alloc _)) ⟨_,0,none⟩ 1 ⟨tv,f,tt,tl⟩ [.slice pc n1 kc,.int .i64 f,.int .i64 tt,.slice pd n2 kd] rfl (by have hsub : ∀(o:Obj),Sub (on w6 (since w5)) (on (w6.alloc o) (avoid (fun _=>True) (uq))):=fun o=>(on_mono w6 fun x _ hx=>⟨fun e=>by(have h1:=(HUL.out x e.symm).2;have h2:=X5.out.size;simp [since]at hx;omega),trivial⟩).trans (((Ext.refl w6).alloc o).sub _);exact⟨_,_,rfl,SA.out.ext (hsub _),SB.out.ext (hsub _),by have h:=HFR.out;exact h.1,by have h:=HFR.out;exact h.2⟩) (by exact cells_new _ [.slice pc n1 kc,.int .i64 f,.int .i64 tt,.slice pd n2 kd] _) B1 B2 (by exact Nat.le_trans HW24.out (X6.out.alloc (.cells [.slice pc n1 kc,.int .i64 f,.int .i64 tt,.slice pd n2 kd].toArray 96)).size) ?_;intro g8 cap8 w8 own8 gr8 hg8;have X6a:=X6.out.alloc (.cells [.slice pc n1 kc,.int .i64 f,.int .i64 tt,.slice pd n2 kd].toArray 96);have K8:Ext w2 w8∧w8.cell? ⟨bx,0,none⟩=some (.slice pa n1 ka)∧w8.cell? ⟨bx,1,none⟩=some (.int .i64 tf)∧w8.cell? ⟨bx,2,none⟩=some (.int .i64 tt)∧w8.cell? ⟨bx,3,none⟩=some (.slice pb n2 kb):=⟨ext_grown (HXq.out.trans X6a) gr8 (fun x hx=>(HUL.out x hx).1),cell_grown gr8 (((Ext.refl w6).alloc _).at K6.2.1) (fun x hx=>HUXq.out x hx),cell_grown gr8 (((Ext.refl w6).alloc _).at K6.2.2.1) (fun x hx=>HUXq.out x hx),cell_grown gr8 (((Ext.refl w6).alloc _).at K6.2.2.2.1) (fun x hx=>HUXq.out x hx),cell_grown gr8 (((Ext.refl w6).alloc _).at K6.2.2.2.2) (fun x hx=>HUXq.out x hx)⟩))
       all_goals
        have OU9:=Lib.hid (show OwnOf Rep.tup w8 (fun _=>True) w2.heap.size 96 (.slice (some ⟨g8,0,none⟩) ((ys).length+1) cap8) (splitT (l.take (k+1)) Q)from by rw [HFIN.out];exact own8)
        have X9:=Lib.hid K8.1
        clear own8 gr8 hg8 K8 K6 K5 X6a hS0
        go_wp2_with fail
        go_roundg (N - (k+1))
        case measure=>omega
        case rel=>exact⟨k+1,_,by omega,rfl,by go_num,rfl,OU9.out,X9.out⟩
  ·have hkN:k=N:=by omega
   have hd : ¬(k:Int)<(N:Int):=by omega
   have HFI:=Lib.hid (show l.take k=l from by rw [hkN,HN.out,List.take_length])
   have HX:=Lib.hid (X2.out.trans hx)
   have HO:=Lib.hid (OU.out.weak (S:=fun _=>True) (T:=fun _=>True) (fun _ _ h=>h) X2.out.size)
   clear hkN hx OU
   go_wp2_with fail
   go_ret
   exact⟨_,rfl,by have h:=HO.out;rw [HFI.out]at h;exact h,HX.out⟩
end Go.Proofs.YtkddkbpoefidpaaGreatDoor
namespace Go.Proofs.YtkddkbpoefidpaaGreatDoor
open Go.RowKit
def binUpto (G:Int→List Row) (P:List Int):Nat→List Tup
 |0=> []
 |i+1=>binUpto G P i++(G P[i]!).map fun r=>tupOf r ⟨P[i]!,P[i+1]!⟩
theorem piece_slice (rs:List Row) (x y t:Int) (h:validB x y=true):sliceRows (rs.map fun r=>tupOf r ⟨x,y⟩) t=if x≤t∧t<y then rs else []:=by
 induction rs with
 |nil=>split <;> rfl
 |cons r rs ih =>
  rw [List.map_cons,show tupOf r ⟨x,y⟩::rs.map (fun r=>tupOf r ⟨x,y⟩) = [tupOf r ⟨x,y⟩]++rs.map (fun r=>tupOf r ⟨x,y⟩)from rfl,sliceRows_append,ih]
  have hh:holdsAt t (tupOf r ⟨x,y⟩)=decide (x≤t∧t<y):=by
   unfold holdsAt
   rw [show validT (tupOf r ⟨x,y⟩)=true from h,Bool.true_and,Bool.eq_iff_iff]
   simp only [Bool.and_eq_true,decide_eq_true_eq]
   exact Iff.rfl
  unfold sliceRows
  rw [List.filter_cons,List.filter_nil,hh]
  by_cases c:x≤t∧t<y
  ·rw [if_pos c,if_pos (decide_eq_true c),if_pos c];rfl
  ·rw [if_neg c,if_neg (by simpa using c),if_neg c];rfl
theorem pts_valid {P:List Int} (hP:P.Pairwise (· < ·)) (hr : ∀x∈P,0≤x∧x≤1099511627776) {i:Nat} (hi:i+1<P.length):validB P[i]! P[i+1]! = true:=by
 have a1:=asc_at hP (show i<i+1 by omega) hi
 have a2:=hr P[i]! (by rw [getElem!_pos P i (by omega)];exact List.getElem_mem _)
 have a3:=hr P[i+1]! (by rw [getElem!_pos P (i+1) (by omega)];exact List.getElem_mem _)
 unfold validB
 simp only [Bool.and_eq_true,decide_eq_true_eq]
 omega
theorem bin_at (G:Int→List Row) {P:List Int} (hP:P.Pairwise (· < ·)) (hr : ∀x∈P,0≤x∧x≤1099511627776) (t:Int) (k:Nat) (hk:k≤P.length - 1) :
  (∀i,i<k→P[i]! ≤t→t<P[i+1]! →sliceRows (binUpto G P k) t=G P[i]!)∧((∀i,i<k→ ¬(P[i]! ≤t∧t<P[i+1]!))→sliceRows (binUpto G P k) t = []):=by
 induction k with
 |zero=>exact⟨fun i h=>absurd h (Nat.not_lt_zero _),fun _=>rfl⟩
 |succ k ih =>
  obtain⟨h1,h2⟩:=ih (by omega)
  have hs:sliceRows (binUpto G P (k+1)) t=sliceRows (binUpto G P k) t++if P[k]! ≤t∧t<P[k+1]! then G P[k]! else []:=by
   show sliceRows (binUpto G P k++_) t=_
   rw [sliceRows_append,piece_slice _ _ _ _ (pts_valid hP hr (by omega))]
  rw [hs]
  refine⟨fun i hi g1 g2=> ?_,fun g=> ?_⟩
  ·by_cases e:i=k
   ·subst e
    rw [h2 (fun i' hi' ⟨g3,g4⟩=>by
     have:P[i'+1]! ≤P[i]! := by
      by_cases e2:i'+1=i
      ·rw [e2];exact Int.le_refl _
      ·have:=asc_at hP (show i'+1<i by omega) (by omega);omega
     omega),if_pos ⟨g1,g2⟩,List.nil_append]
   ·rw [h1 i (by omega) g1 g2,if_neg (fun⟨g3,g4⟩=>by
     have:P[i+1]! ≤P[k]! := by
      by_cases e2:i+1=k
      ·rw [e2];exact Int.le_refl _
      ·have:=asc_at hP (show i+1<k by omega) (by omega);omega
     omega),List.append_nil]
  ·rw [h2 fun i hi=>g i (by omega),if_neg (g k (by omega)),List.nil_append]
theorem gap_or {P:List Int} (t:Int) : ∀n,n≤P.length - 1→(∃i,i<n∧P[i]! ≤t∧t<P[i+1]!)∨(t<P[0]! ∨P[n]! ≤t):=by
 intro n
 induction n with
 |zero=>intro _;right;omega
 |succ n ih =>
  intro hn
  rcases ih (by omega)with ⟨i,h1,h2⟩ | h
  ·exact .inl ⟨i,by omega,h2⟩
  ·rcases h with h | h
   ·exact .inr (.inl h)
   ·by_cases c:P[n+1]! ≤t
    ·exact .inr (.inr c)
    ·exact .inl ⟨n,by omega,h,by omega⟩
theorem slice_out {P:List Int} (hP:P.Pairwise (· < ·)) {t:Int} (l:List Tup) (hb : ∀x∈bnd l,x∈P) (h:t<P[0]! ∨P[P.length - 1]! ≤t):sliceRows l t = []:=by
 have:=cnt_out hP l hb h
 rw [←sliceRows_len]at this
 exact List.length_eq_zero_iff.1 this
theorem bin_rows (g:List Row→List Row→List Row) (a b:List Tup) (hg:g [] [] = []) (t:Int):sliceRows (binUpto (fun x=>g (sliceRows a x) (sliceRows b x)) (pts (a++b)) ((pts (a++b)).length - 1)) t=g (sliceRows a t) (sliceRows b t):=by
 obtain⟨p1,p2,_⟩:=pts_law (a++b)
 have hr : ∀x∈pts (a++b),0≤x∧x≤1099511627776:=fun x hx=>bnd_rng _ x ((p2 x).1 hx)
 have ha : ∀x∈bnd a,x∈pts (a++b):=fun x hx=>(p2 x).2 (by rw [bnd_append];exact List.mem_append_left _ hx)
 have hb : ∀x∈bnd b,x∈pts (a++b):=fun x hx=>(p2 x).2 (by rw [bnd_append];exact List.mem_append_right _ hx)
 obtain⟨h1,h2⟩:=bin_at (fun x=>g (sliceRows a x) (sliceRows b x)) p1 hr t ((pts (a++b)).length - 1) (Nat.le_refl _)
 rcases gap_or (P:=pts (a++b)) t ((pts (a++b)).length - 1) (Nat.le_refl _)with ⟨i,hi,g1,g2⟩ | h
 ·rw [h1 i hi g1 g2]
  show g (sliceRows a _) (sliceRows b _)=_
  have e1:sliceRows a (pts (a++b))[i]! = sliceRows a t:=by unfold sliceRows;rw [filter_between p1 (by omega) g1 g2 a ha]
  have e2:sliceRows b (pts (a++b))[i]! = sliceRows b t:=by unfold sliceRows;rw [filter_between p1 (by omega) g1 g2 b hb]
  rw [e1,e2]
 ·rw [slice_out p1 a ha h,slice_out p1 b hb h,hg]
  refine h2 fun i hi ⟨g3,g4⟩=> ?_
  rcases h with h | h
  ·have:(pts (a++b))[0]! ≤(pts (a++b))[i]! := by
    by_cases e:i=0
    ·rw [e];exact Int.le_refl _
    ·have:=asc_at p1 (show 0<i by omega) (by omega);omega
   omega
  ·have:(pts (a++b))[i+1]! ≤(pts (a++b))[(pts (a++b)).length - 1]! := by
    by_cases e:i+1=(pts (a++b)).length - 1
    ·rw [e];exact Int.le_refl _
    ·have:=asc_at p1 (show i+1<(pts (a++b)).length - 1 by omega) (by omega);omega
   omega
noncomputable def refBin (g:List Row→List Row→List Row) (a b:List Tup):List Tup:=binUpto (fun x=>g (sortBy cmpRow (sliceRows a x)) (sortBy cmpRow (sliceRows b x))) (pts (a++b)) ((pts (a++b)).length - 1)
theorem refBin_rows (g:List Row→List Row→List Row) (hg:g [] [] = []) (hp : ∀A A' B B',A.Perm A'→B.Perm B'→(g A B).Perm (g A' B')) (a b:List Tup) (t:Int):(sliceRows (refBin g a b) t).Perm (g (sliceRows a t) (sliceRows b t)):=by
 have h:=bin_rows (fun A B=>g (sortBy cmpRow A) (sortBy cmpRow B)) a b (by show g (sortBy cmpRow []) (sortBy cmpRow []) = [];rw [sortBy_short cmpRow [] (by simp)];exact hg) t
 unfold refBin
 rw [h]
 exact hp _ _ _ _ (sortBy_perm _ _) (sortBy_perm _ _)
theorem refBin_inner (tr:List Val→Bool) (a b:List Tup):normT (refBin (snapJoin tr) a b)=innerT tr a b :=
 normT_congr fun t=>(refBin_rows (snapJoin tr) rfl (fun _ _ _ _ h k=>snapJoin_perm tr h k) a b t).trans (join_rows tr a b t).symm
theorem refBin_left (tr:List Val→Bool) (w:Nat) (a b:List Tup):normT (refBin (snapLeft tr w) a b)=leftT tr w a b :=
 normT_congr fun t=>(refBin_rows (snapLeft tr w) rfl (fun _ _ _ _ h k=>snapLeft_perm tr w h k) a b t).trans (leftRaw_rows tr w a b t).symm
theorem cutT_gaps {Q:List Int} (t:Tup) (ht:t.to_∈Q) : ∀(P:List Int) (f:Int),P.Pairwise (· ≤ ·)→(∀p∈P,p∈Q)→(∀q∈Q,q≤f∨q∈P)→f∈Q→f<t.to_→ ∀y∈cutT t f P,y.from_∈Q∧y.to_∈Q∧y.from_<y.to_∧ ∀q∈Q,q≤y.from_∨y.to_≤q:=by
 intro P
 induction P with
 |nil =>
  intro f _ _ h2 h3 h4 y hy
  rw [cutT,List.mem_singleton]at hy
  subst hy
  refine⟨h3,ht,h4,fun q hq=> .inl ?_⟩
  rcases h2 q hq with h | h
  ·exact h
  ·cases h
 |cons p P ih =>
  intro f h0 h1 h2 h3 h4 y hy
  obtain⟨g1,g2⟩:=List.pairwise_cons.1 h0
  rw [cutT]at hy
  split at hy
  ·rename_i c
   rw [List.mem_singleton]at hy
   subst hy
   refine⟨h3,ht,h4,fun q hq=> ?_⟩
   rcases h2 q hq with h | h
   ·exact .inl h
   ·right
    rcases List.mem_cons.1 h with rfl | h
    ·exact c
    ·have:=g1 q h;show t.to_≤q;omega
  ·rename_i c
   split at hy
   ·rename_i c2
    rcases List.mem_cons.1 hy with rfl | hy
    ·refine⟨h3,h1 p (by simp),c2,fun q hq=> ?_⟩
     rcases h2 q hq with h | h
     ·exact .inl h
     ·right
      rcases List.mem_cons.1 h with rfl | h
      ·exact Int.le_refl _
      ·exact g1 q h
    ·refine ih p g2 (fun q hq=>h1 q (by simp [hq])) (fun q hq=> ?_) (h1 p (by simp)) (by omega) y hy
     rcases h2 q hq with h | h
     ·exact .inl (by omega)
     ·rcases List.mem_cons.1 h with rfl | h
      ·exact .inl (Int.le_refl _)
      ·exact .inr h
   ·rename_i c2
    refine ih f g2 (fun q hq=>h1 q (by simp [hq])) (fun q hq=> ?_) h3 h4 y hy
    rcases h2 q hq with h | h
    ·exact .inl h
    ·rcases List.mem_cons.1 h with rfl | h
     ·exact .inl (by omega)
     ·exact .inr h
def GapT (Q:List Int) (y:Tup):Prop:=y.from_∈Q∧y.to_∈Q∧y.from_<y.to_∧ ∀q∈Q,q≤y.from_∨y.to_≤q
theorem splitT_gaps {Q:List Int} (hQ:Q.Pairwise (· ≤ ·)) (l:List Tup) (hb : ∀x∈bnd l,x∈Q) : ∀y∈splitT l Q,GapT Q y:=by
 intro y hy
 unfold splitT at hy
 obtain⟨t,ht,hy⟩:=List.mem_flatMap.1 hy
 split at hy
 ·rename_i c
  obtain⟨b1,b2⟩:=bnd_mem ht c
  have hv:=validB_lt (show validB t.from_ t.to_=true from c)
  exact cutT_gaps t (hb _ b2) Q t.from_ hQ (fun _ h=>h) (fun q hq=> .inr hq) (hb _ b1) hv.2.1 y hy
 ·cases hy
theorem gaps_eq {Q:List Int} {x y:Tup} (hx:GapT Q x) (hy:GapT Q y) {t:Int} (h1:x.from_≤t∧t<x.to_) (h2:y.from_≤t∧t<y.to_):tupPer y=tupPer x:=by
 obtain⟨x1,x2,x3,x4⟩:=hx
 obtain⟨y1,y2,y3,y4⟩:=hy
 have e1:y.from_=x.from_:=by
  have g1:=x4 _ y1
  have g2:=y4 _ x1
  omega
 have e2:y.to_=x.to_:=by
  have g1:=x4 _ y2
  have g2:=y4 _ x2
  omega
 unfold tupPer
 rw [e1,e2]
open Classical in
noncomputable def alignRow (tr:List Val→Bool) (B:List Tup) (x:Tup):List Tup:=((B.filter fun y=>decide (tupPer y=tupPer x)).map fun y=>tupOf (pairRow (tupRow x) (tupRow y)) (tupPer x)).filter fun z=>tr z.vals
noncomputable def alignRaw (tr:List Val→Bool) (A B:List Tup):List Tup:=A.flatMap (alignRow tr B)
open Classical in
theorem alignRow_slice (tr:List Val→Bool) {Q:List Int} (hr : ∀x∈Q,0≤x∧x≤1099511627776) {B:List Tup} (hB : ∀y∈B,GapT Q y) {x:Tup} (hx:GapT Q x) (t:Int):sliceRows (alignRow tr B x) t=if holdsAt t x=true then joinRow tr (sliceRows B t) (tupRow x)else []:=by
 have hval : ∀y,GapT Q y→validT y=true:=fun y h=>by
  have a1:=hr _ h.1
  have a2:=hr _ h.2.1
  have a3:=h.2.2.1
  unfold validT validB
  simp only [Bool.and_eq_true,decide_eq_true_eq]
  omega
 have hhold : ∀y,GapT Q y→(holdsAt t y=true↔y.from_≤t∧t<y.to_):=fun y h=>by
  unfold holdsAt
  rw [hval y h,Bool.true_and]
  simp
 have hz : ∀r,holdsAt t (tupOf r (tupPer x))=holdsAt t x:=fun r=>rfl
 unfold alignRow sliceRows
 by_cases c:holdsAt t x=true
 ·rw [if_pos c]
  rw [List.filter_eq_self.2 (fun z hz'=>by
   obtain⟨hz1,_⟩:=List.mem_filter.1 hz'
   obtain⟨y,_,rfl⟩:=List.mem_map.1 hz1
   rw [hz];exact c)]
  have hf:(B.filter fun y=>decide (tupPer y=tupPer x))=B.filter (holdsAt t):=List.filter_congr fun y hy=>by
   rw [Bool.eq_iff_iff,decide_eq_true_eq,hhold y (hB y hy)]
   have hxt:=(hhold x hx).1 c
   constructor
   ·intro e
    have e1:y.from_=x.from_:=congrArg Per.from_ e
    have e2:y.to_=x.to_:=congrArg Per.to_ e
    omega
   ·intro h
    exact gaps_eq hx (hB y hy) hxt h
  rw [hf]
  unfold joinRow
  rw [List.map_map,List.filter_map,List.map_map,List.filter_map]
  rfl
 ·rw [if_neg c,List.map_eq_nil_iff,List.filter_eq_nil_iff]
  intro z hz'
  obtain⟨hz1,_⟩:=List.mem_filter.1 hz'
  obtain⟨y,_,rfl⟩:=List.mem_map.1 hz1
  rw [hz];exact c
theorem align_slice (tr:List Val→Bool) {Q:List Int} (hr : ∀x∈Q,0≤x∧x≤1099511627776) {A B:List Tup} (hA : ∀y∈A,GapT Q y) (hB : ∀y∈B,GapT Q y) (t:Int):sliceRows (alignRaw tr A B) t=snapJoin tr (sliceRows A t) (sliceRows B t):=by
 unfold alignRaw snapJoin
 rw [slice_flatX,slice_flatRow,←flat_filter]
 exact flat_congr fun x hx=>alignRow_slice tr hr hB (hA x hx) t
theorem sortI_pts (l:List Tup):sortI (pts l)=pts l:=by
 obtain⟨p1,_,_⟩:=pts_law l
 refine List.Perm.eq_of_pairwise (le:=(· ≤ ·)) (fun x y _ _ h1 h2=>by omega) (sortI_asc _) (p1.imp fun h=>by omega) (sortI_perm _)
theorem aligned (tr:List Val→Bool) (a b:List Tup):normT (alignRaw tr (splitT a (pts (a++b))) (splitT b (pts (a++b))))=innerT tr a b:=by
 obtain⟨p1,p2,_⟩:=pts_law (a++b)
 have hr : ∀x∈pts (a++b),0≤x∧x≤1099511627776:=fun x hx=>bnd_rng _ x ((p2 x).1 hx)
 have hle:(pts (a++b)).Pairwise (· ≤ ·):=p1.imp fun h=>by omega
 refine normT_congr fun t=> ?_
 rw [align_slice tr hr (splitT_gaps hle a fun x hx=>(p2 x).2 (by rw [bnd_append];exact List.mem_append_left _ hx)) (splitT_gaps hle b fun x hx=>(p2 x).2 (by rw [bnd_append];exact List.mem_append_right _ hx)),split_slice,split_slice]
 exact(join_rows tr a b t).symm
end Go.Proofs.YtkddkbpoefidpaaGreatDoor
