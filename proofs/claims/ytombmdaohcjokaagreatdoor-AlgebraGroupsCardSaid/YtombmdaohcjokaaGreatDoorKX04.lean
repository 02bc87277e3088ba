/- joined texts of a proof: KeyW, RowK, NormW, GrpI, GenA, EvalC, AggW, BndW, ClipW, BagM, RowW, GrpF, GrpQ, GrpA, PlainX, EvalF, EvalM, EvalA -/
import Derived.Test.YtombmdaohcjokaaGreatDoorKX03
import Derived.Lib.ItoaLen
import Derived.Deep.RegionHeld3
import Derived.Maps.Own
import Derived.Laws.OwnMore
import Derived.Test.YtombmdaohcjokaaGreatDoorKX01
import Derived.WalkMore
import Derived.Deep.RegionLaw
import Derived.OneCell
import Derived.Laws.Bits64
namespace Go.Proofs.YtombmdaohcjokaaGreatDoor
open Go.RowKit
theorem keyVals_take (vs:List Val) (k:Nat) (h:k<vs.length):keyVals (vs.take (k+1))=keyVals (vs.take k)++keyVal vs[k]:=by
 rw [List.take_succ_eq_append_getElem h]
 unfold keyVals
 rw [List.flatMap_append,List.flatMap_cons,List.flatMap_nil,List.append_nil]
theorem itoa_len (n:Int) (h0 : -9223372036854775808≤n) (h1:n≤9223372036854775807):(Lib.itoa n).length≤21:=Lib.itoa_length_le n h0 h1
def fitVals (vs:List Val):Prop:=vs.length≤1048576∧ ∀v∈vs,v.s.size≤1048576
theorem keyVal_bytes (yk yn:Int) (ys:ByteArray):(((((((⟨(Lib.itoa yk).toArray⟩:ByteArray)++⟨#[44]⟩)++⟨(Lib.itoa yn).toArray⟩)++⟨#[44]⟩)++⟨(Lib.itoa (ys.size:Int)).toArray⟩)++⟨#[58]⟩)++ys).data.toList=keyVal ⟨yk,yn,ys⟩:=by
 simp [keyVal,ByteArray.data_append]
theorem keyVal_len {yk yn:Int} {ys:ByteArray} (h1:(Lib.itoa yk).length≤21) (h2:(Lib.itoa yn).length≤21) (h3:(Lib.itoa (ys.size:Int)).length≤21) (h4:ys.size≤1048576):(keyVal ⟨yk,yn,ys⟩).length≤1048650:=by
 have e:ys.data.toList.length=ys.size:=Array.length_toList
 simp only [keyVal,List.length_append,List.length_cons,e]
 omega
theorem of_list (s:ByteArray):s=⟨s.data.toList.toArray⟩:=by
 obtain⟨⟨l⟩⟩:=s
 rfl
theorem writeKey (b:Nat) (bs:List UInt8) (yk yn:Int) (ys:ByteArray) (w:World) (h:Bld b bs w) (hlen:bs.length+(keyVal ⟨yk,yn,ys⟩).length≤140737488355328) :
  Calls Tryz.prog 126 #[.pointer (some ⟨b,0,none⟩),.string (((((((⟨(Lib.itoa yk).toArray⟩:ByteArray)++⟨#[44]⟩)++⟨(Lib.itoa yn).toArray⟩)++⟨#[44]⟩)++⟨(Lib.itoa (ys.size:Int)).toArray⟩)++⟨#[58]⟩)++ys)] w fun e w'=>e = .returned (.tuple #[.int .i64 (keyVal ⟨yk,yn,ys⟩).length,.nilIface])∧Bld b (bs++keyVal ⟨yk,yn,ys⟩) w'∧Below b w w'∧Lib.OthersKept 5 (some b) w w':=by
 rw [of_list (_++ys),keyVal_bytes]
 exact writeString_any b bs _ w h hlen
theorem bldE {b:Nat} {bs:List UInt8} {w w':World} (h:Bld b bs w) (hx:Ext w w'):Bld b bs w':=h.ext hx
theorem tabE {w w':World} (h:TabW w) (hx:Ext w w'):TabW w':=h.ext hx
theorem keepK {w wa wb:World} {B:Nat} {v0 v1 v2:Value} {T:TypeId}
  (h:Ext w wa∧wa.cell? ⟨B,0,none⟩=some v0∧wa.cell? ⟨B,1,none⟩=some v1∧wa.cell? ⟨B,2,none⟩=some v2∧wa.heap[B]?=some (.cells #[v0,v1,v2] T (0,0))) (hx:Ext wa wb) :
  Ext w wb∧wb.cell? ⟨B,0,none⟩=some v0∧wb.cell? ⟨B,1,none⟩=some v1∧wb.cell? ⟨B,2,none⟩=some v2∧wb.heap[B]?=some (.cells #[v0,v1,v2] T (0,0)) :=
 ⟨h.1.trans hx,hx.at h.2.1,hx.at h.2.2.1,hx.at h.2.2.2.1,(hx.block B (Array.getElem?_eq_some_iff.1 h.2.2.2.2).1).trans h.2.2.2.2⟩
theorem keepO {w wa wb:World} {B:Nat} {v0 v1 v2:Value} {T:TypeId}
  (h:Ext w wa∧wa.cell? ⟨B,0,none⟩=some v0∧wa.cell? ⟨B,1,none⟩=some v1∧wa.cell? ⟨B,2,none⟩=some v2∧wa.heap[B]?=some (.cells #[v0,v1,v2] T (0,0)))
  (hx:Below w.heap.size wa wb) (ho:Lib.OthersKept 5 (some w.heap.size) wa wb) (hB:B≠w.heap.size) (hT:T≠5) :
  Ext w wb∧wb.cell? ⟨B,0,none⟩=some v0∧wb.cell? ⟨B,1,none⟩=some v1∧wb.cell? ⟨B,2,none⟩=some v2∧wb.heap[B]?=some (.cells #[v0,v1,v2] T (0,0)):=by
 have hk:=kept_at ho h.2.2.2.2 hB hT
 exact⟨Below.trans h.1 hx,by rw [Lib.cell_of_heap hk];rfl,by rw [Lib.cell_of_heap hk];rfl,by rw [Lib.cell_of_heap hk];rfl,hk⟩
set_option maxRecDepth 100000 in
set_option maxHeartbeats 8000000 in
theorem key_any (v:Value) (vs:List Val) (w:World) (hv:SliceOf Rep.val w.cell? v vs) (hf:fitVals vs) (ht:TabW w) :
  Calls Tryz.prog 81 #[v] w fun e w'=>e = .returned (.string ⟨(keyVals vs).toArray⟩)∧Ext w w':=by
 obtain⟨p,cap,rfl,hc1,hc2,hp⟩:=hv.form
 obtain⟨N,hN⟩ : ∃N,N=vs.length:=⟨_,rfl⟩
 have HV:=Lib.hid hv
 rw [←hN]
 have HN:=Lib.hid hN
 have HP:=Lib.hid hp
 have HF:=Lib.hid hf
 have HT:=Lib.hid ht
 have hNl:N≤1048576:=by rw [hN];exact hf.1
 clear hv hN hp hc1 hc2 hf ht
 have hF0:=Bld.fresh w
 go_enter Tryz.func81,Tryz.ntmps81
 go_wp2_with fail
 go_loopg [8] N (fun gk vi wr=> ∃(k:Nat),k≤N∧gk=N - k∧vi = .int .i64 k∧Hid (Bld w.heap.size (keyVals (vs.take k)) wr)∧Hid ((keyVals (vs.take k)).length≤1048650*k)∧Hid (Ext w wr))
 case atStart=>exact⟨0,by omega,rfl,rfl,hF0,by show 0≤_;omega,(Ext.refl w).alloc _⟩
 case round =>
  obtain⟨k,hk,rfl,rfl,HB,HLen,HX⟩:=hrel
  by_cases hlt:k<N
  ·have hkl:k<vs.length:=by have:=HN.out;omega
   have hd:decide ((k:Int)<(N:Int))=true:=by simp;omega
   obtain⟨b,o,rfl⟩:=HP.out (by decide) (by omega)
   have hv:=HV.out
   rw [←HN.out]at hv
   obtain⟨c0,c1,c2,r1,r2⟩:=val_cells hv k hkl
   replace c0:=HX.out.at c0
   replace c1:=HX.out.at c1
   replace c2:=HX.out.at c2
   have hst:=keyVals_take vs k hkl
   have hsz:=HF.out.2 vs[k] (List.getElem_mem hkl)
   generalize vs[k]=y at c0 c1 c2 r1 r2 hst hsz
   obtain⟨yk,yn,ys⟩:=y
   dsimp only at c0 c1 c2 r1 r2 hst hsz
   have HST:=Lib.hid hst
   have HR:=Lib.hid (show ((-9223372036854775808≤yk∧yk≤9223372036854775807)∧(-9223372036854775808≤yn∧yn≤9223372036854775807))∧ys.size≤1048576 from ⟨⟨r1,r2⟩,hsz⟩)
   have e0:=cell_lt c0
   clear hst hv r1 r2 hsz
   go_wp2_with fail
   have k0:(wr.alloc (.cells #[.int .i64 yk,.int .i64 yn,.string ys] 61)).cell? ⟨wr.heap.size,0,none⟩=some (.int .i64 yk):=by go_simp
   have k1:(wr.alloc (.cells #[.int .i64 yk,.int .i64 yn,.string ys] 61)).cell? ⟨wr.heap.size,1,none⟩=some (.int .i64 yn):=by go_simp
   have k2:(wr.alloc (.cells #[.int .i64 yk,.int .i64 yn,.string ys] 61)).cell? ⟨wr.heap.size,2,none⟩=some (.string ys):=by go_simp
   have k3:(wr.alloc (.cells #[.int .i64 yk,.int .i64 yn,.string ys] 61)).heap[wr.heap.size]?=some (.cells #[.int .i64 yk,.int .i64 yn,.string ys] 61 (0,0)):=(MapKept.heap_alloc wr _).1
   have x0:Ext wr (wr.alloc (.cells #[.int .i64 yk,.int .i64 yn,.string ys] 61)):=(Ext.refl wr).alloc _
   generalize (wr.alloc (.cells #[.int .i64 yk,.int .i64 yn,.string ys] 61))=W at k0 k1 k2 k3 x0 ⊢
   have hB0:Bld w.heap.size (keyVals (vs.take k)) W.drew:=HB.out.ext x0.drew
   have hT0:TabW W.drew:=HT.out.ext (HX.out.trans x0.drew)
   have hlt2:=HB.out.lt
   have hS0:Ext w W.drew∧W.drew.cell? ⟨wr.heap.size,0,none⟩=some (.int .i64 yk)∧W.drew.cell? ⟨wr.heap.size,1,none⟩=some (.int .i64 yn)∧W.drew.cell? ⟨wr.heap.size,2,none⟩=some (.string ys)∧W.drew.heap[wr.heap.size]?=some (.cells #[.int .i64 yk,.int .i64 yn,.string ys] 61 (0,0)):=⟨HX.out.trans x0.drew,k0,k1,k2,k3⟩
   clear k0 k1 k2 k3 c0 c1 c2
   have l1:=itoa_len yk HR.out.1.1.1 HR.out.1.1.2
   have l2:=itoa_len yn HR.out.1.2.1 HR.out.1.2.2
   have l3:=itoa_len (ys.size:Int) (by omega) (by have:=HR.out;omega)
   have l4:=HR.out.2
   have q1 : ¬ 9223372036854775807<(Lib.itoa yk).length+1:=by omega
   have q2 : ¬ 9223372036854775807<(Lib.itoa yk).length+1+(Lib.itoa yn).length:=by omega
   have q3 : ¬ 9223372036854775807<(Lib.itoa yk).length+1+(Lib.itoa yn).length+1:=by omega
   have q4 : ¬ 9223372036854775807<(Lib.itoa yk).length+1+(Lib.itoa yn).length+1+(Lib.itoa (ys.size:Int)).length:=by omega
   have q5 : ¬ 9223372036854775807<(Lib.itoa yk).length+1+(Lib.itoa yn).length+1+(Lib.itoa (ys.size:Int)).length+1:=by omega
   have q6 : ¬ 9223372036854775807<(Lib.itoa yk).length+1+(Lib.itoa yn).length+1+(Lib.itoa (ys.size:Int)).length+1+ys.size:=by omega
   have HQ:=Lib.hid (And.intro (And.intro l1 l2) (And.intro l3 l4))
   clear l1 l2 l3 l4
   go_region_held3 (fun w'=>Ext w w'∧w'.cell? ⟨wr.heap.size,0,none⟩=some (.int .i64 yk)∧w'.cell? ⟨wr.heap.size,1,none⟩=some (.int .i64 yn)∧w'.cell? ⟨wr.heap.size,2,none⟩=some (.string ys)∧w'.heap[wr.heap.size]?=some (.cells #[.int .i64 yk,.int .i64 yn,.string ys] 61 (0,0)))
    (first |with_reducible assumption | with_reducible exact keepK (by assumption) hx2 | with_reducible exact keepO (by assumption) hx5 hO5 (by omega) (by decide))
    (first |(go_at_call 127;refine(itoa_any _ _ (by have:=HR.out;omega) (by have:=HR.out;omega) (by assumption)).mono ?_;rintro e w2 ⟨rfl,hx2⟩;have hB2:=bldE (by assumption) hx2;have hT2:=tabE (by assumption) hx2) | (go_at_call 128;refine(formatInt_any _ _ (by have:=HR.out;omega) (by have:=HR.out;omega) (by assumption)).mono ?_;rintro e w2 ⟨rfl,hx2⟩;have hB2:=bldE (by assumption) hx2;have hT2:=tabE (by assumption) hx2) | (go_at_call 126;refine(writeKey _ _ yk yn ys _ (by assumption) (by have h1:=HLen.out;have h2:=HQ.out;have h3:=keyVal_len h2.1.1 h2.1.2 h2.2.1 h2.2.2;omega)).mono ?_;rintro e w5 ⟨rfl,hB5,hx5,hO5⟩))
   all_goals (obtain⟨hfin,_⟩:= ‹Ext w w5∧_›)
   all_goals have HB5:=Lib.hid (show Bld w.heap.size (keyVals (vs.take (k+1))) w5 from by rw [HST.out];exact hB5)
   all_goals have HL5:=Lib.hid (show (keyVals (vs.take (k+1))).length≤1048650*(k+1)from by rw [HST.out,List.length_append];have h1:=HLen.out;have h2:=HQ.out;have h3:=keyVal_len h2.1.1 h2.1.2 h2.2.1 h2.2.2;omega)
   all_goals have HX5:=Lib.hid hfin
   all_goals clear hB5 hfin hO5 hx5
   all_goals go_wp2_with fail
   all_goals go_roundg (N - (k+1))
   all_goals first
    |(case measure=>omega)
    |(case rel=>exact⟨k+1,by omega,rfl,by go_num,HB5.out,HL5.out,HX5.out⟩)
  ·have hkN:k=N:=by omega
   have hd : ¬(k:Int)<(N:Int):=by omega
   have HBF:=Lib.hid (show Bld w.heap.size (keyVals vs) wr from by have h:=HB.out;rw [hkN,HN.out,List.take_length]at h;exact h)
   clear hkN HLen
   go_wp2_with fail
   refine(Tryz.Builder_String_any _ _ (keyVals vs) _ HBF.out (Nat.le_of_lt HBF.out.lt)).mono ?_
   rintro e w6 ⟨rfl,x6⟩
   have X6:=Lib.hid (show Ext w w6 from Below.trans HX.out x6)
   clear x6
   go_wp2_with fail
   go_ret
   exact⟨rfl,X6.out⟩
end Go.Proofs.YtombmdaohcjokaaGreatDoor
namespace Go.Proofs.YtombmdaohcjokaaGreatDoor
open Go.RowKit
theorem vals_range {h:View} {v:Value} {vs:List Val} (k:SliceOf Rep.val h v vs) : ∀x∈vs,(-9223372036854775808≤x.kind∧x.kind≤9223372036854775807)∧(-9223372036854775808≤x.n∧x.n≤9223372036854775807):=by
 intro x hx
 obtain⟨i,hi,rfl⟩:=List.getElem_of_mem hx
 obtain⟨p,cap,rfl,_,_,hp⟩:=k.form
 obtain⟨b,o,rfl⟩:=hp (by decide) (by omega)
 obtain⟨_,_,_,r1,r2⟩:=val_cells k i hi
 exact⟨r1,r2⟩
theorem keyVals_len {vs:List Val} (h : ∀x∈vs,(-9223372036854775808≤x.kind∧x.kind≤9223372036854775807)∧(-9223372036854775808≤x.n∧x.n≤9223372036854775807)) (hf : ∀x∈vs,x.s.size≤1048576):(keyVals vs).length≤1048650*vs.length:=by
 induction vs with
 |nil=>exact Nat.zero_le _
 |cons x vs ih =>
  have h1:=ih (fun y hy=>h y (by simp [hy])) fun y hy=>hf y (by simp [hy])
  have hx:=h x (by simp)
  have hs:=hf x (by simp)
  have h2:=keyVal_len (itoa_len x.kind hx.1.1 hx.1.2) (itoa_len x.n hx.2.1 hx.2.2) (itoa_len (x.s.size:Int) (by omega) (by omega)) hs
  unfold keyVals at h1 ⊢
  rw [List.flatMap_cons,List.length_append,List.length_cons]
  have h3:(keyVal x).length≤1048650:=h2
  omega
end Go.Proofs.YtombmdaohcjokaaGreatDoor
namespace Go.Proofs.YtombmdaohcjokaaGreatDoor
open Go.RowKit Go.Maps
theorem ext_grown {a w w':World} {row:Option Nat} (h:Ext a w) (gr:w.grownBy w' row) (hr : ∀k,row=some k→a.heap.size≤k):Ext a w':=Below.grown h gr h.size hr
theorem cell_grown {w w':World} {row:Option Nat} {b o:Nat} {v:Value} (gr:w.grownBy w' row) (hc:w.cell? ⟨b,o,none⟩=some v) (hne : ∀k,row=some k→k≠b):w'.cell? ⟨b,o,none⟩=some v :=
 (World.cell?_of_block (w:=w) (gr.block b (cell_lt hc) (fun e=>hne b e.symm rfl))).trans hc
theorem key_str (l:List UInt8) (h:l.length≤maxLen):keyOf Tryz.prog 9 (.string ⟨l.toArray⟩)=some (.string l):=by
 rw [keyOf_string Tryz.underlying9]
 unfold mapKey
 rw [Tryz.underlying9]
 simp [ByteArray.size,h]
def fitN (l:List Tup):Prop:=l.length≤65536∧ ∀t∈l,fitVals t.vals∧t.lin.length≤1048576
theorem own_grown {α:Type} {R:Rep α} {w w':World} {row:Option Nat} {S:Nat→Prop} {base:Nat} {e:TypeId} {v:Value} {xs:List α} (h:OwnOf R w S base e v xs) (gr:w.grownBy w' row) (hS : ∀k,S k→row≠some k) (hv : ∀k,v.ownBlock=some k→row≠some k):OwnOf R w' S base e v xs:=by
 obtain⟨css,h1,h2⟩:=h
 refine⟨css,h1.ext (grown_sub gr fun k hk e=>hS k hk.2 e.symm),h2.kept gr ?_⟩
 cases hb:v.ownBlock with
 |none=>exact .inl rfl
 |some k=>exact .inr fun e=>hv k hb e.symm
end Go.Proofs.YtombmdaohcjokaaGreatDoor
namespace Go.Proofs.YtombmdaohcjokaaGreatDoor
open Go.RowKit Go.Maps
open Classical
def keyG (vs:List Val):Lit:= .string (keyVals vs)
theorem keyG_lit (r:List Val):WideAt.IsKeyLit (keyG r):=trivial
noncomputable def memOf (proj:List Val→List Val) (kv:List Val) (l:List Tup):List Tup:=l.filter fun t=>decide (proj t.vals=kv)
structure GInv (proj:List Val→List Val) (K:Nat) (w':World) (B base:Nat) (T:TypeId) (VB:Nat→Prop) (l:List Tup) (m1 m2:Lit→Option Value):Prop where
 k1 : ∀kl v,m1 kl=some v→ ∃t∈l,kl=keyG (proj t.vals)∧SliceOf Rep.val (on w' VB) v (proj t.vals)
 k2 : ∀t∈l,(m1 (keyG (proj t.vals))).isSome=true
 p1 : ∀kl v,m2 kl=some v→ ∃kv,kv.length=K∧kl=keyG kv∧(K=0∨ ∃t∈l,kv=proj t.vals)∧OwnOf Rep.tup w' (fun x=>x<B) base T v (memOf proj kv l)
 p2 : ∀t∈l,(m2 (keyG (proj t.vals))).isSome=true
 p3:K=0→(m2 (keyG [])).isSome=true
 ap : ∀kl kl' v v',kl≠kl'→m2 kl=some v→m2 kl'=some v'→Apart v v'
 vb : ∀kl v x,m2 kl=some v→v.ownBlock=some x→ ¬VB x
 vlt : ∀x,VB x→x<w'.heap.size
section
variable {proj:List Val→List Val} {K:Nat} {w w' w'':World} {B base:Nat} {T:TypeId} {VB:Nat→Prop} {l:List Tup} {m1 m2:Lit→Option Value}
noncomputable def m2Start (K:Nat):Lit→Option Value:=if K=0 then putV (fun _=>none) (keyG []) (.slice none 0 0)else fun _=>none
def DoneG (K:Nat) (m2:Lit→Option Value) (left:Lit→Bool) (done:List (List Val)):Prop:=done.Nodup∧(∀kv∈done,kv.length=K)∧ ∀kv,kv.length=K→(kv∈done↔(m2 (keyG kv)).isSome=true∧left (keyG kv)=false)
end
noncomputable def rawG (proj:List Val→List Val) (aggV:List (List Val)→List Val) (always:Bool) (l:List Tup) (done:List (List Val)):List Tup:=done.flatMap fun kv=>gOut aggV always kv (memOf proj kv l)
end Go.Proofs.YtombmdaohcjokaaGreatDoor
namespace Go.Proofs.YtombmdaohcjokaaGreatDoor
open Go.RowKit
def nV:Val:=⟨0,0,ByteArray.empty⟩
def intVal (n:Int):Val:=⟨1,n,ByteArray.empty⟩
theorem int_value (n:Int) (w:World):Calls Tryz.prog 32 #[.int .i64 n] w fun e w'=>e = .returned (valV (intVal n))∧Ext w w':=by
 go_enter Tryz.func32,Tryz.ntmps32
 go_wp2_with fail
 exact bodyPost_ret (v:=valV (intVal n)) (by simp [results,Tryz.results32,go_sem,valV,intVal];rfl) rfl ⟨rfl,by first | exact((Ext.refl w).alloc _) | exact Below.setCell (Below.setCell (Below.setCell ((Ext.refl w).alloc _) (by simp) _) (by simp) _) (by simp) _⟩
def genStr (x:Int):ByteArray:=if x % 3=0 then⟨#[]⟩else if x % 3=1 then⟨#[97]⟩else⟨#[98,39]⟩
def genV0 (x:Int):Val:=if x % 7=6 then nV else intVal (x % 3 - 1)
def genV1 (x:Int):Val:=if x % 7=6 then nV else⟨2,0,genStr x⟩
theorem value_0 (x:Int) (w:World) (h0:0≤x) (h1:x≤65535):Calls Tryz.prog 90 #[.int .i64 0,.int .u16 x] w fun e w'=>e = .returned (valV (genV0 x))∧Ext w w':=by
 by_cases h7:x % 7=6
 ·have hb:(x % 7==6)=true:=by simp [h7]
  have hv:genV0 x=nV:=if_pos h7
  have HV:=Lib.hid hv
  clear h7 hv
  go_enter Tryz.func90,Tryz.ntmps90
  go_wp2_with fail
  exact bodyPost_ret (v:=valV (genV0 x)) (by rw [HV.out];simp [results,Tryz.results90,go_sem,valV,nV];rfl) rfl ⟨rfl,(Ext.refl w).alloc _⟩
 ·have hb:(x % 7==6)=false:=by simp [h7]
  have hv:genV0 x=intVal (x % 3 - 1):=if_neg h7
  have HV:=Lib.hid hv
  clear h7 hv
  go_enter Tryz.func90,Tryz.ntmps90
  go_wp2_with fail
  refine(int_value _ _).mono ?_
  rintro e w1 ⟨rfl,x1⟩
  have z1:=x1.size
  simp at z1
  have c0:=x1.at (p:=⟨w.heap.size,0,none⟩) (v:= .int .i64 0) (by go_simp)
  have c1:=x1.at (p:=⟨w.heap.size,1,none⟩) (v:= .int .i64 0) (by go_simp)
  have c2:=x1.at (p:=⟨w.heap.size,2,none⟩) (v:= .string ⟨#[]⟩) (by go_simp)
  have f0:=x1.unfrozen (p:=⟨w.heap.size,0,none⟩) (v:= .int .i64 0) (by go_simp) (by go_simp)
  have f1:=x1.unfrozen (p:=⟨w.heap.size,1,none⟩) (v:= .int .i64 0) (by go_simp) (by go_simp)
  have f2:=x1.unfrozen (p:=⟨w.heap.size,2,none⟩) (v:= .string ⟨#[]⟩) (by go_simp) (by go_simp)
  go_wp2_with fail
  exact bodyPost_ret (v:=valV (genV0 x)) (by rw [HV.out];simp [results,Tryz.results90,go_sem,valV,intVal,c0,c1,c2]) rfl ⟨rfl,Below.setCell (Below.setCell (Below.setCell (((Ext.refl w).alloc _).trans x1) (by simp) _) (by simp) _) (by simp) _⟩
theorem value_1 (x:Int) (w:World) (h0:0≤x) (h1:x≤65535):Calls Tryz.prog 90 #[.int .i64 1,.int .u16 x] w fun e w'=>e = .returned (valV (genV1 x))∧Ext w w':=by
 by_cases h7:x % 7=6
 ·have hb:(x % 7==6)=true:=by simp [h7]
  have hv:genV1 x=nV:=if_pos h7
  have HV:=Lib.hid hv
  clear h7 hv
  go_enter Tryz.func90,Tryz.ntmps90
  go_wp2_with fail
  exact bodyPost_ret (v:=valV (genV1 x)) (by rw [HV.out];simp [results,Tryz.results90,go_sem,valV,nV];rfl) rfl ⟨rfl,(Ext.refl w).alloc _⟩
 ·have hb:(x % 7==6)=false:=by simp [h7]
  have hv:genV1 x=⟨2,0,genStr x⟩:=if_neg h7
  have h3:x % 3=0∨x % 3=1∨x % 3=2:=by omega
  unfold genStr at hv
  clear h7
  rcases h3 with h3 | h3 | h3
  all_goals
   rw [h3]at hv
   simp at hv
   have HV:=Lib.hid hv
   clear hv
   go_enter Tryz.func90,Tryz.ntmps90
   go_wp2_with fail
   exact bodyPost_ret (v:=valV (genV1 x)) (by rw [HV.out];simp [results,Tryz.results90,go_sem,valV]) rfl ⟨rfl,by first | exact Below.setCell (Below.setCell (Below.setCell (((Ext.refl w).alloc _).alloc _) (by simp) _) (by simp) _) (by simp) _ | exact((Ext.refl w).alloc _).alloc _⟩
def okVal (x:Val):Prop:=(-9223372036854775808≤x.kind∧x.kind≤9223372036854775807)∧(-9223372036854775808≤x.n∧x.n≤9223372036854775807)∧x.s.size≤maxLen
theorem ok_nV:okVal nV:=⟨by decide,by decide,by simp [nV,maxLen]⟩
theorem ok_genV0 (x:Int):okVal (genV0 x):=by
 unfold genV0
 split
 ·exact ok_nV
 ·exact⟨by simp [intVal],by simp [intVal];omega,by simp [intVal,maxLen]⟩
theorem ok_genV1 (x:Int):okVal (genV1 x):=by
 unfold genV1
 split
 ·exact ok_nV
 ·refine⟨by simp,by simp,?_⟩
  unfold genStr
  (repeat' split) <;> simp [maxLen,ByteArray.size]
def genVals (x y:Int):List Val:= [genV0 x,genV1 y]
theorem vals_gen (x y:Int) (w:World) (h0:0≤x) (h1:x≤65535) (h2:0≤y) (h3:y≤65535) :
  Calls Tryz.prog 49 #[.int .u16 x,.int .u16 y] w fun e w'=> ∃v,e = .returned v∧SliceOf Rep.val (on w' (fun k=>w.heap.size≤k)) v (genVals x y)∧Ext w w':=by
 go_enter Tryz.func49,Tryz.ntmps49
 go_wp2_with fail
 refine(value_0 x _ h0 h1).mono ?_
 rintro e w1 ⟨rfl,x1⟩
 go_wp2_with fail
 refine(value_1 y _ h2 h3).mono ?_
 rintro e w2 ⟨rfl,x2⟩
 go_wp2_with fail
 refine bodyPost_ret (v:= .slice (some ⟨w2.heap.size,0,none⟩) 2 2) (by simp [results,Tryz.results49,go_sem]) rfl ⟨_,rfl,?_,(x1.trans x2).alloc _⟩
 refine SliceOf.flatOn flat_val (slice_lit Rep.val w2 _ 61 [[.int .i64 (genV0 x).kind,.int .i64 (genV0 x).n,.string (genV0 x).s],[.int .i64 (genV1 y).kind,.int .i64 (genV1 y).n,.string (genV1 y).s]] (genVals x y) rfl ⟨⟨rfl,ok_genV0 x⟩,⟨rfl,ok_genV1 y⟩,trivial⟩ (by simp [genVals,maxLen])) fun ad n c h=> ?_
 injection h with h _ _
 injection h with h
 rw [←h]
 exact(x1.trans x2).size
def genFrom (x:Int):Int:=x % 40
def genTo (x y:Int):Int:=if y % 11=0 then 1000000 else x % 40+1+y % 15
end Go.Proofs.YtombmdaohcjokaaGreatDoor
namespace Go.Proofs.YtombmdaohcjokaaGreatDoor
open Go.RowKit
structure ExprI where
 op:Int
 a:Int
 b:Int
 col:Int
 c:Val
def exprEnc (x:ExprI):List Value:= [.int .i64 x.op,.int .i64 x.a,.int .i64 x.b,.int .i64 x.col,.int .i64 x.c.kind,.int .i64 x.c.n,.string x.c.s]
def Rep.expr:Rep ExprI where
 size:=7
 holds _ cs x:=cs=exprEnc x∧(okI x.op∧okI x.a∧okI x.b∧okI x.col)∧okVal x.c
 len:=by rintro w cs x ⟨rfl,_⟩;rfl
 ext:=by rintro w w' cs x h _;exact h
 one:=by rintro w cs x ⟨rfl,_⟩;simp [exprEnc,Value.oneCell']
def colAt (vals:List Val) (c:Int):Val:=if 0≤c∧c<vals.length then vals.getD c.toNat nV else nV
theorem colAt_in {vals:List Val} {c:Nat} (h:c<vals.length):colAt vals c=vals[c]:=by
 unfold colAt
 rw [if_pos (by omega)]
 simp [h]
theorem colAt_out {vals:List Val} {c:Int} (h : ¬(0≤c∧c<vals.length)):colAt vals c=nV:=if_neg h
set_option maxRecDepth 100000 in
set_option maxHeartbeats 4000000 in
theorem apply_col (x:ExprI) (hop:x.op=2) (pa:Option Addr) (na ka:Nat) (v:Value) (vals:List Val) (w:World) (hv:SliceOf Rep.val w.cell? v vals) :
  Calls Tryz.prog 179 #[.agg (exprEnc x).toArray,.slice pa na ka,v] w fun e w'=>e = .returned (valV (colAt vals x.col))∧Ext w w':=by
 obtain⟨p,cap,rfl,_,_,hp⟩:=hv.form
 obtain⟨op,a,b,col,⟨ck,cn,cs⟩⟩:=x
 dsimp only at hop
 subst hop
 unfold exprEnc
 dsimp only
 have HV:=Lib.hid hv
 have HP:=Lib.hid hp
 clear hv hp
 by_cases h0:col<0
 ·have hd:decide (col<0)=true:=by simp [h0]
  have HC:=Lib.hid (colAt_out (vals:=vals) (c:=col) (by omega))
  go_enter Tryz.func179,Tryz.ntmps179
  go_wp2_with fail
  refine bodyPost_ret (v:=valV (colAt vals col)) (by rw [HC.out];simp [results,Tryz.results179,go_sem,valV,nV];rfl) rfl ⟨rfl,?_⟩
  exact((Ext.refl w).alloc _).alloc _
 ·have hd:decide (col<0)=false:=by simp [h0]
  by_cases h1:col<vals.length
  ·obtain⟨c,hc⟩ : ∃c:Nat,col=c:=⟨col.toNat,by omega⟩
   subst hc
   have hcl:c<vals.length:=by omega
   have hd2:decide ((vals.length:Int)≤(c:Int))=false:=by simp;omega
   have hb1:(c:Int)<(vals.length:Int):=by omega
   obtain⟨bb,o,rfl⟩:=HP.out (by decide) (by omega)
   obtain⟨c0,c1,c2,_⟩:=val_cells HV.out c hcl
   have HC:=Lib.hid (colAt_in hcl)
   generalize vals[c]=y at c0 c1 c2 HC
   obtain⟨yk,yn,ys⟩:=y
   dsimp only at c0 c1 c2
   have e0:=cell_lt c0
   clear h0 h1
   go_enter Tryz.func179,Tryz.ntmps179
   go_wp2_with fail
   refine bodyPost_ret (v:=valV (colAt vals c)) (by rw [HC.out];simp [results,Tryz.results179,go_sem,valV]) rfl ⟨rfl,?_⟩
   exact((Ext.refl w).alloc _).alloc _
  ·have hd2:decide ((vals.length:Int)≤col)=true:=by simp;omega
   have hb1 : ¬col<(vals.length:Int):=h1
   have HC:=Lib.hid (colAt_out (vals:=vals) (c:=col) (by omega))
   clear h0 h1
   go_enter Tryz.func179,Tryz.ntmps179
   go_wp2_with fail
   refine bodyPost_ret (v:=valV (colAt vals col)) (by rw [HC.out];simp [results,Tryz.results179,go_sem,valV,nV];rfl) rfl ⟨rfl,?_⟩
   exact((Ext.refl w).alloc _).alloc _
def FreeN (w:World) (g n:Nat):Prop:= ∀j,j<n→(∃u,w.cell? ⟨g,j,none⟩=some u)∧w.frozen? ⟨g,j,none⟩=false
theorem FreeN.set {w:World} {g n:Nat} (h:FreeN w g n) (i:Nat) (u:Value):FreeN (w.setCell ⟨g,i,none⟩ u) g n:=fun j hj=>by
 obtain⟨⟨z,h1⟩,h2⟩:=h j hj
 by_cases e:j=i
 ·subst e
  exact⟨⟨u,by go_simp⟩,by go_simp⟩
 ·exact⟨⟨z,by rw [World.cell?_setCell_other _ _ _ _ (by simp only [ne_eq,Addr.mk.injEq,true_and,and_true];omega)];exact h1⟩,by go_simp⟩
theorem FreeN.ext {w w':World} {g n:Nat} (h:FreeN w g n) (hx:Ext w w'):FreeN w' g n:=fun j hj=>by
 obtain⟨⟨z,h1⟩,h2⟩:=h j hj
 exact⟨⟨z,hx.at h1⟩,hx.unfrozen h1 h2⟩
theorem FreeN.made {w:World} {base g n c k:Nat} {e:TypeId} {xs:List Value} (h:w.ownsRow base e k (.slice (some ⟨g,0,none⟩) n c) n xs):FreeN w g (c*k):=fun j hj=>by
 rcases h.2 with ⟨h1,_⟩ | ⟨g',cap,cur,he,_,hg,_,_,hsz,_⟩
 ·cases h1
 ·injection he with e1 e2 e3
  injection e1 with e1
  injection e1 with e1
  subst e1 e3
  refine⟨⟨cur[j]'(by omega),?_⟩,Lib.frozen_of_heap hg j⟩
  rw [Lib.cell_of_heap hg]
  exact Array.getElem?_eq_getElem _
theorem info_val3:(Tryz.prog.info? 61).map (fun i=>(i.zero,i.size,i.bytes))=some (some (.agg #[.int .i64 0,.int .i64 0,.string ByteArray.empty]),3,32):=by kernel_rfl
theorem expr_at {h:View} {b o n cap:Nat} {xs:List ExprI} (k:SliceOf Rep.expr h (.slice (some ⟨b,o,none⟩) n cap) xs) (i:Nat) (hi:i<xs.length) :
  h ⟨b,o+i*7,none⟩=some (.int .i64 xs[i].op)∧h ⟨b,o+i*7+1,none⟩=some (.int .i64 xs[i].a)∧h ⟨b,o+i*7+2,none⟩=some (.int .i64 xs[i].b)∧h ⟨b,o+i*7+3,none⟩=some (.int .i64 xs[i].col)∧h ⟨b,o+i*7+4,none⟩=some (.int .i64 xs[i].c.kind)∧h ⟨b,o+i*7+5,none⟩=some (.int .i64 xs[i].c.n)∧h ⟨b,o+i*7+6,none⟩=some (.string xs[i].c.s):=by
 obtain⟨c,⟨rfl,_⟩,h2⟩:=k.at i hi
 exact⟨h2 0 _ rfl,h2 1 _ rfl,h2 2 _ rfl,h2 3 _ rfl,h2 4 _ rfl,h2 5 _ rfl,h2 6 _ rfl⟩
end Go.Proofs.YtombmdaohcjokaaGreatDoor
namespace Go.Proofs.YtombmdaohcjokaaGreatDoor
open Go.RowKit
def projC (es:List ExprI) (keys:List Int) (vals:List Val):List Val:=keys.map fun k=>colAt vals ((es.map ExprI.col).getD k.toNat 0)
theorem ok_colAt {vals:List Val} (h : ∀x∈vals,okVal x) (c:Int):okVal (colAt vals c):=by
 unfold colAt
 split
 ·rename_i hc
  have hlt:c.toNat<vals.length:=by omega
  rw [List.getD_eq_getElem?_getD,List.getElem?_eq_getElem hlt]
  exact h _ (List.getElem_mem hlt)
 ·exact ok_nV
theorem vals_ok {h:View} {v:Value} {vs:List Val} (k:SliceOf Rep.val h v vs) : ∀x∈vs,okVal x:=by
 intro x hx
 obtain⟨i,hi,rfl⟩:=List.getElem_of_mem hx
 obtain⟨p,cap,rfl,_,_,hp⟩:=k.form
 obtain⟨b,o,rfl⟩:=hp (by decide) (by omega)
 obtain⟨c,⟨_,h3⟩,_⟩:=k.at i hi
 exact h3
set_option maxRecDepth 100000 in
set_option maxHeartbeats 4000000 in
theorem aggregate_count (v:Value) (pg:Option Addr) (ng cg:Nat) (arg:Int) (w:World) :
  Calls Tryz.prog 130 #[v,.agg #[.int .i64 1,.int .i64 arg],.slice pg ng cg] w fun e w'=>e = .returned (valV (intVal ng))∧Ext w w':=by
 go_enter Tryz.func130,Tryz.ntmps130
 go_wp2_with fail
 exact bodyPost_ret (v:=valV (intVal ng)) (by simp [results,Tryz.results130,go_sem,valV,intVal];rfl) rfl ⟨rfl,((Ext.refl w).alloc _).alloc _⟩
end Go.Proofs.YtombmdaohcjokaaGreatDoor
namespace Go.Proofs.YtombmdaohcjokaaGreatDoor
open Go.RowKit
end Go.Proofs.YtombmdaohcjokaaGreatDoor
namespace Go.Proofs.YtombmdaohcjokaaGreatDoor
open Go.RowKit
end Go.Proofs.YtombmdaohcjokaaGreatDoor
namespace Go.Proofs.YtombmdaohcjokaaGreatDoor
open Go.RowKit Go.Deep
inductive Runs:List (List Row)→Prop
 |nil:Runs []
 |snoc (rs:List (List Row)) (run:List Row) (v:List Val):Runs rs→run≠ []→(∀r∈run,r.vals=v)→(∀p,rs.flatten.getLast?=some p→p.vals≠v)→Runs (rs ++ [run])
def RunsTo (l:List Row) (k:Nat) (done:List (List Row)) (cur:List Row):Prop :=
 ∃v,Runs done∧cur≠ []∧(∀r∈cur,r.vals=v)∧(∀p,done.flatten.getLast?=some p→p.vals≠v)∧done.flatten++cur=l.take k
structure RunsAt (w:World) (base:Nat) (e1 e2:TypeId) (v u:Value) (done:List (List Row)) (cur:List Row):Prop where
 us : ∃css,RepAll (Rep.slice Rep.row) (on w (fun k=>some k≠v.ownBlock∧some k≠u.ownBlock)) css done∧w.ownsRow base e1 1 v (done.length+1) (css.flatten ++ [u])
 cur:OwnOf Rep.row w (fun k=>k<base) base e2 u cur
 ne : ∀k,u.ownBlock=some k→v.ownBlock≠some k
section
variable {P:Program} {w:World} {ops:Array Oper} {rest:List Oper} {o:Oper} {a:Act} {Q:Exit→Act→World→Prop}
theorem step_append_one {α:Type} {K:Act→World→Prop} {E:Prop} (R:Rep α) (S:Nat→Prop) (hgd:o.guard=none) (s x:Operand) (t:TypeId)
  (ho:o.op = .call { callee:= .builtin .append,args:= #[s,x],argTypes:= #[t,t] })
  (base:Nat) (e:TypeId) (i:TypeInfo) (z:Value) (bytes:Nat) (ht:P.underlying t=some (.slice e)) (hi:P.info? e=some i) (hz:i.zero=some z)
  (hsize:i.size=R.size) (hby:i.bytes=bytes) (hzs:z.cells.size=R.size) (hsz:0<R.size)
  (v:Value) (xs:List α) (hs:a.eval s=v) (hown:OwnOf R w S base e v xs)
  (ad:Addr) (c:Nat) (y:α) (news:List Value) (hx:a.eval x = .slice (some ad) 1 c) (hy:R.holds (on w (avoid S v)) news y) (hnews : ∀j u,news[j]?=some u→w.cell? (ad.add j)=some u)
  (h63:xs.length+1≤maxLen) (hbytes:(xs.length+1)*bytes≤140737488355328) (hbase:base≤w.heap.size)
  (h : ∀g cap w',OwnOf R w' S base e (.slice (some ⟨g,0,none⟩) (xs.length+1) cap) (xs ++ [y])→w.grownBy w' v.ownBlock→(v.ownBlock=some g∨g=w.heap.size)→K (a.put o.dst (.slice (some ⟨g,0,none⟩) (xs.length+1) cap)) w') :
  if Region.wanted o (yielded ops a.tmps)=true then Oper.wp P o a w K Q else E:=by
 obtain⟨css,h1,h2⟩:=hown
 exact step_append_lies w hgd s x t ho base e i z R.size bytes ht hi hz hsize hby hzs hsz v xs.length css.flatten hs h2 ad 1 c news hx (by rw [R.len hy,Nat.one_mul]) hnews (R.one hy) (by omega) h63 hbytes hbase w.heap.size rfl
  fun g cap w' g1 g2 g3 _=>h g cap w' (OwnOf.push h1 hy g1 g2 g3) g2 g3
end
end Go.Proofs.YtombmdaohcjokaaGreatDoor
namespace Go.Proofs.YtombmdaohcjokaaGreatDoor
open Go.RowKit
structure AggI where
 kind:Int
 arg:Int
def Rep.agg:Rep AggI where
 size:=2
 holds _ cs x:=cs = [.int .i64 x.kind,.int .i64 x.arg]∧okI x.kind∧okI x.arg
 len:=by rintro w cs x ⟨rfl,_⟩;rfl
 ext:=by rintro w w' cs x h _;exact h
 one:=by rintro w cs x ⟨rfl,_⟩;simp [Value.oneCell']
theorem agg_at {h:View} {b o n cap:Nat} {xs:List AggI} (k:SliceOf Rep.agg h (.slice (some ⟨b,o,none⟩) n cap) xs) (i:Nat) (hi:i<xs.length) :
  h ⟨b,o+i*2,none⟩=some (.int .i64 xs[i].kind)∧h ⟨b,o+i*2+1,none⟩=some (.int .i64 xs[i].arg):=by
 obtain⟨c,⟨rfl,_⟩,h2⟩:=k.at i hi
 exact⟨h2 0 _ rfl,h2 1 _ rfl⟩
theorem FreeN.grown {w w':World} {g n:Nat} {row:Option Nat} (h:FreeN w g n) (gr:w.grownBy w' row) (hne:row≠some g):FreeN w' g n:=fun j hj=>by
 obtain⟨⟨z,h1⟩,h2⟩:=h j hj
 have hb:=gr.block g (cell_lt h1) (fun e=>hne e.symm)
 exact⟨⟨z,(World.cell?_of_block (w:=w) hb).trans h1⟩,(World.frozen?_of_block (w:=w) hb).trans h2⟩
def cntV (n:Nat) (vs:List (List Val)):List Val:=List.replicate n (intVal vs.length)
def memV (ms:List Tup) (t:Int):List (List Val):=(ms.filter (holdsAt t)).map Tup.vals
def memL (ms:List Tup) (t:Int):List Int:=(ms.filter (holdsAt t)).flatMap Tup.lin
theorem FreeN.chg {C:Nat→Prop} {w w':World} {g n:Nat} (h:FreeN w g n) (hx:Chg C w w') (hn : ¬C g):FreeN w' g n:=fun j hj=>by
 obtain⟨⟨z,h1⟩,h2⟩:=h j hj
 exact⟨⟨z,hx.at h1 hn⟩,hx.free h1 h2 hn⟩
end Go.Proofs.YtombmdaohcjokaaGreatDoor
namespace Go.Proofs.YtombmdaohcjokaaGreatDoor
open Go.RowKit
end Go.Proofs.YtombmdaohcjokaaGreatDoor
namespace Go.Proofs.YtombmdaohcjokaaGreatDoor
open Go.RowKit
section
open Classical
variable (proj:List Val→List Val) (aggV:List (List Val)→List Val) (always:Bool)
noncomputable def rowsAt (l:List Tup) (t:Int):List Row:=(gKeys proj always l).flatMap fun kv=>if (always=true∧0≤t∧t<1000000)∨(always=false∧(gMem proj l kv).any (holdsAt t)=true)then [gRow aggV kv (gMem proj l kv) t]else []
def lastN (r:Row):Nat:=match r.vals.getLast? with
 |some v=>v.n.toNat
 |none=>0
def sumG (l:List Row):Nat:=(l.map lastN).sum
end
end Go.Proofs.YtombmdaohcjokaaGreatDoor
namespace Go.Proofs.YtombmdaohcjokaaGreatDoor
open Go.RowKit
def argsC (col:Int) (vss:List (List Val)):List Val:=(vss.map fun vs=>colAt vs col).filter fun v=>decide (v.kind≠0)
def sumI (xs:List Val):Int:=((xs.filter fun v=>decide (v.kind=1)).map Val.n).sum
def anyI (xs:List Val):Bool:=xs.any fun v=>decide (v.kind=1)
def sumV (xs:List Val):Val:=if anyI xs=true∧ -9223372036854775808≤sumI xs∧sumI xs≤9223372036854775807 then intVal (sumI xs)else nV
theorem sumI_take (xs:List Val) (k:Nat) (h:k<xs.length):sumI (xs.take (k+1))=sumI (xs.take k)+if xs[k].kind=1 then xs[k].n else 0:=by
 unfold sumI
 rw [List.take_succ_eq_append_getElem h,List.filter_append,List.map_append,List.sum_append]
 congr 1
 rw [List.filter_cons,List.filter_nil]
 by_cases e:xs[k].kind=1
 ·rw [if_pos e,if_pos (by simp [e])];simp
 ·rw [if_neg e,if_neg (by simp [e])];simp
theorem anyI_take (xs:List Val) (k:Nat) (h:k<xs.length):anyI (xs.take (k+1))=(anyI (xs.take k)||decide (xs[k].kind=1)):=by
 unfold anyI
 rw [List.take_succ_eq_append_getElem h,List.any_append,List.any_cons,List.any_nil,Bool.or_false]
theorem sumI_bound {xs:List Val} {b:Int} (hb:0≤b) (h : ∀v∈xs,-b≤v.n∧v.n≤b) : -(b*xs.length)≤sumI xs∧sumI xs≤b*xs.length:=by
 induction xs with
 |nil=>simp [sumI]
 |cons x xs ih =>
  have h1:=ih fun v hv=>h v (by simp [hv])
  have h2:=h x (by simp)
  have e:b*((x::xs).length:Int)=b*xs.length+b:=by rw [List.length_cons];push_cast;rw [Int.mul_add,Int.mul_one]
  have e2:sumI (x::xs)=(if x.kind=1 then x.n else 0)+sumI xs:=by
   unfold sumI
   rw [List.filter_cons]
   by_cases c:x.kind=1
   ·rw [if_pos c,if_pos (by simp [c])];simp
   ·rw [if_neg c,if_neg (by simp [c])];simp
  rw [e,e2]
  split <;> omega
def pickMin:List Val→Val
 |[]=>nV
 |x::xs=>xs.foldl (fun m y=>if cmpVal y m<0 then y else m) x
def pickMax:List Val→Val
 |[]=>nV
 |x::xs=>xs.foldl (fun m y=>if 0<cmpVal y m then y else m) x
theorem fold_min (xs:List Val) : ∀x,(xs.foldl (fun m y=>if cmpVal y m<0 then y else m) x=x∨xs.foldl (fun m y=>if cmpVal y m<0 then y else m) x∈xs)∧cmpVal (xs.foldl (fun m y=>if cmpVal y m<0 then y else m) x) x≤0∧ ∀y∈xs,cmpVal (xs.foldl (fun m y=>if cmpVal y m<0 then y else m) x) y≤0:=by
 induction xs with
 |nil=>exact fun x=>⟨.inl rfl,by rw [List.foldl_nil,(ord_val.eq x x).2 rfl];decide,fun y hy=>by cases hy⟩
 |cons z xs ih =>
  intro x
  rw [List.foldl_cons]
  by_cases c:cmpVal z x<0
  ·rw [if_pos c]
   obtain⟨h1,h2,h3⟩:=ih z
   refine⟨?_,ord_val.le_tr _ _ _ h2 (by omega),fun y hy=> ?_⟩
   ·rcases h1 with h | h
    ·exact .inr (by rw [h];simp)
    ·exact .inr (by simp [h])
   ·rcases List.mem_cons.1 hy with rfl | hy
    ·exact h2
    ·exact h3 y hy
  ·rw [if_neg c]
   obtain⟨h1,h2,h3⟩:=ih x
   refine⟨?_,h2,fun y hy=> ?_⟩
   ·rcases h1 with h | h
    ·exact .inl h
    ·exact .inr (by simp [h])
   ·rcases List.mem_cons.1 hy with rfl | hy
    ·exact ord_val.le_tr _ _ _ h2 (by have:=ord_val.anti x y;omega)
    ·exact h3 y hy
theorem fold_max (xs:List Val) : ∀x,(xs.foldl (fun m y=>if 0<cmpVal y m then y else m) x=x∨xs.foldl (fun m y=>if 0<cmpVal y m then y else m) x∈xs):=by
 induction xs with
 |nil=>exact fun x=> .inl rfl
 |cons z xs ih =>
  intro x
  rw [List.foldl_cons]
  split
  ·rcases ih z with h | h
   ·exact .inr (by rw [h];simp)
   ·exact .inr (by simp [h])
  ·rcases ih x with h | h
   ·exact .inl h
   ·exact .inr (by simp [h])
theorem pickMin_law {xs:List Val} (h:xs≠ []):pickMin xs∈xs∧ ∀y∈xs,cmpVal (pickMin xs) y≤0:=by
 cases xs with
 |nil=>exact absurd rfl h
 |cons x xs =>
  obtain⟨h1,h2,h3⟩:=fold_min xs x
  refine⟨?_,fun y hy=> ?_⟩
  ·show xs.foldl (fun m y=>if cmpVal y m<0 then y else m) x∈x::xs
   rcases h1 with h | h
   ·rw [h];simp
   ·simp [h]
  ·rcases List.mem_cons.1 hy with rfl | hy
   ·exact h2
   ·exact h3 y hy
theorem pickMax_mem {xs:List Val} (h:xs≠ []):pickMax xs∈xs:=by
 cases xs with
 |nil=>exact absurd rfl h
 |cons x xs =>
  show xs.foldl (fun m y=>if 0<cmpVal y m then y else m) x∈x::xs
  rcases fold_max xs x with h | h
  ·rw [h];simp
  ·simp [h]
def aggVal (kind col:Int) (vss:List (List Val)):Val :=
 if kind=1 then intVal vss.length else
 if kind=2 then sumV (argsC col vss)else
 if argsC col vss = []then nV else
 if kind=3 then pickMin (argsC col vss)else
 if kind=4 then pickMax (argsC col vss)else nV
section
open Classical
variable (proj:List Val→List Val) (aggV:List (List Val)→List Val)
end
def wideHi (S:Int):Int:=S / 18446744073709551616
def wideLo (S:Int):Int:=S % 18446744073709551616
end Go.Proofs.YtombmdaohcjokaaGreatDoor
namespace Go.Proofs.YtombmdaohcjokaaGreatDoor
open Go.RowKit
instance:Inhabited ExprI:=⟨⟨0,0,0,0,nV⟩⟩
instance:Inhabited Val:=⟨nV⟩
def arityE (op:Int):Int:=if op=1∨op=2 then 0 else if op=10∨op=11 then 1 else if 3≤op∧op≤9 then 2 else -1
theorem arityE_le (op:Int) : -1≤arityE op∧arityE op≤2:=by
 unfold arityE
 split
 ·omega
 split
 ·omega
 split <;> omega
def opsE (x:ExprI):List Int:= [x.a,x.b].take (arityE x.op).toNat
theorem opsE_len (x:ExprI):(opsE x).length=(arityE x.op).toNat:=by
 have:=arityE_le x.op
 unfold opsE
 rw [List.length_take]
 simp only [List.length_cons,List.length_nil]
 omega
def boolV (b:Bool):Val:=⟨3,if b=true then 1 else 0,ByteArray.empty⟩
def trueV (v:Val):Bool:=decide (v.kind=3)&&decide (v.n=1)
def arithI (op a b:Int):Int:=if op=3 then a+b else if op=4 then a - b else a*b
def fit64 (z:Int):Prop:= -9223372036854775808≤z∧z≤9223372036854775807
instance (z:Int):Decidable (fit64 z):=by unfold fit64;infer_instance
def arithV (op:Int) (a b:Val):Val:=if a.kind=1∧b.kind=1∧fit64 (arithI op a.n b.n)then intVal (arithI op a.n b.n)else nV
def eqV (a b:Val):Bool:=decide (a.kind≠0)&&decide (b.kind≠0)&&decide (cmpVal a b=0)
def lessV (a b:Val):Bool:=decide (a.kind≠0)&&decide (a.kind=b.kind)&&decide (cmpVal a b<0)
def applyV (x:ExprI) (a b:Val) (row:List Val):Val :=
 if x.op=1 then x.c
 else if x.op=2 then colAt row x.col
 else if 3≤x.op∧x.op≤5 then arithV x.op a b
 else if x.op=6 then boolV (eqV a b)
 else if x.op=7 then boolV (lessV a b)
 else if x.op=8 then boolV (trueV a&&trueV b)
 else if x.op=9 then boolV (trueV a||trueV b)
 else if x.op=10 then boolV (!trueV a)
 else if x.op=11 then boolV (decide (a.kind=0))
 else nV
def legalE (i:Nat) (x:ExprI):Bool:=(opsE x).all fun o=>decide (0≤o)&&decide (o<i)
def argE (done:List Val) (o:Int):Val:=done.getD o.toNat nV
def argsE (x:ExprI) (done:List Val):List Val:=(opsE x).map (argE done)
def stepE (row done:List Val) (x:ExprI):Val:=if legalE done.length x=true then applyV x ((argsE x done).getD 0 nV) ((argsE x done).getD 1 nV) row else nV
def evalAll (es:List ExprI) (row:List Val):Nat→List Val
 |0=> []
 |k+1=>evalAll es row k ++ [stepE row (evalAll es row k) es[k]!]
def evalE (es:List ExprI) (root:Int) (row:List Val):Val:=if 0≤root∧root<es.length then(evalAll es row (root.toNat+1)).getD root.toNat nV else nV
theorem evalAll_len (es:List ExprI) (row:List Val) (k:Nat):(evalAll es row k).length=k:=by
 induction k with
 |zero=>rfl
 |succ k ih=>rw [evalAll,List.length_append,ih];rfl
theorem evalAll_get (es:List ExprI) (row:List Val) (k j:Nat) (h:j<k):(evalAll es row k).getD j nV=stepE row (evalAll es row j) es[j]! := by
 induction k with
 |zero=>omega
 |succ k ih =>
  rw [evalAll,List.getD_eq_getElem?_getD]
  by_cases c:j<k
  ·rw [List.getElem?_append_left (by rw [evalAll_len];exact c),←List.getD_eq_getElem?_getD,ih c]
  ·have e:j=k:=by omega
   subst e
   rw [List.getElem?_append_right (by rw [evalAll_len];exact Nat.le_refl _),evalAll_len,Nat.sub_self]
   rfl
theorem evalE_step (es:List ExprI) (row:List Val) (r:Nat) (h:r<es.length):evalE es r row=stepE row (evalAll es row r) es[r]:=by
 unfold evalE
 rw [if_pos ⟨by omega,by omega⟩,Int.toNat_natCast,evalAll_get es row (r+1) r (by omega),getElem!_pos es r h]
theorem ok_intVal {z:Int} (h:fit64 z):okVal (intVal z):=⟨by simp [intVal],h,by simp [intVal,maxLen]⟩
theorem ok_boolV (b:Bool):okVal (boolV b):=⟨by simp [boolV],by cases b <;> simp [boolV],by simp [boolV,maxLen]⟩
theorem ok_arithV (op:Int) (a b:Val):okVal (arithV op a b):=by
 unfold arithV
 split
 ·rename_i h;exact ok_intVal h.2.2
 ·exact ok_nV
theorem ok_applyV {x:ExprI} {row:List Val} (hc:okVal x.c) (hr : ∀v∈row,okVal v) (a b:Val):okVal (applyV x a b row):=by
 unfold applyV
 split
 ·exact hc
 split
 ·exact ok_colAt hr _
 split
 ·exact ok_arithV _ _ _
 iterate 6 (split;· exact ok_boolV _)
 exact ok_nV
theorem ok_evalAll {es:List ExprI} {row:List Val} (he : ∀x∈es,okVal x.c) (hr : ∀v∈row,okVal v) : ∀(k:Nat),k≤es.length→ ∀v∈evalAll es row k,okVal v:=by
 intro k
 induction k with
 |zero=>intro _ v hv;cases hv
 |succ k ih =>
  intro hk v hv
  rw [evalAll]at hv
  rcases List.mem_append.1 hv with hv | hv
  ·exact ih (by omega) v hv
  ·rw [List.mem_singleton]at hv
   subst hv
   unfold stepE
   split
   ·exact ok_applyV (he _ (by rw [getElem!_pos es k (by omega)];exact List.getElem_mem _)) hr _ _
   ·exact ok_nV
theorem ok_getD {l:List Val} (h : ∀v∈l,okVal v) (j:Nat):okVal (l.getD j nV):=by
 rw [List.getD_eq_getElem?_getD]
 by_cases c:j<l.length
 ·rw [List.getElem?_eq_getElem c];exact h _ (List.getElem_mem c)
 ·rw [List.getElem?_eq_none (by omega)];exact ok_nV
theorem ok_evalE {es:List ExprI} {row:List Val} (he : ∀x∈es,okVal x.c) (hr : ∀v∈row,okVal v) (root:Int):okVal (evalE es root row):=by
 unfold evalE
 split
 ·exact ok_getD (ok_evalAll he hr _ (by omega)) _
 ·exact ok_nV
def fitV (v:Val):Prop:=v.s.size≤1048576
theorem fit_nV:fitV nV:=Nat.zero_le _
theorem fit_applyV {x:ExprI} {row:List Val} (hc:fitV x.c) (hr : ∀v∈row,fitV v) (a b:Val):fitV (applyV x a b row):=by
 have hb : ∀b:Bool,fitV (boolV b):=fun b=>Nat.zero_le _
 unfold applyV
 split
 ·exact hc
 split
 ·unfold colAt
  split
  ·rename_i h
   have hlt:x.col.toNat<row.length:=by omega
   rw [List.getD_eq_getElem?_getD,List.getElem?_eq_getElem hlt]
   exact hr _ (List.getElem_mem _)
  ·exact fit_nV
 split
 ·unfold arithV;split
  ·exact Nat.zero_le _
  ·exact fit_nV
 iterate 6 (split;· exact hb _)
 exact fit_nV
theorem fit_evalE {es:List ExprI} {row:List Val} (he : ∀x∈es,fitV x.c) (hr : ∀v∈row,fitV v) (root:Int):fitV (evalE es root row):=by
 by_cases h:0≤root∧root<es.length
 ·obtain⟨r,rfl⟩ : ∃r:Nat,root=r:=⟨root.toNat,by omega⟩
  have hr2:r<es.length:=by omega
  rw [evalE_step es row r hr2]
  unfold stepE
  split
  ·exact fit_applyV (he _ (List.getElem_mem _)) hr _ _
  ·exact fit_nV
 ·unfold evalE
  rw [if_neg h]
  exact fit_nV
end Go.Proofs.YtombmdaohcjokaaGreatDoor
namespace Go.Proofs.YtombmdaohcjokaaGreatDoor
open Go.RowKit
set_option maxHeartbeats 1000000 in
theorem arity_any (op:Int) (w:World):Calls Tryz.prog 223 #[.int .i64 op] w fun e w'=>e = .returned (.int .i64 (arityE op))∧w=w':=by
 by_cases h:1≤op∧op≤11
 ·have h2:op=1∨op=2∨op=3∨op=4∨op=5∨op=6∨op=7∨op=8∨op=9∨op=10∨op=11:=by omega
  clear h
  rcases h2 with rfl | rfl | rfl | rfl | rfl | rfl | rfl | rfl | rfl | rfl | rfl
  all_goals
   go_enter Tryz.func223,Tryz.ntmps223
   go_wp2_with fail
   go_ret
   exact⟨rfl,rfl⟩
 ·have b1:(op==1)=false:=by simp;omega
  have b2:(op==2)=false:=by simp;omega
  have b3:(op==3)=false:=by simp;omega
  have b4:(op==4)=false:=by simp;omega
  have b5:(op==5)=false:=by simp;omega
  have b6:(op==6)=false:=by simp;omega
  have b7:(op==7)=false:=by simp;omega
  have b8:(op==8)=false:=by simp;omega
  have b9:(op==9)=false:=by simp;omega
  have b10:(op==10)=false:=by simp;omega
  have b11:(op==11)=false:=by simp;omega
  have ha:arityE op = -1:=by
   unfold arityE
   rw [if_neg (by omega),if_neg (by omega),if_neg (by omega)]
  rw [ha]
  clear h ha
  go_enter Tryz.func223,Tryz.ntmps223
  go_wp2_with fail
  go_ret
  exact⟨rfl,rfl⟩
set_option maxHeartbeats 1000000 in
theorem legal_any (i o:Int) (w:World):Calls Tryz.prog 178 #[.int .i64 i,.int .i64 o] w fun e w'=>e = .returned (.bool (decide (0≤o)&&decide (o<i)))∧w=w':=by
 by_cases h0:0≤o
 ·have d0:decide (0≤o)=true:=decide_eq_true h0
  rw [d0,Bool.true_and]
  go_enter Tryz.func178,Tryz.ntmps178
  go_wp2_with fail
  go_ret
  exact⟨rfl,rfl⟩
 ·have d0:decide (0≤o)=false:=decide_eq_false h0
  rw [d0,Bool.false_and]
  clear h0
  go_enter Tryz.func178,Tryz.ntmps178
  go_wp2_with fail
  go_ret
  exact⟨rfl,rfl⟩
set_option maxHeartbeats 1000000 in
theorem boolean_any (b:Bool) (w:World):Calls Tryz.prog 225 #[.bool b] w fun e w'=>e = .returned (valV (boolV b))∧Ext w w':=by
 cases b
 ·go_enter Tryz.func225,Tryz.ntmps225
  go_wp2_with fail
  exact bodyPost_ret (v:=valV (boolV false)) (by simp [results,Tryz.results225,go_sem,valV,boolV];rfl) rfl ⟨rfl,(Ext.refl w).alloc _⟩
 ·go_enter Tryz.func225,Tryz.ntmps225
  go_wp2_with fail
  exact bodyPost_ret (v:=valV (boolV true)) (by simp [results,Tryz.results225,go_sem,valV,boolV];rfl) rfl ⟨rfl,(Ext.refl w).alloc _⟩
set_option maxHeartbeats 1000000 in
theorem isTrue_any (v:Val) (w:World):Calls Tryz.prog 226 #[valV v] w fun e w'=>e = .returned (.bool (trueV v))∧Ext w w':=by
 obtain⟨k,n,s⟩:=v
 unfold trueV valV
 dsimp only
 by_cases h:k=3
 ·subst h
  have d:decide ((3:Int)=3)=true:=rfl
  have e:(n==1)=decide (n=1):=by rw [Bool.eq_iff_iff];simp
  have HE:=Lib.hid e
  rw [d,Bool.true_and]
  clear d e
  go_enter Tryz.func226,Tryz.ntmps226
  go_wp2_with fail
  go_ret
  exact⟨ret_bool HE.out,(Ext.refl w).alloc _⟩
 ·have b:(k==3)=false:=by simp [h]
  have d:decide (k=3)=false:=decide_eq_false h
  rw [d,Bool.false_and]
  clear d h
  go_enter Tryz.func226,Tryz.ntmps226
  go_wp2_with fail
  go_ret
  exact⟨rfl,(Ext.refl w).alloc _⟩
theorem mag_neg {a:Int} (h:a<0) (h0 : -9223372036854775808≤a):IntKind.u64.wrap (-IntKind.u64.wrap a)=(a.natAbs:Int):=by
 rw [IntKind.wrap_u64,IntKind.wrap_u64];omega
theorem mag_pos {a:Int} (h:0≤a) (h1:a≤9223372036854775807):IntKind.u64.wrap a=(a.natAbs:Int):=by
 rw [IntKind.wrap_u64];omega
set_option maxHeartbeats 1000000 in
theorem magnitude_any (a:Int) (ha:fit64 a) (w:World):Calls Tryz.prog 303 #[.int .i64 a] w fun e w'=>e = .returned (.int .u64 (a.natAbs:Int))∧w=w':=by
 unfold fit64 at ha
 by_cases h:a<0
 ·have HM:=Lib.hid (mag_neg h ha.1)
  have d:decide (a<0)=true:=decide_eq_true h
  clear h ha
  go_enter Tryz.func303,Tryz.ntmps303
  go_wp2_with fail
  go_ret
  exact⟨ret_int HM.out,rfl⟩
 ·have HM:=Lib.hid (mag_pos (by omega) ha.2)
  have d:decide (a<0)=false:=decide_eq_false h
  clear h ha
  go_enter Tryz.func303,Tryz.ntmps303
  go_wp2_with fail
  go_ret
  exact⟨ret_int HM.out,rfl⟩
theorem mul_same {a b:Int} (h:decide (a<0)=decide (b<0)):a*b=((a.natAbs*b.natAbs:Nat):Int):=by
 rw [Int.natCast_mul]
 by_cases h1:a<0
 ·have h2:b<0:=by simpa [h1] using h
  rw [show (a.natAbs:Int) = -a by omega,show (b.natAbs:Int) = -b by omega,Int.neg_mul_neg]
 ·have h2 : ¬b<0:=by simpa [h1] using h
  rw [show (a.natAbs:Int)=a by omega,show (b.natAbs:Int)=b by omega]
theorem mul_other {a b:Int} (h:decide (a<0)≠decide (b<0)):a*b = -((a.natAbs*b.natAbs:Nat):Int):=by
 rw [Int.natCast_mul]
 by_cases h1:a<0
 ·have h2 : ¬b<0:=by simpa [h1] using h
  rw [show (a.natAbs:Int) = -a by omega,show (b.natAbs:Int)=b by omega,Int.neg_mul,Int.neg_neg]
 ·have h2:b<0:=by simpa [h1] using h
  rw [show (a.natAbs:Int)=a by omega,show (b.natAbs:Int) = -b by omega,Int.mul_neg,Int.neg_neg]
def MulRes (z:Int) (e:Ending):Prop:= ∃n,e = .returned (.tuple #[.int .i64 n,.bool (decide (fit64 z))])∧(fit64 z→n=z)
theorem mulRes_mk {z n:Int} {b:Bool} {e:Ending} (he:e = .returned (.tuple #[.int .i64 n,.bool b])) (hb:b=true↔fit64 z) (hn:fit64 z→n=z):MulRes z e:=by
 refine⟨n,?_,hn⟩
 rw [he]
 have:b=decide (fit64 z):=by rw [Bool.eq_iff_iff,hb,decide_eq_true_eq]
 rw [this]
end Go.Proofs.YtombmdaohcjokaaGreatDoor
namespace Go.Proofs.YtombmdaohcjokaaGreatDoor
open Go.RowKit
theorem mul_fit_same {a b:Int} {hi lo:Nat} (h:decide (a<0)=decide (b<0)) (hp:a.natAbs*b.natAbs=hi*18446744073709551616+lo) (hl:lo<18446744073709551616) :
  (fit64 (a*b)↔hi=0∧lo≤9223372036854775807)∧(fit64 (a*b)→IntKind.i64.wrap (lo:Int)=a*b):=by
 rw [mul_same h,hp]
 unfold fit64
 refine⟨by omega,fun g=> ?_⟩
 rw [IntKind.wrap_i64]
 omega
theorem mul_fit_other {a b:Int} {hi lo:Nat} (h:decide (a<0)≠decide (b<0)) (hp:a.natAbs*b.natAbs=hi*18446744073709551616+lo) (hl:lo<18446744073709551616) :
  (fit64 (a*b)↔hi=0∧lo≤9223372036854775808)∧(fit64 (a*b)→IntKind.i64.wrap (-IntKind.i64.wrap (lo:Int))=a*b):=by
 rw [mul_other h,hp]
 unfold fit64
 refine⟨by omega,fun g=> ?_⟩
 rw [IntKind.wrap_i64,IntKind.wrap_i64]
 omega
theorem fin_same {a b:Int} {hi lo:Nat} {t:Bool} (h:decide (a<0)=decide (b<0)) (hp:a.natAbs*b.natAbs=hi*18446744073709551616+lo) (hl:lo<18446744073709551616) (ht:t=true↔hi=0∧lo≤9223372036854775807) :
 MulRes (a*b) (.returned (.tuple #[.int .i64 (wrap64 (lo:Int)),.bool t])):=mulRes_mk rfl (ht.trans (mul_fit_same h hp hl).1.symm) fun g=>by have h2:=(mul_fit_same h hp hl).2 g;rw [IntKind.wrap_i64]at h2;unfold wrap64;exact h2
theorem fin_other {a b:Int} {hi lo:Nat} {t:Bool} (h:decide (a<0)≠decide (b<0)) (hp:a.natAbs*b.natAbs=hi*18446744073709551616+lo) (hl:lo<18446744073709551616) (ht:t=true↔hi=0∧lo≤9223372036854775808) :
 MulRes (a*b) (.returned (.tuple #[.int .i64 (wrap64 (-wrap64 (lo:Int))),.bool t])):=mulRes_mk rfl (ht.trans (mul_fit_other h hp hl).1.symm) fun g=>by have h2:=(mul_fit_other h hp hl).2 g;rw [IntKind.wrap_i64,IntKind.wrap_i64]at h2;unfold wrap64;exact h2
theorem iff_yes {p:Prop} (h:p):(true=true)↔p:=⟨fun _=>h,fun _=>rfl⟩
theorem iff_no {p:Prop} (h : ¬p):(false=true)↔p:=⟨fun g=>(by cases g),fun g=>absurd g h⟩
set_option maxRecDepth 100000 in
set_option maxHeartbeats 4000000 in
theorem multiply_any (a b:Int) (ha:fit64 a) (hb:fit64 b) (w:World):Calls Tryz.prog 262 #[.int .i64 a,.int .i64 b] w fun e w'=>MulRes (a*b) e∧w=w':=by
 have HA:=Lib.hid ha
 have HB:=Lib.hid hb
 have hna:a.natAbs<18446744073709551616:=by unfold fit64 at ha;omega
 have hnb:b.natAbs<18446744073709551616:=by unfold fit64 at hb;omega
 have HN:=Lib.hid (And.intro hna hnb)
 obtain⟨hi,hhi⟩ : ∃x,a.natAbs*b.natAbs / 18446744073709551616=x:=⟨_,rfl⟩
 obtain⟨lo,hlo⟩ : ∃x,a.natAbs*b.natAbs % 18446744073709551616=x:=⟨_,rfl⟩
 have hp:a.natAbs*b.natAbs=hi*18446744073709551616+lo:=by omega
 have hl:lo<18446744073709551616:=by omega
 have HHI:=Lib.hid (And.intro hhi hlo)
 have HP:=Lib.hid hp
 have HL:=Lib.hid hl
 obtain⟨P,hP⟩ : ∃P,P=fit64 (a*b):=⟨_,rfl⟩
 clear ha hb hna hnb hhi hlo hp hP
 by_cases h1:a<0
 all_goals by_cases h2:b<0
 all_goals by_cases h3:hi=0
 all_goals by_cases h4:lo≤9223372036854775807
 all_goals by_cases h5:lo≤9223372036854775808
 all_goals
  first |(exfalso;omega) | skip
 all_goals
  have d1:decide (a<0)=decide (a<0):=rfl
  first
   |(replace d1:decide (a<0)=true:=decide_eq_true h1)
   |(replace d1:decide (a<0)=false:=decide_eq_false h1)
  have d2:decide (b<0)=decide (b<0):=rfl
  first
   |(replace d2:decide (b<0)=true:=decide_eq_true h2)
   |(replace d2:decide (b<0)=false:=decide_eq_false h2)
  have d3:((hi:Int)==0)=((hi:Int)==0):=rfl
  first
   |(replace d3:((hi:Int)==0)=true:=by simp;omega)
   |(replace d3:((hi:Int)==0)=false:=by simp;omega)
  have d4:decide ((lo:Int)≤9223372036854775807)=decide ((lo:Int)≤9223372036854775807):=rfl
  first
   |(replace d4:decide ((lo:Int)≤9223372036854775807)=true:=by simp;omega)
   |(replace d4:decide ((lo:Int)≤9223372036854775807)=false:=by simp;omega)
  have d5:decide ((lo:Int)≤9223372036854775808)=decide ((lo:Int)≤9223372036854775808):=rfl
  first
   |(replace d5:decide ((lo:Int)≤9223372036854775808)=true:=by simp;omega)
   |(replace d5:decide ((lo:Int)≤9223372036854775808)=false:=by simp;omega)
  have H:=Lib.hid (And.intro h1 (And.intro h2 (And.intro h3 (And.intro h4 h5))))
  clear h1 h2 h3 h4 h5
  go_enter Tryz.func262,Tryz.ntmps262
  go_wp2_with fail
  refine(magnitude_any a HA.out _).mono ?_
  rintro e w1 ⟨rfl,rfl⟩
  go_wp2_with fail
  refine(magnitude_any b HB.out _).mono ?_
  rintro e w1 ⟨rfl,rfl⟩
  go_wp2_with fail
  refine(Tryz.bits_Mul64 a.natAbs b.natAbs HN.out.1 HN.out.2 _).mono ?_
  rintro e w1 ⟨rfl,rfl⟩
  rw [HHI.out.1,HHI.out.2]
  go_wp2_with fail
  go_ret2
  obtain⟨h1,h2,h3,h4,h5⟩:=H.out
  first
   |exact⟨fin_same (d1.trans d2.symm) HP.out HL.out (iff_yes ⟨h3,h4⟩),rfl⟩
   |exact⟨fin_same (d1.trans d2.symm) HP.out HL.out (iff_no (fun g=>h3 g.1)),rfl⟩
   |exact⟨fin_same (d1.trans d2.symm) HP.out HL.out (iff_no (fun g=>h4 g.2)),rfl⟩
   |exact⟨fin_other (by rw [d1,d2];decide) HP.out HL.out (iff_yes ⟨h3,h5⟩),rfl⟩
   |exact⟨fin_other (by rw [d1,d2];decide) HP.out HL.out (iff_no (fun g=>h3 g.1)),rfl⟩
   |exact⟨fin_other (by rw [d1,d2];decide) HP.out HL.out (iff_no (fun g=>h5 g.2)),rfl⟩
end Go.Proofs.YtombmdaohcjokaaGreatDoor
namespace Go.Proofs.YtombmdaohcjokaaGreatDoor
open Go.RowKit
theorem arith_yes {op:Int} {a b:Val} (h1:a.kind=1) (h2:b.kind=1) (h:fit64 (arithI op a.n b.n)):arithV op a b=intVal (arithI op a.n b.n):=if_pos ⟨h1,h2,h⟩
theorem arith_no {op:Int} {a b:Val} (h : ¬(a.kind=1∧b.kind=1∧fit64 (arithI op a.n b.n))):arithV op a b=nV:=if_neg h
set_option maxRecDepth 100000 in
set_option maxHeartbeats 4000000 in
theorem arithmetic_add (a b:Val) (h1:a.kind=1) (h2:b.kind=1) (ha:okVal a) (hb:okVal b) (w:World):Calls Tryz.prog 224 #[.int .i64 3,valV a,valV b] w fun e w'=>e = .returned (valV (arithV 3 a b))∧Ext w w':=by
 have HY:=Lib.hid (arith_yes (op:=3) h1 h2)
 have HN:=Lib.hid (arith_no (op:=3) (a:=a) (b:=b))
 obtain⟨ak,an,sa⟩:=a
 obtain⟨bk,bn,sb⟩:=b
 dsimp only at h1 h2
 subst h1 h2
 obtain⟨z,hz⟩ : ∃z,arithV 3 ⟨1,an,sa⟩ ⟨1,bn,sb⟩=z:=⟨_,rfl⟩
 rw [hz]at HY HN ⊢
 have hra:=ha.2.1
 have hrb:=hb.2.1
 dsimp only at hra hrb
 have hsum:arithI 3 an bn=an+bn:=rfl
 unfold valV
 dsimp only
 clear hz ha hb
 by_cases hf:fit64 (an+bn)
 ·have h3:=HY.out (by rw [hsum];exact hf)
  rw [hsum]at h3
  subst h3
  unfold fit64 at hf
  obtain⟨f1,f2⟩:=hf
  clear HY HN hsum
  rcases Int.lt_trichotomy bn 0 with h | h | h
  ·have d1:decide (0<bn)=false:=by simp;omega
   have d2:decide (an<an+bn)=false:=by simp;omega
   clear hra hrb h
   go_enter Tryz.func224,Tryz.ntmps224
   go_wp2_with fail
   exact bodyPost_ret (v:=valV (intVal (an+bn))) (by simp [results,Tryz.results224,go_sem,valV,intVal];rfl) rfl ⟨rfl,(((Ext.refl w).alloc _).alloc _).alloc _⟩
  ·subst h
   clear hra hrb
   go_enter Tryz.func224,Tryz.ntmps224
   go_wp2_with fail
   exact bodyPost_ret (v:=valV (intVal (an+0))) (by simp [results,Tryz.results224,go_sem,valV,intVal];rfl) rfl ⟨rfl,(((Ext.refl w).alloc _).alloc _).alloc _⟩
  ·have d1:decide (0<bn)=true:=by simp;omega
   have d2:decide (an<an+bn)=true:=by simp;omega
   clear hra hrb h
   go_enter Tryz.func224,Tryz.ntmps224
   go_wp2_with fail
   exact bodyPost_ret (v:=valV (intVal (an+bn))) (by simp [results,Tryz.results224,go_sem,valV,intVal];rfl) rfl ⟨rfl,(((Ext.refl w).alloc _).alloc _).alloc _⟩
 ·have h3:=HN.out (by rintro⟨_,_,g⟩;rw [hsum]at g;exact hf g)
  subst h3
  unfold fit64 at hf
  obtain⟨n,hn⟩ : ∃n,IntKind.i64.wrap (an+bn)=n:=⟨_,rfl⟩
  have hn2:=hn
  rw [IntKind.wrap_i64]at hn2
  clear HY HN hsum
  rcases(show 0<bn∨bn≤0 by omega)with h | h
  ·have d1:decide (0<bn)=true:=by simp;omega
   have d2:decide (an<n)=false:=by simp;omega
   have d3:(bn==0)=false:=by simp;omega
   clear hra hrb h hf hn2
   go_enter Tryz.func224,Tryz.ntmps224
   go_wp2_with fail
   exact bodyPost_ret (v:=valV nV) (by simp [results,Tryz.results224,go_sem,valV,nV];rfl) rfl ⟨rfl,(((Ext.refl w).alloc _).alloc _).alloc _⟩
  ·have d1:decide (0<bn)=false:=by simp;omega
   have d2:decide (an<n)=true:=by simp;omega
   have d3:(bn==0)=false:=by simp;omega
   clear hra hrb h hf hn2
   go_enter Tryz.func224,Tryz.ntmps224
   go_wp2_with fail
   exact bodyPost_ret (v:=valV nV) (by simp [results,Tryz.results224,go_sem,valV,nV];rfl) rfl ⟨rfl,(((Ext.refl w).alloc _).alloc _).alloc _⟩
set_option maxRecDepth 100000 in
set_option maxHeartbeats 4000000 in
theorem arithmetic_sub (a b:Val) (h1:a.kind=1) (h2:b.kind=1) (ha:okVal a) (hb:okVal b) (w:World):Calls Tryz.prog 224 #[.int .i64 4,valV a,valV b] w fun e w'=>e = .returned (valV (arithV 4 a b))∧Ext w w':=by
 have HY:=Lib.hid (arith_yes (op:=4) h1 h2)
 have HN:=Lib.hid (arith_no (op:=4) (a:=a) (b:=b))
 obtain⟨ak,an,sa⟩:=a
 obtain⟨bk,bn,sb⟩:=b
 dsimp only at h1 h2
 subst h1 h2
 obtain⟨z,hz⟩ : ∃z,arithV 4 ⟨1,an,sa⟩ ⟨1,bn,sb⟩=z:=⟨_,rfl⟩
 rw [hz]at HY HN ⊢
 have hra:=ha.2.1
 have hrb:=hb.2.1
 dsimp only at hra hrb
 have hsum:arithI 4 an bn=an - bn:=rfl
 unfold valV
 dsimp only
 clear hz ha hb
 by_cases hf:fit64 (an - bn)
 ·have h3:=HY.out (by rw [hsum];exact hf)
  rw [hsum]at h3
  subst h3
  unfold fit64 at hf
  obtain⟨f1,f2⟩:=hf
  clear HY HN hsum
  rcases Int.lt_trichotomy bn 0 with h | h | h
  ·have d1:decide (0<bn)=false:=by simp;omega
   have d2:decide (an - bn<an)=false:=by simp;omega
   clear hra hrb h
   go_enter Tryz.func224,Tryz.ntmps224
   go_wp2_with fail
   exact bodyPost_ret (v:=valV (intVal (an - bn))) (by simp [results,Tryz.results224,go_sem,valV,intVal];rfl) rfl ⟨rfl,(((Ext.refl w).alloc _).alloc _).alloc _⟩
  ·subst h
   clear hra hrb
   go_enter Tryz.func224,Tryz.ntmps224
   go_wp2_with fail
   exact bodyPost_ret (v:=valV (intVal (an - 0))) (by simp [results,Tryz.results224,go_sem,valV,intVal];rfl) rfl ⟨rfl,(((Ext.refl w).alloc _).alloc _).alloc _⟩
  ·have d1:decide (0<bn)=true:=by simp;omega
   have d2:decide (an - bn<an)=true:=by simp;omega
   clear hra hrb h
   go_enter Tryz.func224,Tryz.ntmps224
   go_wp2_with fail
   exact bodyPost_ret (v:=valV (intVal (an - bn))) (by simp [results,Tryz.results224,go_sem,valV,intVal];rfl) rfl ⟨rfl,(((Ext.refl w).alloc _).alloc _).alloc _⟩
 ·have h3:=HN.out (by rintro⟨_,_,g⟩;rw [hsum]at g;exact hf g)
  subst h3
  unfold fit64 at hf
  obtain⟨n,hn⟩ : ∃n,IntKind.i64.wrap (an - bn)=n:=⟨_,rfl⟩
  have hn2:=hn
  rw [IntKind.wrap_i64]at hn2
  clear HY HN hsum
  rcases(show 0<bn∨bn≤0 by omega)with h | h
  ·have d1:decide (0<bn)=true:=by simp;omega
   have d2:decide (n<an)=false:=by simp;omega
   have d3:(bn==0)=false:=by simp;omega
   clear hra hrb h hf hn2
   go_enter Tryz.func224,Tryz.ntmps224
   go_wp2_with fail
   exact bodyPost_ret (v:=valV nV) (by simp [results,Tryz.results224,go_sem,valV,nV];rfl) rfl ⟨rfl,(((Ext.refl w).alloc _).alloc _).alloc _⟩
  ·have d1:decide (0<bn)=false:=by simp;omega
   have d2:decide (n<an)=true:=by simp;omega
   have d3:(bn==0)=false:=by simp;omega
   clear hra hrb h hf hn2
   go_enter Tryz.func224,Tryz.ntmps224
   go_wp2_with fail
   exact bodyPost_ret (v:=valV nV) (by simp [results,Tryz.results224,go_sem,valV,nV];rfl) rfl ⟨rfl,(((Ext.refl w).alloc _).alloc _).alloc _⟩
set_option maxRecDepth 100000 in
set_option maxHeartbeats 4000000 in
theorem arithmetic_mul (a b:Val) (h1:a.kind=1) (h2:b.kind=1) (ha:okVal a) (hb:okVal b) (w:World):Calls Tryz.prog 224 #[.int .i64 5,valV a,valV b] w fun e w'=>e = .returned (valV (arithV 5 a b))∧Ext w w':=by
 have HY:=Lib.hid (arith_yes (op:=5) h1 h2)
 have HN:=Lib.hid (arith_no (op:=5) (a:=a) (b:=b))
 have HA:=Lib.hid (show fit64 a.n from ha.2.1)
 have HB:=Lib.hid (show fit64 b.n from hb.2.1)
 obtain⟨ak,an,sa⟩:=a
 obtain⟨bk,bn,sb⟩:=b
 dsimp only at h1 h2 HA HB
 subst h1 h2
 obtain⟨z,hz⟩ : ∃z,arithV 5 ⟨1,an,sa⟩ ⟨1,bn,sb⟩=z:=⟨_,rfl⟩
 rw [hz]at HY HN ⊢
 have hsum:arithI 5 an bn=an*bn:=rfl
 have HS:=Lib.hid hsum
 unfold valV
 dsimp only
 clear hz ha hb hsum
 go_enter Tryz.func224,Tryz.ntmps224
 go_wp2_with fail
 refine(multiply_any an bn HA.out HB.out _).mono ?_
 rintro e w1 ⟨⟨n,rfl,hn⟩,rfl⟩
 by_cases hf:fit64 (an*bn)
 ·have h3:=HY.out (by rw [HS.out];exact hf)
  have hn2:=hn hf
  have hd:decide (fit64 (an*bn))=true:=decide_eq_true hf
  rw [hd]
  rw [HS.out,←hn2]at h3
  subst h3
  clear HY HN HS hn hf hn2 hd
  go_wp2_with fail
  exact bodyPost_ret (v:=valV (intVal n)) (by simp [results,Tryz.results224,go_sem,valV,intVal];rfl) rfl ⟨rfl,(((Ext.refl w).alloc _).alloc _).alloc _⟩
 ·have h3:=HN.out (by rintro⟨_,_,g⟩;rw [HS.out]at g;exact hf g)
  have hd:decide (fit64 (an*bn))=false:=decide_eq_false hf
  rw [hd]
  subst h3
  clear HY HN HS hn hf hd
  go_wp2_with fail
  exact bodyPost_ret (v:=valV nV) (by simp [results,Tryz.results224,go_sem,valV,nV];rfl) rfl ⟨rfl,(((Ext.refl w).alloc _).alloc _).alloc _⟩
set_option maxRecDepth 100000 in
set_option maxHeartbeats 4000000 in
theorem arithmetic_any (op:Int) (hop:op=3∨op=4∨op=5) (a b:Val) (ha:okVal a) (hb:okVal b) (w:World):Calls Tryz.prog 224 #[.int .i64 op,valV a,valV b] w fun e w'=>e = .returned (valV (arithV op a b))∧Ext w w':=by
 by_cases h1:a.kind=1
 ·by_cases h2:b.kind=1
  ·rcases hop with rfl | rfl | rfl
   ·exact arithmetic_add a b h1 h2 ha hb w
   ·exact arithmetic_sub a b h1 h2 ha hb w
   ·exact arithmetic_mul a b h1 h2 ha hb w
  ·have h3:arithV op a b=nV:=arith_no fun g=>h2 g.2.1
   rw [h3]
   obtain⟨ak,an,sa⟩:=a
   obtain⟨bk,bn,sb⟩:=b
   dsimp only at h1 h2
   subst h1
   have d:(bk != 1)=true:=by simp [h2]
   unfold valV
   dsimp only
   clear h2 h3 ha hb hop
   go_enter Tryz.func224,Tryz.ntmps224
   go_wp2_with fail
   exact bodyPost_ret (v:=valV nV) (by simp [results,Tryz.results224,go_sem,valV,nV];rfl) rfl ⟨rfl,(((Ext.refl w).alloc _).alloc _).alloc _⟩
 ·have h3:arithV op a b=nV:=arith_no fun g=>h1 g.1
  rw [h3]
  obtain⟨ak,an,sa⟩:=a
  obtain⟨bk,bn,sb⟩:=b
  dsimp only at h1
  have d:(ak != 1)=true:=by simp [h1]
  unfold valV
  dsimp only
  clear h1 h3 ha hb hop
  go_enter Tryz.func224,Tryz.ntmps224
  go_wp2_with fail
  exact bodyPost_ret (v:=valV nV) (by simp [results,Tryz.results224,go_sem,valV,nV];rfl) rfl ⟨rfl,(((Ext.refl w).alloc _).alloc _).alloc _⟩
end Go.Proofs.YtombmdaohcjokaaGreatDoor
