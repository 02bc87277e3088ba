/- joined texts of a proof: PerS, TupT, TupU, Bld, Laid, KeyW, RowK, NormW, GrpI, GenA, EvalC, AggW, BndW, ClipW -/
import Derived.Test.YtombmdaohcjokaaGreatDoorKX02
import Derived.Test.YtombmdaohcjokaaGreatDoorKX01
import Derived.Deep.QuietTactic
import Derived.BigQuiet
import Derived.Deep.RegionWith
import Derived.Test.YtombmdaohcjokaaGreatDoorKX03
import Derived.Lib.AppendStr
import Derived.Lib.Builder
import Derived.Lib.OthersKept
import Derived.Laws.Externs
import Derived.Lib.ItoaLen
import Derived.Deep.RegionHeld3
import Derived.Maps.Own
import Derived.Laws.OwnMore
import Derived.WalkMore
namespace Go.Proofs.YtombmdaohcjokaaGreatDoor
open Go.RowKit
@[reducible] def perV (a b:Int):Value:= .agg #[.int .i64 a,.int .i64 b]
set_option maxHeartbeats 400000 in
theorem valid_any (a b:Int) (w:World) :
  Calls Tryz.prog 123 #[perV a b] w fun e w'=>e = .returned (.bool (validB a b))∧Ext w w':=by
 go_enter Tryz.func123,Tryz.ntmps123
 go_wp2
 all_goals
  go_ret
  refine⟨ret_bool ?_,(Below.refl _ _).alloc (Nat.le_refl _) _⟩
  simp [validB, *]
  try omega
def interB (a b c d:Int):Bool:=validB a b&&validB c d&&decide (max a c<min b d)
def interV (a b c d:Int):Value:=if interB a b c d=true then .tuple #[perV (max a c) (min b d),.bool true]else .tuple #[perV 0 0,.bool false]
end Go.Proofs.YtombmdaohcjokaaGreatDoor
namespace Go.Proofs.YtombmdaohcjokaaGreatDoor
open Go.RowKit
def fitTs (l:List Tup):Prop:=l.length≤1048576∧ ∀t∈l,t.vals.length≤1048576∧t.lin.length≤1048576
end Go.Proofs.YtombmdaohcjokaaGreatDoor
namespace Go.Proofs.YtombmdaohcjokaaGreatDoor
open Go.RowKit
end Go.Proofs.YtombmdaohcjokaaGreatDoor
namespace Go.Proofs.YtombmdaohcjokaaGreatDoor
open Go.RowKit
theorem sizeBld:(Tryz.prog.info? 195).map (·.size)=some 2:=by kernel_rfl
theorem liesBld:liesAt Tryz.prog Tryz.prog.depth 195 (2 / Tryz.prog.cellsOf 195) 0 195 1=true:=by kernel_rfl
theorem infoByte:(Tryz.prog.info? 5).map (fun i=>(i.zero,i.size,i.bytes))=some (some (.int .u8 0),1,1):=by kernel_rfl
def Bld (b:Nat) (bs:List UInt8) (w:World):Prop:=Lib.IsBuilder 195 5 b b (Lib.byteCells bs) w
theorem Bld.fresh (w:World):Bld w.heap.size [] (w.alloc (.cells #[.pointer none,.slice none 0 0] 195)):=Lib.fresh_isBuilder _ _ w
theorem Ext.grows {w w':World} (h:Ext w w'):w.grownBy w' none:=⟨h.os,h.tape,h.output,h.size,fun i hi _=>h.block i hi⟩
theorem Bld.lt {b:Nat} {bs:List UInt8} {w:World} (h:Bld b bs w):b<w.heap.size:=by
 rcases h with h | h <;> exact h.lt
theorem Bld.ext {b:Nat} {bs:List UInt8} {w w':World} (h:Bld b bs w) (hx:Ext w w'):Bld b bs w':=by
 have hlt:=h.lt
 rcases h with ⟨h1,v,h2,h3,h4⟩ | ⟨h1,v,h2,h3,h4⟩
 ·exact .inl ⟨h1,v,(hx.block b hlt).trans h2,h3.kept (Ext.grows hx) (by cases v.ownBlock <;> simp),h4⟩
 ·exact .inr ⟨h1,v,(hx.block b hlt).trans h2,h3.kept (Ext.grows hx) (by cases v.ownBlock <;> simp),h4⟩
set_option maxHeartbeats 1000000 in
set_option maxRecDepth 100000 in
theorem copyCheck_used (b:Nat) (w:World) (h0:w.cell? ⟨b,0,none⟩=some (.pointer (some ⟨b,0,none⟩))) :
  Calls Tryz.prog 180 #[.pointer (some ⟨b,0,none⟩)] w fun e w'=>e = .returned (.tuple #[])∧w'=w:=by
 obtain⟨j,hj,_⟩:=Option.map_eq_some_iff.1 sizeBld
 go_enter Tryz.func180,Tryz.ntmps180
 go_wp2
 rw [Lib.run_neq_ptr_same w _ Tryz.underlying192 hj]
 go_wp2
 go_end0
 exact⟨rfl,rfl⟩
set_option maxHeartbeats 1000000 in
set_option maxRecDepth 100000 in
theorem copyCheck_fresh (b:Nat) (w:World) (h0:w.cell? ⟨b,0,none⟩=some (.pointer none)) (hsh:w.shape? b=some (195,2)) (hfz:w.frozen? ⟨b,0,none⟩=false) :
  Calls Tryz.prog 180 #[.pointer (some ⟨b,0,none⟩)] w fun e w'=>e = .returned (.tuple #[])∧w'=w.setCell ⟨b,0,none⟩ (.pointer (some ⟨b,0,none⟩)):=by
 obtain⟨j,hj,hjs⟩:=Option.map_eq_some_iff.1 sizeBld
 go_enter Tryz.func180,Tryz.ntmps180
 go_wp2
 rw [Lib.run_to_unsafe w ⟨b,0,none⟩ Tryz.underlying192 Tryz.underlying308 hj (by rw [hjs];decide) hsh (Nat.zero_lt_succ 1)]
 simp only [Result.andThen]
 rw [Oper.upon_value]
 go_wp2
 rw [run_callFunc_extern Tryz.func227 (by kernel_rfl) (by kernel_rfl) (by kernel_rfl) (e:=Extern.AbiNoEscape.same) (by kernel_rfl)]
 rw [Lib.run_noEscape]
 simp only [Result.andThen]
 rw [Oper.upon_value]
 go_wp2
 rw [Lib.run_from_unsafe w ⟨b,0,none⟩ Tryz.underlying308 Tryz.underlying192 hj hsh liesBld]
 simp only [Result.andThen]
 rw [Oper.upon_value]
 go_wp2
 go_end0
 exact⟨rfl,rfl⟩
theorem row_block {w:World} {base:Nat} {e:TypeId} {k n:Nat} {v:Value} {xs:List Value} (h:w.ownsRow base e k v n xs) : ∀g,v.ownBlock=some g→ ∃c fz,w.heap[g]?=some (.cells c e fz):=by
 intro g hg
 rcases h.2 with ⟨rfl,_⟩ | ⟨g',cap,cur,rfl,_,hgg,_⟩
 ·cases hg
 ·cases hg
  exact⟨_,_,hgg⟩
theorem copyCheck_any (b:Nat) (bs:List UInt8) (w:World) (h:Bld b bs w) :
  Calls Tryz.prog 180 #[.pointer (some ⟨b,0,none⟩)] w fun e w'=>e = .returned (.tuple #[])∧(Lib.BuilderAt 195 5 b b (.pointer (some ⟨b,0,none⟩)) (Lib.byteCells bs) w'∧Below b w w'∧Lib.OthersKept 5 (some b) w w'):=by
 rcases h with h | h
 ·refine(copyCheck_fresh b w h.cell0 h.shape h.frozen0).mono ?_
  rintro e w' ⟨rfl,rfl⟩
  exact⟨rfl,h.used _,(Below.refl b w).setCell (p:=⟨b,0,none⟩) h.1 _,(Lib.OthersKept.refl _ _ w).setCell ⟨b,0,none⟩ rfl _⟩
 ·refine(copyCheck_used b w h.cell0).mono ?_
  rintro e w' ⟨rfl,rfl⟩
  exact⟨rfl,h,Below.refl b _,Lib.OthersKept.refl _ _ _⟩
set_option maxHeartbeats 2000000 in
set_option maxRecDepth 100000 in
theorem writeString_any (b:Nat) (bs:List UInt8) (s:List UInt8) (w:World) (h:Bld b bs w) (hlen:bs.length+s.length≤140737488355328) :
  Calls Tryz.prog 126 #[.pointer (some ⟨b,0,none⟩),.string ⟨s.toArray⟩] w fun e w'=>e = .returned (.tuple #[.int .i64 s.length,.nilIface])∧Bld b (bs++s) w'∧Below b w w'∧Lib.OthersKept 5 (some b) w w':=by
 obtain⟨i0,hi,hz0,hz1,hz2⟩:=info_parts infoByte
 have hlt:=h.lt
 have hsz:(⟨s.toArray⟩:ByteArray).size=s.length:=by simp [ByteArray.size]
 go_enter Tryz.func126,Tryz.ntmps126
 go_wp2_with fail
 refine(copyCheck_any b bs _ h).mono ?_
 rintro e w1 ⟨rfl,h1,hb1,ho1⟩
 obtain⟨hB,v,hbk,hown,hne⟩:=h1
 have c0:w1.cell? ⟨b,0,none⟩=some (.pointer (some ⟨b,0,none⟩)):=by rw [Lib.cell_of_heap hbk];rfl
 have c1:w1.cell? ⟨b,1,none⟩=some v:=by rw [Lib.cell_of_heap hbk];rfl
 have hbl:(Lib.byteCells bs).length=bs.length:=by simp [Lib.byteCells]
 go_wp2_with (at_builtin;refine Lib.wpList_append_own_string _ rfl _ _ 193 9 rfl b 5 i0 Tryz.underlying193 Tryz.underlying9 hi hz0 hz1 hz2 _ _ _ rfl hown ⟨s.toArray⟩ rfl ?c3 ?c4 ?c5 ?_)
 case c3=>rw [hsz,hbl];unfold maxLen;omega
 case c4=>rw [hsz,hbl];omega
 case c5=>have:=hb1.size;omega
 intro v' w2 hown' hgrow _
 have hlt:b<w1.heap.size:=by
  rcases Nat.lt_or_ge b w1.heap.size with h' | h'
  ·exact h'
  ·simp [Array.getElem?_eq_none h']at hbk
 have hb2:w2.heap[b]?=some (.cells #[.pointer (some ⟨b,0,none⟩),v] 195 (0,0)):=by
  rw [hgrow.block b hlt (fun e=>hne e.symm)]
  exact hbk
 have d0:w2.cell? ⟨b,0,none⟩=some (.pointer (some ⟨b,0,none⟩)):=by rw [Lib.cell_of_heap hb2];rfl
 have d1:w2.cell? ⟨b,1,none⟩=some v:=by rw [Lib.cell_of_heap hb2];rfl
 have f1:w2.frozen? ⟨b,1,none⟩=false:=Lib.frozen_of_heap hb2 1
 obtain⟨ao,n',cap,rfl⟩ : ∃ao n' cap,v' = .slice ao n' cap:=by
  rcases hown'.2 with ⟨hv,_⟩ | ⟨g,cap,cur,hv,_⟩
  ·exact⟨_,_,_,hv⟩
  ·exact⟨_,_,_,hv⟩
 go_wp2
 go_ret2
 have hcells:Lib.byteCells bs++Lib.strCells ⟨s.toArray⟩=Lib.byteCells (bs++s):=by rw [show Lib.strCells ⟨s.toArray⟩=Lib.byteCells s from rfl];simp [Lib.byteCells]
 refine⟨?_,?_,?_,?_⟩
 ·rfl
 ·refine .inr ?_
  rw [←hcells]
  exact Lib.BuilderAt.put (T:=195) (e:=5) hB hb2 (bs':=Lib.byteCells bs++Lib.strCells ⟨s.toArray⟩) (by rw [List.length_append,Lib.strCells_length,hsz,hbl];exact hown') (by decide)
 ·exact(hb1.grown hgrow (by have:=hb1.size;omega) (fun k hk=>(hown.lt k hk).1)).setCell (p:=⟨b,1,none⟩) hB _
 ·exact(ho1.grown hgrow (row_block hown)).setCell ⟨b,1,none⟩ rfl _
theorem kept_at {b k:Nat} {w w':World} {cs:Array Value} {T:TypeId} {fz:Nat×Nat} (h:Lib.OthersKept 5 (some b) w w') (hk:w.heap[k]?=some (.cells cs T fz)) (hb:k≠b) (hT:T≠5):w'.heap[k]?=some (.cells cs T fz) :=
 h k _ hk (fun e=>hb (Option.some.inj e)) (fun c fz' e=>by cases e;exact hT rfl)
end Go.Proofs.YtombmdaohcjokaaGreatDoor
namespace Go.Proofs.YtombmdaohcjokaaGreatDoor
open Go.RowKit
theorem var_ext {P:Program} {w w':World} {name:String} {cs:Array Value} (h:w.var? P name=some cs) (hx:Ext w w'):w'.var? P name=some cs:=by
 unfold World.var? at h ⊢
 obtain⟨g,hg,hc⟩:=Option.bind_eq_some_iff.1 h
 rw [hg]
 simp only [Option.bind_some]
 cases hb:w.heap[g]? with
 |none=>rw [hb]at hc;cases hc
 |some o =>
  have hlt:g<w.heap.size:=(Array.getElem?_eq_some_iff.1 hb).1
  rw [hx.block g hlt]
  exact hc
def TabW (w:World):Prop:=Lib.TabIs Tryz.prog w "internal/strconv.uint64pow10" .u64 Lib.pow10Tab
theorem TabW.ext {w w':World} (h:TabW w) (hx:Ext w w'):TabW w':=var_ext h hx
def DaysW (w:World):Prop:=w.var? Tryz.prog "annalist/group.allDays" = some #[.int .i64 0,.int .i64 1000000]
theorem ext_grow {w w':World} (h : ∃k os,w'=Go.Sort.grow (w.drewN k) os):Ext w w':=by
 obtain⟨k,os,rfl⟩:=h
 exact(Gro.of_grow w k os).ext
theorem itoa_any (n:Int) (w:World) (h0 : -9223372036854775808≤n) (h1:n≤9223372036854775807) (ht:TabW w) :
  Calls Tryz.prog 127 #[.int .i64 n] w fun e w'=>e = .returned (.string ⟨(Lib.itoa n).toArray⟩)∧Ext w w' :=
 (Tryz.strconv_Itoa n h0 h1 w ht).mono fun _ _ h=>⟨h.1,ext_grow h.2⟩
theorem formatInt_any (n:Int) (w:World) (h0 : -9223372036854775808≤n) (h1:n≤9223372036854775807) (ht:TabW w) :
  Calls Tryz.prog 128 #[.int .i64 n,.int .i64 10] w fun e w'=>e = .returned (.string ⟨(Lib.itoa n).toArray⟩)∧Ext w w' :=
 (Tryz.strconv_FormatInt_10 n h0 h1 w ht).mono fun _ _ h=>⟨h.1,ext_grow h.2⟩
theorem val_cells {h:View} {b o n cap:Nat} {xs:List Val} (k:SliceOf Rep.val h (.slice (some ⟨b,o,none⟩) n cap) xs) (i:Nat) (hi:i<xs.length) :
  h ⟨b,o+i*3,none⟩=some (.int .i64 xs[i].kind)∧h ⟨b,o+i*3+1,none⟩=some (.int .i64 xs[i].n)∧h ⟨b,o+i*3+2,none⟩=some (.string xs[i].s)∧(-9223372036854775808≤xs[i].kind∧xs[i].kind≤9223372036854775807)∧(-9223372036854775808≤xs[i].n∧xs[i].n≤9223372036854775807):=by
 obtain⟨c,⟨rfl,h3,h4,_⟩,h2⟩:=k.at i hi
 exact⟨h2 0 _ rfl,h2 1 _ rfl,h2 2 _ rfl,h3,h4⟩
end Go.Proofs.YtombmdaohcjokaaGreatDoor
namespace Go.Proofs.YtombmdaohcjokaaGreatDoor
open Go.RowKit
theorem keyVals_take (vs:List Val) (k:Nat) (h:k<vs.length):keyVals (vs.take (k+1))=keyVals (vs.take k)++keyVal vs[k]:=by
 rw [List.take_succ_eq_append_getElem h]
 unfold keyVals
 rw [List.flatMap_append,List.flatMap_cons,List.flatMap_nil,List.append_nil]
theorem itoa_len (n:Int) (h0 : -9223372036854775808≤n) (h1:n≤9223372036854775807):(Lib.itoa n).length≤21:=Lib.itoa_length_le n h0 h1
def fitVals (vs:List Val):Prop:=vs.length≤1048576∧ ∀v∈vs,v.s.size≤1048576
theorem keyVal_bytes (yk yn:Int) (ys:ByteArray):(((((((⟨(Lib.itoa yk).toArray⟩:ByteArray)++⟨#[44]⟩)++⟨(Lib.itoa yn).toArray⟩)++⟨#[44]⟩)++⟨(Lib.itoa (ys.size:Int)).toArray⟩)++⟨#[58]⟩)++ys).data.toList=keyVal ⟨yk,yn,ys⟩:=by
 simp [keyVal,ByteArray.data_append]
theorem keyVal_len {yk yn:Int} {ys:ByteArray} (h1:(Lib.itoa yk).length≤21) (h2:(Lib.itoa yn).length≤21) (h3:(Lib.itoa (ys.size:Int)).length≤21) (h4:ys.size≤1048576):(keyVal ⟨yk,yn,ys⟩).length≤1048650:=by
 have e:ys.data.toList.length=ys.size:=Array.length_toList
 simp only [keyVal,List.length_append,List.length_cons,e]
 omega
theorem of_list (s:ByteArray):s=⟨s.data.toList.toArray⟩:=by
 obtain⟨⟨l⟩⟩:=s
 rfl
theorem writeKey (b:Nat) (bs:List UInt8) (yk yn:Int) (ys:ByteArray) (w:World) (h:Bld b bs w) (hlen:bs.length+(keyVal ⟨yk,yn,ys⟩).length≤140737488355328) :
  Calls Tryz.prog 126 #[.pointer (some ⟨b,0,none⟩),.string (((((((⟨(Lib.itoa yk).toArray⟩:ByteArray)++⟨#[44]⟩)++⟨(Lib.itoa yn).toArray⟩)++⟨#[44]⟩)++⟨(Lib.itoa (ys.size:Int)).toArray⟩)++⟨#[58]⟩)++ys)] w fun e w'=>e = .returned (.tuple #[.int .i64 (keyVal ⟨yk,yn,ys⟩).length,.nilIface])∧Bld b (bs++keyVal ⟨yk,yn,ys⟩) w'∧Below b w w'∧Lib.OthersKept 5 (some b) w w':=by
 rw [of_list (_++ys),keyVal_bytes]
 exact writeString_any b bs _ w h hlen
theorem bldE {b:Nat} {bs:List UInt8} {w w':World} (h:Bld b bs w) (hx:Ext w w'):Bld b bs w':=h.ext hx
theorem tabE {w w':World} (h:TabW w) (hx:Ext w w'):TabW w':=h.ext hx
theorem keepK {w wa wb:World} {B:Nat} {v0 v1 v2:Value} {T:TypeId}
  (h:Ext w wa∧wa.cell? ⟨B,0,none⟩=some v0∧wa.cell? ⟨B,1,none⟩=some v1∧wa.cell? ⟨B,2,none⟩=some v2∧wa.heap[B]?=some (.cells #[v0,v1,v2] T (0,0))) (hx:Ext wa wb) :
  Ext w wb∧wb.cell? ⟨B,0,none⟩=some v0∧wb.cell? ⟨B,1,none⟩=some v1∧wb.cell? ⟨B,2,none⟩=some v2∧wb.heap[B]?=some (.cells #[v0,v1,v2] T (0,0)) :=
 ⟨h.1.trans hx,hx.at h.2.1,hx.at h.2.2.1,hx.at h.2.2.2.1,(hx.block B (Array.getElem?_eq_some_iff.1 h.2.2.2.2).1).trans h.2.2.2.2⟩
theorem keepO {w wa wb:World} {B:Nat} {v0 v1 v2:Value} {T:TypeId}
  (h:Ext w wa∧wa.cell? ⟨B,0,none⟩=some v0∧wa.cell? ⟨B,1,none⟩=some v1∧wa.cell? ⟨B,2,none⟩=some v2∧wa.heap[B]?=some (.cells #[v0,v1,v2] T (0,0)))
  (hx:Below w.heap.size wa wb) (ho:Lib.OthersKept 5 (some w.heap.size) wa wb) (hB:B≠w.heap.size) (hT:T≠5) :
  Ext w wb∧wb.cell? ⟨B,0,none⟩=some v0∧wb.cell? ⟨B,1,none⟩=some v1∧wb.cell? ⟨B,2,none⟩=some v2∧wb.heap[B]?=some (.cells #[v0,v1,v2] T (0,0)):=by
 have hk:=kept_at ho h.2.2.2.2 hB hT
 exact⟨Below.trans h.1 hx,by rw [Lib.cell_of_heap hk];rfl,by rw [Lib.cell_of_heap hk];rfl,by rw [Lib.cell_of_heap hk];rfl,hk⟩
set_option maxRecDepth 100000 in
set_option maxHeartbeats 8000000 in
theorem key_any (v:Value) (vs:List Val) (w:World) (hv:SliceOf Rep.val w.cell? v vs) (hf:fitVals vs) (ht:TabW w) :
  Calls Tryz.prog 81 #[v] w fun e w'=>e = .returned (.string ⟨(keyVals vs).toArray⟩)∧Ext w w':=by
 obtain⟨p,cap,rfl,hc1,hc2,hp⟩:=hv.form
 obtain⟨N,hN⟩ : ∃N,N=vs.length:=⟨_,rfl⟩
 have HV:=Lib.hid hv
 rw [←hN]
 have HN:=Lib.hid hN
 have HP:=Lib.hid hp
 have HF:=Lib.hid hf
 have HT:=Lib.hid ht
 have hNl:N≤1048576:=by rw [hN];exact hf.1
 clear hv hN hp hc1 hc2 hf ht
 have hF0:=Bld.fresh w
 go_enter Tryz.func81,Tryz.ntmps81
 go_wp2_with fail
 go_loopg [8] N (fun gk vi wr=> ∃(k:Nat),k≤N∧gk=N - k∧vi = .int .i64 k∧Hid (Bld w.heap.size (keyVals (vs.take k)) wr)∧Hid ((keyVals (vs.take k)).length≤1048650*k)∧Hid (Ext w wr))
 case atStart=>exact⟨0,by omega,rfl,rfl,hF0,by show 0≤_;omega,(Ext.refl w).alloc _⟩
 case round =>
  obtain⟨k,hk,rfl,rfl,HB,HLen,HX⟩:=hrel
  by_cases hlt:k<N
  ·have hkl:k<vs.length:=by have:=HN.out;omega
   have hd:decide ((k:Int)<(N:Int))=true:=by simp;omega
   obtain⟨b,o,rfl⟩:=HP.out (by decide) (by omega)
   have hv:=HV.out
   rw [←HN.out]at hv
   obtain⟨c0,c1,c2,r1,r2⟩:=val_cells hv k hkl
   replace c0:=HX.out.at c0
   replace c1:=HX.out.at c1
   replace c2:=HX.out.at c2
   have hst:=keyVals_take vs k hkl
   have hsz:=HF.out.2 vs[k] (List.getElem_mem hkl)
   generalize vs[k]=y at c0 c1 c2 r1 r2 hst hsz
   obtain⟨yk,yn,ys⟩:=y
   dsimp only at c0 c1 c2 r1 r2 hst hsz
   have HST:=Lib.hid hst
   have HR:=Lib.hid (show ((-9223372036854775808≤yk∧yk≤9223372036854775807)∧(-9223372036854775808≤yn∧yn≤9223372036854775807))∧ys.size≤1048576 from ⟨⟨r1,r2⟩,hsz⟩)
   have e0:=cell_lt c0
   clear hst hv r1 r2 hsz
   go_wp2_with fail
   have k0:(wr.alloc (.cells #[.int .i64 yk,.int .i64 yn,.string ys] 61)).cell? ⟨wr.heap.size,0,none⟩=some (.int .i64 yk):=by go_simp
   have k1:(wr.alloc (.cells #[.int .i64 yk,.int .i64 yn,.string ys] 61)).cell? ⟨wr.heap.size,1,none⟩=some (.int .i64 yn):=by go_simp
   have k2:(wr.alloc (.cells #[.int .i64 yk,.int .i64 yn,.string ys] 61)).cell? ⟨wr.heap.size,2,none⟩=some (.string ys):=by go_simp
   have k3:(wr.alloc (.cells #[.int .i64 yk,.int .i64 yn,.string ys] 61)).heap[wr.heap.size]?=some (.cells #[.int .i64 yk,.int .i64 yn,.string ys] 61 (0,0)):=(MapKept.heap_alloc wr _).1
   have x0:Ext wr (wr.alloc (.cells #[.int .i64 yk,.int .i64 yn,.string ys] 61)):=(Ext.refl wr).alloc _
   generalize (wr.alloc (.cells #[.int .i64 yk,.int .i64 yn,.string ys] 61))=W at k0 k1 k2 k3 x0 ⊢
   have hB0:Bld w.heap.size (keyVals (vs.take k)) W.drew:=HB.out.ext x0.drew
   have hT0:TabW W.drew:=HT.out.ext (HX.out.trans x0.drew)
   have hlt2:=HB.out.lt
   have hS0:Ext w W.drew∧W.drew.cell? ⟨wr.heap.size,0,none⟩=some (.int .i64 yk)∧W.drew.cell? ⟨wr.heap.size,1,none⟩=some (.int .i64 yn)∧W.drew.cell? ⟨wr.heap.size,2,none⟩=some (.string ys)∧W.drew.heap[wr.heap.size]?=some (.cells #[.int .i64 yk,.int .i64 yn,.string ys] 61 (0,0)):=⟨HX.out.trans x0.drew,k0,k1,k2,k3⟩
   clear k0 k1 k2 k3 c0 c1 c2
   have l1:=itoa_len yk HR.out.1.1.1 HR.out.1.1.2
   have l2:=itoa_len yn HR.out.1.2.1 HR.out.1.2.2
   have l3:=itoa_len (ys.size:Int) (by omega) (by have:=HR.out;omega)
   have l4:=HR.out.2
   have q1 : ¬ 9223372036854775807<(Lib.itoa yk).length+1:=by omega
   have q2 : ¬ 9223372036854775807<(Lib.itoa yk).length+1+(Lib.itoa yn).length:=by omega
   have q3 : ¬ 9223372036854775807<(Lib.itoa yk).length+1+(Lib.itoa yn).length+1:=by omega
   have q4 : ¬ 9223372036854775807<(Lib.itoa yk).length+1+(Lib.itoa yn).length+1+(Lib.itoa (ys.size:Int)).length:=by omega
   have q5 : ¬ 9223372036854775807<(Lib.itoa yk).length+1+(Lib.itoa yn).length+1+(Lib.itoa (ys.size:Int)).length+1:=by omega
   have q6 : ¬ 9223372036854775807<(Lib.itoa yk).length+1+(Lib.itoa yn).length+1+(Lib.itoa (ys.size:Int)).length+1+ys.size:=by omega
   have HQ:=Lib.hid (And.intro (And.intro l1 l2) (And.intro l3 l4))
   clear l1 l2 l3 l4
   go_region_held3 (fun w'=>Ext w w'∧w'.cell? ⟨wr.heap.size,0,none⟩=some (.int .i64 yk)∧w'.cell? ⟨wr.heap.size,1,none⟩=some (.int .i64 yn)∧w'.cell? ⟨wr.heap.size,2,none⟩=some (.string ys)∧w'.heap[wr.heap.size]?=some (.cells #[.int .i64 yk,.int .i64 yn,.string ys] 61 (0,0)))
    (first |with_reducible assumption | with_reducible exact keepK (by assumption) hx2 | with_reducible exact keepO (by assumption) hx5 hO5 (by omega) (by decide))
    (first |(go_at_call 127;refine(itoa_any _ _ (by have:=HR.out;omega) (by have:=HR.out;omega) (by assumption)).mono ?_;rintro e w2 ⟨rfl,hx2⟩;have hB2:=bldE (by assumption) hx2;have hT2:=tabE (by assumption) hx2) | (go_at_call 128;refine(formatInt_any _ _ (by have:=HR.out;omega) (by have:=HR.out;omega) (by assumption)).mono ?_;rintro e w2 ⟨rfl,hx2⟩;have hB2:=bldE (by assumption) hx2;have hT2:=tabE (by assumption) hx2) | (go_at_call 126;refine(writeKey _ _ yk yn ys _ (by assumption) (by have h1:=HLen.out;have h2:=HQ.out;have h3:=keyVal_len h2.1.1 h2.1.2 h2.2.1 h2.2.2;omega)).mono ?_;rintro e w5 ⟨rfl,hB5,hx5,hO5⟩))
   all_goals (obtain⟨hfin,_⟩:= ‹Ext w w5∧_›)
   all_goals have HB5:=Lib.hid (show Bld w.heap.size (keyVals (vs.take (k+1))) w5 from by rw [HST.out];exact hB5)
   all_goals have HL5:=Lib.hid (show (keyVals (vs.take (k+1))).length≤1048650*(k+1)from by rw [HST.out,List.length_append];have h1:=HLen.out;have h2:=HQ.out;have h3:=keyVal_len h2.1.1 h2.1.2 h2.2.1 h2.2.2;omega)
   all_goals have HX5:=Lib.hid hfin
   all_goals clear hB5 hfin hO5 hx5
   all_goals go_wp2_with fail
   all_goals go_roundg (N - (k+1))
   all_goals first
    |(case measure=>omega)
    |(case rel=>exact⟨k+1,by omega,rfl,by go_num,HB5.out,HL5.out,HX5.out⟩)
  ·have hkN:k=N:=by omega
   have hd : ¬(k:Int)<(N:Int):=by omega
   have HBF:=Lib.hid (show Bld w.heap.size (keyVals vs) wr from by have h:=HB.out;rw [hkN,HN.out,List.take_length]at h;exact h)
   clear hkN HLen
   go_wp2_with fail
   refine(Tryz.Builder_String_any _ _ (keyVals vs) _ HBF.out (Nat.le_of_lt HBF.out.lt)).mono ?_
   rintro e w6 ⟨rfl,x6⟩
   have X6:=Lib.hid (show Ext w w6 from Below.trans HX.out x6)
   clear x6
   go_wp2_with fail
   go_ret
   exact⟨rfl,X6.out⟩
end Go.Proofs.YtombmdaohcjokaaGreatDoor
namespace Go.Proofs.YtombmdaohcjokaaGreatDoor
open Go.RowKit
theorem vals_range {h:View} {v:Value} {vs:List Val} (k:SliceOf Rep.val h v vs) : ∀x∈vs,(-9223372036854775808≤x.kind∧x.kind≤9223372036854775807)∧(-9223372036854775808≤x.n∧x.n≤9223372036854775807):=by
 intro x hx
 obtain⟨i,hi,rfl⟩:=List.getElem_of_mem hx
 obtain⟨p,cap,rfl,_,_,hp⟩:=k.form
 obtain⟨b,o,rfl⟩:=hp (by decide) (by omega)
 obtain⟨_,_,_,r1,r2⟩:=val_cells k i hi
 exact⟨r1,r2⟩
theorem keyVals_len {vs:List Val} (h : ∀x∈vs,(-9223372036854775808≤x.kind∧x.kind≤9223372036854775807)∧(-9223372036854775808≤x.n∧x.n≤9223372036854775807)) (hf : ∀x∈vs,x.s.size≤1048576):(keyVals vs).length≤1048650*vs.length:=by
 induction vs with
 |nil=>exact Nat.zero_le _
 |cons x vs ih =>
  have h1:=ih (fun y hy=>h y (by simp [hy])) fun y hy=>hf y (by simp [hy])
  have hx:=h x (by simp)
  have hs:=hf x (by simp)
  have h2:=keyVal_len (itoa_len x.kind hx.1.1 hx.1.2) (itoa_len x.n hx.2.1 hx.2.2) (itoa_len (x.s.size:Int) (by omega) (by omega)) hs
  unfold keyVals at h1 ⊢
  rw [List.flatMap_cons,List.length_append,List.length_cons]
  have h3:(keyVal x).length≤1048650:=h2
  omega
end Go.Proofs.YtombmdaohcjokaaGreatDoor
namespace Go.Proofs.YtombmdaohcjokaaGreatDoor
open Go.RowKit Go.Maps
theorem ext_grown {a w w':World} {row:Option Nat} (h:Ext a w) (gr:w.grownBy w' row) (hr : ∀k,row=some k→a.heap.size≤k):Ext a w':=Below.grown h gr h.size hr
theorem cell_grown {w w':World} {row:Option Nat} {b o:Nat} {v:Value} (gr:w.grownBy w' row) (hc:w.cell? ⟨b,o,none⟩=some v) (hne : ∀k,row=some k→k≠b):w'.cell? ⟨b,o,none⟩=some v :=
 (World.cell?_of_block (w:=w) (gr.block b (cell_lt hc) (fun e=>hne b e.symm rfl))).trans hc
theorem key_str (l:List UInt8) (h:l.length≤maxLen):keyOf Tryz.prog 9 (.string ⟨l.toArray⟩)=some (.string l):=by
 rw [keyOf_string Tryz.underlying9]
 unfold mapKey
 rw [Tryz.underlying9]
 simp [ByteArray.size,h]
def fitN (l:List Tup):Prop:=l.length≤65536∧ ∀t∈l,fitVals t.vals∧t.lin.length≤1048576
theorem own_grown {α:Type} {R:Rep α} {w w':World} {row:Option Nat} {S:Nat→Prop} {base:Nat} {e:TypeId} {v:Value} {xs:List α} (h:OwnOf R w S base e v xs) (gr:w.grownBy w' row) (hS : ∀k,S k→row≠some k) (hv : ∀k,v.ownBlock=some k→row≠some k):OwnOf R w' S base e v xs:=by
 obtain⟨css,h1,h2⟩:=h
 refine⟨css,h1.ext (grown_sub gr fun k hk e=>hS k hk.2 e.symm),h2.kept gr ?_⟩
 cases hb:v.ownBlock with
 |none=>exact .inl rfl
 |some k=>exact .inr fun e=>hv k hb e.symm
end Go.Proofs.YtombmdaohcjokaaGreatDoor
namespace Go.Proofs.YtombmdaohcjokaaGreatDoor
open Go.RowKit Go.Maps
open Classical
def keyG (vs:List Val):Lit:= .string (keyVals vs)
theorem keyG_lit (r:List Val):WideAt.IsKeyLit (keyG r):=trivial
noncomputable def memOf (proj:List Val→List Val) (kv:List Val) (l:List Tup):List Tup:=l.filter fun t=>decide (proj t.vals=kv)
structure GInv (proj:List Val→List Val) (K:Nat) (w':World) (B base:Nat) (T:TypeId) (VB:Nat→Prop) (l:List Tup) (m1 m2:Lit→Option Value):Prop where
 k1 : ∀kl v,m1 kl=some v→ ∃t∈l,kl=keyG (proj t.vals)∧SliceOf Rep.val (on w' VB) v (proj t.vals)
 k2 : ∀t∈l,(m1 (keyG (proj t.vals))).isSome=true
 p1 : ∀kl v,m2 kl=some v→ ∃kv,kv.length=K∧kl=keyG kv∧(K=0∨ ∃t∈l,kv=proj t.vals)∧OwnOf Rep.tup w' (fun x=>x<B) base T v (memOf proj kv l)
 p2 : ∀t∈l,(m2 (keyG (proj t.vals))).isSome=true
 p3:K=0→(m2 (keyG [])).isSome=true
 ap : ∀kl kl' v v',kl≠kl'→m2 kl=some v→m2 kl'=some v'→Apart v v'
 vb : ∀kl v x,m2 kl=some v→v.ownBlock=some x→ ¬VB x
 vlt : ∀x,VB x→x<w'.heap.size
section
variable {proj:List Val→List Val} {K:Nat} {w w' w'':World} {B base:Nat} {T:TypeId} {VB:Nat→Prop} {l:List Tup} {m1 m2:Lit→Option Value}
noncomputable def m2Start (K:Nat):Lit→Option Value:=if K=0 then putV (fun _=>none) (keyG []) (.slice none 0 0)else fun _=>none
def DoneG (K:Nat) (m2:Lit→Option Value) (left:Lit→Bool) (done:List (List Val)):Prop:=done.Nodup∧(∀kv∈done,kv.length=K)∧ ∀kv,kv.length=K→(kv∈done↔(m2 (keyG kv)).isSome=true∧left (keyG kv)=false)
end
noncomputable def rawG (proj:List Val→List Val) (aggV:List (List Val)→List Val) (always:Bool) (l:List Tup) (done:List (List Val)):List Tup:=done.flatMap fun kv=>gOut aggV always kv (memOf proj kv l)
end Go.Proofs.YtombmdaohcjokaaGreatDoor
namespace Go.Proofs.YtombmdaohcjokaaGreatDoor
open Go.RowKit
def nV:Val:=⟨0,0,ByteArray.empty⟩
def intVal (n:Int):Val:=⟨1,n,ByteArray.empty⟩
theorem int_value (n:Int) (w:World):Calls Tryz.prog 32 #[.int .i64 n] w fun e w'=>e = .returned (valV (intVal n))∧Ext w w':=by
 go_enter Tryz.func32,Tryz.ntmps32
 go_wp2_with fail
 exact bodyPost_ret (v:=valV (intVal n)) (by simp [results,Tryz.results32,go_sem,valV,intVal];rfl) rfl ⟨rfl,by first | exact((Ext.refl w).alloc _) | exact Below.setCell (Below.setCell (Below.setCell ((Ext.refl w).alloc _) (by simp) _) (by simp) _) (by simp) _⟩
def genStr (x:Int):ByteArray:=if x % 3=0 then⟨#[]⟩else if x % 3=1 then⟨#[97]⟩else⟨#[98,39]⟩
def genV0 (x:Int):Val:=if x % 7=6 then nV else intVal (x % 3 - 1)
def genV1 (x:Int):Val:=if x % 7=6 then nV else⟨2,0,genStr x⟩
theorem value_0 (x:Int) (w:World) (h0:0≤x) (h1:x≤65535):Calls Tryz.prog 90 #[.int .i64 0,.int .u16 x] w fun e w'=>e = .returned (valV (genV0 x))∧Ext w w':=by
 by_cases h7:x % 7=6
 ·have hb:(x % 7==6)=true:=by simp [h7]
  have hv:genV0 x=nV:=if_pos h7
  have HV:=Lib.hid hv
  clear h7 hv
  go_enter Tryz.func90,Tryz.ntmps90
  go_wp2_with fail
  exact bodyPost_ret (v:=valV (genV0 x)) (by rw [HV.out];simp [results,Tryz.results90,go_sem,valV,nV];rfl) rfl ⟨rfl,(Ext.refl w).alloc _⟩
 ·have hb:(x % 7==6)=false:=by simp [h7]
  have hv:genV0 x=intVal (x % 3 - 1):=if_neg h7
  have HV:=Lib.hid hv
  clear h7 hv
  go_enter Tryz.func90,Tryz.ntmps90
  go_wp2_with fail
  refine(int_value _ _).mono ?_
  rintro e w1 ⟨rfl,x1⟩
  have z1:=x1.size
  simp at z1
  have c0:=x1.at (p:=⟨w.heap.size,0,none⟩) (v:= .int .i64 0) (by go_simp)
  have c1:=x1.at (p:=⟨w.heap.size,1,none⟩) (v:= .int .i64 0) (by go_simp)
  have c2:=x1.at (p:=⟨w.heap.size,2,none⟩) (v:= .string ⟨#[]⟩) (by go_simp)
  have f0:=x1.unfrozen (p:=⟨w.heap.size,0,none⟩) (v:= .int .i64 0) (by go_simp) (by go_simp)
  have f1:=x1.unfrozen (p:=⟨w.heap.size,1,none⟩) (v:= .int .i64 0) (by go_simp) (by go_simp)
  have f2:=x1.unfrozen (p:=⟨w.heap.size,2,none⟩) (v:= .string ⟨#[]⟩) (by go_simp) (by go_simp)
  go_wp2_with fail
  exact bodyPost_ret (v:=valV (genV0 x)) (by rw [HV.out];simp [results,Tryz.results90,go_sem,valV,intVal,c0,c1,c2]) rfl ⟨rfl,Below.setCell (Below.setCell (Below.setCell (((Ext.refl w).alloc _).trans x1) (by simp) _) (by simp) _) (by simp) _⟩
theorem value_1 (x:Int) (w:World) (h0:0≤x) (h1:x≤65535):Calls Tryz.prog 90 #[.int .i64 1,.int .u16 x] w fun e w'=>e = .returned (valV (genV1 x))∧Ext w w':=by
 by_cases h7:x % 7=6
 ·have hb:(x % 7==6)=true:=by simp [h7]
  have hv:genV1 x=nV:=if_pos h7
  have HV:=Lib.hid hv
  clear h7 hv
  go_enter Tryz.func90,Tryz.ntmps90
  go_wp2_with fail
  exact bodyPost_ret (v:=valV (genV1 x)) (by rw [HV.out];simp [results,Tryz.results90,go_sem,valV,nV];rfl) rfl ⟨rfl,(Ext.refl w).alloc _⟩
 ·have hb:(x % 7==6)=false:=by simp [h7]
  have hv:genV1 x=⟨2,0,genStr x⟩:=if_neg h7
  have h3:x % 3=0∨x % 3=1∨x % 3=2:=by omega
  unfold genStr at hv
  clear h7
  rcases h3 with h3 | h3 | h3
  all_goals
   rw [h3]at hv
   simp at hv
   have HV:=Lib.hid hv
   clear hv
   go_enter Tryz.func90,Tryz.ntmps90
   go_wp2_with fail
   exact bodyPost_ret (v:=valV (genV1 x)) (by rw [HV.out];simp [results,Tryz.results90,go_sem,valV]) rfl ⟨rfl,by first | exact Below.setCell (Below.setCell (Below.setCell (((Ext.refl w).alloc _).alloc _) (by simp) _) (by simp) _) (by simp) _ | exact((Ext.refl w).alloc _).alloc _⟩
def okVal (x:Val):Prop:=(-9223372036854775808≤x.kind∧x.kind≤9223372036854775807)∧(-9223372036854775808≤x.n∧x.n≤9223372036854775807)∧x.s.size≤maxLen
theorem ok_nV:okVal nV:=⟨by decide,by decide,by simp [nV,maxLen]⟩
theorem ok_genV0 (x:Int):okVal (genV0 x):=by
 unfold genV0
 split
 ·exact ok_nV
 ·exact⟨by simp [intVal],by simp [intVal];omega,by simp [intVal,maxLen]⟩
theorem ok_genV1 (x:Int):okVal (genV1 x):=by
 unfold genV1
 split
 ·exact ok_nV
 ·refine⟨by simp,by simp,?_⟩
  unfold genStr
  (repeat' split) <;> simp [maxLen,ByteArray.size]
def genVals (x y:Int):List Val:= [genV0 x,genV1 y]
theorem vals_gen (x y:Int) (w:World) (h0:0≤x) (h1:x≤65535) (h2:0≤y) (h3:y≤65535) :
  Calls Tryz.prog 49 #[.int .u16 x,.int .u16 y] w fun e w'=> ∃v,e = .returned v∧SliceOf Rep.val (on w' (fun k=>w.heap.size≤k)) v (genVals x y)∧Ext w w':=by
 go_enter Tryz.func49,Tryz.ntmps49
 go_wp2_with fail
 refine(value_0 x _ h0 h1).mono ?_
 rintro e w1 ⟨rfl,x1⟩
 go_wp2_with fail
 refine(value_1 y _ h2 h3).mono ?_
 rintro e w2 ⟨rfl,x2⟩
 go_wp2_with fail
 refine bodyPost_ret (v:= .slice (some ⟨w2.heap.size,0,none⟩) 2 2) (by simp [results,Tryz.results49,go_sem]) rfl ⟨_,rfl,?_,(x1.trans x2).alloc _⟩
 refine SliceOf.flatOn flat_val (slice_lit Rep.val w2 _ 61 [[.int .i64 (genV0 x).kind,.int .i64 (genV0 x).n,.string (genV0 x).s],[.int .i64 (genV1 y).kind,.int .i64 (genV1 y).n,.string (genV1 y).s]] (genVals x y) rfl ⟨⟨rfl,ok_genV0 x⟩,⟨rfl,ok_genV1 y⟩,trivial⟩ (by simp [genVals,maxLen])) fun ad n c h=> ?_
 injection h with h _ _
 injection h with h
 rw [←h]
 exact(x1.trans x2).size
def genFrom (x:Int):Int:=x % 40
def genTo (x y:Int):Int:=if y % 11=0 then 1000000 else x % 40+1+y % 15
theorem gen_per (x y:Int):0≤genFrom x∧genFrom x<40∧genFrom x<genTo x y∧genTo x y≤1000000:=by
 unfold genFrom genTo
 split <;> omega
theorem period_gen (x y:Int) (w:World) (h0:0≤x) (h1:x≤65535) (h2:0≤y) (h3:y≤65535) :
  Calls Tryz.prog 122 #[.int .u16 x,.int .u16 y] w fun e w'=>e = .returned (.agg #[.int .i64 (genFrom x),.int .i64 (genTo x y)])∧Ext w w':=by
 by_cases h7:y % 11=0
 ·have hb:(y % 11==0)=true:=by simp [h7]
  have hv:genTo x y=1000000:=if_pos h7
  have HV:=Lib.hid hv
  clear h7 hv
  go_enter Tryz.func122,Tryz.ntmps122
  go_wp2_with fail
  exact bodyPost_ret (v:= .agg #[.int .i64 (genFrom x),.int .i64 (genTo x y)]) (by rw [HV.out];simp [results,Tryz.results122,go_sem,genFrom]) rfl ⟨rfl,((Ext.refl w).alloc _).alloc _⟩
 ·have hb:(y % 11==0)=false:=by simp [h7]
  have hv:genTo x y=x % 40+1+y % 15:=if_neg h7
  have HV:=Lib.hid hv
  clear h7 hv
  go_enter Tryz.func122,Tryz.ntmps122
  go_wp2_with fail
  exact bodyPost_ret (v:= .agg #[.int .i64 (genFrom x),.int .i64 (genTo x y)]) (by rw [HV.out];simp [results,Tryz.results122,go_sem,genFrom]) rfl ⟨rfl,((Ext.refl w).alloc _).alloc _⟩
end Go.Proofs.YtombmdaohcjokaaGreatDoor
namespace Go.Proofs.YtombmdaohcjokaaGreatDoor
open Go.RowKit
structure ExprI where
 op:Int
 a:Int
 b:Int
 col:Int
 c:Val
def exprEnc (x:ExprI):List Value:= [.int .i64 x.op,.int .i64 x.a,.int .i64 x.b,.int .i64 x.col,.int .i64 x.c.kind,.int .i64 x.c.n,.string x.c.s]
def Rep.expr:Rep ExprI where
 size:=7
 holds _ cs x:=cs=exprEnc x∧(okI x.op∧okI x.a∧okI x.b∧okI x.col)∧okVal x.c
 len:=by rintro w cs x ⟨rfl,_⟩;rfl
 ext:=by rintro w w' cs x h _;exact h
 one:=by rintro w cs x ⟨rfl,_⟩;simp [exprEnc,Value.oneCell']
def colAt (vals:List Val) (c:Int):Val:=if 0≤c∧c<vals.length then vals.getD c.toNat nV else nV
theorem colAt_in {vals:List Val} {c:Nat} (h:c<vals.length):colAt vals c=vals[c]:=by
 unfold colAt
 rw [if_pos (by omega)]
 simp [h]
theorem colAt_out {vals:List Val} {c:Int} (h : ¬(0≤c∧c<vals.length)):colAt vals c=nV:=if_neg h
set_option maxRecDepth 100000 in
set_option maxHeartbeats 4000000 in
theorem apply_col (x:ExprI) (hop:x.op=2) (pa:Option Addr) (na ka:Nat) (v:Value) (vals:List Val) (w:World) (hv:SliceOf Rep.val w.cell? v vals) :
  Calls Tryz.prog 179 #[.agg (exprEnc x).toArray,.slice pa na ka,v] w fun e w'=>e = .returned (valV (colAt vals x.col))∧Ext w w':=by
 obtain⟨p,cap,rfl,_,_,hp⟩:=hv.form
 obtain⟨op,a,b,col,⟨ck,cn,cs⟩⟩:=x
 dsimp only at hop
 subst hop
 unfold exprEnc
 dsimp only
 have HV:=Lib.hid hv
 have HP:=Lib.hid hp
 clear hv hp
 by_cases h0:col<0
 ·have hd:decide (col<0)=true:=by simp [h0]
  have HC:=Lib.hid (colAt_out (vals:=vals) (c:=col) (by omega))
  go_enter Tryz.func179,Tryz.ntmps179
  go_wp2_with fail
  refine bodyPost_ret (v:=valV (colAt vals col)) (by rw [HC.out];simp [results,Tryz.results179,go_sem,valV,nV];rfl) rfl ⟨rfl,?_⟩
  exact((Ext.refl w).alloc _).alloc _
 ·have hd:decide (col<0)=false:=by simp [h0]
  by_cases h1:col<vals.length
  ·obtain⟨c,hc⟩ : ∃c:Nat,col=c:=⟨col.toNat,by omega⟩
   subst hc
   have hcl:c<vals.length:=by omega
   have hd2:decide ((vals.length:Int)≤(c:Int))=false:=by simp;omega
   have hb1:(c:Int)<(vals.length:Int):=by omega
   obtain⟨bb,o,rfl⟩:=HP.out (by decide) (by omega)
   obtain⟨c0,c1,c2,_⟩:=val_cells HV.out c hcl
   have HC:=Lib.hid (colAt_in hcl)
   generalize vals[c]=y at c0 c1 c2 HC
   obtain⟨yk,yn,ys⟩:=y
   dsimp only at c0 c1 c2
   have e0:=cell_lt c0
   clear h0 h1
   go_enter Tryz.func179,Tryz.ntmps179
   go_wp2_with fail
   refine bodyPost_ret (v:=valV (colAt vals c)) (by rw [HC.out];simp [results,Tryz.results179,go_sem,valV]) rfl ⟨rfl,?_⟩
   exact((Ext.refl w).alloc _).alloc _
  ·have hd2:decide ((vals.length:Int)≤col)=true:=by simp;omega
   have hb1 : ¬col<(vals.length:Int):=h1
   have HC:=Lib.hid (colAt_out (vals:=vals) (c:=col) (by omega))
   clear h0 h1
   go_enter Tryz.func179,Tryz.ntmps179
   go_wp2_with fail
   refine bodyPost_ret (v:=valV (colAt vals col)) (by rw [HC.out];simp [results,Tryz.results179,go_sem,valV,nV];rfl) rfl ⟨rfl,?_⟩
   exact((Ext.refl w).alloc _).alloc _
def FreeN (w:World) (g n:Nat):Prop:= ∀j,j<n→(∃u,w.cell? ⟨g,j,none⟩=some u)∧w.frozen? ⟨g,j,none⟩=false
theorem FreeN.set {w:World} {g n:Nat} (h:FreeN w g n) (i:Nat) (u:Value):FreeN (w.setCell ⟨g,i,none⟩ u) g n:=fun j hj=>by
 obtain⟨⟨z,h1⟩,h2⟩:=h j hj
 by_cases e:j=i
 ·subst e
  exact⟨⟨u,by go_simp⟩,by go_simp⟩
 ·exact⟨⟨z,by rw [World.cell?_setCell_other _ _ _ _ (by simp only [ne_eq,Addr.mk.injEq,true_and,and_true];omega)];exact h1⟩,by go_simp⟩
theorem FreeN.ext {w w':World} {g n:Nat} (h:FreeN w g n) (hx:Ext w w'):FreeN w' g n:=fun j hj=>by
 obtain⟨⟨z,h1⟩,h2⟩:=h j hj
 exact⟨⟨z,hx.at h1⟩,hx.unfrozen h1 h2⟩
theorem FreeN.made {w:World} {base g n c k:Nat} {e:TypeId} {xs:List Value} (h:w.ownsRow base e k (.slice (some ⟨g,0,none⟩) n c) n xs):FreeN w g (c*k):=fun j hj=>by
 rcases h.2 with ⟨h1,_⟩ | ⟨g',cap,cur,he,_,hg,_,_,hsz,_⟩
 ·cases h1
 ·injection he with e1 e2 e3
  injection e1 with e1
  injection e1 with e1
  subst e1 e3
  refine⟨⟨cur[j]'(by omega),?_⟩,Lib.frozen_of_heap hg j⟩
  rw [Lib.cell_of_heap hg]
  exact Array.getElem?_eq_getElem _
theorem info_val3:(Tryz.prog.info? 61).map (fun i=>(i.zero,i.size,i.bytes))=some (some (.agg #[.int .i64 0,.int .i64 0,.string ByteArray.empty]),3,32):=by kernel_rfl
theorem expr_at {h:View} {b o n cap:Nat} {xs:List ExprI} (k:SliceOf Rep.expr h (.slice (some ⟨b,o,none⟩) n cap) xs) (i:Nat) (hi:i<xs.length) :
  h ⟨b,o+i*7,none⟩=some (.int .i64 xs[i].op)∧h ⟨b,o+i*7+1,none⟩=some (.int .i64 xs[i].a)∧h ⟨b,o+i*7+2,none⟩=some (.int .i64 xs[i].b)∧h ⟨b,o+i*7+3,none⟩=some (.int .i64 xs[i].col)∧h ⟨b,o+i*7+4,none⟩=some (.int .i64 xs[i].c.kind)∧h ⟨b,o+i*7+5,none⟩=some (.int .i64 xs[i].c.n)∧h ⟨b,o+i*7+6,none⟩=some (.string xs[i].c.s):=by
 obtain⟨c,⟨rfl,_⟩,h2⟩:=k.at i hi
 exact⟨h2 0 _ rfl,h2 1 _ rfl,h2 2 _ rfl,h2 3 _ rfl,h2 4 _ rfl,h2 5 _ rfl,h2 6 _ rfl⟩
end Go.Proofs.YtombmdaohcjokaaGreatDoor
namespace Go.Proofs.YtombmdaohcjokaaGreatDoor
open Go.RowKit
def projC (es:List ExprI) (keys:List Int) (vals:List Val):List Val:=keys.map fun k=>colAt vals ((es.map ExprI.col).getD k.toNat 0)
theorem ok_colAt {vals:List Val} (h : ∀x∈vals,okVal x) (c:Int):okVal (colAt vals c):=by
 unfold colAt
 split
 ·rename_i hc
  have hlt:c.toNat<vals.length:=by omega
  rw [List.getD_eq_getElem?_getD,List.getElem?_eq_getElem hlt]
  exact h _ (List.getElem_mem hlt)
 ·exact ok_nV
theorem vals_ok {h:View} {v:Value} {vs:List Val} (k:SliceOf Rep.val h v vs) : ∀x∈vs,okVal x:=by
 intro x hx
 obtain⟨i,hi,rfl⟩:=List.getElem_of_mem hx
 obtain⟨p,cap,rfl,_,_,hp⟩:=k.form
 obtain⟨b,o,rfl⟩:=hp (by decide) (by omega)
 obtain⟨c,⟨_,h3⟩,_⟩:=k.at i hi
 exact h3
set_option maxRecDepth 100000 in
set_option maxHeartbeats 4000000 in
theorem aggregate_count (v:Value) (pg:Option Addr) (ng cg:Nat) (arg:Int) (w:World) :
  Calls Tryz.prog 130 #[v,.agg #[.int .i64 1,.int .i64 arg],.slice pg ng cg] w fun e w'=>e = .returned (valV (intVal ng))∧Ext w w':=by
 go_enter Tryz.func130,Tryz.ntmps130
 go_wp2_with fail
 exact bodyPost_ret (v:=valV (intVal ng)) (by simp [results,Tryz.results130,go_sem,valV,intVal];rfl) rfl ⟨rfl,((Ext.refl w).alloc _).alloc _⟩
end Go.Proofs.YtombmdaohcjokaaGreatDoor
namespace Go.Proofs.YtombmdaohcjokaaGreatDoor
open Go.RowKit
end Go.Proofs.YtombmdaohcjokaaGreatDoor
namespace Go.Proofs.YtombmdaohcjokaaGreatDoor
open Go.RowKit
end Go.Proofs.YtombmdaohcjokaaGreatDoor
