/- joined texts of a proof: TupU, Bld, Laid, KeyW, RowK -/
import Derived.Test.YtombmdaohcjokaaGreatDoorKG05
import Derived.Test.YtombmdaohcjokaaGreatDoorKG04
import Derived.Test.YtombmdaohcjokaaGreatDoorKG03
import Derived.Test.YtombmdaohcjokaaGreatDoorKG01
import Derived.Lib.AppendStr
import Derived.Lib.Builder
import Derived.Lib.OthersKept
import Derived.Laws.Externs
import Derived.Lib.ItoaLen
import Derived.Deep.RegionHeld3
namespace Go.Proofs.YtombmdaohcjokaaGreatDoor
open Go.RowKit
theorem sub6 (w:World) {B C:Nat} (u0 u1 v0 v1 v2 v3:Value) {S:Nat→Prop} (hB : ¬S B) (hC : ¬S C) :
   Sub (on w S) (on ((((((w.setCell ⟨B,0,none⟩ u0).setCell ⟨B,1,none⟩ u1).setCell ⟨C,0,none⟩ v0).setCell ⟨C,1,none⟩ v1).setCell ⟨C,2,none⟩ v2).setCell ⟨C,3,none⟩ v3) S) :=
 (((((set_sub w _ u0 hB).trans (set_sub _ _ u1 hB)).trans (set_sub _ _ v0 hC)).trans (set_sub _ _ v1 hC)).trans (set_sub _ _ v2 hC)).trans (set_sub _ _ v3 hC)
set_option maxRecDepth 100000 in
set_option maxHeartbeats 4000000 in
theorem during_any (va ua:Value) (r:Row) (f t:Int) (w:World) (hv:SliceOf Rep.val w.cell? va r.vals) (hu:SliceOf Rep.int w.cell? ua r.lin) (hb1:r.vals.length≤1048576) (hb2:r.lin.length≤1048576) :
  Calls Tryz.prog 84 #[.agg #[va,ua],.agg #[.int .i64 f,.int .i64 t]] w fun e w'=> ∃a b,e = .returned (.agg #[a,.int .i64 f,.int .i64 t,b])∧SliceOf Rep.val (on w' (since w)) a r.vals∧SliceOf Rep.int (on w' (since w)) b r.lin∧Ext w w':=by
 have HV:=Lib.hid hv
 have HU:=Lib.hid hu
 obtain⟨pa,ca,rfl,_⟩:=hv.form
 obtain⟨qa,da,rfl,_⟩:=hu.form
 have H1:=Lib.hid (show r.vals.length*32≤140737488355328 by omega)
 have H2:=Lib.hid (show r.lin.length*8≤140737488355328 by omega)
 clear hv hu hb1 hb2
 go_enter Tryz.func84,Tryz.ntmps84
 go_wp2_with fail
 refine(clone_row _ _ r _ (HV.out.ext ((((Ext.refl w).alloc _).alloc _).alloc _).full) (HU.out.ext ((((Ext.refl w).alloc _).alloc _).alloc _).full) H1.out H2.out).mono ?_
 rintro e w1 ⟨a1,b1,rfl,s1,s2,x1⟩
 obtain⟨p1,c1,rfl,_⟩:=s1.form
 obtain⟨p2,c2,rfl,_⟩:=s2.form
 have S1:=Lib.hid s1
 have S2:=Lib.hid s2
 clear s1 s2
 have g0:w1.cell? ⟨w.heap.size,0,none⟩=some (.slice pa r.vals.length ca):=x1.at (by go_simp)
 have g1:w1.cell? ⟨w.heap.size,1,none⟩=some (.slice qa r.lin.length da):=x1.at (by go_simp)
 have g2:w1.cell? ⟨w.heap.size+1,0,none⟩=some (.int .i64 f):=x1.at (by go_simp)
 have g3:w1.cell? ⟨w.heap.size+1,1,none⟩=some (.int .i64 t):=x1.at (by go_simp)
 have g4:w1.cell? ⟨w.heap.size+2,0,none⟩=some (.slice none 0 0):=x1.at (by go_simp)
 have g5:w1.cell? ⟨w.heap.size+2,1,none⟩=some (.int .i64 0):=x1.at (by go_simp)
 have g6:w1.cell? ⟨w.heap.size+2,2,none⟩=some (.int .i64 0):=x1.at (by go_simp)
 have g7:w1.cell? ⟨w.heap.size+2,3,none⟩=some (.slice none 0 0):=x1.at (by go_simp)
 have f0:w1.frozen? ⟨w.heap.size,0,none⟩=false:=x1.unfrozen (p:=⟨w.heap.size,0,none⟩) (v:= .slice pa r.vals.length ca) (by go_simp) (by go_simp)
 have f1:w1.frozen? ⟨w.heap.size,1,none⟩=false:=x1.unfrozen (p:=⟨w.heap.size,1,none⟩) (v:= .slice qa r.lin.length da) (by go_simp) (by go_simp)
 have f4:w1.frozen? ⟨w.heap.size+2,0,none⟩=false:=x1.unfrozen (p:=⟨w.heap.size+2,0,none⟩) (v:= .slice none 0 0) (by go_simp) (by go_simp)
 have f5:w1.frozen? ⟨w.heap.size+2,1,none⟩=false:=x1.unfrozen (p:=⟨w.heap.size+2,1,none⟩) (v:= .int .i64 0) (by go_simp) (by go_simp)
 have f6:w1.frozen? ⟨w.heap.size+2,2,none⟩=false:=x1.unfrozen (p:=⟨w.heap.size+2,2,none⟩) (v:= .int .i64 0) (by go_simp) (by go_simp)
 have f7:w1.frozen? ⟨w.heap.size+2,3,none⟩=false:=x1.unfrozen (p:=⟨w.heap.size+2,3,none⟩) (v:= .slice none 0 0) (by go_simp) (by go_simp)
 have z1:=cell_lt g4
 have XW:Ext w w1:=((((Ext.refl w).alloc _).alloc _).alloc _).trans x1
 have HX:=Lib.hid XW
 clear XW x1
 go_wp2_with fail
 refine bodyPost_ret (v:= .agg #[.slice p1 r.vals.length c1,.int .i64 f,.int .i64 t,.slice p2 r.lin.length c2]) (by simp [results,Tryz.results84,go_sem,g4,g5,g6,g7]) rfl ⟨_,_,rfl,?_,?_,?_⟩
 ·refine S1.out.ext ((on_mono w1 (T:=fun k=>w.heap.size+2<k) fun k _ hk=> ?_).trans ((sub6 w1 _ _ _ _ _ _ ?_ ?_).trans (on_mono _ fun k _ hk=> ?_)))
  ·simp at hk;omega
  ·omega
  ·omega
  ·simp only [since];omega
 ·refine S2.out.ext ((on_mono w1 (T:=fun k=>w.heap.size+2<k) fun k _ hk=> ?_).trans ((sub6 w1 _ _ _ _ _ _ ?_ ?_).trans (on_mono _ fun k _ hk=> ?_)))
  ·simp at hk;omega
  ·omega
  ·omega
  ·simp only [since];omega
 ·exact Below.setCell (Below.setCell (Below.setCell (Below.setCell (Below.setCell (Below.setCell HX.out (by simp) _) (by simp) _) (by simp <;> omega) _) (by simp <;> omega) _) (by simp <;> omega) _) (by simp <;> omega) _
theorem keepT8 {w wa wb:World} {B C:Nat} {u0 u1 u2 u3 v0 v1 v2 v3:Value}
  (h:Gro w wa∧wa.cell? ⟨B,0,none⟩=some u0∧wa.cell? ⟨B,1,none⟩=some u1∧wa.cell? ⟨B,2,none⟩=some u2∧wa.cell? ⟨B,3,none⟩=some u3∧wa.cell? ⟨C,0,none⟩=some v0∧wa.cell? ⟨C,1,none⟩=some v1∧wa.cell? ⟨C,2,none⟩=some v2∧wa.cell? ⟨C,3,none⟩=some v3) (hx:Gro wa wb) :
  Gro w wb∧wb.cell? ⟨B,0,none⟩=some u0∧wb.cell? ⟨B,1,none⟩=some u1∧wb.cell? ⟨B,2,none⟩=some u2∧wb.cell? ⟨B,3,none⟩=some u3∧wb.cell? ⟨C,0,none⟩=some v0∧wb.cell? ⟨C,1,none⟩=some v1∧wb.cell? ⟨C,2,none⟩=some v2∧wb.cell? ⟨C,3,none⟩=some v3 :=
 ⟨h.1.trans hx,hx.ext.at h.2.1,hx.ext.at h.2.2.1,hx.ext.at h.2.2.2.1,hx.ext.at h.2.2.2.2.1,hx.ext.at h.2.2.2.2.2.1,hx.ext.at h.2.2.2.2.2.2.1,hx.ext.at h.2.2.2.2.2.2.2.1,hx.ext.at h.2.2.2.2.2.2.2.2⟩
set_option maxRecDepth 100000 in
set_option maxHeartbeats 4000000 in
theorem compareTup_any (va vb ua ub:Value) (a b:Tup) (w:World) (ha:SliceOf Rep.val w.cell? va a.vals) (hb:SliceOf Rep.val w.cell? vb b.vals) (ka:SliceOf Rep.int w.cell? ua a.lin) (kb:SliceOf Rep.int w.cell? ub b.lin) :
  Calls Tryz.prog 134 #[.agg #[va,.int .i64 a.from_,.int .i64 a.to_,ua],.agg #[vb,.int .i64 b.from_,.int .i64 b.to_,ub]] w fun e w'=>e = .returned (.int .i64 (cmpTup a b))∧Gro w w':=by
 have HA:=Lib.hid ha
 have HB:=Lib.hid hb
 have KA:=Lib.hid ka
 have KB:=Lib.hid kb
 obtain⟨pa,ca,rfl,_⟩:=ha.form
 obtain⟨pb,cb,rfl,_⟩:=hb.form
 obtain⟨qa,da,rfl,_⟩:=ka.form
 obtain⟨qb,db,rfl,_⟩:=kb.form
 unfold cmpTup tupRow
 generalize a.vals=av at *
 generalize b.vals=bv at *
 generalize a.lin=al at *
 generalize b.lin=bl at *
 generalize a.from_=af at *
 generalize b.from_=bf at *
 generalize a.to_=at_ at *
 generalize b.to_=bt at *
 clear ha hb ka kb
 go_enter Tryz.func134,Tryz.ntmps134
 go_wp2_with fail
 have c0:((w.alloc (.cells #[.slice pa av.length ca,.int .i64 af,.int .i64 at_,.slice qa al.length da] 125)).alloc (.cells #[.slice pb bv.length cb,.int .i64 bf,.int .i64 bt,.slice qb bl.length db] 125)).cell? ⟨w.heap.size,0,none⟩=some (.slice pa av.length ca):=by go_simp
 have c1:((w.alloc (.cells #[.slice pa av.length ca,.int .i64 af,.int .i64 at_,.slice qa al.length da] 125)).alloc (.cells #[.slice pb bv.length cb,.int .i64 bf,.int .i64 bt,.slice qb bl.length db] 125)).cell? ⟨w.heap.size,1,none⟩=some (.int .i64 af):=by go_simp
 have c2:((w.alloc (.cells #[.slice pa av.length ca,.int .i64 af,.int .i64 at_,.slice qa al.length da] 125)).alloc (.cells #[.slice pb bv.length cb,.int .i64 bf,.int .i64 bt,.slice qb bl.length db] 125)).cell? ⟨w.heap.size,2,none⟩=some (.int .i64 at_):=by go_simp
 have c3:((w.alloc (.cells #[.slice pa av.length ca,.int .i64 af,.int .i64 at_,.slice qa al.length da] 125)).alloc (.cells #[.slice pb bv.length cb,.int .i64 bf,.int .i64 bt,.slice qb bl.length db] 125)).cell? ⟨w.heap.size,3,none⟩=some (.slice qa al.length da):=by go_simp
 have c4:((w.alloc (.cells #[.slice pa av.length ca,.int .i64 af,.int .i64 at_,.slice qa al.length da] 125)).alloc (.cells #[.slice pb bv.length cb,.int .i64 bf,.int .i64 bt,.slice qb bl.length db] 125)).cell? ⟨w.heap.size+1,0,none⟩=some (.slice pb bv.length cb):=by go_simp
 have c5:((w.alloc (.cells #[.slice pa av.length ca,.int .i64 af,.int .i64 at_,.slice qa al.length da] 125)).alloc (.cells #[.slice pb bv.length cb,.int .i64 bf,.int .i64 bt,.slice qb bl.length db] 125)).cell? ⟨w.heap.size+1,1,none⟩=some (.int .i64 bf):=by go_simp
 have c6:((w.alloc (.cells #[.slice pa av.length ca,.int .i64 af,.int .i64 at_,.slice qa al.length da] 125)).alloc (.cells #[.slice pb bv.length cb,.int .i64 bf,.int .i64 bt,.slice qb bl.length db] 125)).cell? ⟨w.heap.size+1,2,none⟩=some (.int .i64 bt):=by go_simp
 have c7:((w.alloc (.cells #[.slice pa av.length ca,.int .i64 af,.int .i64 at_,.slice qa al.length da] 125)).alloc (.cells #[.slice pb bv.length cb,.int .i64 bf,.int .i64 bt,.slice qb bl.length db] 125)).cell? ⟨w.heap.size+1,3,none⟩=some (.slice qb bl.length db):=by go_simp
 have hxx:=((Gro.refl w).alloc (.cells #[.slice pa av.length ca,.int .i64 af,.int .i64 at_,.slice qa al.length da] 125)).alloc (.cells #[.slice pb bv.length cb,.int .i64 bf,.int .i64 bt,.slice qb bl.length db] 125)
 generalize ((w.alloc (.cells #[.slice pa av.length ca,.int .i64 af,.int .i64 at_,.slice qa al.length da] 125)).alloc (.cells #[.slice pb bv.length cb,.int .i64 bf,.int .i64 bt,.slice qb bl.length db] 125))=w1 at c0 c1 c2 c3 c4 c5 c6 c7 hxx ⊢
 have hS0:Gro w w1.drew∧w1.drew.cell? ⟨w.heap.size,0,none⟩=some (.slice pa av.length ca)∧w1.drew.cell? ⟨w.heap.size,1,none⟩=some (.int .i64 af)∧w1.drew.cell? ⟨w.heap.size,2,none⟩=some (.int .i64 at_)∧w1.drew.cell? ⟨w.heap.size,3,none⟩=some (.slice qa al.length da)∧w1.drew.cell? ⟨w.heap.size+1,0,none⟩=some (.slice pb bv.length cb)∧w1.drew.cell? ⟨w.heap.size+1,1,none⟩=some (.int .i64 bf)∧w1.drew.cell? ⟨w.heap.size+1,2,none⟩=some (.int .i64 bt)∧w1.drew.cell? ⟨w.heap.size+1,3,none⟩=some (.slice qb bl.length db):=⟨hxx.drew,c0,c1,c2,c3,c4,c5,c6,c7⟩
 clear c0 c1 c2 c3 c4 c5 c6 c7
 go_region_held3 (fun w'=>Gro w w'∧w'.cell? ⟨w.heap.size,0,none⟩=some (.slice pa av.length ca)∧w'.cell? ⟨w.heap.size,1,none⟩=some (.int .i64 af)∧w'.cell? ⟨w.heap.size,2,none⟩=some (.int .i64 at_)∧w'.cell? ⟨w.heap.size,3,none⟩=some (.slice qa al.length da)∧w'.cell? ⟨w.heap.size+1,0,none⟩=some (.slice pb bv.length cb)∧w'.cell? ⟨w.heap.size+1,1,none⟩=some (.int .i64 bf)∧w'.cell? ⟨w.heap.size+1,2,none⟩=some (.int .i64 bt)∧w'.cell? ⟨w.heap.size+1,3,none⟩=some (.slice qb bl.length db))
  (first |with_reducible assumption | with_reducible exact keepT8 (by assumption) hx2 | with_reducible exact keepT8 (by assumption) hx3 | with_reducible exact keepT8 (by assumption) ((Gro.refl _).alloc _))
  (first |(go_at_call 78;refine(tup_row _ _ _ _ _ _ _ _ _).mono ?_;rintro e w2 ⟨rfl,hx2⟩) | (go_at_call 103;refine(compareRow_any _ _ _ _ ⟨av,al⟩ ⟨bv,bl⟩ _ (by exact HA.out.ext (And.left ‹Gro w _∧_›).ext.full) (by exact HB.out.ext (And.left ‹Gro w _∧_›).ext.full) (by exact KA.out.ext (And.left ‹Gro w _∧_›).ext.full) (by exact KB.out.ext (And.left ‹Gro w _∧_›).ext.full)).mono ?_;rintro e w3 ⟨rfl,hx3⟩) | (go_at_call 174;refine(compare_int _ _ _).mono ?_;rintro e w4 ⟨rfl,rfl⟩) | (go_at_call 157;refine(or_any _ 0 3 [cmpRow ⟨av,al⟩ ⟨bv,bl⟩,cmpI af bf,cmpI at_ bt] _ (by simp [maxLen]) (by exact fun k hk=>or_new w3 [cmpRow ⟨av,al⟩ ⟨bv,bl⟩,cmpI af bf,cmpI at_ bt] 3 k hk)).mono ?_;rintro e w5 ⟨rfl,rfl⟩))
 all_goals (obtain⟨hfin,_⟩:= ‹Gro w _∧_›)
 all_goals go_wp2_with fail
 all_goals go_ret
 all_goals exact⟨rfl,hfin⟩
theorem isAggTup (w:World):(isAgg 125).run Tryz.prog w = .ok true w:=by kernel_rfl
theorem sizeOfTup (w:World):(Go.sizeOf 125).run Tryz.prog w = .ok 4 w:=by kernel_rfl
theorem entersCmpTup : ∀args w,(callFunc 134 args).run Tryz.prog w = .ok (.enter 134 args) w:=enters_of Tryz.func134 (by kernel_rfl) rfl
theorem sort_tups_call (w:World) (S:Nat→Prop) (base:Nat) (e:TypeId) (v:Value) (xs:List Tup) (hown:OwnOf Rep.tup w S base e v xs) (hlen:xs.length<4611686018427387904) :
  Calls Tryz.prog 133 #[v,.func (.func 134) #[] #[]] w fun en w'=>en = .returned (.tuple #[])∧OwnOf Rep.tup w' S base e v (sortBy cmpTup xs)∧w.grownBy w' v.ownBlock:=by
 have h:=sortFunc_rep Tryz.sortTups Rep.tup 4 rfl (by decide) isAggTup sizeOfTup cmpTup ord_tup 134 entersCmpTup (fun W x y cx cy hx hy=>by
  obtain⟨a,b,rfl,h1,h2,_⟩:=hx
  obtain⟨a',b',rfl,h1',h2',_⟩:=hy
  exact compareTup_any _ _ _ _ _ _ W h1 h1' h2 h2') w S base e v xs hown hlen
 exact h
end Go.Proofs.YtombmdaohcjokaaGreatDoor
namespace Go.Proofs.YtombmdaohcjokaaGreatDoor
open Go.RowKit
theorem sizeBld:(Tryz.prog.info? 195).map (·.size)=some 2:=by kernel_rfl
theorem liesBld:liesAt Tryz.prog Tryz.prog.depth 195 (2 / Tryz.prog.cellsOf 195) 0 195 1=true:=by kernel_rfl
theorem infoByte:(Tryz.prog.info? 5).map (fun i=>(i.zero,i.size,i.bytes))=some (some (.int .u8 0),1,1):=by kernel_rfl
def Bld (b:Nat) (bs:List UInt8) (w:World):Prop:=Lib.IsBuilder 195 5 b b (Lib.byteCells bs) w
theorem Bld.fresh (w:World):Bld w.heap.size [] (w.alloc (.cells #[.pointer none,.slice none 0 0] 195)):=Lib.fresh_isBuilder _ _ w
theorem Ext.grows {w w':World} (h:Ext w w'):w.grownBy w' none:=⟨h.os,h.tape,h.output,h.size,fun i hi _=>h.block i hi⟩
theorem Bld.lt {b:Nat} {bs:List UInt8} {w:World} (h:Bld b bs w):b<w.heap.size:=by
 rcases h with h | h <;> exact h.lt
theorem Bld.ext {b:Nat} {bs:List UInt8} {w w':World} (h:Bld b bs w) (hx:Ext w w'):Bld b bs w':=by
 have hlt:=h.lt
 rcases h with ⟨h1,v,h2,h3,h4⟩ | ⟨h1,v,h2,h3,h4⟩
 ·exact .inl ⟨h1,v,(hx.block b hlt).trans h2,h3.kept (Ext.grows hx) (by cases v.ownBlock <;> simp),h4⟩
 ·exact .inr ⟨h1,v,(hx.block b hlt).trans h2,h3.kept (Ext.grows hx) (by cases v.ownBlock <;> simp),h4⟩
set_option maxHeartbeats 1000000 in
set_option maxRecDepth 100000 in
theorem copyCheck_used (b:Nat) (w:World) (h0:w.cell? ⟨b,0,none⟩=some (.pointer (some ⟨b,0,none⟩))) :
  Calls Tryz.prog 180 #[.pointer (some ⟨b,0,none⟩)] w fun e w'=>e = .returned (.tuple #[])∧w'=w:=by
 obtain⟨j,hj,_⟩:=Option.map_eq_some_iff.1 sizeBld
 go_enter Tryz.func180,Tryz.ntmps180
 go_wp2
 rw [Lib.run_neq_ptr_same w _ Tryz.underlying192 hj]
 go_wp2
 go_end0
 exact⟨rfl,rfl⟩
set_option maxHeartbeats 1000000 in
set_option maxRecDepth 100000 in
theorem copyCheck_fresh (b:Nat) (w:World) (h0:w.cell? ⟨b,0,none⟩=some (.pointer none)) (hsh:w.shape? b=some (195,2)) (hfz:w.frozen? ⟨b,0,none⟩=false) :
  Calls Tryz.prog 180 #[.pointer (some ⟨b,0,none⟩)] w fun e w'=>e = .returned (.tuple #[])∧w'=w.setCell ⟨b,0,none⟩ (.pointer (some ⟨b,0,none⟩)):=by
 obtain⟨j,hj,hjs⟩:=Option.map_eq_some_iff.1 sizeBld
 go_enter Tryz.func180,Tryz.ntmps180
 go_wp2
 rw [Lib.run_to_unsafe w ⟨b,0,none⟩ Tryz.underlying192 Tryz.underlying308 hj (by rw [hjs];decide) hsh (Nat.zero_lt_succ 1)]
 simp only [Result.andThen]
 rw [Oper.upon_value]
 go_wp2
 rw [run_callFunc_extern Tryz.func227 (by kernel_rfl) (by kernel_rfl) (by kernel_rfl) (e:=Extern.AbiNoEscape.same) (by kernel_rfl)]
 rw [Lib.run_noEscape]
 simp only [Result.andThen]
 rw [Oper.upon_value]
 go_wp2
 rw [Lib.run_from_unsafe w ⟨b,0,none⟩ Tryz.underlying308 Tryz.underlying192 hj hsh liesBld]
 simp only [Result.andThen]
 rw [Oper.upon_value]
 go_wp2
 go_end0
 exact⟨rfl,rfl⟩
theorem row_block {w:World} {base:Nat} {e:TypeId} {k n:Nat} {v:Value} {xs:List Value} (h:w.ownsRow base e k v n xs) : ∀g,v.ownBlock=some g→ ∃c fz,w.heap[g]?=some (.cells c e fz):=by
 intro g hg
 rcases h.2 with ⟨rfl,_⟩ | ⟨g',cap,cur,rfl,_,hgg,_⟩
 ·cases hg
 ·cases hg
  exact⟨_,_,hgg⟩
theorem copyCheck_any (b:Nat) (bs:List UInt8) (w:World) (h:Bld b bs w) :
  Calls Tryz.prog 180 #[.pointer (some ⟨b,0,none⟩)] w fun e w'=>e = .returned (.tuple #[])∧(Lib.BuilderAt 195 5 b b (.pointer (some ⟨b,0,none⟩)) (Lib.byteCells bs) w'∧Below b w w'∧Lib.OthersKept 5 (some b) w w'):=by
 rcases h with h | h
 ·refine(copyCheck_fresh b w h.cell0 h.shape h.frozen0).mono ?_
  rintro e w' ⟨rfl,rfl⟩
  exact⟨rfl,h.used _,(Below.refl b w).setCell (p:=⟨b,0,none⟩) h.1 _,(Lib.OthersKept.refl _ _ w).setCell ⟨b,0,none⟩ rfl _⟩
 ·refine(copyCheck_used b w h.cell0).mono ?_
  rintro e w' ⟨rfl,rfl⟩
  exact⟨rfl,h,Below.refl b _,Lib.OthersKept.refl _ _ _⟩
set_option maxHeartbeats 2000000 in
set_option maxRecDepth 100000 in
theorem writeString_any (b:Nat) (bs:List UInt8) (s:List UInt8) (w:World) (h:Bld b bs w) (hlen:bs.length+s.length≤140737488355328) :
  Calls Tryz.prog 126 #[.pointer (some ⟨b,0,none⟩),.string ⟨s.toArray⟩] w fun e w'=>e = .returned (.tuple #[.int .i64 s.length,.nilIface])∧Bld b (bs++s) w'∧Below b w w'∧Lib.OthersKept 5 (some b) w w':=by
 obtain⟨i0,hi,hz0,hz1,hz2⟩:=info_parts infoByte
 have hlt:=h.lt
 have hsz:(⟨s.toArray⟩:ByteArray).size=s.length:=by simp [ByteArray.size]
 go_enter Tryz.func126,Tryz.ntmps126
 go_wp2_with fail
 refine(copyCheck_any b bs _ h).mono ?_
 rintro e w1 ⟨rfl,h1,hb1,ho1⟩
 obtain⟨hB,v,hbk,hown,hne⟩:=h1
 have c0:w1.cell? ⟨b,0,none⟩=some (.pointer (some ⟨b,0,none⟩)):=by rw [Lib.cell_of_heap hbk];rfl
 have c1:w1.cell? ⟨b,1,none⟩=some v:=by rw [Lib.cell_of_heap hbk];rfl
 have hbl:(Lib.byteCells bs).length=bs.length:=by simp [Lib.byteCells]
 go_wp2_with (at_builtin;refine Lib.wpList_append_own_string _ rfl _ _ 193 9 rfl b 5 i0 Tryz.underlying193 Tryz.underlying9 hi hz0 hz1 hz2 _ _ _ rfl hown ⟨s.toArray⟩ rfl ?c3 ?c4 ?c5 ?_)
 case c3=>rw [hsz,hbl];unfold maxLen;omega
 case c4=>rw [hsz,hbl];omega
 case c5=>have:=hb1.size;omega
 intro v' w2 hown' hgrow _
 have hlt:b<w1.heap.size:=by
  rcases Nat.lt_or_ge b w1.heap.size with h' | h'
  ·exact h'
  ·simp [Array.getElem?_eq_none h']at hbk
 have hb2:w2.heap[b]?=some (.cells #[.pointer (some ⟨b,0,none⟩),v] 195 (0,0)):=by
  rw [hgrow.block b hlt (fun e=>hne e.symm)]
  exact hbk
 have d0:w2.cell? ⟨b,0,none⟩=some (.pointer (some ⟨b,0,none⟩)):=by rw [Lib.cell_of_heap hb2];rfl
 have d1:w2.cell? ⟨b,1,none⟩=some v:=by rw [Lib.cell_of_heap hb2];rfl
 have f1:w2.frozen? ⟨b,1,none⟩=false:=Lib.frozen_of_heap hb2 1
 obtain⟨ao,n',cap,rfl⟩ : ∃ao n' cap,v' = .slice ao n' cap:=by
  rcases hown'.2 with ⟨hv,_⟩ | ⟨g,cap,cur,hv,_⟩
  ·exact⟨_,_,_,hv⟩
  ·exact⟨_,_,_,hv⟩
 go_wp2
 go_ret2
 have hcells:Lib.byteCells bs++Lib.strCells ⟨s.toArray⟩=Lib.byteCells (bs++s):=by rw [show Lib.strCells ⟨s.toArray⟩=Lib.byteCells s from rfl];simp [Lib.byteCells]
 refine⟨?_,?_,?_,?_⟩
 ·rfl
 ·refine .inr ?_
  rw [←hcells]
  exact Lib.BuilderAt.put (T:=195) (e:=5) hB hb2 (bs':=Lib.byteCells bs++Lib.strCells ⟨s.toArray⟩) (by rw [List.length_append,Lib.strCells_length,hsz,hbl];exact hown') (by decide)
 ·exact(hb1.grown hgrow (by have:=hb1.size;omega) (fun k hk=>(hown.lt k hk).1)).setCell (p:=⟨b,1,none⟩) hB _
 ·exact(ho1.grown hgrow (row_block hown)).setCell ⟨b,1,none⟩ rfl _
theorem kept_at {b k:Nat} {w w':World} {cs:Array Value} {T:TypeId} {fz:Nat×Nat} (h:Lib.OthersKept 5 (some b) w w') (hk:w.heap[k]?=some (.cells cs T fz)) (hb:k≠b) (hT:T≠5):w'.heap[k]?=some (.cells cs T fz) :=
 h k _ hk (fun e=>hb (Option.some.inj e)) (fun c fz' e=>by cases e;exact hT rfl)
end Go.Proofs.YtombmdaohcjokaaGreatDoor
namespace Go.Proofs.YtombmdaohcjokaaGreatDoor
open Go.RowKit
theorem var_ext {P:Program} {w w':World} {name:String} {cs:Array Value} (h:w.var? P name=some cs) (hx:Ext w w'):w'.var? P name=some cs:=by
 unfold World.var? at h ⊢
 obtain⟨g,hg,hc⟩:=Option.bind_eq_some_iff.1 h
 rw [hg]
 simp only [Option.bind_some]
 cases hb:w.heap[g]? with
 |none=>rw [hb]at hc;cases hc
 |some o =>
  have hlt:g<w.heap.size:=(Array.getElem?_eq_some_iff.1 hb).1
  rw [hx.block g hlt]
  exact hc
def TabW (w:World):Prop:=Lib.TabIs Tryz.prog w "internal/strconv.uint64pow10" .u64 Lib.pow10Tab
theorem TabW.ext {w w':World} (h:TabW w) (hx:Ext w w'):TabW w':=var_ext h hx
def DaysW (w:World):Prop:=w.var? Tryz.prog "annalist/group.allDays" = some #[.int .i64 0,.int .i64 1000000]
theorem DaysW.ext {w w':World} (h:DaysW w) (hx:Ext w w'):DaysW w':=var_ext h hx
theorem days_cells {w:World} (h:DaysW w):w.cell? ⟨0,0,none⟩=some (.int .i64 0)∧w.cell? ⟨0,1,none⟩=some (.int .i64 1000000):=by
 unfold DaysW World.var? at h
 rw [show Tryz.prog.globalNamed "annalist/group.allDays" = some 0 by kernel_rfl]at h
 simp only [Option.bind_some]at h
 split at h
 ·rename_i cs T fz hb
  injection h with h
  subst h
  exact⟨by rw [Lib.cell_of_heap hb];rfl,by rw [Lib.cell_of_heap hb];rfl⟩
 ·cases h
theorem ext_grow {w w':World} (h : ∃k os,w'=Go.Sort.grow (w.drewN k) os):Ext w w':=by
 obtain⟨k,os,rfl⟩:=h
 exact(Gro.of_grow w k os).ext
theorem itoa_any (n:Int) (w:World) (h0 : -9223372036854775808≤n) (h1:n≤9223372036854775807) (ht:TabW w) :
  Calls Tryz.prog 127 #[.int .i64 n] w fun e w'=>e = .returned (.string ⟨(Lib.itoa n).toArray⟩)∧Ext w w' :=
 (Tryz.strconv_Itoa n h0 h1 w ht).mono fun _ _ h=>⟨h.1,ext_grow h.2⟩
theorem formatInt_any (n:Int) (w:World) (h0 : -9223372036854775808≤n) (h1:n≤9223372036854775807) (ht:TabW w) :
  Calls Tryz.prog 128 #[.int .i64 n,.int .i64 10] w fun e w'=>e = .returned (.string ⟨(Lib.itoa n).toArray⟩)∧Ext w w' :=
 (Tryz.strconv_FormatInt_10 n h0 h1 w ht).mono fun _ _ h=>⟨h.1,ext_grow h.2⟩
theorem val_cells {h:View} {b o n cap:Nat} {xs:List Val} (k:SliceOf Rep.val h (.slice (some ⟨b,o,none⟩) n cap) xs) (i:Nat) (hi:i<xs.length) :
  h ⟨b,o+i*3,none⟩=some (.int .i64 xs[i].kind)∧h ⟨b,o+i*3+1,none⟩=some (.int .i64 xs[i].n)∧h ⟨b,o+i*3+2,none⟩=some (.string xs[i].s)∧(-9223372036854775808≤xs[i].kind∧xs[i].kind≤9223372036854775807)∧(-9223372036854775808≤xs[i].n∧xs[i].n≤9223372036854775807):=by
 obtain⟨c,⟨rfl,h3,h4,_⟩,h2⟩:=k.at i hi
 exact⟨h2 0 _ rfl,h2 1 _ rfl,h2 2 _ rfl,h3,h4⟩
end Go.Proofs.YtombmdaohcjokaaGreatDoor
namespace Go.Proofs.YtombmdaohcjokaaGreatDoor
open Go.RowKit
theorem keyVals_take (vs:List Val) (k:Nat) (h:k<vs.length):keyVals (vs.take (k+1))=keyVals (vs.take k)++keyVal vs[k]:=by
 rw [List.take_succ_eq_append_getElem h]
 unfold keyVals
 rw [List.flatMap_append,List.flatMap_cons,List.flatMap_nil,List.append_nil]
theorem itoa_len (n:Int) (h0 : -9223372036854775808≤n) (h1:n≤9223372036854775807):(Lib.itoa n).length≤21:=Lib.itoa_length_le n h0 h1
def fitVals (vs:List Val):Prop:=vs.length≤1048576∧ ∀v∈vs,v.s.size≤1048576
theorem keyVal_bytes (yk yn:Int) (ys:ByteArray):(((((((⟨(Lib.itoa yk).toArray⟩:ByteArray)++⟨#[44]⟩)++⟨(Lib.itoa yn).toArray⟩)++⟨#[44]⟩)++⟨(Lib.itoa (ys.size:Int)).toArray⟩)++⟨#[58]⟩)++ys).data.toList=keyVal ⟨yk,yn,ys⟩:=by
 simp [keyVal,ByteArray.data_append]
theorem keyVal_len {yk yn:Int} {ys:ByteArray} (h1:(Lib.itoa yk).length≤21) (h2:(Lib.itoa yn).length≤21) (h3:(Lib.itoa (ys.size:Int)).length≤21) (h4:ys.size≤1048576):(keyVal ⟨yk,yn,ys⟩).length≤1048650:=by
 have e:ys.data.toList.length=ys.size:=Array.length_toList
 simp only [keyVal,List.length_append,List.length_cons,e]
 omega
theorem of_list (s:ByteArray):s=⟨s.data.toList.toArray⟩:=by
 obtain⟨⟨l⟩⟩:=s
 rfl
theorem writeKey (b:Nat) (bs:List UInt8) (yk yn:Int) (ys:ByteArray) (w:World) (h:Bld b bs w) (hlen:bs.length+(keyVal ⟨yk,yn,ys⟩).length≤140737488355328) :
  Calls Tryz.prog 126 #[.pointer (some ⟨b,0,none⟩),.string (((((((⟨(Lib.itoa yk).toArray⟩:ByteArray)++⟨#[44]⟩)++⟨(Lib.itoa yn).toArray⟩)++⟨#[44]⟩)++⟨(Lib.itoa (ys.size:Int)).toArray⟩)++⟨#[58]⟩)++ys)] w fun e w'=>e = .returned (.tuple #[.int .i64 (keyVal ⟨yk,yn,ys⟩).length,.nilIface])∧Bld b (bs++keyVal ⟨yk,yn,ys⟩) w'∧Below b w w'∧Lib.OthersKept 5 (some b) w w':=by
 rw [of_list (_++ys),keyVal_bytes]
 exact writeString_any b bs _ w h hlen
theorem bldE {b:Nat} {bs:List UInt8} {w w':World} (h:Bld b bs w) (hx:Ext w w'):Bld b bs w':=h.ext hx
theorem tabE {w w':World} (h:TabW w) (hx:Ext w w'):TabW w':=h.ext hx
theorem keepK {w wa wb:World} {B:Nat} {v0 v1 v2:Value} {T:TypeId}
  (h:Ext w wa∧wa.cell? ⟨B,0,none⟩=some v0∧wa.cell? ⟨B,1,none⟩=some v1∧wa.cell? ⟨B,2,none⟩=some v2∧wa.heap[B]?=some (.cells #[v0,v1,v2] T (0,0))) (hx:Ext wa wb) :
  Ext w wb∧wb.cell? ⟨B,0,none⟩=some v0∧wb.cell? ⟨B,1,none⟩=some v1∧wb.cell? ⟨B,2,none⟩=some v2∧wb.heap[B]?=some (.cells #[v0,v1,v2] T (0,0)) :=
 ⟨h.1.trans hx,hx.at h.2.1,hx.at h.2.2.1,hx.at h.2.2.2.1,(hx.block B (Array.getElem?_eq_some_iff.1 h.2.2.2.2).1).trans h.2.2.2.2⟩
theorem keepO {w wa wb:World} {B:Nat} {v0 v1 v2:Value} {T:TypeId}
  (h:Ext w wa∧wa.cell? ⟨B,0,none⟩=some v0∧wa.cell? ⟨B,1,none⟩=some v1∧wa.cell? ⟨B,2,none⟩=some v2∧wa.heap[B]?=some (.cells #[v0,v1,v2] T (0,0)))
  (hx:Below w.heap.size wa wb) (ho:Lib.OthersKept 5 (some w.heap.size) wa wb) (hB:B≠w.heap.size) (hT:T≠5) :
  Ext w wb∧wb.cell? ⟨B,0,none⟩=some v0∧wb.cell? ⟨B,1,none⟩=some v1∧wb.cell? ⟨B,2,none⟩=some v2∧wb.heap[B]?=some (.cells #[v0,v1,v2] T (0,0)):=by
 have hk:=kept_at ho h.2.2.2.2 hB hT
 exact⟨Below.trans h.1 hx,by rw [Lib.cell_of_heap hk];rfl,by rw [Lib.cell_of_heap hk];rfl,by rw [Lib.cell_of_heap hk];rfl,hk⟩
set_option maxRecDepth 100000 in
set_option maxHeartbeats 8000000 in
theorem key_any (v:Value) (vs:List Val) (w:World) (hv:SliceOf Rep.val w.cell? v vs) (hf:fitVals vs) (ht:TabW w) :
  Calls Tryz.prog 81 #[v] w fun e w'=>e = .returned (.string ⟨(keyVals vs).toArray⟩)∧Ext w w':=by
 obtain⟨p,cap,rfl,hc1,hc2,hp⟩:=hv.form
 obtain⟨N,hN⟩ : ∃N,N=vs.length:=⟨_,rfl⟩
 have HV:=Lib.hid hv
 rw [←hN]
 have HN:=Lib.hid hN
 have HP:=Lib.hid hp
 have HF:=Lib.hid hf
 have HT:=Lib.hid ht
 have hNl:N≤1048576:=by rw [hN];exact hf.1
 clear hv hN hp hc1 hc2 hf ht
 have hF0:=Bld.fresh w
 go_enter Tryz.func81,Tryz.ntmps81
 go_wp2_with fail
 go_loopg [8] N (fun gk vi wr=> ∃(k:Nat),k≤N∧gk=N - k∧vi = .int .i64 k∧Hid (Bld w.heap.size (keyVals (vs.take k)) wr)∧Hid ((keyVals (vs.take k)).length≤1048650*k)∧Hid (Ext w wr))
 case atStart=>exact⟨0,by omega,rfl,rfl,hF0,by show 0≤_;omega,(Ext.refl w).alloc _⟩
 case round =>
  obtain⟨k,hk,rfl,rfl,HB,HLen,HX⟩:=hrel
  by_cases hlt:k<N
  ·have hkl:k<vs.length:=by have:=HN.out;omega
   have hd:decide ((k:Int)<(N:Int))=true:=by simp;omega
   obtain⟨b,o,rfl⟩:=HP.out (by decide) (by omega)
   have hv:=HV.out
   rw [←HN.out]at hv
   obtain⟨c0,c1,c2,r1,r2⟩:=val_cells hv k hkl
   replace c0:=HX.out.at c0
   replace c1:=HX.out.at c1
   replace c2:=HX.out.at c2
   have hst:=keyVals_take vs k hkl
   have hsz:=HF.out.2 vs[k] (List.getElem_mem hkl)
   generalize vs[k]=y at c0 c1 c2 r1 r2 hst hsz
   obtain⟨yk,yn,ys⟩:=y
   dsimp only at c0 c1 c2 r1 r2 hst hsz
   have HST:=Lib.hid hst
   have HR:=Lib.hid (show ((-9223372036854775808≤yk∧yk≤9223372036854775807)∧(-9223372036854775808≤yn∧yn≤9223372036854775807))∧ys.size≤1048576 from ⟨⟨r1,r2⟩,hsz⟩)
   have e0:=cell_lt c0
   clear hst hv r1 r2 hsz
   go_wp2_with fail
   have k0:(wr.alloc (.cells #[.int .i64 yk,.int .i64 yn,.string ys] 61)).cell? ⟨wr.heap.size,0,none⟩=some (.int .i64 yk):=by go_simp
   have k1:(wr.alloc (.cells #[.int .i64 yk,.int .i64 yn,.string ys] 61)).cell? ⟨wr.heap.size,1,none⟩=some (.int .i64 yn):=by go_simp
   have k2:(wr.alloc (.cells #[.int .i64 yk,.int .i64 yn,.string ys] 61)).cell? ⟨wr.heap.size,2,none⟩=some (.string ys):=by go_simp
   have k3:(wr.alloc (.cells #[.int .i64 yk,.int .i64 yn,.string ys] 61)).heap[wr.heap.size]?=some (.cells #[.int .i64 yk,.int .i64 yn,.string ys] 61 (0,0)):=(MapKept.heap_alloc wr _).1
   have x0:Ext wr (wr.alloc (.cells #[.int .i64 yk,.int .i64 yn,.string ys] 61)):=(Ext.refl wr).alloc _
   generalize (wr.alloc (.cells #[.int .i64 yk,.int .i64 yn,.string ys] 61))=W at k0 k1 k2 k3 x0 ⊢
   have hB0:Bld w.heap.size (keyVals (vs.take k)) W.drew:=HB.out.ext x0.drew
   have hT0:TabW W.drew:=HT.out.ext (HX.out.trans x0.drew)
   have hlt2:=HB.out.lt
   have hS0:Ext w W.drew∧W.drew.cell? ⟨wr.heap.size,0,none⟩=some (.int .i64 yk)∧W.drew.cell? ⟨wr.heap.size,1,none⟩=some (.int .i64 yn)∧W.drew.cell? ⟨wr.heap.size,2,none⟩=some (.string ys)∧W.drew.heap[wr.heap.size]?=some (.cells #[.int .i64 yk,.int .i64 yn,.string ys] 61 (0,0)):=⟨HX.out.trans x0.drew,k0,k1,k2,k3⟩
   clear k0 k1 k2 k3 c0 c1 c2
   have l1:=itoa_len yk HR.out.1.1.1 HR.out.1.1.2
   have l2:=itoa_len yn HR.out.1.2.1 HR.out.1.2.2
   have l3:=itoa_len (ys.size:Int) (by omega) (by have:=HR.out;omega)
   have l4:=HR.out.2
   have q1 : ¬ 9223372036854775807<(Lib.itoa yk).length+1:=by omega
   have q2 : ¬ 9223372036854775807<(Lib.itoa yk).length+1+(Lib.itoa yn).length:=by omega
   have q3 : ¬ 9223372036854775807<(Lib.itoa yk).length+1+(Lib.itoa yn).length+1:=by omega
   have q4 : ¬ 9223372036854775807<(Lib.itoa yk).length+1+(Lib.itoa yn).length+1+(Lib.itoa (ys.size:Int)).length:=by omega
   have q5 : ¬ 9223372036854775807<(Lib.itoa yk).length+1+(Lib.itoa yn).length+1+(Lib.itoa (ys.size:Int)).length+1:=by omega
   have q6 : ¬ 9223372036854775807<(Lib.itoa yk).length+1+(Lib.itoa yn).length+1+(Lib.itoa (ys.size:Int)).length+1+ys.size:=by omega
   have HQ:=Lib.hid (And.intro (And.intro l1 l2) (And.intro l3 l4))
   clear l1 l2 l3 l4
   go_region_held3 (fun w'=>Ext w w'∧w'.cell? ⟨wr.heap.size,0,none⟩=some (.int .i64 yk)∧w'.cell? ⟨wr.heap.size,1,none⟩=some (.int .i64 yn)∧w'.cell? ⟨wr.heap.size,2,none⟩=some (.string ys)∧w'.heap[wr.heap.size]?=some (.cells #[.int .i64 yk,.int .i64 yn,.string ys] 61 (0,0)))
    (first |with_reducible assumption | with_reducible exact keepK (by assumption) hx2 | with_reducible exact keepO (by assumption) hx5 hO5 (by omega) (by decide))
    (first |(go_at_call 127;refine(itoa_any _ _ (by have:=HR.out;omega) (by have:=HR.out;omega) (by assumption)).mono ?_;rintro e w2 ⟨rfl,hx2⟩;have hB2:=bldE (by assumption) hx2;have hT2:=tabE (by assumption) hx2) | (go_at_call 128;refine(formatInt_any _ _ (by have:=HR.out;omega) (by have:=HR.out;omega) (by assumption)).mono ?_;rintro e w2 ⟨rfl,hx2⟩;have hB2:=bldE (by assumption) hx2;have hT2:=tabE (by assumption) hx2) | (go_at_call 126;refine(writeKey _ _ yk yn ys _ (by assumption) (by have h1:=HLen.out;have h2:=HQ.out;have h3:=keyVal_len h2.1.1 h2.1.2 h2.2.1 h2.2.2;omega)).mono ?_;rintro e w5 ⟨rfl,hB5,hx5,hO5⟩))
   all_goals (obtain⟨hfin,_⟩:= ‹Ext w w5∧_›)
   all_goals have HB5:=Lib.hid (show Bld w.heap.size (keyVals (vs.take (k+1))) w5 from by rw [HST.out];exact hB5)
   all_goals have HL5:=Lib.hid (show (keyVals (vs.take (k+1))).length≤1048650*(k+1)from by rw [HST.out,List.length_append];have h1:=HLen.out;have h2:=HQ.out;have h3:=keyVal_len h2.1.1 h2.1.2 h2.2.1 h2.2.2;omega)
   all_goals have HX5:=Lib.hid hfin
   all_goals clear hB5 hfin hO5 hx5
   all_goals go_wp2_with fail
   all_goals go_roundg (N - (k+1))
   all_goals first
    |(case measure=>omega)
    |(case rel=>exact⟨k+1,by omega,rfl,by go_num,HB5.out,HL5.out,HX5.out⟩)
  ·have hkN:k=N:=by omega
   have hd : ¬(k:Int)<(N:Int):=by omega
   have HBF:=Lib.hid (show Bld w.heap.size (keyVals vs) wr from by have h:=HB.out;rw [hkN,HN.out,List.take_length]at h;exact h)
   clear hkN HLen
   go_wp2_with fail
   refine(Tryz.Builder_String_any _ _ (keyVals vs) _ HBF.out (Nat.le_of_lt HBF.out.lt)).mono ?_
   rintro e w6 ⟨rfl,x6⟩
   have X6:=Lib.hid (show Ext w w6 from Below.trans HX.out x6)
   clear x6
   go_wp2_with fail
   go_ret
   exact⟨rfl,X6.out⟩
end Go.Proofs.YtombmdaohcjokaaGreatDoor
namespace Go.Proofs.YtombmdaohcjokaaGreatDoor
open Go.RowKit
theorem lin_cell {h:View} {b o n cap:Nat} {xs:List Int} (k:SliceOf Rep.int h (.slice (some ⟨b,o,none⟩) n cap) xs) (i:Nat) (hi:i<xs.length) :
  h ⟨b,o+i,none⟩=some (.int .i64 xs[i])∧(-9223372036854775808≤xs[i]∧xs[i]≤9223372036854775807):=by
 obtain⟨c,⟨rfl,h3⟩,h2⟩:=k.at i hi
 have h4:=h2 0 _ rfl
 simp only [show i*Rep.int.size=i from Nat.mul_one i]at h4
 exact⟨h4,h3⟩
theorem vals_range {h:View} {v:Value} {vs:List Val} (k:SliceOf Rep.val h v vs) : ∀x∈vs,(-9223372036854775808≤x.kind∧x.kind≤9223372036854775807)∧(-9223372036854775808≤x.n∧x.n≤9223372036854775807):=by
 intro x hx
 obtain⟨i,hi,rfl⟩:=List.getElem_of_mem hx
 obtain⟨p,cap,rfl,_,_,hp⟩:=k.form
 obtain⟨b,o,rfl⟩:=hp (by decide) (by omega)
 obtain⟨_,_,_,r1,r2⟩:=val_cells k i hi
 exact⟨r1,r2⟩
theorem keyVals_len {vs:List Val} (h : ∀x∈vs,(-9223372036854775808≤x.kind∧x.kind≤9223372036854775807)∧(-9223372036854775808≤x.n∧x.n≤9223372036854775807)) (hf : ∀x∈vs,x.s.size≤1048576):(keyVals vs).length≤1048650*vs.length:=by
 induction vs with
 |nil=>exact Nat.zero_le _
 |cons x vs ih =>
  have h1:=ih (fun y hy=>h y (by simp [hy])) fun y hy=>hf y (by simp [hy])
  have hx:=h x (by simp)
  have hs:=hf x (by simp)
  have h2:=keyVal_len (itoa_len x.kind hx.1.1 hx.1.2) (itoa_len x.n hx.2.1 hx.2.2) (itoa_len (x.s.size:Int) (by omega) (by omega)) hs
  unfold keyVals at h1 ⊢
  rw [List.flatMap_cons,List.length_append,List.length_cons]
  have h3:(keyVal x).length≤1048650:=h2
  omega
theorem keyLin_take (l:List Int) (k:Nat) (h:k<l.length):keyLin (l.take (k+1))=keyLin (l.take k)++44::Lib.itoa l[k]:=by
 rw [List.take_succ_eq_append_getElem h]
 unfold keyLin
 rw [List.flatMap_append,List.flatMap_cons,List.flatMap_nil,List.append_nil]
theorem rowHead_bytes (n:Int) (ks:List UInt8):(((⟨(Lib.itoa n).toArray⟩:ByteArray)++⟨#[59]⟩)++⟨ks.toArray⟩).data.toList=Lib.itoa n++59::ks:=by
 simp [ByteArray.data_append]
theorem linBytes (n:Int):((⟨#[44]⟩:ByteArray)++⟨(Lib.itoa n).toArray⟩).data.toList=44::Lib.itoa n:=by
 simp [ByteArray.data_append]
theorem writeHead (b:Nat) (bs:List UInt8) (n:Int) (ks:List UInt8) (w:World) (h:Bld b bs w) (hlen:bs.length+(Lib.itoa n++59::ks).length≤140737488355328) :
  Calls Tryz.prog 126 #[.pointer (some ⟨b,0,none⟩),.string (((⟨(Lib.itoa n).toArray⟩:ByteArray)++⟨#[59]⟩)++⟨ks.toArray⟩)] w fun e w'=>e = .returned (.tuple #[.int .i64 (Lib.itoa n++59::ks).length,.nilIface])∧Bld b (bs++(Lib.itoa n++59::ks)) w'∧Below b w w':=by
 rw [of_list (_++(⟨ks.toArray⟩:ByteArray)),rowHead_bytes]
 exact(writeString_any b bs _ w h hlen).mono fun _ _ h=>⟨h.1,h.2.1,h.2.2.1⟩
theorem writeLin (b:Nat) (bs:List UInt8) (n:Int) (w:World) (h:Bld b bs w) (hlen:bs.length+(44::Lib.itoa n).length≤140737488355328) :
  Calls Tryz.prog 126 #[.pointer (some ⟨b,0,none⟩),.string ((⟨#[44]⟩:ByteArray)++⟨(Lib.itoa n).toArray⟩)] w fun e w'=>e = .returned (.tuple #[.int .i64 (44::Lib.itoa n).length,.nilIface])∧Bld b (bs++44::Lib.itoa n) w'∧Below b w w':=by
 rw [of_list (_++(⟨(Lib.itoa n).toArray⟩:ByteArray)),linBytes]
 exact(writeString_any b bs _ w h hlen).mono fun _ _ h=>⟨h.1,h.2.1,h.2.2.1⟩
theorem extR {w wa:World} {B:Nat} {v0 v2:Value} (h:Ext w wa∧wa.cell? ⟨B,0,none⟩=some v0∧wa.cell? ⟨B,3,none⟩=some v2):Ext w wa:=h.1
theorem keepR {w wa wb:World} {B:Nat} {v0 v2:Value} (h:Ext w wa∧wa.cell? ⟨B,0,none⟩=some v0∧wa.cell? ⟨B,3,none⟩=some v2) (hx:Ext wa wb):Ext w wb∧wb.cell? ⟨B,0,none⟩=some v0∧wb.cell? ⟨B,3,none⟩=some v2 :=
 ⟨h.1.trans hx,hx.at h.2.1,hx.at h.2.2⟩
theorem keepRB {w wa wb:World} {v0 v2:Value} (h:Ext w wa∧wa.cell? ⟨w.heap.size,0,none⟩=some v0∧wa.cell? ⟨w.heap.size,3,none⟩=some v2) (hx:Below (w.heap.size+1) wa wb):Ext w wb∧wb.cell? ⟨w.heap.size,0,none⟩=some v0∧wb.cell? ⟨w.heap.size,3,none⟩=some v2 :=
 ⟨Below.trans h.1 (hx.mono (Nat.le_succ _)),(Below.cell hx (Nat.lt_succ_self _)).trans h.2.1,(Below.cell hx (Nat.lt_succ_self _)).trans h.2.2⟩
set_option maxRecDepth 100000 in
set_option maxHeartbeats 8000000 in
theorem rowKey_any (pa pb:Option Addr) (ka kb:Nat) (f t:Int) (vs:List Val) (ls:List Int) (w:World) (hv:SliceOf Rep.val w.cell? (.slice pa vs.length ka) vs) (hl:SliceOf Rep.int w.cell? (.slice pb ls.length kb) ls) (hf:fitVals vs) (hfl:ls.length≤1048576) (ht:TabW w) :
  Calls Tryz.prog 131 #[.agg #[.slice pa vs.length ka,.int .i64 f,.int .i64 t,.slice pb ls.length kb]] w fun e w'=>e = .returned (.string ⟨(keyRow ⟨vs,ls⟩).toArray⟩)∧Ext w w':=by
 obtain⟨p,cap,hform,_,_,hp⟩:=hl.form
 obtain⟨rfl,_,rfl⟩:pb=p∧True∧kb=cap:=by
  injection hform with h1 h2 h3
  exact⟨h1,trivial,h3⟩
 clear hform
 have hkl:=keyVals_len (vals_range hv) hf.2
 obtain⟨N,hN⟩ : ∃N,N=ls.length:=⟨_,rfl⟩
 obtain⟨M,hM⟩ : ∃M,M=vs.length:=⟨_,rfl⟩
 have HV:=Lib.hid hv
 have HL:=Lib.hid hl
 have hMl:M≤1048576:=by rw [hM];exact hf.1
 have hNl:N≤1048576:=by omega
 rw [←hM]at HV hkl ⊢
 rw [←hN]at HL hp ⊢
 have HN:=Lib.hid hN
 have HM:=Lib.hid hM
 have HP:=Lib.hid hp
 have HF:=Lib.hid hf
 have HT:=Lib.hid ht
 have HK:=Lib.hid hkl
 clear hv hl hN hM hp hf hfl ht hkl
 go_enter Tryz.func131,Tryz.ntmps131
 go_wp2_with fail
 have k0:((w.alloc (.cells #[.slice pa M ka,.int .i64 f,.int .i64 t,.slice pb N kb] 125)).alloc (.cells #[.pointer none,.slice none 0 0] 195)).cell? ⟨w.heap.size,0,none⟩=some (.slice pa M ka):=by go_simp
 have k2:((w.alloc (.cells #[.slice pa M ka,.int .i64 f,.int .i64 t,.slice pb N kb] 125)).alloc (.cells #[.pointer none,.slice none 0 0] 195)).cell? ⟨w.heap.size,3,none⟩=some (.slice pb N kb):=by go_simp
 have x0:Ext w ((w.alloc (.cells #[.slice pa M ka,.int .i64 f,.int .i64 t,.slice pb N kb] 125)).alloc (.cells #[.pointer none,.slice none 0 0] 195)):=((Ext.refl w).alloc _).alloc _
 have hB:=Bld.fresh (w.alloc (.cells #[.slice pa M ka,.int .i64 f,.int .i64 t,.slice pb N kb] 125))
 rw [show (w.alloc (.cells #[.slice pa M ka,.int .i64 f,.int .i64 t,.slice pb N kb] 125)).heap.size=w.heap.size+1 by simp]at hB
 generalize ((w.alloc (.cells #[.slice pa M ka,.int .i64 f,.int .i64 t,.slice pb N kb] 125)).alloc (.cells #[.pointer none,.slice none 0 0] 195))=W at k0 k2 x0 hB ⊢
 have hB0:Bld (w.heap.size+1) [] W.drew:=hB.ext (Ext.refl W).drew
 have hT0:TabW W.drew:=HT.out.ext x0.drew
 have hS0:Ext w W.drew∧W.drew.cell? ⟨w.heap.size,0,none⟩=some (.slice pa M ka)∧W.drew.cell? ⟨w.heap.size,3,none⟩=some (.slice pb N kb):=⟨x0.drew,k0,k2⟩
 have l1:=itoa_len (M:Int) (by omega) (by omega)
 have l2:=HK.out
 have q1 : ¬ 9223372036854775807<(Lib.itoa (M:Int)).length+1:=by omega
 have q2 : ¬ 9223372036854775807<(Lib.itoa (M:Int)).length+1+(keyVals vs).length:=by omega
 have HQ:=Lib.hid (show (Lib.itoa (M:Int)).length≤21 from l1)
 clear l1 l2 k0 k2 hB
 go_region_held3 (fun w'=>Ext w w'∧w'.cell? ⟨w.heap.size,0,none⟩=some (.slice pa M ka)∧w'.cell? ⟨w.heap.size,3,none⟩=some (.slice pb N kb))
  (first |with_reducible assumption | with_reducible exact keepR (by assumption) hx2 | with_reducible exact keepRB (by assumption) hx5)
  (first |(go_at_call 127;refine(itoa_any _ _ (by omega) (by omega) (by assumption)).mono ?_;rintro e w2 ⟨rfl,hx2⟩;have hB2:=bldE (by assumption) hx2;have hT2:=tabE (by assumption) hx2) | (go_at_call 81;refine(key_any _ vs _ (HV.out.ext (Ext.full (extR (by assumption:Ext w _∧World.cell? _ ⟨w.heap.size,0,none⟩=some (.slice pa M ka)∧World.cell? _ ⟨w.heap.size,3,none⟩=some (.slice pb N kb))))) HF.out (by assumption)).mono ?_;rintro e w2 ⟨rfl,hx2⟩;have hB2:=bldE (by assumption) hx2;have hT2:=tabE (by assumption) hx2) | (go_at_call 126;refine(writeHead _ _ _ (keyVals vs) _ (by assumption) (by have h1:=HQ.out;have h2:=HK.out;simp only [List.length_nil,List.length_append,List.length_cons];omega)).mono ?_;rintro e w5 ⟨rfl,hB5,hx5⟩))
 all_goals (obtain⟨hfin,_,k3⟩:= ‹Ext w w5∧_›)
 all_goals have HB5:=Lib.hid (show Bld (w.heap.size+1) (Lib.itoa (M:Int)++59::keyVals vs) w5 from hB5)
 all_goals have HX5:=Lib.hid hfin
 all_goals have e3:=cell_lt k3
 all_goals clear hB5 hfin hx5
 all_goals go_wp2_with fail
 all_goals go_loopg [19] N (fun gk vi wr=> ∃(k:Nat),k≤N∧gk=N - k∧vi = .int .i64 k∧Hid (Bld (w.heap.size+1) ((Lib.itoa (M:Int)++59::keyVals vs)++keyLin (ls.take k)) wr)∧Hid ((keyLin (ls.take k)).length≤22*k)∧Hid (Ext w wr))
 all_goals first
  |(case atStart=>exact⟨0,by omega,rfl,rfl,by rw [List.take_zero];show Bld _ (_ ++ []) _;rw [List.append_nil];exact HB5.out,by rw [List.take_zero];exact Nat.zero_le _,HX5.out⟩)
  |skip
 all_goals
  obtain⟨k,hk,rfl,rfl,HB,HLen,HX⟩:=hrel
  by_cases hlt:k<N
  ·have hkl:k<ls.length:=by have:=HN.out;omega
   have hd:decide ((k:Int)<(N:Int))=true:=by simp;omega
   obtain⟨b,o,rfl⟩:=HP.out (by decide) (by omega)
   obtain⟨c0,r0⟩:=lin_cell HL.out k hkl
   replace c0:=HX.out.at c0
   have hst:=keyLin_take ls k hkl
   generalize ls[k]=y at c0 r0 hst
   have HST:=Lib.hid hst
   have l1:=itoa_len y r0.1 r0.2
   have q1 : ¬ 9223372036854775807<1+(Lib.itoa y).length:=by omega
   have HR:=Lib.hid (And.intro l1 r0)
   have e0:=cell_lt c0
   clear hst r0 l1
   go_wp2_with fail
   refine(itoa_any _ _ HR.out.2.1 HR.out.2.2 (HT.out.ext HX.out)).mono ?_
   rintro e w7 ⟨rfl,x7⟩
   have HB7:=HB.out.ext x7
   have HX7:=Lib.hid (HX.out.trans x7)
   clear x7
   go_wp2_with fail
   refine(writeLin _ _ _ _ HB7 (by have h1:=HR.out;have h2:=HK.out;have h3:=HLen.out;have h4:=HQ.out;simp only [List.length_append,List.length_cons];omega)).mono ?_
   rintro e w8 ⟨rfl,b8,x8⟩
   have HB8:=Lib.hid (show Bld (w.heap.size+1) ((Lib.itoa (M:Int)++59::keyVals vs)++keyLin (ls.take (k+1))) w8 from by rw [HST.out,←List.append_assoc];exact b8)
   have HL8:=Lib.hid (show (keyLin (ls.take (k+1))).length≤22*(k+1)from by rw [HST.out,List.length_append,List.length_cons];have h1:=HR.out.1;have h3:=HLen.out;omega)
   have HX8:=Lib.hid (show Ext w w8 from Below.trans HX7.out (x8.mono (Nat.le_succ _)))
   clear b8 x8 HB7
   go_wp2_with fail
   go_roundg (N - (k+1))
   case measure=>omega
   case rel=>exact⟨k+1,by omega,rfl,by go_num,HB8.out,HL8.out,HX8.out⟩
  ·have hkN:k=N:=by omega
   have hd : ¬(k:Int)<(N:Int):=by omega
   have HBF:=Lib.hid (show Bld (w.heap.size+1) (keyRow ⟨vs,ls⟩) wr from by
    have h:=HB.out
    rw [hkN,HN.out,List.take_length]at h
    unfold keyRow
    rw [HM.out,List.append_assoc,List.cons_append]at h
    exact h)
   clear hkN HLen
   go_wp2_with fail
   refine(Tryz.Builder_String_any _ _ (keyRow ⟨vs,ls⟩) _ HBF.out (Nat.le_of_lt HBF.out.lt)).mono ?_
   rintro e w9 ⟨rfl,x9⟩
   have X9:=Lib.hid (show Ext w w9 from Below.trans HX.out (x9.mono (Nat.le_succ _)))
   clear x9
   go_wp2_with fail
   go_ret
   exact⟨rfl,X9.out⟩
end Go.Proofs.YtombmdaohcjokaaGreatDoor
