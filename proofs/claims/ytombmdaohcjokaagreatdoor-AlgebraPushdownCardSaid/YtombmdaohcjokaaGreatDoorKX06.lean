/- joined texts of a proof: EvalB, EvalD, EvalH -/
import Derived.Test.YtombmdaohcjokaaGreatDoorKX05
import Derived.StillTailTactics
import Derived.BigQuiet
import Derived.Test.YtombmdaohcjokaaGreatDoorKX03
namespace Go.Proofs.YtombmdaohcjokaaGreatDoor
open Go.RowKit
theorem applyV_arith {x:ExprI} (h:x.op=3∨x.op=4∨x.op=5) (a b:Val) (row:List Val):applyV x a b row=arithV x.op a b:=by
 unfold applyV
 rw [if_neg (by omega),if_neg (by omega),if_pos (by omega)]
theorem wp_tail {P:Program} {id:Nat} {Q:Exit→Act→World→Prop} {a:Act} {w:World} {l:List Oper} (n:Nat) (hm:P.follows .mixedOrders=true) (hB:Region.lexTailB .any l.toArray n=true) (w2:World) (hw:w2=w.drew)
  (h:wpStill P l.toArray w2 (fun a'=>wpList P l.toArray Q (l.drop n) a' w2) (l.take n) a):(Code.region id l.toArray true).wp P Q a w:=by
 subst hw
 exact wp_region_still_tail n hm hB h
theorem still_of_quiet {P:Program} {w:World} {o:Oper} {a:Act} {K:Act→Prop} {v:Value} (h:o.quietAt P a (fun x=>x=w) w v) (hk:K (a.put o.dst v)):o.still P a w K:=by
 unfold Oper.still
 unfold Oper.quietAt at h
 generalize (execOp a.eval o).run P w=r at h ⊢
 cases r with
 |ok n w' =>
  cases n with
  |value x=>obtain⟨h1,rfl⟩:=h;exact⟨h1,hk⟩
  |skip=>obtain⟨h1,rfl⟩:=h;exact⟨h1,hk⟩
  |enter f args=>obtain⟨h1,h2⟩:=h;exact⟨h1,v,h2,hk⟩
  |_=>exact h.elim
 |_=>exact h.elim
theorem wpStill_of_quiet {P:Program} {ops:Array Oper} {w:World} {Q:Act→Prop} : ∀(l:List Oper) (a:Act),wpQuiet P ops (fun x=>x=w) Q l a→wpStill P ops w Q l a:=by
 intro l
 induction l with
 |nil=>exact fun a h=>h
 |cons o l ih =>
  intro a h
  unfold wpQuiet at h
  unfold wpStill
  split at h
  ·rename_i hw
   rw [if_pos hw]
   obtain⟨v,h1,h2⟩:=h
   exact still_of_quiet (h1 w rfl) (ih _ h2)
  ·rename_i hw
   rw [if_neg hw]
   exact ih _ h
theorem wp_tailQ {P:Program} {id:Nat} {Q:Exit→Act→World→Prop} {a:Act} {w:World} {l:List Oper} (n:Nat) (hm:P.follows .mixedOrders=true) (hB:Region.lexTailB .any l.toArray n=true) (w2:World) (hw:w2=w.drew)
  (h:wpQuiet P l.toArray (fun x=>x=w2) (fun a'=>wpList P l.toArray Q (l.drop n) a' w2) (l.take n) a):(Code.region id l.toArray true).wp P Q a w :=
 wp_tail n hm hB w2 hw (wpStill_of_quiet _ _ h)
set_option maxRecDepth 100000 in
set_option maxHeartbeats 4000000 in
theorem apply_arith3 (x:ExprI) (hop:x.op=3) (va:Value) (a b:Val) (vr:Value) (row:List Val) (w:World) (ha:SliceOf Rep.val w.cell? va [a,b]) :
  Calls Tryz.prog 179 #[.agg (exprEnc x).toArray,va,vr] w fun e w'=>e = .returned (valV (applyV x a b row))∧Ext w w':=by
 rw [applyV_arith (by omega)]
 have hok:=vals_ok ha
 have oka:=Lib.hid (hok a (by simp))
 have okb:=Lib.hid (hok b (by simp))
 obtain⟨p,cap,rfl,_,_,hp⟩:=ha.form
 obtain⟨bb,o,rfl⟩:=hp (by decide) (by simp)
 obtain⟨c0,c1,c2,_⟩:=val_cells ha 0 (by simp)
 obtain⟨c3,c4,c5,_⟩:=val_cells ha 1 (by simp)
 simp only [Nat.zero_mul,Nat.one_mul,Nat.add_zero,List.getElem_cons_zero,List.getElem_cons_succ]at c0 c1 c2 c3 c4 c5
 obtain⟨op,xa,xb,col,⟨ck,cn,cs⟩⟩:=x
 dsimp only at hop ⊢
 obtain⟨z,hz⟩ : ∃z,arithV op a b=z:=⟨_,rfl⟩
 have HZ:=Lib.hid hz
 subst hop
 rw [hz]
 obtain⟨ak,an,sa⟩:=a
 obtain⟨bk,bn,sb⟩:=b
 dsimp only at c0 c1 c2 c3 c4 c5
 have e0:=cell_lt c0
 unfold exprEnc
 dsimp only
 have hl:([⟨ak,an,sa⟩,⟨bk,bn,sb⟩]:List Val).length=2:=rfl
 rw [hl]
 clear hok ha hp hz hl
 go_enter Tryz.func179,Tryz.ntmps179
 go_wp2_with fail
 refine wp_tail 8 (by kernel_rfl) (by kernel_rfl) _ rfl ?_
 simp only [List.take_succ_cons,List.take_zero,List.drop_succ_cons,List.drop_zero]
 repeat still_step
 refine wpStill_nil ?_
 go_wp2_with fail
 refine(arithmetic_any 3 (by decide) _ _ oka.out okb.out _).mono ?_
 rintro e w1 ⟨rfl,x1⟩
 rw [HZ.out]
 have d0:w1.cell? ⟨w.heap.size+1,0,none⟩=some (.int .i64 0):=x1.at (by go_simp)
 have d1:w1.cell? ⟨w.heap.size+1,1,none⟩=some (.int .i64 0):=x1.at (by go_simp)
 have d2:w1.cell? ⟨w.heap.size+1,2,none⟩=some (.string ByteArray.empty):=x1.at (by go_simp;rfl)
 have f0:w1.frozen? ⟨w.heap.size+1,0,none⟩=false:=x1.unfrozen (p:=⟨w.heap.size+1,0,none⟩) (v:= .int .i64 0) (by go_simp) (by go_simp)
 have f1:w1.frozen? ⟨w.heap.size+1,1,none⟩=false:=x1.unfrozen (p:=⟨w.heap.size+1,1,none⟩) (v:= .int .i64 0) (by go_simp) (by go_simp)
 have f2:w1.frozen? ⟨w.heap.size+1,2,none⟩=false:=x1.unfrozen (p:=⟨w.heap.size+1,2,none⟩) (v:= .string ByteArray.empty) (by go_simp;rfl) (by go_simp)
 have X1:=Lib.hid ((((Ext.refl w).alloc _).alloc _).drew.trans x1)
 have e1:=cell_lt d0
 obtain⟨zk,zn,zs⟩:=z
 clear HZ x1 oka okb c0 c1 c2 c3 c4 c5 e0
 unfold valV
 dsimp only
 go_wp2_with fail
 exact bodyPost_ret (v:= .agg #[.int .i64 zk,.int .i64 zn,.string zs]) (by simp [results,Tryz.results179,go_sem,d0,d1,d2]) rfl ⟨rfl,Below.setCell (Below.setCell (Below.setCell X1.out (by simp) _) (by simp) _) (by simp) _⟩
set_option maxRecDepth 100000 in
set_option maxHeartbeats 4000000 in
theorem apply_arith4 (x:ExprI) (hop:x.op=4) (va:Value) (a b:Val) (vr:Value) (row:List Val) (w:World) (ha:SliceOf Rep.val w.cell? va [a,b]) :
  Calls Tryz.prog 179 #[.agg (exprEnc x).toArray,va,vr] w fun e w'=>e = .returned (valV (applyV x a b row))∧Ext w w':=by
 rw [applyV_arith (by omega)]
 have hok:=vals_ok ha
 have oka:=Lib.hid (hok a (by simp))
 have okb:=Lib.hid (hok b (by simp))
 obtain⟨p,cap,rfl,_,_,hp⟩:=ha.form
 obtain⟨bb,o,rfl⟩:=hp (by decide) (by simp)
 obtain⟨c0,c1,c2,_⟩:=val_cells ha 0 (by simp)
 obtain⟨c3,c4,c5,_⟩:=val_cells ha 1 (by simp)
 simp only [Nat.zero_mul,Nat.one_mul,Nat.add_zero,List.getElem_cons_zero,List.getElem_cons_succ]at c0 c1 c2 c3 c4 c5
 obtain⟨op,xa,xb,col,⟨ck,cn,cs⟩⟩:=x
 dsimp only at hop ⊢
 obtain⟨z,hz⟩ : ∃z,arithV op a b=z:=⟨_,rfl⟩
 have HZ:=Lib.hid hz
 subst hop
 rw [hz]
 obtain⟨ak,an,sa⟩:=a
 obtain⟨bk,bn,sb⟩:=b
 dsimp only at c0 c1 c2 c3 c4 c5
 have e0:=cell_lt c0
 unfold exprEnc
 dsimp only
 have hl:([⟨ak,an,sa⟩,⟨bk,bn,sb⟩]:List Val).length=2:=rfl
 rw [hl]
 clear hok ha hp hz hl
 go_enter Tryz.func179,Tryz.ntmps179
 go_wp2_with fail
 refine wp_tail 8 (by kernel_rfl) (by kernel_rfl) _ rfl ?_
 simp only [List.take_succ_cons,List.take_zero,List.drop_succ_cons,List.drop_zero]
 repeat still_step
 refine wpStill_nil ?_
 go_wp2_with fail
 refine(arithmetic_any 4 (by decide) _ _ oka.out okb.out _).mono ?_
 rintro e w1 ⟨rfl,x1⟩
 rw [HZ.out]
 have d0:w1.cell? ⟨w.heap.size+1,0,none⟩=some (.int .i64 0):=x1.at (by go_simp)
 have d1:w1.cell? ⟨w.heap.size+1,1,none⟩=some (.int .i64 0):=x1.at (by go_simp)
 have d2:w1.cell? ⟨w.heap.size+1,2,none⟩=some (.string ByteArray.empty):=x1.at (by go_simp;rfl)
 have f0:w1.frozen? ⟨w.heap.size+1,0,none⟩=false:=x1.unfrozen (p:=⟨w.heap.size+1,0,none⟩) (v:= .int .i64 0) (by go_simp) (by go_simp)
 have f1:w1.frozen? ⟨w.heap.size+1,1,none⟩=false:=x1.unfrozen (p:=⟨w.heap.size+1,1,none⟩) (v:= .int .i64 0) (by go_simp) (by go_simp)
 have f2:w1.frozen? ⟨w.heap.size+1,2,none⟩=false:=x1.unfrozen (p:=⟨w.heap.size+1,2,none⟩) (v:= .string ByteArray.empty) (by go_simp;rfl) (by go_simp)
 have X1:=Lib.hid ((((Ext.refl w).alloc _).alloc _).drew.trans x1)
 have e1:=cell_lt d0
 obtain⟨zk,zn,zs⟩:=z
 clear HZ x1 oka okb c0 c1 c2 c3 c4 c5 e0
 unfold valV
 dsimp only
 go_wp2_with fail
 exact bodyPost_ret (v:= .agg #[.int .i64 zk,.int .i64 zn,.string zs]) (by simp [results,Tryz.results179,go_sem,d0,d1,d2]) rfl ⟨rfl,Below.setCell (Below.setCell (Below.setCell X1.out (by simp) _) (by simp) _) (by simp) _⟩
set_option maxRecDepth 100000 in
set_option maxHeartbeats 4000000 in
theorem apply_arith5 (x:ExprI) (hop:x.op=5) (va:Value) (a b:Val) (vr:Value) (row:List Val) (w:World) (ha:SliceOf Rep.val w.cell? va [a,b]) :
  Calls Tryz.prog 179 #[.agg (exprEnc x).toArray,va,vr] w fun e w'=>e = .returned (valV (applyV x a b row))∧Ext w w':=by
 rw [applyV_arith (by omega)]
 have hok:=vals_ok ha
 have oka:=Lib.hid (hok a (by simp))
 have okb:=Lib.hid (hok b (by simp))
 obtain⟨p,cap,rfl,_,_,hp⟩:=ha.form
 obtain⟨bb,o,rfl⟩:=hp (by decide) (by simp)
 obtain⟨c0,c1,c2,_⟩:=val_cells ha 0 (by simp)
 obtain⟨c3,c4,c5,_⟩:=val_cells ha 1 (by simp)
 simp only [Nat.zero_mul,Nat.one_mul,Nat.add_zero,List.getElem_cons_zero,List.getElem_cons_succ]at c0 c1 c2 c3 c4 c5
 obtain⟨op,xa,xb,col,⟨ck,cn,cs⟩⟩:=x
 dsimp only at hop ⊢
 obtain⟨z,hz⟩ : ∃z,arithV op a b=z:=⟨_,rfl⟩
 have HZ:=Lib.hid hz
 subst hop
 rw [hz]
 obtain⟨ak,an,sa⟩:=a
 obtain⟨bk,bn,sb⟩:=b
 dsimp only at c0 c1 c2 c3 c4 c5
 have e0:=cell_lt c0
 unfold exprEnc
 dsimp only
 have hl:([⟨ak,an,sa⟩,⟨bk,bn,sb⟩]:List Val).length=2:=rfl
 rw [hl]
 clear hok ha hp hz hl
 go_enter Tryz.func179,Tryz.ntmps179
 go_wp2_with fail
 refine wp_tail 8 (by kernel_rfl) (by kernel_rfl) _ rfl ?_
 simp only [List.take_succ_cons,List.take_zero,List.drop_succ_cons,List.drop_zero]
 repeat still_step
 refine wpStill_nil ?_
 go_wp2_with fail
 refine(arithmetic_any 5 (by decide) _ _ oka.out okb.out _).mono ?_
 rintro e w1 ⟨rfl,x1⟩
 rw [HZ.out]
 have d0:w1.cell? ⟨w.heap.size+1,0,none⟩=some (.int .i64 0):=x1.at (by go_simp)
 have d1:w1.cell? ⟨w.heap.size+1,1,none⟩=some (.int .i64 0):=x1.at (by go_simp)
 have d2:w1.cell? ⟨w.heap.size+1,2,none⟩=some (.string ByteArray.empty):=x1.at (by go_simp;rfl)
 have f0:w1.frozen? ⟨w.heap.size+1,0,none⟩=false:=x1.unfrozen (p:=⟨w.heap.size+1,0,none⟩) (v:= .int .i64 0) (by go_simp) (by go_simp)
 have f1:w1.frozen? ⟨w.heap.size+1,1,none⟩=false:=x1.unfrozen (p:=⟨w.heap.size+1,1,none⟩) (v:= .int .i64 0) (by go_simp) (by go_simp)
 have f2:w1.frozen? ⟨w.heap.size+1,2,none⟩=false:=x1.unfrozen (p:=⟨w.heap.size+1,2,none⟩) (v:= .string ByteArray.empty) (by go_simp;rfl) (by go_simp)
 have X1:=Lib.hid ((((Ext.refl w).alloc _).alloc _).drew.trans x1)
 have e1:=cell_lt d0
 obtain⟨zk,zn,zs⟩:=z
 clear HZ x1 oka okb c0 c1 c2 c3 c4 c5 e0
 unfold valV
 dsimp only
 go_wp2_with fail
 exact bodyPost_ret (v:= .agg #[.int .i64 zk,.int .i64 zn,.string zs]) (by simp [results,Tryz.results179,go_sem,d0,d1,d2]) rfl ⟨rfl,Below.setCell (Below.setCell (Below.setCell X1.out (by simp) _) (by simp) _) (by simp) _⟩
theorem apply_arith (x:ExprI) (hop:x.op=3∨x.op=4∨x.op=5) (va:Value) (a b:Val) (vr:Value) (row:List Val) (w:World) (ha:SliceOf Rep.val w.cell? va [a,b]) :
  Calls Tryz.prog 179 #[.agg (exprEnc x).toArray,va,vr] w fun e w'=>e = .returned (valV (applyV x a b row))∧Ext w w':=by
 rcases hop with h | h | h
 ·exact apply_arith3 x h va a b vr row w ha
 ·exact apply_arith4 x h va a b vr row w ha
 ·exact apply_arith5 x h va a b vr row w ha
end Go.Proofs.YtombmdaohcjokaaGreatDoor
namespace Go.Proofs.YtombmdaohcjokaaGreatDoor
open Go.RowKit
set_option maxRecDepth 100000 in
set_option maxHeartbeats 4000000 in
theorem apply_eq (x:ExprI) (hop:x.op=6) (va:Value) (a b:Val) (vr:Value) (w:World) (ha:SliceOf Rep.val w.cell? va [a,b]) :
  Calls Tryz.prog 179 #[.agg (exprEnc x).toArray,va,vr] w fun e w'=>e = .returned (valV (boolV (eqV a b)))∧Ext w w':=by
 obtain⟨p,cap,rfl,_,_,hp⟩:=ha.form
 obtain⟨bb,o,rfl⟩:=hp (by decide) (by simp)
 obtain⟨c0,c1,c2,_⟩:=val_cells ha 0 (by simp)
 obtain⟨c3,c4,c5,_⟩:=val_cells ha 1 (by simp)
 simp only [Nat.zero_mul,Nat.one_mul,Nat.add_zero,List.getElem_cons_zero,List.getElem_cons_succ]at c0 c1 c2 c3 c4 c5
 obtain⟨op,xa,xb,col,⟨ck,cn,cs⟩⟩:=x
 dsimp only at hop
 subst hop
 have e0:=cell_lt c0
 unfold exprEnc
 dsimp only
 have hl : [a,b].length=2:=rfl
 rw [hl]
 clear hl ha hp
 by_cases h0:a.kind=0
 ·have hv:eqV a b=false:=by unfold eqV;rw [decide_eq_false (by simp [h0] : ¬a.kind≠0)];rfl
  rw [hv]
  obtain⟨ak,an,sa⟩:=a
  obtain⟨bk,bn,sb⟩:=b
  dsimp only at c0 c1 c2 c3 c4 c5 h0
  have t0:(ak != 0)=false:=by simp [h0]
  clear hv h0
  go_enter Tryz.func179,Tryz.ntmps179
  go_wp2_with fail
  refine wp_tailQ 19 (by kernel_rfl) (by kernel_rfl) _ rfl ?_
  simp only [List.take_succ_cons,List.take_zero,List.drop_succ_cons,List.drop_zero]
  repeat (go_big_quiet_step (fail))
  refine wpQuiet_nil ?_
  go_wp2_with fail
  refine(boolean_any false _).mono ?_
  rintro e w1 ⟨rfl,x1⟩
  have d0:w1.cell? ⟨w.heap.size+1,0,none⟩=some (.int .i64 0):=x1.at (by go_simp)
  have d1:w1.cell? ⟨w.heap.size+1,1,none⟩=some (.int .i64 0):=x1.at (by go_simp)
  have d2:w1.cell? ⟨w.heap.size+1,2,none⟩=some (.string ByteArray.empty):=x1.at (by go_simp;rfl)
  have f0:w1.frozen? ⟨w.heap.size+1,0,none⟩=false:=x1.unfrozen (p:=⟨w.heap.size+1,0,none⟩) (v:= .int .i64 0) (by go_simp) (by go_simp)
  have f1:w1.frozen? ⟨w.heap.size+1,1,none⟩=false:=x1.unfrozen (p:=⟨w.heap.size+1,1,none⟩) (v:= .int .i64 0) (by go_simp) (by go_simp)
  have f2:w1.frozen? ⟨w.heap.size+1,2,none⟩=false:=x1.unfrozen (p:=⟨w.heap.size+1,2,none⟩) (v:= .string ByteArray.empty) (by go_simp;rfl) (by go_simp)
  have X1:=Lib.hid ((((Ext.refl w).alloc _).alloc _).drew.trans x1)
  have e1:=cell_lt d0
  obtain⟨z,hz⟩ : ∃z,z=boolV false:=⟨_,rfl⟩
  have HZ:=Lib.hid hz
  rw [←hz]
  obtain⟨zk,zn,zs⟩:=z
  clear hz x1
  unfold valV
  dsimp only
  go_wp2_with fail
  exact bodyPost_ret (v:= .agg #[.int .i64 zk,.int .i64 zn,.string zs]) (by simp [results,Tryz.results179,go_sem,d0,d1,d2]) rfl ⟨congrArg (fun v=>Ending.returned (valV v)) (HZ.out),Below.setCell (Below.setCell (Below.setCell X1.out (by simp) _) (by simp) _) (by simp) _⟩
 ·by_cases h1:b.kind≠0
  ·have hv:eqV a b=decide (cmpVal a b=0):=by unfold eqV;rw [decide_eq_true h0,decide_eq_true h1];rfl
   rw [hv]
   obtain⟨q,hq⟩ : ∃q,q=cmpVal a b:=⟨_,rfl⟩
   have HQ:=Lib.hid hq
   rw [←hq]
   obtain⟨ak,an,sa⟩:=a
   obtain⟨bk,bn,sb⟩:=b
   dsimp only at c0 c1 c2 c3 c4 c5 h0 h1
   have t0:(ak != 0)=true:=by simp [h0]
   have t1:(bk != 0)=true:=by simp [h1]
   clear hv h0 h1 hq
   go_enter Tryz.func179,Tryz.ntmps179
   go_wp2_with fail
   refine wp_tailQ 19 (by kernel_rfl) (by kernel_rfl) _ rfl ?_
   simp only [List.take_succ_cons,List.take_zero,List.drop_succ_cons,List.drop_zero]
   repeat (go_big_quiet_step (fail))
   refine wpQuiet_nil ?_
   go_wp2_with fail
   refine(compare_val ⟨ak,an,sa⟩ ⟨bk,bn,sb⟩ _).mono ?_
   rintro e w2 ⟨rfl,g0⟩
   have x0:=g0.ext
   rw [←HQ.out]
   clear g0
   by_cases hz0:q=0
   ·have t2:(q==0)=true:=by simpa using hz0
    have T3:=Lib.hid (show decide (q=0)=true from decide_eq_true hz0)
    clear hz0
    go_wp2_with fail
    refine(boolean_any true _).mono ?_
    rintro e w1 ⟨rfl,x1⟩
    have d0:w1.cell? ⟨w.heap.size+1,0,none⟩=some (.int .i64 0):=x1.at (x0.at (by go_simp))
    have d1:w1.cell? ⟨w.heap.size+1,1,none⟩=some (.int .i64 0):=x1.at (x0.at (by go_simp))
    have d2:w1.cell? ⟨w.heap.size+1,2,none⟩=some (.string ByteArray.empty):=x1.at (x0.at (by go_simp;rfl))
    have f0:w1.frozen? ⟨w.heap.size+1,0,none⟩=false:=x1.unfrozen (p:=⟨w.heap.size+1,0,none⟩) (v:= .int .i64 0) (x0.at (by go_simp)) (x0.unfrozen (p:=⟨w.heap.size+1,0,none⟩) (v:= .int .i64 0) (by go_simp) (by go_simp))
    have f1:w1.frozen? ⟨w.heap.size+1,1,none⟩=false:=x1.unfrozen (p:=⟨w.heap.size+1,1,none⟩) (v:= .int .i64 0) (x0.at (by go_simp)) (x0.unfrozen (p:=⟨w.heap.size+1,1,none⟩) (v:= .int .i64 0) (by go_simp) (by go_simp))
    have f2:w1.frozen? ⟨w.heap.size+1,2,none⟩=false:=x1.unfrozen (p:=⟨w.heap.size+1,2,none⟩) (v:= .string ByteArray.empty) (x0.at (by go_simp;rfl)) (x0.unfrozen (p:=⟨w.heap.size+1,2,none⟩) (v:= .string ByteArray.empty) (by go_simp;rfl) (by go_simp))
    have X1:=Lib.hid (((((Ext.refl w).alloc _).alloc _).drew.trans x0).trans x1)
    have e1:=cell_lt d0
    obtain⟨z,hz⟩ : ∃z,z=boolV true:=⟨_,rfl⟩
    have HZ:=Lib.hid hz
    rw [←hz]
    obtain⟨zk,zn,zs⟩:=z
    clear hz x1
    unfold valV
    dsimp only
    go_wp2_with fail
    exact bodyPost_ret (v:= .agg #[.int .i64 zk,.int .i64 zn,.string zs]) (by simp [results,Tryz.results179,go_sem,d0,d1,d2]) rfl ⟨congrArg (fun v=>Ending.returned (valV v)) (HZ.out.trans (congrArg boolV T3.out.symm)),Below.setCell (Below.setCell (Below.setCell X1.out (by simp) _) (by simp) _) (by simp) _⟩
   ·have t2:(q==0)=false:=by simpa using hz0
    have T3:=Lib.hid (show decide (q=0)=false from decide_eq_false hz0)
    clear hz0
    go_wp2_with fail
    refine(boolean_any false _).mono ?_
    rintro e w1 ⟨rfl,x1⟩
    have d0:w1.cell? ⟨w.heap.size+1,0,none⟩=some (.int .i64 0):=x1.at (x0.at (by go_simp))
    have d1:w1.cell? ⟨w.heap.size+1,1,none⟩=some (.int .i64 0):=x1.at (x0.at (by go_simp))
    have d2:w1.cell? ⟨w.heap.size+1,2,none⟩=some (.string ByteArray.empty):=x1.at (x0.at (by go_simp;rfl))
    have f0:w1.frozen? ⟨w.heap.size+1,0,none⟩=false:=x1.unfrozen (p:=⟨w.heap.size+1,0,none⟩) (v:= .int .i64 0) (x0.at (by go_simp)) (x0.unfrozen (p:=⟨w.heap.size+1,0,none⟩) (v:= .int .i64 0) (by go_simp) (by go_simp))
    have f1:w1.frozen? ⟨w.heap.size+1,1,none⟩=false:=x1.unfrozen (p:=⟨w.heap.size+1,1,none⟩) (v:= .int .i64 0) (x0.at (by go_simp)) (x0.unfrozen (p:=⟨w.heap.size+1,1,none⟩) (v:= .int .i64 0) (by go_simp) (by go_simp))
    have f2:w1.frozen? ⟨w.heap.size+1,2,none⟩=false:=x1.unfrozen (p:=⟨w.heap.size+1,2,none⟩) (v:= .string ByteArray.empty) (x0.at (by go_simp;rfl)) (x0.unfrozen (p:=⟨w.heap.size+1,2,none⟩) (v:= .string ByteArray.empty) (by go_simp;rfl) (by go_simp))
    have X1:=Lib.hid (((((Ext.refl w).alloc _).alloc _).drew.trans x0).trans x1)
    have e1:=cell_lt d0
    obtain⟨z,hz⟩ : ∃z,z=boolV false:=⟨_,rfl⟩
    have HZ:=Lib.hid hz
    rw [←hz]
    obtain⟨zk,zn,zs⟩:=z
    clear hz x1
    unfold valV
    dsimp only
    go_wp2_with fail
    exact bodyPost_ret (v:= .agg #[.int .i64 zk,.int .i64 zn,.string zs]) (by simp [results,Tryz.results179,go_sem,d0,d1,d2]) rfl ⟨congrArg (fun v=>Ending.returned (valV v)) (HZ.out.trans (congrArg boolV T3.out.symm)),Below.setCell (Below.setCell (Below.setCell X1.out (by simp) _) (by simp) _) (by simp) _⟩
  ·have hv:eqV a b=false:=by unfold eqV;rw [decide_eq_true h0,decide_eq_false h1];rfl
   rw [hv]
   obtain⟨ak,an,sa⟩:=a
   obtain⟨bk,bn,sb⟩:=b
   dsimp only at c0 c1 c2 c3 c4 c5 h0 h1
   have t0:(ak != 0)=true:=by simp [h0]
   have t1:(bk != 0)=false:=by simpa using h1
   clear hv h0 h1
   go_enter Tryz.func179,Tryz.ntmps179
   go_wp2_with fail
   refine wp_tailQ 19 (by kernel_rfl) (by kernel_rfl) _ rfl ?_
   simp only [List.take_succ_cons,List.take_zero,List.drop_succ_cons,List.drop_zero]
   repeat (go_big_quiet_step (fail))
   refine wpQuiet_nil ?_
   go_wp2_with fail
   refine(boolean_any false _).mono ?_
   rintro e w1 ⟨rfl,x1⟩
   have d0:w1.cell? ⟨w.heap.size+1,0,none⟩=some (.int .i64 0):=x1.at (by go_simp)
   have d1:w1.cell? ⟨w.heap.size+1,1,none⟩=some (.int .i64 0):=x1.at (by go_simp)
   have d2:w1.cell? ⟨w.heap.size+1,2,none⟩=some (.string ByteArray.empty):=x1.at (by go_simp;rfl)
   have f0:w1.frozen? ⟨w.heap.size+1,0,none⟩=false:=x1.unfrozen (p:=⟨w.heap.size+1,0,none⟩) (v:= .int .i64 0) (by go_simp) (by go_simp)
   have f1:w1.frozen? ⟨w.heap.size+1,1,none⟩=false:=x1.unfrozen (p:=⟨w.heap.size+1,1,none⟩) (v:= .int .i64 0) (by go_simp) (by go_simp)
   have f2:w1.frozen? ⟨w.heap.size+1,2,none⟩=false:=x1.unfrozen (p:=⟨w.heap.size+1,2,none⟩) (v:= .string ByteArray.empty) (by go_simp;rfl) (by go_simp)
   have X1:=Lib.hid ((((Ext.refl w).alloc _).alloc _).drew.trans x1)
   have e1:=cell_lt d0
   obtain⟨z,hz⟩ : ∃z,z=boolV false:=⟨_,rfl⟩
   have HZ:=Lib.hid hz
   rw [←hz]
   obtain⟨zk,zn,zs⟩:=z
   clear hz x1
   unfold valV
   dsimp only
   go_wp2_with fail
   exact bodyPost_ret (v:= .agg #[.int .i64 zk,.int .i64 zn,.string zs]) (by simp [results,Tryz.results179,go_sem,d0,d1,d2]) rfl ⟨congrArg (fun v=>Ending.returned (valV v)) (HZ.out),Below.setCell (Below.setCell (Below.setCell X1.out (by simp) _) (by simp) _) (by simp) _⟩
set_option maxRecDepth 100000 in
set_option maxHeartbeats 4000000 in
theorem apply_less (x:ExprI) (hop:x.op=7) (va:Value) (a b:Val) (vr:Value) (w:World) (ha:SliceOf Rep.val w.cell? va [a,b]) :
  Calls Tryz.prog 179 #[.agg (exprEnc x).toArray,va,vr] w fun e w'=>e = .returned (valV (boolV (lessV a b)))∧Ext w w':=by
 obtain⟨p,cap,rfl,_,_,hp⟩:=ha.form
 obtain⟨bb,o,rfl⟩:=hp (by decide) (by simp)
 obtain⟨c0,c1,c2,_⟩:=val_cells ha 0 (by simp)
 obtain⟨c3,c4,c5,_⟩:=val_cells ha 1 (by simp)
 simp only [Nat.zero_mul,Nat.one_mul,Nat.add_zero,List.getElem_cons_zero,List.getElem_cons_succ]at c0 c1 c2 c3 c4 c5
 obtain⟨op,xa,xb,col,⟨ck,cn,cs⟩⟩:=x
 dsimp only at hop
 subst hop
 have e0:=cell_lt c0
 unfold exprEnc
 dsimp only
 have hl : [a,b].length=2:=rfl
 rw [hl]
 clear hl ha hp
 by_cases h0:a.kind=0
 ·have hv:lessV a b=false:=by unfold lessV;rw [decide_eq_false (by simp [h0] : ¬a.kind≠0)];rfl
  rw [hv]
  obtain⟨ak,an,sa⟩:=a
  obtain⟨bk,bn,sb⟩:=b
  dsimp only at c0 c1 c2 c3 c4 c5 h0
  have t0:(ak != 0)=false:=by simp [h0]
  clear hv h0
  go_enter Tryz.func179,Tryz.ntmps179
  go_wp2_with fail
  refine wp_tailQ 23 (by kernel_rfl) (by kernel_rfl) _ rfl ?_
  simp only [List.take_succ_cons,List.take_zero,List.drop_succ_cons,List.drop_zero]
  repeat (go_big_quiet_step (fail))
  refine wpQuiet_nil ?_
  go_wp2_with fail
  refine(boolean_any false _).mono ?_
  rintro e w1 ⟨rfl,x1⟩
  have d0:w1.cell? ⟨w.heap.size+1,0,none⟩=some (.int .i64 0):=x1.at (by go_simp)
  have d1:w1.cell? ⟨w.heap.size+1,1,none⟩=some (.int .i64 0):=x1.at (by go_simp)
  have d2:w1.cell? ⟨w.heap.size+1,2,none⟩=some (.string ByteArray.empty):=x1.at (by go_simp;rfl)
  have f0:w1.frozen? ⟨w.heap.size+1,0,none⟩=false:=x1.unfrozen (p:=⟨w.heap.size+1,0,none⟩) (v:= .int .i64 0) (by go_simp) (by go_simp)
  have f1:w1.frozen? ⟨w.heap.size+1,1,none⟩=false:=x1.unfrozen (p:=⟨w.heap.size+1,1,none⟩) (v:= .int .i64 0) (by go_simp) (by go_simp)
  have f2:w1.frozen? ⟨w.heap.size+1,2,none⟩=false:=x1.unfrozen (p:=⟨w.heap.size+1,2,none⟩) (v:= .string ByteArray.empty) (by go_simp;rfl) (by go_simp)
  have X1:=Lib.hid ((((Ext.refl w).alloc _).alloc _).drew.trans x1)
  have e1:=cell_lt d0
  obtain⟨z,hz⟩ : ∃z,z=boolV false:=⟨_,rfl⟩
  have HZ:=Lib.hid hz
  rw [←hz]
  obtain⟨zk,zn,zs⟩:=z
  clear hz x1
  unfold valV
  dsimp only
  go_wp2_with fail
  exact bodyPost_ret (v:= .agg #[.int .i64 zk,.int .i64 zn,.string zs]) (by simp [results,Tryz.results179,go_sem,d0,d1,d2]) rfl ⟨congrArg (fun v=>Ending.returned (valV v)) (HZ.out),Below.setCell (Below.setCell (Below.setCell X1.out (by simp) _) (by simp) _) (by simp) _⟩
 ·by_cases h1:a.kind=b.kind
  ·have hv:lessV a b=decide (cmpVal a b<0):=by unfold lessV;rw [decide_eq_true h0,decide_eq_true h1];rfl
   rw [hv]
   obtain⟨q,hq⟩ : ∃q,q=cmpVal a b:=⟨_,rfl⟩
   have HQ:=Lib.hid hq
   rw [←hq]
   obtain⟨ak,an,sa⟩:=a
   obtain⟨bk,bn,sb⟩:=b
   dsimp only at c0 c1 c2 c3 c4 c5 h0 h1
   have t0:(ak != 0)=true:=by simp [h0]
   have t1:(ak==bk)=true:=by simp [h1]
   clear hv h0 h1 hq
   go_enter Tryz.func179,Tryz.ntmps179
   go_wp2_with fail
   refine wp_tailQ 23 (by kernel_rfl) (by kernel_rfl) _ rfl ?_
   simp only [List.take_succ_cons,List.take_zero,List.drop_succ_cons,List.drop_zero]
   repeat (go_big_quiet_step (fail))
   refine wpQuiet_nil ?_
   go_wp2_with fail
   refine(compare_val ⟨ak,an,sa⟩ ⟨bk,bn,sb⟩ _).mono ?_
   rintro e w2 ⟨rfl,g0⟩
   have x0:=g0.ext
   rw [←HQ.out]
   clear g0
   by_cases hz0:q<0
   ·have t2:decide (q<0)=true:=by simpa using hz0
    have T3:=Lib.hid (show decide (q<0)=true from decide_eq_true hz0)
    clear hz0
    go_wp2_with fail
    refine(boolean_any true _).mono ?_
    rintro e w1 ⟨rfl,x1⟩
    have d0:w1.cell? ⟨w.heap.size+1,0,none⟩=some (.int .i64 0):=x1.at (x0.at (by go_simp))
    have d1:w1.cell? ⟨w.heap.size+1,1,none⟩=some (.int .i64 0):=x1.at (x0.at (by go_simp))
    have d2:w1.cell? ⟨w.heap.size+1,2,none⟩=some (.string ByteArray.empty):=x1.at (x0.at (by go_simp;rfl))
    have f0:w1.frozen? ⟨w.heap.size+1,0,none⟩=false:=x1.unfrozen (p:=⟨w.heap.size+1,0,none⟩) (v:= .int .i64 0) (x0.at (by go_simp)) (x0.unfrozen (p:=⟨w.heap.size+1,0,none⟩) (v:= .int .i64 0) (by go_simp) (by go_simp))
    have f1:w1.frozen? ⟨w.heap.size+1,1,none⟩=false:=x1.unfrozen (p:=⟨w.heap.size+1,1,none⟩) (v:= .int .i64 0) (x0.at (by go_simp)) (x0.unfrozen (p:=⟨w.heap.size+1,1,none⟩) (v:= .int .i64 0) (by go_simp) (by go_simp))
    have f2:w1.frozen? ⟨w.heap.size+1,2,none⟩=false:=x1.unfrozen (p:=⟨w.heap.size+1,2,none⟩) (v:= .string ByteArray.empty) (x0.at (by go_simp;rfl)) (x0.unfrozen (p:=⟨w.heap.size+1,2,none⟩) (v:= .string ByteArray.empty) (by go_simp;rfl) (by go_simp))
    have X1:=Lib.hid (((((Ext.refl w).alloc _).alloc _).drew.trans x0).trans x1)
    have e1:=cell_lt d0
    obtain⟨z,hz⟩ : ∃z,z=boolV true:=⟨_,rfl⟩
    have HZ:=Lib.hid hz
    rw [←hz]
    obtain⟨zk,zn,zs⟩:=z
    clear hz x1
    unfold valV
    dsimp only
    go_wp2_with fail
    exact bodyPost_ret (v:= .agg #[.int .i64 zk,.int .i64 zn,.string zs]) (by simp [results,Tryz.results179,go_sem,d0,d1,d2]) rfl ⟨congrArg (fun v=>Ending.returned (valV v)) (HZ.out.trans (congrArg boolV T3.out.symm)),Below.setCell (Below.setCell (Below.setCell X1.out (by simp) _) (by simp) _) (by simp) _⟩
   ·have t2:decide (q<0)=false:=by simpa using hz0
    have T3:=Lib.hid (show decide (q<0)=false from decide_eq_false hz0)
    clear hz0
    go_wp2_with fail
    refine(boolean_any false _).mono ?_
    rintro e w1 ⟨rfl,x1⟩
    have d0:w1.cell? ⟨w.heap.size+1,0,none⟩=some (.int .i64 0):=x1.at (x0.at (by go_simp))
    have d1:w1.cell? ⟨w.heap.size+1,1,none⟩=some (.int .i64 0):=x1.at (x0.at (by go_simp))
    have d2:w1.cell? ⟨w.heap.size+1,2,none⟩=some (.string ByteArray.empty):=x1.at (x0.at (by go_simp;rfl))
    have f0:w1.frozen? ⟨w.heap.size+1,0,none⟩=false:=x1.unfrozen (p:=⟨w.heap.size+1,0,none⟩) (v:= .int .i64 0) (x0.at (by go_simp)) (x0.unfrozen (p:=⟨w.heap.size+1,0,none⟩) (v:= .int .i64 0) (by go_simp) (by go_simp))
    have f1:w1.frozen? ⟨w.heap.size+1,1,none⟩=false:=x1.unfrozen (p:=⟨w.heap.size+1,1,none⟩) (v:= .int .i64 0) (x0.at (by go_simp)) (x0.unfrozen (p:=⟨w.heap.size+1,1,none⟩) (v:= .int .i64 0) (by go_simp) (by go_simp))
    have f2:w1.frozen? ⟨w.heap.size+1,2,none⟩=false:=x1.unfrozen (p:=⟨w.heap.size+1,2,none⟩) (v:= .string ByteArray.empty) (x0.at (by go_simp;rfl)) (x0.unfrozen (p:=⟨w.heap.size+1,2,none⟩) (v:= .string ByteArray.empty) (by go_simp;rfl) (by go_simp))
    have X1:=Lib.hid (((((Ext.refl w).alloc _).alloc _).drew.trans x0).trans x1)
    have e1:=cell_lt d0
    obtain⟨z,hz⟩ : ∃z,z=boolV false:=⟨_,rfl⟩
    have HZ:=Lib.hid hz
    rw [←hz]
    obtain⟨zk,zn,zs⟩:=z
    clear hz x1
    unfold valV
    dsimp only
    go_wp2_with fail
    exact bodyPost_ret (v:= .agg #[.int .i64 zk,.int .i64 zn,.string zs]) (by simp [results,Tryz.results179,go_sem,d0,d1,d2]) rfl ⟨congrArg (fun v=>Ending.returned (valV v)) (HZ.out.trans (congrArg boolV T3.out.symm)),Below.setCell (Below.setCell (Below.setCell X1.out (by simp) _) (by simp) _) (by simp) _⟩
  ·have hv:lessV a b=false:=by unfold lessV;rw [decide_eq_true h0,decide_eq_false h1];rfl
   rw [hv]
   obtain⟨ak,an,sa⟩:=a
   obtain⟨bk,bn,sb⟩:=b
   dsimp only at c0 c1 c2 c3 c4 c5 h0 h1
   have t0:(ak != 0)=true:=by simp [h0]
   have t1:(ak==bk)=false:=by simp [h1]
   clear hv h0 h1
   go_enter Tryz.func179,Tryz.ntmps179
   go_wp2_with fail
   refine wp_tailQ 23 (by kernel_rfl) (by kernel_rfl) _ rfl ?_
   simp only [List.take_succ_cons,List.take_zero,List.drop_succ_cons,List.drop_zero]
   repeat (go_big_quiet_step (fail))
   refine wpQuiet_nil ?_
   go_wp2_with fail
   refine(boolean_any false _).mono ?_
   rintro e w1 ⟨rfl,x1⟩
   have d0:w1.cell? ⟨w.heap.size+1,0,none⟩=some (.int .i64 0):=x1.at (by go_simp)
   have d1:w1.cell? ⟨w.heap.size+1,1,none⟩=some (.int .i64 0):=x1.at (by go_simp)
   have d2:w1.cell? ⟨w.heap.size+1,2,none⟩=some (.string ByteArray.empty):=x1.at (by go_simp;rfl)
   have f0:w1.frozen? ⟨w.heap.size+1,0,none⟩=false:=x1.unfrozen (p:=⟨w.heap.size+1,0,none⟩) (v:= .int .i64 0) (by go_simp) (by go_simp)
   have f1:w1.frozen? ⟨w.heap.size+1,1,none⟩=false:=x1.unfrozen (p:=⟨w.heap.size+1,1,none⟩) (v:= .int .i64 0) (by go_simp) (by go_simp)
   have f2:w1.frozen? ⟨w.heap.size+1,2,none⟩=false:=x1.unfrozen (p:=⟨w.heap.size+1,2,none⟩) (v:= .string ByteArray.empty) (by go_simp;rfl) (by go_simp)
   have X1:=Lib.hid ((((Ext.refl w).alloc _).alloc _).drew.trans x1)
   have e1:=cell_lt d0
   obtain⟨z,hz⟩ : ∃z,z=boolV false:=⟨_,rfl⟩
   have HZ:=Lib.hid hz
   rw [←hz]
   obtain⟨zk,zn,zs⟩:=z
   clear hz x1
   unfold valV
   dsimp only
   go_wp2_with fail
   exact bodyPost_ret (v:= .agg #[.int .i64 zk,.int .i64 zn,.string zs]) (by simp [results,Tryz.results179,go_sem,d0,d1,d2]) rfl ⟨congrArg (fun v=>Ending.returned (valV v)) (HZ.out),Below.setCell (Below.setCell (Below.setCell X1.out (by simp) _) (by simp) _) (by simp) _⟩
set_option maxRecDepth 100000 in
set_option maxHeartbeats 4000000 in
theorem apply_and (x:ExprI) (hop:x.op=8) (va:Value) (a b:Val) (vr:Value) (w:World) (ha:SliceOf Rep.val w.cell? va [a,b]) :
  Calls Tryz.prog 179 #[.agg (exprEnc x).toArray,va,vr] w fun e w'=>e = .returned (valV (boolV (trueV a&&trueV b)))∧Ext w w':=by
 obtain⟨p,cap,rfl,_,_,hp⟩:=ha.form
 obtain⟨bb,o,rfl⟩:=hp (by decide) (by simp)
 obtain⟨c0,c1,c2,_⟩:=val_cells ha 0 (by simp)
 obtain⟨c3,c4,c5,_⟩:=val_cells ha 1 (by simp)
 simp only [Nat.zero_mul,Nat.one_mul,Nat.add_zero,List.getElem_cons_zero,List.getElem_cons_succ]at c0 c1 c2 c3 c4 c5
 obtain⟨op,xa,xb,col,⟨ck,cn,cs⟩⟩:=x
 dsimp only at hop
 subst hop
 have e0:=cell_lt c0
 unfold exprEnc
 dsimp only
 have hl : [a,b].length=2:=rfl
 rw [hl]
 clear hl ha hp
 cases ta:trueV a
 ·rw [show (false&&trueV b)=false from rfl]
  have TA:=Lib.hid ta
  clear ta
  go_enter Tryz.func179,Tryz.ntmps179
  go_wp2_with fail
  refine(isTrue_any a _).mono ?_
  rintro e w2 ⟨rfl,x0⟩
  rw [TA.out]
  go_wp2_with fail
  refine(boolean_any false _).mono ?_
  rintro e w1 ⟨rfl,x1⟩
  have d0:w1.cell? ⟨w.heap.size+1,0,none⟩=some (.int .i64 0):=x1.at (x0.at (by go_simp))
  have d1:w1.cell? ⟨w.heap.size+1,1,none⟩=some (.int .i64 0):=x1.at (x0.at (by go_simp))
  have d2:w1.cell? ⟨w.heap.size+1,2,none⟩=some (.string ByteArray.empty):=x1.at (x0.at (by go_simp;rfl))
  have f0:w1.frozen? ⟨w.heap.size+1,0,none⟩=false:=x1.unfrozen (p:=⟨w.heap.size+1,0,none⟩) (v:= .int .i64 0) (x0.at (by go_simp)) (x0.unfrozen (p:=⟨w.heap.size+1,0,none⟩) (v:= .int .i64 0) (by go_simp) (by go_simp))
  have f1:w1.frozen? ⟨w.heap.size+1,1,none⟩=false:=x1.unfrozen (p:=⟨w.heap.size+1,1,none⟩) (v:= .int .i64 0) (x0.at (by go_simp)) (x0.unfrozen (p:=⟨w.heap.size+1,1,none⟩) (v:= .int .i64 0) (by go_simp) (by go_simp))
  have f2:w1.frozen? ⟨w.heap.size+1,2,none⟩=false:=x1.unfrozen (p:=⟨w.heap.size+1,2,none⟩) (v:= .string ByteArray.empty) (x0.at (by go_simp;rfl)) (x0.unfrozen (p:=⟨w.heap.size+1,2,none⟩) (v:= .string ByteArray.empty) (by go_simp;rfl) (by go_simp))
  have X1:=Lib.hid (((((Ext.refl w).alloc _).alloc _).trans x0).trans x1)
  have e1:=cell_lt d0
  obtain⟨z,hz⟩ : ∃z,z=boolV false:=⟨_,rfl⟩
  have HZ:=Lib.hid hz
  rw [←hz]
  obtain⟨zk,zn,zs⟩:=z
  clear hz x1
  unfold valV
  dsimp only
  go_wp2_with fail
  exact bodyPost_ret (v:= .agg #[.int .i64 zk,.int .i64 zn,.string zs]) (by simp [results,Tryz.results179,go_sem,d0,d1,d2]) rfl ⟨congrArg (fun v=>Ending.returned (valV v)) (HZ.out),Below.setCell (Below.setCell (Below.setCell X1.out (by simp) _) (by simp) _) (by simp) _⟩
 ·rw [show (true&&trueV b)=trueV b from rfl]
  have TA:=Lib.hid ta
  clear ta
  obtain⟨tb,htb⟩ : ∃t,t=trueV b:=⟨_,rfl⟩
  have HTB:=Lib.hid htb
  rw [←htb]
  clear htb
  go_enter Tryz.func179,Tryz.ntmps179
  go_wp2_with fail
  refine(isTrue_any a _).mono ?_
  rintro e w3 ⟨rfl,x3⟩
  rw [TA.out]
  replace c3:=x3.at ((((Ext.refl w).alloc _).alloc _).at c3)
  replace c4:=x3.at ((((Ext.refl w).alloc _).alloc _).at c4)
  replace c5:=x3.at ((((Ext.refl w).alloc _).alloc _).at c5)
  have e3:=cell_lt c3
  go_wp2_with fail
  refine(isTrue_any b _).mono ?_
  rintro e w2 ⟨rfl,x2⟩
  have x0:=x3.trans x2
  rw [←HTB.out]
  clear x3 x2
  go_wp2_with fail
  refine(boolean_any tb _).mono ?_
  rintro e w1 ⟨rfl,x1⟩
  have d0:w1.cell? ⟨w.heap.size+1,0,none⟩=some (.int .i64 0):=x1.at (x0.at (by go_simp))
  have d1:w1.cell? ⟨w.heap.size+1,1,none⟩=some (.int .i64 0):=x1.at (x0.at (by go_simp))
  have d2:w1.cell? ⟨w.heap.size+1,2,none⟩=some (.string ByteArray.empty):=x1.at (x0.at (by go_simp;rfl))
  have f0:w1.frozen? ⟨w.heap.size+1,0,none⟩=false:=x1.unfrozen (p:=⟨w.heap.size+1,0,none⟩) (v:= .int .i64 0) (x0.at (by go_simp)) (x0.unfrozen (p:=⟨w.heap.size+1,0,none⟩) (v:= .int .i64 0) (by go_simp) (by go_simp))
  have f1:w1.frozen? ⟨w.heap.size+1,1,none⟩=false:=x1.unfrozen (p:=⟨w.heap.size+1,1,none⟩) (v:= .int .i64 0) (x0.at (by go_simp)) (x0.unfrozen (p:=⟨w.heap.size+1,1,none⟩) (v:= .int .i64 0) (by go_simp) (by go_simp))
  have f2:w1.frozen? ⟨w.heap.size+1,2,none⟩=false:=x1.unfrozen (p:=⟨w.heap.size+1,2,none⟩) (v:= .string ByteArray.empty) (x0.at (by go_simp;rfl)) (x0.unfrozen (p:=⟨w.heap.size+1,2,none⟩) (v:= .string ByteArray.empty) (by go_simp;rfl) (by go_simp))
  have X1:=Lib.hid (((((Ext.refl w).alloc _).alloc _).trans x0).trans x1)
  have e1:=cell_lt d0
  obtain⟨z,hz⟩ : ∃z,z=boolV tb:=⟨_,rfl⟩
  have HZ:=Lib.hid hz
  rw [←hz]
  obtain⟨zk,zn,zs⟩:=z
  clear hz x1
  unfold valV
  dsimp only
  go_wp2_with fail
  exact bodyPost_ret (v:= .agg #[.int .i64 zk,.int .i64 zn,.string zs]) (by simp [results,Tryz.results179,go_sem,d0,d1,d2]) rfl ⟨congrArg (fun v=>Ending.returned (valV v)) (HZ.out),Below.setCell (Below.setCell (Below.setCell X1.out (by simp) _) (by simp) _) (by simp) _⟩
set_option maxRecDepth 100000 in
set_option maxHeartbeats 4000000 in
theorem apply_or (x:ExprI) (hop:x.op=9) (va:Value) (a b:Val) (vr:Value) (w:World) (ha:SliceOf Rep.val w.cell? va [a,b]) :
  Calls Tryz.prog 179 #[.agg (exprEnc x).toArray,va,vr] w fun e w'=>e = .returned (valV (boolV (trueV a||trueV b)))∧Ext w w':=by
 obtain⟨p,cap,rfl,_,_,hp⟩:=ha.form
 obtain⟨bb,o,rfl⟩:=hp (by decide) (by simp)
 obtain⟨c0,c1,c2,_⟩:=val_cells ha 0 (by simp)
 obtain⟨c3,c4,c5,_⟩:=val_cells ha 1 (by simp)
 simp only [Nat.zero_mul,Nat.one_mul,Nat.add_zero,List.getElem_cons_zero,List.getElem_cons_succ]at c0 c1 c2 c3 c4 c5
 obtain⟨op,xa,xb,col,⟨ck,cn,cs⟩⟩:=x
 dsimp only at hop
 subst hop
 have e0:=cell_lt c0
 unfold exprEnc
 dsimp only
 have hl : [a,b].length=2:=rfl
 rw [hl]
 clear hl ha hp
 cases ta:trueV a
 ·rw [show (false||trueV b)=trueV b from Bool.false_or _]
  have TA:=Lib.hid ta
  clear ta
  obtain⟨tb,htb⟩ : ∃t,t=trueV b:=⟨_,rfl⟩
  have HTB:=Lib.hid htb
  rw [←htb]
  clear htb
  go_enter Tryz.func179,Tryz.ntmps179
  go_wp2_with fail
  refine(isTrue_any a _).mono ?_
  rintro e w3 ⟨rfl,x3⟩
  rw [TA.out]
  replace c3:=x3.at ((((Ext.refl w).alloc _).alloc _).at c3)
  replace c4:=x3.at ((((Ext.refl w).alloc _).alloc _).at c4)
  replace c5:=x3.at ((((Ext.refl w).alloc _).alloc _).at c5)
  have e3:=cell_lt c3
  go_wp2_with fail
  refine(isTrue_any b _).mono ?_
  rintro e w2 ⟨rfl,x2⟩
  have x0:=x3.trans x2
  rw [←HTB.out]
  clear x3 x2
  go_wp2_with fail
  refine(boolean_any tb _).mono ?_
  rintro e w1 ⟨rfl,x1⟩
  have d0:w1.cell? ⟨w.heap.size+1,0,none⟩=some (.int .i64 0):=x1.at (x0.at (by go_simp))
  have d1:w1.cell? ⟨w.heap.size+1,1,none⟩=some (.int .i64 0):=x1.at (x0.at (by go_simp))
  have d2:w1.cell? ⟨w.heap.size+1,2,none⟩=some (.string ByteArray.empty):=x1.at (x0.at (by go_simp;rfl))
  have f0:w1.frozen? ⟨w.heap.size+1,0,none⟩=false:=x1.unfrozen (p:=⟨w.heap.size+1,0,none⟩) (v:= .int .i64 0) (x0.at (by go_simp)) (x0.unfrozen (p:=⟨w.heap.size+1,0,none⟩) (v:= .int .i64 0) (by go_simp) (by go_simp))
  have f1:w1.frozen? ⟨w.heap.size+1,1,none⟩=false:=x1.unfrozen (p:=⟨w.heap.size+1,1,none⟩) (v:= .int .i64 0) (x0.at (by go_simp)) (x0.unfrozen (p:=⟨w.heap.size+1,1,none⟩) (v:= .int .i64 0) (by go_simp) (by go_simp))
  have f2:w1.frozen? ⟨w.heap.size+1,2,none⟩=false:=x1.unfrozen (p:=⟨w.heap.size+1,2,none⟩) (v:= .string ByteArray.empty) (x0.at (by go_simp;rfl)) (x0.unfrozen (p:=⟨w.heap.size+1,2,none⟩) (v:= .string ByteArray.empty) (by go_simp;rfl) (by go_simp))
  have X1:=Lib.hid (((((Ext.refl w).alloc _).alloc _).trans x0).trans x1)
  have e1:=cell_lt d0
  obtain⟨z,hz⟩ : ∃z,z=boolV tb:=⟨_,rfl⟩
  have HZ:=Lib.hid hz
  rw [←hz]
  obtain⟨zk,zn,zs⟩:=z
  clear hz x1
  unfold valV
  dsimp only
  go_wp2_with fail
  exact bodyPost_ret (v:= .agg #[.int .i64 zk,.int .i64 zn,.string zs]) (by simp [results,Tryz.results179,go_sem,d0,d1,d2]) rfl ⟨congrArg (fun v=>Ending.returned (valV v)) (HZ.out),Below.setCell (Below.setCell (Below.setCell X1.out (by simp) _) (by simp) _) (by simp) _⟩
 ·rw [show (true||trueV b)=true from rfl]
  have TA:=Lib.hid ta
  clear ta
  go_enter Tryz.func179,Tryz.ntmps179
  go_wp2_with fail
  refine(isTrue_any a _).mono ?_
  rintro e w2 ⟨rfl,x0⟩
  rw [TA.out]
  go_wp2_with fail
  refine(boolean_any true _).mono ?_
  rintro e w1 ⟨rfl,x1⟩
  have d0:w1.cell? ⟨w.heap.size+1,0,none⟩=some (.int .i64 0):=x1.at (x0.at (by go_simp))
  have d1:w1.cell? ⟨w.heap.size+1,1,none⟩=some (.int .i64 0):=x1.at (x0.at (by go_simp))
  have d2:w1.cell? ⟨w.heap.size+1,2,none⟩=some (.string ByteArray.empty):=x1.at (x0.at (by go_simp;rfl))
  have f0:w1.frozen? ⟨w.heap.size+1,0,none⟩=false:=x1.unfrozen (p:=⟨w.heap.size+1,0,none⟩) (v:= .int .i64 0) (x0.at (by go_simp)) (x0.unfrozen (p:=⟨w.heap.size+1,0,none⟩) (v:= .int .i64 0) (by go_simp) (by go_simp))
  have f1:w1.frozen? ⟨w.heap.size+1,1,none⟩=false:=x1.unfrozen (p:=⟨w.heap.size+1,1,none⟩) (v:= .int .i64 0) (x0.at (by go_simp)) (x0.unfrozen (p:=⟨w.heap.size+1,1,none⟩) (v:= .int .i64 0) (by go_simp) (by go_simp))
  have f2:w1.frozen? ⟨w.heap.size+1,2,none⟩=false:=x1.unfrozen (p:=⟨w.heap.size+1,2,none⟩) (v:= .string ByteArray.empty) (x0.at (by go_simp;rfl)) (x0.unfrozen (p:=⟨w.heap.size+1,2,none⟩) (v:= .string ByteArray.empty) (by go_simp;rfl) (by go_simp))
  have X1:=Lib.hid (((((Ext.refl w).alloc _).alloc _).trans x0).trans x1)
  have e1:=cell_lt d0
  obtain⟨z,hz⟩ : ∃z,z=boolV true:=⟨_,rfl⟩
  have HZ:=Lib.hid hz
  rw [←hz]
  obtain⟨zk,zn,zs⟩:=z
  clear hz x1
  unfold valV
  dsimp only
  go_wp2_with fail
  exact bodyPost_ret (v:= .agg #[.int .i64 zk,.int .i64 zn,.string zs]) (by simp [results,Tryz.results179,go_sem,d0,d1,d2]) rfl ⟨congrArg (fun v=>Ending.returned (valV v)) (HZ.out),Below.setCell (Below.setCell (Below.setCell X1.out (by simp) _) (by simp) _) (by simp) _⟩
set_option maxRecDepth 100000 in
set_option maxHeartbeats 4000000 in
theorem apply_not (x:ExprI) (hop:x.op=10) (va:Value) (a:Val) (vr:Value) (w:World) (ha:SliceOf Rep.val w.cell? va [a]) :
  Calls Tryz.prog 179 #[.agg (exprEnc x).toArray,va,vr] w fun e w'=>e = .returned (valV (boolV (!trueV a)))∧Ext w w':=by
 obtain⟨p,cap,rfl,_,_,hp⟩:=ha.form
 obtain⟨bb,o,rfl⟩:=hp (by decide) (by simp)
 obtain⟨c0,c1,c2,_⟩:=val_cells ha 0 (by simp)
 simp only [Nat.zero_mul,Nat.add_zero,List.getElem_cons_zero]at c0 c1 c2
 obtain⟨op,xa,xb,col,⟨ck,cn,cs⟩⟩:=x
 dsimp only at hop
 subst hop
 have e0:=cell_lt c0
 unfold exprEnc
 dsimp only
 have hl : [a].length=1:=rfl
 rw [hl]
 clear hl ha hp
 obtain⟨ta,hta⟩ : ∃t,t=trueV a:=⟨_,rfl⟩
 have HTA:=Lib.hid hta
 rw [←hta]
 clear hta
 go_enter Tryz.func179,Tryz.ntmps179
 go_wp2_with fail
 refine(isTrue_any a _).mono ?_
 rintro e w2 ⟨rfl,x0⟩
 rw [←HTA.out]
 go_wp2_with fail
 refine(boolean_any (!ta) _).mono ?_
 rintro e w1 ⟨rfl,x1⟩
 have d0:w1.cell? ⟨w.heap.size+1,0,none⟩=some (.int .i64 0):=x1.at (x0.at (by go_simp))
 have d1:w1.cell? ⟨w.heap.size+1,1,none⟩=some (.int .i64 0):=x1.at (x0.at (by go_simp))
 have d2:w1.cell? ⟨w.heap.size+1,2,none⟩=some (.string ByteArray.empty):=x1.at (x0.at (by go_simp;rfl))
 have f0:w1.frozen? ⟨w.heap.size+1,0,none⟩=false:=x1.unfrozen (p:=⟨w.heap.size+1,0,none⟩) (v:= .int .i64 0) (x0.at (by go_simp)) (x0.unfrozen (p:=⟨w.heap.size+1,0,none⟩) (v:= .int .i64 0) (by go_simp) (by go_simp))
 have f1:w1.frozen? ⟨w.heap.size+1,1,none⟩=false:=x1.unfrozen (p:=⟨w.heap.size+1,1,none⟩) (v:= .int .i64 0) (x0.at (by go_simp)) (x0.unfrozen (p:=⟨w.heap.size+1,1,none⟩) (v:= .int .i64 0) (by go_simp) (by go_simp))
 have f2:w1.frozen? ⟨w.heap.size+1,2,none⟩=false:=x1.unfrozen (p:=⟨w.heap.size+1,2,none⟩) (v:= .string ByteArray.empty) (x0.at (by go_simp;rfl)) (x0.unfrozen (p:=⟨w.heap.size+1,2,none⟩) (v:= .string ByteArray.empty) (by go_simp;rfl) (by go_simp))
 have X1:=Lib.hid (((((Ext.refl w).alloc _).alloc _).trans x0).trans x1)
 have e1:=cell_lt d0
 obtain⟨z,hz⟩ : ∃z,z=boolV (!ta):=⟨_,rfl⟩
 have HZ:=Lib.hid hz
 rw [←hz]
 obtain⟨zk,zn,zs⟩:=z
 clear hz x1
 unfold valV
 dsimp only
 go_wp2_with fail
 exact bodyPost_ret (v:= .agg #[.int .i64 zk,.int .i64 zn,.string zs]) (by simp [results,Tryz.results179,go_sem,d0,d1,d2]) rfl ⟨congrArg (fun v=>Ending.returned (valV v)) (HZ.out),Below.setCell (Below.setCell (Below.setCell X1.out (by simp) _) (by simp) _) (by simp) _⟩
set_option maxRecDepth 100000 in
set_option maxHeartbeats 4000000 in
theorem apply_isnull (x:ExprI) (hop:x.op=11) (va:Value) (a:Val) (vr:Value) (w:World) (ha:SliceOf Rep.val w.cell? va [a]) :
  Calls Tryz.prog 179 #[.agg (exprEnc x).toArray,va,vr] w fun e w'=>e = .returned (valV (boolV (decide (a.kind=0))))∧Ext w w':=by
 obtain⟨p,cap,rfl,_,_,hp⟩:=ha.form
 obtain⟨bb,o,rfl⟩:=hp (by decide) (by simp)
 obtain⟨c0,c1,c2,_⟩:=val_cells ha 0 (by simp)
 simp only [Nat.zero_mul,Nat.add_zero,List.getElem_cons_zero]at c0 c1 c2
 obtain⟨op,xa,xb,col,⟨ck,cn,cs⟩⟩:=x
 dsimp only at hop
 subst hop
 have e0:=cell_lt c0
 unfold exprEnc
 dsimp only
 have hl : [a].length=1:=rfl
 rw [hl]
 clear hl ha hp
 obtain⟨ta,hta⟩ : ∃t,(a.kind==0)=t:=⟨_,rfl⟩
 have e9:decide (a.kind=0)=ta:=by rw [←hta,Bool.eq_iff_iff];simp
 rw [e9]
 obtain⟨ak,an,sa⟩:=a
 dsimp only at c0 c1 c2 hta
 clear e9
 go_enter Tryz.func179,Tryz.ntmps179
 go_wp2_with fail
 refine(boolean_any ta _).mono ?_
 rintro e w1 ⟨rfl,x1⟩
 have d0:w1.cell? ⟨w.heap.size+1,0,none⟩=some (.int .i64 0):=x1.at (by go_simp)
 have d1:w1.cell? ⟨w.heap.size+1,1,none⟩=some (.int .i64 0):=x1.at (by go_simp)
 have d2:w1.cell? ⟨w.heap.size+1,2,none⟩=some (.string ByteArray.empty):=x1.at (by go_simp;rfl)
 have f0:w1.frozen? ⟨w.heap.size+1,0,none⟩=false:=x1.unfrozen (p:=⟨w.heap.size+1,0,none⟩) (v:= .int .i64 0) (by go_simp) (by go_simp)
 have f1:w1.frozen? ⟨w.heap.size+1,1,none⟩=false:=x1.unfrozen (p:=⟨w.heap.size+1,1,none⟩) (v:= .int .i64 0) (by go_simp) (by go_simp)
 have f2:w1.frozen? ⟨w.heap.size+1,2,none⟩=false:=x1.unfrozen (p:=⟨w.heap.size+1,2,none⟩) (v:= .string ByteArray.empty) (by go_simp;rfl) (by go_simp)
 have X1:=Lib.hid ((((Ext.refl w).alloc _).alloc _).trans x1)
 have e1:=cell_lt d0
 obtain⟨z,hz⟩ : ∃z,z=boolV ta:=⟨_,rfl⟩
 have HZ:=Lib.hid hz
 rw [←hz]
 obtain⟨zk,zn,zs⟩:=z
 clear hz x1
 unfold valV
 dsimp only
 go_wp2_with fail
 exact bodyPost_ret (v:= .agg #[.int .i64 zk,.int .i64 zn,.string zs]) (by simp [results,Tryz.results179,go_sem,d0,d1,d2]) rfl ⟨congrArg (fun v=>Ending.returned (valV v)) (HZ.out),Below.setCell (Below.setCell (Below.setCell X1.out (by simp) _) (by simp) _) (by simp) _⟩
set_option maxRecDepth 100000 in
set_option maxHeartbeats 4000000 in
theorem apply_const (x:ExprI) (hop:x.op=1) (pa:Option Addr) (na ka:Nat) (vr:Value) (w:World) :
  Calls Tryz.prog 179 #[.agg (exprEnc x).toArray,.slice pa na ka,vr] w fun e w'=>e = .returned (valV x.c)∧Ext w w':=by
 obtain⟨op,xa,xb,col,⟨ck,cn,cs⟩⟩:=x
 dsimp only at hop
 subst hop
 unfold exprEnc
 dsimp only
 go_enter Tryz.func179,Tryz.ntmps179
 go_wp2_with fail
 exact bodyPost_ret (v:=valV ⟨ck,cn,cs⟩) (by simp [results,Tryz.results179,go_sem,valV]) rfl ⟨rfl,((Ext.refl w).alloc _).alloc _⟩
set_option maxRecDepth 100000 in
set_option maxHeartbeats 4000000 in
theorem apply_none (x:ExprI) (hop : ¬(1≤x.op∧x.op≤11)) (pa:Option Addr) (na ka:Nat) (vr:Value) (w:World) :
  Calls Tryz.prog 179 #[.agg (exprEnc x).toArray,.slice pa na ka,vr] w fun e w'=>e = .returned (valV nV)∧Ext w w':=by
 obtain⟨op,xa,xb,col,⟨ck,cn,cs⟩⟩:=x
 dsimp only at hop
 have b1:(op==1)=false:=by simp;omega
 have b2:(op==2)=false:=by simp;omega
 have b3:(op==3)=false:=by simp;omega
 have b4:(op==4)=false:=by simp;omega
 have b5:(op==5)=false:=by simp;omega
 have b6:(op==6)=false:=by simp;omega
 have b7:(op==7)=false:=by simp;omega
 have b8:(op==8)=false:=by simp;omega
 have b9:(op==9)=false:=by simp;omega
 have b10:(op==10)=false:=by simp;omega
 have b11:(op==11)=false:=by simp;omega
 unfold exprEnc
 dsimp only
 clear hop
 go_enter Tryz.func179,Tryz.ntmps179
 go_wp2_with fail
 exact bodyPost_ret (v:=valV nV) (by simp [results,Tryz.results179,go_sem,valV,nV];rfl) rfl ⟨rfl,((Ext.refl w).alloc _).alloc _⟩
end Go.Proofs.YtombmdaohcjokaaGreatDoor
namespace Go.Proofs.YtombmdaohcjokaaGreatDoor
open Go.RowKit
theorem two_of {α:Type} {l:List α} (h:l.length=2) : ∃a b,l = [a,b]:=by
 match l,h with
 |[a,b],_=>exact⟨a,b,rfl⟩
theorem one_of {α:Type} {l:List α} (h:l.length=1) : ∃a,l = [a]:=by
 match l,h with
 |[a],_=>exact⟨a,rfl⟩
theorem apply_any (x:ExprI) (va:Value) (as_:List Val) (hl:as_.length=(arityE x.op).toNat) (vr:Value) (row:List Val) (w:World) (ha:SliceOf Rep.val w.cell? va as_) (hr:SliceOf Rep.val w.cell? vr row) :
  Calls Tryz.prog 179 #[.agg (exprEnc x).toArray,va,vr] w fun e w'=>e = .returned (valV (applyV x (as_.getD 0 nV) (as_.getD 1 nV) row))∧Ext w w':=by
 obtain⟨pa,ka,hva,_⟩:=ha.form
 by_cases h:1≤x.op∧x.op≤11
 ·have h2:x.op=1∨x.op=2∨(x.op=3∨x.op=4∨x.op=5)∨x.op=6∨x.op=7∨x.op=8∨x.op=9∨x.op=10∨x.op=11:=by omega
  rcases h2 with h2 | h2 | h2 | h2 | h2 | h2 | h2 | h2 | h2
  ·subst hva
   have e:applyV x (as_.getD 0 nV) (as_.getD 1 nV) row=x.c:=by unfold applyV;rw [if_pos h2]
   rw [e]
   exact apply_const x h2 _ _ _ vr w
  ·subst hva
   have e:applyV x (as_.getD 0 nV) (as_.getD 1 nV) row=colAt row x.col:=by unfold applyV;rw [if_neg (by omega),if_pos h2]
   rw [e]
   exact apply_col x h2 _ _ _ vr row w hr
  ·have ha2:arityE x.op=2:=by unfold arityE;rw [if_neg (by omega),if_neg (by omega),if_pos (by omega)]
   obtain⟨a,b,rfl⟩:=two_of (hl.trans (by rw [ha2];rfl))
   exact apply_arith x h2 va a b vr row w ha
  ·obtain⟨a,b,rfl⟩:=two_of (hl.trans (by rw [h2];rfl))
   have e:applyV x ([a,b].getD 0 nV) ([a,b].getD 1 nV) row=boolV (eqV a b):=by unfold applyV;rw [h2];rfl
   rw [e]
   exact apply_eq x h2 va a b vr w ha
  ·obtain⟨a,b,rfl⟩:=two_of (hl.trans (by rw [h2];rfl))
   have e:applyV x ([a,b].getD 0 nV) ([a,b].getD 1 nV) row=boolV (lessV a b):=by unfold applyV;rw [h2];rfl
   rw [e]
   exact apply_less x h2 va a b vr w ha
  ·obtain⟨a,b,rfl⟩:=two_of (hl.trans (by rw [h2];rfl))
   have e:applyV x ([a,b].getD 0 nV) ([a,b].getD 1 nV) row=boolV (trueV a&&trueV b):=by unfold applyV;rw [h2];rfl
   rw [e]
   exact apply_and x h2 va a b vr w ha
  ·obtain⟨a,b,rfl⟩:=two_of (hl.trans (by rw [h2];rfl))
   have e:applyV x ([a,b].getD 0 nV) ([a,b].getD 1 nV) row=boolV (trueV a||trueV b):=by unfold applyV;rw [h2];rfl
   rw [e]
   exact apply_or x h2 va a b vr w ha
  ·obtain⟨a,rfl⟩:=one_of (hl.trans (by rw [h2];rfl))
   have e:applyV x ([a].getD 0 nV) ([a].getD 1 nV) row=boolV (!trueV a):=by unfold applyV;rw [h2];rfl
   rw [e]
   exact apply_not x h2 va a vr w ha
  ·obtain⟨a,rfl⟩:=one_of (hl.trans (by rw [h2];rfl))
   have e:applyV x ([a].getD 0 nV) ([a].getD 1 nV) row=boolV (decide (a.kind=0)):=by unfold applyV;rw [h2];rfl
   rw [e]
   exact apply_isnull x h2 va a vr w ha
 ·subst hva
  have e:applyV x (as_.getD 0 nV) (as_.getD 1 nV) row=nV:=by
   unfold applyV
   rw [if_neg (by omega),if_neg (by omega),if_neg (by omega),if_neg (by omega),if_neg (by omega),if_neg (by omega),if_neg (by omega),if_neg (by omega),if_neg (by omega)]
  rw [e]
  exact apply_none x h _ _ _ vr w
theorem arity_is {op n:Int} (h:arityE op=n) (w:World):Calls Tryz.prog 223 #[.int .i64 op] w fun e w'=>e = .returned (.int .i64 n)∧Ext w w' :=
 (arity_any op w).mono fun e w' ⟨h1,h2⟩=>by subst h2;rw [h1,h];exact⟨rfl,Ext.refl w⟩
theorem ops_lit (W:World) (a b:Int) (T:TypeId) (ha:okI a) (hb:okI b) (k:Nat) (hk:k≤2):SliceOf Rep.int (W.alloc (.cells #[.int .i64 a,.int .i64 b] T)).cell? (.slice (some ⟨W.heap.size,0,none⟩) k 2) ([a,b].take k) :=
 SliceOf.takeV (slice_lit Rep.int W [.int .i64 a,.int .i64 b] T [[.int .i64 a],[.int .i64 b]] [a,b] rfl ⟨⟨rfl,ha⟩,⟨rfl,hb⟩,trivial⟩ (by simp [maxLen])) k hk
theorem slice_as {α:Type} {R:Rep α} {h:View} {v:Value} {L M:List α} (e:L=M) (k:SliceOf R h v M):SliceOf R h v L:=by rw [e];exact k
set_option maxRecDepth 100000 in
set_option maxHeartbeats 4000000 in
theorem operands_any (x:ExprI) (ha:okI x.a) (hb:okI x.b) (w:World) :
  Calls Tryz.prog 177 #[.agg (exprEnc x).toArray] w fun e w'=> ∃v,e = .returned v∧SliceOf Rep.int w'.cell? v (opsE x)∧Ext w w':=by
 have hops : ∀k:Nat,(arityE x.op).toNat=k→opsE x = [x.a,x.b].take k:=fun k hk=>by unfold opsE;rw [hk]
 have HO:=Lib.hid hops
 obtain⟨op,a,b,col,⟨ck,cn,cs⟩⟩:=x
 dsimp only at ha hb HO
 obtain⟨L,hL⟩ : ∃L,L=opsE ⟨op,a,b,col,⟨ck,cn,cs⟩⟩:=⟨_,rfl⟩
 rw [←hL]at HO ⊢
 have HA:=Lib.hid ha
 have HB:=Lib.hid hb
 unfold exprEnc
 dsimp only
 have h4:=arityE_le op
 have h5:arityE op = -1∨arityE op=0∨arityE op=1∨arityE op=2:=by omega
 clear hops hL ha hb h4
 rcases h5 with h | h | h | h
 all_goals
  have AR:=Lib.hid h
  have HL:=Lib.hid (HO.out _ (congrArg Int.toNat h))
  clear h HO
  have m1:max (-1:Int) 0=0:=rfl
  have m2:max (0:Int) 0=0:=rfl
  have m3:max (1:Int) 0=1:=rfl
  have m4:max (2:Int) 0=2:=rfl
  go_enter Tryz.func177,Tryz.ntmps177
  go_wp2_with fail
  have k0:(w.alloc (.cells #[.int .i64 op,.int .i64 a,.int .i64 b,.int .i64 col,.int .i64 ck,.int .i64 cn,.string cs] 66)).cell? ⟨w.heap.size,0,none⟩=some (.int .i64 op):=by go_simp
  have k1:(w.alloc (.cells #[.int .i64 op,.int .i64 a,.int .i64 b,.int .i64 col,.int .i64 ck,.int .i64 cn,.string cs] 66)).cell? ⟨w.heap.size,1,none⟩=some (.int .i64 a):=by go_simp
  have k2:(w.alloc (.cells #[.int .i64 op,.int .i64 a,.int .i64 b,.int .i64 col,.int .i64 ck,.int .i64 cn,.string cs] 66)).cell? ⟨w.heap.size,2,none⟩=some (.int .i64 b):=by go_simp
  have x0:Ext w (w.alloc (.cells #[.int .i64 op,.int .i64 a,.int .i64 b,.int .i64 col,.int .i64 ck,.int .i64 cn,.string cs] 66)):=(Ext.refl w).alloc _
  generalize w.alloc (.cells #[.int .i64 op,.int .i64 a,.int .i64 b,.int .i64 col,.int .i64 ck,.int .i64 cn,.string cs] 66)=W at k0 k1 k2 x0 ⊢
  have hS0:Ext w W.drew∧W.drew.cell? ⟨w.heap.size,0,none⟩=some (.int .i64 op)∧W.drew.cell? ⟨w.heap.size,1,none⟩=some (.int .i64 a)∧W.drew.cell? ⟨w.heap.size,2,none⟩=some (.int .i64 b):=⟨x0.drew,k0,k1,k2⟩
  clear k0 k1 k2
  go_region_held3 (fun w'=>Ext w w'∧w'.cell? ⟨w.heap.size,0,none⟩=some (.int .i64 op)∧w'.cell? ⟨w.heap.size,1,none⟩=some (.int .i64 a)∧w'.cell? ⟨w.heap.size,2,none⟩=some (.int .i64 b))
   (first |with_reducible assumption | with_reducible exact keepE3 (by assumption) hx2 | with_reducible exact keepE3 (by assumption) ((Ext.refl _).alloc _))
   (first |(go_at_call 223;refine(arity_is AR.out _).mono ?_;rintro e w2 ⟨rfl,hx2⟩))
  all_goals (obtain⟨hfin,_⟩:= ‹Ext w _∧_›)
  all_goals go_wp2_with fail
  all_goals go_ret
  all_goals first
   |exact⟨_,rfl,slice_as HL.out (ops_lit w2 a b _ HA.out HB.out _ (by decide)),hfin⟩
   |exact⟨_,rfl,(slice_as HL.out (ops_lit W a b _ HA.out HB.out _ (by decide))).ext hx2.full,hfin⟩
end Go.Proofs.YtombmdaohcjokaaGreatDoor
