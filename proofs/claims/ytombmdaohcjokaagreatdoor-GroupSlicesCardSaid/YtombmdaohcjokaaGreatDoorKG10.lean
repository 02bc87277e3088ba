/- joined texts of a proof: EvalD, EvalH, EvalE, PlainV -/
import Derived.Test.YtombmdaohcjokaaGreatDoorKG09
import Derived.Test.YtombmdaohcjokaaGreatDoorKG03
namespace Go.Proofs.YtombmdaohcjokaaGreatDoor
open Go.RowKit
set_option maxRecDepth 100000 in
set_option maxHeartbeats 4000000 in
theorem apply_eq (x:ExprI) (hop:x.op=6) (va:Value) (a b:Val) (vr:Value) (w:World) (ha:SliceOf Rep.val w.cell? va [a,b]) :
  Calls Tryz.prog 179 #[.agg (exprEnc x).toArray,va,vr] w fun e w'=>e = .returned (valV (boolV (eqV a b)))∧Ext w w':=by
 obtain⟨p,cap,rfl,_,_,hp⟩:=ha.form
 obtain⟨bb,o,rfl⟩:=hp (by decide) (by simp)
 obtain⟨c0,c1,c2,_⟩:=val_cells ha 0 (by simp)
 obtain⟨c3,c4,c5,_⟩:=val_cells ha 1 (by simp)
 simp only [Nat.zero_mul,Nat.one_mul,Nat.add_zero,List.getElem_cons_zero,List.getElem_cons_succ]at c0 c1 c2 c3 c4 c5
 obtain⟨op,xa,xb,col,⟨ck,cn,cs⟩⟩:=x
 dsimp only at hop
 subst hop
 have e0:=cell_lt c0
 unfold exprEnc
 dsimp only
 have hl : [a,b].length=2:=rfl
 rw [hl]
 clear hl ha hp
 by_cases h0:a.kind=0
 ·have hv:eqV a b=false:=by unfold eqV;rw [decide_eq_false (by simp [h0] : ¬a.kind≠0)];rfl
  rw [hv]
  obtain⟨ak,an,sa⟩:=a
  obtain⟨bk,bn,sb⟩:=b
  dsimp only at c0 c1 c2 c3 c4 c5 h0
  have t0:(ak != 0)=false:=by simp [h0]
  clear hv h0
  go_enter Tryz.func179,Tryz.ntmps179
  go_wp2_with fail
  refine wp_tailQ 19 (by kernel_rfl) (by kernel_rfl) _ rfl ?_
  simp only [List.take_succ_cons,List.take_zero,List.drop_succ_cons,List.drop_zero]
  repeat (go_big_quiet_step (fail))
  refine wpQuiet_nil ?_
  go_wp2_with fail
  refine(boolean_any false _).mono ?_
  rintro e w1 ⟨rfl,x1⟩
  have d0:w1.cell? ⟨w.heap.size+1,0,none⟩=some (.int .i64 0):=x1.at (by go_simp)
  have d1:w1.cell? ⟨w.heap.size+1,1,none⟩=some (.int .i64 0):=x1.at (by go_simp)
  have d2:w1.cell? ⟨w.heap.size+1,2,none⟩=some (.string ByteArray.empty):=x1.at (by go_simp;rfl)
  have f0:w1.frozen? ⟨w.heap.size+1,0,none⟩=false:=x1.unfrozen (p:=⟨w.heap.size+1,0,none⟩) (v:= .int .i64 0) (by go_simp) (by go_simp)
  have f1:w1.frozen? ⟨w.heap.size+1,1,none⟩=false:=x1.unfrozen (p:=⟨w.heap.size+1,1,none⟩) (v:= .int .i64 0) (by go_simp) (by go_simp)
  have f2:w1.frozen? ⟨w.heap.size+1,2,none⟩=false:=x1.unfrozen (p:=⟨w.heap.size+1,2,none⟩) (v:= .string ByteArray.empty) (by go_simp;rfl) (by go_simp)
  have X1:=Lib.hid ((((Ext.refl w).alloc _).alloc _).drew.trans x1)
  have e1:=cell_lt d0
  obtain⟨z,hz⟩ : ∃z,z=boolV false:=⟨_,rfl⟩
  have HZ:=Lib.hid hz
  rw [←hz]
  obtain⟨zk,zn,zs⟩:=z
  clear hz x1
  unfold valV
  dsimp only
  go_wp2_with fail
  exact bodyPost_ret (v:= .agg #[.int .i64 zk,.int .i64 zn,.string zs]) (by simp [results,Tryz.results179,go_sem,d0,d1,d2]) rfl ⟨congrArg (fun v=>Ending.returned (valV v)) (HZ.out),Below.setCell (Below.setCell (Below.setCell X1.out (by simp) _) (by simp) _) (by simp) _⟩
 ·by_cases h1:b.kind≠0
  ·have hv:eqV a b=decide (cmpVal a b=0):=by unfold eqV;rw [decide_eq_true h0,decide_eq_true h1];rfl
   rw [hv]
   obtain⟨q,hq⟩ : ∃q,q=cmpVal a b:=⟨_,rfl⟩
   have HQ:=Lib.hid hq
   rw [←hq]
   obtain⟨ak,an,sa⟩:=a
   obtain⟨bk,bn,sb⟩:=b
   dsimp only at c0 c1 c2 c3 c4 c5 h0 h1
   have t0:(ak != 0)=true:=by simp [h0]
   have t1:(bk != 0)=true:=by simp [h1]
   clear hv h0 h1 hq
   go_enter Tryz.func179,Tryz.ntmps179
   go_wp2_with fail
   refine wp_tailQ 19 (by kernel_rfl) (by kernel_rfl) _ rfl ?_
   simp only [List.take_succ_cons,List.take_zero,List.drop_succ_cons,List.drop_zero]
   repeat (go_big_quiet_step (fail))
   refine wpQuiet_nil ?_
   go_wp2_with fail
   refine(compare_val ⟨ak,an,sa⟩ ⟨bk,bn,sb⟩ _).mono ?_
   rintro e w2 ⟨rfl,g0⟩
   have x0:=g0.ext
   rw [←HQ.out]
   clear g0
   by_cases hz0:q=0
   ·have t2:(q==0)=true:=by simpa using hz0
    have T3:=Lib.hid (show decide (q=0)=true from decide_eq_true hz0)
    clear hz0
    go_wp2_with fail
    refine(boolean_any true _).mono ?_
    rintro e w1 ⟨rfl,x1⟩
    have d0:w1.cell? ⟨w.heap.size+1,0,none⟩=some (.int .i64 0):=x1.at (x0.at (by go_simp))
    have d1:w1.cell? ⟨w.heap.size+1,1,none⟩=some (.int .i64 0):=x1.at (x0.at (by go_simp))
    have d2:w1.cell? ⟨w.heap.size+1,2,none⟩=some (.string ByteArray.empty):=x1.at (x0.at (by go_simp;rfl))
    have f0:w1.frozen? ⟨w.heap.size+1,0,none⟩=false:=x1.unfrozen (p:=⟨w.heap.size+1,0,none⟩) (v:= .int .i64 0) (x0.at (by go_simp)) (x0.unfrozen (p:=⟨w.heap.size+1,0,none⟩) (v:= .int .i64 0) (by go_simp) (by go_simp))
    have f1:w1.frozen? ⟨w.heap.size+1,1,none⟩=false:=x1.unfrozen (p:=⟨w.heap.size+1,1,none⟩) (v:= .int .i64 0) (x0.at (by go_simp)) (x0.unfrozen (p:=⟨w.heap.size+1,1,none⟩) (v:= .int .i64 0) (by go_simp) (by go_simp))
    have f2:w1.frozen? ⟨w.heap.size+1,2,none⟩=false:=x1.unfrozen (p:=⟨w.heap.size+1,2,none⟩) (v:= .string ByteArray.empty) (x0.at (by go_simp;rfl)) (x0.unfrozen (p:=⟨w.heap.size+1,2,none⟩) (v:= .string ByteArray.empty) (by go_simp;rfl) (by go_simp))
    have X1:=Lib.hid (((((Ext.refl w).alloc _).alloc _).drew.trans x0).trans x1)
    have e1:=cell_lt d0
    obtain⟨z,hz⟩ : ∃z,z=boolV true:=⟨_,rfl⟩
    have HZ:=Lib.hid hz
    rw [←hz]
    obtain⟨zk,zn,zs⟩:=z
    clear hz x1
    unfold valV
    dsimp only
    go_wp2_with fail
    exact bodyPost_ret (v:= .agg #[.int .i64 zk,.int .i64 zn,.string zs]) (by simp [results,Tryz.results179,go_sem,d0,d1,d2]) rfl ⟨congrArg (fun v=>Ending.returned (valV v)) (HZ.out.trans (congrArg boolV T3.out.symm)),Below.setCell (Below.setCell (Below.setCell X1.out (by simp) _) (by simp) _) (by simp) _⟩
   ·have t2:(q==0)=false:=by simpa using hz0
    have T3:=Lib.hid (show decide (q=0)=false from decide_eq_false hz0)
    clear hz0
    go_wp2_with fail
    refine(boolean_any false _).mono ?_
    rintro e w1 ⟨rfl,x1⟩
    have d0:w1.cell? ⟨w.heap.size+1,0,none⟩=some (.int .i64 0):=x1.at (x0.at (by go_simp))
    have d1:w1.cell? ⟨w.heap.size+1,1,none⟩=some (.int .i64 0):=x1.at (x0.at (by go_simp))
    have d2:w1.cell? ⟨w.heap.size+1,2,none⟩=some (.string ByteArray.empty):=x1.at (x0.at (by go_simp;rfl))
    have f0:w1.frozen? ⟨w.heap.size+1,0,none⟩=false:=x1.unfrozen (p:=⟨w.heap.size+1,0,none⟩) (v:= .int .i64 0) (x0.at (by go_simp)) (x0.unfrozen (p:=⟨w.heap.size+1,0,none⟩) (v:= .int .i64 0) (by go_simp) (by go_simp))
    have f1:w1.frozen? ⟨w.heap.size+1,1,none⟩=false:=x1.unfrozen (p:=⟨w.heap.size+1,1,none⟩) (v:= .int .i64 0) (x0.at (by go_simp)) (x0.unfrozen (p:=⟨w.heap.size+1,1,none⟩) (v:= .int .i64 0) (by go_simp) (by go_simp))
    have f2:w1.frozen? ⟨w.heap.size+1,2,none⟩=false:=x1.unfrozen (p:=⟨w.heap.size+1,2,none⟩) (v:= .string ByteArray.empty) (x0.at (by go_simp;rfl)) (x0.unfrozen (p:=⟨w.heap.size+1,2,none⟩) (v:= .string ByteArray.empty) (by go_simp;rfl) (by go_simp))
    have X1:=Lib.hid (((((Ext.refl w).alloc _).alloc _).drew.trans x0).trans x1)
    have e1:=cell_lt d0
    obtain⟨z,hz⟩ : ∃z,z=boolV false:=⟨_,rfl⟩
    have HZ:=Lib.hid hz
    rw [←hz]
    obtain⟨zk,zn,zs⟩:=z
    clear hz x1
    unfold valV
    dsimp only
    go_wp2_with fail
    exact bodyPost_ret (v:= .agg #[.int .i64 zk,.int .i64 zn,.string zs]) (by simp [results,Tryz.results179,go_sem,d0,d1,d2]) rfl ⟨congrArg (fun v=>Ending.returned (valV v)) (HZ.out.trans (congrArg boolV T3.out.symm)),Below.setCell (Below.setCell (Below.setCell X1.out (by simp) _) (by simp) _) (by simp) _⟩
  ·have hv:eqV a b=false:=by unfold eqV;rw [decide_eq_true h0,decide_eq_false h1];rfl
   rw [hv]
   obtain⟨ak,an,sa⟩:=a
   obtain⟨bk,bn,sb⟩:=b
   dsimp only at c0 c1 c2 c3 c4 c5 h0 h1
   have t0:(ak != 0)=true:=by simp [h0]
   have t1:(bk != 0)=false:=by simpa using h1
   clear hv h0 h1
   go_enter Tryz.func179,Tryz.ntmps179
   go_wp2_with fail
   refine wp_tailQ 19 (by kernel_rfl) (by kernel_rfl) _ rfl ?_
   simp only [List.take_succ_cons,List.take_zero,List.drop_succ_cons,List.drop_zero]
   repeat (go_big_quiet_step (fail))
   refine wpQuiet_nil ?_
   go_wp2_with fail
   refine(boolean_any false _).mono ?_
   rintro e w1 ⟨rfl,x1⟩
   have d0:w1.cell? ⟨w.heap.size+1,0,none⟩=some (.int .i64 0):=x1.at (by go_simp)
   have d1:w1.cell? ⟨w.heap.size+1,1,none⟩=some (.int .i64 0):=x1.at (by go_simp)
   have d2:w1.cell? ⟨w.heap.size+1,2,none⟩=some (.string ByteArray.empty):=x1.at (by go_simp;rfl)
   have f0:w1.frozen? ⟨w.heap.size+1,0,none⟩=false:=x1.unfrozen (p:=⟨w.heap.size+1,0,none⟩) (v:= .int .i64 0) (by go_simp) (by go_simp)
   have f1:w1.frozen? ⟨w.heap.size+1,1,none⟩=false:=x1.unfrozen (p:=⟨w.heap.size+1,1,none⟩) (v:= .int .i64 0) (by go_simp) (by go_simp)
   have f2:w1.frozen? ⟨w.heap.size+1,2,none⟩=false:=x1.unfrozen (p:=⟨w.heap.size+1,2,none⟩) (v:= .string ByteArray.empty) (by go_simp;rfl) (by go_simp)
   have X1:=Lib.hid ((((Ext.refl w).alloc _).alloc _).drew.trans x1)
   have e1:=cell_lt d0
   obtain⟨z,hz⟩ : ∃z,z=boolV false:=⟨_,rfl⟩
   have HZ:=Lib.hid hz
   rw [←hz]
   obtain⟨zk,zn,zs⟩:=z
   clear hz x1
   unfold valV
   dsimp only
   go_wp2_with fail
   exact bodyPost_ret (v:= .agg #[.int .i64 zk,.int .i64 zn,.string zs]) (by simp [results,Tryz.results179,go_sem,d0,d1,d2]) rfl ⟨congrArg (fun v=>Ending.returned (valV v)) (HZ.out),Below.setCell (Below.setCell (Below.setCell X1.out (by simp) _) (by simp) _) (by simp) _⟩
set_option maxRecDepth 100000 in
set_option maxHeartbeats 4000000 in
theorem apply_less (x:ExprI) (hop:x.op=7) (va:Value) (a b:Val) (vr:Value) (w:World) (ha:SliceOf Rep.val w.cell? va [a,b]) :
  Calls Tryz.prog 179 #[.agg (exprEnc x).toArray,va,vr] w fun e w'=>e = .returned (valV (boolV (lessV a b)))∧Ext w w':=by
 obtain⟨p,cap,rfl,_,_,hp⟩:=ha.form
 obtain⟨bb,o,rfl⟩:=hp (by decide) (by simp)
 obtain⟨c0,c1,c2,_⟩:=val_cells ha 0 (by simp)
 obtain⟨c3,c4,c5,_⟩:=val_cells ha 1 (by simp)
 simp only [Nat.zero_mul,Nat.one_mul,Nat.add_zero,List.getElem_cons_zero,List.getElem_cons_succ]at c0 c1 c2 c3 c4 c5
 obtain⟨op,xa,xb,col,⟨ck,cn,cs⟩⟩:=x
 dsimp only at hop
 subst hop
 have e0:=cell_lt c0
 unfold exprEnc
 dsimp only
 have hl : [a,b].length=2:=rfl
 rw [hl]
 clear hl ha hp
 by_cases h0:a.kind=0
 ·have hv:lessV a b=false:=by unfold lessV;rw [decide_eq_false (by simp [h0] : ¬a.kind≠0)];rfl
  rw [hv]
  obtain⟨ak,an,sa⟩:=a
  obtain⟨bk,bn,sb⟩:=b
  dsimp only at c0 c1 c2 c3 c4 c5 h0
  have t0:(ak != 0)=false:=by simp [h0]
  clear hv h0
  go_enter Tryz.func179,Tryz.ntmps179
  go_wp2_with fail
  refine wp_tailQ 23 (by kernel_rfl) (by kernel_rfl) _ rfl ?_
  simp only [List.take_succ_cons,List.take_zero,List.drop_succ_cons,List.drop_zero]
  repeat (go_big_quiet_step (fail))
  refine wpQuiet_nil ?_
  go_wp2_with fail
  refine(boolean_any false _).mono ?_
  rintro e w1 ⟨rfl,x1⟩
  have d0:w1.cell? ⟨w.heap.size+1,0,none⟩=some (.int .i64 0):=x1.at (by go_simp)
  have d1:w1.cell? ⟨w.heap.size+1,1,none⟩=some (.int .i64 0):=x1.at (by go_simp)
  have d2:w1.cell? ⟨w.heap.size+1,2,none⟩=some (.string ByteArray.empty):=x1.at (by go_simp;rfl)
  have f0:w1.frozen? ⟨w.heap.size+1,0,none⟩=false:=x1.unfrozen (p:=⟨w.heap.size+1,0,none⟩) (v:= .int .i64 0) (by go_simp) (by go_simp)
  have f1:w1.frozen? ⟨w.heap.size+1,1,none⟩=false:=x1.unfrozen (p:=⟨w.heap.size+1,1,none⟩) (v:= .int .i64 0) (by go_simp) (by go_simp)
  have f2:w1.frozen? ⟨w.heap.size+1,2,none⟩=false:=x1.unfrozen (p:=⟨w.heap.size+1,2,none⟩) (v:= .string ByteArray.empty) (by go_simp;rfl) (by go_simp)
  have X1:=Lib.hid ((((Ext.refl w).alloc _).alloc _).drew.trans x1)
  have e1:=cell_lt d0
  obtain⟨z,hz⟩ : ∃z,z=boolV false:=⟨_,rfl⟩
  have HZ:=Lib.hid hz
  rw [←hz]
  obtain⟨zk,zn,zs⟩:=z
  clear hz x1
  unfold valV
  dsimp only
  go_wp2_with fail
  exact bodyPost_ret (v:= .agg #[.int .i64 zk,.int .i64 zn,.string zs]) (by simp [results,Tryz.results179,go_sem,d0,d1,d2]) rfl ⟨congrArg (fun v=>Ending.returned (valV v)) (HZ.out),Below.setCell (Below.setCell (Below.setCell X1.out (by simp) _) (by simp) _) (by simp) _⟩
 ·by_cases h1:a.kind=b.kind
  ·have hv:lessV a b=decide (cmpVal a b<0):=by unfold lessV;rw [decide_eq_true h0,decide_eq_true h1];rfl
   rw [hv]
   obtain⟨q,hq⟩ : ∃q,q=cmpVal a b:=⟨_,rfl⟩
   have HQ:=Lib.hid hq
   rw [←hq]
   obtain⟨ak,an,sa⟩:=a
   obtain⟨bk,bn,sb⟩:=b
   dsimp only at c0 c1 c2 c3 c4 c5 h0 h1
   have t0:(ak != 0)=true:=by simp [h0]
   have t1:(ak==bk)=true:=by simp [h1]
   clear hv h0 h1 hq
   go_enter Tryz.func179,Tryz.ntmps179
   go_wp2_with fail
   refine wp_tailQ 23 (by kernel_rfl) (by kernel_rfl) _ rfl ?_
   simp only [List.take_succ_cons,List.take_zero,List.drop_succ_cons,List.drop_zero]
   repeat (go_big_quiet_step (fail))
   refine wpQuiet_nil ?_
   go_wp2_with fail
   refine(compare_val ⟨ak,an,sa⟩ ⟨bk,bn,sb⟩ _).mono ?_
   rintro e w2 ⟨rfl,g0⟩
   have x0:=g0.ext
   rw [←HQ.out]
   clear g0
   by_cases hz0:q<0
   ·have t2:decide (q<0)=true:=by simpa using hz0
    have T3:=Lib.hid (show decide (q<0)=true from decide_eq_true hz0)
    clear hz0
    go_wp2_with fail
    refine(boolean_any true _).mono ?_
    rintro e w1 ⟨rfl,x1⟩
    have d0:w1.cell? ⟨w.heap.size+1,0,none⟩=some (.int .i64 0):=x1.at (x0.at (by go_simp))
    have d1:w1.cell? ⟨w.heap.size+1,1,none⟩=some (.int .i64 0):=x1.at (x0.at (by go_simp))
    have d2:w1.cell? ⟨w.heap.size+1,2,none⟩=some (.string ByteArray.empty):=x1.at (x0.at (by go_simp;rfl))
    have f0:w1.frozen? ⟨w.heap.size+1,0,none⟩=false:=x1.unfrozen (p:=⟨w.heap.size+1,0,none⟩) (v:= .int .i64 0) (x0.at (by go_simp)) (x0.unfrozen (p:=⟨w.heap.size+1,0,none⟩) (v:= .int .i64 0) (by go_simp) (by go_simp))
    have f1:w1.frozen? ⟨w.heap.size+1,1,none⟩=false:=x1.unfrozen (p:=⟨w.heap.size+1,1,none⟩) (v:= .int .i64 0) (x0.at (by go_simp)) (x0.unfrozen (p:=⟨w.heap.size+1,1,none⟩) (v:= .int .i64 0) (by go_simp) (by go_simp))
    have f2:w1.frozen? ⟨w.heap.size+1,2,none⟩=false:=x1.unfrozen (p:=⟨w.heap.size+1,2,none⟩) (v:= .string ByteArray.empty) (x0.at (by go_simp;rfl)) (x0.unfrozen (p:=⟨w.heap.size+1,2,none⟩) (v:= .string ByteArray.empty) (by go_simp;rfl) (by go_simp))
    have X1:=Lib.hid (((((Ext.refl w).alloc _).alloc _).drew.trans x0).trans x1)
    have e1:=cell_lt d0
    obtain⟨z,hz⟩ : ∃z,z=boolV true:=⟨_,rfl⟩
    have HZ:=Lib.hid hz
    rw [←hz]
    obtain⟨zk,zn,zs⟩:=z
    clear hz x1
    unfold valV
    dsimp only
    go_wp2_with fail
    exact bodyPost_ret (v:= .agg #[.int .i64 zk,.int .i64 zn,.string zs]) (by simp [results,Tryz.results179,go_sem,d0,d1,d2]) rfl ⟨congrArg (fun v=>Ending.returned (valV v)) (HZ.out.trans (congrArg boolV T3.out.symm)),Below.setCell (Below.setCell (Below.setCell X1.out (by simp) _) (by simp) _) (by simp) _⟩
   ·have t2:decide (q<0)=false:=by simpa using hz0
    have T3:=Lib.hid (show decide (q<0)=false from decide_eq_false hz0)
    clear hz0
    go_wp2_with fail
    refine(boolean_any false _).mono ?_
    rintro e w1 ⟨rfl,x1⟩
    have d0:w1.cell? ⟨w.heap.size+1,0,none⟩=some (.int .i64 0):=x1.at (x0.at (by go_simp))
    have d1:w1.cell? ⟨w.heap.size+1,1,none⟩=some (.int .i64 0):=x1.at (x0.at (by go_simp))
    have d2:w1.cell? ⟨w.heap.size+1,2,none⟩=some (.string ByteArray.empty):=x1.at (x0.at (by go_simp;rfl))
    have f0:w1.frozen? ⟨w.heap.size+1,0,none⟩=false:=x1.unfrozen (p:=⟨w.heap.size+1,0,none⟩) (v:= .int .i64 0) (x0.at (by go_simp)) (x0.unfrozen (p:=⟨w.heap.size+1,0,none⟩) (v:= .int .i64 0) (by go_simp) (by go_simp))
    have f1:w1.frozen? ⟨w.heap.size+1,1,none⟩=false:=x1.unfrozen (p:=⟨w.heap.size+1,1,none⟩) (v:= .int .i64 0) (x0.at (by go_simp)) (x0.unfrozen (p:=⟨w.heap.size+1,1,none⟩) (v:= .int .i64 0) (by go_simp) (by go_simp))
    have f2:w1.frozen? ⟨w.heap.size+1,2,none⟩=false:=x1.unfrozen (p:=⟨w.heap.size+1,2,none⟩) (v:= .string ByteArray.empty) (x0.at (by go_simp;rfl)) (x0.unfrozen (p:=⟨w.heap.size+1,2,none⟩) (v:= .string ByteArray.empty) (by go_simp;rfl) (by go_simp))
    have X1:=Lib.hid (((((Ext.refl w).alloc _).alloc _).drew.trans x0).trans x1)
    have e1:=cell_lt d0
    obtain⟨z,hz⟩ : ∃z,z=boolV false:=⟨_,rfl⟩
    have HZ:=Lib.hid hz
    rw [←hz]
    obtain⟨zk,zn,zs⟩:=z
    clear hz x1
    unfold valV
    dsimp only
    go_wp2_with fail
    exact bodyPost_ret (v:= .agg #[.int .i64 zk,.int .i64 zn,.string zs]) (by simp [results,Tryz.results179,go_sem,d0,d1,d2]) rfl ⟨congrArg (fun v=>Ending.returned (valV v)) (HZ.out.trans (congrArg boolV T3.out.symm)),Below.setCell (Below.setCell (Below.setCell X1.out (by simp) _) (by simp) _) (by simp) _⟩
  ·have hv:lessV a b=false:=by unfold lessV;rw [decide_eq_true h0,decide_eq_false h1];rfl
   rw [hv]
   obtain⟨ak,an,sa⟩:=a
   obtain⟨bk,bn,sb⟩:=b
   dsimp only at c0 c1 c2 c3 c4 c5 h0 h1
   have t0:(ak != 0)=true:=by simp [h0]
   have t1:(ak==bk)=false:=by simp [h1]
   clear hv h0 h1
   go_enter Tryz.func179,Tryz.ntmps179
   go_wp2_with fail
   refine wp_tailQ 23 (by kernel_rfl) (by kernel_rfl) _ rfl ?_
   simp only [List.take_succ_cons,List.take_zero,List.drop_succ_cons,List.drop_zero]
   repeat (go_big_quiet_step (fail))
   refine wpQuiet_nil ?_
   go_wp2_with fail
   refine(boolean_any false _).mono ?_
   rintro e w1 ⟨rfl,x1⟩
   have d0:w1.cell? ⟨w.heap.size+1,0,none⟩=some (.int .i64 0):=x1.at (by go_simp)
   have d1:w1.cell? ⟨w.heap.size+1,1,none⟩=some (.int .i64 0):=x1.at (by go_simp)
   have d2:w1.cell? ⟨w.heap.size+1,2,none⟩=some (.string ByteArray.empty):=x1.at (by go_simp;rfl)
   have f0:w1.frozen? ⟨w.heap.size+1,0,none⟩=false:=x1.unfrozen (p:=⟨w.heap.size+1,0,none⟩) (v:= .int .i64 0) (by go_simp) (by go_simp)
   have f1:w1.frozen? ⟨w.heap.size+1,1,none⟩=false:=x1.unfrozen (p:=⟨w.heap.size+1,1,none⟩) (v:= .int .i64 0) (by go_simp) (by go_simp)
   have f2:w1.frozen? ⟨w.heap.size+1,2,none⟩=false:=x1.unfrozen (p:=⟨w.heap.size+1,2,none⟩) (v:= .string ByteArray.empty) (by go_simp;rfl) (by go_simp)
   have X1:=Lib.hid ((((Ext.refl w).alloc _).alloc _).drew.trans x1)
   have e1:=cell_lt d0
   obtain⟨z,hz⟩ : ∃z,z=boolV false:=⟨_,rfl⟩
   have HZ:=Lib.hid hz
   rw [←hz]
   obtain⟨zk,zn,zs⟩:=z
   clear hz x1
   unfold valV
   dsimp only
   go_wp2_with fail
   exact bodyPost_ret (v:= .agg #[.int .i64 zk,.int .i64 zn,.string zs]) (by simp [results,Tryz.results179,go_sem,d0,d1,d2]) rfl ⟨congrArg (fun v=>Ending.returned (valV v)) (HZ.out),Below.setCell (Below.setCell (Below.setCell X1.out (by simp) _) (by simp) _) (by simp) _⟩
set_option maxRecDepth 100000 in
set_option maxHeartbeats 4000000 in
theorem apply_and (x:ExprI) (hop:x.op=8) (va:Value) (a b:Val) (vr:Value) (w:World) (ha:SliceOf Rep.val w.cell? va [a,b]) :
  Calls Tryz.prog 179 #[.agg (exprEnc x).toArray,va,vr] w fun e w'=>e = .returned (valV (boolV (trueV a&&trueV b)))∧Ext w w':=by
 obtain⟨p,cap,rfl,_,_,hp⟩:=ha.form
 obtain⟨bb,o,rfl⟩:=hp (by decide) (by simp)
 obtain⟨c0,c1,c2,_⟩:=val_cells ha 0 (by simp)
 obtain⟨c3,c4,c5,_⟩:=val_cells ha 1 (by simp)
 simp only [Nat.zero_mul,Nat.one_mul,Nat.add_zero,List.getElem_cons_zero,List.getElem_cons_succ]at c0 c1 c2 c3 c4 c5
 obtain⟨op,xa,xb,col,⟨ck,cn,cs⟩⟩:=x
 dsimp only at hop
 subst hop
 have e0:=cell_lt c0
 unfold exprEnc
 dsimp only
 have hl : [a,b].length=2:=rfl
 rw [hl]
 clear hl ha hp
 cases ta:trueV a
 ·rw [show (false&&trueV b)=false from rfl]
  have TA:=Lib.hid ta
  clear ta
  go_enter Tryz.func179,Tryz.ntmps179
  go_wp2_with fail
  refine(isTrue_any a _).mono ?_
  rintro e w2 ⟨rfl,x0⟩
  rw [TA.out]
  go_wp2_with fail
  refine(boolean_any false _).mono ?_
  rintro e w1 ⟨rfl,x1⟩
  have d0:w1.cell? ⟨w.heap.size+1,0,none⟩=some (.int .i64 0):=x1.at (x0.at (by go_simp))
  have d1:w1.cell? ⟨w.heap.size+1,1,none⟩=some (.int .i64 0):=x1.at (x0.at (by go_simp))
  have d2:w1.cell? ⟨w.heap.size+1,2,none⟩=some (.string ByteArray.empty):=x1.at (x0.at (by go_simp;rfl))
  have f0:w1.frozen? ⟨w.heap.size+1,0,none⟩=false:=x1.unfrozen (p:=⟨w.heap.size+1,0,none⟩) (v:= .int .i64 0) (x0.at (by go_simp)) (x0.unfrozen (p:=⟨w.heap.size+1,0,none⟩) (v:= .int .i64 0) (by go_simp) (by go_simp))
  have f1:w1.frozen? ⟨w.heap.size+1,1,none⟩=false:=x1.unfrozen (p:=⟨w.heap.size+1,1,none⟩) (v:= .int .i64 0) (x0.at (by go_simp)) (x0.unfrozen (p:=⟨w.heap.size+1,1,none⟩) (v:= .int .i64 0) (by go_simp) (by go_simp))
  have f2:w1.frozen? ⟨w.heap.size+1,2,none⟩=false:=x1.unfrozen (p:=⟨w.heap.size+1,2,none⟩) (v:= .string ByteArray.empty) (x0.at (by go_simp;rfl)) (x0.unfrozen (p:=⟨w.heap.size+1,2,none⟩) (v:= .string ByteArray.empty) (by go_simp;rfl) (by go_simp))
  have X1:=Lib.hid (((((Ext.refl w).alloc _).alloc _).trans x0).trans x1)
  have e1:=cell_lt d0
  obtain⟨z,hz⟩ : ∃z,z=boolV false:=⟨_,rfl⟩
  have HZ:=Lib.hid hz
  rw [←hz]
  obtain⟨zk,zn,zs⟩:=z
  clear hz x1
  unfold valV
  dsimp only
  go_wp2_with fail
  exact bodyPost_ret (v:= .agg #[.int .i64 zk,.int .i64 zn,.string zs]) (by simp [results,Tryz.results179,go_sem,d0,d1,d2]) rfl ⟨congrArg (fun v=>Ending.returned (valV v)) (HZ.out),Below.setCell (Below.setCell (Below.setCell X1.out (by simp) _) (by simp) _) (by simp) _⟩
 ·rw [show (true&&trueV b)=trueV b from rfl]
  have TA:=Lib.hid ta
  clear ta
  obtain⟨tb,htb⟩ : ∃t,t=trueV b:=⟨_,rfl⟩
  have HTB:=Lib.hid htb
  rw [←htb]
  clear htb
  go_enter Tryz.func179,Tryz.ntmps179
  go_wp2_with fail
  refine(isTrue_any a _).mono ?_
  rintro e w3 ⟨rfl,x3⟩
  rw [TA.out]
  replace c3:=x3.at ((((Ext.refl w).alloc _).alloc _).at c3)
  replace c4:=x3.at ((((Ext.refl w).alloc _).alloc _).at c4)
  replace c5:=x3.at ((((Ext.refl w).alloc _).alloc _).at c5)
  have e3:=cell_lt c3
  go_wp2_with fail
  refine(isTrue_any b _).mono ?_
  rintro e w2 ⟨rfl,x2⟩
  have x0:=x3.trans x2
  rw [←HTB.out]
  clear x3 x2
  go_wp2_with fail
  refine(boolean_any tb _).mono ?_
  rintro e w1 ⟨rfl,x1⟩
  have d0:w1.cell? ⟨w.heap.size+1,0,none⟩=some (.int .i64 0):=x1.at (x0.at (by go_simp))
  have d1:w1.cell? ⟨w.heap.size+1,1,none⟩=some (.int .i64 0):=x1.at (x0.at (by go_simp))
  have d2:w1.cell? ⟨w.heap.size+1,2,none⟩=some (.string ByteArray.empty):=x1.at (x0.at (by go_simp;rfl))
  have f0:w1.frozen? ⟨w.heap.size+1,0,none⟩=false:=x1.unfrozen (p:=⟨w.heap.size+1,0,none⟩) (v:= .int .i64 0) (x0.at (by go_simp)) (x0.unfrozen (p:=⟨w.heap.size+1,0,none⟩) (v:= .int .i64 0) (by go_simp) (by go_simp))
  have f1:w1.frozen? ⟨w.heap.size+1,1,none⟩=false:=x1.unfrozen (p:=⟨w.heap.size+1,1,none⟩) (v:= .int .i64 0) (x0.at (by go_simp)) (x0.unfrozen (p:=⟨w.heap.size+1,1,none⟩) (v:= .int .i64 0) (by go_simp) (by go_simp))
  have f2:w1.frozen? ⟨w.heap.size+1,2,none⟩=false:=x1.unfrozen (p:=⟨w.heap.size+1,2,none⟩) (v:= .string ByteArray.empty) (x0.at (by go_simp;rfl)) (x0.unfrozen (p:=⟨w.heap.size+1,2,none⟩) (v:= .string ByteArray.empty) (by go_simp;rfl) (by go_simp))
  have X1:=Lib.hid (((((Ext.refl w).alloc _).alloc _).trans x0).trans x1)
  have e1:=cell_lt d0
  obtain⟨z,hz⟩ : ∃z,z=boolV tb:=⟨_,rfl⟩
  have HZ:=Lib.hid hz
  rw [←hz]
  obtain⟨zk,zn,zs⟩:=z
  clear hz x1
  unfold valV
  dsimp only
  go_wp2_with fail
  exact bodyPost_ret (v:= .agg #[.int .i64 zk,.int .i64 zn,.string zs]) (by simp [results,Tryz.results179,go_sem,d0,d1,d2]) rfl ⟨congrArg (fun v=>Ending.returned (valV v)) (HZ.out),Below.setCell (Below.setCell (Below.setCell X1.out (by simp) _) (by simp) _) (by simp) _⟩
set_option maxRecDepth 100000 in
set_option maxHeartbeats 4000000 in
theorem apply_or (x:ExprI) (hop:x.op=9) (va:Value) (a b:Val) (vr:Value) (w:World) (ha:SliceOf Rep.val w.cell? va [a,b]) :
  Calls Tryz.prog 179 #[.agg (exprEnc x).toArray,va,vr] w fun e w'=>e = .returned (valV (boolV (trueV a||trueV b)))∧Ext w w':=by
 obtain⟨p,cap,rfl,_,_,hp⟩:=ha.form
 obtain⟨bb,o,rfl⟩:=hp (by decide) (by simp)
 obtain⟨c0,c1,c2,_⟩:=val_cells ha 0 (by simp)
 obtain⟨c3,c4,c5,_⟩:=val_cells ha 1 (by simp)
 simp only [Nat.zero_mul,Nat.one_mul,Nat.add_zero,List.getElem_cons_zero,List.getElem_cons_succ]at c0 c1 c2 c3 c4 c5
 obtain⟨op,xa,xb,col,⟨ck,cn,cs⟩⟩:=x
 dsimp only at hop
 subst hop
 have e0:=cell_lt c0
 unfold exprEnc
 dsimp only
 have hl : [a,b].length=2:=rfl
 rw [hl]
 clear hl ha hp
 cases ta:trueV a
 ·rw [show (false||trueV b)=trueV b from Bool.false_or _]
  have TA:=Lib.hid ta
  clear ta
  obtain⟨tb,htb⟩ : ∃t,t=trueV b:=⟨_,rfl⟩
  have HTB:=Lib.hid htb
  rw [←htb]
  clear htb
  go_enter Tryz.func179,Tryz.ntmps179
  go_wp2_with fail
  refine(isTrue_any a _).mono ?_
  rintro e w3 ⟨rfl,x3⟩
  rw [TA.out]
  replace c3:=x3.at ((((Ext.refl w).alloc _).alloc _).at c3)
  replace c4:=x3.at ((((Ext.refl w).alloc _).alloc _).at c4)
  replace c5:=x3.at ((((Ext.refl w).alloc _).alloc _).at c5)
  have e3:=cell_lt c3
  go_wp2_with fail
  refine(isTrue_any b _).mono ?_
  rintro e w2 ⟨rfl,x2⟩
  have x0:=x3.trans x2
  rw [←HTB.out]
  clear x3 x2
  go_wp2_with fail
  refine(boolean_any tb _).mono ?_
  rintro e w1 ⟨rfl,x1⟩
  have d0:w1.cell? ⟨w.heap.size+1,0,none⟩=some (.int .i64 0):=x1.at (x0.at (by go_simp))
  have d1:w1.cell? ⟨w.heap.size+1,1,none⟩=some (.int .i64 0):=x1.at (x0.at (by go_simp))
  have d2:w1.cell? ⟨w.heap.size+1,2,none⟩=some (.string ByteArray.empty):=x1.at (x0.at (by go_simp;rfl))
  have f0:w1.frozen? ⟨w.heap.size+1,0,none⟩=false:=x1.unfrozen (p:=⟨w.heap.size+1,0,none⟩) (v:= .int .i64 0) (x0.at (by go_simp)) (x0.unfrozen (p:=⟨w.heap.size+1,0,none⟩) (v:= .int .i64 0) (by go_simp) (by go_simp))
  have f1:w1.frozen? ⟨w.heap.size+1,1,none⟩=false:=x1.unfrozen (p:=⟨w.heap.size+1,1,none⟩) (v:= .int .i64 0) (x0.at (by go_simp)) (x0.unfrozen (p:=⟨w.heap.size+1,1,none⟩) (v:= .int .i64 0) (by go_simp) (by go_simp))
  have f2:w1.frozen? ⟨w.heap.size+1,2,none⟩=false:=x1.unfrozen (p:=⟨w.heap.size+1,2,none⟩) (v:= .string ByteArray.empty) (x0.at (by go_simp;rfl)) (x0.unfrozen (p:=⟨w.heap.size+1,2,none⟩) (v:= .string ByteArray.empty) (by go_simp;rfl) (by go_simp))
  have X1:=Lib.hid (((((Ext.refl w).alloc _).alloc _).trans x0).trans x1)
  have e1:=cell_lt d0
  obtain⟨z,hz⟩ : ∃z,z=boolV tb:=⟨_,rfl⟩
  have HZ:=Lib.hid hz
  rw [←hz]
  obtain⟨zk,zn,zs⟩:=z
  clear hz x1
  unfold valV
  dsimp only
  go_wp2_with fail
  exact bodyPost_ret (v:= .agg #[.int .i64 zk,.int .i64 zn,.string zs]) (by simp [results,Tryz.results179,go_sem,d0,d1,d2]) rfl ⟨congrArg (fun v=>Ending.returned (valV v)) (HZ.out),Below.setCell (Below.setCell (Below.setCell X1.out (by simp) _) (by simp) _) (by simp) _⟩
 ·rw [show (true||trueV b)=true from rfl]
  have TA:=Lib.hid ta
  clear ta
  go_enter Tryz.func179,Tryz.ntmps179
  go_wp2_with fail
  refine(isTrue_any a _).mono ?_
  rintro e w2 ⟨rfl,x0⟩
  rw [TA.out]
  go_wp2_with fail
  refine(boolean_any true _).mono ?_
  rintro e w1 ⟨rfl,x1⟩
  have d0:w1.cell? ⟨w.heap.size+1,0,none⟩=some (.int .i64 0):=x1.at (x0.at (by go_simp))
  have d1:w1.cell? ⟨w.heap.size+1,1,none⟩=some (.int .i64 0):=x1.at (x0.at (by go_simp))
  have d2:w1.cell? ⟨w.heap.size+1,2,none⟩=some (.string ByteArray.empty):=x1.at (x0.at (by go_simp;rfl))
  have f0:w1.frozen? ⟨w.heap.size+1,0,none⟩=false:=x1.unfrozen (p:=⟨w.heap.size+1,0,none⟩) (v:= .int .i64 0) (x0.at (by go_simp)) (x0.unfrozen (p:=⟨w.heap.size+1,0,none⟩) (v:= .int .i64 0) (by go_simp) (by go_simp))
  have f1:w1.frozen? ⟨w.heap.size+1,1,none⟩=false:=x1.unfrozen (p:=⟨w.heap.size+1,1,none⟩) (v:= .int .i64 0) (x0.at (by go_simp)) (x0.unfrozen (p:=⟨w.heap.size+1,1,none⟩) (v:= .int .i64 0) (by go_simp) (by go_simp))
  have f2:w1.frozen? ⟨w.heap.size+1,2,none⟩=false:=x1.unfrozen (p:=⟨w.heap.size+1,2,none⟩) (v:= .string ByteArray.empty) (x0.at (by go_simp;rfl)) (x0.unfrozen (p:=⟨w.heap.size+1,2,none⟩) (v:= .string ByteArray.empty) (by go_simp;rfl) (by go_simp))
  have X1:=Lib.hid (((((Ext.refl w).alloc _).alloc _).trans x0).trans x1)
  have e1:=cell_lt d0
  obtain⟨z,hz⟩ : ∃z,z=boolV true:=⟨_,rfl⟩
  have HZ:=Lib.hid hz
  rw [←hz]
  obtain⟨zk,zn,zs⟩:=z
  clear hz x1
  unfold valV
  dsimp only
  go_wp2_with fail
  exact bodyPost_ret (v:= .agg #[.int .i64 zk,.int .i64 zn,.string zs]) (by simp [results,Tryz.results179,go_sem,d0,d1,d2]) rfl ⟨congrArg (fun v=>Ending.returned (valV v)) (HZ.out),Below.setCell (Below.setCell (Below.setCell X1.out (by simp) _) (by simp) _) (by simp) _⟩
set_option maxRecDepth 100000 in
set_option maxHeartbeats 4000000 in
theorem apply_not (x:ExprI) (hop:x.op=10) (va:Value) (a:Val) (vr:Value) (w:World) (ha:SliceOf Rep.val w.cell? va [a]) :
  Calls Tryz.prog 179 #[.agg (exprEnc x).toArray,va,vr] w fun e w'=>e = .returned (valV (boolV (!trueV a)))∧Ext w w':=by
 obtain⟨p,cap,rfl,_,_,hp⟩:=ha.form
 obtain⟨bb,o,rfl⟩:=hp (by decide) (by simp)
 obtain⟨c0,c1,c2,_⟩:=val_cells ha 0 (by simp)
 simp only [Nat.zero_mul,Nat.add_zero,List.getElem_cons_zero]at c0 c1 c2
 obtain⟨op,xa,xb,col,⟨ck,cn,cs⟩⟩:=x
 dsimp only at hop
 subst hop
 have e0:=cell_lt c0
 unfold exprEnc
 dsimp only
 have hl : [a].length=1:=rfl
 rw [hl]
 clear hl ha hp
 obtain⟨ta,hta⟩ : ∃t,t=trueV a:=⟨_,rfl⟩
 have HTA:=Lib.hid hta
 rw [←hta]
 clear hta
 go_enter Tryz.func179,Tryz.ntmps179
 go_wp2_with fail
 refine(isTrue_any a _).mono ?_
 rintro e w2 ⟨rfl,x0⟩
 rw [←HTA.out]
 go_wp2_with fail
 refine(boolean_any (!ta) _).mono ?_
 rintro e w1 ⟨rfl,x1⟩
 have d0:w1.cell? ⟨w.heap.size+1,0,none⟩=some (.int .i64 0):=x1.at (x0.at (by go_simp))
 have d1:w1.cell? ⟨w.heap.size+1,1,none⟩=some (.int .i64 0):=x1.at (x0.at (by go_simp))
 have d2:w1.cell? ⟨w.heap.size+1,2,none⟩=some (.string ByteArray.empty):=x1.at (x0.at (by go_simp;rfl))
 have f0:w1.frozen? ⟨w.heap.size+1,0,none⟩=false:=x1.unfrozen (p:=⟨w.heap.size+1,0,none⟩) (v:= .int .i64 0) (x0.at (by go_simp)) (x0.unfrozen (p:=⟨w.heap.size+1,0,none⟩) (v:= .int .i64 0) (by go_simp) (by go_simp))
 have f1:w1.frozen? ⟨w.heap.size+1,1,none⟩=false:=x1.unfrozen (p:=⟨w.heap.size+1,1,none⟩) (v:= .int .i64 0) (x0.at (by go_simp)) (x0.unfrozen (p:=⟨w.heap.size+1,1,none⟩) (v:= .int .i64 0) (by go_simp) (by go_simp))
 have f2:w1.frozen? ⟨w.heap.size+1,2,none⟩=false:=x1.unfrozen (p:=⟨w.heap.size+1,2,none⟩) (v:= .string ByteArray.empty) (x0.at (by go_simp;rfl)) (x0.unfrozen (p:=⟨w.heap.size+1,2,none⟩) (v:= .string ByteArray.empty) (by go_simp;rfl) (by go_simp))
 have X1:=Lib.hid (((((Ext.refl w).alloc _).alloc _).trans x0).trans x1)
 have e1:=cell_lt d0
 obtain⟨z,hz⟩ : ∃z,z=boolV (!ta):=⟨_,rfl⟩
 have HZ:=Lib.hid hz
 rw [←hz]
 obtain⟨zk,zn,zs⟩:=z
 clear hz x1
 unfold valV
 dsimp only
 go_wp2_with fail
 exact bodyPost_ret (v:= .agg #[.int .i64 zk,.int .i64 zn,.string zs]) (by simp [results,Tryz.results179,go_sem,d0,d1,d2]) rfl ⟨congrArg (fun v=>Ending.returned (valV v)) (HZ.out),Below.setCell (Below.setCell (Below.setCell X1.out (by simp) _) (by simp) _) (by simp) _⟩
set_option maxRecDepth 100000 in
set_option maxHeartbeats 4000000 in
theorem apply_isnull (x:ExprI) (hop:x.op=11) (va:Value) (a:Val) (vr:Value) (w:World) (ha:SliceOf Rep.val w.cell? va [a]) :
  Calls Tryz.prog 179 #[.agg (exprEnc x).toArray,va,vr] w fun e w'=>e = .returned (valV (boolV (decide (a.kind=0))))∧Ext w w':=by
 obtain⟨p,cap,rfl,_,_,hp⟩:=ha.form
 obtain⟨bb,o,rfl⟩:=hp (by decide) (by simp)
 obtain⟨c0,c1,c2,_⟩:=val_cells ha 0 (by simp)
 simp only [Nat.zero_mul,Nat.add_zero,List.getElem_cons_zero]at c0 c1 c2
 obtain⟨op,xa,xb,col,⟨ck,cn,cs⟩⟩:=x
 dsimp only at hop
 subst hop
 have e0:=cell_lt c0
 unfold exprEnc
 dsimp only
 have hl : [a].length=1:=rfl
 rw [hl]
 clear hl ha hp
 obtain⟨ta,hta⟩ : ∃t,(a.kind==0)=t:=⟨_,rfl⟩
 have e9:decide (a.kind=0)=ta:=by rw [←hta,Bool.eq_iff_iff];simp
 rw [e9]
 obtain⟨ak,an,sa⟩:=a
 dsimp only at c0 c1 c2 hta
 clear e9
 go_enter Tryz.func179,Tryz.ntmps179
 go_wp2_with fail
 refine(boolean_any ta _).mono ?_
 rintro e w1 ⟨rfl,x1⟩
 have d0:w1.cell? ⟨w.heap.size+1,0,none⟩=some (.int .i64 0):=x1.at (by go_simp)
 have d1:w1.cell? ⟨w.heap.size+1,1,none⟩=some (.int .i64 0):=x1.at (by go_simp)
 have d2:w1.cell? ⟨w.heap.size+1,2,none⟩=some (.string ByteArray.empty):=x1.at (by go_simp;rfl)
 have f0:w1.frozen? ⟨w.heap.size+1,0,none⟩=false:=x1.unfrozen (p:=⟨w.heap.size+1,0,none⟩) (v:= .int .i64 0) (by go_simp) (by go_simp)
 have f1:w1.frozen? ⟨w.heap.size+1,1,none⟩=false:=x1.unfrozen (p:=⟨w.heap.size+1,1,none⟩) (v:= .int .i64 0) (by go_simp) (by go_simp)
 have f2:w1.frozen? ⟨w.heap.size+1,2,none⟩=false:=x1.unfrozen (p:=⟨w.heap.size+1,2,none⟩) (v:= .string ByteArray.empty) (by go_simp;rfl) (by go_simp)
 have X1:=Lib.hid ((((Ext.refl w).alloc _).alloc _).trans x1)
 have e1:=cell_lt d0
 obtain⟨z,hz⟩ : ∃z,z=boolV ta:=⟨_,rfl⟩
 have HZ:=Lib.hid hz
 rw [←hz]
 obtain⟨zk,zn,zs⟩:=z
 clear hz x1
 unfold valV
 dsimp only
 go_wp2_with fail
 exact bodyPost_ret (v:= .agg #[.int .i64 zk,.int .i64 zn,.string zs]) (by simp [results,Tryz.results179,go_sem,d0,d1,d2]) rfl ⟨congrArg (fun v=>Ending.returned (valV v)) (HZ.out),Below.setCell (Below.setCell (Below.setCell X1.out (by simp) _) (by simp) _) (by simp) _⟩
set_option maxRecDepth 100000 in
set_option maxHeartbeats 4000000 in
theorem apply_const (x:ExprI) (hop:x.op=1) (pa:Option Addr) (na ka:Nat) (vr:Value) (w:World) :
  Calls Tryz.prog 179 #[.agg (exprEnc x).toArray,.slice pa na ka,vr] w fun e w'=>e = .returned (valV x.c)∧Ext w w':=by
 obtain⟨op,xa,xb,col,⟨ck,cn,cs⟩⟩:=x
 dsimp only at hop
 subst hop
 unfold exprEnc
 dsimp only
 go_enter Tryz.func179,Tryz.ntmps179
 go_wp2_with fail
 exact bodyPost_ret (v:=valV ⟨ck,cn,cs⟩) (by simp [results,Tryz.results179,go_sem,valV]) rfl ⟨rfl,((Ext.refl w).alloc _).alloc _⟩
set_option maxRecDepth 100000 in
set_option maxHeartbeats 4000000 in
theorem apply_none (x:ExprI) (hop : ¬(1≤x.op∧x.op≤11)) (pa:Option Addr) (na ka:Nat) (vr:Value) (w:World) :
  Calls Tryz.prog 179 #[.agg (exprEnc x).toArray,.slice pa na ka,vr] w fun e w'=>e = .returned (valV nV)∧Ext w w':=by
 obtain⟨op,xa,xb,col,⟨ck,cn,cs⟩⟩:=x
 dsimp only at hop
 have b1:(op==1)=false:=by simp;omega
 have b2:(op==2)=false:=by simp;omega
 have b3:(op==3)=false:=by simp;omega
 have b4:(op==4)=false:=by simp;omega
 have b5:(op==5)=false:=by simp;omega
 have b6:(op==6)=false:=by simp;omega
 have b7:(op==7)=false:=by simp;omega
 have b8:(op==8)=false:=by simp;omega
 have b9:(op==9)=false:=by simp;omega
 have b10:(op==10)=false:=by simp;omega
 have b11:(op==11)=false:=by simp;omega
 unfold exprEnc
 dsimp only
 clear hop
 go_enter Tryz.func179,Tryz.ntmps179
 go_wp2_with fail
 exact bodyPost_ret (v:=valV nV) (by simp [results,Tryz.results179,go_sem,valV,nV];rfl) rfl ⟨rfl,((Ext.refl w).alloc _).alloc _⟩
end Go.Proofs.YtombmdaohcjokaaGreatDoor
namespace Go.Proofs.YtombmdaohcjokaaGreatDoor
open Go.RowKit
theorem two_of {α:Type} {l:List α} (h:l.length=2) : ∃a b,l = [a,b]:=by
 match l,h with
 |[a,b],_=>exact⟨a,b,rfl⟩
theorem one_of {α:Type} {l:List α} (h:l.length=1) : ∃a,l = [a]:=by
 match l,h with
 |[a],_=>exact⟨a,rfl⟩
theorem apply_any (x:ExprI) (va:Value) (as_:List Val) (hl:as_.length=(arityE x.op).toNat) (vr:Value) (row:List Val) (w:World) (ha:SliceOf Rep.val w.cell? va as_) (hr:SliceOf Rep.val w.cell? vr row) :
  Calls Tryz.prog 179 #[.agg (exprEnc x).toArray,va,vr] w fun e w'=>e = .returned (valV (applyV x (as_.getD 0 nV) (as_.getD 1 nV) row))∧Ext w w':=by
 obtain⟨pa,ka,hva,_⟩:=ha.form
 by_cases h:1≤x.op∧x.op≤11
 ·have h2:x.op=1∨x.op=2∨(x.op=3∨x.op=4∨x.op=5)∨x.op=6∨x.op=7∨x.op=8∨x.op=9∨x.op=10∨x.op=11:=by omega
  rcases h2 with h2 | h2 | h2 | h2 | h2 | h2 | h2 | h2 | h2
  ·subst hva
   have e:applyV x (as_.getD 0 nV) (as_.getD 1 nV) row=x.c:=by unfold applyV;rw [if_pos h2]
   rw [e]
   exact apply_const x h2 _ _ _ vr w
  ·subst hva
   have e:applyV x (as_.getD 0 nV) (as_.getD 1 nV) row=colAt row x.col:=by unfold applyV;rw [if_neg (by omega),if_pos h2]
   rw [e]
   exact apply_col x h2 _ _ _ vr row w hr
  ·have ha2:arityE x.op=2:=by unfold arityE;rw [if_neg (by omega),if_neg (by omega),if_pos (by omega)]
   obtain⟨a,b,rfl⟩:=two_of (hl.trans (by rw [ha2];rfl))
   exact apply_arith x h2 va a b vr row w ha
  ·obtain⟨a,b,rfl⟩:=two_of (hl.trans (by rw [h2];rfl))
   have e:applyV x ([a,b].getD 0 nV) ([a,b].getD 1 nV) row=boolV (eqV a b):=by unfold applyV;rw [h2];rfl
   rw [e]
   exact apply_eq x h2 va a b vr w ha
  ·obtain⟨a,b,rfl⟩:=two_of (hl.trans (by rw [h2];rfl))
   have e:applyV x ([a,b].getD 0 nV) ([a,b].getD 1 nV) row=boolV (lessV a b):=by unfold applyV;rw [h2];rfl
   rw [e]
   exact apply_less x h2 va a b vr w ha
  ·obtain⟨a,b,rfl⟩:=two_of (hl.trans (by rw [h2];rfl))
   have e:applyV x ([a,b].getD 0 nV) ([a,b].getD 1 nV) row=boolV (trueV a&&trueV b):=by unfold applyV;rw [h2];rfl
   rw [e]
   exact apply_and x h2 va a b vr w ha
  ·obtain⟨a,b,rfl⟩:=two_of (hl.trans (by rw [h2];rfl))
   have e:applyV x ([a,b].getD 0 nV) ([a,b].getD 1 nV) row=boolV (trueV a||trueV b):=by unfold applyV;rw [h2];rfl
   rw [e]
   exact apply_or x h2 va a b vr w ha
  ·obtain⟨a,rfl⟩:=one_of (hl.trans (by rw [h2];rfl))
   have e:applyV x ([a].getD 0 nV) ([a].getD 1 nV) row=boolV (!trueV a):=by unfold applyV;rw [h2];rfl
   rw [e]
   exact apply_not x h2 va a vr w ha
  ·obtain⟨a,rfl⟩:=one_of (hl.trans (by rw [h2];rfl))
   have e:applyV x ([a].getD 0 nV) ([a].getD 1 nV) row=boolV (decide (a.kind=0)):=by unfold applyV;rw [h2];rfl
   rw [e]
   exact apply_isnull x h2 va a vr w ha
 ·subst hva
  have e:applyV x (as_.getD 0 nV) (as_.getD 1 nV) row=nV:=by
   unfold applyV
   rw [if_neg (by omega),if_neg (by omega),if_neg (by omega),if_neg (by omega),if_neg (by omega),if_neg (by omega),if_neg (by omega),if_neg (by omega),if_neg (by omega)]
  rw [e]
  exact apply_none x h _ _ _ vr w
theorem arity_is {op n:Int} (h:arityE op=n) (w:World):Calls Tryz.prog 223 #[.int .i64 op] w fun e w'=>e = .returned (.int .i64 n)∧Ext w w' :=
 (arity_any op w).mono fun e w' ⟨h1,h2⟩=>by subst h2;rw [h1,h];exact⟨rfl,Ext.refl w⟩
theorem ops_lit (W:World) (a b:Int) (T:TypeId) (ha:okI a) (hb:okI b) (k:Nat) (hk:k≤2):SliceOf Rep.int (W.alloc (.cells #[.int .i64 a,.int .i64 b] T)).cell? (.slice (some ⟨W.heap.size,0,none⟩) k 2) ([a,b].take k) :=
 SliceOf.takeV (slice_lit Rep.int W [.int .i64 a,.int .i64 b] T [[.int .i64 a],[.int .i64 b]] [a,b] rfl ⟨⟨rfl,ha⟩,⟨rfl,hb⟩,trivial⟩ (by simp [maxLen])) k hk
theorem slice_as {α:Type} {R:Rep α} {h:View} {v:Value} {L M:List α} (e:L=M) (k:SliceOf R h v M):SliceOf R h v L:=by rw [e];exact k
set_option maxRecDepth 100000 in
set_option maxHeartbeats 4000000 in
theorem operands_any (x:ExprI) (ha:okI x.a) (hb:okI x.b) (w:World) :
  Calls Tryz.prog 177 #[.agg (exprEnc x).toArray] w fun e w'=> ∃v,e = .returned v∧SliceOf Rep.int w'.cell? v (opsE x)∧Ext w w':=by
 have hops : ∀k:Nat,(arityE x.op).toNat=k→opsE x = [x.a,x.b].take k:=fun k hk=>by unfold opsE;rw [hk]
 have HO:=Lib.hid hops
 obtain⟨op,a,b,col,⟨ck,cn,cs⟩⟩:=x
 dsimp only at ha hb HO
 obtain⟨L,hL⟩ : ∃L,L=opsE ⟨op,a,b,col,⟨ck,cn,cs⟩⟩:=⟨_,rfl⟩
 rw [←hL]at HO ⊢
 have HA:=Lib.hid ha
 have HB:=Lib.hid hb
 unfold exprEnc
 dsimp only
 have h4:=arityE_le op
 have h5:arityE op = -1∨arityE op=0∨arityE op=1∨arityE op=2:=by omega
 clear hops hL ha hb h4
 rcases h5 with h | h | h | h
 all_goals
  have AR:=Lib.hid h
  have HL:=Lib.hid (HO.out _ (congrArg Int.toNat h))
  clear h HO
  have m1:max (-1:Int) 0=0:=rfl
  have m2:max (0:Int) 0=0:=rfl
  have m3:max (1:Int) 0=1:=rfl
  have m4:max (2:Int) 0=2:=rfl
  go_enter Tryz.func177,Tryz.ntmps177
  go_wp2_with fail
  have k0:(w.alloc (.cells #[.int .i64 op,.int .i64 a,.int .i64 b,.int .i64 col,.int .i64 ck,.int .i64 cn,.string cs] 66)).cell? ⟨w.heap.size,0,none⟩=some (.int .i64 op):=by go_simp
  have k1:(w.alloc (.cells #[.int .i64 op,.int .i64 a,.int .i64 b,.int .i64 col,.int .i64 ck,.int .i64 cn,.string cs] 66)).cell? ⟨w.heap.size,1,none⟩=some (.int .i64 a):=by go_simp
  have k2:(w.alloc (.cells #[.int .i64 op,.int .i64 a,.int .i64 b,.int .i64 col,.int .i64 ck,.int .i64 cn,.string cs] 66)).cell? ⟨w.heap.size,2,none⟩=some (.int .i64 b):=by go_simp
  have x0:Ext w (w.alloc (.cells #[.int .i64 op,.int .i64 a,.int .i64 b,.int .i64 col,.int .i64 ck,.int .i64 cn,.string cs] 66)):=(Ext.refl w).alloc _
  generalize w.alloc (.cells #[.int .i64 op,.int .i64 a,.int .i64 b,.int .i64 col,.int .i64 ck,.int .i64 cn,.string cs] 66)=W at k0 k1 k2 x0 ⊢
  have hS0:Ext w W.drew∧W.drew.cell? ⟨w.heap.size,0,none⟩=some (.int .i64 op)∧W.drew.cell? ⟨w.heap.size,1,none⟩=some (.int .i64 a)∧W.drew.cell? ⟨w.heap.size,2,none⟩=some (.int .i64 b):=⟨x0.drew,k0,k1,k2⟩
  clear k0 k1 k2
  go_region_held3 (fun w'=>Ext w w'∧w'.cell? ⟨w.heap.size,0,none⟩=some (.int .i64 op)∧w'.cell? ⟨w.heap.size,1,none⟩=some (.int .i64 a)∧w'.cell? ⟨w.heap.size,2,none⟩=some (.int .i64 b))
   (first |with_reducible assumption | with_reducible exact keepE3 (by assumption) hx2 | with_reducible exact keepE3 (by assumption) ((Ext.refl _).alloc _))
   (first |(go_at_call 223;refine(arity_is AR.out _).mono ?_;rintro e w2 ⟨rfl,hx2⟩))
  all_goals (obtain⟨hfin,_⟩:= ‹Ext w _∧_›)
  all_goals go_wp2_with fail
  all_goals go_ret
  all_goals first
   |exact⟨_,rfl,slice_as HL.out (ops_lit w2 a b _ HA.out HB.out _ (by decide)),hfin⟩
   |exact⟨_,rfl,(slice_as HL.out (ops_lit W a b _ HA.out HB.out _ (by decide))).ext hx2.full,hfin⟩
end Go.Proofs.YtombmdaohcjokaaGreatDoor
namespace Go.Proofs.YtombmdaohcjokaaGreatDoor
open Go.RowKit
def VC (w:World) (g j:Nat) (y:Val):Prop:=w.cell? ⟨g,j*3,none⟩=some (.int .i64 y.kind)∧w.cell? ⟨g,j*3+1,none⟩=some (.int .i64 y.n)∧w.cell? ⟨g,j*3+2,none⟩=some (.string y.s)
theorem VC.ext {w w':World} {g j:Nat} {y:Val} (h:VC w g j y) (hx:Ext w w'):VC w' g j y:=⟨hx.at h.1,hx.at h.2.1,hx.at h.2.2⟩
theorem VC.far {w:World} {g j k r:Nat} {y:Val} {u:Value} (h:VC w g j y) (hr:r<3) (hne:j≠k):VC (w.setCell ⟨g,k*3+r,none⟩ u) g j y:=by
 have h1 : ∀s,s<3→(⟨g,k*3+r,none⟩:Addr)≠⟨g,j*3+s,none⟩:=fun s hs e=>by
  injection e with _ e _
  omega
 refine⟨?_,?_,?_⟩
 ·rw [World.cell?_setCell_other _ _ _ _ (by exact h1 0 (by omega))];exact h.1
 ·rw [World.cell?_setCell_other _ _ _ _ (by exact h1 1 (by omega))];exact h.2.1
 ·rw [World.cell?_setCell_other _ _ _ _ (by exact h1 2 (by omega))];exact h.2.2
theorem VC.put {w:World} {g M k:Nat} {f:Nat→Val} (F:FreeN w g (M*3)) (h : ∀j,j<M→VC w g j (f j)) (hk:k<M) (y:Val) :
  ∀j,j<M→VC (((w.setCell ⟨g,k*3,none⟩ (.int .i64 y.kind)).setCell ⟨g,k*3+1,none⟩ (.int .i64 y.n)).setCell ⟨g,k*3+2,none⟩ (.string y.s)) g j (if j=k then y else f j):=by
 intro j hj
 by_cases e:j=k
 ·subst e
  rw [if_pos rfl]
  obtain⟨⟨o0,p0⟩,f0⟩:=F (j*3) (by omega)
  obtain⟨⟨o1,p1⟩,f1⟩:=F (j*3+1) (by omega)
  obtain⟨⟨o2,p2⟩,f2⟩:=F (j*3+2) (by omega)
  refine⟨?_,?_,?_⟩ <;> go_simp
 ·rw [if_neg e]
  exact((((h j hj).far (r:=0) (by omega) e).far (r:=1) (by omega) e).far (r:=2) (by omega) e)
theorem made3 (a b c:Value) (n j r:Nat) (h:j<n) (hr:r<3):(madeCells #[a,b,c] (n*3)).toList[j*3+r]?=some (#[a,b,c][r]!):=by
 unfold madeCells
 rw [Array.toList_map,List.getElem?_map,Array.toList_range,List.getElem?_range (by omega)]
 have e:(j*3+r) % (#[a,b,c]:Array Value).size=r:=by
  show (j*3+r) % 3=r
  omega
 show some ((#[a,b,c])[(j*3+r) % (#[a,b,c]:Array Value).size]!)=_
 rw [e]
theorem evalAll_put (es:List ExprI) (row:List Val) (k j:Nat):(evalAll es row (k+1)).getD j nV=if j=k then stepE row (evalAll es row k) es[k]! else(evalAll es row k).getD j nV:=by
 by_cases e:j=k
 ·subst e;rw [if_pos rfl,evalAll_get es row (j+1) j (by omega)]
 ·rw [if_neg e,evalAll,List.getD_eq_getElem?_getD,List.getD_eq_getElem?_getD]
  by_cases c:j<k
  ·rw [List.getElem?_append_left (by rw [evalAll_len];exact c)]
  ·rw [List.getElem?_eq_none (by rw [List.length_append,evalAll_len];simp;omega),List.getElem?_eq_none (by rw [evalAll_len];omega)]
theorem expr_ok {h:View} {v:Value} {xs:List ExprI} (k:SliceOf Rep.expr h v xs) : ∀x∈xs,(okI x.a∧okI x.b)∧okVal x.c:=by
 intro x hx
 obtain⟨i,hi,rfl⟩:=List.getElem_of_mem hx
 obtain⟨p,cap,rfl,_,_,hp⟩:=k.form
 obtain⟨b,o,rfl⟩:=hp (by decide) (by omega)
 obtain⟨c,⟨rfl,h1,h2⟩,_⟩:=k.at i hi
 exact⟨⟨h1.2.1,h1.2.2.1⟩,h2⟩
theorem legalE_iff (i:Nat) (x:ExprI):legalE i x=true↔ ∀o∈opsE x,0≤o∧o<i:=by
 unfold legalE
 rw [List.all_eq_true]
 constructor
 ·intro h o ho;have:=h o ho;simp only [Bool.and_eq_true,decide_eq_true_eq]at this;exact this
 ·intro h o ho;simp only [Bool.and_eq_true,decide_eq_true_eq];exact h o ho
theorem opsE_ok {x:ExprI} (h:okI x.a∧okI x.b) : ∀o∈opsE x,okI o:=by
 intro o ho
 have:=List.mem_of_mem_take ho
 simp only [List.mem_cons,List.not_mem_nil,or_false]at this
 rcases this with rfl | rfl
 ·exact h.1
 ·exact h.2
set_option maxRecDepth 100000 in
set_option maxHeartbeats 8000000 in
theorem eval_in (v:Value) (es:List ExprI) (root:Nat) (vv:Value) (vals:List Val) (w:World) (he:SliceOf Rep.expr w.cell? v es) (hr:root<es.length) (hl:es.length≤1000) (hv:SliceOf Rep.val w.cell? vv vals) :
  Calls Tryz.prog 125 #[v,.int .i64 root,vv] w fun e w'=>e = .returned (valV (evalE es root vals))∧Ext w w':=by
 obtain⟨i3,hi3,hz30,hz31,hz32⟩:=info_parts info_val3
 have HXO:=Lib.hid (expr_ok he)
 have HVO:=Lib.hid (vals_ok hv)
 obtain⟨p,cap,rfl,hc1,hc2,hp⟩:=he.form
 obtain⟨q,qc,rfl,_⟩:=hv.form
 obtain⟨bb,ob,rfl⟩:=hp (by decide) (by omega)
 obtain⟨y,hy⟩ : ∃y,y=evalE es root vals:=⟨_,rfl⟩
 rw [←hy]
 have HY:=Lib.hid hy
 obtain⟨N,hN⟩ : ∃N,N=es.length:=⟨_,rfl⟩
 have HE:=Lib.hid he
 rw [←hN]at HE hc1 ⊢
 have HV:=Lib.hid hv
 have HN:=Lib.hid hN
 obtain⟨M,hM⟩ : ∃M,M=root+1:=⟨_,rfl⟩
 have HM:=Lib.hid hM
 have hMN:M≤N:=by omega
 have hM1:M≤1000:=by omega
 have em:(root:Int)+1=(M:Int):=by omega
 have hw1:IntKind.i64.wrap (M:Int)=(M:Int):=by rw [IntKind.wrap_i64];omega
 have hd0:decide ((root:Int)<0)=false:=by simp
 have hd1:decide ((N:Int)≤(root:Int))=false:=by simp;omega
 have hrM:(root:Int)<(M:Int):=by omega
 have hMc:M≤cap:=by omega
 have hMc':(M:Int)≤(cap:Int):=by omega
 have hM0:0<M:=by omega
 clear he hv hN hl hy hM hc2 hp
 go_enter Tryz.func125,Tryz.ntmps125
 go_wp2_with fail
 go_step3
 go_wp2_with (at_make;go_loud (refine wpList_make_full _ rfl _ _ 56 rfl w.heap.size 61 i3 _ 3 Tryz.underlying56 hi3 hz30 hz31 .i64 .i64 (M:Int) (M:Int) M rfl rfl rfl rfl (by rw [hz32];omega) (by unfold maxLen;omega) (by simp) ?_))
 intro w1 own1 gr1
 have hF1:=FreeN.made own1
 have hC1 : ∀j,j<M→VC w1 (w.heap.size+1) j nV:=fun j hj=>by
  obtain⟨g',cap',e1,_,_,_,_,hc⟩:=own_cells own1 hM0
  injection e1 with e1
  injection e1 with e1
  injection e1 with e1
  subst e1
  exact⟨hc (j*3) _ (made3 _ _ _ M j 0 hj (by omega)),hc (j*3+1) _ (made3 _ _ _ M j 1 hj (by omega)),hc (j*3+2) _ (made3 _ _ _ M j 2 hj (by omega))⟩
 have X1:=Lib.hid (ext_grown ((Ext.refl w).alloc _) gr1 (fun k hk=>by cases hk))
 have xz:=ext_grown (Ext.refl _) gr1 (fun k hk=>by cases hk)
 have HX0:=Lib.hid (show (w1.cell? ⟨w.heap.size,0,none⟩=some (.int .i64 0)∧w1.cell? ⟨w.heap.size,1,none⟩=some (.int .i64 0)∧w1.cell? ⟨w.heap.size,2,none⟩=some (.string ⟨#[]⟩))∧w1.frozen? ⟨w.heap.size,0,none⟩=false∧w1.frozen? ⟨w.heap.size,1,none⟩=false∧w1.frozen? ⟨w.heap.size,2,none⟩=false from
  ⟨⟨xz.at (by go_simp),xz.at (by go_simp),xz.at (by go_simp)⟩,xz.unfrozen (p:=⟨w.heap.size,0,none⟩) (v:= .int .i64 0) (by go_simp) (by go_simp),xz.unfrozen (p:=⟨w.heap.size,1,none⟩) (v:= .int .i64 0) (by go_simp) (by go_simp),xz.unfrozen (p:=⟨w.heap.size,2,none⟩) (v:= .string ⟨#[]⟩) (by go_simp) (by go_simp)⟩)
 clear xz
 obtain⟨g,hg⟩ : ∃g,g=w.heap.size+1:=⟨_,rfl⟩
 have hF2:FreeN w1 g (M*3):=by
  rw [hg]
  exact hF1
 rw [←hg]at hC1
 have HG:=Lib.hid hg
 have HF2:=Lib.hid hF2
 have HC2:=Lib.hid hC1
 have HX1:=Lib.hid (show Ext w w1 from X1.out)
 try rw [←hg]
 clear hF1 hF2 own1 gr1 X1 hg hC1
 go_wp2_with fail
 refine wp_label ?_
 go_wp2_with fail
 go_loopg [30] M (fun gk vi wr=> ∃(k:Nat),k≤M∧gk=M - k∧vi = .int .i64 k∧Hid (FreeN wr g (M*3))∧Hid (∀j,j<M→VC wr g j ((evalAll es vals k).getD j nV))∧Hid (FreeN wr w.heap.size 3)∧Ext w wr)
 case atStart=>exact⟨0,by omega,rfl,rfl,HF2.out,HC2.out,(fun j hj=>by
  obtain⟨⟨a0,a1,a2⟩,b0,b1,b2⟩:=HX0.out
  rcases(by omega:j=0∨j=1∨j=2)with rfl | rfl | rfl
  ·exact⟨⟨_,a0⟩,b0⟩
  ·exact⟨⟨_,a1⟩,b1⟩
  ·exact⟨⟨_,a2⟩,b2⟩),HX1.out⟩
 case round =>
  clear HF2 HX1 HX0 HC2
  obtain⟨k,hk,rfl,rfl,HFR,HCC,HRS,hx⟩:=hrel
  by_cases hlt:k<M
  ·have hd:decide ((k:Int)<(M:Int))=true:=by simp;omega
   have hkM:(k:Int)<(M:Int):=by omega
   have hkn:k<es.length:=by have:=HN.out;omega
   obtain⟨c0,c1,c2,c3,c4,c5,c6⟩:=expr_at HE.out k hkn
   have hok:=HXO.out es[k] (List.getElem_mem hkn)
   have hput : ∀j,(evalAll es vals (k+1)).getD j nV=if j=k then stepE vals (evalAll es vals k) es[k]else(evalAll es vals k).getD j nV:=fun j=>by
    rw [evalAll_put,getElem!_pos es k hkn]
   have hDO : ∀v∈evalAll es vals k,okVal v:=ok_evalAll (fun z hz=>(HXO.out z hz).2) HVO.out k (by omega)
   generalize es[k]=x at c0 c1 c2 c3 c4 c5 c6 hok hput
   obtain⟨xo,xa,xb,xc,⟨xk,xn,xs⟩⟩:=x
   dsimp only at c0 c1 c2 c3 c4 c5 c6 hok
   have hdl:(evalAll es vals k).length=k:=evalAll_len es vals k
   have HDO:=Lib.hid hDO
   have HPUT:=Lib.hid hput
   clear hput hDO
   generalize hD:evalAll es vals k=D at HCC HPUT HDO hdl
   have HD:=Lib.hid hdl
   replace c0:=hx.at c0
   replace c1:=hx.at c1
   replace c2:=hx.at c2
   replace c3:=hx.at c3
   replace c4:=hx.at c4
   replace c5:=hx.at c5
   replace c6:=hx.at c6
   have HOK:=Lib.hid hok
   have e0:=cell_lt c0
   clear hok hdl hD
   go_wp2_with fail
   refine(operands_any ⟨xo,xa,xb,xc,⟨xk,xn,xs⟩⟩ HOK.out.1.1 HOK.out.1.2 _).mono ?_
   rintro e w2 ⟨v2,rfl,s2,x2⟩
   have a0:w2.cell? ⟨wr.heap.size,0,none⟩=some (.int .i64 xo):=x2.at (by go_simp)
   have a1:w2.cell? ⟨wr.heap.size,1,none⟩=some (.int .i64 xa):=x2.at (by go_simp)
   have a2:w2.cell? ⟨wr.heap.size,2,none⟩=some (.int .i64 xb):=x2.at (by go_simp)
   have a3:w2.cell? ⟨wr.heap.size,3,none⟩=some (.int .i64 xc):=x2.at (by go_simp)
   have a4:w2.cell? ⟨wr.heap.size,4,none⟩=some (.int .i64 xk):=x2.at (by go_simp)
   have a5:w2.cell? ⟨wr.heap.size,5,none⟩=some (.int .i64 xn):=x2.at (by go_simp)
   have a6:w2.cell? ⟨wr.heap.size,6,none⟩=some (.string xs):=x2.at (by go_simp)
   have X2:=Lib.hid (show Ext wr w2 from ((Ext.refl wr).alloc _).trans x2)
   have e2:=cell_lt a0
   obtain⟨p2,d2,rfl,hpc1,hpc2,hp2⟩:=s2.form
   have hleg:=legalE_iff k ⟨xo,xa,xb,xc,⟨xk,xn,xs⟩⟩
   have hoks:=opsE_ok (x:=⟨xo,xa,xb,xc,⟨xk,xn,xs⟩⟩) HOK.out.1
   have hol:=opsE_len ⟨xo,xa,xb,xc,⟨xk,xn,xs⟩⟩
   obtain⟨O,hO⟩ : ∃O,O=opsE ⟨xo,xa,xb,xc,⟨xk,xn,xs⟩⟩:=⟨_,rfl⟩
   rw [←hO]at hleg hoks hol s2 hpc1 hp2 ⊢
   obtain⟨n,hn⟩ : ∃n,n=O.length:=⟨_,rfl⟩
   rw [←hn]at hol s2 hpc1 hp2 ⊢
   dsimp only at hol
   have hn2:n≤2:=by have:=arityE_le xo;omega
   have HLEG:=Lib.hid hleg
   have HOKS:=Lib.hid hoks
   have HOL:=Lib.hid hol
   have HO:=Lib.hid hO
   have HNO:=Lib.hid hn
   have S2:=Lib.hid s2
   have HP2:=Lib.hid hp2
   clear x2 c0 c1 c2 c3 c4 c5 c6 e0 hleg hoks hol hO hn s2 hp2 hpc1 hpc2
   go_wp2_with fail
   have HFR2:=Lib.hid (HFR.out.ext X2.out)
   have HRS2:=Lib.hid (HRS.out.ext X2.out)
   have HCC2:=Lib.hid (show ∀j,j<M→VC w2 g j (D.getD j nV)from fun j hj=>(HCC.out j hj).ext X2.out)
   have HX2:=Lib.hid (hx.trans X2.out)
   clear HFR HRS HCC hx X2
   go_loopg [10,12,38] n (fun gj va vo vi wq=> ∃(j:Nat) (u:Value),j≤n∧gj=n - j∧vi = .int .i64 j∧u=va∧Hid (OwnOf Rep.val wq (fun _=>True) w2.heap.size 61 u ((O.take j).map (argE D)))∧Hid (∀o∈O.take j,0≤o∧o<k)∧Ext w2 wq)
   case atStart=>exact⟨0,_,by omega,rfl,rfl,rfl,OwnOf.nil _ _ _ _ _,(fun o ho=>by simp at ho),Ext.refl w2⟩
   case round =>
    obtain⟨j,u,hj,rfl,rfl,rfl,OW,HLJ,hq⟩:=hrel
    by_cases hjn:j<n
    ·obtain⟨b2,o2,rfl⟩:=HP2.out (by decide) (by omega)
     have hjl:j<O.length:=by have:=HNO.out;omega
     have sv:=S2.out
     rw [HNO.out]at sv
     obtain⟨d0,_⟩:=int_at sv j hjl
     replace d0:=hq.at d0
     have hdj:decide ((j:Int)<(n:Int))=true:=by simp;omega
     have hmem:O[j]∈O:=List.getElem_mem hjl
     have htk:O.take (j+1)=O.take j ++ [O[j]]:=List.take_succ_eq_append_getElem hjl
     have hoo:=HOKS.out O[j] hmem
     generalize O[j]=z at d0 htk hoo hmem
     have HMEM:=Lib.hid hmem
     have HTK:=Lib.hid htk
     have HOO:=Lib.hid hoo
     have e1:=cell_lt d0
     have ol1:((O.take j).map (argE D)).length≤2:=by rw [List.length_map,List.length_take];omega
     obtain⟨o',ho'⟩ : ∃o',o'=(O.take j).map (argE D):=⟨_,rfl⟩
     rw [←ho']at OW ol1
     have HO1:=Lib.hid ho'
     have B1:o'.length+1≤maxLen:=by unfold maxLen;omega
     have B2:(o'.length+1)*32≤140737488355328:=by omega
     clear hmem htk hoo sv ho'
     go_wp2_with fail
     refine(legal_any k z _).mono ?_
     rintro e w3 ⟨rfl,rfl⟩
     by_cases hlz:0≤z∧z<k
     ·have hb:(decide (0≤z)&&decide (z<(k:Int)))=true:=by simp;exact hlz
      rw [hb]
      obtain⟨m,rfl⟩ : ∃m:Nat,z=m:=⟨z.toNat,by omega⟩
      have hmk:m<k:=by omega
      have hmM:(m:Int)<(M:Int):=by omega
      obtain⟨q0,q1,q2⟩:=(HCC2.out m (by omega)).ext hq
      have hoy:=ok_getD HDO.out m
      have hyz:argE D (m:Int)=D.getD m nV:=rfl
      generalize D.getD m nV=yy at q0 q1 q2 hoy hyz
      have HYZ:=Lib.hid hyz
      have HOY:=Lib.hid hoy
      obtain⟨yk,yn,ys⟩:=yy
      dsimp only at q0 q1 q2
      have e5:=cell_lt q0
      clear hb hlz hyz hoy
      go_wp2_with (at_builtin;go_loud (refine wpList_append_one Rep.val (fun _=>True) rfl _ _ 56 rfl w2.heap.size 61 i3 _ 32 Tryz.underlying56 hi3 hz30 hz31 hz32 rfl (by decide) u o' rfl (OW.out.ext ((Ext.refl wr).alloc _)) ⟨wr.heap.size,0,none⟩ 1 ⟨yk,yn,ys⟩ [.int .i64 yk,.int .i64 yn,.string ys] rfl ⟨rfl,HOY.out⟩ (by exact cells_new wr [.int .i64 yk,.int .i64 yn,.string ys] _) B1 B2 (by exact(hq.trans ((Ext.refl wr).alloc _)).size) ?_))
      intro g3 cap3 w3 own gr _
      have hxx:Ext w2 w3:=Ext.grownNew (hq.trans ((Ext.refl wr).alloc _)) gr OW.out.base
      have OW2:=Lib.hid own
      clear own gr
      go_wp2_with fail
      go_roundg (n - (j+1))
      case measure=>omega
      case rel =>
       refine⟨j+1,_,by omega,rfl,by go_num,rfl,?_,?_,hxx⟩
       ·show OwnOf _ _ _ _ _ _ _
        have e9:(O.take (j+1)).map (argE D)=o' ++ [⟨yk,yn,ys⟩]:=by rw [HTK.out,List.map_append,←HO1.out,List.map_cons,HYZ.out];rfl
        rw [e9]
        exact OW2.out
       ·show ∀o∈O.take (j+1),_
        rw [HTK.out]
        intro o ho
        rcases List.mem_append.1 ho with ho | ho
        ·exact HLJ.out o ho
        ·rw [List.mem_singleton]at ho
         subst ho
         omega
     ·have hb:(decide (0≤z)&&decide (z<(k:Int)))=false:=by
       rw [Bool.eq_false_iff]
       intro hh
       simp only [Bool.and_eq_true,decide_eq_true_eq]at hh
       exact hlz hh
      rw [hb]
      have hnl:legalE k ⟨xo,xa,xb,xc,⟨xk,xn,xs⟩⟩=false:=by
       rw [Bool.eq_false_iff]
       intro hh
       exact hlz (HLEG.out.1 hh z HMEM.out)
      have HSAME:=Lib.hid (show ∀i,(evalAll es vals (k+1)).getD i nV=D.getD i nV from fun i=>by
       rw [HPUT.out]
       split
       ·rename_i e
        subst e
        unfold stepE
        rw [HD.out,hnl,if_neg (by decide),List.getD_eq_getElem?_getD,List.getElem?_eq_none (by have:=HD.out;omega)]
        rfl
       ·rfl)
      clear hb hlz hnl
      go_wp2_with fail
      go_roundg (M - (k+1))
      case measure=>omega
      case rel=>exact⟨k+1,by omega,rfl,by go_num,HFR2.out.ext hq,(fun i hi=>by rw [HSAME.out];exact(HCC2.out i hi).ext hq),HRS2.out.ext hq,HX2.out.trans hq⟩
    ·have hjn2:j=n:=by omega
     have hdj : ¬(j:Int)<(n:Int):=by omega
     have hall:O.take j=O:=by rw [hjn2,HNO.out,List.take_length]
     have HLA:=Lib.hid HLJ.out
     rw [hall]at OW HLA
     have hag:O.map (argE D)=argsE ⟨xo,xa,xb,xc,⟨xk,xn,xs⟩⟩ D:=by unfold argsE;rw [←HO.out]
     have hlen:(argsE ⟨xo,xa,xb,xc,⟨xk,xn,xs⟩⟩ D).length=(arityE xo).toNat:=by rw [←hag,List.length_map,←HNO.out,HOL.out]
     have hst:stepE vals D ⟨xo,xa,xb,xc,⟨xk,xn,xs⟩⟩=applyV ⟨xo,xa,xb,xc,⟨xk,xn,xs⟩⟩ ((argsE ⟨xo,xa,xb,xc,⟨xk,xn,xs⟩⟩ D).getD 0 nV) ((argsE ⟨xo,xa,xb,xc,⟨xk,xn,xs⟩⟩ D).getD 1 nV) vals:=by
      unfold stepE
      rw [HD.out,if_pos (HLEG.out.2 HLA.out)]
     rw [hag]at OW
     have HST:=Lib.hid hst
     have HLEN:=Lib.hid hlen
     replace a0:=hq.at a0
     replace a1:=hq.at a1
     replace a2:=hq.at a2
     replace a3:=hq.at a3
     replace a4:=hq.at a4
     replace a5:=hq.at a5
     replace a6:=hq.at a6
     replace e2:=cell_lt a0
     clear hall hag hlen hst hjn2 hjn
     go_wp2_with fail
     refine(apply_any ⟨xo,xa,xb,xc,⟨xk,xn,xs⟩⟩ _ (argsE ⟨xo,xa,xb,xc,⟨xk,xn,xs⟩⟩ D) HLEN.out _ vals _ OW.out.slice (HV.out.ext (HX2.out.trans hq).full)).mono ?_
     rintro e w3 ⟨rfl,x3⟩
     obtain⟨yy,hyy⟩ : ∃z,z=applyV ⟨xo,xa,xb,xc,⟨xk,xn,xs⟩⟩ ((argsE ⟨xo,xa,xb,xc,⟨xk,xn,xs⟩⟩ D).getD 0 nV) ((argsE ⟨xo,xa,xb,xc,⟨xk,xn,xs⟩⟩ D).getD 1 nV) vals:=⟨_,rfl⟩
     rw [←hyy]
     have HYY:=Lib.hid (show stepE vals D ⟨xo,xa,xb,xc,⟨xk,xn,xs⟩⟩=yy from by rw [HST.out,hyy])
     have HQ3:=Lib.hid (hq.trans x3)
     have HFR3:=Lib.hid (HFR2.out.ext HQ3.out)
     have HRS3:=Lib.hid (HRS2.out.ext HQ3.out)
     have HCC3:=Lib.hid (show ∀i,i<M→VC w3 g i (D.getD i nV)from fun i hi=>(HCC2.out i hi).ext HQ3.out)
     have HX3:=Lib.hid (HX2.out.trans HQ3.out)
     obtain⟨yk,yn,ys⟩:=yy
     obtain⟨⟨o0,p0⟩,f0⟩:=HFR3.out (k*3) (by omega)
     obtain⟨⟨o1,p1⟩,f1⟩:=HFR3.out (k*3+1) (by omega)
     obtain⟨⟨o2,p2'⟩,f2⟩:=HFR3.out (k*3+2) (by omega)
     have e3:=cell_lt p0
     have HGB:=Lib.hid (show w.heap.size≤g∧g≠w.heap.size from by have:=HG.out;omega)
     clear hyy HFR2 HRS2 HCC2 HX2 x3 a0 a1 a2 a3 a4 a5 a6 e2 HST hq OW
     unfold valV
     dsimp only
     go_wp2_with fail
     go_roundg (M - (k+1))
     case measure=>omega
     case rel =>
      refine⟨k+1,by omega,rfl,by go_num,((HFR3.out.set _ _).set _ _).set _ _,(fun i hi=> ?_),fun j hj=> ?_,Below.setCell (Below.setCell (Below.setCell HX3.out HGB.out.1 _) HGB.out.1 _) HGB.out.1 _⟩
      ·rw [HPUT.out,HYY.out]
       exact VC.put HFR3.out HCC3.out hlt ⟨yk,yn,ys⟩ i hi
      ·obtain⟨⟨u,hu⟩,hf⟩:=HRS3.out j hj
       exact⟨⟨u,cell_set (cell_set (cell_set hu HGB.out.2) HGB.out.2) HGB.out.2⟩,by go_simp⟩
  ·have hkM:k=M:=by omega
   have hd : ¬(k:Int)<(M:Int):=by omega
   obtain⟨s0,s1,s2⟩:=HCC.out root (by have:=HM.out;omega)
   have hyy:(evalAll es vals k).getD root nV=y:=by
    have h1:=HY.out
    have h2:=HN.out
    have h3:=HM.out
    rw [h1]
    unfold evalE
    rw [if_pos (by omega),Int.toNat_natCast,show k=root+1 by omega]
   rw [hyy]at s0 s1 s2
   obtain⟨⟨o0,p0⟩,f0⟩:=HRS.out 0 (by omega)
   obtain⟨⟨o1,p1⟩,f1⟩:=HRS.out 1 (by omega)
   obtain⟨⟨o2,p2⟩,f2⟩:=HRS.out 2 (by omega)
   have e3:=cell_lt s0
   have e4:=cell_lt p0
   have HXF:=Lib.hid hx
   clear hkM HCC HRS HFR hx hyy
   go_wp2_with fail
   exact bodyPost_ret (v:=valV y) (by simp [results,Tryz.results125,go_sem,p0,p1,p2]) rfl ⟨rfl,Below.setCell (Below.setCell (Below.setCell HXF.out (Nat.le_refl _) _) (Nat.le_refl _) _) (Nat.le_refl _) _⟩
end Go.Proofs.YtombmdaohcjokaaGreatDoor
namespace Go.Proofs.YtombmdaohcjokaaGreatDoor
open Go.RowKit
def projE (es:List ExprI) (keys:List Int) (vals:List Val):List Val:=keys.map fun k=>evalE es k vals
theorem projE_len (es:List ExprI) (keys:List Int) (vals:List Val):(projE es keys vals).length=keys.length:=List.length_map _
theorem projE_take (es:List ExprI) (keys:List Int) (vals:List Val) (k:Nat) (h:k<keys.length):projE es (keys.take (k+1)) vals=projE es (keys.take k) vals ++ [evalE es keys[k] vals]:=by
 rw [List.take_succ_eq_append_getElem h]
 unfold projE
 rw [List.map_append]
 rfl
theorem expr_oks {h:View} {v:Value} {xs:List ExprI} (k:SliceOf Rep.expr h v xs) : ∀x∈xs,okVal x.c:=fun x hx=>(expr_ok k x hx).2
def argsG (es:List ExprI) (arg:Int) (vss:List (List Val)):List Val:=(vss.map fun vs=>evalE es arg vs).filter fun v=>decide (v.kind≠0)
theorem argsG_take (es:List ExprI) (arg:Int) (vss:List (List Val)) (k:Nat) (h:k<vss.length):argsG es arg (vss.take (k+1))=argsG es arg (vss.take k)++if (evalE es arg vss[k]).kind=0 then []else [evalE es arg vss[k]]:=by
 unfold argsG
 rw [List.take_succ_eq_append_getElem h,List.map_append,List.filter_append]
 congr 1
 rw [List.map_cons,List.map_nil,List.filter_cons,List.filter_nil]
 by_cases e:(evalE es arg vss[k]).kind=0
 ·rw [if_pos e,if_neg (by simp [e])]
 ·rw [if_neg e,if_pos (by simp [e])]
theorem argsG_len (es:List ExprI) (arg:Int) (vss:List (List Val)):(argsG es arg vss).length≤vss.length:=by
 unfold argsG
 exact Nat.le_trans (List.length_filter_le _ _) (by simp)
def aggE (es:List ExprI) (kind arg:Int) (vss:List (List Val)):Val :=
 if kind=1 then intVal vss.length else
 if kind=2 then sumV (argsG es arg vss)else
 if kind=3 then(if argsG es arg vss = []then nV else pickMin (argsG es arg vss))else
 if kind=4 then(if argsG es arg vss = []then nV else pickMax (argsG es arg vss))else
 if argsG es arg vss = []then nV else nV
end Go.Proofs.YtombmdaohcjokaaGreatDoor
