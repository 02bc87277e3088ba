/- joined texts of a proof: EvalA, RefS, RefA, RefM, RefB, EvalB -/
import Derived.Test.YtkddkbpoefidpaaGreatDoorKI09
import Derived.Test.YtkddkbpoefidpaaGreatDoorKI01
import Derived.StillTailTactics
import Derived.BigQuiet
namespace Go.Proofs.YtkddkbpoefidpaaGreatDoor
open Go.RowKit
theorem arith_yes {op:Int} {a b:Val} (h1:a.kind=1) (h2:b.kind=1) (h:fit64 (arithI op a.n b.n)):arithV op a b=intVal (arithI op a.n b.n):=if_pos ⟨h1,h2,h⟩
theorem arith_no {op:Int} {a b:Val} (h : ¬(a.kind=1∧b.kind=1∧fit64 (arithI op a.n b.n))):arithV op a b=nV:=if_neg h
set_option maxRecDepth 100000 in
set_option maxHeartbeats 4000000 in
theorem arithmetic_add (a b:Val) (h1:a.kind=1) (h2:b.kind=1) (ha:okVal a) (hb:okVal b) (w:World):Calls Tryz.prog 217 #[.int .i64 3,valV a,valV b] w fun e w'=>e = .returned (valV (arithV 3 a b))∧Ext w w':=by
 have HY:=Lib.hid (arith_yes (op:=3) h1 h2)
 have HN:=Lib.hid (arith_no (op:=3) (a:=a) (b:=b))
 obtain⟨ak,an,sa⟩:=a
 obtain⟨bk,bn,sb⟩:=b
 dsimp only at h1 h2
 subst h1 h2
 obtain⟨z,hz⟩ : ∃z,arithV 3 ⟨1,an,sa⟩ ⟨1,bn,sb⟩=z:=⟨_,rfl⟩
 rw [hz]at HY HN ⊢
 have hra:=ha.2.1
 have hrb:=hb.2.1
 dsimp only at hra hrb
 have hsum:arithI 3 an bn=an+bn:=rfl
 unfold valV
 dsimp only
 clear hz ha hb
 by_cases hf:fit64 (an+bn)
 ·have h3:=HY.out (by rw [hsum];exact hf)
  rw [hsum]at h3
  subst h3
  unfold fit64 at hf
  obtain⟨f1,f2⟩:=hf
  clear HY HN hsum
  rcases Int.lt_trichotomy bn 0 with h | h | h
  ·have d1:decide (0<bn)=false:=by simp;omega
   have d2:decide (an<an+bn)=false:=by simp;omega
   clear hra hrb h
   go_enter Tryz.func217,Tryz.ntmps217
   go_wp2_with fail
   exact bodyPost_ret (v:=valV (intVal (an+bn))) (by simp [results,Tryz.results217,go_sem,valV,intVal];rfl) rfl ⟨rfl,(((Ext.refl w).alloc _).alloc _).alloc _⟩
  ·subst h
   clear hra hrb
   go_enter Tryz.func217,Tryz.ntmps217
   go_wp2_with fail
   exact bodyPost_ret (v:=valV (intVal (an+0))) (by simp [results,Tryz.results217,go_sem,valV,intVal];rfl) rfl ⟨rfl,(((Ext.refl w).alloc _).alloc _).alloc _⟩
  ·have d1:decide (0<bn)=true:=by simp;omega
   have d2:decide (an<an+bn)=true:=by simp;omega
   clear hra hrb h
   go_enter Tryz.func217,Tryz.ntmps217
   go_wp2_with fail
   exact bodyPost_ret (v:=valV (intVal (an+bn))) (by simp [results,Tryz.results217,go_sem,valV,intVal];rfl) rfl ⟨rfl,(((Ext.refl w).alloc _).alloc _).alloc _⟩
 ·have h3:=HN.out (by rintro⟨_,_,g⟩;rw [hsum]at g;exact hf g)
  subst h3
  unfold fit64 at hf
  obtain⟨n,hn⟩ : ∃n,IntKind.i64.wrap (an+bn)=n:=⟨_,rfl⟩
  have hn2:=hn
  rw [IntKind.wrap_i64]at hn2
  clear HY HN hsum
  rcases(show 0<bn∨bn≤0 by omega)with h | h
  ·have d1:decide (0<bn)=true:=by simp;omega
   have d2:decide (an<n)=false:=by simp;omega
   have d3:(bn==0)=false:=by simp;omega
   clear hra hrb h hf hn2
   go_enter Tryz.func217,Tryz.ntmps217
   go_wp2_with fail
   exact bodyPost_ret (v:=valV nV) (by simp [results,Tryz.results217,go_sem,valV,nV];rfl) rfl ⟨rfl,(((Ext.refl w).alloc _).alloc _).alloc _⟩
  ·have d1:decide (0<bn)=false:=by simp;omega
   have d2:decide (an<n)=true:=by simp;omega
   have d3:(bn==0)=false:=by simp;omega
   clear hra hrb h hf hn2
   go_enter Tryz.func217,Tryz.ntmps217
   go_wp2_with fail
   exact bodyPost_ret (v:=valV nV) (by simp [results,Tryz.results217,go_sem,valV,nV];rfl) rfl ⟨rfl,(((Ext.refl w).alloc _).alloc _).alloc _⟩
set_option maxRecDepth 100000 in
set_option maxHeartbeats 4000000 in
theorem arithmetic_sub (a b:Val) (h1:a.kind=1) (h2:b.kind=1) (ha:okVal a) (hb:okVal b) (w:World):Calls Tryz.prog 217 #[.int .i64 4,valV a,valV b] w fun e w'=>e = .returned (valV (arithV 4 a b))∧Ext w w':=by
 have HY:=Lib.hid (arith_yes (op:=4) h1 h2)
 have HN:=Lib.hid (arith_no (op:=4) (a:=a) (b:=b))
 obtain⟨ak,an,sa⟩:=a
 obtain⟨bk,bn,sb⟩:=b
 dsimp only at h1 h2
 subst h1 h2
 obtain⟨z,hz⟩ : ∃z,arithV 4 ⟨1,an,sa⟩ ⟨1,bn,sb⟩=z:=⟨_,rfl⟩
 rw [hz]at HY HN ⊢
 have hra:=ha.2.1
 have hrb:=hb.2.1
 dsimp only at hra hrb
 have hsum:arithI 4 an bn=an - bn:=rfl
 unfold valV
 dsimp only
 clear hz ha hb
 by_cases hf:fit64 (an - bn)
 ·have h3:=HY.out (by rw [hsum];exact hf)
  rw [hsum]at h3
  subst h3
  unfold fit64 at hf
  obtain⟨f1,f2⟩:=hf
  clear HY HN hsum
  rcases Int.lt_trichotomy bn 0 with h | h | h
  ·have d1:decide (0<bn)=false:=by simp;omega
   have d2:decide (an - bn<an)=false:=by simp;omega
   clear hra hrb h
   go_enter Tryz.func217,Tryz.ntmps217
   go_wp2_with fail
   exact bodyPost_ret (v:=valV (intVal (an - bn))) (by simp [results,Tryz.results217,go_sem,valV,intVal];rfl) rfl ⟨rfl,(((Ext.refl w).alloc _).alloc _).alloc _⟩
  ·subst h
   clear hra hrb
   go_enter Tryz.func217,Tryz.ntmps217
   go_wp2_with fail
   exact bodyPost_ret (v:=valV (intVal (an - 0))) (by simp [results,Tryz.results217,go_sem,valV,intVal];rfl) rfl ⟨rfl,(((Ext.refl w).alloc _).alloc _).alloc _⟩
  ·have d1:decide (0<bn)=true:=by simp;omega
   have d2:decide (an - bn<an)=true:=by simp;omega
   clear hra hrb h
   go_enter Tryz.func217,Tryz.ntmps217
   go_wp2_with fail
   exact bodyPost_ret (v:=valV (intVal (an - bn))) (by simp [results,Tryz.results217,go_sem,valV,intVal];rfl) rfl ⟨rfl,(((Ext.refl w).alloc _).alloc _).alloc _⟩
 ·have h3:=HN.out (by rintro⟨_,_,g⟩;rw [hsum]at g;exact hf g)
  subst h3
  unfold fit64 at hf
  obtain⟨n,hn⟩ : ∃n,IntKind.i64.wrap (an - bn)=n:=⟨_,rfl⟩
  have hn2:=hn
  rw [IntKind.wrap_i64]at hn2
  clear HY HN hsum
  rcases(show 0<bn∨bn≤0 by omega)with h | h
  ·have d1:decide (0<bn)=true:=by simp;omega
   have d2:decide (n<an)=false:=by simp;omega
   have d3:(bn==0)=false:=by simp;omega
   clear hra hrb h hf hn2
   go_enter Tryz.func217,Tryz.ntmps217
   go_wp2_with fail
   exact bodyPost_ret (v:=valV nV) (by simp [results,Tryz.results217,go_sem,valV,nV];rfl) rfl ⟨rfl,(((Ext.refl w).alloc _).alloc _).alloc _⟩
  ·have d1:decide (0<bn)=false:=by simp;omega
   have d2:decide (n<an)=true:=by simp;omega
   have d3:(bn==0)=false:=by simp;omega
   clear hra hrb h hf hn2
   go_enter Tryz.func217,Tryz.ntmps217
   go_wp2_with fail
   exact bodyPost_ret (v:=valV nV) (by simp [results,Tryz.results217,go_sem,valV,nV];rfl) rfl ⟨rfl,(((Ext.refl w).alloc _).alloc _).alloc _⟩
set_option maxRecDepth 100000 in
set_option maxHeartbeats 4000000 in
theorem arithmetic_mul (a b:Val) (h1:a.kind=1) (h2:b.kind=1) (ha:okVal a) (hb:okVal b) (w:World):Calls Tryz.prog 217 #[.int .i64 5,valV a,valV b] w fun e w'=>e = .returned (valV (arithV 5 a b))∧Ext w w':=by
 have HY:=Lib.hid (arith_yes (op:=5) h1 h2)
 have HN:=Lib.hid (arith_no (op:=5) (a:=a) (b:=b))
 have HA:=Lib.hid (show fit64 a.n from ha.2.1)
 have HB:=Lib.hid (show fit64 b.n from hb.2.1)
 obtain⟨ak,an,sa⟩:=a
 obtain⟨bk,bn,sb⟩:=b
 dsimp only at h1 h2 HA HB
 subst h1 h2
 obtain⟨z,hz⟩ : ∃z,arithV 5 ⟨1,an,sa⟩ ⟨1,bn,sb⟩=z:=⟨_,rfl⟩
 rw [hz]at HY HN ⊢
 have hsum:arithI 5 an bn=an*bn:=rfl
 have HS:=Lib.hid hsum
 unfold valV
 dsimp only
 clear hz ha hb hsum
 go_enter Tryz.func217,Tryz.ntmps217
 go_wp2_with fail
 refine(multiply_any an bn HA.out HB.out _).mono ?_
 rintro e w1 ⟨⟨n,rfl,hn⟩,rfl⟩
 by_cases hf:fit64 (an*bn)
 ·have h3:=HY.out (by rw [HS.out];exact hf)
  have hn2:=hn hf
  have hd:decide (fit64 (an*bn))=true:=decide_eq_true hf
  rw [hd]
  rw [HS.out,←hn2]at h3
  subst h3
  clear HY HN HS hn hf hn2 hd
  go_wp2_with fail
  exact bodyPost_ret (v:=valV (intVal n)) (by simp [results,Tryz.results217,go_sem,valV,intVal];rfl) rfl ⟨rfl,(((Ext.refl w).alloc _).alloc _).alloc _⟩
 ·have h3:=HN.out (by rintro⟨_,_,g⟩;rw [HS.out]at g;exact hf g)
  have hd:decide (fit64 (an*bn))=false:=decide_eq_false hf
  rw [hd]
  subst h3
  clear HY HN HS hn hf hd
  go_wp2_with fail
  exact bodyPost_ret (v:=valV nV) (by simp [results,Tryz.results217,go_sem,valV,nV];rfl) rfl ⟨rfl,(((Ext.refl w).alloc _).alloc _).alloc _⟩
set_option maxRecDepth 100000 in
set_option maxHeartbeats 4000000 in
theorem arithmetic_any (op:Int) (hop:op=3∨op=4∨op=5) (a b:Val) (ha:okVal a) (hb:okVal b) (w:World):Calls Tryz.prog 217 #[.int .i64 op,valV a,valV b] w fun e w'=>e = .returned (valV (arithV op a b))∧Ext w w':=by
 by_cases h1:a.kind=1
 ·by_cases h2:b.kind=1
  ·rcases hop with rfl | rfl | rfl
   ·exact arithmetic_add a b h1 h2 ha hb w
   ·exact arithmetic_sub a b h1 h2 ha hb w
   ·exact arithmetic_mul a b h1 h2 ha hb w
  ·have h3:arithV op a b=nV:=arith_no fun g=>h2 g.2.1
   rw [h3]
   obtain⟨ak,an,sa⟩:=a
   obtain⟨bk,bn,sb⟩:=b
   dsimp only at h1 h2
   subst h1
   have d:(bk != 1)=true:=by simp [h2]
   unfold valV
   dsimp only
   clear h2 h3 ha hb hop
   go_enter Tryz.func217,Tryz.ntmps217
   go_wp2_with fail
   exact bodyPost_ret (v:=valV nV) (by simp [results,Tryz.results217,go_sem,valV,nV];rfl) rfl ⟨rfl,(((Ext.refl w).alloc _).alloc _).alloc _⟩
 ·have h3:arithV op a b=nV:=arith_no fun g=>h1 g.1
  rw [h3]
  obtain⟨ak,an,sa⟩:=a
  obtain⟨bk,bn,sb⟩:=b
  dsimp only at h1
  have d:(ak != 1)=true:=by simp [h1]
  unfold valV
  dsimp only
  clear h1 h3 ha hb hop
  go_enter Tryz.func217,Tryz.ntmps217
  go_wp2_with fail
  exact bodyPost_ret (v:=valV nV) (by simp [results,Tryz.results217,go_sem,valV,nV];rfl) rfl ⟨rfl,(((Ext.refl w).alloc _).alloc _).alloc _⟩
end Go.Proofs.YtkddkbpoefidpaaGreatDoor
namespace Go.Proofs.YtkddkbpoefidpaaGreatDoor
open Go.RowKit
theorem ext_set3 {w W:World} {B:Nat} (h:Ext w W) (hB:w.heap.size≤B) (u0 u1 u2:Value):Ext w (((W.setCell ⟨B,0,none⟩ u0).setCell ⟨B,1,none⟩ u1).setCell ⟨B,2,none⟩ u2) :=
 Below.setCell (Below.setCell (Below.setCell h hB u0) hB u1) hB u2
end Go.Proofs.YtkddkbpoefidpaaGreatDoor
namespace Go.Proofs.YtkddkbpoefidpaaGreatDoor
open Go.RowKit
set_option maxHeartbeats 1000000 in
theorem refOperands_any (op:Int) (w:World):Calls Tryz.prog 238 #[.int .i64 op] w fun e w'=>e = .returned (.int .i64 (arityE op))∧w=w':=by
 by_cases h:1≤op∧op≤11
 ·have h2:op=1∨op=2∨op=3∨op=4∨op=5∨op=6∨op=7∨op=8∨op=9∨op=10∨op=11:=by omega
  clear h
  rcases h2 with rfl | rfl | rfl | rfl | rfl | rfl | rfl | rfl | rfl | rfl | rfl
  all_goals
   go_enter Tryz.func238,Tryz.ntmps238
   go_wp2_with fail
   go_ret
   exact⟨rfl,rfl⟩
 ·have b1:(op==1)=false:=by simp;omega
  have b2:(op==2)=false:=by simp;omega
  have b3:(op==3)=false:=by simp;omega
  have b4:(op==4)=false:=by simp;omega
  have b5:(op==5)=false:=by simp;omega
  have b6:(op==6)=false:=by simp;omega
  have b7:(op==7)=false:=by simp;omega
  have b8:(op==8)=false:=by simp;omega
  have b9:(op==9)=false:=by simp;omega
  have b10:(op==10)=false:=by simp;omega
  have b11:(op==11)=false:=by simp;omega
  have ha:arityE op = -1:=by
   unfold arityE
   rw [if_neg (by omega),if_neg (by omega),if_neg (by omega)]
  rw [ha]
  clear h ha
  go_enter Tryz.func238,Tryz.ntmps238
  go_wp2_with fail
  go_ret
  exact⟨rfl,rfl⟩
set_option maxHeartbeats 1000000 in
theorem refBoolean_any (b:Bool) (w:World):Calls Tryz.prog 240 #[.bool b] w fun e w'=>e = .returned (valV (boolV b))∧Ext w w':=by
 cases b
 ·go_enter Tryz.func240,Tryz.ntmps240
  go_wp2_with fail
  exact bodyPost_ret (v:=valV (boolV false)) (by simp [results,Tryz.results240,go_sem,valV,boolV];rfl) rfl ⟨rfl,(Ext.refl w).alloc _⟩
 ·go_enter Tryz.func240,Tryz.ntmps240
  go_wp2_with fail
  exact bodyPost_ret (v:=valV (boolV true)) (by simp [results,Tryz.results240,go_sem,valV,boolV];rfl) rfl ⟨rfl,(Ext.refl w).alloc _⟩
set_option maxHeartbeats 1000000 in
theorem refTrue_any (v:Val) (w:World):Calls Tryz.prog 126 #[valV v] w fun e w'=>e = .returned (.bool (trueV v))∧Ext w w':=by
 obtain⟨k,n,s⟩:=v
 unfold trueV valV
 dsimp only
 by_cases h:k=3
 ·subst h
  have d:decide ((3:Int)=3)=true:=rfl
  have e:(n==1)=decide (n=1):=by rw [Bool.eq_iff_iff];simp
  have HE:=Lib.hid e
  rw [d,Bool.true_and]
  clear d e
  go_enter Tryz.func126,Tryz.ntmps126
  go_wp2_with fail
  go_ret
  exact⟨ret_bool HE.out,(Ext.refl w).alloc _⟩
 ·have b:(k==3)=false:=by simp [h]
  have d:decide (k=3)=false:=decide_eq_false h
  rw [d,Bool.false_and]
  clear d h
  go_enter Tryz.func126,Tryz.ntmps126
  go_wp2_with fail
  go_ret
  exact⟨rfl,(Ext.refl w).alloc _⟩
set_option maxRecDepth 100000 in
set_option maxHeartbeats 4000000 in
theorem refArith_add (a b:Val) (h1:a.kind=1) (h2:b.kind=1) (ha:okVal a) (hb:okVal b) (w:World):Calls Tryz.prog 241 #[.int .i64 3,valV a,valV b] w fun e w'=>e = .returned (valV (arithV 3 a b))∧Ext w w':=by
 have HY:=Lib.hid (arith_yes (op:=3) h1 h2)
 have HN:=Lib.hid (arith_no (op:=3) (a:=a) (b:=b))
 obtain⟨ak,an,sa⟩:=a
 obtain⟨bk,bn,sb⟩:=b
 dsimp only at h1 h2
 subst h1 h2
 obtain⟨z,hz⟩ : ∃z,arithV 3 ⟨1,an,sa⟩ ⟨1,bn,sb⟩=z:=⟨_,rfl⟩
 rw [hz]at HY HN ⊢
 have hra:=ha.2.1
 have hrb:=hb.2.1
 dsimp only at hra hrb
 have hsum:arithI 3 an bn=an+bn:=rfl
 unfold valV
 dsimp only
 clear hz ha hb
 by_cases hf:fit64 (an+bn)
 ·have h3:=HY.out (by rw [hsum];exact hf)
  rw [hsum]at h3
  subst h3
  unfold fit64 at hf
  obtain⟨f1,f2⟩:=hf
  clear HY HN hsum
  rcases Int.lt_trichotomy bn 0 with h | h | h
  ·have d1:decide (0<bn)=false:=by simp;omega
   have d2:decide (an<an+bn)=false:=by simp;omega
   clear hra hrb h
   go_enter Tryz.func241,Tryz.ntmps241
   go_wp2_with fail
   go_quiet (fail)
   go_wp2_with fail
   exact bodyPost_ret (v:=valV (intVal (an+bn))) (by simp [results,Tryz.results241,go_sem,valV,intVal];rfl) rfl ⟨rfl,ext_set3 (((((Ext.refl w).alloc _).alloc _).alloc _).drewN _) (by omega) _ _ _⟩
  ·subst h
   clear hra hrb
   go_enter Tryz.func241,Tryz.ntmps241
   go_wp2_with fail
   go_quiet (fail)
   go_wp2_with fail
   exact bodyPost_ret (v:=valV (intVal (an+0))) (by simp [results,Tryz.results241,go_sem,valV,intVal];rfl) rfl ⟨rfl,ext_set3 (((((Ext.refl w).alloc _).alloc _).alloc _).drewN _) (by omega) _ _ _⟩
  ·have d1:decide (0<bn)=true:=by simp;omega
   have d2:decide (an<an+bn)=true:=by simp;omega
   clear hra hrb h
   go_enter Tryz.func241,Tryz.ntmps241
   go_wp2_with fail
   go_quiet (fail)
   go_wp2_with fail
   exact bodyPost_ret (v:=valV (intVal (an+bn))) (by simp [results,Tryz.results241,go_sem,valV,intVal];rfl) rfl ⟨rfl,ext_set3 (((((Ext.refl w).alloc _).alloc _).alloc _).drewN _) (by omega) _ _ _⟩
 ·have h3:=HN.out (by rintro⟨_,_,g⟩;rw [hsum]at g;exact hf g)
  subst h3
  unfold fit64 at hf
  obtain⟨n,hn⟩ : ∃n,IntKind.i64.wrap (an+bn)=n:=⟨_,rfl⟩
  have hn2:=hn
  rw [IntKind.wrap_i64]at hn2
  clear HY HN hsum
  rcases(show 0<bn∨bn≤0 by omega)with h | h
  ·have d1:decide (0<bn)=true:=by simp;omega
   have d2:decide (an<n)=false:=by simp;omega
   have d3:(bn==0)=false:=by simp;omega
   clear hra hrb h hf hn2
   go_enter Tryz.func241,Tryz.ntmps241
   go_wp2_with fail
   go_quiet (fail)
   go_wp2_with fail
   exact bodyPost_ret (v:=valV nV) (by simp [results,Tryz.results241,go_sem,valV,nV];rfl) rfl ⟨rfl,ext_set3 (((((Ext.refl w).alloc _).alloc _).alloc _).drewN _) (by omega) _ _ _⟩
  ·have d1:decide (0<bn)=false:=by simp;omega
   have d2:decide (an<n)=true:=by simp;omega
   have d3:(bn==0)=false:=by simp;omega
   clear hra hrb h hf hn2
   go_enter Tryz.func241,Tryz.ntmps241
   go_wp2_with fail
   go_quiet (fail)
   go_wp2_with fail
   exact bodyPost_ret (v:=valV nV) (by simp [results,Tryz.results241,go_sem,valV,nV];rfl) rfl ⟨rfl,ext_set3 (((((Ext.refl w).alloc _).alloc _).alloc _).drewN _) (by omega) _ _ _⟩
set_option maxRecDepth 100000 in
set_option maxHeartbeats 4000000 in
theorem refArith_sub (a b:Val) (h1:a.kind=1) (h2:b.kind=1) (ha:okVal a) (hb:okVal b) (w:World):Calls Tryz.prog 241 #[.int .i64 4,valV a,valV b] w fun e w'=>e = .returned (valV (arithV 4 a b))∧Ext w w':=by
 have HY:=Lib.hid (arith_yes (op:=4) h1 h2)
 have HN:=Lib.hid (arith_no (op:=4) (a:=a) (b:=b))
 obtain⟨ak,an,sa⟩:=a
 obtain⟨bk,bn,sb⟩:=b
 dsimp only at h1 h2
 subst h1 h2
 obtain⟨z,hz⟩ : ∃z,arithV 4 ⟨1,an,sa⟩ ⟨1,bn,sb⟩=z:=⟨_,rfl⟩
 rw [hz]at HY HN ⊢
 have hra:=ha.2.1
 have hrb:=hb.2.1
 dsimp only at hra hrb
 have hsum:arithI 4 an bn=an - bn:=rfl
 unfold valV
 dsimp only
 clear hz ha hb
 by_cases hf:fit64 (an - bn)
 ·have h3:=HY.out (by rw [hsum];exact hf)
  rw [hsum]at h3
  subst h3
  unfold fit64 at hf
  obtain⟨f1,f2⟩:=hf
  clear HY HN hsum
  rcases Int.lt_trichotomy bn 0 with h | h | h
  ·have d1:decide (0<bn)=false:=by simp;omega
   have d2:decide (an - bn<an)=false:=by simp;omega
   clear hra hrb h
   go_enter Tryz.func241,Tryz.ntmps241
   go_wp2_with fail
   go_quiet (fail)
   go_wp2_with fail
   exact bodyPost_ret (v:=valV (intVal (an - bn))) (by simp [results,Tryz.results241,go_sem,valV,intVal];rfl) rfl ⟨rfl,ext_set3 (((((Ext.refl w).alloc _).alloc _).alloc _).drewN _) (by omega) _ _ _⟩
  ·subst h
   clear hra hrb
   go_enter Tryz.func241,Tryz.ntmps241
   go_wp2_with fail
   go_quiet (fail)
   go_wp2_with fail
   exact bodyPost_ret (v:=valV (intVal (an - 0))) (by simp [results,Tryz.results241,go_sem,valV,intVal];rfl) rfl ⟨rfl,ext_set3 (((((Ext.refl w).alloc _).alloc _).alloc _).drewN _) (by omega) _ _ _⟩
  ·have d1:decide (0<bn)=true:=by simp;omega
   have d2:decide (an - bn<an)=true:=by simp;omega
   clear hra hrb h
   go_enter Tryz.func241,Tryz.ntmps241
   go_wp2_with fail
   go_quiet (fail)
   go_wp2_with fail
   exact bodyPost_ret (v:=valV (intVal (an - bn))) (by simp [results,Tryz.results241,go_sem,valV,intVal];rfl) rfl ⟨rfl,ext_set3 (((((Ext.refl w).alloc _).alloc _).alloc _).drewN _) (by omega) _ _ _⟩
 ·have h3:=HN.out (by rintro⟨_,_,g⟩;rw [hsum]at g;exact hf g)
  subst h3
  unfold fit64 at hf
  obtain⟨n,hn⟩ : ∃n,IntKind.i64.wrap (an - bn)=n:=⟨_,rfl⟩
  have hn2:=hn
  rw [IntKind.wrap_i64]at hn2
  clear HY HN hsum
  rcases(show 0<bn∨bn≤0 by omega)with h | h
  ·have d1:decide (0<bn)=true:=by simp;omega
   have d2:decide (n<an)=false:=by simp;omega
   have d3:(bn==0)=false:=by simp;omega
   clear hra hrb h hf hn2
   go_enter Tryz.func241,Tryz.ntmps241
   go_wp2_with fail
   go_quiet (fail)
   go_wp2_with fail
   exact bodyPost_ret (v:=valV nV) (by simp [results,Tryz.results241,go_sem,valV,nV];rfl) rfl ⟨rfl,ext_set3 (((((Ext.refl w).alloc _).alloc _).alloc _).drewN _) (by omega) _ _ _⟩
  ·have d1:decide (0<bn)=false:=by simp;omega
   have d2:decide (n<an)=true:=by simp;omega
   have d3:(bn==0)=false:=by simp;omega
   clear hra hrb h hf hn2
   go_enter Tryz.func241,Tryz.ntmps241
   go_wp2_with fail
   go_quiet (fail)
   go_wp2_with fail
   exact bodyPost_ret (v:=valV nV) (by simp [results,Tryz.results241,go_sem,valV,nV];rfl) rfl ⟨rfl,ext_set3 (((((Ext.refl w).alloc _).alloc _).alloc _).drewN _) (by omega) _ _ _⟩
end Go.Proofs.YtkddkbpoefidpaaGreatDoor
namespace Go.Proofs.YtkddkbpoefidpaaGreatDoor
open Go.RowKit
theorem wrap_fit {p:Int} (h:fit64 p):IntKind.i64.wrap p=p:=by rw [IntKind.wrap_i64];unfold fit64 at h;omega
theorem mulq_yes {x y:Int} (hx:fit64 x) (h0:y≠0) (h:fit64 (x*y)):IntKind.i64.wrap ((IntKind.i64.wrap (x*y)).tdiv y)=x:=by
 rw [wrap_fit h,Int.mul_tdiv_cancel _ h0,wrap_fit hx]
theorem mulq_no {x y:Int} (hx:fit64 x) (hy:fit64 y) (h0:y≠0) (h1:y≠1) (h:IntKind.i64.wrap ((IntKind.i64.wrap (x*y)).tdiv y)=x) (n2 : ¬(y = -1∧x = -9223372036854775808)):fit64 (x*y):=by
 unfold fit64 at hx hy
 by_cases hm:y = -1
 ·subst hm
  unfold fit64
  omega
 ·obtain⟨p,hp⟩ : ∃p,p=x*y:=⟨_,rfl⟩
  rw [←hp]at h ⊢
  obtain⟨z,hz⟩ : ∃z,z=IntKind.i64.wrap p:=⟨_,rfl⟩
  rw [←hz]at h
  rw [IntKind.wrap_i64]at hz
  obtain⟨q,hq⟩ : ∃q,q=z.tdiv y:=⟨_,rfl⟩
  rw [←hq]at h
  have hqn:q.natAbs=z.natAbs / y.natAbs:=by rw [hq];exact Int.natAbs_tdiv z y
  have hq2:q.natAbs≤z.natAbs / 2:=by rw [hqn];exact Nat.div_le_div_left (by omega) (by omega)
  rw [IntKind.wrap_i64]at h
  have hqx:q=x:=by omega
  obtain⟨r,hr⟩ : ∃r,r=z.tmod y:=⟨_,rfl⟩
  have hrn:r.natAbs=z.natAbs % y.natAbs:=by rw [hr];exact Int.natAbs_tmod z y
  have hr2:r.natAbs<y.natAbs:=by rw [hrn];exact Nat.mod_lt _ (by omega)
  have hs:r+y*q=z:=by rw [hr,hq];exact Int.tmod_add_mul_tdiv z y
  have hs2:r+p=z:=by rw [hp,←hqx,Int.mul_comm q y];exact hs
  unfold fit64
  omega
set_option maxRecDepth 100000 in
set_option maxHeartbeats 8000000 in
theorem refArith_mul (a b:Val) (h1:a.kind=1) (h2:b.kind=1) (ha:okVal a) (hb:okVal b) (w:World):Calls Tryz.prog 241 #[.int .i64 5,valV a,valV b] w fun e w'=>e = .returned (valV (arithV 5 a b))∧Ext w w':=by
 have HY:=Lib.hid (arith_yes (op:=5) h1 h2)
 have HN:=Lib.hid (arith_no (op:=5) (a:=a) (b:=b))
 have HA:=Lib.hid (show fit64 a.n from ha.2.1)
 have HB:=Lib.hid (show fit64 b.n from hb.2.1)
 obtain⟨ak,an,sa⟩:=a
 obtain⟨bk,bn,sb⟩:=b
 dsimp only at h1 h2 HA HB
 subst h1 h2
 obtain⟨z,hz⟩ : ∃z,arithV 5 ⟨1,an,sa⟩ ⟨1,bn,sb⟩=z:=⟨_,rfl⟩
 rw [hz]at HY HN ⊢
 have hsum:arithI 5 an bn=an*bn:=rfl
 have HS:=Lib.hid hsum
 unfold valV
 dsimp only
 clear hz ha hb hsum
 obtain⟨n,hn⟩ : ∃n,IntKind.i64.wrap (an*bn)=n:=⟨_,rfl⟩
 by_cases hf:fit64 (an*bn)
 ·have h3:=HY.out (by rw [HS.out];exact hf)
  have hne:an*bn=n:=by rw [←hn];exact(wrap_fit hf).symm
  rw [HS.out,hne]at h3
  subst h3
  clear HY HN HS
  by_cases x0:an=0
  ·subst x0
   have hn0:n=0:=by rw [←hne];simp
   subst hn0
   clear hne hn hf
   go_enter Tryz.func241,Tryz.ntmps241
   go_wp2_with fail
   go_quiet (fail)
   go_wp2_with fail
   all_goals exact bodyPost_ret (v:=valV (intVal _)) (by simp [results,Tryz.results241,go_sem,valV,intVal];rfl) rfl ⟨rfl,ext_set3 (((((Ext.refl w).alloc _).alloc _).alloc _).drewN _) (by omega) _ _ _⟩
  have bx0:(an==0)=false:=by simp [x0]
  by_cases y0:bn=0
  ·subst y0
   have hn0:n=0:=by rw [←hne];simp
   subst hn0
   clear hne hn hf x0
   go_enter Tryz.func241,Tryz.ntmps241
   go_wp2_with fail
   go_quiet (fail)
   go_wp2_with fail
   all_goals exact bodyPost_ret (v:=valV (intVal _)) (by simp [results,Tryz.results241,go_sem,valV,intVal];rfl) rfl ⟨rfl,ext_set3 (((((Ext.refl w).alloc _).alloc _).alloc _).drewN _) (by omega) _ _ _⟩
  have by0:(bn==0)=false:=by simp [y0]
  by_cases x1:an=1
  ·subst x1
   have hn1:n=bn:=by rw [←hne];simp
   subst hn1
   have hwb:=wrap_fit HB.out
   clear hne hn hf x0 y0
   go_enter Tryz.func241,Tryz.ntmps241
   go_wp2_with fail
   go_quiet (fail)
   go_wp2_with fail
   all_goals exact bodyPost_ret (v:=valV (intVal _)) (by simp [results,Tryz.results241,go_sem,valV,intVal];rfl) rfl ⟨rfl,ext_set3 (((((Ext.refl w).alloc _).alloc _).alloc _).drewN _) (by omega) _ _ _⟩
  have bx1:(an==1)=false:=by simp [x1]
  by_cases y1:bn=1
  ·subst y1
   have hn1:n=an:=by rw [←hne];simp
   subst hn1
   have hwb:=wrap_fit HA.out
   clear hne hn hf x0 y0 x1
   go_enter Tryz.func241,Tryz.ntmps241
   go_wp2_with fail
   go_quiet (fail)
   go_wp2_with fail
   all_goals exact bodyPost_ret (v:=valV (intVal _)) (by simp [results,Tryz.results241,go_sem,valV,intVal];rfl) rfl ⟨rfl,ext_set3 (((((Ext.refl w).alloc _).alloc _).alloc _).drewN _) (by omega) _ _ _⟩
  have by1:(bn==1)=false:=by simp [y1]
  have hq:=mulq_yes HA.out y0 hf
  rw [hn]at hq
  unfold fit64 at hf
  by_cases xm:an = -1
  ·subst xm
   have bm:(bn == -9223372036854775808)=false:=by simp;omega
   by_cases ym:bn = -1
   ·subst ym
    have hn1:n=1:=by rw [←hne];rfl
    subst hn1
    clear hne hn hq hf x0 y0 x1 y1
    go_enter Tryz.func241,Tryz.ntmps241
    go_wp2_with fail
    go_quiet (fail)
    go_wp2_with fail
    all_goals exact bodyPost_ret (v:=valV (intVal _)) (by simp [results,Tryz.results241,go_sem,valV,intVal];rfl) rfl ⟨rfl,ext_set3 (((((Ext.refl w).alloc _).alloc _).alloc _).drewN _) (by omega) _ _ _⟩
   have bym:(bn == -1)=false:=by simp [ym]
   have hn2:IntKind.i64.wrap (-bn)=n:=by rw [←hn];congr 1;omega
   clear hne hf x0 x1 y1 ym
   go_enter Tryz.func241,Tryz.ntmps241
   go_wp2_with fail
   go_quiet (fail)
   go_wp2_with fail
   all_goals exact bodyPost_ret (v:=valV (intVal _)) (by simp [results,Tryz.results241,go_sem,valV,intVal];rfl) rfl ⟨rfl,ext_set3 (((((Ext.refl w).alloc _).alloc _).alloc _).drewN _) (by omega) _ _ _⟩
  have bxm:(an == -1)=false:=by simp [xm]
  by_cases ym:bn = -1
  ·subst ym
   have bm:(an == -9223372036854775808)=false:=by simp;omega
   have hn2:IntKind.i64.wrap (-an)=n:=by rw [←hn];congr 1;omega
   have hn3:IntKind.i64.wrap (an * -1)=n:=hn
   have hq2:IntKind.i64.wrap (-n)=an:=by have h:=hq;rwa [Int.tdiv_neg,Int.tdiv_one]at h
   clear hne hf x0 y0 x1 y1 xm
   go_enter Tryz.func241,Tryz.ntmps241
   go_wp2_with fail
   go_quiet (fail)
   go_wp2_with fail
   all_goals exact bodyPost_ret (v:=valV (intVal _)) (by simp [results,Tryz.results241,go_sem,valV,intVal];rfl) rfl ⟨rfl,ext_set3 (((((Ext.refl w).alloc _).alloc _).alloc _).drewN _) (by omega) _ _ _⟩
  have bym:(bn == -1)=false:=by simp [ym]
  clear hne hf x0 x1 y1 xm ym
  go_enter Tryz.func241,Tryz.ntmps241
  go_wp2_with fail
  go_quiet (fail)
  go_wp2_with fail
  all_goals exact bodyPost_ret (v:=valV (intVal _)) (by simp [results,Tryz.results241,go_sem,valV,intVal];rfl) rfl ⟨rfl,ext_set3 (((((Ext.refl w).alloc _).alloc _).alloc _).drewN _) (by omega) _ _ _⟩
 ·have h3:=HN.out (by rintro⟨_,_,g⟩;rw [HS.out]at g;exact hf g)
  subst h3
  clear HY HN HS
  have ra:=HA.out
  have rb:=HB.out
  have x0:an≠0:=fun e=>hf (by rw [e];unfold fit64;omega)
  have y0:bn≠0:=fun e=>hf (by rw [e];unfold fit64;omega)
  have x1:an≠1:=fun e=>hf (by rw [e,Int.one_mul];exact rb)
  have y1:bn≠1:=fun e=>hf (by rw [e,Int.mul_one];exact ra)
  have bx0:(an==0)=false:=by simp [x0]
  have by0:(bn==0)=false:=by simp [y0]
  have bx1:(an==1)=false:=by simp [x1]
  have by1:(bn==1)=false:=by simp [y1]
  obtain⟨q,hq⟩ : ∃q,IntKind.i64.wrap (n.tdiv bn)=q:=⟨_,rfl⟩
  by_cases hqa:q=an
  ·subst hqa
   have hbad:bn = -1∧q = -9223372036854775808:=by
    by_cases g:bn = -1∧q = -9223372036854775808
    ·exact g
    ·exact absurd (mulq_no ra rb y0 y1 (by rw [hn];exact hq) g) hf
   obtain⟨rfl,rfl⟩:=hbad
   have hn1:n = -9223372036854775808:=by rw [←hn];decide
   subst hn1
   clear hn hf x0 y0 x1 y1 ra rb
   go_enter Tryz.func241,Tryz.ntmps241
   go_wp2_with fail
   go_quiet (fail)
   go_wp2_with fail
   all_goals exact bodyPost_ret (v:=valV nV) (by simp [results,Tryz.results241,go_sem,valV,nV];rfl) rfl ⟨rfl,ext_set3 (((((Ext.refl w).alloc _).alloc _).alloc _).drewN _) (by omega) _ _ _⟩
  ·have bq:(q==an)=false:=by simp [hqa]
   clear hf x0 x1 y1 ra rb hqa
   go_enter Tryz.func241,Tryz.ntmps241
   go_wp2_with fail
   go_quiet (fail)
   go_wp2_with fail
   all_goals exact bodyPost_ret (v:=valV nV) (by simp [results,Tryz.results241,go_sem,valV,nV];rfl) rfl ⟨rfl,ext_set3 (((((Ext.refl w).alloc _).alloc _).alloc _).drewN _) (by omega) _ _ _⟩
end Go.Proofs.YtkddkbpoefidpaaGreatDoor
namespace Go.Proofs.YtkddkbpoefidpaaGreatDoor
open Go.RowKit
set_option maxRecDepth 100000 in
set_option maxHeartbeats 4000000 in
theorem refArith_any (op:Int) (hop:op=3∨op=4∨op=5) (a b:Val) (ha:okVal a) (hb:okVal b) (w:World):Calls Tryz.prog 241 #[.int .i64 op,valV a,valV b] w fun e w'=>e = .returned (valV (arithV op a b))∧Ext w w':=by
 by_cases h1:a.kind=1
 ·by_cases h2:b.kind=1
  ·rcases hop with rfl | rfl | rfl
   ·exact refArith_add a b h1 h2 ha hb w
   ·exact refArith_sub a b h1 h2 ha hb w
   ·exact refArith_mul a b h1 h2 ha hb w
  ·have h3:arithV op a b=nV:=arith_no fun g=>h2 g.2.1
   rw [h3]
   obtain⟨ak,an,sa⟩:=a
   obtain⟨bk,bn,sb⟩:=b
   dsimp only at h1 h2
   subst h1
   have d:(bk != 1)=true:=by simp [h2]
   unfold valV
   dsimp only
   clear h2 h3 ha hb hop
   go_enter Tryz.func241,Tryz.ntmps241
   go_wp2_with fail
   exact bodyPost_ret (v:=valV nV) (by simp [results,Tryz.results241,go_sem,valV,nV];rfl) rfl ⟨rfl,(((Ext.refl w).alloc _).alloc _).alloc _⟩
 ·have h3:arithV op a b=nV:=arith_no fun g=>h1 g.1
  rw [h3]
  obtain⟨ak,an,sa⟩:=a
  obtain⟨bk,bn,sb⟩:=b
  dsimp only at h1
  have d:(ak != 1)=true:=by simp [h1]
  unfold valV
  dsimp only
  clear h1 h3 ha hb hop
  go_enter Tryz.func241,Tryz.ntmps241
  go_wp2_with fail
  exact bodyPost_ret (v:=valV nV) (by simp [results,Tryz.results241,go_sem,valV,nV];rfl) rfl ⟨rfl,(((Ext.refl w).alloc _).alloc _).alloc _⟩
end Go.Proofs.YtkddkbpoefidpaaGreatDoor
namespace Go.Proofs.YtkddkbpoefidpaaGreatDoor
open Go.RowKit
theorem applyV_arith {x:ExprI} (h:x.op=3∨x.op=4∨x.op=5) (a b:Val) (row:List Val):applyV x a b row=arithV x.op a b:=by
 unfold applyV
 rw [if_neg (by omega),if_neg (by omega),if_pos (by omega)]
theorem wp_tail {P:Program} {id:Nat} {Q:Exit→Act→World→Prop} {a:Act} {w:World} {l:List Oper} (n:Nat) (hm:P.follows .mixedOrders=true) (hB:Region.lexTailB .any l.toArray n=true) (w2:World) (hw:w2=w.drew)
  (h:wpStill P l.toArray w2 (fun a'=>wpList P l.toArray Q (l.drop n) a' w2) (l.take n) a):(Code.region id l.toArray true).wp P Q a w:=by
 subst hw
 exact wp_region_still_tail n hm hB h
theorem still_of_quiet {P:Program} {w:World} {o:Oper} {a:Act} {K:Act→Prop} {v:Value} (h:o.quietAt P a (fun x=>x=w) w v) (hk:K (a.put o.dst v)):o.still P a w K:=by
 unfold Oper.still
 unfold Oper.quietAt at h
 generalize (execOp a.eval o).run P w=r at h ⊢
 cases r with
 |ok n w' =>
  cases n with
  |value x=>obtain⟨h1,rfl⟩:=h;exact⟨h1,hk⟩
  |skip=>obtain⟨h1,rfl⟩:=h;exact⟨h1,hk⟩
  |enter f args=>obtain⟨h1,h2⟩:=h;exact⟨h1,v,h2,hk⟩
  |_=>exact h.elim
 |_=>exact h.elim
theorem wpStill_of_quiet {P:Program} {ops:Array Oper} {w:World} {Q:Act→Prop} : ∀(l:List Oper) (a:Act),wpQuiet P ops (fun x=>x=w) Q l a→wpStill P ops w Q l a:=by
 intro l
 induction l with
 |nil=>exact fun a h=>h
 |cons o l ih =>
  intro a h
  unfold wpQuiet at h
  unfold wpStill
  split at h
  ·rename_i hw
   rw [if_pos hw]
   obtain⟨v,h1,h2⟩:=h
   exact still_of_quiet (h1 w rfl) (ih _ h2)
  ·rename_i hw
   rw [if_neg hw]
   exact ih _ h
theorem wp_tailQ {P:Program} {id:Nat} {Q:Exit→Act→World→Prop} {a:Act} {w:World} {l:List Oper} (n:Nat) (hm:P.follows .mixedOrders=true) (hB:Region.lexTailB .any l.toArray n=true) (w2:World) (hw:w2=w.drew)
  (h:wpQuiet P l.toArray (fun x=>x=w2) (fun a'=>wpList P l.toArray Q (l.drop n) a' w2) (l.take n) a):(Code.region id l.toArray true).wp P Q a w :=
 wp_tail n hm hB w2 hw (wpStill_of_quiet _ _ h)
set_option maxRecDepth 100000 in
set_option maxHeartbeats 4000000 in
theorem apply_arith3 (x:ExprI) (hop:x.op=3) (va:Value) (a b:Val) (vr:Value) (row:List Val) (w:World) (ha:SliceOf Rep.val w.cell? va [a,b]) :
  Calls Tryz.prog 156 #[.agg (exprEnc x).toArray,va,vr] w fun e w'=>e = .returned (valV (applyV x a b row))∧Ext w w':=by
 rw [applyV_arith (by omega)]
 have hok:=vals_ok ha
 have oka:=Lib.hid (hok a (by simp))
 have okb:=Lib.hid (hok b (by simp))
 obtain⟨p,cap,rfl,_,_,hp⟩:=ha.form
 obtain⟨bb,o,rfl⟩:=hp (by decide) (by simp)
 obtain⟨c0,c1,c2,_⟩:=val_cells ha 0 (by simp)
 obtain⟨c3,c4,c5,_⟩:=val_cells ha 1 (by simp)
 simp only [Nat.zero_mul,Nat.one_mul,Nat.add_zero,List.getElem_cons_zero,List.getElem_cons_succ]at c0 c1 c2 c3 c4 c5
 obtain⟨op,xa,xb,col,⟨ck,cn,cs⟩⟩:=x
 dsimp only at hop ⊢
 obtain⟨z,hz⟩ : ∃z,arithV op a b=z:=⟨_,rfl⟩
 have HZ:=Lib.hid hz
 subst hop
 rw [hz]
 obtain⟨ak,an,sa⟩:=a
 obtain⟨bk,bn,sb⟩:=b
 dsimp only at c0 c1 c2 c3 c4 c5
 have e0:=cell_lt c0
 unfold exprEnc
 dsimp only
 have hl:([⟨ak,an,sa⟩,⟨bk,bn,sb⟩]:List Val).length=2:=rfl
 rw [hl]
 clear hok ha hp hz hl
 go_enter Tryz.func156,Tryz.ntmps156
 go_wp2_with fail
 refine wp_tail 8 (by kernel_rfl) (by kernel_rfl) _ rfl ?_
 simp only [List.take_succ_cons,List.take_zero,List.drop_succ_cons,List.drop_zero]
 repeat still_step
 refine wpStill_nil ?_
 go_wp2_with fail
 refine(arithmetic_any 3 (by decide) _ _ oka.out okb.out _).mono ?_
 rintro e w1 ⟨rfl,x1⟩
 rw [HZ.out]
 have d0:w1.cell? ⟨w.heap.size+1,0,none⟩=some (.int .i64 0):=x1.at (by go_simp)
 have d1:w1.cell? ⟨w.heap.size+1,1,none⟩=some (.int .i64 0):=x1.at (by go_simp)
 have d2:w1.cell? ⟨w.heap.size+1,2,none⟩=some (.string ByteArray.empty):=x1.at (by go_simp;rfl)
 have f0:w1.frozen? ⟨w.heap.size+1,0,none⟩=false:=x1.unfrozen (p:=⟨w.heap.size+1,0,none⟩) (v:= .int .i64 0) (by go_simp) (by go_simp)
 have f1:w1.frozen? ⟨w.heap.size+1,1,none⟩=false:=x1.unfrozen (p:=⟨w.heap.size+1,1,none⟩) (v:= .int .i64 0) (by go_simp) (by go_simp)
 have f2:w1.frozen? ⟨w.heap.size+1,2,none⟩=false:=x1.unfrozen (p:=⟨w.heap.size+1,2,none⟩) (v:= .string ByteArray.empty) (by go_simp;rfl) (by go_simp)
 have X1:=Lib.hid ((((Ext.refl w).alloc _).alloc _).drew.trans x1)
 have e1:=cell_lt d0
 obtain⟨zk,zn,zs⟩:=z
 clear HZ x1 oka okb c0 c1 c2 c3 c4 c5 e0
 unfold valV
 dsimp only
 go_wp2_with fail
 exact bodyPost_ret (v:= .agg #[.int .i64 zk,.int .i64 zn,.string zs]) (by simp [results,Tryz.results156,go_sem,d0,d1,d2]) rfl ⟨rfl,Below.setCell (Below.setCell (Below.setCell X1.out (by simp) _) (by simp) _) (by simp) _⟩
set_option maxRecDepth 100000 in
set_option maxHeartbeats 4000000 in
theorem apply_arith4 (x:ExprI) (hop:x.op=4) (va:Value) (a b:Val) (vr:Value) (row:List Val) (w:World) (ha:SliceOf Rep.val w.cell? va [a,b]) :
  Calls Tryz.prog 156 #[.agg (exprEnc x).toArray,va,vr] w fun e w'=>e = .returned (valV (applyV x a b row))∧Ext w w':=by
 rw [applyV_arith (by omega)]
 have hok:=vals_ok ha
 have oka:=Lib.hid (hok a (by simp))
 have okb:=Lib.hid (hok b (by simp))
 obtain⟨p,cap,rfl,_,_,hp⟩:=ha.form
 obtain⟨bb,o,rfl⟩:=hp (by decide) (by simp)
 obtain⟨c0,c1,c2,_⟩:=val_cells ha 0 (by simp)
 obtain⟨c3,c4,c5,_⟩:=val_cells ha 1 (by simp)
 simp only [Nat.zero_mul,Nat.one_mul,Nat.add_zero,List.getElem_cons_zero,List.getElem_cons_succ]at c0 c1 c2 c3 c4 c5
 obtain⟨op,xa,xb,col,⟨ck,cn,cs⟩⟩:=x
 dsimp only at hop ⊢
 obtain⟨z,hz⟩ : ∃z,arithV op a b=z:=⟨_,rfl⟩
 have HZ:=Lib.hid hz
 subst hop
 rw [hz]
 obtain⟨ak,an,sa⟩:=a
 obtain⟨bk,bn,sb⟩:=b
 dsimp only at c0 c1 c2 c3 c4 c5
 have e0:=cell_lt c0
 unfold exprEnc
 dsimp only
 have hl:([⟨ak,an,sa⟩,⟨bk,bn,sb⟩]:List Val).length=2:=rfl
 rw [hl]
 clear hok ha hp hz hl
 go_enter Tryz.func156,Tryz.ntmps156
 go_wp2_with fail
 refine wp_tail 8 (by kernel_rfl) (by kernel_rfl) _ rfl ?_
 simp only [List.take_succ_cons,List.take_zero,List.drop_succ_cons,List.drop_zero]
 repeat still_step
 refine wpStill_nil ?_
 go_wp2_with fail
 refine(arithmetic_any 4 (by decide) _ _ oka.out okb.out _).mono ?_
 rintro e w1 ⟨rfl,x1⟩
 rw [HZ.out]
 have d0:w1.cell? ⟨w.heap.size+1,0,none⟩=some (.int .i64 0):=x1.at (by go_simp)
 have d1:w1.cell? ⟨w.heap.size+1,1,none⟩=some (.int .i64 0):=x1.at (by go_simp)
 have d2:w1.cell? ⟨w.heap.size+1,2,none⟩=some (.string ByteArray.empty):=x1.at (by go_simp;rfl)
 have f0:w1.frozen? ⟨w.heap.size+1,0,none⟩=false:=x1.unfrozen (p:=⟨w.heap.size+1,0,none⟩) (v:= .int .i64 0) (by go_simp) (by go_simp)
 have f1:w1.frozen? ⟨w.heap.size+1,1,none⟩=false:=x1.unfrozen (p:=⟨w.heap.size+1,1,none⟩) (v:= .int .i64 0) (by go_simp) (by go_simp)
 have f2:w1.frozen? ⟨w.heap.size+1,2,none⟩=false:=x1.unfrozen (p:=⟨w.heap.size+1,2,none⟩) (v:= .string ByteArray.empty) (by go_simp;rfl) (by go_simp)
 have X1:=Lib.hid ((((Ext.refl w).alloc _).alloc _).drew.trans x1)
 have e1:=cell_lt d0
 obtain⟨zk,zn,zs⟩:=z
 clear HZ x1 oka okb c0 c1 c2 c3 c4 c5 e0
 unfold valV
 dsimp only
 go_wp2_with fail
 exact bodyPost_ret (v:= .agg #[.int .i64 zk,.int .i64 zn,.string zs]) (by simp [results,Tryz.results156,go_sem,d0,d1,d2]) rfl ⟨rfl,Below.setCell (Below.setCell (Below.setCell X1.out (by simp) _) (by simp) _) (by simp) _⟩
set_option maxRecDepth 100000 in
set_option maxHeartbeats 4000000 in
theorem apply_arith5 (x:ExprI) (hop:x.op=5) (va:Value) (a b:Val) (vr:Value) (row:List Val) (w:World) (ha:SliceOf Rep.val w.cell? va [a,b]) :
  Calls Tryz.prog 156 #[.agg (exprEnc x).toArray,va,vr] w fun e w'=>e = .returned (valV (applyV x a b row))∧Ext w w':=by
 rw [applyV_arith (by omega)]
 have hok:=vals_ok ha
 have oka:=Lib.hid (hok a (by simp))
 have okb:=Lib.hid (hok b (by simp))
 obtain⟨p,cap,rfl,_,_,hp⟩:=ha.form
 obtain⟨bb,o,rfl⟩:=hp (by decide) (by simp)
 obtain⟨c0,c1,c2,_⟩:=val_cells ha 0 (by simp)
 obtain⟨c3,c4,c5,_⟩:=val_cells ha 1 (by simp)
 simp only [Nat.zero_mul,Nat.one_mul,Nat.add_zero,List.getElem_cons_zero,List.getElem_cons_succ]at c0 c1 c2 c3 c4 c5
 obtain⟨op,xa,xb,col,⟨ck,cn,cs⟩⟩:=x
 dsimp only at hop ⊢
 obtain⟨z,hz⟩ : ∃z,arithV op a b=z:=⟨_,rfl⟩
 have HZ:=Lib.hid hz
 subst hop
 rw [hz]
 obtain⟨ak,an,sa⟩:=a
 obtain⟨bk,bn,sb⟩:=b
 dsimp only at c0 c1 c2 c3 c4 c5
 have e0:=cell_lt c0
 unfold exprEnc
 dsimp only
 have hl:([⟨ak,an,sa⟩,⟨bk,bn,sb⟩]:List Val).length=2:=rfl
 rw [hl]
 clear hok ha hp hz hl
 go_enter Tryz.func156,Tryz.ntmps156
 go_wp2_with fail
 refine wp_tail 8 (by kernel_rfl) (by kernel_rfl) _ rfl ?_
 simp only [List.take_succ_cons,List.take_zero,List.drop_succ_cons,List.drop_zero]
 repeat still_step
 refine wpStill_nil ?_
 go_wp2_with fail
 refine(arithmetic_any 5 (by decide) _ _ oka.out okb.out _).mono ?_
 rintro e w1 ⟨rfl,x1⟩
 rw [HZ.out]
 have d0:w1.cell? ⟨w.heap.size+1,0,none⟩=some (.int .i64 0):=x1.at (by go_simp)
 have d1:w1.cell? ⟨w.heap.size+1,1,none⟩=some (.int .i64 0):=x1.at (by go_simp)
 have d2:w1.cell? ⟨w.heap.size+1,2,none⟩=some (.string ByteArray.empty):=x1.at (by go_simp;rfl)
 have f0:w1.frozen? ⟨w.heap.size+1,0,none⟩=false:=x1.unfrozen (p:=⟨w.heap.size+1,0,none⟩) (v:= .int .i64 0) (by go_simp) (by go_simp)
 have f1:w1.frozen? ⟨w.heap.size+1,1,none⟩=false:=x1.unfrozen (p:=⟨w.heap.size+1,1,none⟩) (v:= .int .i64 0) (by go_simp) (by go_simp)
 have f2:w1.frozen? ⟨w.heap.size+1,2,none⟩=false:=x1.unfrozen (p:=⟨w.heap.size+1,2,none⟩) (v:= .string ByteArray.empty) (by go_simp;rfl) (by go_simp)
 have X1:=Lib.hid ((((Ext.refl w).alloc _).alloc _).drew.trans x1)
 have e1:=cell_lt d0
 obtain⟨zk,zn,zs⟩:=z
 clear HZ x1 oka okb c0 c1 c2 c3 c4 c5 e0
 unfold valV
 dsimp only
 go_wp2_with fail
 exact bodyPost_ret (v:= .agg #[.int .i64 zk,.int .i64 zn,.string zs]) (by simp [results,Tryz.results156,go_sem,d0,d1,d2]) rfl ⟨rfl,Below.setCell (Below.setCell (Below.setCell X1.out (by simp) _) (by simp) _) (by simp) _⟩
theorem apply_arith (x:ExprI) (hop:x.op=3∨x.op=4∨x.op=5) (va:Value) (a b:Val) (vr:Value) (row:List Val) (w:World) (ha:SliceOf Rep.val w.cell? va [a,b]) :
  Calls Tryz.prog 156 #[.agg (exprEnc x).toArray,va,vr] w fun e w'=>e = .returned (valV (applyV x a b row))∧Ext w w':=by
 rcases hop with h | h | h
 ·exact apply_arith3 x h va a b vr row w ha
 ·exact apply_arith4 x h va a b vr row w ha
 ·exact apply_arith5 x h va a b vr row w ha
end Go.Proofs.YtkddkbpoefidpaaGreatDoor
