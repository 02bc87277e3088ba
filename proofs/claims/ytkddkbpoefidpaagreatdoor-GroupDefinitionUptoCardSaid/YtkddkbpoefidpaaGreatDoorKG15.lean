/- joined texts of a proof: RefA, RefM, RefB -/
import Derived.Test.YtkddkbpoefidpaaGreatDoorKG10
import Derived.Test.YtkddkbpoefidpaaGreatDoorKG14
namespace Go.Proofs.YtkddkbpoefidpaaGreatDoor
open Go.RowKit
set_option maxHeartbeats 1000000 in
theorem refOperands_any (op:Int) (w:World):Calls Tryz.prog 238 #[.int .i64 op] w fun e w'=>e = .returned (.int .i64 (arityE op))∧w=w':=by
 by_cases h:1≤op∧op≤11
 ·have h2:op=1∨op=2∨op=3∨op=4∨op=5∨op=6∨op=7∨op=8∨op=9∨op=10∨op=11:=by omega
  clear h
  rcases h2 with rfl | rfl | rfl | rfl | rfl | rfl | rfl | rfl | rfl | rfl | rfl
  all_goals
   go_enter Tryz.func238,Tryz.ntmps238
   go_wp2_with fail
   go_ret
   exact⟨rfl,rfl⟩
 ·have b1:(op==1)=false:=by simp;omega
  have b2:(op==2)=false:=by simp;omega
  have b3:(op==3)=false:=by simp;omega
  have b4:(op==4)=false:=by simp;omega
  have b5:(op==5)=false:=by simp;omega
  have b6:(op==6)=false:=by simp;omega
  have b7:(op==7)=false:=by simp;omega
  have b8:(op==8)=false:=by simp;omega
  have b9:(op==9)=false:=by simp;omega
  have b10:(op==10)=false:=by simp;omega
  have b11:(op==11)=false:=by simp;omega
  have ha:arityE op = -1:=by
   unfold arityE
   rw [if_neg (by omega),if_neg (by omega),if_neg (by omega)]
  rw [ha]
  clear h ha
  go_enter Tryz.func238,Tryz.ntmps238
  go_wp2_with fail
  go_ret
  exact⟨rfl,rfl⟩
set_option maxHeartbeats 1000000 in
theorem refBoolean_any (b:Bool) (w:World):Calls Tryz.prog 240 #[.bool b] w fun e w'=>e = .returned (valV (boolV b))∧Ext w w':=by
 cases b
 ·go_enter Tryz.func240,Tryz.ntmps240
  go_wp2_with fail
  exact bodyPost_ret (v:=valV (boolV false)) (by simp [results,Tryz.results240,go_sem,valV,boolV];rfl) rfl ⟨rfl,(Ext.refl w).alloc _⟩
 ·go_enter Tryz.func240,Tryz.ntmps240
  go_wp2_with fail
  exact bodyPost_ret (v:=valV (boolV true)) (by simp [results,Tryz.results240,go_sem,valV,boolV];rfl) rfl ⟨rfl,(Ext.refl w).alloc _⟩
set_option maxHeartbeats 1000000 in
theorem refTrue_any (v:Val) (w:World):Calls Tryz.prog 126 #[valV v] w fun e w'=>e = .returned (.bool (trueV v))∧Ext w w':=by
 obtain⟨k,n,s⟩:=v
 unfold trueV valV
 dsimp only
 by_cases h:k=3
 ·subst h
  have d:decide ((3:Int)=3)=true:=rfl
  have e:(n==1)=decide (n=1):=by rw [Bool.eq_iff_iff];simp
  have HE:=Lib.hid e
  rw [d,Bool.true_and]
  clear d e
  go_enter Tryz.func126,Tryz.ntmps126
  go_wp2_with fail
  go_ret
  exact⟨ret_bool HE.out,(Ext.refl w).alloc _⟩
 ·have b:(k==3)=false:=by simp [h]
  have d:decide (k=3)=false:=decide_eq_false h
  rw [d,Bool.false_and]
  clear d h
  go_enter Tryz.func126,Tryz.ntmps126
  go_wp2_with fail
  go_ret
  exact⟨rfl,(Ext.refl w).alloc _⟩
set_option maxRecDepth 100000 in
set_option maxHeartbeats 4000000 in
theorem refArith_add (a b:Val) (h1:a.kind=1) (h2:b.kind=1) (ha:okVal a) (hb:okVal b) (w:World):Calls Tryz.prog 241 #[.int .i64 3,valV a,valV b] w fun e w'=>e = .returned (valV (arithV 3 a b))∧Ext w w':=by
 have HY:=Lib.hid (arith_yes (op:=3) h1 h2)
 have HN:=Lib.hid (arith_no (op:=3) (a:=a) (b:=b))
 obtain⟨ak,an,sa⟩:=a
 obtain⟨bk,bn,sb⟩:=b
 dsimp only at h1 h2
 subst h1 h2
 obtain⟨z,hz⟩ : ∃z,arithV 3 ⟨1,an,sa⟩ ⟨1,bn,sb⟩=z:=⟨_,rfl⟩
 rw [hz]at HY HN ⊢
 have hra:=ha.2.1
 have hrb:=hb.2.1
 dsimp only at hra hrb
 have hsum:arithI 3 an bn=an+bn:=rfl
 unfold valV
 dsimp only
 clear hz ha hb
 by_cases hf:fit64 (an+bn)
 ·have h3:=HY.out (by rw [hsum];exact hf)
  rw [hsum]at h3
  subst h3
  unfold fit64 at hf
  obtain⟨f1,f2⟩:=hf
  clear HY HN hsum
  rcases Int.lt_trichotomy bn 0 with h | h | h
  ·have d1:decide (0<bn)=false:=by simp;omega
   have d2:decide (an<an+bn)=false:=by simp;omega
   clear hra hrb h
   go_enter Tryz.func241,Tryz.ntmps241
   go_wp2_with fail
   go_quiet (fail)
   go_wp2_with fail
   exact bodyPost_ret (v:=valV (intVal (an+bn))) (by simp [results,Tryz.results241,go_sem,valV,intVal];rfl) rfl ⟨rfl,ext_set3 (((((Ext.refl w).alloc _).alloc _).alloc _).drewN _) (by omega) _ _ _⟩
  ·subst h
   clear hra hrb
   go_enter Tryz.func241,Tryz.ntmps241
   go_wp2_with fail
   go_quiet (fail)
   go_wp2_with fail
   exact bodyPost_ret (v:=valV (intVal (an+0))) (by simp [results,Tryz.results241,go_sem,valV,intVal];rfl) rfl ⟨rfl,ext_set3 (((((Ext.refl w).alloc _).alloc _).alloc _).drewN _) (by omega) _ _ _⟩
  ·have d1:decide (0<bn)=true:=by simp;omega
   have d2:decide (an<an+bn)=true:=by simp;omega
   clear hra hrb h
   go_enter Tryz.func241,Tryz.ntmps241
   go_wp2_with fail
   go_quiet (fail)
   go_wp2_with fail
   exact bodyPost_ret (v:=valV (intVal (an+bn))) (by simp [results,Tryz.results241,go_sem,valV,intVal];rfl) rfl ⟨rfl,ext_set3 (((((Ext.refl w).alloc _).alloc _).alloc _).drewN _) (by omega) _ _ _⟩
 ·have h3:=HN.out (by rintro⟨_,_,g⟩;rw [hsum]at g;exact hf g)
  subst h3
  unfold fit64 at hf
  obtain⟨n,hn⟩ : ∃n,IntKind.i64.wrap (an+bn)=n:=⟨_,rfl⟩
  have hn2:=hn
  rw [IntKind.wrap_i64]at hn2
  clear HY HN hsum
  rcases(show 0<bn∨bn≤0 by omega)with h | h
  ·have d1:decide (0<bn)=true:=by simp;omega
   have d2:decide (an<n)=false:=by simp;omega
   have d3:(bn==0)=false:=by simp;omega
   clear hra hrb h hf hn2
   go_enter Tryz.func241,Tryz.ntmps241
   go_wp2_with fail
   go_quiet (fail)
   go_wp2_with fail
   exact bodyPost_ret (v:=valV nV) (by simp [results,Tryz.results241,go_sem,valV,nV];rfl) rfl ⟨rfl,ext_set3 (((((Ext.refl w).alloc _).alloc _).alloc _).drewN _) (by omega) _ _ _⟩
  ·have d1:decide (0<bn)=false:=by simp;omega
   have d2:decide (an<n)=true:=by simp;omega
   have d3:(bn==0)=false:=by simp;omega
   clear hra hrb h hf hn2
   go_enter Tryz.func241,Tryz.ntmps241
   go_wp2_with fail
   go_quiet (fail)
   go_wp2_with fail
   exact bodyPost_ret (v:=valV nV) (by simp [results,Tryz.results241,go_sem,valV,nV];rfl) rfl ⟨rfl,ext_set3 (((((Ext.refl w).alloc _).alloc _).alloc _).drewN _) (by omega) _ _ _⟩
set_option maxRecDepth 100000 in
set_option maxHeartbeats 4000000 in
theorem refArith_sub (a b:Val) (h1:a.kind=1) (h2:b.kind=1) (ha:okVal a) (hb:okVal b) (w:World):Calls Tryz.prog 241 #[.int .i64 4,valV a,valV b] w fun e w'=>e = .returned (valV (arithV 4 a b))∧Ext w w':=by
 have HY:=Lib.hid (arith_yes (op:=4) h1 h2)
 have HN:=Lib.hid (arith_no (op:=4) (a:=a) (b:=b))
 obtain⟨ak,an,sa⟩:=a
 obtain⟨bk,bn,sb⟩:=b
 dsimp only at h1 h2
 subst h1 h2
 obtain⟨z,hz⟩ : ∃z,arithV 4 ⟨1,an,sa⟩ ⟨1,bn,sb⟩=z:=⟨_,rfl⟩
 rw [hz]at HY HN ⊢
 have hra:=ha.2.1
 have hrb:=hb.2.1
 dsimp only at hra hrb
 have hsum:arithI 4 an bn=an - bn:=rfl
 unfold valV
 dsimp only
 clear hz ha hb
 by_cases hf:fit64 (an - bn)
 ·have h3:=HY.out (by rw [hsum];exact hf)
  rw [hsum]at h3
  subst h3
  unfold fit64 at hf
  obtain⟨f1,f2⟩:=hf
  clear HY HN hsum
  rcases Int.lt_trichotomy bn 0 with h | h | h
  ·have d1:decide (0<bn)=false:=by simp;omega
   have d2:decide (an - bn<an)=false:=by simp;omega
   clear hra hrb h
   go_enter Tryz.func241,Tryz.ntmps241
   go_wp2_with fail
   go_quiet (fail)
   go_wp2_with fail
   exact bodyPost_ret (v:=valV (intVal (an - bn))) (by simp [results,Tryz.results241,go_sem,valV,intVal];rfl) rfl ⟨rfl,ext_set3 (((((Ext.refl w).alloc _).alloc _).alloc _).drewN _) (by omega) _ _ _⟩
  ·subst h
   clear hra hrb
   go_enter Tryz.func241,Tryz.ntmps241
   go_wp2_with fail
   go_quiet (fail)
   go_wp2_with fail
   exact bodyPost_ret (v:=valV (intVal (an - 0))) (by simp [results,Tryz.results241,go_sem,valV,intVal];rfl) rfl ⟨rfl,ext_set3 (((((Ext.refl w).alloc _).alloc _).alloc _).drewN _) (by omega) _ _ _⟩
  ·have d1:decide (0<bn)=true:=by simp;omega
   have d2:decide (an - bn<an)=true:=by simp;omega
   clear hra hrb h
   go_enter Tryz.func241,Tryz.ntmps241
   go_wp2_with fail
   go_quiet (fail)
   go_wp2_with fail
   exact bodyPost_ret (v:=valV (intVal (an - bn))) (by simp [results,Tryz.results241,go_sem,valV,intVal];rfl) rfl ⟨rfl,ext_set3 (((((Ext.refl w).alloc _).alloc _).alloc _).drewN _) (by omega) _ _ _⟩
 ·have h3:=HN.out (by rintro⟨_,_,g⟩;rw [hsum]at g;exact hf g)
  subst h3
  unfold fit64 at hf
  obtain⟨n,hn⟩ : ∃n,IntKind.i64.wrap (an - bn)=n:=⟨_,rfl⟩
  have hn2:=hn
  rw [IntKind.wrap_i64]at hn2
  clear HY HN hsum
  rcases(show 0<bn∨bn≤0 by omega)with h | h
  ·have d1:decide (0<bn)=true:=by simp;omega
   have d2:decide (n<an)=false:=by simp;omega
   have d3:(bn==0)=false:=by simp;omega
   clear hra hrb h hf hn2
   go_enter Tryz.func241,Tryz.ntmps241
   go_wp2_with fail
   go_quiet (fail)
   go_wp2_with fail
   exact bodyPost_ret (v:=valV nV) (by simp [results,Tryz.results241,go_sem,valV,nV];rfl) rfl ⟨rfl,ext_set3 (((((Ext.refl w).alloc _).alloc _).alloc _).drewN _) (by omega) _ _ _⟩
  ·have d1:decide (0<bn)=false:=by simp;omega
   have d2:decide (n<an)=true:=by simp;omega
   have d3:(bn==0)=false:=by simp;omega
   clear hra hrb h hf hn2
   go_enter Tryz.func241,Tryz.ntmps241
   go_wp2_with fail
   go_quiet (fail)
   go_wp2_with fail
   exact bodyPost_ret (v:=valV nV) (by simp [results,Tryz.results241,go_sem,valV,nV];rfl) rfl ⟨rfl,ext_set3 (((((Ext.refl w).alloc _).alloc _).alloc _).drewN _) (by omega) _ _ _⟩
end Go.Proofs.YtkddkbpoefidpaaGreatDoor
namespace Go.Proofs.YtkddkbpoefidpaaGreatDoor
open Go.RowKit
theorem wrap_fit {p:Int} (h:fit64 p):IntKind.i64.wrap p=p:=by rw [IntKind.wrap_i64];unfold fit64 at h;omega
theorem mulq_yes {x y:Int} (hx:fit64 x) (h0:y≠0) (h:fit64 (x*y)):IntKind.i64.wrap ((IntKind.i64.wrap (x*y)).tdiv y)=x:=by
 rw [wrap_fit h,Int.mul_tdiv_cancel _ h0,wrap_fit hx]
theorem mulq_no {x y:Int} (hx:fit64 x) (hy:fit64 y) (h0:y≠0) (h1:y≠1) (h:IntKind.i64.wrap ((IntKind.i64.wrap (x*y)).tdiv y)=x) (n2 : ¬(y = -1∧x = -9223372036854775808)):fit64 (x*y):=by
 unfold fit64 at hx hy
 by_cases hm:y = -1
 ·subst hm
  unfold fit64
  omega
 ·obtain⟨p,hp⟩ : ∃p,p=x*y:=⟨_,rfl⟩
  rw [←hp]at h ⊢
  obtain⟨z,hz⟩ : ∃z,z=IntKind.i64.wrap p:=⟨_,rfl⟩
  rw [←hz]at h
  rw [IntKind.wrap_i64]at hz
  obtain⟨q,hq⟩ : ∃q,q=z.tdiv y:=⟨_,rfl⟩
  rw [←hq]at h
  have hqn:q.natAbs=z.natAbs / y.natAbs:=by rw [hq];exact Int.natAbs_tdiv z y
  have hq2:q.natAbs≤z.natAbs / 2:=by rw [hqn];exact Nat.div_le_div_left (by omega) (by omega)
  rw [IntKind.wrap_i64]at h
  have hqx:q=x:=by omega
  obtain⟨r,hr⟩ : ∃r,r=z.tmod y:=⟨_,rfl⟩
  have hrn:r.natAbs=z.natAbs % y.natAbs:=by rw [hr];exact Int.natAbs_tmod z y
  have hr2:r.natAbs<y.natAbs:=by rw [hrn];exact Nat.mod_lt _ (by omega)
  have hs:r+y*q=z:=by rw [hr,hq];exact Int.tmod_add_mul_tdiv z y
  have hs2:r+p=z:=by rw [hp,←hqx,Int.mul_comm q y];exact hs
  unfold fit64
  omega
set_option maxRecDepth 100000 in
set_option maxHeartbeats 8000000 in
theorem refArith_mul (a b:Val) (h1:a.kind=1) (h2:b.kind=1) (ha:okVal a) (hb:okVal b) (w:World):Calls Tryz.prog 241 #[.int .i64 5,valV a,valV b] w fun e w'=>e = .returned (valV (arithV 5 a b))∧Ext w w':=by
 have HY:=Lib.hid (arith_yes (op:=5) h1 h2)
 have HN:=Lib.hid (arith_no (op:=5) (a:=a) (b:=b))
 have HA:=Lib.hid (show fit64 a.n from ha.2.1)
 have HB:=Lib.hid (show fit64 b.n from hb.2.1)
 obtain⟨ak,an,sa⟩:=a
 obtain⟨bk,bn,sb⟩:=b
 dsimp only at h1 h2 HA HB
 subst h1 h2
 obtain⟨z,hz⟩ : ∃z,arithV 5 ⟨1,an,sa⟩ ⟨1,bn,sb⟩=z:=⟨_,rfl⟩
 rw [hz]at HY HN ⊢
 have hsum:arithI 5 an bn=an*bn:=rfl
 have HS:=Lib.hid hsum
 unfold valV
 dsimp only
 clear hz ha hb hsum
 obtain⟨n,hn⟩ : ∃n,IntKind.i64.wrap (an*bn)=n:=⟨_,rfl⟩
 by_cases hf:fit64 (an*bn)
 ·have h3:=HY.out (by rw [HS.out];exact hf)
  have hne:an*bn=n:=by rw [←hn];exact(wrap_fit hf).symm
  rw [HS.out,hne]at h3
  subst h3
  clear HY HN HS
  by_cases x0:an=0
  ·subst x0
   have hn0:n=0:=by rw [←hne];simp
   subst hn0
   clear hne hn hf
   go_enter Tryz.func241,Tryz.ntmps241
   go_wp2_with fail
   go_quiet (fail)
   go_wp2_with fail
   all_goals exact bodyPost_ret (v:=valV (intVal _)) (by simp [results,Tryz.results241,go_sem,valV,intVal];rfl) rfl ⟨rfl,ext_set3 (((((Ext.refl w).alloc _).alloc _).alloc _).drewN _) (by omega) _ _ _⟩
  have bx0:(an==0)=false:=by simp [x0]
  by_cases y0:bn=0
  ·subst y0
   have hn0:n=0:=by rw [←hne];simp
   subst hn0
   clear hne hn hf x0
   go_enter Tryz.func241,Tryz.ntmps241
   go_wp2_with fail
   go_quiet (fail)
   go_wp2_with fail
   all_goals exact bodyPost_ret (v:=valV (intVal _)) (by simp [results,Tryz.results241,go_sem,valV,intVal];rfl) rfl ⟨rfl,ext_set3 (((((Ext.refl w).alloc _).alloc _).alloc _).drewN _) (by omega) _ _ _⟩
  have by0:(bn==0)=false:=by simp [y0]
  by_cases x1:an=1
  ·subst x1
   have hn1:n=bn:=by rw [←hne];simp
   subst hn1
   have hwb:=wrap_fit HB.out
   clear hne hn hf x0 y0
   go_enter Tryz.func241,Tryz.ntmps241
   go_wp2_with fail
   go_quiet (fail)
   go_wp2_with fail
   all_goals exact bodyPost_ret (v:=valV (intVal _)) (by simp [results,Tryz.results241,go_sem,valV,intVal];rfl) rfl ⟨rfl,ext_set3 (((((Ext.refl w).alloc _).alloc _).alloc _).drewN _) (by omega) _ _ _⟩
  have bx1:(an==1)=false:=by simp [x1]
  by_cases y1:bn=1
  ·subst y1
   have hn1:n=an:=by rw [←hne];simp
   subst hn1
   have hwb:=wrap_fit HA.out
   clear hne hn hf x0 y0 x1
   go_enter Tryz.func241,Tryz.ntmps241
   go_wp2_with fail
   go_quiet (fail)
   go_wp2_with fail
   all_goals exact bodyPost_ret (v:=valV (intVal _)) (by simp [results,Tryz.results241,go_sem,valV,intVal];rfl) rfl ⟨rfl,ext_set3 (((((Ext.refl w).alloc _).alloc _).alloc _).drewN _) (by omega) _ _ _⟩
  have by1:(bn==1)=false:=by simp [y1]
  have hq:=mulq_yes HA.out y0 hf
  rw [hn]at hq
  unfold fit64 at hf
  by_cases xm:an = -1
  ·subst xm
   have bm:(bn == -9223372036854775808)=false:=by simp;omega
   by_cases ym:bn = -1
   ·subst ym
    have hn1:n=1:=by rw [←hne];rfl
    subst hn1
    clear hne hn hq hf x0 y0 x1 y1
    go_enter Tryz.func241,Tryz.ntmps241
    go_wp2_with fail
    go_quiet (fail)
    go_wp2_with fail
    all_goals exact bodyPost_ret (v:=valV (intVal _)) (by simp [results,Tryz.results241,go_sem,valV,intVal];rfl) rfl ⟨rfl,ext_set3 (((((Ext.refl w).alloc _).alloc _).alloc _).drewN _) (by omega) _ _ _⟩
   have bym:(bn == -1)=false:=by simp [ym]
   have hn2:IntKind.i64.wrap (-bn)=n:=by rw [←hn];congr 1;omega
   clear hne hf x0 x1 y1 ym
   go_enter Tryz.func241,Tryz.ntmps241
   go_wp2_with fail
   go_quiet (fail)
   go_wp2_with fail
   all_goals exact bodyPost_ret (v:=valV (intVal _)) (by simp [results,Tryz.results241,go_sem,valV,intVal];rfl) rfl ⟨rfl,ext_set3 (((((Ext.refl w).alloc _).alloc _).alloc _).drewN _) (by omega) _ _ _⟩
  have bxm:(an == -1)=false:=by simp [xm]
  by_cases ym:bn = -1
  ·subst ym
   have bm:(an == -9223372036854775808)=false:=by simp;omega
   have hn2:IntKind.i64.wrap (-an)=n:=by rw [←hn];congr 1;omega
   have hn3:IntKind.i64.wrap (an * -1)=n:=hn
   have hq2:IntKind.i64.wrap (-n)=an:=by have h:=hq;rwa [Int.tdiv_neg,Int.tdiv_one]at h
   clear hne hf x0 y0 x1 y1 xm
   go_enter Tryz.func241,Tryz.ntmps241
   go_wp2_with fail
   go_quiet (fail)
   go_wp2_with fail
   all_goals exact bodyPost_ret (v:=valV (intVal _)) (by simp [results,Tryz.results241,go_sem,valV,intVal];rfl) rfl ⟨rfl,ext_set3 (((((Ext.refl w).alloc _).alloc _).alloc _).drewN _) (by omega) _ _ _⟩
  have bym:(bn == -1)=false:=by simp [ym]
  clear hne hf x0 x1 y1 xm ym
  go_enter Tryz.func241,Tryz.ntmps241
  go_wp2_with fail
  go_quiet (fail)
  go_wp2_with fail
  all_goals exact bodyPost_ret (v:=valV (intVal _)) (by simp [results,Tryz.results241,go_sem,valV,intVal];rfl) rfl ⟨rfl,ext_set3 (((((Ext.refl w).alloc _).alloc _).alloc _).drewN _) (by omega) _ _ _⟩
 ·have h3:=HN.out (by rintro⟨_,_,g⟩;rw [HS.out]at g;exact hf g)
  subst h3
  clear HY HN HS
  have ra:=HA.out
  have rb:=HB.out
  have x0:an≠0:=fun e=>hf (by rw [e];unfold fit64;omega)
  have y0:bn≠0:=fun e=>hf (by rw [e];unfold fit64;omega)
  have x1:an≠1:=fun e=>hf (by rw [e,Int.one_mul];exact rb)
  have y1:bn≠1:=fun e=>hf (by rw [e,Int.mul_one];exact ra)
  have bx0:(an==0)=false:=by simp [x0]
  have by0:(bn==0)=false:=by simp [y0]
  have bx1:(an==1)=false:=by simp [x1]
  have by1:(bn==1)=false:=by simp [y1]
  obtain⟨q,hq⟩ : ∃q,IntKind.i64.wrap (n.tdiv bn)=q:=⟨_,rfl⟩
  by_cases hqa:q=an
  ·subst hqa
   have hbad:bn = -1∧q = -9223372036854775808:=by
    by_cases g:bn = -1∧q = -9223372036854775808
    ·exact g
    ·exact absurd (mulq_no ra rb y0 y1 (by rw [hn];exact hq) g) hf
   obtain⟨rfl,rfl⟩:=hbad
   have hn1:n = -9223372036854775808:=by rw [←hn];decide
   subst hn1
   clear hn hf x0 y0 x1 y1 ra rb
   go_enter Tryz.func241,Tryz.ntmps241
   go_wp2_with fail
   go_quiet (fail)
   go_wp2_with fail
   all_goals exact bodyPost_ret (v:=valV nV) (by simp [results,Tryz.results241,go_sem,valV,nV];rfl) rfl ⟨rfl,ext_set3 (((((Ext.refl w).alloc _).alloc _).alloc _).drewN _) (by omega) _ _ _⟩
  ·have bq:(q==an)=false:=by simp [hqa]
   clear hf x0 x1 y1 ra rb hqa
   go_enter Tryz.func241,Tryz.ntmps241
   go_wp2_with fail
   go_quiet (fail)
   go_wp2_with fail
   all_goals exact bodyPost_ret (v:=valV nV) (by simp [results,Tryz.results241,go_sem,valV,nV];rfl) rfl ⟨rfl,ext_set3 (((((Ext.refl w).alloc _).alloc _).alloc _).drewN _) (by omega) _ _ _⟩
end Go.Proofs.YtkddkbpoefidpaaGreatDoor
namespace Go.Proofs.YtkddkbpoefidpaaGreatDoor
open Go.RowKit
set_option maxRecDepth 100000 in
set_option maxHeartbeats 4000000 in
theorem refArith_any (op:Int) (hop:op=3∨op=4∨op=5) (a b:Val) (ha:okVal a) (hb:okVal b) (w:World):Calls Tryz.prog 241 #[.int .i64 op,valV a,valV b] w fun e w'=>e = .returned (valV (arithV op a b))∧Ext w w':=by
 by_cases h1:a.kind=1
 ·by_cases h2:b.kind=1
  ·rcases hop with rfl | rfl | rfl
   ·exact refArith_add a b h1 h2 ha hb w
   ·exact refArith_sub a b h1 h2 ha hb w
   ·exact refArith_mul a b h1 h2 ha hb w
  ·have h3:arithV op a b=nV:=arith_no fun g=>h2 g.2.1
   rw [h3]
   obtain⟨ak,an,sa⟩:=a
   obtain⟨bk,bn,sb⟩:=b
   dsimp only at h1 h2
   subst h1
   have d:(bk != 1)=true:=by simp [h2]
   unfold valV
   dsimp only
   clear h2 h3 ha hb hop
   go_enter Tryz.func241,Tryz.ntmps241
   go_wp2_with fail
   exact bodyPost_ret (v:=valV nV) (by simp [results,Tryz.results241,go_sem,valV,nV];rfl) rfl ⟨rfl,(((Ext.refl w).alloc _).alloc _).alloc _⟩
 ·have h3:arithV op a b=nV:=arith_no fun g=>h1 g.1
  rw [h3]
  obtain⟨ak,an,sa⟩:=a
  obtain⟨bk,bn,sb⟩:=b
  dsimp only at h1
  have d:(ak != 1)=true:=by simp [h1]
  unfold valV
  dsimp only
  clear h1 h3 ha hb hop
  go_enter Tryz.func241,Tryz.ntmps241
  go_wp2_with fail
  exact bodyPost_ret (v:=valV nV) (by simp [results,Tryz.results241,go_sem,valV,nV];rfl) rfl ⟨rfl,(((Ext.refl w).alloc _).alloc _).alloc _⟩
end Go.Proofs.YtkddkbpoefidpaaGreatDoor
