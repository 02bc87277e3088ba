/- joined texts of a proof: AlgN -/
import Derived.Test.YtombmdaohcjokaaGreatDoorKX17
namespace Go.Proofs.YtombmdaohcjokaaGreatDoor
open Go.RowKit
set_option maxHeartbeats 2000000 in
theorem node1_any (C:Nat) (q:QueryI) (types:List TypI) (vc:Value) (done:List (List Int)) (E:Nat) (x:Int) (w:World) (hE:w.cell? ⟨E,0,none⟩=some (.pointer (some ⟨C,0,none⟩))) (hX:CkA w C q types vc done) :
  Calls Tryz.prog 141 #[.int .i64 x,.pointer (some ⟨E,0,none⟩)] w fun e w'=>e = .returned (.bool (legN done.length x))∧w'=w:=by
 have cc:=hX.cc
 obtain⟨p,cap,rfl,_⟩:=hX.own.slice.form
 obtain⟨n,hn⟩ : ∃n,n=done.length:=⟨_,rfl⟩
 rw [←hn]at cc ⊢
 have eE:=cell_lt hE
 have eC:=cell_lt cc
 unfold legN
 clear hX hn
 by_cases h0:0≤x
 ·have b0:decide (0≤x)=true:=decide_eq_true h0
  rw [b0,Bool.true_and]
  obtain⟨z,hz⟩ : ∃z,z=decide (x<(n:Int)):=⟨_,rfl⟩
  rw [←hz]
  have b1:decide (x<(n:Int))=z:=hz.symm
  clear h0 hz
  cases z
  all_goals
   go_enter Tryz.func141,Tryz.ntmps141
   go_wp2_with fail
   go_ret
   exact⟨rfl,rfl⟩
 ·have b0:decide (0≤x)=false:=decide_eq_false h0
  rw [b0,Bool.false_and]
  clear h0
  go_enter Tryz.func141,Tryz.ntmps141
  go_wp2_with fail
  go_ret
  exact⟨rfl,rfl⟩
set_option maxRecDepth 100000 in
set_option maxHeartbeats 8000000 in
theorem node_none (C:Nat) (q:QueryI) (types:List TypI) (vc:Value) (done:List (List Int)) (x:NodeI) (ve va:Value) (w:World) (hX:CkA w C q types vc done) (he:SliceOf Rep.int w.cell? ve x.exprs) (hg:SliceOf Rep.agg w.cell? va x.aggs) (hk:x.kind<1∨10<x.kind) :
  Calls Tryz.prog 91 #[.pointer (some ⟨C,0,none⟩),nodeV x ve va] w fun e w'=> ∃v,e = .returned (.tuple #[v,.int .i64 (colsN q.exprs types done x).2])∧SliceOf Rep.int (on w' (avoid (fun b=>b≠C) vc)) v (colsN q.exprs types done x).1∧Ext w w':=by
 have mixed:=mixedA
 have hmf : ∀(fn:Fn) (first cap:Array Value) (w:World),(Instr.makeFunc fn first cap).run Tryz.prog w = .ok (.func fn first cap) w:=fun _ _ _ _=>rfl
 obtain⟨p1,c1,rfl,_,_,hp1⟩:=he.form
 obtain⟨p2,c2,rfl,_,_,hp2⟩:=hg.form
 have HP1:=Lib.hid hp1
 have HP2:=Lib.hid hp2
 clear hp1 hp2
 obtain⟨xk,xa,xb,xp,xt,xe,xg⟩:=x
 dsimp only at he hg hk ⊢
 obtain⟨n1,hn1⟩ : ∃n,n=xe.length:=⟨_,rfl⟩
 obtain⟨n2,hn2⟩ : ∃n,n=xg.length:=⟨_,rfl⟩
 rw [←hn1,←hn2]
 rw [←hn1]at he
 rw [←hn2]at hg
 have HX:=Lib.hid hX
 have HE:=Lib.hid he
 have HGG:=Lib.hid hg
 have HN1:=Lib.hid hn1
 have HN2:=Lib.hid hn2
 clear he hg hn1 hn2
 have HR:=Lib.hid (show colsN q.exprs types done ⟨xk,xa,xb,xp,xt,xe,xg⟩=([],5)from if_pos hk)
 clear hX
 by_cases h0:xk<1
 ·have b0:decide (xk<1)=true:=decide_eq_true h0
  clear h0 hk
  go_enter Tryz.func91,Tryz.ntmps91
  go_wp2_with fail
  exact bodyPost_ret (v:= .tuple #[.slice none 0 0,.int .i64 5]) (by simp [results,Tryz.results91,go_sem]) rfl ⟨_,by rw [HR.out],by rw [HR.out];exact SliceOf.nil _ _,((Ext.refl w).alloc _).alloc _⟩
 ·have b0:decide (xk<1)=false:=decide_eq_false h0
  have b1:decide (10<xk)=true:=decide_eq_true (by omega)
  clear h0 hk
  go_enter Tryz.func91,Tryz.ntmps91
  go_wp2_with fail
  exact bodyPost_ret (v:= .tuple #[.slice none 0 0,.int .i64 5]) (by simp [results,Tryz.results91,go_sem]) rfl ⟨_,by rw [HR.out],by rw [HR.out];exact SliceOf.nil _ _,((Ext.refl w).alloc _).alloc _⟩
set_option maxRecDepth 100000 in
set_option maxHeartbeats 8000000 in
theorem node_scan (C:Nat) (q:QueryI) (types:List TypI) (vc:Value) (done:List (List Int)) (x:NodeI) (ve va:Value) (w:World) (hX:CkA w C q types vc done) (he:SliceOf Rep.int w.cell? ve x.exprs) (hg:SliceOf Rep.agg w.cell? va x.aggs) (hk:x.kind=1) (htl:types.length≤1048576) :
  Calls Tryz.prog 91 #[.pointer (some ⟨C,0,none⟩),nodeV x ve va] w fun e w'=> ∃v,e = .returned (.tuple #[v,.int .i64 (colsN q.exprs types done x).2])∧SliceOf Rep.int (on w' (avoid (fun b=>b≠C) vc)) v (colsN q.exprs types done x).1∧Ext w w':=by
 have mixed:=mixedA
 have hmf : ∀(fn:Fn) (first cap:Array Value) (w:World),(Instr.makeFunc fn first cap).run Tryz.prog w = .ok (.func fn first cap) w:=fun _ _ _ _=>rfl
 obtain⟨p1,c1,rfl,_,_,hp1⟩:=he.form
 obtain⟨p2,c2,rfl,_,_,hp2⟩:=hg.form
 have HP1:=Lib.hid hp1
 have HP2:=Lib.hid hp2
 clear hp1 hp2
 obtain⟨xk,xa,xb,xp,xt,xe,xg⟩:=x
 dsimp only at he hg hk ⊢
 obtain⟨n1,hn1⟩ : ∃n,n=xe.length:=⟨_,rfl⟩
 obtain⟨n2,hn2⟩ : ∃n,n=xg.length:=⟨_,rfl⟩
 rw [←hn1,←hn2]
 rw [←hn1]at he
 rw [←hn2]at hg
 have HX:=Lib.hid hX
 have HE:=Lib.hid he
 have HGG:=Lib.hid hg
 have HN1:=Lib.hid hn1
 have HN2:=Lib.hid hn2
 clear he hg hn1 hn2
 subst hk
 have HR:=Lib.hid (show colsN q.exprs types done ⟨1,xa,xb,xp,xt,xe,xg⟩=scanC types xt from by unfold colsN;rw [if_neg (by dsimp only;omega),if_pos rfl])
 have HTL:=Lib.hid htl
 clear hX htl
 go_enter Tryz.func91,Tryz.ntmps91
 go_wp2_with fail
 refine(scan_any C q types vc done xt _ (HX.out.ext (((Ext.refl w).alloc _).alloc _)) HTL.out).mono ?_
 rintro e w2 ⟨v2,rfl,s2,x2⟩
 rw [←HR.out]at s2 ⊢
 have S2:=Lib.hid s2
 have HF:=Lib.hid ((((Ext.refl w).alloc _).alloc _).trans x2)
 obtain⟨z,hz⟩ : ∃z,z=(colsN q.exprs types done ⟨1,xa,xb,xp,xt,xe,xg⟩).2:=⟨_,rfl⟩
 rw [←hz]
 have HZ:=Lib.hid hz
 clear s2 x2 hz
 go_wp2_with fail
 exact bodyPost_ret (v:= .tuple #[v2,.int .i64 z]) (by simp [results,Tryz.results91,go_sem]) rfl ⟨_,by rw [HZ.out],S2.out,HF.out⟩
set_option maxRecDepth 100000 in
set_option maxHeartbeats 8000000 in
theorem node_bad (C:Nat) (q:QueryI) (types:List TypI) (vc:Value) (done:List (List Int)) (x:NodeI) (ve va:Value) (w:World) (hX:CkA w C q types vc done) (he:SliceOf Rep.int w.cell? ve x.exprs) (hg:SliceOf Rep.agg w.cell? va x.aggs) (hk:2≤x.kind∧x.kind≤10) (hl:legN done.length x.a=false∨(binK x.kind=true∧legN done.length x.b=false)) :
  Calls Tryz.prog 91 #[.pointer (some ⟨C,0,none⟩),nodeV x ve va] w fun e w'=> ∃v,e = .returned (.tuple #[v,.int .i64 (colsN q.exprs types done x).2])∧SliceOf Rep.int (on w' (avoid (fun b=>b≠C) vc)) v (colsN q.exprs types done x).1∧Ext w w':=by
 have mixed:=mixedA
 have hmf : ∀(fn:Fn) (first cap:Array Value) (w:World),(Instr.makeFunc fn first cap).run Tryz.prog w = .ok (.func fn first cap) w:=fun _ _ _ _=>rfl
 obtain⟨p1,c1,rfl,_,_,hp1⟩:=he.form
 obtain⟨p2,c2,rfl,_,_,hp2⟩:=hg.form
 have HP1:=Lib.hid hp1
 have HP2:=Lib.hid hp2
 clear hp1 hp2
 obtain⟨xk,xa,xb,xp,xt,xe,xg⟩:=x
 dsimp only at he hg hk hl ⊢
 obtain⟨n1,hn1⟩ : ∃n,n=xe.length:=⟨_,rfl⟩
 obtain⟨n2,hn2⟩ : ∃n,n=xg.length:=⟨_,rfl⟩
 rw [←hn1,←hn2]
 rw [←hn1]at he
 rw [←hn2]at hg
 have HX:=Lib.hid hX
 have HE:=Lib.hid he
 have HGG:=Lib.hid hg
 have HN1:=Lib.hid hn1
 have HN2:=Lib.hid hn2
 clear he hg hn1 hn2
 have HR:=Lib.hid (show colsN q.exprs types done ⟨xk,xa,xb,xp,xt,xe,xg⟩=([],10)from by
  unfold colsN
  rw [if_neg (by dsimp only;omega),if_neg (by dsimp only;omega),if_pos hl])
 have b0:decide (xk<1)=false:=decide_eq_false (by omega)
 have b1:decide (10<xk)=false:=decide_eq_false (by omega)
 have b2:(xk==1)=false:=by simp;omega
 clear hX hk
 cases h0:legN done.length xa
 ·have HLA:=Lib.hid h0
  clear h0 hl
  go_enter Tryz.func91,Tryz.ntmps91
  go_wp2_with fail
  refine(node1_any C q types _ done _ xa _ (by go_simp) (HX.out.ext (((Ext.refl w).alloc _).alloc _))).mono ?_
  rintro e w2 ⟨rfl,rfl⟩
  rw [HLA.out]
  go_wp2_with fail
  exact bodyPost_ret (v:= .tuple #[.slice none 0 0,.int .i64 10]) (by simp [results,Tryz.results91,go_sem]) rfl ⟨_,by rw [HR.out],by rw [HR.out];exact SliceOf.nil _ _,(((Ext.refl w).alloc _).alloc _)⟩
 ·have HLA:=Lib.hid h0
  have HKB:=Lib.hid (show binK xk=true from by rcases hl with h | h;(rw [h0]at h;cases h);exact h.1)
  have HLB:=Lib.hid (show legN done.length xb=false from by rcases hl with h | h;(rw [h0]at h;cases h);exact h.2)
  clear h0 hl
  go_enter Tryz.func91,Tryz.ntmps91
  go_wp2_with fail
  refine(node1_any C q types _ done _ xa _ (by go_simp) (HX.out.ext (((Ext.refl w).alloc _).alloc _))).mono ?_
  rintro e w2 ⟨rfl,rfl⟩
  rw [HLA.out]
  go_wp2_with fail
  refine(isBinary_any xk _).mono ?_
  rintro e w2 ⟨rfl,rfl⟩
  rw [HKB.out]
  go_wp2_with fail
  refine(node1_any C q types _ done _ xb _ (by go_simp) (HX.out.ext (((Ext.refl w).alloc _).alloc _))).mono ?_
  rintro e w2 ⟨rfl,rfl⟩
  rw [HLB.out]
  go_wp2_with fail
  exact bodyPost_ret (v:= .tuple #[.slice none 0 0,.int .i64 10]) (by simp [results,Tryz.results91,go_sem]) rfl ⟨_,by rw [HR.out],by rw [HR.out];exact SliceOf.nil _ _,(((Ext.refl w).alloc _).alloc _)⟩
set_option maxRecDepth 100000 in
set_option maxHeartbeats 8000000 in
theorem node_proj (C:Nat) (q:QueryI) (types:List TypI) (vc:Value) (done:List (List Int)) (x:NodeI) (ve va:Value) (w:World) (hX:CkA w C q types vc done) (he:SliceOf Rep.int w.cell? ve x.exprs) (hg:SliceOf Rep.agg w.cell? va x.aggs) (hk:x.kind=3) (hla:legN done.length x.a=true) (hlb:binK x.kind=true→legN done.length x.b=true) (hD : ∀l∈done,l.length≤1000) (hel:x.exprs.length≤1048576) (hgl:x.aggs.length≤1048576) :
  Calls Tryz.prog 91 #[.pointer (some ⟨C,0,none⟩),nodeV x ve va] w fun e w'=> ∃v,e = .returned (.tuple #[v,.int .i64 (colsN q.exprs types done x).2])∧SliceOf Rep.int (on w' (avoid (fun b=>b≠C) vc)) v (colsN q.exprs types done x).1∧Ext w w':=by
 have mixed:=mixedA
 have hmf : ∀(fn:Fn) (first cap:Array Value) (w:World),(Instr.makeFunc fn first cap).run Tryz.prog w = .ok (.func fn first cap) w:=fun _ _ _ _=>rfl
 obtain⟨p1,c1,rfl,_,_,hp1⟩:=he.form
 obtain⟨p2,c2,rfl,_,_,hp2⟩:=hg.form
 have HP1:=Lib.hid hp1
 have HP2:=Lib.hid hp2
 clear hp1 hp2
 obtain⟨xk,xa,xb,xp,xt,xe,xg⟩:=x
 dsimp only at he hg hk hla hlb hel hgl ⊢
 obtain⟨n1,hn1⟩ : ∃n,n=xe.length:=⟨_,rfl⟩
 obtain⟨n2,hn2⟩ : ∃n,n=xg.length:=⟨_,rfl⟩
 rw [←hn1,←hn2]
 rw [←hn1]at he
 rw [←hn2]at hg
 have HX:=Lib.hid hX
 have HE:=Lib.hid he
 have HGG:=Lib.hid hg
 have HN1:=Lib.hid hn1
 have HN2:=Lib.hid hn2
 clear he hg hn1 hn2
 have HLA:=Lib.hid hla
 have HLB:=Lib.hid hlb
 have HD:=Lib.hid hD
 have HEL:=Lib.hid hel
 have HGL:=Lib.hid hgl
 clear hel hgl hD
 subst hk
 have HR:=Lib.hid (show colsN q.exprs types done ⟨3,xa,xb,xp,xt,xe,xg⟩=exprsC q.exprs (inputC done ⟨3,xa,xb,xp,xt,xe,xg⟩) xe []from by unfold colsN;simp [hla,binK])
 have HKB:=Lib.hid (show binK 3=false from by decide)
 clear hX hla hlb
 go_enter Tryz.func91,Tryz.ntmps91
 go_wp2_with fail
 refine(node1_any C q types _ done _ xa _ (by go_simp) (HX.out.ext (((Ext.refl w).alloc _).alloc _))).mono ?_
 rintro e w2 ⟨rfl,rfl⟩
 rw [HLA.out]
 go_wp2_with fail
 refine(isBinary_any 3 _).mono ?_
 rintro e w2 ⟨rfl,rfl⟩
 rw [HKB.out]
 go_wp2_with fail
 refine(cexprs_any C q types vc done ⟨3,xa,xb,xp,xt,xe,xg⟩ (.slice p1 n1 c1) (.slice p2 n2 c2) _ (HX.out.ext (((Ext.refl w).alloc _).alloc _)) (HE.out.ext (((Ext.refl w).alloc _).alloc _).full) (HGG.out.ext (((Ext.refl w).alloc _).alloc _).full) HLA.out HLB.out HD.out HEL.out).mono ?_
 rintro e w2 ⟨v2,rfl,o2,x2⟩
 rw [←HR.out]at o2 ⊢
 have S2:=Lib.hid (HX.out.new (w':=w2) ((o2.fresh flat_int).ext (on_mono _ fun k _ hk=>Nat.le_trans (((Ext.refl w).alloc _).alloc _).size hk)))
 have HF:=Lib.hid ((((Ext.refl w).alloc _).alloc _).trans x2)
 obtain⟨z,hz⟩ : ∃z,z=(colsN q.exprs types done ⟨3,xa,xb,xp,xt,xe,xg⟩).2:=⟨_,rfl⟩
 rw [←hz]
 have HZ:=Lib.hid hz
 clear o2 x2 hz
 go_wp2_with fail
 exact bodyPost_ret (v:= .tuple #[v2,.int .i64 z]) (by simp [results,Tryz.results91,go_sem]) rfl ⟨_,by rw [HZ.out],S2.out,HF.out⟩
set_option maxRecDepth 100000 in
set_option maxHeartbeats 8000000 in
theorem node_group (C:Nat) (q:QueryI) (types:List TypI) (vc:Value) (done:List (List Int)) (x:NodeI) (ve va:Value) (w:World) (hX:CkA w C q types vc done) (he:SliceOf Rep.int w.cell? ve x.exprs) (hg:SliceOf Rep.agg w.cell? va x.aggs) (hk:x.kind=10) (hla:legN done.length x.a=true) (hlb:binK x.kind=true→legN done.length x.b=true) (hD : ∀l∈done,l.length≤1000) (hel:x.exprs.length≤1048576) (hgl:x.aggs.length≤1048576) :
  Calls Tryz.prog 91 #[.pointer (some ⟨C,0,none⟩),nodeV x ve va] w fun e w'=> ∃v,e = .returned (.tuple #[v,.int .i64 (colsN q.exprs types done x).2])∧SliceOf Rep.int (on w' (avoid (fun b=>b≠C) vc)) v (colsN q.exprs types done x).1∧Ext w w':=by
 have mixed:=mixedA
 have hmf : ∀(fn:Fn) (first cap:Array Value) (w:World),(Instr.makeFunc fn first cap).run Tryz.prog w = .ok (.func fn first cap) w:=fun _ _ _ _=>rfl
 obtain⟨p1,c1,rfl,_,_,hp1⟩:=he.form
 obtain⟨p2,c2,rfl,_,_,hp2⟩:=hg.form
 have HP1:=Lib.hid hp1
 have HP2:=Lib.hid hp2
 clear hp1 hp2
 obtain⟨xk,xa,xb,xp,xt,xe,xg⟩:=x
 dsimp only at he hg hk hla hlb hel hgl ⊢
 obtain⟨n1,hn1⟩ : ∃n,n=xe.length:=⟨_,rfl⟩
 obtain⟨n2,hn2⟩ : ∃n,n=xg.length:=⟨_,rfl⟩
 rw [←hn1,←hn2]
 rw [←hn1]at he
 rw [←hn2]at hg
 have HX:=Lib.hid hX
 have HE:=Lib.hid he
 have HGG:=Lib.hid hg
 have HN1:=Lib.hid hn1
 have HN2:=Lib.hid hn2
 clear he hg hn1 hn2
 have HLA:=Lib.hid hla
 have HLB:=Lib.hid hlb
 have HD:=Lib.hid hD
 have HEL:=Lib.hid hel
 have HGL:=Lib.hid hgl
 clear hel hgl hD
 subst hk
 have HR:=Lib.hid (show colsN q.exprs types done ⟨10,xa,xb,xp,xt,xe,xg⟩=groupC q.exprs (inputC done ⟨10,xa,xb,xp,xt,xe,xg⟩) ⟨10,xa,xb,xp,xt,xe,xg⟩from by unfold colsN;simp [hla,binK])
 have HKB:=Lib.hid (show binK 10=false from by decide)
 clear hX hla hlb
 go_enter Tryz.func91,Tryz.ntmps91
 go_wp2_with fail
 refine(node1_any C q types _ done _ xa _ (by go_simp) (HX.out.ext (((Ext.refl w).alloc _).alloc _))).mono ?_
 rintro e w2 ⟨rfl,rfl⟩
 rw [HLA.out]
 go_wp2_with fail
 refine(isBinary_any 10 _).mono ?_
 rintro e w2 ⟨rfl,rfl⟩
 rw [HKB.out]
 go_wp2_with fail
 refine(cgroup_any C q types vc done ⟨10,xa,xb,xp,xt,xe,xg⟩ (.slice p1 n1 c1) (.slice p2 n2 c2) _ (HX.out.ext (((Ext.refl w).alloc _).alloc _)) (HE.out.ext (((Ext.refl w).alloc _).alloc _).full) (HGG.out.ext (((Ext.refl w).alloc _).alloc _).full) HLA.out HLB.out HD.out HEL.out HGL.out).mono ?_
 rintro e w2 ⟨v2,rfl,o2,x2⟩
 rw [←HR.out]at o2 ⊢
 have S2:=Lib.hid (HX.out.new (w':=w2) ((o2.fresh flat_int).ext (on_mono _ fun k _ hk=>Nat.le_trans (((Ext.refl w).alloc _).alloc _).size hk)))
 have HF:=Lib.hid ((((Ext.refl w).alloc _).alloc _).trans x2)
 obtain⟨z,hz⟩ : ∃z,z=(colsN q.exprs types done ⟨10,xa,xb,xp,xt,xe,xg⟩).2:=⟨_,rfl⟩
 rw [←hz]
 have HZ:=Lib.hid hz
 clear o2 x2 hz
 go_wp2_with fail
 exact bodyPost_ret (v:= .tuple #[v2,.int .i64 z]) (by simp [results,Tryz.results91,go_sem]) rfl ⟨_,by rw [HZ.out],S2.out,HF.out⟩
set_option maxRecDepth 100000 in
set_option maxHeartbeats 8000000 in
theorem node_sel (C:Nat) (q:QueryI) (types:List TypI) (vc:Value) (done:List (List Int)) (x:NodeI) (ve va:Value) (w:World) (hX:CkA w C q types vc done) (he:SliceOf Rep.int w.cell? ve x.exprs) (hg:SliceOf Rep.agg w.cell? va x.aggs) (hk:x.kind=2) (hla:legN done.length x.a=true) (hlb:binK x.kind=true→legN done.length x.b=true) (hD : ∀l∈done,l.length≤1000) (hel:x.exprs.length≤1048576) (hgl:x.aggs.length≤1048576) :
  Calls Tryz.prog 91 #[.pointer (some ⟨C,0,none⟩),nodeV x ve va] w fun e w'=> ∃v,e = .returned (.tuple #[v,.int .i64 (colsN q.exprs types done x).2])∧SliceOf Rep.int (on w' (avoid (fun b=>b≠C) vc)) v (colsN q.exprs types done x).1∧Ext w w':=by
 have mixed:=mixedA
 have hmf : ∀(fn:Fn) (first cap:Array Value) (w:World),(Instr.makeFunc fn first cap).run Tryz.prog w = .ok (.func fn first cap) w:=fun _ _ _ _=>rfl
 obtain⟨p1,c1,rfl,_,_,hp1⟩:=he.form
 obtain⟨p2,c2,rfl,_,_,hp2⟩:=hg.form
 have HP1:=Lib.hid hp1
 have HP2:=Lib.hid hp2
 clear hp1 hp2
 obtain⟨xk,xa,xb,xp,xt,xe,xg⟩:=x
 dsimp only at he hg hk hla hlb hel hgl ⊢
 obtain⟨n1,hn1⟩ : ∃n,n=xe.length:=⟨_,rfl⟩
 obtain⟨n2,hn2⟩ : ∃n,n=xg.length:=⟨_,rfl⟩
 rw [←hn1,←hn2]
 rw [←hn1]at he
 rw [←hn2]at hg
 have HX:=Lib.hid hX
 have HE:=Lib.hid he
 have HGG:=Lib.hid hg
 have HN1:=Lib.hid hn1
 have HN2:=Lib.hid hn2
 clear he hg hn1 hn2
 have HLA:=Lib.hid hla
 have HLB:=Lib.hid hlb
 have HD:=Lib.hid hD
 have HEL:=Lib.hid hel
 have HGL:=Lib.hid hgl
 clear hel hgl hD
 subst hk
 obtain⟨ja,rfl,hja⟩:=legN_nat hla
 have cc:=hX.cc
 obtain⟨G,cap,ua,rfl,ga,sa⟩:=own_row hX.own ja hja
 obtain⟨pa,ca,rfl,_⟩:=sa.form
 have HLEA:=Lib.hid (HD.out _ (List.getElem_mem hja))
 have HGA:=Lib.hid (getD_nat hja)
 obtain⟨nd,hnd⟩ : ∃n,n=done.length:=⟨_,rfl⟩
 generalize done[ja]=xv at *
 obtain⟨na,hna⟩ : ∃n,n=xv.length:=⟨_,rfl⟩
 rw [←hna]at ga sa
 rw [←hnd]at cc
 have HSA:=Lib.hid sa
 have HNA:=Lib.hid hna
 have HND:=Lib.hid hnd
 have hjn:(ja:Int)<(nd:Int):=by omega
 have hjc:ja<nd:=by omega
 have eg:=cell_lt ga
 have ec:=cell_lt cc
 have HR1:=Lib.hid (show (colsN q.exprs types done ⟨2,ja,xb,xp,xt,xe,xg⟩).1=xv from by unfold colsN;simp [hla,binK];exact HGA.out)
 obtain⟨z,hz⟩ : ∃z,z=predC q.exprs (inputC done ⟨2,ja,xb,xp,xt,xe,xg⟩) xp:=⟨_,rfl⟩
 have HR2:=Lib.hid (show (colsN q.exprs types done ⟨2,ja,xb,xp,xt,xe,xg⟩).2=z from by rw [hz];unfold colsN;simp [hla,binK])
 have HZ:=Lib.hid hz
 have HKB:=Lib.hid (show binK 2=false from by decide)
 clear hX hla hlb hz sa hna hnd hja
 go_enter Tryz.func91,Tryz.ntmps91
 go_wp2_with fail
 refine(node1_any C q types _ done _ ja _ (by go_simp) (HX.out.ext (((Ext.refl w).alloc _).alloc _))).mono ?_
 rintro e w2 ⟨rfl,rfl⟩
 rw [HLA.out]
 go_wp2_with fail
 refine(isBinary_any 2 _).mono ?_
 rintro e w2 ⟨rfl,rfl⟩
 rw [HKB.out]
 go_wp2_with fail
 obtain⟨W1,hW1⟩ : ∃W1,W1=((w.alloc (.cells #[.pointer (some ⟨C,0,none⟩)] 152)).alloc (.cells #[.int .i64 2,.int .i64 ja,.int .i64 xb,.int .i64 xp,.string xt,.slice p1 n1 c1,.slice p2 n2 c2] 64)):=⟨_,rfl⟩
 obtain⟨E,hE⟩ : ∃B,B=w.heap.size:=⟨_,rfl⟩
 obtain⟨B,hB⟩ : ∃B,B=w.heap.size+1:=⟨_,rfl⟩
 have hxx:Ext w W1:=by rw [hW1];exact(((Ext.refl w).alloc _).alloc _)
 have aE:W1.cell? ⟨E,0,none⟩=some (.pointer (some ⟨C,0,none⟩)):=by rw [hW1,hE];go_simp
 have a0:W1.cell? ⟨B,0,none⟩=some (.int .i64 2):=by rw [hW1,hB];go_simp
 have a1:W1.cell? ⟨B,1,none⟩=some (.int .i64 ja):=by rw [hW1,hB];go_simp
 have a2:W1.cell? ⟨B,2,none⟩=some (.int .i64 xb):=by rw [hW1,hB];go_simp
 have a3:W1.cell? ⟨B,3,none⟩=some (.int .i64 xp):=by rw [hW1,hB];go_simp
 have a4:W1.cell? ⟨B,4,none⟩=some (.string xt):=by rw [hW1,hB];go_simp
 have a5:W1.cell? ⟨B,5,none⟩=some (.slice p1 n1 c1):=by rw [hW1,hB];go_simp
 have a6:W1.cell? ⟨B,6,none⟩=some (.slice p2 n2 c2):=by rw [hW1,hB];go_simp
 rw [←hB,←hE,←hW1]
 have hS0:Ext w W1.drew∧W1.drew.cell? ⟨E,0,none⟩=some (.pointer (some ⟨C,0,none⟩))∧W1.drew.cell? ⟨C,3,none⟩=some (.slice (some ⟨G,0,none⟩) nd cap)∧W1.drew.cell? ⟨B,0,none⟩=some (.int .i64 2)∧W1.drew.cell? ⟨B,1,none⟩=some (.int .i64 ja)∧W1.drew.cell? ⟨B,2,none⟩=some (.int .i64 xb)∧W1.drew.cell? ⟨B,3,none⟩=some (.int .i64 xp)∧W1.drew.cell? ⟨B,4,none⟩=some (.string xt)∧W1.drew.cell? ⟨B,5,none⟩=some (.slice p1 n1 c1)∧W1.drew.cell? ⟨B,6,none⟩=some (.slice p2 n2 c2)∧W1.drew.cell? ⟨G,ja,none⟩=some (.slice pa na ca):=⟨hxx.drew,aE,hxx.at cc,a0,a1,a2,a3,a4,a5,a6,hxx.at ga⟩
 clear aE a0 a1 a2 a3 a4 a5 a6 hW1 hE hB
 go_region_held3 (fun w'=>Ext w w'∧w'.cell? ⟨E,0,none⟩=some (.pointer (some ⟨C,0,none⟩))∧w'.cell? ⟨C,3,none⟩=some (.slice (some ⟨G,0,none⟩) nd cap)∧w'.cell? ⟨B,0,none⟩=some (.int .i64 2)∧w'.cell? ⟨B,1,none⟩=some (.int .i64 ja)∧w'.cell? ⟨B,2,none⟩=some (.int .i64 xb)∧w'.cell? ⟨B,3,none⟩=some (.int .i64 xp)∧w'.cell? ⟨B,4,none⟩=some (.string xt)∧w'.cell? ⟨B,5,none⟩=some (.slice p1 n1 c1)∧w'.cell? ⟨B,6,none⟩=some (.slice p2 n2 c2)∧w'.cell? ⟨G,ja,none⟩=some (.slice pa na ca))
  (first |with_reducible assumption | with_reducible exact keepE10 (by assumption) x2)
  (first
   |(go_at_call 144;refine(predicate_any C q types _ done ⟨2,ja,xb,xp,xt,xe,xg⟩ (.slice p1 n1 c1) (.slice p2 n2 c2) _ (HX.out.ext hxx.drew) (HE.out.ext hxx.drew.full) (HGG.out.ext hxx.drew.full) HLA.out HLB.out HD.out).mono ?_;rintro e w2 ⟨rfl,x2⟩;have HFIT:=Lib.hid (show Ext w w2 from (hxx.drew).trans x2);rw [←HZ.out])
   |fail)
 all_goals
  clear hS0
  go_wp2_with fail
  exact bodyPost_ret (v:= .tuple #[.slice pa na ca,.int .i64 z]) (by simp [results,Tryz.results91,go_sem]) rfl ⟨_,by rw [HR2.out],by rw [HR1.out];exact HSA.out.ext (Ext.sub HFIT.out _),HFIT.out⟩
set_option maxRecDepth 100000 in
set_option maxHeartbeats 8000000 in
theorem node_rest (C:Nat) (q:QueryI) (types:List TypI) (vc:Value) (done:List (List Int)) (x:NodeI) (ve va:Value) (w:World) (hX:CkA w C q types vc done) (he:SliceOf Rep.int w.cell? ve x.exprs) (hg:SliceOf Rep.agg w.cell? va x.aggs) (hk:x.kind=9) (hla:legN done.length x.a=true) (hlb:binK x.kind=true→legN done.length x.b=true) (hD : ∀l∈done,l.length≤1000) (hel:x.exprs.length≤1048576) (hgl:x.aggs.length≤1048576) :
  Calls Tryz.prog 91 #[.pointer (some ⟨C,0,none⟩),nodeV x ve va] w fun e w'=> ∃v,e = .returned (.tuple #[v,.int .i64 (colsN q.exprs types done x).2])∧SliceOf Rep.int (on w' (avoid (fun b=>b≠C) vc)) v (colsN q.exprs types done x).1∧Ext w w':=by
 have mixed:=mixedA
 have hmf : ∀(fn:Fn) (first cap:Array Value) (w:World),(Instr.makeFunc fn first cap).run Tryz.prog w = .ok (.func fn first cap) w:=fun _ _ _ _=>rfl
 obtain⟨p1,c1,rfl,_,_,hp1⟩:=he.form
 obtain⟨p2,c2,rfl,_,_,hp2⟩:=hg.form
 have HP1:=Lib.hid hp1
 have HP2:=Lib.hid hp2
 clear hp1 hp2
 obtain⟨xk,xa,xb,xp,xt,xe,xg⟩:=x
 dsimp only at he hg hk hla hlb hel hgl ⊢
 obtain⟨n1,hn1⟩ : ∃n,n=xe.length:=⟨_,rfl⟩
 obtain⟨n2,hn2⟩ : ∃n,n=xg.length:=⟨_,rfl⟩
 rw [←hn1,←hn2]
 rw [←hn1]at he
 rw [←hn2]at hg
 have HX:=Lib.hid hX
 have HE:=Lib.hid he
 have HGG:=Lib.hid hg
 have HN1:=Lib.hid hn1
 have HN2:=Lib.hid hn2
 clear he hg hn1 hn2
 have HLA:=Lib.hid hla
 have HLB:=Lib.hid hlb
 have HD:=Lib.hid hD
 have HEL:=Lib.hid hel
 have HGL:=Lib.hid hgl
 clear hel hgl hD
 subst hk
 obtain⟨ja,rfl,hja⟩:=legN_nat hla
 have cc:=hX.cc
 obtain⟨G,cap,ua,rfl,ga,sa⟩:=own_row hX.own ja hja
 obtain⟨pa,ca,rfl,_⟩:=sa.form
 have HLEA:=Lib.hid (HD.out _ (List.getElem_mem hja))
 have HGA:=Lib.hid (getD_nat hja)
 obtain⟨nd,hnd⟩ : ∃n,n=done.length:=⟨_,rfl⟩
 generalize done[ja]=xv at *
 obtain⟨na,hna⟩ : ∃n,n=xv.length:=⟨_,rfl⟩
 rw [←hna]at ga sa
 rw [←hnd]at cc
 have HSA:=Lib.hid sa
 have HNA:=Lib.hid hna
 have HND:=Lib.hid hnd
 have hjn:(ja:Int)<(nd:Int):=by omega
 have hjc:ja<nd:=by omega
 have eg:=cell_lt ga
 have ec:=cell_lt cc
 have HR:=Lib.hid (show colsN q.exprs types done ⟨9,ja,xb,xp,xt,xe,xg⟩=(xv,0)from by unfold colsN;simp [hla,binK];exact HGA.out)
 have HKB:=Lib.hid (show binK 9=false from by decide)
 clear hX hla hlb sa hna hnd hja
 go_enter Tryz.func91,Tryz.ntmps91
 go_wp2_with fail
 refine(node1_any C q types _ done _ ja _ (by go_simp) (HX.out.ext (((Ext.refl w).alloc _).alloc _))).mono ?_
 rintro e w2 ⟨rfl,rfl⟩
 rw [HLA.out]
 go_wp2_with fail
 refine(isBinary_any 9 _).mono ?_
 rintro e w2 ⟨rfl,rfl⟩
 rw [HKB.out]
 go_wp2_with fail
 go_big_region_o
 go_wp2_with fail
 exact bodyPost_ret (v:= .tuple #[.slice pa na ca,.int .i64 0]) (by simp [results,Tryz.results91,go_sem]) rfl ⟨_,by rw [HR.out],by rw [HR.out];exact HSA.out.ext (Ext.sub (((Ext.refl w).alloc _).alloc _).drew _),(((Ext.refl w).alloc _).alloc _).drew⟩
set_option maxRecDepth 100000 in
set_option maxHeartbeats 8000000 in
theorem node_join4 (C:Nat) (q:QueryI) (types:List TypI) (vc:Value) (done:List (List Int)) (x:NodeI) (ve va:Value) (w:World) (hX:CkA w C q types vc done) (he:SliceOf Rep.int w.cell? ve x.exprs) (hg:SliceOf Rep.agg w.cell? va x.aggs) (hk:x.kind=4) (hla:legN done.length x.a=true) (hlb:binK x.kind=true→legN done.length x.b=true) (hD : ∀l∈done,l.length≤1000) (hel:x.exprs.length≤1048576) (hgl:x.aggs.length≤1048576) :
  Calls Tryz.prog 91 #[.pointer (some ⟨C,0,none⟩),nodeV x ve va] w fun e w'=> ∃v,e = .returned (.tuple #[v,.int .i64 (colsN q.exprs types done x).2])∧SliceOf Rep.int (on w' (avoid (fun b=>b≠C) vc)) v (colsN q.exprs types done x).1∧Ext w w':=by
 have mixed:=mixedA
 have hmf : ∀(fn:Fn) (first cap:Array Value) (w:World),(Instr.makeFunc fn first cap).run Tryz.prog w = .ok (.func fn first cap) w:=fun _ _ _ _=>rfl
 obtain⟨p1,c1,rfl,_,_,hp1⟩:=he.form
 obtain⟨p2,c2,rfl,_,_,hp2⟩:=hg.form
 have HP1:=Lib.hid hp1
 have HP2:=Lib.hid hp2
 clear hp1 hp2
 obtain⟨xk,xa,xb,xp,xt,xe,xg⟩:=x
 dsimp only at he hg hk hla hlb hel hgl ⊢
 obtain⟨n1,hn1⟩ : ∃n,n=xe.length:=⟨_,rfl⟩
 obtain⟨n2,hn2⟩ : ∃n,n=xg.length:=⟨_,rfl⟩
 rw [←hn1,←hn2]
 rw [←hn1]at he
 rw [←hn2]at hg
 have HX:=Lib.hid hX
 have HE:=Lib.hid he
 have HGG:=Lib.hid hg
 have HN1:=Lib.hid hn1
 have HN2:=Lib.hid hn2
 clear he hg hn1 hn2
 have HLA:=Lib.hid hla
 have HLB:=Lib.hid hlb
 have HD:=Lib.hid hD
 have HEL:=Lib.hid hel
 have HGL:=Lib.hid hgl
 clear hel hgl hD
 subst hk
 obtain⟨cols,hcols⟩ : ∃z,z=inputC done ⟨4,xa,xb,xp,xt,xe,xg⟩:=⟨_,rfl⟩
 have HCO:=Lib.hid hcols
 have HKB:=Lib.hid (show binK 4=true from by decide)
 have hlb2:=hlb HKB.out
 have HLB2:=Lib.hid hlb2
 have HR1:=Lib.hid (show (colsN q.exprs types done ⟨4,xa,xb,xp,xt,xe,xg⟩).1=cols from by rw [hcols];unfold colsN;simp [hla,hlb2,binK])
 obtain⟨z,hz⟩ : ∃z,z=predC q.exprs (inputC done ⟨4,xa,xb,xp,xt,xe,xg⟩) xp:=⟨_,rfl⟩
 have HR2:=Lib.hid (show (colsN q.exprs types done ⟨4,xa,xb,xp,xt,xe,xg⟩).2=z from by rw [hz];unfold colsN;simp [hla,hlb2,binK])
 have HZ:=Lib.hid hz
 clear hX hla hlb hlb2 hz hcols
 go_enter Tryz.func91,Tryz.ntmps91
 go_wp2_with fail
 refine(node1_any C q types _ done _ xa _ (by go_simp) (HX.out.ext (((Ext.refl w).alloc _).alloc _))).mono ?_
 rintro e w2 ⟨rfl,rfl⟩
 rw [HLA.out]
 go_wp2_with fail
 refine(isBinary_any 4 _).mono ?_
 rintro e w2 ⟨rfl,rfl⟩
 rw [HKB.out]
 go_wp2_with fail
 refine(node1_any C q types _ done _ xb _ (by go_simp) (HX.out.ext (((Ext.refl w).alloc _).alloc _))).mono ?_
 rintro e w2 ⟨rfl,rfl⟩
 rw [HLB2.out]
 go_wp2_with fail
 obtain⟨W1,hW1⟩ : ∃W1,W1=((w.alloc (.cells #[.pointer (some ⟨C,0,none⟩)] 152)).alloc (.cells #[.int .i64 4,.int .i64 xa,.int .i64 xb,.int .i64 xp,.string xt,.slice p1 n1 c1,.slice p2 n2 c2] 64)):=⟨_,rfl⟩
 obtain⟨E,hE⟩ : ∃B,B=w.heap.size:=⟨_,rfl⟩
 obtain⟨B,hB⟩ : ∃B,B=w.heap.size+1:=⟨_,rfl⟩
 have hxx:Ext w W1:=by rw [hW1];exact(((Ext.refl w).alloc _).alloc _)
 have aE:W1.cell? ⟨E,0,none⟩=some (.pointer (some ⟨C,0,none⟩)):=by rw [hW1,hE];go_simp
 have a0:W1.cell? ⟨B,0,none⟩=some (.int .i64 4):=by rw [hW1,hB];go_simp
 have a1:W1.cell? ⟨B,1,none⟩=some (.int .i64 xa):=by rw [hW1,hB];go_simp
 have a2:W1.cell? ⟨B,2,none⟩=some (.int .i64 xb):=by rw [hW1,hB];go_simp
 have a3:W1.cell? ⟨B,3,none⟩=some (.int .i64 xp):=by rw [hW1,hB];go_simp
 have a4:W1.cell? ⟨B,4,none⟩=some (.string xt):=by rw [hW1,hB];go_simp
 have a5:W1.cell? ⟨B,5,none⟩=some (.slice p1 n1 c1):=by rw [hW1,hB];go_simp
 have a6:W1.cell? ⟨B,6,none⟩=some (.slice p2 n2 c2):=by rw [hW1,hB];go_simp
 rw [←hB,←hE,←hW1]
 have hS0:Ext w W1.drew∧W1.drew.cell? ⟨E,0,none⟩=some (.pointer (some ⟨C,0,none⟩))∧W1.drew.cell? ⟨B,0,none⟩=some (.int .i64 4)∧W1.drew.cell? ⟨B,1,none⟩=some (.int .i64 xa)∧W1.drew.cell? ⟨B,2,none⟩=some (.int .i64 xb)∧W1.drew.cell? ⟨B,3,none⟩=some (.int .i64 xp)∧W1.drew.cell? ⟨B,4,none⟩=some (.string xt)∧W1.drew.cell? ⟨B,5,none⟩=some (.slice p1 n1 c1)∧W1.drew.cell? ⟨B,6,none⟩=some (.slice p2 n2 c2):=⟨hxx.drew,aE,a0,a1,a2,a3,a4,a5,a6⟩
 clear aE a0 a1 a2 a3 a4 a5 a6 hW1 hE hB
 go_region_held3 (fun w'=>Ext w w'∧w'.cell? ⟨E,0,none⟩=some (.pointer (some ⟨C,0,none⟩))∧w'.cell? ⟨B,0,none⟩=some (.int .i64 4)∧w'.cell? ⟨B,1,none⟩=some (.int .i64 xa)∧w'.cell? ⟨B,2,none⟩=some (.int .i64 xb)∧w'.cell? ⟨B,3,none⟩=some (.int .i64 xp)∧w'.cell? ⟨B,4,none⟩=some (.string xt)∧w'.cell? ⟨B,5,none⟩=some (.slice p1 n1 c1)∧w'.cell? ⟨B,6,none⟩=some (.slice p2 n2 c2))
  (first |with_reducible assumption | with_reducible exact keepE8 (by assumption) x2 | with_reducible exact keepE8 (by assumption) x3)
  (first
   |(go_at_call 145;refine(input_any C q types _ done ⟨4,xa,xb,xp,xt,xe,xg⟩ (.slice p1 n1 c1) (.slice p2 n2 c2) _ (HX.out.ext hxx.drew) (HE.out.ext hxx.drew.full) (HGG.out.ext hxx.drew.full) HLA.out HLB.out HD.out).mono ?_;rintro e w2 ⟨v2,rfl,s2,x2⟩;rw [←HCO.out]at s2;have S2:=Lib.hid s2;obtain⟨p3,q3,rfl,_⟩:=s2.form;have X2:=Lib.hid (show Ext w w2 from (hxx.drew).trans x2);clear s2)
   |(go_at_call 144;refine(predicate_any C q types _ done ⟨4,xa,xb,xp,xt,xe,xg⟩ (.slice p1 n1 c1) (.slice p2 n2 c2) _ (HX.out.ext X2.out) (HE.out.ext X2.out.full) (HGG.out.ext X2.out.full) HLA.out HLB.out HD.out).mono ?_;rintro e w3 ⟨rfl,x3⟩;have HFIT:=Lib.hid (show Ext w w3 from (X2.out).trans x3);rw [←HZ.out];have HX3:=Lib.hid x3)
   |fail)
 all_goals
  clear hS0
  go_wp2_with fail
  exact bodyPost_ret (v:= .tuple #[.slice p3 cols.length q3,.int .i64 z]) (by simp [results,Tryz.results91,go_sem]) rfl ⟨_,by rw [HR2.out],by rw [HR1.out];exact S2.out.ext (Ext.sub HX3.out _),HFIT.out⟩
set_option maxRecDepth 100000 in
set_option maxHeartbeats 8000000 in
theorem node_join5 (C:Nat) (q:QueryI) (types:List TypI) (vc:Value) (done:List (List Int)) (x:NodeI) (ve va:Value) (w:World) (hX:CkA w C q types vc done) (he:SliceOf Rep.int w.cell? ve x.exprs) (hg:SliceOf Rep.agg w.cell? va x.aggs) (hk:x.kind=5) (hla:legN done.length x.a=true) (hlb:binK x.kind=true→legN done.length x.b=true) (hD : ∀l∈done,l.length≤1000) (hel:x.exprs.length≤1048576) (hgl:x.aggs.length≤1048576) :
  Calls Tryz.prog 91 #[.pointer (some ⟨C,0,none⟩),nodeV x ve va] w fun e w'=> ∃v,e = .returned (.tuple #[v,.int .i64 (colsN q.exprs types done x).2])∧SliceOf Rep.int (on w' (avoid (fun b=>b≠C) vc)) v (colsN q.exprs types done x).1∧Ext w w':=by
 have mixed:=mixedA
 have hmf : ∀(fn:Fn) (first cap:Array Value) (w:World),(Instr.makeFunc fn first cap).run Tryz.prog w = .ok (.func fn first cap) w:=fun _ _ _ _=>rfl
 obtain⟨p1,c1,rfl,_,_,hp1⟩:=he.form
 obtain⟨p2,c2,rfl,_,_,hp2⟩:=hg.form
 have HP1:=Lib.hid hp1
 have HP2:=Lib.hid hp2
 clear hp1 hp2
 obtain⟨xk,xa,xb,xp,xt,xe,xg⟩:=x
 dsimp only at he hg hk hla hlb hel hgl ⊢
 obtain⟨n1,hn1⟩ : ∃n,n=xe.length:=⟨_,rfl⟩
 obtain⟨n2,hn2⟩ : ∃n,n=xg.length:=⟨_,rfl⟩
 rw [←hn1,←hn2]
 rw [←hn1]at he
 rw [←hn2]at hg
 have HX:=Lib.hid hX
 have HE:=Lib.hid he
 have HGG:=Lib.hid hg
 have HN1:=Lib.hid hn1
 have HN2:=Lib.hid hn2
 clear he hg hn1 hn2
 have HLA:=Lib.hid hla
 have HLB:=Lib.hid hlb
 have HD:=Lib.hid hD
 have HEL:=Lib.hid hel
 have HGL:=Lib.hid hgl
 clear hel hgl hD
 subst hk
 obtain⟨cols,hcols⟩ : ∃z,z=inputC done ⟨5,xa,xb,xp,xt,xe,xg⟩:=⟨_,rfl⟩
 have HCO:=Lib.hid hcols
 have HKB:=Lib.hid (show binK 5=true from by decide)
 have hlb2:=hlb HKB.out
 have HLB2:=Lib.hid hlb2
 have HR1:=Lib.hid (show (colsN q.exprs types done ⟨5,xa,xb,xp,xt,xe,xg⟩).1=cols from by rw [hcols];unfold colsN;simp [hla,hlb2,binK])
 obtain⟨z,hz⟩ : ∃z,z=predC q.exprs (inputC done ⟨5,xa,xb,xp,xt,xe,xg⟩) xp:=⟨_,rfl⟩
 have HR2:=Lib.hid (show (colsN q.exprs types done ⟨5,xa,xb,xp,xt,xe,xg⟩).2=z from by rw [hz];unfold colsN;simp [hla,hlb2,binK])
 have HZ:=Lib.hid hz
 clear hX hla hlb hlb2 hz hcols
 go_enter Tryz.func91,Tryz.ntmps91
 go_wp2_with fail
 refine(node1_any C q types _ done _ xa _ (by go_simp) (HX.out.ext (((Ext.refl w).alloc _).alloc _))).mono ?_
 rintro e w2 ⟨rfl,rfl⟩
 rw [HLA.out]
 go_wp2_with fail
 refine(isBinary_any 5 _).mono ?_
 rintro e w2 ⟨rfl,rfl⟩
 rw [HKB.out]
 go_wp2_with fail
 refine(node1_any C q types _ done _ xb _ (by go_simp) (HX.out.ext (((Ext.refl w).alloc _).alloc _))).mono ?_
 rintro e w2 ⟨rfl,rfl⟩
 rw [HLB2.out]
 go_wp2_with fail
 obtain⟨W1,hW1⟩ : ∃W1,W1=((w.alloc (.cells #[.pointer (some ⟨C,0,none⟩)] 152)).alloc (.cells #[.int .i64 5,.int .i64 xa,.int .i64 xb,.int .i64 xp,.string xt,.slice p1 n1 c1,.slice p2 n2 c2] 64)):=⟨_,rfl⟩
 obtain⟨E,hE⟩ : ∃B,B=w.heap.size:=⟨_,rfl⟩
 obtain⟨B,hB⟩ : ∃B,B=w.heap.size+1:=⟨_,rfl⟩
 have hxx:Ext w W1:=by rw [hW1];exact(((Ext.refl w).alloc _).alloc _)
 have aE:W1.cell? ⟨E,0,none⟩=some (.pointer (some ⟨C,0,none⟩)):=by rw [hW1,hE];go_simp
 have a0:W1.cell? ⟨B,0,none⟩=some (.int .i64 5):=by rw [hW1,hB];go_simp
 have a1:W1.cell? ⟨B,1,none⟩=some (.int .i64 xa):=by rw [hW1,hB];go_simp
 have a2:W1.cell? ⟨B,2,none⟩=some (.int .i64 xb):=by rw [hW1,hB];go_simp
 have a3:W1.cell? ⟨B,3,none⟩=some (.int .i64 xp):=by rw [hW1,hB];go_simp
 have a4:W1.cell? ⟨B,4,none⟩=some (.string xt):=by rw [hW1,hB];go_simp
 have a5:W1.cell? ⟨B,5,none⟩=some (.slice p1 n1 c1):=by rw [hW1,hB];go_simp
 have a6:W1.cell? ⟨B,6,none⟩=some (.slice p2 n2 c2):=by rw [hW1,hB];go_simp
 rw [←hB,←hE,←hW1]
 have hS0:Ext w W1.drew∧W1.drew.cell? ⟨E,0,none⟩=some (.pointer (some ⟨C,0,none⟩))∧W1.drew.cell? ⟨B,0,none⟩=some (.int .i64 5)∧W1.drew.cell? ⟨B,1,none⟩=some (.int .i64 xa)∧W1.drew.cell? ⟨B,2,none⟩=some (.int .i64 xb)∧W1.drew.cell? ⟨B,3,none⟩=some (.int .i64 xp)∧W1.drew.cell? ⟨B,4,none⟩=some (.string xt)∧W1.drew.cell? ⟨B,5,none⟩=some (.slice p1 n1 c1)∧W1.drew.cell? ⟨B,6,none⟩=some (.slice p2 n2 c2):=⟨hxx.drew,aE,a0,a1,a2,a3,a4,a5,a6⟩
 clear aE a0 a1 a2 a3 a4 a5 a6 hW1 hE hB
 go_region_held3 (fun w'=>Ext w w'∧w'.cell? ⟨E,0,none⟩=some (.pointer (some ⟨C,0,none⟩))∧w'.cell? ⟨B,0,none⟩=some (.int .i64 5)∧w'.cell? ⟨B,1,none⟩=some (.int .i64 xa)∧w'.cell? ⟨B,2,none⟩=some (.int .i64 xb)∧w'.cell? ⟨B,3,none⟩=some (.int .i64 xp)∧w'.cell? ⟨B,4,none⟩=some (.string xt)∧w'.cell? ⟨B,5,none⟩=some (.slice p1 n1 c1)∧w'.cell? ⟨B,6,none⟩=some (.slice p2 n2 c2))
  (first |with_reducible assumption | with_reducible exact keepE8 (by assumption) x2 | with_reducible exact keepE8 (by assumption) x3)
  (first
   |(go_at_call 145;refine(input_any C q types _ done ⟨5,xa,xb,xp,xt,xe,xg⟩ (.slice p1 n1 c1) (.slice p2 n2 c2) _ (HX.out.ext hxx.drew) (HE.out.ext hxx.drew.full) (HGG.out.ext hxx.drew.full) HLA.out HLB.out HD.out).mono ?_;rintro e w2 ⟨v2,rfl,s2,x2⟩;rw [←HCO.out]at s2;have S2:=Lib.hid s2;obtain⟨p3,q3,rfl,_⟩:=s2.form;have X2:=Lib.hid (show Ext w w2 from (hxx.drew).trans x2);clear s2)
   |(go_at_call 144;refine(predicate_any C q types _ done ⟨5,xa,xb,xp,xt,xe,xg⟩ (.slice p1 n1 c1) (.slice p2 n2 c2) _ (HX.out.ext X2.out) (HE.out.ext X2.out.full) (HGG.out.ext X2.out.full) HLA.out HLB.out HD.out).mono ?_;rintro e w3 ⟨rfl,x3⟩;have HFIT:=Lib.hid (show Ext w w3 from (X2.out).trans x3);rw [←HZ.out];have HX3:=Lib.hid x3)
   |fail)
 all_goals
  clear hS0
  go_wp2_with fail
  exact bodyPost_ret (v:= .tuple #[.slice p3 cols.length q3,.int .i64 z]) (by simp [results,Tryz.results91,go_sem]) rfl ⟨_,by rw [HR2.out],by rw [HR1.out];exact S2.out.ext (Ext.sub HX3.out _),HFIT.out⟩
set_option maxRecDepth 100000 in
set_option maxHeartbeats 8000000 in
theorem node_set6 (C:Nat) (q:QueryI) (types:List TypI) (vc:Value) (done:List (List Int)) (x:NodeI) (ve va:Value) (w:World) (hX:CkA w C q types vc done) (he:SliceOf Rep.int w.cell? ve x.exprs) (hg:SliceOf Rep.agg w.cell? va x.aggs) (hk:x.kind=6) (hla:legN done.length x.a=true) (hlb:binK x.kind=true→legN done.length x.b=true) (hD : ∀l∈done,l.length≤1000) (hel:x.exprs.length≤1048576) (hgl:x.aggs.length≤1048576) :
  Calls Tryz.prog 91 #[.pointer (some ⟨C,0,none⟩),nodeV x ve va] w fun e w'=> ∃v,e = .returned (.tuple #[v,.int .i64 (colsN q.exprs types done x).2])∧SliceOf Rep.int (on w' (avoid (fun b=>b≠C) vc)) v (colsN q.exprs types done x).1∧Ext w w':=by
 have mixed:=mixedA
 have hmf : ∀(fn:Fn) (first cap:Array Value) (w:World),(Instr.makeFunc fn first cap).run Tryz.prog w = .ok (.func fn first cap) w:=fun _ _ _ _=>rfl
 obtain⟨p1,c1,rfl,_,_,hp1⟩:=he.form
 obtain⟨p2,c2,rfl,_,_,hp2⟩:=hg.form
 have HP1:=Lib.hid hp1
 have HP2:=Lib.hid hp2
 clear hp1 hp2
 obtain⟨xk,xa,xb,xp,xt,xe,xg⟩:=x
 dsimp only at he hg hk hla hlb hel hgl ⊢
 obtain⟨n1,hn1⟩ : ∃n,n=xe.length:=⟨_,rfl⟩
 obtain⟨n2,hn2⟩ : ∃n,n=xg.length:=⟨_,rfl⟩
 rw [←hn1,←hn2]
 rw [←hn1]at he
 rw [←hn2]at hg
 have HX:=Lib.hid hX
 have HE:=Lib.hid he
 have HGG:=Lib.hid hg
 have HN1:=Lib.hid hn1
 have HN2:=Lib.hid hn2
 clear he hg hn1 hn2
 have HLA:=Lib.hid hla
 have HLB:=Lib.hid hlb
 have HD:=Lib.hid hD
 have HEL:=Lib.hid hel
 have HGL:=Lib.hid hgl
 clear hel hgl hD
 subst hk
 have HKB:=Lib.hid (show binK 6=true from by decide)
 have HLB2:=Lib.hid (hlb HKB.out)
 obtain⟨ja,rfl,hja⟩:=legN_nat hla
 have cc:=hX.cc
 obtain⟨G,cap,ua,rfl,ga,sa⟩:=own_row hX.own ja hja
 obtain⟨pa,ca,rfl,_⟩:=sa.form
 have HLEA:=Lib.hid (HD.out _ (List.getElem_mem hja))
 have HGA:=Lib.hid (getD_nat hja)
 obtain⟨nd,hnd⟩ : ∃n,n=done.length:=⟨_,rfl⟩
 generalize done[ja]=xv at *
 obtain⟨na,hna⟩ : ∃n,n=xv.length:=⟨_,rfl⟩
 rw [←hna]at ga sa
 rw [←hnd]at cc
 have HSA:=Lib.hid sa
 have HNA:=Lib.hid hna
 have HND:=Lib.hid hnd
 have hjn:(ja:Int)<(nd:Int):=by omega
 have hjc:ja<nd:=by omega
 have eg:=cell_lt ga
 have ec:=cell_lt cc
 obtain⟨jb,rfl,hjb⟩:=legN_nat (hlb HKB.out)
 obtain⟨G',cap',ub,e2,gb,sb⟩:=own_row hX.own jb hjb
 obtain⟨rfl,rfl⟩:G=G'∧cap=cap':=by
  injection e2 with e2 e3 e4
  injection e2 with e2
  injection e2 with e2
  exact⟨e2,e4⟩
 obtain⟨pb,cb,rfl,_⟩:=sb.form
 have HLEB:=Lib.hid (HD.out _ (List.getElem_mem hjb))
 have HGB:=Lib.hid (getD_nat hjb)
 generalize done[jb]=yv at *
 obtain⟨nb,hnb⟩ : ∃n,n=yv.length:=⟨_,rfl⟩
 rw [←hnb]at gb sb
 have HSB:=Lib.hid sb
 have HNB:=Lib.hid hnb
 have hjn2:(jb:Int)<(nd:Int):=by omega
 have hjc2:jb<nd:=by omega
 have HR:=Lib.hid (show colsN q.exprs types done ⟨6,ja,jb,xp,xt,xe,xg⟩=compatC xv yv from by have h:=HLB2.out;unfold colsN;simp [hla,h,binK];rw [show done[ja]?.getD []=xv from by have g:=HGA.out;rw [Int.toNat_natCast,List.getD_eq_getElem?_getD]at g;exact g,show done[jb]?.getD []=yv from by have g:=HGB.out;rw [Int.toNat_natCast,List.getD_eq_getElem?_getD]at g;exact g])
 obtain⟨z,hz⟩ : ∃z,z=(compatC xv yv).2:=⟨_,rfl⟩
 have HZ:=Lib.hid hz
 clear hX hla hlb hz sa hna hnd hja sb hnb hjb e2
 go_enter Tryz.func91,Tryz.ntmps91
 go_wp2_with fail
 refine(node1_any C q types _ done _ ja _ (by go_simp) (HX.out.ext (((Ext.refl w).alloc _).alloc _))).mono ?_
 rintro e w2 ⟨rfl,rfl⟩
 rw [HLA.out]
 go_wp2_with fail
 refine(isBinary_any 6 _).mono ?_
 rintro e w2 ⟨rfl,rfl⟩
 rw [HKB.out]
 go_wp2_with fail
 refine(node1_any C q types _ done _ jb _ (by go_simp) (HX.out.ext (((Ext.refl w).alloc _).alloc _))).mono ?_
 rintro e w2 ⟨rfl,rfl⟩
 rw [HLB2.out]
 go_wp2_with fail
 obtain⟨W1,hW1⟩ : ∃W1,W1=((w.alloc (.cells #[.pointer (some ⟨C,0,none⟩)] 152)).alloc (.cells #[.int .i64 6,.int .i64 ja,.int .i64 jb,.int .i64 xp,.string xt,.slice p1 n1 c1,.slice p2 n2 c2] 64)):=⟨_,rfl⟩
 obtain⟨E,hE⟩ : ∃B,B=w.heap.size:=⟨_,rfl⟩
 obtain⟨B,hB⟩ : ∃B,B=w.heap.size+1:=⟨_,rfl⟩
 have hxx:Ext w W1:=by rw [hW1];exact(((Ext.refl w).alloc _).alloc _)
 have aE:W1.cell? ⟨E,0,none⟩=some (.pointer (some ⟨C,0,none⟩)):=by rw [hW1,hE];go_simp
 have a0:W1.cell? ⟨B,0,none⟩=some (.int .i64 6):=by rw [hW1,hB];go_simp
 have a1:W1.cell? ⟨B,1,none⟩=some (.int .i64 ja):=by rw [hW1,hB];go_simp
 have a2:W1.cell? ⟨B,2,none⟩=some (.int .i64 jb):=by rw [hW1,hB];go_simp
 have a3:W1.cell? ⟨B,3,none⟩=some (.int .i64 xp):=by rw [hW1,hB];go_simp
 have a4:W1.cell? ⟨B,4,none⟩=some (.string xt):=by rw [hW1,hB];go_simp
 have a5:W1.cell? ⟨B,5,none⟩=some (.slice p1 n1 c1):=by rw [hW1,hB];go_simp
 have a6:W1.cell? ⟨B,6,none⟩=some (.slice p2 n2 c2):=by rw [hW1,hB];go_simp
 rw [←hB,←hE,←hW1]
 have hS0:Ext w W1.drew∧W1.drew.cell? ⟨E,0,none⟩=some (.pointer (some ⟨C,0,none⟩))∧W1.drew.cell? ⟨C,3,none⟩=some (.slice (some ⟨G,0,none⟩) nd cap)∧W1.drew.cell? ⟨B,1,none⟩=some (.int .i64 ja)∧W1.drew.cell? ⟨B,2,none⟩=some (.int .i64 jb)∧W1.drew.cell? ⟨G,ja,none⟩=some (.slice pa na ca)∧W1.drew.cell? ⟨G,jb,none⟩=some (.slice pb nb cb):=⟨hxx.drew,aE,hxx.at cc,a1,a2,hxx.at ga,hxx.at gb⟩
 clear aE a0 a1 a2 a3 a4 a5 a6 hW1 hE hB
 go_region_held3 (fun w'=>Ext w w'∧w'.cell? ⟨E,0,none⟩=some (.pointer (some ⟨C,0,none⟩))∧w'.cell? ⟨C,3,none⟩=some (.slice (some ⟨G,0,none⟩) nd cap)∧w'.cell? ⟨B,1,none⟩=some (.int .i64 ja)∧w'.cell? ⟨B,2,none⟩=some (.int .i64 jb)∧w'.cell? ⟨G,ja,none⟩=some (.slice pa na ca)∧w'.cell? ⟨G,jb,none⟩=some (.slice pb nb cb))
  (first |with_reducible assumption | with_reducible exact keepE6 (by assumption) x2)
  (first
   |(go_at_call 147;refine(compatible_any _ _ xv yv _ (by have h:=(HSA.out.ext (on_sub _ _)).ext hxx.drew.full;exact h) (by have h:=(HSB.out.ext (on_sub _ _)).ext hxx.drew.full;exact h) HLEA.out HLEB.out).mono ?_;rintro e w2 ⟨v2,rfl,s2,x2⟩;rw [←HZ.out];have S2:=Lib.hid s2;have HFIT:=Lib.hid (show Ext w w2 from hxx.drew.trans x2);obtain⟨p3,q3,hv2,_⟩:=s2.form;clear s2)
   |fail)
 all_goals
  clear hS0
  subst hv2
  generalize hL:(compatC xv yv).1.length=L3 at *
  go_wp2_with fail
  exact bodyPost_ret (v:= .tuple #[.slice p3 L3 q3,.int .i64 z]) (by simp [results,Tryz.results91,go_sem]) rfl ⟨_,by rw [HR.out,HZ.out],by rw [HR.out];exact HX.out.new (S2.out.ext (on_mono _ fun k _ hk=>Nat.le_trans hxx.size (by exact hk))),HFIT.out⟩
set_option maxRecDepth 100000 in
set_option maxHeartbeats 8000000 in
theorem node_set7 (C:Nat) (q:QueryI) (types:List TypI) (vc:Value) (done:List (List Int)) (x:NodeI) (ve va:Value) (w:World) (hX:CkA w C q types vc done) (he:SliceOf Rep.int w.cell? ve x.exprs) (hg:SliceOf Rep.agg w.cell? va x.aggs) (hk:x.kind=7) (hla:legN done.length x.a=true) (hlb:binK x.kind=true→legN done.length x.b=true) (hD : ∀l∈done,l.length≤1000) (hel:x.exprs.length≤1048576) (hgl:x.aggs.length≤1048576) :
  Calls Tryz.prog 91 #[.pointer (some ⟨C,0,none⟩),nodeV x ve va] w fun e w'=> ∃v,e = .returned (.tuple #[v,.int .i64 (colsN q.exprs types done x).2])∧SliceOf Rep.int (on w' (avoid (fun b=>b≠C) vc)) v (colsN q.exprs types done x).1∧Ext w w':=by
 have mixed:=mixedA
 have hmf : ∀(fn:Fn) (first cap:Array Value) (w:World),(Instr.makeFunc fn first cap).run Tryz.prog w = .ok (.func fn first cap) w:=fun _ _ _ _=>rfl
 obtain⟨p1,c1,rfl,_,_,hp1⟩:=he.form
 obtain⟨p2,c2,rfl,_,_,hp2⟩:=hg.form
 have HP1:=Lib.hid hp1
 have HP2:=Lib.hid hp2
 clear hp1 hp2
 obtain⟨xk,xa,xb,xp,xt,xe,xg⟩:=x
 dsimp only at he hg hk hla hlb hel hgl ⊢
 obtain⟨n1,hn1⟩ : ∃n,n=xe.length:=⟨_,rfl⟩
 obtain⟨n2,hn2⟩ : ∃n,n=xg.length:=⟨_,rfl⟩
 rw [←hn1,←hn2]
 rw [←hn1]at he
 rw [←hn2]at hg
 have HX:=Lib.hid hX
 have HE:=Lib.hid he
 have HGG:=Lib.hid hg
 have HN1:=Lib.hid hn1
 have HN2:=Lib.hid hn2
 clear he hg hn1 hn2
 have HLA:=Lib.hid hla
 have HLB:=Lib.hid hlb
 have HD:=Lib.hid hD
 have HEL:=Lib.hid hel
 have HGL:=Lib.hid hgl
 clear hel hgl hD
 subst hk
 have HKB:=Lib.hid (show binK 7=true from by decide)
 have HLB2:=Lib.hid (hlb HKB.out)
 obtain⟨ja,rfl,hja⟩:=legN_nat hla
 have cc:=hX.cc
 obtain⟨G,cap,ua,rfl,ga,sa⟩:=own_row hX.own ja hja
 obtain⟨pa,ca,rfl,_⟩:=sa.form
 have HLEA:=Lib.hid (HD.out _ (List.getElem_mem hja))
 have HGA:=Lib.hid (getD_nat hja)
 obtain⟨nd,hnd⟩ : ∃n,n=done.length:=⟨_,rfl⟩
 generalize done[ja]=xv at *
 obtain⟨na,hna⟩ : ∃n,n=xv.length:=⟨_,rfl⟩
 rw [←hna]at ga sa
 rw [←hnd]at cc
 have HSA:=Lib.hid sa
 have HNA:=Lib.hid hna
 have HND:=Lib.hid hnd
 have hjn:(ja:Int)<(nd:Int):=by omega
 have hjc:ja<nd:=by omega
 have eg:=cell_lt ga
 have ec:=cell_lt cc
 obtain⟨jb,rfl,hjb⟩:=legN_nat (hlb HKB.out)
 obtain⟨G',cap',ub,e2,gb,sb⟩:=own_row hX.own jb hjb
 obtain⟨rfl,rfl⟩:G=G'∧cap=cap':=by
  injection e2 with e2 e3 e4
  injection e2 with e2
  injection e2 with e2
  exact⟨e2,e4⟩
 obtain⟨pb,cb,rfl,_⟩:=sb.form
 have HLEB:=Lib.hid (HD.out _ (List.getElem_mem hjb))
 have HGB:=Lib.hid (getD_nat hjb)
 generalize done[jb]=yv at *
 obtain⟨nb,hnb⟩ : ∃n,n=yv.length:=⟨_,rfl⟩
 rw [←hnb]at gb sb
 have HSB:=Lib.hid sb
 have HNB:=Lib.hid hnb
 have hjn2:(jb:Int)<(nd:Int):=by omega
 have hjc2:jb<nd:=by omega
 have HR:=Lib.hid (show colsN q.exprs types done ⟨7,ja,jb,xp,xt,xe,xg⟩=compatC xv yv from by have h:=HLB2.out;unfold colsN;simp [hla,h,binK];rw [show done[ja]?.getD []=xv from by have g:=HGA.out;rw [Int.toNat_natCast,List.getD_eq_getElem?_getD]at g;exact g,show done[jb]?.getD []=yv from by have g:=HGB.out;rw [Int.toNat_natCast,List.getD_eq_getElem?_getD]at g;exact g])
 obtain⟨z,hz⟩ : ∃z,z=(compatC xv yv).2:=⟨_,rfl⟩
 have HZ:=Lib.hid hz
 clear hX hla hlb hz sa hna hnd hja sb hnb hjb e2
 go_enter Tryz.func91,Tryz.ntmps91
 go_wp2_with fail
 refine(node1_any C q types _ done _ ja _ (by go_simp) (HX.out.ext (((Ext.refl w).alloc _).alloc _))).mono ?_
 rintro e w2 ⟨rfl,rfl⟩
 rw [HLA.out]
 go_wp2_with fail
 refine(isBinary_any 7 _).mono ?_
 rintro e w2 ⟨rfl,rfl⟩
 rw [HKB.out]
 go_wp2_with fail
 refine(node1_any C q types _ done _ jb _ (by go_simp) (HX.out.ext (((Ext.refl w).alloc _).alloc _))).mono ?_
 rintro e w2 ⟨rfl,rfl⟩
 rw [HLB2.out]
 go_wp2_with fail
 obtain⟨W1,hW1⟩ : ∃W1,W1=((w.alloc (.cells #[.pointer (some ⟨C,0,none⟩)] 152)).alloc (.cells #[.int .i64 7,.int .i64 ja,.int .i64 jb,.int .i64 xp,.string xt,.slice p1 n1 c1,.slice p2 n2 c2] 64)):=⟨_,rfl⟩
 obtain⟨E,hE⟩ : ∃B,B=w.heap.size:=⟨_,rfl⟩
 obtain⟨B,hB⟩ : ∃B,B=w.heap.size+1:=⟨_,rfl⟩
 have hxx:Ext w W1:=by rw [hW1];exact(((Ext.refl w).alloc _).alloc _)
 have aE:W1.cell? ⟨E,0,none⟩=some (.pointer (some ⟨C,0,none⟩)):=by rw [hW1,hE];go_simp
 have a0:W1.cell? ⟨B,0,none⟩=some (.int .i64 7):=by rw [hW1,hB];go_simp
 have a1:W1.cell? ⟨B,1,none⟩=some (.int .i64 ja):=by rw [hW1,hB];go_simp
 have a2:W1.cell? ⟨B,2,none⟩=some (.int .i64 jb):=by rw [hW1,hB];go_simp
 have a3:W1.cell? ⟨B,3,none⟩=some (.int .i64 xp):=by rw [hW1,hB];go_simp
 have a4:W1.cell? ⟨B,4,none⟩=some (.string xt):=by rw [hW1,hB];go_simp
 have a5:W1.cell? ⟨B,5,none⟩=some (.slice p1 n1 c1):=by rw [hW1,hB];go_simp
 have a6:W1.cell? ⟨B,6,none⟩=some (.slice p2 n2 c2):=by rw [hW1,hB];go_simp
 rw [←hB,←hE,←hW1]
 have hS0:Ext w W1.drew∧W1.drew.cell? ⟨E,0,none⟩=some (.pointer (some ⟨C,0,none⟩))∧W1.drew.cell? ⟨C,3,none⟩=some (.slice (some ⟨G,0,none⟩) nd cap)∧W1.drew.cell? ⟨B,1,none⟩=some (.int .i64 ja)∧W1.drew.cell? ⟨B,2,none⟩=some (.int .i64 jb)∧W1.drew.cell? ⟨G,ja,none⟩=some (.slice pa na ca)∧W1.drew.cell? ⟨G,jb,none⟩=some (.slice pb nb cb):=⟨hxx.drew,aE,hxx.at cc,a1,a2,hxx.at ga,hxx.at gb⟩
 clear aE a0 a1 a2 a3 a4 a5 a6 hW1 hE hB
 go_region_held3 (fun w'=>Ext w w'∧w'.cell? ⟨E,0,none⟩=some (.pointer (some ⟨C,0,none⟩))∧w'.cell? ⟨C,3,none⟩=some (.slice (some ⟨G,0,none⟩) nd cap)∧w'.cell? ⟨B,1,none⟩=some (.int .i64 ja)∧w'.cell? ⟨B,2,none⟩=some (.int .i64 jb)∧w'.cell? ⟨G,ja,none⟩=some (.slice pa na ca)∧w'.cell? ⟨G,jb,none⟩=some (.slice pb nb cb))
  (first |with_reducible assumption | with_reducible exact keepE6 (by assumption) x2)
  (first
   |(go_at_call 147;refine(compatible_any _ _ xv yv _ (by have h:=(HSA.out.ext (on_sub _ _)).ext hxx.drew.full;exact h) (by have h:=(HSB.out.ext (on_sub _ _)).ext hxx.drew.full;exact h) HLEA.out HLEB.out).mono ?_;rintro e w2 ⟨v2,rfl,s2,x2⟩;rw [←HZ.out];have S2:=Lib.hid s2;have HFIT:=Lib.hid (show Ext w w2 from hxx.drew.trans x2);obtain⟨p3,q3,hv2,_⟩:=s2.form;clear s2)
   |fail)
 all_goals
  clear hS0
  subst hv2
  generalize hL:(compatC xv yv).1.length=L3 at *
  go_wp2_with fail
  exact bodyPost_ret (v:= .tuple #[.slice p3 L3 q3,.int .i64 z]) (by simp [results,Tryz.results91,go_sem]) rfl ⟨_,by rw [HR.out,HZ.out],by rw [HR.out];exact HX.out.new (S2.out.ext (on_mono _ fun k _ hk=>Nat.le_trans hxx.size (by exact hk))),HFIT.out⟩
set_option maxRecDepth 100000 in
set_option maxHeartbeats 8000000 in
theorem node_set8 (C:Nat) (q:QueryI) (types:List TypI) (vc:Value) (done:List (List Int)) (x:NodeI) (ve va:Value) (w:World) (hX:CkA w C q types vc done) (he:SliceOf Rep.int w.cell? ve x.exprs) (hg:SliceOf Rep.agg w.cell? va x.aggs) (hk:x.kind=8) (hla:legN done.length x.a=true) (hlb:binK x.kind=true→legN done.length x.b=true) (hD : ∀l∈done,l.length≤1000) (hel:x.exprs.length≤1048576) (hgl:x.aggs.length≤1048576) :
  Calls Tryz.prog 91 #[.pointer (some ⟨C,0,none⟩),nodeV x ve va] w fun e w'=> ∃v,e = .returned (.tuple #[v,.int .i64 (colsN q.exprs types done x).2])∧SliceOf Rep.int (on w' (avoid (fun b=>b≠C) vc)) v (colsN q.exprs types done x).1∧Ext w w':=by
 have mixed:=mixedA
 have hmf : ∀(fn:Fn) (first cap:Array Value) (w:World),(Instr.makeFunc fn first cap).run Tryz.prog w = .ok (.func fn first cap) w:=fun _ _ _ _=>rfl
 obtain⟨p1,c1,rfl,_,_,hp1⟩:=he.form
 obtain⟨p2,c2,rfl,_,_,hp2⟩:=hg.form
 have HP1:=Lib.hid hp1
 have HP2:=Lib.hid hp2
 clear hp1 hp2
 obtain⟨xk,xa,xb,xp,xt,xe,xg⟩:=x
 dsimp only at he hg hk hla hlb hel hgl ⊢
 obtain⟨n1,hn1⟩ : ∃n,n=xe.length:=⟨_,rfl⟩
 obtain⟨n2,hn2⟩ : ∃n,n=xg.length:=⟨_,rfl⟩
 rw [←hn1,←hn2]
 rw [←hn1]at he
 rw [←hn2]at hg
 have HX:=Lib.hid hX
 have HE:=Lib.hid he
 have HGG:=Lib.hid hg
 have HN1:=Lib.hid hn1
 have HN2:=Lib.hid hn2
 clear he hg hn1 hn2
 have HLA:=Lib.hid hla
 have HLB:=Lib.hid hlb
 have HD:=Lib.hid hD
 have HEL:=Lib.hid hel
 have HGL:=Lib.hid hgl
 clear hel hgl hD
 subst hk
 have HKB:=Lib.hid (show binK 8=true from by decide)
 have HLB2:=Lib.hid (hlb HKB.out)
 obtain⟨ja,rfl,hja⟩:=legN_nat hla
 have cc:=hX.cc
 obtain⟨G,cap,ua,rfl,ga,sa⟩:=own_row hX.own ja hja
 obtain⟨pa,ca,rfl,_⟩:=sa.form
 have HLEA:=Lib.hid (HD.out _ (List.getElem_mem hja))
 have HGA:=Lib.hid (getD_nat hja)
 obtain⟨nd,hnd⟩ : ∃n,n=done.length:=⟨_,rfl⟩
 generalize done[ja]=xv at *
 obtain⟨na,hna⟩ : ∃n,n=xv.length:=⟨_,rfl⟩
 rw [←hna]at ga sa
 rw [←hnd]at cc
 have HSA:=Lib.hid sa
 have HNA:=Lib.hid hna
 have HND:=Lib.hid hnd
 have hjn:(ja:Int)<(nd:Int):=by omega
 have hjc:ja<nd:=by omega
 have eg:=cell_lt ga
 have ec:=cell_lt cc
 obtain⟨jb,rfl,hjb⟩:=legN_nat (hlb HKB.out)
 obtain⟨G',cap',ub,e2,gb,sb⟩:=own_row hX.own jb hjb
 obtain⟨rfl,rfl⟩:G=G'∧cap=cap':=by
  injection e2 with e2 e3 e4
  injection e2 with e2
  injection e2 with e2
  exact⟨e2,e4⟩
 obtain⟨pb,cb,rfl,_⟩:=sb.form
 have HLEB:=Lib.hid (HD.out _ (List.getElem_mem hjb))
 have HGB:=Lib.hid (getD_nat hjb)
 generalize done[jb]=yv at *
 obtain⟨nb,hnb⟩ : ∃n,n=yv.length:=⟨_,rfl⟩
 rw [←hnb]at gb sb
 have HSB:=Lib.hid sb
 have HNB:=Lib.hid hnb
 have hjn2:(jb:Int)<(nd:Int):=by omega
 have hjc2:jb<nd:=by omega
 have HR:=Lib.hid (show colsN q.exprs types done ⟨8,ja,jb,xp,xt,xe,xg⟩=compatC xv yv from by have h:=HLB2.out;unfold colsN;simp [hla,h,binK];rw [show done[ja]?.getD []=xv from by have g:=HGA.out;rw [Int.toNat_natCast,List.getD_eq_getElem?_getD]at g;exact g,show done[jb]?.getD []=yv from by have g:=HGB.out;rw [Int.toNat_natCast,List.getD_eq_getElem?_getD]at g;exact g])
 obtain⟨z,hz⟩ : ∃z,z=(compatC xv yv).2:=⟨_,rfl⟩
 have HZ:=Lib.hid hz
 clear hX hla hlb hz sa hna hnd hja sb hnb hjb e2
 go_enter Tryz.func91,Tryz.ntmps91
 go_wp2_with fail
 refine(node1_any C q types _ done _ ja _ (by go_simp) (HX.out.ext (((Ext.refl w).alloc _).alloc _))).mono ?_
 rintro e w2 ⟨rfl,rfl⟩
 rw [HLA.out]
 go_wp2_with fail
 refine(isBinary_any 8 _).mono ?_
 rintro e w2 ⟨rfl,rfl⟩
 rw [HKB.out]
 go_wp2_with fail
 refine(node1_any C q types _ done _ jb _ (by go_simp) (HX.out.ext (((Ext.refl w).alloc _).alloc _))).mono ?_
 rintro e w2 ⟨rfl,rfl⟩
 rw [HLB2.out]
 go_wp2_with fail
 obtain⟨W1,hW1⟩ : ∃W1,W1=((w.alloc (.cells #[.pointer (some ⟨C,0,none⟩)] 152)).alloc (.cells #[.int .i64 8,.int .i64 ja,.int .i64 jb,.int .i64 xp,.string xt,.slice p1 n1 c1,.slice p2 n2 c2] 64)):=⟨_,rfl⟩
 obtain⟨E,hE⟩ : ∃B,B=w.heap.size:=⟨_,rfl⟩
 obtain⟨B,hB⟩ : ∃B,B=w.heap.size+1:=⟨_,rfl⟩
 have hxx:Ext w W1:=by rw [hW1];exact(((Ext.refl w).alloc _).alloc _)
 have aE:W1.cell? ⟨E,0,none⟩=some (.pointer (some ⟨C,0,none⟩)):=by rw [hW1,hE];go_simp
 have a0:W1.cell? ⟨B,0,none⟩=some (.int .i64 8):=by rw [hW1,hB];go_simp
 have a1:W1.cell? ⟨B,1,none⟩=some (.int .i64 ja):=by rw [hW1,hB];go_simp
 have a2:W1.cell? ⟨B,2,none⟩=some (.int .i64 jb):=by rw [hW1,hB];go_simp
 have a3:W1.cell? ⟨B,3,none⟩=some (.int .i64 xp):=by rw [hW1,hB];go_simp
 have a4:W1.cell? ⟨B,4,none⟩=some (.string xt):=by rw [hW1,hB];go_simp
 have a5:W1.cell? ⟨B,5,none⟩=some (.slice p1 n1 c1):=by rw [hW1,hB];go_simp
 have a6:W1.cell? ⟨B,6,none⟩=some (.slice p2 n2 c2):=by rw [hW1,hB];go_simp
 rw [←hB,←hE,←hW1]
 have hS0:Ext w W1.drew∧W1.drew.cell? ⟨E,0,none⟩=some (.pointer (some ⟨C,0,none⟩))∧W1.drew.cell? ⟨C,3,none⟩=some (.slice (some ⟨G,0,none⟩) nd cap)∧W1.drew.cell? ⟨B,1,none⟩=some (.int .i64 ja)∧W1.drew.cell? ⟨B,2,none⟩=some (.int .i64 jb)∧W1.drew.cell? ⟨G,ja,none⟩=some (.slice pa na ca)∧W1.drew.cell? ⟨G,jb,none⟩=some (.slice pb nb cb):=⟨hxx.drew,aE,hxx.at cc,a1,a2,hxx.at ga,hxx.at gb⟩
 clear aE a0 a1 a2 a3 a4 a5 a6 hW1 hE hB
 go_region_held3 (fun w'=>Ext w w'∧w'.cell? ⟨E,0,none⟩=some (.pointer (some ⟨C,0,none⟩))∧w'.cell? ⟨C,3,none⟩=some (.slice (some ⟨G,0,none⟩) nd cap)∧w'.cell? ⟨B,1,none⟩=some (.int .i64 ja)∧w'.cell? ⟨B,2,none⟩=some (.int .i64 jb)∧w'.cell? ⟨G,ja,none⟩=some (.slice pa na ca)∧w'.cell? ⟨G,jb,none⟩=some (.slice pb nb cb))
  (first |with_reducible assumption | with_reducible exact keepE6 (by assumption) x2)
  (first
   |(go_at_call 147;refine(compatible_any _ _ xv yv _ (by have h:=(HSA.out.ext (on_sub _ _)).ext hxx.drew.full;exact h) (by have h:=(HSB.out.ext (on_sub _ _)).ext hxx.drew.full;exact h) HLEA.out HLEB.out).mono ?_;rintro e w2 ⟨v2,rfl,s2,x2⟩;rw [←HZ.out];have S2:=Lib.hid s2;have HFIT:=Lib.hid (show Ext w w2 from hxx.drew.trans x2);obtain⟨p3,q3,hv2,_⟩:=s2.form;clear s2)
   |fail)
 all_goals
  clear hS0
  subst hv2
  generalize hL:(compatC xv yv).1.length=L3 at *
  go_wp2_with fail
  exact bodyPost_ret (v:= .tuple #[.slice p3 L3 q3,.int .i64 z]) (by simp [results,Tryz.results91,go_sem]) rfl ⟨_,by rw [HR.out,HZ.out],by rw [HR.out];exact HX.out.new (S2.out.ext (on_mono _ fun k _ hk=>Nat.le_trans hxx.size (by exact hk))),HFIT.out⟩
theorem node_any (C:Nat) (q:QueryI) (types:List TypI) (vc:Value) (done:List (List Int)) (x:NodeI) (ve va:Value) (w:World) (hX:CkA w C q types vc done) (he:SliceOf Rep.int w.cell? ve x.exprs) (hg:SliceOf Rep.agg w.cell? va x.aggs) (htl:types.length≤1048576) (hD : ∀l∈done,l.length≤1000) (hel:x.exprs.length≤1048576) (hgl:x.aggs.length≤1048576) :
  Calls Tryz.prog 91 #[.pointer (some ⟨C,0,none⟩),nodeV x ve va] w fun e w'=> ∃v,e = .returned (.tuple #[v,.int .i64 (colsN q.exprs types done x).2])∧SliceOf Rep.int (on w' (avoid (fun b=>b≠C) vc)) v (colsN q.exprs types done x).1∧Ext w w':=by
 by_cases h0:x.kind<1∨10<x.kind
 ·exact node_none C q types vc done x ve va w hX he hg h0
 by_cases h1:x.kind=1
 ·exact node_scan C q types vc done x ve va w hX he hg h1 htl
 by_cases hl:legN done.length x.a=false∨(binK x.kind=true∧legN done.length x.b=false)
 ·exact node_bad C q types vc done x ve va w hX he hg (by omega) hl
 have hla:legN done.length x.a=true:=by
  cases h:legN done.length x.a
  ·exact absurd (.inl h) hl
  ·rfl
 have hlb:binK x.kind=true→legN done.length x.b=true:=fun hb=>by
  cases h:legN done.length x.b
  ·exact absurd (.inr ⟨hb,h⟩) hl
  ·rfl
 have hk:x.kind=2∨x.kind=3∨x.kind=4∨x.kind=5∨x.kind=6∨x.kind=7∨x.kind=8∨x.kind=9∨x.kind=10:=by omega
 rcases hk with hk | hk | hk | hk | hk | hk | hk | hk | hk
 ·exact node_sel C q types vc done x ve va w hX he hg hk hla hlb hD hel hgl
 ·exact node_proj C q types vc done x ve va w hX he hg hk hla hlb hD hel hgl
 ·exact node_join4 C q types vc done x ve va w hX he hg hk hla hlb hD hel hgl
 ·exact node_join5 C q types vc done x ve va w hX he hg hk hla hlb hD hel hgl
 ·exact node_set6 C q types vc done x ve va w hX he hg hk hla hlb hD hel hgl
 ·exact node_set7 C q types vc done x ve va w hX he hg hk hla hlb hD hel hgl
 ·exact node_set8 C q types vc done x ve va w hX he hg hk hla hlb hD hel hgl
 ·exact node_rest C q types vc done x ve va w hX he hg hk hla hlb hD hel hgl
 ·exact node_group C q types vc done x ve va w hX he hg hk hla hlb hD hel hgl
end Go.Proofs.YtombmdaohcjokaaGreatDoor
