/- joined texts of a proof: RefU, RefW, RefG, RefV, PlainT, AlgR -/
import Derived.Test.YtkddkbpoefidpaaGreatDoorKG10
import Derived.Laws.BitsLemmas
import Derived.Test.YtkddkbpoefidpaaGreatDoorKG02
import Derived.Test.YtkddkbpoefidpaaGreatDoorKG14
import Derived.Test.YtkddkbpoefidpaaGreatDoorKG08
import Derived.Test.YtkddkbpoefidpaaGreatDoorKG12
import Derived.Test.YtkddkbpoefidpaaGreatDoorKG03
import Derived.Test.YtkddkbpoefidpaaGreatDoorKG17
namespace Go.Proofs.YtkddkbpoefidpaaGreatDoor
open Go.RowKit
theorem and_mask32 (n:Int) (h0 : -9223372036854775808≤n) (h1:n≤9223372036854775807):bits .and .i64 n 4294967295=n % 4294967296:=by
 have e:(BitVec.ofInt IntKind.i64.bits n &&& BitVec.ofInt IntKind.i64.bits 4294967295).toNat=(n % 4294967296).toNat:=by
  rw [BitVec.toNat_and,BitVec.toNat_ofInt,BitVec.toNat_ofInt]
  have e1:((4294967295:Int) % ((2 ^ IntKind.i64.bits:Nat):Int)).toNat=2 ^ 32 - 1:=by decide
  rw [e1,Nat.and_two_pow_sub_one_eq_mod]
  have e2:((2 ^ IntKind.i64.bits:Nat):Int)=18446744073709551616:=by decide
  rw [e2]
  have e3:(2:Nat) ^ 32=4294967296:=by decide
  rw [e3]
  omega
 unfold bits
 simp only
 rw [e,IntKind.wrap_i64]
 omega
theorem or_join32 (x y:Int) (h0 : -9223372036854775808≤x) (h1:x≤9223372036854775807) (hx:x % 4294967296=0) (hy0:0≤y) (hy:y<4294967296):bits .or .i64 x y=x+y:=by
 have e:(BitVec.ofInt IntKind.i64.bits x ||| BitVec.ofInt IntKind.i64.bits y).toNat=(x % 18446744073709551616).toNat+y.toNat:=by
  rw [BitVec.toNat_or,BitVec.toNat_ofInt,BitVec.toNat_ofInt]
  have e2:((2 ^ IntKind.i64.bits:Nat):Int)=18446744073709551616:=by decide
  rw [e2]
  obtain⟨q,hq⟩ : ∃q:Nat,(x % 18446744073709551616).toNat=2 ^ 32*q:=⟨(x % 18446744073709551616).toNat / 4294967296,by
   have e3:(2:Nat) ^ 32=4294967296:=by decide
   rw [e3];omega⟩
  have hy2:(y % 18446744073709551616).toNat=y.toNat:=by omega
  rw [hq,hy2]
  exact(Nat.two_pow_add_eq_or_of_lt (i:=32) (b:=y.toNat) (by
   have e3:(2:Nat) ^ 32=4294967296:=by decide
   rw [e3];omega) q).symm
 unfold bits
 simp only
 rw [e,IntKind.wrap_i64]
 omega
def sumF (f:Int→Int) (xs:List Val):Int:=((xs.filter fun v=>decide (v.kind=1)).map fun v=>f v.n).sum
theorem sumF_take (f:Int→Int) (xs:List Val) (k:Nat) (h:k<xs.length):sumF f (xs.take (k+1))=sumF f (xs.take k)+if xs[k].kind=1 then f xs[k].n else 0:=by
 unfold sumF
 rw [List.take_succ_eq_append_getElem h,List.filter_append,List.map_append,List.sum_append]
 congr 1
 rw [List.filter_cons,List.filter_nil]
 by_cases e:xs[k].kind=1
 ·rw [if_pos e,if_pos (by simp [e])];simp
 ·rw [if_neg e,if_neg (by simp [e])];simp
theorem sumF_cons (f:Int→Int) (x:Val) (xs:List Val):sumF f (x::xs)=(if x.kind=1 then f x.n else 0)+sumF f xs:=by
 unfold sumF
 rw [List.filter_cons]
 by_cases c:x.kind=1
 ·rw [if_pos c,if_pos (by simp [c])];simp
 ·rw [if_neg c,if_neg (by simp [c])];simp
theorem sumF_bound {f:Int→Int} {xs:List Val} {a b:Int} (ha:0≤a) (hb:0≤b) (h : ∀v∈xs,-a≤f v.n∧f v.n≤b) : -(a*xs.length)≤sumF f xs∧sumF f xs≤b*xs.length:=by
 induction xs with
 |nil=>simp [sumF]
 |cons x xs ih =>
  have h1:=ih fun v hv=>h v (by simp [hv])
  have h2:=h x (by simp)
  have e:b*((x::xs).length:Int)=b*xs.length+b:=by rw [List.length_cons];push_cast;rw [Int.mul_add,Int.mul_one]
  have e1:a*((x::xs).length:Int)=a*xs.length+a:=by rw [List.length_cons];push_cast;rw [Int.mul_add,Int.mul_one]
  rw [e,e1,sumF_cons]
  split <;> omega
theorem sumI_halves (xs:List Val):sumI xs=4294967296*sumF (· / 4294967296) xs+sumF (· % 4294967296) xs:=by
 induction xs with
 |nil=>rfl
 |cons x xs ih =>
  have e2:sumI (x::xs)=(if x.kind=1 then x.n else 0)+sumI xs:=sumF_cons (fun n=>n) x xs
  rw [sumF_cons,sumF_cons,e2,ih]
  split <;> omega
theorem anyI_count (xs:List Val):anyI xs=decide (sumF (fun _=>1) xs≠0)∧0≤sumF (fun _=>1) xs:=by
 induction xs with
 |nil=>exact⟨rfl,Int.le_refl 0⟩
 |cons x xs ih =>
  have e:anyI (x::xs)=(decide (x.kind=1)||anyI xs):=rfl
  rw [e,ih.1,sumF_cons]
  by_cases c:x.kind=1
  ·rw [if_pos c,decide_eq_true c,Bool.true_or]
   exact⟨(decide_eq_true (by omega)).symm,by omega⟩
  ·rw [if_neg c,decide_eq_false c,Bool.false_or,Int.zero_add]
   exact⟨rfl,ih.2⟩
set_option maxRecDepth 100000 in
set_option maxHeartbeats 4000000 in
theorem refSum_any (v:Value) (xs:List Val) (w:World) (hv:SliceOf Rep.val w.cell? v xs) (hl:xs.length≤1048576):Calls Tryz.prog 170 #[v] w fun e w'=>e = .returned (valV (sumV xs))∧Ext w w':=by
 obtain⟨p,cap,rfl,hc1,hc2,hp⟩:=hv.form
 obtain⟨N,hN⟩ : ∃N,N=xs.length:=⟨_,rfl⟩
 have HV:=Lib.hid hv
 rw [←hN]
 have HN:=Lib.hid hN
 have HP:=Lib.hid hp
 have hNl:N≤1048576:=by omega
 clear hv hl hp hc1 hc2 hN
 have HOK:=Lib.hid (vals_ok HV.out)
 go_enter Tryz.func170,Tryz.ntmps170
 go_wp2_with fail
 obtain⟨Q,hQ⟩ : ∃q,q=w.heap.size:=⟨_,rfl⟩
 have HQ:=Lib.hid hQ
 rw [←hQ]
 go_loopg [3,4,5,10] N (fun gk vh vl vn vi wr=> ∃(k:Nat) (H L C:Int),k≤N∧gk=N - k∧vi = .int .i64 k∧vh = .int .i64 H∧vl = .int .i64 L∧vn = .int .i64 C∧Hid (H=sumF (· / 4294967296) (xs.take k)∧L=sumF (· % 4294967296) (xs.take k)∧C=sumF (fun _=>1) (xs.take k))∧Hid (FreeN wr Q 3)∧Hid (Ext w wr))
 case atStart =>
  refine⟨0,0,0,0,by omega,rfl,rfl,rfl,rfl,rfl,⟨rfl,rfl,rfl⟩,fun j hj=> ?_,(Ext.refl w).alloc _⟩
  rw [hQ]
  match j,hj with
  |0,_=>exact⟨⟨.int .i64 0,by go_simp⟩,by go_simp⟩
  |1,_=>exact⟨⟨.int .i64 0,by go_simp⟩,by go_simp⟩
  |2,_=>exact⟨⟨.string ⟨#[]⟩,by go_simp⟩,by go_simp⟩
 case round =>
  clear hQ
  obtain⟨k,H,L,C,hk,rfl,rfl,rfl,rfl,rfl,SS,FR,HX⟩:=hrel
  have hok : ∀x∈xs.take k,okVal x:=fun x hx=>HOK.out x (List.mem_of_mem_take hx)
  have bH:=sumF_bound (f:=(· / 4294967296)) (xs:=xs.take k) (a:=2147483648) (b:=2147483648) (by decide) (by decide) (fun v hv=>by have:=(hok v hv).2.1;omega)
  have bL:=sumF_bound (f:=(· % 4294967296)) (xs:=xs.take k) (a:=0) (b:=4294967296) (by decide) (by decide) (fun v hv=>by omega)
  have bC:=sumF_bound (f:=fun _=>1) (xs:=xs.take k) (a:=0) (b:=1) (by decide) (by decide) (fun v hv=>by omega)
  rw [List.length_take,Nat.min_eq_left (by have:=HN.out;omega)]at bH bL bC
  rw [←SS.out.1]at bH
  rw [←SS.out.2.1]at bL
  rw [←SS.out.2.2]at bC
  by_cases hlt:k<N
  ·have hkl:k<xs.length:=by have:=HN.out;omega
   have hd:decide ((k:Int)<(N:Int))=true:=by simp;omega
   obtain⟨b,o,rfl⟩:=HP.out (by decide) (by omega)
   have hv:=HV.out
   rw [←HN.out]at hv
   obtain⟨c0,c1,c2,r0,r1⟩:=val_cells hv k hkl
   replace c0:=HX.out.at c0
   replace c1:=HX.out.at c1
   replace c2:=HX.out.at c2
   have h1:=sumF_take (· / 4294967296) xs k hkl
   have h2:=sumF_take (· % 4294967296) xs k hkl
   have h3:=sumF_take (fun _=>1) xs k hkl
   rw [←SS.out.1]at h1
   rw [←SS.out.2.1]at h2
   rw [←SS.out.2.2]at h3
   generalize xs[k]=y at c0 c1 c2 r0 r1 h1 h2 h3
   obtain⟨yk,yn,ys⟩:=y
   dsimp only at c0 c1 c2 r0 r1 h1 h2 h3
   have e0:=cell_lt c0
   have HST:=Lib.hid (And.intro h1 (And.intro h2 h3))
   have x1:Ext wr (wr.alloc (.cells #[.int .i64 yk,.int .i64 yn,.string ys] 73)):=(Ext.refl wr).alloc _
   have FR1:=Lib.hid (FR.out.ext x1)
   have HX1:=Lib.hid (HX.out.trans x1)
   clear hv h1 h2 h3 r0 hkl x1
   by_cases hyk:yk=1
   ·have hb1:(yk==1)=true:=by simp [hyk]
    have HYK:=Lib.hid hyk
    have q1:IntKind.i64.wrap (H+yn / 4294967296)=H+yn / 4294967296:=by rw [IntKind.wrap_i64];omega
    have q2:bits .and .i64 yn 4294967295=yn % 4294967296:=and_mask32 yn r1.1 r1.2
    have q3:IntKind.i64.wrap (L+yn % 4294967296)=L+yn % 4294967296:=by rw [IntKind.wrap_i64];omega
    have q4:IntKind.i64.wrap (C+1)=C+1:=by rw [IntKind.wrap_i64];omega
    clear hyk bH bL bC r1
    go_wp2_with fail
    go_roundg (N - (k+1))
    case measure=>omega
    case rel =>
     refine⟨k+1,_,_,_,by omega,rfl,by go_num,rfl,rfl,rfl,⟨?_,?_,?_⟩,FR1.out,HX1.out⟩
     ·rw [HST.out.1,if_pos HYK.out]
     ·rw [HST.out.2.1,if_pos HYK.out]
     ·rw [HST.out.2.2,if_pos HYK.out]
   ·have hb1:(yk==1)=false:=by simp [hyk]
    have HYK:=Lib.hid hyk
    clear hyk bH bL bC r1
    go_wp2_with fail
    go_roundg (N - (k+1))
    case measure=>omega
    case rel =>
     refine⟨k+1,_,_,_,by omega,rfl,by go_num,rfl,rfl,rfl,⟨?_,?_,?_⟩,FR1.out,HX1.out⟩
     ·rw [HST.out.1,if_neg HYK.out,Int.add_zero]
     ·rw [HST.out.2.1,if_neg HYK.out,Int.add_zero]
     ·rw [HST.out.2.2,if_neg HYK.out,Int.add_zero]
  ·have hkN:k=N:=by omega
   have hd : ¬(k:Int)<(N:Int):=by omega
   have hxt:xs.take k=xs:=by rw [hkN,HN.out];exact List.take_length
   have hs:=sumI_halves xs
   have ha:=anyI_count xs
   rw [hxt]at SS
   rw [←SS.out.1,←SS.out.2.1]at hs
   rw [←SS.out.2.2]at ha
   have hkk:(k:Int)≤1048576:=by omega
   obtain⟨H2,hH2⟩ : ∃z,z=H+L / 4294967296:=⟨_,rfl⟩
   obtain⟨L2,hL2⟩ : ∃z,z=L % 4294967296:=⟨_,rfl⟩
   have q1:IntKind.i64.wrap (H+L / 4294967296)=H2:=by rw [IntKind.wrap_i64];omega
   have q2:bits .and .i64 L 4294967295=L2:=(and_mask32 L (by omega) (by omega)).trans hL2.symm
   have hs2:sumI xs=4294967296*H2+L2:=by omega
   have hL3:0≤L2∧L2<4294967296:=by omega
   obtain⟨⟨⟨z0,f0⟩,g0⟩,⟨⟨z1,f1⟩,g1⟩,⟨⟨z2,f2⟩,g2⟩⟩:=And.intro (FR.out 0 (by omega)) (And.intro (FR.out 1 (by omega)) (FR.out 2 (by omega)))
   have e5:=cell_lt f0
   have XF : ∀u v z,Ext w (((wr.setCell ⟨Q,0,none⟩ u).setCell ⟨Q,1,none⟩ v).setCell ⟨Q,2,none⟩ z):=fun u v z=>Below.setCell (Below.setCell (Below.setCell HX.out (by have:=HQ.out;show w.heap.size≤Q;omega) _) (by have:=HQ.out;show w.heap.size≤Q;omega) _) (by have:=HQ.out;show w.heap.size≤Q;omega) _
   have HXF:=Lib.hid XF
   clear hxt hs bH bL bC hkN hH2 hL2 XF
   by_cases hc:C=0
   ·have hc0:(C==0)=true:=by simp [hc]
    have HV2:=Lib.hid (show sumV xs=nV from if_neg (fun h=>by rw [ha.1]at h;exact absurd hc (of_decide_eq_true h.1)))
    clear hc ha hs2
    go_wp2_with fail
    exact bodyPost_ret (v:= .agg #[.int .i64 0,.int .i64 0,.string ⟨#[]⟩]) (by simp [results,Tryz.results170,go_sem,f0,f1,f2]) rfl ⟨by rw [HV2.out];rfl,HXF.out _ _ _⟩
   ·have hc0:(C==0)=false:=by simp [hc]
    have hany:anyI xs=true:=by rw [ha.1];exact decide_eq_true hc
    by_cases hf : -2147483648≤H2∧H2<2147483648
    ·have d1:decide (H2 < -2147483648)=false:=by simp;omega
     have d2:decide (2147483648≤H2)=false:=by simp;omega
     have q3:IntKind.i64.wrap (H2*4294967296)=H2*4294967296:=by rw [IntKind.wrap_i64];omega
     have q4:bits .or .i64 (H2*4294967296) L2=H2*4294967296+L2:=or_join32 _ _ (by omega) (by omega) (by omega) hL3.1 hL3.2
     have HV2:=Lib.hid (show sumV xs=intVal (H2*4294967296+L2)from by unfold sumV;rw [if_pos ⟨hany,by omega,by omega⟩];congr 1;omega)
     clear hc ha hs2 hf hany
     go_wp2_with fail
     exact bodyPost_ret (v:= .agg #[.int .i64 1,.int .i64 (H2*4294967296+L2),.string ⟨#[]⟩]) (by simp [results,Tryz.results170,go_sem,f0,f1,f2]) rfl ⟨by rw [HV2.out];rfl,HXF.out _ _ _⟩
    ·have HV2:=Lib.hid (show sumV xs=nV from if_neg (fun h=>by omega))
     by_cases hf1:H2 < -2147483648
     ·have d1:decide (H2 < -2147483648)=true:=by simp;omega
      clear hc ha hs2 hf hany hf1
      go_wp2_with fail
      exact bodyPost_ret (v:= .agg #[.int .i64 0,.int .i64 0,.string ⟨#[]⟩]) (by simp [results,Tryz.results170,go_sem,f0,f1,f2]) rfl ⟨by rw [HV2.out];rfl,HXF.out _ _ _⟩
     ·have d1:decide (H2 < -2147483648)=false:=by simp;omega
      have d2:decide (2147483648≤H2)=true:=by simp;omega
      clear hc ha hs2 hf hany hf1
      go_wp2_with fail
      exact bodyPost_ret (v:= .agg #[.int .i64 0,.int .i64 0,.string ⟨#[]⟩]) (by simp [results,Tryz.results170,go_sem,f0,f1,f2]) rfl ⟨by rw [HV2.out];rfl,HXF.out _ _ _⟩
end Go.Proofs.YtkddkbpoefidpaaGreatDoor
namespace Go.Proofs.YtkddkbpoefidpaaGreatDoor
open Go.RowKit
def nnV (xs:List Val):List Val:=xs.filter fun v=>decide (v.kind≠0)
theorem nn_take (xs:List Val) (k:Nat) (h:k<xs.length):nnV (xs.take (k+1))=nnV (xs.take k)++if xs[k].kind=0 then []else [xs[k]]:=by
 unfold nnV
 rw [List.take_succ_eq_append_getElem h,List.filter_append]
 congr 1
 rw [List.filter_cons,List.filter_nil]
 by_cases e:xs[k].kind=0
 ·rw [if_pos e,if_neg (by simp [e])]
 ·rw [if_neg e,if_pos (by simp [e])]
theorem nn_kind {xs:List Val} {v:Val} (h:v∈nnV xs):v.kind≠0:=of_decide_eq_true (List.mem_filter.1 h).2
theorem pickMin_mem {xs:List Val} (h:xs≠ []):pickMin xs∈xs:=(pickMin_law h).1
def bestMin (xs:List Val):Val:=if nnV xs = []then nV else pickMin (nnV xs)
theorem bestMin_take (xs:List Val) (k:Nat) (h:k<xs.length):bestMin (xs.take (k+1))=if xs[k].kind≠0∧((bestMin (xs.take k)).kind=0∨cmpVal xs[k] (bestMin (xs.take k))<0)then xs[k]else bestMin (xs.take k):=by
 by_cases e:xs[k].kind=0
 ·rw [if_neg (fun c=>c.1 e)]
  unfold bestMin
  rw [nn_take xs k h,if_pos e,List.append_nil]
 ·by_cases hn:nnV (xs.take k) = []
  ·have hb:bestMin (xs.take k)=nV:=if_pos hn
   rw [hb,if_pos ⟨e,.inl rfl⟩]
   unfold bestMin
   rw [nn_take xs k h,if_neg e,hn,List.nil_append,if_neg (by simp)]
   rfl
  ·have hb:bestMin (xs.take k)=pickMin (nnV (xs.take k)):=if_neg hn
   have hk:(pickMin (nnV (xs.take k))).kind≠0:=nn_kind (pickMin_mem hn)
   rw [hb]
   have hs:bestMin (xs.take (k+1))=pickMin (nnV (xs.take k) ++ [xs[k]]):=by
    unfold bestMin
    rw [nn_take xs k h,if_neg e,if_neg (by simp)]
   rw [hs,pickMin_snoc hn]
   exact ite_congr (propext ⟨fun c=>⟨e,.inr c⟩,fun c=>c.2.resolve_left hk⟩) (fun _=>rfl) (fun _=>rfl)
set_option maxRecDepth 100000 in
set_option maxHeartbeats 4000000 in
theorem refAgg_Min (v:Value) (xs:List Val) (w:World) (hv:SliceOf Rep.val w.cell? v xs):Calls Tryz.prog 119 #[.int .i64 3,v] w fun e w'=>e = .returned (valV (bestMin xs))∧Ext w w':=by
 obtain⟨p,cap,rfl,hc1,hc2,hp⟩:=hv.form
 obtain⟨N,hN⟩ : ∃N,N=xs.length:=⟨_,rfl⟩
 have hN1:N≤maxLen:=by omega
 unfold maxLen at hN1
 have HV:=Lib.hid hv
 rw [←hN]at HV
 rw [←hN]
 have HN:=Lib.hid hN
 have HP:=Lib.hid hp
 clear hv hp hc1 hc2 hN
 go_enter Tryz.func119,Tryz.ntmps119
 go_wp2_with fail
 obtain⟨Q,hQ⟩ : ∃q,q=w.heap.size:=⟨_,rfl⟩
 have HQ:=Lib.hid hQ
 rw [←hQ]
 go_loopg [24] N (fun gk vi wr=> ∃(k:Nat) (m:Val),k≤N∧gk=N - k∧vi = .int .i64 k∧Hid (m=bestMin (xs.take k))∧Hid (wr.cell? ⟨Q+1,0,none⟩=some (.int .i64 m.kind)∧wr.cell? ⟨Q+1,1,none⟩=some (.int .i64 m.n)∧wr.cell? ⟨Q+1,2,none⟩=some (.string m.s))∧Hid (FreeN wr (Q+1) 3)∧Hid (FreeN wr Q 3)∧Hid (Ext w wr))
 case atStart =>
  refine⟨0,nV,by omega,rfl,rfl,rfl,⟨?_,?_,?_⟩,fun j hj=> ?_,fun j hj=> ?_,((Ext.refl w).alloc _).alloc _⟩
  ·rw [hQ];go_simp;rfl
  ·rw [hQ];go_simp;rfl
  ·rw [hQ];go_simp;rfl
  ·rw [hQ]
   match j,hj with
   |0,_=>exact⟨⟨.int .i64 0,by go_simp⟩,by go_simp⟩
   |1,_=>exact⟨⟨.int .i64 0,by go_simp⟩,by go_simp⟩
   |2,_=>exact⟨⟨.string ⟨#[]⟩,by go_simp⟩,by go_simp⟩
  ·rw [hQ]
   match j,hj with
   |0,_=>exact⟨⟨.int .i64 0,by go_simp⟩,by go_simp⟩
   |1,_=>exact⟨⟨.int .i64 0,by go_simp⟩,by go_simp⟩
   |2,_=>exact⟨⟨.string ⟨#[]⟩,by go_simp⟩,by go_simp⟩
 case round =>
  clear hQ
  obtain⟨k,m,hk,rfl,rfl,MB,MM,FM,FR,HX⟩:=hrel
  by_cases hlt:k<N
  ·have hkl:k<xs.length:=by have:=HN.out;omega
   have hd:decide ((k:Int)<(N:Int))=true:=by simp;omega
   obtain⟨b,o,rfl⟩:=HP.out (by decide) (by omega)
   obtain⟨c0,c1,c2,rr0,rr1⟩:=val_cells HV.out k hkl
   clear rr0 rr1
   replace c0:=HX.out.at c0
   replace c1:=HX.out.at c1
   replace c2:=HX.out.at c2
   have hst:=bestMin_take xs k hkl
   rw [←MB.out]at hst
   generalize xs[k]=y at c0 c1 c2 hst
   obtain⟨yk,yn,ys⟩:=y
   obtain⟨mk,mn,ms⟩:=m
   dsimp only at c0 c1 c2 hst
   have m0:=MM.out.1
   have m1:=MM.out.2.1
   have m2:=MM.out.2.2
   dsimp only at m0 m1 m2
   have e1:=cell_lt c0
   have e2:=cell_lt m0
   have HST:=Lib.hid hst
   clear hst hkl
   go_wp2_with fail
   refine(ref_compare ⟨yk,yn,ys⟩ ⟨mk,mn,ms⟩ _).mono ?_
   rintro e w5 ⟨rfl,x5⟩
   have X5:=Lib.hid (((Ext.refl wr).alloc (.cells #[.int .i64 yk,.int .i64 yn,.string ys] 73)).trans x5.ext)
   have y0:w5.cell? ⟨wr.heap.size,0,none⟩=some (.int .i64 yk):=x5.ext.at (by go_simp)
   have y1:w5.cell? ⟨wr.heap.size,1,none⟩=some (.int .i64 yn):=x5.ext.at (by go_simp)
   have y2:w5.cell? ⟨wr.heap.size,2,none⟩=some (.string ys):=x5.ext.at (by go_simp)
   generalize hq:cmpVal ⟨yk,yn,ys⟩ ⟨mk,mn,ms⟩=q
   have HQQ:=Lib.hid hq
   clear hq x5 c0 c1 c2 e1 e2 m0 m1 m2
   have m0:=X5.out.at MM.out.1
   have m1:=X5.out.at MM.out.2.1
   have m2:=X5.out.at MM.out.2.2
   obtain⟨⟨⟨z0,f0⟩,g0⟩,⟨⟨z1,f1⟩,g1⟩,⟨⟨z2,f2⟩,g2⟩⟩:=And.intro (FM.out.ext X5.out 0 (by omega)) (And.intro (FM.out.ext X5.out 1 (by omega)) (FM.out.ext X5.out 2 (by omega)))
   rw [m0]at f0
   rw [m1]at f1
   rw [m2]at f2
   clear f0 f1 f2
   have e5:=cell_lt m0
   have e6:=cell_lt y0
   have HWY:Hid (cmpVal ⟨yk,yn,ys⟩ ⟨mk,mn,ms⟩<0↔q<0):=Lib.hid (by rw [HQQ.out])
   by_cases hyes:yk≠0∧(mk=0∨q<0)
   ·have hb1:(yk != 0)=true:=by simp [hyes.1]
    have HY:=Lib.hid hyes
    have goal : ∀W7,Chg (fun x=>x=Q+1) wr W7→Ext w W7→W7.cell? ⟨Q+1,0,none⟩=some (.int .i64 yk)→W7.cell? ⟨Q+1,1,none⟩=some (.int .i64 yn)→W7.cell? ⟨Q+1,2,none⟩=some (.string ys)→FreeN W7 (Q+1) 3 →
      ∃(k':Nat) (m':Val),k'≤N∧N - (k+1)=N - k'∧Value.int .i64 ((k:Int)+1) = .int .i64 k'∧Hid (m'=bestMin (xs.take k'))∧Hid (W7.cell? ⟨Q+1,0,none⟩=some (.int .i64 m'.kind)∧W7.cell? ⟨Q+1,1,none⟩=some (.int .i64 m'.n)∧W7.cell? ⟨Q+1,2,none⟩=some (.string m'.s))∧Hid (FreeN W7 (Q+1) 3)∧Hid (FreeN W7 Q 3)∧Hid (Ext w W7) :=
     fun W7 hch hx a0 a1 a2 hf=>⟨k+1,⟨yk,yn,ys⟩,by omega,rfl,by push_cast;rfl,by show _=_;rw [HST.out,if_pos ⟨HY.out.1,HY.out.2.imp id HWY.out.2⟩],⟨a0,a1,a2⟩,hf,FR.out.chg hch (by omega),hx⟩
    have GOAL:=Lib.hid goal
    have CH:Chg (fun x=>x=Q+1) wr (((w5.setCell ⟨Q+1,0,none⟩ (.int .i64 yk)).setCell ⟨Q+1,1,none⟩ (.int .i64 yn)).setCell ⟨Q+1,2,none⟩ (.string ys)):=(((X5.out.chg (fun x=>x=Q+1)).setCell (p:=⟨Q+1,0,none⟩) (.inl rfl) _).setCell (p:=⟨Q+1,1,none⟩) (.inl rfl) _).setCell (p:=⟨Q+1,2,none⟩) (.inl rfl) _
    have X7:Ext w (((w5.setCell ⟨Q+1,0,none⟩ (.int .i64 yk)).setCell ⟨Q+1,1,none⟩ (.int .i64 yn)).setCell ⟨Q+1,2,none⟩ (.string ys)):=Below.setCell (Below.setCell (Below.setCell (HX.out.trans X5.out) (by have:=HQ.out;show w.heap.size≤Q+1;omega) _) (by have:=HQ.out;show w.heap.size≤Q+1;omega) _) (by have:=HQ.out;show w.heap.size≤Q+1;omega) _
    have q0:(((w5.setCell ⟨Q+1,0,none⟩ (.int .i64 yk)).setCell ⟨Q+1,1,none⟩ (.int .i64 yn)).setCell ⟨Q+1,2,none⟩ (.string ys)).cell? ⟨Q+1,0,none⟩=some (.int .i64 yk):=by go_simp
    have q1:(((w5.setCell ⟨Q+1,0,none⟩ (.int .i64 yk)).setCell ⟨Q+1,1,none⟩ (.int .i64 yn)).setCell ⟨Q+1,2,none⟩ (.string ys)).cell? ⟨Q+1,1,none⟩=some (.int .i64 yn):=by go_simp
    have q2:(((w5.setCell ⟨Q+1,0,none⟩ (.int .i64 yk)).setCell ⟨Q+1,1,none⟩ (.int .i64 yn)).setCell ⟨Q+1,2,none⟩ (.string ys)).cell? ⟨Q+1,2,none⟩=some (.string ys):=by go_simp
    have GO7:=Lib.hid (goal _ CH X7 q0 q1 q2 ((((FM.out.ext X5.out).set 0 (.int .i64 yk)).set 1 (.int .i64 yn)).set 2 (.string ys)))
    clear goal CH X7 q0 q1 q2 hyes
    by_cases hmk:mk=0
    ·have hb2:(mk==0)=true:=by simp [hmk]
     clear hmk
     go_wp2_with fail
     go_roundg (N - (k+1))
     case measure=>omega
     case rel=>exact GO7.out
    ·have hb2:(mk==0)=false:=by simp [hmk]
     have hb3:decide (q<0)=true:=decide_eq_true (HY.out.2.resolve_left hmk)
     clear hmk
     go_wp2_with fail
     go_roundg (N - (k+1))
     case measure=>omega
     case rel=>exact GO7.out
   ·have goal : ∃(k':Nat) (m':Val),k'≤N∧N - (k+1)=N - k'∧Value.int .i64 ((k:Int)+1) = .int .i64 k'∧Hid (m'=bestMin (xs.take k'))∧Hid (w5.cell? ⟨Q+1,0,none⟩=some (.int .i64 m'.kind)∧w5.cell? ⟨Q+1,1,none⟩=some (.int .i64 m'.n)∧w5.cell? ⟨Q+1,2,none⟩=some (.string m'.s))∧Hid (FreeN w5 (Q+1) 3)∧Hid (FreeN w5 Q 3)∧Hid (Ext w w5) :=
     ⟨k+1,⟨mk,mn,ms⟩,by omega,rfl,by push_cast;rfl,by show _=_;rw [HST.out,if_neg (fun h=>hyes ⟨h.1,h.2.imp id HWY.out.1⟩)],⟨m0,m1,m2⟩,FM.out.ext X5.out,FR.out.ext X5.out,HX.out.trans X5.out⟩
    have GO:=Lib.hid goal
    clear goal
    by_cases hyk:yk=0
    ·have hb1:(yk != 0)=false:=by simp [hyk]
     clear hyk hyes
     go_wp2_with fail
     go_roundg (N - (k+1))
     case measure=>omega
     case rel=>exact GO.out
    ·have hb1:(yk != 0)=true:=by simp [hyk]
     have hb2:(mk==0)=false:=by simp;exact fun h=>hyes ⟨hyk,.inl h⟩
     have hb3:decide (q<0)=false:=decide_eq_false (fun h=>hyes ⟨hyk,.inr h⟩)
     clear hyk hyes
     go_wp2_with fail
     go_roundg (N - (k+1))
     case measure=>omega
     case rel=>exact GO.out
  ·have hkN:k=N:=by omega
   have hd : ¬(k:Int)<(N:Int):=by omega
   have hxt:m=bestMin xs:=by rw [MB.out,hkN,HN.out,List.take_length]
   have HM:=Lib.hid hxt
   obtain⟨mk,mn,ms⟩:=m
   have m0:=MM.out.1
   have m1:=MM.out.2.1
   have m2:=MM.out.2.2
   dsimp only at m0 m1 m2
   obtain⟨⟨⟨z0,f0⟩,g0⟩,⟨⟨z1,f1⟩,g1⟩,⟨⟨z2,f2⟩,g2⟩⟩:=And.intro (FR.out 0 (by omega)) (And.intro (FR.out 1 (by omega)) (FR.out 2 (by omega)))
   have e1:=cell_lt m0
   have e5:=cell_lt f0
   clear hxt hkN
   go_wp2_with fail
   have XF : ∀u v z,Ext w (((wr.setCell ⟨Q,0,none⟩ u).setCell ⟨Q,1,none⟩ v).setCell ⟨Q,2,none⟩ z):=fun u v z=>Below.setCell (Below.setCell (Below.setCell HX.out (by have:=HQ.out;show w.heap.size≤Q;omega) _) (by have:=HQ.out;show w.heap.size≤Q;omega) _) (by have:=HQ.out;show w.heap.size≤Q;omega) _
   exact bodyPost_ret (v:= .agg #[.int .i64 mk,.int .i64 mn,.string ms]) (by simp [results,Tryz.results119,go_sem,f0,f1,f2]) rfl ⟨by rw [←HM.out];first | done | rfl,XF _ _ _⟩
def bestMax (xs:List Val):Val:=if nnV xs = []then nV else pickMax (nnV xs)
theorem bestMax_take (xs:List Val) (k:Nat) (h:k<xs.length):bestMax (xs.take (k+1))=if xs[k].kind≠0∧((bestMax (xs.take k)).kind=0∨0<cmpVal xs[k] (bestMax (xs.take k)))then xs[k]else bestMax (xs.take k):=by
 by_cases e:xs[k].kind=0
 ·rw [if_neg (fun c=>c.1 e)]
  unfold bestMax
  rw [nn_take xs k h,if_pos e,List.append_nil]
 ·by_cases hn:nnV (xs.take k) = []
  ·have hb:bestMax (xs.take k)=nV:=if_pos hn
   rw [hb,if_pos ⟨e,.inl rfl⟩]
   unfold bestMax
   rw [nn_take xs k h,if_neg e,hn,List.nil_append,if_neg (by simp)]
   rfl
  ·have hb:bestMax (xs.take k)=pickMax (nnV (xs.take k)):=if_neg hn
   have hk:(pickMax (nnV (xs.take k))).kind≠0:=nn_kind (pickMax_mem hn)
   rw [hb]
   have hs:bestMax (xs.take (k+1))=pickMax (nnV (xs.take k) ++ [xs[k]]):=by
    unfold bestMax
    rw [nn_take xs k h,if_neg e,if_neg (by simp)]
   rw [hs,pickMax_snoc hn]
   exact ite_congr (propext ⟨fun c=>⟨e,.inr c⟩,fun c=>c.2.resolve_left hk⟩) (fun _=>rfl) (fun _=>rfl)
set_option maxRecDepth 100000 in
set_option maxHeartbeats 4000000 in
theorem refAgg_Max (v:Value) (xs:List Val) (w:World) (hv:SliceOf Rep.val w.cell? v xs):Calls Tryz.prog 119 #[.int .i64 4,v] w fun e w'=>e = .returned (valV (bestMax xs))∧Ext w w':=by
 obtain⟨p,cap,rfl,hc1,hc2,hp⟩:=hv.form
 obtain⟨N,hN⟩ : ∃N,N=xs.length:=⟨_,rfl⟩
 have hN1:N≤maxLen:=by omega
 unfold maxLen at hN1
 have HV:=Lib.hid hv
 rw [←hN]at HV
 rw [←hN]
 have HN:=Lib.hid hN
 have HP:=Lib.hid hp
 clear hv hp hc1 hc2 hN
 go_enter Tryz.func119,Tryz.ntmps119
 go_wp2_with fail
 obtain⟨Q,hQ⟩ : ∃q,q=w.heap.size:=⟨_,rfl⟩
 have HQ:=Lib.hid hQ
 rw [←hQ]
 go_loopg [24] N (fun gk vi wr=> ∃(k:Nat) (m:Val),k≤N∧gk=N - k∧vi = .int .i64 k∧Hid (m=bestMax (xs.take k))∧Hid (wr.cell? ⟨Q+1,0,none⟩=some (.int .i64 m.kind)∧wr.cell? ⟨Q+1,1,none⟩=some (.int .i64 m.n)∧wr.cell? ⟨Q+1,2,none⟩=some (.string m.s))∧Hid (FreeN wr (Q+1) 3)∧Hid (FreeN wr Q 3)∧Hid (Ext w wr))
 case atStart =>
  refine⟨0,nV,by omega,rfl,rfl,rfl,⟨?_,?_,?_⟩,fun j hj=> ?_,fun j hj=> ?_,((Ext.refl w).alloc _).alloc _⟩
  ·rw [hQ];go_simp;rfl
  ·rw [hQ];go_simp;rfl
  ·rw [hQ];go_simp;rfl
  ·rw [hQ]
   match j,hj with
   |0,_=>exact⟨⟨.int .i64 0,by go_simp⟩,by go_simp⟩
   |1,_=>exact⟨⟨.int .i64 0,by go_simp⟩,by go_simp⟩
   |2,_=>exact⟨⟨.string ⟨#[]⟩,by go_simp⟩,by go_simp⟩
  ·rw [hQ]
   match j,hj with
   |0,_=>exact⟨⟨.int .i64 0,by go_simp⟩,by go_simp⟩
   |1,_=>exact⟨⟨.int .i64 0,by go_simp⟩,by go_simp⟩
   |2,_=>exact⟨⟨.string ⟨#[]⟩,by go_simp⟩,by go_simp⟩
 case round =>
  clear hQ
  obtain⟨k,m,hk,rfl,rfl,MB,MM,FM,FR,HX⟩:=hrel
  by_cases hlt:k<N
  ·have hkl:k<xs.length:=by have:=HN.out;omega
   have hd:decide ((k:Int)<(N:Int))=true:=by simp;omega
   obtain⟨b,o,rfl⟩:=HP.out (by decide) (by omega)
   obtain⟨c0,c1,c2,rr0,rr1⟩:=val_cells HV.out k hkl
   clear rr0 rr1
   replace c0:=HX.out.at c0
   replace c1:=HX.out.at c1
   replace c2:=HX.out.at c2
   have hst:=bestMax_take xs k hkl
   rw [←MB.out]at hst
   generalize xs[k]=y at c0 c1 c2 hst
   obtain⟨yk,yn,ys⟩:=y
   obtain⟨mk,mn,ms⟩:=m
   dsimp only at c0 c1 c2 hst
   have m0:=MM.out.1
   have m1:=MM.out.2.1
   have m2:=MM.out.2.2
   dsimp only at m0 m1 m2
   have e1:=cell_lt c0
   have e2:=cell_lt m0
   have HST:=Lib.hid hst
   clear hst hkl
   go_wp2_with fail
   refine(ref_compare ⟨yk,yn,ys⟩ ⟨mk,mn,ms⟩ _).mono ?_
   rintro e w5 ⟨rfl,x5⟩
   have X5:=Lib.hid (((Ext.refl wr).alloc (.cells #[.int .i64 yk,.int .i64 yn,.string ys] 73)).trans x5.ext)
   have y0:w5.cell? ⟨wr.heap.size,0,none⟩=some (.int .i64 yk):=x5.ext.at (by go_simp)
   have y1:w5.cell? ⟨wr.heap.size,1,none⟩=some (.int .i64 yn):=x5.ext.at (by go_simp)
   have y2:w5.cell? ⟨wr.heap.size,2,none⟩=some (.string ys):=x5.ext.at (by go_simp)
   generalize hq:cmpVal ⟨yk,yn,ys⟩ ⟨mk,mn,ms⟩=q
   have HQQ:=Lib.hid hq
   clear hq x5 c0 c1 c2 e1 e2 m0 m1 m2
   have m0:=X5.out.at MM.out.1
   have m1:=X5.out.at MM.out.2.1
   have m2:=X5.out.at MM.out.2.2
   obtain⟨⟨⟨z0,f0⟩,g0⟩,⟨⟨z1,f1⟩,g1⟩,⟨⟨z2,f2⟩,g2⟩⟩:=And.intro (FM.out.ext X5.out 0 (by omega)) (And.intro (FM.out.ext X5.out 1 (by omega)) (FM.out.ext X5.out 2 (by omega)))
   rw [m0]at f0
   rw [m1]at f1
   rw [m2]at f2
   clear f0 f1 f2
   have e5:=cell_lt m0
   have e6:=cell_lt y0
   have HWY:Hid (0<cmpVal ⟨yk,yn,ys⟩ ⟨mk,mn,ms⟩↔0<q):=Lib.hid (by rw [HQQ.out])
   by_cases hyes:yk≠0∧(mk=0∨0<q)
   ·have hb1:(yk != 0)=true:=by simp [hyes.1]
    have HY:=Lib.hid hyes
    have goal : ∀W7,Chg (fun x=>x=Q+1) wr W7→Ext w W7→W7.cell? ⟨Q+1,0,none⟩=some (.int .i64 yk)→W7.cell? ⟨Q+1,1,none⟩=some (.int .i64 yn)→W7.cell? ⟨Q+1,2,none⟩=some (.string ys)→FreeN W7 (Q+1) 3 →
      ∃(k':Nat) (m':Val),k'≤N∧N - (k+1)=N - k'∧Value.int .i64 ((k:Int)+1) = .int .i64 k'∧Hid (m'=bestMax (xs.take k'))∧Hid (W7.cell? ⟨Q+1,0,none⟩=some (.int .i64 m'.kind)∧W7.cell? ⟨Q+1,1,none⟩=some (.int .i64 m'.n)∧W7.cell? ⟨Q+1,2,none⟩=some (.string m'.s))∧Hid (FreeN W7 (Q+1) 3)∧Hid (FreeN W7 Q 3)∧Hid (Ext w W7) :=
     fun W7 hch hx a0 a1 a2 hf=>⟨k+1,⟨yk,yn,ys⟩,by omega,rfl,by push_cast;rfl,by show _=_;rw [HST.out,if_pos ⟨HY.out.1,HY.out.2.imp id HWY.out.2⟩],⟨a0,a1,a2⟩,hf,FR.out.chg hch (by omega),hx⟩
    have GOAL:=Lib.hid goal
    have CH:Chg (fun x=>x=Q+1) wr (((w5.setCell ⟨Q+1,0,none⟩ (.int .i64 yk)).setCell ⟨Q+1,1,none⟩ (.int .i64 yn)).setCell ⟨Q+1,2,none⟩ (.string ys)):=(((X5.out.chg (fun x=>x=Q+1)).setCell (p:=⟨Q+1,0,none⟩) (.inl rfl) _).setCell (p:=⟨Q+1,1,none⟩) (.inl rfl) _).setCell (p:=⟨Q+1,2,none⟩) (.inl rfl) _
    have X7:Ext w (((w5.setCell ⟨Q+1,0,none⟩ (.int .i64 yk)).setCell ⟨Q+1,1,none⟩ (.int .i64 yn)).setCell ⟨Q+1,2,none⟩ (.string ys)):=Below.setCell (Below.setCell (Below.setCell (HX.out.trans X5.out) (by have:=HQ.out;show w.heap.size≤Q+1;omega) _) (by have:=HQ.out;show w.heap.size≤Q+1;omega) _) (by have:=HQ.out;show w.heap.size≤Q+1;omega) _
    have q0:(((w5.setCell ⟨Q+1,0,none⟩ (.int .i64 yk)).setCell ⟨Q+1,1,none⟩ (.int .i64 yn)).setCell ⟨Q+1,2,none⟩ (.string ys)).cell? ⟨Q+1,0,none⟩=some (.int .i64 yk):=by go_simp
    have q1:(((w5.setCell ⟨Q+1,0,none⟩ (.int .i64 yk)).setCell ⟨Q+1,1,none⟩ (.int .i64 yn)).setCell ⟨Q+1,2,none⟩ (.string ys)).cell? ⟨Q+1,1,none⟩=some (.int .i64 yn):=by go_simp
    have q2:(((w5.setCell ⟨Q+1,0,none⟩ (.int .i64 yk)).setCell ⟨Q+1,1,none⟩ (.int .i64 yn)).setCell ⟨Q+1,2,none⟩ (.string ys)).cell? ⟨Q+1,2,none⟩=some (.string ys):=by go_simp
    have GO7:=Lib.hid (goal _ CH X7 q0 q1 q2 ((((FM.out.ext X5.out).set 0 (.int .i64 yk)).set 1 (.int .i64 yn)).set 2 (.string ys)))
    clear goal CH X7 q0 q1 q2 hyes
    by_cases hmk:mk=0
    ·have hb2:(mk==0)=true:=by simp [hmk]
     clear hmk
     go_wp2_with fail
     go_roundg (N - (k+1))
     case measure=>omega
     case rel=>exact GO7.out
    ·have hb2:(mk==0)=false:=by simp [hmk]
     have hb3:decide (0<q)=true:=decide_eq_true (HY.out.2.resolve_left hmk)
     clear hmk
     go_wp2_with fail
     go_roundg (N - (k+1))
     case measure=>omega
     case rel=>exact GO7.out
   ·have goal : ∃(k':Nat) (m':Val),k'≤N∧N - (k+1)=N - k'∧Value.int .i64 ((k:Int)+1) = .int .i64 k'∧Hid (m'=bestMax (xs.take k'))∧Hid (w5.cell? ⟨Q+1,0,none⟩=some (.int .i64 m'.kind)∧w5.cell? ⟨Q+1,1,none⟩=some (.int .i64 m'.n)∧w5.cell? ⟨Q+1,2,none⟩=some (.string m'.s))∧Hid (FreeN w5 (Q+1) 3)∧Hid (FreeN w5 Q 3)∧Hid (Ext w w5) :=
     ⟨k+1,⟨mk,mn,ms⟩,by omega,rfl,by push_cast;rfl,by show _=_;rw [HST.out,if_neg (fun h=>hyes ⟨h.1,h.2.imp id HWY.out.1⟩)],⟨m0,m1,m2⟩,FM.out.ext X5.out,FR.out.ext X5.out,HX.out.trans X5.out⟩
    have GO:=Lib.hid goal
    clear goal
    by_cases hyk:yk=0
    ·have hb1:(yk != 0)=false:=by simp [hyk]
     clear hyk hyes
     go_wp2_with fail
     go_roundg (N - (k+1))
     case measure=>omega
     case rel=>exact GO.out
    ·have hb1:(yk != 0)=true:=by simp [hyk]
     have hb2:(mk==0)=false:=by simp;exact fun h=>hyes ⟨hyk,.inl h⟩
     have hb3:decide (0<q)=false:=decide_eq_false (fun h=>hyes ⟨hyk,.inr h⟩)
     clear hyk hyes
     go_wp2_with fail
     go_roundg (N - (k+1))
     case measure=>omega
     case rel=>exact GO.out
  ·have hkN:k=N:=by omega
   have hd : ¬(k:Int)<(N:Int):=by omega
   have hxt:m=bestMax xs:=by rw [MB.out,hkN,HN.out,List.take_length]
   have HM:=Lib.hid hxt
   obtain⟨mk,mn,ms⟩:=m
   have m0:=MM.out.1
   have m1:=MM.out.2.1
   have m2:=MM.out.2.2
   dsimp only at m0 m1 m2
   obtain⟨⟨⟨z0,f0⟩,g0⟩,⟨⟨z1,f1⟩,g1⟩,⟨⟨z2,f2⟩,g2⟩⟩:=And.intro (FR.out 0 (by omega)) (And.intro (FR.out 1 (by omega)) (FR.out 2 (by omega)))
   have e1:=cell_lt m0
   have e5:=cell_lt f0
   clear hxt hkN
   go_wp2_with fail
   have XF : ∀u v z,Ext w (((wr.setCell ⟨Q,0,none⟩ u).setCell ⟨Q,1,none⟩ v).setCell ⟨Q,2,none⟩ z):=fun u v z=>Below.setCell (Below.setCell (Below.setCell HX.out (by have:=HQ.out;show w.heap.size≤Q;omega) _) (by have:=HQ.out;show w.heap.size≤Q;omega) _) (by have:=HQ.out;show w.heap.size≤Q;omega) _
   exact bodyPost_ret (v:= .agg #[.int .i64 mk,.int .i64 mn,.string ms]) (by simp [results,Tryz.results119,go_sem,f0,f1,f2]) rfl ⟨by rw [←HM.out];first | done | rfl,XF _ _ _⟩
set_option maxRecDepth 100000 in
set_option maxHeartbeats 4000000 in
theorem refAgg_count (pg:Option Addr) (ng cg:Nat) (w:World) :
  Calls Tryz.prog 119 #[.int .i64 1,.slice pg ng cg] w fun e w'=>e = .returned (valV (intVal ng))∧Ext w w':=by
 go_enter Tryz.func119,Tryz.ntmps119
 go_wp2_with fail
 exact bodyPost_ret (v:=valV (intVal ng)) (by simp [results,Tryz.results119,go_sem,valV,intVal];rfl) rfl ⟨rfl,by repeat (first | exact Ext.refl _ | refine Ext.alloc ?_ _ | refine ext_set3 ?_ (by omega) _ _ _)⟩
set_option maxRecDepth 100000 in
set_option maxHeartbeats 4000000 in
theorem refAgg_sum (v:Value) (xs:List Val) (w:World) (hv:SliceOf Rep.val w.cell? v xs) (hl:xs.length≤1048576) :
  Calls Tryz.prog 119 #[.int .i64 2,v] w fun e w'=>e = .returned (valV (sumV xs))∧Ext w w':=by
 have HV:=Lib.hid hv
 obtain⟨p,cap,rfl,hc1,hc2,hp⟩:=hv.form
 generalize hy:sumV xs=y
 have HY:=Lib.hid hy
 clear hv hp hc1 hc2 hy
 go_enter Tryz.func119,Tryz.ntmps119
 go_wp2_with fail
 refine(refSum_any _ xs _ (HV.out.ext ((Ext.refl w).alloc _).full) hl).mono ?_
 rintro e w5 ⟨rfl,x5⟩
 rw [HY.out]
 obtain⟨yk,yn,ys⟩:=y
 have x0:Ext w (w.alloc (.cells #[.int .i64 0,.int .i64 0,.string ⟨#[]⟩] 73)):=(Ext.refl w).alloc _
 have c0:w5.cell? ⟨w.heap.size,0,none⟩=some (.int .i64 0):=x5.at (by go_simp)
 have c1:w5.cell? ⟨w.heap.size,1,none⟩=some (.int .i64 0):=x5.at (by go_simp)
 have c2:w5.cell? ⟨w.heap.size,2,none⟩=some (.string ⟨#[]⟩):=x5.at (by go_simp)
 have f0:=x5.unfrozen (p:=⟨w.heap.size,0,none⟩) (v:= .int .i64 0) (by go_simp) (by go_simp)
 have f1:=x5.unfrozen (p:=⟨w.heap.size,1,none⟩) (v:= .int .i64 0) (by go_simp) (by go_simp)
 have f2:=x5.unfrozen (p:=⟨w.heap.size,2,none⟩) (v:= .string ⟨#[]⟩) (by go_simp) (by go_simp)
 have e0:=cell_lt c0
 have X5:=Lib.hid (x0.trans x5)
 clear x0 x5
 unfold valV
 dsimp only
 go_wp2_with fail
 exact bodyPost_ret (v:= .agg #[.int .i64 yk,.int .i64 yn,.string ys]) (by simp [results,Tryz.results119,go_sem,c0,c1,c2]) rfl ⟨rfl,ext_set3 X5.out (by omega) _ _ _⟩
set_option maxRecDepth 100000 in
set_option maxHeartbeats 4000000 in
theorem refAgg_none (k:Int) (hk:k≠1∧k≠2∧k≠3∧k≠4) (v:Value) (w:World) :
  Calls Tryz.prog 119 #[.int .i64 k,v] w fun e w'=>e = .returned (valV nV)∧Ext w w':=by
 have k1:(k==1)=false:=by simp;omega
 have k2:(k==2)=false:=by simp;omega
 have k3:(k==3)=false:=by simp;omega
 have k4:(k==4)=false:=by simp;omega
 clear hk
 go_enter Tryz.func119,Tryz.ntmps119
 go_wp2_with fail
 exact bodyPost_ret (v:=valV nV) (by simp [results,Tryz.results119,go_sem,valV,nV];rfl) rfl ⟨rfl,by repeat (first | exact Ext.refl _ | refine Ext.alloc ?_ _ | refine ext_set3 ?_ (by omega) _ _ _)⟩
def aggR (kind:Int) (xs:List Val):Val:=if kind=1 then intVal xs.length else if kind=2 then sumV xs else if kind=3 then bestMin xs else if kind=4 then bestMax xs else nV
theorem refAgg_any (kind:Int) (v:Value) (xs:List Val) (w:World) (hv:SliceOf Rep.val w.cell? v xs) (hl:xs.length≤1048576) :
  Calls Tryz.prog 119 #[.int .i64 kind,v] w fun e w'=>e = .returned (valV (aggR kind xs))∧Ext w w':=by
 by_cases h1:kind=1
 ·subst h1
  obtain⟨p,cap,rfl,_⟩:=hv.form
  exact refAgg_count p xs.length cap w
 by_cases h2:kind=2
 ·subst h2;exact refAgg_sum v xs w hv hl
 by_cases h3:kind=3
 ·subst h3;exact refAgg_Min v xs w hv
 by_cases h4:kind=4
 ·subst h4;exact refAgg_Max v xs w hv
 have e:aggR kind xs=nV:=by unfold aggR;rw [if_neg h1,if_neg h2,if_neg h3,if_neg h4]
 rw [e]
 exact refAgg_none kind ⟨h1,h2,h3,h4⟩ v w
end Go.Proofs.YtkddkbpoefidpaaGreatDoor
namespace Go.Proofs.YtkddkbpoefidpaaGreatDoor
open Go.RowKit Go.Deep
structure GrpAt (w:World) (S:Nat→Prop) (b1 b2:Nat) (e1 e2:TypeId) (v u:Value) (done:List (List Row)) (cur:List Row):Prop where
 us : ∃css,RepAll (Rep.slice Rep.row) (on w (fun k=>some k≠v.ownBlock∧some k≠u.ownBlock)) css done∧w.ownsRow b1 e1 1 v (done.length+1) (css.flatten ++ [u])
 cur:OwnOf Rep.row w S b2 e2 u cur
 ne : ∀k,u.ownBlock=some k→v.ownBlock≠some k
 off : ∀k,v.ownBlock=some k→ ¬S k
 lo : ∀k,S k→k<b2
theorem GrpAt.whole {w:World} {S:Nat→Prop} {b1 b2:Nat} {e1 e2:TypeId} {v u:Value} {done:List (List Row)} {cur:List Row} (h:GrpAt w S b1 b2 e1 e2 v u done cur):OwnOf (Rep.slice Rep.row) w (fun _=>True) b1 e1 v (done ++ [cur]):=by
 obtain⟨⟨css,h1,h2⟩,h3,h4,h7,h8⟩:=h
 obtain⟨dss,h5,h6⟩:=h3
 refine⟨css ++ [[u]],(h1.ext (on_mono _ fun k _ hk=>⟨hk.1,trivial⟩)).append (RepAll.one ⟨u,rfl,dss,h5.ext (on_mono _ fun k _ hk=>⟨fun he=>h7 k he.symm hk.2,trivial⟩),(vslice_own h6).sub (on_mono _ fun k _ hk=>⟨fun he=>h4 k hk he.symm,trivial⟩)⟩),?_⟩
 rw [show (Rep.slice Rep.row).size=1 from rfl]
 simpa using h2
section
variable {P:Program} {w:World} {ops:Array Oper} {rest:List Oper} {o:Oper} {a:Act} {Q:Exit→Act→World→Prop}
theorem wpList_append_grp (hgd:o.guard=none) (s x:Operand) (t:TypeId)
  (ho:o.op = .call { callee:= .builtin .append,args:= #[s,x],argTypes:= #[t,t] })
  (S:Nat→Prop) (b1 b2:Nat) (e e2:TypeId) (i:TypeInfo) (z:Value) (ht:P.underlying t=some (.slice e)) (hi:P.info? e=some i) (hz:i.zero=some z)
  (hsize:i.size=1) (hby:i.bytes=24) (hzs:z.cells.size=1)
  (v:Value) (rs:List (List Row)) (hs:a.eval s=v) (hown:OwnOf (Rep.slice Rep.row) w (fun _=>True) b1 e v rs) (hoff : ∀k,v.ownBlock=some k→ ¬S k) (hlo : ∀k,S k→k<b2) (hb2:b2≤w.heap.size)
  (ad:Addr) (c:Nat) (hx:a.eval x = .slice (some ad) 1 c) (hnews:w.cell? (ad.add 0)=some (.slice none 0 0))
  (h63:rs.length+1≤1048577) (hbase:b1≤w.heap.size) (n:Nat) (hn:rs.length=n)
  (h : ∀g cap w',GrpAt w' S b1 b2 e e2 (.slice (some ⟨g,0,none⟩) (n+1) cap) (.slice none 0 0) rs []→w.grownBy w' v.ownBlock→(v.ownBlock=some g∨g=w.heap.size)→wpList P ops Q rest (a.put o.dst (.slice (some ⟨g,0,none⟩) (n+1) cap)) w'):wpList P ops Q (o::rest) a w:=by
 subst hn
 have hlt:=hown.lt
 obtain⟨css,h1,h2⟩:=hown
 refine wpList_append_lies w hgd s x t ho b1 e i z 1 24 ht hi hz hsize hby hzs (by decide) v rs.length css.flatten hs h2 ad 1 c [.slice none 0 0] hx (by simp) (fun j u hj=> ?_) (fun u hu=> ?_) (by omega) (by unfold maxLen;omega) (by omega) hbase w.heap.size rfl
  fun g cap w' g1 g2 g3 _=>h g cap w' ⟨⟨css,h1.ext ?_,g1⟩,OwnOf.nil _ _ _ _ _,(fun k hk=>by cases hk),?_,hlo⟩ g2 g3
 ·cases j with
  |zero=>simp at hj;rw [←hj];exact hnews
  |succ j=>simp at hj
 ·rw [List.mem_singleton.1 hu];rfl
 ·intro p u e
  obtain⟨e1,e2⟩:=on_some.1 e
  have hp:=World.block_lt_of_cell? w p e2
  refine on_some.2 ⟨⟨fun he=> ?_,fun he=>by cases he⟩,g2.cell e2 e1.1⟩
  injection he with he
  simp only at he
  rcases g3 with g3 | g3
  ·exact e1.1 (by rw [g3,he])
  ·omega
 ·intro k hk hS
  have hk:g=k:=Option.some.inj hk
  subst hk
  rcases g3 with g3 | g3
  ·exact hoff _ g3 hS
  ·have:=hlo _ hS;omega
end
theorem GrpAt.push {w w3:World} {S:Nat→Prop} {b1 b2:Nat} {e1 e2:TypeId} {u u':Value} {g cap:Nat} {done:List (List Row)} {cur cur':List Row} (h:GrpAt w S b1 b2 e1 e2 (.slice (some ⟨g,0,none⟩) (done.length+1) cap) u done cur) (hown:OwnOf Rep.row w3 S b2 e2 u' cur') (hg:w.grownBy w3 u.ownBlock) (hat:u'.ownBlock=u.ownBlock∨u'.ownBlock=some w.heap.size) :
  GrpAt (w3.setCell ⟨g,done.length,none⟩ u') S b1 b2 e1 e2 (.slice (some ⟨g,0,none⟩) (done.length+1) cap) u' done cur':=by
 obtain⟨⟨css,h1,h2⟩,h3,h4,h8,h9⟩:=h
 have hgl:=h2.lt g rfl
 have hgu:some g≠u'.ownBlock:=fun e=>by
  rcases hat with hat | hat
  ·exact h4 g (by rw [←hat,←e]) rfl
  ·rw [hat]at e;injection e with e;omega
 have hgu0:some g≠u.ownBlock:=fun e=>h4 g e.symm rfl
 have hlen:css.flatten.length=done.length:=by rw [h1.flat];simp [Rep.slice]
 have h5:=((h2.kept hg (.inr fun e=>hgu0 (by rw [←e];rfl))).stored done.length u').1
 refine⟨⟨css,h1.ext ?_,by rw [List.set_append,if_neg (by omega),hlen,Nat.sub_self]at h5;exact h5⟩,?_,(fun k hk he=>hgu (by rw [hk];exact he)),h8,h9⟩
 ·intro p x e
  obtain⟨⟨e1,e2⟩,e3⟩:=on_some.1 e
  have hp:=World.block_lt_of_cell? w p e3
  refine on_some.2 ⟨⟨e1,fun he=> ?_⟩,cell_set (hg.cell e3 e2) fun e=>e1 (by rw [←e];rfl)⟩
  rcases hat with hat | hat
  ·exact e2 (by rw [he,hat])
  ·rw [hat]at he;injection he with he;omega
 ·obtain⟨dss,h6,h7⟩:=hown
  exact⟨dss,h6.ext (set_sub _ _ _ fun hh=>h8 g rfl hh.2),ownsRow_setCell_other h7 (fun e=>hgu e.symm) u'⟩
theorem GrpAt.ext {w w':World} {S:Nat→Prop} {b1 b2:Nat} {e1 e2:TypeId} {v u:Value} {done:List (List Row)} {cur:List Row} (h:GrpAt w S b1 b2 e1 e2 v u done cur) (hx:Ext w w'):GrpAt w' S b1 b2 e1 e2 v u done cur:=by
 obtain⟨⟨css,h1,h2⟩,h3,h4,h5,h6⟩:=h
 exact⟨⟨css,h1.ext (hx.sub _),own_ext h2 hx⟩,h3.ext hx,h4,h5,h6⟩
theorem GrpAt.lit {w:World} {S:Nat→Prop} {b1 b2:Nat} {e1 e2:TypeId} {g n cap:Nat} {u:Value} {done:List (List Row)} {cur:List Row} (h:GrpAt w S b1 b2 e1 e2 (.slice (some ⟨g,0,none⟩) n cap) u done cur) :
  b1≤g∧g<w.heap.size∧w.cell? ⟨g,done.length,none⟩=some u∧w.frozen? ⟨g,done.length,none⟩=false∧some g≠u.ownBlock∧ ∀k,u.ownBlock=some k→b2≤k∧k<w.heap.size:=by
 obtain⟨⟨css,h1,h2⟩,h3,h4,_,_⟩:=h
 have hn:n=done.length+1:=by
  rcases h2.2 with ⟨e,_⟩ | ⟨_,_,_,e,_⟩
  ·cases e
  ·injection e
 subst hn
 have hl:=h2.lt g rfl
 have hlen:css.flatten.length=done.length:=by rw [h1.flat];simp [Rep.slice]
 refine⟨hl.1,hl.2,?_,h2.frozenAt _,fun e=>h4 g e.symm rfl,h3.lt⟩
 rw [h2.cellAt _ (by omega),List.getElem?_append_right (by omega),hlen,Nat.sub_self]
 rfl
theorem GrpAt.lit2 {w:World} {S:Nat→Prop} {b1 b2:Nat} {e1 e2:TypeId} {g n cap:Nat} {u:Value} {done:List (List Row)} {cur:List Row} (h:GrpAt w S b1 b2 e1 e2 (.slice (some ⟨g,0,none⟩) (n+1) cap) u done cur) (hn:done.length=n) :
  b1≤g∧g<w.heap.size∧w.cell? ⟨g,n,none⟩=some u∧w.frozen? ⟨g,n,none⟩=false∧some g≠u.ownBlock∧ ∀k,u.ownBlock=some k→b2≤k∧k<w.heap.size:=by
 subst hn
 exact h.lit
theorem GrpAt.push2 {w w3:World} {S:Nat→Prop} {b1 b2:Nat} {e1 e2:TypeId} {u u':Value} {g n cap:Nat} {done:List (List Row)} {cur cur':List Row} (h:GrpAt w S b1 b2 e1 e2 (.slice (some ⟨g,0,none⟩) (n+1) cap) u done cur) (hn:done.length=n) (hown:OwnOf Rep.row w3 S b2 e2 u' cur') (hg:w.grownBy w3 u.ownBlock) (hat:u'.ownBlock=u.ownBlock∨u'.ownBlock=some w.heap.size) :
  GrpAt (w3.setCell ⟨g,n,none⟩ u') S b1 b2 e1 e2 (.slice (some ⟨g,0,none⟩) (n+1) cap) u' done cur':=by
 subst hn
 exact h.push hown hg hat
theorem GrpAt.form {w:World} {S:Nat→Prop} {b1 b2:Nat} {e1 e2:TypeId} {v u:Value} {done:List (List Row)} {cur:List Row} (h:GrpAt w S b1 b2 e1 e2 v u done cur) :
  (∃g cap,v = .slice (some ⟨g,0,none⟩) (done.length+1) cap)∧ ∃a cap,u = .slice a cur.length cap:=by
 obtain⟨⟨css,h1,h2⟩,h3,h4,_,_⟩:=h
 obtain⟨g,cap,e,_⟩:=own_cells h2 (by omega)
 obtain⟨a,c,e2,_⟩:=h3.slice.form
 exact⟨⟨g,cap,e⟩,a,c,e2⟩
theorem GrpAt.start (w:World) (S:Nat→Prop) (e1 e2:TypeId) {w2:World} (hx:Ext (w.alloc (.cells #[.slice none 0 0] e1)) w2) (hoff : ¬S w.heap.size) (hlo : ∀k,S k→k<w2.heap.size) :
  GrpAt w2 S w.heap.size w2.heap.size e1 e2 (.slice (some ⟨w.heap.size,0,none⟩) 1 1) (.slice none 0 0) [] []:=by
 refine⟨⟨[],trivial,own_ext ?_ hx⟩,OwnOf.nil _ _ _ _ _,(fun k hk=>by cases hk),(fun k hk=> ?_),hlo⟩
 ·have:=World.ownsRow_lit (base:=w.heap.size) (e:=e1) (size:=1) w #[.slice none 0 0] 1 (Nat.le_refl _) (by unfold maxLen;omega) rfl
  simpa using this
 ·have hk:w.heap.size=k:=Option.some.inj hk
  rw [←hk];exact hoff
theorem row_holds {w w5 wz:World} {base:Nat} {T:TypeId} {u v5 lb:Value} {xs:List Val} {ls:List Int} (O5:OwnOf Rep.val w5 (fun _=>True) base T v5 xs) (hz:Ext w5 wz) (hl:SliceOf Rep.int w.cell? lb ls) (hw:Ext w wz) (hu : ∀k,u.ownBlock=some k→k<base∧w.heap.size≤k) :
  Rep.row.holds (on wz (avoid (fun _=>True) u)) [v5,lb] ⟨xs,ls⟩:=by
 refine⟨_,_,rfl,(O5.fresh flat_valC).ext fun p x e=> ?_,hl.ext fun p x e=> ?_⟩
 ·obtain⟨e1,e2⟩:=on_some.1 e
  exact on_some.2 ⟨⟨fun e3=>by have:=(hu _ e3.symm).1;omega,trivial⟩,hz.at e2⟩
 ·have hp:=World.block_lt_of_cell? w p e
  exact on_some.2 ⟨⟨fun e3=>by have:=(hu _ e3.symm).2;omega,trivial⟩,hw.at e⟩
def keyR (es:List ExprI) (keys:List Int) (r:Row):Row:=⟨projE es keys r.vals++r.vals,r.lin⟩
def gNew (K:Nat) (cur:List Row) (r:Row):Bool:= !cur.isEmpty&&cmpVals ((cur.headD ⟨[],[]⟩).vals.take K) (r.vals.take K) != 0
def gStep (K:Nat) (st:List (List Row)) (r:Row):List (List Row) :=
 match st.getLast? with
 |none=> [[r]]
 |some cur=>if gNew K cur r=true then st ++ [[r]]else st.dropLast ++ [cur ++ [r]]
def gStart (K:Nat):List (List Row):=if K=0 then [[]]else []
def gRuns (K:Nat) (l:List Row):List (List Row):=l.foldl (gStep K) (gStart K)
theorem gRuns_take (K:Nat) (l:List Row) (k:Nat) (h:k<l.length):gRuns K (l.take (k+1))=gStep K (gRuns K (l.take k)) l[k]:=by
 unfold gRuns
 rw [List.take_succ_eq_append_getElem h,List.foldl_append]
 rfl
theorem gStep_none (K:Nat) (r:Row):gStep K [] r = [[r]]:=rfl
theorem gStep_new (K:Nat) (done:List (List Row)) (cur:List Row) (r:Row) (h:gNew K cur r=true):gStep K (done ++ [cur]) r=(done ++ [cur]) ++ [[r]]:=by
 unfold gStep
 rw [List.getLast?_append]
 simp only [List.getLast?_singleton,Option.some_or]
 rw [if_pos h]
theorem gStep_old (K:Nat) (done:List (List Row)) (cur:List Row) (r:Row) (h:gNew K cur r=false):gStep K (done ++ [cur]) r=done ++ [cur ++ [r]]:=by
 unfold gStep
 rw [List.getLast?_append]
 simp only [List.getLast?_singleton,Option.some_or]
 rw [h,if_neg (by decide),List.dropLast_concat]
def gLin (g:List Row):List Int:=g.foldl (fun a r=>mergeL a r.lin) []
theorem gLin_take (g:List Row) (k:Nat) (h:k<g.length):gLin (g.take (k+1))=mergeL (gLin (g.take k)) g[k].lin:=by
 unfold gLin
 rw [List.take_succ_eq_append_getElem h,List.foldl_append]
 rfl
theorem merge_le (a b:List Int):(mergeL a b).length≤a.length+b.length:=by
 have h:=asc_len (mergeL_law a b).1 (xs:=a++b) fun x hx=>List.mem_append.2 (((mergeL_law a b).2 x).1 hx)
 rw [List.length_append]at h
 exact h
theorem gLin_len (g:List Row) (h : ∀r∈g,r.lin.length≤1000) (k:Nat):(gLin (g.take k)).length≤1000*g.length:=by
 have h1 : ∀l:List Row,(∀r∈l,r.lin.length≤1000)→ ∀a:List Int,(l.foldl (fun a r=>mergeL a r.lin) a).length≤a.length+1000*l.length:=by
  intro l
  induction l with
  |nil=>intro _ a;simp
  |cons x l ih =>
   intro hl a
   have h2:=ih (fun r hr=>hl r (by simp [hr])) (mergeL a x.lin)
   have h3:=merge_le a x.lin
   have h4:=hl x (by simp)
   rw [List.foldl_cons,List.length_cons]
   omega
 have h5:=h1 (g.take k) (fun r hr=>h r (List.mem_of_mem_take hr)) []
 have h6:(g.take k).length≤g.length:=by rw [List.length_take];omega
 unfold gLin
 rw [List.length_nil]at h5
 have h7:=Nat.mul_le_mul_left 1000 h6
 omega
def gRow1 (es:List ExprI) (K:Nat) (aggs:List AggI) (g:List Row):Row :=
 ⟨(g.headD ⟨[],[]⟩).vals.take K++aggs.map fun a=>aggR a.kind (g.map fun r=>evalE es a.arg (r.vals.drop K)),gLin g⟩
def groupR (es:List ExprI) (keys:List Int) (aggs:List AggI) (rows:List Row):List Row:=(gRuns keys.length (sortBy cmpRow (rows.map (keyR es keys)))).map (gRow1 es keys.length aggs)
theorem gStep_sum (K:Nat) (st:List (List Row)) (r:Row):((gStep K st r).map List.length).sum=(st.map List.length).sum+1∧(gStep K st r).length≤st.length+1:=by
 unfold gStep
 cases h:st.getLast? with
 |none =>
  have:st = []:=List.getLast?_eq_none_iff.1 h
  subst this
  simp
 |some cur =>
  have hs:st=st.dropLast ++ [cur]:=by
   have hne:st≠ []:=fun e=>by rw [e]at h;cases h
   have:=List.dropLast_concat_getLast hne
   rw [List.getLast?_eq_some_getLast hne]at h
   rw [Option.some.inj h]at this
   exact this.symm
  simp only
  split
  ·simp
  ·have e1:(st.map List.length).sum=(st.dropLast.map List.length).sum+cur.length:=by
    conv=>lhs;rw [hs]
    simp
   have e2:st.length=st.dropLast.length+1:=by
    conv=>lhs;rw [hs]
    simp
   rw [e1,e2]
   simp
   omega
theorem gRuns_sum (K:Nat) (l:List Row) : ∀st,((l.foldl (gStep K) st).map List.length).sum=(st.map List.length).sum+l.length∧(l.foldl (gStep K) st).length≤st.length+l.length:=by
 induction l with
 |nil=>simp
 |cons x l ih =>
  intro st
  have h1:=gStep_sum K st x
  have h2:=ih (gStep K st x)
  rw [List.foldl_cons,List.length_cons]
  omega
theorem gRuns_len (K:Nat) (l:List Row):((gRuns K l).map List.length).sum=l.length∧(gRuns K l).length≤l.length+1:=by
 have h:=gRuns_sum K l (gStart K)
 have h2:((gStart K).map List.length).sum=0∧(gStart K).length≤1:=by unfold gStart;split <;> simp
 unfold gRuns
 omega
theorem le_sumL {l:List (List Row)} {g:List Row} (h:g∈l):g.length≤(l.map List.length).sum:=by
 induction l with
 |nil=>cases h
 |cons x l ih =>
  rw [List.map_cons,List.sum_cons]
  rcases List.mem_cons.1 h with rfl | h
  ·omega
  ·have:=ih h;omega
theorem gStep_mem (K:Nat) (st:List (List Row)) (r:Row) (P:Row→Prop) (h : ∀g∈st,∀x∈g,P x) (hr:P r) : ∀g∈gStep K st r,∀x∈g,P x:=by
 unfold gStep
 cases hl:st.getLast? with
 |none=>simp;exact hr
 |some cur =>
  have hc:cur∈st:=List.mem_of_getLast? hl
  intro g hg x hx
  simp only at hg
  split at hg
  ·rcases List.mem_append.1 hg with hg | hg
   ·exact h g hg x hx
   ·rw [List.mem_singleton.1 hg]at hx;rw [List.mem_singleton.1 hx];exact hr
  ·rcases List.mem_append.1 hg with hg | hg
   ·exact h g (List.dropLast_subset _ hg) x hx
   ·rw [List.mem_singleton.1 hg]at hx
    rcases List.mem_append.1 hx with hx | hx
    ·exact h cur hc x hx
    ·rw [List.mem_singleton.1 hx];exact hr
theorem gRuns_mem (K:Nat) (P:Row→Prop) (l:List Row):(∀r∈l,P r)→ ∀g∈gRuns K l,∀x∈g,P x:=by
 have h : ∀st:List (List Row),(∀g∈st,∀x∈g,P x)→(∀r∈l,P r)→ ∀g∈l.foldl (gStep K) st,∀x∈g,P x:=by
  induction l with
  |nil=>exact fun st h _=>h
  |cons y l ih=>exact fun st h hl=>ih _ (gStep_mem K st y P h (hl y (by simp))) fun r hr=>hl r (by simp [hr])
 exact fun hl=>h (gStart K) (fun g hg x hx=>by
  unfold gStart at hg
  split at hg
  ·rw [List.mem_singleton.1 hg]at hx;cases hx
  ·cases hg) hl
end Go.Proofs.YtkddkbpoefidpaaGreatDoor
namespace Go.Proofs.YtkddkbpoefidpaaGreatDoor
open Go.RowKit
set_option maxRecDepth 100000 in
set_option maxHeartbeats 4000000 in
theorem refValues_any (v:Value) (es:List ExprI) (kv:Value) (keys:List Int) (vv:Value) (vals:List Val) (w:World) (he:SliceOf Rep.expr w.cell? v es) (hl:es.length≤1000) (hk:SliceOf Rep.int w.cell? kv keys) (hkl:keys.length≤1000) (hv:SliceOf Rep.val w.cell? vv vals) :
  Calls Tryz.prog 117 #[v,kv,vv] w fun e w'=> ∃v',e = .returned v'∧OwnOf Rep.val w' (fun _=>True) w.heap.size 73 v' (projE es keys vals)∧Ext w w':=by
 obtain⟨i3,hi3,hz30,hz31,hz32⟩:=info_parts info_val3
 obtain⟨pe,ce,rfl,_⟩:=he.form
 obtain⟨pv,cv,rfl,_⟩:=hv.form
 obtain⟨p,cap,rfl,hc1,hc2,hp⟩:=hk.form
 obtain⟨N,hN⟩ : ∃N,N=keys.length:=⟨_,rfl⟩
 have HK:=Lib.hid hk
 rw [←hN]
 have HN:=Lib.hid hN
 have HP:=Lib.hid hp
 have HE:=Lib.hid he
 have HV:=Lib.hid hv
 have HC:=Lib.hid (expr_oks he)
 have HL:=Lib.hid hl
 have hNl:N≤1000:=by omega
 clear he hl hk hkl hv hp hc1 hc2 hN
 go_enter Tryz.func117,Tryz.ntmps117
 go_wp2_with fail
 go_loopg [7,12] N (fun gk vo vi wr=> ∃(k:Nat) (u:Value) (o:List Val),k≤N∧gk=N - k∧vi = .int .i64 k∧u=vo∧Hid (OwnOf Rep.val wr (fun _=>True) w.heap.size 73 u o)∧Hid (o=projE es (keys.take k) vals)∧Ext w wr)
 case atStart=>exact⟨0,_,[],by omega,rfl,rfl,rfl,OwnOf.nil _ _ _ _ _,rfl,Ext.refl w⟩
 case round =>
  obtain⟨k,u,o,hk,rfl,rfl,rfl,OW,AS,hx⟩:=hrel
  by_cases hlt:k<N
  ·have hkl:k<keys.length:=by have:=HN.out;omega
   have hd:decide ((k:Int)<(N:Int))=true:=by simp;omega
   obtain⟨b,o',rfl⟩:=HP.out (by decide) (by omega)
   have hv:=HK.out
   rw [←HN.out]at hv
   obtain⟨c0,_⟩:=int_at hv k hkl
   replace c0:=hx.at c0
   have hst:=projE_take es keys vals k hkl
   have hol:o.length≤1000:=by rw [AS.out];unfold projE;rw [List.length_map,List.length_take];omega
   rw [←AS.out]at hst
   generalize keys[k]=x at c0 hst
   obtain⟨y,hy⟩ : ∃y,y=evalE es x vals:=⟨_,rfl⟩
   have hoy:okVal y:=by rw [hy];exact ok_evalE HC.out (vals_ok HV.out) _
   have e0:=cell_lt c0
   have HST:=Lib.hid hst
   have HHY:=Lib.hid hy
   have HOY:=Lib.hid hoy
   have B1:o.length+1≤maxLen:=by unfold maxLen;omega
   have B2:(o.length+1)*32≤140737488355328:=by omega
   clear hst hv hol hy hoy
   go_wp2_with fail
   refine(refEval_any _ es x _ vals _ (HE.out.ext hx.full) HL.out (HV.out.ext hx.full)).mono ?_
   rintro e w1 ⟨rfl,x1⟩
   rw [←HHY.out]
   have HX1:=Lib.hid x1
   obtain⟨yk,yn,ys⟩:=y
   clear x1
   dsimp only
   go_wp2_with (at_builtin;go_loud (refine wpList_append_one Rep.val (fun _=>True) rfl _ _ 68 rfl w.heap.size 73 i3 _ 32 Tryz.underlying68 hi3 hz30 hz31 hz32 rfl (by decide) u o rfl (OW.out.ext (HX1.out.alloc _)) ⟨w1.heap.size,0,none⟩ 1 ⟨yk,yn,ys⟩ [.int .i64 yk,.int .i64 yn,.string ys] rfl ⟨rfl,HOY.out⟩ (by exact cells_new w1 [.int .i64 yk,.int .i64 yn,.string ys] _) B1 B2 (by exact(hx.trans (HX1.out.alloc _)).size) ?_))
   intro g cap3 w3 own gr _
   have hxx:Ext w w3:=Ext.grownNew (hx.trans (HX1.out.alloc _)) gr OW.out.base
   have OW2:=Lib.hid own
   clear own gr
   go_wp2_with fail
   go_roundg (N - (k+1))
   case measure=>omega
   case rel=>exact⟨k+1,_,_,by omega,rfl,by go_num,rfl,OW2.out,by show _=_;rw [HST.out,←HHY.out],hxx⟩
  ·have hkN:k=N:=by omega
   have hd : ¬(k:Int)<(N:Int):=by omega
   have HF:=Lib.hid (show o=projE es keys vals from by
    have h:=AS.out
    rw [hkN,HN.out,List.take_length]at h
    exact h)
   clear hkN
   go_wp2_with fail
   go_ret
   exact⟨u,rfl,by rw [←HF.out];exact OW.out,hx⟩
end Go.Proofs.YtkddkbpoefidpaaGreatDoor
namespace Go.Proofs.YtkddkbpoefidpaaGreatDoor
open Go.RowKit
structure NodeI where
 kind:Int
 a:Int
 b:Int
 pred:Int
 table:ByteArray
 exprs:List Int
 aggs:List AggI
instance:Inhabited NodeI:=⟨⟨0,0,0,0,ByteArray.empty,[],[]⟩⟩
structure QueryI where
 nodes:List NodeI
 exprs:List ExprI
structure TypI where
 name:ByteArray
 kinds:List Int
structure TabI where
 typ:TypI
 rows:List Row
def accE (k r:Int):Bool:=decide (k=0)||decide (k=r)
def validV (v:Val):Bool :=
 if v.kind=0 then decide (v.n=0)&&v.s.toList.isEmpty
 else if v.kind=1 then v.s.toList.isEmpty
 else if v.kind=2 then decide (v.n=0)&&decide (v.s.size≤200)
 else if v.kind=3 then(decide (v.n=0)||decide (v.n=1))&&v.s.toList.isEmpty
 else false
def combineE (x:ExprI) (ks cols:List Int):Int×Int :=
 if x.op=1 then(x.c.kind,0)
 else if x.op=2 then(cols.getD x.col.toNat 0,0)
 else if x.op=11 then(3,0)
 else if x.op=6∨x.op=7 then(if accE (ks.getD 0 0) (ks.getD 1 0)=false∧accE (ks.getD 1 0) (ks.getD 0 0)=false then(0,7)else(3,0))
 else if 3≤x.op∧x.op≤5 then(if ks.all (accE · 1)=true then(1,0)else(0,7))
 else if ks.all (accE · 3)=true then(3,0)else(0,7)
def kindsE (done:List (Int×Int)):List Int→List Int→List Int×Int
 |[],acc=>(acc,0)
 |o::os,acc=>if (done.getD o.toNat (0,0)).2≠0 then([],(done.getD o.toNat (0,0)).2)else kindsE done os (acc ++ [(done.getD o.toNat (0,0)).1])
def chkStep (cols:List Int) (done:List (Int×Int)) (x:ExprI):Int×Int :=
 if arityE x.op<0∨(x.op=1∧validV x.c=false)then(0,5)
 else if legalE done.length x=false then(0,10)
 else if x.op=2∧(x.col<0∨(cols.length:Int)≤x.col)then(0,10)
 else if (kindsE done (opsE x) []).2≠0 then(0,(kindsE done (opsE x) []).2)
 else combineE x (kindsE done (opsE x) []).1 cols
def chkAll (es:List ExprI) (cols:List Int):Nat→List (Int×Int)
 |0=> []
 |k+1=>chkAll es cols k ++ [chkStep cols (chkAll es cols k) es[k]!]
def checkE (es:List ExprI) (cols:List Int) (root:Int):Int×Int :=
 if 200<es.length then(0,4)else if root<0∨(es.length:Int)≤root then(0,10)else(chkAll es cols (root.toNat+1)).getD root.toNat (0,0)
def binK (k:Int):Bool:=decide (4≤k)&&decide (k≤8)
def scanC (types:List TypI) (name:ByteArray):List Int×Int:=match types.find? (fun t=>decide (t.name=name))with
 |some t=>(t.kinds,0)
 |none=>([],8)
def meetC (x y:Int):Int:=if x=0 then y else x
def badC (x y:Int):Bool:=decide (x≠0)&&(decide (x≠y)&&decide (y≠0))
def compatC:List Int→List Int→List Int×Int
 |[],[]=>([],0)
 |x::a,y::b=>if badC x y=true then([],7)else if (compatC a b).2≠0 then([],7)else(meetC x y::(compatC a b).1,0)
 |_,_=>([],7)
def exprsC (es:List ExprI) (cols:List Int):List Int→List Int→List Int×Int
 |[],acc=>(acc,0)
 |x::xs,acc=>if (checkE es cols x).2≠0 then([],(checkE es cols x).2)else exprsC es cols xs (acc ++ [(checkE es cols x).1])
def aggsC (es:List ExprI) (cols:List Int):List AggI→List Int→Bool→List Int×Int
 |[],acc,mis=>if mis=true then([],7)else(acc,0)
 |g::gs,acc,mis =>
  if g.kind=1 then aggsC es cols gs (acc ++ [1]) mis
  else if g.kind<1∨4<g.kind then([],5)
  else if (checkE es cols g.arg).2≠0 then([],(checkE es cols g.arg).2)
  else if g.kind=2 then aggsC es cols gs (acc ++ [1]) (mis||(decide ((checkE es cols g.arg).1≠1)&&decide ((checkE es cols g.arg).1≠0)))
  else aggsC es cols gs (acc ++ [(checkE es cols g.arg).1]) mis
def groupC (es:List ExprI) (cols:List Int) (n:NodeI):List Int×Int :=
 if (exprsC es cols n.exprs []).2≠0 then([],(exprsC es cols n.exprs []).2)else aggsC es cols n.aggs (exprsC es cols n.exprs []).1 false
def predC (es:List ExprI) (cols:List Int) (pred:Int):Int:=if (checkE es cols pred).2=0∧(checkE es cols pred).1≠3∧(checkE es cols pred).1≠0 then 7 else(checkE es cols pred).2
def legN (n:Nat) (i:Int):Bool:=decide (0≤i)&&decide (i<n)
def inputC (done:List (List Int)) (n:NodeI):List Int:=if binK n.kind=true then done.getD n.a.toNat []++done.getD n.b.toNat []else done.getD n.a.toNat []
def colsN (es:List ExprI) (types:List TypI) (done:List (List Int)) (n:NodeI):List Int×Int :=
 if n.kind<1∨10<n.kind then([],5)
 else if n.kind=1 then scanC types n.table
 else if legN done.length n.a=false∨(binK n.kind=true∧legN done.length n.b=false)then([],10)
 else if n.kind=2 then(done.getD n.a.toNat [],predC es (inputC done n) n.pred)
 else if n.kind=4∨n.kind=5 then(inputC done n,predC es (inputC done n) n.pred)
 else if n.kind=3 then exprsC es (inputC done n) n.exprs []
 else if 6≤n.kind∧n.kind≤8 then compatC (done.getD n.a.toNat []) (done.getD n.b.toNat [])
 else if n.kind=10 then groupC es (inputC done n) n
 else(done.getD n.a.toNat [],0)
def colsUpto (q:QueryI) (types:List TypI):Nat→List (List Int)×Int
 |0=>([],0)
 |i+1 =>
  if (colsUpto q types i).2≠0 then([],(colsUpto q types i).2)
  else if (colsN q.exprs types (colsUpto q types i).1 q.nodes[i]!).2≠0 then([],(colsN q.exprs types (colsUpto q types i).1 q.nodes[i]!).2)
  else if (colsN q.exprs types (colsUpto q types i).1 q.nodes[i]!).1.length=0∨64<(colsN q.exprs types (colsUpto q types i).1 q.nodes[i]!).1.length then([],4)
  else((colsUpto q types i).1 ++ [(colsN q.exprs types (colsUpto q types i).1 q.nodes[i]!).1],0)
def columnsQ (q:QueryI) (types:List TypI):List (List Int)×Int :=
 if q.nodes.length=0∨40<q.nodes.length∨200<q.exprs.length then([],4)else colsUpto q types q.nodes.length
def checkQ (q:QueryI) (types:List TypI):List Int×Int :=
 if (columnsQ q types).2≠0 then([],(columnsQ q types).2)else((columnsQ q types).1.getLastD [],0)
end Go.Proofs.YtkddkbpoefidpaaGreatDoor
namespace Go.Proofs.YtkddkbpoefidpaaGreatDoor
open Go.RowKit
def Rep.node:Rep NodeI where
 size:=7
 holds w cs x:= ∃ve va,cs = [.int .i64 x.kind,.int .i64 x.a,.int .i64 x.b,.int .i64 x.pred,.string x.table,ve,va]∧SliceOf Rep.int w ve x.exprs∧SliceOf Rep.agg w va x.aggs∧(okI x.kind∧okI x.a∧okI x.b∧okI x.pred)∧x.table.size≤maxLen
 len:=by rintro w cs x ⟨ve,va,rfl,_⟩;rfl
 ext:=by rintro w w' cs x ⟨ve,va,rfl,h1,h2,h3⟩ hx;exact⟨ve,va,rfl,h1.ext hx,h2.ext hx,h3⟩
 one:=by
  rintro w cs x ⟨ve,va,rfl,h1,h2,_⟩
  obtain⟨a',cap,rfl,_⟩:=h1.form
  obtain⟨b',cap',rfl,_⟩:=h2.form
  simp [Value.oneCell']
def Rep.typ:Rep TypI where
 size:=2
 holds w cs x:= ∃vk,cs = [.string x.name,vk]∧SliceOf Rep.int w vk x.kinds∧x.name.size≤maxLen
 len:=by rintro w cs x ⟨vk,rfl,_⟩;rfl
 ext:=by rintro w w' cs x ⟨vk,rfl,h1,h2⟩ hx;exact⟨vk,rfl,h1.ext hx,h2⟩
 one:=by
  rintro w cs x ⟨vk,rfl,h1,_⟩
  obtain⟨a',cap,rfl,_⟩:=h1.form
  simp [Value.oneCell']
def Rep.tab:Rep TabI where
 size:=3
 holds w cs x:= ∃vk vr,cs = [.string x.typ.name,vk,vr]∧SliceOf Rep.int w vk x.typ.kinds∧SliceOf Rep.row w vr x.rows∧x.typ.name.size≤maxLen
 len:=by rintro w cs x ⟨vk,vr,rfl,_⟩;rfl
 ext:=by rintro w w' cs x ⟨vk,vr,rfl,h1,h2,h3⟩ hx;exact⟨vk,vr,rfl,h1.ext hx,h2.ext hx,h3⟩
 one:=by
  rintro w cs x ⟨vk,vr,rfl,h1,h2,_⟩
  obtain⟨a',cap,rfl,_⟩:=h1.form
  obtain⟨b',cap',rfl,_⟩:=h2.form
  simp [Value.oneCell']
theorem rows_at {α:Type} {R:Rep α} {h:View} {b o n cap:Nat} {gs:List (List α)} (k:SliceOf (Rep.slice R) h (.slice (some ⟨b,o,none⟩) n cap) gs) (i:Nat) (hi:i<gs.length) : ∃v,h ⟨b,o+i,none⟩=some v∧SliceOf R h v gs[i]:=by
 obtain⟨c,⟨v,rfl,g⟩,h2⟩:=k.at i hi
 have:=h2 0 _ rfl
 rw [show (Rep.slice R).size=1 from rfl,Nat.mul_one,Nat.add_zero]at this
 exact⟨v,this,g⟩
@[reducible] def nodeV (x:NodeI) (ve va:Value):Value:= .agg #[.int .i64 x.kind,.int .i64 x.a,.int .i64 x.b,.int .i64 x.pred,.string x.table,ve,va]
theorem mixedA:Tryz.prog.follows Departure.mixedOrders=true:=by kernel_rfl
structure Bx2 (w:World) (E:Nat) (u0 u1:Value):Prop where
 c0:w.cell? ⟨E,0,none⟩=some u0
 c1:w.cell? ⟨E,1,none⟩=some u1
 f0:w.frozen? ⟨E,0,none⟩=false
 f1:w.frozen? ⟨E,1,none⟩=false
theorem Bx2.ext {w w':World} {E:Nat} {u0 u1:Value} (h:Bx2 w E u0 u1) (hx:Ext w w'):Bx2 w' E u0 u1:=⟨hx.at h.c0,hx.at h.c1,hx.unfrozen h.c0 h.f0,hx.unfrozen h.c1 h.f1⟩
theorem Bx2.grown {w w':World} {E:Nat} {u0 u1:Value} {row:Option Nat} (h:Bx2 w E u0 u1) (gr:w.grownBy w' row) (hne : ∀k,row=some k→k≠E):Bx2 w' E u0 u1:=by
 have hb:w'.heap[E]?=w.heap[E]?:=gr.block E (cell_lt h.c0) (fun e=>hne E e.symm rfl)
 exact⟨cell_grown gr h.c0 hne,cell_grown gr h.c1 hne,(World.frozen?_of_block (w:=w) hb).trans h.f0,(World.frozen?_of_block (w:=w) hb).trans h.f1⟩
theorem Bx2.new (w:World) (u0 u1:Value) (T:TypeId):Bx2 (w.alloc (.cells #[u0,u1] T)) w.heap.size u0 u1:=by
 refine⟨?_,?_,?_,?_⟩ <;> go_simp
theorem Bx2.set0 {w:World} {E:Nat} {u0 u1:Value} (h:Bx2 w E u0 u1) (v:Value):Bx2 (w.setCell ⟨E,0,none⟩ v) E v u1:=by
 obtain⟨c0,c1,f0,f1⟩:=h
 refine⟨?_,?_,?_,?_⟩ <;> go_simp
theorem Bx2.set1 {w:World} {E:Nat} {u0 u1:Value} (h:Bx2 w E u0 u1) (v:Value):Bx2 (w.setCell ⟨E,1,none⟩ v) E u0 v:=by
 obtain⟨c0,c1,f0,f1⟩:=h
 refine⟨?_,?_,?_,?_⟩ <;> go_simp
end Go.Proofs.YtkddkbpoefidpaaGreatDoor
