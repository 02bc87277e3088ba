/- joined texts of a proof: ConcV, CombW, Box -/
import Derived.Test.YtkddkbpoefidpaaGreatDoorKI03
import Derived.Test.YtkddkbpoefidpaaGreatDoorKI18
import Derived.Test.YtkddkbpoefidpaaGreatDoorKI21
import Derived.Test.YtkddkbpoefidpaaGreatDoorKI04
import Derived.Test.YtkddkbpoefidpaaGreatDoorKI05
namespace Go.Proofs.YtkddkbpoefidpaaGreatDoor
open Go.RowKit Go.Shelf
theorem grow_val (S:Nat→Prop) (n:Nat) (w:World) (hn:n≤1099511627776):Calls Tryz.prog 131 #[.slice none 0 0,.int .i64 n] w fun e w'=> ∃v',e = .returned v'∧OwnOf Rep.val w' S w.heap.size 73 v' []∧Ext w w':=by
 obtain⟨i0,hi,hz0,hz1,hz2⟩:=info_parts info_val
 by_cases h0:n=0
 ·subst h0
  refine(Any8.slices_Grow_room Tryz.growVal none 0 0 0 w (Nat.le_refl _) (by omega) (by omega) (by omega)).mono ?_
  rintro e w' ⟨rfl,rfl⟩
  exact⟨_,rfl,OwnOf.nil _ _ _ _ _,Ext.refl _⟩
 ·refine(Any8.slices_Grow_grow Tryz.growVal i0 _ hi hz0 (by rw [hz1];decide) none 0 0 n [] w (Nat.le_refl _) (by omega) (by rw [hz2];omega) (by omega) (by simp) (fun _=>rfl) (fun a h=>by cases h)).mono ?_
  rintro e w' ⟨rfl,rfl⟩
  have hg:=grownCap_ge w (0+n) 0 (Tryz.growVal_ren.t 25)
  have hg2:=grownCap_le_maxLen w (0+n) 0 (Tryz.growVal_ren.t 25) (by unfold maxLen;omega)
  refine⟨_,rfl,⟨[],trivial,?_⟩,(Ext.refl w).drew.alloc _⟩
  refine World.ownsRow_made w.drew _ _ (Nat.le_refl _) hg2 ?_
  generalize grownCap w (0+n) 0 (Tryz.growVal_ren.t 25)=cap at hg
  rw [show Rep.val.size=3 from rfl]
  simp [size_zeroCells,Value.cells]
  omega
set_option maxHeartbeats 2000000 in
theorem concat_val (v:Value) (ls:List (List Val)) (w:World) (hv:SliceOf (Rep.slice Rep.val) w.cell? v ls) (hbig:ls.flatten.length≤1099511627776) :
  Calls Tryz.prog 77 #[v] w fun e w'=> ∃v',e = .returned v'∧OwnOf Rep.val w' (fun _=>True) w.heap.size 73 v' ls.flatten∧Ext w w':=by
 obtain⟨i0,hi,hz0,hz1,hz2⟩:=info_parts info_val
 obtain⟨pa,ca,rfl,ha1,ha2,ha3⟩:=hv.form
 have HV:=Lib.hid hv
 unfold maxLen at ha2
 go_enter Tryz.func77,Tryz.ntmps77
 go_wp2_with fail
 go_loopg [3,11] ls.length (fun gk n i wr=> ∃k m:Nat,k≤ls.length∧gk=ls.length - k∧i = .int .i64 k∧n = .int .i64 m∧m=(ls.take k).flatten.length∧w=wr)
 case atStart=>exact⟨0,0,by omega,rfl,rfl,rfl,by simp,rfl⟩
 case round =>
  obtain⟨k,m,hk,rfl,rfl,rfl,hm,rfl⟩:=hrel
  have hle:=flatten_take_le ls k
  by_cases hlt:k<ls.length
  ·obtain⟨ba,oa,rfl⟩:=ha3 (by decide) (by omega)
   obtain⟨u,c1,s1⟩:=slice_at hv k hlt
   have ht:=flatten_take ls k hlt
   have hle2:=flatten_take_le ls (k+1)
   obtain⟨p1,q1,rfl,hq1,hq2,_⟩:=s1.form
   have hml:(ls.take (k+1)).flatten.length=m+ls[k].length:=by rw [ht,List.length_append,hm]
   rw [hml]at hle2
   rw [←hm]at hle
   generalize ls[k].length=n1 at hml hle2 hq1 c1 s1
   have HL:=Lib.hid hml
   have HM:=Lib.hid hm
   unfold maxLen at hq2
   have hd:decide ((k:Int)<(ls.length:Int))=true:=by simp;omega
   have hd1:(k:Int)<(ls.length:Int):=by omega
   have hd2:decide ((m:Int)+(n1:Int)<0)=false:=by simp;omega
   clear s1 ht hml hm hv ha3
   go_wp2_with fail
   go_roundg (ls.length - (k+1))
   case measure=>omega
   case rel=>exact⟨k+1,m+n1,by omega,rfl,by go_num,by go_num,HL.out.symm,rfl⟩
  ·have:k=ls.length:=by omega
   subst this
   rw [List.take_length]at hm
   have hmb:m≤1099511627776:=by rw [hm];exact hbig
   clear hv hle hm
   have HB:=Lib.hid hbig
   clear hbig
   go_wp2_with fail
   refine(grow_val (fun _=>True) m _ hmb).mono ?_
   rintro e w1 ⟨v1,rfl,hown,hx⟩
   have HO:=Lib.hid hown
   clear hown
   go_wp2_with fail
   go_loopg [6,27] ls.length (fun gk v i wr=> ∃k:Nat,k≤ls.length∧gk=ls.length - k∧i = .int .i64 k∧OwnOf Rep.val wr (fun _=>True) w.heap.size 73 v (ls.take k).flatten∧Ext w wr)
   case atStart=>exact⟨0,by omega,rfl,rfl,by simpa using HO.out,hx⟩
   case round =>
    clear HO hx
    obtain⟨k,hk,rfl,rfl,hown,hx⟩:=hrel
    by_cases hlt:k<ls.length
    ·obtain⟨ba,oa,rfl⟩:=ha3 (by decide) (by omega)
     obtain⟨u,c1,s1⟩:=slice_at HV.out k hlt
     have ht:=flatten_take ls k hlt
     have hle2:=flatten_take_le ls (k+1)
     have HO:=Lib.hid hown
     have hbg:=Nat.le_trans hle2 HB.out
     rw [ht,List.length_append]at hbg
     have hsub : ∀v',OwnOf Rep.val wr (fun _=>True) w.heap.size 73 v' (ls.take k).flatten→Sub w.cell? (on wr (avoid (fun _=>True) v')):=fun v' ho p u e=>by
      have hlt2:=World.block_lt_of_cell? w p e
      refine on_some.2 ⟨⟨fun he=> ?_,trivial⟩,hx.at e⟩
      have:=(ho.lt _ he.symm).1
      omega
     replace s1:=s1.ext (hsub _ hown)
     replace c1:=hx.at c1
     generalize ls[k]=x at s1 ht hbg
     have HT:=Lib.hid ht
     have HG:=Lib.hid hbg
     have S1:=Lib.hid s1
     obtain⟨p1,q1,rfl,hq1,hq2,_⟩:=s1.form
     have hd:decide ((k:Int)<(ls.length:Int))=true:=by simp;omega
     have hd1:(k:Int)<(ls.length:Int):=by omega
     clear s1 ht hbg hown ha3 hle2 hsub
     go_wp2_with (at_builtin;refine wpList_append_all Rep.val (fun _=>True) rfl _ _ 68 rfl w.heap.size 73 i0 _ 32 Tryz.underlying68 hi hz0 hz1 hz2 rfl (by decide) _ (ls.take k).flatten rfl HO.out _ x rfl S1.out ?c1 ?c2 ?c3 ?_)
     case c1=>have:=HG.out;unfold maxLen;omega
     case c2=>have:=HG.out;omega
     case c3=>exact hx.size
     intro v' w3 hown3 hgr _
     go_wp2_with fail
     go_roundg (ls.length - (k+1))
     case measure=>omega
     case rel=>exact⟨k+1,by omega,rfl,by go_num,by rw [HT.out];exact hown3,Below.grown hx hgr hx.size (fun j hj=>(HO.out.lt j hj).1)⟩
    ·have:k=ls.length:=by omega
     subst this
     rw [List.take_length]at hown
     have HO:=Lib.hid hown
     clear hown ha3
     go_wp2_with fail
     go_ret
     exact⟨_,rfl,HO.out,hx⟩
theorem grow_tup (S:Nat→Prop) (n:Nat) (w:World) (hn:n≤1099511627776):Calls Tryz.prog 128 #[.slice none 0 0,.int .i64 n] w fun e w'=> ∃v',e = .returned v'∧OwnOf Rep.tup w' S w.heap.size 96 v' []∧Ext w w':=by
 obtain⟨i0,hi,hz0,hz1,hz2⟩:=info_parts infoTup
 by_cases h0:n=0
 ·subst h0
  refine(Any8.slices_Grow_room Tryz.growTup none 0 0 0 w (Nat.le_refl _) (by omega) (by omega) (by omega)).mono ?_
  rintro e w' ⟨rfl,rfl⟩
  exact⟨_,rfl,OwnOf.nil _ _ _ _ _,Ext.refl _⟩
 ·refine(Any8.slices_Grow_grow Tryz.growTup i0 _ hi hz0 (by rw [hz1];decide) none 0 0 n [] w (Nat.le_refl _) (by omega) (by rw [hz2];omega) (by omega) (by simp) (fun _=>rfl) (fun a h=>by cases h)).mono ?_
  rintro e w' ⟨rfl,rfl⟩
  have hg:=grownCap_ge w (0+n) 0 (Tryz.growTup_ren.t 25)
  have hg2:=grownCap_le_maxLen w (0+n) 0 (Tryz.growTup_ren.t 25) (by unfold maxLen;omega)
  refine⟨_,rfl,⟨[],trivial,?_⟩,(Ext.refl w).drew.alloc _⟩
  refine World.ownsRow_made w.drew _ _ (Nat.le_refl _) hg2 ?_
  generalize grownCap w (0+n) 0 (Tryz.growTup_ren.t 25)=cap at hg
  rw [show Rep.tup.size=4 from rfl]
  simp [size_zeroCells,Value.cells]
  omega
set_option maxHeartbeats 2000000 in
theorem concat_tup (v:Value) (ls:List (List Tup)) (w:World) (hv:SliceOf (Rep.slice Rep.tup) w.cell? v ls) (hbig:ls.flatten.length≤1099511627776) :
  Calls Tryz.prog 72 #[v] w fun e w'=> ∃v',e = .returned v'∧OwnOf Rep.tup w' (fun _=>True) w.heap.size 96 v' ls.flatten∧Ext w w':=by
 obtain⟨i0,hi,hz0,hz1,hz2⟩:=info_parts infoTup
 obtain⟨pa,ca,rfl,ha1,ha2,ha3⟩:=hv.form
 have HV:=Lib.hid hv
 unfold maxLen at ha2
 go_enter Tryz.func72,Tryz.ntmps72
 go_wp2_with fail
 go_loopg [3,11] ls.length (fun gk n i wr=> ∃k m:Nat,k≤ls.length∧gk=ls.length - k∧i = .int .i64 k∧n = .int .i64 m∧m=(ls.take k).flatten.length∧w=wr)
 case atStart=>exact⟨0,0,by omega,rfl,rfl,rfl,by simp,rfl⟩
 case round =>
  obtain⟨k,m,hk,rfl,rfl,rfl,hm,rfl⟩:=hrel
  have hle:=flatten_take_le ls k
  by_cases hlt:k<ls.length
  ·obtain⟨ba,oa,rfl⟩:=ha3 (by decide) (by omega)
   obtain⟨u,c1,s1⟩:=slice_at hv k hlt
   have ht:=flatten_take ls k hlt
   have hle2:=flatten_take_le ls (k+1)
   obtain⟨p1,q1,rfl,hq1,hq2,_⟩:=s1.form
   have hml:(ls.take (k+1)).flatten.length=m+ls[k].length:=by rw [ht,List.length_append,hm]
   rw [hml]at hle2
   rw [←hm]at hle
   generalize ls[k].length=n1 at hml hle2 hq1 c1 s1
   have HL:=Lib.hid hml
   have HM:=Lib.hid hm
   unfold maxLen at hq2
   have hd:decide ((k:Int)<(ls.length:Int))=true:=by simp;omega
   have hd1:(k:Int)<(ls.length:Int):=by omega
   have hd2:decide ((m:Int)+(n1:Int)<0)=false:=by simp;omega
   clear s1 ht hml hm hv ha3
   go_wp2_with fail
   go_roundg (ls.length - (k+1))
   case measure=>omega
   case rel=>exact⟨k+1,m+n1,by omega,rfl,by go_num,by go_num,HL.out.symm,rfl⟩
  ·have:k=ls.length:=by omega
   subst this
   rw [List.take_length]at hm
   have hmb:m≤1099511627776:=by rw [hm];exact hbig
   clear hv hle hm
   have HB:=Lib.hid hbig
   clear hbig
   go_wp2_with fail
   refine(grow_tup (fun _=>True) m _ hmb).mono ?_
   rintro e w1 ⟨v1,rfl,hown,hx⟩
   have HO:=Lib.hid hown
   clear hown
   go_wp2_with fail
   go_loopg [6,27] ls.length (fun gk v i wr=> ∃k:Nat,k≤ls.length∧gk=ls.length - k∧i = .int .i64 k∧OwnOf Rep.tup wr (fun _=>True) w.heap.size 96 v (ls.take k).flatten∧Ext w wr)
   case atStart=>exact⟨0,by omega,rfl,rfl,by simpa using HO.out,hx⟩
   case round =>
    clear HO hx
    obtain⟨k,hk,rfl,rfl,hown,hx⟩:=hrel
    by_cases hlt:k<ls.length
    ·obtain⟨ba,oa,rfl⟩:=ha3 (by decide) (by omega)
     obtain⟨u,c1,s1⟩:=slice_at HV.out k hlt
     have ht:=flatten_take ls k hlt
     have hle2:=flatten_take_le ls (k+1)
     have HO:=Lib.hid hown
     have hbg:=Nat.le_trans hle2 HB.out
     rw [ht,List.length_append]at hbg
     have hsub : ∀v',OwnOf Rep.tup wr (fun _=>True) w.heap.size 96 v' (ls.take k).flatten→Sub w.cell? (on wr (avoid (fun _=>True) v')):=fun v' ho p u e=>by
      have hlt2:=World.block_lt_of_cell? w p e
      refine on_some.2 ⟨⟨fun he=> ?_,trivial⟩,hx.at e⟩
      have:=(ho.lt _ he.symm).1
      omega
     replace s1:=s1.ext (hsub _ hown)
     replace c1:=hx.at c1
     generalize ls[k]=x at s1 ht hbg
     have HT:=Lib.hid ht
     have HG:=Lib.hid hbg
     have S1:=Lib.hid s1
     obtain⟨p1,q1,rfl,hq1,hq2,_⟩:=s1.form
     have hd:decide ((k:Int)<(ls.length:Int))=true:=by simp;omega
     have hd1:(k:Int)<(ls.length:Int):=by omega
     clear s1 ht hbg hown ha3 hle2 hsub
     go_wp2_with (at_builtin;refine wpList_append_all Rep.tup (fun _=>True) rfl _ _ 22 rfl w.heap.size 96 i0 _ 64 Tryz.underlying22 hi hz0 hz1 hz2 rfl (by decide) _ (ls.take k).flatten rfl HO.out _ x rfl S1.out ?c1 ?c2 ?c3 ?_)
     case c1=>have:=HG.out;unfold maxLen;omega
     case c2=>have:=HG.out;omega
     case c3=>exact hx.size
     intro v' w3 hown3 hgr _
     go_wp2_with fail
     go_roundg (ls.length - (k+1))
     case measure=>omega
     case rel=>exact⟨k+1,by omega,rfl,by go_num,by rw [HT.out];exact hown3,Below.grown hx hgr hx.size (fun j hj=>(HO.out.lt j hj).1)⟩
    ·have:k=ls.length:=by omega
     subst this
     rw [List.take_length]at hown
     have HO:=Lib.hid hown
     clear hown ha3
     go_wp2_with fail
     go_ret
     exact⟨_,rfl,HO.out,hx⟩
end Go.Proofs.YtkddkbpoefidpaaGreatDoor
namespace Go.Proofs.YtkddkbpoefidpaaGreatDoor
open Go.RowKit
theorem ext_W4 {W wa:World} {B:Nat} (h:Ext W wa) (hB:W.heap.size≤B) (u0 u1 u2 u3:Value):Ext W ((((wa.setCell ⟨B,0,none⟩ u0).setCell ⟨B,1,none⟩ u1).setCell ⟨B,2,none⟩ u2).setCell ⟨B,3,none⟩ u3) :=
 Below.setCell (Below.setCell (Below.setCell (Below.setCell h hB u0) hB u1) hB u2) hB u3
theorem cell_W4 {wa:World} {B b o:Nat} {v:Value} (h:wa.cell? ⟨b,o,none⟩=some v) (hb:B≠b) (u0 u1 u2 u3:Value):((((wa.setCell ⟨B,0,none⟩ u0).setCell ⟨B,1,none⟩ u1).setCell ⟨B,2,none⟩ u2).setCell ⟨B,3,none⟩ u3).cell? ⟨b,o,none⟩=some v :=
 cell_set (cell_set (cell_set (cell_set h hb) hb) hb) hb
theorem keepW6 {W wa:World} {B:Nat} {u0 u1 u2 u3 v1 v2 v3 v4 v5 v6:Value} {b1 b2 b3 b4 b5 b6 o1 o2 o3 o4 o5 o6:Nat}
  (h:Ext W wa∧wa.cell? ⟨b1,o1,none⟩=some v1∧wa.cell? ⟨b2,o2,none⟩=some v2∧wa.cell? ⟨b3,o3,none⟩=some v3∧wa.cell? ⟨b4,o4,none⟩=some v4∧wa.cell? ⟨b5,o5,none⟩=some v5∧wa.cell? ⟨b6,o6,none⟩=some v6) (hB:W.heap.size≤B) (hb:B≠b1∧B≠b2∧B≠b3∧B≠b4∧B≠b5∧B≠b6) :
  (fun wb:World=>Ext W wb∧wb.cell? ⟨b1,o1,none⟩=some v1∧wb.cell? ⟨b2,o2,none⟩=some v2∧wb.cell? ⟨b3,o3,none⟩=some v3∧wb.cell? ⟨b4,o4,none⟩=some v4∧wb.cell? ⟨b5,o5,none⟩=some v5∧wb.cell? ⟨b6,o6,none⟩=some v6) ((((wa.setCell ⟨B,0,none⟩ u0).setCell ⟨B,1,none⟩ u1).setCell ⟨B,2,none⟩ u2).setCell ⟨B,3,none⟩ u3) :=
 ⟨ext_W4 h.1 hB _ _ _ _,cell_W4 h.2.1 hb.1 _ _ _ _,cell_W4 h.2.2.1 hb.2.1 _ _ _ _,cell_W4 h.2.2.2.1 hb.2.2.1 _ _ _ _,cell_W4 h.2.2.2.2.1 hb.2.2.2.1 _ _ _ _,cell_W4 h.2.2.2.2.2.1 hb.2.2.2.2.1 _ _ _ _,cell_W4 h.2.2.2.2.2.2 hb.2.2.2.2.2 _ _ _ _⟩
theorem slice_end {α:Type} {R:Rep α} {w w2 w3:World} {B:Nat} {u0 u1 u2 u3 v:Value} {T:Nat→Prop} {xs:List α} (s2:SliceOf R (on w2 T) v xs) (hT : ∀k,k<w2.heap.size→T k→B<k) (hB:w.heap.size≤B) (hx:Ext w2 w3) :
  SliceOf R (on ((((w3.setCell ⟨B,0,none⟩ u0).setCell ⟨B,1,none⟩ u1).setCell ⟨B,2,none⟩ u2).setCell ⟨B,3,none⟩ u3) (fun j=>w.heap.size≤j)) v xs :=
 s2.ext (((on_mono w2 (T:=fun k=>B<k) hT).trans (hx.sub _)).trans ((sub4 w3 u0 u1 u2 u3 (Nat.lt_irrefl B)).trans (on_mono _ fun k _ (hk:B<k)=>Nat.le_trans hB (Nat.le_of_lt hk))))
set_option maxRecDepth 100000 in
set_option maxHeartbeats 4000000 in
theorem combine_any (va la vb lb:Value) (xv yv:List Val) (xl yl:List Int) (xf xt yf yt f t:Int) (w:World) (ha:SliceOf Rep.val w.cell? va xv) (hb:SliceOf Rep.val w.cell? vb yv) (hla:SliceOf Rep.int w.cell? la xl) (hlb:SliceOf Rep.int w.cell? lb yl)
  (hf1:xv.length≤1048576) (hf2:yv.length≤1048576) (hf3:xl.length≤1048576) (hf4:yl.length≤1048576) :
  Calls Tryz.prog 74 #[.agg #[va,.int .i64 xf,.int .i64 xt,la],.agg #[vb,.int .i64 yf,.int .i64 yt,lb],.agg #[.int .i64 f,.int .i64 t]] w fun e w'=> ∃v l,e = .returned (.agg #[v,.int .i64 f,.int .i64 t,l])∧SliceOf Rep.val (on w' (since w)) v (xv++yv)∧SliceOf Rep.int (on w' (since w)) l (mergeL xl yl)∧Ext w w':=by
 have HA:=Lib.hid ha
 have HB:=Lib.hid hb
 have HLA:=Lib.hid hla
 have HLB:=Lib.hid hlb
 obtain⟨pa,ca,rfl,_⟩:=ha.form
 obtain⟨pb,cb,rfl,_⟩:=hb.form
 obtain⟨qa,da,rfl,_⟩:=hla.form
 obtain⟨qb,db,rfl,_⟩:=hlb.form
 obtain⟨n1,hn1⟩ : ∃n,n=xv.length:=⟨_,rfl⟩
 obtain⟨n2,hn2⟩ : ∃n,n=yv.length:=⟨_,rfl⟩
 obtain⟨n3,hn3⟩ : ∃n,n=xl.length:=⟨_,rfl⟩
 obtain⟨n4,hn4⟩ : ∃n,n=yl.length:=⟨_,rfl⟩
 rw [←hn1]at HA ⊢
 rw [←hn2]at HB ⊢
 rw [←hn3]at HLA ⊢
 rw [←hn4]at HLB ⊢
 have HF:=Lib.hid (And.intro hf1 (And.intro hf2 (And.intro hf3 hf4)))
 clear ha hb hla hlb hf1 hf2 hf3 hf4 hn1 hn2 hn3 hn4
 go_enter Tryz.func74,Tryz.ntmps74
 go_wp2_with fail
 obtain⟨W1,hW1⟩ : ∃W1,W1=((((w.alloc (.cells #[.slice pa n1 ca,.int .i64 xf,.int .i64 xt,.slice qa n3 da] 96)).alloc (.cells #[.slice pb n2 cb,.int .i64 yf,.int .i64 yt,.slice qb n4 db] 96)).alloc (.cells #[.int .i64 f,.int .i64 t] 94)).alloc (.cells #[.slice none 0 0,.int .i64 0,.int .i64 0,.slice none 0 0] 96)):=⟨_,rfl⟩
 obtain⟨B,hB⟩ : ∃B,B=w.heap.size:=⟨_,rfl⟩
 have hxx:Ext w W1:=by rw [hW1];exact((((Ext.refl w).alloc _).alloc _).alloc _).alloc _
 have c1:W1.cell? ⟨B,0,none⟩=some (.slice pa n1 ca):=by rw [hW1,hB];go_simp
 have c2:W1.cell? ⟨B,3,none⟩=some (.slice qa n3 da):=by rw [hW1,hB];go_simp
 have c3:W1.cell? ⟨B+1,0,none⟩=some (.slice pb n2 cb):=by rw [hW1,hB];go_simp
 have c4:W1.cell? ⟨B+1,3,none⟩=some (.slice qb n4 db):=by rw [hW1,hB];go_simp
 have c5:W1.cell? ⟨B+1+1,0,none⟩=some (.int .i64 f):=by rw [hW1,hB];go_simp
 have c6:W1.cell? ⟨B+1+1,1,none⟩=some (.int .i64 t):=by rw [hW1,hB];go_simp
 have g0:W1.cell? ⟨B+1+1+1,0,none⟩=some (.slice none 0 0):=by rw [hW1,hB];go_simp
 have f0:W1.frozen? ⟨B+1+1+1,0,none⟩=false:=by rw [hW1,hB];go_simp
 have g1:W1.cell? ⟨B+1+1+1,1,none⟩=some (.int .i64 0):=by rw [hW1,hB];go_simp
 have f1:W1.frozen? ⟨B+1+1+1,1,none⟩=false:=by rw [hW1,hB];go_simp
 have g2:W1.cell? ⟨B+1+1+1,2,none⟩=some (.int .i64 0):=by rw [hW1,hB];go_simp
 have f2:W1.frozen? ⟨B+1+1+1,2,none⟩=false:=by rw [hW1,hB];go_simp
 have g3:W1.cell? ⟨B+1+1+1,3,none⟩=some (.slice none 0 0):=by rw [hW1,hB];go_simp
 have f3:W1.frozen? ⟨B+1+1+1,3,none⟩=false:=by rw [hW1,hB];go_simp
 rw [←hB,←hW1]
 have hF0:Free4 W1 (B+1+1+1):=⟨⟨_,g0⟩,⟨_,g1⟩,⟨_,g2⟩,⟨_,g3⟩,f0,f1,f2,f3⟩
 have hF1:Free4 W1.drew (B+1+1+1):=Free4.ext hF0 (Ext.refl W1).drew
 have hz1:=cell_lt g0
 have hS0:Ext w W1.drew∧W1.drew.cell? ⟨B,0,none⟩=some (.slice pa n1 ca)∧W1.drew.cell? ⟨B,3,none⟩=some (.slice qa n3 da)∧W1.drew.cell? ⟨B+1,0,none⟩=some (.slice pb n2 cb)∧W1.drew.cell? ⟨B+1,3,none⟩=some (.slice qb n4 db)∧W1.drew.cell? ⟨B+1+1,0,none⟩=some (.int .i64 f)∧W1.drew.cell? ⟨B+1+1,1,none⟩=some (.int .i64 t):=⟨hxx.drew,c1,c2,c3,c4,c5,c6⟩
 have hwB:w.heap.size≤B+1+1+1:=by omega
 have HBE:=Lib.hid hB
 have hne:B+1+1+1≠B∧B+1+1+1≠B∧B+1+1+1≠B+1∧B+1+1+1≠B+1∧B+1+1+1≠B+1+1∧B+1+1+1≠B+1+1:=by omega
 have HLIT:=Lib.hid (show ∀wz,Ext w wz→SliceOf (Rep.slice Rep.val) (wz.alloc (.cells #[.slice pa n1 ca,.slice pb n2 cb] 68)).cell? (.slice (some ⟨wz.heap.size,0,none⟩) 2 2) [xv,yv]from fun wz hz =>
  slice_lit (Rep.slice Rep.val) wz [.slice pa n1 ca,.slice pb n2 cb] 68 [[.slice pa n1 ca],[.slice pb n2 cb]] [xv,yv] rfl ⟨⟨_,rfl,HA.out.ext (hz.alloc _).full⟩,⟨_,rfl,HB.out.ext (hz.alloc _).full⟩,trivial⟩ (by simp [maxLen]))
 obtain⟨n5,hn5⟩ : ∃n,n=(xv++yv).length:=⟨_,rfl⟩
 have HN5:=Lib.hid hn5
 clear hn5
 have HFL:=Lib.hid (show ([xv,yv]:List (List Val)).flatten=xv++yv from by simp)
 clear c1 c2 c3 c4 c5 c6 g0 g1 g2 g3 f0 f1 f2 f3 hW1 HA HB hB
 go_region_held3 (fun w'=>Ext w w'∧w'.cell? ⟨B,0,none⟩=some (.slice pa n1 ca)∧w'.cell? ⟨B,3,none⟩=some (.slice qa n3 da)∧w'.cell? ⟨B+1,0,none⟩=some (.slice pb n2 cb)∧w'.cell? ⟨B+1,3,none⟩=some (.slice qb n4 db)∧w'.cell? ⟨B+1+1,0,none⟩=some (.int .i64 f)∧w'.cell? ⟨B+1+1,1,none⟩=some (.int .i64 t))
  (first |with_reducible assumption | with_reducible exact keepE6 (by assumption) x2 | with_reducible exact keepE6 (by assumption) x3 | with_reducible exact keepE6 (by assumption) ((Ext.refl _).alloc _) | with_reducible exact keepW6 (by assumption) hwB hne | with_reducible exact keepE6 (keepW6 (by assumption) hwB hne) ((Ext.refl _).alloc _))
  (first
   |(go_at_call 77;refine(concat_val _ [xv,yv] _ (by first | exact(HLIT.out _ hxx).ext (Ext.refl _).drew.full | exact HLIT.out _ X3.out | exact(HLIT.out _ hxx).ext ((Ext.refl _).drew.trans x3).full) (by have:=HF.out;simp;omega)).mono ?_;rintro e w2 ⟨v2,rfl,o2,x2⟩;rw [HFL.out]at o2;have S2:=Lib.hid (o2.fresh (fun _ _ _ _ h=>h));obtain⟨p2,q2,rfl,_⟩:=o2.slice.form;rw [←HN5.out]at S2 ⊢;have X2:Hid (Ext w w2):=(by first | exact Lib.hid ((hxx.alloc _).drew.trans x2) | exact Lib.hid ((X3.out.alloc _).trans x2) | exact Lib.hid (X3.out.trans x2));have hF2:Free4 w2 (B+1+1+1):=(by first | exact Free4.ext hF0 (((Ext.refl W1).alloc _).drew.trans x2) | exact Free4.ext hF3 x2 | exact Free4.ext hF3 (((Ext.refl _).alloc _).trans x2));obtain⟨⟨m20,y20⟩,⟨m21,y21⟩,⟨m22,y22⟩,⟨m23,y23⟩,y24,y25,y26,y27⟩:=id hF2;have z2:=cell_lt y20;clear o2)
   |(go_at_call 40;refine(merge_lineage _ _ xl yl _ (by first | exact HLA.out.ext hxx.drew.full | exact HLA.out.ext (hxx.alloc _).drew.full | exact HLA.out.ext X2.out.full) (by first | exact HLB.out.ext hxx.drew.full | exact HLB.out.ext (hxx.alloc _).drew.full | exact HLB.out.ext X2.out.full) HF.out.2.2.1 HF.out.2.2.2).mono ?_;rintro e w3 ⟨v3,rfl,s3,x3⟩;have S3:=Lib.hid s3;obtain⟨p3,q3,rfl,_⟩:=s3.form;have X3:Hid (Ext w w3):=(by first | exact Lib.hid (hxx.drew.trans x3) | exact Lib.hid ((hxx.alloc _).drew.trans x3) | exact Lib.hid (X2.out.trans x3));have hF3:Free4 w3 (B+1+1+1):=(by first | exact Free4.ext hF1 x3 | exact Free4.ext hF0 (((Ext.refl W1).alloc _).drew.trans x3) | exact Free4.ext hF2 x3);obtain⟨⟨m30,y30⟩,⟨m31,y31⟩,⟨m32,y32⟩,⟨m33,y33⟩,y34,y35,y36,y37⟩:=id hF3;have z3:=cell_lt y30;clear s3))
 all_goals
  have hfin:=And.left ‹Ext w (_:World)∧_›
  clear hS0
  go_wp2_with fail
 all_goals
  with_reducible refine ret4 (by assumption) ?_ ?_ ?_
  ·intro j
   simp [results,Tryz.results74,go_sem,j]
  ·rfl
  first
   |refine⟨_,_,rfl,slice_end S2.out ?_ hwB x3,slice_end S3.out ?_ hwB (Ext.refl _),hfin⟩
   |refine⟨_,_,rfl,slice_end S2.out ?_ hwB (Ext.refl _),slice_end S3.out ?_ hwB x2,hfin⟩
   |refine⟨_,_,rfl,slice_end S2.out ?_ hwB (Ext.refl _),slice_end S3.out ?_ hwB (((Ext.refl _).alloc _).trans x2),hfin⟩
  ·intro k _ hk
   have h1:_≤k:=hk
   have h2:=hxx.size
   first
    |(simp at h1;omega)
    |(have h3:=x3.size;simp at h1 h3;omega)
  ·intro k _ hk
   have h1:_≤k:=hk
   first
    |omega
    |(simp at h1;omega)
    |(have h3:=x2.size;simp at h1 h3;omega)
end Go.Proofs.YtkddkbpoefidpaaGreatDoor
namespace Go.Proofs.YtkddkbpoefidpaaGreatDoor
open Go.RowKit
theorem Ext.ofDrew {w w':World} (h:Ext w w'):Ext w.drew w':=⟨h.os,h.tape,h.output,h.size,h.block⟩
theorem frozen_grown {w w':World} {row:Option Nat} {b o:Nat} {v:Value} (gr:w.grownBy w' row) (hc:w.cell? ⟨b,o,none⟩=some v) (hf:w.frozen? ⟨b,o,none⟩=false) (hne : ∀k,row=some k→k≠b):w'.frozen? ⟨b,o,none⟩=false :=
 (World.frozen?_of_block (w:=w) (gr.block b (cell_lt hc) (fun e=>hne b e.symm rfl))).trans hf
structure TupBox (w0 W:World) (nb:Nat) (u0 u3:Value) (f t:Int) (vs:List Val) (ls:List Int):Prop where
 c0:W.cell? ⟨nb,0,none⟩=some u0
 c1:W.cell? ⟨nb,1,none⟩=some (.int .i64 f)
 c2:W.cell? ⟨nb,2,none⟩=some (.int .i64 t)
 c3:W.cell? ⟨nb,3,none⟩=some u3
 sv:SliceOf Rep.val (on W (fun k=>k≠nb∧w0.heap.size≤k)) u0 vs
 sl:SliceOf Rep.int (on W (fun k=>k≠nb∧w0.heap.size≤k)) u3 ls
 ext:Ext w0 W
 lo:w0.heap.size≤nb
theorem slice_end2 {α:Type} {R:Rep α} {w2 w3:World} {B N:Nat} {u0 u1 u2 u3 v:Value} {T:Nat→Prop} {xs:List α} (s2:SliceOf R (on w2 T) v xs) (hT : ∀k,k<w2.heap.size→T k→k≠B∧N≤k) (hx:Ext w2 w3) :
  SliceOf R (on ((((w3.setCell ⟨B,0,none⟩ u0).setCell ⟨B,1,none⟩ u1).setCell ⟨B,2,none⟩ u2).setCell ⟨B,3,none⟩ u3) (fun k=>k≠B∧N≤k)) v xs :=
 s2.ext (((on_mono w2 (T:=fun k=>k≠B∧N≤k) hT).trans (hx.sub _)).trans (sub4 w3 u0 u1 u2 u3 (fun h=>h.1 rfl)))
section
variable {w0 w1 w4:World} {u0 u3:Value} {f t:Int} {vs:List Val} {ls:List Int} {z0 z1 z2 z3:Value} {T:TypeId}
theorem free_new (w:World):Free4 (w.alloc (.cells #[z0,z1,z2,z3] T)) w.heap.size:=by
 refine⟨⟨z0,?_⟩,⟨z1,?_⟩,⟨z2,?_⟩,⟨z3,?_⟩,?_,?_,?_,?_⟩ <;> go_simp
theorem box_before (h0:Ext w0 w1) (hx:Ext (w1.alloc (.cells #[z0,z1,z2,z3] T)).drew w4) (sv:SliceOf Rep.val (on w4 (since (w1.alloc (.cells #[z0,z1,z2,z3] T)).drew)) u0 vs) (sl:SliceOf Rep.int (on w4 (since (w1.alloc (.cells #[z0,z1,z2,z3] T)).drew)) u3 ls) :
  TupBox w0 ((((w4.setCell ⟨w1.heap.size,0,none⟩ u0).setCell ⟨w1.heap.size,1,none⟩ (.int .i64 f)).setCell ⟨w1.heap.size,2,none⟩ (.int .i64 t)).setCell ⟨w1.heap.size,3,none⟩ u3) w1.heap.size u0 u3 f t vs ls:=by
 have hz:(w1.alloc (.cells #[z0,z1,z2,z3] T)).drew.heap.size=w1.heap.size+1:=by simp
 have hT : ∀k,k<w4.heap.size→since (w1.alloc (.cells #[z0,z1,z2,z3] T)).drew k→k≠w1.heap.size∧w0.heap.size≤k:=fun k _ hk=>by
  have hk:(w1.alloc (.cells #[z0,z1,z2,z3] T)).drew.heap.size≤k:=hk
  rw [hz]at hk
  have:=h0.size
  omega
 have hF:Free4 w4 w1.heap.size:=(Free4.ext (free_new w1) (Ext.refl _).drew).ext hx
 obtain⟨g0,g1,g2,g3⟩:=set4_read hF u0 (.int .i64 f) (.int .i64 t) u3
 exact⟨g0,g1,g2,g3,slice_end2 sv hT (Ext.refl _),slice_end2 sl hT (Ext.refl _),ext_W4 (((h0.alloc _).drew).trans hx) h0.size _ _ _ _,h0.size⟩
theorem box_after (h0:Ext w0 w1) (hx:Ext w1 w4) (sv:SliceOf Rep.val (on w4 (since w1)) u0 vs) (sl:SliceOf Rep.int (on w4 (since w1)) u3 ls) :
  TupBox w0 (((((w4.alloc (.cells #[z0,z1,z2,z3] T)).setCell ⟨w4.heap.size,0,none⟩ u0).setCell ⟨w4.heap.size,1,none⟩ (.int .i64 f)).setCell ⟨w4.heap.size,2,none⟩ (.int .i64 t)).setCell ⟨w4.heap.size,3,none⟩ u3) w4.heap.size u0 u3 f t vs ls:=by
 have hT : ∀k,k<w4.heap.size→since w1 k→k≠w4.heap.size∧w0.heap.size≤k:=fun k h hk=>by
  have hk:w1.heap.size≤k:=hk
  have:=h0.size
  omega
 obtain⟨g0,g1,g2,g3⟩:=set4_read (free_new (z0:=z0) (z1:=z1) (z2:=z2) (z3:=z3) (T:=T) w4) u0 (.int .i64 f) (.int .i64 t) u3
 have h4:=h0.trans hx
 exact⟨g0,g1,g2,g3,slice_end2 sv hT ((Ext.refl _).alloc _),slice_end2 sl hT ((Ext.refl _).alloc _),ext_W4 (h4.alloc _) h4.size _ _ _ _,h4.size⟩
theorem box_alloc (h0:Ext w0 w1) (hx:Ext w1 w4) (sv:SliceOf Rep.val (on w4 (since w1)) u0 vs) (sl:SliceOf Rep.int (on w4 (since w1)) u3 ls) :
  TupBox w0 (w4.alloc (.cells #[u0,.int .i64 f,.int .i64 t,u3] T)) w4.heap.size u0 u3 f t vs ls:=by
 have hT : ∀k,k<w4.heap.size→since w1 k→k≠w4.heap.size∧w0.heap.size≤k:=fun k h hk=>by
  have hk:w1.heap.size≤k:=hk
  have:=h0.size
  omega
 have h4:=h0.trans hx
 have x5:Ext w4 (w4.alloc (.cells #[u0,.int .i64 f,.int .i64 t,u3] T)):=(Ext.refl _).alloc _
 refine⟨?_,?_,?_,?_,sv.ext ((on_mono w4 hT).trans (x5.sub _)),sl.ext ((on_mono w4 hT).trans (x5.sub _)),h4.trans x5,h4.size⟩ <;> go_simp
end
end Go.Proofs.YtkddkbpoefidpaaGreatDoor
