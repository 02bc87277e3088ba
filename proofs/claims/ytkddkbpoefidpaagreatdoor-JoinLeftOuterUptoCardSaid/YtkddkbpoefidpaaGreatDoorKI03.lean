/- joined texts of a proof: BagK, ShelfB, BagL, BagS, Step -/
import Derived.Test.YtkddkbpoefidpaaGreatDoorKI02
import Derived.IntWalk
import Derived.Shelf.Spec.SlicesGrow
import Derived.Ground.Names8Prog
import Derived.Test.YtkddkbpoefidpaaGreatDoorProg
import Derived.Sort.OwnSortedInts
import Derived.Lib.OwnBridge
import Derived.Lib.SlicesCompact
import Derived.Test.YtkddkbpoefidpaaGreatDoorKI01
import Derived.Deep.RegionLaw
namespace Go.Proofs.YtkddkbpoefidpaaGreatDoor
open Go.RowKit
theorem RepAll.flatten_take {α:Type} {R:Rep α} {w:View} {css:List (List Value)} {xs:List α} (h:RepAll R w css xs) (k:Nat):(css.take k).flatten=css.flatten.take (k*R.size):=by
 induction css generalizing xs k with
 |nil=>simp
 |cons c css ih=>cases xs with
  |nil=>exact h.elim
  |cons x xs=>cases k with
   |zero=>simp
   |succ k =>
    have hc:=R.len h.1
    rw [List.take_succ_cons,List.flatten_cons,List.flatten_cons,ih h.2,List.take_append,hc,Nat.succ_mul,List.take_of_length_le (l:=c) (by rw [hc];omega),Nat.add_sub_cancel]
theorem RepAll.flatten_drop {α:Type} {R:Rep α} {w:View} {css:List (List Value)} {xs:List α} (h:RepAll R w css xs) (k:Nat):(css.drop k).flatten=css.flatten.drop (k*R.size):=by
 induction css generalizing xs k with
 |nil=>simp
 |cons c css ih=>cases xs with
  |nil=>exact h.elim
  |cons x xs=>cases k with
   |zero=>simp
   |succ k =>
    have hc:=R.len h.1
    rw [List.drop_succ_cons,List.flatten_cons,ih h.2,List.drop_append,hc,Nat.succ_mul,List.drop_of_length_le (l:=c) (by rw [hc];omega),Nat.add_sub_cancel,List.nil_append]
theorem SliceOf.takeV {α:Type} {R:Rep α} {w:View} {b o cap n:Nat} {xs:List α} (h:SliceOf R w (.slice (some ⟨b,o,none⟩) n cap) xs) (k:Nat) (hk:k≤xs.length) :
  SliceOf R w (.slice (some ⟨b,o,none⟩) k cap) (xs.take k):=by
 obtain⟨css,h1,h2⟩:=h
 refine⟨css.take k,h1.take k,?_⟩
 have hl:(xs.take k).length=k:=by simp;omega
 rw [hl,h1.flatten_take]
 rcases h2 with ⟨he,_⟩ | ⟨ad,c,he,g1,g2,g3⟩
 ·cases he
 ·injection he with e1 e2 e3
  injection e1 with e1
  subst e1 e2 e3
  refine .inr ⟨_,cap,rfl,by omega,g2,?_⟩
  rcases g3 with g3 | ⟨b',o',ha,g3⟩
  ·exact .inl (by rw [g3];simp)
  ·refine .inr ⟨b',o',ha,fun j u hj=> ?_⟩
   rw [List.getElem?_take]at hj
   split at hj
   ·exact g3 j u hj
   ·cases hj
theorem SliceOf.dropV {α:Type} {R:Rep α} {w:View} {b o cap n:Nat} {xs:List α} (h:SliceOf R w (.slice (some ⟨b,o,none⟩) n cap) xs) (k:Nat) (hk:k≤xs.length) :
  SliceOf R w (.slice (some ⟨b,o+k*R.size,none⟩) (xs.length - k) (cap - k)) (xs.drop k):=by
 obtain⟨css,h1,h2⟩:=h
 refine⟨css.drop k,h1.drop k,?_⟩
 rw [List.length_drop,h1.flatten_drop]
 rcases h2 with ⟨he,_⟩ | ⟨ad,c,he,g1,g2,g3⟩
 ·cases he
 ·injection he with e1 e2 e3
  injection e1 with e1
  subst e1 e2 e3
  refine .inr ⟨_,cap - k,rfl,by omega,by omega,?_⟩
  rcases g3 with g3 | ⟨b',o',ha,g3⟩
  ·exact .inl (by rw [g3];simp)
  ·injection ha with ha1 ha2
   subst ha1 ha2
   refine .inr ⟨b,_,rfl,fun j u hj=> ?_⟩
   rw [List.getElem?_drop]at hj
   rw [Nat.add_assoc]
   exact g3 _ u hj
def mergeBy {α:Type} (c:α→α→Int) (l l':List α):List α:=List.merge l l' fun a b=>decide (c a b≤0)
theorem sort_halves {α:Type} {c:α→α→Int} (h:Ord3 c) (l:List α) (k:Nat):mergeBy c (sortBy c (l.take k)) (sortBy c (l.drop k))=sortBy c l:=by
 have hle : ∀a b:α,(decide (c a b≤0)=true↔c a b≤0):=fun a b=>by simp
 refine sortBy_unique h ?_ ?_
 ·refine(List.merge_perm_append _).trans ?_
  refine((sortBy_perm c _).append (sortBy_perm c _)).trans ?_
  rw [List.take_append_drop]
 ·have:=List.pairwise_merge (le:=fun a b=>decide (c a b≤0)) (fun a b d h1 h2=>by simp only [decide_eq_true_eq]at *;exact h.le_tr a b d h1 h2)
   (fun a b=>by simp only [Bool.or_eq_true,decide_eq_true_eq];exact h.le_total a b) (sortBy c (l.take k)) (sortBy c (l.drop k)) ((sortBy_pair h _).imp (by simp)) ((sortBy_pair h _).imp (by simp))
  exact this.imp (by simp)
theorem merge_left {α:Type} (c:α→α→Int) (l l':List α) (i j:Nat) (hi:i<l.length) (h : ∀hj:j<l'.length,c l[i] l'[j]≤0) :
  mergeBy c (l.drop i) (l'.drop j)=l[i]::mergeBy c (l.drop (i+1)) (l'.drop j):=by
 unfold mergeBy
 rw [List.drop_eq_getElem_cons hi]
 by_cases hj:j<l'.length
 ·rw [List.drop_eq_getElem_cons hj,List.cons_merge_cons,if_pos (by simpa using h hj)]
 ·have e:l'.drop j = []:=List.drop_eq_nil_of_le (by omega)
  rw [e]
  simp
theorem merge_right {α:Type} (c:α→α→Int) (l l':List α) (i j:Nat) (hj:j<l'.length) (h : ∀hi:i<l.length,¬c l[i] l'[j]≤0) :
  mergeBy c (l.drop i) (l'.drop j)=l'[j]::mergeBy c (l.drop i) (l'.drop (j+1)):=by
 unfold mergeBy
 rw [List.drop_eq_getElem_cons hj]
 by_cases hi:i<l.length
 ·rw [List.drop_eq_getElem_cons hi,List.cons_merge_cons,if_neg (by simpa using h hi)]
 ·have e:l.drop i = []:=List.drop_eq_nil_of_le (by omega)
  rw [e]
  simp
theorem old_avoid {α:Type} {R:Rep α} {W w':World} {S:Nat→Prop} {e:TypeId} {v:Value} {xs:List α} (hb:Below W.heap.size W w') (hown:OwnOf R w' S W.heap.size e v xs) :
  Sub (on W (fun k=>k<W.heap.size)) (on w' (avoid (fun k=>k<W.heap.size) v)) :=
 (below_sub hb fun _ h=>h).trans (on_mono _ fun k _ hk=>⟨fun he=>by have:=(hown.lt k he.symm).1;omega,hk⟩)
theorem full_nil (w:World):Sub w.cell? (on w (avoid (fun _=>True) (.slice none 0 0))):=full_on _ _ fun k _=>⟨by simp [Value.ownBlock],trivial⟩
theorem sortBy_short {α:Type} (c:α→α→Int) (l:List α) (h:l.length<2):sortBy c l=l:=by
 match l,h with
 |[],_=>simp [sortBy]
 |[a],_=>simp [sortBy]
set_option maxRecDepth 100000 in
set_option maxHeartbeats 2000000 in
theorem ref_sort_step (l:List Row) (hl:l.length≤1048576)
  (ih : ∀(l':List Row) (v:Value) (w:World),SliceOf Rep.row w.cell? v l'→l'.length<l.length→Calls Tryz.prog 88 #[v] w fun e w'=> ∃v',e = .returned v'∧SliceOf Rep.row w'.cell? v' (sortBy cmpRow l')∧Ext w w')
  (v:Value) (w:World) (hv:SliceOf Rep.row w.cell? v l) :
  Calls Tryz.prog 88 #[v] w fun e w'=> ∃v',e = .returned v'∧SliceOf Rep.row w'.cell? v' (sortBy cmpRow l)∧Ext w w':=by
 obtain⟨i0,hi,hz0,hz1,hz2⟩:=info_parts infoRow
 obtain⟨pa,ca,rfl,ha1,ha2,ha3⟩:=hv.form
 have HV:=Lib.hid hv
 unfold maxLen at ha2
 go_enter Tryz.func88,Tryz.ntmps88
 by_cases h2:l.length<2
 ·have hd:decide ((l.length:Int)<2)=true:=by simp;omega
  have hs:=sortBy_short cmpRow l h2
  have HS:=Lib.hid hs
  clear hv ha3 hs
  go_wp2_with (at_builtin;refine wpList_append_all Rep.row (fun _=>True) rfl _ _ 52 rfl w.heap.size 70 i0 _ 48 Tryz.underlying52 hi hz0 hz1 hz2 rfl (by decide) _ [] rfl (OwnOf.nil _ _ _ _ _) _ l rfl (HV.out.ext (full_nil w)) ?c1 ?c2 ?c3 ?_)
  case c1=>simp [maxLen];omega
  case c2=>simp;omega
  case c3=>exact Nat.le_refl _
  intro v' w1 hown hgr _
  go_wp2_with fail
  go_ret
  exact⟨v',rfl,by rw [HS.out];simpa using hown.slice,Below.grown (Ext.refl w) hgr (Nat.le_refl _) (fun k hk=>by simp [Value.ownBlock]at hk)⟩
 ·have hd:decide ((l.length:Int)<2)=false:=by simp;omega
  obtain⟨ba,oa,rfl⟩:=ha3 (by decide) (by omega)
  have h1:=HV.out.takeV (l.length / 2) (by omega)
  have h2:SliceOf Rep.row w.cell? (.slice (some ⟨ba,oa+l.length / 2*2,none⟩) (l.length - l.length / 2) (ca - l.length / 2)) (l.drop (l.length / 2)):=HV.out.dropV (l.length / 2) (by omega)
  have HS:=Lib.hid (sort_halves ord_row l (l.length / 2))
  have H1:=Lib.hid h1
  have H2:=Lib.hid h2
  have hl1:(l.take (l.length / 2)).length<l.length:=by simp;omega
  have hl2:(l.drop (l.length / 2)).length<l.length:=by simp;omega
  have hxr:=Ext.refl w
  generalize hm:l.length / 2=m at h1 h2 HS H1 H2 hl1 hl2
  have hq1:(l.length:Int).tdiv 2=(m:Int):=by rw [Int.tdiv_eq_ediv_of_nonneg (by omega)];omega
  have hq2:(l.length:Int) / 2=(m:Int):=by omega
  have hq3:IntKind.i64.wrap (m:Int)=(m:Int):=Go.IntWalk.i64_in _ (by omega)
  have hq4:IntKind.i64.wrap ((l.length:Int).tdiv 2)=(m:Int):=by rw [hq1,hq3]
  have hm1:(0:Int)≤(m:Int):=by omega
  have hm2:(m:Int)≤(l.length:Int):=by omega
  have hm3:(m:Int)≤(ca:Int):=by omega
  clear hv ha3 h1 h2 hm
  go_wp2_with fail
  go_region_held3 (fun w'=>Ext w w')
   (first |exact hxr.drew | assumption | exact Ext.trans (by assumption) hxA | exact Ext.trans (by assumption) hxB)
   (first |(go_at_call 88;refine(ih (l.take m) _ _ (by with_reducible exact H1.out.ext (‹Ext w _›).full) hl1).mono ?_;rintro e wA ⟨vA,rfl,sA,hxA⟩) | (go_at_call 88;refine(ih (l.drop m) _ _ (by with_reducible exact H2.out.ext (‹Ext w _›).full) hl2).mono ?_;rintro e wB ⟨vB,rfl,sB,hxB⟩))
  all_goals (first
   |(have tA:=sA.ext hxB.full;have tB:=sB.ext (Sub.refl _))
   |(have tB:=sB.ext hxA.full;have tA:=sA.ext (Sub.refl _)))
  all_goals (have hx0:= ‹Ext w _›)
  all_goals clear sA sB hxA hxB
  obtain⟨a1,k1,rfl,hA1,hA2,hA3⟩:=tA.form
  obtain⟨a2,k2,rfl,hB1,hB2,hB3⟩:=tB.form
  have hla:(sortBy cmpRow (l.take m)).length+(sortBy cmpRow (l.drop m)).length=l.length:=by rw [sortBy_length,sortBy_length];simp;omega
  generalize sortBy cmpRow (l.take m)=la at *
  generalize sortBy cmpRow (l.drop m)=lb at *
  have A0:=Lib.hid (tA.ext (full_on _ (fun k=>k<wB.heap.size) fun k hk=>hk))
  have B0:=Lib.hid (tB.ext (full_on _ (fun k=>k<wB.heap.size) fun k hk=>hk))
  unfold maxLen at hA2 hB2
  clear tA tB
  go_wp2_with fail
  go_loopg [5,6,7] (la.length+lb.length) (fun gk out i j wr=> ∃p q:Nat,p≤la.length∧q≤lb.length∧gk=(la.length - p)+(lb.length - q)∧i = .int .i64 p∧j = .int .i64 q∧(∃xs,xs.length=p+q∧OwnOf Rep.row wr (fun k=>k<wB.heap.size) wB.heap.size 70 out xs∧xs++mergeBy cmpRow (la.drop p) (lb.drop q)=sortBy cmpRow l)∧Below wB.heap.size wB wr)
  case atStart=>exact⟨0,0,by omega,by omega,by omega,rfl,rfl,⟨[],rfl,OwnOf.nil _ _ _ _ _,by simpa using HS.out⟩,Below.refl _ _⟩
  case round =>
   obtain⟨p,q,hpl,hql,rfl,rfl,rfl,⟨xs,hxs,hown,hxm⟩,hbw⟩:=hrel
   have HO:=Lib.hid hown
   have HX:=Lib.hid hxm
   clear hown hxm
   by_cases hp:p<la.length
   ·by_cases hq:q<lb.length
    ·obtain⟨b1,o1,rfl⟩:=hA3 (by decide) (by omega)
     obtain⟨u1,u2,c1,c2,s1,s2⟩:=row_at A0.out p hp
     replace c1:=(on_some.1 (below_sub hbw (fun _ h=>h) _ _ c1)).2
     replace c2:=(on_some.1 (below_sub hbw (fun _ h=>h) _ _ c2)).2
     obtain⟨b2,o2,rfl⟩:=hB3 (by decide) (by omega)
     obtain⟨v1,v2,d1,d2,t1,t2⟩:=row_at B0.out q hq
     replace d1:=(on_some.1 (below_sub hbw (fun _ h=>h) _ _ d1)).2
     replace d2:=(on_some.1 (below_sub hbw (fun _ h=>h) _ _ d2)).2
     have hmL:cmpRow la[p] lb[q]≤0→_:=fun h=>merge_left cmpRow la lb p q hp (fun _=>h)
     have hmR : ¬cmpRow la[p] lb[q]≤0→_:=fun h=>merge_right cmpRow la lb p q hq (fun _=>h)
     have hd1:decide ((p:Int)<(la.length:Int))=true:=by simp;omega
     have hd2:((q:Int)==(lb.length:Int))=false:=by simp;omega
     have hd3:(p:Int)<(la.length:Int):=by omega
     have hd4:(q:Int)<(lb.length:Int):=by omega
     have hsv:Sub (on wB (fun k=>k<wB.heap.size)) wr.cell?:=(below_sub hbw (fun _ h=>h)).trans (on_sub _ _)
     generalize la[p]=x at s1 s2 hmL hmR
     generalize lb[q]=y at t1 t2 hmL hmR
     have S1:=Lib.hid s1
     have S2:=Lib.hid s2
     obtain⟨p1,q1,rfl,_⟩:=s1.form
     obtain⟨p2,q2,rfl,_⟩:=s2.form
     clear s1 s2
     have T1:=Lib.hid t1
     have T2:=Lib.hid t2
     obtain⟨p3,q3,rfl,_⟩:=t1.form
     obtain⟨p4,q4,rfl,_⟩:=t2.form
     clear t1 t2
     by_cases hc:cmpRow x y≤0
     ·have hm:=hmL hc
      have hb:decide (cmpRow y x<0)=false:=by have:=ord_row.anti x y;simp;omega
      have HM:=Lib.hid hm
      have HB:=Lib.hid hb
      clear hm hmL hmR hc hb
      have hxr:=Gro.refl wr
      go_wp2_with fail
      go_region_held3 (fun w'=>Gro wr w'∧w'.cell? ⟨b1,o1+p*2,none⟩=some (.slice p1 x.vals.length q1)∧w'.cell? ⟨b1,o1+p*2+1,none⟩=some (.slice p2 x.lin.length q2)∧w'.cell? ⟨b2,o2+q*2,none⟩=some (.slice p3 y.vals.length q3)∧w'.cell? ⟨b2,o2+q*2+1,none⟩=some (.slice p4 y.lin.length q4))
       (first |exact⟨hxr.drew,c1,c2,d1,d2⟩ | assumption | exact keepG4 (by assumption) hx2)
       (first |(go_at_call 143;refine(ref_less _ _ _ _ y x _ (by exact T1.out.ext ((hsv).trans (And.left ‹Gro wr _∧_›).ext.full)) (by exact S1.out.ext ((hsv).trans (And.left ‹Gro wr _∧_›).ext.full)) (by exact T2.out.ext ((hsv).trans (And.left ‹Gro wr _∧_›).ext.full)) (by exact S2.out.ext ((hsv).trans (And.left ‹Gro wr _∧_›).ext.full))).mono ?_;rintro e w2 ⟨rfl,hx2⟩))
      all_goals (obtain⟨hfin,_⟩:= ‹Gro wr _∧_›)
      all_goals clear hxr
      all_goals clear d1 d2
      all_goals rw [HB.out]
      all_goals (
       replace c1:=hfin.at c1
       replace c2:=hfin.at c2
       have HO2:=Lib.hid (HO.out.ext hfin.ext)
       have hbw2:=Below.trans hbw (hfin.ext.mono hbw.size)
       clear hfin
       go_wp2_with (at_builtin;refine wpList_append_one Rep.row (fun k=>k<wB.heap.size) rfl _ _ 52 rfl wB.heap.size 70 i0 _ 48 Tryz.underlying52 hi hz0 hz1 hz2 rfl (by decide) _ xs rfl (HO2.out.ext ((Ext.refl _).alloc _)) ⟨_,0,none⟩ 1 x [.slice p1 x.vals.length q1,.slice p2 x.lin.length q2] rfl ?c1 ?c2 ?c3 ?c4 ?c5 ?_)
       case c1 =>
            have hs:=old_avoid (Below.alloc hbw2 hbw2.size (.cells #[.slice p1 x.vals.length q1,.slice p2 x.lin.length q2] 70)) (HO2.out.ext ((Ext.refl _).alloc _))
            exact⟨_,_,rfl,S1.out.ext hs,S2.out.ext hs⟩
       case c2=>exact cells_new _ [.slice p1 x.vals.length q1,.slice p2 x.lin.length q2] _
       case c3=>rw [hxs];unfold maxLen;omega
       case c4=>rw [hxs];omega
       case c5=>have:=hbw2.size;(try simp at this);simp;omega
       intro g cap w3 hown3 hgr _
       go_wp2_with fail
       go_roundg ((la.length - p)+(lb.length - q) - 1)
       case measure=>omega
       case rel =>
            refine⟨p+1,q,by omega,by omega,by omega,by go_num,rfl,⟨xs ++ [x],by simp;omega,hown3,by rw [←HX.out,HM.out];simp⟩,?_⟩
            exact Below.grown (Below.alloc hbw2 hbw2.size _) hgr (by have:=hbw2.size;(try simp at this);simp;omega) (fun j hj=>(HO2.out.lt j hj).1))
     ·have hm:=hmR hc
      have hb:decide (cmpRow y x<0)=true:=by have:=ord_row.anti x y;simp;omega
      have HM:=Lib.hid hm
      have HB:=Lib.hid hb
      clear hm hmL hmR hc hb
      have hxr:=Gro.refl wr
      go_wp2_with fail
      go_region_held3 (fun w'=>Gro wr w'∧w'.cell? ⟨b1,o1+p*2,none⟩=some (.slice p1 x.vals.length q1)∧w'.cell? ⟨b1,o1+p*2+1,none⟩=some (.slice p2 x.lin.length q2)∧w'.cell? ⟨b2,o2+q*2,none⟩=some (.slice p3 y.vals.length q3)∧w'.cell? ⟨b2,o2+q*2+1,none⟩=some (.slice p4 y.lin.length q4))
       (first |exact⟨hxr.drew,c1,c2,d1,d2⟩ | assumption | exact keepG4 (by assumption) hx2)
       (first |(go_at_call 143;refine(ref_less _ _ _ _ y x _ (by exact T1.out.ext ((hsv).trans (And.left ‹Gro wr _∧_›).ext.full)) (by exact S1.out.ext ((hsv).trans (And.left ‹Gro wr _∧_›).ext.full)) (by exact T2.out.ext ((hsv).trans (And.left ‹Gro wr _∧_›).ext.full)) (by exact S2.out.ext ((hsv).trans (And.left ‹Gro wr _∧_›).ext.full))).mono ?_;rintro e w2 ⟨rfl,hx2⟩))
      all_goals (obtain⟨hfin,_⟩:= ‹Gro wr _∧_›)
      all_goals clear hxr
      all_goals clear c1 c2
      all_goals rw [HB.out]
      all_goals (
       replace d1:=hfin.at d1
       replace d2:=hfin.at d2
       have HO2:=Lib.hid (HO.out.ext hfin.ext)
       have hbw2:=Below.trans hbw (hfin.ext.mono hbw.size)
       clear hfin
       go_wp2_with (at_builtin;refine wpList_append_one Rep.row (fun k=>k<wB.heap.size) rfl _ _ 52 rfl wB.heap.size 70 i0 _ 48 Tryz.underlying52 hi hz0 hz1 hz2 rfl (by decide) _ xs rfl (HO2.out.ext ((Ext.refl _).alloc _)) ⟨_,0,none⟩ 1 y [.slice p3 y.vals.length q3,.slice p4 y.lin.length q4] rfl ?c1 ?c2 ?c3 ?c4 ?c5 ?_)
       case c1 =>
            have hs:=old_avoid (Below.alloc hbw2 hbw2.size (.cells #[.slice p3 y.vals.length q3,.slice p4 y.lin.length q4] 70)) (HO2.out.ext ((Ext.refl _).alloc _))
            exact⟨_,_,rfl,T1.out.ext hs,T2.out.ext hs⟩
       case c2=>exact cells_new _ [.slice p3 y.vals.length q3,.slice p4 y.lin.length q4] _
       case c3=>rw [hxs];unfold maxLen;omega
       case c4=>rw [hxs];omega
       case c5=>have:=hbw2.size;(try simp at this);simp;omega
       intro g cap w3 hown3 hgr _
       go_wp2_with fail
       go_roundg ((la.length - p)+(lb.length - q) - 1)
       case measure=>omega
       case rel =>
            refine⟨p,q+1,by omega,by omega,by omega,rfl,by go_num,⟨xs ++ [y],by simp;omega,hown3,by rw [←HX.out,HM.out];simp⟩,?_⟩
            exact Below.grown (Below.alloc hbw2 hbw2.size _) hgr (by have:=hbw2.size;(try simp at this);simp;omega) (fun j hj=>(HO2.out.lt j hj).1))
    ·obtain⟨b1,o1,rfl⟩:=hA3 (by decide) (by omega)
     obtain⟨u1,u2,c1,c2,s1,s2⟩:=row_at A0.out p hp
     replace c1:=(on_some.1 (below_sub hbw (fun _ h=>h) _ _ c1)).2
     replace c2:=(on_some.1 (below_sub hbw (fun _ h=>h) _ _ c2)).2
     have hm:=merge_left cmpRow la lb p q hp (fun h=>absurd h hq)
     have hql:q=lb.length:=by omega
     have hd1:decide ((p:Int)<(la.length:Int))=true:=by simp;omega
     have hd2:((q:Int)==(lb.length:Int))=true:=by simp;omega
     have hd3:(p:Int)<(la.length:Int):=by omega
     generalize la[p]=x at s1 s2 hm
     have S1:=Lib.hid s1
     have S2:=Lib.hid s2
     obtain⟨p1,q1,rfl,_⟩:=s1.form
     obtain⟨p2,q2,rfl,_⟩:=s2.form
     clear s1 s2
     clear hql
     have HM:=Lib.hid hm
     clear hm
     go_wp2_with fail
     go_quiet (fail)
     all_goals (have hfin:=(Gro.refl wr).drewN nq)
     all_goals (
      replace c1:=hfin.at c1
      replace c2:=hfin.at c2
      have HO2:=Lib.hid (HO.out.ext hfin.ext)
      have hbw2:=Below.trans hbw (hfin.ext.mono hbw.size)
      clear hfin
      go_wp2_with (at_builtin;refine wpList_append_one Rep.row (fun k=>k<wB.heap.size) rfl _ _ 52 rfl wB.heap.size 70 i0 _ 48 Tryz.underlying52 hi hz0 hz1 hz2 rfl (by decide) _ xs rfl (HO2.out.ext ((Ext.refl _).alloc _)) ⟨_,0,none⟩ 1 x [.slice p1 x.vals.length q1,.slice p2 x.lin.length q2] rfl ?c1 ?c2 ?c3 ?c4 ?c5 ?_)
      case c1 =>
       have hs:=old_avoid (Below.alloc hbw2 hbw2.size (.cells #[.slice p1 x.vals.length q1,.slice p2 x.lin.length q2] 70)) (HO2.out.ext ((Ext.refl _).alloc _))
       exact⟨_,_,rfl,S1.out.ext hs,S2.out.ext hs⟩
      case c2=>exact cells_new _ [.slice p1 x.vals.length q1,.slice p2 x.lin.length q2] _
      case c3=>rw [hxs];unfold maxLen;omega
      case c4=>rw [hxs];omega
      case c5=>have:=hbw2.size;(try simp at this);simp;omega
      intro g cap w3 hown3 hgr _
      go_wp2_with fail
      go_roundg ((la.length - p)+(lb.length - q) - 1)
      case measure=>omega
      case rel =>
       refine⟨p+1,q,by omega,by omega,by omega,by go_num,rfl,⟨xs ++ [x],by simp;omega,hown3,by rw [←HX.out,HM.out];simp⟩,?_⟩
       exact Below.grown (Below.alloc hbw2 hbw2.size _) hgr (by have:=hbw2.size;(try simp at this);simp;omega) (fun j hj=>(HO2.out.lt j hj).1))
   ·by_cases hq:q<lb.length
    ·obtain⟨b2,o2,rfl⟩:=hB3 (by decide) (by omega)
     obtain⟨v1,v2,d1,d2,t1,t2⟩:=row_at B0.out q hq
     replace d1:=(on_some.1 (below_sub hbw (fun _ h=>h) _ _ d1)).2
     replace d2:=(on_some.1 (below_sub hbw (fun _ h=>h) _ _ d2)).2
     have hm:=merge_right cmpRow la lb p q hq (fun h=>absurd h hp)
     have hd1:decide ((p:Int)<(la.length:Int))=false:=by simp;omega
     have hd5:decide ((q:Int)<(lb.length:Int))=true:=by simp;omega
     have hd2:((q:Int)==(lb.length:Int))=false:=by simp;omega
     have hd4:(q:Int)<(lb.length:Int):=by omega
     generalize lb[q]=y at t1 t2 hm
     have T1:=Lib.hid t1
     have T2:=Lib.hid t2
     obtain⟨p3,q3,rfl,_⟩:=t1.form
     obtain⟨p4,q4,rfl,_⟩:=t2.form
     clear t1 t2
     have HM:=Lib.hid hm
     clear hm
     go_wp2_with fail
     go_quiet (fail)
     all_goals (have hfin:=(Gro.refl wr).drewN nq)
     all_goals (
      replace d1:=hfin.at d1
      replace d2:=hfin.at d2
      have HO2:=Lib.hid (HO.out.ext hfin.ext)
      have hbw2:=Below.trans hbw (hfin.ext.mono hbw.size)
      clear hfin
      go_wp2_with (at_builtin;refine wpList_append_one Rep.row (fun k=>k<wB.heap.size) rfl _ _ 52 rfl wB.heap.size 70 i0 _ 48 Tryz.underlying52 hi hz0 hz1 hz2 rfl (by decide) _ xs rfl (HO2.out.ext ((Ext.refl _).alloc _)) ⟨_,0,none⟩ 1 y [.slice p3 y.vals.length q3,.slice p4 y.lin.length q4] rfl ?c1 ?c2 ?c3 ?c4 ?c5 ?_)
      case c1 =>
       have hs:=old_avoid (Below.alloc hbw2 hbw2.size (.cells #[.slice p3 y.vals.length q3,.slice p4 y.lin.length q4] 70)) (HO2.out.ext ((Ext.refl _).alloc _))
       exact⟨_,_,rfl,T1.out.ext hs,T2.out.ext hs⟩
      case c2=>exact cells_new _ [.slice p3 y.vals.length q3,.slice p4 y.lin.length q4] _
      case c3=>rw [hxs];unfold maxLen;omega
      case c4=>rw [hxs];omega
      case c5=>have:=hbw2.size;(try simp at this);simp;omega
      intro g cap w3 hown3 hgr _
      go_wp2_with fail
      go_roundg ((la.length - p)+(lb.length - q) - 1)
      case measure=>omega
      case rel =>
       refine⟨p,q+1,by omega,by omega,by omega,rfl,by go_num,⟨xs ++ [y],by simp;omega,hown3,by rw [←HX.out,HM.out];simp⟩,?_⟩
       exact Below.grown (Below.alloc hbw2 hbw2.size _) hgr (by have:=hbw2.size;(try simp at this);simp;omega) (fun j hj=>(HO2.out.lt j hj).1))
    ·have hd1:decide ((p:Int)<(la.length:Int))=false:=by simp;omega
     have hd5:decide ((q:Int)<(lb.length:Int))=false:=by simp;omega
     have hfn:xs=sortBy cmpRow l:=by
      have e1:la.drop p = []:=List.drop_eq_nil_of_le (by omega)
      have e2:lb.drop q = []:=List.drop_eq_nil_of_le (by omega)
      rw [←HX.out,e1,e2]
      simp [mergeBy]
     have HN:=Lib.hid hfn
     clear hfn
     go_wp2_with fail
     go_ret
     exact⟨_,rfl,by rw [←HN.out];exact HO.out.slice,Ext.trans hx0 (hbw.mono (Nat.le_refl _))⟩
theorem ref_sort (n:Nat) : ∀(l:List Row),l.length≤n→ ∀(v:Value) (w:World),l.length≤1048576→SliceOf Rep.row w.cell? v l→Calls Tryz.prog 88 #[v] w fun e w'=> ∃v',e = .returned v'∧SliceOf Rep.row w'.cell? v' (sortBy cmpRow l)∧Ext w w':=by
 induction n with
 |zero=>exact fun l hl v w hf hv=>ref_sort_step l hf (fun l' _ _ _ h=>by omega) v w hv
 |succ n ih=>exact fun l hl v w hf hv=>ref_sort_step l hf (fun l' v' w' hv' h=>ih l' (by omega) v' w' (by omega) hv') v w hv
end Go.Proofs.YtkddkbpoefidpaaGreatDoor
namespace Go.Proofs
open Go.Shelf
def Tryz.growInt_ren:Go.Shelf.Ren:=⟨fun | 4=>146 | n=>n,fun | 22=>24 | 25=>3 | 3=>3 | 4=>4 | 9=>9 | 20=>20 | 0=>0 | n=>n,fun | n=>n⟩
theorem Tryz.growInt:Go.Proofs.Lays8.n4 Tryz.prog Tryz.growInt_ren:= {
 mixed:=by kernel_rfl
 f4:=⟨Tryz.f146.name,by decide,Tryz.func146.trans (congrArg some (by kernel_rfl))⟩
 t0:=Tryz.underlying0
 a0:=Tryz.isAgg0
 z0:=Tryz.sizeOf0
 v0:=Tryz.zeroValue0
 t3:=Tryz.underlying3
 a3:=Tryz.isAgg3
 z3:=Tryz.sizeOf3
 v3:=Tryz.zeroValue3
 t4:=Tryz.underlying4
 a4:=Tryz.isAgg4
 z4:=Tryz.sizeOf4
 v4:=Tryz.zeroValue4
 t9:=Tryz.underlying9
 a9:=Tryz.isAgg9
 z9:=Tryz.sizeOf9
 v9:=Tryz.zeroValue9
 t20:=Tryz.underlying20
 a20:=Tryz.isAgg20
 z20:=Tryz.sizeOf20
 v20:=Tryz.zeroValue20
 t22:=Tryz.underlying24
 a22:=Tryz.isAgg24
 z22:=Tryz.sizeOf24
 v22:=Tryz.zeroValue24 }
end Go.Proofs
namespace Go.Proofs.YtkddkbpoefidpaaGreatDoor
open Go.RowKit
def mergeL (l l':List Int):List Int:=Lib.compact ((l++l').mergeSort fun x y=>decide (x≤y))
theorem compactUpTo_law (d:Array Int) (hs : ∀i j,i≤j→j<d.size→d[i]! ≤d[j]!) (m:Nat) (hm:m≤d.size) :
  (Lib.compactUpTo d m).Pairwise (· < ·)∧ ∀x,x∈Lib.compactUpTo d m↔ ∃j,j<m∧d[j]! = x:=by
 induction m with
 |zero=>simp [Lib.compactUpTo]
 |succ m ih =>
  obtain⟨h1,h2⟩:=ih (by omega)
  rw [Lib.compactUpTo_succ]
  by_cases hk:Lib.keeps d m=true
  ·rw [if_pos hk]
   constructor
   ·rw [List.pairwise_append]
    refine⟨h1,by simp,fun a ha b hb=> ?_⟩
    rw [List.mem_singleton]at hb
    subst hb
    obtain⟨j,hj,rfl⟩:=(h2 a).1 ha
    have h3:=hs j (m - 1) (by omega) (by omega)
    have h4:=hs (m - 1) m (by omega) (by omega)
    have h5:d[m]! ≠d[m - 1]! := fun e=>by
     have:=Lib.keeps_neg (by omega) e
     rw [this]at hk
     cases hk
    omega
   ·intro x
    rw [List.mem_append,h2,List.mem_singleton]
    constructor
    ·rintro(⟨j,hj,e⟩ | e)
     ·exact⟨j,by omega,e⟩
     ·exact⟨m,by omega,e.symm⟩
    ·rintro⟨j,hj,e⟩
     by_cases hjm:j=m
     ·subst hjm;exact .inr e.symm
     ·exact .inl ⟨j,by omega,e⟩
  ·have hk':Lib.keeps d m=false:=by simpa using hk
   rw [if_neg hk,List.append_nil]
   refine⟨h1,fun x=> ?_⟩
   rw [h2]
   have hm0:0<m:=by
    rcases Nat.eq_zero_or_pos m with h | h
    ·subst h;simp [Lib.keeps]at hk'
    ·exact h
   have he:d[m]! = d[m - 1]! := Classical.byContradiction fun e=>by
    have:=Lib.keeps_pos (d:=d) (m:=m) e
    rw [this]at hk'
    cases hk'
   constructor
   ·rintro⟨j,hj,e⟩
    exact⟨j,by omega,e⟩
   ·rintro⟨j,hj,e⟩
    by_cases hjm:j=m
    ·subst hjm;exact⟨j - 1,by omega,by rw [←he];exact e⟩
    ·exact⟨j,by omega,e⟩
theorem compact_law (l:List Int) (hs:l.Pairwise (· ≤ ·)):(Lib.compact l).Pairwise (· < ·)∧ ∀x,x∈Lib.compact l↔x∈l:=by
 have h:=compactUpTo_law l.toArray (fun i j hij hj=>by
  have hj':j<l.length:=by simpa using hj
  rw [getElem!_pos l.toArray i (by simp;omega),getElem!_pos l.toArray j (by simpa using hj)]
  simp only [List.getElem_toArray]
  by_cases e:i=j
  ·subst e;exact Int.le_refl _
  ·exact List.pairwise_iff_getElem.1 hs i j (by omega) (by omega) (by omega)) l.length (by simp)
 refine⟨h.1,fun x=>(h.2 x).trans ?_⟩
 constructor
 ·rintro⟨j,hj,e⟩
  rw [getElem!_pos l.toArray j (by simpa using hj)]at e
  subst e
  simp
 ·intro hx
  obtain⟨j,hj,e⟩:=List.getElem_of_mem hx
  exact⟨j,hj,by rw [getElem!_pos l.toArray j (by simpa using hj)];simpa using e⟩
theorem mergeL_law (l l':List Int):(mergeL l l').Pairwise (· < ·)∧ ∀x,x∈mergeL l l'↔x∈l∨x∈l':=by
 have hs:((l++l').mergeSort fun x y=>decide (x≤y)).Pairwise (· ≤ ·):=by
  have:=List.pairwise_mergeSort (le:=fun x y:Int=>decide (x≤y)) (fun a b c h1 h2=>by simp only [decide_eq_true_eq]at *;omega) (fun a b=>by simp only [Bool.or_eq_true,decide_eq_true_eq];omega) (l++l')
  exact this.imp (by simp)
 obtain⟨h1,h2⟩:=compact_law _ hs
 refine⟨h1,fun x=>(h2 x).trans ?_⟩
 rw [(List.mergeSort_perm _ _).mem_iff,List.mem_append]
theorem asc_unique {l l':List Int} (h:l.Pairwise (· < ·)) (h':l'.Pairwise (· < ·)) (he : ∀x,x∈l↔x∈l'):l=l':=by
 refine List.Perm.eq_of_pairwise (le:=(· < ·)) (fun a b _ _ h1 h2=>by omega) h h' ?_
 exact(List.perm_ext_iff_of_nodup (h.imp fun h=>by omega) (h'.imp fun h=>by omega)).2 he
def inR (l:List Int):Prop:= ∀x∈l,-9223372036854775808≤x∧x≤9223372036854775807
theorem repAll_ints {h:View} {css:List (List Value)} {xs:List Int} (k:RepAll Rep.int h css xs):css.flatten=xs.map (Value.int .i64)∧inR xs:=by
 induction css generalizing xs with
 |nil=>cases xs with
  |nil=>exact⟨rfl,fun x hx=>by cases hx⟩
  |cons x xs=>exact k.elim
 |cons c css ih=>cases xs with
  |nil=>exact k.elim
  |cons x xs =>
   obtain⟨⟨rfl,h1⟩,h2⟩:=k
   obtain⟨h3,h4⟩:=ih h2
   refine⟨by simp [h3],fun y hy=> ?_⟩
   rcases List.mem_cons.1 hy with rfl | hy
   ·exact h1
   ·exact h4 y hy
theorem ints_repAll (h:View) (xs:List Int) (k:inR xs):RepAll Rep.int h (xs.map fun x=> [.int .i64 x]) xs:=by
 induction xs with
 |nil=>trivial
 |cons x xs ih=>exact⟨⟨rfl,k x (by simp)⟩,ih fun y hy=>k y (by simp [hy])⟩
theorem flat_ints (xs:List Int):(xs.map fun x=> [Value.int .i64 x]).flatten=xs.map (Value.int .i64):=by
 induction xs with
 |nil=>rfl
 |cons x xs ih=>simp [ih]
theorem OwnOf.ints {w:World} {S:Nat→Prop} {base:Nat} {e:TypeId} {v:Value} {xs:List Int} (h:OwnOf Rep.int w S base e v xs):w.ownsRow base e 1 v xs.length (xs.map (Value.int .i64))∧inR xs:=by
 obtain⟨css,h1,h2⟩:=h
 obtain⟨h3,h4⟩:=repAll_ints h1
 exact⟨by rw [←h3];exact h2,h4⟩
theorem OwnOf.ofInts {w:World} (S:Nat→Prop) {base:Nat} {e:TypeId} {v:Value} {xs:List Int} (h:w.ownsRow base e 1 v xs.length (xs.map (Value.int .i64))) (hr:inR xs):OwnOf Rep.int w S base e v xs :=
 ⟨_,ints_repAll _ _ hr,by rw [flat_ints];exact h⟩
theorem SliceOf.ints {h:View} {v:Value} {xs:List Int} (k:SliceOf Rep.int h v xs):inR xs:=by
 obtain⟨css,h1,_⟩:=k
 exact(repAll_ints h1).2
theorem grow_ints (S:Nat→Prop) (n:Nat) (w:World) (hn:n≤1099511627776):Calls Tryz.prog 146 #[.slice none 0 0,.int .i64 n] w fun e w'=> ∃v',e = .returned v'∧OwnOf Rep.int w' S w.heap.size 3 v' []∧Ext w w':=by
 obtain⟨i0,hi,hz0,hz1,hz2⟩:=info_parts info_ints
 by_cases h0:n=0
 ·subst h0
  refine(Any8.slices_Grow_room Tryz.growInt none 0 0 0 w (Nat.le_refl _) (by omega) (by omega) (by omega)).mono ?_
  rintro e w' ⟨rfl,rfl⟩
  exact⟨_,rfl,OwnOf.nil _ _ _ _ _,Ext.refl _⟩
 ·refine(Any8.slices_Grow_grow Tryz.growInt i0 _ hi hz0 (by rw [hz1];decide) none 0 0 n [] w (Nat.le_refl _) (by omega) (by rw [hz2];omega) (by omega) (by simp) (fun _=>rfl) (fun a h=>by cases h)).mono ?_
  rintro e w' ⟨rfl,rfl⟩
  have hg:=grownCap_ge w (0+n) 0 (Tryz.growInt_ren.t 25)
  have hg2:=grownCap_le_maxLen w (0+n) 0 (Tryz.growInt_ren.t 25) (by unfold maxLen;omega)
  refine⟨_,rfl,⟨[],trivial,?_⟩,(Ext.refl w).drew.alloc _⟩
  refine World.ownsRow_made w.drew _ _ (Nat.le_refl _) hg2 ?_
  generalize grownCap w (0+n) 0 (Tryz.growInt_ren.t 25)=cap at hg
  rw [show Rep.int.size=1 from rfl]
  simp [size_zeroCells,Value.cells]
  omega
theorem slice_at {α:Type} {R:Rep α} {w:View} {b o n cap:Nat} {xs:List (List α)} (h:SliceOf (Rep.slice R) w (.slice (some ⟨b,o,none⟩) n cap) xs) (i:Nat) (hi:i<xs.length) :
  ∃v,w ⟨b,o+i,none⟩=some v∧SliceOf R w v xs[i]:=by
 obtain⟨c,⟨v,rfl,h1⟩,h2⟩:=h.at i hi
 have:=h2 0 _ rfl
 rw [show (Rep.slice R).size=1 from rfl,Nat.mul_one,Nat.add_zero]at this
 exact⟨v,this,h1⟩
theorem flatten_take {α:Type} (ls:List (List α)) (k:Nat) (h:k<ls.length):(ls.take (k+1)).flatten=(ls.take k).flatten++ls[k]:=by
 rw [List.take_succ_eq_append_getElem h,List.flatten_append];simp only [List.flatten_cons,List.flatten_nil,List.append_nil]
theorem flatten_take_le {α:Type} (ls:List (List α)) (k:Nat):(ls.take k).flatten.length≤ls.flatten.length:=by
 have:ls.flatten=(ls.take k).flatten++(ls.drop k).flatten:=by rw [←List.flatten_append,List.take_append_drop]
 rw [this,List.length_append]
 omega
set_option maxHeartbeats 2000000 in
theorem concat_ints (v:Value) (ls:List (List Int)) (w:World) (hv:SliceOf (Rep.slice Rep.int) w.cell? v ls) (hbig:ls.flatten.length≤1099511627776) :
  Calls Tryz.prog 92 #[v] w fun e w'=> ∃v',e = .returned v'∧OwnOf Rep.int w' (fun _=>True) w.heap.size 3 v' ls.flatten∧Ext w w':=by
 obtain⟨i0,hi,hz0,hz1,hz2⟩:=info_parts info_ints
 obtain⟨pa,ca,rfl,ha1,ha2,ha3⟩:=hv.form
 have HV:=Lib.hid hv
 unfold maxLen at ha2
 go_enter Tryz.func92,Tryz.ntmps92
 go_wp2_with fail
 go_loopg [3,11] ls.length (fun gk n i wr=> ∃k m:Nat,k≤ls.length∧gk=ls.length - k∧i = .int .i64 k∧n = .int .i64 m∧m=(ls.take k).flatten.length∧w=wr)
 case atStart=>exact⟨0,0,by omega,rfl,rfl,rfl,by simp,rfl⟩
 case round =>
  obtain⟨k,m,hk,rfl,rfl,rfl,hm,rfl⟩:=hrel
  have hle:=flatten_take_le ls k
  by_cases hlt:k<ls.length
  ·obtain⟨ba,oa,rfl⟩:=ha3 (by decide) (by omega)
   obtain⟨u,c1,s1⟩:=slice_at hv k hlt
   have ht:=flatten_take ls k hlt
   have hle2:=flatten_take_le ls (k+1)
   obtain⟨p1,q1,rfl,hq1,hq2,_⟩:=s1.form
   have hml:(ls.take (k+1)).flatten.length=m+ls[k].length:=by rw [ht,List.length_append,hm]
   rw [hml]at hle2
   rw [←hm]at hle
   generalize ls[k].length=n1 at hml hle2 hq1 c1 s1
   have HL:=Lib.hid hml
   have HM:=Lib.hid hm
   unfold maxLen at hq2
   have hd:decide ((k:Int)<(ls.length:Int))=true:=by simp;omega
   have hd1:(k:Int)<(ls.length:Int):=by omega
   have hd2:decide ((m:Int)+(n1:Int)<0)=false:=by simp;omega
   clear s1 ht hml hm hv ha3
   go_wp2_with fail
   go_roundg (ls.length - (k+1))
   case measure=>omega
   case rel=>exact⟨k+1,m+n1,by omega,rfl,by go_num,by go_num,HL.out.symm,rfl⟩
  ·have:k=ls.length:=by omega
   subst this
   rw [List.take_length]at hm
   have hmb:m≤1099511627776:=by rw [hm];exact hbig
   clear hv hle hm
   have HB:=Lib.hid hbig
   clear hbig
   go_wp2_with fail
   refine(grow_ints (fun _=>True) m _ hmb).mono ?_
   rintro e w1 ⟨v1,rfl,hown,hx⟩
   have HO:=Lib.hid hown
   clear hown
   go_wp2_with fail
   go_loopg [6,27] ls.length (fun gk v i wr=> ∃k:Nat,k≤ls.length∧gk=ls.length - k∧i = .int .i64 k∧OwnOf Rep.int wr (fun _=>True) w.heap.size 3 v (ls.take k).flatten∧Ext w wr)
   case atStart=>exact⟨0,by omega,rfl,rfl,by simpa using HO.out,hx⟩
   case round =>
    clear HO hx
    obtain⟨k,hk,rfl,rfl,hown,hx⟩:=hrel
    by_cases hlt:k<ls.length
    ·obtain⟨ba,oa,rfl⟩:=ha3 (by decide) (by omega)
     obtain⟨u,c1,s1⟩:=slice_at HV.out k hlt
     have ht:=flatten_take ls k hlt
     have hle2:=flatten_take_le ls (k+1)
     have HO:=Lib.hid hown
     have hbg:=Nat.le_trans hle2 HB.out
     rw [ht,List.length_append]at hbg
     have hsub : ∀v',OwnOf Rep.int wr (fun _=>True) w.heap.size 3 v' (ls.take k).flatten→Sub w.cell? (on wr (avoid (fun _=>True) v')):=fun v' ho p u e=>by
      have hlt2:=World.block_lt_of_cell? w p e
      refine on_some.2 ⟨⟨fun he=> ?_,trivial⟩,hx.at e⟩
      have:=(ho.lt _ he.symm).1
      omega
     replace s1:=s1.ext (hsub _ hown)
     replace c1:=hx.at c1
     generalize ls[k]=x at s1 ht hbg
     have HT:=Lib.hid ht
     have HG:=Lib.hid hbg
     have S1:=Lib.hid s1
     obtain⟨p1,q1,rfl,hq1,hq2,_⟩:=s1.form
     have hd:decide ((k:Int)<(ls.length:Int))=true:=by simp;omega
     have hd1:(k:Int)<(ls.length:Int):=by omega
     clear s1 ht hbg hown ha3 hle2 hsub
     go_wp2_with (at_builtin;refine wpList_append_all Rep.int (fun _=>True) rfl _ _ 24 rfl w.heap.size 3 i0 _ 8 Tryz.underlying24 hi hz0 hz1 hz2 rfl (by decide) _ (ls.take k).flatten rfl HO.out _ x rfl S1.out ?c1 ?c2 ?c3 ?_)
     case c1=>have:=HG.out;unfold maxLen;omega
     case c2=>have:=HG.out;omega
     case c3=>exact hx.size
     intro v' w3 hown3 hgr _
     go_wp2_with fail
     go_roundg (ls.length - (k+1))
     case measure=>omega
     case rel=>exact⟨k+1,by omega,rfl,by go_num,by rw [HT.out];exact hown3,Below.grown hx hgr hx.size (fun j hj=>(HO.out.lt j hj).1)⟩
    ·have:k=ls.length:=by omega
     subst this
     rw [List.take_length]at hown
     have HO:=Lib.hid hown
     clear hown ha3
     go_wp2_with fail
     go_ret
     exact⟨_,rfl,HO.out,hx⟩
theorem sort_ints (S:Nat→Prop) (v:Value) (xs:List Int) (w:World) (base:Nat) (e:TypeId) (h:OwnOf Rep.int w S base e v xs) (hn:xs.length<4611686018427387904) :
  Calls Tryz.prog 93 #[v] w fun en w'=>en = .returned (.tuple #[])∧OwnOf Rep.int w' S base e v (xs.mergeSort fun x y=>decide (x≤y))∧w.grownBy w' v.ownBlock:=by
 obtain⟨h1,hr⟩:=h.ints
 by_cases hv:v = .slice none 0 0
 ·subst hv
  have hx:xs.length=0:=by
   rcases h1.2 with ⟨_,h0⟩ | ⟨_,_,_,h0,_⟩
   ·exact h0
   ·cases h0
  have hx:=List.eq_nil_of_length_eq_zero hx
  subst hx
  refine(Tryz.slices_Sort_int_none none 0 w).mono ?_
  rintro en w' ⟨rfl,rfl⟩
  exact⟨rfl,by simpa using h,⟨rfl,rfl,rfl,Nat.le_refl _,fun _ _ _=>rfl⟩⟩
 ·obtain⟨g,cap,rfl,g1,g2,g3,g4,_,hH⟩:=Lib.holds_of_ownsRow h1 hv
  refine(Tryz.slices_Sort_int g 0 cap xs w hH g2 hn).mono ?_
  rintro en w' ⟨rfl,n,os,rfl⟩
  have hp:=List.mergeSort_perm xs fun x y=>decide (x≤y)
  rcases h1.2 with ⟨h0,_⟩ | ⟨g',cap',cur,h0,hb,hg,hm1,hm2,hs,ht⟩
  ·cases h0
  ·injection h0 with e1 e2 e3
   injection e1 with e1
   injection e1 with e1
   subst e1 e3
   have:=ownsRow_sortedI (w:=w) (base:=base) (g:=g) (cap:=cap) (n:=n) (e:=e) (os:=os) (cur:=cur) (ss:=xs) (ts:=xs.mergeSort fun x y=>decide (x≤y)) hp.length_eq hb hg hm1 hm2 hs
   refine⟨rfl,?_,grownBy_sortedI _⟩
   rw [←hp.length_eq]at this ⊢
   exact OwnOf.ofInts S this fun x hx=>hr x (hp.mem_iff.1 hx)
theorem compact_ints (S:Nat→Prop) (v:Value) (xs:List Int) (w:World) (base:Nat) (e:TypeId) (h:OwnOf Rep.int w S base e v xs) :
  Calls Tryz.prog 94 #[v] w fun en w'=> ∃v',en = .returned v'∧OwnOf Rep.int w' S base e v' (Lib.compact xs)∧w.grownBy w' v.ownBlock:=by
 obtain⟨h1,hr⟩:=h.ints
 by_cases hv:v = .slice none 0 0
 ·subst hv
  have hx:xs.length=0:=by
   rcases h1.2 with ⟨_,h0⟩ | ⟨_,_,_,h0,_⟩
   ·exact h0
   ·cases h0
  have hx:=List.eq_nil_of_length_eq_zero hx
  subst hx
  refine(Tryz.slices_Compact_int_empty none 0 w).mono ?_
  rintro en w' ⟨rfl,rfl⟩
  exact⟨_,rfl,by simpa [Lib.compact,Lib.compactUpTo] using h,⟨rfl,rfl,rfl,Nat.le_refl _,fun _ _ _=>rfl⟩⟩
 ·obtain⟨g,cap,rfl,g1,g2,g3,g4,_,hH⟩:=Lib.holds_of_ownsRow h1 hv
  unfold maxLen at g4
  refine(Tryz.slices_Compact_int g 0 cap xs w hH (by omega) g3).mono ?_
  rintro en w' ⟨rfl,q,rfl⟩
  have hle:=Lib.compact_length_le xs
  have:=Lib.ownsRow_putRow (q:=q) (k:=(Lib.compact xs).length) (ys:=Lib.compact xs++List.replicate (xs.length - (Lib.compact xs).length) 0) h1 (by simp;omega) hle
  rw [List.take_left']at this
  ·refine⟨_,rfl,OwnOf.ofInts S this fun x hx=>hr x ?_,?_⟩
   ·have:x∈((Lib.compact xs)):=hx
    unfold Lib.compact Lib.compactUpTo at this
    rw [List.mem_map]at this
    obtain⟨j,hj,rfl⟩:=this
    have hj:=(List.mem_filter.1 hj).1
    rw [List.mem_range]at hj
    rw [getElem!_pos xs.toArray j (by simpa using hj)]
    simp
   ·refine⟨rfl,rfl,rfl,by simp [Sort.ahead],fun k hk hne=> ?_⟩
    have:g≠k:=fun e=>hne (by rw [e];rfl)
    simp [Sort.putRow,Sort.mapBlock,Sort.ahead,Array.getElem?_modify,this]
  ·rfl
set_option maxHeartbeats 1000000 in
theorem merge_lineage (va vb:Value) (l l':List Int) (w:World) (ha:SliceOf Rep.int w.cell? va l) (hb:SliceOf Rep.int w.cell? vb l') (hf:l.length≤1048576) (hf':l'.length≤1048576) :
  Calls Tryz.prog 40 #[va,vb] w fun e w'=> ∃v',e = .returned v'∧SliceOf Rep.int (on w' (since w)) v' (mergeL l l')∧Ext w w':=by
 have HA:=Lib.hid ha
 have HB:=Lib.hid hb
 obtain⟨pa,ca,rfl,_⟩:=ha.form
 obtain⟨pb,cb,rfl,_⟩:=hb.form
 clear ha hb
 go_enter Tryz.func40,Tryz.ntmps40
 go_wp2_with fail
 have hx:=(Ext.refl w).alloc (.cells #[.slice pa l.length ca,.slice pb l'.length cb] 24)
 refine(concat_ints _ [l,l'] _ ⟨[[.slice pa l.length ca],[.slice pb l'.length cb]],⟨⟨_,rfl,HA.out.ext hx.full⟩,⟨_,rfl,HB.out.ext hx.full⟩,trivial⟩,.inr ⟨_,2,rfl,by simp,by simp [maxLen],.inr ⟨_,0,rfl,fun j u hj=> ?_⟩⟩⟩ (by simp;omega)).mono ?_
 ·rw [World.cell?_alloc_at _ _ _ _ rfl]
  simpa using hj
 rintro e w1 ⟨v1,rfl,hown1,hx1⟩
 replace hx:=hx.trans hx1
 simp only [List.flatten_cons,List.flatten_nil,List.append_nil]at hown1
 replace hown1:=hown1.weak (base':=w.heap.size) (fun _ _ h=>h) (by simp)
 have hlen:(l++l').length<4611686018427387904:=by simp;omega
 have H1:=Lib.hid hown1
 clear hx1 hown1
 go_wp2_with fail
 refine(sort_ints _ _ _ _ _ _ H1.out hlen).mono ?_
 rintro e w2 ⟨rfl,hown2,hg2⟩
 have H2:=Lib.hid hown2
 have hx2:=Below.grown hx hg2 hx.size (fun k hk=>(H1.out.lt k hk).1)
 clear hown2 hg2 hx
 go_wp2_with fail
 refine(compact_ints _ _ _ _ _ _ H2.out).mono ?_
 rintro e w3 ⟨v3,rfl,hown3,hg3⟩
 have H3:=Lib.hid hown3
 have hx3:=Below.grown hx2 hg3 hx2.size (fun k hk=>(H2.out.lt k hk).1)
 clear hown3 hg3 hx2
 go_wp2_with fail
 go_ret
 exact⟨_,rfl,H3.out.fresh flat_int,hx3⟩
end Go.Proofs.YtkddkbpoefidpaaGreatDoor
namespace Go.Proofs.YtkddkbpoefidpaaGreatDoor
def AscOf (l xs:List Int):Prop:=l.Pairwise (· < ·)∧(∀x,x∈l↔x∈xs)∧l.length≤xs.length
theorem AscOf.nil:AscOf [] []:=⟨List.Pairwise.nil,by simp,by simp⟩
theorem AscOf.eq {l l':List Int} {xs:List Int} (h:AscOf l xs) (h':AscOf l' xs):l=l':=asc_unique h.1 h'.1 fun x=>by rw [h.2.1,h'.2.1]
theorem AscOf.merge {l a b:List Int} (h:AscOf l (a++b)):l=mergeL a b :=
 asc_unique h.1 (mergeL_law a b).1 fun x=>by rw [h.2.1,(mergeL_law a b).2,List.mem_append]
theorem AscOf.ins {l xs:List Int} (h:AscOf l xs) (x:Int) (k:Nat) (hk:k≤l.length) (h1 : ∀(j:Nat) (hj:j<l.length),j<k→l[j]<x) (h2 : ∀(hj:k<l.length),x<l[k]) :
  AscOf (l.take k ++ [x]++l.drop k) (xs ++ [x]):=by
 obtain⟨hs,hm,hl⟩:=h
 have hlo : ∀y∈l.take k,y<x:=by
  intro y hy
  obtain⟨j,hj,rfl⟩:=List.mem_iff_getElem.1 hy
  rw [List.getElem_take]
  simp at hj
  exact h1 j (by omega) (by omega)
 have hhi : ∀y∈l.drop k,x<y:=by
  intro y hy
  obtain⟨j,hj,rfl⟩:=List.mem_iff_getElem.1 hy
  rw [List.getElem_drop]
  simp at hj
  have hk':k<l.length:=by omega
  have h3:=h2 hk'
  by_cases h0:j=0
  ·subst h0;exact h3
  ·have:=List.pairwise_iff_getElem.1 hs k (k+j) hk' (by omega) (by omega)
   omega
 refine⟨?_,fun y=> ?_,by simp;omega⟩
 ·rw [List.pairwise_append,List.pairwise_append]
  refine⟨⟨hs.take,List.pairwise_singleton _ _,fun y hy z hz=> ?_⟩,hs.drop,fun y hy z hz=> ?_⟩
  ·rw [List.mem_singleton.1 hz];exact hlo y hy
  ·rcases List.mem_append.1 hy with hy | hy
   ·exact Int.lt_trans (hlo y hy) (hhi z hz)
   ·rw [List.mem_singleton.1 hy];exact hhi z hz
 ·have:y∈l↔y∈l.take k∨y∈l.drop k:=by rw [←List.mem_append,List.take_append_drop]
  rw [List.mem_append,List.mem_append,List.mem_append,←hm y,this,List.mem_singleton]
  constructor
  ·rintro((h | h) | h)
   ·exact .inl (.inl h)
   ·exact .inr h
   ·exact .inl (.inr h)
  ·rintro((h | h) | h)
   ·exact .inl (.inl h)
   ·exact .inr h
   ·exact .inl (.inr h)
theorem AscOf.old {l xs:List Int} (h:AscOf l xs) (x:Int) (k:Nat) (hk:k<l.length) (hx:l[k]=x):AscOf l (xs ++ [x]):=by
 obtain⟨hs,hm,hl⟩:=h
 refine⟨hs,fun y=> ?_,by simp;omega⟩
 rw [List.mem_append,←hm y,List.mem_singleton]
 constructor
 ·exact fun h=> .inl h
 ·rintro(h | h)
  ·exact h
  ·rw [h,←hx];exact List.getElem_mem _
end Go.Proofs.YtkddkbpoefidpaaGreatDoor
namespace Go.Proofs.YtkddkbpoefidpaaGreatDoor
open Go.RowKit
section
variable {P:Program} {w:World} {o:Oper} {a:Act} {K:Act→World→Prop} {Q:Exit→Act→World→Prop} {E:Prop}
theorem key_op {yd:Nat→Option Bool} (n:Nat) {op:Op} {ty:TypeId} {pos:String} {after:Array Edge} {g:Option (Nat×Bool)} (h:if Region.wanted ⟨some n,op,ty,pos,after,g⟩ yd=true then Oper.wp P ⟨some n,op,ty,pos,after,g⟩ a w K Q else E) :
 if Region.wanted ⟨some n,op,ty,pos,after,g⟩ yd=true then Oper.wp P ⟨some n,op,ty,pos,after,g⟩ a w K Q else E:=h
theorem step_append_all {α:Type} {yd:Nat→Option Bool} (R:Rep α) (S:Nat→Prop) (hgd:o.guard=none) (s x:Operand) (t:TypeId)
  (ho:o.op = .call { callee:= .builtin .append,args:= #[s,x],argTypes:= #[t,t] })
  (base:Nat) (e:TypeId) (i:TypeInfo) (z:Value) (bytes:Nat) (ht:P.underlying t=some (.slice e)) (hi:P.info? e=some i) (hz:i.zero=some z)
  (hsize:i.size=R.size) (hby:i.bytes=bytes) (hzs:z.cells.size=R.size) (hsz:0<R.size)
  (v:Value) (xs:List α) (hs:a.eval s=v) (hown:OwnOf R w S base e v xs)
  (u:Value) (ys:List α) (hx:a.eval x=u) (hy:SliceOf R (on w (avoid S v)) u ys)
  (h63:xs.length+ys.length≤maxLen) (hbytes:(xs.length+ys.length)*bytes≤140737488355328) (hbase:base≤w.heap.size)
  (h : ∀v' w',OwnOf R w' S base e v' (xs++ys)→w.grownBy w' v.ownBlock→(v'.ownBlock=v.ownBlock∨v'.ownBlock=some w.heap.size)→K (a.put o.dst v') w') :
  if Region.wanted o yd=true then Oper.wp P o a w K Q else E:=by
 have hw:Region.wanted o yd=true:=by simp [Region.wanted,hgd]
 rw [if_pos hw]
 obtain⟨css,h1,h2⟩:=hown
 obtain⟨dss,h3,h4⟩:=hy
 rcases h4.src with ⟨rfl,hn,hd⟩ | ⟨ad,cap,rfl,_,_,hc⟩
 ·have hys:ys = []:=List.eq_nil_of_length_eq_zero hn
  subst hys
  have hrun:=run_append_owned_none (P:=P) (w:=w) base t o.type e i R.size ht hi v xs.length css.flatten h2
  unfold Oper.wp
  simp [execOp,ho,resolve,invoke,builtin,hs,hx,hrun,Result.andThen]
  exact h v w (by rw [List.append_nil];exact⟨css,h1,h2⟩) ⟨rfl,rfl,rfl,Nat.le_refl _,fun _ _ _=>rfl⟩ (.inl rfl)
 ·obtain⟨v',w',hr,g1,g2,_,g3⟩:=run_append_own_at (P:=P) w base t o.type e i z R.size bytes ht hi hz hsize hby hzs hsz v xs.length css.flatten h2 ad ys.length cap dss.flatten h3.flat (fun j u hj=>(on_some.1 (hc j u hj)).2) h3.ones h63 hbytes hbase
  unfold Oper.wp execOp
  simp only [ho,resolve,invoke,builtin,Sem.run_bind,Sem.run_pure,Result.andThen_ok,List.map_toArray,List.map_cons,List.map_nil,hs,hx,hr]
  exact h v' w' (OwnOf.pushAll h1 h3 g1 g2 g3) g2 g3
end
theorem Ext.grownNew {a w w':World} {v:Value} (h:Ext a w) (hg:w.grownBy w' v.ownBlock) (hv : ∀k,v.ownBlock=some k→a.heap.size≤k):Ext a w' :=
 Below.grown h hg h.size hv
theorem own_nil (B:Nat) : ∀k,(Value.slice none 0 0).ownBlock=some k→B≤k:=fun k h=>by cases h
theorem OwnOf.base {α:Type} {R:Rep α} {w:World} {S:Nat→Prop} {base:Nat} {e:TypeId} {v:Value} {xs:List α} (h:OwnOf R w S base e v xs) : ∀k,v.ownBlock=some k→base≤k:=fun k hk=>(h.lt k hk).1
theorem all_nil (w:World):Sub w.cell? (on w (avoid (fun _=>True) (.slice none 0 0))):=full_on _ _ fun k _=>⟨by simp [Value.ownBlock],trivial⟩
theorem int_lone (h:View) (b:Nat) (x:Int) (hr : -9223372036854775808≤x∧x≤9223372036854775807) (h0:h ⟨b,0,none⟩=some (.int .i64 x)):SliceOf Rep.int h (.slice (some ⟨b,0,none⟩) 1 1) [x] :=
 ⟨[[.int .i64 x]],⟨⟨rfl,hr⟩,trivial⟩,.inr ⟨_,1,rfl,Nat.le_refl _,by simp [maxLen],.inr ⟨b,0,rfl,fun j u hj=>by
  match j,hj with
  |0,hj=>simp at hj;rw [←hj];exact h0⟩⟩⟩
theorem SliceOf.away {α:Type} {R:Rep α} (hR:R.flat) {w w':World} {v u:Value} {xs:List α} (h:SliceOf R w.cell? v xs) (hx:Ext w w') (hv : ∀k,u.ownBlock=some k→w.heap.size≤k):SliceOf R (on w' (avoid (fun _=>True) u)) v xs:=by
 obtain⟨css,h1,h2⟩:=h
 exact⟨css,h1.flatView hR,h2.sub fun p x e=>on_some.2 ⟨⟨fun e2=>by have:=hv _ e2.symm;have:=World.block_lt_of_cell? w p e;omega,trivial⟩,hx.at e⟩⟩
theorem lone_new {w:World} {v:Value} {x:Int} {xs:List Int} {S:Nat→Prop} {base:Nat} {e T:TypeId} (hr : -9223372036854775808≤x∧x≤9223372036854775807) (own:OwnOf Rep.int w S base e v xs) :
  SliceOf Rep.int (on (w.alloc (.cells #[.int .i64 x] T)) (avoid (fun _=>True) v)) (.slice (some ⟨w.heap.size,0,none⟩) 1 1) [x] :=
 int_lone _ _ x hr (on_some.2 ⟨⟨fun e=>Nat.lt_irrefl _ (own.lt _ e.symm).2,trivial⟩,cells_new w [.int .i64 x] T 0 _ rfl⟩)
theorem lone_old {w w1:World} {v u:Value} {x:Int} {T:TypeId} (hr : -9223372036854775808≤x∧x≤9223372036854775807) (hg:(w.alloc (.cells #[.int .i64 x] T)).drew.grownBy w1 u.ownBlock) (hu:u.ownBlock=none) (hat:v.ownBlock=u.ownBlock∨v.ownBlock=some (w.alloc (.cells #[.int .i64 x] T)).drew.heap.size) :
  SliceOf Rep.int (on w1 (avoid (fun _=>True) v)) (.slice (some ⟨w.heap.size,0,none⟩) 1 1) [x]:=by
 refine int_lone _ _ x hr (on_some.2 ⟨⟨fun e=> ?_,trivial⟩,hg.cell ?_ (by rw [hu];simp)⟩)
 ·rcases hat with hat | hat
  ·rw [hat,hu]at e;simp at e
  ·rw [hat]at e;simp at e
 ·exact(Ext.refl _).drew.at (cells_new w [.int .i64 x] T 0 _ rfl)
theorem slice_lit {α:Type} (R:Rep α) (w:World) (cells:List Value) (T:TypeId) (css:List (List Value)) (xs:List α) (hc:css.flatten=cells) (h:RepAll R (w.alloc (.cells cells.toArray T)).cell? css xs) (hl:xs.length≤maxLen) :
  SliceOf R (w.alloc (.cells cells.toArray T)).cell? (.slice (some ⟨w.heap.size,0,none⟩) xs.length xs.length) xs:=by
 refine⟨css,h,.inr ⟨_,_,rfl,Nat.le_refl _,hl,.inr ⟨_,0,rfl,fun j u hj=> ?_⟩⟩⟩
 rw [World.cell?_alloc_at _ _ _ _ rfl]
 rw [hc]at hj
 simpa using hj
end Go.Proofs.YtkddkbpoefidpaaGreatDoor
